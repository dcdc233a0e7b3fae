/- Texts X152 to X181: lemmas, each with its conditions. -/
import Derived.Test.YtgkpbdkechfgmaaGreatP14
namespace Go.Ex
open Go Go.Sx Go.Proofs
variable{css:List (List Value)}{S:Nat->Prop}{w:World}
def aDf(cs:List Value):Prop:=∃b a n c b2 a2 n2 c2,cs=[.bool b,.slice a n c,.bool b2,.slice a2 n2 c2]
def Af(cs:List Value):Prop:=∃b a n c b2 a2 n2 c2,cs=[.bool b,.slice a n c,.bool b2,.slice a2 n2 c2]∧n<=3∧n2<=3
theorem mY(a:Addr)(m n:Nat):(a.add m).add n=a.add (m+n):=by
 unfold Addr.add;split<;>split<;>simp_all<;>omega
theorem jM.l3{b1 b2:Bool}{a1 a2:Option Addr}{n1 n2 c1 c2:Nat}{a b:Int}(h:jM w S (.agg #[.bool b1,.slice a1 n1 c1,.bool b2,.slice a2 n2 c2]) a b)(hf:Af [.bool b1,.slice a1 n1 c1,.bool b2,.slice a2 n2 c2]):
  eS w S (.agg #[.bool b1,.slice a1 n1 c1,.bool b2,.slice a2 n2 c2]) (ratio a b)∧rl (ratio a b)<=3:=by
 obtain⟨_,_,_,_,_,_,_,_,e,k1,k2⟩:=hf;simp only[List.cons.injEq,Value.slice.injEq,Value.bool.injEq,and_true]at e;obtain⟨rfl,⟨rfl,rfl,rfl⟩,rfl,rfl,rfl,rfl⟩:=e;obtain⟨b1,l1,b2,l2,e,h1,h2⟩:=h;simp only[Value.agg.injEq,Array.mk.injEq,List.cons.injEq,Value.bool.injEq,and_true]at e;obtain⟨rfl,rfl,rfl,rfl⟩:=e;have g1:=h1.short k1;have g2:=h2.short k2;have r1:=g1.ln;have r2:=g2.ln;have hr:=jJ a b;refine⟨⟨_,_,_,_,a,b,rfl,?_,?_,rfl⟩,by omega⟩
 ·obtain⟨ng,ls,i1,i2,i3⟩:=g1;exact⟨ng,ls,i1,i2,by omega⟩
 ·obtain⟨ng,ls,i1,i2,i3⟩:=g2;exact⟨ng,ls,i1,i2,by omega⟩
theorem Gj{v:Value}(hS:Old S w)(hq:jY w S 4 v css.flatten css.length)(hF:∀cs∈css,aDf cs):
  eA PG N.nf #[v] w (eL w fun v' _=>∃d,v'= .bool d∧(d=true->css.length<=80∧∀cs∈css,Af cs)):=by
 have hw:=bR w;have h4:∀cs∈css,cs.length=4:=fun cs hc=>by obtain⟨_,_,_,_,_,_,_,_,rfl⟩:=hF cs hc;rfl
 have hK:fR 4 (fun _ _ cs x=>cs=x) w S v css:=⟨css,hq,rfl,h4,fun j cs x h1 h2=>by rw[h1]at h2;injection h2⟩
 obtain⟨a,c,rfl,hc,hm⟩:=hK.shape;unfold maxLen at hm;refine Cg (by simp) ?_
 refine⟨Nat×World,fun z=>⟨[(0,sV a css.length c),(3,iN z.1)],[],0,[],z.2⟩,fun z=>css.length-z.1,
  fun z=>z.1<=css.length∧dg w.heap.size w z.2∧∀j cs,j<z.1->css[j]? =some cs->Af cs,?_,?_⟩
 ·intro O w' r3;exact⟨(0,w'),⟨aO _,hw.tr r3.cS,fun j cs hj=>absurd hj (Nat.not_lt_zero j)⟩,Sub.gn [] r3⟩
 rintro⟨i,w1⟩ ⟨hi,hw,hE⟩;dsimp only at hi hw hE ⊢;refine dG.mk ?_ ?_<;>intro OW
 ·have OW:i<css.length:=by simpa using OW
  refine dG.mk ?_ ?_<;>intro h80
  ·have h80:css.length<=80:=by have:=aH h80;omega
   obtain⟨cs,Ox⟩:∃cs,css[i]? =some cs:=⟨_,aB OW⟩
   obtain⟨g0,g1,g2,g3,g4,g5,g6,g7,rfl⟩:=hF cs (aD Ox);obtain⟨adx,cs2,Pz,XW,-,Qg⟩:=hK.load (by decide) Ox;subst XW;refine⟨adx,Pz,by omega,.slice g1 g2 g3,fun O w' r=>?_,?_⟩
   ·obtain⟨k1,k2⟩:=Qg 1 _ rfl;rw[aF,cM (w:=w) (w2:=w') (by simp only[dD];exact(hw.tr r.cS).block _ (hS _ k1))];exact k2
   refine dG.mk ?_ ?_<;>intro k3
   ·exact rtn hw fun ρe we re=>⟨_,rfl,fun h=>by cases h⟩
   have k3:=aG k3;refine⟨adx,Pz,by omega,.slice g5 g6 g7,fun O w' r=>?_,?_⟩
   ·obtain⟨k1,k2⟩:=Qg 3 _ rfl;rw[aF,cM (w:=w) (w2:=w') (by simp only[dD];exact(hw.tr r.cS).block _ (hS _ k1))];exact k2
   refine dG.mk ?_ ?_<;>intro k4
   ·exact rtn hw fun ρe we re=>⟨_,rfl,fun h=>by cases h⟩
   have k4:=aG k4;have PE:∀j cs,j<i+1->css[j]? =some cs->Af cs:=fun j cs hj hc=>by
    rcases aP j i with h|h
    ·exact hE j cs h hc
    ·have:j=i:=by omega
     subst this;rw[Ox]at hc;injection hc with hc;subst hc;exact⟨_,_,_,_,_,_,_,_,rfl,by omega,by omega⟩
   refine⟨((i+1:Nat):Int),wo,?_⟩;intro ρ3 w6 r3;exact⟨(i+1,w6),⟨OW,hw.tr r3.cS,PE⟩,Sub.gn [] r3,by dsimp only;omega⟩
  ·have h80:=aG h80;exact rtn hw fun ρe we re=>⟨_,rfl,fun h=>by have:=aH h;omega⟩
 have OW:i=css.length:=aQ hi (by simpa using OW);subst OW;intro ρe we re
 exact⟨_,rfl,hw.tr re.cS,_,rfl,fun h=>⟨by have:=aH h;omega,fun cs hc=>by
  obtain⟨j,hj⟩:=aS hc
  exact hE j cs (aE.1 hj).1 hj⟩⟩
end Go.Ex
namespace Go.Ex
theorem aDo{a b x p q:Rat}(h1:a<x)(h2:x<=b):(p<=q->p<=p+(x-a) / (b-a)*(q-p)∧p+(x-a) / (b-a)*(q-p)<=q)∧(q<=p->q<=p+(x-a) / (b-a)*(q-p)∧p+(x-a) / (b-a)*(q-p)<=p):=by
 have hd:0<b-a:=by grind
 have hi:0<=(b-a)⁻¹:=Rat.le_of_lt (Rat.inv_pos.2 hd);obtain⟨t,ht⟩:∃t,(x-a) / (b-a)=t:=⟨_,rfl⟩
 have t0:0<=t:=by rw[<-ht,bV];exact Rat.mul_nonneg (by grind) hi
 have t1:t<=1:=by
  rw[<-ht,bV,<-Rat.mul_inv_cancel (b-a) (by grind)];exact Rat.mul_le_mul_of_nonneg_right (by grind) hi
 rw[ht];refine⟨fun h=>?_,fun h=>?_⟩
 ·have k1:0<=t*(q-p):=Rat.mul_nonneg t0 (by grind);have k2:t*(q-p)<=1*(q-p):=Rat.mul_le_mul_of_nonneg_right t1 (by grind);grind
 ·have k1:0<=t*(p-q):=Rat.mul_nonneg t0 (by grind);have k2:t*(p-q)<=1*(p-q):=Rat.mul_le_mul_of_nonneg_right t1 (by grind);have k3:t*(q-p)= -(t*(p-q)):=by grind
  grind
end Go.Ex
namespace Go.Ex
open Go Go.Sx Go.Proofs
variable{p:Int×Int×(Int×Int)}{xs:List (Int×Int)}{css:List (List Value)}{cs:List Value}{S:Nat->Prop}{ax:Option Addr}{q:Rat}{v vb vn vs:Value}{w:World}{f:eY}
theorem NF{p:Rat}:rs (p-q)<=0↔p<=q:=by
 rw[<-Int.not_lt,KL,Rat.not_lt]
theorem qT(c b:Int×Int×Rat):hJ c=hJ b↔(c.1=b.1∧c.2.1=b.2.1)∨(c.1=b.2.1∧c.2.1=b.1):=by
 unfold hJ;rw[Prod.mk.injEq];omega
theorem Gk(c b:Int×Int×Rat):j4 c=j4 b↔c.1=b.1∧c.2.1=b.2.1:=by
 unfold j4;rw[Prod.mk.injEq]
section
variable{α β:Type}{L:List α}{K:α->β}{x:β}
theorem nH{k:Nat}{c:α}(hc:L[k]? =some c)(h:K c≠x)(hE:x∈L.map K↔x∈(L.drop k).map K):x∈L.map K↔x∈(L.drop (k+1)).map K:=by
 rw[hE,List.drop_eq_getElem_cons (aE.1 hc).1,(aE.1 hc).2,List.map_cons,List.mem_cons,or_iff_right fun e=>h e.symm]
theorem xf{k:Nat}{c:α}(hc:L[k]? =some c)(h:K c=x):x∈L.map K:=aT.2 ⟨c,aD hc,h⟩
theorem Gl{k:Nat}(hk:L.length<=k)(hE:x∈L.map K↔x∈(L.drop k).map K):x∉L.map K:=fun h=>by
 have:=hE.1 h;rw[List.drop_eq_nil_of_le hk]at this
 cases this
end
theorem yx(n:Int)(an ab aq:Option Addr)(ln cn nb cb nq cq:Nat)(w:World):eA PG N.wh #[.agg #[.slice an ln cn,.slice ab nb cb,.slice aq nq cq],.int .i64 n] w (eL w fun v' _=>∃d,v'= .bool d∧(d=true↔jr ln n)):=by
 have hw:=bR w;refine AK (by simp) ?_;refine dG.mk ?_ ?_<;>intro h1
 ·intro ρe we re;have h1:=aH h1;exact⟨_,rfl,hw.tr re.cS,_,rfl,by rw[decide_eq_true_iff];exact⟨fun h=>⟨h1,h⟩,fun h=>h.2⟩⟩
 ·intro ρe we re;have h1:=aG h1;exact⟨_,rfl,hw.tr re.cS,_,rfl,(fun h=>by cases h),fun h=>absurd h.1 h1⟩
theorem xg(n lo hi:Int)(w:World):eA PG N.zX #[.int .i64 n,.int .i64 lo,.int .i64 hi] w (eL w fun v' _=>∃d,v'= .bool d∧(d=true↔lo<=n∧n<=hi)):=by
 have hw:=bR w;refine Ci (by simp) ?_;refine dG.mk ?_ ?_<;>intro h1
 ·intro ρe we re;have h1:=aH h1;exact⟨_,rfl,hw.tr re.cS,_,rfl,by rw[decide_eq_true_iff];exact⟨fun h=>⟨h1,h⟩,fun h=>h.2⟩⟩
 ·intro ρe we re;have h1:=aG h1;exact⟨_,rfl,hw.tr re.cS,_,rfl,(fun h=>by cases h),fun h=>absurd h.1 h1⟩
theorem qU(hS:Old S w)(hp:eS w S v q):eA PG N.k6 #[v] w (eL w fun v' _=>v'= .int .i64 (rs q)):=by
 obtain⟨a,b,h1,rfl,_,_⟩:=hp.v;exact vO hS h1
set_option maxHeartbeats 2000000 in
theorem s7(hS:Old S w)(hf:dX w S vn vb vs f):eA PG N.zU #[.agg #[vn,vb,vs]] w (eL w fun v' _=>v'= .int .i64 (eP f)):=by
 have hw:=bR w;obtain⟨an,cn,ab,cb,aq,cq,rfl,rfl,rfl,RN,RJ,SF⟩:=hf.shape;refine Cd (by simp) ?_;refine dG.mk ?_ ?_<;>intro h0
 ·have h0:=aH h0;exact rtn hw fun ρe we re=>by show Value.int .i64 _=_;rw[eP,if_pos (by omega)]
 have h0:=aG h0;refine dG.mk ?_ ?_<;>intro h1
 ·have h1:=aH h1;exact rtn hw fun ρe we re=>by show Value.int .i64 _=_;rw[eP,if_pos (by omega)]
 have h1:=aG h1;refine dG.mk ?_ ?_<;>intro h2
 ·have h2:=aH h2;exact rtn hw fun ρe we re=>by show Value.int .i64 _=_;rw[eP,if_pos (by omega)]
 have h2:=aG h2
 refine⟨Nat×World×Iv,fun z=>⟨[(1,pP 0 0),(3,iN z.1)],[(0,.box T.Frame [.v (.slice an f.nodes.length cn),.v (.slice ab f.bars.length cb),.v (.slice aq f.cV.length cq)])],1,z.2.2,z.2.1⟩,fun z=>f.nodes.length-z.1,
  fun z=>z.1<=f.nodes.length∧dg w.heap.size w z.2.1∧fV fW [] f.nodes=fV fW (f.nodes.take z.1) (f.nodes.drop z.1),?_,?_⟩
 ·intro O w' r3;exact⟨(0,w',_),⟨aO _,hw.tr r3.cS,rfl⟩,Sub.gn [] r3⟩
 rintro⟨i,w1,iv⟩ ⟨hi,hw,hE⟩;dsimp only at hi hw hE ⊢;refine dG.mk ?_ ?_<;>intro OW
 ·have OW:i<f.nodes.length:=by simpa using OW
  obtain⟨b,hx⟩:∃b,f.nodes[i]? =some b:=⟨_,aB OW⟩
  have hLl:(f.nodes.take i).length=i:=by rw[aZ];omega
  obtain⟨adb,cs,QA,hF,-,PA⟩:=hf.nodes.load (by decide) hx;have hF:cs=[.int .i64 b.1,.int .i64 b.2.1,.int .i64 b.2.2]:=hF;subst hF;refine⟨adb,QA,by omega,[.int .i64 b.1,.int .i64 b.2.1,.int .i64 b.2.2],rfl,rdO PA hw hS,?_⟩;refine cH (cE hw (fun _ w' v w2=>∃d,v= .bool d∧(d=true↔rA b.1)) (fun O w' r=>xg _ _ _ w') ?_);rintro O Pa v1 PJ Od r he hw h_ ⟨d0,rfl,Ow⟩
  cases d0
  ·have Ow:¬rA b.1:=fun h=>by have:=Ow.2 h;cases this
   exact rtn hw fun ρe we re=>by show Value.int .i64 _=_;rw[eP,aK (by omega),if_pos (by rw[hE,cZ hx (show fW (f.nodes.take i) b=2 by rw[fW,aK (fun h=>Ow h.1)]) (by decide)];decide),hE,cZ hx (show fW (f.nodes.take i) b=2 by rw[fW,aK (fun h=>Ow h.1)]) (by decide)]
  replace Ow:=Ow.1 rfl;refine cH (cE hw (fun _ w' v w2=>∃d,v= .bool d∧(d=true↔rA b.2.1)) (fun O w' r=>xg _ _ _ w') ?_);rintro O QR v2 PY Oa r he hw h_ ⟨d1,rfl,PM⟩
  cases d1
  ·have PM:¬rA b.2.1:=fun h=>by have:=PM.2 h;cases this
   exact rtn hw fun ρe we re=>by show Value.int .i64 _=_;rw[eP,aK (by omega),if_pos (by rw[hE,cZ hx (show fW (f.nodes.take i) b=2 by rw[fW,aK (fun h=>PM h.2.1)]) (by decide)];decide),hE,cZ hx (show fW (f.nodes.take i) b=2 by rw[fW,aK (fun h=>PM h.2.1)]) (by decide)]
  replace PM:=PM.1 rfl;refine cH (cE hw (fun _ w' v w2=>∃d,v= .bool d∧(d=true↔rA b.2.2)) (fun O w' r=>xg _ _ _ w') ?_);rintro O Pg v3 Pc Oj r he hw h_ ⟨d2,rfl,QD⟩
  cases d2
  ·have QD:¬rA b.2.2:=fun h=>by have:=QD.2 h;cases this
   exact rtn hw fun ρe we re=>by show Value.int .i64 _=_;rw[eP,aK (by omega),if_pos (by rw[hE,cZ hx (show fW (f.nodes.take i) b=2 by rw[fW,aK (fun h=>QD h.2.2)]) (by decide)];decide),hE,cZ hx (show fW (f.nodes.take i) b=2 by rw[fW,aK (fun h=>QD h.2.2)]) (by decide)]
  replace QD:=QD.1 rfl
  refine⟨Nat×World,fun z=>⟨[(1,pP 0 0),(3,iN i),(4,pP 1 0),(5,iN z.1)],[(1,.box T.Node [.v (.int .i64 b.1),.v (.int .i64 b.2.1),.v (.int .i64 b.2.2)]),(0,.box T.Frame [.v (.slice an f.nodes.length cn),.v (.slice ab f.bars.length cb),.v (.slice aq f.cV.length cq)])],2,Oj,z.2⟩,fun z=>i-z.1,
   fun z=>z.1<=i∧dg w.heap.size w z.2∧(b∈(f.nodes.take i).map id↔b∈((f.nodes.take i).drop z.1).map id),?_,?_⟩
  ·intro O w' r3;exact⟨(0,w'),⟨aO _,hw.tr r3.cS,Iff.rfl⟩,Sub.gn [] r3⟩
  rintro⟨k,w2⟩ ⟨hk,hw,hK⟩;dsimp only at hk hw hK ⊢;refine dG.mk ?_ ?_<;>intro OY
  ·have OY:k<i:=by have:=aH OY;omega
   obtain⟨c,hc⟩:∃c,f.nodes[k]? =some c:=⟨_,aB (by omega)⟩
   have Ts:(f.nodes.take i)[k]? =some c:=by rw[bZ OY];exact hc
   obtain⟨adc,cs2,YG,Rg,-,Tb⟩:=hf.nodes.load (by decide) hc;have Rg:cs2=[.int .i64 c.1,.int .i64 c.2.1,.int .i64 c.2.2]:=Rg;subst Rg;refine cO hτ dZ [.x 0,.x 1,.x 2,.x 3,.x 4,.x 5,.x 6] (by kernel_rfl) (by kernel_rfl) ?_;refine⟨adc,YG,by omega,[.int .i64 c.1,.int .i64 c.2.1,.int .i64 c.2.2],rfl,rdO Tb hw hS,decide (c=b),fun O w o1 o2=>I9 c b w o1 o2,?_⟩;refine dG.mk ?_ ?_<;>intro hd
   ·have hd:c=b:=aH hd;have Rj:b∈f.nodes.take i:=by have:=xf (K:=id) Ts hd;rwa [List.map_id]at this
    exact rtn hw fun ρe we re=>by show Value.int .i64 _=_;rw[eP,aK (by omega),if_pos (by rw[hE,cZ hx (show fW (f.nodes.take i) b=12 by rw[fW,if_pos ⟨Ow,PM,QD⟩,if_pos Rj]) (by decide)];decide),hE,cZ hx (show fW (f.nodes.take i) b=12 by rw[fW,if_pos ⟨Ow,PM,QD⟩,if_pos Rj]) (by decide)]
   have hd:c≠b:=aG hd;have RM:=nH (K:=id) Ts hd hK;refine⟨((k+1:Nat):Int),wo,?_⟩;intro ρ3 w6 r3;exact⟨(k+1,w6),⟨OY,hw.tr r3.cS,RM⟩,Sub.gn [] r3,by dsimp only;omega⟩
  have OY:k=i:=by have:=aG OY;omega
  have Qq:=Gl (by rw[hLl];omega) hK;rw[List.map_id]at Qq;rw[iw hx (vM.2 ⟨⟨Ow,PM,QD⟩,Qq⟩)]at hE;refine⟨((i+1:Nat):Int),wo,?_⟩;intro ρ3 w6 r3;exact⟨(i+1,w6,_),⟨OW,hw.tr r3.cS,hE⟩,Sub.gn [] r3,by dsimp only;omega⟩
 have OW:i=f.nodes.length:=aQ hi (by simpa using OW);rw[kE (by omega)]at hE
 refine⟨Nat×World×Iv,fun z=>⟨[(1,pP 0 0),(6,iN z.1)],[(0,.box T.Frame [.v (.slice an f.nodes.length cn),.v (.slice ab f.bars.length cb),.v (.slice aq f.cV.length cq)])],1,z.2.2,z.2.1⟩,fun z=>f.bars.length-z.1,
  fun z=>z.1<=f.bars.length∧dg w.heap.size w z.2.1∧fV (fh f.nodes.length) [] f.bars=fV (fh f.nodes.length) (f.bars.take z.1) (f.bars.drop z.1),?_,?_⟩
 ·intro O w' r3;exact⟨(0,w',_),⟨aO _,hw.tr r3.cS,rfl⟩,Sub.gn [] r3⟩
 rintro⟨i,w1,iv⟩ ⟨hi,hw,PE⟩;dsimp only at hi hw PE ⊢;refine dG.mk ?_ ?_<;>intro OW
 ·have OW:i<f.bars.length:=by simpa using OW
  obtain⟨b,hx⟩:∃b,f.bars[i]? =some b:=⟨_,aB OW⟩
  have hLl:(f.bars.take i).length=i:=by rw[aZ];omega
  obtain⟨adb,cs,QA,hF,-,PA⟩:=hf.bars.load (by decide) hx;obtain⟨g0,g1,g2,g3,g4,g5,g6,g7,rfl,hF⟩:=hF;refine⟨adb,QA,by omega,[.int .i64 b.1,.int .i64 b.2.1,.bool g0,.slice g1 g2 g3,.bool g4,.slice g5 g6 g7],rfl,rdO PA hw hS,?_⟩;refine cH (cE hw (fun _ w' v w2=>∃d,v= .bool d∧(d=true↔jr f.nodes.length b.1)) (fun O w' r=>yx _ _ _ _ _ _ _ _ _ _ w') ?_);rintro O Pa v1 PJ Od r he hw h_ ⟨d0,rfl,Ow⟩
  cases d0
  ·have Ow:¬jr f.nodes.length b.1:=fun h=>by have:=Ow.2 h;cases this
   exact rtn hw fun ρe we re=>by show Value.int .i64 _=_;rw[eP,aK (by omega),aK (by rw[hE];decide),if_pos (by rw[PE,cZ hx (show fh f.nodes.length (f.bars.take i) b=6 by rw[fh,aK (fun h=>Ow h.1)]) (by decide)];decide),PE,cZ hx (show fh f.nodes.length (f.bars.take i) b=6 by rw[fh,aK (fun h=>Ow h.1)]) (by decide)]
  replace Ow:=Ow.1 rfl;refine cH (cE hw (fun _ w' v w2=>∃d,v= .bool d∧(d=true↔jr f.nodes.length b.2.1)) (fun O w' r=>yx _ _ _ _ _ _ _ _ _ _ w') ?_);rintro O QR v2 PY Oa r he hw h_ ⟨d1,rfl,PM⟩
  cases d1
  ·have PM:¬jr f.nodes.length b.2.1:=fun h=>by have:=PM.2 h;cases this
   exact rtn hw fun ρe we re=>by show Value.int .i64 _=_;rw[eP,aK (by omega),aK (by rw[hE];decide),if_pos (by rw[PE,cZ hx (show fh f.nodes.length (f.bars.take i) b=6 by rw[fh,aK (fun h=>PM h.2)]) (by decide)];decide),PE,cZ hx (show fh f.nodes.length (f.bars.take i) b=6 by rw[fh,aK (fun h=>PM h.2)]) (by decide)]
  replace PM:=PM.1 rfl;refine dG.mk ?_ ?_<;>intro Px
  ·have Px:b.1=b.2.1:=by simpa using Px
   exact rtn hw fun ρe we re=>by show Value.int .i64 _=_;rw[eP,aK (by omega),aK (by rw[hE];decide),if_pos (by rw[PE,cZ hx (show fh f.nodes.length (f.bars.take i) b=3 by rw[fh,if_pos ⟨Ow,PM⟩,if_pos Px]) (by decide)];decide),PE,cZ hx (show fh f.nodes.length (f.bars.take i) b=3 by rw[fh,if_pos ⟨Ow,PM⟩,if_pos Px]) (by decide)]
  have Px:b.1≠b.2.1:=by simpa using Px
  refine⟨Nat×World,fun z=>⟨[(1,pP 0 0),(6,iN i),(7,pP 1 0),(8,iN z.1)],[(1,.box T.Bar [.v (.int .i64 b.1),.v (.int .i64 b.2.1),.v (.bool g0),.v (.slice g1 g2 g3),.v (.bool g4),.v (.slice g5 g6 g7)]),(0,.box T.Frame [.v (.slice an f.nodes.length cn),.v (.slice ab f.bars.length cb),.v (.slice aq f.cV.length cq)])],2,Oa,z.2⟩,fun z=>i-z.1,
   fun z=>z.1<=i∧dg w.heap.size w z.2∧(hJ b∈(f.bars.take i).map hJ↔hJ b∈((f.bars.take i).drop z.1).map hJ),?_,?_⟩
  ·intro O w' r3;exact⟨(0,w'),⟨aO _,hw.tr r3.cS,Iff.rfl⟩,Sub.gn [] r3⟩
  rintro⟨k,w2⟩ ⟨hk,hw,hK⟩;dsimp only at hk hw hK ⊢;refine dG.mk ?_ ?_<;>intro OY
  ·have OY:k<i:=by have:=aH OY;omega
   obtain⟨c,hc⟩:∃c,f.bars[k]? =some c:=⟨_,aB (by omega)⟩
   have Ts:(f.bars.take i)[k]? =some c:=by rw[bZ OY];exact hc
   obtain⟨adc,cs2,YG,Rg,-,Tb⟩:=hf.bars.load (by decide) hc;obtain⟨q0,q1,q2,q3,q4,q5,q6,q7,rfl,-⟩:=Rg;refine⟨adc,YG,by omega,[.int .i64 c.1,.int .i64 c.2.1,.bool q0,.slice q1 q2 q3,.bool q4,.slice q5 q6 q7],rfl,rdO Tb hw hS,?_⟩;refine dG.mk ?_ ?_<;>intro e1
   ·have e1:(c.1=b.1):=by simpa using e1
    refine dG.mk ?_ ?_<;>intro e2
    ·have e2:(c.2.1=b.2.1):=by simpa using e2
     have Rj:=xf (K:=hJ) Ts (show hJ c=hJ b by rw[qT];omega);exact rtn hw fun ρe we re=>by show Value.int .i64 _=_;rw[eP,aK (by omega),aK (by rw[hE];decide),if_pos (by rw[PE,cZ hx (show fh f.nodes.length (f.bars.take i) b=5 by rw[fh,if_pos ⟨Ow,PM⟩,aK Px,if_pos Rj]) (by decide)];decide),PE,cZ hx (show fh f.nodes.length (f.bars.take i) b=5 by rw[fh,if_pos ⟨Ow,PM⟩,aK Px,if_pos Rj]) (by decide)]
    ·have e2:¬(c.2.1=b.2.1):=by simpa using e2
     refine dG.mk ?_ ?_<;>intro e3
     ·have e3:(c.1=b.2.1):=by simpa using e3
      refine dG.mk ?_ ?_<;>intro e4
      ·have e4:(c.2.1=b.1):=by simpa using e4
       have Rj:=xf (K:=hJ) Ts (show hJ c=hJ b by rw[qT];omega);exact rtn hw fun ρe we re=>by show Value.int .i64 _=_;rw[eP,aK (by omega),aK (by rw[hE];decide),if_pos (by rw[PE,cZ hx (show fh f.nodes.length (f.bars.take i) b=5 by rw[fh,if_pos ⟨Ow,PM⟩,aK Px,if_pos Rj]) (by decide)];decide),PE,cZ hx (show fh f.nodes.length (f.bars.take i) b=5 by rw[fh,if_pos ⟨Ow,PM⟩,aK Px,if_pos Rj]) (by decide)]
      ·have e4:¬(c.2.1=b.1):=by simpa using e4
       have RM:=nH (K:=hJ) Ts (show hJ c≠hJ b by rw[Ne,qT];omega) hK;refine⟨((k+1:Nat):Int),wo,?_⟩;intro ρ3 w6 r3;exact⟨(k+1,w6),⟨OY,hw.tr r3.cS,RM⟩,Sub.gn [] r3,by dsimp only;omega⟩
     ·have e3:¬(c.1=b.2.1):=by simpa using e3
      have RM:=nH (K:=hJ) Ts (show hJ c≠hJ b by rw[Ne,qT];omega) hK;refine⟨((k+1:Nat):Int),wo,?_⟩;intro ρ3 w6 r3;exact⟨(k+1,w6),⟨OY,hw.tr r3.cS,RM⟩,Sub.gn [] r3,by dsimp only;omega⟩
   ·have e1:¬(c.1=b.1):=by simpa using e1
    refine dG.mk ?_ ?_<;>intro e3
    ·have e3:(c.1=b.2.1):=by simpa using e3
     refine dG.mk ?_ ?_<;>intro e4
     ·have e4:(c.2.1=b.1):=by simpa using e4
      have Rj:=xf (K:=hJ) Ts (show hJ c=hJ b by rw[qT];omega);exact rtn hw fun ρe we re=>by show Value.int .i64 _=_;rw[eP,aK (by omega),aK (by rw[hE];decide),if_pos (by rw[PE,cZ hx (show fh f.nodes.length (f.bars.take i) b=5 by rw[fh,if_pos ⟨Ow,PM⟩,aK Px,if_pos Rj]) (by decide)];decide),PE,cZ hx (show fh f.nodes.length (f.bars.take i) b=5 by rw[fh,if_pos ⟨Ow,PM⟩,aK Px,if_pos Rj]) (by decide)]
     ·have e4:¬(c.2.1=b.1):=by simpa using e4
      have RM:=nH (K:=hJ) Ts (show hJ c≠hJ b by rw[Ne,qT];omega) hK;refine⟨((k+1:Nat):Int),wo,?_⟩;intro ρ3 w6 r3;exact⟨(k+1,w6),⟨OY,hw.tr r3.cS,RM⟩,Sub.gn [] r3,by dsimp only;omega⟩
    ·have e3:¬(c.1=b.2.1):=by simpa using e3
     have RM:=nH (K:=hJ) Ts (show hJ c≠hJ b by rw[Ne,qT];omega) hK;refine⟨((k+1:Nat):Int),wo,?_⟩;intro ρ3 w6 r3;exact⟨(k+1,w6),⟨OY,hw.tr r3.cS,RM⟩,Sub.gn [] r3,by dsimp only;omega⟩
  have OY:k=i:=by have:=aG OY;omega
  have Qq:=Gl (by rw[hLl];omega) hK;refine cH (cE hw (fun _ w' v w2=>v= .int .i64 (rs b.2.2)) (fun O w' r=>(qU (oS hS r) (hF.cJ (kS hw r hS)))) ?_);rintro O Pg v3 Pc Oj r he hw h_ rfl;obtain⟨cf,hcf⟩:∃c,rs b.2.2=c:=⟨_,rfl⟩
  rw[hcf];refine dG.mk ?_ ?_<;>intro PF
  ·have PF:b.2.2<=0:=by have:=aH PF;rw[<-Rat.not_lt,<-j9];omega
   exact rtn hw fun ρe we re=>by show Value.int .i64 _=_;rw[eP,aK (by omega),aK (by rw[hE];decide),if_pos (by rw[PE,cZ hx (show fh f.nodes.length (f.bars.take i) b=2 by rw[fh,if_pos ⟨Ow,PM⟩,aK Px,aK Qq,if_pos PF]) (by decide)];decide),PE,cZ hx (show fh f.nodes.length (f.bars.take i) b=2 by rw[fh,if_pos ⟨Ow,PM⟩,aK Px,aK Qq,if_pos PF]) (by decide)]
  have PF:0<b.2.2:=by have:=aG PF;rw[<-j9];omega
  rw[iw hx (oo.2 ⟨⟨Ow,PM⟩,Px,Qq,PF⟩)]at PE;refine⟨((i+1:Nat):Int),wo,?_⟩;intro ρ3 w6 r3;exact⟨(i+1,w6,_),⟨OW,hw.tr r3.cS,PE⟩,Sub.gn [] r3,by dsimp only;omega⟩
 have OW:i=f.bars.length:=aQ hi (by simpa using OW);rw[kE (by omega)]at PE
 refine⟨Nat×World×Iv,fun z=>⟨[(1,pP 0 0),(10,iN z.1)],[(0,.box T.Frame [.v (.slice an f.nodes.length cn),.v (.slice ab f.bars.length cb),.v (.slice aq f.cV.length cq)])],1,z.2.2,z.2.1⟩,fun z=>f.cV.length-z.1,
  fun z=>z.1<=f.cV.length∧dg w.heap.size w z.2.1∧fV (lg f.nodes.length) [] f.cV=fV (lg f.nodes.length) (f.cV.take z.1) (f.cV.drop z.1),?_,?_⟩
 ·intro O w' r3;exact⟨(0,w',_),⟨aO _,hw.tr r3.cS,rfl⟩,Sub.gn [] r3⟩
 rintro⟨i,w1,iv⟩ ⟨hi,hw,WR⟩;dsimp only at hi hw WR ⊢;refine dG.mk ?_ ?_<;>intro OW
 ·have OW:i<f.cV.length:=by simpa using OW
  obtain⟨b,hx⟩:∃b,f.cV[i]? =some b:=⟨_,aB OW⟩
  have hLl:(f.cV.take i).length=i:=by rw[aZ];omega
  obtain⟨adb,cs,QA,hF,-,PA⟩:=hf.cV.load (by decide) hx;obtain⟨g0,g1,g2,g3,g4,g5,g6,g7,rfl,hF⟩:=hF;refine⟨adb,QA,by omega,[.int .i64 b.1,.int .i64 b.2.1,.bool g0,.slice g1 g2 g3,.bool g4,.slice g5 g6 g7],rfl,rdO PA hw hS,?_⟩;refine cH (cE hw (fun _ w' v w2=>∃d,v= .bool d∧(d=true↔jr f.nodes.length b.1)) (fun O w' r=>yx _ _ _ _ _ _ _ _ _ _ w') ?_);rintro O _ _ _ Od r he hw h_ ⟨d0,rfl,Ow⟩
  cases d0
  ·have Ow:¬jr f.nodes.length b.1:=fun h=>by have:=Ow.2 h;cases this
   exact rtn hw fun ρe we re=>by show Value.int .i64 _=_;rw[eP,aK (by omega),aK (by rw[hE];decide),aK (by rw[PE];decide),WR,cZ hx (show lg f.nodes.length (f.cV.take i) b=6 by rw[lg,aK Ow]) (by decide)]
  replace Ow:=Ow.1 rfl;refine cH (cE hw (fun _ w' v w2=>∃d,v= .bool d∧(d=true↔0<=b.2.1∧b.2.1<=2)) (fun O w' r=>xg _ _ _ w') ?_);rintro O _ _ _ Oa r he hw h_ ⟨d1,rfl,Pz⟩
  cases d1
  ·have Pz:¬(0<=b.2.1∧b.2.1<=2):=fun h=>by have:=Pz.2 h;cases this
   exact rtn hw fun ρe we re=>by show Value.int .i64 _=_;rw[eP,aK (by omega),aK (by rw[hE];decide),aK (by rw[PE];decide),WR,cZ hx (show lg f.nodes.length (f.cV.take i) b=2 by rw[lg,if_pos Ow,aK Pz]) (by decide)]
  replace Pz:=Pz.1 rfl
  refine⟨Nat×World,fun z=>⟨[(1,pP 0 0),(10,iN i),(11,pP 1 0),(12,iN z.1)],[(1,.box T.Ax [.v (.int .i64 b.1),.v (.int .i64 b.2.1),.v (.bool g0),.v (.slice g1 g2 g3),.v (.bool g4),.v (.slice g5 g6 g7)]),(0,.box T.Frame [.v (.slice an f.nodes.length cn),.v (.slice ab f.bars.length cb),.v (.slice aq f.cV.length cq)])],2,Oa,z.2⟩,fun z=>i-z.1,
   fun z=>z.1<=i∧dg w.heap.size w z.2∧(j4 b∈(f.cV.take i).map j4↔j4 b∈((f.cV.take i).drop z.1).map j4),?_,?_⟩
  ·intro O w' r3;exact⟨(0,w'),⟨aO _,hw.tr r3.cS,Iff.rfl⟩,Sub.gn [] r3⟩
  rintro⟨k,w2⟩ ⟨hk,hw,hK⟩;dsimp only at hk hw hK ⊢;refine dG.mk ?_ ?_<;>intro OY
  ·have OY:k<i:=by have:=aH OY;omega
   obtain⟨c,hc⟩:∃c,f.cV[k]? =some c:=⟨_,aB (by omega)⟩
   have Ts:(f.cV.take i)[k]? =some c:=by rw[bZ OY];exact hc
   obtain⟨adc,cs2,YG,Rg,-,Tb⟩:=hf.cV.load (by decide) hc;obtain⟨q0,q1,q2,q3,q4,q5,q6,q7,rfl,-⟩:=Rg;refine cO hτ dZ [.x 0,.x 1,.x 2,.x 3,.x 4,.x 5,.x 6,.x 7,.x 8,.x 9,.x 10,.x 11,.x 12,.x 13,.x 14,.x 15,.x 16,.x 17,.x 18,.x 19] (by kernel_rfl) (by kernel_rfl) ?_;refine⟨adc,YG,by omega,.int .i64 c.1,fun O w' r=>?_,?_⟩
   ·obtain⟨k1,k2⟩:=Tb 0 _ rfl;rw[cM (w:=w) (w2:=w') (by simp only[dD];exact(hw.tr r.cS).block _ (hS _ k1))];simp only[aF,mY]at k2 ⊢;exact k2
   refine dG.mk ?_ ?_<;>intro e1
   ·have e1:(c.1=b.1):=by simpa using e1
    refine⟨adc,YG,by omega,.int .i64 c.2.1,fun O w' r=>?_,?_⟩
    ·obtain⟨k1,k2⟩:=Tb 1 _ rfl;rw[cM (w:=w) (w2:=w') (by simp only[dD];exact(hw.tr r.cS).block _ (hS _ k1))];simp only[aF,mY]at k2 ⊢;exact k2
    refine dG.mk ?_ ?_<;>intro e2
    ·have e2:(c.2.1=b.2.1):=by simpa using e2
     have Rj:=xf (K:=j4) Ts (show j4 c=j4 b by rw[Gk];omega);exact rtn hw fun ρe we re=>by show Value.int .i64 _=_;rw[eP,aK (by omega),aK (by rw[hE];decide),aK (by rw[PE];decide),WR,cZ hx (show lg f.nodes.length (f.cV.take i) b=5 by rw[lg,if_pos Ow,if_pos Pz,if_pos Rj]) (by decide)]
    ·have e2:¬(c.2.1=b.2.1):=by simpa using e2
     have RM:=nH (K:=j4) Ts (show j4 c≠j4 b by rw[Ne,Gk];omega) hK;refine⟨((k+1:Nat):Int),wo,?_⟩;intro ρ3 w6 r3;exact⟨(k+1,w6),⟨OY,hw.tr r3.cS,RM⟩,Sub.gn [] r3,by dsimp only;omega⟩
   ·have e1:¬(c.1=b.1):=by simpa using e1
    have RM:=nH (K:=j4) Ts (show j4 c≠j4 b by rw[Ne,Gk];omega) hK;refine⟨((k+1:Nat):Int),wo,?_⟩;intro ρ3 w6 r3;exact⟨(k+1,w6),⟨OY,hw.tr r3.cS,RM⟩,Sub.gn [] r3,by dsimp only;omega⟩
  have OY:k=i:=by have:=aG OY;omega
  have Qq:=Gl (by rw[hLl];omega) hK;refine cH (cE hw (fun _ w' v w2=>v= .int .i64 (rs b.2.2)) (fun O w' r=>(qU (oS hS r) (hF.cJ (kS hw r hS)))) ?_);rintro O _ _ _ Oj r he hw h_ rfl;obtain⟨cf,hcf⟩:∃c,rs b.2.2=c:=⟨_,rfl⟩
  rw[hcf];refine dG.mk ?_ ?_<;>intro PF
  ·have PF:b.2.2<0:=by have:=aH PF;rw[<-nG];omega
   exact rtn hw fun ρe we re=>by show Value.int .i64 _=_;rw[eP,aK (by omega),aK (by rw[hE];decide),aK (by rw[PE];decide),WR,cZ hx (show lg f.nodes.length (f.cV.take i) b=2 by rw[lg,if_pos Ow,if_pos Pz,aK Qq,if_pos PF]) (by decide)]
  have PF:0<=b.2.2:=by have:=aG PF;rw[<-Rat.not_lt,<-nG];omega
  rw[iw hx (tL.2 ⟨Ow,Pz,Qq,PF⟩)]at WR;refine⟨((i+1:Nat):Int),wo,?_⟩;intro ρ3 w6 r3;exact⟨(i+1,w6,_),⟨OW,hw.tr r3.cS,WR⟩,Sub.gn [] r3,by dsimp only;omega⟩
 have OW:i=f.cV.length:=aQ hi (by simpa using OW);rw[kE (by omega)]at WR;exact rtn hw fun ρe we re=>by show Value.int .i64 _=_;rw[eP,aK (by omega),aK (by rw[hE];decide),aK (by rw[PE];decide),WR]
def rq(p:Int×Int):Rat:=ratio p.1 p.2
structure KM where
 nodes:List (Int×Int×Int)
 bars:List (Int×Int×(Int×Int))
 cV:List (Int×Int×(Int×Int))
def KN(p:Int×Int×(Int×Int)):Int×Int×Rat:=(p.1,p.2.1,rq p.2.2)
def KM.val(f:KM):eY:=⟨f.nodes,f.bars.map KN,f.cV.map KN⟩
def xh(w:World)(S:Nat->Prop)(cs:List Value)(p:Int×Int×(Int×Int)):Prop:=∃b a n c b2 a2 n2 c2,cs=[.int .i64 p.1,.int .i64 p.2.1,.bool b,.slice a n c,.bool b2,.slice a2 n2 c2]∧jM w S (.agg #[.bool b,.slice a n c,.bool b2,.slice a2 n2 c2]) p.2.2.1 p.2.2.2
structure s8(w:World)(S:Nat->Prop)(vn vb vs:Value)(f:KM):Prop where
 nodes:oX w S vn f.nodes
 bars:fR 6 xh w S vb f.bars
 cV:fR 6 xh w S vs f.cV
theorem xh.cJ{w2:World}(h:xh w S cs p)(hk:∀g,S g->w2.heap[g]? =w.heap[g]?):xh w2 S cs p:=by
 obtain⟨b,a,n,c,b2,a2,n2,c2,h1,h2⟩:=h;exact⟨b,a,n,c,b2,a2,n2,c2,h1,h2.cJ hk⟩
theorem s8.cJ{w2:World}{f:KM}(h:s8 w S vn vb vs f)(hk:∀g,S g->w2.heap[g]? =w.heap[g]?):s8 w2 S vn vb vs f:=
 ⟨fR.cJ (w:=w) (fun _ _ h=>h) h.nodes hk,fR.cJ (fun _ _ h=>h.cJ hk) h.bars hk,fR.cJ (fun _ _ h=>h.cJ hk) h.cV hk⟩
theorem xh.few(h:xh w S cs p)(hf:Af (cs.drop 2)):Gd w S cs (KN p)∧rl (KN p).2.2<=3:=by
 obtain⟨b,a,n,c,b2,a2,n2,c2,rfl,h2⟩:=h;obtain⟨h3,h4⟩:=h2.l3 hf;exact⟨⟨b,a,n,c,b2,a2,n2,c2,rfl,h3⟩,h4⟩
theorem fR.cells{α:Type}{k:Nat}{P:World->(Nat->Prop)->List Value->α->Prop}{xs:List α}(h:fR k P w S v xs):
  ∃css:List (List Value),css.length=xs.length∧fR k (fun w S cs (y:List Value×α)=>cs=y.1∧P w S cs y.2) w S v (css.zip xs)∧(∀(j:Nat) cs x,css[j]? =some cs->xs[j]? =some x->P w S cs x)∧
   ∀{β:Type} (Q:World->(Nat->Prop)->List Value->β->Prop) (ys:List β),ys.length=xs.length->(∀(j:Nat) cs y,css[j]? =some cs->ys[j]? =some y->Q w S cs y)->fR k Q w S v ys:=by
 obtain⟨css,h1,h2,h3,h4⟩:=h;have hz:(css.zip xs).length=xs.length:=by rw[List.length_zip,h2,Nat.min_self]
 refine⟨css,h2,⟨css,by rw[hz];exact h1,by rw[hz,h2],h3,fun j cs y k1 k2=>?_⟩,h4,fun Q ys hl hQ=>⟨css,by rw[hl];exact h1,by rw[hl,h2],h3,hQ⟩⟩;rw[List.getElem?_zip_eq_some]at k2;rw[k1]at k2;exact⟨by injection k2.1,h4 j cs _ k1 k2.2⟩
theorem aC7.of{xs:List (Int×Int×(Int×Int))}(h4:∀(j:Nat) cs x,css[j]? =some cs->xs[j]? =some x->xh w S cs x)
  (hQ:∀{β:Type} (Q:World->(Nat->Prop)->List Value->β->Prop) (ys:List β),ys.length=xs.length->(∀(j:Nat) cs y,css[j]? =some cs->ys[j]? =some y->Q w S cs y)->fR 6 Q w S v ys)
  (hl:css.length=xs.length) (hf:∀j cs,j<xs.length->css[j]? =some cs->Af (cs.drop 2)):aAh w S v (xs.map KN)∧∀b∈xs.map KN,rl b.2.2<=3:=by
 refine⟨hQ Gd _ (aL ..) fun j cs y k1 k2=>?_,fun b hb=>?_⟩
 ·rw[aN]at k2;obtain⟨p,hp,rfl⟩:=Option.map_eq_some_iff.1 k2;exact((h4 j cs p k1 hp).few (hf j cs (aE.1 hp).1 k1)).1
 ·obtain⟨p,hp,rfl⟩:=aT.1 hb;obtain⟨j,hj⟩:=aS hp;have TX:=(aE.1 hj).1;have hc:css[j]? =some css[j]:=aB (by omega);exact((h4 j _ p hc hj).few (hf j _ TX hc)).2
set_option maxHeartbeats 1000000 in
theorem aAm{f:KM}(hS:Old S w)(hf:s8 w S vn vb vs f):eA PG N.r9 #[.agg #[vn,vb,vs]] w (eL w fun v' _=>∃d,v'= .bool d∧
  (d=true->dX w S vn vb vs f.val∧(∀b∈f.val.bars,rl b.2.2<=3)∧(∀b∈f.val.cV,rl b.2.2<=3)∧(eP f.val≠0∨f.val.nodes.length<=4∧f.val.bars.length<=6))):=by
 have hw:=bR w;obtain⟨an,cn,rfl,hcn,RN⟩:=hf.nodes.shape;obtain⟨bcs,QH,hbz,Sk,hbQ⟩:=hf.bars.cells;obtain⟨qcs,Sd,hqz,hq4,hqQ⟩:=hf.cV.cells;obtain⟨ab,cb,rfl,PO,RJ⟩:=hf.bars.shape;obtain⟨aq,cq,rfl,hcq,SF⟩:=hf.cV.shape;refine Cb (by simp) ?_;refine dG.mk ?_ ?_<;>intro h0
 ·exact rtn hw fun ρe we re=>⟨_,rfl,fun h=>by cases h⟩
 have h0:=aG h0;refine dG.mk ?_ ?_<;>intro h1
 ·exact rtn hw fun ρe we re=>⟨_,rfl,fun h=>by cases h⟩
 have h1:=aG h1;refine dG.mk ?_ ?_<;>intro h2
 ·exact rtn hw fun ρe we re=>⟨_,rfl,fun h=>by cases h⟩
 have h2:=aG h2
 refine⟨Nat×World×Iv,fun z=>⟨[(1,pP 0 0),(3,iN z.1)],[(0,.box T.Frame [.v (.slice an f.nodes.length cn),.v (.slice ab f.bars.length cb),.v (.slice aq f.cV.length cq)])],1,z.2.2,z.2.1⟩,fun z=>f.bars.length-z.1,
  fun z=>z.1<=f.bars.length∧dg w.heap.size w z.2.1∧∀(j:Nat) (cs:List Value),j<z.1->bcs[j]? =some cs->Af (cs.drop 2),?_,?_⟩
 ·intro O w' r3;exact⟨(0,w',_),⟨aO _,hw.tr r3.cS,fun j cs hj=>absurd hj (Nat.not_lt_zero j)⟩,Sub.gn [] r3⟩
 rintro⟨i,w1,iv⟩ ⟨hi,hw,hB⟩;dsimp only at hi hw hB ⊢;refine dG.mk ?_ ?_<;>intro OW
 ·have OW:i<f.bars.length:=by simpa using OW
  obtain⟨cs,Ox⟩:∃cs,bcs[i]? =some cs:=⟨_,aB (by omega)⟩
  obtain⟨p,hp⟩:∃p,f.bars[i]? =some p:=⟨_,aB OW⟩
  obtain⟨g0,g1,g2,g3,g4,g5,g6,g7,rfl,-⟩:=Sk i cs p Ox hp;obtain⟨adx,cs2,Pz,⟨XW,-⟩,-,Qg⟩:=hbz.load (by decide) (show (bcs.zip f.bars)[i]? =some (_,p) by rw[List.getElem?_zip_eq_some];exact⟨Ox,hp⟩);have XW:cs2=[.int .i64 p.1,.int .i64 p.2.1,.bool g0,.slice g1 g2 g3,.bool g4,.slice g5 g6 g7]:=XW;subst XW;refine⟨adx,Pz,by omega,[.bool g0,.slice g1 g2 g3,.bool g4,.slice g5 g6 g7],rfl,fun O w' r j u hu=>?_,?_⟩
  ·have WS:=(aE.1 hu).1;obtain⟨k1,k2⟩:=Qg (2+j) u (by rcases j with _|_|_|_|j<;>first|exact hu|(have:j+4<4:=WS;omega));rw[cM (w:=w) (w2:=w') (by simp only[dD];exact(hw.tr r.cS).block _ (hS _ k1))];simp only[aF,mY]at k2 ⊢
   first|exact k2|(rw [<-k2];congr 2;omega)
  refine cH (cE hw (fun _ w' v w2=>∃d,v= .bool d∧(d=true->Af [.bool g0,.slice g1 g2 g3,.bool g4,.slice g5 g6 g7])) (fun O w' r=>(Gj (S:=fun g=>g=(O 1).g) (css:=[[.bool g0,.slice g1 g2 g3,.bool g4,.slice g5 g6 g7]]) (fun g hg=>by subst hg;exact Rel.lt r (id:=1) rfl) (r.qN (id:=1) (sz:=4) (n:=1) rfl rfl (by decide) (by repeat' first|refine List.forall_mem_cons.2 ⟨rfl,?_⟩|exact fun u hu=>absurd hu List.not_mem_nil)) (fun cs hc=>by rw[bE.1 hc];exact⟨_,_,_,_,_,_,_,_,rfl⟩)).mono fun _ _ ⟨v2,e1,e2,d,e3,e4⟩=>⟨v2,e1,e2,d,e3,fun h=>(e4 h).2 _ aI⟩) ?_);rintro O Pa v1 PJ Od r he hw h_ ⟨d2,rfl,QD⟩
  cases d2
  ·exact rtn hw fun ρe we re=>⟨_,rfl,fun h=>by cases h⟩
  have PE:∀j cs,j<i+1->bcs[j]? =some cs->Af (cs.drop 2):=fun j cs hj hc=>by
   rcases aP j i with h|h
   ·exact hB j cs h hc
   ·have:j=i:=by omega
    subst this;rw[Ox]at hc;injection hc with hc;subst hc;exact QD rfl
  refine⟨((i+1:Nat):Int),wo,?_⟩;intro ρ3 w6 r3;exact⟨(i+1,w6,_),⟨OW,hw.tr r3.cS,PE⟩,Sub.gn [] r3,by dsimp only;omega⟩
 have OW:i=f.bars.length:=aQ hi (by simpa using OW);subst OW
 refine⟨Nat×World×Iv,fun z=>⟨[(1,pP 0 0),(4,iN z.1)],[(0,.box T.Frame [.v (.slice an f.nodes.length cn),.v (.slice ab f.bars.length cb),.v (.slice aq f.cV.length cq)])],1,z.2.2,z.2.1⟩,fun z=>f.cV.length-z.1,
  fun z=>z.1<=f.cV.length∧dg w.heap.size w z.2.1∧∀(j:Nat) (cs:List Value),j<z.1->qcs[j]? =some cs->Af (cs.drop 2),?_,?_⟩
 ·intro O w' r3;exact⟨(0,w',_),⟨aO _,hw.tr r3.cS,fun j cs hj=>absurd hj (Nat.not_lt_zero j)⟩,Sub.gn [] r3⟩
 rintro⟨i,w1,iv⟩ ⟨hi,hw,hQ⟩;dsimp only at hi hw hQ ⊢;refine dG.mk ?_ ?_<;>intro OW
 ·have OW:i<f.cV.length:=by simpa using OW
  obtain⟨cs,Ox⟩:∃cs,qcs[i]? =some cs:=⟨_,aB (by omega)⟩
  obtain⟨p,hp⟩:∃p,f.cV[i]? =some p:=⟨_,aB OW⟩
  obtain⟨g0,g1,g2,g3,g4,g5,g6,g7,rfl,-⟩:=hq4 i cs p Ox hp;obtain⟨adx,cs2,Pz,⟨XW,-⟩,-,Qg⟩:=hqz.load (by decide) (show (qcs.zip f.cV)[i]? =some (_,p) by rw[List.getElem?_zip_eq_some];exact⟨Ox,hp⟩);have XW:cs2=[.int .i64 p.1,.int .i64 p.2.1,.bool g0,.slice g1 g2 g3,.bool g4,.slice g5 g6 g7]:=XW;subst XW;refine⟨adx,Pz,by omega,[.bool g0,.slice g1 g2 g3,.bool g4,.slice g5 g6 g7],rfl,fun O w' r j u hu=>?_,?_⟩
  ·have WS:=(aE.1 hu).1;obtain⟨k1,k2⟩:=Qg (2+j) u (by rcases j with _|_|_|_|j<;>first|exact hu|(have:j+4<4:=WS;omega));rw[cM (w:=w) (w2:=w') (by simp only[dD];exact(hw.tr r.cS).block _ (hS _ k1))];simp only[aF,mY]at k2 ⊢
   first|exact k2|(rw [<-k2];congr 2;omega)
  refine cH (cE hw (fun _ w' v w2=>∃d,v= .bool d∧(d=true->Af [.bool g0,.slice g1 g2 g3,.bool g4,.slice g5 g6 g7])) (fun O w' r=>(Gj (S:=fun g=>g=(O 1).g) (css:=[[.bool g0,.slice g1 g2 g3,.bool g4,.slice g5 g6 g7]]) (fun g hg=>by subst hg;exact Rel.lt r (id:=1) rfl) (r.qN (id:=1) (sz:=4) (n:=1) rfl rfl (by decide) (by repeat' first|refine List.forall_mem_cons.2 ⟨rfl,?_⟩|exact fun u hu=>absurd hu List.not_mem_nil)) (fun cs hc=>by rw[bE.1 hc];exact⟨_,_,_,_,_,_,_,_,rfl⟩)).mono fun _ _ ⟨v2,e1,e2,d,e3,e4⟩=>⟨v2,e1,e2,d,e3,fun h=>(e4 h).2 _ aI⟩) ?_);rintro O Pa v1 PJ Od r he hw h_ ⟨d2,rfl,QD⟩
  cases d2
  ·exact rtn hw fun ρe we re=>⟨_,rfl,fun h=>by cases h⟩
  have PE:∀j cs,j<i+1->qcs[j]? =some cs->Af (cs.drop 2):=fun j cs hj hc=>by
   rcases aP j i with h|h
   ·exact hQ j cs h hc
   ·have:j=i:=by omega
    subst this;rw[Ox]at hc;injection hc with hc;subst hc;exact QD rfl
  refine⟨((i+1:Nat):Int),wo,?_⟩;intro ρ3 w6 r3;exact⟨(i+1,w6,_),⟨OW,hw.tr r3.cS,PE⟩,Sub.gn [] r3,by dsimp only;omega⟩
 have OW:i=f.cV.length:=aQ hi (by simpa using OW);subst OW;obtain⟨kb,kb2⟩:=aC7.of Sk hbQ QH hB;obtain⟨kq,kq2⟩:=aC7.of hq4 hqQ Sd hQ;have hR:dX w S (.slice an f.nodes.length cn) (.slice ab f.bars.length cb) (.slice aq f.cV.length cq) f.val:=⟨hf.nodes,kb,kq⟩
 refine cH (cE hw (fun _ w' v w2=>v= .int .i64 (eP f.val)) (fun O w' r=>s7 (oS hS r) (hR.cJ (kS hw r hS))) ?_);rintro O _ _ _ Od r he hw h_ rfl;obtain⟨e,he⟩:∃e,eP f.val=e:=⟨_,rfl⟩
 rw[he];refine dG.mk ?_ ?_<;>intro hd
 ·have hd:e≠0:=by simpa using hd
  exact rtn hw fun ρe we re=>⟨_,rfl,fun _=>⟨hR,kb2,kq2,.inl hd⟩⟩
 have hd:e=0:=by simpa using hd
 refine dG.mk ?_ ?_<;>intro h4
 ·have h4:=aH h4;exact rtn hw fun ρe we re=>⟨_,rfl,fun h=>⟨hR,kb2,kq2,.inr ⟨by show f.nodes.length<=4;omega,by show(f.bars.map KN).length<=6;rw[aL];have:=aH h;omega⟩⟩⟩
 exact rtn hw fun ρe we re=>⟨_,rfl,fun h=>by cases h⟩
theorem aAn(hS:Old S w)(hx:fp w S v xs):
  eA PG N.nf #[v] w (eL w fun v' _=>∃d,v'= .bool d∧(d=true->xs.length<=80∧dB w S v (xs.map rq)∧∀q∈xs.map rq,rl q<=3)):=by
 obtain⟨css,h1,h2,h3,h4⟩:=hx;have hF:∀cs∈css,aDf cs:=fun cs hc=>by
  obtain⟨j,hj⟩:=aS hc;have TX:=(aE.1 hj).1;obtain⟨b,a,n,c,b2,a2,n2,c2,e,_⟩:=h4 j cs _ hj (aB (by omega));exact⟨b,a,n,c,b2,a2,n2,c2,e⟩
 refine(Gj hS (by rw[h2];exact h1) hF).mono fun _ _ ⟨v2,e1,e2,d,e3,e4⟩=>⟨v2,e1,e2,d,e3,fun h=>?_⟩
 obtain⟨k1,k2⟩:=e4 h;have key:∀(j:Nat) cs p,css[j]? =some cs->xs[j]? =some p->mD w S cs (rq p)∧rl (rq p)<=3:=fun j cs p m1 m2=>by
  obtain⟨b,a,n,c,b2,a2,n2,c2,rfl,m3⟩:=h4 j cs p m1 m2;obtain⟨m4,m5⟩:=m3.l3 (k2 _ (aD m1));exact⟨⟨b,a,n,c,b2,a2,n2,c2,rfl,m4⟩,m5⟩
 refine⟨by omega,⟨css,by rw[aL];exact h1,by rw[aL];exact h2,h3,fun j cs q m1 m2=>?_⟩,fun q hq=>?_⟩
 ·rw[aN]at m2;obtain⟨p,hp,rfl⟩:=Option.map_eq_some_iff.1 m2;exact(key j cs p m1 hp).1
 ·obtain⟨p,hp,rfl⟩:=aT.1 hq;obtain⟨j,hj⟩:=aS hp;have TX:=(aE.1 hj).1;exact(key j _ p (aB (by omega)) hj).2
section
variable{xs:List Rat}{l:List (Rat×Rat)}{i:Nat}{x:Rat}{r:Rat×Rat}
end
theorem Gm{n cx:Nat}(hf:dX w S vn vb vs f)(h60:f.bars.length<=60∧f.cV.length<=60):eA PG N.nh #[.agg #[vn,vb,vs],.slice ax n cx] w (eL w fun v' _=>v'= .int .i64 (if n≠f.cols then 11 else 0)):=by
 have hw:=bR w;obtain⟨an,cn,ab,cb,aq,cq,rfl,rfl,rfl,RN,RJ,SF⟩:=hf.shape;unfold maxLen at RJ SF;refine sI (by simp) ?_;refine⟨((f.bars.length+f.cV.length:Nat):Int),wo,?_⟩;refine dG.mk ?_ ?_<;>intro hd
 ·have hd:n≠f.cols:=by intro h;rw[h]at hd;simp[eY.cols]at hd
  exact rtn hw fun ρe we re=>by show Value.int .i64 _=_;rw[if_pos hd]
 have hd:=(show (n:Int)=((f.bars.length+f.cV.length:Nat):Int)from(by simpa using hd))
 replace hd:n=f.cols:=by unfold eY.cols;omega
 exact rtn hw fun ρe we re=>by show Value.int .i64 _=_;rw[aK (by simpa using hd)]
theorem jc(hf:dX w S vn vb vs f)(h60:f.bars.length<=60∧f.cV.length<=60):eA PG N.rZ #[.agg #[vn,vb,vs]] w (eL w fun v' _=>v'= .int .i64 f.cols):=by
 have hw:=bR w;obtain⟨an,cn,ab,cb,aq,cq,rfl,rfl,rfl,RN,RJ,SF⟩:=hf.shape;refine xF (by simp) ?_;refine⟨((f.bars.length+f.cV.length:Nat):Int),wo,?_⟩;exact rtn hw fun ρe we re=>rfl
section
variable{S:Nat->Prop}{w w1 w':World}{H:Hp}{nx:Nat}{iv:Iv}{O:Nat->Sx.eE}
theorem NG{f:KM}(hS:Old S w)(hw:dg w.heap.size w w1)(r:Rel H nx iv w.heap.size w1 O w')(hf:s8 w S vn vb vs f):eA PG N.r9 #[.agg #[vn,vb,vs]] w' (eL w' fun v' _=>∃d,v'= .bool d∧
  (d=true->dX w S vn vb vs f.val∧(∀b∈f.val.bars,rl b.2.2<=3)∧(∀b∈f.val.cV,rl b.2.2<=3)∧(eP f.val≠0∨f.val.nodes.length<=4∧f.val.bars.length<=6))):=
 have hk:∀g,S g->w'.heap[g]? =w.heap[g]? :=fun g hg=>(hw.tr r.cS).block g (hS g hg)
 (aAm (S:=S) (oS hS r) (hf.cJ hk)).mono fun _ _ ⟨v2,e1,e2,d,e3,e4⟩=>⟨v2,e1,e2,d,e3,fun h=>⟨(e4 h).1.cJ fun g hg=>(hk g hg).symm,(e4 h).2⟩⟩
theorem NH(hS:Old S w)(hw:dg w.heap.size w w1)(r:Rel H nx iv w.heap.size w1 O w')(hx:fp w S v xs):
  eA PG N.nf #[v] w' (eL w' fun v' _=>∃d,v'= .bool d∧(d=true->xs.length<=80∧dB w S v (xs.map rq)∧∀q∈xs.map rq,rl q<=3)):=
 have hk:∀g,S g->w'.heap[g]? =w.heap[g]? :=fun g hg=>(hw.tr r.cS).block g (hS g hg)
 (aAn (S:=S) (oS hS r) (hx.cJ hk)).mono fun _ _ ⟨v2,e1,e2,d,e3,e4⟩=>⟨v2,e1,e2,d,e3,fun h=>⟨(e4 h).1,dB.cJ (e4 h).2.1 fun g hg=>(hk g hg).symm,(e4 h).2.2⟩⟩
end
end Go.Ex
namespace Go.Ex
end Go.Ex
namespace Go.Ex
open Go Go.Sx Go.Proofs
variable{b:Int×Int×Rat}{S:Nat->Prop}{f:eY}
theorem NI{n:Nat}(h:n<9223372036854775807):ln n<=2:=by have:=nI (n:=(n:Int)) (by omega) (by omega);rwa [Int.natAbs_natCast]at this
theorem aAp(h:eP f=0)(hb:b∈f.bars):b.1≠b.2.1∧0<b.2.2:=by
 obtain⟨_,_,QC,_⟩:=yO h;obtain⟨k,hk⟩:=aS hb;have:=oo.1 (j5 QC k b hk);exact⟨this.2.1,this.2.2.2⟩
structure aEE{α:Type}(k:Nat)(P:World->(Nat->Prop)->List Value->α->Prop)(w:World)(S:Nat->Prop)(css:List (List Value))(qs:List α):Prop where
 len:css.length=qs.length
 wid:∀cs∈css,cs.length=k
 at_:∀(j:Nat) cs q,css[j]? =some cs->qs[j]? =some q->P w S cs q
section
variable{α:Type}{k:Nat}{P:World->(Nat->Prop)->List Value->α->Prop}{w w2:World}{S S':Nat->Prop}{css:List (List Value)}{qs:List α}
end
theorem GD{n:Int}(h:n.natAbs<9223372036854775807):rl (n:Rat)<=2:=by
 have h2:ln n.natAbs<=2:=NI h;unfold rl;rw[Rat.num_intCast,Rat.den_intCast];have h3:ln 1=1:=by decide
 omega
set_option maxHeartbeats 1000000 in
theorem Dx{w:World}{vn vb vs:Value}{i:Nat}(hS:Old S w)(hf:dX w S vn vb vs f)(Oc:xc f)(hb:f.bars[i]? =some b):
  eA PG N.ow #[.agg #[vn,vb,vs],.int .i64 i] w (eL w fun v' _=>v'= .agg #[.int .i64 ((f.node b.2.1).1-(f.node b.1).1),.int .i64 ((f.node b.2.1).2.1-(f.node b.1).2.1),.int .i64 ((f.node b.2.1).2.2-(f.node b.1).2.2)]):=by
 have hw:=bR w;obtain⟨an,cn,ab,cb,aq,cq,rfl,rfl,rfl,RN,RJ,SF⟩:=hf.shape;obtain⟨VN,Tn,TG⟩:=And.intro Oc.n (And.intro Oc.b Oc.s);have OW:=(aE.1 hb).1;obtain⟨hA,hB⟩:=Oc.Hq b (aD hb);obtain⟨ka,pa,ea,US,hpa,Vh,⟨_,_⟩,⟨_,_⟩,⟨_,_⟩⟩:=Oc.node hA.1 hA.2;obtain⟨kb,pb,eb,OY,TV,S8,⟨_,_⟩,⟨_,_⟩,⟨_,_⟩⟩:=Oc.node hB.1 hB.2;obtain⟨adx,csx,Pz,Qc,-,PS⟩:=hf.bars.load (by decide) hb;obtain⟨g0,g1,g2,g3,g4,g5,g6,g7,rfl,-⟩:=Qc;obtain⟨ada,csa,haa,hPa,-,Qa⟩:=hf.nodes.load (by decide) hpa;obtain⟨adb,csb,QA,hPb,-,PA⟩:=hf.nodes.load (by decide) TV;have hPa:csa=[.int .i64 pa.1,.int .i64 pa.2.1,.int .i64 pa.2.2]:=hPa;have hPb:csb=[.int .i64 pb.1,.int .i64 pb.2.1,.int .i64 pb.2.2]:=hPb;subst hPa hPb;rw[Vh,S8];rw[ea,eb]at PS;refine tc (by simp) ?_;refine ja hτ dZ (.x 0 (.x 2 (.x 4 (.x 10 (.x 12 (.x 14 (.ld 1 12583680 (.ld 3 12583904 (.x 5 (.x 6 (.ld 7 12583680 (.x 8 (.ld 9 12582912 (.ld 11 9175040 (.ld 13 9404416 (.x 15 (.x 16 (.ld 17 9175040 (.x 18 (.ld 19 8388608 (.two 20 (.x 21 (.x 22 (.x 23 .nil))) 21 (.x 20 (.x 22 (.x 23 .nil)))))))))))))))))))))))) (by kernel_rfl) (by kernel_rfl) ?_;refine⟨adx,Pz,by omega,.int .i64 (ka:Int),fun O w' r=>?_,?_⟩
 ·obtain⟨k1,k2⟩:=PS 0 _ rfl;rw[cM (w:=w) (w2:=w') (by simp only[dD];exact(hw.tr r.cS).block _ (hS _ k1))];simp only[aF,mY]at k2 ⊢;exact k2
 refine⟨ada,haa,by omega,[.int .i64 pa.1,.int .i64 pa.2.1,.int .i64 pa.2.2],rfl,rdO Qa hw hS,adx,Pz,by omega,.int .i64 (kb:Int),fun O w' r=>?_,?_⟩
 ·obtain⟨k1,k2⟩:=PS 1 _ rfl;rw[cM (w:=w) (w2:=w') (by simp only[dD];exact(hw.tr r.cS).block _ (hS _ k1))];simp only[aF,mY]at k2 ⊢;exact k2
 refine⟨adb,QA,by omega,[.int .i64 pb.1,.int .i64 pb.2.1,.int .i64 pb.2.2],rfl,rdO PA hw hS,?_,?_⟩
 ·conv=>whnf
  refine⟨[.int .i64 pb.1,.int .i64 pb.2.1,.int .i64 pb.2.2],rfl,rdO PA hw hS,rfl,.int .i64 (kb:Int),fun O w' r=>?_,?_⟩
  ·obtain⟨k1,k2⟩:=PS 1 _ rfl;rw[cM (w:=w) (w2:=w') (by simp only[dD];exact(hw.tr r.cS).block _ (hS _ k1))];simp only[aF,mY]at k2 ⊢;exact k2
  refine⟨rfl,rfl,rfl,[.int .i64 pa.1,.int .i64 pa.2.1,.int .i64 pa.2.2],rfl,rdO Qa hw hS,rfl,.int .i64 (ka:Int),fun O w' r=>?_,?_⟩
  ·obtain⟨k1,k2⟩:=PS 0 _ rfl;rw[cM (w:=w) (w2:=w') (by simp only[dD];exact(hw.tr r.cS).block _ (hS _ k1))];simp only[aF,mY]at k2 ⊢;exact k2
  refine⟨rfl,rfl,rfl,[.int .i64 pb.1,.int .i64 pb.2.1,.int .i64 pb.2.2],rfl,rdO PA hw hS,rfl,.int .i64 (kb:Int),fun O w' r=>?_,?_⟩
  ·obtain⟨k1,k2⟩:=PS 1 _ rfl;rw[cM (w:=w) (w2:=w') (by simp only[dD];exact(hw.tr r.cS).block _ (hS _ k1))];simp only[aF,mY]at k2 ⊢;exact k2
  refine⟨rfl,rfl,rfl,[.int .i64 pa.1,.int .i64 pa.2.1,.int .i64 pa.2.2],rfl,rdO Qa hw hS,rfl,.int .i64 (ka:Int),fun O w' r=>?_,?_⟩
  ·obtain⟨k1,k2⟩:=PS 0 _ rfl;rw[cM (w:=w) (w2:=w') (by simp only[dD];exact(hw.tr r.cS).block _ (hS _ k1))];simp only[aF,mY]at k2 ⊢;exact k2
  refine⟨rfl,rfl,rfl,[.int .i64 pb.1,.int .i64 pb.2.1,.int .i64 pb.2.2],rfl,rdO PA hw hS,rfl,.int .i64 (kb:Int),fun O w' r=>?_,?_⟩
  ·obtain⟨k1,k2⟩:=PS 1 _ rfl;rw[cM (w:=w) (w2:=w') (by simp only[dD];exact(hw.tr r.cS).block _ (hS _ k1))];simp only[aF,mY]at k2 ⊢;exact k2
  refine⟨rfl,rfl,rfl,pb.1-pa.1,wo,pb.2.1-pa.2.1,wo,pb.2.2-pa.2.2,wo,?_⟩;exact rtn hw fun ρe we re=>rfl
 ·conv=>whnf
  refine⟨[.int .i64 pb.1,.int .i64 pb.2.1,.int .i64 pb.2.2],rfl,rdO PA hw hS,rfl,.int .i64 (kb:Int),fun O w' r=>?_,?_⟩
  ·obtain⟨k1,k2⟩:=PS 1 _ rfl;rw[cM (w:=w) (w2:=w') (by simp only[dD];exact(hw.tr r.cS).block _ (hS _ k1))];simp only[aF,mY]at k2 ⊢;exact k2
  refine⟨rfl,rfl,rfl,[.int .i64 pa.1,.int .i64 pa.2.1,.int .i64 pa.2.2],rfl,rdO Qa hw hS,rfl,.int .i64 (ka:Int),fun O w' r=>?_,?_⟩
  ·obtain⟨k1,k2⟩:=PS 0 _ rfl;rw[cM (w:=w) (w2:=w') (by simp only[dD];exact(hw.tr r.cS).block _ (hS _ k1))];simp only[aF,mY]at k2 ⊢;exact k2
  refine⟨rfl,rfl,rfl,[.int .i64 pb.1,.int .i64 pb.2.1,.int .i64 pb.2.2],rfl,rdO PA hw hS,rfl,.int .i64 (kb:Int),fun O w' r=>?_,?_⟩
  ·obtain⟨k1,k2⟩:=PS 1 _ rfl;rw[cM (w:=w) (w2:=w') (by simp only[dD];exact(hw.tr r.cS).block _ (hS _ k1))];simp only[aF,mY]at k2 ⊢;exact k2
  refine⟨rfl,rfl,rfl,[.int .i64 pa.1,.int .i64 pa.2.1,.int .i64 pa.2.2],rfl,rdO Qa hw hS,rfl,.int .i64 (ka:Int),fun O w' r=>?_,?_⟩
  ·obtain⟨k1,k2⟩:=PS 0 _ rfl;rw[cM (w:=w) (w2:=w') (by simp only[dD];exact(hw.tr r.cS).block _ (hS _ k1))];simp only[aF,mY]at k2 ⊢;exact k2
  refine⟨rfl,rfl,rfl,[.int .i64 pb.1,.int .i64 pb.2.1,.int .i64 pb.2.2],rfl,rdO PA hw hS,rfl,.int .i64 (kb:Int),fun O w' r=>?_,?_⟩
  ·obtain⟨k1,k2⟩:=PS 1 _ rfl;rw[cM (w:=w) (w2:=w') (by simp only[dD];exact(hw.tr r.cS).block _ (hS _ k1))];simp only[aF,mY]at k2 ⊢;exact k2
  refine⟨rfl,rfl,rfl,pb.1-pa.1,wo,pb.2.1-pa.2.1,wo,pb.2.2-pa.2.2,wo,?_⟩;exact rtn hw fun ρe we re=>rfl
section
variable{S S':Nat->Prop}{H:Hp}{nx:Nat}{iv iv':Iv}{B:Nat}{w w' w2:World}{O:Nat->Sx.eE}{v:Value}{l:List (Rat×Rat)}
end
end Go.Ex
namespace Go.Ex
abbrev I3:=Int×Int×Int
def aD0(p:I3):Prop:=rA p.1∧rA p.2.1∧rA p.2.2
instance (p : I3) : Decidable (aD0 p) := by unfold aD0; infer_instance
end Go.Ex
namespace Go.Ex
open Go Go.Sx Go.Proofs
end Go.Ex
namespace Go.Sx
open Go Go.Ex Go.Proofs
variable{vs:List Value}{O:Nat->Sx.eE}
theorem Sub.aDg{B nx:Nat}{l:Env}{H:Hp}{iv:Iv}{w w':World}{t:BT}(id:Nat){bt:Nat}(Pk:dM H id=some (.box bt (vs.map At.v)))(r:Rel H nx iv B w O w')
  (h:Rel ((id,.arr bt vs)::H) nx iv B w O w'->Sx.Sub B l nx O w' t):Sx.Sub B l nx O w' t:=by
 have Wl:=r.nn id _ Pk (by intros;simp) (by simp);have PV:=r.box id bt _ Pk;have Rq:(vs.map At.v).map (At.den O)=vs:=by
  rw[List.map_map];exact List.map_id _
 rw[Rq]at PV
 exact h (r.store (b':=.arr bt vs) (H':=(id,.arr bt vs)::H) (w2:=w') Pk (by simp) Wl (fun j=>by
  rw[dT];by_cases hj:id=j
  ·subst hj;simp
  ·rw[aK hj,aK (fun h=>hj h.symm)]) rfl rfl rfl rfl (fun _ _=>rfl) ⟨Wl,PV⟩ trivial)
end Go.Sx
namespace Go.Ex
open Go Go.Sx Go.Proofs
end Go.Ex
namespace Go.Ex
open Go Go.Sx Go.Proofs
section
variable{S S':Nat->Prop}{H:Hp}{nx:Nat}{iv iv':Iv}{B:Nat}{w w' w2:World}{O:Nat->Sx.eE}{v:Value}{l:List Ld}
end
end Go.Ex
namespace Go.Ex
variable{d:Int}{b:Int×Int×Rat}{M:List (List Rat)}{l x0 φ:List Rat}{K n:Nat}{x y:Nat->Rat}{D:Rat}{f:eY}
theorem wM{a b:Rat}(ha:a≠0)(hb:b≠0):a*b≠0:=fun e=>by
 rcases Rat.mul_eq_zero.1 e with h|h
 ·exact ha h
 ·exact hb h
def Den(K:Nat)(D:Rat)(l:List Rat):Prop:=D≠0∧Ib K D∧∀t,Ib K (D*l.getD t 0)
def Jb(K:Nat)(D:Rat)(M:List (List Rat)):Prop:=D≠0∧Ib K D∧∀k t,Ib K (D*cY M k t)
theorem Den.rl(h:Den K D l):∀q∈l,rl q<=ln K:=fun q hq=>by
 obtain⟨j,hj⟩:=aS hq;have:=tG h.1 h.2.1 (h.2.2 j)
 rwa [List.getD,hj]at this
theorem Jb.rl(h:Jb K D M):∀r∈M,∀q∈r,rl q<=ln K:=fun r hr q hq=>by
 obtain⟨k,hk⟩:=aS hr;obtain⟨j,hj⟩:=aS hq;have:=tG h.1 h.2.1 (h.2.2 k j)
 rwa [cY,show M.getD k []=r by rw[List.getD,hk];rfl,List.getD,hj]at this
theorem jI{t:Nat}(h:l.length<=t):l.getD t 0=0:=by rw[List.getD,List.getElem?_eq_none h];rfl
theorem aBg{k t:Nat}(hM:fq n M)(h:n<=t):cY M k t=0:=by
 rw[cY];rcases aP k M.length with hk|hk
 ·exact jI (by rw[hM.getD hk];exact h)
 ·rw[show M.getD k []=[] by rw[List.getD,List.getElem?_eq_none hk];rfl];rfl
theorem OU{k t:Nat}(h:M.length<=k):cY M k t=0:=by
 rw[cY,show M.getD k []=[] by rw[List.getD,List.getElem?_eq_none h];rfl];rfl
section
variable{M:List (List Rat)}{n B:Nat}{b:List Rat}
theorem LD(hM:fq n M)(hW:Fm M n B)(hB:1<=B){c:Nat}(hc:c<=n):∃D:Rat,D≠0∧Ib (fB B M.length) D∧∀i t,i<(cQ M c).2.length->t<n->Ib (fB B M.length) (D*cY (cQ M c).1 i t):=by
 obtain⟨σ,Z,h⟩:=rT hM hW c hc;have hle:=h.red.2.1;rw[h.len]at hle;have hm:=tF hB hle;exact⟨_,h.Bv.nz,h.Bv.den.mono hm,fun i t hi ht=>(h.Bv.ent hi ht).mono hm⟩
theorem aBh(hM:fq n M)(hW:Fm M n B)(hB:1<=B):∃D,Jb (fB B M.length) D (dC M n):=by
 obtain⟨D,h0,hD,hE⟩:=LD hM hW hB (Nat.le_refl n);obtain⟨r1,r2,r3,r4,r5⟩:=dc hM n (Nat.le_refl _);have RQ:=jA M n;refine⟨D,h0,hD,fun k t=>?_⟩;rcases aP k (dC M n).length with hk|hk
 ·rcases aP t n with ht|ht
  ·have hf:=mj.1 (rP (by rw[<-lZ];exact hk));rw[cY,Bx M n hk];generalize (jm (cQ M n).2 n).getD k 0=c at hf;by_cases hp:t∈(cQ M n).2
   ·obtain⟨j,hj,rfl⟩:=uY hp;rw[pY (F:=gZ (cQ M n).1 (cQ M n).2 n c) (f:=fun i=> -(cY (cQ M n).1 i c)) (fun i=>ij _ _ n c i) (lI _ _ n c) RQ.2.1 r4 _ (Nat.le_refl _) hj,show D* -(cY (cQ M n).1 j c)= -(D*cY (cQ M n).1 j c) by grind];exact(hE j c hj hf.1).neg
   ·rw[rO hp hf.1];split
    ·rw[Rat.mul_one];exact hD
    ·rw[bB];exact Ib.zero _
  ·rw[aBg (ph M n) ht,bB];exact Ib.zero _
 ·rw[OU hk,bB];exact Ib.zero _
theorem Bz{x:List Rat}(hM:fq n M)(hW:Fm (eN M b) (n+1) B)(hB:1<=B)(h:gq M b n=some x):∃D,Den (fB B M.length) D x:=by
 obtain⟨D,h0,hD,hE⟩:=LD (j1 (b:=b) hM) hW hB (Nat.le_succ n);rw[fA]at hD hE;obtain⟨r1,r2,r3,r4,r5⟩:=dc (j1 (b:=b) hM) n (Nat.le_succ _);have RQ:=jA (eN M b) n;unfold gq at h;dsimp only at h;split at h
 ·injection h with h;subst h;refine⟨D,h0,hD,fun t=>?_⟩;by_cases hp:t∈(cQ (eN M b) n).2
  ·obtain⟨j,hj,rfl⟩:=uY hp;rw[pY (F:=iR (cQ (eN M b) n).1 (cQ (eN M b) n).2 n) (f:=fun i=>cY (cQ (eN M b) n).1 i n) (fun i=>il _ _ n i) (lJ _ _ n) RQ.2.1 r4 _ (Nat.le_refl _) hj];exact hE j n hj (by omega)
  ·rw[wD hp,bB];exact Ib.zero _
 ·cases h
end
def mr(φ:List Rat):Nat->Rat
 |0=>1
 |t+1=>mr φ t*((φ.getD t 0).den:Rat)
theorem Hi(φ:List Rat):∀k,mr φ k≠0
 |0=>by show(1:Rat)≠0;decide
 |k+1=>wM (Hi φ k) (by have:=(φ.getD k 0).den_nz;exact_mod_cast this)
theorem CA{φ:List Rat}{B:Nat}(h:∀t,(φ.getD t 0).den<=B):∀k,Ib (B^k) (mr φ k)
 |0=>Ib.one (Nat.le_refl _)
 |k+1=>by
  rw[Nat.pow_succ];exact(CA h k).mul ⟨((φ.getD k 0).den:Int),rfl,by rw[Int.natAbs_natCast];exact h k⟩
theorem Ap(q:Rat):(q.den:Rat)*q=(q.num:Rat):=by
 have h:=Rat.num_divInt_den q;have h0:((q.den:Int):Rat)≠0:=by have:=q.den_nz;exact_mod_cast this
 rw[Rat.divInt_eq_div]at h;have h1:(q.num:Rat) / ((q.den:Int):Rat)*((q.den:Int):Rat)=(q.num:Rat):=Rat.div_mul_cancel h0;rw[h,bl]at h1;exact h1
theorem E8{φ:List Rat}{B:Nat}(h:∀t,(φ.getD t 0).den<=B)(hn:∀t,(φ.getD t 0).num.natAbs<=B)(hB:1<=B):∀k t,t<k->Ib (B^k) (mr φ k*φ.getD t 0)
 |0,t,ht=>by omega
 |k+1,t,ht=>by
  rw[mr,Nat.pow_succ];rcases aP t k with h1|h1
  ·rw[show ∀a b c:Rat,a*b*c=(a*c)*b from fun a b c=>by grind];exact(E8 h hn hB k t h1).mul ⟨((φ.getD k 0).den:Int),rfl,by rw[Int.natAbs_natCast];exact h k⟩
  ·rw[show t=k by omega,Rat.mul_assoc,Ap];exact(CA h k).mul (Ib.int (hn k))
theorem pj{l:Nat}:1<=wt l:=yD l
theorem Hj{q:Rat}{l:Nat}(h:rl q<=l):q.num.natAbs<wt l∧q.den<wt l:=⟨gX.1 (aV (gD q) h),gX.1 (aV (aCt q) h)⟩
theorem OV(l k:Nat):wt l^k=wt (l*k):=by rw[yE,yE,<-Nat.pow_mul,bj]
theorem Hk(hl:φ.length<=n)(h:∀q∈φ,rl q<=3):Den (wt (3*n)) (mr φ n) φ:=by
 have h3:∀t,rl (φ.getD t 0)<=3:=fun t=>by
  rw[List.getD]
  cases ht:φ[t]? with
  |none=>show rl 0<=3;decide
  |some q=>exact h q (aD ht)
 have h1:∀t,(φ.getD t 0).den<=wt 3:=fun t=>Nat.le_of_lt (Hj (h3 t)).2;have h2:∀t,(φ.getD t 0).num.natAbs<=wt 3:=fun t=>Nat.le_of_lt (Hj (h3 t)).1;refine⟨Hi φ n,by rw[<-OV];exact CA h1 n,fun t=>?_⟩;rcases aP t n with ht|ht
 ·rw[<-OV];exact E8 h1 h2 pj n t ht
 ·rw[jI (by omega),bB];exact Ib.zero _
theorem getD_some{α:Type}{l:List α}{i:Nat}{x d:α}(h:l[i]? =some x):l.getD i d=x:=by rw[List.getD,h];rfl
structure Fp(M:List (List Rat))(n:Nat)(φ:Nat->Rat):Prop where
 len:fq n M
 pos:∀t,t<n->0<=φ t
 aD1:∀x:Nat->Rat,(∀j,j<M.length->mulR M n x j=0)->cX (fun t=>φ t*(x t*x t)) n=0->∀t,t<n->x t=0
theorem Hl(M:List (List Rat))(n:Nat)(x y:Nat->Rat)(j:Nat):mulR M n (fun t=>x t+y t) j=mulR M n x j+mulR M n y j:=by
 unfold mulR;rw[<-fa];exact cN fun t _=>by grind
theorem aAB(M:List (List Rat))(n:Nat)(x:Nat->Rat)(c:Rat)(j:Nat):mulR M n (fun t=>c*x t) j=c*mulR M n x j:=by
 unfold mulR;rw[<-eU];exact cN fun t _=>by grind
theorem Hm(M:List (List Rat))(n:Nat)(S:Mx)(c:Nat->Rat)(j s:Nat):mulR M n (fun t=>cX (fun k=>c k*S k t) s) j=cX (fun k=>c k*mulR M n (S k) j) s:=by
 induction s with
 |zero=>exact(cN (g:=fun _=>0) fun t _=>bB _).trans (dW n)
 |succ s ih=>
  show mulR M n (fun t=>cX (fun k=>c k*S k t) s+c s*S s t) j=cX (fun k=>c k*mulR M n (S k) j) s+c s*mulR M n (S s) j;rw[Hl,aAB,ih]
theorem uc(h:∀t,t<n->x t=y t)(j:Nat):mulR M n x j=mulR M n y j:=cN fun t ht=>by rw[h t ht]
def yJ(φ x y:Nat->Rat)(n:Nat):Rat:=cX (fun t=>φ t*(x t*y t)) n
theorem wN(φ x y:Nat->Rat)(n:Nat):yJ φ x y n=yJ φ y x n:=cN fun t _=>by grind
theorem LF(φ x y z:Nat->Rat)(n:Nat):yJ φ x (fun t=>y t+z t) n=yJ φ x y n+yJ φ x z n:=by
 unfold yJ;rw[<-fa];exact cN fun t _=>by grind
theorem wO(φ x:Nat->Rat)(S:Mx)(c:Nat->Rat)(n s:Nat):yJ φ x (fun t=>cX (fun k=>c k*S k t) s) n=cX (fun k=>c k*yJ φ x (S k) n) s:=by
 unfold yJ;rw[cN (g:=fun t=>cX (fun k=>c k*(φ t*(x t*S k t))) s) fun t _=>by rw[<-eU,<-eU];exact cN fun k _=>by grind,kW];exact cN fun k _=>by rw[eU]
theorem yK{φ x' y':Nat->Rat}(h1:∀t,t<n->x t=x' t)(h2:∀t,t<n->y t=y' t):yJ φ x y n=yJ φ x' y' n:=cN fun t ht=>by rw[h1 t ht,h2 t ht]
section
variable{M:List (List Rat)}{n:Nat}{φ:Nat->Rat}{b:List Rat}
def LG(M:List (List Rat))(n:Nat)(φ:Nat->Rat)(i j:Nat):Rat:=yJ φ (cY (dC M n) i) (cY (dC M n) j) n
theorem Fp.aAC(h:Fp M n φ){c:Nat->Rat}(hc:∀i,i<(dC M n).length->cX (fun j=>LG M n φ i j*c j) (dC M n).length=0):∀i,i<(dC M n).length->c i=0:=by
 obtain⟨y,hy⟩:∃y:Nat->Rat,y=fun t=>cX (fun k=>c k*cY (dC M n) k t) (dC M n).length:=⟨_,rfl⟩
 have Ss:∀j,j<M.length->mulR M n y j=0:=fun j hj=>by
  rw[hy,Hm,cN (g:=fun _=>0) fun k hk=>by rw[rU h.len hk j hj,bB],dW]
 have hw:∀i,i<(dC M n).length->yJ φ (cY (dC M n) i) y n=0:=fun i hi=>by
  rw[hy,wO,<-hc i hi];exact cN fun k _=>bl _ _
 have h0:yJ φ y y n=0:=by
  have:yJ φ y y n=cX (fun k=>c k*yJ φ y (cY (dC M n) k) n) (dC M n).length:=by
   rw[<-wO,<-hy]
  rw[this,cN (g:=fun _=>0) fun k hk=>by rw[wN,hw k hk,bB],dW]
 exact Fo (M:=M) fun t ht=>by
  have:=h.aD1 y Ss h0 t ht;rw[hy]at this;exact this
theorem Fp.only(h:Fp M n φ)(hx:∀j,j<M.length->mulR M n x j=0)(hs:∀k,k<(dC M n).length->yJ φ (cY (dC M n) k) x n=0):∀t,t<n->x t=0:=by
 obtain⟨c,hc⟩:=LC h.len hx;have h0:yJ φ x x n=0:=by
  rw[yK (x':=x) (fun _ _=>rfl) hc,wO,cN (g:=fun _=>0) fun k hk=>by rw[wN,hs k hk,bB],dW]
 exact h.aD1 x hx h0
def yL(k:Nat):List Rat:=List.replicate k 0
theorem rV(b:List Rat)(k j:Nat):(b++yL k).getD j 0=b.getD j 0:=by
 unfold yL;rcases aP j b.length with h|h
 ·rw[List.getD,aJ h,<-List.getD]
 ·rw[jI h,List.getD,aM h,List.getElem?_replicate];split<;>rfl
structure mu(M:List (List Rat))(n:Nat)(φ:Nat->Rat)(b x:List Rat):Prop where
 len:x.length=n
 eq:∀j,j<M.length->mulR M n (fun t=>x.getD t 0) j=b.getD j 0
 st:∀k,k<(dC M n).length->yJ φ (cY (dC M n) k) (fun t=>x.getD t 0) n=0
theorem Fp.one(h:Fp M n φ){x y:List Rat}(hx:mu M n φ b x)(hy:mu M n φ b y):x=y:=by
 refine gQ 0 (by rw[hx.len,hy.len]) fun t ht=>?_;rw[hx.len]at ht
 have:=h.only (x:=fun t=>x.getD t 0-y.getD t 0) (fun j hj=>by rw[OR,hx.eq j hj,hy.eq j hj];grind) (fun k hk=>by
  rw[show (fun t=>x.getD t 0-y.getD t 0)=fun t=>x.getD t 0+(-1)*y.getD t 0 from funext fun t=>by grind,LF,hx.st k hk];have h2:=hy.st k hk;unfold yJ at h2 ⊢;rw[cN (f:=fun t=>φ t*(cY (dC M n) k t*(-1*y.getD t 0))) (g:=fun t=>(-1)*(φ t*(cY (dC M n) k t*y.getD t 0))) fun t _=>by grind,eU,h2]
  grind) t ht
 grind
end
theorem Hn(x y:List Rat)(n:Nat):eh x y n=cX (fun t=>x.getD t 0*y.getD t 0) n:=pe x y n
theorem om{a b:List Rat}{t:Nat}(ht:t<a.length):(fm a b).getD t 0=a.getD t 0*b.getD t 0:=by
 have h:=aB ht;rw[getD_some h];exact getD_some (by rw[fm,List.getElem?_mapIdx,h];rfl)
section
variable{M:List (List Rat)}{n:Nat}{fl b:List Rat}
theorem yM(M:List (List Rat))(n:Nat)(fl:List Rat){i j:Nat}(hi:i<(dC M n).length)(hj:j<(dC M n).length):cY (fD (dC M n) fl) i j=LG M n (fun t=>fl.getD t 0) i j:=by
 have hr:=aB hi;have hs:=aB hj;have hl:((dC M n)[i]).length=n:=ph M n _ (a9 hi);have h1:(fD (dC M n) fl)[i]? =some ((dC M n).map fun r=>eh (fm (dC M n)[i] fl) r (dC M n)[i].length):=by rw[fD,aN,hr];rfl
 have h2:((dC M n).map fun r=>eh (fm (dC M n)[i] fl) r (dC M n)[i].length)[j]? =some (eh (fm (dC M n)[i] fl) (dC M n)[j] (dC M n)[i].length):=by rw[aN,hs];rfl
 rw[cY,getD_some h1,getD_some h2,pe,hl];refine cN fun t ht=>?_;rw[om (by omega),cY,cY,getD_some hr,getD_some hs];grind
theorem pn(st:List (List Rat))(fl:List Rat):fq st.length (fD st fl):=fun r hr=>by
 obtain⟨s,hs,rfl⟩:=aT.1 hr;rw[aL]
theorem Ho(M:List (List Rat))(n:Nat)(fl x:List Rat){i:Nat}(hi:i<(dC M n).length):(iL (dC M n) fl x).getD i 0= -(yJ (fun t=>fl.getD t 0) (cY (dC M n) i) (fun t=>x.getD t 0) n):=by
 have hr:=aB hi;have hl:((dC M n)[i]).length=n:=ph M n _ (a9 hi);have h1:(iL (dC M n) fl x)[i]? =some (-(eh (fm (dC M n)[i] fl) x (dC M n)[i].length)):=by rw[iL,aN,hr];rfl
 rw[getD_some h1,pe,hl];congr 1;refine cN fun t ht=>?_;rw[om (by omega),cY,getD_some hr];grind
theorem tJ(st:List (List Rat))(c x:List Rat):∀i,(mn st c x i).length=x.length
 |0=>rfl
 |i+1=>by rw[mn,List.length_mapIdx,tJ st c x i]
theorem CB(st:List (List Rat))(c x:List Rat){t:Nat}(ht:t<x.length):∀i,(mn st c x i).getD t 0=x.getD t 0+cX (fun k=>c.getD k 0*cY st k t) i
 |0=>(bN _).symm
 |i+1=>by
  have hl:t<(mn st c x i).length:=by rw[tJ];exact ht
  have ih:=CB st c x ht i;rw[getD_some (aB hl)]at ih;rw[getD_some (show (mn st c x (i+1))[t]? =some ((mn st c x i)[t]+c.getD i 0*(st.getD i []).getD t 0) by rw[mn,List.getElem?_mapIdx,aB hl];rfl),ih,cX,Rat.add_assoc];rfl
theorem Fp.force(h:Fp M n fun t=>fl.getD t 0)(h0:gq M b n=some x0):∃c,gq (fD (dC M n) fl) (iL (dC M n) fl x0) (dC M n).length=some c∧c.length=(dC M n).length∧
  mu M n (fun t=>fl.getD t 0) b (mn (dC M n) c x0 (dC M n).length):=by
 obtain⟨Sb,RI⟩:=mq h.len h0;have hG:=pn (dC M n) fl;have hGl:(fD (dC M n) fl).length=(dC M n).length:=aL _;have hc:∃c,gq (fD (dC M n) fl) (iL (dC M n) fl x0) (dC M n).length=some c:=by
  cases e:gq (fD (dC M n) fl) (iL (dC M n) fl x0) (dC M n).length with
  |some c=>exact⟨c,rfl⟩
  |none=>
   obtain⟨y,y1,y2⟩:=pg hG e;rw[hGl]at y1 y2;have hy:=h.aAC (c:=y) fun i hi=>Eq.trans (cN fun j hj=>by rw[yM M n fl hj hi,bl];unfold LG;rw[wN]) (y1 i hi);exact absurd (by rw[cN (g:=fun _=>0) fun j hj=>by rw[hy j hj,bC],dW]) y2
 obtain⟨c,hc⟩:=hc;obtain⟨c1,c2⟩:=mq hG hc;refine⟨c,hc,c1,by rw[tJ];exact Sb,fun j hj=>?_,fun k hk=>?_⟩
 ·rw[uc (y:=fun t=>x0.getD t 0+cX (fun k=>c.getD k 0*cY (dC M n) k t) (dC M n).length) fun t ht=>CB _ c x0 (by omega) _,Hl,Hm,RI j hj,cN (g:=fun _=>0) fun k hk=>by rw[rU h.len hk j hj,bB],dW,bN]
 ·rw[yK (x':=cY (dC M n) k) (y':=fun t=>x0.getD t 0+cX (fun k=>c.getD k 0*cY (dC M n) k t) (dC M n).length) (fun _ _=>rfl) fun t ht=>CB _ c x0 (by omega) _,LF,wO];have h2:=c2 k (by omega);rw[Ho M n fl x0 hk]at h2;unfold mulR at h2;rw[cN (g:=fun t=>c.getD t 0*yJ (fun t=>fl.getD t 0) (cY (dC M n) k) (cY (dC M n) t) n) fun t ht=>by rw[yM M n fl hk ht,bl];rfl]at h2;rw[h2];grind
end
def ez(M:List (List Int))(r c:Nat):Int:=(M.getD r []).getD c 0
theorem getD_set_ne{α:Type}{l:List α}{i j:Nat}{x d:α}(h:i≠j):(l.set i x).getD j d=l.getD j d:=by rw[List.getD,aX h,<-List.getD]
theorem j3{α:Type}{l:List α}{i:Nat}{x d:α}(h:i<l.length):(l.set i x).getD i d=x:=by rw[List.getD,aR h];rfl
theorem iT{M:List (List Int)}{r c r' c':Nat}(h:r'≠r∨c'≠c):ez (putAt M r c d) r' c'=ez M r' c':=by
 unfold ez putAt;by_cases h1:r'=r
 ·subst h1;have h2:c≠c':=h.elim (fun h=>absurd rfl h) fun h=>h.symm;rcases aP r' M.length with h3|h3
  ·rw[j3 h3,getD_set_ne h2]
  ·rw[List.set_eq_of_length_le h3]
 ·rw[getD_set_ne (Ne.symm h1)]
theorem wP{M:List (List Int)}{r c:Nat}(hr:r<M.length)(hc:c<(M.getD r []).length):ez (putAt M r c d) r c=d:=by
 unfold ez putAt;rw[j3 hr,j3 hc]
theorem gU(M:List (List Int))(r c:Nat)(d:Int):wJ M r c d=putAt M r c (ez M r c+d):=rfl
theorem jh{i:Nat}(hb:f.bars[i]? =some b):f.bars.getD i (0,0,0)=b:=by rw[List.getD,hb];rfl
theorem tK{f:eY}{M:List (List Int)}{i c r:Nat}(h:c≠i):∀k,ez (e9 f M i k) r c=ez M r c
 |0=>rfl
 |k+1=>by
  rw[e9];rw[gU,iT (.inr h),gU,iT (.inr h)];exact tK h k
theorem l0(f:eY){r c:Nat}:∀i,i<=c->ez (di f i) r c=0
 |0,_=>by
  unfold ez di;rcases aP r (3*f.nodes.length)with h|h
  ·rw[show (List.replicate (3*f.nodes.length) (List.replicate f.cols (0:Int))).getD r []=List.replicate f.cols 0 by rw[List.getD,List.getElem?_replicate,if_pos h];rfl,List.getD,List.getElem?_replicate];split<;>rfl
  ·rw[show (List.replicate (3*f.nodes.length) (List.replicate f.cols (0:Int))).getD r []=[] by rw[List.getD,List.getElem?_replicate,aK (by omega)];rfl];rfl
 |i+1,h=>by rw[di,tK (by omega)];exact l0 f i (by omega)
theorem toNat_add{a:Int}{k ka:Nat}(h:a=ka):(3*a+(k:Int)).toNat=3*ka+k:=by omega
theorem E9{f:eY}{M:List (List Int)}{i r ka kb:Nat}{b:Int×Int×Rat}(hb:f.bars[i]? =some b)(ea:b.1=ka)(eb:b.2.1=kb):∀k,k<=3->k<=r % 3->ez (e9 f M i k) r i=ez M r i
 |0,_,_=>rfl
 |k+1,h3,h=>by
  rw[e9];rw[jh hb,toNat_add ea,toNat_add eb,gU,iT (.inl (by omega)),gU,iT (.inl (by omega))];exact E9 hb ea eb k (by omega) (by omega)
theorem po{i r ka kb k:Nat}(hb:f.bars[i]? =some b)(ea:b.1=ka)(eb:b.2.1=kb)(hk:k<=3)(h:k<=r % 3):ez (e9 f (di f i) i k) r i=0:=by
 rw[E9 hb ea eb k hk h];exact l0 f i (Nat.le_refl _)
theorem uf{f:eY}{r c:Nat}(h:c<f.bars.length):∀k,ez (fT f k) r c=ez (di f f.bars.length) r c
 |0=>rfl
 |k+1=>by
  rw[fT];rw[iT (.inr (by omega))];exact uf h k
theorem zQ{f:eY}{r i:Nat}:∀k,k<=i->ez (fT f k) r (f.bars.length+i)=0
 |0,_=>l0 f _ (by omega)
 |k+1,h=>by
  rw[fT];rw[iT (.inr (by omega))];exact zQ k (by omega)
def dw(s:Int×Int×Rat):Nat:=(3*s.1+s.2.1).toNat
theorem Ea{f:eY}(hw:∀k,∀l∈fT f k,l.length=f.cols)(hlen:∀k,(fT f k).length=3*f.nodes.length)(OX:∀s∈f.cV,dw s<3*f.nodes.length){r i:Nat}{s:Int×Int×Rat}(hs:f.cV[i]? =some s):
  ∀k,i<k->ez (fT f k) r (f.bars.length+i)=if r=dw s then 1 else 0
 |0,h=>by omega
 |k+1,h=>by
  rw[fT];rcases aP i k with h1|h1
  ·rw[iT (.inr (by omega))];exact Ea hw hlen OX hs k h1
  ·have:i=k:=by omega
   subst this;have hg:f.cV.getD i (0,0,0)=s:=by rw[List.getD,hs];rfl
   have Vd:=OX s (aD hs);have hi:=(aE.1 hs).1;rw[hg];by_cases h2:r=dw s
   ·rw[if_pos h2,h2];have hm:dw s<(fT f i).length:=by rw[hlen];exact Vd
    exact wP hm (by
     show f.bars.length+i<((fT f i).getD (dw s) []).length;rw[List.getD,aB hm];show f.bars.length+i<((fT f i)[dw s]).length;rw[hw i _ (a9 hm),eY.cols]
     omega)
   ·rw[aK h2];exact(iT (r:=dw s) (.inl h2)).trans (zQ i (Nat.le_refl _))
end Go.Ex
namespace Go.Ex
open Go Go.Sx Go.Proofs
end Go.Ex
namespace Go.Sx
open Go Go.Ex Go.Proofs
variable{cs:List Value}{O:Nat->Sx.eE}
theorem Rel.KQ{H:Hp}{nx:Nat}{iv:Iv}{B:Nat}{w w':World}(r:Rel H nx iv B w O w'){id t m sz:Nat}(h:dM H id=some (.vec t sz cs))(hm:cs.length=m*sz)(SP:m<=maxLen)(hs:0<sz)(h1:∀u∈cs,u.oneCell'=true):
  jY w' (Cv FF B (jy (O id) iv)) sz ((At.w id m).den O) cs m:=by
 rcases r.fits h with⟨hn,rfl⟩|⟨hn,spare,h2,h3,h4⟩
 ·have UZ:m=0:=by
   rcases bQ m with h|h
   ·exact h
   ·have:=Nat.mul_pos h hs;simp at hm;omega
  subst UZ;have Rq:(At.w id 0).den O= .slice none 0 0:=by simp[At.den,hn]
  rw[Rq];exact⟨aO _,by simp,by simp,none,0,rfl,Nat.le_refl _,fun j u h=>by cases h⟩
 ·have Rq:(At.w id m).den O= .slice (some ⟨(O id).g,0,none⟩) m (O id).cap:=by simp[At.den,hn]
  rw[Rq];have Ol:=r.low id _ h hn;refine⟨SP,hm,h1,_,_,rfl,?_,fun j u hu=>⟨_,rfl,.inr ⟨Ol.1,_,_,HU hn,Nat.le_refl _,bU _⟩,?_⟩⟩
  ·rw[List.length_append,hm]at h3;exact cB (show m*sz<=(O id).cap*sz by omega) hs
  ·rw[dP,cell_of h2,aW,aJ (aE.1 hu).1];exact hu
end Go.Sx
namespace Go.Ex
open Go Go.Sx Go.Proofs
variable{b:Int×Int×Rat}{S:Nat->Prop}{f:eY}
theorem aCF{i k ka kb:Nat}{d:Int}{la lb:List Int}(hb:f.bars[i]? =some b)(ea:b.1=ka)(eb:b.2.1=kb)(QA:ka≠kb)(hk:k<3)(hd:(j2 f b).getD k 0=d)
  (Qa:(e9 f (di f i) i k)[3*ka+k]? =some la) (PA:((e9 f (di f i) i k).set (3*ka+k) (la.set i d))[3*kb+k]? =some lb):
  ((e9 f (di f i) i k).set (3*ka+k) (la.set i d)).set (3*kb+k) (lb.set i (-d))=e9 f (di f i) i (k+1):=by
 have z1:=po (r:=3*ka+k) hb ea eb (show k<=3 by omega) (by omega);have z2:=po (r:=3*kb+k) hb ea eb (show k<=3 by omega) (by omega);have hga:(e9 f (di f i) i k).getD (3*ka+k) []=la:=by rw[List.getD,Qa];rfl
 have hgb:((e9 f (di f i) i k).set (3*ka+k) (la.set i d)).getD (3*kb+k) []=lb:=by rw[List.getD,PA];rfl
 have e1:wJ (e9 f (di f i) i k) (3*ka+k) i d=(e9 f (di f i) i k).set (3*ka+k) (la.set i d):=by
  rw[gU,z1,Int.zero_add,putAt,hga]
 rw[e9];rw[jh hb,hd,toNat_add ea,toNat_add eb,e1,wJ,hgb];have z3:lb.getD i 0=0:=by
  rw[<-hgb,getD_set_ne (show 3*ka+k≠3*kb+k by omega)];exact z2
 rw[z3,Int.zero_add]
set_option maxHeartbeats 2000000 in
theorem FD{w:World}{vn vb vs:Value}(hS:Old S w)(hf:dX w S vn vb vs f)(Om:eP f=0):
  eA PG N.wZ #[.agg #[vn,vb,vs]] w (eL w fun v' w2=>o7 w2 (Nf w w2) v' (iS f)∧JC (iS f) 2000000):=by
 have hw:=bR w;have Oc:=lM Om;obtain⟨an,cn,ab,cb,aq,cq,rfl,rfl,rfl,RN,RJ,SF⟩:=hf.shape;obtain⟨VN,Tn,TG⟩:=And.intro Oc.n (And.intro Oc.b Oc.s);have Pt:f.cols=f.bars.length+f.cV.length:=rfl;obtain⟨m,hm⟩:∃m,3*f.nodes.length=m:=⟨_,rfl⟩
 refine AJ (by simp) ?_
 refine⟨Nat×List Value×World×Iv,fun z=>⟨[(1,pP 0 0),(3,.o (.w 1 z.2.1.length)),(4,iN z.1)],[(1,.vec T.Lint 1 z.2.1),(0,.box T.Frame [.v (.slice an f.nodes.length cn),.v (.slice ab f.bars.length cb),.v (.slice aq f.cV.length cq)])],2,z.2.2.2,z.2.2.1⟩,fun z=>m-z.1,
  fun z=>z.1<=m∧z.2.1.length=z.1∧dg w.heap.size w z.2.2.1∧ig z.2.2.1 w.heap.size z.2.2.2 z.2.1 f.cols (List.replicate z.1 (List.replicate f.cols 0)),?_,?_⟩
 ·intro O w' r3;exact⟨(0,[],w',[]),⟨aO _,rfl,hw.tr r3.cS,ig.nil⟩,Sub.nil 3 T.Lint 1 rfl (by simp[jw,SV.sc,At.sc,fQ]) r3 fun ρ1 r1=>Sub.gn [] r1⟩
 clear hw;rintro⟨i,rv,w1,iv⟩ ⟨hi,Ot,hw,hE⟩;dsimp only at hi Ot hw hE ⊢;refine⟨(m:Int),wo,?_⟩;refine dG.mk ?_ ?_<;>intro OW
 ·have OW:i<m:=by simpa using OW
  refine cH (cE hw (fun _ w' v w2=>v= .int .i64 f.cols) (fun O w' r=>jc (hf.cJ (kS hw r hS)) ⟨Tn,TG⟩) ?_);rintro O _ _ _ Od r he hw h_ rfl;have Vi:=ig.cK hE r he (mC h_);clear r;clear hE;refine⟨f.cols,f.cols,rfl,rfl,Nat.le_refl _,by omega,by omega,?_⟩;refine me hτ (id3:=3) (id2:=2) (tH:=[(1,.vec T.Lint 1 rv),(0,.box T.Frame [.v (.slice an f.nodes.length cn),.v (.slice ab f.bars.length cb),.v (.slice aq f.cV.length cq)])]) rfl rfl rfl rfl (by simp) ⟨rfl,rfl,trivial⟩ rfl rfl (fun O w' r r2 TH=>?_);have hn:=(r.fits (id:=2) rfl).1;have OX:w'.ownsRow 0 T.int 1 (.slice (some ⟨(O 2).g,0,none⟩) f.cols f.cols) f.cols ((List.replicate f.cols (0:Int)).map fun z=>.int .i64 z):=
   ⟨by simp,.inr ⟨(O 2).g,f.cols,(List.replicate f.cols (Value.int .i64 0)).toArray,rfl,aO _,r.arr 2 _ _ rfl,Nat.le_refl _,by unfold maxLen;omega,by simp,by simp⟩⟩
  have PE:=(Vi.rel r).push (gx:=(O 2).g) (l:=List.replicate f.cols 0) (fun g hg e=>Rel.not r (dN _) hg 2 _ rfl hn e.symm) (r.low 2 _ rfl hn).1 (by simp) OX;rw[<-List.replicate_succ']at PE;have hgv:jy (O 2) Od=((O 2).g,(O 2).g+1)::Od:=by unfold jy;rw[hn]
  have Rt:=r.low 3 _ rfl (r.fits (id:=3) rfl).1;have TH:w'.heap[(O 3).g]? =some (.cells #[.slice (some ⟨(O 2).g,0,none⟩) f.cols f.cols] T.Lint (0,0)):=TH;have WR:=PE.mono (iv':=((O 3).g,(O 3).g+1)::((O 2).g,(O 2).g+1)::Od) fun p hp=>aC _ hp;have PI:=hw.tr r.cS;have hC3:Cf w (((O 3).g,(O 3).g+1)::((O 2).g,(O 2).g+1)::Od) (O 3).g:=.inr ⟨Rt.1,_,_,aI,Nat.le_refl _,bU _⟩;rw[hgv];clear Vi hw r OX hn PE hgv r2 Rt;generalize (O 2).g=gx at*
  generalize (O 3).g=gy at*
  generalize (gy,gy+1)::(gx,gx+1)::Od=Oa at*
  refine⟨[.slice (some ⟨gx,0,none⟩) f.cols f.cols],rfl,by simp[Value.oneCell'],fun ρ2 w2 r2 _=>⟨_,rfl,fun j u hu=>?_⟩,?_⟩
  ·have h5:=Rel.same r2 (dN _) hC3;rw[dP,cell_of (h5.trans TH)];rcases j with _|j
   ·exact hu
   ·cases hu
  refine⟨by omega,by omega,by unfold maxLen;omega,((i+1:Nat):Int),wo,?_⟩;intro ρ3 w6 r3;exact⟨(i+1,rv++[.slice (some ⟨gx,0,none⟩) f.cols f.cols],w6,_),⟨OW,by simp[Ot],PI.tr r3.cS,WR.rel r3⟩,Sub.gn [(1,4)] r3 (hE:=⟨rfl,by dsimp only;rw[List.length_append,List.length_singleton];rfl,rfl,trivial⟩),by dsimp only;omega⟩
 have OW:i=m:=aQ hi (by simpa using OW);subst OW;have hE0:ig w1 w.heap.size iv rv f.cols (di f 0):=by rw[di,hm];exact hE
 have XT:JC (di f 0) 2000000:=fun l hl z hz=>by
  rw[di]at hl;rw[ah hl]at hz;rw[ah hz];exact⟨by decide,by decide⟩
 clear hE;rw[Ot]
 refine⟨Nat×World×Iv,fun z=>⟨[(1,pP 0 0),(3,.o (.w 1 i)),(5,iN z.1)],[(1,.vec T.Lint 1 rv),(0,.box T.Frame [.v (.slice an f.nodes.length cn),.v (.slice ab f.bars.length cb),.v (.slice aq f.cV.length cq)])],2,z.2.2,z.2.1⟩,fun z=>f.bars.length-z.1,
  fun z=>z.1<=f.bars.length∧dg w.heap.size w z.2.1∧ig z.2.1 w.heap.size z.2.2 rv f.cols (di f z.1)∧JC (di f z.1) 2000000,?_,?_⟩
 ·intro O w' r3;exact⟨(0,w',_),⟨aO _,hw.tr r3.cS,hE0.rel r3,XT⟩,Sub.gn [] r3⟩
 clear hw hE0 XT hi;rintro⟨j,w2,iv⟩ ⟨hj,hw,hE,PN⟩;dsimp only at hj hw hE PN ⊢;refine dG.mk ?_ ?_<;>intro PQ
 ·have PQ:j<f.bars.length:=by simpa using PQ
  obtain⟨b,hb⟩:∃b,f.bars[j]? =some b:=⟨_,aB PQ⟩
  obtain⟨hA,hB⟩:=Oc.Hq b (aD hb);have OZ:=(aAp Om (aD hb)).1;obtain⟨ka,pa,ea,US,-,Vh,⟨_,_⟩,⟨_,_⟩,⟨_,_⟩⟩:=Oc.node hA.1 hA.2;obtain⟨kb,pb,eb,OY,-,S8,⟨_,_⟩,⟨_,_⟩,⟨_,_⟩⟩:=Oc.node hB.1 hB.2;have QA:ka≠kb:=fun e=>OZ (by rw[ea,eb,e]);obtain⟨adb,cs,WV,hF,-,hlb0⟩:=hf.bars.load (by decide) hb;obtain⟨g0,g1,g2,g3,g4,g5,g6,g7,rfl,hF⟩:=hF;have hbD:j2 f b=[pb.1-pa.1,pb.2.1-pa.2.1,pb.2.2-pa.2.2]:=by rw[j2,Vh,S8]
  refine cH (cE hw (fun _ w' v w2=>v= .agg #[.int .i64 (pb.1-pa.1),.int .i64 (pb.2.1-pa.2.1),.int .i64 (pb.2.2-pa.2.2)]) (fun O w' r=>(Dx (S:=S) (oS hS r) (hf.cJ (kS hw r hS)) Oc hb).mono fun _ _ ⟨v2,e1,e2,e3⟩=>⟨v2,e1,e2,by rw[e3,Vh,S8]⟩) ?_);rintro O _ _ _ Oa r he hw h_ rfl;have Vi:=ig.cK hE r he (mC h_);clear r;clear hE hF;rw[ea,eb]at hlb0;obtain⟨ds,Vk⟩:∃ds:List Value,ds=[.int .i64 (pb.1-pa.1),.int .i64 (pb.2.1-pa.2.1),.int .i64 (pb.2.2-pa.2.2)]:=⟨_,rfl⟩
  refine⟨Nat×World×Iv,fun z=>⟨[(1,pP 0 0),(3,.o (.w 1 i)),(5,iN j),(6,pP 2 0),(7,iN z.1)],[(2,.arr 267 ds),(1,.vec T.Lint 1 rv),(0,.box T.Frame [.v (.slice an f.nodes.length cn),.v (.slice ab f.bars.length cb),.v (.slice aq f.cV.length cq)])],3,z.2.2,z.2.1⟩,fun z=>3-z.1,
   fun z=>z.1<=3∧dg w.heap.size w z.2.1∧ig z.2.1 w.heap.size z.2.2 rv f.cols (e9 f (di f j) j z.1)∧JC (e9 f (di f j) j z.1) 2000000,?_,?_⟩
  ·intro O w' r3;exact⟨(0,w',_),⟨aO _,hw.tr r3.cS,Vi.rel r3,PN⟩,Sub.aDg 2 (vs:=ds) (by rw[Vk];rfl) r3 fun r4=>Sub.gn [] r4⟩
  clear hw Vi PN;rintro⟨k,w3,iv⟩ ⟨hk,hw,hE,PN⟩;dsimp only at hk hw hE PN ⊢;refine dG.mk ?_ ?_<;>intro Tu
  ·have hk3:k<3:=by have:=aH Tu;omega
   obtain⟨d,hd⟩:∃d,(j2 f b).getD k 0=d:=⟨_,rfl⟩
   have hdb: -2000000<=d∧d<=2000000:=by
    rw[<-hd,hbD];rcases(show k=0∨k=1∨k=2 by omega)with rfl|rfl|rfl<;>simp[List.getD]<;>omega
   have hdk:ds[k]? =some (.int .i64 d):=by
    rw[Vk,<-hd,hbD];rcases(show k=0∨k=1∨k=2 by omega)with rfl|rfl|rfl<;>rfl
   have hMl:(e9 f (di f j) j k).length=3*f.nodes.length:=by rw[<-hE.len];have:=hE.len;omega
   obtain⟨la,Qa⟩:∃l,(e9 f (di f j) j k)[3*ka+k]? =some l:=⟨_,aB (by first|omega|(rw [bW];omega))⟩
   have hlaw:=hE.wid la (aD Qa);obtain⟨za,Ww⟩:∃z,la[j]? =some z:=⟨_,aB (by omega)⟩
   obtain⟨va,XU⟩:∃v,rv[3*ka+k]? =some v:=⟨_,aB (by have:=(aE.1 Qa).1;rw[hE.len];exact this)⟩
   obtain⟨aa5,ca5,rfl⟩:=hE.form XU;obtain⟨ada5,Ue,-,-⟩:=hE.load XU Qa Ww;refine cO hτ dZ [.x 0,.x 1,.x 2,.x 3,.x 4,.x 5,.x 6,.x 7,.x 8,.x 9,.x 10,.x 11,.x 12,.x 13,.x 14,.x 15,.x 16,.x 17] (by kernel_rfl) (by kernel_rfl) ?_;refine⟨adb,WV,by omega,.int .i64 (ka:Int),fun O w' r=>?_,?_⟩
   ·obtain⟨k1,k2⟩:=hlb0 0 _ rfl;rw[cM (w:=w) (w2:=w') (by simp only[dD];exact(hw.tr r.cS).block _ (hS _ k1))];simp only[aF,mY]at k2 ⊢;exact k2
   refine⟨((3*ka:Nat):Int),wo,((3*ka+k:Nat):Int),wo,by rw[Ot,aW,aY],by omega,.slice aa5 f.cols ca5,by rw[aF,aY];exact XU,by omega,.int .i64 d,by rw[aW,aF,aY];exact hdk,ada5,Ue,by omega,?_⟩;intro O w' r;obtain⟨g,hg,h1,h2,h3,h4⟩:=hE.store r (z:=d) XU Qa (show j<f.cols by omega);rw[Ue]at hg;injection hg with hg;subst hg;refine⟨h1,h2,h3,fun w5 Qd=>?_⟩;obtain⟨k1,k2,k3,-,-⟩:=h4 w5 Qd;replace hw:=(hw.tr r.cS).tr k2;replace PN:=PN.set (r:=3*ka+k) (c:=j) (z:=d) (t2:=2000000) (by omega) Qa (by omega);replace hE:=k1;clear h1 h2 h3 h4 Qd k1 k2 k3 r Ue;obtain⟨lb,PA⟩:∃l,((e9 f (di f j) j k).set (3*ka+k) (la.set j d))[3*kb+k]? =some l:=⟨_,aB (by first|omega|(rw [bW];omega))⟩
   have hlbw:=hE.wid lb (aD PA);obtain⟨zb,Ud⟩:∃z,lb[j]? =some z:=⟨_,aB (by omega)⟩
   obtain⟨vb,WO⟩:∃v,rv[3*kb+k]? =some v:=⟨_,aB (by have:=(aE.1 PA).1;rw[hE.len];exact this)⟩
   obtain⟨ab5,cb5,rfl⟩:=hE.form WO;obtain⟨adb5,Uf,-,-⟩:=hE.load WO PA Ud;refine cO hτ dZ [.x 0,.x 1,.x 2,.x 3,.x 4,.x 5,.x 6,.x 7,.x 8,.x 9,.x 10,.x 11,.x 12,.x 13,.x 14,.x 15,.x 16,.x 17,.x 18] (by kernel_rfl) (by kernel_rfl) ?_;refine⟨adb,WV,by omega,.int .i64 (kb:Int),fun O w' r=>?_,?_⟩
   ·obtain⟨k1,k2⟩:=hlb0 1 _ rfl;rw[cM (w:=w) (w2:=w') (by simp only[dD];exact(hw.tr r.cS).block _ (hS _ k1))];simp only[aF,mY]at k2 ⊢;exact k2
   refine⟨((3*kb:Nat):Int),wo,((3*kb+k:Nat):Int),wo,by rw[Ot,aW,aY],by omega,.slice ab5 f.cols cb5,by rw[aF,aY];exact WO,by omega,.int .i64 d,by rw[aW,aF,aY];exact hdk,-d,wo,adb5,Uf,by omega,?_⟩;intro O w' r;obtain⟨g,hg,h1,h2,h3,h4⟩:=hE.store r (z:=(-d)) WO PA (show j<f.cols by omega);rw[Uf]at hg;injection hg with hg;subst hg;refine⟨h1,h2,h3,fun w5 Qd=>?_⟩;obtain⟨k1,k2,k3,-,-⟩:=h4 w5 Qd;replace hw:=(hw.tr r.cS).tr k2;replace PN:=PN.set (r:=3*kb+k) (c:=j) (z:=(-d)) (t2:=2000000) (by omega) PA (by omega);replace hE:=k1;clear h1 h2 h3 h4 Qd k1 k2 k3 r Uf;rw[aCF hb ea eb QA hk3 hd Qa PA]at hE PN;refine⟨((k+1:Nat):Int),wo,?_⟩;intro ρ3 w6 r3;exact⟨(k+1,w6,_),⟨hk3,hw.tr r3.cS,hE.rel r3,PN⟩,Sub.gn [] r3,by dsimp only;omega⟩
  have Tu:k=3:=by have:=aG Tu;omega
  subst Tu;refine⟨((j+1:Nat):Int),wo,?_⟩;intro ρ3 w6 r3;exact⟨(j+1,w6,_),⟨PQ,hw.tr r3.cS,hE.rel r3,PN⟩,Sub.gn [] r3,by dsimp only;omega⟩
 have PQ:j=f.bars.length:=aQ hj (by simpa using PQ);subst PQ
 refine⟨Nat×World×Iv,fun z=>⟨[(1,pP 0 0),(3,.o (.w 1 i)),(8,iN z.1)],[(1,.vec T.Lint 1 rv),(0,.box T.Frame [.v (.slice an f.nodes.length cn),.v (.slice ab f.bars.length cb),.v (.slice aq f.cV.length cq)])],2,z.2.2,z.2.1⟩,fun z=>f.cV.length-z.1,
  fun z=>z.1<=f.cV.length∧dg w.heap.size w z.2.1∧ig z.2.1 w.heap.size z.2.2 rv f.cols (fT f z.1)∧JC (fT f z.1) 2000000,?_,?_⟩
 ·intro O w' r3;exact⟨(0,w',_),⟨aO _,hw.tr r3.cS,hE.rel r3,PN⟩,Sub.gn [] r3⟩
 clear hw hE PN hj;rintro⟨j,w2,iv⟩ ⟨hj,hw,hE,PN⟩;dsimp only at hj hw hE PN ⊢;refine dG.mk ?_ ?_<;>intro PQ
 ·have PQ:j<f.cV.length:=by simpa using PQ
  obtain⟨s,hs⟩:∃b,f.cV[j]? =some b:=⟨_,aB PQ⟩
  obtain⟨hA,hB⟩:=Oc.sup s (aD hs);obtain⟨ks,Wx⟩:=Int.eq_ofNat_of_zero_le (show 0<=3*s.1+s.2.1 by omega);have hMl:=pG f j;obtain⟨l,hl⟩:∃l,(fT f j)[ks]? =some l:=⟨_,aB (by omega)⟩
  have hlw:=hE.wid l (aD hl);obtain⟨v,hv⟩:∃v,rv[ks]? =some v:=⟨_,aB (by rw[hE.len];omega)⟩
  obtain⟨a5,c5,rfl⟩:=hE.form hv;obtain⟨z0,Ow⟩:∃z,l[f.bars.length+j]? =some z:=⟨_,aB (by omega)⟩
  obtain⟨ad5,ha5,-,-⟩:=hE.load hv hl Ow;obtain⟨adb,cs,QA,hF,-,PA⟩:=hf.cV.load (by decide) hs;obtain⟨g0,g1,g2,g3,g4,g5,g6,g7,rfl,hF⟩:=hF;refine cO hτ dZ [.x 0,.x 1,.x 2,.x 3,.x 4,.x 5,.x 6,.x 7,.x 8,.x 9,.x 10,.x 11,.x 12,.x 13,.x 14,.x 15,.x 16,.x 17,.x 18,.x 19,.x 20,.x 21,.x 22,.x 23] (by kernel_rfl) (by kernel_rfl) ?_;refine⟨adb,QA,by omega,.int .i64 s.1,fun O w' r=>?_,?_⟩
  ·obtain⟨k1,k2⟩:=PA 0 _ rfl;rw[cM (w:=w) (w2:=w') (by simp only[dD];exact(hw.tr r.cS).block _ (hS _ k1))];simp only[aF,mY]at k2 ⊢;exact k2
  refine⟨3*s.1,wo,adb,QA,by omega,.int .i64 s.2.1,fun O w' r=>?_,?_⟩
  ·obtain⟨k1,k2⟩:=PA 1 _ rfl;rw[cM (w:=w) (w2:=w') (by simp only[dD];exact(hw.tr r.cS).block _ (hS _ k1))];simp only[aF,mY]at k2 ⊢;exact k2
  refine⟨((ks:Nat):Int),wo,by rw[Ot,aY],by omega,.slice a5 f.cols c5,by rw[aF,aY];exact hv,((f.bars.length+j:Nat):Int),wo,ad5,ha5,by omega,?_⟩;intro O w' r;obtain⟨g,hg,h1,h2,h3,h4⟩:=hE.store r (z:=1) hv hl (show f.bars.length+j<f.cols by omega);rw[ha5]at hg;injection hg with hg;subst hg;refine⟨h1,h2,h3,fun w5 Qd=>?_⟩;obtain⟨k1,k2,k3,-,-⟩:=h4 w5 Qd;replace hw:=(hw.tr r.cS).tr k2;have To:=PN.set (r:=ks) (c:=f.bars.length+j) (z:=1) (t2:=2000000) (by omega) hl (by omega);rw[I4 hs Wx hl]at k1 To;clear h1 h2 h3 h4 Qd k2 k3 r hE;refine⟨((j+1:Nat):Int),wo,?_⟩;intro ρ3 w6 r3;exact⟨(j+1,w6,_),⟨PQ,hw.tr r3.cS,k1.rel r3,To⟩,Sub.gn [] r3,by dsimp only;omega⟩
 have PQ:j=f.cV.length:=aQ hj (by simpa using PQ);subst PQ;intro ρe we re;have PE:=hE.rel re;have hMl:=pG f f.cV.length;have RL:=hE.len;refine⟨_,rfl,hw.tr re.cS,⟨rv,?_,hE.len,fun i u x k1 k2=>?_⟩,PN⟩
 ·rw[show (iS f).length=rv.length from hE.len.symm];have h5:=re.gz (id:=1) (sz:=1) (m:=rv.length) rfl (by simp) (by unfold maxLen;omega) (by decide) hE.one;rw[show (i:Nat)=rv.length by omega];exact h5.cL fun g hg=>.inr hg
 ·obtain⟨a,c,rfl⟩:=hE.form k1;have Pr:=hE.wid x (aD k2);refine⟨by rw[Pr];unfold maxLen;omega,by simp,fun v hv=>by obtain⟨z,_,rfl⟩:=aT.1 hv;rfl,a,c,by rw[Pr],?_,fun t v hv=>?_⟩
  ·rw[Pr];obtain⟨a2,c2,e,h⟩:=iX (hE.row i _ x k1 k2);injection e with e1 e2 e3;omega
  ·rw[aN]at hv
   cases ht:x[t]? with
   |none=>rw[ht]at hv;cases hv
   |some z=>
    rw[ht]at hv;simp only[bh,Option.some.injEq]at hv;subst hv;obtain⟨ad,h1,h2,h3⟩:=PE.load k1 k2 ht;exact⟨ad,h1,Cv.nw h2 re,by rw[aY]at h3;exact h3⟩
end Go.Ex
namespace Go.Ex
open Go Go.Sx Go.Proofs
variable{M:List (List Int)}{l:List Int}{xs:List Value}{g:Nat}{S:Nat->Prop}{O:Nat->Sx.eE}{v:Value}{w:World}
theorem xl{i:Nat}{z:Int}(h:l[i]? =some z):dH (l.take (i+1))=dH (l.take i)++[(z:Rat)]:=by rw[dH,List.take_add_one,h,List.map_append];rfl
theorem Gn{B e sz n:Nat}(h:w.ownsRow B e sz v n xs):w.ownsRow 0 e sz v n xs:=⟨h.1,h.2.imp id fun⟨g,cap,cur,e1,_,rest⟩=>⟨g,cap,cur,e1,aO _,rest⟩⟩
theorem Cv.fin{H:Hp}{nx:Nat}{iv:Iv}{w0 w1 w':World}(hg:Cf w0 iv g)(r:Rel H nx iv w0.heap.size w1 O w'):Cf w0 [(w0.heap.size,w'.heap.size)] g:=by
 rcases hg with hg|⟨h1,lo,hi,h2,h3,h4⟩
 ·exact hg.elim
 ·exact .inr ⟨h1,_,_,bE.2 rfl,h1,by have:=r.so lo hi h2;have:=r.size;omega⟩
theorem Cv.new{w2:World}(hg:Cf w [(w.heap.size,w2.heap.size)] g):Nf w w2 g:=by
 rcases hg with hg|⟨h1,lo,hi,h2,h3,h4⟩
 ·exact hg.elim
 ·simp at h2;obtain⟨rfl,rfl⟩:=h2;exact .inr ⟨h3,h4⟩
structure aDK(w:World)(B:Nat)(iv:Iv)(v:Value)(M:List (List Rat)):Prop where
 row:∃rv,w.ownsRow 0 T.fz 1 v M.length rv∧rv.length=M.length∧(∀u∈rv,u.oneCell'=true)∧∀(i:Nat) u x,rv[i]? =some u->M[i]? =some x->cR w (Bs FF B iv v) u x
 new:∀g,v.ownBlock=some g->Cv FF B iv g
section
variable{H:Hp}{nx:Nat}{iv iv':Iv}{B:Nat}{w w' w2:World}{O:Nat->Sx.eE}{v:Value}{M:List (List Rat)}
theorem aDK.c(h:aDK w B iv v M):cW w (Cv FF B iv) v M:=by
 obtain⟨⟨rv,h1,h2,h3,h4⟩,h5⟩:=h;refine⟨rv,?_,h2,fun i u x k1 k2=>cR.cL (h4 i u x k1 k2) fun g hg=>hg.1⟩;rcases h1.2 with⟨e,h0⟩|⟨g,cap,cur,e,_,hc,hn,hm,hs,ht⟩
 ·have:rv=[]:=List.eq_nil_of_length_eq_zero (by rw[h2,h0]);subst this;rw[e,h0];exact⟨aO _,rfl,by simp,none,0,rfl,Nat.le_refl _,fun j u h=>by cases h⟩
 ·subst e;refine⟨aV hn hm,h1.1,h3,_,cap,rfl,hn,fun j u hu=>⟨_,rfl,h5 g rfl,?_⟩⟩;have:=h1.cells (g:=g) rfl j u hu;exact this
end
theorem At.Lk{id n:Nat}:((At.w id n).den O).oneCell'=true:=by
 cases h:(O id).nil<;>simp[At.den,h,Value.oneCell']
theorem aAr(hS:Old S w)(hM:o7 w S v M)(hR:M.length<=1000)(hn:∀l∈M,l.length<=1000)(hb:∀l∈M,∀z∈l,-1000000000<=z∧z<=1000000000):
  eA PG N.uj #[v] w (eL w fun v' w2=>aDK w2 w.heap.size [(w.heap.size,w2.heap.size)] v' (M.map dH)):=by
 have hw:=bR w;obtain⟨am,cm,rfl,-,Q9⟩:=dA.shape hM;unfold maxLen at Q9;refine Dd (by simp) ?_
 refine⟨Nat×List Value×World×Iv,fun z=>⟨[(0,sV am M.length cm),(3,.o (.w 0 z.2.1.length)),(4,iN z.1)],[(0,.vec T.fz 1 z.2.1)],1,z.2.2.2,z.2.2.1⟩,fun z=>M.length-z.1,
  fun z=>z.1<=M.length∧dg w.heap.size w z.2.2.1∧dS z.2.2.1 (Cf w z.2.2.2) z.2.1 ((M.take z.1).map dH),?_,?_⟩
 ·intro O w' r;exact⟨(0,[],w',[]),⟨aO _,hw.tr r.cS,by simp[dS]⟩,Sub.nil 3 T.fz 1 rfl (by simp[jw,SV.sc,At.sc,fQ]) r fun ρ1 r1=>Sub.gn [] r1⟩
 clear hw;rintro⟨i,rv,w1,iv⟩ ⟨hi,hw,hK⟩;dsimp only at hi hw hK ⊢;have Ot:rv.length=i:=by rw[hK.1,aL,aZ];omega
 refine dG.mk ?_ ?_<;>intro OW
 ·have OW:i<M.length:=by simpa using OW
  obtain⟨l,hl⟩:∃x,M[i]? =some x:=⟨_,aB OW⟩
  have St:=hn l (aD hl);have PA:=hb l (aD hl);obtain⟨adm,um,SN,QE,km1,km2⟩:=dA.load hM hl;obtain⟨al,cl,rfl,-,Rh⟩:=QE.shape
  refine⟨Nat×List (List Value)×World×Iv,fun z=>⟨[(0,sV am M.length cm),(3,.o (.w 0 rv.length)),(4,iN i),(5,.o (.w 1 z.2.1.length)),(6,iN z.1)],[(1,.vec T.Rat 4 z.2.1.flatten),(0,.vec T.fz 1 rv)],2,z.2.2.2,z.2.2.1⟩,fun z=>l.length-z.1,
   fun z=>z.1<=l.length∧dg w.heap.size w z.2.2.1∧dS z.2.2.1 (Cf w z.2.2.2) rv ((M.take i).map dH)∧dR z.2.2.1 (Cf w z.2.2.2) z.2.1 (dH (l.take z.1)),?_,?_⟩
  ·intro O w' r;exact⟨(0,[],w',_),⟨aO _,hw.tr r.cS,hK.rel r (cG w),dR.nil⟩,Sub.nil 5 T.Rat 4 rfl (by simp[jw,SV.sc,At.sc,fQ]) r fun ρ1 r1=>Sub.gn [] r1⟩
  clear hw hK;rintro⟨k,css,w3,iv⟩ ⟨hk,hw,hK,hG⟩;dsimp only at hk hw hK hG ⊢;have Ok:=eD hG.four;have RT:css.length=k:=by rw[hG.len,dH,aL,aZ];omega
  refine⟨adm,SN,by omega,.slice al l.length cl,rd1 km2 hw (hS _ km1),?_⟩;refine dG.mk ?_ ?_<;>intro OY
  ·have OY:k<l.length:=by simpa using OY
   obtain⟨z,hz⟩:∃x,l[k]? =some x:=⟨_,aB OY⟩
   have Ud:=PA z (aD hz);obtain⟨adx,Pz,hSx,PS⟩:=DJ.at QE hz;refine⟨adm,SN,by omega,.slice al l.length cl,rd1 km2 hw (hS _ km1),adx,Pz,by omega,.int .i64 z,rd1 PS hw (hS _ hSx),?_⟩;refine cH (cE hw (fun _ w' v w2=>cT w2 (Nf w' w2) v (z:Rat)) (fun O w' r=>ic z w' (by omega)) ?_);rintro O _ _ _ Od r he hw h_ hn;replace hK:=hK.cK r (cG w) he (mC h_);replace hG:=hG.cK r (cG w) he (mC h_);have hd:=hn.dK (S:=FF) r.cI (mN h_);clear r hn;obtain⟨A0,A1,A2,A3,A4,A5,A6,A7,rfl⟩:=hd.shape;have RE:=hG.push (cs:=[.bool A0,.slice A1 A2 A3,.bool A4,.slice A5 A6 A7]) (q:=(z:Rat)) ⟨_,_,_,_,_,_,_,_,rfl,hd⟩ rfl;rw[<-xl hz]at RE;have PR:css.flatten++([.bool A0,.slice A1 A2 A3,.bool A4,.slice A5 A6 A7]:List Value)=(css++([[.bool A0,.slice A1 A2 A3,.bool A4,.slice A5 A6 A7]]:List (List Value))).flatten:=by simp
   refine .inl ?_;refine⟨by omega,by omega,by unfold maxLen;omega,((k+1:Nat):Int),wo,?_⟩;intro ρ3 w6 r3;exact⟨(k+1,css++[[.bool A0,.slice A1 A2 A3,.bool A4,.slice A5 A6 A7]],w6,_),⟨OY,hw.tr r3.cS,hK.rel r3 (cG w),RE.rel r3 (cG w)⟩,Sub.gn [(1,3)] r3 ⟨by dsimp only;rw[<-PR];rfl,rfl,trivial⟩ ⟨rfl,rfl,rfl,by dsimp only;rw[List.length_append,List.length_singleton];rfl,rfl,trivial⟩,by dsimp only;omega⟩
  have OY:k=l.length:=aQ hk (by simpa using OY);have Vc:dH (l.take k)=dH l:=by rw[OY,bH]
  rw[Vc]at hG;refine me hτ (id3:=2) (id2:=1) (tH:=[(0,.vec T.fz 1 rv)]) rfl rfl rfl rfl (by simp) (by first|exact⟨rfl,trivial⟩|exact⟨rfl,rfl,trivial⟩) rfl rfl (fun O w' r r2 TH=>?_);have OX:=dR.list ((hG.rel r (cG w)).cL fun g hg=>Cv.mono (iv':=((O 2).g,(O 2).g+1)::jy (O 1) iv) hg fun p hp=>aC _ (kp p hp)) ((r.KQ (id:=1) (sz:=4) (m:=css.length) rfl Ok (by unfold maxLen;omega) (by decide) hG.one).cL fun g hg=>Cv.mono hg fun p hp=>aC _ hp);have PB:((At.w 1 css.length).den O).oneCell'=true:=At.Lk;have Rt:=r.low 2 _ rfl (r.fits (id:=2) rfl).1;have hC3:Cf w (((O 2).g,(O 2).g+1)::jy (O 1) iv) (O 2).g:=.inr ⟨Rt.1,_,_,aI,Nat.le_refl _,bU _⟩;have QG:∀p,p∈iv->p∈((O 2).g,(O 2).g+1)::jy (O 1) iv:=fun p hp=>aC _ (kp p hp);have PI:=hw.tr r.cS;have hK1:=(hK.rel r (cG w)).cL fun g hg=>Cv.mono hg QG;clear r2 Rt;generalize (At.w 1 css.length).den O=ur at*
  generalize (O 2).g=gy at*
  generalize (gy,gy+1)::jy (O 1) iv=Oa at*
  refine⟨[ur],rfl,by simpa using PB,fun ρ2 w2 r2 _=>⟨_,rfl,fun j u hu=>?_⟩,?_⟩
  ·have h5:=Rel.same r2 (dN _) hC3;rw[dP,cell_of (h5.trans TH)];rcases j with _|j
   ·exact hu
   ·cases hu
  refine⟨by simp,by omega,by unfold maxLen;omega,?_⟩;have RM:=hK1.push PB OX;rw[show (M.take i).map dH++[dH l]=(M.take (i+1)).map dH by rw[List.take_add_one,hl];simp]at RM;refine⟨((i+1:Nat):Int),wo,?_⟩;intro ρ3 w6 r3;exact⟨(i+1,rv++[ur],w6,_),⟨OW,PI.tr r3.cS,RM.rel r3 (cG w)⟩,Sub.gn [(0,3)] r3 (hE:=⟨rfl,by dsimp only;rw[List.length_append,List.length_singleton];rfl,rfl,trivial⟩),by dsimp only;omega⟩
 have OW:i=M.length:=aQ hi (by simpa using OW);rw[show (M.take i).map dH=M.map dH by rw[OW,bH]]at hK;intro ρe we re;refine⟨_,rfl,hw.tr re.cS,⟨rv,by rw[<-hK.1];exact Gn (BY re (id:=0) rfl (by simp) (by decide)),hK.1,hK.2.1,fun i u x k1 k2=>cR.cL (cR.cJ (hK.2.2 i u x k1 k2) fun g hg=>Rel.same re (cG w) hg) fun g hg=>⟨hg.fin re,fun e=>Rel.not re (cG w) hg 0 _ rfl (FE e).1 (FE e).2⟩⟩,fun g e=>?_⟩;have hl:=re.low 0 _ rfl (FE e).1;rw[(FE e).2]at hl;exact .inr ⟨hl.1,_,_,bE.2 rfl,hl.1,hl.2⟩
theorem aCG(hS:Old S w)(hM:o7 w S v M)(hR:M.length<=1000)(hn:∀l∈M,l.length<=1000)(hb:∀l∈M,∀z∈l,-1000000000<=z∧z<=1000000000):
  eA PG N.uj #[v] w (eL w fun v' w2=>cW w2 (Nf w w2) v' (M.map dH)):=
 (aAr hS hM hR hn hb).mono fun _ _ ⟨v2,e1,e2,e3⟩=>⟨v2,e1,e2,cW.cL e3.c fun _ hg=>hg.new⟩
end Go.Ex
