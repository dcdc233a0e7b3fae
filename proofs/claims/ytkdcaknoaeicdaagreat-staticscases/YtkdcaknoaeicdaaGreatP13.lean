/- Texts X152 to X181: lemmas, each with its conditions. -/
import Derived.Test.YtkdcaknoaeicdaaGreatP12
namespace Go.Ex
open Go Go.Sx Go.Proofs
variable{css:List (List Value)}{S:Nat->Prop}{w:World}
def aBX(cs:List Value):Prop:=∃b a n c b2 a2 n2 c2,cs=[.bool b,.slice a n c,.bool b2,.slice a2 n2 c2]
def yr(cs:List Value):Prop:=∃b a n c b2 a2 n2 c2,cs=[.bool b,.slice a n c,.bool b2,.slice a2 n2 c2]∧n<=3∧n2<=3
theorem k7(a:Addr)(m n:Nat):(a.add m).add n=a.add (m+n):=by
 unfold Addr.add;split<;>split<;>simp_all<;>omega
theorem iU.l3{b1 b2:Bool}{a1 a2:Option Addr}{n1 n2 c1 c2:Nat}{a b:Int}(h:iU w S (.agg #[.bool b1,.slice a1 n1 c1,.bool b2,.slice a2 n2 c2]) a b)(hf:yr [.bool b1,.slice a1 n1 c1,.bool b2,.slice a2 n2 c2]):
  eS w S (.agg #[.bool b1,.slice a1 n1 c1,.bool b2,.slice a2 n2 c2]) (ratio a b)∧rl (ratio a b)<=3:=by
 obtain⟨_,_,_,_,_,_,_,_,e,k1,k2⟩:=hf;simp only[List.cons.injEq,Value.slice.injEq,Value.bool.injEq,and_true]at e;obtain⟨rfl,⟨rfl,rfl,rfl⟩,rfl,rfl,rfl,rfl⟩:=e;obtain⟨b1,l1,b2,l2,e,h1,h2⟩:=h;simp only[Value.agg.injEq,Array.mk.injEq,List.cons.injEq,Value.bool.injEq,and_true]at e;obtain⟨rfl,rfl,rfl,rfl⟩:=e;have g1:=h1.short k1;have g2:=h2.short k2;have r1:=g1.ln;have r2:=g2.ln;have hr:=iS a b;refine⟨⟨_,_,_,_,a,b,rfl,?_,?_,rfl⟩,by omega⟩
 ·obtain⟨ng,ls,i1,i2,i3⟩:=g1;exact⟨ng,ls,i1,i2,by omega⟩
 ·obtain⟨ng,ls,i1,i2,i3⟩:=g2;exact⟨ng,ls,i1,i2,by omega⟩
theorem JB{v:Value}(hS:Old S w)(hq:gO w S 4 v css.flatten css.length)(hF:∀cs∈css,aBX cs):
  eD PG N.xh #[v] w (eG w fun v' _=>∃d,v'= .bool d∧(d=true->css.length<=80∧∀cs∈css,yr cs)):=by
 have hw:=bR w;have h4:∀cs∈css,cs.length=4:=fun cs hc=>by obtain⟨_,_,_,_,_,_,_,_,rfl⟩:=hF cs hc;rfl
 have hK:eN 4 (fun _ _ cs x=>cs=x) w S v css:=⟨css,hq,rfl,h4,fun j cs x h1 h2=>by rw[h1]at h2;injection h2⟩
 obtain⟨a,c,rfl,hc,hm⟩:=hK.shape;unfold maxLen at hm;refine As (by simp) ?_
 refine⟨Nat×World,fun z=>⟨[(0,sV a css.length c),(3,iN z.1)],[],0,[],z.2⟩,fun z=>css.length-z.1,
  fun z=>z.1<=css.length∧dm w.heap.size w z.2∧∀j cs,j<z.1->css[j]? =some cs->yr cs,?_,?_⟩
 ·intro O w' r3;exact⟨(0,w'),⟨aO _,hw.tr r3.cQ,fun j cs hj=>absurd hj (Nat.not_lt_zero j)⟩,Sub.gn [] r3⟩
 rintro⟨i,w1⟩ ⟨hi,hw,hE⟩;dsimp only at hi hw hE ⊢;refine dI.mk ?_ ?_<;>intro OI
 ·have OI:i<css.length:=by simpa using OI
  refine dI.mk ?_ ?_<;>intro h80
  ·have h80:css.length<=80:=by have:=aI h80;omega
   obtain⟨cs,PE⟩:∃cs,css[i]? =some cs:=⟨_,aB OI⟩
   obtain⟨g0,g1,g2,g3,g4,g5,g6,g7,rfl⟩:=hF cs (aC PE);obtain⟨adx,cs2,PS,VA,-,QV⟩:=hK.load (by decide) PE;subst VA;refine⟨adx,PS,by omega,.slice g1 g2 g3,fun O w' r=>?_,?_⟩
   ·obtain⟨k1,k2⟩:=QV 1 _ rfl;rw[aE,cH (w:=w) (w2:=w') (by simp only[dD];exact(hw.tr r.cQ).block _ (hS _ k1))];exact k2
   refine dI.mk ?_ ?_<;>intro k3
   ·exact rtn hw fun ρe we re=>⟨_,rfl,fun h=>by cases h⟩
   have k3:=aH k3;refine⟨adx,PS,by omega,.slice g5 g6 g7,fun O w' r=>?_,?_⟩
   ·obtain⟨k1,k2⟩:=QV 3 _ rfl;rw[aE,cH (w:=w) (w2:=w') (by simp only[dD];exact(hw.tr r.cQ).block _ (hS _ k1))];exact k2
   refine dI.mk ?_ ?_<;>intro k4
   ·exact rtn hw fun ρe we re=>⟨_,rfl,fun h=>by cases h⟩
   have k4:=aH k4;have Oh:∀j cs,j<i+1->css[j]? =some cs->yr cs:=fun j cs hj hc=>by
    rcases aQ j i with h|h
    ·exact hE j cs h hc
    ·have:j=i:=by omega
     subst this;rw[PE]at hc;injection hc with hc;subst hc;exact⟨_,_,_,_,_,_,_,_,rfl,by omega,by omega⟩
   refine⟨((i+1:Nat):Int),wo,?_⟩;intro ρ3 w6 r3;exact⟨(i+1,w6),⟨OI,hw.tr r3.cQ,Oh⟩,Sub.gn [] r3,by dsimp only;omega⟩
  ·have h80:=aH h80;exact rtn hw fun ρe we re=>⟨_,rfl,fun h=>by have:=aI h;omega⟩
 have OI:i=css.length:=aP hi (by simpa using OI);subst OI;intro ρe we re
 exact⟨_,rfl,hw.tr re.cQ,_,rfl,fun h=>⟨by have:=aI h;omega,fun cs hc=>by
  obtain⟨j,hj⟩:=aR hc
  exact hE j cs (aD.1 hj).1 hj⟩⟩
end Go.Ex
namespace Go.Ex
theorem aBO{a b x p q:Rat}(h1:a<x)(h2:x<=b):(p<=q->p<=p+(x-a) / (b-a)*(q-p)∧p+(x-a) / (b-a)*(q-p)<=q)∧(q<=p->q<=p+(x-a) / (b-a)*(q-p)∧p+(x-a) / (b-a)*(q-p)<=p):=by
 have hd:0<b-a:=by grind
 have hi:0<=(b-a)⁻¹:=Rat.le_of_lt (Rat.inv_pos.2 hd);obtain⟨t,ht⟩:∃t,(x-a) / (b-a)=t:=⟨_,rfl⟩
 have t0:0<=t:=by rw[<-ht,bj];exact Rat.mul_nonneg (by grind) hi
 have t1:t<=1:=by
  rw[<-ht,bj,<-Rat.mul_inv_cancel (b-a) (by grind)];exact Rat.mul_le_mul_of_nonneg_right (by grind) hi
 rw[ht];refine⟨fun h=>?_,fun h=>?_⟩
 ·have k1:0<=t*(q-p):=Rat.mul_nonneg t0 (by grind);have k2:t*(q-p)<=1*(q-p):=Rat.mul_le_mul_of_nonneg_right t1 (by grind);grind
 ·have k1:0<=t*(p-q):=Rat.mul_nonneg t0 (by grind);have k2:t*(p-q)<=1*(p-q):=Rat.mul_le_mul_of_nonneg_right t1 (by grind);have k3:t*(q-p)= -(t*(p-q)):=by grind
  grind
end Go.Ex
namespace Go.Ex
open Go Go.Sx Go.Proofs
variable{p:Int×Int×(Int×Int)}{xs:List (Int×Int×(Int×Int))}{css:List (List Value)}{cs:List Value}{S:Nat->Prop}{v vb vn vs:Value}{w:World}{f:ew}
theorem pH(c b:Int×Int×Rat):gV c=gV b↔(c.1=b.1∧c.2.1=b.2.1)∨(c.1=b.2.1∧c.2.1=b.1):=by
 unfold gV;rw[Prod.mk.injEq];omega
theorem E7(c b:Int×Int×Rat):iu c=iu b↔c.1=b.1∧c.2.1=b.2.1:=by
 unfold iu;rw[Prod.mk.injEq]
section
variable{α β:Type}{L:List α}{K:α->β}{x:β}
theorem mT{k:Nat}{c:α}(hc:L[k]? =some c)(h:K c≠x)(hE:x∈L.map K↔x∈(L.drop k).map K):x∈L.map K↔x∈(L.drop (k+1)).map K:=by
 rw[hE,List.drop_eq_getElem_cons (aD.1 hc).1,(aD.1 hc).2,List.map_cons,List.mem_cons,or_iff_right fun e=>h e.symm]
theorem vP{k:Nat}{c:α}(hc:L[k]? =some c)(h:K c=x):x∈L.map K:=aT.2 ⟨c,aC hc,h⟩
theorem E8{k:Nat}(hk:L.length<=k)(hE:x∈L.map K↔x∈(L.drop k).map K):x∉L.map K:=fun h=>by
 have:=hE.1 h;rw[List.drop_eq_nil_of_le hk]at this
 cases this
end
theorem rV(n:Int)(an ab aq:Option Addr)(ln cn nb cb nq cq:Nat)(w:World):eD PG N.u9 #[.agg #[.slice an ln cn,.slice ab nb cb,.slice aq nq cq],.int .i64 n] w (eG w fun v' _=>∃d,v'= .bool d∧(d=true↔jR ln n)):=by
 have hw:=bR w;refine y9 (by simp) ?_;refine dI.mk ?_ ?_<;>intro h1
 ·intro ρe we re;have h1:=aI h1;exact⟨_,rfl,hw.tr re.cQ,_,rfl,by rw[decide_eq_true_iff];exact⟨fun h=>⟨h1,h⟩,fun h=>h.2⟩⟩
 ·intro ρe we re;have h1:=aH h1;exact⟨_,rfl,hw.tr re.cQ,_,rfl,(fun h=>by cases h),fun h=>absurd h.1 h1⟩
theorem jB(n lo hi:Int)(w:World):eD PG N.xl #[.int .i64 n,.int .i64 lo,.int .i64 hi] w (eG w fun v' _=>∃d,v'= .bool d∧(d=true↔lo<=n∧n<=hi)):=by
 have hw:=bR w;refine Av (by simp) ?_;refine dI.mk ?_ ?_<;>intro h1
 ·intro ρe we re;have h1:=aI h1;exact⟨_,rfl,hw.tr re.cQ,_,rfl,by rw[decide_eq_true_iff];exact⟨fun h=>⟨h1,h⟩,fun h=>h.2⟩⟩
 ·intro ρe we re;have h1:=aH h1;exact⟨_,rfl,hw.tr re.cQ,_,rfl,(fun h=>by cases h),fun h=>absurd h.1 h1⟩
theorem BV{q:Rat}(hS:Old S w)(hp:eS w S v q):eD PG N.kB #[v] w (eG w fun v' _=>v'= .int .i64 (rs q)):=by
 obtain⟨a,b,h1,rfl,_,_⟩:=hp.v;exact th hS h1
set_option maxHeartbeats 2000000 in
theorem mU(hS:Old S w)(hf:dT w S vn vb vs f):eD PG N.xj #[.agg #[vn,vb,vs]] w (eG w fun v' _=>v'= .int .i64 (eJ f)):=by
 have hw:=bR w;obtain⟨an,cn,ab,cb,aq,cq,rfl,rfl,rfl,Qj,RJ,R6⟩:=hf.shape;refine Au (by simp) ?_;refine dI.mk ?_ ?_<;>intro h0
 ·have h0:=aI h0;exact rtn hw fun ρe we re=>by show Value.int .i64 _=_;rw[eJ,if_pos (by omega)]
 have h0:=aH h0;refine dI.mk ?_ ?_<;>intro h1
 ·have h1:=aI h1;exact rtn hw fun ρe we re=>by show Value.int .i64 _=_;rw[eJ,if_pos (by omega)]
 have h1:=aH h1;refine dI.mk ?_ ?_<;>intro h2
 ·have h2:=aI h2;exact rtn hw fun ρe we re=>by show Value.int .i64 _=_;rw[eJ,if_pos (by omega)]
 have h2:=aH h2
 refine⟨Nat×World×Iv,fun z=>⟨[(1,pP 0 0),(3,iN z.1)],[(0,.box T.Frame [.v (.slice an f.nodes.length cn),.v (.slice ab f.bars.length cb),.v (.slice aq f.cV.length cq)])],1,z.2.2,z.2.1⟩,fun z=>f.nodes.length-z.1,
  fun z=>z.1<=f.nodes.length∧dm w.heap.size w z.2.1∧eO fE [] f.nodes=eO fE (f.nodes.take z.1) (f.nodes.drop z.1),?_,?_⟩
 ·intro O w' r3;exact⟨(0,w',_),⟨aO _,hw.tr r3.cQ,rfl⟩,Sub.gn [] r3⟩
 rintro⟨i,w1,iv⟩ ⟨hi,hw,hE⟩;dsimp only at hi hw hE ⊢;refine dI.mk ?_ ?_<;>intro OI
 ·have OI:i<f.nodes.length:=by simpa using OI
  obtain⟨b,hx⟩:∃b,f.nodes[i]? =some b:=⟨_,aB OI⟩
  have hLl:(f.nodes.take i).length=i:=by rw[aW];omega
  obtain⟨adb,cs,Py,hF,-,Oq⟩:=hf.nodes.load (by decide) hx;have hF:cs=[.int .i64 b.1,.int .i64 b.2.1,.int .i64 b.2.2]:=hF;subst hF;refine⟨adb,Py,by omega,[.int .i64 b.1,.int .i64 b.2.1,.int .i64 b.2.2],rfl,rdO Oq hw hS,?_⟩;refine cD (cE hw (fun _ w' v w2=>∃d,v= .bool d∧(d=true↔nX b.1)) (fun O w' r=>jB _ _ _ w') ?_);rintro O QA v1 Pg OP r he hw h_ ⟨d0,rfl,OT⟩
  cases d0
  ·have OT:¬nX b.1:=fun h=>by have:=OT.2 h;cases this
   exact rtn hw fun ρe we re=>by show Value.int .i64 _=_;rw[eJ,aK (by omega),if_pos (by rw[hE,cU hx (show fE (f.nodes.take i) b=2 by rw[fE,aK (fun h=>OT h.1)]) (by decide)];decide),hE,cU hx (show fE (f.nodes.take i) b=2 by rw[fE,aK (fun h=>OT h.1)]) (by decide)]
  replace OT:=OT.1 rfl;refine cD (cE hw (fun _ w' v w2=>∃d,v= .bool d∧(d=true↔nX b.2.1)) (fun O w' r=>jB _ _ _ w') ?_);rintro O QB v2 PI ON r he hw h_ ⟨d1,rfl,OV⟩
  cases d1
  ·have OV:¬nX b.2.1:=fun h=>by have:=OV.2 h;cases this
   exact rtn hw fun ρe we re=>by show Value.int .i64 _=_;rw[eJ,aK (by omega),if_pos (by rw[hE,cU hx (show fE (f.nodes.take i) b=2 by rw[fE,aK (fun h=>OV h.2.1)]) (by decide)];decide),hE,cU hx (show fE (f.nodes.take i) b=2 by rw[fE,aK (fun h=>OV h.2.1)]) (by decide)]
  replace OV:=OV.1 rfl;refine cD (cE hw (fun _ w' v w2=>∃d,v= .bool d∧(d=true↔nX b.2.2)) (fun O w' r=>jB _ _ _ w') ?_);rintro O PX v3 PT OU r he hw h_ ⟨d2,rfl,Ot⟩
  cases d2
  ·have Ot:¬nX b.2.2:=fun h=>by have:=Ot.2 h;cases this
   exact rtn hw fun ρe we re=>by show Value.int .i64 _=_;rw[eJ,aK (by omega),if_pos (by rw[hE,cU hx (show fE (f.nodes.take i) b=2 by rw[fE,aK (fun h=>Ot h.2.2)]) (by decide)];decide),hE,cU hx (show fE (f.nodes.take i) b=2 by rw[fE,aK (fun h=>Ot h.2.2)]) (by decide)]
  replace Ot:=Ot.1 rfl
  refine⟨Nat×World,fun z=>⟨[(1,pP 0 0),(3,iN i),(4,pP 1 0),(5,iN z.1)],[(1,.box T.Node [.v (.int .i64 b.1),.v (.int .i64 b.2.1),.v (.int .i64 b.2.2)]),(0,.box T.Frame [.v (.slice an f.nodes.length cn),.v (.slice ab f.bars.length cb),.v (.slice aq f.cV.length cq)])],2,OU,z.2⟩,fun z=>i-z.1,
   fun z=>z.1<=i∧dm w.heap.size w z.2∧(b∈(f.nodes.take i).map id↔b∈((f.nodes.take i).drop z.1).map id),?_,?_⟩
  ·intro O w' r3;exact⟨(0,w'),⟨aO _,hw.tr r3.cQ,Iff.rfl⟩,Sub.gn [] r3⟩
  rintro⟨k,w2⟩ ⟨hk,hw,hK⟩;dsimp only at hk hw hK ⊢;refine dI.mk ?_ ?_<;>intro OL
  ·have OL:k<i:=by have:=aI OL;omega
   obtain⟨c,hc⟩:∃c,f.nodes[k]? =some c:=⟨_,aB (by omega)⟩
   have Sw:(f.nodes.take i)[k]? =some c:=by rw[bV OL];exact hc
   obtain⟨adc,cs2,Wq,SE,-,Se⟩:=hf.nodes.load (by decide) hc;have SE:cs2=[.int .i64 c.1,.int .i64 c.2.1,.int .i64 c.2.2]:=SE;subst SE;refine cK hτ da [.x 0,.x 1,.x 2,.x 3,.x 4,.x 5,.x 6] (by kernel_rfl) (by kernel_rfl) ?_;refine⟨adc,Wq,by omega,[.int .i64 c.1,.int .i64 c.2.1,.int .i64 c.2.2],rfl,rdO Se hw hS,decide (c=b),fun O w o1 o2=>GR c b w o1 o2,?_⟩;refine dI.mk ?_ ?_<;>intro hd
   ·have hd:c=b:=aI hd;have QS:b∈f.nodes.take i:=by have:=vP (K:=id) Sw hd;rwa [List.map_id]at this
    exact rtn hw fun ρe we re=>by show Value.int .i64 _=_;rw[eJ,aK (by omega),if_pos (by rw[hE,cU hx (show fE (f.nodes.take i) b=12 by rw[fE,if_pos ⟨OT,OV,Ot⟩,if_pos QS]) (by decide)];decide),hE,cU hx (show fE (f.nodes.take i) b=12 by rw[fE,if_pos ⟨OT,OV,Ot⟩,if_pos QS]) (by decide)]
   have hd:c≠b:=aH hd;have RE:=mT (K:=id) Sw hd hK;refine⟨((k+1:Nat):Int),wo,?_⟩;intro ρ3 w6 r3;exact⟨(k+1,w6),⟨OL,hw.tr r3.cQ,RE⟩,Sub.gn [] r3,by dsimp only;omega⟩
  have OL:k=i:=by have:=aH OL;omega
  have QW:=E8 (by rw[hLl];omega) hK;rw[List.map_id]at QW;rw[ff hx (te.2 ⟨⟨OT,OV,Ot⟩,QW⟩)]at hE;refine⟨((i+1:Nat):Int),wo,?_⟩;intro ρ3 w6 r3;exact⟨(i+1,w6,_),⟨OI,hw.tr r3.cQ,hE⟩,Sub.gn [] r3,by dsimp only;omega⟩
 have OI:i=f.nodes.length:=aP hi (by simpa using OI);rw[gv (by omega)]at hE
 refine⟨Nat×World×Iv,fun z=>⟨[(1,pP 0 0),(6,iN z.1)],[(0,.box T.Frame [.v (.slice an f.nodes.length cn),.v (.slice ab f.bars.length cb),.v (.slice aq f.cV.length cq)])],1,z.2.2,z.2.1⟩,fun z=>f.bars.length-z.1,
  fun z=>z.1<=f.bars.length∧dm w.heap.size w z.2.1∧eO (fL f.nodes.length) [] f.bars=eO (fL f.nodes.length) (f.bars.take z.1) (f.bars.drop z.1),?_,?_⟩
 ·intro O w' r3;exact⟨(0,w',_),⟨aO _,hw.tr r3.cQ,rfl⟩,Sub.gn [] r3⟩
 rintro⟨i,w1,iv⟩ ⟨hi,hw,Oh⟩;dsimp only at hi hw Oh ⊢;refine dI.mk ?_ ?_<;>intro OI
 ·have OI:i<f.bars.length:=by simpa using OI
  obtain⟨b,hx⟩:∃b,f.bars[i]? =some b:=⟨_,aB OI⟩
  have hLl:(f.bars.take i).length=i:=by rw[aW];omega
  obtain⟨adb,cs,Py,hF,-,Oq⟩:=hf.bars.load (by decide) hx;obtain⟨g0,g1,g2,g3,g4,g5,g6,g7,rfl,hF⟩:=hF;refine⟨adb,Py,by omega,[.int .i64 b.1,.int .i64 b.2.1,.bool g0,.slice g1 g2 g3,.bool g4,.slice g5 g6 g7],rfl,rdO Oq hw hS,?_⟩;refine cD (cE hw (fun _ w' v w2=>∃d,v= .bool d∧(d=true↔jR f.nodes.length b.1)) (fun O w' r=>rV _ _ _ _ _ _ _ _ _ _ w') ?_);rintro O QA v1 Pg OP r he hw h_ ⟨d0,rfl,OT⟩
  cases d0
  ·have OT:¬jR f.nodes.length b.1:=fun h=>by have:=OT.2 h;cases this
   exact rtn hw fun ρe we re=>by show Value.int .i64 _=_;rw[eJ,aK (by omega),aK (by rw[hE];decide),if_pos (by rw[Oh,cU hx (show fL f.nodes.length (f.bars.take i) b=6 by rw[fL,aK (fun h=>OT h.1)]) (by decide)];decide),Oh,cU hx (show fL f.nodes.length (f.bars.take i) b=6 by rw[fL,aK (fun h=>OT h.1)]) (by decide)]
  replace OT:=OT.1 rfl;refine cD (cE hw (fun _ w' v w2=>∃d,v= .bool d∧(d=true↔jR f.nodes.length b.2.1)) (fun O w' r=>rV _ _ _ _ _ _ _ _ _ _ w') ?_);rintro O QB v2 PI ON r he hw h_ ⟨d1,rfl,OV⟩
  cases d1
  ·have OV:¬jR f.nodes.length b.2.1:=fun h=>by have:=OV.2 h;cases this
   exact rtn hw fun ρe we re=>by show Value.int .i64 _=_;rw[eJ,aK (by omega),aK (by rw[hE];decide),if_pos (by rw[Oh,cU hx (show fL f.nodes.length (f.bars.take i) b=6 by rw[fL,aK (fun h=>OV h.2)]) (by decide)];decide),Oh,cU hx (show fL f.nodes.length (f.bars.take i) b=6 by rw[fL,aK (fun h=>OV h.2)]) (by decide)]
  replace OV:=OV.1 rfl;refine dI.mk ?_ ?_<;>intro PU
  ·have PU:b.1=b.2.1:=by simpa using PU
   exact rtn hw fun ρe we re=>by show Value.int .i64 _=_;rw[eJ,aK (by omega),aK (by rw[hE];decide),if_pos (by rw[Oh,cU hx (show fL f.nodes.length (f.bars.take i) b=3 by rw[fL,if_pos ⟨OT,OV⟩,if_pos PU]) (by decide)];decide),Oh,cU hx (show fL f.nodes.length (f.bars.take i) b=3 by rw[fL,if_pos ⟨OT,OV⟩,if_pos PU]) (by decide)]
  have PU:b.1≠b.2.1:=by simpa using PU
  refine⟨Nat×World,fun z=>⟨[(1,pP 0 0),(6,iN i),(7,pP 1 0),(8,iN z.1)],[(1,.box T.Bar [.v (.int .i64 b.1),.v (.int .i64 b.2.1),.v (.bool g0),.v (.slice g1 g2 g3),.v (.bool g4),.v (.slice g5 g6 g7)]),(0,.box T.Frame [.v (.slice an f.nodes.length cn),.v (.slice ab f.bars.length cb),.v (.slice aq f.cV.length cq)])],2,ON,z.2⟩,fun z=>i-z.1,
   fun z=>z.1<=i∧dm w.heap.size w z.2∧(gV b∈(f.bars.take i).map gV↔gV b∈((f.bars.take i).drop z.1).map gV),?_,?_⟩
  ·intro O w' r3;exact⟨(0,w'),⟨aO _,hw.tr r3.cQ,Iff.rfl⟩,Sub.gn [] r3⟩
  rintro⟨k,w2⟩ ⟨hk,hw,hK⟩;dsimp only at hk hw hK ⊢;refine dI.mk ?_ ?_<;>intro OL
  ·have OL:k<i:=by have:=aI OL;omega
   obtain⟨c,hc⟩:∃c,f.bars[k]? =some c:=⟨_,aB (by omega)⟩
   have Sw:(f.bars.take i)[k]? =some c:=by rw[bV OL];exact hc
   obtain⟨adc,cs2,Wq,SE,-,Se⟩:=hf.bars.load (by decide) hc;obtain⟨q0,q1,q2,q3,q4,q5,q6,q7,rfl,-⟩:=SE;refine⟨adc,Wq,by omega,[.int .i64 c.1,.int .i64 c.2.1,.bool q0,.slice q1 q2 q3,.bool q4,.slice q5 q6 q7],rfl,rdO Se hw hS,?_⟩;refine dI.mk ?_ ?_<;>intro e1
   ·have e1:(c.1=b.1):=by simpa using e1
    refine dI.mk ?_ ?_<;>intro e2
    ·have e2:(c.2.1=b.2.1):=by simpa using e2
     have QS:=vP (K:=gV) Sw (show gV c=gV b by rw[pH];omega);exact rtn hw fun ρe we re=>by show Value.int .i64 _=_;rw[eJ,aK (by omega),aK (by rw[hE];decide),if_pos (by rw[Oh,cU hx (show fL f.nodes.length (f.bars.take i) b=5 by rw[fL,if_pos ⟨OT,OV⟩,aK PU,if_pos QS]) (by decide)];decide),Oh,cU hx (show fL f.nodes.length (f.bars.take i) b=5 by rw[fL,if_pos ⟨OT,OV⟩,aK PU,if_pos QS]) (by decide)]
    ·have e2:¬(c.2.1=b.2.1):=by simpa using e2
     refine dI.mk ?_ ?_<;>intro e3
     ·have e3:(c.1=b.2.1):=by simpa using e3
      refine dI.mk ?_ ?_<;>intro e4
      ·have e4:(c.2.1=b.1):=by simpa using e4
       have QS:=vP (K:=gV) Sw (show gV c=gV b by rw[pH];omega);exact rtn hw fun ρe we re=>by show Value.int .i64 _=_;rw[eJ,aK (by omega),aK (by rw[hE];decide),if_pos (by rw[Oh,cU hx (show fL f.nodes.length (f.bars.take i) b=5 by rw[fL,if_pos ⟨OT,OV⟩,aK PU,if_pos QS]) (by decide)];decide),Oh,cU hx (show fL f.nodes.length (f.bars.take i) b=5 by rw[fL,if_pos ⟨OT,OV⟩,aK PU,if_pos QS]) (by decide)]
      ·have e4:¬(c.2.1=b.1):=by simpa using e4
       have RE:=mT (K:=gV) Sw (show gV c≠gV b by rw[Ne,pH];omega) hK;refine⟨((k+1:Nat):Int),wo,?_⟩;intro ρ3 w6 r3;exact⟨(k+1,w6),⟨OL,hw.tr r3.cQ,RE⟩,Sub.gn [] r3,by dsimp only;omega⟩
     ·have e3:¬(c.1=b.2.1):=by simpa using e3
      have RE:=mT (K:=gV) Sw (show gV c≠gV b by rw[Ne,pH];omega) hK;refine⟨((k+1:Nat):Int),wo,?_⟩;intro ρ3 w6 r3;exact⟨(k+1,w6),⟨OL,hw.tr r3.cQ,RE⟩,Sub.gn [] r3,by dsimp only;omega⟩
   ·have e1:¬(c.1=b.1):=by simpa using e1
    refine dI.mk ?_ ?_<;>intro e3
    ·have e3:(c.1=b.2.1):=by simpa using e3
     refine dI.mk ?_ ?_<;>intro e4
     ·have e4:(c.2.1=b.1):=by simpa using e4
      have QS:=vP (K:=gV) Sw (show gV c=gV b by rw[pH];omega);exact rtn hw fun ρe we re=>by show Value.int .i64 _=_;rw[eJ,aK (by omega),aK (by rw[hE];decide),if_pos (by rw[Oh,cU hx (show fL f.nodes.length (f.bars.take i) b=5 by rw[fL,if_pos ⟨OT,OV⟩,aK PU,if_pos QS]) (by decide)];decide),Oh,cU hx (show fL f.nodes.length (f.bars.take i) b=5 by rw[fL,if_pos ⟨OT,OV⟩,aK PU,if_pos QS]) (by decide)]
     ·have e4:¬(c.2.1=b.1):=by simpa using e4
      have RE:=mT (K:=gV) Sw (show gV c≠gV b by rw[Ne,pH];omega) hK;refine⟨((k+1:Nat):Int),wo,?_⟩;intro ρ3 w6 r3;exact⟨(k+1,w6),⟨OL,hw.tr r3.cQ,RE⟩,Sub.gn [] r3,by dsimp only;omega⟩
    ·have e3:¬(c.1=b.2.1):=by simpa using e3
     have RE:=mT (K:=gV) Sw (show gV c≠gV b by rw[Ne,pH];omega) hK;refine⟨((k+1:Nat):Int),wo,?_⟩;intro ρ3 w6 r3;exact⟨(k+1,w6),⟨OL,hw.tr r3.cQ,RE⟩,Sub.gn [] r3,by dsimp only;omega⟩
  have OL:k=i:=by have:=aH OL;omega
  have QW:=E8 (by rw[hLl];omega) hK;refine cD (cE hw (fun _ w' v w2=>v= .int .i64 (rs b.2.2)) (fun O w' r=>(BV (oS hS r) (hF.cI (kS hw r hS)))) ?_);rintro O PX v3 PT OU r he hw h_ rfl;obtain⟨cf,hcf⟩:∃c,rs b.2.2=c:=⟨_,rfl⟩
  rw[hcf];refine dI.mk ?_ ?_<;>intro PM
  ·have PM:b.2.2<=0:=by have:=aI PM;rw[<-Rat.not_lt,<-k6];omega
   exact rtn hw fun ρe we re=>by show Value.int .i64 _=_;rw[eJ,aK (by omega),aK (by rw[hE];decide),if_pos (by rw[Oh,cU hx (show fL f.nodes.length (f.bars.take i) b=2 by rw[fL,if_pos ⟨OT,OV⟩,aK PU,aK QW,if_pos PM]) (by decide)];decide),Oh,cU hx (show fL f.nodes.length (f.bars.take i) b=2 by rw[fL,if_pos ⟨OT,OV⟩,aK PU,aK QW,if_pos PM]) (by decide)]
  have PM:0<b.2.2:=by have:=aH PM;rw[<-k6];omega
  rw[ff hx (np.2 ⟨⟨OT,OV⟩,PU,QW,PM⟩)]at Oh;refine⟨((i+1:Nat):Int),wo,?_⟩;intro ρ3 w6 r3;exact⟨(i+1,w6,_),⟨OI,hw.tr r3.cQ,Oh⟩,Sub.gn [] r3,by dsimp only;omega⟩
 have OI:i=f.bars.length:=aP hi (by simpa using OI);rw[gv (by omega)]at Oh
 refine⟨Nat×World×Iv,fun z=>⟨[(1,pP 0 0),(10,iN z.1)],[(0,.box T.Frame [.v (.slice an f.nodes.length cn),.v (.slice ab f.bars.length cb),.v (.slice aq f.cV.length cq)])],1,z.2.2,z.2.1⟩,fun z=>f.cV.length-z.1,
  fun z=>z.1<=f.cV.length∧dm w.heap.size w z.2.1∧eO (kv f.nodes.length) [] f.cV=eO (kv f.nodes.length) (f.cV.take z.1) (f.cV.drop z.1),?_,?_⟩
 ·intro O w' r3;exact⟨(0,w',_),⟨aO _,hw.tr r3.cQ,rfl⟩,Sub.gn [] r3⟩
 rintro⟨i,w1,iv⟩ ⟨hi,hw,VB⟩;dsimp only at hi hw VB ⊢;refine dI.mk ?_ ?_<;>intro OI
 ·have OI:i<f.cV.length:=by simpa using OI
  obtain⟨b,hx⟩:∃b,f.cV[i]? =some b:=⟨_,aB OI⟩
  have hLl:(f.cV.take i).length=i:=by rw[aW];omega
  obtain⟨adb,cs,Py,hF,-,Oq⟩:=hf.cV.load (by decide) hx;obtain⟨g0,g1,g2,g3,g4,g5,g6,g7,rfl,hF⟩:=hF;refine⟨adb,Py,by omega,[.int .i64 b.1,.int .i64 b.2.1,.bool g0,.slice g1 g2 g3,.bool g4,.slice g5 g6 g7],rfl,rdO Oq hw hS,?_⟩;refine cD (cE hw (fun _ w' v w2=>∃d,v= .bool d∧(d=true↔jR f.nodes.length b.1)) (fun O w' r=>rV _ _ _ _ _ _ _ _ _ _ w') ?_);rintro O _ _ _ OP r he hw h_ ⟨d0,rfl,OT⟩
  cases d0
  ·have OT:¬jR f.nodes.length b.1:=fun h=>by have:=OT.2 h;cases this
   exact rtn hw fun ρe we re=>by show Value.int .i64 _=_;rw[eJ,aK (by omega),aK (by rw[hE];decide),aK (by rw[Oh];decide),VB,cU hx (show kv f.nodes.length (f.cV.take i) b=6 by rw[kv,aK OT]) (by decide)]
  replace OT:=OT.1 rfl;refine cD (cE hw (fun _ w' v w2=>∃d,v= .bool d∧(d=true↔0<=b.2.1∧b.2.1<=2)) (fun O w' r=>jB _ _ _ w') ?_);rintro O _ _ _ ON r he hw h_ ⟨d1,rfl,PS⟩
  cases d1
  ·have PS:¬(0<=b.2.1∧b.2.1<=2):=fun h=>by have:=PS.2 h;cases this
   exact rtn hw fun ρe we re=>by show Value.int .i64 _=_;rw[eJ,aK (by omega),aK (by rw[hE];decide),aK (by rw[Oh];decide),VB,cU hx (show kv f.nodes.length (f.cV.take i) b=2 by rw[kv,if_pos OT,aK PS]) (by decide)]
  replace PS:=PS.1 rfl
  refine⟨Nat×World,fun z=>⟨[(1,pP 0 0),(10,iN i),(11,pP 1 0),(12,iN z.1)],[(1,.box T.zI [.v (.int .i64 b.1),.v (.int .i64 b.2.1),.v (.bool g0),.v (.slice g1 g2 g3),.v (.bool g4),.v (.slice g5 g6 g7)]),(0,.box T.Frame [.v (.slice an f.nodes.length cn),.v (.slice ab f.bars.length cb),.v (.slice aq f.cV.length cq)])],2,ON,z.2⟩,fun z=>i-z.1,
   fun z=>z.1<=i∧dm w.heap.size w z.2∧(iu b∈(f.cV.take i).map iu↔iu b∈((f.cV.take i).drop z.1).map iu),?_,?_⟩
  ·intro O w' r3;exact⟨(0,w'),⟨aO _,hw.tr r3.cQ,Iff.rfl⟩,Sub.gn [] r3⟩
  rintro⟨k,w2⟩ ⟨hk,hw,hK⟩;dsimp only at hk hw hK ⊢;refine dI.mk ?_ ?_<;>intro OL
  ·have OL:k<i:=by have:=aI OL;omega
   obtain⟨c,hc⟩:∃c,f.cV[k]? =some c:=⟨_,aB (by omega)⟩
   have Sw:(f.cV.take i)[k]? =some c:=by rw[bV OL];exact hc
   obtain⟨adc,cs2,Wq,SE,-,Se⟩:=hf.cV.load (by decide) hc;obtain⟨q0,q1,q2,q3,q4,q5,q6,q7,rfl,-⟩:=SE;refine cK hτ da [.x 0,.x 1,.x 2,.x 3,.x 4,.x 5,.x 6,.x 7,.x 8,.x 9,.x 10,.x 11,.x 12,.x 13,.x 14,.x 15,.x 16,.x 17,.x 18,.x 19] (by kernel_rfl) (by kernel_rfl) ?_;refine⟨adc,Wq,by omega,.int .i64 c.1,fun O w' r=>?_,?_⟩
   ·obtain⟨k1,k2⟩:=Se 0 _ rfl;rw[cH (w:=w) (w2:=w') (by simp only[dD];exact(hw.tr r.cQ).block _ (hS _ k1))];simp only[aE,k7]at k2 ⊢;exact k2
   refine dI.mk ?_ ?_<;>intro e1
   ·have e1:(c.1=b.1):=by simpa using e1
    refine⟨adc,Wq,by omega,.int .i64 c.2.1,fun O w' r=>?_,?_⟩
    ·obtain⟨k1,k2⟩:=Se 1 _ rfl;rw[cH (w:=w) (w2:=w') (by simp only[dD];exact(hw.tr r.cQ).block _ (hS _ k1))];simp only[aE,k7]at k2 ⊢;exact k2
    refine dI.mk ?_ ?_<;>intro e2
    ·have e2:(c.2.1=b.2.1):=by simpa using e2
     have QS:=vP (K:=iu) Sw (show iu c=iu b by rw[E7];omega);exact rtn hw fun ρe we re=>by show Value.int .i64 _=_;rw[eJ,aK (by omega),aK (by rw[hE];decide),aK (by rw[Oh];decide),VB,cU hx (show kv f.nodes.length (f.cV.take i) b=5 by rw[kv,if_pos OT,if_pos PS,if_pos QS]) (by decide)]
    ·have e2:¬(c.2.1=b.2.1):=by simpa using e2
     have RE:=mT (K:=iu) Sw (show iu c≠iu b by rw[Ne,E7];omega) hK;refine⟨((k+1:Nat):Int),wo,?_⟩;intro ρ3 w6 r3;exact⟨(k+1,w6),⟨OL,hw.tr r3.cQ,RE⟩,Sub.gn [] r3,by dsimp only;omega⟩
   ·have e1:¬(c.1=b.1):=by simpa using e1
    have RE:=mT (K:=iu) Sw (show iu c≠iu b by rw[Ne,E7];omega) hK;refine⟨((k+1:Nat):Int),wo,?_⟩;intro ρ3 w6 r3;exact⟨(k+1,w6),⟨OL,hw.tr r3.cQ,RE⟩,Sub.gn [] r3,by dsimp only;omega⟩
  have OL:k=i:=by have:=aH OL;omega
  have QW:=E8 (by rw[hLl];omega) hK;refine cD (cE hw (fun _ w' v w2=>v= .int .i64 (rs b.2.2)) (fun O w' r=>(BV (oS hS r) (hF.cI (kS hw r hS)))) ?_);rintro O _ _ _ OU r he hw h_ rfl;obtain⟨cf,hcf⟩:∃c,rs b.2.2=c:=⟨_,rfl⟩
  rw[hcf];refine dI.mk ?_ ?_<;>intro PM
  ·have PM:b.2.2<0:=by have:=aI PM;rw[<-ja];omega
   exact rtn hw fun ρe we re=>by show Value.int .i64 _=_;rw[eJ,aK (by omega),aK (by rw[hE];decide),aK (by rw[Oh];decide),VB,cU hx (show kv f.nodes.length (f.cV.take i) b=2 by rw[kv,if_pos OT,if_pos PS,aK QW,if_pos PM]) (by decide)]
  have PM:0<=b.2.2:=by have:=aH PM;rw[<-Rat.not_lt,<-ja];omega
  rw[ff hx (rQ.2 ⟨OT,PS,QW,PM⟩)]at VB;refine⟨((i+1:Nat):Int),wo,?_⟩;intro ρ3 w6 r3;exact⟨(i+1,w6,_),⟨OI,hw.tr r3.cQ,VB⟩,Sub.gn [] r3,by dsimp only;omega⟩
 have OI:i=f.cV.length:=aP hi (by simpa using OI);rw[gv (by omega)]at VB;exact rtn hw fun ρe we re=>by show Value.int .i64 _=_;rw[eJ,aK (by omega),aK (by rw[hE];decide),aK (by rw[Oh];decide),VB]
def rq(p:Int×Int):Rat:=ratio p.1 p.2
structure Hq where
 nodes:List (Int×Int×Int)
 bars:List (Int×Int×(Int×Int))
 cV:List (Int×Int×(Int×Int))
def Hr(p:Int×Int×(Int×Int)):Int×Int×Rat:=(p.1,p.2.1,rq p.2.2)
def Hq.val(f:Hq):ew:=⟨f.nodes,f.bars.map Hr,f.cV.map Hr⟩
def vQ(w:World)(S:Nat->Prop)(cs:List Value)(p:Int×Int×(Int×Int)):Prop:=∃b a n c b2 a2 n2 c2,cs=[.int .i64 p.1,.int .i64 p.2.1,.bool b,.slice a n c,.bool b2,.slice a2 n2 c2]∧iU w S (.agg #[.bool b,.slice a n c,.bool b2,.slice a2 n2 c2]) p.2.2.1 p.2.2.2
structure qp(w:World)(S:Nat->Prop)(vn vb vs:Value)(f:Hq):Prop where
 nodes:nS w S vn f.nodes
 bars:eN 6 vQ w S vb f.bars
 cV:eN 6 vQ w S vs f.cV
theorem vQ.cI{w2:World}(h:vQ w S cs p)(hk:∀g,S g->w2.heap[g]? =w.heap[g]?):vQ w2 S cs p:=by
 obtain⟨b,a,n,c,b2,a2,n2,c2,h1,h2⟩:=h;exact⟨b,a,n,c,b2,a2,n2,c2,h1,h2.cI hk⟩
theorem qp.cI{w2:World}{f:Hq}(h:qp w S vn vb vs f)(hk:∀g,S g->w2.heap[g]? =w.heap[g]?):qp w2 S vn vb vs f:=
 ⟨eN.cI (w:=w) (fun _ _ h=>h) h.nodes hk,eN.cI (fun _ _ h=>h.cI hk) h.bars hk,eN.cI (fun _ _ h=>h.cI hk) h.cV hk⟩
theorem vQ.few(h:vQ w S cs p)(hf:yr (cs.drop 2)):E2 w S cs (Hr p)∧rl (Hr p).2.2<=3:=by
 obtain⟨b,a,n,c,b2,a2,n2,c2,rfl,h2⟩:=h;obtain⟨h3,h4⟩:=h2.l3 hf;exact⟨⟨b,a,n,c,b2,a2,n2,c2,rfl,h3⟩,h4⟩
theorem eN.cells{α:Type}{k:Nat}{P:World->(Nat->Prop)->List Value->α->Prop}{xs:List α}(h:eN k P w S v xs):
  ∃css:List (List Value),css.length=xs.length∧eN k (fun w S cs (y:List Value×α)=>cs=y.1∧P w S cs y.2) w S v (css.zip xs)∧(∀(j:Nat) cs x,css[j]? =some cs->xs[j]? =some x->P w S cs x)∧
   ∀{β:Type} (Q:World->(Nat->Prop)->List Value->β->Prop) (ys:List β),ys.length=xs.length->(∀(j:Nat) cs y,css[j]? =some cs->ys[j]? =some y->Q w S cs y)->eN k Q w S v ys:=by
 obtain⟨css,h1,h2,h3,h4⟩:=h;have hz:(css.zip xs).length=xs.length:=by rw[List.length_zip,h2,Nat.min_self]
 refine⟨css,h2,⟨css,by rw[hz];exact h1,by rw[hz,h2],h3,fun j cs y k1 k2=>?_⟩,h4,fun Q ys hl hQ=>⟨css,by rw[hl];exact h1,by rw[hl,h2],h3,hQ⟩⟩;rw[List.getElem?_zip_eq_some]at k2;rw[k1]at k2;exact⟨by injection k2.1,h4 j cs _ k1 k2.2⟩
theorem Ny.of(h4:∀(j:Nat) cs x,css[j]? =some cs->xs[j]? =some x->vQ w S cs x)
  (hQ:∀{β:Type} (Q:World->(Nat->Prop)->List Value->β->Prop) (ys:List β),ys.length=xs.length->(∀(j:Nat) cs y,css[j]? =some cs->ys[j]? =some y->Q w S cs y)->eN 6 Q w S v ys)
  (hl:css.length=xs.length) (hf:∀j cs,j<xs.length->css[j]? =some cs->yr (cs.drop 2)):MC w S v (xs.map Hr)∧∀b∈xs.map Hr,rl b.2.2<=3:=by
 refine⟨hQ E2 _ (aJ ..) fun j cs y k1 k2=>?_,fun b hb=>?_⟩
 ·rw[aM]at k2;obtain⟨p,hp,rfl⟩:=Option.map_eq_some_iff.1 k2;exact((h4 j cs p k1 hp).few (hf j cs (aD.1 hp).1 k1)).1
 ·obtain⟨p,hp,rfl⟩:=aT.1 hb;obtain⟨j,hj⟩:=aR hp;have Tt:=(aD.1 hj).1;have hc:css[j]? =some css[j]:=aB (by omega);exact((h4 j _ p hc hj).few (hf j _ Tt hc)).2
set_option maxHeartbeats 1000000 in
theorem MH{f:Hq}(hS:Old S w)(hf:qp w S vn vb vs f):eD PG N.qK #[.agg #[vn,vb,vs]] w (eG w fun v' _=>∃d,v'= .bool d∧
  (d=true->dT w S vn vb vs f.val∧(∀b∈f.val.bars,rl b.2.2<=3)∧(∀b∈f.val.cV,rl b.2.2<=3)∧(eJ f.val≠0∨f.val.nodes.length<=4∧f.val.bars.length<=6))):=by
 have hw:=bR w;obtain⟨an,cn,rfl,hcn,Qj⟩:=hf.nodes.shape;obtain⟨bcs,Pr,hbz,Rn,hbQ⟩:=hf.bars.cells;obtain⟨qcs,Uq,hqz,hq4,hqQ⟩:=hf.cV.cells;obtain⟨ab,cb,rfl,QG,RJ⟩:=hf.bars.shape;obtain⟨aq,cq,rfl,hcq,R6⟩:=hf.cV.shape;refine Aq (by simp) ?_;refine dI.mk ?_ ?_<;>intro h0
 ·exact rtn hw fun ρe we re=>⟨_,rfl,fun h=>by cases h⟩
 have h0:=aH h0;refine dI.mk ?_ ?_<;>intro h1
 ·exact rtn hw fun ρe we re=>⟨_,rfl,fun h=>by cases h⟩
 have h1:=aH h1;refine dI.mk ?_ ?_<;>intro h2
 ·exact rtn hw fun ρe we re=>⟨_,rfl,fun h=>by cases h⟩
 have h2:=aH h2
 refine⟨Nat×World×Iv,fun z=>⟨[(1,pP 0 0),(3,iN z.1)],[(0,.box T.Frame [.v (.slice an f.nodes.length cn),.v (.slice ab f.bars.length cb),.v (.slice aq f.cV.length cq)])],1,z.2.2,z.2.1⟩,fun z=>f.bars.length-z.1,
  fun z=>z.1<=f.bars.length∧dm w.heap.size w z.2.1∧∀(j:Nat) (cs:List Value),j<z.1->bcs[j]? =some cs->yr (cs.drop 2),?_,?_⟩
 ·intro O w' r3;exact⟨(0,w',_),⟨aO _,hw.tr r3.cQ,fun j cs hj=>absurd hj (Nat.not_lt_zero j)⟩,Sub.gn [] r3⟩
 rintro⟨i,w1,iv⟩ ⟨hi,hw,hB⟩;dsimp only at hi hw hB ⊢;refine dI.mk ?_ ?_<;>intro OI
 ·have OI:i<f.bars.length:=by simpa using OI
  obtain⟨cs,PE⟩:∃cs,bcs[i]? =some cs:=⟨_,aB (by omega)⟩
  obtain⟨p,hp⟩:∃p,f.bars[i]? =some p:=⟨_,aB OI⟩
  obtain⟨g0,g1,g2,g3,g4,g5,g6,g7,rfl,-⟩:=Rn i cs p PE hp;obtain⟨adx,cs2,PS,⟨VA,-⟩,-,QV⟩:=hbz.load (by decide) (show (bcs.zip f.bars)[i]? =some (_,p) by rw[List.getElem?_zip_eq_some];exact⟨PE,hp⟩);have VA:cs2=[.int .i64 p.1,.int .i64 p.2.1,.bool g0,.slice g1 g2 g3,.bool g4,.slice g5 g6 g7]:=VA;subst VA;refine⟨adx,PS,by omega,[.bool g0,.slice g1 g2 g3,.bool g4,.slice g5 g6 g7],rfl,fun O w' r j u hu=>?_,?_⟩
  ·have Vh:=(aD.1 hu).1;obtain⟨k1,k2⟩:=QV (2+j) u (by rcases j with _|_|_|_|j<;>first|exact hu|(have:j+4<4:=Vh;omega));rw[cH (w:=w) (w2:=w') (by simp only[dD];exact(hw.tr r.cQ).block _ (hS _ k1))];simp only[aE,k7]at k2 ⊢
   first|exact k2|(rw [<-k2];congr 2;omega)
  refine cD (cE hw (fun _ w' v w2=>∃d,v= .bool d∧(d=true->yr [.bool g0,.slice g1 g2 g3,.bool g4,.slice g5 g6 g7])) (fun O w' r=>(JB (S:=fun g=>g=(O 1).g) (css:=[[.bool g0,.slice g1 g2 g3,.bool g4,.slice g5 g6 g7]]) (fun g hg=>by subst hg;exact Rel.lt r (id:=1) rfl) (r.lF (id:=1) (sz:=4) (n:=1) rfl rfl (by decide) (by repeat' first|refine List.forall_mem_cons.2 ⟨rfl,?_⟩|exact fun u hu=>absurd hu List.not_mem_nil)) (fun cs hc=>by rw[bB.1 hc];exact⟨_,_,_,_,_,_,_,_,rfl⟩)).mono fun _ _ ⟨v2,e1,e2,d,e3,e4⟩=>⟨v2,e1,e2,d,e3,fun h=>(e4 h).2 _ aG⟩) ?_);rintro O QA v1 Pg OP r he hw h_ ⟨d2,rfl,Ot⟩
  cases d2
  ·exact rtn hw fun ρe we re=>⟨_,rfl,fun h=>by cases h⟩
  have Oh:∀j cs,j<i+1->bcs[j]? =some cs->yr (cs.drop 2):=fun j cs hj hc=>by
   rcases aQ j i with h|h
   ·exact hB j cs h hc
   ·have:j=i:=by omega
    subst this;rw[PE]at hc;injection hc with hc;subst hc;exact Ot rfl
  refine⟨((i+1:Nat):Int),wo,?_⟩;intro ρ3 w6 r3;exact⟨(i+1,w6,_),⟨OI,hw.tr r3.cQ,Oh⟩,Sub.gn [] r3,by dsimp only;omega⟩
 have OI:i=f.bars.length:=aP hi (by simpa using OI);subst OI
 refine⟨Nat×World×Iv,fun z=>⟨[(1,pP 0 0),(4,iN z.1)],[(0,.box T.Frame [.v (.slice an f.nodes.length cn),.v (.slice ab f.bars.length cb),.v (.slice aq f.cV.length cq)])],1,z.2.2,z.2.1⟩,fun z=>f.cV.length-z.1,
  fun z=>z.1<=f.cV.length∧dm w.heap.size w z.2.1∧∀(j:Nat) (cs:List Value),j<z.1->qcs[j]? =some cs->yr (cs.drop 2),?_,?_⟩
 ·intro O w' r3;exact⟨(0,w',_),⟨aO _,hw.tr r3.cQ,fun j cs hj=>absurd hj (Nat.not_lt_zero j)⟩,Sub.gn [] r3⟩
 rintro⟨i,w1,iv⟩ ⟨hi,hw,hQ⟩;dsimp only at hi hw hQ ⊢;refine dI.mk ?_ ?_<;>intro OI
 ·have OI:i<f.cV.length:=by simpa using OI
  obtain⟨cs,PE⟩:∃cs,qcs[i]? =some cs:=⟨_,aB (by omega)⟩
  obtain⟨p,hp⟩:∃p,f.cV[i]? =some p:=⟨_,aB OI⟩
  obtain⟨g0,g1,g2,g3,g4,g5,g6,g7,rfl,-⟩:=hq4 i cs p PE hp;obtain⟨adx,cs2,PS,⟨VA,-⟩,-,QV⟩:=hqz.load (by decide) (show (qcs.zip f.cV)[i]? =some (_,p) by rw[List.getElem?_zip_eq_some];exact⟨PE,hp⟩);have VA:cs2=[.int .i64 p.1,.int .i64 p.2.1,.bool g0,.slice g1 g2 g3,.bool g4,.slice g5 g6 g7]:=VA;subst VA;refine⟨adx,PS,by omega,[.bool g0,.slice g1 g2 g3,.bool g4,.slice g5 g6 g7],rfl,fun O w' r j u hu=>?_,?_⟩
  ·have Vh:=(aD.1 hu).1;obtain⟨k1,k2⟩:=QV (2+j) u (by rcases j with _|_|_|_|j<;>first|exact hu|(have:j+4<4:=Vh;omega));rw[cH (w:=w) (w2:=w') (by simp only[dD];exact(hw.tr r.cQ).block _ (hS _ k1))];simp only[aE,k7]at k2 ⊢
   first|exact k2|(rw [<-k2];congr 2;omega)
  refine cD (cE hw (fun _ w' v w2=>∃d,v= .bool d∧(d=true->yr [.bool g0,.slice g1 g2 g3,.bool g4,.slice g5 g6 g7])) (fun O w' r=>(JB (S:=fun g=>g=(O 1).g) (css:=[[.bool g0,.slice g1 g2 g3,.bool g4,.slice g5 g6 g7]]) (fun g hg=>by subst hg;exact Rel.lt r (id:=1) rfl) (r.lF (id:=1) (sz:=4) (n:=1) rfl rfl (by decide) (by repeat' first|refine List.forall_mem_cons.2 ⟨rfl,?_⟩|exact fun u hu=>absurd hu List.not_mem_nil)) (fun cs hc=>by rw[bB.1 hc];exact⟨_,_,_,_,_,_,_,_,rfl⟩)).mono fun _ _ ⟨v2,e1,e2,d,e3,e4⟩=>⟨v2,e1,e2,d,e3,fun h=>(e4 h).2 _ aG⟩) ?_);rintro O QA v1 Pg OP r he hw h_ ⟨d2,rfl,Ot⟩
  cases d2
  ·exact rtn hw fun ρe we re=>⟨_,rfl,fun h=>by cases h⟩
  have Oh:∀j cs,j<i+1->qcs[j]? =some cs->yr (cs.drop 2):=fun j cs hj hc=>by
   rcases aQ j i with h|h
   ·exact hQ j cs h hc
   ·have:j=i:=by omega
    subst this;rw[PE]at hc;injection hc with hc;subst hc;exact Ot rfl
  refine⟨((i+1:Nat):Int),wo,?_⟩;intro ρ3 w6 r3;exact⟨(i+1,w6,_),⟨OI,hw.tr r3.cQ,Oh⟩,Sub.gn [] r3,by dsimp only;omega⟩
 have OI:i=f.cV.length:=aP hi (by simpa using OI);subst OI;obtain⟨kb,kb2⟩:=Ny.of Rn hbQ Pr hB;obtain⟨kq,kq2⟩:=Ny.of hq4 hqQ Uq hQ;have hR:dT w S (.slice an f.nodes.length cn) (.slice ab f.bars.length cb) (.slice aq f.cV.length cq) f.val:=⟨hf.nodes,kb,kq⟩
 refine cD (cE hw (fun _ w' v w2=>v= .int .i64 (eJ f.val)) (fun O w' r=>mU (oS hS r) (hR.cI (kS hw r hS))) ?_);rintro O _ _ _ OP r he hw h_ rfl;obtain⟨e,he⟩:∃e,eJ f.val=e:=⟨_,rfl⟩
 rw[he];refine dI.mk ?_ ?_<;>intro hd
 ·have hd:e≠0:=by simpa using hd
  exact rtn hw fun ρe we re=>⟨_,rfl,fun _=>⟨hR,kb2,kq2,.inl hd⟩⟩
 have hd:e=0:=by simpa using hd
 refine dI.mk ?_ ?_<;>intro h4
 ·have h4:=aI h4;exact rtn hw fun ρe we re=>⟨_,rfl,fun h=>⟨hR,kb2,kq2,.inr ⟨by show f.nodes.length<=4;omega,by show(f.bars.map Hr).length<=6;rw[aJ];have:=aI h;omega⟩⟩⟩
 exact rtn hw fun ρe we re=>⟨_,rfl,fun h=>by cases h⟩
section
variable{xs:List Rat}{l:List (Rat×Rat)}{i:Nat}{x:Rat}{r:Rat×Rat}
end
theorem jC(hf:dT w S vn vb vs f)(h60:f.bars.length<=60∧f.cV.length<=60):eD PG N.qN #[.agg #[vn,vb,vs]] w (eG w fun v' _=>v'= .int .i64 f.cols):=by
 have hw:=bR w;obtain⟨an,cn,ab,cb,aq,cq,rfl,rfl,rfl,Qj,RJ,R6⟩:=hf.shape;refine uu (by simp) ?_;refine⟨((f.bars.length+f.cV.length:Nat):Int),wo,?_⟩;exact rtn hw fun ρe we re=>rfl
section
variable{S:Nat->Prop}{w w1 w':World}{H:Hp}{nx:Nat}{iv:Iv}{O:Nat->Sx.di}
theorem KF{f:Hq}(hS:Old S w)(hw:dm w.heap.size w w1)(r:Rel H nx iv w.heap.size w1 O w')(hf:qp w S vn vb vs f):eD PG N.qK #[.agg #[vn,vb,vs]] w' (eG w' fun v' _=>∃d,v'= .bool d∧
  (d=true->dT w S vn vb vs f.val∧(∀b∈f.val.bars,rl b.2.2<=3)∧(∀b∈f.val.cV,rl b.2.2<=3)∧(eJ f.val≠0∨f.val.nodes.length<=4∧f.val.bars.length<=6))):=
 have hk:∀g,S g->w'.heap[g]? =w.heap[g]? :=fun g hg=>(hw.tr r.cQ).block g (hS g hg)
 (MH (S:=S) (oS hS r) (hf.cI hk)).mono fun _ _ ⟨v2,e1,e2,d,e3,e4⟩=>⟨v2,e1,e2,d,e3,fun h=>⟨(e4 h).1.cI fun g hg=>(hk g hg).symm,(e4 h).2⟩⟩
end
end Go.Ex
namespace Go.Ex
end Go.Ex
namespace Go.Ex
open Go Go.Sx Go.Proofs
variable{b:Int×Int×Rat}{S:Nat->Prop}{f:ew}
theorem KG{n:Nat}(h:n<9223372036854775807):ln n<=2:=by have:=mV (n:=(n:Int)) (by omega) (by omega);rwa [Int.natAbs_natCast]at this
theorem MJ(h:eJ f=0)(hb:b∈f.bars):b.1≠b.2.1∧0<b.2.2:=by
 obtain⟨_,_,Q3,_⟩:=wL h;obtain⟨k,hk⟩:=aR hb;have:=np.1 (ga Q3 k b hk);exact⟨this.2.1,this.2.2.2⟩
structure aB5{α:Type}(k:Nat)(P:World->(Nat->Prop)->List Value->α->Prop)(w:World)(S:Nat->Prop)(css:List (List Value))(qs:List α):Prop where
 len:css.length=qs.length
 wid:∀cs∈css,cs.length=k
 at_:∀(j:Nat) cs q,css[j]? =some cs->qs[j]? =some q->P w S cs q
section
variable{α:Type}{k:Nat}{P:World->(Nat->Prop)->List Value->α->Prop}{w w2:World}{S S':Nat->Prop}{css:List (List Value)}{qs:List α}
end
theorem NW{n:Int}(h:n.natAbs<9223372036854775807):rl (n:Rat)<=2:=by
 have h2:ln n.natAbs<=2:=KG h;unfold rl;rw[Rat.num_intCast,Rat.den_intCast];have h3:ln 1=1:=by decide
 omega
set_option maxHeartbeats 1000000 in
theorem CI{w:World}{vn vb vs:Value}{i:Nat}(hS:Old S w)(hf:dT w S vn vb vs f)(OM:vM f)(hb:f.bars[i]? =some b):
  eD PG N.oB #[.agg #[vn,vb,vs],.int .i64 i] w (eG w fun v' _=>v'= .agg #[.int .i64 ((f.node b.2.1).1-(f.node b.1).1),.int .i64 ((f.node b.2.1).2.1-(f.node b.1).2.1),.int .i64 ((f.node b.2.1).2.2-(f.node b.1).2.2)]):=by
 have hw:=bR w;obtain⟨an,cn,ab,cb,aq,cq,rfl,rfl,rfl,Qj,RJ,R6⟩:=hf.shape;obtain⟨Ux,UC,UD⟩:=And.intro OM.n (And.intro OM.b OM.s);have OI:=(aD.1 hb).1;obtain⟨hA,hB⟩:=OM.NH b (aC hb);obtain⟨ka,pa,ea,hka,hpa,WH,⟨_,_⟩,⟨_,_⟩,⟨_,_⟩⟩:=OM.node hA.1 hA.2;obtain⟨kb,pb,eb,OL,Vf,WI,⟨_,_⟩,⟨_,_⟩,⟨_,_⟩⟩:=OM.node hB.1 hB.2;obtain⟨adx,csx,PS,Rs,-,Oo⟩:=hf.bars.load (by decide) hb;obtain⟨g0,g1,g2,g3,g4,g5,g6,g7,rfl,-⟩:=Rs;obtain⟨ada,csa,haa,hPa,-,QC⟩:=hf.nodes.load (by decide) hpa;obtain⟨adb,csb,Py,hPb,-,Oq⟩:=hf.nodes.load (by decide) Vf;have hPa:csa=[.int .i64 pa.1,.int .i64 pa.2.1,.int .i64 pa.2.2]:=hPa;have hPb:csb=[.int .i64 pb.1,.int .i64 pb.2.1,.int .i64 pb.2.2]:=hPb;subst hPa hPb;rw[WH,WI];rw[ea,eb]at Oo;refine rp (by simp) ?_;refine iz hτ da (.x 0 (.x 2 (.x 4 (.x 10 (.x 12 (.x 14 (.ld 1 12583680 (.ld 3 12583904 (.x 5 (.x 6 (.ld 7 12583680 (.x 8 (.ld 9 12582912 (.ld 11 9175040 (.ld 13 9404416 (.x 15 (.x 16 (.ld 17 9175040 (.x 18 (.ld 19 8388608 (.two 20 (.x 21 (.x 22 (.x 23 .nil))) 21 (.x 20 (.x 22 (.x 23 .nil)))))))))))))))))))))))) (by kernel_rfl) (by kernel_rfl) ?_;refine⟨adx,PS,by omega,.int .i64 (ka:Int),fun O w' r=>?_,?_⟩
 ·obtain⟨k1,k2⟩:=Oo 0 _ rfl;rw[cH (w:=w) (w2:=w') (by simp only[dD];exact(hw.tr r.cQ).block _ (hS _ k1))];simp only[aE,k7]at k2 ⊢;exact k2
 refine⟨ada,haa,by omega,[.int .i64 pa.1,.int .i64 pa.2.1,.int .i64 pa.2.2],rfl,rdO QC hw hS,adx,PS,by omega,.int .i64 (kb:Int),fun O w' r=>?_,?_⟩
 ·obtain⟨k1,k2⟩:=Oo 1 _ rfl;rw[cH (w:=w) (w2:=w') (by simp only[dD];exact(hw.tr r.cQ).block _ (hS _ k1))];simp only[aE,k7]at k2 ⊢;exact k2
 refine⟨adb,Py,by omega,[.int .i64 pb.1,.int .i64 pb.2.1,.int .i64 pb.2.2],rfl,rdO Oq hw hS,?_,?_⟩
 ·conv=>whnf
  refine⟨[.int .i64 pb.1,.int .i64 pb.2.1,.int .i64 pb.2.2],rfl,rdO Oq hw hS,rfl,.int .i64 (kb:Int),fun O w' r=>?_,?_⟩
  ·obtain⟨k1,k2⟩:=Oo 1 _ rfl;rw[cH (w:=w) (w2:=w') (by simp only[dD];exact(hw.tr r.cQ).block _ (hS _ k1))];simp only[aE,k7]at k2 ⊢;exact k2
  refine⟨rfl,rfl,rfl,[.int .i64 pa.1,.int .i64 pa.2.1,.int .i64 pa.2.2],rfl,rdO QC hw hS,rfl,.int .i64 (ka:Int),fun O w' r=>?_,?_⟩
  ·obtain⟨k1,k2⟩:=Oo 0 _ rfl;rw[cH (w:=w) (w2:=w') (by simp only[dD];exact(hw.tr r.cQ).block _ (hS _ k1))];simp only[aE,k7]at k2 ⊢;exact k2
  refine⟨rfl,rfl,rfl,[.int .i64 pb.1,.int .i64 pb.2.1,.int .i64 pb.2.2],rfl,rdO Oq hw hS,rfl,.int .i64 (kb:Int),fun O w' r=>?_,?_⟩
  ·obtain⟨k1,k2⟩:=Oo 1 _ rfl;rw[cH (w:=w) (w2:=w') (by simp only[dD];exact(hw.tr r.cQ).block _ (hS _ k1))];simp only[aE,k7]at k2 ⊢;exact k2
  refine⟨rfl,rfl,rfl,[.int .i64 pa.1,.int .i64 pa.2.1,.int .i64 pa.2.2],rfl,rdO QC hw hS,rfl,.int .i64 (ka:Int),fun O w' r=>?_,?_⟩
  ·obtain⟨k1,k2⟩:=Oo 0 _ rfl;rw[cH (w:=w) (w2:=w') (by simp only[dD];exact(hw.tr r.cQ).block _ (hS _ k1))];simp only[aE,k7]at k2 ⊢;exact k2
  refine⟨rfl,rfl,rfl,[.int .i64 pb.1,.int .i64 pb.2.1,.int .i64 pb.2.2],rfl,rdO Oq hw hS,rfl,.int .i64 (kb:Int),fun O w' r=>?_,?_⟩
  ·obtain⟨k1,k2⟩:=Oo 1 _ rfl;rw[cH (w:=w) (w2:=w') (by simp only[dD];exact(hw.tr r.cQ).block _ (hS _ k1))];simp only[aE,k7]at k2 ⊢;exact k2
  refine⟨rfl,rfl,rfl,pb.1-pa.1,wo,pb.2.1-pa.2.1,wo,pb.2.2-pa.2.2,wo,?_⟩;exact rtn hw fun ρe we re=>rfl
 ·conv=>whnf
  refine⟨[.int .i64 pb.1,.int .i64 pb.2.1,.int .i64 pb.2.2],rfl,rdO Oq hw hS,rfl,.int .i64 (kb:Int),fun O w' r=>?_,?_⟩
  ·obtain⟨k1,k2⟩:=Oo 1 _ rfl;rw[cH (w:=w) (w2:=w') (by simp only[dD];exact(hw.tr r.cQ).block _ (hS _ k1))];simp only[aE,k7]at k2 ⊢;exact k2
  refine⟨rfl,rfl,rfl,[.int .i64 pa.1,.int .i64 pa.2.1,.int .i64 pa.2.2],rfl,rdO QC hw hS,rfl,.int .i64 (ka:Int),fun O w' r=>?_,?_⟩
  ·obtain⟨k1,k2⟩:=Oo 0 _ rfl;rw[cH (w:=w) (w2:=w') (by simp only[dD];exact(hw.tr r.cQ).block _ (hS _ k1))];simp only[aE,k7]at k2 ⊢;exact k2
  refine⟨rfl,rfl,rfl,[.int .i64 pb.1,.int .i64 pb.2.1,.int .i64 pb.2.2],rfl,rdO Oq hw hS,rfl,.int .i64 (kb:Int),fun O w' r=>?_,?_⟩
  ·obtain⟨k1,k2⟩:=Oo 1 _ rfl;rw[cH (w:=w) (w2:=w') (by simp only[dD];exact(hw.tr r.cQ).block _ (hS _ k1))];simp only[aE,k7]at k2 ⊢;exact k2
  refine⟨rfl,rfl,rfl,[.int .i64 pa.1,.int .i64 pa.2.1,.int .i64 pa.2.2],rfl,rdO QC hw hS,rfl,.int .i64 (ka:Int),fun O w' r=>?_,?_⟩
  ·obtain⟨k1,k2⟩:=Oo 0 _ rfl;rw[cH (w:=w) (w2:=w') (by simp only[dD];exact(hw.tr r.cQ).block _ (hS _ k1))];simp only[aE,k7]at k2 ⊢;exact k2
  refine⟨rfl,rfl,rfl,[.int .i64 pb.1,.int .i64 pb.2.1,.int .i64 pb.2.2],rfl,rdO Oq hw hS,rfl,.int .i64 (kb:Int),fun O w' r=>?_,?_⟩
  ·obtain⟨k1,k2⟩:=Oo 1 _ rfl;rw[cH (w:=w) (w2:=w') (by simp only[dD];exact(hw.tr r.cQ).block _ (hS _ k1))];simp only[aE,k7]at k2 ⊢;exact k2
  refine⟨rfl,rfl,rfl,pb.1-pa.1,wo,pb.2.1-pa.2.1,wo,pb.2.2-pa.2.2,wo,?_⟩;exact rtn hw fun ρe we re=>rfl
section
variable{S S':Nat->Prop}{H:Hp}{nx:Nat}{iv iv':Iv}{B:Nat}{w w' w2:World}{O:Nat->Sx.di}{v:Value}{l:List (Rat×Rat)}
end
end Go.Ex
namespace Go.Ex
abbrev I3:=Int×Int×Int
def Mz(p:I3):Prop:=nX p.1∧nX p.2.1∧nX p.2.2
instance (p : I3) : Decidable (Mz p) := by unfold Mz; infer_instance
end Go.Ex
namespace Go.Ex
open Go Go.Sx Go.Proofs
end Go.Ex
namespace Go.Sx
open Go Go.Ex Go.Proofs
variable{vs:List Value}{O:Nat->Sx.di}
theorem Sub.aBY{B nx:Nat}{l:Env}{H:Hp}{iv:Iv}{w w':World}{t:z6}(id:Nat){bt:Nat}(Ox:dE H id=some (.box bt (vs.map At.v)))(r:Rel H nx iv B w O w')
  (h:Rel ((id,.arr bt vs)::H) nx iv B w O w'->Sx.Sub B l nx O w' t):Sx.Sub B l nx O w' t:=by
 have hnn:=r.nn id _ Ox (by intros;simp) (by simp);have Oy:=r.box id bt _ Ox;have Qv:(vs.map At.v).map (At.den O)=vs:=by
  rw[List.map_map];exact List.map_id _
 rw[Qv]at Oy
 exact h (r.store (b':=.arr bt vs) (H':=(id,.arr bt vs)::H) (w2:=w') Ox (by simp) hnn (fun j=>by
  rw[dA];by_cases hj:id=j
  ·subst hj;simp
  ·rw[aK hj,aK (fun h=>hj h.symm)]) rfl rfl rfl rfl (fun _ _=>rfl) ⟨hnn,Oy⟩ trivial)
end Go.Sx
namespace Go.Ex
open Go Go.Sx Go.Proofs
abbrev aBC(x:Ld):Value:=.agg #[.int .i64 x.1,.int .i64 x.2.1,.int .i64 x.2.2.1,.int .i64 x.2.2.2]
abbrev ec:=c9 (fu)
end Go.Ex
namespace Go.Ex
open Go Go.Sx Go.Proofs
variable{cs:List (List Ld)}{S:Nat->Prop}
theorem KH(x:Ld)(w:World):eD PG N.ua #[aBC x] w (eG w fun v' _=>∃d,v'= .bool d∧(d=true↔Mz x.2)):=by
 have hw:=bR w;obtain⟨x0,x1,x2,x3⟩:=x;refine ya (by simp) ?_;refine cD (cE hw (fun _ w' v w2=>∃d,v= .bool d∧(d=true↔ -1000000<=x1∧x1<=1000000)) (fun O w' r=>jB _ _ _ w') ?_);rintro O _ _ _ OP r he hw h_ ⟨d0,rfl,OT⟩
 cases d0
 ·have OT:¬nX x1:=fun h=>by have:=OT.2 h;cases this
  exact rtn hw fun ρe we re=>⟨_,rfl,(fun h=>by cases h),fun h=>absurd h.1 OT⟩
 replace OT:nX x1:=OT.1 rfl;refine cD (cE hw (fun _ w' v w2=>∃d,v= .bool d∧(d=true↔ -1000000<=x2∧x2<=1000000)) (fun O w' r=>jB _ _ _ w') ?_);rintro O _ _ _ ON r he hw h_ ⟨d1,rfl,OV⟩
 cases d1
 ·have OV:¬nX x2:=fun h=>by have:=OV.2 h;cases this
  exact rtn hw fun ρe we re=>⟨_,rfl,(fun h=>by cases h),fun h=>absurd h.2.1 OV⟩
 replace OV:nX x2:=OV.1 rfl;refine cD (cE hw (fun _ w' v w2=>∃d,v= .bool d∧(d=true↔ -1000000<=x3∧x3<=1000000)) (fun O w' r=>jB _ _ _ w') ?_);rintro O _ _ _ OU r he hw h_ ⟨d2,rfl,Ot⟩
 cases d2
 ·have Ot:¬nX x3:=fun h=>by have:=Ot.2 h;cases this
  exact rtn hw fun ρe we re=>⟨_,rfl,(fun h=>by cases h),fun h=>absurd h.2.2 Ot⟩
 replace Ot:nX x3:=Ot.1 rfl;exact rtn hw fun ρe we re=>⟨_,rfl,fun _=>⟨OT,OV,Ot⟩,fun _=>rfl⟩
theorem ec.cI{w w2:World}{v:Value}(h:ec w S v cs)(hk:∀g,S g->w2.heap[g]? =w.heap[g]?):ec w2 S v cs:=by
 obtain⟨rv,h1,h2,h3⟩:=h;exact⟨rv,h1.cI hk,h2,fun i u x k1 k2=>fu.cI (h3 i u x k1 k2) hk⟩
section
variable{S S':Nat->Prop}{H:Hp}{nx:Nat}{iv iv':Iv}{B:Nat}{w w' w2:World}{O:Nat->Sx.di}{v:Value}{l:List Ld}
end
end Go.Ex
namespace Go.Ex
variable{d:Int}{b:Int×Int×Rat}{M:List (List Rat)}{l x0 φ:List Rat}{K j n:Nat}{y:Nat->Rat}{D:Rat}{f:ew}
theorem rN{a b:Rat}(ha:a≠0)(hb:b≠0):a*b≠0:=fun e=>by
 rcases Rat.mul_eq_zero.1 e with h|h
 ·exact ha h
 ·exact hb h
def Den(K:Nat)(D:Rat)(l:List Rat):Prop:=D≠0∧Ib K D∧∀t,Ib K (D*l.getD t 0)
def HX(K:Nat)(D:Rat)(M:List (List Rat)):Prop:=D≠0∧Ib K D∧∀k t,Ib K (D*dF M k t)
theorem Den.rl(h:Den K D l):∀q∈l,rl q<=ln K:=fun q hq=>by
 obtain⟨j,hj⟩:=aR hq;have:=zF h.1 h.2.1 (h.2.2 j)
 rwa [List.getD,hj]at this
theorem HX.rl(h:HX K D M):∀r∈M,∀q∈r,rl q<=ln K:=fun r hr q hq=>by
 obtain⟨k,hk⟩:=aR hr;obtain⟨j,hj⟩:=aR hq;have:=zF h.1 h.2.1 (h.2.2 k j)
 rwa [dF,show M.getD k []=r by rw[List.getD,hk];rfl,List.getD,hj]at this
theorem gZ{t:Nat}(h:l.length<=t):l.getD t 0=0:=by rw[List.getD,List.getElem?_eq_none h];rfl
theorem ND{k t:Nat}(hM:fZ n M)(h:n<=t):dF M k t=0:=by
 rw[dF];rcases aQ k M.length with hk|hk
 ·exact gZ (by rw[hM.getD hk];exact h)
 ·rw[show M.getD k []=[] by rw[List.getD,List.getElem?_eq_none hk];rfl];rfl
theorem LQ{k t:Nat}(h:M.length<=k):dF M k t=0:=by
 rw[dF,show M.getD k []=[] by rw[List.getD,List.getElem?_eq_none h];rfl];rfl
section
variable{M:List (List Rat)}{n B:Nat}{b:List Rat}
theorem Ia(hM:fZ n M)(hW:Bp M n B)(hB:1<=B){c:Nat}(hc:c<=n):∃D:Rat,D≠0∧Ib (fB B M.length) D∧∀i t,i<(cM M c).2.length->t<n->Ib (fB B M.length) (D*dF (cM M c).1 i t):=by
 obtain⟨σ,Z,h⟩:=qH hM hW c hc;have hle:=h.red.2.1;rw[h.len]at hle;have hm:=rL hB hle;exact⟨_,h.AK.nz,h.AK.den.mono hm,fun i t hi ht=>(h.AK.ent hi ht).mono hm⟩
theorem NF(hM:fZ n M)(hW:Bp M n B)(hB:1<=B):∃D,HX (fB B M.length) D (cT M n):=by
 obtain⟨D,h0,hD,hE⟩:=Ia hM hW hB (aF n);obtain⟨r1,r2,r3,r4,r5⟩:=dV hM n (aF _);have RQ:=iK M n;refine⟨D,h0,hD,fun k t=>?_⟩;rcases aQ k (cT M n).length with hk|hk
 ·rcases aQ t n with ht|ht
  ·have hf:=mF.1 (qG (by rw[<-mH];exact hk));rw[dF,AM M n hk];generalize (jO (cM M n).2 n).getD k 0=c at hf;by_cases hp:t∈(cM M n).2
   ·obtain⟨j,hj,rfl⟩:=tB hp;rw[o9 (F:=fo (cM M n).1 (cM M n).2 n c) (f:=fun i=> -(dF (cM M n).1 i c)) (fun i=>gX _ _ n c i) (k9 _ _ n c) RQ.2.1 r4 _ (aF _) hj,show D* -(dF (cM M n).1 j c)= -(D*dF (cM M n).1 j c) by grind];exact(hE j c hj hf.1).neg
   ·rw[qF hp hf.1];split
    ·rw[Rat.mul_one];exact hD
    ·rw[bD];exact Ib.zero _
  ·rw[ND (j7 M n) ht,bD];exact Ib.zero _
 ·rw[LQ hk,bD];exact Ib.zero _
theorem AP{x:List Rat}(hM:fZ n M)(hW:Bp (dL M b) (n+1) B)(hB:1<=B)(h:eW M b n=some x):∃D,Den (fB B M.length) D x:=by
 obtain⟨D,h0,hD,hE⟩:=Ia (gI (b:=b) hM) hW hB (Nat.le_succ n);rw[dy]at hD hE;obtain⟨r1,r2,r3,r4,r5⟩:=dV (gI (b:=b) hM) n (Nat.le_succ _);have RQ:=iK (dL M b) n;unfold eW at h;dsimp only at h;split at h
 ·injection h with h;subst h;refine⟨D,h0,hD,fun t=>?_⟩;by_cases hp:t∈(cM (dL M b) n).2
  ·obtain⟨j,hj,rfl⟩:=tB hp;rw[o9 (F:=gA (cM (dL M b) n).1 (cM (dL M b) n).2 n) (f:=fun i=>dF (cM (dL M b) n).1 i n) (fun i=>gY _ _ n i) (jU _ _ n) RQ.2.1 r4 _ (aF _) hj];exact hE j n hj (by omega)
  ·rw[uF hp,bD];exact Ib.zero _
 ·cases h
end
def kl(φ:List Rat):Nat->Rat
 |0=>1
 |t+1=>kl φ t*((φ.getD t 0).den:Rat)
theorem Fh(φ:List Rat):∀k,kl φ k≠0
 |0=>by show(1:Rat)≠0;decide
 |k+1=>rN (Fh φ k) (by have:=(φ.getD k 0).den_nz;exact_mod_cast this)
theorem AQ{φ:List Rat}{B:Nat}(h:∀t,(φ.getD t 0).den<=B):∀k,Ib (B^k) (kl φ k)
 |0=>Ib.one (aF _)
 |k+1=>by
  rw[Nat.pow_succ];exact(AQ h k).mul ⟨((φ.getD k 0).den:Int),rfl,by rw[Int.natAbs_natCast];exact h k⟩
theorem Ic(q:Rat):(q.den:Rat)*q=(q.num:Rat):=by
 have h:=Rat.num_divInt_den q;have h0:((q.den:Int):Rat)≠0:=by have:=q.den_nz;exact_mod_cast this
 rw[Rat.divInt_eq_div]at h;have h1:(q.num:Rat) / ((q.den:Int):Rat)*((q.den:Int):Rat)=(q.num:Rat):=Rat.div_mul_cancel h0;rw[h,bl]at h1;exact h1
theorem Cl{φ:List Rat}{B:Nat}(h:∀t,(φ.getD t 0).den<=B)(hn:∀t,(φ.getD t 0).num.natAbs<=B)(hB:1<=B):∀k t,t<k->Ib (B^k) (kl φ k*φ.getD t 0)
 |0,t,ht=>by omega
 |k+1,t,ht=>by
  rw[kl,Nat.pow_succ];rcases aQ t k with h1|h1
  ·rw[show ∀a b c:Rat,a*b*c=(a*c)*b from fun a b c=>by grind];exact(Cl h hn hB k t h1).mul ⟨((φ.getD k 0).den:Int),rfl,by rw[Int.natAbs_natCast];exact h k⟩
  ·rw[show t=k by omega,Rat.mul_assoc,Ic];exact(AQ h k).mul (Ib.int (hn k))
theorem lD{l:Nat}:1<=wt l:=zi l
theorem Ie{q:Rat}{l:Nat}(h:rl q<=l):q.num.natAbs<wt l∧q.den<wt l:=⟨gP.1 (aY (fp q) h),gP.1 (aY (aAT q) h)⟩
theorem LR(l k:Nat):wt l^k=wt (l*k):=by rw[wD,wD,<-Nat.pow_mul,bg]
theorem LS(hl:φ.length<=n)(h:∀q∈φ,rl q<=3):Den (wt (3*n)) (kl φ n) φ:=by
 have h3:∀t,rl (φ.getD t 0)<=3:=fun t=>by
  rw[List.getD]
  cases ht:φ[t]? with
  |none=>show rl 0<=3;decide
  |some q=>exact h q (aC ht)
 have h1:∀t,(φ.getD t 0).den<=wt 3:=fun t=>Nat.le_of_lt (Ie (h3 t)).2;have h2:∀t,(φ.getD t 0).num.natAbs<=wt 3:=fun t=>Nat.le_of_lt (Ie (h3 t)).1;refine⟨Fh φ n,by rw[<-LR];exact AQ h1 n,fun t=>?_⟩;rcases aQ t n with ht|ht
 ·rw[<-LR];exact Cl h1 h2 lD n t ht
 ·rw[gZ (by omega),bD];exact Ib.zero _
theorem getD_some{α:Type}{l:List α}{i:Nat}{x d:α}(h:l[i]? =some x):l.getD i d=x:=by rw[List.getD,h];rfl
structure wH(M:List (List Rat))(n:Nat)(φ:Nat->Rat):Prop where
 len:fZ n M
 pos:∀t,t<n->0<=φ t
 aAq:∀x:Nat->Rat,(∀j,j<M.length->mulR M n x j=0)->cZ (fun t=>φ t*(x t*x t)) n=0->∀t,t<n->x t=0
theorem Fi(M:List (List Rat))(n:Nat)(x y:Nat->Rat)(j:Nat):mulR M n (fun t=>x t+y t) j=mulR M n x j+mulR M n y j:=by
 unfold mulR;rw[<-gJ];exact cL fun t _=>by grind
theorem LU(M:List (List Rat))(n:Nat)(x:Nat->Rat)(c:Rat)(j:Nat):mulR M n (fun t=>c*x t) j=c*mulR M n x j:=by
 unfold mulR;rw[<-eo];exact cL fun t _=>by grind
theorem Fj(M:List (List Rat))(n:Nat)(S:Mx)(c:Nat->Rat)(j s:Nat):mulR M n (fun t=>cZ (fun k=>c k*S k t) s) j=cZ (fun k=>c k*mulR M n (S k) j) s:=by
 induction s with
 |zero=>exact(cL (g:=fun _=>0) fun t _=>bD _).trans (dw n)
 |succ s ih=>
  show mulR M n (fun t=>cZ (fun k=>c k*S k t) s+c s*S s t) j=cZ (fun k=>c k*mulR M n (S k) j) s+c s*mulR M n (S s) j;rw[Fi,LU,ih]
theorem tI{x:Nat->Rat}(h:∀t,t<n->x t=y t)(j:Nat):mulR M n x j=mulR M n y j:=cL fun t ht=>by rw[h t ht]
def uP(φ x y:Nat->Rat)(n:Nat):Rat:=cZ (fun t=>φ t*(x t*y t)) n
theorem uQ(φ x y:Nat->Rat)(n:Nat):uP φ x y n=uP φ y x n:=cL fun t _=>by grind
theorem Ig(φ x y z:Nat->Rat)(n:Nat):uP φ x (fun t=>y t+z t) n=uP φ x y n+uP φ x z n:=by
 unfold uP;rw[<-gJ];exact cL fun t _=>by grind
theorem uR(φ x:Nat->Rat)(S:Mx)(c:Nat->Rat)(n s:Nat):uP φ x (fun t=>cZ (fun k=>c k*S k t) s) n=cZ (fun k=>c k*uP φ x (S k) n) s:=by
 unfold uP;rw[cL (g:=fun t=>cZ (fun k=>c k*(φ t*(x t*S k t))) s) fun t _=>by rw[<-eo,<-eo];exact cL fun k _=>by grind,nk];exact cL fun k _=>by rw[eo]
theorem wI{φ x x' y':Nat->Rat}(h1:∀t,t<n->x t=x' t)(h2:∀t,t<n->y t=y' t):uP φ x y n=uP φ x' y' n:=cL fun t ht=>by rw[h1 t ht,h2 t ht]
section
variable{M:List (List Rat)}{n:Nat}{φ:Nat->Rat}{b:List Rat}
def Ih(M:List (List Rat))(n:Nat)(φ:Nat->Rat)(i j:Nat):Rat:=uP φ (dF (cT M n) i) (dF (cT M n) j) n
theorem wH.LV(h:wH M n φ){c:Nat->Rat}(hc:∀i,i<(cT M n).length->cZ (fun j=>Ih M n φ i j*c j) (cT M n).length=0):∀i,i<(cT M n).length->c i=0:=by
 obtain⟨y,hy⟩:∃y:Nat->Rat,y=fun t=>cZ (fun k=>c k*dF (cT M n) k t) (cT M n).length:=⟨_,rfl⟩
 have Un:∀j,j<M.length->mulR M n y j=0:=fun j hj=>by
  rw[hy,Fj,cL (g:=fun _=>0) fun k hk=>by rw[uO h.len hk j hj,bD],dw]
 have hw:∀i,i<(cT M n).length->uP φ (dF (cT M n) i) y n=0:=fun i hi=>by
  rw[hy,uR,<-hc i hi];exact cL fun k _=>bl _ _
 have h0:uP φ y y n=0:=by
  have:uP φ y y n=cZ (fun k=>c k*uP φ y (dF (cT M n) k) n) (cT M n).length:=by
   rw[<-uR,<-hy]
  rw[this,cL (g:=fun _=>0) fun k hk=>by rw[uQ,hw k hk,bD],dw]
 exact I9 (M:=M) fun t ht=>by
  have:=h.aAq y Un h0 t ht;rw[hy]at this;exact this
theorem wH.only(h:wH M n φ){x:Nat->Rat}(hx:∀j,j<M.length->mulR M n x j=0)(hs:∀k,k<(cT M n).length->uP φ (dF (cT M n) k) x n=0):∀t,t<n->x t=0:=by
 obtain⟨c,hc⟩:=I8 h.len hx;have h0:uP φ x x n=0:=by
  rw[wI (x':=x) (fun _ _=>rfl) hc,uR,cL (g:=fun _=>0) fun k hk=>by rw[uQ,hs k hk,bD],dw]
 exact h.aAq x hx h0
def jy(M:List (List Rat))(n:Nat)(φ:Nat->Rat):List (List Rat):=M++(cT M n).map fun s=>(List.range n).map fun t=>φ t*s.getD t 0
theorem rO(hM:fZ n M):fZ n (jy M n φ):=fun r hr=>by
 rcases bK.1 hr with hr|hr
 ·exact hM r hr
 ·obtain⟨s,hs,rfl⟩:=aT.1 hr;simp
theorem jI:(jy M n φ).length=M.length+(cT M n).length:=by unfold jy;rw[List.length_append,aJ]
theorem Cm{t:Nat}(hj:j<M.length):dF (jy M n φ) j t=dF M j t:=by
 have h:(jy M n φ)[j]? =M[j]? :=aL hj;rw[aB hj]at h;rw[dF,dF,getD_some h,getD_some (aB hj)]
theorem Cn{k t:Nat}(hk:k<(cT M n).length)(ht:t<n):dF (jy M n φ) (M.length+k) t=φ t*dF (cT M n) k t:=by
 have hr:=aB hk;have h:(jy M n φ)[M.length+k]? =some ((List.range n).map fun t=>φ t*(cT M n)[k].getD t 0):=by
  unfold jy;rw[aN (Nat.le_add_right _ _),Nat.add_sub_cancel_left,aM,hr];rfl
 rw[dF,dF,getD_some h,getD_some hr];exact getD_some (by rw[aM,bh ht];rfl)
theorem Co{x:Nat->Rat}{k:Nat}(hk:k<(cT M n).length):mulR (jy M n φ) n x (M.length+k)=uP φ (dF (cT M n) k) x n:=by
 unfold mulR uP;exact cL fun t ht=>by rw[Cn hk ht,Rat.mul_assoc]
theorem AR{x:Nat->Rat}(hj:j<M.length):mulR (jy M n φ) n x j=mulR M n x j:=by
 unfold mulR;exact cL fun t _=>by rw[Cm hj]
theorem wH.inj(h:wH M n φ):Inj (jy M n φ) n:=fun x hx t ht=>by
 refine h.only (fun j hj=>?_) (fun k hk=>?_) t ht
 ·rw[<-AR hj];exact hx j (by rw[jI];omega)
 ·rw[<-Co hk];exact hx _ (by rw[jI];omega)
def iM(k:Nat):List Rat:=List.replicate k 0
theorem ko(b:List Rat)(k j:Nat):(b++iM k).getD j 0=b.getD j 0:=by
 unfold iM;rcases aQ j b.length with h|h
 ·rw[List.getD,aL h,<-List.getD]
 ·rw[gZ h,List.getD,aN h,List.getElem?_replicate];split<;>rfl
structure jz(M:List (List Rat))(n:Nat)(φ:Nat->Rat)(b x:List Rat):Prop where
 len:x.length=n
 eq:∀j,j<M.length->mulR M n (fun t=>x.getD t 0) j=b.getD j 0
 st:∀k,k<(cT M n).length->uP φ (dF (cT M n) k) (fun t=>x.getD t 0) n=0
theorem wH.one(h:wH M n φ){x y:List Rat}(hx:jz M n φ b x)(hy:jz M n φ b y):x=y:=by
 refine gp 0 (by rw[hx.len,hy.len]) fun t ht=>?_;rw[hx.len]at ht
 have:=h.only (x:=fun t=>x.getD t 0-y.getD t 0) (fun j hj=>by rw[Ff,hx.eq j hj,hy.eq j hj];grind) (fun k hk=>by
  rw[show (fun t=>x.getD t 0-y.getD t 0)=fun t=>x.getD t 0+(-1)*y.getD t 0 from funext fun t=>by grind,Ig,hx.st k hk];have h2:=hy.st k hk;unfold uP at h2 ⊢;rw[cL (f:=fun t=>φ t*(dF (cT M n) k t*(-1*y.getD t 0))) (g:=fun t=>(-1)*(φ t*(dF (cT M n) k t*y.getD t 0))) fun t _=>by grind,eo,h2]
  grind) t ht
 grind
theorem wH.base(h:wH M n φ){x:List Rat}(hb:b.length=M.length)(hx:jz M n φ b x):eW (jy M n φ) (b++iM (cT M n).length) n=some x:=by
 refine Jm (rO h.len) h.inj hx.len fun j hj=>?_;rw[ko];rcases aQ j M.length with h1|h1
 ·rw[AR h1];exact hx.eq j h1
 ·obtain⟨k,rfl⟩:∃k,j=M.length+k:=⟨j-M.length,by omega⟩
  rw[jI]at hj;rw[Co (by omega),gZ (by omega)];exact hx.st k (by omega)
end
theorem nm{a b:List Rat}{t:Nat}(ht:t<a.length):(fR a b).getD t 0=a.getD t 0*b.getD t 0:=by
 have h:=aB ht;rw[getD_some h];exact getD_some (by rw[fR,List.getElem?_mapIdx,h];rfl)
section
variable{M:List (List Rat)}{n:Nat}{fl b:List Rat}
theorem wJ(M:List (List Rat))(n:Nat)(fl:List Rat){i:Nat}(hi:i<(cT M n).length)(hj:j<(cT M n).length):dF (eY (cT M n) fl) i j=Ih M n (fun t=>fl.getD t 0) i j:=by
 have hr:=aB hi;have hs:=aB hj;have hl:((cT M n)[i]).length=n:=j7 M n _ (aX hi);have h1:(eY (cT M n) fl)[i]? =some ((cT M n).map fun r=>fQ (fR (cT M n)[i] fl) r (cT M n)[i].length):=by rw[eY,aM,hr];rfl
 have h2:((cT M n).map fun r=>fQ (fR (cT M n)[i] fl) r (cT M n)[i].length)[j]? =some (fQ (fR (cT M n)[i] fl) (cT M n)[j] (cT M n)[i].length):=by rw[aM,hs];rfl
 rw[dF,getD_some h1,getD_some h2,tE,hl];refine cL fun t ht=>?_;rw[nm (by omega),dF,dF,getD_some hr,getD_some hs];grind
theorem og(st:List (List Rat))(fl:List Rat):fZ st.length (eY st fl):=fun r hr=>by
 obtain⟨s,hs,rfl⟩:=aT.1 hr;rw[aJ]
theorem Fk(M:List (List Rat))(n:Nat)(fl x:List Rat){i:Nat}(hi:i<(cT M n).length):(gl (cT M n) fl x).getD i 0= -(uP (fun t=>fl.getD t 0) (dF (cT M n) i) (fun t=>x.getD t 0) n):=by
 have hr:=aB hi;have hl:((cT M n)[i]).length=n:=j7 M n _ (aX hi);have h1:(gl (cT M n) fl x)[i]? =some (-(fQ (fR (cT M n)[i] fl) x (cT M n)[i].length)):=by rw[gl,aM,hr];rfl
 rw[getD_some h1,tE,hl];congr 1;refine cL fun t ht=>?_;rw[nm (by omega),dF,getD_some hr];grind
theorem rP(st:List (List Rat))(c x:List Rat):∀i,(jx st c x i).length=x.length
 |0=>rfl
 |i+1=>by rw[jx,List.length_mapIdx,rP st c x i]
theorem AS(st:List (List Rat))(c x:List Rat){t:Nat}(ht:t<x.length):∀i,(jx st c x i).getD t 0=x.getD t 0+cZ (fun k=>c.getD k 0*dF st k t) i
 |0=>(bY _).symm
 |i+1=>by
  have hl:t<(jx st c x i).length:=by rw[rP];exact ht
  have ih:=AS st c x ht i;rw[getD_some (aB hl)]at ih;rw[getD_some (show (jx st c x (i+1))[t]? =some ((jx st c x i)[t]+c.getD i 0*(st.getD i []).getD t 0) by rw[jx,List.getElem?_mapIdx,aB hl];rfl),ih,cZ,Rat.add_assoc];rfl
theorem wH.force(h:wH M n fun t=>fl.getD t 0)(h0:eW M b n=some x0):∃c,eW (eY (cT M n) fl) (gl (cT M n) fl x0) (cT M n).length=some c∧c.length=(cT M n).length∧
  jz M n (fun t=>fl.getD t 0) b (jx (cT M n) c x0 (cT M n).length):=by
 obtain⟨Sm,SD⟩:=kX h.len h0;have hG:=og (cT M n) fl;have hGl:(eY (cT M n) fl).length=(cT M n).length:=aJ _;have hc:∃c,eW (eY (cT M n) fl) (gl (cT M n) fl x0) (cT M n).length=some c:=by
  cases e:eW (eY (cT M n) fl) (gl (cT M n) fl x0) (cT M n).length with
  |some c=>exact⟨c,rfl⟩
  |none=>
   obtain⟨y,y1,y2⟩:=oe hG e;rw[hGl]at y1 y2;have hy:=h.LV (c:=y) fun i hi=>Eq.trans (cL fun j hj=>by rw[wJ M n fl hj hi,bl];unfold Ih;rw[uQ]) (y1 i hi);exact absurd (by rw[cL (g:=fun _=>0) fun j hj=>by rw[hy j hj,bI],dw]) y2
 obtain⟨c,hc⟩:=hc;obtain⟨c1,c2⟩:=kX hG hc;refine⟨c,hc,c1,by rw[rP];exact Sm,fun j hj=>?_,fun k hk=>?_⟩
 ·rw[tI (y:=fun t=>x0.getD t 0+cZ (fun k=>c.getD k 0*dF (cT M n) k t) (cT M n).length) fun t ht=>AS _ c x0 (by omega) _,Fi,Fj,SD j hj,cL (g:=fun _=>0) fun k hk=>by rw[uO h.len hk j hj,bD],dw,bY]
 ·rw[wI (x':=dF (cT M n) k) (y':=fun t=>x0.getD t 0+cZ (fun k=>c.getD k 0*dF (cT M n) k t) (cT M n).length) (fun _ _=>rfl) fun t ht=>AS _ c x0 (by omega) _,Ig,uR];have h2:=c2 k (by omega);rw[Fk M n fl x0 hk]at h2;unfold mulR at h2;rw[cL (g:=fun t=>c.getD t 0*uP (fun t=>fl.getD t 0) (dF (cT M n) k) (dF (cT M n) t) n) fun t ht=>by rw[wJ M n fl hk ht,bl];rfl]at h2;rw[h2];grind
end
def ez(M:List (List Int))(r c:Nat):Int:=(M.getD r []).getD c 0
theorem getD_set_ne{α:Type}{l:List α}{i:Nat}{x d:α}(h:i≠j):(l.set i x).getD j d=l.getD j d:=by rw[List.getD,aZ h,<-List.getD]
theorem mj{α:Type}{l:List α}{i:Nat}{x d:α}(h:i<l.length):(l.set i x).getD i d=x:=by rw[List.getD,aV h];rfl
theorem jV{M:List (List Int)}{r c r' c':Nat}(h:r'≠r∨c'≠c):ez (putAt M r c d) r' c'=ez M r' c':=by
 unfold ez putAt;by_cases h1:r'=r
 ·subst h1;have h2:c≠c':=h.elim (fun h=>absurd rfl h) fun h=>h.symm;rcases aQ r' M.length with h3|h3
  ·rw[mj h3,getD_set_ne h2]
  ·rw[List.set_eq_of_length_le h3]
 ·rw[getD_set_ne (Ne.symm h1)]
theorem Fl{M:List (List Int)}{r c:Nat}(hr:r<M.length)(hc:c<(M.getD r []).length):ez (putAt M r c d) r c=d:=by
 unfold ez putAt;rw[mj hr,mj hc]
theorem gz(M:List (List Int))(r c:Nat)(d:Int):uL M r c d=putAt M r c (ez M r c+d):=rfl
theorem Dn{i:Nat}(hb:f.bars[i]? =some b):f.bars.getD i (0,0,0)=b:=by rw[List.getD,hb];rfl
theorem wK{f:ew}{M:List (List Int)}{i c r:Nat}(h:c≠i):∀k,ez (eV f M i k) r c=ez M r c
 |0=>rfl
 |k+1=>by
  rw[eV];rw[gz,jV (.inr h),gz,jV (.inr h)];exact wK h k
theorem ml(f:ew){r c:Nat}:∀i,i<=c->ez (dh f i) r c=0
 |0,_=>by
  unfold ez dh;rcases aQ r (3*f.nodes.length)with h|h
  ·rw[show (List.replicate (3*f.nodes.length) (List.replicate f.cols (0:Int))).getD r []=List.replicate f.cols 0 by rw[List.getD,List.getElem?_replicate,if_pos h];rfl,List.getD,List.getElem?_replicate];split<;>rfl
  ·rw[show (List.replicate (3*f.nodes.length) (List.replicate f.cols (0:Int))).getD r []=[] by rw[List.getD,List.getElem?_replicate,aK (by omega)];rfl];rfl
 |i+1,h=>by rw[dh,wK (by omega)];exact ml f i (by omega)
theorem toNat_add{a:Int}{k ka:Nat}(h:a=ka):(3*a+(k:Int)).toNat=3*ka+k:=by omega
theorem Cp{f:ew}{M:List (List Int)}{i r ka kb:Nat}{b:Int×Int×Rat}(hb:f.bars[i]? =some b)(ea:b.1=ka)(eb:b.2.1=kb):∀k,k<=3->k<=r % 3->ez (eV f M i k) r i=ez M r i
 |0,_,_=>rfl
 |k+1,h3,h=>by
  rw[eV];rw[Dn hb,toNat_add ea,toNat_add eb,gz,jV (.inl (by omega)),gz,jV (.inl (by omega))];exact Cp hb ea eb k (by omega) (by omega)
theorem oh{i r ka kb k:Nat}(hb:f.bars[i]? =some b)(ea:b.1=ka)(eb:b.2.1=kb)(hk:k<=3)(h:k<=r % 3):ez (eV f (dh f i) i k) r i=0:=by
 rw[Cp hb ea eb k hk h];exact ml f i (aF _)
theorem AT{f:ew}{r c:Nat}(h:c<f.bars.length):∀k,ez (fG f k) r c=ez (dh f f.bars.length) r c
 |0=>rfl
 |k+1=>by
  rw[fG];rw[jV (.inr (by omega))];exact AT h k
theorem xd{f:ew}{r i:Nat}:∀k,k<=i->ez (fG f k) r (f.bars.length+i)=0
 |0,_=>ml f _ (by omega)
 |k+1,h=>by
  rw[fG];rw[jV (.inr (by omega))];exact xd k (by omega)
def gq(s:Int×Int×Rat):Nat:=(3*s.1+s.2.1).toNat
theorem Cq{f:ew}(hw:∀k,∀l∈fG f k,l.length=f.cols)(hlen:∀k,(fG f k).length=3*f.nodes.length)(OK:∀s∈f.cV,gq s<3*f.nodes.length){r i:Nat}{s:Int×Int×Rat}(hs:f.cV[i]? =some s):
  ∀k,i<k->ez (fG f k) r (f.bars.length+i)=if r=gq s then 1 else 0
 |0,h=>by omega
 |k+1,h=>by
  rw[fG];rcases aQ i k with h1|h1
  ·rw[jV (.inr (by omega))];exact Cq hw hlen OK hs k h1
  ·have:i=k:=by omega
   subst this;have hg:f.cV.getD i (0,0,0)=s:=by rw[List.getD,hs];rfl
   have Wj:=OK s (aC hs);have hi:=(aD.1 hs).1;rw[hg];by_cases h2:r=gq s
   ·rw[if_pos h2,h2];have hm:gq s<(fG f i).length:=by rw[hlen];exact Wj
    exact Fl hm (by
     show f.bars.length+i<((fG f i).getD (gq s) []).length;rw[List.getD,aB hm];show f.bars.length+i<((fG f i)[gq s]).length;rw[hw i _ (aX hm),ew.cols]
     omega)
   ·rw[aK h2];exact(jV (r:=gq s) (.inl h2)).trans (xd i (aF _))
end Go.Ex
namespace Go.Ex
open Go Go.Sx Go.Proofs
end Go.Ex
namespace Go.Sx
open Go Go.Ex Go.Proofs
variable{cs:List Value}{O:Nat->Sx.di}
theorem Rel.aA8{H:Hp}{nx:Nat}{iv:Iv}{B:Nat}{w w':World}(r:Rel H nx iv B w O w'){id t m sz:Nat}(h:dE H id=some (.vec t sz cs))(hm:cs.length=m*sz)(SK:m<=maxLen)(hs:0<sz)(h1:∀u∈cs,u.oneCell'=true):
  gO w' (Cv FF B (lz (O id) iv)) sz ((At.w id m).den O) cs m:=by
 rcases r.fits h with⟨hn,rfl⟩|⟨hn,spare,h2,h3,h4⟩
 ·have TR:m=0:=by
   rcases bJ m with h|h
   ·exact h
   ·have:=Nat.mul_pos h hs;simp at hm;omega
  subst TR;have Qv:(At.w id 0).den O= .slice none 0 0:=by simp[At.den,hn]
  rw[Qv];exact⟨aO _,by simp,by simp,none,0,rfl,aF _,fun j u h=>by cases h⟩
 ·have Qv:(At.w id m).den O= .slice (some ⟨(O id).g,0,none⟩) m (O id).cap:=by simp[At.den,hn]
  rw[Qv];have On:=r.low id _ h hn;refine⟨SK,hm,h1,_,_,rfl,?_,fun j u hu=>⟨_,rfl,.inr ⟨On.1,_,_,FH hn,aF _,b9 _⟩,?_⟩⟩
  ·rw[List.length_append,hm]at h3;exact bp (show m*sz<=(O id).cap*sz by omega) hs
  ·rw[dZ,cell_of h2,aS,aL (aD.1 hu).1];exact hu
end Go.Sx
namespace Go.Ex
open Go Go.Sx Go.Proofs
variable{b:Int×Int×Rat}{S:Nat->Prop}{f:ew}
theorem NX{i k ka kb:Nat}{d:Int}{la lb:List Int}(hb:f.bars[i]? =some b)(ea:b.1=ka)(eb:b.2.1=kb)(Py:ka≠kb)(hk:k<3)(hd:(tF f b).getD k 0=d)
  (QC:(eV f (dh f i) i k)[3*ka+k]? =some la) (Oq:((eV f (dh f i) i k).set (3*ka+k) (la.set i d))[3*kb+k]? =some lb):
  ((eV f (dh f i) i k).set (3*ka+k) (la.set i d)).set (3*kb+k) (lb.set i (-d))=eV f (dh f i) i (k+1):=by
 have z1:=oh (r:=3*ka+k) hb ea eb (show k<=3 by omega) (by omega);have z2:=oh (r:=3*kb+k) hb ea eb (show k<=3 by omega) (by omega);have hga:(eV f (dh f i) i k).getD (3*ka+k) []=la:=by rw[List.getD,QC];rfl
 have hgb:((eV f (dh f i) i k).set (3*ka+k) (la.set i d)).getD (3*kb+k) []=lb:=by rw[List.getD,Oq];rfl
 have e1:uL (eV f (dh f i) i k) (3*ka+k) i d=(eV f (dh f i) i k).set (3*ka+k) (la.set i d):=by
  rw[gz,z1,Int.zero_add,putAt,hga]
 rw[eV];rw[Dn hb,hd,toNat_add ea,toNat_add eb,e1,uL,hgb];have z3:lb.getD i 0=0:=by
  rw[<-hgb,getD_set_ne (show 3*ka+k≠3*kb+k by omega)];exact z2
 rw[z3,Int.zero_add]
set_option maxHeartbeats 2000000 in
theorem xI{w:World}{vn vb vs:Value}(hS:Old S w)(hf:dT w S vn vb vs f)(OS:eJ f=0):
  eD PG N.uX #[.agg #[vn,vb,vs]] w (eG w fun v' w2=>ta w2 (Nf w w2) v' (iD f)∧GM (iD f) 2000000):=by
 have hw:=bR w;have OM:=kA OS;obtain⟨an,cn,ab,cb,aq,cq,rfl,rfl,rfl,Qj,RJ,R6⟩:=hf.shape;obtain⟨Ux,UC,UD⟩:=And.intro OM.n (And.intro OM.b OM.s);have Pz:f.cols=f.bars.length+f.cV.length:=rfl;obtain⟨m,hm⟩:∃m,3*f.nodes.length=m:=⟨_,rfl⟩
 refine yW (by simp) ?_
 refine⟨Nat×List Value×World×Iv,fun z=>⟨[(1,pP 0 0),(3,.o (.w 1 z.2.1.length)),(4,iN z.1)],[(1,.vec T.Lint 1 z.2.1),(0,.box T.Frame [.v (.slice an f.nodes.length cn),.v (.slice ab f.bars.length cb),.v (.slice aq f.cV.length cq)])],2,z.2.2.2,z.2.2.1⟩,fun z=>m-z.1,
  fun z=>z.1<=m∧z.2.1.length=z.1∧dm w.heap.size w z.2.2.1∧iE z.2.2.1 w.heap.size z.2.2.2 z.2.1 f.cols (List.replicate z.1 (List.replicate f.cols 0)),?_,?_⟩
 ·intro O w' r3;exact⟨(0,[],w',[]),⟨aO _,rfl,hw.tr r3.cQ,iE.nil⟩,Sub.nil 3 T.Lint 1 rfl (by simp[jQ,SV.sc,At.sc,fP]) r3 fun ρ1 r1=>Sub.gn [] r1⟩
 clear hw;rintro⟨i,rv,w1,iv⟩ ⟨hi,Ou,hw,hE⟩;dsimp only at hi Ou hw hE ⊢;refine⟨(m:Int),wo,?_⟩;refine dI.mk ?_ ?_<;>intro OI
 ·have OI:i<m:=by simpa using OI
  refine cD (cE hw (fun _ w' v w2=>v= .int .i64 f.cols) (fun O w' r=>jC (hf.cI (kS hw r hS)) ⟨UC,UD⟩) ?_);rintro O _ _ _ OP r he hw h_ rfl;have UY:=iE.cG hE r he (mC h_);clear r;clear hE;refine⟨f.cols,f.cols,rfl,rfl,aF _,by omega,by omega,?_⟩;refine si hτ (id3:=3) (id2:=2) (tH:=[(1,.vec T.Lint 1 rv),(0,.box T.Frame [.v (.slice an f.nodes.length cn),.v (.slice ab f.bars.length cb),.v (.slice aq f.cV.length cq)])]) rfl rfl rfl rfl (by simp) ⟨rfl,rfl,trivial⟩ rfl rfl (fun O w' r r2 TW=>?_);have hn:=(r.fits (id:=2) rfl).1;have OK:w'.ownsRow 0 T.int 1 (.slice (some ⟨(O 2).g,0,none⟩) f.cols f.cols) f.cols ((List.replicate f.cols (0:Int)).map fun z=>.int .i64 z):=
   ⟨by simp,.inr ⟨(O 2).g,f.cols,(List.replicate f.cols (Value.int .i64 0)).toArray,rfl,aO _,r.arr 2 _ _ rfl,aF _,by unfold maxLen;omega,by simp,by simp⟩⟩
  have Oh:=(UY.rel r).push (gx:=(O 2).g) (l:=List.replicate f.cols 0) (fun g hg e=>Rel.not r (gg _) hg 2 _ rfl hn e.symm) (r.low 2 _ rfl hn).1 (by simp) OK;rw[<-List.replicate_succ']at Oh;have hgv:lz (O 2) OP=((O 2).g,(O 2).g+1)::OP:=by unfold lz;rw[hn]
  have TB:=r.low 3 _ rfl (r.fits (id:=3) rfl).1;have TW:w'.heap[(O 3).g]? =some (.cells #[.slice (some ⟨(O 2).g,0,none⟩) f.cols f.cols] T.Lint (0,0)):=TW;have VB:=Oh.mono (iv':=((O 3).g,(O 3).g+1)::((O 2).g,(O 2).g+1)::OP) fun p hp=>List.mem_cons_of_mem _ hp;have PN:=hw.tr r.cQ;have hC3:Cf w (((O 3).g,(O 3).g+1)::((O 2).g,(O 2).g+1)::OP) (O 3).g:=.inr ⟨TB.1,_,_,aG,aF _,b9 _⟩;rw[hgv];clear UY hw r OK hn Oh hgv r2 TB;generalize (O 2).g=gx at*
  generalize (O 3).g=gy at*
  generalize (gy,gy+1)::(gx,gx+1)::OP=ON at*
  refine⟨[.slice (some ⟨gx,0,none⟩) f.cols f.cols],rfl,by simp[Value.oneCell'],fun ρ2 w2 r2 _=>⟨_,rfl,fun j u hu=>?_⟩,?_⟩
  ·have h5:=Rel.same r2 (gg _) hC3;rw[dZ,cell_of (h5.trans TW)];rcases j with _|j
   ·exact hu
   ·cases hu
  refine⟨by omega,by omega,by unfold maxLen;omega,((i+1:Nat):Int),wo,?_⟩;intro ρ3 w6 r3;exact⟨(i+1,rv++[.slice (some ⟨gx,0,none⟩) f.cols f.cols],w6,_),⟨OI,by simp[Ou],PN.tr r3.cQ,VB.rel r3⟩,Sub.gn [(1,4)] r3 (hE:=⟨rfl,by dsimp only;rw[List.length_append,List.length_singleton];rfl,rfl,trivial⟩),by dsimp only;omega⟩
 have OI:i=m:=aP hi (by simpa using OI);subst OI;have Wn:iE w1 w.heap.size iv rv f.cols (dh f 0):=by rw[dh,hm];exact hE
 have WJ:GM (dh f 0) 2000000:=fun l hl z hz=>by
  rw[dh]at hl;rw[bH hl]at hz;rw[bH hz];exact⟨by decide,by decide⟩
 clear hE;rw[Ou]
 refine⟨Nat×World×Iv,fun z=>⟨[(1,pP 0 0),(3,.o (.w 1 i)),(5,iN z.1)],[(1,.vec T.Lint 1 rv),(0,.box T.Frame [.v (.slice an f.nodes.length cn),.v (.slice ab f.bars.length cb),.v (.slice aq f.cV.length cq)])],2,z.2.2,z.2.1⟩,fun z=>f.bars.length-z.1,
  fun z=>z.1<=f.bars.length∧dm w.heap.size w z.2.1∧iE z.2.1 w.heap.size z.2.2 rv f.cols (dh f z.1)∧GM (dh f z.1) 2000000,?_,?_⟩
 ·intro O w' r3;exact⟨(0,w',_),⟨aO _,hw.tr r3.cQ,Wn.rel r3,WJ⟩,Sub.gn [] r3⟩
 clear hw Wn WJ hi;rintro⟨j,w2,iv⟩ ⟨hj,hw,hE,Ok⟩;dsimp only at hj hw hE Ok ⊢;refine dI.mk ?_ ?_<;>intro PO
 ·have PO:j<f.bars.length:=by simpa using PO
  obtain⟨b,hb⟩:∃b,f.bars[j]? =some b:=⟨_,aB PO⟩
  obtain⟨hA,hB⟩:=OM.NH b (aC hb);have OJ:=(MJ OS (aC hb)).1;obtain⟨ka,pa,ea,hka,-,WH,⟨_,_⟩,⟨_,_⟩,⟨_,_⟩⟩:=OM.node hA.1 hA.2;obtain⟨kb,pb,eb,OL,-,WI,⟨_,_⟩,⟨_,_⟩,⟨_,_⟩⟩:=OM.node hB.1 hB.2;have Py:ka≠kb:=fun e=>OJ (by rw[ea,eb,e]);obtain⟨adb,cs,hadb,hF,-,hlb0⟩:=hf.bars.load (by decide) hb;obtain⟨g0,g1,g2,g3,g4,g5,g6,g7,rfl,hF⟩:=hF;have hbD:tF f b=[pb.1-pa.1,pb.2.1-pa.2.1,pb.2.2-pa.2.2]:=by rw[tF,WH,WI]
  refine cD (cE hw (fun _ w' v w2=>v= .agg #[.int .i64 (pb.1-pa.1),.int .i64 (pb.2.1-pa.2.1),.int .i64 (pb.2.2-pa.2.2)]) (fun O w' r=>(CI (S:=S) (oS hS r) (hf.cI (kS hw r hS)) OM hb).mono fun _ _ ⟨v2,e1,e2,e3⟩=>⟨v2,e1,e2,by rw[e3,WH,WI]⟩) ?_);rintro O _ _ _ ON r he hw h_ rfl;have UY:=iE.cG hE r he (mC h_);clear r;clear hE hF;rw[ea,eb]at hlb0;obtain⟨ds,hds⟩:∃ds:List Value,ds=[.int .i64 (pb.1-pa.1),.int .i64 (pb.2.1-pa.2.1),.int .i64 (pb.2.2-pa.2.2)]:=⟨_,rfl⟩
  refine⟨Nat×World×Iv,fun z=>⟨[(1,pP 0 0),(3,.o (.w 1 i)),(5,iN j),(6,pP 2 0),(7,iN z.1)],[(2,.arr 189 ds),(1,.vec T.Lint 1 rv),(0,.box T.Frame [.v (.slice an f.nodes.length cn),.v (.slice ab f.bars.length cb),.v (.slice aq f.cV.length cq)])],3,z.2.2,z.2.1⟩,fun z=>3-z.1,
   fun z=>z.1<=3∧dm w.heap.size w z.2.1∧iE z.2.1 w.heap.size z.2.2 rv f.cols (eV f (dh f j) j z.1)∧GM (eV f (dh f j) j z.1) 2000000,?_,?_⟩
  ·intro O w' r3;exact⟨(0,w',_),⟨aO _,hw.tr r3.cQ,UY.rel r3,Ok⟩,Sub.aBY 2 (vs:=ds) (by rw[hds];rfl) r3 fun r4=>Sub.gn [] r4⟩
  clear hw UY Ok;rintro⟨k,w3,iv⟩ ⟨hk,hw,hE,Ok⟩;dsimp only at hk hw hE Ok ⊢;refine dI.mk ?_ ?_<;>intro WN
  ·have hk3:k<3:=by have:=aI WN;omega
   obtain⟨d,hd⟩:∃d,(tF f b).getD k 0=d:=⟨_,rfl⟩
   have hdb: -2000000<=d∧d<=2000000:=by
    rw[<-hd,hbD];rcases(show k=0∨k=1∨k=2 by omega)with rfl|rfl|rfl<;>simp[List.getD]<;>omega
   have hdk:ds[k]? =some (.int .i64 d):=by
    rw[hds,<-hd,hbD];rcases(show k=0∨k=1∨k=2 by omega)with rfl|rfl|rfl<;>rfl
   have hMl:(eV f (dh f j) j k).length=3*f.nodes.length:=by rw[<-hE.len];have:=hE.len;omega
   obtain⟨la,QC⟩:∃l,(eV f (dh f j) j k)[3*ka+k]? =some l:=⟨_,aB (by first|omega|(rw [ah];omega))⟩
   have hlaw:=hE.wid la (aC QC);obtain⟨za,Vp⟩:∃z,la[j]? =some z:=⟨_,aB (by omega)⟩
   obtain⟨va,WK⟩:∃v,rv[3*ka+k]? =some v:=⟨_,aB (by have:=(aD.1 QC).1;rw[hE.len];exact this)⟩
   obtain⟨aa5,ca5,rfl⟩:=hE.form WK;obtain⟨ada5,TU,-,-⟩:=hE.load WK QC Vp;refine cK hτ da [.x 0,.x 1,.x 2,.x 3,.x 4,.x 5,.x 6,.x 7,.x 8,.x 9,.x 10,.x 11,.x 12,.x 13,.x 14,.x 15,.x 16,.x 17] (by kernel_rfl) (by kernel_rfl) ?_;refine⟨adb,hadb,by omega,.int .i64 (ka:Int),fun O w' r=>?_,?_⟩
   ·obtain⟨k1,k2⟩:=hlb0 0 _ rfl;rw[cH (w:=w) (w2:=w') (by simp only[dD];exact(hw.tr r.cQ).block _ (hS _ k1))];simp only[aE,k7]at k2 ⊢;exact k2
   refine⟨((3*ka:Nat):Int),wo,((3*ka+k:Nat):Int),wo,by rw[Ou,aS,aU],by omega,.slice aa5 f.cols ca5,by rw[aE,aU];exact WK,by omega,.int .i64 d,by rw[aS,aE,aU];exact hdk,ada5,TU,by omega,?_⟩;intro O w' r;obtain⟨g,hg,h1,h2,h3,h4⟩:=hE.store r (z:=d) WK QC (show j<f.cols by omega);rw[TU]at hg;injection hg with hg;subst hg;refine⟨h1,h2,h3,fun w5 Qr=>?_⟩;obtain⟨k1,k2,k3,-,-⟩:=h4 w5 Qr;replace hw:=(hw.tr r.cQ).tr k2;replace Ok:=Ok.set (r:=3*ka+k) (c:=j) (z:=d) (t2:=2000000) (by omega) QC (by omega);replace hE:=k1;clear h1 h2 h3 h4 Qr k1 k2 k3 r TU;obtain⟨lb,Oq⟩:∃l,((eV f (dh f j) j k).set (3*ka+k) (la.set j d))[3*kb+k]? =some l:=⟨_,aB (by first|omega|(rw [ah];omega))⟩
   have hlbw:=hE.wid lb (aC Oq);obtain⟨zb,Sh⟩:∃z,lb[j]? =some z:=⟨_,aB (by omega)⟩
   obtain⟨vb,Uy⟩:∃v,rv[3*kb+k]? =some v:=⟨_,aB (by have:=(aD.1 Oq).1;rw[hE.len];exact this)⟩
   obtain⟨ab5,cb5,rfl⟩:=hE.form Uy;obtain⟨adb5,TV,-,-⟩:=hE.load Uy Oq Sh;refine cK hτ da [.x 0,.x 1,.x 2,.x 3,.x 4,.x 5,.x 6,.x 7,.x 8,.x 9,.x 10,.x 11,.x 12,.x 13,.x 14,.x 15,.x 16,.x 17,.x 18] (by kernel_rfl) (by kernel_rfl) ?_;refine⟨adb,hadb,by omega,.int .i64 (kb:Int),fun O w' r=>?_,?_⟩
   ·obtain⟨k1,k2⟩:=hlb0 1 _ rfl;rw[cH (w:=w) (w2:=w') (by simp only[dD];exact(hw.tr r.cQ).block _ (hS _ k1))];simp only[aE,k7]at k2 ⊢;exact k2
   refine⟨((3*kb:Nat):Int),wo,((3*kb+k:Nat):Int),wo,by rw[Ou,aS,aU],by omega,.slice ab5 f.cols cb5,by rw[aE,aU];exact Uy,by omega,.int .i64 d,by rw[aS,aE,aU];exact hdk,-d,wo,adb5,TV,by omega,?_⟩;intro O w' r;obtain⟨g,hg,h1,h2,h3,h4⟩:=hE.store r (z:=(-d)) Uy Oq (show j<f.cols by omega);rw[TV]at hg;injection hg with hg;subst hg;refine⟨h1,h2,h3,fun w5 Qr=>?_⟩;obtain⟨k1,k2,k3,-,-⟩:=h4 w5 Qr;replace hw:=(hw.tr r.cQ).tr k2;replace Ok:=Ok.set (r:=3*kb+k) (c:=j) (z:=(-d)) (t2:=2000000) (by omega) Oq (by omega);replace hE:=k1;clear h1 h2 h3 h4 Qr k1 k2 k3 r TV;rw[NX hb ea eb Py hk3 hd QC Oq]at hE Ok;refine⟨((k+1:Nat):Int),wo,?_⟩;intro ρ3 w6 r3;exact⟨(k+1,w6,_),⟨hk3,hw.tr r3.cQ,hE.rel r3,Ok⟩,Sub.gn [] r3,by dsimp only;omega⟩
  have WN:k=3:=by have:=aH WN;omega
  subst WN;refine⟨((j+1:Nat):Int),wo,?_⟩;intro ρ3 w6 r3;exact⟨(j+1,w6,_),⟨PO,hw.tr r3.cQ,hE.rel r3,Ok⟩,Sub.gn [] r3,by dsimp only;omega⟩
 have PO:j=f.bars.length:=aP hj (by simpa using PO);subst PO
 refine⟨Nat×World×Iv,fun z=>⟨[(1,pP 0 0),(3,.o (.w 1 i)),(8,iN z.1)],[(1,.vec T.Lint 1 rv),(0,.box T.Frame [.v (.slice an f.nodes.length cn),.v (.slice ab f.bars.length cb),.v (.slice aq f.cV.length cq)])],2,z.2.2,z.2.1⟩,fun z=>f.cV.length-z.1,
  fun z=>z.1<=f.cV.length∧dm w.heap.size w z.2.1∧iE z.2.1 w.heap.size z.2.2 rv f.cols (fG f z.1)∧GM (fG f z.1) 2000000,?_,?_⟩
 ·intro O w' r3;exact⟨(0,w',_),⟨aO _,hw.tr r3.cQ,hE.rel r3,Ok⟩,Sub.gn [] r3⟩
 clear hw hE Ok hj;rintro⟨j,w2,iv⟩ ⟨hj,hw,hE,Ok⟩;dsimp only at hj hw hE Ok ⊢;refine dI.mk ?_ ?_<;>intro PO
 ·have PO:j<f.cV.length:=by simpa using PO
  obtain⟨s,hs⟩:∃b,f.cV[j]? =some b:=⟨_,aB PO⟩
  obtain⟨hA,hB⟩:=OM.sup s (aC hs);obtain⟨ks,Vq⟩:=Int.eq_ofNat_of_zero_le (show 0<=3*s.1+s.2.1 by omega);have hMl:=oI f j;obtain⟨l,hl⟩:∃l,(fG f j)[ks]? =some l:=⟨_,aB (by omega)⟩
  have Wo:=hE.wid l (aC hl);obtain⟨v,hv⟩:∃v,rv[ks]? =some v:=⟨_,aB (by rw[hE.len];omega)⟩
  obtain⟨a5,c5,rfl⟩:=hE.form hv;obtain⟨z0,OT⟩:∃z,l[f.bars.length+j]? =some z:=⟨_,aB (by omega)⟩
  obtain⟨ad5,ha5,-,-⟩:=hE.load hv hl OT;obtain⟨adb,cs,Py,hF,-,Oq⟩:=hf.cV.load (by decide) hs;obtain⟨g0,g1,g2,g3,g4,g5,g6,g7,rfl,hF⟩:=hF;refine cK hτ da [.x 0,.x 1,.x 2,.x 3,.x 4,.x 5,.x 6,.x 7,.x 8,.x 9,.x 10,.x 11,.x 12,.x 13,.x 14,.x 15,.x 16,.x 17,.x 18,.x 19,.x 20,.x 21,.x 22,.x 23] (by kernel_rfl) (by kernel_rfl) ?_;refine⟨adb,Py,by omega,.int .i64 s.1,fun O w' r=>?_,?_⟩
  ·obtain⟨k1,k2⟩:=Oq 0 _ rfl;rw[cH (w:=w) (w2:=w') (by simp only[dD];exact(hw.tr r.cQ).block _ (hS _ k1))];simp only[aE,k7]at k2 ⊢;exact k2
  refine⟨3*s.1,wo,adb,Py,by omega,.int .i64 s.2.1,fun O w' r=>?_,?_⟩
  ·obtain⟨k1,k2⟩:=Oq 1 _ rfl;rw[cH (w:=w) (w2:=w') (by simp only[dD];exact(hw.tr r.cQ).block _ (hS _ k1))];simp only[aE,k7]at k2 ⊢;exact k2
  refine⟨((ks:Nat):Int),wo,by rw[Ou,aU],by omega,.slice a5 f.cols c5,by rw[aE,aU];exact hv,((f.bars.length+j:Nat):Int),wo,ad5,ha5,by omega,?_⟩;intro O w' r;obtain⟨g,hg,h1,h2,h3,h4⟩:=hE.store r (z:=1) hv hl (show f.bars.length+j<f.cols by omega);rw[ha5]at hg;injection hg with hg;subst hg;refine⟨h1,h2,h3,fun w5 Qr=>?_⟩;obtain⟨k1,k2,k3,-,-⟩:=h4 w5 Qr;replace hw:=(hw.tr r.cQ).tr k2;have SQ:=Ok.set (r:=ks) (c:=f.bars.length+j) (z:=1) (t2:=2000000) (by omega) hl (by omega);rw[GO hs Vq hl]at k1 SQ;clear h1 h2 h3 h4 Qr k2 k3 r hE;refine⟨((j+1:Nat):Int),wo,?_⟩;intro ρ3 w6 r3;exact⟨(j+1,w6,_),⟨PO,hw.tr r3.cQ,k1.rel r3,SQ⟩,Sub.gn [] r3,by dsimp only;omega⟩
 have PO:j=f.cV.length:=aP hj (by simpa using PO);subst PO;intro ρe we re;have Oh:=hE.rel re;have hMl:=oI f f.cV.length;have Qi:=hE.len;refine⟨_,rfl,hw.tr re.cQ,⟨rv,?_,hE.len,fun i u x k1 k2=>?_⟩,Ok⟩
 ·rw[show (iD f).length=rv.length from hE.len.symm];have h5:=re.iC (id:=1) (sz:=1) (m:=rv.length) rfl (by simp) (by unfold maxLen;omega) (by decide) hE.one;rw[show (i:Nat)=rv.length by omega];exact h5.cJ fun g hg=>.inr hg
 ·obtain⟨a,c,rfl⟩:=hE.form k1;have Pk:=hE.wid x (aC k2);refine⟨by rw[Pk];unfold maxLen;omega,by simp,fun v hv=>by obtain⟨z,_,rfl⟩:=aT.1 hv;rfl,a,c,by rw[Pk],?_,fun t v hv=>?_⟩
  ·rw[Pk];obtain⟨a2,c2,e,h⟩:=fJ (hE.row i _ x k1 k2);injection e with e1 e2 e3;omega
  ·rw[aM]at hv
   cases ht:x[t]? with
   |none=>rw[ht]at hv;cases hv
   |some z=>
    rw[ht]at hv;simp only[Option.map_some,Option.some.injEq]at hv;subst hv;obtain⟨ad,h1,h2,h3⟩:=Oh.load k1 k2 ht;exact⟨ad,h1,Cv.nw h2 re,by rw[aU]at h3;exact h3⟩
end Go.Ex
namespace Go.Ex
open Go Go.Sx Go.Proofs
variable{M:List (List Int)}{l:List Int}{xs:List Rat}{g n:Nat}{S:Nat->Prop}{O:Nat->Sx.di}{v:Value}{w:World}
theorem vR{i:Nat}{z:Int}(h:l[i]? =some z):dM (l.take (i+1))=dM (l.take i)++[(z:Rat)]:=by rw[dM,List.take_add_one,h,List.map_append];rfl
theorem vS{B e sz:Nat}{xs:List Value}(h:w.ownsRow B e sz v n xs):w.ownsRow 0 e sz v n xs:=⟨h.1,h.2.imp id fun⟨g,cap,cur,e1,_,rest⟩=>⟨g,cap,cur,e1,aO _,rest⟩⟩
theorem Cv.fin{H:Hp}{nx:Nat}{iv:Iv}{w0 w1 w':World}(hg:Cf w0 iv g)(r:Rel H nx iv w0.heap.size w1 O w'):Cf w0 [(w0.heap.size,w'.heap.size)] g:=by
 rcases hg with hg|⟨h1,lo,hi,h2,h3,h4⟩
 ·exact hg.elim
 ·exact .inr ⟨h1,_,_,bB.2 rfl,h1,by have:=r.po lo hi h2;have:=r.size;omega⟩
theorem Cv.new{w2:World}(hg:Cf w [(w.heap.size,w2.heap.size)] g):Nf w w2 g:=by
 rcases hg with hg|⟨h1,lo,hi,h2,h3,h4⟩
 ·exact hg.elim
 ·simp at h2;obtain⟨rfl,rfl⟩:=h2;exact .inr ⟨h3,h4⟩
theorem aA9.x{w2:World}(h:aA9 w w2 v xs)(hn:xs.length=n):df w2 FF w.heap.size [(w.heap.size,w2.heap.size)] v n xs:=by
 subst hn;obtain⟨css,h1,h2,h3,h4⟩:=h;have hl:=ownsRow.low h1;refine⟨⟨css,vS h1,h2,h2,fun j cs q k1 k2=>(h4 j cs q k1 k2).cJ fun g hg=>⟨?_,hg.2⟩⟩,fun g e=>.inr ⟨(hl g e).1,_,_,bB.2 rfl,(hl g e).1,(hl g e).2⟩⟩;rcases hg.1 with h|h
 ·exact h.elim
 ·exact .inr ⟨h.1,_,_,bB.2 rfl,h.1,h.2⟩
structure oK(w:World)(B:Nat)(iv:Iv)(v:Value)(M:List (List Rat)):Prop where
 row:∃rv,w.ownsRow 0 T.fc 1 v M.length rv∧rv.length=M.length∧(∀u∈rv,u.oneCell'=true)∧∀(i:Nat) u x,rv[i]? =some u->M[i]? =some x->cN w (Bs FF B iv v) u x
 new:∀g,v.ownBlock=some g->Cv FF B iv g
section
variable{H:Hp}{nx:Nat}{iv iv':Iv}{B:Nat}{w w' w2:World}{O:Nat->Sx.di}{v:Value}{M:List (List Rat)}
theorem oK.cI(h:oK w B iv v M)(hk:∀g,Cv FF B iv g->w2.heap[g]? =w.heap[g]?):oK w2 B iv v M:=by
 obtain⟨⟨rv,h1,h2,h3,h4⟩,h5⟩:=h;exact⟨⟨rv,ownsRow.cI h1 fun g hg=>hk g (h5 g hg),h2,h3,fun i u x k1 k2=>cN.cI (h4 i u x k1 k2) fun g hg=>hk g hg.1⟩,h5⟩
theorem oK.rel(h:oK w B iv v M)(r:Rel H nx iv B w O w')(hS:∀g,FF g->g<B):oK w' B iv v M:=h.cI fun _ hg=>Rel.same r hS hg
theorem oK.mono(h:oK w B iv v M)(hm:∀p,p∈iv->p∈iv'):oK w B iv' v M:=by
 obtain⟨⟨rv,h1,h2,h3,h4⟩,h5⟩:=h;exact⟨⟨rv,h1,h2,h3,fun i u x k1 k2=>cN.cJ (h4 i u x k1 k2) fun g hg=>Bs.mono hm hg⟩,fun g hg=>(h5 g hg).mono hm⟩
theorem oK.cG(h:oK w B iv v M)(r:Rel H nx iv B w O w')(hS:∀g,FF g->g<B)(he:Ext w' w2)(hm:∀p,p∈iv->p∈iv'):oK w2 B iv' v M:=((h.rel r hS).cI fun g hg=>he.block g (Rel.old r hS g hg)).mono hm
theorem oK.dB(h:oK w2 w'.heap.size [(w'.heap.size,w2.heap.size)] v M)(hB:B<=w'.heap.size)(hm:(w'.heap.size,w2.heap.size)∈iv):oK w2 B iv v M:=by
 have key:∀g,Cv FF w'.heap.size [(w'.heap.size,w2.heap.size)] g->Cv FF B iv g:=fun g hg=>(Cv.new hg).dB hB hm;obtain⟨⟨rv,h1,h2,h3,h4⟩,h5⟩:=h;exact⟨⟨rv,h1,h2,h3,fun i u x k1 k2=>cN.cJ (h4 i u x k1 k2) fun g hg=>⟨key g hg.1,hg.2⟩⟩,fun g hg=>key g (h5 g hg)⟩
theorem oK.c(h:oK w B iv v M):cR w (Cv FF B iv) v M:=by
 obtain⟨⟨rv,h1,h2,h3,h4⟩,h5⟩:=h;refine⟨rv,?_,h2,fun i u x k1 k2=>cN.cJ (h4 i u x k1 k2) fun g hg=>hg.1⟩;rcases h1.2 with⟨e,h0⟩|⟨g,cap,cur,e,_,hc,hn,hm,hs,ht⟩
 ·have:rv=[]:=List.eq_nil_of_length_eq_zero (by rw[h2,h0]);subst this;rw[e,h0];exact⟨aO _,rfl,by simp,none,0,rfl,aF _,fun j u h=>by cases h⟩
 ·subst e;refine⟨aY hn hm,h1.1,h3,_,cap,rfl,hn,fun j u hu=>⟨_,rfl,h5 g rfl,?_⟩⟩;have:=h1.cells (g:=g) rfl j u hu;exact this
end
theorem At.OA{id:Nat}:((At.w id n).den O).oneCell'=true:=by
 cases h:(O id).nil<;>simp[At.den,h,Value.oneCell']
theorem GW(hS:Old S w)(hM:ta w S v M)(hR:M.length<=1000)(hn:∀l∈M,l.length<=1000)(hb:∀l∈M,∀z∈l,-1000000000<=z∧z<=1000000000):
  eD PG N.tO #[v] w (eG w fun v' w2=>oK w2 w.heap.size [(w.heap.size,w2.heap.size)] v' (M.map dM)):=by
 have hw:=bR w;obtain⟨am,cm,rfl,-,SA⟩:=c9.shape hM;unfold maxLen at SA;refine Bv (by simp) ?_
 refine⟨Nat×List Value×World×Iv,fun z=>⟨[(0,sV am M.length cm),(3,.o (.w 0 z.2.1.length)),(4,iN z.1)],[(0,.vec T.fc 1 z.2.1)],1,z.2.2.2,z.2.2.1⟩,fun z=>M.length-z.1,
  fun z=>z.1<=M.length∧dm w.heap.size w z.2.2.1∧dQ z.2.2.1 (Cf w z.2.2.2) z.2.1 ((M.take z.1).map dM),?_,?_⟩
 ·intro O w' r;exact⟨(0,[],w',[]),⟨aO _,hw.tr r.cQ,by simp[dQ]⟩,Sub.nil 3 T.fc 1 rfl (by simp[jQ,SV.sc,At.sc,fP]) r fun ρ1 r1=>Sub.gn [] r1⟩
 clear hw;rintro⟨i,rv,w1,iv⟩ ⟨hi,hw,hK⟩;dsimp only at hi hw hK ⊢;have Ou:rv.length=i:=by rw[hK.1,aJ,aW];omega
 refine dI.mk ?_ ?_<;>intro OI
 ·have OI:i<M.length:=by simpa using OI
  obtain⟨l,hl⟩:∃x,M[i]? =some x:=⟨_,aB OI⟩
  have S3:=hn l (aC hl);have Oq:=hb l (aC hl);obtain⟨adm,um,QE,Oj,km1,km2⟩:=c9.load hM hl;obtain⟨al,cl,rfl,-,Qg⟩:=Oj.shape
  refine⟨Nat×List (List Value)×World×Iv,fun z=>⟨[(0,sV am M.length cm),(3,.o (.w 0 rv.length)),(4,iN i),(5,.o (.w 1 z.2.1.length)),(6,iN z.1)],[(1,.vec T.Rat 4 z.2.1.flatten),(0,.vec T.fc 1 rv)],2,z.2.2.2,z.2.2.1⟩,fun z=>l.length-z.1,
   fun z=>z.1<=l.length∧dm w.heap.size w z.2.2.1∧dQ z.2.2.1 (Cf w z.2.2.2) rv ((M.take i).map dM)∧dU z.2.2.1 (Cf w z.2.2.2) z.2.1 (dM (l.take z.1)),?_,?_⟩
  ·intro O w' r;exact⟨(0,[],w',_),⟨aO _,hw.tr r.cQ,hK.rel r (cC w),dU.nil⟩,Sub.nil 5 T.Rat 4 rfl (by simp[jQ,SV.sc,At.sc,fP]) r fun ρ1 r1=>Sub.gn [] r1⟩
  clear hw hK;rintro⟨k,css,w3,iv⟩ ⟨hk,hw,hK,hG⟩;dsimp only at hk hw hK hG ⊢;have OY:=eK hG.four;have R7:css.length=k:=by rw[hG.len,dM,aJ,aW];omega
  refine⟨adm,QE,by omega,.slice al l.length cl,rd1 km2 hw (hS _ km1),?_⟩;refine dI.mk ?_ ?_<;>intro OL
  ·have OL:k<l.length:=by simpa using OL
   obtain⟨z,hz⟩:∃x,l[k]? =some x:=⟨_,aB OL⟩
   have Sh:=Oq z (aC hz);obtain⟨adx,PS,hSx,Oo⟩:=oR.at Oj hz;refine⟨adm,QE,by omega,.slice al l.length cl,rd1 km2 hw (hS _ km1),adx,PS,by omega,.int .i64 z,rd1 Oo hw (hS _ hSx),?_⟩;refine cD (cE hw (fun _ w' v w2=>cS w2 (Nf w' w2) v (z:Rat)) (fun O w' r=>kF z w' (by omega)) ?_);rintro O _ _ _ OP r he hw h_ hn;replace hK:=hK.cG r (cC w) he (mC h_);replace hG:=hG.cG r (cC w) he (mC h_);have hd:=hn.dB (S:=FF) r.cF (mN h_);clear r hn;obtain⟨A0,A1,A2,A3,A4,A5,A6,A7,rfl⟩:=hd.shape;have RZ:=hG.push (cs:=[.bool A0,.slice A1 A2 A3,.bool A4,.slice A5 A6 A7]) (q:=(z:Rat)) ⟨_,_,_,_,_,_,_,_,rfl,hd⟩ rfl;rw[<-vR hz]at RZ;have Po:css.flatten++([.bool A0,.slice A1 A2 A3,.bool A4,.slice A5 A6 A7]:List Value)=(css++([[.bool A0,.slice A1 A2 A3,.bool A4,.slice A5 A6 A7]]:List (List Value))).flatten:=by simp
   refine .inl ?_;refine⟨by omega,by omega,by unfold maxLen;omega,((k+1:Nat):Int),wo,?_⟩;intro ρ3 w6 r3;exact⟨(k+1,css++[[.bool A0,.slice A1 A2 A3,.bool A4,.slice A5 A6 A7]],w6,_),⟨OL,hw.tr r3.cQ,hK.rel r3 (cC w),RZ.rel r3 (cC w)⟩,Sub.gn [(1,3)] r3 ⟨by dsimp only;rw[<-Po];rfl,rfl,trivial⟩ ⟨rfl,rfl,rfl,by dsimp only;rw[List.length_append,List.length_singleton];rfl,rfl,trivial⟩,by dsimp only;omega⟩
  have OL:k=l.length:=aP hk (by simpa using OL);have Tn:dM (l.take k)=dM l:=by rw[OL,bG]
  rw[Tn]at hG;refine si hτ (id3:=2) (id2:=1) (tH:=[(0,.vec T.fc 1 rv)]) rfl rfl rfl rfl (by simp) (by first|exact⟨rfl,trivial⟩|exact⟨rfl,rfl,trivial⟩) rfl rfl (fun O w' r r2 TW=>?_);have OK:=dU.list ((hG.rel r (cC w)).cJ fun g hg=>Cv.mono (iv':=((O 2).g,(O 2).g+1)::lz (O 1) iv) hg fun p hp=>List.mem_cons_of_mem _ (vz p hp)) ((r.aA8 (id:=1) (sz:=4) (m:=css.length) rfl OY (by unfold maxLen;omega) (by decide) hG.one).cJ fun g hg=>Cv.mono hg fun p hp=>List.mem_cons_of_mem _ hp);have QI:((At.w 1 css.length).den O).oneCell'=true:=At.OA;have TB:=r.low 2 _ rfl (r.fits (id:=2) rfl).1;have hC3:Cf w (((O 2).g,(O 2).g+1)::lz (O 1) iv) (O 2).g:=.inr ⟨TB.1,_,_,aG,aF _,b9 _⟩;have PA:∀p,p∈iv->p∈((O 2).g,(O 2).g+1)::lz (O 1) iv:=fun p hp=>List.mem_cons_of_mem _ (vz p hp);have PN:=hw.tr r.cQ;have hK1:=(hK.rel r (cC w)).cJ fun g hg=>Cv.mono hg PA;clear r2 TB;generalize (At.w 1 css.length).den O=ur at*
  generalize (O 2).g=gy at*
  generalize (gy,gy+1)::lz (O 1) iv=ON at*
  refine⟨[ur],rfl,by simpa using QI,fun ρ2 w2 r2 _=>⟨_,rfl,fun j u hu=>?_⟩,?_⟩
  ·have h5:=Rel.same r2 (gg _) hC3;rw[dZ,cell_of (h5.trans TW)];rcases j with _|j
   ·exact hu
   ·cases hu
  refine⟨by simp,by omega,by unfold maxLen;omega,?_⟩;have RE:=hK1.push QI OK;rw[show (M.take i).map dM++[dM l]=(M.take (i+1)).map dM by rw[List.take_add_one,hl];simp]at RE;refine⟨((i+1:Nat):Int),wo,?_⟩;intro ρ3 w6 r3;exact⟨(i+1,rv++[ur],w6,_),⟨OI,PN.tr r3.cQ,RE.rel r3 (cC w)⟩,Sub.gn [(0,3)] r3 (hE:=⟨rfl,by dsimp only;rw[List.length_append,List.length_singleton];rfl,rfl,trivial⟩),by dsimp only;omega⟩
 have OI:i=M.length:=aP hi (by simpa using OI);rw[show (M.take i).map dM=M.map dM by rw[OI,bG]]at hK;intro ρe we re;refine⟨_,rfl,hw.tr re.cQ,⟨rv,by rw[<-hK.1];exact vS (zf re (id:=0) rfl (by simp) (by decide)),hK.1,hK.2.1,fun i u x k1 k2=>cN.cJ (cN.cI (hK.2.2 i u x k1 k2) fun g hg=>Rel.same re (cC w) hg) fun g hg=>⟨hg.fin re,fun e=>Rel.not re (cC w) hg 0 _ rfl (DQ e).1 (DQ e).2⟩⟩,fun g e=>?_⟩;have hl:=re.low 0 _ rfl (DQ e).1;rw[(DQ e).2]at hl;exact .inr ⟨hl.1,_,_,bB.2 rfl,hl.1,hl.2⟩
theorem JD(hS:Old S w)(hM:ta w S v M)(hR:M.length<=1000)(hn:∀l∈M,l.length<=1000)(hb:∀l∈M,∀z∈l,-1000000000<=z∧z<=1000000000):
  eD PG N.tO #[v] w (eG w fun v' w2=>cR w2 (Nf w w2) v' (M.map dM)):=
 (GW hS hM hR hn hb).mono fun _ _ ⟨v2,e1,e2,e3⟩=>⟨v2,e1,e2,cR.cJ e3.c fun _ hg=>hg.new⟩
theorem vT(hS:Old S w)(hx:cX w S v xs)(hn:xs.length<=1000)(hb:∀q∈xs,rl q<=90000):
  eD PG N.mK #[v] w (eG w fun v' w2=>df w2 FF w.heap.size [(w.heap.size,w2.heap.size)] v' xs.length (cW xs (-1))):=by
 have hw:=bR w;have SK:rl (-1)=1:=by decide
 have SO:=hx;obtain⟨ax,cx,rfl,-,-⟩:=dH.shape SO;refine vB (by simp) ?_;refine cD (cE hw (fun _ w' v w2=>cS w2 (Nf w' w2) v (((-1:Int)):Rat)) (fun O w' r=>kF (-1) w' (by decide)) ?_);rintro O _ _ _ OP r he hw h_ hn;have hd:=hn.dB (S:=FF) r.cF (mN h_);clear r hn;obtain⟨A0,A1,A2,A3,A4,A5,A6,A7,rfl⟩:=hd.shape;refine cD (cE hw (fun _ w' v w2=>df w2 FF w'.heap.size [(w'.heap.size,w2.heap.size)] v xs.length (cW xs (-1))) (fun O w' r=>((show kx [] xs (-1)=cW xs (-1)from DP xs (-1))▸GX (b:=(-1:Rat)) (S:=fun g=>S g∨Cf w OP g) (fun g hg=>hg.elim (oS hS r g) (Rel.old r (cC w) g)) (cX.nil w' _) (cX.cJ (cX.cI hx (kS hw r hS)) fun g hg=>.inl hg) (((hd.rel r (cC w)).l (by decide)).cJ fun g hg=>.inr hg) (.inl rfl) (by omega) (fun y hy=>by have:=hb y hy;omega)).mono fun _ _ ⟨v2,e1,e2,_,e3⟩=>⟨v2,e1,e2,e3.x (by rw[cW,aJ])⟩) ?_);rintro O _ _ _ ON r he hw h_ hn;clear hd;have hr:=df.dB (S:=FF) hn r.cF (mN h_);clear r;clear hn;exact rtn hw fun ρe we re=>hr.out re
theorem GY(hS:Old S w)(hx:cX w S v xs)(hn:xs.length<=1000)(hb:∀q∈xs,rl q<=90000):
  eD PG N.mK #[v] w (eG w fun v' w2=>cN w2 (Nf w w2) v' (cW xs (-1))):=
 (vT hS hx hn hb).mono fun _ _ ⟨v2,e1,e2,e3⟩=>⟨v2,e1,e2,cN.cJ e3.c fun _ hg=>hg.new⟩
end Go.Ex
