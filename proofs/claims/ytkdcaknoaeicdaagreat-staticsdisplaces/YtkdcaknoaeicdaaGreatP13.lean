/- Texts X152 to X181: lemmas, each with its conditions. -/
import Derived.Test.YtkdcaknoaeicdaaGreatP12
namespace Go.Ex
open Go Go.Sx Go.Proofs
variable{css:List (List Value)}{S:Nat->Prop}{w:World}
def aAM(cs:List Value):Prop:=∃b a n c b2 a2 n2 c2,cs=[.bool b,.slice a n c,.bool b2,.slice a2 n2 c2]
def xW(cs:List Value):Prop:=∃b a n c b2 a2 n2 c2,cs=[.bool b,.slice a n c,.bool b2,.slice a2 n2 c2]∧n<=3∧n2<=3
theorem jy(a:Addr)(m n:Nat):(a.add m).add n=a.add (m+n):=by
 unfold Addr.add;split<;>split<;>simp_all<;>omega
theorem iG.l3{b1 b2:Bool}{a1 a2:Option Addr}{n1 n2 c1 c2:Nat}{a b:Int}(h:iG w S (.agg #[.bool b1,.slice a1 n1 c1,.bool b2,.slice a2 n2 c2]) a b)(hf:xW [.bool b1,.slice a1 n1 c1,.bool b2,.slice a2 n2 c2]):
  eR w S (.agg #[.bool b1,.slice a1 n1 c1,.bool b2,.slice a2 n2 c2]) (ratio a b)∧rl (ratio a b)<=3:=by
 obtain⟨_,_,_,_,_,_,_,_,e,k1,k2⟩:=hf;simp only[List.cons.injEq,Value.slice.injEq,Value.bool.injEq,and_true]at e;obtain⟨rfl,⟨rfl,rfl,rfl⟩,rfl,rfl,rfl,rfl⟩:=e;obtain⟨b1,l1,b2,l2,e,h1,h2⟩:=h;simp only[Value.agg.injEq,Array.mk.injEq,List.cons.injEq,Value.bool.injEq,and_true]at e;obtain⟨rfl,rfl,rfl,rfl⟩:=e;have g1:=h1.short k1;have g2:=h2.short k2;have r1:=g1.ln;have r2:=g2.ln;have hr:=iE a b;refine⟨⟨_,_,_,_,a,b,rfl,?_,?_,rfl⟩,by omega⟩
 ·obtain⟨ng,ls,i1,i2,i3⟩:=g1;exact⟨ng,ls,i1,i2,by omega⟩
 ·obtain⟨ng,ls,i1,i2,i3⟩:=g2;exact⟨ng,ls,i1,i2,by omega⟩
theorem HP{v:Value}(hS:Old S w)(hq:iB w S 4 v css.flatten css.length)(hF:∀cs∈css,aAM cs):
  eD PG N.wE #[v] w (eG w fun v' _=>∃d,v'= .bool d∧(d=true->css.length<=80∧∀cs∈css,xW cs)):=by
 have hw:=bR w;have h4:∀cs∈css,cs.length=4:=fun cs hc=>by obtain⟨_,_,_,_,_,_,_,_,rfl⟩:=hF cs hc;rfl
 have hK:eX 4 (fun _ _ cs x=>cs=x) w S v css:=⟨css,hq,rfl,h4,fun j cs x h1 h2=>by rw[h1]at h2;injection h2⟩
 obtain⟨a,c,rfl,hc,hm⟩:=hK.shape;unfold maxLen at hm;refine zS (by simp) ?_
 refine⟨Nat×World,fun z=>⟨[(0,sV a css.length c),(3,iN z.1)],[],0,[],z.2⟩,fun z=>css.length-z.1,
  fun z=>z.1<=css.length∧eB w.heap.size w z.2∧∀j cs,j<z.1->css[j]? =some cs->xW cs,?_,?_⟩
 ·intro O w' r3;exact⟨(0,w'),⟨aO _,hw.tr r3.cQ,fun j cs hj=>absurd hj (Nat.not_lt_zero j)⟩,Sub.gn [] r3⟩
 rintro⟨i,w1⟩ ⟨hi,hw,hE⟩;dsimp only at hi hw hE ⊢;refine dN.mk ?_ ?_<;>intro OF
 ·have OF:i<css.length:=by simpa using OF
  refine dN.mk ?_ ?_<;>intro h80
  ·have h80:css.length<=80:=by have:=aI h80;omega
   obtain⟨cs,Om⟩:∃cs,css[i]? =some cs:=⟨_,aB OF⟩
   obtain⟨g0,g1,g2,g3,g4,g5,g6,g7,rfl⟩:=hF cs (aC Om);obtain⟨adx,cs2,PI,VM,-,QO⟩:=hK.load (by decide) Om;subst VM;refine⟨adx,PI,by omega,.slice g1 g2 g3,fun O w' r=>?_,?_⟩
   ·obtain⟨k1,k2⟩:=QO 1 _ rfl;rw[aE,cH (w:=w) (w2:=w') (by simp only[dH];exact(hw.tr r.cQ).block _ (hS _ k1))];exact k2
   refine dN.mk ?_ ?_<;>intro k3
   ·exact rtn hw fun ρe we re=>⟨_,rfl,fun h=>by cases h⟩
   have k3:=aH k3;refine⟨adx,PI,by omega,.slice g5 g6 g7,fun O w' r=>?_,?_⟩
   ·obtain⟨k1,k2⟩:=QO 3 _ rfl;rw[aE,cH (w:=w) (w2:=w') (by simp only[dH];exact(hw.tr r.cQ).block _ (hS _ k1))];exact k2
   refine dN.mk ?_ ?_<;>intro k4
   ·exact rtn hw fun ρe we re=>⟨_,rfl,fun h=>by cases h⟩
   have k4:=aH k4;have OY:∀j cs,j<i+1->css[j]? =some cs->xW cs:=fun j cs hj hc=>by
    rcases aP j i with h|h
    ·exact hE j cs h hc
    ·have:j=i:=by omega
     subst this;rw[Om]at hc;injection hc with hc;subst hc;exact⟨_,_,_,_,_,_,_,_,rfl,by omega,by omega⟩
   refine⟨((i+1:Nat):Int),wo,?_⟩;intro ρ3 w6 r3;exact⟨(i+1,w6),⟨OF,hw.tr r3.cQ,OY⟩,Sub.gn [] r3,by dsimp only;omega⟩
  ·have h80:=aH h80;exact rtn hw fun ρe we re=>⟨_,rfl,fun h=>by have:=aI h;omega⟩
 have OF:i=css.length:=aR hi (by simpa using OF);subst OF;intro ρe we re
 exact⟨_,rfl,hw.tr re.cQ,_,rfl,fun h=>⟨by have:=aI h;omega,fun cs hc=>by
  obtain⟨j,hj⟩:=aU hc
  exact hE j cs (aD.1 hj).1 hj⟩⟩
end Go.Ex
namespace Go.Ex
theorem aAD{a b x p q:Rat}(h1:a<x)(h2:x<=b):(p<=q->p<=p+(x-a) / (b-a)*(q-p)∧p+(x-a) / (b-a)*(q-p)<=q)∧(q<=p->q<=p+(x-a) / (b-a)*(q-p)∧p+(x-a) / (b-a)*(q-p)<=p):=by
 have hd:0<b-a:=by grind
 have hi:0<=(b-a)⁻¹:=Rat.le_of_lt (Rat.inv_pos.2 hd);obtain⟨t,ht⟩:∃t,(x-a) / (b-a)=t:=⟨_,rfl⟩
 have t0:0<=t:=by rw[<-ht,bj];exact Rat.mul_nonneg (by grind) hi
 have t1:t<=1:=by
  rw[<-ht,bj,<-Rat.mul_inv_cancel (b-a) (by grind)];exact Rat.mul_le_mul_of_nonneg_right (by grind) hi
 rw[ht];refine⟨fun h=>?_,fun h=>?_⟩
 ·have k1:0<=t*(q-p):=Rat.mul_nonneg t0 (by grind);have k2:t*(q-p)<=1*(q-p):=Rat.mul_le_mul_of_nonneg_right t1 (by grind);grind
 ·have k1:0<=t*(p-q):=Rat.mul_nonneg t0 (by grind);have k2:t*(p-q)<=1*(p-q):=Rat.mul_le_mul_of_nonneg_right t1 (by grind);have k3:t*(q-p)= -(t*(p-q)):=by grind
  grind
end Go.Ex
namespace Go.Ex
open Go Go.Sx Go.Proofs
variable{p:Int×Int×(Int×Int)}{xs:List (Int×Int×(Int×Int))}{css:List (List Value)}{cs:List Value}{S:Nat->Prop}{v vb vn vs:Value}{w:World}{f:fM}
theorem oJ(c b:Int×Int×Rat):gO c=gO b↔(c.1=b.1∧c.2.1=b.2.1)∨(c.1=b.2.1∧c.2.1=b.1):=by
 unfold gO;rw[Prod.mk.injEq];omega
theorem DC(c b:Int×Int×Rat):iW c=iW b↔c.1=b.1∧c.2.1=b.2.1:=by
 unfold iW;rw[Prod.mk.injEq]
section
variable{α β:Type}{L:List α}{K:α->β}{x:β}
theorem lT{k:Nat}{c:α}(hc:L[k]? =some c)(h:K c≠x)(hE:x∈L.map K↔x∈(L.drop k).map K):x∈L.map K↔x∈(L.drop (k+1)).map K:=by
 rw[hE,List.drop_eq_getElem_cons (aD.1 hc).1,(aD.1 hc).2,List.map_cons,List.mem_cons,or_iff_right fun e=>h e.symm]
theorem uD{k:Nat}{c:α}(hc:L[k]? =some c)(h:K c=x):x∈L.map K:=aT.2 ⟨c,aC hc,h⟩
theorem DD{k:Nat}(hk:L.length<=k)(hE:x∈L.map K↔x∈(L.drop k).map K):x∉L.map K:=fun h=>by
 have:=hE.1 h;rw[List.drop_eq_nil_of_le hk]at this
 cases this
end
theorem qW(n:Int)(an ab aq:Option Addr)(ln cn nb cb nq cq:Nat)(w:World):eD PG N.tN #[.agg #[.slice an ln cn,.slice ab nb cb,.slice aq nq cq],.int .i64 n] w (eG w fun v' _=>∃d,v'= .bool d∧(d=true↔iz ln n)):=by
 have hw:=bR w;refine xG (by simp) ?_;refine dN.mk ?_ ?_<;>intro h1
 ·intro ρe we re;have h1:=aI h1;exact⟨_,rfl,hw.tr re.cQ,_,rfl,by rw[decide_eq_true_iff];exact⟨fun h=>⟨h1,h⟩,fun h=>h.2⟩⟩
 ·intro ρe we re;have h1:=aH h1;exact⟨_,rfl,hw.tr re.cQ,_,rfl,(fun h=>by cases h),fun h=>absurd h.1 h1⟩
theorem lV(n lo hi:Int)(w:World):eD PG N.wH #[.int .i64 n,.int .i64 lo,.int .i64 hi] w (eG w fun v' _=>∃d,v'= .bool d∧(d=true↔lo<=n∧n<=hi)):=by
 have hw:=bR w;refine zV (by simp) ?_;refine dN.mk ?_ ?_<;>intro h1
 ·intro ρe we re;have h1:=aI h1;exact⟨_,rfl,hw.tr re.cQ,_,rfl,by rw[decide_eq_true_iff];exact⟨fun h=>⟨h1,h⟩,fun h=>h.2⟩⟩
 ·intro ρe we re;have h1:=aH h1;exact⟨_,rfl,hw.tr re.cQ,_,rfl,(fun h=>by cases h),fun h=>absurd h.1 h1⟩
theorem zx{q:Rat}(hS:Old S w)(hp:eR w S v q):eD PG N.jb #[v] w (eG w fun v' _=>v'= .int .i64 (rs q)):=by
 obtain⟨a,b,h1,rfl,_,_⟩:=hp.v;exact sP hS h1
set_option maxHeartbeats 2000000 in
theorem Ek(hS:Old S w)(hf:du w S vn vb vs f):eD PG N.wF #[.agg #[vn,vb,vs]] w (eG w fun v' _=>v'= .int .i64 (eO f)):=by
 have hw:=bR w;obtain⟨an,cn,ab,cb,aq,cq,rfl,rfl,rfl,Qw,RX,SG⟩:=hf.shape;refine zT (by simp) ?_;refine dN.mk ?_ ?_<;>intro h0
 ·have h0:=aI h0;exact rtn hw fun ρe we re=>by show Value.int .i64 _=_;rw[eO,if_pos (by omega)]
 have h0:=aH h0;refine dN.mk ?_ ?_<;>intro h1
 ·have h1:=aI h1;exact rtn hw fun ρe we re=>by show Value.int .i64 _=_;rw[eO,if_pos (by omega)]
 have h1:=aH h1;refine dN.mk ?_ ?_<;>intro h2
 ·have h2:=aI h2;exact rtn hw fun ρe we re=>by show Value.int .i64 _=_;rw[eO,if_pos (by omega)]
 have h2:=aH h2
 refine⟨Nat×World×Iv,fun z=>⟨[(1,pP 0 0),(3,iN z.1)],[(0,.box T.Frame [.v (.slice an f.nodes.length cn),.v (.slice ab f.bars.length cb),.v (.slice aq f.cU.length cq)])],1,z.2.2,z.2.1⟩,fun z=>f.nodes.length-z.1,
  fun z=>z.1<=f.nodes.length∧eB w.heap.size w z.2.1∧ed ei [] f.nodes=ed ei (f.nodes.take z.1) (f.nodes.drop z.1),?_,?_⟩
 ·intro O w' r3;exact⟨(0,w',_),⟨aO _,hw.tr r3.cQ,rfl⟩,Sub.gn [] r3⟩
 rintro⟨i,w1,iv⟩ ⟨hi,hw,hE⟩;dsimp only at hi hw hE ⊢;refine dN.mk ?_ ?_<;>intro OF
 ·have OF:i<f.nodes.length:=by simpa using OF
  obtain⟨b,hx⟩:∃b,f.nodes[i]? =some b:=⟨_,aB OF⟩
  have hLl:(f.nodes.take i).length=i:=by rw[aV];omega
  obtain⟨adb,cs,Pg,hF,-,Oa⟩:=hf.nodes.load (by decide) hx;have hF:cs=[.int .i64 b.1,.int .i64 b.2.1,.int .i64 b.2.2]:=hF;subst hF;refine⟨adb,Pg,by omega,[.int .i64 b.1,.int .i64 b.2.1,.int .i64 b.2.2],rfl,rdO Oa hw hS,?_⟩;refine cD (cE hw (fun _ w' v w2=>∃d,v= .bool d∧(d=true↔mh b.1)) (fun O w' r=>lV _ _ _ w') ?_);rintro O Pq v1 Pa OM r he hw h_ ⟨d0,rfl,OQ⟩
  cases d0
  ·have OQ:¬mh b.1:=fun h=>by have:=OQ.2 h;cases this
   exact rtn hw fun ρe we re=>by show Value.int .i64 _=_;rw[eO,aK (by omega),if_pos (by rw[hE,cR hx (show ei (f.nodes.take i) b=2 by rw[ei,aK (fun h=>OQ h.1)]) (by decide)];decide),hE,cR hx (show ei (f.nodes.take i) b=2 by rw[ei,aK (fun h=>OQ h.1)]) (by decide)]
  replace OQ:=OQ.1 rfl;refine cD (cE hw (fun _ w' v w2=>∃d,v= .bool d∧(d=true↔mh b.2.1)) (fun O w' r=>lV _ _ _ w') ?_);rintro O Ph v2 PD OK r he hw h_ ⟨d1,rfl,OV⟩
  cases d1
  ·have OV:¬mh b.2.1:=fun h=>by have:=OV.2 h;cases this
   exact rtn hw fun ρe we re=>by show Value.int .i64 _=_;rw[eO,aK (by omega),if_pos (by rw[hE,cR hx (show ei (f.nodes.take i) b=2 by rw[ei,aK (fun h=>OV h.2.1)]) (by decide)];decide),hE,cR hx (show ei (f.nodes.take i) b=2 by rw[ei,aK (fun h=>OV h.2.1)]) (by decide)]
  replace OV:=OV.1 rfl;refine cD (cE hw (fun _ w' v w2=>∃d,v= .bool d∧(d=true↔mh b.2.2)) (fun O w' r=>lV _ _ _ w') ?_);rintro O PQ v3 PN OS r he hw h_ ⟨d2,rfl,Ov⟩
  cases d2
  ·have Ov:¬mh b.2.2:=fun h=>by have:=Ov.2 h;cases this
   exact rtn hw fun ρe we re=>by show Value.int .i64 _=_;rw[eO,aK (by omega),if_pos (by rw[hE,cR hx (show ei (f.nodes.take i) b=2 by rw[ei,aK (fun h=>Ov h.2.2)]) (by decide)];decide),hE,cR hx (show ei (f.nodes.take i) b=2 by rw[ei,aK (fun h=>Ov h.2.2)]) (by decide)]
  replace Ov:=Ov.1 rfl
  refine⟨Nat×World,fun z=>⟨[(1,pP 0 0),(3,iN i),(4,pP 1 0),(5,iN z.1)],[(1,.box T.Node [.v (.int .i64 b.1),.v (.int .i64 b.2.1),.v (.int .i64 b.2.2)]),(0,.box T.Frame [.v (.slice an f.nodes.length cn),.v (.slice ab f.bars.length cb),.v (.slice aq f.cU.length cq)])],2,OS,z.2⟩,fun z=>i-z.1,
   fun z=>z.1<=i∧eB w.heap.size w z.2∧(b∈(f.nodes.take i).map id↔b∈((f.nodes.take i).drop z.1).map id),?_,?_⟩
  ·intro O w' r3;exact⟨(0,w'),⟨aO _,hw.tr r3.cQ,Iff.rfl⟩,Sub.gn [] r3⟩
  rintro⟨k,w2⟩ ⟨hk,hw,hK⟩;dsimp only at hk hw hK ⊢;refine dN.mk ?_ ?_<;>intro OI
  ·have OI:k<i:=by have:=aI OI;omega
   obtain⟨c,hc⟩:∃c,f.nodes[k]? =some c:=⟨_,aB (by omega)⟩
   have S3:(f.nodes.take i)[k]? =some c:=by rw[bU OI];exact hc
   obtain⟨adc,cs2,Vm,R6,-,SX⟩:=hf.nodes.load (by decide) hc;have R6:cs2=[.int .i64 c.1,.int .i64 c.2.1,.int .i64 c.2.2]:=R6;subst R6;refine cN hτ dm [.x 0,.x 1,.x 2,.x 3,.x 4,.x 5,.x 6] (by kernel_rfl) (by kernel_rfl) ?_;refine⟨adc,Vm,by omega,[.int .i64 c.1,.int .i64 c.2.1,.int .i64 c.2.2],rfl,rdO SX hw hS,decide (c=b),fun O w o1 o2=>Eh c b w o1 o2,?_⟩;refine dN.mk ?_ ?_<;>intro hd
   ·have hd:c=b:=aI hd;have Qv:b∈f.nodes.take i:=by have:=uD (K:=id) S3 hd;rwa [List.map_id]at this
    exact rtn hw fun ρe we re=>by show Value.int .i64 _=_;rw[eO,aK (by omega),if_pos (by rw[hE,cR hx (show ei (f.nodes.take i) b=12 by rw[ei,if_pos ⟨OQ,OV,Ov⟩,if_pos Qv]) (by decide)];decide),hE,cR hx (show ei (f.nodes.take i) b=12 by rw[ei,if_pos ⟨OQ,OV,Ov⟩,if_pos Qv]) (by decide)]
   have hd:c≠b:=aH hd;have Q1:=lT (K:=id) S3 hd hK;refine⟨((k+1:Nat):Int),wo,?_⟩;intro ρ3 w6 r3;exact⟨(k+1,w6),⟨OI,hw.tr r3.cQ,Q1⟩,Sub.gn [] r3,by dsimp only;omega⟩
  have OI:k=i:=by have:=aH OI;omega
  have QG:=DD (by rw[hLl];omega) hK;rw[List.map_id]at QG;rw[gU hx (sN.2 ⟨⟨OQ,OV,Ov⟩,QG⟩)]at hE;refine⟨((i+1:Nat):Int),wo,?_⟩;intro ρ3 w6 r3;exact⟨(i+1,w6,_),⟨OF,hw.tr r3.cQ,hE⟩,Sub.gn [] r3,by dsimp only;omega⟩
 have OF:i=f.nodes.length:=aR hi (by simpa using OF);rw[ij (by omega)]at hE
 refine⟨Nat×World×Iv,fun z=>⟨[(1,pP 0 0),(6,iN z.1)],[(0,.box T.Frame [.v (.slice an f.nodes.length cn),.v (.slice ab f.bars.length cb),.v (.slice aq f.cU.length cq)])],1,z.2.2,z.2.1⟩,fun z=>f.bars.length-z.1,
  fun z=>z.1<=f.bars.length∧eB w.heap.size w z.2.1∧ed (fF f.nodes.length) [] f.bars=ed (fF f.nodes.length) (f.bars.take z.1) (f.bars.drop z.1),?_,?_⟩
 ·intro O w' r3;exact⟨(0,w',_),⟨aO _,hw.tr r3.cQ,rfl⟩,Sub.gn [] r3⟩
 rintro⟨i,w1,iv⟩ ⟨hi,hw,OY⟩;dsimp only at hi hw OY ⊢;refine dN.mk ?_ ?_<;>intro OF
 ·have OF:i<f.bars.length:=by simpa using OF
  obtain⟨b,hx⟩:∃b,f.bars[i]? =some b:=⟨_,aB OF⟩
  have hLl:(f.bars.take i).length=i:=by rw[aV];omega
  obtain⟨adb,cs,Pg,hF,-,Oa⟩:=hf.bars.load (by decide) hx;obtain⟨g0,g1,g2,g3,g4,g5,g6,g7,rfl,hF⟩:=hF;refine⟨adb,Pg,by omega,[.int .i64 b.1,.int .i64 b.2.1,.bool g0,.slice g1 g2 g3,.bool g4,.slice g5 g6 g7],rfl,rdO Oa hw hS,?_⟩;refine cD (cE hw (fun _ w' v w2=>∃d,v= .bool d∧(d=true↔iz f.nodes.length b.1)) (fun O w' r=>qW _ _ _ _ _ _ _ _ _ _ w') ?_);rintro O Pq v1 Pa OM r he hw h_ ⟨d0,rfl,OQ⟩
  cases d0
  ·have OQ:¬iz f.nodes.length b.1:=fun h=>by have:=OQ.2 h;cases this
   exact rtn hw fun ρe we re=>by show Value.int .i64 _=_;rw[eO,aK (by omega),aK (by rw[hE];decide),if_pos (by rw[OY,cR hx (show fF f.nodes.length (f.bars.take i) b=6 by rw[fF,aK (fun h=>OQ h.1)]) (by decide)];decide),OY,cR hx (show fF f.nodes.length (f.bars.take i) b=6 by rw[fF,aK (fun h=>OQ h.1)]) (by decide)]
  replace OQ:=OQ.1 rfl;refine cD (cE hw (fun _ w' v w2=>∃d,v= .bool d∧(d=true↔iz f.nodes.length b.2.1)) (fun O w' r=>qW _ _ _ _ _ _ _ _ _ _ w') ?_);rintro O Ph v2 PD OK r he hw h_ ⟨d1,rfl,OV⟩
  cases d1
  ·have OV:¬iz f.nodes.length b.2.1:=fun h=>by have:=OV.2 h;cases this
   exact rtn hw fun ρe we re=>by show Value.int .i64 _=_;rw[eO,aK (by omega),aK (by rw[hE];decide),if_pos (by rw[OY,cR hx (show fF f.nodes.length (f.bars.take i) b=6 by rw[fF,aK (fun h=>OV h.2)]) (by decide)];decide),OY,cR hx (show fF f.nodes.length (f.bars.take i) b=6 by rw[fF,aK (fun h=>OV h.2)]) (by decide)]
  replace OV:=OV.1 rfl;refine dN.mk ?_ ?_<;>intro PJ
  ·have PJ:b.1=b.2.1:=by simpa using PJ
   exact rtn hw fun ρe we re=>by show Value.int .i64 _=_;rw[eO,aK (by omega),aK (by rw[hE];decide),if_pos (by rw[OY,cR hx (show fF f.nodes.length (f.bars.take i) b=3 by rw[fF,if_pos ⟨OQ,OV⟩,if_pos PJ]) (by decide)];decide),OY,cR hx (show fF f.nodes.length (f.bars.take i) b=3 by rw[fF,if_pos ⟨OQ,OV⟩,if_pos PJ]) (by decide)]
  have PJ:b.1≠b.2.1:=by simpa using PJ
  refine⟨Nat×World,fun z=>⟨[(1,pP 0 0),(6,iN i),(7,pP 1 0),(8,iN z.1)],[(1,.box T.OC [.v (.int .i64 b.1),.v (.int .i64 b.2.1),.v (.bool g0),.v (.slice g1 g2 g3),.v (.bool g4),.v (.slice g5 g6 g7)]),(0,.box T.Frame [.v (.slice an f.nodes.length cn),.v (.slice ab f.bars.length cb),.v (.slice aq f.cU.length cq)])],2,OK,z.2⟩,fun z=>i-z.1,
   fun z=>z.1<=i∧eB w.heap.size w z.2∧(gO b∈(f.bars.take i).map gO↔gO b∈((f.bars.take i).drop z.1).map gO),?_,?_⟩
  ·intro O w' r3;exact⟨(0,w'),⟨aO _,hw.tr r3.cQ,Iff.rfl⟩,Sub.gn [] r3⟩
  rintro⟨k,w2⟩ ⟨hk,hw,hK⟩;dsimp only at hk hw hK ⊢;refine dN.mk ?_ ?_<;>intro OI
  ·have OI:k<i:=by have:=aI OI;omega
   obtain⟨c,hc⟩:∃c,f.bars[k]? =some c:=⟨_,aB (by omega)⟩
   have S3:(f.bars.take i)[k]? =some c:=by rw[bU OI];exact hc
   obtain⟨adc,cs2,Vm,R6,-,SX⟩:=hf.bars.load (by decide) hc;obtain⟨q0,q1,q2,q3,q4,q5,q6,q7,rfl,-⟩:=R6;refine⟨adc,Vm,by omega,[.int .i64 c.1,.int .i64 c.2.1,.bool q0,.slice q1 q2 q3,.bool q4,.slice q5 q6 q7],rfl,rdO SX hw hS,?_⟩;refine dN.mk ?_ ?_<;>intro e1
   ·have e1:(c.1=b.1):=by simpa using e1
    refine dN.mk ?_ ?_<;>intro e2
    ·have e2:(c.2.1=b.2.1):=by simpa using e2
     have Qv:=uD (K:=gO) S3 (show gO c=gO b by rw[oJ];omega);exact rtn hw fun ρe we re=>by show Value.int .i64 _=_;rw[eO,aK (by omega),aK (by rw[hE];decide),if_pos (by rw[OY,cR hx (show fF f.nodes.length (f.bars.take i) b=5 by rw[fF,if_pos ⟨OQ,OV⟩,aK PJ,if_pos Qv]) (by decide)];decide),OY,cR hx (show fF f.nodes.length (f.bars.take i) b=5 by rw[fF,if_pos ⟨OQ,OV⟩,aK PJ,if_pos Qv]) (by decide)]
    ·have e2:¬(c.2.1=b.2.1):=by simpa using e2
     refine dN.mk ?_ ?_<;>intro e3
     ·have e3:(c.1=b.2.1):=by simpa using e3
      refine dN.mk ?_ ?_<;>intro e4
      ·have e4:(c.2.1=b.1):=by simpa using e4
       have Qv:=uD (K:=gO) S3 (show gO c=gO b by rw[oJ];omega);exact rtn hw fun ρe we re=>by show Value.int .i64 _=_;rw[eO,aK (by omega),aK (by rw[hE];decide),if_pos (by rw[OY,cR hx (show fF f.nodes.length (f.bars.take i) b=5 by rw[fF,if_pos ⟨OQ,OV⟩,aK PJ,if_pos Qv]) (by decide)];decide),OY,cR hx (show fF f.nodes.length (f.bars.take i) b=5 by rw[fF,if_pos ⟨OQ,OV⟩,aK PJ,if_pos Qv]) (by decide)]
      ·have e4:¬(c.2.1=b.1):=by simpa using e4
       have Q1:=lT (K:=gO) S3 (show gO c≠gO b by rw[Ne,oJ];omega) hK;refine⟨((k+1:Nat):Int),wo,?_⟩;intro ρ3 w6 r3;exact⟨(k+1,w6),⟨OI,hw.tr r3.cQ,Q1⟩,Sub.gn [] r3,by dsimp only;omega⟩
     ·have e3:¬(c.1=b.2.1):=by simpa using e3
      have Q1:=lT (K:=gO) S3 (show gO c≠gO b by rw[Ne,oJ];omega) hK;refine⟨((k+1:Nat):Int),wo,?_⟩;intro ρ3 w6 r3;exact⟨(k+1,w6),⟨OI,hw.tr r3.cQ,Q1⟩,Sub.gn [] r3,by dsimp only;omega⟩
   ·have e1:¬(c.1=b.1):=by simpa using e1
    refine dN.mk ?_ ?_<;>intro e3
    ·have e3:(c.1=b.2.1):=by simpa using e3
     refine dN.mk ?_ ?_<;>intro e4
     ·have e4:(c.2.1=b.1):=by simpa using e4
      have Qv:=uD (K:=gO) S3 (show gO c=gO b by rw[oJ];omega);exact rtn hw fun ρe we re=>by show Value.int .i64 _=_;rw[eO,aK (by omega),aK (by rw[hE];decide),if_pos (by rw[OY,cR hx (show fF f.nodes.length (f.bars.take i) b=5 by rw[fF,if_pos ⟨OQ,OV⟩,aK PJ,if_pos Qv]) (by decide)];decide),OY,cR hx (show fF f.nodes.length (f.bars.take i) b=5 by rw[fF,if_pos ⟨OQ,OV⟩,aK PJ,if_pos Qv]) (by decide)]
     ·have e4:¬(c.2.1=b.1):=by simpa using e4
      have Q1:=lT (K:=gO) S3 (show gO c≠gO b by rw[Ne,oJ];omega) hK;refine⟨((k+1:Nat):Int),wo,?_⟩;intro ρ3 w6 r3;exact⟨(k+1,w6),⟨OI,hw.tr r3.cQ,Q1⟩,Sub.gn [] r3,by dsimp only;omega⟩
    ·have e3:¬(c.1=b.2.1):=by simpa using e3
     have Q1:=lT (K:=gO) S3 (show gO c≠gO b by rw[Ne,oJ];omega) hK;refine⟨((k+1:Nat):Int),wo,?_⟩;intro ρ3 w6 r3;exact⟨(k+1,w6),⟨OI,hw.tr r3.cQ,Q1⟩,Sub.gn [] r3,by dsimp only;omega⟩
  have OI:k=i:=by have:=aH OI;omega
  have QG:=DD (by rw[hLl];omega) hK;refine cD (cE hw (fun _ w' v w2=>v= .int .i64 (rs b.2.2)) (fun O w' r=>(zx (oS hS r) (hF.cI (kS hw r hS)))) ?_);rintro O PQ v3 PN OS r he hw h_ rfl;obtain⟨cf,hcf⟩:∃c,rs b.2.2=c:=⟨_,rfl⟩
  rw[hcf];refine dN.mk ?_ ?_<;>intro PC
  ·have PC:b.2.2<=0:=by have:=aI PC;rw[<-Rat.not_lt,<-oH];omega
   exact rtn hw fun ρe we re=>by show Value.int .i64 _=_;rw[eO,aK (by omega),aK (by rw[hE];decide),if_pos (by rw[OY,cR hx (show fF f.nodes.length (f.bars.take i) b=2 by rw[fF,if_pos ⟨OQ,OV⟩,aK PJ,aK QG,if_pos PC]) (by decide)];decide),OY,cR hx (show fF f.nodes.length (f.bars.take i) b=2 by rw[fF,if_pos ⟨OQ,OV⟩,aK PJ,aK QG,if_pos PC]) (by decide)]
  have PC:0<b.2.2:=by have:=aH PC;rw[<-oH];omega
  rw[gU hx (mu.2 ⟨⟨OQ,OV⟩,PJ,QG,PC⟩)]at OY;refine⟨((i+1:Nat):Int),wo,?_⟩;intro ρ3 w6 r3;exact⟨(i+1,w6,_),⟨OF,hw.tr r3.cQ,OY⟩,Sub.gn [] r3,by dsimp only;omega⟩
 have OF:i=f.bars.length:=aR hi (by simpa using OF);rw[ij (by omega)]at OY
 refine⟨Nat×World×Iv,fun z=>⟨[(1,pP 0 0),(10,iN z.1)],[(0,.box T.Frame [.v (.slice an f.nodes.length cn),.v (.slice ab f.bars.length cb),.v (.slice aq f.cU.length cq)])],1,z.2.2,z.2.1⟩,fun z=>f.cU.length-z.1,
  fun z=>z.1<=f.cU.length∧eB w.heap.size w z.2.1∧ed (kN f.nodes.length) [] f.cU=ed (kN f.nodes.length) (f.cU.take z.1) (f.cU.drop z.1),?_,?_⟩
 ·intro O w' r3;exact⟨(0,w',_),⟨aO _,hw.tr r3.cQ,rfl⟩,Sub.gn [] r3⟩
 rintro⟨i,w1,iv⟩ ⟨hi,hw,UQ⟩;dsimp only at hi hw UQ ⊢;refine dN.mk ?_ ?_<;>intro OF
 ·have OF:i<f.cU.length:=by simpa using OF
  obtain⟨b,hx⟩:∃b,f.cU[i]? =some b:=⟨_,aB OF⟩
  have hLl:(f.cU.take i).length=i:=by rw[aV];omega
  obtain⟨adb,cs,Pg,hF,-,Oa⟩:=hf.cU.load (by decide) hx;obtain⟨g0,g1,g2,g3,g4,g5,g6,g7,rfl,hF⟩:=hF;refine⟨adb,Pg,by omega,[.int .i64 b.1,.int .i64 b.2.1,.bool g0,.slice g1 g2 g3,.bool g4,.slice g5 g6 g7],rfl,rdO Oa hw hS,?_⟩;refine cD (cE hw (fun _ w' v w2=>∃d,v= .bool d∧(d=true↔iz f.nodes.length b.1)) (fun O w' r=>qW _ _ _ _ _ _ _ _ _ _ w') ?_);rintro O _ _ _ OM r he hw h_ ⟨d0,rfl,OQ⟩
  cases d0
  ·have OQ:¬iz f.nodes.length b.1:=fun h=>by have:=OQ.2 h;cases this
   exact rtn hw fun ρe we re=>by show Value.int .i64 _=_;rw[eO,aK (by omega),aK (by rw[hE];decide),aK (by rw[OY];decide),UQ,cR hx (show kN f.nodes.length (f.cU.take i) b=6 by rw[kN,aK OQ]) (by decide)]
  replace OQ:=OQ.1 rfl;refine cD (cE hw (fun _ w' v w2=>∃d,v= .bool d∧(d=true↔0<=b.2.1∧b.2.1<=2)) (fun O w' r=>lV _ _ _ w') ?_);rintro O _ _ _ OK r he hw h_ ⟨d1,rfl,PI⟩
  cases d1
  ·have PI:¬(0<=b.2.1∧b.2.1<=2):=fun h=>by have:=PI.2 h;cases this
   exact rtn hw fun ρe we re=>by show Value.int .i64 _=_;rw[eO,aK (by omega),aK (by rw[hE];decide),aK (by rw[OY];decide),UQ,cR hx (show kN f.nodes.length (f.cU.take i) b=2 by rw[kN,if_pos OQ,aK PI]) (by decide)]
  replace PI:=PI.1 rfl
  refine⟨Nat×World,fun z=>⟨[(1,pP 0 0),(10,iN i),(11,pP 1 0),(12,iN z.1)],[(1,.box T.xf [.v (.int .i64 b.1),.v (.int .i64 b.2.1),.v (.bool g0),.v (.slice g1 g2 g3),.v (.bool g4),.v (.slice g5 g6 g7)]),(0,.box T.Frame [.v (.slice an f.nodes.length cn),.v (.slice ab f.bars.length cb),.v (.slice aq f.cU.length cq)])],2,OK,z.2⟩,fun z=>i-z.1,
   fun z=>z.1<=i∧eB w.heap.size w z.2∧(iW b∈(f.cU.take i).map iW↔iW b∈((f.cU.take i).drop z.1).map iW),?_,?_⟩
  ·intro O w' r3;exact⟨(0,w'),⟨aO _,hw.tr r3.cQ,Iff.rfl⟩,Sub.gn [] r3⟩
  rintro⟨k,w2⟩ ⟨hk,hw,hK⟩;dsimp only at hk hw hK ⊢;refine dN.mk ?_ ?_<;>intro OI
  ·have OI:k<i:=by have:=aI OI;omega
   obtain⟨c,hc⟩:∃c,f.cU[k]? =some c:=⟨_,aB (by omega)⟩
   have S3:(f.cU.take i)[k]? =some c:=by rw[bU OI];exact hc
   obtain⟨adc,cs2,Vm,R6,-,SX⟩:=hf.cU.load (by decide) hc;obtain⟨q0,q1,q2,q3,q4,q5,q6,q7,rfl,-⟩:=R6;refine cN hτ dm [.x 0,.x 1,.x 2,.x 3,.x 4,.x 5,.x 6,.x 7,.x 8,.x 9,.x 10,.x 11,.x 12,.x 13,.x 14,.x 15,.x 16,.x 17,.x 18,.x 19] (by kernel_rfl) (by kernel_rfl) ?_;refine⟨adc,Vm,by omega,.int .i64 c.1,fun O w' r=>?_,?_⟩
   ·obtain⟨k1,k2⟩:=SX 0 _ rfl;rw[cH (w:=w) (w2:=w') (by simp only[dH];exact(hw.tr r.cQ).block _ (hS _ k1))];simp only[aE,jy]at k2 ⊢;exact k2
   refine dN.mk ?_ ?_<;>intro e1
   ·have e1:(c.1=b.1):=by simpa using e1
    refine⟨adc,Vm,by omega,.int .i64 c.2.1,fun O w' r=>?_,?_⟩
    ·obtain⟨k1,k2⟩:=SX 1 _ rfl;rw[cH (w:=w) (w2:=w') (by simp only[dH];exact(hw.tr r.cQ).block _ (hS _ k1))];simp only[aE,jy]at k2 ⊢;exact k2
    refine dN.mk ?_ ?_<;>intro e2
    ·have e2:(c.2.1=b.2.1):=by simpa using e2
     have Qv:=uD (K:=iW) S3 (show iW c=iW b by rw[DC];omega);exact rtn hw fun ρe we re=>by show Value.int .i64 _=_;rw[eO,aK (by omega),aK (by rw[hE];decide),aK (by rw[OY];decide),UQ,cR hx (show kN f.nodes.length (f.cU.take i) b=5 by rw[kN,if_pos OQ,if_pos PI,if_pos Qv]) (by decide)]
    ·have e2:¬(c.2.1=b.2.1):=by simpa using e2
     have Q1:=lT (K:=iW) S3 (show iW c≠iW b by rw[Ne,DC];omega) hK;refine⟨((k+1:Nat):Int),wo,?_⟩;intro ρ3 w6 r3;exact⟨(k+1,w6),⟨OI,hw.tr r3.cQ,Q1⟩,Sub.gn [] r3,by dsimp only;omega⟩
   ·have e1:¬(c.1=b.1):=by simpa using e1
    have Q1:=lT (K:=iW) S3 (show iW c≠iW b by rw[Ne,DC];omega) hK;refine⟨((k+1:Nat):Int),wo,?_⟩;intro ρ3 w6 r3;exact⟨(k+1,w6),⟨OI,hw.tr r3.cQ,Q1⟩,Sub.gn [] r3,by dsimp only;omega⟩
  have OI:k=i:=by have:=aH OI;omega
  have QG:=DD (by rw[hLl];omega) hK;refine cD (cE hw (fun _ w' v w2=>v= .int .i64 (rs b.2.2)) (fun O w' r=>(zx (oS hS r) (hF.cI (kS hw r hS)))) ?_);rintro O _ _ _ OS r he hw h_ rfl;obtain⟨cf,hcf⟩:∃c,rs b.2.2=c:=⟨_,rfl⟩
  rw[hcf];refine dN.mk ?_ ?_<;>intro PC
  ·have PC:b.2.2<0:=by have:=aI PC;rw[<-lS];omega
   exact rtn hw fun ρe we re=>by show Value.int .i64 _=_;rw[eO,aK (by omega),aK (by rw[hE];decide),aK (by rw[OY];decide),UQ,cR hx (show kN f.nodes.length (f.cU.take i) b=2 by rw[kN,if_pos OQ,if_pos PI,aK QG,if_pos PC]) (by decide)]
  have PC:0<=b.2.2:=by have:=aH PC;rw[<-Rat.not_lt,<-lS];omega
  rw[gU hx (qT.2 ⟨OQ,PI,QG,PC⟩)]at UQ;refine⟨((i+1:Nat):Int),wo,?_⟩;intro ρ3 w6 r3;exact⟨(i+1,w6,_),⟨OF,hw.tr r3.cQ,UQ⟩,Sub.gn [] r3,by dsimp only;omega⟩
 have OF:i=f.cU.length:=aR hi (by simpa using OF);rw[ij (by omega)]at UQ;exact rtn hw fun ρe we re=>by show Value.int .i64 _=_;rw[eO,aK (by omega),aK (by rw[hE];decide),aK (by rw[OY];decide),UQ]
def rq(p:Int×Int):Rat:=ratio p.1 p.2
structure GI where
 nodes:List (Int×Int×Int)
 bars:List (Int×Int×(Int×Int))
 cU:List (Int×Int×(Int×Int))
def GJ(p:Int×Int×(Int×Int)):Int×Int×Rat:=(p.1,p.2.1,rq p.2.2)
def GI.val(f:GI):fM:=⟨f.nodes,f.bars.map GJ,f.cU.map GJ⟩
def uE(w:World)(S:Nat->Prop)(cs:List Value)(p:Int×Int×(Int×Int)):Prop:=∃b a n c b2 a2 n2 c2,cs=[.int .i64 p.1,.int .i64 p.2.1,.bool b,.slice a n c,.bool b2,.slice a2 n2 c2]∧iG w S (.agg #[.bool b,.slice a n c,.bool b2,.slice a2 n2 c2]) p.2.2.1 p.2.2.2
structure qA(w:World)(S:Nat->Prop)(vn vb vs:Value)(f:GI):Prop where
 nodes:mb w S vn f.nodes
 bars:eX 6 uE w S vb f.bars
 cU:eX 6 uE w S vs f.cU
theorem uE.cI{w2:World}(h:uE w S cs p)(hk:∀g,S g->w2.heap[g]? =w.heap[g]?):uE w2 S cs p:=by
 obtain⟨b,a,n,c,b2,a2,n2,c2,h1,h2⟩:=h;exact⟨b,a,n,c,b2,a2,n2,c2,h1,h2.cI hk⟩
theorem qA.cI{w2:World}{f:GI}(h:qA w S vn vb vs f)(hk:∀g,S g->w2.heap[g]? =w.heap[g]?):qA w2 S vn vb vs f:=
 ⟨eX.cI (w:=w) (fun _ _ h=>h) h.nodes hk,eX.cI (fun _ _ h=>h.cI hk) h.bars hk,eX.cI (fun _ _ h=>h.cI hk) h.cU hk⟩
theorem uE.few(h:uE w S cs p)(hf:xW (cs.drop 2)):Cw w S cs (GJ p)∧rl (GJ p).2.2<=3:=by
 obtain⟨b,a,n,c,b2,a2,n2,c2,rfl,h2⟩:=h;obtain⟨h3,h4⟩:=h2.l3 hf;exact⟨⟨b,a,n,c,b2,a2,n2,c2,rfl,h3⟩,h4⟩
theorem eX.cells{α:Type}{k:Nat}{P:World->(Nat->Prop)->List Value->α->Prop}{xs:List α}(h:eX k P w S v xs):
  ∃css:List (List Value),css.length=xs.length∧eX k (fun w S cs (y:List Value×α)=>cs=y.1∧P w S cs y.2) w S v (css.zip xs)∧(∀(j:Nat) cs x,css[j]? =some cs->xs[j]? =some x->P w S cs x)∧
   ∀{β:Type} (Q:World->(Nat->Prop)->List Value->β->Prop) (ys:List β),ys.length=xs.length->(∀(j:Nat) cs y,css[j]? =some cs->ys[j]? =some y->Q w S cs y)->eX k Q w S v ys:=by
 obtain⟨css,h1,h2,h3,h4⟩:=h;have hz:(css.zip xs).length=xs.length:=by rw[List.length_zip,h2,Nat.min_self]
 refine⟨css,h2,⟨css,by rw[hz];exact h1,by rw[hz,h2],h3,fun j cs y k1 k2=>?_⟩,h4,fun Q ys hl hQ=>⟨css,by rw[hl];exact h1,by rw[hl,h2],h3,hQ⟩⟩;rw[List.getElem?_zip_eq_some]at k2;rw[k1]at k2;exact⟨by injection k2.1,h4 j cs _ k1 k2.2⟩
theorem MU.of(h4:∀(j:Nat) cs x,css[j]? =some cs->xs[j]? =some x->uE w S cs x)
  (hQ:∀{β:Type} (Q:World->(Nat->Prop)->List Value->β->Prop) (ys:List β),ys.length=xs.length->(∀(j:Nat) cs y,css[j]? =some cs->ys[j]? =some y->Q w S cs y)->eX 6 Q w S v ys)
  (hl:css.length=xs.length) (hf:∀j cs,j<xs.length->css[j]? =some cs->xW (cs.drop 2)):KH w S v (xs.map GJ)∧∀b∈xs.map GJ,rl b.2.2<=3:=by
 refine⟨hQ Cw _ (aJ ..) fun j cs y k1 k2=>?_,fun b hb=>?_⟩
 ·rw[aN]at k2;obtain⟨p,hp,rfl⟩:=Option.map_eq_some_iff.1 k2;exact((h4 j cs p k1 hp).few (hf j cs (aD.1 hp).1 k1)).1
 ·obtain⟨p,hp,rfl⟩:=aT.1 hb;obtain⟨j,hj⟩:=aU hp;have Sc:=(aD.1 hj).1;have hc:css[j]? =some css[j]:=aB (by omega);exact((h4 j _ p hc hj).few (hf j _ Sc hc)).2
set_option maxHeartbeats 1000000 in
theorem KM{f:GI}(hS:Old S w)(hf:qA w S vn vb vs f):eD PG N.pH #[.agg #[vn,vb,vs]] w (eG w fun v' _=>∃d,v'= .bool d∧
  (d=true->du w S vn vb vs f.val∧(∀b∈f.val.bars,rl b.2.2<=3)∧(∀b∈f.val.cU,rl b.2.2<=3)∧(eO f.val≠0∨f.val.nodes.length<=4∧f.val.bars.length<=6))):=by
 have hw:=bR w;obtain⟨an,cn,rfl,hcn,Qw⟩:=hf.nodes.shape;obtain⟨bcs,Pf,hbz,RU,hbQ⟩:=hf.bars.cells;obtain⟨qcs,UI,hqz,hq4,hqQ⟩:=hf.cU.cells;obtain⟨ab,cb,rfl,Pu,RX⟩:=hf.bars.shape;obtain⟨aq,cq,rfl,hcq,SG⟩:=hf.cU.shape;refine zQ (by simp) ?_;refine dN.mk ?_ ?_<;>intro h0
 ·exact rtn hw fun ρe we re=>⟨_,rfl,fun h=>by cases h⟩
 have h0:=aH h0;refine dN.mk ?_ ?_<;>intro h1
 ·exact rtn hw fun ρe we re=>⟨_,rfl,fun h=>by cases h⟩
 have h1:=aH h1;refine dN.mk ?_ ?_<;>intro h2
 ·exact rtn hw fun ρe we re=>⟨_,rfl,fun h=>by cases h⟩
 have h2:=aH h2
 refine⟨Nat×World×Iv,fun z=>⟨[(1,pP 0 0),(3,iN z.1)],[(0,.box T.Frame [.v (.slice an f.nodes.length cn),.v (.slice ab f.bars.length cb),.v (.slice aq f.cU.length cq)])],1,z.2.2,z.2.1⟩,fun z=>f.bars.length-z.1,
  fun z=>z.1<=f.bars.length∧eB w.heap.size w z.2.1∧∀(j:Nat) (cs:List Value),j<z.1->bcs[j]? =some cs->xW (cs.drop 2),?_,?_⟩
 ·intro O w' r3;exact⟨(0,w',_),⟨aO _,hw.tr r3.cQ,fun j cs hj=>absurd hj (Nat.not_lt_zero j)⟩,Sub.gn [] r3⟩
 rintro⟨i,w1,iv⟩ ⟨hi,hw,hB⟩;dsimp only at hi hw hB ⊢;refine dN.mk ?_ ?_<;>intro OF
 ·have OF:i<f.bars.length:=by simpa using OF
  obtain⟨cs,Om⟩:∃cs,bcs[i]? =some cs:=⟨_,aB (by omega)⟩
  obtain⟨p,hp⟩:∃p,f.bars[i]? =some p:=⟨_,aB OF⟩
  obtain⟨g0,g1,g2,g3,g4,g5,g6,g7,rfl,-⟩:=RU i cs p Om hp;obtain⟨adx,cs2,PI,⟨VM,-⟩,-,QO⟩:=hbz.load (by decide) (show (bcs.zip f.bars)[i]? =some (_,p) by rw[List.getElem?_zip_eq_some];exact⟨Om,hp⟩);have VM:cs2=[.int .i64 p.1,.int .i64 p.2.1,.bool g0,.slice g1 g2 g3,.bool g4,.slice g5 g6 g7]:=VM;subst VM;refine⟨adx,PI,by omega,[.bool g0,.slice g1 g2 g3,.bool g4,.slice g5 g6 g7],rfl,fun O w' r j u hu=>?_,?_⟩
  ·have Uk:=(aD.1 hu).1;obtain⟨k1,k2⟩:=QO (2+j) u (by rcases j with _|_|_|_|j<;>first|exact hu|(have:j+4<4:=Uk;omega));rw[cH (w:=w) (w2:=w') (by simp only[dH];exact(hw.tr r.cQ).block _ (hS _ k1))];simp only[aE,jy]at k2 ⊢
   first|exact k2|(rw [<-k2];congr 2;omega)
  refine cD (cE hw (fun _ w' v w2=>∃d,v= .bool d∧(d=true->xW [.bool g0,.slice g1 g2 g3,.bool g4,.slice g5 g6 g7])) (fun O w' r=>(HP (S:=fun g=>g=(O 1).g) (css:=[[.bool g0,.slice g1 g2 g3,.bool g4,.slice g5 g6 g7]]) (fun g hg=>by subst hg;exact Rel.lt r (id:=1) rfl) (r.pz (id:=1) (sz:=4) (n:=1) rfl rfl (by decide) (by repeat' first|refine List.forall_mem_cons.2 ⟨rfl,?_⟩|exact fun u hu=>absurd hu List.not_mem_nil)) (fun cs hc=>by rw[aw.1 hc];exact⟨_,_,_,_,_,_,_,_,rfl⟩)).mono fun _ _ ⟨v2,e1,e2,d,e3,e4⟩=>⟨v2,e1,e2,d,e3,fun h=>(e4 h).2 _ aG⟩) ?_);rintro O Pq v1 Pa OM r he hw h_ ⟨d2,rfl,Ov⟩
  cases d2
  ·exact rtn hw fun ρe we re=>⟨_,rfl,fun h=>by cases h⟩
  have OY:∀j cs,j<i+1->bcs[j]? =some cs->xW (cs.drop 2):=fun j cs hj hc=>by
   rcases aP j i with h|h
   ·exact hB j cs h hc
   ·have:j=i:=by omega
    subst this;rw[Om]at hc;injection hc with hc;subst hc;exact Ov rfl
  refine⟨((i+1:Nat):Int),wo,?_⟩;intro ρ3 w6 r3;exact⟨(i+1,w6,_),⟨OF,hw.tr r3.cQ,OY⟩,Sub.gn [] r3,by dsimp only;omega⟩
 have OF:i=f.bars.length:=aR hi (by simpa using OF);subst OF
 refine⟨Nat×World×Iv,fun z=>⟨[(1,pP 0 0),(4,iN z.1)],[(0,.box T.Frame [.v (.slice an f.nodes.length cn),.v (.slice ab f.bars.length cb),.v (.slice aq f.cU.length cq)])],1,z.2.2,z.2.1⟩,fun z=>f.cU.length-z.1,
  fun z=>z.1<=f.cU.length∧eB w.heap.size w z.2.1∧∀(j:Nat) (cs:List Value),j<z.1->qcs[j]? =some cs->xW (cs.drop 2),?_,?_⟩
 ·intro O w' r3;exact⟨(0,w',_),⟨aO _,hw.tr r3.cQ,fun j cs hj=>absurd hj (Nat.not_lt_zero j)⟩,Sub.gn [] r3⟩
 rintro⟨i,w1,iv⟩ ⟨hi,hw,hQ⟩;dsimp only at hi hw hQ ⊢;refine dN.mk ?_ ?_<;>intro OF
 ·have OF:i<f.cU.length:=by simpa using OF
  obtain⟨cs,Om⟩:∃cs,qcs[i]? =some cs:=⟨_,aB (by omega)⟩
  obtain⟨p,hp⟩:∃p,f.cU[i]? =some p:=⟨_,aB OF⟩
  obtain⟨g0,g1,g2,g3,g4,g5,g6,g7,rfl,-⟩:=hq4 i cs p Om hp;obtain⟨adx,cs2,PI,⟨VM,-⟩,-,QO⟩:=hqz.load (by decide) (show (qcs.zip f.cU)[i]? =some (_,p) by rw[List.getElem?_zip_eq_some];exact⟨Om,hp⟩);have VM:cs2=[.int .i64 p.1,.int .i64 p.2.1,.bool g0,.slice g1 g2 g3,.bool g4,.slice g5 g6 g7]:=VM;subst VM;refine⟨adx,PI,by omega,[.bool g0,.slice g1 g2 g3,.bool g4,.slice g5 g6 g7],rfl,fun O w' r j u hu=>?_,?_⟩
  ·have Uk:=(aD.1 hu).1;obtain⟨k1,k2⟩:=QO (2+j) u (by rcases j with _|_|_|_|j<;>first|exact hu|(have:j+4<4:=Uk;omega));rw[cH (w:=w) (w2:=w') (by simp only[dH];exact(hw.tr r.cQ).block _ (hS _ k1))];simp only[aE,jy]at k2 ⊢
   first|exact k2|(rw [<-k2];congr 2;omega)
  refine cD (cE hw (fun _ w' v w2=>∃d,v= .bool d∧(d=true->xW [.bool g0,.slice g1 g2 g3,.bool g4,.slice g5 g6 g7])) (fun O w' r=>(HP (S:=fun g=>g=(O 1).g) (css:=[[.bool g0,.slice g1 g2 g3,.bool g4,.slice g5 g6 g7]]) (fun g hg=>by subst hg;exact Rel.lt r (id:=1) rfl) (r.pz (id:=1) (sz:=4) (n:=1) rfl rfl (by decide) (by repeat' first|refine List.forall_mem_cons.2 ⟨rfl,?_⟩|exact fun u hu=>absurd hu List.not_mem_nil)) (fun cs hc=>by rw[aw.1 hc];exact⟨_,_,_,_,_,_,_,_,rfl⟩)).mono fun _ _ ⟨v2,e1,e2,d,e3,e4⟩=>⟨v2,e1,e2,d,e3,fun h=>(e4 h).2 _ aG⟩) ?_);rintro O Pq v1 Pa OM r he hw h_ ⟨d2,rfl,Ov⟩
  cases d2
  ·exact rtn hw fun ρe we re=>⟨_,rfl,fun h=>by cases h⟩
  have OY:∀j cs,j<i+1->qcs[j]? =some cs->xW (cs.drop 2):=fun j cs hj hc=>by
   rcases aP j i with h|h
   ·exact hQ j cs h hc
   ·have:j=i:=by omega
    subst this;rw[Om]at hc;injection hc with hc;subst hc;exact Ov rfl
  refine⟨((i+1:Nat):Int),wo,?_⟩;intro ρ3 w6 r3;exact⟨(i+1,w6,_),⟨OF,hw.tr r3.cQ,OY⟩,Sub.gn [] r3,by dsimp only;omega⟩
 have OF:i=f.cU.length:=aR hi (by simpa using OF);subst OF;obtain⟨kb,kb2⟩:=MU.of RU hbQ Pf hB;obtain⟨kq,kq2⟩:=MU.of hq4 hqQ UI hQ;have hR:du w S (.slice an f.nodes.length cn) (.slice ab f.bars.length cb) (.slice aq f.cU.length cq) f.val:=⟨hf.nodes,kb,kq⟩
 refine cD (cE hw (fun _ w' v w2=>v= .int .i64 (eO f.val)) (fun O w' r=>Ek (oS hS r) (hR.cI (kS hw r hS))) ?_);rintro O _ _ _ OM r he hw h_ rfl;obtain⟨e,he⟩:∃e,eO f.val=e:=⟨_,rfl⟩
 rw[he];refine dN.mk ?_ ?_<;>intro hd
 ·have hd:e≠0:=by simpa using hd
  exact rtn hw fun ρe we re=>⟨_,rfl,fun _=>⟨hR,kb2,kq2,.inl hd⟩⟩
 have hd:e=0:=by simpa using hd
 refine dN.mk ?_ ?_<;>intro h4
 ·have h4:=aI h4;exact rtn hw fun ρe we re=>⟨_,rfl,fun h=>⟨hR,kb2,kq2,.inr ⟨by show f.nodes.length<=4;omega,by show(f.bars.map GJ).length<=6;rw[aJ];have:=aI h;omega⟩⟩⟩
 exact rtn hw fun ρe we re=>⟨_,rfl,fun h=>by cases h⟩
section
variable{xs:List Rat}{l:List (Rat×Rat)}{i:Nat}{x:Rat}{r:Rat×Rat}
end
theorem qB(hf:du w S vn vb vs f)(h60:f.bars.length<=60∧f.cU.length<=60):eD PG N.pL #[.agg #[vn,vb,vs]] w (eG w fun v' _=>v'= .int .i64 f.cols):=by
 have hw:=bR w;obtain⟨an,cn,ab,cb,aq,cq,rfl,rfl,rfl,Qw,RX,SG⟩:=hf.shape;refine tc (by simp) ?_;refine⟨((f.bars.length+f.cU.length:Nat):Int),wo,?_⟩;exact rtn hw fun ρe we re=>rfl
section
variable{S:Nat->Prop}{w w1 w':World}{H:Hp}{nx:Nat}{iv:Iv}{O:Nat->Sx.dg}
theorem IM{f:GI}(hS:Old S w)(hw:eB w.heap.size w w1)(r:Rel H nx iv w.heap.size w1 O w')(hf:qA w S vn vb vs f):eD PG N.pH #[.agg #[vn,vb,vs]] w' (eG w' fun v' _=>∃d,v'= .bool d∧
  (d=true->du w S vn vb vs f.val∧(∀b∈f.val.bars,rl b.2.2<=3)∧(∀b∈f.val.cU,rl b.2.2<=3)∧(eO f.val≠0∨f.val.nodes.length<=4∧f.val.bars.length<=6))):=
 have hk:∀g,S g->w'.heap[g]? =w.heap[g]? :=fun g hg=>(hw.tr r.cQ).block g (hS g hg)
 (KM (S:=S) (oS hS r) (hf.cI hk)).mono fun _ _ ⟨v2,e1,e2,d,e3,e4⟩=>⟨v2,e1,e2,d,e3,fun h=>⟨(e4 h).1.cI fun g hg=>(hk g hg).symm,(e4 h).2⟩⟩
end
end Go.Ex
namespace Go.Ex
end Go.Ex
namespace Go.Ex
open Go Go.Sx Go.Proofs
variable{b:Int×Int×Rat}{S:Nat->Prop}{f:fM}
theorem IN{n:Nat}(h:n<9223372036854775807):ln n<=2:=by have:=lW (n:=(n:Int)) (by omega) (by omega);rwa [Int.natAbs_natCast]at this
theorem KO(h:eO f=0)(hb:b∈f.bars):b.1≠b.2.1∧0<b.2.2:=by
 obtain⟨_,_,QJ,_⟩:=ua h;obtain⟨k,hk⟩:=aU hb;have:=mu.1 (iX QJ k b hk);exact⟨this.2.1,this.2.2.2⟩
structure nI{α:Type}(k:Nat)(P:World->(Nat->Prop)->List Value->α->Prop)(w:World)(S:Nat->Prop)(css:List (List Value))(qs:List α):Prop where
 len:css.length=qs.length
 wid:∀cs∈css,cs.length=k
 at_:∀(j:Nat) cs q,css[j]? =some cs->qs[j]? =some q->P w S cs q
section
variable{α:Type}{k:Nat}{P:World->(Nat->Prop)->List Value->α->Prop}{w w2:World}{S S':Nat->Prop}{css:List (List Value)}{qs:List α}
theorem nI.map{P':World->(Nat->Prop)->List Value->α->Prop}(h:nI k P w S css qs)(hP:∀cs q,P w S cs q->P' w2 S' cs q):nI k P' w2 S' css qs:=⟨h.len,h.wid,fun j cs q h1 h2=>hP cs q (h.at_ j cs q h1 h2)⟩
theorem nI.one(h:nI k P w S css qs)(h1:∀cs q,P w S cs q->∀u∈cs,u.oneCell'=true):∀u∈css.flatten,u.oneCell'=true:=fun u hu=>by
 obtain⟨cs,hc,hu⟩:=List.mem_flatten.1 hu;obtain⟨j,hj⟩:=aU hc;exact h1 cs _ (h.at_ j cs _ hj (aB (by rw[<-h.len];exact(aD.1 hj).1))) u hu
theorem nI.list{v:Value}(h:nI k P w S css qs)(hs:iB w S k v css.flatten css.length):eX k P w S v qs:=⟨css,h.len▸hs,h.len,h.wid,h.at_⟩
end
theorem Lu{n:Int}(h:n.natAbs<9223372036854775807):rl (n:Rat)<=2:=by
 have h2:ln n.natAbs<=2:=IN h;unfold rl;rw[Rat.num_intCast,Rat.den_intCast];have h3:ln 1=1:=by decide
 omega
set_option maxHeartbeats 1000000 in
theorem Ao{w:World}{vn vb vs:Value}{i:Nat}(hS:Old S w)(hf:du w S vn vb vs f)(OJ:tx f)(hb:f.bars[i]? =some b):
  eD PG N.mz #[.agg #[vn,vb,vs],.int .i64 i] w (eG w fun v' _=>v'= .agg #[.int .i64 ((f.node b.2.1).1-(f.node b.1).1),.int .i64 ((f.node b.2.1).2.1-(f.node b.1).2.1),.int .i64 ((f.node b.2.1).2.2-(f.node b.1).2.2)]):=by
 have hw:=bR w;obtain⟨an,cn,ab,cb,aq,cq,rfl,rfl,rfl,Qw,RX,SG⟩:=hf.shape;obtain⟨UO,TY,TZ⟩:=And.intro OJ.n (And.intro OJ.b OJ.s);have OF:=(aD.1 hb).1;obtain⟨hA,hB⟩:=OJ.Lb b (aC hb);obtain⟨ka,pa,ea,hka,hpa,VH,⟨_,_⟩,⟨_,_⟩,⟨_,_⟩⟩:=OJ.node hA.1 hA.2;obtain⟨kb,pb,eb,OI,Ui,VI,⟨_,_⟩,⟨_,_⟩,⟨_,_⟩⟩:=OJ.node hB.1 hB.2;obtain⟨adx,csx,PI,SE,-,Of⟩:=hf.bars.load (by decide) hb;obtain⟨g0,g1,g2,g3,g4,g5,g6,g7,rfl,-⟩:=SE;obtain⟨ada,csa,haa,hPa,-,Pj⟩:=hf.nodes.load (by decide) hpa;obtain⟨adb,csb,Pg,hPb,-,Oa⟩:=hf.nodes.load (by decide) Ui;have hPa:csa=[.int .i64 pa.1,.int .i64 pa.2.1,.int .i64 pa.2.2]:=hPa;have hPb:csb=[.int .i64 pb.1,.int .i64 pb.2.1,.int .i64 pb.2.2]:=hPb;subst hPa hPb;rw[VH,VI];rw[ea,eb]at Of;refine qf (by simp) ?_;refine ic hτ dm (.x 0 (.x 2 (.x 4 (.x 10 (.x 12 (.x 14 (.ld 1 12583680 (.ld 3 12583904 (.x 5 (.x 6 (.ld 7 12583680 (.x 8 (.ld 9 12582912 (.ld 11 9175040 (.ld 13 9404416 (.x 15 (.x 16 (.ld 17 9175040 (.x 18 (.ld 19 8388608 (.two 20 (.x 21 (.x 22 (.x 23 .nil))) 21 (.x 20 (.x 22 (.x 23 .nil)))))))))))))))))))))))) (by kernel_rfl) (by kernel_rfl) ?_;refine⟨adx,PI,by omega,.int .i64 (ka:Int),fun O w' r=>?_,?_⟩
 ·obtain⟨k1,k2⟩:=Of 0 _ rfl;rw[cH (w:=w) (w2:=w') (by simp only[dH];exact(hw.tr r.cQ).block _ (hS _ k1))];simp only[aE,jy]at k2 ⊢;exact k2
 refine⟨ada,haa,by omega,[.int .i64 pa.1,.int .i64 pa.2.1,.int .i64 pa.2.2],rfl,rdO Pj hw hS,adx,PI,by omega,.int .i64 (kb:Int),fun O w' r=>?_,?_⟩
 ·obtain⟨k1,k2⟩:=Of 1 _ rfl;rw[cH (w:=w) (w2:=w') (by simp only[dH];exact(hw.tr r.cQ).block _ (hS _ k1))];simp only[aE,jy]at k2 ⊢;exact k2
 refine⟨adb,Pg,by omega,[.int .i64 pb.1,.int .i64 pb.2.1,.int .i64 pb.2.2],rfl,rdO Oa hw hS,?_,?_⟩
 ·conv=>whnf
  refine⟨[.int .i64 pb.1,.int .i64 pb.2.1,.int .i64 pb.2.2],rfl,rdO Oa hw hS,rfl,.int .i64 (kb:Int),fun O w' r=>?_,?_⟩
  ·obtain⟨k1,k2⟩:=Of 1 _ rfl;rw[cH (w:=w) (w2:=w') (by simp only[dH];exact(hw.tr r.cQ).block _ (hS _ k1))];simp only[aE,jy]at k2 ⊢;exact k2
  refine⟨rfl,rfl,rfl,[.int .i64 pa.1,.int .i64 pa.2.1,.int .i64 pa.2.2],rfl,rdO Pj hw hS,rfl,.int .i64 (ka:Int),fun O w' r=>?_,?_⟩
  ·obtain⟨k1,k2⟩:=Of 0 _ rfl;rw[cH (w:=w) (w2:=w') (by simp only[dH];exact(hw.tr r.cQ).block _ (hS _ k1))];simp only[aE,jy]at k2 ⊢;exact k2
  refine⟨rfl,rfl,rfl,[.int .i64 pb.1,.int .i64 pb.2.1,.int .i64 pb.2.2],rfl,rdO Oa hw hS,rfl,.int .i64 (kb:Int),fun O w' r=>?_,?_⟩
  ·obtain⟨k1,k2⟩:=Of 1 _ rfl;rw[cH (w:=w) (w2:=w') (by simp only[dH];exact(hw.tr r.cQ).block _ (hS _ k1))];simp only[aE,jy]at k2 ⊢;exact k2
  refine⟨rfl,rfl,rfl,[.int .i64 pa.1,.int .i64 pa.2.1,.int .i64 pa.2.2],rfl,rdO Pj hw hS,rfl,.int .i64 (ka:Int),fun O w' r=>?_,?_⟩
  ·obtain⟨k1,k2⟩:=Of 0 _ rfl;rw[cH (w:=w) (w2:=w') (by simp only[dH];exact(hw.tr r.cQ).block _ (hS _ k1))];simp only[aE,jy]at k2 ⊢;exact k2
  refine⟨rfl,rfl,rfl,[.int .i64 pb.1,.int .i64 pb.2.1,.int .i64 pb.2.2],rfl,rdO Oa hw hS,rfl,.int .i64 (kb:Int),fun O w' r=>?_,?_⟩
  ·obtain⟨k1,k2⟩:=Of 1 _ rfl;rw[cH (w:=w) (w2:=w') (by simp only[dH];exact(hw.tr r.cQ).block _ (hS _ k1))];simp only[aE,jy]at k2 ⊢;exact k2
  refine⟨rfl,rfl,rfl,pb.1-pa.1,wo,pb.2.1-pa.2.1,wo,pb.2.2-pa.2.2,wo,?_⟩;exact rtn hw fun ρe we re=>rfl
 ·conv=>whnf
  refine⟨[.int .i64 pb.1,.int .i64 pb.2.1,.int .i64 pb.2.2],rfl,rdO Oa hw hS,rfl,.int .i64 (kb:Int),fun O w' r=>?_,?_⟩
  ·obtain⟨k1,k2⟩:=Of 1 _ rfl;rw[cH (w:=w) (w2:=w') (by simp only[dH];exact(hw.tr r.cQ).block _ (hS _ k1))];simp only[aE,jy]at k2 ⊢;exact k2
  refine⟨rfl,rfl,rfl,[.int .i64 pa.1,.int .i64 pa.2.1,.int .i64 pa.2.2],rfl,rdO Pj hw hS,rfl,.int .i64 (ka:Int),fun O w' r=>?_,?_⟩
  ·obtain⟨k1,k2⟩:=Of 0 _ rfl;rw[cH (w:=w) (w2:=w') (by simp only[dH];exact(hw.tr r.cQ).block _ (hS _ k1))];simp only[aE,jy]at k2 ⊢;exact k2
  refine⟨rfl,rfl,rfl,[.int .i64 pb.1,.int .i64 pb.2.1,.int .i64 pb.2.2],rfl,rdO Oa hw hS,rfl,.int .i64 (kb:Int),fun O w' r=>?_,?_⟩
  ·obtain⟨k1,k2⟩:=Of 1 _ rfl;rw[cH (w:=w) (w2:=w') (by simp only[dH];exact(hw.tr r.cQ).block _ (hS _ k1))];simp only[aE,jy]at k2 ⊢;exact k2
  refine⟨rfl,rfl,rfl,[.int .i64 pa.1,.int .i64 pa.2.1,.int .i64 pa.2.2],rfl,rdO Pj hw hS,rfl,.int .i64 (ka:Int),fun O w' r=>?_,?_⟩
  ·obtain⟨k1,k2⟩:=Of 0 _ rfl;rw[cH (w:=w) (w2:=w') (by simp only[dH];exact(hw.tr r.cQ).block _ (hS _ k1))];simp only[aE,jy]at k2 ⊢;exact k2
  refine⟨rfl,rfl,rfl,[.int .i64 pb.1,.int .i64 pb.2.1,.int .i64 pb.2.2],rfl,rdO Oa hw hS,rfl,.int .i64 (kb:Int),fun O w' r=>?_,?_⟩
  ·obtain⟨k1,k2⟩:=Of 1 _ rfl;rw[cH (w:=w) (w2:=w') (by simp only[dH];exact(hw.tr r.cQ).block _ (hS _ k1))];simp only[aE,jy]at k2 ⊢;exact k2
  refine⟨rfl,rfl,rfl,pb.1-pa.1,wo,pb.2.1-pa.2.1,wo,pb.2.2-pa.2.2,wo,?_⟩;exact rtn hw fun ρe we re=>rfl
section
variable{S S':Nat->Prop}{H:Hp}{nx:Nat}{iv iv':Iv}{B:Nat}{w w' w2:World}{O:Nat->Sx.dg}{v:Value}{l:List (Rat×Rat)}
end
end Go.Ex
namespace Go.Ex
abbrev I3:=Int×Int×Int
def LV(p:I3):Prop:=mh p.1∧mh p.2.1∧mh p.2.2
instance (p : I3) : Decidable (LV p) := by unfold LV; infer_instance
end Go.Ex
namespace Go.Ex
open Go Go.Sx Go.Proofs
end Go.Ex
namespace Go.Sx
open Go Go.Ex Go.Proofs
variable{vs:List Value}{O:Nat->Sx.dg}
theorem Sub.aAN{B nx:Nat}{l:Env}{H:Hp}{iv:Iv}{w w':World}{t:yE}(id:Nat){bt:Nat}(Oj:dB H id=some (.box bt (vs.map At.v)))(r:Rel H nx iv B w O w')
  (h:Rel ((id,.arr bt vs)::H) nx iv B w O w'->Sx.Sub B l nx O w' t):Sx.Sub B l nx O w' t:=by
 have hnn:=r.nn id _ Oj (by intros;simp) (by simp);have Oz:=r.box id bt _ Oj;have Q8:(vs.map At.v).map (At.den O)=vs:=by
  rw[List.map_map];exact List.map_id _
 rw[Q8]at Oz
 exact h (r.store (b':=.arr bt vs) (H':=(id,.arr bt vs)::H) (w2:=w') Oj (by simp) hnn (fun j=>by
  rw[dA];by_cases hj:id=j
  ·subst hj;simp
  ·rw[aK hj,aK (fun h=>hj h.symm)]) rfl rfl rfl rfl (fun _ _=>rfl) ⟨hnn,Oz⟩ trivial)
end Go.Sx
namespace Go.Ex
open Go Go.Sx Go.Proofs
abbrev Nm(x:Ld):Value:=.agg #[.int .i64 x.1,.int .i64 x.2.1,.int .i64 x.2.2.1,.int .i64 x.2.2.2]
end Go.Ex
namespace Go.Ex
open Go Go.Sx Go.Proofs
theorem IP(x:Ld)(w:World):eD PG N.tO #[Nm x] w (eG w fun v' _=>∃d,v'= .bool d∧(d=true↔LV x.2)):=by
 have hw:=bR w;obtain⟨x0,x1,x2,x3⟩:=x;refine xH (by simp) ?_;refine cD (cE hw (fun _ w' v w2=>∃d,v= .bool d∧(d=true↔ -1000000<=x1∧x1<=1000000)) (fun O w' r=>lV _ _ _ w') ?_);rintro O _ _ _ OM r he hw h_ ⟨d0,rfl,OQ⟩
 cases d0
 ·have OQ:¬mh x1:=fun h=>by have:=OQ.2 h;cases this
  exact rtn hw fun ρe we re=>⟨_,rfl,(fun h=>by cases h),fun h=>absurd h.1 OQ⟩
 replace OQ:mh x1:=OQ.1 rfl;refine cD (cE hw (fun _ w' v w2=>∃d,v= .bool d∧(d=true↔ -1000000<=x2∧x2<=1000000)) (fun O w' r=>lV _ _ _ w') ?_);rintro O _ _ _ OK r he hw h_ ⟨d1,rfl,OV⟩
 cases d1
 ·have OV:¬mh x2:=fun h=>by have:=OV.2 h;cases this
  exact rtn hw fun ρe we re=>⟨_,rfl,(fun h=>by cases h),fun h=>absurd h.2.1 OV⟩
 replace OV:mh x2:=OV.1 rfl;refine cD (cE hw (fun _ w' v w2=>∃d,v= .bool d∧(d=true↔ -1000000<=x3∧x3<=1000000)) (fun O w' r=>lV _ _ _ w') ?_);rintro O _ _ _ OS r he hw h_ ⟨d2,rfl,Ov⟩
 cases d2
 ·have Ov:¬mh x3:=fun h=>by have:=Ov.2 h;cases this
  exact rtn hw fun ρe we re=>⟨_,rfl,(fun h=>by cases h),fun h=>absurd h.2.2 Ov⟩
 replace Ov:mh x3:=Ov.1 rfl;exact rtn hw fun ρe we re=>⟨_,rfl,fun _=>⟨OQ,OV,Ov⟩,fun _=>rfl⟩
section
variable{S S':Nat->Prop}{H:Hp}{nx:Nat}{iv iv':Iv}{B:Nat}{w w' w2:World}{O:Nat->Sx.dg}{v:Value}{l:List Ld}
end
end Go.Ex
namespace Go.Ex
variable{d:Int}{b:Int×Int×Rat}{M:List (List Rat)}{l x0 φ:List Rat}{K n:Nat}{y:Nat->Rat}{D:Rat}{f:fM}
theorem tB{a b:Rat}(ha:a≠0)(hb:b≠0):a*b≠0:=fun e=>by
 rcases Rat.mul_eq_zero.1 e with h|h
 ·exact ha h
 ·exact hb h
def Den(K:Nat)(D:Rat)(l:List Rat):Prop:=D≠0∧Ib K D∧∀t,Ib K (D*l.getD t 0)
def Ff(K:Nat)(D:Rat)(M:List (List Rat)):Prop:=D≠0∧Ib K D∧∀k t,Ib K (D*dD M k t)
theorem Den.rl(h:Den K D l):∀q∈l,rl q<=ln K:=fun q hq=>by
 obtain⟨j,hj⟩:=aU hq;have:=xc h.1 h.2.1 (h.2.2 j)
 rwa [List.getD,hj]at this
theorem Ff.rl(h:Ff K D M):∀r∈M,∀q∈r,rl q<=ln K:=fun r hr q hq=>by
 obtain⟨k,hk⟩:=aU hr;obtain⟨j,hj⟩:=aU hq;have:=xc h.1 h.2.1 (h.2.2 k j)
 rwa [dD,show M.getD k []=r by rw[List.getD,hk];rfl,List.getD,hj]at this
theorem iU{t:Nat}(h:l.length<=t):l.getD t 0=0:=by rw[List.getD,List.getElem?_eq_none h];rfl
theorem LZ{k t:Nat}(hM:fX n M)(h:n<=t):dD M k t=0:=by
 rw[dD];rcases aP k M.length with hk|hk
 ·exact iU (by rw[hM.getD hk];exact h)
 ·rw[show M.getD k []=[] by rw[List.getD,List.getElem?_eq_none hk];rfl];rfl
theorem JX{k t:Nat}(h:M.length<=k):dD M k t=0:=by
 rw[dD,show M.getD k []=[] by rw[List.getD,List.getElem?_eq_none h];rfl];rfl
section
variable{M:List (List Rat)}{n B:Nat}{b:List Rat}
theorem Gu(hM:fX n M)(hW:BP M n B)(hB:1<=B){c:Nat}(hc:c<=n):∃D:Rat,D≠0∧Ib (fB B M.length) D∧∀i t,i<(cM M c).2.length->t<n->Ib (fB B M.length) (D*dD (cM M c).1 i t):=by
 obtain⟨σ,Z,h⟩:=pC hM hW c hc;have hle:=h.red.2.1;rw[h.len]at hle;have hm:=qP hB hle;exact⟨_,h.yi.nz,h.yi.den.mono hm,fun i t hi ht=>(h.yi.ent hi ht).mono hm⟩
theorem L0(hM:fX n M)(hW:BP M n B)(hB:1<=B):∃D,Ff (fB B M.length) D (cW M n):=by
 obtain⟨D,h0,hD,hE⟩:=Gu hM hW hB (aF n);obtain⟨r1,r2,r3,r4,r5⟩:=dY hM n (aF _);have RH:=gz M n;refine⟨D,h0,hD,fun k t=>?_⟩;rcases aP k (cW M n).length with hk|hk
 ·rcases aP t n with ht|ht
  ·have hf:=lD.1 (pB (by rw[<-lH];exact hk));rw[dD,yj M n hk];generalize (iy (cM M n).2 n).getD k 0=c at hf;by_cases hp:t∈(cM M n).2
   ·obtain⟨j,hj,rfl⟩:=rW hp;rw[nW (F:=gC (cM M n).1 (cM M n).2 n c) (f:=fun i=> -(dD (cM M n).1 i c)) (fun i=>gp _ _ n c i) (kA _ _ n c) RH.2.1 r4 _ (aF _) hj,show D* -(dD (cM M n).1 j c)= -(D*dD (cM M n).1 j c) by grind];exact(hE j c hj hf.1).neg
   ·rw[pA hp hf.1];split
    ·rw[Rat.mul_one];exact hD
    ·rw[bD];exact Ib.zero _
  ·rw[LZ (nc M n) ht,bD];exact Ib.zero _
 ·rw[JX hk,bD];exact Ib.zero _
theorem yn{x:List Rat}(hM:fX n M)(hW:BP (dF M b) (n+1) B)(hB:1<=B)(h:fE M b n=some x):∃D,Den (fB B M.length) D x:=by
 obtain⟨D,h0,hD,hE⟩:=Gu (gX (b:=b) hM) hW hB (Nat.le_succ n);rw[eA]at hD hE;obtain⟨r1,r2,r3,r4,r5⟩:=dY (gX (b:=b) hM) n (Nat.le_succ _);have RH:=gz (dF M b) n;unfold fE at h;dsimp only at h;split at h
 ·injection h with h;subst h;refine⟨D,h0,hD,fun t=>?_⟩;by_cases hp:t∈(cM (dF M b) n).2
  ·obtain⟨j,hj,rfl⟩:=rW hp;rw[nW (F:=fp (cM (dF M b) n).1 (cM (dF M b) n).2 n) (f:=fun i=>dD (cM (dF M b) n).1 i n) (fun i=>gR _ _ n i) (jD _ _ n) RH.2.1 r4 _ (aF _) hj];exact hE j n hj (by omega)
  ·rw[sf hp,bD];exact Ib.zero _
 ·cases h
end
def ll(φ:List Rat):Nat->Rat
 |0=>1
 |t+1=>ll φ t*((φ.getD t 0).den:Rat)
theorem Dv(φ:List Rat):∀k,ll φ k≠0
 |0=>by show(1:Rat)≠0;decide
 |k+1=>tB (Dv φ k) (by have:=(φ.getD k 0).den_nz;exact_mod_cast this)
theorem yo{φ:List Rat}{B:Nat}(h:∀t,(φ.getD t 0).den<=B):∀k,Ib (B^k) (ll φ k)
 |0=>Ib.one (aF _)
 |k+1=>by
  rw[Nat.pow_succ];exact(yo h k).mul ⟨((φ.getD k 0).den:Int),rfl,by rw[Int.natAbs_natCast];exact h k⟩
theorem Gv(q:Rat):(q.den:Rat)*q=(q.num:Rat):=by
 have h:=Rat.num_divInt_den q;have h0:((q.den:Int):Rat)≠0:=by have:=q.den_nz;exact_mod_cast this
 rw[Rat.divInt_eq_div]at h;have h1:(q.num:Rat) / ((q.den:Int):Rat)*((q.den:Int):Rat)=(q.num:Rat):=Rat.div_mul_cancel h0;rw[h,bg]at h1;exact h1
theorem BT{φ:List Rat}{B:Nat}(h:∀t,(φ.getD t 0).den<=B)(hn:∀t,(φ.getD t 0).num.natAbs<=B)(hB:1<=B):∀k t,t<k->Ib (B^k) (ll φ k*φ.getD t 0)
 |0,t,ht=>by omega
 |k+1,t,ht=>by
  rw[ll,Nat.pow_succ];rcases aP t k with h1|h1
  ·rw[show ∀a b c:Rat,a*b*c=(a*c)*b from fun a b c=>by grind];exact(BT h hn hB k t h1).mul ⟨((φ.getD k 0).den:Int),rfl,by rw[Int.natAbs_natCast];exact h k⟩
  ·rw[show t=k by omega,Rat.mul_assoc,Gv];exact(yo h k).mul (Ib.int (hn k))
theorem mX{l:Nat}:1<=wt l:=yM l
theorem Gw{q:Rat}{l:Nat}(h:rl q<=l):q.num.natAbs<wt l∧q.den<wt l:=⟨gQ.1 (ah (ff q) h),gQ.1 (ah (Mk q) h)⟩
theorem JY(l k:Nat):wt l^k=wt (l*k):=by rw[uW,uW,<-Nat.pow_mul,bh]
theorem JZ(hl:φ.length<=n)(h:∀q∈φ,rl q<=3):Den (wt (3*n)) (ll φ n) φ:=by
 have h3:∀t,rl (φ.getD t 0)<=3:=fun t=>by
  rw[List.getD]
  cases ht:φ[t]? with
  |none=>show rl 0<=3;decide
  |some q=>exact h q (aC ht)
 have h1:∀t,(φ.getD t 0).den<=wt 3:=fun t=>Nat.le_of_lt (Gw (h3 t)).2;have h2:∀t,(φ.getD t 0).num.natAbs<=wt 3:=fun t=>Nat.le_of_lt (Gw (h3 t)).1;refine⟨Dv φ n,by rw[<-JY];exact yo h1 n,fun t=>?_⟩;rcases aP t n with ht|ht
 ·rw[<-JY];exact BT h1 h2 mX n t ht
 ·rw[iU (by omega),bD];exact Ib.zero _
theorem getD_some{α:Type}{l:List α}{i:Nat}{x d:α}(h:l[i]? =some x):l.getD i d=x:=by rw[List.getD,h];rfl
structure AT(M:List (List Rat))(n:Nat)(φ:Nat->Rat):Prop where
 len:fX n M
 pos:∀t,t<n->0<=φ t
 Ml:∀x:Nat->Rat,(∀j,j<M.length->mulR M n x j=0)->cY (fun t=>φ t*(x t*x t)) n=0->∀t,t<n->x t=0
theorem Dw(M:List (List Rat))(n:Nat)(x y:Nat->Rat)(j:Nat):mulR M n (fun t=>x t+y t) j=mulR M n x j+mulR M n y j:=by
 unfold mulR;rw[<-gD];exact cK fun t _=>by grind
theorem Ja(M:List (List Rat))(n:Nat)(x:Nat->Rat)(c:Rat)(j:Nat):mulR M n (fun t=>c*x t) j=c*mulR M n x j:=by
 unfold mulR;rw[<-e9];exact cK fun t _=>by grind
theorem Dx(M:List (List Rat))(n:Nat)(S:Mx)(c:Nat->Rat)(j s:Nat):mulR M n (fun t=>cY (fun k=>c k*S k t) s) j=cY (fun k=>c k*mulR M n (S k) j) s:=by
 induction s with
 |zero=>exact(cK (g:=fun _=>0) fun t _=>bD _).trans (di n)
 |succ s ih=>
  show mulR M n (fun t=>cY (fun k=>c k*S k t) s+c s*S s t) j=cY (fun k=>c k*mulR M n (S k) j) s+c s*mulR M n (S s) j;rw[Dw,Ja,ih]
theorem rb{x:Nat->Rat}(h:∀t,t<n->x t=y t)(j:Nat):mulR M n x j=mulR M n y j:=cK fun t ht=>by rw[h t ht]
def sT(φ x y:Nat->Rat)(n:Nat):Rat:=cY (fun t=>φ t*(x t*y t)) n
theorem tC(φ x y:Nat->Rat)(n:Nat):sT φ x y n=sT φ y x n:=cK fun t _=>by grind
theorem Gx(φ x y z:Nat->Rat)(n:Nat):sT φ x (fun t=>y t+z t) n=sT φ x y n+sT φ x z n:=by
 unfold sT;rw[<-gD];exact cK fun t _=>by grind
theorem tD(φ x:Nat->Rat)(S:Mx)(c:Nat->Rat)(n s:Nat):sT φ x (fun t=>cY (fun k=>c k*S k t) s) n=cY (fun k=>c k*sT φ x (S k) n) s:=by
 unfold sT;rw[cK (g:=fun t=>cY (fun k=>c k*(φ t*(x t*S k t))) s) fun t _=>by rw[<-e9,<-e9];exact cK fun k _=>by grind,mq];exact cK fun k _=>by rw[e9]
theorem u6{φ x x' y':Nat->Rat}(h1:∀t,t<n->x t=x' t)(h2:∀t,t<n->y t=y' t):sT φ x y n=sT φ x' y' n:=cK fun t ht=>by rw[h1 t ht,h2 t ht]
section
variable{M:List (List Rat)}{n:Nat}{φ:Nat->Rat}{b:List Rat}
def Gy(M:List (List Rat))(n:Nat)(φ:Nat->Rat)(i j:Nat):Rat:=sT φ (dD (cW M n) i) (dD (cW M n) j) n
theorem AT.Jb(h:AT M n φ){c:Nat->Rat}(hc:∀i,i<(cW M n).length->cY (fun j=>Gy M n φ i j*c j) (cW M n).length=0):∀i,i<(cW M n).length->c i=0:=by
 obtain⟨y,hy⟩:∃y:Nat->Rat,y=fun t=>cY (fun k=>c k*dD (cW M n) k t) (cW M n).length:=⟨_,rfl⟩
 have UG:∀j,j<M.length->mulR M n y j=0:=fun j hj=>by
  rw[hy,Dx,cK (g:=fun _=>0) fun k hk=>by rw[tA h.len hk j hj,bD],di]
 have hw:∀i,i<(cW M n).length->sT φ (dD (cW M n) i) y n=0:=fun i hi=>by
  rw[hy,tD,<-hc i hi];exact cK fun k _=>bg _ _
 have h0:sT φ y y n=0:=by
  have:sT φ y y n=cY (fun k=>c k*sT φ y (dD (cW M n) k) n) (cW M n).length:=by
   rw[<-tD,<-hy]
  rw[this,cK (g:=fun _=>0) fun k hk=>by rw[tC,hw k hk,bD],di]
 exact Gt (M:=M) fun t ht=>by
  have:=h.Ml y UG h0 t ht;rw[hy]at this;exact this
theorem AT.only(h:AT M n φ){x:Nat->Rat}(hx:∀j,j<M.length->mulR M n x j=0)(hs:∀k,k<(cW M n).length->sT φ (dD (cW M n) k) x n=0):∀t,t<n->x t=0:=by
 obtain⟨c,hc⟩:=Gs h.len hx;have h0:sT φ x x n=0:=by
  rw[u6 (x':=x) (fun _ _=>rfl) hc,tD,cK (g:=fun _=>0) fun k hk=>by rw[tC,hs k hk,bD],di]
 exact h.Ml x hx h0
def fg(k:Nat):List Rat:=List.replicate k 0
theorem pD(b:List Rat)(k j:Nat):(b++fg k).getD j 0=b.getD j 0:=by
 unfold fg;rcases aP j b.length with h|h
 ·rw[List.getD,aL h,<-List.getD]
 ·rw[iU h,List.getD,aM h,List.getElem?_replicate];split<;>rfl
structure jm(M:List (List Rat))(n:Nat)(φ:Nat->Rat)(b x:List Rat):Prop where
 len:x.length=n
 eq:∀j,j<M.length->mulR M n (fun t=>x.getD t 0) j=b.getD j 0
 st:∀k,k<(cW M n).length->sT φ (dD (cW M n) k) (fun t=>x.getD t 0) n=0
theorem AT.one(h:AT M n φ){x y:List Rat}(hx:jm M n φ b x)(hy:jm M n φ b y):x=y:=by
 refine ga 0 (by rw[hx.len,hy.len]) fun t ht=>?_;rw[hx.len]at ht
 have:=h.only (x:=fun t=>x.getD t 0-y.getD t 0) (fun j hj=>by rw[Dt,hx.eq j hj,hy.eq j hj];grind) (fun k hk=>by
  rw[show (fun t=>x.getD t 0-y.getD t 0)=fun t=>x.getD t 0+(-1)*y.getD t 0 from funext fun t=>by grind,Gx,hx.st k hk];have h2:=hy.st k hk;unfold sT at h2 ⊢;rw[cK (f:=fun t=>φ t*(dD (cW M n) k t*(-1*y.getD t 0))) (g:=fun t=>(-1)*(φ t*(dD (cW M n) k t*y.getD t 0))) fun t _=>by grind,e9,h2]
  grind) t ht
 grind
end
theorem mr{a b:List Rat}{t:Nat}(ht:t<a.length):(ew a b).getD t 0=a.getD t 0*b.getD t 0:=by
 have h:=aB ht;rw[getD_some h];exact getD_some (by rw[ew,List.getElem?_mapIdx,h];rfl)
section
variable{M:List (List Rat)}{n:Nat}{fl b:List Rat}
theorem u7(M:List (List Rat))(n:Nat)(fl:List Rat){i j:Nat}(hi:i<(cW M n).length)(hj:j<(cW M n).length):dD (eU (cW M n) fl) i j=Gy M n (fun t=>fl.getD t 0) i j:=by
 have hr:=aB hi;have hs:=aB hj;have hl:((cW M n)[i]).length=n:=nc M n _ (aY hi);have h1:(eU (cW M n) fl)[i]? =some ((cW M n).map fun r=>fI (ew (cW M n)[i] fl) r (cW M n)[i].length):=by rw[eU,aN,hr];rfl
 have h2:((cW M n).map fun r=>fI (ew (cW M n)[i] fl) r (cW M n)[i].length)[j]? =some (fI (ew (cW M n)[i] fl) (cW M n)[j] (cW M n)[i].length):=by rw[aN,hs];rfl
 rw[dD,getD_some h1,getD_some h2,rZ,hl];refine cK fun t ht=>?_;rw[mr (by omega),dD,dD,getD_some hr,getD_some hs];grind
theorem nd(st:List (List Rat))(fl:List Rat):fX st.length (eU st fl):=fun r hr=>by
 obtain⟨s,hs,rfl⟩:=aT.1 hr;rw[aJ]
theorem Dy(M:List (List Rat))(n:Nat)(fl x:List Rat){i:Nat}(hi:i<(cW M n).length):(gZ (cW M n) fl x).getD i 0= -(sT (fun t=>fl.getD t 0) (dD (cW M n) i) (fun t=>x.getD t 0) n):=by
 have hr:=aB hi;have hl:((cW M n)[i]).length=n:=nc M n _ (aY hi);have h1:(gZ (cW M n) fl x)[i]? =some (-(fI (ew (cW M n)[i] fl) x (cW M n)[i].length)):=by rw[gZ,aN,hr];rfl
 rw[getD_some h1,rZ,hl];congr 1;refine cK fun t ht=>?_;rw[mr (by omega),dD,getD_some hr];grind
theorem qS(st:List (List Rat))(c x:List Rat):∀i,(lF st c x i).length=x.length
 |0=>rfl
 |i+1=>by rw[lF,List.length_mapIdx,qS st c x i]
theorem yp(st:List (List Rat))(c x:List Rat){t:Nat}(ht:t<x.length):∀i,(lF st c x i).getD t 0=x.getD t 0+cY (fun k=>c.getD k 0*dD st k t) i
 |0=>(bX _).symm
 |i+1=>by
  have hl:t<(lF st c x i).length:=by rw[qS];exact ht
  have ih:=yp st c x ht i;rw[getD_some (aB hl)]at ih;rw[getD_some (show (lF st c x (i+1))[t]? =some ((lF st c x i)[t]+c.getD i 0*(st.getD i []).getD t 0) by rw[lF,List.getElem?_mapIdx,aB hl];rfl),ih,cY,Rat.add_assoc];rfl
theorem AT.force(h:AT M n fun t=>fl.getD t 0)(h0:fE M b n=some x0):∃c,fE (eU (cW M n) fl) (gZ (cW M n) fl x0) (cW M n).length=some c∧c.length=(cW M n).length∧
  jm M n (fun t=>fl.getD t 0) b (lF (cW M n) c x0 (cW M n).length):=by
 obtain⟨QK,QM⟩:=jR h.len h0;have hG:=nd (cW M n) fl;have hGl:(eU (cW M n) fl).length=(cW M n).length:=aJ _;have hc:∃c,fE (eU (cW M n) fl) (gZ (cW M n) fl x0) (cW M n).length=some c:=by
  cases e:fE (eU (cW M n) fl) (gZ (cW M n) fl x0) (cW M n).length with
  |some c=>exact⟨c,rfl⟩
  |none=>
   obtain⟨y,y1,y2⟩:=n9 hG e;rw[hGl]at y1 y2;have hy:=h.Jb (c:=y) fun i hi=>Eq.trans (cK fun j hj=>by rw[u7 M n fl hj hi,bg];unfold Gy;rw[tC]) (y1 i hi);exact absurd (by rw[cK (g:=fun _=>0) fun j hj=>by rw[hy j hj,bH],di]) y2
 obtain⟨c,hc⟩:=hc;obtain⟨c1,c2⟩:=jR hG hc;refine⟨c,hc,c1,by rw[qS];exact QK,fun j hj=>?_,fun k hk=>?_⟩
 ·rw[rb (y:=fun t=>x0.getD t 0+cY (fun k=>c.getD k 0*dD (cW M n) k t) (cW M n).length) fun t ht=>yp _ c x0 (by omega) _,Dw,Dx,QM j hj,cK (g:=fun _=>0) fun k hk=>by rw[tA h.len hk j hj,bD],di,bX]
 ·rw[u6 (x':=dD (cW M n) k) (y':=fun t=>x0.getD t 0+cY (fun k=>c.getD k 0*dD (cW M n) k t) (cW M n).length) (fun _ _=>rfl) fun t ht=>yp _ c x0 (by omega) _,Gx,tD];have h2:=c2 k (by omega);rw[Dy M n fl x0 hk]at h2;unfold mulR at h2;rw[cK (g:=fun t=>c.getD t 0*sT (fun t=>fl.getD t 0) (dD (cW M n) k) (dD (cW M n) t) n) fun t ht=>by rw[u7 M n fl hk ht,bg];rfl]at h2;rw[h2];grind
end
def ez(M:List (List Int))(r c:Nat):Int:=(M.getD r []).getD c 0
theorem getD_set_ne{α:Type}{l:List α}{i j:Nat}{x d:α}(h:i≠j):(l.set i x).getD j d=l.getD j d:=by rw[List.getD,aX h,<-List.getD]
theorem lr{α:Type}{l:List α}{i:Nat}{x d:α}(h:i<l.length):(l.set i x).getD i d=x:=by rw[List.getD,aW h];rfl
theorem jE{M:List (List Int)}{r c r' c':Nat}(h:r'≠r∨c'≠c):ez (putAt M r c d) r' c'=ez M r' c':=by
 unfold ez putAt;by_cases h1:r'=r
 ·subst h1;have h2:c≠c':=h.elim (fun h=>absurd rfl h) fun h=>h.symm;rcases aP r' M.length with h3|h3
  ·rw[lr h3,getD_set_ne h2]
  ·rw[List.set_eq_of_length_le h3]
 ·rw[getD_set_ne (Ne.symm h1)]
theorem Dz{M:List (List Int)}{r c:Nat}(hr:r<M.length)(hc:c<(M.getD r []).length):ez (putAt M r c d) r c=d:=by
 unfold ez putAt;rw[lr hr,lr hc]
theorem gh(M:List (List Int))(r c:Nat)(d:Int):so M r c d=putAt M r c (ez M r c+d):=rfl
theorem CO{i:Nat}(hb:f.bars[i]? =some b):f.bars.getD i (0,0,0)=b:=by rw[List.getD,hb];rfl
theorem u9{f:fM}{M:List (List Int)}{i c r:Nat}(h:c≠i):∀k,ez (eQ f M i k) r c=ez M r c
 |0=>rfl
 |k+1=>by
  rw[eQ];rw[gh,jE (.inr h),gh,jE (.inr h)];exact u9 h k
theorem lu(f:fM){r c:Nat}:∀i,i<=c->ez (df f i) r c=0
 |0,_=>by
  unfold ez df;rcases aP r (3*f.nodes.length)with h|h
  ·rw[show (List.replicate (3*f.nodes.length) (List.replicate f.cols (0:Int))).getD r []=List.replicate f.cols 0 by rw[List.getD,List.getElem?_replicate,if_pos h];rfl,List.getD,List.getElem?_replicate];split<;>rfl
  ·rw[show (List.replicate (3*f.nodes.length) (List.replicate f.cols (0:Int))).getD r []=[] by rw[List.getD,List.getElem?_replicate,aK (by omega)];rfl];rfl
 |i+1,h=>by rw[df,u9 (by omega)];exact lu f i (by omega)
theorem toNat_add{a:Int}{k ka:Nat}(h:a=ka):(3*a+(k:Int)).toNat=3*ka+k:=by omega
theorem BU{f:fM}{M:List (List Int)}{i r ka kb:Nat}{b:Int×Int×Rat}(hb:f.bars[i]? =some b)(ea:b.1=ka)(eb:b.2.1=kb):∀k,k<=3->k<=r % 3->ez (eQ f M i k) r i=ez M r i
 |0,_,_=>rfl
 |k+1,h3,h=>by
  rw[eQ];rw[CO hb,toNat_add ea,toNat_add eb,gh,jE (.inl (by omega)),gh,jE (.inl (by omega))];exact BU hb ea eb k (by omega) (by omega)
theorem nf{i r ka kb k:Nat}(hb:f.bars[i]? =some b)(ea:b.1=ka)(eb:b.2.1=kb)(hk:k<=3)(h:k<=r % 3):ez (eQ f (df f i) i k) r i=0:=by
 rw[BU hb ea eb k hk h];exact lu f i (aF _)
theorem yq{f:fM}{r c:Nat}(h:c<f.bars.length):∀k,ez (eu f k) r c=ez (df f f.bars.length) r c
 |0=>rfl
 |k+1=>by
  rw[eu];rw[jE (.inr (by omega))];exact yq h k
theorem wB{f:fM}{r i:Nat}:∀k,k<=i->ez (eu f k) r (f.bars.length+i)=0
 |0,_=>lu f _ (by omega)
 |k+1,h=>by
  rw[eu];rw[jE (.inr (by omega))];exact wB k (by omega)
def gb(s:Int×Int×Rat):Nat:=(3*s.1+s.2.1).toNat
theorem BV{f:fM}(hw:∀k,∀l∈eu f k,l.length=f.cols)(hlen:∀k,(eu f k).length=3*f.nodes.length)(OH:∀s∈f.cU,gb s<3*f.nodes.length){r i:Nat}{s:Int×Int×Rat}(hs:f.cU[i]? =some s):
  ∀k,i<k->ez (eu f k) r (f.bars.length+i)=if r=gb s then 1 else 0
 |0,h=>by omega
 |k+1,h=>by
  rw[eu];rcases aP i k with h1|h1
  ·rw[jE (.inr (by omega))];exact BV hw hlen OH hs k h1
  ·have:i=k:=by omega
   subst this;have hg:f.cU.getD i (0,0,0)=s:=by rw[List.getD,hs];rfl
   have hsr:=OH s (aC hs);have hi:=(aD.1 hs).1;rw[hg];by_cases h2:r=gb s
   ·rw[if_pos h2,h2];have hm:gb s<(eu f i).length:=by rw[hlen];exact hsr
    exact Dz hm (by
     show f.bars.length+i<((eu f i).getD (gb s) []).length;rw[List.getD,aB hm];show f.bars.length+i<((eu f i)[gb s]).length;rw[hw i _ (aY hm),fM.cols]
     omega)
   ·rw[aK h2];exact(jE (r:=gb s) (.inl h2)).trans (wB i (aF _))
end Go.Ex
namespace Go.Ex
open Go Go.Sx Go.Proofs
end Go.Ex
namespace Go.Sx
open Go Go.Ex Go.Proofs
variable{cs:List Value}{O:Nat->Sx.dg}
theorem Rel.GL{H:Hp}{nx:Nat}{iv:Iv}{B:Nat}{w w':World}(r:Rel H nx iv B w O w'){id t m sz:Nat}(h:dB H id=some (.vec t sz cs))(hm:cs.length=m*sz)(Rb:m<=maxLen)(hs:0<sz)(h1:∀u∈cs,u.oneCell'=true):
  iB w' (Cv FF B (jO (O id) iv)) sz ((At.w id m).den O) cs m:=by
 rcases r.fits h with⟨hn,rfl⟩|⟨hn,spare,h2,h3,h4⟩
 ·have Sn:m=0:=by
   rcases bI m with h|h
   ·exact h
   ·have:=Nat.mul_pos h hs;simp at hm;omega
  subst Sn;have Q8:(At.w id 0).den O= .slice none 0 0:=by simp[At.den,hn]
  rw[Q8];exact⟨aO _,by simp,by simp,none,0,rfl,aF _,fun j u h=>by cases h⟩
 ·have Q8:(At.w id m).den O= .slice (some ⟨(O id).g,0,none⟩) m (O id).cap:=by simp[At.den,hn]
  rw[Q8];have Og:=r.low id _ h hn;refine⟨Rb,hm,h1,_,_,rfl,?_,fun j u hu=>⟨_,rfl,.inr ⟨Og.1,_,_,D8 hn,aF _,bY _⟩,?_⟩⟩
  ·rw[List.length_append,hm]at h3;exact bp (show m*sz<=(O id).cap*sz by omega) hs
  ·rw[dQ,cell_of h2,aQ,aL (aD.1 hu).1];exact hu
end Go.Sx
namespace Go.Ex
open Go Go.Sx Go.Proofs
variable{b:Int×Int×Rat}{S:Nat->Prop}{f:fM}
theorem Lv{i k ka kb:Nat}{d:Int}{la lb:List Int}(hb:f.bars[i]? =some b)(ea:b.1=ka)(eb:b.2.1=kb)(Pg:ka≠kb)(hk:k<3)(hd:(r8 f b).getD k 0=d)
  (Pj:(eQ f (df f i) i k)[3*ka+k]? =some la) (Oa:((eQ f (df f i) i k).set (3*ka+k) (la.set i d))[3*kb+k]? =some lb):
  ((eQ f (df f i) i k).set (3*ka+k) (la.set i d)).set (3*kb+k) (lb.set i (-d))=eQ f (df f i) i (k+1):=by
 have z1:=nf (r:=3*ka+k) hb ea eb (show k<=3 by omega) (by omega);have z2:=nf (r:=3*kb+k) hb ea eb (show k<=3 by omega) (by omega);have hga:(eQ f (df f i) i k).getD (3*ka+k) []=la:=by rw[List.getD,Pj];rfl
 have hgb:((eQ f (df f i) i k).set (3*ka+k) (la.set i d)).getD (3*kb+k) []=lb:=by rw[List.getD,Oa];rfl
 have e1:so (eQ f (df f i) i k) (3*ka+k) i d=(eQ f (df f i) i k).set (3*ka+k) (la.set i d):=by
  rw[gh,z1,Int.zero_add,putAt,hga]
 rw[eQ];rw[CO hb,hd,toNat_add ea,toNat_add eb,e1,so,hgb];have z3:lb.getD i 0=0:=by
  rw[<-hgb,getD_set_ne (show 3*ka+k≠3*kb+k by omega)];exact z2
 rw[z3,Int.zero_add]
set_option maxHeartbeats 2000000 in
theorem Bj{w:World}{vn vb vs:Value}(hS:Old S w)(hf:du w S vn vb vs f)(PO:eO f=0):
  eD PG N.tK #[.agg #[vn,vb,vs]] w (eG w fun v' w2=>j1 w2 (Nf w w2) v' (fD f)∧FG (fD f) 2000000):=by
 have hw:=bR w;have OJ:=ni PO;obtain⟨an,cn,ab,cb,aq,cq,rfl,rfl,rfl,Qw,RX,SG⟩:=hf.shape;obtain⟨UO,TY,TZ⟩:=And.intro OJ.n (And.intro OJ.b OJ.s);have Pr:f.cols=f.bars.length+f.cU.length:=rfl;obtain⟨m,hm⟩:∃m,3*f.nodes.length=m:=⟨_,rfl⟩
 refine xD (by simp) ?_
 refine⟨Nat×List Value×World×Iv,fun z=>⟨[(1,pP 0 0),(3,.o (.w 1 z.2.1.length)),(4,iN z.1)],[(1,.vec T.Lint 1 z.2.1),(0,.box T.Frame [.v (.slice an f.nodes.length cn),.v (.slice ab f.bars.length cb),.v (.slice aq f.cU.length cq)])],2,z.2.2.2,z.2.2.1⟩,fun z=>m-z.1,
  fun z=>z.1<=m∧z.2.1.length=z.1∧eB w.heap.size w z.2.2.1∧gl z.2.2.1 w.heap.size z.2.2.2 z.2.1 f.cols (List.replicate z.1 (List.replicate f.cols 0)),?_,?_⟩
 ·intro O w' r3;exact⟨(0,[],w',[]),⟨aO _,rfl,hw.tr r3.cQ,gl.nil⟩,Sub.nil 3 T.Lint 1 rfl (by simp[jN,SV.sc,At.sc,fW]) r3 fun ρ1 r1=>Sub.gn [] r1⟩
 clear hw;rintro⟨i,rv,w1,iv⟩ ⟨hi,Oh,hw,hE⟩;dsimp only at hi Oh hw hE ⊢;refine⟨(m:Int),wo,?_⟩;refine dN.mk ?_ ?_<;>intro OF
 ·have OF:i<m:=by simpa using OF
  refine cD (cE hw (fun _ w' v w2=>v= .int .i64 f.cols) (fun O w' r=>qB (hf.cI (kS hw r hS)) ⟨TY,TZ⟩) ?_);rintro O _ _ _ OM r he hw h_ rfl;have Tu:=gl.cG hE r he (mC h_);clear r;clear hE;refine⟨f.cols,f.cols,rfl,rfl,aF _,by omega,by omega,?_⟩;refine kx hτ (id3:=3) (id2:=2) (tH:=[(1,.vec T.Lint 1 rv),(0,.box T.Frame [.v (.slice an f.nodes.length cn),.v (.slice ab f.bars.length cb),.v (.slice aq f.cU.length cq)])]) rfl rfl rfl rfl (by simp) ⟨rfl,rfl,trivial⟩ rfl rfl (fun O w' r r2 SH=>?_);have hn:=(r.fits (id:=2) rfl).1;have OH:w'.ownsRow 0 T.int 1 (.slice (some ⟨(O 2).g,0,none⟩) f.cols f.cols) f.cols ((List.replicate f.cols (0:Int)).map fun z=>.int .i64 z):=
   ⟨by simp,.inr ⟨(O 2).g,f.cols,(List.replicate f.cols (Value.int .i64 0)).toArray,rfl,aO _,r.arr 2 _ _ rfl,aF _,by unfold maxLen;omega,by simp,by simp⟩⟩
  have OY:=(Tu.rel r).push (gx:=(O 2).g) (l:=List.replicate f.cols 0) (fun g hg e=>Rel.not r (gH _) hg 2 _ rfl hn e.symm) (r.low 2 _ rfl hn).1 (by simp) OH;rw[<-List.replicate_succ']at OY;have hgv:jO (O 2) OM=((O 2).g,(O 2).g+1)::OM:=by unfold jO;rw[hn]
  have Ql:=r.low 3 _ rfl (r.fits (id:=3) rfl).1;have SH:w'.heap[(O 3).g]? =some (.cells #[.slice (some ⟨(O 2).g,0,none⟩) f.cols f.cols] T.Lint (0,0)):=SH;have UQ:=OY.mono (iv':=((O 3).g,(O 3).g+1)::((O 2).g,(O 2).g+1)::OM) fun p hp=>List.mem_cons_of_mem _ hp;have Ow:=hw.tr r.cQ;have hC3:Cf w (((O 3).g,(O 3).g+1)::((O 2).g,(O 2).g+1)::OM) (O 3).g:=.inr ⟨Ql.1,_,_,aG,aF _,bY _⟩;rw[hgv];clear Tu hw r OH hn OY hgv r2 Ql;generalize (O 2).g=gx at*
  generalize (O 3).g=gy at*
  generalize (gy,gy+1)::(gx,gx+1)::OM=OK at*
  refine⟨[.slice (some ⟨gx,0,none⟩) f.cols f.cols],rfl,by simp[Value.oneCell'],fun ρ2 w2 r2 _=>⟨_,rfl,fun j u hu=>?_⟩,?_⟩
  ·have h5:=Rel.same r2 (gH _) hC3;rw[dQ,cell_of (h5.trans SH)];rcases j with _|j
   ·exact hu
   ·cases hu
  refine⟨by omega,by omega,by unfold maxLen;omega,((i+1:Nat):Int),wo,?_⟩;intro ρ3 w6 r3;exact⟨(i+1,rv++[.slice (some ⟨gx,0,none⟩) f.cols f.cols],w6,_),⟨OF,by simp[Oh],Ow.tr r3.cQ,UQ.rel r3⟩,Sub.gn [(1,4)] r3 (hE:=⟨rfl,by dsimp only;rw[List.length_append,List.length_singleton];rfl,rfl,trivial⟩),by dsimp only;omega⟩
 have OF:i=m:=aR hi (by simpa using OF);subst OF;have hE0:gl w1 w.heap.size iv rv f.cols (df f 0):=by rw[df,hm];exact hE
 have VJ:FG (df f 0) 2000000:=fun l hl z hz=>by
  rw[df]at hl;rw[bL hl]at hz;rw[bL hz];exact⟨by decide,by decide⟩
 clear hE;rw[Oh]
 refine⟨Nat×World×Iv,fun z=>⟨[(1,pP 0 0),(3,.o (.w 1 i)),(5,iN z.1)],[(1,.vec T.Lint 1 rv),(0,.box T.Frame [.v (.slice an f.nodes.length cn),.v (.slice ab f.bars.length cb),.v (.slice aq f.cU.length cq)])],2,z.2.2,z.2.1⟩,fun z=>f.bars.length-z.1,
  fun z=>z.1<=f.bars.length∧eB w.heap.size w z.2.1∧gl z.2.1 w.heap.size z.2.2 rv f.cols (df f z.1)∧FG (df f z.1) 2000000,?_,?_⟩
 ·intro O w' r3;exact⟨(0,w',_),⟨aO _,hw.tr r3.cQ,hE0.rel r3,VJ⟩,Sub.gn [] r3⟩
 clear hw hE0 VJ hi;rintro⟨j,w2,iv⟩ ⟨hj,hw,hE,Oc⟩;dsimp only at hj hw hE Oc ⊢;refine dN.mk ?_ ?_<;>intro PH
 ·have PH:j<f.bars.length:=by simpa using PH
  obtain⟨b,hb⟩:∃b,f.bars[j]? =some b:=⟨_,aB PH⟩
  obtain⟨hA,hB⟩:=OJ.Lb b (aC hb);have OG:=(KO PO (aC hb)).1;obtain⟨ka,pa,ea,hka,-,VH,⟨_,_⟩,⟨_,_⟩,⟨_,_⟩⟩:=OJ.node hA.1 hA.2;obtain⟨kb,pb,eb,OI,-,VI,⟨_,_⟩,⟨_,_⟩,⟨_,_⟩⟩:=OJ.node hB.1 hB.2;have Pg:ka≠kb:=fun e=>OG (by rw[ea,eb,e]);obtain⟨adb,cs,hadb,hF,-,hlb0⟩:=hf.bars.load (by decide) hb;obtain⟨g0,g1,g2,g3,g4,g5,g6,g7,rfl,hF⟩:=hF;have hbD:r8 f b=[pb.1-pa.1,pb.2.1-pa.2.1,pb.2.2-pa.2.2]:=by rw[r8,VH,VI]
  refine cD (cE hw (fun _ w' v w2=>v= .agg #[.int .i64 (pb.1-pa.1),.int .i64 (pb.2.1-pa.2.1),.int .i64 (pb.2.2-pa.2.2)]) (fun O w' r=>(Ao (S:=S) (oS hS r) (hf.cI (kS hw r hS)) OJ hb).mono fun _ _ ⟨v2,e1,e2,e3⟩=>⟨v2,e1,e2,by rw[e3,VH,VI]⟩) ?_);rintro O _ _ _ OK r he hw h_ rfl;have Tu:=gl.cG hE r he (mC h_);clear r;clear hE hF;rw[ea,eb]at hlb0;obtain⟨ds,hds⟩:∃ds:List Value,ds=[.int .i64 (pb.1-pa.1),.int .i64 (pb.2.1-pa.2.1),.int .i64 (pb.2.2-pa.2.2)]:=⟨_,rfl⟩
  refine⟨Nat×World×Iv,fun z=>⟨[(1,pP 0 0),(3,.o (.w 1 i)),(5,iN j),(6,pP 2 0),(7,iN z.1)],[(2,.arr 189 ds),(1,.vec T.Lint 1 rv),(0,.box T.Frame [.v (.slice an f.nodes.length cn),.v (.slice ab f.bars.length cb),.v (.slice aq f.cU.length cq)])],3,z.2.2,z.2.1⟩,fun z=>3-z.1,
   fun z=>z.1<=3∧eB w.heap.size w z.2.1∧gl z.2.1 w.heap.size z.2.2 rv f.cols (eQ f (df f j) j z.1)∧FG (eQ f (df f j) j z.1) 2000000,?_,?_⟩
  ·intro O w' r3;exact⟨(0,w',_),⟨aO _,hw.tr r3.cQ,Tu.rel r3,Oc⟩,Sub.aAN 2 (vs:=ds) (by rw[hds];rfl) r3 fun r4=>Sub.gn [] r4⟩
  clear hw Tu Oc;rintro⟨k,w3,iv⟩ ⟨hk,hw,hE,Oc⟩;dsimp only at hk hw hE Oc ⊢;refine dN.mk ?_ ?_<;>intro VP
  ·have hk3:k<3:=by have:=aI VP;omega
   obtain⟨d,hd⟩:∃d,(r8 f b).getD k 0=d:=⟨_,rfl⟩
   have hdb: -2000000<=d∧d<=2000000:=by
    rw[<-hd,hbD];rcases(show k=0∨k=1∨k=2 by omega)with rfl|rfl|rfl<;>simp[List.getD]<;>omega
   have hdk:ds[k]? =some (.int .i64 d):=by
    rw[hds,<-hd,hbD];rcases(show k=0∨k=1∨k=2 by omega)with rfl|rfl|rfl<;>rfl
   have hMl:(eQ f (df f j) j k).length=3*f.nodes.length:=by rw[<-hE.len];have:=hE.len;omega
   obtain⟨la,Pj⟩:∃l,(eQ f (df f j) j k)[3*ka+k]? =some l:=⟨_,aB (by first|omega|(rw [bE];omega))⟩
   have hlaw:=hE.wid la (aC Pj);obtain⟨za,Us⟩:∃z,la[j]? =some z:=⟨_,aB (by omega)⟩
   obtain⟨va,VK⟩:∃v,rv[3*ka+k]? =some v:=⟨_,aB (by have:=(aD.1 Pj).1;rw[hE.len];exact this)⟩
   obtain⟨aa5,ca5,rfl⟩:=hE.form VK;obtain⟨ada5,Sr,-,-⟩:=hE.load VK Pj Us;refine cN hτ dm [.x 0,.x 1,.x 2,.x 3,.x 4,.x 5,.x 6,.x 7,.x 8,.x 9,.x 10,.x 11,.x 12,.x 13,.x 14,.x 15,.x 16,.x 17] (by kernel_rfl) (by kernel_rfl) ?_;refine⟨adb,hadb,by omega,.int .i64 (ka:Int),fun O w' r=>?_,?_⟩
   ·obtain⟨k1,k2⟩:=hlb0 0 _ rfl;rw[cH (w:=w) (w2:=w') (by simp only[dH];exact(hw.tr r.cQ).block _ (hS _ k1))];simp only[aE,jy]at k2 ⊢;exact k2
   refine⟨((3*ka:Nat):Int),wo,((3*ka+k:Nat):Int),wo,by rw[Oh,aQ,aS],by omega,.slice aa5 f.cols ca5,by rw[aE,aS];exact VK,by omega,.int .i64 d,by rw[aQ,aE,aS];exact hdk,ada5,Sr,by omega,?_⟩;intro O w' r;obtain⟨g,hg,h1,h2,h3,h4⟩:=hE.store r (z:=d) VK Pj (show j<f.cols by omega);rw[Sr]at hg;injection hg with hg;subst hg;refine⟨h1,h2,h3,fun w5 QZ=>?_⟩;obtain⟨k1,k2,k3,-,-⟩:=h4 w5 QZ;replace hw:=(hw.tr r.cQ).tr k2;replace Oc:=Oc.set (r:=3*ka+k) (c:=j) (z:=d) (t2:=2000000) (by omega) Pj (by omega);replace hE:=k1;clear h1 h2 h3 h4 QZ k1 k2 k3 r Sr;obtain⟨lb,Oa⟩:∃l,((eQ f (df f j) j k).set (3*ka+k) (la.set j d))[3*kb+k]? =some l:=⟨_,aB (by first|omega|(rw [bE];omega))⟩
   have hlbw:=hE.wid lb (aC Oa);obtain⟨zb,Rq⟩:∃z,lb[j]? =some z:=⟨_,aB (by omega)⟩
   obtain⟨vb,UP⟩:∃v,rv[3*kb+k]? =some v:=⟨_,aB (by have:=(aD.1 Oa).1;rw[hE.len];exact this)⟩
   obtain⟨ab5,cb5,rfl⟩:=hE.form UP;obtain⟨adb5,Ss,-,-⟩:=hE.load UP Oa Rq;refine cN hτ dm [.x 0,.x 1,.x 2,.x 3,.x 4,.x 5,.x 6,.x 7,.x 8,.x 9,.x 10,.x 11,.x 12,.x 13,.x 14,.x 15,.x 16,.x 17,.x 18] (by kernel_rfl) (by kernel_rfl) ?_;refine⟨adb,hadb,by omega,.int .i64 (kb:Int),fun O w' r=>?_,?_⟩
   ·obtain⟨k1,k2⟩:=hlb0 1 _ rfl;rw[cH (w:=w) (w2:=w') (by simp only[dH];exact(hw.tr r.cQ).block _ (hS _ k1))];simp only[aE,jy]at k2 ⊢;exact k2
   refine⟨((3*kb:Nat):Int),wo,((3*kb+k:Nat):Int),wo,by rw[Oh,aQ,aS],by omega,.slice ab5 f.cols cb5,by rw[aE,aS];exact UP,by omega,.int .i64 d,by rw[aQ,aE,aS];exact hdk,-d,wo,adb5,Ss,by omega,?_⟩;intro O w' r;obtain⟨g,hg,h1,h2,h3,h4⟩:=hE.store r (z:=(-d)) UP Oa (show j<f.cols by omega);rw[Ss]at hg;injection hg with hg;subst hg;refine⟨h1,h2,h3,fun w5 QZ=>?_⟩;obtain⟨k1,k2,k3,-,-⟩:=h4 w5 QZ;replace hw:=(hw.tr r.cQ).tr k2;replace Oc:=Oc.set (r:=3*kb+k) (c:=j) (z:=(-d)) (t2:=2000000) (by omega) Oa (by omega);replace hE:=k1;clear h1 h2 h3 h4 QZ k1 k2 k3 r Ss;rw[Lv hb ea eb Pg hk3 hd Pj Oa]at hE Oc;refine⟨((k+1:Nat):Int),wo,?_⟩;intro ρ3 w6 r3;exact⟨(k+1,w6,_),⟨hk3,hw.tr r3.cQ,hE.rel r3,Oc⟩,Sub.gn [] r3,by dsimp only;omega⟩
  have VP:k=3:=by have:=aH VP;omega
  subst VP;refine⟨((j+1:Nat):Int),wo,?_⟩;intro ρ3 w6 r3;exact⟨(j+1,w6,_),⟨PH,hw.tr r3.cQ,hE.rel r3,Oc⟩,Sub.gn [] r3,by dsimp only;omega⟩
 have PH:j=f.bars.length:=aR hj (by simpa using PH);subst PH
 refine⟨Nat×World×Iv,fun z=>⟨[(1,pP 0 0),(3,.o (.w 1 i)),(8,iN z.1)],[(1,.vec T.Lint 1 rv),(0,.box T.Frame [.v (.slice an f.nodes.length cn),.v (.slice ab f.bars.length cb),.v (.slice aq f.cU.length cq)])],2,z.2.2,z.2.1⟩,fun z=>f.cU.length-z.1,
  fun z=>z.1<=f.cU.length∧eB w.heap.size w z.2.1∧gl z.2.1 w.heap.size z.2.2 rv f.cols (eu f z.1)∧FG (eu f z.1) 2000000,?_,?_⟩
 ·intro O w' r3;exact⟨(0,w',_),⟨aO _,hw.tr r3.cQ,hE.rel r3,Oc⟩,Sub.gn [] r3⟩
 clear hw hE Oc hj;rintro⟨j,w2,iv⟩ ⟨hj,hw,hE,Oc⟩;dsimp only at hj hw hE Oc ⊢;refine dN.mk ?_ ?_<;>intro PH
 ·have PH:j<f.cU.length:=by simpa using PH
  obtain⟨s,hs⟩:∃b,f.cU[j]? =some b:=⟨_,aB PH⟩
  obtain⟨hA,hB⟩:=OJ.sup s (aC hs);obtain⟨ks,Ut⟩:=Int.eq_ofNat_of_zero_le (show 0<=3*s.1+s.2.1 by omega);have hMl:=nG f j;obtain⟨l,hl⟩:∃l,(eu f j)[ks]? =some l:=⟨_,aB (by omega)⟩
  have hlw:=hE.wid l (aC hl);obtain⟨v,hv⟩:∃v,rv[ks]? =some v:=⟨_,aB (by rw[hE.len];omega)⟩
  obtain⟨a5,c5,rfl⟩:=hE.form hv;obtain⟨z0,OQ⟩:∃z,l[f.bars.length+j]? =some z:=⟨_,aB (by omega)⟩
  obtain⟨ad5,ha5,-,-⟩:=hE.load hv hl OQ;obtain⟨adb,cs,Pg,hF,-,Oa⟩:=hf.cU.load (by decide) hs;obtain⟨g0,g1,g2,g3,g4,g5,g6,g7,rfl,hF⟩:=hF;refine cN hτ dm [.x 0,.x 1,.x 2,.x 3,.x 4,.x 5,.x 6,.x 7,.x 8,.x 9,.x 10,.x 11,.x 12,.x 13,.x 14,.x 15,.x 16,.x 17,.x 18,.x 19,.x 20,.x 21,.x 22,.x 23] (by kernel_rfl) (by kernel_rfl) ?_;refine⟨adb,Pg,by omega,.int .i64 s.1,fun O w' r=>?_,?_⟩
  ·obtain⟨k1,k2⟩:=Oa 0 _ rfl;rw[cH (w:=w) (w2:=w') (by simp only[dH];exact(hw.tr r.cQ).block _ (hS _ k1))];simp only[aE,jy]at k2 ⊢;exact k2
  refine⟨3*s.1,wo,adb,Pg,by omega,.int .i64 s.2.1,fun O w' r=>?_,?_⟩
  ·obtain⟨k1,k2⟩:=Oa 1 _ rfl;rw[cH (w:=w) (w2:=w') (by simp only[dH];exact(hw.tr r.cQ).block _ (hS _ k1))];simp only[aE,jy]at k2 ⊢;exact k2
  refine⟨((ks:Nat):Int),wo,by rw[Oh,aS],by omega,.slice a5 f.cols c5,by rw[aE,aS];exact hv,((f.bars.length+j:Nat):Int),wo,ad5,ha5,by omega,?_⟩;intro O w' r;obtain⟨g,hg,h1,h2,h3,h4⟩:=hE.store r (z:=1) hv hl (show f.bars.length+j<f.cols by omega);rw[ha5]at hg;injection hg with hg;subst hg;refine⟨h1,h2,h3,fun w5 QZ=>?_⟩;obtain⟨k1,k2,k3,-,-⟩:=h4 w5 QZ;replace hw:=(hw.tr r.cQ).tr k2;have Re:=Oc.set (r:=ks) (c:=f.bars.length+j) (z:=1) (t2:=2000000) (by omega) hl (by omega);rw[Ee hs Ut hl]at k1 Re;clear h1 h2 h3 h4 QZ k2 k3 r hE;refine⟨((j+1:Nat):Int),wo,?_⟩;intro ρ3 w6 r3;exact⟨(j+1,w6,_),⟨PH,hw.tr r3.cQ,k1.rel r3,Re⟩,Sub.gn [] r3,by dsimp only;omega⟩
 have PH:j=f.cU.length:=aR hj (by simpa using PH);subst PH;intro ρe we re;have OY:=hE.rel re;have hMl:=nG f f.cU.length;have QT:=hE.len;refine⟨_,rfl,hw.tr re.cQ,⟨rv,?_,hE.len,fun i u x k1 k2=>?_⟩,Oc⟩
 ·rw[show (fD f).length=rv.length from hE.len.symm];have h5:=re.ie (id:=1) (sz:=1) (m:=rv.length) rfl (by simp) (by unfold maxLen;omega) (by decide) hE.one;rw[show (i:Nat)=rv.length by omega];exact h5.cJ fun g hg=>.inr hg
 ·obtain⟨a,c,rfl⟩:=hE.form k1;have PW:=hE.wid x (aC k2);refine⟨by rw[PW];unfold maxLen;omega,by simp,fun v hv=>by obtain⟨z,_,rfl⟩:=aT.1 hv;rfl,a,c,by rw[PW],?_,fun t v hv=>?_⟩
  ·rw[PW];obtain⟨a2,c2,e,h⟩:=jc (hE.row i _ x k1 k2);injection e with e1 e2 e3;omega
  ·rw[aN]at hv
   cases ht:x[t]? with
   |none=>rw[ht]at hv;cases hv
   |some z=>
    rw[ht]at hv;simp only[Option.map_some,Option.some.injEq]at hv;subst hv;obtain⟨ad,h1,h2,h3⟩:=OY.load k1 k2 ht;exact⟨ad,h1,Cv.nw h2 re,by rw[aS]at h3;exact h3⟩
end Go.Ex
namespace Go.Ex
open Go Go.Sx Go.Proofs
variable{M:List (List Int)}{l:List Int}{xs:List Rat}{g n:Nat}{S:Nat->Prop}{O:Nat->Sx.dg}{v:Value}{w:World}
theorem oM{i:Nat}{z:Int}(h:l[i]? =some z):cd (l.take (i+1))=cd (l.take i)++[(z:Rat)]:=by rw[cd,List.take_add_one,h,List.map_append];rfl
theorem uF{B e sz:Nat}{xs:List Value}(h:w.ownsRow B e sz v n xs):w.ownsRow 0 e sz v n xs:=⟨h.1,h.2.imp id fun⟨g,cap,cur,e1,_,rest⟩=>⟨g,cap,cur,e1,aO _,rest⟩⟩
theorem Cv.fin{H:Hp}{nx:Nat}{iv:Iv}{w0 w1 w':World}(hg:Cf w0 iv g)(r:Rel H nx iv w0.heap.size w1 O w'):Cf w0 [(w0.heap.size,w'.heap.size)] g:=by
 rcases hg with hg|⟨h1,lo,hi,h2,h3,h4⟩
 ·exact hg.elim
 ·exact .inr ⟨h1,_,_,aw.2 rfl,h1,by have:=r.oe lo hi h2;have:=r.size;omega⟩
theorem Cv.new{w2:World}(hg:Cf w [(w.heap.size,w2.heap.size)] g):Nf w w2 g:=by
 rcases hg with hg|⟨h1,lo,hi,h2,h3,h4⟩
 ·exact hg.elim
 ·simp at h2;obtain⟨rfl,rfl⟩:=h2;exact .inr ⟨h3,h4⟩
theorem NF.x{w2:World}(h:NF w w2 v xs)(hn:xs.length=n):da w2 FF w.heap.size [(w.heap.size,w2.heap.size)] v n xs:=by
 subst hn;obtain⟨css,h1,h2,h3,h4⟩:=h;have hl:=ownsRow.low h1;refine⟨⟨css,uF h1,h2,h2,fun j cs q k1 k2=>(h4 j cs q k1 k2).cJ fun g hg=>⟨?_,hg.2⟩⟩,fun g e=>.inr ⟨(hl g e).1,_,_,aw.2 rfl,(hl g e).1,(hl g e).2⟩⟩;rcases hg.1 with h|h
 ·exact h.elim
 ·exact .inr ⟨h.1,_,_,aw.2 rfl,h.1,h.2⟩
structure NG(w:World)(B:Nat)(iv:Iv)(v:Value)(M:List (List Rat)):Prop where
 row:∃rv,w.ownsRow 0 T.fa 1 v M.length rv∧rv.length=M.length∧(∀u∈rv,u.oneCell'=true)∧∀(i:Nat) u x,rv[i]? =some u->M[i]? =some x->cL w (Bs FF B iv v) u x
 new:∀g,v.ownBlock=some g->Cv FF B iv g
section
variable{H:Hp}{nx:Nat}{iv iv':Iv}{B:Nat}{w w' w2:World}{O:Nat->Sx.dg}{v:Value}{M:List (List Rat)}
theorem NG.c(h:NG w B iv v M):cT w (Cv FF B iv) v M:=by
 obtain⟨⟨rv,h1,h2,h3,h4⟩,h5⟩:=h;refine⟨rv,?_,h2,fun i u x k1 k2=>cL.cJ (h4 i u x k1 k2) fun g hg=>hg.1⟩;rcases h1.2 with⟨e,h0⟩|⟨g,cap,cur,e,_,hc,hn,hm,hs,ht⟩
 ·have:rv=[]:=List.eq_nil_of_length_eq_zero (by rw[h2,h0]);subst this;rw[e,h0];exact⟨aO _,rfl,by simp,none,0,rfl,aF _,fun j u h=>by cases h⟩
 ·subst e;refine⟨ah hn hm,h1.1,h3,_,cap,rfl,hn,fun j u hu=>⟨_,rfl,h5 g rfl,?_⟩⟩;have:=h1.cells (g:=g) rfl j u hu;exact this
end
theorem At.HR{id:Nat}:((At.w id n).den O).oneCell'=true:=by
 cases h:(O id).nil<;>simp[At.den,h,Value.oneCell']
theorem KU(hS:Old S w)(hM:j1 w S v M)(hR:M.length<=1000)(hn:∀l∈M,l.length<=1000)(hb:∀l∈M,∀z∈l,-1000000000<=z∧z<=1000000000):
  eD PG N.rp #[v] w (eG w fun v' w2=>NG w2 w.heap.size [(w.heap.size,w2.heap.size)] v' (M.map cd)):=by
 have hw:=bR w;obtain⟨am,cm,rfl,-,R1⟩:=db.shape hM;unfold maxLen at R1;refine AY (by simp) ?_
 refine⟨Nat×List Value×World×Iv,fun z=>⟨[(0,sV am M.length cm),(3,.o (.w 0 z.2.1.length)),(4,iN z.1)],[(0,.vec T.fa 1 z.2.1)],1,z.2.2.2,z.2.2.1⟩,fun z=>M.length-z.1,
  fun z=>z.1<=M.length∧eB w.heap.size w z.2.2.1∧dV z.2.2.1 (Cf w z.2.2.2) z.2.1 ((M.take z.1).map cd),?_,?_⟩
 ·intro O w' r;exact⟨(0,[],w',[]),⟨aO _,hw.tr r.cQ,by simp[dV]⟩,Sub.nil 3 T.fa 1 rfl (by simp[jN,SV.sc,At.sc,fW]) r fun ρ1 r1=>Sub.gn [] r1⟩
 clear hw;rintro⟨i,rv,w1,iv⟩ ⟨hi,hw,hK⟩;dsimp only at hi hw hK ⊢;have Oh:rv.length=i:=by rw[hK.1,aJ,aV];omega
 refine dN.mk ?_ ?_<;>intro OF
 ·have OF:i<M.length:=by simpa using OF
  obtain⟨l,hl⟩:∃x,M[i]? =some x:=⟨_,aB OF⟩
  have Ro:=hn l (aC hl);have Oa:=hb l (aC hl);obtain⟨adm,um,RL,PS,km1,km2⟩:=db.load hM hl;obtain⟨al,cl,rfl,-,Qu⟩:=PS.shape
  refine⟨Nat×List (List Value)×World×Iv,fun z=>⟨[(0,sV am M.length cm),(3,.o (.w 0 rv.length)),(4,iN i),(5,.o (.w 1 z.2.1.length)),(6,iN z.1)],[(1,.vec T.Rat 4 z.2.1.flatten),(0,.vec T.fa 1 rv)],2,z.2.2.2,z.2.2.1⟩,fun z=>l.length-z.1,
   fun z=>z.1<=l.length∧eB w.heap.size w z.2.2.1∧dV z.2.2.1 (Cf w z.2.2.2) rv ((M.take i).map cd)∧dW z.2.2.1 (Cf w z.2.2.2) z.2.1 (cd (l.take z.1)),?_,?_⟩
  ·intro O w' r;exact⟨(0,[],w',_),⟨aO _,hw.tr r.cQ,hK.rel r (cC w),dW.nil⟩,Sub.nil 5 T.Rat 4 rfl (by simp[jN,SV.sc,At.sc,fW]) r fun ρ1 r1=>Sub.gn [] r1⟩
  clear hw hK;rintro⟨k,css,w3,iv⟩ ⟨hk,hw,hK,hG⟩;dsimp only at hk hw hK hG ⊢;have OX:=eH hG.four;have RM:css.length=k:=by rw[hG.len,cd,aJ,aV];omega
  refine⟨adm,RL,by omega,.slice al l.length cl,rd1 km2 hw (hS _ km1),?_⟩;refine dN.mk ?_ ?_<;>intro OI
  ·have OI:k<l.length:=by simpa using OI
   obtain⟨z,hz⟩:∃x,l[k]? =some x:=⟨_,aB OI⟩
   have Rq:=Oa z (aC hz);obtain⟨adx,PI,VL,Of⟩:=Cu.at PS hz;refine⟨adm,RL,by omega,.slice al l.length cl,rd1 km2 hw (hS _ km1),adx,PI,by omega,.int .i64 z,rd1 Of hw (hS _ VL),?_⟩;refine cD (cE hw (fun _ w' v w2=>cS w2 (Nf w' w2) v (z:Rat)) (fun O w' r=>jI z w' (by omega)) ?_);rintro O _ _ _ OM r he hw h_ hn;replace hK:=hK.cG r (cC w) he (mC h_);replace hG:=hG.cG r (cC w) he (mC h_);have hd:=hn.dE (S:=FF) r.cF (mN h_);clear r hn;obtain⟨A0,A1,A2,A3,A4,A5,A6,A7,rfl⟩:=hd.shape;have Qt:=hG.push (cs:=[.bool A0,.slice A1 A2 A3,.bool A4,.slice A5 A6 A7]) (q:=(z:Rat)) ⟨_,_,_,_,_,_,_,_,rfl,hd⟩ rfl;rw[<-oM hz]at Qt;have Pm:css.flatten++([.bool A0,.slice A1 A2 A3,.bool A4,.slice A5 A6 A7]:List Value)=(css++([[.bool A0,.slice A1 A2 A3,.bool A4,.slice A5 A6 A7]]:List (List Value))).flatten:=by simp
   refine .inl ?_;refine⟨by omega,by omega,by unfold maxLen;omega,((k+1:Nat):Int),wo,?_⟩;intro ρ3 w6 r3;exact⟨(k+1,css++[[.bool A0,.slice A1 A2 A3,.bool A4,.slice A5 A6 A7]],w6,_),⟨OI,hw.tr r3.cQ,hK.rel r3 (cC w),Qt.rel r3 (cC w)⟩,Sub.gn [(1,3)] r3 ⟨by dsimp only;rw[<-Pm];rfl,rfl,trivial⟩ ⟨rfl,rfl,rfl,by dsimp only;rw[List.length_append,List.length_singleton];rfl,rfl,trivial⟩,by dsimp only;omega⟩
  have OI:k=l.length:=aR hk (by simpa using OI);have TH:cd (l.take k)=cd l:=by rw[OI,bF]
  rw[TH]at hG;refine kx hτ (id3:=2) (id2:=1) (tH:=[(0,.vec T.fa 1 rv)]) rfl rfl rfl rfl (by simp) (by first|exact⟨rfl,trivial⟩|exact⟨rfl,rfl,trivial⟩) rfl rfl (fun O w' r r2 SH=>?_);have OH:=dW.list ((hG.rel r (cC w)).cJ fun g hg=>Cv.mono (iv':=((O 2).g,(O 2).g+1)::jO (O 1) iv) hg fun p hp=>List.mem_cons_of_mem _ (jq p hp)) ((r.GL (id:=1) (sz:=4) (m:=css.length) rfl OX (by unfold maxLen;omega) (by decide) hG.one).cJ fun g hg=>Cv.mono hg fun p hp=>List.mem_cons_of_mem _ hp);have PF:((At.w 1 css.length).den O).oneCell'=true:=At.HR;have Ql:=r.low 2 _ rfl (r.fits (id:=2) rfl).1;have hC3:Cf w (((O 2).g,(O 2).g+1)::jO (O 1) iv) (O 2).g:=.inr ⟨Ql.1,_,_,aG,aF _,bY _⟩;have OP:∀p,p∈iv->p∈((O 2).g,(O 2).g+1)::jO (O 1) iv:=fun p hp=>List.mem_cons_of_mem _ (jq p hp);have Ow:=hw.tr r.cQ;have hK1:=(hK.rel r (cC w)).cJ fun g hg=>Cv.mono hg OP;clear r2 Ql;generalize (At.w 1 css.length).den O=ur at*
  generalize (O 2).g=gy at*
  generalize (gy,gy+1)::jO (O 1) iv=OK at*
  refine⟨[ur],rfl,by simpa using PF,fun ρ2 w2 r2 _=>⟨_,rfl,fun j u hu=>?_⟩,?_⟩
  ·have h5:=Rel.same r2 (gH _) hC3;rw[dQ,cell_of (h5.trans SH)];rcases j with _|j
   ·exact hu
   ·cases hu
  refine⟨by simp,by omega,by unfold maxLen;omega,?_⟩;have Q1:=hK1.push PF OH;rw[show (M.take i).map cd++[cd l]=(M.take (i+1)).map cd by rw[List.take_add_one,hl];simp]at Q1;refine⟨((i+1:Nat):Int),wo,?_⟩;intro ρ3 w6 r3;exact⟨(i+1,rv++[ur],w6,_),⟨OF,Ow.tr r3.cQ,Q1.rel r3 (cC w)⟩,Sub.gn [(0,3)] r3 (hE:=⟨rfl,by dsimp only;rw[List.length_append,List.length_singleton];rfl,rfl,trivial⟩),by dsimp only;omega⟩
 have OF:i=M.length:=aR hi (by simpa using OF);rw[show (M.take i).map cd=M.map cd by rw[OF,bF]]at hK;intro ρe we re;refine⟨_,rfl,hw.tr re.cQ,⟨rv,by rw[<-hK.1];exact uF (yJ re (id:=0) rfl (by simp) (by decide)),hK.1,hK.2.1,fun i u x k1 k2=>cL.cJ (cL.cI (hK.2.2 i u x k1 k2) fun g hg=>Rel.same re (cC w) hg) fun g hg=>⟨hg.fin re,fun e=>Rel.not re (cC w) hg 0 _ rfl (Bk e).1 (Bk e).2⟩⟩,fun g e=>?_⟩;have hl:=re.low 0 _ rfl (Bk e).1;rw[(Bk e).2]at hl;exact .inr ⟨hl.1,_,_,aw.2 rfl,hl.1,hl.2⟩
theorem Lw(hS:Old S w)(hM:j1 w S v M)(hR:M.length<=1000)(hn:∀l∈M,l.length<=1000)(hb:∀l∈M,∀z∈l,-1000000000<=z∧z<=1000000000):
  eD PG N.rp #[v] w (eG w fun v' w2=>cT w2 (Nf w w2) v' (M.map cd)):=
 (KU hS hM hR hn hb).mono fun _ _ ⟨v2,e1,e2,e3⟩=>⟨v2,e1,e2,cT.cJ e3.c fun _ hg=>hg.new⟩
theorem Em(n:Nat)(w:World)(hn:n<=1000):eD PG N.pT #[.int .i64 n] w (eG w fun v' w2=>cL w2 (Nf w w2) v' (List.replicate n 0)):=by
 have hw:=bR w;refine p9 (by simp) ?_
 refine⟨Nat×List (List Value)×World×Iv,fun z=>⟨[(0,.o (.v (.int .i64 (n:Int)))),(3,.o (.w 0 z.2.1.length)),(4,iN z.1)],[(0,.vec T.Rat 4 z.2.1.flatten)],1,z.2.2.2,z.2.2.1⟩,fun z=>n-z.1,
  fun z=>z.1<=n∧eB w.heap.size w z.2.2.1∧dW z.2.2.1 (Cf w z.2.2.2) z.2.1 (List.replicate z.1 0),?_,?_⟩
 ·intro O w' r;exact⟨(0,[],w',[]),⟨aO _,hw.tr r.cQ,dW.nil⟩,Sub.nil 3 T.Rat 4 rfl (by simp[jN,SV.sc,At.sc,fW]) r fun ρ1 r1=>Sub.gn [] r1⟩
 clear hw;rintro⟨i,css,w1,iv⟩ ⟨hi,hw,hG⟩;dsimp only at hi hw hG ⊢;have OX:=eH hG.four;have RM:css.length=i:=by rw[hG.len,bC]
 refine dN.mk ?_ ?_<;>intro OF
 ·have OF:i<n:=by simpa using OF
  refine cD (cE hw (fun _ w' v w2=>cS w2 (Nf w' w2) v (((0:Int)):Rat)) (fun O w' r=>jI 0 w' (by decide)) ?_);rintro O _ _ _ OM r he hw h_ hn;replace hG:=hG.cG r (cC w) he (mC h_);have hd:=hn.dE (S:=FF) r.cF (mN h_);clear r hn;obtain⟨A0,A1,A2,A3,A4,A5,A6,A7,rfl⟩:=hd.shape;have Qt:=hG.push (cs:=[.bool A0,.slice A1 A2 A3,.bool A4,.slice A5 A6 A7]) (q:=((0:Int):Rat)) ⟨_,_,_,_,_,_,_,_,rfl,hd⟩ rfl;rw[show List.replicate i (0:Rat)++[((0:Int):Rat)]=List.replicate (i+1) 0 by rw[List.replicate_succ'];rfl]at Qt;have Pm:css.flatten++([.bool A0,.slice A1 A2 A3,.bool A4,.slice A5 A6 A7]:List Value)=(css++([[.bool A0,.slice A1 A2 A3,.bool A4,.slice A5 A6 A7]]:List (List Value))).flatten:=by simp
  refine .inl ?_;refine⟨by omega,by omega,by unfold maxLen;omega,((i+1:Nat):Int),wo,?_⟩;intro ρ3 w6 r3;exact⟨(i+1,css++[[.bool A0,.slice A1 A2 A3,.bool A4,.slice A5 A6 A7]],w6,_),⟨OF,hw.tr r3.cQ,Qt.rel r3 (cC w)⟩,Sub.gn [(0,2)] r3 ⟨by dsimp only;rw[<-Pm];rfl,trivial⟩ ⟨rfl,by dsimp only;rw[List.length_append,List.length_singleton];rfl,rfl,trivial⟩,by dsimp only;omega⟩
 have OF:i=n:=aR hi (by simpa using OF);subst OF;intro ρe we re;refine⟨_,rfl,hw.tr re.cQ,?_⟩;have h5:=re.ie (id:=0) (sz:=4) (m:=css.length) rfl OX (by unfold maxLen;omega) (by decide) hG.one;exact dW.list ((hG.rel re (cC w)).cJ fun g hg=>Cv.nw hg re) (h5.cJ fun g hg=>.inr hg)
theorem DE(hS:Old S w)(hx:cV w S v xs)(hn:xs.length<=1000)(hb:∀q∈xs,rl q<=90000):
  eD PG N.pS #[v] w (eG w fun v' w2=>da w2 FF w.heap.size [(w.heap.size,w2.heap.size)] v' xs.length (cZ xs (-1))):=by
 have hw:=bR w;have Rb:rl (-1)=1:=by decide
 have SF:=hx;obtain⟨ax,cx,rfl,-,-⟩:=dM.shape SF;refine tj (by simp) ?_;refine cD (cE hw (fun _ w' v w2=>cS w2 (Nf w' w2) v (((-1:Int)):Rat)) (fun O w' r=>jI (-1) w' (by decide)) ?_);rintro O _ _ _ OM r he hw h_ hn;have hd:=hn.dE (S:=FF) r.cF (mN h_);clear r hn;obtain⟨A0,A1,A2,A3,A4,A5,A6,A7,rfl⟩:=hd.shape;refine cD (cE hw (fun _ w' v w2=>da w2 FF w'.heap.size [(w'.heap.size,w2.heap.size)] v xs.length (cZ xs (-1))) (fun O w' r=>((show kO [] xs (-1)=cZ xs (-1)from Bi xs (-1))▸En (b:=(-1:Rat)) (S:=fun g=>S g∨Cf w OM g) (fun g hg=>hg.elim (oS hS r g) (Rel.old r (cC w) g)) (cV.nil w' _) (cV.cJ (cV.cI hx (kS hw r hS)) fun g hg=>.inl hg) (((hd.rel r (cC w)).l (by decide)).cJ fun g hg=>.inr hg) (.inl rfl) (by omega) (fun y hy=>by have:=hb y hy;omega)).mono fun _ _ ⟨v2,e1,e2,_,e3⟩=>⟨v2,e1,e2,e3.x (by rw[cZ,aJ])⟩) ?_);rintro O _ _ _ OK r he hw h_ hn;clear hd;have hr:=da.dE (S:=FF) hn r.cF (mN h_);clear r;clear hn;exact rtn hw fun ρe we re=>hr.out re
end Go.Ex
