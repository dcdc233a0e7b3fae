/- Texts X156 to X182: lemmas, each with its conditions. -/
import Derived.Test.YtgkpbdkechfgmaaGreatP14
namespace Go.Ex
open Go Go.Sx Go.Proofs
variable{p:Int×Int×(Int×Int)}{xs:List (Int×Int×(Int×Int))}{css:List (List Value)}{cs:List Value}{S:Nat->Prop}{v vb vn vs:Value}{w:World}{f:eu}
theorem ov(c b:Int×Int×Rat):gb c=gb b↔(c.1=b.1∧c.2.1=b.2.1)∨(c.1=b.2.1∧c.2.1=b.1):=by
 unfold gb;rw[Prod.mk.injEq];omega
theorem Dt(c b:Int×Int×Rat):jH c=jH b↔c.1=b.1∧c.2.1=b.2.1:=by
 unfold jH;rw[Prod.mk.injEq]
section
variable{α β:Type}{L:List α}{K:α->β}{x:β}
theorem lr{k:Nat}{c:α}(hc:L[k]? =some c)(h:K c≠x)(hE:x∈L.map K↔x∈(L.drop k).map K):x∈L.map K↔x∈(L.drop (k+1)).map K:=by
 rw[hE,List.drop_eq_getElem_cons (aE.1 hc).1,(aE.1 hc).2,List.map_cons,List.mem_cons,or_iff_right fun e=>h e.symm]
theorem uu{k:Nat}{c:α}(hc:L[k]? =some c)(h:K c=x):x∈L.map K:=aV.2 ⟨c,aD hc,h⟩
theorem Du{k:Nat}(hk:L.length<=k)(hE:x∈L.map K↔x∈(L.drop k).map K):x∉L.map K:=fun h=>by
 have:=hE.1 h;rw[List.drop_eq_nil_of_le hk]at this
 cases this
end
theorem rM(n:Int)(an ab aq:Option Addr)(ln cn nb cb nq cq:Nat)(w:World):eG PG N.uD #[.agg #[.slice an ln cn,.slice ab nb cb,.slice aq nq cq],.int .i64 n] w (eL w fun v' _=>∃d,v'= .bool d∧(d=true↔jZ ln n)):=by
 have hw:=bR w;refine xo (by simp) ?_;refine dN.mk ?_ ?_<;>intro h1
 ·intro ρe we re;have h1:=aI h1;exact⟨_,rfl,hw.tr re.cU,_,rfl,by rw[decide_eq_true_iff];exact⟨fun h=>⟨h1,h⟩,fun h=>h.2⟩⟩
 ·intro ρe we re;have h1:=aH h1;exact⟨_,rfl,hw.tr re.cU,_,rfl,(fun h=>by cases h),fun h=>absurd h.1 h1⟩
theorem lu(n lo hi:Int)(w:World):eG PG N.xG #[.int .i64 n,.int .i64 lo,.int .i64 hi] w (eL w fun v' _=>∃d,v'= .bool d∧(d=true↔lo<=n∧n<=hi)):=by
 have hw:=bR w;refine AR (by simp) ?_;refine dN.mk ?_ ?_<;>intro h1
 ·intro ρe we re;have h1:=aI h1;exact⟨_,rfl,hw.tr re.cU,_,rfl,by rw[decide_eq_true_iff];exact⟨fun h=>⟨h1,h⟩,fun h=>h.2⟩⟩
 ·intro ρe we re;have h1:=aH h1;exact⟨_,rfl,hw.tr re.cU,_,rfl,(fun h=>by cases h),fun h=>absurd h.1 h1⟩
theorem Aw{q:Rat}(hS:Old S w)(hp:fE w S v q):eG PG N.ju #[v] w (eL w fun v' _=>v'= .int .i64 (rs q)):=by
 obtain⟨a,b,h1,rfl,_,_⟩:=hp.v;exact tG hS h1
set_option maxHeartbeats 2000000 in
theorem Ll(hS:Old S w)(hf:eF w S vn vb vs f):eG PG N.xF #[.agg #[vn,vb,vs]] w (eL w fun v' _=>v'= .int .i64 (eY f)):=by
 have hw:=bR w;obtain⟨an,cn,ab,cb,aq,cq,rfl,rfl,rfl,RH,Re,SB⟩:=hf.shape;refine AQ (by simp) ?_;refine dN.mk ?_ ?_<;>intro h0
 ·have h0:=aI h0;exact rtn hw fun ρe we re=>by show Value.int .i64 _=_;rw[eY,if_pos (by omega)]
 have h0:=aH h0;refine dN.mk ?_ ?_<;>intro h1
 ·have h1:=aI h1;exact rtn hw fun ρe we re=>by show Value.int .i64 _=_;rw[eY,if_pos (by omega)]
 have h1:=aH h1;refine dN.mk ?_ ?_<;>intro h2
 ·have h2:=aI h2;exact rtn hw fun ρe we re=>by show Value.int .i64 _=_;rw[eY,if_pos (by omega)]
 have h2:=aH h2
 refine⟨Nat×World×Iv,fun z=>⟨[(1,pP 0 0),(3,iN z.1)],[(0,.box T.Frame [.v (.slice an f.nodes.length cn),.v (.slice ab f.bars.length cb),.v (.slice aq f.cY.length cq)])],1,z.2.2,z.2.1⟩,fun z=>f.nodes.length-z.1,
  fun z=>z.1<=f.nodes.length∧dq w.heap.size w z.2.1∧fG fL [] f.nodes=fG fL (f.nodes.take z.1) (f.nodes.drop z.1),?_,?_⟩
 ·intro O w' r3;exact⟨(0,w',_),⟨aR _,hw.tr r3.cU,rfl⟩,Sub.gn [] r3⟩
 rintro⟨i,w1,iv⟩ ⟨hi,hw,hE⟩;dsimp only at hi hw hE ⊢;refine dN.mk ?_ ?_<;>intro OU
 ·have OU:i<f.nodes.length:=by simpa using OU
  obtain⟨b,hx⟩:∃b,f.nodes[i]? =some b:=⟨_,aA OU⟩
  have hLl:(f.nodes.take i).length=i:=by rw[ai];omega
  obtain⟨adb,cs,QP,hF,-,PT⟩:=hf.nodes.load (by decide) hx;have hF:cs=[.int .i64 b.1,.int .i64 b.2.1,.int .i64 b.2.2]:=hF;subst hF;refine⟨adb,QP,by omega,[.int .i64 b.1,.int .i64 b.2.1,.int .i64 b.2.2],rfl,rdO PT hw hS,?_⟩;refine cH (cE hw (fun _ w' v w2=>∃d,v= .bool d∧(d=true↔nE b.1)) (fun O w' r=>lu _ _ _ w') ?_);rintro O QU v1 QJ Og r he hw h_ ⟨d0,rfl,Ok⟩
  cases d0
  ·have Ok:¬nE b.1:=fun h=>by have:=Ok.2 h;cases this
   exact rtn hw fun ρe we re=>by show Value.int .i64 _=_;rw[eY,aJ (by omega),if_pos (by rw[hE,cW hx (show fL (f.nodes.take i) b=2 by rw[fL,aJ (fun h=>Ok h.1)]) (by decide)];decide),hE,cW hx (show fL (f.nodes.take i) b=2 by rw[fL,aJ (fun h=>Ok h.1)]) (by decide)]
  replace Ok:=Ok.1 rfl;refine cH (cE hw (fun _ w' v w2=>∃d,v= .bool d∧(d=true↔nE b.2.1)) (fun O w' r=>lu _ _ _ w') ?_);rintro O QQ v2 Pn OX r he hw h_ ⟨d1,rfl,Ov⟩
  cases d1
  ·have Ov:¬nE b.2.1:=fun h=>by have:=Ov.2 h;cases this
   exact rtn hw fun ρe we re=>by show Value.int .i64 _=_;rw[eY,aJ (by omega),if_pos (by rw[hE,cW hx (show fL (f.nodes.take i) b=2 by rw[fL,aJ (fun h=>Ov h.2.1)]) (by decide)];decide),hE,cW hx (show fL (f.nodes.take i) b=2 by rw[fL,aJ (fun h=>Ov h.2.1)]) (by decide)]
  replace Ov:=Ov.1 rfl;refine cH (cE hw (fun _ w' v w2=>∃d,v= .bool d∧(d=true↔nE b.2.2)) (fun O w' r=>lu _ _ _ w') ?_);rintro O Pz v3 Px Oh r he hw h_ ⟨d2,rfl,Ps⟩
  cases d2
  ·have Ps:¬nE b.2.2:=fun h=>by have:=Ps.2 h;cases this
   exact rtn hw fun ρe we re=>by show Value.int .i64 _=_;rw[eY,aJ (by omega),if_pos (by rw[hE,cW hx (show fL (f.nodes.take i) b=2 by rw[fL,aJ (fun h=>Ps h.2.2)]) (by decide)];decide),hE,cW hx (show fL (f.nodes.take i) b=2 by rw[fL,aJ (fun h=>Ps h.2.2)]) (by decide)]
  replace Ps:=Ps.1 rfl
  refine⟨Nat×World,fun z=>⟨[(1,pP 0 0),(3,iN i),(4,pP 1 0),(5,iN z.1)],[(1,.box T.Node [.v (.int .i64 b.1),.v (.int .i64 b.2.1),.v (.int .i64 b.2.2)]),(0,.box T.Frame [.v (.slice an f.nodes.length cn),.v (.slice ab f.bars.length cb),.v (.slice aq f.cY.length cq)])],2,Oh,z.2⟩,fun z=>i-z.1,
   fun z=>z.1<=i∧dq w.heap.size w z.2∧(b∈(f.nodes.take i).map id↔b∈((f.nodes.take i).drop z.1).map id),?_,?_⟩
  ·intro O w' r3;exact⟨(0,w'),⟨aR _,hw.tr r3.cU,Iff.rfl⟩,Sub.gn [] r3⟩
  rintro⟨k,w2⟩ ⟨hk,hw,hK⟩;dsimp only at hk hw hK ⊢;refine dN.mk ?_ ?_<;>intro Oc
  ·have Oc:k<i:=by have:=aI Oc;omega
   obtain⟨c,hc⟩:∃c,f.nodes[k]? =some c:=⟨_,aA (by omega)⟩
   have Sy:(f.nodes.take i)[k]? =some c:=by rw[bV Oc];exact hc
   obtain⟨adc,cs2,XS,So,-,TV⟩:=hf.nodes.load (by decide) hc;have So:cs2=[.int .i64 c.1,.int .i64 c.2.1,.int .i64 c.2.2]:=So;subst So;refine cQ hτ dx [.x 0,.x 1,.x 2,.x 3,.x 4,.x 5,.x 6] (by kernel_rfl) (by kernel_rfl) ?_;refine⟨adc,XS,by omega,[.int .i64 c.1,.int .i64 c.2.1,.int .i64 c.2.2],rfl,rdO TV hw hS,decide (c=b),fun O w o1 o2=>Fm c b w o1 o2,?_⟩;refine dN.mk ?_ ?_<;>intro hd
   ·have hd:c=b:=aI hd;have RF:b∈f.nodes.take i:=by have:=uu (K:=id) Sy hd;rwa [List.map_id]at this
    exact rtn hw fun ρe we re=>by show Value.int .i64 _=_;rw[eY,aJ (by omega),if_pos (by rw[hE,cW hx (show fL (f.nodes.take i) b=12 by rw[fL,if_pos ⟨Ok,Ov,Ps⟩,if_pos RF]) (by decide)];decide),hE,cW hx (show fL (f.nodes.take i) b=12 by rw[fL,if_pos ⟨Ok,Ov,Ps⟩,if_pos RF]) (by decide)]
   have hd:c≠b:=aH hd;have Q7:=lr (K:=id) Sy hd hK;refine⟨((k+1:Nat):Int),wo,?_⟩;intro ρ3 w6 r3;exact⟨(k+1,w6),⟨Oc,hw.tr r3.cU,Q7⟩,Sub.gn [] r3,by dsimp only;omega⟩
  have Oc:k=i:=by have:=aH Oc;omega
  have Q8:=Du (by rw[hLl];omega) hK;rw[List.map_id]at Q8;rw[gu hx (tE.2 ⟨⟨Ok,Ov,Ps⟩,Q8⟩)]at hE;refine⟨((i+1:Nat):Int),wo,?_⟩;intro ρ3 w6 r3;exact⟨(i+1,w6,_),⟨OU,hw.tr r3.cU,hE⟩,Sub.gn [] r3,by dsimp only;omega⟩
 have OU:i=f.nodes.length:=aU hi (by simpa using OU);rw[jP (by omega)]at hE
 refine⟨Nat×World×Iv,fun z=>⟨[(1,pP 0 0),(6,iN z.1)],[(0,.box T.Frame [.v (.slice an f.nodes.length cn),.v (.slice ab f.bars.length cb),.v (.slice aq f.cY.length cq)])],1,z.2.2,z.2.1⟩,fun z=>f.bars.length-z.1,
  fun z=>z.1<=f.bars.length∧dq w.heap.size w z.2.1∧fG (fW f.nodes.length) [] f.bars=fG (fW f.nodes.length) (f.bars.take z.1) (f.bars.drop z.1),?_,?_⟩
 ·intro O w' r3;exact⟨(0,w',_),⟨aR _,hw.tr r3.cU,rfl⟩,Sub.gn [] r3⟩
 rintro⟨i,w1,iv⟩ ⟨hi,hw,PB⟩;dsimp only at hi hw PB ⊢;refine dN.mk ?_ ?_<;>intro OU
 ·have OU:i<f.bars.length:=by simpa using OU
  obtain⟨b,hx⟩:∃b,f.bars[i]? =some b:=⟨_,aA OU⟩
  have hLl:(f.bars.take i).length=i:=by rw[ai];omega
  obtain⟨adb,cs,QP,hF,-,PT⟩:=hf.bars.load (by decide) hx;obtain⟨g0,g1,g2,g3,g4,g5,g6,g7,rfl,hF⟩:=hF;refine⟨adb,QP,by omega,[.int .i64 b.1,.int .i64 b.2.1,.bool g0,.slice g1 g2 g3,.bool g4,.slice g5 g6 g7],rfl,rdO PT hw hS,?_⟩;refine cH (cE hw (fun _ w' v w2=>∃d,v= .bool d∧(d=true↔jZ f.nodes.length b.1)) (fun O w' r=>rM _ _ _ _ _ _ _ _ _ _ w') ?_);rintro O QU v1 QJ Og r he hw h_ ⟨d0,rfl,Ok⟩
  cases d0
  ·have Ok:¬jZ f.nodes.length b.1:=fun h=>by have:=Ok.2 h;cases this
   exact rtn hw fun ρe we re=>by show Value.int .i64 _=_;rw[eY,aJ (by omega),aJ (by rw[hE];decide),if_pos (by rw[PB,cW hx (show fW f.nodes.length (f.bars.take i) b=6 by rw[fW,aJ (fun h=>Ok h.1)]) (by decide)];decide),PB,cW hx (show fW f.nodes.length (f.bars.take i) b=6 by rw[fW,aJ (fun h=>Ok h.1)]) (by decide)]
  replace Ok:=Ok.1 rfl;refine cH (cE hw (fun _ w' v w2=>∃d,v= .bool d∧(d=true↔jZ f.nodes.length b.2.1)) (fun O w' r=>rM _ _ _ _ _ _ _ _ _ _ w') ?_);rintro O QQ v2 Pn OX r he hw h_ ⟨d1,rfl,Ov⟩
  cases d1
  ·have Ov:¬jZ f.nodes.length b.2.1:=fun h=>by have:=Ov.2 h;cases this
   exact rtn hw fun ρe we re=>by show Value.int .i64 _=_;rw[eY,aJ (by omega),aJ (by rw[hE];decide),if_pos (by rw[PB,cW hx (show fW f.nodes.length (f.bars.take i) b=6 by rw[fW,aJ (fun h=>Ov h.2)]) (by decide)];decide),PB,cW hx (show fW f.nodes.length (f.bars.take i) b=6 by rw[fW,aJ (fun h=>Ov h.2)]) (by decide)]
  replace Ov:=Ov.1 rfl;refine dN.mk ?_ ?_<;>intro Pu
  ·have Pu:b.1=b.2.1:=by simpa using Pu
   exact rtn hw fun ρe we re=>by show Value.int .i64 _=_;rw[eY,aJ (by omega),aJ (by rw[hE];decide),if_pos (by rw[PB,cW hx (show fW f.nodes.length (f.bars.take i) b=3 by rw[fW,if_pos ⟨Ok,Ov⟩,if_pos Pu]) (by decide)];decide),PB,cW hx (show fW f.nodes.length (f.bars.take i) b=3 by rw[fW,if_pos ⟨Ok,Ov⟩,if_pos Pu]) (by decide)]
  have Pu:b.1≠b.2.1:=by simpa using Pu
  refine⟨Nat×World,fun z=>⟨[(1,pP 0 0),(6,iN i),(7,pP 1 0),(8,iN z.1)],[(1,.box T.Bar [.v (.int .i64 b.1),.v (.int .i64 b.2.1),.v (.bool g0),.v (.slice g1 g2 g3),.v (.bool g4),.v (.slice g5 g6 g7)]),(0,.box T.Frame [.v (.slice an f.nodes.length cn),.v (.slice ab f.bars.length cb),.v (.slice aq f.cY.length cq)])],2,OX,z.2⟩,fun z=>i-z.1,
   fun z=>z.1<=i∧dq w.heap.size w z.2∧(gb b∈(f.bars.take i).map gb↔gb b∈((f.bars.take i).drop z.1).map gb),?_,?_⟩
  ·intro O w' r3;exact⟨(0,w'),⟨aR _,hw.tr r3.cU,Iff.rfl⟩,Sub.gn [] r3⟩
  rintro⟨k,w2⟩ ⟨hk,hw,hK⟩;dsimp only at hk hw hK ⊢;refine dN.mk ?_ ?_<;>intro Oc
  ·have Oc:k<i:=by have:=aI Oc;omega
   obtain⟨c,hc⟩:∃c,f.bars[k]? =some c:=⟨_,aA (by omega)⟩
   have Sy:(f.bars.take i)[k]? =some c:=by rw[bV Oc];exact hc
   obtain⟨adc,cs2,XS,So,-,TV⟩:=hf.bars.load (by decide) hc;obtain⟨q0,q1,q2,q3,q4,q5,q6,q7,rfl,-⟩:=So;refine⟨adc,XS,by omega,[.int .i64 c.1,.int .i64 c.2.1,.bool q0,.slice q1 q2 q3,.bool q4,.slice q5 q6 q7],rfl,rdO TV hw hS,?_⟩;refine dN.mk ?_ ?_<;>intro e1
   ·have e1:(c.1=b.1):=by simpa using e1
    refine dN.mk ?_ ?_<;>intro e2
    ·have e2:(c.2.1=b.2.1):=by simpa using e2
     have RF:=uu (K:=gb) Sy (show gb c=gb b by rw[ov];omega);exact rtn hw fun ρe we re=>by show Value.int .i64 _=_;rw[eY,aJ (by omega),aJ (by rw[hE];decide),if_pos (by rw[PB,cW hx (show fW f.nodes.length (f.bars.take i) b=5 by rw[fW,if_pos ⟨Ok,Ov⟩,aJ Pu,if_pos RF]) (by decide)];decide),PB,cW hx (show fW f.nodes.length (f.bars.take i) b=5 by rw[fW,if_pos ⟨Ok,Ov⟩,aJ Pu,if_pos RF]) (by decide)]
    ·have e2:¬(c.2.1=b.2.1):=by simpa using e2
     refine dN.mk ?_ ?_<;>intro e3
     ·have e3:(c.1=b.2.1):=by simpa using e3
      refine dN.mk ?_ ?_<;>intro e4
      ·have e4:(c.2.1=b.1):=by simpa using e4
       have RF:=uu (K:=gb) Sy (show gb c=gb b by rw[ov];omega);exact rtn hw fun ρe we re=>by show Value.int .i64 _=_;rw[eY,aJ (by omega),aJ (by rw[hE];decide),if_pos (by rw[PB,cW hx (show fW f.nodes.length (f.bars.take i) b=5 by rw[fW,if_pos ⟨Ok,Ov⟩,aJ Pu,if_pos RF]) (by decide)];decide),PB,cW hx (show fW f.nodes.length (f.bars.take i) b=5 by rw[fW,if_pos ⟨Ok,Ov⟩,aJ Pu,if_pos RF]) (by decide)]
      ·have e4:¬(c.2.1=b.1):=by simpa using e4
       have Q7:=lr (K:=gb) Sy (show gb c≠gb b by rw[Ne,ov];omega) hK;refine⟨((k+1:Nat):Int),wo,?_⟩;intro ρ3 w6 r3;exact⟨(k+1,w6),⟨Oc,hw.tr r3.cU,Q7⟩,Sub.gn [] r3,by dsimp only;omega⟩
     ·have e3:¬(c.1=b.2.1):=by simpa using e3
      have Q7:=lr (K:=gb) Sy (show gb c≠gb b by rw[Ne,ov];omega) hK;refine⟨((k+1:Nat):Int),wo,?_⟩;intro ρ3 w6 r3;exact⟨(k+1,w6),⟨Oc,hw.tr r3.cU,Q7⟩,Sub.gn [] r3,by dsimp only;omega⟩
   ·have e1:¬(c.1=b.1):=by simpa using e1
    refine dN.mk ?_ ?_<;>intro e3
    ·have e3:(c.1=b.2.1):=by simpa using e3
     refine dN.mk ?_ ?_<;>intro e4
     ·have e4:(c.2.1=b.1):=by simpa using e4
      have RF:=uu (K:=gb) Sy (show gb c=gb b by rw[ov];omega);exact rtn hw fun ρe we re=>by show Value.int .i64 _=_;rw[eY,aJ (by omega),aJ (by rw[hE];decide),if_pos (by rw[PB,cW hx (show fW f.nodes.length (f.bars.take i) b=5 by rw[fW,if_pos ⟨Ok,Ov⟩,aJ Pu,if_pos RF]) (by decide)];decide),PB,cW hx (show fW f.nodes.length (f.bars.take i) b=5 by rw[fW,if_pos ⟨Ok,Ov⟩,aJ Pu,if_pos RF]) (by decide)]
     ·have e4:¬(c.2.1=b.1):=by simpa using e4
      have Q7:=lr (K:=gb) Sy (show gb c≠gb b by rw[Ne,ov];omega) hK;refine⟨((k+1:Nat):Int),wo,?_⟩;intro ρ3 w6 r3;exact⟨(k+1,w6),⟨Oc,hw.tr r3.cU,Q7⟩,Sub.gn [] r3,by dsimp only;omega⟩
    ·have e3:¬(c.1=b.2.1):=by simpa using e3
     have Q7:=lr (K:=gb) Sy (show gb c≠gb b by rw[Ne,ov];omega) hK;refine⟨((k+1:Nat):Int),wo,?_⟩;intro ρ3 w6 r3;exact⟨(k+1,w6),⟨Oc,hw.tr r3.cU,Q7⟩,Sub.gn [] r3,by dsimp only;omega⟩
  have Oc:k=i:=by have:=aH Oc;omega
  have Q8:=Du (by rw[hLl];omega) hK;refine cH (cE hw (fun _ w' v w2=>v= .int .i64 (rs b.2.2)) (fun O w' r=>(Aw (oS hS r) (hF.cJ (kS hw r hS)))) ?_);rintro O Pz v3 Px Oh r he hw h_ rfl;obtain⟨cf,UF⟩:∃c,rs b.2.2=c:=⟨_,rfl⟩
  rw[UF];refine dN.mk ?_ ?_<;>intro Pg
  ·have Pg:b.2.2<=0:=by have:=aI Pg;rw[<-Rat.not_lt,<-ot];omega
   exact rtn hw fun ρe we re=>by show Value.int .i64 _=_;rw[eY,aJ (by omega),aJ (by rw[hE];decide),if_pos (by rw[PB,cW hx (show fW f.nodes.length (f.bars.take i) b=2 by rw[fW,if_pos ⟨Ok,Ov⟩,aJ Pu,aJ Q8,if_pos Pg]) (by decide)];decide),PB,cW hx (show fW f.nodes.length (f.bars.take i) b=2 by rw[fW,if_pos ⟨Ok,Ov⟩,aJ Pu,aJ Q8,if_pos Pg]) (by decide)]
  have Pg:0<b.2.2:=by have:=aH Pg;rw[<-ot];omega
  rw[gu hx (nQ.2 ⟨⟨Ok,Ov⟩,Pu,Q8,Pg⟩)]at PB;refine⟨((i+1:Nat):Int),wo,?_⟩;intro ρ3 w6 r3;exact⟨(i+1,w6,_),⟨OU,hw.tr r3.cU,PB⟩,Sub.gn [] r3,by dsimp only;omega⟩
 have OU:i=f.bars.length:=aU hi (by simpa using OU);rw[jP (by omega)]at PB
 refine⟨Nat×World×Iv,fun z=>⟨[(1,pP 0 0),(10,iN z.1)],[(0,.box T.Frame [.v (.slice an f.nodes.length cn),.v (.slice ab f.bars.length cb),.v (.slice aq f.cY.length cq)])],1,z.2.2,z.2.1⟩,fun z=>f.cY.length-z.1,
  fun z=>z.1<=f.cY.length∧dq w.heap.size w z.2.1∧fG (kf f.nodes.length) [] f.cY=fG (kf f.nodes.length) (f.cY.take z.1) (f.cY.drop z.1),?_,?_⟩
 ·intro O w' r3;exact⟨(0,w',_),⟨aR _,hw.tr r3.cU,rfl⟩,Sub.gn [] r3⟩
 rintro⟨i,w1,iv⟩ ⟨hi,hw,VR⟩;dsimp only at hi hw VR ⊢;refine dN.mk ?_ ?_<;>intro OU
 ·have OU:i<f.cY.length:=by simpa using OU
  obtain⟨b,hx⟩:∃b,f.cY[i]? =some b:=⟨_,aA OU⟩
  have hLl:(f.cY.take i).length=i:=by rw[ai];omega
  obtain⟨adb,cs,QP,hF,-,PT⟩:=hf.cY.load (by decide) hx;obtain⟨g0,g1,g2,g3,g4,g5,g6,g7,rfl,hF⟩:=hF;refine⟨adb,QP,by omega,[.int .i64 b.1,.int .i64 b.2.1,.bool g0,.slice g1 g2 g3,.bool g4,.slice g5 g6 g7],rfl,rdO PT hw hS,?_⟩;refine cH (cE hw (fun _ w' v w2=>∃d,v= .bool d∧(d=true↔jZ f.nodes.length b.1)) (fun O w' r=>rM _ _ _ _ _ _ _ _ _ _ w') ?_);rintro O _ _ _ Og r he hw h_ ⟨d0,rfl,Ok⟩
  cases d0
  ·have Ok:¬jZ f.nodes.length b.1:=fun h=>by have:=Ok.2 h;cases this
   exact rtn hw fun ρe we re=>by show Value.int .i64 _=_;rw[eY,aJ (by omega),aJ (by rw[hE];decide),aJ (by rw[PB];decide),VR,cW hx (show kf f.nodes.length (f.cY.take i) b=6 by rw[kf,aJ Ok]) (by decide)]
  replace Ok:=Ok.1 rfl;refine cH (cE hw (fun _ w' v w2=>∃d,v= .bool d∧(d=true↔0<=b.2.1∧b.2.1<=2)) (fun O w' r=>lu _ _ _ w') ?_);rintro O _ _ _ OX r he hw h_ ⟨d1,rfl,Pq⟩
  cases d1
  ·have Pq:¬(0<=b.2.1∧b.2.1<=2):=fun h=>by have:=Pq.2 h;cases this
   exact rtn hw fun ρe we re=>by show Value.int .i64 _=_;rw[eY,aJ (by omega),aJ (by rw[hE];decide),aJ (by rw[PB];decide),VR,cW hx (show kf f.nodes.length (f.cY.take i) b=2 by rw[kf,if_pos Ok,aJ Pq]) (by decide)]
  replace Pq:=Pq.1 rfl
  refine⟨Nat×World,fun z=>⟨[(1,pP 0 0),(10,iN i),(11,pP 1 0),(12,iN z.1)],[(1,.box T.DX [.v (.int .i64 b.1),.v (.int .i64 b.2.1),.v (.bool g0),.v (.slice g1 g2 g3),.v (.bool g4),.v (.slice g5 g6 g7)]),(0,.box T.Frame [.v (.slice an f.nodes.length cn),.v (.slice ab f.bars.length cb),.v (.slice aq f.cY.length cq)])],2,OX,z.2⟩,fun z=>i-z.1,
   fun z=>z.1<=i∧dq w.heap.size w z.2∧(jH b∈(f.cY.take i).map jH↔jH b∈((f.cY.take i).drop z.1).map jH),?_,?_⟩
  ·intro O w' r3;exact⟨(0,w'),⟨aR _,hw.tr r3.cU,Iff.rfl⟩,Sub.gn [] r3⟩
  rintro⟨k,w2⟩ ⟨hk,hw,hK⟩;dsimp only at hk hw hK ⊢;refine dN.mk ?_ ?_<;>intro Oc
  ·have Oc:k<i:=by have:=aI Oc;omega
   obtain⟨c,hc⟩:∃c,f.cY[k]? =some c:=⟨_,aA (by omega)⟩
   have Sy:(f.cY.take i)[k]? =some c:=by rw[bV Oc];exact hc
   obtain⟨adc,cs2,XS,So,-,TV⟩:=hf.cY.load (by decide) hc;obtain⟨q0,q1,q2,q3,q4,q5,q6,q7,rfl,-⟩:=So;refine cQ hτ dx [.x 0,.x 1,.x 2,.x 3,.x 4,.x 5,.x 6,.x 7,.x 8,.x 9,.x 10,.x 11,.x 12,.x 13,.x 14,.x 15,.x 16,.x 17,.x 18,.x 19] (by kernel_rfl) (by kernel_rfl) ?_;refine⟨adc,XS,by omega,.int .i64 c.1,fun O w' r=>?_,?_⟩
   ·obtain⟨k1,k2⟩:=TV 0 _ rfl;rw[cI (w:=w) (w2:=w') (by simp only[dC];exact(hw.tr r.cU).block _ (hS _ k1))];simp only[aF,jy]at k2 ⊢;exact k2
   refine dN.mk ?_ ?_<;>intro e1
   ·have e1:(c.1=b.1):=by simpa using e1
    refine⟨adc,XS,by omega,.int .i64 c.2.1,fun O w' r=>?_,?_⟩
    ·obtain⟨k1,k2⟩:=TV 1 _ rfl;rw[cI (w:=w) (w2:=w') (by simp only[dC];exact(hw.tr r.cU).block _ (hS _ k1))];simp only[aF,jy]at k2 ⊢;exact k2
    refine dN.mk ?_ ?_<;>intro e2
    ·have e2:(c.2.1=b.2.1):=by simpa using e2
     have RF:=uu (K:=jH) Sy (show jH c=jH b by rw[Dt];omega);exact rtn hw fun ρe we re=>by show Value.int .i64 _=_;rw[eY,aJ (by omega),aJ (by rw[hE];decide),aJ (by rw[PB];decide),VR,cW hx (show kf f.nodes.length (f.cY.take i) b=5 by rw[kf,if_pos Ok,if_pos Pq,if_pos RF]) (by decide)]
    ·have e2:¬(c.2.1=b.2.1):=by simpa using e2
     have Q7:=lr (K:=jH) Sy (show jH c≠jH b by rw[Ne,Dt];omega) hK;refine⟨((k+1:Nat):Int),wo,?_⟩;intro ρ3 w6 r3;exact⟨(k+1,w6),⟨Oc,hw.tr r3.cU,Q7⟩,Sub.gn [] r3,by dsimp only;omega⟩
   ·have e1:¬(c.1=b.1):=by simpa using e1
    have Q7:=lr (K:=jH) Sy (show jH c≠jH b by rw[Ne,Dt];omega) hK;refine⟨((k+1:Nat):Int),wo,?_⟩;intro ρ3 w6 r3;exact⟨(k+1,w6),⟨Oc,hw.tr r3.cU,Q7⟩,Sub.gn [] r3,by dsimp only;omega⟩
  have Oc:k=i:=by have:=aH Oc;omega
  have Q8:=Du (by rw[hLl];omega) hK;refine cH (cE hw (fun _ w' v w2=>v= .int .i64 (rs b.2.2)) (fun O w' r=>(Aw (oS hS r) (hF.cJ (kS hw r hS)))) ?_);rintro O _ _ _ Oh r he hw h_ rfl;obtain⟨cf,UF⟩:∃c,rs b.2.2=c:=⟨_,rfl⟩
  rw[UF];refine dN.mk ?_ ?_<;>intro Pg
  ·have Pg:b.2.2<0:=by have:=aI Pg;rw[<-lk];omega
   exact rtn hw fun ρe we re=>by show Value.int .i64 _=_;rw[eY,aJ (by omega),aJ (by rw[hE];decide),aJ (by rw[PB];decide),VR,cW hx (show kf f.nodes.length (f.cY.take i) b=2 by rw[kf,if_pos Ok,if_pos Pq,aJ Q8,if_pos Pg]) (by decide)]
  have Pg:0<=b.2.2:=by have:=aH Pg;rw[<-Rat.not_lt,<-lk];omega
  rw[gu hx (rK.2 ⟨Ok,Pq,Q8,Pg⟩)]at VR;refine⟨((i+1:Nat):Int),wo,?_⟩;intro ρ3 w6 r3;exact⟨(i+1,w6,_),⟨OU,hw.tr r3.cU,VR⟩,Sub.gn [] r3,by dsimp only;omega⟩
 have OU:i=f.cY.length:=aU hi (by simpa using OU);rw[jP (by omega)]at VR;exact rtn hw fun ρe we re=>by show Value.int .i64 _=_;rw[eY,aJ (by omega),aJ (by rw[hE];decide),aJ (by rw[PB];decide),VR]
def rq(p:Int×Int):Rat:=ratio p.1 p.2
structure HS where
 nodes:List (Int×Int×Int)
 bars:List (Int×Int×(Int×Int))
 cY:List (Int×Int×(Int×Int))
def Fp(p:Int×Int×(Int×Int)):Int×Int×Rat:=(p.1,p.2.1,rq p.2.2)
def HS.val(f:HS):eu:=⟨f.nodes,f.bars.map Fp,f.cY.map Fp⟩
def uw(w:World)(S:Nat->Prop)(cs:List Value)(p:Int×Int×(Int×Int)):Prop:=∃b a n c b2 a2 n2 c2,cs=[.int .i64 p.1,.int .i64 p.2.1,.bool b,.slice a n c,.bool b2,.slice a2 n2 c2]∧iP w S (.agg #[.bool b,.slice a n c,.bool b2,.slice a2 n2 c2]) p.2.2.1 p.2.2.2
structure qk(w:World)(S:Nat->Prop)(vn vb vs:Value)(f:HS):Prop where
 nodes:nA w S vn f.nodes
 bars:ed 6 uw w S vb f.bars
 cY:ed 6 uw w S vs f.cY
theorem uw.cJ{w2:World}(h:uw w S cs p)(hk:∀g,S g->w2.heap[g]? =w.heap[g]?):uw w2 S cs p:=by
 obtain⟨b,a,n,c,b2,a2,n2,c2,h1,h2⟩:=h;exact⟨b,a,n,c,b2,a2,n2,c2,h1,h2.cJ hk⟩
theorem qk.cJ{w2:World}{f:HS}(h:qk w S vn vb vs f)(hk:∀g,S g->w2.heap[g]? =w.heap[g]?):qk w2 S vn vb vs f:=
 ⟨ed.cJ (w:=w) (fun _ _ h=>h) h.nodes hk,ed.cJ (fun _ _ h=>h.cJ hk) h.bars hk,ed.cJ (fun _ _ h=>h.cJ hk) h.cY hk⟩
theorem uw.few(h:uw w S cs p)(hf:Fo (cs.drop 2)):Dm w S cs (Fp p)∧rl (Fp p).2.2<=3:=by
 obtain⟨b,a,n,c,b2,a2,n2,c2,rfl,h2⟩:=h;obtain⟨h3,h4⟩:=h2.l3 hf;exact⟨⟨b,a,n,c,b2,a2,n2,c2,rfl,h3⟩,h4⟩
theorem ed.cells{α:Type}{k:Nat}{P:World->(Nat->Prop)->List Value->α->Prop}{xs:List α}(h:ed k P w S v xs):
  ∃css:List (List Value),css.length=xs.length∧ed k (fun w S cs (y:List Value×α)=>cs=y.1∧P w S cs y.2) w S v (css.zip xs)∧(∀(j:Nat) cs x,css[j]? =some cs->xs[j]? =some x->P w S cs x)∧
   ∀{β:Type} (Q:World->(Nat->Prop)->List Value->β->Prop) (ys:List β),ys.length=xs.length->(∀(j:Nat) cs y,css[j]? =some cs->ys[j]? =some y->Q w S cs y)->ed k Q w S v ys:=by
 obtain⟨css,h1,h2,h3,h4⟩:=h;have hz:(css.zip xs).length=xs.length:=by rw[List.length_zip,h2,Nat.min_self]
 refine⟨css,h2,⟨css,by rw[hz];exact h1,by rw[hz,h2],h3,fun j cs y k1 k2=>?_⟩,h4,fun Q ys hl hQ=>⟨css,by rw[hl];exact h1,by rw[hl,h2],h3,hQ⟩⟩;rw[List.getElem?_zip_eq_some]at k2;rw[k1]at k2;exact⟨by injection k2.1,h4 j cs _ k1 k2.2⟩
theorem OB.of(h4:∀(j:Nat) cs x,css[j]? =some cs->xs[j]? =some x->uw w S cs x)
  (hQ:∀{β:Type} (Q:World->(Nat->Prop)->List Value->β->Prop) (ys:List β),ys.length=xs.length->(∀(j:Nat) cs y,css[j]? =some cs->ys[j]? =some y->Q w S cs y)->ed 6 Q w S v ys)
  (hl:css.length=xs.length) (hf:∀j cs,j<xs.length->css[j]? =some cs->Fo (cs.drop 2)):Lh w S v (xs.map Fp)∧∀b∈xs.map Fp,rl b.2.2<=3:=by
 refine⟨hQ Dm _ (aL ..) fun j cs y k1 k2=>?_,fun b hb=>?_⟩
 ·rw[aM]at k2;obtain⟨p,hp,rfl⟩:=Option.map_eq_some_iff.1 k2;exact((h4 j cs p k1 hp).few (hf j cs (aE.1 hp).1 k1)).1
 ·obtain⟨p,hp,rfl⟩:=aV.1 hb;obtain⟨j,hj⟩:=aN hp;have Sa:=(aE.1 hj).1;have hc:css[j]? =some css[j]:=aA (by omega);exact((h4 j _ p hc hj).few (hf j _ Sa hc)).2
section
variable{xs:List Rat}{l:List (Rat×Rat)}{i:Nat}{x:Rat}{r:Rat×Rat}
end
theorem ql(hf:eF w S vn vb vs f)(h60:f.bars.length<=60∧f.cY.length<=60):eG PG N.qE #[.agg #[vn,vb,vs]] w (eL w fun v' _=>v'= .int .i64 f.cols):=by
 have hw:=bR w;obtain⟨an,cn,ab,cb,aq,cq,rfl,rfl,rfl,RH,Re,SB⟩:=hf.shape;refine uS (by simp) ?_;refine⟨((f.bars.length+f.cY.length:Nat):Int),wo,?_⟩;exact rtn hw fun ρe we re=>rfl
section
variable{S:Nat->Prop}{w w1 w':World}{H:Hp}{nx:Nat}{iv:Iv}{O:Nat->Sx.dw}
end
end Go.Ex
namespace Go.Ex
end Go.Ex
namespace Go.Ex
open Go Go.Sx Go.Proofs
variable{b:Int×Int×Rat}{S:Nat->Prop}{f:eu}
theorem Jd{n:Nat}(h:n<9223372036854775807):ln n<=2:=by have:=Ax (n:=(n:Int)) (by omega) (by omega);rwa [Int.natAbs_natCast]at this
theorem Lo(h:eY f=0)(hb:b∈f.bars):b.1≠b.2.1∧0<b.2.2:=by
 obtain⟨_,_,Qf,_⟩:=vV h;obtain⟨k,hk⟩:=aN hb;have:=nQ.1 (jI Qf k b hk);exact⟨this.2.1,this.2.2.2⟩
structure aBH{α:Type}(k:Nat)(P:World->(Nat->Prop)->List Value->α->Prop)(w:World)(S:Nat->Prop)(css:List (List Value))(qs:List α):Prop where
 len:css.length=qs.length
 wid:∀cs∈css,cs.length=k
 at_:∀(j:Nat) cs q,css[j]? =some cs->qs[j]? =some q->P w S cs q
section
variable{α:Type}{k:Nat}{P:World->(Nat->Prop)->List Value->α->Prop}{w w2:World}{S S':Nat->Prop}{css:List (List Value)}{qs:List α}
end
theorem I1{n:Int}(h:n.natAbs<9223372036854775807):rl (n:Rat)<=2:=by
 have h2:ln n.natAbs<=2:=Jd h;unfold rl;rw[Rat.num_intCast,Rat.den_intCast];have h3:ln 1=1:=by decide
 omega
set_option maxHeartbeats 1000000 in
theorem Bd{w:World}{vn vb vs:Value}{i:Nat}(hS:Old S w)(hf:eF w S vn vb vs f)(OZ:uh f)(hb:f.bars[i]? =some b):
  eG PG N.nV #[.agg #[vn,vb,vs],.int .i64 i] w (eL w fun v' _=>v'= .agg #[.int .i64 ((f.node b.2.1).1-(f.node b.1).1),.int .i64 ((f.node b.2.1).2.1-(f.node b.1).2.1),.int .i64 ((f.node b.2.1).2.2-(f.node b.1).2.2)]):=by
 have hw:=bR w;obtain⟨an,cn,ab,cb,aq,cq,rfl,rfl,rfl,RH,Re,SB⟩:=hf.shape;obtain⟨Ry,SK,SL⟩:=And.intro OZ.n (And.intro OZ.b OZ.s);have OU:=(aE.1 hb).1;obtain⟨hA,hB⟩:=OZ.Mv b (aD hb);obtain⟨ka,pa,ea,hka,hpa,Wf,⟨_,_⟩,⟨_,_⟩,⟨_,_⟩⟩:=OZ.node hA.1 hA.2;obtain⟨kb,pb,eb,Oc,TM,Wg,⟨_,_⟩,⟨_,_⟩,⟨_,_⟩⟩:=OZ.node hB.1 hB.2;obtain⟨adx,csx,Pq,R6,-,PO⟩:=hf.bars.load (by decide) hb;obtain⟨g0,g1,g2,g3,g4,g5,g6,g7,rfl,-⟩:=R6;obtain⟨ada,csa,haa,hPa,-,QM⟩:=hf.nodes.load (by decide) hpa;obtain⟨adb,csb,QP,hPb,-,PT⟩:=hf.nodes.load (by decide) TM;have hPa:csa=[.int .i64 pa.1,.int .i64 pa.2.1,.int .i64 pa.2.2]:=hPa;have hPb:csb=[.int .i64 pb.1,.int .i64 pb.2.1,.int .i64 pb.2.2]:=hPb;subst hPa hPb;rw[Wf,Wg];rw[ea,eb]at PO;refine r8 (by simp) ?_;refine jN hτ dx (.x 0 (.x 2 (.x 4 (.x 10 (.x 12 (.x 14 (.ld 1 12583680 (.ld 3 12583904 (.x 5 (.x 6 (.ld 7 12583680 (.x 8 (.ld 9 12582912 (.ld 11 9175040 (.ld 13 9404416 (.x 15 (.x 16 (.ld 17 9175040 (.x 18 (.ld 19 8388608 (.two 20 (.x 21 (.x 22 (.x 23 .nil))) 21 (.x 20 (.x 22 (.x 23 .nil)))))))))))))))))))))))) (by kernel_rfl) (by kernel_rfl) ?_;refine⟨adx,Pq,by omega,.int .i64 (ka:Int),fun O w' r=>?_,?_⟩
 ·obtain⟨k1,k2⟩:=PO 0 _ rfl;rw[cI (w:=w) (w2:=w') (by simp only[dC];exact(hw.tr r.cU).block _ (hS _ k1))];simp only[aF,jy]at k2 ⊢;exact k2
 refine⟨ada,haa,by omega,[.int .i64 pa.1,.int .i64 pa.2.1,.int .i64 pa.2.2],rfl,rdO QM hw hS,adx,Pq,by omega,.int .i64 (kb:Int),fun O w' r=>?_,?_⟩
 ·obtain⟨k1,k2⟩:=PO 1 _ rfl;rw[cI (w:=w) (w2:=w') (by simp only[dC];exact(hw.tr r.cU).block _ (hS _ k1))];simp only[aF,jy]at k2 ⊢;exact k2
 refine⟨adb,QP,by omega,[.int .i64 pb.1,.int .i64 pb.2.1,.int .i64 pb.2.2],rfl,rdO PT hw hS,?_,?_⟩
 ·conv=>whnf
  refine⟨[.int .i64 pb.1,.int .i64 pb.2.1,.int .i64 pb.2.2],rfl,rdO PT hw hS,rfl,.int .i64 (kb:Int),fun O w' r=>?_,?_⟩
  ·obtain⟨k1,k2⟩:=PO 1 _ rfl;rw[cI (w:=w) (w2:=w') (by simp only[dC];exact(hw.tr r.cU).block _ (hS _ k1))];simp only[aF,jy]at k2 ⊢;exact k2
  refine⟨rfl,rfl,rfl,[.int .i64 pa.1,.int .i64 pa.2.1,.int .i64 pa.2.2],rfl,rdO QM hw hS,rfl,.int .i64 (ka:Int),fun O w' r=>?_,?_⟩
  ·obtain⟨k1,k2⟩:=PO 0 _ rfl;rw[cI (w:=w) (w2:=w') (by simp only[dC];exact(hw.tr r.cU).block _ (hS _ k1))];simp only[aF,jy]at k2 ⊢;exact k2
  refine⟨rfl,rfl,rfl,[.int .i64 pb.1,.int .i64 pb.2.1,.int .i64 pb.2.2],rfl,rdO PT hw hS,rfl,.int .i64 (kb:Int),fun O w' r=>?_,?_⟩
  ·obtain⟨k1,k2⟩:=PO 1 _ rfl;rw[cI (w:=w) (w2:=w') (by simp only[dC];exact(hw.tr r.cU).block _ (hS _ k1))];simp only[aF,jy]at k2 ⊢;exact k2
  refine⟨rfl,rfl,rfl,[.int .i64 pa.1,.int .i64 pa.2.1,.int .i64 pa.2.2],rfl,rdO QM hw hS,rfl,.int .i64 (ka:Int),fun O w' r=>?_,?_⟩
  ·obtain⟨k1,k2⟩:=PO 0 _ rfl;rw[cI (w:=w) (w2:=w') (by simp only[dC];exact(hw.tr r.cU).block _ (hS _ k1))];simp only[aF,jy]at k2 ⊢;exact k2
  refine⟨rfl,rfl,rfl,[.int .i64 pb.1,.int .i64 pb.2.1,.int .i64 pb.2.2],rfl,rdO PT hw hS,rfl,.int .i64 (kb:Int),fun O w' r=>?_,?_⟩
  ·obtain⟨k1,k2⟩:=PO 1 _ rfl;rw[cI (w:=w) (w2:=w') (by simp only[dC];exact(hw.tr r.cU).block _ (hS _ k1))];simp only[aF,jy]at k2 ⊢;exact k2
  refine⟨rfl,rfl,rfl,pb.1-pa.1,wo,pb.2.1-pa.2.1,wo,pb.2.2-pa.2.2,wo,?_⟩;exact rtn hw fun ρe we re=>rfl
 ·conv=>whnf
  refine⟨[.int .i64 pb.1,.int .i64 pb.2.1,.int .i64 pb.2.2],rfl,rdO PT hw hS,rfl,.int .i64 (kb:Int),fun O w' r=>?_,?_⟩
  ·obtain⟨k1,k2⟩:=PO 1 _ rfl;rw[cI (w:=w) (w2:=w') (by simp only[dC];exact(hw.tr r.cU).block _ (hS _ k1))];simp only[aF,jy]at k2 ⊢;exact k2
  refine⟨rfl,rfl,rfl,[.int .i64 pa.1,.int .i64 pa.2.1,.int .i64 pa.2.2],rfl,rdO QM hw hS,rfl,.int .i64 (ka:Int),fun O w' r=>?_,?_⟩
  ·obtain⟨k1,k2⟩:=PO 0 _ rfl;rw[cI (w:=w) (w2:=w') (by simp only[dC];exact(hw.tr r.cU).block _ (hS _ k1))];simp only[aF,jy]at k2 ⊢;exact k2
  refine⟨rfl,rfl,rfl,[.int .i64 pb.1,.int .i64 pb.2.1,.int .i64 pb.2.2],rfl,rdO PT hw hS,rfl,.int .i64 (kb:Int),fun O w' r=>?_,?_⟩
  ·obtain⟨k1,k2⟩:=PO 1 _ rfl;rw[cI (w:=w) (w2:=w') (by simp only[dC];exact(hw.tr r.cU).block _ (hS _ k1))];simp only[aF,jy]at k2 ⊢;exact k2
  refine⟨rfl,rfl,rfl,[.int .i64 pa.1,.int .i64 pa.2.1,.int .i64 pa.2.2],rfl,rdO QM hw hS,rfl,.int .i64 (ka:Int),fun O w' r=>?_,?_⟩
  ·obtain⟨k1,k2⟩:=PO 0 _ rfl;rw[cI (w:=w) (w2:=w') (by simp only[dC];exact(hw.tr r.cU).block _ (hS _ k1))];simp only[aF,jy]at k2 ⊢;exact k2
  refine⟨rfl,rfl,rfl,[.int .i64 pb.1,.int .i64 pb.2.1,.int .i64 pb.2.2],rfl,rdO PT hw hS,rfl,.int .i64 (kb:Int),fun O w' r=>?_,?_⟩
  ·obtain⟨k1,k2⟩:=PO 1 _ rfl;rw[cI (w:=w) (w2:=w') (by simp only[dC];exact(hw.tr r.cU).block _ (hS _ k1))];simp only[aF,jy]at k2 ⊢;exact k2
  refine⟨rfl,rfl,rfl,pb.1-pa.1,wo,pb.2.1-pa.2.1,wo,pb.2.2-pa.2.2,wo,?_⟩;exact rtn hw fun ρe we re=>rfl
section
variable{S S':Nat->Prop}{H:Hp}{nx:Nat}{iv iv':Iv}{B:Nat}{w w' w2:World}{O:Nat->Sx.dw}{v:Value}{l:List (Rat×Rat)}
end
end Go.Ex
namespace Go.Ex
abbrev I3:=Int×Int×Int
def Mn(p:I3):Prop:=nE p.1∧nE p.2.1∧nE p.2.2
instance (p : I3) : Decidable (Mn p) := by unfold Mn; infer_instance
end Go.Ex
namespace Go.Ex
open Go Go.Sx Go.Proofs
end Go.Ex
namespace Go.Sx
open Go Go.Ex Go.Proofs
variable{vs:List Value}{O:Nat->Sx.dw}
theorem Sub.aAx{B nx:Nat}{l:Env}{H:Hp}{iv:Iv}{w w':World}{t:yv}(id:Nat){bt:Nat}(PV:dD H id=some (.box bt (vs.map At.v)))(r:Rel H nx iv B w O w')
  (h:Rel ((id,.arr bt vs)::H) nx iv B w O w'->Sx.Sub B l nx O w' t):Sx.Sub B l nx O w' t:=by
 have WB:=r.nn id _ PV (by intros;simp) (by simp);have PC:=r.box id bt _ PV;have R7:(vs.map At.v).map (At.den O)=vs:=by
  rw[List.map_map];exact List.map_id _
 rw[R7]at PC
 exact h (r.store (b':=.arr bt vs) (H':=(id,.arr bt vs)::H) (w2:=w') PV (by simp) WB (fun j=>by
  rw[dB];by_cases hj:id=j
  ·subst hj;simp
  ·rw[aJ hj,aJ (fun h=>hj h.symm)]) rfl rfl rfl rfl (fun _ _=>rfl) ⟨WB,PC⟩ trivial)
end Go.Sx
namespace Go.Ex
open Go Go.Sx Go.Proofs
abbrev aAa(x:Ld):Value:=.agg #[.int .i64 x.1,.int .i64 x.2.1,.int .i64 x.2.2.1,.int .i64 x.2.2.2]
end Go.Ex
namespace Go.Ex
open Go Go.Sx Go.Proofs
theorem Je(x:Ld)(w:World):eG PG N.uE #[aAa x] w (eL w fun v' _=>∃d,v'= .bool d∧(d=true↔Mn x.2)):=by
 have hw:=bR w;obtain⟨x0,x1,x2,x3⟩:=x;refine xp (by simp) ?_;refine cH (cE hw (fun _ w' v w2=>∃d,v= .bool d∧(d=true↔ -1000000<=x1∧x1<=1000000)) (fun O w' r=>lu _ _ _ w') ?_);rintro O _ _ _ Og r he hw h_ ⟨d0,rfl,Ok⟩
 cases d0
 ·have Ok:¬nE x1:=fun h=>by have:=Ok.2 h;cases this
  exact rtn hw fun ρe we re=>⟨_,rfl,(fun h=>by cases h),fun h=>absurd h.1 Ok⟩
 replace Ok:nE x1:=Ok.1 rfl;refine cH (cE hw (fun _ w' v w2=>∃d,v= .bool d∧(d=true↔ -1000000<=x2∧x2<=1000000)) (fun O w' r=>lu _ _ _ w') ?_);rintro O _ _ _ OX r he hw h_ ⟨d1,rfl,Ov⟩
 cases d1
 ·have Ov:¬nE x2:=fun h=>by have:=Ov.2 h;cases this
  exact rtn hw fun ρe we re=>⟨_,rfl,(fun h=>by cases h),fun h=>absurd h.2.1 Ov⟩
 replace Ov:nE x2:=Ov.1 rfl;refine cH (cE hw (fun _ w' v w2=>∃d,v= .bool d∧(d=true↔ -1000000<=x3∧x3<=1000000)) (fun O w' r=>lu _ _ _ w') ?_);rintro O _ _ _ Oh r he hw h_ ⟨d2,rfl,Ps⟩
 cases d2
 ·have Ps:¬nE x3:=fun h=>by have:=Ps.2 h;cases this
  exact rtn hw fun ρe we re=>⟨_,rfl,(fun h=>by cases h),fun h=>absurd h.2.2 Ps⟩
 replace Ps:nE x3:=Ps.1 rfl;exact rtn hw fun ρe we re=>⟨_,rfl,fun _=>⟨Ok,Ov,Ps⟩,fun _=>rfl⟩
section
variable{S S':Nat->Prop}{H:Hp}{nx:Nat}{iv iv':Iv}{B:Nat}{w w' w2:World}{O:Nat->Sx.dw}{v:Value}{l:List Ld}
end
end Go.Ex
namespace Go.Ex
variable{d:Int}{b:Int×Int×Rat}{M:List (List Rat)}{l x0 φ:List Rat}{K c n:Nat}{x y:Nat->Rat}{D:Rat}{f:eu}
theorem yV{a b:Rat}(ha:a≠0)(hb:b≠0):a*b≠0:=fun e=>by
 rcases Rat.mul_eq_zero.1 e with h|h
 ·exact ha h
 ·exact hb h
def Den(K:Nat)(D:Rat)(l:List Rat):Prop:=D≠0∧Ib K D∧∀t,Ib K (D*l.getD t 0)
def Gs(K:Nat)(D:Rat)(M:List (List Rat)):Prop:=D≠0∧Ib K D∧∀k t,Ib K (D*dK M k t)
theorem Den.rl(h:Den K D l):∀q∈l,rl q<=ln K:=fun q hq=>by
 obtain⟨j,hj⟩:=aN hq;have:=yU h.1 h.2.1 (h.2.2 j)
 rwa [List.getD,hj]at this
theorem Gs.rl(h:Gs K D M):∀r∈M,∀q∈r,rl q<=ln K:=fun r hr q hq=>by
 obtain⟨k,hk⟩:=aN hr;obtain⟨j,hj⟩:=aN hq;have:=yU h.1 h.2.1 (h.2.2 k j)
 rwa [dK,show M.getD k []=r by rw[List.getD,hk];rfl,List.getD,hj]at this
theorem jt{t:Nat}(h:l.length<=t):l.getD t 0=0:=by rw[List.getD,List.getElem?_eq_none h];rfl
theorem Ms{k t:Nat}(hM:gX n M)(h:n<=t):dK M k t=0:=by
 rw[dK];rcases aS k M.length with hk|hk
 ·exact jt (by rw[hM.getD hk];exact h)
 ·rw[show M.getD k []=[] by rw[List.getD,List.getElem?_eq_none hk];rfl];rfl
theorem Ku{k t:Nat}(h:M.length<=k):dK M k t=0:=by
 rw[dK,show M.getD k []=[] by rw[List.getD,List.getElem?_eq_none h];rfl];rfl
section
variable{M:List (List Rat)}{n B:Nat}{b:List Rat}
theorem IH(hM:gX n M)(hW:DM M n B)(hB:1<=B)(hc:c<=n):∃D:Rat,D≠0∧Ib (fB B M.length) D∧∀i t,i<(cN M c).2.length->t<n->Ib (fB B M.length) (D*dK (cN M c).1 i t):=by
 obtain⟨σ,Z,h⟩:=pz hM hW c hc;have hle:=h.red.2.1;rw[h.len]at hle;have hm:=rH hB hle;exact⟨_,h.zc.nz,h.zc.den.mono hm,fun i t hi ht=>(h.zc.ent hi ht).mono hm⟩
theorem II(hM:gX n M)(hW:DM M n B)(hB:1<=B):∃D,Gs (fB B M.length) D (cX M n):=by
 obtain⟨D,h0,hD,hE⟩:=IH hM hW hB (Nat.le_refl n);obtain⟨r1,r2,r3,r4,r5⟩:=eX hM n (Nat.le_refl _);have Qq:=jS M n;refine⟨D,h0,hD,fun k t=>?_⟩;rcases aS k (cX M n).length with hk|hk
 ·rcases aS t n with ht|ht
  ·have hf:=lW.1 (pw (by rw[<-nP];exact hk));rw[dK,zf M n hk];generalize (jX (cN M n).2 n).getD k 0=c at hf;by_cases hp:t∈(cN M n).2
   ·obtain⟨j,hj,rfl⟩:=sZ hp;rw[oN (F:=fo (cN M n).1 (cN M n).2 n c) (f:=fun i=> -(dK (cN M n).1 i c)) (fun i=>gI _ _ n c i) (j3 _ _ n c) Qq.2.1 r4 _ (Nat.le_refl _) hj,show D* -(dK (cN M n).1 j c)= -(D*dK (cN M n).1 j c) by grind];exact(hE j c hj hf.1).neg
   ·rw[pt hp hf.1];split
    ·rw[Rat.mul_one];exact hD
    ·rw[bD];exact Ib.zero _
  ·rw[Ms (jG M n) ht,bD];exact Ib.zero _
 ·rw[Ku hk,bD];exact Ib.zero _
theorem FH{x:List Rat}(hM:gX n M)(hW:DM (eE M b) (n+1) B)(hB:1<=B)(h:fz M b n=some x):∃D,Den (fB B M.length) D x:=by
 obtain⟨D,h0,hD,hE⟩:=IH (jE (b:=b) hM) hW hB (Nat.le_succ n);rw[fP]at hD hE;obtain⟨r1,r2,r3,r4,r5⟩:=eX (jE (b:=b) hM) n (Nat.le_succ _);have Qq:=jS (eE M b) n;unfold fz at h;dsimp only at h;split at h
 ·injection h with h;subst h;refine⟨D,h0,hD,fun t=>?_⟩;by_cases hp:t∈(cN (eE M b) n).2
  ·obtain⟨j,hj,rfl⟩:=sZ hp;rw[oN (F:=fD (cN (eE M b) n).1 (cN (eE M b) n).2 n) (f:=fun i=>dK (cN (eE M b) n).1 i n) (fun i=>gJ _ _ n i) (j4 _ _ n) Qq.2.1 r4 _ (Nat.le_refl _) hj];exact hE j n hj (by omega)
  ·rw[tf hp,bD];exact Ib.zero _
 ·cases h
end
def mP(φ:List Rat):Nat->Rat
 |0=>1
 |t+1=>mP φ t*((φ.getD t 0).den:Rat)
theorem FI(φ:List Rat):∀k,mP φ k≠0
 |0=>by show(1:Rat)≠0;decide
 |k+1=>yV (FI φ k) (by have:=(φ.getD k 0).den_nz;exact_mod_cast this)
theorem zi{φ:List Rat}{B:Nat}(h:∀t,(φ.getD t 0).den<=B):∀k,Ib (B^k) (mP φ k)
 |0=>Ib.one (Nat.le_refl _)
 |k+1=>by
  rw[Nat.pow_succ];exact(zi h k).mul ⟨((φ.getD k 0).den:Int),rfl,by rw[Int.natAbs_natCast];exact h k⟩
theorem Mt(q:Rat):(q.den:Rat)*q=(q.num:Rat):=by
 have h:=Rat.num_divInt_den q;have h0:((q.den:Int):Rat)≠0:=by have:=q.den_nz;exact_mod_cast this
 rw[Rat.divInt_eq_div]at h;have h1:(q.num:Rat) / ((q.den:Int):Rat)*((q.den:Int):Rat)=(q.num:Rat):=Rat.div_mul_cancel h0;rw[h,bs]at h1;exact h1
theorem CM{φ:List Rat}{B:Nat}(h:∀t,(φ.getD t 0).den<=B)(hn:∀t,(φ.getD t 0).num.natAbs<=B)(hB:1<=B):∀k t,t<k->Ib (B^k) (mP φ k*φ.getD t 0)
 |0,t,ht=>by omega
 |k+1,t,ht=>by
  rw[mP,Nat.pow_succ];rcases aS t k with h1|h1
  ·rw[show ∀a b c:Rat,a*b*c=(a*c)*b from fun a b c=>by grind];exact(CM h hn hB k t h1).mul ⟨((φ.getD k 0).den:Int),rfl,by rw[Int.natAbs_natCast];exact h k⟩
  ·rw[show t=k by omega,Rat.mul_assoc,Mt];exact(zi h k).mul (Ib.int (hn k))
theorem oU{l:Nat}:1<=wt l:=zD l
theorem Nr{q:Rat}{l:Nat}(h:rl q<=l):q.num.natAbs<wt l∧q.den<wt l:=⟨gT.1 (aX (gP q) h),gT.1 (aX (aAI q) h)⟩
theorem Kv(l k:Nat):wt l^k=wt (l*k):=by rw[vO,vO,<-Nat.pow_mul,bg]
theorem Kw(hl:φ.length<=n)(h:∀q∈φ,rl q<=3):Den (wt (3*n)) (mP φ n) φ:=by
 have h3:∀t,rl (φ.getD t 0)<=3:=fun t=>by
  rw[List.getD]
  cases ht:φ[t]? with
  |none=>show rl 0<=3;decide
  |some q=>exact h q (aD ht)
 have h1:∀t,(φ.getD t 0).den<=wt 3:=fun t=>Nat.le_of_lt (Nr (h3 t)).2;have h2:∀t,(φ.getD t 0).num.natAbs<=wt 3:=fun t=>Nat.le_of_lt (Nr (h3 t)).1;refine⟨FI φ n,by rw[<-Kv];exact zi h1 n,fun t=>?_⟩;rcases aS t n with ht|ht
 ·rw[<-Kv];exact CM h1 h2 oU n t ht
 ·rw[jt (by omega),bD];exact Ib.zero _
theorem getD_some{α:Type}{l:List α}{i:Nat}{x d:α}(h:l[i]? =some x):l.getD i d=x:=by rw[List.getD,h];rfl
structure DN(M:List (List Rat))(n:Nat)(φ:Nat->Rat):Prop where
 len:gX n M
 pos:∀t,t<n->0<=φ t
 aA3:∀x:Nat->Rat,(∀j,j<M.length->mulR M n x j=0)->dJ (fun t=>φ t*(x t*x t)) n=0->∀t,t<n->x t=0
theorem FJ(M:List (List Rat))(n:Nat)(x y:Nat->Rat)(j:Nat):mulR M n (fun t=>x t+y t) j=mulR M n x j+mulR M n y j:=by
 unfold mulR;rw[<-iI];exact cR fun t _=>by grind
theorem Kx(M:List (List Rat))(n:Nat)(x:Nat->Rat)(c:Rat)(j:Nat):mulR M n (fun t=>c*x t) j=c*mulR M n x j:=by
 unfold mulR;rw[<-e8];exact cR fun t _=>by grind
theorem FK(M:List (List Rat))(n:Nat)(S:Mx)(c:Nat->Rat)(j s:Nat):mulR M n (fun t=>dJ (fun k=>c k*S k t) s) j=dJ (fun k=>c k*mulR M n (S k) j) s:=by
 induction s with
 |zero=>exact(cR (g:=fun _=>0) fun t _=>bD _).trans (eM n)
 |succ s ih=>
  show mulR M n (fun t=>dJ (fun k=>c k*S k t) s+c s*S s t) j=dJ (fun k=>c k*mulR M n (S k) j) s+c s*mulR M n (S s) j;rw[FJ,Kx,ih]
theorem Gt(h:∀t,t<n->x t=y t)(j:Nat):mulR M n x j=mulR M n y j:=cR fun t ht=>by rw[h t ht]
def yW(φ x y:Nat->Rat)(n:Nat):Rat:=dJ (fun t=>φ t*(x t*y t)) n
theorem zj(φ x y:Nat->Rat)(n:Nat):yW φ x y n=yW φ y x n:=cR fun t _=>by grind
theorem IJ(φ x y z:Nat->Rat)(n:Nat):yW φ x (fun t=>y t+z t) n=yW φ x y n+yW φ x z n:=by
 unfold yW;rw[<-iI];exact cR fun t _=>by grind
theorem yX(φ x:Nat->Rat)(S:Mx)(c:Nat->Rat)(n s:Nat):yW φ x (fun t=>dJ (fun k=>c k*S k t) s) n=dJ (fun k=>c k*yW φ x (S k) n) s:=by
 unfold yW;rw[cR (g:=fun t=>dJ (fun k=>c k*(φ t*(x t*S k t))) s) fun t _=>by rw[<-e8,<-e8];exact cR fun k _=>by grind,nN];exact cR fun k _=>by rw[e8]
theorem CN{φ x' y':Nat->Rat}(h1:∀t,t<n->x t=x' t)(h2:∀t,t<n->y t=y' t):yW φ x y n=yW φ x' y' n:=cR fun t ht=>by rw[h1 t ht,h2 t ht]
section
variable{M:List (List Rat)}{n:Nat}{φ:Nat->Rat}{b:List Rat}
def IK(M:List (List Rat))(n:Nat)(φ:Nat->Rat)(i j:Nat):Rat:=yW φ (dK (cX M n) i) (dK (cX M n) j) n
theorem DN.Ky(h:DN M n φ){c:Nat->Rat}(hc:∀i,i<(cX M n).length->dJ (fun j=>IK M n φ i j*c j) (cX M n).length=0):∀i,i<(cX M n).length->c i=0:=by
 obtain⟨y,hy⟩:∃y:Nat->Rat,y=fun t=>dJ (fun k=>c k*dK (cX M n) k t) (cX M n).length:=⟨_,rfl⟩
 have hnull:∀j,j<M.length->mulR M n y j=0:=fun j hj=>by
  rw[hy,FK,cR (g:=fun _=>0) fun k hk=>by rw[zg h.len hk j hj,bD],eM]
 have hw:∀i,i<(cX M n).length->yW φ (dK (cX M n) i) y n=0:=fun i hi=>by
  rw[hy,yX,<-hc i hi];exact cR fun k _=>bs _ _
 have h0:yW φ y y n=0:=by
  have:yW φ y y n=dJ (fun k=>c k*yW φ y (dK (cX M n) k) n) (cX M n).length:=by
   rw[<-yX,<-hy]
  rw[this,cR (g:=fun _=>0) fun k hk=>by rw[zj,hw k hk,bD],eM]
 exact Mr (M:=M) fun t ht=>by
  have:=h.aA3 y hnull h0 t ht;rw[hy]at this;exact this
theorem DN.only(h:DN M n φ)(hx:∀j,j<M.length->mulR M n x j=0)(hs:∀k,k<(cX M n).length->yW φ (dK (cX M n) k) x n=0):∀t,t<n->x t=0:=by
 obtain⟨c,hc⟩:=IG h.len hx;have h0:yW φ x x n=0:=by
  rw[CN (x':=x) (fun _ _=>rfl) hc,yX,cR (g:=fun _=>0) fun k hk=>by rw[zj,hs k hk,bD],eM]
 exact h.aA3 x hx h0
structure zk(M:List (List Rat))(n:Nat)(φ:Nat->Rat)(b x:List Rat):Prop where
 len:x.length=n
 eq:∀j,j<M.length->mulR M n (fun t=>x.getD t 0) j=b.getD j 0
 st:∀k,k<(cX M n).length->yW φ (dK (cX M n) k) (fun t=>x.getD t 0) n=0
theorem DN.one(h:DN M n φ){x y:List Rat}(hx:zk M n φ b x)(hy:zk M n φ b y):x=y:=by
 refine iA 0 (by rw[hx.len,hy.len]) fun t ht=>?_;rw[hx.len]at ht
 have:=h.only (x:=fun t=>x.getD t 0-y.getD t 0) (fun j hj=>by rw[Kr,hx.eq j hj,hy.eq j hj];grind) (fun k hk=>by
  rw[show (fun t=>x.getD t 0-y.getD t 0)=fun t=>x.getD t 0+(-1)*y.getD t 0 from funext fun t=>by grind,IJ,hx.st k hk];have h2:=hy.st k hk;unfold yW at h2 ⊢;rw[cR (f:=fun t=>φ t*(dK (cX M n) k t*(-1*y.getD t 0))) (g:=fun t=>(-1)*(φ t*(dK (cX M n) k t*y.getD t 0))) fun t _=>by grind,e8,h2]
  grind) t ht
 grind
end
theorem k7(x y:List Rat)(n:Nat):dT x y n=dJ (fun t=>x.getD t 0*y.getD t 0) n:=oQ x y n
theorem zl{a b:List Rat}{t:Nat}(ht:t<a.length):(mO a b).getD t 0=a.getD t 0*b.getD t 0:=by
 have h:=aA ht;rw[getD_some h];exact getD_some (by rw[mO,List.getElem?_mapIdx,h];rfl)
section
variable{M:List (List Rat)}{n:Nat}{fl b:List Rat}
theorem vT(M:List (List Rat))(n:Nat)(fl:List Rat){i j:Nat}(hi:i<(cX M n).length)(hj:j<(cX M n).length):dK (ee (cX M n) fl) i j=IK M n (fun t=>fl.getD t 0) i j:=by
 have hr:=aA hi;have hs:=aA hj;have hl:((cX M n)[i]).length=n:=jG M n _ (ah hi);have h1:(ee (cX M n) fl)[i]? =some ((cX M n).map fun r=>dT (mO (cX M n)[i] fl) r (cX M n)[i].length):=by rw[ee,aM,hr];rfl
 have h2:((cX M n).map fun r=>dT (mO (cX M n)[i] fl) r (cX M n)[i].length)[j]? =some (dT (mO (cX M n)[i] fl) (cX M n)[j] (cX M n)[i].length):=by rw[aM,hs];rfl
 rw[dK,getD_some h1,getD_some h2,oQ,hl];refine cR fun t ht=>?_;rw[zl (by omega),dK,dK,getD_some hr,getD_some hs];grind
theorem oV(st:List (List Rat))(fl:List Rat):gX st.length (ee st fl):=fun r hr=>by
 obtain⟨s,hs,rfl⟩:=aV.1 hr;rw[aL]
theorem FL(M:List (List Rat))(n:Nat)(fl x:List Rat){i:Nat}(hi:i<(cX M n).length):(hJ (cX M n) fl x).getD i 0= -(yW (fun t=>fl.getD t 0) (dK (cX M n) i) (fun t=>x.getD t 0) n):=by
 have hr:=aA hi;have hl:((cX M n)[i]).length=n:=jG M n _ (ah hi);have h1:(hJ (cX M n) fl x)[i]? =some (-(dT (mO (cX M n)[i] fl) x (cX M n)[i].length)):=by rw[hJ,aM,hr];rfl
 rw[getD_some h1,oQ,hl];congr 1;refine cR fun t ht=>?_;rw[zl (by omega),dK,getD_some hr];grind
theorem rJ(st:List (List Rat))(c x:List Rat):∀i,(lY st c x i).length=x.length
 |0=>rfl
 |i+1=>by rw[lY,List.length_mapIdx,rJ st c x i]
theorem zm(st:List (List Rat))(c x:List Rat){t:Nat}(ht:t<x.length):∀i,(lY st c x i).getD t 0=x.getD t 0+dJ (fun k=>c.getD k 0*dK st k t) i
 |0=>(bQ _).symm
 |i+1=>by
  have hl:t<(lY st c x i).length:=by rw[rJ];exact ht
  have ih:=zm st c x ht i;rw[getD_some (aA hl)]at ih;rw[getD_some (show (lY st c x (i+1))[t]? =some ((lY st c x i)[t]+c.getD i 0*(st.getD i []).getD t 0) by rw[lY,List.getElem?_mapIdx,aA hl];rfl),ih,dJ,Rat.add_assoc];rfl
theorem DN.force(h:DN M n fun t=>fl.getD t 0)(h0:fz M b n=some x0):∃c,fz (ee (cX M n) fl) (hJ (cX M n) fl x0) (cX M n).length=some c∧c.length=(cX M n).length∧
  zk M n (fun t=>fl.getD t 0) b (lY (cX M n) c x0 (cX M n).length):=by
 obtain⟨Sl,RG⟩:=oT h.len h0;have hG:=oV (cX M n) fl;have hGl:(ee (cX M n) fl).length=(cX M n).length:=aL _;have hc:∃c,fz (ee (cX M n) fl) (hJ (cX M n) fl x0) (cX M n).length=some c:=by
  cases e:fz (ee (cX M n) fl) (hJ (cX M n) fl x0) (cX M n).length with
  |some c=>exact⟨c,rfl⟩
  |none=>
   obtain⟨y,y1,y2⟩:=s7 hG e;rw[hGl]at y1 y2;have hy:=h.Ky (c:=y) fun i hi=>Eq.trans (cR fun j hj=>by rw[vT M n fl hj hi,bs];unfold IK;rw[zj]) (y1 i hi);exact absurd (by rw[cR (g:=fun _=>0) fun j hj=>by rw[hy j hj,bI],eM]) y2
 obtain⟨c,hc⟩:=hc;obtain⟨c1,c2⟩:=oT hG hc;refine⟨c,hc,c1,by rw[rJ];exact Sl,fun j hj=>?_,fun k hk=>?_⟩
 ·rw[Gt (y:=fun t=>x0.getD t 0+dJ (fun k=>c.getD k 0*dK (cX M n) k t) (cX M n).length) fun t ht=>zm _ c x0 (by omega) _,FJ,FK,RG j hj,cR (g:=fun _=>0) fun k hk=>by rw[zg h.len hk j hj,bD],eM,bQ]
 ·rw[CN (x':=dK (cX M n) k) (y':=fun t=>x0.getD t 0+dJ (fun k=>c.getD k 0*dK (cX M n) k t) (cX M n).length) (fun _ _=>rfl) fun t ht=>zm _ c x0 (by omega) _,IJ,yX];have h2:=c2 k (by omega);rw[FL M n fl x0 hk]at h2;unfold mulR at h2;rw[cR (g:=fun t=>c.getD t 0*yW (fun t=>fl.getD t 0) (dK (cX M n) k) (dK (cX M n) t) n) fun t ht=>by rw[vT M n fl hk ht,bs];rfl]at h2;rw[h2];grind
end
def ez(M:List (List Int))(r c:Nat):Int:=(M.getD r []).getD c 0
theorem getD_set_ne{α:Type}{l:List α}{i j:Nat}{x d:α}(h:i≠j):(l.set i x).getD j d=l.getD j d:=by rw[List.getD,aY h,<-List.getD]
theorem mQ{α:Type}{l:List α}{i:Nat}{x d:α}(h:i<l.length):(l.set i x).getD i d=x:=by rw[List.getD,aQ h];rfl
theorem j5{M:List (List Int)}{r r' c':Nat}(h:r'≠r∨c'≠c):ez (putAt M r c d) r' c'=ez M r' c':=by
 unfold ez putAt;by_cases h1:r'=r
 ·subst h1;have h2:c≠c':=h.elim (fun h=>absurd rfl h) fun h=>h.symm;rcases aS r' M.length with h3|h3
  ·rw[mQ h3,getD_set_ne h2]
  ·rw[List.set_eq_of_length_le h3]
 ·rw[getD_set_ne (Ne.symm h1)]
theorem FM{M:List (List Int)}{r:Nat}(hr:r<M.length)(hc:c<(M.getD r []).length):ez (putAt M r c d) r c=d:=by
 unfold ez putAt;rw[mQ hr,mQ hc]
theorem iJ(M:List (List Int))(r c:Nat)(d:Int):tt M r c d=putAt M r c (ez M r c+d):=rfl
theorem DO{i:Nat}(hb:f.bars[i]? =some b):f.bars.getD i (0,0,0)=b:=by rw[List.getD,hb];rfl
theorem vU{f:eu}{M:List (List Int)}{i c r:Nat}(h:c≠i):∀k,ez (e9 f M i k) r c=ez M r c
 |0=>rfl
 |k+1=>by
  rw[e9];rw[iJ,j5 (.inr h),iJ,j5 (.inr h)];exact vU h k
theorem mR(f:eu){r c:Nat}:∀i,i<=c->ez (dm f i) r c=0
 |0,_=>by
  unfold ez dm;rcases aS r (3*f.nodes.length)with h|h
  ·rw[show (List.replicate (3*f.nodes.length) (List.replicate f.cols (0:Int))).getD r []=List.replicate f.cols 0 by rw[List.getD,List.getElem?_replicate,if_pos h];rfl,List.getD,List.getElem?_replicate];split<;>rfl
  ·rw[show (List.replicate (3*f.nodes.length) (List.replicate f.cols (0:Int))).getD r []=[] by rw[List.getD,List.getElem?_replicate,aJ (by omega)];rfl];rfl
 |i+1,h=>by rw[dm,vU (by omega)];exact mR f i (by omega)
theorem toNat_add{a:Int}{k ka:Nat}(h:a=ka):(3*a+(k:Int)).toNat=3*ka+k:=by omega
theorem CO{f:eu}{M:List (List Int)}{i r ka kb:Nat}{b:Int×Int×Rat}(hb:f.bars[i]? =some b)(ea:b.1=ka)(eb:b.2.1=kb):∀k,k<=3->k<=r % 3->ez (e9 f M i k) r i=ez M r i
 |0,_,_=>rfl
 |k+1,h3,h=>by
  rw[e9];rw[DO hb,toNat_add ea,toNat_add eb,iJ,j5 (.inl (by omega)),iJ,j5 (.inl (by omega))];exact CO hb ea eb k (by omega) (by omega)
theorem oW{i r ka kb k:Nat}(hb:f.bars[i]? =some b)(ea:b.1=ka)(eb:b.2.1=kb)(hk:k<=3)(h:k<=r % 3):ez (e9 f (dm f i) i k) r i=0:=by
 rw[CO hb ea eb k hk h];exact mR f i (Nat.le_refl _)
theorem zn{f:eu}{r c:Nat}(h:c<f.bars.length):∀k,ez (fN f k) r c=ez (dm f f.bars.length) r c
 |0=>rfl
 |k+1=>by
  rw[fN];rw[j5 (.inr (by omega))];exact zn h k
theorem xB{f:eu}{r i:Nat}:∀k,k<=i->ez (fN f k) r (f.bars.length+i)=0
 |0,_=>mR f _ (by omega)
 |k+1,h=>by
  rw[fN];rw[j5 (.inr (by omega))];exact xB k (by omega)
def gZ(s:Int×Int×Rat):Nat:=(3*s.1+s.2.1).toNat
theorem CP{f:eu}(hw:∀k,∀l∈fN f k,l.length=f.cols)(hlen:∀k,(fN f k).length=3*f.nodes.length)(OV:∀s∈f.cY,gZ s<3*f.nodes.length){r i:Nat}{s:Int×Int×Rat}(hs:f.cY[i]? =some s):
  ∀k,i<k->ez (fN f k) r (f.bars.length+i)=if r=gZ s then 1 else 0
 |0,h=>by omega
 |k+1,h=>by
  rw[fN];rcases aS i k with h1|h1
  ·rw[j5 (.inr (by omega))];exact CP hw hlen OV hs k h1
  ·have:i=k:=by omega
   subst this;have hg:f.cY.getD i (0,0,0)=s:=by rw[List.getD,hs];rfl
   have Ul:=OV s (aD hs);have hi:=(aE.1 hs).1;rw[hg];by_cases h2:r=gZ s
   ·rw[if_pos h2,h2];have hm:gZ s<(fN f i).length:=by rw[hlen];exact Ul
    exact FM hm (by
     show f.bars.length+i<((fN f i).getD (gZ s) []).length;rw[List.getD,aA hm];show f.bars.length+i<((fN f i)[gZ s]).length;rw[hw i _ (ah hm),eu.cols]
     omega)
   ·rw[aJ h2];exact(j5 (r:=gZ s) (.inl h2)).trans (xB i (Nat.le_refl _))
end Go.Ex
namespace Go.Ex
open Go Go.Sx Go.Proofs
end Go.Ex
namespace Go.Sx
open Go Go.Ex Go.Proofs
variable{cs:List Value}{O:Nat->Sx.dw}
theorem Rel.Lp{H:Hp}{nx:Nat}{iv:Iv}{B:Nat}{w w':World}(r:Rel H nx iv B w O w'){id t m sz:Nat}(h:dD H id=some (.vec t sz cs))(hm:cs.length=m*sz)(Qx:m<=maxLen)(hs:0<sz)(h1:∀u∈cs,u.oneCell'=true):
  iR w' (Cv FF B (kJ (O id) iv)) sz ((At.w id m).den O) cs m:=by
 rcases r.fits h with⟨hn,rfl⟩|⟨hn,spare,h2,h3,h4⟩
 ·have Sm:m=0:=by
   rcases bN m with h|h
   ·exact h
   ·have:=Nat.mul_pos h hs;simp at hm;omega
  subst Sm;have R7:(At.w id 0).den O= .slice none 0 0:=by simp[At.den,hn]
  rw[R7];exact⟨aR _,by simp,by simp,none,0,rfl,Nat.le_refl _,fun j u h=>by cases h⟩
 ·have R7:(At.w id m).den O= .slice (some ⟨(O id).g,0,none⟩) m (O id).cap:=by simp[At.den,hn]
  rw[R7];have Oa:=r.low id _ h hn;refine⟨Qx,hm,h1,_,_,rfl,?_,fun j u hu=>⟨_,rfl,.inr ⟨Oa.1,_,_,Ee hn,Nat.le_refl _,bY _⟩,?_⟩⟩
  ·rw[List.length_append,hm]at h3;exact bw (show m*sz<=(O id).cap*sz by omega) hs
  ·rw[dI,cell_of h2,aW,aK (aE.1 hu).1];exact hu
end Go.Sx
namespace Go.Ex
open Go Go.Sx Go.Proofs
variable{b:Int×Int×Rat}{S:Nat->Prop}{f:eu}
theorem NM{i k ka kb:Nat}{d:Int}{la lb:List Int}(hb:f.bars[i]? =some b)(ea:b.1=ka)(eb:b.2.1=kb)(QP:ka≠kb)(hk:k<3)(hd:(s5 f b).getD k 0=d)
  (QM:(e9 f (dm f i) i k)[3*ka+k]? =some la) (PT:((e9 f (dm f i) i k).set (3*ka+k) (la.set i d))[3*kb+k]? =some lb):
  ((e9 f (dm f i) i k).set (3*ka+k) (la.set i d)).set (3*kb+k) (lb.set i (-d))=e9 f (dm f i) i (k+1):=by
 have z1:=oW (r:=3*ka+k) hb ea eb (show k<=3 by omega) (by omega);have z2:=oW (r:=3*kb+k) hb ea eb (show k<=3 by omega) (by omega);have hga:(e9 f (dm f i) i k).getD (3*ka+k) []=la:=by rw[List.getD,QM];rfl
 have hgb:((e9 f (dm f i) i k).set (3*ka+k) (la.set i d)).getD (3*kb+k) []=lb:=by rw[List.getD,PT];rfl
 have e1:tt (e9 f (dm f i) i k) (3*ka+k) i d=(e9 f (dm f i) i k).set (3*ka+k) (la.set i d):=by
  rw[iJ,z1,Int.zero_add,putAt,hga]
 rw[e9];rw[DO hb,hd,toNat_add ea,toNat_add eb,e1,tt,hgb];have z3:lb.getD i 0=0:=by
  rw[<-hgb,getD_set_ne (show 3*ka+k≠3*kb+k by omega)];exact z2
 rw[z3,Int.zero_add]
set_option maxHeartbeats 2000000 in
theorem Jf{w:World}{vn vb vs:Value}(hS:Old S w)(hf:eF w S vn vb vs f)(Ou:eY f=0):
  eG PG N.uC #[.agg #[vn,vb,vs]] w (eL w fun v' w2=>kV w2 (Nf w w2) v' (gY f)∧HO (gY f) 2000000):=by
 have hw:=bR w;have OZ:=lC Ou;obtain⟨an,cn,ab,cb,aq,cq,rfl,rfl,rfl,RH,Re,SB⟩:=hf.shape;obtain⟨Ry,SK,SL⟩:=And.intro OZ.n (And.intro OZ.b OZ.s);have Pw:f.cols=f.bars.length+f.cY.length:=rfl;obtain⟨m,hm⟩:∃m,3*f.nodes.length=m:=⟨_,rfl⟩
 refine xn (by simp) ?_
 refine⟨Nat×List Value×World×Iv,fun z=>⟨[(1,pP 0 0),(3,.o (.w 1 z.2.1.length)),(4,iN z.1)],[(1,.vec T.Lint 1 z.2.1),(0,.box T.Frame [.v (.slice an f.nodes.length cn),.v (.slice ab f.bars.length cb),.v (.slice aq f.cY.length cq)])],2,z.2.2.2,z.2.2.1⟩,fun z=>m-z.1,
  fun z=>z.1<=m∧z.2.1.length=z.1∧dq w.heap.size w z.2.2.1∧iS z.2.2.1 w.heap.size z.2.2.2 z.2.1 f.cols (List.replicate z.1 (List.replicate f.cols 0)),?_,?_⟩
 ·intro O w' r3;exact⟨(0,[],w',[]),⟨aR _,rfl,hw.tr r3.cU,iS.nil⟩,Sub.nil 3 T.Lint 1 rfl (by simp[kF,SV.sc,At.sc,fm]) r3 fun ρ1 r1=>Sub.gn [] r1⟩
 clear hw;rintro⟨i,rv,w1,iv⟩ ⟨hi,Pm,hw,hE⟩;dsimp only at hi Pm hw hE ⊢;refine⟨(m:Int),wo,?_⟩;refine dN.mk ?_ ?_<;>intro OU
 ·have OU:i<m:=by simpa using OU
  refine cH (cE hw (fun _ w' v w2=>v= .int .i64 f.cols) (fun O w' r=>ql (hf.cJ (kS hw r hS)) ⟨SK,SL⟩) ?_);rintro O _ _ _ Og r he hw h_ rfl;have Us:=iS.cK hE r he (mC h_);clear r;clear hE;refine⟨f.cols,f.cols,rfl,rfl,Nat.le_refl _,by omega,by omega,?_⟩;refine oF hτ (id3:=3) (id2:=2) (tH:=[(1,.vec T.Lint 1 rv),(0,.box T.Frame [.v (.slice an f.nodes.length cn),.v (.slice ab f.bars.length cb),.v (.slice aq f.cY.length cq)])]) rfl rfl rfl rfl (by simp) ⟨rfl,rfl,trivial⟩ rfl rfl (fun O w' r r2 SN=>?_);have hn:=(r.fits (id:=2) rfl).1;have OV:w'.ownsRow 0 T.int 1 (.slice (some ⟨(O 2).g,0,none⟩) f.cols f.cols) f.cols ((List.replicate f.cols (0:Int)).map fun z=>.int .i64 z):=
   ⟨by simp,.inr ⟨(O 2).g,f.cols,(List.replicate f.cols (Value.int .i64 0)).toArray,rfl,aR _,r.arr 2 _ _ rfl,Nat.le_refl _,by unfold maxLen;omega,by simp,by simp⟩⟩
  have PB:=(Us.rel r).push (gx:=(O 2).g) (l:=List.replicate f.cols 0) (fun g hg e=>Rel.not r (gq _) hg 2 _ rfl hn e.symm) (r.low 2 _ rfl hn).1 (by simp) OV;rw[<-List.replicate_succ']at PB;have hgv:kJ (O 2) Og=((O 2).g,(O 2).g+1)::Og:=by unfold kJ;rw[hn]
  have SO:=r.low 3 _ rfl (r.fits (id:=3) rfl).1;have SN:w'.heap[(O 3).g]? =some (.cells #[.slice (some ⟨(O 2).g,0,none⟩) f.cols f.cols] T.Lint (0,0)):=SN;have VR:=PB.mono (iv':=((O 3).g,(O 3).g+1)::((O 2).g,(O 2).g+1)::Og) fun p hp=>aC _ hp;have Oz:=hw.tr r.cU;have hC3:Cf w (((O 3).g,(O 3).g+1)::((O 2).g,(O 2).g+1)::Og) (O 3).g:=.inr ⟨SO.1,_,_,aG,Nat.le_refl _,bY _⟩;rw[hgv];clear Us hw r OV hn PB hgv r2 SO;generalize (O 2).g=gx at*
  generalize (O 3).g=gy at*
  generalize (gy,gy+1)::(gx,gx+1)::Og=OX at*
  refine⟨[.slice (some ⟨gx,0,none⟩) f.cols f.cols],rfl,by simp[Value.oneCell'],fun ρ2 w2 r2 _=>⟨_,rfl,fun j u hu=>?_⟩,?_⟩
  ·have h5:=Rel.same r2 (gq _) hC3;rw[dI,cell_of (h5.trans SN)];rcases j with _|j
   ·exact hu
   ·cases hu
  refine⟨by omega,by omega,by unfold maxLen;omega,((i+1:Nat):Int),wo,?_⟩;intro ρ3 w6 r3;exact⟨(i+1,rv++[.slice (some ⟨gx,0,none⟩) f.cols f.cols],w6,_),⟨OU,by simp[Pm],Oz.tr r3.cU,VR.rel r3⟩,Sub.gn [(1,4)] r3 (hE:=⟨rfl,by dsimp only;rw[List.length_append,List.length_singleton];rfl,rfl,trivial⟩),by dsimp only;omega⟩
 have OU:i=m:=aU hi (by simpa using OU);subst OU;have hE0:iS w1 w.heap.size iv rv f.cols (dm f 0):=by rw[dm,hm];exact hE
 have Wh:HO (dm f 0) 2000000:=fun l hl z hz=>by
  rw[dm]at hl;rw[bJ hl]at hz;rw[bJ hz];exact⟨by decide,by decide⟩
 clear hE;rw[Pm]
 refine⟨Nat×World×Iv,fun z=>⟨[(1,pP 0 0),(3,.o (.w 1 i)),(5,iN z.1)],[(1,.vec T.Lint 1 rv),(0,.box T.Frame [.v (.slice an f.nodes.length cn),.v (.slice ab f.bars.length cb),.v (.slice aq f.cY.length cq)])],2,z.2.2,z.2.1⟩,fun z=>f.bars.length-z.1,
  fun z=>z.1<=f.bars.length∧dq w.heap.size w z.2.1∧iS z.2.1 w.heap.size z.2.2 rv f.cols (dm f z.1)∧HO (dm f z.1) 2000000,?_,?_⟩
 ·intro O w' r3;exact⟨(0,w',_),⟨aR _,hw.tr r3.cU,hE0.rel r3,Wh⟩,Sub.gn [] r3⟩
 clear hw hE0 Wh hi;rintro⟨j,w2,iv⟩ ⟨hj,hw,hE,Ow⟩;dsimp only at hj hw hE Ow ⊢;refine dN.mk ?_ ?_<;>intro Pt
 ·have Pt:j<f.bars.length:=by simpa using Pt
  obtain⟨b,hb⟩:∃b,f.bars[j]? =some b:=⟨_,aA Pt⟩
  obtain⟨hA,hB⟩:=OZ.Mv b (aD hb);have OY:=(Lo Ou (aD hb)).1;obtain⟨ka,pa,ea,hka,-,Wf,⟨_,_⟩,⟨_,_⟩,⟨_,_⟩⟩:=OZ.node hA.1 hA.2;obtain⟨kb,pb,eb,Oc,-,Wg,⟨_,_⟩,⟨_,_⟩,⟨_,_⟩⟩:=OZ.node hB.1 hB.2;have QP:ka≠kb:=fun e=>OY (by rw[ea,eb,e]);obtain⟨adb,cs,hadb,hF,-,hlb0⟩:=hf.bars.load (by decide) hb;obtain⟨g0,g1,g2,g3,g4,g5,g6,g7,rfl,hF⟩:=hF;have hbD:s5 f b=[pb.1-pa.1,pb.2.1-pa.2.1,pb.2.2-pa.2.2]:=by rw[s5,Wf,Wg]
  refine cH (cE hw (fun _ w' v w2=>v= .agg #[.int .i64 (pb.1-pa.1),.int .i64 (pb.2.1-pa.2.1),.int .i64 (pb.2.2-pa.2.2)]) (fun O w' r=>(Bd (S:=S) (oS hS r) (hf.cJ (kS hw r hS)) OZ hb).mono fun _ _ ⟨v2,e1,e2,e3⟩=>⟨v2,e1,e2,by rw[e3,Wf,Wg]⟩) ?_);rintro O _ _ _ OX r he hw h_ rfl;have Us:=iS.cK hE r he (mC h_);clear r;clear hE hF;rw[ea,eb]at hlb0;obtain⟨ds,hds⟩:∃ds:List Value,ds=[.int .i64 (pb.1-pa.1),.int .i64 (pb.2.1-pa.2.1),.int .i64 (pb.2.2-pa.2.2)]:=⟨_,rfl⟩
  refine⟨Nat×World×Iv,fun z=>⟨[(1,pP 0 0),(3,.o (.w 1 i)),(5,iN j),(6,pP 2 0),(7,iN z.1)],[(2,.arr 267 ds),(1,.vec T.Lint 1 rv),(0,.box T.Frame [.v (.slice an f.nodes.length cn),.v (.slice ab f.bars.length cb),.v (.slice aq f.cY.length cq)])],3,z.2.2,z.2.1⟩,fun z=>3-z.1,
   fun z=>z.1<=3∧dq w.heap.size w z.2.1∧iS z.2.1 w.heap.size z.2.2 rv f.cols (e9 f (dm f j) j z.1)∧HO (e9 f (dm f j) j z.1) 2000000,?_,?_⟩
  ·intro O w' r3;exact⟨(0,w',_),⟨aR _,hw.tr r3.cU,Us.rel r3,Ow⟩,Sub.aAx 2 (vs:=ds) (by rw[hds];rfl) r3 fun r4=>Sub.gn [] r4⟩
  clear hw Us Ow;rintro⟨k,w3,iv⟩ ⟨hk,hw,hE,Ow⟩;dsimp only at hk hw hE Ow ⊢;refine dN.mk ?_ ?_<;>intro Wi
  ·have hk3:k<3:=by have:=aI Wi;omega
   obtain⟨d,hd⟩:∃d,(s5 f b).getD k 0=d:=⟨_,rfl⟩
   have hdb: -2000000<=d∧d<=2000000:=by
    rw[<-hd,hbD];rcases(show k=0∨k=1∨k=2 by omega)with rfl|rfl|rfl<;>simp[List.getD]<;>omega
   have hdk:ds[k]? =some (.int .i64 d):=by
    rw[hds,<-hd,hbD];rcases(show k=0∨k=1∨k=2 by omega)with rfl|rfl|rfl<;>rfl
   have hMl:(e9 f (dm f j) j k).length=3*f.nodes.length:=by rw[<-hE.len];have:=hE.len;omega
   obtain⟨la,QM⟩:∃l,(e9 f (dm f j) j k)[3*ka+k]? =some l:=⟨_,aA (by first|omega|(rw [bM];omega))⟩
   have hlaw:=hE.wid la (aD QM);obtain⟨za,WL⟩:∃z,la[j]? =some z:=⟨_,aA (by omega)⟩
   obtain⟨va,UE⟩:∃v,rv[3*ka+k]? =some v:=⟨_,aA (by have:=(aE.1 QM).1;rw[hE.len];exact this)⟩
   obtain⟨aa5,ca5,rfl⟩:=hE.form UE;obtain⟨ada5,Ta,-,-⟩:=hE.load UE QM WL;refine cQ hτ dx [.x 0,.x 1,.x 2,.x 3,.x 4,.x 5,.x 6,.x 7,.x 8,.x 9,.x 10,.x 11,.x 12,.x 13,.x 14,.x 15,.x 16,.x 17] (by kernel_rfl) (by kernel_rfl) ?_;refine⟨adb,hadb,by omega,.int .i64 (ka:Int),fun O w' r=>?_,?_⟩
   ·obtain⟨k1,k2⟩:=hlb0 0 _ rfl;rw[cI (w:=w) (w2:=w') (by simp only[dC];exact(hw.tr r.cU).block _ (hS _ k1))];simp only[aF,jy]at k2 ⊢;exact k2
   refine⟨((3*ka:Nat):Int),wo,((3*ka+k:Nat):Int),wo,by rw[Pm,aW,aZ],by omega,.slice aa5 f.cols ca5,by rw[aF,aZ];exact UE,by omega,.int .i64 d,by rw[aW,aF,aZ];exact hdk,ada5,Ta,by omega,?_⟩;intro O w' r;obtain⟨g,hg,h1,h2,h3,h4⟩:=hE.store r (z:=d) UE QM (show j<f.cols by omega);rw[Ta]at hg;injection hg with hg;subst hg;refine⟨h1,h2,h3,fun w5 RP=>?_⟩;obtain⟨k1,k2,k3,-,-⟩:=h4 w5 RP;replace hw:=(hw.tr r.cU).tr k2;replace Ow:=Ow.set (r:=3*ka+k) (c:=j) (z:=d) (t2:=2000000) (by omega) QM (by omega);replace hE:=k1;clear h1 h2 h3 h4 RP k1 k2 k3 r Ta;obtain⟨lb,PT⟩:∃l,((e9 f (dm f j) j k).set (3*ka+k) (la.set j d))[3*kb+k]? =some l:=⟨_,aA (by first|omega|(rw [bM];omega))⟩
   have hlbw:=hE.wid lb (aD PT);obtain⟨zb,UY⟩:∃z,lb[j]? =some z:=⟨_,aA (by omega)⟩
   obtain⟨vb,VP⟩:∃v,rv[3*kb+k]? =some v:=⟨_,aA (by have:=(aE.1 PT).1;rw[hE.len];exact this)⟩
   obtain⟨ab5,cb5,rfl⟩:=hE.form VP;obtain⟨adb5,Tb,-,-⟩:=hE.load VP PT UY;refine cQ hτ dx [.x 0,.x 1,.x 2,.x 3,.x 4,.x 5,.x 6,.x 7,.x 8,.x 9,.x 10,.x 11,.x 12,.x 13,.x 14,.x 15,.x 16,.x 17,.x 18] (by kernel_rfl) (by kernel_rfl) ?_;refine⟨adb,hadb,by omega,.int .i64 (kb:Int),fun O w' r=>?_,?_⟩
   ·obtain⟨k1,k2⟩:=hlb0 1 _ rfl;rw[cI (w:=w) (w2:=w') (by simp only[dC];exact(hw.tr r.cU).block _ (hS _ k1))];simp only[aF,jy]at k2 ⊢;exact k2
   refine⟨((3*kb:Nat):Int),wo,((3*kb+k:Nat):Int),wo,by rw[Pm,aW,aZ],by omega,.slice ab5 f.cols cb5,by rw[aF,aZ];exact VP,by omega,.int .i64 d,by rw[aW,aF,aZ];exact hdk,-d,wo,adb5,Tb,by omega,?_⟩;intro O w' r;obtain⟨g,hg,h1,h2,h3,h4⟩:=hE.store r (z:=(-d)) VP PT (show j<f.cols by omega);rw[Tb]at hg;injection hg with hg;subst hg;refine⟨h1,h2,h3,fun w5 RP=>?_⟩;obtain⟨k1,k2,k3,-,-⟩:=h4 w5 RP;replace hw:=(hw.tr r.cU).tr k2;replace Ow:=Ow.set (r:=3*kb+k) (c:=j) (z:=(-d)) (t2:=2000000) (by omega) PT (by omega);replace hE:=k1;clear h1 h2 h3 h4 RP k1 k2 k3 r Tb;rw[NM hb ea eb QP hk3 hd QM PT]at hE Ow;refine⟨((k+1:Nat):Int),wo,?_⟩;intro ρ3 w6 r3;exact⟨(k+1,w6,_),⟨hk3,hw.tr r3.cU,hE.rel r3,Ow⟩,Sub.gn [] r3,by dsimp only;omega⟩
  have Wi:k=3:=by have:=aH Wi;omega
  subst Wi;refine⟨((j+1:Nat):Int),wo,?_⟩;intro ρ3 w6 r3;exact⟨(j+1,w6,_),⟨Pt,hw.tr r3.cU,hE.rel r3,Ow⟩,Sub.gn [] r3,by dsimp only;omega⟩
 have Pt:j=f.bars.length:=aU hj (by simpa using Pt);subst Pt
 refine⟨Nat×World×Iv,fun z=>⟨[(1,pP 0 0),(3,.o (.w 1 i)),(8,iN z.1)],[(1,.vec T.Lint 1 rv),(0,.box T.Frame [.v (.slice an f.nodes.length cn),.v (.slice ab f.bars.length cb),.v (.slice aq f.cY.length cq)])],2,z.2.2,z.2.1⟩,fun z=>f.cY.length-z.1,
  fun z=>z.1<=f.cY.length∧dq w.heap.size w z.2.1∧iS z.2.1 w.heap.size z.2.2 rv f.cols (fN f z.1)∧HO (fN f z.1) 2000000,?_,?_⟩
 ·intro O w' r3;exact⟨(0,w',_),⟨aR _,hw.tr r3.cU,hE.rel r3,Ow⟩,Sub.gn [] r3⟩
 clear hw hE Ow hj;rintro⟨j,w2,iv⟩ ⟨hj,hw,hE,Ow⟩;dsimp only at hj hw hE Ow ⊢;refine dN.mk ?_ ?_<;>intro Pt
 ·have Pt:j<f.cY.length:=by simpa using Pt
  obtain⟨s,hs⟩:∃b,f.cY[j]? =some b:=⟨_,aA Pt⟩
  obtain⟨hA,hB⟩:=OZ.sup s (aD hs);obtain⟨ks,WM⟩:=Int.eq_ofNat_of_zero_le (show 0<=3*s.1+s.2.1 by omega);have hMl:=nd f j;obtain⟨l,hl⟩:∃l,(fN f j)[ks]? =some l:=⟨_,aA (by omega)⟩
  have hlw:=hE.wid l (aD hl);obtain⟨v,hv⟩:∃v,rv[ks]? =some v:=⟨_,aA (by rw[hE.len];omega)⟩
  obtain⟨a5,c5,rfl⟩:=hE.form hv;obtain⟨z0,Ok⟩:∃z,l[f.bars.length+j]? =some z:=⟨_,aA (by omega)⟩
  obtain⟨ad5,ha5,-,-⟩:=hE.load hv hl Ok;obtain⟨adb,cs,QP,hF,-,PT⟩:=hf.cY.load (by decide) hs;obtain⟨g0,g1,g2,g3,g4,g5,g6,g7,rfl,hF⟩:=hF;refine cQ hτ dx [.x 0,.x 1,.x 2,.x 3,.x 4,.x 5,.x 6,.x 7,.x 8,.x 9,.x 10,.x 11,.x 12,.x 13,.x 14,.x 15,.x 16,.x 17,.x 18,.x 19,.x 20,.x 21,.x 22,.x 23] (by kernel_rfl) (by kernel_rfl) ?_;refine⟨adb,QP,by omega,.int .i64 s.1,fun O w' r=>?_,?_⟩
  ·obtain⟨k1,k2⟩:=PT 0 _ rfl;rw[cI (w:=w) (w2:=w') (by simp only[dC];exact(hw.tr r.cU).block _ (hS _ k1))];simp only[aF,jy]at k2 ⊢;exact k2
  refine⟨3*s.1,wo,adb,QP,by omega,.int .i64 s.2.1,fun O w' r=>?_,?_⟩
  ·obtain⟨k1,k2⟩:=PT 1 _ rfl;rw[cI (w:=w) (w2:=w') (by simp only[dC];exact(hw.tr r.cU).block _ (hS _ k1))];simp only[aF,jy]at k2 ⊢;exact k2
  refine⟨((ks:Nat):Int),wo,by rw[Pm,aZ],by omega,.slice a5 f.cols c5,by rw[aF,aZ];exact hv,((f.bars.length+j:Nat):Int),wo,ad5,ha5,by omega,?_⟩;intro O w' r;obtain⟨g,hg,h1,h2,h3,h4⟩:=hE.store r (z:=1) hv hl (show f.bars.length+j<f.cols by omega);rw[ha5]at hg;injection hg with hg;subst hg;refine⟨h1,h2,h3,fun w5 RP=>?_⟩;obtain⟨k1,k2,k3,-,-⟩:=h4 w5 RP;replace hw:=(hw.tr r.cU).tr k2;have SM:=Ow.set (r:=ks) (c:=f.bars.length+j) (z:=1) (t2:=2000000) (by omega) hl (by omega);rw[Fk hs WM hl]at k1 SM;clear h1 h2 h3 h4 RP k2 k3 r hE;refine⟨((j+1:Nat):Int),wo,?_⟩;intro ρ3 w6 r3;exact⟨(j+1,w6,_),⟨Pt,hw.tr r3.cU,k1.rel r3,SM⟩,Sub.gn [] r3,by dsimp only;omega⟩
 have Pt:j=f.cY.length:=aU hj (by simpa using Pt);subst Pt;intro ρe we re;have PB:=hE.rel re;have hMl:=nd f f.cY.length;have SI:=hE.len;refine⟨_,rfl,hw.tr re.cU,⟨rv,?_,hE.len,fun i u x k1 k2=>?_⟩,Ow⟩
 ·rw[show (gY f).length=rv.length from hE.len.symm];have h5:=re.iD (id:=1) (sz:=1) (m:=rv.length) rfl (by simp) (by unfold maxLen;omega) (by decide) hE.one;rw[show (i:Nat)=rv.length by omega];exact h5.cL fun g hg=>.inr hg
 ·obtain⟨a,c,rfl⟩:=hE.form k1;have QO:=hE.wid x (aD k2);refine⟨by rw[QO];unfold maxLen;omega,by simp,fun v hv=>by obtain⟨z,_,rfl⟩:=aV.1 hv;rfl,a,c,by rw[QO],?_,fun t v hv=>?_⟩
  ·rw[QO];obtain⟨a2,c2,e,h⟩:=fF (hE.row i _ x k1 k2);injection e with e1 e2 e3;omega
  ·rw[aM]at hv
   cases ht:x[t]? with
   |none=>rw[ht]at hv;cases hv
   |some z=>
    rw[ht]at hv;simp only[bf,Option.some.injEq]at hv;subst hv;obtain⟨ad,h1,h2,h3⟩:=PB.load k1 k2 ht;exact⟨ad,h1,Cv.nw h2 re,by rw[aZ]at h3;exact h3⟩
end Go.Ex
namespace Go.Ex
open Go Go.Sx Go.Proofs
variable{l:List Int}{O:Nat->Sx.dw}
theorem ow{i:Nat}{z:Int}(h:l[i]? =some z):dH (l.take (i+1))=dH (l.take i)++[(z:Rat)]:=by rw[dH,List.take_add_one,h,List.map_append];rfl
theorem Cv.new{w w2:World}{g:Nat}(hg:Cf w [(w.heap.size,w2.heap.size)] g):Nf w w2 g:=by
 rcases hg with hg|⟨h1,lo,hi,h2,h3,h4⟩
 ·exact hg.elim
 ·simp at h2;obtain⟨rfl,rfl⟩:=h2;exact .inr ⟨h3,h4⟩
structure aBI(w:World)(B:Nat)(iv:Iv)(v:Value)(M:List (List Rat)):Prop where
 row:∃rv,w.ownsRow 0 T.iQ 1 v M.length rv∧rv.length=M.length∧(∀u∈rv,u.oneCell'=true)∧∀(i:Nat) u x,rv[i]? =some u->M[i]? =some x->cO w (Bs FF B iv v) u x
 new:∀g,v.ownBlock=some g->Cv FF B iv g
section
variable{H:Hp}{nx:Nat}{iv iv':Iv}{B:Nat}{w w' w2:World}{O:Nat->Sx.dw}{v:Value}{M:List (List Rat)}
end
theorem At.Ls{id n:Nat}:((At.w id n).den O).oneCell'=true:=by
 cases h:(O id).nil<;>simp[At.den,h,Value.oneCell']
end Go.Ex
namespace Go.Ex
variable{b s:Int×Int×Rat}{M:List (List Int)}{r:Nat}{x y:Nat->Rat}{f:eu}
theorem Mu{c:Nat}:dK (M.map dH) r c=((ez M r c:Int):Rat):=by
 have key:∀l:List Int,(dH l).getD c 0=((l.getD c 0:Int):Rat):=fun l=>by
  rw[dH,List.getD,List.getD,aM]
  cases l[c]? <;>rfl
 unfold dK ez;rw[<-key];congr 1;rw[List.getD,List.getD,aM]
 cases M[r]? <;>rfl
theorem Gu(f:eu)(r c:Nat):dK (cS f) r c=((ez (gY f) r c:Int):Rat):=Mu
def Wid(n:Nat)(M:List (List Int)):Prop:=∀l∈M,l.length=n
theorem Wid.put{n c:Nat}{d:Int}(h:Wid n M):Wid n (putAt M r c d):=fun l hl=>by
 unfold putAt at hl;rcases aS r M.length with hr|hr
 ·rcases av hl with hl|rfl
  ·exact h l hl
  ·rw[bM,List.getD,aA hr];exact h _ (ah hr)
 ·rw[List.set_eq_of_length_le hr]at hl;exact h l hl
theorem CQ{f:eu}{M:List (List Int)}{n i:Nat}(h:Wid n M):∀k,Wid n (e9 f M i k)
 |0=>h
 |k+1=>by rw[e9];rw[iJ,iJ];exact((CQ h k).put).put
theorem zo(f:eu):∀i,Wid f.cols (dm f i)
 |0=>fun l hl=>by rw[dm]at hl;rw[bJ hl,bc]
 |i+1=>by rw[dm];exact CQ (zo f i) 3
theorem kL(f:eu):∀i,Wid f.cols (fN f i)
 |0=>zo f _
 |i+1=>by rw[fN];exact(kL f i).put
theorem oX(M:List (List Int))(r c:Nat)(d:Int):(putAt M r c d).length=M.length:=bM ..
theorem tv(f:eu)(M:List (List Int))(i:Nat):∀k,(e9 f M i k).length=M.length
 |0=>rfl
 |k+1=>by rw[e9];rw[iJ,iJ,oX,oX];exact tv f M i k
theorem rp(f:eu):∀i,(dm f i).length=3*f.nodes.length
 |0=>bc ..
 |i+1=>by rw[dm,tv];exact rp f i
theorem j6(f:eu):∀i,(fN f i).length=3*f.nodes.length
 |0=>rp f _
 |i+1=>by rw[fN,oX];exact j6 f i
theorem gH(f:eu):gX f.cols (cS f):=fun r hr=>by
 obtain⟨l,hl,rfl⟩:=aV.1 hr;rw[dH,aL];exact kL f _ l hl
theorem fK(f:eu):(cS f).length=3*f.nodes.length:=by rw[cS,aL];exact j6 f _
structure FrV(f:eu):Prop where
 co:∀p∈f.nodes,(-1000000<=p.1∧p.1<=1000000)∧(-1000000<=p.2.1∧p.2.1<=1000000)∧(-1000000<=p.2.2∧p.2.2<=1000000)
 Mv:∀b∈f.bars,∃ka kb:Nat,b.1=ka∧b.2.1=kb∧ka<f.nodes.length∧kb<f.nodes.length∧ka≠kb∧0<b.2.2
 sup:∀s∈f.cY,gZ s<3*f.nodes.length∧0<=s.2.2
 one:∀(i j:Nat) s t,f.cY[i]? =some s->f.cY[j]? =some t->gZ s=gZ t->i=j
 n:f.nodes.length<=20
 b:f.bars.length<=60
 s:f.cY.length<=60
theorem IL{α:Type}{l:List α}{x:α}(h:x∈l):∃i:Nat,l[i]? =some x:=by
 obtain⟨i,hi,rfl⟩:=List.mem_iff_getElem.1 h;exact⟨i,aA hi⟩
theorem Kz(h:eY f=0):FrV f:=by
 have OZ:=lC h;obtain⟨⟨h1,h2,h3⟩,h4,h5,h6⟩:=vV h;have WW:∀(k:Nat) s,f.cY[k]? =some s->jZ f.nodes.length s.1∧(0<=s.2.1∧s.2.1<=2)∧jH s∉(f.cY.take k).map jH∧0<=s.2.2:=fun k s hs=>rK.1 (jI h6 k s hs);have OV:∀(k:Nat) s,f.cY[k]? =some s->(gZ s:Int)=3*s.1+s.2.1∧gZ s<3*f.nodes.length:=fun k s hs=>by
  obtain⟨⟨a1,a2⟩,⟨a3,a4⟩,-,-⟩:=WW k s hs;unfold gZ;omega
 have lt:∀(i j:Nat) s t,i<j->f.cY[i]? =some s->f.cY[j]? =some t->gZ s≠gZ t:=fun i j s t Pj hs ht e=>by
  obtain⟨⟨a1,a2⟩,⟨a3,a4⟩,-,-⟩:=WW i s hs;obtain⟨⟨b1,b2⟩,⟨b3,b4⟩,b5,-⟩:=WW j t ht;have e1:=(OV i s hs).1;have e2:=(OV j t ht).1;refine b5 (aV.2 ⟨s,aD (i:=i) (by rw[bV Pj];exact hs),?_⟩);exact Prod.ext (by show s.1=t.1;omega) (by show s.2.1=t.2.1;omega)
 refine⟨OZ.co,fun b hb=>?_,fun s hs=>?_,fun i j s t hs ht e=>?_,h1,h2,h3⟩
 ·obtain⟨k,hk⟩:=IL hb;obtain⟨⟨⟨a1,a2⟩,a3,a4⟩,a5,-,a6⟩:=nQ.1 (jI h5 k b hk);exact⟨b.1.toNat,b.2.1.toNat,by omega,by omega,by omega,by omega,by omega,a6⟩
 ·obtain⟨k,hk⟩:=IL hs;exact⟨(OV k s hk).2,(WW k s hk).2.2.2⟩
 ·rcases cA i j with h7|h7|h7
  ·exact absurd e (lt i j s t h7 hs ht)
  ·exact h7
  ·exact absurd e.symm (lt j i t s h7 ht hs)
theorem FN(M:List (List Int))(r c r' c':Nat)(d:Int):ez (putAt M r c d) r' c'=d∨ez (putAt M r c d) r' c'=ez M r' c':=by
 by_cases h:r'=r∧c'=c
 ·obtain⟨rfl,rfl⟩:=h;rcases aS r' M.length with h1|h1
  ·rcases aS c' (M.getD r' []).length with h2|h2
   ·exact .inl (FM h1 h2)
   ·refine .inr ?_;unfold ez putAt;rw[mQ h1,List.set_eq_of_length_le h2]
  ·refine .inr ?_;unfold ez putAt;rw[List.set_eq_of_length_le h1]
 ·exact .inr (j5 (by
   by_cases h1:r'=r
   ·exact .inr fun h2=>h ⟨h1,h2⟩
   ·exact .inl h1))
theorem FO{k:Nat}(hk:k<f.nodes.length):f.node (k:Int)∈f.nodes:=by
 rw[eu.node,aF,List.getD,aA hk];exact ah hk
section
variable{f:eu}(h:FrV f)
include h
theorem FrV.dif(hb:b∈f.bars)(k:Nat): -2000000<=(s5 f b).getD k 0∧(s5 f b).getD k 0<=2000000:=by
 obtain⟨ka,kb,ea,eb,hka,Oc,-,-⟩:=h.Mv b hb;obtain⟨⟨a1,a2⟩,⟨a3,a4⟩,a5,a6⟩:=h.co _ (FO hka);obtain⟨⟨b1,b2⟩,⟨b3,b4⟩,b5,b6⟩:=h.co _ (FO Oc);rw[s5,ea,eb]
 match k with
 |0=>simp[List.getD];omega
 |1=>simp[List.getD];omega
 |2=>simp[List.getD];omega
 |k+3=>simp[List.getD]
theorem FrV.FP{i:Nat}{b:Int×Int×Rat}(hb:f.bars[i]? =some b)(r:Nat):∀k,k<=3-> -2000000<=ez (e9 f (dm f i) i k) r i∧ez (e9 f (dm f i) i k) r i<=2000000
 |0,_=>by
  have:=mR f (r:=r) i (Nat.le_refl i);rw[e9,this];omega
 |k+1,hk=>by
  obtain⟨ka,kb,ea,eb,-,-,OY,-⟩:=h.Mv b (aD hb);have ih:=FrV.FP hb r k (by omega);have hd:=h.dif (aD hb) k;have z1:=oW (r:=3*ka+k) hb ea eb (show k<=3 by omega) (by omega);have z2:=oW (r:=3*kb+k) hb ea eb (show k<=3 by omega) (by omega);rw[e9];rw[DO hb,toNat_add ea,toNat_add eb,iJ,iJ,z1,j5 (r':=3*kb+k) (.inl (by omega)),z2];rcases FN (putAt (e9 f (dm f i) i k) (3*ka+k) i (0+(s5 f b).getD k 0)) (3*kb+k) i r i (0+ -(s5 f b).getD k 0)with e|e
  ·rw[e];omega
  ·rw[e];rcases FN (e9 f (dm f i) i k) (3*ka+k) i r i (0+(s5 f b).getD k 0)with e|e
   ·rw[e];omega
   ·rw[e];exact ih
theorem FrV.IM{i r:Nat}(hi:i<f.bars.length):∀j,i<j->j<=f.bars.length-> -2000000<=ez (dm f j) r i∧ez (dm f j) r i<=2000000
 |0,h1,_=>by omega
 |j+1,h1,h2=>by
  rw[dm];rcases aS i j with h3|h3
  ·rw[vU (by omega)];exact FrV.IM hi j h3 (by omega)
  ·rw[show j=i by omega];exact h.FP (aA hi) r 3 (Nat.le_refl _)
theorem FrV.Gv{i:Nat}(hs:f.cY[i]? =some s):ez (gY f) r (f.bars.length+i)=if r=gZ s then 1 else 0:=
 CP (kL f) (j6 f) (fun s hs=>(h.sup s hs).1) hs _ (aE.1 hs).1
theorem FrV.Gw(r c:Nat): -2000000<=ez (gY f) r c∧ez (gY f) r c<=2000000:=by
 rcases aS c f.bars.length with hc|hc
 ·rw[gY,zn hc];exact h.IM hc _ hc (Nat.le_refl _)
 ·rcases aS c f.cols with h1|h1
  ·obtain⟨i,rfl⟩:∃i,c=f.bars.length+i:=⟨c-f.bars.length,by omega⟩
   rw[eu.cols]at h1;rw[h.Gv (aA (show i<f.cY.length by omega))];split<;>omega
  ·have:ez (gY f) r c=0:=by
    unfold ez;rw[List.getD,List.getElem?_eq_none]
    ·rfl
    ·rcases aS r (gY f).length with h2|h2
     ·rw[List.getD,aA h2];show((gY f)[r]).length<=c;rw[kL f _ _ (ah h2)];exact h1
     ·rw[List.getD,List.getElem?_eq_none h2];exact aR _
   rw[this];omega
theorem FrV.s9(r c:Nat):Ib 2000000 (dK (cS f) r c):=by
 rw[Gu];have:=h.Gw r c;exact Ib.int (by omega)
theorem FrV.oY:DM (cS f) f.cols 2000000:=fun j _=>⟨1,by decide,Ib.one (by decide),fun t _=>by rw[bz];exact h.s9 j t⟩
theorem FrV.only(hx:∀j,j<(cS f).length->mulR (cS f) f.cols x j=0)(h0:∀t,t<f.bars.length->x t=0):∀t,t<f.cols->x t=0:=fun t ht=>by
 rcases aS t f.bars.length with h1|h1
 ·exact h0 t h1
 ·obtain⟨i,rfl⟩:∃i,t=f.bars.length+i:=⟨t-f.bars.length,by omega⟩
  have hi:i<f.cY.length:=by unfold eu.cols at ht;omega
  have hs:=aA hi;have hr:=h.sup _ (ah hi);have h2:=hx (gZ f.cY[i]) (by rw[fK];exact hr.1);unfold mulR at h2;rw[gh ht fun k hk OY=>?_,Gu,h.Gv hs,if_pos rfl]at h2
  ·have e:((1:Int):Rat)*x (f.bars.length+i)=x (f.bars.length+i):=bz _
   rwa [e]at h2
  ·rcases aS k f.bars.length with h3|h3
   ·rw[h0 k h3,bD]
   ·obtain⟨i',rfl⟩:∃i,k=f.bars.length+i:=⟨k-f.bars.length,by omega⟩
    have Qo:i'<f.cY.length:=by unfold eu.cols at hk;omega
    have Tw:=aA Qo;rw[Gu,h.Gv Tw,aJ fun e=>OY (by rw[h.one i i' _ _ hs Tw e])];exact bI _
theorem FrV.LB{t:Nat}(ht:t<f.bars.length):0<(eB f).getD t 0:=by
 obtain⟨_,_,_,_,_,_,_,h1⟩:=h.Mv _ (ah ht);rw[eB,List.getD,aK (by rw[aL];exact ht),aM,aA ht];exact h1
theorem FrV.FQ(t:Nat):0<=(eB f).getD t 0:=by
 rw[List.getD]
 cases ht:(eB f)[t]? with
 |none=>exact Rat.le_refl
 |some q=>
  show 0<=q;have hm:=aD ht;rcases bE.1 hm with hm|hm
  ·obtain⟨b,hb,rfl⟩:=aV.1 hm;obtain⟨_,_,_,_,_,_,_,h1⟩:=h.Mv b hb;exact Rat.le_of_lt h1
  ·obtain⟨s,hs,rfl⟩:=aV.1 hm;exact(h.sup s hs).2
theorem FrV.aA4:DN (cS f) f.cols fun t=>(eB f).getD t 0:=by
 refine⟨gH f,fun t _=>h.FQ t,fun x hx h0=>h.only hx fun t ht=>?_⟩;have h1:=wy (f:=fun t=>(eB f).getD t 0*(x t*x t)) (n:=f.cols) (fun k _=>Rat.mul_nonneg (h.FQ k) (sq_nonneg _)) (by rw[h0];exact Rat.le_refl) t (by unfold eu.cols;omega);have h2:=h.LB ht;rcases Rat.mul_eq_zero.1 h1 with h3|h3
 ·rw[h3]at h2;exact absurd h2 (Rat.lt_irrefl)
 ·rcases Rat.mul_eq_zero.1 h3 with h4|h4<;>exact h4
end
theorem JP{M:List (List Rat)}{n k:Nat}(hk:k<n):(dY M n).getD k []=M.map fun r=>r.getD k 0:=by
 unfold dY;exact getD_some (by rw[aM,List.getElem?_range hk];rfl)
theorem qB{M:List (List Rat)}{n k i:Nat}(hk:k<n):dK (dY M n) k i=dK M i k:=by
 rw[dK,dK,JP hk];rcases aS i M.length with h|h
 ·have hr:=aA h;rw[getD_some (show (M.map fun r=>r.getD k 0)[i]? =some (M[i].getD k 0) by rw[aM,hr];rfl),getD_some hr]
 ·rw[jt (by rw[aL];exact h),show M.getD i []=[] by rw[List.getD,List.getElem?_eq_none h];rfl];rfl
theorem gg(M:List (List Rat))(n:Nat):gX M.length (dY M n):=fun r hr=>by
 obtain⟨k,_,rfl⟩:=aV.1 hr;exact aL ..
theorem ef(M:List (List Rat))(n:Nat):(dY M n).length=n:=by simp[dY]
section
variable{M:List (List Rat)}{n:Nat}
theorem JQ{k:Nat}(hk:k<n):mulR (dY M n) M.length y k=dJ (fun i=>dK M i k*y i) M.length:=cR fun i _=>by rw[qB hk]
end
section
variable{M:List (List Rat)}{n:Nat}{fl b:List Rat}
end
end Go.Ex
namespace Go.Ex
open Go Go.Sx Go.Proofs
variable{S:Nat->Prop}{w:World}{f:eu}
section
variable{S S':Nat->Prop}{H:Hp}{nx:Nat}{iv iv':Iv}{B:Nat}{w w' w2:World}{O:Nat->Sx.dw}{v:Value}{M:List (List Int)}
theorem kV.rel(h:kV w (Cv S B iv) v M)(r:Rel H nx iv B w O w')(hS:∀g,S g->g<B):kV w' (Cv S B iv) v M:=kV.cJ h fun _ hg=>Rel.same r hS hg
theorem kV.cK(h:kV w (Cv S B iv) v M)(r:Rel H nx iv B w O w')(hS:∀g,S g->g<B)(he:Ext w' w2)(hm:∀p,p∈iv->p∈iv'):kV w2 (Cv S B iv') v M:=
 kV.cL ((kV.rel h r hS).cJ fun g hg=>he.block g (Rel.old r hS g hg)) fun _ hg=>hg.mono hm
theorem kV.dF(h:kV w2 (Nf w' w2) v M)(hB:B<=w'.heap.size)(hm:(w'.heap.size,w2.heap.size)∈iv):kV w2 (Cv S B iv) v M:=kV.cL h fun _ hg=>hg.dF hB hm
end
theorem HT(Z:List (List Int))(k:Nat):dH (Z.map fun l=>l.getD k 0)=(Z.map dH).map fun r=>r.getD k 0:=by
 rw[dH,List.map_map,List.map_map];refine List.map_congr_left fun l _=>?_;show((l.getD k 0:Int):Rat)=(dH l).getD k 0;rw[dH,List.getD,List.getD,aM]
 cases l[k]? <;>rfl
theorem Fq(M:List (List Rat))(k:Nat):dY M k++[M.map fun r=>r.getD k 0]=dY M (k+1):=by
 rw[dY,dY,bS,List.map_append];rfl
set_option maxHeartbeats 1000000 in
theorem Jg{vn vb vs:Value}(hS:Old S w)(hf:eF w S vn vb vs f)(Ou:eY f=0):
  eG PG N.uI #[.agg #[vn,vb,vs]] w (eL w fun v' w2=>cV w2 (Nf w w2) v' (dY (cS f) f.cols)):=by
 have hw:=bR w;have hv:=Kz Ou;obtain⟨an,cn,ab,cb,aq,cq,rfl,rfl,rfl,RH,Re,SB⟩:=hf.shape;obtain⟨Ry,SK,SL⟩:=And.intro hv.n (And.intro hv.b hv.s);have Pw:f.cols=f.bars.length+f.cY.length:=rfl;have hZl:(gY f).length=3*f.nodes.length:=j6 f _;refine xw (by simp) ?_;refine cH (cE hw (fun _ w' v w2=>kV w2 (Nf w' w2) v (gY f)∧HO (gY f) 2000000) (fun O w' r=>Jf (S:=S) (oS hS r) (hf.cJ (kS hw r hS)) Ou) ?_);rintro O _ _ _ Og r he hw h_ ⟨hn,Ow⟩;have hM:=kV.dF (S:=FF) hn r.cG (mN h_);obtain⟨am,cm,rfl,-,Ra⟩:=cd.shape hM;obtain⟨Z,hZ⟩:∃Z,gY f=Z:=⟨_,rfl⟩
 have htab:cS f=Z.map dH:=by rw[cS,hZ]
 have UZ:∀l∈Z,l.length=f.cols:=by rw[<-hZ];exact kL f _
 rw[hZ]at hM Ow hZl Ra ⊢
 refine⟨Nat×List Value×World×Iv,fun z=>⟨[(1,pP 0 0),(3,sV am Z.length cm),(4,.o (.w 1 z.2.1.length)),(5,iN z.1)],[(1,.vec T.iQ 1 z.2.1),(0,.box T.Frame [.v (.slice an f.nodes.length cn),.v (.slice ab f.bars.length cb),.v (.slice aq f.cY.length cq)])],2,z.2.2.2,z.2.2.1⟩,fun z=>f.cols-z.1,
  fun z=>z.1<=f.cols∧dq w.heap.size w z.2.2.1∧kV z.2.2.1 (Cf w z.2.2.2) (.slice am Z.length cm) Z∧de z.2.2.1 (Cf w z.2.2.2) z.2.1 (dY (Z.map dH) z.1),?_,?_⟩
 ·intro O w' r;exact⟨(0,[],w',_),⟨aR _,hw.tr r.cU,kV.rel hM r (cF w),by simp[de,dY]⟩,Sub.nil 4 T.iQ 1 rfl (by simp[kF,SV.sc,At.sc,fm]) r fun ρ1 r1=>Sub.gn [] r1⟩
 rintro⟨k,rv,w1,iv⟩ ⟨hk,hw,hM,hK⟩;dsimp only at hk hw hM hK ⊢;have Pm:rv.length=k:=by rw[hK.1,kU]
 refine cH (cE hw (fun _ w' v w2=>v= .int .i64 f.cols) (fun O w' r=>ql (hf.cJ (kS hw r hS)) ⟨SK,SL⟩) ?_);rintro O _ _ _ OX r he hw h_ rfl;replace hM:=kV.cK hM r (cF w) he (mC h_);replace hK:=hK.cK r (cF w) he (mC h_);refine dN.mk ?_ ?_<;>intro Oc
 ·have Oc:k<f.cols:=by simpa using Oc
  refine⟨Nat×List (List Value)×World×Iv,fun z=>⟨[(1,pP 0 0),(3,sV am Z.length cm),(4,.o (.w 1 rv.length)),(5,iN k),(6,.o (.w 2 z.2.1.length)),(7,iN z.1)],[(2,.vec T.Rat 4 z.2.1.flatten),(1,.vec T.iQ 1 rv),(0,.box T.Frame [.v (.slice an f.nodes.length cn),.v (.slice ab f.bars.length cb),.v (.slice aq f.cY.length cq)])],3,z.2.2.2,z.2.2.1⟩,fun z=>Z.length-z.1,
   fun z=>z.1<=Z.length∧dq w.heap.size w z.2.2.1∧kV z.2.2.1 (Cf w z.2.2.2) (.slice am Z.length cm) Z∧de z.2.2.1 (Cf w z.2.2.2) rv (dY (Z.map dH) k)∧ew z.2.2.1 (Cf w z.2.2.2) z.2.1 (dH ((Z.map fun l=>l.getD k 0).take z.1)),?_,?_⟩
  ·intro O w' r;exact⟨(0,[],w',_),⟨aR _,hw.tr r.cU,kV.rel hM r (cF w),hK.rel r (cF w),ew.nil⟩,Sub.nil 6 T.Rat 4 rfl (by simp[kF,SV.sc,At.sc,fm]) r fun ρ1 r1=>Sub.gn [] r1⟩
  rintro⟨i,css,w3,iv⟩ ⟨hi,hw,hM,hK,hG⟩;dsimp only at hi hw hM hK hG ⊢;have PA:=ei hG.four;have VT:css.length=i:=by rw[hG.len,dH,aL,ai,aL];omega
  refine dN.mk ?_ ?_<;>intro OU
  ·have OU:i<Z.length:=by simpa using OU
   obtain⟨l,hl⟩:∃x,Z[i]? =some x:=⟨_,aA OU⟩
   have hlw:=UZ l (aD hl);obtain⟨z,hz⟩:∃x,l[k]? =some x:=⟨_,aA (by omega)⟩
   have UY:=Ow l (aD hl) z (aD hz);have Ua:(Z.map fun l=>l.getD k 0)[i]? =some z:=by rw[aM,hl];show some (l.getD k 0)=_;rw[List.getD,hz];rfl
   obtain⟨adm,um,Qs,PD,km1,km2⟩:=cd.load hM hl;obtain⟨al,cl,rfl,-,Qt⟩:=PD.shape;obtain⟨adx,Pq,hSx,PO⟩:=HN.at PD hz;refine⟨adm,Qs,by omega,.slice al l.length cl,fun O w' r=>?_,?_⟩
   ·rw[aF,cI (w:=w3) (w2:=w') (by rw[dC];exact Rel.same r (cF w) km1)];exact km2
   refine⟨adx,Pq,by omega,.int .i64 z,fun O w' r=>?_,?_⟩
   ·rw[aF,cI (w:=w3) (w2:=w') (by rw[dC];exact Rel.same r (cF w) hSx)];exact PO
   refine cH (cE hw (fun _ w' v w2=>dA w2 (Nf w' w2) v (z:Rat)) (fun O w' r=>jz z w' (by omega)) ?_);rintro O _ _ _ Oh r he hw h_ hn;replace hM:=kV.cK hM r (cF w) he (mC h_);replace hK:=hK.cK r (cF w) he (mC h_);replace hG:=hG.cK r (cF w) he (mC h_);have hd:=hn.dF (S:=FF) r.cG (mN h_);obtain⟨A0,A1,A2,A3,A4,A5,A6,A7,rfl⟩:=hd.shape;have VU:=hG.push (cs:=[.bool A0,.slice A1 A2 A3,.bool A4,.slice A5 A6 A7]) (q:=(z:Rat)) ⟨_,_,_,_,_,_,_,_,rfl,hd⟩ rfl;rw[<-ow Ua]at VU;have Qy:css.flatten++([.bool A0,.slice A1 A2 A3,.bool A4,.slice A5 A6 A7]:List Value)=(css++([[.bool A0,.slice A1 A2 A3,.bool A4,.slice A5 A6 A7]]:List (List Value))).flatten:=by simp
   refine .inl ?_;refine⟨by omega,by omega,by unfold maxLen;omega,((i+1:Nat):Int),wo,?_⟩;intro ρ3 w6 r3;exact⟨(i+1,css++[[.bool A0,.slice A1 A2 A3,.bool A4,.slice A5 A6 A7]],w6,_),⟨OU,hw.tr r3.cU,kV.rel hM r3 (cF w),hK.rel r3 (cF w),VU.rel r3 (cF w)⟩,Sub.gn [(2,4)] r3 ⟨by dsimp only;rw[<-Qy];rfl,rfl,rfl,trivial⟩ ⟨rfl,rfl,rfl,rfl,by dsimp only;rw[List.length_append,List.length_singleton];rfl,rfl,trivial⟩,by dsimp only;omega⟩
  have OU:i=Z.length:=aU hi (by simpa using OU);have Tz:dH ((Z.map fun l=>l.getD k 0).take i)=(Z.map dH).map fun r=>r.getD k 0:=by rw[OU,<-aL (f:=fun l:List Int=>l.getD k 0),bF,HT]
  rw[Tz]at hG;refine oF hτ (id3:=3) (id2:=2) (tH:=[(1,.vec T.iQ 1 rv),(0,.box T.Frame [.v (.slice an f.nodes.length cn),.v (.slice ab f.bars.length cb),.v (.slice aq f.cY.length cq)])]) rfl rfl rfl rfl (by simp) (by first|exact⟨rfl,trivial⟩|exact⟨rfl,rfl,trivial⟩) rfl rfl (fun O w' r r2 SN=>?_);have OV:=ew.list ((hG.rel r (cF w)).cL fun g hg=>Cv.mono (iv':=((O 3).g,(O 3).g+1)::kJ (O 2) iv) hg fun p hp=>aC _ (nJ p hp)) ((r.Lp (id:=2) (sz:=4) (m:=css.length) rfl PA (by unfold maxLen;omega) (by decide) hG.one).cL fun g hg=>Cv.mono hg fun p hp=>aC _ hp);have Po:((At.w 2 css.length).den O).oneCell'=true:=At.Ls;have SO:=r.low 3 _ rfl (r.fits (id:=3) rfl).1;have hC3:Cf w (((O 3).g,(O 3).g+1)::kJ (O 2) iv) (O 3).g:=.inr ⟨SO.1,_,_,aG,Nat.le_refl _,bY _⟩;have QK:∀p,p∈iv->p∈((O 3).g,(O 3).g+1)::kJ (O 2) iv:=fun p hp=>aC _ (nJ p hp);have Oz:=hw.tr r.cU;have hK1:=(hK.rel r (cF w)).cL fun g hg=>Cv.mono hg QK;have hM1:=kV.cL (kV.rel hM r (cF w)) fun g hg=>Cv.mono hg QK;generalize (At.w 2 css.length).den O=ur at*
  generalize (O 3).g=gy at*
  generalize (gy,gy+1)::kJ (O 2) iv=OX at*
  refine⟨[ur],rfl,by simpa using Po,fun ρ2 w2 r2 _=>⟨_,rfl,fun j u hu=>?_⟩,?_⟩
  ·have h5:=Rel.same r2 (gq _) hC3;rw[dI,cell_of (h5.trans SN)];rcases j with _|j
   ·exact hu
   ·cases hu
  refine⟨by simp,by omega,by unfold maxLen;omega,?_⟩;have Q7:=hK1.push Po OV;rw[Fq]at Q7;refine⟨((k+1:Nat):Int),wo,?_⟩;intro ρ3 w6 r3;exact⟨(k+1,rv++[ur],w6,_),⟨Oc,Oz.tr r3.cU,kV.rel hM1 r3 (cF w),Q7.rel r3 (cF w)⟩,Sub.gn [(1,4)] r3 (hE:=⟨rfl,rfl,by dsimp only;rw[List.length_append,List.length_singleton];rfl,rfl,trivial⟩),by dsimp only;omega⟩
 have Oc:k=f.cols:=aU hk (by simpa using Oc);rw[Oc]at hK;rw[htab];intro ρe we re;refine⟨_,rfl,hw.tr re.cU,rv,?_,hK.1,fun i u x k1 k2=>cO.out (hK.2.2 i u x k1 k2) re (cF w)⟩;have h5:=re.iD (id:=1) (sz:=1) (m:=rv.length) rfl (by simp) (by unfold maxLen;omega) (by decide) hK.2.1;rw[show (dY (Z.map dH) f.cols).length=rv.length from hK.1.symm];exact h5.cL fun g hg=>.inr hg
set_option maxHeartbeats 1000000 in
theorem Ch{vn vb vs vl:Value}{l:List Ld}(hS:Old S w)(hf:eF w S vn vb vs f)(hl:iE w S vl l)(Ry:f.nodes.length<=20)(OZ:As f.nodes.length l):
  eG PG N.uA #[.agg #[vn,vb,vs],vl] w (eL w fun v' w2=>cO w2 (Nf w w2) v' (eN f l)):=by
 have hw:=bR w;obtain⟨an,cn,ab,cb,aq,cq,rfl,rfl,rfl,RH,Re,SB⟩:=hf.shape;obtain⟨al,cl,rfl,Pf,Qt⟩:=hl.shape;have hl200:=OZ.len;refine xk (by simp) ?_;refine⟨((3*f.nodes.length:Nat):Int),wo,?_⟩;obtain⟨m,hm⟩:∃m,3*f.nodes.length=m:=⟨_,rfl⟩
 rw[hm]
 refine⟨m,m,rfl,rfl,Nat.le_refl _,by omega,by omega,Nat×World,fun z=>⟨[(1,sV al l.length cl),(5,.o (.s 1 0 m m)),(6,iN z.1)],[(1,.arr T.int (zv (fb f.nodes.length l z.1)))],2,[],z.2⟩,fun z=>l.length-z.1,
  fun z=>z.1<=l.length∧dq w.heap.size w z.2∧Md (fb f.nodes.length l z.1) (3000000*z.1),?_,?_⟩
 ·intro O w' r3;exact⟨(0,w'),⟨aR _,hw.tr r3.cU,fun z hz=>by rw[fb]at hz;rw[bJ hz];exact⟨Int.le_refl _,Int.le_refl _⟩⟩,Sub.gn [] r3 ⟨by dsimp only;rw[fb,hm,zv,List.map_replicate];rfl,trivial⟩⟩
 rintro⟨i,w1⟩ ⟨hi,hw,Ow⟩;dsimp only at hi hw Ow ⊢;refine dN.mk ?_ ?_<;>intro OU
 ·have OU:i<l.length:=by simpa using OU
  obtain⟨x,hx⟩:∃x,l[i]? =some x:=⟨_,aA OU⟩
  obtain⟨hn,Sl,RG,hx3⟩:=OZ.ld x (aD hx);obtain⟨kn,hkn⟩:=Int.eq_ofNat_of_zero_le hn.1;obtain⟨adx,cs,Pq,hP,-,PO⟩:=hl.load (by decide) hx;have hP:cs=[.int .i64 x.1,.int .i64 x.2.1,.int .i64 x.2.2.1,.int .i64 x.2.2.2]:=hP;subst hP;obtain⟨s0,UG⟩:∃s,fb f.nodes.length l i=s:=⟨_,rfl⟩
  rw[UG]at Ow;have Rc:s0.length=m:=by rw[<-UG,kM,hm]
  obtain⟨z0,Ok⟩:∃z,s0[3*kn]? =some z:=⟨_,aA (by omega)⟩
  obtain⟨z1,Ov⟩:∃z,s0[3*kn+1]? =some z:=⟨_,aA (by omega)⟩
  obtain⟨z2,Ps⟩:∃z,s0[3*kn+2]? =some z:=⟨_,aA (by omega)⟩
  have b0:=Ow z0 (aD Ok);have b1:=Ow z1 (aD Ov);have b2:=Ow z2 (aD Ps);have n1:ga s0 x 1=s0.set (3*kn) (z0+x.2.1):=(mg (k:=0) (j:=3*kn) (by omega) rfl Ok).symm;have n2:ga s0 x 2=(s0.set (3*kn) (z0+x.2.1)).set (3*kn+1) (z1+x.2.2.1):=by
   rw[<-n1];exact(mg (k:=1) (j:=3*kn+1) (by omega) rfl (by rw[n1,aY (by omega)];exact Ov)).symm
  have n3:ga s0 x 3=((s0.set (3*kn) (z0+x.2.1)).set (3*kn+1) (z1+x.2.2.1)).set (3*kn+2) (z2+x.2.2.2):=by
   rw[<-n2];exact(mg (k:=2) (j:=3*kn+2) (by omega) rfl (by rw[n2,aY (by omega),aY (by omega)];exact Ps)).symm
  have Qv:ga s0 x 3=fb f.nodes.length l (i+1):=by rw[fb,show l.getD i (0,0,0,0)=x by rw[List.getD,hx];rfl,UG]
  have hbd1:=Ow.set (j:=3*kn) (z:=z0+x.2.1) (t2:=3000000*i+1000000) (by omega) (by omega);have SM:=hbd1.set (j:=3*kn+1) (z:=z1+x.2.2.1) (t2:=3000000*i+2000000) (by omega) (by omega);have hbd3:=SM.set (j:=3*kn+2) (z:=z2+x.2.2.2) (t2:=3000000*i+3000000) (by omega) (by omega);rw[<-n3,Qv]at hbd3;rw[UG];refine⟨adx,Pq,by omega,.int .i64 x.1,fun O w' r=>?_,?_⟩
  ·obtain⟨k1,k2⟩:=PO 0 _ rfl;rw[cI (w:=w) (w2:=w') (by simp only[dC];exact(hw.tr r.cU).block _ (hS _ k1))];simp only[aF,jy]at k2 ⊢;exact k2
  refine⟨((3*kn:Nat):Int),wo,?_⟩;refine cQ hτ dx [.x 0,.x 1,.x 2,.x 3,.x 4,.x 5,.x 6,.x 7,.x 8,.x 9,.x 10,.x 11,.x 12,.x 13,.x 14,.x 15,.x 16,.x 17,.x 18,.x 19,.x 20,.x 21,.x 22,.x 23,.x 24,.x 25,.x 26,.x 27,.x 28,.x 29,.x 30,.x 31,.x 32,.x 33,.x 34,.x 35,.x 36,.x 37,.x 38,.x 39,.x 40,.x 41,.x 42,.x 43,.x 44,.x 45] (by kernel_rfl) (by kernel_rfl) ?_;refine⟨((3*kn+1:Nat):Int),wo,((3*kn+2:Nat):Int),wo,by omega,.int .i64 z0,by rw[aF,aZ,aW];exact Cc Ok,adx,Pq,by omega,.int .i64 x.2.1,fun O w' r=>?_,?_⟩
  ·obtain⟨k1,k2⟩:=PO 1 _ rfl;rw[cI (w:=w) (w2:=w') (by simp only[dC];exact(hw.tr r.cU).block _ (hS _ k1))];simp only[aF,jy]at k2 ⊢;exact k2
  refine⟨z0+x.2.1,wo,((3*kn+1:Nat):Int),wo,by omega,.int .i64 z1,by rw[aF,aZ,aW];exact Cc Ov,adx,Pq,by omega,.int .i64 x.2.2.1,fun O w' r=>?_,?_⟩
  ·obtain⟨k1,k2⟩:=PO 2 _ rfl;rw[cI (w:=w) (w2:=w') (by simp only[dC];exact(hw.tr r.cU).block _ (hS _ k1))];simp only[aF,jy]at k2 ⊢;exact k2
  refine⟨z1+x.2.2.1,wo,((3*kn+2:Nat):Int),wo,by omega,.int .i64 z2,by rw[aF,aZ,aW];exact Cc Ps,adx,Pq,by omega,.int .i64 x.2.2.2,fun O w' r=>?_,?_⟩
  ·obtain⟨k1,k2⟩:=PO 3 _ rfl;rw[cI (w:=w) (w2:=w') (by simp only[dC];exact(hw.tr r.cU).block _ (hS _ k1))];simp only[aF,jy]at k2 ⊢;exact k2
  refine⟨z2+x.2.2.2,wo,by omega,by rw[Dp];(try rw[bM]);(try rw[bM]);omega,zv ((s0).set (3*kn) (z0+x.2.1)),?_,?_⟩
  ·rw[aF,aZ,aW];exact Dq (by (try rw[bM]);(try rw[bM]);omega)
  refine⟨by omega,by rw[Dp];(try rw[bM]);(try rw[bM]);omega,zv (((s0).set (3*kn) (z0+x.2.1)).set (3*kn+1) (z1+x.2.2.1)),?_,?_⟩
  ·rw[aF,aZ,aW];exact Dq (by (try rw[bM]);(try rw[bM]);omega)
  refine⟨by omega,by rw[Dp];(try rw[bM]);(try rw[bM]);omega,zv ((((s0).set (3*kn) (z0+x.2.1)).set (3*kn+1) (z1+x.2.2.1)).set (3*kn+2) (z2+x.2.2.2)),?_,?_⟩
  ·rw[aF,aZ,aW];exact Dq (by (try rw[bM]);(try rw[bM]);omega)
  refine⟨((i+1:Nat):Int),wo,?_⟩;intro ρ3 w6 r3;exact⟨(i+1,w6),⟨OU,hw.tr r3.cU,fun z hz=>by have:=hbd3 z hz;dsimp only;omega⟩,Sub.gn [] r3 ⟨by dsimp only;rw[<-Qv,n3];rfl,trivial⟩,by dsimp only;omega⟩
 have OU:i=l.length:=aU hi (by simpa using OU);subst OU;obtain⟨s0,UG⟩:∃s,fb f.nodes.length l l.length=s:=⟨_,rfl⟩
 have Rc:s0.length=m:=by rw[<-UG,kM,hm]
 rw[UG]at Ow ⊢
 refine⟨Nat×List (List Value)×World×Iv,fun z=>⟨[(5,.o (.s 1 0 m m)),(8,.o (.w 2 z.2.1.length)),(9,iN z.1)],[(2,.vec T.Rat 4 z.2.1.flatten),(1,.arr T.int (zv s0))],3,z.2.2.2,z.2.2.1⟩,fun z=>m-z.1,
  fun z=>z.1<=m∧dq w.heap.size w z.2.2.1∧ew z.2.2.1 (Cf w z.2.2.2) z.2.1 (dH (s0.take z.1)),?_,?_⟩
 ·intro O w' r;exact⟨(0,[],w',_),⟨aR _,hw.tr r.cU,ew.nil⟩,Sub.nil 8 T.Rat 4 rfl (by simp[kF,SV.sc,At.sc,fm]) r fun ρ1 r1=>Sub.gn [] r1⟩
 rintro⟨i,css,w1,iv⟩ ⟨hi,hw,hG⟩;dsimp only at hi hw hG ⊢;have PA:=ei hG.four;have VT:css.length=i:=by rw[hG.len,dH,aL,ai];omega
 refine dN.mk ?_ ?_<;>intro OU
 ·have OU:i<m:=by simpa using OU
  obtain⟨z,hz⟩:∃z,s0[i]? =some z:=⟨_,aA (by omega)⟩
  have UY:=Ow z (aD hz);refine⟨by omega,.int .i64 z,by rw[aF,aZ,aW];exact Cc hz,?_⟩;refine cH (cE hw (fun _ w' v w2=>dA w2 (Nf w' w2) v (z:Rat)) (fun O w' r=>jz z w' (by omega)) ?_);rintro O _ _ _ Og r he hw h_ hn;replace hG:=hG.cK r (cF w) he (mC h_);have hd:=hn.dF (S:=FF) r.cG (mN h_);obtain⟨A0,A1,A2,A3,A4,A5,A6,A7,rfl⟩:=hd.shape;have VU:=hG.push (cs:=[.bool A0,.slice A1 A2 A3,.bool A4,.slice A5 A6 A7]) (q:=(z:Rat)) ⟨_,_,_,_,_,_,_,_,rfl,hd⟩ rfl;rw[<-ow hz]at VU;have Qy:css.flatten++([.bool A0,.slice A1 A2 A3,.bool A4,.slice A5 A6 A7]:List Value)=(css++([[.bool A0,.slice A1 A2 A3,.bool A4,.slice A5 A6 A7]]:List (List Value))).flatten:=by simp
  refine .inl ?_;refine⟨by omega,by omega,by unfold maxLen;omega,((i+1:Nat):Int),wo,?_⟩;intro ρ3 w6 r3;exact⟨(i+1,css++[[.bool A0,.slice A1 A2 A3,.bool A4,.slice A5 A6 A7]],w6,_),⟨OU,hw.tr r3.cU,VU.rel r3 (cF w)⟩,Sub.gn [(2,4)] r3 ⟨by dsimp only;rw[<-Qy];rfl,rfl,trivial⟩ ⟨rfl,by dsimp only;rw[List.length_append,List.length_singleton];rfl,rfl,trivial⟩,by dsimp only;omega⟩
 have OU:i=m:=aU hi (by simpa using OU);have Tz:dH (s0.take i)=eN f l:=by rw[eN,UG,OU,<-Rc,bF]
 rw[Tz]at hG;intro ρe we re;refine⟨_,rfl,hw.tr re.cU,?_⟩;have h5:=re.iD (id:=2) (sz:=4) (m:=css.length) rfl PA (by unfold maxLen;omega) (by decide) hG.one;exact ew.list ((hG.rel re (cF w)).cL fun g hg=>Cv.nw hg re) (h5.cL fun g hg=>.inr hg)
end Go.Ex
