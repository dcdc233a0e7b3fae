/- A part of the proof: texts X157 to X159. Each tells its conditions in its theorems. -/
import Derived.Test.YtkdcaknoaeicdaaGreatP14
/- The laws' guards: small frames, short limits. Printed by program. No condition but sizes. -/
namespace Go.Ex
open Go Go.Sx Go.Proofs

def rq(p:Int×Int):Rat:=ratio p.1 p.2
/-- a frame as it is handed in: its flexibilities are raw -/
structure FrmW where
 nodes:List (Int×Int×Int)
 bars:List (Int×Int×(Int×Int))
 sups:List (Int×Int×(Int×Int))
def twoV(p:Int×Int×(Int×Int)):Int×Int×Rat:=(p.1,p.2.1,rq p.2.2)
def FrmW.val(f:FrmW):Frm:=⟨f.nodes,f.bars.map twoV,f.sups.map twoV⟩
def TwoW(w:World)(S:Nat→Prop)(cs:List Value)(p:Int×Int×(Int×Int)):Prop:=∃b a n c b2 a2 n2 c2,cs=[.int .i64 p.1,.int .i64 p.2.1,.bool b,.slice a n c,.bool b2,.slice a2 n2 c2]∧RatR w S (.agg #[.bool b,.slice a n c,.bool b2,.slice a2 n2 c2]) p.2.2.1 p.2.2.2
structure FrameW(w:World)(S:Nat→Prop)(vn vb vs:Value)(f:FrmW):Prop where
 nodes:NodesR w S vn f.nodes
 bars:ListK 6 TwoW w S vb f.bars
 sups:ListK 6 TwoW w S vs f.sups
theorem TwoW.keep{w w2:World}{S:Nat→Prop}{cs:List Value}{p:Int×Int×(Int×Int)}(h:TwoW w S cs p)(hk:∀g,S g→w2.heap[g]? =w.heap[g]?):TwoW w2 S cs p:=by
 obtain⟨b,a,n,c,b2,a2,n2,c2,h1,h2⟩:=h;exact⟨b,a,n,c,b2,a2,n2,c2,h1,h2.keep hk⟩
theorem FrameW.keep{w w2:World}{S:Nat→Prop}{vn vb vs:Value}{f:FrmW}(h:FrameW w S vn vb vs f)(hk:∀g,S g→w2.heap[g]? =w.heap[g]?):FrameW w2 S vn vb vs f:=
 ⟨ListK.keep (w:=w) (fun _ _ h=>h) h.nodes hk,ListK.keep (fun _ _ h=>h.keep hk) h.bars hk,ListK.keep (fun _ _ h=>h.keep hk) h.sups hk⟩
theorem TwoW.few{w:World}{S:Nat→Prop}{cs:List Value}{p:Int×Int×(Int×Int)}(h:TwoW w S cs p)(hf:Few3 (cs.drop 2)):TwoP w S cs (twoV p)∧rl (twoV p).2.2≤3:=by
 obtain⟨b,a,n,c,b2,a2,n2,c2,rfl,h2⟩:=h
 obtain⟨h3,h4⟩:=h2.l3 hf
 exact⟨⟨b,a,n,c,b2,a2,n2,c2,rfl,h3⟩,h4⟩
/-- lists of k cells, their cells known -/
theorem ListK.cells{α:Type}{k:Nat}{P:World→(Nat→Prop)→List Value→α→Prop}{w:World}{S:Nat→Prop}{v:Value}{xs:List α}(h:ListK k P w S v xs):
  ∃css:List (List Value),css.length=xs.length∧ListK k (fun w S cs (y:List Value×α)=>cs=y.1∧P w S cs y.2) w S v (css.zip xs)∧(∀(j:Nat) cs x,css[j]? =some cs→xs[j]? =some x→P w S cs x)∧
   ∀{β:Type} (Q:World→(Nat→Prop)→List Value→β→Prop) (ys:List β),ys.length=xs.length→(∀(j:Nat) cs y,css[j]? =some cs→ys[j]? =some y→Q w S cs y)→ListK k Q w S v ys:=by
 obtain⟨css,h1,h2,h3,h4⟩:=h
 have hz:(css.zip xs).length=xs.length:=by rw[List.length_zip,h2,Nat.min_self]
 refine⟨css,h2,⟨css,by rw[hz];exact h1,by rw[hz,h2],h3,fun j cs y k1 k2=>?_⟩,h4,fun Q ys hl hQ=>⟨css,by rw[hl];exact h1,by rw[hl,h2],h3,hQ⟩⟩
 rw[List.getElem?_zip_eq_some]at k2
 rw[k1]at k2
 exact⟨by injection k2.1,h4 j cs _ k1 k2.2⟩
theorem TwosL.of{w:World}{S:Nat→Prop}{v:Value}{xs:List (Int×Int×(Int×Int))}{css:List (List Value)}(h4:∀(j:Nat) cs x,css[j]? =some cs→xs[j]? =some x→TwoW w S cs x)
  (hQ:∀{β:Type} (Q:World→(Nat→Prop)→List Value→β→Prop) (ys:List β),ys.length=xs.length→(∀(j:Nat) cs y,css[j]? =some cs→ys[j]? =some y→Q w S cs y)→ListK 6 Q w S v ys)
  (hl:css.length=xs.length) (hf:∀j cs,j<xs.length→css[j]? =some cs→Few3 (cs.drop 2)):TwosR w S v (xs.map twoV)∧∀b∈xs.map twoV,rl b.2.2≤3:=by
 refine⟨hQ TwoP _ (List.length_map ..) fun j cs y k1 k2=>?_,fun b hb=>?_⟩
 ·rw[List.getElem?_map]at k2
  obtain⟨p,hp,rfl⟩:=Option.map_eq_some_iff.1 k2
  exact((h4 j cs p k1 hp).few (hf j cs (List.getElem?_eq_some_iff.1 hp).1 k1)).1
 ·obtain⟨p,hp,rfl⟩:=List.mem_map.1 hb
  obtain⟨j,hj⟩:=List.getElem?_of_mem hp
  have hjl:=(List.getElem?_eq_some_iff.1 hj).1
  have hc:css[j]? =some css[j]:=List.getElem?_eq_getElem (by omega)
  exact((h4 j _ p hc hj).few (hf j _ hjl hc)).2
set_option maxHeartbeats 1000000 in
theorem small5_c{S:Nat→Prop}{w:World}{vn vb vs:Value}{f:FrmW}(hS:Old S w)(hf:FrameW w S vn vb vs f):Con PG N.law05_Small #[.agg #[vn,vb,vs]] w (Ret w fun v' _=>∃d,v'= .bool d∧
  (d=true→FrameR w S vn vb vs f.val∧(∀b∈f.val.bars,rl b.2.2≤3)∧(∀b∈f.val.sups,rl b.2.2≤3)∧(errF f.val≠0∨f.val.nodes.length≤4∧f.val.bars.length≤6))):=by
 have hw:Bel w.heap.size w w:=Bel.refl
 obtain⟨an,cn,rfl,hcn,hmn⟩:=hf.nodes.shape
 obtain⟨bcs,hbl,hbz,hb4,hbQ⟩:=hf.bars.cells
 obtain⟨qcs,hql,hqz,hq4,hqQ⟩:=hf.sups.cells
 obtain⟨ab,cb,rfl,hcb,hmb⟩:=hf.bars.shape
 obtain⟨aq,cq,rfl,hcq,hms⟩:=hf.sups.shape
 refine in_law05_Small (by simp) ?_
 conv=>whnf
 refine BrS.mk (fun h0=>?_) (fun h0=>?_)
 ·conv=>whnf
  intro ρe we re
  exact⟨_,rfl,hw.tr re.bel,_,rfl,fun h=>by cases h⟩
 have h0:=of_decide_eq_false h0
 conv=>whnf
 refine BrS.mk (fun h1=>?_) (fun h1=>?_)
 ·conv=>whnf
  intro ρe we re
  exact⟨_,rfl,hw.tr re.bel,_,rfl,fun h=>by cases h⟩
 have h1:=of_decide_eq_false h1
 conv=>whnf
 refine BrS.mk (fun h2=>?_) (fun h2=>?_)
 ·conv=>whnf
  intro ρe we re
  exact⟨_,rfl,hw.tr re.bel,_,rfl,fun h=>by cases h⟩
 have h2:=of_decide_eq_false h2
 conv=>whnf
 refine⟨Nat×World×Iv,fun z=>⟨[(1,.o (.p 0 0)),(3,.o (.v (.int .i64 ((z.1:Nat):Int))))],[(0,.box T.Frame [.v (.slice an f.nodes.length cn),.v (.slice ab f.bars.length cb),.v (.slice aq f.sups.length cq)])],1,z.2.2,z.2.1⟩,fun z=>f.bars.length-z.1,
  fun z=>z.1≤f.bars.length∧Bel w.heap.size w z.2.1∧∀(j:Nat) (cs:List Value),j<z.1→bcs[j]? =some cs→Few3 (cs.drop 2),?_,?_⟩
 ·intro ρ w' r3
  exact⟨(0,w',_),⟨Nat.zero_le _,hw.tr r3.bel,fun j cs hj=>absurd hj (Nat.not_lt_zero j)⟩,Sub.gen [] r3 ⟨rfl,trivial⟩ ⟨rfl,rfl,trivial⟩ (by simp[ScH,Blk.scopd,At.sc]) (by simp[ScE,SV.sc,At.sc,initE]) (by rfl) (fun lo hi h=>h)⟩
 clear hw
 rintro⟨i,w1,iv⟩ ⟨hi,hw,hB⟩
 dsimp only at hi hw hB ⊢
 conv=>whnf
 refine BrS.mk (fun hib=>?_) (fun hib=>?_)
 ·have hib:i<f.bars.length:=by simpa using hib
  obtain⟨cs,hcs⟩:∃cs,bcs[i]? =some cs:=⟨_,List.getElem?_eq_getElem (by omega)⟩
  obtain⟨p,hp⟩:∃p,f.bars[i]? =some p:=⟨_,List.getElem?_eq_getElem hib⟩
  obtain⟨g0,g1,g2,g3,g4,g5,g6,g7,rfl,-⟩:=hb4 i cs p hcs hp
  obtain⟨adx,cs2,hax,⟨he2,-⟩,-,hat⟩:=hbz.load (by decide) (show (bcs.zip f.bars)[i]? =some (_,p) by rw[List.getElem?_zip_eq_some];exact⟨hcs,hp⟩)
  have he2:cs2=[.int .i64 p.1,.int .i64 p.2.1,.bool g0,.slice g1 g2 g3,.bool g4,.slice g5 g6 g7]:=he2
  subst he2
  conv=>whnf
  refine⟨adx,hax,⟨by omega,by omega⟩,?_⟩
  conv=>whnf
  refine⟨[.bool g0,.slice g1 g2 g3,.bool g4,.slice g5 g6 g7],rfl,fun ρ w' r j u hu=>?_,?_⟩
  ·have hj4:=(List.getElem?_eq_some_iff.1 hu).1
   obtain⟨k1,k2⟩:=hat (2+j) u (by rcases j with _|_|_|_|j<;>first|exact hu|(have:j+4<4:=hj4;omega))
   rw[cell_of_heap (w:=w) (w2:=w') (by simp only[addB];exact(hw.tr r.bel).block _ (hS _ k1))]
   simp only[Int.toNat_natCast,addA]at k2 ⊢
   first|exact k2|(rw [←k2];congr 2;omega)
  conv=>whnf
  refine callE_S (callE_con (Φ:=fun _ w' v w2=>∃d,v= .bool d∧(d=true→Few3 [.bool g0,.slice g1 g2 g3,.bool g4,.slice g5 g6 g7])) (fun ρ w' r=>(brief_c (S:=fun g=>g=(ρ 1).g) (css:=[[.bool g0,.slice g1 g2 g3,.bool g4,.slice g5 g6 g7]]) (fun g hg=>by subst hg;exact Rel.lt r (id:=1) rfl) (r.boxSeq (id:=1) (sz:=4) (n:=1) rfl rfl (by decide) (by repeat' first|refine List.forall_mem_cons.2 ⟨rfl,?_⟩|exact fun u hu=>absurd hu List.not_mem_nil)) (fun cs hc=>by rw[List.mem_singleton.1 hc];exact⟨_,_,_,_,_,_,_,_,rfl⟩)).mono fun _ _ ⟨v2,e1,e2,d,e3,e4⟩=>⟨v2,e1,e2,d,e3,fun h=>(e4 h).2 _ List.mem_cons_self⟩) ?_)
  rintro ρ wa1 v1 wb1 r he hb ⟨d2,rfl,hz2⟩
  replace hw:=hw.tr hb
  clear r he hb
  generalize (wa1.heap.size,wb1.heap.size)::iv=iv1 at*
  cases d2
  ·conv=>whnf
   intro ρe we re
   exact⟨_,rfl,hw.tr re.bel,_,rfl,fun h=>by cases h⟩
  have hE2:∀j cs,j<i+1→bcs[j]? =some cs→Few3 (cs.drop 2):=fun j cs hj hc=>by
   rcases Nat.lt_or_ge j i with h|h
   ·exact hB j cs h hc
   ·have:j=i:=by omega
    subst this
    rw[hcs]at hc
    injection hc with hc
    subst hc
    exact hz2 rfl
  conv=>whnf
  refine⟨((i+1:Nat):Int),by rw[wrap64]<;>omega,?_⟩
  conv=>whnf
  intro ρ3 w6 r3
  exact⟨(i+1,w6,_),⟨hib,hw.tr r3.bel,hE2⟩,Sub.gen [] r3 ⟨rfl,trivial⟩ ⟨rfl,rfl,trivial⟩ (by simp[ScH,Blk.scopd,At.sc]) (by simp[ScE,SV.sc,At.sc,initE]) (by rfl) (fun lo hi h=>h),by dsimp only;omega⟩
 have hib:i=f.bars.length:=Nat.le_antisymm hi (by simpa using hib)
 subst hib
 clear hi
 conv=>whnf
 refine⟨Nat×World×Iv,fun z=>⟨[(1,.o (.p 0 0)),(4,.o (.v (.int .i64 ((z.1:Nat):Int))))],[(0,.box T.Frame [.v (.slice an f.nodes.length cn),.v (.slice ab f.bars.length cb),.v (.slice aq f.sups.length cq)])],1,z.2.2,z.2.1⟩,fun z=>f.sups.length-z.1,
  fun z=>z.1≤f.sups.length∧Bel w.heap.size w z.2.1∧∀(j:Nat) (cs:List Value),j<z.1→qcs[j]? =some cs→Few3 (cs.drop 2),?_,?_⟩
 ·intro ρ w' r3
  exact⟨(0,w',_),⟨Nat.zero_le _,hw.tr r3.bel,fun j cs hj=>absurd hj (Nat.not_lt_zero j)⟩,Sub.gen [] r3 ⟨rfl,trivial⟩ ⟨rfl,rfl,trivial⟩ (by simp[ScH,Blk.scopd,At.sc]) (by simp[ScE,SV.sc,At.sc,initE]) (by rfl) (fun lo hi h=>h)⟩
 clear hw
 rintro⟨i,w1,iv⟩ ⟨hi,hw,hQ⟩
 dsimp only at hi hw hQ ⊢
 conv=>whnf
 refine BrS.mk (fun hib=>?_) (fun hib=>?_)
 ·have hib:i<f.sups.length:=by simpa using hib
  obtain⟨cs,hcs⟩:∃cs,qcs[i]? =some cs:=⟨_,List.getElem?_eq_getElem (by omega)⟩
  obtain⟨p,hp⟩:∃p,f.sups[i]? =some p:=⟨_,List.getElem?_eq_getElem hib⟩
  obtain⟨g0,g1,g2,g3,g4,g5,g6,g7,rfl,-⟩:=hq4 i cs p hcs hp
  obtain⟨adx,cs2,hax,⟨he2,-⟩,-,hat⟩:=hqz.load (by decide) (show (qcs.zip f.sups)[i]? =some (_,p) by rw[List.getElem?_zip_eq_some];exact⟨hcs,hp⟩)
  have he2:cs2=[.int .i64 p.1,.int .i64 p.2.1,.bool g0,.slice g1 g2 g3,.bool g4,.slice g5 g6 g7]:=he2
  subst he2
  conv=>whnf
  refine⟨adx,hax,⟨by omega,by omega⟩,?_⟩
  conv=>whnf
  refine⟨[.bool g0,.slice g1 g2 g3,.bool g4,.slice g5 g6 g7],rfl,fun ρ w' r j u hu=>?_,?_⟩
  ·have hj4:=(List.getElem?_eq_some_iff.1 hu).1
   obtain⟨k1,k2⟩:=hat (2+j) u (by rcases j with _|_|_|_|j<;>first|exact hu|(have:j+4<4:=hj4;omega))
   rw[cell_of_heap (w:=w) (w2:=w') (by simp only[addB];exact(hw.tr r.bel).block _ (hS _ k1))]
   simp only[Int.toNat_natCast,addA]at k2 ⊢
   first|exact k2|(rw [←k2];congr 2;omega)
  conv=>whnf
  refine callE_S (callE_con (Φ:=fun _ w' v w2=>∃d,v= .bool d∧(d=true→Few3 [.bool g0,.slice g1 g2 g3,.bool g4,.slice g5 g6 g7])) (fun ρ w' r=>(brief_c (S:=fun g=>g=(ρ 1).g) (css:=[[.bool g0,.slice g1 g2 g3,.bool g4,.slice g5 g6 g7]]) (fun g hg=>by subst hg;exact Rel.lt r (id:=1) rfl) (r.boxSeq (id:=1) (sz:=4) (n:=1) rfl rfl (by decide) (by repeat' first|refine List.forall_mem_cons.2 ⟨rfl,?_⟩|exact fun u hu=>absurd hu List.not_mem_nil)) (fun cs hc=>by rw[List.mem_singleton.1 hc];exact⟨_,_,_,_,_,_,_,_,rfl⟩)).mono fun _ _ ⟨v2,e1,e2,d,e3,e4⟩=>⟨v2,e1,e2,d,e3,fun h=>(e4 h).2 _ List.mem_cons_self⟩) ?_)
  rintro ρ wa1 v1 wb1 r he hb ⟨d2,rfl,hz2⟩
  replace hw:=hw.tr hb
  clear r he hb
  generalize (wa1.heap.size,wb1.heap.size)::iv=iv1 at*
  cases d2
  ·conv=>whnf
   intro ρe we re
   exact⟨_,rfl,hw.tr re.bel,_,rfl,fun h=>by cases h⟩
  have hE2:∀j cs,j<i+1→qcs[j]? =some cs→Few3 (cs.drop 2):=fun j cs hj hc=>by
   rcases Nat.lt_or_ge j i with h|h
   ·exact hQ j cs h hc
   ·have:j=i:=by omega
    subst this
    rw[hcs]at hc
    injection hc with hc
    subst hc
    exact hz2 rfl
  conv=>whnf
  refine⟨((i+1:Nat):Int),by rw[wrap64]<;>omega,?_⟩
  conv=>whnf
  intro ρ3 w6 r3
  exact⟨(i+1,w6,_),⟨hib,hw.tr r3.bel,hE2⟩,Sub.gen [] r3 ⟨rfl,trivial⟩ ⟨rfl,rfl,trivial⟩ (by simp[ScH,Blk.scopd,At.sc]) (by simp[ScE,SV.sc,At.sc,initE]) (by rfl) (fun lo hi h=>h),by dsimp only;omega⟩
 have hib:i=f.sups.length:=Nat.le_antisymm hi (by simpa using hib)
 subst hib
 clear hi
 obtain⟨kb,kb2⟩:=TwosL.of hb4 hbQ hbl hB
 obtain⟨kq,kq2⟩:=TwosL.of hq4 hqQ hql hQ
 have hR:FrameR w S (.slice an f.nodes.length cn) (.slice ab f.bars.length cb) (.slice aq f.sups.length cq) f.val:=⟨hf.nodes,kb,kq⟩
 conv=>whnf
 refine callE_S (callE_con (Φ:=fun _ w' v w2=>v= .int .i64 (errF f.val)) (fun ρ w' r=>rCheck_c (fun g hg=>by have:=hS g hg;have:=r.baseLe;omega) (hR.keep fun g hg=>(hw.tr r.bel).block g (hS g hg))) ?_)
 rintro ρ wa1 v1 wb1 r he hb rfl
 replace hw:=hw.tr hb
 clear r he hb
 generalize (wa1.heap.size,wb1.heap.size)::iv=iv1 at*
 obtain⟨e,he⟩:∃e,errF f.val=e:=⟨_,rfl⟩
 rw[he]
 conv=>whnf
 refine BrS.mk (fun hd=>?_) (fun hd=>?_)
 ·have hd:e≠0:=by simpa using hd
  conv=>whnf
  intro ρe we re
  exact⟨_,rfl,hw.tr re.bel,_,rfl,fun _=>⟨hR,kb2,kq2,.inl hd⟩⟩
 have hd:e=0:=by simpa using hd
 conv=>whnf
 refine BrS.mk (fun h4=>?_) (fun h4=>?_)
 ·have h4:=of_decide_eq_true h4
  conv=>whnf
  intro ρe we re
  exact⟨_,rfl,hw.tr re.bel,_,rfl,fun h=>⟨hR,kb2,kq2,.inr ⟨by show f.nodes.length≤4;omega,by show(f.bars.map twoV).length≤6;rw[List.length_map];have:=of_decide_eq_true h;omega⟩⟩⟩
 conv=>whnf
 intro ρe we re
 exact⟨_,rfl,hw.tr re.bel,_,rfl,fun h=>by cases h⟩
set_option maxHeartbeats 1000000 in
theorem ranges_c{S:Nat→Prop}{w:World}{v:Value}{xs:List ((Int×Int)×(Int×Int))}(hS:Old S w)(hq:StepsW w S v xs):
  Con PG N.law05_ranges #[v] w (Ret w fun v' _=>∃d,v'= .bool d∧(d=true→xs.length≤65∧StepsL w S v (xs.map stepV))):=by
 have hw:Bel w.heap.size w w:=Bel.refl
 obtain⟨css,hcl,hz,hP,hQ⟩:=hq.cells
 obtain⟨a,c,rfl,hc,hm⟩:=hq.shape
 unfold maxLen at hm
 have hval:(∀j cs,j<xs.length→css[j]? =some cs→Few3 (cs.take 4)∧Few3 (cs.drop 4))→StepsL w S (.slice a xs.length c) (xs.map stepV):=fun h=>by
  refine hQ StepP _ (List.length_map ..) fun j cs q h1 h2=>?_
  rw[List.getElem?_map]at h2
  obtain⟨p,hp,rfl⟩:=Option.map_eq_some_iff.1 h2
  obtain⟨b0,a0,n0,c0,b1,a1,n1,c1,b2,a2,n2,c2,b3,a3,n3,c3,rfl,h3,h4⟩:=hP j cs p h1 hp
  obtain⟨f1,f2⟩:=h j _ (List.getElem?_eq_some_iff.1 hp).1 h1
  exact⟨b0,a0,n0,c0,b1,a1,n1,c1,b2,a2,n2,c2,b3,a3,n3,c3,rfl,h3.l3 f1,h4.l3 f2⟩
 refine in_law05_ranges (by simp) ?_
 conv=>whnf
 refine⟨Nat×World×Iv,fun z=>⟨[(0,.o (.v (.slice a xs.length c))),(3,.o (.v (.int .i64 ((z.1:Nat):Int))))],[],0,z.2.2,z.2.1⟩,fun z=>xs.length-z.1,
  fun z=>z.1≤xs.length∧Bel w.heap.size w z.2.1∧∀j cs,j<z.1→css[j]? =some cs→Few3 (cs.take 4)∧Few3 (cs.drop 4),?_,?_⟩
 ·intro ρ w' r3
  exact⟨(0,w',[]),⟨Nat.zero_le _,hw.tr r3.bel,fun j cs hj=>absurd hj (Nat.not_lt_zero j)⟩,Sub.gen [] r3 trivial ⟨rfl,rfl,trivial⟩ (by simp[ScH,Blk.scopd,At.sc]) (by simp[ScE,SV.sc,At.sc,initE]) (by rfl) (fun lo hi h=>h)⟩
 clear hw
 rintro⟨i,w1,iv⟩ ⟨hi,hw,hE⟩
 dsimp only at hi hw hE ⊢
 conv=>whnf
 refine BrS.mk (fun hib=>?_) (fun hib=>?_)
 ·have hib:i<xs.length:=by simpa using hib
  conv=>whnf
  refine BrS.mk (fun h6=>?_) (fun h6=>?_)
  ·obtain⟨cs,hcs⟩:∃cs,css[i]? =some cs:=⟨_,List.getElem?_eq_getElem (by omega)⟩
   obtain⟨p,hp⟩:∃p,xs[i]? =some p:=⟨_,List.getElem?_eq_getElem hib⟩
   obtain⟨b0,a0,n0,c0,b1,a1,n1,c1,b2,a2,n2,c2,b3,a3,n3,c3,rfl,-,-⟩:=hP i cs p hcs hp
   obtain⟨adx,cs2,hax,⟨he2,-⟩,-,hat⟩:=hz.load (by decide) (show (css.zip xs)[i]? =some (_,p) by rw[List.getElem?_zip_eq_some];exact⟨hcs,hp⟩)
   have he2:cs2=[.bool b0,.slice a0 n0 c0,.bool b1,.slice a1 n1 c1,.bool b2,.slice a2 n2 c2,.bool b3,.slice a3 n3 c3]:=he2
   subst he2
   conv=>whnf
   refine drawn_of_pi hτ hmix [.x 0,.x 1,.x 2,.x 3,.x 4,.x 5,.x 6,.x 7,.x 8,.x 9,.x 10,.x 11,.x 12] (by kernel_rfl) (by kernel_rfl) ?_
   conv=>whnf
   refine⟨adx,hax,⟨by omega,by omega⟩,?_⟩
   conv=>whnf
   refine⟨[.bool b0,.slice a0 n0 c0,.bool b1,.slice a1 n1 c1],rfl,fun ρ w' r j u hu=>?_,?_⟩
   ·have hj4:=(List.getElem?_eq_some_iff.1 hu).1
    obtain⟨k1,k2⟩:=hat (0+j) u (by rcases j with _|_|_|_|j<;>first|exact hu|(have:j+4<4:=hj4;omega))
    rw[Int.toNat_natCast,cell_of_heap (w:=w) (w2:=w') (by simp only[addB];exact(hw.tr r.bel).block _ (hS _ k1))]
    simp only[addA]at k2 ⊢
    first|exact k2|(rw [←k2];congr 2;omega)
   conv=>whnf
   refine⟨adx,hax,⟨by omega,by omega⟩,?_⟩
   conv=>whnf
   refine⟨[.bool b2,.slice a2 n2 c2,.bool b3,.slice a3 n3 c3],rfl,fun ρ w' r j u hu=>?_,?_⟩
   ·have hj4:=(List.getElem?_eq_some_iff.1 hu).1
    obtain⟨k1,k2⟩:=hat (4+j) u (by rcases j with _|_|_|_|j<;>first|exact hu|(have:j+4<4:=hj4;omega))
    rw[Int.toNat_natCast,cell_of_heap (w:=w) (w2:=w') (by simp only[addB];exact(hw.tr r.bel).block _ (hS _ k1))]
    simp only[addA]at k2 ⊢
    first|exact k2|(rw [←k2];congr 2;omega)
   conv=>whnf
   have hFour:∀cs∈([[.bool b0,.slice a0 n0 c0,.bool b1,.slice a1 n1 c1],[.bool b2,.slice a2 n2 c2,.bool b3,.slice a3 n3 c3]]:List (List Value)),Four cs:=fun cs hc=>by
    rcases List.mem_cons.1 hc with rfl|hc
    ·exact⟨_,_,_,_,_,_,_,_,rfl⟩
    ·rw[List.mem_singleton.1 hc];exact⟨_,_,_,_,_,_,_,_,rfl⟩
   refine callE_con (Φ:=fun _ w' v w2=>∃d,v= .bool d∧(d=true→Few3 [.bool b0,.slice a0 n0 c0,.bool b1,.slice a1 n1 c1]∧Few3 [.bool b2,.slice a2 n2 c2,.bool b3,.slice a3 n3 c3])) (fun ρ w' r=>(brief_c (S:=fun g=>g=(ρ 0).g) (css:=[[.bool b0,.slice a0 n0 c0,.bool b1,.slice a1 n1 c1],[.bool b2,.slice a2 n2 c2,.bool b3,.slice a3 n3 c3]]) (fun g hg=>by subst hg;exact Rel.lt r (id:=0) rfl) (r.boxSeq (id:=0) (sz:=4) (n:=2) rfl rfl (by decide) (by repeat' first|refine List.forall_mem_cons.2 ⟨rfl,?_⟩|exact fun u hu=>absurd hu List.not_mem_nil)) hFour).mono fun _ _ ⟨v2,e1,e2,d,e3,e4⟩=>⟨v2,e1,e2,d,e3,fun h=>⟨(e4 h).2 _ List.mem_cons_self,(e4 h).2 _ (List.mem_cons_of_mem _ List.mem_cons_self)⟩⟩) ?_
   rintro ρ wa1 v1 wb1 r he hb ⟨d1,rfl,hz1⟩
   replace hw:=hw.tr hb
   clear r he hb
   generalize (wa1.heap.size,wb1.heap.size)::iv=iv1 at*
   cases d1
   ·conv=>whnf
    intro ρe we re
    exact⟨_,rfl,hw.tr re.bel,_,rfl,fun h=>by cases h⟩
   have hE2:∀j cs,j<i+1→css[j]? =some cs→Few3 (cs.take 4)∧Few3 (cs.drop 4):=fun j cs hj hc=>by
    rcases Nat.lt_or_ge j i with h|h
    ·exact hE j cs h hc
    ·have:j=i:=by omega
     subst this
     rw[hcs]at hc
     injection hc with hc
     subst hc
     exact hz1 rfl
   conv=>whnf
   refine⟨((i+1:Nat):Int),by rw[wrap64]<;>omega,?_⟩
   conv=>whnf
   intro ρ3 w6 r3
   exact⟨(i+1,w6,_),⟨hib,hw.tr r3.bel,hE2⟩,Sub.gen [] r3 trivial ⟨rfl,rfl,trivial⟩ (by simp[ScH,Blk.scopd,At.sc]) (by simp[ScE,SV.sc,At.sc,initE]) (by rfl) (fun lo hi h=>h),by dsimp only;omega⟩
  ·have h6:=of_decide_eq_false h6
   conv=>whnf
   intro ρe we re
   exact⟨_,rfl,hw.tr re.bel,_,rfl,fun h=>absurd (of_decide_eq_true h) h6⟩
 have hib:i=xs.length:=Nat.le_antisymm hi (by simpa using hib)
 subst hib
 conv=>whnf
 intro ρe we re
 exact⟨_,rfl,hw.tr re.bel,_,rfl,fun h=>⟨by have:=of_decide_eq_true h;omega,hval fun j cs hj hc=>hE j cs hj hc⟩⟩
theorem briefL_c{S:Nat→Prop}{w:World}{v:Value}{xs:List (Int×Int)}(hS:Old S w)(hx:RatsR w S v xs):
  Con PG N.law05_brief #[v] w (Ret w fun v' _=>∃d,v'= .bool d∧(d=true→xs.length≤80∧RatsL w S v (xs.map rq)∧∀q∈xs.map rq,rl q≤3)):=by
 obtain⟨css,h1,h2,h3,h4⟩:=hx
 have hF:∀cs∈css,Four cs:=fun cs hc=>by
  obtain⟨j,hj⟩:=List.getElem?_of_mem hc
  have hjl:=(List.getElem?_eq_some_iff.1 hj).1
  obtain⟨b,a,n,c,b2,a2,n2,c2,e,_⟩:=h4 j cs _ hj (List.getElem?_eq_getElem (by omega))
  exact⟨b,a,n,c,b2,a2,n2,c2,e⟩
 refine(brief_c hS (by rw[h2];exact h1) hF).mono fun _ _ ⟨v2,e1,e2,d,e3,e4⟩=>⟨v2,e1,e2,d,e3,fun h=>?_⟩
 obtain⟨k1,k2⟩:=e4 h
 have key:∀(j:Nat) cs p,css[j]? =some cs→xs[j]? =some p→Rat4L w S cs (rq p)∧rl (rq p)≤3:=fun j cs p m1 m2=>by
  obtain⟨b,a,n,c,b2,a2,n2,c2,rfl,m3⟩:=h4 j cs p m1 m2
  obtain⟨m4,m5⟩:=m3.l3 (k2 _ (List.mem_of_getElem? m1))
  exact⟨⟨b,a,n,c,b2,a2,n2,c2,rfl,m4⟩,m5⟩
 refine⟨by omega,⟨css,by rw[List.length_map];exact h1,by rw[List.length_map];exact h2,h3,fun j cs q m1 m2=>?_⟩,fun q hq=>?_⟩
 ·rw[List.getElem?_map]at m2
  obtain⟨p,hp,rfl⟩:=Option.map_eq_some_iff.1 m2
  exact(key j cs p m1 hp).1
 ·obtain⟨p,hp,rfl⟩:=List.mem_map.1 hq
  obtain⟨j,hj⟩:=List.getElem?_of_mem hp
  have hjl:=(List.getElem?_eq_some_iff.1 hj).1
  exact(key j _ p (List.getElem?_eq_getElem (by omega)) hj).2
end Go.Ex

/- Limits of bars and forces beyond them. Printed by program. No condition but sizes. -/
namespace Go.Ex
open Go Go.Sx Go.Proofs

/-- limits of a bar -/
def limE(q:Rat×Rat):Int:=if q.2<q.1 then 10 else if 0<q.1∨q.2<0 then 2 else 0
def errR(n:Nat)(l:List (Rat×Rat)):Int:=if l.length≠n then 11 else firstE (fun _=>limE) [] l
/-- the first force beyond its limits -/
def brokeF(i:Nat):List Rat→List (Rat×Rat)→Int
 |_,[]=> -1
 |[],_::_=> -1
 |x::xs,r::rs=>if x<r.1∨r.2<x then(i:Int)else brokeF (i+1) xs rs
section
variable{xs:List Rat}{l:List (Rat×Rat)}{i:Nat}{x:Rat}{r:Rat×Rat}
theorem brokeF_hit(hx:xs[i]? =some x)(hr:l[i]? =some r)(h:x<r.1∨r.2<x):brokeF i (xs.drop i) (l.drop i)=i:=by
 rw[List.drop_eq_getElem_cons (List.getElem?_eq_some_iff.1 hx).1,(List.getElem?_eq_some_iff.1 hx).2,List.drop_eq_getElem_cons (List.getElem?_eq_some_iff.1 hr).1,(List.getElem?_eq_some_iff.1 hr).2,brokeF,if_pos h]
theorem brokeF_next(hx:xs[i]? =some x)(hr:l[i]? =some r)(h1:¬x<r.1)(h2:¬r.2<x):brokeF i (xs.drop i) (l.drop i)=brokeF (i+1) (xs.drop (i+1)) (l.drop (i+1)):=by
 rw[List.drop_eq_getElem_cons (List.getElem?_eq_some_iff.1 hx).1,(List.getElem?_eq_some_iff.1 hx).2,List.drop_eq_getElem_cons (List.getElem?_eq_some_iff.1 hr).1,(List.getElem?_eq_some_iff.1 hr).2,brokeF,if_neg (by simp[h1,h2])]
theorem brokeF_end(h:l.length≤i):brokeF i (xs.drop i) (l.drop i)= -1:=by
 rw[List.drop_eq_nil_of_le h,brokeF]
end
/-- what Strong answers: a bar and an error -/
def strongF(f:Frm)(xs:List Rat)(l:List (Rat×Rat)):Int×Int:=
 if errF f≠0 then(0,errF f)else if xs.length≠f.cols then(0,11)else if errR f.bars.length l≠0 then(0,errR f.bars.length l)else(brokeF 0 xs l,0)
theorem sCheckSize_c{S:Nat→Prop}{w:World}{vn vb vs:Value}{f:Frm}{ax:Option Addr}{n cx:Nat}(hf:FrameR w S vn vb vs f)(h60:f.bars.length≤60∧f.sups.length≤60):Con PG N.statics_checkSize #[.agg #[vn,vb,vs],.slice ax n cx] w (Ret w fun v' _=>v'= .int .i64 (if n≠f.cols then 11 else 0)):=by
 have hw:Bel w.heap.size w w:=Bel.refl
 obtain⟨an,cn,ab,cb,aq,cq,rfl,rfl,rfl,hmn,hmb,hms⟩:=hf.shape
 unfold maxLen at hmb hms
 refine in_statics_checkSize (by simp) ?_
 conv=>whnf
 refine⟨((f.bars.length+f.sups.length:Nat):Int),by rw[wrap64]<;>omega,?_⟩
 conv=>whnf
 refine BrS.mk (fun hd=>?_) (fun hd=>?_)
 ·have hd:n≠f.cols:=by intro h;rw[h]at hd;simp[Frm.cols]at hd
  conv=>whnf
  intro ρe we re
  exact⟨_,rfl,hw.tr re.bel,by show Value.int .i64 _=_;rw[if_pos hd]⟩
 have hd:=(show (n:Int)=((f.bars.length+f.sups.length:Nat):Int)from(by simpa using hd))
 replace hd:n=f.cols:=by unfold Frm.cols;omega
 conv=>whnf
 intro ρe we re
 exact⟨_,rfl,hw.tr re.bel,by show Value.int .i64 _=_;rw[if_neg (by simpa using hd)]⟩
theorem rElements_c{S:Nat→Prop}{w:World}{vn vb vs:Value}{f:Frm}(hf:FrameR w S vn vb vs f)(h60:f.bars.length≤60∧f.sups.length≤60):Con PG N.ref05_Elements #[.agg #[vn,vb,vs]] w (Ret w fun v' _=>v'= .int .i64 f.cols):=by
 have hw:Bel w.heap.size w w:=Bel.refl
 obtain⟨an,cn,ab,cb,aq,cq,rfl,rfl,rfl,hmn,hmb,hms⟩:=hf.shape
 refine in_ref05_Elements (by simp) ?_
 conv=>whnf
 refine⟨((f.bars.length+f.sups.length:Nat):Int),by rw[wrap64]<;>omega,?_⟩
 conv=>whnf
 intro ρe we re
 exact⟨_,rfl,hw.tr re.bel,rfl⟩
theorem sCheckLimits_c{S:Nat→Prop}{w:World}{vn vb vs v:Value}{f:Frm}{l:List (Rat×Rat)}(hS:Old S w)(hf:FrameR w S vn vb vs f)(hl:StepsL w S v l):Con PG N.statics_checkLimits #[.agg #[vn,vb,vs],v] w (Ret w fun v' _=>v'= .int .i64 (errR f.bars.length l)):=by
 have hw:Bel w.heap.size w w:=Bel.refl
 obtain⟨an,cn,ab,cb,aq,cq,rfl,rfl,rfl,hmn,hmb,hms⟩:=hf.shape
 obtain⟨a,c,rfl,hc,hm⟩:=hl.shape
 unfold maxLen at hmb hms hm
 refine in_statics_checkLimits (by simp) ?_
 conv=>whnf
 refine BrS.mk (fun hd=>?_) (fun hd=>?_)
 ·have hd:l.length≠f.bars.length:=by intro h;rw[h]at hd;simp at hd
  conv=>whnf
  intro ρe we re
  exact⟨_,rfl,hw.tr re.bel,by show Value.int .i64 _=_;rw[errR,if_pos hd]⟩
 have hd:=(show (l.length:Int)=(f.bars.length:Int)from(by simpa using hd))
 replace hd:l.length=f.bars.length:=by omega
 conv=>whnf
 refine⟨Nat×World×Iv,fun z=>⟨[(13,.o (.v (.slice a l.length c))),(14,.o (.v (.int .i64 l.length))),(15,.o (.v (.int .i64 ((z.1:Nat):Int))))],[],0,z.2.2,z.2.1⟩,fun z=>l.length-z.1,
  fun z=>z.1≤l.length∧Bel w.heap.size w z.2.1∧errR f.bars.length l=firstE (fun _=>limE) (l.take z.1) (l.drop z.1),?_,?_⟩
 ·intro ρ w' r3
  exact⟨(0,w',_),⟨Nat.zero_le _,hw.tr r3.bel,by rw[errR,if_neg (by simpa using hd)];rfl⟩,Sub.gen [] r3 trivial ⟨rfl,rfl,rfl,trivial⟩ (by simp[ScH,Blk.scopd,At.sc]) (by simp[ScE,SV.sc,At.sc,initE]) (by rfl) (fun lo hi h=>h)⟩
 clear hw
 rintro⟨i,w1,iv⟩ ⟨hi,hw,hE⟩
 dsimp only at hi hw hE ⊢
 conv=>whnf
 refine BrS.mk (fun hib=>?_) (fun hib=>?_)
 ·have hib:i<l.length:=by simpa using hib
  obtain⟨q,hq⟩:∃q,l[i]? =some q:=⟨_,List.getElem?_eq_getElem hib⟩
  obtain⟨adq,csq,haq,hFq,-,hlq⟩:=hl.load (by decide) hq
  obtain⟨b0q,a0q,n0q,c0q,b1q,a1q,n1q,c1q,b2q,a2q,n2q,c2q,b3q,a3q,n3q,c3q,rfl,hAq,hVq⟩:=hFq
  conv=>whnf
  refine⟨adq,haq,⟨by omega,by omega⟩,?_⟩
  conv=>whnf
  refine⟨[.bool b0q,.slice a0q n0q c0q,.bool b1q,.slice a1q n1q c1q,.bool b2q,.slice a2q n2q c2q,.bool b3q,.slice a3q n3q c3q],rfl,fun ρ w' r j u hu=>?_,?_⟩
  ·have hj4:=(List.getElem?_eq_some_iff.1 hu).1
   obtain⟨k1,k2⟩:=hlq (0+j) u (by rcases j with _|_|_|_|_|_|_|_|j<;>first|exact hu|(have:j+8<8:=hj4;omega))
   rw[cell_of_heap (w:=w) (w2:=w') (by simp only[addB];exact(hw.tr r.bel).block _ (hS _ k1))]
   simp only[Int.toNat_natCast,Int.toNat_zero,Nat.zero_mul,addA]at k2 ⊢
   first|exact k2|(rw [←k2];congr 2;omega)
  conv=>whnf
  refine callE_S (callE_con (Φ:=fun _ w' v w2=>v= .int .i64 (rs (q.1-q.2))) (fun ρ w' r=>vCmp_c (fun g hg=>by have:=hS g hg;have:=r.baseLe;omega) (hAq.1.v.keep fun g hg=>(hw.tr r.bel).block g (hS g hg)) (hVq.1.v.keep fun g hg=>(hw.tr r.bel).block g (hS g hg))) ?_)
  rintro ρ wa1 v1 wb1 r he hb rfl
  replace hw:=hw.tr hb
  clear r he hb
  generalize (wa1.heap.size,wb1.heap.size)::iv=iv1 at*
  obtain⟨cf,hcf⟩:∃c,rs (q.1-q.2)=c:=⟨_,rfl⟩
  rw[hcf]
  conv=>whnf
  refine BrS.mk (fun k1=>?_) (fun k1=>?_)
  ·have k1:q.2<q.1:=by have:=of_decide_eq_true k1;rw[←rs_sub_pos];omega
   conv=>whnf
   intro ρe we re
   exact⟨_,rfl,hw.tr re.bel,by show Value.int .i64 _=_;rw[hE,firstE_ret hq (show limE q=10 by rw[limE,if_pos k1]) (by decide)]⟩
  have k1:¬q.2<q.1:=by have:=of_decide_eq_false k1;rw[←rs_sub_pos];omega
  conv=>whnf
  refine callE_S (callE_con (Φ:=fun _ w' v w2=>v= .int .i64 (rs q.1)) (fun ρ w' r=>(vCmp_c (fun g hg=>by have:=hS g hg;have:=r.baseLe;omega) (hAq.1.v.keep fun g hg=>(hw.tr r.bel).block g (hS g hg)) (RatL.zero (S:=S)).v).mono fun _ _ ⟨v2,e1,e2,e3⟩=>⟨v2,e1,e2,by rw[e3,rs_sub_zero]⟩) ?_)
  rintro ρ wa2 v2 wb2 r he hb rfl
  replace hw:=hw.tr hb
  clear r he hb
  generalize (wa2.heap.size,wb2.heap.size)::iv1=iv2 at*
  obtain⟨cs1,hcs1⟩:∃c,rs q.1=c:=⟨_,rfl⟩
  rw[hcs1]
  conv=>whnf
  refine BrS.mk (fun k2=>?_) (fun k2=>?_)
  ·have k2:0<q.1:=by have:=of_decide_eq_true k2;rw[←rs_pos_iff];omega
   conv=>whnf
   intro ρe we re
   exact⟨_,rfl,hw.tr re.bel,by show Value.int .i64 _=_;rw[hE,firstE_ret hq (show limE q=2 by rw[limE,if_neg k1,if_pos (.inl k2)]) (by decide)]⟩
  have k2:¬0<q.1:=by have:=of_decide_eq_false k2;rw[←rs_pos_iff];omega
  conv=>whnf
  refine callE_S (callE_con (Φ:=fun _ w' v w2=>v= .int .i64 (rs q.2)) (fun ρ w' r=>(vCmp_c (fun g hg=>by have:=hS g hg;have:=r.baseLe;omega) (hVq.1.v.keep fun g hg=>(hw.tr r.bel).block g (hS g hg)) (RatL.zero (S:=S)).v).mono fun _ _ ⟨v2,e1,e2,e3⟩=>⟨v2,e1,e2,by rw[e3,rs_sub_zero]⟩) ?_)
  rintro ρ wa3 v3 wb3 r he hb rfl
  replace hw:=hw.tr hb
  clear r he hb
  generalize (wa3.heap.size,wb3.heap.size)::iv2=iv3 at*
  obtain⟨cs2,hcs2⟩:∃c,rs q.2=c:=⟨_,rfl⟩
  rw[hcs2]
  conv=>whnf
  refine BrS.mk (fun k3=>?_) (fun k3=>?_)
  ·have k3:q.2<0:=by have:=of_decide_eq_true k3;rw[←rs_neg_iff];omega
   conv=>whnf
   intro ρe we re
   exact⟨_,rfl,hw.tr re.bel,by show Value.int .i64 _=_;rw[hE,firstE_ret hq (show limE q=2 by rw[limE,if_neg k1,if_pos (.inr k3)]) (by decide)]⟩
  have k3:¬q.2<0:=by have:=of_decide_eq_false k3;rw[←rs_neg_iff];omega
  rw[firstE_step hq (show limE q=0 by rw[limE,if_neg k1,if_neg (by simp[k2,k3])])]at hE
  conv=>whnf
  refine⟨((i+1:Nat):Int),by rw[wrap64]<;>omega,?_⟩
  conv=>whnf
  intro ρ3 w6 r3
  exact⟨(i+1,w6,_),⟨hib,hw.tr r3.bel,hE⟩,Sub.gen [] r3 trivial ⟨rfl,rfl,rfl,trivial⟩ (by simp[ScH,Blk.scopd,At.sc]) (by simp[ScE,SV.sc,At.sc,initE]) (by rfl) (fun lo hi h=>h),by dsimp only;omega⟩
 have hib:i=l.length:=Nat.le_antisymm hi (by simpa using hib)
 rw[firstE_end (by omega)]at hE
 conv=>whnf
 intro ρe we re
 exact⟨_,rfl,hw.tr re.bel,by show Value.int .i64 _=_;rw[hE]⟩
theorem rCheckLimits_c{S:Nat→Prop}{w:World}{vn vb vs v:Value}{f:Frm}{l:List (Rat×Rat)}(hS:Old S w)(hf:FrameR w S vn vb vs f)(hl:StepsL w S v l):Con PG N.ref05_CheckLimits #[.agg #[vn,vb,vs],v] w (Ret w fun v' _=>v'= .int .i64 (errR f.bars.length l)):=by
 have hw:Bel w.heap.size w w:=Bel.refl
 obtain⟨an,cn,ab,cb,aq,cq,rfl,rfl,rfl,hmn,hmb,hms⟩:=hf.shape
 obtain⟨a,c,rfl,hc,hm⟩:=hl.shape
 unfold maxLen at hmb hms hm
 refine in_ref05_CheckLimits (by simp) ?_
 conv=>whnf
 refine BrS.mk (fun hd=>?_) (fun hd=>?_)
 ·have hd:l.length≠f.bars.length:=by intro h;rw[h]at hd;simp at hd
  conv=>whnf
  intro ρe we re
  exact⟨_,rfl,hw.tr re.bel,by show Value.int .i64 _=_;rw[errR,if_pos hd]⟩
 have hd:=(show (l.length:Int)=(f.bars.length:Int)from(by simpa using hd))
 replace hd:l.length=f.bars.length:=by omega
 conv=>whnf
 refine⟨Nat×World×Iv,fun z=>⟨[(1,.o (.v (.slice a l.length c))),(5,.o (.v (.int .i64 ((z.1:Nat):Int))))],[],0,z.2.2,z.2.1⟩,fun z=>l.length-z.1,
  fun z=>z.1≤l.length∧Bel w.heap.size w z.2.1∧errR f.bars.length l=firstE (fun _=>limE) (l.take z.1) (l.drop z.1),?_,?_⟩
 ·intro ρ w' r3
  exact⟨(0,w',_),⟨Nat.zero_le _,hw.tr r3.bel,by rw[errR,if_neg (by simpa using hd)];rfl⟩,Sub.gen [] r3 trivial ⟨rfl,rfl,trivial⟩ (by simp[ScH,Blk.scopd,At.sc]) (by simp[ScE,SV.sc,At.sc,initE]) (by rfl) (fun lo hi h=>h)⟩
 clear hw
 rintro⟨i,w1,iv⟩ ⟨hi,hw,hE⟩
 dsimp only at hi hw hE ⊢
 conv=>whnf
 refine BrS.mk (fun hib=>?_) (fun hib=>?_)
 ·have hib:i<l.length:=by simpa using hib
  obtain⟨q,hq⟩:∃q,l[i]? =some q:=⟨_,List.getElem?_eq_getElem hib⟩
  obtain⟨adq,csq,haq,hFq,-,hlq⟩:=hl.load (by decide) hq
  obtain⟨b0q,a0q,n0q,c0q,b1q,a1q,n1q,c1q,b2q,a2q,n2q,c2q,b3q,a3q,n3q,c3q,rfl,hAq,hVq⟩:=hFq
  conv=>whnf
  refine drawn_of_pi hτ hmix [.x 0,.x 1,.x 2,.x 3,.x 4,.x 5,.x 6,.x 7,.x 8,.x 9,.x 10,.x 11] (by kernel_rfl) (by kernel_rfl) ?_
  conv=>whnf
  refine⟨adq,haq,⟨by omega,by omega⟩,?_⟩
  conv=>whnf
  refine⟨[.bool b0q,.slice a0q n0q c0q,.bool b1q,.slice a1q n1q c1q],rfl,fun ρ w' r j u hu=>?_,?_⟩
  ·have hj4:=(List.getElem?_eq_some_iff.1 hu).1
   obtain⟨k1,k2⟩:=hlq (0+j) u (by rcases j with _|_|_|_|j<;>first|exact hu|(have:j+4<4:=hj4;omega))
   rw[cell_of_heap (w:=w) (w2:=w') (by simp only[addB];exact(hw.tr r.bel).block _ (hS _ k1))]
   simp only[Int.toNat_natCast,Int.toNat_zero,Nat.zero_mul,addA]at k2 ⊢
   first|exact k2|(rw [←k2];congr 2;omega)
  conv=>whnf
  refine⟨adq,haq,⟨by omega,by omega⟩,?_⟩
  conv=>whnf
  refine⟨[.bool b2q,.slice a2q n2q c2q,.bool b3q,.slice a3q n3q c3q],rfl,fun ρ w' r j u hu=>?_,?_⟩
  ·have hj4:=(List.getElem?_eq_some_iff.1 hu).1
   obtain⟨k1,k2⟩:=hlq (4+j) u (by rcases j with _|_|_|_|j<;>first|exact hu|(have:j+4<4:=hj4;omega))
   rw[cell_of_heap (w:=w) (w2:=w') (by simp only[addB];exact(hw.tr r.bel).block _ (hS _ k1))]
   simp only[Int.toNat_natCast,Int.toNat_zero,Nat.zero_mul,addA]at k2 ⊢
   first|exact k2|(rw [←k2];congr 2;omega)
  conv=>whnf
  refine callE_con (Φ:=fun _ w' v w2=>v= .int .i64 (rs (q.1-q.2))) (fun ρ w' r=>rCmp_c (fun g hg=>by have:=hS g hg;have:=r.baseLe;omega) (hAq.1.keep fun g hg=>(hw.tr r.bel).block g (hS g hg)) (hVq.1.keep fun g hg=>(hw.tr r.bel).block g (hS g hg))) ?_
  rintro ρ wa1 v1 wb1 r he hb rfl
  replace hw:=hw.tr hb
  clear r he hb
  generalize (wa1.heap.size,wb1.heap.size)::iv=iv1 at*
  obtain⟨cf,hcf⟩:∃c,rs (q.1-q.2)=c:=⟨_,rfl⟩
  rw[hcf]
  conv=>whnf
  refine BrS.mk (fun k1=>?_) (fun k1=>?_)
  ·have k1:q.2<q.1:=by have:=of_decide_eq_true k1;rw[←rs_sub_pos];omega
   conv=>whnf
   intro ρe we re
   exact⟨_,rfl,hw.tr re.bel,by show Value.int .i64 _=_;rw[hE,firstE_ret hq (show limE q=10 by rw[limE,if_pos k1]) (by decide)]⟩
  have k1:¬q.2<q.1:=by have:=of_decide_eq_false k1;rw[←rs_sub_pos];omega
  conv=>whnf
  refine⟨adq,haq,⟨by omega,by omega⟩,?_⟩
  conv=>whnf
  refine⟨[.bool b0q,.slice a0q n0q c0q,.bool b1q,.slice a1q n1q c1q],rfl,fun ρ w' r j u hu=>?_,?_⟩
  ·have hj4:=(List.getElem?_eq_some_iff.1 hu).1
   obtain⟨k1,k2⟩:=hlq (0+j) u (by rcases j with _|_|_|_|j<;>first|exact hu|(have:j+4<4:=hj4;omega))
   rw[cell_of_heap (w:=w) (w2:=w') (by simp only[addB];exact(hw.tr r.bel).block _ (hS _ k1))]
   simp only[Int.toNat_natCast,Int.toNat_zero,Nat.zero_mul,addA]at k2 ⊢
   first|exact k2|(rw [←k2];congr 2;omega)
  conv=>whnf
  refine callE_S (callE_con (Φ:=fun _ w' v w2=>v= .int .i64 (rs q.1)) (fun ρ w' r=>rSignOfF_c (fun g hg=>by have:=hS g hg;have:=r.baseLe;omega) (hAq.1.keep fun g hg=>(hw.tr r.bel).block g (hS g hg))) ?_)
  rintro ρ wa2 v2 wb2 r he hb rfl
  replace hw:=hw.tr hb
  clear r he hb
  generalize (wa2.heap.size,wb2.heap.size)::iv1=iv2 at*
  obtain⟨cs1,hcs1⟩:∃c,rs q.1=c:=⟨_,rfl⟩
  rw[hcs1]
  conv=>whnf
  refine BrS.mk (fun k2=>?_) (fun k2=>?_)
  ·have k2:0<q.1:=by have:=of_decide_eq_true k2;rw[←rs_pos_iff];omega
   conv=>whnf
   intro ρe we re
   exact⟨_,rfl,hw.tr re.bel,by show Value.int .i64 _=_;rw[hE,firstE_ret hq (show limE q=2 by rw[limE,if_neg k1,if_pos (.inl k2)]) (by decide)]⟩
  have k2:¬0<q.1:=by have:=of_decide_eq_false k2;rw[←rs_pos_iff];omega
  conv=>whnf
  refine⟨adq,haq,⟨by omega,by omega⟩,?_⟩
  conv=>whnf
  refine⟨[.bool b2q,.slice a2q n2q c2q,.bool b3q,.slice a3q n3q c3q],rfl,fun ρ w' r j u hu=>?_,?_⟩
  ·have hj4:=(List.getElem?_eq_some_iff.1 hu).1
   obtain⟨k1,k2⟩:=hlq (4+j) u (by rcases j with _|_|_|_|j<;>first|exact hu|(have:j+4<4:=hj4;omega))
   rw[cell_of_heap (w:=w) (w2:=w') (by simp only[addB];exact(hw.tr r.bel).block _ (hS _ k1))]
   simp only[Int.toNat_natCast,Int.toNat_zero,Nat.zero_mul,addA]at k2 ⊢
   first|exact k2|(rw [←k2];congr 2;omega)
  conv=>whnf
  refine callE_S (callE_con (Φ:=fun _ w' v w2=>v= .int .i64 (rs q.2)) (fun ρ w' r=>rSignOfF_c (fun g hg=>by have:=hS g hg;have:=r.baseLe;omega) (hVq.1.keep fun g hg=>(hw.tr r.bel).block g (hS g hg))) ?_)
  rintro ρ wa3 v3 wb3 r he hb rfl
  replace hw:=hw.tr hb
  clear r he hb
  generalize (wa3.heap.size,wb3.heap.size)::iv2=iv3 at*
  obtain⟨cs2,hcs2⟩:∃c,rs q.2=c:=⟨_,rfl⟩
  rw[hcs2]
  conv=>whnf
  refine BrS.mk (fun k3=>?_) (fun k3=>?_)
  ·have k3:q.2<0:=by have:=of_decide_eq_true k3;rw[←rs_neg_iff];omega
   conv=>whnf
   intro ρe we re
   exact⟨_,rfl,hw.tr re.bel,by show Value.int .i64 _=_;rw[hE,firstE_ret hq (show limE q=2 by rw[limE,if_neg k1,if_pos (.inr k3)]) (by decide)]⟩
  have k3:¬q.2<0:=by have:=of_decide_eq_false k3;rw[←rs_neg_iff];omega
  rw[firstE_step hq (show limE q=0 by rw[limE,if_neg k1,if_neg (by simp[k2,k3])])]at hE
  conv=>whnf
  refine⟨((i+1:Nat):Int),by rw[wrap64]<;>omega,?_⟩
  conv=>whnf
  intro ρ3 w6 r3
  exact⟨(i+1,w6,_),⟨hib,hw.tr r3.bel,hE⟩,Sub.gen [] r3 trivial ⟨rfl,rfl,trivial⟩ (by simp[ScH,Blk.scopd,At.sc]) (by simp[ScE,SV.sc,At.sc,initE]) (by rfl) (fun lo hi h=>h),by dsimp only;omega⟩
 have hib:i=l.length:=Nat.le_antisymm hi (by simpa using hib)
 rw[firstE_end (by omega)]at hE
 conv=>whnf
 intro ρe we re
 exact⟨_,rfl,hw.tr re.bel,by show Value.int .i64 _=_;rw[hE]⟩
theorem sBroken_c{S:Nat→Prop}{w:World}{u v:Value}{xs:List Rat}{l:List (Rat×Rat)}(hS:Old S w)(hx:RatsL w S u xs)(hl:StepsL w S v l)(hlen:l.length≤xs.length):Con PG N.statics_broken #[u,v] w (Ret w fun v' _=>v'= .int .i64 (brokeF 0 xs l)):=by
 have hw:Bel w.heap.size w w:=Bel.refl
 obtain⟨ax,cx,rfl,hcx,hmx⟩:=ListR.shape hx
 obtain⟨a,c,rfl,hc,hm⟩:=hl.shape
 unfold maxLen at hm hmx
 refine in_statics_broken (by simp) ?_
 conv=>whnf
 refine⟨Nat×World×Iv,fun z=>⟨[(0,.o (.v (.slice ax xs.length cx))),(7,.o (.v (.slice a l.length c))),(8,.o (.v (.int .i64 l.length))),(9,.o (.v (.int .i64 ((z.1:Nat):Int))))],[],0,z.2.2,z.2.1⟩,fun z=>l.length-z.1,
  fun z=>z.1≤l.length∧Bel w.heap.size w z.2.1∧brokeF 0 xs l=brokeF z.1 (xs.drop z.1) (l.drop z.1),?_,?_⟩
 ·intro ρ w' r3
  exact⟨(0,w',_),⟨Nat.zero_le _,hw.tr r3.bel,rfl⟩,Sub.gen [] r3 trivial ⟨rfl,rfl,rfl,rfl,trivial⟩ (by simp[ScH,Blk.scopd,At.sc]) (by simp[ScE,SV.sc,At.sc,initE]) (by rfl) (fun lo hi h=>h)⟩
 clear hw
 rintro⟨i,w1,iv⟩ ⟨hi,hw,hE⟩
 dsimp only at hi hw hE ⊢
 conv=>whnf
 refine BrS.mk (fun hib=>?_) (fun hib=>?_)
 ·have hib:i<l.length:=by simpa using hib
  obtain⟨q,hq⟩:∃q,l[i]? =some q:=⟨_,List.getElem?_eq_getElem hib⟩
  obtain⟨x,hxi⟩:∃x,xs[i]? =some x:=⟨_,List.getElem?_eq_getElem (by omega)⟩
  obtain⟨adx,csx,hax,hFx,-,hlx⟩:=ListR.load hx hxi
  obtain⟨f0,f1,f2,f3,f4,f5,f6,f7,rfl,hFx⟩:=hFx
  obtain⟨adq,csq,haq,hFq,-,hlq⟩:=hl.load (by decide) hq
  obtain⟨b0q,a0q,n0q,c0q,b1q,a1q,n1q,c1q,b2q,a2q,n2q,c2q,b3q,a3q,n3q,c3q,rfl,hAq,hVq⟩:=hFq
  conv=>whnf
  refine⟨adq,haq,⟨by omega,by omega⟩,?_⟩
  conv=>whnf
  refine⟨[.bool b0q,.slice a0q n0q c0q,.bool b1q,.slice a1q n1q c1q,.bool b2q,.slice a2q n2q c2q,.bool b3q,.slice a3q n3q c3q],rfl,fun ρ w' r j u hu=>?_,?_⟩
  ·have hj4:=(List.getElem?_eq_some_iff.1 hu).1
   obtain⟨k1,k2⟩:=hlq (0+j) u (by rcases j with _|_|_|_|_|_|_|_|j<;>first|exact hu|(have:j+8<8:=hj4;omega))
   rw[cell_of_heap (w:=w) (w2:=w') (by simp only[addB];exact(hw.tr r.bel).block _ (hS _ k1))]
   simp only[Int.toNat_natCast,Int.toNat_zero,Nat.zero_mul,addA]at k2 ⊢
   first|exact k2|(rw [←k2];congr 2;omega)
  conv=>whnf
  refine drawn_of_pi hτ hmix [.x 0,.x 1,.x 2,.x 3,.x 4,.x 5,.x 6,.x 7,.x 8,.x 9,.x 10,.x 11,.x 12,.x 13,.x 14,.x 15,.x 16,.x 17] (by kernel_rfl) (by kernel_rfl) ?_
  conv=>whnf
  refine⟨adx,hax,⟨by omega,by omega⟩,?_⟩
  conv=>whnf
  refine⟨[.bool f0,.slice f1 f2 f3,.bool f4,.slice f5 f6 f7],rfl,fun ρ w' r j u hu=>?_,?_⟩
  ·obtain⟨k1,k2⟩:=hlx j u hu
   rw[Int.toNat_natCast,cell_of_heap (w:=w) (w2:=w') (by rw[addB,addB];exact(hw.tr r.bel).block _ (hS _ k1))]
   exact k2
  conv=>whnf
  refine callE_con (Φ:=fun _ w' v w2=>v= .int .i64 (rs (x-q.1))) (fun ρ w' r=>vCmp_c (fun g hg=>by have:=hS g hg;have:=r.baseLe;omega) (hFx.v.keep fun g hg=>(hw.tr r.bel).block g (hS g hg)) (hAq.1.v.keep fun g hg=>(hw.tr r.bel).block g (hS g hg))) ?_
  rintro ρ wa1 v1 wb1 r he hb rfl
  replace hw:=hw.tr hb
  clear r he hb
  generalize (wa1.heap.size,wb1.heap.size)::iv=iv1 at*
  obtain⟨cf,hcf⟩:∃c,rs (x-q.1)=c:=⟨_,rfl⟩
  rw[hcf]
  conv=>whnf
  refine BrS.mk (fun k1=>?_) (fun k1=>?_)
  ·have k1:x<q.1:=by have:=of_decide_eq_true k1;rw[←rs_sub_neg];omega
   conv=>whnf
   intro ρe we re
   exact⟨_,rfl,hw.tr re.bel,by show Value.int .i64 _=_;rw[hE,brokeF_hit hxi hq (.inl k1)]⟩
  have k1:¬x<q.1:=by have:=of_decide_eq_false k1;rw[←rs_sub_neg];omega
  conv=>whnf
  refine⟨adx,hax,⟨by omega,by omega⟩,?_⟩
  conv=>whnf
  refine⟨[.bool f0,.slice f1 f2 f3,.bool f4,.slice f5 f6 f7],rfl,fun ρ w' r j u hu=>?_,?_⟩
  ·obtain⟨k1,k2⟩:=hlx j u hu
   rw[Int.toNat_natCast,cell_of_heap (w:=w) (w2:=w') (by rw[addB,addB];exact(hw.tr r.bel).block _ (hS _ k1))]
   exact k2
  conv=>whnf
  refine callE_con (Φ:=fun _ w' v w2=>v= .int .i64 (rs (x-q.2))) (fun ρ w' r=>vCmp_c (fun g hg=>by have:=hS g hg;have:=r.baseLe;omega) (hFx.v.keep fun g hg=>(hw.tr r.bel).block g (hS g hg)) (hVq.1.v.keep fun g hg=>(hw.tr r.bel).block g (hS g hg))) ?_
  rintro ρ wa2 v2 wb2 r he hb rfl
  replace hw:=hw.tr hb
  clear r he hb
  generalize (wa2.heap.size,wb2.heap.size)::iv1=iv2 at*
  obtain⟨ch,hch⟩:∃c,rs (x-q.2)=c:=⟨_,rfl⟩
  rw[hch]
  conv=>whnf
  refine BrS.mk (fun k2=>?_) (fun k2=>?_)
  ·have k2:q.2<x:=by have:=of_decide_eq_true k2;rw[←rs_sub_pos];omega
   conv=>whnf
   intro ρe we re
   exact⟨_,rfl,hw.tr re.bel,by show Value.int .i64 _=_;rw[hE,brokeF_hit hxi hq (.inr k2)]⟩
  have k2:¬q.2<x:=by have:=of_decide_eq_false k2;rw[←rs_sub_pos];omega
  rw[brokeF_next hxi hq k1 k2]at hE
  conv=>whnf
  refine⟨((i+1:Nat):Int),by rw[wrap64]<;>omega,?_⟩
  conv=>whnf
  intro ρ3 w6 r3
  exact⟨(i+1,w6,_),⟨hib,hw.tr r3.bel,hE⟩,Sub.gen [] r3 trivial ⟨rfl,rfl,rfl,rfl,trivial⟩ (by simp[ScH,Blk.scopd,At.sc]) (by simp[ScE,SV.sc,At.sc,initE]) (by rfl) (fun lo hi h=>h),by dsimp only;omega⟩
 have hib:i=l.length:=Nat.le_antisymm hi (by simpa using hib)
 rw[brokeF_end (by omega)]at hE
 conv=>whnf
 intro ρe we re
 exact⟨_,rfl,hw.tr re.bel,by show Value.int .i64 _=_;rw[hE]⟩
theorem rStrong_c{S:Nat→Prop}{w:World}{u v:Value}{xs:List Rat}{l:List (Rat×Rat)}(hS:Old S w)(hx:RatsL w S u xs)(hl:StepsL w S v l)(hlen:l.length≤xs.length):Con PG N.ref05_Strong #[u,v] w (Ret w fun v' _=>v'= .int .i64 (brokeF 0 xs l)):=by
 have hw:Bel w.heap.size w w:=Bel.refl
 obtain⟨ax,cx,rfl,hcx,hmx⟩:=ListR.shape hx
 obtain⟨a,c,rfl,hc,hm⟩:=hl.shape
 unfold maxLen at hm hmx
 refine in_ref05_Strong (by simp) ?_
 conv=>whnf
 refine⟨Nat×World×Iv,fun z=>⟨[(0,.o (.v (.slice ax xs.length cx))),(1,.o (.v (.slice a l.length c))),(5,.o (.v (.int .i64 ((z.1:Nat):Int))))],[],0,z.2.2,z.2.1⟩,fun z=>l.length-z.1,
  fun z=>z.1≤l.length∧Bel w.heap.size w z.2.1∧brokeF 0 xs l=brokeF z.1 (xs.drop z.1) (l.drop z.1),?_,?_⟩
 ·intro ρ w' r3
  exact⟨(0,w',_),⟨Nat.zero_le _,hw.tr r3.bel,rfl⟩,Sub.gen [] r3 trivial ⟨rfl,rfl,rfl,trivial⟩ (by simp[ScH,Blk.scopd,At.sc]) (by simp[ScE,SV.sc,At.sc,initE]) (by rfl) (fun lo hi h=>h)⟩
 clear hw
 rintro⟨i,w1,iv⟩ ⟨hi,hw,hE⟩
 dsimp only at hi hw hE ⊢
 conv=>whnf
 refine BrS.mk (fun hib=>?_) (fun hib=>?_)
 ·have hib:i<l.length:=by simpa using hib
  obtain⟨q,hq⟩:∃q,l[i]? =some q:=⟨_,List.getElem?_eq_getElem hib⟩
  obtain⟨x,hxi⟩:∃x,xs[i]? =some x:=⟨_,List.getElem?_eq_getElem (by omega)⟩
  obtain⟨adx,csx,hax,hFx,-,hlx⟩:=ListR.load hx hxi
  obtain⟨f0,f1,f2,f3,f4,f5,f6,f7,rfl,hFx⟩:=hFx
  obtain⟨adq,csq,haq,hFq,-,hlq⟩:=hl.load (by decide) hq
  obtain⟨b0q,a0q,n0q,c0q,b1q,a1q,n1q,c1q,b2q,a2q,n2q,c2q,b3q,a3q,n3q,c3q,rfl,hAq,hVq⟩:=hFq
  conv=>whnf
  refine drawn_of_pi hτ hmix [.x 0,.x 1,.x 2,.x 3,.x 4,.x 5,.x 6,.x 7,.x 8,.x 9,.x 10,.x 11,.x 12,.x 13,.x 14,.x 15,.x 16,.x 17,.x 18,.x 19,.x 20,.x 21,.x 22,.x 23] (by kernel_rfl) (by kernel_rfl) ?_
  conv=>whnf
  refine⟨adx,hax,⟨by omega,by omega⟩,?_⟩
  conv=>whnf
  refine⟨[.bool f0,.slice f1 f2 f3,.bool f4,.slice f5 f6 f7],rfl,fun ρ w' r j u hu=>?_,?_⟩
  ·obtain⟨k1,k2⟩:=hlx j u hu
   rw[Int.toNat_natCast,cell_of_heap (w:=w) (w2:=w') (by rw[addB,addB];exact(hw.tr r.bel).block _ (hS _ k1))]
   exact k2
  conv=>whnf
  refine⟨adq,haq,⟨by omega,by omega⟩,?_⟩
  conv=>whnf
  refine⟨[.bool b0q,.slice a0q n0q c0q,.bool b1q,.slice a1q n1q c1q],rfl,fun ρ w' r j u hu=>?_,?_⟩
  ·have hj4:=(List.getElem?_eq_some_iff.1 hu).1
   obtain⟨k1,k2⟩:=hlq (0+j) u (by rcases j with _|_|_|_|j<;>first|exact hu|(have:j+4<4:=hj4;omega))
   rw[cell_of_heap (w:=w) (w2:=w') (by simp only[addB];exact(hw.tr r.bel).block _ (hS _ k1))]
   simp only[Int.toNat_natCast,Int.toNat_zero,Nat.zero_mul,addA]at k2 ⊢
   first|exact k2|(rw [←k2];congr 2;omega)
  conv=>whnf
  refine callE_con (Φ:=fun _ w' v w2=>v= .int .i64 (rs (x-q.1))) (fun ρ w' r=>rCmp_c (fun g hg=>by have:=hS g hg;have:=r.baseLe;omega) (hFx.keep fun g hg=>(hw.tr r.bel).block g (hS g hg)) (hAq.1.keep fun g hg=>(hw.tr r.bel).block g (hS g hg))) ?_
  rintro ρ wa1 v1 wb1 r he hb rfl
  replace hw:=hw.tr hb
  clear r he hb
  generalize (wa1.heap.size,wb1.heap.size)::iv=iv1 at*
  obtain⟨cf,hcf⟩:∃c,rs (x-q.1)=c:=⟨_,rfl⟩
  rw[hcf]
  conv=>whnf
  refine BrS.mk (fun k1=>?_) (fun k1=>?_)
  ·have k1:x<q.1:=by have:=of_decide_eq_true k1;rw[←rs_sub_neg];omega
   conv=>whnf
   intro ρe we re
   exact⟨_,rfl,hw.tr re.bel,by show Value.int .i64 _=_;rw[hE,brokeF_hit hxi hq (.inl k1)]⟩
  have k1:¬x<q.1:=by have:=of_decide_eq_false k1;rw[←rs_sub_neg];omega
  conv=>whnf
  refine⟨adx,hax,⟨by omega,by omega⟩,?_⟩
  conv=>whnf
  refine⟨[.bool f0,.slice f1 f2 f3,.bool f4,.slice f5 f6 f7],rfl,fun ρ w' r j u hu=>?_,?_⟩
  ·obtain⟨k1,k2⟩:=hlx j u hu
   rw[Int.toNat_natCast,cell_of_heap (w:=w) (w2:=w') (by rw[addB,addB];exact(hw.tr r.bel).block _ (hS _ k1))]
   exact k2
  conv=>whnf
  refine⟨adq,haq,⟨by omega,by omega⟩,?_⟩
  conv=>whnf
  refine⟨[.bool b2q,.slice a2q n2q c2q,.bool b3q,.slice a3q n3q c3q],rfl,fun ρ w' r j u hu=>?_,?_⟩
  ·have hj4:=(List.getElem?_eq_some_iff.1 hu).1
   obtain⟨k1,k2⟩:=hlq (4+j) u (by rcases j with _|_|_|_|j<;>first|exact hu|(have:j+4<4:=hj4;omega))
   rw[cell_of_heap (w:=w) (w2:=w') (by simp only[addB];exact(hw.tr r.bel).block _ (hS _ k1))]
   simp only[Int.toNat_natCast,Int.toNat_zero,Nat.zero_mul,addA]at k2 ⊢
   first|exact k2|(rw [←k2];congr 2;omega)
  conv=>whnf
  refine callE_con (Φ:=fun _ w' v w2=>v= .int .i64 (rs (x-q.2))) (fun ρ w' r=>rCmp_c (fun g hg=>by have:=hS g hg;have:=r.baseLe;omega) (hFx.keep fun g hg=>(hw.tr r.bel).block g (hS g hg)) (hVq.1.keep fun g hg=>(hw.tr r.bel).block g (hS g hg))) ?_
  rintro ρ wa2 v2 wb2 r he hb rfl
  replace hw:=hw.tr hb
  clear r he hb
  generalize (wa2.heap.size,wb2.heap.size)::iv1=iv2 at*
  obtain⟨ch,hch⟩:∃c,rs (x-q.2)=c:=⟨_,rfl⟩
  rw[hch]
  conv=>whnf
  refine BrS.mk (fun k2=>?_) (fun k2=>?_)
  ·have k2:q.2<x:=by have:=of_decide_eq_true k2;rw[←rs_sub_pos];omega
   conv=>whnf
   intro ρe we re
   exact⟨_,rfl,hw.tr re.bel,by show Value.int .i64 _=_;rw[hE,brokeF_hit hxi hq (.inr k2)]⟩
  have k2:¬q.2<x:=by have:=of_decide_eq_false k2;rw[←rs_sub_pos];omega
  rw[brokeF_next hxi hq k1 k2]at hE
  conv=>whnf
  refine⟨((i+1:Nat):Int),by rw[wrap64]<;>omega,?_⟩
  conv=>whnf
  intro ρ3 w6 r3
  exact⟨(i+1,w6,_),⟨hib,hw.tr r3.bel,hE⟩,Sub.gen [] r3 trivial ⟨rfl,rfl,rfl,trivial⟩ (by simp[ScH,Blk.scopd,At.sc]) (by simp[ScE,SV.sc,At.sc,initE]) (by rfl) (fun lo hi h=>h),by dsimp only;omega⟩
 have hib:i=l.length:=Nat.le_antisymm hi (by simpa using hib)
 rw[brokeF_end (by omega)]at hE
 conv=>whnf
 intro ρe we re
 exact⟨_,rfl,hw.tr re.bel,by show Value.int .i64 _=_;rw[hE]⟩
end Go.Ex

/- StaticsStrong of the laws of chapter 5. Printed by program. No condition. -/
namespace Go.Ex
open Go Go.Sx Go.Proofs

theorem sStrong_c{S:Nat→Prop}{w:World}{vn vb vs u v:Value}{f:Frm}{xs:List Rat}{l:List (Rat×Rat)}(hS:Old S w)(hR:FrameR w S vn vb vs f)(hX:RatsL w S u xs)(hL:StepsL w S v l):
  Con PG N.statics_Strong #[.agg #[vn,vb,vs],u,v] w (Ret w fun v' _=>v'= .tuple #[.int .i64 (strongF f xs l).1,.int .i64 (strongF f xs l).2]):=by
 have hw:Bel w.heap.size w w:=Bel.refl
 obtain⟨an,cn,ab,cb,aq,cq,rfl,rfl,rfl,hmn,hmb,hms⟩:=hR.shape
 obtain⟨ax,cx,rfl,hcx,hmx⟩:=ListR.shape hX
 obtain⟨a,c,rfl,hc,hm⟩:=hL.shape
 refine in_statics_Strong (by simp) ?_
 conv=>whnf
 refine callE_S (callE_con (Φ:=fun _ w' v w2=>v= .int .i64 (errF f)) (fun ρ w' r=>sCheck_c (fun g hg=>by have:=hS g hg;have:=r.baseLe;omega) (hR.keep fun g hg=>(hw.tr r.bel).block g (hS g hg))) ?_)
 rintro ρ wa1 v1 wb1 r he hb rfl
 replace hw:=hw.tr hb
 clear r he hb
 generalize (wa1.heap.size,wb1.heap.size)::[]=iv1 at*
 obtain⟨e1,he1⟩:∃e,errF f=e:=⟨_,rfl⟩
 rw[he1]
 conv=>whnf
 refine BrS.mk (fun hd1=>?_) (fun hd1=>?_)
 ·have hd1:e1≠0:=by simpa using hd1
  conv=>whnf
  intro ρe we re
  exact⟨_,rfl,hw.tr re.bel,by show Value.tuple _=_;rw[strongF,if_pos (by rw[he1];exact hd1),he1];rfl⟩
 have hd1:e1=0:=by simpa using hd1
 rw[hd1]at he1
 conv=>whnf
 obtain⟨⟨-,h60b,h60s⟩,-⟩:=errF_zero he1
 refine callE_S (callE_con (Φ:=fun _ w' v w2=>v= .int .i64 (if xs.length≠f.cols then 11 else 0)) (fun ρ w' r=>sCheckSize_c (hR.keep fun g hg=>(hw.tr r.bel).block g (hS g hg)) ⟨h60b,h60s⟩) ?_)
 rintro ρ wa2 v2 wb2 r he hb rfl
 replace hw:=hw.tr hb
 clear r he hb
 generalize (wa2.heap.size,wb2.heap.size)::iv1=iv2 at*
 by_cases hsz:xs.length≠f.cols
 ·rw[if_pos hsz]
  conv=>whnf
  intro ρe we re
  exact⟨_,rfl,hw.tr re.bel,by show Value.tuple _=_;rw[strongF,if_neg (by rw[he1];decide),if_pos hsz];rfl⟩
 rw[if_neg hsz]
 have hlen:xs.length=f.cols:=by simpa using hsz
 conv=>whnf
 refine callE_S (callE_con (Φ:=fun _ w' v w2=>v= .int .i64 (errR f.bars.length l)) (fun ρ w' r=>sCheckLimits_c (fun g hg=>by have:=hS g hg;have:=r.baseLe;omega) (hR.keep fun g hg=>(hw.tr r.bel).block g (hS g hg)) (StepsL.keep hL fun g hg=>(hw.tr r.bel).block g (hS g hg))) ?_)
 rintro ρ wa3 v3 wb3 r he hb rfl
 replace hw:=hw.tr hb
 clear r he hb
 generalize (wa3.heap.size,wb3.heap.size)::iv2=iv3 at*
 obtain⟨e2,he2⟩:∃e,errR f.bars.length l=e:=⟨_,rfl⟩
 rw[he2]
 conv=>whnf
 refine BrS.mk (fun hd2=>?_) (fun hd2=>?_)
 ·have hd2:e2≠0:=by simpa using hd2
  conv=>whnf
  intro ρe we re
  exact⟨_,rfl,hw.tr re.bel,by show Value.tuple _=_;rw[strongF,if_neg (by rw[he1];decide),if_neg hsz,if_pos (by rw[he2];exact hd2),he2];rfl⟩
 have hd2:e2=0:=by simpa using hd2
 rw[hd2]at he2
 conv=>whnf
 have hll:l.length≤xs.length:=by
  have h:l.length=f.bars.length:=by
   unfold errR at he2
   split at he2<;>rename_i h
   ·cases he2
   ·simpa using h
  rw[h,hlen];unfold Frm.cols;omega
 refine callE_S (callE_con (Φ:=fun _ w' v w2=>v= .int .i64 (brokeF 0 xs l)) (fun ρ w' r=>sBroken_c (fun g hg=>by have:=hS g hg;have:=r.baseLe;omega) (RatsL.keep hX fun g hg=>(hw.tr r.bel).block g (hS g hg)) (StepsL.keep hL fun g hg=>(hw.tr r.bel).block g (hS g hg)) hll) ?_)
 rintro ρ wa4 v4 wb4 r he hb rfl
 replace hw:=hw.tr hb
 clear r he hb
 generalize (wa4.heap.size,wb4.heap.size)::iv3=iv4 at*
 conv=>whnf
 intro ρe we re
 exact⟨_,rfl,hw.tr re.bel,by show Value.tuple _=_;rw[strongF,if_neg (by rw[he1];decide),if_neg hsz,if_neg (by rw[he2];decide)];rfl⟩
section
variable{S:Nat→Prop}{w w1 w':World}{H:Hp}{nx:Nat}{iv:Iv}{ρ:Nat→Sx.Val}
theorem small5_c'{vn vb vs:Value}{f:FrmW}(hS:Old S w)(hw:Bel w.heap.size w w1)(r:Rel H nx iv w.heap.size w1 ρ w')(hf:FrameW w S vn vb vs f):Con PG N.law05_Small #[.agg #[vn,vb,vs]] w' (Ret w' fun v' _=>∃d,v'= .bool d∧
  (d=true→FrameR w S vn vb vs f.val∧(∀b∈f.val.bars,rl b.2.2≤3)∧(∀b∈f.val.sups,rl b.2.2≤3)∧(errF f.val≠0∨f.val.nodes.length≤4∧f.val.bars.length≤6))):=
 have hk:∀g,S g→w'.heap[g]? =w.heap[g]? :=fun g hg=>(hw.tr r.bel).block g (hS g hg)
 (small5_c (S:=S) (fun g hg=>by have:=hS g hg;have:=r.baseLe;omega) (hf.keep hk)).mono fun _ _ ⟨v2,e1,e2,d,e3,e4⟩=>⟨v2,e1,e2,d,e3,fun h=>⟨(e4 h).1.keep fun g hg=>(hk g hg).symm,(e4 h).2⟩⟩
theorem briefL_c'{v:Value}{xs:List (Int×Int)}(hS:Old S w)(hw:Bel w.heap.size w w1)(r:Rel H nx iv w.heap.size w1 ρ w')(hx:RatsR w S v xs):
  Con PG N.law05_brief #[v] w' (Ret w' fun v' _=>∃d,v'= .bool d∧(d=true→xs.length≤80∧RatsL w S v (xs.map rq)∧∀q∈xs.map rq,rl q≤3)):=
 have hk:∀g,S g→w'.heap[g]? =w.heap[g]? :=fun g hg=>(hw.tr r.bel).block g (hS g hg)
 (briefL_c (S:=S) (fun g hg=>by have:=hS g hg;have:=r.baseLe;omega) (hx.keep hk)).mono fun _ _ ⟨v2,e1,e2,d,e3,e4⟩=>⟨v2,e1,e2,d,e3,fun h=>⟨(e4 h).1,RatsL.keep (e4 h).2.1 fun g hg=>(hk g hg).symm,(e4 h).2.2⟩⟩
theorem ranges_c'{v:Value}{xs:List ((Int×Int)×(Int×Int))}(hS:Old S w)(hw:Bel w.heap.size w w1)(r:Rel H nx iv w.heap.size w1 ρ w')(hq:StepsW w S v xs):
  Con PG N.law05_ranges #[v] w' (Ret w' fun v' _=>∃d,v'= .bool d∧(d=true→xs.length≤65∧StepsL w S v (xs.map stepV))):=
 have hk:∀g,S g→w'.heap[g]? =w.heap[g]? :=fun g hg=>(hw.tr r.bel).block g (hS g hg)
 (ranges_c (S:=S) (fun g hg=>by have:=hS g hg;have:=r.baseLe;omega) (ListK.keep (P:=StepW) (fun cs p h=>StepW.keep h hk) hq hk)).mono fun _ _ ⟨v2,e1,e2,d,e3,e4⟩=>⟨v2,e1,e2,d,e3,fun h=>⟨(e4 h).1,StepsL.keep (e4 h).2 fun g hg=>(hk g hg).symm⟩⟩
end
set_option maxHeartbeats 1000000 in
theorem staticsStrong_c{S:Nat→Prop}{w:World}{vn vb vs u v:Value}{f:FrmW}{xs:List (Int×Int)}{ls:List ((Int×Int)×(Int×Int))}(hS:Old S w)(hF:FrameW w S vn vb vs f)(hx:RatsR w S u xs)(hl:StepsW w S v ls):
  Con PG N.law05_StaticsStrong #[.agg #[vn,vb,vs],u,v] w (Ret w fun v' _=>v'= .bool true):=by
 have hw:Bel w.heap.size w w:=Bel.refl
 obtain⟨an,cn,rfl,-,-⟩:=hF.nodes.shape
 obtain⟨ab,cb,rfl,-,-⟩:=hF.bars.shape
 obtain⟨aq,cq,rfl,-,-⟩:=hF.sups.shape
 obtain⟨ax,cx,rfl,hcx,hmx⟩:=ListR.shape hx
 obtain⟨a,c,rfl,hc,hm⟩:=hl.shape
 refine in_law05_StaticsStrong (by simp) ?_
 conv=>whnf
 refine callE_S (callE_con (Φ:=fun _ w' v w2=>∃d,v= .bool d∧(d=true→FrameR w S (.slice an f.nodes.length cn) (.slice ab f.bars.length cb) (.slice aq f.sups.length cq) f.val∧(∀b∈f.val.bars,rl b.2.2≤3)∧(∀b∈f.val.sups,rl b.2.2≤3)∧(errF f.val≠0∨f.val.nodes.length≤4∧f.val.bars.length≤6))) (fun ρ w' r=>small5_c' hS hw r hF) ?_)
 rintro ρ wa1 v1 wb1 r he hb ⟨d1,rfl,hz1⟩
 replace hw:=hw.tr hb
 clear r he hb
 generalize (wa1.heap.size,wb1.heap.size)::[]=iv1 at*
 cases d1
 ·conv=>whnf
  refine callE_S (callE_con (Φ:=fun _ w' v w2=>v= .bool true) (fun ρ w' r=>awake5_c w') ?_)
  rintro ρ wa2 v2 wb2 r he hb rfl
  replace hw:=hw.tr hb
  clear r he hb
  generalize (wa2.heap.size,wb2.heap.size)::iv1=iv2 at*
  conv=>whnf
  intro ρe we re
  exact⟨_,rfl,hw.tr re.bel,rfl⟩
 have hz1:=hz1 rfl
 conv=>whnf
 refine callE_S (callE_con (Φ:=fun _ w' v w2=>∃d,v= .bool d∧(d=true→xs.length≤80∧RatsL w S (.slice ax xs.length cx) (xs.map rq)∧∀q∈xs.map rq,rl q≤3)) (fun ρ w' r=>briefL_c' hS hw r hx) ?_)
 rintro ρ wa2 v2 wb2 r he hb ⟨d2,rfl,hz2⟩
 replace hw:=hw.tr hb
 clear r he hb
 generalize (wa2.heap.size,wb2.heap.size)::iv1=iv2 at*
 cases d2
 ·conv=>whnf
  refine callE_S (callE_con (Φ:=fun _ w' v w2=>v= .bool true) (fun ρ w' r=>awake5_c w') ?_)
  rintro ρ wa3 v3 wb3 r he hb rfl
  replace hw:=hw.tr hb
  clear r he hb
  generalize (wa3.heap.size,wb3.heap.size)::iv2=iv3 at*
  conv=>whnf
  intro ρe we re
  exact⟨_,rfl,hw.tr re.bel,rfl⟩
 have hz2:=hz2 rfl
 conv=>whnf
 refine callE_S (callE_con (Φ:=fun _ w' v w2=>∃d,v= .bool d∧(d=true→ls.length≤65∧StepsL w S (.slice a ls.length c) (ls.map stepV))) (fun ρ w' r=>ranges_c' hS hw r hl) ?_)
 rintro ρ wa3 v3 wb3 r he hb ⟨d3,rfl,hz3⟩
 replace hw:=hw.tr hb
 clear r he hb
 generalize (wa3.heap.size,wb3.heap.size)::iv2=iv3 at*
 cases d3
 ·conv=>whnf
  refine callE_S (callE_con (Φ:=fun _ w' v w2=>v= .bool true) (fun ρ w' r=>awake5_c w') ?_)
  rintro ρ wa4 v4 wb4 r he hb rfl
  replace hw:=hw.tr hb
  clear r he hb
  generalize (wa4.heap.size,wb4.heap.size)::iv3=iv4 at*
  conv=>whnf
  intro ρe we re
  exact⟨_,rfl,hw.tr re.bel,rfl⟩
 have hz3:=hz3 rfl
 obtain⟨hR,-,-,hsm⟩:=hz1
 obtain⟨h80,hX,-⟩:=hz2
 obtain⟨-,hL⟩:=hz3
 obtain⟨fv,hfv⟩:∃fv,f.val=fv:=⟨_,rfl⟩
 obtain⟨xv,hxv⟩:∃xv,xs.map rq=xv:=⟨_,rfl⟩
 obtain⟨lv,hlv⟩:∃lv,ls.map stepV=lv:=⟨_,rfl⟩
 rw[hfv]at hR hsm
 rw[hxv]at hX
 rw[hlv]at hL
 have hxl:xs.length=xv.length:=by rw[←hxv,List.length_map]
 rw[hxl]at hX h80 ⊢
 clear hF hx hl hfv hxv hlv hmx hcx hc hm hxl
 by_cases h1:errF fv=0
 ·obtain⟨⟨-,h60b,h60s⟩,-⟩:=errF_zero h1
  by_cases h2:xv.length≠fv.cols
  ·have hst:strongF fv xv lv=(0,11):=by rw[strongF,if_neg (by rw[h1];decide),if_pos h2]
   conv=>whnf
   refine callE_S (callE_con (Φ:=fun _ w' v w2=>v= .tuple #[.int .i64 0,.int .i64 11]) (fun ρ w' r=>(sStrong_c (fun g hg=>by have:=hS g hg;have:=r.baseLe;omega) (hR.keep fun g hg=>(hw.tr r.bel).block g (hS g hg)) (RatsL.keep hX fun g hg=>(hw.tr r.bel).block g (hS g hg)) (StepsL.keep hL fun g hg=>(hw.tr r.bel).block g (hS g hg))).mono fun _ _ ⟨v2,e1,e2,e3⟩=>⟨v2,e1,e2,by rw[e3,hst]⟩) ?_)
   rintro ρ wa4 v4 wb4 r he hb rfl
   replace hw:=hw.tr hb
   clear r he hb
   generalize (wa4.heap.size,wb4.heap.size)::iv3=iv4 at*
   conv=>whnf
   refine callE_S (callE_con (Φ:=fun _ w' v w2=>v= .int .i64 0) (fun ρ w' r=>(rCheck_c (fun g hg=>by have:=hS g hg;have:=r.baseLe;omega) (hR.keep fun g hg=>(hw.tr r.bel).block g (hS g hg))).mono fun _ _ ⟨v2,e1,e2,e3⟩=>⟨v2,e1,e2,by rw[e3,h1]⟩) ?_)
   rintro ρ wa5 v5 wb5 r he hb rfl
   replace hw:=hw.tr hb
   clear r he hb
   generalize (wa5.heap.size,wb5.heap.size)::iv4=iv5 at*
   conv=>whnf
   refine callE_S (callE_con (Φ:=fun _ w' v w2=>v= .int .i64 fv.cols) (fun ρ w' r=>rElements_c (hR.keep fun g hg=>(hw.tr r.bel).block g (hS g hg)) ⟨h60b,h60s⟩) ?_)
   rintro ρ wa6 v6 wb6 r he hb rfl
   replace hw:=hw.tr hb
   clear r he hb
   generalize (wa6.heap.size,wb6.heap.size)::iv5=iv6 at*
   conv=>whnf
   refine BrS.mk (fun _=>?_) (fun hd=>absurd (by have hd:=(show (xv.length:Int)=(fv.cols:Int)from(by simpa using hd));omega) h2)
   conv=>whnf
   refine callE_S (callE_con (Φ:=fun _ w' v w2=>v= .bool true) (fun ρ w' r=>awake5_c w') ?_)
   rintro ρ wa7 v7 wb7 r he hb rfl
   replace hw:=hw.tr hb
   clear r he hb
   generalize (wa7.heap.size,wb7.heap.size)::iv6=iv7 at*
   conv=>whnf
   intro ρe we re
   exact⟨_,rfl,hw.tr re.bel,rfl⟩
  have h2:xv.length=fv.cols:=by simpa using h2
  by_cases h3:errR fv.bars.length lv≠0
  ·obtain⟨e,he⟩:∃e,errR fv.bars.length lv=e:=⟨_,rfl⟩
   rw[he]at h3
   have hst:strongF fv xv lv=(0,e):=by rw[strongF,if_neg (by rw[h1];decide),if_neg (by rw[h2];simp),if_pos (by rw[he];exact h3),he]
   conv=>whnf
   refine callE_S (callE_con (Φ:=fun _ w' v w2=>v= .tuple #[.int .i64 0,.int .i64 e]) (fun ρ w' r=>(sStrong_c (fun g hg=>by have:=hS g hg;have:=r.baseLe;omega) (hR.keep fun g hg=>(hw.tr r.bel).block g (hS g hg)) (RatsL.keep hX fun g hg=>(hw.tr r.bel).block g (hS g hg)) (StepsL.keep hL fun g hg=>(hw.tr r.bel).block g (hS g hg))).mono fun _ _ ⟨v2,e1,e2,e3⟩=>⟨v2,e1,e2,by rw[e3,hst]⟩) ?_)
   rintro ρ wa4 v4 wb4 r he hb rfl
   replace hw:=hw.tr hb
   clear r he hb
   generalize (wa4.heap.size,wb4.heap.size)::iv3=iv4 at*
   conv=>whnf
   refine callE_S (callE_con (Φ:=fun _ w' v w2=>v= .int .i64 0) (fun ρ w' r=>(rCheck_c (fun g hg=>by have:=hS g hg;have:=r.baseLe;omega) (hR.keep fun g hg=>(hw.tr r.bel).block g (hS g hg))).mono fun _ _ ⟨v2,e1,e2,e3⟩=>⟨v2,e1,e2,by rw[e3,h1]⟩) ?_)
   rintro ρ wa5 v5 wb5 r he hb rfl
   replace hw:=hw.tr hb
   clear r he hb
   generalize (wa5.heap.size,wb5.heap.size)::iv4=iv5 at*
   conv=>whnf
   refine callE_S (callE_con (Φ:=fun _ w' v w2=>v= .int .i64 fv.cols) (fun ρ w' r=>rElements_c (hR.keep fun g hg=>(hw.tr r.bel).block g (hS g hg)) ⟨h60b,h60s⟩) ?_)
   rintro ρ wa6 v6 wb6 r he hb rfl
   replace hw:=hw.tr hb
   clear r he hb
   generalize (wa6.heap.size,wb6.heap.size)::iv5=iv6 at*
   conv=>whnf
   refine BrS.mk (fun hd=>by rw[h2]at hd;simp at hd) (fun _=>?_)
   conv=>whnf
   refine callE_S (callE_con (Φ:=fun _ w' v w2=>v= .int .i64 e) (fun ρ w' r=>(rCheckLimits_c (fun g hg=>by have:=hS g hg;have:=r.baseLe;omega) (hR.keep fun g hg=>(hw.tr r.bel).block g (hS g hg)) (StepsL.keep hL fun g hg=>(hw.tr r.bel).block g (hS g hg))).mono fun _ _ ⟨v2,e1,e2,e3⟩=>⟨v2,e1,e2,by rw[e3,he]⟩) ?_)
   rintro ρ wa7 v7 wb7 r he hb rfl
   replace hw:=hw.tr hb
   clear r he hb
   generalize (wa7.heap.size,wb7.heap.size)::iv6=iv7 at*
   conv=>whnf
   refine BrS.mk (fun _=>?_) (fun hd=>absurd (by simpa using hd) h3)
   conv=>whnf
   refine BrS.mk (fun _=>?_) (fun hd=>by simp at hd)
   conv=>whnf
   refine callE_S (callE_con (Φ:=fun _ w' v w2=>v= .bool true) (fun ρ w' r=>awake5_c w') ?_)
   rintro ρ wa8 v8 wb8 r he hb rfl
   replace hw:=hw.tr hb
   clear r he hb
   generalize (wa8.heap.size,wb8.heap.size)::iv7=iv8 at*
   conv=>whnf
   intro ρe we re
   exact⟨_,rfl,hw.tr re.bel,rfl⟩
  have h3:errR fv.bars.length lv=0:=by simpa using h3
  have hll:lv.length≤xv.length:=by
   have h:lv.length=fv.bars.length:=by
    unfold errR at h3
    split at h3<;>rename_i h
    ·cases h3
    ·simpa using h
   rw[h,h2];unfold Frm.cols;omega
  obtain⟨n,hn⟩:∃n,brokeF 0 xv lv=n:=⟨_,rfl⟩
  have hst:strongF fv xv lv=(n,0):=by rw[strongF,if_neg (by rw[h1];decide),if_neg (by rw[h2];simp),if_neg (by rw[h3];decide),hn]
  conv=>whnf
  refine callE_S (callE_con (Φ:=fun _ w' v w2=>v= .tuple #[.int .i64 n,.int .i64 0]) (fun ρ w' r=>(sStrong_c (fun g hg=>by have:=hS g hg;have:=r.baseLe;omega) (hR.keep fun g hg=>(hw.tr r.bel).block g (hS g hg)) (RatsL.keep hX fun g hg=>(hw.tr r.bel).block g (hS g hg)) (StepsL.keep hL fun g hg=>(hw.tr r.bel).block g (hS g hg))).mono fun _ _ ⟨v2,e1,e2,e3⟩=>⟨v2,e1,e2,by rw[e3,hst]⟩) ?_)
  rintro ρ wa4 v4 wb4 r he hb rfl
  replace hw:=hw.tr hb
  clear r he hb
  generalize (wa4.heap.size,wb4.heap.size)::iv3=iv4 at*
  conv=>whnf
  refine callE_S (callE_con (Φ:=fun _ w' v w2=>v= .int .i64 0) (fun ρ w' r=>(rCheck_c (fun g hg=>by have:=hS g hg;have:=r.baseLe;omega) (hR.keep fun g hg=>(hw.tr r.bel).block g (hS g hg))).mono fun _ _ ⟨v2,e1,e2,e3⟩=>⟨v2,e1,e2,by rw[e3,h1]⟩) ?_)
  rintro ρ wa5 v5 wb5 r he hb rfl
  replace hw:=hw.tr hb
  clear r he hb
  generalize (wa5.heap.size,wb5.heap.size)::iv4=iv5 at*
  conv=>whnf
  refine callE_S (callE_con (Φ:=fun _ w' v w2=>v= .int .i64 fv.cols) (fun ρ w' r=>rElements_c (hR.keep fun g hg=>(hw.tr r.bel).block g (hS g hg)) ⟨h60b,h60s⟩) ?_)
  rintro ρ wa6 v6 wb6 r he hb rfl
  replace hw:=hw.tr hb
  clear r he hb
  generalize (wa6.heap.size,wb6.heap.size)::iv5=iv6 at*
  conv=>whnf
  refine BrS.mk (fun hd=>by rw[h2]at hd;simp at hd) (fun _=>?_)
  conv=>whnf
  refine callE_S (callE_con (Φ:=fun _ w' v w2=>v= .int .i64 0) (fun ρ w' r=>(rCheckLimits_c (fun g hg=>by have:=hS g hg;have:=r.baseLe;omega) (hR.keep fun g hg=>(hw.tr r.bel).block g (hS g hg)) (StepsL.keep hL fun g hg=>(hw.tr r.bel).block g (hS g hg))).mono fun _ _ ⟨v2,e1,e2,e3⟩=>⟨v2,e1,e2,by rw[e3,h3]⟩) ?_)
  rintro ρ wa7 v7 wb7 r he hb rfl
  replace hw:=hw.tr hb
  clear r he hb
  generalize (wa7.heap.size,wb7.heap.size)::iv6=iv7 at*
  conv=>whnf
  refine callE_S (callE_con (Φ:=fun _ w' v w2=>v= .int .i64 n) (fun ρ w' r=>(rStrong_c (fun g hg=>by have:=hS g hg;have:=r.baseLe;omega) (RatsL.keep hX fun g hg=>(hw.tr r.bel).block g (hS g hg)) (StepsL.keep hL fun g hg=>(hw.tr r.bel).block g (hS g hg)) hll).mono fun _ _ ⟨v2,e1,e2,e3⟩=>⟨v2,e1,e2,by rw[e3,hn]⟩) ?_)
  rintro ρ wa8 v8 wb8 r he hb rfl
  replace hw:=hw.tr hb
  clear r he hb
  generalize (wa8.heap.size,wb8.heap.size)::iv7=iv8 at*
  conv=>whnf
  refine BrS.mk (fun _=>?_) (fun hd=>by simp at hd)
  conv=>whnf
  refine callE_S (callE_con (Φ:=fun _ w' v w2=>v= .bool true) (fun ρ w' r=>awake5_c w') ?_)
  rintro ρ wa9 v9 wb9 r he hb rfl
  replace hw:=hw.tr hb
  clear r he hb
  generalize (wa9.heap.size,wb9.heap.size)::iv8=iv9 at*
  conv=>whnf
  intro ρe we re
  exact⟨_,rfl,hw.tr re.bel,rfl⟩
 obtain⟨e,he⟩:∃e,errF fv=e:=⟨_,rfl⟩
 have h0:e≠0:=by rw[←he];exact h1
 replace h1:=he
 have hst:strongF fv xv lv=(0,e):=by rw[strongF,if_pos (by rw[he];exact h0),he]
 conv=>whnf
 refine callE_S (callE_con (Φ:=fun _ w' v w2=>v= .tuple #[.int .i64 0,.int .i64 e]) (fun ρ w' r=>(sStrong_c (fun g hg=>by have:=hS g hg;have:=r.baseLe;omega) (hR.keep fun g hg=>(hw.tr r.bel).block g (hS g hg)) (RatsL.keep hX fun g hg=>(hw.tr r.bel).block g (hS g hg)) (StepsL.keep hL fun g hg=>(hw.tr r.bel).block g (hS g hg))).mono fun _ _ ⟨v2,e1,e2,e3⟩=>⟨v2,e1,e2,by rw[e3,hst]⟩) ?_)
 rintro ρ wa4 v4 wb4 r he hb rfl
 replace hw:=hw.tr hb
 clear r he hb
 generalize (wa4.heap.size,wb4.heap.size)::iv3=iv4 at*
 conv=>whnf
 refine callE_S (callE_con (Φ:=fun _ w' v w2=>v= .int .i64 e) (fun ρ w' r=>(rCheck_c (fun g hg=>by have:=hS g hg;have:=r.baseLe;omega) (hR.keep fun g hg=>(hw.tr r.bel).block g (hS g hg))).mono fun _ _ ⟨v2,e1,e2,e3⟩=>⟨v2,e1,e2,by rw[e3,h1]⟩) ?_)
 rintro ρ wa5 v5 wb5 r he hb rfl
 replace hw:=hw.tr hb
 clear r he hb
 generalize (wa5.heap.size,wb5.heap.size)::iv4=iv5 at*
 conv=>whnf
 refine BrS.mk (fun hd=>absurd (by simpa using hd) h0) (fun _=>?_)
 conv=>whnf
 refine BrS.mk (fun hd=>absurd (by simpa using hd) h0) (fun _=>?_)
 conv=>whnf
 refine BrS.mk (fun _=>?_) (fun hd=>absurd (by simpa using hd) h0)
 conv=>whnf
 refine BrS.mk (fun _=>?_) (fun hd=>by simp at hd)
 conv=>whnf
 refine callE_S (callE_con (Φ:=fun _ w' v w2=>v= .bool true) (fun ρ w' r=>awake5_c w') ?_)
 rintro ρ wa6 v6 wb6 r he hb rfl
 replace hw:=hw.tr hb
 clear r he hb
 generalize (wa6.heap.size,wb6.heap.size)::iv5=iv6 at*
 conv=>whnf
 intro ρe we re
 exact⟨_,rfl,hw.tr re.bel,rfl⟩
end Go.Ex
