/- A part of the proof: texts X63 to X113. Each tells its conditions in its theorems. -/
import Derived.Test.YtneljlhlncjkhaaGreatDoorP6
import Derived.Test.YtneljlhlncjkhaaGreatDoorP10
import Derived.Test.YtneljlhlncjkhaaGreatDoorP11
/- The reference's fractions: quick, Normal, Add, Neg, Sub, Mul, SignOf, Quo, Cmp, Floor, Whole, Ratio. Printed by program. No condition but sizes. -/
namespace Go.Ex
open Go Go.Sx Go.Proofs

/-- a fraction of the api by its value; its parts have few limbs -/
def RatL(w:World)(S:Nat→Prop)(v:Value)(q:Rat):Prop:=∃b1 l1 b2 l2 a b,v= .agg #[.bool b1,l1,.bool b2,l2]∧IntL w S (.agg #[.bool b1,l1]) 100000 a∧IntL w S (.agg #[.bool b2,l2]) 100000 b∧ratio a b=q
theorem RatL.keep{S:Nat→Prop}{w w2:World}{v:Value}{q:Rat}(h:RatL w S v q)(hk:∀g,S g→w2.heap[g]? =w.heap[g]?):RatL w2 S v q:=by
 obtain⟨b1,l1,b2,l2,a,b,h1,h2,h3,h4⟩:=h;exact⟨b1,l1,b2,l2,a,b,h1,h2.keep hk,h3.keep hk,h4⟩
theorem RatL.weak{S S':Nat→Prop}{w:World}{v:Value}{q:Rat}(h:RatL w S v q)(hk:∀g,S g→S' g):RatL w S' v q:=by
 obtain⟨b1,l1,b2,l2,a,b,h1,h2,h3,h4⟩:=h;exact⟨b1,l1,b2,l2,a,b,h1,h2.weak hk,h3.weak hk,h4⟩
theorem RatL.v{S:Nat→Prop}{w:World}{v:Value}{q:Rat}(h:RatL w S v q):RatV w S v q:=by
 obtain⟨b1,l1,b2,l2,a,b,rfl,h2,h3,h4⟩:=h;exact⟨a,b,⟨b1,l1,b2,l2,rfl,h2.r,h3.r⟩,h4,h2.ln,h3.ln⟩
theorem RatL.shape{S:Nat→Prop}{w:World}{v:Value}{q:Rat}(h:RatL w S v q):∃b a n c b2 a2 n2 c2,v= .agg #[.bool b,.slice a n c,.bool b2,.slice a2 n2 c2]:=h.v.shape
theorem RatC.l{S:Nat→Prop}{w:World}{v:Value}{q:Rat}(h:RatC w S v q)(hl:rl q≤100000):RatL w S v q:=by
 obtain⟨b1,l1,b2,l2,h1,h2,h3⟩:=h
 exact⟨b1,l1,b2,l2,_,_,h1,h2.l (Nat.le_trans (rl_num q) hl),h3.l (Nat.le_trans (rl_den' q) hl),ratio_self q⟩
section
variable{S S':Nat→Prop}{H:Hp}{nx:Nat}{iv iv':Iv}{B:Nat}{w w' w2:World}{ρ:Nat→Sx.Val}{v:Value}{q:Rat}
theorem RatL.rel(h:RatL w (Cv S B iv) v q)(r:Rel H nx iv B w ρ w')(hS:∀g,S g→g<B):RatL w' (Cv S B iv) v q:=h.keep fun _ hg=>Rel.same r hS hg
theorem RatL.past(h:RatL w (Cv S B iv) v q)(r:Rel H nx iv B w ρ w')(hS:∀g,S g→g<B)(he:Ext w' w2)(hm:∀p,p∈iv→p∈iv'):RatL w2 (Cv S B iv') v q:=
 ((h.rel r hS).keep fun g hg=>he.block g (Rel.old r hS g hg)).weak fun _ hg=>hg.mono hm
end

theorem rNormal_c{S:Nat→Prop}{w:World}{v:Value}{p:Rat}(hS:Old S w)(hp:RatL w S v p):
  Con PG N.ref01_Normal #[v] w (Ret w fun v' w2=>RatC w2 (Nw (fun _=>False) w w2) v' p):=by
 have hw:Bel w.heap.size w w:=Bel.refl
 obtain⟨b1,l1,b2,l2,a,b,rfl,ha,hb',rfl⟩:=hp
 obtain⟨_,a1,n1,c1,e1⟩:=ha.shape
 obtain⟨_,a2,n2,c2,e2⟩:=hb'.shape
 simp only[Value.agg.injEq,Array.mk.injEq,List.cons.injEq,and_true]at e1 e2
 obtain⟨_,rfl⟩:=e1
 obtain⟨_,rfl⟩:=e2
 replace ha:=ha.weak (S':=Cv S w.heap.size []) fun _ h=>.inl h
 replace hb':=hb'.weak (S':=Cv S w.heap.size []) fun _ h=>.inl h
 have sb:=sign_cases b
 refine in_ref01_Normal (by simp) ?_
 conv=>whnf
 refine callE_S (callE_con (Φ:=fun _ w' v w2=>v= .int .i64 b.sign) (fun ρ w' r=>rSign_c (Rel.old r hS) (hb'.rel r hS).r) ?_)
 rintro ρ wa1 v1 wb1 r he hb rfl
 replace hw:=hw.tr hb
 replace ha:=ha.past (iv':=(wa1.heap.size,wb1.heap.size)::[]) r hS he fun x hx=>List.mem_cons_of_mem _ hx
 replace hb':=hb'.past (iv':=(wa1.heap.size,wb1.heap.size)::[]) r hS he fun x hx=>List.mem_cons_of_mem _ hx
 clear r he hb
 generalize (wa1.heap.size,wb1.heap.size)::[]=iv1 at*
 conv=>whnf
 refine BrS.mk (fun h=>?_) (fun h=>?_)
 ·have h:b.sign=0:=by simpa using h
  obtain rfl:b=0:=by omega
  rw[show ratio a 0=Rat.divInt a 1 from if_pos rfl]
  conv=>whnf
  refine drawn_of_pi hτ hmix [.x 0,.x 1,.x 2,.x 3,.x 4] (by kernel_rfl) (by kernel_rfl) ?_
  conv=>whnf
  refine callE_con (Φ:=fun _ w' v w2=>IntC w2 (Nw (fun _=>False) w' w2) v (1)) (fun ρ w' r=>rOf_c _ w' (by decide) (by decide)) ?_
  rintro ρ wa2 v2 wb2 r he hb hn
  replace hw:=hw.tr hb
  replace ha:=ha.past (iv':=(wa2.heap.size,wb2.heap.size)::iv1) r hS he fun x hx=>List.mem_cons_of_mem _ hx
  replace hb':=hb'.past (iv':=(wa2.heap.size,wb2.heap.size)::iv1) r hS he fun x hx=>List.mem_cons_of_mem _ hx
  have h1:=hn.got (S:=fun _=>False) r.baseLe (iv:=(wa2.heap.size,wb2.heap.size)::iv1) List.mem_cons_self
  clear r he hb hn
  generalize (wa2.heap.size,wb2.heap.size)::iv1=iv2 at*
  obtain⟨s2_0,s2_1,s2_2,s2_3,rfl⟩:=h1.shape
  conv=>whnf
  refine callE_con (Φ:=fun _ w' v w2=>RatC w2 (Nw (fun _=>False) w' w2) v (Rat.divInt a 1)) (fun ρ w' r=>rOver_c (Rel.old r hS) (ha.rel r hS) (((h1.rel r (oldF w)).l (k:=1) (by decide)).weak fun g hg=>Cv.false hg) (by omega) (by omega) (by decide)) ?_
  rintro ρ wa3 v3 wb3 r he hb hn
  replace hw:=hw.tr hb
  replace ha:=ha.past (iv':=(wa3.heap.size,wb3.heap.size)::iv2) r hS he fun x hx=>List.mem_cons_of_mem _ hx
  replace hb':=hb'.past (iv':=(wa3.heap.size,wb3.heap.size)::iv2) r hS he fun x hx=>List.mem_cons_of_mem _ hx
  replace h1:=h1.past (iv':=(wa3.heap.size,wb3.heap.size)::iv2) r (oldF w) he fun x hx=>List.mem_cons_of_mem _ hx
  have hR:=hn.got (S:=fun _=>False) r.baseLe (iv:=(wa3.heap.size,wb3.heap.size)::iv2) List.mem_cons_self
  clear r he hb hn
  generalize (wa3.heap.size,wb3.heap.size)::iv2=iv3 at*
  obtain⟨s3_0,s3_1,s3_2,s3_3,s3_4,s3_5,s3_6,s3_7,rfl⟩:=hR.shape
  conv=>whnf
  intro ρe we re
  exact⟨_,rfl,hw.tr re.bel,hR.out re (oldF w)⟩
 have h:b.sign≠0:=by simpa using h
 have hb0:b≠0:=by omega
 rw[show ratio a b=Rat.divInt a b from if_neg hb0]
 conv=>whnf
 refine callE_S (callE_con (Φ:=fun _ w' v w2=>RatC w2 (Nw (fun _=>False) w' w2) v (Rat.divInt a b)) (fun ρ w' r=>rOver_c (Rel.old r hS) (ha.rel r hS) (hb'.rel r hS) (by omega) (by omega) hb0) ?_)
 rintro ρ wa2 v2 wb2 r he hb hn
 replace hw:=hw.tr hb
 replace ha:=ha.past (iv':=(wa2.heap.size,wb2.heap.size)::iv1) r hS he fun x hx=>List.mem_cons_of_mem _ hx
 replace hb':=hb'.past (iv':=(wa2.heap.size,wb2.heap.size)::iv1) r hS he fun x hx=>List.mem_cons_of_mem _ hx
 have hR:=hn.got (S:=fun _=>False) r.baseLe (iv:=(wa2.heap.size,wb2.heap.size)::iv1) List.mem_cons_self
 clear r he hb hn
 generalize (wa2.heap.size,wb2.heap.size)::iv1=iv2 at*
 obtain⟨s2_0,s2_1,s2_2,s2_3,s2_4,s2_5,s2_6,s2_7,rfl⟩:=hR.shape
 conv=>whnf
 intro ρe we re
 exact⟨_,rfl,hw.tr re.bel,hR.out re (oldF w)⟩

end Go.Ex

/- ExactFractions of the laws of chapter 1. Printed by program. No condition. -/
namespace Go.Ex
open Go Go.Sx Go.Proofs

/-- two integers in normal form: a fraction as it stands -/
def RatD(w:World)(S:Nat→Prop)(v:Value)(a b:Int):Prop:=∃b1 l1 b2 l2,v= .agg #[.bool b1,l1,.bool b2,l2]∧IntC w S (.agg #[.bool b1,l1]) a∧IntC w S (.agg #[.bool b2,l2]) b
theorem RatD.keep{S:Nat→Prop}{w w2:World}{v:Value}{a b:Int}(h:RatD w S v a b)(hk:∀g,S g→w2.heap[g]? =w.heap[g]?):RatD w2 S v a b:=by
 obtain⟨b1,l1,b2,l2,h1,h2,h3⟩:=h;exact⟨b1,l1,b2,l2,h1,h2.keep hk,h3.keep hk⟩
theorem RatD.weak{S S':Nat→Prop}{w:World}{v:Value}{a b:Int}(h:RatD w S v a b)(hk:∀g,S g→S' g):RatD w S' v a b:=by
 obtain⟨b1,l1,b2,l2,h1,h2,h3⟩:=h;exact⟨b1,l1,b2,l2,h1,h2.weak hk,h3.weak hk⟩
theorem RatD.shape{S:Nat→Prop}{w:World}{v:Value}{x y:Int}(h:RatD w S v x y):∃b a n c b2 a2 n2 c2,v= .agg #[.bool b,.slice a n c,.bool b2,.slice a2 n2 c2]:=by
 obtain⟨b1,l1,b2,l2,h1,h2,h3⟩:=h;exact RatR.shape ⟨b1,l1,b2,l2,h1,h2.r,h3.r⟩
theorem RatC.d{S:Nat→Prop}{w:World}{v:Value}{q:Rat}(h:RatC w S v q):RatD w S v q.num q.den:=h
theorem RatD.nil(w:World)(S:Nat→Prop):RatD w S ratNil 0 0:=⟨_,_,_,_,rfl,IntC.nil w S,IntC.nil w S⟩
section
variable{S S':Nat→Prop}{H:Hp}{nx:Nat}{iv iv':Iv}{B:Nat}{w w' w2:World}{ρ:Nat→Sx.Val}{v:Value}{a:Int}{b:Int}
theorem RatD.rel(h:RatD w (Cv S B iv) v a b)(r:Rel H nx iv B w ρ w')(hS:∀g,S g→g<B):RatD w' (Cv S B iv) v a b:=h.keep fun _ hg=>Rel.same r hS hg
theorem RatD.past(h:RatD w (Cv S B iv) v a b)(r:Rel H nx iv B w ρ w')(hS:∀g,S g→g<B)(he:Ext w' w2)(hm:∀p,p∈iv→p∈iv'):RatD w2 (Cv S B iv') v a b:=
 ((h.rel r hS).keep fun g hg=>he.block g (Rel.old r hS g hg)).weak fun _ hg=>hg.mono hm
theorem RatD.got(h:RatD w2 (Nw (fun _=>False) w' w2) v a b)(hB:B≤w'.heap.size)(hm:(w'.heap.size,w2.heap.size)∈iv):RatD w2 (Cv S B iv) v a b:=h.weak fun _ hg=>hg.got hB hm
end

theorem IntR.short{S:Nat→Prop}{w:World}{b:Bool}{a:Option Addr}{n c k:Nat}{z:Int}(h:IntR w S (.agg #[.bool b,.slice a n c]) z)(hk:n≤k):IntL w S (.agg #[.bool b,.slice a n c]) k z:=by
 obtain⟨b2,ls,⟨lv,e1,h3⟩,h2⟩:=h
 obtain⟨a2,c2,e2,_⟩:=h3.sl
 subst e2
 simp only[Value.agg.injEq,Array.mk.injEq,List.cons.injEq,Value.bool.injEq,Value.slice.injEq,and_true]at e1
 obtain⟨rfl,rfl,e3,rfl⟩:=e1
 exact⟨_,ls,⟨_,by rw[e3],h3⟩,h2,by omega⟩
theorem RatR.shortL{S:Nat→Prop}{w:World}{b1 b2:Bool}{a1 a2:Option Addr}{n1 n2 c1 c2:Nat}{a b:Int}(h:RatR w S (.agg #[.bool b1,.slice a1 n1 c1,.bool b2,.slice a2 n2 c2]) a b)(k1:n1≤3)(k2:n2≤3):
  RatL w S (.agg #[.bool b1,.slice a1 n1 c1,.bool b2,.slice a2 n2 c2]) (ratio a b)∧rl (ratio a b)≤3:=by
 obtain⟨b1,l1,b2,l2,e,h1,h2⟩:=h
 simp only[Value.agg.injEq,Array.mk.injEq,List.cons.injEq,Value.bool.injEq,and_true]at e
 obtain⟨rfl,rfl,rfl,rfl⟩:=e
 have i1:=h1.short k1
 have i2:=h2.short k2
 have q1:=i1.ln
 have q2:=i2.ln
 have q3:=rl_ratio a b
 exact⟨⟨_,_,_,_,a,b,rfl,i1.up (by omega),i2.up (by omega),rfl⟩,by omega⟩
theorem sameD_c{S:Nat→Prop}{w:World}{v u:Value}{a b c d:Int}(hS:Old S w)(hx:RatD w S v a b)(hy:RatD w S u c d):
  Con PG N.ref01_Same #[v,u] w (Ret w fun v' _=>v'= .bool (decide (a=c∧b=d))):=by
 have hw:Bel w.heap.size w w:=Bel.refl
 obtain⟨b1,l1,b2,l2,rfl,ha,hb'⟩:=hx
 obtain⟨b3,l3,b4,l4,rfl,hc,hd⟩:=hy
 obtain⟨_,a1,n1,c1,e1⟩:=ha.shape
 simp only[Value.agg.injEq,Array.mk.injEq,List.cons.injEq,and_true]at e1
 obtain⟨_,rfl⟩:=e1
 obtain⟨_,a2,n2,c2,e2⟩:=hb'.shape
 simp only[Value.agg.injEq,Array.mk.injEq,List.cons.injEq,and_true]at e2
 obtain⟨_,rfl⟩:=e2
 obtain⟨_,a3,n3,c3,e3⟩:=hc.shape
 simp only[Value.agg.injEq,Array.mk.injEq,List.cons.injEq,and_true]at e3
 obtain⟨_,rfl⟩:=e3
 obtain⟨_,a4,n4,c4,e4⟩:=hd.shape
 simp only[Value.agg.injEq,Array.mk.injEq,List.cons.injEq,and_true]at e4
 obtain⟨_,rfl⟩:=e4
 replace ha:=ha.weak (S':=Cv S w.heap.size []) fun _ h=>.inl h
 replace hb':=hb'.weak (S':=Cv S w.heap.size []) fun _ h=>.inl h
 replace hc:=hc.weak (S':=Cv S w.heap.size []) fun _ h=>.inl h
 replace hd:=hd.weak (S':=Cv S w.heap.size []) fun _ h=>.inl h
 refine in_ref01_Same (by simp) ?_
 conv=>whnf
 refine callE_S (callE_con (Φ:=fun _ w' v w2=>v= .bool (decide (a=c))) (fun ρ w' r=>sameInt_c (Rel.old r hS) (ha.rel r hS) (hc.rel r hS)) ?_)
 rintro ρ wa1 v1 wb1 r he hb rfl
 replace hw:=hw.tr hb
 clear ha
 replace hb':=hb'.past (iv':=(wa1.heap.size,wb1.heap.size)::[]) r hS he fun x hx=>List.mem_cons_of_mem _ hx
 clear hc
 replace hd:=hd.past (iv':=(wa1.heap.size,wb1.heap.size)::[]) r hS he fun x hx=>List.mem_cons_of_mem _ hx
 clear r he hb
 generalize (wa1.heap.size,wb1.heap.size)::[]=iv1 at*
 conv=>whnf
 refine BrS.mk (fun h=>?_) (fun h=>?_)
 ·have h:=of_decide_eq_true h
  conv=>whnf
  refine callE_S (callE_con (Φ:=fun _ w' v w2=>v= .bool (decide (b=d))) (fun ρ w' r=>sameInt_c (Rel.old r hS) (hb'.rel r hS) (hd.rel r hS)) ?_)
  rintro ρ wa2 v2 wb2 r he hb rfl
  replace hw:=hw.tr hb
  clear hb'
  clear hd
  clear r he hb
  generalize (wa2.heap.size,wb2.heap.size)::iv1=iv2 at*
  conv=>whnf
  intro ρe we re
  exact⟨_,rfl,hw.tr re.bel,by rw[show decide (a=c∧b=d)=decide (b=d) by simp[h]];rfl⟩
 have h:=of_decide_eq_false h
 conv=>whnf
 intro ρe we re
 exact⟨_,rfl,hw.tr re.bel,by rw[decide_eq_false (fun e=>h e.1)];rfl⟩
end Go.Ex

/- Lists and matrices of fractions by their values; Small of the laws of chapter 1. Printed by program. No condition but sizes. -/
namespace Go.Ex
open Go Go.Sx Go.Proofs

section
variable{S S':Nat→Prop}{H:Hp}{nx:Nat}{iv iv':Iv}{B:Nat}{w w' w2:World}{ρ:Nat→Sx.Val}{v:Value}{qs:List Rat}{cs:List Value}{q:Rat}
end
section
variable{S S':Nat→Prop}{H:Hp}{nx:Nat}{iv iv':Iv}{B:Nat}{w w' w2:World}{ρ:Nat→Sx.Val}{v:Value}{qs:List Rat}
end
section
variable{S S':Nat→Prop}{H:Hp}{nx:Nat}{iv iv':Iv}{B:Nat}{w w' w2:World}{ρ:Nat→Sx.Val}{v:Value}{M:List (List Rat)}
end

end Go.Ex

/- Plus of the reference. Printed by program. No condition but sizes. -/
namespace Go.Ex
open Go Go.Sx Go.Proofs

section
variable{S S':Nat→Prop}{H:Hp}{nx:Nat}{iv iv':Iv}{B:Nat}{w w' w2:World}{ρ:Nat→Sx.Val}{css:List (List Value)}{qs:List Rat}
end
end Go.Ex

/- Elimination: steps of the reference. Plain. -/
namespace Go.Ex
end Go.Ex

/- Echelon of the reference. Printed by program. No condition but sizes. -/
namespace Go.Ex
open Go Go.Sx Go.Proofs

section
variable{S S':Nat→Prop}{H:Hp}{nx:Nat}{iv iv':Iv}{B:Nat}{w w' w2:World}{ρ:Nat→Sx.Val}{rv:List Value}{M:List (List Rat)}
end
end Go.Ex

/- Columns and CheckMatrix of the reference; Rank and Kernel of package exact. Printed by program. No condition but sizes. -/
namespace Go.Ex
open Go Go.Sx Go.Proofs

end Go.Ex

/- Rows of api fractions in normal form that are held raw, and written. No condition but sizes. -/
namespace Go.Ex
open Go Go.Sx Go.Proofs

def Fc(w:World)(S:Nat→Prop)(css:List (List Value))(qs:List Rat):Prop:=css.length=qs.length∧∀(j:Nat) cs q,css[j]? =some cs→qs[j]? =some q→Rat4C w S cs q
section
variable{S S':Nat→Prop}{w w2:World}{cs:List Value}{css:List (List Value)}{q:Rat}{qs:List Rat}
end
section
variable{C C' S S':Nat→Prop}{H:Hp}{nx:Nat}{iv iv':Iv}{B:Nat}{w w' w2:World}{ρ:Nat→Sx.Val}{v:Value}{qs:List Rat}
end
/-- a row that may be written: its limbs lie in S -/
def RowWc(w:World)(S:Nat→Prop)(v:Value)(n:Nat)(qs:List Rat):Prop:=∃css,w.ownsRow 0 T.Rat 4 v n css.flatten∧css.length=n∧Fc w S css qs
section
variable{S S' C:Nat→Prop}{H:Hp}{nx n:Nat}{iv iv':Iv}{B:Nat}{w w' w2:World}{ρ:Nat→Sx.Val}{v:Value}{qs:List Rat}
/-- a row of a call's own making, which the caller may write: its block is new, its limbs lie elsewhere -/
structure RowXc(w:World)(S:Nat→Prop)(B:Nat)(iv:Iv)(v:Value)(n:Nat)(qs:List Rat):Prop where
 row:RowWc w (fun g=>Cv S B iv g∧v.ownBlock≠some g) v n qs
 new:∀g,v.ownBlock=some g→Cv (fun _=>False) B iv g
end
section
variable{S S':Nat→Prop}{H:Hp}{nx n:Nat}{iv iv':Iv}{B:Nat}{w w' w2:World}{ρ:Nat→Sx.Val}{v:Value}{qs:List Rat}
end
end Go.Ex

/- has, Rank and Kernel of the reference. Printed by program. No condition but sizes. -/
namespace Go.Ex
open Go Go.Sx Go.Proofs

section
variable{S S':Nat→Prop}{H:Hp}{nx:Nat}{iv iv':Iv}{B:Nat}{w w' w2:World}{ρ:Nat→Sx.Val}{rv:List Value}{K:List (List Rat)}
end
end Go.Ex

/- The pivots of an elimination. Plain. -/
namespace Go.Ex
end Go.Ex

/- ExactRanks of the laws of chapter 1. Printed by program. No condition. -/
namespace Go.Ex
open Go Go.Sx Go.Proofs

section
variable{S S':Nat→Prop}{H:Hp}{nx:Nat}{iv iv':Iv}{B:Nat}{w w' w2:World}{ρ:Nat→Sx.Val}{v:Value}{M:List (List (Int×Int))}
end
end Go.Ex

/- Rows of package exact: same, nought, dot. Printed by program. No condition but sizes. -/
namespace Go.Ex
open Go Go.Sx Go.Proofs

end Go.Ex

/- Rows of package exact: EqualFunc of rows, nought, dot. Printed by program. No condition but sizes. -/
namespace Go.Ex
open Go Go.Sx Go.Proofs

end Go.Ex

/- through of package exact: the sums of the rows' multiples. Printed by program. No condition but sizes. -/
namespace Go.Ex
open Go Go.Sx Go.Proofs

end Go.Ex

/- Package exact: a matrix with rows of any lengths, and CheckSolution. Printed by program. No condition but sizes. -/
namespace Go.Ex
open Go Go.Sx Go.Proofs

section
variable{S S':Nat→Prop}{H:Hp}{nx:Nat}{iv iv':Iv}{B:Nat}{w w' w2:World}{ρ:Nat→Sx.Val}{v:Value}{qs:List Rat}
end
section
variable{S S':Nat→Prop}{H:Hp}{nx:Nat}{iv iv':Iv}{B:Nat}{w w' w2:World}{ρ:Nat→Sx.Val}{v:Value}{M:List (List Rat)}
end
section
variable{S S':Nat→Prop}{H:Hp}{nx:Nat}{iv iv':Iv}{B:Nat}{w w' w2:World}{ρ:Nat→Sx.Val}{v:List Value}{M:List (List Rat)}
end
theorem run_eql_nilslice(w:World)(t e:TypeId)(a:Option Addr)(n c n' c':Nat)(h:PG.underlying t=some (.slice e)):
  (binOp .eql t (.slice a n c) (.slice none n' c')).run PG w= .ok (.bool a.isNone) w:=by
 have:∀d,(Op.equalIn (d+1) t (.slice a n c) (.slice none n' c')).run PG w= .ok a.isNone w:=fun d=>by cases a<;>simp[Op.equalIn,run_underlying h]
 simp only[binOp]
 cases a<;>simp[Op.equal,Op.maxDepth,this 9999]
end Go.Ex

/- Package exact: CheckSolution. Printed by program. No condition but sizes. -/
namespace Go.Ex
open Go Go.Sx Go.Proofs

end Go.Ex

/- Regions that draw their order, by an order with branches; CheckSystem and Wider of the reference. Printed by program. No condition but sizes. -/
namespace Go.Ex
open Go Go.Sx Go.Proofs

inductive Tp where
 |nil
 |x (i:Nat) (t:Tp)
 |two (i:Nat) (t:Tp) (j:Nat) (u:Tp)
 |give (id:Nat) (t:Tp)
def chkTp(ops:Array Oper):Tp→Array Bool→Bool
 | .nil,lx=>(Region.ready .any ops lx).isEmpty
 | .x i t,lx=>match ops[i]? with
  |none=>false
  |some o=>(Region.ready .any ops lx).contains i&&((Region.ready .any ops lx).all (fun j=>Nat.beq j i)||isR o.op&&freeH ops (maskL lx.toList 0) [] i o)&&chkTp ops t (lx.setIfInBounds i true)
 | .two i t j u,lx=>match Region.ready .any ops lx with
  |[a,b]=>Nat.beq a i&&(Nat.beq b j&&(chkTp ops t (lx.setIfInBounds i true)&&chkTp ops u (lx.setIfInBounds j true)))
  |_=>false
 | .give _ t,lx=>chkTp ops t lx
def sxTp(P:Program)(τ:Tab)(B:Nat)(all:List Oper):Tp→Env→Hp→Nat→Iv→World→KT→Prop
 | .nil,l,H,nx,iv,w,K=>K l H nx iv w
 | .x i t,l,H,nx,iv,w,K=>nthK all i (fun o=>sxStep (!voidCall o) P τ B all o l H nx iv w (fun l' H' nx' iv' w'=>sxTp P τ B all t l' H' nx' iv' w' K))
 | .two i t j u,l,H,nx,iv,w,K=>nthK all i (fun o=>sxStep (!voidCall o) P τ B all o l H nx iv w (fun l' H' nx' iv' w'=>sxTp P τ B all t l' H' nx' iv' w' K))∧
   nthK all j (fun o=>sxStep (!voidCall o) P τ B all o l H nx iv w (fun l' H' nx' iv' w'=>sxTp P τ B all u l' H' nx' iv' w' K))
 | .give id t,l,H,nx,iv,w,K=>∃H' b,getH H id=some b∧b≠ .dead∧SubH H H'∧okH id H'=true∧∀ρ w',Rel H nx iv B w ρ w'→(ρ id).nil=false∧∃l',(∀u v,getE l' u=some v→v.sc nx∧∃v',getE l u=some v'∧v'.den ρ=v.den ρ)∧sxTp P τ B all t l' H' nx (((ρ id).g,(ρ id).g+1)::iv) w' K
section
variable{P:Program}{τ:Tab}{ops:Array Oper}{B n nx:Nat}{l:Env}{H:Hp}{iv:Iv}{w w':World}{ρ:Nat→Sx.Val}{a:Act}
theorem stepE(hτ:TabOK P τ)(hok:∀(j:Nat) o,ops[j]? =some o→∀d,o.dst=some d→d<n){i:Nat}{K:KT}{Q:Exit→Act→World→Prop}{next:Act→World→Prop}
  (h:nthK ops.toList i (fun o=>sxStep (!voidCall o) P τ B ops.toList o l H nx iv w K)) (sat:Sat n l H nx iv B w ρ a w')
  (hn:∀l' H' nx' iv' w2 ρ' a' w3,K l' H' nx' iv' w2→Sat n l' H' nx' iv' B w2 ρ' a' w3→next a' w3):
  wpOp P ops Q i (fun a' w2=>((∀o,ops[i]? =some o→hard o=false)→Ext w' w2)∧next a' w2) a w':=by
 obtain⟨o,ho,h1⟩:=nthK_spec h
 rw[Array.getElem?_toList]at ho
 have hd:=hok i o ho
 unfold sxStep at h1
 refine wpOp_wanted ho ?_
 rcases sxGuard_spec sat h1 with⟨hw,l1,h2,sat1⟩|⟨hw,l1,h2,sat1⟩
 ·refine .inl ⟨hw,?_⟩
  cases hR:isR o.op with
  |true=>
   obtain⟨v,hK,hvs,hrun⟩:=(sxOp_reader hτ h2 sat1 hR).resolve_right (fun hh=>by have:=hh.1;rw[voidCall_R hR]at this;cases this)
   obtain⟨l2,h3,sat2⟩:=setE_spec sat1 hK hd hvs
   exact wp_val (hrun w' (.inr sat1.rel)) ⟨fun _=>Ext.refl _,hn _ _ _ _ _ _ _ _ h3 sat2⟩
  |false=>
   cases hA:isA o.op with
   |true=>
    obtain⟨b,v,mk,obj,hK,hbd,hb,hv,hmk,hfit,hal⟩:=sxOp_alloc hτ h2 sat1 hA
    have hrel:Rel ((nx,b)::H) (nx+1) iv B w (upd ρ nx ⟨w'.heap.size,0,false⟩) (w'.alloc obj):=
     sat1.rel.push b _ rfl rfl rfl (by simp) (fun k hk=>heap_alloc_old _ _ hk) (fun _=>⟨Nat.le_refl _,by simp⟩) (hfit _ _ (heap_alloc_new _ _)) hb
    obtain⟨l2,h3,sat2⟩:=setE_spec (sat1.next hrel (Nat.le_succ _) (fun id hid=>upd_lt id hid)) hK hd hv
    rw[hmk]at sat2
    exact wp_val (v:=mk w'.heap.size) (w2:=w'.alloc obj) (hal w') ⟨fun _=>Ext.alloc _ _,hn _ _ _ _ _ _ _ _ h3 sat2⟩
   |false=>
    cases hH:hard o with
    |false=>
     rw[voidCall_soft hH]at h2
     refine sxOp_callE h2 sat1 hR hA hH fun v w2 hK he hs=>⟨fun _=>he,?_⟩
     obtain⟨l2,h3,sat2⟩:=setE_spec (v:=.o (.v v)) hs hK hd trivial
     exact hn _ _ _ _ _ _ _ _ h3 sat2
    |true=>
     refine sxOp_sound hτ h2 sat1 fun v H' nx' iv' w2 ρ' w3 hK sat2 hv=>⟨fun hs=>(by rw[hs o ho]at hH;cases hH),?_⟩
     obtain⟨l2,h3,sat3⟩:=setE_spec sat2 hK hd hv
     exact hn _ _ _ _ _ _ _ _ h3 sat3
 ·obtain⟨l2,h4,sat3⟩:=setE_spec sat1 h2 hd trivial
  exact .inr ⟨hw,fun _=>Ext.refl _,hn _ _ _ _ _ _ _ _ h4 sat3⟩
theorem tp_sound(hτ:TabOK P τ)(hok:∀(j:Nat) o,ops[j]? =some o→∀d,o.dst=some d→d<n)(hsel:∀(j:Nat) (o:Oper) cs b,ops[j]? =some o→o.op≠ .select cs b){K:KT}{Q0:Act→World→Prop}
  (hQ:∀l' H' nx' iv' w2 ρ' a' w3,K l' H' nx' iv' w2→Sat n l' H' nx' iv' B w2 ρ' a' w3→Q0 a' w3):
  ∀(t:Tp) (fuel:Nat) (la:Array Bool) (l:Env) (H:Hp) (nx:Nat) (iv:Iv) (w:World) (ρ:Nat→Sx.Val) (a:Act) (w':World),unl la≤fuel→la.size=ops.size→chkTp ops t la=true→sxTp P τ B ops.toList t l H nx iv w K→Sat n l H nx iv B w ρ a w'→wpAnyE P .any ops (QN Q0) fuel la a w'
 | .nil,fuel,la,l,H,nx,iv,w,ρ,a,w',_,_,hc,h,s=>by
  simp only[chkTp,List.isEmpty_iff]at hc
  exact wpAnyE_done hc ⟨rfl,hQ _ _ _ _ _ _ _ _ h s⟩ fuel
 | .x i t,fuel,la,l,H,nx,iv,w,ρ,a,w',hf,hz,hc,h,s=>by
  unfold chkTp at hc
  obtain⟨o,ho,h1⟩:=nthK_spec h
  rw[Array.getElem?_toList]at ho
  simp only[ho,Bool.and_eq_true,Bool.or_eq_true]at hc
  obtain⟨⟨c1,c2⟩,c3⟩:=hc
  have c1:i∈Region.ready .any ops la:=by simpa using c1
  obtain⟨hla,-⟩:=mem_ready'.1 c1
  have hun:=unl_set hla
  obtain⟨f,rfl⟩:∃f,fuel=f+1:=⟨fuel-1,by omega⟩
  have hz2:(la.setIfInBounds i true).size=ops.size:=by rw[Array.size_setIfInBounds,hz]
  rcases c2 with c2|⟨hR,c4⟩
  ·refine⟨fun h0=>(by rw[h0]at c1;cases c1),fun j hj=>?_⟩
   have hji:j=i:=beq_t (List.all_eq_true.1 c2 j hj)
   subst hji
   exact stepE hτ hok h s fun _ _ _ _ _ _ _ _ hk hs=>tp_sound hτ hok hsel hQ t f _ _ _ _ _ _ _ _ _ (by omega) hz2 c3 hk hs
  ·obtain⟨blk,hb1,hb2,hb3,hb4⟩:=freeH_spec c4 hz
   unfold sxStep at h1
   have hd:=hok i o ho
   rcases sxGuard_spec s h1 with⟨hw,l1,h2,sat1⟩|⟨hw,l1,h2,sat1⟩
   ·obtain⟨v,hK,hvs,hrun⟩:=(sxOp_reader hτ h2 sat1 hR).resolve_right (fun hh=>by have:=hh.1;rw[voidCall_R hR]at this;cases this)
    obtain⟨l2,h3,sat2⟩:=setE_spec sat1 hK hd hvs
    refine wpAnyE_first (pu:=isP o.op) (v:=v.den ρ) ho hsel (fun c a w hq=>absurd hq.1 (by simp)) blk hb1 f la a w' hb2 hb4 c1 (.inl ⟨hw,fun w3 he=>hrun w3 (he.imp id fun he=>sat1.rel.ext he)⟩) ?_
    exact tp_sound hτ hok hsel hQ t f _ _ _ _ _ _ _ _ _ (by omega) hz2 c3 h3 sat2
   ·obtain⟨l2,h3,sat2⟩:=setE_spec (v:=.o (.v undef)) sat1 h2 hd trivial
    refine wpAnyE_first (pu:=isP o.op) (v:=undef) ho hsel (fun c a w hq=>absurd hq.1 (by simp)) blk hb1 f la a w' hb2 hb4 c1 (.inr ⟨hw,rfl⟩) ?_
    exact tp_sound hτ hok hsel hQ t f _ _ _ _ _ _ _ _ _ (by omega) hz2 c3 h3 sat2
 | .two i t k u,fuel,la,l,H,nx,iv,w,ρ,a,w',hf,hz,hc,h,s=>by
  simp only[chkTp]at hc
  split at hc
  ·rename_i x y hr
   simp only[Bool.and_eq_true]at hc
   obtain⟨c1,c2,c3,c4⟩:=hc
   have hx:=Nat.eq_of_beq_eq_true c1
   have hy:=Nat.eq_of_beq_eq_true c2
   subst hx
   subst hy
   obtain⟨h1,h2⟩:=h
   have hm1:x∈Region.ready .any ops la:=by rw[hr];simp
   have hm2:y∈Region.ready .any ops la:=by rw[hr];simp
   have u1:=unl_set (mem_ready'.1 hm1).1
   have u2:=unl_set (mem_ready'.1 hm2).1
   obtain⟨f,rfl⟩:∃f,fuel=f+1:=⟨fuel-1,by omega⟩
   refine⟨fun h0=>(by rw[hr]at h0;cases h0),fun j hj=>?_⟩
   rw[hr,List.mem_cons,List.mem_singleton]at hj
   rcases hj with rfl|rfl
   ·exact stepE hτ hok h1 s fun _ _ _ _ _ _ _ _ hk hs=>tp_sound hτ hok hsel hQ t f _ _ _ _ _ _ _ _ _ (by omega) (by rw[Array.size_setIfInBounds,hz]) c3 hk hs
   ·exact stepE hτ hok h2 s fun _ _ _ _ _ _ _ _ hk hs=>tp_sound hτ hok hsel hQ u f _ _ _ _ _ _ _ _ _ (by omega) (by rw[Array.size_setIfInBounds,hz]) c4 hk hs
  ·cases hc
 | .give id t,fuel,la,l,H,nx,iv,w,ρ,a,w',hf,hz,hc,h,s=>by
  obtain⟨H',b,hid,hd,hs,ho,h⟩:=h
  obtain⟨hn,l',hl,h⟩:=h _ _ s.rel
  exact tp_sound hτ hok hsel hQ t fuel la l' H' nx _ w' ρ a w' hf hz hc h ⟨s.rel.free hid hd hn hs ho,s.size,s.defers,fun u v hv=>by obtain⟨-,v',h1,h2⟩:=hl u v hv;rw[←h2];exact s.env u v' h1,fun u v hv=>(hl u v hv).1⟩
/-- a region that draws its order, by an order of one's own with branches -/
theorem drawn_of_tp(hτ:TabOK P τ)(hm:P.follows .mixedOrders=true){K:KT}(t:Tp)(hs:Region.noSelect ops=true)(hc:chkTp ops t (Array.replicate ops.size false)=true)
  (h:sxTp P τ B ops.toList t l H nx iv w K):DrawnS P B ops l H nx iv w K:=by
 refine⟨fun n ρ a w' hok sat Q hQ id=>?_⟩
 refine wp_mono (Q':=Q) (c:=.region id ops true) (wp_region_any (Q:=QN (Q .normal)) hm (wpAny_of_E _ _ _ _ ?_)) (fun e a w hq=>by obtain⟨rfl,hq⟩:=hq;exact hq)
 refine tp_sound hτ (fun j o ho d hd=>?_) (Region.noSelect_spec hs) hQ t _ _ _ _ _ _ _ ρ _ _ ?_ (by simp) hc h ⟨sat.rel.drew,sat.size,sat.defers,sat.env,sat.sc⟩
 ·have:=List.all_eq_true.1 hok o (List.mem_of_getElem? (by rw[Array.getElem?_toList];exact ho))
  rw[hd]at this
  have h5:d+1≤n:=by simpa [Nat.blt]using this
  exact h5
 ·unfold unl
  refine Nat.le_trans List.countP_le_length ?_
  simp
end
/-- a growing list of one's own, given up: it is held raw -/
theorem vecGive{H:Hp}{nx:Nat}{iv:Iv}{B:Nat}{w w':World}{ρ:Nat→Sx.Val}(r:Rel H nx iv B w ρ w'){id t m sz:Nat}{cs:List Value}(h:getH H id=some (.vec t sz cs))(hm:cs.length=m*sz)(hm1:m≤maxLen)(hs:0<sz)(h0:0<m)(h1:∀u∈cs,u.oneCell'=true):
  (ρ id).nil=false∧B≤(ρ id).g∧SeqR w' (fun g=>g=(ρ id).g) sz (.slice (some ⟨(ρ id).g,0,none⟩) m (ρ id).cap) cs m:=by
 rcases r.vec id t sz _ h with⟨hn,rfl⟩|⟨hn,spare,hb,hc,hcap⟩
 ·have:=Nat.mul_pos h0 hs
  simp at hm
  omega
 ·refine⟨hn,(r.low id _ h hn).1,hm1,hm,h1,some ⟨(ρ id).g,0,none⟩,(ρ id).cap,rfl,?_,fun j x hx=>⟨_,rfl,rfl,?_⟩⟩
  ·have h1:(cs++spare).length=cs.length+spare.length:=List.length_append
   have h2:m*sz≤(ρ id).cap*sz:=by omega
   exact Nat.le_of_mul_le_mul_right h2 hs
  ·rw[addr_add,cell_of hb,Nat.zero_add,List.getElem?_append_left (List.getElem?_eq_some_iff.1 hx).1]
   exact hx
end Go.Ex

/- The digits of a natural number, written by package exact. Printed by program. No condition but sizes. -/
namespace Go.Ex
open Go Go.Sx Go.Proofs

def strs(ps:List (List Nat)):List Value:=ps.map fun x=>.string (strOf x)
theorem strs_len(ps:List (List Nat)):(strs ps).length=ps.length:=List.length_map ..
theorem strs_one(ps:List (List Nat)):∀u∈strs ps,u.oneCell'=true:=fun u hu=>by
 obtain⟨x,_,rfl⟩:=List.mem_map.1 hu
 rfl
theorem chunks_lens(n:Nat):∀x∈chunks n,x.length=9:=by
 induction n using Nat.strongRecOn with
 |ind n ih=>
  by_cases h:n=0
  ·subst h;rw[chunks_zero];intro x hx;cases hx
  ·rw[chunks_pos h]
   intro x hx
   rcases List.mem_append.1 hx with hx|hx
   ·exact ih _ (by omega) x hx
   ·rw[List.mem_singleton.1 hx];simp[nine]
theorem flat9:∀{ps:List (List Nat)},(∀x∈ps,x.length=9)→ps.flatten.length=ps.length*9
 |[],_=>rfl
 |x::r,h=>by
  rw[List.flatten_cons,List.length_append,h x List.mem_cons_self,flat9 fun y hy=>h y (List.mem_cons_of_mem _ hy),List.length_cons]
  omega
theorem digitsG_c{S:Nat→Prop}{w:World}{v:Value}{n:Nat}(hS:Old S w)(h:NatR w S v n)(hc:(chunks n).length≤100000)(hn:ln n≤100000):
  Con PG N.exact_nat_digits #[v] w (Ret w fun v' _=>v'= .string (strOf (dec n))):=by
 have hnN:=h.arg []
 obtain⟨a,m0,c,rfl⟩:=h.shape
 refine in_exact_nat_digits (by simp) ?_
 conv=>whnf
 refine⟨(Nat×List (List Nat))×Value×Iv×World,fun z=>⟨[(0,.o (.v z.2.1)),(3,.o (.w 0 z.1.2.length))],[(0,.vec T.string 1 (strs z.1.2))],1,z.2.2.1,z.2.2.2⟩,
  fun z=>z.1.1,fun z=>chunks n=chunks z.1.1++z.1.2∧z.1.1≤n∧Bel w.heap.size w z.2.2.2∧NatR z.2.2.2 (Cv S w.heap.size z.2.2.1) z.2.1 z.1.1,?_,?_⟩
 ·intro ρ w' r
  exact⟨((n,[]),_,[],w'),⟨by simp,Nat.le_refl _,r.bel,hnN.rel r hS⟩,Sub.nil 3 T.string 1 rfl (by simp[ScE,SV.sc,At.sc,initE]) r fun ρ1 r1=>Sub.gen [] r1 ⟨rfl,trivial⟩ ⟨rfl,rfl,trivial⟩ (by simp[ScH,Blk.scopd]) (by simp[ScE,SV.sc,At.sc]) (by rfl) (fun lo hi h=>h)⟩
 clear hnN h
 rintro⟨⟨m,ps⟩,v,iv,w1⟩ ⟨hch,hmn,hw,hv⟩
 dsimp only at hch hmn hw hv ⊢
 have hpl0:(chunks m).length+ps.length≤100000:=by rw[hch,List.length_append]at hc;exact hc
 obtain⟨p,rfl,hp1,hp2⟩:=hv.la
 have hpl:=length_ln p.lm hp2
 rw[hp1]at hpl
 have hpz:=ln_pos hpl
 conv=>whnf
 refine BrS.mk (fun h=>?_) (fun h=>?_)
 ·have h:0<m:=hpz.1 (by
   have:(p.ls.length:Int)>0:=of_decide_eq_true h
   omega)
  obtain⟨x0,hx0⟩:∃x0,x0=m % 1000000000:=⟨_,rfl⟩
  obtain⟨y0,hy0⟩:∃y0,y0=m / 1000000000:=⟨_,rfl⟩
  have hch2:chunks n=chunks y0++nine x0::ps:=by
   rw[hch,chunks_pos (by omega),←hx0,←hy0,List.append_assoc]
   rfl
  have hx9:x0<1000000000:=by omega
  have hym:y0<m:=by omega
  have hpl2:ps.length+1≤100000:=by rw[hch2,List.length_append,List.length_cons]at hc;omega
  have hlnm:ln m≤100000:=Nat.le_trans (ln_mono hmn) hn
  conv=>whnf
  refine callE_S (callE_con (Φ:=fun _ w' v w2=>∃q,v= .tuple #[q,.int .u32 (x0:Int)]∧NatR w2 (Nw (fun _=>False) w' w2) q y0) (fun ρ w' r=>?_) ?_)
  ·obtain⟨ls,k1,k2,k3⟩:=hv.rel r hS
   have hl:=length_ln k1.lm k2
   rw[k3]at hl
   have:=short_c (b:=1000000000) (Rel.old r hS) k1 (by omega) (by decide) (by decide)
   rw[k3,←hx0,←hy0]at this
   exact this
  rintro ρ wa v1 wb r he hb2 ⟨q,rfl,hq⟩
  replace hw:=hw.tr hb2
  have hQ:=hq.got (S:=S) r.baseLe (iv:=(wa.heap.size,wb.heap.size)::iv) List.mem_cons_self
  clear r he hq hv hb2
  generalize (wa.heap.size,wb.heap.size)::iv=iv2 at*
  obtain⟨a1,m1,c1,rfl⟩:=hQ.shape
  clear hx0 hy0 hch
  conv=>whnf
  refine⟨Nat×World,fun z=>⟨[(0,.o (.v (.slice p.a p.ls.length p.c))),(3,.o (.w 0 ps.length)),(4,.o (.v (.slice a1 m1 c1))),(5,.o (.v (.int .u32 ((x0 / 10^z.1:Nat):Int)))),(6,.o (.p 1 0)),(7,.o (.v (.int .i64 (8-(z.1:Int)))))],[(1,.box T._9_uint8 (nineAt z.1 x0)),(0,.vec T.string 1 (strs ps))],2,iv2,z.2⟩,
   fun z=>9-z.1,fun z=>z.1≤9∧Bel w.heap.size w z.2∧NatR z.2 (Cv S w.heap.size iv2) (.slice a1 m1 c1) y0,?_,?_⟩
  ·intro ρ w' r
   exact⟨(0,w'),⟨by simp,hw.tr r.bel,hQ.rel r hS⟩,Sub.gen [] r ⟨rfl,rfl,trivial⟩ ⟨rfl,rfl,rfl,by simp;rfl,rfl,rfl,trivial⟩ (by simp[ScH,Blk.scopd,nineAt,At.sc]) (by simp[ScE,SV.sc,At.sc]) (by rfl) (fun lo hi h=>h)⟩
  clear hw hQ
  rintro⟨k,w2⟩ ⟨hk,hw,hQ⟩
  dsimp only at hk hw hQ ⊢
  have hcase:k<9∨k=9:=by omega
  rcases hcase with hk9|rfl
  ·have hdiv:x0 / 10^k / 10=x0 / 10^(k+1):=by rw[Nat.div_div_eq_div_mul,Nat.pow_succ]
   have hle:=Nat.div_le_self x0 (10^k)
   have hset:∀j,j+k=8→(nineAt k x0).set j (At.v (.int .u8 ((48+x0 / 10^k % 10:Nat):Int)))=nineAt (k+1) x0:=fun j hj=>nineAt_set hj
   generalize x0 / 10^k=x at*
   have hcases:k=0∨k=1∨k=2∨k=3∨k=4∨k=5∨k=6∨k=7∨k=8:=by omega
   rcases hcases with rfl|rfl|rfl|rfl|rfl|rfl|rfl|rfl|rfl
   ·conv=>whnf
    refine⟨by decide,((x % 10:Nat):Int),rem64n x 10,?_⟩
    conv=>whnf
    refine⟨((48+x % 10:Nat):Int),by rw[wrapU32]<;>omega,?_⟩
    conv=>whnf
    refine⟨((48+x % 10:Nat):Int),wrapU8n (by omega),?_⟩
    conv=>whnf
    refine⟨⟨by decide,by decide⟩,?_⟩
    conv=>whnf
    refine⟨by decide,((x / 10:Nat):Int),quo32n (by omega),?_⟩
    conv=>whnf
    refine⟨8-((0+1:Nat):Int),by decide,?_⟩
    conv=>whnf
    intro ρ3 w3 r3
    have hs:=hset 8 rfl
    exact⟨(0+1,w3),⟨by dsimp only;omega,hw.tr r3.bel,hQ.rel r3 hS⟩,Sub.gen [] r3 ⟨by rw[←hs];rfl,rfl,trivial⟩ ⟨rfl,rfl,rfl,by rw[←hdiv];rfl,rfl,rfl,trivial⟩ (by simp[ScH,Blk.scopd,nineAt,At.sc]) (by simp[ScE,SV.sc,At.sc]) (by rfl) (fun lo hi h=>h),by dsimp only;omega⟩
   ·conv=>whnf
    refine⟨by decide,((x % 10:Nat):Int),rem64n x 10,?_⟩
    conv=>whnf
    refine⟨((48+x % 10:Nat):Int),by rw[wrapU32]<;>omega,?_⟩
    conv=>whnf
    refine⟨((48+x % 10:Nat):Int),wrapU8n (by omega),?_⟩
    conv=>whnf
    refine⟨⟨by decide,by decide⟩,?_⟩
    conv=>whnf
    refine⟨by decide,((x / 10:Nat):Int),quo32n (by omega),?_⟩
    conv=>whnf
    refine⟨8-((1+1:Nat):Int),by decide,?_⟩
    conv=>whnf
    intro ρ3 w3 r3
    have hs:=hset 7 rfl
    exact⟨(1+1,w3),⟨by dsimp only;omega,hw.tr r3.bel,hQ.rel r3 hS⟩,Sub.gen [] r3 ⟨by rw[←hs];rfl,rfl,trivial⟩ ⟨rfl,rfl,rfl,by rw[←hdiv];rfl,rfl,rfl,trivial⟩ (by simp[ScH,Blk.scopd,nineAt,At.sc]) (by simp[ScE,SV.sc,At.sc]) (by rfl) (fun lo hi h=>h),by dsimp only;omega⟩
   ·conv=>whnf
    refine⟨by decide,((x % 10:Nat):Int),rem64n x 10,?_⟩
    conv=>whnf
    refine⟨((48+x % 10:Nat):Int),by rw[wrapU32]<;>omega,?_⟩
    conv=>whnf
    refine⟨((48+x % 10:Nat):Int),wrapU8n (by omega),?_⟩
    conv=>whnf
    refine⟨⟨by decide,by decide⟩,?_⟩
    conv=>whnf
    refine⟨by decide,((x / 10:Nat):Int),quo32n (by omega),?_⟩
    conv=>whnf
    refine⟨8-((2+1:Nat):Int),by decide,?_⟩
    conv=>whnf
    intro ρ3 w3 r3
    have hs:=hset 6 rfl
    exact⟨(2+1,w3),⟨by dsimp only;omega,hw.tr r3.bel,hQ.rel r3 hS⟩,Sub.gen [] r3 ⟨by rw[←hs];rfl,rfl,trivial⟩ ⟨rfl,rfl,rfl,by rw[←hdiv];rfl,rfl,rfl,trivial⟩ (by simp[ScH,Blk.scopd,nineAt,At.sc]) (by simp[ScE,SV.sc,At.sc]) (by rfl) (fun lo hi h=>h),by dsimp only;omega⟩
   ·conv=>whnf
    refine⟨by decide,((x % 10:Nat):Int),rem64n x 10,?_⟩
    conv=>whnf
    refine⟨((48+x % 10:Nat):Int),by rw[wrapU32]<;>omega,?_⟩
    conv=>whnf
    refine⟨((48+x % 10:Nat):Int),wrapU8n (by omega),?_⟩
    conv=>whnf
    refine⟨⟨by decide,by decide⟩,?_⟩
    conv=>whnf
    refine⟨by decide,((x / 10:Nat):Int),quo32n (by omega),?_⟩
    conv=>whnf
    refine⟨8-((3+1:Nat):Int),by decide,?_⟩
    conv=>whnf
    intro ρ3 w3 r3
    have hs:=hset 5 rfl
    exact⟨(3+1,w3),⟨by dsimp only;omega,hw.tr r3.bel,hQ.rel r3 hS⟩,Sub.gen [] r3 ⟨by rw[←hs];rfl,rfl,trivial⟩ ⟨rfl,rfl,rfl,by rw[←hdiv];rfl,rfl,rfl,trivial⟩ (by simp[ScH,Blk.scopd,nineAt,At.sc]) (by simp[ScE,SV.sc,At.sc]) (by rfl) (fun lo hi h=>h),by dsimp only;omega⟩
   ·conv=>whnf
    refine⟨by decide,((x % 10:Nat):Int),rem64n x 10,?_⟩
    conv=>whnf
    refine⟨((48+x % 10:Nat):Int),by rw[wrapU32]<;>omega,?_⟩
    conv=>whnf
    refine⟨((48+x % 10:Nat):Int),wrapU8n (by omega),?_⟩
    conv=>whnf
    refine⟨⟨by decide,by decide⟩,?_⟩
    conv=>whnf
    refine⟨by decide,((x / 10:Nat):Int),quo32n (by omega),?_⟩
    conv=>whnf
    refine⟨8-((4+1:Nat):Int),by decide,?_⟩
    conv=>whnf
    intro ρ3 w3 r3
    have hs:=hset 4 rfl
    exact⟨(4+1,w3),⟨by dsimp only;omega,hw.tr r3.bel,hQ.rel r3 hS⟩,Sub.gen [] r3 ⟨by rw[←hs];rfl,rfl,trivial⟩ ⟨rfl,rfl,rfl,by rw[←hdiv];rfl,rfl,rfl,trivial⟩ (by simp[ScH,Blk.scopd,nineAt,At.sc]) (by simp[ScE,SV.sc,At.sc]) (by rfl) (fun lo hi h=>h),by dsimp only;omega⟩
   ·conv=>whnf
    refine⟨by decide,((x % 10:Nat):Int),rem64n x 10,?_⟩
    conv=>whnf
    refine⟨((48+x % 10:Nat):Int),by rw[wrapU32]<;>omega,?_⟩
    conv=>whnf
    refine⟨((48+x % 10:Nat):Int),wrapU8n (by omega),?_⟩
    conv=>whnf
    refine⟨⟨by decide,by decide⟩,?_⟩
    conv=>whnf
    refine⟨by decide,((x / 10:Nat):Int),quo32n (by omega),?_⟩
    conv=>whnf
    refine⟨8-((5+1:Nat):Int),by decide,?_⟩
    conv=>whnf
    intro ρ3 w3 r3
    have hs:=hset 3 rfl
    exact⟨(5+1,w3),⟨by dsimp only;omega,hw.tr r3.bel,hQ.rel r3 hS⟩,Sub.gen [] r3 ⟨by rw[←hs];rfl,rfl,trivial⟩ ⟨rfl,rfl,rfl,by rw[←hdiv];rfl,rfl,rfl,trivial⟩ (by simp[ScH,Blk.scopd,nineAt,At.sc]) (by simp[ScE,SV.sc,At.sc]) (by rfl) (fun lo hi h=>h),by dsimp only;omega⟩
   ·conv=>whnf
    refine⟨by decide,((x % 10:Nat):Int),rem64n x 10,?_⟩
    conv=>whnf
    refine⟨((48+x % 10:Nat):Int),by rw[wrapU32]<;>omega,?_⟩
    conv=>whnf
    refine⟨((48+x % 10:Nat):Int),wrapU8n (by omega),?_⟩
    conv=>whnf
    refine⟨⟨by decide,by decide⟩,?_⟩
    conv=>whnf
    refine⟨by decide,((x / 10:Nat):Int),quo32n (by omega),?_⟩
    conv=>whnf
    refine⟨8-((6+1:Nat):Int),by decide,?_⟩
    conv=>whnf
    intro ρ3 w3 r3
    have hs:=hset 2 rfl
    exact⟨(6+1,w3),⟨by dsimp only;omega,hw.tr r3.bel,hQ.rel r3 hS⟩,Sub.gen [] r3 ⟨by rw[←hs];rfl,rfl,trivial⟩ ⟨rfl,rfl,rfl,by rw[←hdiv];rfl,rfl,rfl,trivial⟩ (by simp[ScH,Blk.scopd,nineAt,At.sc]) (by simp[ScE,SV.sc,At.sc]) (by rfl) (fun lo hi h=>h),by dsimp only;omega⟩
   ·conv=>whnf
    refine⟨by decide,((x % 10:Nat):Int),rem64n x 10,?_⟩
    conv=>whnf
    refine⟨((48+x % 10:Nat):Int),by rw[wrapU32]<;>omega,?_⟩
    conv=>whnf
    refine⟨((48+x % 10:Nat):Int),wrapU8n (by omega),?_⟩
    conv=>whnf
    refine⟨⟨by decide,by decide⟩,?_⟩
    conv=>whnf
    refine⟨by decide,((x / 10:Nat):Int),quo32n (by omega),?_⟩
    conv=>whnf
    refine⟨8-((7+1:Nat):Int),by decide,?_⟩
    conv=>whnf
    intro ρ3 w3 r3
    have hs:=hset 1 rfl
    exact⟨(7+1,w3),⟨by dsimp only;omega,hw.tr r3.bel,hQ.rel r3 hS⟩,Sub.gen [] r3 ⟨by rw[←hs];rfl,rfl,trivial⟩ ⟨rfl,rfl,rfl,by rw[←hdiv];rfl,rfl,rfl,trivial⟩ (by simp[ScH,Blk.scopd,nineAt,At.sc]) (by simp[ScE,SV.sc,At.sc]) (by rfl) (fun lo hi h=>h),by dsimp only;omega⟩
   ·conv=>whnf
    refine⟨by decide,((x % 10:Nat):Int),rem64n x 10,?_⟩
    conv=>whnf
    refine⟨((48+x % 10:Nat):Int),by rw[wrapU32]<;>omega,?_⟩
    conv=>whnf
    refine⟨((48+x % 10:Nat):Int),wrapU8n (by omega),?_⟩
    conv=>whnf
    refine⟨⟨by decide,by decide⟩,?_⟩
    conv=>whnf
    refine⟨by decide,((x / 10:Nat):Int),quo32n (by omega),?_⟩
    conv=>whnf
    refine⟨8-((8+1:Nat):Int),by decide,?_⟩
    conv=>whnf
    intro ρ3 w3 r3
    have hs:=hset 0 rfl
    exact⟨(8+1,w3),⟨by dsimp only;omega,hw.tr r3.bel,hQ.rel r3 hS⟩,Sub.gen [] r3 ⟨by rw[←hs];rfl,rfl,trivial⟩ ⟨rfl,rfl,rfl,by rw[←hdiv];rfl,rfl,rfl,trivial⟩ (by simp[ScH,Blk.scopd,nineAt,At.sc]) (by simp[ScE,SV.sc,At.sc]) (by rfl) (fun lo hi h=>h),by dsimp only;omega⟩
  ·have hn9:nineAt 9 x0=(nine x0).map fun b:Nat=>At.v (.int .u8 (b:Int)):=by
    apply List.ext_getElem?
    intro i
    by_cases hi:i<9
    ·simp[nineAt,nine,hi]
    ·rw[List.getElem?_eq_none (by simp[nineAt];omega),List.getElem?_eq_none (by simp[nine];omega)]
   rw[hn9]
   have hl9:(nine x0).length=9:=by simp[nine]
   have hsp:strs (nine x0::ps)=[.string (strOf (nine x0))]++strs ps:=rfl
   generalize nine x0=bs at*
   clear hn9
   conv=>whnf
   refine opS_str (e:=T.uint8) (bs:=bs) ((hτ T.Luint8 _ rfl).i4 rfl) ((hτ T.uint8 _ rfl).i1 rfl) und_str (by rfl) (by rfl) hl9 (fun ρ w3 r=>?_)
   replace hw:=hw.tr r.bel
   replace hQ:=hQ.rel r hS
   clear r
   conv=>whnf
   refine .inl ?_
   conv=>whnf
   refine⟨by rw[strs_len,Nat.mul_one],strs_one ps,?_⟩
   conv=>whnf
   refine⟨rfl,by omega,by unfold maxLen;omega,?_⟩
   conv=>whnf
   intro ρ3 w3 r3
   exact⟨((y0,bs::ps),.slice a1 m1 c1,iv2,w3),⟨hch2,by dsimp only;omega,hw.tr r3.bel,hQ.rel r3 hS⟩,Sub.gen [(0,3)] r3 ⟨by dsimp only;rw[hsp];rfl,trivial⟩ ⟨rfl,by dsimp only;rw[List.length_cons,Nat.add_comm ps.length 1];rfl,trivial⟩ (by simp[ScH,Blk.scopd]) (by simp[ScE,SV.sc,At.sc]) (by rfl) (fun lo hi h=>h),by dsimp only;omega⟩
 ·have h:m=0:=by
   have:¬(p.ls.length:Int)>0:=of_decide_eq_false h
   omega
  subst h
  rw[chunks_zero,List.nil_append]at hch
  have hlens:=chunks_lens n
  have hdec:=chunks_dec n
  have hdig:=(chunks_val n).2
  rw[hch]at hlens hdec hdig
  have hfl:=flat9 hlens
  have hlt:∀b∈ps.flatten,b<256:=fun b hb=>by have:=hdig b hb;omega
  have key:=fun w'=>trimLeft_c ps.flatten w' hlt (by unfold maxLen;omega)
  rw[hdec]at key
  conv=>whnf
  refine callE_S (callE_con (Φ:=fun _ _ v _=>v= .string (strOf ps.flatten)) (fun ρ w' r=>?_) ?_)
  ·cases ps with
   |nil=>
    rcases r.vec 0 _ _ _ rfl with⟨hn,-⟩|⟨hn,spare,hb,hc,hcap⟩
    ·show Con PG N.strings_Join #[(At.w 0 0).den ρ,.string ⟨#[]⟩] w' _
     rw[show (At.w 0 0).den ρ= .slice none 0 0 by simp[At.den,hn]]
     exact joinNone_c none 0 w'
    ·show Con PG N.strings_Join #[(At.w 0 0).den ρ,.string ⟨#[]⟩] w' _
     rw[show (At.w 0 0).den ρ= .slice (some ⟨(ρ 0).g,0,none⟩) 0 (ρ 0).cap by simp[At.den,hn]]
     exact joinNone_c _ _ w'
   |cons x rest=>
    obtain⟨h1,h2,h3⟩:=vecGive r (id:=0) (m:=(x::rest).length) (sz:=1) rfl (by rw[strs_len,Nat.mul_one]) (by unfold maxLen;omega) (by decide) (by simp) (strs_one _)
    show Con PG N.strings_Join #[(At.w 0 (x::rest).length).den ρ,.string ⟨#[]⟩] w' _
    rw[show (At.w 0 (x::rest).length).den ρ= .slice (some ⟨(ρ 0).g,0,none⟩) (x::rest).length (ρ 0).cap by simp[At.den,h1]]
    obtain⟨-,-,-,a2,c2,e,hcap,hcell⟩:=h3
    injection e with e1 e2 e3
    subst e1 e3
    refine join_s (xs:=x::rest) (fun j y hy=>?_) (r.low 0 _ rfl h1).2 (by omega) hcap (by rw[hfl];omega)
    obtain⟨ad,k1,-,k3⟩:=hcell j (.string (strOf y)) (by unfold strs;rw[List.getElem?_map,hy];rfl)
    injection k1 with k1
    subst k1
    rw[addr_add]at k3
    simpa using k3
  rintro ρ wa v wb r he hb rfl
  replace hw:=hw.tr hb
  clear r he
  conv=>whnf
  refine callE_S (callE_con (Φ:=fun _ _ v _=>v= .string (strOf (if n=0 then []else dec n))) (fun ρ w' r=>key w') ?_)
  rintro ρ wa v wb r he hb rfl
  replace hw:=hw.tr hb
  clear r he key
  by_cases hn0:n=0
  ·subst hn0
   rw[if_pos rfl,dec_small (by decide)]
   conv=>whnf
   intro ρe we re
   exact⟨_,rfl,hw.tr re.bel,rfl⟩
  ·rw[if_neg hn0]
   have hne:(strOf (dec n)).data.toList≠[]:=by
    rw[strOf_data]
    simpa using dec_ne n
   generalize strOf (dec n)=out at*
   conv=>whnf
   refine BrS.mk (fun h=>?_) (fun h=>?_)
   ·exact absurd (eq_of_beq h) hne
   ·conv=>whnf
    intro ρe we re
    exact⟨_,rfl,hw.tr re.bel,rfl⟩
end Go.Ex

/- The text of a fraction, of whatever size. Printed by program. No condition but sizes. -/
namespace Go.Ex
open Go Go.Sx Go.Proofs

theorem chunks_le:∀{k n:Nat},n<1000000000^k→(chunks n).length≤k
 |0,n,h=>by rw[show n=0 by simpa using h,chunks_zero];exact Nat.le_refl _
 |k+1,n,h=>by
  by_cases h0:n=0
  ·rw[h0,chunks_zero];exact Nat.zero_le _
  ·rw[chunks_pos h0,List.length_append]
   have:=chunks_le (k:=k) (n:=n / 1000000000) (by rw[Nat.div_lt_iff_lt_mul (by decide)];rw[Nat.pow_succ]at h;exact h)
   simp;omega
theorem chunks_ln{n k:Nat}(h:ln n≤k):(chunks n).length≤2*k:=by
 have h1:n<4294967296^k:=ln_le.1 h
 refine chunks_le (Nat.lt_of_lt_of_le h1 ?_)
 rw[Nat.pow_mul]
 exact Nat.pow_le_pow_left (by decide) k
theorem decL_len{n:Nat}(h:ln n≤100):(dec n).length≤1801:=by
 have h1:=chunks_ln h
 have h2:=flat9 (chunks_lens n)
 by_cases h0:n=0
 ·rw[h0,dec_small (by decide)];simp
 ·have h3:=chunks_dec n
  rw[if_neg h0]at h3
  rw[←h3]
  have:=List.Sublist.length_le (List.dropWhile_sublist (l:=(chunks n).flatten) (· ==48))
  omega
theorem digitsL_c{S:Nat→Prop}{w:World}{v:Value}{n:Nat}(hS:Old S w)(h:NatR w S v n)(hn:ln n≤100):
  Con PG N.exact_nat_digits #[v] w (Ret w fun v' _=>v'= .string (strOf (dec n))):=by
 have:=chunks_ln hn
 exact digitsG_c hS h (by omega) (by omega)
def txtGA(q:Rat):ByteArray:=signed (decide (q.num<0)) (strOf (dec q.num.natAbs))
/-- a fraction, written -/
def txtG(q:Rat):ByteArray:=match decide (q.den=1)with
 |true=>txtGA q
 |false=>txtGA q++(⟨#[47]⟩++strOf (dec q.den))
theorem txtGA_size{q:Rat}(h:ln q.num.natAbs≤100):(txtGA q).size≤1802:=by
 have h1:=decL_len h
 unfold txtGA
 cases decide (q.num<0)
 ·show(strOf _).size≤1802
  rw[strOf_size];omega
 ·show(⟨#[45]⟩++strOf _:ByteArray).size≤1802
  rw[ByteArray.size_append,strOf_size]
  show 1+_≤1802
  omega
theorem textG_c{S:Nat→Prop}{w:World}{v:Value}{q:Rat}(hS:Old S w)(hf:FracR w S v q)(hn:ln q.num.natAbs≤100)(hd:ln q.den≤100):
  Con PG N.exact_fraction_text #[v] w (Ret w fun v' _=>v'= .string (txtG q)):=by
 have hw:Bel w.heap.size w w:=Bel.refl
 replace hf:=hf.weak (S':=Cv S w.heap.size []) fun _ h=>.inl h
 obtain⟨b1,a1,n1,c1,b2,a2,n2,c2,rfl⟩:=hf.shape
 have hfn:=hf.num.nat
 have hfd:=hf.den
 clear hf
 obtain⟨hb1,hfn⟩:=hfn
 have hln:=decL_len hn
 have hld:=decL_len hd
 have hts:=txtGA_size hn
 have hA:txtGA q=signed b1 (strOf (dec q.num.natAbs)):=by rw[hb1];rfl
 have hs1:=strOf_size (dec q.num.natAbs)
 have hs2:=strOf_size (dec q.den)
 refine in_exact_fraction_text (by simp) ?_
 conv=>whnf
 refine callE_S (callE_con (Φ:=fun _ w' v w2=>v= .string (strOf (dec q.num.natAbs))) (fun ρ w' r=>digitsL_c (Rel.old r hS) (hfn.rel r hS) hn) ?_)
 rintro ρ wa1 v1 wb1 r he hb rfl
 replace hw:=hw.tr hb
 clear hfn
 replace hfd:=hfd.past (iv':=(wa1.heap.size,wb1.heap.size)::[]) r hS he fun x hx=>List.mem_cons_of_mem _ hx
 clear r he hb
 generalize (wa1.heap.size,wb1.heap.size)::[]=iv1 at*
 conv=>whnf
 generalize strOf (dec q.num.natAbs)=s1 at*
 cases b1
 ·conv=>whnf
  refine drawn_of_pi hτ hmix [.x 0,.x 1,.x 2,.x 3,.x 4] (by kernel_rfl) (by kernel_rfl) ?_
  conv=>whnf
  refine callE_con (Φ:=fun _ w' v w2=>NumR w2 (Nw (fun _=>False) w' w2) v 1) (fun ρ w' r=>small_c 1 w' (by decide) (by decide)) ?_
  rintro ρ wa2 v2 wb2 r he hb hn
  replace hw:=hw.tr hb
  replace hfd:=hfd.past (iv':=(wa2.heap.size,wb2.heap.size)::iv1) r hS he fun x hx=>List.mem_cons_of_mem _ hx
  have hO:=hn.got (S:=fun _=>False) r.baseLe (iv:=(wa2.heap.size,wb2.heap.size)::iv1) List.mem_cons_self
  clear r he hb hn
  generalize (wa2.heap.size,wb2.heap.size)::iv1=iv2 at*
  obtain⟨s2_0,s2_1,s2_2,s2_3,rfl⟩:=hO.shape
  conv=>whnf
  refine callE_con (Φ:=fun _ w' v w2=>v= .int .i64 ((q.den:Int)-1).sign) (fun ρ w' r=>numCmp_c (Rel.old r hS) (hfd.rel r hS) ((hO.rel r (oldF w)).weak fun g hg=>hg.elim (fun k=>k.elim) .inr) (Nat.le_trans hd (by decide)) (by decide)) ?_
  rintro ρ wa3 v3 wb3 r he hb rfl
  replace hw:=hw.tr hb
  replace hfd:=hfd.past (iv':=(wa3.heap.size,wb3.heap.size)::iv2) r hS he fun x hx=>List.mem_cons_of_mem _ hx
  clear hO
  clear r he hb
  generalize (wa3.heap.size,wb3.heap.size)::iv2=iv3 at*
  conv=>whnf
  refine BrS.mk (fun h=>?_) (fun h=>?_)
  ·have h:q.den≠1:=fun e=>by rw[e]at h;exact absurd h (by decide)
   have hfdn:=hfd.nat.2
   clear hfd
   conv=>whnf
   refine callE_S (callE_con (Φ:=fun _ w' v w2=>v= .string (strOf (dec q.den))) (fun ρ w' r=>digitsL_c (Rel.old r hS) (hfdn.rel r hS) hd) ?_)
   rintro ρ wa4 v4 wb4 r he hb rfl
   replace hw:=hw.tr hb
   clear hfdn
   clear r he hb
   generalize (wa4.heap.size,wb4.heap.size)::iv3=iv4 at*
   conv=>whnf
   have ht:txtG q=txtGA q++(⟨#[47]⟩++strOf (dec q.den)):=by unfold txtG;rw[decide_eq_false h]
   rw[ht,hA]
   clear ht hA
   generalize strOf (dec q.den)=s2 at*
   refine⟨by show 1+s2.size≤maxLen;unfold maxLen;omega,?_⟩
   conv=>whnf
   refine⟨by simp only[ByteArray.size_append];have k1:(ByteArray.mk #[45]).size=1:=rfl;have k2:(ByteArray.mk #[47]).size=1:=rfl;unfold maxLen;omega,?_⟩
   conv=>whnf
   intro ρe we re
   exact⟨_,rfl,hw.tr re.bel,rfl⟩
  ·have h:q.den=1:=by
    have h0:((q.den:Int)-1).sign=0:=by
     have h1:(((q.den:Int)-1).sign==0)=true:=by simpa using h
     exact eq_of_beq h1
    have:=Int.sign_eq_zero_iff_zero.1 h0
    omega
   have ht:txtG q=txtGA q:=by unfold txtG;rw[decide_eq_true h]
   rw[ht,hA]
   clear ht hA
   conv=>whnf
   intro ρe we re
   exact⟨_,rfl,hw.tr re.bel,rfl⟩
 ·conv=>whnf
  refine⟨by show 1+s1.size≤maxLen;unfold maxLen;omega,?_⟩
  conv=>whnf
  refine drawn_of_pi hτ hmix [.x 0,.x 1,.x 2,.x 3,.x 4] (by kernel_rfl) (by kernel_rfl) ?_
  conv=>whnf
  refine callE_con (Φ:=fun _ w' v w2=>NumR w2 (Nw (fun _=>False) w' w2) v 1) (fun ρ w' r=>small_c 1 w' (by decide) (by decide)) ?_
  rintro ρ wa2 v2 wb2 r he hb hn
  replace hw:=hw.tr hb
  replace hfd:=hfd.past (iv':=(wa2.heap.size,wb2.heap.size)::iv1) r hS he fun x hx=>List.mem_cons_of_mem _ hx
  have hO:=hn.got (S:=fun _=>False) r.baseLe (iv:=(wa2.heap.size,wb2.heap.size)::iv1) List.mem_cons_self
  clear r he hb hn
  generalize (wa2.heap.size,wb2.heap.size)::iv1=iv2 at*
  obtain⟨s2_0,s2_1,s2_2,s2_3,rfl⟩:=hO.shape
  conv=>whnf
  refine callE_con (Φ:=fun _ w' v w2=>v= .int .i64 ((q.den:Int)-1).sign) (fun ρ w' r=>numCmp_c (Rel.old r hS) (hfd.rel r hS) ((hO.rel r (oldF w)).weak fun g hg=>hg.elim (fun k=>k.elim) .inr) (Nat.le_trans hd (by decide)) (by decide)) ?_
  rintro ρ wa3 v3 wb3 r he hb rfl
  replace hw:=hw.tr hb
  replace hfd:=hfd.past (iv':=(wa3.heap.size,wb3.heap.size)::iv2) r hS he fun x hx=>List.mem_cons_of_mem _ hx
  clear hO
  clear r he hb
  generalize (wa3.heap.size,wb3.heap.size)::iv2=iv3 at*
  conv=>whnf
  refine BrS.mk (fun h=>?_) (fun h=>?_)
  ·have h:q.den≠1:=fun e=>by rw[e]at h;exact absurd h (by decide)
   have hfdn:=hfd.nat.2
   clear hfd
   conv=>whnf
   refine callE_S (callE_con (Φ:=fun _ w' v w2=>v= .string (strOf (dec q.den))) (fun ρ w' r=>digitsL_c (Rel.old r hS) (hfdn.rel r hS) hd) ?_)
   rintro ρ wa4 v4 wb4 r he hb rfl
   replace hw:=hw.tr hb
   clear hfdn
   clear r he hb
   generalize (wa4.heap.size,wb4.heap.size)::iv3=iv4 at*
   conv=>whnf
   have ht:txtG q=txtGA q++(⟨#[47]⟩++strOf (dec q.den)):=by unfold txtG;rw[decide_eq_false h]
   rw[ht,hA]
   clear ht hA
   generalize strOf (dec q.den)=s2 at*
   refine⟨by show 1+s2.size≤maxLen;unfold maxLen;omega,?_⟩
   conv=>whnf
   refine⟨by simp only[ByteArray.size_append];have k1:(ByteArray.mk #[45]).size=1:=rfl;have k2:(ByteArray.mk #[47]).size=1:=rfl;unfold maxLen;omega,?_⟩
   conv=>whnf
   intro ρe we re
   exact⟨_,rfl,hw.tr re.bel,rfl⟩
  ·have h:q.den=1:=by
    have h0:((q.den:Int)-1).sign=0:=by
     have h1:(((q.den:Int)-1).sign==0)=true:=by simpa using h
     exact eq_of_beq h1
    have:=Int.sign_eq_zero_iff_zero.1 h0
    omega
   have ht:txtG q=txtGA q:=by unfold txtG;rw[decide_eq_true h]
   rw[ht,hA]
   clear ht hA
   conv=>whnf
   intro ρe we re
   exact⟨_,rfl,hw.tr re.bel,rfl⟩

theorem pubFormatG_c{S:Nat→Prop}{w:World}{v:Value}{x y:Int}(hS:Old S w)(hx:RatR w S v x y)(hlx:ln x.natAbs≤10000000000)(hly:ln y.natAbs≤10000000000)(hn:ln (ratio x y).num.natAbs≤100)(hd:ln (ratio x y).den≤100):
  Con PG N.exact_Format #[v] w (Ret w fun v' _=>v'= .string (txtG (ratio x y))):=by
 have hw:Bel w.heap.size w w:=Bel.refl
 replace hx:=hx.weak (S':=Cv S w.heap.size []) fun _ h=>.inl h
 obtain⟨b1,a1,n1,c1,b2,a2,n2,c2,rfl⟩:=hx.shape
 refine in_exact_Format (by simp) ?_
 conv=>whnf
 refine callE_S (callE_con (Φ:=fun _ w' v w2=>FracR w2 (Nw (fun _=>False) w' w2) v (ratio x y)) (fun ρ w' r=>value_c (Rel.old r hS) (hx.rel r hS) (by omega) (by omega)) ?_)
 rintro ρ wa1 v1 wb1 r he hb hn
 replace hw:=hw.tr hb
 clear hx
 have hF:=hn.got (S:=fun _=>False) r.baseLe (iv:=(wa1.heap.size,wb1.heap.size)::[]) List.mem_cons_self
 clear r he hb hn
 generalize (wa1.heap.size,wb1.heap.size)::[]=iv1 at*
 obtain⟨s1_0,s1_1,s1_2,s1_3,s1_4,s1_5,s1_6,s1_7,rfl⟩:=hF.shape
 conv=>whnf
 refine callE_S (callE_con (Φ:=fun _ w' v w2=>v= .string (txtG (ratio x y))) (fun ρ w' r=>textG_c (Rel.old r (oldF w)) (hF.rel r (oldF w)) hn hd) ?_)
 rintro ρ wa2 v2 wb2 r he hb rfl
 replace hw:=hw.tr hb
 clear hF
 clear r he hb
 generalize (wa2.heap.size,wb2.heap.size)::iv1=iv2 at*
 conv=>whnf
 intro ρe we re
 exact⟨_,rfl,hw.tr re.bel,rfl⟩
end Go.Ex

/- strings.Cut at one byte. No condition but sizes. -/
namespace Go.Ex
open Go Go.Sx Go.Proofs

theorem strOf_part(bs:List Nat)(a b:Nat):(strOf bs).extract a b=strOf ((bs.drop a).take (b-a)):=by
 apply ByteArray.ext
 rw[ByteArray.data_extract,strOf_data,strOf_data]
 apply Array.ext'
 simp[List.map_take,List.map_drop]
/-- what stands before the first byte 47, and behind it -/
def cutA(bs:List Nat):List Nat:=bs.takeWhile (fun b=>b != 47)
def cutB(bs:List Nat):List Nat:=(bs.dropWhile (fun b=>b != 47)).tail
theorem slash_parts:∀{bs:List Nat},47∈bs→∃i:Nat,slashAt bs=(i:Int)∧i<bs.length∧bs.take i=cutA bs∧bs.drop (i+1)=cutB bs
 |[],h=>by cases h
 |b::r,h=>by
  by_cases h0:b=47
  ·subst h0
   exact⟨0,by unfold slashAt;rw[if_pos h];rfl,by simp,rfl,rfl⟩
  ·have h1:47∈r:=(List.mem_cons.1 h).resolve_left fun k=>h0 k.symm
   obtain⟨i,k1,k2,k3,k4⟩:=slash_parts h1
   have hb:(b != 47)=true:=by simpa using h0
   refine⟨i+1,?_,by simp;omega,?_,?_⟩
   ·unfold slashAt at k1 ⊢
    rw[if_pos h1]at k1
    rw[if_pos h,List.findIdx_cons]
    have e2:(b==47)=false:=by simpa using h0
    rw[e2]
    simp only[cond_false]
    omega
   ·unfold cutA at k3 ⊢
    rw[List.takeWhile_cons,if_pos hb,List.take_succ_cons,k3]
   ·unfold cutB at k4 ⊢
    rw[List.dropWhile_cons,if_pos hb,List.drop_succ_cons,k4]
theorem slash_none{bs:List Nat}(h:47∉bs):slashAt bs= -1∧cutA bs=bs:=by
 refine⟨by unfold slashAt;rw[if_neg h],?_⟩
 unfold cutA
 induction bs with
 |nil=>rfl
 |cons x r ih=>
  have h1:x≠47:=fun e=>h (e▸List.mem_cons_self)
  rw[List.takeWhile_cons,if_pos (by simpa using h1),ih fun hm=>h (List.mem_cons_of_mem _ hm)]
theorem liteCut_c(bs:List Nat)(w:World)(hb:∀b∈bs,b<256)(hl:bs.length≤maxLen):
  Con PG N.stringslite_Cut #[.string (strOf bs),.string ⟨#[47]⟩] w (Ret w fun v _=>v= .tuple #[.string (strOf (cutA bs)),.string (strOf (if 47∈bs then cutB bs else [])),.bool (decide (47∈bs))]):=by
 unfold maxLen at hl
 have hw:Bel w.heap.size w w:=Bel.refl
 refine in_stringslite_Cut (by simp) ?_
 conv=>whnf
 refine callE_S (callE_con (Φ:=fun _ _ v _=>v= .int .i64 (slashAt bs)) (fun ρ w' r=>index1_s bs w' hb) ?_)
 rintro ρ wa v wb r he hb2 rfl
 replace hw:=hw.tr hb2
 clear r he hb2
 by_cases hm:47∈bs
 ·obtain⟨i,h1,h2,h3,h4⟩:=slash_parts hm
  rw[if_pos hm,decide_eq_true hm,h1]
  conv=>whnf
  refine drawn_of_pi hτ hmix [.x 0,.x 1,.x 2,.x 3,.x 4,.x 5,.x 6,.x 7,.x 8,.x 9,.x 10,.x 11] (by kernel_rfl) (by kernel_rfl) ?_
  conv=>whnf
  refine⟨⟨by omega,by omega,by first|omega|(rw [strOf_size];omega)⟩,?_⟩
  conv=>whnf
  refine⟨((i+1:Nat):Int),by rw[show (ByteArray.mk #[47]).size=1 from rfl,wrap64]<;>omega,?_⟩
  conv=>whnf
  refine⟨⟨by omega,by rw[strOf_size];omega,by omega⟩,?_⟩
  conv=>whnf
  intro ρe we re
  refine⟨_,rfl,hw.tr re.bel,?_⟩
  have e1:strOf (cutA bs)=(strOf bs).extract 0 i:=by rw[strOf_part,List.drop_zero,Nat.sub_zero,h3]
  have e2:strOf (cutB bs)=(strOf bs).extract (i+1) (strOf bs).size:=by rw[strOf_part,strOf_size,h4,List.take_of_length_le (by rw[←h4,List.length_drop];omega)]
  rw[e1,e2]
  rfl
 ·obtain⟨h1,h2⟩:=slash_none hm
  rw[if_neg hm,decide_eq_false hm,h1,h2]
  conv=>whnf
  intro ρe we re
  exact⟨_,rfl,hw.tr re.bel,rfl⟩
theorem cut_c(bs:List Nat)(w:World)(hb:∀b∈bs,b<256)(hl:bs.length≤maxLen):
  Con PG N.strings_Cut #[.string (strOf bs),.string ⟨#[47]⟩] w (Ret w fun v _=>v= .tuple #[.string (strOf (cutA bs)),.string (strOf (if 47∈bs then cutB bs else [])),.bool (decide (47∈bs))]):=by
 have hw:Bel w.heap.size w w:=Bel.refl
 refine in_strings_Cut (by simp) ?_
 conv=>whnf
 refine callE_S (callE_con (Φ:=fun _ _ v _=>v= .tuple #[.string (strOf (cutA bs)),.string (strOf (if 47∈bs then cutB bs else [])),.bool (decide (47∈bs))]) (fun ρ w' r=>liteCut_c bs w' hb hl) ?_)
 rintro ρ wa v wb r he hb2 rfl
 replace hw:=hw.tr hb2
 clear r he hb2
 conv=>whnf
 intro ρe we re
 exact⟨_,rfl,hw.tr re.bel,rfl⟩
end Go.Ex

/- The text of a fraction as a list of bytes, and what is read off it. Plain. -/
namespace Go.Ex
open Go Go.Sx
/-- the text of a fraction, as bytes -/
def txtL(q:Rat):List Nat:=(if q.num<0 then [45]else [])++(dec q.num.natAbs++(if q.den=1 then []else 47::dec q.den))
theorem strOf_app(a b:List Nat):strOf (a++b)=strOf a++strOf b:=by
 apply ByteArray.ext
 rw[ByteArray.data_append,strOf_data,strOf_data,strOf_data,List.map_append]
 simp
theorem strOf_txtL(q:Rat):strOf (txtL q)=txtG q:=by
 unfold txtL txtG txtGA
 have e:strOf ((if q.num<0 then [45]else [])++dec q.num.natAbs)=signed (decide (q.num<0)) (strOf (dec q.num.natAbs)):=by
  by_cases h:q.num<0
  ·rw[if_pos h,decide_eq_true h,strOf_app];rfl
  ·rw[if_neg h,decide_eq_false h];rfl
 rw[←List.append_assoc,strOf_app,e]
 by_cases h:q.den=1
 ·rw[if_pos h,decide_eq_true h]
  show _++strOf []=_
  apply ByteArray.ext
  rw[ByteArray.data_append]
  simp[strOf_data]
 ·rw[if_neg h,decide_eq_false h]
  show _++strOf ([47]++dec q.den)=_
  rw[strOf_app]
  rfl
theorem strOf_inj:∀{a b:List Nat},(∀x∈a,x<256)→(∀x∈b,x<256)→strOf a=strOf b→a=b:=by
 intro a b ha hb h
 have h1:a.map UInt8.ofNat=b.map UInt8.ofNat:=by
  have:=congrArg (fun s:ByteArray=>s.data.toList) h
  simpa [strOf_data]using this
 have h2:∀{l:List Nat},(∀x∈l,x<256)→(l.map UInt8.ofNat).map UInt8.toNat=l:=fun{l} hl=>by
  rw[List.map_map]
  exact(List.map_congr_left fun x hx=>by have:=hl x hx;show(UInt8.ofNat x).toNat=x;simp;omega).trans (List.map_id l)
 rw[←h2 ha,h1,h2 hb]
theorem Digs.no47{a:List Nat}(h:Digs a):47∉a:=fun hm=>by have:=h 47 hm;omega
theorem Digs.lt{a:List Nat}(h:Digs a):∀x∈a,x<256:=fun x hx=>by have:=h x hx;omega
theorem txtL_lt(q:Rat):∀x∈txtL q,x<256:=fun x hx=>by
 unfold txtL at hx
 rcases List.mem_append.1 hx with hx|hx
 ·split at hx
  ·rw[List.mem_singleton.1 hx];omega
  ·cases hx
 ·rcases List.mem_append.1 hx with hx|hx
  ·exact(dec_digs _).lt x hx
  ·split at hx
   ·cases hx
   ·rcases List.mem_cons.1 hx with rfl|hx
    ·omega
    ·exact(dec_digs _).lt x hx
theorem cutA_app{a:List Nat}(h:47∉a)(b:List Nat):cutA (a++47::b)=a∧cutB (a++47::b)=b:=by
 induction a with
 |nil=>exact⟨rfl,rfl⟩
 |cons x r ih=>
  have hx:(x != 47)=true:=by
   have:x≠47:=fun e=>h (e▸List.mem_cons_self)
   simpa using this
  obtain⟨h1,h2⟩:=ih fun hm=>h (List.mem_cons_of_mem _ hm)
  unfold cutA cutB at*
  rw[List.cons_append,List.takeWhile_cons,List.dropWhile_cons,if_pos hx,if_pos hx,h1,h2]
  exact⟨rfl,rfl⟩
/-- what is left behind a sign -/
def restL(bs:List Nat):List Nat:=if bs.head? =some 45 then bs.tail else bs
theorem dec_head(n:Nat):∃d r,dec n=d::r∧48≤d∧d≤57:=by
 cases h:dec n with
 |nil=>exact absurd h (dec_ne n)
 |cons d r=>exact⟨d,r,rfl,dec_digs n d (by rw[h];exact List.mem_cons_self)⟩
theorem txtL_head(q:Rat):((txtL q).head? =some 45↔q.num<0)∧restL (txtL q)=dec q.num.natAbs++(if q.den=1 then []else 47::dec q.den):=by
 obtain⟨d,r,h1,h2,h3⟩:=dec_head q.num.natAbs
 unfold restL txtL
 by_cases h:q.num<0
 ·rw[if_pos h]
  exact⟨⟨fun _=>h,fun _=>rfl⟩,by rw[if_pos (by rfl)];rfl⟩
 ·rw[if_neg h,List.nil_append,h1]
  have h4:(d::r++if q.den=1 then []else 47::dec q.den).head? ≠some 45:=by simp;omega
  exact⟨⟨fun e=>absurd e h4,fun e=>absurd e h⟩,by rw[if_neg h4]⟩
theorem txtL_read(q:Rat):cutA (restL (txtL q))=dec q.num.natAbs∧(47∈restL (txtL q)↔q.den≠1)∧(q.den≠1→cutB (restL (txtL q))=dec q.den):=by
 rw[(txtL_head q).2]
 have hn:=(dec_digs q.num.natAbs).no47
 by_cases h:q.den=1
 ·rw[if_pos h,List.append_nil]
  exact⟨(slash_none hn).2,⟨fun e=>absurd e hn,fun e=>absurd h e⟩,fun e=>absurd h e⟩
 ·rw[if_neg h]
  obtain⟨h1,h2⟩:=cutA_app hn (dec q.den)
  exact⟨h1,⟨fun _=>h,fun _=>List.mem_append_right _ List.mem_cons_self⟩,fun _=>h2⟩
end Go.Ex

/- read of package exact: digits as a natural number. Printed by program. No condition but sizes. -/
namespace Go.Ex
open Go Go.Sx Go.Proofs

theorem vald_lt:∀(k:Nat) (bs:List Nat),Digs bs→bs.length=k→vald bs<10^k
 |0,bs,_,hl=>by rw[List.eq_nil_of_length_eq_zero hl];decide
 |k+1,bs,hd,hl=>by
  have hne:bs≠[]:=fun e=>by rw[e]at hl;cases hl
  obtain⟨a,d,rfl⟩:∃a d,bs=a++[d]:=⟨bs.dropLast,bs.getLast hne,(List.dropLast_concat_getLast _).symm⟩
  have h1:=vald_lt k a (fun x hx=>hd x (List.mem_append_left _ hx)) (by simp at hl;exact hl)
  have h2:=hd d (by simp)
  rw[vald_snoc,Nat.pow_succ]
  omega
theorem ln_valdk{bs:List Nat}{k:Nat}(hd:Digs bs)(hl:bs.length≤9*k):ln (vald bs)≤k:=by
 refine ln_le.2 (Nat.lt_of_lt_of_le (vald_lt _ bs hd rfl) (Nat.le_trans (Nat.pow_le_pow_right (by decide) hl) ?_))
 show 10^(9*k)≤4294967296^k
 rw[Nat.pow_mul]
 exact Nat.pow_le_pow_left (by decide) k
theorem ln_vald{bs:List Nat}(hd:Digs bs)(hl:bs.length≤900):ln (vald bs)≤100:=ln_valdk hd (by omega)
theorem vald_take{bs:List Nat}{k b:Nat}(h:bs[k]? =some b):vald (bs.take (k+1))=vald (bs.take k)*10+(b-48):=by
 rw[List.take_add_one,h]
 exact vald_snoc _ _
theorem giveS_env{l tl:Env}{nx t id n c:Nat}{ρ:Nat→Sx.Val}(ht:getE l t=some (.o (.s id 0 n c)))(h1:SubE l tl)(h2:ScE nx tl):∀u v,getE ((t,.o (.v (.slice (some ⟨(ρ id).g,0,none⟩) n c)))::tl) u=some v→v.sc nx∧∃v',getE l u=some v'∧v'.den ρ=v.den ρ:=fun u v hv=>by
 rw[getE_cons]at hv
 split at hv
 ·rename_i e
  subst e
  injection hv with hv
  subst hv
  exact⟨trivial,_,ht,rfl⟩
 ·exact⟨h2.get u v hv,v,h1.get u v hv,rfl⟩
theorem wrapU8s{b:Nat}(h1:48≤b)(h2:b≤57):IntKind.wrap .u8 ((b:Int)-48)=((b-48:Nat):Int):=by
 rw[show ((b:Int)-48)=((b-48:Nat):Int) by omega]
 exact wrapU8n (by omega)
theorem read_c(bs:List Nat)(w:World)(hb:∀b∈bs,b<256)(hl:bs.length≤900):
  Con PG N.exact_read #[.string (strOf bs)] w (Ret w fun v' w2=>∃v ok,v'= .tuple #[v,.bool ok]∧(ok=true→Digs bs∧bs≠[]∧NatR w2 (Nw (fun _=>False) w w2) v (vald bs))∧(Digs bs∧bs≠[]→ok=true)):=by
 have hw:Bel w.heap.size w w:=Bel.refl
 refine in_exact_read (by simp) ?_
 conv=>whnf
 refine⟨Nat×(Option Addr×Nat×Nat)×World×Iv,fun z=>⟨[(0,.o (.v (.string (strOf bs)))),(4,.o (.v (.slice z.2.1.1 z.2.1.2.1 z.2.1.2.2))),(7,.o (.v (.int .i64 (bs.length:Nat)))),(8,.o (.v (.int .i64 ((z.1:Nat):Int))))],[],0,z.2.2.2,z.2.2.1⟩,fun z=>bs.length-z.1,
  fun z=>z.1≤bs.length∧Bel w.heap.size w z.2.2.1∧Digs (bs.take z.1)∧NatR z.2.2.1 (Cv (fun _=>False) w.heap.size z.2.2.2) (.slice z.2.1.1 z.2.1.2.1 z.2.1.2.2) (vald (bs.take z.1)),?_,?_⟩
 ·intro ρ w' r
  exact⟨(0,(none,0,0),w',[]),⟨Nat.zero_le _,hw.tr r.bel,fun d hd=>by simp at hd,NatR.nil _ _⟩,Sub.gen [] r trivial ⟨rfl,rfl,by rw[←strOf_size];rfl,rfl,trivial⟩ (by simp[ScH]) (by simp[ScE,SV.sc,At.sc]) (by rfl) (fun lo hi h=>h)⟩
 clear hw
 rintro⟨k,⟨ao,no,co⟩,w1,iv⟩ ⟨hk,hw,hd,hN⟩
 dsimp only at hk hw hd hN ⊢
 conv=>whnf
 refine BrS.mk (fun hkb=>?_) (fun hkb=>?_)
 ·have hkb:k<bs.length:=by simpa using hkb
  obtain⟨b,hbk⟩:∃b,bs[k]? =some b:=⟨_,List.getElem?_eq_getElem hkb⟩
  have hb6:=hb b (List.mem_of_getElem? hbk)
  have hgt:(strOf bs)[((k:Nat):Int).toNat]? =some (UInt8.ofNat b):=by rw[Int.toNat_natCast];exact strOf_get hbk
  conv=>whnf
  refine opS_index und_str (by rfl) (by rfl) (Int.natCast_nonneg k) hgt (fun ρ w2 r2=>?_)
  rw[u8n hb6]
  replace hw:=hw.tr r2.bel
  replace hN:=hN.rel r2 (oldF w)
  clear r2
  conv=>whnf
  refine BrS.mk (fun h1=>?_) (fun h1=>?_)
  ·have h1:b<48:=by have:(b:Int)<48:=of_decide_eq_true h1;omega
   have hnd:¬(Digs bs∧bs≠[]):=fun e=>by have:=e.1 b (List.mem_of_getElem? hbk);omega
   conv=>whnf
   intro ρe we re
   exact⟨_,rfl,hw.tr re.bel,_,false,rfl,fun e=>(by cases e),fun e=>absurd e hnd⟩
  have h1:48≤b:=by have:¬(b:Int)<48:=of_decide_eq_false h1;omega
  conv=>whnf
  refine opS_index und_str (by rfl) (by rfl) (Int.natCast_nonneg k) hgt (fun ρ w2 r2=>?_)
  rw[u8n hb6]
  replace hw:=hw.tr r2.bel
  replace hN:=hN.rel r2 (oldF w)
  clear r2
  conv=>whnf
  refine BrS.mk (fun h2=>?_) (fun h2=>?_)
  ·have h2:57<b:=by have:(b:Int)>57:=of_decide_eq_true h2;omega
   have hnd:¬(Digs bs∧bs≠[]):=fun e=>by have:=e.1 b (List.mem_of_getElem? hbk);omega
   conv=>whnf
   intro ρe we re
   exact⟨_,rfl,hw.tr re.bel,_,false,rfl,fun e=>(by cases e),fun e=>absurd e hnd⟩
  have h2:b≤57:=by have:¬(b:Int)>57:=of_decide_eq_false h2;omega
  have hd2:Digs (bs.take (k+1)):=by
   rw[List.take_add_one,hbk]
   exact hd.append fun x hx=>by rw[Option.toList_some,List.mem_singleton]at hx;omega
  have hv2:=vald_take hbk
  have hl1:=ln_vald hd (by rw[List.length_take];omega)
  have hl2:=ln_vald hd2 (by rw[List.length_take];omega)
  conv=>whnf
  refine drawn_of_tp hτ hmix (.x 0 (.x 3 (.x 4 (.two 1 (.two 2 (.x 5 (.x 6 (.x 7 (.x 8 (.give 1 (.x 9 (.x 10 (.x 11 .nil)))))))) 5 (.x 6 (.x 7 (.two 2 (.x 8 (.give 1 (.x 9 (.x 10 (.x 11 .nil))))) 8 (.x 2 (.give 1 (.x 9 (.x 10 (.x 11 .nil))))))))) 5 (.x 6 (.x 7 (.two 1 (.two 2 (.x 8 (.give 1 (.x 9 (.x 10 (.x 11 .nil))))) 8 (.x 2 (.give 1 (.x 9 (.x 10 (.x 11 .nil)))))) 8 (.x 1 (.x 2 (.give 0 (.x 9 (.x 10 (.x 11 .nil))))))))))))) (by kernel_rfl) (by kernel_rfl) ?_
  conv=>whnf
  refine⟨?_,?_⟩
  ·conv=>whnf
   conv=>whnf
   refine⟨?_,?_⟩
   ·conv=>whnf
    refine callE_con (Φ:=fun _ w' v w2=>NatR w2 (Nw (fun _=>False) w' w2) v (vald (bs.take k)*10)) (fun ρ w' r=>?_) ?_
    ·have hT:NatR w' (fun g=>g<w'.heap.size) ((At.s 0 0 1 1).den ρ) 10:=⟨[10],(r.boxLimbs (id:=0) (ls:=[10]) rfl (by intro x hx;simp at hx;omega) (by simp)).weak fun g hg=>by rw[hg];exact(r.low 0 _ rfl (r.nn 0 _ rfl (by intros;simp) (by simp))).2,by unfold Nz;simp,rfl⟩
     exact times_c (fun g hg=>hg) ((hN.rel r (oldF w)).weak fun g hg=>Rel.old r (oldF w) g hg) hT (by omega) (by decide)
    rintro ρ wa v1 wb r he hb2 hn
    replace hw:=hw.tr hb2
    replace hN:=hn.got (S:=fun _=>False) r.baseLe (iv:=(wa.heap.size,wb.heap.size)::iv) List.mem_cons_self
    clear r he hb2 hn
    generalize (wa.heap.size,wb.heap.size)::iv=iv2 at*
    obtain⟨a2,n2,c2,rfl⟩:=hN.shape
    conv=>whnf
    refine opS_index und_str (by rfl) (by rfl) (Int.natCast_nonneg k) hgt (fun ρ w2 r2=>?_)
    rw[u8n hb6]
    replace hw:=hw.tr r2.bel
    replace hN:=hN.rel r2 (oldF w)
    clear r2
    conv=>whnf
    refine⟨((b-48:Nat):Int),wrapU8s h1 h2,?_⟩
    conv=>whnf
    refine⟨((b-48:Nat):Int),by rw[wrapU32]<;>omega,?_⟩
    conv=>whnf
    conv=>whnf
    refine⟨[],_,rfl,by simp,trivial,rfl,fun ρ w' r=>?_⟩
    have hbx:=r.boxLimbs (id:=1) (ls:=[b-48]) rfl (by intro x hx;simp at hx;omega) (by simp)
    have hnil:=r.nn 1 _ rfl (by intros;simp) (by simp)
    refine⟨hnil,_,giveS_env (tl:=[(23,.o (.v (.slice a2 n2 c2))),(0,.o (.v (.string (strOf bs)))),(7,.o (.v (.int .i64 (bs.length:Nat)))),(8,.o (.v (.int .i64 ((k:Nat):Int))))]) (t:=29) (n:=1) (c:=1) rfl ⟨rfl,rfl,rfl,rfl,trivial⟩ (by simp[ScE,SV.sc,At.sc]),?_⟩
    have hT:Limbs w' (Cv (fun _=>False) w.heap.size (((ρ 1).g,(ρ 1).g+1)::iv2)) (.slice (some ⟨(ρ 1).g,0,none⟩) 1 1) [b-48]:=hbx.weak fun g hg=>.inr ⟨by have:=(r.low 1 _ rfl hnil).1;omega,_,_,List.mem_cons_self,by omega,by omega⟩
    replace hN:=(hN.rel r (oldF w)).weak (S':=Cv (fun _=>False) w.heap.size (((ρ 1).g,(ρ 1).g+1)::iv2)) fun g hg=>hg.mono fun p hp=>List.mem_cons_of_mem _ hp
    replace hw:=hw.tr r.bel
    clear hbx hnil r
    generalize (ρ 1).g=gx at*
    generalize (gx,gx+1)::iv2=iv3 at*
    conv=>whnf
    refine callE_con (Φ:=fun _ w' v w2=>Limbs w2 (Cv (fun _=>False) w.heap.size iv3) v (trimL [b-48])) (fun ρ w' r=>trimmed_c (Rel.old r (oldF w)) (Limbs.rel hT r (oldF w))) ?_
    rintro ρ wa v1 wb r he hb2 hn
    replace hw:=hw.tr hb2
    have hM:NatR wb (Cv (fun _=>False) w.heap.size ((wa.heap.size,wb.heap.size)::iv3)) v1 (b-48):=by
     have h5:=(hn.trimmed).weak (S':=Cv (fun _=>False) w.heap.size ((wa.heap.size,wb.heap.size)::iv3)) fun g hg=>hg.mono fun p hp=>List.mem_cons_of_mem _ hp
     simpa [val]using h5
    replace hN:=hN.past (iv':=(wa.heap.size,wb.heap.size)::iv3) r (oldF w) he fun x hx=>List.mem_cons_of_mem _ hx
    clear r he hb2 hn hT
    generalize (wa.heap.size,wb.heap.size)::iv3=iv4 at*
    obtain⟨a5,n5,c5,rfl⟩:=hM.shape
    conv=>whnf
    refine callE_con (Φ:=fun _ w' v w2=>NatR w2 (Nw (fun _=>False) w' w2) v (vald (bs.take k)*10+(b-48))) (fun ρ w' r=>plus_c (Rel.old r (oldF w)) (hN.rel r (oldF w)) (hM.rel r (oldF w)) (Nat.le_trans (ln_mono (show vald (bs.take k)*10≤vald (bs.take (k+1)) by omega)) (by omega)) (Nat.le_trans (ln_mono (show b-48≤9 by omega)) (by decide))) ?_
    rintro ρ wa v1 wb r he hb2 hn
    replace hw:=hw.tr hb2
    replace hN:=hn.got (S:=fun _=>False) r.baseLe (iv:=(wa.heap.size,wb.heap.size)::iv4) List.mem_cons_self
    clear r he hb2 hn hM
    generalize (wa.heap.size,wb.heap.size)::iv4=iv6 at*
    rw[←hv2]at hN
    obtain⟨a6,n6,c6,rfl⟩:=hN.shape
    conv=>whnf
    refine⟨((k+1:Nat):Int),by rw[wrap64]<;>omega,?_⟩
    conv=>whnf
    intro ρ3 w3 r3
    exact⟨(k+1,(a6,n6,c6),w3,_),⟨hkb,hw.tr r3.bel,hd2,hN.rel r3 (oldF w)⟩,Sub.gen [] r3 trivial ⟨rfl,rfl,rfl,rfl,trivial⟩ (by simp[ScH]) (by simp[ScE,SV.sc,At.sc]) (by rfl) (fun lo hi h=>h),by dsimp only;omega⟩
   ·conv=>whnf
    refine opS_index und_str (by rfl) (by rfl) (Int.natCast_nonneg k) hgt (fun ρ w2 r2=>?_)
    rw[u8n hb6]
    replace hw:=hw.tr r2.bel
    replace hN:=hN.rel r2 (oldF w)
    clear r2
    conv=>whnf
    refine⟨((b-48:Nat):Int),wrapU8s h1 h2,?_⟩
    conv=>whnf
    refine⟨((b-48:Nat):Int),by rw[wrapU32]<;>omega,?_⟩
    conv=>whnf
    refine⟨?_,?_⟩
    ·conv=>whnf
     refine callE_con (Φ:=fun _ w' v w2=>NatR w2 (Nw (fun _=>False) w' w2) v (vald (bs.take k)*10)) (fun ρ w' r=>?_) ?_
     ·have hT:NatR w' (fun g=>g<w'.heap.size) ((At.s 0 0 1 1).den ρ) 10:=⟨[10],(r.boxLimbs (id:=0) (ls:=[10]) rfl (by intro x hx;simp at hx;omega) (by simp)).weak fun g hg=>by rw[hg];exact(r.low 0 _ rfl (r.nn 0 _ rfl (by intros;simp) (by simp))).2,by unfold Nz;simp,rfl⟩
      exact times_c (fun g hg=>hg) ((hN.rel r (oldF w)).weak fun g hg=>Rel.old r (oldF w) g hg) hT (by omega) (by decide)
     rintro ρ wa v1 wb r he hb2 hn
     replace hw:=hw.tr hb2
     replace hN:=hn.got (S:=fun _=>False) r.baseLe (iv:=(wa.heap.size,wb.heap.size)::iv) List.mem_cons_self
     clear r he hb2 hn
     generalize (wa.heap.size,wb.heap.size)::iv=iv2 at*
     obtain⟨a2,n2,c2,rfl⟩:=hN.shape
     conv=>whnf
     conv=>whnf
     refine⟨[],_,rfl,by simp,trivial,rfl,fun ρ w' r=>?_⟩
     have hbx:=r.boxLimbs (id:=1) (ls:=[b-48]) rfl (by intro x hx;simp at hx;omega) (by simp)
     have hnil:=r.nn 1 _ rfl (by intros;simp) (by simp)
     refine⟨hnil,_,giveS_env (tl:=[(23,.o (.v (.slice a2 n2 c2))),(0,.o (.v (.string (strOf bs)))),(7,.o (.v (.int .i64 (bs.length:Nat)))),(8,.o (.v (.int .i64 ((k:Nat):Int))))]) (t:=29) (n:=1) (c:=1) rfl ⟨rfl,rfl,rfl,rfl,trivial⟩ (by simp[ScE,SV.sc,At.sc]),?_⟩
     have hT:Limbs w' (Cv (fun _=>False) w.heap.size (((ρ 1).g,(ρ 1).g+1)::iv2)) (.slice (some ⟨(ρ 1).g,0,none⟩) 1 1) [b-48]:=hbx.weak fun g hg=>.inr ⟨by have:=(r.low 1 _ rfl hnil).1;omega,_,_,List.mem_cons_self,by omega,by omega⟩
     replace hN:=(hN.rel r (oldF w)).weak (S':=Cv (fun _=>False) w.heap.size (((ρ 1).g,(ρ 1).g+1)::iv2)) fun g hg=>hg.mono fun p hp=>List.mem_cons_of_mem _ hp
     replace hw:=hw.tr r.bel
     clear hbx hnil r
     generalize (ρ 1).g=gx at*
     generalize (gx,gx+1)::iv2=iv3 at*
     conv=>whnf
     refine callE_con (Φ:=fun _ w' v w2=>Limbs w2 (Cv (fun _=>False) w.heap.size iv3) v (trimL [b-48])) (fun ρ w' r=>trimmed_c (Rel.old r (oldF w)) (Limbs.rel hT r (oldF w))) ?_
     rintro ρ wa v1 wb r he hb2 hn
     replace hw:=hw.tr hb2
     have hM:NatR wb (Cv (fun _=>False) w.heap.size ((wa.heap.size,wb.heap.size)::iv3)) v1 (b-48):=by
      have h5:=(hn.trimmed).weak (S':=Cv (fun _=>False) w.heap.size ((wa.heap.size,wb.heap.size)::iv3)) fun g hg=>hg.mono fun p hp=>List.mem_cons_of_mem _ hp
      simpa [val]using h5
     replace hN:=hN.past (iv':=(wa.heap.size,wb.heap.size)::iv3) r (oldF w) he fun x hx=>List.mem_cons_of_mem _ hx
     clear r he hb2 hn hT
     generalize (wa.heap.size,wb.heap.size)::iv3=iv4 at*
     obtain⟨a5,n5,c5,rfl⟩:=hM.shape
     conv=>whnf
     refine callE_con (Φ:=fun _ w' v w2=>NatR w2 (Nw (fun _=>False) w' w2) v (vald (bs.take k)*10+(b-48))) (fun ρ w' r=>plus_c (Rel.old r (oldF w)) (hN.rel r (oldF w)) (hM.rel r (oldF w)) (Nat.le_trans (ln_mono (show vald (bs.take k)*10≤vald (bs.take (k+1)) by omega)) (by omega)) (Nat.le_trans (ln_mono (show b-48≤9 by omega)) (by decide))) ?_
     rintro ρ wa v1 wb r he hb2 hn
     replace hw:=hw.tr hb2
     replace hN:=hn.got (S:=fun _=>False) r.baseLe (iv:=(wa.heap.size,wb.heap.size)::iv4) List.mem_cons_self
     clear r he hb2 hn hM
     generalize (wa.heap.size,wb.heap.size)::iv4=iv6 at*
     rw[←hv2]at hN
     obtain⟨a6,n6,c6,rfl⟩:=hN.shape
     conv=>whnf
     refine⟨((k+1:Nat):Int),by rw[wrap64]<;>omega,?_⟩
     conv=>whnf
     intro ρ3 w3 r3
     exact⟨(k+1,(a6,n6,c6),w3,_),⟨hkb,hw.tr r3.bel,hd2,hN.rel r3 (oldF w)⟩,Sub.gen [] r3 trivial ⟨rfl,rfl,rfl,rfl,trivial⟩ (by simp[ScH]) (by simp[ScE,SV.sc,At.sc]) (by rfl) (fun lo hi h=>h),by dsimp only;omega⟩
    ·conv=>whnf
     conv=>whnf
     refine callE_con (Φ:=fun _ w' v w2=>NatR w2 (Nw (fun _=>False) w' w2) v (vald (bs.take k)*10)) (fun ρ w' r=>?_) ?_
     ·have hT:NatR w' (fun g=>g<w'.heap.size) ((At.s 0 0 1 1).den ρ) 10:=⟨[10],(r.boxLimbs (id:=0) (ls:=[10]) rfl (by intro x hx;simp at hx;omega) (by simp)).weak fun g hg=>by rw[hg];exact(r.low 0 _ rfl (r.nn 0 _ rfl (by intros;simp) (by simp))).2,by unfold Nz;simp,rfl⟩
      exact times_c (fun g hg=>hg) ((hN.rel r (oldF w)).weak fun g hg=>Rel.old r (oldF w) g hg) hT (by omega) (by decide)
     rintro ρ wa v1 wb r he hb2 hn
     replace hw:=hw.tr hb2
     replace hN:=hn.got (S:=fun _=>False) r.baseLe (iv:=(wa.heap.size,wb.heap.size)::iv) List.mem_cons_self
     clear r he hb2 hn
     generalize (wa.heap.size,wb.heap.size)::iv=iv2 at*
     obtain⟨a2,n2,c2,rfl⟩:=hN.shape
     conv=>whnf
     refine⟨[],_,rfl,by simp,trivial,rfl,fun ρ w' r=>?_⟩
     have hbx:=r.boxLimbs (id:=1) (ls:=[b-48]) rfl (by intro x hx;simp at hx;omega) (by simp)
     have hnil:=r.nn 1 _ rfl (by intros;simp) (by simp)
     refine⟨hnil,_,giveS_env (tl:=[(23,.o (.v (.slice a2 n2 c2))),(0,.o (.v (.string (strOf bs)))),(7,.o (.v (.int .i64 (bs.length:Nat)))),(8,.o (.v (.int .i64 ((k:Nat):Int))))]) (t:=29) (n:=1) (c:=1) rfl ⟨rfl,rfl,rfl,rfl,trivial⟩ (by simp[ScE,SV.sc,At.sc]),?_⟩
     have hT:Limbs w' (Cv (fun _=>False) w.heap.size (((ρ 1).g,(ρ 1).g+1)::iv2)) (.slice (some ⟨(ρ 1).g,0,none⟩) 1 1) [b-48]:=hbx.weak fun g hg=>.inr ⟨by have:=(r.low 1 _ rfl hnil).1;omega,_,_,List.mem_cons_self,by omega,by omega⟩
     replace hN:=(hN.rel r (oldF w)).weak (S':=Cv (fun _=>False) w.heap.size (((ρ 1).g,(ρ 1).g+1)::iv2)) fun g hg=>hg.mono fun p hp=>List.mem_cons_of_mem _ hp
     replace hw:=hw.tr r.bel
     clear hbx hnil r
     generalize (ρ 1).g=gx at*
     generalize (gx,gx+1)::iv2=iv3 at*
     conv=>whnf
     refine callE_con (Φ:=fun _ w' v w2=>Limbs w2 (Cv (fun _=>False) w.heap.size iv3) v (trimL [b-48])) (fun ρ w' r=>trimmed_c (Rel.old r (oldF w)) (Limbs.rel hT r (oldF w))) ?_
     rintro ρ wa v1 wb r he hb2 hn
     replace hw:=hw.tr hb2
     have hM:NatR wb (Cv (fun _=>False) w.heap.size ((wa.heap.size,wb.heap.size)::iv3)) v1 (b-48):=by
      have h5:=(hn.trimmed).weak (S':=Cv (fun _=>False) w.heap.size ((wa.heap.size,wb.heap.size)::iv3)) fun g hg=>hg.mono fun p hp=>List.mem_cons_of_mem _ hp
      simpa [val]using h5
     replace hN:=hN.past (iv':=(wa.heap.size,wb.heap.size)::iv3) r (oldF w) he fun x hx=>List.mem_cons_of_mem _ hx
     clear r he hb2 hn hT
     generalize (wa.heap.size,wb.heap.size)::iv3=iv4 at*
     obtain⟨a5,n5,c5,rfl⟩:=hM.shape
     conv=>whnf
     refine callE_con (Φ:=fun _ w' v w2=>NatR w2 (Nw (fun _=>False) w' w2) v (vald (bs.take k)*10+(b-48))) (fun ρ w' r=>plus_c (Rel.old r (oldF w)) (hN.rel r (oldF w)) (hM.rel r (oldF w)) (Nat.le_trans (ln_mono (show vald (bs.take k)*10≤vald (bs.take (k+1)) by omega)) (by omega)) (Nat.le_trans (ln_mono (show b-48≤9 by omega)) (by decide))) ?_
     rintro ρ wa v1 wb r he hb2 hn
     replace hw:=hw.tr hb2
     replace hN:=hn.got (S:=fun _=>False) r.baseLe (iv:=(wa.heap.size,wb.heap.size)::iv4) List.mem_cons_self
     clear r he hb2 hn hM
     generalize (wa.heap.size,wb.heap.size)::iv4=iv6 at*
     rw[←hv2]at hN
     obtain⟨a6,n6,c6,rfl⟩:=hN.shape
     conv=>whnf
     refine⟨((k+1:Nat):Int),by rw[wrap64]<;>omega,?_⟩
     conv=>whnf
     intro ρ3 w3 r3
     exact⟨(k+1,(a6,n6,c6),w3,_),⟨hkb,hw.tr r3.bel,hd2,hN.rel r3 (oldF w)⟩,Sub.gen [] r3 trivial ⟨rfl,rfl,rfl,rfl,trivial⟩ (by simp[ScH]) (by simp[ScE,SV.sc,At.sc]) (by rfl) (fun lo hi h=>h),by dsimp only;omega⟩
  ·conv=>whnf
   refine opS_index und_str (by rfl) (by rfl) (Int.natCast_nonneg k) hgt (fun ρ w2 r2=>?_)
   rw[u8n hb6]
   replace hw:=hw.tr r2.bel
   replace hN:=hN.rel r2 (oldF w)
   clear r2
   conv=>whnf
   refine⟨((b-48:Nat):Int),wrapU8s h1 h2,?_⟩
   conv=>whnf
   refine⟨((b-48:Nat):Int),by rw[wrapU32]<;>omega,?_⟩
   conv=>whnf
   refine⟨?_,?_⟩
   ·conv=>whnf
    conv=>whnf
    refine⟨?_,?_⟩
    ·conv=>whnf
     refine callE_con (Φ:=fun _ w' v w2=>NatR w2 (Nw (fun _=>False) w' w2) v (vald (bs.take k)*10)) (fun ρ w' r=>?_) ?_
     ·have hT:NatR w' (fun g=>g<w'.heap.size) ((At.s 0 0 1 1).den ρ) 10:=⟨[10],(r.boxLimbs (id:=0) (ls:=[10]) rfl (by intro x hx;simp at hx;omega) (by simp)).weak fun g hg=>by rw[hg];exact(r.low 0 _ rfl (r.nn 0 _ rfl (by intros;simp) (by simp))).2,by unfold Nz;simp,rfl⟩
      exact times_c (fun g hg=>hg) ((hN.rel r (oldF w)).weak fun g hg=>Rel.old r (oldF w) g hg) hT (by omega) (by decide)
     rintro ρ wa v1 wb r he hb2 hn
     replace hw:=hw.tr hb2
     replace hN:=hn.got (S:=fun _=>False) r.baseLe (iv:=(wa.heap.size,wb.heap.size)::iv) List.mem_cons_self
     clear r he hb2 hn
     generalize (wa.heap.size,wb.heap.size)::iv=iv2 at*
     obtain⟨a2,n2,c2,rfl⟩:=hN.shape
     conv=>whnf
     conv=>whnf
     refine⟨[],_,rfl,by simp,trivial,rfl,fun ρ w' r=>?_⟩
     have hbx:=r.boxLimbs (id:=1) (ls:=[b-48]) rfl (by intro x hx;simp at hx;omega) (by simp)
     have hnil:=r.nn 1 _ rfl (by intros;simp) (by simp)
     refine⟨hnil,_,giveS_env (tl:=[(23,.o (.v (.slice a2 n2 c2))),(0,.o (.v (.string (strOf bs)))),(7,.o (.v (.int .i64 (bs.length:Nat)))),(8,.o (.v (.int .i64 ((k:Nat):Int))))]) (t:=29) (n:=1) (c:=1) rfl ⟨rfl,rfl,rfl,rfl,trivial⟩ (by simp[ScE,SV.sc,At.sc]),?_⟩
     have hT:Limbs w' (Cv (fun _=>False) w.heap.size (((ρ 1).g,(ρ 1).g+1)::iv2)) (.slice (some ⟨(ρ 1).g,0,none⟩) 1 1) [b-48]:=hbx.weak fun g hg=>.inr ⟨by have:=(r.low 1 _ rfl hnil).1;omega,_,_,List.mem_cons_self,by omega,by omega⟩
     replace hN:=(hN.rel r (oldF w)).weak (S':=Cv (fun _=>False) w.heap.size (((ρ 1).g,(ρ 1).g+1)::iv2)) fun g hg=>hg.mono fun p hp=>List.mem_cons_of_mem _ hp
     replace hw:=hw.tr r.bel
     clear hbx hnil r
     generalize (ρ 1).g=gx at*
     generalize (gx,gx+1)::iv2=iv3 at*
     conv=>whnf
     refine callE_con (Φ:=fun _ w' v w2=>Limbs w2 (Cv (fun _=>False) w.heap.size iv3) v (trimL [b-48])) (fun ρ w' r=>trimmed_c (Rel.old r (oldF w)) (Limbs.rel hT r (oldF w))) ?_
     rintro ρ wa v1 wb r he hb2 hn
     replace hw:=hw.tr hb2
     have hM:NatR wb (Cv (fun _=>False) w.heap.size ((wa.heap.size,wb.heap.size)::iv3)) v1 (b-48):=by
      have h5:=(hn.trimmed).weak (S':=Cv (fun _=>False) w.heap.size ((wa.heap.size,wb.heap.size)::iv3)) fun g hg=>hg.mono fun p hp=>List.mem_cons_of_mem _ hp
      simpa [val]using h5
     replace hN:=hN.past (iv':=(wa.heap.size,wb.heap.size)::iv3) r (oldF w) he fun x hx=>List.mem_cons_of_mem _ hx
     clear r he hb2 hn hT
     generalize (wa.heap.size,wb.heap.size)::iv3=iv4 at*
     obtain⟨a5,n5,c5,rfl⟩:=hM.shape
     conv=>whnf
     refine callE_con (Φ:=fun _ w' v w2=>NatR w2 (Nw (fun _=>False) w' w2) v (vald (bs.take k)*10+(b-48))) (fun ρ w' r=>plus_c (Rel.old r (oldF w)) (hN.rel r (oldF w)) (hM.rel r (oldF w)) (Nat.le_trans (ln_mono (show vald (bs.take k)*10≤vald (bs.take (k+1)) by omega)) (by omega)) (Nat.le_trans (ln_mono (show b-48≤9 by omega)) (by decide))) ?_
     rintro ρ wa v1 wb r he hb2 hn
     replace hw:=hw.tr hb2
     replace hN:=hn.got (S:=fun _=>False) r.baseLe (iv:=(wa.heap.size,wb.heap.size)::iv4) List.mem_cons_self
     clear r he hb2 hn hM
     generalize (wa.heap.size,wb.heap.size)::iv4=iv6 at*
     rw[←hv2]at hN
     obtain⟨a6,n6,c6,rfl⟩:=hN.shape
     conv=>whnf
     refine⟨((k+1:Nat):Int),by rw[wrap64]<;>omega,?_⟩
     conv=>whnf
     intro ρ3 w3 r3
     exact⟨(k+1,(a6,n6,c6),w3,_),⟨hkb,hw.tr r3.bel,hd2,hN.rel r3 (oldF w)⟩,Sub.gen [] r3 trivial ⟨rfl,rfl,rfl,rfl,trivial⟩ (by simp[ScH]) (by simp[ScE,SV.sc,At.sc]) (by rfl) (fun lo hi h=>h),by dsimp only;omega⟩
    ·conv=>whnf
     conv=>whnf
     refine callE_con (Φ:=fun _ w' v w2=>NatR w2 (Nw (fun _=>False) w' w2) v (vald (bs.take k)*10)) (fun ρ w' r=>?_) ?_
     ·have hT:NatR w' (fun g=>g<w'.heap.size) ((At.s 0 0 1 1).den ρ) 10:=⟨[10],(r.boxLimbs (id:=0) (ls:=[10]) rfl (by intro x hx;simp at hx;omega) (by simp)).weak fun g hg=>by rw[hg];exact(r.low 0 _ rfl (r.nn 0 _ rfl (by intros;simp) (by simp))).2,by unfold Nz;simp,rfl⟩
      exact times_c (fun g hg=>hg) ((hN.rel r (oldF w)).weak fun g hg=>Rel.old r (oldF w) g hg) hT (by omega) (by decide)
     rintro ρ wa v1 wb r he hb2 hn
     replace hw:=hw.tr hb2
     replace hN:=hn.got (S:=fun _=>False) r.baseLe (iv:=(wa.heap.size,wb.heap.size)::iv) List.mem_cons_self
     clear r he hb2 hn
     generalize (wa.heap.size,wb.heap.size)::iv=iv2 at*
     obtain⟨a2,n2,c2,rfl⟩:=hN.shape
     conv=>whnf
     refine⟨[],_,rfl,by simp,trivial,rfl,fun ρ w' r=>?_⟩
     have hbx:=r.boxLimbs (id:=1) (ls:=[b-48]) rfl (by intro x hx;simp at hx;omega) (by simp)
     have hnil:=r.nn 1 _ rfl (by intros;simp) (by simp)
     refine⟨hnil,_,giveS_env (tl:=[(23,.o (.v (.slice a2 n2 c2))),(0,.o (.v (.string (strOf bs)))),(7,.o (.v (.int .i64 (bs.length:Nat)))),(8,.o (.v (.int .i64 ((k:Nat):Int))))]) (t:=29) (n:=1) (c:=1) rfl ⟨rfl,rfl,rfl,rfl,trivial⟩ (by simp[ScE,SV.sc,At.sc]),?_⟩
     have hT:Limbs w' (Cv (fun _=>False) w.heap.size (((ρ 1).g,(ρ 1).g+1)::iv2)) (.slice (some ⟨(ρ 1).g,0,none⟩) 1 1) [b-48]:=hbx.weak fun g hg=>.inr ⟨by have:=(r.low 1 _ rfl hnil).1;omega,_,_,List.mem_cons_self,by omega,by omega⟩
     replace hN:=(hN.rel r (oldF w)).weak (S':=Cv (fun _=>False) w.heap.size (((ρ 1).g,(ρ 1).g+1)::iv2)) fun g hg=>hg.mono fun p hp=>List.mem_cons_of_mem _ hp
     replace hw:=hw.tr r.bel
     clear hbx hnil r
     generalize (ρ 1).g=gx at*
     generalize (gx,gx+1)::iv2=iv3 at*
     conv=>whnf
     refine callE_con (Φ:=fun _ w' v w2=>Limbs w2 (Cv (fun _=>False) w.heap.size iv3) v (trimL [b-48])) (fun ρ w' r=>trimmed_c (Rel.old r (oldF w)) (Limbs.rel hT r (oldF w))) ?_
     rintro ρ wa v1 wb r he hb2 hn
     replace hw:=hw.tr hb2
     have hM:NatR wb (Cv (fun _=>False) w.heap.size ((wa.heap.size,wb.heap.size)::iv3)) v1 (b-48):=by
      have h5:=(hn.trimmed).weak (S':=Cv (fun _=>False) w.heap.size ((wa.heap.size,wb.heap.size)::iv3)) fun g hg=>hg.mono fun p hp=>List.mem_cons_of_mem _ hp
      simpa [val]using h5
     replace hN:=hN.past (iv':=(wa.heap.size,wb.heap.size)::iv3) r (oldF w) he fun x hx=>List.mem_cons_of_mem _ hx
     clear r he hb2 hn hT
     generalize (wa.heap.size,wb.heap.size)::iv3=iv4 at*
     obtain⟨a5,n5,c5,rfl⟩:=hM.shape
     conv=>whnf
     refine callE_con (Φ:=fun _ w' v w2=>NatR w2 (Nw (fun _=>False) w' w2) v (vald (bs.take k)*10+(b-48))) (fun ρ w' r=>plus_c (Rel.old r (oldF w)) (hN.rel r (oldF w)) (hM.rel r (oldF w)) (Nat.le_trans (ln_mono (show vald (bs.take k)*10≤vald (bs.take (k+1)) by omega)) (by omega)) (Nat.le_trans (ln_mono (show b-48≤9 by omega)) (by decide))) ?_
     rintro ρ wa v1 wb r he hb2 hn
     replace hw:=hw.tr hb2
     replace hN:=hn.got (S:=fun _=>False) r.baseLe (iv:=(wa.heap.size,wb.heap.size)::iv4) List.mem_cons_self
     clear r he hb2 hn hM
     generalize (wa.heap.size,wb.heap.size)::iv4=iv6 at*
     rw[←hv2]at hN
     obtain⟨a6,n6,c6,rfl⟩:=hN.shape
     conv=>whnf
     refine⟨((k+1:Nat):Int),by rw[wrap64]<;>omega,?_⟩
     conv=>whnf
     intro ρ3 w3 r3
     exact⟨(k+1,(a6,n6,c6),w3,_),⟨hkb,hw.tr r3.bel,hd2,hN.rel r3 (oldF w)⟩,Sub.gen [] r3 trivial ⟨rfl,rfl,rfl,rfl,trivial⟩ (by simp[ScH]) (by simp[ScE,SV.sc,At.sc]) (by rfl) (fun lo hi h=>h),by dsimp only;omega⟩
   ·conv=>whnf
    conv=>whnf
    conv=>whnf
    refine callE_con (Φ:=fun _ w' v w2=>NatR w2 (Nw (fun _=>False) w' w2) v (vald (bs.take k)*10)) (fun ρ w' r=>?_) ?_
    ·have hT:NatR w' (fun g=>g<w'.heap.size) ((At.s 1 0 1 1).den ρ) 10:=⟨[10],(r.boxLimbs (id:=1) (ls:=[10]) rfl (by intro x hx;simp at hx;omega) (by simp)).weak fun g hg=>by rw[hg];exact(r.low 1 _ rfl (r.nn 1 _ rfl (by intros;simp) (by simp))).2,by unfold Nz;simp,rfl⟩
     exact times_c (fun g hg=>hg) ((hN.rel r (oldF w)).weak fun g hg=>Rel.old r (oldF w) g hg) hT (by omega) (by decide)
    rintro ρ wa v1 wb r he hb2 hn
    replace hw:=hw.tr hb2
    replace hN:=hn.got (S:=fun _=>False) r.baseLe (iv:=(wa.heap.size,wb.heap.size)::iv) List.mem_cons_self
    clear r he hb2 hn
    generalize (wa.heap.size,wb.heap.size)::iv=iv2 at*
    obtain⟨a2,n2,c2,rfl⟩:=hN.shape
    conv=>whnf
    refine⟨[],_,rfl,by simp,trivial,rfl,fun ρ w' r=>?_⟩
    have hbx:=r.boxLimbs (id:=0) (ls:=[b-48]) rfl (by intro x hx;simp at hx;omega) (by simp)
    have hnil:=r.nn 0 _ rfl (by intros;simp) (by simp)
    refine⟨hnil,_,giveS_env (tl:=[(23,.o (.v (.slice a2 n2 c2))),(0,.o (.v (.string (strOf bs)))),(7,.o (.v (.int .i64 (bs.length:Nat)))),(8,.o (.v (.int .i64 ((k:Nat):Int))))]) (t:=29) (n:=1) (c:=1) rfl ⟨rfl,rfl,rfl,rfl,trivial⟩ (by simp[ScE,SV.sc,At.sc]),?_⟩
    have hT:Limbs w' (Cv (fun _=>False) w.heap.size (((ρ 0).g,(ρ 0).g+1)::iv2)) (.slice (some ⟨(ρ 0).g,0,none⟩) 1 1) [b-48]:=hbx.weak fun g hg=>.inr ⟨by have:=(r.low 0 _ rfl hnil).1;omega,_,_,List.mem_cons_self,by omega,by omega⟩
    replace hN:=(hN.rel r (oldF w)).weak (S':=Cv (fun _=>False) w.heap.size (((ρ 0).g,(ρ 0).g+1)::iv2)) fun g hg=>hg.mono fun p hp=>List.mem_cons_of_mem _ hp
    replace hw:=hw.tr r.bel
    clear hbx hnil r
    generalize (ρ 0).g=gx at*
    generalize (gx,gx+1)::iv2=iv3 at*
    conv=>whnf
    refine callE_con (Φ:=fun _ w' v w2=>Limbs w2 (Cv (fun _=>False) w.heap.size iv3) v (trimL [b-48])) (fun ρ w' r=>trimmed_c (Rel.old r (oldF w)) (Limbs.rel hT r (oldF w))) ?_
    rintro ρ wa v1 wb r he hb2 hn
    replace hw:=hw.tr hb2
    have hM:NatR wb (Cv (fun _=>False) w.heap.size ((wa.heap.size,wb.heap.size)::iv3)) v1 (b-48):=by
     have h5:=(hn.trimmed).weak (S':=Cv (fun _=>False) w.heap.size ((wa.heap.size,wb.heap.size)::iv3)) fun g hg=>hg.mono fun p hp=>List.mem_cons_of_mem _ hp
     simpa [val]using h5
    replace hN:=hN.past (iv':=(wa.heap.size,wb.heap.size)::iv3) r (oldF w) he fun x hx=>List.mem_cons_of_mem _ hx
    clear r he hb2 hn hT
    generalize (wa.heap.size,wb.heap.size)::iv3=iv4 at*
    obtain⟨a5,n5,c5,rfl⟩:=hM.shape
    conv=>whnf
    refine callE_con (Φ:=fun _ w' v w2=>NatR w2 (Nw (fun _=>False) w' w2) v (vald (bs.take k)*10+(b-48))) (fun ρ w' r=>plus_c (Rel.old r (oldF w)) (hN.rel r (oldF w)) (hM.rel r (oldF w)) (Nat.le_trans (ln_mono (show vald (bs.take k)*10≤vald (bs.take (k+1)) by omega)) (by omega)) (Nat.le_trans (ln_mono (show b-48≤9 by omega)) (by decide))) ?_
    rintro ρ wa v1 wb r he hb2 hn
    replace hw:=hw.tr hb2
    replace hN:=hn.got (S:=fun _=>False) r.baseLe (iv:=(wa.heap.size,wb.heap.size)::iv4) List.mem_cons_self
    clear r he hb2 hn hM
    generalize (wa.heap.size,wb.heap.size)::iv4=iv6 at*
    rw[←hv2]at hN
    obtain⟨a6,n6,c6,rfl⟩:=hN.shape
    conv=>whnf
    refine⟨((k+1:Nat):Int),by rw[wrap64]<;>omega,?_⟩
    conv=>whnf
    intro ρ3 w3 r3
    exact⟨(k+1,(a6,n6,c6),w3,_),⟨hkb,hw.tr r3.bel,hd2,hN.rel r3 (oldF w)⟩,Sub.gen [] r3 trivial ⟨rfl,rfl,rfl,rfl,trivial⟩ (by simp[ScH]) (by simp[ScE,SV.sc,At.sc]) (by rfl) (fun lo hi h=>h),by dsimp only;omega⟩
 have hkb:k=bs.length:=Nat.le_antisymm hk (by simpa using hkb)
 rw[hkb,List.take_of_length_le (Nat.le_refl _)]at hN hd
 conv=>whnf
 intro ρe we re
 refine⟨_,rfl,hw.tr re.bel,_,_,rfl,fun e=>⟨hd,fun e2=>?_,hN.out re (oldF w)⟩,fun e=>?_⟩
 ·subst e2;exact absurd e (by decide)
 ·have:(strOf bs).data.toList≠[]:=by rw[strOf_data];simpa using e.2
  simpa [bne,beq_eq_false_iff_ne]using this
end Go.Ex
