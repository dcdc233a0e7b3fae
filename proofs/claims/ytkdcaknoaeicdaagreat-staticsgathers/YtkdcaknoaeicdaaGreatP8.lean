/- A part of the proof: texts X63 to XTq. Each tells its conditions in its theorems. -/
import Derived.Test.YtkdcaknoaeicdaaGreatP5
import Derived.Test.YtkdcaknoaeicdaaGreatP6
import Derived.Test.YtkdcaknoaeicdaaGreatP7
/- The reference's fractions: quick, Normal, Add, Neg, Sub, Mul, SignOf, Quo, Cmp, Floor, Whole, Ratio. Printed by program. No condition but sizes. -/
namespace Go.Ex
open Go Go.Sx Go.Proofs

/-- a fraction of the api by its value; its parts have few limbs -/
def RatL(w:World)(S:Nat→Prop)(v:Value)(q:Rat):Prop:=∃b1 l1 b2 l2 a b,v= .agg #[.bool b1,l1,.bool b2,l2]∧IntL w S (.agg #[.bool b1,l1]) 100000 a∧IntL w S (.agg #[.bool b2,l2]) 100000 b∧ratio a b=q
theorem RatL.keep{S:Nat→Prop}{w w2:World}{v:Value}{q:Rat}(h:RatL w S v q)(hk:∀g,S g→w2.heap[g]? =w.heap[g]?):RatL w2 S v q:=by
 obtain⟨b1,l1,b2,l2,a,b,h1,h2,h3,h4⟩:=h;exact⟨b1,l1,b2,l2,a,b,h1,h2.keep hk,h3.keep hk,h4⟩
theorem RatL.weak{S S':Nat→Prop}{w:World}{v:Value}{q:Rat}(h:RatL w S v q)(hk:∀g,S g→S' g):RatL w S' v q:=by
 obtain⟨b1,l1,b2,l2,a,b,h1,h2,h3,h4⟩:=h;exact⟨b1,l1,b2,l2,a,b,h1,h2.weak hk,h3.weak hk,h4⟩
theorem RatL.v{S:Nat→Prop}{w:World}{v:Value}{q:Rat}(h:RatL w S v q):RatV w S v q:=by
 obtain⟨b1,l1,b2,l2,a,b,rfl,h2,h3,h4⟩:=h;exact⟨a,b,⟨b1,l1,b2,l2,rfl,h2.r,h3.r⟩,h4,h2.ln,h3.ln⟩
theorem RatL.shape{S:Nat→Prop}{w:World}{v:Value}{q:Rat}(h:RatL w S v q):∃b a n c b2 a2 n2 c2,v= .agg #[.bool b,.slice a n c,.bool b2,.slice a2 n2 c2]:=h.v.shape
theorem RatL.rl{S:Nat→Prop}{w:World}{v:Value}{q:Rat}(h:RatL w S v q):rl q≤100000:=by
 obtain⟨b1,l1,b2,l2,a,b,rfl,h2,h3,rfl⟩:=h
 have:=rl_ratio a b
 have:=h2.ln
 have:=h3.ln
 omega
theorem RatC.l{S:Nat→Prop}{w:World}{v:Value}{q:Rat}(h:RatC w S v q)(hl:rl q≤100000):RatL w S v q:=by
 obtain⟨b1,l1,b2,l2,h1,h2,h3⟩:=h
 exact⟨b1,l1,b2,l2,_,_,h1,h2.l (Nat.le_trans (rl_num q) hl),h3.l (Nat.le_trans (rl_den' q) hl),ratio_self q⟩
section
variable{S S':Nat→Prop}{H:Hp}{nx:Nat}{iv iv':Iv}{B:Nat}{w w' w2:World}{ρ:Nat→Sx.Val}{v:Value}{q:Rat}
theorem RatL.rel(h:RatL w (Cv S B iv) v q)(r:Rel H nx iv B w ρ w')(hS:∀g,S g→g<B):RatL w' (Cv S B iv) v q:=h.keep fun _ hg=>Rel.same r hS hg
theorem RatL.past(h:RatL w (Cv S B iv) v q)(r:Rel H nx iv B w ρ w')(hS:∀g,S g→g<B)(he:Ext w' w2)(hm:∀p,p∈iv→p∈iv'):RatL w2 (Cv S B iv') v q:=
 ((h.rel r hS).keep fun g hg=>he.block g (Rel.old r hS g hg)).weak fun _ hg=>hg.mono hm
theorem RatL.arg(h:RatL w S v q)(iv:Iv):RatL w (Cv S w.heap.size iv) v q:=h.weak fun _ h=>.inl h
end

theorem rRatio_c(a b:Int)(w:World)(h1a: -9223372036854775808≤a)(h2a:a≤9223372036854775807)(h1b: -9223372036854775808≤b)(h2b:b≤9223372036854775807):
  Con PG N.ref01_Ratio #[.int .i64 a,.int .i64 b] w (Ret w fun v' w2=>(b=0∧v'= .tuple #[ratNil,.int .i64 9])∨(b≠0∧∃q,v'= .tuple #[q,.int .i64 0]∧RatC w2 (Nw (fun _=>False) w w2) q (Rat.divInt a b))):=by
 have hw:Bel w.heap.size w w:=Bel.refl
 have ha:=ln_small h1a h2a
 have hb':=ln_small h1b h2b
 refine in_ref01_Ratio (by simp) ?_
 conv=>whnf
 refine BrS.mk (fun h=>?_) (fun h=>?_)
 ·have h:b=0:=by simpa using h
  conv=>whnf
  intro ρe we re
  exact⟨_,rfl,hw.tr re.bel,.inl ⟨h,rfl⟩⟩
 have h:b≠0:=by simpa using h
 conv=>whnf
 refine callE_S (cE hw (Φ:=fun _ w' v w2=>IntC w2 (Nw (fun _=>False) w' w2) v (a)) (fun ρ w' r=>rOf_c a w' h1a h2a) ?_)
 rintro ρ wa1 v1 wb1 iv1 r he hw h_ hn
 have hA:=hn.got (S:=fun _=>False) r.baseLe (mN h_)
 clear r
 obtain⟨s1_0,s1_1,s1_2,s1_3,rfl⟩:=hA.shape
 conv=>whnf
 refine callE_S (cE hw (Φ:=fun _ w' v w2=>IntC w2 (Nw (fun _=>False) w' w2) v (b)) (fun ρ w' r=>rOf_c b w' h1b h2b) ?_)
 rintro ρ wa2 v2 wb2 iv2 r he hw h_ hn
 replace hA:=hA.past r (oldF w) he (mC h_)
 have hB:=hn.got (S:=fun _=>False) r.baseLe (mN h_)
 clear r
 obtain⟨s2_0,s2_1,s2_2,s2_3,rfl⟩:=hB.shape
 conv=>whnf
 refine callE_S (cE hw (Φ:=fun _ w' v w2=>RatC w2 (Nw (fun _=>False) w' w2) v (Rat.divInt a b)) (fun ρ w' r=>rOver_c (Rel.old r (oldF w)) ((hA.rel r (oldF w)).l (k:=2) (by omega)) ((hB.rel r (oldF w)).l (k:=2) (by omega)) (by omega) (by omega) h) ?_)
 rintro ρ wa3 v3 wb3 iv3 r he hw h_ hn
 clear hA
 clear hB
 have hR:=hn.got (S:=fun _=>False) r.baseLe (mN h_)
 clear r
 obtain⟨s3_0,s3_1,s3_2,s3_3,s3_4,s3_5,s3_6,s3_7,rfl⟩:=hR.shape
 conv=>whnf
 intro ρe we re
 exact⟨_,rfl,hw.tr re.bel,.inr ⟨h,_,rfl,hR.out re (oldF w)⟩⟩

end Go.Ex

/- ExactFractions of the laws of chapter 1. Printed by program. No condition. -/
namespace Go.Ex
open Go Go.Sx Go.Proofs

section
variable{S S':Nat→Prop}{H:Hp}{nx:Nat}{iv iv':Iv}{B:Nat}{w w' w2:World}{ρ:Nat→Sx.Val}{v:Value}{a:Int}{b:Int}
end

end Go.Ex

/- Lists and matrices of fractions by their values; Small of the laws of chapter 1. Printed by program. No condition but sizes. -/
namespace Go.Ex
open Go Go.Sx Go.Proofs

/-- the four cells of a fraction of the api, by its value -/
def Rat4L(w:World)(S:Nat→Prop)(cs:List Value)(q:Rat):Prop:=∃b a n c b2 a2 n2 c2,cs=[.bool b,.slice a n c,.bool b2,.slice a2 n2 c2]∧RatL w S (.agg #[.bool b,.slice a n c,.bool b2,.slice a2 n2 c2]) q
abbrev RatsL:=ListR Rat4L
section
variable{S S':Nat→Prop}{H:Hp}{nx:Nat}{iv iv':Iv}{B:Nat}{w w' w2:World}{ρ:Nat→Sx.Val}{v:Value}{qs:List Rat}{cs:List Value}{q:Rat}
theorem Rat4L.keep(h:Rat4L w S cs q)(hk:∀g,S g→w2.heap[g]? =w.heap[g]?):Rat4L w2 S cs q:=by
 obtain⟨b,a,n,c,b2,a2,n2,c2,h1,h2⟩:=h;exact⟨b,a,n,c,b2,a2,n2,c2,h1,h2.keep hk⟩
theorem Rat4L.weak(h:Rat4L w S cs q)(hk:∀g,S g→S' g):Rat4L w S' cs q:=by
 obtain⟨b,a,n,c,b2,a2,n2,c2,h1,h2⟩:=h;exact⟨b,a,n,c,b2,a2,n2,c2,h1,h2.weak hk⟩
theorem RatsL.keep(h:RatsL w S v qs)(hk:∀g,S g→w2.heap[g]? =w.heap[g]?):RatsL w2 S v qs:=by
 obtain⟨css,h1,h2,h3,h4⟩:=h;exact⟨css,h1.keep hk,h2,h3,fun j cs x k1 k2=>(h4 j cs x k1 k2).keep hk⟩
theorem RatsL.weak(h:RatsL w S v qs)(hk:∀g,S g→S' g):RatsL w S' v qs:=by
 obtain⟨css,h1,h2,h3,h4⟩:=h;exact⟨css,h1.weak hk,h2,h3,fun j cs x k1 k2=>(h4 j cs x k1 k2).weak hk⟩
end
section
variable{S S':Nat→Prop}{H:Hp}{nx:Nat}{iv iv':Iv}{B:Nat}{w w' w2:World}{ρ:Nat→Sx.Val}{v:Value}{qs:List Rat}
theorem RatsL.rel(h:RatsL w (Cv S B iv) v qs)(r:Rel H nx iv B w ρ w')(hS:∀g,S g→g<B):RatsL w' (Cv S B iv) v qs:=RatsL.keep h fun _ hg=>Rel.same r hS hg
theorem RatsL.old(h:RatsL w2 (Nw (Cv S B iv) w' w2) v qs)(hB:B≤w'.heap.size):RatsL w2 (Cv S B ((w'.heap.size,w2.heap.size)::iv)) v qs:=RatsL.weak h fun _ hg=>Nw.cv hg hB
end
section
variable{S S':Nat→Prop}{H:Hp}{nx:Nat}{iv iv':Iv}{B:Nat}{w w' w2:World}{ρ:Nat→Sx.Val}{v:Value}{M:List (List Rat)}
end

end Go.Ex

/- Plus of the reference. Printed by program. No condition but sizes. -/
namespace Go.Ex
open Go Go.Sx Go.Proofs

section
variable{S S':Nat→Prop}{H:Hp}{nx:Nat}{iv iv':Iv}{B:Nat}{w w' w2:World}{ρ:Nat→Sx.Val}{css:List (List Value)}{qs:List Rat}
end
end Go.Ex

/- Elimination: steps of the reference. Plain. -/
namespace Go.Ex
theorem set_take_drop{α:Type}{l:List α}{i:Nat}{x:α}(h:i<l.length):l.take i++[x]++l.drop (i+1)=l.set i x:=by
 rw[List.set_eq_take_append_cons_drop,if_pos h]
 simp
end Go.Ex

/- Echelon of the reference. Printed by program. No condition but sizes. -/
namespace Go.Ex
open Go Go.Sx Go.Proofs

theorem RatsC.l{S:Nat→Prop}{w:World}{v:Value}{qs:List Rat}(h:RatsC w S v qs)(hq:∀q∈qs,rl q≤100000):RatsL w S v qs:=by
 obtain⟨css,h1,h2,h3,h4⟩:=h
 refine⟨css,h1,h2,h3,fun j cs q k1 k2=>?_⟩
 obtain⟨b,a,n,c,b2,a2,n2,c2,e,hc⟩:=h4 j cs q k1 k2
 exact⟨b,a,n,c,b2,a2,n2,c2,e,hc.l (hq q (List.mem_of_getElem? k2))⟩
section
variable{S S':Nat→Prop}{H:Hp}{nx:Nat}{iv iv':Iv}{B:Nat}{w w' w2:World}{ρ:Nat→Sx.Val}{rv:List Value}{M:List (List Rat)}
end
end Go.Ex

/- Columns and CheckMatrix of the reference; Rank and Kernel of package exact. Printed by program. No condition but sizes. -/
namespace Go.Ex
open Go Go.Sx Go.Proofs

end Go.Ex

/- Rows of api fractions in normal form that are held raw, and written. No condition but sizes. -/
namespace Go.Ex
open Go Go.Sx Go.Proofs

theorem Rat4C.len{S:Nat→Prop}{w:World}{cs:List Value}{q:Rat}(h:Rat4C w S cs q):cs.length=4:=by obtain⟨_,_,_,_,_,_,_,_,rfl,_⟩:=h;rfl
def Fc(w:World)(S:Nat→Prop)(css:List (List Value))(qs:List Rat):Prop:=css.length=qs.length∧∀(j:Nat) cs q,css[j]? =some cs→qs[j]? =some q→Rat4C w S cs q
section
variable{S S':Nat→Prop}{w w2:World}{cs:List Value}{css:List (List Value)}{q:Rat}{qs:List Rat}
theorem Fc.keep(h:Fc w S css qs)(hk:∀g,S g→w2.heap[g]? =w.heap[g]?):Fc w2 S css qs:=⟨h.1,fun j cs q h1 h2=>(h.2 j cs q h1 h2).keep hk⟩
theorem Fc.weak(h:Fc w S css qs)(hk:∀g,S g→S' g):Fc w S' css qs:=⟨h.1,fun j cs q h1 h2=>(h.2 j cs q h1 h2).weak hk⟩
theorem Fc.len4(h:Fc w S css qs):∀cs∈css,cs.length=4:=fun cs hc=>by
 obtain⟨j,hj⟩:=List.getElem?_of_mem hc
 have hl:=(List.getElem?_eq_some_iff.1 hj).1
 exact(h.2 j cs _ hj (List.getElem?_eq_getElem (by rw[←h.1];exact hl))).len
theorem Fc.one(h:Fc w S css qs):∀u∈css.flatten,u.oneCell'=true:=fun u hu=>by
 obtain⟨cs,hc,hu⟩:=List.mem_flatten.1 hu
 obtain⟨j,hj⟩:=List.getElem?_of_mem hc
 have hl:=(List.getElem?_eq_some_iff.1 hj).1
 obtain⟨_,_,_,_,_,_,_,_,rfl,_⟩:=h.2 j cs _ hj (List.getElem?_eq_getElem (by rw[←h.1];exact hl))
 simp at hu
 rcases hu with rfl|rfl|rfl|rfl<;>rfl
theorem Fc.set(h:Fc w S css qs){j:Nat}(hq:Rat4C w S cs q):Fc w S (css.set j cs) (qs.set j q):=by
 refine⟨by simp[h.1],fun i c p h1 h2=>?_⟩
 by_cases hij:j=i
 ·subst hij
  have hl:=(List.getElem?_eq_some_iff.1 h1).1
  rw[List.getElem?_set_self (by simpa using hl)]at h1
  rw[List.getElem?_set_self (by have:=h.1;simp at hl;omega)]at h2
  injection h1 with h1;injection h2 with h2
  subst h1 h2
  exact hq
 ·rw[List.getElem?_set_ne hij]at h1 h2
  exact h.2 i c p h1 h2
end
def RowRc(w:World)(C S:Nat→Prop)(v:Value)(qs:List Rat):Prop:=∃css,SeqR w C 4 v css.flatten qs.length∧Fc w S css qs
section
variable{C C' S S':Nat→Prop}{H:Hp}{nx:Nat}{iv iv':Iv}{B:Nat}{w w' w2:World}{ρ:Nat→Sx.Val}{v:Value}{qs:List Rat}
theorem RowRc.keep(h:RowRc w C S v qs)(hk:∀g,C g∨S g→w2.heap[g]? =w.heap[g]?):RowRc w2 C S v qs:=by
 obtain⟨css,h1,h2⟩:=h;exact⟨css,h1.keep fun g hg=>hk g (.inl hg),h2.keep fun g hg=>hk g (.inr hg)⟩
theorem RowRc.weak(h:RowRc w C S v qs)(hk:∀g,C g→C' g)(hk2:∀g,S g→S' g):RowRc w C' S' v qs:=by
 obtain⟨css,h1,h2⟩:=h;exact⟨css,h1.weak hk,h2.weak hk2⟩
end
/-- a row that may be written: its limbs lie in S -/
def RowWc(w:World)(S:Nat→Prop)(v:Value)(n:Nat)(qs:List Rat):Prop:=∃css,w.ownsRow 0 T.Rat 4 v n css.flatten∧css.length=n∧Fc w S css qs
section
variable{S S' C:Nat→Prop}{H:Hp}{nx n:Nat}{iv iv':Iv}{B:Nat}{w w' w2:World}{ρ:Nat→Sx.Val}{v:Value}{qs:List Rat}
theorem RowWc.keep(h:RowWc w S v n qs)(hk:∀g,S g∨v.ownBlock=some g→w2.heap[g]? =w.heap[g]?):RowWc w2 S v n qs:=by
 obtain⟨css,h1,h2,h3⟩:=h
 exact⟨css,ownsRow.keep h1 fun g hg=>hk g (.inr hg),h2,h3.keep fun g hg=>hk g (.inl hg)⟩
theorem RowWc.weak(h:RowWc w S v n qs)(hk:∀g,S g→S' g):RowWc w S' v n qs:=by
 obtain⟨css,h1,h2,h3⟩:=h
 exact⟨css,h1,h2,h3.weak hk⟩
theorem RowWc.len(h:RowWc w S v n qs):qs.length=n:=by
 obtain⟨css,h1,h2,h3⟩:=h
 rw[←h3.1,h2]
theorem RowWc.form(h:RowWc w S v n qs):∃a c,v= .slice a n c∧n≤c:=by
 obtain⟨css,h1,h2,h3⟩:=h
 exact row_form h1
theorem RowWc.le(h:RowWc w S v n qs):n≤maxLen:=by
 obtain⟨css,h1,h2,h3⟩:=h
 rcases h1.2 with⟨_,h0⟩|⟨_,_,_,_,_,_,h1,h2,_⟩
 ·omega
 ·omega
theorem RowWc.read(h:RowWc w S v n qs):RowRc w (fun g=>v.ownBlock=some g) S v qs:=by
 have hl:=h.len
 have hn:=h.le
 obtain⟨css,h1,h2,h3⟩:=h
 refine⟨css,?_,h3⟩
 rw[hl]
 rcases h1.2 with⟨rfl,rfl⟩|⟨g,cap,cur,rfl,hb,hc,hmc,hcap,hsz,htake⟩
 ·refine⟨hn,h1.1,h3.one,none,0,rfl,Nat.le_refl _,fun j u hu=>?_⟩
  have:=h1.1
  rw[Nat.zero_mul]at this
  rw[List.eq_nil_of_length_eq_zero this]at hu
  cases hu
 ·refine⟨hn,h1.1,h3.one,_,cap,rfl,hmc,fun j u hu=>⟨_,rfl,rfl,?_⟩⟩
  exact h1.cells (g:=g) rfl j u hu
/-- an element is stored -/
theorem RowWc.store{a a1 a2:Option Addr}{c j n1 c1 n2 c2:Nat}{b b2:Bool}{q:Rat}(h:RowWc w S (.slice a n c) n qs)(hj:j<n)(hf:RatC w S (.agg #[.bool b,.slice a1 n1 c1,.bool b2,.slice a2 n2 c2]) q)(hoff:∀g,(Value.slice a n c).ownBlock=some g→¬S g)(hS:Old S w):
  ∃g,a=some ⟨g,0,none⟩∧((⟨g,0,none⟩:Addr).add ((j:Int).toNat*4)).spot=none∧((⟨g,0,none⟩:Addr).add ((j:Int).toNat*4)).block=g∧
   (∀k,k<4→(w.cell? (((⟨g,0,none⟩:Addr).add ((j:Int).toNat*4)).add k)).isSome=true∧w.frozen? (((⟨g,0,none⟩:Addr).add ((j:Int).toNat*4)).add k)=false)∧
   ∀w2,w2=setCells w ((⟨g,0,none⟩:Addr).add ((j:Int).toNat*4)) [.bool b,.slice a1 n1 c1,.bool b2,.slice a2 n2 c2]→RowWc w2 S (.slice a n c) n (qs.set j q)∧w.grownBy w2 (some g)∧w2.heap.size=w.heap.size:=by
 obtain⟨css,h1,h2,h3⟩:=h
 obtain⟨g,rfl,hok,hst,hgr,hsz⟩:=storeRow (nv:=[.bool b,.slice a1 n1 c1,.bool b2,.slice a2 n2 c2]) h1 rfl hj rfl (by decide)
 have had:(⟨g,0,none⟩:Addr).add ((j:Int).toNat*4)=⟨g,j*4,none⟩:=by rw[Int.toNat_natCast,addr_add,Nat.zero_add]
 refine⟨g,rfl,by rw[had],by rw[had],fun k hk=>by rw[had];exact hok k hk,fun w2 hw2=>?_⟩
 rw[had]at hw2
 subst hw2
 have hset:=flat_set (cs:=[.bool b,.slice a1 n1 c1,.bool b2,.slice a2 n2 c2]) h3.len4 (show j<css.length by omega)
 rw[hset]at hst
 have hkeep:∀x,S x→(setCells w ⟨g,j*4,none⟩ [.bool b,.slice a1 n1 c1,.bool b2,.slice a2 n2 c2]).heap[x]? =w.heap[x]? :=fun x hx=>
  hgr.block x (hS x hx) fun e=>hoff g rfl (by injection e with e;rw[←e];exact hx)
 exact⟨⟨_,hst,by simpa using h2,(h3.keep hkeep).set (hf.keep hkeep).fourC⟩,hgr,hsz⟩

/-- a row of a call's own making, which the caller may write: its block is new, its limbs lie elsewhere -/
structure RowXc(w:World)(S:Nat→Prop)(B:Nat)(iv:Iv)(v:Value)(n:Nat)(qs:List Rat):Prop where
 row:RowWc w (fun g=>Cv S B iv g∧v.ownBlock≠some g) v n qs
 new:∀g,v.ownBlock=some g→Cv (fun _=>False) B iv g
theorem RowXc.keep(h:RowXc w S B iv v n qs)(hk:∀g,Cv S B iv g→w2.heap[g]? =w.heap[g]?):RowXc w2 S B iv v n qs:=
 ⟨h.row.keep fun g hg=>hk g (hg.elim (fun h=>h.1) fun hg=>(h.new g hg).elim (fun h=>h.elim) .inr),h.new⟩
theorem RowXc.rel(h:RowXc w S B iv v n qs)(r:Rel H nx iv B w ρ w')(hS:∀g,S g→g<B):RowXc w' S B iv v n qs:=h.keep fun _ hg=>Rel.same r hS hg
theorem RowXc.past(h:RowXc w S B iv v n qs)(r:Rel H nx iv B w ρ w')(hS:∀g,S g→g<B)(he:Ext w' w2)(hm:∀p,p∈iv→p∈iv'):RowXc w2 S B iv' v n qs:=
 have h2:=(h.rel r hS).keep fun g hg=>he.block g (Rel.old r hS g hg)
 ⟨h2.row.weak fun _ hg=>⟨hg.1.mono hm,hg.2⟩,fun g hg=>(h2.new g hg).mono hm⟩
theorem RowXc.got(h:RowXc w2 (fun _=>False) w'.heap.size [(w'.heap.size,w2.heap.size)] v n qs)(hB:B≤w'.heap.size)(hm:(w'.heap.size,w2.heap.size)∈iv):RowXc w2 S B iv v n qs:=by
 have key:∀g {X:Nat→Prop},Cv (fun _=>False) w'.heap.size [(w'.heap.size,w2.heap.size)] g→Cv X B iv g:=fun g X hg=>by
  rcases hg with hg|⟨h1,lo,hi,h2,h3,h4⟩
  ·exact hg.elim
  ·simp at h2
   obtain⟨rfl,rfl⟩:=h2
   exact .inr ⟨by omega,_,_,hm,h3,h4⟩
 exact⟨h.row.weak fun g hg=>⟨key g hg.1,hg.2⟩,fun g hg=>key g (h.new g hg)⟩
theorem RowXc.out{w0 w1:World}(h:RowXc w1 (fun _=>False) w0.heap.size iv v n qs)(r:Rel H nx iv w0.heap.size w1 ρ w'):RowXc w' (fun _=>False) w0.heap.size [(w0.heap.size,w'.heap.size)] v n qs:=by
 have h2:=h.rel r (oldF w0)
 have key:∀g,Cv (fun _=>False) w0.heap.size iv g→Cv (fun _=>False) w0.heap.size [(w0.heap.size,w'.heap.size)] g:=fun g hg=>by
  rcases hg with hg|⟨h1,lo,hi,h2,h3,h4⟩
  ·exact hg.elim
  ·exact .inr ⟨h1,_,_,List.mem_singleton.2 rfl,h1,by have:=r.ivs lo hi h2;have:=r.size;omega⟩
 exact⟨h2.row.weak fun g hg=>⟨key g hg.1,hg.2⟩,fun g hg=>key g (h2.new g hg)⟩
theorem RowXc.read(h:RowXc w S B iv v n qs):RowRc w (Cv S B iv) (Cv S B iv) v qs:=
 h.row.read.weak (fun g hg=>(h.new g hg).elim (fun h=>h.elim) .inr) fun _ hg=>hg.1
end
section
variable{S S':Nat→Prop}{H:Hp}{nx n:Nat}{iv iv':Iv}{B:Nat}{w w' w2:World}{ρ:Nat→Sx.Val}{v:Value}{qs:List Rat}
theorem RowXc.store{a a1 a2:Option Addr}{c j n1 c1 n2 c2:Nat}{b b2:Bool}{q:Rat}(h:RowXc w' S B iv (.slice a n c) n qs)(hj:j<n)(hf:RatC w' (fun g=>Cv S B iv g∧(Value.slice a n c).ownBlock≠some g) (.agg #[.bool b,.slice a1 n1 c1,.bool b2,.slice a2 n2 c2]) q)
  (r:Rel H nx iv B w ρ w') (hS:∀g,S g→g<B):
  ∃g,a=some ⟨g,0,none⟩∧((⟨g,0,none⟩:Addr).add ((j:Int).toNat*4)).spot=none∧
   (∀k,k<4→(w'.cell? (((⟨g,0,none⟩:Addr).add ((j:Int).toNat*4)).add k)).isSome=true∧w'.frozen? (((⟨g,0,none⟩:Addr).add ((j:Int).toNat*4)).add k)=false)∧
   (∀id b,getH H id=some b→(ρ id).nil=false→(ρ id).g≠((⟨g,0,none⟩:Addr).add ((j:Int).toNat*4)).block)∧Cv (fun _=>False) B iv g∧
   ∀w2,w2=setCells w' ((⟨g,0,none⟩:Addr).add ((j:Int).toNat*4)) [.bool b,.slice a1 n1 c1,.bool b2,.slice a2 n2 c2]→RowXc w2 S B iv (.slice a n c) n (qs.set j q)∧w'.grownBy w2 (some g)∧w2.heap.size=w'.heap.size:=by
 obtain⟨g,rfl,h1,h2,h3,h4⟩:=h.row.store hj hf (fun g hg hx=>hx.2 hg) (fun x hx=>Rel.old r hS x hx.1)
 refine⟨g,rfl,h1,h3,fun id b hb hn=>by rw[h2];exact Rel.not r hS (cvF (h.new g rfl)) id b hb hn,h.new g rfl,fun w2 hw2=>?_⟩
 obtain⟨k1,k2,k3⟩:=h4 w2 hw2
 exact⟨⟨k1,h.new⟩,k2,k3⟩
end
end Go.Ex
namespace Go.Sx
open Go Go.Ex Go.Proofs
/-- an array of one's own, given up at a loop: it is held raw there -/
theorem Sub.give{B:Nat}{l tl:Env}{nx:Nat}{H tH:Hp}{iv:Iv}{w w':World}{ρ:Nat→Sx.Val}{id t n c:Nat}{e:TypeId}{cs:List Value}(r:Rel H nx iv B w ρ w')(hid:getH H id=some (.arr e cs))(ht:getE l t=some (.o (.s id 0 n c)))
  (hs:SubH H tH) (ho:okH id tH=true) (h1:SubE l tl) (h2:ScE nx tl):
  Sub B l nx ρ w' ⟨(t,.o (.v (.slice (some ⟨(ρ id).g,0,none⟩) n c)))::tl,tH,nx,((ρ id).g,(ρ id).g+1)::iv,w'⟩:=by
 refine⟨ρ,r.free hid (by simp) (r.fits hid).1 hs ho,fun u v hv=>?_⟩
 rw[getE_cons]at hv
 split at hv
 ·rename_i e
  subst e
  injection hv with hv
  subst hv
  exact⟨trivial,_,ht,rfl⟩
 ·exact⟨h2.get u v hv,v,h1.get u v hv,rfl⟩
end Go.Sx
namespace Go.Ex
open Go Go.Sx Go.Proofs
end Go.Ex

/- has, Rank and Kernel of the reference. Printed by program. No condition but sizes. -/
namespace Go.Ex
open Go Go.Sx Go.Proofs

/-- a growing list of rows in normal form -/
def RowsC(w:World)(S:Nat→Prop)(rv:List Value)(K:List (List Rat)):Prop:=rv.length=K.length∧(∀u∈rv,u.oneCell'=true)∧∀(i:Nat) u r,rv[i]? =some u→K[i]? =some r→RatsC w S u r
section
variable{S S':Nat→Prop}{H:Hp}{nx:Nat}{iv iv':Iv}{B:Nat}{w w' w2:World}{ρ:Nat→Sx.Val}{rv:List Value}{K:List (List Rat)}
theorem RowsC.keep(h:RowsC w S rv K)(hk:∀g,S g→w2.heap[g]? =w.heap[g]?):RowsC w2 S rv K:=⟨h.1,h.2.1,fun i u x h1 h2=>RatsC.keep (h.2.2 i u x h1 h2) hk⟩
theorem RowsC.weak(h:RowsC w S rv K)(hk:∀g,S g→S' g):RowsC w S' rv K:=⟨h.1,h.2.1,fun i u x h1 h2=>RatsC.weak (h.2.2 i u x h1 h2) hk⟩
theorem RowsC.rel(h:RowsC w (Cv S B iv) rv K)(r:Rel H nx iv B w ρ w')(hS:∀g,S g→g<B):RowsC w' (Cv S B iv) rv K:=h.keep fun _ hg=>Rel.same r hS hg
theorem RowsC.push{u:Value}{x:List Rat}(h:RowsC w S rv K)(hu:u.oneCell'=true)(hx:RatsC w S u x):RowsC w S (rv++[u]) (K++[x]):=by
 refine⟨by simp[h.1],fun v hv=>?_,fun i v y h1 h2=>?_⟩
 ·rcases List.mem_append.1 hv with hv|hv
  ·exact h.2.1 v hv
  ·simp at hv;subst hv;exact hu
 ·rcases Nat.lt_or_ge i rv.length with hi|hi
  ·rw[List.getElem?_append_left hi]at h1
   rw[List.getElem?_append_left (by rw[←h.1];exact hi)]at h2
   exact h.2.2 i v y h1 h2
  ·have hi0:i=rv.length:=by have:=(List.getElem?_eq_some_iff.1 h1).1;simp at this;omega
   subst hi0
   rw[List.getElem?_append_right (Nat.le_refl _),Nat.sub_self]at h1
   rw[h.1,List.getElem?_append_right (Nat.le_refl _),Nat.sub_self]at h2
   simp at h1 h2
   subst h1 h2
   exact hx
end
end Go.Ex

/- The pivots of an elimination. Plain. -/
namespace Go.Ex
end Go.Ex

/- ExactRanks of the laws of chapter 1. Printed by program. No condition. -/
namespace Go.Ex
open Go Go.Sx Go.Proofs

section
variable{S S':Nat→Prop}{H:Hp}{nx:Nat}{iv iv':Iv}{B:Nat}{w w' w2:World}{ρ:Nat→Sx.Val}{v:Value}{M:List (List (Int×Int))}
end
end Go.Ex

/- Rows of package exact: same, nought, dot. Printed by program. No condition but sizes. -/
namespace Go.Ex
open Go Go.Sx Go.Proofs

end Go.Ex

/- Rows of package exact: EqualFunc of rows, nought, dot. Printed by program. No condition but sizes. -/
namespace Go.Ex
open Go Go.Sx Go.Proofs

end Go.Ex

/- through of package exact: the sums of the rows' multiples. Printed by program. No condition but sizes. -/
namespace Go.Ex
open Go Go.Sx Go.Proofs

end Go.Ex

/- Package exact: a matrix with rows of any lengths, and CheckSolution. Printed by program. No condition but sizes. -/
namespace Go.Ex
open Go Go.Sx Go.Proofs

section
variable{S S':Nat→Prop}{H:Hp}{nx:Nat}{iv iv':Iv}{B:Nat}{w w' w2:World}{ρ:Nat→Sx.Val}{v:Value}{qs:List Rat}
end
section
variable{S S':Nat→Prop}{H:Hp}{nx:Nat}{iv iv':Iv}{B:Nat}{w w' w2:World}{ρ:Nat→Sx.Val}{v:Value}{M:List (List Rat)}
end
section
variable{S S':Nat→Prop}{H:Hp}{nx:Nat}{iv iv':Iv}{B:Nat}{w w' w2:World}{ρ:Nat→Sx.Val}{v:List Value}{M:List (List Rat)}
end
theorem run_eql_nilslice(w:World)(t e:TypeId)(a:Option Addr)(n c n' c':Nat)(h:PG.underlying t=some (.slice e)):
  (binOp .eql t (.slice a n c) (.slice none n' c')).run PG w= .ok (.bool a.isNone) w:=by
 have:∀d,(Op.equalIn (d+1) t (.slice a n c) (.slice none n' c')).run PG w= .ok a.isNone w:=fun d=>by cases a<;>simp[Op.equalIn,run_underlying h]
 simp only[binOp]
 cases a<;>simp[Op.equal,Op.maxDepth,this 9999]
end Go.Ex

/- Package exact: CheckSolution. Printed by program. No condition but sizes. -/
namespace Go.Ex
open Go Go.Sx Go.Proofs

end Go.Ex

/- Regions that draw their order, by an order with branches; CheckSystem and Wider of the reference. Printed by program. No condition but sizes. -/
namespace Go.Ex
open Go Go.Sx Go.Proofs

inductive Tp where
 |nil
 |x (i:Nat) (t:Tp)
 |two (i:Nat) (t:Tp) (j:Nat) (u:Tp)
 |give (id:Nat) (t:Tp)
section
variable{P:Program}{τ:Tab}{ops:Array Oper}{B n nx:Nat}{l:Env}{H:Hp}{iv:Iv}{w w':World}{ρ:Nat→Sx.Val}{a:Act}
end
theorem give_env{l tl:Env}{nx t id n:Nat}{ρ:Nat→Sx.Val}(hn:(ρ id).nil=false)(ht:getE l t=some (.o (.w id n)))(h1:SubE l tl)(h2:ScE nx tl):∀u v,getE ((t,.o (.v (.slice (some ⟨(ρ id).g,0,none⟩) n (ρ id).cap)))::tl) u=some v→v.sc nx∧∃v',getE l u=some v'∧v'.den ρ=v.den ρ:=fun u v hv=>by
 rw[getE_cons]at hv
 split at hv
 ·rename_i e
  subst e
  injection hv with hv
  subst hv
  exact⟨trivial,_,ht,by simp[SV.den,At.den,hn]⟩
 ·exact⟨h2.get u v hv,v,h1.get u v hv,rfl⟩
/-- a growing list of one's own, given up: it is held raw -/
theorem vecGive{H:Hp}{nx:Nat}{iv:Iv}{B:Nat}{w w':World}{ρ:Nat→Sx.Val}(r:Rel H nx iv B w ρ w'){id t m sz:Nat}{cs:List Value}(h:getH H id=some (.vec t sz cs))(hm:cs.length=m*sz)(hm1:m≤maxLen)(hs:0<sz)(h0:0<m)(h1:∀u∈cs,u.oneCell'=true):
  (ρ id).nil=false∧B≤(ρ id).g∧SeqR w' (fun g=>g=(ρ id).g) sz (.slice (some ⟨(ρ id).g,0,none⟩) m (ρ id).cap) cs m:=by
 rcases r.vec id t sz _ h with⟨hn,rfl⟩|⟨hn,spare,hb,hc,hcap⟩
 ·have:=Nat.mul_pos h0 hs
  simp at hm
  omega
 ·refine⟨hn,(r.low id _ h hn).1,hm1,hm,h1,some ⟨(ρ id).g,0,none⟩,(ρ id).cap,rfl,?_,fun j x hx=>⟨_,rfl,rfl,?_⟩⟩
  ·have h1:(cs++spare).length=cs.length+spare.length:=List.length_append
   have h2:m*sz≤(ρ id).cap*sz:=by omega
   exact Nat.le_of_mul_le_mul_right h2 hs
  ·rw[addr_add,cell_of hb,Nat.zero_add,List.getElem?_append_left (List.getElem?_eq_some_iff.1 hx).1]
   exact hx
end Go.Ex

/- Elimination: prefixes of the columns, sums over a row, rows that are cleared. Plain. -/
namespace Go.Ex
end Go.Ex

/- Elimination of a system: a contradiction is one, and the first columns alone give the same. Plain. -/
namespace Go.Ex
section
variable{M:List (List Rat)}{b:List Rat}{n:Nat}
end
end Go.Ex

/- Wider of the reference. Printed by program. No condition but sizes. -/
namespace Go.Ex
open Go Go.Sx Go.Proofs

end Go.Ex

/- Basic of the reference: the basic solution of a system. Printed by program. No condition but sizes. -/
namespace Go.Ex
open Go Go.Sx Go.Proofs

end Go.Ex

/- Dot, Before and IsContradiction of the reference. Printed by program. No condition but sizes. -/
namespace Go.Ex
open Go Go.Sx Go.Proofs

section
variable{S:Nat→Prop}{H:Hp}{nx:Nat}{iv iv':Iv}{B:Nat}{w w' w2:World}{ρ:Nat→Sx.Val}{css:List (List Value)}{qs:List Rat}
theorem Fc.rel(h:Fc w (Cv S B iv) css qs)(r:Rel H nx iv B w ρ w')(hS:∀g,S g→g<B):Fc w' (Cv S B iv) css qs:=h.keep fun _ hg=>Rel.same r hS hg
theorem Fc.past(h:Fc w (Cv S B iv) css qs)(r:Rel H nx iv B w ρ w')(hS:∀g,S g→g<B)(he:Ext w' w2)(hm:∀p,p∈iv→p∈iv'):Fc w2 (Cv S B iv') css qs:=
 ((h.rel r hS).keep fun g hg=>he.block g (Rel.old r hS g hg)).weak fun _ hg=>hg.mono hm
theorem Fc.push{cs:List Value}{q:Rat}(h:Fc w S css qs)(hc:Rat4C w S cs q):Fc w S (css++[cs]) (qs++[q]):=by
 refine⟨by simp[h.1],fun j x p h1 h2=>?_⟩
 rcases Nat.lt_or_ge j css.length with hi|hi
 ·rw[List.getElem?_append_left hi]at h1
  rw[List.getElem?_append_left (by rw[←h.1];exact hi)]at h2
  exact h.2 j x p h1 h2
 ·have hi0:j=css.length:=by have:=(List.getElem?_eq_some_iff.1 h1).1;simp at this;omega
  subst hi0
  rw[List.getElem?_append_right (Nat.le_refl _),Nat.sub_self]at h1
  rw[h.1,List.getElem?_append_right (Nat.le_refl _),Nat.sub_self]at h2
  simp at h1 h2
  subst h1 h2
  exact hc
end
end Go.Ex

/- Solve, CheckSolution, Basic and IsContradiction at the sizes of the laws. Printed by program. No condition but sizes. -/
namespace Go.Ex
open Go Go.Sx Go.Proofs

section
variable{S S':Nat→Prop}{H:Hp}{nx:Nat}{iv iv':Iv}{B:Nat}{w w' w2:World}{ρ:Nat→Sx.Val}{v:Value}{b:List (Int×Int)}
end

section
variable{S:Nat→Prop}{w:World}{v u:Value}{M:List (List (Int×Int))}{b:List (Int×Int)}
end
end Go.Ex

/- Sums over rows: solutions of a system differ by sums of the kernel basis; a system whose right side is a combination of the columns has no contradiction. Plain. -/
namespace Go.Ex
def sumL:List Nat→(Nat→Rat)→Rat
 |[],_=>0
 |t::l,g=>g t+sumL l g
section
variable{M:List (List Rat)}{x:List Rat}{n:Nat}
end
/-- the difference of two solutions, told by the kernel basis -/
structure Diff(A:List (List Rat))(pv:List Nat)(n:Nat)(x:List Rat):Prop where
 up:pv.Pairwise (· < ·)
 lt:∀p∈pv,p<n
 le:pv.length≤A.length
 unit:∀i j,i<pv.length→j<A.length→at2 A j (pv.getD i 0)=if j=i then 1 else 0
 sum:∀j,j<A.length→sumL (List.range n) (fun t=>at2 A j t*x.getD t 0)=at2 A j n
section
variable{A:List (List Rat)}{pv:List Nat}{n:Nat}{x:List Rat}
end
end Go.Ex

/- Times of the reference, alone of the laws; Solve and CheckSolution for a right side that is a combination of the columns. Printed by program. No condition but sizes. -/
namespace Go.Ex
open Go Go.Sx Go.Proofs

theorem RatL.zero{w:World}{S:Nat→Prop}:RatL w S (.agg #[.bool false,.slice none 0 0,.bool false,.slice none 0 0]) 0:=
 ⟨_,_,_,_,0,0,rfl,⟨false,[],⟨_,rfl,Limbs.nil _ _⟩,rfl,Nat.zero_le _⟩,⟨false,[],⟨_,rfl,Limbs.nil _ _⟩,rfl,Nat.zero_le _⟩,by decide⟩
section
variable{S:Nat→Prop}{w:World}{v u:Value}{M:List (List (Int×Int))}{x:List Rat}
end
end Go.Ex

/- Small functions of package statics: whole, zero, quo, neg, dot, zeros, scaled, each. Printed by program. No condition but sizes. -/
namespace Go.Ex
open Go Go.Sx Go.Proofs

theorem rs_sub_zero(q:Rat):rs (q-0)=rs q:=by rw[show q-0=q by grind]
theorem sWhole_c(n:Int)(w:World)(h1n: -9223372036854775808≤n)(h2n:n≤9223372036854775807):Con PG N.statics_whole #[.int .i64 n] w (Ret w fun v' w2=>RatC w2 (Nw (fun _=>False) w w2) v' (n:Rat)):=by
 have hw:Bel w.heap.size w w:=Bel.refl
 refine in_statics_whole (by simp) ?_
 conv=>whnf
 refine callE_S (cE hw (Φ:=fun _ w' v w2=>RatC w2 (Nw (fun _=>False) w' w2) v ((n:Rat))) (fun ρ w' r=>pubWhole_c n w' h1n h2n) ?_)
 rintro ρ wa1 v1 wb1 iv1 r he hw h_ hn
 have hd:=hn.got (S:=fun _=>False) r.baseLe (mN h_)
 clear r
 obtain⟨s1_0,s1_1,s1_2,s1_3,s1_4,s1_5,s1_6,s1_7,rfl⟩:=hd.shape
 conv=>whnf
 intro ρe we re
 exact⟨_,rfl,hw.tr re.bel,hd.out re (oldF w)⟩
theorem sZero_c{S:Nat→Prop}{w:World}{v:Value}{q:Rat}(hS:Old S w)(hq:RatL w S v q):Con PG N.statics_zero #[v] w (Ret w fun v' _=>∃d,v'= .bool d∧(d=true↔q=0)):=by
 have hw:Bel w.heap.size w w:=Bel.refl
 obtain⟨f0,f1,f2,f3,f4,f5,f6,f7,rfl⟩:=hq.shape
 refine in_statics_zero (by simp) ?_
 conv=>whnf
 refine callE_S (cE hw (Φ:=fun _ w' v w2=>v= .int .i64 (rs q)) (fun ρ w' r=>(vCmp_c (fun g hg=>by have:=hS g hg;have:=r.baseLe;omega) (hq.v.keep fun g hg=>(hw.tr r.bel).block g (hS g hg)) (RatL.zero (S:=S)).v).mono fun _ _ ⟨v2,e1,e2,e3⟩=>⟨v2,e1,e2,by rw[e3,rs_sub_zero]⟩) ?_)
 rintro ρ wa1 v1 wb1 iv1 r he hw h_ rfl
 clear r
 conv=>whnf
 intro ρe we re
 refine⟨_,rfl,hw.tr re.bel,_,rfl,?_⟩
 rw[beq_iff_eq]
 exact rs_zero
theorem sQuo_c{S:Nat→Prop}{w:World}{v u:Value}{p q:Rat}(hS:Old S w)(hp:RatL w S v p)(hq:RatL w S u q)(h0:q≠0):Con PG N.statics_quo #[v,u] w (Ret w fun v' w2=>RatC w2 (Nw (fun _=>False) w w2) v' (p / q)):=by
 have hw:Bel w.heap.size w w:=Bel.refl
 obtain⟨f0,f1,f2,f3,f4,f5,f6,f7,rfl⟩:=hp.shape
 obtain⟨g0,g1,g2,g3,g4,g5,g6,g7,rfl⟩:=hq.shape
 refine in_statics_quo (by simp) ?_
 conv=>whnf
 refine callE_S (cE hw (Φ:=fun _ w' v w2=>∃r,v= .tuple #[r,.int .i64 0]∧RatC w2 (Nw (fun _=>False) w' w2) r (p / q)) (fun ρ w' r=>(vQuo_c (fun g hg=>by have:=hS g hg;have:=r.baseLe;omega) (hp.v.keep fun g hg=>(hw.tr r.bel).block g (hS g hg)) (hq.v.keep fun g hg=>(hw.tr r.bel).block g (hS g hg))).mono fun _ _ ⟨v2,e1,e2,e3⟩=>⟨v2,e1,e2,e3.elim (fun h=>absurd h.1 h0) fun h=>h.2⟩) ?_)
 rintro ρ wa1 v1 wb1 iv1 r he hw h_ ⟨q1,rfl,k1⟩
 have hd:=k1.got (S:=fun _=>False) r.baseLe (mN h_)
 clear r
 obtain⟨s1_0a,s1_0b,s1_0c,s1_0d,s1_0e,s1_0f,s1_0g,s1_0h,rfl⟩:=hd.shape
 clear k1
 conv=>whnf
 intro ρe we re
 exact⟨_,rfl,hw.tr re.bel,hd.out re (oldF w)⟩
theorem sNeg_c{S:Nat→Prop}{w:World}{v:Value}{q:Rat}(hS:Old S w)(hq:RatL w S v q):Con PG N.statics_neg #[v] w (Ret w fun v' w2=>RatC w2 (Nw (fun _=>False) w w2) v' (-q)):=by
 have hw:Bel w.heap.size w w:=Bel.refl
 obtain⟨f0,f1,f2,f3,f4,f5,f6,f7,rfl⟩:=hq.shape
 refine in_statics_neg (by simp) ?_
 conv=>whnf
 refine callE_S (cE hw (Φ:=fun _ w' v w2=>RatC w2 (Nw (fun _=>False) w' w2) v (-q)) (fun ρ w' r=>(vSub_c (fun g hg=>by have:=hS g hg;have:=r.baseLe;omega) (RatL.zero (S:=S)).v (hq.v.keep fun g hg=>(hw.tr r.bel).block g (hS g hg))).mono fun _ _ ⟨v2,e1,e2,e3⟩=>⟨v2,e1,e2,by rwa [show (0:Rat)-q= -q by grind]at e3⟩) ?_)
 rintro ρ wa1 v1 wb1 iv1 r he hw h_ hn
 have hd:=hn.got (S:=fun _=>False) r.baseLe (mN h_)
 clear r
 obtain⟨s1_0,s1_1,s1_2,s1_3,s1_4,s1_5,s1_6,s1_7,rfl⟩:=hd.shape
 conv=>whnf
 intro ρe we re
 exact⟨_,rfl,hw.tr re.bel,hd.out re (oldF w)⟩
end Go.Ex

/- Determinants by the first row, of functions of two places: rows may be exchanged (the sign turns) and multiples of one row added to another. Plain. -/
namespace Go.Ex
abbrev Mx:=Nat→Nat→Rat
def skip(k j:Nat):Nat:=if j<k then j else j+1
def sumR(f:Nat→Rat):Nat→Rat
 |0=>0
 |n+1=>sumR f n+f n
/-- a row set anew -/
def upd(m:Mx)(r:Nat)(u:Nat→Rat):Mx:=fun i j=>if i=r then u j else m i j
end Go.Ex

/- Elimination without exchanges, and determinants. Plain. -/
namespace Go.Ex
end Go.Ex

/- Elimination without exchanges: sizes, leading minors. Plain. -/
namespace Go.Ex
end Go.Ex

/- Positive definite matrices: the form is positive just if the leading minors are; the product of the diagonal is at least the determinant; sums of squares. Plain. -/
namespace Go.Ex
end Go.Ex

/- A matrix of a call's own making that is held raw, row by row: rows are added to each other, and exchanged. No condition. -/
namespace Go.Ex
open Go Go.Sx Go.Proofs

abbrev vmO(gm R:Nat):Value:=.slice (some ⟨gm,0,none⟩) R R
/-- what lies in S or is new, but not in the matrix -/
def Lm'(S:Nat→Prop)(B:Nat)(iv:Iv)(gm R:Nat)(rv:List Value)(g:Nat):Prop:=Cv S B iv g∧¬Mb (vmO gm R) rv g
structure MatO(w:World)(S:Nat→Prop)(B:Nat)(iv:Iv)(gm R n:Nat)(rv:List Value)(M:List (List Rat)):Prop where
 mat:MatW w (Lm' S B iv gm R rv) (vmO gm R) rv n M
 blk:∀g,Mb (vmO gm R) rv g→Cv (fun _=>False) B iv g
 rows:rv.length=R
section
variable{S S':Nat→Prop}{H:Hp}{nx gm R n:Nat}{iv iv':Iv}{B:Nat}{w w' w2:World}{ρ:Nat→Sx.Val}{rv:List Value}{M:List (List Rat)}
/-- half of an exchange -/
structure HalfO(w:World)(S:Nat→Prop)(B:Nat)(iv:Iv)(gm R n:Nat)(rv:List Value)(M:List (List Rat))(i:Nat)(vb:Value):Prop where
 out:w.ownsRow 0 T.row 1 (vmO gm R) R (rv.set i vb)
 was:∃w0,MatO w0 S B iv gm R n rv M∧∀g,Cv S B iv g→g≠gm→w.heap[g]? =w0.heap[g]?
end
end Go.Ex

/- Determinants of package exact: det. Printed by program. No condition but sizes. -/
namespace Go.Ex
open Go Go.Sx Go.Proofs

end Go.Ex

/- Leading minors of package exact. Printed by program. No condition but sizes. -/
namespace Go.Ex
open Go Go.Sx Go.Proofs

section
variable{S:Nat→Prop}{H:Hp}{nx gm R:Nat}{iv iv':Iv}{B:Nat}{w w' w2:World}{ρ:Nat→Sx.Val}{rv:List Value}{css:List (List Value)}{qs:List Rat}
end
end Go.Ex

/- Det of the reference, by the first row. Printed by program. No condition but sizes. -/
namespace Go.Ex
open Go Go.Sx Go.Proofs

section
variable{S:Nat→Prop}{H:Hp}{nx:Nat}{iv0:Iv}{B:Nat}{w w' w2:World}{ρ:Nat→Sx.Val}{v:Value}{xs:List Rat}
end
end Go.Ex

/- Certificates of linear programs of package exact: CheckOptimum. Printed by program. No condition but sizes. -/
namespace Go.Ex
open Go Go.Sx Go.Proofs

theorem rs_neg_iff{q:Rat}:rs q<0↔q<0:=by rw[rs,Int.sign_neg_iff,←Int.not_le,Rat.num_nonneg,Rat.not_le]
theorem rs_pos_iff{q:Rat}:0<rs q↔0<q:=by
 have h:=rs_neg_iff (q:= -q)
 rw[rs_neg]at h
 constructor
 ·intro k;have:=h.1 (by omega);grind
 ·intro k;have:=h.2 (by grind);omega
end Go.Ex

/- CheckOptimum of package exact. Printed by program. No condition but sizes. -/
namespace Go.Ex
open Go Go.Sx Go.Proofs

end Go.Ex

/- Minors and Definite, of package exact and of the reference. Printed by program. No condition but sizes. -/
namespace Go.Ex
open Go Go.Sx Go.Proofs

end Go.Ex

/- Definite matrices: rows are independent just if the rank is full, just if the matrix of their products is definite. Plain. -/
namespace Go.Ex
section
variable{m m':Mx}{n w p:Nat}{κ:Rat}{q:Nat→Rat}
end
end Go.Ex

/- A reduced echelon form is one alone. Plain. -/
namespace Go.Ex
/-- a reduced echelon form with its pivots -/
structure Rf(E:Mx)(p:Nat→Nat)(r n:Nat):Prop where
 lt:∀i,i<r→p i<n
 mono:∀i j,i<j→j<r→p i<p j
 unit:∀i j,i<r→j<r→E j (p i)=if j=i then 1 else 0
 lead:∀i t,i<r→t<p i→E i t=0
section
variable{E F:Mx}{p q:Nat→Nat}{r s n:Nat}{v:Nat→Rat}
end
end Go.Ex

/- The elimination ends in a reduced echelon form with the same rows' space. Plain. -/
namespace Go.Ex
end Go.Ex

/- An elimination that takes rows one by one (package statics): what it keeps. Plain. -/
namespace Go.Ex
/-- reduced, in any order of the pivots -/
structure Ru(E:Mx)(p:Nat→Nat)(r n:Nat):Prop where
 lt:∀i,i<r→p i<n
 inj:∀i j,i<r→j<r→p i=p j→i=j
 unit:∀i j,i<r→j<r→E j (p i)=if j=i then 1 else 0
 lead:∀i t,i<r→t<p i→E i t=0
/-- a row, cleared by the rows whose pivots are below k -/
def clr(E:Mx)(p:Nat→Nat)(r:Nat)(v:Nat→Rat)(k t:Nat):Rat:=v t-sumR (fun i=>if p i<k then v (p i)*E i t else 0) r
section
variable{E:Mx}{p:Nat→Nat}{r n:Nat}{v:Nat→Rat}
end
end Go.Ex

/- A row more in an elimination that takes rows one by one. Plain. -/
namespace Go.Ex
end Go.Ex

/- A row more: the rows' space is that with the new row. Plain. -/
namespace Go.Ex
section
variable{E:Mx}{p:Nat→Nat}{r n k:Nat}{u v:Nat→Rat}
end
end Go.Ex

/- The elimination of package statics, row by row, as a function. Plain. -/
namespace Go.Ex
/-- a multiple of a row is taken from another -/
def takeF(row frm:List Rat)(by_:Rat):List Rat:=row.mapIdx (addR (-by_) frm)
theorem takeF_length(row frm:List Rat)(b:Rat):(takeF row frm b).length=row.length:=List.length_mapIdx
theorem takeF_zero(row frm:List Rat):takeF row frm 0=row:=by
 refine List.ext_getElem? fun j=>?_
 rw[takeF,List.getElem?_mapIdx]
 cases row[j]? with
 |none=>rfl
 |some q=>exact congrArg some (by rw[addR,Rat.neg_zero,Rat.zero_mul,Rat.add_zero])
/-- the first column from k on that is not 0, looking at so many columns -/
def findP(row:List Rat):Nat→Nat→Nat
 |0,k=>k
 |f+1,k=>if row.getD k 0=0 then findP row f (k+1)else k
def pivF(row:List Rat)(cols:Nat):Nat:=findP row cols 0
theorem findP_at{row:List Rat}{k:Nat}:∀(f j:Nat),(∀i,j≤i→i<j+k→row.getD i 0=0)→k≤f→(k<f→row.getD (j+k) 0≠0)→findP row f j=j+k:=by
 induction k with
 |zero=>
  intro f j _ _ h
  cases f with
  |zero=>rfl
  |succ f=>rw[findP,if_neg (by have:=h (by omega);rwa [Nat.add_zero]at this)];rfl
 |succ k ih=>
  intro f j h0 hf h
  cases f with
  |zero=>omega
  |succ f=>
   rw[findP,if_pos (h0 j (Nat.le_refl _) (by omega)),ih f (j+1) (fun i h1 h2=>h0 i (by omega) (by omega)) (by omega) (fun h1=>by rw[Nat.add_assoc,Nat.add_comm 1 k];exact h (by omega))]
   omega
theorem pivF_eq{row:List Rat}{cols k:Nat}(h0:∀i,i<k→row.getD i 0=0)(hk:k≤cols)(h:k<cols→row.getD k 0≠0):pivF row cols=k:=by
 rw[pivF,findP_at (k:=k) cols 0 (fun i _ h2=>h0 i (by omega)) hk (fun h1=>by rw[Nat.zero_add];exact h h1),Nat.zero_add]
/-- the rows that stand, for each column the row whose pivot it is, and the rows from which they come -/
abbrev RedS:=List (List Rat)×List (Option Nat)×List Nat
/-- a row is cleared by the rows that stand, in the first columns -/
def clrTo(E:List (List Rat))(at_:List (Option Nat))(row:List Rat):Nat→List Rat
 |0=>row
 |k+1=>match at_.getD k none with
  |some j=>takeF (clrTo E at_ row k) (E.getD j []) ((clrTo E at_ row k).getD k 0)
  |none=>clrTo E at_ row k
theorem clrTo_length(E:List (List Rat))(at_:List (Option Nat))(row:List Rat):∀k,(clrTo E at_ row k).length=row.length
 |0=>rfl
 |k+1=>by
  rw[clrTo]
  split
  ·rw[takeF_length,clrTo_length E at_ row k]
  ·exact clrTo_length E at_ row k
/-- the rows below i have been cleared by a new one -/
def offTo(E:List (List Rat))(u:List Rat)(p i:Nat):List (List Rat):=E.mapIdx fun j r=>if j<i then takeF r u (r.getD p 0)else r
def redStep(cols:Nat)(s:RedS)(i:Nat)(row:List Rat):RedS:=
 let r:=clrTo s.1 s.2.1 row cols
 let p:=pivF r cols
 if p=cols then s else
  let u:=r.map (· / r.getD p 0)
  (offTo s.1 u p s.1.length++[u],s.2.1.set p (some s.1.length),s.2.2++[i])
def redTo(M:List (List Rat))(cols:Nat):Nat→RedS
 |0=>([],List.replicate cols none,[])
 |i+1=>redStep cols (redTo M cols i) i (M.getD i [])
/-- the rows in the order of their pivots -/
def sortTo(s:RedS):Nat→List (List Rat)×List Nat×List Nat
 |0=>([],[],[])
 |k+1=>match s.2.1.getD k none with
  |some r=>((sortTo s k).1++[s.1.getD r []],(sortTo s k).2.1++[k],(sortTo s k).2.2++[s.2.2.getD r 0])
  |none=>sortTo s k
def reduceS(M:List (List Rat))(cols:Nat):List (List Rat)×List Nat×List Nat:=sortTo (redTo M cols M.length) cols
/-- what the loops keep -/
structure RedOk(n cols i:Nat)(s:RedS):Prop where
 len:Len n s.1
 at_:s.2.1.length=cols
 frm:s.2.2.length=s.1.length
 lt:∀(k r:Nat),s.2.1[k]? =some (some r)→r<s.1.length
 le:s.1.length≤i
 fr:∀j∈s.2.2,j<i
theorem offTo_length(E:List (List Rat))(u:List Rat)(p i:Nat):(offTo E u p i).length=E.length:=List.length_mapIdx
theorem offTo_zero(E:List (List Rat))(u:List Rat)(p:Nat):offTo E u p 0=E:=by
 refine List.ext_getElem? fun j=>?_
 rw[offTo,List.getElem?_mapIdx]
 cases E[j]? <;>rfl
theorem offTo_at{E:List (List Rat)}{u:List Rat}{p i:Nat}{r:List Rat}(h:E[i]? =some r):(offTo E u p i)[i]? =some r:=by
 rw[offTo,List.getElem?_mapIdx,h]
 exact congrArg some (if_neg (Nat.lt_irrefl i))
theorem offTo_succ{E:List (List Rat)}{u:List Rat}{p i:Nat}{r:List Rat}(h:E[i]? =some r):offTo E u p (i+1)=(offTo E u p i).set i (takeF r u (r.getD p 0)):=by
 refine List.ext_getElem? fun j=>?_
 have hi:=(List.getElem?_eq_some_iff.1 h).1
 by_cases hj:i=j
 ·subst hj
  rw[List.getElem?_set_self (by rw[offTo_length];exact hi),offTo,List.getElem?_mapIdx,h]
  exact congrArg some (if_pos (Nat.lt_succ_self i))
 ·rw[List.getElem?_set_ne hj,offTo,offTo,List.getElem?_mapIdx,List.getElem?_mapIdx]
  cases E[j]? with
  |none=>rfl
  |some r=>
   have e:(j<i+1)↔(j<i):=by omega
   simp only[Option.map_some,e]
theorem offTo_len{E:List (List Rat)}{u:List Rat}{p i n:Nat}(h:Len n E):Len n (offTo E u p i):=fun r hr=>by
 obtain⟨j,hj⟩:=List.getElem?_of_mem hr
 rw[offTo,List.getElem?_mapIdx]at hj
 cases hE:E[j]? with
 |none=>rw[hE]at hj;cases hj
 |some x=>
  rw[hE]at hj
  have hx:=h x (List.mem_of_getElem? hE)
  simp only[Option.map_some,Option.some.injEq]at hj
  subst hj
  split
  ·rw[takeF_length];exact hx
  ·exact hx
theorem RedOk.start(n cols:Nat):RedOk n cols 0 ([],List.replicate cols none,[]):=
 ⟨(fun r hr=>by cases hr),List.length_replicate ..,rfl,(fun (k r:Nat) h=>by rw[List.getElem?_replicate]at h;split at h<;>cases h),Nat.le_refl _,fun j hj=>by cases hj⟩
theorem RedOk.step{n cols i:Nat}{s:RedS}(h:RedOk n cols i s){row:List Rat}(hr:row.length=n):RedOk n cols (i+1) (redStep cols s i row):=by
 unfold redStep
 dsimp only
 split
 ·exact⟨h.len,h.at_,h.frm,h.lt,Nat.le_succ_of_le h.le,fun j hj=>Nat.lt_succ_of_lt (h.fr j hj)⟩
 ·refine⟨fun r hm=>?_,by simp[h.at_],by simp[h.frm,offTo_length],fun k r hk=>?_,?_,fun j hj=>?_⟩
  ·rcases List.mem_append.1 hm with hm|hm
   ·exact offTo_len h.len r hm
   ·rw[List.mem_singleton]at hm
    subst hm
    rw[List.length_map,clrTo_length,hr]
  ·dsimp only at hk ⊢
   rw[List.length_append,offTo_length,List.length_singleton]
   rw[List.getElem?_set]at hk
   split at hk
   ·split at hk
    ·injection hk with hk;injection hk with hk;omega
    ·cases hk
   ·have:=h.lt k r hk;omega
  ·dsimp only
   rw[List.length_append,offTo_length,List.length_singleton]
   have:=h.le
   omega
  ·rcases List.mem_append.1 hj with hj|hj
   ·exact Nat.lt_succ_of_lt (h.fr j hj)
   ·rw[List.mem_singleton]at hj;omega
theorem redTo_ok{M:List (List Rat)}{n:Nat}(cols:Nat)(hM:Len n M):∀i,i≤M.length→RedOk n cols i (redTo M cols i)
 |0,_=>RedOk.start n cols
 |i+1,hi=>by
  have hm:=List.getElem?_eq_getElem (l:=M) (show i<M.length by omega)
  refine(redTo_ok cols hM i (by omega)).step ?_
  rw[List.getD,hm]
  exact hM _ (List.mem_of_getElem? hm)
end Go.Ex

/- Frames as lists; what package statics computes of them. Plain. -/
namespace Go.Ex
/-- a frame: nodes, bars (two nodes, flexibility), supports (node, axis, flexibility) -/
structure Frm where
 nodes:List (Int×Int×Int)
 bars:List (Int×Int×Rat)
 sups:List (Int×Int×Rat)
def Frm.cols(f:Frm):Nat:=f.bars.length+f.sups.length
def Frm.node(f:Frm)(n:Int):Int×Int×Int:=f.nodes.getD n.toNat (0,0,0)
def barD(f:Frm)(b:Int×Int×Rat):List Int:=[(f.node b.2.1).1-(f.node b.1).1,(f.node b.2.1).2.1-(f.node b.1).2.1,(f.node b.2.1).2.2-(f.node b.1).2.2]
/-- a number is added at a place of a matrix -/
def addAt(M:List (List Int))(r c:Nat)(d:Int):List (List Int):=M.set r ((M.getD r []).set c ((M.getD r []).getD c 0+d))
def putAt(M:List (List Int))(r c:Nat)(d:Int):List (List Int):=M.set r ((M.getD r []).set c d)
def barTo(f:Frm)(M:List (List Int))(i:Nat):Nat→List (List Int)
 |0=>M
 |k+1=>
  let b:=f.bars.getD i (0,0,0)
  let d:=(barD f b).getD k 0
  addAt (addAt (barTo f M i k) (3*b.1+k).toNat i d) (3*b.2.1+k).toNat i (-d)
def barsTo(f:Frm):Nat→List (List Int)
 |0=>List.replicate (3*f.nodes.length) (List.replicate f.cols 0)
 |i+1=>barTo f (barsTo f i) i 3
def supsTo(f:Frm):Nat→List (List Int)
 |0=>barsTo f f.bars.length
 |i+1=>
  let s:=f.sups.getD i (0,0,0)
  putAt (supsTo f i) (3*s.1+s.2.1).toNat (f.bars.length+i) 1
def matF(f:Frm):List (List Int):=supsTo f f.sups.length
def wholesF(l:List Int):List Rat:=l.map fun(n:Int)=>(n:Rat)
def tabF(f:Frm):List (List Rat):=(matF f).map wholesF
def transF(M:List (List Rat))(cols:Nat):List (List Rat):=(List.range cols).map fun k=>M.map fun r=>r.getD k 0
/-- loads: node, and three components -/
abbrev Ld:=Int×Int×Int×Int
def sumAt(s:List Int)(r:Nat)(d:Int):List Int:=s.set r (s.getD r 0+d)
def scaleF(l:List Rat)(b:Rat):List Rat:=l.map (· *b)
def eachF(a b:List Rat):List Rat:=a.mapIdx fun i x=>x*b.getD i 0
def flexF(f:Frm):List Rat:=f.bars.map (·.2.2)++f.sups.map (·.2.2)
def wideF(M:List (List Rat))(b:List Rat):List (List Rat):=M.mapIdx fun i r=>r++[b.getD i 0]
def kernelS(M:List (List Rat))(cols:Nat):List (List Rat):=kernelTo (reduceS M cols).1 (reduceS M cols).2.1 cols cols
def solveS(M:List (List Rat))(b:List Rat)(cols:Nat):Option (List Rat):=
 let e:=reduceS (wideF M b) (cols+1)
 if cols∈e.2.1 then none else some (xvecTo e.1 e.2.1 cols e.2.1.length)
/-- the frame of the chapter's examples -/
def bracketF:Frm:=⟨[(0,0,0),(0,0,4),(3,0,0)],[(0,2,1),(1,2,1)],[(0,0,0),(0,1,0),(0,2,0),(1,0,0),(1,1,0),(1,2,0),(2,1,0)]⟩
end Go.Ex

/- Rows that package statics makes: zeros, scaled, each; a row is taken from another. Printed by program. No condition but sizes. -/
namespace Go.Ex
open Go Go.Sx Go.Proofs

/-- a row that is filled from the left -/
structure FillC(w:World)(S:Nat→Prop)(n i:Nat)(css:List (List Value))(qs:List Rat):Prop where
 len:css.length=n
 four:∀cs∈css,cs.length=4
 one:∀cs∈css,∀u∈cs,u.oneCell'=true
 at_:∀(j:Nat) cs q,j<i→css[j]? =some cs→qs[j]? =some q→Rat4C w S cs q
section
variable{S S':Nat→Prop}{H:Hp}{nx n i:Nat}{iv iv':Iv}{B:Nat}{w w1 w' w2:World}{ρ:Nat→Sx.Val}{css:List (List Value)}{qs:List Rat}
theorem FillC.keep(h:FillC w S n i css qs)(hk:∀g,S g→w2.heap[g]? =w.heap[g]?):FillC w2 S n i css qs:=⟨h.len,h.four,h.one,fun j cs q hj h1 h2=>(h.at_ j cs q hj h1 h2).keep hk⟩
theorem FillC.weak(h:FillC w S n i css qs)(hk:∀g,S g→S' g):FillC w S' n i css qs:=⟨h.len,h.four,h.one,fun j cs q hj h1 h2=>(h.at_ j cs q hj h1 h2).weak hk⟩
theorem FillC.rel(h:FillC w (Cv S B iv) n i css qs)(r:Rel H nx iv B w ρ w')(hS:∀g,S g→g<B):FillC w' (Cv S B iv) n i css qs:=h.keep fun _ hg=>Rel.same r hS hg
theorem FillC.past(h:FillC w (Cv S B iv) n i css qs)(r:Rel H nx iv B w ρ w')(hS:∀g,S g→g<B)(he:Ext w' w2)(hm:∀p,p∈iv→p∈iv'):FillC w2 (Cv S B iv') n i css qs:=
 ((h.rel r hS).keep fun g hg=>he.block g (Rel.old r hS g hg)).weak fun _ hg=>hg.mono hm
theorem FillC.start(w:World)(S:Nat→Prop)(n:Nat)(qs:List Rat):FillC w S n 0 (List.replicate n f0) qs:=
 ⟨by simp,fun cs hc=>by rw[List.eq_of_mem_replicate hc];rfl,fun cs hc u hu=>by rw[List.eq_of_mem_replicate hc]at hu;simp[f0]at hu;rcases hu with rfl|rfl|rfl|rfl<;>rfl,fun j cs q hj=>by omega⟩
theorem FillC.next{b b2:Bool}{a a2:Option Addr}{m c m2 c2:Nat}{q:Rat}(h:FillC w S n i css qs)(hi:i<n)(hq:qs[i]? =some q)(hf:RatC w S (.agg #[.bool b,.slice a m c,.bool b2,.slice a2 m2 c2]) q):
  FillC w S n (i+1) (css.set i [.bool b,.slice a m c,.bool b2,.slice a2 m2 c2]) qs:=by
 refine⟨by simp[h.len],fun cs hc=>?_,fun cs hc u hu=>?_,fun j cs p hj h1 h2=>?_⟩
 ·rcases List.mem_or_eq_of_mem_set hc with hc|rfl
  ·exact h.four cs hc
  ·rfl
 ·rcases List.mem_or_eq_of_mem_set hc with hc|rfl
  ·exact h.one cs hc u hu
  ·simp at hu
   rcases hu with rfl|rfl|rfl|rfl<;>rfl
 ·by_cases hij:i=j
  ·subst hij
   rw[List.getElem?_set_self (by rw[h.len];exact hi)]at h1
   rw[hq]at h2
   injection h1 with h1;injection h2 with h2
   subst h1 h2
   exact hf.fourC
  ·rw[List.getElem?_set_ne hij]at h1
   exact h.at_ j cs p (by omega) h1 h2
theorem FillC.flat(h:FillC w S n i css qs):css.flatten.length=n*4:=by rw[flat_len h.four,h.len]
theorem FillC.done{w0:World}(h:FillC w1 (Cv (fun _=>False) w0.heap.size iv) n n css qs)(hl:qs.length=n)(hn:n≤maxLen)(r:Rel H nx iv w0.heap.size w1 ρ w'){id:Nat}(hH:getH H id=some (.arr T.Rat css.flatten))(hnil:(ρ id).nil=false):
  RowXc w' (fun _=>False) w0.heap.size [(w0.heap.size,w'.heap.size)] (.slice (some ⟨(ρ id).g,0,none⟩) n n) n qs:=by
 have h2:=h.rel r (oldF w0)
 have hlow:=r.low id _ hH hnil
 refine⟨⟨css,⟨h.flat,.inr ⟨(ρ id).g,n,css.flatten.toArray,rfl,Nat.zero_le _,r.arr id _ _ hH,Nat.le_refl _,hn,by simpa using h.flat,?_⟩⟩,h.len,?_⟩,fun g hg=>?_⟩
 ·rw[←h.flat];exact List.take_length
 ·refine⟨by rw[h.len,hl],fun j cs q h3 h4=>?_⟩
  refine(h2.at_ j cs q (by rw[←hl];exact(List.getElem?_eq_some_iff.1 h4).1) h3 h4).weak fun g hg=>⟨?_,fun e=>?_⟩
  ·rcases hg with hg|⟨k1,lo,hi,k2,k3,k4⟩
   ·exact hg.elim
   ·exact .inr ⟨k1,_,_,List.mem_singleton.2 rfl,k1,by have:=r.ivs lo hi k2;have:=r.size;omega⟩
  ·injection e with e
   exact Rel.not r (oldF w0) hg id _ hH hnil e
 ·injection hg with hg
  subst hg
  exact .inr ⟨hlow.1,_,_,List.mem_singleton.2 rfl,hlow.1,hlow.2⟩
theorem RowRc.c{v:Value}(h:RowRc w S S v qs):RatsC w S v qs:=by
 obtain⟨css,h1,h2⟩:=h
 exact⟨css,h1,h2.1,h2.len4,h2.2⟩
theorem RowXc.c{v:Value}(h:RowXc w S B iv v n qs):RatsC w (Cv S B iv) v qs:=h.read.c
theorem RowRc.rel{C:Nat→Prop}{v:Value}(h:RowRc w (Cv C B iv) (Cv S B iv) v qs)(r:Rel H nx iv B w ρ w')(hC:∀g,C g→g<B)(hS:∀g,S g→g<B):RowRc w' (Cv C B iv) (Cv S B iv) v qs:=
 h.keep fun _ hg=>hg.elim (Rel.same r hC) (Rel.same r hS)
theorem RowRc.past{C:Nat→Prop}{v:Value}(h:RowRc w (Cv C B iv) (Cv S B iv) v qs)(r:Rel H nx iv B w ρ w')(hC:∀g,C g→g<B)(hS:∀g,S g→g<B)(he:Ext w' w2)(hm:∀p,p∈iv→p∈iv'):RowRc w2 (Cv C B iv') (Cv S B iv') v qs:=
 ((h.rel r hC hS).keep fun g hg=>he.block g (hg.elim (Rel.old r hC g) (Rel.old r hS g))).weak (fun _ hg=>hg.mono hm) (fun _ hg=>hg.mono hm)
theorem RowRc.arg{C:Nat→Prop}{v:Value}(h:RowRc w C S v qs)(iv:Iv):RowRc w (Cv C w.heap.size iv) (Cv S w.heap.size iv) v qs:=h.weak (fun _ h=>.inl h) (fun _ h=>.inl h)
theorem RowRc.shape{C:Nat→Prop}{v:Value}(h:RowRc w C S v qs):∃a c,v= .slice a qs.length c∧qs.length≤c∧qs.length≤maxLen:=by
 obtain⟨css,⟨h0,_,_,a,c,h1,h2,_⟩,_⟩:=h
 exact⟨a,c,h1,h2,h0⟩
theorem RowRc.load{C:Nat→Prop}{a:Option Addr}{n c j:Nat}{q:Rat}(h:RowRc w C S (.slice a n c) qs)(hq:qs[j]? =some q):
  ∃ad cs,a=some ad∧Rat4C w S cs q∧∀k u,cs[k]? =some u→C ad.block∧w.cell? ((ad.add (j*4)).add k)=some u:=by
 obtain⟨css,⟨h0,h1,h2,a',c',e,h3,h4⟩,hf⟩:=h
 injection e with e1 e2 e3
 subst e1
 obtain⟨cs,hcs⟩:∃cs,css[j]? =some cs:=⟨_,List.getElem?_eq_getElem (by rw[hf.1];exact(List.getElem?_eq_some_iff.1 hq).1)⟩
 have hF:=hf.2 j cs q hcs hq
 have hl:=hF.len
 obtain⟨ad,k1,k2,k3⟩:=h4 (j*4+0) _ (flat_get hf.len4 hcs 0 _ (List.getElem?_eq_getElem (show 0<cs.length by omega)))
 refine⟨ad,cs,k1,hF,fun k u hu=>?_⟩
 obtain⟨ad2,m1,m2,m3⟩:=h4 (j*4+k) u (flat_get hf.len4 hcs k u hu)
 rw[k1]at m1
 injection m1 with m1
 subst m1
 refine⟨m2,?_⟩
 rw[←m3]
 have:(ad.add (j*4)).add k=ad.add (j*4+k):=by
  unfold Addr.add
  split<;>split<;>simp_all<;>omega
 rw[this]
theorem rowLoadC{j:Nat}{a:Option Addr}{c:Nat}{cs:List Value}(h:w.ownsRow 0 T.Rat 4 (.slice a n c) n css.flatten)(hf:Fc w S css qs)(hj:css[j]? =some cs):
  ∃g,a=some ⟨g,0,none⟩∧∀k u,cs[k]? =some u→w.cell? ((Addr.add ⟨g,0,none⟩ (j*4)).add k)=some u:=by
 rcases h.2 with⟨h1,h0⟩|⟨g,cap,cur,hv2,_⟩
 ·have:=h.1
  rw[flat_len hf.len4]at this
  have:=(List.getElem?_eq_some_iff.1 hj).1
  omega
 ·injection hv2 with h1 h2 h3
  subst h1
  refine⟨g,rfl,fun k u hu=>?_⟩
  have:=h.cells (g:=g) rfl (j*4+k) u (flat_get hf.len4 hj k u hu)
  rw[addr_add,addr_add]
  rw[addr_add]at this
  rw[Nat.add_assoc]
  exact this
end
theorem sZeros_c(n:Nat)(w:World)(hn:n≤1000000):Con PG N.statics_zeros #[.int .i64 n] w (Ret w fun v' w2=>RowXc w2 (fun _=>False) w.heap.size [(w.heap.size,w2.heap.size)] v' n (List.replicate n 0)):=by
 have hw:Bel w.heap.size w w:=Bel.refl
 refine in_statics_zeros (by simp) ?_
 conv=>whnf
 refine⟨n,n,rfl,rfl,Nat.le_refl _,by omega,by omega,?_⟩
 conv=>whnf
 refine⟨Nat×List (List Value)×Iv×World,fun z=>⟨[(3,.o (.s 0 0 n n)),(8,.o (.v (.int .i64 n))),(9,.o (.v (.int .i64 ((z.1:Nat):Int))))],[(0,.arr T.Rat z.2.1.flatten)],1,z.2.2.1,z.2.2.2⟩,fun z=>n-z.1,
  fun z=>z.1≤n∧Bel w.heap.size w z.2.2.2∧FillC z.2.2.2 (Cv (fun _=>False) w.heap.size z.2.2.1) (n) z.1 z.2.1 (List.replicate n 0),?_,?_⟩
 ·intro ρ w' r
  exact⟨(0,List.replicate (n) f0,_,w'),⟨by simp,hw.tr r.bel,FillC.start _ _ _ _⟩,Sub.gen [] r ⟨rfl,trivial⟩ ⟨rfl,rfl,rfl,trivial⟩ (by simp[ScH,Blk.scopd,At.sc]) (by simp[ScE,SV.sc,At.sc]) (by rfl) (fun lo hi h=>h)⟩
 clear hw
 rintro⟨i,css,iv,w1⟩ ⟨hi,hw,hF⟩
 dsimp only at hi hw hF ⊢
 conv=>whnf
 refine BrS.mk (fun h=>?_) (fun h=>?_)
 ·have h:i<n:=by simpa using h
  conv=>whnf
  refine callE_S (cE hw (Φ:=fun _ w' v w2=>RatC w2 (Nw (fun _=>False) w' w2) v (((0:Int):Rat))) (fun ρ w' r=>sWhole_c 0 w' (by decide) (by decide)) ?_)
  rintro ρ wa1 v1 wb1 iv1 r he hw h_ hn
  replace hF:=hF.past r (oldF w) he (mC h_)
  have hd:=hn.got (S:=fun _=>False) r.baseLe (mN h_)
  clear r hn
  obtain⟨s1_0,s1_1,s1_2,s1_3,s1_4,s1_5,s1_6,s1_7,rfl⟩:=hd.shape
  have hnext:=hF.next h (q:=_) (by simp[h]) hd
  conv=>whnf
  refine⟨⟨by omega,by omega⟩,?_⟩
  conv=>whnf
  refine⟨by have:=hF.flat;omega,(css.set i [.bool s1_0,.slice s1_1 s1_2 s1_3,.bool s1_4,.slice s1_5 s1_6 s1_7]).flatten,?_,?_⟩
  ·have:=flat_set (cs:=[.bool s1_0,.slice s1_1 s1_2 s1_3,.bool s1_4,.slice s1_5 s1_6 s1_7]) hF.four (show i<css.length by rw[hF.len];exact h)
   rw[←this]
   simp
  conv=>whnf
  refine⟨((i+1:Nat):Int),by rw[wrap64]<;>omega,?_⟩
  conv=>whnf
  intro ρ3 w3 r3
  exact⟨(i+1,css.set i [.bool s1_0,.slice s1_1 s1_2 s1_3,.bool s1_4,.slice s1_5 s1_6 s1_7],_,w3),⟨h,hw.tr r3.bel,hnext.rel r3 (oldF w)⟩,Sub.gen [] r3 ⟨rfl,trivial⟩ ⟨rfl,rfl,rfl,trivial⟩ (by simp[ScH,Blk.scopd,At.sc]) (by simp[ScE,SV.sc,At.sc]) (by rfl) (fun lo hi h=>h),by dsimp only;omega⟩
 have h:i=n:=Nat.le_antisymm hi (by simpa using h)
 subst h
 conv=>whnf
 intro ρe we re
 exact⟨_,rfl,hw.tr re.bel,hF.done (by simp) (by unfold maxLen;omega) re (id:=0) rfl (re.nn 0 _ rfl (by intros;simp) (by simp))⟩
theorem sScaled_c{S:Nat→Prop}{w:World}{v u:Value}{xs:List Rat}{b:Rat}(hS:Old S w)(hx:RatsL w S v xs)(hb:RatL w S u b)(hn:xs.length≤1000000):
  Con PG N.statics_scaled #[v,u] w (Ret w fun v' w2=>RowXc w2 (fun _=>False) w.heap.size [(w.heap.size,w2.heap.size)] v' xs.length (scaleF xs b)):=by
 have hw:Bel w.heap.size w w:=Bel.refl
 obtain⟨ax,cx,rfl,hcx,hmx⟩:=ListR.shape hx
 obtain⟨g0,g1,g2,g3,g4,g5,g6,g7,rfl⟩:=hb.shape
 have hby:rl b≤100000:=hb.rl
 refine in_statics_scaled (by simp) ?_
 conv=>whnf
 refine⟨xs.length,xs.length,rfl,rfl,Nat.le_refl _,by omega,by omega,?_⟩
 conv=>whnf
 refine⟨Nat×List (List Value)×Iv×World,fun z=>⟨[(3,.o (.p 0 0)),(5,.o (.s 1 0 xs.length xs.length)),(11,.o (.v (.slice ax xs.length cx))),(12,.o (.v (.int .i64 xs.length))),(13,.o (.v (.int .i64 ((z.1:Nat):Int))))],[(0,.box T.Rat [.v (.bool g0),.v (.slice g1 g2 g3),.v (.bool g4),.v (.slice g5 g6 g7)]),(1,.arr T.Rat z.2.1.flatten)],2,z.2.2.1,z.2.2.2⟩,fun z=>xs.length-z.1,
  fun z=>z.1≤xs.length∧Bel w.heap.size w z.2.2.2∧FillC z.2.2.2 (Cv (fun _=>False) w.heap.size z.2.2.1) (xs.length) z.1 z.2.1 (scaleF xs b),?_,?_⟩
 ·intro ρ w' r
  exact⟨(0,List.replicate (xs.length) f0,_,w'),⟨by simp,hw.tr r.bel,FillC.start _ _ _ _⟩,Sub.gen [] r ⟨rfl,rfl,trivial⟩ ⟨rfl,rfl,rfl,rfl,rfl,trivial⟩ (by simp[ScH,Blk.scopd,At.sc]) (by simp[ScE,SV.sc,At.sc]) (by rfl) (fun lo hi h=>h)⟩
 clear hw
 rintro⟨i,css,iv,w1⟩ ⟨hi,hw,hF⟩
 dsimp only at hi hw hF ⊢
 conv=>whnf
 refine BrS.mk (fun h=>?_) (fun h=>?_)
 ·have h:i<xs.length:=by simpa using h
  obtain⟨x,hxi⟩:∃x,xs[i]? =some x:=⟨_,List.getElem?_eq_getElem h⟩
  obtain⟨adx,csx,hax,hFx,-,hlx⟩:=ListR.load hx hxi
  obtain⟨f0,f1,f2,f3,f4,f5,f6,f7,rfl,hFx⟩:=hFx
  conv=>whnf
  refine⟨adx,hax,⟨by omega,by omega⟩,?_⟩
  conv=>whnf
  refine⟨[.bool f0,.slice f1 f2 f3,.bool f4,.slice f5 f6 f7],rfl,fun ρ w' r j u hu=>?_,?_⟩
  ·obtain⟨k1,k2⟩:=hlx j u hu
   rw[Int.toNat_natCast,cell_of_heap (w:=w) (w2:=w') (by rw[addB,addB];exact(hw.tr r.bel).block _ (hS _ k1))]
   exact k2
  conv=>whnf
  refine callE_S (cE hw (Φ:=fun _ w' v w2=>RatC w2 (Nw (fun _=>False) w' w2) v (x*b)) (fun ρ w' r=>vMul_c (fun g hg=>by have:=hS g hg;have:=r.baseLe;omega) (hFx.v.keep fun g hg=>(hw.tr r.bel).block g (hS g hg)) (hb.v.keep fun g hg=>(hw.tr r.bel).block g (hS g hg))) ?_)
  rintro ρ wa1 v1 wb1 iv1 r he hw h_ hn
  replace hF:=hF.past r (oldF w) he (mC h_)
  have hd:=hn.got (S:=fun _=>False) r.baseLe (mN h_)
  clear r hn
  obtain⟨s1_0,s1_1,s1_2,s1_3,s1_4,s1_5,s1_6,s1_7,rfl⟩:=hd.shape
  have hnext:=hF.next h (q:=_) (by rw[scaleF,List.getElem?_map,hxi];rfl) hd
  conv=>whnf
  refine⟨⟨by omega,by omega⟩,?_⟩
  conv=>whnf
  refine⟨by have:=hF.flat;omega,(css.set i [.bool s1_0,.slice s1_1 s1_2 s1_3,.bool s1_4,.slice s1_5 s1_6 s1_7]).flatten,?_,?_⟩
  ·have:=flat_set (cs:=[.bool s1_0,.slice s1_1 s1_2 s1_3,.bool s1_4,.slice s1_5 s1_6 s1_7]) hF.four (show i<css.length by rw[hF.len];exact h)
   rw[←this]
   simp
  conv=>whnf
  refine⟨((i+1:Nat):Int),by rw[wrap64]<;>omega,?_⟩
  conv=>whnf
  intro ρ3 w3 r3
  exact⟨(i+1,css.set i [.bool s1_0,.slice s1_1 s1_2 s1_3,.bool s1_4,.slice s1_5 s1_6 s1_7],_,w3),⟨h,hw.tr r3.bel,hnext.rel r3 (oldF w)⟩,Sub.gen [] r3 ⟨rfl,rfl,trivial⟩ ⟨rfl,rfl,rfl,rfl,rfl,trivial⟩ (by simp[ScH,Blk.scopd,At.sc]) (by simp[ScE,SV.sc,At.sc]) (by rfl) (fun lo hi h=>h),by dsimp only;omega⟩
 have h:i=xs.length:=Nat.le_antisymm hi (by simpa using h)
 subst h
 conv=>whnf
 intro ρe we re
 exact⟨_,rfl,hw.tr re.bel,hF.done (by simp[scaleF]) (by unfold maxLen;omega) re (id:=1) rfl (re.nn 1 _ rfl (by intros;simp) (by simp))⟩
theorem sEach_c{S:Nat→Prop}{w:World}{v u:Value}{xs ys:List Rat}(hS:Old S w)(hx:RatsL w S v xs)(hy:RatsL w S u ys)(hl:xs.length≤ys.length)(hn:xs.length≤1000000):
  Con PG N.statics_each #[v,u] w (Ret w fun v' w2=>RowXc w2 (fun _=>False) w.heap.size [(w.heap.size,w2.heap.size)] v' xs.length (eachF xs ys)):=by
 have hw:Bel w.heap.size w w:=Bel.refl
 obtain⟨ax,cx,rfl,hcx,hmx⟩:=ListR.shape hx
 obtain⟨ay,cy,rfl,hcy,hmy⟩:=ListR.shape hy
 refine in_statics_each (by simp) ?_
 conv=>whnf
 refine⟨xs.length,xs.length,rfl,rfl,Nat.le_refl _,by omega,by omega,?_⟩
 conv=>whnf
 refine⟨Nat×List (List Value)×Iv×World,fun z=>⟨[(0,.o (.v (.slice ax xs.length cx))),(1,.o (.v (.slice ay ys.length cy))),(5,.o (.s 0 0 xs.length xs.length)),(11,.o (.v (.int .i64 xs.length))),(12,.o (.v (.int .i64 ((z.1:Nat):Int))))],[(0,.arr T.Rat z.2.1.flatten)],1,z.2.2.1,z.2.2.2⟩,fun z=>xs.length-z.1,
  fun z=>z.1≤xs.length∧Bel w.heap.size w z.2.2.2∧FillC z.2.2.2 (Cv (fun _=>False) w.heap.size z.2.2.1) (xs.length) z.1 z.2.1 (eachF xs ys),?_,?_⟩
 ·intro ρ w' r
  exact⟨(0,List.replicate (xs.length) f0,_,w'),⟨by simp,hw.tr r.bel,FillC.start _ _ _ _⟩,Sub.gen [] r ⟨rfl,trivial⟩ ⟨rfl,rfl,rfl,rfl,rfl,trivial⟩ (by simp[ScH,Blk.scopd,At.sc]) (by simp[ScE,SV.sc,At.sc]) (by rfl) (fun lo hi h=>h)⟩
 clear hw
 rintro⟨i,css,iv,w1⟩ ⟨hi,hw,hF⟩
 dsimp only at hi hw hF ⊢
 conv=>whnf
 refine BrS.mk (fun h=>?_) (fun h=>?_)
 ·have h:i<xs.length:=by simpa using h
  obtain⟨x,hxi⟩:∃x,xs[i]? =some x:=⟨_,List.getElem?_eq_getElem h⟩
  obtain⟨y,hyi⟩:∃x,ys[i]? =some x:=⟨_,List.getElem?_eq_getElem (by omega)⟩
  obtain⟨adx,csx,hax,hFx,-,hlx⟩:=ListR.load hx hxi
  obtain⟨f0,f1,f2,f3,f4,f5,f6,f7,rfl,hFx⟩:=hFx
  obtain⟨ady,csy,hay,hFy,-,hly⟩:=ListR.load hy hyi
  obtain⟨q0,q1,q2,q3,q4,q5,q6,q7,rfl,hFy⟩:=hFy
  conv=>whnf
  refine drawn_of_pi hτ hmix [.x 0,.x 1,.x 2,.x 3,.x 4,.x 5,.x 6,.x 7,.x 8,.x 9,.x 10,.x 11,.x 12] (by kernel_rfl) (by kernel_rfl) ?_
  conv=>whnf
  refine⟨adx,hax,⟨by omega,by omega⟩,?_⟩
  conv=>whnf
  refine⟨[.bool f0,.slice f1 f2 f3,.bool f4,.slice f5 f6 f7],rfl,fun ρ w' r j u hu=>?_,?_⟩
  ·obtain⟨k1,k2⟩:=hlx j u hu
   rw[Int.toNat_natCast,cell_of_heap (w:=w) (w2:=w') (by rw[addB,addB];exact(hw.tr r.bel).block _ (hS _ k1))]
   exact k2
  conv=>whnf
  refine⟨ady,hay,⟨by omega,by omega⟩,?_⟩
  conv=>whnf
  refine⟨[.bool q0,.slice q1 q2 q3,.bool q4,.slice q5 q6 q7],rfl,fun ρ w' r j u hu=>?_,?_⟩
  ·obtain⟨k1,k2⟩:=hly j u hu
   rw[Int.toNat_natCast,cell_of_heap (w:=w) (w2:=w') (by rw[addB,addB];exact(hw.tr r.bel).block _ (hS _ k1))]
   exact k2
  conv=>whnf
  refine cE hw (Φ:=fun _ w' v w2=>RatC w2 (Nw (fun _=>False) w' w2) v (x*y)) (fun ρ w' r=>vMul_c (fun g hg=>by have:=hS g hg;have:=r.baseLe;omega) (hFx.v.keep fun g hg=>(hw.tr r.bel).block g (hS g hg)) (hFy.v.keep fun g hg=>(hw.tr r.bel).block g (hS g hg))) ?_
  rintro ρ wa1 v1 wb1 iv1 r he hw h_ hn
  replace hF:=hF.past r (oldF w) he (mC h_)
  have hd:=hn.got (S:=fun _=>False) r.baseLe (mN h_)
  clear r hn
  obtain⟨s1_0,s1_1,s1_2,s1_3,s1_4,s1_5,s1_6,s1_7,rfl⟩:=hd.shape
  have hnext:=hF.next h (q:=_) (by rw[eachF,List.getElem?_mapIdx,hxi,List.getD,hyi];rfl) hd
  conv=>whnf
  refine⟨⟨by omega,by omega⟩,?_⟩
  conv=>whnf
  refine⟨by have:=hF.flat;omega,(css.set i [.bool s1_0,.slice s1_1 s1_2 s1_3,.bool s1_4,.slice s1_5 s1_6 s1_7]).flatten,?_,?_⟩
  ·have:=flat_set (cs:=[.bool s1_0,.slice s1_1 s1_2 s1_3,.bool s1_4,.slice s1_5 s1_6 s1_7]) hF.four (show i<css.length by rw[hF.len];exact h)
   rw[←this]
   simp
  conv=>whnf
  refine⟨((i+1:Nat):Int),by rw[wrap64]<;>omega,?_⟩
  conv=>whnf
  intro ρ3 w3 r3
  exact⟨(i+1,css.set i [.bool s1_0,.slice s1_1 s1_2 s1_3,.bool s1_4,.slice s1_5 s1_6 s1_7],_,w3),⟨h,hw.tr r3.bel,hnext.rel r3 (oldF w)⟩,Sub.gen [] r3 ⟨rfl,trivial⟩ ⟨rfl,rfl,rfl,rfl,rfl,trivial⟩ (by simp[ScH,Blk.scopd,At.sc]) (by simp[ScE,SV.sc,At.sc]) (by rfl) (fun lo hi h=>h),by dsimp only;omega⟩
 have h:i=xs.length:=Nat.le_antisymm hi (by simpa using h)
 subst h
 conv=>whnf
 intro ρe we re
 exact⟨_,rfl,hw.tr re.bel,hF.done (by simp[eachF]) (by unfold maxLen;omega) re (id:=0) rfl (re.nn 0 _ rfl (by intros;simp) (by simp))⟩
end Go.Ex

/- A multiple of a row is taken from another, in place. Printed by program. No condition but sizes. -/
namespace Go.Ex
open Go Go.Sx Go.Proofs

theorem sTake_c{C S:Nat→Prop}{w:World}{v vby vs:Value}{n h:Nat}{qs ps:List Rat}{p:Rat}(hC:Old C w)(hS:Old S w)(hrw:RowWc w S v n qs)(hby:RatL w S vby p)
  (hs:RowRc w C S vs ps) (hpl:ps.length=n) (hdis:∀g,v.ownBlock=some g→¬S g) (hdc:∀g,v.ownBlock=some g→¬C g) (hq:∀q∈qs,rl q+1≤h) (hps:∀q∈ps,rl q+1≤h) (hb:rl p+1≤h) (hh:3*h≤90000):
  Con PG N.statics_take #[v,vs,vby] w (fun e w2=>e= .returned (.tuple #[])∧w.grownBy w2 v.ownBlock∧RowWc w2 (Nw S w w2) v n (takeF qs ps p)):=by
 obtain⟨css,hrow,hcl,hfr⟩:=hrw
 have hlow:∀g,v.ownBlock=some g→g<w.heap.size:=fun g hg=>(ownsRow.low hrow g hg).2
 have hout:∀iv g,v.ownBlock=some g→Out w.heap.size iv g:=fun iv g hg=>.inl (hlow g hg)
 have hdis2:∀iv g,v.ownBlock=some g→¬Cv S w.heap.size iv g:=fun iv g hg h=>by
  rcases h with h|⟨h,_⟩
  ·exact hdis g hg h
  ·have:=hlow g hg;omega
 have hdis3:∀iv g,v.ownBlock=some g→¬Cv C w.heap.size iv g:=fun iv g hg h=>by
  rcases h with h|⟨h,_⟩
  ·exact hdc g hg h
  ·have:=hlow g hg;omega
 have hql:qs.length=n:=by rw[←hfr.1,hcl]
 obtain⟨a,c,rfl,hnc⟩:=row_form hrow
 obtain⟨b1,a1,n1,c1,b2,a2,n2,c2,rfl⟩:=hby.shape
 obtain⟨asl,cs0,rfl,hsc,hnm⟩:=hs.shape
 rw[hpl]at hsc hnm hs ⊢
 unfold maxLen at hnm
 replace hfr:=hfr.weak (S':=Cv S w.heap.size []) fun _ h=>.inl h
 replace hby:=hby.arg []
 replace hs:=hs.arg []
 refine in_statics_take (by simp) ?_
 have hrow2:=hrow
 have hg:w.grownBy w (Value.slice a n c).ownBlock:=⟨rfl,rfl,rfl,Nat.le_refl _,fun _ _ _=>rfl⟩
 have hbyl:rl p≤100000:=hby.rl
 conv=>whnf
 refine⟨Nat×List (List Value)×Iv×World,fun z=>⟨[(0,.o (.v (.slice a n c))),(5,.o (.p 0 0)),(8,.o (.v (.slice asl n cs0))),(9,.o (.v (.int .i64 n))),(10,.o (.v (.int .i64 z.1)))],
   [(0,.box T.Rat [.v (.bool b1),.v (.slice a1 n1 c1),.v (.bool b2),.v (.slice a2 n2 c2)])],1,z.2.2.1,z.2.2.2⟩,fun z=>n-z.1,
  fun z=>z.1≤n∧w.grownBy z.2.2.2 (Value.slice a n c).ownBlock∧z.2.2.2.ownsRow 0 T.Rat 4 (.slice a n c) n z.2.1.flatten∧z.2.1.length=n∧Fc z.2.2.2 (Cv S w.heap.size z.2.2.1) z.2.1 (uptoI z.1 (addR (-p) ps) qs)∧
   RatL z.2.2.2 (Cv S w.heap.size z.2.2.1) (.agg #[.bool b1,.slice a1 n1 c1,.bool b2,.slice a2 n2 c2]) p∧RowRc z.2.2.2 (Cv C w.heap.size z.2.2.1) (Cv S w.heap.size z.2.2.1) (.slice asl n cs0) ps,?_,?_⟩
 ·intro ρ w' r
  refine⟨(0,css,[],w'),⟨by simp,grownBy_bel2 hg r.bel,rowRel hrow2 (hout []) r,hcl,by rw[uptoI_zero];exact hfr.rel r hS,hby.rel r hS,hs.rel r hC hS⟩,
   Sub.gen [] r ⟨rfl,trivial⟩ ⟨rfl,rfl,rfl,rfl,rfl,trivial⟩ (by simp[ScH,Blk.scopd,At.sc]) (by simp[ScE,SV.sc,At.sc]) (by rfl) (fun lo hi h=>h)⟩
 clear hrow hrow2 hfr hby hcl hs hg
 rintro⟨i,css,iv,w1⟩ ⟨hi,hg,hrow,hcl,hfr,hby,hs⟩
 dsimp only at hi hg hrow hcl hfr hby hs ⊢
 conv=>whnf
 refine BrS.mk (fun h=>?_) (fun h=>?_)
 ·have h:i<n:=by simpa using h
  obtain⟨cs,hcs⟩:∃cs,css[i]? =some cs:=⟨_,List.getElem?_eq_getElem (by omega)⟩
  obtain⟨q,hqi⟩:∃q,qs[i]? =some q:=⟨_,List.getElem?_eq_getElem (by omega)⟩
  obtain⟨f,hfi⟩:∃f,ps[i]? =some f:=⟨_,List.getElem?_eq_getElem (by omega)⟩
  have hF:=hfr.2 i cs q hcs (uptoI_at hqi)
  have hadd:addR (-p) ps i q=q-p*f:=by simp only[addR,List.getD,hfi,Option.getD_some];grind
  obtain⟨d1,e1,m1,k1,d2,e2,m2,k2,rfl,hF⟩:=hF
  have hrlq:=hq q (List.mem_of_getElem? hqi)
  have hrlf:=hps f (List.mem_of_getElem? hfi)
  obtain⟨ad,fcs,had,hff,hfl⟩:=hs.load hfi
  obtain⟨f1,g1,o1,u1,f2,g2,o2,u2,rfl,hff⟩:=hff
  conv=>whnf
  refine⟨ad,had,⟨by omega,by omega⟩,?_⟩
  conv=>whnf
  refine⟨[.bool f1,.slice g1 o1 u1,.bool f2,.slice g2 o2 u2],rfl,fun ρ w' r j x hx=>?_,?_⟩
  ·have hs2:=hs.rel r hC hS
   obtain⟨k2',k3⟩:=hfl j x hx
   have:=Rel.same r hC k2'
   rw[Int.toNat_natCast,cell_of_heap (w:=w1) (w2:=w') (by rw[addB,addB];exact this)]
   exact k3
  conv=>whnf
  refine callE_S (callE_con (Φ:=fun _ _ v _=>∃d,v= .bool d∧(d=true↔f=0)) (fun ρ w' r=>sZero_c (Rel.old r hS) ((hff.rel r hS).l (by omega))) ?_)
  rintro ρ wa v1 wb r he hbl ⟨dz,rfl,hz⟩
  replace hby:=hby.past (iv':=(wa.heap.size,wb.heap.size)::iv) r hS he fun x hx=>List.mem_cons_of_mem _ hx
  replace hfr:=hfr.past (iv':=(wa.heap.size,wb.heap.size)::iv) r hS he fun x hx=>List.mem_cons_of_mem _ hx
  replace hs:=hs.past (iv':=(wa.heap.size,wb.heap.size)::iv) r hC hS he fun x hx=>List.mem_cons_of_mem _ hx
  replace hff:=hff.past (iv':=(wa.heap.size,wb.heap.size)::iv) r hS he fun x hx=>List.mem_cons_of_mem _ hx
  replace hF:=hF.past (iv':=(wa.heap.size,wb.heap.size)::iv) r hS he fun x hx=>List.mem_cons_of_mem _ hx
  replace hrow:wb.ownsRow 0 T.Rat 4 (.slice a n c) n css.flatten:=ownsRow.keep (rowRel hrow (hout iv) r) fun b hb=>he.block b (by have:=hlow b hb;have:=r.baseLe;omega)
  replace hg:w.grownBy wb _:=grownBy_bel2 hg hbl
  clear r he hbl hfl
  generalize (wa.heap.size,wb.heap.size)::iv=iv2 at*
  cases dz
  ·conv=>whnf
   refine drawn_of_pi hτ hmix [.x 0,.x 1,.x 2,.x 3,.x 4,.x 5,.x 6,.x 7,.x 8,.x 9,.x 10,.x 11] (by kernel_rfl) (by kernel_rfl) ?_
   conv=>whnf
   obtain⟨g,rfl,hload⟩:=rowLoadC hrow hfr hcs
   refine⟨⟨g,0,none⟩,rfl,⟨by omega,by omega⟩,?_⟩
   conv=>whnf
   refine⟨[.bool d1,.slice e1 m1 k1,.bool d2,.slice e2 m2 k2],rfl,fun ρ w' r j x hx=>?_,?_⟩
   ·have:=rowLoadC (rowRel hrow (hout iv2) r) (hfr.rel r hS) hcs
    obtain⟨g',h1,h2⟩:=this
    injection h1 with h1
    rw[←h1]at h2
    exact h2 j x hx
   conv=>whnf
   have hl1:=rl_mul p f
   refine callE_con (Φ:=fun _ w' v w2=>RatC w2 (Nw (fun _=>False) w' w2) v (p*f)) (fun ρ w' r=>vMul_c (Rel.old r hS) (hby.rel r hS).v ((hff.rel r hS).v (by omega))) ?_
   rintro ρ wa v1 wb r he hbl hP
   have hPN:=hP.got (S:=S) r.baseLe (iv:=(wa.heap.size,wb.heap.size)::iv2) List.mem_cons_self
   replace hby:=hby.past (iv':=(wa.heap.size,wb.heap.size)::iv2) r hS he fun x hx=>List.mem_cons_of_mem _ hx
   replace hfr:=hfr.past (iv':=(wa.heap.size,wb.heap.size)::iv2) r hS he fun x hx=>List.mem_cons_of_mem _ hx
   replace hs:=hs.past (iv':=(wa.heap.size,wb.heap.size)::iv2) r hC hS he fun x hx=>List.mem_cons_of_mem _ hx
   replace hF:=hF.past (iv':=(wa.heap.size,wb.heap.size)::iv2) r hS he fun x hx=>List.mem_cons_of_mem _ hx
   replace hrow:wb.ownsRow 0 T.Rat 4 (.slice (some ⟨g,0,none⟩) n c) n css.flatten:=ownsRow.keep (rowRel hrow (hout iv2) r) fun b hb=>he.block b (by have:=hlow b hb;have:=r.baseLe;omega)
   replace hg:w.grownBy wb _:=grownBy_bel2 hg hbl
   clear r he hbl hP hff hload
   generalize (wa.heap.size,wb.heap.size)::iv2=iv3 at*
   obtain⟨b5,a5,n5,c5,b6,a6,n6,c6,rfl⟩:=hPN.shape
   conv=>whnf
   refine callE_con (Φ:=fun _ w' v w2=>RatC w2 (Nw (fun _=>False) w' w2) v (q-p*f)) (fun ρ w' r=>vSub_c (Rel.old r hS) ((hF.rel r hS).v (by omega)) ((hPN.rel r hS).v (by omega))) ?_
   rintro ρ wc v2 wd r he hbl hQ
   have hQN:=hQ.got (S:=S) r.baseLe (iv:=(wc.heap.size,wd.heap.size)::iv3) List.mem_cons_self
   replace hby:=hby.past (iv':=(wc.heap.size,wd.heap.size)::iv3) r hS he fun x hx=>List.mem_cons_of_mem _ hx
   replace hfr:=hfr.past (iv':=(wc.heap.size,wd.heap.size)::iv3) r hS he fun x hx=>List.mem_cons_of_mem _ hx
   replace hs:=hs.past (iv':=(wc.heap.size,wd.heap.size)::iv3) r hC hS he fun x hx=>List.mem_cons_of_mem _ hx
   replace hrow:wd.ownsRow 0 T.Rat 4 (.slice (some ⟨g,0,none⟩) n c) n css.flatten:=ownsRow.keep (rowRel hrow (hout iv3) r) fun b hb=>he.block b (by have:=hlow b hb;have:=r.baseLe;omega)
   replace hg:w.grownBy wd _:=grownBy_bel2 hg hbl
   clear r he hbl hQ hPN hF
   generalize (wc.heap.size,wd.heap.size)::iv3=iv4 at*
   obtain⟨b7,a7,n7,c7,b8,a8,n8,c8,rfl⟩:=hQN.shape
   rw[←hadd]at hQN
   conv=>whnf
   refine⟨⟨g,0,none⟩,rfl,⟨by omega,by omega⟩,?_⟩
   conv=>whnf
   intro ρ w' r
   have hrow3:=rowRel hrow (hout iv4) r
   have hF5:=(hQN.rel r hS).fourC
   obtain⟨g',hg',hok,hst,hgr,hsz⟩:=storeRow (nv:=[.bool b7,.slice a7 n7 c7,.bool b8,.slice a8 n8 c8]) hrow3 rfl h rfl (by decide)
   injection hg' with hg'
   injection hg' with hg'
   subst hg'
   have hset:=flat_set (cs:=[.bool b7,.slice a7 n7 c7,.bool b8,.slice a8 n8 c8]) hfr.len4 (show i<css.length by omega)
   rw[hset]at hst
   have hkeep:∀x,Cv S w.heap.size iv4 x→(setCells w' ⟨g,i*4,none⟩ [.bool b7,.slice a7 n7 c7,.bool b8,.slice a8 n8 c8]).heap[x]? =w'.heap[x]? :=fun x hx=>
    hgr.block x (Rel.old r hS x hx) fun e=>hdis2 iv4 g rfl (by injection e with e;rw[←e];exact hx)
   have had2:(⟨g,0,none⟩:Addr).add ((i:Int).toNat*4)=⟨g,i*4,none⟩:=by rw[Int.toNat_natCast,addr_add,Nat.zero_add]
   have hF6:=((hfr.rel r hS).keep hkeep).set (j:=i) (hF5.keep hkeep)
   rw[uptoI_succ (f:=addR (-p) ps) hqi]at hF6
   have hby6:=(hby.rel r hS).keep hkeep
   have hkeep3:∀x,Cv C w.heap.size iv4 x→(setCells w' ⟨g,i*4,none⟩ [.bool b7,.slice a7 n7 c7,.bool b8,.slice a8 n8 c8]).heap[x]? =w'.heap[x]? :=fun x hx=>
    hgr.block x (Rel.old r hC x hx) fun e=>hdis3 iv4 g rfl (by injection e with e;rw[←e];exact hx)
   have hs6:=(hs.rel r hC hS).keep fun x hx=>hx.elim (hkeep3 x) (hkeep x)
   clear hkeep3
   replace hg:w.grownBy (setCells w' ⟨g,i*4,none⟩ [.bool b7,.slice a7 n7 c7,.bool b8,.slice a8 n8 c8]) (some g):=grownBy_trans (grownBy_bel2 hg r.bel) hgr
   have hnot:=fun id b hb hn=>Rel.not r (fun _ h=>h) (hout iv4 g rfl) id b hb hn
   clear r hfr hby hQN hrow hrow3 hF5 hkeep hset hgr hs
   refine⟨by rw[had2],fun k hk=>by rw[had2];exact hok k hk,fun id b hb hn=>by rw[had2];exact hnot id b hb hn,fun w2 hw2=>?_⟩
   have hw2:w2=setCells w' ⟨g,i*4,none⟩ [.bool b7,.slice a7 n7 c7,.bool b8,.slice a8 n8 c8]:=by rw[hw2];exact congrArg (fun x=>setCells w' x _) had2
   rw[←hw2]at hF6 hby6 hst hg hsz hs6
   clear hw2 hok hnot
   conv=>whnf
   refine⟨((i+1:Nat):Int),by rw[wrap64]<;>omega,?_⟩
   conv=>whnf
   intro ρ3 w3 r3
   exact⟨(i+1,css.set i [.bool b7,.slice a7 n7 c7,.bool b8,.slice a8 n8 c8],iv4,w3),⟨h,grownBy_bel2 hg r3.bel,rowRel hst (hout iv4) r3,by simpa using hcl,hF6.rel r3 hS,hby6.rel r3 hS,hs6.rel r3 hC hS⟩,
    Sub.gen [] r3 ⟨rfl,trivial⟩ ⟨rfl,rfl,rfl,rfl,rfl,trivial⟩ (by simp[ScH,Blk.scopd,At.sc]) (by simp[ScE,SV.sc,At.sc]) (by rfl) (fun lo hi h=>h),by dsimp only;omega⟩
  ·have hf0:f=0:=hz.1 rfl
   have hsame:addR (-p) ps i q=q:=by rw[hadd,hf0];grind
   conv=>whnf
   refine⟨((i+1:Nat):Int),by rw[wrap64]<;>omega,?_⟩
   conv=>whnf
   intro ρ3 w3 r3
   exact⟨(i+1,css,iv2,w3),⟨h,grownBy_bel2 hg r3.bel,rowRel hrow (hout iv2) r3,hcl,by rw[←uptoI_same hqi hsame];exact hfr.rel r3 hS,hby.rel r3 hS,hs.rel r3 hC hS⟩,
    Sub.gen [] r3 ⟨rfl,trivial⟩ ⟨rfl,rfl,rfl,rfl,rfl,trivial⟩ (by simp[ScH,Blk.scopd,At.sc]) (by simp[ScE,SV.sc,At.sc]) (by rfl) (fun lo hi h=>h),by dsimp only;omega⟩
 ·have h:i=n:=by
   have:¬i<n:=by simpa using h
   omega
  subst h
  conv=>whnf
  intro ρ5 w5 r5
  refine⟨rfl,grownBy_bel2 hg r5.bel,css,rowRel hrow (hout iv) r5,hcl,?_⟩
  have:=(hfr.rel r5 hS).weak (S':=Nw S w w5) fun g hg=>Cv.nw hg r5
  rwa [←hql,uptoI_all]at this
end Go.Ex

/- CheckSolution of the reference, at the sizes of the laws. Printed by program. No condition but sizes. -/
namespace Go.Ex
open Go Go.Sx Go.Proofs

end Go.Ex

/- The law ExactAccepts. Printed by program. No condition but sizes. -/
namespace Go.Ex
open Go Go.Sx Go.Proofs

section
variable{S:Nat→Prop}{w:World}{v u vx vk vp:Value}{z:Int}{M K:List (List (Int×Int))}{b X P:List (Int×Int)}
end
end Go.Ex

/- The law ExactDefinite. Printed by program. No condition but sizes. -/
namespace Go.Ex
open Go Go.Sx Go.Proofs

end Go.Ex
namespace Go.Sx
open Go Go.Ex Go.Proofs
/-- a growing list of one's own, given up at a loop -/
theorem Sub.giveV{B:Nat}{l tl:Env}{nx:Nat}{H tH:Hp}{iv:Iv}{w w':World}{ρ:Nat→Sx.Val}{id t n sz:Nat}{e:TypeId}{cs:List Value}(r:Rel H nx iv B w ρ w')(hid:getH H id=some (.vec e sz cs))(hn:(ρ id).nil=false)(ht:getE l t=some (.o (.w id n)))
  (hs:SubH H tH) (ho:okH id tH=true) (h1:SubE l tl) (h2:ScE nx tl):
  Sub B l nx ρ w' ⟨(t,.o (.v (.slice (some ⟨(ρ id).g,0,none⟩) n (ρ id).cap)))::tl,tH,nx,((ρ id).g,(ρ id).g+1)::iv,w'⟩:=
 ⟨ρ,r.free hid (by simp) hn hs ho,fun u v hv=>give_env hn ht h1 h2 u v hv⟩
end Go.Sx
namespace Go.Ex
open Go Go.Sx Go.Proofs
end Go.Ex

/- Rows of one's own that are held raw and written, each in a block of its own; a nil slice in a box of one's own grows. No condition. -/
namespace Go.Ex
open Go Go.Sx Go.Proofs

/-- the blocks of rows -/
def Ob(rv:List Value)(g:Nat):Prop:=∃v∈rv,v.ownBlock=some g
def Lr(S:Nat→Prop)(B:Nat)(iv:Iv)(rv:List Value)(g:Nat):Prop:=Cv S B iv g∧¬Ob rv g
structure Rws(w:World)(S:Nat→Prop)(B:Nat)(iv:Iv)(rv:List Value)(n:Nat)(M:List (List Rat)):Prop where
 len:rv.length=M.length
 row:∀(i:Nat) v qs,rv[i]? =some v→M[i]? =some qs→RowWc w (Lr S B iv rv) v n qs
 dis:∀(i j:Nat) a b g,rv[i]? =some a→rv[j]? =some b→a.ownBlock=some g→b.ownBlock=some g→i=j
 new:∀g,Ob rv g→Cv (fun _=>False) B iv g
theorem Ob.append{rv:List Value}{v:Value}{g:Nat}:Ob (rv++[v]) g↔Ob rv g∨v.ownBlock=some g:=by
 unfold Ob
 simp[or_and_right,exists_or]
section
variable{S S':Nat→Prop}{H:Hp}{nx n:Nat}{iv iv':Iv}{B:Nat}{w w' w2:World}{ρ:Nat→Sx.Val}{rv:List Value}{M:List (List Rat)}
theorem Rws.nil:Rws w S B iv [] n []:=⟨rfl,fun i v qs h=>(by cases h),fun i j a b g h=>(by cases h),fun g ⟨v,hv,_⟩=>by cases hv⟩
theorem Rws.keep(h:Rws w S B iv rv n M)(hk:∀g,Cv S B iv g→w2.heap[g]? =w.heap[g]?):Rws w2 S B iv rv n M:=
 ⟨h.len,fun i v qs h1 h2=>(h.row i v qs h1 h2).keep fun g hg=>hg.elim (fun hg=>hk g hg.1) fun hg=>hk g (cvF (h.new g ⟨v,List.mem_of_getElem? h1,hg⟩)),h.dis,h.new⟩
theorem Rws.rel(h:Rws w S B iv rv n M)(r:Rel H nx iv B w ρ w')(hS:∀g,S g→g<B):Rws w' S B iv rv n M:=h.keep fun _ hg=>Rel.same r hS hg
theorem Rws.mono(h:Rws w S B iv rv n M)(hm:∀p,p∈iv→p∈iv'):Rws w S B iv' rv n M:=
 ⟨h.len,fun i v qs h1 h2=>(h.row i v qs h1 h2).weak fun _ hg=>⟨hg.1.mono hm,hg.2⟩,h.dis,fun g hg=>(h.new g hg).mono hm⟩
theorem Rws.past(h:Rws w S B iv rv n M)(r:Rel H nx iv B w ρ w')(hS:∀g,S g→g<B)(he:Ext w' w2)(hm:∀p,p∈iv→p∈iv'):Rws w2 S B iv' rv n M:=
 ((h.rel r hS).keep fun g hg=>he.block g (Rel.old r hS g hg)).mono hm
theorem Rws.low(h:Rws w S B iv rv n M){g:Nat}(hg:Ob rv g):B≤g:=(h.new g hg).elim (fun h=>h.elim) fun h=>h.1
theorem Rws.lt(h:Rws w S B iv rv n M)(r:Rel H nx iv B w ρ w'){g:Nat}(hg:Ob rv g):g<w'.heap.size:=Rel.old r (oldF' B) g (h.new g hg)
/-- what lies beside the rows is kept -/
theorem Lr.grown(r:Rel H nx iv B w ρ w')(hS:∀g,S g→g<B){row:Option Nat}(hg:w'.grownBy w2 row)(hrow:∀g,row=some g→Ob rv g):∀g,Lr S B iv rv g→w2.heap[g]? =w.heap[g]? :=fun g h=>by
 rw[hg.block g (Rel.old r hS g h.1) fun e=>h.2 (hrow g e.symm),Rel.same r hS h.1]
theorem Rws.bel(h:Rws w S B iv rv n M)(r:Rel H nx iv B w ρ w'){row:Option Nat}(hg:w'.grownBy w2 row)(hrow:∀g,row=some g→Ob rv g):Bel B w' w2:=
 Bel.grown hg (fun g e=>h.low (hrow g e)) r.baseLe
/-- a row is written: the others are kept -/
theorem Rws.setRow(h:Rws w' S B iv rv n M)(hlt:∀g,Cv S B iv g→g<w'.heap.size){i:Nat}{vi:Value}{qs:List Rat}(hvi:rv[i]? =some vi)(hgr:w'.grownBy w2 vi.ownBlock)(hB:B≤w'.heap.size)
  (hq:RowWc w2 (Nw (Lr S B iv rv) w' w2) vi n qs):Rws w2 S B ((w'.heap.size,w2.heap.size)::iv) rv n (M.set i qs):=by
 have hnw:∀g,Nw (Lr S B iv rv) w' w2 g→Lr S B ((w'.heap.size,w2.heap.size)::iv) rv g:=fun g hg=>by
  rcases hg with hg|hg
  ·exact⟨hg.1.mono fun p hp=>List.mem_cons_of_mem _ hp,hg.2⟩
  ·exact⟨.inr ⟨by omega,_,_,List.mem_cons_self,hg.1,hg.2⟩,fun hm=>by have:=hlt g (cvF (h.new g hm));omega⟩
 refine⟨by rw[List.length_set];exact h.len,fun k v ps h1 h2=>?_,h.dis,fun g hg=>(h.new g hg).mono fun p hp=>List.mem_cons_of_mem _ hp⟩
 by_cases hk:i=k
 ·subst hk
  rw[hvi]at h1
  injection h1 with h1
  subst h1
  rw[List.getElem?_set_self (by rw[←h.len];exact(List.getElem?_eq_some_iff.1 hvi).1)]at h2
  injection h2 with h2
  subst h2
  exact hq.weak hnw
 ·rw[List.getElem?_set_ne hk]at h2
  refine((h.row k v ps h1 h2).keep fun g hg=>?_).weak fun g hg=>⟨hg.1.mono fun p hp=>List.mem_cons_of_mem _ hp,hg.2⟩
  rcases hg with hg|hg
  ·exact hgr.block g (hlt g hg.1) fun e=>hg.2 ⟨vi,List.mem_of_getElem? hvi,e.symm⟩
  ·exact hgr.block g (hlt g (cvF (h.new g ⟨v,List.mem_of_getElem? h1,hg⟩))) fun e=>hk (h.dis i k vi v g hvi h1 e.symm hg)
theorem Rws.take_c(hM:Rws w S B iv rv n M)(r:Rel H nx iv B w ρ w')(hS:∀g,S g→g<B){i j h:Nat}{vi vj vby:Value}{ri rj:List Rat}{p:Rat}(hij:i≠j)(hvi:rv[i]? =some vi)(hvj:rv[j]? =some vj)(hri:M[i]? =some ri)(hrj:M[j]? =some rj)
  (hby:RatL w (Lr S B iv rv) vby p) (hq:∀q∈ri,rl q+1≤h) (hqj:∀q∈rj,rl q+1≤h) (hb:rl p+1≤h) (hh:3*h≤90000):
  Con PG N.statics_take #[vi,vj,vby] w' (fun e w2=>e= .returned (.tuple #[])∧w'.grownBy w2 vi.ownBlock∧(∀g,vi.ownBlock=some g→Ob rv g)∧Rws w2 S B ((w'.heap.size,w2.heap.size)::iv) rv n (M.set i (takeF ri rj p))):=by
 have hMr:=hM.rel r hS
 have h1:=hMr.row i vi ri hvi hri
 have h2:=hMr.row j vj rj hvj hrj
 have hmi:∀g,vi.ownBlock=some g→Ob rv g:=fun g hg=>⟨_,List.mem_of_getElem? hvi,hg⟩
 have hmj:∀g,vj.ownBlock=some g→Ob rv g:=fun g hg=>⟨_,List.mem_of_getElem? hvj,hg⟩
 refine(sTake_c (C:=fun g=>vj.ownBlock=some g) (S:=Lr S B iv rv) (fun x hx=>hM.lt r (hmj x hx)) (fun g hg=>Rel.old r hS g hg.1) h1 (RatL.keep hby fun g hg=>Rel.same r hS hg.1) h2.read h2.len (fun g hg hx=>hx.2 (hmi g hg)) (fun g hg hx=>hij (hM.dis i j _ _ g hvi hvj hg hx)) hq hqj hb hh).mono fun e w8 he=>?_
 obtain⟨rfl,hgr,hrow⟩:=he
 exact⟨rfl,hgr,hmi,hMr.setRow (fun g hg=>Rel.old r hS g hg) hvi hgr r.baseLe hrow⟩
/-- a row's value -/
theorem Rws.form(hM:Rws w S B iv rv n M){i:Nat}{v:Value}(hv:rv[i]? =some v):∃a c,v= .slice a n c:=by
 obtain⟨qs,hq⟩:∃qs,M[i]? =some qs:=⟨_,List.getElem?_eq_getElem (by rw[←hM.len];exact(List.getElem?_eq_some_iff.1 hv).1)⟩
 obtain⟨a,c,h,_⟩:=(hM.row i v qs hv hq).form
 exact⟨a,c,h⟩
/-- an element of a row -/
theorem Rws.load(hM:Rws w S B iv rv n M){i k:Nat}{a:Option Addr}{c:Nat}{qs:List Rat}{q:Rat}(hv:rv[i]? =some (.slice a n c))(hq:M[i]? =some qs)(hk:qs[k]? =some q):
  ∃ad cs,a=some ad∧Rat4C w (Lr S B iv rv) cs q∧∀j u,cs[j]? =some u→Cv (fun _=>False) B iv ad.block∧w.cell? ((ad.add (k*4)).add j)=some u:=by
 obtain⟨ad,cs,h1,h2,h3⟩:=RowRc.load (hM.row i _ qs hv hq).read hk
 refine⟨ad,cs,h1,h2,fun j u hu=>⟨?_,(h3 j u hu).2⟩⟩
 have:=(h3 j u hu).1
 exact hM.new _ ⟨_,List.mem_of_getElem? hv,this⟩
theorem Rws.store(hM:Rws w S B iv rv n M)(r:Rel H nx iv B w ρ w')(hS:∀g,S g→g<B){i k:Nat}{a a1 a2:Option Addr}{c n1 c1 n2 c2:Nat}{b b2:Bool}{q:Rat}{ri:List Rat}(hvi:rv[i]? =some (.slice a n c))(hri:M[i]? =some ri)(hk:k<n)
  (hf:RatC w (Lr S B iv rv) (.agg #[.bool b,.slice a1 n1 c1,.bool b2,.slice a2 n2 c2]) q):
  ∃g,a=some ⟨g,0,none⟩∧((⟨g,0,none⟩:Addr).add ((k:Int).toNat*4)).spot=none∧
   (∀j,j<4→(w'.cell? (((⟨g,0,none⟩:Addr).add ((k:Int).toNat*4)).add j)).isSome=true∧w'.frozen? (((⟨g,0,none⟩:Addr).add ((k:Int).toNat*4)).add j)=false)∧
   (∀id b,getH H id=some b→(ρ id).nil=false→(ρ id).g≠((⟨g,0,none⟩:Addr).add ((k:Int).toNat*4)).block)∧
   ∀w2,w2=setCells w' ((⟨g,0,none⟩:Addr).add ((k:Int).toNat*4)) [.bool b,.slice a1 n1 c1,.bool b2,.slice a2 n2 c2]→Rws w2 S B iv rv n (M.set i (ri.set k q))∧Bel B w' w2∧Rel H nx iv B w2 ρ w2∧∀g,Lr S B iv rv g→w2.heap[g]? =w.heap[g]? :=by
 have hMr:=hM.rel r hS
 have hmi:∀g,(Value.slice a n c).ownBlock=some g→Ob rv g:=fun g hg=>⟨_,List.mem_of_getElem? hvi,hg⟩
 obtain⟨g,rfl,h1,h2,h3,h4⟩:=(hMr.row i _ ri hvi hri).store hk (hf.keep fun g hg=>Rel.same r hS hg.1) (fun g hg hx=>hx.2 (hmi g hg)) (fun x hx=>Rel.old r hS x hx.1)
 refine⟨g,rfl,h1,h3,fun id b hb hn=>by rw[h2];exact Rel.not r (oldF' B) (hM.new g (hmi g rfl)) id b hb hn,fun w2 hw2=>?_⟩
 obtain⟨k1,k2,k3⟩:=h4 w2 hw2
 have hs:=hMr.setRow (fun g hg=>Rel.old r hS g hg) hvi k2 r.baseLe (k1.weak fun g hg=>.inl hg)
 refine⟨?_,hM.bel r k2 hmi,r.rowed (fun id b hb hn=>Rel.not r (oldF' B) (hM.new g (hmi g rfl)) id b hb hn) k2,Lr.grown r hS k2 hmi⟩
 refine⟨hs.len,fun j v qs h5 h6=>(hs.row j v qs h5 h6).weak fun x hx=>⟨?_,hx.2⟩,hs.dis,fun x hx=>hM.new x hx⟩
 rcases hx.1 with hx|⟨m1,lo,hi,m2,m3,m4⟩
 ·exact .inl hx
 ·rcases List.mem_cons.1 m2 with e|m2
  ·injection e with e1 e2
   subst e1 e2
   omega
  ·exact .inr ⟨m1,lo,hi,m2,m3,m4⟩
/-- a row more -/
theorem Rws.push(hM:Rws w S B iv rv n M){gx c:Nat}{qs:List Rat}(hgx:∀g,Cv S B iv g→g≠gx)(hBx:B≤gx)(hrow:RowWc w S (.slice (some ⟨gx,0,none⟩) n c) n qs)(hS:∀g,S g→g<B):
  Rws w S B ((gx,gx+1)::iv) (rv++[.slice (some ⟨gx,0,none⟩) n c]) n (M++[qs]):=by
 have hob:∀g,Ob rv g→g≠gx:=fun g hg=>hgx g (cvF (hM.new g hg))
 have hlr:∀g,Lr S B iv rv g→Lr S B ((gx,gx+1)::iv) (rv++[.slice (some ⟨gx,0,none⟩) n c]) g:=fun g hg=>⟨hg.1.mono fun p hp=>List.mem_cons_of_mem _ hp,fun h=>by
  rcases Ob.append.1 h with h|h
  ·exact hg.2 h
  ·injection h with h;exact hgx g hg.1 h.symm⟩
 refine⟨by simp[hM.len],fun i v ps h1 h2=>?_,fun i j a b g h1 h2 h3 h4=>?_,fun g hg=>?_⟩
 ·rcases Nat.lt_or_ge i rv.length with hi|hi
  ·rw[List.getElem?_append_left hi]at h1
   rw[List.getElem?_append_left (by rw[←hM.len];exact hi)]at h2
   exact(hM.row i v ps h1 h2).weak hlr
  ·have hi0:i=rv.length:=by have:=(List.getElem?_eq_some_iff.1 h1).1;simp at this;omega
   rw[hi0,List.getElem?_append_right (Nat.le_refl _),Nat.sub_self]at h1
   rw[hi0,hM.len,List.getElem?_append_right (Nat.le_refl _),Nat.sub_self]at h2
   simp at h1 h2
   subst h1 h2
   refine hrow.weak fun g hg=>⟨.inl hg,fun h=>?_⟩
   have:=hS g hg
   rcases Ob.append.1 h with h|h
   ·have:=hM.low h;omega
   ·injection h with h
    have h:gx=g:=h
    omega
 ·have key:∀(k:Nat) v,(rv++[Value.slice (some ⟨gx,0,none⟩) n c])[k]? =some v→(k<rv.length∧rv[k]? =some v)∨(k=rv.length∧v= .slice (some ⟨gx,0,none⟩) n c):=fun k v hk=>by
   rcases Nat.lt_or_ge k rv.length with hi|hi
   ·rw[List.getElem?_append_left hi]at hk
    exact .inl ⟨hi,hk⟩
   ·have hi0:k=rv.length:=by have:=(List.getElem?_eq_some_iff.1 hk).1;simp at this;omega
    rw[hi0,List.getElem?_append_right (Nat.le_refl _),Nat.sub_self]at hk
    simp at hk
    exact .inr ⟨hi0,hk.symm⟩
  rcases key i a h1 with⟨_,k1⟩|⟨e1,rfl⟩<;>rcases key j b h2 with⟨_,k2⟩|⟨e2,rfl⟩
  ·exact hM.dis i j a b g k1 k2 h3 h4
  ·injection h4 with h4
   exact absurd h4.symm (hob g ⟨a,List.mem_of_getElem? k1,h3⟩)
  ·injection h3 with h3
   exact absurd h3.symm (hob g ⟨b,List.mem_of_getElem? k2,h4⟩)
  ·rw[e1,e2]
 ·rcases Ob.append.1 hg with h|h
  ·exact(hM.new g h).mono fun p hp=>List.mem_cons_of_mem _ hp
  ·injection h with h
   have h:gx=g:=h
   subst h
   exact .inr ⟨hBx,_,_,List.mem_cons_self,Nat.le_refl _,Nat.lt_succ_self _⟩
/-- the last row is left -/
theorem Rws.drop{v:Value}{qs:List Rat}(hM:Rws w S B iv (rv++[v]) n (M++[qs])):Rws w S B iv rv n M:=by
 have hl:rv.length=M.length:=by have:=hM.len;simpa using this
 have hob:∀g,Ob rv g→Ob (rv++[v]) g:=fun g hg=>Ob.append.2 (.inl hg)
 refine⟨hl,fun i u ps h1 h2=>?_,fun i j a b g h1 h2=>hM.dis i j a b g ?_ ?_,fun g hg=>hM.new g (hob g hg)⟩
 ·have hi:=(List.getElem?_eq_some_iff.1 h1).1
  exact(hM.row i u ps (by rw[List.getElem?_append_left hi];exact h1) (by rw[List.getElem?_append_left (by rw[←hl];exact hi)];exact h2)).weak fun g hg=>⟨hg.1,fun h=>hg.2 (hob g h)⟩
 ·rw[List.getElem?_append_left (List.getElem?_eq_some_iff.1 h1).1];exact h1
 ·rw[List.getElem?_append_left (List.getElem?_eq_some_iff.1 h2).1];exact h2
/-- a growing slice of one's own, given up: it may be written -/
theorem vecW{id m:Nat}{css:List (List Value)}{qs:List Rat}(r:Rel H nx iv B w ρ w')(h:getH H id=some (.vec T.Rat 4 css.flatten))(hl:css.length=m)(h0:0<m)(hm:m≤maxLen)(hF:Fc w' S css qs):
  (ρ id).nil=false∧B≤(ρ id).g∧(∀g,Out B iv g→g≠(ρ id).g)∧RowWc w' S (.slice (some ⟨(ρ id).g,0,none⟩) m (ρ id).cap) m qs:=by
 have hfl:=flat_len hF.len4
 rcases r.vec id _ _ _ h with⟨_,h2⟩|⟨h1,spare,h2,h3,h4⟩
 ·rw[h2]at hfl
  rw[hl]at hfl
  simp at hfl
  omega
 ·refine⟨h1,(r.low id _ h h1).1,fun g hg e=>?_,css,⟨by rw[hfl,hl],.inr ⟨(ρ id).g,(ρ id).cap,_,rfl,Nat.zero_le _,h2,?_,h4,by simpa using h3,by rw[show m*4=css.flatten.length by rw[hfl,hl]];simp⟩⟩,hl,hF⟩
  ·exact Rel.not r (fun _ h=>h) hg id _ h h1 e.symm
  ·rw[List.length_append,hfl,hl]at h3
   omega
end
end Go.Ex
namespace Go.Sx
open Go Go.Ex Go.Proofs
/-- a nil slice in a box of one's own grows -/
theorem Sub.nilB{B nx:Nat}{l:Env}{H:Hp}{iv:Iv}{w w':World}{ρ:Nat→Sx.Val}{t:LoopI}(id p e sz:Nat){bt:Nat}{cs:List At}(hid:getH H id=some (.box bt cs))(hp:cs[p]? =some (.v (.slice none 0 0)))(hsc:ScE nx l)(r:Rel H nx iv B w ρ w')
  (h:∀ρ1,Rel ((id,.box bt (cs.set p (.w nx 0)))::(nx,.vec e sz [])::H) (nx+1) iv B w ρ1 w'→Sx.Sub B l (nx+1) ρ1 w' t):Sx.Sub B l nx ρ w' t:=by
 have r1:=r.push (.vec e sz []) ⟨0,0,true⟩ (w2:=w') rfl rfl rfl (Nat.le_refl _) (fun _ _=>rfl) (fun h=>by cases h) (.inl ⟨rfl,rfl⟩) trivial
 have hne:id≠nx:=Nat.ne_of_lt (r.keys id _ hid)
 have hid1:getH ((nx,.vec e sz [])::H) id=some (.box bt cs):=by rw[getH_cons,if_neg (fun h=>hne h.symm)];exact hid
 have hnn:=r1.nn id _ hid1 (by intros;simp) (by simp)
 have hcell:=r1.box id bt cs hid1
 have hden:(cs.set p (.w nx 0)).map (At.den (Sx.upd ρ nx ⟨0,0,true⟩))=cs.map (At.den (Sx.upd ρ nx ⟨0,0,true⟩)):=by
  refine List.ext_getElem? fun j=>?_
  rw[List.getElem?_map,List.getElem?_map]
  by_cases hj:p=j
  ·subst hj
   rw[List.getElem?_set_self (List.getElem?_eq_some_iff.1 hp).1,hp]
   simp[At.den,upd_same]
  ·rw[List.getElem?_set_ne hj]
 have r2:=r1.store (b':=.box bt (cs.set p (.w nx 0))) (H':=(id,.box bt (cs.set p (.w nx 0)))::(nx,.vec e sz [])::H) (w2:=w') hid1 (by simp) hnn (fun j=>by
  rw[getH_cons]
  by_cases hj:id=j
  ·subst hj;rw[if_pos rfl]
  ·rw[if_neg hj,if_neg (fun h=>hj h.symm)]) rfl rfl rfl rfl (fun _ _=>rfl) ⟨hnn,by rw[hden];exact hcell⟩ (fun x hx=>by
   rcases List.mem_or_eq_of_mem_set hx with hx|rfl
   ·exact r1.scH id bt cs hid1 x hx
   ·exact Nat.lt_succ_self nx)
 obtain⟨ρ',h1,h2⟩:=h _ r2
 refine⟨ρ',h1,fun x v hv=>?_⟩
 obtain⟨h3,v0,h4,h5⟩:=h2 x v hv
 refine⟨h3,v0,h4,?_⟩
 rw[←h5]
 exact SV.den_congr (fun id hid=>upd_lt id hid) (hsc.get _ _ h4)
end Go.Sx
namespace Go.Ex
open Go Go.Sx Go.Proofs
end Go.Ex

/- Regions that draw their order, by a tree of orders with up to three branches. No condition. -/
namespace Go.Ex
open Go Go.Sx Go.Proofs
inductive Tq where
 |nil
 |x (i:Nat) (t:Tq)
 |two (i:Nat) (t:Tq) (j:Nat) (u:Tq)
 |three (i:Nat) (t:Tq) (j:Nat) (u:Tq) (k:Nat) (v:Tq)
section
variable{P:Program}{τ:Tab}{ops:Array Oper}{B n nx:Nat}{l:Env}{H:Hp}{iv:Iv}{w w':World}{ρ:Nat→Sx.Val}{a:Act}
end
end Go.Ex
