/- A part of the proof: texts X75 to X102. Each tells its conditions in its theorems. -/
import Derived.Test.YtneljlhlncjkhaaGreatDoorP7
import Derived.Test.YtneljlhlncjkhaaGreatDoorP11
import Derived.Test.YtneljlhlncjkhaaGreatDoorP13
/- Columns and CheckMatrix of the reference; Rank and Kernel of package exact. Printed by program. No condition but sizes. -/
namespace Go.Ex
open Go Go.Sx Go.Proofs

theorem rColumns_c{S:Nat→Prop}{w:World}{v:Value}{M:List (List (Int×Int))}(hS:Old S w)(h:RatMR w S v M):Con PG N.ref01_Columns #[v] w (Ret w fun v' _=>v'= .int .i64 (colsM M)):=by
 have hn:=h
 obtain⟨a,c,rfl,hc,hm⟩:=SlicesR.shape h
 refine in_ref01_Columns (by simp) ?_
 cases M with
 |nil=>
  conv=>whnf
  intro ρe we re
  exact⟨_,rfl,re.bel,rfl⟩
 |cons r t=>
  obtain⟨ad,u,rfl,hu,h1,h2⟩:=SlicesR.load h (j:=0) (x:=r) rfl
  obtain⟨a2,c2,rfl⟩:=SlicesR.rowShape hu
  conv=>whnf
  refine⟨ad,rfl,⟨by omega,by simp⟩,?_⟩
  conv=>whnf
  refine⟨.slice a2 r.length c2,fun ρ w' r'=>by simpa using cellS hS Bel.refl r' h1 (by simpa using h2),?_⟩
  conv=>whnf
  intro ρe we re
  exact⟨_,rfl,re.bel,rfl⟩
theorem colsM_get{α:Type}{M:List (List α)}{r:List α}(h:M[0]? =some r):colsM M=r.length:=by
 cases M with
 |nil=>cases h
 |cons x t=>injection h with h;rw[←h];rfl
theorem rCheckMatrix_c{S:Nat→Prop}{w:World}{v:Value}{M:List (List (Int×Int))}(hS:Old S w)(h:RatMR w S v M):Con PG N.ref01_CheckMatrix #[v] w (Ret w fun v' _=>v'= .int .i64 (errM M)):=by
 have hw:Bel w.heap.size w w:=Bel.refl
 obtain⟨a,c,rfl,hc,hm⟩:=SlicesR.shape h
 unfold maxLen at hm
 refine in_ref01_CheckMatrix (by simp) ?_
 conv=>whnf
 refine⟨Nat×World,fun z=>⟨[(0,.o (.v (.slice a M.length c))),(3,.o (.v (.int .i64 ((z.1:Nat):Int))))],[],0,[],z.2⟩,fun z=>M.length-z.1,
  fun z=>z.1≤M.length∧Bel w.heap.size w z.2∧∀(j:Nat) r,j<z.1→M[j]? =some r→r.length=colsM M,?_,?_⟩
 ·intro ρ w' r
  exact⟨(0,w'),⟨by simp,r.bel,fun j r hj=>by dsimp only at hj;omega⟩,Sub.gen [] r trivial ⟨rfl,rfl,trivial⟩ (by simp[ScH]) (by simp[ScE,SV.sc,At.sc]) (by rfl) (by simp)⟩
 clear hw
 rintro⟨i,w1⟩ ⟨hi,hw,hrow⟩
 dsimp only at hi hw hrow ⊢
 conv=>whnf
 refine BrS.mk (fun hib=>?_) (fun hib=>?_)
 ·have hib:i<M.length:=by simpa using hib
  obtain⟨r,hr⟩:∃r,M[i]? =some r:=⟨_,List.getElem?_eq_getElem hib⟩
  obtain⟨r0,hr0⟩:∃r,M[0]? =some r:=⟨_,List.getElem?_eq_getElem (by omega)⟩
  have hc0:=colsM_get hr0
  obtain⟨ad,u,ha,hu,h1,h2⟩:=SlicesR.load h hr
  obtain⟨ad2,u2,ha2,hu2,h3,h4⟩:=SlicesR.load h hr0
  obtain⟨a2,c2,rfl⟩:=SlicesR.rowShape hu
  obtain⟨a3,c3,rfl⟩:=SlicesR.rowShape hu2
  conv=>whnf
  refine drawn_of_pi hτ hmix [.x 0,.x 1,.x 2,.x 3,.x 4,.x 5,.x 6,.x 7,.x 8,.x 9] (by kernel_rfl) (by kernel_rfl) ?_
  conv=>whnf
  refine⟨ad,ha,⟨by omega,by omega⟩,?_⟩
  conv=>whnf
  refine⟨.slice a2 r.length c2,fun ρ w' r'=>by rw[Int.toNat_natCast];exact cellS hS hw r' h1 h2,?_⟩
  conv=>whnf
  refine⟨ad2,ha2,⟨by omega,by omega⟩,?_⟩
  conv=>whnf
  refine⟨.slice a3 r0.length c3,fun ρ w' r'=>cellS hS hw r' h3 h4,?_⟩
  conv=>whnf
  refine BrS.mk (fun hne=>?_) (fun hne=>?_)
  ·have hne:r.length≠colsM M:=fun e=>by rw[hc0]at e;rw[e]at hne;simp at hne
   conv=>whnf
   intro ρe we re
   exact⟨_,rfl,hw.tr re.bel,by rw[errM,if_neg (fun hall=>hne (hall r (List.mem_of_getElem? hr)))];rfl⟩
  have heq:r.length=colsM M:=by
   have h5:((r.length:Int)==(r0.length:Int))=true:=by simpa using hne
   have:=eq_of_beq h5
   omega
  conv=>whnf
  refine⟨((i+1:Nat):Int),by rw[wrap64]<;>omega,?_⟩
  conv=>whnf
  intro ρ3 w3 r3
  refine⟨(i+1,w3),⟨hib,hw.tr r3.bel,fun j r' hj hr'=>?_⟩,Sub.gen [] r3 trivial ⟨rfl,rfl,trivial⟩ (by simp[ScH]) (by simp[ScE,SV.sc,At.sc]) (by rfl) (fun lo hi h=>h),by dsimp only;omega⟩
  by_cases hji:j=i
  ·subst hji;rw[hr]at hr';injection hr' with hr';rw[←hr'];exact heq
  ·exact hrow j r' (by dsimp only at hj;omega) hr'
 have hib:i=M.length:=Nat.le_antisymm hi (by simpa using hib)
 have hall:∀r∈M,r.length=colsM M:=fun r hr=>by
  obtain⟨j,hj⟩:=List.getElem?_of_mem hr
  exact hrow j r (by rw[hib];exact(List.getElem?_eq_some_iff.1 hj).1) hj
 have herr:errM M=if 60<M.length∨60<colsM M then 8 else 0:=by rw[errM,if_pos hall]
 replace h:=RatMR.keep h fun g hg=>hw.block g (hS g hg)
 replace h:=RatMR.weak (S':=Cv S w.heap.size []) h fun _ h=>.inl h
 conv=>whnf
 refine BrS.mk (fun h1=>?_) (fun h1=>?_)
 ·have h1:60<M.length:=by have:=of_decide_eq_true h1;omega
  conv=>whnf
  intro ρe we re
  exact⟨_,rfl,hw.tr re.bel,by rw[herr,if_pos (.inl h1)];rfl⟩
 have h1:¬60<M.length:=by have:=of_decide_eq_false h1;omega
 conv=>whnf
 refine callE_S (callE_con (Φ:=fun _ _ v _=>v= .int .i64 (colsM M)) (fun ρ w' r=>rColumns_c (Rel.old r hS) (RatMR.rel h r hS)) ?_)
 rintro ρ wa v1 wb r' he hb rfl
 replace hw:=hw.tr hb
 clear r' he hb h
 conv=>whnf
 refine BrS.mk (fun h2=>?_) (fun h2=>?_)
 ·have h2:60<colsM M:=by have:=of_decide_eq_true h2;omega
  conv=>whnf
  intro ρe we re
  exact⟨_,rfl,hw.tr re.bel,by rw[herr,if_pos (.inr h2)];rfl⟩
 have h2:¬60<colsM M:=by have:=of_decide_eq_false h2;omega
 conv=>whnf
 intro ρe we re
 exact⟨_,rfl,hw.tr re.bel,by rw[herr,if_neg (by omega)];rfl⟩
end Go.Ex
namespace Go.Sx
open Go Go.Ex Go.Proofs
theorem Rel.keptNil{nx:Nat}{iv:Iv}{B:Nat}{w w' w2:World}{ρ:Nat→Sx.Val}{X:Nat→Prop}(r:Rel [] nx iv B w ρ w')(k:Kept w' w2 X):Rel [] nx ((w'.heap.size,w2.heap.size)::iv) B w2 ρ w2:=
 Rel.mk' rfl rfl rfl (Nat.le_refl _) (by have:=r.base;have:=r.size;have:=k.size;omega) (fun lo hi hm=>by
  rcases List.mem_cons.1 hm with e|hm
  ·injection e with e1 e2;omega
  ·have:=r.ivs lo hi hm;have:=r.size;have:=k.size;omega) (fun j b h=>by cases h) (fun j b h=>by cases h) (fun j b h=>by cases h) (fun i j b b' hi=>by cases hi) (fun j b h=>by cases h) (fun _ _ _=>rfl) (fun lo hi hm j b h=>by cases h)
end Go.Sx
namespace Go.Ex
open Go Go.Sx Go.Proofs
theorem MatX.past{S:Nat→Prop}{H:Hp}{nx n:Nat}{iv iv':Iv}{B:Nat}{w w' w2:World}{ρ:Nat→Sx.Val}{vm:Value}{M:List (List Rat)}(h:MatX w S B iv vm n M)(r:Rel H nx iv B w ρ w')(hS:∀g,S g→g<B)(he:Ext w' w2)(hm:∀p,p∈iv→p∈iv'):MatX w2 S B iv' vm n M:=by
 obtain⟨rv,h1,h2⟩:=((h.rel r hS).keep fun g hg=>he.block g (Rel.old r hS g hg)).ex
 exact⟨rv,h1.weak fun g hg=>⟨hg.1.mono hm,hg.2⟩,fun g hg=>(h2 g hg).mono hm⟩
/-- reduce, called on a matrix that a call has made; nothing is one's own -/
theorem reduceS{B nx:Nat}{iv:Iv}{w0:World}{K:SV→Hp→Iv→World→Prop}{vm:Value}{n cols h0:Nat}{M:List (List Rat)}(hX:MatX w0 (fun _=>False) B iv vm n M)(hn:n≤1000000)(hR:M.length≤1000000)(hcols:cols≤n)
  (hht:Ht M h0) (h2:2≤h0) (hb:4^M.length*h0≤500000000)
  (hK:∀vp iv2 w2,Bel B w0 w2→(∀p,p∈iv→p∈iv2)→(∀g,g<B→w2.heap[g]? =w0.heap[g]?)→MatX w2 (fun _=>False) B iv2 vm n (reduceF M cols).1→IntsR w2 (Cv (fun _=>False) B iv2) vp (reduceF M cols).2→K (.o (.v vp)) [] iv2 w2):
  CallS PG B N.exact_reduce (fun _=> #[vm,.int .i64 cols]) [] nx iv w0 K:=by
 refine⟨fun ρ w' r=>?_⟩
 obtain⟨rv,hm,hMbC⟩:=(hX.rel r (oldF' B)).ex
 refine(reduce_c (fun g hg=>Rel.old r (oldF' B) g hg.1) hm (fun g hg=>hg.2) hn hR hcols hht h2 hb).mono fun e w2 he=>?_
 obtain⟨vp,rv',rfl,hKp,hM2,hMb,hP⟩:=he
 have hlow:∀g,Mb vm rv g→g<w'.heap.size:=fun g hg=>Rel.old r (oldF' B) g (hMbC g hg)
 have hge:∀g,Mb vm rv g→B≤g:=fun g hg=>by
  rcases hMbC g hg with h|h
  ·exact h.elim
  ·exact h.1
 have hB:=r.baseLe
 have hbel:Bel B w0 w2:=r.bel.tr ⟨hKp.os,hKp.tape,hKp.output,hKp.size,fun k hk=>hKp.block k (by omega) fun hx=>by have:=hge k hx;omega⟩
 refine⟨vp,[],(w'.heap.size,w2.heap.size)::iv,rfl,r.keptNil hKp,hK vp _ w2 hbel (fun p hp=>List.mem_cons_of_mem _ hp) (fun g hg=>hbel.block g hg) ⟨rv',hM2.weak fun g hg=>?_,fun g hg=>(hMbC g ((hMb g).1 hg)).mono fun p hp=>List.mem_cons_of_mem _ hp⟩ (SeqR.weak hP fun g hg=>?_)⟩
 ·rcases hg with hg|hg
  ·exact⟨hg.1.mono fun p hp=>List.mem_cons_of_mem _ hp,fun h=>hg.2 ((hMb g).1 h)⟩
  ·exact⟨.inr ⟨by omega,_,_,List.mem_cons_self,hg.1,hg.2⟩,fun h=>by have:=hlow g ((hMb g).1 h);omega⟩
 ·rcases hg with hg|hg
  ·exact hg.elim
  ·exact .inr ⟨by omega,_,_,List.mem_cons_self,hg.1,hg.2⟩
theorem errM_zero{M:List (List (Int×Int))}(h:errM M=0):(∀r∈M,r.length=colsM M)∧M.length≤60∧colsM M≤60:=by
 unfold errM at h
 split at h
 ·split at h
  ·cases h
  ·exact⟨‹_›,by omega,by omega⟩
 ·cases h
theorem pubRank_c{S:Nat→Prop}{w:World}{v:Value}{M:List (List (Int×Int))}{h0:Nat}(hS:Old S w)(h:RatMR w S v M)(hq:errM M=0→(∀r∈M,Few r)∧Ht (valsM M) h0∧2≤h0∧4^(valsM M).length*h0≤500000000):
  Con PG N.exact_Rank #[v] w (Ret w fun v' _=>(errM M≠0∧v'= .tuple #[.int .i64 0,.int .i64 (errM M)])∨(errM M=0∧v'= .tuple #[.int .i64 (reduceF (valsM M) (colsM M)).2.length,.int .i64 0])):=by
 have hw:Bel w.heap.size w w:=Bel.refl
 replace h:=RatMR.arg h []
 obtain⟨am,cm,rfl,hcm,hmm⟩:=SlicesR.shape h
 refine in_exact_Rank (by simp) ?_
 conv=>whnf
 refine callE_S (callE_con (Φ:=fun _ w' v w2=>v= .int .i64 (errM M)) (fun ρ w' r=>checkMatrix_c (Rel.old r hS) (RatMR.rel h r hS)) ?_)
 rintro ρ wa1 v1 wb1 r he hb rfl
 replace hw:=hw.tr hb
 replace h:=RatMR.past (iv':=(wa1.heap.size,wb1.heap.size)::[]) h r hS he fun x hx=>List.mem_cons_of_mem _ hx
 clear r he hb
 generalize (wa1.heap.size,wb1.heap.size)::[]=iv1 at*
 conv=>whnf
 refine BrS.mk (fun hne=>?_) (fun hne=>?_)
 ·have hne:errM M≠0:=fun e=>by rw[e]at hne;simp at hne
  conv=>whnf
  intro ρe we re
  exact⟨_,rfl,hw.tr re.bel,.inl ⟨hne,rfl⟩⟩
 have hne:errM M=0:=Classical.byContradiction fun e=>by simp[e]at hne
 obtain⟨hall,hM60,hc60⟩:=errM_zero hne
 obtain⟨hf,hht,h2,hbd⟩:=hq hne
 obtain⟨hAl,hpl,hpc,hAh⟩:=reduceF_inv (cols:=colsM M) hht h2
 conv=>whnf
 refine callE_S (callE_con (Φ:=fun _ w' v w2=>MatX w2 (fun _=>False) w'.heap.size [(w'.heap.size,w2.heap.size)] v (colsM M) (valsM M)) (fun ρ w' r=>matrix_c (Rel.old r hS) (RatMR.rel h r hS) hf hall (by omega) (by omega)) ?_)
 rintro ρ wa2 v2 wb2 r he hb hX0
 replace hw:=hw.tr hb
 replace h:=RatMR.past (iv':=(wa2.heap.size,wb2.heap.size)::iv1) h r hS he fun x hx=>List.mem_cons_of_mem _ hx
 have hX:=hX0.got (S:=fun _=>False) (iv:=(wa2.heap.size,wb2.heap.size)::iv1) r.baseLe List.mem_cons_self
 clear r he hb
 generalize (wa2.heap.size,wb2.heap.size)::iv1=iv2 at*
 clear hX0
 obtain⟨at_,ct,rfl,hct,-⟩:=SlicesR.shape hX.read
 conv=>whnf
 refine callE_S (callE_con (Φ:=fun _ w' v w2=>v= .int .i64 (colsM M)) (fun ρ w' r=>columns_c (Rel.old r hS) (RatMR.rel h r hS)) ?_)
 rintro ρ wa3 v3 wb3 r he hb rfl
 replace hw:=hw.tr hb
 replace h:=RatMR.past (iv':=(wa3.heap.size,wb3.heap.size)::iv2) h r hS he fun x hx=>List.mem_cons_of_mem _ hx
 replace hX:=hX.past (iv':=(wa3.heap.size,wb3.heap.size)::iv2) r (oldF w) he fun x hx=>List.mem_cons_of_mem _ hx
 clear r he hb
 generalize (wa3.heap.size,wb3.heap.size)::iv2=iv3 at*
 conv=>whnf
 have hvl:(valsM M).length=M.length:=by simp[valsM]
 refine reduceS hX (by omega) (by omega) (Nat.le_refl _) hht h2 hbd fun vp iv2 w2 hb2 hsub hsame hX2 hP=>?_
 replace hw:=hw.tr hb2
 obtain⟨-,-,-,ap,cp,rfl,hcp,-⟩:=hP
 conv=>whnf
 intro ρe we re
 exact⟨_,rfl,hw.tr re.bel,.inr ⟨hne,rfl⟩⟩
end Go.Ex

/- Rows of api fractions in normal form that are held raw, and written. No condition but sizes. -/
namespace Go.Ex
open Go Go.Sx Go.Proofs

theorem Rat4C.len{S:Nat→Prop}{w:World}{cs:List Value}{q:Rat}(h:Rat4C w S cs q):cs.length=4:=by obtain⟨_,_,_,_,_,_,_,_,rfl,_⟩:=h;rfl
def Fc(w:World)(S:Nat→Prop)(css:List (List Value))(qs:List Rat):Prop:=css.length=qs.length∧∀(j:Nat) cs q,css[j]? =some cs→qs[j]? =some q→Rat4C w S cs q
section
variable{S S':Nat→Prop}{w w2:World}{cs:List Value}{css:List (List Value)}{q:Rat}{qs:List Rat}
theorem Fc.keep(h:Fc w S css qs)(hk:∀g,S g→w2.heap[g]? =w.heap[g]?):Fc w2 S css qs:=⟨h.1,fun j cs q h1 h2=>(h.2 j cs q h1 h2).keep hk⟩
theorem Fc.weak(h:Fc w S css qs)(hk:∀g,S g→S' g):Fc w S' css qs:=⟨h.1,fun j cs q h1 h2=>(h.2 j cs q h1 h2).weak hk⟩
theorem Fc.len4(h:Fc w S css qs):∀cs∈css,cs.length=4:=fun cs hc=>by
 obtain⟨j,hj⟩:=List.getElem?_of_mem hc
 have hl:=(List.getElem?_eq_some_iff.1 hj).1
 exact(h.2 j cs _ hj (List.getElem?_eq_getElem (by rw[←h.1];exact hl))).len
theorem Fc.one(h:Fc w S css qs):∀u∈css.flatten,u.oneCell'=true:=fun u hu=>by
 obtain⟨cs,hc,hu⟩:=List.mem_flatten.1 hu
 obtain⟨j,hj⟩:=List.getElem?_of_mem hc
 have hl:=(List.getElem?_eq_some_iff.1 hj).1
 obtain⟨_,_,_,_,_,_,_,_,rfl,_⟩:=h.2 j cs _ hj (List.getElem?_eq_getElem (by rw[←h.1];exact hl))
 simp at hu
 rcases hu with rfl|rfl|rfl|rfl<;>rfl
end
section
variable{C C' S S':Nat→Prop}{H:Hp}{nx:Nat}{iv iv':Iv}{B:Nat}{w w' w2:World}{ρ:Nat→Sx.Val}{v:Value}{qs:List Rat}
end
/-- a row that may be written: its limbs lie in S -/
def RowWc(w:World)(S:Nat→Prop)(v:Value)(n:Nat)(qs:List Rat):Prop:=∃css,w.ownsRow 0 T.Rat 4 v n css.flatten∧css.length=n∧Fc w S css qs
section
variable{S S' C:Nat→Prop}{H:Hp}{nx n:Nat}{iv iv':Iv}{B:Nat}{w w' w2:World}{ρ:Nat→Sx.Val}{v:Value}{qs:List Rat}
/-- a row of a call's own making, which the caller may write: its block is new, its limbs lie elsewhere -/
structure RowXc(w:World)(S:Nat→Prop)(B:Nat)(iv:Iv)(v:Value)(n:Nat)(qs:List Rat):Prop where
 row:RowWc w (fun g=>Cv S B iv g∧v.ownBlock≠some g) v n qs
 new:∀g,v.ownBlock=some g→Cv (fun _=>False) B iv g
end
section
variable{S S':Nat→Prop}{H:Hp}{nx n:Nat}{iv iv':Iv}{B:Nat}{w w' w2:World}{ρ:Nat→Sx.Val}{v:Value}{qs:List Rat}
end
end Go.Ex
namespace Go.Sx
open Go Go.Ex Go.Proofs
/-- an array of one's own, given up at a loop: it is held raw there -/
theorem Sub.give{B:Nat}{l tl:Env}{nx:Nat}{H tH:Hp}{iv:Iv}{w w':World}{ρ:Nat→Sx.Val}{id t n c:Nat}{e:TypeId}{cs:List Value}(r:Rel H nx iv B w ρ w')(hid:getH H id=some (.arr e cs))(ht:getE l t=some (.o (.s id 0 n c)))
  (hs:SubH H tH) (ho:okH id tH=true) (h1:SubE l tl) (h2:ScE nx tl):
  Sub B l nx ρ w' ⟨(t,.o (.v (.slice (some ⟨(ρ id).g,0,none⟩) n c)))::tl,tH,nx,((ρ id).g,(ρ id).g+1)::iv,w'⟩:=by
 refine⟨ρ,r.free hid (by simp) (r.fits hid).1 hs ho,fun u v hv=>?_⟩
 rw[getE_cons]at hv
 split at hv
 ·rename_i e
  subst e
  injection hv with hv
  subst hv
  exact⟨trivial,_,ht,rfl⟩
 ·exact⟨h2.get u v hv,v,h1.get u v hv,rfl⟩
end Go.Sx
namespace Go.Ex
open Go Go.Sx Go.Proofs
end Go.Ex

/- has, Rank and Kernel of the reference. Printed by program. No condition but sizes. -/
namespace Go.Ex
open Go Go.Sx Go.Proofs

/-- a growing list of rows in normal form -/
def RowsC(w:World)(S:Nat→Prop)(rv:List Value)(K:List (List Rat)):Prop:=rv.length=K.length∧(∀u∈rv,u.oneCell'=true)∧∀(i:Nat) u r,rv[i]? =some u→K[i]? =some r→RatsC w S u r
section
variable{S S':Nat→Prop}{H:Hp}{nx:Nat}{iv iv':Iv}{B:Nat}{w w' w2:World}{ρ:Nat→Sx.Val}{rv:List Value}{K:List (List Rat)}
theorem RowsC.keep(h:RowsC w S rv K)(hk:∀g,S g→w2.heap[g]? =w.heap[g]?):RowsC w2 S rv K:=⟨h.1,h.2.1,fun i u x h1 h2=>RatsC.keep (h.2.2 i u x h1 h2) hk⟩
theorem RowsC.weak(h:RowsC w S rv K)(hk:∀g,S g→S' g):RowsC w S' rv K:=⟨h.1,h.2.1,fun i u x h1 h2=>RatsC.weak (h.2.2 i u x h1 h2) hk⟩
theorem RowsC.rel(h:RowsC w (Cv S B iv) rv K)(r:Rel H nx iv B w ρ w')(hS:∀g,S g→g<B):RowsC w' (Cv S B iv) rv K:=h.keep fun _ hg=>Rel.same r hS hg
theorem RowsC.past(h:RowsC w (Cv S B iv) rv K)(r:Rel H nx iv B w ρ w')(hS:∀g,S g→g<B)(he:Ext w' w2)(hm:∀p,p∈iv→p∈iv'):RowsC w2 (Cv S B iv') rv K:=
 ((h.rel r hS).keep fun g hg=>he.block g (Rel.old r hS g hg)).weak fun _ hg=>hg.mono hm
theorem RowsC.push{u:Value}{x:List Rat}(h:RowsC w S rv K)(hu:u.oneCell'=true)(hx:RatsC w S u x):RowsC w S (rv++[u]) (K++[x]):=by
 refine⟨by simp[h.1],fun v hv=>?_,fun i v y h1 h2=>?_⟩
 ·rcases List.mem_append.1 hv with hv|hv
  ·exact h.2.1 v hv
  ·simp at hv;subst hv;exact hu
 ·rcases Nat.lt_or_ge i rv.length with hi|hi
  ·rw[List.getElem?_append_left hi]at h1
   rw[List.getElem?_append_left (by rw[←h.1];exact hi)]at h2
   exact h.2.2 i v y h1 h2
  ·have hi0:i=rv.length:=by have:=(List.getElem?_eq_some_iff.1 h1).1;simp at this;omega
   subst hi0
   rw[List.getElem?_append_right (Nat.le_refl _),Nat.sub_self]at h1
   rw[h.1,List.getElem?_append_right (Nat.le_refl _),Nat.sub_self]at h2
   simp at h1 h2
   subst h1 h2
   exact hx
end
end Go.Ex

/- The pivots of an elimination. Plain. -/
namespace Go.Ex
end Go.Ex

/- ExactRanks of the laws of chapter 1. Printed by program. No condition. -/
namespace Go.Ex
open Go Go.Sx Go.Proofs

theorem SmallM.keep{S:Nat→Prop}{w w2:World}{v:Value}{M:List (List (Int×Int))}(h:SmallM w S v M)(hk:∀g,S g→w2.heap[g]? =w.heap[g]?):SmallM w2 S v M:=⟨h.1,h.2.1,RatML.keep h.2.2.1 hk,h.2.2.2⟩
section
variable{S S':Nat→Prop}{H:Hp}{nx:Nat}{iv iv':Iv}{B:Nat}{w w' w2:World}{ρ:Nat→Sx.Val}{v:Value}{M:List (List (Int×Int))}
end
/-- sizes of a matrix that the laws are told for -/
theorem SmallM.sizes{S:Nat→Prop}{w:World}{v:Value}{M:List (List (Int×Int))}(h:SmallM w S v M)(he:errM M=0):
  (∀r∈M,r.length=colsM M)∧M.length≤5∧colsM M≤5∧Ht (valsM M) 4∧4^(valsM M).length*4≤4096:=by
 obtain⟨h1,h2,h3⟩:=errM_zero he
 have h4:M.length≤5:=by have:=h.1;unfold Sized at this;omega
 refine⟨h1,h4,?_,fun r hr q hq=>?_,?_⟩
 ·cases M with
  |nil=>exact Nat.zero_le _
  |cons r t=>
   have:=h.2.1 r List.mem_cons_self
   have h5:colsM (r::t)=r.length:=rfl
   unfold Sized at this
   omega
 ·have:=h.2.2.2.1 r hr q hq
  omega
 ·have h5:(valsM M).length≤5:=by simp[valsM];exact h4
  exact Nat.le_trans (Nat.mul_le_mul_right 4 (Nat.pow_le_pow_right (by decide) h5)) (by decide)
theorem RankOk_c{S:Nat→Prop}{w:World}{v:Value}{M:List (List (Int×Int))}(hS:Old S w)(h:RatMR w S v M)(hs:SmallM w S v M)(he:errM M=0):Con PG N.exact_Rank #[v] w (Ret w fun v' _=>v'= .tuple #[.int .i64 (reduceF (valsM M) (colsM M)).2.length,.int .i64 0]):=
 (pubRank_c (h0:=4) hS h (fun e=>by obtain⟨_,_,_,h4,h5⟩:=hs.sizes he;exact⟨hs.2.2.2.2,h4,by decide,by omega⟩)).mono fun _ _ ⟨v2,e1,e2,e3⟩=>⟨v2,e1,e2,e3.elim (fun k=>absurd he k.1) fun k=>k.2⟩
end Go.Ex

/- Rows of package exact: same, nought, dot. Printed by program. No condition but sizes. -/
namespace Go.Ex
open Go Go.Sx Go.Proofs

theorem rat_back81(x y:Rat):x-y+y=x:=by rw[Rat.sub_eq_add_neg,Rat.add_assoc,Rat.neg_add_cancel,Rat.add_zero]
theorem sub_zero_iff(p q:Rat):p-q=0↔p=q:=by
 constructor
 ·intro h
  have:=congrArg (· +q) h
  simpa [rat_back81,Rat.zero_add]using this
 ·intro h;rw[h,Rat.sub_self]
theorem rs_eq{p q:Rat}:rs (p-q)=0↔p=q:=by rw[rs_zero,sub_zero_iff]
def fnV(g:Nat):Value:=.func (.func g) #[] #[]
end Go.Ex

/- Rows of package exact: EqualFunc of rows, nought, dot. Printed by program. No condition but sizes. -/
namespace Go.Ex
open Go Go.Sx Go.Proofs

/-- the sum of products so far -/
def dotTo(xs ys:List Rat):Nat→Rat
 |0=>0
 |i+1=>dotTo xs ys i+xs.getD i 0*ys.getD i 0
theorem rl_dotTo{xs ys:List Rat}{h:Nat}(hx:∀q∈xs,rl q+1≤h)(hy:∀q∈ys,rl q+1≤h)(h2:2≤h):∀i:Nat,rl (dotTo xs ys i)≤2*h*i+2
 |0=>by rw[dotTo];exact Nat.le_trans (by decide:rl 0≤2) (by omega)
 |i+1=>by
  have h3:=rl_dotTo hx hy h2 i
  have h4:=rl_add (dotTo xs ys i) (xs.getD i 0*ys.getD i 0)
  have h5:=rl_mul (xs.getD i 0) (ys.getD i 0)
  have h6:=rl_getD hx h2 i
  have h7:=rl_getD hy h2 i
  rw[dotTo,Nat.mul_add]
  omega
end Go.Ex

/- through of package exact: the sums of the rows' multiples. Printed by program. No condition but sizes. -/
namespace Go.Ex
open Go Go.Sx Go.Proofs

end Go.Ex

/- Package exact: a matrix with rows of any lengths, and CheckSolution. Printed by program. No condition but sizes. -/
namespace Go.Ex
open Go Go.Sx Go.Proofs

def RowG(w:World)(S:Nat→Prop)(v:Value)(qs:List Rat):Prop:=RowR w S S v qs
def MatG(w:World)(S:Nat→Prop)(v:Value)(M:List (List Rat)):Prop:=MatR w S v M
theorem RowG.keep{S:Nat→Prop}{w w2:World}{v:Value}{qs:List Rat}(h:RowG w S v qs)(hk:∀g,S g→w2.heap[g]? =w.heap[g]?):RowG w2 S v qs:=RowR.keep h fun g hg=>hk g (hg.elim id id)
theorem RowG.weak{S S':Nat→Prop}{w:World}{v:Value}{qs:List Rat}(h:RowG w S v qs)(hk:∀g,S g→S' g):RowG w S' v qs:=RowR.weak h hk hk
theorem RowG.shape{S:Nat→Prop}{w:World}{v:Value}{qs:List Rat}(h:RowG w S v qs):∃a c,v= .slice a qs.length c:=by
 obtain⟨a,c,h,_⟩:=RowR.shape h
 exact⟨a,c,h⟩
theorem MatG.keep{S:Nat→Prop}{w w2:World}{v:Value}{M:List (List Rat)}(h:MatG w S v M)(hk:∀g,S g→w2.heap[g]? =w.heap[g]?):MatG w2 S v M:=MatR.keep h hk
theorem MatG.weak{S S':Nat→Prop}{w:World}{v:Value}{M:List (List Rat)}(h:MatG w S v M)(hk:∀g,S g→S' g):MatG w S' v M:=MatR.weak h hk
theorem MatG.shape{S:Nat→Prop}{w:World}{v:Value}{M:List (List Rat)}(h:MatG w S v M):∃a c,v= .slice a M.length c:=by
 obtain⟨a,c,h,_⟩:=SlicesR.shape (show MatR w S v M from h)
 exact⟨a,c,h⟩
/-- rows written so far -/
def RowsG(w:World)(S:Nat→Prop)(rv:List Value)(K:List (List Rat)):Prop:=∀(i:Nat) u r,rv[i]? =some u→K[i]? =some r→RowG w S u r
theorem RowsG.keep{S:Nat→Prop}{w w2:World}{v:List Value}{M:List (List Rat)}(h:RowsG w S v M)(hk:∀g,S g→w2.heap[g]? =w.heap[g]?):RowsG w2 S v M:=fun i u x h1 h2=>(h i u x h1 h2).keep hk
theorem RowsG.weak{S S':Nat→Prop}{w:World}{v:List Value}{M:List (List Rat)}(h:RowsG w S v M)(hk:∀g,S g→S' g):RowsG w S' v M:=fun i u x h1 h2=>(h i u x h1 h2).weak hk
section
variable{S S':Nat→Prop}{H:Hp}{nx:Nat}{iv iv':Iv}{B:Nat}{w w' w2:World}{ρ:Nat→Sx.Val}{v:Value}{qs:List Rat}
theorem RowG.rel(h:RowG w (Cv S B iv) v qs)(r:Rel H nx iv B w ρ w')(hS:∀g,S g→g<B):RowG w' (Cv S B iv) v qs:=h.keep fun _ hg=>Rel.same r hS hg
theorem RowG.got(h:RowG w2 (Nw (fun _=>False) w' w2) v qs)(hB:B≤w'.heap.size)(hm:(w'.heap.size,w2.heap.size)∈iv):RowG w2 (Cv S B iv) v qs:=h.weak fun _ hg=>hg.got hB hm
end
section
variable{S S':Nat→Prop}{H:Hp}{nx:Nat}{iv iv':Iv}{B:Nat}{w w' w2:World}{ρ:Nat→Sx.Val}{v:Value}{M:List (List Rat)}
theorem MatG.rel(h:MatG w (Cv S B iv) v M)(r:Rel H nx iv B w ρ w')(hS:∀g,S g→g<B):MatG w' (Cv S B iv) v M:=h.keep fun _ hg=>Rel.same r hS hg
theorem MatG.past(h:MatG w (Cv S B iv) v M)(r:Rel H nx iv B w ρ w')(hS:∀g,S g→g<B)(he:Ext w' w2)(hm:∀p,p∈iv→p∈iv'):MatG w2 (Cv S B iv') v M:=
 ((h.rel r hS).keep fun g hg=>he.block g (Rel.old r hS g hg)).weak fun _ hg=>hg.mono hm
theorem MatG.got(h:MatG w2 (Nw (fun _=>False) w' w2) v M)(hB:B≤w'.heap.size)(hm:(w'.heap.size,w2.heap.size)∈iv):MatG w2 (Cv S B iv) v M:=h.weak fun _ hg=>hg.got hB hm
end
section
variable{S S':Nat→Prop}{H:Hp}{nx:Nat}{iv iv':Iv}{B:Nat}{w w' w2:World}{ρ:Nat→Sx.Val}{v:List Value}{M:List (List Rat)}
theorem RowsG.rel(h:RowsG w (Cv S B iv) v M)(r:Rel H nx iv B w ρ w')(hS:∀g,S g→g<B):RowsG w' (Cv S B iv) v M:=h.keep fun _ hg=>Rel.same r hS hg
theorem RowsG.past(h:RowsG w (Cv S B iv) v M)(r:Rel H nx iv B w ρ w')(hS:∀g,S g→g<B)(he:Ext w' w2)(hm:∀p,p∈iv→p∈iv'):RowsG w2 (Cv S B iv') v M:=
 ((h.rel r hS).keep fun g hg=>he.block g (Rel.old r hS g hg)).weak fun _ hg=>hg.mono hm
end
theorem matrixG_c{S:Nat→Prop}{w:World}{v:Value}{M:List (List (Int×Int))}(hS:Old S w)(h:RatMR w S v M)(hf:∀r∈M,Few r)(hn:∀r∈M,r.length≤1000000)(hR:M.length≤1000000):
  Con PG N.exact_matrix #[v] w (Ret w fun v' w2=>MatG w2 (Nw (fun _=>False) w w2) v' (valsM M)):=by
 replace h:=RatMR.arg h []
 obtain⟨a,c,rfl,hc,-⟩:=SlicesR.shape h
 refine in_exact_matrix (by simp) ?_
 conv=>whnf
 refine⟨M.length,M.length,rfl,rfl,Nat.le_refl _,by omega,by omega,?_⟩
 conv=>whnf
 refine⟨List Value×Iv×World,fun z=>⟨[(3,.o (.s 0 0 M.length M.length)),(9,.o (.v (.slice a M.length c))),(10,.o (.v (.int .i64 M.length))),(11,.o (.v (.int .i64 z.1.length)))],[(0,.arr T.row (z.1++List.replicate (M.length-z.1.length) (.slice none 0 0)))],1,z.2.1,z.2.2⟩,fun z=>M.length-z.1.length,
  fun z=>z.1.length≤M.length∧Bel w.heap.size w z.2.2∧RatMR z.2.2 (Cv S w.heap.size z.2.1) (.slice a M.length c) M∧RowsG z.2.2 (Cv (fun _=>False) w.heap.size z.2.1) z.1 (valsM M)∧∀u∈z.1,u.oneCell'=true,?_,?_⟩
 ·intro ρ w' r
  exact⟨([],[],w'),⟨by simp,r.bel,RatMR.rel h r hS,fun i u r h=>by simp at h,by simp⟩,Sub.gen [] r ⟨rfl,trivial⟩ ⟨rfl,rfl,rfl,rfl,trivial⟩ (by simp[ScH,Blk.scopd]) (by simp[ScE,SV.sc,At.sc]) (by rfl) (by simp)⟩
 clear h
 rintro⟨rv,iv,w1⟩ ⟨hi,hw,hX,hF,h1c⟩
 dsimp only at hi hw hX hF h1c ⊢
 conv=>whnf
 refine BrS.mk (fun h=>?_) (fun h=>?_)
 ·have h:rv.length<M.length:=by simpa using h
  obtain⟨x,hx⟩:∃x,M[rv.length]? =some x:=⟨_,List.getElem?_eq_getElem h⟩
  obtain⟨ad,u,rfl,hR1,hl1,hl2⟩:=SlicesR.load hX hx
  obtain⟨a2,c2,rfl⟩:=SlicesR.rowShape hR1
  have hxl:=hn x (List.mem_of_getElem? hx)
  conv=>whnf
  refine⟨ad,rfl,⟨by omega,by omega⟩,?_⟩
  conv=>whnf
  refine⟨.slice a2 x.length c2,fun ρ w' r=>?_,?_⟩
  ·have:=Rel.same r hS hl1
   rw[Int.toNat_natCast,cell_of_heap (w:=w1) (w2:=w') (by rw[addB];exact this)]
   exact hl2
  conv=>whnf
  refine callE_S (callE_con (Φ:=fun _ w' v w2=>RowX w2 (fun _=>False) w'.heap.size [(w'.heap.size,w2.heap.size)] v x.length (x.map ratioP)) (fun ρ w' r=>values_c (Rel.old r hS) (RatsR.rel hR1 r hS) (hf x (List.mem_of_getElem? hx)) hxl) ?_)
  rintro ρ wa v1 wb r he hb hO
  have hON:RowG wb (Cv (fun _=>False) w.heap.size ((wa.heap.size,wb.heap.size)::iv)) v1 (x.map ratioP):=(RowX.got (S:=fun _=>False) hO r.baseLe List.mem_cons_self).read
  replace hX:=RatMR.past (iv':=(wa.heap.size,wb.heap.size)::iv) hX r hS he fun x hx=>List.mem_cons_of_mem _ hx
  replace hF:=hF.past (iv':=(wa.heap.size,wb.heap.size)::iv) r (oldF w) he fun x hx=>List.mem_cons_of_mem _ hx
  replace hw:=hw.tr hb
  clear r he hb hO hR1 hl1 hl2
  generalize (wa.heap.size,wb.heap.size)::iv=iv2 at*
  obtain⟨a3,c3,rfl⟩:=hON.shape
  rw[List.length_map]at hON ⊢
  conv=>whnf
  refine⟨⟨by omega,by omega⟩,?_⟩
  conv=>whnf
  refine⟨by simp;omega,(rv++[.slice a3 x.length c3])++List.replicate (M.length-(rv.length+1)) (.slice none 0 0),?_,?_⟩
  ·have h5:M.length-rv.length=(M.length-(rv.length+1))+1:=by omega
   simp[h5,List.replicate_succ]
  conv=>whnf
  refine⟨((rv.length+1:Nat):Int),by rw[wrap64]<;>omega,?_⟩
  conv=>whnf
  intro ρ3 w3 r3
  have hl3:(rv++[Value.slice a3 x.length c3]).length=rv.length+1:=by simp
  refine⟨(rv++[.slice a3 x.length c3],iv2,w3),⟨by dsimp only;rw[hl3];exact h,hw.tr r3.bel,RatMR.rel hX r3 hS,?_,?_⟩,Sub.gen [] r3 ⟨by dsimp only;rw[hl3];rfl,trivial⟩ ⟨rfl,rfl,rfl,by dsimp only;rw[hl3];rfl,trivial⟩ (by simp[ScH,Blk.scopd]) (by simp[ScE,SV.sc,At.sc]) (by rfl) (fun lo hi h=>h),by dsimp only;rw[hl3];omega⟩
  ·intro i u y h1 h2
   refine RowG.rel ?_ r3 (oldF w)
   rcases Nat.lt_or_ge i rv.length with hi2|hi2
   ·rw[List.getElem?_append_left hi2]at h1
    exact hF i u y h1 h2
   ·have hi0:i=rv.length:=by have:=(List.getElem?_eq_some_iff.1 h1).1;simp at this;omega
    subst hi0
    rw[List.getElem?_append_right (Nat.le_refl _),Nat.sub_self]at h1
    simp only[valsM,List.getElem?_map,hx]at h2
    simp at h1 h2
    subst h1 h2
    exact hON
  ·intro u hu
   rcases List.mem_append.1 hu with hu|hu
   ·exact h1c u hu
   ·simp at hu;subst hu;rfl
 ·have h:rv.length=M.length:=by
   have:¬rv.length<M.length:=by simpa using h
   omega
  rw[h,Nat.sub_self,List.replicate_zero,List.append_nil]
  conv=>whnf
  intro ρe we re
  refine⟨_,rfl,hw.tr re.bel,?_⟩
  have hnil:=re.nn 0 _ rfl (by intros;simp) (by simp)
  have hlow:=re.low 0 _ rfl hnil
  have hs:=re.arrSeq (id:=0) (t:=T.row) (n:=M.length) (sz:=1) (cs:=rv) rfl (by omega) (by unfold maxLen;omega) h1c
  have hvl:(valsM M).length=M.length:=by simp[valsM]
  refine⟨rv,?_,by rw[hvl,h],fun i u x h1 h2=>((hF.rel re (oldF w)) i u x h1 h2).weak fun g hg=>Cv.nw hg re⟩
  rw[hvl]
  exact hs.weak fun g hg=>.inr (by subst hg;exact hlow)
theorem run_eql_nilslice(w:World)(t e:TypeId)(a:Option Addr)(n c n' c':Nat)(h:PG.underlying t=some (.slice e)):
  (binOp .eql t (.slice a n c) (.slice none n' c')).run PG w= .ok (.bool a.isNone) w:=by
 have:∀d,(Op.equalIn (d+1) t (.slice a n c) (.slice none n' c')).run PG w= .ok a.isNone w:=fun d=>by cases a<;>simp[Op.equalIn,run_underlying h]
 simp only[binOp]
 cases a<;>simp[Op.equal,Op.maxDepth,this 9999]
end Go.Ex

/- A matrix of a call's own making that is held raw, row by row: rows are added to each other, and exchanged. No condition. -/
namespace Go.Ex
open Go Go.Sx Go.Proofs

abbrev vmO(gm R:Nat):Value:=.slice (some ⟨gm,0,none⟩) R R
/-- what lies in S or is new, but not in the matrix -/
def Lm'(S:Nat→Prop)(B:Nat)(iv:Iv)(gm R:Nat)(rv:List Value)(g:Nat):Prop:=Cv S B iv g∧¬Mb (vmO gm R) rv g
structure MatO(w:World)(S:Nat→Prop)(B:Nat)(iv:Iv)(gm R n:Nat)(rv:List Value)(M:List (List Rat)):Prop where
 mat:MatW w (Lm' S B iv gm R rv) (vmO gm R) rv n M
 blk:∀g,Mb (vmO gm R) rv g→Cv (fun _=>False) B iv g
 rows:rv.length=R
section
variable{S S':Nat→Prop}{H:Hp}{nx gm R n:Nat}{iv iv':Iv}{B:Nat}{w w' w2:World}{ρ:Nat→Sx.Val}{rv:List Value}{M:List (List Rat)}
theorem MatO.keep(h:MatO w S B iv gm R n rv M)(hk:∀g,Cv S B iv g→w2.heap[g]? =w.heap[g]?):MatO w2 S B iv gm R n rv M:=
 ⟨h.mat.keep fun g hg=>hk g (hg.elim (fun h=>h.1) fun hg=>cvF (h.blk g hg)),h.blk,h.rows⟩
theorem MatO.rel(h:MatO w S B iv gm R n rv M)(r:Rel H nx iv B w ρ w')(hS:∀g,S g→g<B):MatO w' S B iv gm R n rv M:=h.keep fun _ hg=>Rel.same r hS hg
theorem MatO.mono(h:MatO w S B iv gm R n rv M)(hm:∀p,p∈iv→p∈iv'):MatO w S B iv' gm R n rv M:=
 ⟨h.mat.weak fun _ hg=>⟨hg.1.mono hm,hg.2⟩,fun g hg=>(h.blk g hg).mono hm,h.rows⟩
theorem MatO.past(h:MatO w S B iv gm R n rv M)(r:Rel H nx iv B w ρ w')(hS:∀g,S g→g<B)(he:Ext w' w2)(hm:∀p,p∈iv→p∈iv'):MatO w2 S B iv' gm R n rv M:=
 ((h.rel r hS).keep fun g hg=>he.block g (Rel.old r hS g hg)).mono hm
theorem MatO.out(h:MatO w S B iv gm R n rv M):Cv (fun _=>False) B iv gm:=h.blk gm (.inl rfl)
theorem MatO.len(h:MatO w S B iv gm R n rv M):M.length=R:=h.mat.len.symm.trans h.rows
/-- a cell of the matrix, later -/
theorem MatO.cell(h:MatO w S B iv gm R n rv M)(r:Rel H nx iv B w ρ w'){a:Addr}{x:Value}(hb:Mb (vmO gm R) rv a.block)(hc:w.cell? a=some x):w'.cell? a=some x:=by
 rw[cell_of_heap (Rel.same r (oldF' B) (h.blk _ hb))];exact hc
/-- limbs beside the matrix -/
theorem FracR.beside{S0:Nat→Prop}{v:Value}{q:Rat}(h:FracR w2 (Nw (fun _=>False) w' w2) v q)(hM:MatO w S B iv gm R n rv M)(r:Rel H nx iv B w ρ w'):FracR w2 (Lm' S0 B ((w'.heap.size,w2.heap.size)::iv) gm R rv) v q:=
 h.weak fun g hg=>by
  rcases hg with hg|hg
  ·exact hg.elim
  ·exact⟨.inr ⟨by have:=r.baseLe;omega,_,_,List.mem_cons_self,hg.1,hg.2⟩,fun hm=>by have:=Rel.old r (oldF' B) g (hM.blk g hm);omega⟩
theorem FracR.besideL{S0:Nat→Prop}{v:Value}{q:Rat}(h:FracR w2 (Nw (Lm' S0 B iv gm R rv) w' w2) v q)(hM:MatO w S B iv gm R n rv M)(r:Rel H nx iv B w ρ w'):FracR w2 (Lm' S0 B ((w'.heap.size,w2.heap.size)::iv) gm R rv) v q:=
 h.weak fun g hg=>by
  rcases hg with hg|hg
  ·exact⟨hg.1.mono fun p hp=>List.mem_cons_of_mem _ hp,hg.2⟩
  ·exact⟨.inr ⟨by have:=r.baseLe;omega,_,_,List.mem_cons_self,hg.1,hg.2⟩,fun hm=>by have:=Rel.old r (oldF' B) g (hM.blk g hm);omega⟩
theorem Lm'.old(r:Rel H nx iv B w ρ w')(hS:∀g,S g→g<B):Old (Lm' S B iv gm R rv) w':=fun g hg=>Rel.old r hS g hg.1
theorem FracR.relL{v:Value}{q:Rat}(h:FracR w (Lm' S B iv gm R rv) v q)(r:Rel H nx iv B w ρ w')(hS:∀g,S g→g<B):FracR w' (Lm' S B iv gm R rv) v q:=h.keep fun _ hg=>Rel.same r hS hg.1
theorem FracR.pastL{v:Value}{q:Rat}(h:FracR w (Lm' S B iv gm R rv) v q)(r:Rel H nx iv B w ρ w')(hS:∀g,S g→g<B)(he:Ext w' w2)(hm:∀p,p∈iv→p∈iv'):FracR w2 (Lm' S B iv' gm R rv) v q:=
 ((h.relL r hS).keep fun g hg=>he.block g (Rel.old r hS g hg.1)).weak fun _ hg=>⟨hg.1.mono hm,hg.2⟩
/-- another row, times a number, is added to a row -/
theorem MatO.add_c(hM:MatO w S B iv gm R n rv M)(r:Rel H nx iv B w ρ w')(hS:∀g,S g→g<B){i c:Nat}{vi vc vby:Value}{ri rc:List Rat}{p:Rat}(hn:n≤maxLen)(hic:i≠c)(hvi:rv[i]? =some vi)(hvc:rv[c]? =some vc)(hri:M[i]? =some ri)(hrc:M[c]? =some rc)
  (hby:FracR w (Lm' S B iv gm R rv) vby p) (hq:∀q∈ri,rl q≤2000000000) (hqc:∀q∈rc,rl q≤2000000000) (hb:rl p≤2000000000):
  Con PG N.exact_row_add #[vi,vby,vc] w' (fun e w2=>e= .returned (.tuple #[])∧w'.grownBy w2 vi.ownBlock∧(∀g,vi.ownBlock=some g→Mb (vmO gm R) rv g)∧MatO w2 S B ((w'.heap.size,w2.heap.size)::iv) gm R n rv (M.set i (ri.mapIdx (addR p rc)))):=by
 have hMr:=hM.rel r hS
 obtain⟨css,hr1,hr2,hr3⟩:=hMr.mat.row i _ ri hvi hri
 obtain⟨hR1,hR2⟩:=hMr.mat.rowR hvc hrc hn
 have hmi:∀g,vi.ownBlock=some g→Mb (vmO gm R) rv g:=fun g hg=>.inr ⟨_,List.mem_of_getElem? hvi,hg⟩
 refine(Go.Ex.add_c (C:=fun g=>vc.ownBlock=some g) (fun x hx=>hMr.mat.low x (.inr ⟨_,List.mem_of_getElem? hvc,hx⟩)) (Lm'.old r hS) hr1 hr3 hr2 (hby.relL r hS) hR1 hR2 (fun x hx hx2=>hx2.2 (hmi x hx)) (fun x hx hx2=>hic (hMr.mat.dis i c _ _ x hvi hvc hx hx2)) hq hqc hb).mono fun e w8 he=>?_
 obtain⟨rfl,hgr,css',hr4,hr5,hr6⟩:=he
 have hM3:=hMr.mat.setRow (S':=Nw (Lm' S B iv gm R rv) w' w8) (Lm'.old r hS) (fun x hx hx2=>hx.2 hx2) hvi hgr (fun x hx=>.inl hx) ⟨css',hr4,hr5,hr6⟩
 refine⟨rfl,hgr,hmi,hM3.weak fun g hg=>?_,fun g hg=>(hM.blk g hg).mono fun p hp=>List.mem_cons_of_mem _ hp,hM.rows⟩
 rcases hg with hg|hg
 ·exact⟨hg.1.mono fun p hp=>List.mem_cons_of_mem _ hp,hg.2⟩
 ·exact⟨.inr ⟨by have:=r.baseLe;omega,_,_,List.mem_cons_self,hg.1,hg.2⟩,fun hm=>by have:=Rel.old r (oldF' B) g (hM.blk g hm);omega⟩
/-- what lies beside the matrix is kept by it -/
theorem Lm'.grown(r:Rel H nx iv B w ρ w')(hS:∀g,S g→g<B){row:Option Nat}(hg:w'.grownBy w2 row)(hrow:∀g,row=some g→Mb (vmO gm R) rv g):∀g,Lm' S B iv gm R rv g→w2.heap[g]? =w.heap[g]? :=fun g h=>by
 rw[hg.block g (Rel.old r hS g h.1) fun e=>h.2 (hrow g e.symm),Rel.same r hS h.1]
theorem MatO.base(hM:MatO w S B iv gm R n rv M){g:Nat}(h:Mb (vmO gm R) rv g):B≤g:=(hM.blk g h).elim (fun h=>h.elim) fun h=>h.1
theorem MatO.bel(hM:MatO w S B iv gm R n rv M)(r:Rel H nx iv B w ρ w'){row:Option Nat}(hg:w'.grownBy w2 row)(hrow:∀g,row=some g→Mb (vmO gm R) rv g):Bel B w' w2:=
 Bel.grown hg (fun g e=>hM.base (hrow g e)) r.baseLe
/-- half of an exchange -/
structure HalfO(w:World)(S:Nat→Prop)(B:Nat)(iv:Iv)(gm R n:Nat)(rv:List Value)(M:List (List Rat))(i:Nat)(vb:Value):Prop where
 out:w.ownsRow 0 T.row 1 (vmO gm R) R (rv.set i vb)
 was:∃w0,MatO w0 S B iv gm R n rv M∧∀g,Cv S B iv g→g≠gm→w.heap[g]? =w0.heap[g]?
theorem HalfO.keep{i:Nat}{vb:Value}(h:HalfO w S B iv gm R n rv M i vb)(hk:∀g,Cv S B iv g→w2.heap[g]? =w.heap[g]?):HalfO w2 S B iv gm R n rv M i vb:=by
 obtain⟨w0,h1,h2⟩:=h.was
 exact⟨ownsRow.keep h.out fun g hg=>by injection hg with hg;subst hg;exact hk _ (cvF h1.out),w0,h1,fun g hg hne=>(hk g hg).trans (h2 g hg hne)⟩
theorem MatO.swap1(hM:MatO w S B iv gm R n rv M)(r:Rel H nx iv B w ρ w')(hS:∀g,S g→g<B){i:Nat}{vb:Value}(hi:i<R):
  ((⟨gm,0,none⟩:Addr).add ((i:Int).toNat*1)).spot=none∧(∀k,k<1→(w'.cell? (((⟨gm,0,none⟩:Addr).add ((i:Int).toNat*1)).add k)).isSome=true∧w'.frozen? (((⟨gm,0,none⟩:Addr).add ((i:Int).toNat*1)).add k)=false)∧
  (∀id b,getH H id=some b→(ρ id).nil=false→(ρ id).g≠((⟨gm,0,none⟩:Addr).add ((i:Int).toNat*1)).block)∧
  ∀w4,w4=setCells w' ((⟨gm,0,none⟩:Addr).add ((i:Int).toNat*1)) [vb]→HalfO w4 S B iv gm R n rv M i vb∧w'.grownBy w4 (some gm):=by
 have hMr:=hM.rel r hS
 have had:(⟨gm,0,none⟩:Addr).add ((i:Int).toNat*1)=⟨gm,i*1,none⟩:=by rw[Int.toNat_natCast,addr_add,Nat.zero_add]
 have hrow:w'.ownsRow 0 T.row 1 (vmO gm R) R rv:=by have:=hMr.mat.out;rwa [hM.rows]at this
 obtain⟨g',e,hok,hst,hgr,hsz⟩:=storeRow (nv:=[vb]) hrow rfl (show i<R from hi) rfl (by decide)
 injection e with e
 injection e with e
 subst e
 rw[set_one (by rw[hM.rows];exact hi)]at hst
 rw[had]
 refine⟨rfl,hok,Rel.not r (oldF' B) hM.out,fun w4 hw4=>?_⟩
 rw[hw4]
 exact⟨⟨hst,w',hMr,fun g hg hne=>hgr.block g (Rel.old r hS g hg) fun e=>hne (by injection e)⟩,hgr⟩
theorem HalfO.rel{i:Nat}{vb:Value}(h:HalfO w S B iv gm R n rv M i vb)(r:Rel H nx iv B w ρ w')(hS:∀g,S g→g<B):HalfO w' S B iv gm R n rv M i vb:=h.keep fun _ hg=>Rel.same r hS hg
theorem HalfO.swap2{i j:Nat}{va vb:Value}(hH:HalfO w S B iv gm R n rv M i vb)(r:Rel H nx iv B w ρ w')(hS:∀g,S g→g<B)(hi:rv[i]? =some va)(hj:rv[j]? =some vb):
  ((⟨gm,0,none⟩:Addr).add ((j:Int).toNat*1)).spot=none∧(∀k,k<1→(w'.cell? (((⟨gm,0,none⟩:Addr).add ((j:Int).toNat*1)).add k)).isSome=true∧w'.frozen? (((⟨gm,0,none⟩:Addr).add ((j:Int).toNat*1)).add k)=false)∧
  (∀id b,getH H id=some b→(ρ id).nil=false→(ρ id).g≠((⟨gm,0,none⟩:Addr).add ((j:Int).toNat*1)).block)∧
  ∀w4,w4=setCells w' ((⟨gm,0,none⟩:Addr).add ((j:Int).toNat*1)) [va]→MatO w4 S B iv gm R n ((rv.set i vb).set j va) (swapL [] M i j)∧(∀g,Mb (vmO gm R) ((rv.set i vb).set j va) g↔Mb (vmO gm R) rv g)∧w'.grownBy w4 (some gm):=by
 have hHr:=hH.rel r hS
 obtain⟨w0,hM,hwas⟩:=hHr.was
 have had:(⟨gm,0,none⟩:Addr).add ((j:Int).toNat*1)=⟨gm,j*1,none⟩:=by rw[Int.toNat_natCast,addr_add,Nat.zero_add]
 have hjR:j<R:=by rw[←hM.rows];exact(List.getElem?_eq_some_iff.1 hj).1
 obtain⟨g',e,hok,hst,hgr,hsz⟩:=storeRow (nv:=[va]) hHr.out rfl hjR rfl (by decide)
 injection e with e
 injection e with e
 subst e
 rw[set_one (by rw[List.length_set,hM.rows];exact hjR)]at hst
 rw[had]
 refine⟨rfl,hok,Rel.not r (oldF' B) hM.out,fun w4 hw4=>?_⟩
 rw[hw4]
 have hmb:∀g,Mb (vmO gm R) ((rv.set i vb).set j va) g↔Mb (vmO gm R) rv g:=fun g=>Mb.swap hi hj
 have hst2:(setCells w' ⟨gm,j*1,none⟩ [va]).ownsRow 0 T.row 1 (vmO gm R) rv.length ((rv.set i vb).set j va):=by rw[hM.rows];exact hst
 have hsw:=hM.mat.swap (w2:=setCells w' ⟨gm,j*1,none⟩ [va]) (fun g hg hm=>hg.2 hm) hi hj hst2 fun g hg hne=>by
  have hne:g≠gm:=fun e=>hne (by rw[e];rfl)
  have hgc:Cv S B iv g:=hg.elim (fun h=>h.1) fun h=>cvF (hM.blk g h)
  rw[hgr.block g (Rel.old r hS g hgc) (fun e=>hne (by injection e)),hwas g hgc hne]
 have hiff:∀g,Lm' S B iv gm R ((rv.set i vb).set j va) g↔Lm' S B iv gm R rv g:=fun g=>and_congr_right fun _=>not_congr (hmb g)
 exact⟨⟨hsw.weak fun g hg=>(hiff g).2 hg,fun g hg=>hM.blk g ((hmb g).1 hg),by simp[hM.rows]⟩,hmb,hgr⟩
/-- rows in an array of one's own that is given up -/
theorem RowsX.give(h:RowsX w S B iv rv n M)(r:Rel H nx iv B w ρ w')(hS:∀g,S g→g<B){id:Nat}(hH:getH H id=some (.arr T.row rv))(hnil:(ρ id).nil=false)(hR:rv.length≤maxLen)(h1:∀u∈rv,u.oneCell'=true):
  MatO w' S B (((ρ id).g,(ρ id).g+1)::iv) (ρ id).g rv.length n rv M:=by
 have hm:=h.mat r hS hH hnil hR h1
 refine⟨hm.weak fun g hg=>⟨hg.1.mono fun p hp=>List.mem_cons_of_mem _ hp,hg.2⟩,fun g hg=>?_,rfl⟩
 rcases hg with hg|⟨u,hu,hg⟩
 ·injection hg with hg
  subst hg
  exact .inr ⟨(r.low id _ hH hnil).1,_,_,List.mem_cons_self,Nat.le_refl _,Nat.lt_succ_self _⟩
 ·exact(h.new u hu g hg).mono fun p hp=>List.mem_cons_of_mem _ hp
end
end Go.Ex

/- Determinants of package exact: det. Printed by program. No condition but sizes. -/
namespace Go.Ex
open Go Go.Sx Go.Proofs

theorem RowR.take{C S:Nat→Prop}{w:World}{a:Option Addr}{m n c:Nat}{qs:List Rat}(h:RowR w C S (.slice a m c) qs)(hn:n≤m):RowR w C S (.slice a n c) (qs.take n):=by
 obtain⟨css,⟨h0,h1,h2,a',c',e,h3,h4⟩,hf⟩:=h
 injection e with e1 e2 e3
 subst e1 e2 e3
 have hl:(css.take n).length=(qs.take n).length:=by rw[List.length_take,List.length_take,hf.1]
 have hq:(qs.take n).length=n:=by rw[List.length_take];omega
 have hpre:∀(j:Nat) u,(css.take n).flatten[j]? =some u→css.flatten[j]? =some u:=fun j u hu=>by
  have:css.flatten=(css.take n).flatten++(css.drop n).flatten:=by rw[←List.flatten_append,List.take_append_drop]
  rw[this,List.getElem?_append_left (List.getElem?_eq_some_iff.1 hu).1]
  exact hu
 refine⟨css.take n,⟨by rw[hq];omega,?_,fun u hu=>h2 u ?_,a,c,by rw[hq],by rw[hq];omega,fun j u hu=>h4 j u (hpre j u hu)⟩,hl,fun j cs q k1 k2=>hf.2 j cs q ?_ ?_⟩
 ·rw[flat_len fun cs hc=>hf.len4 cs (List.mem_of_mem_take hc),hl]
 ·obtain⟨j,hj⟩:=List.getElem?_of_mem hu
  exact List.mem_of_getElem? (hpre j u hj)
 ·rw[List.getElem?_take]at k1;split at k1;exact k1;cases k1
 ·rw[List.getElem?_take]at k2;split at k2;exact k2;cases k2
theorem swap_len{M:List (List Rat)}{n i j:Nat}(hl:Len n M)(hi:i<M.length)(hj:j<M.length):Len n (swapL [] M i j):=fun r hr=>by
 unfold swapL at hr
 rcases List.mem_or_eq_of_mem_set hr with h1|h1
 ·rcases List.mem_or_eq_of_mem_set h1 with h2|h2
  ·exact hl r h2
  ·rw[h2];exact hl _ (getD_mem hj)
 ·rw[h1];exact hl _ (getD_mem hi)
theorem pref_take{M:List (List Rat)}{n k:Nat}{r:List Rat}(h:M[k]? =some r)(hk:k<n):(tk n (M.take n)).take (k+1)=(tk n (M.take n)).take k++[r.take n]:=by
 rw[List.take_add_one,tk,List.getElem?_map,List.getElem?_take,if_pos hk,h];rfl
theorem MatO.elemR{w:World}{S:Nat→Prop}{B:Nat}{iv:Iv}{gm R n k c:Nat}{rv:List Value}{M:List (List Rat)}(h:MatO w S B iv gm R n rv M)(hk:k<R)(hc:c<n):
  ∃g ck q d1 e1 m1 k1 d2 e2 m2 k2,ElemW w (Lm' S B iv gm R rv) rv n M gm k c g ck q d1 e1 m1 k1 d2 e2 m2 k2∧Mb (vmO gm R) rv g:=by
 obtain⟨gm',g,ck,q,d1,e1,m1,k1,d2,e2,m2,k2,e,hE⟩:=h.mat.elem (k:=k) (c:=c) (by rw[h.rows];exact hk) hc
 injection e with e
 injection e with e
 subst e
 exact⟨g,ck,q,d1,e1,m1,k1,d2,e2,m2,k2,hE,.inr ⟨_,List.mem_of_getElem? hE.rv,rfl⟩⟩
theorem det_c{S:Nat→Prop}{w:World}{vm:Value}{M:List (List Rat)}{n R h:Nat}(hS0:Old S w)(hM0:MatR w S vm M)(hrow:∀r∈M,r.length=R)(hnR:n≤R)(hnM:n≤M.length)(hR:R≤1000)(hht:Ht M h)(h2:2≤h)(hbd:4^n*h≤500000000):
  Con PG N.exact_det #[vm,.int .i64 n] w (Ret w fun v' w2=>FracR w2 (Nw (fun _=>False) w w2) v' (subD M 0 n)):=by
 have hS:=hS0
 have hw:Bel w.heap.size w w:=Bel.refl
 obtain⟨am,cm,rfl,hcm,hmm⟩:=SlicesR.shape hM0
 unfold maxLen at hmm
 refine in_exact_det (by simp) ?_
 conv=>whnf
 refine⟨n,n,rfl,rfl,Nat.le_refl _,by omega,by omega,?_⟩
 conv=>whnf
 refine⟨List Value×World×Iv,fun z=>⟨[(0,.o (.v (.slice am M.length cm))),(1,.o (.v (.int .i64 n))),(4,.o (.p 0 0)),(5,.o (.s 1 0 n n)),(14,.o (.v (.int .i64 n))),(15,.o (.v (.int .i64 (z.1.length:Nat))))],[(1,.arr T.row (z.1++List.replicate (n-z.1.length) (.slice none 0 0))),(0,.box T.fraction [.v (.bool false),.v (.slice none 0 0),.v (.bool false),.v (.slice none 0 0)])],2,z.2.2,z.2.1⟩,fun z=>n-z.1.length,
  fun z=>z.1.length≤n∧Bel w.heap.size w z.2.1∧RowsX z.2.1 S w.heap.size z.2.2 z.1 n ((tk n (M.take n)).take z.1.length)∧(∀u∈z.1,u.oneCell'=true),?_,?_⟩
 ·intro ρ w' r
  exact⟨([],w',[]),⟨Nat.zero_le _,hw.tr r.bel,by simpa using RowsX.nil _ _ _ _ _,by simp⟩,Sub.gen [] r ⟨rfl,rfl,trivial⟩ ⟨rfl,rfl,rfl,rfl,rfl,rfl,trivial⟩ (by simp[ScH,Blk.scopd,At.sc]) (by simp[ScE,SV.sc,At.sc]) (by rfl) (fun lo hi h=>h)⟩
 clear hw
 rintro⟨rv,w1,iv⟩ ⟨hi,hw,hF,h1c⟩
 dsimp only at hi hw hF h1c ⊢
 conv=>whnf
 refine BrS.mk (fun hib=>?_) (fun hib=>?_)
 ·have hib:rv.length<n:=by simpa using hib
  obtain⟨ra,hra⟩:∃r,M[rv.length]? =some r:=⟨_,List.getElem?_eq_getElem (by omega)⟩
  have hral:=hrow ra (List.mem_of_getElem? hra)
  obtain⟨adx,ux,rfl,hFx,hx1,hx2⟩:=SlicesR.load hM0 hra
  obtain⟨aux,cux,rfl,hcux,-⟩:=hFx.shape
  conv=>whnf
  refine⟨adx,rfl,⟨by omega,by omega⟩,?_⟩
  conv=>whnf
  refine⟨.slice aux ra.length cux,fun ρ w' r=>?_,?_⟩
  ·rw[Int.toNat_natCast,cell_of_heap (w:=w) (w2:=w') (by rw[addB];exact(hw.tr r.bel).block _ (hS _ hx1))]
   exact hx2
  conv=>whnf
  have hpre:=RowR.take (n:=n) (hFx.from (k:=0) (by omega)) (by omega)
  refine⟨⟨by omega,by omega,by omega⟩,(if (cux:Int)=((0:Nat):Int)then aux else aux.map (·.add (0*4))),n,cux-0,rfl,by omega,by omega,?_⟩
  rw[List.drop_zero]at hpre
  generalize (if (cux:Int)=((0:Nat):Int)then aux else aux.map (·.add (0*4)))=adp at*
  generalize cux-0=cdp at*
  have hprl:(ra.take n).length=n:=by rw[List.length_take];omega
  conv=>whnf
  refine callE_S (callE_con (Φ:=fun _ w' v w2=>RowW w2 S v n (ra.take n)∧∀g,v.ownBlock=some g→w'.heap.size≤g∧g<w2.heap.size) (fun ρ w' r=>?_) ?_)
  ·have:=cloneR_c (w:=w') (fun g hg=>by have:=hS g hg;have:=r.baseLe;omega) (fun g hg=>by have:=hS g hg;have:=r.baseLe;omega) (hpre.keep fun g hg=>(hw.tr r.bel).block g (hS g (hg.elim id id))) (by omega) (by omega)
   rw[hprl]at this
   exact this
  rintro ρ wa1 v1 wb1 r he hb ⟨hn1,hn2⟩
  have hF2:=hF.snoc r hS he (hn1.weak fun g hg=>⟨.inl hg,fun e=>by have:=hS g hg;have:=hn2 g e;have:=r.baseLe;omega,fun⟨u,hu,e⟩=>(hF.new u hu g e).elim (fun h=>h.elim) fun h=>by have:=hS g hg;omega⟩) hn2
  rw[←pref_take hra hib]at hF2
  replace hw:=hw.tr hb
  obtain⟨a3,c3,rfl,-⟩:=hn1.form
  clear r he hb hn1 hn2 hF
  generalize (wa1.heap.size,wb1.heap.size)::iv=iv1 at*
  conv=>whnf
  refine⟨⟨by omega,by omega⟩,?_⟩
  conv=>whnf
  refine⟨by simp;omega,(rv++[.slice a3 n c3])++List.replicate (n-(rv.length+1)) (.slice none 0 0),?_,?_⟩
  ·have h5:n-rv.length=(n-(rv.length+1))+1:=by omega
   simp[h5,List.replicate_succ]
  conv=>whnf
  refine⟨((rv.length+1:Nat):Int),by rw[wrap64]<;>omega,?_⟩
  conv=>whnf
  intro ρ3 w3 r3
  have hl3:(rv++[Value.slice a3 n c3]).length=rv.length+1:=by simp
  refine⟨(rv++[.slice a3 n c3],w3,iv1),⟨by dsimp only;rw[hl3];exact hib,hw.tr r3.bel,by dsimp only;rw[hl3];exact hF2.rel r3 hS,fun u hu=>?_⟩,Sub.gen [] r3 ⟨by dsimp only;rw[hl3];rfl,rfl,trivial⟩ ⟨rfl,rfl,rfl,rfl,rfl,by dsimp only;rw[hl3];rfl,trivial⟩ (by simp[ScH,Blk.scopd,At.sc]) (by simp[ScE,SV.sc,At.sc]) (by rfl) (fun lo hi h=>h),by dsimp only;rw[hl3];omega⟩
  rcases List.mem_append.1 hu with hu|hu
  ·exact h1c u hu
  ·simp at hu;subst hu;rfl
 have hib:rv.length=n:=Nat.le_antisymm hi (by simpa using hib)
 rw[hib,List.take_of_length_le (by rw[tk_length,List.length_take];exact Nat.min_le_left ..)]at hF
 rw[hib,Nat.sub_self,List.replicate_zero,List.append_nil]
 conv=>whnf
 refine callE_S (callE_con (Φ:=fun _ w' v w2=>FracR w2 (Nw (fun _=>False) w' w2) v ((1:Int):Rat)) (fun ρ w' r=>whole_c 1 w' (by decide) (by decide)) ?_)
 rintro ρ wa1 v1 wb1 r he hb hn
 replace hw:=hw.tr hb
 have hO:=hn.lim (rv:=rv) r fun u hu g hg=>hF.new u hu g hg
 replace hF:RowsX wb1 S w.heap.size ((wa1.heap.size,wb1.heap.size)::iv) rv n (tk n (M.take n)):=hF.past r hS he fun x hx=>List.mem_cons_of_mem _ hx
 clear r he hb hn
 generalize (wa1.heap.size,wb1.heap.size)::iv=iv1 at*
 obtain⟨s1_0,s1_1,s1_2,s1_3,s1_4,s1_5,s1_6,s1_7,rfl⟩:=hO.shape
 rw[show ((1:Int):Rat)=1 by decide]at hO
 conv=>whnf
 have hDlen:Len n (tk n (M.take n)):=fun r hr=>by
  obtain⟨x,hx,rfl⟩:=List.mem_map.1 hr
  rw[List.length_take,hrow x (List.mem_of_mem_take hx)];omega
 have hDht:Ht (tk n (M.take n)) h:=fun r hr q hq=>by
  obtain⟨x,hx,rfl⟩:=List.mem_map.1 hr
  exact hht x (List.mem_of_mem_take hx) q (List.mem_of_mem_take hq)
 refine⟨Nat×(Nat×List Value×List (List Rat)×Rat)×((Bool×Bool)×(Option Addr×Option Addr)×(Nat×Nat×Nat×Nat))×World×Iv,fun z=>⟨[(5,.o (.v (.slice (some ⟨z.2.1.1,0,none⟩) n n))),(1,.o (.v (.int .i64 n))),(4,.o (.p 0 0)),(7,.o (.p 2 0)),(30,.o (.v (.int .i64 n))),(31,.o (.v (.int .i64 ((z.1:Nat):Int))))],[(2,.box T.fraction [.v (.bool z.2.2.1.1.1),.v (.slice z.2.2.1.2.1.1 z.2.2.1.2.2.1 z.2.2.1.2.2.2.1),.v (.bool z.2.2.1.1.2),.v (.slice z.2.2.1.2.1.2 z.2.2.1.2.2.2.2.1 z.2.2.1.2.2.2.2.2)]),(0,.box T.fraction [.v (.bool false),.v (.slice none 0 0),.v (.bool false),.v (.slice none 0 0)])],3,z.2.2.2.2,z.2.2.2.1⟩,fun z=>n-z.1,
  fun z=>z.1≤n∧Bel w.heap.size w z.2.2.2.1∧MatO z.2.2.2.1 S w.heap.size z.2.2.2.2 z.2.1.1 n n z.2.1.2.1 z.2.1.2.2.1∧FracR z.2.2.2.1 (Lm' (fun _=>False) w.heap.size z.2.2.2.2 z.2.1.1 n z.2.1.2.1) (.agg #[.bool z.2.2.1.1.1,.slice z.2.2.1.2.1.1 z.2.2.1.2.2.1 z.2.2.1.2.2.2.1,.bool z.2.2.1.1.2,.slice z.2.2.1.2.1.2 z.2.2.1.2.2.2.2.1 z.2.2.1.2.2.2.2.2]) z.2.1.2.2.2∧Len n z.2.1.2.2.1∧Ht z.2.1.2.2.1 (4^z.1*h)∧rl z.2.1.2.2.2≤4^z.1*h∧z.2.1.2.2.2*subD z.2.1.2.2.1 z.1 n=subD M 0 n,?_,?_⟩
 ·intro ρ w' r
  have hnil:=r.nn 1 _ rfl (by intros;simp) (by simp)
  have hG:=hF.give r hS (id:=1) rfl hnil (by unfold maxLen;omega) h1c
  rw[hib]at hG
  refine⟨(0,((ρ 1).g,rv,tk n (M.take n),1),((s1_0,s1_4),(s1_1,s1_5),(s1_2,s1_3,s1_6,s1_7)),w',((ρ 1).g,(ρ 1).g+1)::iv1),⟨Nat.zero_le _,hw.tr r.bel,hG,(hO.keep fun g hg=>Rel.same r (oldF w) hg.1).weak fun g hg=>⟨hg.1.mono fun p hp=>List.mem_cons_of_mem _ hp,fun hm=>?_⟩,hDlen,by rw[Nat.pow_zero,Nat.one_mul];exact hDht,by rw[rl_one,Nat.pow_zero];omega,by rw[subD_prefix,Rat.one_mul]⟩,Sub.give r (id:=1) (t:=5) rfl rfl ⟨rfl,rfl,trivial⟩ rfl ⟨rfl,rfl,rfl,rfl,rfl,trivial⟩ (by simp[ScE,SV.sc,At.sc])⟩
  rcases hm with hm|⟨u,hu,hm⟩
  ·injection hm with hm
   exact Rel.not r (oldF w) hg.1 1 _ rfl hnil hm
  ·exact hg.2 ⟨u,hu,hm⟩
 clear hw hF hO hDlen hDht hib hi h1c
 rintro⟨c,⟨gm,rv1,M1,q0⟩,⟨⟨p0,p4⟩,⟨p1,p5⟩,⟨p2,p3,p6,p7⟩⟩,w1,iv⟩ ⟨hc,hw,hM,hO,hlen,hht1,hql,hD⟩
 dsimp only at hc hw hM hO hlen hht1 hql hD ⊢
 conv=>whnf
 refine BrS.mk (fun hcb=>?_) (fun hcb=>?_)
 ·have hcb:c<n:=by simpa using hcb
  have hHb:4^(c+1)*h≤500000000:=Nat.le_trans (Nat.mul_le_mul_right _ (Nat.pow_le_pow_right (by decide) hcb)) hbd
  have hpow:4^(c+1)*h=4*(4^c*h):=by rw[Nat.pow_succ,Nat.mul_comm (4^c) 4,Nat.mul_assoc]
  have hH2:2≤4^c*h:=Nat.le_trans h2 (Nat.le_mul_of_pos_left _ (Nat.pow_pos (by decide)))
  rw[hpow]at hHb
  obtain⟨hh,hhe⟩:∃x,x=4^c*h:=⟨_,rfl⟩
  rw[←hhe]at hht1 hql hH2 hHb hpow
  have hM1l:=hM.len
  conv=>whnf
  refine⟨Nat×World×Iv,fun z=>⟨[(5,.o (.v (.slice (some ⟨gm,0,none⟩) n n))),(1,.o (.v (.int .i64 n))),(4,.o (.p 0 0)),(7,.o (.p 2 0)),(30,.o (.v (.int .i64 n))),(31,.o (.v (.int .i64 ((c:Nat):Int)))),(8,.o (.v (.int .i64 ((c:Nat):Int)))),(9,.o (.v (.int .i64 ((z.1:Nat):Int))))],[(2,.box T.fraction [.v (.bool p0),.v (.slice p1 p2 p3),.v (.bool p4),.v (.slice p5 p6 p7)]),(0,.box T.fraction [.v (.bool false),.v (.slice none 0 0),.v (.bool false),.v (.slice none 0 0)])],3,z.2.2,z.2.1⟩,fun z=>n-z.1,
   fun z=>c≤z.1∧z.1≤n∧Bel w.heap.size w z.2.1∧MatO z.2.1 S w.heap.size z.2.2 gm n n rv1 M1∧FracR z.2.1 (Lm' (fun _=>False) w.heap.size z.2.2 gm n rv1) (.agg #[.bool p0,.slice p1 p2 p3,.bool p4,.slice p5 p6 p7]) q0∧∀j,c≤j→j<z.1→at2 M1 j c=0,?_,?_⟩
  ·intro ρ w' r
   exact⟨(c,w',iv),⟨Nat.le_refl _,Nat.le_of_lt hcb,hw.tr r.bel,hM.rel r hS,hO.relL r (oldF w),fun j h1 h2=>by dsimp only at h2;omega⟩,Sub.gen [] r ⟨rfl,rfl,trivial⟩ ⟨rfl,rfl,rfl,rfl,rfl,rfl,rfl,rfl,trivial⟩ (by simp[ScH,Blk.scopd,At.sc]) (by simp[ScE,SV.sc,At.sc]) (by rfl) (fun lo hi h=>h)⟩
  clear hw hM hO
  rintro⟨k,w2,iv⟩ ⟨hck,hk,hw,hM,hO,hz⟩
  dsimp only at hck hk hw hM hO hz ⊢
  conv=>whnf
  refine BrS.mk (fun hkb=>?_) (fun hkb=>?_)
  ·have hkb:k<n:=by simpa using hkb
   obtain⟨gk,cd,qd,d1,d2,d3,d4,d5,d6,d7,d8,hEd,hgd⟩:=hM.elemR (k:=k) (c:=c) (by omega) (by omega)
   conv=>whnf
   refine⟨⟨gm,0,none⟩,rfl,⟨by omega,by omega⟩,?_⟩
   conv=>whnf
   refine⟨_,fun ρ w' r=>hM.cell r (.inl (by rw[addB];rfl)) hEd.outer,?_⟩
   conv=>whnf
   refine⟨⟨gk,0,none⟩,rfl,⟨by omega,by omega⟩,?_⟩
   conv=>whnf
   refine⟨[.bool d1,.slice d2 d3 d4,.bool d5,.slice d6 d7 d8],rfl,fun ρ w' r j x hx=>hM.cell r (by rw[addB,addB];exact hgd) (hEd.cells j x hx),?_⟩
   conv=>whnf
   have hqd:=hEd.at_
   refine callE_S (callE_con (Φ:=fun _ w' v w2=>v= .int .i64 (rs qd)) (fun ρ w' r=>fsign_c (Lm'.old r hS) (hEd.frac.relL r hS)) ?_)
   rintro ρ wa11 v11 wb11 r he hb rfl
   replace hw:=hw.tr hb
   replace hM:=MatO.past (iv':=(wa11.heap.size,wb11.heap.size)::iv) hM r hS he fun x hx=>List.mem_cons_of_mem _ hx
   replace hO:=FracR.pastL (iv':=(wa11.heap.size,wb11.heap.size)::iv) hO r (oldF w) he fun x hx=>List.mem_cons_of_mem _ hx
   clear r he hb
   generalize (wa11.heap.size,wb11.heap.size)::iv=iv11 at*
   clear hEd hgd
   conv=>whnf
   refine BrS.mk (fun hs=>?_) (fun hs=>?_)
   ·have hs:qd=0:=rs_zero.1 (by simpa using hs)
    conv=>whnf
    refine⟨((k+1:Nat):Int),by rw[wrap64]<;>omega,?_⟩
    conv=>whnf
    intro ρ3 w3 r3
    refine⟨(k+1,w3,_),⟨by dsimp only;omega,hkb,hw.tr r3.bel,hM.rel r3 hS,hO.relL r3 (oldF w),fun j h1 h2=>?_⟩,Sub.gen [] r3 ⟨rfl,rfl,trivial⟩ ⟨rfl,rfl,rfl,rfl,rfl,rfl,rfl,rfl,trivial⟩ (by simp[ScH,Blk.scopd,At.sc]) (by simp[ScE,SV.sc,At.sc]) (by rfl) (fun lo hi h=>h),by dsimp only;omega⟩
    rcases Nat.lt_or_ge j k with h3|h3
    ·exact hz j h1 h3
    ·rw[show j=k by dsimp only at h2;omega,hqd,hs]
   have hs:qd≠0:=fun e=>by rw[rs_zero.2 e]at hs;simp at hs
   rw[←hqd]at hs
   clear hqd hz
   conv=>whnf
   refine BrS.mk (fun hkn=>absurd (eq_of_beq hkn) (by omega)) (fun _=>?_)
   conv=>whnf
   refine BrS.mk (fun hkc=>?_) (fun hkc=>?_)
   ·have hkc:k≠c:=fun e=>by rw[e]at hkc;simp at hkc
    obtain⟨gk,cd,qd,d1,d2,d3,d4,d5,d6,d7,d8,hEd,hgd⟩:=hM.elemR (k:=k) (c:=c) (by omega) (by omega)
    obtain⟨gc,ce,qe,e1,e2,e3,e4,e5,e6,e7,e8,hEe,hge⟩:=hM.elemR (k:=c) (c:=c) (by omega) (by omega)
    have hvk:=hEd.rv
    have hvc:=hEe.rv
    have hgB:w.heap.size≤gm:=hM.base (.inl rfl)
    have hMbg:∀g,some gm=some g→Mb (vmO gm n) rv1 g:=fun g e=>by injection e with e;subst e;exact .inl rfl
    conv=>whnf
    refine drawn_of_pi hτ hmix [.x 0,.x 1,.x 2,.x 3,.x 4,.x 5,.x 6,.x 7,.x 8,.x 9,.x 10,.x 11,.x 12,.x 13,.x 14,.x 15] (by kernel_rfl) (by kernel_rfl) ?_
    conv=>whnf
    refine⟨⟨gm,0,none⟩,rfl,⟨by omega,by omega⟩,?_⟩
    conv=>whnf
    refine⟨_,fun ρ w' r=>hM.cell r (.inl (by rw[addB];rfl)) hEd.outer,?_⟩
    conv=>whnf
    refine⟨⟨gm,0,none⟩,rfl,⟨by omega,by omega⟩,?_⟩
    conv=>whnf
    refine⟨_,fun ρ w' r=>hM.cell r (.inl (by rw[addB];rfl)) hEe.outer,?_⟩
    conv=>whnf
    refine⟨⟨gm,0,none⟩,rfl,⟨by omega,by omega⟩,?_⟩
    conv=>whnf
    intro ρ w' r
    obtain⟨x1,x2,x3,x4⟩:=hM.swap1 r hS (i:=c) (vb:=.slice (some ⟨gk,0,none⟩) n cd) hcb
    replace hw:=hw.tr r.bel
    refine⟨x1,x2,x3,fun w4 hw4=>?_⟩
    obtain⟨hH,hgr⟩:=x4 w4 hw4
    replace hO:=hO.keep (Lm'.grown r (oldF w) hgr hMbg)
    replace hw:=hw.tr (Bel.grown hgr (fun g e=>by injection e with e;subst e;exact hgB) r.baseLe)
    clear r hM x1 x2 x3 x4 hw4 hgr hEd hEe hgd hge
    conv=>whnf
    refine⟨⟨gm,0,none⟩,rfl,⟨by omega,by omega⟩,?_⟩
    conv=>whnf
    intro ρ w' r
    obtain⟨x1,x2,x3,x4⟩:=hH.swap2 r hS hvc hvk
    replace hw:=hw.tr r.bel
    refine⟨x1,x2,x3,fun w6 hw6=>?_⟩
    obtain⟨hM,hiff,hgr⟩:=x4 w6 hw6
    replace hO:=(hO.keep (Lm'.grown r (oldF w) hgr hMbg)).weak (S':=Lm' (fun _=>False) w.heap.size iv11 gm n ((rv1.set c (.slice (some ⟨gk,0,none⟩) n cd)).set k (.slice (some ⟨gc,0,none⟩) n ce))) fun g hg=>⟨hg.1,fun hm=>hg.2 ((hiff g).1 hm)⟩
    replace hw:=hw.tr (Bel.grown hgr (fun g e=>by injection e with e;subst e;exact hgB) r.baseLe)
    have h0:at2 (swapL [] M1 c k) c c≠0:=by rw[at2_swap (by omega) (by omega)];exact hs
    replace hht1:=hht1.swap (i:=c) (j:=k) (by omega) (by omega)
    have hD2: -q0*subD (swapL [] M1 c k) c n=subD M 0 n:=by
     rw[subD_swap (Nat.lt_of_le_of_ne hck (Ne.symm hkc)) hkb (by omega),←hD];grind
    have hlen2:Len n (swapL [] M1 c k):=swap_len hlen (by omega) (by omega)
    have hM2l:=hM.len
    clear r hH x1 x2 x3 x4 hw6 hgr hiff hvk hvc hs hMbg hD hlen hM1l
    generalize (rv1.set c (Value.slice (some ⟨gk,0,none⟩) n cd)).set k (Value.slice (some ⟨gc,0,none⟩) n ce)=rv2 at*
    generalize swapL [] M1 c k=M2 at*
    conv=>whnf
    refine callE_S (callE_con (Φ:=fun _ w' v w2=>FracR w2 (Nw (Lm' (fun _=>False) w.heap.size iv11 gm n rv2) w' w2) v (-q0)) (fun ρ w' r=>fminus_c (Lm'.old r (oldF w)) (hO.relL r (oldF w))) ?_)
    rintro ρ wa21 v21 wb21 r he hb hn
    replace hw:=hw.tr hb
    have hO2:=hn.besideL hM r
    replace hM:=MatO.past (iv':=(wa21.heap.size,wb21.heap.size)::iv11) hM r hS he fun x hx=>List.mem_cons_of_mem _ hx
    clear r he hb hn
    generalize (wa21.heap.size,wb21.heap.size)::iv11=iv21 at*
    clear hO
    have hql2:rl (-q0)≤hh:=by rw[rl_neg];exact hql
    obtain⟨s21_0,s21_1,s21_2,s21_3,s21_4,s21_5,s21_6,s21_7,rfl⟩:=hO2.shape
    conv=>whnf
    obtain⟨gf,cf,qf,f1,f2,f3,f4,f5,f6,f7,f8,hEf,hgf⟩:=hM.elemR (k:=c) (c:=c) (by omega) (by omega)
    have hqf:qf=at2 M2 c c:=hEf.at_.symm
    have hlf:=at2_ht' hht1 hH2 c c
    rw[←hqf]at hlf h0
    have hlm:=rl_mul (-q0) qf
    conv=>whnf
    refine drawn_of_pi hτ hmix [.x 0,.x 1,.x 2,.x 3,.x 4,.x 5,.x 6,.x 7,.x 8,.x 9] (by kernel_rfl) (by kernel_rfl) ?_
    conv=>whnf
    refine⟨⟨gm,0,none⟩,rfl,⟨by omega,by omega⟩,?_⟩
    conv=>whnf
    refine⟨_,fun ρ w' r=>hM.cell r (.inl (by rw[addB];rfl)) hEf.outer,?_⟩
    conv=>whnf
    refine⟨⟨gf,0,none⟩,rfl,⟨by omega,by omega⟩,?_⟩
    conv=>whnf
    refine⟨[.bool f1,.slice f2 f3 f4,.bool f5,.slice f6 f7 f8],rfl,fun ρ w' r j x hx=>hM.cell r (by rw[addB,addB];exact hgf) (hEf.cells j x hx),?_⟩
    conv=>whnf
    refine callE_con (Φ:=fun _ w' v w2=>FracR w2 (Nw (fun _=>False) w' w2) v (-q0*qf)) (fun ρ w' r=>ftimes_c (Lm'.old r hS) (FracR.weak (hO2.relL r (oldF w)) fun _ hg=>(⟨cvF hg.1,hg.2⟩:Lm' S _ _ _ _ _ _)) (hEf.frac.relL r hS) (by omega) (by omega)) ?_
    rintro ρ wa22 v22 wb22 r he hb hn
    replace hw:=hw.tr hb
    have hO9:=hn.beside (S0:=fun _=>False) hM r
    replace hM:=MatO.past (iv':=(wa22.heap.size,wb22.heap.size)::iv21) hM r hS he fun x hx=>List.mem_cons_of_mem _ hx
    clear r he hb hn
    generalize (wa22.heap.size,wb22.heap.size)::iv21=iv22 at*
    clear hEf hgf hO2
    have hO:=hO9
    clear hO9
    obtain⟨s22_0,s22_1,s22_2,s22_3,s22_4,s22_5,s22_6,s22_7,rfl⟩:=hO.shape
    conv=>whnf
    refine⟨((c+1:Nat):Int),by rw[wrap64]<;>omega,?_⟩
    conv=>whnf
    have hht:=hht1
    rw[hqf]at h0
    refine⟨Nat×World×Iv,fun z=>⟨[(5,.o (.v (.slice (some ⟨gm,0,none⟩) n n))),(1,.o (.v (.int .i64 n))),(4,.o (.p 0 0)),(7,.o (.p 2 0)),(30,.o (.v (.int .i64 n))),(31,.o (.v (.int .i64 ((c:Nat):Int)))),(8,.o (.v (.int .i64 ((c:Nat):Int)))),(10,.o (.v (.int .i64 ((z.1:Nat):Int))))],[(2,.box T.fraction [.v (.bool s22_0),.v (.slice s22_1 s22_2 s22_3),.v (.bool s22_4),.v (.slice s22_5 s22_6 s22_7)]),(0,.box T.fraction [.v (.bool false),.v (.slice none 0 0),.v (.bool false),.v (.slice none 0 0)])],3,z.2.2,z.2.1⟩,fun z=>n-z.1,
     fun z=>c<z.1∧z.1≤n∧Bel w.heap.size w z.2.1∧MatO z.2.1 S w.heap.size z.2.2 gm n n rv2 (elimTo M2 c z.1)∧FracR z.2.1 (Lm' (fun _=>False) w.heap.size z.2.2 gm n rv2) (.agg #[.bool s22_0,.slice s22_1 s22_2 s22_3,.bool s22_4,.slice s22_5 s22_6 s22_7]) (-q0*qf),?_,?_⟩
    ·intro ρ w' r
     exact⟨(c+1,w',_),⟨Nat.lt_succ_self _,by dsimp only;omega,hw.tr r.bel,by rw[elimTo_start _ _ _ (Nat.le_refl _)];exact hM.rel r hS,hO.relL r (oldF w)⟩,
      Sub.gen [] r ⟨rfl,rfl,trivial⟩ ⟨rfl,rfl,rfl,rfl,rfl,rfl,rfl,rfl,trivial⟩ (by simp[ScH,Blk.scopd,At.sc]) (by simp[ScE,SV.sc,At.sc]) (by rfl) (fun lo hi h=>h)⟩
    clear hw hM hO
    rintro⟨i,w7,iv⟩ ⟨hci,hi,hw,hM,hO⟩
    dsimp only at hci hi hw hM hO ⊢
    conv=>whnf
    refine BrS.mk (fun hib=>?_) (fun hib=>?_)
    ·have hib:i<n:=by simpa using hib
     obtain⟨ri,hri⟩:∃r,M2[i]? =some r:=⟨_,List.getElem?_eq_getElem (by omega)⟩
     obtain⟨rc,hrc⟩:∃r,M2[c]? =some r:=⟨_,List.getElem?_eq_getElem (by omega)⟩
     have hri2:(elimTo M2 c i)[i]? =some ri:=by rw[elimTo_at _ _ _ _ (.inr (Nat.le_refl _))];exact hri
     have hrc2:(elimTo M2 c i)[c]? =some rc:=by rw[elimTo_at _ _ _ _ (.inl (Nat.le_refl _))];exact hrc
     obtain⟨gi,cd,qd,d1,d2,d3,d4,d5,d6,d7,d8,hEd,hgd⟩:=hM.elemR (k:=i) (c:=c) (by omega) (by omega)
     obtain⟨gc,ce,qe,e1,e2,e3,e4,e5,e6,e7,e8,hEe,hge⟩:=hM.elemR (k:=c) (c:=c) (by omega) (by omega)
     have hqd:qd=ri.getD c 0:=by
      rw[←hEd.at_];unfold at2
      rw[show (elimTo M2 c i).getD i []=ri by simp only[List.getD,hri2,Option.getD_some]]
     have hqe:qe=at2 M2 c c:=by rw[←hEe.at_,elimTo_at2' (.inl (Nat.le_refl _))]
     have hdi:=hht.at hri
     have hdc:=hht.at hrc
     have hl1:=rl_getD hdi (by omega) c
     have hl2:=at2_ht' hht (by omega) c c
     rw[←hqd]at hl1
     rw[←hqe]at hl2
     have hqe0:qe≠0:=hqe▸h0
     have hl3:=rl_div qd hqe0
     have hl4:=rl_neg (qd / qe)
     have hvd:=hEd.rv
     have hve:=hEe.rv
     conv=>whnf
     refine drawn_of_pi hτ hmix [.x 0,.x 1,.x 2,.x 3,.x 4,.x 5,.x 6,.x 7,.x 8,.x 9,.x 10,.x 11,.x 12,.x 13,.x 14,.x 15,.x 16,.x 17,.x 20,.x 21,.x 22,.x 23,.x 18,.x 19,.x 24] (by kernel_rfl) (by kernel_rfl) ?_
     conv=>whnf
     refine⟨⟨gm,0,none⟩,rfl,⟨by omega,by omega⟩,?_⟩
     conv=>whnf
     refine⟨_,fun ρ w' r=>hM.cell r (.inl (by rw[addB];rfl)) hEd.outer,?_⟩
     conv=>whnf
     refine⟨⟨gm,0,none⟩,rfl,⟨by omega,by omega⟩,?_⟩
     conv=>whnf
     refine⟨_,fun ρ w' r=>hM.cell r (.inl (by rw[addB];rfl)) hEd.outer,?_⟩
     conv=>whnf
     refine⟨⟨gi,0,none⟩,rfl,⟨by omega,by omega⟩,?_⟩
     conv=>whnf
     refine⟨[.bool d1,.slice d2 d3 d4,.bool d5,.slice d6 d7 d8],rfl,fun ρ w' r j x hx=>hM.cell r (by rw[addB,addB];exact hgd) (hEd.cells j x hx),?_⟩
     conv=>whnf
     refine⟨⟨gm,0,none⟩,rfl,⟨by omega,by omega⟩,?_⟩
     conv=>whnf
     refine⟨_,fun ρ w' r=>hM.cell r (.inl (by rw[addB];rfl)) hEe.outer,?_⟩
     conv=>whnf
     refine⟨⟨gc,0,none⟩,rfl,⟨by omega,by omega⟩,?_⟩
     conv=>whnf
     refine⟨[.bool e1,.slice e2 e3 e4,.bool e5,.slice e6 e7 e8],rfl,fun ρ w' r j x hx=>hM.cell r (by rw[addB,addB];exact hge) (hEe.cells j x hx),?_⟩
     conv=>whnf
     refine⟨⟨gm,0,none⟩,rfl,⟨by omega,by omega⟩,?_⟩
     conv=>whnf
     refine⟨_,fun ρ w' r=>hM.cell r (.inl (by rw[addB];rfl)) hEe.outer,?_⟩
     conv=>whnf
     refine callE_con (Φ:=fun _ w' v w2=>FracR w2 (Nw (fun _=>False) w' w2) v (qd / qe)) (fun ρ w' r=>fby_c (Lm'.old r hS) (hEd.frac.relL r hS) (hEe.frac.relL r hS) (by omega) (by omega) hqe0) ?_
     rintro ρ wa23 v23 wb23 r he hb hn
     replace hw:=hw.tr hb
     have hB:=hn.beside (S0:=S) hM r
     replace hM:=MatO.past (iv':=(wa23.heap.size,wb23.heap.size)::iv) hM r hS he fun x hx=>List.mem_cons_of_mem _ hx
     replace hO:=FracR.pastL (iv':=(wa23.heap.size,wb23.heap.size)::iv) hO r (oldF w) he fun x hx=>List.mem_cons_of_mem _ hx
     clear r he hb hn
     generalize (wa23.heap.size,wb23.heap.size)::iv=iv23 at*
     clear hEd hEe hgd hge
     obtain⟨s23_0,s23_1,s23_2,s23_3,s23_4,s23_5,s23_6,s23_7,rfl⟩:=hB.shape
     conv=>whnf
     refine callE_con (Φ:=fun _ w' v w2=>FracR w2 (Nw (Lm' S w.heap.size iv23 gm n rv2) w' w2) v (-(qd / qe))) (fun ρ w' r=>fminus_c (Lm'.old r hS) (hB.relL r hS)) ?_
     rintro ρ wa24 v24 wb24 r he hb hn
     replace hw:=hw.tr hb
     have hB2:=hn.besideL hM r
     replace hM:=MatO.past (iv':=(wa24.heap.size,wb24.heap.size)::iv23) hM r hS he fun x hx=>List.mem_cons_of_mem _ hx
     replace hO:=FracR.pastL (iv':=(wa24.heap.size,wb24.heap.size)::iv23) hO r (oldF w) he fun x hx=>List.mem_cons_of_mem _ hx
     clear r he hb hn
     generalize (wa24.heap.size,wb24.heap.size)::iv23=iv24 at*
     clear hB
     obtain⟨s24_0,s24_1,s24_2,s24_3,s24_4,s24_5,s24_6,s24_7,rfl⟩:=hB2.shape
     conv=>whnf
     refine⟨fun ρ w' r=>?_⟩
     refine(hM.add_c r hS (by unfold maxLen;omega) (Nat.ne_of_gt hci) hvd hve hri2 hrc2 hB2 (fun q hq=>by have:=hdi q hq;omega) (fun q hq=>by have:=hdc q hq;omega) (by omega)).mono fun e w8 he=>?_
     obtain⟨rfl,hgr,hmi,hM2⟩:=he
     have hw2:=(hw.tr r.bel).tr (hM.bel r hgr hmi)
     have hO2:=hO.keep (Lm'.grown r (oldF w) hgr hmi)
     replace hO2:=hO2.weak (S':=Lm' (fun _=>False) w.heap.size ((w'.heap.size,w8.heap.size)::iv24) gm n rv2) fun _ hg=>⟨hg.1.mono fun p hp=>List.mem_cons_of_mem _ hp,hg.2⟩
     refine⟨.tuple #[],_,(w'.heap.size,w8.heap.size)::iv24,rfl,r.rowedNew (fun x hx=>Rel.not r (oldF' _) (hM.blk x (hmi x hx))) hgr,?_⟩
     rw[hqd,hqe,show rc=M2.getD c [] by rw[List.getD,hrc];rfl,elimTo_succ hri hci]at hM2
     clear hM hO hw hgr hmi r hB2
     generalize (w'.heap.size,w8.heap.size)::iv24=iv9 at*
     conv=>whnf
     refine⟨((i+1:Nat):Int),by rw[wrap64]<;>omega,?_⟩
     conv=>whnf
     intro ρ3 w3 r3
     exact⟨(i+1,w3,_),⟨by dsimp only;omega,hib,hw2.tr r3.bel,hM2.rel r3 hS,hO2.relL r3 (oldF w)⟩,
      Sub.gen [] r3 ⟨rfl,rfl,trivial⟩ ⟨rfl,rfl,rfl,rfl,rfl,rfl,rfl,rfl,trivial⟩ (by simp[ScH,Blk.scopd,At.sc]) (by simp[ScE,SV.sc,At.sc]) (by rfl) (fun lo hi h=>h),by dsimp only;omega⟩
    have hib:i=n:=Nat.le_antisymm hi (by simpa using hib)
    rw[hib]at hM
    conv=>whnf
    refine⟨((c+1:Nat):Int),by rw[wrap64]<;>omega,?_⟩
    conv=>whnf
    intro ρ3 w3 r3
    refine⟨(c+1,(gm,rv2,elimTo M2 c n,-q0*qf),((s22_0,s22_4),(s22_1,s22_5),(s22_2,s22_3,s22_6,s22_7)),w3,_),⟨hcb,hw.tr r3.bel,hM.rel r3 hS,hO.relL r3 (oldF w),elimTo_len hlen2,by dsimp only;rw[hpow];exact hht.elim hH2 h0,by dsimp only;rw[hpow];omega,?_⟩,Sub.gen [] r3 ⟨rfl,rfl,trivial⟩ ⟨rfl,rfl,rfl,rfl,rfl,rfl,trivial⟩ (by simp[ScH,Blk.scopd,At.sc]) (by simp[ScE,SV.sc,At.sc]) (by rfl) (fun lo hi h=>h),by dsimp only;omega⟩
    dsimp only
    rw[←hD2,subD_elim (M:=M2) hlen2 (Nat.le_refl n) (by omega) hcb h0 (Nat.le_refl n),hqf,Rat.mul_assoc]
   have hkc:c=k:=by
    have h4:((k:Int)==(c:Int))=true:=by simpa using hkc
    have:=eq_of_beq h4
    omega
   subst hkc
   have h0:=hs
   clear hs
   conv=>whnf
   obtain⟨gf,cf,qf,f1,f2,f3,f4,f5,f6,f7,f8,hEf,hgf⟩:=hM.elemR (k:=c) (c:=c) (by omega) (by omega)
   have hqf:qf=at2 M1 c c:=hEf.at_.symm
   have hlf:=at2_ht' hht1 hH2 c c
   rw[←hqf]at hlf h0
   have hlm:=rl_mul (q0) qf
   conv=>whnf
   refine drawn_of_pi hτ hmix [.x 0,.x 1,.x 2,.x 3,.x 4,.x 5,.x 6,.x 7,.x 8,.x 9] (by kernel_rfl) (by kernel_rfl) ?_
   conv=>whnf
   refine⟨⟨gm,0,none⟩,rfl,⟨by omega,by omega⟩,?_⟩
   conv=>whnf
   refine⟨_,fun ρ w' r=>hM.cell r (.inl (by rw[addB];rfl)) hEf.outer,?_⟩
   conv=>whnf
   refine⟨⟨gf,0,none⟩,rfl,⟨by omega,by omega⟩,?_⟩
   conv=>whnf
   refine⟨[.bool f1,.slice f2 f3 f4,.bool f5,.slice f6 f7 f8],rfl,fun ρ w' r j x hx=>hM.cell r (by rw[addB,addB];exact hgf) (hEf.cells j x hx),?_⟩
   conv=>whnf
   refine callE_con (Φ:=fun _ w' v w2=>FracR w2 (Nw (fun _=>False) w' w2) v (q0*qf)) (fun ρ w' r=>ftimes_c (Lm'.old r hS) (FracR.weak (hO.relL r (oldF w)) fun _ hg=>(⟨cvF hg.1,hg.2⟩:Lm' S _ _ _ _ _ _)) (hEf.frac.relL r hS) (by omega) (by omega)) ?_
   rintro ρ wa31 v31 wb31 r he hb hn
   replace hw:=hw.tr hb
   have hO9:=hn.beside (S0:=fun _=>False) hM r
   replace hM:=MatO.past (iv':=(wa31.heap.size,wb31.heap.size)::iv11) hM r hS he fun x hx=>List.mem_cons_of_mem _ hx
   clear r he hb hn
   generalize (wa31.heap.size,wb31.heap.size)::iv11=iv31 at*
   clear hEf hgf hO
   have hO:=hO9
   clear hO9
   obtain⟨s31_0,s31_1,s31_2,s31_3,s31_4,s31_5,s31_6,s31_7,rfl⟩:=hO.shape
   conv=>whnf
   refine⟨((c+1:Nat):Int),by rw[wrap64]<;>omega,?_⟩
   conv=>whnf
   have hht:=hht1
   rw[hqf]at h0
   refine⟨Nat×World×Iv,fun z=>⟨[(5,.o (.v (.slice (some ⟨gm,0,none⟩) n n))),(1,.o (.v (.int .i64 n))),(4,.o (.p 0 0)),(7,.o (.p 2 0)),(30,.o (.v (.int .i64 n))),(31,.o (.v (.int .i64 ((c:Nat):Int)))),(8,.o (.v (.int .i64 ((c:Nat):Int)))),(10,.o (.v (.int .i64 ((z.1:Nat):Int))))],[(2,.box T.fraction [.v (.bool s31_0),.v (.slice s31_1 s31_2 s31_3),.v (.bool s31_4),.v (.slice s31_5 s31_6 s31_7)]),(0,.box T.fraction [.v (.bool false),.v (.slice none 0 0),.v (.bool false),.v (.slice none 0 0)])],3,z.2.2,z.2.1⟩,fun z=>n-z.1,
    fun z=>c<z.1∧z.1≤n∧Bel w.heap.size w z.2.1∧MatO z.2.1 S w.heap.size z.2.2 gm n n rv1 (elimTo M1 c z.1)∧FracR z.2.1 (Lm' (fun _=>False) w.heap.size z.2.2 gm n rv1) (.agg #[.bool s31_0,.slice s31_1 s31_2 s31_3,.bool s31_4,.slice s31_5 s31_6 s31_7]) (q0*qf),?_,?_⟩
   ·intro ρ w' r
    exact⟨(c+1,w',_),⟨Nat.lt_succ_self _,by dsimp only;omega,hw.tr r.bel,by rw[elimTo_start _ _ _ (Nat.le_refl _)];exact hM.rel r hS,hO.relL r (oldF w)⟩,
     Sub.gen [] r ⟨rfl,rfl,trivial⟩ ⟨rfl,rfl,rfl,rfl,rfl,rfl,rfl,rfl,trivial⟩ (by simp[ScH,Blk.scopd,At.sc]) (by simp[ScE,SV.sc,At.sc]) (by rfl) (fun lo hi h=>h)⟩
   clear hw hM hO
   rintro⟨i,w7,iv⟩ ⟨hci,hi,hw,hM,hO⟩
   dsimp only at hci hi hw hM hO ⊢
   conv=>whnf
   refine BrS.mk (fun hib=>?_) (fun hib=>?_)
   ·have hib:i<n:=by simpa using hib
    obtain⟨ri,hri⟩:∃r,M1[i]? =some r:=⟨_,List.getElem?_eq_getElem (by omega)⟩
    obtain⟨rc,hrc⟩:∃r,M1[c]? =some r:=⟨_,List.getElem?_eq_getElem (by omega)⟩
    have hri2:(elimTo M1 c i)[i]? =some ri:=by rw[elimTo_at _ _ _ _ (.inr (Nat.le_refl _))];exact hri
    have hrc2:(elimTo M1 c i)[c]? =some rc:=by rw[elimTo_at _ _ _ _ (.inl (Nat.le_refl _))];exact hrc
    obtain⟨gi,cd,qd,d1,d2,d3,d4,d5,d6,d7,d8,hEd,hgd⟩:=hM.elemR (k:=i) (c:=c) (by omega) (by omega)
    obtain⟨gc,ce,qe,e1,e2,e3,e4,e5,e6,e7,e8,hEe,hge⟩:=hM.elemR (k:=c) (c:=c) (by omega) (by omega)
    have hqd:qd=ri.getD c 0:=by
     rw[←hEd.at_];unfold at2
     rw[show (elimTo M1 c i).getD i []=ri by simp only[List.getD,hri2,Option.getD_some]]
    have hqe:qe=at2 M1 c c:=by rw[←hEe.at_,elimTo_at2' (.inl (Nat.le_refl _))]
    have hdi:=hht.at hri
    have hdc:=hht.at hrc
    have hl1:=rl_getD hdi (by omega) c
    have hl2:=at2_ht' hht (by omega) c c
    rw[←hqd]at hl1
    rw[←hqe]at hl2
    have hqe0:qe≠0:=hqe▸h0
    have hl3:=rl_div qd hqe0
    have hl4:=rl_neg (qd / qe)
    have hvd:=hEd.rv
    have hve:=hEe.rv
    conv=>whnf
    refine drawn_of_pi hτ hmix [.x 0,.x 1,.x 2,.x 3,.x 4,.x 5,.x 6,.x 7,.x 8,.x 9,.x 10,.x 11,.x 12,.x 13,.x 14,.x 15,.x 16,.x 17,.x 20,.x 21,.x 22,.x 23,.x 18,.x 19,.x 24] (by kernel_rfl) (by kernel_rfl) ?_
    conv=>whnf
    refine⟨⟨gm,0,none⟩,rfl,⟨by omega,by omega⟩,?_⟩
    conv=>whnf
    refine⟨_,fun ρ w' r=>hM.cell r (.inl (by rw[addB];rfl)) hEd.outer,?_⟩
    conv=>whnf
    refine⟨⟨gm,0,none⟩,rfl,⟨by omega,by omega⟩,?_⟩
    conv=>whnf
    refine⟨_,fun ρ w' r=>hM.cell r (.inl (by rw[addB];rfl)) hEd.outer,?_⟩
    conv=>whnf
    refine⟨⟨gi,0,none⟩,rfl,⟨by omega,by omega⟩,?_⟩
    conv=>whnf
    refine⟨[.bool d1,.slice d2 d3 d4,.bool d5,.slice d6 d7 d8],rfl,fun ρ w' r j x hx=>hM.cell r (by rw[addB,addB];exact hgd) (hEd.cells j x hx),?_⟩
    conv=>whnf
    refine⟨⟨gm,0,none⟩,rfl,⟨by omega,by omega⟩,?_⟩
    conv=>whnf
    refine⟨_,fun ρ w' r=>hM.cell r (.inl (by rw[addB];rfl)) hEe.outer,?_⟩
    conv=>whnf
    refine⟨⟨gc,0,none⟩,rfl,⟨by omega,by omega⟩,?_⟩
    conv=>whnf
    refine⟨[.bool e1,.slice e2 e3 e4,.bool e5,.slice e6 e7 e8],rfl,fun ρ w' r j x hx=>hM.cell r (by rw[addB,addB];exact hge) (hEe.cells j x hx),?_⟩
    conv=>whnf
    refine⟨⟨gm,0,none⟩,rfl,⟨by omega,by omega⟩,?_⟩
    conv=>whnf
    refine⟨_,fun ρ w' r=>hM.cell r (.inl (by rw[addB];rfl)) hEe.outer,?_⟩
    conv=>whnf
    refine callE_con (Φ:=fun _ w' v w2=>FracR w2 (Nw (fun _=>False) w' w2) v (qd / qe)) (fun ρ w' r=>fby_c (Lm'.old r hS) (hEd.frac.relL r hS) (hEe.frac.relL r hS) (by omega) (by omega) hqe0) ?_
    rintro ρ wa32 v32 wb32 r he hb hn
    replace hw:=hw.tr hb
    have hB:=hn.beside (S0:=S) hM r
    replace hM:=MatO.past (iv':=(wa32.heap.size,wb32.heap.size)::iv) hM r hS he fun x hx=>List.mem_cons_of_mem _ hx
    replace hO:=FracR.pastL (iv':=(wa32.heap.size,wb32.heap.size)::iv) hO r (oldF w) he fun x hx=>List.mem_cons_of_mem _ hx
    clear r he hb hn
    generalize (wa32.heap.size,wb32.heap.size)::iv=iv32 at*
    clear hEd hEe hgd hge
    obtain⟨s32_0,s32_1,s32_2,s32_3,s32_4,s32_5,s32_6,s32_7,rfl⟩:=hB.shape
    conv=>whnf
    refine callE_con (Φ:=fun _ w' v w2=>FracR w2 (Nw (Lm' S w.heap.size iv32 gm n rv1) w' w2) v (-(qd / qe))) (fun ρ w' r=>fminus_c (Lm'.old r hS) (hB.relL r hS)) ?_
    rintro ρ wa33 v33 wb33 r he hb hn
    replace hw:=hw.tr hb
    have hB2:=hn.besideL hM r
    replace hM:=MatO.past (iv':=(wa33.heap.size,wb33.heap.size)::iv32) hM r hS he fun x hx=>List.mem_cons_of_mem _ hx
    replace hO:=FracR.pastL (iv':=(wa33.heap.size,wb33.heap.size)::iv32) hO r (oldF w) he fun x hx=>List.mem_cons_of_mem _ hx
    clear r he hb hn
    generalize (wa33.heap.size,wb33.heap.size)::iv32=iv33 at*
    clear hB
    obtain⟨s33_0,s33_1,s33_2,s33_3,s33_4,s33_5,s33_6,s33_7,rfl⟩:=hB2.shape
    conv=>whnf
    refine⟨fun ρ w' r=>?_⟩
    refine(hM.add_c r hS (by unfold maxLen;omega) (Nat.ne_of_gt hci) hvd hve hri2 hrc2 hB2 (fun q hq=>by have:=hdi q hq;omega) (fun q hq=>by have:=hdc q hq;omega) (by omega)).mono fun e w8 he=>?_
    obtain⟨rfl,hgr,hmi,hM2⟩:=he
    have hw2:=(hw.tr r.bel).tr (hM.bel r hgr hmi)
    have hO2:=hO.keep (Lm'.grown r (oldF w) hgr hmi)
    replace hO2:=hO2.weak (S':=Lm' (fun _=>False) w.heap.size ((w'.heap.size,w8.heap.size)::iv33) gm n rv1) fun _ hg=>⟨hg.1.mono fun p hp=>List.mem_cons_of_mem _ hp,hg.2⟩
    refine⟨.tuple #[],_,(w'.heap.size,w8.heap.size)::iv33,rfl,r.rowedNew (fun x hx=>Rel.not r (oldF' _) (hM.blk x (hmi x hx))) hgr,?_⟩
    rw[hqd,hqe,show rc=M1.getD c [] by rw[List.getD,hrc];rfl,elimTo_succ hri hci]at hM2
    clear hM hO hw hgr hmi r hB2
    generalize (w'.heap.size,w8.heap.size)::iv33=iv9 at*
    conv=>whnf
    refine⟨((i+1:Nat):Int),by rw[wrap64]<;>omega,?_⟩
    conv=>whnf
    intro ρ3 w3 r3
    exact⟨(i+1,w3,_),⟨by dsimp only;omega,hib,hw2.tr r3.bel,hM2.rel r3 hS,hO2.relL r3 (oldF w)⟩,
     Sub.gen [] r3 ⟨rfl,rfl,trivial⟩ ⟨rfl,rfl,rfl,rfl,rfl,rfl,rfl,rfl,trivial⟩ (by simp[ScH,Blk.scopd,At.sc]) (by simp[ScE,SV.sc,At.sc]) (by rfl) (fun lo hi h=>h),by dsimp only;omega⟩
   have hib:i=n:=Nat.le_antisymm hi (by simpa using hib)
   rw[hib]at hM
   conv=>whnf
   refine⟨((c+1:Nat):Int),by rw[wrap64]<;>omega,?_⟩
   conv=>whnf
   intro ρ3 w3 r3
   refine⟨(c+1,(gm,rv1,elimTo M1 c n,q0*qf),((s31_0,s31_4),(s31_1,s31_5),(s31_2,s31_3,s31_6,s31_7)),w3,_),⟨hcb,hw.tr r3.bel,hM.rel r3 hS,hO.relL r3 (oldF w),elimTo_len hlen,by dsimp only;rw[hpow];exact hht.elim hH2 h0,by dsimp only;rw[hpow];omega,?_⟩,Sub.gen [] r3 ⟨rfl,rfl,trivial⟩ ⟨rfl,rfl,rfl,rfl,rfl,rfl,trivial⟩ (by simp[ScH,Blk.scopd,At.sc]) (by simp[ScE,SV.sc,At.sc]) (by rfl) (fun lo hi h=>h),by dsimp only;omega⟩
   dsimp only
   rw[←hD,subD_elim (M:=M1) hlen (Nat.le_refl n) (by omega) hcb h0 (Nat.le_refl n),hqf,Rat.mul_assoc]
  have hkb:k=n:=Nat.le_antisymm hk (by simpa using hkb)
  subst hkb
  conv=>whnf
  refine BrS.mk (fun _=>?_) (fun hne=>by simp at hne)
  conv=>whnf
  refine callE_S (callE_con (Φ:=fun _ w' v w2=>FracR w2 (Nw (fun _=>False) w' w2) v ((0:Int):Rat)) (fun ρ w' r=>whole_c 0 w' (by decide) (by decide)) ?_)
  rintro ρ wa11 v11 wb11 r he hb hn
  replace hw:=hw.tr hb
  have hZ:=hn.got (S:=fun _=>False) r.baseLe (iv:=(wa11.heap.size,wb11.heap.size)::iv) List.mem_cons_self
  clear r he hb hn
  generalize (wa11.heap.size,wb11.heap.size)::iv=iv11 at*
  obtain⟨s11_0,s11_1,s11_2,s11_3,s11_4,s11_5,s11_6,s11_7,rfl⟩:=hZ.shape
  conv=>whnf
  intro ρe we re
  refine⟨_,rfl,hw.tr re.bel,?_⟩
  rw[←hD,subD_zero hcb hz,Rat.mul_zero]
  exact hZ.out re (oldF w)
 have hcb:c=n:=Nat.le_antisymm hc (by simpa using hcb)
 subst hcb
 rw[subD_done,Rat.mul_one]at hD
 conv=>whnf
 intro ρe we re
 refine⟨_,rfl,hw.tr re.bel,?_⟩
 rw[←hD]
 exact(hO.relL re (oldF w)).weak fun g hg=>Cv.nw hg.1 re
end Go.Ex
