/- A part of the proof: texts X37 to X41. Each tells its conditions in its theorems. -/
import Derived.Test.YtneljlhlncjkhaaGreatDoorP7
/- Values of a list, of a matrix. No condition but sizes. -/
namespace Go.Ex
open Go Go.Sx Go.Proofs

def ratioP(x:Int×Int):Rat:=ratio x.1 x.2
/-- all limbs are few -/
def Few(xs:List (Int×Int)):Prop:=∀x∈xs,ln x.1.natAbs≤10000000000∧ln x.2.natAbs≤10000000000
theorem values_c{S:Nat→Prop}{w:World}{v:Value}{xs:List (Int×Int)}(hS:Old S w)(h:RatsR w S v xs)(hf:Few xs)(hn:xs.length≤1000000):
  Con PG N.exact_values #[v] w (Ret w fun v' w2=>RowX w2 (fun _=>False) w.heap.size [(w.heap.size,w2.heap.size)] v' xs.length (xs.map ratioP)):=by
 replace h:=RatsR.arg h []
 obtain⟨a,c,rfl,hc,-⟩:=ListR.shape h
 refine in_exact_values (by simp) ?_
 conv=>whnf
 refine⟨xs.length,xs.length,rfl,rfl,Nat.le_refl _,by omega,by omega,?_⟩
 conv=>whnf
 refine⟨Nat×List (List Value)×Iv×World,fun z=>⟨[(3,.o (.s 0 0 xs.length xs.length)),(9,.o (.v (.slice a xs.length c))),(10,.o (.v (.int .i64 xs.length))),(11,.o (.v (.int .i64 z.1)))],[(0,.arr T.fraction z.2.1.flatten)],1,z.2.2.1,z.2.2.2⟩,fun z=>xs.length-z.1,
  fun z=>z.1≤xs.length∧Bel w.heap.size w z.2.2.2∧RatsR z.2.2.2 (Cv S w.heap.size z.2.2.1) (.slice a xs.length c) xs∧Fill z.2.2.2 (Cv (fun _=>False) w.heap.size z.2.2.1) xs.length z.1 z.2.1 (xs.map ratioP),?_,?_⟩
 ·intro ρ w' r
  exact⟨(0,List.replicate xs.length f0,[],w'),⟨by simp,r.bel,RatsR.rel h r hS,Fill.start _ _ _ _⟩,Sub.gen [] r ⟨rfl,trivial⟩ ⟨rfl,rfl,rfl,rfl,trivial⟩ (by simp[ScH,Blk.scopd]) (by simp[ScE,SV.sc,At.sc]) (by rfl) (by simp)⟩
 clear h
 rintro⟨i,css,iv,w1⟩ ⟨hi,hw,hX,hF⟩
 dsimp only at hi hw hX hF ⊢
 conv=>whnf
 refine BrS.mk (fun h=>?_) (fun h=>?_)
 ·have h:i<xs.length:=by simpa using h
  obtain⟨x,hx⟩:∃x,xs[i]? =some x:=⟨_,List.getElem?_eq_getElem h⟩
  obtain⟨ad,cs,rfl,hR,-,hl⟩:=ListR.load hX hx
  obtain⟨b3,a3,n3,c3,b4,a4,n4,c4,rfl,hR⟩:=hR
  obtain⟨f1,f2⟩:=hf x (List.mem_of_getElem? hx)
  conv=>whnf
  refine⟨ad,rfl,⟨by omega,by omega⟩,?_⟩
  conv=>whnf
  refine⟨[.bool b3,.slice a3 n3 c3,.bool b4,.slice a4 n4 c4],rfl,fun ρ w' r j u hu=>?_,?_⟩
  ·obtain⟨k1,k2⟩:=hl j u hu
   have:=Rel.same r hS k1
   rw[Int.toNat_natCast,cell_of_heap (w:=w1) (w2:=w') (by rw[addB,addB];exact this)]
   exact k2
  conv=>whnf
  refine callE_S (callE_con (Φ:=fun _ w' v w2=>FracR w2 (Nw (fun _=>False) w' w2) v (ratioP x)) (fun ρ w' r=>value_c (Rel.old r hS) (hR.rel r hS) (by omega) (by omega)) ?_)
  rintro ρ wa v1 wb r he hb hO
  have hON:=hO.got (S:=fun _=>False) r.baseLe (iv:=(wa.heap.size,wb.heap.size)::iv) List.mem_cons_self
  replace hF:=hF.past (iv':=(wa.heap.size,wb.heap.size)::iv) r (oldF w) he fun x hx=>List.mem_cons_of_mem _ hx
  replace hX:=RatsR.past (iv':=(wa.heap.size,wb.heap.size)::iv) hX r hS he fun x hx=>List.mem_cons_of_mem _ hx
  replace hw:=hw.tr hb
  clear r he hb hO hl hR
  generalize (wa.heap.size,wb.heap.size)::iv=iv2 at*
  obtain⟨b1,a1,n1,c1,b2,a2,n2,c2,rfl⟩:=hON.shape
  have hnext:=hF.next h (q:=ratioP x) (by rw[List.getElem?_map,hx];rfl) hON
  conv=>whnf
  refine⟨⟨by omega,by omega⟩,?_⟩
  conv=>whnf
  refine⟨by have:=hF.flat;omega,(css.set i [.bool b1,.slice a1 n1 c1,.bool b2,.slice a2 n2 c2]).flatten,?_,?_⟩
  ·have:=flat_set (cs:=[.bool b1,.slice a1 n1 c1,.bool b2,.slice a2 n2 c2]) hF.four (show i<css.length by rw[hF.len];exact h)
   rw[←this]
   simp
  conv=>whnf
  refine⟨((i+1:Nat):Int),by rw[wrap64]<;>omega,?_⟩
  conv=>whnf
  intro ρ3 w3 r3
  exact⟨(i+1,css.set i [.bool b1,.slice a1 n1 c1,.bool b2,.slice a2 n2 c2],iv2,w3),⟨h,hw.tr r3.bel,RatsR.rel hX r3 hS,hnext.rel r3 (oldF w)⟩,Sub.gen [] r3 ⟨rfl,trivial⟩ ⟨rfl,rfl,rfl,rfl,trivial⟩ (by simp[ScH,Blk.scopd]) (by simp[ScE,SV.sc,At.sc]) (by rfl) (fun lo hi h=>h),by dsimp only;omega⟩
 ·have h:i=xs.length:=by
   have:¬i<xs.length:=by simpa using h
   omega
  subst h
  conv=>whnf
  intro ρe we re
  exact⟨_,rfl,hw.tr re.bel,hF.done (by simp) (by unfold maxLen;omega) re (id:=0) rfl (re.nn 0 _ rfl (by intros;simp) (by simp))⟩
end Go.Ex

/- Rows that are made one by one; matrix. No condition but sizes. -/
namespace Go.Ex
open Go Go.Sx Go.Proofs

/-- rows of one's own making: their blocks are new and apart, their limbs lie elsewhere -/
structure RowsX(w:World)(S:Nat→Prop)(B:Nat)(iv:Iv)(rv:List Value)(n:Nat)(M:List (List Rat)):Prop where
 len:rv.length=M.length
 row:∀(i:Nat) v qs,rv[i]? =some v→M[i]? =some qs→RowW w (fun g=>Cv S B iv g∧¬ ∃u∈rv,u.ownBlock=some g) v n qs
 dis:∀(i j:Nat) a b g,rv[i]? =some a→rv[j]? =some b→a.ownBlock=some g→b.ownBlock=some g→i=j
 new:∀v∈rv,∀g,v.ownBlock=some g→Cv (fun _=>False) B iv g
theorem oldF'(B:Nat):∀g,(fun _:Nat=>False) g→g<B:=fun _ h=>h.elim
theorem cvF{S:Nat→Prop}{B:Nat}{iv:Iv}{g:Nat}(h:Cv (fun _=>False) B iv g):Cv S B iv g:=h.elim (fun h=>h.elim) .inr
section
variable{S S':Nat→Prop}{H:Hp}{nx n i:Nat}{iv iv':Iv}{B:Nat}{w w1 w' w2:World}{ρ:Nat→Sx.Val}{rv:List Value}{M:List (List Rat)}
theorem RowsX.keep(h:RowsX w S B iv rv n M)(hk:∀g,Cv S B iv g→w2.heap[g]? =w.heap[g]?):RowsX w2 S B iv rv n M:=
 ⟨h.len,fun i v qs h1 h2=>(h.row i v qs h1 h2).keep fun g hg=>hk g (hg.elim (fun h=>h.1) fun hg=>cvF (h.new v (List.mem_of_getElem? h1) g hg)),h.dis,h.new⟩
theorem RowsX.rel(h:RowsX w S B iv rv n M)(r:Rel H nx iv B w ρ w')(hS:∀g,S g→g<B):RowsX w' S B iv rv n M:=h.keep fun _ hg=>Rel.same r hS hg
theorem RowsX.past(h:RowsX w S B iv rv n M)(r:Rel H nx iv B w ρ w')(hS:∀g,S g→g<B)(he:Ext w' w2)(hm:∀p,p∈iv→p∈iv'):RowsX w2 S B iv' rv n M:=
 have h2:=(h.rel r hS).keep fun g hg=>he.block g (Rel.old r hS g hg)
 ⟨h2.len,fun i v qs k1 k2=>(h2.row i v qs k1 k2).weak fun _ hg=>⟨hg.1.mono hm,hg.2⟩,h2.dis,fun v hv g hg=>(h2.new v hv g hg).mono hm⟩
theorem RowsX.nil(w:World)(S:Nat→Prop)(B:Nat)(iv:Iv)(n:Nat):RowsX w S B iv [] n []:=⟨rfl,by simp,by simp,by simp⟩
/-- one row more -/
theorem RowsX.snoc(h:RowsX w S B iv rv n M)(r:Rel H nx iv B w ρ w')(hS:∀g,S g→g<B)(he:Ext w' w2){v:Value}{qs:List Rat}(hv:RowW w2 (fun g=>Cv S B ((w'.heap.size,w2.heap.size)::iv) g∧v.ownBlock≠some g∧¬ ∃u∈rv,u.ownBlock=some g) v n qs)
  (hnew:∀g,v.ownBlock=some g→w'.heap.size≤g∧g<w2.heap.size):RowsX w2 S B ((w'.heap.size,w2.heap.size)::iv) (rv++[v]) n (M++[qs]):=by
 have hold:∀g,Cv S B iv g→g<w'.heap.size:=Rel.old r hS
 have h2:=h.past (iv':=(w'.heap.size,w2.heap.size)::iv) r hS he fun x hx=>List.mem_cons_of_mem _ hx
 have hvold:∀g,Cv S B iv g→v.ownBlock≠some g:=fun g hg e=>by have:=hold g hg;have:=(hnew g e).1;omega
 refine⟨by simp[h.len],fun i u ps h3 h4=>?_,fun i j a b g h3 h4 h5 h6=>?_,fun u hu g hg=>?_⟩
 ·rcases Nat.lt_or_ge i rv.length with hi|hi
  ·rw[List.getElem?_append_left hi]at h3
   rw[List.getElem?_append_left (by rw[←h.len];exact hi)]at h4
   have h5:=((h.rel r hS).keep (w2:=w2) fun g hg=>he.block g (hold g hg)).row i u ps h3 h4
   refine h5.weak fun g hg=>⟨hg.1.mono fun x hx=>List.mem_cons_of_mem _ hx,fun⟨x,hx,e⟩=>?_⟩
   rcases List.mem_append.1 hx with hx|hx
   ·exact hg.2 ⟨x,hx,e⟩
   ·simp at hx;subst hx;exact hvold g hg.1 e
  ·rw[List.getElem?_append_right hi]at h3
   rw[List.getElem?_append_right (by rw[←h.len];exact hi)]at h4
   have h0:i-rv.length=0:=by
    have:=(List.getElem?_eq_some_iff.1 h3).1
    simp at this
    omega
   rw[h0]at h3
   rw[←h.len,h0]at h4
   simp at h3 h4
   subst h3 h4
   refine hv.weak fun g hg=>⟨hg.1,fun⟨x,hx,e⟩=>?_⟩
   rcases List.mem_append.1 hx with hx|hx
   ·exact hg.2.2 ⟨x,hx,e⟩
   ·simp at hx;subst hx;exact hg.2.1 e
 ·have key:∀(i:Nat) a,(rv++[v])[i]? =some a→rv[i]? =some a∨(i=rv.length∧a=v):=fun i a ha=>by
   rcases Nat.lt_or_ge i rv.length with hi|hi
   ·rw[List.getElem?_append_left hi]at ha;exact .inl ha
   ·rw[List.getElem?_append_right hi]at ha
    have:=(List.getElem?_eq_some_iff.1 ha).1
    simp at this
    rw[this]at ha
    simp at ha
    exact .inr ⟨by omega,ha.symm⟩
  have hvn:∀(i:Nat) a,rv[i]? =some a→a.ownBlock=some g→v.ownBlock≠some g:=fun i a ha e=>hvold g (cvF (h.new a (List.mem_of_getElem? ha) g e))
  rcases key i a h3 with k1|⟨k1,rfl⟩<;>rcases key j b h4 with k2|⟨k2,rfl⟩
  ·exact h.dis i j a b g k1 k2 h5 h6
  ·exact absurd h6 (hvn i a k1 h5)
  ·exact absurd h5 (hvn j b k2 h6)
  ·omega
 ·rcases List.mem_append.1 hu with hu|hu
  ·exact(h.new u hu g hg).mono fun x hx=>List.mem_cons_of_mem _ hx
  ·simp at hu
   subst hu
   have:=hnew g hg
   exact .inr ⟨by have:=r.baseLe;omega,_,_,List.mem_cons_self,this.1,this.2⟩
/-- one row more, by a call -/
theorem RowsX.snocX(h:RowsX w S B iv rv n M)(r:Rel H nx iv B w ρ w')(hS:∀g,S g→g<B)(he:Ext w' w2){v:Value}{qs:List Rat}(hx:RowX w2 (fun _=>False) w'.heap.size [(w'.heap.size,w2.heap.size)] v n qs):
  RowsX w2 S B ((w'.heap.size,w2.heap.size)::iv) (rv++[v]) n (M++[qs]):=by
 have key:∀g,Cv (fun _=>False) w'.heap.size [(w'.heap.size,w2.heap.size)] g→w'.heap.size≤g∧g<w2.heap.size:=fun g hg=>by
  rcases hg with hg|⟨h1,lo,hi,h2,h3,h4⟩
  ·exact hg.elim
  ·simp at h2
   obtain⟨rfl,rfl⟩:=h2
   exact⟨h3,h4⟩
 refine h.snoc r hS he (hx.row.weak fun g hg=>?_) fun g hg=>key g (hx.new g hg)
 have:=key g hg.1
 refine⟨.inr ⟨by have:=r.baseLe;omega,_,_,List.mem_cons_self,this.1,this.2⟩,hg.2,fun⟨u,hu,e⟩=>?_⟩
 have:=Rel.old r (oldF' B) g (h.new u hu g e)
 omega
/-- rows in an array of one's own are a matrix -/
theorem RowsX.mat(h:RowsX w S B iv rv n M)(r:Rel H nx iv B w ρ w')(hS:∀g,S g→g<B){id:Nat}(hH:getH H id=some (.arr T.row rv))(hnil:(ρ id).nil=false)(hR:rv.length≤maxLen)(_h1:∀u∈rv,u.oneCell'=true):
  MatW w' (fun g=>Cv S B iv g∧¬Mb (.slice (some ⟨(ρ id).g,0,none⟩) rv.length rv.length) rv g) (.slice (some ⟨(ρ id).g,0,none⟩) rv.length rv.length) rv n M:=by
 have h2:=h.rel r hS
 have hnot:∀g,Cv S B iv g→(ρ id).g≠g:=fun g hg=>Rel.not r hS hg id _ hH hnil
 refine⟨⟨by simp,.inr ⟨(ρ id).g,rv.length,rv.toArray,rfl,Nat.zero_le _,r.arr id _ _ hH,Nat.le_refl _,hR,by simp,by simp⟩⟩,h.len,fun i v qs h3 h4=>?_,h.dis,fun v hv g hg e=>?_⟩
 ·refine(h2.row i v qs h3 h4).weak fun g hg=>⟨hg.1,fun hm=>?_⟩
  rcases hm with hm|hm
  ·injection hm with hm
   exact hnot g hg.1 hm
  ·exact hg.2 hm
 ·injection e with e
  exact hnot g (cvF (h.new v hv g hg)) e
/-- a matrix of a call's own making -/
structure MatX(w:World)(S:Nat→Prop)(B:Nat)(iv:Iv)(vm:Value)(n:Nat)(M:List (List Rat)):Prop where
 ex:∃rv,MatW w (fun g=>Cv S B iv g∧¬Mb vm rv g) vm rv n M∧∀g,Mb vm rv g→Cv (fun _=>False) B iv g
theorem MatX.keep{vm:Value}(h:MatX w S B iv vm n M)(hk:∀g,Cv S B iv g→w2.heap[g]? =w.heap[g]?):MatX w2 S B iv vm n M:=by
 obtain⟨rv,h1,h2⟩:=h.ex
 exact⟨rv,h1.keep fun g hg=>hk g (hg.elim (fun h=>h.1) fun hg=>cvF (h2 g hg)),h2⟩
theorem MatX.rel{vm:Value}(h:MatX w S B iv vm n M)(r:Rel H nx iv B w ρ w')(hS:∀g,S g→g<B):MatX w' S B iv vm n M:=h.keep fun _ hg=>Rel.same r hS hg
theorem MatX.got{vm:Value}(h:MatX w2 (fun _=>False) w'.heap.size [(w'.heap.size,w2.heap.size)] vm n M)(hB:B≤w'.heap.size)(hm:(w'.heap.size,w2.heap.size)∈iv):MatX w2 S B iv vm n M:=by
 have key:∀g {X:Nat→Prop},Cv (fun _=>False) w'.heap.size [(w'.heap.size,w2.heap.size)] g→Cv X B iv g:=fun g X hg=>by
  rcases hg with hg|⟨h1,lo,hi,h2,h3,h4⟩
  ·exact hg.elim
  ·simp at h2
   obtain⟨rfl,rfl⟩:=h2
   exact .inr ⟨by omega,_,_,hm,h3,h4⟩
 obtain⟨rv,h1,h2⟩:=h.ex
 exact⟨rv,h1.weak fun g hg=>⟨key g hg.1,hg.2⟩,fun g hg=>key g (h2 g hg)⟩
theorem MatW.one{vm:Value}(h:MatW w S vm rv n M):∀u∈rv,u.oneCell'=true:=fun u hu=>by
 obtain⟨i,hi⟩:=List.getElem?_of_mem hu
 have hl:=(List.getElem?_eq_some_iff.1 hi).1
 obtain⟨css,h1,_⟩:=h.row i u _ hi (List.getElem?_eq_getElem (by rw[←h.len];exact hl))
 obtain⟨a,c,rfl,_⟩:=row_form h1
 rfl
/-- .. read only -/
theorem MatW.read{vm:Value}(h:MatW w S vm rv n M):MatR w (fun g=>S g∨Mb vm rv g) vm M:=by
 refine⟨rv,?_,h.len,fun i u qs h1 h2=>?_⟩
 ·have hl:=h.len
  rw[←hl]
  rcases h.out.2 with⟨rfl,h0⟩|⟨g,cap,cur,rfl,hb,hc,hmc,hcap,hsz,htake⟩
  ·have:rv=[]:=List.eq_nil_of_length_eq_zero h0
   subst this
   exact⟨by simp[maxLen],by simp,by simp,none,0,rfl,Nat.le_refl _,by simp⟩
  ·refine⟨by omega,h.out.1,h.one,_,cap,rfl,hmc,fun j u hu=>⟨_,rfl,.inr (.inl rfl),?_⟩⟩
   exact h.out.cells (g:=g) rfl j u hu
 ·have h3:RowW w S u n qs:=h.row i u qs h1 h2
  exact h3.read.weak (fun g hg=>.inr (.inr ⟨u,List.mem_of_getElem? h1,hg⟩)) fun g hg=>.inl hg
theorem MatX.read{vm:Value}(h:MatX w S B iv vm n M):MatR w (Cv S B iv) vm M:=by
 obtain⟨rv,h1,h2⟩:=h.ex
 exact MatR.weak h1.read fun g hg=>hg.elim (fun h=>h.1) fun hg=>cvF (h2 g hg)
end
theorem matrix_c{S:Nat→Prop}{w:World}{v:Value}{M:List (List (Int×Int))}{n:Nat}(hS:Old S w)(h:RatMR w S v M)(hf:∀r∈M,Few r)(hrow:∀r∈M,r.length=n)(hn:n≤1000000)(hR:M.length≤1000000):
  Con PG N.exact_matrix #[v] w (Ret w fun v' w2=>MatX w2 (fun _=>False) w.heap.size [(w.heap.size,w2.heap.size)] v' n (M.map (·.map ratioP))):=by
 replace h:=RatMR.arg h []
 obtain⟨a,c,rfl,hc,-⟩:=SlicesR.shape h
 refine in_exact_matrix (by simp) ?_
 conv=>whnf
 refine⟨M.length,M.length,rfl,rfl,Nat.le_refl _,by omega,by omega,?_⟩
 conv=>whnf
 refine⟨List Value×Iv×World,fun z=>⟨[(3,.o (.s 0 0 M.length M.length)),(9,.o (.v (.slice a M.length c))),(10,.o (.v (.int .i64 M.length))),(11,.o (.v (.int .i64 z.1.length)))],[(0,.arr T.row (z.1++List.replicate (M.length-z.1.length) (.slice none 0 0)))],1,z.2.1,z.2.2⟩,fun z=>M.length-z.1.length,
  fun z=>z.1.length≤M.length∧Bel w.heap.size w z.2.2∧RatMR z.2.2 (Cv S w.heap.size z.2.1) (.slice a M.length c) M∧RowsX z.2.2 (fun _=>False) w.heap.size z.2.1 z.1 n ((M.take z.1.length).map (·.map ratioP))∧∀u∈z.1,u.oneCell'=true,?_,?_⟩
 ·intro ρ w' r
  exact⟨([],[],w'),⟨by simp,r.bel,RatMR.rel h r hS,by simpa using RowsX.nil _ _ _ _ _,by simp⟩,Sub.gen [] r ⟨rfl,trivial⟩ ⟨rfl,rfl,rfl,rfl,trivial⟩ (by simp[ScH,Blk.scopd]) (by simp[ScE,SV.sc,At.sc]) (by rfl) (by simp)⟩
 clear h
 rintro⟨rv,iv,w1⟩ ⟨hi,hw,hX,hF,h1c⟩
 dsimp only at hi hw hX hF h1c ⊢
 conv=>whnf
 refine BrS.mk (fun h=>?_) (fun h=>?_)
 ·have h:rv.length<M.length:=by simpa using h
  obtain⟨x,hx⟩:∃x,M[rv.length]? =some x:=⟨_,List.getElem?_eq_getElem h⟩
  obtain⟨ad,u,rfl,hR1,hl1,hl2⟩:=SlicesR.load hX hx
  obtain⟨a2,c2,rfl⟩:=SlicesR.rowShape hR1
  have hxl:=hrow x (List.mem_of_getElem? hx)
  conv=>whnf
  refine⟨ad,rfl,⟨by omega,by omega⟩,?_⟩
  conv=>whnf
  refine⟨.slice a2 x.length c2,fun ρ w' r=>?_,?_⟩
  ·have:=Rel.same r hS hl1
   rw[Int.toNat_natCast,cell_of_heap (w:=w1) (w2:=w') (by rw[addB];exact this)]
   exact hl2
  conv=>whnf
  refine callE_S (callE_con (Φ:=fun _ w' v w2=>RowX w2 (fun _=>False) w'.heap.size [(w'.heap.size,w2.heap.size)] v n (x.map ratioP)) (fun ρ w' r=>by rw[←hxl];exact values_c (Rel.old r hS) (RatsR.rel hR1 r hS) (hf x (List.mem_of_getElem? hx)) (by omega)) ?_)
  rintro ρ wa v1 wb r he hb hO
  have hF2:=hF.snocX r (oldF w) he hO
  replace hX:=RatMR.past (iv':=(wa.heap.size,wb.heap.size)::iv) hX r hS he fun x hx=>List.mem_cons_of_mem _ hx
  replace hw:=hw.tr hb
  obtain⟨a3,c3,rfl,-⟩:=hO.row.form
  clear r he hb hO hR1 hF hl1 hl2
  generalize (wa.heap.size,wb.heap.size)::iv=iv2 at*
  conv=>whnf
  refine⟨⟨by omega,by omega⟩,?_⟩
  conv=>whnf
  refine⟨by simp;omega,(rv++[.slice a3 n c3])++List.replicate (M.length-(rv.length+1)) (.slice none 0 0),?_,?_⟩
  ·have h5:M.length-rv.length=(M.length-(rv.length+1))+1:=by omega
   simp[h5,List.replicate_succ]
  conv=>whnf
  refine⟨((rv.length+1:Nat):Int),by rw[wrap64]<;>omega,?_⟩
  conv=>whnf
  intro ρ3 w3 r3
  have hl3:(rv++[Value.slice a3 n c3]).length=rv.length+1:=by simp
  refine⟨(rv++[.slice a3 n c3],iv2,w3),⟨by dsimp only;rw[hl3];exact h,hw.tr r3.bel,RatMR.rel hX r3 hS,?_,?_⟩,Sub.gen [] r3 ⟨by dsimp only;rw[hl3];rfl,trivial⟩ ⟨rfl,rfl,rfl,by dsimp only;rw[hl3];rfl,trivial⟩ (by simp[ScH,Blk.scopd]) (by simp[ScE,SV.sc,At.sc]) (by rfl) (fun lo hi h=>h),by dsimp only;rw[hl3];omega⟩
  ·dsimp only
   rw[hl3,List.take_add_one,hx,List.map_append]
   exact hF2.rel r3 (oldF w)
  ·intro u hu
   rcases List.mem_append.1 hu with hu|hu
   ·exact h1c u hu
   ·simp at hu;subst hu;rfl
 ·have h:rv.length=M.length:=by
   have:¬rv.length<M.length:=by simpa using h
   omega
  rw[h,List.take_length]at hF
  rw[h,Nat.sub_self,List.replicate_zero,List.append_nil]
  conv=>whnf
  intro ρe we re
  refine⟨_,rfl,hw.tr re.bel,?_⟩
  have hnil:=re.nn 0 _ rfl (by intros;simp) (by simp)
  have hm:=hF.mat re (oldF w) (id:=0) rfl hnil (by unfold maxLen;omega) h1c
  rw[h]at hm
  have key:∀g,Cv (fun _=>False) w.heap.size iv g→Cv (fun _=>False) w.heap.size [(w.heap.size,we.heap.size)] g:=fun g hg=>by
   rcases hg with hg|⟨h1,lo,hi,h2,h3,h4⟩
   ·exact hg.elim
   ·exact .inr ⟨h1,_,_,List.mem_singleton.2 rfl,h1,by have:=re.ivs lo hi h2;have:=re.size;omega⟩
  have hlow:=re.low 0 _ rfl hnil
  refine⟨rv,hm.weak fun g hg=>⟨key g hg.1,hg.2⟩,fun g hg=>?_⟩
  rcases hg with hg|⟨u,hu,hg⟩
  ·injection hg with hg
   subst hg
   exact .inr ⟨hlow.1,_,_,List.mem_singleton.2 rfl,hlow.1,hlow.2⟩
  ·exact key g (hF.new u hu g hg)
end Go.Ex

/- Concat of rows; Clone of a row; looking for an integer. Printed by program. No condition but sizes. -/
namespace Go.Ex
open Go Go.Sx Go.Proofs
abbrev undR:=und_row

theorem growR_c(n:Nat)(w:World)(hn:n≤1000000000000):
  Con PG N.slices_Grow_of_exact_row_exact_fraction_of #[.slice none 0 0,.int .i64 n] w (Ret w fun v' w2=>w2.ownsRow w.heap.size T.fraction 4 v' 0 []):=by
 refine in_slices_Grow_of_exact_row_exact_fraction_of (by simp) ?_
 conv=>whnf
 refine opS_cap (e:=T.fraction) undR (by rfl) (fun ρ w1 r=>?_)
 have hb:=r.bel
 clear r
 conv=>whnf
 refine⟨0,rfl,?_⟩
 conv=>whnf
 refine⟨(n:Int),by show IntKind.wrap .i64 ((n:Int)-0)=_;rw[wrap64]<;>omega,?_⟩
 conv=>whnf
 refine BrS.mk (fun h=>?_) (fun h=>?_)
 ·have h:0<n:=by have:=of_decide_eq_true h;omega
  conv=>whnf
  refine opS_cap (e:=T.fraction) undR (by rfl) (fun ρ w2 r=>?_)
  replace hb:=hb.tr r.bel
  clear r
  conv=>whnf
  refine⟨⟨by omega,by omega,by omega⟩,none,0,0,by rfl,by omega,by omega,?_⟩
  conv=>whnf
  refine opS_zeros hτ (Bc:=w.heap.size) (Nat.le_refl _) (by rfl) (by rfl) ((hτ T.int _ rfl).i1 rfl) (by decide) (by rfl) (by rfl) h (by unfold maxLen;omega) (by omega) (fun ρ w3 w4 c r hc hrow hg hs=>?_)
  have hb4:Bel w.heap.size w w4:=(hb.tr r.bel).tr (Bel.grown hg (fun g hg=>by cases hg) (by have:=r.base;have:=r.size;omega))
  have hw3:=(hb.tr r.bel).size
  clear r
  generalize w3.heap.size=g0 at*
  conv=>whnf
  refine⟨⟨by omega,by omega,by omega⟩,some ⟨g0,0,none⟩,0,c,by split<;>rfl,by omega,by omega,?_⟩
  conv=>whnf
  intro ρ5 w5 r5
  exact⟨_,rfl,hb4.tr r5.bel,rowKeep hrow (fun b hb=>by
   have hb:g0=b:=by injection hb
   exact⟨g0,g0+1,by simp[hs],by omega,by omega⟩) r5⟩
 ·conv=>whnf
  intro ρ5 w5 r5
  exact⟨_,rfl,hb.tr r5.bel,World.ownsRow_nil _ _ _ _⟩

theorem concatR_c{S:Nat→Prop}{w:World}{v:Value}{parts:List (Value×List Value×Nat)}(hS:Old S w)(h:SeqR w S 1 v (parts.map (·.1)) parts.length)(hp:∀p∈parts,SeqR w S 4 p.1 p.2.1 p.2.2)(hN:nsum parts≤1000000000000):
  Con PG N.slices_Concat_of_exact_row_exact_fraction_of #[v] w (Ret w fun v' w2=>w2.ownsRow w.heap.size T.fraction 4 v' (nsum parts) (parts.flatMap (·.2.1))):=by
 obtain⟨hml,-,-,a,c,rfl,hnc,hcell⟩:=h
 have hle:∀k,nsum (parts.take k)≤nsum parts:=fun k=>by
  conv=>rhs;rw[←List.take_append_drop k parts,nsum_append]
  omega
 have hnext:∀(i:Nat) p,parts[i]? =some p→nsum (parts.take (i+1))=nsum (parts.take i)+p.2.2:=fun i p hp=>by
  rw[List.take_add_one,hp,nsum_append];simp[nsum]
 have hnextx:∀(i:Nat) p,parts[i]? =some p→(parts.take (i+1)).flatMap (·.2.1)=(parts.take i).flatMap (·.2.1)++p.2.1:=fun i p hp=>by
  rw[List.take_add_one,hp];simp
 have hpart:∀(i:Nat) p,parts[i]? =some p→∃ad an ac,a=some ad∧S ad.block∧w.cell? (ad.add i)=some (.slice an p.2.2 ac)∧p.1= .slice an p.2.2 ac:=fun i p hi=>by
  obtain⟨ad,h1,h2,h3⟩:=hcell i p.1 (by rw[List.getElem?_map,hi];rfl)
  obtain⟨_,_,_,an,ac,h4,_⟩:=hp p (List.mem_of_getElem? hi)
  exact⟨ad,an,ac,h1,h2,by rw[h3,h4],h4⟩
 unfold maxLen at hml
 refine in_slices_Concat_of_exact_row_exact_fraction_of (by simp) ?_
 conv=>whnf
 refine⟨Nat×World,fun z=>⟨[(0,.o (.v (.slice a parts.length c))),(3,.o (.v (.int .i64 (nsum (parts.take z.1):Nat)))),(9,.o (.v (.slice a parts.length c))),(10,.o (.v (.int .i64 parts.length))),(11,.o (.v (.int .i64 z.1)))],[],0,[],z.2⟩,
  fun z=>parts.length-z.1,fun z=>z.1≤parts.length∧Bel w.heap.size w z.2,?_,?_⟩
 ·intro ρ w' r
  exact⟨(0,w'),⟨by simp,r.bel⟩,Sub.gen [] r trivial ⟨rfl,rfl,rfl,rfl,rfl,trivial⟩ (by simp[ScH]) (by simp[ScE,SV.sc,At.sc]) (by rfl) (by simp)⟩
 ·rintro⟨i,w1⟩ ⟨hi,hw⟩
  dsimp only at hi hw ⊢
  conv=>whnf
  refine BrS.mk (fun h=>?_) (fun h=>?_)
  ·have h:i<parts.length:=by simpa using h
   obtain⟨p,hpi⟩:∃p,parts[i]? =some p:=⟨_,List.getElem?_eq_getElem h⟩
   obtain⟨ad,an,ac,h1,h2,h3,h4⟩:=hpart i p hpi
   have hs1:=hnext i p hpi
   have hs2:=hle (i+1)
   conv=>whnf
   refine⟨ad,h1,⟨by omega,by omega⟩,?_⟩
   conv=>whnf
   refine⟨.slice an p.2.2 ac,fun ρ w' r=>by simpa using cellS hS hw r h2 h3,?_⟩
   conv=>whnf
   refine⟨((nsum (parts.take (i+1)):Nat):Int),by rw[wrap64]<;>omega,?_⟩
   conv=>whnf
   refine⟨((i+1:Nat):Int),by rw[wrap64]<;>omega,?_⟩
   conv=>whnf
   intro ρ3 w3 r3
   exact⟨(i+1,w3),⟨h,hw.tr r3.bel⟩,Sub.gen [] r3 trivial ⟨rfl,rfl,rfl,rfl,rfl,trivial⟩ (by simp[ScH]) (by simp[ScE,SV.sc,At.sc]) (by rfl) (by simp),by simp;omega⟩
  ·have h:i=parts.length:=by
    have:¬i<parts.length:=by simpa using h
    omega
   subst h
   clear hi
   rw[List.take_length]
   conv=>whnf
   refine callE_S (callE_con (Φ:=fun _ w' v w2=>w2.ownsRow w'.heap.size T.fraction 4 v 0 []) (fun ρ w' r=>growR_c _ w' (by omega)) ?_)
   rintro ρ wa v1 wb r he hb hrow
   have hsz:=r.baseLe
   have hes:=he.size
   have hcov:Cvr [(wa.heap.size,wb.heap.size)] v1:=fun b hb=>⟨_,_,List.mem_singleton.2 rfl,(ownsRow.low hrow b hb).1,(ownsRow.low hrow b hb).2⟩
   replace hrow:wb.ownsRow w.heap.size T.fraction 4 v1 0 []:=⟨hrow.1,hrow.2.imp id fun⟨g,cap,cur,k1,k2,k3⟩=>⟨g,cap,cur,k1,by omega,k3⟩⟩
   replace hw:=hw.tr hb
   clear r he
   obtain⟨a1,c1,rfl,-⟩:=row_form hrow
   conv=>whnf
   refine⟨Nat×Value×World,fun z=>⟨[(0,.o (.v (.slice a parts.length c))),(6,.o (.v z.2.1)),(25,.o (.v (.slice a parts.length c))),(26,.o (.v (.int .i64 parts.length))),(27,.o (.v (.int .i64 z.1)))],[],0,rowIv z.2.1,z.2.2⟩,
    fun z=>parts.length-z.1,fun z=>z.1≤parts.length∧Bel w.heap.size w z.2.2∧z.2.2.ownsRow w.heap.size T.fraction 4 z.2.1 (nsum (parts.take z.1)) ((parts.take z.1).flatMap (·.2.1)),?_,?_⟩
   ·intro ρ w' r
    exact⟨(0,.slice a1 0 c1,w'),⟨by simp,hw.tr r.bel,by simpa [nsum]using rowKeep hrow hcov r⟩,Sub.gen2 [] r trivial ⟨rfl,rfl,rfl,rfl,rfl,trivial⟩ (by simp[ScH]) (by simp[ScE,SV.sc,At.sc]) (by rfl) hcov.iv⟩
   ·rintro⟨i,v1,w1⟩ ⟨hi,hw,hrow⟩
    dsimp only at hi hw hrow ⊢
    obtain⟨a1,c1,rfl,-⟩:=row_form hrow
    conv=>whnf
    refine BrS.mk (fun h=>?_) (fun h=>?_)
    ·have h:i<parts.length:=by simpa using h
     obtain⟨p,hpi⟩:∃p,parts[i]? =some p:=⟨_,List.getElem?_eq_getElem h⟩
     obtain⟨ad,an,ac,h1,h2,h3,h4⟩:=hpart i p hpi
     have hs1:=hnext i p hpi
     have hs2:=hle (i+1)
     have hpR:=hp p (List.mem_of_getElem? hpi)
     conv=>whnf
     refine⟨ad,h1,⟨by omega,by omega⟩,?_⟩
     conv=>whnf
     refine⟨.slice an p.2.2 ac,fun ρ w' r=>by simpa using cellS hS hw r h2 h3,?_⟩
     conv=>whnf
     refine .inr (opS_append hτ (Nat.le_refl _) (xs:=(parts.take i).flatMap (·.2.1)) (news:=p.2.1) (m:=nsum (parts.take i)) (k:=p.2.2) (by rfl) (by rfl) (by decide) (by rfl) (by rfl) (fun ρ w' r=>⟨rowKeep hrow (Cvr.row _) r,fun g hg=>(Cvr.row _).not r hg⟩) hpR.len hpR.one (by unfold maxLen;omega) (by omega)
      (fun ρ w' r=>?_) (fun v' w2=>rowIv v') (fun ρ w' v' w2 r hsz hob=>rowIv_after r hsz hob) (fun ρ w' v' w2 r h5 h6 h7=>?_))
     ·obtain⟨_,hxl,_,a2,c2,h5,_,h6⟩:=hpR
      rw[h4]at h5
      injection h5 with h7 h8 h9
      subst h7 h9
      cases an with
      |none=>
       refine .inl ⟨ac,?_,?_⟩
       ·have:p.2.2=0:=by
         rcases Nat.eq_zero_or_pos p.2.2 with h0|h0
         ·exact h0
         ·obtain⟨ad2,k1,_⟩:=h6 0 _ (List.getElem?_eq_getElem (show 0<p.2.1.length by omega))
          cases k1
        rw[←this];rfl
       ·rcases Nat.eq_zero_or_pos p.2.2 with h0|h0
        ·exact h0
        ·obtain⟨ad2,k1,_⟩:=h6 0 _ (List.getElem?_eq_getElem (show 0<p.2.1.length by omega))
         cases k1
      |some ad3=>
       refine .inr ⟨ad3,ac,rfl,fun j u hu=>?_⟩
       obtain⟨ad2,k1,k2,k3⟩:=h6 j u hu
       injection k1 with k1
       subst k1
       exact cellS hS hw r k2 k3
     ·have hb2:Bel w.heap.size w w2:=(hw.tr r.bel).tr (Bel.grown h6 (fun g hg=>(ownsRow.low hrow g hg).1) (by have:=r.size;have:=hw.size;omega))
      rw[←hs1,←hnextx i p hpi]at h5
      obtain⟨a3,c3,rfl,-⟩:=row_form h5
      conv=>whnf
      refine⟨(i+1:Nat),by rw[wrap64]<;>omega,?_⟩
      conv=>whnf
      intro ρ3 w3 r3
      exact⟨(i+1,.slice a3 (nsum (parts.take (i+1))) c3,w3),⟨h,hb2.tr r3.bel,rowKeep h5 (Cvr.row _) r3⟩,
       Sub.gen [] r3 trivial ⟨rfl,rfl,rfl,rfl,rfl,trivial⟩ (by simp[ScH]) (by simp[ScE,SV.sc,At.sc]) (by rfl) (fun lo hi h=>h),by simp;omega⟩
    ·have h:i=parts.length:=by
      have:¬i<parts.length:=by simpa using h
      omega
     subst h
     rw[List.take_length]at hrow ⊢
     conv=>whnf
     intro ρ5 w5 r5
     exact⟨_,rfl,hw.tr r5.bel,rowKeep hrow (Cvr.row _) r5⟩

/-- integers in a list are read -/
def IntsR(w:World)(S:Nat→Prop)(v:Value)(ps:List Nat):Prop:=SeqR w S 1 v (ps.map fun c:Nat=>.int .i64 (c:Int)) ps.length
theorem index_c{S:Nat→Prop}{w:World}{v:Value}{ps:List Nat}{x:Nat}(hS:Old S w)(h:IntsR w S v ps)(hl:ps.length≤1000000):
  Con PG N.slices_Index_of_int_int_of #[v,.int .i64 x] w (Ret w fun v' _=>∃i:Int,v'= .int .i64 i∧(0≤i↔x∈ps)):=by
 obtain⟨h0,h1,h2,a,c,rfl,hc,hcell⟩:=h
 refine in_slices_Index_of_int_int_of (by simp) ?_
 conv=>whnf
 refine⟨Nat×World,fun z=>⟨[(0,.o (.v (.slice a ps.length c))),(1,.o (.v (.int .i64 x))),(7,.o (.v (.int .i64 ps.length))),(8,.o (.v (.int .i64 z.1)))],[],0,[],z.2⟩,fun z=>ps.length-z.1,
  fun z=>z.1≤ps.length∧Bel w.heap.size w z.2∧∀(j:Nat) y,j<z.1→ps[j]? =some y→y≠x,?_,?_⟩
 ·intro ρ w' r
  exact⟨(0,w'),⟨by simp,r.bel,by simp⟩,Sub.gen [] r trivial ⟨rfl,rfl,rfl,rfl,trivial⟩ (by simp[ScH]) (by simp[ScE,SV.sc,At.sc]) (by rfl) (by simp)⟩
 rintro⟨i,w1⟩ ⟨hi,hw,hne⟩
 dsimp only at hi hw hne ⊢
 conv=>whnf
 refine BrS.mk (fun h=>?_) (fun h=>?_)
 ·have h:i<ps.length:=by simpa using h
  obtain⟨y,hy⟩:∃y,ps[i]? =some y:=⟨_,List.getElem?_eq_getElem h⟩
  obtain⟨ad,rfl,k1,k2⟩:=hcell i (.int .i64 (y:Int)) (by rw[List.getElem?_map,hy];rfl)
  conv=>whnf
  refine⟨ad,rfl,⟨by omega,by omega⟩,?_⟩
  conv=>whnf
  refine⟨.int .i64 (y:Int),fun ρ w' r=>by simpa using cellS hS hw r k1 k2,?_⟩
  conv=>whnf
  refine BrS.mk (fun he=>?_) (fun he=>?_)
  ·have he:x=y:=by have:=eq_of_beq he;omega
   conv=>whnf
   intro ρe we re
   exact⟨_,rfl,hw.tr re.bel,_,rfl,⟨fun _=>by rw[he];exact List.mem_of_getElem? hy,fun _=>by omega⟩⟩
  ·have he:x≠y:=fun e=>by rw[e]at he;simp at he
   conv=>whnf
   refine⟨((i+1:Nat):Int),by rw[wrap64]<;>omega,?_⟩
   conv=>whnf
   intro ρ3 w3 r3
   refine⟨(i+1,w3),⟨h,hw.tr r3.bel,fun j z hj hz=>?_⟩,Sub.gen [] r3 trivial ⟨rfl,rfl,rfl,rfl,trivial⟩ (by simp[ScH]) (by simp[ScE,SV.sc,At.sc]) (by rfl) (by simp),by dsimp only;omega⟩
   by_cases hji:j=i
   ·subst hji;rw[hy]at hz;injection hz with hz;rw[←hz];exact Ne.symm he
   ·exact hne j z (by dsimp only at hj;omega) hz
 ·have h:i=ps.length:=by
   have:¬i<ps.length:=by simpa using h
   omega
  conv=>whnf
  intro ρe we re
  refine⟨_,rfl,hw.tr re.bel,-1,rfl,⟨fun h=>by omega,fun hm=>?_⟩⟩
  obtain⟨j,hj⟩:=List.getElem?_of_mem hm
  exact absurd rfl (hne j x (by rw[h];exact(List.getElem?_eq_some_iff.1 hj).1) hj)
theorem IntsR.keep{S:Nat→Prop}{w w2:World}{v:Value}{ps:List Nat}(h:IntsR w S v ps)(hk:∀g,S g→w2.heap[g]? =w.heap[g]?):IntsR w2 S v ps:=SeqR.keep h hk
theorem IntsR.weak{S S':Nat→Prop}{w:World}{v:Value}{ps:List Nat}(h:IntsR w S v ps)(hk:∀g,S g→S' g):IntsR w S' v ps:=SeqR.weak h hk
section
variable{S S':Nat→Prop}{H:Hp}{nx:Nat}{iv iv':Iv}{B:Nat}{w w' w2:World}{ρ:Nat→Sx.Val}{v:Value}{ps:List Nat}
theorem IntsR.rel(h:IntsR w (Cv S B iv) v ps)(r:Rel H nx iv B w ρ w')(hS:∀g,S g→g<B):IntsR w' (Cv S B iv) v ps:=IntsR.keep h fun _ hg=>Rel.same r hS hg
theorem IntsR.arg(h:IntsR w S v ps)(iv:Iv):IntsR w (Cv S w.heap.size iv) v ps:=IntsR.weak h fun _ h=>.inl h
end

theorem contains_c{S:Nat→Prop}{w:World}{v:Value}{ps:List Nat}{x:Nat}(hS:Old S w)(h:IntsR w S v ps)(hl:ps.length≤1000000):
  Con PG N.slices_Contains_of_int_int_of #[v,.int .i64 x] w (Ret w fun v' _=>v'= .bool (decide (x∈ps))):=by
 replace h:=IntsR.arg h []
 have hsh:=SeqR.shape h
 obtain⟨a,m,c,rfl⟩:=hsh
 refine in_slices_Contains_of_int_int_of (by simp) ?_
 conv=>whnf
 refine callE_S (callE_con (Φ:=fun _ _ v _=>∃i:Int,v= .int .i64 i∧(0≤i↔x∈ps)) (fun ρ w' r=>index_c (Rel.old r hS) (IntsR.rel h r hS) hl) ?_)
 rintro ρ wa v1 wb r he hw ⟨i,rfl,hi⟩
 clear r he
 conv=>whnf
 intro ρe we re
 exact⟨_,rfl,hw.tr re.bel,congrArg Value.bool (decide_eq_decide.2 hi)⟩
end Go.Ex

/- Writing into a row that is held raw; the kernel basis. No condition but sizes. -/
namespace Go.Ex
open Go Go.Sx Go.Proofs

section
variable{S S':Nat→Prop}{H:Hp}{nx n:Nat}{iv iv':Iv}{B:Nat}{w w' w2:World}{ρ:Nat→Sx.Val}{v:Value}{qs:List Rat}
theorem RowX.store{a a1 a2:Option Addr}{c j n1 c1 n2 c2:Nat}{b b2:Bool}{q:Rat}(h:RowX w' S B iv (.slice a n c) n qs)(hj:j<n)(hf:FracR w' (fun g=>Cv S B iv g∧(Value.slice a n c).ownBlock≠some g) (.agg #[.bool b,.slice a1 n1 c1,.bool b2,.slice a2 n2 c2]) q)
  (r:Rel H nx iv B w ρ w') (hS:∀g,S g→g<B):
  ∃g,a=some ⟨g,0,none⟩∧((⟨g,0,none⟩:Addr).add ((j:Int).toNat*4)).spot=none∧
   (∀k,k<4→(w'.cell? (((⟨g,0,none⟩:Addr).add ((j:Int).toNat*4)).add k)).isSome=true∧w'.frozen? (((⟨g,0,none⟩:Addr).add ((j:Int).toNat*4)).add k)=false)∧
   (∀id b,getH H id=some b→(ρ id).nil=false→(ρ id).g≠((⟨g,0,none⟩:Addr).add ((j:Int).toNat*4)).block)∧Cv (fun _=>False) B iv g∧
   ∀w2,w2=setCells w' ((⟨g,0,none⟩:Addr).add ((j:Int).toNat*4)) [.bool b,.slice a1 n1 c1,.bool b2,.slice a2 n2 c2]→RowX w2 S B iv (.slice a n c) n (qs.set j q)∧w'.grownBy w2 (some g)∧w2.heap.size=w'.heap.size:=by
 obtain⟨g,rfl,h1,h2,h3,h4⟩:=h.row.store hj hf (fun g hg hx=>hx.2 hg) (fun x hx=>Rel.old r hS x hx.1)
 refine⟨g,rfl,h1,h3,fun id b hb hn=>by rw[h2];exact Rel.not r hS (cvF (h.new g rfl)) id b hb hn,h.new g rfl,fun w2 hw2=>?_⟩
 obtain⟨k1,k2,k3⟩:=h4 w2 hw2
 exact⟨⟨k1,h.new⟩,k2,k3⟩
/-- what a call has made lies outside a row that was there -/
theorem FracR.apart{q:Rat}{u:Value}(h:FracR w2 (Nw S w' w2) u q)(hx:∀g,v.ownBlock=some g→g<w'.heap.size∧¬S g)(hB:B≤w'.heap.size)(hS:∀g,S g→S' g):FracR w2 (fun g=>Cv S' B ((w'.heap.size,w2.heap.size)::iv) g∧v.ownBlock≠some g) u q:=
 h.weak fun g hg=>by
  rcases hg with hg|hg
  ·exact⟨.inl (hS g hg),fun e=>(hx g e).2 hg⟩
  ·exact⟨.inr ⟨by omega,_,_,List.mem_cons_self,hg.1,hg.2⟩,fun e=>by have:=(hx g e).1;omega⟩
end
/-- the kernel vector of a free column, when so many pivots are set -/
def kvecTo(A:List (List Rat))(pv:List Nat)(cols c i:Nat):List Rat:=(List.range i).foldl (fun x i=>x.set (pv.getD i 0) (-(at2 A i c))) ((List.replicate cols 0).set c 1)
def kernelTo(A:List (List Rat))(pv:List Nat)(cols c:Nat):List (List Rat):=((List.range c).filter fun c=>decide (c∉pv)).map fun c=>kvecTo A pv cols c pv.length
theorem kvecTo_succ(A:List (List Rat))(pv:List Nat)(cols c i:Nat):kvecTo A pv cols c (i+1)=(kvecTo A pv cols c i).set (pv.getD i 0) (-(at2 A i c)):=by
 rw[kvecTo,List.range_succ,List.foldl_append];rfl
theorem kvecTo_length(A:List (List Rat))(pv:List Nat)(cols c i:Nat):(kvecTo A pv cols c i).length=cols:=by
 induction i with
 |zero=>simp[kvecTo]
 |succ i ih=>rw[kvecTo_succ,List.length_set,ih]
theorem kernelTo_in{A:List (List Rat)}{pv:List Nat}{cols c:Nat}(h:c∈pv):kernelTo A pv cols (c+1)=kernelTo A pv cols c:=by
 rw[kernelTo,List.range_succ,List.filter_append]
 simp[h,kernelTo]
theorem kernelTo_out{A:List (List Rat)}{pv:List Nat}{cols c:Nat}(h:c∉pv):kernelTo A pv cols (c+1)=kernelTo A pv cols c++[kvecTo A pv cols c pv.length]:=by
 rw[kernelTo,List.range_succ,List.filter_append]
 simp[h,kernelTo]
theorem SlicesR.rowOf{w:World}{S:Nat→Prop}{v:Value}{qs:List Rat}(h:RowR w S S v qs):∃a c,v= .slice a qs.length c:=by
 obtain⟨a,c,h,_⟩:=h.shape
 exact⟨a,c,h⟩

theorem kernel_c{S:Nat→Prop}{w:World}{vm vp:Value}{A:List (List Rat)}{pv:List Nat}{n cols:Nat}(hS:Old S w)(hA:MatR w S vm A)(hp:IntsR w S vp pv)(hrow:∀r∈A,r.length=n)(hcn:cols≤n)(hn:n≤1000000)(hR:A.length≤1000000)(hpl:pv.length≤A.length)(hpc:∀p∈pv,p<cols):
  Con PG N.exact_kernel #[vm,vp,.int .i64 cols] w (Ret w fun v w2=>MatR w2 (Nw S w w2) v (kernelTo A pv cols cols)):=by
 obtain⟨am,cm,rfl,hcm,-⟩:=SlicesR.shape hA
 have hps:=hp
 obtain⟨-,-,-,ap,cp,rfl,hcp,-⟩:=hps
 refine in_exact_kernel (by simp) ?_
 conv=>whnf
 refine⟨Nat×List Value×Iv×World,fun z=>⟨[(0,.o (.v (.slice am A.length cm))),(1,.o (.v (.slice ap pv.length cp))),(2,.o (.v (.int .i64 cols))),(7,.o (.w 0 z.2.1.length)),(12,.o (.v (.int .i64 cols))),(13,.o (.v (.int .i64 z.1)))],[(0,.vec T.row 1 z.2.1)],1,z.2.2.1,z.2.2.2⟩,fun z=>cols-z.1,
  fun z=>z.1≤cols∧Bel w.heap.size w z.2.2.2∧z.2.1.length=(kernelTo A pv cols z.1).length∧z.2.1.length≤z.1∧(∀(i:Nat) u qs,z.2.1[i]? =some u→(kernelTo A pv cols z.1)[i]? =some qs→RowR z.2.2.2 (Cv S w.heap.size z.2.2.1) (Cv S w.heap.size z.2.2.1) u qs),?_,?_⟩
 ·intro ρ w' r
  exact⟨(0,[],[],w'),⟨by simp,r.bel,by simp[kernelTo],by simp,by simp⟩,Sub.nil 7 T.row 1 rfl (by simp[ScE,SV.sc,At.sc,initE]) r fun ρ1 r1=>
   Sub.gen [] r1 ⟨rfl,trivial⟩ ⟨rfl,rfl,rfl,rfl,rfl,rfl,trivial⟩ (by simp[ScH,Blk.scopd]) (by simp[ScE,SV.sc,At.sc]) (by rfl) (by simp)⟩
 rintro⟨c,rv,iv,w1⟩ ⟨hc,hw,hrl,hrc,hK⟩
 dsimp only at hc hw hrl hrc hK ⊢
 have hAw:∀{w2},Bel w.heap.size w w2→MatR w2 S (.slice am A.length cm) A:=fun hb=>MatR.keep hA fun g hg=>hb.block g (hS g hg)
 have hpw:∀{w2},Bel w.heap.size w w2→IntsR w2 S (.slice ap pv.length cp) pv:=fun hb=>IntsR.keep hp fun g hg=>hb.block g (hS g hg)
 conv=>whnf
 refine BrS.mk (fun h=>?_) (fun h=>?_)
 ·have h:c<cols:=by simpa using h
  conv=>whnf
  refine callE_S (callE_con (Φ:=fun _ _ v _=>v= .bool (decide (c∈pv))) (fun ρ w' r=>contains_c (fun g hg=>by have:=hS g hg;have:=r.baseLe;omega) (hpw (hw.tr r.bel)) (by omega)) ?_)
  rintro ρ wa v1 wb r he hb rfl
  replace hw:=hw.tr hb
  replace hK:∀(i:Nat) u qs,rv[i]? =some u→(kernelTo A pv cols c)[i]? =some qs→RowR wb (Cv S w.heap.size ((wa.heap.size,wb.heap.size)::iv)) (Cv S w.heap.size ((wa.heap.size,wb.heap.size)::iv)) u qs:=
   fun i u qs h1 h2=>(hK i u qs h1 h2).past r hS hS he fun x hx=>List.mem_cons_of_mem _ hx
  clear r he hb
  generalize (wa.heap.size,wb.heap.size)::iv=iv2 at*
  conv=>whnf
  refine BrS.mk (fun hm=>?_) (fun hm=>?_)
  ·have hm:c∈pv:=of_decide_eq_true hm
   conv=>whnf
   refine⟨((c+1:Nat):Int),by rw[wrap64]<;>omega,?_⟩
   conv=>whnf
   intro ρ3 w3 r3
   refine⟨(c+1,rv,iv2,w3),⟨h,hw.tr r3.bel,by dsimp only;rw[kernelTo_in hm];exact hrl,by dsimp only;omega,fun i u qs h1 h2=>?_⟩,
    Sub.gen [] r3 ⟨rfl,trivial⟩ ⟨rfl,rfl,rfl,rfl,rfl,rfl,trivial⟩ (by simp[ScH,Blk.scopd]) (by simp[ScE,SV.sc,At.sc]) (by rfl) (fun lo hi h=>h),by dsimp only;omega⟩
   rw[kernelTo_in hm]at h2
   exact(hK i u qs h1 h2).rel r3 hS hS
  ·have hm:c∉pv:=of_decide_eq_false hm
   conv=>whnf
   refine callE_S (callE_con (Φ:=fun _ w' v w2=>RowX w2 (fun _=>False) w'.heap.size [(w'.heap.size,w2.heap.size)] v cols (List.replicate cols 0)) (fun ρ w' r=>zeros_c cols w' (by omega)) ?_)
   rintro ρ wa v1 wb' r he hb hx
   have hX:=hx.got (S:=S) (iv:=(wa.heap.size,wb'.heap.size)::iv2) r.baseLe List.mem_cons_self
   have hxn:∀g,v1.ownBlock=some g→wa.heap.size≤g:=fun g hg=>by
    rcases hx.new g hg with h|⟨h,_⟩
    ·exact h.elim
    ·exact h
   have hxo:∀g,v1.ownBlock=some g→¬Cv S w.heap.size iv2 g:=fun g hg h=>by
    have:=Rel.old r hS g h;have:=hxn g hg;omega
   replace hw:=hw.tr hb
   replace hK:∀(i:Nat) u qs,rv[i]? =some u→(kernelTo A pv cols c)[i]? =some qs→RowR wb' (Cv S w.heap.size iv2) (Cv S w.heap.size iv2) u qs:=
    fun i u qs h1 h2=>((hK i u qs h1 h2).rel r hS hS).keep fun g hg=>he.block g (hg.elim (Rel.old r hS g) (Rel.old r hS g))
   have hsub:∀p,p∈iv2→p∈(wa.heap.size,wb'.heap.size)::iv2:=fun p hp=>List.mem_cons_of_mem _ hp
   have hxB:∀g,v1.ownBlock=some g→w.heap.size≤g:=fun g hg=>by have:=hxn g hg;have:=r.baseLe;omega
   clear r he hb hx hxn
   generalize (wa.heap.size,wb'.heap.size)::iv2=iv3 at*
   obtain⟨ax,cx,rfl,-⟩:=hX.row.form
   conv=>whnf
   refine callE_S (callE_con (Φ:=fun _ w' v w2=>FracR w2 (Nw (fun _=>False) w' w2) v ((1:Int):Rat)) (fun ρ w' r=>whole_c 1 w' (by decide) (by decide)) ?_)
   rintro ρ wa v1 wb r he hb hO
   have hON:FracR wb (fun g=>Cv S w.heap.size ((wa.heap.size,wb.heap.size)::iv3) g∧(Value.slice ax cols cx).ownBlock≠some g) v1 ((1:Int):Rat):=
    hO.apart (fun g hg=>⟨Rel.old r hS g (cvF (hX.new g hg)),fun h=>h⟩) r.baseLe fun g hg=>hg.elim
   replace hX:=hX.past (iv':=(wa.heap.size,wb.heap.size)::iv3) r hS he fun x hx=>List.mem_cons_of_mem _ hx
   replace hK:∀(i:Nat) u qs,rv[i]? =some u→(kernelTo A pv cols c)[i]? =some qs→RowR wb (Cv S w.heap.size iv2) (Cv S w.heap.size iv2) u qs:=
    fun i u qs h1 h2=>(hK i u qs h1 h2).keep fun g hg=>by
     have hg:Cv S w.heap.size iv3 g:=(hg.elim id id).mono hsub
     rw[he.block g (Rel.old r hS g hg),Rel.same r hS hg]
   replace hw:=hw.tr hb
   replace hsub:∀p,p∈iv2→p∈(wa.heap.size,wb.heap.size)::iv3:=fun p hp=>List.mem_cons_of_mem _ (hsub p hp)
   clear r he hb hO
   generalize (wa.heap.size,wb.heap.size)::iv3=iv4 at*
   obtain⟨b1,a1,n1,c1,b2,a2,n2,c2,rfl⟩:=hON.shape
   have hone:(((1:Int):Rat))=1:=rfl
   rw[hone]at hON
   conv=>whnf
   have hgx:∃g,ax=some ⟨g,0,none⟩:=by
    obtain⟨css,ho,_⟩:=hX.row
    rcases ho.2 with⟨_,h0⟩|⟨g,cap,cur,e,_⟩
    ·omega
    ·injection e with e;exact⟨g,e⟩
   obtain⟨gx,rfl⟩:=hgx
   refine⟨⟨gx,0,none⟩,rfl,⟨by omega,by omega⟩,?_⟩
   conv=>whnf
   intro ρ w' r
   obtain⟨_,hgx,h1,h2,h3,h4,h5⟩:=(hX.rel r hS).store h (FracR.keep hON fun g hg=>Rel.same r hS hg.1) r hS
   injection hgx with hgx
   injection hgx with hgx
   subst hgx
   replace hw:=hw.tr r.bel
   replace hK:∀(i:Nat) u qs,rv[i]? =some u→(kernelTo A pv cols c)[i]? =some qs→RowR w' (Cv S w.heap.size iv2) (Cv S w.heap.size iv2) u qs:=
    fun i u qs h1 h2=>(hK i u qs h1 h2).keep fun g hg=>Rel.same r hS ((hg.elim id id).mono hsub)
   have hold:∀g,Cv S w.heap.size iv4 g→g<w'.heap.size:=Rel.old r hS
   clear r hX hON
   refine⟨h1,h2,h3,fun w2 hw2=>?_⟩
   obtain⟨hX,hgr,-⟩:=h5 w2 hw2
   replace hw:Bel w.heap.size w w2:=hw.tr (Bel.grown hgr (fun g hg=>by injection hg with hg;subst hg;exact hxB gx rfl) (by have:=hw.size;omega))
   replace hK:∀(i:Nat) u qs,rv[i]? =some u→(kernelTo A pv cols c)[i]? =some qs→RowR w2 (Cv S w.heap.size iv2) (Cv S w.heap.size iv2) u qs:=
    fun i u qs h1 h2=>(hK i u qs h1 h2).keep fun g hg=>hgr.block g (hold g ((hg.elim id id).mono hsub)) fun e=>by
     injection e with e;subst e;exact hxo _ rfl (hg.elim id id)
   clear h1 h2 h3 h4 h5 hw2 hgr hold
   conv=>whnf
   refine⟨Nat×Iv×World,fun z=>⟨[(0,.o (.v (.slice am A.length cm))),(1,.o (.v (.slice ap pv.length cp))),(2,.o (.v (.int .i64 cols))),(7,.o (.w 0 rv.length)),(8,.o (.v (.int .i64 c))),(9,.o (.v (.slice (some ⟨gx,0,none⟩) cols cx))),(12,.o (.v (.int .i64 cols))),(13,.o (.v (.int .i64 c))),
     (25,.o (.v (.slice ap pv.length cp))),(26,.o (.v (.int .i64 pv.length))),(27,.o (.v (.int .i64 z.1)))],[(0,.vec T.row 1 rv)],1,z.2.1,z.2.2⟩,fun z=>pv.length-z.1,
    fun z=>z.1≤pv.length∧Bel w.heap.size w z.2.2∧(∀p,p∈iv2→p∈z.2.1)∧RowX z.2.2 S w.heap.size z.2.1 (.slice (some ⟨gx,0,none⟩) cols cx) cols (kvecTo A pv cols c z.1)∧
     ∀(i:Nat) u qs,rv[i]? =some u→(kernelTo A pv cols c)[i]? =some qs→RowR z.2.2 (Cv S w.heap.size iv2) (Cv S w.heap.size iv2) u qs,?_,?_⟩
   ·intro ρ w' r
    exact⟨(0,iv4,w'),⟨by simp,hw.tr r.bel,hsub,hX.rel r hS,fun i u qs h1 h2=>(hK i u qs h1 h2).keep fun g hg=>Rel.same r hS ((hg.elim id id).mono hsub)⟩,
     Sub.gen [] r ⟨rfl,trivial⟩ ⟨rfl,rfl,rfl,rfl,rfl,rfl,rfl,rfl,rfl,rfl,rfl,trivial⟩ (by simp[ScH,Blk.scopd]) (by simp[ScE,SV.sc,At.sc]) (by rfl) (fun lo hi h=>h)⟩
   clear hX hK hsub
   rintro⟨i,iv5,w5⟩ ⟨hi,hw,hsub,hX,hK⟩
   dsimp only at hi hw hsub hX hK ⊢
   conv=>whnf
   refine BrS.mk (fun hi2=>?_) (fun hi2=>?_)
   ·have hi2:i<pv.length:=by simpa using hi2
    obtain⟨p,hpi⟩:∃p,pv[i]? =some p:=⟨_,List.getElem?_eq_getElem hi2⟩
    have hpd:pv.getD i 0=p:=by rw[List.getD,hpi];rfl
    have hpcol:=hpc p (List.mem_of_getElem? hpi)
    obtain⟨ra,hra⟩:∃r,A[i]? =some r:=⟨_,List.getElem?_eq_getElem (by omega)⟩
    have hral:=hrow ra (List.mem_of_getElem? hra)
    have hp5:=hpw hw
    have hA5:=hAw hw
    obtain⟨_,_,_,_,_,hpe,_,hpcell⟩:=hp5
    injection hpe with hpe1 hpe2 hpe3
    subst hpe1 hpe3
    obtain⟨adp,rfl,kp1,kp2⟩:=hpcell i (.int .i64 (p:Int)) (by rw[List.getElem?_map,hpi];rfl)
    obtain⟨adm,um,rfl,hRm,km1,km2⟩:=SlicesR.load hA5 hra
    obtain⟨au,cu,hue⟩:=SlicesR.rowOf hRm
    rw[hral]at hue
    subst hue
    obtain⟨q,hq⟩:∃q,ra[c]? =some q:=⟨_,List.getElem?_eq_getElem (by omega)⟩
    have hat:at2 A i c=q:=by
     have:A.getD i []=ra:=by rw[List.getD,hra];rfl
     rw[at2,this,List.getD,hq];rfl
    obtain⟨adq,cs,rfl,hF,hl⟩:=hRm.load hq
    obtain⟨b3,a3,n3,c3,b4,a4,n4,c4,rfl,hF⟩:=hF
    have hSame:∀{ρ w'},Rel [(0,.vec T.row 1 rv)] 1 iv5 w.heap.size w5 ρ w'→∀{g},S g→w'.heap[g]? =w5.heap[g]? :=fun r g hg=>Rel.same (S:=S) r hS (.inl hg)
    conv=>whnf
    refine⟨adp,rfl,⟨by omega,by omega⟩,?_⟩
    conv=>whnf
    refine⟨.int .i64 (p:Int),fun ρ w' r=>?_,?_⟩
    ·rw[Int.toNat_natCast,Nat.mul_one,cell_of_heap (w:=w5) (w2:=w') (by rw[addB];exact Rel.same (S:=S) r hS (.inl kp1))]
     exact kp2
    conv=>whnf
    refine⟨adm,rfl,⟨by omega,by omega⟩,?_⟩
    conv=>whnf
    refine⟨.slice (some adq) n cu,fun ρ w' r=>?_,?_⟩
    ·rw[Int.toNat_natCast,cell_of_heap (w:=w5) (w2:=w') (by rw[addB];exact Rel.same (S:=S) r hS (.inl km1))]
     exact km2
    conv=>whnf
    refine⟨adq,rfl,⟨by omega,by omega⟩,?_⟩
    conv=>whnf
    refine⟨[.bool b3,.slice a3 n3 c3,.bool b4,.slice a4 n4 c4],rfl,fun ρ w' r j u hu=>?_,?_⟩
    ·obtain⟨k1,k2⟩:=hl j u hu
     rw[Int.toNat_natCast,cell_of_heap (w:=w5) (w2:=w') (by rw[addB,addB];exact Rel.same (S:=S) r hS (.inl k1))]
     exact k2
    conv=>whnf
    refine callE_S (callE_con (Φ:=fun _ w' v w2=>FracR w2 (Nw S w' w2) v (-q)) (fun ρ w' r=>fminus_c (fun g hg=>by have:=hS g hg;have:=r.baseLe;omega) (hF.keep fun g hg=>Rel.same (S:=S) r hS (.inl hg))) ?_)
    rintro ρ wa v1 wb r he hb hO
    have hON:FracR wb (fun g=>Cv S w.heap.size ((wa.heap.size,wb.heap.size)::iv5) g∧(Value.slice (some ⟨gx,0,none⟩) cols cx).ownBlock≠some g) v1 (-q):=
     hO.apart (fun g hg=>⟨Rel.old r hS g (cvF (hX.new g hg)),fun h=>by have:=hS g h;have:=hxB g hg;omega⟩) r.baseLe fun g hg=>hg
    replace hX:=(hX.past (iv':=(wa.heap.size,wb.heap.size)::iv5) r hS he fun x hx=>List.mem_cons_of_mem _ hx)
    replace hK:∀(i:Nat) u qs,rv[i]? =some u→(kernelTo A pv cols c)[i]? =some qs→RowR wb (Cv S w.heap.size iv2) (Cv S w.heap.size iv2) u qs:=
     fun i u qs h1 h2=>(hK i u qs h1 h2).keep fun g hg=>by
      have hg:Cv S w.heap.size iv5 g:=(hg.elim id id).mono hsub
      rw[he.block g (Rel.old r hS g hg),Rel.same r hS hg]
    replace hw:=hw.tr hb
    replace hsub:∀p,p∈iv2→p∈(wa.heap.size,wb.heap.size)::iv5:=fun p hp=>List.mem_cons_of_mem _ (hsub p hp)
    clear r he hb hO hF hl hRm hA5 hSame kp1 kp2 km1 km2 hpcell
    generalize (wa.heap.size,wb.heap.size)::iv5=iv6 at*
    obtain⟨b1,a1,n1,c1,b2,a2,n2,c2,rfl⟩:=hON.shape
    conv=>whnf
    refine⟨⟨gx,0,none⟩,rfl,⟨by omega,by omega⟩,?_⟩
    conv=>whnf
    intro ρ w' r
    obtain⟨_,hgx,h1,h2,h3,h4,h5⟩:=(hX.rel r hS).store hpcol (FracR.keep hON fun g hg=>Rel.same r hS hg.1) r hS
    injection hgx with hgx
    injection hgx with hgx
    subst hgx
    replace hw:=hw.tr r.bel
    replace hK:∀(i:Nat) u qs,rv[i]? =some u→(kernelTo A pv cols c)[i]? =some qs→RowR w' (Cv S w.heap.size iv2) (Cv S w.heap.size iv2) u qs:=
     fun i u qs h1 h2=>(hK i u qs h1 h2).keep fun g hg=>Rel.same r hS ((hg.elim id id).mono hsub)
    have hold:∀g,Cv S w.heap.size iv6 g→g<w'.heap.size:=Rel.old r hS
    clear r hX hON
    refine⟨h1,h2,h3,fun w2 hw2=>?_⟩
    obtain⟨hX,hgr,-⟩:=h5 w2 hw2
    replace hw:Bel w.heap.size w w2:=hw.tr (Bel.grown hgr (fun g hg=>by injection hg with hg;subst hg;exact hxB gx rfl) (by have:=hw.size;omega))
    replace hK:∀(i:Nat) u qs,rv[i]? =some u→(kernelTo A pv cols c)[i]? =some qs→RowR w2 (Cv S w.heap.size iv2) (Cv S w.heap.size iv2) u qs:=
     fun i u qs h1 h2=>(hK i u qs h1 h2).keep fun g hg=>hgr.block g (hold g ((hg.elim id id).mono hsub)) fun e=>by
      injection e with e;subst e;exact hxo _ rfl (hg.elim id id)
    clear h1 h2 h3 h4 h5 hw2 hgr hold
    rw[←hat,←hpd,←kvecTo_succ]at hX
    conv=>whnf
    refine⟨((i+1:Nat):Int),by rw[wrap64]<;>omega,?_⟩
    conv=>whnf
    intro ρ3 w3 r3
    exact⟨(i+1,iv6,w3),⟨hi2,hw.tr r3.bel,hsub,hX.rel r3 hS,fun i u qs h1 h2=>(hK i u qs h1 h2).keep fun g hg=>Rel.same r3 hS ((hg.elim id id).mono hsub)⟩,
     Sub.gen [] r3 ⟨rfl,trivial⟩ ⟨rfl,rfl,rfl,rfl,rfl,rfl,rfl,rfl,rfl,rfl,rfl,trivial⟩ (by simp[ScH,Blk.scopd]) (by simp[ScE,SV.sc,At.sc]) (by rfl) (fun lo hi h=>h),by dsimp only;omega⟩
   ·have hi2:i=pv.length:=by
     have:¬i<pv.length:=by simpa using hi2
     omega
    subst hi2
    have hxR:=hX.read
    conv=>whnf
    refine .inl ?_
    conv=>whnf
    refine⟨by simp,by omega,by unfold maxLen;omega,?_⟩
    conv=>whnf
    refine⟨((c+1:Nat):Int),by rw[wrap64]<;>omega,?_⟩
    conv=>whnf
    intro ρ3 w3 r3
    have hl5:(rv++[Value.slice (some ⟨gx,0,none⟩) cols cx]).length=rv.length+1:=by simp
    refine⟨(c+1,rv++[.slice (some ⟨gx,0,none⟩) cols cx],iv5,w3),⟨h,hw.tr r3.bel,by dsimp only;rw[kernelTo_out hm,hl5,hrl];simp,by dsimp only;rw[hl5];omega,fun i u qs h1 h2=>?_⟩,
     Sub.gen [(0,2)] r3 ⟨rfl,trivial⟩ ⟨rfl,rfl,rfl,by dsimp only;rw[hl5];rfl,rfl,rfl,trivial⟩ (by simp[ScH,Blk.scopd]) (by simp[ScE,SV.sc,At.sc]) (by rfl) (fun lo hi h=>h),by dsimp only;omega⟩
    rw[kernelTo_out hm]at h2
    dsimp only at h1 h2 ⊢
    rcases Nat.lt_or_ge i rv.length with hil|hil
    ·rw[List.getElem?_append_left hil]at h1
     rw[List.getElem?_append_left (by rw[←hrl];exact hil)]at h2
     exact((hK i u qs h1 h2).weak (fun g hg=>hg.mono hsub) fun g hg=>hg.mono hsub).rel r3 hS hS
    ·have h0:i=rv.length:=by
      have:=(List.getElem?_eq_some_iff.1 h1).1
      rw[hl5]at this;omega
     subst h0
     rw[List.getElem?_append_right (Nat.le_refl _),Nat.sub_self]at h1
     rw[hrl,List.getElem?_append_right (Nat.le_refl _),Nat.sub_self]at h2
     simp at h1 h2
     subst h1 h2
     exact hxR.rel r3 hS hS
 ·have h:c=cols:=by
   have:¬c<cols:=by simpa using h
   omega
  subst h
  conv=>whnf
  intro ρe we re
  refine⟨_,rfl,hw.tr re.bel,?_⟩
  have hv:=re.vecSeq (id:=0) (sz:=1) (m:=rv.length) rfl (by simp) (by unfold maxLen;omega) (by decide) (fun u hu=>by
   obtain⟨i,hi⟩:=List.getElem?_of_mem hu
   obtain⟨a,cc,e⟩:=SlicesR.rowOf (hK i u _ hi (List.getElem?_eq_getElem (by rw[←hrl];exact(List.getElem?_eq_some_iff.1 hi).1)))
   rw[e]
   rfl)
  refine⟨rv,?_,hrl,fun i u qs h1 h2=>?_⟩
  ·rw[←hrl]
   exact hv.weak fun g hg=>.inr hg
  ·exact((hK i u qs h1 h2).rel re hS hS).weak (fun g hg=>Cv.nw hg re) fun g hg=>Cv.nw hg re
end Go.Ex

/- Clone of a row; what solve needs. No condition but sizes. -/
namespace Go.Ex
open Go Go.Sx Go.Proofs

/-- a part of a row, from an element on -/
theorem RowR.from{C S:Nat→Prop}{w:World}{a:Option Addr}{n c k:Nat}{qs:List Rat}(h:RowR w C S (.slice a n c) qs)(hk:k≤n):
  RowR w C S (.slice (if (c:Int)=(k:Int)then a else a.map (·.add (k*4))) (n-k) (c-k)) (qs.drop k):=by
 obtain⟨css,⟨h0,h1,h2,a',c',e,h3,h4⟩,hf⟩:=h
 injection e with e1 e2 e3
 subst e1 e2 e3
 have hd:(css.drop k).flatten=css.flatten.drop (k*4):=by
  have:=flat_len (css:=css.take k) (fun cs hc=>hf.len4 cs (List.mem_of_mem_take hc))
  conv=>rhs;rw[←List.take_append_drop k css,List.flatten_append]
  have hl:(css.take k).length=k:=by rw[List.length_take,hf.1];omega
  rw[hl]at this
  rw[←this,List.drop_left]
 refine⟨css.drop k,⟨?_,?_,?_,_,c-k,by rw[List.length_drop],by simp;omega,fun j u hu=>?_⟩,?_,fun j cs q hc hq=>?_⟩
 ·simp;omega
 ·rw[hd,List.length_drop,h1,List.length_drop,Nat.sub_mul]
 ·intro u hu
  rw[hd]at hu
  exact h2 u (List.mem_of_mem_drop hu)
 ·rw[hd,List.getElem?_drop]at hu
  obtain⟨ad,k1,k2,k3⟩:=h4 (k*4+j) u hu
  have hlt:=(List.getElem?_eq_some_iff.1 hu).1
  subst k1
  rw[if_neg (by omega)]
  refine⟨ad.add (k*4),rfl,by rw[addB];exact k2,?_⟩
  rw[←k3]
  have:(ad.add (k*4)).add j=ad.add (k*4+j):=by
   unfold Addr.add
   split<;>split<;>simp_all<;>omega
  rw[this]
 ·rw[List.length_drop,List.length_drop,hf.1]
 ·rw[List.getElem?_drop]at hc hq
  exact hf.2 _ cs q hc hq
theorem cloneR_c{C S:Nat→Prop}{w:World}{v:Value}{qs:List Rat}(hC:Old C w)(hS:Old S w)(h:RowR w C S v qs)(hn:0<qs.length)(hl:qs.length≤1000000):
  Con PG N.slices_Clone_of_exact_row_exact_fraction_of #[v] w (Ret w fun v' w2=>RowW w2 S v' qs.length qs∧(∀g,v'.ownBlock=some g→w.heap.size≤g∧g<w2.heap.size)):=by
 obtain⟨a,c,rfl,hc,hm⟩:=h.shape
 obtain⟨css,⟨h0,h1,h2,a',c',e,h3,h4⟩,hf⟩:=h
 injection e with e1 e2 e3
 subst e1 e3
 have hcl:css.length=qs.length:=hf.1
 obtain⟨ad,rfl⟩:∃ad,a=some ad:=by
  obtain⟨ad,k1,_⟩:=h4 0 _ (List.getElem?_eq_getElem (show 0<css.flatten.length by omega))
  exact⟨ad,k1⟩
 refine in_slices_Clone_of_exact_row_exact_fraction_of (by simp) ?_
 conv=>whnf
 refine⟨false,fun ρ w1 o1 o2=>by simp[eqGuard,SV.den,At.den,run_eql_nilslice (P:=PG) w1 T.row T.fraction (some ad) qs.length c 0 0 und_row],?_⟩
 conv=>whnf
 refine .inl ?_
 conv=>whnf
 refine⟨css.flatten,h1,h2,fun ρ w1 r h0=>⟨ad,rfl,fun j u hu=>?_⟩,?_⟩
 ·obtain⟨ad2,k1,k2,k3⟩:=h4 j u hu
  injection k1 with k1
  subst k1
  exact cellS hC Bel.refl r k2 k3
 conv=>whnf
 refine⟨rfl,by omega,by unfold maxLen;omega,?_⟩
 conv=>whnf
 intro ρ3 w3 r3
 refine⟨_,rfl,r3.bel,?_⟩
 have hf3:Fr w3 S css qs:=hf.keep fun g hg=>r3.bel.block g (hS g hg)
 rcases r3.vec 1 T.fraction 4 css.flatten rfl with⟨hnil,hemp⟩|⟨hnil,spare,hb,hcp,hcap⟩
 ·rw[hemp]at h1;simp at h1;omega
 have hlow:=r3.low 1 _ rfl hnil
 have hval:((At.w 1 (0+qs.length)).den ρ3)= .slice (some ⟨(ρ3 1).g,0,none⟩) qs.length (ρ3 1).cap:=by simp[At.den,hnil]
 show RowW w3 S ((At.w 1 (0+qs.length)).den ρ3) qs.length qs∧∀g,((At.w 1 (0+qs.length)).den ρ3).ownBlock=some g→_
 rw[hval]
 have hls:(css.flatten++spare).length=css.flatten.length+spare.length:=List.length_append
 refine⟨⟨css,⟨h1,.inr ⟨(ρ3 1).g,(ρ3 1).cap,(css.flatten++spare).toArray,rfl,Nat.zero_le _,hb,by omega,hcap,by simpa using hcp,?_⟩⟩,hcl,hf3⟩,fun g hg=>?_⟩
 ·rw[←h1];simp
 ·injection hg with hg
  subst hg
  exact hlow
end Go.Ex
namespace Go.Sx
open Go Go.Ex Go.Proofs
/-- the array of one's own that a callee has written -/
theorem Rel.arrWritten{H1 H2:Hp}{nx:Nat}{iv:Iv}{B:Nat}{w w' w2:World}{ρ:Nat→Sx.Val}{X:Nat→Prop}{t id:Nat}{cs cs':List Value}(r:Rel H1 nx iv B w ρ w')(h1:getH H1 id=some (.arr t cs))(h2:getH H2 id=some (.arr t cs'))(ho:∀j,j≠id→getH H2 j=getH H1 j)
  (k:Kept w' w2 X) (hX:∀g,X g→g=(ρ id).g∨∀j b,getH H1 j=some b→(ρ j).nil=false→(ρ j).g≠g) (hb:w2.heap[(ρ id).g]? =some (.cells cs'.toArray t (0,0))):Rel H2 nx ((w'.heap.size,w2.heap.size)::iv) B w2 ρ w2:=by
 have hnil:(ρ id).nil=false:=(r.fits h1).1
 have get:∀j b,getH H2 j=some b→∃b1,getH H1 j=some b1∧(j≠id→b1=b)∧(b≠ .dead→b1≠ .dead):=fun j b h=>by
  by_cases hj:j=id
  ·subst hj
   exact⟨_,h1,fun h=>absurd rfl h,fun _=>by simp⟩
  ·rw[ho j hj]at h
   exact⟨b,h,fun _=>rfl,fun h=>h⟩
 refine Rel.mk' rfl rfl rfl (Nat.le_refl _) (by have:=r.base;have:=r.size;have:=k.size;omega) (fun lo hi hm=>?_) (fun j b h=>?_) (fun j b h=>?_) (fun j b h=>?_) (fun i j b b' hi hj di dj ni nj e=>?_) (fun j b h hn=>?_) (fun _ _ _=>rfl) (fun lo hi hm j b h hn hc=>?_)
 ·rcases List.mem_cons.1 hm with e|hm
  ·injection e with e1 e2;omega
  ·have:=r.ivs lo hi hm;have:=r.size;have:=k.size;omega
 ·obtain⟨b1,h3,_⟩:=get j b h
  exact r.keys j b1 h3
 ·by_cases hj:j=id
  ·subst hj
   rw[h2]at h
   injection h with h
   subst h
   exact⟨hnil,hb⟩
  ·rw[ho j hj]at h
   refine Blk.fits_keep (r.fits h) (fun _ _=>rfl) (r.scopd h) fun hn hd=>?_
   refine k.block _ (r.low j b h hn).2 fun hx=>?_
   rcases hX _ hx with e|e
   ·exact hj (r.inj j id b _ h h1 hd (by simp) hn hnil e)
   ·exact e j b h hn rfl
 ·by_cases hj:j=id
  ·subst hj
   rw[h2]at h
   injection h with h
   subst h
   trivial
  ·rw[ho j hj]at h
   exact r.scopd h
 ·obtain⟨b1,h3,_,h4⟩:=get i b hi
  obtain⟨b2,h5,_,h6⟩:=get j b' hj
  exact r.inj i j b1 b2 h3 h5 (h4 di) (h6 dj) ni nj e
 ·obtain⟨b1,h3,_⟩:=get j b h
  have:=r.low j b1 h3 hn
  have:=k.size
  omega
 ·obtain⟨b1,h3,_⟩:=get j b h
  have hl:=r.low j b1 h3 hn
  rcases List.mem_cons.1 hm with e|hm
  ·injection e with e1 e2;omega
  ·exact r.prot lo hi hm j b1 h3 hn hc
end Go.Sx
namespace Go.Ex
open Go Go.Sx Go.Proofs
end Go.Ex
