/- A part of the proof: texts X84 to L17. Each tells its conditions in its theorems. -/
import Derived.Test.YtneljlhlncjkhaaGreatDoorP13
/- Package exact: a matrix with rows of any lengths, and CheckSolution. Printed by program. No condition but sizes. -/
namespace Go.Ex
open Go Go.Sx Go.Proofs

def RowG(w:World)(S:Nat→Prop)(v:Value)(qs:List Rat):Prop:=RowR w S S v qs
def MatG(w:World)(S:Nat→Prop)(v:Value)(M:List (List Rat)):Prop:=MatR w S v M
theorem RowG.keep{S:Nat→Prop}{w w2:World}{v:Value}{qs:List Rat}(h:RowG w S v qs)(hk:∀g,S g→w2.heap[g]? =w.heap[g]?):RowG w2 S v qs:=RowR.keep h fun g hg=>hk g (hg.elim id id)
theorem RowG.weak{S S':Nat→Prop}{w:World}{v:Value}{qs:List Rat}(h:RowG w S v qs)(hk:∀g,S g→S' g):RowG w S' v qs:=RowR.weak h hk hk
theorem RowG.shape{S:Nat→Prop}{w:World}{v:Value}{qs:List Rat}(h:RowG w S v qs):∃a c,v= .slice a qs.length c:=by
 obtain⟨a,c,h,_⟩:=RowR.shape h
 exact⟨a,c,h⟩
theorem MatG.keep{S:Nat→Prop}{w w2:World}{v:Value}{M:List (List Rat)}(h:MatG w S v M)(hk:∀g,S g→w2.heap[g]? =w.heap[g]?):MatG w2 S v M:=MatR.keep h hk
theorem MatG.weak{S S':Nat→Prop}{w:World}{v:Value}{M:List (List Rat)}(h:MatG w S v M)(hk:∀g,S g→S' g):MatG w S' v M:=MatR.weak h hk
theorem MatG.shape{S:Nat→Prop}{w:World}{v:Value}{M:List (List Rat)}(h:MatG w S v M):∃a c,v= .slice a M.length c:=by
 obtain⟨a,c,h,_⟩:=SlicesR.shape (show MatR w S v M from h)
 exact⟨a,c,h⟩
/-- rows written so far -/
def RowsG(w:World)(S:Nat→Prop)(rv:List Value)(K:List (List Rat)):Prop:=∀(i:Nat) u r,rv[i]? =some u→K[i]? =some r→RowG w S u r
theorem RowsG.keep{S:Nat→Prop}{w w2:World}{v:List Value}{M:List (List Rat)}(h:RowsG w S v M)(hk:∀g,S g→w2.heap[g]? =w.heap[g]?):RowsG w2 S v M:=fun i u x h1 h2=>(h i u x h1 h2).keep hk
theorem RowsG.weak{S S':Nat→Prop}{w:World}{v:List Value}{M:List (List Rat)}(h:RowsG w S v M)(hk:∀g,S g→S' g):RowsG w S' v M:=fun i u x h1 h2=>(h i u x h1 h2).weak hk
section
variable{S S':Nat→Prop}{H:Hp}{nx:Nat}{iv iv':Iv}{B:Nat}{w w' w2:World}{ρ:Nat→Sx.Val}{v:Value}{qs:List Rat}
theorem RowG.rel(h:RowG w (Cv S B iv) v qs)(r:Rel H nx iv B w ρ w')(hS:∀g,S g→g<B):RowG w' (Cv S B iv) v qs:=h.keep fun _ hg=>Rel.same r hS hg
theorem RowG.past(h:RowG w (Cv S B iv) v qs)(r:Rel H nx iv B w ρ w')(hS:∀g,S g→g<B)(he:Ext w' w2)(hm:∀p,p∈iv→p∈iv'):RowG w2 (Cv S B iv') v qs:=
 ((h.rel r hS).keep fun g hg=>he.block g (Rel.old r hS g hg)).weak fun _ hg=>hg.mono hm
theorem RowG.old(h:RowG w2 (Nw (Cv S B iv) w' w2) v qs)(hB:B≤w'.heap.size):RowG w2 (Cv S B ((w'.heap.size,w2.heap.size)::iv)) v qs:=h.weak fun _ hg=>Nw.cv hg hB
end
section
variable{S S':Nat→Prop}{H:Hp}{nx:Nat}{iv iv':Iv}{B:Nat}{w w' w2:World}{ρ:Nat→Sx.Val}{v:Value}{M:List (List Rat)}
theorem MatG.rel(h:MatG w (Cv S B iv) v M)(r:Rel H nx iv B w ρ w')(hS:∀g,S g→g<B):MatG w' (Cv S B iv) v M:=h.keep fun _ hg=>Rel.same r hS hg
theorem MatG.past(h:MatG w (Cv S B iv) v M)(r:Rel H nx iv B w ρ w')(hS:∀g,S g→g<B)(he:Ext w' w2)(hm:∀p,p∈iv→p∈iv'):MatG w2 (Cv S B iv') v M:=
 ((h.rel r hS).keep fun g hg=>he.block g (Rel.old r hS g hg)).weak fun _ hg=>hg.mono hm
theorem MatG.got(h:MatG w2 (Nw (fun _=>False) w' w2) v M)(hB:B≤w'.heap.size)(hm:(w'.heap.size,w2.heap.size)∈iv):MatG w2 (Cv S B iv) v M:=h.weak fun _ hg=>hg.got hB hm
end
section
variable{S S':Nat→Prop}{H:Hp}{nx:Nat}{iv iv':Iv}{B:Nat}{w w' w2:World}{ρ:Nat→Sx.Val}{v:List Value}{M:List (List Rat)}
theorem RowsG.rel(h:RowsG w (Cv S B iv) v M)(r:Rel H nx iv B w ρ w')(hS:∀g,S g→g<B):RowsG w' (Cv S B iv) v M:=h.keep fun _ hg=>Rel.same r hS hg
theorem RowsG.past(h:RowsG w (Cv S B iv) v M)(r:Rel H nx iv B w ρ w')(hS:∀g,S g→g<B)(he:Ext w' w2)(hm:∀p,p∈iv→p∈iv'):RowsG w2 (Cv S B iv') v M:=
 ((h.rel r hS).keep fun g hg=>he.block g (Rel.old r hS g hg)).weak fun _ hg=>hg.mono hm
end
theorem matrixG_c{S:Nat→Prop}{w:World}{v:Value}{M:List (List (Int×Int))}(hS:Old S w)(h:RatMR w S v M)(hf:∀r∈M,Few r)(hn:∀r∈M,r.length≤1000000)(hR:M.length≤1000000):
  Con PG N.exact_matrix #[v] w (Ret w fun v' w2=>MatG w2 (Nw (fun _=>False) w w2) v' (valsM M)):=by
 replace h:=RatMR.arg h []
 obtain⟨a,c,rfl,hc,-⟩:=SlicesR.shape h
 refine in_exact_matrix (by simp) ?_
 conv=>whnf
 refine⟨M.length,M.length,rfl,rfl,Nat.le_refl _,by omega,by omega,?_⟩
 conv=>whnf
 refine⟨List Value×Iv×World,fun z=>⟨[(3,.o (.s 0 0 M.length M.length)),(9,.o (.v (.slice a M.length c))),(10,.o (.v (.int .i64 M.length))),(11,.o (.v (.int .i64 z.1.length)))],[(0,.arr T.row (z.1++List.replicate (M.length-z.1.length) (.slice none 0 0)))],1,z.2.1,z.2.2⟩,fun z=>M.length-z.1.length,
  fun z=>z.1.length≤M.length∧Bel w.heap.size w z.2.2∧RatMR z.2.2 (Cv S w.heap.size z.2.1) (.slice a M.length c) M∧RowsG z.2.2 (Cv (fun _=>False) w.heap.size z.2.1) z.1 (valsM M)∧∀u∈z.1,u.oneCell'=true,?_,?_⟩
 ·intro ρ w' r
  exact⟨([],[],w'),⟨by simp,r.bel,RatMR.rel h r hS,fun i u r h=>by simp at h,by simp⟩,Sub.gen [] r ⟨rfl,trivial⟩ ⟨rfl,rfl,rfl,rfl,trivial⟩ (by simp[ScH,Blk.scopd]) (by simp[ScE,SV.sc,At.sc]) (by rfl) (by simp)⟩
 clear h
 rintro⟨rv,iv,w1⟩ ⟨hi,hw,hX,hF,h1c⟩
 dsimp only at hi hw hX hF h1c ⊢
 conv=>whnf
 refine BrS.mk (fun h=>?_) (fun h=>?_)
 ·have h:rv.length<M.length:=by simpa using h
  obtain⟨x,hx⟩:∃x,M[rv.length]? =some x:=⟨_,List.getElem?_eq_getElem h⟩
  obtain⟨ad,u,rfl,hR1,hl1,hl2⟩:=SlicesR.load hX hx
  obtain⟨a2,c2,rfl⟩:=SlicesR.rowShape hR1
  have hxl:=hn x (List.mem_of_getElem? hx)
  conv=>whnf
  refine⟨ad,rfl,⟨by omega,by omega⟩,?_⟩
  conv=>whnf
  refine⟨.slice a2 x.length c2,fun ρ w' r=>?_,?_⟩
  ·have:=Rel.same r hS hl1
   rw[Int.toNat_natCast,cell_of_heap (w:=w1) (w2:=w') (by rw[addB];exact this)]
   exact hl2
  conv=>whnf
  refine callE_S (callE_con (Φ:=fun _ w' v w2=>RowX w2 (fun _=>False) w'.heap.size [(w'.heap.size,w2.heap.size)] v x.length (x.map ratioP)) (fun ρ w' r=>values_c (Rel.old r hS) (RatsR.rel hR1 r hS) (hf x (List.mem_of_getElem? hx)) hxl) ?_)
  rintro ρ wa v1 wb r he hb hO
  have hON:RowG wb (Cv (fun _=>False) w.heap.size ((wa.heap.size,wb.heap.size)::iv)) v1 (x.map ratioP):=(RowX.got (S:=fun _=>False) hO r.baseLe List.mem_cons_self).read
  replace hX:=RatMR.past (iv':=(wa.heap.size,wb.heap.size)::iv) hX r hS he fun x hx=>List.mem_cons_of_mem _ hx
  replace hF:=hF.past (iv':=(wa.heap.size,wb.heap.size)::iv) r (oldF w) he fun x hx=>List.mem_cons_of_mem _ hx
  replace hw:=hw.tr hb
  clear r he hb hO hR1 hl1 hl2
  generalize (wa.heap.size,wb.heap.size)::iv=iv2 at*
  obtain⟨a3,c3,rfl⟩:=hON.shape
  rw[List.length_map]at hON ⊢
  conv=>whnf
  refine⟨⟨by omega,by omega⟩,?_⟩
  conv=>whnf
  refine⟨by simp;omega,(rv++[.slice a3 x.length c3])++List.replicate (M.length-(rv.length+1)) (.slice none 0 0),?_,?_⟩
  ·have h5:M.length-rv.length=(M.length-(rv.length+1))+1:=by omega
   simp[h5,List.replicate_succ]
  conv=>whnf
  refine⟨((rv.length+1:Nat):Int),by rw[wrap64]<;>omega,?_⟩
  conv=>whnf
  intro ρ3 w3 r3
  have hl3:(rv++[Value.slice a3 x.length c3]).length=rv.length+1:=by simp
  refine⟨(rv++[.slice a3 x.length c3],iv2,w3),⟨by dsimp only;rw[hl3];exact h,hw.tr r3.bel,RatMR.rel hX r3 hS,?_,?_⟩,Sub.gen [] r3 ⟨by dsimp only;rw[hl3];rfl,trivial⟩ ⟨rfl,rfl,rfl,by dsimp only;rw[hl3];rfl,trivial⟩ (by simp[ScH,Blk.scopd]) (by simp[ScE,SV.sc,At.sc]) (by rfl) (fun lo hi h=>h),by dsimp only;rw[hl3];omega⟩
  ·intro i u y h1 h2
   refine RowG.rel ?_ r3 (oldF w)
   rcases Nat.lt_or_ge i rv.length with hi2|hi2
   ·rw[List.getElem?_append_left hi2]at h1
    exact hF i u y h1 h2
   ·have hi0:i=rv.length:=by have:=(List.getElem?_eq_some_iff.1 h1).1;simp at this;omega
    subst hi0
    rw[List.getElem?_append_right (Nat.le_refl _),Nat.sub_self]at h1
    simp only[valsM,List.getElem?_map,hx]at h2
    simp at h1 h2
    subst h1 h2
    exact hON
  ·intro u hu
   rcases List.mem_append.1 hu with hu|hu
   ·exact h1c u hu
   ·simp at hu;subst hu;rfl
 ·have h:rv.length=M.length:=by
   have:¬rv.length<M.length:=by simpa using h
   omega
  rw[h,Nat.sub_self,List.replicate_zero,List.append_nil]
  conv=>whnf
  intro ρe we re
  refine⟨_,rfl,hw.tr re.bel,?_⟩
  have hnil:=re.nn 0 _ rfl (by intros;simp) (by simp)
  have hlow:=re.low 0 _ rfl hnil
  have hs:=re.arrSeq (id:=0) (t:=T.row) (n:=M.length) (sz:=1) (cs:=rv) rfl (by omega) (by unfold maxLen;omega) h1c
  have hvl:(valsM M).length=M.length:=by simp[valsM]
  refine⟨rv,?_,by rw[hvl,h],fun i u x h1 h2=>((hF.rel re (oldF w)) i u x h1 h2).weak fun g hg=>Cv.nw hg re⟩
  rw[hvl]
  exact hs.weak fun g hg=>.inr (by subst hg;exact hlow)
theorem run_eql_nilslice(w:World)(t e:TypeId)(a:Option Addr)(n c n' c':Nat)(h:PG.underlying t=some (.slice e)):
  (binOp .eql t (.slice a n c) (.slice none n' c')).run PG w= .ok (.bool a.isNone) w:=by
 have:∀d,(Op.equalIn (d+1) t (.slice a n c) (.slice none n' c')).run PG w= .ok a.isNone w:=fun d=>by cases a<;>simp[Op.equalIn,run_underlying h]
 simp only[binOp]
 cases a<;>simp[Op.equal,Op.maxDepth,this 9999]
end Go.Ex

/- Package exact: CheckSolution. Printed by program. No condition but sizes. -/
namespace Go.Ex
open Go Go.Sx Go.Proofs

end Go.Ex

/- Certificates of linear programs of package exact: CheckOptimum. Printed by program. No condition but sizes. -/
namespace Go.Ex
open Go Go.Sx Go.Proofs

theorem rs_neg_iff{q:Rat}:rs q<0↔q<0:=by rw[rs,Int.sign_neg_iff,←Int.not_le,Rat.num_nonneg,Rat.not_le]
theorem rs_pos_iff{q:Rat}:0<rs q↔0<q:=by
 have h:=rs_neg_iff (q:= -q)
 rw[rs_neg]at h
 constructor
 ·intro k;have:=h.1 (by omega);grind
 ·intro k;have:=h.2 (by grind);omega
theorem rs_sub_neg{p q:Rat}:rs (p-q)<0↔p<q:=by rw[rs_neg_iff];constructor<;>intro h<;>grind
theorem rs_sub_pos{p q:Rat}:0<rs (p-q)↔q<p:=by rw[rs_pos_iff,←Rat.lt_iff_sub_pos]
/-- each element is at least that of another list -/
def GeF(xs ys:List Rat):Prop:=∀i,i<xs.length→ys.getD i 0≤xs.getD i 0
abbrev nulls(n:Nat):List Rat:=List.replicate n 0
/-- a list is possible with right sides -/
def PosF(M:List (List Rat))(n:Nat)(x b:List Rat):Prop:=x.length=n∧GeF x (nulls x.length)∧∀(i:Nat) r,M[i]? =some r→dotTo r x r.length≤b.getD i 0
/-- dual values are possible for an objective -/
def BndF(M:List (List Rat))(y c:List Rat):Prop:=y.length=M.length∧GeF y (nulls y.length)∧GeF (throughF y M c.length M.length) c
/-- a certificate, by its values -/
def RightO(M:List (List Rat))(b c:List Rat)(z:Int)(X Y R:List Rat)(q:Rat):Prop:=
 (z=0∧R=[]∧PosF M c.length X b∧BndF M Y c∧dotTo c X c.length=q∧dotTo Y b Y.length=q)∨
 (z=1∧X=[]∧R=[]∧q=0∧BndF M Y (nulls c.length)∧dotTo Y b Y.length<0)∨
 (z=2∧Y=[]∧q=0∧PosF M c.length X b∧PosF M c.length R (nulls b.length)∧0<dotTo c R c.length)
/-- the error of a program -/
def errP(M:List (List (Int×Int)))(b c:List (Int×Int)):Nat:=if errM M≠0 then errM M else if b.length≠M.length∨(0<M.length∧c.length≠colsM M)then 11 else if 60<c.length then 8 else 0
theorem errP_zero{M:List (List (Int×Int))}{b c:List (Int×Int)}(h:errP M b c=0):errM M=0∧b.length=M.length∧c.length≤60∧M.length≤60∧∀r∈M,r.length=c.length:=by
 unfold errP at h
 split at h
 ·rename_i h3;exact absurd h h3
 ·rename_i h3
  split at h
  ·cases h
  ·rename_i h4
   split at h
   ·cases h
   ·rename_i h5
    have h3:errM M=0:=by omega
    obtain⟨hrow,hl,-⟩:=errM_zero h3
    refine⟨h3,by omega,by omega,hl,fun r hr=>?_⟩
    have:=List.length_pos_of_mem hr
    rw[hrow r hr]
    omega
theorem checkProgram_c{S:Nat→Prop}{w:World}{vm vb vc:Value}{M:List (List (Int×Int))}{b c:List (Int×Int)}(hS:Old S w)(h:RatMR w S vm M)(hb:RatsR w S vb b)(hc:RatsR w S vc c):
  Con PG N.exact_checkProgram #[.agg #[vm,vb,vc]] w (Ret w fun v' _=>v'= .int .i64 (errP M b c)):=by
 have hw:Bel w.heap.size w w:=Bel.refl
 obtain⟨am,cm,rfl,hcm,hmm⟩:=SlicesR.shape h
 obtain⟨ab,cb,rfl,hcb,hmb⟩:=ListR.shape hb
 obtain⟨ac,cc,rfl,hcc,hmc⟩:=ListR.shape hc
 unfold maxLen at hmm hmb hmc
 refine in_exact_checkProgram (by simp) ?_
 conv=>whnf
 refine callE_S (callE_con (Φ:=fun _ w' v w2=>v= .int .i64 (errM M)) (fun ρ w' r=>checkMatrix_c (fun g hg=>by have:=hS g hg;have:=r.baseLe;omega) (RatMR.keep h (fun g hg=>(hw.tr r.bel).block g (hS g hg)))) ?_)
 rintro ρ wa1 v1 wb1 r he hb rfl
 replace hw:=hw.tr hb
 clear r he hb
 generalize (wa1.heap.size,wb1.heap.size)::[]=iv1 at*
 conv=>whnf
 refine BrS.mk (fun he=>?_) (fun he=>?_)
 ·have he:errM M≠0:=fun e=>by rw[e]at he;simp at he
  conv=>whnf
  intro ρe we re
  exact⟨_,rfl,hw.tr re.bel,by unfold errP;rw[if_pos he];rfl⟩
 have he:errM M=0:=by
  have h4:((errM M:Int)==0)=true:=by simpa using he
  have:=eq_of_beq h4
  omega
 conv=>whnf
 refine drawn_of_pi hτ hmix [.x 0,.x 1,.x 2,.x 3,.x 4,.x 5,.x 6,.x 7,.x 8,.x 9,.x 10,.x 11,.x 12,.x 13,.x 14,.x 15,.x 16,.x 17,.x 18,.x 19,.x 20,.x 21,.x 22] (by kernel_rfl) (by kernel_rfl) ?_
 conv=>whnf
 refine BrS.mk (fun hl=>?_) (fun hl=>?_)
 ·have hl:b.length≠M.length:=fun e=>by rw[e]at hl;simp at hl
  conv=>whnf
  intro ρe we re
  exact⟨_,rfl,hw.tr re.bel,by unfold errP;rw[if_neg (by omega),if_pos (.inl hl)];rfl⟩
 have hl:b.length=M.length:=by
  have h4:((b.length:Int)==(M.length:Int))=true:=by simpa using hl
  have:=eq_of_beq h4
  omega
 conv=>whnf
 refine BrS.mk (fun h0=>?_) (fun h0=>?_)
 ·have h0:0<M.length:=by have:(0:Int)<M.length:=(by simpa using h0);omega
  conv=>whnf
  refine callE_con (Φ:=fun _ w' v w2=>v= .int .i64 (colsM M)) (fun ρ w' r=>columns_c (fun g hg=>by have:=hS g hg;have:=r.baseLe;omega) (RatMR.keep h (fun g hg=>(hw.tr r.bel).block g (hS g hg)))) ?_
  rintro ρ wa2 v2 wb2 r he hb rfl
  replace hw:=hw.tr hb
  clear r he hb
  generalize (wa2.heap.size,wb2.heap.size)::iv1=iv2 at*
  conv=>whnf
  refine BrS.mk (fun h1=>?_) (fun h1=>?_)
  ·have h1:c.length≠colsM M:=fun e=>by rw[e]at h1;simp at h1
   conv=>whnf
   intro ρe we re
   exact⟨_,rfl,hw.tr re.bel,by unfold errP;rw[if_neg (by omega),if_pos (.inr ⟨h0,h1⟩)];rfl⟩
  have h1:c.length=colsM M:=by
   have h4:((c.length:Int)==(colsM M:Int))=true:=by simpa using h1
   have:=eq_of_beq h4
   omega
  conv=>whnf
  refine BrS.mk (fun h6=>?_) (fun h6=>?_)
  ·have h6:60<c.length:=by have:(60:Int)<c.length:=(by simpa using h6);omega
   conv=>whnf
   intro ρe we re
   exact⟨_,rfl,hw.tr re.bel,by unfold errP;rw[if_neg (by omega),if_neg (by omega),if_pos h6];rfl⟩
  have h6:¬60<c.length:=by have:¬(60:Int)<c.length:=(by simpa using h6);omega
  conv=>whnf
  intro ρe we re
  exact⟨_,rfl,hw.tr re.bel,by unfold errP;rw[if_neg (by omega),if_neg (by omega),if_neg h6];rfl⟩
 have h0:¬0<M.length:=by have:¬(0:Int)<M.length:=(by simpa using h0);omega
 conv=>whnf
 refine BrS.mk (fun h6=>?_) (fun h6=>?_)
 ·have h6:60<c.length:=by have:(60:Int)<c.length:=(by simpa using h6);omega
  conv=>whnf
  intro ρe we re
  exact⟨_,rfl,hw.tr re.bel,by unfold errP;rw[if_neg (by omega),if_neg (by omega),if_pos h6];rfl⟩
 have h6:¬60<c.length:=by have:¬(60:Int)<c.length:=(by simpa using h6);omega
 conv=>whnf
 intro ρe we re
 exact⟨_,rfl,hw.tr re.bel,by unfold errP;rw[if_neg (by omega),if_neg (by omega),if_neg h6];rfl⟩
theorem atLeast_c{S:Nat→Prop}{w:World}{v u:Value}{xs ys:List Rat}(hS:Old S w)(hx:RowR w S S v xs)(hy:RowR w S S u ys)(hl:xs.length=ys.length)(hqx:∀x∈xs,rl x≤10000000000)(hqy:∀x∈ys,rl x≤10000000000):
  Con PG N.exact_row_atLeast #[v,u] w (Ret w fun v' _=>∃d,v'= .bool d∧(d=true→GeF xs ys)∧(GeF xs ys→d=true)):=by
 have hw:Bel w.heap.size w w:=Bel.refl
 obtain⟨ax,cx,rfl,hcx,hmx⟩:=hx.shape
 obtain⟨ay,cy,rfl,hcy,-⟩:=hy.shape
 unfold maxLen at hmx
 refine in_exact_row_atLeast (by simp) ?_
 conv=>whnf
 refine⟨Nat×World×Iv,fun z=>⟨[(1,.o (.v (.slice ay ys.length cy))),(7,.o (.v (.slice ax xs.length cx))),(8,.o (.v (.int .i64 xs.length))),(9,.o (.v (.int .i64 ((z.1:Nat):Int))))],[],0,z.2.2,z.2.1⟩,fun z=>xs.length-z.1,
  fun z=>z.1≤xs.length∧Bel w.heap.size w z.2.1∧∀j,j<z.1→ys.getD j 0≤xs.getD j 0,?_,?_⟩
 ·intro ρ w' r
  exact⟨(0,w',[]),⟨Nat.zero_le _,hw.tr r.bel,fun j hj=>by dsimp only at hj;omega⟩,Sub.gen [] r trivial ⟨rfl,rfl,rfl,rfl,trivial⟩ (by simp[ScH]) (by simp[ScE,SV.sc,At.sc]) (by rfl) (fun lo hi h=>h)⟩
 clear hw
 rintro⟨i,w1,iv⟩ ⟨hi,hw,ht⟩
 dsimp only at hi hw ht ⊢
 conv=>whnf
 refine BrS.mk (fun hib=>?_) (fun hib=>?_)
 ·have hib:i<xs.length:=by simpa using hib
  obtain⟨x,hxi⟩:∃x,xs[i]? =some x:=⟨_,List.getElem?_eq_getElem hib⟩
  obtain⟨y,hyi⟩:∃x,ys[i]? =some x:=⟨_,List.getElem?_eq_getElem (by omega)⟩
  have hx2:xs.getD i 0=x:=by rw[List.getD,hxi];rfl
  have hy2:ys.getD i 0=y:=by rw[List.getD,hyi];rfl
  obtain⟨adx,csx,hax,hFx,hlx⟩:=hx.load hxi
  obtain⟨ady,csy,hay,hFy,hly⟩:=hy.load hyi
  obtain⟨f0,f1,f2,f3,f4,f5,f6,f7,rfl,hFx⟩:=hFx
  obtain⟨q0,q1,q2,q3,q4,q5,q6,q7,rfl,hFy⟩:=hFy
  conv=>whnf
  refine⟨adx,hax,⟨by omega,by omega⟩,?_⟩
  conv=>whnf
  refine⟨[.bool f0,.slice f1 f2 f3,.bool f4,.slice f5 f6 f7],rfl,fun ρ w' r j u hu=>?_,?_⟩
  ·obtain⟨k1,k2⟩:=hlx j u hu
   rw[Int.toNat_natCast,cell_of_heap (w:=w) (w2:=w') (by rw[addB,addB];exact(hw.tr r.bel).block _ (hS _ k1))]
   exact k2
  conv=>whnf
  refine drawn_of_pi hτ hmix [.x 0,.x 1,.x 2,.x 3,.x 4,.x 5,.x 6] (by kernel_rfl) (by kernel_rfl) ?_
  conv=>whnf
  refine⟨ady,hay,⟨by omega,by omega⟩,?_⟩
  conv=>whnf
  refine⟨[.bool q0,.slice q1 q2 q3,.bool q4,.slice q5 q6 q7],rfl,fun ρ w' r j u hu=>?_,?_⟩
  ·obtain⟨k1,k2⟩:=hly j u hu
   rw[Int.toNat_natCast,cell_of_heap (w:=w) (w2:=w') (by rw[addB,addB];exact(hw.tr r.bel).block _ (hS _ k1))]
   exact k2
  conv=>whnf
  refine callE_con (Φ:=fun _ w' v w2=>v= .int .i64 (rs (x-y))) (fun ρ w' r=>fcmp_c (fun g hg=>by have:=hS g hg;have:=r.baseLe;omega) (hFx.keep (fun g hg=>(hw.tr r.bel).block g (hS g hg))) (hFy.keep (fun g hg=>(hw.tr r.bel).block g (hS g hg))) (hqx x (List.mem_of_getElem? hxi)) (hqy y (List.mem_of_getElem? hyi))) ?_
  rintro ρ wa1 v1 wb1 r he hb rfl
  replace hw:=hw.tr hb
  clear r he hb
  generalize (wa1.heap.size,wb1.heap.size)::iv=iv1 at*
  conv=>whnf
  refine BrS.mk (fun hs=>?_) (fun hs=>?_)
  ·have hs:x<y:=rs_sub_neg.1 (by simpa using hs)
   conv=>whnf
   intro ρe we re
   exact⟨_,rfl,hw.tr re.bel,false,rfl,fun h=>(by cases h),fun h=>absurd hs (Rat.not_lt.2 (by have:=h i hib;rwa [hx2,hy2]at this))⟩
  have hs:y≤x:=Rat.not_lt.1 fun h=>absurd (rs_sub_neg.2 h) (by simpa using hs)
  conv=>whnf
  refine⟨((i+1:Nat):Int),by rw[wrap64]<;>omega,?_⟩
  conv=>whnf
  intro ρ3 w3 r3
  refine⟨(i+1,w3,_),⟨hib,hw.tr r3.bel,fun j hj=>?_⟩,Sub.gen [] r3 trivial ⟨rfl,rfl,rfl,rfl,trivial⟩ (by simp[ScH]) (by simp[ScE,SV.sc,At.sc]) (by rfl) (fun lo hi h=>h),by dsimp only;omega⟩
  rcases Nat.lt_or_ge j i with h1|h1
  ·exact ht j h1
  ·obtain rfl:j=i:=by dsimp only at hj;omega
   rw[hx2,hy2];exact hs
 have hib:i=xs.length:=Nat.le_antisymm hi (by simpa using hib)
 conv=>whnf
 intro ρe we re
 exact⟨_,rfl,hw.tr re.bel,true,rfl,fun _ j hj=>ht j (by omega),fun _=>rfl⟩
theorem possible_c{S:Nat→Prop}{w:World}{va vx vb:Value}{M:List (List Rat)}{x b:List Rat}{a1 a2 a3 a4 a5 g1 g5:Option Addr}{n n1 c1 c2 n3 c3 n4 c4 n5 c5 g2 g3 g6 g7 h:Nat}{g0 g4:Bool}(hS:Old S w)(hM:MatR w S va M)(hx:RowR w S S vx x)(hb:RowR w S S vb b)(hbl:b.length=M.length)(hrow:∀r∈M,r.length=n)
  (hqM:Ht M h) (hqx:∀q∈x,rl q+1≤h) (hqb:∀q∈b,rl q+1≤h) (h2:2≤h) (hh:h≤1000000000) (hb2:2*h*n≤1000000000) (hxl:x.length≤1000000):
  Con PG N.exact_claim_possible #[.agg #[va,.slice a1 n1 c1,.slice a2 n c2,.slice a3 n3 c3,.slice a4 n4 c4,.slice a5 n5 c5,.bool g0,.slice g1 g2 g3,.bool g4,.slice g5 g6 g7],vx,vb] w (Ret w fun v' _=>∃d,v'= .bool d∧(d=true→PosF M n x b)∧(PosF M n x b→d=true)):=by
 have hw:Bel w.heap.size w w:=Bel.refl
 obtain⟨am,cm,rfl,hcm,hmm⟩:=SlicesR.shape hM
 obtain⟨ax,cx,rfl,hcx,hmx⟩:=hx.shape
 obtain⟨ab,cb,rfl,hcb,-⟩:=hb.shape
 unfold maxLen at hmm hmx
 refine in_exact_claim_possible (by simp) ?_
 conv=>whnf
 refine BrS.mk (fun hl=>?_) (fun hl=>?_)
 ·have hl:x.length≠n:=fun e=>by rw[e]at hl;simp at hl
  conv=>whnf
  intro ρe we re
  exact⟨_,rfl,hw.tr re.bel,false,rfl,fun h=>(by cases h),fun h=>absurd h.1 hl⟩
 have hl:x.length=n:=by
  have h4:((x.length:Int)==(n:Int))=true:=by simpa using hl
  have:=eq_of_beq h4
  omega
 conv=>whnf
 refine callE_S (callE_con (Φ:=fun _ w' v w2=>RowX w2 (fun _=>False) w'.heap.size [(w'.heap.size,w2.heap.size)] v x.length (nulls x.length)) (fun ρ w' r=>zeros_c x.length w' (by omega)) ?_)
 rintro ρ wa1 v1 wb1 r he hb hn
 replace hw:=hw.tr hb
 have hz:=(show RowG _ _ _ _ from(RowX.got (S:=fun _=>False) (B:=w.heap.size) hn r.baseLe (iv:=(wa1.heap.size,wb1.heap.size)::[]) List.mem_cons_self).read)
 clear r he hb hn
 generalize (wa1.heap.size,wb1.heap.size)::[]=iv1 at*
 obtain⟨ahz,chz,rfl⟩:=hz.shape
 rw[List.length_replicate]at hz ⊢
 conv=>whnf
 refine callE_S (callE_con (Φ:=fun _ w' v w2=>∃d,v= .bool d∧(d=true→GeF x (nulls x.length))∧(GeF x (nulls x.length)→d=true)) (fun ρ w' r=>atLeast_c (Rel.old r hS) (RowG.weak (RowG.keep hx (fun g hg=>(hw.tr r.bel).block g (hS g hg))) fun _ hg=>(.inl hg:Cv S w.heap.size _ _)) (RowG.weak (RowG.rel hz r (oldF w)) fun _ hg=>(cvF hg:Cv S w.heap.size _ _)) (List.length_replicate ..).symm (fun q hq=>by have:=hqx q hq;omega) (fun q hq=>by rw[List.eq_of_mem_replicate hq];decide)) ?_)
 rintro ρ wa2 v2 wb2 r he hb ⟨d,rfl,hd1,hd2⟩
 replace hw:=hw.tr hb
 clear hz
 clear r he hb
 generalize (wa2.heap.size,wb2.heap.size)::iv1=iv2 at*
 conv=>whnf
 cases d with
 |false=>
  have hge:¬(GeF x (nulls x.length)):=fun h=>absurd (hd2 h) (by decide)
  clear hd1 hd2
  conv=>whnf
  intro ρe we re
  exact⟨_,rfl,hw.tr re.bel,false,rfl,fun h=>(by cases h),fun h=>absurd h.2.1 hge⟩
 |true=>
  have hge:GeF x (nulls x.length):=hd1 rfl
  clear hd1 hd2
  conv=>whnf
  refine⟨Nat×World×Iv,fun z=>⟨[(1,.o (.v (.slice ax x.length cx))),(2,.o (.v (.slice ab b.length cb))),(24,.o (.v (.slice am M.length cm))),(25,.o (.v (.int .i64 M.length))),(26,.o (.v (.int .i64 ((z.1:Nat):Int))))],[],0,z.2.2,z.2.1⟩,fun z=>M.length-z.1,
   fun z=>z.1≤M.length∧Bel w.heap.size w z.2.1∧∀(j:Nat) r,j<z.1→M[j]? =some r→dotTo r x r.length≤b.getD j 0,?_,?_⟩
  ·intro ρ w' r
   exact⟨(0,w',_),⟨Nat.zero_le _,hw.tr r.bel,fun j r hj=>by dsimp only at hj;omega⟩,Sub.gen [] r trivial ⟨rfl,rfl,rfl,rfl,rfl,trivial⟩ (by simp[ScH]) (by simp[ScE,SV.sc,At.sc]) (by rfl) (fun lo hi h=>h)⟩
  clear hw
  rintro⟨i,w1,iv⟩ ⟨hi,hw,ht⟩
  dsimp only at hi hw ht ⊢
  conv=>whnf
  refine BrS.mk (fun hib=>?_) (fun hib=>?_)
  ·have hib:i<M.length:=by simpa using hib
   obtain⟨ra,hra⟩:∃r,M[i]? =some r:=⟨_,List.getElem?_eq_getElem hib⟩
   have hral:=hrow ra (List.mem_of_getElem? hra)
   obtain⟨y,hyi⟩:∃x,b[i]? =some x:=⟨_,List.getElem?_eq_getElem (by omega)⟩
   have hy2:b.getD i 0=y:=by rw[List.getD,hyi];rfl
   have hyq:=hqb y (List.mem_of_getElem? hyi)
   have hdl:=rl_dotTo (hqM.at hra) hqx h2 ra.length
   rw[hral]at hdl
   obtain⟨adx,ux,rfl,hFx,hx1,hx2⟩:=SlicesR.load hM hra
   obtain⟨aux,cux,rfl⟩:=SlicesR.rowOf hFx
   obtain⟨ady,csy,hay,hFy,hly⟩:=hb.load hyi
   obtain⟨q0,q1,q2,q3,q4,q5,q6,q7,rfl,hFy⟩:=hFy
   conv=>whnf
   refine⟨adx,rfl,⟨by omega,by omega⟩,?_⟩
   conv=>whnf
   refine⟨.slice aux ra.length cux,fun ρ w' r=>?_,?_⟩
   ·rw[Int.toNat_natCast,cell_of_heap (w:=w) (w2:=w') (by rw[addB];exact(hw.tr r.bel).block _ (hS _ hx1))]
    exact hx2
   conv=>whnf
   refine drawn_of_pi hτ hmix [.x 0,.x 1,.x 3,.x 4,.x 5,.x 6,.x 2,.x 7,.x 8] (by kernel_rfl) (by kernel_rfl) ?_
   conv=>whnf
   refine⟨ady,hay,⟨by omega,by omega⟩,?_⟩
   conv=>whnf
   refine⟨[.bool q0,.slice q1 q2 q3,.bool q4,.slice q5 q6 q7],rfl,fun ρ w' r j u hu=>?_,?_⟩
   ·obtain⟨k1,k2⟩:=hly j u hu
    rw[Int.toNat_natCast,cell_of_heap (w:=w) (w2:=w') (by rw[addB,addB];exact(hw.tr r.bel).block _ (hS _ k1))]
    exact k2
   conv=>whnf
   refine callE_con (Φ:=fun _ w' v w2=>FracR w2 (Nw (fun _=>False) w' w2) v (dotTo ra x ra.length)) (fun ρ w' r=>dot_c (fun g hg=>by have:=hS g hg;have:=r.baseLe;omega) (RowG.keep hFx (fun g hg=>(hw.tr r.bel).block g (hS g hg))) (RowG.keep hx (fun g hg=>(hw.tr r.bel).block g (hS g hg))) (hral.trans hl.symm) (hqM.at hra) hqx h2 (by rw[hral];omega)) ?_
   rintro ρ wa3 v3 wb3 r he hb hn
   replace hw:=hw.tr hb
   have hd:=hn.got (S:=fun _=>False) r.baseLe (iv:=(wa3.heap.size,wb3.heap.size)::iv) List.mem_cons_self
   clear r he hb hn
   generalize (wa3.heap.size,wb3.heap.size)::iv=iv3 at*
   obtain⟨s3_0,s3_1,s3_2,s3_3,s3_4,s3_5,s3_6,s3_7,rfl⟩:=hd.shape
   conv=>whnf
   refine callE_con (Φ:=fun _ w' v w2=>v= .int .i64 (rs (dotTo ra x ra.length-y))) (fun ρ w' r=>fcmp_c (Rel.old r hS) (FracR.weak (FracR.rel hd r (oldF w)) fun _ hg=>(cvF hg:Cv S w.heap.size _ _)) (FracR.weak (FracR.keep hFy (fun g hg=>(hw.tr r.bel).block g (hS g hg))) fun _ hg=>(.inl hg:Cv S w.heap.size _ _)) (by rw[hral];omega) (by omega)) ?_
   rintro ρ wa4 v4 wb4 r he hb rfl
   replace hw:=hw.tr hb
   clear hd
   clear r he hb
   generalize (wa4.heap.size,wb4.heap.size)::iv3=iv4 at*
   conv=>whnf
   refine BrS.mk (fun hs=>?_) (fun hs=>?_)
   ·have hs:y<dotTo ra x ra.length:=rs_sub_pos.1 (by simpa using hs)
    conv=>whnf
    intro ρe we re
    exact⟨_,rfl,hw.tr re.bel,false,rfl,fun h=>(by cases h),fun h=>absurd hs (Rat.not_lt.2 (by have:=h.2.2 i ra hra;rwa [hy2]at this))⟩
   have hs:dotTo ra x ra.length≤y:=Rat.not_lt.1 fun h=>absurd (rs_sub_pos.2 h) (by simpa using hs)
   conv=>whnf
   refine⟨((i+1:Nat):Int),by rw[wrap64]<;>omega,?_⟩
   conv=>whnf
   intro ρ3 w3 r3
   refine⟨(i+1,w3,_),⟨hib,hw.tr r3.bel,fun j r hj hr=>?_⟩,Sub.gen [] r3 trivial ⟨rfl,rfl,rfl,rfl,rfl,trivial⟩ (by simp[ScH]) (by simp[ScE,SV.sc,At.sc]) (by rfl) (fun lo hi h=>h),by dsimp only;omega⟩
   rcases Nat.lt_or_ge j i with h1|h1
   ·exact ht j r h1 hr
   ·obtain rfl:j=i:=by dsimp only at hj;omega
    obtain rfl:ra=r:=by rw[hra]at hr;injection hr
    rw[hy2];exact hs
  have hib:i=M.length:=Nat.le_antisymm hi (by simpa using hib)
  conv=>whnf
  intro ρe we re
  exact⟨_,rfl,hw.tr re.bel,true,rfl,fun _=>⟨hl,hge,fun j r hr=>ht j r (by have:=(List.getElem?_eq_some_iff.1 hr).1;omega) hr⟩,fun _=>rfl⟩
theorem bounds_c{S:Nat→Prop}{w:World}{va vy vc:Value}{M:List (List Rat)}{y c:List Rat}{a1 a2 a3 a5 g1 g5:Option Addr}{n n1 c1 c2 n3 c3 n5 c5 g2 g3 g6 g7 h:Nat}{g0 g4:Bool}(hS:Old S w)(hn1:n1=M.length)(hM:MatR w S va M)(hy:RowR w S S vy y)(hc:RowR w S S vc c)(hrow:∀r∈M,r.length=c.length)
  (hqM:Ht M h) (hqy:∀q∈y,rl q+1≤h) (hqc:∀q∈c,rl q+1≤h) (h2:2≤h) (hh:h≤1000000000) (hb2:2*h*M.length≤1000000000) (hyl:y.length≤1000000) (hcl:c.length≤1000000):
  Con PG N.exact_claim_bounds #[.agg #[va,.slice a1 n1 c1,.slice a2 n c2,.slice a3 n3 c3,vy,.slice a5 n5 c5,.bool g0,.slice g1 g2 g3,.bool g4,.slice g5 g6 g7],vc] w (Ret w fun v' _=>∃d,v'= .bool d∧(d=true→BndF M y c)∧(BndF M y c→d=true)):=by
 subst hn1
 have hw:Bel w.heap.size w w:=Bel.refl
 obtain⟨am,cm,rfl,hcm,hmm⟩:=SlicesR.shape hM
 obtain⟨ay,cy,rfl,hcy,hmy⟩:=hy.shape
 obtain⟨ac,cc,rfl,hcc,-⟩:=hc.shape
 unfold maxLen at hmm hmy
 refine in_exact_claim_bounds (by simp) ?_
 conv=>whnf
 refine drawn_of_pi hτ hmix [.x 0,.x 1,.x 2,.x 3,.x 4,.x 5,.x 6,.x 7,.x 8,.x 9,.x 10,.x 11,.x 12,.x 13,.x 14,.x 15,.x 16,.x 17,.x 18,.x 19,.x 20,.x 21,.x 22,.x 24,.x 23,.x 25,.x 26,.x 27] (by kernel_rfl) (by kernel_rfl) ?_
 conv=>whnf
 refine BrS.mk (fun hl=>?_) (fun hl=>?_)
 ·have hl:y.length=M.length:=by
   have h4:((y.length:Int)==(M.length:Int))=true:=by simpa using hl
   have:=eq_of_beq h4
   omega
  have htl:=rl_throughF hqy hqM h2 c.length M.length
  conv=>whnf
  refine callE_con (Φ:=fun _ w' v w2=>RowX w2 (fun _=>False) w'.heap.size [(w'.heap.size,w2.heap.size)] v y.length (nulls y.length)) (fun ρ w' r=>zeros_c y.length w' (by omega)) ?_
  rintro ρ wa1 v1 wb1 r he hb hn
  replace hw:=hw.tr hb
  have hz:=(show RowG _ _ _ _ from(RowX.got (S:=fun _=>False) (B:=w.heap.size) hn r.baseLe (iv:=(wa1.heap.size,wb1.heap.size)::[]) List.mem_cons_self).read)
  clear r he hb hn
  generalize (wa1.heap.size,wb1.heap.size)::[]=iv1 at*
  obtain⟨ahz,chz,rfl⟩:=hz.shape
  rw[List.length_replicate]at hz ⊢
  conv=>whnf
  refine callE_con (Φ:=fun _ w' v w2=>∃d,v= .bool d∧(d=true→GeF y (nulls y.length))∧(GeF y (nulls y.length)→d=true)) (fun ρ w' r=>atLeast_c (Rel.old r hS) (RowG.weak (RowG.keep hy (fun g hg=>(hw.tr r.bel).block g (hS g hg))) fun _ hg=>(.inl hg:Cv S w.heap.size _ _)) (RowG.weak (RowG.rel hz r (oldF w)) fun _ hg=>(cvF hg:Cv S w.heap.size _ _)) (List.length_replicate ..).symm (fun q hq=>by have:=hqy q hq;omega) (fun q hq=>by rw[List.eq_of_mem_replicate hq];decide)) ?_
  rintro ρ wa2 v2 wb2 r he hb ⟨d,rfl,hd1,hd2⟩
  replace hw:=hw.tr hb
  clear hz
  clear r he hb
  generalize (wa2.heap.size,wb2.heap.size)::iv1=iv2 at*
  conv=>whnf
  cases d with
  |false=>
   have hge:¬(GeF y (nulls y.length)):=fun h=>absurd (hd2 h) (by decide)
   clear hd1 hd2
   conv=>whnf
   intro ρe we re
   exact⟨_,rfl,hw.tr re.bel,false,rfl,fun h=>(by cases h),fun h=>absurd h.2.1 hge⟩
  |true=>
   have hge:GeF y (nulls y.length):=hd1 rfl
   clear hd1 hd2
   conv=>whnf
   refine callE_con (Φ:=fun _ w' v w2=>RowG w2 (Nw (Cv S w.heap.size iv2) w' w2) v (throughF y M c.length M.length)) (fun ρ w' r=>through_c (Rel.old r hS) (RowG.weak (RowG.keep hy (fun g hg=>(hw.tr r.bel).block g (hS g hg))) fun _ hg=>(.inl hg:Cv S w.heap.size _ _)) (MatG.weak (MatG.keep hM (fun g hg=>(hw.tr r.bel).block g (hS g hg))) fun _ hg=>(.inl hg:Cv S w.heap.size _ _)) hl hrow hcl hqy hqM h2 (by omega)) ?_
   rintro ρ wa3 v3 wb3 r he hb hn
   replace hw:=hw.tr hb
   have hT:=hn.old r.baseLe
   clear r he hb hn
   generalize (wa3.heap.size,wb3.heap.size)::iv2=iv3 at*
   obtain⟨aT,cT,rfl⟩:=hT.shape
   rw[throughF_length]at hT ⊢
   conv=>whnf
   refine callE_con (Φ:=fun _ w' v w2=>∃d,v= .bool d∧(d=true→GeF (throughF y M c.length M.length) c)∧(GeF (throughF y M c.length M.length) c→d=true)) (fun ρ w' r=>atLeast_c (Rel.old r hS) (hT.rel r hS) (RowG.weak (RowG.keep hc (fun g hg=>(hw.tr r.bel).block g (hS g hg))) fun _ hg=>(.inl hg:Cv S w.heap.size _ _)) (throughF_length ..) (fun q hq=>by have:=htl q hq;omega) (fun q hq=>by have:=hqc q hq;omega)) ?_
   rintro ρ wa4 v4 wb4 r he hb ⟨d,rfl,hd1,hd2⟩
   replace hw:=hw.tr hb
   clear hT
   clear r he hb
   generalize (wa4.heap.size,wb4.heap.size)::iv3=iv4 at*
   conv=>whnf
   cases d with
   |false=>
    have hgt:¬(GeF (throughF y M c.length M.length) c):=fun h=>absurd (hd2 h) (by decide)
    clear hd1 hd2
    conv=>whnf
    intro ρe we re
    exact⟨_,rfl,hw.tr re.bel,false,rfl,fun h=>(by cases h),fun h=>absurd h.2.2 hgt⟩
   |true=>
    have hgt:GeF (throughF y M c.length M.length) c:=hd1 rfl
    clear hd1 hd2
    conv=>whnf
    intro ρe we re
    exact⟨_,rfl,hw.tr re.bel,true,rfl,fun _=>⟨hl,hge,hgt⟩,fun _=>rfl⟩
 have hl:y.length≠M.length:=fun e=>by rw[e]at hl;simp at hl
 conv=>whnf
 intro ρe we re
 exact⟨_,rfl,hw.tr re.bel,false,rfl,fun h=>(by cases h),fun h=>absurd h.1 hl⟩
end Go.Ex

/- CheckOptimum of package exact. Printed by program. No condition but sizes. -/
namespace Go.Ex
open Go Go.Sx Go.Proofs

theorem nulls_len(n:Nat):(nulls n).length=n:=List.length_replicate ..
theorem nulls_rl{n h:Nat}(h2:2≤h):∀q∈nulls n,rl q+1≤h:=fun q hq=>by rw[List.eq_of_mem_replicate hq];exact Nat.le_trans (by decide) h2
set_option maxRecDepth 4000 in
set_option maxHeartbeats 1000000 in
theorem checkOptimum_c{S:Nat→Prop}{w:World}{vm vb vc vx vy vr:Value}{z p1 p2:Int}{M:List (List (Int×Int))}{b c X Y R:List (Int×Int)}{g1 g5:Option Addr}{g2 g3 g6 g7 h:Nat}{g0 g4:Bool}(hS:Old S w)
  (hm:RatMR w S vm M) (hB:RatsR w S vb b) (hc:RatsR w S vc c) (hx:RatsR w S vx X) (hy:RatsR w S vy Y) (hr:RatsR w S vr R) (hv:RatR w S (.agg #[.bool g0,.slice g1 g2 g3,.bool g4,.slice g5 g6 g7]) p1 p2) (h2:2≤h) (hh:h≤1000000)
  (hf:errP M b c=0→((∀r∈M,Few r)∧Few b∧Few c∧Few X∧Few Y∧Few R∧ln p1.natAbs≤10000000000∧ln p2.natAbs≤10000000000)∧Ht (valsM M) h∧(∀q∈b.map ratioP,rl q+1≤h)∧(∀q∈c.map ratioP,rl q+1≤h)∧
   (∀q∈X.map ratioP,rl q+1≤h)∧(∀q∈Y.map ratioP,rl q+1≤h)∧(∀q∈R.map ratioP,rl q+1≤h)∧rl (ratio p1 p2)+1≤h∧X.length≤1000000∧Y.length≤1000000∧R.length≤1000000):
  Con PG N.exact_CheckOptimum #[.agg #[vm,vb,vc],.agg #[.int .i64 z,vx,vy,vr,.bool g0,.slice g1 g2 g3,.bool g4,.slice g5 g6 g7]] w (Ret w fun v' _=>∃e:Nat,v'= .int .i64 e∧
   (errP M b c=0→(RightO (valsM M) (b.map ratioP) (c.map ratioP) z (X.map ratioP) (Y.map ratioP) (R.map ratioP) (ratio p1 p2)→e=0)∧(¬RightO (valsM M) (b.map ratioP) (c.map ratioP) z (X.map ratioP) (Y.map ratioP) (R.map ratioP) (ratio p1 p2)→e=25))∧(errP M b c≠0→e=errP M b c)):=by
 have hw:Bel w.heap.size w w:=Bel.refl
 obtain⟨am,cm,rfl,hcm,hmm⟩:=SlicesR.shape hm
 obtain⟨ab,cb,rfl,hcb,hmb⟩:=ListR.shape hB
 obtain⟨ac,cc,rfl,hcc,hmc⟩:=ListR.shape hc
 obtain⟨ax,cx,rfl,hcx,hmx⟩:=ListR.shape hx
 obtain⟨ay,cy,rfl,hcy,hmy⟩:=ListR.shape hy
 obtain⟨ar,cr,rfl,hcr,hmr⟩:=ListR.shape hr
 refine in_exact_CheckOptimum (by simp) ?_
 conv=>whnf
 refine callE_S (callE_con (Φ:=fun _ w' v w2=>v= .int .i64 ((errP M b c:Nat):Int)) (fun ρ w' r=>checkProgram_c (fun g hg=>by have:=hS g hg;have:=r.baseLe;omega) (RatMR.keep hm (fun g hg=>(hw.tr r.bel).block g (hS g hg))) (RatsR.keep hB (fun g hg=>(hw.tr r.bel).block g (hS g hg))) (RatsR.keep hc (fun g hg=>(hw.tr r.bel).block g (hS g hg)))) ?_)
 rintro ρ wa1 v1 wb1 r he hb rfl
 replace hw:=hw.tr hb
 clear r he hb
 generalize (wa1.heap.size,wb1.heap.size)::[]=iv1 at*
 conv=>whnf
 refine BrS.mk (fun h0=>?_) (fun h0=>?_)
 ·have h0:errP M b c≠0:=fun e=>by rw[e]at h0;simp at h0
  conv=>whnf
  intro ρe we re
  exact⟨_,rfl,hw.tr re.bel,_,rfl,fun h=>absurd h h0,fun _=>rfl⟩
 have h0:errP M b c=0:=by
  have h4:((errP M b c:Int)==0)=true:=by simpa using h0
  have:=eq_of_beq h4
  omega
 obtain⟨⟨hfM,hfb,hfc,hfX,hfY,hfR,hv1,hv2⟩,hqM,hqb,hqc,hqX,hqY,hqR,hqv,hX6,hY6,hR6⟩:=hf h0
 obtain⟨hE,hbl,hc60,hM60,hrow⟩:=errP_zero h0
 conv=>whnf
 refine drawn_of_pi hτ hmix [.x 0,.x 1,.x 3,.x 4,.x 6,.x 7,.x 9,.x 10,.x 12,.x 13,.x 15,.x 16,.x 18,.x 19,.p 22,.x 2,.x 5,.x 8,.x 11,.x 14,.x 17,.x 20,.x 21,.x 22,.x 23] (by kernel_rfl) (by kernel_rfl) ?_
 conv=>whnf
 refine callE_con (Φ:=fun _ w' v w2=>MatG w2 (Nw (fun _=>False) w' w2) v (valsM M)) (fun ρ w' r=>matrixG_c (fun g hg=>by have:=hS g hg;have:=r.baseLe;omega) (RatMR.keep hm (fun g hg=>(hw.tr r.bel).block g (hS g hg))) hfM (fun r hr=>by have:=hrow r hr;omega) (by omega)) ?_
 rintro ρ wa2 v2 wb2 r he hb hn
 replace hw:=hw.tr hb
 have gA:=hn.got (S:=fun _=>False) r.baseLe (iv:=(wa2.heap.size,wb2.heap.size)::iv1) List.mem_cons_self
 clear r he hb hn
 generalize (wa2.heap.size,wb2.heap.size)::iv1=iv2 at*
 obtain⟨aA,cA,rfl⟩:=gA.shape
 conv=>whnf
 refine callE_con (Φ:=fun _ w' v w2=>RowX w2 (fun _=>False) w'.heap.size [(w'.heap.size,w2.heap.size)] v b.length (b.map ratioP)) (fun ρ w' r=>values_c (fun g hg=>by have:=hS g hg;have:=r.baseLe;omega) (RatsR.keep hB (fun g hg=>(hw.tr r.bel).block g (hS g hg))) hfb (by omega)) ?_
 rintro ρ wa3 v3 wb3 r he hb hn
 replace hw:=hw.tr hb
 replace gA:=gA.past (iv':=(wa3.heap.size,wb3.heap.size)::iv2) r (oldF w) he fun x hx=>List.mem_cons_of_mem _ hx
 have gb:=(show RowG _ _ _ _ from(RowX.got (S:=fun _=>False) (B:=w.heap.size) hn r.baseLe (iv:=(wa3.heap.size,wb3.heap.size)::iv2) List.mem_cons_self).read)
 clear r he hb hn
 generalize (wa3.heap.size,wb3.heap.size)::iv2=iv3 at*
 obtain⟨agb,cgb,rfl⟩:=gb.shape
 conv=>whnf
 refine callE_con (Φ:=fun _ w' v w2=>RowX w2 (fun _=>False) w'.heap.size [(w'.heap.size,w2.heap.size)] v c.length (c.map ratioP)) (fun ρ w' r=>values_c (fun g hg=>by have:=hS g hg;have:=r.baseLe;omega) (RatsR.keep hc (fun g hg=>(hw.tr r.bel).block g (hS g hg))) hfc (by omega)) ?_
 rintro ρ wa4 v4 wb4 r he hb hn
 replace hw:=hw.tr hb
 replace gA:=gA.past (iv':=(wa4.heap.size,wb4.heap.size)::iv3) r (oldF w) he fun x hx=>List.mem_cons_of_mem _ hx
 replace gb:=gb.past (iv':=(wa4.heap.size,wb4.heap.size)::iv3) r (oldF w) he fun x hx=>List.mem_cons_of_mem _ hx
 have gc:=(show RowG _ _ _ _ from(RowX.got (S:=fun _=>False) (B:=w.heap.size) hn r.baseLe (iv:=(wa4.heap.size,wb4.heap.size)::iv3) List.mem_cons_self).read)
 clear r he hb hn
 generalize (wa4.heap.size,wb4.heap.size)::iv3=iv4 at*
 obtain⟨agc,cgc,rfl⟩:=gc.shape
 conv=>whnf
 refine callE_con (Φ:=fun _ w' v w2=>RowX w2 (fun _=>False) w'.heap.size [(w'.heap.size,w2.heap.size)] v X.length (X.map ratioP)) (fun ρ w' r=>values_c (fun g hg=>by have:=hS g hg;have:=r.baseLe;omega) (RatsR.keep hx (fun g hg=>(hw.tr r.bel).block g (hS g hg))) hfX hX6) ?_
 rintro ρ wa5 v5 wb5 r he hb hn
 replace hw:=hw.tr hb
 replace gA:=gA.past (iv':=(wa5.heap.size,wb5.heap.size)::iv4) r (oldF w) he fun x hx=>List.mem_cons_of_mem _ hx
 replace gb:=gb.past (iv':=(wa5.heap.size,wb5.heap.size)::iv4) r (oldF w) he fun x hx=>List.mem_cons_of_mem _ hx
 replace gc:=gc.past (iv':=(wa5.heap.size,wb5.heap.size)::iv4) r (oldF w) he fun x hx=>List.mem_cons_of_mem _ hx
 have gx:=(show RowG _ _ _ _ from(RowX.got (S:=fun _=>False) (B:=w.heap.size) hn r.baseLe (iv:=(wa5.heap.size,wb5.heap.size)::iv4) List.mem_cons_self).read)
 clear r he hb hn
 generalize (wa5.heap.size,wb5.heap.size)::iv4=iv5 at*
 obtain⟨agx,cgx,rfl⟩:=gx.shape
 conv=>whnf
 refine callE_con (Φ:=fun _ w' v w2=>RowX w2 (fun _=>False) w'.heap.size [(w'.heap.size,w2.heap.size)] v Y.length (Y.map ratioP)) (fun ρ w' r=>values_c (fun g hg=>by have:=hS g hg;have:=r.baseLe;omega) (RatsR.keep hy (fun g hg=>(hw.tr r.bel).block g (hS g hg))) hfY hY6) ?_
 rintro ρ wa6 v6 wb6 r he hb hn
 replace hw:=hw.tr hb
 replace gA:=gA.past (iv':=(wa6.heap.size,wb6.heap.size)::iv5) r (oldF w) he fun x hx=>List.mem_cons_of_mem _ hx
 replace gb:=gb.past (iv':=(wa6.heap.size,wb6.heap.size)::iv5) r (oldF w) he fun x hx=>List.mem_cons_of_mem _ hx
 replace gc:=gc.past (iv':=(wa6.heap.size,wb6.heap.size)::iv5) r (oldF w) he fun x hx=>List.mem_cons_of_mem _ hx
 replace gx:=gx.past (iv':=(wa6.heap.size,wb6.heap.size)::iv5) r (oldF w) he fun x hx=>List.mem_cons_of_mem _ hx
 have gy:=(show RowG _ _ _ _ from(RowX.got (S:=fun _=>False) (B:=w.heap.size) hn r.baseLe (iv:=(wa6.heap.size,wb6.heap.size)::iv5) List.mem_cons_self).read)
 clear r he hb hn
 generalize (wa6.heap.size,wb6.heap.size)::iv5=iv6 at*
 obtain⟨agy,cgy,rfl⟩:=gy.shape
 conv=>whnf
 refine callE_con (Φ:=fun _ w' v w2=>RowX w2 (fun _=>False) w'.heap.size [(w'.heap.size,w2.heap.size)] v R.length (R.map ratioP)) (fun ρ w' r=>values_c (fun g hg=>by have:=hS g hg;have:=r.baseLe;omega) (RatsR.keep hr (fun g hg=>(hw.tr r.bel).block g (hS g hg))) hfR hR6) ?_
 rintro ρ wa7 v7 wb7 r he hb hn
 replace hw:=hw.tr hb
 replace gA:=gA.past (iv':=(wa7.heap.size,wb7.heap.size)::iv6) r (oldF w) he fun x hx=>List.mem_cons_of_mem _ hx
 replace gb:=gb.past (iv':=(wa7.heap.size,wb7.heap.size)::iv6) r (oldF w) he fun x hx=>List.mem_cons_of_mem _ hx
 replace gc:=gc.past (iv':=(wa7.heap.size,wb7.heap.size)::iv6) r (oldF w) he fun x hx=>List.mem_cons_of_mem _ hx
 replace gx:=gx.past (iv':=(wa7.heap.size,wb7.heap.size)::iv6) r (oldF w) he fun x hx=>List.mem_cons_of_mem _ hx
 replace gy:=gy.past (iv':=(wa7.heap.size,wb7.heap.size)::iv6) r (oldF w) he fun x hx=>List.mem_cons_of_mem _ hx
 have gr:=(show RowG _ _ _ _ from(RowX.got (S:=fun _=>False) (B:=w.heap.size) hn r.baseLe (iv:=(wa7.heap.size,wb7.heap.size)::iv6) List.mem_cons_self).read)
 clear r he hb hn
 generalize (wa7.heap.size,wb7.heap.size)::iv6=iv7 at*
 obtain⟨agr,cgr,rfl⟩:=gr.shape
 conv=>whnf
 refine callE_con (Φ:=fun _ w' v w2=>FracR w2 (Nw (fun _=>False) w' w2) v (ratio p1 p2)) (fun ρ w' r=>value_c (fun g hg=>by have:=hS g hg;have:=r.baseLe;omega) (hv.keep (fun g hg=>(hw.tr r.bel).block g (hS g hg))) (by omega) (by omega)) ?_
 rintro ρ wa8 v8 wb8 r he hb hn
 replace hw:=hw.tr hb
 replace gA:=gA.past (iv':=(wa8.heap.size,wb8.heap.size)::iv7) r (oldF w) he fun x hx=>List.mem_cons_of_mem _ hx
 replace gb:=gb.past (iv':=(wa8.heap.size,wb8.heap.size)::iv7) r (oldF w) he fun x hx=>List.mem_cons_of_mem _ hx
 replace gc:=gc.past (iv':=(wa8.heap.size,wb8.heap.size)::iv7) r (oldF w) he fun x hx=>List.mem_cons_of_mem _ hx
 replace gx:=gx.past (iv':=(wa8.heap.size,wb8.heap.size)::iv7) r (oldF w) he fun x hx=>List.mem_cons_of_mem _ hx
 replace gy:=gy.past (iv':=(wa8.heap.size,wb8.heap.size)::iv7) r (oldF w) he fun x hx=>List.mem_cons_of_mem _ hx
 replace gr:=gr.past (iv':=(wa8.heap.size,wb8.heap.size)::iv7) r (oldF w) he fun x hx=>List.mem_cons_of_mem _ hx
 have gq:=hn.got (S:=fun _=>False) r.baseLe (iv:=(wa8.heap.size,wb8.heap.size)::iv7) List.mem_cons_self
 clear r he hb hn
 generalize (wa8.heap.size,wb8.heap.size)::iv7=iv8 at*
 obtain⟨s8_0,s8_1,s8_2,s8_3,s8_4,s8_5,s8_6,s8_7,rfl⟩:=gq.shape
 conv=>whnf
 have hAl:(valsM M).length=M.length:=by simp[valsM]
 have hrowA:∀r∈valsM M,r.length=(c.map ratioP).length:=fun r hr=>by
  obtain⟨x,hx,rfl⟩:=List.mem_map.1 hr
  rw[List.length_map,List.length_map];exact hrow x hx
 have hblA:(b.map ratioP).length=(valsM M).length:=by rw[List.length_map,hbl,hAl]
 replace hc60:(c.map ratioP).length≤60:=by rw[List.length_map];exact hc60
 replace hM60:(valsM M).length≤60:=by rw[hAl];exact hM60
 replace hX6:(X.map ratioP).length≤1000000:=by rw[List.length_map];exact hX6
 replace hY6:(Y.map ratioP).length≤1000000:=by rw[List.length_map];exact hY6
 replace hR6:(R.map ratioP).length≤1000000:=by rw[List.length_map];exact hR6
 clear hm hB hc hx hy hr hv hf hfM hfb hfc hfX hfY hfR hAl hrow hbl hcm hmm hcb hmb hcc hmc hcx hmx hcy hmy hcr hmr
 generalize valsM M=A at*
 generalize b.map ratioP=bs at*
 generalize c.map ratioP=cs at*
 generalize X.map ratioP=xs at*
 generalize Y.map ratioP=ys at*
 generalize R.map ratioP=rs' at*
 generalize ratio p1 p2=q at*
 conv=>whnf
 refine BrS.mk (fun hz=>?_) (fun hz=>?_)
 ·have hz:z=0:=by simpa using hz
  subst hz
  have hright:(rs'=[]∧PosF A cs.length xs bs∧BndF A ys cs∧dotTo cs xs cs.length=q∧dotTo ys bs ys.length=q)↔RightO A bs cs 0 xs ys rs' q:=by
   unfold RightO
   constructor
   ·exact fun h=>.inl ⟨rfl,h⟩
   ·rintro(⟨-,h⟩|⟨h,-⟩|⟨h,-⟩)
    ·exact h
    ·exact absurd h (by decide)
    ·exact absurd h (by decide)
  conv=>whnf
  refine drawn_of_pi hτ hmix [.x 0,.x 1,.x 2,.x 3,.x 4,.x 5,.x 6,.x 7,.x 8,.x 9,.x 10,.x 11,.x 12,.x 13,.x 14,.x 15,.x 16,.x 17,.x 18,.x 19,.x 20,.x 21,.x 22,.x 24,.x 25,.x 23,.x 26,.x 27,.x 28,.x 29,.x 30,.x 31,.x 32,.x 33,.x 35,.x 36,.x 34,.x 37,.x 38,.x 39,.x 40] (by kernel_rfl) (by kernel_rfl) ?_
  conv=>whnf
  refine BrS.mk (fun hr0=>?_) (fun hr0=>?_)
  ·have hr0:rs'=[]:=List.eq_nil_of_length_eq_zero (by have:(rs'.length:Int)=0:=(by simpa using hr0);omega)
   conv=>whnf
   refine callE_con (Φ:=fun _ w' v w2=>∃d,v= .bool d∧(d=true→PosF A cs.length xs bs)∧(PosF A cs.length xs bs→d=true)) (fun ρ w' r=>possible_c (h:=h) (Rel.old r (oldF w)) (MatG.rel gA r (oldF w)) (RowG.rel gx r (oldF w)) (RowG.rel gb r (oldF w)) hblA hrowA hqM hqX hqb h2 (by omega) (by have:=Nat.mul_le_mul_left (2*h) hc60;omega) hX6) ?_
   rintro ρ wa9 v9 wb9 r he hb ⟨d,rfl,hd1,hd2⟩
   replace hw:=hw.tr hb
   replace gA:=gA.past (iv':=(wa9.heap.size,wb9.heap.size)::iv8) r (oldF w) he fun x hx=>List.mem_cons_of_mem _ hx
   replace gb:=gb.past (iv':=(wa9.heap.size,wb9.heap.size)::iv8) r (oldF w) he fun x hx=>List.mem_cons_of_mem _ hx
   replace gc:=gc.past (iv':=(wa9.heap.size,wb9.heap.size)::iv8) r (oldF w) he fun x hx=>List.mem_cons_of_mem _ hx
   replace gx:=gx.past (iv':=(wa9.heap.size,wb9.heap.size)::iv8) r (oldF w) he fun x hx=>List.mem_cons_of_mem _ hx
   replace gy:=gy.past (iv':=(wa9.heap.size,wb9.heap.size)::iv8) r (oldF w) he fun x hx=>List.mem_cons_of_mem _ hx
   replace gr:=gr.past (iv':=(wa9.heap.size,wb9.heap.size)::iv8) r (oldF w) he fun x hx=>List.mem_cons_of_mem _ hx
   replace gq:=gq.past (iv':=(wa9.heap.size,wb9.heap.size)::iv8) r (oldF w) he fun x hx=>List.mem_cons_of_mem _ hx
   clear r he hb
   generalize (wa9.heap.size,wb9.heap.size)::iv8=iv9 at*
   conv=>whnf
   cases d with
   |false=>
    have hpo:¬(PosF A cs.length xs bs):=fun h=>absurd (hd2 h) (by decide)
    clear hd1 hd2
    conv=>whnf
    conv=>whnf
    intro ρe we re
    exact⟨_,rfl,hw.tr re.bel,25,rfl,fun _=>⟨fun h=>absurd h (fun h=>hpo (hright.2 h).2.1),fun _=>rfl⟩,fun h=>absurd h0 h⟩
   |true=>
    have hpo:PosF A cs.length xs bs:=hd1 rfl
    clear hd1 hd2
    conv=>whnf
    refine callE_con (Φ:=fun _ w' v w2=>∃d,v= .bool d∧(d=true→BndF A ys cs)∧(BndF A ys cs→d=true)) (fun ρ w' r=>bounds_c (h:=h) (Rel.old r (oldF w)) hblA (MatG.rel gA r (oldF w)) (RowG.rel gy r (oldF w)) (RowG.rel gc r (oldF w)) hrowA hqM hqY hqc h2 (by omega) (by have:=Nat.mul_le_mul_left (2*h) hM60;omega) hY6 (by omega)) ?_
    rintro ρ wa10 v10 wb10 r he hb ⟨d,rfl,hd1,hd2⟩
    replace hw:=hw.tr hb
    replace gA:=gA.past (iv':=(wa10.heap.size,wb10.heap.size)::iv9) r (oldF w) he fun x hx=>List.mem_cons_of_mem _ hx
    replace gb:=gb.past (iv':=(wa10.heap.size,wb10.heap.size)::iv9) r (oldF w) he fun x hx=>List.mem_cons_of_mem _ hx
    replace gc:=gc.past (iv':=(wa10.heap.size,wb10.heap.size)::iv9) r (oldF w) he fun x hx=>List.mem_cons_of_mem _ hx
    replace gx:=gx.past (iv':=(wa10.heap.size,wb10.heap.size)::iv9) r (oldF w) he fun x hx=>List.mem_cons_of_mem _ hx
    replace gy:=gy.past (iv':=(wa10.heap.size,wb10.heap.size)::iv9) r (oldF w) he fun x hx=>List.mem_cons_of_mem _ hx
    replace gr:=gr.past (iv':=(wa10.heap.size,wb10.heap.size)::iv9) r (oldF w) he fun x hx=>List.mem_cons_of_mem _ hx
    replace gq:=gq.past (iv':=(wa10.heap.size,wb10.heap.size)::iv9) r (oldF w) he fun x hx=>List.mem_cons_of_mem _ hx
    clear r he hb
    generalize (wa10.heap.size,wb10.heap.size)::iv9=iv10 at*
    conv=>whnf
    cases d with
    |false=>
     have hbo:¬(BndF A ys cs):=fun h=>absurd (hd2 h) (by decide)
     clear hd1 hd2
     conv=>whnf
     conv=>whnf
     intro ρe we re
     exact⟨_,rfl,hw.tr re.bel,25,rfl,fun _=>⟨fun h=>absurd h (fun h=>hbo (hright.2 h).2.2.1),fun _=>rfl⟩,fun h=>absurd h0 h⟩
    |true=>
     have hbo:BndF A ys cs:=hd1 rfl
     clear hd1 hd2
     conv=>whnf
     refine callE_con (Φ:=fun _ w' v w2=>FracR w2 (Nw (fun _=>False) w' w2) v (dotTo cs xs cs.length)) (fun ρ w' r=>dot_c (h:=h) (Rel.old r (oldF w)) (RowG.rel gc r (oldF w)) (RowG.rel gx r (oldF w)) hpo.1.symm hqc hqX h2 (by have:=Nat.mul_le_mul_left (2*h) hc60;omega)) ?_
     rintro ρ wa11 v11 wb11 r he hb hn
     replace hw:=hw.tr hb
     replace gA:=gA.past (iv':=(wa11.heap.size,wb11.heap.size)::iv10) r (oldF w) he fun x hx=>List.mem_cons_of_mem _ hx
     replace gb:=gb.past (iv':=(wa11.heap.size,wb11.heap.size)::iv10) r (oldF w) he fun x hx=>List.mem_cons_of_mem _ hx
     replace gc:=gc.past (iv':=(wa11.heap.size,wb11.heap.size)::iv10) r (oldF w) he fun x hx=>List.mem_cons_of_mem _ hx
     replace gx:=gx.past (iv':=(wa11.heap.size,wb11.heap.size)::iv10) r (oldF w) he fun x hx=>List.mem_cons_of_mem _ hx
     replace gy:=gy.past (iv':=(wa11.heap.size,wb11.heap.size)::iv10) r (oldF w) he fun x hx=>List.mem_cons_of_mem _ hx
     replace gr:=gr.past (iv':=(wa11.heap.size,wb11.heap.size)::iv10) r (oldF w) he fun x hx=>List.mem_cons_of_mem _ hx
     replace gq:=gq.past (iv':=(wa11.heap.size,wb11.heap.size)::iv10) r (oldF w) he fun x hx=>List.mem_cons_of_mem _ hx
     have hd:=hn.got (S:=fun _=>False) r.baseLe (iv:=(wa11.heap.size,wb11.heap.size)::iv10) List.mem_cons_self
     clear r he hb hn
     generalize (wa11.heap.size,wb11.heap.size)::iv10=iv11 at*
     obtain⟨s11_0,s11_1,s11_2,s11_3,s11_4,s11_5,s11_6,s11_7,rfl⟩:=hd.shape
     conv=>whnf
     have hdl:=rl_dotTo hqc hqX h2 cs.length
     have hdm:=Nat.mul_le_mul_left (2*h) hc60
     refine callE_con (Φ:=fun _ w' v w2=>v= .int .i64 (rs (dotTo cs xs cs.length-q))) (fun ρ w' r=>fcmp_c (Rel.old r (oldF w)) (hd.rel r (oldF w)) (gq.rel r (oldF w)) (by omega) (by omega)) ?_
     rintro ρ wa12 v12 wb12 r he hb rfl
     replace hw:=hw.tr hb
     replace gA:=gA.past (iv':=(wa12.heap.size,wb12.heap.size)::iv11) r (oldF w) he fun x hx=>List.mem_cons_of_mem _ hx
     replace gb:=gb.past (iv':=(wa12.heap.size,wb12.heap.size)::iv11) r (oldF w) he fun x hx=>List.mem_cons_of_mem _ hx
     replace gc:=gc.past (iv':=(wa12.heap.size,wb12.heap.size)::iv11) r (oldF w) he fun x hx=>List.mem_cons_of_mem _ hx
     replace gx:=gx.past (iv':=(wa12.heap.size,wb12.heap.size)::iv11) r (oldF w) he fun x hx=>List.mem_cons_of_mem _ hx
     replace gy:=gy.past (iv':=(wa12.heap.size,wb12.heap.size)::iv11) r (oldF w) he fun x hx=>List.mem_cons_of_mem _ hx
     replace gr:=gr.past (iv':=(wa12.heap.size,wb12.heap.size)::iv11) r (oldF w) he fun x hx=>List.mem_cons_of_mem _ hx
     replace gq:=gq.past (iv':=(wa12.heap.size,wb12.heap.size)::iv11) r (oldF w) he fun x hx=>List.mem_cons_of_mem _ hx
     clear hd
     clear r he hb
     generalize (wa12.heap.size,wb12.heap.size)::iv11=iv12 at*
     conv=>whnf
     refine BrS.mk (fun he1=>?_) (fun he1=>?_)
     ·have he1:dotTo cs xs cs.length=q:=rs_eq.1 (by simpa using he1)
      conv=>whnf
      refine callE_con (Φ:=fun _ w' v w2=>FracR w2 (Nw (fun _=>False) w' w2) v (dotTo ys bs ys.length)) (fun ρ w' r=>dot_c (h:=h) (Rel.old r (oldF w)) (RowG.rel gy r (oldF w)) (RowG.rel gb r (oldF w)) (hbo.1.trans hblA.symm) hqY hqb h2 (by have:=Nat.mul_le_mul_left (2*h) (show ys.length≤60 from hbo.1▸hM60);omega)) ?_
      rintro ρ wa13 v13 wb13 r he hb hn
      replace hw:=hw.tr hb
      replace gA:=gA.past (iv':=(wa13.heap.size,wb13.heap.size)::iv12) r (oldF w) he fun x hx=>List.mem_cons_of_mem _ hx
      replace gb:=gb.past (iv':=(wa13.heap.size,wb13.heap.size)::iv12) r (oldF w) he fun x hx=>List.mem_cons_of_mem _ hx
      replace gc:=gc.past (iv':=(wa13.heap.size,wb13.heap.size)::iv12) r (oldF w) he fun x hx=>List.mem_cons_of_mem _ hx
      replace gx:=gx.past (iv':=(wa13.heap.size,wb13.heap.size)::iv12) r (oldF w) he fun x hx=>List.mem_cons_of_mem _ hx
      replace gy:=gy.past (iv':=(wa13.heap.size,wb13.heap.size)::iv12) r (oldF w) he fun x hx=>List.mem_cons_of_mem _ hx
      replace gr:=gr.past (iv':=(wa13.heap.size,wb13.heap.size)::iv12) r (oldF w) he fun x hx=>List.mem_cons_of_mem _ hx
      replace gq:=gq.past (iv':=(wa13.heap.size,wb13.heap.size)::iv12) r (oldF w) he fun x hx=>List.mem_cons_of_mem _ hx
      have hd:=hn.got (S:=fun _=>False) r.baseLe (iv:=(wa13.heap.size,wb13.heap.size)::iv12) List.mem_cons_self
      clear r he hb hn
      generalize (wa13.heap.size,wb13.heap.size)::iv12=iv13 at*
      obtain⟨s13_0,s13_1,s13_2,s13_3,s13_4,s13_5,s13_6,s13_7,rfl⟩:=hd.shape
      conv=>whnf
      have hdl:=rl_dotTo hqY hqb h2 ys.length
      have hdm:=Nat.mul_le_mul_left (2*h) (show ys.length≤60 from hbo.1▸hM60)
      refine callE_con (Φ:=fun _ w' v w2=>v= .int .i64 (rs (dotTo ys bs ys.length-q))) (fun ρ w' r=>fcmp_c (Rel.old r (oldF w)) (hd.rel r (oldF w)) (gq.rel r (oldF w)) (by omega) (by omega)) ?_
      rintro ρ wa14 v14 wb14 r he hb rfl
      replace hw:=hw.tr hb
      replace gA:=gA.past (iv':=(wa14.heap.size,wb14.heap.size)::iv13) r (oldF w) he fun x hx=>List.mem_cons_of_mem _ hx
      replace gb:=gb.past (iv':=(wa14.heap.size,wb14.heap.size)::iv13) r (oldF w) he fun x hx=>List.mem_cons_of_mem _ hx
      replace gc:=gc.past (iv':=(wa14.heap.size,wb14.heap.size)::iv13) r (oldF w) he fun x hx=>List.mem_cons_of_mem _ hx
      replace gx:=gx.past (iv':=(wa14.heap.size,wb14.heap.size)::iv13) r (oldF w) he fun x hx=>List.mem_cons_of_mem _ hx
      replace gy:=gy.past (iv':=(wa14.heap.size,wb14.heap.size)::iv13) r (oldF w) he fun x hx=>List.mem_cons_of_mem _ hx
      replace gr:=gr.past (iv':=(wa14.heap.size,wb14.heap.size)::iv13) r (oldF w) he fun x hx=>List.mem_cons_of_mem _ hx
      replace gq:=gq.past (iv':=(wa14.heap.size,wb14.heap.size)::iv13) r (oldF w) he fun x hx=>List.mem_cons_of_mem _ hx
      clear hd
      clear r he hb
      generalize (wa14.heap.size,wb14.heap.size)::iv13=iv14 at*
      conv=>whnf
      refine BrS.mk (fun he2=>?_) (fun he2=>?_)
      ·have he2:dotTo ys bs ys.length≠q:=fun e=>by rw[rs_eq.2 e]at he2;simp at he2
       conv=>whnf
       intro ρe we re
       exact⟨_,rfl,hw.tr re.bel,25,rfl,fun _=>⟨fun h=>absurd h (fun h=>he2 (hright.2 h).2.2.2.2),fun _=>rfl⟩,fun h=>absurd h0 h⟩
      have he2:dotTo ys bs ys.length=q:=rs_eq.1 (by simpa using he2)
      conv=>whnf
      intro ρe we re
      exact⟨_,rfl,hw.tr re.bel,0,rfl,fun _=>⟨fun _=>rfl,fun h=>absurd (hright.1 ⟨hr0,hpo,hbo,he1,he2⟩) h⟩,fun h=>absurd h0 h⟩
     have he1:dotTo cs xs cs.length≠q:=fun e=>by rw[rs_eq.2 e]at he1;simp at he1
     conv=>whnf
     intro ρe we re
     exact⟨_,rfl,hw.tr re.bel,25,rfl,fun _=>⟨fun h=>absurd h (fun h=>he1 (hright.2 h).2.2.2.1),fun _=>rfl⟩,fun h=>absurd h0 h⟩
  have hr0:rs'≠[]:=fun e=>by rw[e]at hr0;simp at hr0
  conv=>whnf
  intro ρe we re
  exact⟨_,rfl,hw.tr re.bel,25,rfl,fun _=>⟨fun h=>absurd h (fun h=>hr0 (hright.2 h).1),fun _=>rfl⟩,fun h=>absurd h0 h⟩
 have hz:z≠0:=by simpa using hz
 conv=>whnf
 refine BrS.mk (fun hz1=>?_) (fun hz1=>?_)
 ·have hz1:z=1:=by simpa using hz1
  subst hz1
  have hright:(xs=[]∧rs'=[]∧q=0∧BndF A ys (nulls cs.length)∧dotTo ys bs ys.length<0)↔RightO A bs cs 1 xs ys rs' q:=by
   unfold RightO
   constructor
   ·exact fun h=>.inr (.inl ⟨rfl,h⟩)
   ·rintro(⟨h,-⟩|⟨-,h⟩|⟨h,-⟩)
    ·exact absurd h (by decide)
    ·exact h
    ·exact absurd h (by decide)
  conv=>whnf
  refine drawn_of_pi hτ hmix [.x 0,.x 1,.x 2,.x 3,.x 4,.x 5,.x 6,.x 7,.x 8,.x 9,.x 10,.x 11,.x 12,.x 13,.x 14,.x 15,.x 16,.x 17,.x 18,.x 19,.x 20,.x 21,.x 22,.x 23,.x 24,.x 25,.x 26,.x 27,.x 28,.x 29,.x 30,.x 31,.x 32,.x 33] (by kernel_rfl) (by kernel_rfl) ?_
  conv=>whnf
  refine BrS.mk (fun hx0=>?_) (fun hx0=>?_)
  ·have hx0:xs=[]:=List.eq_nil_of_length_eq_zero (by have:(xs.length:Int)=0:=(by simpa using hx0);omega)
   conv=>whnf
   refine BrS.mk (fun hr0=>?_) (fun hr0=>?_)
   ·have hr0:rs'=[]:=List.eq_nil_of_length_eq_zero (by have:(rs'.length:Int)=0:=(by simpa using hr0);omega)
    conv=>whnf
    refine callE_con (Φ:=fun _ w' v w2=>v= .int .i64 (rs q)) (fun ρ w' r=>fsign_c (Rel.old r (oldF w)) (gq.rel r (oldF w))) ?_
    rintro ρ wa9 v9 wb9 r he hb rfl
    replace hw:=hw.tr hb
    replace gA:=gA.past (iv':=(wa9.heap.size,wb9.heap.size)::iv8) r (oldF w) he fun x hx=>List.mem_cons_of_mem _ hx
    replace gb:=gb.past (iv':=(wa9.heap.size,wb9.heap.size)::iv8) r (oldF w) he fun x hx=>List.mem_cons_of_mem _ hx
    replace gc:=gc.past (iv':=(wa9.heap.size,wb9.heap.size)::iv8) r (oldF w) he fun x hx=>List.mem_cons_of_mem _ hx
    replace gx:=gx.past (iv':=(wa9.heap.size,wb9.heap.size)::iv8) r (oldF w) he fun x hx=>List.mem_cons_of_mem _ hx
    replace gy:=gy.past (iv':=(wa9.heap.size,wb9.heap.size)::iv8) r (oldF w) he fun x hx=>List.mem_cons_of_mem _ hx
    replace gr:=gr.past (iv':=(wa9.heap.size,wb9.heap.size)::iv8) r (oldF w) he fun x hx=>List.mem_cons_of_mem _ hx
    replace gq:=gq.past (iv':=(wa9.heap.size,wb9.heap.size)::iv8) r (oldF w) he fun x hx=>List.mem_cons_of_mem _ hx
    clear r he hb
    generalize (wa9.heap.size,wb9.heap.size)::iv8=iv9 at*
    conv=>whnf
    refine BrS.mk (fun hq0=>?_) (fun hq0=>?_)
    ·have hq0:q=0:=rs_zero.1 (by simpa using hq0)
     conv=>whnf
     refine callE_con (Φ:=fun _ w' v w2=>RowX w2 (fun _=>False) w'.heap.size [(w'.heap.size,w2.heap.size)] v cs.length (nulls cs.length)) (fun ρ w' r=>zeros_c cs.length w' (by omega)) ?_
     rintro ρ wa10 v10 wb10 r he hb hn
     replace hw:=hw.tr hb
     replace gA:=gA.past (iv':=(wa10.heap.size,wb10.heap.size)::iv9) r (oldF w) he fun x hx=>List.mem_cons_of_mem _ hx
     replace gb:=gb.past (iv':=(wa10.heap.size,wb10.heap.size)::iv9) r (oldF w) he fun x hx=>List.mem_cons_of_mem _ hx
     replace gc:=gc.past (iv':=(wa10.heap.size,wb10.heap.size)::iv9) r (oldF w) he fun x hx=>List.mem_cons_of_mem _ hx
     replace gx:=gx.past (iv':=(wa10.heap.size,wb10.heap.size)::iv9) r (oldF w) he fun x hx=>List.mem_cons_of_mem _ hx
     replace gy:=gy.past (iv':=(wa10.heap.size,wb10.heap.size)::iv9) r (oldF w) he fun x hx=>List.mem_cons_of_mem _ hx
     replace gr:=gr.past (iv':=(wa10.heap.size,wb10.heap.size)::iv9) r (oldF w) he fun x hx=>List.mem_cons_of_mem _ hx
     replace gq:=gq.past (iv':=(wa10.heap.size,wb10.heap.size)::iv9) r (oldF w) he fun x hx=>List.mem_cons_of_mem _ hx
     have hz:=(show RowG _ _ _ _ from(RowX.got (S:=fun _=>False) (B:=w.heap.size) hn r.baseLe (iv:=(wa10.heap.size,wb10.heap.size)::iv9) List.mem_cons_self).read)
     clear r he hb hn
     generalize (wa10.heap.size,wb10.heap.size)::iv9=iv10 at*
     obtain⟨ahz,chz,rfl⟩:=hz.shape
     rw[List.length_replicate]at hz ⊢
     conv=>whnf
     refine callE_con (Φ:=fun _ w' v w2=>∃d,v= .bool d∧(d=true→BndF A ys (nulls cs.length))∧(BndF A ys (nulls cs.length)→d=true)) (fun ρ w' r=>bounds_c (h:=h) (Rel.old r (oldF w)) hblA (MatG.rel gA r (oldF w)) (RowG.rel gy r (oldF w)) (RowG.rel hz r (oldF w)) (fun r hr=>(hrowA r hr).trans (nulls_len _).symm) hqM hqY (nulls_rl h2) h2 (by omega) (by have:=Nat.mul_le_mul_left (2*h) hM60;omega) hY6 (by rw[nulls_len];omega)) ?_
     rintro ρ wa11 v11 wb11 r he hb ⟨d,rfl,hd1,hd2⟩
     replace hw:=hw.tr hb
     replace gA:=gA.past (iv':=(wa11.heap.size,wb11.heap.size)::iv10) r (oldF w) he fun x hx=>List.mem_cons_of_mem _ hx
     replace gb:=gb.past (iv':=(wa11.heap.size,wb11.heap.size)::iv10) r (oldF w) he fun x hx=>List.mem_cons_of_mem _ hx
     replace gc:=gc.past (iv':=(wa11.heap.size,wb11.heap.size)::iv10) r (oldF w) he fun x hx=>List.mem_cons_of_mem _ hx
     replace gx:=gx.past (iv':=(wa11.heap.size,wb11.heap.size)::iv10) r (oldF w) he fun x hx=>List.mem_cons_of_mem _ hx
     replace gy:=gy.past (iv':=(wa11.heap.size,wb11.heap.size)::iv10) r (oldF w) he fun x hx=>List.mem_cons_of_mem _ hx
     replace gr:=gr.past (iv':=(wa11.heap.size,wb11.heap.size)::iv10) r (oldF w) he fun x hx=>List.mem_cons_of_mem _ hx
     replace gq:=gq.past (iv':=(wa11.heap.size,wb11.heap.size)::iv10) r (oldF w) he fun x hx=>List.mem_cons_of_mem _ hx
     clear hz
     clear r he hb
     generalize (wa11.heap.size,wb11.heap.size)::iv10=iv11 at*
     conv=>whnf
     cases d with
     |false=>
      have hbo:¬(BndF A ys (nulls cs.length)):=fun h=>absurd (hd2 h) (by decide)
      clear hd1 hd2
      conv=>whnf
      conv=>whnf
      intro ρe we re
      exact⟨_,rfl,hw.tr re.bel,25,rfl,fun _=>⟨fun h=>absurd h (fun h=>hbo (hright.2 h).2.2.2.1),fun _=>rfl⟩,fun h=>absurd h0 h⟩
     |true=>
      have hbo:BndF A ys (nulls cs.length):=hd1 rfl
      clear hd1 hd2
      conv=>whnf
      refine callE_con (Φ:=fun _ w' v w2=>FracR w2 (Nw (fun _=>False) w' w2) v (dotTo ys bs ys.length)) (fun ρ w' r=>dot_c (h:=h) (Rel.old r (oldF w)) (RowG.rel gy r (oldF w)) (RowG.rel gb r (oldF w)) (hbo.1.trans hblA.symm) hqY hqb h2 (by have:=Nat.mul_le_mul_left (2*h) (show ys.length≤60 from hbo.1▸hM60);omega)) ?_
      rintro ρ wa12 v12 wb12 r he hb hn
      replace hw:=hw.tr hb
      replace gA:=gA.past (iv':=(wa12.heap.size,wb12.heap.size)::iv11) r (oldF w) he fun x hx=>List.mem_cons_of_mem _ hx
      replace gb:=gb.past (iv':=(wa12.heap.size,wb12.heap.size)::iv11) r (oldF w) he fun x hx=>List.mem_cons_of_mem _ hx
      replace gc:=gc.past (iv':=(wa12.heap.size,wb12.heap.size)::iv11) r (oldF w) he fun x hx=>List.mem_cons_of_mem _ hx
      replace gx:=gx.past (iv':=(wa12.heap.size,wb12.heap.size)::iv11) r (oldF w) he fun x hx=>List.mem_cons_of_mem _ hx
      replace gy:=gy.past (iv':=(wa12.heap.size,wb12.heap.size)::iv11) r (oldF w) he fun x hx=>List.mem_cons_of_mem _ hx
      replace gr:=gr.past (iv':=(wa12.heap.size,wb12.heap.size)::iv11) r (oldF w) he fun x hx=>List.mem_cons_of_mem _ hx
      replace gq:=gq.past (iv':=(wa12.heap.size,wb12.heap.size)::iv11) r (oldF w) he fun x hx=>List.mem_cons_of_mem _ hx
      have hd:=hn.got (S:=fun _=>False) r.baseLe (iv:=(wa12.heap.size,wb12.heap.size)::iv11) List.mem_cons_self
      clear r he hb hn
      generalize (wa12.heap.size,wb12.heap.size)::iv11=iv12 at*
      obtain⟨s12_0,s12_1,s12_2,s12_3,s12_4,s12_5,s12_6,s12_7,rfl⟩:=hd.shape
      conv=>whnf
      have hdl:=rl_dotTo hqY hqb h2 ys.length
      have hdm:=Nat.mul_le_mul_left (2*h) (show ys.length≤60 from hbo.1▸hM60)
      refine callE_con (Φ:=fun _ w' v w2=>v= .int .i64 (rs (dotTo ys bs ys.length))) (fun ρ w' r=>fsign_c (Rel.old r (oldF w)) (hd.rel r (oldF w))) ?_
      rintro ρ wa13 v13 wb13 r he hb rfl
      replace hw:=hw.tr hb
      replace gA:=gA.past (iv':=(wa13.heap.size,wb13.heap.size)::iv12) r (oldF w) he fun x hx=>List.mem_cons_of_mem _ hx
      replace gb:=gb.past (iv':=(wa13.heap.size,wb13.heap.size)::iv12) r (oldF w) he fun x hx=>List.mem_cons_of_mem _ hx
      replace gc:=gc.past (iv':=(wa13.heap.size,wb13.heap.size)::iv12) r (oldF w) he fun x hx=>List.mem_cons_of_mem _ hx
      replace gx:=gx.past (iv':=(wa13.heap.size,wb13.heap.size)::iv12) r (oldF w) he fun x hx=>List.mem_cons_of_mem _ hx
      replace gy:=gy.past (iv':=(wa13.heap.size,wb13.heap.size)::iv12) r (oldF w) he fun x hx=>List.mem_cons_of_mem _ hx
      replace gr:=gr.past (iv':=(wa13.heap.size,wb13.heap.size)::iv12) r (oldF w) he fun x hx=>List.mem_cons_of_mem _ hx
      replace gq:=gq.past (iv':=(wa13.heap.size,wb13.heap.size)::iv12) r (oldF w) he fun x hx=>List.mem_cons_of_mem _ hx
      clear hd
      clear r he hb
      generalize (wa13.heap.size,wb13.heap.size)::iv12=iv13 at*
      conv=>whnf
      refine BrS.mk (fun he2=>?_) (fun he2=>?_)
      ·have he2:¬dotTo ys bs ys.length<0:=fun e=>absurd (rs_neg_iff.2 e) (by simpa using he2)
       conv=>whnf
       intro ρe we re
       exact⟨_,rfl,hw.tr re.bel,25,rfl,fun _=>⟨fun h=>absurd h (fun h=>he2 (hright.2 h).2.2.2.2),fun _=>rfl⟩,fun h=>absurd h0 h⟩
      have he2:dotTo ys bs ys.length<0:=rs_neg_iff.1 (by simpa using he2)
      conv=>whnf
      intro ρe we re
      exact⟨_,rfl,hw.tr re.bel,0,rfl,fun _=>⟨fun _=>rfl,fun h=>absurd (hright.1 ⟨hx0,hr0,hq0,hbo,he2⟩) h⟩,fun h=>absurd h0 h⟩
    have hq0:q≠0:=fun e=>by rw[rs_zero.2 e]at hq0;simp at hq0
    conv=>whnf
    intro ρe we re
    exact⟨_,rfl,hw.tr re.bel,25,rfl,fun _=>⟨fun h=>absurd h (fun h=>hq0 (hright.2 h).2.2.1),fun _=>rfl⟩,fun h=>absurd h0 h⟩
   have hr0:rs'≠[]:=fun e=>by rw[e]at hr0;simp at hr0
   conv=>whnf
   intro ρe we re
   exact⟨_,rfl,hw.tr re.bel,25,rfl,fun _=>⟨fun h=>absurd h (fun h=>hr0 (hright.2 h).2.1),fun _=>rfl⟩,fun h=>absurd h0 h⟩
  have hx0:xs≠[]:=fun e=>by rw[e]at hx0;simp at hx0
  conv=>whnf
  intro ρe we re
  exact⟨_,rfl,hw.tr re.bel,25,rfl,fun _=>⟨fun h=>absurd h (fun h=>hx0 (hright.2 h).1),fun _=>rfl⟩,fun h=>absurd h0 h⟩
 have hz1:z≠1:=by simpa using hz1
 conv=>whnf
 refine BrS.mk (fun hz2=>?_) (fun hz2=>?_)
 ·have hz2:z=2:=by simpa using hz2
  subst hz2
  have hright:(ys=[]∧q=0∧PosF A cs.length xs bs∧PosF A cs.length rs' (nulls bs.length)∧0<dotTo cs rs' cs.length)↔RightO A bs cs 2 xs ys rs' q:=by
   unfold RightO
   constructor
   ·exact fun h=>.inr (.inr ⟨rfl,h⟩)
   ·rintro(⟨h,-⟩|⟨h,-⟩|⟨-,h⟩)
    ·exact absurd h (by decide)
    ·exact absurd h (by decide)
    ·exact h
  conv=>whnf
  refine drawn_of_pi hτ hmix [.x 0,.x 1,.x 2,.x 3,.x 4,.x 5,.x 6,.x 7,.x 8,.x 9,.x 10,.x 11,.x 12,.x 13,.x 14,.x 15,.x 16,.x 17,.x 18,.x 19,.x 20,.x 21,.x 22,.x 23,.x 24,.x 25,.x 26,.x 27,.x 28,.x 29,.x 30,.x 31,.x 32,.x 33,.x 34,.x 35,.x 36,.x 37] (by kernel_rfl) (by kernel_rfl) ?_
  conv=>whnf
  refine BrS.mk (fun hy0=>?_) (fun hy0=>?_)
  ·have hy0:ys=[]:=List.eq_nil_of_length_eq_zero (by have:(ys.length:Int)=0:=(by simpa using hy0);omega)
   conv=>whnf
   refine callE_con (Φ:=fun _ w' v w2=>v= .int .i64 (rs q)) (fun ρ w' r=>fsign_c (Rel.old r (oldF w)) (gq.rel r (oldF w))) ?_
   rintro ρ wa9 v9 wb9 r he hb rfl
   replace hw:=hw.tr hb
   replace gA:=gA.past (iv':=(wa9.heap.size,wb9.heap.size)::iv8) r (oldF w) he fun x hx=>List.mem_cons_of_mem _ hx
   replace gb:=gb.past (iv':=(wa9.heap.size,wb9.heap.size)::iv8) r (oldF w) he fun x hx=>List.mem_cons_of_mem _ hx
   replace gc:=gc.past (iv':=(wa9.heap.size,wb9.heap.size)::iv8) r (oldF w) he fun x hx=>List.mem_cons_of_mem _ hx
   replace gx:=gx.past (iv':=(wa9.heap.size,wb9.heap.size)::iv8) r (oldF w) he fun x hx=>List.mem_cons_of_mem _ hx
   replace gy:=gy.past (iv':=(wa9.heap.size,wb9.heap.size)::iv8) r (oldF w) he fun x hx=>List.mem_cons_of_mem _ hx
   replace gr:=gr.past (iv':=(wa9.heap.size,wb9.heap.size)::iv8) r (oldF w) he fun x hx=>List.mem_cons_of_mem _ hx
   replace gq:=gq.past (iv':=(wa9.heap.size,wb9.heap.size)::iv8) r (oldF w) he fun x hx=>List.mem_cons_of_mem _ hx
   clear r he hb
   generalize (wa9.heap.size,wb9.heap.size)::iv8=iv9 at*
   conv=>whnf
   refine BrS.mk (fun hq0=>?_) (fun hq0=>?_)
   ·have hq0:q=0:=rs_zero.1 (by simpa using hq0)
    conv=>whnf
    refine callE_con (Φ:=fun _ w' v w2=>∃d,v= .bool d∧(d=true→PosF A cs.length xs bs)∧(PosF A cs.length xs bs→d=true)) (fun ρ w' r=>possible_c (h:=h) (Rel.old r (oldF w)) (MatG.rel gA r (oldF w)) (RowG.rel gx r (oldF w)) (RowG.rel gb r (oldF w)) hblA hrowA hqM hqX hqb h2 (by omega) (by have:=Nat.mul_le_mul_left (2*h) hc60;omega) hX6) ?_
    rintro ρ wa10 v10 wb10 r he hb ⟨d,rfl,hd1,hd2⟩
    replace hw:=hw.tr hb
    replace gA:=gA.past (iv':=(wa10.heap.size,wb10.heap.size)::iv9) r (oldF w) he fun x hx=>List.mem_cons_of_mem _ hx
    replace gb:=gb.past (iv':=(wa10.heap.size,wb10.heap.size)::iv9) r (oldF w) he fun x hx=>List.mem_cons_of_mem _ hx
    replace gc:=gc.past (iv':=(wa10.heap.size,wb10.heap.size)::iv9) r (oldF w) he fun x hx=>List.mem_cons_of_mem _ hx
    replace gx:=gx.past (iv':=(wa10.heap.size,wb10.heap.size)::iv9) r (oldF w) he fun x hx=>List.mem_cons_of_mem _ hx
    replace gy:=gy.past (iv':=(wa10.heap.size,wb10.heap.size)::iv9) r (oldF w) he fun x hx=>List.mem_cons_of_mem _ hx
    replace gr:=gr.past (iv':=(wa10.heap.size,wb10.heap.size)::iv9) r (oldF w) he fun x hx=>List.mem_cons_of_mem _ hx
    replace gq:=gq.past (iv':=(wa10.heap.size,wb10.heap.size)::iv9) r (oldF w) he fun x hx=>List.mem_cons_of_mem _ hx
    clear r he hb
    generalize (wa10.heap.size,wb10.heap.size)::iv9=iv10 at*
    conv=>whnf
    cases d with
    |false=>
     have hpo:¬(PosF A cs.length xs bs):=fun h=>absurd (hd2 h) (by decide)
     clear hd1 hd2
     conv=>whnf
     conv=>whnf
     intro ρe we re
     exact⟨_,rfl,hw.tr re.bel,25,rfl,fun _=>⟨fun h=>absurd h (fun h=>hpo (hright.2 h).2.2.1),fun _=>rfl⟩,fun h=>absurd h0 h⟩
    |true=>
     have hpo:PosF A cs.length xs bs:=hd1 rfl
     clear hd1 hd2
     conv=>whnf
     refine callE_con (Φ:=fun _ w' v w2=>RowX w2 (fun _=>False) w'.heap.size [(w'.heap.size,w2.heap.size)] v bs.length (nulls bs.length)) (fun ρ w' r=>zeros_c bs.length w' (by omega)) ?_
     rintro ρ wa11 v11 wb11 r he hb hn
     replace hw:=hw.tr hb
     replace gA:=gA.past (iv':=(wa11.heap.size,wb11.heap.size)::iv10) r (oldF w) he fun x hx=>List.mem_cons_of_mem _ hx
     replace gb:=gb.past (iv':=(wa11.heap.size,wb11.heap.size)::iv10) r (oldF w) he fun x hx=>List.mem_cons_of_mem _ hx
     replace gc:=gc.past (iv':=(wa11.heap.size,wb11.heap.size)::iv10) r (oldF w) he fun x hx=>List.mem_cons_of_mem _ hx
     replace gx:=gx.past (iv':=(wa11.heap.size,wb11.heap.size)::iv10) r (oldF w) he fun x hx=>List.mem_cons_of_mem _ hx
     replace gy:=gy.past (iv':=(wa11.heap.size,wb11.heap.size)::iv10) r (oldF w) he fun x hx=>List.mem_cons_of_mem _ hx
     replace gr:=gr.past (iv':=(wa11.heap.size,wb11.heap.size)::iv10) r (oldF w) he fun x hx=>List.mem_cons_of_mem _ hx
     replace gq:=gq.past (iv':=(wa11.heap.size,wb11.heap.size)::iv10) r (oldF w) he fun x hx=>List.mem_cons_of_mem _ hx
     have hz:=(show RowG _ _ _ _ from(RowX.got (S:=fun _=>False) (B:=w.heap.size) hn r.baseLe (iv:=(wa11.heap.size,wb11.heap.size)::iv10) List.mem_cons_self).read)
     clear r he hb hn
     generalize (wa11.heap.size,wb11.heap.size)::iv10=iv11 at*
     obtain⟨ahz,chz,rfl⟩:=hz.shape
     rw[List.length_replicate]at hz ⊢
     conv=>whnf
     refine callE_con (Φ:=fun _ w' v w2=>∃d,v= .bool d∧(d=true→PosF A cs.length rs' (nulls bs.length))∧(PosF A cs.length rs' (nulls bs.length)→d=true)) (fun ρ w' r=>possible_c (h:=h) (Rel.old r (oldF w)) (MatG.rel gA r (oldF w)) (RowG.rel gr r (oldF w)) (RowG.rel hz r (oldF w)) ((nulls_len _).trans hblA) hrowA hqM hqR (nulls_rl h2) h2 (by omega) (by have:=Nat.mul_le_mul_left (2*h) hc60;omega) hR6) ?_
     rintro ρ wa12 v12 wb12 r he hb ⟨d,rfl,hd1,hd2⟩
     replace hw:=hw.tr hb
     replace gA:=gA.past (iv':=(wa12.heap.size,wb12.heap.size)::iv11) r (oldF w) he fun x hx=>List.mem_cons_of_mem _ hx
     replace gb:=gb.past (iv':=(wa12.heap.size,wb12.heap.size)::iv11) r (oldF w) he fun x hx=>List.mem_cons_of_mem _ hx
     replace gc:=gc.past (iv':=(wa12.heap.size,wb12.heap.size)::iv11) r (oldF w) he fun x hx=>List.mem_cons_of_mem _ hx
     replace gx:=gx.past (iv':=(wa12.heap.size,wb12.heap.size)::iv11) r (oldF w) he fun x hx=>List.mem_cons_of_mem _ hx
     replace gy:=gy.past (iv':=(wa12.heap.size,wb12.heap.size)::iv11) r (oldF w) he fun x hx=>List.mem_cons_of_mem _ hx
     replace gr:=gr.past (iv':=(wa12.heap.size,wb12.heap.size)::iv11) r (oldF w) he fun x hx=>List.mem_cons_of_mem _ hx
     replace gq:=gq.past (iv':=(wa12.heap.size,wb12.heap.size)::iv11) r (oldF w) he fun x hx=>List.mem_cons_of_mem _ hx
     clear hz
     clear r he hb
     generalize (wa12.heap.size,wb12.heap.size)::iv11=iv12 at*
     conv=>whnf
     cases d with
     |false=>
      have hro:¬(PosF A cs.length rs' (nulls bs.length)):=fun h=>absurd (hd2 h) (by decide)
      clear hd1 hd2
      conv=>whnf
      conv=>whnf
      intro ρe we re
      exact⟨_,rfl,hw.tr re.bel,25,rfl,fun _=>⟨fun h=>absurd h (fun h=>hro (hright.2 h).2.2.2.1),fun _=>rfl⟩,fun h=>absurd h0 h⟩
     |true=>
      have hro:PosF A cs.length rs' (nulls bs.length):=hd1 rfl
      clear hd1 hd2
      conv=>whnf
      refine callE_con (Φ:=fun _ w' v w2=>FracR w2 (Nw (fun _=>False) w' w2) v (dotTo cs rs' cs.length)) (fun ρ w' r=>dot_c (h:=h) (Rel.old r (oldF w)) (RowG.rel gc r (oldF w)) (RowG.rel gr r (oldF w)) hro.1.symm hqc hqR h2 (by have:=Nat.mul_le_mul_left (2*h) hc60;omega)) ?_
      rintro ρ wa13 v13 wb13 r he hb hn
      replace hw:=hw.tr hb
      replace gA:=gA.past (iv':=(wa13.heap.size,wb13.heap.size)::iv12) r (oldF w) he fun x hx=>List.mem_cons_of_mem _ hx
      replace gb:=gb.past (iv':=(wa13.heap.size,wb13.heap.size)::iv12) r (oldF w) he fun x hx=>List.mem_cons_of_mem _ hx
      replace gc:=gc.past (iv':=(wa13.heap.size,wb13.heap.size)::iv12) r (oldF w) he fun x hx=>List.mem_cons_of_mem _ hx
      replace gx:=gx.past (iv':=(wa13.heap.size,wb13.heap.size)::iv12) r (oldF w) he fun x hx=>List.mem_cons_of_mem _ hx
      replace gy:=gy.past (iv':=(wa13.heap.size,wb13.heap.size)::iv12) r (oldF w) he fun x hx=>List.mem_cons_of_mem _ hx
      replace gr:=gr.past (iv':=(wa13.heap.size,wb13.heap.size)::iv12) r (oldF w) he fun x hx=>List.mem_cons_of_mem _ hx
      replace gq:=gq.past (iv':=(wa13.heap.size,wb13.heap.size)::iv12) r (oldF w) he fun x hx=>List.mem_cons_of_mem _ hx
      have hd:=hn.got (S:=fun _=>False) r.baseLe (iv:=(wa13.heap.size,wb13.heap.size)::iv12) List.mem_cons_self
      clear r he hb hn
      generalize (wa13.heap.size,wb13.heap.size)::iv12=iv13 at*
      obtain⟨s13_0,s13_1,s13_2,s13_3,s13_4,s13_5,s13_6,s13_7,rfl⟩:=hd.shape
      conv=>whnf
      have hdl:=rl_dotTo hqc hqR h2 cs.length
      have hdm:=Nat.mul_le_mul_left (2*h) hc60
      refine callE_con (Φ:=fun _ w' v w2=>v= .int .i64 (rs (dotTo cs rs' cs.length))) (fun ρ w' r=>fsign_c (Rel.old r (oldF w)) (hd.rel r (oldF w))) ?_
      rintro ρ wa14 v14 wb14 r he hb rfl
      replace hw:=hw.tr hb
      replace gA:=gA.past (iv':=(wa14.heap.size,wb14.heap.size)::iv13) r (oldF w) he fun x hx=>List.mem_cons_of_mem _ hx
      replace gb:=gb.past (iv':=(wa14.heap.size,wb14.heap.size)::iv13) r (oldF w) he fun x hx=>List.mem_cons_of_mem _ hx
      replace gc:=gc.past (iv':=(wa14.heap.size,wb14.heap.size)::iv13) r (oldF w) he fun x hx=>List.mem_cons_of_mem _ hx
      replace gx:=gx.past (iv':=(wa14.heap.size,wb14.heap.size)::iv13) r (oldF w) he fun x hx=>List.mem_cons_of_mem _ hx
      replace gy:=gy.past (iv':=(wa14.heap.size,wb14.heap.size)::iv13) r (oldF w) he fun x hx=>List.mem_cons_of_mem _ hx
      replace gr:=gr.past (iv':=(wa14.heap.size,wb14.heap.size)::iv13) r (oldF w) he fun x hx=>List.mem_cons_of_mem _ hx
      replace gq:=gq.past (iv':=(wa14.heap.size,wb14.heap.size)::iv13) r (oldF w) he fun x hx=>List.mem_cons_of_mem _ hx
      clear hd
      clear r he hb
      generalize (wa14.heap.size,wb14.heap.size)::iv13=iv14 at*
      conv=>whnf
      refine BrS.mk (fun he2=>?_) (fun he2=>?_)
      ·have he2:¬0<dotTo cs rs' cs.length:=fun e=>absurd (rs_pos_iff.2 e) (by simpa using he2)
       conv=>whnf
       intro ρe we re
       exact⟨_,rfl,hw.tr re.bel,25,rfl,fun _=>⟨fun h=>absurd h (fun h=>he2 (hright.2 h).2.2.2.2),fun _=>rfl⟩,fun h=>absurd h0 h⟩
      have he2:0<dotTo cs rs' cs.length:=rs_pos_iff.1 (by simpa using he2)
      conv=>whnf
      intro ρe we re
      exact⟨_,rfl,hw.tr re.bel,0,rfl,fun _=>⟨fun _=>rfl,fun h=>absurd (hright.1 ⟨hy0,hq0,hpo,hro,he2⟩) h⟩,fun h=>absurd h0 h⟩
   have hq0:q≠0:=fun e=>by rw[rs_zero.2 e]at hq0;simp at hq0
   conv=>whnf
   intro ρe we re
   exact⟨_,rfl,hw.tr re.bel,25,rfl,fun _=>⟨fun h=>absurd h (fun h=>hq0 (hright.2 h).2.1),fun _=>rfl⟩,fun h=>absurd h0 h⟩
  have hy0:ys≠[]:=fun e=>by rw[e]at hy0;simp at hy0
  conv=>whnf
  intro ρe we re
  exact⟨_,rfl,hw.tr re.bel,25,rfl,fun _=>⟨fun h=>absurd h (fun h=>hy0 (hright.2 h).1),fun _=>rfl⟩,fun h=>absurd h0 h⟩
 have hz2:z≠2:=by simpa using hz2
 conv=>whnf
 intro ρe we re
 exact⟨_,rfl,hw.tr re.bel,25,rfl,fun _=>⟨fun h=>absurd h (fun h=>h.elim (fun h=>hz h.1) fun h=>h.elim (fun h=>hz1 h.1) fun h=>hz2 h.1),fun _=>rfl⟩,fun h=>absurd h0 h⟩
end Go.Ex

/- Regions that draw their order, by an order with branches; CheckSystem and Wider of the reference. Printed by program. No condition but sizes. -/
namespace Go.Ex
open Go Go.Sx Go.Proofs

inductive Tp where
 |nil
 |x (i:Nat) (t:Tp)
 |two (i:Nat) (t:Tp) (j:Nat) (u:Tp)
 |give (id:Nat) (t:Tp)
section
variable{P:Program}{τ:Tab}{ops:Array Oper}{B n nx:Nat}{l:Env}{H:Hp}{iv:Iv}{w w':World}{ρ:Nat→Sx.Val}{a:Act}
end
end Go.Ex

/- Elimination: prefixes of the columns, sums over a row, rows that are cleared. Plain. -/
namespace Go.Ex
end Go.Ex

/- Elimination of a system: a contradiction is one, and the first columns alone give the same. Plain. -/
namespace Go.Ex
section
variable{M:List (List Rat)}{b:List Rat}{n:Nat}
end
end Go.Ex

/- Wider of the reference. Printed by program. No condition but sizes. -/
namespace Go.Ex
open Go Go.Sx Go.Proofs

end Go.Ex

/- Basic of the reference: the basic solution of a system. Printed by program. No condition but sizes. -/
namespace Go.Ex
open Go Go.Sx Go.Proofs

end Go.Ex

/- Dot, Before and IsContradiction of the reference. Printed by program. No condition but sizes. -/
namespace Go.Ex
open Go Go.Sx Go.Proofs

theorem rDot_c{S:Nat→Prop}{w:World}{v u:Value}{xs ys:List Rat}{h:Nat}(hS:Old S w)(hx:RatsL w S v xs)(hy:RatsL w S u ys)(hl:xs.length=ys.length)(hqx:∀q∈xs,rl q+1≤h)(hqy:∀q∈ys,rl q+1≤h)(h2:2≤h)(hb:2*h*xs.length≤90000):
  Con PG N.ref01_Dot #[v,u] w (Ret w fun v' w2=>RatC w2 (Nw (fun _=>False) w w2) v' (dotTo xs ys xs.length)):=by
 have hw:Bel w.heap.size w w:=Bel.refl
 obtain⟨ax,cx,rfl,hcx,hmx⟩:=hx.shape
 obtain⟨ay,cy,rfl,hcy,-⟩:=hy.shape
 unfold maxLen at hmx
 refine in_ref01_Dot (by simp) ?_
 conv=>whnf
 refine callE_S (callE_con (Φ:=fun _ w' v w2=>RatC w2 (Nw (fun _=>False) w' w2) v (((0:Int):Rat))) (fun ρ w' r=>rWholeAll_c 0 w' (by decide) (by decide)) ?_)
 rintro ρ wa1 v1 wb1 r he hb hn
 replace hw:=hw.tr hb
 have hd:=hn.got (S:=fun _=>False) r.baseLe (iv:=(wa1.heap.size,wb1.heap.size)::[]) List.mem_cons_self
 clear r he hb hn
 generalize (wa1.heap.size,wb1.heap.size)::[]=iv1 at*
 obtain⟨s1_0,s1_1,s1_2,s1_3,s1_4,s1_5,s1_6,s1_7,rfl⟩:=hd.shape
 conv=>whnf
 rw[show ((0:Int):Rat)=dotTo xs ys 0 from rfl]at hd
 refine⟨Nat×(Bool×Bool)×(Option Addr×Option Addr)×(Nat×Nat×Nat×Nat)×World×Iv,fun z=>⟨[(0,.o (.v (.slice ax xs.length cx))),(1,.o (.v (.slice ay ys.length cy))),(4,.o (.p 0 0)),(5,.o (.p 1 0)),(6,.o (.v (.int .i64 ((z.1:Nat):Int))))],[(1,.box T.Rat [.v (.bool z.2.1.1),.v (.slice z.2.2.1.1 z.2.2.2.1.1 z.2.2.2.1.2.1),.v (.bool z.2.1.2),.v (.slice z.2.2.1.2 z.2.2.2.1.2.2.1 z.2.2.2.1.2.2.2)]),(0,.box T.Rat [.v (.bool false),.v (.slice none 0 0),.v (.bool false),.v (.slice none 0 0)])],2,z.2.2.2.2.2,z.2.2.2.2.1⟩,fun z=>xs.length-z.1,
  fun z=>z.1≤xs.length∧Bel w.heap.size w z.2.2.2.2.1∧RatC z.2.2.2.2.1 (Cv (fun _=>False) w.heap.size z.2.2.2.2.2) (.agg #[.bool z.2.1.1,.slice z.2.2.1.1 z.2.2.2.1.1 z.2.2.2.1.2.1,.bool z.2.1.2,.slice z.2.2.1.2 z.2.2.2.1.2.2.1 z.2.2.2.1.2.2.2]) (dotTo xs ys z.1),?_,?_⟩
 ·intro ρ w' r
  exact⟨(0,(s1_0,s1_4),(s1_1,s1_5),(s1_2,s1_3,s1_6,s1_7),w',iv1),⟨by simp,hw.tr r.bel,hd.rel r (oldF w)⟩,Sub.gen [] r ⟨rfl,rfl,trivial⟩ ⟨rfl,rfl,rfl,rfl,rfl,trivial⟩ (by simp[ScH,Blk.scopd,At.sc]) (by simp[ScE,SV.sc,At.sc]) (by rfl) (fun lo hi h=>h)⟩
 clear hw hd
 rintro⟨i,⟨p0,p4⟩,⟨p1,p5⟩,⟨p2,p3,p6,p7⟩,w1,iv⟩ ⟨hi,hw,hd⟩
 dsimp only at hi hw hd ⊢
 conv=>whnf
 refine BrS.mk (fun hib=>?_) (fun hib=>?_)
 ·have hib:i<xs.length:=by simpa using hib
  have hs:=rl_dotTo hqx hqy h2 i
  have hs2:2*h*i≤2*h*xs.length:=Nat.mul_le_mul_left _ hi
  have hs3:2*h*1≤2*h*xs.length:=Nat.mul_le_mul_left _ (by omega)
  obtain⟨x,hxi⟩:∃x,xs[i]? =some x:=⟨_,List.getElem?_eq_getElem hib⟩
  obtain⟨y,hyi⟩:∃x,ys[i]? =some x:=⟨_,List.getElem?_eq_getElem (by omega)⟩
  have hx3:=hqx x (List.mem_of_getElem? hxi)
  have hy3:=hqy y (List.mem_of_getElem? hyi)
  have hx2:xs.getD i 0=x:=by rw[List.getD,hxi];rfl
  have hy2:ys.getD i 0=y:=by rw[List.getD,hyi];rfl
  have hm:=rl_mul x y
  obtain⟨adx,csx,hax,hFx,-,hlx⟩:=ListR.load hx hxi
  obtain⟨ady,csy,hay,hFy,-,hly⟩:=ListR.load hy hyi
  obtain⟨f0,f1,f2,f3,f4,f5,f6,f7,rfl,hFx⟩:=hFx
  obtain⟨q0,q1,q2,q3,q4,q5,q6,q7,rfl,hFy⟩:=hFy
  conv=>whnf
  refine drawn_of_pi hτ hmix [.x 0,.x 1,.x 2,.x 3,.x 4,.x 5,.x 6,.x 7,.x 8,.x 9,.x 10,.x 11] (by kernel_rfl) (by kernel_rfl) ?_
  conv=>whnf
  refine⟨adx,hax,⟨by omega,by omega⟩,?_⟩
  conv=>whnf
  refine⟨[.bool f0,.slice f1 f2 f3,.bool f4,.slice f5 f6 f7],rfl,fun ρ w' r j u hu=>?_,?_⟩
  ·obtain⟨k1,k2⟩:=hlx j u hu
   rw[Int.toNat_natCast,cell_of_heap (w:=w) (w2:=w') (by rw[addB,addB];exact(hw.tr r.bel).block _ (hS _ k1))]
   exact k2
  conv=>whnf
  refine⟨ady,hay,⟨by omega,by omega⟩,?_⟩
  conv=>whnf
  refine⟨[.bool q0,.slice q1 q2 q3,.bool q4,.slice q5 q6 q7],rfl,fun ρ w' r j u hu=>?_,?_⟩
  ·obtain⟨k1,k2⟩:=hly j u hu
   rw[Int.toNat_natCast,cell_of_heap (w:=w) (w2:=w') (by rw[addB,addB];exact(hw.tr r.bel).block _ (hS _ k1))]
   exact k2
  conv=>whnf
  refine callE_con (Φ:=fun _ w' v w2=>RatC w2 (Nw (fun _=>False) w' w2) v (x*y)) (fun ρ w' r=>rMul_c (fun g hg=>by have:=hS g hg;have:=r.baseLe;omega) (hFx.keep fun g hg=>(hw.tr r.bel).block g (hS g hg)) (hFy.keep fun g hg=>(hw.tr r.bel).block g (hS g hg))) ?_
  rintro ρ wa2 v2 wb2 r he hb hn
  replace hw:=hw.tr hb
  replace hd:=hd.past (iv':=(wa2.heap.size,wb2.heap.size)::iv) r (oldF w) he fun x hx=>List.mem_cons_of_mem _ hx
  have hp:=hn.got (S:=fun _=>False) r.baseLe (iv:=(wa2.heap.size,wb2.heap.size)::iv) List.mem_cons_self
  clear r he hb hn
  generalize (wa2.heap.size,wb2.heap.size)::iv=iv2 at*
  obtain⟨s2_0,s2_1,s2_2,s2_3,s2_4,s2_5,s2_6,s2_7,rfl⟩:=hp.shape
  conv=>whnf
  refine callE_con (Φ:=fun _ w' v w2=>RatC w2 (Nw (fun _=>False) w' w2) v (dotTo xs ys i+x*y)) (fun ρ w' r=>rAdd_c (Rel.old r (oldF w)) ((hd.rel r (oldF w)).l (by omega)) ((hp.rel r (oldF w)).l (by omega))) ?_
  rintro ρ wa3 v3 wb3 r he hb hn
  replace hw:=hw.tr hb
  clear hd
  clear hp
  have hd2:=hn.got (S:=fun _=>False) r.baseLe (iv:=(wa3.heap.size,wb3.heap.size)::iv2) List.mem_cons_self
  clear r he hb hn
  generalize (wa3.heap.size,wb3.heap.size)::iv2=iv3 at*
  obtain⟨s3_0,s3_1,s3_2,s3_3,s3_4,s3_5,s3_6,s3_7,rfl⟩:=hd2.shape
  conv=>whnf
  rw[show dotTo xs ys i+x*y=dotTo xs ys (i+1) by rw[dotTo,hx2,hy2]]at hd2
  refine⟨((i+1:Nat):Int),by rw[wrap64]<;>omega,?_⟩
  conv=>whnf
  intro ρ3 w3 r3
  exact⟨(i+1,(s3_0,s3_4),(s3_1,s3_5),(s3_2,s3_3,s3_6,s3_7),w3,_),⟨hib,hw.tr r3.bel,hd2.rel r3 (oldF w)⟩,Sub.gen [] r3 ⟨rfl,rfl,trivial⟩ ⟨rfl,rfl,rfl,rfl,rfl,trivial⟩ (by simp[ScH,Blk.scopd,At.sc]) (by simp[ScE,SV.sc,At.sc]) (by rfl) (fun lo hi h=>h),by dsimp only;omega⟩
 have hib:i=xs.length:=Nat.le_antisymm hi (by simpa using hib)
 subst hib
 conv=>whnf
 intro ρe we re
 exact⟨_,rfl,hw.tr re.bel,hd.out re (oldF w)⟩
section
variable{S:Nat→Prop}{H:Hp}{nx:Nat}{iv iv':Iv}{B:Nat}{w w' w2:World}{ρ:Nat→Sx.Val}{css:List (List Value)}{qs:List Rat}
theorem Fc.rel(h:Fc w (Cv S B iv) css qs)(r:Rel H nx iv B w ρ w')(hS:∀g,S g→g<B):Fc w' (Cv S B iv) css qs:=h.keep fun _ hg=>Rel.same r hS hg
theorem Fc.past(h:Fc w (Cv S B iv) css qs)(r:Rel H nx iv B w ρ w')(hS:∀g,S g→g<B)(he:Ext w' w2)(hm:∀p,p∈iv→p∈iv'):Fc w2 (Cv S B iv') css qs:=
 ((h.rel r hS).keep fun g hg=>he.block g (Rel.old r hS g hg)).weak fun _ hg=>hg.mono hm
theorem Fc.push{cs:List Value}{q:Rat}(h:Fc w S css qs)(hc:Rat4C w S cs q):Fc w S (css++[cs]) (qs++[q]):=by
 refine⟨by simp[h.1],fun j x p h1 h2=>?_⟩
 rcases Nat.lt_or_ge j css.length with hi|hi
 ·rw[List.getElem?_append_left hi]at h1
  rw[List.getElem?_append_left (by rw[←h.1];exact hi)]at h2
  exact h.2 j x p h1 h2
 ·have hi0:j=css.length:=by have:=(List.getElem?_eq_some_iff.1 h1).1;simp at this;omega
  subst hi0
  rw[List.getElem?_append_right (Nat.le_refl _),Nat.sub_self]at h1
  rw[h.1,List.getElem?_append_right (Nat.le_refl _),Nat.sub_self]at h2
  simp at h1 h2
  subst h1 h2
  exact hc
end
theorem rBefore_c{S:Nat→Prop}{w:World}{v u:Value}{ys:List Rat}{M:List (List Rat)}{n h:Nat}(hS:Old S w)(hy:RatsL w S v ys)(hM:RatML w S u M)(hyl:ys.length=M.length)(hrow:∀r∈M,r.length=n)(hn:n≤1000000)
  (hqy:∀q∈ys,rl q+1≤h) (hqM:Ht M h) (h2:2≤h) (hb:2*h*M.length≤90000):
  Con PG N.ref01_Before #[v,u,.int .i64 n] w (Ret w fun v' w2=>RatsC w2 (Nw (fun _=>False) w w2) v' (throughF ys M n M.length)):=by
 have hw:Bel w.heap.size w w:=Bel.refl
 obtain⟨ay,cy,rfl,hcy,hmy⟩:=ListR.shape hy
 obtain⟨am,cm,rfl,hcm,-⟩:=SlicesR.shape hM
 unfold maxLen at hmy
 refine in_ref01_Before (by simp) ?_
 conv=>whnf
 refine⟨Nat×List (List Value)×World×Iv,fun z=>⟨[(0,.o (.v (.slice ay ys.length cy))),(1,.o (.v (.slice am M.length cm))),(2,.o (.v (.int .i64 n))),(7,.o (.w 0 z.2.1.length)),(8,.o (.v (.int .i64 ((z.1:Nat):Int))))],[(0,.vec T.Rat 4 z.2.1.flatten)],1,z.2.2.2,z.2.2.1⟩,fun z=>n-z.1,
  fun z=>z.1≤n∧Bel w.heap.size w z.2.2.1∧Fc z.2.2.1 (Cv (fun _=>False) w.heap.size z.2.2.2) z.2.1 ((throughF ys M n M.length).take z.1),?_,?_⟩
 ·intro ρ w' r
  exact⟨(0,[],w',[]),⟨Nat.zero_le _,hw.tr r.bel,by simp[Fc]⟩,Sub.nil 7 T.Rat 4 rfl (by simp[ScE,SV.sc,At.sc,initE]) r fun ρ1 r1=>
   Sub.gen [] r1 ⟨rfl,trivial⟩ ⟨rfl,rfl,rfl,rfl,rfl,trivial⟩ (by simp[ScH,Blk.scopd]) (by simp[ScE,SV.sc,At.sc]) (by rfl) (fun lo hi h=>h)⟩
 clear hw
 rintro⟨k,css,w1,iv⟩ ⟨hk,hw,hC⟩
 dsimp only at hk hw hC ⊢
 have hcl:css.length=k:=by rw[hC.1,List.length_take,throughF_length];omega
 have hfl:=flat_len hC.len4
 conv=>whnf
 refine BrS.mk (fun hkb=>?_) (fun hkb=>?_)
 ·have hkb:k<n:=by simpa using hkb
  conv=>whnf
  refine callE_S (callE_con (Φ:=fun _ w' v w2=>RatC w2 (Nw (fun _=>False) w' w2) v (((0:Int):Rat))) (fun ρ w' r=>rWholeAll_c 0 w' (by decide) (by decide)) ?_)
  rintro ρ wa1 v1 wb1 r he hb hn
  replace hw:=hw.tr hb
  replace hC:=hC.past (iv':=(wa1.heap.size,wb1.heap.size)::iv) r (oldF w) he fun x hx=>List.mem_cons_of_mem _ hx
  have hd:=hn.got (S:=fun _=>False) r.baseLe (iv:=(wa1.heap.size,wb1.heap.size)::iv) List.mem_cons_self
  clear r he hb hn
  generalize (wa1.heap.size,wb1.heap.size)::iv=iv1 at*
  obtain⟨s1_0,s1_1,s1_2,s1_3,s1_4,s1_5,s1_6,s1_7,rfl⟩:=hd.shape
  conv=>whnf
  rw[show ((0:Int):Rat)=dotTo ys (colOf M k) 0 from rfl]at hd
  refine⟨Nat×(Bool×Bool)×(Option Addr×Option Addr)×(Nat×Nat×Nat×Nat)×World×Iv,fun z=>⟨[(0,.o (.v (.slice ay ys.length cy))),(1,.o (.v (.slice am M.length cm))),(2,.o (.v (.int .i64 n))),(7,.o (.w 0 css.length)),(8,.o (.v (.int .i64 ((k:Nat):Int)))),(9,.o (.p 1 0)),(10,.o (.v (.int .i64 ((z.1:Nat):Int))))],[(1,.box T.Rat [.v (.bool z.2.1.1),.v (.slice z.2.2.1.1 z.2.2.2.1.1 z.2.2.2.1.2.1),.v (.bool z.2.1.2),.v (.slice z.2.2.1.2 z.2.2.2.1.2.2.1 z.2.2.2.1.2.2.2)]),(0,.vec T.Rat 4 css.flatten)],2,z.2.2.2.2.2,z.2.2.2.2.1⟩,fun z=>M.length-z.1,
   fun z=>z.1≤M.length∧Bel w.heap.size w z.2.2.2.2.1∧Fc z.2.2.2.2.1 (Cv (fun _=>False) w.heap.size z.2.2.2.2.2) css ((throughF ys M n M.length).take k)∧RatC z.2.2.2.2.1 (Cv (fun _=>False) w.heap.size z.2.2.2.2.2) (.agg #[.bool z.2.1.1,.slice z.2.2.1.1 z.2.2.2.1.1 z.2.2.2.1.2.1,.bool z.2.1.2,.slice z.2.2.1.2 z.2.2.2.1.2.2.1 z.2.2.2.1.2.2.2]) (dotTo ys (colOf M k) z.1),?_,?_⟩
  ·intro ρ w' r
   exact⟨(0,(s1_0,s1_4),(s1_1,s1_5),(s1_2,s1_3,s1_6,s1_7),w',iv1),⟨by simp,hw.tr r.bel,hC.rel r (oldF w),hd.rel r (oldF w)⟩,Sub.gen [] r ⟨rfl,rfl,trivial⟩ ⟨rfl,rfl,rfl,rfl,rfl,rfl,rfl,trivial⟩ (by simp[ScH,Blk.scopd,At.sc]) (by simp[ScE,SV.sc,At.sc]) (by rfl) (fun lo hi h=>h)⟩
  clear hw hd hC
  rintro⟨i,⟨p0,p4⟩,⟨p1,p5⟩,⟨p2,p3,p6,p7⟩,w1,iv⟩ ⟨hi,hw,hC,hd⟩
  dsimp only at hi hw hC hd ⊢
  conv=>whnf
  refine BrS.mk (fun hib=>?_) (fun hib=>?_)
  ·have hib:i<M.length:=by simpa using hib
   have hs:=rl_dotTo hqy (rl_colOf hqM h2 k) h2 i
   have hs2:2*h*i≤2*h*M.length:=Nat.mul_le_mul_left _ hi
   have hs3:2*h*1≤2*h*M.length:=Nat.mul_le_mul_left _ (by omega)
   obtain⟨x,hxi⟩:∃x,ys[i]? =some x:=⟨_,List.getElem?_eq_getElem (by omega)⟩
   obtain⟨ra,hra⟩:∃r,M[i]? =some r:=⟨_,List.getElem?_eq_getElem hib⟩
   have hral:=hrow ra (List.mem_of_getElem? hra)
   obtain⟨y,hyk⟩:∃x,ra[k]? =some x:=⟨_,List.getElem?_eq_getElem (by omega)⟩
   have hx3:=hqy x (List.mem_of_getElem? hxi)
   have hy3:=hqM.at hra y (List.mem_of_getElem? hyk)
   have hx2:ys.getD i 0=x:=by rw[List.getD,hxi];rfl
   have hy2:(colOf M k).getD i 0=y:=by simp[colOf,List.getD,hra,hyk]
   have hm:=rl_mul x y
   obtain⟨adx,csx,hax,hFx,-,hlx⟩:=ListR.load hy hxi
   obtain⟨f0,f1,f2,f3,f4,f5,f6,f7,rfl,hFx⟩:=hFx
   obtain⟨adm,um,ham,hRm,km1,km2⟩:=SlicesR.load hM hra
   obtain⟨au,cu,rfl,hcu,-⟩:=ListR.shape hRm
   obtain⟨ady,csy,hay,hFy,-,hly⟩:=ListR.load hRm hyk
   obtain⟨q0,q1,q2,q3,q4,q5,q6,q7,rfl,hFy⟩:=hFy
   conv=>whnf
   refine drawn_of_pi hτ hmix [.x 0,.x 1,.x 2,.x 3,.x 4,.x 5,.x 6,.x 7,.x 8,.x 9,.x 10,.x 11,.x 12,.x 13,.x 14] (by kernel_rfl) (by kernel_rfl) ?_
   conv=>whnf
   refine⟨adx,hax,⟨by omega,by omega⟩,?_⟩
   conv=>whnf
   refine⟨[.bool f0,.slice f1 f2 f3,.bool f4,.slice f5 f6 f7],rfl,fun ρ w' r j u hu=>?_,?_⟩
   ·obtain⟨k1,k2⟩:=hlx j u hu
    rw[Int.toNat_natCast,cell_of_heap (w:=w) (w2:=w') (by rw[addB,addB];exact(hw.tr r.bel).block _ (hS _ k1))]
    exact k2
   conv=>whnf
   refine⟨adm,ham,⟨by omega,by omega⟩,?_⟩
   conv=>whnf
   refine⟨.slice au ra.length cu,fun ρ w' r=>?_,?_⟩
   ·rw[Int.toNat_natCast,cell_of_heap (w:=w) (w2:=w') (by rw[addB];exact(hw.tr r.bel).block _ (hS _ km1))]
    exact km2
   conv=>whnf
   refine⟨ady,hay,⟨by omega,by omega⟩,?_⟩
   conv=>whnf
   refine⟨[.bool q0,.slice q1 q2 q3,.bool q4,.slice q5 q6 q7],rfl,fun ρ w' r j u hu=>?_,?_⟩
   ·obtain⟨k1,k2⟩:=hly j u hu
    rw[Int.toNat_natCast,cell_of_heap (w:=w) (w2:=w') (by rw[addB,addB];exact(hw.tr r.bel).block _ (hS _ k1))]
    exact k2
   conv=>whnf
   refine callE_con (Φ:=fun _ w' v w2=>RatC w2 (Nw (fun _=>False) w' w2) v (x*y)) (fun ρ w' r=>rMul_c (fun g hg=>by have:=hS g hg;have:=r.baseLe;omega) (hFx.keep fun g hg=>(hw.tr r.bel).block g (hS g hg)) (hFy.keep fun g hg=>(hw.tr r.bel).block g (hS g hg))) ?_
   rintro ρ wa2 v2 wb2 r he hb hn
   replace hw:=hw.tr hb
   replace hd:=hd.past (iv':=(wa2.heap.size,wb2.heap.size)::iv) r (oldF w) he fun x hx=>List.mem_cons_of_mem _ hx
   replace hC:=hC.past (iv':=(wa2.heap.size,wb2.heap.size)::iv) r (oldF w) he fun x hx=>List.mem_cons_of_mem _ hx
   have hp:=hn.got (S:=fun _=>False) r.baseLe (iv:=(wa2.heap.size,wb2.heap.size)::iv) List.mem_cons_self
   clear r he hb hn
   generalize (wa2.heap.size,wb2.heap.size)::iv=iv2 at*
   obtain⟨s2_0,s2_1,s2_2,s2_3,s2_4,s2_5,s2_6,s2_7,rfl⟩:=hp.shape
   conv=>whnf
   refine callE_con (Φ:=fun _ w' v w2=>RatC w2 (Nw (fun _=>False) w' w2) v (dotTo ys (colOf M k) i+x*y)) (fun ρ w' r=>rAdd_c (Rel.old r (oldF w)) ((hd.rel r (oldF w)).l (by omega)) ((hp.rel r (oldF w)).l (by omega))) ?_
   rintro ρ wa3 v3 wb3 r he hb hn
   replace hw:=hw.tr hb
   clear hd
   replace hC:=hC.past (iv':=(wa3.heap.size,wb3.heap.size)::iv2) r (oldF w) he fun x hx=>List.mem_cons_of_mem _ hx
   clear hp
   have hd2:=hn.got (S:=fun _=>False) r.baseLe (iv:=(wa3.heap.size,wb3.heap.size)::iv2) List.mem_cons_self
   clear r he hb hn
   generalize (wa3.heap.size,wb3.heap.size)::iv2=iv3 at*
   obtain⟨s3_0,s3_1,s3_2,s3_3,s3_4,s3_5,s3_6,s3_7,rfl⟩:=hd2.shape
   conv=>whnf
   rw[show dotTo ys (colOf M k) i+x*y=dotTo ys (colOf M k) (i+1) by rw[dotTo,hx2,hy2]]at hd2
   refine⟨((i+1:Nat):Int),by rw[wrap64]<;>omega,?_⟩
   conv=>whnf
   intro ρ3 w3 r3
   exact⟨(i+1,(s3_0,s3_4),(s3_1,s3_5),(s3_2,s3_3,s3_6,s3_7),w3,_),⟨hib,hw.tr r3.bel,hC.rel r3 (oldF w),hd2.rel r3 (oldF w)⟩,Sub.gen [] r3 ⟨rfl,rfl,trivial⟩ ⟨rfl,rfl,rfl,rfl,rfl,rfl,rfl,trivial⟩ (by simp[ScH,Blk.scopd,At.sc]) (by simp[ScE,SV.sc,At.sc]) (by rfl) (fun lo hi h=>h),by dsimp only;omega⟩
  have hib:i=M.length:=Nat.le_antisymm hi (by simpa using hib)
  subst hib
  conv=>whnf
  have hC2:Fc w1 (Cv (fun _=>False) w.heap.size iv) (css++[[.bool p0,.slice p1 p2 p3,.bool p4,.slice p5 p6 p7]]) ((throughF ys M n M.length).take (k+1)):=by
   have e:(throughF ys M n M.length)[k]? =some (dotTo ys (colOf M k) M.length):=by simp[throughF,hkb]
   rw[List.take_add_one,e]
   exact hC.push hd.fourC
  have hfl2:css.flatten++([.bool p0,.slice p1 p2 p3,.bool p4,.slice p5 p6 p7]:List Value)=(css++([[.bool p0,.slice p1 p2 p3,.bool p4,.slice p5 p6 p7]]:List (List Value))).flatten:=by simp
  clear hC hd
  refine .inl ?_
  conv=>whnf
  refine⟨by omega,by omega,by unfold maxLen;omega,?_⟩
  conv=>whnf
  refine⟨((k+1:Nat):Int),by rw[wrap64]<;>omega,?_⟩
  conv=>whnf
  intro ρ3 w3 r3
  exact⟨(k+1,css++[[.bool p0,.slice p1 p2 p3,.bool p4,.slice p5 p6 p7]],w3,_),⟨hkb,hw.tr r3.bel,hC2.rel r3 (oldF w)⟩,Sub.gen [(0,3)] r3 ⟨by dsimp only;rw[←hfl2];rfl,trivial⟩ ⟨rfl,rfl,rfl,by dsimp only;rw[List.length_append,List.length_singleton];rfl,rfl,trivial⟩ (by simp[ScH,Blk.scopd]) (by simp[ScE,SV.sc,At.sc]) (by rfl) (fun lo hi h=>h),by dsimp only;omega⟩
 have hkb:k=n:=Nat.le_antisymm hk (by simpa using hkb)
 subst hkb
 conv=>whnf
 intro ρe we re
 refine⟨_,rfl,hw.tr re.bel,?_⟩
 rw[List.take_of_length_le (by rw[throughF_length];omega)]at hC
 have h5:=re.vecSeq (id:=0) (sz:=4) (m:=css.length) rfl hfl (by unfold maxLen;omega) (by decide) hC.one
 have h6:=hC.rel re (oldF w)
 refine⟨css,?_,h6.1,h6.len4,fun j cs q k1 k2=>(h6.2 j cs q k1 k2).weak fun _ hg=>Cv.nw hg re⟩
 rw[←hC.1]
 exact h5.weak fun g hg=>.inr hg
end Go.Ex

/- Solve, CheckSolution, Basic and IsContradiction at the sizes of the laws. Printed by program. No condition but sizes. -/
namespace Go.Ex
open Go Go.Sx Go.Proofs

/-- a list that the laws are told for -/
def SmallB(w:World)(S:Nat→Prop)(v:Value)(b:List (Int×Int)):Prop:=RatsL w S v (b.map ratioP)∧(∀q∈b.map ratioP,rl q≤3)∧Few b
theorem SmallB.keep{S:Nat→Prop}{w w2:World}{v:Value}{b:List (Int×Int)}(h:SmallB w S v b)(hk:∀g,S g→w2.heap[g]? =w.heap[g]?):SmallB w2 S v b:=⟨RatsL.keep h.1 hk,h.2⟩
section
variable{S S':Nat→Prop}{H:Hp}{nx:Nat}{iv iv':Iv}{B:Nat}{w w' w2:World}{ρ:Nat→Sx.Val}{v:Value}{b:List (Int×Int)}
end

section
variable{S:Nat→Prop}{w:World}{v u:Value}{M:List (List (Int×Int))}{b:List (Int×Int)}
theorem valsM_len(M:List (List (Int×Int))):(valsM M).length=M.length:=by simp[valsM]
end
end Go.Ex

/- CheckSolution of the reference, at the sizes of the laws. Printed by program. No condition but sizes. -/
namespace Go.Ex
open Go Go.Sx Go.Proofs

end Go.Ex

/- Sums over rows: solutions of a system differ by sums of the kernel basis; a system whose right side is a combination of the columns has no contradiction. Plain. -/
namespace Go.Ex
def sumL:List Nat→(Nat→Rat)→Rat
 |[],_=>0
 |t::l,g=>g t+sumL l g
def timesF(M:List (List Rat))(x:List Rat):List Rat:=M.map fun r=>dotTo r x r.length
section
variable{M:List (List Rat)}{x:List Rat}{n:Nat}
end
/-- the difference of two solutions, told by the kernel basis -/
structure Diff(A:List (List Rat))(pv:List Nat)(n:Nat)(x:List Rat):Prop where
 up:pv.Pairwise (· < ·)
 lt:∀p∈pv,p<n
 le:pv.length≤A.length
 unit:∀i j,i<pv.length→j<A.length→at2 A j (pv.getD i 0)=if j=i then 1 else 0
 sum:∀j,j<A.length→sumL (List.range n) (fun t=>at2 A j t*x.getD t 0)=at2 A j n
section
variable{A:List (List Rat)}{pv:List Nat}{n:Nat}{x:List Rat}
end
end Go.Ex
