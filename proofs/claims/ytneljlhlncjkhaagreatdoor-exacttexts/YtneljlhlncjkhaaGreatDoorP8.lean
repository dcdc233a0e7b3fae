/- A part of the proof: texts X39 to X42. Each tells its conditions in its theorems. -/
import Derived.Test.YtneljlhlncjkhaaGreatDoorP6
import Derived.Test.YtneljlhlncjkhaaGreatDoorP7
/- Concat of rows; Clone of a row; looking for an integer. Printed by program. No condition but sizes. -/
namespace Go.Ex
open Go Go.Sx Go.Proofs
abbrev undR:=und_row

theorem growR_c(n:Nat)(w:World)(hn:n≤1000000000000):
  Con PG N.slices_Grow_of_exact_row_exact_fraction_of #[.slice none 0 0,.int .i64 n] w (Ret w fun v' w2=>w2.ownsRow w.heap.size T.fraction 4 v' 0 []):=by
 refine in_slices_Grow_of_exact_row_exact_fraction_of (by simp) ?_
 conv=>whnf
 refine opS_cap (e:=T.fraction) undR (by rfl) (fun ρ w1 r=>?_)
 have hb:=r.bel
 clear r
 conv=>whnf
 refine⟨0,rfl,?_⟩
 conv=>whnf
 refine⟨(n:Int),by show IntKind.wrap .i64 ((n:Int)-0)=_;rw[wrap64]<;>omega,?_⟩
 conv=>whnf
 refine BrS.mk (fun h=>?_) (fun h=>?_)
 ·have h:0<n:=by have:=of_decide_eq_true h;omega
  conv=>whnf
  refine opS_cap (e:=T.fraction) undR (by rfl) (fun ρ w2 r=>?_)
  replace hb:=hb.tr r.bel
  clear r
  conv=>whnf
  refine⟨⟨by omega,by omega,by omega⟩,none,0,0,by rfl,by omega,by omega,?_⟩
  conv=>whnf
  refine opS_zeros hτ (Bc:=w.heap.size) (Nat.le_refl _) (by rfl) (by rfl) ((hτ T.int _ rfl).i1 rfl) (by decide) (by rfl) (by rfl) h (by unfold maxLen;omega) (by omega) (fun ρ w3 w4 c r hc hrow hg hs=>?_)
  have hb4:Bel w.heap.size w w4:=(hb.tr r.bel).tr (Bel.grown hg (fun g hg=>by cases hg) (by have:=r.base;have:=r.size;omega))
  have hw3:=(hb.tr r.bel).size
  clear r
  generalize w3.heap.size=g0 at*
  conv=>whnf
  refine⟨⟨by omega,by omega,by omega⟩,some ⟨g0,0,none⟩,0,c,by split<;>rfl,by omega,by omega,?_⟩
  conv=>whnf
  intro ρ5 w5 r5
  exact⟨_,rfl,hb4.tr r5.bel,rowKeep hrow (fun b hb=>by
   have hb:g0=b:=by injection hb
   exact⟨g0,g0+1,by simp[hs],by omega,by omega⟩) r5⟩
 ·conv=>whnf
  intro ρ5 w5 r5
  exact⟨_,rfl,hb.tr r5.bel,World.ownsRow_nil _ _ _ _⟩

theorem concatR_c{S:Nat→Prop}{w:World}{v:Value}{parts:List (Value×List Value×Nat)}(hS:Old S w)(h:SeqR w S 1 v (parts.map (·.1)) parts.length)(hp:∀p∈parts,SeqR w S 4 p.1 p.2.1 p.2.2)(hN:nsum parts≤1000000000000):
  Con PG N.slices_Concat_of_exact_row_exact_fraction_of #[v] w (Ret w fun v' w2=>w2.ownsRow w.heap.size T.fraction 4 v' (nsum parts) (parts.flatMap (·.2.1))):=by
 obtain⟨hml,-,-,a,c,rfl,hnc,hcell⟩:=h
 have hle:∀k,nsum (parts.take k)≤nsum parts:=fun k=>by
  conv=>rhs;rw[←List.take_append_drop k parts,nsum_append]
  omega
 have hnext:∀(i:Nat) p,parts[i]? =some p→nsum (parts.take (i+1))=nsum (parts.take i)+p.2.2:=fun i p hp=>by
  rw[List.take_add_one,hp,nsum_append];simp[nsum]
 have hnextx:∀(i:Nat) p,parts[i]? =some p→(parts.take (i+1)).flatMap (·.2.1)=(parts.take i).flatMap (·.2.1)++p.2.1:=fun i p hp=>by
  rw[List.take_add_one,hp];simp
 have hpart:∀(i:Nat) p,parts[i]? =some p→∃ad an ac,a=some ad∧S ad.block∧w.cell? (ad.add i)=some (.slice an p.2.2 ac)∧p.1= .slice an p.2.2 ac:=fun i p hi=>by
  obtain⟨ad,h1,h2,h3⟩:=hcell i p.1 (by rw[List.getElem?_map,hi];rfl)
  obtain⟨_,_,_,an,ac,h4,_⟩:=hp p (List.mem_of_getElem? hi)
  exact⟨ad,an,ac,h1,h2,by rw[h3,h4],h4⟩
 unfold maxLen at hml
 refine in_slices_Concat_of_exact_row_exact_fraction_of (by simp) ?_
 conv=>whnf
 refine⟨Nat×World,fun z=>⟨[(0,.o (.v (.slice a parts.length c))),(3,.o (.v (.int .i64 (nsum (parts.take z.1):Nat)))),(9,.o (.v (.slice a parts.length c))),(10,.o (.v (.int .i64 parts.length))),(11,.o (.v (.int .i64 z.1)))],[],0,[],z.2⟩,
  fun z=>parts.length-z.1,fun z=>z.1≤parts.length∧Bel w.heap.size w z.2,?_,?_⟩
 ·intro ρ w' r
  exact⟨(0,w'),⟨by simp,r.bel⟩,Sub.gen [] r trivial ⟨rfl,rfl,rfl,rfl,rfl,trivial⟩ (by simp[ScH]) (by simp[ScE,SV.sc,At.sc]) (by rfl) (by simp)⟩
 ·rintro⟨i,w1⟩ ⟨hi,hw⟩
  dsimp only at hi hw ⊢
  conv=>whnf
  refine BrS.mk (fun h=>?_) (fun h=>?_)
  ·have h:i<parts.length:=by simpa using h
   obtain⟨p,hpi⟩:∃p,parts[i]? =some p:=⟨_,List.getElem?_eq_getElem h⟩
   obtain⟨ad,an,ac,h1,h2,h3,h4⟩:=hpart i p hpi
   have hs1:=hnext i p hpi
   have hs2:=hle (i+1)
   conv=>whnf
   refine⟨ad,h1,⟨by omega,by omega⟩,?_⟩
   conv=>whnf
   refine⟨.slice an p.2.2 ac,fun ρ w' r=>by simpa using cellS hS hw r h2 h3,?_⟩
   conv=>whnf
   refine⟨((nsum (parts.take (i+1)):Nat):Int),by rw[wrap64]<;>omega,?_⟩
   conv=>whnf
   refine⟨((i+1:Nat):Int),by rw[wrap64]<;>omega,?_⟩
   conv=>whnf
   intro ρ3 w3 r3
   exact⟨(i+1,w3),⟨h,hw.tr r3.bel⟩,Sub.gen [] r3 trivial ⟨rfl,rfl,rfl,rfl,rfl,trivial⟩ (by simp[ScH]) (by simp[ScE,SV.sc,At.sc]) (by rfl) (by simp),by simp;omega⟩
  ·have h:i=parts.length:=by
    have:¬i<parts.length:=by simpa using h
    omega
   subst h
   clear hi
   rw[List.take_length]
   conv=>whnf
   refine callE_S (callE_con (Φ:=fun _ w' v w2=>w2.ownsRow w'.heap.size T.fraction 4 v 0 []) (fun ρ w' r=>growR_c _ w' (by omega)) ?_)
   rintro ρ wa v1 wb r he hb hrow
   have hsz:=r.baseLe
   have hes:=he.size
   have hcov:Cvr [(wa.heap.size,wb.heap.size)] v1:=fun b hb=>⟨_,_,List.mem_singleton.2 rfl,(ownsRow.low hrow b hb).1,(ownsRow.low hrow b hb).2⟩
   replace hrow:wb.ownsRow w.heap.size T.fraction 4 v1 0 []:=⟨hrow.1,hrow.2.imp id fun⟨g,cap,cur,k1,k2,k3⟩=>⟨g,cap,cur,k1,by omega,k3⟩⟩
   replace hw:=hw.tr hb
   clear r he
   obtain⟨a1,c1,rfl,-⟩:=row_form hrow
   conv=>whnf
   refine⟨Nat×Value×World,fun z=>⟨[(0,.o (.v (.slice a parts.length c))),(6,.o (.v z.2.1)),(25,.o (.v (.slice a parts.length c))),(26,.o (.v (.int .i64 parts.length))),(27,.o (.v (.int .i64 z.1)))],[],0,rowIv z.2.1,z.2.2⟩,
    fun z=>parts.length-z.1,fun z=>z.1≤parts.length∧Bel w.heap.size w z.2.2∧z.2.2.ownsRow w.heap.size T.fraction 4 z.2.1 (nsum (parts.take z.1)) ((parts.take z.1).flatMap (·.2.1)),?_,?_⟩
   ·intro ρ w' r
    exact⟨(0,.slice a1 0 c1,w'),⟨by simp,hw.tr r.bel,by simpa [nsum]using rowKeep hrow hcov r⟩,Sub.gen2 [] r trivial ⟨rfl,rfl,rfl,rfl,rfl,trivial⟩ (by simp[ScH]) (by simp[ScE,SV.sc,At.sc]) (by rfl) hcov.iv⟩
   ·rintro⟨i,v1,w1⟩ ⟨hi,hw,hrow⟩
    dsimp only at hi hw hrow ⊢
    obtain⟨a1,c1,rfl,-⟩:=row_form hrow
    conv=>whnf
    refine BrS.mk (fun h=>?_) (fun h=>?_)
    ·have h:i<parts.length:=by simpa using h
     obtain⟨p,hpi⟩:∃p,parts[i]? =some p:=⟨_,List.getElem?_eq_getElem h⟩
     obtain⟨ad,an,ac,h1,h2,h3,h4⟩:=hpart i p hpi
     have hs1:=hnext i p hpi
     have hs2:=hle (i+1)
     have hpR:=hp p (List.mem_of_getElem? hpi)
     conv=>whnf
     refine⟨ad,h1,⟨by omega,by omega⟩,?_⟩
     conv=>whnf
     refine⟨.slice an p.2.2 ac,fun ρ w' r=>by simpa using cellS hS hw r h2 h3,?_⟩
     conv=>whnf
     refine .inr (opS_append hτ (Nat.le_refl _) (xs:=(parts.take i).flatMap (·.2.1)) (news:=p.2.1) (m:=nsum (parts.take i)) (k:=p.2.2) (by rfl) (by rfl) (by decide) (by rfl) (by rfl) (fun ρ w' r=>⟨rowKeep hrow (Cvr.row _) r,fun g hg=>(Cvr.row _).not r hg⟩) hpR.len hpR.one (by unfold maxLen;omega) (by omega)
      (fun ρ w' r=>?_) (fun v' w2=>rowIv v') (fun ρ w' v' w2 r hsz hob=>rowIv_after r hsz hob) (fun ρ w' v' w2 r h5 h6 h7=>?_))
     ·obtain⟨_,hxl,_,a2,c2,h5,_,h6⟩:=hpR
      rw[h4]at h5
      injection h5 with h7 h8 h9
      subst h7 h9
      cases an with
      |none=>
       refine .inl ⟨ac,?_,?_⟩
       ·have:p.2.2=0:=by
         rcases Nat.eq_zero_or_pos p.2.2 with h0|h0
         ·exact h0
         ·obtain⟨ad2,k1,_⟩:=h6 0 _ (List.getElem?_eq_getElem (show 0<p.2.1.length by omega))
          cases k1
        rw[←this];rfl
       ·rcases Nat.eq_zero_or_pos p.2.2 with h0|h0
        ·exact h0
        ·obtain⟨ad2,k1,_⟩:=h6 0 _ (List.getElem?_eq_getElem (show 0<p.2.1.length by omega))
         cases k1
      |some ad3=>
       refine .inr ⟨ad3,ac,rfl,fun j u hu=>?_⟩
       obtain⟨ad2,k1,k2,k3⟩:=h6 j u hu
       injection k1 with k1
       subst k1
       exact cellS hS hw r k2 k3
     ·have hb2:Bel w.heap.size w w2:=(hw.tr r.bel).tr (Bel.grown h6 (fun g hg=>(ownsRow.low hrow g hg).1) (by have:=r.size;have:=hw.size;omega))
      rw[←hs1,←hnextx i p hpi]at h5
      obtain⟨a3,c3,rfl,-⟩:=row_form h5
      conv=>whnf
      refine⟨(i+1:Nat),by rw[wrap64]<;>omega,?_⟩
      conv=>whnf
      intro ρ3 w3 r3
      exact⟨(i+1,.slice a3 (nsum (parts.take (i+1))) c3,w3),⟨h,hb2.tr r3.bel,rowKeep h5 (Cvr.row _) r3⟩,
       Sub.gen [] r3 trivial ⟨rfl,rfl,rfl,rfl,rfl,trivial⟩ (by simp[ScH]) (by simp[ScE,SV.sc,At.sc]) (by rfl) (fun lo hi h=>h),by simp;omega⟩
    ·have h:i=parts.length:=by
      have:¬i<parts.length:=by simpa using h
      omega
     subst h
     rw[List.take_length]at hrow ⊢
     conv=>whnf
     intro ρ5 w5 r5
     exact⟨_,rfl,hw.tr r5.bel,rowKeep hrow (Cvr.row _) r5⟩

/-- integers in a list are read -/
def IntsR(w:World)(S:Nat→Prop)(v:Value)(ps:List Nat):Prop:=SeqR w S 1 v (ps.map fun c:Nat=>.int .i64 (c:Int)) ps.length
theorem index_c{S:Nat→Prop}{w:World}{v:Value}{ps:List Nat}{x:Nat}(hS:Old S w)(h:IntsR w S v ps)(hl:ps.length≤1000000):
  Con PG N.slices_Index_of_int_int_of #[v,.int .i64 x] w (Ret w fun v' _=>∃i:Int,v'= .int .i64 i∧(0≤i↔x∈ps)):=by
 obtain⟨h0,h1,h2,a,c,rfl,hc,hcell⟩:=h
 refine in_slices_Index_of_int_int_of (by simp) ?_
 conv=>whnf
 refine⟨Nat×World,fun z=>⟨[(0,.o (.v (.slice a ps.length c))),(1,.o (.v (.int .i64 x))),(7,.o (.v (.int .i64 ps.length))),(8,.o (.v (.int .i64 z.1)))],[],0,[],z.2⟩,fun z=>ps.length-z.1,
  fun z=>z.1≤ps.length∧Bel w.heap.size w z.2∧∀(j:Nat) y,j<z.1→ps[j]? =some y→y≠x,?_,?_⟩
 ·intro ρ w' r
  exact⟨(0,w'),⟨by simp,r.bel,by simp⟩,Sub.gen [] r trivial ⟨rfl,rfl,rfl,rfl,trivial⟩ (by simp[ScH]) (by simp[ScE,SV.sc,At.sc]) (by rfl) (by simp)⟩
 rintro⟨i,w1⟩ ⟨hi,hw,hne⟩
 dsimp only at hi hw hne ⊢
 conv=>whnf
 refine BrS.mk (fun h=>?_) (fun h=>?_)
 ·have h:i<ps.length:=by simpa using h
  obtain⟨y,hy⟩:∃y,ps[i]? =some y:=⟨_,List.getElem?_eq_getElem h⟩
  obtain⟨ad,rfl,k1,k2⟩:=hcell i (.int .i64 (y:Int)) (by rw[List.getElem?_map,hy];rfl)
  conv=>whnf
  refine⟨ad,rfl,⟨by omega,by omega⟩,?_⟩
  conv=>whnf
  refine⟨.int .i64 (y:Int),fun ρ w' r=>by simpa using cellS hS hw r k1 k2,?_⟩
  conv=>whnf
  refine BrS.mk (fun he=>?_) (fun he=>?_)
  ·have he:x=y:=by have:=eq_of_beq he;omega
   conv=>whnf
   intro ρe we re
   exact⟨_,rfl,hw.tr re.bel,_,rfl,⟨fun _=>by rw[he];exact List.mem_of_getElem? hy,fun _=>by omega⟩⟩
  ·have he:x≠y:=fun e=>by rw[e]at he;simp at he
   conv=>whnf
   refine⟨((i+1:Nat):Int),by rw[wrap64]<;>omega,?_⟩
   conv=>whnf
   intro ρ3 w3 r3
   refine⟨(i+1,w3),⟨h,hw.tr r3.bel,fun j z hj hz=>?_⟩,Sub.gen [] r3 trivial ⟨rfl,rfl,rfl,rfl,trivial⟩ (by simp[ScH]) (by simp[ScE,SV.sc,At.sc]) (by rfl) (by simp),by dsimp only;omega⟩
   by_cases hji:j=i
   ·subst hji;rw[hy]at hz;injection hz with hz;rw[←hz];exact Ne.symm he
   ·exact hne j z (by dsimp only at hj;omega) hz
 ·have h:i=ps.length:=by
   have:¬i<ps.length:=by simpa using h
   omega
  conv=>whnf
  intro ρe we re
  refine⟨_,rfl,hw.tr re.bel,-1,rfl,⟨fun h=>by omega,fun hm=>?_⟩⟩
  obtain⟨j,hj⟩:=List.getElem?_of_mem hm
  exact absurd rfl (hne j x (by rw[h];exact(List.getElem?_eq_some_iff.1 hj).1) hj)
theorem IntsR.keep{S:Nat→Prop}{w w2:World}{v:Value}{ps:List Nat}(h:IntsR w S v ps)(hk:∀g,S g→w2.heap[g]? =w.heap[g]?):IntsR w2 S v ps:=SeqR.keep h hk
theorem IntsR.weak{S S':Nat→Prop}{w:World}{v:Value}{ps:List Nat}(h:IntsR w S v ps)(hk:∀g,S g→S' g):IntsR w S' v ps:=SeqR.weak h hk
section
variable{S S':Nat→Prop}{H:Hp}{nx:Nat}{iv iv':Iv}{B:Nat}{w w' w2:World}{ρ:Nat→Sx.Val}{v:Value}{ps:List Nat}
theorem IntsR.rel(h:IntsR w (Cv S B iv) v ps)(r:Rel H nx iv B w ρ w')(hS:∀g,S g→g<B):IntsR w' (Cv S B iv) v ps:=IntsR.keep h fun _ hg=>Rel.same r hS hg
theorem IntsR.arg(h:IntsR w S v ps)(iv:Iv):IntsR w (Cv S w.heap.size iv) v ps:=IntsR.weak h fun _ h=>.inl h
end

theorem contains_c{S:Nat→Prop}{w:World}{v:Value}{ps:List Nat}{x:Nat}(hS:Old S w)(h:IntsR w S v ps)(hl:ps.length≤1000000):
  Con PG N.slices_Contains_of_int_int_of #[v,.int .i64 x] w (Ret w fun v' _=>v'= .bool (decide (x∈ps))):=by
 replace h:=IntsR.arg h []
 have hsh:=SeqR.shape h
 obtain⟨a,m,c,rfl⟩:=hsh
 refine in_slices_Contains_of_int_int_of (by simp) ?_
 conv=>whnf
 refine callE_S (callE_con (Φ:=fun _ _ v _=>∃i:Int,v= .int .i64 i∧(0≤i↔x∈ps)) (fun ρ w' r=>index_c (Rel.old r hS) (IntsR.rel h r hS) hl) ?_)
 rintro ρ wa v1 wb r he hw ⟨i,rfl,hi⟩
 clear r he
 conv=>whnf
 intro ρe we re
 exact⟨_,rfl,hw.tr re.bel,congrArg Value.bool (decide_eq_decide.2 hi)⟩
end Go.Ex

/- Writing into a row that is held raw; the kernel basis. No condition but sizes. -/
namespace Go.Ex
open Go Go.Sx Go.Proofs

section
variable{S S':Nat→Prop}{H:Hp}{nx n:Nat}{iv iv':Iv}{B:Nat}{w w' w2:World}{ρ:Nat→Sx.Val}{v:Value}{qs:List Rat}
theorem RowX.store{a a1 a2:Option Addr}{c j n1 c1 n2 c2:Nat}{b b2:Bool}{q:Rat}(h:RowX w' S B iv (.slice a n c) n qs)(hj:j<n)(hf:FracR w' (fun g=>Cv S B iv g∧(Value.slice a n c).ownBlock≠some g) (.agg #[.bool b,.slice a1 n1 c1,.bool b2,.slice a2 n2 c2]) q)
  (r:Rel H nx iv B w ρ w') (hS:∀g,S g→g<B):
  ∃g,a=some ⟨g,0,none⟩∧((⟨g,0,none⟩:Addr).add ((j:Int).toNat*4)).spot=none∧
   (∀k,k<4→(w'.cell? (((⟨g,0,none⟩:Addr).add ((j:Int).toNat*4)).add k)).isSome=true∧w'.frozen? (((⟨g,0,none⟩:Addr).add ((j:Int).toNat*4)).add k)=false)∧
   (∀id b,getH H id=some b→(ρ id).nil=false→(ρ id).g≠((⟨g,0,none⟩:Addr).add ((j:Int).toNat*4)).block)∧Cv (fun _=>False) B iv g∧
   ∀w2,w2=setCells w' ((⟨g,0,none⟩:Addr).add ((j:Int).toNat*4)) [.bool b,.slice a1 n1 c1,.bool b2,.slice a2 n2 c2]→RowX w2 S B iv (.slice a n c) n (qs.set j q)∧w'.grownBy w2 (some g)∧w2.heap.size=w'.heap.size:=by
 obtain⟨g,rfl,h1,h2,h3,h4⟩:=h.row.store hj hf (fun g hg hx=>hx.2 hg) (fun x hx=>Rel.old r hS x hx.1)
 refine⟨g,rfl,h1,h3,fun id b hb hn=>by rw[h2];exact Rel.not r hS (cvF (h.new g rfl)) id b hb hn,h.new g rfl,fun w2 hw2=>?_⟩
 obtain⟨k1,k2,k3⟩:=h4 w2 hw2
 exact⟨⟨k1,h.new⟩,k2,k3⟩
/-- what a call has made lies outside a row that was there -/
theorem FracR.apart{q:Rat}{u:Value}(h:FracR w2 (Nw S w' w2) u q)(hx:∀g,v.ownBlock=some g→g<w'.heap.size∧¬S g)(hB:B≤w'.heap.size)(hS:∀g,S g→S' g):FracR w2 (fun g=>Cv S' B ((w'.heap.size,w2.heap.size)::iv) g∧v.ownBlock≠some g) u q:=
 h.weak fun g hg=>by
  rcases hg with hg|hg
  ·exact⟨.inl (hS g hg),fun e=>(hx g e).2 hg⟩
  ·exact⟨.inr ⟨by omega,_,_,List.mem_cons_self,hg.1,hg.2⟩,fun e=>by have:=(hx g e).1;omega⟩
end
/-- the kernel vector of a free column, when so many pivots are set -/
def kvecTo(A:List (List Rat))(pv:List Nat)(cols c i:Nat):List Rat:=(List.range i).foldl (fun x i=>x.set (pv.getD i 0) (-(at2 A i c))) ((List.replicate cols 0).set c 1)
def kernelTo(A:List (List Rat))(pv:List Nat)(cols c:Nat):List (List Rat):=((List.range c).filter fun c=>decide (c∉pv)).map fun c=>kvecTo A pv cols c pv.length
theorem kvecTo_succ(A:List (List Rat))(pv:List Nat)(cols c i:Nat):kvecTo A pv cols c (i+1)=(kvecTo A pv cols c i).set (pv.getD i 0) (-(at2 A i c)):=by
 rw[kvecTo,List.range_succ,List.foldl_append];rfl
theorem kvecTo_length(A:List (List Rat))(pv:List Nat)(cols c i:Nat):(kvecTo A pv cols c i).length=cols:=by
 induction i with
 |zero=>simp[kvecTo]
 |succ i ih=>rw[kvecTo_succ,List.length_set,ih]
theorem kernelTo_in{A:List (List Rat)}{pv:List Nat}{cols c:Nat}(h:c∈pv):kernelTo A pv cols (c+1)=kernelTo A pv cols c:=by
 rw[kernelTo,List.range_succ,List.filter_append]
 simp[h,kernelTo]
theorem kernelTo_out{A:List (List Rat)}{pv:List Nat}{cols c:Nat}(h:c∉pv):kernelTo A pv cols (c+1)=kernelTo A pv cols c++[kvecTo A pv cols c pv.length]:=by
 rw[kernelTo,List.range_succ,List.filter_append]
 simp[h,kernelTo]
theorem SlicesR.rowOf{w:World}{S:Nat→Prop}{v:Value}{qs:List Rat}(h:RowR w S S v qs):∃a c,v= .slice a qs.length c:=by
 obtain⟨a,c,h,_⟩:=h.shape
 exact⟨a,c,h⟩

theorem kernel_c{S:Nat→Prop}{w:World}{vm vp:Value}{A:List (List Rat)}{pv:List Nat}{n cols:Nat}(hS:Old S w)(hA:MatR w S vm A)(hp:IntsR w S vp pv)(hrow:∀r∈A,r.length=n)(hcn:cols≤n)(hn:n≤1000000)(hR:A.length≤1000000)(hpl:pv.length≤A.length)(hpc:∀p∈pv,p<cols):
  Con PG N.exact_kernel #[vm,vp,.int .i64 cols] w (Ret w fun v w2=>MatR w2 (Nw S w w2) v (kernelTo A pv cols cols)):=by
 obtain⟨am,cm,rfl,hcm,-⟩:=SlicesR.shape hA
 have hps:=hp
 obtain⟨-,-,-,ap,cp,rfl,hcp,-⟩:=hps
 refine in_exact_kernel (by simp) ?_
 conv=>whnf
 refine⟨Nat×List Value×Iv×World,fun z=>⟨[(0,.o (.v (.slice am A.length cm))),(1,.o (.v (.slice ap pv.length cp))),(2,.o (.v (.int .i64 cols))),(7,.o (.w 0 z.2.1.length)),(12,.o (.v (.int .i64 cols))),(13,.o (.v (.int .i64 z.1)))],[(0,.vec T.row 1 z.2.1)],1,z.2.2.1,z.2.2.2⟩,fun z=>cols-z.1,
  fun z=>z.1≤cols∧Bel w.heap.size w z.2.2.2∧z.2.1.length=(kernelTo A pv cols z.1).length∧z.2.1.length≤z.1∧(∀(i:Nat) u qs,z.2.1[i]? =some u→(kernelTo A pv cols z.1)[i]? =some qs→RowR z.2.2.2 (Cv S w.heap.size z.2.2.1) (Cv S w.heap.size z.2.2.1) u qs),?_,?_⟩
 ·intro ρ w' r
  exact⟨(0,[],[],w'),⟨by simp,r.bel,by simp[kernelTo],by simp,by simp⟩,Sub.nil 7 T.row 1 rfl (by simp[ScE,SV.sc,At.sc,initE]) r fun ρ1 r1=>
   Sub.gen [] r1 ⟨rfl,trivial⟩ ⟨rfl,rfl,rfl,rfl,rfl,rfl,trivial⟩ (by simp[ScH,Blk.scopd]) (by simp[ScE,SV.sc,At.sc]) (by rfl) (by simp)⟩
 rintro⟨c,rv,iv,w1⟩ ⟨hc,hw,hrl,hrc,hK⟩
 dsimp only at hc hw hrl hrc hK ⊢
 have hAw:∀{w2},Bel w.heap.size w w2→MatR w2 S (.slice am A.length cm) A:=fun hb=>MatR.keep hA fun g hg=>hb.block g (hS g hg)
 have hpw:∀{w2},Bel w.heap.size w w2→IntsR w2 S (.slice ap pv.length cp) pv:=fun hb=>IntsR.keep hp fun g hg=>hb.block g (hS g hg)
 conv=>whnf
 refine BrS.mk (fun h=>?_) (fun h=>?_)
 ·have h:c<cols:=by simpa using h
  conv=>whnf
  refine callE_S (callE_con (Φ:=fun _ _ v _=>v= .bool (decide (c∈pv))) (fun ρ w' r=>contains_c (fun g hg=>by have:=hS g hg;have:=r.baseLe;omega) (hpw (hw.tr r.bel)) (by omega)) ?_)
  rintro ρ wa v1 wb r he hb rfl
  replace hw:=hw.tr hb
  replace hK:∀(i:Nat) u qs,rv[i]? =some u→(kernelTo A pv cols c)[i]? =some qs→RowR wb (Cv S w.heap.size ((wa.heap.size,wb.heap.size)::iv)) (Cv S w.heap.size ((wa.heap.size,wb.heap.size)::iv)) u qs:=
   fun i u qs h1 h2=>(hK i u qs h1 h2).past r hS hS he fun x hx=>List.mem_cons_of_mem _ hx
  clear r he hb
  generalize (wa.heap.size,wb.heap.size)::iv=iv2 at*
  conv=>whnf
  refine BrS.mk (fun hm=>?_) (fun hm=>?_)
  ·have hm:c∈pv:=of_decide_eq_true hm
   conv=>whnf
   refine⟨((c+1:Nat):Int),by rw[wrap64]<;>omega,?_⟩
   conv=>whnf
   intro ρ3 w3 r3
   refine⟨(c+1,rv,iv2,w3),⟨h,hw.tr r3.bel,by dsimp only;rw[kernelTo_in hm];exact hrl,by dsimp only;omega,fun i u qs h1 h2=>?_⟩,
    Sub.gen [] r3 ⟨rfl,trivial⟩ ⟨rfl,rfl,rfl,rfl,rfl,rfl,trivial⟩ (by simp[ScH,Blk.scopd]) (by simp[ScE,SV.sc,At.sc]) (by rfl) (fun lo hi h=>h),by dsimp only;omega⟩
   rw[kernelTo_in hm]at h2
   exact(hK i u qs h1 h2).rel r3 hS hS
  ·have hm:c∉pv:=of_decide_eq_false hm
   conv=>whnf
   refine callE_S (callE_con (Φ:=fun _ w' v w2=>RowX w2 (fun _=>False) w'.heap.size [(w'.heap.size,w2.heap.size)] v cols (List.replicate cols 0)) (fun ρ w' r=>zeros_c cols w' (by omega)) ?_)
   rintro ρ wa v1 wb' r he hb hx
   have hX:=hx.got (S:=S) (iv:=(wa.heap.size,wb'.heap.size)::iv2) r.baseLe List.mem_cons_self
   have hxn:∀g,v1.ownBlock=some g→wa.heap.size≤g:=fun g hg=>by
    rcases hx.new g hg with h|⟨h,_⟩
    ·exact h.elim
    ·exact h
   have hxo:∀g,v1.ownBlock=some g→¬Cv S w.heap.size iv2 g:=fun g hg h=>by
    have:=Rel.old r hS g h;have:=hxn g hg;omega
   replace hw:=hw.tr hb
   replace hK:∀(i:Nat) u qs,rv[i]? =some u→(kernelTo A pv cols c)[i]? =some qs→RowR wb' (Cv S w.heap.size iv2) (Cv S w.heap.size iv2) u qs:=
    fun i u qs h1 h2=>((hK i u qs h1 h2).rel r hS hS).keep fun g hg=>he.block g (hg.elim (Rel.old r hS g) (Rel.old r hS g))
   have hsub:∀p,p∈iv2→p∈(wa.heap.size,wb'.heap.size)::iv2:=fun p hp=>List.mem_cons_of_mem _ hp
   have hxB:∀g,v1.ownBlock=some g→w.heap.size≤g:=fun g hg=>by have:=hxn g hg;have:=r.baseLe;omega
   clear r he hb hx hxn
   generalize (wa.heap.size,wb'.heap.size)::iv2=iv3 at*
   obtain⟨ax,cx,rfl,-⟩:=hX.row.form
   conv=>whnf
   refine callE_S (callE_con (Φ:=fun _ w' v w2=>FracR w2 (Nw (fun _=>False) w' w2) v ((1:Int):Rat)) (fun ρ w' r=>whole_c 1 w' (by decide) (by decide)) ?_)
   rintro ρ wa v1 wb r he hb hO
   have hON:FracR wb (fun g=>Cv S w.heap.size ((wa.heap.size,wb.heap.size)::iv3) g∧(Value.slice ax cols cx).ownBlock≠some g) v1 ((1:Int):Rat):=
    hO.apart (fun g hg=>⟨Rel.old r hS g (cvF (hX.new g hg)),fun h=>h⟩) r.baseLe fun g hg=>hg.elim
   replace hX:=hX.past (iv':=(wa.heap.size,wb.heap.size)::iv3) r hS he fun x hx=>List.mem_cons_of_mem _ hx
   replace hK:∀(i:Nat) u qs,rv[i]? =some u→(kernelTo A pv cols c)[i]? =some qs→RowR wb (Cv S w.heap.size iv2) (Cv S w.heap.size iv2) u qs:=
    fun i u qs h1 h2=>(hK i u qs h1 h2).keep fun g hg=>by
     have hg:Cv S w.heap.size iv3 g:=(hg.elim id id).mono hsub
     rw[he.block g (Rel.old r hS g hg),Rel.same r hS hg]
   replace hw:=hw.tr hb
   replace hsub:∀p,p∈iv2→p∈(wa.heap.size,wb.heap.size)::iv3:=fun p hp=>List.mem_cons_of_mem _ (hsub p hp)
   clear r he hb hO
   generalize (wa.heap.size,wb.heap.size)::iv3=iv4 at*
   obtain⟨b1,a1,n1,c1,b2,a2,n2,c2,rfl⟩:=hON.shape
   have hone:(((1:Int):Rat))=1:=rfl
   rw[hone]at hON
   conv=>whnf
   have hgx:∃g,ax=some ⟨g,0,none⟩:=by
    obtain⟨css,ho,_⟩:=hX.row
    rcases ho.2 with⟨_,h0⟩|⟨g,cap,cur,e,_⟩
    ·omega
    ·injection e with e;exact⟨g,e⟩
   obtain⟨gx,rfl⟩:=hgx
   refine⟨⟨gx,0,none⟩,rfl,⟨by omega,by omega⟩,?_⟩
   conv=>whnf
   intro ρ w' r
   obtain⟨_,hgx,h1,h2,h3,h4,h5⟩:=(hX.rel r hS).store h (FracR.keep hON fun g hg=>Rel.same r hS hg.1) r hS
   injection hgx with hgx
   injection hgx with hgx
   subst hgx
   replace hw:=hw.tr r.bel
   replace hK:∀(i:Nat) u qs,rv[i]? =some u→(kernelTo A pv cols c)[i]? =some qs→RowR w' (Cv S w.heap.size iv2) (Cv S w.heap.size iv2) u qs:=
    fun i u qs h1 h2=>(hK i u qs h1 h2).keep fun g hg=>Rel.same r hS ((hg.elim id id).mono hsub)
   have hold:∀g,Cv S w.heap.size iv4 g→g<w'.heap.size:=Rel.old r hS
   clear r hX hON
   refine⟨h1,h2,h3,fun w2 hw2=>?_⟩
   obtain⟨hX,hgr,-⟩:=h5 w2 hw2
   replace hw:Bel w.heap.size w w2:=hw.tr (Bel.grown hgr (fun g hg=>by injection hg with hg;subst hg;exact hxB gx rfl) (by have:=hw.size;omega))
   replace hK:∀(i:Nat) u qs,rv[i]? =some u→(kernelTo A pv cols c)[i]? =some qs→RowR w2 (Cv S w.heap.size iv2) (Cv S w.heap.size iv2) u qs:=
    fun i u qs h1 h2=>(hK i u qs h1 h2).keep fun g hg=>hgr.block g (hold g ((hg.elim id id).mono hsub)) fun e=>by
     injection e with e;subst e;exact hxo _ rfl (hg.elim id id)
   clear h1 h2 h3 h4 h5 hw2 hgr hold
   conv=>whnf
   refine⟨Nat×Iv×World,fun z=>⟨[(0,.o (.v (.slice am A.length cm))),(1,.o (.v (.slice ap pv.length cp))),(2,.o (.v (.int .i64 cols))),(7,.o (.w 0 rv.length)),(8,.o (.v (.int .i64 c))),(9,.o (.v (.slice (some ⟨gx,0,none⟩) cols cx))),(12,.o (.v (.int .i64 cols))),(13,.o (.v (.int .i64 c))),
     (25,.o (.v (.slice ap pv.length cp))),(26,.o (.v (.int .i64 pv.length))),(27,.o (.v (.int .i64 z.1)))],[(0,.vec T.row 1 rv)],1,z.2.1,z.2.2⟩,fun z=>pv.length-z.1,
    fun z=>z.1≤pv.length∧Bel w.heap.size w z.2.2∧(∀p,p∈iv2→p∈z.2.1)∧RowX z.2.2 S w.heap.size z.2.1 (.slice (some ⟨gx,0,none⟩) cols cx) cols (kvecTo A pv cols c z.1)∧
     ∀(i:Nat) u qs,rv[i]? =some u→(kernelTo A pv cols c)[i]? =some qs→RowR z.2.2 (Cv S w.heap.size iv2) (Cv S w.heap.size iv2) u qs,?_,?_⟩
   ·intro ρ w' r
    exact⟨(0,iv4,w'),⟨by simp,hw.tr r.bel,hsub,hX.rel r hS,fun i u qs h1 h2=>(hK i u qs h1 h2).keep fun g hg=>Rel.same r hS ((hg.elim id id).mono hsub)⟩,
     Sub.gen [] r ⟨rfl,trivial⟩ ⟨rfl,rfl,rfl,rfl,rfl,rfl,rfl,rfl,rfl,rfl,rfl,trivial⟩ (by simp[ScH,Blk.scopd]) (by simp[ScE,SV.sc,At.sc]) (by rfl) (fun lo hi h=>h)⟩
   clear hX hK hsub
   rintro⟨i,iv5,w5⟩ ⟨hi,hw,hsub,hX,hK⟩
   dsimp only at hi hw hsub hX hK ⊢
   conv=>whnf
   refine BrS.mk (fun hi2=>?_) (fun hi2=>?_)
   ·have hi2:i<pv.length:=by simpa using hi2
    obtain⟨p,hpi⟩:∃p,pv[i]? =some p:=⟨_,List.getElem?_eq_getElem hi2⟩
    have hpd:pv.getD i 0=p:=by rw[List.getD,hpi];rfl
    have hpcol:=hpc p (List.mem_of_getElem? hpi)
    obtain⟨ra,hra⟩:∃r,A[i]? =some r:=⟨_,List.getElem?_eq_getElem (by omega)⟩
    have hral:=hrow ra (List.mem_of_getElem? hra)
    have hp5:=hpw hw
    have hA5:=hAw hw
    obtain⟨_,_,_,_,_,hpe,_,hpcell⟩:=hp5
    injection hpe with hpe1 hpe2 hpe3
    subst hpe1 hpe3
    obtain⟨adp,rfl,kp1,kp2⟩:=hpcell i (.int .i64 (p:Int)) (by rw[List.getElem?_map,hpi];rfl)
    obtain⟨adm,um,rfl,hRm,km1,km2⟩:=SlicesR.load hA5 hra
    obtain⟨au,cu,hue⟩:=SlicesR.rowOf hRm
    rw[hral]at hue
    subst hue
    obtain⟨q,hq⟩:∃q,ra[c]? =some q:=⟨_,List.getElem?_eq_getElem (by omega)⟩
    have hat:at2 A i c=q:=by
     have:A.getD i []=ra:=by rw[List.getD,hra];rfl
     rw[at2,this,List.getD,hq];rfl
    obtain⟨adq,cs,rfl,hF,hl⟩:=hRm.load hq
    obtain⟨b3,a3,n3,c3,b4,a4,n4,c4,rfl,hF⟩:=hF
    have hSame:∀{ρ w'},Rel [(0,.vec T.row 1 rv)] 1 iv5 w.heap.size w5 ρ w'→∀{g},S g→w'.heap[g]? =w5.heap[g]? :=fun r g hg=>Rel.same (S:=S) r hS (.inl hg)
    conv=>whnf
    refine⟨adp,rfl,⟨by omega,by omega⟩,?_⟩
    conv=>whnf
    refine⟨.int .i64 (p:Int),fun ρ w' r=>?_,?_⟩
    ·rw[Int.toNat_natCast,Nat.mul_one,cell_of_heap (w:=w5) (w2:=w') (by rw[addB];exact Rel.same (S:=S) r hS (.inl kp1))]
     exact kp2
    conv=>whnf
    refine⟨adm,rfl,⟨by omega,by omega⟩,?_⟩
    conv=>whnf
    refine⟨.slice (some adq) n cu,fun ρ w' r=>?_,?_⟩
    ·rw[Int.toNat_natCast,cell_of_heap (w:=w5) (w2:=w') (by rw[addB];exact Rel.same (S:=S) r hS (.inl km1))]
     exact km2
    conv=>whnf
    refine⟨adq,rfl,⟨by omega,by omega⟩,?_⟩
    conv=>whnf
    refine⟨[.bool b3,.slice a3 n3 c3,.bool b4,.slice a4 n4 c4],rfl,fun ρ w' r j u hu=>?_,?_⟩
    ·obtain⟨k1,k2⟩:=hl j u hu
     rw[Int.toNat_natCast,cell_of_heap (w:=w5) (w2:=w') (by rw[addB,addB];exact Rel.same (S:=S) r hS (.inl k1))]
     exact k2
    conv=>whnf
    refine callE_S (callE_con (Φ:=fun _ w' v w2=>FracR w2 (Nw S w' w2) v (-q)) (fun ρ w' r=>fminus_c (fun g hg=>by have:=hS g hg;have:=r.baseLe;omega) (hF.keep fun g hg=>Rel.same (S:=S) r hS (.inl hg))) ?_)
    rintro ρ wa v1 wb r he hb hO
    have hON:FracR wb (fun g=>Cv S w.heap.size ((wa.heap.size,wb.heap.size)::iv5) g∧(Value.slice (some ⟨gx,0,none⟩) cols cx).ownBlock≠some g) v1 (-q):=
     hO.apart (fun g hg=>⟨Rel.old r hS g (cvF (hX.new g hg)),fun h=>by have:=hS g h;have:=hxB g hg;omega⟩) r.baseLe fun g hg=>hg
    replace hX:=(hX.past (iv':=(wa.heap.size,wb.heap.size)::iv5) r hS he fun x hx=>List.mem_cons_of_mem _ hx)
    replace hK:∀(i:Nat) u qs,rv[i]? =some u→(kernelTo A pv cols c)[i]? =some qs→RowR wb (Cv S w.heap.size iv2) (Cv S w.heap.size iv2) u qs:=
     fun i u qs h1 h2=>(hK i u qs h1 h2).keep fun g hg=>by
      have hg:Cv S w.heap.size iv5 g:=(hg.elim id id).mono hsub
      rw[he.block g (Rel.old r hS g hg),Rel.same r hS hg]
    replace hw:=hw.tr hb
    replace hsub:∀p,p∈iv2→p∈(wa.heap.size,wb.heap.size)::iv5:=fun p hp=>List.mem_cons_of_mem _ (hsub p hp)
    clear r he hb hO hF hl hRm hA5 hSame kp1 kp2 km1 km2 hpcell
    generalize (wa.heap.size,wb.heap.size)::iv5=iv6 at*
    obtain⟨b1,a1,n1,c1,b2,a2,n2,c2,rfl⟩:=hON.shape
    conv=>whnf
    refine⟨⟨gx,0,none⟩,rfl,⟨by omega,by omega⟩,?_⟩
    conv=>whnf
    intro ρ w' r
    obtain⟨_,hgx,h1,h2,h3,h4,h5⟩:=(hX.rel r hS).store hpcol (FracR.keep hON fun g hg=>Rel.same r hS hg.1) r hS
    injection hgx with hgx
    injection hgx with hgx
    subst hgx
    replace hw:=hw.tr r.bel
    replace hK:∀(i:Nat) u qs,rv[i]? =some u→(kernelTo A pv cols c)[i]? =some qs→RowR w' (Cv S w.heap.size iv2) (Cv S w.heap.size iv2) u qs:=
     fun i u qs h1 h2=>(hK i u qs h1 h2).keep fun g hg=>Rel.same r hS ((hg.elim id id).mono hsub)
    have hold:∀g,Cv S w.heap.size iv6 g→g<w'.heap.size:=Rel.old r hS
    clear r hX hON
    refine⟨h1,h2,h3,fun w2 hw2=>?_⟩
    obtain⟨hX,hgr,-⟩:=h5 w2 hw2
    replace hw:Bel w.heap.size w w2:=hw.tr (Bel.grown hgr (fun g hg=>by injection hg with hg;subst hg;exact hxB gx rfl) (by have:=hw.size;omega))
    replace hK:∀(i:Nat) u qs,rv[i]? =some u→(kernelTo A pv cols c)[i]? =some qs→RowR w2 (Cv S w.heap.size iv2) (Cv S w.heap.size iv2) u qs:=
     fun i u qs h1 h2=>(hK i u qs h1 h2).keep fun g hg=>hgr.block g (hold g ((hg.elim id id).mono hsub)) fun e=>by
      injection e with e;subst e;exact hxo _ rfl (hg.elim id id)
    clear h1 h2 h3 h4 h5 hw2 hgr hold
    rw[←hat,←hpd,←kvecTo_succ]at hX
    conv=>whnf
    refine⟨((i+1:Nat):Int),by rw[wrap64]<;>omega,?_⟩
    conv=>whnf
    intro ρ3 w3 r3
    exact⟨(i+1,iv6,w3),⟨hi2,hw.tr r3.bel,hsub,hX.rel r3 hS,fun i u qs h1 h2=>(hK i u qs h1 h2).keep fun g hg=>Rel.same r3 hS ((hg.elim id id).mono hsub)⟩,
     Sub.gen [] r3 ⟨rfl,trivial⟩ ⟨rfl,rfl,rfl,rfl,rfl,rfl,rfl,rfl,rfl,rfl,rfl,trivial⟩ (by simp[ScH,Blk.scopd]) (by simp[ScE,SV.sc,At.sc]) (by rfl) (fun lo hi h=>h),by dsimp only;omega⟩
   ·have hi2:i=pv.length:=by
     have:¬i<pv.length:=by simpa using hi2
     omega
    subst hi2
    have hxR:=hX.read
    conv=>whnf
    refine .inl ?_
    conv=>whnf
    refine⟨by simp,by omega,by unfold maxLen;omega,?_⟩
    conv=>whnf
    refine⟨((c+1:Nat):Int),by rw[wrap64]<;>omega,?_⟩
    conv=>whnf
    intro ρ3 w3 r3
    have hl5:(rv++[Value.slice (some ⟨gx,0,none⟩) cols cx]).length=rv.length+1:=by simp
    refine⟨(c+1,rv++[.slice (some ⟨gx,0,none⟩) cols cx],iv5,w3),⟨h,hw.tr r3.bel,by dsimp only;rw[kernelTo_out hm,hl5,hrl];simp,by dsimp only;rw[hl5];omega,fun i u qs h1 h2=>?_⟩,
     Sub.gen [(0,2)] r3 ⟨rfl,trivial⟩ ⟨rfl,rfl,rfl,by dsimp only;rw[hl5];rfl,rfl,rfl,trivial⟩ (by simp[ScH,Blk.scopd]) (by simp[ScE,SV.sc,At.sc]) (by rfl) (fun lo hi h=>h),by dsimp only;omega⟩
    rw[kernelTo_out hm]at h2
    dsimp only at h1 h2 ⊢
    rcases Nat.lt_or_ge i rv.length with hil|hil
    ·rw[List.getElem?_append_left hil]at h1
     rw[List.getElem?_append_left (by rw[←hrl];exact hil)]at h2
     exact((hK i u qs h1 h2).weak (fun g hg=>hg.mono hsub) fun g hg=>hg.mono hsub).rel r3 hS hS
    ·have h0:i=rv.length:=by
      have:=(List.getElem?_eq_some_iff.1 h1).1
      rw[hl5]at this;omega
     subst h0
     rw[List.getElem?_append_right (Nat.le_refl _),Nat.sub_self]at h1
     rw[hrl,List.getElem?_append_right (Nat.le_refl _),Nat.sub_self]at h2
     simp at h1 h2
     subst h1 h2
     exact hxR.rel r3 hS hS
 ·have h:c=cols:=by
   have:¬c<cols:=by simpa using h
   omega
  subst h
  conv=>whnf
  intro ρe we re
  refine⟨_,rfl,hw.tr re.bel,?_⟩
  have hv:=re.vecSeq (id:=0) (sz:=1) (m:=rv.length) rfl (by simp) (by unfold maxLen;omega) (by decide) (fun u hu=>by
   obtain⟨i,hi⟩:=List.getElem?_of_mem hu
   obtain⟨a,cc,e⟩:=SlicesR.rowOf (hK i u _ hi (List.getElem?_eq_getElem (by rw[←hrl];exact(List.getElem?_eq_some_iff.1 hi).1)))
   rw[e]
   rfl)
  refine⟨rv,?_,hrl,fun i u qs h1 h2=>?_⟩
  ·rw[←hrl]
   exact hv.weak fun g hg=>.inr hg
  ·exact((hK i u qs h1 h2).rel re hS hS).weak (fun g hg=>Cv.nw hg re) fun g hg=>Cv.nw hg re
end Go.Ex

/- Clone of a row; what solve needs. No condition but sizes. -/
namespace Go.Ex
open Go Go.Sx Go.Proofs

/-- a part of a row, from an element on -/
theorem RowR.from{C S:Nat→Prop}{w:World}{a:Option Addr}{n c k:Nat}{qs:List Rat}(h:RowR w C S (.slice a n c) qs)(hk:k≤n):
  RowR w C S (.slice (if (c:Int)=(k:Int)then a else a.map (·.add (k*4))) (n-k) (c-k)) (qs.drop k):=by
 obtain⟨css,⟨h0,h1,h2,a',c',e,h3,h4⟩,hf⟩:=h
 injection e with e1 e2 e3
 subst e1 e2 e3
 have hd:(css.drop k).flatten=css.flatten.drop (k*4):=by
  have:=flat_len (css:=css.take k) (fun cs hc=>hf.len4 cs (List.mem_of_mem_take hc))
  conv=>rhs;rw[←List.take_append_drop k css,List.flatten_append]
  have hl:(css.take k).length=k:=by rw[List.length_take,hf.1];omega
  rw[hl]at this
  rw[←this,List.drop_left]
 refine⟨css.drop k,⟨?_,?_,?_,_,c-k,by rw[List.length_drop],by simp;omega,fun j u hu=>?_⟩,?_,fun j cs q hc hq=>?_⟩
 ·simp;omega
 ·rw[hd,List.length_drop,h1,List.length_drop,Nat.sub_mul]
 ·intro u hu
  rw[hd]at hu
  exact h2 u (List.mem_of_mem_drop hu)
 ·rw[hd,List.getElem?_drop]at hu
  obtain⟨ad,k1,k2,k3⟩:=h4 (k*4+j) u hu
  have hlt:=(List.getElem?_eq_some_iff.1 hu).1
  subst k1
  rw[if_neg (by omega)]
  refine⟨ad.add (k*4),rfl,by rw[addB];exact k2,?_⟩
  rw[←k3]
  have:(ad.add (k*4)).add j=ad.add (k*4+j):=by
   unfold Addr.add
   split<;>split<;>simp_all<;>omega
  rw[this]
 ·rw[List.length_drop,List.length_drop,hf.1]
 ·rw[List.getElem?_drop]at hc hq
  exact hf.2 _ cs q hc hq
theorem cloneR_c{C S:Nat→Prop}{w:World}{v:Value}{qs:List Rat}(hC:Old C w)(hS:Old S w)(h:RowR w C S v qs)(hn:0<qs.length)(hl:qs.length≤1000000):
  Con PG N.slices_Clone_of_exact_row_exact_fraction_of #[v] w (Ret w fun v' w2=>RowW w2 S v' qs.length qs∧(∀g,v'.ownBlock=some g→w.heap.size≤g∧g<w2.heap.size)):=by
 obtain⟨a,c,rfl,hc,hm⟩:=h.shape
 obtain⟨css,⟨h0,h1,h2,a',c',e,h3,h4⟩,hf⟩:=h
 injection e with e1 e2 e3
 subst e1 e3
 have hcl:css.length=qs.length:=hf.1
 obtain⟨ad,rfl⟩:∃ad,a=some ad:=by
  obtain⟨ad,k1,_⟩:=h4 0 _ (List.getElem?_eq_getElem (show 0<css.flatten.length by omega))
  exact⟨ad,k1⟩
 refine in_slices_Clone_of_exact_row_exact_fraction_of (by simp) ?_
 conv=>whnf
 refine⟨false,fun ρ w1 o1 o2=>by simp[eqGuard,SV.den,At.den,run_eql_nilslice (P:=PG) w1 T.row T.fraction (some ad) qs.length c 0 0 und_row],?_⟩
 conv=>whnf
 refine .inl ?_
 conv=>whnf
 refine⟨css.flatten,h1,h2,fun ρ w1 r h0=>⟨ad,rfl,fun j u hu=>?_⟩,?_⟩
 ·obtain⟨ad2,k1,k2,k3⟩:=h4 j u hu
  injection k1 with k1
  subst k1
  exact cellS hC Bel.refl r k2 k3
 conv=>whnf
 refine⟨rfl,by omega,by unfold maxLen;omega,?_⟩
 conv=>whnf
 intro ρ3 w3 r3
 refine⟨_,rfl,r3.bel,?_⟩
 have hf3:Fr w3 S css qs:=hf.keep fun g hg=>r3.bel.block g (hS g hg)
 rcases r3.vec 1 T.fraction 4 css.flatten rfl with⟨hnil,hemp⟩|⟨hnil,spare,hb,hcp,hcap⟩
 ·rw[hemp]at h1;simp at h1;omega
 have hlow:=r3.low 1 _ rfl hnil
 have hval:((At.w 1 (0+qs.length)).den ρ3)= .slice (some ⟨(ρ3 1).g,0,none⟩) qs.length (ρ3 1).cap:=by simp[At.den,hnil]
 show RowW w3 S ((At.w 1 (0+qs.length)).den ρ3) qs.length qs∧∀g,((At.w 1 (0+qs.length)).den ρ3).ownBlock=some g→_
 rw[hval]
 have hls:(css.flatten++spare).length=css.flatten.length+spare.length:=List.length_append
 refine⟨⟨css,⟨h1,.inr ⟨(ρ3 1).g,(ρ3 1).cap,(css.flatten++spare).toArray,rfl,Nat.zero_le _,hb,by omega,hcap,by simpa using hcp,?_⟩⟩,hcl,hf3⟩,fun g hg=>?_⟩
 ·rw[←h1];simp
 ·injection hg with hg
  subst hg
  exact hlow
end Go.Ex
namespace Go.Sx
open Go Go.Ex Go.Proofs
/-- the array of one's own that a callee has written -/
theorem Rel.arrWritten{H1 H2:Hp}{nx:Nat}{iv:Iv}{B:Nat}{w w' w2:World}{ρ:Nat→Sx.Val}{X:Nat→Prop}{t id:Nat}{cs cs':List Value}(r:Rel H1 nx iv B w ρ w')(h1:getH H1 id=some (.arr t cs))(h2:getH H2 id=some (.arr t cs'))(ho:∀j,j≠id→getH H2 j=getH H1 j)
  (k:Kept w' w2 X) (hX:∀g,X g→g=(ρ id).g∨∀j b,getH H1 j=some b→(ρ j).nil=false→(ρ j).g≠g) (hb:w2.heap[(ρ id).g]? =some (.cells cs'.toArray t (0,0))):Rel H2 nx ((w'.heap.size,w2.heap.size)::iv) B w2 ρ w2:=by
 have hnil:(ρ id).nil=false:=(r.fits h1).1
 have get:∀j b,getH H2 j=some b→∃b1,getH H1 j=some b1∧(j≠id→b1=b)∧(b≠ .dead→b1≠ .dead):=fun j b h=>by
  by_cases hj:j=id
  ·subst hj
   exact⟨_,h1,fun h=>absurd rfl h,fun _=>by simp⟩
  ·rw[ho j hj]at h
   exact⟨b,h,fun _=>rfl,fun h=>h⟩
 refine Rel.mk' rfl rfl rfl (Nat.le_refl _) (by have:=r.base;have:=r.size;have:=k.size;omega) (fun lo hi hm=>?_) (fun j b h=>?_) (fun j b h=>?_) (fun j b h=>?_) (fun i j b b' hi hj di dj ni nj e=>?_) (fun j b h hn=>?_) (fun _ _ _=>rfl) (fun lo hi hm j b h hn hc=>?_)
 ·rcases List.mem_cons.1 hm with e|hm
  ·injection e with e1 e2;omega
  ·have:=r.ivs lo hi hm;have:=r.size;have:=k.size;omega
 ·obtain⟨b1,h3,_⟩:=get j b h
  exact r.keys j b1 h3
 ·by_cases hj:j=id
  ·subst hj
   rw[h2]at h
   injection h with h
   subst h
   exact⟨hnil,hb⟩
  ·rw[ho j hj]at h
   refine Blk.fits_keep (r.fits h) (fun _ _=>rfl) (r.scopd h) fun hn hd=>?_
   refine k.block _ (r.low j b h hn).2 fun hx=>?_
   rcases hX _ hx with e|e
   ·exact hj (r.inj j id b _ h h1 hd (by simp) hn hnil e)
   ·exact e j b h hn rfl
 ·by_cases hj:j=id
  ·subst hj
   rw[h2]at h
   injection h with h
   subst h
   trivial
  ·rw[ho j hj]at h
   exact r.scopd h
 ·obtain⟨b1,h3,_,h4⟩:=get i b hi
  obtain⟨b2,h5,_,h6⟩:=get j b' hj
  exact r.inj i j b1 b2 h3 h5 (h4 di) (h6 dj) ni nj e
 ·obtain⟨b1,h3,_⟩:=get j b h
  have:=r.low j b1 h3 hn
  have:=k.size
  omega
 ·obtain⟨b1,h3,_⟩:=get j b h
  have hl:=r.low j b1 h3 hn
  rcases List.mem_cons.1 hm with e|hm
  ·injection e with e1 e2;omega
  ·exact r.prot lo hi hm j b1 h3 hn hc
end Go.Sx
namespace Go.Ex
open Go Go.Sx Go.Proofs
end Go.Ex

/- Solving a system in memory. No condition but sizes. -/
namespace Go.Ex
open Go Go.Sx Go.Proofs

abbrev valsM(M:List (List (Int×Int))):List (List Rat):=M.map fun r=>r.map ratioP
def unitL(R i:Nat):List Rat:=(List.replicate R 0).set i 1
/-- beside the matrix the right side and the unit matrix -/
def allF(M:List (List Rat))(b:List Rat):List (List Rat):=M.mapIdx fun i r=>r++b.getD i 0::unitL M.length i
def xvecTo(A:List (List Rat))(pv:List Nat)(cols i:Nat):List Rat:=(List.range i).foldl (fun x i=>x.set (pv.getD i 0) (at2 A i cols)) (List.replicate cols 0)
theorem xvecTo_succ(A:List (List Rat))(pv:List Nat)(cols i:Nat):xvecTo A pv cols (i+1)=(xvecTo A pv cols i).set (pv.getD i 0) (at2 A i cols):=by
 rw[xvecTo,List.range_succ,List.foldl_append];rfl
theorem allF_length(M:List (List Rat))(b:List Rat):(allF M b).length=M.length:=by simp[allF]
theorem allF_at{M:List (List Rat)}{b:List Rat}{i:Nat}{r:List Rat}(h:M[i]? =some r):(allF M b)[i]? =some (r++b.getD i 0::unitL M.length i):=by simp[allF,h]
theorem RowX.lim{S:Nat→Prop}{H:Hp}{nx n:Nat}{iv:Iv}{B:Nat}{w w' w2:World}{ρ:Nat→Sx.Val}{v:Value}{qs:List Rat}{rv:List Value}(hx:RowX w2 (fun _=>False) w'.heap.size [(w'.heap.size,w2.heap.size)] v n qs)(r:Rel H nx iv B w ρ w')(hrv:∀u∈rv,∀g,u.ownBlock=some g→Cv S B iv g)(hS:∀g,S g→g<B):
  RowW w2 (fun g=>(Cv (fun _=>False) B ((w'.heap.size,w2.heap.size)::iv) g∧¬ ∃u∈rv,u.ownBlock=some g)∧v.ownBlock≠some g) v n qs∧∀g,v.ownBlock=some g→Cv (fun _=>False) B ((w'.heap.size,w2.heap.size)::iv) g∧w'.heap.size≤g:=by
 have key:∀g,Cv (fun _=>False) w'.heap.size [(w'.heap.size,w2.heap.size)] g→w'.heap.size≤g∧g<w2.heap.size:=fun g hg=>by
  rcases hg with hg|⟨h1,lo,hi,h2,h3,h4⟩
  ·exact hg.elim
  ·simp at h2
   obtain⟨rfl,rfl⟩:=h2
   exact⟨h3,h4⟩
 have hB:=r.baseLe
 have hin:∀g,w'.heap.size≤g∧g<w2.heap.size→Cv (fun _=>False) B ((w'.heap.size,w2.heap.size)::iv) g:=fun g hg=>.inr ⟨by omega,_,_,List.mem_cons_self,hg.1,hg.2⟩
 refine⟨hx.row.weak fun g hg=>⟨⟨hin g (key g hg.1),fun⟨u,hu,e⟩=>?_⟩,hg.2⟩,fun g hg=>⟨hin g (key g (hx.new g hg)),(key g (hx.new g hg)).1⟩⟩
 have:=Rel.old r hS g (hrv u hu g e)
 have:=(key g hg.1).1
 omega

/-- a row that is being written, beside rows that are done -/
structure UnitW(w:World)(B:Nat)(iv:Iv)(rv:List Value)(v:Value)(n:Nat)(qs:List Rat):Prop where
 row:RowW w (fun g=>(Cv (fun _=>False) B iv g∧¬ ∃u∈rv,u.ownBlock=some g)∧v.ownBlock≠some g) v n qs
 blk:∀g,v.ownBlock=some g→Cv (fun _=>False) B iv g
section
variable{H:Hp}{nx n:Nat}{iv iv':Iv}{B:Nat}{w w' w2:World}{ρ:Nat→Sx.Val}{v:Value}{qs:List Rat}{rv:List Value}
theorem UnitW.keep(h:UnitW w B iv rv v n qs)(hk:∀g,Cv (fun _=>False) B iv g→w2.heap[g]? =w.heap[g]?):UnitW w2 B iv rv v n qs:=
 ⟨h.row.keep fun g hg=>hk g (hg.elim (fun h=>h.1.1) (h.blk g)),h.blk⟩
theorem UnitW.rel(h:UnitW w B iv rv v n qs)(r:Rel H nx iv B w ρ w'):UnitW w' B iv rv v n qs:=h.keep fun _ hg=>Rel.same r (oldF' B) hg
theorem UnitW.past(h:UnitW w B iv rv v n qs)(r:Rel H nx iv B w ρ w')(he:Ext w' w2)(hm:∀p,p∈iv→p∈iv'):UnitW w2 B iv' rv v n qs:=
 have h2:=(h.rel r).keep fun g hg=>he.block g (Rel.old r (oldF' B) g hg)
 ⟨h2.row.weak fun _ hg=>⟨⟨hg.1.1.mono hm,hg.1.2⟩,hg.2⟩,fun g hg=>(h2.blk g hg).mono hm⟩
/-- what a call has made lies outside rows that were there -/
theorem FracR.lim{q:Rat}{u:Value}(h:FracR w2 (Nw (fun _=>False) w' w2) u q)(r:Rel H nx iv B w ρ w')(hrv:∀u∈rv,∀g,u.ownBlock=some g→Cv (fun _=>False) B iv g):
  FracR w2 (fun g=>Cv (fun _=>False) B ((w'.heap.size,w2.heap.size)::iv) g∧¬ ∃u∈rv,u.ownBlock=some g) u q:=
 h.weak fun g hg=>by
  rcases hg with hg|hg
  ·exact hg.elim
  ·refine⟨.inr ⟨by have:=r.baseLe;omega,_,_,List.mem_cons_self,hg.1,hg.2⟩,fun⟨u,hu,e⟩=>?_⟩
   have:=Rel.old r (oldF' B) g (hrv u hu g e)
   omega
end
theorem concat3_c{C S:Nat→Prop}{w:World}{va u x:Value}{g2:Nat}{b b2:Bool}{a a2:Option Addr}{m c m2 c2:Nat}{rs xs:List Rat}{q:Rat}(hC:Old C w)(hS:Old S w)
  (ha:SeqR w C 1 va [u,.slice (some ⟨g2,0,none⟩) 1 1,x] 3) (hb:SeqR w C 4 (.slice (some ⟨g2,0,none⟩) 1 1) [.bool b,.slice a m c,.bool b2,.slice a2 m2 c2] 1) (hr:RowR w C S u rs) (hx:RowR w C S x xs)
  (hq:FracR w S (.agg #[.bool b,.slice a m c,.bool b2,.slice a2 m2 c2]) q) (hl:rs.length+1+xs.length≤1000000):
  Con PG N.slices_Concat_of_exact_row_exact_fraction_of #[va] w (Ret w fun v w2=>RowW w2 S v (rs.length+1+xs.length) (rs++q::xs)∧∀g,v.ownBlock=some g→w.heap.size≤g∧g<w2.heap.size):=by
 obtain⟨c1,s1,f1⟩:=hr
 obtain⟨c2',s2,f2⟩:=hx
 refine(concatR_c (parts:=[(u,c1.flatten,rs.length),(.slice (some ⟨g2,0,none⟩) 1 1,[.bool b,.slice a m c,.bool b2,.slice a2 m2 c2],1),(x,c2'.flatten,xs.length)]) hC ha ?_ (by simp[nsum];omega)).mono fun e w2 ⟨v,e1,e2,e3⟩=>⟨v,e1,e2,?_,fun g hg=>?_⟩
 ·intro p hp
  simp only[List.mem_cons,List.not_mem_nil,or_false]at hp
  rcases hp with rfl|rfl|rfl
  ·exact s1
  ·exact hb
  ·exact s2
 ·have hn:nsum [(u,c1.flatten,rs.length),(Value.slice (some ⟨g2,0,none⟩) 1 1,[Value.bool b,.slice a m c,.bool b2,.slice a2 m2 c2],1),(x,c2'.flatten,xs.length)]=rs.length+1+xs.length:=by simp[nsum];omega
  rw[hn]at e3
  have hfl:List.flatMap (fun x=>x.2.1) [(u,c1.flatten,rs.length),(Value.slice (some ⟨g2,0,none⟩) 1 1,[Value.bool b,.slice a m c,.bool b2,.slice a2 m2 c2],1),(x,c2'.flatten,xs.length)]=(c1++[Value.bool b,.slice a m c,.bool b2,.slice a2 m2 c2]::c2').flatten:=by simp
  rw[hfl]at e3
  refine⟨_,⟨e3.1,e3.2.imp id fun⟨g,cap,cur,k1,_,k3⟩=>⟨g,cap,cur,k1,Nat.zero_le _,k3⟩⟩,by simp[f1.1,f2.1];omega,?_⟩
  have hk:∀g,S g→w2.heap[g]? =w.heap[g]? :=fun g hg=>e2.block g (hS g hg)
  refine⟨by simp[f1.1,f2.1],fun j cs p h1 h2=>?_⟩
  rcases Nat.lt_trichotomy j c1.length with hj|hj|hj
  ·rw[List.getElem?_append_left hj]at h1
   rw[List.getElem?_append_left (by rw[←f1.1];exact hj)]at h2
   exact(f1.2 j cs p h1 h2).keep hk
  ·subst hj
   rw[List.getElem?_append_right (Nat.le_refl _),Nat.sub_self]at h1
   rw[f1.1,List.getElem?_append_right (Nat.le_refl _),Nat.sub_self]at h2
   simp at h1 h2
   subst h1 h2
   exact(hq.keep hk).four
  ·rw[List.getElem?_append_right (by omega)]at h1
   rw[List.getElem?_append_right (by rw[←f1.1];omega),←f1.1]at h2
   obtain⟨k,hk2⟩:∃k,j-c1.length=k+1:=⟨j-c1.length-1,by omega⟩
   rw[hk2]at h1 h2
   simp at h1 h2
   exact(f2.2 k cs p h1 h2).keep hk
 ·have:=ownsRow.low e3 g hg
  exact this

theorem solve_c{S:Nat→Prop}{w:World}{v u:Value}{M:List (List (Int×Int))}{b:List (Int×Int)}{h0:Nat}(hS:Old S w)(h:RatMR w S v M)(hu:RatsR w S u b)(hf:∀r∈M,Few r)(hfb:Few b)(hrow:∀r∈M,r.length=colsM M)(hbl:b.length=M.length)
  (hn:colsM M≤1000) (hR:M.length≤1000) (hht:Ht (allF (valsM M) (b.map ratioP)) h0) (h2:2≤h0) (hbd:4^M.length*h0≤500000000):
  Con PG N.exact_solve #[v,u] w (Ret w fun v' w2=>∃A pv,(A,pv)=reduceF (allF (valsM M) (b.map ratioP)) (colsM M)∧
   ((∃j vp,pv.length≤j∧j<M.length∧at2 A j (colsM M)≠0∧(∀k,pv.length≤k→k<j→at2 A k (colsM M)=0)∧v'= .agg #[vp,.slice none 0 0,.slice none 0 0]∧(∃a n c,vp= .slice (some a) n c)∧
     RowR w2 (Nw (fun _=>False) w w2) (Nw (fun _=>False) w w2) vp (((A.getD j []).drop (colsM M+1)).map (· *(1 / at2 A j (colsM M)))))∨
    (∃vx vk,(∀k,pv.length≤k→k<M.length→at2 A k (colsM M)=0)∧v'= .agg #[.slice none 0 0,vx,vk]∧RowR w2 (Nw (fun _=>False) w w2) (Nw (fun _=>False) w w2) vx (xvecTo A pv (colsM M) pv.length)∧
     MatR w2 (Nw (fun _=>False) w w2) vk (kernelTo A pv (colsM M) (colsM M))))):=by
 replace h:=RatMR.arg h []
 replace hu:=RatsR.arg hu []
 obtain⟨am,cm,rfl,hcm,-⟩:=SlicesR.shape h
 obtain⟨ab,cb,rfl,hcb,-⟩:=ListR.shape hu
 obtain⟨cols,hcols⟩:∃c,c=colsM M:=⟨_,rfl⟩
 rw[←hcols]at hrow hn ⊢
 refine in_exact_solve (by simp) ?_
 conv=>whnf
 refine callE_S (callE_con (Φ:=fun _ _ v _=>v= .int .i64 cols) (fun ρ w' r=>by rw[hcols];exact columns_c (Rel.old r hS) (RatMR.rel h r hS)) ?_)
 rintro ρ wa v1 wb r he hw rfl
 replace h:=RatMR.past (iv':=(wa.heap.size,wb.heap.size)::[]) h r hS he fun x hx=>List.mem_cons_of_mem _ hx
 replace hu:=RatsR.past (iv':=(wa.heap.size,wb.heap.size)::[]) hu r hS he fun x hx=>List.mem_cons_of_mem _ hx
 clear r he
 generalize (wa.heap.size,wb.heap.size)::[]=iv at*
 conv=>whnf
 refine⟨M.length,M.length,rfl,rfl,Nat.le_refl _,by omega,by omega,?_⟩
 conv=>whnf
 refine callE_S (callE_con (Φ:=fun _ w' v w2=>MatX w2 (fun _=>False) w'.heap.size [(w'.heap.size,w2.heap.size)] v cols (valsM M)) (fun ρ w' r=>matrix_c (Rel.old r hS) (RatMR.rel h r hS) hf hrow (by omega) (by omega)) ?_)
 rintro ρ wc v1 wd r he hb hX
 have hXm:=(hX.got (S:=fun _=>False) (iv:=(wc.heap.size,wd.heap.size)::iv) r.baseLe List.mem_cons_self).read
 replace h:=RatMR.past (iv':=(wc.heap.size,wd.heap.size)::iv) h r hS he fun x hx=>List.mem_cons_of_mem _ hx
 replace hu:=RatsR.past (iv':=(wc.heap.size,wd.heap.size)::iv) hu r hS he fun x hx=>List.mem_cons_of_mem _ hx
 replace hw:=hw.tr hb
 clear r he hb hX
 generalize (wc.heap.size,wd.heap.size)::iv=ivM at*
 obtain⟨at_,ct,rfl,hct,-⟩:=SlicesR.shape hXm
 rw[List.length_map]at hct hXm ⊢
 conv=>whnf
 refine⟨List Value×Iv×World,fun z=>⟨[(0,.o (.v (.slice am M.length cm))),(1,.o (.v (.slice ab b.length cb))),(4,.o (.p 0 0)),(5,.o (.v (.int .i64 cols))),(6,.o (.s 1 0 M.length M.length)),(23,.o (.v (.slice at_ M.length ct))),(24,.o (.v (.int .i64 M.length))),(25,.o (.v (.int .i64 z.1.length)))],
   [(1,.arr T.row (z.1++List.replicate (M.length-z.1.length) (.slice none 0 0))),(0,.box T.solved [.v (.slice none 0 0),.v (.slice none 0 0),.v (.slice none 0 0)])],2,z.2.1,z.2.2⟩,fun z=>M.length-z.1.length,
  fun z=>z.1.length≤M.length∧Bel w.heap.size w z.2.2∧(∀p,p∈ivM→p∈z.2.1)∧RatMR z.2.2 (Cv S w.heap.size ivM) (.slice am M.length cm) M∧RatsR z.2.2 (Cv S w.heap.size ivM) (.slice ab b.length cb) b∧
   MatR z.2.2 (Cv (fun _=>False) w.heap.size ivM) (.slice at_ M.length ct) (valsM M)∧
   RowsX z.2.2 (fun _=>False) w.heap.size z.2.1 z.1 (cols+1+M.length) ((allF (valsM M) (b.map ratioP)).take z.1.length)∧(∀u∈z.1,u.oneCell'=true)∧(∀u∈z.1,∀g,u.ownBlock=some g→¬Cv (fun _=>False) w.heap.size ivM g),?_,?_⟩
 ·intro ρ w' r
  exact⟨([],ivM,w'),⟨by simp,hw.tr r.bel,fun p hp=>hp,RatMR.rel h r hS,RatsR.rel hu r hS,MatR.rel hXm r (oldF w),by simpa using RowsX.nil _ _ _ _ _,by simp,by simp⟩,
   Sub.gen [] r ⟨rfl,rfl,trivial⟩ ⟨rfl,rfl,rfl,rfl,rfl,rfl,rfl,rfl,trivial⟩ (by simp[ScH,Blk.scopd,At.sc]) (by simp[ScE,SV.sc,At.sc]) (by rfl) (fun lo hi h=>h)⟩
 clear h hu hXm hw
 rintro⟨rv,iv1,w1⟩ ⟨hrl,hw,hsub,h,hu,hXm,hRows,h1c,hrvM⟩
 dsimp only at hrl hw hsub h hu hXm hRows h1c hrvM ⊢
 have hlA:(allF (valsM M) (b.map ratioP)).length=M.length:=by rw[allF_length,List.length_map]
 conv=>whnf
 refine BrS.mk (fun hi=>?_) (fun hi=>?_)
 ·have hi:rv.length<M.length:=by simpa using hi
  obtain⟨mr,hmr⟩:∃x,M[rv.length]? =some x:=⟨_,List.getElem?_eq_getElem hi⟩
  obtain⟨bx,hbx⟩:∃x,b[rv.length]? =some x:=⟨_,List.getElem?_eq_getElem (by omega)⟩
  have hmrl:=hrow mr (List.mem_of_getElem? hmr)
  obtain⟨ad,ur,rfl,hRr,kt1,kt2⟩:=SlicesR.load hXm (j:=rv.length) (x:=mr.map ratioP) (by rw[List.getElem?_map,hmr];rfl)
  obtain⟨au,cu,hue⟩:=SlicesR.rowOf hRr
  rw[List.length_map,hmrl]at hue
  subst hue
  have hsame:∀{H nx iv ρ wx w'},(∀p,p∈ivM→p∈iv)→Rel H nx iv w.heap.size wx ρ w'→∀{X:Nat→Prop},(∀g,X g→g<w.heap.size)→∀g,Cv X w.heap.size ivM g→w'.heap[g]? =wx.heap[g]? :=by
   intro H nx iv ρ wx w' hm r X hX g hg
   exact Rel.same r hX (hg.mono hm)
  conv=>whnf
  refine⟨ad,rfl,⟨by omega,by omega⟩,?_⟩
  conv=>whnf
  refine⟨.slice au cols cu,fun ρ w' r=>?_,?_⟩
  ·rw[Int.toNat_natCast,cell_of_heap (w:=w1) (w2:=w') (by rw[addB];exact hsame hsub r (oldF w) _ kt1)]
   exact kt2
  conv=>whnf
  refine callE_S (callE_con (Φ:=fun _ w' v w2=>RowX w2 (fun _=>False) w'.heap.size [(w'.heap.size,w2.heap.size)] v M.length (List.replicate M.length 0)) (fun ρ w' r=>zeros_c M.length w' (by omega)) ?_)
  rintro ρ wa vx wb r he hb hx
  have hU0:=hx.lim (rv:=rv) r (fun u hu g hg=>cvF (hRows.new u hu g hg)) (oldF w)
  have hU:UnitW wb w.heap.size ((wa.heap.size,wb.heap.size)::iv1) rv vx M.length (List.replicate M.length 0):=⟨hU0.1,fun g hg=>(hU0.2 g hg).1⟩
  have hold1:∀g,Cv (fun _=>False) w.heap.size ivM g→g<wa.heap.size:=fun g hg=>Rel.old r (oldF w) g (hg.mono hsub)
  have hgxr:∀g,vx.ownBlock=some g→∀u∈rv,u.ownBlock≠some g:=fun g hg u hu e=>by have:=Rel.old r (oldF w) g (hRows.new u hu g e);have:=(hU0.2 g hg).2;omega
  have hvxM:∀g,vx.ownBlock=some g→¬Cv (fun _=>False) w.heap.size ivM g:=fun g hg h=>by have:=hold1 g h;have:=(hU0.2 g hg).2;omega
  replace h:=RatMR.keep h fun g hg=>by rw[he.block g (Rel.old r hS g (hg.mono hsub)),hsame hsub r hS g hg]
  replace hu:=RatsR.keep hu fun g hg=>by rw[he.block g (Rel.old r hS g (hg.mono hsub)),hsame hsub r hS g hg]
  replace hXm:=MatR.keep hXm fun g hg=>by rw[he.block g (Rel.old r (oldF w) g (hg.mono hsub)),hsame hsub r (oldF w) g hg]
  replace hRr:=hRr.keep fun g hg=>by rw[he.block g (Rel.old r (oldF w) g ((hg.elim id id).mono hsub)),hsame hsub r (oldF w) g (hg.elim id id)]
  have hvx1:∀g,vx.ownBlock=some g→¬Cv (fun _=>False) w.heap.size iv1 g:=fun g hg h=>by have:=Rel.old r (oldF w) g h;have:=(hU0.2 g hg).2;omega
  replace hRows:=hRows.keep fun g hg=>by rw[he.block g (Rel.old r (oldF w) g hg),Rel.same r (oldF w) hg]
  have hsub1:∀p,p∈iv1→p∈(wa.heap.size,wb.heap.size)::iv1:=fun p hp=>List.mem_cons_of_mem _ hp
  replace hw:=hw.tr hb
  replace hsub:∀p,p∈ivM→p∈(wa.heap.size,wb.heap.size)::iv1:=fun p hp=>List.mem_cons_of_mem _ (hsub p hp)
  clear r he hb hx hU0 hold1
  generalize (wa.heap.size,wb.heap.size)::iv1=iv2 at*
  obtain⟨ax,cx,rfl,-⟩:=hU.row.form
  conv=>whnf
  refine callE_S (callE_con (Φ:=fun _ w' v w2=>FracR w2 (Nw (fun _=>False) w' w2) v ((1:Int):Rat)) (fun ρ w' r=>whole_c 1 w' (by decide) (by decide)) ?_)
  rintro ρ wa v1 wb r he hb hO
  have hON:=(hO.lim (rv:=rv) r fun u hu g hg=>(hRows.new u hu g hg).mono hsub1)
  have hONx:FracR wb (fun g=>(Cv (fun _=>False) w.heap.size ((wa.heap.size,wb.heap.size)::iv2) g∧¬ ∃u∈rv,u.ownBlock=some g)∧(Value.slice ax M.length cx).ownBlock≠some g) v1 ((1:Int):Rat):=by
   have h1:=hO.apart (S':=fun _=>False) (iv:=iv2) (v:=Value.slice ax M.length cx) (fun g hg=>⟨Rel.old r (oldF w) g (hU.blk g hg),fun h=>h⟩) r.baseLe fun g hg=>hg
   obtain⟨nv,dv,h3,h4,h5⟩:=hON
   obtain⟨nv',dv',h3',h4',h5'⟩:=hO
   rw[h3]at h3'
   injection h3' with h3'
   simp at h3'
   obtain⟨rfl,rfl⟩:=h3'
   have hap:∀g,Nw (fun _=>False) wa wb g→((Cv (fun _=>False) w.heap.size ((wa.heap.size,wb.heap.size)::iv2) g∧¬ ∃u∈rv,u.ownBlock=some g)∧(Value.slice ax M.length cx).ownBlock≠some g):=fun g hg=>by
    rcases hg with hg|hg
    ·exact hg.elim
    ·refine⟨⟨.inr ⟨by have:=r.baseLe;omega,_,_,List.mem_cons_self,hg.1,hg.2⟩,fun⟨u,hu,e⟩=>?_⟩,fun e=>?_⟩
     ·have:=Rel.old r (oldF w) g ((hRows.new u hu g e).mono hsub1);omega
     ·have:=Rel.old r (oldF w) g (hU.blk g e);omega
   exact⟨nv,dv,h3,h4'.weak hap,h5'.weak hap⟩
  replace h:=RatMR.keep h fun g hg=>by rw[he.block g (Rel.old r hS g (hg.mono hsub)),hsame hsub r hS g hg]
  replace hu:=RatsR.keep hu fun g hg=>by rw[he.block g (Rel.old r hS g (hg.mono hsub)),hsame hsub r hS g hg]
  replace hXm:=MatR.keep hXm fun g hg=>by rw[he.block g (Rel.old r (oldF w) g (hg.mono hsub)),hsame hsub r (oldF w) g hg]
  replace hRr:=hRr.keep fun g hg=>by rw[he.block g (Rel.old r (oldF w) g ((hg.elim id id).mono hsub)),hsame hsub r (oldF w) g (hg.elim id id)]
  replace hRows:=hRows.keep fun g hg=>by rw[he.block g (Rel.old r (oldF w) g (hg.mono hsub1)),Rel.same r (oldF w) (hg.mono hsub1)]
  replace hsub1:∀p,p∈iv1→p∈(wa.heap.size,wb.heap.size)::iv2:=fun p hp=>List.mem_cons_of_mem _ (hsub1 p hp)
  replace hU:=hU.past (iv':=(wa.heap.size,wb.heap.size)::iv2) r he fun x hx=>List.mem_cons_of_mem _ hx
  replace hw:=hw.tr hb
  replace hsub:∀p,p∈ivM→p∈(wa.heap.size,wb.heap.size)::iv2:=fun p hp=>List.mem_cons_of_mem _ (hsub p hp)
  clear r he hb hO hON
  generalize (wa.heap.size,wb.heap.size)::iv2=iv3 at*
  obtain⟨b1,a1,n1,c1,b2,a2,n2,c2,rfl⟩:=hONx.shape
  have hone:(((1:Int):Rat))=1:=rfl
  rw[hone]at hONx
  conv=>whnf
  have hgx:∃g,ax=some ⟨g,0,none⟩:=by
   obtain⟨css,ho,_⟩:=hU.row
   rcases ho.2 with⟨_,h0⟩|⟨g,cap,cur,e,_⟩
   ·omega
   ·injection e with e;exact⟨g,e⟩
  obtain⟨gx,rfl⟩:=hgx
  refine⟨⟨gx,0,none⟩,rfl,⟨by omega,by omega⟩,?_⟩
  conv=>whnf
  intro ρ w' r
  have hUr:=hU.rel r
  obtain⟨g',hgx,k1,k2,k3,k4⟩:=hUr.row.store hi (FracR.keep hONx fun g hg=>Rel.same r (oldF w) hg.1.1) (fun g hg hx=>hx.2 hg) (fun x hx=>Rel.old r (oldF w) x hx.1.1)
  injection hgx with hgx
  injection hgx with hgx
  subst hgx
  have hgxc:=hU.blk gx rfl
  have hnot:=fun id b hb hn=>Rel.not r (oldF w) hgxc id b hb hn
  have holdw:∀{X:Nat→Prop},(∀g,X g→g<w.heap.size)→∀g,Cv X w.heap.size iv3 g→g<w'.heap.size:=by
   intro X hX g hg
   exact Rel.old r hX g hg
  replace h:=RatMR.keep h fun g hg=>hsame hsub r hS g hg
  replace hu:=RatsR.keep hu fun g hg=>hsame hsub r hS g hg
  replace hXm:=MatR.keep hXm fun g hg=>hsame hsub r (oldF w) g hg
  replace hRr:=hRr.keep fun g hg=>hsame hsub r (oldF w) g (hg.elim id id)
  replace hRows:=hRows.keep fun g hg=>Rel.same r (oldF w) (hg.mono hsub1)
  replace hw:=hw.tr r.bel
  have hgxB:w.heap.size≤gx:=by
   rcases hgxc with h|⟨h,_⟩
   ·exact h.elim
   ·exact h
  have hgxrv:∀u∈rv,u.ownBlock≠some gx:=hgxr gx rfl
  clear r hUr hU hONx
  refine⟨k1,k3,fun id b hb hn=>by rw[k2];exact hnot id b hb hn,fun w2 hw2=>?_⟩
  obtain⟨hU1,hgr,-⟩:=k4 w2 hw2
  have hU:UnitW w2 w.heap.size iv3 rv (.slice (some ⟨gx,0,none⟩) M.length cx) M.length (unitL M.length rv.length):=⟨hU1,fun g hg=>by injection hg with hg;subst hg;exact hgxc⟩
  have hsm:∀g,g<w'.heap.size→g≠gx→w2.heap[g]? =w'.heap[g]? :=fun g hg hne=>hgr.block g hg fun e=>by injection e with e;exact hne e
  replace h:=RatMR.keep h fun g hg=>hsm g (holdw hS g (hg.mono hsub)) fun e=>by
   subst e
   rcases hg with hg|⟨q1,lo,hi',q2,q3⟩
   ·have:=hS g hg;omega
   ·exact hvxM g rfl (.inr ⟨q1,lo,hi',q2,q3⟩)
  replace hu:=RatsR.keep hu fun g hg=>hsm g (holdw hS g (hg.mono hsub)) fun e=>by
   subst e
   rcases hg with hg|⟨q1,lo,hi',q2,q3⟩
   ·have:=hS g hg;omega
   ·exact hvxM g rfl (.inr ⟨q1,lo,hi',q2,q3⟩)
  replace hXm:=MatR.keep hXm fun g hg=>hsm g (holdw (oldF w) g (hg.mono hsub)) fun e=>by subst e;exact hvxM g rfl hg
  replace hRr:=hRr.keep fun g hg=>hsm g (holdw (oldF w) g ((hg.elim id id).mono hsub)) fun e=>by subst e;exact hvxM g rfl (hg.elim id id)
  replace hRows:=hRows.keep fun g hg=>hsm g (holdw (oldF w) g (hg.mono hsub1)) fun e=>by subst e;exact hvx1 g rfl hg
  replace hw:Bel w.heap.size w w2:=hw.tr (Bel.grown hgr (fun g hg=>by injection hg with hg;subst hg;exact hgxB) (by have:=hw.size;omega))
  clear k1 k2 k3 k4 hU1 hgr hsm hnot hw2 holdw
  obtain⟨adb,csb,rfl,hRb,-,hlb⟩:=ListR.load hu hbx
  obtain⟨b3,a3,n3,c3,b4,a4,n4,c4,rfl,hRb⟩:=hRb
  obtain⟨fb1,fb2⟩:=hfb bx (List.mem_of_getElem? hbx)
  conv=>whnf
  refine⟨adb,rfl,⟨by omega,by omega⟩,?_⟩
  conv=>whnf
  refine⟨[.bool b3,.slice a3 n3 c3,.bool b4,.slice a4 n4 c4],rfl,fun ρ w' r j x hx=>?_,?_⟩
  ·obtain⟨q1,q2⟩:=hlb j x hx
   rw[Int.toNat_natCast,cell_of_heap (w:=w2) (w2:=w') (by rw[addB,addB];exact hsame hsub r hS _ q1)]
   exact q2
  conv=>whnf
  refine callE_S (callE_con (Φ:=fun _ w' v w2=>FracR w2 (Nw (fun _=>False) w' w2) v (ratioP bx)) (fun ρ w' r=>value_c (Rel.old r hS) (RatR.keep (RatR.weak hRb fun g hg=>hg.mono hsub) fun g hg=>Rel.same r hS hg) (by omega) (by omega)) ?_)
  rintro ρ wa v1 wb4 r he hb hO
  have hQ:=(hO.lim (rv:=rv) r fun u hu g hg=>(hRows.new u hu g hg).mono hsub1)
  replace h:=RatMR.keep h fun g hg=>by rw[he.block g (Rel.old r hS g (hg.mono hsub)),hsame hsub r hS g hg]
  replace hu:=RatsR.keep hu fun g hg=>by rw[he.block g (Rel.old r hS g (hg.mono hsub)),hsame hsub r hS g hg]
  replace hXm:=MatR.keep hXm fun g hg=>by rw[he.block g (Rel.old r (oldF w) g (hg.mono hsub)),hsame hsub r (oldF w) g hg]
  replace hRr:=hRr.keep fun g hg=>by rw[he.block g (Rel.old r (oldF w) g ((hg.elim id id).mono hsub)),hsame hsub r (oldF w) g (hg.elim id id)]
  replace hRows:=hRows.keep fun g hg=>by rw[he.block g (Rel.old r (oldF w) g (hg.mono hsub1)),Rel.same r (oldF w) (hg.mono hsub1)]
  replace hU:=hU.past (iv':=(wa.heap.size,wb4.heap.size)::iv3) r he fun x hx=>List.mem_cons_of_mem _ hx
  replace hw:=hw.tr hb
  replace hsub:∀p,p∈ivM→p∈(wa.heap.size,wb4.heap.size)::iv3:=fun p hp=>List.mem_cons_of_mem _ (hsub p hp)
  replace hsub1:∀p,p∈iv1→p∈(wa.heap.size,wb4.heap.size)::iv3:=fun p hp=>List.mem_cons_of_mem _ (hsub1 p hp)
  clear r he hb hO hRb hlb hgxc
  generalize (wa.heap.size,wb4.heap.size)::iv3=iv4 at*
  obtain⟨b5,a5,n5,c5,b6,a6,n6,c6,rfl⟩:=hQ.shape
  conv=>whnf
  have hlr:(mr.map ratioP).length=cols:=by rw[List.length_map,hmrl]
  have hlu:(unitL M.length rv.length).length=M.length:=by simp[unitL]
  refine callE_S (callE_con (Φ:=fun _ w' v w2=>RowW w2 (fun g=>Cv (fun _=>False) w.heap.size iv4 g∧¬ ∃u∈rv,u.ownBlock=some g) v (cols+1+M.length) (mr.map ratioP++ratioP bx::unitL M.length rv.length)∧∀g,v.ownBlock=some g→w'.heap.size≤g∧g<w2.heap.size) (fun ρ w' r=>?_) ?_)
  ·have hb3:=r.boxSeq (id:=3) (sz:=1) (n:=3) rfl rfl (by decide) (by intro u hu;simp at hu;rcases hu with rfl|rfl|rfl<;>rfl)
   have hb2:=r.boxSeq (id:=2) (sz:=4) (n:=1) rfl rfl (by decide) (by intro u hu;simp at hu;rcases hu with rfl|rfl|rfl|rfl<;>rfl)
   have hlow3:=r.low 3 _ rfl (r.nn 3 _ rfl (by intros;simp) (by simp))
   have hlow2:=r.low 2 _ rfl (r.nn 2 _ rfl (by intros;simp) (by simp))
   have hUr:=hU.rel r
   have:=concat3_c (C:=fun g=>Cv (fun _=>False) w.heap.size iv4 g∨g=(ρ 2).g∨g=(ρ 3).g) (S:=fun g=>Cv (fun _=>False) w.heap.size iv4 g∧¬ ∃u∈rv,u.ownBlock=some g)
    (w:=w') (rs:=mr.map ratioP) (xs:=unitL M.length rv.length) (q:=ratioP bx) (u:=.slice au cols cu) (x:=.slice (some ⟨gx,0,none⟩) M.length cx)
    (fun g hg=>by rcases hg with hg|rfl|rfl;exact Rel.old r (oldF w) g hg;exact hlow2.2;exact hlow3.2) (fun g hg=>Rel.old r (oldF w) g hg.1)
    (hb3.weak fun g hg=>.inr (.inr hg)) (hb2.weak fun g hg=>.inr (.inl hg))
    ((hRr.keep fun g hg=>hsame hsub r (oldF w) g (hg.elim id id)).weak (fun g hg=>.inl (hg.mono hsub)) fun g hg=>⟨hg.mono hsub,fun⟨u,hu,e⟩=>hrvM u hu g e hg⟩)
    (hUr.row.read.weak (fun g hg=>.inl (hUr.blk g hg)) fun g hg=>hg.1) (FracR.keep hQ fun g hg=>Rel.same r (oldF w) hg.1) (by rw[hlr,hlu];omega)
   rw[hlr,hlu]at this
   exact this
  rintro ρ wa vn wb r he hb ⟨hrow1,hrow2⟩
  have hB:=r.baseLe
  have hnew:RowsX wb (fun _=>False) w.heap.size ((wa.heap.size,wb.heap.size)::iv4) (rv++[vn]) (cols+1+M.length) ((allF (valsM M) (b.map ratioP)).take (rv.length+1)):=by
   have h4:RowsX wb (fun _=>False) w.heap.size iv4 rv (cols+1+M.length) ((allF (valsM M) (b.map ratioP)).take rv.length):=
    ⟨hRows.len,fun i v qs h1 h2=>((hRows.row i v qs h1 h2).keep fun g hg=>by
      have hg:Cv (fun _=>False) w.heap.size iv1 g:=hg.elim (fun h=>h.1) fun hg=>hRows.new v (List.mem_of_getElem? h1) g hg
      rw[he.block g (Rel.old r (oldF w) g (hg.mono hsub1)),Rel.same r (oldF w) (hg.mono hsub1)]).weak fun g hg=>⟨hg.1.mono hsub1,hg.2⟩,hRows.dis,fun v hv g hg=>(hRows.new v hv g hg).mono hsub1⟩
   have h5:RowsX wb4 (fun _=>False) w.heap.size iv4 rv (cols+1+M.length) ((allF (valsM M) (b.map ratioP)).take rv.length):=
    ⟨hRows.len,fun i v qs h1 h2=>(hRows.row i v qs h1 h2).weak fun g hg=>⟨hg.1.mono hsub1,hg.2⟩,hRows.dis,fun v hv g hg=>(hRows.new v hv g hg).mono hsub1⟩
   have h6:=h5.snoc r (oldF w) he (hrow1.weak fun g hg=>⟨hg.1.mono fun p hp=>List.mem_cons_of_mem _ hp,fun e=>by have:=Rel.old r (oldF w) g hg.1;have:=(hrow2 g e).1;omega,hg.2⟩) hrow2
   have h7:(allF (valsM M) (b.map ratioP)).take (rv.length+1)=(allF (valsM M) (b.map ratioP)).take rv.length++[mr.map ratioP++ratioP bx::unitL M.length rv.length]:=by
    rw[List.take_add_one,allF_at (r:=mr.map ratioP) (by rw[List.getElem?_map,hmr];rfl)]
    have:(b.map ratioP).getD rv.length 0=ratioP bx:=by rw[List.getD,List.getElem?_map,hbx];rfl
    rw[this,List.length_map]
    rfl
   rw[h7]
   exact h6
  have hvnM:∀g,vn.ownBlock=some g→¬Cv (fun _=>False) w.heap.size ivM g:=fun g hg hm=>by
   have:=Rel.old r (oldF w) g (hm.mono hsub);have:=(hrow2 g hg).1;omega
  replace h:=RatMR.keep h fun g hg=>by rw[he.block g (Rel.old r hS g (hg.mono hsub)),hsame hsub r hS g hg]
  replace hu:=RatsR.keep hu fun g hg=>by rw[he.block g (Rel.old r hS g (hg.mono hsub)),hsame hsub r hS g hg]
  replace hXm:=MatR.keep hXm fun g hg=>by rw[he.block g (Rel.old r (oldF w) g (hg.mono hsub)),hsame hsub r (oldF w) g hg]
  replace hw:=hw.tr hb
  replace hsub:∀p,p∈ivM→p∈(wa.heap.size,wb.heap.size)::iv4:=fun p hp=>List.mem_cons_of_mem _ (hsub p hp)
  obtain⟨an,cn,rfl,-⟩:=hrow1.form
  clear r he hb hRr hRows hU hQ hrow1 hrow2 hB hvx1 hgxr hgxrv hvxM
  generalize (wa.heap.size,wb.heap.size)::iv4=iv5 at*
  conv=>whnf
  refine⟨⟨by omega,by omega⟩,?_⟩
  conv=>whnf
  refine⟨by simp;omega,(rv++[.slice an (cols+1+M.length) cn])++List.replicate (M.length-(rv.length+1)) (.slice none 0 0),?_,?_⟩
  ·have h5:M.length-rv.length=(M.length-(rv.length+1))+1:=by omega
   simp[h5,List.replicate_succ]
  conv=>whnf
  refine⟨((rv.length+1:Nat):Int),by rw[wrap64]<;>omega,?_⟩
  conv=>whnf
  intro ρ3 w3 r3
  have hl3:(rv++[Value.slice an (cols+1+M.length) cn]).length=rv.length+1:=by simp
  refine⟨(rv++[.slice an (cols+1+M.length) cn],iv5,w3),⟨by dsimp only;rw[hl3];exact hi,hw.tr r3.bel,hsub,RatMR.keep h fun g hg=>Rel.same r3 hS (hg.mono hsub),RatsR.keep hu fun g hg=>Rel.same r3 hS (hg.mono hsub),MatR.keep hXm fun g hg=>Rel.same r3 (oldF w) (hg.mono hsub),?_,?_,?_⟩,
   Sub.gen [] r3 ⟨by dsimp only;rw[hl3];rfl,rfl,trivial⟩ ⟨rfl,rfl,rfl,rfl,rfl,rfl,rfl,by dsimp only;rw[hl3];rfl,trivial⟩ (by simp[ScH,Blk.scopd,At.sc]) (by simp[ScE,SV.sc,At.sc]) (by rfl) (fun lo hi h=>h),by dsimp only;rw[hl3];omega⟩
  ·dsimp only
   rw[hl3]
   exact hnew.rel r3 (oldF w)
  ·intro u hu
   rcases List.mem_append.1 hu with hu|hu
   ·exact h1c u hu
   ·simp at hu;subst hu;rfl
  ·intro u hu g hg
   rcases List.mem_append.1 hu with hu|hu
   ·exact hrvM u hu g hg
   ·simp at hu;subst hu;exact hvnM g hg
 ·have hi:rv.length=M.length:=by
   have:¬rv.length<M.length:=by simpa using hi
   omega
  rw[hi,show M.length-M.length=0 by omega,List.replicate_zero,List.append_nil]
  rw[hi,←hlA,List.take_length]at hRows
  clear h hu hXm hrvM hsub hf hfb hbl hcm hcb hct
  conv=>whnf
  obtain⟨hAl,hpl,hpc,hAh⟩:=reduceF_inv (cols:=cols) hht h2
  rw[hlA]at hRows hAl hpl
  refine⟨fun ρ w' r=>?_⟩
  have hnil1:=r.nn 1 _ rfl (by intros;simp) (by simp)
  have hm:=hRows.mat r (oldF w) (id:=1) rfl hnil1 (by unfold maxLen;omega) h1c
  rw[hi]at hm
  refine(reduce_c (fun g hg=>Rel.old r (oldF w) g hg.1) hm (fun g hg=>hg.2) (by omega) (by omega) (show cols≤cols+1+M.length by omega) hht h2 (by rw[hlA];exact hbd)).mono fun e w2 he=>?_
  obtain⟨vp,rv',rfl,hK,hM2,hMb,hP⟩:=he
  obtain⟨A,pv,hApv⟩:∃A pv,(A,pv)=reduceF (allF (valsM M) (b.map ratioP)) cols:=⟨_,_,rfl⟩
  rw[←hApv]at hAl hpl hpc hAh hM2 hP
  dsimp only at hAl hpl hpc hAh hM2 hP
  have hrvl':rv'.length=M.length:=by rw[hM2.len,hAl]
  have hblk:w2.heap[(ρ 1).g]? =some (.cells rv'.toArray T.row (0,0)):=by
   rcases hM2.out.2 with⟨h1,_⟩|⟨g,cap,cur,e,_,hg,_,_,hsz,htk⟩
   ·cases h1
   ·injection e with e1 e2 e3
    injection e1 with e1
    injection e1 with e1
    subst e1 e3
    rw[hg,←htk,hrvl',Nat.mul_one,List.take_of_length_le (by simp;omega)]
  have hIn:∀g,Mb (.slice (some ⟨(ρ 1).g,0,none⟩) M.length M.length) rv g→g=(ρ 1).g∨Cv (fun _=>False) w.heap.size iv1 g:=fun g hg=>by
   rcases hg with hg|⟨x,hx,hg⟩
   ·injection hg with hg;exact .inl hg.symm
   ·exact .inr (hRows.new x hx g hg)
  refine⟨vp,[(1,.arr T.row rv'),(0,.box T.solved [.v (.slice none 0 0),.v (.slice none 0 0),.v (.slice none 0 0)])],(w'.heap.size,w2.heap.size)::iv1,rfl,
   r.arrWritten (id:=1) rfl rfl (fun j hj=>by simp[getH_cons,Ne.symm hj]) hK (fun g hg=>(hIn g hg).imp id fun hc=>fun j c hj hn=>Rel.not r (oldF w) hc j c hj hn) hblk,?_⟩
  have hB:=r.baseLe
  have hT:∀g,Nw (fun g=>Cv (fun _=>False) w.heap.size iv1 g∧¬Mb (.slice (some ⟨(ρ 1).g,0,none⟩) M.length M.length) rv g) w' w2 g→Cv (fun _=>False) w.heap.size ((w'.heap.size,w2.heap.size)::iv1) g:=fun g hg=>by
   rcases hg with hg|hg
   ·exact hg.1.mono fun p hp=>List.mem_cons_of_mem _ hp
   ·exact .inr ⟨by omega,_,_,List.mem_cons_self,hg.1,hg.2⟩
  have hRd:∀(j:Nat) x qs,rv'[j]? =some x→A[j]? =some qs→RowR w2 (Cv (fun _=>False) w.heap.size ((w'.heap.size,w2.heap.size)::iv1)) (Cv (fun _=>False) w.heap.size ((w'.heap.size,w2.heap.size)::iv1)) x qs∧qs.length=cols+1+M.length:=fun j x qs h1 h2=>by
   have h3:RowW w2 _ x (cols+1+M.length) qs:=hM2.row j x qs h1 h2
   refine⟨h3.read.weak (fun g hg=>?_) hT,h3.len⟩
   have hxm:=List.mem_of_getElem? h1
   rcases hIn g ((hMb g).1 (.inr ⟨x,hxm,hg⟩))with e|hc
   ·subst e;exact absurd rfl (hM2.offm x hxm _ hg)
   ·exact hc.mono fun p hp=>List.mem_cons_of_mem _ hp
  have hPd:IntsR w2 (Cv (fun _=>False) w.heap.size ((w'.heap.size,w2.heap.size)::iv1)) vp pv:=SeqR.weak hP fun g hg=>by
   rcases hg with hg|hg
   ·exact hg.elim
   ·exact .inr ⟨by omega,_,_,List.mem_cons_self,hg.1,hg.2⟩
  replace hw:Bel w.heap.size w w2:=(hw.tr r.bel).tr ⟨hK.os,hK.tape,hK.output,hK.size,fun k hk=>hK.block k (by have:=r.baseLe;omega) fun hx=>by
   rcases hIn k hx with e|hc
   ·have:=(r.low 1 _ rfl hnil1).1;omega
   ·rcases hc with hc|⟨hc,_⟩
    ·exact hc
    ·omega⟩
  clear hm hK hM2 hMb hP hblk hIn hT hRows h1c hrl hB hnil1 r
  generalize (w'.heap.size,w2.heap.size)::iv1=iv2 at*
  obtain⟨apv,cpv,rfl,hcpv⟩:∃a c,vp= .slice a pv.length c∧pv.length≤c:=by
   obtain⟨-,-,-,a,c,e,h1,-⟩:=hPd
   exact⟨a,c,e,h1⟩
  have hAht:Ht A 500000000:=hAh.mono (Nat.le_trans (Nat.mul_le_mul_right _ (Nat.pow_le_pow_right (by decide) hpl)) hbd)
  clear hAh hht hbd
  conv=>whnf
  refine⟨⟨by omega,by omega,by omega⟩,(if M.length=pv.length then 0 else pv.length),M.length-pv.length,M.length-pv.length,?_,by omega,by omega,?_⟩
  ·split<;>split<;>omega
  have hoff:pv.length<M.length→(if M.length=pv.length then 0 else pv.length)=pv.length:=fun h=>by rw[if_neg (by omega)]
  generalize (if M.length=pv.length then 0 else pv.length)=off at*
  conv=>whnf
  refine⟨Nat×Iv×World,fun z=>⟨[(4,.o (.p 0 0)),(5,.o (.v (.int .i64 cols))),(6,.o (.s 1 0 M.length M.length)),(10,.o (.v (.slice apv pv.length cpv))),(57,.o (.s 1 off (M.length-pv.length) (M.length-pv.length))),(58,.o (.v (.int .i64 ((M.length-pv.length:Nat):Int)))),(59,.o (.v (.int .i64 z.1)))],
    [(1,.arr T.row rv'),(0,.box T.solved [.v (.slice none 0 0),.v (.slice none 0 0),.v (.slice none 0 0)])],2,z.2.1,z.2.2⟩,fun z=>M.length-pv.length-z.1,
   fun z=>z.1≤M.length-pv.length∧Bel w.heap.size w z.2.2∧(∀p,p∈iv2→p∈z.2.1)∧IntsR z.2.2 (Cv (fun _=>False) w.heap.size iv2) (.slice apv pv.length cpv) pv∧
    (∀(j:Nat) x qs,rv'[j]? =some x→A[j]? =some qs→RowR z.2.2 (Cv (fun _=>False) w.heap.size iv2) (Cv (fun _=>False) w.heap.size iv2) x qs∧qs.length=cols+1+M.length)∧(∀k,pv.length≤k→k<pv.length+z.1→at2 A k cols=0),?_,?_⟩
  ·intro ρ w' r
   exact⟨(0,iv2,w'),⟨by simp,hw.tr r.bel,fun p hp=>hp,IntsR.rel hPd r (oldF w),fun j x qs h1 h2=>⟨(hRd j x qs h1 h2).1.rel r (oldF w) (oldF w),(hRd j x qs h1 h2).2⟩,fun k h1 h2=>by dsimp only at h2;omega⟩,
    Sub.gen [] r ⟨rfl,rfl,trivial⟩ ⟨rfl,rfl,rfl,rfl,rfl,rfl,rfl,trivial⟩ (by simp[ScH,Blk.scopd,At.sc]) (by simp[ScE,SV.sc,At.sc]) (by rfl) (fun lo hi h=>h)⟩
  clear hw hRd hPd
  rintro⟨j,iv3,w3⟩ ⟨hj,hw,hsub,hPd,hRd,hz⟩
  dsimp only at hj hw hsub hPd hRd hz ⊢
  have hsame:∀{H nx iv ρ wx w'},(∀p,p∈iv2→p∈iv)→Rel H nx iv w.heap.size wx ρ w'→∀g,Cv (fun _=>False) w.heap.size iv2 g→w'.heap[g]? =wx.heap[g]? :=by
   intro H nx iv ρ wx w' hm r g hg
   exact Rel.same r (oldF w) (hg.mono hm)
  conv=>whnf
  refine BrS.mk (fun hjb=>?_) (fun hjb=>?_)
  ·have hjb:j<M.length-pv.length:=by
    have:=of_decide_eq_true hjb;omega
   have hoff:=hoff (by omega)
   subst hoff
   obtain⟨xr,hxr⟩:∃x,rv'[pv.length+j]? =some x:=⟨_,List.getElem?_eq_getElem (by omega)⟩
   obtain⟨qs,hqs⟩:∃x,A[pv.length+j]? =some x:=⟨_,List.getElem?_eq_getElem (by omega)⟩
   obtain⟨hRr,hql⟩:=hRd _ xr qs hxr hqs
   obtain⟨axr,cxr,hxe,hxc,-⟩:=hRr.shape
   rw[hql]at hxe hxc
   subst hxe
   obtain⟨q,hq⟩:∃q,qs[cols]? =some q:=⟨_,List.getElem?_eq_getElem (by omega)⟩
   have hat:at2 A (pv.length+j) cols=q:=by
    have:A.getD (pv.length+j) []=qs:=by rw[List.getD,hqs];rfl
    rw[at2,this,List.getD,hq];rfl
   obtain⟨adq,cs,rfl,hF,hl⟩:=hRr.load hq
   obtain⟨b3,a3,n3,c3,b4,a4,n4,c4,rfl,hF⟩:=hF
   conv=>whnf
   refine⟨⟨by omega,by omega⟩,?_⟩
   conv=>whnf
   refine⟨.slice (some adq) (cols+1+M.length) cxr,by simpa using hxr,?_⟩
   conv=>whnf
   refine⟨adq,rfl,⟨by omega,by omega⟩,?_⟩
   conv=>whnf
   refine⟨[.bool b3,.slice a3 n3 c3,.bool b4,.slice a4 n4 c4],rfl,fun ρ w' r i x hx=>?_,?_⟩
   ·obtain⟨k1,k2⟩:=hl i x hx
    rw[Int.toNat_natCast,cell_of_heap (w:=w3) (w2:=w') (by rw[addB,addB];exact hsame hsub r _ k1)]
    exact k2
   conv=>whnf
   refine callE_S (callE_con (Φ:=fun _ _ v _=>v= .int .i64 (rs q)) (fun ρ w' r=>fsign_c (fun g hg=>Rel.old r (oldF w) g (hg.mono hsub)) (FracR.keep hF fun g hg=>hsame hsub r g hg)) ?_)
   rintro ρ wa v1 wb r he hb rfl
   have hstep:∀g,Cv (fun _=>False) w.heap.size iv2 g→wb.heap[g]? =w3.heap[g]? :=fun g hg=>by rw[he.block g (Rel.old r (oldF w) g (hg.mono hsub)),hsame hsub r g hg]
   replace hPd:=IntsR.keep hPd hstep
   replace hRd:∀(j:Nat) x qs,rv'[j]? =some x→A[j]? =some qs→RowR wb (Cv (fun _=>False) w.heap.size iv2) (Cv (fun _=>False) w.heap.size iv2) x qs∧qs.length=cols+1+M.length:=fun j x qs h1 h2=>⟨(hRd j x qs h1 h2).1.keep fun g hg=>hstep g (hg.elim id id),(hRd j x qs h1 h2).2⟩
   replace hF:=FracR.keep hF hstep
   replace hRr:=hRr.keep fun g hg=>hstep g (hg.elim id id)
   replace hl:∀k u,[Value.bool b3,.slice a3 n3 c3,.bool b4,.slice a4 n4 c4][k]? =some u→Cv (fun _=>False) w.heap.size iv2 adq.block∧wb.cell? ((adq.add (cols*4)).add k)=some u:=fun k u hu=>⟨(hl k u hu).1,by
    rw[cell_of_heap (w:=w3) (w2:=wb) (by rw[addB,addB];exact hstep _ (hl k u hu).1)]
    exact(hl k u hu).2⟩
   replace hw:=hw.tr hb
   replace hsub:∀p,p∈iv2→p∈(wa.heap.size,wb.heap.size)::iv3:=fun p hp=>List.mem_cons_of_mem _ (hsub p hp)
   clear r he hb hstep
   generalize (wa.heap.size,wb.heap.size)::iv3=iv4 at*
   conv=>whnf
   refine BrS.mk (fun h0=>?_) (fun h0=>?_)
   ·have h0:q≠0:=fun e=>by rw[e]at h0;exact absurd h0 (by decide)
    have hqsd:A.getD (pv.length+j) []=qs:=by rw[List.getD,hqs];rfl
    have hqA:=hAht.at hqs
    have hrlq:=hqA q (List.mem_of_getElem? hq)
    have hpart:=hRr.from (k:=cols+1) (by omega)
    have hdl:(qs.drop (cols+1)).length=M.length:=by rw[List.length_drop,hql];omega
    rw[show cols+1+M.length-(cols+1)=M.length by omega]at hpart
    conv=>whnf
    refine⟨((cols+1:Nat):Int),by rw[wrap64]<;>omega,?_⟩
    conv=>whnf
    refine⟨⟨by omega,by omega,by omega⟩,(if (cxr:Int)=((cols+1:Nat):Int)then some adq else(some adq).map (·.add ((cols+1)*4))),M.length,cxr-(cols+1),rfl,by omega,by omega,?_⟩
    generalize (if (cxr:Int)=((cols+1:Nat):Int)then some adq else(some adq).map (·.add ((cols+1)*4)))=adp at*
    conv=>whnf
    refine callE_S (callE_con (Φ:=fun _ w' v w2=>RowW w2 (Cv (fun _=>False) w.heap.size iv2) v M.length (qs.drop (cols+1))∧∀g,v.ownBlock=some g→w'.heap.size≤g∧g<w2.heap.size) (fun ρ w' r=>?_) ?_)
    ·have:=cloneR_c (w:=w') (fun g hg=>Rel.old r (oldF w) g (hg.mono hsub)) (fun g hg=>Rel.old r (oldF w) g (hg.mono hsub)) (hpart.keep fun g hg=>hsame hsub r g (hg.elim id id)) (by rw[hdl];omega) (by rw[hdl];omega)
     rw[hdl]at this
     exact this
    rintro ρ wa v1 wb' r he hb ⟨hP,hpb⟩
    have hpT:∀g,v1.ownBlock=some g→¬Cv (fun _=>False) w.heap.size iv2 g:=fun g hg h=>by have:=Rel.old r (oldF w) g (h.mono hsub);have:=(hpb g hg).1;omega
    have hpO:∀g,v1.ownBlock=some g→Cv (fun _=>False) w.heap.size ((wa.heap.size,wb'.heap.size)::iv4) g:=fun g hg=>.inr ⟨by have:=(hpb g hg).1;have:=r.baseLe;omega,_,_,List.mem_cons_self,(hpb g hg).1,(hpb g hg).2⟩
    have hstep:∀g,Cv (fun _=>False) w.heap.size iv2 g→wb'.heap[g]? =wb.heap[g]? :=fun g hg=>by rw[he.block g (Rel.old r (oldF w) g (hg.mono hsub)),hsame hsub r g hg]
    replace hF:=FracR.keep hF hstep
    replace hl:∀k u,[Value.bool b3,.slice a3 n3 c3,.bool b4,.slice a4 n4 c4][k]? =some u→Cv (fun _=>False) w.heap.size iv2 adq.block∧wb'.cell? ((adq.add (cols*4)).add k)=some u:=fun k u hu=>⟨(hl k u hu).1,by
     rw[cell_of_heap (w:=wb) (w2:=wb') (by rw[addB,addB];exact hstep _ (hl k u hu).1)]
     exact(hl k u hu).2⟩
    replace hw:=hw.tr hb
    replace hsub:∀p,p∈iv2→p∈(wa.heap.size,wb'.heap.size)::iv4:=fun p hp=>List.mem_cons_of_mem _ (hsub p hp)
    clear r he hb hstep hpart hRr hPd hRd hpb
    generalize (wa.heap.size,wb'.heap.size)::iv4=iv5 at*
    obtain⟨ap',cp',rfl,-⟩:=hP.form
    conv=>whnf
    refine drawn_of_pi hτ hmix [.x 0,.x 2,.x 3,.x 4,.x 5,.x 1,.x 6,.x 7] (by kernel_rfl) (by kernel_rfl) ?_
    conv=>whnf
    refine⟨adq,rfl,⟨by omega,by omega⟩,?_⟩
    conv=>whnf
    refine⟨[.bool b3,.slice a3 n3 c3,.bool b4,.slice a4 n4 c4],rfl,fun ρ w' r i x hx=>?_,?_⟩
    ·obtain⟨k1,k2⟩:=hl i x hx
     rw[Int.toNat_natCast,cell_of_heap (w:=wb') (w2:=w') (by rw[addB,addB];exact hsame hsub r _ k1)]
     exact k2
    conv=>whnf
    refine callE_con (Φ:=fun _ w' v w2=>FracR w2 (Nw (fun _=>False) w' w2) v (((1:Int):Rat))) (fun ρ w' r=>whole_c 1 w' (by decide) (by decide)) ?_
    rintro ρ wa v1 wc r he hbl hO
    have hON:=hO.got (S:=fun _=>False) r.baseLe (iv:=(wa.heap.size,wc.heap.size)::iv5) List.mem_cons_self
    have hstep:∀g,Cv (fun _=>False) w.heap.size iv5 g→wc.heap[g]? =wb'.heap[g]? :=fun g hg=>by rw[he.block g (Rel.old r (oldF w) g hg),Rel.same r (oldF w) hg]
    replace hF:=FracR.keep hF fun g hg=>hstep g (hg.mono hsub)
    replace hP:=hP.keep fun g hg=>hstep g (hg.elim (fun h=>h.mono hsub) (hpO g))
    replace hw:=hw.tr hbl
    replace hsub:∀p,p∈iv2→p∈(wa.heap.size,wc.heap.size)::iv5:=fun p hp=>List.mem_cons_of_mem _ (hsub p hp)
    replace hpO:∀g,(Value.slice ap' M.length cp').ownBlock=some g→Cv (fun _=>False) w.heap.size ((wa.heap.size,wc.heap.size)::iv5) g:=fun g hg=>(hpO g hg).cons
    clear r he hbl hO hl hstep
    generalize (wa.heap.size,wc.heap.size)::iv5=iv6 at*
    obtain⟨b5,a5,n5,c5,b6,a6,n6,c6,rfl⟩:=hON.shape
    have hone:(((1:Int):Rat))=1:=rfl
    rw[hone]at hON
    conv=>whnf
    refine callE_con (Φ:=fun _ w' v w2=>FracR w2 (Nw (fun _=>False) w' w2) v (1 / q)) (fun ρ w' r=>fby_c (Rel.old r (oldF w)) (hON.rel r (oldF w)) (FracR.weak (FracR.keep hF fun g hg=>hsame hsub r g hg) fun g hg=>hg.mono hsub) (by decide) (by omega) h0) ?_
    rintro ρ wa v1 wd r he hbl hO
    have hQN:=hO.got (S:=fun _=>False) r.baseLe (iv:=(wa.heap.size,wd.heap.size)::iv6) List.mem_cons_self
    have hQp:∀g,Nw (fun _=>False) wa wd g→(Value.slice ap' M.length cp').ownBlock≠some g:=fun g hg e=>by
     rcases hg with hg|hg
     ·exact hg.elim
     ·have:=Rel.old r (oldF w) g (hpO g e);omega
    have hQ2:FracR wd (fun g=>Cv (fun _=>False) w.heap.size ((wa.heap.size,wd.heap.size)::iv6) g∧(Value.slice ap' M.length cp').ownBlock≠some g) v1 (1 / q):=hO.weak fun g hg=>⟨hg.got r.baseLe List.mem_cons_self,hQp g hg⟩
    have hstep:∀g,Cv (fun _=>False) w.heap.size iv6 g→wd.heap[g]? =wc.heap[g]? :=fun g hg=>by rw[he.block g (Rel.old r (oldF w) g hg),Rel.same r (oldF w) hg]
    replace hP:=hP.keep fun g hg=>hstep g (hg.elim (fun h=>h.mono hsub) (hpO g))
    replace hw:=hw.tr hbl
    replace hsub:∀p,p∈iv2→p∈(wa.heap.size,wd.heap.size)::iv6:=fun p hp=>List.mem_cons_of_mem _ (hsub p hp)
    replace hpO:∀g,(Value.slice ap' M.length cp').ownBlock=some g→Cv (fun _=>False) w.heap.size ((wa.heap.size,wd.heap.size)::iv6) g:=fun g hg=>(hpO g hg).cons
    clear r he hbl hO hF hON hstep hQp
    generalize (wa.heap.size,wd.heap.size)::iv6=iv7 at*
    obtain⟨b7,a7,n7,c7,b8,a8,n8,c8,rfl⟩:=hQN.shape
    have hinv:=rl_inv h0
    conv=>whnf
    refine⟨fun ρ w' r=>?_⟩
    have hPr:=(hP.keep (w2:=w') fun g hg=>Rel.same r (oldF w) (hg.elim (fun h=>h.mono hsub) (hpO g))).weak (S':=fun g=>Cv (fun _=>False) w.heap.size iv7 g∧(Value.slice ap' M.length cp').ownBlock≠some g) fun g hg=>⟨hg.mono hsub,fun e=>hpT g e hg⟩
    obtain⟨css,hr1,hr2,hr3⟩:=hPr
    refine(scale_c (fun g hg=>Rel.old r (oldF w) g hg.1) hr1 hr3 hr2 (FracR.keep hQ2 fun g hg=>Rel.same r (oldF w) hg.1) (fun x hx hx2=>hx2.2 hx) (fun x hx=>by have:=hqA x (List.mem_of_mem_drop hx);omega) (by omega)).mono fun e w4 he=>?_
    obtain⟨rfl,hgr,css',hr4,hr5,hr6⟩:=he
    have hP2:RowW w4 (Nw (fun g=>Cv (fun _=>False) w.heap.size iv7 g∧(Value.slice ap' M.length cp').ownBlock≠some g) w' w4) (.slice ap' M.length cp') M.length ((qs.drop (cols+1)).map (· *(1 / q))):=⟨css',hr4,hr5,hr6⟩
    refine⟨.tuple #[],_,(w'.heap.size,w4.heap.size)::iv7,rfl,r.rowedNew (fun x hx=>Rel.not r (oldF w) (hpO x hx)) hgr,?_⟩
    have hP3:RowR w4 (Cv (fun _=>False) w.heap.size ((w'.heap.size,w4.heap.size)::iv7)) (Cv (fun _=>False) w.heap.size ((w'.heap.size,w4.heap.size)::iv7)) (.slice ap' M.length cp') ((qs.drop (cols+1)).map (· *(1 / q))):=
     hP2.read.weak (fun g hg=>(hpO g hg).cons) fun g hg=>by
      rcases hg with hg|hg
      ·exact hg.1.cons
      ·exact .inr ⟨by have:=r.baseLe;omega,_,_,List.mem_cons_self,hg.1,hg.2⟩
    have hw4:Bel w.heap.size w w4:=(hw.tr r.bel).tr (Bel.grown hgr (fun g hg=>by
     rcases hpO g hg with h|⟨h,_⟩
     ·exact h.elim
     ·exact h) r.baseLe)
    have hsome:∃a,ap'=some a:=by
     rcases hr4.2 with⟨_,h9⟩|⟨g,cap,cur,e,_⟩
     ·omega
     ·injection e with e;exact⟨_,e⟩
    obtain⟨ag,rfl⟩:=hsome
    clear hP hQN hQ2 hr1 hr3 hr4 hr6 hgr hP2 r hw hpT hpO hsub
    generalize (w'.heap.size,w4.heap.size)::iv7=iv8 at*
    conv=>whnf
    intro ρe we re
    refine⟨_,rfl,hw4.tr re.bel,A,pv,hApv,.inl ⟨pv.length+j,_,by omega,by omega,by rw[hat];exact h0,fun k h1 h2=>hz k h1 h2,rfl,⟨ag,_,_,rfl⟩,?_⟩⟩
    rw[hqsd,hat]
    exact(hP3.rel re (oldF w) (oldF w)).weak (fun g hg=>Cv.nw hg re) fun g hg=>Cv.nw hg re
   ·have h0:q=0:=by
     have h1:(rs q==0)=true:=by simpa using h0
     exact Rat.num_eq_zero.1 (Int.sign_eq_zero_iff_zero.1 (eq_of_beq h1))
    conv=>whnf
    refine⟨((j+1:Nat):Int),by rw[wrap64]<;>omega,?_⟩
    conv=>whnf
    intro ρ3 w5 r3
    refine⟨(j+1,iv4,w5),⟨hjb,hw.tr r3.bel,hsub,IntsR.keep hPd fun g hg=>hsame hsub r3 g hg,fun j x qs h1 h2=>⟨(hRd j x qs h1 h2).1.keep fun g hg=>hsame hsub r3 g (hg.elim id id),(hRd j x qs h1 h2).2⟩,fun k h1 h2=>?_⟩,
     Sub.gen [] r3 ⟨rfl,rfl,trivial⟩ ⟨rfl,rfl,rfl,rfl,rfl,rfl,rfl,trivial⟩ (by simp[ScH,Blk.scopd,At.sc]) (by simp[ScE,SV.sc,At.sc]) (by rfl) (fun lo hi h=>h),by dsimp only;omega⟩
    by_cases hk:k=pv.length+j
    ·rw[hk,hat,h0]
    ·exact hz k h1 (by dsimp only at h2;omega)
  ·have hjb:j=M.length-pv.length:=by
    have:=of_decide_eq_false hjb;omega
   have hz2:∀k,pv.length≤k→k<M.length→at2 A k cols=0:=fun k h1 h2=>hz k h1 (by omega)
   clear hz hoff
   conv=>whnf
   refine callE_S (callE_con (Φ:=fun _ w' v w2=>RowX w2 (fun _=>False) w'.heap.size [(w'.heap.size,w2.heap.size)] v cols (List.replicate cols 0)) (fun ρ w' r=>zeros_c cols w' (by omega)) ?_)
   rintro ρ wa vx wb r he hb hx
   have hX:=hx.got (S:=fun _=>False) (iv:=(wa.heap.size,wb.heap.size)::iv3) r.baseLe List.mem_cons_self
   have hxo:∀g,vx.ownBlock=some g→¬Cv (fun _=>False) w.heap.size iv2 g:=fun g hg h=>by
    have h3:=Rel.old r (oldF w) g (h.mono hsub)
    rcases hx.new g hg with h4|⟨h4,_⟩
    ·exact h4
    ·omega
   have hstep:∀g,Cv (fun _=>False) w.heap.size iv2 g→wb.heap[g]? =w3.heap[g]? :=fun g hg=>by rw[he.block g (Rel.old r (oldF w) g (hg.mono hsub)),hsame hsub r g hg]
   replace hPd:=IntsR.keep hPd hstep
   replace hRd:∀(j:Nat) x qs,rv'[j]? =some x→A[j]? =some qs→RowR wb (Cv (fun _=>False) w.heap.size iv2) (Cv (fun _=>False) w.heap.size iv2) x qs∧qs.length=cols+1+M.length:=fun j x qs h1 h2=>⟨(hRd j x qs h1 h2).1.keep fun g hg=>hstep g (hg.elim id id),(hRd j x qs h1 h2).2⟩
   have hxB:∀g,vx.ownBlock=some g→w.heap.size≤g:=fun g hg=>by
    rcases hX.new g hg with h4|⟨h4,_⟩
    ·exact h4.elim
    ·exact h4
   replace hw:=hw.tr hb
   replace hsub:∀p,p∈iv2→p∈(wa.heap.size,wb.heap.size)::iv3:=fun p hp=>List.mem_cons_of_mem _ (hsub p hp)
   clear r he hb hx hstep
   generalize (wa.heap.size,wb.heap.size)::iv3=iv4 at*
   obtain⟨ax,cx,rfl,-⟩:=hX.row.form
   conv=>whnf
   refine⟨Nat×Iv×World,fun z=>⟨[(4,.o (.p 0 0)),(5,.o (.v (.int .i64 cols))),(6,.o (.s 1 0 M.length M.length)),(10,.o (.v (.slice apv pv.length cpv))),(14,.o (.v (.slice ax cols cx))),(87,.o (.v (.slice apv pv.length cpv))),(88,.o (.v (.int .i64 pv.length))),(89,.o (.v (.int .i64 z.1)))],
     [(1,.arr T.row rv'),(0,.box T.solved [.v (.slice none 0 0),.v (.slice none 0 0),.v (.slice none 0 0)])],2,z.2.1,z.2.2⟩,fun z=>pv.length-z.1,
    fun z=>z.1≤pv.length∧Bel w.heap.size w z.2.2∧(∀p,p∈iv2→p∈z.2.1)∧IntsR z.2.2 (Cv (fun _=>False) w.heap.size iv2) (.slice apv pv.length cpv) pv∧
     (∀(j:Nat) x qs,rv'[j]? =some x→A[j]? =some qs→RowR z.2.2 (Cv (fun _=>False) w.heap.size iv2) (Cv (fun _=>False) w.heap.size iv2) x qs∧qs.length=cols+1+M.length)∧
     RowX z.2.2 (fun _=>False) w.heap.size z.2.1 (.slice ax cols cx) cols (xvecTo A pv cols z.1),?_,?_⟩
   ·intro ρ w' r
    exact⟨(0,iv4,w'),⟨by simp,hw.tr r.bel,hsub,IntsR.keep hPd fun g hg=>hsame hsub r g hg,fun j x qs h1 h2=>⟨(hRd j x qs h1 h2).1.keep fun g hg=>hsame hsub r g (hg.elim id id),(hRd j x qs h1 h2).2⟩,hX.rel r (oldF w)⟩,
     Sub.gen [] r ⟨rfl,rfl,trivial⟩ ⟨rfl,rfl,rfl,rfl,rfl,rfl,rfl,rfl,trivial⟩ (by simp[ScH,Blk.scopd,At.sc]) (by simp[ScE,SV.sc,At.sc]) (by rfl) (fun lo hi h=>h)⟩
   clear hw hsub hPd hRd hX
   rintro⟨i,iv5,w5⟩ ⟨hi5,hw,hsub,hPd,hRd,hX⟩
   dsimp only at hi5 hw hsub hPd hRd hX ⊢
   conv=>whnf
   refine BrS.mk (fun hib=>?_) (fun hib=>?_)
   ·have hib:i<pv.length:=by simpa using hib
    obtain⟨p,hpi⟩:∃p,pv[i]? =some p:=⟨_,List.getElem?_eq_getElem hib⟩
    have hpd:pv.getD i 0=p:=by rw[List.getD,hpi];rfl
    have hpcol:=hpc p (List.mem_of_getElem? hpi)
    obtain⟨_,_,_,_,_,hpe,_,hpcell⟩:=id hPd
    injection hpe with hpe1 hpe2 hpe3
    subst hpe1 hpe3
    obtain⟨adp,rfl,kp1,kp2⟩:=hpcell i (.int .i64 (p:Int)) (by rw[List.getElem?_map,hpi];rfl)
    obtain⟨xr,hxr⟩:∃x,rv'[i]? =some x:=⟨_,List.getElem?_eq_getElem (by omega)⟩
    obtain⟨qs,hqs⟩:∃x,A[i]? =some x:=⟨_,List.getElem?_eq_getElem (by omega)⟩
    obtain⟨hRr,hql⟩:=hRd _ xr qs hxr hqs
    obtain⟨axr,cxr,hxe,hxc,-⟩:=hRr.shape
    rw[hql]at hxe hxc
    subst hxe
    obtain⟨q,hq⟩:∃q,qs[cols]? =some q:=⟨_,List.getElem?_eq_getElem (by omega)⟩
    have hat:at2 A i cols=q:=by
     have:A.getD i []=qs:=by rw[List.getD,hqs];rfl
     rw[at2,this,List.getD,hq];rfl
    obtain⟨adq,cs,rfl,hF,hl⟩:=hRr.load hq
    obtain⟨b3,a3,n3,c3,b4,a4,n4,c4,rfl,hF⟩:=hF
    conv=>whnf
    refine⟨adp,rfl,⟨by omega,by omega⟩,?_⟩
    conv=>whnf
    refine⟨.int .i64 (p:Int),fun ρ w' r=>?_,?_⟩
    ·rw[Int.toNat_natCast,Nat.mul_one,cell_of_heap (w:=w5) (w2:=w') (by rw[addB];exact hsame hsub r _ kp1)]
     exact kp2
    conv=>whnf
    refine⟨⟨by omega,by omega⟩,?_⟩
    conv=>whnf
    refine⟨.slice (some adq) (cols+1+M.length) cxr,by simpa using hxr,?_⟩
    conv=>whnf
    refine⟨adq,rfl,⟨by omega,by omega⟩,?_⟩
    conv=>whnf
    refine⟨[.bool b3,.slice a3 n3 c3,.bool b4,.slice a4 n4 c4],rfl,fun ρ w' r i x hx=>?_,?_⟩
    ·obtain⟨k1,k2⟩:=hl i x hx
     rw[Int.toNat_natCast,cell_of_heap (w:=w5) (w2:=w') (by rw[addB,addB];exact hsame hsub r _ k1)]
     exact k2
    conv=>whnf
    have hgx:∃g,ax=some ⟨g,0,none⟩:=by
     obtain⟨css,ho,_⟩:=hX.row
     rcases ho.2 with⟨_,h0⟩|⟨g,cap,cur,e,_⟩
     ·omega
     ·injection e with e;exact⟨g,e⟩
    obtain⟨gx,rfl⟩:=hgx
    refine⟨⟨gx,0,none⟩,rfl,⟨by omega,by omega⟩,?_⟩
    conv=>whnf
    intro ρ w' r
    obtain⟨_,hgx,h1,h2,h3,h4,h5⟩:=(hX.rel r (oldF w)).store hpcol (FracR.weak (FracR.keep hF fun g hg=>hsame hsub r g hg) fun g hg=>⟨hg.mono hsub,fun e=>hxo g e hg⟩) r (oldF w)
    injection hgx with hgx
    injection hgx with hgx
    subst hgx
    have hstep:∀g,Cv (fun _=>False) w.heap.size iv2 g→w'.heap[g]? =w5.heap[g]? :=fun g hg=>hsame hsub r g hg
    replace hPd:=IntsR.keep hPd hstep
    replace hRd:∀(j:Nat) x qs,rv'[j]? =some x→A[j]? =some qs→RowR w' (Cv (fun _=>False) w.heap.size iv2) (Cv (fun _=>False) w.heap.size iv2) x qs∧qs.length=cols+1+M.length:=fun j x qs h1 h2=>⟨(hRd j x qs h1 h2).1.keep fun g hg=>hstep g (hg.elim id id),(hRd j x qs h1 h2).2⟩
    have hold:∀g,Cv (fun _=>False) w.heap.size iv5 g→g<w'.heap.size:=Rel.old r (oldF w)
    replace hw:=hw.tr r.bel
    clear r hX hRr hF hl hstep kp1 kp2 hpcell
    refine⟨h1,h2,h3,fun w2 hw2=>?_⟩
    obtain⟨hX,hgr,-⟩:=h5 w2 hw2
    replace hw:Bel w.heap.size w w2:=hw.tr (Bel.grown hgr (fun g hg=>by injection hg with hg;subst hg;exact hxB gx rfl) (by have:=hw.size;omega))
    have hstep:∀g,Cv (fun _=>False) w.heap.size iv2 g→w2.heap[g]? =w'.heap[g]? :=fun g hg=>hgr.block g (hold g (hg.mono hsub)) fun e=>by injection e with e;subst e;exact hxo _ rfl hg
    replace hPd:=IntsR.keep hPd hstep
    replace hRd:∀(j:Nat) x qs,rv'[j]? =some x→A[j]? =some qs→RowR w2 (Cv (fun _=>False) w.heap.size iv2) (Cv (fun _=>False) w.heap.size iv2) x qs∧qs.length=cols+1+M.length:=fun j x qs h1 h2=>⟨(hRd j x qs h1 h2).1.keep fun g hg=>hstep g (hg.elim id id),(hRd j x qs h1 h2).2⟩
    clear h1 h2 h3 h4 h5 hw2 hgr hold hstep
    rw[←hat,←hpd,←xvecTo_succ]at hX
    conv=>whnf
    refine⟨((i+1:Nat):Int),by rw[wrap64]<;>omega,?_⟩
    conv=>whnf
    intro ρ3 w6 r3
    exact⟨(i+1,iv5,w6),⟨hib,hw.tr r3.bel,hsub,IntsR.keep hPd fun g hg=>hsame hsub r3 g hg,fun j x qs h1 h2=>⟨(hRd j x qs h1 h2).1.keep fun g hg=>hsame hsub r3 g (hg.elim id id),(hRd j x qs h1 h2).2⟩,hX.rel r3 (oldF w)⟩,
     Sub.gen [] r3 ⟨rfl,rfl,trivial⟩ ⟨rfl,rfl,rfl,rfl,rfl,rfl,rfl,rfl,trivial⟩ (by simp[ScH,Blk.scopd,At.sc]) (by simp[ScE,SV.sc,At.sc]) (by rfl) (fun lo hi h=>h),by dsimp only;omega⟩
   ·have hib:i=pv.length:=by
     have:¬i<pv.length:=by simpa using hib
     omega
    subst hib
    have hxR:=hX.read
    clear hX
    conv=>whnf
    refine callE_free (Φ:=fun ρ w' v w2=>MatR w2 (Nw (fun g=>Cv (fun _=>False) w.heap.size iv2 g∨g=(ρ 1).g) w' w2) v (kernelTo A pv cols cols)) (H':=[(0,.box T.solved [.v (.slice none 0 0),.v (.slice none 0 0),.v (.slice none 0 0)])]) 1 rfl (by simp) ⟨rfl,trivial⟩ rfl (fun ρ w' r=>r.nn 1 _ rfl (by intros;simp) (by simp)) (fun ρ w' r=>?_) ?_
    ·have hlow:=r.low 1 _ rfl (r.nn 1 _ rfl (by intros;simp) (by simp))
     have ha:=r.arrSeq (id:=1) (sz:=1) (n:=M.length) rfl (by rw[hrvl',Nat.mul_one]) (by unfold maxLen;omega) (fun u hu=>by
      obtain⟨i,hi⟩:=List.getElem?_of_mem hu
      obtain⟨a,cc,e,_⟩:=((hRd i u _ hi (List.getElem?_eq_getElem (by rw[hAl,←hrvl'];exact(List.getElem?_eq_some_iff.1 hi).1))).1).shape
      rw[e]
      rfl)
     refine kernel_c (n:=cols+1+M.length) (fun g hg=>?_) (⟨rv',?_,by rw[hrvl',hAl],fun i x qs h1 h2=>?_⟩:MatR w' _ _ A) (IntsR.weak (IntsR.keep hPd fun g hg=>hsame hsub r g hg) fun g hg=>.inl hg) (fun rr hrr=>?_) (by omega) (by omega) (by omega) (by omega) hpc
     ·rcases hg with hg|rfl
      ·exact Rel.old r (oldF w) g (hg.mono hsub)
      ·exact hlow.2
     ·rw[hAl]
      exact ha.weak fun g hg=>.inr hg
     ·exact((hRd i x qs h1 h2).1.keep fun g hg=>hsame hsub r g (hg.elim id id)).weak (fun g hg=>.inl hg) fun g hg=>.inl hg
     ·obtain⟨i,hi⟩:=List.getElem?_of_mem hrr
      have hil:=(List.getElem?_eq_some_iff.1 hi).1
      exact(hRd i rv'[i] rr (List.getElem?_eq_getElem (by omega)) hi).2
    rintro ρ wa vk wb r he hb hkR
    have hlow:=r.low 1 _ rfl (r.nn 1 _ rfl (by intros;simp) (by simp))
    have hk2:MatR wb (Cv (fun _=>False) w.heap.size (((ρ 1).g,(ρ 1).g+1)::(wa.heap.size,wb.heap.size)::iv5)) vk (kernelTo A pv cols cols):=MatR.weak hkR fun g hg=>by
     rcases hg with(hg|rfl)|hg
     ·exact(hg.mono hsub).cons.cons
     ·exact .inr ⟨hlow.1,_,_,List.mem_cons_self,by omega,by omega⟩
     ·exact .inr ⟨by have:=r.baseLe;omega,_,_,List.mem_cons_of_mem _ List.mem_cons_self,hg.1,hg.2⟩
    have hx2:RowR wb (Cv (fun _=>False) w.heap.size (((ρ 1).g,(ρ 1).g+1)::(wa.heap.size,wb.heap.size)::iv5)) (Cv (fun _=>False) w.heap.size (((ρ 1).g,(ρ 1).g+1)::(wa.heap.size,wb.heap.size)::iv5)) (.slice ax cols cx) (xvecTo A pv cols pv.length):=
     (hxR.keep fun g hg=>by rw[he.block g (Rel.old r (oldF w) g (hg.elim id id)),Rel.same r (oldF w) (hg.elim id id)]).weak (fun g hg=>hg.cons.cons) fun g hg=>hg.cons.cons
    replace hw:=hw.tr hb
    clear r he hb hkR hxR hRd hPd hlow
    generalize ((ρ 1).g,(ρ 1).g+1)::(wa.heap.size,wb.heap.size)::iv5=iv6 at*
    obtain⟨ak,ck,rfl,-⟩:=SlicesR.shape hk2
    conv=>whnf
    intro ρe we re
    exact⟨_,rfl,hw.tr re.bel,A,pv,hApv,.inr ⟨_,_,hz2,rfl,(hx2.rel re (oldF w) (oldF w)).weak (fun g hg=>Cv.nw hg re) (fun g hg=>Cv.nw hg re),MatR.out hk2 re (oldF w)⟩⟩
end Go.Ex
