/- A part of the proof: texts X32 to X38. Each tells its conditions in its theorems. -/
import Derived.Test.YtneljlhlncjkhaaGreatDoorP6
/- Matrices of fractions in memory. No condition. -/
namespace Go.Ex
open Go Go.Sx Go.Proofs

/-- a matrix: its rows lie apart; their limbs lie in S -/
structure MatW(w:World)(S:Nat→Prop)(vm:Value)(rv:List Value)(n:Nat)(M:List (List Rat)):Prop where
 out:w.ownsRow 0 T.row 1 vm rv.length rv
 len:rv.length=M.length
 row:∀(i:Nat) v qs,rv[i]? =some v→M[i]? =some qs→∃css,w.ownsRow 0 T.fraction 4 v n css.flatten∧css.length=n∧Fr w S css qs
 dis:∀(i j:Nat) a b g,rv[i]? =some a→rv[j]? =some b→a.ownBlock=some g→b.ownBlock=some g→i=j
 offm:∀v∈rv,∀g,v.ownBlock=some g→vm.ownBlock≠some g
/-- the blocks of a matrix -/
def Mb(vm:Value)(rv:List Value)(g:Nat):Prop:=vm.ownBlock=some g∨∃v∈rv,v.ownBlock=some g
/-- all but some blocks is as it was -/
structure Kept(w w2:World)(X:Nat→Prop):Prop where
 os:w2.os=w.os
 tape:w2.tape=w.tape
 output:w2.output=w.output
 size:w.heap.size≤w2.heap.size
 block:∀k,k<w.heap.size→¬X k→w2.heap[k]? =w.heap[k]?
section
variable{S S' X:Nat→Prop}{H:Hp}{nx n:Nat}{iv iv':Iv}{B:Nat}{w w' w2 w3:World}{ρ:Nat→Sx.Val}{vm:Value}{rv:List Value}{M:List (List Rat)}
theorem Kept.refl:Kept w w X:=⟨rfl,rfl,rfl,Nat.le_refl _,fun _ _ _=>rfl⟩
theorem Kept.bel(h:Bel B w2 w3)(k:Kept w w2 X)(hB:w.heap.size≤B):Kept w w3 X:=
 ⟨h.os.trans k.os,h.tape.trans k.tape,h.output.trans k.output,Nat.le_trans k.size h.size,fun j hj hx=>(h.block j (by omega)).trans (k.block j hj hx)⟩
theorem Kept.row{row:Option Nat}(h:Kept w w2 X)(k:w2.grownBy w3 row)(hX:∀g,row=some g→X g):Kept w w3 X:=
 ⟨k.os.trans h.os,k.tape.trans h.tape,k.output.trans h.output,Nat.le_trans h.size k.size,fun j hj hx=>(k.block j (Nat.lt_of_lt_of_le hj h.size) (fun e=>hx (hX j e.symm))).trans (h.block j hj hx)⟩
theorem MatW.keep(h:MatW w S vm rv n M)(hk:∀g,S g∨Mb vm rv g→w2.heap[g]? =w.heap[g]?):MatW w2 S vm rv n M:=by
 refine⟨ownsRow.keep h.out fun g hg=>hk g (.inr (.inl hg)),h.len,fun i v qs h1 h2=>?_,h.dis,h.offm⟩
 obtain⟨css,h3,h4,h5⟩:=h.row i v qs h1 h2
 exact⟨css,ownsRow.keep h3 fun g hg=>hk g (.inr (.inr ⟨v,List.mem_of_getElem? h1,hg⟩)),h4,h5.keep fun g hg=>hk g (.inl hg)⟩
theorem MatW.weak(h:MatW w S vm rv n M)(hk:∀g,S g→S' g):MatW w S' vm rv n M:=
 ⟨h.out,h.len,fun i v qs h1 h2=>(h.row i v qs h1 h2).imp fun _ h=>⟨h.1,h.2.1,h.2.2.weak hk⟩,h.dis,h.offm⟩
theorem MatW.low(h:MatW w S vm rv n M):∀g,Mb vm rv g→g<w.heap.size:=fun g hg=>by
 rcases hg with hg|⟨v,hv,hg⟩
 ·exact(ownsRow.low h.out g hg).2
 ·obtain⟨i,hi⟩:=List.getElem?_of_mem hv
  have hl:=(List.getElem?_eq_some_iff.1 hi).1
  obtain⟨css,h1,_⟩:=h.row i v _ hi (List.getElem?_eq_getElem (by rw[←h.len];exact hl))
  exact(ownsRow.low h1 g hg).2
theorem MatW.rel(h:MatW w (Cv S B iv) vm rv n M)(r:Rel H nx iv B w ρ w')(hS:∀g,S g→g<B)(hm:∀g,Mb vm rv g→g<B):MatW w' (Cv S B iv) vm rv n M:=
 h.keep fun _ hg=>hg.elim (Rel.same r hS) (fun hg=>Rel.same (S:=fun g=>g<B) r (fun _ h=>h) (.inl (hm _ hg)))
theorem MatW.past(h:MatW w (Cv S B iv) vm rv n M)(r:Rel H nx iv B w ρ w')(hS:∀g,S g→g<B)(hm:∀g,Mb vm rv g→g<B)(he:Ext w' w2)(hi:∀p,p∈iv→p∈iv'):MatW w2 (Cv S B iv') vm rv n M:=
 ((h.rel r hS hm).keep fun g hg=>he.block g (hg.elim (Rel.old r hS g) (fun hg=>by have:=hm g hg;have:=r.baseLe;omega))).weak fun _ hg=>hg.mono hi
/-- a row is set -/
theorem MatW.setRow(h:MatW w S vm rv n M)(hS:Old S w)(hoff:∀g,S g→¬Mb vm rv g){i:Nat}{v:Value}{qs':List Rat}(hv:rv[i]? =some v)(hg:w.grownBy w2 v.ownBlock)(hSS:∀g,S g→S' g)
  (hrow:∃css,w2.ownsRow 0 T.fraction 4 v n css.flatten∧css.length=n∧Fr w2 S' css qs'):MatW w2 S' vm rv n (M.set i qs'):=by
 have hlow:=h.low
 have hother:∀g,g<w.heap.size→v.ownBlock≠some g→w2.heap[g]? =w.heap[g]? :=fun g h1 h2=>hg.block g h1 (Ne.symm h2)
 refine⟨ownsRow.keep h.out fun g hgm=>hother g (hlow g (.inl hgm)) (fun e=>h.offm v (List.mem_of_getElem? hv) g e hgm),by rw[h.len];simp,fun j u qs h1 h2=>?_,h.dis,h.offm⟩
 by_cases hij:i=j
 ·subst hij
  rw[hv]at h1
  injection h1 with h1
  subst h1
  have hl:=(List.getElem?_eq_some_iff.1 hv).1
  rw[List.getElem?_set_self (by rw[←h.len];exact hl)]at h2
  injection h2 with h2
  subst h2
  exact hrow
 ·rw[List.getElem?_set_ne hij]at h2
  obtain⟨css,h3,h4,h5⟩:=h.row j u qs h1 h2
  refine⟨css,ownsRow.keep h3 fun g hgu=>hother g (ownsRow.low h3 g hgu).2 (fun e=>hij (h.dis i j v u g hv h1 e hgu)),h4,(h5.keep fun g hgs=>?_).weak hSS⟩
  exact hother g (hS g hgs) fun e=>hoff g hgs (.inr ⟨v,List.mem_of_getElem? hv,e⟩)
/-- rows are exchanged -/
theorem MatW.swap(h:MatW w S vm rv n M)(hoff:∀g,S g→¬Mb vm rv g){i j:Nat}{a b:Value}(hi:rv[i]? =some a)(hj:rv[j]? =some b)(hout:w2.ownsRow 0 T.row 1 vm rv.length ((rv.set i b).set j a))(hother:∀g,S g∨Mb vm rv g→vm.ownBlock≠some g→w2.heap[g]? =w.heap[g]?):
  MatW w2 S vm ((rv.set i b).set j a) n (swapL [] M i j):=by
 have hli:=(List.getElem?_eq_some_iff.1 hi).1
 have hlj:=(List.getElem?_eq_some_iff.1 hj).1
 have hmi:M.getD i []=M[i]'(by rw[←h.len];exact hli):=by rw[List.getD,List.getElem?_eq_getElem (by rw[←h.len];exact hli)];rfl
 have hmj:M.getD j []=M[j]'(by rw[←h.len];exact hlj):=by rw[List.getD,List.getElem?_eq_getElem (by rw[←h.len];exact hlj)];rfl
 -- where an element of the new lists was
 have key:∀k v qs,((rv.set i b).set j a)[k]? =some v→(swapL [] M i j)[k]? =some qs→∃k',rv[k']? =some v∧M[k']? =some qs∧k'=(if k=j then i else if k=i then j else k):=by
  intro k v qs h1 h2
  unfold swapL at h2
  rw[hmi,hmj]at h2
  by_cases hkj:j=k
  ·subst hkj
   rw[List.getElem?_set_self (by simp;exact hlj)]at h1
   rw[List.getElem?_set_self (by simp;rw[←h.len];exact hlj)]at h2
   injection h1 with h1;injection h2 with h2
   subst h1 h2
   exact⟨i,hi,List.getElem?_eq_getElem _,by simp⟩
  ·rw[List.getElem?_set_ne hkj]at h1 h2
   by_cases hki:i=k
   ·subst hki
    rw[List.getElem?_set_self hli]at h1
    rw[List.getElem?_set_self (by rw[←h.len];exact hli)]at h2
    injection h1 with h1;injection h2 with h2
    subst h1 h2
    exact⟨j,hj,List.getElem?_eq_getElem _,by rw[if_neg (Ne.symm hkj),if_pos rfl]⟩
   ·rw[List.getElem?_set_ne hki]at h1 h2
    exact⟨k,h1,h2,by rw[if_neg (Ne.symm hkj),if_neg (Ne.symm hki)]⟩
 have hlen:((rv.set i b).set j a).length=rv.length:=by simp
 have hlenM:(swapL [] M i j).length=rv.length:=by rw[swapL_length,h.len]
 have keyv:∀k v,((rv.set i b).set j a)[k]? =some v→∃k',rv[k']? =some v∧k'=(if k=j then i else if k=i then j else k):=fun k v h1=>by
  have hl:=(List.getElem?_eq_some_iff.1 h1).1
  obtain⟨k',h2,_,h3⟩:=key k v _ h1 (List.getElem?_eq_getElem (by rw[hlenM,←hlen];exact hl))
  exact⟨k',h2,h3⟩
 refine⟨by rw[hlen];exact hout,by rw[hlen,hlenM],fun k v qs h1 h2=>?_,fun k1 k2 v1 v2 g h1 h2 e1 e2=>?_,fun v hv g hgv=>?_⟩
 ·obtain⟨k',h3,h4,_⟩:=key k v qs h1 h2
  obtain⟨css,h5,h6,h7⟩:=h.row k' v qs h3 h4
  have hvm:=h.offm v (List.mem_of_getElem? h3)
  exact⟨css,ownsRow.keep h5 fun g hgu=>hother g (.inr (.inr ⟨v,List.mem_of_getElem? h3,hgu⟩)) (hvm g hgu),h6,h7.keep fun g hgs=>hother g (.inl hgs) fun e=>hoff g hgs (.inl e)⟩
 ·obtain⟨k3,h3,h4⟩:=keyv k1 v1 h1
  obtain⟨k5,h5,h6⟩:=keyv k2 v2 h2
  have:=h.dis k3 k5 v1 v2 g h3 h5 e1 e2
  split at h4<;>split at h6<;>(try split at h4)<;>(try split at h6)<;>omega
 ·obtain⟨k,hk⟩:=List.getElem?_of_mem hv
  obtain⟨k',h3,_⟩:=keyv k v hk
  exact h.offm v (List.mem_of_getElem? h3) g hgv
theorem Mb.swap{i j:Nat}{a b:Value}(hi:rv[i]? =some a)(hj:rv[j]? =some b){g:Nat}:Mb vm ((rv.set i b).set j a) g↔Mb vm rv g:=by
 have hli:=(List.getElem?_eq_some_iff.1 hi).1
 have hlj:=(List.getElem?_eq_some_iff.1 hj).1
 unfold Mb
 refine or_congr Iff.rfl ⟨fun ⟨v,hv,h⟩=>⟨v,?_,h⟩,fun⟨v,hv,h⟩=>⟨v,?_,h⟩⟩
 ·rcases List.mem_or_eq_of_mem_set hv with h1|h1
  ·rcases List.mem_or_eq_of_mem_set h1 with h2|h2
   ·exact h2
   ·rw[h2];exact List.mem_of_getElem? hj
  ·rw[h1];exact List.mem_of_getElem? hi
 ·obtain⟨k,hk⟩:=List.getElem?_of_mem hv
  by_cases hkj:k=j
  ·subst hkj
   rw[hj]at hk
   injection hk with hk
   subst hk
   by_cases hik:i=k
   ·subst hik
    rw[hi]at hj
    injection hj with hj
    subst hj
    exact List.mem_of_getElem? (i:=i) (by rw[List.getElem?_set_self (by simp;exact hli)])
   ·exact List.mem_of_getElem? (i:=i) (by rw[List.getElem?_set_ne (Ne.symm hik),List.getElem?_set_self hli])
  ·by_cases hki:k=i
   ·subst hki
    rw[hi]at hk
    injection hk with hk
    subst hk
    exact List.mem_of_getElem? (i:=j) (by rw[List.getElem?_set_self (by simp;exact hlj)])
   ·exact List.mem_of_getElem? (i:=k) (by rw[List.getElem?_set_ne (Ne.symm hkj),List.getElem?_set_ne (Ne.symm hki)];exact hk)
end
end Go.Ex
namespace Go.Sx
open Go Go.Ex Go.Proofs
/-- the very world becomes the named one, when a row that is held raw was written and new blocks were made -/
theorem Rel.rowedNew{H:Hp}{nx:Nat}{iv:Iv}{B:Nat}{w w' w2:World}{ρ:Nat→Sx.Val}{row:Option Nat}(r:Rel H nx iv B w ρ w')(hne:∀g,row=some g→∀id b,getH H id=some b→(ρ id).nil=false→(ρ id).g≠g)(h:w'.grownBy w2 row):Rel H nx ((w'.heap.size,w2.heap.size)::iv) B w2 ρ w2:=
 r.moved h.size (fun id b hb hn=>h.block _ (r.low id b hb hn).2 fun e=>hne _ e.symm id b hb hn rfl) fun lo hi hm=>by
  rcases List.mem_cons.1 hm with e|hm
  ·injection e with e1 e2
   subst e1 e2
   exact⟨Nat.le_refl _,fun id b hb hn=>by have:=(r.low id b hb hn).2;omega⟩
  ·exact⟨by have:=r.ivs lo hi hm;have:=r.size;have:=h.size;omega,fun id b hb hn=>r.prot lo hi hm id b hb hn⟩
end Go.Sx
namespace Go.Ex
open Go Go.Sx Go.Proofs
end Go.Ex

/- Elimination in memory. No condition but sizes. -/
namespace Go.Ex
open Go Go.Sx Go.Proofs

end Go.Ex
namespace Go.Sx
open Go Go.Ex Go.Proofs
theorem Sub.nil{B nx:Nat}{l:Env}{H:Hp}{iv:Iv}{w w':World}{ρ:Nat→Sx.Val}{t:LoopI}(u e sz:Nat)(h9:getE l u=some (.o (.v (.slice none 0 0))))(hsc:ScE nx l)(r:Rel H nx iv B w ρ w')
  (h:∀ρ1,Rel ((nx,.vec e sz [])::H) (nx+1) iv B w ρ1 w'→Sx.Sub B ((u,.o (.w nx 0))::l) (nx+1) ρ1 w' t):Sx.Sub B l nx ρ w' t:=by
 have r1:=r.push (.vec e sz []) ⟨0,0,true⟩ (w2:=w') rfl rfl rfl (Nat.le_refl _) (fun _ _=>rfl) (fun h=>by cases h) (.inl ⟨rfl,rfl⟩) trivial
 obtain⟨ρ',h1,h2⟩:=h _ r1
 refine⟨ρ',h1,fun x v hv=>?_⟩
 obtain⟨h3,v0,h4,h5⟩:=h2 x v hv
 refine⟨h3,?_⟩
 rw[getE_cons]at h4
 split at h4
 ·rename_i e;subst e
  injection h4 with h4
  subst h4
  refine⟨_,h9,?_⟩
  rw[←h5]
  simp[SV.den,At.den,upd_same]
 ·refine⟨v0,h4,?_⟩
  rw[←h5]
  exact SV.den_congr (fun id hid=>upd_lt id hid) (hsc.get _ _ h4)
end Go.Sx
namespace Go.Ex
open Go Go.Sx Go.Proofs

theorem cellOut{H:Hp}{nx:Nat}{iv:Iv}{B:Nat}{w w':World}{ρ:Nat→Sx.Val}{a:Addr}{x:Value}(h:w.cell? a=some x)(hb:Out B iv a.block)(r:Rel H nx iv B w ρ w'):w'.cell? a=some x:=by
 rw[cell_of_heap (Rel.same r (fun _ h=>h) hb)];exact h
/-- an element of a matrix -/
structure ElemW(w:World)(S:Nat→Prop)(rv:List Value)(n:Nat)(M:List (List Rat))(gm k c g ck:Nat)(q:Rat)(d1:Bool)(e1:Option Addr)(m1 k1:Nat)(d2:Bool)(e2:Option Addr)(m2 k2:Nat):Prop where
 rv:rv[k]? =some (.slice (some ⟨g,0,none⟩) n ck)
 at_:at2 M k c=q
 frac:FracR w S (.agg #[.bool d1,.slice e1 m1 k1,.bool d2,.slice e2 m2 k2]) q
 outer:w.cell? (Addr.add ⟨gm,0,none⟩ (k*1))=some (.slice (some ⟨g,0,none⟩) n ck)
 cells:∀j u,[Value.bool d1,.slice e1 m1 k1,.bool d2,.slice e2 m2 k2][j]? =some u→w.cell? ((Addr.add ⟨g,0,none⟩ (c*4)).add j)=some u
theorem MatW.outer{w:World}{S:Nat→Prop}{am:Option Addr}{R cm n:Nat}{rv:List Value}{M:List (List Rat)}{k:Nat}{v:Value}(h:MatW w S (.slice am R cm) rv n M)(hk:rv[k]? =some v):
  ∃gm,am=some ⟨gm,0,none⟩∧w.cell? (Addr.add ⟨gm,0,none⟩ (k*1))=some v:=by
 rcases h.out.2 with⟨h1,h0⟩|⟨gm,cap,cur,e,_⟩
 ·have:=(List.getElem?_eq_some_iff.1 hk).1;omega
 ·injection e with e1 e2 e3
  refine⟨gm,e1,?_⟩
  have:=h.out.cells (g:=gm) (by rw[e1];rfl) k v hk
  rw[Nat.mul_one]
  exact this
theorem MatW.elem{w:World}{S:Nat→Prop}{am:Option Addr}{R cm n:Nat}{rv:List Value}{M:List (List Rat)}(h:MatW w S (.slice am R cm) rv n M){k c:Nat}(hk:k<rv.length)(hc:c<n):
  ∃gm g ck q d1 e1 m1 k1 d2 e2 m2 k2,am=some ⟨gm,0,none⟩∧ElemW w S rv n M gm k c g ck q d1 e1 m1 k1 d2 e2 m2 k2:=by
 obtain⟨v,hv⟩:∃v,rv[k]? =some v:=⟨_,List.getElem?_eq_getElem hk⟩
 obtain⟨qs,hqs⟩:∃qs,M[k]? =some qs:=⟨_,List.getElem?_eq_getElem (by rw[←h.len];exact hk)⟩
 obtain⟨css,hrow,hcl,hfr⟩:=h.row k v qs hv hqs
 obtain⟨a,ck,rfl,_⟩:=row_form hrow
 obtain⟨cs,hcs⟩:∃cs,css[c]? =some cs:=⟨_,List.getElem?_eq_getElem (by omega)⟩
 obtain⟨q,hq⟩:∃q,qs[c]? =some q:=⟨_,List.getElem?_eq_getElem (by rw[←hfr.1];omega)⟩
 obtain⟨g,rfl,hload⟩:=rowLoad4 hrow hfr hcs
 obtain⟨d1,e1,m1,k1,d2,e2,m2,k2,rfl,hF⟩:=hfr.2 c cs q hcs hq
 obtain⟨gm,rfl,ho⟩:=h.outer hv
 exact⟨gm,g,ck,q,d1,e1,m1,k1,d2,e2,m2,k2,rfl,hv,by simp[at2,List.getD,hqs,hq],hF,ho,hload⟩

theorem set_one{α:Type}{xs:List α}{j:Nat}{v:α}(h:j<xs.length):xs.take (j*1)++[v]++xs.drop (j*1+1)=xs.set j v:=by
 rw[Nat.mul_one,List.set_eq_take_append_cons_drop,if_pos h]
 simp
/-- a row of a matrix is only read -/
theorem MatW.rowR{w:World}{S:Nat→Prop}{vm:Value}{rv:List Value}{n:Nat}{M:List (List Rat)}(h:MatW w S vm rv n M){k:Nat}{v:Value}{qs:List Rat}(hv:rv[k]? =some v)(hq:M[k]? =some qs)(hn:n≤maxLen):
  RowR w (fun g=>v.ownBlock=some g) S v qs∧qs.length=n:=by
 obtain⟨css,h1,h2,h3⟩:=h.row k v qs hv hq
 have hl:qs.length=n:=by rw[←h3.1,h2]
 refine⟨⟨css,?_,h3⟩,hl⟩
 rw[hl]
 rcases h1.2 with⟨rfl,rfl⟩|⟨g,cap,cur,rfl,hb,hc,hmc,hcap,hsz,htake⟩
 ·refine⟨hn,h1.1,h3.one,none,0,rfl,Nat.le_refl _,fun j u hu=>?_⟩
  have:=h1.1
  rw[Nat.zero_mul]at this
  rw[List.eq_nil_of_length_eq_zero this]at hu
  cases hu
 ·refine⟨hn,h1.1,h3.one,_,cap,rfl,hmc,fun j u hu=>⟨_,rfl,rfl,?_⟩⟩
  exact h1.cells (g:=g) rfl j u hu

theorem reduce_c{S:Nat→Prop}{w:World}{vm:Value}{rv:List Value}{n cols h0:Nat}{M:List (List Rat)}(hS:Old S w)(hM:MatW w S vm rv n M)(hoff:∀g,S g→¬Mb vm rv g)(hn:n≤1000000)(hR:M.length≤1000000)(hcols:cols≤n)
  (hht:Ht M h0) (h2:2≤h0) (hb:4^M.length*h0≤500000000):
  Con PG N.exact_reduce #[vm,.int .i64 cols] w (fun e w2=>∃v rv',e= .returned v∧Kept w w2 (Mb vm rv)∧MatW w2 (Nw S w w2) vm rv' n (reduceF M cols).1∧(∀g,Mb vm rv' g↔Mb vm rv g)∧
   SeqR w2 (Nw (fun _=>False) w w2) 1 v ((reduceF M cols).2.map fun c:Nat=>.int .i64 (c:Int)) (reduceF M cols).2.length):=by
 have hlow:=hM.low
 have hMbOut:∀iv g,Mb vm rv g→Out w.heap.size iv g:=fun iv g hg=>.inl (hlow g hg)
 have hoff2:∀iv g,Cv S w.heap.size iv g→¬Mb vm rv g:=fun iv g h hg=>by
  rcases h with h|⟨h,_⟩
  ·exact hoff g h hg
  ·have:=hlow g hg;omega
 obtain⟨am,cm,rfl,hcm⟩:=row_form hM.out
 have hlen:=hM.len
 generalize hRdef:rv.length=R at*
 have hMl:=hlen
 replace hM:=hM.weak (S':=Cv S w.heap.size []) fun _ h=>.inl h
 refine in_exact_reduce (by simp) ?_
 conv=>whnf
 refine⟨Nat×List Value×List (List Rat)×List Nat×Iv×World,fun z=>⟨[(0,.o (.v (.slice am R cm))),(1,.o (.v (.int .i64 cols))),(5,.o (.w 0 z.2.2.2.1.length)),(6,.o (.v (.int .i64 z.1)))],
   [(0,.vec T.int 1 (z.2.2.2.1.map fun c:Nat=>.int .i64 (c:Int)))],1,z.2.2.2.2.1,z.2.2.2.2.2⟩,fun z=>cols-z.1,
  fun z=>z.1≤cols∧Kept w z.2.2.2.2.2 (Mb (.slice am R cm) rv)∧MatW z.2.2.2.2.2 (Cv S w.heap.size z.2.2.2.2.1) (.slice am R cm) z.2.1 n z.2.2.1∧(∀g,Mb (.slice am R cm) z.2.1 g↔Mb (.slice am R cm) rv g)∧
   z.2.1.length=R∧(z.2.2.1,z.2.2.2.1)=(List.range z.1).foldl stepF (M,[])∧z.2.2.2.1.length≤R∧Ht z.2.2.1 (4^z.2.2.2.1.length*h0),?_,?_⟩
 ·intro ρ w' r
  refine⟨(0,rv,M,[],[],w'),⟨by simp,Kept.refl.bel r.bel (Nat.le_refl _),hM.rel r hS hlow,fun g=>Iff.rfl,hRdef,rfl,by simp,by simpa using hht⟩,Sub.nil 5 T.int 1 rfl (by simp[ScE,SV.sc,At.sc,initE]) r fun ρ1 r1=>
   Sub.gen [] r1 ⟨rfl,trivial⟩ ⟨rfl,rfl,rfl,rfl,trivial⟩ (by simp[ScH,Blk.scopd]) (by simp[ScE,SV.sc,At.sc]) (by rfl) (by simp)⟩
 clear hM
 rintro⟨c,rv1,M1,pv,iv,w1⟩ ⟨hc,hK,hM,hMb,hrl,hfold,hpl,hht1⟩
 dsimp only at hc hK hM hMb hrl hfold hpl hht1 ⊢
 have hlM:M1.length=R:=by rw[←hM.len,hrl]
 have hfin:w1.ownsRow 0 T.row 1 (.slice am R cm) R rv1:=by have:=hM.out;rwa [hrl]at this
 have htot:cols≤c∨R≤pv.length→(M1,pv)=reduceF M cols:=fun h=>by
  unfold reduceF
  rcases h with h|h
  ·have:c=cols:=by omega
   rw[hfold,this]
  ·have h3:List.range cols=List.range c++(List.range (cols-c)).map (c+ ·):=by
    rw[←List.range_add];congr 1;omega
   rw[h3,List.foldl_append,←hfold,foldl_done (by simp only;omega)]
 conv=>whnf
 refine BrS.mk (fun h=>?_) (fun h=>?_)
 ·have h:c<cols:=by simpa using h
  conv=>whnf
  refine⟨by simp,?_⟩
  conv=>whnf
  refine BrS.mk (fun hp=>?_) (fun hp=>?_)
  ·have hp:pv.length<R:=by simpa using hp
   have hblk:∀{v:Value} {k gx:Nat},rv1[k]? =some v→v.ownBlock=some gx→Mb (.slice am R cm) rv gx:=fun h1 h2=>(hMb _).1 (.inr ⟨_,List.mem_of_getElem? h1,h2⟩)
   conv=>whnf
   refine⟨by simp,?_⟩
   conv=>whnf
   refine⟨Nat×Iv×World,fun z=>⟨[(0,.o (.v (.slice am R cm))),(1,.o (.v (.int .i64 cols))),(5,.o (.w 0 pv.length)),(6,.o (.v (.int .i64 c))),(7,.o (.v (.int .i64 pv.length))),(8,.o (.v (.int .i64 z.1)))],
     [(0,.vec T.int 1 (pv.map fun c:Nat=>.int .i64 (c:Int)))],1,z.2.1,z.2.2⟩,fun z=>R-z.1,
    fun z=>pv.length≤z.1∧z.1≤R∧Kept w z.2.2 (Mb (.slice am R cm) rv)∧MatW z.2.2 (Cv S w.heap.size z.2.1) (.slice am R cm) rv1 n M1∧findK M1 c (R-z.1) z.1=findK M1 c (R-pv.length) pv.length,?_,?_⟩
   ·intro ρ w' r
    exact⟨(pv.length,iv,w'),⟨Nat.le_refl _,by dsimp only;omega,hK.bel r.bel (Nat.le_refl _),hM.rel r hS (fun g hg=>hlow g ((hMb g).1 hg)),rfl⟩,
     Sub.gen [] r ⟨rfl,trivial⟩ ⟨rfl,rfl,rfl,rfl,rfl,rfl,trivial⟩ (by simp[ScH,Blk.scopd]) (by simp[ScE,SV.sc,At.sc]) (by rfl) (fun lo hi h=>h)⟩
   clear hK hM hfin
   rintro⟨k,iv2,w2⟩ ⟨hpk,hkR,hK,hM,hfk⟩
   dsimp only at hpk hkR hK hM hfk ⊢
   conv=>whnf
   refine BrS.mk (fun hk=>?_) (fun hk=>?_)
   ·have hk:k<R:=by simpa using hk
    obtain⟨gm,g,ck,q,d1,e1,m1,k1,d2,e2,m2,k2,rfl,hE⟩:=hM.elem (k:=k) (c:=c) (by omega) (by omega)
    have hgo:=hblk hE.rv rfl
    conv=>whnf
    refine⟨⟨gm,0,none⟩,rfl,⟨by omega,by omega⟩,?_⟩
    conv=>whnf
    refine⟨.slice (some ⟨g,0,none⟩) n ck,fun ρ w' r=>cellOut hE.outer (hMbOut _ _ (.inl (by rw[addB];rfl))) r,?_⟩
    conv=>whnf
    refine⟨⟨g,0,none⟩,rfl,⟨by omega,by omega⟩,?_⟩
    conv=>whnf
    refine⟨[.bool d1,.slice e1 m1 k1,.bool d2,.slice e2 m2 k2],rfl,fun ρ w' r j x hx=>cellOut (hE.cells j x hx) (hMbOut _ _ (by rw[addB,addB];exact hgo)) r,?_⟩
    conv=>whnf
    refine callE_S (callE_con (Φ:=fun _ _ v _=>v= .int .i64 (rs q)) (fun ρ w' r=>fsign_c (Rel.old r hS) (hE.frac.rel r hS)) ?_)
    rintro ρ wa v1 wb r he hbl rfl
    replace hM:=hM.past (iv':=(wa.heap.size,wb.heap.size)::iv2) r hS (fun g hg=>hlow g ((hMb g).1 hg)) he fun x hx=>List.mem_cons_of_mem _ hx
    replace hK:=hK.bel hbl (Nat.le_refl _)
    have hq:=hE.at_
    clear r he hbl hE hgo
    generalize (wa.heap.size,wb.heap.size)::iv2=iv3 at*
    conv=>whnf
    refine BrS.mk (fun h0=>?_) (fun h0=>?_)
    ·have h0:q=0:=by
      have:rs q=0:=eq_of_beq h0
      exact Rat.num_eq_zero.1 (Int.sign_eq_zero_iff_zero.1 this)
     have hnext:findK M1 c (R-(k+1)) (k+1)=findK M1 c (R-pv.length) pv.length:=by
      rw[←hfk,show R-k=(R-(k+1))+1 by omega,findK_step (by rw[hq,h0])]
     conv=>whnf
     refine⟨((k+1:Nat):Int),by rw[wrap64]<;>omega,?_⟩
     conv=>whnf
     intro ρ3 w3 r3
     exact⟨(k+1,iv3,w3),⟨by dsimp only;omega,hk,hK.bel r3.bel (Nat.le_refl _),hM.rel r3 hS (fun g hg=>hlow g ((hMb g).1 hg)),hnext⟩,
      Sub.gen [] r3 ⟨rfl,trivial⟩ ⟨rfl,rfl,rfl,rfl,rfl,rfl,trivial⟩ (by simp[ScH,Blk.scopd]) (by simp[ScE,SV.sc,At.sc]) (by rfl) (fun lo hi h=>h),by dsimp only;omega⟩
    ·have h0':q≠0:=fun e=>by rw[e]at h0;exact absurd h0 (by decide)
     clear h0
     have hfk2:findK M1 c (R-pv.length) pv.length=k:=by
      rw[←hfk,show R-k=(R-(k+1))+1 by omega,findK_stop (by rw[hq];exact h0')]
     conv=>whnf
     refine BrS.mk (fun hkk=>?_) (fun hkk=>?_)
     ·exact absurd (eq_of_beq hkk) (by omega)
     clear hkk
     conv=>whnf
     refine drawn_of_pi hτ hmix [.x 0,.x 1,.x 2,.x 3,.x 4,.x 5,.x 6,.x 7,.x 8,.x 9,.x 10,.x 11,.x 12,.x 13,.x 14,.x 15] (by kernel_rfl) (by kernel_rfl) ?_
     conv=>whnf
     obtain⟨vk,hvk⟩:∃v,rv1[k]? =some v:=⟨_,List.getElem?_eq_getElem (by omega)⟩
     obtain⟨va,hva⟩:∃v,rv1[pv.length]? =some v:=⟨_,List.getElem?_eq_getElem (by omega)⟩
     obtain⟨_,hgm,hok⟩:=hM.outer hvk
     injection hgm with hgm
     injection hgm with hgm
     subst hgm
     obtain⟨_,hgm,hoa⟩:=hM.outer hva
     injection hgm with hgm
     injection hgm with hgm
     subst hgm
     obtain⟨cssk,hrk,-,-⟩:=hM.row k vk M1[k] hvk (List.getElem?_eq_getElem (by omega))
     obtain⟨cssa,hra,-,-⟩:=hM.row pv.length va M1[pv.length] hva (List.getElem?_eq_getElem (by omega))
     obtain⟨ak,ck',rfl,-⟩:=row_form hrk
     obtain⟨aa,ca,rfl,-⟩:=row_form hra
     clear hrk hra
     have hgmo:∀{iv x},Out w.heap.size iv ((Addr.add ⟨gm,0,none⟩ x).block):=fun{iv x}=>hMbOut _ _ (.inl (by rw[addB];rfl))
     refine⟨⟨gm,0,none⟩,rfl,⟨by omega,by omega⟩,?_⟩
     conv=>whnf
     refine⟨.slice ak n ck',fun ρ w' r=>cellOut hok hgmo r,?_⟩
     conv=>whnf
     refine⟨⟨gm,0,none⟩,rfl,⟨by omega,by omega⟩,?_⟩
     conv=>whnf
     refine⟨.slice aa n ca,fun ρ w' r=>cellOut hoa hgmo r,?_⟩
     conv=>whnf
     refine⟨⟨gm,0,none⟩,rfl,⟨by omega,by omega⟩,?_⟩
     conv=>whnf
     intro ρ w' r
     have had1:(⟨gm,0,none⟩:Addr).add ((pv.length:Int).toNat*1)=⟨gm,pv.length*1,none⟩:=by rw[Int.toNat_natCast,addr_add,Nat.zero_add]
     have had2:(⟨gm,0,none⟩:Addr).add ((k:Int).toNat*1)=⟨gm,k*1,none⟩:=by rw[Int.toNat_natCast,addr_add,Nat.zero_add]
     have hMw:=hM.rel r hS (fun g hg=>hlow g ((hMb g).1 hg))
     obtain⟨g',hg',hok1,hst1,hgr1,hsz1⟩:=storeRow (nv:=[.slice ak n ck']) hMw.out (by rw[hrl]) (show pv.length<rv1.length by omega) rfl (by decide)
     injection hg' with hg'
     injection hg' with hg'
     subst hg'
     rw[set_one (by omega)]at hst1
     have hnot:=fun id b hb hn=>Rel.not (S:=fun g=>g<w.heap.size) r (fun _ h=>h) (hMbOut iv3 gm (.inl rfl)) id b hb hn
     have hgm1:gm<w'.heap.size:=by have:=hlow gm (.inl rfl);have:=r.baseLe;omega
     have hK1:Kept w (setCells w' ⟨gm,pv.length*1,none⟩ [.slice ak n ck']) (Mb (.slice (some ⟨gm,0,none⟩) R cm) rv):=(hK.bel r.bel (Nat.le_refl _)).row hgr1 (fun g hg=>.inl hg)
     have hold:∀g,Cv S w.heap.size iv3 g∨Mb (.slice (some ⟨gm,0,none⟩) R cm) rv1 g→g<w'.heap.size:=fun g hg=>hg.elim (Rel.old r hS g) (fun hg=>by have:=hlow g ((hMb g).1 hg);have:=r.baseLe;omega)
     clear hK hM hok hoa r
     refine⟨by rw[had1],fun j hj=>by rw[had1];exact hok1 j hj,fun id b hb hn=>by rw[had1];exact hnot id b hb hn,fun w4 hw4=>?_⟩
     have hw4:w4=setCells w' ⟨gm,pv.length*1,none⟩ [.slice ak n ck']:=by rw[hw4];exact congrArg (fun x=>setCells w' x _) had1
     rw[←hw4]at hK1 hst1 hgr1 hsz1
     clear hw4 hok1 hnot
     conv=>whnf
     refine⟨⟨gm,0,none⟩,rfl,⟨by omega,by omega⟩,?_⟩
     conv=>whnf
     intro ρ w5 r
     have hst2:=rowRel hst1 (fun g hg=>hMbOut iv3 g (.inl hg)) r
     obtain⟨g',hg',hok2,hst3,hgr2,hsz2⟩:=storeRow (nv:=[.slice aa n ca]) hst2 (by rw[hrl]) (show k<rv1.length by omega) rfl (by decide)
     injection hg' with hg'
     injection hg' with hg'
     subst hg'
     rw[set_one (by simp;omega)]at hst3
     have hnot:=fun id b hb hn=>Rel.not (S:=fun g=>g<w.heap.size) r (fun _ h=>h) (hMbOut iv3 gm (.inl rfl)) id b hb hn
     have hK2:Kept w (setCells w5 ⟨gm,k*1,none⟩ [.slice aa n ca]) (Mb (.slice (some ⟨gm,0,none⟩) R cm) rv):=(hK1.bel r.bel (Nat.le_refl _)).row hgr2 (fun g hg=>.inl hg)
     have hother:∀g,Cv S w.heap.size iv3 g∨Mb (.slice (some ⟨gm,0,none⟩) R cm) rv1 g→(Value.slice (some ⟨gm,0,none⟩) R cm).ownBlock≠some g→(setCells w5 ⟨gm,k*1,none⟩ [.slice aa n ca]).heap[g]? =w'.heap[g]? :=fun g hg hne=>by
      have hne2:some g≠some gm:=fun e=>hne e.symm
      have h3:w4.heap[g]? =w'.heap[g]? :=hgr1.block g (hold g hg) hne2
      have h4:w5.heap[g]? =w4.heap[g]? :=hg.elim (fun hg=>Rel.same r hS hg) (fun hg=>Rel.same (S:=fun g=>g<w.heap.size) r (fun _ h=>h) (hMbOut iv3 g ((hMb g).1 hg)))
      have h5:=hgr2.block g (by have:=hold g hg;have:=r.size;omega) hne2
      rw[h5,h4,h3]
     have hM2:=hMw.swap (fun g hg hm=>hoff2 iv3 g hg ((hMb g).1 hm)) hva hvk hst3 hother
     have hMb2:∀g,Mb (.slice (some ⟨gm,0,none⟩) R cm) ((rv1.set pv.length (.slice ak n ck')).set k (.slice aa n ca)) g↔Mb (.slice (some ⟨gm,0,none⟩) R cm) rv g:=fun g=>(Mb.swap hva hvk).trans (hMb g)
     have hrl2:((rv1.set pv.length (.slice ak n ck')).set k (.slice aa n ca)).length=R:=by simp[hrl]
     clear hK1 hMw hst1 hst2 r hother hold hgr1 hst3 hblk
     refine⟨by rw[had2],fun j hj=>by rw[had2];exact hok2 j hj,fun id b hb hn=>by rw[had2];exact hnot id b hb hn,fun w6 hw6=>?_⟩
     have hw6:w6=setCells w5 ⟨gm,k*1,none⟩ [.slice aa n ca]:=by rw[hw6];exact congrArg (fun x=>setCells w5 x _) had2
     rw[←hw6]at hK2 hM2
     clear hw6 hok2 hnot hgr2 hsz2 hsz1
     have hat:at2 (swapL [] M1 pv.length k) pv.length c=q:=by rw[at2_swap (by omega) (by omega),hq]
     have hht2:=hht1.swap (i:=pv.length) (j:=k) (by omega) (by omega)
     have hstep:stepF (M1,pv) c=(clearTo (scaled (swapL [] M1 pv.length k) pv.length c) pv.length c R,pv++[c]):=by
      unfold stepF
      rw[if_pos (by dsimp only;omega)]
      dsimp only
      rw[hlM,hfk2,if_neg (by omega),scaled_length,swapL_length,hlM]
     have hl2:(swapL [] M1 pv.length k).length=R:=by rw[swapL_length,hlM]
     generalize (rv1.set pv.length (.slice ak n ck')).set k (.slice aa n ca)=rv2 at*
     generalize swapL [] M1 pv.length k=M2 at*
     have hblk:∀{v:Value} {k gx:Nat},rv2[k]? =some v→v.ownBlock=some gx→Mb (.slice (some ⟨gm,0,none⟩) R cm) rv gx:=fun h1 h2=>(hMb2 _).1 (.inr ⟨_,List.mem_of_getElem? h1,h2⟩)
     conv=>whnf
     refine drawn_of_pi hτ hmix [.x 0,.x 1,.x 2,.x 3,.x 5,.x 6,.x 7,.x 8,.x 9,.x 10,.x 11,.x 4,.x 12,.x 13] (by kernel_rfl) (by kernel_rfl) ?_
     conv=>whnf
     obtain⟨_,g,ck,q2,d1,e1,m1,k1,d2,e2,m2,k2,hgm,hE⟩:=hM2.elem (k:=pv.length) (c:=c) (by omega) (by omega)
     injection hgm with hgm
     injection hgm with hgm
     subst hgm
     have hq2:q2=q:=by rw[←hE.at_,hat]
     subst hq2
     have hgo:=hblk hE.rv rfl
     refine⟨⟨gm,0,none⟩,rfl,⟨by omega,by omega⟩,?_⟩
     conv=>whnf
     refine⟨.slice (some ⟨g,0,none⟩) n ck,fun ρ w' r=>cellOut hE.outer hgmo r,?_⟩
     conv=>whnf
     refine⟨⟨gm,0,none⟩,rfl,⟨by omega,by omega⟩,?_⟩
     conv=>whnf
     refine⟨.slice (some ⟨g,0,none⟩) n ck,fun ρ w' r=>cellOut hE.outer hgmo r,?_⟩
     conv=>whnf
     refine⟨⟨g,0,none⟩,rfl,⟨by omega,by omega⟩,?_⟩
     conv=>whnf
     refine⟨[.bool d1,.slice e1 m1 k1,.bool d2,.slice e2 m2 k2],rfl,fun ρ w' r j x hx=>cellOut (hE.cells j x hx) (hMbOut _ _ (by rw[addB,addB];exact hgo)) r,?_⟩
     conv=>whnf
     have hwb0:Bel w.heap.size w6 w6:=Bel.refl
     refine callE_con (Φ:=fun _ w' v w2=>FracR w2 (Nw (fun _=>False) w' w2) v (((1:Int):Rat))) (fun ρ w' r=>whole_c 1 w' (by decide) (by decide)) ?_
     rintro ρ wa v1 wb' r he hbl hO
     have hON:=hO.got (S:=S) r.baseLe (iv:=(wa.heap.size,wb'.heap.size)::iv3) List.mem_cons_self
     have hF:=hE.frac.past (iv':=(wa.heap.size,wb'.heap.size)::iv3) r hS he fun x hx=>List.mem_cons_of_mem _ hx
     replace hM2:=hM2.past (iv':=(wa.heap.size,wb'.heap.size)::iv3) r hS (fun g hg=>hlow g ((hMb2 g).1 hg)) he fun x hx=>List.mem_cons_of_mem _ hx
     replace hK2:=hK2.bel hbl (Nat.le_refl _)
     have hrv:=hE.rv
     clear r he hbl hO hE
     generalize (wa.heap.size,wb'.heap.size)::iv3=iv4 at*
     obtain⟨b5,a5,n5,c5,b6,a6,n6,c6,rfl⟩:=hON.shape
     have hone:(((1:Int):Rat))=1:=rfl
     rw[hone]at hON
     have hhq:rl q2+1≤4^pv.length*h0:=by
      have h3:at2 M2 pv.length c=(M2.getD pv.length []).getD c 0:=rfl
      rw[←hat,h3]
      have h4:M2.getD pv.length []=M2[pv.length]'(by omega):=by rw[List.getD,List.getElem?_eq_getElem (by omega)];rfl
      rw[h4]
      exact rl_getD (hht2.at (List.getElem?_eq_getElem (by omega))) (Nat.le_trans h2 (Nat.le_mul_of_pos_left _ (Nat.pow_pos (by decide)))) c
     have hH4:4^(pv.length+1)*h0≤500000000:=Nat.le_trans (Nat.mul_le_mul_right _ (Nat.pow_le_pow_right (by decide) (by omega))) hb
     have hpow:4^(pv.length+1)*h0=4*(4^pv.length*h0):=by rw[Nat.pow_succ,Nat.mul_comm (4^pv.length) 4,Nat.mul_assoc]
     have hH2:2≤4^pv.length*h0:=Nat.le_trans h2 (Nat.le_mul_of_pos_left _ (Nat.pow_pos (by decide)))
     have hsc:=hht2.scaled (a:=pv.length) (c:=c) hH2 (by omega) (by rw[hat];exact h0')
     generalize 4^pv.length*h0=hh at*
     conv=>whnf
     refine callE_con (Φ:=fun _ w' v w2=>FracR w2 (Nw (fun _=>False) w' w2) v (1 / q2)) (fun ρ w' r=>fby_c (Rel.old r hS) (hON.rel r hS) (hF.rel r hS) (by decide) (by omega) h0') ?_
     rintro ρ wc v2 wd r he hbl hO
     have hPN:=hO.got (S:=S) r.baseLe (iv:=(wc.heap.size,wd.heap.size)::iv4) List.mem_cons_self
     replace hM2:=hM2.past (iv':=(wc.heap.size,wd.heap.size)::iv4) r hS (fun g hg=>hlow g ((hMb2 g).1 hg)) he fun x hx=>List.mem_cons_of_mem _ hx
     replace hK2:=hK2.bel hbl (Nat.le_refl _)
     clear r he hbl hO hON hF
     generalize (wc.heap.size,wd.heap.size)::iv4=iv5 at*
     obtain⟨b7,a7,n7,c7,b8,a8,n8,c8,rfl⟩:=hPN.shape
     conv=>whnf
     have hinv:=rl_inv h0'
     have hMA:M2[pv.length]? =some (M2[pv.length]'(by omega)):=List.getElem?_eq_getElem (by omega)
     have hMAd:M2.getD pv.length []=M2[pv.length]'(by omega):=by rw[List.getD,hMA];rfl
     have hqa:=hht2.at hMA
     generalize hqsa:(M2[pv.length]'(by omega))=qsa at*
     refine⟨fun ρ w' r=>?_⟩
     have hMr:=hM2.rel r hS (fun g hg=>hlow g ((hMb2 g).1 hg))
     obtain⟨css,hr1,hr2,hr3⟩:=hMr.row pv.length _ qsa hrv hMA
     refine(scale_c (Rel.old r hS) hr1 hr3 hr2 (hPN.rel r hS) (fun x hx hx2=>hoff2 iv5 x hx2 (hblk hrv hx)) (fun x hx=>by have:=hqa x hx;omega) (by omega)).mono fun e w4 he=>?_
     obtain⟨rfl,hgr,css',hr4,hr5,hr6⟩:=he
     have hM3:=hMr.setRow (S':=Nw (Cv S w.heap.size iv5) w' w4) (Rel.old r hS) (fun x hx hx2=>hoff2 iv5 x hx ((hMb2 x).1 hx2)) hrv hgr (fun x hx=>.inl hx) ⟨css',hr4,hr5,hr6⟩
     refine⟨.tuple #[],_,(w'.heap.size,w4.heap.size)::iv5,rfl,r.rowedNew (fun x hx=>Rel.not (S:=fun g=>g<w.heap.size) r (fun _ h=>h) (hMbOut iv5 x (hblk hrv hx))) hgr,?_⟩
     have hM4:=hM3.weak (S':=Cv S w.heap.size ((w'.heap.size,w4.heap.size)::iv5)) fun x hx=>Nw.cv hx r.baseLe
     have hset:M2.set pv.length (qsa.map (· *(1 / q2)))=scaled M2 pv.length c:=by unfold scaled;rw[hMAd,hat]
     rw[hset]at hM4
     have hK4:Kept w w4 _:=(hK2.bel r.bel (Nat.le_refl _)).row hgr (fun x hx=>hblk hrv hx)
     have hl3:(scaled M2 pv.length c).length=R:=by rw[scaled_length,hl2]
     clear hK2 hM2 hMr hr1 hr3 hr4 hr6 hM3 hgr r hPN hset hMA hMAd
     generalize (w'.heap.size,w4.heap.size)::iv5=iv6 at*
     generalize scaled M2 pv.length c=M3 at*
     conv=>whnf
     refine⟨Nat×Iv×World,fun z=>⟨[(0,.o (.v (.slice (some ⟨gm,0,none⟩) R cm))),(1,.o (.v (.int .i64 cols))),(5,.o (.w 0 pv.length)),(6,.o (.v (.int .i64 c))),(7,.o (.v (.int .i64 pv.length))),(75,.o (.v (.int .i64 R))),(76,.o (.v (.int .i64 z.1)))],
       [(0,.vec T.int 1 (pv.map fun c:Nat=>.int .i64 (c:Int)))],1,z.2.1,z.2.2⟩,fun z=>R-z.1,
      fun z=>z.1≤R∧Kept w z.2.2 (Mb (.slice (some ⟨gm,0,none⟩) R cm) rv)∧MatW z.2.2 (Cv S w.heap.size z.2.1) (.slice (some ⟨gm,0,none⟩) R cm) rv2 n (clearTo M3 pv.length c z.1),?_,?_⟩
     ·intro ρ w' r
      exact⟨(0,iv6,w'),⟨by dsimp only;omega,hK4.bel r.bel (Nat.le_refl _),by rw[clearTo_zero];exact hM4.rel r hS (fun g hg=>hlow g ((hMb2 g).1 hg))⟩,
       Sub.gen [] r ⟨rfl,trivial⟩ ⟨rfl,rfl,rfl,rfl,rfl,rfl,rfl,trivial⟩ (by simp[ScH,Blk.scopd]) (by simp[ScE,SV.sc,At.sc]) (by rfl) (fun lo hi h=>h)⟩
     clear hK4 hM4
     rintro⟨i,iv7,w7⟩ ⟨hi,hK,hM⟩
     dsimp only at hi hK hM ⊢
     conv=>whnf
     refine BrS.mk (fun hi2=>?_) (fun hi2=>?_)
     ·have hi2:i<R:=by simpa using hi2
      conv=>whnf
      refine BrS.mk (fun hne=>?_) (fun hne=>?_)
      ·have hne:i≠pv.length:=fun e=>by
        rw[e]at hne
        simp at hne
       conv=>whnf
       refine drawn_of_pi hτ hmix [.x 0,.x 1,.x 2,.x 3,.x 4,.x 5,.x 6,.x 7,.x 8,.x 9,.x 10,.x 12,.x 13,.x 14,.x 15,.x 11,.x 16] (by kernel_rfl) (by kernel_rfl) ?_
       conv=>whnf
       obtain⟨_,gi,ci,qi,d1',e1',m1',k1',d2',e2',m2',k2',hgm,hE⟩:=hM.elem (k:=i) (c:=c) (by omega) (by omega)
       injection hgm with hgm
       injection hgm with hgm
       subst hgm
       obtain⟨va2,hva2⟩:∃v,rv2[pv.length]? =some v:=⟨_,List.getElem?_eq_getElem (by omega)⟩
       obtain⟨_,hgm,hoa⟩:=hM.outer hva2
       injection hgm with hgm
       injection hgm with hgm
       subst hgm
       obtain⟨ri,hri⟩:∃r,M3[i]? =some r:=⟨_,List.getElem?_eq_getElem (by omega)⟩
       obtain⟨ra,hra⟩:∃r,M3[pv.length]? =some r:=⟨_,List.getElem?_eq_getElem (by omega)⟩
       have hri2:(clearTo M3 pv.length c i)[i]? =some ri:=by rw[clearTo_ge M3 pv.length c i i (Nat.le_refl _)];exact hri
       have hra2:(clearTo M3 pv.length c i)[pv.length]? =some ra:=by rw[clearTo_at];exact hra
       have hqd:(clearTo M3 pv.length c i).getD i []=ri:=by rw[List.getD,hri2];rfl
       have hqi:qi=ri.getD c 0:=by rw[←hE.at_,at2,hqd]
       have hrad:M3.getD pv.length []=ra:=by rw[List.getD,hra];rfl
       obtain⟨cssa,hraw,-,-⟩:=hM.row pv.length va2 ra hva2 hra2
       obtain⟨aa2,ca2,rfl,-⟩:=row_form hraw
       clear hraw
       have hgo:=hblk hE.rv rfl
       refine⟨⟨gm,0,none⟩,rfl,⟨by omega,by omega⟩,?_⟩
       conv=>whnf
       refine⟨.slice (some ⟨gi,0,none⟩) n ci,fun ρ w' r=>cellOut hE.outer hgmo r,?_⟩
       conv=>whnf
       refine⟨⟨gm,0,none⟩,rfl,⟨by omega,by omega⟩,?_⟩
       conv=>whnf
       refine⟨.slice (some ⟨gi,0,none⟩) n ci,fun ρ w' r=>cellOut hE.outer hgmo r,?_⟩
       conv=>whnf
       refine⟨⟨gi,0,none⟩,rfl,⟨by omega,by omega⟩,?_⟩
       conv=>whnf
       refine⟨[.bool d1',.slice e1' m1' k1',.bool d2',.slice e2' m2' k2'],rfl,fun ρ w' r j x hx=>cellOut (hE.cells j x hx) (hMbOut _ _ (by rw[addB,addB];exact hgo)) r,?_⟩
       conv=>whnf
       refine⟨⟨gm,0,none⟩,rfl,⟨by omega,by omega⟩,?_⟩
       conv=>whnf
       refine⟨.slice aa2 n ca2,fun ρ w' r=>cellOut hoa hgmo r,?_⟩
       conv=>whnf
       refine callE_con (Φ:=fun _ w' v w2=>FracR w2 (Nw (Cv S w.heap.size iv7) w' w2) v (-qi)) (fun ρ w' r=>fminus_c (Rel.old r hS) (hE.frac.rel r hS)) ?_
       rintro ρ wa v1 wb' r he hbl hO
       have hPN:=hO.old r.baseLe
       replace hM:=hM.past (iv':=(wa.heap.size,wb'.heap.size)::iv7) r hS (fun g hg=>hlow g ((hMb2 g).1 hg)) he fun x hx=>List.mem_cons_of_mem _ hx
       replace hK:=hK.bel hbl (Nat.le_refl _)
       have hrvi:=hE.rv
       clear r he hbl hO hE hoa
       generalize (wa.heap.size,wb'.heap.size)::iv7=iv8 at*
       obtain⟨b9,a9,n9,c9,b10,a10,n10,c10,rfl⟩:=hPN.shape
       have hqs1:=hsc.2 i ri hne hri
       have hqs2:=hsc.1 ra hra
       have hqc:=rl_getD hqs1 hH2 c
       have hng:=rl_neg (ri.getD c 0)
       rw[hqi]at hPN
       conv=>whnf
       refine⟨fun ρ w' r=>?_⟩
       have hMr:=hM.rel r hS (fun g hg=>hlow g ((hMb2 g).1 hg))
       obtain⟨css,hr1,hr2,hr3⟩:=hMr.row i _ ri hrvi hri2
       obtain⟨hR1,hR2⟩:=hMr.rowR hva2 hra2 (by unfold maxLen;omega)
       refine(add_c (C:=fun g=>(Value.slice aa2 n ca2).ownBlock=some g) (fun x hx=>by have:=hMr.low x (.inr ⟨_,List.mem_of_getElem? hva2,hx⟩);exact this) (Rel.old r hS) hr1 hr3 hr2 (hPN.rel r hS) hR1 hR2 (fun x hx hx2=>hoff2 iv8 x hx2 (hblk hrvi hx)) (fun x hx hx2=>hne (hMr.dis i pv.length _ _ x hrvi hva2 hx hx2)) (fun x hx=>by have:=hqs1 x hx;omega) (fun x hx=>by have:=hqs2 x hx;omega) (by omega)).mono fun e w8 he=>?_
       obtain⟨rfl,hgr,css',hr4,hr5,hr6⟩:=he
       have hM3':=hMr.setRow (S':=Nw (Cv S w.heap.size iv8) w' w8) (Rel.old r hS) (fun x hx hx2=>hoff2 iv8 x hx ((hMb2 x).1 hx2)) hrvi hgr (fun x hx=>.inl hx) ⟨css',hr4,hr5,hr6⟩
       refine⟨.tuple #[],_,(w'.heap.size,w8.heap.size)::iv8,rfl,r.rowedNew (fun x hx=>Rel.not (S:=fun g=>g<w.heap.size) r (fun _ h=>h) (hMbOut iv8 x (hblk hrvi hx))) hgr,?_⟩
       have hM4:=hM3'.weak (S':=Cv S w.heap.size ((w'.heap.size,w8.heap.size)::iv8)) fun x hx=>Nw.cv hx r.baseLe
       have hset:(clearTo M3 pv.length c i).set i (ri.mapIdx (addRow (-(ri.getD c 0)) ra))=clearTo M3 pv.length c (i+1):=by
        rw[←clearTo_succ hri hne,hrad];rfl
       rw[hset]at hM4
       have hK4:Kept w w8 _:=(hK.bel r.bel (Nat.le_refl _)).row hgr (fun x hx=>hblk hrvi hx)
       clear hK hM hMr hr1 hr3 hr4 hr6 hM3' hgr r hPN hset hR1
       generalize (w'.heap.size,w8.heap.size)::iv8=iv9 at*
       conv=>whnf
       refine⟨((i+1:Nat):Int),by rw[wrap64]<;>omega,?_⟩
       conv=>whnf
       intro ρ3 w9 r3
       exact⟨(i+1,iv9,w9),⟨hi2,hK4.bel r3.bel (Nat.le_refl _),hM4.rel r3 hS (fun g hg=>hlow g ((hMb2 g).1 hg))⟩,
        Sub.gen [] r3 ⟨rfl,trivial⟩ ⟨rfl,rfl,rfl,rfl,rfl,rfl,rfl,trivial⟩ (by simp[ScH,Blk.scopd]) (by simp[ScE,SV.sc,At.sc]) (by rfl) (fun lo hi h=>h),by dsimp only;omega⟩
      ·have hne:i=pv.length:=by
        have h4:((i:Int)==(pv.length:Int))=true:=by simpa using hne
        have:=eq_of_beq h4
        omega
       conv=>whnf
       refine⟨((i+1:Nat):Int),by rw[wrap64]<;>omega,?_⟩
       conv=>whnf
       intro ρ3 w9 r3
       exact⟨(i+1,iv7,w9),⟨hi2,hK.bel r3.bel (Nat.le_refl _),by
        dsimp only
        have h5:clearTo M3 pv.length c (i+1)=clearTo M3 pv.length c i:=by rw[hne,clearTo_skip]
        rw[h5]
        exact hM.rel r3 hS (fun g hg=>hlow g ((hMb2 g).1 hg))⟩,
        Sub.gen [] r3 ⟨rfl,trivial⟩ ⟨rfl,rfl,rfl,rfl,rfl,rfl,rfl,trivial⟩ (by simp[ScH,Blk.scopd]) (by simp[ScE,SV.sc,At.sc]) (by rfl) (fun lo hi h=>h),by dsimp only;omega⟩
     ·have hi3:i=R:=by
       have:¬i<R:=by simpa using hi2
       omega
      subst hi3
      have hcl:=Ht.cleared (i:=i) (c:=c) hsc.1 hsc.2 hH2
      conv=>whnf
      refine .inl ?_
      conv=>whnf
      refine⟨by simp,by omega,by unfold maxLen;omega,?_⟩
      conv=>whnf
      refine⟨((c+1:Nat):Int),by rw[wrap64]<;>omega,?_⟩
      conv=>whnf
      intro ρ3 w9 r3
      have hl5:(pv++[c]).length=pv.length+1:=by simp
      have hm5:(pv++[c]).map (fun c:Nat=>Value.int .i64 (c:Int))=pv.map (fun c:Nat=>Value.int .i64 (c:Int))++[.int .i64 (c:Int)]:=by simp
      refine⟨(c+1,rv2,clearTo M3 pv.length c i,pv++[c],iv7,w9),⟨h,hK.bel r3.bel (Nat.le_refl _),hM.rel r3 hS (fun g hg=>hlow g ((hMb2 g).1 hg)),hMb2,hrl2,by rw[List.range_succ,List.foldl_append,←hfold];exact hstep.symm,by rw[hl5];exact hp,?_⟩,
       Sub.gen [(0,2)] r3 ⟨by rw[hm5];rfl,trivial⟩ ⟨rfl,rfl,by dsimp only;rw[hl5];rfl,rfl,trivial⟩ (by simp[ScH,Blk.scopd]) (by simp[ScE,SV.sc,At.sc]) (by rfl) (fun lo hi h=>h),by dsimp only;omega⟩
      dsimp only
      rw[hl5,hpow]
      exact hcl
   ·have hk:k=R:=by
     have:¬k<R:=by simpa using hk
     omega
    subst hk
    have hfk2:findK M1 c (k-pv.length) pv.length=k:=by
     rw[←hfk,Nat.sub_self];rfl
    have hstep:stepF (M1,pv) c=(M1,pv):=by
     unfold stepF
     rw[if_pos (by dsimp only;omega)]
     dsimp only
     rw[hlM,if_pos hfk2]
    conv=>whnf
    refine BrS.mk (fun hkk=>?_) (fun hkk=>?_)
    ·conv=>whnf
     refine⟨((c+1:Nat):Int),by rw[wrap64]<;>omega,?_⟩
     conv=>whnf
     intro ρ3 w3 r3
     exact⟨(c+1,rv1,M1,pv,iv2,w3),⟨h,hK.bel r3.bel (Nat.le_refl _),hM.rel r3 hS (fun g hg=>hlow g ((hMb g).1 hg)),hMb,hrl,by rw[List.range_succ,List.foldl_append,←hfold];exact hstep.symm,hpl,hht1⟩,
      Sub.gen [] r3 ⟨rfl,trivial⟩ ⟨rfl,rfl,rfl,rfl,trivial⟩ (by simp[ScH,Blk.scopd]) (by simp[ScE,SV.sc,At.sc]) (by rfl) (fun lo hi h=>h),by dsimp only;omega⟩
    ·exact absurd hkk (by simp)
  ·have hp:¬pv.length<R:=by simpa using hp
   conv=>whnf
   intro ρ5 w5 r5
   have h1:=htot (.inr (by omega))
   rw[←h1]
   refine⟨_,rv1,rfl,hK.bel r5.bel (Nat.le_refl _),?_,hMb,?_⟩
   ·exact(hM.rel r5 hS (fun g hg=>hlow g ((hMb g).1 hg))).weak fun g hg=>Cv.nw hg r5
   ·exact(r5.vecSeq (id:=0) (sz:=1) rfl (by simp) (by unfold maxLen;omega) (by decide) (by intro u hu;simp at hu;obtain⟨_,_,rfl⟩:=hu;rfl)).weak fun g hg=>.inr hg
 ·have h:¬c<cols:=by simpa using h
  conv=>whnf
  intro ρ5 w5 r5
  have h1:=htot (.inl (by omega))
  rw[←h1]
  refine⟨_,rv1,rfl,hK.bel r5.bel (Nat.le_refl _),?_,hMb,?_⟩
  ·exact(hM.rel r5 hS (fun g hg=>hlow g ((hMb g).1 hg))).weak fun g hg=>Cv.nw hg r5
  ·exact(r5.vecSeq (id:=0) (sz:=1) rfl (by simp) (by unfold maxLen;omega) (by decide) (by intro u hu;simp at hu;obtain⟨_,_,rfl⟩:=hu;rfl)).weak fun g hg=>.inr hg
end Go.Ex

/- Rows of fractions of a call's own, held raw; lists of fractions of the api; matrices that are only read. No condition. -/
namespace Go.Ex
open Go Go.Sx Go.Proofs

/-- a row that may be written: its limbs lie in S -/
def RowW(w:World)(S:Nat→Prop)(v:Value)(n:Nat)(qs:List Rat):Prop:=∃css,w.ownsRow 0 T.fraction 4 v n css.flatten∧css.length=n∧Fr w S css qs
section
variable{S S' C:Nat→Prop}{H:Hp}{nx n:Nat}{iv iv':Iv}{B:Nat}{w w' w2:World}{ρ:Nat→Sx.Val}{v:Value}{qs:List Rat}
theorem RowW.keep(h:RowW w S v n qs)(hk:∀g,S g∨v.ownBlock=some g→w2.heap[g]? =w.heap[g]?):RowW w2 S v n qs:=by
 obtain⟨css,h1,h2,h3⟩:=h
 exact⟨css,ownsRow.keep h1 fun g hg=>hk g (.inr hg),h2,h3.keep fun g hg=>hk g (.inl hg)⟩
theorem RowW.weak(h:RowW w S v n qs)(hk:∀g,S g→S' g):RowW w S' v n qs:=by
 obtain⟨css,h1,h2,h3⟩:=h
 exact⟨css,h1,h2,h3.weak hk⟩
theorem RowW.len(h:RowW w S v n qs):qs.length=n:=by
 obtain⟨css,h1,h2,h3⟩:=h
 rw[←h3.1,h2]
theorem RowW.form(h:RowW w S v n qs):∃a c,v= .slice a n c∧n≤c:=by
 obtain⟨css,h1,h2,h3⟩:=h
 exact row_form h1
theorem RowW.le(h:RowW w S v n qs):n≤maxLen:=by
 obtain⟨css,h1,h2,h3⟩:=h
 rcases h1.2 with⟨_,h0⟩|⟨_,_,_,_,_,_,h1,h2,_⟩
 ·omega
 ·omega
theorem RowW.read(h:RowW w S v n qs):RowR w (fun g=>v.ownBlock=some g) S v qs:=by
 have hl:=h.len
 have hn:=h.le
 obtain⟨css,h1,h2,h3⟩:=h
 refine⟨css,?_,h3⟩
 rw[hl]
 rcases h1.2 with⟨rfl,rfl⟩|⟨g,cap,cur,rfl,hb,hc,hmc,hcap,hsz,htake⟩
 ·refine⟨hn,h1.1,h3.one,none,0,rfl,Nat.le_refl _,fun j u hu=>?_⟩
  have:=h1.1
  rw[Nat.zero_mul]at this
  rw[List.eq_nil_of_length_eq_zero this]at hu
  cases hu
 ·refine⟨hn,h1.1,h3.one,_,cap,rfl,hmc,fun j u hu=>⟨_,rfl,rfl,?_⟩⟩
  exact h1.cells (g:=g) rfl j u hu
/-- an element is stored -/
theorem RowW.store{a a1 a2:Option Addr}{c j n1 c1 n2 c2:Nat}{b b2:Bool}{q:Rat}(h:RowW w S (.slice a n c) n qs)(hj:j<n)(hf:FracR w S (.agg #[.bool b,.slice a1 n1 c1,.bool b2,.slice a2 n2 c2]) q)(hoff:∀g,(Value.slice a n c).ownBlock=some g→¬S g)(hS:Old S w):
  ∃g,a=some ⟨g,0,none⟩∧((⟨g,0,none⟩:Addr).add ((j:Int).toNat*4)).spot=none∧((⟨g,0,none⟩:Addr).add ((j:Int).toNat*4)).block=g∧
   (∀k,k<4→(w.cell? (((⟨g,0,none⟩:Addr).add ((j:Int).toNat*4)).add k)).isSome=true∧w.frozen? (((⟨g,0,none⟩:Addr).add ((j:Int).toNat*4)).add k)=false)∧
   ∀w2,w2=setCells w ((⟨g,0,none⟩:Addr).add ((j:Int).toNat*4)) [.bool b,.slice a1 n1 c1,.bool b2,.slice a2 n2 c2]→RowW w2 S (.slice a n c) n (qs.set j q)∧w.grownBy w2 (some g)∧w2.heap.size=w.heap.size:=by
 obtain⟨css,h1,h2,h3⟩:=h
 obtain⟨g,rfl,hok,hst,hgr,hsz⟩:=storeRow (nv:=[.bool b,.slice a1 n1 c1,.bool b2,.slice a2 n2 c2]) h1 rfl hj rfl (by decide)
 have had:(⟨g,0,none⟩:Addr).add ((j:Int).toNat*4)=⟨g,j*4,none⟩:=by rw[Int.toNat_natCast,addr_add,Nat.zero_add]
 refine⟨g,rfl,by rw[had],by rw[had],fun k hk=>by rw[had];exact hok k hk,fun w2 hw2=>?_⟩
 rw[had]at hw2
 subst hw2
 have hset:=flat_set (cs:=[.bool b,.slice a1 n1 c1,.bool b2,.slice a2 n2 c2]) h3.len4 (show j<css.length by omega)
 rw[hset]at hst
 have hkeep:∀x,S x→(setCells w ⟨g,j*4,none⟩ [.bool b,.slice a1 n1 c1,.bool b2,.slice a2 n2 c2]).heap[x]? =w.heap[x]? :=fun x hx=>
  hgr.block x (hS x hx) fun e=>hoff g rfl (by injection e with e;rw[←e];exact hx)
 exact⟨⟨_,hst,by simpa using h2,(h3.keep hkeep).set (hf.keep hkeep).four⟩,hgr,hsz⟩

/-- a row of a call's own making, which the caller may write: its block is new, its limbs lie elsewhere -/
structure RowX(w:World)(S:Nat→Prop)(B:Nat)(iv:Iv)(v:Value)(n:Nat)(qs:List Rat):Prop where
 row:RowW w (fun g=>Cv S B iv g∧v.ownBlock≠some g) v n qs
 new:∀g,v.ownBlock=some g→Cv (fun _=>False) B iv g
theorem RowX.keep(h:RowX w S B iv v n qs)(hk:∀g,Cv S B iv g→w2.heap[g]? =w.heap[g]?):RowX w2 S B iv v n qs:=
 ⟨h.row.keep fun g hg=>hk g (hg.elim (fun h=>h.1) fun hg=>(h.new g hg).elim (fun h=>h.elim) .inr),h.new⟩
theorem RowX.rel(h:RowX w S B iv v n qs)(r:Rel H nx iv B w ρ w')(hS:∀g,S g→g<B):RowX w' S B iv v n qs:=h.keep fun _ hg=>Rel.same r hS hg
theorem RowX.past(h:RowX w S B iv v n qs)(r:Rel H nx iv B w ρ w')(hS:∀g,S g→g<B)(he:Ext w' w2)(hm:∀p,p∈iv→p∈iv'):RowX w2 S B iv' v n qs:=
 have h2:=(h.rel r hS).keep fun g hg=>he.block g (Rel.old r hS g hg)
 ⟨h2.row.weak fun _ hg=>⟨hg.1.mono hm,hg.2⟩,fun g hg=>(h2.new g hg).mono hm⟩
theorem RowX.got(h:RowX w2 (fun _=>False) w'.heap.size [(w'.heap.size,w2.heap.size)] v n qs)(hB:B≤w'.heap.size)(hm:(w'.heap.size,w2.heap.size)∈iv):RowX w2 S B iv v n qs:=by
 have key:∀g {X:Nat→Prop},Cv (fun _=>False) w'.heap.size [(w'.heap.size,w2.heap.size)] g→Cv X B iv g:=fun g X hg=>by
  rcases hg with hg|⟨h1,lo,hi,h2,h3,h4⟩
  ·exact hg.elim
  ·simp at h2
   obtain⟨rfl,rfl⟩:=h2
   exact .inr ⟨by omega,_,_,hm,h3,h4⟩
 exact⟨h.row.weak fun g hg=>⟨key g hg.1,hg.2⟩,fun g hg=>key g (h.new g hg)⟩
theorem RowX.read(h:RowX w S B iv v n qs):RowR w (Cv S B iv) (Cv S B iv) v qs:=
 h.row.read.weak (fun g hg=>(h.new g hg).elim (fun h=>h.elim) .inr) fun _ hg=>hg.1
/-- fractions of the api in a list, as they stand: numerators and denominators -/
def Rat4(w:World)(S:Nat→Prop)(cs:List Value)(x:Int×Int):Prop:=∃b a n c b2 a2 n2 c2,cs=[.bool b,.slice a n c,.bool b2,.slice a2 n2 c2]∧RatR w S (.agg #[.bool b,.slice a n c,.bool b2,.slice a2 n2 c2]) x.1 x.2
theorem Rat4.keep{cs:List Value}{x:Int×Int}(h:Rat4 w S cs x)(hk:∀g,S g→w2.heap[g]? =w.heap[g]?):Rat4 w2 S cs x:=by
 obtain⟨b,a,n,c,b2,a2,n2,c2,h1,h2⟩:=h;exact⟨b,a,n,c,b2,a2,n2,c2,h1,h2.keep hk⟩
theorem Rat4.weak{cs:List Value}{x:Int×Int}(h:Rat4 w S cs x)(hk:∀g,S g→S' g):Rat4 w S' cs x:=by
 obtain⟨b,a,n,c,b2,a2,n2,c2,h1,h2⟩:=h;exact⟨b,a,n,c,b2,a2,n2,c2,h1,h2.weak hk⟩
/-- a list of four-celled elements is read -/
def ListR{α:Type}(P:World→(Nat→Prop)→List Value→α→Prop)(w:World)(S:Nat→Prop)(v:Value)(xs:List α):Prop:=
 ∃css:List (List Value),SeqR w S 4 v css.flatten xs.length∧css.length=xs.length∧(∀cs∈css,cs.length=4)∧∀(j:Nat) cs x,css[j]? =some cs→xs[j]? =some x→P w S cs x
abbrev RatsR:=ListR Rat4
theorem RatsR.keep{xs:List (Int×Int)}(h:RatsR w S v xs)(hk:∀g,S g→w2.heap[g]? =w.heap[g]?):RatsR w2 S v xs:=by
 obtain⟨css,h1,h2,h3,h4⟩:=h;exact⟨css,h1.keep hk,h2,h3,fun j cs x k1 k2=>(h4 j cs x k1 k2).keep hk⟩
theorem RatsR.weak{xs:List (Int×Int)}(h:RatsR w S v xs)(hk:∀g,S g→S' g):RatsR w S' v xs:=by
 obtain⟨css,h1,h2,h3,h4⟩:=h;exact⟨css,h1.weak hk,h2,h3,fun j cs x k1 k2=>(h4 j cs x k1 k2).weak hk⟩
theorem ListR.shape{α:Type}{P:World→(Nat→Prop)→List Value→α→Prop}{xs:List α}(h:ListR P w S v xs):∃a c,v= .slice a xs.length c∧xs.length≤c∧xs.length≤maxLen:=by
 obtain⟨css,⟨h0,_,_,a,c,h1,h2,_⟩,_⟩:=h
 exact⟨a,c,h1,h2,h0⟩
theorem ListR.load{α:Type}{P:World→(Nat→Prop)→List Value→α→Prop}{xs:List α}{a:Option Addr}{m c j:Nat}{x:α}(h:ListR P w S (.slice a m c) xs)(hq:xs[j]? =some x):
  ∃ad cs,a=some ad∧P w S cs x∧cs.length=4∧∀k u,cs[k]? =some u→S ad.block∧w.cell? ((ad.add (j*4)).add k)=some u:=by
 obtain⟨css,⟨h0,h1,h2,a',c',e,h3,h4⟩,hl,hl4,hf⟩:=h
 injection e with e1 e2 e3
 subst e1
 obtain⟨cs,hcs⟩:∃cs,css[j]? =some cs:=⟨_,List.getElem?_eq_getElem (by rw[hl];exact(List.getElem?_eq_some_iff.1 hq).1)⟩
 have hF:=hf j cs x hcs hq
 have hlc:=hl4 cs (List.mem_of_getElem? hcs)
 obtain⟨ad,k1,k2,k3⟩:=h4 (j*4+0) _ (flat_get hl4 hcs 0 _ (List.getElem?_eq_getElem (show 0<cs.length by omega)))
 refine⟨ad,cs,k1,hF,hlc,fun k u hu=>?_⟩
 obtain⟨ad2,m1,m2,m3⟩:=h4 (j*4+k) u (flat_get hl4 hcs k u hu)
 rw[k1]at m1
 injection m1 with m1
 subst m1
 refine⟨m2,?_⟩
 rw[←m3]
 have:(ad.add (j*4)).add k=ad.add (j*4+k):=by
  unfold Addr.add
  split<;>split<;>simp_all<;>omega
 rw[this]
/-- a list of slices is read -/
def SlicesR{α:Type}(P:World→(Nat→Prop)→Value→α→Prop)(w:World)(S:Nat→Prop)(v:Value)(M:List α):Prop:=
 ∃rv,SeqR w S 1 v rv M.length∧rv.length=M.length∧∀(i:Nat) u x,rv[i]? =some u→M[i]? =some x→P w S u x
theorem SlicesR.shape{α:Type}{P:World→(Nat→Prop)→Value→α→Prop}{xs:List α}(h:SlicesR P w S v xs):∃a c,v= .slice a xs.length c∧xs.length≤c∧xs.length≤maxLen:=by
 obtain⟨rv,⟨h0,_,_,a,c,h1,h2,_⟩,_⟩:=h
 exact⟨a,c,h1,h2,h0⟩
theorem SlicesR.load{α:Type}{P:World→(Nat→Prop)→Value→α→Prop}{xs:List α}{a:Option Addr}{m c j:Nat}{x:α}(h:SlicesR P w S (.slice a m c) xs)(hq:xs[j]? =some x):
  ∃ad u,a=some ad∧P w S u x∧S ad.block∧w.cell? (ad.add (j*1))=some u:=by
 obtain⟨rv,⟨h0,h1,h2,a',c',e,h3,h4⟩,hl,hf⟩:=h
 injection e with e1 e2 e3
 subst e1
 obtain⟨u,hu⟩:∃u,rv[j]? =some u:=⟨_,List.getElem?_eq_getElem (by rw[hl];exact(List.getElem?_eq_some_iff.1 hq).1)⟩
 obtain⟨ad,k1,k2,k3⟩:=h4 j u hu
 exact⟨ad,u,k1,hf j u x hu hq,k2,by rw[Nat.mul_one];exact k3⟩
abbrev RatMR:=SlicesR RatsR
theorem RatMR.keep{M:List (List (Int×Int))}(h:RatMR w S v M)(hk:∀g,S g→w2.heap[g]? =w.heap[g]?):RatMR w2 S v M:=by
 obtain⟨rv,h1,h2,h3⟩:=h;exact⟨rv,h1.keep hk,h2,fun i u x k1 k2=>RatsR.keep (h3 i u x k1 k2) hk⟩
theorem RatMR.weak{M:List (List (Int×Int))}(h:RatMR w S v M)(hk:∀g,S g→S' g):RatMR w S' v M:=by
 obtain⟨rv,h1,h2,h3⟩:=h;exact⟨rv,h1.weak hk,h2,fun i u x k1 k2=>RatsR.weak (h3 i u x k1 k2) hk⟩
/-- a matrix of fractions that is only read -/
abbrev MatR:=SlicesR (fun w S v qs=>RowR w S S v qs)
theorem MatR.keep{M:List (List Rat)}(h:MatR w S v M)(hk:∀g,S g→w2.heap[g]? =w.heap[g]?):MatR w2 S v M:=by
 obtain⟨rv,h1,h2,h3⟩:=h;exact⟨rv,h1.keep hk,h2,fun i u x k1 k2=>(h3 i u x k1 k2).keep fun g hg=>hk g (hg.elim id id)⟩
theorem MatR.weak{M:List (List Rat)}(h:MatR w S v M)(hk:∀g,S g→S' g):MatR w S' v M:=by
 obtain⟨rv,h1,h2,h3⟩:=h;exact⟨rv,h1.weak hk,h2,fun i u x k1 k2=>(h3 i u x k1 k2).weak hk hk⟩
end
section
variable{S S':Nat→Prop}{H:Hp}{nx:Nat}{iv iv':Iv}{B:Nat}{w w' w2:World}{ρ:Nat→Sx.Val}{v:Value}{xs:List (Int×Int)}
theorem RatsR.rel(h:RatsR w (Cv S B iv) v xs)(r:Rel H nx iv B w ρ w')(hS:∀g,S g→g<B):RatsR w' (Cv S B iv) v xs:=RatsR.keep h fun _ hg=>Rel.same r hS hg
theorem RatsR.past(h:RatsR w (Cv S B iv) v xs)(r:Rel H nx iv B w ρ w')(hS:∀g,S g→g<B)(he:Ext w' w2)(hm:∀p,p∈iv→p∈iv'):RatsR w2 (Cv S B iv') v xs:=
 RatsR.weak (RatsR.keep (RatsR.rel h r hS) fun g hg=>he.block g (Rel.old r hS g hg)) fun _ hg=>hg.mono hm
theorem RatsR.arg(h:RatsR w S v xs)(iv:Iv):RatsR w (Cv S w.heap.size iv) v xs:=RatsR.weak h fun _ h=>.inl h
end
section
variable{S S':Nat→Prop}{H:Hp}{nx:Nat}{iv iv':Iv}{B:Nat}{w w' w2:World}{ρ:Nat→Sx.Val}{v:Value}{M:List (List (Int×Int))}
theorem RatMR.rel(h:RatMR w (Cv S B iv) v M)(r:Rel H nx iv B w ρ w')(hS:∀g,S g→g<B):RatMR w' (Cv S B iv) v M:=RatMR.keep h fun _ hg=>Rel.same r hS hg
theorem RatMR.past(h:RatMR w (Cv S B iv) v M)(r:Rel H nx iv B w ρ w')(hS:∀g,S g→g<B)(he:Ext w' w2)(hm:∀p,p∈iv→p∈iv'):RatMR w2 (Cv S B iv') v M:=
 RatMR.weak (RatMR.keep (RatMR.rel h r hS) fun g hg=>he.block g (Rel.old r hS g hg)) fun _ hg=>hg.mono hm
theorem RatMR.arg(h:RatMR w S v M)(iv:Iv):RatMR w (Cv S w.heap.size iv) v M:=RatMR.weak h fun _ h=>.inl h
end
section
variable{S S':Nat→Prop}{H:Hp}{nx:Nat}{iv iv':Iv}{B:Nat}{w w' w2:World}{ρ:Nat→Sx.Val}{v:Value}{M:List (List Rat)}
theorem MatR.rel(h:MatR w (Cv S B iv) v M)(r:Rel H nx iv B w ρ w')(hS:∀g,S g→g<B):MatR w' (Cv S B iv) v M:=MatR.keep h fun _ hg=>Rel.same r hS hg
theorem MatR.past(h:MatR w (Cv S B iv) v M)(r:Rel H nx iv B w ρ w')(hS:∀g,S g→g<B)(he:Ext w' w2)(hm:∀p,p∈iv→p∈iv'):MatR w2 (Cv S B iv') v M:=
 MatR.weak (MatR.keep (MatR.rel h r hS) fun g hg=>he.block g (Rel.old r hS g hg)) fun _ hg=>hg.mono hm
theorem MatR.got(h:MatR w2 (Nw (fun _=>False) w' w2) v M)(hB:B≤w'.heap.size)(hm:(w'.heap.size,w2.heap.size)∈iv):MatR w2 (Cv S B iv) v M:=MatR.weak h fun _ hg=>hg.got hB hm
theorem MatR.out{w0 w1:World}(h:MatR w1 (Cv S w0.heap.size iv) v M)(r:Rel H nx iv w0.heap.size w1 ρ w')(hS:Old S w0):MatR w' (Nw S w0 w') v M:=
 MatR.weak (MatR.rel h r hS) fun _ hg=>Cv.nw hg r
end
end Go.Ex

/- Columns, the error of a matrix, zeros, values. No condition but sizes. -/
namespace Go.Ex
open Go Go.Sx Go.Proofs

def colsM{α:Type}:List (List α)→Nat
 |[]=>0
 |r::_=>r.length
/-- the error of a matrix: its rows differ (11), or it is too large (8) -/
def errM{α:Type}(M:List (List α)):Nat:=if ∀r∈M,r.length=colsM M then(if 60<M.length∨60<colsM M then 8 else 0)else 11
theorem SlicesR.rowShape{w:World}{S:Nat→Prop}{v:Value}{xs:List (Int×Int)}(h:RatsR w S v xs):∃a c,v= .slice a xs.length c:=by
 obtain⟨a,c,h,_⟩:=ListR.shape h
 exact⟨a,c,h⟩
theorem columns_c{S:Nat→Prop}{w:World}{v:Value}{M:List (List (Int×Int))}(hS:Old S w)(h:RatMR w S v M):Con PG N.exact_columns #[v] w (Ret w fun v' _=>v'= .int .i64 (colsM M)):=by
 have hn:=h
 obtain⟨a,c,rfl,hc,hm⟩:=SlicesR.shape h
 refine in_exact_columns (by simp) ?_
 cases M with
 |nil=>
  conv=>whnf
  intro ρe we re
  exact⟨_,rfl,re.bel,rfl⟩
 |cons r t=>
  obtain⟨ad,u,rfl,hu,h1,h2⟩:=SlicesR.load h (j:=0) (x:=r) rfl
  obtain⟨a2,c2,rfl⟩:=SlicesR.rowShape hu
  conv=>whnf
  refine⟨ad,rfl,⟨by omega,by simp⟩,?_⟩
  conv=>whnf
  refine⟨.slice a2 r.length c2,fun ρ w' r'=>by simpa using cellS hS Bel.refl r' h1 (by simpa using h2),?_⟩
  conv=>whnf
  intro ρe we re
  exact⟨_,rfl,re.bel,rfl⟩

theorem checkMatrix_c{S:Nat→Prop}{w:World}{v:Value}{M:List (List (Int×Int))}(hS:Old S w)(h:RatMR w S v M):Con PG N.exact_checkMatrix #[v] w (Ret w fun v' _=>v'= .int .i64 (errM M)):=by
 replace h:=RatMR.arg h []
 obtain⟨a,c,rfl,hc,hm⟩:=SlicesR.shape h
 unfold maxLen at hm
 refine in_exact_checkMatrix (by simp) ?_
 conv=>whnf
 refine⟨Nat×Iv×World,fun z=>⟨[(0,.o (.v (.slice a M.length c))),(5,.o (.v (.slice a M.length c))),(6,.o (.v (.int .i64 M.length))),(7,.o (.v (.int .i64 z.1)))],[],0,z.2.1,z.2.2⟩,fun z=>M.length-z.1,
  fun z=>z.1≤M.length∧Bel w.heap.size w z.2.2∧RatMR z.2.2 (Cv S w.heap.size z.2.1) (.slice a M.length c) M∧∀(j:Nat) r,j<z.1→M[j]? =some r→r.length=colsM M,?_,?_⟩
 ·intro ρ w' r
  exact⟨(0,[],w'),⟨by simp,r.bel,RatMR.rel h r hS,by simp⟩,Sub.gen [] r trivial ⟨rfl,rfl,rfl,rfl,trivial⟩ (by simp[ScH]) (by simp[ScE,SV.sc,At.sc]) (by rfl) (by simp)⟩
 clear h
 rintro⟨i,iv,w1⟩ ⟨hi,hw,hM,hrow⟩
 dsimp only at hi hw hM hrow ⊢
 conv=>whnf
 refine BrS.mk (fun h=>?_) (fun h=>?_)
 ·have h:i<M.length:=by simpa using h
  obtain⟨r,hr⟩:∃r,M[i]? =some r:=⟨_,List.getElem?_eq_getElem h⟩
  obtain⟨ad,u,rfl,hu,h1,h2⟩:=SlicesR.load hM hr
  obtain⟨a2,c2,rfl⟩:=SlicesR.rowShape hu
  conv=>whnf
  refine⟨ad,rfl,⟨by omega,by omega⟩,?_⟩
  conv=>whnf
  refine⟨.slice a2 r.length c2,fun ρ w' r'=>?_,?_⟩
  ·have h3:=Rel.same r' hS h1
   rw[Int.toNat_natCast,cell_of_heap (w:=w1) (w2:=w') (by rw[addB];exact h3)]
   exact h2
  conv=>whnf
  refine callE_S (callE_con (Φ:=fun _ _ v _=>v= .int .i64 (colsM M)) (fun ρ w' r=>columns_c (Rel.old r hS) (RatMR.rel hM r hS)) ?_)
  rintro ρ wa v1 wb r' he hb rfl
  replace hw:=hw.tr hb
  replace hM:=RatMR.past (iv':=(wa.heap.size,wb.heap.size)::iv) hM r' hS he fun x hx=>List.mem_cons_of_mem _ hx
  clear r' he hb
  generalize (wa.heap.size,wb.heap.size)::iv=iv2 at*
  conv=>whnf
  refine BrS.mk (fun hne=>?_) (fun hne=>?_)
  ·have hne:r.length≠colsM M:=fun e=>by rw[e]at hne;simp at hne
   conv=>whnf
   intro ρe we re
   refine⟨_,rfl,hw.tr re.bel,?_⟩
   unfold errM
   rw[if_neg (fun hall=>hne (hall r (List.mem_of_getElem? hr)))]
   rfl
  ·have heq:r.length=colsM M:=by
    have h4:((r.length:Int)==(colsM M:Int))=true:=by simpa using hne
    have:=eq_of_beq h4
    omega
   conv=>whnf
   refine⟨((i+1:Nat):Int),by rw[wrap64]<;>omega,?_⟩
   conv=>whnf
   intro ρ3 w3 r3
   refine⟨(i+1,iv2,w3),⟨h,hw.tr r3.bel,RatMR.rel hM r3 hS,fun j r' hj hr'=>?_⟩,Sub.gen [] r3 trivial ⟨rfl,rfl,rfl,rfl,trivial⟩ (by simp[ScH]) (by simp[ScE,SV.sc,At.sc]) (by rfl) (fun lo hi h=>h),by dsimp only;omega⟩
   by_cases hji:j=i
   ·subst hji;rw[hr]at hr';injection hr' with hr';rw[←hr'];exact heq
   ·exact hrow j r' (by dsimp only at hj;omega) hr'
 ·have h:i=M.length:=by
   have:¬i<M.length:=by simpa using h
   omega
  have hall:∀r∈M,r.length=colsM M:=fun r hr=>by
   obtain⟨j,hj⟩:=List.getElem?_of_mem hr
   exact hrow j r (by rw[h];exact(List.getElem?_eq_some_iff.1 hj).1) hj
  have herr:errM M=if 60<M.length∨60<colsM M then 8 else 0:=by unfold errM;rw[if_pos hall]
  conv=>whnf
  refine BrS.mk (fun hl=>?_) (fun hl=>?_)
  ·have hl:60<M.length:=by
    have:(M.length:Int)>60:=of_decide_eq_true hl
    omega
   conv=>whnf
   intro ρe we re
   exact⟨_,rfl,hw.tr re.bel,by rw[herr,if_pos (.inl hl)];rfl⟩
  ·have hl:¬60<M.length:=by
    have:¬(M.length:Int)>60:=of_decide_eq_false hl
    omega
   conv=>whnf
   refine callE_S (callE_con (Φ:=fun _ _ v _=>v= .int .i64 (colsM M)) (fun ρ w' r=>columns_c (Rel.old r hS) (RatMR.rel hM r hS)) ?_)
   rintro ρ wa v1 wb r' he hb rfl
   replace hw:=hw.tr hb
   clear r' he hb
   conv=>whnf
   refine BrS.mk (fun hl2=>?_) (fun hl2=>?_)
   ·have hl2:60<colsM M:=by
     have:(colsM M:Int)>60:=of_decide_eq_true hl2
     omega
    conv=>whnf
    intro ρe we re
    exact⟨_,rfl,hw.tr re.bel,by rw[herr,if_pos (.inr hl2)];rfl⟩
   ·have hl2:¬60<colsM M:=by
     have:¬(colsM M:Int)>60:=of_decide_eq_false hl2
     omega
    conv=>whnf
    intro ρe we re
    exact⟨_,rfl,hw.tr re.bel,by rw[herr,if_neg (by omega)];rfl⟩

theorem checkSystem_c{S:Nat→Prop}{w:World}{v u:Value}{M:List (List (Int×Int))}{b:List (Int×Int)}(hS:Old S w)(h:RatMR w S v M)(hu:RatsR w S u b):
  Con PG N.exact_checkSystem #[v,u] w (Ret w fun v' _=>v'= .int .i64 ((if errM M≠0 then errM M else if b.length≠M.length then 11 else 0:Nat):Int)):=by
 replace h:=RatMR.arg h []
 obtain⟨a,c,rfl,hc,hm⟩:=SlicesR.shape h
 obtain⟨a2,c2,rfl,hc2,hm2⟩:=ListR.shape hu
 refine in_exact_checkSystem (by simp) ?_
 conv=>whnf
 refine callE_S (callE_con (Φ:=fun _ _ v _=>v= .int .i64 (errM M)) (fun ρ w' r=>checkMatrix_c (Rel.old r hS) (RatMR.rel h r hS)) ?_)
 rintro ρ wa v1 wb r' he hw rfl
 clear r' he h
 conv=>whnf
 refine BrS.mk (fun h0=>?_) (fun h0=>?_)
 ·have h0:errM M≠0:=fun e=>by rw[e]at h0;simp at h0
  rw[if_pos h0]
  conv=>whnf
  intro ρe we re
  exact⟨_,rfl,hw.tr re.bel,rfl⟩
 ·have h0:errM M=0:=by
   have h4:((errM M:Int)==0)=true:=by simpa using h0
   have:=eq_of_beq h4
   omega
  rw[if_neg (by omega)]
  conv=>whnf
  refine BrS.mk (fun h1=>?_) (fun h1=>?_)
  ·have h1:b.length≠M.length:=fun e=>by rw[e]at h1;simp at h1
   rw[if_pos h1]
   conv=>whnf
   intro ρe we re
   exact⟨_,rfl,hw.tr re.bel,rfl⟩
  ·have h1:b.length=M.length:=by
    have h4:((b.length:Int)==(M.length:Int))=true:=by simpa using h1
    have:=eq_of_beq h4
    omega
   rw[if_neg (by omega)]
   conv=>whnf
   intro ρe we re
   exact⟨_,rfl,hw.tr re.bel,rfl⟩
end Go.Ex

/- Zeros, values: rows of fractions that are made. No condition but sizes. -/
namespace Go.Ex
open Go Go.Sx Go.Proofs

/-- the cells of a fraction that is not set -/
def f0:List Value:=[.bool false,.slice none 0 0,.bool false,.slice none 0 0]
/-- a row that is being filled -/
structure Fill(w:World)(S:Nat→Prop)(n i:Nat)(css:List (List Value))(qs:List Rat):Prop where
 len:css.length=n
 four:∀cs∈css,cs.length=4
 one:∀cs∈css,∀u∈cs,u.oneCell'=true
 at_:∀(j:Nat) cs q,j<i→css[j]? =some cs→qs[j]? =some q→Frac4 w S cs q
section
variable{S S':Nat→Prop}{H:Hp}{nx n i:Nat}{iv iv':Iv}{B:Nat}{w w1 w' w2:World}{ρ:Nat→Sx.Val}{css:List (List Value)}{qs:List Rat}
theorem Fill.keep(h:Fill w S n i css qs)(hk:∀g,S g→w2.heap[g]? =w.heap[g]?):Fill w2 S n i css qs:=⟨h.len,h.four,h.one,fun j cs q hj h1 h2=>(h.at_ j cs q hj h1 h2).keep hk⟩
theorem Fill.weak(h:Fill w S n i css qs)(hk:∀g,S g→S' g):Fill w S' n i css qs:=⟨h.len,h.four,h.one,fun j cs q hj h1 h2=>(h.at_ j cs q hj h1 h2).weak hk⟩
theorem Fill.rel(h:Fill w (Cv S B iv) n i css qs)(r:Rel H nx iv B w ρ w')(hS:∀g,S g→g<B):Fill w' (Cv S B iv) n i css qs:=h.keep fun _ hg=>Rel.same r hS hg
theorem Fill.past(h:Fill w (Cv S B iv) n i css qs)(r:Rel H nx iv B w ρ w')(hS:∀g,S g→g<B)(he:Ext w' w2)(hm:∀p,p∈iv→p∈iv'):Fill w2 (Cv S B iv') n i css qs:=
 ((h.rel r hS).keep fun g hg=>he.block g (Rel.old r hS g hg)).weak fun _ hg=>hg.mono hm
theorem Fill.start(w:World)(S:Nat→Prop)(n:Nat)(qs:List Rat):Fill w S n 0 (List.replicate n f0) qs:=
 ⟨by simp,fun cs hc=>by rw[List.eq_of_mem_replicate hc];rfl,fun cs hc u hu=>by rw[List.eq_of_mem_replicate hc]at hu;simp[f0]at hu;rcases hu with rfl|rfl|rfl|rfl<;>rfl,fun j cs q hj=>by omega⟩
theorem Fill.next{b b2:Bool}{a a2:Option Addr}{m c m2 c2:Nat}{q:Rat}(h:Fill w S n i css qs)(hi:i<n)(hq:qs[i]? =some q)(hf:FracR w S (.agg #[.bool b,.slice a m c,.bool b2,.slice a2 m2 c2]) q):
  Fill w S n (i+1) (css.set i [.bool b,.slice a m c,.bool b2,.slice a2 m2 c2]) qs:=by
 refine⟨by simp[h.len],fun cs hc=>?_,fun cs hc u hu=>?_,fun j cs p hj h1 h2=>?_⟩
 ·rcases List.mem_or_eq_of_mem_set hc with hc|rfl
  ·exact h.four cs hc
  ·rfl
 ·rcases List.mem_or_eq_of_mem_set hc with hc|rfl
  ·exact h.one cs hc u hu
  ·simp at hu
   rcases hu with rfl|rfl|rfl|rfl<;>rfl
 ·by_cases hij:i=j
  ·subst hij
   rw[List.getElem?_set_self (by rw[h.len];exact hi)]at h1
   rw[hq]at h2
   injection h1 with h1;injection h2 with h2
   subst h1 h2
   exact hf.four
  ·rw[List.getElem?_set_ne hij]at h1
   exact h.at_ j cs p (by omega) h1 h2
theorem Fill.flat(h:Fill w S n i css qs):css.flatten.length=n*4:=by rw[flat_len h.four,h.len]
/-- the row is full -/
theorem Fill.done{w0:World}(h:Fill w1 (Cv (fun _=>False) w0.heap.size iv) n n css qs)(hl:qs.length=n)(hn:n≤maxLen)(r:Rel H nx iv w0.heap.size w1 ρ w'){id:Nat}(hH:getH H id=some (.arr T.fraction css.flatten))(hnil:(ρ id).nil=false):
  RowX w' (fun _=>False) w0.heap.size [(w0.heap.size,w'.heap.size)] (.slice (some ⟨(ρ id).g,0,none⟩) n n) n qs:=by
 have h2:=h.rel r (oldF w0)
 have hlow:=r.low id _ hH hnil
 refine⟨⟨css,⟨h.flat,.inr ⟨(ρ id).g,n,css.flatten.toArray,rfl,Nat.zero_le _,r.arr id _ _ hH,Nat.le_refl _,hn,by simpa using h.flat,?_⟩⟩,h.len,?_⟩,fun g hg=>?_⟩
 ·rw[←h.flat];exact List.take_length
 ·refine⟨by rw[h.len,hl],fun j cs q h3 h4=>?_⟩
  refine(h2.at_ j cs q (by rw[←hl];exact(List.getElem?_eq_some_iff.1 h4).1) h3 h4).weak fun g hg=>⟨?_,fun e=>?_⟩
  ·rcases hg with hg|⟨k1,lo,hi,k2,k3,k4⟩
   ·exact hg.elim
   ·exact .inr ⟨k1,_,_,List.mem_singleton.2 rfl,k1,by have:=r.ivs lo hi k2;have:=r.size;omega⟩
  ·injection e with e
   exact Rel.not r (oldF w0) hg id _ hH hnil e
 ·injection hg with hg
  subst hg
  exact .inr ⟨hlow.1,_,_,List.mem_singleton.2 rfl,hlow.1,hlow.2⟩
end
theorem zeros_c(n:Nat)(w:World)(hn:n≤1000000):Con PG N.exact_zeros #[.int .i64 n] w (Ret w fun v w2=>RowX w2 (fun _=>False) w.heap.size [(w.heap.size,w2.heap.size)] v n (List.replicate n 0)):=by
 refine in_exact_zeros (by simp) ?_
 conv=>whnf
 refine⟨n,n,rfl,rfl,Nat.le_refl _,by omega,by omega,?_⟩
 conv=>whnf
 refine⟨Nat×List (List Value)×Iv×World,fun z=>⟨[(3,.o (.s 0 0 n n)),(8,.o (.v (.int .i64 n))),(9,.o (.v (.int .i64 z.1)))],[(0,.arr T.fraction z.2.1.flatten)],1,z.2.2.1,z.2.2.2⟩,fun z=>n-z.1,
  fun z=>z.1≤n∧Bel w.heap.size w z.2.2.2∧Fill z.2.2.2 (Cv (fun _=>False) w.heap.size z.2.2.1) n z.1 z.2.1 (List.replicate n 0),?_,?_⟩
 ·intro ρ w' r
  exact⟨(0,List.replicate n f0,[],w'),⟨by simp,r.bel,Fill.start _ _ _ _⟩,Sub.gen [] r ⟨rfl,trivial⟩ ⟨rfl,rfl,rfl,trivial⟩ (by simp[ScH,Blk.scopd]) (by simp[ScE,SV.sc,At.sc]) (by rfl) (by simp)⟩
 rintro⟨i,css,iv,w1⟩ ⟨hi,hw,hF⟩
 dsimp only at hi hw hF ⊢
 conv=>whnf
 refine BrS.mk (fun h=>?_) (fun h=>?_)
 ·have h:i<n:=by simpa using h
  conv=>whnf
  refine callE_S (callE_con (Φ:=fun _ w' v w2=>FracR w2 (Nw (fun _=>False) w' w2) v ((0:Int):Rat)) (fun ρ w' r=>whole_c 0 w' (by decide) (by decide)) ?_)
  rintro ρ wa v1 wb r he hb hO
  have hON:=hO.got (S:=fun _=>False) r.baseLe (iv:=(wa.heap.size,wb.heap.size)::iv) List.mem_cons_self
  replace hF:=hF.past (iv':=(wa.heap.size,wb.heap.size)::iv) r (oldF w) he fun x hx=>List.mem_cons_of_mem _ hx
  replace hw:=hw.tr hb
  clear r he hb hO
  generalize (wa.heap.size,wb.heap.size)::iv=iv2 at*
  obtain⟨b1,a1,n1,c1,b2,a2,n2,c2,rfl⟩:=hON.shape
  have hnext:=hF.next h (q:=0) (by simp[h]) hON
  conv=>whnf
  refine⟨⟨by omega,by omega⟩,?_⟩
  conv=>whnf
  refine⟨by have:=hF.flat;omega,(css.set i [.bool b1,.slice a1 n1 c1,.bool b2,.slice a2 n2 c2]).flatten,?_,?_⟩
  ·have:=flat_set (cs:=[.bool b1,.slice a1 n1 c1,.bool b2,.slice a2 n2 c2]) hF.four (show i<css.length by rw[hF.len];exact h)
   rw[←this]
   simp
  conv=>whnf
  refine⟨((i+1:Nat):Int),by rw[wrap64]<;>omega,?_⟩
  conv=>whnf
  intro ρ3 w3 r3
  exact⟨(i+1,css.set i [.bool b1,.slice a1 n1 c1,.bool b2,.slice a2 n2 c2],iv2,w3),⟨h,hw.tr r3.bel,hnext.rel r3 (oldF w)⟩,Sub.gen [] r3 ⟨rfl,trivial⟩ ⟨rfl,rfl,rfl,trivial⟩ (by simp[ScH,Blk.scopd]) (by simp[ScE,SV.sc,At.sc]) (by rfl) (fun lo hi h=>h),by dsimp only;omega⟩
 ·have h:i=n:=by
   have:¬i<n:=by simpa using h
   omega
  subst h
  conv=>whnf
  intro ρe we re
  exact⟨_,rfl,hw.tr re.bel,hF.done (by simp) (by unfold maxLen;omega) re (id:=0) rfl (re.nn 0 _ rfl (by intros;simp) (by simp))⟩
end Go.Ex

/- Values of a list, of a matrix. No condition but sizes. -/
namespace Go.Ex
open Go Go.Sx Go.Proofs

def ratioP(x:Int×Int):Rat:=ratio x.1 x.2
/-- all limbs are few -/
def Few(xs:List (Int×Int)):Prop:=∀x∈xs,ln x.1.natAbs≤10000000000∧ln x.2.natAbs≤10000000000
theorem values_c{S:Nat→Prop}{w:World}{v:Value}{xs:List (Int×Int)}(hS:Old S w)(h:RatsR w S v xs)(hf:Few xs)(hn:xs.length≤1000000):
  Con PG N.exact_values #[v] w (Ret w fun v' w2=>RowX w2 (fun _=>False) w.heap.size [(w.heap.size,w2.heap.size)] v' xs.length (xs.map ratioP)):=by
 replace h:=RatsR.arg h []
 obtain⟨a,c,rfl,hc,-⟩:=ListR.shape h
 refine in_exact_values (by simp) ?_
 conv=>whnf
 refine⟨xs.length,xs.length,rfl,rfl,Nat.le_refl _,by omega,by omega,?_⟩
 conv=>whnf
 refine⟨Nat×List (List Value)×Iv×World,fun z=>⟨[(3,.o (.s 0 0 xs.length xs.length)),(9,.o (.v (.slice a xs.length c))),(10,.o (.v (.int .i64 xs.length))),(11,.o (.v (.int .i64 z.1)))],[(0,.arr T.fraction z.2.1.flatten)],1,z.2.2.1,z.2.2.2⟩,fun z=>xs.length-z.1,
  fun z=>z.1≤xs.length∧Bel w.heap.size w z.2.2.2∧RatsR z.2.2.2 (Cv S w.heap.size z.2.2.1) (.slice a xs.length c) xs∧Fill z.2.2.2 (Cv (fun _=>False) w.heap.size z.2.2.1) xs.length z.1 z.2.1 (xs.map ratioP),?_,?_⟩
 ·intro ρ w' r
  exact⟨(0,List.replicate xs.length f0,[],w'),⟨by simp,r.bel,RatsR.rel h r hS,Fill.start _ _ _ _⟩,Sub.gen [] r ⟨rfl,trivial⟩ ⟨rfl,rfl,rfl,rfl,trivial⟩ (by simp[ScH,Blk.scopd]) (by simp[ScE,SV.sc,At.sc]) (by rfl) (by simp)⟩
 clear h
 rintro⟨i,css,iv,w1⟩ ⟨hi,hw,hX,hF⟩
 dsimp only at hi hw hX hF ⊢
 conv=>whnf
 refine BrS.mk (fun h=>?_) (fun h=>?_)
 ·have h:i<xs.length:=by simpa using h
  obtain⟨x,hx⟩:∃x,xs[i]? =some x:=⟨_,List.getElem?_eq_getElem h⟩
  obtain⟨ad,cs,rfl,hR,-,hl⟩:=ListR.load hX hx
  obtain⟨b3,a3,n3,c3,b4,a4,n4,c4,rfl,hR⟩:=hR
  obtain⟨f1,f2⟩:=hf x (List.mem_of_getElem? hx)
  conv=>whnf
  refine⟨ad,rfl,⟨by omega,by omega⟩,?_⟩
  conv=>whnf
  refine⟨[.bool b3,.slice a3 n3 c3,.bool b4,.slice a4 n4 c4],rfl,fun ρ w' r j u hu=>?_,?_⟩
  ·obtain⟨k1,k2⟩:=hl j u hu
   have:=Rel.same r hS k1
   rw[Int.toNat_natCast,cell_of_heap (w:=w1) (w2:=w') (by rw[addB,addB];exact this)]
   exact k2
  conv=>whnf
  refine callE_S (callE_con (Φ:=fun _ w' v w2=>FracR w2 (Nw (fun _=>False) w' w2) v (ratioP x)) (fun ρ w' r=>value_c (Rel.old r hS) (hR.rel r hS) (by omega) (by omega)) ?_)
  rintro ρ wa v1 wb r he hb hO
  have hON:=hO.got (S:=fun _=>False) r.baseLe (iv:=(wa.heap.size,wb.heap.size)::iv) List.mem_cons_self
  replace hF:=hF.past (iv':=(wa.heap.size,wb.heap.size)::iv) r (oldF w) he fun x hx=>List.mem_cons_of_mem _ hx
  replace hX:=RatsR.past (iv':=(wa.heap.size,wb.heap.size)::iv) hX r hS he fun x hx=>List.mem_cons_of_mem _ hx
  replace hw:=hw.tr hb
  clear r he hb hO hl hR
  generalize (wa.heap.size,wb.heap.size)::iv=iv2 at*
  obtain⟨b1,a1,n1,c1,b2,a2,n2,c2,rfl⟩:=hON.shape
  have hnext:=hF.next h (q:=ratioP x) (by rw[List.getElem?_map,hx];rfl) hON
  conv=>whnf
  refine⟨⟨by omega,by omega⟩,?_⟩
  conv=>whnf
  refine⟨by have:=hF.flat;omega,(css.set i [.bool b1,.slice a1 n1 c1,.bool b2,.slice a2 n2 c2]).flatten,?_,?_⟩
  ·have:=flat_set (cs:=[.bool b1,.slice a1 n1 c1,.bool b2,.slice a2 n2 c2]) hF.four (show i<css.length by rw[hF.len];exact h)
   rw[←this]
   simp
  conv=>whnf
  refine⟨((i+1:Nat):Int),by rw[wrap64]<;>omega,?_⟩
  conv=>whnf
  intro ρ3 w3 r3
  exact⟨(i+1,css.set i [.bool b1,.slice a1 n1 c1,.bool b2,.slice a2 n2 c2],iv2,w3),⟨h,hw.tr r3.bel,RatsR.rel hX r3 hS,hnext.rel r3 (oldF w)⟩,Sub.gen [] r3 ⟨rfl,trivial⟩ ⟨rfl,rfl,rfl,rfl,trivial⟩ (by simp[ScH,Blk.scopd]) (by simp[ScE,SV.sc,At.sc]) (by rfl) (fun lo hi h=>h),by dsimp only;omega⟩
 ·have h:i=xs.length:=by
   have:¬i<xs.length:=by simpa using h
   omega
  subst h
  conv=>whnf
  intro ρe we re
  exact⟨_,rfl,hw.tr re.bel,hF.done (by simp) (by unfold maxLen;omega) re (id:=0) rfl (re.nn 0 _ rfl (by intros;simp) (by simp))⟩
end Go.Ex

/- Rows that are made one by one; matrix. No condition but sizes. -/
namespace Go.Ex
open Go Go.Sx Go.Proofs

/-- rows of one's own making: their blocks are new and apart, their limbs lie elsewhere -/
structure RowsX(w:World)(S:Nat→Prop)(B:Nat)(iv:Iv)(rv:List Value)(n:Nat)(M:List (List Rat)):Prop where
 len:rv.length=M.length
 row:∀(i:Nat) v qs,rv[i]? =some v→M[i]? =some qs→RowW w (fun g=>Cv S B iv g∧¬ ∃u∈rv,u.ownBlock=some g) v n qs
 dis:∀(i j:Nat) a b g,rv[i]? =some a→rv[j]? =some b→a.ownBlock=some g→b.ownBlock=some g→i=j
 new:∀v∈rv,∀g,v.ownBlock=some g→Cv (fun _=>False) B iv g
theorem oldF'(B:Nat):∀g,(fun _:Nat=>False) g→g<B:=fun _ h=>h.elim
theorem cvF{S:Nat→Prop}{B:Nat}{iv:Iv}{g:Nat}(h:Cv (fun _=>False) B iv g):Cv S B iv g:=h.elim (fun h=>h.elim) .inr
section
variable{S S':Nat→Prop}{H:Hp}{nx n i:Nat}{iv iv':Iv}{B:Nat}{w w1 w' w2:World}{ρ:Nat→Sx.Val}{rv:List Value}{M:List (List Rat)}
theorem RowsX.keep(h:RowsX w S B iv rv n M)(hk:∀g,Cv S B iv g→w2.heap[g]? =w.heap[g]?):RowsX w2 S B iv rv n M:=
 ⟨h.len,fun i v qs h1 h2=>(h.row i v qs h1 h2).keep fun g hg=>hk g (hg.elim (fun h=>h.1) fun hg=>cvF (h.new v (List.mem_of_getElem? h1) g hg)),h.dis,h.new⟩
theorem RowsX.rel(h:RowsX w S B iv rv n M)(r:Rel H nx iv B w ρ w')(hS:∀g,S g→g<B):RowsX w' S B iv rv n M:=h.keep fun _ hg=>Rel.same r hS hg
theorem RowsX.past(h:RowsX w S B iv rv n M)(r:Rel H nx iv B w ρ w')(hS:∀g,S g→g<B)(he:Ext w' w2)(hm:∀p,p∈iv→p∈iv'):RowsX w2 S B iv' rv n M:=
 have h2:=(h.rel r hS).keep fun g hg=>he.block g (Rel.old r hS g hg)
 ⟨h2.len,fun i v qs k1 k2=>(h2.row i v qs k1 k2).weak fun _ hg=>⟨hg.1.mono hm,hg.2⟩,h2.dis,fun v hv g hg=>(h2.new v hv g hg).mono hm⟩
theorem RowsX.nil(w:World)(S:Nat→Prop)(B:Nat)(iv:Iv)(n:Nat):RowsX w S B iv [] n []:=⟨rfl,by simp,by simp,by simp⟩
/-- one row more -/
theorem RowsX.snoc(h:RowsX w S B iv rv n M)(r:Rel H nx iv B w ρ w')(hS:∀g,S g→g<B)(he:Ext w' w2){v:Value}{qs:List Rat}(hv:RowW w2 (fun g=>Cv S B ((w'.heap.size,w2.heap.size)::iv) g∧v.ownBlock≠some g∧¬ ∃u∈rv,u.ownBlock=some g) v n qs)
  (hnew:∀g,v.ownBlock=some g→w'.heap.size≤g∧g<w2.heap.size):RowsX w2 S B ((w'.heap.size,w2.heap.size)::iv) (rv++[v]) n (M++[qs]):=by
 have hold:∀g,Cv S B iv g→g<w'.heap.size:=Rel.old r hS
 have h2:=h.past (iv':=(w'.heap.size,w2.heap.size)::iv) r hS he fun x hx=>List.mem_cons_of_mem _ hx
 have hvold:∀g,Cv S B iv g→v.ownBlock≠some g:=fun g hg e=>by have:=hold g hg;have:=(hnew g e).1;omega
 refine⟨by simp[h.len],fun i u ps h3 h4=>?_,fun i j a b g h3 h4 h5 h6=>?_,fun u hu g hg=>?_⟩
 ·rcases Nat.lt_or_ge i rv.length with hi|hi
  ·rw[List.getElem?_append_left hi]at h3
   rw[List.getElem?_append_left (by rw[←h.len];exact hi)]at h4
   have h5:=((h.rel r hS).keep (w2:=w2) fun g hg=>he.block g (hold g hg)).row i u ps h3 h4
   refine h5.weak fun g hg=>⟨hg.1.mono fun x hx=>List.mem_cons_of_mem _ hx,fun⟨x,hx,e⟩=>?_⟩
   rcases List.mem_append.1 hx with hx|hx
   ·exact hg.2 ⟨x,hx,e⟩
   ·simp at hx;subst hx;exact hvold g hg.1 e
  ·rw[List.getElem?_append_right hi]at h3
   rw[List.getElem?_append_right (by rw[←h.len];exact hi)]at h4
   have h0:i-rv.length=0:=by
    have:=(List.getElem?_eq_some_iff.1 h3).1
    simp at this
    omega
   rw[h0]at h3
   rw[←h.len,h0]at h4
   simp at h3 h4
   subst h3 h4
   refine hv.weak fun g hg=>⟨hg.1,fun⟨x,hx,e⟩=>?_⟩
   rcases List.mem_append.1 hx with hx|hx
   ·exact hg.2.2 ⟨x,hx,e⟩
   ·simp at hx;subst hx;exact hg.2.1 e
 ·have key:∀(i:Nat) a,(rv++[v])[i]? =some a→rv[i]? =some a∨(i=rv.length∧a=v):=fun i a ha=>by
   rcases Nat.lt_or_ge i rv.length with hi|hi
   ·rw[List.getElem?_append_left hi]at ha;exact .inl ha
   ·rw[List.getElem?_append_right hi]at ha
    have:=(List.getElem?_eq_some_iff.1 ha).1
    simp at this
    rw[this]at ha
    simp at ha
    exact .inr ⟨by omega,ha.symm⟩
  have hvn:∀(i:Nat) a,rv[i]? =some a→a.ownBlock=some g→v.ownBlock≠some g:=fun i a ha e=>hvold g (cvF (h.new a (List.mem_of_getElem? ha) g e))
  rcases key i a h3 with k1|⟨k1,rfl⟩<;>rcases key j b h4 with k2|⟨k2,rfl⟩
  ·exact h.dis i j a b g k1 k2 h5 h6
  ·exact absurd h6 (hvn i a k1 h5)
  ·exact absurd h5 (hvn j b k2 h6)
  ·omega
 ·rcases List.mem_append.1 hu with hu|hu
  ·exact(h.new u hu g hg).mono fun x hx=>List.mem_cons_of_mem _ hx
  ·simp at hu
   subst hu
   have:=hnew g hg
   exact .inr ⟨by have:=r.baseLe;omega,_,_,List.mem_cons_self,this.1,this.2⟩
/-- one row more, by a call -/
theorem RowsX.snocX(h:RowsX w S B iv rv n M)(r:Rel H nx iv B w ρ w')(hS:∀g,S g→g<B)(he:Ext w' w2){v:Value}{qs:List Rat}(hx:RowX w2 (fun _=>False) w'.heap.size [(w'.heap.size,w2.heap.size)] v n qs):
  RowsX w2 S B ((w'.heap.size,w2.heap.size)::iv) (rv++[v]) n (M++[qs]):=by
 have key:∀g,Cv (fun _=>False) w'.heap.size [(w'.heap.size,w2.heap.size)] g→w'.heap.size≤g∧g<w2.heap.size:=fun g hg=>by
  rcases hg with hg|⟨h1,lo,hi,h2,h3,h4⟩
  ·exact hg.elim
  ·simp at h2
   obtain⟨rfl,rfl⟩:=h2
   exact⟨h3,h4⟩
 refine h.snoc r hS he (hx.row.weak fun g hg=>?_) fun g hg=>key g (hx.new g hg)
 have:=key g hg.1
 refine⟨.inr ⟨by have:=r.baseLe;omega,_,_,List.mem_cons_self,this.1,this.2⟩,hg.2,fun⟨u,hu,e⟩=>?_⟩
 have:=Rel.old r (oldF' B) g (h.new u hu g e)
 omega
/-- rows in an array of one's own are a matrix -/
theorem RowsX.mat(h:RowsX w S B iv rv n M)(r:Rel H nx iv B w ρ w')(hS:∀g,S g→g<B){id:Nat}(hH:getH H id=some (.arr T.row rv))(hnil:(ρ id).nil=false)(hR:rv.length≤maxLen)(_h1:∀u∈rv,u.oneCell'=true):
  MatW w' (fun g=>Cv S B iv g∧¬Mb (.slice (some ⟨(ρ id).g,0,none⟩) rv.length rv.length) rv g) (.slice (some ⟨(ρ id).g,0,none⟩) rv.length rv.length) rv n M:=by
 have h2:=h.rel r hS
 have hnot:∀g,Cv S B iv g→(ρ id).g≠g:=fun g hg=>Rel.not r hS hg id _ hH hnil
 refine⟨⟨by simp,.inr ⟨(ρ id).g,rv.length,rv.toArray,rfl,Nat.zero_le _,r.arr id _ _ hH,Nat.le_refl _,hR,by simp,by simp⟩⟩,h.len,fun i v qs h3 h4=>?_,h.dis,fun v hv g hg e=>?_⟩
 ·refine(h2.row i v qs h3 h4).weak fun g hg=>⟨hg.1,fun hm=>?_⟩
  rcases hm with hm|hm
  ·injection hm with hm
   exact hnot g hg.1 hm
  ·exact hg.2 hm
 ·injection e with e
  exact hnot g (cvF (h.new v hv g hg)) e
/-- a matrix of a call's own making -/
structure MatX(w:World)(S:Nat→Prop)(B:Nat)(iv:Iv)(vm:Value)(n:Nat)(M:List (List Rat)):Prop where
 ex:∃rv,MatW w (fun g=>Cv S B iv g∧¬Mb vm rv g) vm rv n M∧∀g,Mb vm rv g→Cv (fun _=>False) B iv g
theorem MatX.got{vm:Value}(h:MatX w2 (fun _=>False) w'.heap.size [(w'.heap.size,w2.heap.size)] vm n M)(hB:B≤w'.heap.size)(hm:(w'.heap.size,w2.heap.size)∈iv):MatX w2 S B iv vm n M:=by
 have key:∀g {X:Nat→Prop},Cv (fun _=>False) w'.heap.size [(w'.heap.size,w2.heap.size)] g→Cv X B iv g:=fun g X hg=>by
  rcases hg with hg|⟨h1,lo,hi,h2,h3,h4⟩
  ·exact hg.elim
  ·simp at h2
   obtain⟨rfl,rfl⟩:=h2
   exact .inr ⟨by omega,_,_,hm,h3,h4⟩
 obtain⟨rv,h1,h2⟩:=h.ex
 exact⟨rv,h1.weak fun g hg=>⟨key g hg.1,hg.2⟩,fun g hg=>key g (h2 g hg)⟩
theorem MatW.one{vm:Value}(h:MatW w S vm rv n M):∀u∈rv,u.oneCell'=true:=fun u hu=>by
 obtain⟨i,hi⟩:=List.getElem?_of_mem hu
 have hl:=(List.getElem?_eq_some_iff.1 hi).1
 obtain⟨css,h1,_⟩:=h.row i u _ hi (List.getElem?_eq_getElem (by rw[←h.len];exact hl))
 obtain⟨a,c,rfl,_⟩:=row_form h1
 rfl
/-- .. read only -/
theorem MatW.read{vm:Value}(h:MatW w S vm rv n M):MatR w (fun g=>S g∨Mb vm rv g) vm M:=by
 refine⟨rv,?_,h.len,fun i u qs h1 h2=>?_⟩
 ·have hl:=h.len
  rw[←hl]
  rcases h.out.2 with⟨rfl,h0⟩|⟨g,cap,cur,rfl,hb,hc,hmc,hcap,hsz,htake⟩
  ·have:rv=[]:=List.eq_nil_of_length_eq_zero h0
   subst this
   exact⟨by simp[maxLen],by simp,by simp,none,0,rfl,Nat.le_refl _,by simp⟩
  ·refine⟨by omega,h.out.1,h.one,_,cap,rfl,hmc,fun j u hu=>⟨_,rfl,.inr (.inl rfl),?_⟩⟩
   exact h.out.cells (g:=g) rfl j u hu
 ·have h3:RowW w S u n qs:=h.row i u qs h1 h2
  exact h3.read.weak (fun g hg=>.inr (.inr ⟨u,List.mem_of_getElem? h1,hg⟩)) fun g hg=>.inl hg
theorem MatX.read{vm:Value}(h:MatX w S B iv vm n M):MatR w (Cv S B iv) vm M:=by
 obtain⟨rv,h1,h2⟩:=h.ex
 exact MatR.weak h1.read fun g hg=>hg.elim (fun h=>h.1) fun hg=>cvF (h2 g hg)
end
theorem matrix_c{S:Nat→Prop}{w:World}{v:Value}{M:List (List (Int×Int))}{n:Nat}(hS:Old S w)(h:RatMR w S v M)(hf:∀r∈M,Few r)(hrow:∀r∈M,r.length=n)(hn:n≤1000000)(hR:M.length≤1000000):
  Con PG N.exact_matrix #[v] w (Ret w fun v' w2=>MatX w2 (fun _=>False) w.heap.size [(w.heap.size,w2.heap.size)] v' n (M.map (·.map ratioP))):=by
 replace h:=RatMR.arg h []
 obtain⟨a,c,rfl,hc,-⟩:=SlicesR.shape h
 refine in_exact_matrix (by simp) ?_
 conv=>whnf
 refine⟨M.length,M.length,rfl,rfl,Nat.le_refl _,by omega,by omega,?_⟩
 conv=>whnf
 refine⟨List Value×Iv×World,fun z=>⟨[(3,.o (.s 0 0 M.length M.length)),(9,.o (.v (.slice a M.length c))),(10,.o (.v (.int .i64 M.length))),(11,.o (.v (.int .i64 z.1.length)))],[(0,.arr T.row (z.1++List.replicate (M.length-z.1.length) (.slice none 0 0)))],1,z.2.1,z.2.2⟩,fun z=>M.length-z.1.length,
  fun z=>z.1.length≤M.length∧Bel w.heap.size w z.2.2∧RatMR z.2.2 (Cv S w.heap.size z.2.1) (.slice a M.length c) M∧RowsX z.2.2 (fun _=>False) w.heap.size z.2.1 z.1 n ((M.take z.1.length).map (·.map ratioP))∧∀u∈z.1,u.oneCell'=true,?_,?_⟩
 ·intro ρ w' r
  exact⟨([],[],w'),⟨by simp,r.bel,RatMR.rel h r hS,by simpa using RowsX.nil _ _ _ _ _,by simp⟩,Sub.gen [] r ⟨rfl,trivial⟩ ⟨rfl,rfl,rfl,rfl,trivial⟩ (by simp[ScH,Blk.scopd]) (by simp[ScE,SV.sc,At.sc]) (by rfl) (by simp)⟩
 clear h
 rintro⟨rv,iv,w1⟩ ⟨hi,hw,hX,hF,h1c⟩
 dsimp only at hi hw hX hF h1c ⊢
 conv=>whnf
 refine BrS.mk (fun h=>?_) (fun h=>?_)
 ·have h:rv.length<M.length:=by simpa using h
  obtain⟨x,hx⟩:∃x,M[rv.length]? =some x:=⟨_,List.getElem?_eq_getElem h⟩
  obtain⟨ad,u,rfl,hR1,hl1,hl2⟩:=SlicesR.load hX hx
  obtain⟨a2,c2,rfl⟩:=SlicesR.rowShape hR1
  have hxl:=hrow x (List.mem_of_getElem? hx)
  conv=>whnf
  refine⟨ad,rfl,⟨by omega,by omega⟩,?_⟩
  conv=>whnf
  refine⟨.slice a2 x.length c2,fun ρ w' r=>?_,?_⟩
  ·have:=Rel.same r hS hl1
   rw[Int.toNat_natCast,cell_of_heap (w:=w1) (w2:=w') (by rw[addB];exact this)]
   exact hl2
  conv=>whnf
  refine callE_S (callE_con (Φ:=fun _ w' v w2=>RowX w2 (fun _=>False) w'.heap.size [(w'.heap.size,w2.heap.size)] v n (x.map ratioP)) (fun ρ w' r=>by rw[←hxl];exact values_c (Rel.old r hS) (RatsR.rel hR1 r hS) (hf x (List.mem_of_getElem? hx)) (by omega)) ?_)
  rintro ρ wa v1 wb r he hb hO
  have hF2:=hF.snocX r (oldF w) he hO
  replace hX:=RatMR.past (iv':=(wa.heap.size,wb.heap.size)::iv) hX r hS he fun x hx=>List.mem_cons_of_mem _ hx
  replace hw:=hw.tr hb
  obtain⟨a3,c3,rfl,-⟩:=hO.row.form
  clear r he hb hO hR1 hF hl1 hl2
  generalize (wa.heap.size,wb.heap.size)::iv=iv2 at*
  conv=>whnf
  refine⟨⟨by omega,by omega⟩,?_⟩
  conv=>whnf
  refine⟨by simp;omega,(rv++[.slice a3 n c3])++List.replicate (M.length-(rv.length+1)) (.slice none 0 0),?_,?_⟩
  ·have h5:M.length-rv.length=(M.length-(rv.length+1))+1:=by omega
   simp[h5,List.replicate_succ]
  conv=>whnf
  refine⟨((rv.length+1:Nat):Int),by rw[wrap64]<;>omega,?_⟩
  conv=>whnf
  intro ρ3 w3 r3
  have hl3:(rv++[Value.slice a3 n c3]).length=rv.length+1:=by simp
  refine⟨(rv++[.slice a3 n c3],iv2,w3),⟨by dsimp only;rw[hl3];exact h,hw.tr r3.bel,RatMR.rel hX r3 hS,?_,?_⟩,Sub.gen [] r3 ⟨by dsimp only;rw[hl3];rfl,trivial⟩ ⟨rfl,rfl,rfl,by dsimp only;rw[hl3];rfl,trivial⟩ (by simp[ScH,Blk.scopd]) (by simp[ScE,SV.sc,At.sc]) (by rfl) (fun lo hi h=>h),by dsimp only;rw[hl3];omega⟩
  ·dsimp only
   rw[hl3,List.take_add_one,hx,List.map_append]
   exact hF2.rel r3 (oldF w)
  ·intro u hu
   rcases List.mem_append.1 hu with hu|hu
   ·exact h1c u hu
   ·simp at hu;subst hu;rfl
 ·have h:rv.length=M.length:=by
   have:¬rv.length<M.length:=by simpa using h
   omega
  rw[h,List.take_length]at hF
  rw[h,Nat.sub_self,List.replicate_zero,List.append_nil]
  conv=>whnf
  intro ρe we re
  refine⟨_,rfl,hw.tr re.bel,?_⟩
  have hnil:=re.nn 0 _ rfl (by intros;simp) (by simp)
  have hm:=hF.mat re (oldF w) (id:=0) rfl hnil (by unfold maxLen;omega) h1c
  rw[h]at hm
  have key:∀g,Cv (fun _=>False) w.heap.size iv g→Cv (fun _=>False) w.heap.size [(w.heap.size,we.heap.size)] g:=fun g hg=>by
   rcases hg with hg|⟨h1,lo,hi,h2,h3,h4⟩
   ·exact hg.elim
   ·exact .inr ⟨h1,_,_,List.mem_singleton.2 rfl,h1,by have:=re.ivs lo hi h2;have:=re.size;omega⟩
  have hlow:=re.low 0 _ rfl hnil
  refine⟨rv,hm.weak fun g hg=>⟨key g hg.1,hg.2⟩,fun g hg=>?_⟩
  rcases hg with hg|⟨u,hu,hg⟩
  ·injection hg with hg
   subst hg
   exact .inr ⟨hlow.1,_,_,List.mem_singleton.2 rfl,hlow.1,hlow.2⟩
  ·exact key g (hF.new u hu g hg)
end Go.Ex
