/- A part of the proof: texts XTg to XTg. Each tells its conditions in its theorems. -/
import Derived.Test.YtkdcaknoaeicdaaGreatP8
/- Regions that draw their order: loads of one's own are looked at early, and again behind each operation that may write. No condition. -/
namespace Go.Ex
open Go Go.Sx Go.Proofs
section
variable{P:Program}{ops:Array Oper}{Q:Exit→Act→World→Prop}{md:Region.Mode}
theorem wpOp_putN{j:Nat}{oi oj:Oper}{v:Value}{X:Sem Next}(hj:ops[j]? =some oj)(hap:oi.apart ops oj=true)
  (hsi:∀cs b,oi.op≠ .select cs b) (hsj:∀cs b,oj.op≠ .select cs b)
  (hQ:∀c a w,Q (.panic c) (a.put oi.dst v) w→Q (.panic c) a w) {K:Act→World→Prop} {a:Act} {w:World}
  (hy:Region.wanted oi (yielded ops a.tmps)=true∧execOp a.eval oi=X) (h:wpOp P ops Q j K (a.put oi.dst v) w):
  wpOp P ops Q j (fun a' w'=>(Region.wanted oi (yielded ops a'.tmps)=true∧execOp a'.eval oi=X)∧K (a'.put oi.dst v) w') a w:=by
 obtain⟨h1,h2,h3⟩:=Oper.apart_spec hap
 have keep:∀(a:Act),(Region.wanted oi (yielded ops a.tmps)=true∧execOp a.eval oi=X)→∀u,(Region.wanted oi (yielded ops (a.put oj.dst u).tmps)=true∧execOp (a.put oj.dst u).eval oi=X):=fun a hy u=>
  ⟨(wanted_put oi a oj.dst u h3).trans hy.1,(execOp_put oi hsi a oj.dst u h3).trans hy.2⟩
 have keepD:∀d:Deferred,(Region.wanted oi (yielded ops ({a with defers:=d::a.defers}:Act).tmps)=true∧execOp ({a with defers:=d::a.defers}:Act).eval oi=X):=fun d=>hy
 unfold wpOp at*
 simp only[hj]at*
 rw[wanted_put oj a oi.dst v h1]at h
 split
 ·rename_i hw
  simp only[hw,if_true]at h
  rcases h with h|⟨hasks,hlets⟩
  case inr=>exact .inr ⟨by unfold Oper.asks at *;rw[execOp_put oj hsj a oi.dst v h1]at hasks;exact hasks,hlets⟩
  refine .inl ?_
  unfold Oper.wp at*
  rw[execOp_put oj hsj a oi.dst v h1]at h
  generalize (execOp a.eval oj).run P w=r at*
  cases r with
  |ok n w'=>
   cases n<;>simp only[Oper.upon]at h ⊢
   case value u=>exact⟨keep a hy u,by rw[←Act.put_comm a v u h2];exact h⟩
   case skip=>exact⟨keep a hy _,by rw[←Act.put_comm a v undef h2];exact h⟩
   case defer d=>
    refine⟨keep ({a with defers:=d::a.defers}:Act) (keepD d) undef,?_⟩
    rw[←Act.put_comm _ v undef h2,←Act.put_defers]
    exact h
   case enter f args=>
    refine Calls.mono h fun e w'' he=>?_
    cases e with
    |returned u=>exact⟨keep a hy u,by rw[←Act.put_comm a v u h2];exact he⟩
    |panicked c=>exact hQ _ _ _ he
    |outgrown=>exact he
   case row row args=>exact Rows.mono h fun u w'' he=>⟨keep a hy u,by rw[←Act.put_comm a v u h2];exact he⟩
  |halt x w'=>
   cases x<;>simp only[Oper.upon]at h ⊢
   case panic u=>exact hQ _ _ _ h
 ·rename_i hw
  simp only[hw]at h
  exact⟨keep a hy _,by rw[←Act.put_comm a v undef h2];exact h⟩
/-- whatever order is picked from here on, I holds at each step -/
def wpAnyI(P:Program)(md:Region.Mode)(ops:Array Oper)(Q:Exit→Act→World→Prop)(I:Array Bool→World→Prop):Nat→Array Bool→Act→World→Prop
 |0,lx,a,w=>I lx w∧Region.ready md ops lx=[]∧Q .normal a w
 |fuel+1,lx,a,w=>I lx w∧(Region.ready md ops lx=[]→Q .normal a w)∧∀i∈Region.ready md ops lx,wpOp P ops Q i (fun a' w'=>wpAnyI P md ops Q I fuel (lx.setIfInBounds i true) a' w') a w
theorem wpAny_of_I{I:Array Bool→World→Prop}:∀(fuel:Nat) (lx:Array Bool) (a:Act) (w:World),wpAnyI P md ops Q I fuel lx a w→wpAny P md ops Q fuel lx a w
 |0,_,_,_,h=>h.2
 |fuel+1,_,_,_,h=>⟨h.2.1,fun i hi=>wpOp_mono (fun _ _ h'=>wpAny_of_I fuel _ _ _ h') (h.2.2 i hi)⟩
theorem wpAnyI_mono{I J:Array Bool→World→Prop}(hIJ:∀lx w,I lx w→J lx w):∀(fuel:Nat) (lx:Array Bool) (a:Act) (w:World),wpAnyI P md ops Q I fuel lx a w→wpAnyI P md ops Q J fuel lx a w
 |0,_,_,_,h=>⟨hIJ _ _ h.1,h.2⟩
 |fuel+1,_,_,_,h=>⟨hIJ _ _ h.1,h.2.1,fun i hi=>wpOp_mono (fun _ _ h'=>wpAnyI_mono hIJ fuel _ _ _ h') (h.2.2 i hi)⟩
theorem wpAnyI_done{I:Array Bool→World→Prop}{lx:Array Bool}{a:Act}{w:World}(hI:I lx w)(hr:Region.ready md ops lx=[])(h:Q .normal a w):∀fuel,wpAnyI P md ops Q I fuel lx a w
 |0=>⟨hI,hr,h⟩
 |_+1=>⟨hI,fun _=>h,by rw[hr];simp⟩
/-- no operation that waits for it, and may write, has come up -/
def aliveB(ops:Array Oper)(b:Nat)(lx:Array Bool):Prop:=∀(k:Nat) o,tb b k=true→ops[k]? =some o→isR o.op=false→lx.getD k false=false
theorem aliveB_set{b i:Nat}{oi:Oper}{lx:Array Bool}(hi:ops[i]? =some oi)(hR:isR oi.op=true):aliveB ops b (lx.setIfInBounds i true)↔aliveB ops b lx:=by
 have key:∀(k:Nat) o,ops[k]? =some o→isR o.op=false→(lx.setIfInBounds i true).getD k false=lx.getD k false:=fun k o ho hr=>by
  have:i≠k:=fun e=>by subst e;rw[hi]at ho;injection ho with ho;subst ho;rw[hR]at hr;cases hr
  exact getD_set_ne false this
 exact⟨fun h k o h1 h2 h3=>by rw[←key k o h2 h3];exact h k o h1 h2 h3,fun h k o h1 h2 h3=>by rw[key k o h2 h3];exact h k o h1 h2 h3⟩
theorem wpAnyI_first{i b:Nat}{oi:Oper}{v:Value}(hi:ops[i]? =some oi)(hR:isR oi.op=true)(hsel:∀(j:Nat) (o:Oper) cs b,ops[j]? =some o→o.op≠ .select cs b)
  (hQ:∀c a w,Q (.panic c) (a.put oi.dst v) w→Q (.panic c) a w) (hblk:∀j,tb b j=true→∃oj e,ops[j]? =some oj∧e∈oj.after∧Region.binds md e=true∧(e.on=i∨tb b e.on=true))
  {X:Sem Next} {Y:World→Prop} (hY:∀w,Y w→X.run P w= .ok (.value v) w) {I:Array Bool→World→Prop} (hI:∀lx w,I (lx.setIfInBounds i true) w→I lx w):
  ∀(fuel:Nat) (lx:Array Bool) (a:Act) (w:World),(∀j,tb b j=true→lx.getD j false=false)→
   (∀j oj,ops[j]? =some oj→j≠i→lx.getD j true=false→tb b j=false→oi.apart ops oj=true)→
   i∈Region.ready md ops lx→(Region.wanted oi (yielded ops a.tmps)=true∧execOp a.eval oi=X)→
   wpAnyI P md ops Q (fun lx w=>I lx w∧(aliveB ops b lx→Y w)) fuel (lx.setIfInBounds i true) (a.put oi.dst v) w→wpAnyI P md ops Q I (fuel+1) lx a w:=by
 intro fuel
 have run:∀(lx:Array Bool) (a:Act) (w:World),(∀j,tb b j=true→lx.getD j false=false)→(Region.wanted oi (yielded ops a.tmps)=true∧execOp a.eval oi=X)→(I (lx.setIfInBounds i true) w∧(aliveB ops b (lx.setIfInBounds i true)→Y w))→
   ∀K:Act→World→Prop,K (a.put oi.dst v) w→wpOp P ops Q i K a w:=fun lx a w hbl hy hH K hK=>by
  have hYw:=hH.2 ((aliveB_set hi hR).2 fun k o h1 _ _=>hbl k h1)
  unfold wpOp
  simp only[hi,hy.1,if_true]
  refine .inl ?_
  unfold Oper.wp
  rw[hy.2,hY w hYw]
  exact hK
 induction fuel with
 |zero=>
  intro lx a w hbl _ hr hy H
  refine⟨hI _ _ H.1.1,fun h=>(by rw[h]at hr;cases hr),fun j hj=>?_⟩
  by_cases hji:j=i
  ·subst hji
   exact run lx a w hbl hy H.1 _ (wpAnyI_mono (fun _ _ h=>h.1) 0 _ _ _ H)
  ·have:=ready_mono hj hji
   rw[H.2.1]at this
   cases this
 |succ fuel ih=>
  intro lx a w hbl hfree hr hy H
  refine⟨hI _ _ H.1.1,fun h=>(by rw[h]at hr;cases hr),fun j hj=>?_⟩
  by_cases hji:j=i
  ·subst hji
   exact run lx a w hbl hy H.1 _ (wpAnyI_mono (fun _ _ h=>h.1) (fuel+1) _ _ _ H)
  ·have h1:=H.2.2 j (ready_mono hj hji)
   obtain⟨hjun,oj,hoj,hall⟩:=mem_ready.1 hj
   have hnot:tb b j=false:=by
    cases hb:tb b j with
    |false=>rfl
    |true=>
     exfalso
     obtain⟨oj',e,ho',he,hbi,hor⟩:=hblk j hb
     rw[hoj]at ho';injection ho' with ho';subst ho'
     have h1:=hall e he hbi
     rcases hor with heq|hb2
     ·have h0:=(mem_ready.1 hr).1
      rw[heq]at h1
      rcases Nat.lt_or_ge i lx.size with h'|h'
      ·simp[h']at h0 h1;rw[h0]at h1;cases h1
      ·simp[Array.getElem?_eq_none h']at h1
     ·rw[hbl _ hb2]at h1;cases h1
   have h2:=wpOp_putN hoj (hfree j oj hoj hji hjun hnot) (fun cs b=>hsel i oi cs b hi) (fun cs b=>hsel j oj cs b hoj) hQ hy h1
   have hbl':∀k,tb b k=true→(lx.setIfInBounds j true).getD k false=false:=fun k hk=>by
    rw[getD_set_ne false (fun e=>(by subst e;rw[hnot]at hk;cases hk))];exact hbl k hk
   have hfree':∀k ok,ops[k]? =some ok→k≠i→(lx.setIfInBounds j true).getD k true=false→tb b k=false→oi.apart ops ok=true:=fun k ok hk hki hun hno=>by
    refine hfree k ok hk hki ?_ hno
    by_cases hjk:j=k
    ·subst hjk;exact hjun
    ·rw[getD_set_ne true hjk]at hun;exact hun
   refine wpOp_mono (fun a' w' h3=>?_) h2
   refine ih (lx.setIfInBounds j true) a' w' hbl' hfree' (ready_mono hr (Ne.symm hji)) h3.1 ?_
   rw[Array.setIfInBounds_comm _ _ hji]
   exact h3.2
end
/-- a load that is looked at again: the slot of its address, its own, its type, what cannot come up before it -/
structure Gh where
 u:Nat
 d:Nat
 T:Nat
 b:Nat
def againK(τ:Tab)(B:Nat):List Gh→Env→Hp→Nat→Iv→World→Prop→Prop
 |[],_,_,_,_,_,K=>K
 |g::r,l,H,nx,iv,w,K=>match getE l g.u with
  |some su=>loadK τ B g.T su H nx iv w (fun v=>getE l g.d=some v∧againK τ B r l H nx iv w K)
  |none=>False
inductive Tg where
 |nil
 |x (i:Nat) (t:Tg)
 |two (i:Nat) (t:Tg) (j:Nat) (u:Tg)
 |three (i:Nat) (t:Tg) (j:Nat) (u:Tg) (k:Nat) (v:Tg)
 |ld (i b:Nat) (t:Tg)
 |give (id:Nat) (t:Tg)
def liveG(j:Nat):List Gh→List Gh
 |[]=>[]
 |g::r=>match tb g.b j with
  |true=>liveG j r
  |false=>g::liveG j r
/-- behind a step: what has been loaded is looked at again if the step may write -/
def stepG(τ:Tab)(B:Nat)(rd:Bool)(G:List Gh)(j:Nat)(l:Env)(H:Hp)(nx:Nat)(iv:Iv)(w:World)(K:List Gh→Prop):Prop:=match rd with
 |true=>K G
 |false=>againK τ B (liveG j G) l H nx iv w (K (liveG j G))
def freeQ(ops:Array Oper)(m i:Nat)(oi:Oper)(b:Nat):List Oper→Nat→Bool
 |[],_=>true
 |oj::r,j=>(Nat.beq j i||tb m j||tb b j||oi.apart ops oj)&&freeQ ops m i oi b r (j+1)
/-- no operation that is to come writes these slots -/
def noDst(m i u d:Nat):List Oper→Nat→Bool
 |[],_=>true
 |oj::r,j=>(tb m j||match oj.dst with
   |none=>true
   |some e=> !Nat.beq e u&&(Nat.beq j i|| !Nat.beq e d))&&noDst m i u d r (j+1)
def ldOf(o:Oper):Option (Nat×Nat×Nat):=match o with
 |⟨some d,.load T (.tmp u),_,_,_,none⟩=>some (d,T,u)
 |_=>none
def chkTg(ops:Array Oper):Tg→Array Bool→Bool
 | .nil,lx=>(Region.ready .any ops lx).isEmpty
 | .x i t,lx=>match ops[i]? with
  |none=>false
  |some o=>(Region.ready .any ops lx).contains i&&((Region.ready .any ops lx).all (fun j=>Nat.beq j i)||isP o.op&&o.guard.isNone&&freeQ ops (maskL lx.toList 0) i o (blkM (maskL lx.toList 0) i ops.toList 0 0) ops.toList 0)&&chkTg ops t (lx.setIfInBounds i true)
 | .two i t j u,lx=>match Region.ready .any ops lx with
  |[a,b]=>Nat.beq a i&&(Nat.beq b j&&(chkTg ops t (lx.setIfInBounds i true)&&chkTg ops u (lx.setIfInBounds j true)))
  |_=>false
 | .three i t j u k v,lx=>match Region.ready .any ops lx with
  |[a,b,c]=>Nat.beq a i&&(Nat.beq b j&&(Nat.beq c k&&(chkTg ops t (lx.setIfInBounds i true)&&(chkTg ops u (lx.setIfInBounds j true)&&chkTg ops v (lx.setIfInBounds k true)))))
  |_=>false
 | .ld i b t,lx=>match ops[i]? with
  |none=>false
  |some o=>match ldOf o with
   |none=>false
   |some (d,_,u)=>(Region.ready .any ops lx).contains i&&Nat.beq b (blkM (maskL lx.toList 0) i ops.toList 0 0)&&freeQ ops (maskL lx.toList 0) i o b ops.toList 0&&noDst (maskL lx.toList 0) i u d ops.toList 0&&chkTg ops t (lx.setIfInBounds i true)
 | .give _ t,lx=>chkTg ops t lx
def sxTg(P:Program)(τ:Tab)(B:Nat)(all:List Oper):Tg→List Gh→Env→Hp→Nat→Iv→World→KT→Prop
 | .nil,_,l,H,nx,iv,w,K=>K l H nx iv w
 | .x i t,G,l,H,nx,iv,w,K=>nthK all i (fun o=>sxStep (!voidCall o) P τ B all o l H nx iv w (fun l' H' nx' iv' w'=>stepG τ B (isR o.op) G i l' H' nx' iv' w' (fun G'=>sxTg P τ B all t G' l' H' nx' iv' w' K)))
 | .two i t j u,G,l,H,nx,iv,w,K=>nthK all i (fun o=>sxStep (!voidCall o) P τ B all o l H nx iv w (fun l' H' nx' iv' w'=>stepG τ B (isR o.op) G i l' H' nx' iv' w' (fun G'=>sxTg P τ B all t G' l' H' nx' iv' w' K)))∧
   nthK all j (fun o=>sxStep (!voidCall o) P τ B all o l H nx iv w (fun l' H' nx' iv' w'=>stepG τ B (isR o.op) G j l' H' nx' iv' w' (fun G'=>sxTg P τ B all u G' l' H' nx' iv' w' K)))
 | .three i t j u k v,G,l,H,nx,iv,w,K=>nthK all i (fun o=>sxStep (!voidCall o) P τ B all o l H nx iv w (fun l' H' nx' iv' w'=>stepG τ B (isR o.op) G i l' H' nx' iv' w' (fun G'=>sxTg P τ B all t G' l' H' nx' iv' w' K)))∧
   (nthK all j (fun o=>sxStep (!voidCall o) P τ B all o l H nx iv w (fun l' H' nx' iv' w'=>stepG τ B (isR o.op) G j l' H' nx' iv' w' (fun G'=>sxTg P τ B all u G' l' H' nx' iv' w' K)))∧
   nthK all k (fun o=>sxStep (!voidCall o) P τ B all o l H nx iv w (fun l' H' nx' iv' w'=>stepG τ B (isR o.op) G k l' H' nx' iv' w' (fun G'=>sxTg P τ B all v G' l' H' nx' iv' w' K))))
 | .ld i b t,G,l,H,nx,iv,w,K=>nthK all i (fun o=>match ldOf o with
  |some (d,T,u)=>match getE l u with
   |some su=>loadK τ B T su H nx iv w (fun v=>sxTg P τ B all t (⟨u,d,T,b⟩::G) ((d,v)::l) H nx iv w K)
   |none=>False
  |none=>False)
 | .give id t,G,l,H,nx,iv,w,K=>∃H' b,getH H id=some b∧b≠ .dead∧SubH H H'∧okH id H'=true∧∀ρ w',Rel H nx iv B w ρ w'→(ρ id).nil=false∧∃l',(∀u v,getE l' u=some v→v.sc nx∧∃v',getE l u=some v'∧v'.den ρ=v.den ρ)∧sxTg P τ B all t G l' H' nx (((ρ id).g,(ρ id).g+1)::iv) w' K
section
variable{P:Program}{τ:Tab}{ops:Array Oper}{B n nx:Nat}{l:Env}{H:Hp}{iv:Iv}{w w':World}{ρ:Nat→Sx.Val}{a:Act}
theorem stepI(hτ:TabOK P τ){i:Nat}{o:Oper}(ho:ops[i]? =some o)(hd:∀d,o.dst=some d→d<n){K:KT}{Q:Exit→Act→World→Prop}{next:Act→World→Prop}
  (h1:sxStep (!voidCall o) P τ B ops.toList o l H nx iv w K) (sat:Sat n l H nx iv B w ρ a w')
  (hn:∀l' H' nx' iv' w2 ρ' x w3,K l' H' nx' iv' w2→Sat n l' H' nx' iv' B w2 ρ' (a.put o.dst x) w3→(isR o.op=true→w3=w')→next (a.put o.dst x) w3):
  wpOp P ops Q i next a w':=by
 unfold sxStep at h1
 refine wpOp_wanted ho ?_
 rcases sxGuard_spec sat h1 with⟨hw,l1,h2,sat1⟩|⟨hw,l1,h2,sat1⟩
 ·refine .inl ⟨hw,?_⟩
  cases hR:isR o.op with
  |true=>
   obtain⟨v,hK,hvs,hrun⟩:=(sxOp_reader hτ h2 sat1 hR).resolve_right (fun hh=>by have:=hh.1;rw[voidCall_R hR]at this;cases this)
   obtain⟨l2,h3,sat2⟩:=setE_spec sat1 hK hd hvs
   exact wp_val (hrun w' (.inr sat1.rel)) (hn _ _ _ _ _ _ _ _ h3 sat2 fun _=>rfl)
  |false=>
   have nr:∀w3:World,isR o.op=true→w3=w':=fun w3 h=>by rw[hR]at h;cases h
   cases hA:isA o.op with
   |true=>
    obtain⟨b,v,mk,obj,hK,hbd,hb,hv,hmk,hfit,hal⟩:=sxOp_alloc hτ h2 sat1 hA
    have hrel:Rel ((nx,b)::H) (nx+1) iv B w (Sx.upd ρ nx ⟨w'.heap.size,0,false⟩) (w'.alloc obj):=
     sat1.rel.push b _ rfl rfl rfl (by simp) (fun k hk=>heap_alloc_old _ _ hk) (fun _=>⟨Nat.le_refl _,by simp⟩) (hfit _ _ (heap_alloc_new _ _)) hb
    obtain⟨l2,h3,sat2⟩:=setE_spec (sat1.next hrel (Nat.le_succ _) (fun id hid=>upd_lt id hid)) hK hd hv
    rw[hmk]at sat2
    exact wp_val (v:=mk w'.heap.size) (w2:=w'.alloc obj) (hal w') (hn _ _ _ _ _ _ _ _ h3 sat2 (by rw[hR];exact fun h=>by cases h))
   |false=>
    cases hH:hard o with
    |false=>
     rw[voidCall_soft hH]at h2
     refine sxOp_callE h2 sat1 hR hA hH fun v w2 hK he hs=>?_
     obtain⟨l2,h3,sat2⟩:=setE_spec (v:=.o (.v v)) hs hK hd trivial
     exact hn _ _ _ _ _ _ _ _ h3 sat2 (by rw[hR];exact fun h=>by cases h)
    |true=>
     refine sxOp_sound hτ h2 sat1 fun v H' nx' iv' w2 ρ' w3 hK sat2 hv=>?_
     obtain⟨l2,h3,sat3⟩:=setE_spec sat2 hK hd hv
     exact hn _ _ _ _ _ _ _ _ h3 sat3 (by rw[hR];exact fun h=>by cases h)
 ·obtain⟨l2,h4,sat3⟩:=setE_spec sat1 h2 hd trivial
  exact .inr ⟨hw,hn _ _ _ _ _ _ _ _ h4 sat3 fun _=>rfl⟩
theorem againK_spec(hτ:TabOK P τ)(sat:Sat n l H nx iv B w ρ a w'){K:Prop}:∀(G:List Gh),againK τ B G l H nx iv w K→
  K∧∀g∈G,∃su sv,getE l g.u=some su∧getE l g.d=some sv∧(Instr.loadAt g.T (su.den ρ)).run P w'= .ok (sv.den ρ) w'
 |[],h=>⟨h,fun g hg=>by cases hg⟩
 |g::r,h=>by
  unfold againK at h
  split at h
  ·rename_i su hsu
   obtain⟨v,⟨h1,h2⟩,hv,hrun⟩:=loadK_spec hτ sat.rel (sat.sc _ _ hsu) h
   obtain⟨h3,h4⟩:=againK_spec hτ sat r h2
   refine⟨h3,fun g' hg=>?_⟩
   rcases List.mem_cons.1 hg with rfl|hg
   ·exact⟨su,v,hsu,h1,hrun w' sat.rel⟩
   ·exact h4 g' hg
  ·exact h.elim
theorem mem_liveG{j:Nat}{g:Gh}:∀{G:List Gh},g∈G→tb g.b j=false→g∈liveG j G
 |g'::r,h,hb=>by
  unfold liveG
  rcases List.mem_cons.1 h with rfl|h
  ·rw[hb];exact List.mem_cons_self
  ·split
   ·exact mem_liveG h hb
   ·exact List.mem_cons_of_mem _ (mem_liveG h hb)
abbrev Zh:=Gh×Value×Value
def Yz(P:Program)(z:Zh)(w:World):Prop:=(Instr.loadAt z.1.T z.2.1).run P w= .ok z.2.2 w
structure GOk(ops:Array Oper)(la:Array Bool)(a:Act)(z:Zh):Prop where
 u:a.tmps[z.1.u]? =some z.2.1
 d:a.tmps[z.1.d]? =some z.2.2
 no:∀(j:Nat) oj,ops[j]? =some oj→la.getD j false=false→oj.dst≠some z.1.u∧oj.dst≠some z.1.d
theorem GOk.step{la:Array Bool}{z:Zh}{j:Nat}{oj:Oper}{x:Value}(h:GOk ops la a z)(hj:ops[j]? =some oj)(hl:la.getD j false=false):GOk ops (la.setIfInBounds j true) (a.put oj.dst x) z:=by
 obtain⟨h1,h2⟩:=h.no j oj hj hl
 refine⟨put_get h1 h.u,put_get h2 h.d,fun k ok hk hlk=>h.no k ok hk ?_⟩
 by_cases hjk:j=k
 ·subst hjk;exact hl
 ·rwa [getD_set_ne false hjk]at hlk
def IZ(P:Program)(ops:Array Oper)(Z:List Zh)(lx:Array Bool)(w:World):Prop:=∀z∈Z,aliveB ops z.1.b lx→Yz P z w
theorem ready_un{la:Array Bool}{i:Nat}(h:i∈Region.ready .any ops la):la.getD i false=false:=by
 have:=(mem_ready'.1 h).1
 rw[Array.getD_eq_getD_getElem?,this]
 rfl
theorem alive_step{la:Array Bool}{i b:Nat}{o:Oper}(ho:ops[i]? =some o)(hl:la[i]? =some false)(h:aliveB ops b (la.setIfInBounds i true)):aliveB ops b la∧(isR o.op=false→tb b i=false):=by
 refine⟨fun k ok h1 h2 h3=>?_,fun hR=>?_⟩
 ·by_cases hik:i=k
  ·subst hik;rw[Array.getD_eq_getD_getElem?,hl];rfl
  ·rw[←getD_set_ne false hik];exact h k ok h1 h2 h3
 ·cases hb:tb b i with
  |false=>rfl
  |true=>
   have:=h i o hb ho hR
   have hi:=(Array.getElem?_eq_some_iff.1 hl).1
   rw[Array.getD_eq_getD_getElem?,Array.getElem?_setIfInBounds_self_of_lt hi]at this
   cases this
/-- a step, and what has been loaded is as it was -/
theorem stepZ(hτ:TabOK P τ){la:Array Bool}{i:Nat}{o:Oper}{G:List Gh}{Z:List Zh}(ho:ops[i]? =some o)(hd:∀d,o.dst=some d→d<n)(hr:i∈Region.ready .any ops la){Q:Exit→Act→World→Prop}{next:Act→World→Prop}{K:Env→Hp→Nat→Iv→World→List Gh→Prop}
  (h1:sxStep (!voidCall o) P τ B ops.toList o l H nx iv w (fun l' H' nx' iv' w'=>stepG τ B (isR o.op) G i l' H' nx' iv' w' (K l' H' nx' iv' w'))) (sat:Sat n l H nx iv B w ρ a w')
  (hG:∀z∈Z,aliveB ops z.1.b la→z.1∈G) (hZ:∀z∈Z,GOk ops la a z) (hI:IZ P ops Z la w')
  (hn:∀l' H' nx' iv' w2 ρ' x w3 G',K l' H' nx' iv' w2 G'→Sat n l' H' nx' iv' B w2 ρ' (a.put o.dst x) w3→(∀z∈Z,aliveB ops z.1.b (la.setIfInBounds i true)→z.1∈G')→(∀z∈Z,GOk ops (la.setIfInBounds i true) (a.put o.dst x) z)→IZ P ops Z (la.setIfInBounds i true) w3→next (a.put o.dst x) w3):
  wpOp P ops Q i next a w':=by
 have hl:=(mem_ready'.1 hr).1
 refine stepI hτ ho hd h1 sat fun l' H' nx' iv' w2 ρ' x w3 hK sat2 hw=>?_
 have hZ2:∀z∈Z,GOk ops (la.setIfInBounds i true) (a.put o.dst x) z:=fun z hz=>(hZ z hz).step ho (ready_un hr)
 cases hR:isR o.op with
 |true=>
  rw[hR]at hK
  have hw:=hw hR
  subst hw
  refine hn _ _ _ _ _ _ _ _ G hK sat2 (fun z hz h=>hG z hz (alive_step ho hl h).1) hZ2 fun z hz h=>hI z hz (alive_step ho hl h).1
 |false=>
  rw[hR]at hK
  obtain⟨h2,h3⟩:=againK_spec hτ sat2 _ hK
  refine hn _ _ _ _ _ _ _ _ _ h2 sat2 (fun z hz h=>?_) hZ2 fun z hz h=>?_
  ·obtain⟨k1,k2⟩:=alive_step ho hl h
   exact mem_liveG (hG z hz k1) (k2 hR)
  ·obtain⟨k1,k2⟩:=alive_step ho hl h
   obtain⟨su,sv,e1,e2,e3⟩:=h3 z.1 (mem_liveG (hG z hz k1) (k2 hR))
   have h4:=sat2.env _ _ e1
   have h5:=sat2.env _ _ e2
   rw[(hZ2 z hz).u]at h4
   rw[(hZ2 z hz).d]at h5
   injection h4 with h4
   injection h5 with h5
   unfold Yz
   rw[h4,h5]
   exact e3
end
section
variable{P:Program}{τ:Tab}{ops:Array Oper}{B n nx:Nat}{l:Env}{H:Hp}{iv:Iv}{w w':World}{ρ:Nat→Sx.Val}{a:Act}
theorem freeQ_spec{m i b:Nat}{oi:Oper}:∀(l:List Oper) (k:Nat),freeQ ops m i oi b l k=true→∀(j:Nat) oj,l[j]? =some oj→k+j≠i→tb m (k+j)=false→tb b (k+j)=false→oi.apart ops oj=true
 |[],_,_,j,oj,h,_,_,_=>by cases h
 |o::r,k,h,j,oj,hj,h1,h2,h3=>by
  simp only[freeQ,Bool.and_eq_true,Bool.or_eq_true]at h
  cases j with
  |zero=>
   injection hj with hj
   subst hj
   rcases h.1 with((h4|h4)|h4)|h4
   ·exact absurd (Nat.eq_of_beq_eq_true h4) h1
   ·rw[Nat.add_zero]at h2;rw[h2]at h4;cases h4
   ·rw[Nat.add_zero]at h3;rw[h3]at h4;cases h4
   ·exact h4
  |succ j=>
   have e:k+(j+1)=k+1+j:=by omega
   rw[e]at h1 h2 h3
   exact freeQ_spec r (k+1) h.2 j oj (by simpa using hj) h1 h2 h3
theorem noDst_spec{m i u d:Nat}:∀(l:List Oper) (k:Nat),noDst m i u d l k=true→∀(j:Nat) oj,l[j]? =some oj→tb m (k+j)=false→oj.dst≠some u∧(k+j≠i→oj.dst≠some d)
 |[],_,_,j,oj,h,_=>by cases h
 |o::r,k,h,j,oj,hj,h2=>by
  simp only[noDst,Bool.and_eq_true,Bool.or_eq_true]at h
  cases j with
  |zero=>
   injection hj with hj
   subst hj
   rcases h.1 with h4|h4
   ·rw[Nat.add_zero]at h2;rw[h2]at h4;cases h4
   ·cases ho:o.dst with
    |none=>exact⟨by simp,by simp⟩
    |some e=>
     rw[ho]at h4
     simp only[Bool.and_eq_true,Bool.not_eq_true',Bool.or_eq_true]at h4
     refine⟨fun hh=>?_,fun hne hh=>?_⟩
     ·injection hh with hh;subst hh;have:=h4.1;simp at this
     ·injection hh with hh
      subst hh
      rcases h4.2 with h5|h5
      ·exact hne (Nat.eq_of_beq_eq_true h5)
      ·simp at h5
  |succ j=>
   have e:k+(j+1)=k+1+j:=by omega
   rw[e]at h2 ⊢
   exact noDst_spec r (k+1) h.2 j oj (by simpa using hj) h2
theorem ldOf_spec{o:Oper}{d T u:Nat}(h:ldOf o=some (d,T,u)):o.dst=some d∧o.op= .load T (.tmp u)∧o.guard=none:=by
 unfold ldOf at h
 split at h
 ·injection h with h
  injection h with h1 h2
  injection h2 with h2 h3
  subst h1 h2 h3
  exact⟨rfl,rfl,rfl⟩
 ·cases h
theorem tg_sound(hτ:TabOK P τ)(hok:∀(j:Nat) o,ops[j]? =some o→∀d,o.dst=some d→d<n)(hsel:∀(j:Nat) (o:Oper) cs b,ops[j]? =some o→o.op≠ .select cs b){K:KT}{Q0:Act→World→Prop}
  (hQ:∀l' H' nx' iv' w2 ρ' a' w3,K l' H' nx' iv' w2→Sat n l' H' nx' iv' B w2 ρ' a' w3→Q0 a' w3):
  ∀(t:Tg) (fuel:Nat) (la:Array Bool) (l:Env) (H:Hp) (nx:Nat) (iv:Iv) (w:World) (ρ:Nat→Sx.Val) (a:Act) (w':World) (G:List Gh) (Z:List Zh),unl la≤fuel→la.size=ops.size→chkTg ops t la=true→sxTg P τ B ops.toList t G l H nx iv w K→Sat n l H nx iv B w ρ a w'→
   (∀z∈Z,aliveB ops z.1.b la→z.1∈G)→(∀z∈Z,GOk ops la a z)→IZ P ops Z la w'→wpAnyI P .any ops (QN Q0) (IZ P ops Z) fuel la a w'
 | .nil,fuel,la,l,H,nx,iv,w,ρ,a,w',G,Z,_,_,hc,h,s,hG,hZ,hI=>by
  simp only[chkTg,List.isEmpty_iff]at hc
  exact wpAnyI_done hI hc ⟨rfl,hQ _ _ _ _ _ _ _ _ h s⟩ fuel
 | .x i t,fuel,la,l,H,nx,iv,w,ρ,a,w',G,Z,hf,hz,hc,h,s,hG,hZ,hI=>by
  unfold chkTg at hc
  obtain⟨o,ho,h1⟩:=nthK_spec h
  rw[Array.getElem?_toList]at ho
  simp only[ho,Bool.and_eq_true,Bool.or_eq_true]at hc
  obtain⟨⟨c1,c2⟩,c3⟩:=hc
  have c1:i∈Region.ready .any ops la:=by simpa using c1
  obtain⟨hla,-⟩:=mem_ready'.1 c1
  have hun:=unl_set hla
  obtain⟨f,rfl⟩:∃f,fuel=f+1:=⟨fuel-1,by omega⟩
  have hz2:(la.setIfInBounds i true).size=ops.size:=by rw[Array.size_setIfInBounds,hz]
  rcases c2 with c2|⟨⟨hP,hgd⟩,c4⟩
  ·refine⟨hI,fun h0=>(by rw[h0]at c1;cases c1),fun j hj=>?_⟩
   have hji:j=i:=beq_t (List.all_eq_true.1 c2 j hj)
   subst hji
   exact stepZ hτ ho (hok j o ho) c1 h1 s hG hZ hI fun _ _ _ _ _ _ _ _ G' hk hs hG' hZ' hI'=>tg_sound hτ hok hsel hQ t f _ _ _ _ _ _ _ _ _ G' Z (by omega) hz2 c3 hk hs hG' hZ' hI'
  ·have hR:isR o.op=true:=by
    unfold isP at hP
    split at hP
    ·cases hP
    ·exact hP
   have hm:=rm_mask la
   have hb:=blkM_spec (ops:=ops) (m:=maskL la.toList 0) (i:=i) ops.toList 0 0 (fun n o hn=>by rw[Nat.zero_add];rwa [Array.getElem?_toList]at hn) (fun j hj=>by rw[tb_zero]at hj;cases hj)
   generalize blkM (maskL la.toList 0) i ops.toList 0 0=b at*
   have hg0:o.guard=none:=by simpa using hgd
   unfold sxStep sxGuard at h1
   rw[hg0]at h1
   obtain⟨v,hK,hvs,hrun⟩:=(sxOp_reader hτ h1 s hR).resolve_right (fun hh=>by have:=hh.1;rw[voidCall_R hR]at this;cases this)
   obtain⟨l2,h3,sat2⟩:=setE_spec s hK (hok i o ho) hvs
   rw[hR]at h3
   have hw:Region.wanted o (yielded ops a.tmps)=true:=by simp[Region.wanted,hg0]
   refine wpAnyI_first (v:=v.den ρ) (b:=b) (Y:=fun _=>True) (X:=execOp a.eval o) ho hR hsel (fun c a w hq=>absurd hq.1 (by simp)) (fun j hj=>(hb j hj).2.2) (fun w3 _=>hrun w3 (.inl hP)) (fun lx w h z hz ha=>h z hz ((aliveB_set ho hR).2 ha))
    f la a w' (fun j hj=>(hm j).symm.trans (hb j hj).1) (fun j oj hoj hji hl hk=>freeQ_spec ops.toList 0 c4 j oj (by rw[Array.getElem?_toList];exact hoj) (by omega) (by
     have hj:=(Array.getElem?_eq_some_iff.1 hoj).1
     rw[Nat.zero_add,hm,getD_flip (by omega) false true];exact hl) (by rw[Nat.zero_add];exact hk)) c1 ⟨hw,rfl⟩ ?_
   refine wpAnyI_mono (fun lx w h=>⟨h,fun _=>trivial⟩) _ _ _ _ ?_
   exact tg_sound hτ hok hsel hQ t f _ _ _ _ _ _ _ _ _ G Z (by omega) hz2 c3 h3 sat2 (fun z hz h=>hG z hz ((aliveB_set ho hR).1 h)) (fun z hz=>(hZ z hz).step ho (ready_un c1)) (fun z hz h=>hI z hz ((aliveB_set ho hR).1 h))
 | .two i t k u,fuel,la,l,H,nx,iv,w,ρ,a,w',G,Z,hf,hz,hc,h,s,hG,hZ,hI=>by
  simp only[chkTg]at hc
  split at hc
  ·rename_i x y hr
   simp only[Bool.and_eq_true]at hc
   obtain⟨c1,c2,c3,c4⟩:=hc
   have hx:=Nat.eq_of_beq_eq_true c1
   have hy:=Nat.eq_of_beq_eq_true c2
   subst hx
   subst hy
   obtain⟨h1,h2⟩:=h
   obtain⟨o1,ho1,h1⟩:=nthK_spec h1
   obtain⟨o2,ho2,h2⟩:=nthK_spec h2
   rw[Array.getElem?_toList]at ho1 ho2
   have hm1:x∈Region.ready .any ops la:=by rw[hr];simp
   have hm2:y∈Region.ready .any ops la:=by rw[hr];simp
   have u1:=unl_set (mem_ready'.1 hm1).1
   have u2:=unl_set (mem_ready'.1 hm2).1
   obtain⟨f,rfl⟩:∃f,fuel=f+1:=⟨fuel-1,by omega⟩
   refine⟨hI,fun h0=>(by rw[hr]at h0;cases h0),fun j hj=>?_⟩
   rw[hr,List.mem_cons,List.mem_singleton]at hj
   rcases hj with rfl|rfl
   ·exact stepZ hτ ho1 (hok _ o1 ho1) hm1 h1 s hG hZ hI fun _ _ _ _ _ _ _ _ G' hk hs hG' hZ' hI'=>tg_sound hτ hok hsel hQ t f _ _ _ _ _ _ _ _ _ G' Z (by omega) (by rw[Array.size_setIfInBounds,hz]) c3 hk hs hG' hZ' hI'
   ·exact stepZ hτ ho2 (hok _ o2 ho2) hm2 h2 s hG hZ hI fun _ _ _ _ _ _ _ _ G' hk hs hG' hZ' hI'=>tg_sound hτ hok hsel hQ u f _ _ _ _ _ _ _ _ _ G' Z (by omega) (by rw[Array.size_setIfInBounds,hz]) c4 hk hs hG' hZ' hI'
  ·cases hc
 | .three i t k u m v,fuel,la,l,H,nx,iv,w,ρ,a,w',G,Z,hf,hz,hc,h,s,hG,hZ,hI=>by
  simp only[chkTg]at hc
  split at hc
  ·rename_i x y z9 hr
   simp only[Bool.and_eq_true]at hc
   obtain⟨c1,c2,c6,c3,c4,c5⟩:=hc
   have hx:=Nat.eq_of_beq_eq_true c1
   have hy:=Nat.eq_of_beq_eq_true c2
   have hz9:=Nat.eq_of_beq_eq_true c6
   subst hx
   subst hy
   subst hz9
   obtain⟨h1,h2,h3⟩:=h
   obtain⟨o1,ho1,h1⟩:=nthK_spec h1
   obtain⟨o2,ho2,h2⟩:=nthK_spec h2
   obtain⟨o3,ho3,h3⟩:=nthK_spec h3
   rw[Array.getElem?_toList]at ho1 ho2 ho3
   have hm1:x∈Region.ready .any ops la:=by rw[hr];simp
   have hm2:y∈Region.ready .any ops la:=by rw[hr];simp
   have hm3:z9∈Region.ready .any ops la:=by rw[hr];simp
   have u1:=unl_set (mem_ready'.1 hm1).1
   have u2:=unl_set (mem_ready'.1 hm2).1
   have u3:=unl_set (mem_ready'.1 hm3).1
   obtain⟨f,rfl⟩:∃f,fuel=f+1:=⟨fuel-1,by omega⟩
   refine⟨hI,fun h0=>(by rw[hr]at h0;cases h0),fun j hj=>?_⟩
   rw[hr,List.mem_cons,List.mem_cons,List.mem_singleton]at hj
   rcases hj with rfl|rfl|rfl
   ·exact stepZ hτ ho1 (hok _ o1 ho1) hm1 h1 s hG hZ hI fun _ _ _ _ _ _ _ _ G' hk hs hG' hZ' hI'=>tg_sound hτ hok hsel hQ t f _ _ _ _ _ _ _ _ _ G' Z (by omega) (by rw[Array.size_setIfInBounds,hz]) c3 hk hs hG' hZ' hI'
   ·exact stepZ hτ ho2 (hok _ o2 ho2) hm2 h2 s hG hZ hI fun _ _ _ _ _ _ _ _ G' hk hs hG' hZ' hI'=>tg_sound hτ hok hsel hQ u f _ _ _ _ _ _ _ _ _ G' Z (by omega) (by rw[Array.size_setIfInBounds,hz]) c4 hk hs hG' hZ' hI'
   ·exact stepZ hτ ho3 (hok _ o3 ho3) hm3 h3 s hG hZ hI fun _ _ _ _ _ _ _ _ G' hk hs hG' hZ' hI'=>tg_sound hτ hok hsel hQ v f _ _ _ _ _ _ _ _ _ G' Z (by omega) (by rw[Array.size_setIfInBounds,hz]) c5 hk hs hG' hZ' hI'
  ·cases hc
 | .ld i b t,fuel,la,l,H,nx,iv,w,ρ,a,w',G,Z,hf,hz,hc,h,s,hG,hZ,hI=>by
  unfold chkTg at hc
  obtain⟨o,ho,h1⟩:=nthK_spec h
  rw[Array.getElem?_toList]at ho
  simp only[ho]at hc
  cases hld:ldOf o with
  |none=>rw[hld]at hc;cases hc
  |some q=>
   obtain⟨d,T,u⟩:=q
   rw[hld]at hc h1
   simp only[Bool.and_eq_true]at hc
   obtain⟨⟨⟨⟨c1,c2⟩,c4⟩,c5⟩,c3⟩:=hc
   obtain⟨e1,e2,e3⟩:=ldOf_spec hld
   have c1:i∈Region.ready .any ops la:=by simpa using c1
   obtain⟨hla,-⟩:=mem_ready'.1 c1
   have hun:=unl_set hla
   obtain⟨f,rfl⟩:∃f,fuel=f+1:=⟨fuel-1,by omega⟩
   have hz2:(la.setIfInBounds i true).size=ops.size:=by rw[Array.size_setIfInBounds,hz]
   have hR:isR o.op=true:=by rw[e2];rfl
   have hm:=rm_mask la
   have hb:=blkM_spec (ops:=ops) (m:=maskL la.toList 0) (i:=i) ops.toList 0 0 (fun n o hn=>by rw[Nat.zero_add];rwa [Array.getElem?_toList]at hn) (fun j hj=>by rw[tb_zero]at hj;cases hj)
   rw[←Nat.eq_of_beq_eq_true c2]at hb
   cases hsu:getE l u with
   |none=>simp only[hsu]at h1
   |some su=>
    simp only[hsu]at h1
    obtain⟨v,hK,hvs,hrun⟩:=loadK_spec hτ s.rel (s.sc _ _ hsu) h1
    have hau:=s.env _ _ hsu
    have hdn:=hok i o ho d e1
    have sat2:Sat n ((d,v)::l) H nx iv B w ρ (a.put o.dst (v.den ρ)) w':=by rw[e1];exact s.put hdn hvs
    have hw:Region.wanted o (yielded ops a.tmps)=true:=by simp[Region.wanted,e3]
    have hev:a.eval (.tmp u)=su.den ρ:=by rw[Act.eval,Array.getD_eq_getD_getElem?,hau];rfl
    have hui:tb (maskL la.toList 0) i=false:=by rw[hm];exact ready_un c1
    have hno:=noDst_spec ops.toList 0 c5
    refine wpAnyI_first (v:=v.den ρ) (b:=b) (Y:=Yz P (⟨u,d,T,b⟩,su.den ρ,v.den ρ)) (X:=execOp a.eval o) ho hR hsel (fun c a w hq=>absurd hq.1 (by simp)) (fun j hj=>(hb j hj).2.2) (fun w3 hY=>?_) (fun lx w h z hz ha=>h z hz ((aliveB_set ho hR).2 ha))
     f la a w' (fun j hj=>(hm j).symm.trans (hb j hj).1) (fun j oj hoj hji hl hk=>freeQ_spec ops.toList 0 c4 j oj (by rw[Array.getElem?_toList];exact hoj) (by omega) (by
      have hj:=(Array.getElem?_eq_some_iff.1 hoj).1
      rw[Nat.zero_add,hm,getD_flip (by omega) false true];exact hl) (by rw[Nat.zero_add];exact hk)) c1 ⟨hw,rfl⟩ ?_
    ·unfold Yz at hY
     obtain⟨dst,op,ty,pos,after,guard⟩:=o
     simp only at e2
     subst e2
     simp only[execOp,hev]
     exact run_v hY
    ·refine wpAnyI_mono (I:=IZ P ops ((⟨u,d,T,b⟩,su.den ρ,v.den ρ)::Z)) (fun lx w h=>⟨fun z hz=>h z (List.mem_cons_of_mem _ hz),h _ List.mem_cons_self⟩) _ _ _ _ ?_
     refine tg_sound hτ hok hsel hQ t f _ _ _ _ _ _ _ _ _ (⟨u,d,T,b⟩::G) ((⟨u,d,T,b⟩,su.den ρ,v.den ρ)::Z) (by omega) hz2 c3 hK sat2 (fun z hz h=>?_) (fun z hz=>?_) (fun z hz h=>?_)
     ·rcases List.mem_cons.1 hz with rfl|hz
      ·exact List.mem_cons_self
      ·exact List.mem_cons_of_mem _ (hG z hz ((aliveB_set ho hR).1 h))
     ·rcases List.mem_cons.1 hz with rfl|hz
      ·have h7:=(hno i o (by rw[Array.getElem?_toList];exact ho) (by rw[Nat.zero_add];exact hui)).1
       refine⟨put_get h7 hau,?_,fun j oj hoj hlj=>?_⟩
       ·rw[e1]
        show(a.tmps.setIfInBounds d _)[d]? =_
        rw[Array.getElem?_setIfInBounds_self_of_lt (by rw[s.size];exact hdn)]
       ·have hji:i≠j:=fun e=>by
         subst e
         have hi:=(Array.getElem?_eq_some_iff.1 hla).1
         rw[Array.getD_eq_getD_getElem?,Array.getElem?_setIfInBounds_self_of_lt hi]at hlj
         cases hlj
        rw[getD_set_ne false hji]at hlj
        obtain⟨k1,k2⟩:=hno j oj (by rw[Array.getElem?_toList];exact hoj) (by rw[Nat.zero_add,hm];exact hlj)
        exact⟨k1,k2 (by omega)⟩
      ·exact(hZ z hz).step ho (ready_un c1)
     ·rcases List.mem_cons.1 hz with rfl|hz
      ·exact hrun w' s.rel
      ·exact hI z hz ((aliveB_set ho hR).1 h)
 | .give id t,fuel,la,l,H,nx,iv,w,ρ,a,w',G,Z,hf,hz,hc,h,s,hG,hZ,hI=>by
  obtain⟨H',b,hid,hd,hs,ho,h⟩:=h
  obtain⟨hn,l',hl,h⟩:=h _ _ s.rel
  exact tg_sound hτ hok hsel hQ t fuel la l' H' nx _ w' ρ a w' G Z hf hz hc h ⟨s.rel.free hid hd hn hs ho,s.size,s.defers,fun u v hv=>by obtain⟨-,v',h1,h2⟩:=hl u v hv;rw[←h2];exact s.env u v' h1,fun u v hv=>(hl u v hv).1⟩ hG hZ hI
/-- a region that draws its order, by a tree of orders, its loads first -/
theorem drawn_of_tg(hτ:TabOK P τ)(hm:P.follows .mixedOrders=true){K:KT}(t:Tg)(hs:Region.noSelect ops=true)(hc:chkTg ops t (Array.replicate ops.size false)=true)
  (h:sxTg P τ B ops.toList t [] l H nx iv w K):DrawnS P B ops l H nx iv w K:=by
 refine⟨fun n ρ a w' hok sat Q hQ id=>?_⟩
 refine wp_mono (Q':=Q) (c:=.region id ops true) (wp_region_any (Q:=QN (Q .normal)) hm (wpAny_of_I (I:=IZ P ops []) _ _ _ _ ?_)) (fun e a w hq=>by obtain⟨rfl,hq⟩:=hq;exact hq)
 refine tg_sound (Q0:=Q .normal) hτ (fun j o ho d hd=>?_) (Region.noSelect_spec hs) hQ t _ _ _ _ _ _ _ ρ _ _ [] [] ?_ (by simp) hc h ⟨sat.rel.drew,sat.size,sat.defers,sat.env,sat.sc⟩ (fun z hz=>by cases hz) (fun z hz=>by cases hz) (fun z hz=>by cases hz)
 ·have:=List.all_eq_true.1 hok o (List.mem_of_getElem? (by rw[Array.getElem?_toList];exact ho))
  rw[hd]at this
  have h5:d+1≤n:=by simpa [Nat.blt]using this
  exact h5
 ·unfold unl
  refine Nat.le_trans List.countP_le_length ?_
  simp
end
end Go.Ex
