/- Texts XTg to X134: lemmas, each with its conditions. -/
import Derived.Test.YtgkpbdkechfgmaaGreatP11
namespace Go.Ex
open Go Go.Sx Go.Proofs
variable{s:AD}{a:Act}{K next:Act->World->Prop}{la lx:Array Bool}{I:Array Bool->World->Prop}{Q:Exit->Act->World->Prop}{E M:List (List Rat)}{at_:List (Option Nat)}{fr:List Nat}{r row u y:List Rat}{rv:List Value}{b cols i j:Nat}{C S S0:Nat->Prop}{oi:Oper}{X:Sem Next}{v:Value}{w:World}{Y:World->Prop}
section
variable{P:Program}{ops:Array Oper}{Q:Exit->Act->World->Prop}{md:Region.Mode}
theorem NZ{oj:Oper}(hj:ops[j]? =some oj)(R6:oi.apart ops oj=true)
  (hsi:∀cs b,oi.op≠ .select cs b) (hsj:∀cs b,oj.op≠ .select cs b)
  (hQ:∀c a w,Q (.panic c) (a.put oi.dst v) w->Q (.panic c) a w)
  (hy:Region.wanted oi (yielded ops a.tmps)=true∧execOp a.eval oi=X) (h:wpOp P ops Q j K (a.put oi.dst v) w):
  wpOp P ops Q j (fun a' w'=>(Region.wanted oi (yielded ops a'.tmps)=true∧execOp a'.eval oi=X)∧K (a'.put oi.dst v) w') a w:=by
 obtain⟨h1,h2,h3⟩:=Oper.apart_spec R6;have cJ:∀(a:Act),(Region.wanted oi (yielded ops a.tmps)=true∧execOp a.eval oi=X)->∀u,(Region.wanted oi (yielded ops (a.put oj.dst u).tmps)=true∧execOp (a.put oj.dst u).eval oi=X):=fun a hy u=>
  ⟨(wanted_put oi a oj.dst u h3).trans hy.1,(execOp_put oi hsi a oj.dst u h3).trans hy.2⟩
 have keepD:∀d:Deferred,(Region.wanted oi (yielded ops ({a with defers:=d::a.defers}:Act).tmps)=true∧execOp ({a with defers:=d::a.defers}:Act).eval oi=X):=fun d=>hy;unfold wpOp at*
 simp only[hj]at*
 rw[wanted_put oj a oi.dst v h1]at h;split
 ·rename_i hw;simp only[hw,if_true]at h;rcases h with h|⟨Ta,Vs⟩
  case inr=>exact .inr ⟨by unfold Oper.asks at *;rw[execOp_put oj hsj a oi.dst v h1]at Ta;exact Ta,Vs⟩
  refine .inl ?_;unfold Oper.wp at*
  rw[execOp_put oj hsj a oi.dst v h1]at h;generalize (execOp a.eval oj).run P w=r at*
  cases r with
  |ok n w'=>
   cases n<;>simp only[Oper.upon]at h ⊢
   case value u=>exact⟨cJ a hy u,by rw[<-Act.put_comm a v u h2];exact h⟩
   case skip=>exact⟨cJ a hy _,by rw[<-Act.put_comm a v undef h2];exact h⟩
   case defer d=>
    refine⟨cJ ({a with defers:=d::a.defers}:Act) (keepD d) undef,?_⟩;rw[<-Act.put_comm _ v undef h2,<-Act.put_defers];exact h
   case enter f args=>
    refine Calls.mono h fun e w'' he=>?_
    cases e with
    |returned u=>exact⟨cJ a hy u,by rw[<-Act.put_comm a v u h2];exact he⟩
    |panicked c=>exact hQ _ _ _ he
    |outgrown=>exact he
   case row row args=>exact Rows.mono h fun u w'' he=>⟨cJ a hy u,by rw[<-Act.put_comm a v u h2];exact he⟩
  |halt x w'=>
   cases x<;>simp only[Oper.upon]at h ⊢
   case panic u=>exact hQ _ _ _ h
 ·rename_i hw;simp only[hw]at h;exact⟨cJ a hy _,by rw[<-Act.put_comm a v undef h2];exact h⟩
def sk(P:Program)(md:Region.Mode)(ops:Array Oper)(Q:Exit->Act->World->Prop)(I:Array Bool->World->Prop):Nat->Array Bool->Act->World->Prop
 |0,lx,a,w=>I lx w∧Region.ready md ops lx=[]∧Q .normal a w
 |fuel+1,lx,a,w=>I lx w∧(Region.ready md ops lx=[]->Q .normal a w)∧∀i∈Region.ready md ops lx,wpOp P ops Q i (fun a' w'=>sk P md ops Q I fuel (lx.setIfInBounds i true) a' w') a w
theorem DZ{I:Array Bool->World->Prop}:∀(fuel:Nat) (lx:Array Bool) (a:Act) (w:World),sk P md ops Q I fuel lx a w->wpAny P md ops Q fuel lx a w
 |0,_,_,_,h=>h.2
 |fuel+1,_,_,_,h=>⟨h.2.1,fun i hi=>wpOp_mono (fun _ _ h'=>DZ fuel _ _ _ h') (h.2.2 i hi)⟩
theorem lj{I J:Array Bool->World->Prop}(hIJ:∀lx w,I lx w->J lx w):∀(fuel:Nat) (lx:Array Bool) (a:Act) (w:World),sk P md ops Q I fuel lx a w->sk P md ops Q J fuel lx a w
 |0,_,_,_,h=>⟨hIJ _ _ h.1,h.2⟩
 |fuel+1,_,_,_,h=>⟨hIJ _ _ h.1,h.2.1,fun i hi=>wpOp_mono (fun _ _ h'=>lj hIJ fuel _ _ _ h') (h.2.2 i hi)⟩
theorem JA(hI:I lx w)(hr:Region.ready md ops lx=[])(h:Q .normal a w):∀fuel,sk P md ops Q I fuel lx a w
 |0=>⟨hI,hr,h⟩
 |_+1=>⟨hI,fun _=>h,by rw[hr];simp⟩
def o6(ops:Array Oper)(b:Nat)(lx:Array Bool):Prop:=∀(k:Nat) o,tb b k=true->ops[k]? =some o->xx o.op=false->lx.getD k false=false
theorem kF(hi:ops[i]? =some oi)(hR:xx oi.op=true):o6 ops b (lx.setIfInBounds i true)↔o6 ops b lx:=by
 have key:∀(k:Nat) o,ops[k]? =some o->xx o.op=false->(lx.setIfInBounds i true).getD k false=lx.getD k false:=fun k o ho hr=>by
  have:i≠k:=fun e=>by subst e;rw[hi]at ho;injection ho with ho;subst ho;rw[hR]at hr;cases hr
  exact getD_set_ne false this
 exact⟨fun h k o h1 h2 h3=>by rw[<-key k o h2 h3];exact h k o h1 h2 h3,fun h k o h1 h2 h3=>by rw[key k o h2 h3];exact h k o h1 h2 h3⟩
theorem xt(hi:ops[i]? =some oi)(hR:xx oi.op=true)(PT:∀(j:Nat) (o:Oper) cs b,ops[j]? =some o->o.op≠ .select cs b)
  (hQ:∀c a w,Q (.panic c) (a.put oi.dst v) w->Q (.panic c) a w) (TY:∀j,tb b j=true->∃oj e,ops[j]? =some oj∧e∈oj.after∧Region.binds md e=true∧(e.on=i∨tb b e.on=true))
  (hY:∀w,Y w->X.run P w= .ok (.value v) w) (hI:∀lx w,I (lx.setIfInBounds i true) w->I lx w):
  ∀(fuel:Nat) (lx:Array Bool) (a:Act) (w:World),(∀j,tb b j=true->lx.getD j false=false)->
   (∀j oj,ops[j]? =some oj->j≠i->lx.getD j true=false->tb b j=false->oi.apart ops oj=true)->
   i∈Region.ready md ops lx->(Region.wanted oi (yielded ops a.tmps)=true∧execOp a.eval oi=X)->
   sk P md ops Q (fun lx w=>I lx w∧(o6 ops b lx->Y w)) fuel (lx.setIfInBounds i true) (a.put oi.dst v) w->sk P md ops Q I (fuel+1) lx a w:=by
 intro fuel;have run:∀(lx:Array Bool) (a:Act) (w:World),(∀j,tb b j=true->lx.getD j false=false)->(Region.wanted oi (yielded ops a.tmps)=true∧execOp a.eval oi=X)->(I (lx.setIfInBounds i true) w∧(o6 ops b (lx.setIfInBounds i true)->Y w))->
   ∀K:Act->World->Prop,K (a.put oi.dst v) w->wpOp P ops Q i K a w:=fun lx a w QH hy hH K hK=>by
  have hYw:=hH.2 ((kF hi hR).2 fun k o h1 _ _=>QH k h1);unfold wpOp;simp only[hi,hy.1,if_true]
  refine .inl ?_;unfold Oper.wp;rw[hy.2,hY w hYw];exact hK
 induction fuel with
 |zero=>
  intro lx a w QH _ hr hy H;refine⟨hI _ _ H.1.1,fun h=>(by rw[h]at hr;cases hr),fun j hj=>?_⟩;by_cases Pq:j=i
  ·subst Pq;exact run lx a w QH hy H.1 _ (lj (fun _ _ h=>h.1) 0 _ _ _ H)
  ·have:=ready_mono hj Pq;rw[H.2.1]at this
   cases this
 |succ fuel ih=>
  intro lx a w QH Rw hr hy H;refine⟨hI _ _ H.1.1,fun h=>(by rw[h]at hr;cases hr),fun j hj=>?_⟩;by_cases Pq:j=i
  ·subst Pq;exact run lx a w QH hy H.1 _ (lj (fun _ _ h=>h.1) (fuel+1) _ _ _ H)
  ·have h1:=H.2.2 j (ready_mono hj Pq);obtain⟨Vt,oj,Rd,Qi⟩:=mem_ready.1 hj;have QX:tb b j=false:=by
    cases hb:tb b j with
    |false=>rfl
    |true=>
     exfalso;obtain⟨oj',e,Sj,he,hbi,VZ⟩:=TY j hb;rw[Rd]at Sj;injection Sj with Sj;subst Sj;have h1:=Qi e he hbi;rcases VZ with heq|RG
     ·have h0:=(mem_ready.1 hr).1;rw[heq]at h1;rcases aP i lx.size with h'|h'
      ·simp[h']at h0 h1;rw[h0]at h1;cases h1
      ·simp[Array.getElem?_eq_none h']at h1
     ·rw[QH _ RG]at h1;cases h1
   have h2:=NZ Rd (Rw j oj Rd Pq Vt QX) (fun cs b=>PT i oi cs b hi) (fun cs b=>PT j oj cs b Rd) hQ hy h1;have hbl':∀k,tb b k=true->(lx.setIfInBounds j true).getD k false=false:=fun k hk=>by
    rw[getD_set_ne false (fun e=>(by subst e;rw[QX]at hk;cases hk))];exact QH k hk
   have UP:∀k ok,ops[k]? =some ok->k≠i->(lx.setIfInBounds j true).getD k true=false->tb b k=false->oi.apart ops ok=true:=fun k ok hk Wk Vj SI=>by
    refine Rw k ok hk Wk ?_ SI;by_cases Sp:j=k
    ·subst Sp;exact Vt
    ·rw[getD_set_ne true Sp]at Vj;exact Vj
   refine wpOp_mono (fun a' w' h3=>?_) h2;refine ih (lx.setIfInBounds j true) a' w' hbl' UP (ready_mono hr (Ne.symm Pq)) h3.1 ?_;rw[Array.setIfInBounds_comm _ _ Pq];exact h3.2
end
structure Gh where
 u:Nat
 d:Nat
 T:Nat
 b:Nat
def HD(τ:o8)(B:Nat):List Gh->Env->Hp->Nat->Iv->World->Prop->Prop
 |[],_,_,_,_,_,K=>K
 |g::r,l,H,nx,iv,w,K=>match gF l g.u with
  |some su=>ES τ B g.T su H nx iv w (fun v=>gF l g.d=some v∧HD τ B r l H nx iv w K)
  |none=>False
inductive Tg where
 |nil
 |x (i:Nat) (t:Tg)
 |two (i:Nat) (t:Tg) (j:Nat) (u:Tg)
 |three (i:Nat) (t:Tg) (j:Nat) (u:Tg) (k:Nat) (v:Tg)
 |ld (i b:Nat) (t:Tg)
 |pC (id:Nat) (t:Tg)
def FW(j:Nat):List Gh->List Gh
 |[]=>[]
 |g::r=>match tb g.b j with
  |true=>FW j r
  |false=>g::FW j r
def stepG(τ:o8)(B:Nat)(rd:Bool)(G:List Gh)(j:Nat)(l:Env)(H:Hp)(nx:Nat)(iv:Iv)(w:World)(K:List Gh->Prop):Prop:=match rd with
 |true=>K G
 |false=>HD τ B (FW j G) l H nx iv w (K (FW j G))
def JB(ops:Array Oper)(m i:Nat)(oi:Oper)(b:Nat):List Oper->Nat->Bool
 |[],_=>true
 |oj::r,j=>(Nat.beq j i||tb m j||tb b j||oi.apart ops oj)&&JB ops m i oi b r (j+1)
def Ls(m i u d:Nat):List Oper->Nat->Bool
 |[],_=>true
 |oj::r,j=>(tb m j||match oj.dst with
   |none=>true
   |some e=> !Nat.beq e u&&(Nat.beq j i|| !Nat.beq e d))&&Ls m i u d r (j+1)
def aB3(o:Oper):Option (Nat×Nat×Nat):=match o with
 |⟨some d,.load T (.tmp u),_,_,_,none⟩=>some (d,T,u)
 |_=>none
def nO(ops:Array Oper):Tg->Array Bool->Bool
 | .nil,lx=>(Region.ready .any ops lx).isEmpty
 | .x i t,lx=>match ops[i]? with
  |none=>false
  |some o=>(Region.ready .any ops lx).contains i&&((Region.ready .any ops lx).all (fun j=>Nat.beq j i)||Lu o.op&&o.guard.isNone&&JB ops (jZ lx.toList 0) i o (D4 (jZ lx.toList 0) i ops.toList 0 0) ops.toList 0)&&nO ops t (lx.setIfInBounds i true)
 | .two i t j u,lx=>match Region.ready .any ops lx with
  |[a,b]=>Nat.beq a i&&(Nat.beq b j&&(nO ops t (lx.setIfInBounds i true)&&nO ops u (lx.setIfInBounds j true)))
  |_=>false
 | .three i t j u k v,lx=>match Region.ready .any ops lx with
  |[a,b,c]=>Nat.beq a i&&(Nat.beq b j&&(Nat.beq c k&&(nO ops t (lx.setIfInBounds i true)&&(nO ops u (lx.setIfInBounds j true)&&nO ops v (lx.setIfInBounds k true)))))
  |_=>false
 | .ld i b t,lx=>match ops[i]? with
  |none=>false
  |some o=>match aB3 o with
   |none=>false
   |some (d,_,u)=>(Region.ready .any ops lx).contains i&&Nat.beq b (D4 (jZ lx.toList 0) i ops.toList 0 0)&&JB ops (jZ lx.toList 0) i o b ops.toList 0&&Ls (jZ lx.toList 0) i u d ops.toList 0&&nO ops t (lx.setIfInBounds i true)
 | .pC _ t,lx=>nO ops t lx
def EI(P:Program)(τ:o8)(B:Nat)(all:List Oper):Tg->List Gh->Env->Hp->Nat->Iv->World->KT->Prop
 | .nil,_,l,H,nx,iv,w,K=>K l H nx iv w
 | .x i t,G,l,H,nx,iv,w,K=>uK all i (fun o=>ix (!gW o) P τ B all o l H nx iv w (fun l' H' Of iv' w'=>stepG τ B (xx o.op) G i l' H' Of iv' w' (fun G'=>EI P τ B all t G' l' H' Of iv' w' K)))
 | .two i t j u,G,l,H,nx,iv,w,K=>uK all i (fun o=>ix (!gW o) P τ B all o l H nx iv w (fun l' H' Of iv' w'=>stepG τ B (xx o.op) G i l' H' Of iv' w' (fun G'=>EI P τ B all t G' l' H' Of iv' w' K)))∧
   uK all j (fun o=>ix (!gW o) P τ B all o l H nx iv w (fun l' H' Of iv' w'=>stepG τ B (xx o.op) G j l' H' Of iv' w' (fun G'=>EI P τ B all u G' l' H' Of iv' w' K)))
 | .three i t j u k v,G,l,H,nx,iv,w,K=>uK all i (fun o=>ix (!gW o) P τ B all o l H nx iv w (fun l' H' Of iv' w'=>stepG τ B (xx o.op) G i l' H' Of iv' w' (fun G'=>EI P τ B all t G' l' H' Of iv' w' K)))∧
   (uK all j (fun o=>ix (!gW o) P τ B all o l H nx iv w (fun l' H' Of iv' w'=>stepG τ B (xx o.op) G j l' H' Of iv' w' (fun G'=>EI P τ B all u G' l' H' Of iv' w' K)))∧
   uK all k (fun o=>ix (!gW o) P τ B all o l H nx iv w (fun l' H' Of iv' w'=>stepG τ B (xx o.op) G k l' H' Of iv' w' (fun G'=>EI P τ B all v G' l' H' Of iv' w' K))))
 | .ld i b t,G,l,H,nx,iv,w,K=>uK all i (fun o=>match aB3 o with
  |some (d,T,u)=>match gF l u with
   |some su=>ES τ B T su H nx iv w (fun v=>EI P τ B all t (⟨u,d,T,b⟩::G) ((d,v)::l) H nx iv w K)
   |none=>False
  |none=>False)
 | .pC id t,G,l,H,nx,iv,w,K=>∃H' b,dM H id=some b∧b≠ .dead∧zz H H'∧HS id H'=true∧∀O w',Rel H nx iv B w O w'->(O id).nil=false∧∃l',(∀u v,gF l' u=some v->v.sc nx∧∃v',gF l u=some v'∧v'.den O=v.den O)∧EI P τ B all t G l' H' nx (((O id).g,(O id).g+1)::iv) w' K
section
variable{P:Program}{τ:o8}{ops:Array Oper}{B n nx:Nat}{l:Env}{H:Hp}{iv:Iv}{w w':World}{O:Nat->Sx.eE}{a:Act}
theorem aDn(hτ:gH P τ){o:Oper}(ho:ops[i]? =some o)(hd:∀d,o.dst=some d->d<n){K:KT}
  (h1:ix (!gW o) P τ B ops.toList o l H nx iv w K) (sat:Sat n l H nx iv B w O a w')
  (hn:∀l' H' Of iv' w2 ρ' x w3,K l' H' Of iv' w2->Sat n l' H' Of iv' B w2 ρ' (a.put o.dst x) w3->(xx o.op=true->w3=w')->next (a.put o.dst x) w3):
  wpOp P ops Q i next a w':=by
 unfold ix at h1;refine rG ho ?_;rcases mK sat h1 with⟨hw,l1,h2,sat1⟩|⟨hw,l1,h2,sat1⟩
 ·refine .inl ⟨hw,?_⟩
  cases hR:xx o.op with
  |true=>
   obtain⟨v,hK,Re,Og⟩:=(nV hτ h2 sat1 hR).resolve_right (fun hh=>by have:=hh.1;rw[uN hR]at this;cases this);obtain⟨l2,h3,sat2⟩:=jP sat1 hK hd Re;exact oL (Og w' (.inr sat1.rel)) (hn _ _ _ _ _ _ _ _ h3 sat2 fun _=>rfl)
  |false=>
   have nr:∀w3:World,xx o.op=true->w3=w':=fun w3 h=>by rw[hR]at h;cases h
   cases hA:isA o.op with
   |true=>
    obtain⟨b,v,mk,obj,hK,PN,hb,hv,Wt,Q7,Wu⟩:=pM hτ h2 sat1 hA;have Pe:Rel ((nx,b)::H) (nx+1) iv B w (Sx.iI O nx ⟨w'.heap.size,0,false⟩) (w'.alloc obj):=
     sat1.rel.push b _ rfl rfl rfl (by simp) (fun k hk=>heap_alloc_old _ _ hk) (fun _=>⟨Nat.le_refl _,by simp⟩) (Q7 _ _ (heap_alloc_new _ _)) hb
    obtain⟨l2,h3,sat2⟩:=jP (sat1.next Pe (Nat.le_succ _) (fun id Pk=>iQ id Pk)) hK hd hv;rw[Wt]at sat2;exact oL (v:=mk w'.heap.size) (w2:=w'.alloc obj) (Wu w') (hn _ _ _ _ _ _ _ _ h3 sat2 (by rw[hR];exact fun h=>by cases h))
   |false=>
    cases hH:tV o with
    |false=>
     rw[te hH]at h2;refine BL h2 sat1 hR hA hH fun v w2 hK he hs=>?_;obtain⟨l2,h3,sat2⟩:=jP (v:=.o (.v v)) hs hK hd trivial;exact hn _ _ _ _ _ _ _ _ h3 sat2 (by rw[hR];exact fun h=>by cases h)
    |true=>
     refine pN hτ h2 sat1 fun v H' Of iv' w2 ρ' w3 hK sat2 hv=>?_;obtain⟨l2,h3,sat3⟩:=jP sat2 hK hd hv;exact hn _ _ _ _ _ _ _ _ h3 sat3 (by rw[hR];exact fun h=>by cases h)
 ·obtain⟨l2,h4,sat3⟩:=jP sat1 h2 hd trivial;exact .inr ⟨hw,hn _ _ _ _ _ _ _ _ h4 sat3 fun _=>rfl⟩
theorem zx(hτ:gH P τ)(sat:Sat n l H nx iv B w O a w'){K:Prop}:∀(G:List Gh),HD τ B G l H nx iv w K->
  K∧∀g∈G,∃su sv,gF l g.u=some su∧gF l g.d=some sv∧(Instr.loadAt g.T (su.den O)).run P w'= .ok (sv.den O) w'
 |[],h=>⟨h,fun g hg=>by cases hg⟩
 |g::r,h=>by
  unfold HD at h;split at h
  ·rename_i su hsu;obtain⟨v,⟨h1,h2⟩,hv,Og⟩:=pT hτ sat.rel (sat.sc _ _ hsu) h;obtain⟨h3,h4⟩:=zx hτ sat r h2;refine⟨h3,fun g' hg=>?_⟩;rcases List.mem_cons.1 hg with rfl|hg
   ·exact⟨su,v,hsu,h1,Og w' sat.rel⟩
   ·exact h4 g' hg
  ·exact h.elim
theorem tU{j:Nat}{g:Gh}:∀{G:List Gh},g∈G->tb g.b j=false->g∈FW j G
 |g'::r,h,hb=>by
  unfold FW;rcases List.mem_cons.1 h with rfl|h
  ·rw[hb];exact aI
  ·split
   ·exact tU h hb
   ·exact aC _ (tU h hb)
abbrev Zh:=Gh×Value×Value
def Yz(P:Program)(z:Zh)(w:World):Prop:=(Instr.loadAt z.1.T z.2.1).run P w= .ok z.2.2 w
structure GOk(ops:Array Oper)(la:Array Bool)(a:Act)(z:Zh):Prop where
 u:a.tmps[z.1.u]? =some z.2.1
 d:a.tmps[z.1.d]? =some z.2.2
 no:∀(j:Nat) oj,ops[j]? =some oj->la.getD j false=false->oj.dst≠some z.1.u∧oj.dst≠some z.1.d
theorem GOk.step{la:Array Bool}{z:Zh}{j:Nat}{oj:Oper}{x:Value}(h:GOk ops la a z)(hj:ops[j]? =some oj)(hl:la.getD j false=false):GOk ops (la.setIfInBounds j true) (a.put oj.dst x) z:=by
 obtain⟨h1,h2⟩:=h.no j oj hj hl;refine⟨ss h1 h.u,ss h2 h.d,fun k ok hk hlk=>h.no k ok hk ?_⟩;by_cases Sp:j=k
 ·subst Sp;exact hl
 ·rwa [getD_set_ne false Sp]at hlk
def IZ(P:Program)(ops:Array Oper)(Z:List Zh)(lx:Array Bool)(w:World):Prop:=∀z∈Z,o6 ops z.1.b lx->Yz P z w
theorem xu(h:i∈Region.ready .any ops la):la.getD i false=false:=by
 have:=(fF.1 h).1;rw[bD,this];rfl
theorem qZ{o:Oper}(ho:ops[i]? =some o)(hl:la[i]? =some false)(h:o6 ops b (la.setIfInBounds i true)):o6 ops b la∧(xx o.op=false->tb b i=false):=by
 refine⟨fun k ok h1 h2 h3=>?_,fun hR=>?_⟩
 ·by_cases hik:i=k
  ·subst hik;rw[bD,hl];rfl
  ·rw[<-getD_set_ne false hik];exact h k ok h1 h2 h3
 ·cases hb:tb b i with
  |false=>rfl
  |true=>
   have:=h i o hb ho hR;have hi:=(bG.1 hl).1;rw[bD,Array.getElem?_setIfInBounds_self_of_lt hi]at this
   cases this
theorem FX(hτ:gH P τ){o:Oper}{G:List Gh}{Z:List Zh}(ho:ops[i]? =some o)(hd:∀d,o.dst=some d->d<n)(hr:i∈Region.ready .any ops la){K:Env->Hp->Nat->Iv->World->List Gh->Prop}
  (h1:ix (!gW o) P τ B ops.toList o l H nx iv w (fun l' H' Of iv' w'=>stepG τ B (xx o.op) G i l' H' Of iv' w' (K l' H' Of iv' w'))) (sat:Sat n l H nx iv B w O a w')
  (hG:∀z∈Z,o6 ops z.1.b la->z.1∈G) (hZ:∀z∈Z,GOk ops la a z) (hI:IZ P ops Z la w')
  (hn:∀l' H' Of iv' w2 ρ' x w3 G',K l' H' Of iv' w2 G'->Sat n l' H' Of iv' B w2 ρ' (a.put o.dst x) w3->(∀z∈Z,o6 ops z.1.b (la.setIfInBounds i true)->z.1∈G')->(∀z∈Z,GOk ops (la.setIfInBounds i true) (a.put o.dst x) z)->IZ P ops Z (la.setIfInBounds i true) w3->next (a.put o.dst x) w3):
  wpOp P ops Q i next a w':=by
 have hl:=(fF.1 hr).1;refine aDn hτ ho hd h1 sat fun l' H' Of iv' w2 ρ' x w3 hK sat2 hw=>?_;have hZ2:∀z∈Z,GOk ops (la.setIfInBounds i true) (a.put o.dst x) z:=fun z hz=>(hZ z hz).step ho (xu hr)
 cases hR:xx o.op with
 |true=>
  rw[hR]at hK;have hw:=hw hR;subst hw;refine hn _ _ _ _ _ _ _ _ G hK sat2 (fun z hz h=>hG z hz (qZ ho hl h).1) hZ2 fun z hz h=>hI z hz (qZ ho hl h).1
 |false=>
  rw[hR]at hK;obtain⟨h2,h3⟩:=zx hτ sat2 _ hK;refine hn _ _ _ _ _ _ _ _ _ h2 sat2 (fun z hz h=>?_) hZ2 fun z hz h=>?_
  ·obtain⟨k1,k2⟩:=qZ ho hl h;exact tU (hG z hz k1) (k2 hR)
  ·obtain⟨k1,k2⟩:=qZ ho hl h;obtain⟨su,sv,e1,e2,e3⟩:=h3 z.1 (tU (hG z hz k1) (k2 hR));have h4:=sat2.env _ _ e1;have h5:=sat2.env _ _ e2;rw[(hZ2 z hz).u]at h4;rw[(hZ2 z hz).d]at h5;injection h4 with h4;injection h5 with h5;unfold Yz;rw[h4,h5];exact e3
end
section
variable{P:Program}{τ:o8}{ops:Array Oper}{B n nx:Nat}{l:Env}{H:Hp}{iv:Iv}{w w':World}{O:Nat->Sx.eE}{a:Act}
theorem vU{m i b:Nat}{oi:Oper}:∀(l:List Oper) (k:Nat),JB ops m i oi b l k=true->∀(j:Nat) oj,l[j]? =some oj->k+j≠i->tb m (k+j)=false->tb b (k+j)=false->oi.apart ops oj=true
 |[],_,_,j,oj,h,_,_,_=>by cases h
 |o::r,k,h,j,oj,hj,h1,h2,h3=>by
  simp only[JB,bF,Bool.or_eq_true]at h
  cases j with
  |zero=>
   injection hj with hj;subst hj;rcases h.1 with((h4|h4)|h4)|h4
   ·exact absurd (bY h4) h1
   ·rw[bu]at h2;rw[h2]at h4;cases h4
   ·rw[bu]at h3;rw[h3]at h4;cases h4
   ·exact h4
  |succ j=>
   have e:k+(j+1)=k+1+j:=by omega
   rw[e]at h1 h2 h3;exact vU r (k+1) h.2 j oj (by simpa using hj) h1 h2 h3
theorem D2{m i u d:Nat}:∀(l:List Oper) (k:Nat),Ls m i u d l k=true->∀(j:Nat) oj,l[j]? =some oj->tb m (k+j)=false->oj.dst≠some u∧(k+j≠i->oj.dst≠some d)
 |[],_,_,j,oj,h,_=>by cases h
 |o::r,k,h,j,oj,hj,h2=>by
  simp only[Ls,bF,Bool.or_eq_true]at h
  cases j with
  |zero=>
   injection hj with hj;subst hj;rcases h.1 with h4|h4
   ·rw[bu]at h2;rw[h2]at h4;cases h4
   ·cases ho:o.dst with
    |none=>exact⟨by simp,by simp⟩
    |some e=>
     rw[ho]at h4;simp only[bF,Bool.not_eq_true',Bool.or_eq_true]at h4;refine⟨fun hh=>?_,fun OZ hh=>?_⟩
     ·injection hh with hh;subst hh;have:=h4.1;simp at this
     ·injection hh with hh;subst hh;rcases h4.2 with h5|h5
      ·exact OZ (bY h5)
      ·simp at h5
  |succ j=>
   have e:k+(j+1)=k+1+j:=by omega
   rw[e]at h2 ⊢;exact D2 r (k+1) h.2 j oj (by simpa using hj) h2
theorem Na{o:Oper}{d T u:Nat}(h:aB3 o=some (d,T,u)):o.dst=some d∧o.op= .load T (.tmp u)∧o.guard=none:=by
 unfold aB3 at h;split at h
 ·injection h with h;injection h with h1 h2;injection h2 with h2 h3;subst h1 h2 h3;exact⟨rfl,rfl,rfl⟩
 ·cases h
theorem jv(hτ:gH P τ)(Oc:∀(j:Nat) o,ops[j]? =some o->∀d,o.dst=some d->d<n)(PT:∀(j:Nat) (o:Oper) cs b,ops[j]? =some o->o.op≠ .select cs b){K:KT}{Q0:Act->World->Prop}
  (hQ:∀l' H' Of iv' w2 ρ' a' w3,K l' H' Of iv' w2->Sat n l' H' Of iv' B w2 ρ' a' w3->Q0 a' w3):
  ∀(t:Tg) (fuel:Nat) (la:Array Bool) (l:Env) (H:Hp) (nx:Nat) (iv:Iv) (w:World) (O:Nat->Sx.eE) (a:Act) (w':World) (G:List Gh) (Z:List Zh),unl la<=fuel->la.size=ops.size->nO ops t la=true->EI P τ B ops.toList t G l H nx iv w K->Sat n l H nx iv B w O a w'->
   (∀z∈Z,o6 ops z.1.b la->z.1∈G)->(∀z∈Z,GOk ops la a z)->IZ P ops Z la w'->sk P .any ops (QN Q0) (IZ P ops Z) fuel la a w'
 | .nil,fuel,la,l,H,nx,iv,w,O,a,w',G,Z,_,_,hc,h,s,hG,hZ,hI=>by
  simp only[nO,List.isEmpty_iff]at hc;exact JA hI hc ⟨rfl,hQ _ _ _ _ _ _ _ _ h s⟩ fuel
 | .x i t,fuel,la,l,H,nx,iv,w,O,a,w',G,Z,hf,hz,hc,h,s,hG,hZ,hI=>by
  unfold nO at hc;obtain⟨o,ho,h1⟩:=iP h;rw[bK]at ho;simp only[ho,bF,Bool.or_eq_true]at hc;obtain⟨⟨c1,c2⟩,c3⟩:=hc;have c1:i∈Region.ready .any ops la:=by simpa using c1
  obtain⟨Qa,-⟩:=fF.1 c1;have Vj:=mJ Qa;obtain⟨f,rfl⟩:∃f,fuel=f+1:=⟨fuel-1,by omega⟩
  have QD:(la.setIfInBounds i true).size=ops.size:=by rw[bg,hz]
  rcases c2 with c2|⟨⟨hP,QY⟩,c4⟩
  ·refine⟨hI,fun h0=>(by rw[h0]at c1;cases c1),fun j hj=>?_⟩;have Pq:j=i:=ee (List.all_eq_true.1 c2 j hj);subst Pq;exact FX hτ ho (Oc j o ho) c1 h1 s hG hZ hI fun _ _ _ _ _ _ _ _ G' hk hs Wf Wg Wh=>jv hτ Oc PT hQ t f _ _ _ _ _ _ _ _ _ G' Z (by omega) QD c3 hk hs Wf Wg Wh
  ·have hR:xx o.op=true:=by
    unfold Lu at hP;split at hP
    ·cases hP
    ·exact hP
   have hm:=Ag la;have hb:=oc (ops:=ops) (m:=jZ la.toList 0) (i:=i) ops.toList 0 0 (fun n o hn=>by rw[aW];rwa [bK]at hn) (fun j hj=>by rw[vY]at hj;cases hj);generalize D4 (jZ la.toList 0) i ops.toList 0 0=b at*
   have UK:o.guard=none:=by simpa using QY
   unfold ix vZ at h1;rw[UK]at h1;obtain⟨v,hK,Re,Og⟩:=(nV hτ h1 s hR).resolve_right (fun hh=>by have:=hh.1;rw[uN hR]at this;cases this);obtain⟨l2,h3,sat2⟩:=jP s hK (Oc i o ho) Re;rw[hR]at h3;have hw:Region.wanted o (yielded ops a.tmps)=true:=by simp[Region.wanted,UK]
   refine xt (v:=v.den O) (b:=b) (Y:=fun _=>True) (X:=execOp a.eval o) ho hR PT (fun c a w hq=>absurd hq.1 (by simp)) (fun j hj=>(hb j hj).2.2) (fun w3 _=>Og w3 (.inl hP)) (fun lx w h z hz ha=>h z hz ((kF ho hR).2 ha))
    f la a w' (fun j hj=>(hm j).symm.trans (hb j hj).1) (fun j oj Rd Pq hl hk=>vU ops.toList 0 c4 j oj (by rw[bK];exact Rd) (by omega) (by
     have hj:=(bG.1 Rd).1
     rw[aW,hm,o9 (by omega) false true];exact hl) (by rw[aW];exact hk)) c1 ⟨hw,rfl⟩ ?_
   refine lj (fun lx w h=>⟨h,fun _=>trivial⟩) _ _ _ _ ?_;exact jv hτ Oc PT hQ t f _ _ _ _ _ _ _ _ _ G Z (by omega) QD c3 h3 sat2 (fun z hz h=>hG z hz ((kF ho hR).1 h)) (fun z hz=>(hZ z hz).step ho (xu c1)) (fun z hz h=>hI z hz ((kF ho hR).1 h))
 | .two i t k u,fuel,la,l,H,nx,iv,w,O,a,w',G,Z,hf,hz,hc,h,s,hG,hZ,hI=>by
  simp only[nO]at hc;split at hc
  ·rename_i x y hr;simp only[bF]at hc;obtain⟨c1,c2,c3,c4⟩:=hc;have hx:=bY c1;have hy:=bY c2;subst hx;subst hy;obtain⟨h1,h2⟩:=h;obtain⟨o1,Wr,h1⟩:=iP h1;obtain⟨o2,VD,h2⟩:=iP h2;rw[bK]at Wr VD;have SP:x∈Region.ready .any ops la:=by rw[hr];simp
   have Th:y∈Region.ready .any ops la:=by rw[hr];simp
   have u1:=mJ (fF.1 SP).1;have u2:=mJ (fF.1 Th).1;obtain⟨f,rfl⟩:∃f,fuel=f+1:=⟨fuel-1,by omega⟩
   refine⟨hI,fun h0=>(by rw[hr]at h0;cases h0),fun j hj=>?_⟩;rw[hr,List.mem_cons,bE]at hj;rcases hj with rfl|rfl
   ·exact FX hτ Wr (Oc _ o1 Wr) SP h1 s hG hZ hI fun _ _ _ _ _ _ _ _ G' hk hs Wf Wg Wh=>jv hτ Oc PT hQ t f _ _ _ _ _ _ _ _ _ G' Z (by omega) (by rw[bg,hz]) c3 hk hs Wf Wg Wh
   ·exact FX hτ VD (Oc _ o2 VD) Th h2 s hG hZ hI fun _ _ _ _ _ _ _ _ G' hk hs Wf Wg Wh=>jv hτ Oc PT hQ u f _ _ _ _ _ _ _ _ _ G' Z (by omega) (by rw[bg,hz]) c4 hk hs Wf Wg Wh
  ·cases hc
 | .three i t k u m v,fuel,la,l,H,nx,iv,w,O,a,w',G,Z,hf,hz,hc,h,s,hG,hZ,hI=>by
  simp only[nO]at hc;split at hc
  ·rename_i x y z9 hr;simp only[bF]at hc;obtain⟨c1,c2,c6,c3,c4,c5⟩:=hc;have hx:=bY c1;have hy:=bY c2;have hz9:=bY c6;subst hx;subst hy;subst hz9;obtain⟨h1,h2,h3⟩:=h;obtain⟨o1,Wr,h1⟩:=iP h1;obtain⟨o2,VD,h2⟩:=iP h2;obtain⟨o3,ho3,h3⟩:=iP h3;rw[bK]at Wr VD ho3;have SP:x∈Region.ready .any ops la:=by rw[hr];simp
   have Th:y∈Region.ready .any ops la:=by rw[hr];simp
   have hm3:z9∈Region.ready .any ops la:=by rw[hr];simp
   have u1:=mJ (fF.1 SP).1;have u2:=mJ (fF.1 Th).1;have u3:=mJ (fF.1 hm3).1;obtain⟨f,rfl⟩:∃f,fuel=f+1:=⟨fuel-1,by omega⟩
   refine⟨hI,fun h0=>(by rw[hr]at h0;cases h0),fun j hj=>?_⟩;rw[hr,List.mem_cons,List.mem_cons,bE]at hj;rcases hj with rfl|rfl|rfl
   ·exact FX hτ Wr (Oc _ o1 Wr) SP h1 s hG hZ hI fun _ _ _ _ _ _ _ _ G' hk hs Wf Wg Wh=>jv hτ Oc PT hQ t f _ _ _ _ _ _ _ _ _ G' Z (by omega) (by rw[bg,hz]) c3 hk hs Wf Wg Wh
   ·exact FX hτ VD (Oc _ o2 VD) Th h2 s hG hZ hI fun _ _ _ _ _ _ _ _ G' hk hs Wf Wg Wh=>jv hτ Oc PT hQ u f _ _ _ _ _ _ _ _ _ G' Z (by omega) (by rw[bg,hz]) c4 hk hs Wf Wg Wh
   ·exact FX hτ ho3 (Oc _ o3 ho3) hm3 h3 s hG hZ hI fun _ _ _ _ _ _ _ _ G' hk hs Wf Wg Wh=>jv hτ Oc PT hQ v f _ _ _ _ _ _ _ _ _ G' Z (by omega) (by rw[bg,hz]) c5 hk hs Wf Wg Wh
  ·cases hc
 | .ld i b t,fuel,la,l,H,nx,iv,w,O,a,w',G,Z,hf,hz,hc,h,s,hG,hZ,hI=>by
  unfold nO at hc;obtain⟨o,ho,h1⟩:=iP h;rw[bK]at ho;simp only[ho]at hc
  cases SO:aB3 o with
  |none=>rw[SO]at hc;cases hc
  |some q=>
   obtain⟨d,T,u⟩:=q;rw[SO]at hc h1;simp only[bF]at hc;obtain⟨⟨⟨⟨c1,c2⟩,c4⟩,c5⟩,c3⟩:=hc;obtain⟨e1,e2,e3⟩:=Na SO;have c1:i∈Region.ready .any ops la:=by simpa using c1
   obtain⟨Qa,-⟩:=fF.1 c1;have Vj:=mJ Qa;obtain⟨f,rfl⟩:∃f,fuel=f+1:=⟨fuel-1,by omega⟩
   have QD:(la.setIfInBounds i true).size=ops.size:=by rw[bg,hz]
   have hR:xx o.op=true:=by rw[e2];rfl
   have hm:=Ag la;have hb:=oc (ops:=ops) (m:=jZ la.toList 0) (i:=i) ops.toList 0 0 (fun n o hn=>by rw[aW];rwa [bK]at hn) (fun j hj=>by rw[vY]at hj;cases hj);rw[<-bY c2]at hb
   cases hsu:gF l u with
   |none=>simp only[hsu]at h1
   |some su=>
    simp only[hsu]at h1;obtain⟨v,hK,Re,Og⟩:=pT hτ s.rel (s.sc _ _ hsu) h1;have hau:=s.env _ _ hsu;have Wi:=Oc i o ho d e1;have sat2:Sat n ((d,v)::l) H nx iv B w O (a.put o.dst (v.den O)) w':=by rw[e1];exact s.put Wi Re
    have hw:Region.wanted o (yielded ops a.tmps)=true:=by simp[Region.wanted,e3]
    have R7:a.eval (.tmp u)=su.den O:=by rw[Act.eval,bD,hau];rfl
    have hui:tb (jZ la.toList 0) i=false:=by rw[hm];exact xu c1
    have SI:=D2 ops.toList 0 c5;refine xt (v:=v.den O) (b:=b) (Y:=Yz P (⟨u,d,T,b⟩,su.den O,v.den O)) (X:=execOp a.eval o) ho hR PT (fun c a w hq=>absurd hq.1 (by simp)) (fun j hj=>(hb j hj).2.2) (fun w3 hY=>?_) (fun lx w h z hz ha=>h z hz ((kF ho hR).2 ha))
     f la a w' (fun j hj=>(hm j).symm.trans (hb j hj).1) (fun j oj Rd Pq hl hk=>vU ops.toList 0 c4 j oj (by rw[bK];exact Rd) (by omega) (by
      have hj:=(bG.1 Rd).1
      rw[aW,hm,o9 (by omega) false true];exact hl) (by rw[aW];exact hk)) c1 ⟨hw,rfl⟩ ?_
    ·unfold Yz at hY;obtain⟨dst,op,ty,pos,after,guard⟩:=o;simp only at e2;subst e2;simp only[execOp,R7]
     exact nX hY
    ·refine lj (I:=IZ P ops ((⟨u,d,T,b⟩,su.den O,v.den O)::Z)) (fun lx w h=>⟨fun z hz=>h z (aC _ hz),h _ aI⟩) _ _ _ _ ?_;refine jv hτ Oc PT hQ t f _ _ _ _ _ _ _ _ _ (⟨u,d,T,b⟩::G) ((⟨u,d,T,b⟩,su.den O,v.den O)::Z) (by omega) QD c3 hK sat2 (fun z hz h=>?_) (fun z hz=>?_) (fun z hz h=>?_)
     ·rcases List.mem_cons.1 hz with rfl|hz
      ·exact aI
      ·exact aC _ (hG z hz ((kF ho hR).1 h))
     ·rcases List.mem_cons.1 hz with rfl|hz
      ·have h7:=(SI i o (by rw[bK];exact ho) (by rw[aW];exact hui)).1;refine⟨ss h7 hau,?_,fun j oj Rd Sl=>?_⟩
       ·rw[e1];show(a.tmps.setIfInBounds d _)[d]? =_;rw[Array.getElem?_setIfInBounds_self_of_lt (by rw[s.size];exact Wi)]
       ·have Pq:i≠j:=fun e=>by
         subst e;have hi:=(bG.1 Qa).1;rw[bD,Array.getElem?_setIfInBounds_self_of_lt hi]at Sl
         cases Sl
        rw[getD_set_ne false Pq]at Sl;obtain⟨k1,k2⟩:=SI j oj (by rw[bK];exact Rd) (by rw[aW,hm];exact Sl);exact⟨k1,k2 (by omega)⟩
      ·exact(hZ z hz).step ho (xu c1)
     ·rcases List.mem_cons.1 hz with rfl|hz
      ·exact Og w' s.rel
      ·exact hI z hz ((kF ho hR).1 h)
 | .pC id t,fuel,la,l,H,nx,iv,w,O,a,w',G,Z,hf,hz,hc,h,s,hG,hZ,hI=>by
  obtain⟨H',b,Pk,hd,hs,ho,h⟩:=h;obtain⟨hn,l',hl,h⟩:=h _ _ s.rel;exact jv hτ Oc PT hQ t fuel la l' H' nx _ w' O a w' G Z hf hz hc h ⟨s.rel.free Pk hd hn hs ho,s.size,s.defers,fun u v hv=>by obtain⟨-,v',h1,h2⟩:=hl u v hv;rw[<-h2];exact s.env u v' h1,fun u v hv=>(hl u v hv).1⟩ hG hZ hI
theorem ja(hτ:gH P τ)(hm:P.follows .mixedOrders=true){K:KT}(t:Tg)(hs:Region.noSelect ops=true)(hc:nO ops t (Array.replicate ops.size false)=true)
  (h:EI P τ B ops.toList t [] l H nx iv w K):BN P B ops l H nx iv w K:=by
 refine⟨fun n O a w' Oc sat Q hQ id=>?_⟩;refine wp_mono (Q':=Q) (c:=.region id ops true) (wp_region_any (Q:=QN (Q .normal)) hm (DZ (I:=IZ P ops []) _ _ _ _ ?_)) (fun e a w hq=>by obtain⟨rfl,hq⟩:=hq;exact hq);refine jv (Q0:=Q .normal) hτ (fun j o ho d hd=>?_) (Region.noSelect_spec hs) hQ t _ _ _ _ _ _ _ O _ _ [] [] ?_ (by simp) hc h ⟨sat.rel.drew,sat.size,sat.defers,sat.env,sat.sc⟩ (fun z hz=>by cases hz) (fun z hz=>by cases hz) (fun z hz=>by cases hz)
 ·have:=List.all_eq_true.1 Oc o (aD (by rw[bK];exact ho));rw[hd]at this;have h5:d+1<=n:=by simpa [Nat.blt]using this
  exact h5
 ·unfold unl;refine aV List.countP_le_length ?_;simp
end
theorem aAc{α:Type}(a b:α){c:Nat}(h:i<c):(List.replicate i a++List.replicate (c-i) b).take i++[a]++(List.replicate i a++List.replicate (c-i) b).drop (i+1)=List.replicate (i+1) a++List.replicate (c-(i+1)) b:=by
 rw[List.take_left' (aU ..),List.drop_append,aU,List.drop_of_length_le (by rw[aU];omega),List.nil_append,List.drop_replicate,List.replicate_succ'];congr 2;omega
def mW(w:World)(C S:Nat->Prop)(v:Value)(M:List (List Rat)):Prop:=∃rv,jY w C 1 v rv M.length∧rv.length=M.length∧∀(i:Nat) u x,rv[i]? =some u->M[i]? =some x->cR w S u x
theorem mW.shape(h:mW w C S v M):∃a c,v= .slice a M.length c∧M.length<=c∧M.length<=maxLen:=by
 obtain⟨rv,⟨h0,_,_,a,c,h1,h2,_⟩,_⟩:=h;exact⟨a,c,h1,h2,h0⟩
theorem mW.load{a:Option Addr}{m c:Nat}{x:List Rat}(h:mW w C S (.slice a m c) M)(hq:M[j]? =some x):
  ∃ad u,a=some ad∧cR w S u x∧C ad.block∧w.cell? (ad.add (j*1))=some u:=by
 obtain⟨rv,⟨h0,h1,h2,a',c',e,h3,h4⟩,hl,hf⟩:=h;injection e with e1 e2 e3;subst e1;obtain⟨u,hu⟩:∃u,rv[j]? =some u:=⟨_,aB (by rw[hl];exact(aE.1 hq).1)⟩
 obtain⟨ad,k1,k2,k3⟩:=h4 j u hu;exact⟨ad,u,k1,hf j u x hu hq,k2,by rw[aY];exact k3⟩
def atV:Option Nat->Value
 |none=>.int .i64 (-1)
 |some j=>.int .i64 (j:Int)
structure Ga(M:List (List Rat))(cols h:Nat):Prop where
 rows:∀i,i<=M.length->∀r∈(im M cols i).1,∀q∈r,rl q+1<=h
 nP:∀i,i<M.length->∀k,k<=cols->∀q∈gL (im M cols i).1 (im M cols i).2.1 (M.getD i []) k,rl q+1<=h
theorem DF{k:Nat}(h:at_[k]? =some (some j)):gL E at_ row (k+1)=nZ (gL E at_ row k) (E.getD j []) ((gL E at_ row k).getD k 0):=by
 rw[gL,show at_.getD k none=some j by rw[List.getD,h];rfl]
theorem Jy{k:Nat}(h:at_[k]? =some none):gL E at_ row (k+1)=gL E at_ row k:=by
 rw[gL,show at_.getD k none=none by rw[List.getD,h];rfl]
theorem aAd{α:Type}{l:List α}(a b:α)(h:j<l.length):(l++[a]).set j b=l.set j b++[a]:=by rw[List.set_append,if_pos h]
theorem Jz{x:List Rat}(Qo:(E,at_,fr)=im M cols i)(hx:M.getD i []=x)(hy:gL E at_ x cols=y)(hp:wH y cols=cols):(E,at_,fr)=im M cols (i+1):=by
 rw[im,<-Qo,hx,lK];simp only[hy,hp,if_true]
theorem KA{p:Nat}{x:List Rat}(Qo:(E,at_,fr)=im M cols i)(hx:M.getD i []=x)(hy:gL E at_ x cols=y)(hp:wH y cols=p)(OZ:p≠cols):
  im M cols (i+1)=(gp E (y.map (· / y.getD p 0)) p E.length++[y.map (· / y.getD p 0)],at_.set p (some E.length),fr++[i]):=by
 rw[im,<-Qo,hx,lK];simp only[hy,hp,aK OZ]
theorem aAe(q:Rat)(y:List Rat):iY y.length (fun _ r=>r / q) y=y.map (· / q):=by
 rw[tP];exact bL fun j=>by rw[List.getElem?_mapIdx,aN]
theorem KB{p:Nat}(h:E[i]? =some r)(h0:r.getD p 0=0):gp E u p (i+1)=gp E u p i:=by
 rw[Bn h,h0,Bm];refine bL fun j=>?_;by_cases hj:i=j
 ·subst hj;rw[aR (by rw[gO];exact(aE.1 h).1),Hd h]
 ·rw[aX hj]
def mE(rv:List Value)(at_:List (Option Nat)):Nat->List Value
 |0=>[]
 |k+1=>match at_.getD k none with
  |some r=>mE rv at_ k++[rv.getD r (.bool false)]
  |none=>mE rv at_ k
theorem oH{k:Nat}(h:s.2.1[k]? =some none):dO s (k+1)=dO s k:=by
 rw[dO,show s.2.1.getD k none=none by rw[List.getD,h];rfl]
theorem oI{k r:Nat}(h:s.2.1[k]? =some (some r)):dO s (k+1)=((dO s k).1++[s.1.getD r []],(dO s k).2.1++[k],(dO s k).2.2++[s.2.2.getD r 0]):=by
 rw[dO,show s.2.1.getD k none=some r by rw[List.getD,h];rfl]
theorem vH{k:Nat}(h:at_[k]? =some none):mE rv at_ (k+1)=mE rv at_ k:=by
 rw[mE,show at_.getD k none=none by rw[List.getD,h];rfl]
theorem vI{k r:Nat}(h:at_[k]? =some (some r)):mE rv at_ (k+1)=mE rv at_ k++[rv.getD r (.bool false)]:=by
 rw[mE,show at_.getD k none=some r by rw[List.getD,h];rfl]
theorem xb(s:AD)(rv:List Value):∀k,k<=s.2.1.length->(dO s k).1.length=(dO s k).2.1.length∧(dO s k).2.2.length=(dO s k).2.1.length∧(mE rv s.2.1 k).length=(dO s k).2.1.length∧(dO s k).2.1.length<=k
 |0,_=>⟨rfl,rfl,rfl,Nat.le_refl _⟩
 |k+1,hk=>by
  have ih:=xb s rv k (by omega);obtain⟨o,ho⟩:∃o,s.2.1[k]? =some o:=⟨_,aB (by omega)⟩
  cases o with
  |none=>rw[oH ho,vH ho];exact⟨ih.1,ih.2.1,ih.2.2.1,by have:=ih.2.2.2;omega⟩
  |some r=>rw[oI ho,vI ho];simp only[List.length_append,List.length_singleton];omega
theorem DG{E:List (List Rat)}{at_:List (Option Nat)}{fr:List Nat}{rv:List Value}(hl:rv.length=E.length)(PC:∀(k r:Nat),at_[k]? =some (some r)->r<E.length):∀k,k<=at_.length->∀(i:Nat) u x,(mE rv at_ k)[i]? =some u->(dO (E,at_,fr) k).1[i]? =some x->∃r:Nat,rv[r]? =some u∧E[r]? =some x
 |0,_,i,u,x,h,_=>by cases h
 |k+1,hk,i,u,x,h1,h2=>by
  have ih:=DG (fr:=fr) hl PC k (by omega) i u x;obtain⟨o,ho⟩:∃o,at_[k]? =some o:=⟨_,aB (by omega)⟩
  cases o with
  |none=>
   rw[vH ho]at h1;rw[oH (s:=(E,at_,fr)) ho]at h2;exact ih h1 h2
  |some r=>
   have hr:=PC k r ho;rw[vI ho]at h1;rw[oI (s:=(E,at_,fr)) ho]at h2;obtain⟨q1,q2,q3,q4⟩:=xb (E,at_,fr) rv k (by dsimp only;omega);dsimp only at q1 q2 q3 q4 h2;rcases aP i (mE rv at_ k).length with hi|hi
   ·rw[aJ hi]at h1;rw[aJ (by omega)]at h2;exact ih h1 h2
   ·have Ra:i=(mE rv at_ k).length:=by have:=(aE.1 h1).1;simp at this;omega
    rw[Ra,aM (Nat.le_refl _),bI]at h1;rw[Ra,q3,<-q1,aM (Nat.le_refl _),bI]at h2;simp only[List.getElem?_cons_zero,Option.some.injEq]at h1 h2;refine⟨r,?_,?_⟩
    ·rw[<-h1,List.getD,aB (by omega)];rfl
    ·rw[<-h2,List.getD,aB hr];rfl
theorem IW{α:Type}(l:List α)(a b:α):(l++[a]).set l.length b=l++[b]:=by simp
section
variable{S S':Nat->Prop}{H:Hp}{nx:Nat}{iv iv':Iv}{B:Nat}{w w' w2:World}{O:Nat->Sx.eE}{rv:List Value}{v:Value}{q:Rat}
theorem cT.IX(h:cT w (Lr S B iv rv) v q)(r:Rel H nx iv B w O w')(hS:∀g,S g->g<B):cT w' (Lr S B iv rv) v q:=h.cJ fun _ hg=>Rel.same r hS hg.1
theorem cT.aC4(h:cT w (Lr S B iv rv) v q)(r:Rel H nx iv B w O w')(hS:∀g,S g->g<B)(he:Ext w' w2)(hm:∀p,p∈iv->p∈iv'):cT w2 (Lr S B iv' rv) v q:=
 ((h.IX r hS).cJ fun g hg=>he.block g (Rel.old r hS g hg.1)).cL fun _ hg=>⟨hg.1.mono hm,hg.2⟩
theorem Lr.old(r:Rel H nx iv B w O w')(hS:∀g,S g->g<B):Old (Lr S B iv rv) w':=fun g hg=>Rel.old r hS g hg.1
theorem cT.aDv{n:Nat}(h:cT w2 (Nf w' w2) v q)(hM:nF w S B iv rv n M)(r:Rel H nx iv B w O w'):cT w2 (Lr S0 B ((w'.heap.size,w2.heap.size)::iv) rv) v q:=
 h.cL fun g hg=>by
  rcases hg with hg|hg
  ·exact hg.elim
  ·exact⟨.inr ⟨by have:=r.cI;omega,_,_,aI,hg.1,hg.2⟩,fun hm=>by have:=hM.lt r hm;omega⟩
end
set_option maxHeartbeats 2000000 in
theorem yr{n h:Nat}(hC:Old C w)(hS:Old S w)(hM:mW w C S v M)(hlen:fq n M)(hn0:0<n)(hn:n<=1000)(hR:M.length<=1000)(Pt:cols<=n)(hB:Ga M cols h)(hh:3*h<=90000):
  eA PG N.gE #[.agg #[v,.int .i64 n],.int .i64 cols] w (eL w fun v' w2=>∃vr vp vf,v'= .agg #[vr,.int .i64 n,vp,vf]∧cW w2 (Nw S w w2) vr (db M cols).1∧dF w2 (Nf w w2) vp (db M cols).2.1∧dF w2 (Nf w w2) vf (db M cols).2.2):=by
 have hw:=bR w;obtain⟨am,cm,rfl,Ri,Q9⟩:=mW.shape hM;unfold maxLen at Q9;refine kL (by simp) ?_
 refine⟨cols,cols,rfl,rfl,Nat.le_refl _,by omega,by omega,Nat×World,fun z=>⟨[(1,iZ cols),(2,pP 0 0),(4,pP 1 0),(5,pP 2 0),(6,.o (.s 3 0 cols cols)),(27,iZ cols),(28,iN z.1)],
   [(3,.arr T.int (List.replicate z.1 (.int .i64 (-1))++List.replicate (cols-z.1) (.int .i64 0))),(2,.box T.df [.v (.slice none 0 0),.v (.int .i64 n),.v (.slice none 0 0),.v (.slice none 0 0)]),(1,.box T.df [.v (.slice none 0 0),.v (.int .i64 0),.v (.slice none 0 0),.v (.slice none 0 0)]),(0,.box T.eG [.v (.slice am M.length cm),.v (.int .i64 n)])],4,[],z.2⟩,fun z=>cols-z.1,
  fun z=>z.1<=cols∧dg w.heap.size w z.2,?_,?_⟩
 ·intro O w' r;exact⟨(0,w'),⟨aO _,hw.tr r.cS⟩,Sub.gn [] r ⟨by simp;rfl,rfl,rfl,rfl,trivial⟩⟩
 rintro⟨i,w1⟩ ⟨hi,hw⟩;dsimp only at hi hw ⊢;refine dG.mk ?_ ?_<;>intro OW
 ·have OW:i<cols:=by simpa using OW
  refine⟨by omega,by simp;omega,List.replicate (i+1) (.int .i64 (-1))++List.replicate (cols-(i+1)) (.int .i64 0),?_,?_⟩
  ·rw[aF,aY,aW];exact aAc _ _ OW
  refine⟨((i+1:Nat):Int),wo,?_⟩;intro ρ3 w3 r3;exact⟨(i+1,w3),⟨OW,hw.tr r3.cS⟩,Sub.gn [] r3,by dsimp only;omega⟩
 have OW:i=cols:=aQ hi (by simpa using OW);rw[OW]
 refine⟨Nat×List Value×List (List Rat)×List (Option Nat)×List Nat×World×Iv,fun z=>⟨[(38,iN z.1),(1,iZ cols),(2,pP 0 0),(4,pP 1 0),(5,pP 2 0),(6,.o (.s 3 0 cols cols)),(36,sV am M.length cm),(37,iZ M.length)],[(2,.box T.df [.w 4 z.2.1.length,.v (.int .i64 n),.v (.slice none 0 0),.w 5 z.2.2.2.2.1.length]),(5,.vec T.int 1 (z.2.2.2.2.1.map fun c:Nat=>.int .i64 (c:Int))),(4,.vec T.fz 1 z.2.1),(0,.box T.eG [.v (.slice am M.length cm),.v (.int .i64 n)]),(1,.box T.df [.v (.slice none 0 0),.v (.int .i64 0),.v (.slice none 0 0),.v (.slice none 0 0)]),(3,.arr T.int (z.2.2.2.1.map atV))],6,z.2.2.2.2.2.2,z.2.2.2.2.2.1⟩,fun z=>M.length-z.1,
  fun z=>z.1<=M.length∧(z.2.2.1,z.2.2.2.1,z.2.2.2.2.1)=im M cols z.1∧dg w.heap.size w z.2.2.2.2.2.1∧nF z.2.2.2.2.2.1 S w.heap.size z.2.2.2.2.2.2 z.2.1 n z.2.2.1,?_,?_⟩
 ·intro O w' r
  exact⟨(0,[],[],List.replicate cols none,[],w',[]),⟨aO _,rfl,hw.tr r.cS,nF.nil⟩,Sub.Du 2 0 T.fz 1 rfl rfl (by simp[jw,SV.sc,At.sc]) r fun ρ1 r1=>Sub.Du 2 3 T.int 1 rfl rfl (by simp[jw,SV.sc,At.sc]) r1 fun ρ2 r2=>
   Sub.gn [] r2 ⟨rfl,rfl,rfl,rfl,rfl,by simp[atV];rfl,trivial⟩⟩
 rintro⟨i,rv,E,at_,fr,w1,iv⟩ ⟨hi,Qo,hw,hE⟩;dsimp only at hi Qo hw hE ⊢;have Oc:=Bo cols hlen i hi;rw[<-Qo]at Oc;have hatl:at_.length=cols:=Oc.at_;have hfrl:fr.length=E.length:=Oc.xw;have hEi:E.length<=i:=Oc.le;have Ot:rv.length=E.length:=hE.len;have hEb:∀r∈E,∀q∈r,rl q+1<=h:=by have:=hB.rows i hi;rwa [<-Qo]at this
 refine dG.mk ?_ ?_<;>intro OW
 ·have OW:i<M.length:=by simpa using OW
  obtain⟨x,hx⟩:∃r,M[i]? =some r:=⟨_,aB OW⟩
  have Pr:=hlen x (aD hx);have Vm:M.getD i []=x:=by rw[List.getD,hx];rfl
  have PO:∀k,k<=cols->∀q∈gL E at_ x k,rl q+1<=h:=by have:=hB.nP i OW;rwa [<-Qo,Vm]at this
  have hcll:∀k,(gL E at_ x k).length=n:=fun k=>by rw[jC,Pr]
  obtain⟨adm,um,SN,QE,km1,km2⟩:=mW.load hM hx;obtain⟨css,⟨-,g1,g2,a0,c0,rfl,g4,g5⟩,QB,Uz,Ox⟩:=QE;have Ok:=eD Uz;refine⟨adm,SN,by omega,.slice a0 x.length c0,rd1 km2 hw (hC _ km1),?_⟩;refine .inl ?_;refine⟨css.flatten,g1,g2,fun O w' r PL=>?_,?_⟩
  ·obtain⟨u0,XR⟩:∃u,css.flatten[0]? =some u:=⟨_,aB (by omega)⟩
   obtain⟨ad,ha,_,_⟩:=g5 0 u0 XR;refine⟨ad,ha,fun j u hj=>?_⟩;obtain⟨ad2,RB,q1,q2⟩:=g5 j u hj;rw[ha]at RB;injection RB with RB;subst RB;rw[cM (w:=w) (w2:=w') (by rw[dD];exact(hw.tr r.cS).block _ (hS _ q1))];exact q2
  refine⟨rfl,by omega,by unfold maxLen;omega,?_⟩;rw[aW x.length,Pr]
  refine⟨Nat×Nat×Nat×World×Iv,fun z=>⟨[(9,.o (.v (.slice (some ⟨z.2.1,0,none⟩) n z.2.2.1))),(46,iZ cols),(47,iN z.1),(2,pP 0 0),(4,pP 1 0),(5,pP 2 0),(6,.o (.s 3 0 cols cols)),(8,iN i),(36,sV am M.length cm),(37,iZ M.length),(38,iN i),(1,iZ cols)],[(2,.box T.df [.w 4 rv.length,.v (.int .i64 n),.v (.slice none 0 0),.w 5 fr.length]),(5,.vec T.int 1 (fr.map fun c:Nat=>.int .i64 (c:Int))),(4,.vec T.fz 1 rv),(0,.box T.eG [.v (.slice am M.length cm),.v (.int .i64 n)]),(1,.box T.df [.v (.slice none 0 0),.v (.int .i64 0),.v (.slice none 0 0),.v (.slice none 0 0)]),(3,.arr T.int (at_.map atV))],8,z.2.2.2.2,z.2.2.2.1⟩,fun z=>cols-z.1,
   fun z=>z.1<=cols∧dg w.heap.size w z.2.2.2.1∧nF z.2.2.2.1 S w.heap.size z.2.2.2.2 (rv++[.slice (some ⟨z.2.1,0,none⟩) n z.2.2.1]) n (E++[gL E at_ x z.1]),?_,?_⟩
  ·intro O w' r;have hv:=aBx (S:=S) (m:=n) (qs:=x) (css:=css) r (id:=7) rfl (by omega) hn0 (by unfold maxLen;omega) ⟨QB,fun j cs q k1 k2=>(Ox j cs q k1 k2).cJ fun g hg=>(hw.tr r.cS).block g (hS g hg)⟩
   exact⟨(0,(O 7).g,(O 7).cap,w',((O 7).g,(O 7).g+1)::iv),⟨aO _,hw.tr r.cS,(hE.rel r hS).push (fun g hg e=>Rel.not r hS hg 7 _ rfl hv.1 e.symm) hv.2.1 hv.2.2.2 hS⟩,
    Sub.aDb r (id:=7) (t:=9) (cs:=css.flatten) rfl hv.1 rfl ⟨rfl,rfl,rfl,rfl,rfl,rfl,trivial⟩ rfl ⟨rfl,rfl,rfl,rfl,rfl,rfl,rfl,rfl,rfl,rfl,rfl,trivial⟩ (by simp[jw,SV.sc,At.sc])⟩
  rintro⟨k,gx,cx,w2,iv⟩ ⟨hk,hw,hE⟩;dsimp only at hk hw hE ⊢;refine dG.mk ?_ ?_<;>intro OY
  ·have OY:k<cols:=by simpa using OY
   obtain⟨o,ho⟩:∃o,at_[k]? =some o:=⟨_,aB (by omega)⟩
   refine⟨by omega,atV o,by rw[aF,aY,aW,aN,ho];rfl,?_⟩
   cases o with
   |none=>
    refine⟨((k+1:Nat):Int),wo,?_⟩;intro ρ3 w3 r3;exact⟨(k+1,gx,cx,w3,_),⟨OY,hw.tr r3.cS,by dsimp only;rw[Jy ho];exact hE.rel r3 hS⟩,Sub.gn [] r3,by dsimp only;omega⟩
   |some j=>
    have hj:j<E.length:=Oc.lt k j ho;have hq:∃q,(gL E at_ x k)[k]? =some q:=⟨_,aB (by rw[hcll];omega)⟩
    obtain⟨q,hq⟩:=hq;have RC:(gL E at_ x k).getD k 0=q:=by rw[List.getD,hq];rfl
    have Sd:=PO k hk q (aD hq);have UH:(rv++[.slice (some ⟨gx,0,none⟩) n cx])[rv.length]? =some (.slice (some ⟨gx,0,none⟩) n cx):=by simp
    have UI:(E++[gL E at_ x k])[rv.length]? =some (gL E at_ x k):=by rw[Ot];simp
    obtain⟨ad,cs,Oy,hF,hl⟩:=hE.load UH UI hq;obtain⟨f0,f1,f2,f3,f4,f5,f6,f7,rfl,hF⟩:=hF;refine⟨ad,Oy,by omega,[.bool f0,.slice f1 f2 f3,.bool f4,.slice f5 f6 f7],rfl,fun O w' r t u hu=>?_,?_⟩
    ·obtain⟨k1,k2⟩:=hl t u hu;rw[aF,cM (w:=w2) (w2:=w') (by rw[dD,dD];exact Rel.same r (dN _) k1)];exact k2
    refine cH (cE hw (fun _ w' v w2=>∃d,v= .bool d∧(d=true↔q=0)) (fun O w' r=>oG (Lr.old r hS) ((hF.IX r hS).l (by omega))) ?_);rintro O _ _ PJ Od r he hw h_ ⟨d,rfl,hz⟩;replace hE:=hE.cK r hS he (mC h_);replace hF:=hF.aC4 r hS he (mC h_)
    cases d
    ·have XS:q≠0:=fun e=>by have:=hz.2 e;cases this
     obtain⟨vj,Tm⟩:∃v,rv[j]? =some v:=⟨_,aB (by omega)⟩
     have Ub:(rv++[.slice (some ⟨gx,0,none⟩) n cx])[j]? =some vj:=by rw[aJ (by omega)];exact Tm
     obtain⟨ej,WM⟩:∃v,E[j]? =some v:=⟨_,aB hj⟩
     have WN:(E++[gL E at_ x k])[j]? =some ej:=by rw[aJ hj];exact WM
     have hejd:E.getD j []=ej:=by rw[List.getD,WM];rfl
     obtain⟨aj,cj,rfl⟩:=hE.form Ub;obtain⟨ad,cs,Oy,hF,hl⟩:=hE.load UH UI hq;obtain⟨f0,f1,f2,f3,f4,f5,f6,f7,rfl,hF⟩:=hF;refine cO hτ dZ [.x 0,.x 1,.x 2,.x 3,.x 4,.x 5,.x 6,.x 7,.x 8,.x 9,.x 10,.x 11] (by kernel_rfl) (by kernel_rfl) ?_;refine⟨by simp,by omega,.slice aj n cj,by simpa using Tm,ad,Oy,by omega,[.bool f0,.slice f1 f2 f3,.bool f4,.slice f5 f6 f7],rfl,fun O w' r t u hu=>?_,?_⟩
     ·obtain⟨k1,k2⟩:=hl t u hu;rw[aF,cM (w:=PJ) (w2:=w') (by rw[dD,dD];exact Rel.same r (dN _) k1)];exact k2
     refine⟨fun O w' r=>?_⟩;refine(hE.G5 r hS (i:=rv.length) (j:=j) (h:=h) (by omega) UH Ub UI WN (hF.l (by omega)) (fun y hy=>PO k hk y hy) (fun y hy=>hEb ej (aD WM) y hy) Sd hh).mono fun e w8 he=>?_;obtain⟨rfl,Oi,Qx,PE⟩:=he;have PI:=(hw.tr r.cS).tr (hE.cS r Oi Qx);refine⟨.tuple #[],_,(w'.heap.size,w8.heap.size)::Od,rfl,r.pE (fun x hx=>Rel.not r (dN _) (hE.new x (Qx x hx))) Oi,?_⟩;have Oq:(E++[gL E at_ x k]).set rv.length (nZ (gL E at_ x k) ej q)=E++[gL E at_ x (k+1)]:=by rw[Ot,IW,DF ho,hejd,RC]
     rw[Oq]at PE;generalize (w'.heap.size,w8.heap.size)::Od=RD at*
     refine⟨((k+1:Nat):Int),wo,?_⟩;intro ρ3 w3 r3;exact⟨(k+1,gx,cx,w3,_),⟨OY,PI.tr r3.cS,PE.rel r3 hS⟩,Sub.gn [] r3,by dsimp only;omega⟩
    ·have XS:q=0:=hz.1 rfl;refine⟨((k+1:Nat):Int),wo,?_⟩;intro ρ3 w3 r3;exact⟨(k+1,gx,cx,w3,_),⟨OY,hw.tr r3.cS,by dsimp only;rw[DF ho,RC,XS,Bm];exact hE.rel r3 hS⟩,Sub.gn [] r3,by dsimp only;omega⟩
  have OY:k=cols:=aQ hk (by simpa using OY);rw[OY]at hE;obtain⟨y,hy⟩:∃y,gL E at_ x cols=y:=⟨_,rfl⟩
  have hyl:y.length=n:=by rw[<-hy];exact hcll cols
  have Vr:∀q∈y,rl q+1<=h:=by rw[<-hy];exact PO cols (Nat.le_refl _)
  rw[hy]at hE;have UH:(rv++[.slice (some ⟨gx,0,none⟩) n cx])[rv.length]? =some (.slice (some ⟨gx,0,none⟩) n cx):=by simp
  refine⟨Nat×World×Iv,fun z=>⟨[(9,.o (.v (.slice (some ⟨gx,0,none⟩) n cx))),(12,iN z.1),(2,pP 0 0),(4,pP 1 0),(5,pP 2 0),(6,.o (.s 3 0 cols cols)),(8,iN i),(36,sV am M.length cm),(37,iZ M.length),(38,iN i),(1,iZ cols)],[(2,.box T.df [.w 4 rv.length,.v (.int .i64 n),.v (.slice none 0 0),.w 5 fr.length]),(5,.vec T.int 1 (fr.map fun c:Nat=>.int .i64 (c:Int))),(4,.vec T.fz 1 rv),(0,.box T.eG [.v (.slice am M.length cm),.v (.int .i64 n)]),(1,.box T.df [.v (.slice none 0 0),.v (.int .i64 0),.v (.slice none 0 0),.v (.slice none 0 0)]),(3,.arr T.int (at_.map atV))],8,z.2.2,z.2.1⟩,fun z=>cols-z.1,
   fun z=>z.1<=cols∧(∀t,t<z.1->y.getD t 0=0)∧dg w.heap.size w z.2.1∧nF z.2.1 S w.heap.size z.2.2 (rv++[.slice (some ⟨gx,0,none⟩) n cx]) n (E++[y]),?_,?_⟩
  ·intro O w' r3;exact⟨(0,w',_),⟨aO _,fun t ht=>absurd ht (Nat.not_lt_zero t),hw.tr r3.cS,hE.rel r3 hS⟩,Sub.gn [] r3⟩
  rintro⟨pv,w3,iv⟩ ⟨hp,Wp,hw,hE⟩;dsimp only at hp Wp hw hE ⊢;have UI:(E++[y])[rv.length]? =some y:=by rw[Ot];simp
  refine dG.mk ?_ ?_<;>intro TV
  ·have TV:pv<cols:=by simpa using TV
   obtain⟨q,hq⟩:∃q,y[pv]? =some q:=⟨_,aB (by omega)⟩
   have RC:y.getD pv 0=q:=by rw[List.getD,hq];rfl
   have Sd:=Vr q (aD hq);obtain⟨ad,cs,Oy,hF,hl⟩:=hE.load UH UI hq;obtain⟨f0,f1,f2,f3,f4,f5,f6,f7,rfl,hF⟩:=hF;refine⟨ad,Oy,by omega,[.bool f0,.slice f1 f2 f3,.bool f4,.slice f5 f6 f7],rfl,fun O w' r t u hu=>?_,?_⟩
   ·obtain⟨k1,k2⟩:=hl t u hu;rw[aF,cM (w:=w3) (w2:=w') (by rw[dD,dD];exact Rel.same r (dN _) k1)];exact k2
   refine cH (cE hw (fun _ w' v w2=>∃d,v= .bool d∧(d=true↔q=0)) (fun O w' r=>oG (Lr.old r hS) ((hF.IX r hS).l (by omega))) ?_);rintro O _ _ PY Oa r he hw h_ ⟨d,rfl,hz⟩;replace hE:=hE.cK r hS he (mC h_)
   cases d
   ·have XS:q≠0:=fun e=>by have:=hz.2 e;cases this
    refine dG.mk ?_ ?_<;>intro he
    ·have he:(pv:Int)=cols:=by simpa using he
     omega
    have VG:wH y cols=pv:=Kx Wp hp fun _=>by rw[RC];exact XS
    have Sv:=KA Qo Vm hy VG (by omega);rw[RC]at Sv;obtain⟨u,hu⟩:∃u,y.map (· / q)=u:=⟨_,rfl⟩
    rw[hu]at Sv;have hul:u.length=n:=by rw[<-hu,aL,hyl]
    have hub:∀q∈u,rl q+1<=h:=by
     have:=hB.rows (i+1) OW u (by rw[Sv];simp);exact this
    obtain⟨ad,cs,Oy,hF,hl⟩:=hE.load UH UI hq;obtain⟨f0,f1,f2,f3,f4,f5,f6,f7,rfl,hF⟩:=hF;refine⟨ad,Oy,by omega,[.bool f0,.slice f1 f2 f3,.bool f4,.slice f5 f6 f7],rfl,fun O w' r t u hu=>?_,?_⟩
    ·obtain⟨k1,k2⟩:=hl t u hu;rw[aF,cM (w:=PY) (w2:=w') (by rw[dD,dD];exact Rel.same r (dN _) k1)];exact k2
    refine⟨Nat×World×Iv,fun z=>⟨[(9,.o (.v (.slice (some ⟨gx,0,none⟩) n cx))),(12,iN pv),(13,pP 8 0),(97,iZ n),(98,iN z.1),(2,pP 0 0),(4,pP 1 0),(5,pP 2 0),(6,.o (.s 3 0 cols cols)),(8,iN i),(36,sV am M.length cm),(37,iZ M.length),(38,iN i),(1,iZ cols)],[(8,.box T.Rat [.v (.bool f0),.v (.slice f1 f2 f3),.v (.bool f4),.v (.slice f5 f6 f7)]),(2,.box T.df [.w 4 rv.length,.v (.int .i64 n),.v (.slice none 0 0),.w 5 fr.length]),(5,.vec T.int 1 (fr.map fun c:Nat=>.int .i64 (c:Int))),(4,.vec T.fz 1 rv),(0,.box T.eG [.v (.slice am M.length cm),.v (.int .i64 n)]),(1,.box T.df [.v (.slice none 0 0),.v (.int .i64 0),.v (.slice none 0 0),.v (.slice none 0 0)]),(3,.arr T.int (at_.map atV))],9,z.2.2,z.2.1⟩,fun z=>n-z.1,
     fun z=>z.1<=n∧dg w.heap.size w z.2.1∧nF z.2.1 S w.heap.size z.2.2 (rv++[.slice (some ⟨gx,0,none⟩) n cx]) n (E++[iY z.1 (fun _ r=>r / q) y])∧cT z.2.1 (Lr S w.heap.size z.2.2 (rv++[.slice (some ⟨gx,0,none⟩) n cx])) (.agg #[.bool f0,.slice f1 f2 f3,.bool f4,.slice f5 f6 f7]) q,?_,?_⟩
    ·intro O w' r3;exact⟨(0,w',_),⟨aO _,hw.tr r3.cS,by dsimp only;rw[qO];exact hE.rel r3 hS,hF.IX r3 hS⟩,Sub.gn [] r3⟩
    rintro⟨k,w4,iv⟩ ⟨hk,hw,hE,hF⟩;dsimp only at hk hw hE hF ⊢;have UI:(E++[iY k (fun _ r=>r / q) y])[rv.length]? =some (iY k (fun _ r=>r / q) y):=by rw[Ot];simp
    refine dG.mk ?_ ?_<;>intro OY
    ·have OY:k<n:=by simpa using OY
     obtain⟨t,ht⟩:∃q,y[k]? =some q:=⟨_,aB (by omega)⟩
     have Uw:=Vr t (aD ht);obtain⟨ad,cs,Oy,hG,hl⟩:=hE.load UH UI (xa ht);obtain⟨g0,g1,g2,g3,g4,g5,g6,g7,rfl,hG⟩:=hG;refine cO hτ dZ [.x 0,.x 1,.x 2,.x 3,.x 4,.x 5,.x 6,.x 7,.x 8,.x 9] (by kernel_rfl) (by kernel_rfl) ?_;refine⟨ad,Oy,by omega,[.bool g0,.slice g1 g2 g3,.bool g4,.slice g5 g6 g7],rfl,fun O w' r t u hu=>?_,?_⟩
     ·obtain⟨k1,k2⟩:=hl t u hu;rw[aF,cM (w:=w4) (w2:=w') (by rw[dD,dD];exact Rel.same r (dN _) k1)];exact k2
     refine cP (Φ:=fun _ w' v w2=>cT w2 (Nf w' w2) v (t / q)) (fun O w' r=>Jx (Lr.old r hS) ((hG.IX r hS).l (by omega)) ((hF.IX r hS).l (by omega)) XS) ?_;rintro O Pg v3 Pc r he hb RR;replace hw:=hw.tr hb;have hd:=RR.aDv (S0:=S) hE r;replace hE:=hE.cK (iv':=(Pg.heap.size,Pc.heap.size)::iv) r hS he fun x hx=>aC _ hx;replace hF:=hF.aC4 (iv':=(Pg.heap.size,Pc.heap.size)::iv) r hS he fun x hx=>aC _ hx;generalize (Pg.heap.size,Pc.heap.size)::iv=Oj at*
     obtain⟨A0,A1,A2,A3,A4,A5,A6,A7,rfl⟩:=hd.shape;refine⟨⟨gx,0,none⟩,rfl,by omega,?_⟩;intro O w' r;obtain⟨g,hg,h1,h2,h3,h4⟩:=hE.store r hS UH UI OY hd;injection hg with hg;injection hg with hg;subst hg;refine⟨h1,h2,h3,fun w5 Qd=>?_⟩;obtain⟨k1,k2,k3,k4⟩:=h4 w5 Qd;have PI:=(hw.tr r.cS).tr k2;have Rg:=hF.cJ k4;have Oq:(E++[iY k (fun _ r=>r / q) y]).set rv.length ((iY k (fun _ r=>r / q) y).set k (t / q))=E++[iY (k+1) (fun _ r=>r / q) y]:=by rw[Ot,IW,<-nE ht]
     rw[Oq]at k1;refine⟨((k+1:Nat):Int),wo,?_⟩;intro ρ3 w6 r3;exact⟨(k+1,w6,_),⟨OY,PI.tr r3.cS,k1.rel r3 hS,Rg.IX r3 hS⟩,Sub.gn [] r3,by dsimp only;omega⟩
    have OY:k=n:=aQ hk (by simpa using OY);rw[OY,<-hyl,aAe,hu,hyl]at hE
    refine⟨by simp,Nat×World×Iv,fun z=>⟨[(9,.o (.v (.slice (some ⟨gx,0,none⟩) n cx))),(12,iN pv),(113,.o (.w 4 rv.length)),(114,iZ rv.length),(115,iN z.1),(2,pP 0 0),(4,pP 1 0),(5,pP 2 0),(6,.o (.s 3 0 cols cols)),(8,iN i),(36,sV am M.length cm),(37,iZ M.length),(38,iN i),(1,iZ cols)],[(2,.box T.df [.w 4 rv.length,.v (.int .i64 n),.v (.slice none 0 0),.w 5 fr.length]),(5,.vec T.int 1 (fr.map fun c:Nat=>.int .i64 (c:Int))),(4,.vec T.fz 1 rv),(0,.box T.eG [.v (.slice am M.length cm),.v (.int .i64 n)]),(1,.box T.df [.v (.slice none 0 0),.v (.int .i64 0),.v (.slice none 0 0),.v (.slice none 0 0)]),(3,.arr T.int (at_.map atV))],9,z.2.2,z.2.1⟩,fun z=>rv.length-z.1,
     fun z=>z.1<=rv.length∧dg w.heap.size w z.2.1∧nF z.2.1 S w.heap.size z.2.2 (rv++[.slice (some ⟨gx,0,none⟩) n cx]) n (gp E u pv z.1++[u]),?_,?_⟩
    ·intro O w' r3;exact⟨(0,w',_),⟨aO _,hw.tr r3.cS,by dsimp only;rw[JW];exact hE.rel r3 hS⟩,Sub.gn [] r3⟩
    rintro⟨j,w5,iv⟩ ⟨hj,hw,hE⟩;dsimp only at hj hw hE ⊢;refine dG.mk ?_ ?_<;>intro PQ
    ·have PQ:j<rv.length:=by simpa using PQ
     obtain⟨ej,WM⟩:∃v,E[j]? =some v:=⟨_,aB (by omega)⟩
     have Uc:ej.length=n:=Oc.len ej (aD WM);have heb:=hEb ej (aD WM);obtain⟨vj,Tm⟩:∃v,rv[j]? =some v:=⟨_,aB PQ⟩
     have Ub:(rv++[.slice (some ⟨gx,0,none⟩) n cx])[j]? =some vj:=by rw[aJ PQ];exact Tm
     have WN:(gp E u pv j++[u])[j]? =some ej:=by rw[aJ (by rw[gO];omega)];exact Hd WM
     have hur:(gp E u pv j++[u])[rv.length]? =some u:=by rw[Ot,<-gO E u pv j];simp
     obtain⟨t,ht⟩:∃q,ej[pv]? =some q:=⟨_,aB (by omega)⟩
     have htd:ej.getD pv 0=t:=by rw[List.getD,ht];rfl
     have Uw:=heb t (aD ht);obtain⟨aj,cj,rfl⟩:=hE.form Ub;obtain⟨ad,cs,Oy,hG,hl⟩:=hE.load Ub WN ht;obtain⟨g0,g1,g2,g3,g4,g5,g6,g7,rfl,hG⟩:=hG;refine⟨by simp,by omega,.slice aj n cj,by simpa using Tm,ad,Oy,by omega,[.bool g0,.slice g1 g2 g3,.bool g4,.slice g5 g6 g7],rfl,fun O w' r t u hu=>?_,?_⟩
     ·obtain⟨k1,k2⟩:=hl t u hu;rw[aF,cM (w:=w5) (w2:=w') (by rw[dD,dD];exact Rel.same r (dN _) k1)];exact k2
     refine cH (cE hw (fun _ w' v w2=>∃d,v= .bool d∧(d=true↔t=0)) (fun O w' r=>oG (Lr.old r hS) ((hG.IX r hS).l (by omega))) ?_);rintro O _ _ Q6 Oz r he hw h_ ⟨d,rfl,hz⟩;replace hE:=hE.cK r hS he (mC h_)
     cases d
     ·have ht0:t≠0:=fun e=>by have:=hz.2 e;cases this
      obtain⟨ad,cs,Oy,hG,hl⟩:=hE.load Ub WN ht;obtain⟨g0,g1,g2,g3,g4,g5,g6,g7,rfl,hG⟩:=hG;refine⟨ad,Oy,by omega,[.bool g0,.slice g1 g2 g3,.bool g4,.slice g5 g6 g7],rfl,fun O w' r t u hu=>?_,?_⟩
      ·obtain⟨k1,k2⟩:=hl t u hu;rw[aF,cM (w:=Q6) (w2:=w') (by rw[dD,dD];exact Rel.same r (dN _) k1)];exact k2
      refine⟨fun O w' r=>?_⟩;refine(hE.G5 r hS (i:=j) (j:=rv.length) (h:=h) (by omega) Ub UH WN hur (hG.l (by omega)) heb hub Uw hh).mono fun e w8 he=>?_;obtain⟨rfl,Oi,Qx,PE⟩:=he;have PI:=(hw.tr r.cS).tr (hE.cS r Oi Qx);refine⟨.tuple #[],_,(w'.heap.size,w8.heap.size)::Oz,rfl,r.pE (fun x hx=>Rel.not r (dN _) (hE.new x (Qx x hx))) Oi,?_⟩;have Oq:(gp E u pv j++[u]).set j (nZ ej u t)=gp E u pv (j+1)++[u]:=by rw[aAd _ _ (by rw[gO];omega),Bn WM,htd]
      rw[Oq]at PE;generalize (w'.heap.size,w8.heap.size)::Oz=RD at*
      refine⟨((j+1:Nat):Int),wo,?_⟩;intro ρ3 w6 r3;exact⟨(j+1,w6,_),⟨PQ,PI.tr r3.cS,PE.rel r3 hS⟩,Sub.gn [] r3,by dsimp only;omega⟩
     ·have ht0:t=0:=hz.1 rfl;refine⟨((j+1:Nat):Int),wo,?_⟩;intro ρ3 w6 r3;exact⟨(j+1,w6,_),⟨PQ,hw.tr r3.cS,by dsimp only;rw[KB WM (by rw[htd,ht0])];exact hE.rel r3 hS⟩,Sub.gn [] r3,by dsimp only;omega⟩
    have PQ:j=E.length:=by have:=aQ hj (by simpa using PQ);omega
    rw[PQ]at hE;refine⟨by simp,by omega,by simp;omega,(at_.set pv (some rv.length)).map atV,?_,?_⟩
    ·rw[aF,aY,aW,List.map_set];exact gP (by simp;omega)
    refine ja hτ dZ (.x 0 (.x 1 (.x 3 (.x 6 (.x 8 (.ld 2 64544 (.ld 7 64512 (.two 4 (.two 5 (.x 11 (.x 12 (.x 9 (.x 10 (.x 13 (.x 14 (.x 15 .nil))))))) 9 (.x 5 (.x 11 (.x 12 (.x 10 (.x 13 (.x 14 (.x 15 .nil)))))))) 9 (.x 4 (.x 5 (.x 11 (.x 12 (.x 10 (.x 13 (.x 14 (.x 15 .nil)))))))))))))))) (by kernel_rfl) (by kernel_rfl) ?_;refine⟨?_,?_⟩
    ·refine⟨rfl,rfl,?_,?_⟩
     ·refine .inl ?_;refine⟨by simp,by omega,by unfold maxLen;omega,rfl,rfl,?_⟩;refine .inl ?_;refine⟨by simp,by omega,by unfold maxLen;omega,((i+1:Nat):Int),wo,?_⟩;intro ρ3 w6 r3;exact⟨(i+1,rv++[.slice (some ⟨gx,0,none⟩) n cx],gp E u pv E.length++[u],at_.set pv (some E.length),fr++[i],w6,_),⟨OW,Sv.symm,hw.tr r3.cS,hE.rel r3 hS⟩,Sub.gn [(4,10),(5,12)] r3 ⟨by dsimp only;rw[List.length_append,List.length_append,List.length_singleton,List.length_singleton];rfl,by dsimp only;rw[List.map_append];rfl,rfl,rfl,rfl,by dsimp only;rw[<-Ot];rfl,trivial⟩,by dsimp only;omega⟩
     ·refine⟨rfl,rfl,?_⟩;refine .inl ?_;refine⟨by simp,by omega,by unfold maxLen;omega,rfl,?_⟩;refine .inl ?_;refine⟨by simp,by omega,by unfold maxLen;omega,((i+1:Nat):Int),wo,?_⟩;intro ρ3 w6 r3;exact⟨(i+1,rv++[.slice (some ⟨gx,0,none⟩) n cx],gp E u pv E.length++[u],at_.set pv (some E.length),fr++[i],w6,_),⟨OW,Sv.symm,hw.tr r3.cS,hE.rel r3 hS⟩,Sub.gn [(4,11),(5,12)] r3 ⟨by dsimp only;rw[List.length_append,List.length_append,List.length_singleton,List.length_singleton];rfl,by dsimp only;rw[List.map_append];rfl,rfl,rfl,rfl,by dsimp only;rw[<-Ot];rfl,trivial⟩,by dsimp only;omega⟩
    ·refine⟨rfl,rfl,rfl,rfl,?_⟩;refine .inl ?_;refine⟨by simp,by omega,by unfold maxLen;omega,rfl,?_⟩;refine .inl ?_;refine⟨by simp,by omega,by unfold maxLen;omega,((i+1:Nat):Int),wo,?_⟩;intro ρ3 w6 r3;exact⟨(i+1,rv++[.slice (some ⟨gx,0,none⟩) n cx],gp E u pv E.length++[u],at_.set pv (some E.length),fr++[i],w6,_),⟨OW,Sv.symm,hw.tr r3.cS,hE.rel r3 hS⟩,Sub.gn [(4,11),(5,12)] r3 ⟨by dsimp only;rw[List.length_append,List.length_append,List.length_singleton,List.length_singleton];rfl,by dsimp only;rw[List.map_append];rfl,rfl,rfl,rfl,by dsimp only;rw[<-Ot];rfl,trivial⟩,by dsimp only;omega⟩
   ·have XS:q=0:=hz.1 rfl;refine⟨((pv+1:Nat):Int),wo,?_⟩;intro ρ3 w4 r3
    exact⟨(pv+1,w4,_),⟨TV,fun t ht=>by
     by_cases htp:t=pv
     ·rw[htp,RC,XS]
     ·exact Wp t (by dsimp only at ht;omega),hw.tr r3.cS,hE.rel r3 hS⟩,Sub.gn [] r3,by dsimp only;omega⟩
  have TV:pv=cols:=aQ hp (by simpa using TV);have VG:wH y cols=cols:=Kx (k:=cols) (fun t ht=>Wp t (by omega)) (Nat.le_refl _) (fun h=>absurd h (Nat.lt_irrefl _));have hskip:=Jz Qo Vm hy VG;refine dG.mk (fun he=>?_) (fun he=>by rw[TV]at he;simp at he);refine⟨((i+1:Nat):Int),wo,?_⟩;intro ρ3 w4 r3;exact⟨(i+1,rv,E,at_,fr,w4,_),⟨OW,hskip,hw.tr r3.cS,hE.drop.rel r3 hS⟩,Sub.gn [] r3,by dsimp only;omega⟩
 have OW:i=M.length:=aQ hi (by simpa using OW);subst OW;have hredS:db M cols=dO (E,at_,fr) cols:=by rw[db,<-Qo]
 have PC:∀(k r:Nat),at_[k]? =some (some r)->r<E.length:=Oc.lt;have So:∀k,k<=cols->(dO (E,at_,fr) k).1.length=(dO (E,at_,fr) k).2.1.length∧(dO (E,at_,fr) k).2.2.length=(dO (E,at_,fr) k).2.1.length∧(mE rv at_ k).length=(dO (E,at_,fr) k).2.1.length∧(dO (E,at_,fr) k).2.1.length<=k:=fun k hk=>xb (E,at_,fr) rv k (by dsimp only;omega)
 refine⟨Nat×World,fun z=>⟨[(4,pP 1 0),(5,pP 2 0),(17,pP 6 0),(159,.o (.s 3 0 cols cols)),(160,iZ cols),(161,iN z.1)],[(6,.box T.df [.w 7 (dO (E,at_,fr) z.1).2.1.length,.v (.int .i64 n),.w 8 (dO (E,at_,fr) z.1).2.1.length,.w 9 (dO (E,at_,fr) z.1).2.1.length]),(9,.vec T.int 1 ((dO (E,at_,fr) z.1).2.2.map fun c:Nat=>.int .i64 (c:Int))),(8,.vec T.int 1 ((dO (E,at_,fr) z.1).2.1.map fun c:Nat=>.int .i64 (c:Int))),(7,.vec T.fz 1 (mE rv at_ z.1)),(2,.box T.df [.w 4 rv.length,.v (.int .i64 n),.v (.slice none 0 0),.w 5 fr.length]),(5,.vec T.int 1 (fr.map fun c:Nat=>.int .i64 (c:Int))),(4,.vec T.fz 1 rv),(1,.box T.df [.v (.slice none 0 0),.v (.int .i64 0),.v (.slice none 0 0),.v (.slice none 0 0)]),(3,.arr T.int (at_.map atV))],10,iv,z.2⟩,fun z=>cols-z.1,
  fun z=>z.1<=cols∧dg w.heap.size w z.2∧nF z.2 S w.heap.size iv rv n E,?_,?_⟩
 ·intro O w' r
  exact⟨(0,w'),⟨aO _,hw.tr r.cS,hE.rel r hS⟩,Sub.Du 6 0 T.fz 1 rfl rfl (by simp[jw,SV.sc,At.sc]) r fun ρ1 r1=>Sub.Du 6 2 T.int 1 rfl rfl (by simp[jw,SV.sc,At.sc]) r1 fun ρ2 r2=>Sub.Du 6 3 T.int 1 rfl rfl (by simp[jw,SV.sc,At.sc]) r2 fun ρ3 r3=>
   Sub.gn [] r3⟩
 rintro⟨k,w1⟩ ⟨hk,hw,hE⟩;dsimp only at hk hw hE ⊢;obtain⟨q1,q2,q3,q4⟩:=So k hk;refine dG.mk ?_ ?_<;>intro OY
 ·have OY:k<cols:=by simpa using OY
  obtain⟨o,ho⟩:∃o,at_[k]? =some o:=⟨_,aB (by omega)⟩
  refine⟨by omega,atV o,by rw[aF,aY,aW,aN,ho];rfl,?_⟩
  cases o with
  |none=>
   refine⟨((k+1:Nat):Int),wo,?_⟩;have Pu:=oH (s:=(E,at_,fr)) ho;have Qf:=vH (rv:=rv) ho;intro ρ3 w3 r3;exact⟨(k+1,w3),⟨OY,hw.tr r3.cS,hE.rel r3 hS⟩,Sub.gn [] r3 ⟨by dsimp only;rw[Pu];rfl,by dsimp only;rw[Pu];rfl,by dsimp only;rw[Pu];rfl,by dsimp only;rw[Qf];rfl,rfl,rfl,rfl,rfl,rfl,trivial⟩,by dsimp only;omega⟩
  |some j=>
   have hj:j<E.length:=PC k j ho;obtain⟨vj,Tm⟩:∃v,rv[j]? =some v:=⟨_,aB (by omega)⟩
   have hvjd:rv.getD j (.bool false)=vj:=by rw[List.getD,Tm];rfl
   obtain⟨aj,cj,rfl⟩:=hE.form Tm;obtain⟨fj,UE⟩:∃v,fr[j]? =some v:=⟨_,aB (by omega)⟩
   have hfjd:fr.getD j 0=fj:=by rw[List.getD,UE];rfl
   have Pu:=oI (s:=(E,at_,fr)) ho;have Qf:=vI (rv:=rv) ho;dsimp only at Pu;rw[hvjd]at Qf;rw[hfjd]at Pu;refine ja hτ dZ (.x 0 (.x 1 (.x 3 (.x 4 (.x 6 (.x 11 (.x 13 (.x 16 (.x 18 (.x 20 (.ld 2 4278223872 (.ld 5 4278224768 (.x 7 (.ld 8 4278224384 (.ld 12 4278222848 (.ld 17 4278190080 (.ld 19 4192206848 (.x 21 (.ld 22 4185915392 (.three 9 (.three 10 (.x 25 (.x 26 (.two 14 (.two 15 (.x 23 (.x 24 (.x 27 (.x 28 (.x 29 (.x 30 (.x 31 .nil))))))) 23 (.x 15 (.x 24 (.x 27 (.x 28 (.x 29 (.x 30 (.x 31 .nil)))))))) 23 (.x 14 (.x 15 (.x 24 (.x 27 (.x 28 (.x 29 (.x 30 (.x 31 .nil))))))))))) 14 (.two 10 (.x 25 (.x 26 (.two 15 (.x 23 (.x 24 (.x 27 (.x 28 (.x 29 (.x 30 (.x 31 .nil))))))) 23 (.x 15 (.x 24 (.x 27 (.x 28 (.x 29 (.x 30 (.x 31 .nil)))))))))) 23 (.x 10 (.x 25 (.x 26 (.x 15 (.x 24 (.x 27 (.x 28 (.x 29 (.x 30 (.x 31 .nil))))))))))) 23 (.two 10 (.x 25 (.x 26 (.x 14 (.x 15 (.x 24 (.x 27 (.x 28 (.x 29 (.x 30 (.x 31 .nil)))))))))) 14 (.x 10 (.x 25 (.x 26 (.x 15 (.x 24 (.x 27 (.x 28 (.x 29 (.x 30 (.x 31 .nil)))))))))))) 14 (.two 9 (.two 10 (.x 25 (.x 26 (.two 15 (.x 23 (.x 24 (.x 27 (.x 28 (.x 29 (.x 30 (.x 31 .nil))))))) 23 (.x 15 (.x 24 (.x 27 (.x 28 (.x 29 (.x 30 (.x 31 .nil)))))))))) 23 (.x 10 (.x 25 (.x 26 (.x 15 (.x 24 (.x 27 (.x 28 (.x 29 (.x 30 (.x 31 .nil))))))))))) 23 (.x 9 (.x 10 (.x 25 (.x 26 (.x 15 (.x 24 (.x 27 (.x 28 (.x 29 (.x 30 (.x 31 .nil)))))))))))) 23 (.two 9 (.two 10 (.x 25 (.x 26 (.x 14 (.x 15 (.x 24 (.x 27 (.x 28 (.x 29 (.x 30 (.x 31 .nil)))))))))) 14 (.x 10 (.x 25 (.x 26 (.x 15 (.x 24 (.x 27 (.x 28 (.x 29 (.x 30 (.x 31 .nil))))))))))) 14 (.x 9 (.x 10 (.x 25 (.x 26 (.x 15 (.x 24 (.x 27 (.x 28 (.x 29 (.x 30 (.x 31 .nil)))))))))))))))))))))))))))))))) (by kernel_rfl) (by kernel_rfl) ?_;refine⟨by simp,by omega,.slice aj n cj,by simpa using Tm,by simp,by omega,.int .i64 (fj:Int),by simp[UE],?_,?_,?_⟩
   ·refine⟨.int .i64 (fj:Int),by simp[UE],rfl,rfl,rfl,rfl,rfl,?_,?_,?_⟩
    ·refine .inl ?_;refine⟨by simp[q2,q3],by omega,by unfold maxLen;omega,.int .i64 (fj:Int),by simp[UE],rfl,rfl,rfl,rfl,?_,?_⟩
     ·refine⟨.int .i64 (fj:Int),by simp[UE],rfl,rfl,rfl,rfl,?_,?_⟩
      ·refine .inl ?_;refine⟨by simp[q2,q3],by omega,by unfold maxLen;omega,.int .i64 (fj:Int),by simp[UE],rfl,rfl,rfl,rfl,?_⟩;refine .inl ?_;refine⟨by simp[q2,q3],by omega,by unfold maxLen;omega,((k+1:Nat):Int),wo,?_⟩;intro ρ3 w3 r3;exact⟨(k+1,w3),⟨OY,hw.tr r3.cS,hE.rel r3 hS⟩,Sub.gn [(7,11),(8,13),(9,15)] r3 ⟨by dsimp only;rw[Pu,List.length_append,List.length_singleton];rfl,by dsimp only;rw[Pu,List.map_append];rfl,by dsimp only;rw[Pu,List.map_append];rfl,by dsimp only;rw[Qf];rfl,rfl,rfl,rfl,rfl,rfl,trivial⟩,by dsimp only;omega⟩
      ·refine⟨rfl,rfl,?_⟩;refine .inl ?_;refine⟨by simp[q2,q3],by omega,by unfold maxLen;omega,rfl,?_⟩;refine .inl ?_;refine⟨by simp[q2,q3],by omega,by unfold maxLen;omega,((k+1:Nat):Int),wo,?_⟩;intro ρ3 w3 r3;exact⟨(k+1,w3),⟨OY,hw.tr r3.cS,hE.rel r3 hS⟩,Sub.gn [(7,11),(8,14),(9,15)] r3 ⟨by dsimp only;rw[Pu,List.length_append,List.length_singleton];rfl,by dsimp only;rw[Pu,List.map_append];rfl,by dsimp only;rw[Pu,List.map_append];rfl,by dsimp only;rw[Qf];rfl,rfl,rfl,rfl,rfl,rfl,trivial⟩,by dsimp only;omega⟩
     ·refine⟨rfl,rfl,rfl,rfl,?_⟩;refine .inl ?_;refine⟨by simp[q2,q3],by omega,by unfold maxLen;omega,rfl,?_⟩;refine .inl ?_;refine⟨by simp[q2,q3],by omega,by unfold maxLen;omega,((k+1:Nat):Int),wo,?_⟩;intro ρ3 w3 r3;exact⟨(k+1,w3),⟨OY,hw.tr r3.cS,hE.rel r3 hS⟩,Sub.gn [(7,11),(8,14),(9,15)] r3 ⟨by dsimp only;rw[Pu,List.length_append,List.length_singleton];rfl,by dsimp only;rw[Pu,List.map_append];rfl,by dsimp only;rw[Pu,List.map_append];rfl,by dsimp only;rw[Qf];rfl,rfl,rfl,rfl,rfl,rfl,trivial⟩,by dsimp only;omega⟩
    ·refine⟨.int .i64 (fj:Int),by simp[UE],rfl,rfl,rfl,rfl,rfl,?_,?_⟩
     ·refine .inl ?_;refine⟨by simp[q2,q3],by omega,by unfold maxLen;omega,.int .i64 (fj:Int),by simp[UE],rfl,rfl,rfl,rfl,?_,?_⟩
      ·refine .inl ?_;refine⟨by simp[q2,q3],by omega,by unfold maxLen;omega,.int .i64 (fj:Int),by simp[UE],rfl,rfl,rfl,rfl,?_⟩;refine .inl ?_;refine⟨by simp[q2,q3],by omega,by unfold maxLen;omega,((k+1:Nat):Int),wo,?_⟩;intro ρ3 w3 r3;exact⟨(k+1,w3),⟨OY,hw.tr r3.cS,hE.rel r3 hS⟩,Sub.gn [(7,12),(8,13),(9,15)] r3 ⟨by dsimp only;rw[Pu,List.length_append,List.length_singleton];rfl,by dsimp only;rw[Pu,List.map_append];rfl,by dsimp only;rw[Pu,List.map_append];rfl,by dsimp only;rw[Qf];rfl,rfl,rfl,rfl,rfl,rfl,trivial⟩,by dsimp only;omega⟩
      ·refine⟨rfl,rfl,?_⟩;refine .inl ?_;refine⟨by simp[q2,q3],by omega,by unfold maxLen;omega,rfl,?_⟩;refine .inl ?_;refine⟨by simp[q2,q3],by omega,by unfold maxLen;omega,((k+1:Nat):Int),wo,?_⟩;intro ρ3 w3 r3;exact⟨(k+1,w3),⟨OY,hw.tr r3.cS,hE.rel r3 hS⟩,Sub.gn [(7,12),(8,14),(9,15)] r3 ⟨by dsimp only;rw[Pu,List.length_append,List.length_singleton];rfl,by dsimp only;rw[Pu,List.map_append];rfl,by dsimp only;rw[Pu,List.map_append];rfl,by dsimp only;rw[Qf];rfl,rfl,rfl,rfl,rfl,rfl,trivial⟩,by dsimp only;omega⟩
     ·refine⟨rfl,rfl,rfl,?_⟩;refine .inl ?_;refine⟨by simp[q2,q3],by omega,by unfold maxLen;omega,rfl,rfl,?_⟩;refine .inl ?_;refine⟨by simp[q2,q3],by omega,by unfold maxLen;omega,rfl,?_⟩;refine .inl ?_;refine⟨by simp[q2,q3],by omega,by unfold maxLen;omega,((k+1:Nat):Int),wo,?_⟩;intro ρ3 w3 r3;exact⟨(k+1,w3),⟨OY,hw.tr r3.cS,hE.rel r3 hS⟩,Sub.gn [(7,13),(8,14),(9,15)] r3 ⟨by dsimp only;rw[Pu,List.length_append,List.length_singleton];rfl,by dsimp only;rw[Pu,List.map_append];rfl,by dsimp only;rw[Pu,List.map_append];rfl,by dsimp only;rw[Qf];rfl,rfl,rfl,rfl,rfl,rfl,trivial⟩,by dsimp only;omega⟩
    ·refine⟨rfl,rfl,rfl,?_,?_⟩
     ·refine .inl ?_;refine⟨by simp[q2,q3],by omega,by unfold maxLen;omega,rfl,rfl,rfl,rfl,?_⟩;refine .inl ?_;refine⟨by simp[q2,q3],by omega,by unfold maxLen;omega,rfl,?_⟩;refine .inl ?_;refine⟨by simp[q2,q3],by omega,by unfold maxLen;omega,((k+1:Nat):Int),wo,?_⟩;intro ρ3 w3 r3;exact⟨(k+1,w3),⟨OY,hw.tr r3.cS,hE.rel r3 hS⟩,Sub.gn [(7,12),(8,14),(9,15)] r3 ⟨by dsimp only;rw[Pu,List.length_append,List.length_singleton];rfl,by dsimp only;rw[Pu,List.map_append];rfl,by dsimp only;rw[Pu,List.map_append];rfl,by dsimp only;rw[Qf];rfl,rfl,rfl,rfl,rfl,rfl,trivial⟩,by dsimp only;omega⟩
     ·refine⟨rfl,rfl,rfl,?_⟩;refine .inl ?_;refine⟨by simp[q2,q3],by omega,by unfold maxLen;omega,rfl,rfl,?_⟩;refine .inl ?_;refine⟨by simp[q2,q3],by omega,by unfold maxLen;omega,rfl,?_⟩;refine .inl ?_;refine⟨by simp[q2,q3],by omega,by unfold maxLen;omega,((k+1:Nat):Int),wo,?_⟩;intro ρ3 w3 r3;exact⟨(k+1,w3),⟨OY,hw.tr r3.cS,hE.rel r3 hS⟩,Sub.gn [(7,13),(8,14),(9,15)] r3 ⟨by dsimp only;rw[Pu,List.length_append,List.length_singleton];rfl,by dsimp only;rw[Pu,List.map_append];rfl,by dsimp only;rw[Pu,List.map_append];rfl,by dsimp only;rw[Qf];rfl,rfl,rfl,rfl,rfl,rfl,trivial⟩,by dsimp only;omega⟩
   ·refine⟨.int .i64 (fj:Int),by simp[UE],rfl,rfl,rfl,rfl,.slice aj n cj,by simpa using Tm,rfl,rfl,rfl,?_,?_⟩
    ·refine⟨.int .i64 (fj:Int),by simp[UE],rfl,rfl,rfl,rfl,rfl,?_,?_⟩
     ·refine .inl ?_;refine⟨by simp[q2,q3],by omega,by unfold maxLen;omega,.int .i64 (fj:Int),by simp[UE],rfl,rfl,rfl,rfl,?_,?_⟩
      ·refine .inl ?_;refine⟨by simp[q2,q3],by omega,by unfold maxLen;omega,.int .i64 (fj:Int),by simp[UE],rfl,rfl,rfl,rfl,?_⟩;refine .inl ?_;refine⟨by simp[q2,q3],by omega,by unfold maxLen;omega,((k+1:Nat):Int),wo,?_⟩;intro ρ3 w3 r3;exact⟨(k+1,w3),⟨OY,hw.tr r3.cS,hE.rel r3 hS⟩,Sub.gn [(7,12),(8,13),(9,15)] r3 ⟨by dsimp only;rw[Pu,List.length_append,List.length_singleton];rfl,by dsimp only;rw[Pu,List.map_append];rfl,by dsimp only;rw[Pu,List.map_append];rfl,by dsimp only;rw[Qf];rfl,rfl,rfl,rfl,rfl,rfl,trivial⟩,by dsimp only;omega⟩
      ·refine⟨rfl,rfl,?_⟩;refine .inl ?_;refine⟨by simp[q2,q3],by omega,by unfold maxLen;omega,rfl,?_⟩;refine .inl ?_;refine⟨by simp[q2,q3],by omega,by unfold maxLen;omega,((k+1:Nat):Int),wo,?_⟩;intro ρ3 w3 r3;exact⟨(k+1,w3),⟨OY,hw.tr r3.cS,hE.rel r3 hS⟩,Sub.gn [(7,12),(8,14),(9,15)] r3 ⟨by dsimp only;rw[Pu,List.length_append,List.length_singleton];rfl,by dsimp only;rw[Pu,List.map_append];rfl,by dsimp only;rw[Pu,List.map_append];rfl,by dsimp only;rw[Qf];rfl,rfl,rfl,rfl,rfl,rfl,trivial⟩,by dsimp only;omega⟩
     ·refine⟨rfl,rfl,rfl,?_⟩;refine .inl ?_;refine⟨by simp[q2,q3],by omega,by unfold maxLen;omega,rfl,rfl,?_⟩;refine .inl ?_;refine⟨by simp[q2,q3],by omega,by unfold maxLen;omega,rfl,?_⟩;refine .inl ?_;refine⟨by simp[q2,q3],by omega,by unfold maxLen;omega,((k+1:Nat):Int),wo,?_⟩;intro ρ3 w3 r3;exact⟨(k+1,w3),⟨OY,hw.tr r3.cS,hE.rel r3 hS⟩,Sub.gn [(7,13),(8,14),(9,15)] r3 ⟨by dsimp only;rw[Pu,List.length_append,List.length_singleton];rfl,by dsimp only;rw[Pu,List.map_append];rfl,by dsimp only;rw[Pu,List.map_append];rfl,by dsimp only;rw[Qf];rfl,rfl,rfl,rfl,rfl,rfl,trivial⟩,by dsimp only;omega⟩
    ·refine⟨rfl,rfl,.slice aj n cj,by simpa using Tm,rfl,rfl,rfl,rfl,rfl,rfl,?_⟩;refine .inl ?_;refine⟨by simp[q2,q3],by omega,by unfold maxLen;omega,rfl,rfl,?_⟩;refine .inl ?_;refine⟨by simp[q2,q3],by omega,by unfold maxLen;omega,rfl,?_⟩;refine .inl ?_;refine⟨by simp[q2,q3],by omega,by unfold maxLen;omega,((k+1:Nat):Int),wo,?_⟩;intro ρ3 w3 r3;exact⟨(k+1,w3),⟨OY,hw.tr r3.cS,hE.rel r3 hS⟩,Sub.gn [(7,13),(8,14),(9,15)] r3 ⟨by dsimp only;rw[Pu,List.length_append,List.length_singleton];rfl,by dsimp only;rw[Pu,List.map_append];rfl,by dsimp only;rw[Pu,List.map_append];rfl,by dsimp only;rw[Qf];rfl,rfl,rfl,rfl,rfl,rfl,trivial⟩,by dsimp only;omega⟩
   ·refine⟨rfl,rfl,.slice aj n cj,by simpa using Tm,rfl,rfl,rfl,?_,?_⟩
    ·refine⟨rfl,rfl,rfl,?_,?_⟩
     ·refine .inl ?_;refine⟨by simp[q2,q3],by omega,by unfold maxLen;omega,rfl,rfl,rfl,rfl,?_⟩;refine .inl ?_;refine⟨by simp[q2,q3],by omega,by unfold maxLen;omega,rfl,?_⟩;refine .inl ?_;refine⟨by simp[q2,q3],by omega,by unfold maxLen;omega,((k+1:Nat):Int),wo,?_⟩;intro ρ3 w3 r3;exact⟨(k+1,w3),⟨OY,hw.tr r3.cS,hE.rel r3 hS⟩,Sub.gn [(7,12),(8,14),(9,15)] r3 ⟨by dsimp only;rw[Pu,List.length_append,List.length_singleton];rfl,by dsimp only;rw[Pu,List.map_append];rfl,by dsimp only;rw[Pu,List.map_append];rfl,by dsimp only;rw[Qf];rfl,rfl,rfl,rfl,rfl,rfl,trivial⟩,by dsimp only;omega⟩
     ·refine⟨rfl,rfl,rfl,?_⟩;refine .inl ?_;refine⟨by simp[q2,q3],by omega,by unfold maxLen;omega,rfl,rfl,?_⟩;refine .inl ?_;refine⟨by simp[q2,q3],by omega,by unfold maxLen;omega,rfl,?_⟩;refine .inl ?_;refine⟨by simp[q2,q3],by omega,by unfold maxLen;omega,((k+1:Nat):Int),wo,?_⟩;intro ρ3 w3 r3;exact⟨(k+1,w3),⟨OY,hw.tr r3.cS,hE.rel r3 hS⟩,Sub.gn [(7,13),(8,14),(9,15)] r3 ⟨by dsimp only;rw[Pu,List.length_append,List.length_singleton];rfl,by dsimp only;rw[Pu,List.map_append];rfl,by dsimp only;rw[Pu,List.map_append];rfl,by dsimp only;rw[Qf];rfl,rfl,rfl,rfl,rfl,rfl,trivial⟩,by dsimp only;omega⟩
    ·refine⟨rfl,rfl,.slice aj n cj,by simpa using Tm,rfl,rfl,rfl,rfl,rfl,rfl,?_⟩;refine .inl ?_;refine⟨by simp[q2,q3],by omega,by unfold maxLen;omega,rfl,rfl,?_⟩;refine .inl ?_;refine⟨by simp[q2,q3],by omega,by unfold maxLen;omega,rfl,?_⟩;refine .inl ?_;refine⟨by simp[q2,q3],by omega,by unfold maxLen;omega,((k+1:Nat):Int),wo,?_⟩;intro ρ3 w3 r3;exact⟨(k+1,w3),⟨OY,hw.tr r3.cS,hE.rel r3 hS⟩,Sub.gn [(7,13),(8,14),(9,15)] r3 ⟨by dsimp only;rw[Pu,List.length_append,List.length_singleton];rfl,by dsimp only;rw[Pu,List.map_append];rfl,by dsimp only;rw[Pu,List.map_append];rfl,by dsimp only;rw[Qf];rfl,rfl,rfl,rfl,rfl,rfl,trivial⟩,by dsimp only;omega⟩
 have OY:k=cols:=aQ hk (by simpa using OY);subst OY;intro ρe we re;have PB:∀u∈mE rv at_ k,u.oneCell'=true:=fun u hu=>by
  obtain⟨i,hi⟩:=aS hu;obtain⟨x,hx⟩:∃x,(dO (E,at_,fr) k).1[i]? =some x:=⟨_,aB (by have:=(aE.1 hi).1;omega)⟩
  obtain⟨r,h1,h2⟩:=DG Ot PC k (by omega) i u x hi hx;obtain⟨a,c,rfl⟩:=hE.form h1;rfl
 have h7:=re.gz (id:=7) (sz:=1) (m:=(dO (E,at_,fr) k).2.1.length) rfl (by simp[q3]) (by unfold maxLen;omega) (by decide) PB;have h8:=re.gz (id:=8) (sz:=1) (m:=(dO (E,at_,fr) k).2.1.length) rfl (by simp) (by unfold maxLen;omega) (by decide) (fun u hu=>by obtain⟨c,_,rfl⟩:=aT.1 hu;rfl);have h9:=re.gz (id:=9) (sz:=1) (m:=(dO (E,at_,fr) k).2.1.length) rfl (by simp[q2]) (by unfold maxLen;omega) (by decide) (fun u hu=>by obtain⟨c,_,rfl⟩:=aT.1 hu;rfl);have PE:=hE.rel re hS;rw[hredS];refine⟨_,rfl,hw.tr re.cS,_,_,_,rfl,⟨mE rv at_ k,?_,by omega,fun i u x k1 k2=>?_⟩,?_,?_⟩
 ·rw[q1];exact h7.cL fun g hg=>.inr hg
 ·obtain⟨r,h1,h2⟩:=DG Ot PC k (by omega) i u x k1 k2;refine((PE.row r u x h1 h2).read.cL (S':=Nw S w we) (C':=Nw S w we) (fun g hg=>?_) fun g hg=>Cv.nw hg.1 re).c;exact Cv.nw (D3 (PE.new g ⟨u,aD h1,hg⟩)) re
 ·exact h8.cL fun g hg=>.inr hg
 ·show jY we _ 1 _ _ (dO (E,at_,fr) k).2.2.length;rw[q2];exact h9.cL fun g hg=>.inr hg
end Go.Ex
