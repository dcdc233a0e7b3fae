/- Texts XTg to X134: lemmas, each with its conditions. -/
import Derived.Test.YtgkpbdkechfgmaaGreatP11
namespace Go.Ex
open Go Go.Sx Go.Proofs
variable{a:Act}{K next:Act->World->Prop}{la lx:Array Bool}{I:Array Bool->World->Prop}{Q:Exit->Act->World->Prop}{E M:List (List Rat)}{at_:List (Option Nat)}{fr:List Nat}{r row u y:List Rat}{rv:List Value}{b cols i j:Nat}{C S S0:Nat->Prop}{oi:Oper}{X:Sem Next}{v:Value}{w:World}{Y:World->Prop}{s:xg}
section
variable{P:Program}{ops:Array Oper}{Q:Exit->Act->World->Prop}{md:Region.Mode}
theorem Jw{oj:Oper}(hj:ops[j]? =some oj)(RY:oi.apart ops oj=true)
  (hsi:∀cs b,oi.op≠ .select cs b) (hsj:∀cs b,oj.op≠ .select cs b)
  (hQ:∀c a w,Q (.panic c) (a.put oi.dst v) w->Q (.panic c) a w)
  (hy:Region.wanted oi (yielded ops a.tmps)=true∧execOp a.eval oi=X) (h:wpOp P ops Q j K (a.put oi.dst v) w):
  wpOp P ops Q j (fun a' w'=>(Region.wanted oi (yielded ops a'.tmps)=true∧execOp a'.eval oi=X)∧K (a'.put oi.dst v) w') a w:=by
 obtain⟨h1,h2,h3⟩:=Oper.apart_spec RY;have cJ:∀(a:Act),(Region.wanted oi (yielded ops a.tmps)=true∧execOp a.eval oi=X)->∀u,(Region.wanted oi (yielded ops (a.put oj.dst u).tmps)=true∧execOp (a.put oj.dst u).eval oi=X):=fun a hy u=>
  ⟨(wanted_put oi a oj.dst u h3).trans hy.1,(execOp_put oi hsi a oj.dst u h3).trans hy.2⟩
 have keepD:∀d:Deferred,(Region.wanted oi (yielded ops ({a with defers:=d::a.defers}:Act).tmps)=true∧execOp ({a with defers:=d::a.defers}:Act).eval oi=X):=fun d=>hy;unfold wpOp at*
 simp only[hj]at*
 rw[wanted_put oj a oi.dst v h1]at h;split
 ·rename_i hw;simp only[hw,if_true]at h;rcases h with h|⟨Ss,VB⟩
  case inr=>exact .inr ⟨by unfold Oper.asks at *;rw[execOp_put oj hsj a oi.dst v h1]at Ss;exact Ss,VB⟩
  refine .inl ?_;unfold Oper.wp at*
  rw[execOp_put oj hsj a oi.dst v h1]at h;generalize (execOp a.eval oj).run P w=r at*
  cases r with
  |ok n w'=>
   cases n<;>simp only[Oper.upon]at h ⊢
   case value u=>exact⟨cJ a hy u,by rw[<-Act.put_comm a v u h2];exact h⟩
   case skip=>exact⟨cJ a hy _,by rw[<-Act.put_comm a v undef h2];exact h⟩
   case defer d=>
    refine⟨cJ ({a with defers:=d::a.defers}:Act) (keepD d) undef,?_⟩;rw[<-Act.put_comm _ v undef h2,<-Act.put_defers];exact h
   case enter f args=>
    refine Calls.mono h fun e w'' he=>?_
    cases e with
    |returned u=>exact⟨cJ a hy u,by rw[<-Act.put_comm a v u h2];exact he⟩
    |panicked c=>exact hQ _ _ _ he
    |outgrown=>exact he
   case row row args=>exact Rows.mono h fun u w'' he=>⟨cJ a hy u,by rw[<-Act.put_comm a v u h2];exact he⟩
  |halt x w'=>
   cases x<;>simp only[Oper.upon]at h ⊢
   case panic u=>exact hQ _ _ _ h
 ·rename_i hw;simp only[hw]at h;exact⟨cJ a hy _,by rw[<-Act.put_comm a v undef h2];exact h⟩
def qw(P:Program)(md:Region.Mode)(ops:Array Oper)(Q:Exit->Act->World->Prop)(I:Array Bool->World->Prop):Nat->Array Bool->Act->World->Prop
 |0,lx,a,w=>I lx w∧Region.ready md ops lx=[]∧Q .normal a w
 |fuel+1,lx,a,w=>I lx w∧(Region.ready md ops lx=[]->Q .normal a w)∧∀i∈Region.ready md ops lx,wpOp P ops Q i (fun a' w'=>qw P md ops Q I fuel (lx.setIfInBounds i true) a' w') a w
theorem BR{I:Array Bool->World->Prop}:∀(fuel:Nat) (lx:Array Bool) (a:Act) (w:World),qw P md ops Q I fuel lx a w->wpAny P md ops Q fuel lx a w
 |0,_,_,_,h=>h.2
 |fuel+1,_,_,_,h=>⟨h.2.1,fun i hi=>wpOp_mono (fun _ _ h'=>BR fuel _ _ _ h') (h.2.2 i hi)⟩
theorem kg{I J:Array Bool->World->Prop}(hIJ:∀lx w,I lx w->J lx w):∀(fuel:Nat) (lx:Array Bool) (a:Act) (w:World),qw P md ops Q I fuel lx a w->qw P md ops Q J fuel lx a w
 |0,_,_,_,h=>⟨hIJ _ _ h.1,h.2⟩
 |fuel+1,_,_,_,h=>⟨hIJ _ _ h.1,h.2.1,fun i hi=>wpOp_mono (fun _ _ h'=>kg hIJ fuel _ _ _ h') (h.2.2 i hi)⟩
theorem GO(hI:I lx w)(hr:Region.ready md ops lx=[])(h:Q .normal a w):∀fuel,qw P md ops Q I fuel lx a w
 |0=>⟨hI,hr,h⟩
 |_+1=>⟨hI,fun _=>h,by rw[hr];simp⟩
def nD(ops:Array Oper)(b:Nat)(lx:Array Bool):Prop:=∀(k:Nat) o,tb b k=true->ops[k]? =some o->vG o.op=false->lx.getD k false=false
theorem jd(hi:ops[i]? =some oi)(hR:vG oi.op=true):nD ops b (lx.setIfInBounds i true)↔nD ops b lx:=by
 have key:∀(k:Nat) o,ops[k]? =some o->vG o.op=false->(lx.setIfInBounds i true).getD k false=lx.getD k false:=fun k o ho hr=>by
  have:i≠k:=fun e=>by subst e;rw[hi]at ho;injection ho with ho;subst ho;rw[hR]at hr;cases hr
  exact getD_set_ne false this
 exact⟨fun h k o h1 h2 h3=>by rw[<-key k o h2 h3];exact h k o h1 h2 h3,fun h k o h1 h2 h3=>by rw[key k o h2 h3];exact h k o h1 h2 h3⟩
theorem vD(hi:ops[i]? =some oi)(hR:vG oi.op=true)(PU:∀(j:Nat) (o:Oper) cs b,ops[j]? =some o->o.op≠ .select cs b)
  (hQ:∀c a w,Q (.panic c) (a.put oi.dst v) w->Q (.panic c) a w) (QD:∀j,tb b j=true->∃oj e,ops[j]? =some oj∧e∈oj.after∧Region.binds md e=true∧(e.on=i∨tb b e.on=true))
  (hY:∀w,Y w->X.run P w= .ok (.value v) w) (hI:∀lx w,I (lx.setIfInBounds i true) w->I lx w):
  ∀(fuel:Nat) (lx:Array Bool) (a:Act) (w:World),(∀j,tb b j=true->lx.getD j false=false)->
   (∀j oj,ops[j]? =some oj->j≠i->lx.getD j true=false->tb b j=false->oi.apart ops oj=true)->
   i∈Region.ready md ops lx->(Region.wanted oi (yielded ops a.tmps)=true∧execOp a.eval oi=X)->
   qw P md ops Q (fun lx w=>I lx w∧(nD ops b lx->Y w)) fuel (lx.setIfInBounds i true) (a.put oi.dst v) w->qw P md ops Q I (fuel+1) lx a w:=by
 intro fuel;have run:∀(lx:Array Bool) (a:Act) (w:World),(∀j,tb b j=true->lx.getD j false=false)->(Region.wanted oi (yielded ops a.tmps)=true∧execOp a.eval oi=X)->(I (lx.setIfInBounds i true) w∧(nD ops b (lx.setIfInBounds i true)->Y w))->
   ∀K:Act->World->Prop,K (a.put oi.dst v) w->wpOp P ops Q i K a w:=fun lx a w PQ hy hH K hK=>by
  have hYw:=hH.2 ((jd hi hR).2 fun k o h1 _ _=>PQ k h1);unfold wpOp;simp only[hi,hy.1,if_true]
  refine .inl ?_;unfold Oper.wp;rw[hy.2,hY w hYw];exact hK
 induction fuel with
 |zero=>
  intro lx a w PQ _ hr hy H;refine⟨hI _ _ H.1.1,fun h=>(by rw[h]at hr;cases hr),fun j hj=>?_⟩;by_cases PZ:j=i
  ·subst PZ;exact run lx a w PQ hy H.1 _ (kg (fun _ _ h=>h.1) 0 _ _ _ H)
  ·have:=ready_mono hj PZ;rw[H.2.1]at this
   cases this
 |succ fuel ih=>
  intro lx a w PQ Q2 hr hy H;refine⟨hI _ _ H.1.1,fun h=>(by rw[h]at hr;cases hr),fun j hj=>?_⟩;by_cases PZ:j=i
  ·subst PZ;exact run lx a w PQ hy H.1 _ (kg (fun _ _ h=>h.1) (fuel+1) _ _ _ H)
  ·have h1:=H.2.2 j (ready_mono hj PZ);obtain⟨VC,oj,RU,QX⟩:=mem_ready.1 hj;have PR:tb b j=false:=by
    cases hb:tb b j with
    |false=>rfl
    |true=>
     exfalso;obtain⟨oj',e,SY,he,hbi,Uk⟩:=QD j hb;rw[RU]at SY;injection SY with SY;subst SY;have h1:=QX e he hbi;rcases Uk with heq|QW
     ·have h0:=(mem_ready.1 hr).1;rw[heq]at h1;rcases aS i lx.size with h'|h'
      ·simp[h']at h0 h1;rw[h0]at h1;cases h1
      ·simp[Array.getElem?_eq_none h']at h1
     ·rw[PQ _ QW]at h1;cases h1
   have h2:=Jw RU (Q2 j oj RU PZ VC PR) (fun cs b=>PU i oi cs b hi) (fun cs b=>PU j oj cs b RU) hQ hy h1;have hbl':∀k,tb b k=true->(lx.setIfInBounds j true).getD k false=false:=fun k hk=>by
    rw[getD_set_ne false (fun e=>(by subst e;rw[PR]at hk;cases hk))];exact PQ k hk
   have TU:∀k ok,ops[k]? =some ok->k≠i->(lx.setIfInBounds j true).getD k true=false->tb b k=false->oi.apart ops ok=true:=fun k ok hk Vx SC SD=>by
    refine Q2 k ok hk Vx ?_ SD;by_cases S2:j=k
    ·subst S2;exact VC
    ·rw[getD_set_ne true S2]at SC;exact SC
   refine wpOp_mono (fun a' w' h3=>?_) h2;refine ih (lx.setIfInBounds j true) a' w' hbl' TU (ready_mono hr (Ne.symm PZ)) h3.1 ?_;rw[Array.setIfInBounds_comm _ _ PZ];exact h3.2
end
structure Gh where
 u:Nat
 d:Nat
 T:Nat
 b:Nat
def EN(τ:nF)(B:Nat):List Gh->Env->Hp->Nat->Iv->World->Prop->Prop
 |[],_,_,_,_,_,K=>K
 |g::r,l,H,nx,iv,w,K=>match fu l g.u with
  |some su=>By τ B g.T su H nx iv w (fun v=>fu l g.d=some v∧EN τ B r l H nx iv w K)
  |none=>False
inductive Tg where
 |nil
 |x (i:Nat) (t:Tg)
 |two (i:Nat) (t:Tg) (j:Nat) (u:Tg)
 |three (i:Nat) (t:Tg) (j:Nat) (u:Tg) (k:Nat) (v:Tg)
 |ld (i b:Nat) (t:Tg)
 |wI (id:Nat) (t:Tg)
def Cz(j:Nat):List Gh->List Gh
 |[]=>[]
 |g::r=>match tb g.b j with
  |true=>Cz j r
  |false=>g::Cz j r
def stepG(τ:nF)(B:Nat)(rd:Bool)(G:List Gh)(j:Nat)(l:Env)(H:Hp)(nx:Nat)(iv:Iv)(w:World)(K:List Gh->Prop):Prop:=match rd with
 |true=>K G
 |false=>EN τ B (Cz j G) l H nx iv w (K (Cz j G))
def GP(ops:Array Oper)(m i:Nat)(oi:Oper)(b:Nat):List Oper->Nat->Bool
 |[],_=>true
 |oj::r,j=>(Nat.beq j i||tb m j||tb b j||oi.apart ops oj)&&GP ops m i oi b r (j+1)
def Ia(m i u d:Nat):List Oper->Nat->Bool
 |[],_=>true
 |oj::r,j=>(tb m j||match oj.dst with
   |none=>true
   |some e=> !Nat.beq e u&&(Nat.beq j i|| !Nat.beq e d))&&Ia m i u d r (j+1)
def M6(o:Oper):Option (Nat×Nat×Nat):=match o with
 |⟨some d,.load T (.tmp u),_,_,_,none⟩=>some (d,T,u)
 |_=>none
def mE(ops:Array Oper):Tg->Array Bool->Bool
 | .nil,lx=>(Region.ready .any ops lx).isEmpty
 | .x i t,lx=>match ops[i]? with
  |none=>false
  |some o=>(Region.ready .any ops lx).contains i&&((Region.ready .any ops lx).all (fun j=>Nat.beq j i)||Ie o.op&&o.guard.isNone&&GP ops (jB lx.toList 0) i o (BT (jB lx.toList 0) i ops.toList 0 0) ops.toList 0)&&mE ops t (lx.setIfInBounds i true)
 | .two i t j u,lx=>match Region.ready .any ops lx with
  |[a,b]=>Nat.beq a i&&(Nat.beq b j&&(mE ops t (lx.setIfInBounds i true)&&mE ops u (lx.setIfInBounds j true)))
  |_=>false
 | .three i t j u k v,lx=>match Region.ready .any ops lx with
  |[a,b,c]=>Nat.beq a i&&(Nat.beq b j&&(Nat.beq c k&&(mE ops t (lx.setIfInBounds i true)&&(mE ops u (lx.setIfInBounds j true)&&mE ops v (lx.setIfInBounds k true)))))
  |_=>false
 | .ld i b t,lx=>match ops[i]? with
  |none=>false
  |some o=>match M6 o with
   |none=>false
   |some (d,_,u)=>(Region.ready .any ops lx).contains i&&Nat.beq b (BT (jB lx.toList 0) i ops.toList 0 0)&&GP ops (jB lx.toList 0) i o b ops.toList 0&&Ia (jB lx.toList 0) i u d ops.toList 0&&mE ops t (lx.setIfInBounds i true)
 | .wI _ t,lx=>mE ops t lx
def Bq(P:Program)(τ:nF)(B:Nat)(all:List Oper):Tg->List Gh->Env->Hp->Nat->Iv->World->KT->Prop
 | .nil,_,l,H,nx,iv,w,K=>K l H nx iv w
 | .x i t,G,l,H,nx,iv,w,K=>sM all i (fun o=>iW (!gL o) P τ B all o l H nx iv w (fun l' H' Oe iv' w'=>stepG τ B (vG o.op) G i l' H' Oe iv' w' (fun G'=>Bq P τ B all t G' l' H' Oe iv' w' K)))
 | .two i t j u,G,l,H,nx,iv,w,K=>sM all i (fun o=>iW (!gL o) P τ B all o l H nx iv w (fun l' H' Oe iv' w'=>stepG τ B (vG o.op) G i l' H' Oe iv' w' (fun G'=>Bq P τ B all t G' l' H' Oe iv' w' K)))∧
   sM all j (fun o=>iW (!gL o) P τ B all o l H nx iv w (fun l' H' Oe iv' w'=>stepG τ B (vG o.op) G j l' H' Oe iv' w' (fun G'=>Bq P τ B all u G' l' H' Oe iv' w' K)))
 | .three i t j u k v,G,l,H,nx,iv,w,K=>sM all i (fun o=>iW (!gL o) P τ B all o l H nx iv w (fun l' H' Oe iv' w'=>stepG τ B (vG o.op) G i l' H' Oe iv' w' (fun G'=>Bq P τ B all t G' l' H' Oe iv' w' K)))∧
   (sM all j (fun o=>iW (!gL o) P τ B all o l H nx iv w (fun l' H' Oe iv' w'=>stepG τ B (vG o.op) G j l' H' Oe iv' w' (fun G'=>Bq P τ B all u G' l' H' Oe iv' w' K)))∧
   sM all k (fun o=>iW (!gL o) P τ B all o l H nx iv w (fun l' H' Oe iv' w'=>stepG τ B (vG o.op) G k l' H' Oe iv' w' (fun G'=>Bq P τ B all v G' l' H' Oe iv' w' K))))
 | .ld i b t,G,l,H,nx,iv,w,K=>sM all i (fun o=>match M6 o with
  |some (d,T,u)=>match fu l u with
   |some su=>By τ B T su H nx iv w (fun v=>Bq P τ B all t (⟨u,d,T,b⟩::G) ((d,v)::l) H nx iv w K)
   |none=>False
  |none=>False)
 | .wI id t,G,l,H,nx,iv,w,K=>∃H' b,dD H id=some b∧b≠ .dead∧vJ H H'∧DD id H'=true∧∀O w',Rel H nx iv B w O w'->(O id).nil=false∧∃l',(∀u v,fu l' u=some v->v.sc nx∧∃v',fu l u=some v'∧v'.den O=v.den O)∧Bq P τ B all t G l' H' nx (((O id).g,(O id).g+1)::iv) w' K
section
variable{P:Program}{τ:nF}{ops:Array Oper}{B n nx:Nat}{l:Env}{H:Hp}{iv:Iv}{w w':World}{O:Nat->Sx.dw}{a:Act}
theorem aAj(hτ:fk P τ){o:Oper}(ho:ops[i]? =some o)(hd:∀d,o.dst=some d->d<n){K:KT}
  (h1:iW (!gL o) P τ B ops.toList o l H nx iv w K) (sat:Sat n l H nx iv B w O a w')
  (hn:∀l' H' Oe iv' w2 ρ' x w3,K l' H' Oe iv' w2->Sat n l' H' Oe iv' B w2 ρ' (a.put o.dst x) w3->(vG o.op=true->w3=w')->next (a.put o.dst x) w3):
  wpOp P ops Q i next a w':=by
 unfold iW at h1;refine p9 ho ?_;rcases ky sat h1 with⟨hw,l1,h2,sat1⟩|⟨hw,l1,h2,sat1⟩
 ·refine .inl ⟨hw,?_⟩
  cases hR:vG o.op with
  |true=>
   obtain⟨v,hK,RV,Oj⟩:=(mI hτ h2 sat1 hR).resolve_right (fun hh=>by have:=hh.1;rw[sP hR]at this;cases this);obtain⟨l2,h3,sat2⟩:=iu sat1 hK hd RV;exact ml (Oj w' (.inr sat1.rel)) (hn _ _ _ _ _ _ _ _ h3 sat2 fun _=>rfl)
  |false=>
   have nr:∀w3:World,vG o.op=true->w3=w':=fun w3 h=>by rw[hR]at h;cases h
   cases hA:M7 o.op with
   |true=>
    obtain⟨b,v,mk,obj,hK,Ow,hb,hv,WI,QR,WJ⟩:=oC hτ h2 sat1 hA;have PX:Rel ((nx,b)::H) (nx+1) iv B w (Sx.gS O nx ⟨w'.heap.size,0,false⟩) (w'.alloc obj):=
     sat1.rel.push b _ rfl rfl rfl (by simp) (fun k hk=>heap_alloc_old _ _ hk) (fun _=>⟨Nat.le_refl _,by simp⟩) (QR _ _ (heap_alloc_new _ _)) hb
    obtain⟨l2,h3,sat2⟩:=iu (sat1.next PX (Nat.le_succ _) (fun id PV=>gM id PV)) hK hd hv;rw[WI]at sat2;exact ml (v:=mk w'.heap.size) (w2:=w'.alloc obj) (WJ w') (hn _ _ _ _ _ _ _ _ h3 sat2 (by rw[hR];exact fun h=>by cases h))
   |false=>
    cases hH:rV o with
    |false=>
     rw[rf hH]at h2;refine ym h2 sat1 hR hA hH fun v w2 hK he hs=>?_;obtain⟨l2,h3,sat2⟩:=iu (v:=.o (.v v)) hs hK hd trivial;exact hn _ _ _ _ _ _ _ _ h3 sat2 (by rw[hR];exact fun h=>by cases h)
    |true=>
     refine oD hτ h2 sat1 fun v H' Oe iv' w2 ρ' w3 hK sat2 hv=>?_;obtain⟨l2,h3,sat3⟩:=iu sat2 hK hd hv;exact hn _ _ _ _ _ _ _ _ h3 sat3 (by rw[hR];exact fun h=>by cases h)
 ·obtain⟨l2,h4,sat3⟩:=iu sat1 h2 hd trivial;exact .inr ⟨hw,hn _ _ _ _ _ _ _ _ h4 sat3 fun _=>rfl⟩
theorem xb(hτ:fk P τ)(sat:Sat n l H nx iv B w O a w'){K:Prop}:∀(G:List Gh),EN τ B G l H nx iv w K->
  K∧∀g∈G,∃su sv,fu l g.u=some su∧fu l g.d=some sv∧(Instr.loadAt g.T (su.den O)).run P w'= .ok (sv.den O) w'
 |[],h=>⟨h,fun g hg=>by cases hg⟩
 |g::r,h=>by
  unfold EN at h;split at h
  ·rename_i su hsu;obtain⟨v,⟨h1,h2⟩,hv,Oj⟩:=oJ hτ sat.rel (sat.sc _ _ hsu) h;obtain⟨h3,h4⟩:=xb hτ sat r h2;refine⟨h3,fun g' hg=>?_⟩;rcases List.mem_cons.1 hg with rfl|hg
   ·exact⟨su,v,hsu,h1,Oj w' sat.rel⟩
   ·exact h4 g' hg
  ·exact h.elim
theorem rU{j:Nat}{g:Gh}:∀{G:List Gh},g∈G->tb g.b j=false->g∈Cz j G
 |g'::r,h,hb=>by
  unfold Cz;rcases List.mem_cons.1 h with rfl|h
  ·rw[hb];exact aG
  ·split
   ·exact rU h hb
   ·exact aC _ (rU h hb)
abbrev Zh:=Gh×Value×Value
def Yz(P:Program)(z:Zh)(w:World):Prop:=(Instr.loadAt z.1.T z.2.1).run P w= .ok z.2.2 w
structure GOk(ops:Array Oper)(la:Array Bool)(a:Act)(z:Zh):Prop where
 u:a.tmps[z.1.u]? =some z.2.1
 d:a.tmps[z.1.d]? =some z.2.2
 no:∀(j:Nat) oj,ops[j]? =some oj->la.getD j false=false->oj.dst≠some z.1.u∧oj.dst≠some z.1.d
theorem GOk.step{z:Zh}{oj:Oper}{x:Value}(h:GOk ops la a z)(hj:ops[j]? =some oj)(hl:la.getD j false=false):GOk ops (la.setIfInBounds j true) (a.put oj.dst x) z:=by
 obtain⟨h1,h2⟩:=h.no j oj hj hl;refine⟨rA h1 h.u,rA h2 h.d,fun k ok hk hlk=>h.no k ok hk ?_⟩;by_cases S2:j=k
 ·subst S2;exact hl
 ·rwa [getD_set_ne false S2]at hlk
def IZ(P:Program)(ops:Array Oper)(Z:List Zh)(lx:Array Bool)(w:World):Prop:=∀z∈Z,nD ops z.1.b lx->Yz P z w
theorem vE(h:i∈Region.ready .any ops la):la.getD i false=false:=by
 have:=(ek.1 h).1;rw[bB,this];rfl
theorem pB{o:Oper}(ho:ops[i]? =some o)(hl:la[i]? =some false)(h:nD ops b (la.setIfInBounds i true)):nD ops b la∧(vG o.op=false->tb b i=false):=by
 refine⟨fun k ok h1 h2 h3=>?_,fun hR=>?_⟩
 ·by_cases hik:i=k
  ·subst hik;rw[bB,hl];rfl
  ·rw[<-getD_set_ne false hik];exact h k ok h1 h2 h3
 ·cases hb:tb b i with
  |false=>rfl
  |true=>
   have:=h i o hb ho hR;have hi:=(bA.1 hl).1;rw[bB,Array.getElem?_setIfInBounds_self_of_lt hi]at this
   cases this
theorem DA(hτ:fk P τ){o:Oper}{G:List Gh}{Z:List Zh}(ho:ops[i]? =some o)(hd:∀d,o.dst=some d->d<n)(hr:i∈Region.ready .any ops la){K:Env->Hp->Nat->Iv->World->List Gh->Prop}
  (h1:iW (!gL o) P τ B ops.toList o l H nx iv w (fun l' H' Oe iv' w'=>stepG τ B (vG o.op) G i l' H' Oe iv' w' (K l' H' Oe iv' w'))) (sat:Sat n l H nx iv B w O a w')
  (hG:∀z∈Z,nD ops z.1.b la->z.1∈G) (hZ:∀z∈Z,GOk ops la a z) (hI:IZ P ops Z la w')
  (hn:∀l' H' Oe iv' w2 ρ' x w3 G',K l' H' Oe iv' w2 G'->Sat n l' H' Oe iv' B w2 ρ' (a.put o.dst x) w3->(∀z∈Z,nD ops z.1.b (la.setIfInBounds i true)->z.1∈G')->(∀z∈Z,GOk ops (la.setIfInBounds i true) (a.put o.dst x) z)->IZ P ops Z (la.setIfInBounds i true) w3->next (a.put o.dst x) w3):
  wpOp P ops Q i next a w':=by
 have hl:=(ek.1 hr).1;refine aAj hτ ho hd h1 sat fun l' H' Oe iv' w2 ρ' x w3 hK sat2 hw=>?_;have hZ2:∀z∈Z,GOk ops (la.setIfInBounds i true) (a.put o.dst x) z:=fun z hz=>(hZ z hz).step ho (vE hr)
 cases hR:vG o.op with
 |true=>
  rw[hR]at hK;have hw:=hw hR;subst hw;refine hn _ _ _ _ _ _ _ _ G hK sat2 (fun z hz h=>hG z hz (pB ho hl h).1) hZ2 fun z hz h=>hI z hz (pB ho hl h).1
 |false=>
  rw[hR]at hK;obtain⟨h2,h3⟩:=xb hτ sat2 _ hK;refine hn _ _ _ _ _ _ _ _ _ h2 sat2 (fun z hz h=>?_) hZ2 fun z hz h=>?_
  ·obtain⟨k1,k2⟩:=pB ho hl h;exact rU (hG z hz k1) (k2 hR)
  ·obtain⟨k1,k2⟩:=pB ho hl h;obtain⟨su,sv,e1,e2,e3⟩:=h3 z.1 (rU (hG z hz k1) (k2 hR));have h4:=sat2.env _ _ e1;have h5:=sat2.env _ _ e2;rw[(hZ2 z hz).u]at h4;rw[(hZ2 z hz).d]at h5;injection h4 with h4;injection h5 with h5;unfold Yz;rw[h4,h5];exact e3
end
section
variable{P:Program}{τ:nF}{ops:Array Oper}{B n nx:Nat}{l:Env}{H:Hp}{iv:Iv}{w w':World}{O:Nat->Sx.dw}{a:Act}
theorem tK{m i b:Nat}{oi:Oper}:∀(l:List Oper) (k:Nat),GP ops m i oi b l k=true->∀(j:Nat) oj,l[j]? =some oj->k+j≠i->tb m (k+j)=false->tb b (k+j)=false->oi.apart ops oj=true
 |[],_,_,j,oj,h,_,_,_=>by cases h
 |o::r,k,h,j,oj,hj,h1,h2,h3=>by
  simp only[GP,bC,Bool.or_eq_true]at h
  cases j with
  |zero=>
   injection hj with hj;subst hj;rcases h.1 with((h4|h4)|h4)|h4
   ·exact absurd (bU h4) h1
   ·rw[cD]at h2;rw[h2]at h4;cases h4
   ·rw[cD]at h3;rw[h3]at h4;cases h4
   ·exact h4
  |succ j=>
   have e:k+(j+1)=k+1+j:=by omega
   rw[e]at h1 h2 h3;exact tK r (k+1) h.2 j oj (by simpa using hj) h1 h2 h3
theorem BS{m i u d:Nat}:∀(l:List Oper) (k:Nat),Ia m i u d l k=true->∀(j:Nat) oj,l[j]? =some oj->tb m (k+j)=false->oj.dst≠some u∧(k+j≠i->oj.dst≠some d)
 |[],_,_,j,oj,h,_=>by cases h
 |o::r,k,h,j,oj,hj,h2=>by
  simp only[Ia,bC,Bool.or_eq_true]at h
  cases j with
  |zero=>
   injection hj with hj;subst hj;rcases h.1 with h4|h4
   ·rw[cD]at h2;rw[h2]at h4;cases h4
   ·cases ho:o.dst with
    |none=>exact⟨by simp,by simp⟩
    |some e=>
     rw[ho]at h4;simp only[bC,Bool.not_eq_true',Bool.or_eq_true]at h4;refine⟨fun hh=>?_,fun OY hh=>?_⟩
     ·injection hh with hh;subst hh;have:=h4.1;simp at this
     ·injection hh with hh;subst hh;rcases h4.2 with h5|h5
      ·exact OY (bU h5)
      ·simp at h5
  |succ j=>
   have e:k+(j+1)=k+1+j:=by omega
   rw[e]at h2 ⊢;exact BS r (k+1) h.2 j oj (by simpa using hj) h2
theorem Jx{o:Oper}{d T u:Nat}(h:M6 o=some (d,T,u)):o.dst=some d∧o.op= .load T (.tmp u)∧o.guard=none:=by
 unfold M6 at h;split at h
 ·injection h with h;injection h with h1 h2;injection h2 with h2 h3;subst h1 h2 h3;exact⟨rfl,rfl,rfl⟩
 ·cases h
theorem j8(hτ:fk P τ)(OZ:∀(j:Nat) o,ops[j]? =some o->∀d,o.dst=some d->d<n)(PU:∀(j:Nat) (o:Oper) cs b,ops[j]? =some o->o.op≠ .select cs b){K:KT}{Q0:Act->World->Prop}
  (hQ:∀l' H' Oe iv' w2 ρ' a' w3,K l' H' Oe iv' w2->Sat n l' H' Oe iv' B w2 ρ' a' w3->Q0 a' w3):
  ∀(t:Tg) (fuel:Nat) (la:Array Bool) (l:Env) (H:Hp) (nx:Nat) (iv:Iv) (w:World) (O:Nat->Sx.dw) (a:Act) (w':World) (G:List Gh) (Z:List Zh),OL la<=fuel->la.size=ops.size->mE ops t la=true->Bq P τ B ops.toList t G l H nx iv w K->Sat n l H nx iv B w O a w'->
   (∀z∈Z,nD ops z.1.b la->z.1∈G)->(∀z∈Z,GOk ops la a z)->IZ P ops Z la w'->qw P .any ops (QN Q0) (IZ P ops Z) fuel la a w'
 | .nil,fuel,la,l,H,nx,iv,w,O,a,w',G,Z,_,_,hc,h,s,hG,hZ,hI=>by
  simp only[mE,List.isEmpty_iff]at hc;exact GO hI hc ⟨rfl,hQ _ _ _ _ _ _ _ _ h s⟩ fuel
 | .x i t,fuel,la,l,H,nx,iv,w,O,a,w',G,Z,hf,hz,hc,h,s,hG,hZ,hI=>by
  unfold mE at hc;obtain⟨o,ho,h1⟩:=iH h;rw[bG]at ho;simp only[ho,bC,Bool.or_eq_true]at hc;obtain⟨⟨c1,c2⟩,c3⟩:=hc;have c1:i∈Region.ready .any ops la:=by simpa using c1
  obtain⟨QM,-⟩:=ek.1 c1;have SC:=kx QM;obtain⟨f,rfl⟩:∃f,fuel=f+1:=⟨fuel-1,by omega⟩
  have Ps:(la.setIfInBounds i true).size=ops.size:=by rw[bZ,hz]
  rcases c2 with c2|⟨⟨hP,R4⟩,c4⟩
  ·refine⟨hI,fun h0=>(by rw[h0]at c1;cases c1),fun j hj=>?_⟩;have PZ:j=i:=eW (List.all_eq_true.1 c2 j hj);subst PZ;exact DA hτ ho (OZ j o ho) c1 h1 s hG hZ hI fun _ _ _ _ _ _ _ _ G' hk hs Vr Vs Vt=>j8 hτ OZ PU hQ t f _ _ _ _ _ _ _ _ _ G' Z (by omega) Ps c3 hk hs Vr Vs Vt
  ·have hR:vG o.op=true:=by
    unfold Ie at hP;split at hP
    ·cases hP
    ·exact hP
   have hm:=yL la;have hb:=nI (ops:=ops) (m:=jB la.toList 0) (i:=i) ops.toList 0 0 (fun n o hn=>by rw[aW];rwa [bG]at hn) (fun j hj=>by rw[tN]at hj;cases hj);generalize BT (jB la.toList 0) i ops.toList 0 0=b at*
   have TO:o.guard=none:=by simpa using R4
   unfold iW tO at h1;rw[TO]at h1;obtain⟨v,hK,RV,Oj⟩:=(mI hτ h1 s hR).resolve_right (fun hh=>by have:=hh.1;rw[sP hR]at this;cases this);obtain⟨l2,h3,sat2⟩:=iu s hK (OZ i o ho) RV;rw[hR]at h3;have hw:Region.wanted o (yielded ops a.tmps)=true:=by simp[Region.wanted,TO]
   refine vD (v:=v.den O) (b:=b) (Y:=fun _=>True) (X:=execOp a.eval o) ho hR PU (fun c a w hq=>absurd hq.1 (by simp)) (fun j hj=>(hb j hj).2.2) (fun w3 _=>Oj w3 (.inl hP)) (fun lx w h z hz ha=>h z hz ((jd ho hR).2 ha))
    f la a w' (fun j hj=>(hm j).symm.trans (hb j hj).1) (fun j oj RU PZ hl hk=>tK ops.toList 0 c4 j oj (by rw[bG];exact RU) (by omega) (by
     have hj:=(bA.1 RU).1
     rw[aW,hm,nG (by omega) false true];exact hl) (by rw[aW];exact hk)) c1 ⟨hw,rfl⟩ ?_
   refine kg (fun lx w h=>⟨h,fun _=>trivial⟩) _ _ _ _ ?_;exact j8 hτ OZ PU hQ t f _ _ _ _ _ _ _ _ _ G Z (by omega) Ps c3 h3 sat2 (fun z hz h=>hG z hz ((jd ho hR).1 h)) (fun z hz=>(hZ z hz).step ho (vE c1)) (fun z hz h=>hI z hz ((jd ho hR).1 h))
 | .two i t k u,fuel,la,l,H,nx,iv,w,O,a,w',G,Z,hf,hz,hc,h,s,hG,hZ,hI=>by
  simp only[mE]at hc;split at hc
  ·rename_i x y hr;simp only[bC]at hc;obtain⟨c1,c2,c3,c4⟩:=hc;have hx:=bU c1;have hy:=bU c2;subst hx;subst hy;obtain⟨h1,h2⟩:=h;obtain⟨o1,WG,h1⟩:=iH h1;obtain⟨o2,UM,h2⟩:=iH h2;rw[bG]at WG UM;have Qx:x∈Region.ready .any ops la:=by rw[hr];simp
   have Wm:y∈Region.ready .any ops la:=by rw[hr];simp
   have u1:=kx (ek.1 Qx).1;have u2:=kx (ek.1 Wm).1;obtain⟨f,rfl⟩:∃f,fuel=f+1:=⟨fuel-1,by omega⟩
   refine⟨hI,fun h0=>(by rw[hr]at h0;cases h0),fun j hj=>?_⟩;rw[hr,List.mem_cons,bL]at hj;rcases hj with rfl|rfl
   ·exact DA hτ WG (OZ _ o1 WG) Qx h1 s hG hZ hI fun _ _ _ _ _ _ _ _ G' hk hs Vr Vs Vt=>j8 hτ OZ PU hQ t f _ _ _ _ _ _ _ _ _ G' Z (by omega) (by rw[bZ,hz]) c3 hk hs Vr Vs Vt
   ·exact DA hτ UM (OZ _ o2 UM) Wm h2 s hG hZ hI fun _ _ _ _ _ _ _ _ G' hk hs Vr Vs Vt=>j8 hτ OZ PU hQ u f _ _ _ _ _ _ _ _ _ G' Z (by omega) (by rw[bZ,hz]) c4 hk hs Vr Vs Vt
  ·cases hc
 | .three i t k u m v,fuel,la,l,H,nx,iv,w,O,a,w',G,Z,hf,hz,hc,h,s,hG,hZ,hI=>by
  simp only[mE]at hc;split at hc
  ·rename_i x y z9 hr;simp only[bC]at hc;obtain⟨c1,c2,c6,c3,c4,c5⟩:=hc;have hx:=bU c1;have hy:=bU c2;have hz9:=bU c6;subst hx;subst hy;subst hz9;obtain⟨h1,h2,h3⟩:=h;obtain⟨o1,WG,h1⟩:=iH h1;obtain⟨o2,UM,h2⟩:=iH h2;obtain⟨o3,ho3,h3⟩:=iH h3;rw[bG]at WG UM ho3;have Qx:x∈Region.ready .any ops la:=by rw[hr];simp
   have Wm:y∈Region.ready .any ops la:=by rw[hr];simp
   have hm3:z9∈Region.ready .any ops la:=by rw[hr];simp
   have u1:=kx (ek.1 Qx).1;have u2:=kx (ek.1 Wm).1;have u3:=kx (ek.1 hm3).1;obtain⟨f,rfl⟩:∃f,fuel=f+1:=⟨fuel-1,by omega⟩
   refine⟨hI,fun h0=>(by rw[hr]at h0;cases h0),fun j hj=>?_⟩;rw[hr,List.mem_cons,List.mem_cons,bL]at hj;rcases hj with rfl|rfl|rfl
   ·exact DA hτ WG (OZ _ o1 WG) Qx h1 s hG hZ hI fun _ _ _ _ _ _ _ _ G' hk hs Vr Vs Vt=>j8 hτ OZ PU hQ t f _ _ _ _ _ _ _ _ _ G' Z (by omega) (by rw[bZ,hz]) c3 hk hs Vr Vs Vt
   ·exact DA hτ UM (OZ _ o2 UM) Wm h2 s hG hZ hI fun _ _ _ _ _ _ _ _ G' hk hs Vr Vs Vt=>j8 hτ OZ PU hQ u f _ _ _ _ _ _ _ _ _ G' Z (by omega) (by rw[bZ,hz]) c4 hk hs Vr Vs Vt
   ·exact DA hτ ho3 (OZ _ o3 ho3) hm3 h3 s hG hZ hI fun _ _ _ _ _ _ _ _ G' hk hs Vr Vs Vt=>j8 hτ OZ PU hQ v f _ _ _ _ _ _ _ _ _ G' Z (by omega) (by rw[bZ,hz]) c5 hk hs Vr Vs Vt
  ·cases hc
 | .ld i b t,fuel,la,l,H,nx,iv,w,O,a,w',G,Z,hf,hz,hc,h,s,hG,hZ,hI=>by
  unfold mE at hc;obtain⟨o,ho,h1⟩:=iH h;rw[bG]at ho;simp only[ho]at hc
  cases Qr:M6 o with
  |none=>rw[Qr]at hc;cases hc
  |some q=>
   obtain⟨d,T,u⟩:=q;rw[Qr]at hc h1;simp only[bC]at hc;obtain⟨⟨⟨⟨c1,c2⟩,c4⟩,c5⟩,c3⟩:=hc;obtain⟨e1,e2,e3⟩:=Jx Qr;have c1:i∈Region.ready .any ops la:=by simpa using c1
   obtain⟨QM,-⟩:=ek.1 c1;have SC:=kx QM;obtain⟨f,rfl⟩:∃f,fuel=f+1:=⟨fuel-1,by omega⟩
   have Ps:(la.setIfInBounds i true).size=ops.size:=by rw[bZ,hz]
   have hR:vG o.op=true:=by rw[e2];rfl
   have hm:=yL la;have hb:=nI (ops:=ops) (m:=jB la.toList 0) (i:=i) ops.toList 0 0 (fun n o hn=>by rw[aW];rwa [bG]at hn) (fun j hj=>by rw[tN]at hj;cases hj);rw[<-bU c2]at hb
   cases hsu:fu l u with
   |none=>simp only[hsu]at h1
   |some su=>
    simp only[hsu]at h1;obtain⟨v,hK,RV,Oj⟩:=oJ hτ s.rel (s.sc _ _ hsu) h1;have hau:=s.env _ _ hsu;have Vu:=OZ i o ho d e1;have sat2:Sat n ((d,v)::l) H nx iv B w O (a.put o.dst (v.den O)) w':=by rw[e1];exact s.put Vu RV
    have hw:Region.wanted o (yielded ops a.tmps)=true:=by simp[Region.wanted,e3]
    have Qi:a.eval (.tmp u)=su.den O:=by rw[Act.eval,bB,hau];rfl
    have hui:tb (jB la.toList 0) i=false:=by rw[hm];exact vE c1
    have SD:=BS ops.toList 0 c5;refine vD (v:=v.den O) (b:=b) (Y:=Yz P (⟨u,d,T,b⟩,su.den O,v.den O)) (X:=execOp a.eval o) ho hR PU (fun c a w hq=>absurd hq.1 (by simp)) (fun j hj=>(hb j hj).2.2) (fun w3 hY=>?_) (fun lx w h z hz ha=>h z hz ((jd ho hR).2 ha))
     f la a w' (fun j hj=>(hm j).symm.trans (hb j hj).1) (fun j oj RU PZ hl hk=>tK ops.toList 0 c4 j oj (by rw[bG];exact RU) (by omega) (by
      have hj:=(bA.1 RU).1
      rw[aW,hm,nG (by omega) false true];exact hl) (by rw[aW];exact hk)) c1 ⟨hw,rfl⟩ ?_
    ·unfold Yz at hY;obtain⟨dst,op,ty,pos,after,guard⟩:=o;simp only at e2;subst e2;simp only[execOp,Qi]
     exact mK hY
    ·refine kg (I:=IZ P ops ((⟨u,d,T,b⟩,su.den O,v.den O)::Z)) (fun lx w h=>⟨fun z hz=>h z (aC _ hz),h _ aG⟩) _ _ _ _ ?_;refine j8 hτ OZ PU hQ t f _ _ _ _ _ _ _ _ _ (⟨u,d,T,b⟩::G) ((⟨u,d,T,b⟩,su.den O,v.den O)::Z) (by omega) Ps c3 hK sat2 (fun z hz h=>?_) (fun z hz=>?_) (fun z hz h=>?_)
     ·rcases List.mem_cons.1 hz with rfl|hz
      ·exact aG
      ·exact aC _ (hG z hz ((jd ho hR).1 h))
     ·rcases List.mem_cons.1 hz with rfl|hz
      ·have h7:=(SD i o (by rw[bG];exact ho) (by rw[aW];exact hui)).1;refine⟨rA h7 hau,?_,fun j oj RU SA=>?_⟩
       ·rw[e1];show(a.tmps.setIfInBounds d _)[d]? =_;rw[Array.getElem?_setIfInBounds_self_of_lt (by rw[s.size];exact Vu)]
       ·have PZ:i≠j:=fun e=>by
         subst e;have hi:=(bA.1 QM).1;rw[bB,Array.getElem?_setIfInBounds_self_of_lt hi]at SA
         cases SA
        rw[getD_set_ne false PZ]at SA;obtain⟨k1,k2⟩:=SD j oj (by rw[bG];exact RU) (by rw[aW,hm];exact SA);exact⟨k1,k2 (by omega)⟩
      ·exact(hZ z hz).step ho (vE c1)
     ·rcases List.mem_cons.1 hz with rfl|hz
      ·exact Oj w' s.rel
      ·exact hI z hz ((jd ho hR).1 h)
 | .wI id t,fuel,la,l,H,nx,iv,w,O,a,w',G,Z,hf,hz,hc,h,s,hG,hZ,hI=>by
  obtain⟨H',b,PV,hd,hs,ho,h⟩:=h;obtain⟨hn,l',hl,h⟩:=h _ _ s.rel;exact j8 hτ OZ PU hQ t fuel la l' H' nx _ w' O a w' G Z hf hz hc h ⟨s.rel.free PV hd hn hs ho,s.size,s.defers,fun u v hv=>by obtain⟨-,v',h1,h2⟩:=hl u v hv;rw[<-h2];exact s.env u v' h1,fun u v hv=>(hl u v hv).1⟩ hG hZ hI
theorem jN(hτ:fk P τ)(hm:P.follows .mixedOrders=true){K:KT}(t:Tg)(hs:Region.noSelect ops=true)(hc:mE ops t (Array.replicate ops.size false)=true)
  (h:Bq P τ B ops.toList t [] l H nx iv w K):yo P B ops l H nx iv w K:=by
 refine⟨fun n O a w' OZ sat Q hQ id=>?_⟩;refine wp_mono (Q':=Q) (c:=.region id ops true) (wp_region_any (Q:=QN (Q .normal)) hm (BR (I:=IZ P ops []) _ _ _ _ ?_)) (fun e a w hq=>by obtain⟨rfl,hq⟩:=hq;exact hq);refine j8 (Q0:=Q .normal) hτ (fun j o ho d hd=>?_) (Region.noSelect_spec hs) hQ t _ _ _ _ _ _ _ O _ _ [] [] ?_ (by simp) hc h ⟨sat.rel.drew,sat.size,sat.defers,sat.env,sat.sc⟩ (fun z hz=>by cases hz) (fun z hz=>by cases hz) (fun z hz=>by cases hz)
 ·have:=List.all_eq_true.1 OZ o (aD (by rw[bG];exact ho));rw[hd]at this;have h5:d+1<=n:=by simpa [Nat.blt]using this
  exact h5
 ·unfold OL;refine aX List.countP_le_length ?_;simp
end
theorem Lb{α:Type}(a b:α){c:Nat}(h:i<c):(List.replicate i a++List.replicate (c-i) b).take i++[a]++(List.replicate i a++List.replicate (c-i) b).drop (i+1)=List.replicate (i+1) a++List.replicate (c-(i+1)) b:=by
 rw[List.take_left' (bc ..),List.drop_append,bc,List.drop_of_length_le (by rw[bc];omega),List.nil_append,List.drop_replicate,List.replicate_succ'];congr 2;omega
def mH(w:World)(C S:Nat->Prop)(v:Value)(M:List (List Rat)):Prop:=∃rv,iR w C 1 v rv M.length∧rv.length=M.length∧∀(i:Nat) u x,rv[i]? =some u->M[i]? =some x->cO w S u x
theorem mH.shape(h:mH w C S v M):∃a c,v= .slice a M.length c∧M.length<=c∧M.length<=maxLen:=by
 obtain⟨rv,⟨h0,_,_,a,c,h1,h2,_⟩,_⟩:=h;exact⟨a,c,h1,h2,h0⟩
theorem mH.load{a:Option Addr}{m c:Nat}{x:List Rat}(h:mH w C S (.slice a m c) M)(hq:M[j]? =some x):
  ∃ad u,a=some ad∧cO w S u x∧C ad.block∧w.cell? (ad.add (j*1))=some u:=by
 obtain⟨rv,⟨h0,h1,h2,a',c',e,h3,h4⟩,hl,hf⟩:=h;injection e with e1 e2 e3;subst e1;obtain⟨u,hu⟩:∃u,rv[j]? =some u:=⟨_,aA (by rw[hl];exact(aE.1 hq).1)⟩
 obtain⟨ad,k1,k2,k3⟩:=h4 j u hu;exact⟨ad,u,k1,hf j u x hu hq,k2,by rw[aZ];exact k3⟩
def Mc:Option Nat->Value
 |none=>.int .i64 (-1)
 |some j=>.int .i64 (j:Int)
structure Ff(M:List (List Rat))(cols h:Nat):Prop where
 rows:∀i,i<=M.length->∀r∈(iT M cols i).1,∀q∈r,rl q+1<=h
 mF:∀i,i<M.length->∀k,k<=cols->∀q∈gD (iT M cols i).1 (iT M cols i).2.1 (M.getD i []) k,rl q+1<=h
theorem Ao{k:Nat}(h:at_[k]? =some (some j)):gD E at_ row (k+1)=mM (gD E at_ row k) (E.getD j []) ((gD E at_ row k).getD k 0):=by
 rw[gD,show at_.getD k none=some j by rw[List.getD,h];rfl]
theorem HI{k:Nat}(h:at_[k]? =some none):gD E at_ row (k+1)=gD E at_ row k:=by
 rw[gD,show at_.getD k none=none by rw[List.getD,h];rfl]
theorem Lc{α:Type}{l:List α}(a b:α)(h:j<l.length):(l++[a]).set j b=l.set j b++[a]:=by rw[List.set_append,if_pos h]
theorem HJ{x:List Rat}(Q5:(E,at_,fr)=iT M cols i)(hx:M.getD i []=x)(hy:gD E at_ x cols=y)(hp:tp y cols=cols):(E,at_,fr)=iT M cols (i+1):=by
 rw[iT,<-Q5,hx,kP];simp only[hy,hp,if_true]
theorem HK{p:Nat}{x:List Rat}(Q5:(E,at_,fr)=iT M cols i)(hx:M.getD i []=x)(hy:gD E at_ x cols=y)(hp:tp y cols=p)(OY:p≠cols):
  iT M cols (i+1)=(gU E (y.map (· / y.getD p 0)) p E.length++[y.map (· / y.getD p 0)],at_.set p (some E.length),fr++[i]):=by
 rw[iT,<-Q5,hx,kP];simp only[hy,hp,aJ OY]
theorem Le(q:Rat)(y:List Rat):iO y.length (fun _ r=>r / q) y=y.map (· / q):=by
 rw[rL];exact bH fun j=>by rw[List.getElem?_mapIdx,aM]
theorem HL{p:Nat}(h:E[i]? =some r)(h0:r.getD p 0=0):gU E u p (i+1)=gU E u p i:=by
 rw[zY h,h0,zX];refine bH fun j=>?_;by_cases hj:i=j
 ·subst hj;rw[aQ (by rw[gG];exact(aE.1 h).1),FB h]
 ·rw[aY hj]
def ku(rv:List Value)(at_:List (Option Nat)):Nat->List Value
 |0=>[]
 |k+1=>match at_.getD k none with
  |some r=>ku rv at_ k++[rv.getD r (.bool false)]
  |none=>ku rv at_ k
theorem me{k:Nat}(h:s.2.1[k]? =some none):dL s (k+1)=dL s k:=by
 rw[dL,show s.2.1.getD k none=none by rw[List.getD,h];rfl]
theorem mf{k r:Nat}(h:s.2.1[k]? =some (some r)):dL s (k+1)=((dL s k).1++[s.1.getD r []],(dL s k).2.1++[k],(dL s k).2.2++[s.2.2.getD r 0]):=by
 rw[dL,show s.2.1.getD k none=some r by rw[List.getD,h];rfl]
theorem tA{k:Nat}(h:at_[k]? =some none):ku rv at_ (k+1)=ku rv at_ k:=by
 rw[ku,show at_.getD k none=none by rw[List.getD,h];rfl]
theorem tB{k r:Nat}(h:at_[k]? =some (some r)):ku rv at_ (k+1)=ku rv at_ k++[rv.getD r (.bool false)]:=by
 rw[ku,show at_.getD k none=some r by rw[List.getD,h];rfl]
theorem ug(s:xg)(rv:List Value):∀k,k<=s.2.1.length->(dL s k).1.length=(dL s k).2.1.length∧(dL s k).2.2.length=(dL s k).2.1.length∧(ku rv s.2.1 k).length=(dL s k).2.1.length∧(dL s k).2.1.length<=k
 |0,_=>⟨rfl,rfl,rfl,Nat.le_refl _⟩
 |k+1,hk=>by
  have ih:=ug s rv k (by omega);obtain⟨o,ho⟩:∃o,s.2.1[k]? =some o:=⟨_,aA (by omega)⟩
  cases o with
  |none=>rw[me ho,tA ho];exact⟨ih.1,ih.2.1,ih.2.2.1,by have:=ih.2.2.2;omega⟩
  |some r=>rw[mf ho,tB ho];simp only[List.length_append,List.length_singleton];omega
theorem Ap{E:List (List Rat)}{at_:List (Option Nat)}{fr:List Nat}{rv:List Value}(hl:rv.length=E.length)(PF:∀(k r:Nat),at_[k]? =some (some r)->r<E.length):∀k,k<=at_.length->∀(i:Nat) u x,(ku rv at_ k)[i]? =some u->(dL (E,at_,fr) k).1[i]? =some x->∃r:Nat,rv[r]? =some u∧E[r]? =some x
 |0,_,i,u,x,h,_=>by cases h
 |k+1,hk,i,u,x,h1,h2=>by
  have ih:=Ap (fr:=fr) hl PF k (by omega) i u x;obtain⟨o,ho⟩:∃o,at_[k]? =some o:=⟨_,aA (by omega)⟩
  cases o with
  |none=>
   rw[tA ho]at h1;rw[me (s:=(E,at_,fr)) ho]at h2;exact ih h1 h2
  |some r=>
   have hr:=PF k r ho;rw[tB ho]at h1;rw[mf (s:=(E,at_,fr)) ho]at h2;obtain⟨q1,q2,q3,q4⟩:=ug (E,at_,fr) rv k (by dsimp only;omega);dsimp only at q1 q2 q3 q4 h2;rcases aS i (ku rv at_ k).length with hi|hi
   ·rw[aK hi]at h1;rw[aK (by omega)]at h2;exact ih h1 h2
   ·have SF:i=(ku rv at_ k).length:=by have:=(aE.1 h1).1;simp at this;omega
    rw[SF,aO (Nat.le_refl _),bK]at h1;rw[SF,q3,<-q1,aO (Nat.le_refl _),bK]at h2;simp only[List.getElem?_cons_zero,Option.some.injEq]at h1 h2;refine⟨r,?_,?_⟩
    ·rw[<-h1,List.getD,aA (by omega)];rfl
    ·rw[<-h2,List.getD,aA hr];rfl
theorem Fg{α:Type}(l:List α)(a b:α):(l++[a]).set l.length b=l++[b]:=by simp
section
variable{S S':Nat->Prop}{H:Hp}{nx:Nat}{iv iv':Iv}{B:Nat}{w w' w2:World}{O:Nat->Sx.dw}{rv:List Value}{v:Value}{q:Rat}
theorem dA.Fh(h:dA w (Lr S B iv rv) v q)(r:Rel H nx iv B w O w')(hS:∀g,S g->g<B):dA w' (Lr S B iv rv) v q:=h.cJ fun _ hg=>Rel.same r hS hg.1
theorem dA.Ny(h:dA w (Lr S B iv rv) v q)(r:Rel H nx iv B w O w')(hS:∀g,S g->g<B)(he:Ext w' w2)(hm:∀p,p∈iv->p∈iv'):dA w2 (Lr S B iv' rv) v q:=
 ((h.Fh r hS).cJ fun g hg=>he.block g (Rel.old r hS g hg.1)).cL fun _ hg=>⟨hg.1.mono hm,hg.2⟩
theorem Lr.old(r:Rel H nx iv B w O w')(hS:∀g,S g->g<B):Old (Lr S B iv rv) w':=fun g hg=>Rel.old r hS g hg.1
theorem dA.aAt{n:Nat}(h:dA w2 (Nf w' w2) v q)(hM:lh w S B iv rv n M)(r:Rel H nx iv B w O w'):dA w2 (Lr S0 B ((w'.heap.size,w2.heap.size)::iv) rv) v q:=
 h.cL fun g hg=>by
  rcases hg with hg|hg
  ·exact hg.elim
  ·exact⟨.inr ⟨by have:=r.cG;omega,_,_,aG,hg.1,hg.2⟩,fun hm=>by have:=hM.lt r hm;omega⟩
end
set_option maxHeartbeats 2000000 in
theorem CY{n h:Nat}(hC:Old C w)(hS:Old S w)(hM:mH w C S v M)(hlen:gX n M)(hn0:0<n)(hn:n<=1000)(hR:M.length<=1000)(Pw:cols<=n)(hB:Ff M cols h)(hh:3*h<=90000):
  eG PG N.jK #[.agg #[v,.int .i64 n],.int .i64 cols] w (eL w fun v' w2=>∃vr vp vf,v'= .agg #[vr,.int .i64 n,vp,vf]∧cV w2 (Nw S w w2) vr (eK M cols).1∧dU w2 (Nf w w2) vp (eK M cols).2.1∧dU w2 (Nf w w2) vf (eK M cols).2.2):=by
 have hw:=bR w;obtain⟨am,cm,rfl,Rt,Ra⟩:=mH.shape hM;unfold maxLen at Ra;refine ji (by simp) ?_
 refine⟨cols,cols,rfl,rfl,Nat.le_refl _,by omega,by omega,Nat×World,fun z=>⟨[(1,iZ cols),(2,pP 0 0),(4,pP 1 0),(5,pP 2 0),(6,.o (.s 3 0 cols cols)),(27,iZ cols),(28,iN z.1)],
   [(3,.arr T.int (List.replicate z.1 (.int .i64 (-1))++List.replicate (cols-z.1) (.int .i64 0))),(2,.box T.dZ [.v (.slice none 0 0),.v (.int .i64 n),.v (.slice none 0 0),.v (.slice none 0 0)]),(1,.box T.dZ [.v (.slice none 0 0),.v (.int .i64 0),.v (.slice none 0 0),.v (.slice none 0 0)]),(0,.box T.du [.v (.slice am M.length cm),.v (.int .i64 n)])],4,[],z.2⟩,fun z=>cols-z.1,
  fun z=>z.1<=cols∧dq w.heap.size w z.2,?_,?_⟩
 ·intro O w' r;exact⟨(0,w'),⟨aR _,hw.tr r.cU⟩,Sub.gn [] r ⟨by simp;rfl,rfl,rfl,rfl,trivial⟩⟩
 rintro⟨i,w1⟩ ⟨hi,hw⟩;dsimp only at hi hw ⊢;refine dN.mk ?_ ?_<;>intro OU
 ·have OU:i<cols:=by simpa using OU
  refine⟨by omega,by simp;omega,List.replicate (i+1) (.int .i64 (-1))++List.replicate (cols-(i+1)) (.int .i64 0),?_,?_⟩
  ·rw[aF,aZ,aW];exact Lb _ _ OU
  refine⟨((i+1:Nat):Int),wo,?_⟩;intro ρ3 w3 r3;exact⟨(i+1,w3),⟨OU,hw.tr r3.cU⟩,Sub.gn [] r3,by dsimp only;omega⟩
 have OU:i=cols:=aU hi (by simpa using OU);rw[OU]
 refine⟨Nat×List Value×List (List Rat)×List (Option Nat)×List Nat×World×Iv,fun z=>⟨[(38,iN z.1),(1,iZ cols),(2,pP 0 0),(4,pP 1 0),(5,pP 2 0),(6,.o (.s 3 0 cols cols)),(36,sV am M.length cm),(37,iZ M.length)],[(2,.box T.dZ [.w 4 z.2.1.length,.v (.int .i64 n),.v (.slice none 0 0),.w 5 z.2.2.2.2.1.length]),(5,.vec T.int 1 (z.2.2.2.2.1.map fun c:Nat=>.int .i64 (c:Int))),(4,.vec T.iQ 1 z.2.1),(0,.box T.du [.v (.slice am M.length cm),.v (.int .i64 n)]),(1,.box T.dZ [.v (.slice none 0 0),.v (.int .i64 0),.v (.slice none 0 0),.v (.slice none 0 0)]),(3,.arr T.int (z.2.2.2.1.map Mc))],6,z.2.2.2.2.2.2,z.2.2.2.2.2.1⟩,fun z=>M.length-z.1,
  fun z=>z.1<=M.length∧(z.2.2.1,z.2.2.2.1,z.2.2.2.2.1)=iT M cols z.1∧dq w.heap.size w z.2.2.2.2.2.1∧lh z.2.2.2.2.2.1 S w.heap.size z.2.2.2.2.2.2 z.2.1 n z.2.2.1,?_,?_⟩
 ·intro O w' r
  exact⟨(0,[],[],List.replicate cols none,[],w',[]),⟨aR _,rfl,hw.tr r.cU,lh.nil⟩,Sub.Dk 2 0 T.iQ 1 rfl rfl (by simp[kF,SV.sc,At.sc]) r fun ρ1 r1=>Sub.Dk 2 3 T.int 1 rfl rfl (by simp[kF,SV.sc,At.sc]) r1 fun ρ2 r2=>
   Sub.gn [] r2 ⟨rfl,rfl,rfl,rfl,rfl,by simp[Mc];rfl,trivial⟩⟩
 rintro⟨i,rv,E,at_,fr,w1,iv⟩ ⟨hi,Q5,hw,hE⟩;dsimp only at hi Q5 hw hE ⊢;have OZ:=zZ cols hlen i hi;rw[<-Q5]at OZ;have hatl:at_.length=cols:=OZ.at_;have hfrl:fr.length=E.length:=OZ.vF;have hEi:E.length<=i:=OZ.le;have Pm:rv.length=E.length:=hE.len;have hEb:∀r∈E,∀q∈r,rl q+1<=h:=by have:=hB.rows i hi;rwa [<-Q5]at this
 refine dN.mk ?_ ?_<;>intro OU
 ·have OU:i<M.length:=by simpa using OU
  obtain⟨x,hx⟩:∃r,M[i]? =some r:=⟨_,aA OU⟩
  have QO:=hlen x (aD hx);have Uw:M.getD i []=x:=by rw[List.getD,hx];rfl
  have QT:∀k,k<=cols->∀q∈gD E at_ x k,rl q+1<=h:=by have:=hB.mF i OU;rwa [<-Q5,Uw]at this
  have hcll:∀k,(gD E at_ x k).length=n:=fun k=>by rw[ia,QO]
  obtain⟨adm,um,Qs,PD,km1,km2⟩:=mH.load hM hx;obtain⟨css,⟨-,g1,g2,a0,c0,rfl,g4,g5⟩,Pf,UC,PI⟩:=PD;have PA:=ei UC;refine⟨adm,Qs,by omega,.slice a0 x.length c0,rd1 km2 hw (hC _ km1),?_⟩;refine .inl ?_;refine⟨css.flatten,g1,g2,fun O w' r Py=>?_,?_⟩
  ·obtain⟨u0,Uq⟩:∃u,css.flatten[0]? =some u:=⟨_,aA (by omega)⟩
   obtain⟨ad,ha,_,_⟩:=g5 0 u0 Uq;refine⟨ad,ha,fun j u hj=>?_⟩;obtain⟨ad2,RN,q1,q2⟩:=g5 j u hj;rw[ha]at RN;injection RN with RN;subst RN;rw[cI (w:=w) (w2:=w') (by rw[dC];exact(hw.tr r.cU).block _ (hS _ q1))];exact q2
  refine⟨rfl,by omega,by unfold maxLen;omega,?_⟩;rw[aW x.length,QO]
  refine⟨Nat×Nat×Nat×World×Iv,fun z=>⟨[(9,.o (.v (.slice (some ⟨z.2.1,0,none⟩) n z.2.2.1))),(46,iZ cols),(47,iN z.1),(2,pP 0 0),(4,pP 1 0),(5,pP 2 0),(6,.o (.s 3 0 cols cols)),(8,iN i),(36,sV am M.length cm),(37,iZ M.length),(38,iN i),(1,iZ cols)],[(2,.box T.dZ [.w 4 rv.length,.v (.int .i64 n),.v (.slice none 0 0),.w 5 fr.length]),(5,.vec T.int 1 (fr.map fun c:Nat=>.int .i64 (c:Int))),(4,.vec T.iQ 1 rv),(0,.box T.du [.v (.slice am M.length cm),.v (.int .i64 n)]),(1,.box T.dZ [.v (.slice none 0 0),.v (.int .i64 0),.v (.slice none 0 0),.v (.slice none 0 0)]),(3,.arr T.int (at_.map Mc))],8,z.2.2.2.2,z.2.2.2.1⟩,fun z=>cols-z.1,
   fun z=>z.1<=cols∧dq w.heap.size w z.2.2.2.1∧lh z.2.2.2.1 S w.heap.size z.2.2.2.2 (rv++[.slice (some ⟨z.2.1,0,none⟩) n z.2.2.1]) n (E++[gD E at_ x z.1]),?_,?_⟩
  ·intro O w' r;have hv:=aAs (S:=S) (m:=n) (qs:=x) (css:=css) r (id:=7) rfl (by omega) hn0 (by unfold maxLen;omega) ⟨Pf,fun j cs q k1 k2=>(PI j cs q k1 k2).cJ fun g hg=>(hw.tr r.cU).block g (hS g hg)⟩
   exact⟨(0,(O 7).g,(O 7).cap,w',((O 7).g,(O 7).g+1)::iv),⟨aR _,hw.tr r.cU,(hE.rel r hS).push (fun g hg e=>Rel.not r hS hg 7 _ rfl hv.1 e.symm) hv.2.1 hv.2.2.2 hS⟩,
    Sub.aA9 r (id:=7) (t:=9) (cs:=css.flatten) rfl hv.1 rfl ⟨rfl,rfl,rfl,rfl,rfl,rfl,trivial⟩ rfl ⟨rfl,rfl,rfl,rfl,rfl,rfl,rfl,rfl,rfl,rfl,rfl,trivial⟩ (by simp[kF,SV.sc,At.sc])⟩
  rintro⟨k,gx,cx,w2,iv⟩ ⟨hk,hw,hE⟩;dsimp only at hk hw hE ⊢;refine dN.mk ?_ ?_<;>intro Oc
  ·have Oc:k<cols:=by simpa using Oc
   obtain⟨o,ho⟩:∃o,at_[k]? =some o:=⟨_,aA (by omega)⟩
   refine⟨by omega,Mc o,by rw[aF,aZ,aW,aM,ho];rfl,?_⟩
   cases o with
   |none=>
    refine⟨((k+1:Nat):Int),wo,?_⟩;intro ρ3 w3 r3;exact⟨(k+1,gx,cx,w3,_),⟨Oc,hw.tr r3.cU,by dsimp only;rw[HI ho];exact hE.rel r3 hS⟩,Sub.gn [] r3,by dsimp only;omega⟩
   |some j=>
    have hj:j<E.length:=OZ.lt k j ho;have hq:∃q,(gD E at_ x k)[k]? =some q:=⟨_,aA (by rw[hcll];omega)⟩
    obtain⟨q,hq⟩:=hq;have Ur:(gD E at_ x k).getD k 0=q:=by rw[List.getD,hq];rfl
    have SJ:=QT k hk q (aD hq);have Sg:(rv++[.slice (some ⟨gx,0,none⟩) n cx])[rv.length]? =some (.slice (some ⟨gx,0,none⟩) n cx):=by simp
    have Sn:(E++[gD E at_ x k])[rv.length]? =some (gD E at_ x k):=by rw[Pm];simp
    obtain⟨ad,cs,Ox,hF,hl⟩:=hE.load Sg Sn hq;obtain⟨f0,f1,f2,f3,f4,f5,f6,f7,rfl,hF⟩:=hF;refine⟨ad,Ox,by omega,[.bool f0,.slice f1 f2 f3,.bool f4,.slice f5 f6 f7],rfl,fun O w' r t u hu=>?_,?_⟩
    ·obtain⟨k1,k2⟩:=hl t u hu;rw[aF,cI (w:=w2) (w2:=w') (by rw[dC,dC];exact Rel.same r (gq _) k1)];exact k2
    refine cH (cE hw (fun _ w' v w2=>∃d,v= .bool d∧(d=true↔q=0)) (fun O w' r=>lI (Lr.old r hS) ((hF.Fh r hS).l (by omega))) ?_);rintro O _ _ QJ Og r he hw h_ ⟨d,rfl,hz⟩;replace hE:=hE.cK r hS he (mC h_);replace hF:=hF.Ny r hS he (mC h_)
    cases d
    ·have WY:q≠0:=fun e=>by have:=hz.2 e;cases this
     obtain⟨vj,Sw⟩:∃v,rv[j]? =some v:=⟨_,aA (by omega)⟩
     have TZ:(rv++[.slice (some ⟨gx,0,none⟩) n cx])[j]? =some vj:=by rw[aK (by omega)];exact Sw
     obtain⟨ej,VN⟩:∃v,E[j]? =some v:=⟨_,aA hj⟩
     have VO:(E++[gD E at_ x k])[j]? =some ej:=by rw[aK hj];exact VN
     have hejd:E.getD j []=ej:=by rw[List.getD,VN];rfl
     obtain⟨aj,cj,rfl⟩:=hE.form TZ;obtain⟨ad,cs,Ox,hF,hl⟩:=hE.load Sg Sn hq;obtain⟨f0,f1,f2,f3,f4,f5,f6,f7,rfl,hF⟩:=hF;refine cQ hτ dx [.x 0,.x 1,.x 2,.x 3,.x 4,.x 5,.x 6,.x 7,.x 8,.x 9,.x 10,.x 11] (by kernel_rfl) (by kernel_rfl) ?_;refine⟨by simp,by omega,.slice aj n cj,by simpa using Sw,ad,Ox,by omega,[.bool f0,.slice f1 f2 f3,.bool f4,.slice f5 f6 f7],rfl,fun O w' r t u hu=>?_,?_⟩
     ·obtain⟨k1,k2⟩:=hl t u hu;rw[aF,cI (w:=QJ) (w2:=w') (by rw[dC,dC];exact Rel.same r (gq _) k1)];exact k2
     refine⟨fun O w' r=>?_⟩;refine(hE.De r hS (i:=rv.length) (j:=j) (h:=h) (by omega) Sg TZ Sn VO (hF.l (by omega)) (fun y hy=>QT k hk y hy) (fun y hy=>hEb ej (aD VN) y hy) SJ hh).mono fun e w8 he=>?_;obtain⟨rfl,Ot,TK,PB⟩:=he;have Oz:=(hw.tr r.cU).tr (hE.cU r Ot TK);refine⟨.tuple #[],_,(w'.heap.size,w8.heap.size)::Og,rfl,r.qg (fun x hx=>Rel.not r (gq _) (hE.new x (TK x hx))) Ot,?_⟩;have Oi:(E++[gD E at_ x k]).set rv.length (mM (gD E at_ x k) ej q)=E++[gD E at_ x (k+1)]:=by rw[Pm,Fg,Ao ho,hejd,Ur]
     rw[Oi]at PB;generalize (w'.heap.size,w8.heap.size)::Og=TL at*
     refine⟨((k+1:Nat):Int),wo,?_⟩;intro ρ3 w3 r3;exact⟨(k+1,gx,cx,w3,_),⟨Oc,Oz.tr r3.cU,PB.rel r3 hS⟩,Sub.gn [] r3,by dsimp only;omega⟩
    ·have WY:q=0:=hz.1 rfl;refine⟨((k+1:Nat):Int),wo,?_⟩;intro ρ3 w3 r3;exact⟨(k+1,gx,cx,w3,_),⟨Oc,hw.tr r3.cU,by dsimp only;rw[Ao ho,Ur,WY,zX];exact hE.rel r3 hS⟩,Sub.gn [] r3,by dsimp only;omega⟩
  have Oc:k=cols:=aU hk (by simpa using Oc);rw[Oc]at hE;obtain⟨y,hy⟩:∃y,gD E at_ x cols=y:=⟨_,rfl⟩
  have WT:y.length=n:=by rw[<-hy];exact hcll cols
  have Vw:∀q∈y,rl q+1<=h:=by rw[<-hy];exact QT cols (Nat.le_refl _)
  rw[hy]at hE;have Sg:(rv++[.slice (some ⟨gx,0,none⟩) n cx])[rv.length]? =some (.slice (some ⟨gx,0,none⟩) n cx):=by simp
  refine⟨Nat×World×Iv,fun z=>⟨[(9,.o (.v (.slice (some ⟨gx,0,none⟩) n cx))),(12,iN z.1),(2,pP 0 0),(4,pP 1 0),(5,pP 2 0),(6,.o (.s 3 0 cols cols)),(8,iN i),(36,sV am M.length cm),(37,iZ M.length),(38,iN i),(1,iZ cols)],[(2,.box T.dZ [.w 4 rv.length,.v (.int .i64 n),.v (.slice none 0 0),.w 5 fr.length]),(5,.vec T.int 1 (fr.map fun c:Nat=>.int .i64 (c:Int))),(4,.vec T.iQ 1 rv),(0,.box T.du [.v (.slice am M.length cm),.v (.int .i64 n)]),(1,.box T.dZ [.v (.slice none 0 0),.v (.int .i64 0),.v (.slice none 0 0),.v (.slice none 0 0)]),(3,.arr T.int (at_.map Mc))],8,z.2.2,z.2.1⟩,fun z=>cols-z.1,
   fun z=>z.1<=cols∧(∀t,t<z.1->y.getD t 0=0)∧dq w.heap.size w z.2.1∧lh z.2.1 S w.heap.size z.2.2 (rv++[.slice (some ⟨gx,0,none⟩) n cx]) n (E++[y]),?_,?_⟩
  ·intro O w' r3;exact⟨(0,w',_),⟨aR _,fun t ht=>absurd ht (Nat.not_lt_zero t),hw.tr r3.cU,hE.rel r3 hS⟩,Sub.gn [] r3⟩
  rintro⟨pv,w3,iv⟩ ⟨hp,WC,hw,hE⟩;dsimp only at hp WC hw hE ⊢;have Sn:(E++[y])[rv.length]? =some y:=by rw[Pm];simp
  refine dN.mk ?_ ?_<;>intro TM
  ·have TM:pv<cols:=by simpa using TM
   obtain⟨q,hq⟩:∃q,y[pv]? =some q:=⟨_,aA (by omega)⟩
   have Ur:y.getD pv 0=q:=by rw[List.getD,hq];rfl
   have SJ:=Vw q (aD hq);obtain⟨ad,cs,Ox,hF,hl⟩:=hE.load Sg Sn hq;obtain⟨f0,f1,f2,f3,f4,f5,f6,f7,rfl,hF⟩:=hF;refine⟨ad,Ox,by omega,[.bool f0,.slice f1 f2 f3,.bool f4,.slice f5 f6 f7],rfl,fun O w' r t u hu=>?_,?_⟩
   ·obtain⟨k1,k2⟩:=hl t u hu;rw[aF,cI (w:=w3) (w2:=w') (by rw[dC,dC];exact Rel.same r (gq _) k1)];exact k2
   refine cH (cE hw (fun _ w' v w2=>∃d,v= .bool d∧(d=true↔q=0)) (fun O w' r=>lI (Lr.old r hS) ((hF.Fh r hS).l (by omega))) ?_);rintro O _ _ Pn OX r he hw h_ ⟨d,rfl,hz⟩;replace hE:=hE.cK r hS he (mC h_)
   cases d
   ·have WY:q≠0:=fun e=>by have:=hz.2 e;cases this
    refine dN.mk ?_ ?_<;>intro he
    ·have he:(pv:Int)=cols:=by simpa using he
     omega
    have UQ:tp y cols=pv:=IC WC hp fun _=>by rw[Ur];exact WY
    have S5:=HK Q5 Uw hy UQ (by omega);rw[Ur]at S5;obtain⟨u,hu⟩:∃u,y.map (· / q)=u:=⟨_,rfl⟩
    rw[hu]at S5;have hul:u.length=n:=by rw[<-hu,aL,WT]
    have hub:∀q∈u,rl q+1<=h:=by
     have:=hB.rows (i+1) OU u (by rw[S5];simp);exact this
    obtain⟨ad,cs,Ox,hF,hl⟩:=hE.load Sg Sn hq;obtain⟨f0,f1,f2,f3,f4,f5,f6,f7,rfl,hF⟩:=hF;refine⟨ad,Ox,by omega,[.bool f0,.slice f1 f2 f3,.bool f4,.slice f5 f6 f7],rfl,fun O w' r t u hu=>?_,?_⟩
    ·obtain⟨k1,k2⟩:=hl t u hu;rw[aF,cI (w:=Pn) (w2:=w') (by rw[dC,dC];exact Rel.same r (gq _) k1)];exact k2
    refine⟨Nat×World×Iv,fun z=>⟨[(9,.o (.v (.slice (some ⟨gx,0,none⟩) n cx))),(12,iN pv),(13,pP 8 0),(97,iZ n),(98,iN z.1),(2,pP 0 0),(4,pP 1 0),(5,pP 2 0),(6,.o (.s 3 0 cols cols)),(8,iN i),(36,sV am M.length cm),(37,iZ M.length),(38,iN i),(1,iZ cols)],[(8,.box T.Rat [.v (.bool f0),.v (.slice f1 f2 f3),.v (.bool f4),.v (.slice f5 f6 f7)]),(2,.box T.dZ [.w 4 rv.length,.v (.int .i64 n),.v (.slice none 0 0),.w 5 fr.length]),(5,.vec T.int 1 (fr.map fun c:Nat=>.int .i64 (c:Int))),(4,.vec T.iQ 1 rv),(0,.box T.du [.v (.slice am M.length cm),.v (.int .i64 n)]),(1,.box T.dZ [.v (.slice none 0 0),.v (.int .i64 0),.v (.slice none 0 0),.v (.slice none 0 0)]),(3,.arr T.int (at_.map Mc))],9,z.2.2,z.2.1⟩,fun z=>n-z.1,
     fun z=>z.1<=n∧dq w.heap.size w z.2.1∧lh z.2.1 S w.heap.size z.2.2 (rv++[.slice (some ⟨gx,0,none⟩) n cx]) n (E++[iO z.1 (fun _ r=>r / q) y])∧dA z.2.1 (Lr S w.heap.size z.2.2 (rv++[.slice (some ⟨gx,0,none⟩) n cx])) (.agg #[.bool f0,.slice f1 f2 f3,.bool f4,.slice f5 f6 f7]) q,?_,?_⟩
    ·intro O w' r3;exact⟨(0,w',_),⟨aR _,hw.tr r3.cU,by dsimp only;rw[om];exact hE.rel r3 hS,hF.Fh r3 hS⟩,Sub.gn [] r3⟩
    rintro⟨k,w4,iv⟩ ⟨hk,hw,hE,hF⟩;dsimp only at hk hw hE hF ⊢;have Sn:(E++[iO k (fun _ r=>r / q) y])[rv.length]? =some (iO k (fun _ r=>r / q) y):=by rw[Pm];simp
    refine dN.mk ?_ ?_<;>intro Oc
    ·have Oc:k<n:=by simpa using Oc
     obtain⟨t,ht⟩:∃q,y[k]? =some q:=⟨_,aA (by omega)⟩
     have R5:=Vw t (aD ht);obtain⟨ad,cs,Ox,hG,hl⟩:=hE.load Sg Sn (ue ht);obtain⟨g0,g1,g2,g3,g4,g5,g6,g7,rfl,hG⟩:=hG;refine cQ hτ dx [.x 0,.x 1,.x 2,.x 3,.x 4,.x 5,.x 6,.x 7,.x 8,.x 9] (by kernel_rfl) (by kernel_rfl) ?_;refine⟨ad,Ox,by omega,[.bool g0,.slice g1 g2 g3,.bool g4,.slice g5 g6 g7],rfl,fun O w' r t u hu=>?_,?_⟩
     ·obtain⟨k1,k2⟩:=hl t u hu;rw[aF,cI (w:=w4) (w2:=w') (by rw[dC,dC];exact Rel.same r (gq _) k1)];exact k2
     refine cM (Φ:=fun _ w' v w2=>dA w2 (Nf w' w2) v (t / q)) (fun O w' r=>LZ (Lr.old r hS) ((hG.Fh r hS).l (by omega)) ((hF.Fh r hS).l (by omega)) WY) ?_;rintro O Pz v3 Px r he hb Rx;replace hw:=hw.tr hb;have hd:=Rx.aAt (S0:=S) hE r;replace hE:=hE.cK (iv':=(Pz.heap.size,Px.heap.size)::iv) r hS he fun x hx=>aC _ hx;replace hF:=hF.Ny (iv':=(Pz.heap.size,Px.heap.size)::iv) r hS he fun x hx=>aC _ hx;generalize (Pz.heap.size,Px.heap.size)::iv=Oh at*
     obtain⟨A0,A1,A2,A3,A4,A5,A6,A7,rfl⟩:=hd.shape;refine⟨⟨gx,0,none⟩,rfl,by omega,?_⟩;intro O w' r;obtain⟨g,hg,h1,h2,h3,h4⟩:=hE.store r hS Sg Sn Oc hd;injection hg with hg;injection hg with hg;subst hg;refine⟨h1,h2,h3,fun w5 RP=>?_⟩;obtain⟨k1,k2,k3,k4⟩:=h4 w5 RP;have Oz:=(hw.tr r.cU).tr k2;have So:=hF.cJ k4;have Oi:(E++[iO k (fun _ r=>r / q) y]).set rv.length ((iO k (fun _ r=>r / q) y).set k (t / q))=E++[iO (k+1) (fun _ r=>r / q) y]:=by rw[Pm,Fg,<-lg ht]
     rw[Oi]at k1;refine⟨((k+1:Nat):Int),wo,?_⟩;intro ρ3 w6 r3;exact⟨(k+1,w6,_),⟨Oc,Oz.tr r3.cU,k1.rel r3 hS,So.Fh r3 hS⟩,Sub.gn [] r3,by dsimp only;omega⟩
    have Oc:k=n:=aU hk (by simpa using Oc);rw[Oc,<-WT,Le,hu,WT]at hE
    refine⟨by simp,Nat×World×Iv,fun z=>⟨[(9,.o (.v (.slice (some ⟨gx,0,none⟩) n cx))),(12,iN pv),(113,.o (.w 4 rv.length)),(114,iZ rv.length),(115,iN z.1),(2,pP 0 0),(4,pP 1 0),(5,pP 2 0),(6,.o (.s 3 0 cols cols)),(8,iN i),(36,sV am M.length cm),(37,iZ M.length),(38,iN i),(1,iZ cols)],[(2,.box T.dZ [.w 4 rv.length,.v (.int .i64 n),.v (.slice none 0 0),.w 5 fr.length]),(5,.vec T.int 1 (fr.map fun c:Nat=>.int .i64 (c:Int))),(4,.vec T.iQ 1 rv),(0,.box T.du [.v (.slice am M.length cm),.v (.int .i64 n)]),(1,.box T.dZ [.v (.slice none 0 0),.v (.int .i64 0),.v (.slice none 0 0),.v (.slice none 0 0)]),(3,.arr T.int (at_.map Mc))],9,z.2.2,z.2.1⟩,fun z=>rv.length-z.1,
     fun z=>z.1<=rv.length∧dq w.heap.size w z.2.1∧lh z.2.1 S w.heap.size z.2.2 (rv++[.slice (some ⟨gx,0,none⟩) n cx]) n (gU E u pv z.1++[u]),?_,?_⟩
    ·intro O w' r3;exact⟨(0,w',_),⟨aR _,hw.tr r3.cU,by dsimp only;rw[Gm];exact hE.rel r3 hS⟩,Sub.gn [] r3⟩
    rintro⟨j,w5,iv⟩ ⟨hj,hw,hE⟩;dsimp only at hj hw hE ⊢;refine dN.mk ?_ ?_<;>intro Pt
    ·have Pt:j<rv.length:=by simpa using Pt
     obtain⟨ej,VN⟩:∃v,E[j]? =some v:=⟨_,aA (by omega)⟩
     have Qk:ej.length=n:=OZ.len ej (aD VN);have heb:=hEb ej (aD VN);obtain⟨vj,Sw⟩:∃v,rv[j]? =some v:=⟨_,aA Pt⟩
     have TZ:(rv++[.slice (some ⟨gx,0,none⟩) n cx])[j]? =some vj:=by rw[aK Pt];exact Sw
     have VO:(gU E u pv j++[u])[j]? =some ej:=by rw[aK (by rw[gG];omega)];exact FB VN
     have UD:(gU E u pv j++[u])[rv.length]? =some u:=by rw[Pm,<-gG E u pv j];simp
     obtain⟨t,ht⟩:∃q,ej[pv]? =some q:=⟨_,aA (by omega)⟩
     have htd:ej.getD pv 0=t:=by rw[List.getD,ht];rfl
     have R5:=heb t (aD ht);obtain⟨aj,cj,rfl⟩:=hE.form TZ;obtain⟨ad,cs,Ox,hG,hl⟩:=hE.load TZ VO ht;obtain⟨g0,g1,g2,g3,g4,g5,g6,g7,rfl,hG⟩:=hG;refine⟨by simp,by omega,.slice aj n cj,by simpa using Sw,ad,Ox,by omega,[.bool g0,.slice g1 g2 g3,.bool g4,.slice g5 g6 g7],rfl,fun O w' r t u hu=>?_,?_⟩
     ·obtain⟨k1,k2⟩:=hl t u hu;rw[aF,cI (w:=w5) (w2:=w') (by rw[dC,dC];exact Rel.same r (gq _) k1)];exact k2
     refine cH (cE hw (fun _ w' v w2=>∃d,v= .bool d∧(d=true↔t=0)) (fun O w' r=>lI (Lr.old r hS) ((hG.Fh r hS).l (by omega))) ?_);rintro O _ _ Qh On r he hw h_ ⟨d,rfl,hz⟩;replace hE:=hE.cK r hS he (mC h_)
     cases d
     ·have ht0:t≠0:=fun e=>by have:=hz.2 e;cases this
      obtain⟨ad,cs,Ox,hG,hl⟩:=hE.load TZ VO ht;obtain⟨g0,g1,g2,g3,g4,g5,g6,g7,rfl,hG⟩:=hG;refine⟨ad,Ox,by omega,[.bool g0,.slice g1 g2 g3,.bool g4,.slice g5 g6 g7],rfl,fun O w' r t u hu=>?_,?_⟩
      ·obtain⟨k1,k2⟩:=hl t u hu;rw[aF,cI (w:=Qh) (w2:=w') (by rw[dC,dC];exact Rel.same r (gq _) k1)];exact k2
      refine⟨fun O w' r=>?_⟩;refine(hE.De r hS (i:=j) (j:=rv.length) (h:=h) (by omega) TZ Sg VO UD (hG.l (by omega)) heb hub R5 hh).mono fun e w8 he=>?_;obtain⟨rfl,Ot,TK,PB⟩:=he;have Oz:=(hw.tr r.cU).tr (hE.cU r Ot TK);refine⟨.tuple #[],_,(w'.heap.size,w8.heap.size)::On,rfl,r.qg (fun x hx=>Rel.not r (gq _) (hE.new x (TK x hx))) Ot,?_⟩;have Oi:(gU E u pv j++[u]).set j (mM ej u t)=gU E u pv (j+1)++[u]:=by rw[Lc _ _ (by rw[gG];omega),zY VN,htd]
      rw[Oi]at PB;generalize (w'.heap.size,w8.heap.size)::On=TL at*
      refine⟨((j+1:Nat):Int),wo,?_⟩;intro ρ3 w6 r3;exact⟨(j+1,w6,_),⟨Pt,Oz.tr r3.cU,PB.rel r3 hS⟩,Sub.gn [] r3,by dsimp only;omega⟩
     ·have ht0:t=0:=hz.1 rfl;refine⟨((j+1:Nat):Int),wo,?_⟩;intro ρ3 w6 r3;exact⟨(j+1,w6,_),⟨Pt,hw.tr r3.cU,by dsimp only;rw[HL VN (by rw[htd,ht0])];exact hE.rel r3 hS⟩,Sub.gn [] r3,by dsimp only;omega⟩
    have Pt:j=E.length:=by have:=aU hj (by simpa using Pt);omega
    rw[Pt]at hE;refine⟨by simp,by omega,by simp;omega,(at_.set pv (some rv.length)).map Mc,?_,?_⟩
    ·rw[aF,aZ,aW,List.map_set];exact kO (by simp;omega)
    refine jN hτ dx (.x 0 (.x 1 (.x 3 (.x 6 (.x 8 (.ld 2 64544 (.ld 7 64512 (.two 4 (.two 5 (.x 11 (.x 12 (.x 9 (.x 10 (.x 13 (.x 14 (.x 15 .nil))))))) 9 (.x 5 (.x 11 (.x 12 (.x 10 (.x 13 (.x 14 (.x 15 .nil)))))))) 9 (.x 4 (.x 5 (.x 11 (.x 12 (.x 10 (.x 13 (.x 14 (.x 15 .nil)))))))))))))))) (by kernel_rfl) (by kernel_rfl) ?_;refine⟨?_,?_⟩
    ·refine⟨rfl,rfl,?_,?_⟩
     ·refine .inl ?_;refine⟨by simp,by omega,by unfold maxLen;omega,rfl,rfl,?_⟩;refine .inl ?_;refine⟨by simp,by omega,by unfold maxLen;omega,((i+1:Nat):Int),wo,?_⟩;intro ρ3 w6 r3;exact⟨(i+1,rv++[.slice (some ⟨gx,0,none⟩) n cx],gU E u pv E.length++[u],at_.set pv (some E.length),fr++[i],w6,_),⟨OU,S5.symm,hw.tr r3.cU,hE.rel r3 hS⟩,Sub.gn [(4,10),(5,12)] r3 ⟨by dsimp only;rw[List.length_append,List.length_append,List.length_singleton,List.length_singleton];rfl,by dsimp only;rw[List.map_append];rfl,rfl,rfl,rfl,by dsimp only;rw[<-Pm];rfl,trivial⟩,by dsimp only;omega⟩
     ·refine⟨rfl,rfl,?_⟩;refine .inl ?_;refine⟨by simp,by omega,by unfold maxLen;omega,rfl,?_⟩;refine .inl ?_;refine⟨by simp,by omega,by unfold maxLen;omega,((i+1:Nat):Int),wo,?_⟩;intro ρ3 w6 r3;exact⟨(i+1,rv++[.slice (some ⟨gx,0,none⟩) n cx],gU E u pv E.length++[u],at_.set pv (some E.length),fr++[i],w6,_),⟨OU,S5.symm,hw.tr r3.cU,hE.rel r3 hS⟩,Sub.gn [(4,11),(5,12)] r3 ⟨by dsimp only;rw[List.length_append,List.length_append,List.length_singleton,List.length_singleton];rfl,by dsimp only;rw[List.map_append];rfl,rfl,rfl,rfl,by dsimp only;rw[<-Pm];rfl,trivial⟩,by dsimp only;omega⟩
    ·refine⟨rfl,rfl,rfl,rfl,?_⟩;refine .inl ?_;refine⟨by simp,by omega,by unfold maxLen;omega,rfl,?_⟩;refine .inl ?_;refine⟨by simp,by omega,by unfold maxLen;omega,((i+1:Nat):Int),wo,?_⟩;intro ρ3 w6 r3;exact⟨(i+1,rv++[.slice (some ⟨gx,0,none⟩) n cx],gU E u pv E.length++[u],at_.set pv (some E.length),fr++[i],w6,_),⟨OU,S5.symm,hw.tr r3.cU,hE.rel r3 hS⟩,Sub.gn [(4,11),(5,12)] r3 ⟨by dsimp only;rw[List.length_append,List.length_append,List.length_singleton,List.length_singleton];rfl,by dsimp only;rw[List.map_append];rfl,rfl,rfl,rfl,by dsimp only;rw[<-Pm];rfl,trivial⟩,by dsimp only;omega⟩
   ·have WY:q=0:=hz.1 rfl;refine⟨((pv+1:Nat):Int),wo,?_⟩;intro ρ3 w4 r3
    exact⟨(pv+1,w4,_),⟨TM,fun t ht=>by
     by_cases htp:t=pv
     ·rw[htp,Ur,WY]
     ·exact WC t (by dsimp only at ht;omega),hw.tr r3.cU,hE.rel r3 hS⟩,Sub.gn [] r3,by dsimp only;omega⟩
  have TM:pv=cols:=aU hp (by simpa using TM);have UQ:tp y cols=cols:=IC (k:=cols) (fun t ht=>WC t (by omega)) (Nat.le_refl _) (fun h=>absurd h (Nat.lt_irrefl _));have hskip:=HJ Q5 Uw hy UQ;refine dN.mk (fun he=>?_) (fun he=>by rw[TM]at he;simp at he);refine⟨((i+1:Nat):Int),wo,?_⟩;intro ρ3 w4 r3;exact⟨(i+1,rv,E,at_,fr,w4,_),⟨OU,hskip,hw.tr r3.cU,hE.drop.rel r3 hS⟩,Sub.gn [] r3,by dsimp only;omega⟩
 have OU:i=M.length:=aU hi (by simpa using OU);subst OU;have hredS:eK M cols=dL (E,at_,fr) cols:=by rw[eK,<-Q5]
 have PF:∀(k r:Nat),at_[k]? =some (some r)->r<E.length:=OZ.lt;have Rc:∀k,k<=cols->(dL (E,at_,fr) k).1.length=(dL (E,at_,fr) k).2.1.length∧(dL (E,at_,fr) k).2.2.length=(dL (E,at_,fr) k).2.1.length∧(ku rv at_ k).length=(dL (E,at_,fr) k).2.1.length∧(dL (E,at_,fr) k).2.1.length<=k:=fun k hk=>ug (E,at_,fr) rv k (by dsimp only;omega)
 refine⟨Nat×World,fun z=>⟨[(4,pP 1 0),(5,pP 2 0),(17,pP 6 0),(159,.o (.s 3 0 cols cols)),(160,iZ cols),(161,iN z.1)],[(6,.box T.dZ [.w 7 (dL (E,at_,fr) z.1).2.1.length,.v (.int .i64 n),.w 8 (dL (E,at_,fr) z.1).2.1.length,.w 9 (dL (E,at_,fr) z.1).2.1.length]),(9,.vec T.int 1 ((dL (E,at_,fr) z.1).2.2.map fun c:Nat=>.int .i64 (c:Int))),(8,.vec T.int 1 ((dL (E,at_,fr) z.1).2.1.map fun c:Nat=>.int .i64 (c:Int))),(7,.vec T.iQ 1 (ku rv at_ z.1)),(2,.box T.dZ [.w 4 rv.length,.v (.int .i64 n),.v (.slice none 0 0),.w 5 fr.length]),(5,.vec T.int 1 (fr.map fun c:Nat=>.int .i64 (c:Int))),(4,.vec T.iQ 1 rv),(1,.box T.dZ [.v (.slice none 0 0),.v (.int .i64 0),.v (.slice none 0 0),.v (.slice none 0 0)]),(3,.arr T.int (at_.map Mc))],10,iv,z.2⟩,fun z=>cols-z.1,
  fun z=>z.1<=cols∧dq w.heap.size w z.2∧lh z.2 S w.heap.size iv rv n E,?_,?_⟩
 ·intro O w' r
  exact⟨(0,w'),⟨aR _,hw.tr r.cU,hE.rel r hS⟩,Sub.Dk 6 0 T.iQ 1 rfl rfl (by simp[kF,SV.sc,At.sc]) r fun ρ1 r1=>Sub.Dk 6 2 T.int 1 rfl rfl (by simp[kF,SV.sc,At.sc]) r1 fun ρ2 r2=>Sub.Dk 6 3 T.int 1 rfl rfl (by simp[kF,SV.sc,At.sc]) r2 fun ρ3 r3=>
   Sub.gn [] r3⟩
 rintro⟨k,w1⟩ ⟨hk,hw,hE⟩;dsimp only at hk hw hE ⊢;obtain⟨q1,q2,q3,q4⟩:=Rc k hk;refine dN.mk ?_ ?_<;>intro Oc
 ·have Oc:k<cols:=by simpa using Oc
  obtain⟨o,ho⟩:∃o,at_[k]? =some o:=⟨_,aA (by omega)⟩
  refine⟨by omega,Mc o,by rw[aF,aZ,aW,aM,ho];rfl,?_⟩
  cases o with
  |none=>
   refine⟨((k+1:Nat):Int),wo,?_⟩;have Pk:=me (s:=(E,at_,fr)) ho;have Qa:=tA (rv:=rv) ho;intro ρ3 w3 r3;exact⟨(k+1,w3),⟨Oc,hw.tr r3.cU,hE.rel r3 hS⟩,Sub.gn [] r3 ⟨by dsimp only;rw[Pk];rfl,by dsimp only;rw[Pk];rfl,by dsimp only;rw[Pk];rfl,by dsimp only;rw[Qa];rfl,rfl,rfl,rfl,rfl,rfl,trivial⟩,by dsimp only;omega⟩
  |some j=>
   have hj:j<E.length:=PF k j ho;obtain⟨vj,Sw⟩:∃v,rv[j]? =some v:=⟨_,aA (by omega)⟩
   have hvjd:rv.getD j (.bool false)=vj:=by rw[List.getD,Sw];rfl
   obtain⟨aj,cj,rfl⟩:=hE.form Sw;obtain⟨fj,TH⟩:∃v,fr[j]? =some v:=⟨_,aA (by omega)⟩
   have hfjd:fr.getD j 0=fj:=by rw[List.getD,TH];rfl
   have Pk:=mf (s:=(E,at_,fr)) ho;have Qa:=tB (rv:=rv) ho;dsimp only at Pk;rw[hvjd]at Qa;rw[hfjd]at Pk;refine jN hτ dx (.x 0 (.x 1 (.x 3 (.x 4 (.x 6 (.x 11 (.x 13 (.x 16 (.x 18 (.x 20 (.ld 2 4278223872 (.ld 5 4278224768 (.x 7 (.ld 8 4278224384 (.ld 12 4278222848 (.ld 17 4278190080 (.ld 19 4192206848 (.x 21 (.ld 22 4185915392 (.three 9 (.three 10 (.x 25 (.x 26 (.two 14 (.two 15 (.x 23 (.x 24 (.x 27 (.x 28 (.x 29 (.x 30 (.x 31 .nil))))))) 23 (.x 15 (.x 24 (.x 27 (.x 28 (.x 29 (.x 30 (.x 31 .nil)))))))) 23 (.x 14 (.x 15 (.x 24 (.x 27 (.x 28 (.x 29 (.x 30 (.x 31 .nil))))))))))) 14 (.two 10 (.x 25 (.x 26 (.two 15 (.x 23 (.x 24 (.x 27 (.x 28 (.x 29 (.x 30 (.x 31 .nil))))))) 23 (.x 15 (.x 24 (.x 27 (.x 28 (.x 29 (.x 30 (.x 31 .nil)))))))))) 23 (.x 10 (.x 25 (.x 26 (.x 15 (.x 24 (.x 27 (.x 28 (.x 29 (.x 30 (.x 31 .nil))))))))))) 23 (.two 10 (.x 25 (.x 26 (.x 14 (.x 15 (.x 24 (.x 27 (.x 28 (.x 29 (.x 30 (.x 31 .nil)))))))))) 14 (.x 10 (.x 25 (.x 26 (.x 15 (.x 24 (.x 27 (.x 28 (.x 29 (.x 30 (.x 31 .nil)))))))))))) 14 (.two 9 (.two 10 (.x 25 (.x 26 (.two 15 (.x 23 (.x 24 (.x 27 (.x 28 (.x 29 (.x 30 (.x 31 .nil))))))) 23 (.x 15 (.x 24 (.x 27 (.x 28 (.x 29 (.x 30 (.x 31 .nil)))))))))) 23 (.x 10 (.x 25 (.x 26 (.x 15 (.x 24 (.x 27 (.x 28 (.x 29 (.x 30 (.x 31 .nil))))))))))) 23 (.x 9 (.x 10 (.x 25 (.x 26 (.x 15 (.x 24 (.x 27 (.x 28 (.x 29 (.x 30 (.x 31 .nil)))))))))))) 23 (.two 9 (.two 10 (.x 25 (.x 26 (.x 14 (.x 15 (.x 24 (.x 27 (.x 28 (.x 29 (.x 30 (.x 31 .nil)))))))))) 14 (.x 10 (.x 25 (.x 26 (.x 15 (.x 24 (.x 27 (.x 28 (.x 29 (.x 30 (.x 31 .nil))))))))))) 14 (.x 9 (.x 10 (.x 25 (.x 26 (.x 15 (.x 24 (.x 27 (.x 28 (.x 29 (.x 30 (.x 31 .nil)))))))))))))))))))))))))))))))) (by kernel_rfl) (by kernel_rfl) ?_;refine⟨by simp,by omega,.slice aj n cj,by simpa using Sw,by simp,by omega,.int .i64 (fj:Int),by simp[TH],?_,?_,?_⟩
   ·refine⟨.int .i64 (fj:Int),by simp[TH],rfl,rfl,rfl,rfl,rfl,?_,?_,?_⟩
    ·refine .inl ?_;refine⟨by simp[q2,q3],by omega,by unfold maxLen;omega,.int .i64 (fj:Int),by simp[TH],rfl,rfl,rfl,rfl,?_,?_⟩
     ·refine⟨.int .i64 (fj:Int),by simp[TH],rfl,rfl,rfl,rfl,?_,?_⟩
      ·refine .inl ?_;refine⟨by simp[q2,q3],by omega,by unfold maxLen;omega,.int .i64 (fj:Int),by simp[TH],rfl,rfl,rfl,rfl,?_⟩;refine .inl ?_;refine⟨by simp[q2,q3],by omega,by unfold maxLen;omega,((k+1:Nat):Int),wo,?_⟩;intro ρ3 w3 r3;exact⟨(k+1,w3),⟨Oc,hw.tr r3.cU,hE.rel r3 hS⟩,Sub.gn [(7,11),(8,13),(9,15)] r3 ⟨by dsimp only;rw[Pk,List.length_append,List.length_singleton];rfl,by dsimp only;rw[Pk,List.map_append];rfl,by dsimp only;rw[Pk,List.map_append];rfl,by dsimp only;rw[Qa];rfl,rfl,rfl,rfl,rfl,rfl,trivial⟩,by dsimp only;omega⟩
      ·refine⟨rfl,rfl,?_⟩;refine .inl ?_;refine⟨by simp[q2,q3],by omega,by unfold maxLen;omega,rfl,?_⟩;refine .inl ?_;refine⟨by simp[q2,q3],by omega,by unfold maxLen;omega,((k+1:Nat):Int),wo,?_⟩;intro ρ3 w3 r3;exact⟨(k+1,w3),⟨Oc,hw.tr r3.cU,hE.rel r3 hS⟩,Sub.gn [(7,11),(8,14),(9,15)] r3 ⟨by dsimp only;rw[Pk,List.length_append,List.length_singleton];rfl,by dsimp only;rw[Pk,List.map_append];rfl,by dsimp only;rw[Pk,List.map_append];rfl,by dsimp only;rw[Qa];rfl,rfl,rfl,rfl,rfl,rfl,trivial⟩,by dsimp only;omega⟩
     ·refine⟨rfl,rfl,rfl,rfl,?_⟩;refine .inl ?_;refine⟨by simp[q2,q3],by omega,by unfold maxLen;omega,rfl,?_⟩;refine .inl ?_;refine⟨by simp[q2,q3],by omega,by unfold maxLen;omega,((k+1:Nat):Int),wo,?_⟩;intro ρ3 w3 r3;exact⟨(k+1,w3),⟨Oc,hw.tr r3.cU,hE.rel r3 hS⟩,Sub.gn [(7,11),(8,14),(9,15)] r3 ⟨by dsimp only;rw[Pk,List.length_append,List.length_singleton];rfl,by dsimp only;rw[Pk,List.map_append];rfl,by dsimp only;rw[Pk,List.map_append];rfl,by dsimp only;rw[Qa];rfl,rfl,rfl,rfl,rfl,rfl,trivial⟩,by dsimp only;omega⟩
    ·refine⟨.int .i64 (fj:Int),by simp[TH],rfl,rfl,rfl,rfl,rfl,?_,?_⟩
     ·refine .inl ?_;refine⟨by simp[q2,q3],by omega,by unfold maxLen;omega,.int .i64 (fj:Int),by simp[TH],rfl,rfl,rfl,rfl,?_,?_⟩
      ·refine .inl ?_;refine⟨by simp[q2,q3],by omega,by unfold maxLen;omega,.int .i64 (fj:Int),by simp[TH],rfl,rfl,rfl,rfl,?_⟩;refine .inl ?_;refine⟨by simp[q2,q3],by omega,by unfold maxLen;omega,((k+1:Nat):Int),wo,?_⟩;intro ρ3 w3 r3;exact⟨(k+1,w3),⟨Oc,hw.tr r3.cU,hE.rel r3 hS⟩,Sub.gn [(7,12),(8,13),(9,15)] r3 ⟨by dsimp only;rw[Pk,List.length_append,List.length_singleton];rfl,by dsimp only;rw[Pk,List.map_append];rfl,by dsimp only;rw[Pk,List.map_append];rfl,by dsimp only;rw[Qa];rfl,rfl,rfl,rfl,rfl,rfl,trivial⟩,by dsimp only;omega⟩
      ·refine⟨rfl,rfl,?_⟩;refine .inl ?_;refine⟨by simp[q2,q3],by omega,by unfold maxLen;omega,rfl,?_⟩;refine .inl ?_;refine⟨by simp[q2,q3],by omega,by unfold maxLen;omega,((k+1:Nat):Int),wo,?_⟩;intro ρ3 w3 r3;exact⟨(k+1,w3),⟨Oc,hw.tr r3.cU,hE.rel r3 hS⟩,Sub.gn [(7,12),(8,14),(9,15)] r3 ⟨by dsimp only;rw[Pk,List.length_append,List.length_singleton];rfl,by dsimp only;rw[Pk,List.map_append];rfl,by dsimp only;rw[Pk,List.map_append];rfl,by dsimp only;rw[Qa];rfl,rfl,rfl,rfl,rfl,rfl,trivial⟩,by dsimp only;omega⟩
     ·refine⟨rfl,rfl,rfl,?_⟩;refine .inl ?_;refine⟨by simp[q2,q3],by omega,by unfold maxLen;omega,rfl,rfl,?_⟩;refine .inl ?_;refine⟨by simp[q2,q3],by omega,by unfold maxLen;omega,rfl,?_⟩;refine .inl ?_;refine⟨by simp[q2,q3],by omega,by unfold maxLen;omega,((k+1:Nat):Int),wo,?_⟩;intro ρ3 w3 r3;exact⟨(k+1,w3),⟨Oc,hw.tr r3.cU,hE.rel r3 hS⟩,Sub.gn [(7,13),(8,14),(9,15)] r3 ⟨by dsimp only;rw[Pk,List.length_append,List.length_singleton];rfl,by dsimp only;rw[Pk,List.map_append];rfl,by dsimp only;rw[Pk,List.map_append];rfl,by dsimp only;rw[Qa];rfl,rfl,rfl,rfl,rfl,rfl,trivial⟩,by dsimp only;omega⟩
    ·refine⟨rfl,rfl,rfl,?_,?_⟩
     ·refine .inl ?_;refine⟨by simp[q2,q3],by omega,by unfold maxLen;omega,rfl,rfl,rfl,rfl,?_⟩;refine .inl ?_;refine⟨by simp[q2,q3],by omega,by unfold maxLen;omega,rfl,?_⟩;refine .inl ?_;refine⟨by simp[q2,q3],by omega,by unfold maxLen;omega,((k+1:Nat):Int),wo,?_⟩;intro ρ3 w3 r3;exact⟨(k+1,w3),⟨Oc,hw.tr r3.cU,hE.rel r3 hS⟩,Sub.gn [(7,12),(8,14),(9,15)] r3 ⟨by dsimp only;rw[Pk,List.length_append,List.length_singleton];rfl,by dsimp only;rw[Pk,List.map_append];rfl,by dsimp only;rw[Pk,List.map_append];rfl,by dsimp only;rw[Qa];rfl,rfl,rfl,rfl,rfl,rfl,trivial⟩,by dsimp only;omega⟩
     ·refine⟨rfl,rfl,rfl,?_⟩;refine .inl ?_;refine⟨by simp[q2,q3],by omega,by unfold maxLen;omega,rfl,rfl,?_⟩;refine .inl ?_;refine⟨by simp[q2,q3],by omega,by unfold maxLen;omega,rfl,?_⟩;refine .inl ?_;refine⟨by simp[q2,q3],by omega,by unfold maxLen;omega,((k+1:Nat):Int),wo,?_⟩;intro ρ3 w3 r3;exact⟨(k+1,w3),⟨Oc,hw.tr r3.cU,hE.rel r3 hS⟩,Sub.gn [(7,13),(8,14),(9,15)] r3 ⟨by dsimp only;rw[Pk,List.length_append,List.length_singleton];rfl,by dsimp only;rw[Pk,List.map_append];rfl,by dsimp only;rw[Pk,List.map_append];rfl,by dsimp only;rw[Qa];rfl,rfl,rfl,rfl,rfl,rfl,trivial⟩,by dsimp only;omega⟩
   ·refine⟨.int .i64 (fj:Int),by simp[TH],rfl,rfl,rfl,rfl,.slice aj n cj,by simpa using Sw,rfl,rfl,rfl,?_,?_⟩
    ·refine⟨.int .i64 (fj:Int),by simp[TH],rfl,rfl,rfl,rfl,rfl,?_,?_⟩
     ·refine .inl ?_;refine⟨by simp[q2,q3],by omega,by unfold maxLen;omega,.int .i64 (fj:Int),by simp[TH],rfl,rfl,rfl,rfl,?_,?_⟩
      ·refine .inl ?_;refine⟨by simp[q2,q3],by omega,by unfold maxLen;omega,.int .i64 (fj:Int),by simp[TH],rfl,rfl,rfl,rfl,?_⟩;refine .inl ?_;refine⟨by simp[q2,q3],by omega,by unfold maxLen;omega,((k+1:Nat):Int),wo,?_⟩;intro ρ3 w3 r3;exact⟨(k+1,w3),⟨Oc,hw.tr r3.cU,hE.rel r3 hS⟩,Sub.gn [(7,12),(8,13),(9,15)] r3 ⟨by dsimp only;rw[Pk,List.length_append,List.length_singleton];rfl,by dsimp only;rw[Pk,List.map_append];rfl,by dsimp only;rw[Pk,List.map_append];rfl,by dsimp only;rw[Qa];rfl,rfl,rfl,rfl,rfl,rfl,trivial⟩,by dsimp only;omega⟩
      ·refine⟨rfl,rfl,?_⟩;refine .inl ?_;refine⟨by simp[q2,q3],by omega,by unfold maxLen;omega,rfl,?_⟩;refine .inl ?_;refine⟨by simp[q2,q3],by omega,by unfold maxLen;omega,((k+1:Nat):Int),wo,?_⟩;intro ρ3 w3 r3;exact⟨(k+1,w3),⟨Oc,hw.tr r3.cU,hE.rel r3 hS⟩,Sub.gn [(7,12),(8,14),(9,15)] r3 ⟨by dsimp only;rw[Pk,List.length_append,List.length_singleton];rfl,by dsimp only;rw[Pk,List.map_append];rfl,by dsimp only;rw[Pk,List.map_append];rfl,by dsimp only;rw[Qa];rfl,rfl,rfl,rfl,rfl,rfl,trivial⟩,by dsimp only;omega⟩
     ·refine⟨rfl,rfl,rfl,?_⟩;refine .inl ?_;refine⟨by simp[q2,q3],by omega,by unfold maxLen;omega,rfl,rfl,?_⟩;refine .inl ?_;refine⟨by simp[q2,q3],by omega,by unfold maxLen;omega,rfl,?_⟩;refine .inl ?_;refine⟨by simp[q2,q3],by omega,by unfold maxLen;omega,((k+1:Nat):Int),wo,?_⟩;intro ρ3 w3 r3;exact⟨(k+1,w3),⟨Oc,hw.tr r3.cU,hE.rel r3 hS⟩,Sub.gn [(7,13),(8,14),(9,15)] r3 ⟨by dsimp only;rw[Pk,List.length_append,List.length_singleton];rfl,by dsimp only;rw[Pk,List.map_append];rfl,by dsimp only;rw[Pk,List.map_append];rfl,by dsimp only;rw[Qa];rfl,rfl,rfl,rfl,rfl,rfl,trivial⟩,by dsimp only;omega⟩
    ·refine⟨rfl,rfl,.slice aj n cj,by simpa using Sw,rfl,rfl,rfl,rfl,rfl,rfl,?_⟩;refine .inl ?_;refine⟨by simp[q2,q3],by omega,by unfold maxLen;omega,rfl,rfl,?_⟩;refine .inl ?_;refine⟨by simp[q2,q3],by omega,by unfold maxLen;omega,rfl,?_⟩;refine .inl ?_;refine⟨by simp[q2,q3],by omega,by unfold maxLen;omega,((k+1:Nat):Int),wo,?_⟩;intro ρ3 w3 r3;exact⟨(k+1,w3),⟨Oc,hw.tr r3.cU,hE.rel r3 hS⟩,Sub.gn [(7,13),(8,14),(9,15)] r3 ⟨by dsimp only;rw[Pk,List.length_append,List.length_singleton];rfl,by dsimp only;rw[Pk,List.map_append];rfl,by dsimp only;rw[Pk,List.map_append];rfl,by dsimp only;rw[Qa];rfl,rfl,rfl,rfl,rfl,rfl,trivial⟩,by dsimp only;omega⟩
   ·refine⟨rfl,rfl,.slice aj n cj,by simpa using Sw,rfl,rfl,rfl,?_,?_⟩
    ·refine⟨rfl,rfl,rfl,?_,?_⟩
     ·refine .inl ?_;refine⟨by simp[q2,q3],by omega,by unfold maxLen;omega,rfl,rfl,rfl,rfl,?_⟩;refine .inl ?_;refine⟨by simp[q2,q3],by omega,by unfold maxLen;omega,rfl,?_⟩;refine .inl ?_;refine⟨by simp[q2,q3],by omega,by unfold maxLen;omega,((k+1:Nat):Int),wo,?_⟩;intro ρ3 w3 r3;exact⟨(k+1,w3),⟨Oc,hw.tr r3.cU,hE.rel r3 hS⟩,Sub.gn [(7,12),(8,14),(9,15)] r3 ⟨by dsimp only;rw[Pk,List.length_append,List.length_singleton];rfl,by dsimp only;rw[Pk,List.map_append];rfl,by dsimp only;rw[Pk,List.map_append];rfl,by dsimp only;rw[Qa];rfl,rfl,rfl,rfl,rfl,rfl,trivial⟩,by dsimp only;omega⟩
     ·refine⟨rfl,rfl,rfl,?_⟩;refine .inl ?_;refine⟨by simp[q2,q3],by omega,by unfold maxLen;omega,rfl,rfl,?_⟩;refine .inl ?_;refine⟨by simp[q2,q3],by omega,by unfold maxLen;omega,rfl,?_⟩;refine .inl ?_;refine⟨by simp[q2,q3],by omega,by unfold maxLen;omega,((k+1:Nat):Int),wo,?_⟩;intro ρ3 w3 r3;exact⟨(k+1,w3),⟨Oc,hw.tr r3.cU,hE.rel r3 hS⟩,Sub.gn [(7,13),(8,14),(9,15)] r3 ⟨by dsimp only;rw[Pk,List.length_append,List.length_singleton];rfl,by dsimp only;rw[Pk,List.map_append];rfl,by dsimp only;rw[Pk,List.map_append];rfl,by dsimp only;rw[Qa];rfl,rfl,rfl,rfl,rfl,rfl,trivial⟩,by dsimp only;omega⟩
    ·refine⟨rfl,rfl,.slice aj n cj,by simpa using Sw,rfl,rfl,rfl,rfl,rfl,rfl,?_⟩;refine .inl ?_;refine⟨by simp[q2,q3],by omega,by unfold maxLen;omega,rfl,rfl,?_⟩;refine .inl ?_;refine⟨by simp[q2,q3],by omega,by unfold maxLen;omega,rfl,?_⟩;refine .inl ?_;refine⟨by simp[q2,q3],by omega,by unfold maxLen;omega,((k+1:Nat):Int),wo,?_⟩;intro ρ3 w3 r3;exact⟨(k+1,w3),⟨Oc,hw.tr r3.cU,hE.rel r3 hS⟩,Sub.gn [(7,13),(8,14),(9,15)] r3 ⟨by dsimp only;rw[Pk,List.length_append,List.length_singleton];rfl,by dsimp only;rw[Pk,List.map_append];rfl,by dsimp only;rw[Pk,List.map_append];rfl,by dsimp only;rw[Qa];rfl,rfl,rfl,rfl,rfl,rfl,trivial⟩,by dsimp only;omega⟩
 have Oc:k=cols:=aU hk (by simpa using Oc);subst Oc;intro ρe we re;have Po:∀u∈ku rv at_ k,u.oneCell'=true:=fun u hu=>by
  obtain⟨i,hi⟩:=aN hu;obtain⟨x,hx⟩:∃x,(dL (E,at_,fr) k).1[i]? =some x:=⟨_,aA (by have:=(aE.1 hi).1;omega)⟩
  obtain⟨r,h1,h2⟩:=Ap Pm PF k (by omega) i u x hi hx;obtain⟨a,c,rfl⟩:=hE.form h1;rfl
 have h7:=re.iD (id:=7) (sz:=1) (m:=(dL (E,at_,fr) k).2.1.length) rfl (by simp[q3]) (by unfold maxLen;omega) (by decide) Po;have h8:=re.iD (id:=8) (sz:=1) (m:=(dL (E,at_,fr) k).2.1.length) rfl (by simp) (by unfold maxLen;omega) (by decide) (fun u hu=>by obtain⟨c,_,rfl⟩:=aV.1 hu;rfl);have h9:=re.iD (id:=9) (sz:=1) (m:=(dL (E,at_,fr) k).2.1.length) rfl (by simp[q2]) (by unfold maxLen;omega) (by decide) (fun u hu=>by obtain⟨c,_,rfl⟩:=aV.1 hu;rfl);have PB:=hE.rel re hS;rw[hredS];refine⟨_,rfl,hw.tr re.cU,_,_,_,rfl,⟨ku rv at_ k,?_,by omega,fun i u x k1 k2=>?_⟩,?_,?_⟩
 ·rw[q1];exact h7.cL fun g hg=>.inr hg
 ·obtain⟨r,h1,h2⟩:=Ap Pm PF k (by omega) i u x k1 k2;refine((PB.row r u x h1 h2).read.cL (S':=Nw S w we) (C':=Nw S w we) (fun g hg=>?_) fun g hg=>Cv.nw hg.1 re).c;exact Cv.nw (EP (PB.new g ⟨u,aD h1,hg⟩)) re
 ·exact h8.cL fun g hg=>.inr hg
 ·show iR we _ 1 _ _ (dL (E,at_,fr) k).2.2.length;rw[q2];exact h9.cL fun g hg=>.inr hg
end Go.Ex
