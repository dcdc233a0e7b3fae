/- A part of the proof: texts XTg to X134. Each tells its conditions in its theorems. -/
import Derived.Test.YtkdcaknoaeicdaaGreatP9
namespace Go.Ex
open Go Go.Sx Go.Proofs
variable{a:Act}{K next:Act->World->Prop}{la lx:Array Bool}{I:Array Bool->World->Prop}{Q:Exit->Act->World->Prop}{E M:List (List Rat)}{at_:List (Option Nat)}{fr:List Nat}{r row u y:List Rat}{rv:List Value}{b cols i j:Nat}{C S S0:Nat->Prop}{oi:Oper}{X:Sem Next}{v:Value}{w:World}{Y:World->Prop}{s:vz}
section
variable{P:Program}{ops:Array Oper}{Q:Exit->Act->World->Prop}{md:Region.Mode}
theorem HQ{oj:Oper}(hj:ops[j]? =some oj)(hap:oi.apart ops oj=true)
  (hsi:∀cs b,oi.op≠ .select cs b) (hsj:∀cs b,oj.op≠ .select cs b)
  (hQ:∀c a w,Q (.panic c) (a.put oi.dst v) w->Q (.panic c) a w)
  (hy:Region.wanted oi (yielded ops a.tmps)=true∧execOp a.eval oi=X) (h:wpOp P ops Q j K (a.put oi.dst v) w):
  wpOp P ops Q j (fun a' w'=>(Region.wanted oi (yielded ops a'.tmps)=true∧execOp a'.eval oi=X)∧K (a'.put oi.dst v) w') a w:=by
 obtain⟨h1,h2,h3⟩:=Oper.apart_spec hap;have cG:∀(a:Act),(Region.wanted oi (yielded ops a.tmps)=true∧execOp a.eval oi=X)->∀u,(Region.wanted oi (yielded ops (a.put oj.dst u).tmps)=true∧execOp (a.put oj.dst u).eval oi=X):=fun a hy u=>
  ⟨(wanted_put oi a oj.dst u h3).trans hy.1,(execOp_put oi hsi a oj.dst u h3).trans hy.2⟩
 have keepD:∀d:Deferred,(Region.wanted oi (yielded ops ({a with defers:=d::a.defers}:Act).tmps)=true∧execOp ({a with defers:=d::a.defers}:Act).eval oi=X):=fun d=>hy;unfold wpOp at*
 simp only[hj]at*
 rw[wanted_put oj a oi.dst v h1]at h;split
 ·rename_i hw;simp only[hw,if_true]at h;rcases h with h|⟨hasks,hlets⟩
  case inr=>exact .inr ⟨by unfold Oper.asks at *;rw[execOp_put oj hsj a oi.dst v h1]at hasks;exact hasks,hlets⟩
  refine .inl ?_;unfold Oper.wp at*
  rw[execOp_put oj hsj a oi.dst v h1]at h;generalize (execOp a.eval oj).run P w=r at*
  cases r with
  |ok n w'=>
   cases n<;>simp only[Oper.upon]at h ⊢
   case value u=>exact⟨cG a hy u,by rw[<-Act.put_comm a v u h2];exact h⟩
   case skip=>exact⟨cG a hy _,by rw[<-Act.put_comm a v undef h2];exact h⟩
   case defer d=>
    refine⟨cG ({a with defers:=d::a.defers}:Act) (keepD d) undef,?_⟩;rw[<-Act.put_comm _ v undef h2,<-Act.put_defers];exact h
   case enter f args=>
    refine Calls.mono h fun e w'' he=>?_
    cases e with
    |returned u=>exact⟨cG a hy u,by rw[<-Act.put_comm a v u h2];exact he⟩
    |panicked c=>exact hQ _ _ _ he
    |outgrown=>exact he
   case row row args=>exact Rows.mono h fun u w'' he=>⟨cG a hy u,by rw[<-Act.put_comm a v u h2];exact he⟩
  |halt x w'=>
   cases x<;>simp only[Oper.upon]at h ⊢
   case panic u=>exact hQ _ _ _ h
 ·rename_i hw;simp only[hw]at h;exact⟨cG a hy _,by rw[<-Act.put_comm a v undef h2];exact h⟩
def pe(P:Program)(md:Region.Mode)(ops:Array Oper)(Q:Exit->Act->World->Prop)(I:Array Bool->World->Prop):Nat->Array Bool->Act->World->Prop
 |0,lx,a,w=>I lx w∧Region.ready md ops lx=[]∧Q .normal a w
 |fuel+1,lx,a,w=>I lx w∧(Region.ready md ops lx=[]->Q .normal a w)∧∀i∈Region.ready md ops lx,wpOp P ops Q i (fun a' w'=>pe P md ops Q I fuel (lx.setIfInBounds i true) a' w') a w
theorem z6{I:Array Bool->World->Prop}:∀(fuel:Nat) (lx:Array Bool) (a:Act) (w:World),pe P md ops Q I fuel lx a w->wpAny P md ops Q fuel lx a w
 |0,_,_,_,h=>h.2
 |fuel+1,_,_,_,h=>⟨h.2.1,fun i hi=>wpOp_mono (fun _ _ h'=>z6 fuel _ _ _ h') (h.2.2 i hi)⟩
theorem jm{I J:Array Bool->World->Prop}(hIJ:∀lx w,I lx w->J lx w):∀(fuel:Nat) (lx:Array Bool) (a:Act) (w:World),pe P md ops Q I fuel lx a w->pe P md ops Q J fuel lx a w
 |0,_,_,_,h=>⟨hIJ _ _ h.1,h.2⟩
 |fuel+1,_,_,_,h=>⟨hIJ _ _ h.1,h.2.1,fun i hi=>wpOp_mono (fun _ _ h'=>jm hIJ fuel _ _ _ h') (h.2.2 i hi)⟩
theorem ED(hI:I lx w)(hr:Region.ready md ops lx=[])(h:Q .normal a w):∀fuel,pe P md ops Q I fuel lx a w
 |0=>⟨hI,hr,h⟩
 |_+1=>⟨hI,fun _=>h,by rw[hr];simp⟩
def mJ(ops:Array Oper)(b:Nat)(lx:Array Bool):Prop:=∀(k:Nat) o,tb b k=true->ops[k]? =some o->tm o.op=false->lx.getD k false=false
theorem ix(hi:ops[i]? =some oi)(hR:tm oi.op=true):mJ ops b (lx.setIfInBounds i true)↔mJ ops b lx:=by
 have key:∀(k:Nat) o,ops[k]? =some o->tm o.op=false->(lx.setIfInBounds i true).getD k false=lx.getD k false:=fun k o ho hr=>by
  have:i≠k:=fun e=>by subst e;rw[hi]at ho;injection ho with ho;subst ho;rw[hR]at hr;cases hr
  exact getD_set_ne false this
 exact⟨fun h k o h1 h2 h3=>by rw[<-key k o h2 h3];exact h k o h1 h2 h3,fun h k o h1 h2 h3=>by rw[key k o h2 h3];exact h k o h1 h2 h3⟩
theorem th(hi:ops[i]? =some oi)(hR:tm oi.op=true)(hsel:∀(j:Nat) (o:Oper) cs b,ops[j]? =some o->o.op≠ .select cs b)
  (hQ:∀c a w,Q (.panic c) (a.put oi.dst v) w->Q (.panic c) a w) (hblk:∀j,tb b j=true->∃oj e,ops[j]? =some oj∧e∈oj.after∧Region.binds md e=true∧(e.on=i∨tb b e.on=true))
  (hY:∀w,Y w->X.run P w= .ok (.value v) w) (hI:∀lx w,I (lx.setIfInBounds i true) w->I lx w):
  ∀(fuel:Nat) (lx:Array Bool) (a:Act) (w:World),(∀j,tb b j=true->lx.getD j false=false)->
   (∀j oj,ops[j]? =some oj->j≠i->lx.getD j true=false->tb b j=false->oi.apart ops oj=true)->
   i∈Region.ready md ops lx->(Region.wanted oi (yielded ops a.tmps)=true∧execOp a.eval oi=X)->
   pe P md ops Q (fun lx w=>I lx w∧(mJ ops b lx->Y w)) fuel (lx.setIfInBounds i true) (a.put oi.dst v) w->pe P md ops Q I (fuel+1) lx a w:=by
 intro fuel;have run:∀(lx:Array Bool) (a:Act) (w:World),(∀j,tb b j=true->lx.getD j false=false)->(Region.wanted oi (yielded ops a.tmps)=true∧execOp a.eval oi=X)->(I (lx.setIfInBounds i true) w∧(mJ ops b (lx.setIfInBounds i true)->Y w))->
   ∀K:Act->World->Prop,K (a.put oi.dst v) w->wpOp P ops Q i K a w:=fun lx a w hbl hy hH K hK=>by
  have hYw:=hH.2 ((ix hi hR).2 fun k o h1 _ _=>hbl k h1);unfold wpOp;simp only[hi,hy.1,if_true]
  refine .inl ?_;unfold Oper.wp;rw[hy.2,hY w hYw];exact hK
 induction fuel with
 |zero=>
  intro lx a w hbl _ hr hy H;refine⟨hI _ _ H.1.1,fun h=>(by rw[h]at hr;cases hr),fun j hj=>?_⟩;by_cases hji:j=i
  ·subst hji;exact run lx a w hbl hy H.1 _ (jm (fun _ _ h=>h.1) 0 _ _ _ H)
  ·have:=ready_mono hj hji;rw[H.2.1]at this
   cases this
 |succ fuel ih=>
  intro lx a w hbl hfree hr hy H;refine⟨hI _ _ H.1.1,fun h=>(by rw[h]at hr;cases hr),fun j hj=>?_⟩;by_cases hji:j=i
  ·subst hji;exact run lx a w hbl hy H.1 _ (jm (fun _ _ h=>h.1) (fuel+1) _ _ _ H)
  ·have h1:=H.2.2 j (ready_mono hj hji);obtain⟨hjun,oj,hoj,hall⟩:=mem_ready.1 hj;have hnot:tb b j=false:=by
    cases hb:tb b j with
    |false=>rfl
    |true=>
     exfalso;obtain⟨oj',e,ho',he,hbi,hor⟩:=hblk j hb;rw[hoj]at ho';injection ho' with ho';subst ho';have h1:=hall e he hbi;rcases hor with heq|hb2
     ·have h0:=(mem_ready.1 hr).1;rw[heq]at h1;rcases aQ i lx.size with h'|h'
      ·simp[h']at h0 h1;rw[h0]at h1;cases h1
      ·simp[Array.getElem?_eq_none h']at h1
     ·rw[hbl _ hb2]at h1;cases h1
   have h2:=HQ hoj (hfree j oj hoj hji hjun hnot) (fun cs b=>hsel i oi cs b hi) (fun cs b=>hsel j oj cs b hoj) hQ hy h1;have hbl':∀k,tb b k=true->(lx.setIfInBounds j true).getD k false=false:=fun k hk=>by
    rw[getD_set_ne false (fun e=>(by subst e;rw[hnot]at hk;cases hk))];exact hbl k hk
   have hfree':∀k ok,ops[k]? =some ok->k≠i->(lx.setIfInBounds j true).getD k true=false->tb b k=false->oi.apart ops ok=true:=fun k ok hk hki hun hno=>by
    refine hfree k ok hk hki ?_ hno;by_cases hjk:j=k
    ·subst hjk;exact hjun
    ·rw[getD_set_ne true hjk]at hun;exact hun
   refine wpOp_mono (fun a' w' h3=>?_) h2;refine ih (lx.setIfInBounds j true) a' w' hbl' hfree' (ready_mono hr (Ne.symm hji)) h3.1 ?_;rw[Array.setIfInBounds_comm _ _ hji];exact h3.2
end
structure Gh where
 u:Nat
 d:Nat
 T:Nat
 b:Nat
def C1(τ:mL)(B:Nat):List Gh->Env->Hp->Nat->Iv->World->Prop->Prop
 |[],_,_,_,_,_,K=>K
 |g::r,l,H,nx,iv,w,K=>match fF l g.u with
  |some su=>AX τ B g.T su H nx iv w (fun v=>fF l g.d=some v∧C1 τ B r l H nx iv w K)
  |none=>False
inductive Tg where
 |nil
 |x (i:Nat) (t:Tg)
 |two (i:Nat) (t:Tg) (j:Nat) (u:Tg)
 |three (i:Nat) (t:Tg) (j:Nat) (u:Tg) (k:Nat) (v:Tg)
 |ld (i b:Nat) (t:Tg)
 |oN (id:Nat) (t:Tg)
def BR(j:Nat):List Gh->List Gh
 |[]=>[]
 |g::r=>match tb g.b j with
  |true=>BR j r
  |false=>g::BR j r
def stepG(τ:mL)(B:Nat)(rd:Bool)(G:List Gh)(j:Nat)(l:Env)(H:Hp)(nx:Nat)(iv:Iv)(w:World)(K:List Gh->Prop):Prop:=match rd with
 |true=>K G
 |false=>C1 τ B (BR j G) l H nx iv w (K (BR j G))
def EF(ops:Array Oper)(m i:Nat)(oi:Oper)(b:Nat):List Oper->Nat->Bool
 |[],_=>true
 |oj::r,j=>(Nat.beq j i||tb m j||tb b j||oi.apart ops oj)&&EF ops m i oi b r (j+1)
def GK(m i u d:Nat):List Oper->Nat->Bool
 |[],_=>true
 |oj::r,j=>(tb m j||match oj.dst with
   |none=>true
   |some e=> !Nat.beq e u&&(Nat.beq j i|| !Nat.beq e d))&&GK m i u d r (j+1)
def JV(o:Oper):Option (Nat×Nat×Nat):=match o with
 |⟨some d,.load T (.tmp u),_,_,_,none⟩=>some (d,T,u)
 |_=>none
def lD(ops:Array Oper):Tg->Array Bool->Bool
 | .nil,lx=>(Region.ready .any ops lx).isEmpty
 | .x i t,lx=>match ops[i]? with
  |none=>false
  |some o=>(Region.ready .any ops lx).contains i&&((Region.ready .any ops lx).all (fun j=>Nat.beq j i)||GM o.op&&o.guard.isNone&&EF ops (hJ lx.toList 0) i o (zc (hJ lx.toList 0) i ops.toList 0 0) ops.toList 0)&&lD ops t (lx.setIfInBounds i true)
 | .two i t j u,lx=>match Region.ready .any ops lx with
  |[a,b]=>Nat.beq a i&&(Nat.beq b j&&(lD ops t (lx.setIfInBounds i true)&&lD ops u (lx.setIfInBounds j true)))
  |_=>false
 | .three i t j u k v,lx=>match Region.ready .any ops lx with
  |[a,b,c]=>Nat.beq a i&&(Nat.beq b j&&(Nat.beq c k&&(lD ops t (lx.setIfInBounds i true)&&(lD ops u (lx.setIfInBounds j true)&&lD ops v (lx.setIfInBounds k true)))))
  |_=>false
 | .ld i b t,lx=>match ops[i]? with
  |none=>false
  |some o=>match JV o with
   |none=>false
   |some (d,_,u)=>(Region.ready .any ops lx).contains i&&Nat.beq b (zc (hJ lx.toList 0) i ops.toList 0 0)&&EF ops (hJ lx.toList 0) i o b ops.toList 0&&GK (hJ lx.toList 0) i u d ops.toList 0&&lD ops t (lx.setIfInBounds i true)
 | .oN _ t,lx=>lD ops t lx
def AO(P:Program)(τ:mL)(B:Nat)(all:List Oper):Tg->List Gh->Env->Hp->Nat->Iv->World->KT->Prop
 | .nil,_,l,H,nx,iv,w,K=>K l H nx iv w
 | .x i t,G,l,H,nx,iv,w,K=>qv all i (fun o=>gT (!fV o) P τ B all o l H nx iv w (fun l' H' nx' iv' w'=>stepG τ B (tm o.op) G i l' H' nx' iv' w' (fun G'=>AO P τ B all t G' l' H' nx' iv' w' K)))
 | .two i t j u,G,l,H,nx,iv,w,K=>qv all i (fun o=>gT (!fV o) P τ B all o l H nx iv w (fun l' H' nx' iv' w'=>stepG τ B (tm o.op) G i l' H' nx' iv' w' (fun G'=>AO P τ B all t G' l' H' nx' iv' w' K)))∧
   qv all j (fun o=>gT (!fV o) P τ B all o l H nx iv w (fun l' H' nx' iv' w'=>stepG τ B (tm o.op) G j l' H' nx' iv' w' (fun G'=>AO P τ B all u G' l' H' nx' iv' w' K)))
 | .three i t j u k v,G,l,H,nx,iv,w,K=>qv all i (fun o=>gT (!fV o) P τ B all o l H nx iv w (fun l' H' nx' iv' w'=>stepG τ B (tm o.op) G i l' H' nx' iv' w' (fun G'=>AO P τ B all t G' l' H' nx' iv' w' K)))∧
   (qv all j (fun o=>gT (!fV o) P τ B all o l H nx iv w (fun l' H' nx' iv' w'=>stepG τ B (tm o.op) G j l' H' nx' iv' w' (fun G'=>AO P τ B all u G' l' H' nx' iv' w' K)))∧
   qv all k (fun o=>gT (!fV o) P τ B all o l H nx iv w (fun l' H' nx' iv' w'=>stepG τ B (tm o.op) G k l' H' nx' iv' w' (fun G'=>AO P τ B all v G' l' H' nx' iv' w' K))))
 | .ld i b t,G,l,H,nx,iv,w,K=>qv all i (fun o=>match JV o with
  |some (d,T,u)=>match fF l u with
   |some su=>AX τ B T su H nx iv w (fun v=>AO P τ B all t (⟨u,d,T,b⟩::G) ((d,v)::l) H nx iv w K)
   |none=>False
  |none=>False)
 | .oN id t,G,l,H,nx,iv,w,K=>∃H' b,dA H id=some b∧b≠ .dead∧vq H H'∧Ci id H'=true∧∀O w',Rel H nx iv B w O w'->(O id).nil=false∧∃l',(∀u v,fF l' u=some v->v.sc nx∧∃v',fF l u=some v'∧v'.den O=v.den O)∧AO P τ B all t G l' H' nx (((O id).g,(O id).g+1)::iv) w' K
section
variable{P:Program}{τ:mL}{ops:Array Oper}{B n nx:Nat}{l:Env}{H:Hp}{iv:Iv}{w w':World}{O:Nat->Sx.df}{a:Act}
theorem MQ(hτ:fG P τ){o:Oper}(ho:ops[i]? =some o)(hd:∀d,o.dst=some d->d<n){K:KT}
  (h1:gT (!fV o) P τ B ops.toList o l H nx iv w K) (sat:Sat n l H nx iv B w O a w')
  (hn:∀l' H' nx' iv' w2 ρ' x w3,K l' H' nx' iv' w2->Sat n l' H' nx' iv' B w2 ρ' (a.put o.dst x) w3->(tm o.op=true->w3=w')->next (a.put o.dst x) w3):
  wpOp P ops Q i next a w':=by
 unfold gT at h1;refine oT ho ?_;rcases kE sat h1 with⟨hw,l1,h2,sat1⟩|⟨hw,l1,h2,sat1⟩
 ·refine .inl ⟨hw,?_⟩
  cases hR:tm o.op with
  |true=>
   obtain⟨v,hK,hvs,hrun⟩:=(lG hτ h2 sat1 hR).resolve_right (fun hh=>by have:=hh.1;rw[rA hR]at this;cases this);obtain⟨l2,h3,sat2⟩:=gj sat1 hK hd hvs;exact ll (hrun w' (.inr sat1.rel)) (hn _ _ _ _ _ _ _ _ h3 sat2 fun _=>rfl)
  |false=>
   have nr:∀w3:World,tm o.op=true->w3=w':=fun w3 h=>by rw[hR]at h;cases h
   cases hA:JX o.op with
   |true=>
    obtain⟨b,v,mk,obj,hK,hbd,hb,hv,hmk,hfit,hal⟩:=mo hτ h2 sat1 hA;have hrel:Rel ((nx,b)::H) (nx+1) iv B w (Sx.gI O nx ⟨w'.heap.size,0,false⟩) (w'.alloc obj):=
     sat1.rel.push b _ rfl rfl rfl (by simp) (fun k hk=>heap_alloc_old _ _ hk) (fun _=>⟨aG _,by simp⟩) (hfit _ _ (heap_alloc_new _ _)) hb
    obtain⟨l2,h3,sat2⟩:=gj (sat1.next hrel (Nat.le_succ _) (fun id hid=>gJ id hid)) hK hd hv;rw[hmk]at sat2;exact ll (v:=mk w'.heap.size) (w2:=w'.alloc obj) (hal w') (hn _ _ _ _ _ _ _ _ h3 sat2 (by rw[hR];exact fun h=>by cases h))
   |false=>
    cases hH:qO o with
    |false=>
     rw[qW hH]at h2;refine xQ h2 sat1 hR hA hH fun v w2 hK he hs=>?_;obtain⟨l2,h3,sat2⟩:=gj (v:=.o (.v v)) hs hK hd trivial;exact hn _ _ _ _ _ _ _ _ h3 sat2 (by rw[hR];exact fun h=>by cases h)
    |true=>
     refine mq hτ h2 sat1 fun v H' nx' iv' w2 ρ' w3 hK sat2 hv=>?_;obtain⟨l2,h3,sat3⟩:=gj sat2 hK hd hv;exact hn _ _ _ _ _ _ _ _ h3 sat3 (by rw[hR];exact fun h=>by cases h)
 ·obtain⟨l2,h4,sat3⟩:=gj sat1 h2 hd trivial;exact .inr ⟨hw,hn _ _ _ _ _ _ _ _ h4 sat3 fun _=>rfl⟩
theorem vh(hτ:fG P τ)(sat:Sat n l H nx iv B w O a w'){K:Prop}:∀(G:List Gh),C1 τ B G l H nx iv w K->
  K∧∀g∈G,∃su sv,fF l g.u=some su∧fF l g.d=some sv∧(Instr.loadAt g.T (su.den O)).run P w'= .ok (sv.den O) w'
 |[],h=>⟨h,fun g hg=>by cases hg⟩
 |g::r,h=>by
  unfold C1 at h;split at h
  ·rename_i su hsu;obtain⟨v,⟨h1,h2⟩,hv,hrun⟩:=my hτ sat.rel (sat.sc _ _ hsu) h;obtain⟨h3,h4⟩:=vh hτ sat r h2;refine⟨h3,fun g' hg=>?_⟩;rcases List.mem_cons.1 hg with rfl|hg
   ·exact⟨su,v,hsu,h1,hrun w' sat.rel⟩
   ·exact h4 g' hg
  ·exact h.elim
theorem qN{j:Nat}{g:Gh}:∀{G:List Gh},g∈G->tb g.b j=false->g∈BR j G
 |g'::r,h,hb=>by
  unfold BR;rcases List.mem_cons.1 h with rfl|h
  ·rw[hb];exact aJ
  ·split
   ·exact qN h hb
   ·exact aC _ (qN h hb)
abbrev Zh:=Gh×Value×Value
def Yz(P:Program)(z:Zh)(w:World):Prop:=(Instr.loadAt z.1.T z.2.1).run P w= .ok z.2.2 w
structure Lo(ops:Array Oper)(la:Array Bool)(a:Act)(z:Zh):Prop where
 u:a.tmps[z.1.u]? =some z.2.1
 d:a.tmps[z.1.d]? =some z.2.2
 no:∀(j:Nat) oj,ops[j]? =some oj->la.getD j false=false->oj.dst≠some z.1.u∧oj.dst≠some z.1.d
theorem Lo.step{z:Zh}{oj:Oper}{x:Value}(h:Lo ops la a z)(hj:ops[j]? =some oj)(hl:la.getD j false=false):Lo ops (la.setIfInBounds j true) (a.put oj.dst x) z:=by
 obtain⟨h1,h2⟩:=h.no j oj hj hl;refine⟨pg h1 h.u,pg h2 h.d,fun k ok hk hlk=>h.no k ok hk ?_⟩;by_cases hjk:j=k
 ·subst hjk;exact hl
 ·rwa [getD_set_ne false hjk]at hlk
def IZ(P:Program)(ops:Array Oper)(Z:List Zh)(lx:Array Bool)(w:World):Prop:=∀z∈Z,mJ ops z.1.b lx->Yz P z w
theorem tj(h:i∈Region.ready .any ops la):la.getD i false=false:=by
 have:=(eQ.1 h).1;rw[aZ,this];rfl
theorem ns{o:Oper}(ho:ops[i]? =some o)(hl:la[i]? =some false)(h:mJ ops b (la.setIfInBounds i true)):mJ ops b la∧(tm o.op=false->tb b i=false):=by
 refine⟨fun k ok h1 h2 h3=>?_,fun hR=>?_⟩
 ·by_cases hik:i=k
  ·subst hik;rw[aZ,hl];rfl
  ·rw[<-getD_set_ne false hik];exact h k ok h1 h2 h3
 ·cases hb:tb b i with
  |false=>rfl
  |true=>
   have:=h i o hb ho hR;have hi:=(ai.1 hl).1;rw[aZ,Array.getElem?_setIfInBounds_self_of_lt hi]at this
   cases this
theorem BS(hτ:fG P τ){o:Oper}{G:List Gh}{Z:List Zh}(ho:ops[i]? =some o)(hd:∀d,o.dst=some d->d<n)(hr:i∈Region.ready .any ops la){K:Env->Hp->Nat->Iv->World->List Gh->Prop}
  (h1:gT (!fV o) P τ B ops.toList o l H nx iv w (fun l' H' nx' iv' w'=>stepG τ B (tm o.op) G i l' H' nx' iv' w' (K l' H' nx' iv' w'))) (sat:Sat n l H nx iv B w O a w')
  (hG:∀z∈Z,mJ ops z.1.b la->z.1∈G) (hZ:∀z∈Z,Lo ops la a z) (hI:IZ P ops Z la w')
  (hn:∀l' H' nx' iv' w2 ρ' x w3 G',K l' H' nx' iv' w2 G'->Sat n l' H' nx' iv' B w2 ρ' (a.put o.dst x) w3->(∀z∈Z,mJ ops z.1.b (la.setIfInBounds i true)->z.1∈G')->(∀z∈Z,Lo ops (la.setIfInBounds i true) (a.put o.dst x) z)->IZ P ops Z (la.setIfInBounds i true) w3->next (a.put o.dst x) w3):
  wpOp P ops Q i next a w':=by
 have hl:=(eQ.1 hr).1;refine MQ hτ ho hd h1 sat fun l' H' nx' iv' w2 ρ' x w3 hK sat2 hw=>?_;have hZ2:∀z∈Z,Lo ops (la.setIfInBounds i true) (a.put o.dst x) z:=fun z hz=>(hZ z hz).step ho (tj hr)
 cases hR:tm o.op with
 |true=>
  rw[hR]at hK;have hw:=hw hR;subst hw;refine hn _ _ _ _ _ _ _ _ G hK sat2 (fun z hz h=>hG z hz (ns ho hl h).1) hZ2 fun z hz h=>hI z hz (ns ho hl h).1
 |false=>
  rw[hR]at hK;obtain⟨h2,h3⟩:=vh hτ sat2 _ hK;refine hn _ _ _ _ _ _ _ _ _ h2 sat2 (fun z hz h=>?_) hZ2 fun z hz h=>?_
  ·obtain⟨k1,k2⟩:=ns ho hl h;exact qN (hG z hz k1) (k2 hR)
  ·obtain⟨k1,k2⟩:=ns ho hl h;obtain⟨su,sv,e1,e2,e3⟩:=h3 z.1 (qN (hG z hz k1) (k2 hR));have h4:=sat2.env _ _ e1;have h5:=sat2.env _ _ e2;rw[(hZ2 z hz).u]at h4;rw[(hZ2 z hz).d]at h5;injection h4 with h4;injection h5 with h5;unfold Yz;rw[h4,h5];exact e3
end
section
variable{P:Program}{τ:mL}{ops:Array Oper}{B n nx:Nat}{l:Env}{H:Hp}{iv:Iv}{w w':World}{O:Nat->Sx.df}{a:Act}
theorem sB{m i b:Nat}{oi:Oper}:∀(l:List Oper) (k:Nat),EF ops m i oi b l k=true->∀(j:Nat) oj,l[j]? =some oj->k+j≠i->tb m (k+j)=false->tb b (k+j)=false->oi.apart ops oj=true
 |[],_,_,j,oj,h,_,_,_=>by cases h
 |o::r,k,h,j,oj,hj,h1,h2,h3=>by
  simp only[EF,ah,Bool.or_eq_true]at h
  cases j with
  |zero=>
   injection hj with hj;subst hj;rcases h.1 with((h4|h4)|h4)|h4
   ·exact absurd (bO h4) h1
   ·rw[bw]at h2;rw[h2]at h4;cases h4
   ·rw[bw]at h3;rw[h3]at h4;cases h4
   ·exact h4
  |succ j=>
   have e:k+(j+1)=k+1+j:=by omega
   rw[e]at h1 h2 h3;exact sB r (k+1) h.2 j oj (by simpa using hj) h1 h2 h3
theorem z7{m i u d:Nat}:∀(l:List Oper) (k:Nat),GK m i u d l k=true->∀(j:Nat) oj,l[j]? =some oj->tb m (k+j)=false->oj.dst≠some u∧(k+j≠i->oj.dst≠some d)
 |[],_,_,j,oj,h,_=>by cases h
 |o::r,k,h,j,oj,hj,h2=>by
  simp only[GK,ah,Bool.or_eq_true]at h
  cases j with
  |zero=>
   injection hj with hj;subst hj;rcases h.1 with h4|h4
   ·rw[bw]at h2;rw[h2]at h4;cases h4
   ·cases ho:o.dst with
    |none=>exact⟨by simp,by simp⟩
    |some e=>
     rw[ho]at h4;simp only[ah,Bool.not_eq_true',Bool.or_eq_true]at h4;refine⟨fun hh=>?_,fun hne hh=>?_⟩
     ·injection hh with hh;subst hh;have:=h4.1;simp at this
     ·injection hh with hh;subst hh;rcases h4.2 with h5|h5
      ·exact hne (bO h5)
      ·simp at h5
  |succ j=>
   have e:k+(j+1)=k+1+j:=by omega
   rw[e]at h2 ⊢;exact z7 r (k+1) h.2 j oj (by simpa using hj) h2
theorem HR{o:Oper}{d T u:Nat}(h:JV o=some (d,T,u)):o.dst=some d∧o.op= .load T (.tmp u)∧o.guard=none:=by
 unfold JV at h;split at h
 ·injection h with h;injection h with h1 h2;injection h2 with h2 h3;subst h1 h2 h3;exact⟨rfl,rfl,rfl⟩
 ·cases h
theorem il(hτ:fG P τ)(hok:∀(j:Nat) o,ops[j]? =some o->∀d,o.dst=some d->d<n)(hsel:∀(j:Nat) (o:Oper) cs b,ops[j]? =some o->o.op≠ .select cs b){K:KT}{Q0:Act->World->Prop}
  (hQ:∀l' H' nx' iv' w2 ρ' a' w3,K l' H' nx' iv' w2->Sat n l' H' nx' iv' B w2 ρ' a' w3->Q0 a' w3):
  ∀(t:Tg) (fuel:Nat) (la:Array Bool) (l:Env) (H:Hp) (nx:Nat) (iv:Iv) (w:World) (O:Nat->Sx.df) (a:Act) (w':World) (G:List Gh) (Z:List Zh),Kf la<=fuel->la.size=ops.size->lD ops t la=true->AO P τ B ops.toList t G l H nx iv w K->Sat n l H nx iv B w O a w'->
   (∀z∈Z,mJ ops z.1.b la->z.1∈G)->(∀z∈Z,Lo ops la a z)->IZ P ops Z la w'->pe P .any ops (QN Q0) (IZ P ops Z) fuel la a w'
 | .nil,fuel,la,l,H,nx,iv,w,O,a,w',G,Z,_,_,hc,h,s,hG,hZ,hI=>by
  simp only[lD,List.isEmpty_iff]at hc;exact ED hI hc ⟨rfl,hQ _ _ _ _ _ _ _ _ h s⟩ fuel
 | .x i t,fuel,la,l,H,nx,iv,w,O,a,w',G,Z,hf,hz,hc,h,s,hG,hZ,hI=>by
  unfold lD at hc;obtain⟨o,ho,h1⟩:=gH h;rw[bB]at ho;simp only[ho,ah,Bool.or_eq_true]at hc;obtain⟨⟨c1,c2⟩,c3⟩:=hc;have c1:i∈Region.ready .any ops la:=by simpa using c1
  obtain⟨hla,-⟩:=eQ.1 c1;have hun:=kD hla;obtain⟨f,rfl⟩:∃f,fuel=f+1:=⟨fuel-1,by omega⟩
  have hz2:(la.setIfInBounds i true).size=ops.size:=by rw[bU,hz]
  rcases c2 with c2|⟨⟨hP,hgd⟩,c4⟩
  ·refine⟨hI,fun h0=>(by rw[h0]at c1;cases c1),fun j hj=>?_⟩;have hji:j=i:=eG (List.all_eq_true.1 c2 j hj);subst hji;exact BS hτ ho (hok j o ho) c1 h1 s hG hZ hI fun _ _ _ _ _ _ _ _ G' hk hs hG' hZ' hI'=>il hτ hok hsel hQ t f _ _ _ _ _ _ _ _ _ G' Z (by omega) hz2 c3 hk hs hG' hZ' hI'
  ·have hR:tm o.op=true:=by
    unfold GM at hP;split at hP
    ·cases hP
    ·exact hP
   have hm:=wj la;have hb:=mP (ops:=ops) (m:=hJ la.toList 0) (i:=i) ops.toList 0 0 (fun n o hn=>by rw[aV];rwa [bB]at hn) (fun j hj=>by rw[sE]at hj;cases hj);generalize zc (hJ la.toList 0) i ops.toList 0 0=b at*
   have hg0:o.guard=none:=by simpa using hgd
   unfold gT sF at h1;rw[hg0]at h1;obtain⟨v,hK,hvs,hrun⟩:=(lG hτ h1 s hR).resolve_right (fun hh=>by have:=hh.1;rw[rA hR]at this;cases this);obtain⟨l2,h3,sat2⟩:=gj s hK (hok i o ho) hvs;rw[hR]at h3;have hw:Region.wanted o (yielded ops a.tmps)=true:=by simp[Region.wanted,hg0]
   refine th (v:=v.den O) (b:=b) (Y:=fun _=>True) (X:=execOp a.eval o) ho hR hsel (fun c a w hq=>absurd hq.1 (by simp)) (fun j hj=>(hb j hj).2.2) (fun w3 _=>hrun w3 (.inl hP)) (fun lx w h z hz ha=>h z hz ((ix ho hR).2 ha))
    f la a w' (fun j hj=>(hm j).symm.trans (hb j hj).1) (fun j oj hoj hji hl hk=>sB ops.toList 0 c4 j oj (by rw[bB];exact hoj) (by omega) (by
     have hj:=(ai.1 hoj).1
     rw[aV,hm,mM (by omega) false true];exact hl) (by rw[aV];exact hk)) c1 ⟨hw,rfl⟩ ?_
   refine jm (fun lx w h=>⟨h,fun _=>trivial⟩) _ _ _ _ ?_;exact il hτ hok hsel hQ t f _ _ _ _ _ _ _ _ _ G Z (by omega) hz2 c3 h3 sat2 (fun z hz h=>hG z hz ((ix ho hR).1 h)) (fun z hz=>(hZ z hz).step ho (tj c1)) (fun z hz h=>hI z hz ((ix ho hR).1 h))
 | .two i t k u,fuel,la,l,H,nx,iv,w,O,a,w',G,Z,hf,hz,hc,h,s,hG,hZ,hI=>by
  simp only[lD]at hc;split at hc
  ·rename_i x y hr;simp only[ah]at hc;obtain⟨c1,c2,c3,c4⟩:=hc;have hx:=bO c1;have hy:=bO c2;subst hx;subst hy;obtain⟨h1,h2⟩:=h;obtain⟨o1,ho1,h1⟩:=gH h1;obtain⟨o2,ho2,h2⟩:=gH h2;rw[bB]at ho1 ho2;have hm1:x∈Region.ready .any ops la:=by rw[hr];simp
   have hm2:y∈Region.ready .any ops la:=by rw[hr];simp
   have u1:=kD (eQ.1 hm1).1;have u2:=kD (eQ.1 hm2).1;obtain⟨f,rfl⟩:∃f,fuel=f+1:=⟨fuel-1,by omega⟩
   refine⟨hI,fun h0=>(by rw[hr]at h0;cases h0),fun j hj=>?_⟩;rw[hr,List.mem_cons,bD]at hj;rcases hj with rfl|rfl
   ·exact BS hτ ho1 (hok _ o1 ho1) hm1 h1 s hG hZ hI fun _ _ _ _ _ _ _ _ G' hk hs hG' hZ' hI'=>il hτ hok hsel hQ t f _ _ _ _ _ _ _ _ _ G' Z (by omega) (by rw[bU,hz]) c3 hk hs hG' hZ' hI'
   ·exact BS hτ ho2 (hok _ o2 ho2) hm2 h2 s hG hZ hI fun _ _ _ _ _ _ _ _ G' hk hs hG' hZ' hI'=>il hτ hok hsel hQ u f _ _ _ _ _ _ _ _ _ G' Z (by omega) (by rw[bU,hz]) c4 hk hs hG' hZ' hI'
  ·cases hc
 | .three i t k u m v,fuel,la,l,H,nx,iv,w,O,a,w',G,Z,hf,hz,hc,h,s,hG,hZ,hI=>by
  simp only[lD]at hc;split at hc
  ·rename_i x y z9 hr;simp only[ah]at hc;obtain⟨c1,c2,c6,c3,c4,c5⟩:=hc;have hx:=bO c1;have hy:=bO c2;have hz9:=bO c6;subst hx;subst hy;subst hz9;obtain⟨h1,h2,h3⟩:=h;obtain⟨o1,ho1,h1⟩:=gH h1;obtain⟨o2,ho2,h2⟩:=gH h2;obtain⟨o3,ho3,h3⟩:=gH h3;rw[bB]at ho1 ho2 ho3;have hm1:x∈Region.ready .any ops la:=by rw[hr];simp
   have hm2:y∈Region.ready .any ops la:=by rw[hr];simp
   have hm3:z9∈Region.ready .any ops la:=by rw[hr];simp
   have u1:=kD (eQ.1 hm1).1;have u2:=kD (eQ.1 hm2).1;have u3:=kD (eQ.1 hm3).1;obtain⟨f,rfl⟩:∃f,fuel=f+1:=⟨fuel-1,by omega⟩
   refine⟨hI,fun h0=>(by rw[hr]at h0;cases h0),fun j hj=>?_⟩;rw[hr,List.mem_cons,List.mem_cons,bD]at hj;rcases hj with rfl|rfl|rfl
   ·exact BS hτ ho1 (hok _ o1 ho1) hm1 h1 s hG hZ hI fun _ _ _ _ _ _ _ _ G' hk hs hG' hZ' hI'=>il hτ hok hsel hQ t f _ _ _ _ _ _ _ _ _ G' Z (by omega) (by rw[bU,hz]) c3 hk hs hG' hZ' hI'
   ·exact BS hτ ho2 (hok _ o2 ho2) hm2 h2 s hG hZ hI fun _ _ _ _ _ _ _ _ G' hk hs hG' hZ' hI'=>il hτ hok hsel hQ u f _ _ _ _ _ _ _ _ _ G' Z (by omega) (by rw[bU,hz]) c4 hk hs hG' hZ' hI'
   ·exact BS hτ ho3 (hok _ o3 ho3) hm3 h3 s hG hZ hI fun _ _ _ _ _ _ _ _ G' hk hs hG' hZ' hI'=>il hτ hok hsel hQ v f _ _ _ _ _ _ _ _ _ G' Z (by omega) (by rw[bU,hz]) c5 hk hs hG' hZ' hI'
  ·cases hc
 | .ld i b t,fuel,la,l,H,nx,iv,w,O,a,w',G,Z,hf,hz,hc,h,s,hG,hZ,hI=>by
  unfold lD at hc;obtain⟨o,ho,h1⟩:=gH h;rw[bB]at ho;simp only[ho]at hc
  cases hld:JV o with
  |none=>rw[hld]at hc;cases hc
  |some q=>
   obtain⟨d,T,u⟩:=q;rw[hld]at hc h1;simp only[ah]at hc;obtain⟨⟨⟨⟨c1,c2⟩,c4⟩,c5⟩,c3⟩:=hc;obtain⟨e1,e2,e3⟩:=HR hld;have c1:i∈Region.ready .any ops la:=by simpa using c1
   obtain⟨hla,-⟩:=eQ.1 c1;have hun:=kD hla;obtain⟨f,rfl⟩:∃f,fuel=f+1:=⟨fuel-1,by omega⟩
   have hz2:(la.setIfInBounds i true).size=ops.size:=by rw[bU,hz]
   have hR:tm o.op=true:=by rw[e2];rfl
   have hm:=wj la;have hb:=mP (ops:=ops) (m:=hJ la.toList 0) (i:=i) ops.toList 0 0 (fun n o hn=>by rw[aV];rwa [bB]at hn) (fun j hj=>by rw[sE]at hj;cases hj);rw[<-bO c2]at hb
   cases hsu:fF l u with
   |none=>simp only[hsu]at h1
   |some su=>
    simp only[hsu]at h1;obtain⟨v,hK,hvs,hrun⟩:=my hτ s.rel (s.sc _ _ hsu) h1;have hau:=s.env _ _ hsu;have hdn:=hok i o ho d e1;have sat2:Sat n ((d,v)::l) H nx iv B w O (a.put o.dst (v.den O)) w':=by rw[e1];exact s.put hdn hvs
    have hw:Region.wanted o (yielded ops a.tmps)=true:=by simp[Region.wanted,e3]
    have hev:a.eval (.tmp u)=su.den O:=by rw[Act.eval,aZ,hau];rfl
    have hui:tb (hJ la.toList 0) i=false:=by rw[hm];exact tj c1
    have hno:=z7 ops.toList 0 c5;refine th (v:=v.den O) (b:=b) (Y:=Yz P (⟨u,d,T,b⟩,su.den O,v.den O)) (X:=execOp a.eval o) ho hR hsel (fun c a w hq=>absurd hq.1 (by simp)) (fun j hj=>(hb j hj).2.2) (fun w3 hY=>?_) (fun lx w h z hz ha=>h z hz ((ix ho hR).2 ha))
     f la a w' (fun j hj=>(hm j).symm.trans (hb j hj).1) (fun j oj hoj hji hl hk=>sB ops.toList 0 c4 j oj (by rw[bB];exact hoj) (by omega) (by
      have hj:=(ai.1 hoj).1
      rw[aV,hm,mM (by omega) false true];exact hl) (by rw[aV];exact hk)) c1 ⟨hw,rfl⟩ ?_
    ·unfold Yz at hY;obtain⟨dst,op,ty,pos,after,guard⟩:=o;simp only at e2;subst e2;simp only[execOp,hev]
     exact lI hY
    ·refine jm (I:=IZ P ops ((⟨u,d,T,b⟩,su.den O,v.den O)::Z)) (fun lx w h=>⟨fun z hz=>h z (aC _ hz),h _ aJ⟩) _ _ _ _ ?_;refine il hτ hok hsel hQ t f _ _ _ _ _ _ _ _ _ (⟨u,d,T,b⟩::G) ((⟨u,d,T,b⟩,su.den O,v.den O)::Z) (by omega) hz2 c3 hK sat2 (fun z hz h=>?_) (fun z hz=>?_) (fun z hz h=>?_)
     ·rcases List.mem_cons.1 hz with rfl|hz
      ·exact aJ
      ·exact aC _ (hG z hz ((ix ho hR).1 h))
     ·rcases List.mem_cons.1 hz with rfl|hz
      ·have h7:=(hno i o (by rw[bB];exact ho) (by rw[aV];exact hui)).1;refine⟨pg h7 hau,?_,fun j oj hoj hlj=>?_⟩
       ·rw[e1];show(a.tmps.setIfInBounds d _)[d]? =_;rw[Array.getElem?_setIfInBounds_self_of_lt (by rw[s.size];exact hdn)]
       ·have hji:i≠j:=fun e=>by
         subst e;have hi:=(ai.1 hla).1;rw[aZ,Array.getElem?_setIfInBounds_self_of_lt hi]at hlj
         cases hlj
        rw[getD_set_ne false hji]at hlj;obtain⟨k1,k2⟩:=hno j oj (by rw[bB];exact hoj) (by rw[aV,hm];exact hlj);exact⟨k1,k2 (by omega)⟩
      ·exact(hZ z hz).step ho (tj c1)
     ·rcases List.mem_cons.1 hz with rfl|hz
      ·exact hrun w' s.rel
      ·exact hI z hz ((ix ho hR).1 h)
 | .oN id t,fuel,la,l,H,nx,iv,w,O,a,w',G,Z,hf,hz,hc,h,s,hG,hZ,hI=>by
  obtain⟨H',b,hid,hd,hs,ho,h⟩:=h;obtain⟨hn,l',hl,h⟩:=h _ _ s.rel;exact il hτ hok hsel hQ t fuel la l' H' nx _ w' O a w' G Z hf hz hc h ⟨s.rel.free hid hd hn hs ho,s.size,s.defers,fun u v hv=>by obtain⟨-,v',h1,h2⟩:=hl u v hv;rw[<-h2];exact s.env u v' h1,fun u v hv=>(hl u v hv).1⟩ hG hZ hI
theorem iI(hτ:fG P τ)(hm:P.follows .mixedOrders=true){K:KT}(t:Tg)(hs:Region.noSelect ops=true)(hc:lD ops t (Array.replicate ops.size false)=true)
  (h:AO P τ B ops.toList t [] l H nx iv w K):xS P B ops l H nx iv w K:=by
 refine⟨fun n O a w' hok sat Q hQ id=>?_⟩;refine wp_mono (Q':=Q) (c:=.region id ops true) (wp_region_any (Q:=QN (Q .normal)) hm (z6 (I:=IZ P ops []) _ _ _ _ ?_)) (fun e a w hq=>by obtain⟨rfl,hq⟩:=hq;exact hq);refine il (Q0:=Q .normal) hτ (fun j o ho d hd=>?_) (Region.noSelect_spec hs) hQ t _ _ _ _ _ _ _ O _ _ [] [] ?_ (by simp) hc h ⟨sat.rel.drew,sat.size,sat.defers,sat.env,sat.sc⟩ (fun z hz=>by cases hz) (fun z hz=>by cases hz) (fun z hz=>by cases hz)
 ·have:=List.all_eq_true.1 hok o (aD (by rw[bB];exact ho));rw[hd]at this;have h5:d+1<=n:=by simpa [Nat.blt]using this
  exact h5
 ·unfold Kf;refine a9 List.countP_le_length ?_;simp
end
theorem I5{α:Type}(a b:α){c:Nat}(h:i<c):(List.replicate i a++List.replicate (c-i) b).take i++[a]++(List.replicate i a++List.replicate (c-i) b).drop (i+1)=List.replicate (i+1) a++List.replicate (c-(i+1)) b:=by
 rw[List.take_left' (bH ..),List.drop_append,bH,List.drop_of_length_le (by rw[bH];omega),List.nil_append,List.drop_replicate,List.replicate_succ'];congr 2;omega
def jq(w:World)(C S:Nat->Prop)(v:Value)(M:List (List Rat)):Prop:=∃rv,ig w C 1 v rv M.length∧rv.length=M.length∧∀(i:Nat) u x,rv[i]? =some u->M[i]? =some x->cO w S u x
theorem jq.shape(h:jq w C S v M):∃a c,v= .slice a M.length c∧M.length<=c∧M.length<=maxLen:=by
 obtain⟨rv,⟨h0,_,_,a,c,h1,h2,_⟩,_⟩:=h;exact⟨a,c,h1,h2,h0⟩
theorem jq.load{a:Option Addr}{m c:Nat}{x:List Rat}(h:jq w C S (.slice a m c) M)(hq:M[j]? =some x):
  ∃ad u,a=some ad∧cO w S u x∧C ad.block∧w.cell? (ad.add (j*1))=some u:=by
 obtain⟨rv,⟨h0,h1,h2,a',c',e,h3,h4⟩,hl,hf⟩:=h;injection e with e1 e2 e3;subst e1;obtain⟨u,hu⟩:∃u,rv[j]? =some u:=⟨_,aB (by rw[hl];exact(aE.1 hq).1)⟩
 obtain⟨ad,k1,k2,k3⟩:=h4 j u hu;exact⟨ad,u,k1,hf j u x hu hq,k2,by rw[aU];exact k3⟩
def J0:Option Nat->Value
 |none=>.int .i64 (-1)
 |some j=>.int .i64 (j:Int)
structure tS(M:List (List Rat))(cols h:Nat):Prop where
 rows:∀i,i<=M.length->∀r∈(fu M cols i).1,∀q∈r,rl q+1<=h
 lE:∀i,i<M.length->∀k,k<=cols->∀q∈fI (fu M cols i).1 (fu M cols i).2.1 (M.getD i []) k,rl q+1<=h
theorem zF{k:Nat}(h:at_[k]? =some (some j)):fI E at_ row (k+1)=lJ (fI E at_ row k) (E.getD j []) ((fI E at_ row k).getD k 0):=by
 rw[fI,show at_.getD k none=some j by rw[List.getD,h];rfl]
theorem Ek{k:Nat}(h:at_[k]? =some none):fI E at_ row (k+1)=fI E at_ row k:=by
 rw[fI,show at_.getD k none=none by rw[List.getD,h];rfl]
theorem I6{α:Type}{l:List α}(a b:α)(h:j<l.length):(l++[a]).set j b=l.set j b++[a]:=by rw[List.set_append,if_pos h]
theorem El{x:List Rat}(hred:(E,at_,fr)=fu M cols i)(hx:M.getD i []=x)(hy:fI E at_ x cols=y)(hp:sS y cols=cols):(E,at_,fr)=fu M cols (i+1):=by
 rw[fu,<-hred,hx,j6];simp only[hy,hp,if_true]
theorem Em{p:Nat}{x:List Rat}(hred:(E,at_,fr)=fu M cols i)(hx:M.getD i []=x)(hy:fI E at_ x cols=y)(hp:sS y cols=p)(hne:p≠cols):
  fu M cols (i+1)=(fh E (y.map (· / y.getD p 0)) p E.length++[y.map (· / y.getD p 0)],at_.set p (some E.length),fr++[i]):=by
 rw[fu,<-hred,hx,j6];simp only[hy,hp,aK hne]
theorem I7(q:Rat)(y:List Rat):gS y.length (fun _ r=>r / q) y=y.map (· / q):=by
 rw[uc];exact bK fun j=>by rw[List.getElem?_mapIdx,aN]
theorem En{p:Nat}(h:E[i]? =some r)(h0:r.getD p 0=0):fh E u p (i+1)=fh E u p i:=by
 rw[xy h,h0,xx];refine bK fun j=>?_;by_cases hj:i=j
 ·subst hj;rw[aW (by rw[fS];exact(aE.1 h).1),DC h]
 ·rw[bA hj]
def jy(rv:List Value)(at_:List (Option Nat)):Nat->List Value
 |0=>[]
 |k+1=>match at_.getD k none with
  |some r=>jy rv at_ k++[rv.getD r (.bool false)]
  |none=>jy rv at_ k
theorem l9{k:Nat}(h:s.2.1[k]? =some none):cd s (k+1)=cd s k:=by
 rw[cd,show s.2.1.getD k none=none by rw[List.getD,h];rfl]
theorem lf{k r:Nat}(h:s.2.1[k]? =some (some r)):cd s (k+1)=((cd s k).1++[s.1.getD r []],(cd s k).2.1++[k],(cd s k).2.2++[s.2.2.getD r 0]):=by
 rw[cd,show s.2.1.getD k none=some r by rw[List.getD,h];rfl]
theorem rh{k:Nat}(h:at_[k]? =some none):jy rv at_ (k+1)=jy rv at_ k:=by
 rw[jy,show at_.getD k none=none by rw[List.getD,h];rfl]
theorem rk{k r:Nat}(h:at_[k]? =some (some r)):jy rv at_ (k+1)=jy rv at_ k++[rv.getD r (.bool false)]:=by
 rw[jy,show at_.getD k none=some r by rw[List.getD,h];rfl]
theorem tT(s:vz)(rv:List Value):∀k,k<=s.2.1.length->(cd s k).1.length=(cd s k).2.1.length∧(cd s k).2.2.length=(cd s k).2.1.length∧(jy rv s.2.1 k).length=(cd s k).2.1.length∧(cd s k).2.1.length<=k
 |0,_=>⟨rfl,rfl,rfl,aG _⟩
 |k+1,hk=>by
  have ih:=tT s rv k (by omega);obtain⟨o,ho⟩:∃o,s.2.1[k]? =some o:=⟨_,aB (by omega)⟩
  cases o with
  |none=>rw[l9 ho,rh ho];exact⟨ih.1,ih.2.1,ih.2.2.1,by have:=ih.2.2.2;omega⟩
  |some r=>rw[lf ho,rk ho];simp only[List.length_append,List.length_singleton];omega
theorem zG{E:List (List Rat)}{at_:List (Option Nat)}{fr:List Nat}{rv:List Value}(hl:rv.length=E.length)(hlt:∀(k r:Nat),at_[k]? =some (some r)->r<E.length):∀k,k<=at_.length->∀(i:Nat) u x,(jy rv at_ k)[i]? =some u->(cd (E,at_,fr) k).1[i]? =some x->∃r:Nat,rv[r]? =some u∧E[r]? =some x
 |0,_,i,u,x,h,_=>by cases h
 |k+1,hk,i,u,x,h1,h2=>by
  have ih:=zG (fr:=fr) hl hlt k (by omega) i u x;obtain⟨o,ho⟩:∃o,at_[k]? =some o:=⟨_,aB (by omega)⟩
  cases o with
  |none=>
   rw[rh ho]at h1;rw[l9 (s:=(E,at_,fr)) ho]at h2;exact ih h1 h2
  |some r=>
   have hr:=hlt k r ho;rw[rk ho]at h1;rw[lf (s:=(E,at_,fr)) ho]at h2;obtain⟨q1,q2,q3,q4⟩:=tT (E,at_,fr) rv k (by dsimp only;omega);dsimp only at q1 q2 q3 q4 h2;rcases aQ i (jy rv at_ k).length with hi|hi
   ·rw[aM hi]at h1;rw[aM (by omega)]at h2;exact ih h1 h2
   ·have hi0:i=(jy rv at_ k).length:=by have:=(aE.1 h1).1;simp at this;omega
    rw[hi0,aO (aG _),bM]at h1;rw[hi0,q3,<-q1,aO (aG _),bM]at h2;simp only[List.getElem?_cons_zero,Option.some.injEq]at h1 h2;refine⟨r,?_,?_⟩
    ·rw[<-h1,List.getD,aB (by omega)];rfl
    ·rw[<-h2,List.getD,aB hr];rfl
theorem D6{α:Type}(l:List α)(a b:α):(l++[a]).set l.length b=l++[b]:=by simp
section
variable{S S':Nat->Prop}{H:Hp}{nx:Nat}{iv iv':Iv}{B:Nat}{w w' w2:World}{O:Nat->Sx.df}{rv:List Value}{v:Value}{q:Rat}
theorem cP.D7(h:cP w (Lr S B iv rv) v q)(r:Rel H nx iv B w O w')(hS:∀g,S g->g<B):cP w' (Lr S B iv rv) v q:=h.cG fun _ hg=>Rel.same r hS hg.1
theorem cP.K1(h:cP w (Lr S B iv rv) v q)(r:Rel H nx iv B w O w')(hS:∀g,S g->g<B)(he:Ext w' w2)(hm:∀p,p∈iv->p∈iv'):cP w2 (Lr S B iv' rv) v q:=
 ((h.D7 r hS).cG fun g hg=>he.block g (Rel.old r hS g hg.1)).cI fun _ hg=>⟨hg.1.mono hm,hg.2⟩
theorem Lr.old(r:Rel H nx iv B w O w')(hS:∀g,S g->g<B):Old (Lr S B iv rv) w':=fun g hg=>Rel.old r hS g hg.1
theorem cP.Mc{n:Nat}(h:cP w2 (Nf w' w2) v q)(hM:kj w S B iv rv n M)(r:Rel H nx iv B w O w'):cP w2 (Lr S0 B ((w'.heap.size,w2.heap.size)::iv) rv) v q:=
 h.cI fun g hg=>by
  rcases hg with hg|hg
  ·exact hg.elim
  ·exact⟨.inr ⟨by have:=r.cD;omega,_,_,aJ,hg.1,hg.2⟩,fun hm=>by have:=hM.lt r hm;omega⟩
end
set_option maxHeartbeats 2000000 in
theorem qE{n h:Nat}(hC:Old C w)(hS:Old S w)(hM:jq w C S v M)(hlen:fe n M)(hn0:0<n)(hn:n<=1000)(hR:M.length<=1000)(hcols:cols<=n)(hB:tS M cols h)(hh:3*h<=90000):
  dm PG N.iG #[.agg #[v,.int .i64 n],.int .i64 cols] w (eB w fun v' w2=>∃vr vp vf,v'= .agg #[vr,.int .i64 n,vp,vf]∧cR w2 (Nw S w w2) vr (dR M cols).1∧dF w2 (Nf w w2) vp (dR M cols).2.1∧dF w2 (Nf w w2) vf (dR M cols).2.2):=by
 have hw:cV w.heap.size w w:=cV.refl;obtain⟨am,cm,rfl,hcm,hmm⟩:=jq.shape hM;unfold maxLen at hmm;refine jB (by simp) ?_
 refine⟨cols,cols,rfl,rfl,aG _,by omega,by omega,Nat×World,fun z=>⟨[(1,.o (.v (.int .i64 cols))),(2,.o (.p 0 0)),(4,.o (.p 1 0)),(5,.o (.p 2 0)),(6,.o (.s 3 0 cols cols)),(27,.o (.v (.int .i64 cols))),(28,.o (.v (.int .i64 ((z.1:Nat):Int))))],
   [(3,.arr T.int (List.replicate z.1 (.int .i64 (-1))++List.replicate (cols-z.1) (.int .i64 0))),(2,.box T.dN [.v (.slice none 0 0),.v (.int .i64 n),.v (.slice none 0 0),.v (.slice none 0 0)]),(1,.box T.dN [.v (.slice none 0 0),.v (.int .i64 0),.v (.slice none 0 0),.v (.slice none 0 0)]),(0,.box T.dc [.v (.slice am M.length cm),.v (.int .i64 n)])],4,[],z.2⟩,fun z=>cols-z.1,
  fun z=>z.1<=cols∧cV w.heap.size w z.2,?_,?_⟩
 ·intro O w' r;exact⟨(0,w'),⟨aP _,hw.tr r.cM⟩,Sub.gn [] r ⟨by simp;rfl,rfl,rfl,rfl,trivial⟩⟩
 rintro⟨i,w1⟩ ⟨hi,hw⟩;dsimp only at hi hw ⊢;refine dI.mk (fun hib=>?_) (fun hib=>?_)
 ·have hib:i<cols:=by simpa using hib
  refine⟨by omega,by simp;omega,List.replicate (i+1) (.int .i64 (-1))++List.replicate (cols-(i+1)) (.int .i64 0),?_,?_⟩
  ·rw[aF,aU,aV];exact I5 _ _ hib
  refine⟨((i+1:Nat):Int),wo,?_⟩;intro ρ3 w3 r3;exact⟨(i+1,w3),⟨hib,hw.tr r3.cM⟩,Sub.gn [] r3,by dsimp only;omega⟩
 have hib:i=cols:=aR hi (by simpa using hib);rw[hib]
 refine⟨Nat×List Value×List (List Rat)×List (Option Nat)×List Nat×World×Iv,fun z=>⟨[(38,.o (.v (.int .i64 ((z.1:Nat):Int)))),(1,.o (.v (.int .i64 cols))),(2,.o (.p 0 0)),(4,.o (.p 1 0)),(5,.o (.p 2 0)),(6,.o (.s 3 0 cols cols)),(36,.o (.v (.slice am M.length cm))),(37,.o (.v (.int .i64 M.length)))],[(2,.box T.dN [.w 4 z.2.1.length,.v (.int .i64 n),.v (.slice none 0 0),.w 5 z.2.2.2.2.1.length]),(5,.vec T.int 1 (z.2.2.2.2.1.map fun c:Nat=>.int .i64 (c:Int))),(4,.vec T.gO 1 z.2.1),(0,.box T.dc [.v (.slice am M.length cm),.v (.int .i64 n)]),(1,.box T.dN [.v (.slice none 0 0),.v (.int .i64 0),.v (.slice none 0 0),.v (.slice none 0 0)]),(3,.arr T.int (z.2.2.2.1.map J0))],6,z.2.2.2.2.2.2,z.2.2.2.2.2.1⟩,fun z=>M.length-z.1,
  fun z=>z.1<=M.length∧(z.2.2.1,z.2.2.2.1,z.2.2.2.2.1)=fu M cols z.1∧cV w.heap.size w z.2.2.2.2.2.1∧kj z.2.2.2.2.2.1 S w.heap.size z.2.2.2.2.2.2 z.2.1 n z.2.2.1,?_,?_⟩
 ·intro O w' r
  exact⟨(0,[],[],List.replicate cols none,[],w',[]),⟨aP _,rfl,hw.tr r.cM,kj.nil⟩,Sub.zx 2 0 T.gO 1 rfl rfl (by simp[jn,SV.sc,At.sc]) r fun ρ1 r1=>Sub.zx 2 3 T.int 1 rfl rfl (by simp[jn,SV.sc,At.sc]) r1 fun ρ2 r2=>
   Sub.gn [] r2 ⟨rfl,rfl,rfl,rfl,rfl,by simp[J0];rfl,trivial⟩⟩
 rintro⟨i,rv,E,at_,fr,w1,iv⟩ ⟨hi,hred,hw,hE⟩;dsimp only at hi hred hw hE ⊢;have hok:=xz cols hlen i hi;rw[<-hred]at hok;have hatl:at_.length=cols:=hok.at_;have hfrl:fr.length=E.length:=hok.tk;have hEi:E.length<=i:=hok.le;have hrl:rv.length=E.length:=hE.len;have hEb:∀r∈E,∀q∈r,rl q+1<=h:=by have:=hB.rows i hi;rwa [<-hred]at this
 refine dI.mk (fun hib=>?_) (fun hib=>?_)
 ·have hib:i<M.length:=by simpa using hib
  obtain⟨x,hx⟩:∃r,M[i]? =some r:=⟨_,aB hib⟩
  have hxl:=hlen x (aD hx);have hxd:M.getD i []=x:=by rw[List.getD,hx];rfl
  have hcb:∀k,k<=cols->∀q∈fI E at_ x k,rl q+1<=h:=by have:=hB.lE i hib;rwa [<-hred,hxd]at this
  have hcll:∀k,(fI E at_ x k).length=n:=fun k=>by rw[gW,hxl]
  obtain⟨adm,um,ham,hRm,km1,km2⟩:=jq.load hM hx;obtain⟨css,⟨-,g1,g2,a0,c0,rfl,g4,g5⟩,hcl,hc4,hcs⟩:=hRm;have hfl:=e9 hc4;refine⟨adm,ham,by omega,.slice a0 x.length c0,rd1 km2 hw (hC _ km1),?_⟩;refine .inl ?_;refine⟨css.flatten,g1,g2,fun O w' r hpos=>?_,?_⟩
  ·obtain⟨u0,hu0⟩:∃u,css.flatten[0]? =some u:=⟨_,aB (by omega)⟩
   obtain⟨ad,ha,_,_⟩:=g5 0 u0 hu0;refine⟨ad,ha,fun j u hj=>?_⟩;obtain⟨ad2,ha2,q1,q2⟩:=g5 j u hj;rw[ha]at ha2;injection ha2 with ha2;subst ha2;rw[cH (w:=w) (w2:=w') (by rw[dQ];exact(hw.tr r.cM).block _ (hS _ q1))];exact q2
  refine⟨rfl,by omega,by unfold maxLen;omega,?_⟩;rw[aV x.length,hxl]
  refine⟨Nat×Nat×Nat×World×Iv,fun z=>⟨[(9,.o (.v (.slice (some ⟨z.2.1,0,none⟩) n z.2.2.1))),(46,.o (.v (.int .i64 cols))),(47,.o (.v (.int .i64 ((z.1:Nat):Int)))),(2,.o (.p 0 0)),(4,.o (.p 1 0)),(5,.o (.p 2 0)),(6,.o (.s 3 0 cols cols)),(8,.o (.v (.int .i64 ((i:Nat):Int)))),(36,.o (.v (.slice am M.length cm))),(37,.o (.v (.int .i64 M.length))),(38,.o (.v (.int .i64 ((i:Nat):Int)))),(1,.o (.v (.int .i64 cols)))],[(2,.box T.dN [.w 4 rv.length,.v (.int .i64 n),.v (.slice none 0 0),.w 5 fr.length]),(5,.vec T.int 1 (fr.map fun c:Nat=>.int .i64 (c:Int))),(4,.vec T.gO 1 rv),(0,.box T.dc [.v (.slice am M.length cm),.v (.int .i64 n)]),(1,.box T.dN [.v (.slice none 0 0),.v (.int .i64 0),.v (.slice none 0 0),.v (.slice none 0 0)]),(3,.arr T.int (at_.map J0))],8,z.2.2.2.2,z.2.2.2.1⟩,fun z=>cols-z.1,
   fun z=>z.1<=cols∧cV w.heap.size w z.2.2.2.1∧kj z.2.2.2.1 S w.heap.size z.2.2.2.2 (rv++[.slice (some ⟨z.2.1,0,none⟩) n z.2.2.1]) n (E++[fI E at_ x z.1]),?_,?_⟩
  ·intro O w' r;have hv:=MF (S:=S) (m:=n) (qs:=x) (css:=css) r (id:=7) rfl (by omega) hn0 (by unfold maxLen;omega) ⟨hcl,fun j cs q k1 k2=>(hcs j cs q k1 k2).cG fun g hg=>(hw.tr r.cM).block g (hS g hg)⟩
   exact⟨(0,(O 7).g,(O 7).cap,w',((O 7).g,(O 7).g+1)::iv),⟨aP _,hw.tr r.cM,(hE.rel r hS).push (fun g hg e=>Rel.not r hS hg 7 _ rfl hv.1 e.symm) hv.2.1 hv.2.2.2 hS⟩,
    Sub.ME r (id:=7) (t:=9) (cs:=css.flatten) rfl hv.1 rfl ⟨rfl,rfl,rfl,rfl,rfl,rfl,trivial⟩ rfl ⟨rfl,rfl,rfl,rfl,rfl,rfl,rfl,rfl,rfl,rfl,rfl,trivial⟩ (by simp[jn,SV.sc,At.sc])⟩
  rintro⟨k,gx,cx,w2,iv⟩ ⟨hk,hw,hE⟩;dsimp only at hk hw hE ⊢;refine dI.mk (fun hkb=>?_) (fun hkb=>?_)
  ·have hkb:k<cols:=by simpa using hkb
   obtain⟨o,ho⟩:∃o,at_[k]? =some o:=⟨_,aB (by omega)⟩
   refine⟨by omega,J0 o,by rw[aF,aU,aV,aN,ho];rfl,?_⟩
   cases o with
   |none=>
    refine⟨((k+1:Nat):Int),wo,?_⟩;intro ρ3 w3 r3;exact⟨(k+1,gx,cx,w3,_),⟨hkb,hw.tr r3.cM,by dsimp only;rw[Ek ho];exact hE.rel r3 hS⟩,Sub.gn [] r3,by dsimp only;omega⟩
   |some j=>
    have hj:j<E.length:=hok.lt k j ho;have hq:∃q,(fI E at_ x k)[k]? =some q:=⟨_,aB (by rw[hcll];omega)⟩
    obtain⟨q,hq⟩:=hq;have hqd:(fI E at_ x k).getD k 0=q:=by rw[List.getD,hq];rfl
    have hql:=hcb k hk q (aD hq);have hvr:(rv++[.slice (some ⟨gx,0,none⟩) n cx])[rv.length]? =some (.slice (some ⟨gx,0,none⟩) n cx):=by simp
    have hxr:(E++[fI E at_ x k])[rv.length]? =some (fI E at_ x k):=by rw[hrl];simp
    obtain⟨ad,cs,had,hF,hl⟩:=hE.load hvr hxr hq;obtain⟨f0,f1,f2,f3,f4,f5,f6,f7,rfl,hF⟩:=hF;refine⟨ad,had,by omega,[.bool f0,.slice f1 f2 f3,.bool f4,.slice f5 f6 f7],rfl,fun O w' r t u hu=>?_,?_⟩
    ·obtain⟨k1,k2⟩:=hl t u hu;rw[aF,cH (w:=w2) (w2:=w') (by rw[dQ,dQ];exact Rel.same r (fz _) k1)];exact k2
    refine cC (cE hw (fun _ w' v w2=>∃d,v= .bool d∧(d=true↔q=0)) (fun O w' r=>qD (Lr.old r hS) ((hF.D7 r hS).l (by omega))) ?_);rintro O wa1 v1 wb1 iv1 r he hw h_ ⟨d,rfl,hz⟩;replace hE:=hE.cF r hS he (mC h_);replace hF:=hF.K1 r hS he (mC h_)
    cases d
    ·have hq0:q≠0:=fun e=>by have:=hz.2 e;cases this
     obtain⟨vj,hvj⟩:∃v,rv[j]? =some v:=⟨_,aB (by omega)⟩
     have hvj2:(rv++[.slice (some ⟨gx,0,none⟩) n cx])[j]? =some vj:=by rw[aM (by omega)];exact hvj
     obtain⟨ej,hej⟩:∃v,E[j]? =some v:=⟨_,aB hj⟩
     have hej2:(E++[fI E at_ x k])[j]? =some ej:=by rw[aM hj];exact hej
     have hejd:E.getD j []=ej:=by rw[List.getD,hej];rfl
     obtain⟨aj,cj,rfl⟩:=hE.form hvj2;obtain⟨ad,cs,had,hF,hl⟩:=hE.load hvr hxr hq;obtain⟨f0,f1,f2,f3,f4,f5,f6,f7,rfl,hF⟩:=hF;refine cJ hτ db [.x 0,.x 1,.x 2,.x 3,.x 4,.x 5,.x 6,.x 7,.x 8,.x 9,.x 10,.x 11] (by kernel_rfl) (by kernel_rfl) ?_;refine⟨by simp,by omega,.slice aj n cj,by simpa using hvj,ad,had,by omega,[.bool f0,.slice f1 f2 f3,.bool f4,.slice f5 f6 f7],rfl,fun O w' r t u hu=>?_,?_⟩
     ·obtain⟨k1,k2⟩:=hl t u hu;rw[aF,cH (w:=wb1) (w2:=w') (by rw[dQ,dQ];exact Rel.same r (fz _) k1)];exact k2
     refine⟨fun O w' r=>?_⟩;refine(hE.Bx r hS (i:=rv.length) (j:=j) (h:=h) (by omega) hvr hvj2 hxr hej2 (hF.l (by omega)) (fun y hy=>hcb k hk y hy) (fun y hy=>hEb ej (aD hej) y hy) hql hh).mono fun e w8 he=>?_;obtain⟨rfl,hgr,hmi,hE2⟩:=he;have hw2:=(hw.tr r.cM).tr (hE.cM r hgr hmi);refine⟨.tuple #[],_,(w'.heap.size,w8.heap.size)::iv1,rfl,r.D8 (fun x hx=>Rel.not r (fz _) (hE.new x (hmi x hx))) hgr,?_⟩;have hnext:(E++[fI E at_ x k]).set rv.length (lJ (fI E at_ x k) ej q)=E++[fI E at_ x (k+1)]:=by rw[hrl,D6,zF ho,hejd,hqd]
     rw[hnext]at hE2;generalize (w'.heap.size,w8.heap.size)::iv1=iv9 at*
     refine⟨((k+1:Nat):Int),wo,?_⟩;intro ρ3 w3 r3;exact⟨(k+1,gx,cx,w3,_),⟨hkb,hw2.tr r3.cM,hE2.rel r3 hS⟩,Sub.gn [] r3,by dsimp only;omega⟩
    ·have hq0:q=0:=hz.1 rfl;refine⟨((k+1:Nat):Int),wo,?_⟩;intro ρ3 w3 r3;exact⟨(k+1,gx,cx,w3,_),⟨hkb,hw.tr r3.cM,by dsimp only;rw[zF ho,hqd,hq0,xx];exact hE.rel r3 hS⟩,Sub.gn [] r3,by dsimp only;omega⟩
  have hkb:k=cols:=aR hk (by simpa using hkb);rw[hkb]at hE;obtain⟨y,hy⟩:∃y,fI E at_ x cols=y:=⟨_,rfl⟩
  have hyl:y.length=n:=by rw[<-hy];exact hcll cols
  have hyb:∀q∈y,rl q+1<=h:=by rw[<-hy];exact hcb cols (aG _)
  rw[hy]at hE;have hvr:(rv++[.slice (some ⟨gx,0,none⟩) n cx])[rv.length]? =some (.slice (some ⟨gx,0,none⟩) n cx):=by simp
  refine⟨Nat×World×Iv,fun z=>⟨[(9,.o (.v (.slice (some ⟨gx,0,none⟩) n cx))),(12,.o (.v (.int .i64 ((z.1:Nat):Int)))),(2,.o (.p 0 0)),(4,.o (.p 1 0)),(5,.o (.p 2 0)),(6,.o (.s 3 0 cols cols)),(8,.o (.v (.int .i64 ((i:Nat):Int)))),(36,.o (.v (.slice am M.length cm))),(37,.o (.v (.int .i64 M.length))),(38,.o (.v (.int .i64 ((i:Nat):Int)))),(1,.o (.v (.int .i64 cols)))],[(2,.box T.dN [.w 4 rv.length,.v (.int .i64 n),.v (.slice none 0 0),.w 5 fr.length]),(5,.vec T.int 1 (fr.map fun c:Nat=>.int .i64 (c:Int))),(4,.vec T.gO 1 rv),(0,.box T.dc [.v (.slice am M.length cm),.v (.int .i64 n)]),(1,.box T.dN [.v (.slice none 0 0),.v (.int .i64 0),.v (.slice none 0 0),.v (.slice none 0 0)]),(3,.arr T.int (at_.map J0))],8,z.2.2,z.2.1⟩,fun z=>cols-z.1,
   fun z=>z.1<=cols∧(∀t,t<z.1->y.getD t 0=0)∧cV w.heap.size w z.2.1∧kj z.2.1 S w.heap.size z.2.2 (rv++[.slice (some ⟨gx,0,none⟩) n cx]) n (E++[y]),?_,?_⟩
  ·intro O w' r3;exact⟨(0,w',_),⟨aP _,fun t ht=>absurd ht (Nat.not_lt_zero t),hw.tr r3.cM,hE.rel r3 hS⟩,Sub.gn [] r3⟩
  rintro⟨pv,w3,iv⟩ ⟨hp,hpz,hw,hE⟩;dsimp only at hp hpz hw hE ⊢;have hxr:(E++[y])[rv.length]? =some y:=by rw[hrl];simp
  refine dI.mk (fun hpb=>?_) (fun hpb=>?_)
  ·have hpb:pv<cols:=by simpa using hpb
   obtain⟨q,hq⟩:∃q,y[pv]? =some q:=⟨_,aB (by omega)⟩
   have hqd:y.getD pv 0=q:=by rw[List.getD,hq];rfl
   have hql:=hyb q (aD hq);obtain⟨ad,cs,had,hF,hl⟩:=hE.load hvr hxr hq;obtain⟨f0,f1,f2,f3,f4,f5,f6,f7,rfl,hF⟩:=hF;refine⟨ad,had,by omega,[.bool f0,.slice f1 f2 f3,.bool f4,.slice f5 f6 f7],rfl,fun O w' r t u hu=>?_,?_⟩
   ·obtain⟨k1,k2⟩:=hl t u hu;rw[aF,cH (w:=w3) (w2:=w') (by rw[dQ,dQ];exact Rel.same r (fz _) k1)];exact k2
   refine cC (cE hw (fun _ w' v w2=>∃d,v= .bool d∧(d=true↔q=0)) (fun O w' r=>qD (Lr.old r hS) ((hF.D7 r hS).l (by omega))) ?_);rintro O wa2 v2 wb2 iv2 r he hw h_ ⟨d,rfl,hz⟩;replace hE:=hE.cF r hS he (mC h_)
   cases d
   ·have hq0:q≠0:=fun e=>by have:=hz.2 e;cases this
    refine dI.mk (fun he=>?_) (fun he=>?_)
    ·have he:(pv:Int)=cols:=by simpa using he
     omega
    have hpiv:sS y cols=pv:=Fa hpz hp fun _=>by rw[hqd];exact hq0
    have hpush:=Em hred hxd hy hpiv (by omega);rw[hqd]at hpush;obtain⟨u,hu⟩:∃u,y.map (· / q)=u:=⟨_,rfl⟩
    rw[hu]at hpush;have hul:u.length=n:=by rw[<-hu,aL,hyl]
    have hub:∀q∈u,rl q+1<=h:=by
     have:=hB.rows (i+1) hib u (by rw[hpush];simp);exact this
    obtain⟨ad,cs,had,hF,hl⟩:=hE.load hvr hxr hq;obtain⟨f0,f1,f2,f3,f4,f5,f6,f7,rfl,hF⟩:=hF;refine⟨ad,had,by omega,[.bool f0,.slice f1 f2 f3,.bool f4,.slice f5 f6 f7],rfl,fun O w' r t u hu=>?_,?_⟩
    ·obtain⟨k1,k2⟩:=hl t u hu;rw[aF,cH (w:=wb2) (w2:=w') (by rw[dQ,dQ];exact Rel.same r (fz _) k1)];exact k2
    refine⟨Nat×World×Iv,fun z=>⟨[(9,.o (.v (.slice (some ⟨gx,0,none⟩) n cx))),(12,.o (.v (.int .i64 ((pv:Nat):Int)))),(13,.o (.p 8 0)),(97,.o (.v (.int .i64 n))),(98,.o (.v (.int .i64 ((z.1:Nat):Int)))),(2,.o (.p 0 0)),(4,.o (.p 1 0)),(5,.o (.p 2 0)),(6,.o (.s 3 0 cols cols)),(8,.o (.v (.int .i64 ((i:Nat):Int)))),(36,.o (.v (.slice am M.length cm))),(37,.o (.v (.int .i64 M.length))),(38,.o (.v (.int .i64 ((i:Nat):Int)))),(1,.o (.v (.int .i64 cols)))],[(8,.box T.Rat [.v (.bool f0),.v (.slice f1 f2 f3),.v (.bool f4),.v (.slice f5 f6 f7)]),(2,.box T.dN [.w 4 rv.length,.v (.int .i64 n),.v (.slice none 0 0),.w 5 fr.length]),(5,.vec T.int 1 (fr.map fun c:Nat=>.int .i64 (c:Int))),(4,.vec T.gO 1 rv),(0,.box T.dc [.v (.slice am M.length cm),.v (.int .i64 n)]),(1,.box T.dN [.v (.slice none 0 0),.v (.int .i64 0),.v (.slice none 0 0),.v (.slice none 0 0)]),(3,.arr T.int (at_.map J0))],9,z.2.2,z.2.1⟩,fun z=>n-z.1,
     fun z=>z.1<=n∧cV w.heap.size w z.2.1∧kj z.2.1 S w.heap.size z.2.2 (rv++[.slice (some ⟨gx,0,none⟩) n cx]) n (E++[gS z.1 (fun _ r=>r / q) y])∧cP z.2.1 (Lr S w.heap.size z.2.2 (rv++[.slice (some ⟨gx,0,none⟩) n cx])) (.agg #[.bool f0,.slice f1 f2 f3,.bool f4,.slice f5 f6 f7]) q,?_,?_⟩
    ·intro O w' r3;exact⟨(0,w',_),⟨aP _,hw.tr r3.cM,by dsimp only;rw[rf];exact hE.rel r3 hS,hF.D7 r3 hS⟩,Sub.gn [] r3⟩
    rintro⟨k,w4,iv⟩ ⟨hk,hw,hE,hF⟩;dsimp only at hk hw hE hF ⊢;have hxr:(E++[gS k (fun _ r=>r / q) y])[rv.length]? =some (gS k (fun _ r=>r / q) y):=by rw[hrl];simp
    refine dI.mk (fun hkb=>?_) (fun hkb=>?_)
    ·have hkb:k<n:=by simpa using hkb
     obtain⟨t,ht⟩:∃q,y[k]? =some q:=⟨_,aB (by omega)⟩
     have htl:=hyb t (aD ht);obtain⟨ad,cs,had,hG,hl⟩:=hE.load hvr hxr (zE ht);obtain⟨g0,g1,g2,g3,g4,g5,g6,g7,rfl,hG⟩:=hG;refine cJ hτ db [.x 0,.x 1,.x 2,.x 3,.x 4,.x 5,.x 6,.x 7,.x 8,.x 9] (by kernel_rfl) (by kernel_rfl) ?_;refine⟨ad,had,by omega,[.bool g0,.slice g1 g2 g3,.bool g4,.slice g5 g6 g7],rfl,fun O w' r t u hu=>?_,?_⟩
     ·obtain⟨k1,k2⟩:=hl t u hu;rw[aF,cH (w:=w4) (w2:=w') (by rw[dQ,dQ];exact Rel.same r (fz _) k1)];exact k2
     refine cL (Φ:=fun _ w' v w2=>cP w2 (Nf w' w2) v (t / q)) (fun O w' r=>I0 (Lr.old r hS) ((hG.D7 r hS).l (by omega)) ((hF.D7 r hS).l (by omega)) hq0) ?_;rintro O wa3 v3 wb3 r he hb hn2;replace hw:=hw.tr hb;have hd:=hn2.Mc (S0:=S) hE r;replace hE:=hE.cF (iv':=(wa3.heap.size,wb3.heap.size)::iv) r hS he fun x hx=>aC _ hx;replace hF:=hF.K1 (iv':=(wa3.heap.size,wb3.heap.size)::iv) r hS he fun x hx=>aC _ hx;generalize (wa3.heap.size,wb3.heap.size)::iv=iv3 at*
     obtain⟨s3_0,s3_1,s3_2,s3_3,s3_4,s3_5,s3_6,s3_7,rfl⟩:=hd.shape;refine⟨⟨gx,0,none⟩,rfl,by omega,?_⟩;intro O w' r;obtain⟨g,hg,h1,h2,h3,h4⟩:=hE.store r hS hvr hxr hkb hd;injection hg with hg;injection hg with hg;subst hg;refine⟨h1,h2,h3,fun w5 hw5=>?_⟩;obtain⟨k1,k2,k3,k4⟩:=h4 w5 hw5;have hw2:=(hw.tr r.cM).tr k2;have hF2:=hF.cG k4;have hnext:(E++[gS k (fun _ r=>r / q) y]).set rv.length ((gS k (fun _ r=>r / q) y).set k (t / q))=E++[gS (k+1) (fun _ r=>r / q) y]:=by rw[hrl,D6,<-nZ ht]
     rw[hnext]at k1;refine⟨((k+1:Nat):Int),wo,?_⟩;intro ρ3 w6 r3;exact⟨(k+1,w6,_),⟨hkb,hw2.tr r3.cM,k1.rel r3 hS,hF2.D7 r3 hS⟩,Sub.gn [] r3,by dsimp only;omega⟩
    have hkb:k=n:=aR hk (by simpa using hkb);rw[hkb,<-hyl,I7,hu,hyl]at hE
    refine⟨by simp,Nat×World×Iv,fun z=>⟨[(9,.o (.v (.slice (some ⟨gx,0,none⟩) n cx))),(12,.o (.v (.int .i64 ((pv:Nat):Int)))),(113,.o (.w 4 rv.length)),(114,.o (.v (.int .i64 rv.length))),(115,.o (.v (.int .i64 ((z.1:Nat):Int)))),(2,.o (.p 0 0)),(4,.o (.p 1 0)),(5,.o (.p 2 0)),(6,.o (.s 3 0 cols cols)),(8,.o (.v (.int .i64 ((i:Nat):Int)))),(36,.o (.v (.slice am M.length cm))),(37,.o (.v (.int .i64 M.length))),(38,.o (.v (.int .i64 ((i:Nat):Int)))),(1,.o (.v (.int .i64 cols)))],[(2,.box T.dN [.w 4 rv.length,.v (.int .i64 n),.v (.slice none 0 0),.w 5 fr.length]),(5,.vec T.int 1 (fr.map fun c:Nat=>.int .i64 (c:Int))),(4,.vec T.gO 1 rv),(0,.box T.dc [.v (.slice am M.length cm),.v (.int .i64 n)]),(1,.box T.dN [.v (.slice none 0 0),.v (.int .i64 0),.v (.slice none 0 0),.v (.slice none 0 0)]),(3,.arr T.int (at_.map J0))],9,z.2.2,z.2.1⟩,fun z=>rv.length-z.1,
     fun z=>z.1<=rv.length∧cV w.heap.size w z.2.1∧kj z.2.1 S w.heap.size z.2.2 (rv++[.slice (some ⟨gx,0,none⟩) n cx]) n (fh E u pv z.1++[u]),?_,?_⟩
    ·intro O w' r3;exact⟨(0,w',_),⟨aP _,hw.tr r3.cM,by dsimp only;rw[E0];exact hE.rel r3 hS⟩,Sub.gn [] r3⟩
    rintro⟨j,w5,iv⟩ ⟨hj,hw,hE⟩;dsimp only at hj hw hE ⊢;refine dI.mk (fun hjb=>?_) (fun hjb=>?_)
    ·have hjb:j<rv.length:=by simpa using hjb
     obtain⟨ej,hej⟩:∃v,E[j]? =some v:=⟨_,aB (by omega)⟩
     have hel:ej.length=n:=hok.len ej (aD hej);have heb:=hEb ej (aD hej);obtain⟨vj,hvj⟩:∃v,rv[j]? =some v:=⟨_,aB hjb⟩
     have hvj2:(rv++[.slice (some ⟨gx,0,none⟩) n cx])[j]? =some vj:=by rw[aM hjb];exact hvj
     have hej2:(fh E u pv j++[u])[j]? =some ej:=by rw[aM (by rw[fS];omega)];exact DC hej
     have hur:(fh E u pv j++[u])[rv.length]? =some u:=by rw[hrl,<-fS E u pv j];simp
     obtain⟨t,ht⟩:∃q,ej[pv]? =some q:=⟨_,aB (by omega)⟩
     have htd:ej.getD pv 0=t:=by rw[List.getD,ht];rfl
     have htl:=heb t (aD ht);obtain⟨aj,cj,rfl⟩:=hE.form hvj2;obtain⟨ad,cs,had,hG,hl⟩:=hE.load hvj2 hej2 ht;obtain⟨g0,g1,g2,g3,g4,g5,g6,g7,rfl,hG⟩:=hG;refine⟨by simp,by omega,.slice aj n cj,by simpa using hvj,ad,had,by omega,[.bool g0,.slice g1 g2 g3,.bool g4,.slice g5 g6 g7],rfl,fun O w' r t u hu=>?_,?_⟩
     ·obtain⟨k1,k2⟩:=hl t u hu;rw[aF,cH (w:=w5) (w2:=w') (by rw[dQ,dQ];exact Rel.same r (fz _) k1)];exact k2
     refine cC (cE hw (fun _ w' v w2=>∃d,v= .bool d∧(d=true↔t=0)) (fun O w' r=>qD (Lr.old r hS) ((hG.D7 r hS).l (by omega))) ?_);rintro O wa4 v4 wb4 iv4 r he hw h_ ⟨d,rfl,hz⟩;replace hE:=hE.cF r hS he (mC h_)
     cases d
     ·have ht0:t≠0:=fun e=>by have:=hz.2 e;cases this
      obtain⟨ad,cs,had,hG,hl⟩:=hE.load hvj2 hej2 ht;obtain⟨g0,g1,g2,g3,g4,g5,g6,g7,rfl,hG⟩:=hG;refine⟨ad,had,by omega,[.bool g0,.slice g1 g2 g3,.bool g4,.slice g5 g6 g7],rfl,fun O w' r t u hu=>?_,?_⟩
      ·obtain⟨k1,k2⟩:=hl t u hu;rw[aF,cH (w:=wb4) (w2:=w') (by rw[dQ,dQ];exact Rel.same r (fz _) k1)];exact k2
      refine⟨fun O w' r=>?_⟩;refine(hE.Bx r hS (i:=j) (j:=rv.length) (h:=h) (by omega) hvj2 hvr hej2 hur (hG.l (by omega)) heb hub htl hh).mono fun e w8 he=>?_;obtain⟨rfl,hgr,hmi,hE2⟩:=he;have hw2:=(hw.tr r.cM).tr (hE.cM r hgr hmi);refine⟨.tuple #[],_,(w'.heap.size,w8.heap.size)::iv4,rfl,r.D8 (fun x hx=>Rel.not r (fz _) (hE.new x (hmi x hx))) hgr,?_⟩;have hnext:(fh E u pv j++[u]).set j (lJ ej u t)=fh E u pv (j+1)++[u]:=by rw[I6 _ _ (by rw[fS];omega),xy hej,htd]
      rw[hnext]at hE2;generalize (w'.heap.size,w8.heap.size)::iv4=iv9 at*
      refine⟨((j+1:Nat):Int),wo,?_⟩;intro ρ3 w6 r3;exact⟨(j+1,w6,_),⟨hjb,hw2.tr r3.cM,hE2.rel r3 hS⟩,Sub.gn [] r3,by dsimp only;omega⟩
     ·have ht0:t=0:=hz.1 rfl;refine⟨((j+1:Nat):Int),wo,?_⟩;intro ρ3 w6 r3;exact⟨(j+1,w6,_),⟨hjb,hw.tr r3.cM,by dsimp only;rw[En hej (by rw[htd,ht0])];exact hE.rel r3 hS⟩,Sub.gn [] r3,by dsimp only;omega⟩
    have hjb:j=E.length:=by have:=aR hj (by simpa using hjb);omega
    rw[hjb]at hE;refine⟨by simp,by omega,by simp;omega,(at_.set pv (some rv.length)).map J0,?_,?_⟩
    ·rw[aF,aU,aV,List.map_set];exact fT (by simp;omega)
    refine iI hτ db (.x 0 (.x 1 (.x 3 (.x 6 (.x 8 (.ld 2 64544 (.ld 7 64512 (.two 4 (.two 5 (.x 11 (.x 12 (.x 9 (.x 10 (.x 13 (.x 14 (.x 15 .nil))))))) 9 (.x 5 (.x 11 (.x 12 (.x 10 (.x 13 (.x 14 (.x 15 .nil)))))))) 9 (.x 4 (.x 5 (.x 11 (.x 12 (.x 10 (.x 13 (.x 14 (.x 15 .nil)))))))))))))))) (by kernel_rfl) (by kernel_rfl) ?_;refine⟨?_,?_⟩
    ·refine⟨rfl,rfl,?_,?_⟩
     ·refine .inl ?_;refine⟨by simp,by omega,by unfold maxLen;omega,rfl,rfl,?_⟩;refine .inl ?_;refine⟨by simp,by omega,by unfold maxLen;omega,((i+1:Nat):Int),wo,?_⟩;intro ρ3 w6 r3;exact⟨(i+1,rv++[.slice (some ⟨gx,0,none⟩) n cx],fh E u pv E.length++[u],at_.set pv (some E.length),fr++[i],w6,_),⟨hib,hpush.symm,hw.tr r3.cM,hE.rel r3 hS⟩,Sub.gn [(4,10),(5,12)] r3 ⟨by dsimp only;rw[List.length_append,List.length_append,List.length_singleton,List.length_singleton];rfl,by dsimp only;rw[List.map_append];rfl,rfl,rfl,rfl,by dsimp only;rw[<-hrl];rfl,trivial⟩,by dsimp only;omega⟩
     ·refine⟨rfl,rfl,?_⟩;refine .inl ?_;refine⟨by simp,by omega,by unfold maxLen;omega,rfl,?_⟩;refine .inl ?_;refine⟨by simp,by omega,by unfold maxLen;omega,((i+1:Nat):Int),wo,?_⟩;intro ρ3 w6 r3;exact⟨(i+1,rv++[.slice (some ⟨gx,0,none⟩) n cx],fh E u pv E.length++[u],at_.set pv (some E.length),fr++[i],w6,_),⟨hib,hpush.symm,hw.tr r3.cM,hE.rel r3 hS⟩,Sub.gn [(4,11),(5,12)] r3 ⟨by dsimp only;rw[List.length_append,List.length_append,List.length_singleton,List.length_singleton];rfl,by dsimp only;rw[List.map_append];rfl,rfl,rfl,rfl,by dsimp only;rw[<-hrl];rfl,trivial⟩,by dsimp only;omega⟩
    ·refine⟨rfl,rfl,rfl,rfl,?_⟩;refine .inl ?_;refine⟨by simp,by omega,by unfold maxLen;omega,rfl,?_⟩;refine .inl ?_;refine⟨by simp,by omega,by unfold maxLen;omega,((i+1:Nat):Int),wo,?_⟩;intro ρ3 w6 r3;exact⟨(i+1,rv++[.slice (some ⟨gx,0,none⟩) n cx],fh E u pv E.length++[u],at_.set pv (some E.length),fr++[i],w6,_),⟨hib,hpush.symm,hw.tr r3.cM,hE.rel r3 hS⟩,Sub.gn [(4,11),(5,12)] r3 ⟨by dsimp only;rw[List.length_append,List.length_append,List.length_singleton,List.length_singleton];rfl,by dsimp only;rw[List.map_append];rfl,rfl,rfl,rfl,by dsimp only;rw[<-hrl];rfl,trivial⟩,by dsimp only;omega⟩
   ·have hq0:q=0:=hz.1 rfl;refine⟨((pv+1:Nat):Int),wo,?_⟩;intro ρ3 w4 r3
    exact⟨(pv+1,w4,_),⟨hpb,fun t ht=>by
     by_cases htp:t=pv
     ·rw[htp,hqd,hq0]
     ·exact hpz t (by dsimp only at ht;omega),hw.tr r3.cM,hE.rel r3 hS⟩,Sub.gn [] r3,by dsimp only;omega⟩
  have hpb:pv=cols:=aR hp (by simpa using hpb);have hpiv:sS y cols=cols:=Fa (k:=cols) (fun t ht=>hpz t (by omega)) (aG _) (fun h=>absurd h (Nat.lt_irrefl _));have hskip:=El hred hxd hy hpiv;refine dI.mk (fun he=>?_) (fun he=>by rw[hpb]at he;simp at he);refine⟨((i+1:Nat):Int),wo,?_⟩;intro ρ3 w4 r3;exact⟨(i+1,rv,E,at_,fr,w4,_),⟨hib,hskip,hw.tr r3.cM,hE.drop.rel r3 hS⟩,Sub.gn [] r3,by dsimp only;omega⟩
 have hib:i=M.length:=aR hi (by simpa using hib);subst hib;have hredS:dR M cols=cd (E,at_,fr) cols:=by rw[dR,<-hred]
 have hlt:∀(k r:Nat),at_[k]? =some (some r)->r<E.length:=hok.lt;have hsl:∀k,k<=cols->(cd (E,at_,fr) k).1.length=(cd (E,at_,fr) k).2.1.length∧(cd (E,at_,fr) k).2.2.length=(cd (E,at_,fr) k).2.1.length∧(jy rv at_ k).length=(cd (E,at_,fr) k).2.1.length∧(cd (E,at_,fr) k).2.1.length<=k:=fun k hk=>tT (E,at_,fr) rv k (by dsimp only;omega)
 refine⟨Nat×World,fun z=>⟨[(4,.o (.p 1 0)),(5,.o (.p 2 0)),(17,.o (.p 6 0)),(159,.o (.s 3 0 cols cols)),(160,.o (.v (.int .i64 cols))),(161,.o (.v (.int .i64 ((z.1:Nat):Int))))],[(6,.box T.dN [.w 7 (cd (E,at_,fr) z.1).2.1.length,.v (.int .i64 n),.w 8 (cd (E,at_,fr) z.1).2.1.length,.w 9 (cd (E,at_,fr) z.1).2.1.length]),(9,.vec T.int 1 ((cd (E,at_,fr) z.1).2.2.map fun c:Nat=>.int .i64 (c:Int))),(8,.vec T.int 1 ((cd (E,at_,fr) z.1).2.1.map fun c:Nat=>.int .i64 (c:Int))),(7,.vec T.gO 1 (jy rv at_ z.1)),(2,.box T.dN [.w 4 rv.length,.v (.int .i64 n),.v (.slice none 0 0),.w 5 fr.length]),(5,.vec T.int 1 (fr.map fun c:Nat=>.int .i64 (c:Int))),(4,.vec T.gO 1 rv),(1,.box T.dN [.v (.slice none 0 0),.v (.int .i64 0),.v (.slice none 0 0),.v (.slice none 0 0)]),(3,.arr T.int (at_.map J0))],10,iv,z.2⟩,fun z=>cols-z.1,
  fun z=>z.1<=cols∧cV w.heap.size w z.2∧kj z.2 S w.heap.size iv rv n E,?_,?_⟩
 ·intro O w' r
  exact⟨(0,w'),⟨aP _,hw.tr r.cM,hE.rel r hS⟩,Sub.zx 6 0 T.gO 1 rfl rfl (by simp[jn,SV.sc,At.sc]) r fun ρ1 r1=>Sub.zx 6 2 T.int 1 rfl rfl (by simp[jn,SV.sc,At.sc]) r1 fun ρ2 r2=>Sub.zx 6 3 T.int 1 rfl rfl (by simp[jn,SV.sc,At.sc]) r2 fun ρ3 r3=>
   Sub.gn [] r3⟩
 rintro⟨k,w1⟩ ⟨hk,hw,hE⟩;dsimp only at hk hw hE ⊢;obtain⟨q1,q2,q3,q4⟩:=hsl k hk;refine dI.mk (fun hkb=>?_) (fun hkb=>?_)
 ·have hkb:k<cols:=by simpa using hkb
  obtain⟨o,ho⟩:∃o,at_[k]? =some o:=⟨_,aB (by omega)⟩
  refine⟨by omega,J0 o,by rw[aF,aU,aV,aN,ho];rfl,?_⟩
  cases o with
  |none=>
   refine⟨((k+1:Nat):Int),wo,?_⟩;have hs1:=l9 (s:=(E,at_,fr)) ho;have hs2:=rh (rv:=rv) ho;intro ρ3 w3 r3;exact⟨(k+1,w3),⟨hkb,hw.tr r3.cM,hE.rel r3 hS⟩,Sub.gn [] r3 ⟨by dsimp only;rw[hs1];rfl,by dsimp only;rw[hs1];rfl,by dsimp only;rw[hs1];rfl,by dsimp only;rw[hs2];rfl,rfl,rfl,rfl,rfl,rfl,trivial⟩,by dsimp only;omega⟩
  |some j=>
   have hj:j<E.length:=hlt k j ho;obtain⟨vj,hvj⟩:∃v,rv[j]? =some v:=⟨_,aB (by omega)⟩
   have hvjd:rv.getD j (.bool false)=vj:=by rw[List.getD,hvj];rfl
   obtain⟨aj,cj,rfl⟩:=hE.form hvj;obtain⟨fj,hfj⟩:∃v,fr[j]? =some v:=⟨_,aB (by omega)⟩
   have hfjd:fr.getD j 0=fj:=by rw[List.getD,hfj];rfl
   have hs1:=lf (s:=(E,at_,fr)) ho;have hs2:=rk (rv:=rv) ho;dsimp only at hs1;rw[hvjd]at hs2;rw[hfjd]at hs1;refine iI hτ db (.x 0 (.x 1 (.x 3 (.x 4 (.x 6 (.x 11 (.x 13 (.x 16 (.x 18 (.x 20 (.ld 2 4278223872 (.ld 5 4278224768 (.x 7 (.ld 8 4278224384 (.ld 12 4278222848 (.ld 17 4278190080 (.ld 19 4192206848 (.x 21 (.ld 22 4185915392 (.three 9 (.three 10 (.x 25 (.x 26 (.two 14 (.two 15 (.x 23 (.x 24 (.x 27 (.x 28 (.x 29 (.x 30 (.x 31 .nil))))))) 23 (.x 15 (.x 24 (.x 27 (.x 28 (.x 29 (.x 30 (.x 31 .nil)))))))) 23 (.x 14 (.x 15 (.x 24 (.x 27 (.x 28 (.x 29 (.x 30 (.x 31 .nil))))))))))) 14 (.two 10 (.x 25 (.x 26 (.two 15 (.x 23 (.x 24 (.x 27 (.x 28 (.x 29 (.x 30 (.x 31 .nil))))))) 23 (.x 15 (.x 24 (.x 27 (.x 28 (.x 29 (.x 30 (.x 31 .nil)))))))))) 23 (.x 10 (.x 25 (.x 26 (.x 15 (.x 24 (.x 27 (.x 28 (.x 29 (.x 30 (.x 31 .nil))))))))))) 23 (.two 10 (.x 25 (.x 26 (.x 14 (.x 15 (.x 24 (.x 27 (.x 28 (.x 29 (.x 30 (.x 31 .nil)))))))))) 14 (.x 10 (.x 25 (.x 26 (.x 15 (.x 24 (.x 27 (.x 28 (.x 29 (.x 30 (.x 31 .nil)))))))))))) 14 (.two 9 (.two 10 (.x 25 (.x 26 (.two 15 (.x 23 (.x 24 (.x 27 (.x 28 (.x 29 (.x 30 (.x 31 .nil))))))) 23 (.x 15 (.x 24 (.x 27 (.x 28 (.x 29 (.x 30 (.x 31 .nil)))))))))) 23 (.x 10 (.x 25 (.x 26 (.x 15 (.x 24 (.x 27 (.x 28 (.x 29 (.x 30 (.x 31 .nil))))))))))) 23 (.x 9 (.x 10 (.x 25 (.x 26 (.x 15 (.x 24 (.x 27 (.x 28 (.x 29 (.x 30 (.x 31 .nil)))))))))))) 23 (.two 9 (.two 10 (.x 25 (.x 26 (.x 14 (.x 15 (.x 24 (.x 27 (.x 28 (.x 29 (.x 30 (.x 31 .nil)))))))))) 14 (.x 10 (.x 25 (.x 26 (.x 15 (.x 24 (.x 27 (.x 28 (.x 29 (.x 30 (.x 31 .nil))))))))))) 14 (.x 9 (.x 10 (.x 25 (.x 26 (.x 15 (.x 24 (.x 27 (.x 28 (.x 29 (.x 30 (.x 31 .nil)))))))))))))))))))))))))))))))) (by kernel_rfl) (by kernel_rfl) ?_;refine⟨by simp,by omega,.slice aj n cj,by simpa using hvj,by simp,by omega,.int .i64 (fj:Int),by simp[hfj],?_,?_,?_⟩
   ·refine⟨.int .i64 (fj:Int),by simp[hfj],rfl,rfl,rfl,rfl,rfl,?_,?_,?_⟩
    ·refine .inl ?_;refine⟨by simp[q2,q3],by omega,by unfold maxLen;omega,.int .i64 (fj:Int),by simp[hfj],rfl,rfl,rfl,rfl,?_,?_⟩
     ·refine⟨.int .i64 (fj:Int),by simp[hfj],rfl,rfl,rfl,rfl,?_,?_⟩
      ·refine .inl ?_;refine⟨by simp[q2,q3],by omega,by unfold maxLen;omega,.int .i64 (fj:Int),by simp[hfj],rfl,rfl,rfl,rfl,?_⟩;refine .inl ?_;refine⟨by simp[q2,q3],by omega,by unfold maxLen;omega,((k+1:Nat):Int),wo,?_⟩;intro ρ3 w3 r3;exact⟨(k+1,w3),⟨hkb,hw.tr r3.cM,hE.rel r3 hS⟩,Sub.gn [(7,11),(8,13),(9,15)] r3 ⟨by dsimp only;rw[hs1,List.length_append,List.length_singleton];rfl,by dsimp only;rw[hs1,List.map_append];rfl,by dsimp only;rw[hs1,List.map_append];rfl,by dsimp only;rw[hs2];rfl,rfl,rfl,rfl,rfl,rfl,trivial⟩,by dsimp only;omega⟩
      ·refine⟨rfl,rfl,?_⟩;refine .inl ?_;refine⟨by simp[q2,q3],by omega,by unfold maxLen;omega,rfl,?_⟩;refine .inl ?_;refine⟨by simp[q2,q3],by omega,by unfold maxLen;omega,((k+1:Nat):Int),wo,?_⟩;intro ρ3 w3 r3;exact⟨(k+1,w3),⟨hkb,hw.tr r3.cM,hE.rel r3 hS⟩,Sub.gn [(7,11),(8,14),(9,15)] r3 ⟨by dsimp only;rw[hs1,List.length_append,List.length_singleton];rfl,by dsimp only;rw[hs1,List.map_append];rfl,by dsimp only;rw[hs1,List.map_append];rfl,by dsimp only;rw[hs2];rfl,rfl,rfl,rfl,rfl,rfl,trivial⟩,by dsimp only;omega⟩
     ·refine⟨rfl,rfl,rfl,rfl,?_⟩;refine .inl ?_;refine⟨by simp[q2,q3],by omega,by unfold maxLen;omega,rfl,?_⟩;refine .inl ?_;refine⟨by simp[q2,q3],by omega,by unfold maxLen;omega,((k+1:Nat):Int),wo,?_⟩;intro ρ3 w3 r3;exact⟨(k+1,w3),⟨hkb,hw.tr r3.cM,hE.rel r3 hS⟩,Sub.gn [(7,11),(8,14),(9,15)] r3 ⟨by dsimp only;rw[hs1,List.length_append,List.length_singleton];rfl,by dsimp only;rw[hs1,List.map_append];rfl,by dsimp only;rw[hs1,List.map_append];rfl,by dsimp only;rw[hs2];rfl,rfl,rfl,rfl,rfl,rfl,trivial⟩,by dsimp only;omega⟩
    ·refine⟨.int .i64 (fj:Int),by simp[hfj],rfl,rfl,rfl,rfl,rfl,?_,?_⟩
     ·refine .inl ?_;refine⟨by simp[q2,q3],by omega,by unfold maxLen;omega,.int .i64 (fj:Int),by simp[hfj],rfl,rfl,rfl,rfl,?_,?_⟩
      ·refine .inl ?_;refine⟨by simp[q2,q3],by omega,by unfold maxLen;omega,.int .i64 (fj:Int),by simp[hfj],rfl,rfl,rfl,rfl,?_⟩;refine .inl ?_;refine⟨by simp[q2,q3],by omega,by unfold maxLen;omega,((k+1:Nat):Int),wo,?_⟩;intro ρ3 w3 r3;exact⟨(k+1,w3),⟨hkb,hw.tr r3.cM,hE.rel r3 hS⟩,Sub.gn [(7,12),(8,13),(9,15)] r3 ⟨by dsimp only;rw[hs1,List.length_append,List.length_singleton];rfl,by dsimp only;rw[hs1,List.map_append];rfl,by dsimp only;rw[hs1,List.map_append];rfl,by dsimp only;rw[hs2];rfl,rfl,rfl,rfl,rfl,rfl,trivial⟩,by dsimp only;omega⟩
      ·refine⟨rfl,rfl,?_⟩;refine .inl ?_;refine⟨by simp[q2,q3],by omega,by unfold maxLen;omega,rfl,?_⟩;refine .inl ?_;refine⟨by simp[q2,q3],by omega,by unfold maxLen;omega,((k+1:Nat):Int),wo,?_⟩;intro ρ3 w3 r3;exact⟨(k+1,w3),⟨hkb,hw.tr r3.cM,hE.rel r3 hS⟩,Sub.gn [(7,12),(8,14),(9,15)] r3 ⟨by dsimp only;rw[hs1,List.length_append,List.length_singleton];rfl,by dsimp only;rw[hs1,List.map_append];rfl,by dsimp only;rw[hs1,List.map_append];rfl,by dsimp only;rw[hs2];rfl,rfl,rfl,rfl,rfl,rfl,trivial⟩,by dsimp only;omega⟩
     ·refine⟨rfl,rfl,rfl,?_⟩;refine .inl ?_;refine⟨by simp[q2,q3],by omega,by unfold maxLen;omega,rfl,rfl,?_⟩;refine .inl ?_;refine⟨by simp[q2,q3],by omega,by unfold maxLen;omega,rfl,?_⟩;refine .inl ?_;refine⟨by simp[q2,q3],by omega,by unfold maxLen;omega,((k+1:Nat):Int),wo,?_⟩;intro ρ3 w3 r3;exact⟨(k+1,w3),⟨hkb,hw.tr r3.cM,hE.rel r3 hS⟩,Sub.gn [(7,13),(8,14),(9,15)] r3 ⟨by dsimp only;rw[hs1,List.length_append,List.length_singleton];rfl,by dsimp only;rw[hs1,List.map_append];rfl,by dsimp only;rw[hs1,List.map_append];rfl,by dsimp only;rw[hs2];rfl,rfl,rfl,rfl,rfl,rfl,trivial⟩,by dsimp only;omega⟩
    ·refine⟨rfl,rfl,rfl,?_,?_⟩
     ·refine .inl ?_;refine⟨by simp[q2,q3],by omega,by unfold maxLen;omega,rfl,rfl,rfl,rfl,?_⟩;refine .inl ?_;refine⟨by simp[q2,q3],by omega,by unfold maxLen;omega,rfl,?_⟩;refine .inl ?_;refine⟨by simp[q2,q3],by omega,by unfold maxLen;omega,((k+1:Nat):Int),wo,?_⟩;intro ρ3 w3 r3;exact⟨(k+1,w3),⟨hkb,hw.tr r3.cM,hE.rel r3 hS⟩,Sub.gn [(7,12),(8,14),(9,15)] r3 ⟨by dsimp only;rw[hs1,List.length_append,List.length_singleton];rfl,by dsimp only;rw[hs1,List.map_append];rfl,by dsimp only;rw[hs1,List.map_append];rfl,by dsimp only;rw[hs2];rfl,rfl,rfl,rfl,rfl,rfl,trivial⟩,by dsimp only;omega⟩
     ·refine⟨rfl,rfl,rfl,?_⟩;refine .inl ?_;refine⟨by simp[q2,q3],by omega,by unfold maxLen;omega,rfl,rfl,?_⟩;refine .inl ?_;refine⟨by simp[q2,q3],by omega,by unfold maxLen;omega,rfl,?_⟩;refine .inl ?_;refine⟨by simp[q2,q3],by omega,by unfold maxLen;omega,((k+1:Nat):Int),wo,?_⟩;intro ρ3 w3 r3;exact⟨(k+1,w3),⟨hkb,hw.tr r3.cM,hE.rel r3 hS⟩,Sub.gn [(7,13),(8,14),(9,15)] r3 ⟨by dsimp only;rw[hs1,List.length_append,List.length_singleton];rfl,by dsimp only;rw[hs1,List.map_append];rfl,by dsimp only;rw[hs1,List.map_append];rfl,by dsimp only;rw[hs2];rfl,rfl,rfl,rfl,rfl,rfl,trivial⟩,by dsimp only;omega⟩
   ·refine⟨.int .i64 (fj:Int),by simp[hfj],rfl,rfl,rfl,rfl,.slice aj n cj,by simpa using hvj,rfl,rfl,rfl,?_,?_⟩
    ·refine⟨.int .i64 (fj:Int),by simp[hfj],rfl,rfl,rfl,rfl,rfl,?_,?_⟩
     ·refine .inl ?_;refine⟨by simp[q2,q3],by omega,by unfold maxLen;omega,.int .i64 (fj:Int),by simp[hfj],rfl,rfl,rfl,rfl,?_,?_⟩
      ·refine .inl ?_;refine⟨by simp[q2,q3],by omega,by unfold maxLen;omega,.int .i64 (fj:Int),by simp[hfj],rfl,rfl,rfl,rfl,?_⟩;refine .inl ?_;refine⟨by simp[q2,q3],by omega,by unfold maxLen;omega,((k+1:Nat):Int),wo,?_⟩;intro ρ3 w3 r3;exact⟨(k+1,w3),⟨hkb,hw.tr r3.cM,hE.rel r3 hS⟩,Sub.gn [(7,12),(8,13),(9,15)] r3 ⟨by dsimp only;rw[hs1,List.length_append,List.length_singleton];rfl,by dsimp only;rw[hs1,List.map_append];rfl,by dsimp only;rw[hs1,List.map_append];rfl,by dsimp only;rw[hs2];rfl,rfl,rfl,rfl,rfl,rfl,trivial⟩,by dsimp only;omega⟩
      ·refine⟨rfl,rfl,?_⟩;refine .inl ?_;refine⟨by simp[q2,q3],by omega,by unfold maxLen;omega,rfl,?_⟩;refine .inl ?_;refine⟨by simp[q2,q3],by omega,by unfold maxLen;omega,((k+1:Nat):Int),wo,?_⟩;intro ρ3 w3 r3;exact⟨(k+1,w3),⟨hkb,hw.tr r3.cM,hE.rel r3 hS⟩,Sub.gn [(7,12),(8,14),(9,15)] r3 ⟨by dsimp only;rw[hs1,List.length_append,List.length_singleton];rfl,by dsimp only;rw[hs1,List.map_append];rfl,by dsimp only;rw[hs1,List.map_append];rfl,by dsimp only;rw[hs2];rfl,rfl,rfl,rfl,rfl,rfl,trivial⟩,by dsimp only;omega⟩
     ·refine⟨rfl,rfl,rfl,?_⟩;refine .inl ?_;refine⟨by simp[q2,q3],by omega,by unfold maxLen;omega,rfl,rfl,?_⟩;refine .inl ?_;refine⟨by simp[q2,q3],by omega,by unfold maxLen;omega,rfl,?_⟩;refine .inl ?_;refine⟨by simp[q2,q3],by omega,by unfold maxLen;omega,((k+1:Nat):Int),wo,?_⟩;intro ρ3 w3 r3;exact⟨(k+1,w3),⟨hkb,hw.tr r3.cM,hE.rel r3 hS⟩,Sub.gn [(7,13),(8,14),(9,15)] r3 ⟨by dsimp only;rw[hs1,List.length_append,List.length_singleton];rfl,by dsimp only;rw[hs1,List.map_append];rfl,by dsimp only;rw[hs1,List.map_append];rfl,by dsimp only;rw[hs2];rfl,rfl,rfl,rfl,rfl,rfl,trivial⟩,by dsimp only;omega⟩
    ·refine⟨rfl,rfl,.slice aj n cj,by simpa using hvj,rfl,rfl,rfl,rfl,rfl,rfl,?_⟩;refine .inl ?_;refine⟨by simp[q2,q3],by omega,by unfold maxLen;omega,rfl,rfl,?_⟩;refine .inl ?_;refine⟨by simp[q2,q3],by omega,by unfold maxLen;omega,rfl,?_⟩;refine .inl ?_;refine⟨by simp[q2,q3],by omega,by unfold maxLen;omega,((k+1:Nat):Int),wo,?_⟩;intro ρ3 w3 r3;exact⟨(k+1,w3),⟨hkb,hw.tr r3.cM,hE.rel r3 hS⟩,Sub.gn [(7,13),(8,14),(9,15)] r3 ⟨by dsimp only;rw[hs1,List.length_append,List.length_singleton];rfl,by dsimp only;rw[hs1,List.map_append];rfl,by dsimp only;rw[hs1,List.map_append];rfl,by dsimp only;rw[hs2];rfl,rfl,rfl,rfl,rfl,rfl,trivial⟩,by dsimp only;omega⟩
   ·refine⟨rfl,rfl,.slice aj n cj,by simpa using hvj,rfl,rfl,rfl,?_,?_⟩
    ·refine⟨rfl,rfl,rfl,?_,?_⟩
     ·refine .inl ?_;refine⟨by simp[q2,q3],by omega,by unfold maxLen;omega,rfl,rfl,rfl,rfl,?_⟩;refine .inl ?_;refine⟨by simp[q2,q3],by omega,by unfold maxLen;omega,rfl,?_⟩;refine .inl ?_;refine⟨by simp[q2,q3],by omega,by unfold maxLen;omega,((k+1:Nat):Int),wo,?_⟩;intro ρ3 w3 r3;exact⟨(k+1,w3),⟨hkb,hw.tr r3.cM,hE.rel r3 hS⟩,Sub.gn [(7,12),(8,14),(9,15)] r3 ⟨by dsimp only;rw[hs1,List.length_append,List.length_singleton];rfl,by dsimp only;rw[hs1,List.map_append];rfl,by dsimp only;rw[hs1,List.map_append];rfl,by dsimp only;rw[hs2];rfl,rfl,rfl,rfl,rfl,rfl,trivial⟩,by dsimp only;omega⟩
     ·refine⟨rfl,rfl,rfl,?_⟩;refine .inl ?_;refine⟨by simp[q2,q3],by omega,by unfold maxLen;omega,rfl,rfl,?_⟩;refine .inl ?_;refine⟨by simp[q2,q3],by omega,by unfold maxLen;omega,rfl,?_⟩;refine .inl ?_;refine⟨by simp[q2,q3],by omega,by unfold maxLen;omega,((k+1:Nat):Int),wo,?_⟩;intro ρ3 w3 r3;exact⟨(k+1,w3),⟨hkb,hw.tr r3.cM,hE.rel r3 hS⟩,Sub.gn [(7,13),(8,14),(9,15)] r3 ⟨by dsimp only;rw[hs1,List.length_append,List.length_singleton];rfl,by dsimp only;rw[hs1,List.map_append];rfl,by dsimp only;rw[hs1,List.map_append];rfl,by dsimp only;rw[hs2];rfl,rfl,rfl,rfl,rfl,rfl,trivial⟩,by dsimp only;omega⟩
    ·refine⟨rfl,rfl,.slice aj n cj,by simpa using hvj,rfl,rfl,rfl,rfl,rfl,rfl,?_⟩;refine .inl ?_;refine⟨by simp[q2,q3],by omega,by unfold maxLen;omega,rfl,rfl,?_⟩;refine .inl ?_;refine⟨by simp[q2,q3],by omega,by unfold maxLen;omega,rfl,?_⟩;refine .inl ?_;refine⟨by simp[q2,q3],by omega,by unfold maxLen;omega,((k+1:Nat):Int),wo,?_⟩;intro ρ3 w3 r3;exact⟨(k+1,w3),⟨hkb,hw.tr r3.cM,hE.rel r3 hS⟩,Sub.gn [(7,13),(8,14),(9,15)] r3 ⟨by dsimp only;rw[hs1,List.length_append,List.length_singleton];rfl,by dsimp only;rw[hs1,List.map_append];rfl,by dsimp only;rw[hs1,List.map_append];rfl,by dsimp only;rw[hs2];rfl,rfl,rfl,rfl,rfl,rfl,trivial⟩,by dsimp only;omega⟩
 have hkb:k=cols:=aR hk (by simpa using hkb);subst hkb;intro ρe we re;have hone:∀u∈jy rv at_ k,u.oneCell'=true:=fun u hu=>by
  obtain⟨i,hi⟩:=aS hu;obtain⟨x,hx⟩:∃x,(cd (E,at_,fr) k).1[i]? =some x:=⟨_,aB (by have:=(aE.1 hi).1;omega)⟩
  obtain⟨r,h1,h2⟩:=zG hrl hlt k (by omega) i u x hi hx;obtain⟨a,c,rfl⟩:=hE.form h1;rfl
 have h7:=re.iX (id:=7) (sz:=1) (m:=(cd (E,at_,fr) k).2.1.length) rfl (by simp[q3]) (by unfold maxLen;omega) (by decide) hone;have h8:=re.iX (id:=8) (sz:=1) (m:=(cd (E,at_,fr) k).2.1.length) rfl (by simp) (by unfold maxLen;omega) (by decide) (fun u hu=>by obtain⟨c,_,rfl⟩:=aT.1 hu;rfl);have h9:=re.iX (id:=9) (sz:=1) (m:=(cd (E,at_,fr) k).2.1.length) rfl (by simp[q2]) (by unfold maxLen;omega) (by decide) (fun u hu=>by obtain⟨c,_,rfl⟩:=aT.1 hu;rfl);have hE2:=hE.rel re hS;rw[hredS];refine⟨_,rfl,hw.tr re.cM,_,_,_,rfl,⟨jy rv at_ k,?_,by omega,fun i u x k1 k2=>?_⟩,?_,?_⟩
 ·rw[q1];exact h7.cI fun g hg=>.inr hg
 ·obtain⟨r,h1,h2⟩:=zG hrl hlt k (by omega) i u x k1 k2;refine((hE2.row r u x h1 h2).read.cI (S':=Nw S w we) (C':=Nw S w we) (fun g hg=>?_) fun g hg=>Cv.nw hg.1 re).c;exact Cv.nw (Av (hE2.new g ⟨u,aD h1,hg⟩)) re
 ·exact h8.cI fun g hg=>.inr hg
 ·show ig we _ 1 _ _ (cd (E,at_,fr) k).2.2.length;rw[q2];exact h9.cI fun g hg=>.inr hg
end Go.Ex
