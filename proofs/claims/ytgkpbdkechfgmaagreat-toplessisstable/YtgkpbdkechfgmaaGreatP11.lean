/- Texts XTg to X134: lemmas, each with its conditions. -/
import Derived.Test.YtgkpbdkechfgmaaGreatP10
namespace Go.Ex
open Go Go.Sx Go.Proofs
variable{a:Act}{K next:Act->World->Prop}{la lx:Array Bool}{I:Array Bool->World->Prop}{Q:Exit->Act->World->Prop}{E M:List (List Rat)}{at_:List (Option Nat)}{fr:List Nat}{r row u y:List Rat}{rv:List Value}{b cols i j:Nat}{C S S0:Nat->Prop}{oi:Oper}{X:Sem Next}{v:Value}{w:World}{Y:World->Prop}{s:wu}
section
variable{P:Program}{ops:Array Oper}{Q:Exit->Act->World->Prop}{md:Region.Mode}
theorem JF{oj:Oper}(hj:ops[j]? =some oj)(Qx:oi.apart ops oj=true)
  (hsi:∀cs b,oi.op≠ .select cs b) (hsj:∀cs b,oj.op≠ .select cs b)
  (hQ:∀c a w,Q (.panic c) (a.put oi.dst v) w->Q (.panic c) a w)
  (hy:Region.wanted oi (yielded ops a.tmps)=true∧execOp a.eval oi=X) (h:wpOp P ops Q j K (a.put oi.dst v) w):
  wpOp P ops Q j (fun a' w'=>(Region.wanted oi (yielded ops a'.tmps)=true∧execOp a'.eval oi=X)∧K (a'.put oi.dst v) w') a w:=by
 obtain⟨h1,h2,h3⟩:=Oper.apart_spec Qx;have cC:∀(a:Act),(Region.wanted oi (yielded ops a.tmps)=true∧execOp a.eval oi=X)->∀u,(Region.wanted oi (yielded ops (a.put oj.dst u).tmps)=true∧execOp (a.put oj.dst u).eval oi=X):=fun a hy u=>
  ⟨(wanted_put oi a oj.dst u h3).trans hy.1,(execOp_put oi hsi a oj.dst u h3).trans hy.2⟩
 have keepD:∀d:Deferred,(Region.wanted oi (yielded ops ({a with defers:=d::a.defers}:Act).tmps)=true∧execOp ({a with defers:=d::a.defers}:Act).eval oi=X):=fun d=>hy;unfold wpOp at*
 simp only[hj]at*
 rw[wanted_put oj a oi.dst v h1]at h;split
 ·rename_i hw;simp only[hw,if_true]at h;rcases h with h|⟨S4,UY⟩
  case inr=>exact .inr ⟨by unfold Oper.asks at *;rw[execOp_put oj hsj a oi.dst v h1]at S4;exact S4,UY⟩
  refine .inl ?_;unfold Oper.wp at*
  rw[execOp_put oj hsj a oi.dst v h1]at h;generalize (execOp a.eval oj).run P w=r at*
  cases r with
  |ok n w'=>
   cases n<;>simp only[Oper.upon]at h ⊢
   case value u=>exact⟨cC a hy u,by rw[<-Act.put_comm a v u h2];exact h⟩
   case skip=>exact⟨cC a hy _,by rw[<-Act.put_comm a v undef h2];exact h⟩
   case defer d=>
    refine⟨cC ({a with defers:=d::a.defers}:Act) (keepD d) undef,?_⟩;rw[<-Act.put_comm _ v undef h2,<-Act.put_defers];exact h
   case enter f args=>
    refine Calls.mono h fun e w'' he=>?_
    cases e with
    |returned u=>exact⟨cC a hy u,by rw[<-Act.put_comm a v u h2];exact he⟩
    |panicked c=>exact hQ _ _ _ he
    |outgrown=>exact he
   case row row args=>exact Rows.mono h fun u w'' he=>⟨cC a hy u,by rw[<-Act.put_comm a v u h2];exact he⟩
  |halt x w'=>
   cases x<;>simp only[Oper.upon]at h ⊢
   case panic u=>exact hQ _ _ _ h
 ·rename_i hw;simp only[hw]at h;exact⟨cC a hy _,by rw[<-Act.put_comm a v undef h2];exact h⟩
def qU(P:Program)(md:Region.Mode)(ops:Array Oper)(Q:Exit->Act->World->Prop)(I:Array Bool->World->Prop):Nat->Array Bool->Act->World->Prop
 |0,lx,a,w=>I lx w∧Region.ready md ops lx=[]∧Q .normal a w
 |fuel+1,lx,a,w=>I lx w∧(Region.ready md ops lx=[]->Q .normal a w)∧∀i∈Region.ready md ops lx,wpOp P ops Q i (fun a' w'=>qU P md ops Q I fuel (lx.setIfInBounds i true) a' w') a w
theorem AQ{I:Array Bool->World->Prop}:∀(fuel:Nat) (lx:Array Bool) (a:Act) (w:World),qU P md ops Q I fuel lx a w->wpAny P md ops Q fuel lx a w
 |0,_,_,_,h=>h.2
 |fuel+1,_,_,_,h=>⟨h.2.1,fun i hi=>wpOp_mono (fun _ _ h'=>AQ fuel _ _ _ h') (h.2.2 i hi)⟩
theorem kO{I J:Array Bool->World->Prop}(hIJ:∀lx w,I lx w->J lx w):∀(fuel:Nat) (lx:Array Bool) (a:Act) (w:World),qU P md ops Q I fuel lx a w->qU P md ops Q J fuel lx a w
 |0,_,_,_,h=>⟨hIJ _ _ h.1,h.2⟩
 |fuel+1,_,_,_,h=>⟨hIJ _ _ h.1,h.2.1,fun i hi=>wpOp_mono (fun _ _ h'=>kO hIJ fuel _ _ _ h') (h.2.2 i hi)⟩
theorem FH(hI:I lx w)(hr:Region.ready md ops lx=[])(h:Q .normal a w):∀fuel,qU P md ops Q I fuel lx a w
 |0=>⟨hI,hr,h⟩
 |_+1=>⟨hI,fun _=>h,by rw[hr];simp⟩
def mm(ops:Array Oper)(b:Nat)(lx:Array Bool):Prop:=∀(k:Nat) o,tb b k=true->ops[k]? =some o->uc o.op=false->lx.getD k false=false
theorem jT(hi:ops[i]? =some oi)(hR:uc oi.op=true):mm ops b (lx.setIfInBounds i true)↔mm ops b lx:=by
 have key:∀(k:Nat) o,ops[k]? =some o->uc o.op=false->(lx.setIfInBounds i true).getD k false=lx.getD k false:=fun k o ho hr=>by
  have:i≠k:=fun e=>by subst e;rw[hi]at ho;injection ho with ho;subst ho;rw[hR]at hr;cases hr
  exact getD_set_ne false this
 exact⟨fun h k o h1 h2 h3=>by rw[<-key k o h2 h3];exact h k o h1 h2 h3,fun h k o h1 h2 h3=>by rw[key k o h2 h3];exact h k o h1 h2 h3⟩
theorem u9(hi:ops[i]? =some oi)(hR:uc oi.op=true)(Ox:∀(j:Nat) (o:Oper) cs b,ops[j]? =some o->o.op≠ .select cs b)
  (hQ:∀c a w,Q (.panic c) (a.put oi.dst v) w->Q (.panic c) a w) (S2:∀j,tb b j=true->∃oj e,ops[j]? =some oj∧e∈oj.after∧Region.binds md e=true∧(e.on=i∨tb b e.on=true))
  (hY:∀w,Y w->X.run P w= .ok (.value v) w) (hI:∀lx w,I (lx.setIfInBounds i true) w->I lx w):
  ∀(fuel:Nat) (lx:Array Bool) (a:Act) (w:World),(∀j,tb b j=true->lx.getD j false=false)->
   (∀j oj,ops[j]? =some oj->j≠i->lx.getD j true=false->tb b j=false->oi.apart ops oj=true)->
   i∈Region.ready md ops lx->(Region.wanted oi (yielded ops a.tmps)=true∧execOp a.eval oi=X)->
   qU P md ops Q (fun lx w=>I lx w∧(mm ops b lx->Y w)) fuel (lx.setIfInBounds i true) (a.put oi.dst v) w->qU P md ops Q I (fuel+1) lx a w:=by
 intro fuel;have run:∀(lx:Array Bool) (a:Act) (w:World),(∀j,tb b j=true->lx.getD j false=false)->(Region.wanted oi (yielded ops a.tmps)=true∧execOp a.eval oi=X)->(I (lx.setIfInBounds i true) w∧(mm ops b (lx.setIfInBounds i true)->Y w))->
   ∀K:Act->World->Prop,K (a.put oi.dst v) w->wpOp P ops Q i K a w:=fun lx a w QL hy hH K hK=>by
  have hYw:=hH.2 ((jT hi hR).2 fun k o h1 _ _=>QL k h1);unfold wpOp;simp only[hi,hy.1,if_true]
  refine .inl ?_;unfold Oper.wp;rw[hy.2,hY w hYw];exact hK
 induction fuel with
 |zero=>
  intro lx a w QL _ hr hy H;refine⟨hI _ _ H.1.1,fun h=>(by rw[h]at hr;cases hr),fun j hj=>?_⟩;by_cases PK:j=i
  ·subst PK;exact run lx a w QL hy H.1 _ (kO (fun _ _ h=>h.1) 0 _ _ _ H)
  ·have:=ready_mono hj PK;rw[H.2.1]at this
   cases this
 |succ fuel ih=>
  intro lx a w QL RF hr hy H;refine⟨hI _ _ H.1.1,fun h=>(by rw[h]at hr;cases hr),fun j hj=>?_⟩;by_cases PK:j=i
  ·subst PK;exact run lx a w QL hy H.1 _ (kO (fun _ _ h=>h.1) (fuel+1) _ _ _ H)
  ·have h1:=H.2.2 j (ready_mono hj PK);obtain⟨UZ,oj,Qv,Qd⟩:=mem_ready.1 hj;have Px:tb b j=false:=by
    cases hb:tb b j with
    |false=>rfl
    |true=>
     exfalso;obtain⟨oj',e,Rt,he,hbi,UL⟩:=S2 j hb;rw[Qv]at Rt;injection Rt with Rt;subst Rt;have h1:=Qd e he hbi;rcases UL with heq|Qn
     ·have h0:=(mem_ready.1 hr).1;rw[heq]at h1;rcases aP i lx.size with h'|h'
      ·simp[h']at h0 h1;rw[h0]at h1;cases h1
      ·simp[Array.getElem?_eq_none h']at h1
     ·rw[QL _ Qn]at h1;cases h1
   have h2:=JF Qv (RF j oj Qv PK UZ Px) (fun cs b=>Ox i oi cs b hi) (fun cs b=>Ox j oj cs b Qv) hQ hy h1;have hbl':∀k,tb b k=true->(lx.setIfInBounds j true).getD k false=false:=fun k hk=>by
    rw[getD_set_ne false (fun e=>(by subst e;rw[Px]at hk;cases hk))];exact QL k hk
   have TD:∀k ok,ops[k]? =some ok->k≠i->(lx.setIfInBounds j true).getD k true=false->tb b k=false->oi.apart ops ok=true:=fun k ok hk VK UR Rw=>by
    refine RF k ok hk VK ?_ Rw;by_cases Ry:j=k
    ·subst Ry;exact UZ
    ·rw[getD_set_ne true Ry]at UR;exact UR
   refine wpOp_mono (fun a' w' h3=>?_) h2;refine ih (lx.setIfInBounds j true) a' w' hbl' TD (ready_mono hr (Ne.symm PK)) h3.1 ?_;rw[Array.setIfInBounds_comm _ _ PK];exact h3.2
end
structure Gh where
 u:Nat
 d:Nat
 T:Nat
 b:Nat
def DP(τ:mo)(B:Nat):List Gh->Env->Hp->Nat->Iv->World->Prop->Prop
 |[],_,_,_,_,_,K=>K
 |g::r,l,H,nx,iv,w,K=>match fR l g.u with
  |some su=>BE τ B g.T su H nx iv w (fun v=>fR l g.d=some v∧DP τ B r l H nx iv w K)
  |none=>False
inductive Tg where
 |nil
 |x (i:Nat) (t:Tg)
 |two (i:Nat) (t:Tg) (j:Nat) (u:Tg)
 |three (i:Nat) (t:Tg) (j:Nat) (u:Tg) (k:Nat) (v:Tg)
 |ld (i b:Nat) (t:Tg)
 |rK (id:Nat) (t:Tg)
def By(j:Nat):List Gh->List Gh
 |[]=>[]
 |g::r=>match tb g.b j with
  |true=>By j r
  |false=>g::By j r
def stepG(τ:mo)(B:Nat)(rd:Bool)(G:List Gh)(j:Nat)(l:Env)(H:Hp)(nx:Nat)(iv:Iv)(w:World)(K:List Gh->Prop):Prop:=match rd with
 |true=>K G
 |false=>DP τ B (By j G) l H nx iv w (K (By j G))
def FI(ops:Array Oper)(m i:Nat)(oi:Oper)(b:Nat):List Oper->Nat->Bool
 |[],_=>true
 |oj::r,j=>(Nat.beq j i||tb m j||tb b j||oi.apart ops oj)&&FI ops m i oi b r (j+1)
def Hk(m i u d:Nat):List Oper->Nat->Bool
 |[],_=>true
 |oj::r,j=>(tb m j||match oj.dst with
   |none=>true
   |some e=> !Nat.beq e u&&(Nat.beq j i|| !Nat.beq e d))&&Hk m i u d r (j+1)
def L0(o:Oper):Option (Nat×Nat×Nat):=match o with
 |⟨some d,.load T (.tmp u),_,_,_,none⟩=>some (d,T,u)
 |_=>none
def l5(ops:Array Oper):Tg->Array Bool->Bool
 | .nil,lx=>(Region.ready .any ops lx).isEmpty
 | .x i t,lx=>match ops[i]? with
  |none=>false
  |some o=>(Region.ready .any ops lx).contains i&&((Region.ready .any ops lx).all (fun j=>Nat.beq j i)||Hm o.op&&o.guard.isNone&&FI ops (iU lx.toList 0) i o (AS (iU lx.toList 0) i ops.toList 0 0) ops.toList 0)&&l5 ops t (lx.setIfInBounds i true)
 | .two i t j u,lx=>match Region.ready .any ops lx with
  |[a,b]=>Nat.beq a i&&(Nat.beq b j&&(l5 ops t (lx.setIfInBounds i true)&&l5 ops u (lx.setIfInBounds j true)))
  |_=>false
 | .three i t j u k v,lx=>match Region.ready .any ops lx with
  |[a,b,c]=>Nat.beq a i&&(Nat.beq b j&&(Nat.beq c k&&(l5 ops t (lx.setIfInBounds i true)&&(l5 ops u (lx.setIfInBounds j true)&&l5 ops v (lx.setIfInBounds k true)))))
  |_=>false
 | .ld i b t,lx=>match ops[i]? with
  |none=>false
  |some o=>match L0 o with
   |none=>false
   |some (d,_,u)=>(Region.ready .any ops lx).contains i&&Nat.beq b (AS (iU lx.toList 0) i ops.toList 0 0)&&FI ops (iU lx.toList 0) i o b ops.toList 0&&Hk (iU lx.toList 0) i u d ops.toList 0&&l5 ops t (lx.setIfInBounds i true)
 | .rK _ t,lx=>l5 ops t lx
def Av(P:Program)(τ:mo)(B:Nat)(all:List Oper):Tg->List Gh->Env->Hp->Nat->Iv->World->KT->Prop
 | .nil,_,l,H,nx,iv,w,K=>K l H nx iv w
 | .x i t,G,l,H,nx,iv,w,K=>rf all i (fun o=>gv (!fk o) P τ B all o l H nx iv w (fun l' H' OW iv' w'=>stepG τ B (uc o.op) G i l' H' OW iv' w' (fun G'=>Av P τ B all t G' l' H' OW iv' w' K)))
 | .two i t j u,G,l,H,nx,iv,w,K=>rf all i (fun o=>gv (!fk o) P τ B all o l H nx iv w (fun l' H' OW iv' w'=>stepG τ B (uc o.op) G i l' H' OW iv' w' (fun G'=>Av P τ B all t G' l' H' OW iv' w' K)))∧
   rf all j (fun o=>gv (!fk o) P τ B all o l H nx iv w (fun l' H' OW iv' w'=>stepG τ B (uc o.op) G j l' H' OW iv' w' (fun G'=>Av P τ B all u G' l' H' OW iv' w' K)))
 | .three i t j u k v,G,l,H,nx,iv,w,K=>rf all i (fun o=>gv (!fk o) P τ B all o l H nx iv w (fun l' H' OW iv' w'=>stepG τ B (uc o.op) G i l' H' OW iv' w' (fun G'=>Av P τ B all t G' l' H' OW iv' w' K)))∧
   (rf all j (fun o=>gv (!fk o) P τ B all o l H nx iv w (fun l' H' OW iv' w'=>stepG τ B (uc o.op) G j l' H' OW iv' w' (fun G'=>Av P τ B all u G' l' H' OW iv' w' K)))∧
   rf all k (fun o=>gv (!fk o) P τ B all o l H nx iv w (fun l' H' OW iv' w'=>stepG τ B (uc o.op) G k l' H' OW iv' w' (fun G'=>Av P τ B all v G' l' H' OW iv' w' K))))
 | .ld i b t,G,l,H,nx,iv,w,K=>rf all i (fun o=>match L0 o with
  |some (d,T,u)=>match fR l u with
   |some su=>BE τ B T su H nx iv w (fun v=>Av P τ B all t (⟨u,d,T,b⟩::G) ((d,v)::l) H nx iv w K)
   |none=>False
  |none=>False)
 | .rK id t,G,l,H,nx,iv,w,K=>∃H' b,cV H id=some b∧b≠ .dead∧ug H H'∧CC id H'=true∧∀O w',Rel H nx iv B w O w'->(O id).nil=false∧∃l',(∀u v,fR l' u=some v->v.sc nx∧∃v',fR l u=some v'∧v'.den O=v.den O)∧Av P τ B all t G l' H' nx (((O id).g,(O id).g+1)::iv) w' K
section
variable{P:Program}{τ:mo}{ops:Array Oper}{B n nx:Nat}{l:Env}{H:Hp}{iv:Iv}{w w':World}{O:Nat->Sx.dL}{a:Act}
theorem aAM(hτ:fT P τ){o:Oper}(ho:ops[i]? =some o)(hd:∀d,o.dst=some d->d<n){K:KT}
  (h1:gv (!fk o) P τ B ops.toList o l H nx iv w K) (sat:Sat n l H nx iv B w O a w')
  (hn:∀l' H' OW iv' w2 ρ' x w3,K l' H' OW iv' w2->Sat n l' H' OW iv' B w2 ρ' (a.put o.dst x) w3->(uc o.op=true->w3=w')->next (a.put o.dst x) w3):
  wpOp P ops Q i next a w':=by
 unfold gv at h1;refine pB ho ?_;rcases k8 sat h1 with⟨hw,l1,h2,sat1⟩|⟨hw,l1,h2,sat1⟩
 ·refine .inl ⟨hw,?_⟩
  cases hR:uc o.op with
  |true=>
   obtain⟨v,hK,Qw,OY⟩:=(lj hτ h2 sat1 hR).resolve_right (fun hh=>by have:=hh.1;rw[rn hR]at this;cases this);obtain⟨l2,h3,sat2⟩:=iJ sat1 hK hd Qw;exact mV (OY w' (.inr sat1.rel)) (hn _ _ _ _ _ _ _ _ h3 sat2 fun _=>rfl)
  |false=>
   have nr:∀w3:World,uc o.op=true->w3=w':=fun w3 h=>by rw[hR]at h;cases h
   cases hA:La o.op with
   |true=>
    obtain⟨b,v,mk,obj,hK,Pe,hb,hv,VU,QB,VV⟩:=nQ hτ h2 sat1 hA;have PC:Rel ((nx,b)::H) (nx+1) iv B w (Sx.fh O nx ⟨w'.heap.size,0,false⟩) (w'.alloc obj):=
     sat1.rel.push b _ rfl rfl rfl (by simp) (fun k hk=>heap_alloc_old _ _ hk) (fun _=>⟨Nat.le_refl _,by simp⟩) (QB _ _ (heap_alloc_new _ _)) hb
    obtain⟨l2,h3,sat2⟩:=iJ (sat1.next PC (Nat.le_succ _) (fun id Oy=>fm id Oy)) hK hd hv;rw[VU]at sat2;exact mV (v:=mk w'.heap.size) (w2:=w'.alloc obj) (VV w') (hn _ _ _ _ _ _ _ _ h3 sat2 (by rw[hR];exact fun h=>by cases h))
   |false=>
    cases hH:rC o with
    |false=>
     rw[rL hH]at h2;refine xz h2 sat1 hR hA hH fun v w2 hK he hs=>?_;obtain⟨l2,h3,sat2⟩:=iJ (v:=.o (.v v)) hs hK hd trivial;exact hn _ _ _ _ _ _ _ _ h3 sat2 (by rw[hR];exact fun h=>by cases h)
    |true=>
     refine nR hτ h2 sat1 fun v H' OW iv' w2 ρ' w3 hK sat2 hv=>?_;obtain⟨l2,h3,sat3⟩:=iJ sat2 hK hd hv;exact hn _ _ _ _ _ _ _ _ h3 sat3 (by rw[hR];exact fun h=>by cases h)
 ·obtain⟨l2,h4,sat3⟩:=iJ sat1 h2 hd trivial;exact .inr ⟨hw,hn _ _ _ _ _ _ _ _ h4 sat3 fun _=>rfl⟩
theorem wi(hτ:fT P τ)(sat:Sat n l H nx iv B w O a w'){K:Prop}:∀(G:List Gh),DP τ B G l H nx iv w K->
  K∧∀g∈G,∃su sv,fR l g.u=some su∧fR l g.d=some sv∧(Instr.loadAt g.T (su.den O)).run P w'= .ok (sv.den O) w'
 |[],h=>⟨h,fun g hg=>by cases hg⟩
 |g::r,h=>by
  unfold DP at h;split at h
  ·rename_i su hsu;obtain⟨v,⟨h1,h2⟩,hv,OY⟩:=nW hτ sat.rel (sat.sc _ _ hsu) h;obtain⟨h3,h4⟩:=wi hτ sat r h2;refine⟨h3,fun g' hg=>?_⟩;rcases List.mem_cons.1 hg with rfl|hg
   ·exact⟨su,v,hsu,h1,OY w' sat.rel⟩
   ·exact h4 g' hg
  ·exact h.elim
theorem rB{j:Nat}{g:Gh}:∀{G:List Gh},g∈G->tb g.b j=false->g∈By j G
 |g'::r,h,hb=>by
  unfold By;rcases List.mem_cons.1 h with rfl|h
  ·rw[hb];exact aG
  ·split
   ·exact rB h hb
   ·exact aC _ (rB h hb)
abbrev Zh:=Gh×Value×Value
def Yz(P:Program)(z:Zh)(w:World):Prop:=(Instr.loadAt z.1.T z.2.1).run P w= .ok z.2.2 w
structure Ns(ops:Array Oper)(la:Array Bool)(a:Act)(z:Zh):Prop where
 u:a.tmps[z.1.u]? =some z.2.1
 d:a.tmps[z.1.d]? =some z.2.2
 no:∀(j:Nat) oj,ops[j]? =some oj->la.getD j false=false->oj.dst≠some z.1.u∧oj.dst≠some z.1.d
theorem Ns.step{z:Zh}{oj:Oper}{x:Value}(h:Ns ops la a z)(hj:ops[j]? =some oj)(hl:la.getD j false=false):Ns ops (la.setIfInBounds j true) (a.put oj.dst x) z:=by
 obtain⟨h1,h2⟩:=h.no j oj hj hl;refine⟨qX h1 h.u,qX h2 h.d,fun k ok hk hlk=>h.no k ok hk ?_⟩;by_cases Ry:j=k
 ·subst Ry;exact hl
 ·rwa [getD_set_ne false Ry]at hlk
def IZ(P:Program)(ops:Array Oper)(Z:List Zh)(lx:Array Bool)(w:World):Prop:=∀z∈Z,mm ops z.1.b lx->Yz P z w
theorem ua(h:i∈Region.ready .any ops la):la.getD i false=false:=by
 have:=(eQ.1 h).1;rw[au,this];rfl
theorem oY{o:Oper}(ho:ops[i]? =some o)(hl:la[i]? =some false)(h:mm ops b (la.setIfInBounds i true)):mm ops b la∧(uc o.op=false->tb b i=false):=by
 refine⟨fun k ok h1 h2 h3=>?_,fun hR=>?_⟩
 ·by_cases hik:i=k
  ·subst hik;rw[au,hl];rfl
  ·rw[<-getD_set_ne false hik];exact h k ok h1 h2 h3
 ·cases hb:tb b i with
  |false=>rfl
  |true=>
   have:=h i o hb ho hR;have hi:=(ah.1 hl).1;rw[au,Array.getElem?_setIfInBounds_self_of_lt hi]at this
   cases this
theorem Bz(hτ:fT P τ){o:Oper}{G:List Gh}{Z:List Zh}(ho:ops[i]? =some o)(hd:∀d,o.dst=some d->d<n)(hr:i∈Region.ready .any ops la){K:Env->Hp->Nat->Iv->World->List Gh->Prop}
  (h1:gv (!fk o) P τ B ops.toList o l H nx iv w (fun l' H' OW iv' w'=>stepG τ B (uc o.op) G i l' H' OW iv' w' (K l' H' OW iv' w'))) (sat:Sat n l H nx iv B w O a w')
  (hG:∀z∈Z,mm ops z.1.b la->z.1∈G) (hZ:∀z∈Z,Ns ops la a z) (hI:IZ P ops Z la w')
  (hn:∀l' H' OW iv' w2 ρ' x w3 G',K l' H' OW iv' w2 G'->Sat n l' H' OW iv' B w2 ρ' (a.put o.dst x) w3->(∀z∈Z,mm ops z.1.b (la.setIfInBounds i true)->z.1∈G')->(∀z∈Z,Ns ops (la.setIfInBounds i true) (a.put o.dst x) z)->IZ P ops Z (la.setIfInBounds i true) w3->next (a.put o.dst x) w3):
  wpOp P ops Q i next a w':=by
 have hl:=(eQ.1 hr).1;refine aAM hτ ho hd h1 sat fun l' H' OW iv' w2 ρ' x w3 hK sat2 hw=>?_;have hZ2:∀z∈Z,Ns ops (la.setIfInBounds i true) (a.put o.dst x) z:=fun z hz=>(hZ z hz).step ho (ua hr)
 cases hR:uc o.op with
 |true=>
  rw[hR]at hK;have hw:=hw hR;subst hw;refine hn _ _ _ _ _ _ _ _ G hK sat2 (fun z hz h=>hG z hz (oY ho hl h).1) hZ2 fun z hz h=>hI z hz (oY ho hl h).1
 |false=>
  rw[hR]at hK;obtain⟨h2,h3⟩:=wi hτ sat2 _ hK;refine hn _ _ _ _ _ _ _ _ _ h2 sat2 (fun z hz h=>?_) hZ2 fun z hz h=>?_
  ·obtain⟨k1,k2⟩:=oY ho hl h;exact rB (hG z hz k1) (k2 hR)
  ·obtain⟨k1,k2⟩:=oY ho hl h;obtain⟨su,sv,e1,e2,e3⟩:=h3 z.1 (rB (hG z hz k1) (k2 hR));have h4:=sat2.env _ _ e1;have h5:=sat2.env _ _ e2;rw[(hZ2 z hz).u]at h4;rw[(hZ2 z hz).d]at h5;injection h4 with h4;injection h5 with h5;unfold Yz;rw[h4,h5];exact e3
end
section
variable{P:Program}{τ:mo}{ops:Array Oper}{B n nx:Nat}{l:Env}{H:Hp}{iv:Iv}{w w':World}{O:Nat->Sx.dL}{a:Act}
theorem sh{m i b:Nat}{oi:Oper}:∀(l:List Oper) (k:Nat),FI ops m i oi b l k=true->∀(j:Nat) oj,l[j]? =some oj->k+j≠i->tb m (k+j)=false->tb b (k+j)=false->oi.apart ops oj=true
 |[],_,_,j,oj,h,_,_,_=>by cases h
 |o::r,k,h,j,oj,hj,h1,h2,h3=>by
  simp only[FI,aw,Bool.or_eq_true]at h
  cases j with
  |zero=>
   injection hj with hj;subst hj;rcases h.1 with((h4|h4)|h4)|h4
   ·exact absurd (bM h4) h1
   ·rw[bj]at h2;rw[h2]at h4;cases h4
   ·rw[bj]at h3;rw[h3]at h4;cases h4
   ·exact h4
  |succ j=>
   have e:k+(j+1)=k+1+j:=by omega
   rw[e]at h1 h2 h3;exact sh r (k+1) h.2 j oj (by simpa using hj) h1 h2 h3
theorem AR{m i u d:Nat}:∀(l:List Oper) (k:Nat),Hk m i u d l k=true->∀(j:Nat) oj,l[j]? =some oj->tb m (k+j)=false->oj.dst≠some u∧(k+j≠i->oj.dst≠some d)
 |[],_,_,j,oj,h,_=>by cases h
 |o::r,k,h,j,oj,hj,h2=>by
  simp only[Hk,aw,Bool.or_eq_true]at h
  cases j with
  |zero=>
   injection hj with hj;subst hj;rcases h.1 with h4|h4
   ·rw[bj]at h2;rw[h2]at h4;cases h4
   ·cases ho:o.dst with
    |none=>exact⟨by simp,by simp⟩
    |some e=>
     rw[ho]at h4;simp only[aw,Bool.not_eq_true',Bool.or_eq_true]at h4;refine⟨fun hh=>?_,fun OS hh=>?_⟩
     ·injection hh with hh;subst hh;have:=h4.1;simp at this
     ·injection hh with hh;subst hh;rcases h4.2 with h5|h5
      ·exact OS (bM h5)
      ·simp at h5
  |succ j=>
   have e:k+(j+1)=k+1+j:=by omega
   rw[e]at h2 ⊢;exact AR r (k+1) h.2 j oj (by simpa using hj) h2
theorem JG{o:Oper}{d T u:Nat}(h:L0 o=some (d,T,u)):o.dst=some d∧o.op= .load T (.tmp u)∧o.guard=none:=by
 unfold L0 at h;split at h
 ·injection h with h;injection h with h1 h2;injection h2 with h2 h3;subst h1 h2 h3;exact⟨rfl,rfl,rfl⟩
 ·cases h
theorem jL(hτ:fT P τ)(OV:∀(j:Nat) o,ops[j]? =some o->∀d,o.dst=some d->d<n)(Ox:∀(j:Nat) (o:Oper) cs b,ops[j]? =some o->o.op≠ .select cs b){K:KT}{Q0:Act->World->Prop}
  (hQ:∀l' H' OW iv' w2 ρ' a' w3,K l' H' OW iv' w2->Sat n l' H' OW iv' B w2 ρ' a' w3->Q0 a' w3):
  ∀(t:Tg) (fuel:Nat) (la:Array Bool) (l:Env) (H:Hp) (nx:Nat) (iv:Iv) (w:World) (O:Nat->Sx.dL) (a:Act) (w':World) (G:List Gh) (Z:List Zh),NB la<=fuel->la.size=ops.size->l5 ops t la=true->Av P τ B ops.toList t G l H nx iv w K->Sat n l H nx iv B w O a w'->
   (∀z∈Z,mm ops z.1.b la->z.1∈G)->(∀z∈Z,Ns ops la a z)->IZ P ops Z la w'->qU P .any ops (QN Q0) (IZ P ops Z) fuel la a w'
 | .nil,fuel,la,l,H,nx,iv,w,O,a,w',G,Z,_,_,hc,h,s,hG,hZ,hI=>by
  simp only[l5,List.isEmpty_iff]at hc;exact FH hI hc ⟨rfl,hQ _ _ _ _ _ _ _ _ h s⟩ fuel
 | .x i t,fuel,la,l,H,nx,iv,w,O,a,w',G,Z,hf,hz,hc,h,s,hG,hZ,hI=>by
  unfold l5 at hc;obtain⟨o,ho,h1⟩:=gU h;rw[bA]at ho;simp only[ho,aw,Bool.or_eq_true]at hc;obtain⟨⟨c1,c2⟩,c3⟩:=hc;have c1:i∈Region.ready .any ops la:=by simpa using c1
  obtain⟨RE,-⟩:=eQ.1 c1;have UR:=k7 RE;obtain⟨f,rfl⟩:∃f,fuel=f+1:=⟨fuel-1,by omega⟩
  have Pf:(la.setIfInBounds i true).size=ops.size:=by rw[bT,hz]
  rcases c2 with c2|⟨⟨hP,QD⟩,c4⟩
  ·refine⟨hI,fun h0=>(by rw[h0]at c1;cases c1),fun j hj=>?_⟩;have PK:j=i:=eC (List.all_eq_true.1 c2 j hj);subst PK;exact Bz hτ ho (OV j o ho) c1 h1 s hG hZ hI fun _ _ _ _ _ _ _ _ G' hk hs VE VF VG=>jL hτ OV Ox hQ t f _ _ _ _ _ _ _ _ _ G' Z (by omega) Pf c3 hk hs VE VF VG
  ·have hR:uc o.op=true:=by
    unfold Hm at hP;split at hP
    ·cases hP
    ·exact hP
   have hm:=xT la;have hb:=mu (ops:=ops) (m:=iU la.toList 0) (i:=i) ops.toList 0 0 (fun n o hn=>by rw[aV];rwa [bA]at hn) (fun j hj=>by rw[sn]at hj;cases hj);generalize AS (iU la.toList 0) i ops.toList 0 0=b at*
   have Sv:o.guard=none:=by simpa using QD
   unfold gv so at h1;rw[Sv]at h1;obtain⟨v,hK,Qw,OY⟩:=(lj hτ h1 s hR).resolve_right (fun hh=>by have:=hh.1;rw[rn hR]at this;cases this);obtain⟨l2,h3,sat2⟩:=iJ s hK (OV i o ho) Qw;rw[hR]at h3;have hw:Region.wanted o (yielded ops a.tmps)=true:=by simp[Region.wanted,Sv]
   refine u9 (v:=v.den O) (b:=b) (Y:=fun _=>True) (X:=execOp a.eval o) ho hR Ox (fun c a w hq=>absurd hq.1 (by simp)) (fun j hj=>(hb j hj).2.2) (fun w3 _=>OY w3 (.inl hP)) (fun lx w h z hz ha=>h z hz ((jT ho hR).2 ha))
    f la a w' (fun j hj=>(hm j).symm.trans (hb j hj).1) (fun j oj Qv PK hl hk=>sh ops.toList 0 c4 j oj (by rw[bA];exact Qv) (by omega) (by
     have hj:=(ah.1 Qv).1
     rw[aV,hm,mq (by omega) false true];exact hl) (by rw[aV];exact hk)) c1 ⟨hw,rfl⟩ ?_
   refine kO (fun lx w h=>⟨h,fun _=>trivial⟩) _ _ _ _ ?_;exact jL hτ OV Ox hQ t f _ _ _ _ _ _ _ _ _ G Z (by omega) Pf c3 h3 sat2 (fun z hz h=>hG z hz ((jT ho hR).1 h)) (fun z hz=>(hZ z hz).step ho (ua c1)) (fun z hz h=>hI z hz ((jT ho hR).1 h))
 | .two i t k u,fuel,la,l,H,nx,iv,w,O,a,w',G,Z,hf,hz,hc,h,s,hG,hZ,hI=>by
  simp only[l5]at hc;split at hc
  ·rename_i x y hr;simp only[aw]at hc;obtain⟨c1,c2,c3,c4⟩:=hc;have hx:=bM c1;have hy:=bM c2;subst hx;subst hy;obtain⟨h1,h2⟩:=h;obtain⟨o1,VS,h1⟩:=gU h1;obtain⟨o2,To,h2⟩:=gU h2;rw[bA]at VS To;have Sd:x∈Region.ready .any ops la:=by rw[hr];simp
   have Wc:y∈Region.ready .any ops la:=by rw[hr];simp
   have u1:=k7 (eQ.1 Sd).1;have u2:=k7 (eQ.1 Wc).1;obtain⟨f,rfl⟩:∃f,fuel=f+1:=⟨fuel-1,by omega⟩
   refine⟨hI,fun h0=>(by rw[hr]at h0;cases h0),fun j hj=>?_⟩;rw[hr,List.mem_cons,bF]at hj;rcases hj with rfl|rfl
   ·exact Bz hτ VS (OV _ o1 VS) Sd h1 s hG hZ hI fun _ _ _ _ _ _ _ _ G' hk hs VE VF VG=>jL hτ OV Ox hQ t f _ _ _ _ _ _ _ _ _ G' Z (by omega) (by rw[bT,hz]) c3 hk hs VE VF VG
   ·exact Bz hτ To (OV _ o2 To) Wc h2 s hG hZ hI fun _ _ _ _ _ _ _ _ G' hk hs VE VF VG=>jL hτ OV Ox hQ u f _ _ _ _ _ _ _ _ _ G' Z (by omega) (by rw[bT,hz]) c4 hk hs VE VF VG
  ·cases hc
 | .three i t k u m v,fuel,la,l,H,nx,iv,w,O,a,w',G,Z,hf,hz,hc,h,s,hG,hZ,hI=>by
  simp only[l5]at hc;split at hc
  ·rename_i x y z9 hr;simp only[aw]at hc;obtain⟨c1,c2,c6,c3,c4,c5⟩:=hc;have hx:=bM c1;have hy:=bM c2;have hz9:=bM c6;subst hx;subst hy;subst hz9;obtain⟨h1,h2,h3⟩:=h;obtain⟨o1,VS,h1⟩:=gU h1;obtain⟨o2,To,h2⟩:=gU h2;obtain⟨o3,ho3,h3⟩:=gU h3;rw[bA]at VS To ho3;have Sd:x∈Region.ready .any ops la:=by rw[hr];simp
   have Wc:y∈Region.ready .any ops la:=by rw[hr];simp
   have hm3:z9∈Region.ready .any ops la:=by rw[hr];simp
   have u1:=k7 (eQ.1 Sd).1;have u2:=k7 (eQ.1 Wc).1;have u3:=k7 (eQ.1 hm3).1;obtain⟨f,rfl⟩:∃f,fuel=f+1:=⟨fuel-1,by omega⟩
   refine⟨hI,fun h0=>(by rw[hr]at h0;cases h0),fun j hj=>?_⟩;rw[hr,List.mem_cons,List.mem_cons,bF]at hj;rcases hj with rfl|rfl|rfl
   ·exact Bz hτ VS (OV _ o1 VS) Sd h1 s hG hZ hI fun _ _ _ _ _ _ _ _ G' hk hs VE VF VG=>jL hτ OV Ox hQ t f _ _ _ _ _ _ _ _ _ G' Z (by omega) (by rw[bT,hz]) c3 hk hs VE VF VG
   ·exact Bz hτ To (OV _ o2 To) Wc h2 s hG hZ hI fun _ _ _ _ _ _ _ _ G' hk hs VE VF VG=>jL hτ OV Ox hQ u f _ _ _ _ _ _ _ _ _ G' Z (by omega) (by rw[bT,hz]) c4 hk hs VE VF VG
   ·exact Bz hτ ho3 (OV _ o3 ho3) hm3 h3 s hG hZ hI fun _ _ _ _ _ _ _ _ G' hk hs VE VF VG=>jL hτ OV Ox hQ v f _ _ _ _ _ _ _ _ _ G' Z (by omega) (by rw[bT,hz]) c5 hk hs VE VF VG
  ·cases hc
 | .ld i b t,fuel,la,l,H,nx,iv,w,O,a,w',G,Z,hf,hz,hc,h,s,hG,hZ,hI=>by
  unfold l5 at hc;obtain⟨o,ho,h1⟩:=gU h;rw[bA]at ho;simp only[ho]at hc
  cases Sb:L0 o with
  |none=>rw[Sb]at hc;cases hc
  |some q=>
   obtain⟨d,T,u⟩:=q;rw[Sb]at hc h1;simp only[aw]at hc;obtain⟨⟨⟨⟨c1,c2⟩,c4⟩,c5⟩,c3⟩:=hc;obtain⟨e1,e2,e3⟩:=JG Sb;have c1:i∈Region.ready .any ops la:=by simpa using c1
   obtain⟨RE,-⟩:=eQ.1 c1;have UR:=k7 RE;obtain⟨f,rfl⟩:∃f,fuel=f+1:=⟨fuel-1,by omega⟩
   have Pf:(la.setIfInBounds i true).size=ops.size:=by rw[bT,hz]
   have hR:uc o.op=true:=by rw[e2];rfl
   have hm:=xT la;have hb:=mu (ops:=ops) (m:=iU la.toList 0) (i:=i) ops.toList 0 0 (fun n o hn=>by rw[aV];rwa [bA]at hn) (fun j hj=>by rw[sn]at hj;cases hj);rw[<-bM c2]at hb
   cases hsu:fR l u with
   |none=>simp only[hsu]at h1
   |some su=>
    simp only[hsu]at h1;obtain⟨v,hK,Qw,OY⟩:=nW hτ s.rel (s.sc _ _ hsu) h1;have hau:=s.env _ _ hsu;have VH:=OV i o ho d e1;have sat2:Sat n ((d,v)::l) H nx iv B w O (a.put o.dst (v.den O)) w':=by rw[e1];exact s.put VH Qw
    have hw:Region.wanted o (yielded ops a.tmps)=true:=by simp[Region.wanted,e3]
    have Qq:a.eval (.tmp u)=su.den O:=by rw[Act.eval,au,hau];rfl
    have hui:tb (iU la.toList 0) i=false:=by rw[hm];exact ua c1
    have Rw:=AR ops.toList 0 c5;refine u9 (v:=v.den O) (b:=b) (Y:=Yz P (⟨u,d,T,b⟩,su.den O,v.den O)) (X:=execOp a.eval o) ho hR Ox (fun c a w hq=>absurd hq.1 (by simp)) (fun j hj=>(hb j hj).2.2) (fun w3 hY=>?_) (fun lx w h z hz ha=>h z hz ((jT ho hR).2 ha))
     f la a w' (fun j hj=>(hm j).symm.trans (hb j hj).1) (fun j oj Qv PK hl hk=>sh ops.toList 0 c4 j oj (by rw[bA];exact Qv) (by omega) (by
      have hj:=(ah.1 Qv).1
      rw[aV,hm,mq (by omega) false true];exact hl) (by rw[aV];exact hk)) c1 ⟨hw,rfl⟩ ?_
    ·unfold Yz at hY;obtain⟨dst,op,ty,pos,after,guard⟩:=o;simp only at e2;subst e2;simp only[execOp,Qq]
     exact ll hY
    ·refine kO (I:=IZ P ops ((⟨u,d,T,b⟩,su.den O,v.den O)::Z)) (fun lx w h=>⟨fun z hz=>h z (aC _ hz),h _ aG⟩) _ _ _ _ ?_;refine jL hτ OV Ox hQ t f _ _ _ _ _ _ _ _ _ (⟨u,d,T,b⟩::G) ((⟨u,d,T,b⟩,su.den O,v.den O)::Z) (by omega) Pf c3 hK sat2 (fun z hz h=>?_) (fun z hz=>?_) (fun z hz h=>?_)
     ·rcases List.mem_cons.1 hz with rfl|hz
      ·exact aG
      ·exact aC _ (hG z hz ((jT ho hR).1 h))
     ·rcases List.mem_cons.1 hz with rfl|hz
      ·have h7:=(Rw i o (by rw[bA];exact ho) (by rw[aV];exact hui)).1;refine⟨qX h7 hau,?_,fun j oj Qv Rv=>?_⟩
       ·rw[e1];show(a.tmps.setIfInBounds d _)[d]? =_;rw[Array.getElem?_setIfInBounds_self_of_lt (by rw[s.size];exact VH)]
       ·have PK:i≠j:=fun e=>by
         subst e;have hi:=(ah.1 RE).1;rw[au,Array.getElem?_setIfInBounds_self_of_lt hi]at Rv
         cases Rv
        rw[getD_set_ne false PK]at Rv;obtain⟨k1,k2⟩:=Rw j oj (by rw[bA];exact Qv) (by rw[aV,hm];exact Rv);exact⟨k1,k2 (by omega)⟩
      ·exact(hZ z hz).step ho (ua c1)
     ·rcases List.mem_cons.1 hz with rfl|hz
      ·exact OY w' s.rel
      ·exact hI z hz ((jT ho hR).1 h)
 | .rK id t,fuel,la,l,H,nx,iv,w,O,a,w',G,Z,hf,hz,hc,h,s,hG,hZ,hI=>by
  obtain⟨H',b,Oy,hd,hs,ho,h⟩:=h;obtain⟨hn,l',hl,h⟩:=h _ _ s.rel;exact jL hτ OV Ox hQ t fuel la l' H' nx _ w' O a w' G Z hf hz hc h ⟨s.rel.free Oy hd hn hs ho,s.size,s.defers,fun u v hv=>by obtain⟨-,v',h1,h2⟩:=hl u v hv;rw[<-h2];exact s.env u v' h1,fun u v hv=>(hl u v hv).1⟩ hG hZ hI
theorem j1(hτ:fT P τ)(hm:P.follows .mixedOrders=true){K:KT}(t:Tg)(hs:Region.noSelect ops=true)(hc:l5 ops t (Array.replicate ops.size false)=true)
  (h:Av P τ B ops.toList t [] l H nx iv w K):yB P B ops l H nx iv w K:=by
 refine⟨fun n O a w' OV sat Q hQ id=>?_⟩;refine wp_mono (Q':=Q) (c:=.region id ops true) (wp_region_any (Q:=QN (Q .normal)) hm (AQ (I:=IZ P ops []) _ _ _ _ ?_)) (fun e a w hq=>by obtain⟨rfl,hq⟩:=hq;exact hq);refine jL (Q0:=Q .normal) hτ (fun j o ho d hd=>?_) (Region.noSelect_spec hs) hQ t _ _ _ _ _ _ _ O _ _ [] [] ?_ (by simp) hc h ⟨sat.rel.drew,sat.size,sat.defers,sat.env,sat.sc⟩ (fun z hz=>by cases hz) (fun z hz=>by cases hz) (fun z hz=>by cases hz)
 ·have:=List.all_eq_true.1 OV o (aE (by rw[bA];exact ho));rw[hd]at this;have h5:d+1<=n:=by simpa [Nat.blt]using this
  exact h5
 ·unfold NB;refine aW List.countP_le_length ?_;simp
end
theorem Kk{α:Type}(a b:α){c:Nat}(h:i<c):(List.replicate i a++List.replicate (c-i) b).take i++[a]++(List.replicate i a++List.replicate (c-i) b).drop (i+1)=List.replicate (i+1) a++List.replicate (c-(i+1)) b:=by
 rw[List.take_left' (bN ..),List.drop_append,bN,List.drop_of_length_le (by rw[bN];omega),List.nil_append,List.drop_replicate,List.replicate_succ'];congr 2;omega
def oQ(w:World)(C S:Nat->Prop)(v:Value)(M:List (List Rat)):Prop:=∃rv,iu w C 1 v rv M.length∧rv.length=M.length∧∀(i:Nat) u x,rv[i]? =some u->M[i]? =some x->cS w S u x
theorem oQ.shape(h:oQ w C S v M):∃a c,v= .slice a M.length c∧M.length<=c∧M.length<=maxLen:=by
 obtain⟨rv,⟨h0,_,_,a,c,h1,h2,_⟩,_⟩:=h;exact⟨a,c,h1,h2,h0⟩
theorem oQ.load{a:Option Addr}{m c:Nat}{x:List Rat}(h:oQ w C S (.slice a m c) M)(hq:M[j]? =some x):
  ∃ad u,a=some ad∧cS w S u x∧C ad.block∧w.cell? (ad.add (j*1))=some u:=by
 obtain⟨rv,⟨h0,h1,h2,a',c',e,h3,h4⟩,hl,hf⟩:=h;injection e with e1 e2 e3;subst e1;obtain⟨u,hu⟩:∃u,rv[j]? =some u:=⟨_,aB (by rw[hl];exact(aD.1 hq).1)⟩
 obtain⟨ad,k1,k2,k3⟩:=h4 j u hu;exact⟨ad,u,k1,hf j u x hu hq,k2,by rw[aY];exact k3⟩
def Lf:Option Nat->Value
 |none=>.int .i64 (-1)
 |some j=>.int .i64 (j:Int)
structure Ef(M:List (List Rat))(cols h:Nat):Prop where
 rows:∀i,i<=M.length->∀r∈(gq M cols i).1,∀q∈r,rl q+1<=h
 l7:∀i,i<M.length->∀k,k<=cols->∀q∈fZ (gq M cols i).1 (gq M cols i).2.1 (M.getD i []) k,rl q+1<=h
theorem zo{k:Nat}(h:at_[k]? =some (some j)):fZ E at_ row (k+1)=lu (fZ E at_ row k) (E.getD j []) ((fZ E at_ row k).getD k 0):=by
 rw[fZ,show at_.getD k none=some j by rw[List.getD,h];rfl]
theorem GM{k:Nat}(h:at_[k]? =some none):fZ E at_ row (k+1)=fZ E at_ row k:=by
 rw[fZ,show at_.getD k none=none by rw[List.getD,h];rfl]
theorem Kl{α:Type}{l:List α}(a b:α)(h:j<l.length):(l++[a]).set j b=l.set j b++[a]:=by rw[List.set_append,if_pos h]
theorem GN{x:List Rat}(Q7:(E,at_,fr)=gq M cols i)(hx:M.getD i []=x)(hy:fZ E at_ x cols=y)(hp:tM y cols=cols):(E,at_,fr)=gq M cols (i+1):=by
 rw[gq,<-Q7,hx,jx];simp only[hy,hp,if_true]
theorem GO{p:Nat}{x:List Rat}(Q7:(E,at_,fr)=gq M cols i)(hx:M.getD i []=x)(hy:fZ E at_ x cols=y)(hp:tM y cols=p)(OS:p≠cols):
  gq M cols (i+1)=(gE E (y.map (· / y.getD p 0)) p E.length++[y.map (· / y.getD p 0)],at_.set p (some E.length),fr++[i]):=by
 rw[gq,<-Q7,hx,jx];simp only[hy,hp,aI OS]
theorem Km(q:Rat)(y:List Rat):gb y.length (fun _ r=>r / q) y=y.map (· / q):=by
 rw[qq];exact bG fun j=>by rw[List.getElem?_mapIdx,aM]
theorem GP{p:Nat}(h:E[i]? =some r)(h0:r.getD p 0=0):gE E u p (i+1)=gE E u p i:=by
 rw[y9 h,h0,y8];refine bG fun j=>?_;by_cases hj:i=j
 ·subst hj;rw[aO (by rw[fe];exact(aD.1 h).1),Du h]
 ·rw[aT hj]
def kZ(rv:List Value)(at_:List (Option Nat)):Nat->List Value
 |0=>[]
 |k+1=>match at_.getD k none with
  |some r=>kZ rv at_ k++[rv.getD r (.bool false)]
  |none=>kZ rv at_ k
theorem mS{k:Nat}(h:s.2.1[k]? =some none):cZ s (k+1)=cZ s k:=by
 rw[cZ,show s.2.1.getD k none=none by rw[List.getD,h];rfl]
theorem mT{k r:Nat}(h:s.2.1[k]? =some (some r)):cZ s (k+1)=((cZ s k).1++[s.1.getD r []],(cZ s k).2.1++[k],(cZ s k).2.2++[s.2.2.getD r 0]):=by
 rw[cZ,show s.2.1.getD k none=some r by rw[List.getD,h];rfl]
theorem s5{k:Nat}(h:at_[k]? =some none):kZ rv at_ (k+1)=kZ rv at_ k:=by
 rw[kZ,show at_.getD k none=none by rw[List.getD,h];rfl]
theorem s6{k r:Nat}(h:at_[k]? =some (some r)):kZ rv at_ (k+1)=kZ rv at_ k++[rv.getD r (.bool false)]:=by
 rw[kZ,show at_.getD k none=some r by rw[List.getD,h];rfl]
theorem uM(s:wu)(rv:List Value):∀k,k<=s.2.1.length->(cZ s k).1.length=(cZ s k).2.1.length∧(cZ s k).2.2.length=(cZ s k).2.1.length∧(kZ rv s.2.1 k).length=(cZ s k).2.1.length∧(cZ s k).2.1.length<=k
 |0,_=>⟨rfl,rfl,rfl,Nat.le_refl _⟩
 |k+1,hk=>by
  have ih:=uM s rv k (by omega);obtain⟨o,ho⟩:∃o,s.2.1[k]? =some o:=⟨_,aB (by omega)⟩
  cases o with
  |none=>rw[mS ho,s5 ho];exact⟨ih.1,ih.2.1,ih.2.2.1,by have:=ih.2.2.2;omega⟩
  |some r=>rw[mT ho,s6 ho];simp only[List.length_append,List.length_singleton];omega
theorem zp{E:List (List Rat)}{at_:List (Option Nat)}{fr:List Nat}{rv:List Value}(hl:rv.length=E.length)(Ou:∀(k r:Nat),at_[k]? =some (some r)->r<E.length):∀k,k<=at_.length->∀(i:Nat) u x,(kZ rv at_ k)[i]? =some u->(cZ (E,at_,fr) k).1[i]? =some x->∃r:Nat,rv[r]? =some u∧E[r]? =some x
 |0,_,i,u,x,h,_=>by cases h
 |k+1,hk,i,u,x,h1,h2=>by
  have ih:=zp (fr:=fr) hl Ou k (by omega) i u x;obtain⟨o,ho⟩:∃o,at_[k]? =some o:=⟨_,aB (by omega)⟩
  cases o with
  |none=>
   rw[s5 ho]at h1;rw[mS (s:=(E,at_,fr)) ho]at h2;exact ih h1 h2
  |some r=>
   have hr:=Ou k r ho;rw[s6 ho]at h1;rw[mT (s:=(E,at_,fr)) ho]at h2;obtain⟨q1,q2,q3,q4⟩:=uM (E,at_,fr) rv k (by dsimp only;omega);dsimp only at q1 q2 q3 q4 h2;rcases aP i (kZ rv at_ k).length with hi|hi
   ·rw[aJ hi]at h1;rw[aJ (by omega)]at h2;exact ih h1 h2
   ·have RX:i=(kZ rv at_ k).length:=by have:=(aD.1 h1).1;simp at this;omega
    rw[RX,aN (Nat.le_refl _),bB]at h1;rw[RX,q3,<-q1,aN (Nat.le_refl _),bB]at h2;simp only[List.getElem?_cons_zero,Option.some.injEq]at h1 h2;refine⟨r,?_,?_⟩
    ·rw[<-h1,List.getD,aB (by omega)];rfl
    ·rw[<-h2,List.getD,aB hr];rfl
theorem Eg{α:Type}(l:List α)(a b:α):(l++[a]).set l.length b=l++[b]:=by simp
section
variable{S S':Nat->Prop}{H:Hp}{nx:Nat}{iv iv':Iv}{B:Nat}{w w' w2:World}{O:Nat->Sx.dL}{rv:List Value}{v:Value}{q:Rat}
theorem cN.Eh(h:cN w (Lr S B iv rv) v q)(r:Rel H nx iv B w O w')(hS:∀g,S g->g<B):cN w' (Lr S B iv rv) v q:=h.cC fun _ hg=>Rel.same r hS hg.1
theorem cN.Mp(h:cN w (Lr S B iv rv) v q)(r:Rel H nx iv B w O w')(hS:∀g,S g->g<B)(he:Ext w' w2)(hm:∀p,p∈iv->p∈iv'):cN w2 (Lr S B iv' rv) v q:=
 ((h.Eh r hS).cC fun g hg=>he.block g (Rel.old r hS g hg.1)).cF fun _ hg=>⟨hg.1.mono hm,hg.2⟩
theorem Lr.old(r:Rel H nx iv B w O w')(hS:∀g,S g->g<B):Old (Lr S B iv rv) w':=fun g hg=>Rel.old r hS g hg.1
theorem cN.aAV{n:Nat}(h:cN w2 (Nf w' w2) v q)(hM:lQ w S B iv rv n M)(r:Rel H nx iv B w O w'):cN w2 (Lr S0 B ((w'.heap.size,w2.heap.size)::iv) rv) v q:=
 h.cF fun g hg=>by
  rcases hg with hg|hg
  ·exact hg.elim
  ·exact⟨.inr ⟨by have:=r.bz;omega,_,_,aG,hg.1,hg.2⟩,fun hm=>by have:=hM.lt r hm;omega⟩
end
set_option maxHeartbeats 2000000 in
theorem B7{n h:Nat}(hC:Old C w)(hS:Old S w)(hM:oQ w C S v M)(hlen:gh n M)(hn0:0<n)(hn:n<=1000)(hR:M.length<=1000)(Q1:cols<=n)(hB:Ef M cols h)(hh:3*h<=90000):
  dx PG N.ic #[.agg #[v,.int .i64 n],.int .i64 cols] w (eH w fun v' w2=>∃vr vp vf,v'= .agg #[vr,.int .i64 n,vp,vf]∧cT w2 (Nw S w w2) vr (dh M cols).1∧dS w2 (Nf w w2) vp (dh M cols).2.1∧dS w2 (Nf w w2) vf (dh M cols).2.2):=by
 have hw:=bR w;obtain⟨am,cm,rfl,S1,Rc⟩:=oQ.shape hM;unfold maxLen at Rc;refine j0 (by simp) ?_
 refine⟨cols,cols,rfl,rfl,Nat.le_refl _,by omega,by omega,Nat×World,fun z=>⟨[(1,iZ cols),(2,pP 0 0),(4,pP 1 0),(5,pP 2 0),(6,.o (.s 3 0 cols cols)),(27,iZ cols),(28,iN z.1)],
   [(3,.arr T.int (List.replicate z.1 (.int .i64 (-1))++List.replicate (cols-z.1) (.int .i64 0))),(2,.box T.dE [.v (.slice none 0 0),.v (.int .i64 n),.v (.slice none 0 0),.v (.slice none 0 0)]),(1,.box T.dE [.v (.slice none 0 0),.v (.int .i64 0),.v (.slice none 0 0),.v (.slice none 0 0)]),(0,.box T.di [.v (.slice am M.length cm),.v (.int .i64 n)])],4,[],z.2⟩,fun z=>cols-z.1,
  fun z=>z.1<=cols∧dT w.heap.size w z.2,?_,?_⟩
 ·intro O w' r;exact⟨(0,w'),⟨aS _,hw.tr r.cL⟩,Sub.gn [] r ⟨by simp;rfl,rfl,rfl,rfl,trivial⟩⟩
 rintro⟨i,w1⟩ ⟨hi,hw⟩;dsimp only at hi hw ⊢;refine dB.mk ?_ ?_<;>intro OQ
 ·have OQ:i<cols:=by simpa using OQ
  refine⟨by omega,by simp;omega,List.replicate (i+1) (.int .i64 (-1))++List.replicate (cols-(i+1)) (.int .i64 0),?_,?_⟩
  ·rw[aF,aY,aV];exact Kk _ _ OQ
  refine⟨((i+1:Nat):Int),wo,?_⟩;intro ρ3 w3 r3;exact⟨(i+1,w3),⟨OQ,hw.tr r3.cL⟩,Sub.gn [] r3,by dsimp only;omega⟩
 have OQ:i=cols:=aU hi (by simpa using OQ);rw[OQ]
 refine⟨Nat×List Value×List (List Rat)×List (Option Nat)×List Nat×World×Iv,fun z=>⟨[(38,iN z.1),(1,iZ cols),(2,pP 0 0),(4,pP 1 0),(5,pP 2 0),(6,.o (.s 3 0 cols cols)),(36,sV am M.length cm),(37,iZ M.length)],[(2,.box T.dE [.w 4 z.2.1.length,.v (.int .i64 n),.v (.slice none 0 0),.w 5 z.2.2.2.2.1.length]),(5,.vec T.int 1 (z.2.2.2.2.1.map fun c:Nat=>.int .i64 (c:Int))),(4,.vec T.jC 1 z.2.1),(0,.box T.di [.v (.slice am M.length cm),.v (.int .i64 n)]),(1,.box T.dE [.v (.slice none 0 0),.v (.int .i64 0),.v (.slice none 0 0),.v (.slice none 0 0)]),(3,.arr T.int (z.2.2.2.1.map Lf))],6,z.2.2.2.2.2.2,z.2.2.2.2.2.1⟩,fun z=>M.length-z.1,
  fun z=>z.1<=M.length∧(z.2.2.1,z.2.2.2.1,z.2.2.2.2.1)=gq M cols z.1∧dT w.heap.size w z.2.2.2.2.2.1∧lQ z.2.2.2.2.2.1 S w.heap.size z.2.2.2.2.2.2 z.2.1 n z.2.2.1,?_,?_⟩
 ·intro O w' r
  exact⟨(0,[],[],List.replicate cols none,[],w',[]),⟨aS _,rfl,hw.tr r.cL,lQ.nil⟩,Sub.Ee 2 0 T.jC 1 rfl rfl (by simp[l6,SV.sc,At.sc]) r fun ρ1 r1=>Sub.Ee 2 3 T.int 1 rfl rfl (by simp[l6,SV.sc,At.sc]) r1 fun ρ2 r2=>
   Sub.gn [] r2 ⟨rfl,rfl,rfl,rfl,rfl,by simp[Lf];rfl,trivial⟩⟩
 rintro⟨i,rv,E,at_,fr,w1,iv⟩ ⟨hi,Q7,hw,hE⟩;dsimp only at hi Q7 hw hE ⊢;have OV:=ya cols hlen i hi;rw[<-Q7]at OV;have hatl:at_.length=cols:=OV.at_;have hfrl:fr.length=E.length:=OV.ub;have hEi:E.length<=i:=OV.le;have Pk:rv.length=E.length:=hE.len;have hEb:∀r∈E,∀q∈r,rl q+1<=h:=by have:=hB.rows i hi;rwa [<-Q7]at this
 refine dB.mk ?_ ?_<;>intro OQ
 ·have OQ:i<M.length:=by simpa using OQ
  obtain⟨x,hx⟩:∃r,M[i]? =some r:=⟨_,aB OQ⟩
  have QC:=hlen x (aE hx);have US:M.getD i []=x:=by rw[List.getD,hx];rfl
  have PB:∀k,k<=cols->∀q∈fZ E at_ x k,rl q+1<=h:=by have:=hB.l7 i OQ;rwa [<-Q7,US]at this
  have hcll:∀k,(fZ E at_ x k).length=n:=fun k=>by rw[iA,QC]
  obtain⟨adm,um,Un,Qc,km1,km2⟩:=oQ.load hM hx;obtain⟨css,⟨-,g1,g2,a0,c0,rfl,g4,g5⟩,PY,Tk,Ok⟩:=Qc;have Ot:=eo Tk;refine⟨adm,Un,by omega,.slice a0 x.length c0,rd1 km2 hw (hC _ km1),?_⟩;refine .inl ?_;refine⟨css.flatten,g1,g2,fun O w' r PF=>?_,?_⟩
  ·obtain⟨u0,hu0⟩:∃u,css.flatten[0]? =some u:=⟨_,aB (by omega)⟩
   obtain⟨ad,ha,_,_⟩:=g5 0 u0 hu0;refine⟨ad,ha,fun j u hj=>?_⟩;obtain⟨ad2,Qs,q1,q2⟩:=g5 j u hj;rw[ha]at Qs;injection Qs with Qs;subst Qs;rw[cJ (w:=w) (w2:=w') (by rw[c9];exact(hw.tr r.cL).block _ (hS _ q1))];exact q2
  refine⟨rfl,by omega,by unfold maxLen;omega,?_⟩;rw[aV x.length,QC]
  refine⟨Nat×Nat×Nat×World×Iv,fun z=>⟨[(9,.o (.v (.slice (some ⟨z.2.1,0,none⟩) n z.2.2.1))),(46,iZ cols),(47,iN z.1),(2,pP 0 0),(4,pP 1 0),(5,pP 2 0),(6,.o (.s 3 0 cols cols)),(8,iN i),(36,sV am M.length cm),(37,iZ M.length),(38,iN i),(1,iZ cols)],[(2,.box T.dE [.w 4 rv.length,.v (.int .i64 n),.v (.slice none 0 0),.w 5 fr.length]),(5,.vec T.int 1 (fr.map fun c:Nat=>.int .i64 (c:Int))),(4,.vec T.jC 1 rv),(0,.box T.di [.v (.slice am M.length cm),.v (.int .i64 n)]),(1,.box T.dE [.v (.slice none 0 0),.v (.int .i64 0),.v (.slice none 0 0),.v (.slice none 0 0)]),(3,.arr T.int (at_.map Lf))],8,z.2.2.2.2,z.2.2.2.1⟩,fun z=>cols-z.1,
   fun z=>z.1<=cols∧dT w.heap.size w z.2.2.2.1∧lQ z.2.2.2.1 S w.heap.size z.2.2.2.2 (rv++[.slice (some ⟨z.2.1,0,none⟩) n z.2.2.1]) n (E++[fZ E at_ x z.1]),?_,?_⟩
  ·intro O w' r;have hv:=aAU (S:=S) (m:=n) (qs:=x) (css:=css) r (id:=7) rfl (by omega) hn0 (by unfold maxLen;omega) ⟨PY,fun j cs q k1 k2=>(Ok j cs q k1 k2).cC fun g hg=>(hw.tr r.cL).block g (hS g hg)⟩
   exact⟨(0,(O 7).g,(O 7).cap,w',((O 7).g,(O 7).g+1)::iv),⟨aS _,hw.tr r.cL,(hE.rel r hS).push (fun g hg e=>Rel.not r hS hg 7 _ rfl hv.1 e.symm) hv.2.1 hv.2.2.2 hS⟩,
    Sub.aAE r (id:=7) (t:=9) (cs:=css.flatten) rfl hv.1 rfl ⟨rfl,rfl,rfl,rfl,rfl,rfl,trivial⟩ rfl ⟨rfl,rfl,rfl,rfl,rfl,rfl,rfl,rfl,rfl,rfl,rfl,trivial⟩ (by simp[l6,SV.sc,At.sc])⟩
  rintro⟨k,gx,cx,w2,iv⟩ ⟨hk,hw,hE⟩;dsimp only at hk hw hE ⊢;refine dB.mk ?_ ?_<;>intro OT
  ·have OT:k<cols:=by simpa using OT
   obtain⟨o,ho⟩:∃o,at_[k]? =some o:=⟨_,aB (by omega)⟩
   refine⟨by omega,Lf o,by rw[aF,aY,aV,aM,ho];rfl,?_⟩
   cases o with
   |none=>
    refine⟨((k+1:Nat):Int),wo,?_⟩;intro ρ3 w3 r3;exact⟨(k+1,gx,cx,w3,_),⟨OT,hw.tr r3.cL,by dsimp only;rw[GM ho];exact hE.rel r3 hS⟩,Sub.gn [] r3,by dsimp only;omega⟩
   |some j=>
    have hj:j<E.length:=OV.lt k j ho;have hq:∃q,(fZ E at_ x k)[k]? =some q:=⟨_,aB (by rw[hcll];omega)⟩
    obtain⟨q,hq⟩:=hq;have Qt:(fZ E at_ x k).getD k 0=q:=by rw[List.getD,hq];rfl
    have SA:=PB k hk q (aE hq);have Sr:(rv++[.slice (some ⟨gx,0,none⟩) n cx])[rv.length]? =some (.slice (some ⟨gx,0,none⟩) n cx):=by simp
    have Vq:(E++[fZ E at_ x k])[rv.length]? =some (fZ E at_ x k):=by rw[Pk];simp
    obtain⟨ad,cs,Om,hF,hl⟩:=hE.load Sr Vq hq;obtain⟨f0,f1,f2,f3,f4,f5,f6,f7,rfl,hF⟩:=hF;refine⟨ad,Om,by omega,[.bool f0,.slice f1 f2 f3,.bool f4,.slice f5 f6 f7],rfl,fun O w' r t u hu=>?_,?_⟩
    ·obtain⟨k1,k2⟩:=hl t u hu;rw[aF,cJ (w:=w2) (w2:=w') (by rw[c9,c9];exact Rel.same r (eI _) k1)];exact k2
    refine cB (cE hw (fun _ w' v w2=>∃d,v= .bool d∧(d=true↔q=0)) (fun O w' r=>mR (Lr.old r hS) ((hF.Eh r hS).l (by omega))) ?_);rintro O _ _ PL OZ r he hw h_ ⟨d,rfl,hz⟩;replace hE:=hE.cD r hS he (mC h_);replace hF:=hF.Mp r hS he (mC h_)
    cases d
    ·have Uo:q≠0:=fun e=>by have:=hz.2 e;cases this
     obtain⟨vj,Sf⟩:∃v,rv[j]? =some v:=⟨_,aB (by omega)⟩
     have TO:(rv++[.slice (some ⟨gx,0,none⟩) n cx])[j]? =some vj:=by rw[aJ (by omega)];exact Sf
     obtain⟨ej,Up⟩:∃v,E[j]? =some v:=⟨_,aB hj⟩
     have Uq:(E++[fZ E at_ x k])[j]? =some ej:=by rw[aJ hj];exact Up
     have hejd:E.getD j []=ej:=by rw[List.getD,Up];rfl
     obtain⟨aj,cj,rfl⟩:=hE.form TO;obtain⟨ad,cs,Om,hF,hl⟩:=hE.load Sr Vq hq;obtain⟨f0,f1,f2,f3,f4,f5,f6,f7,rfl,hF⟩:=hF;refine cH hτ dN [.x 0,.x 1,.x 2,.x 3,.x 4,.x 5,.x 6,.x 7,.x 8,.x 9,.x 10,.x 11] (by kernel_rfl) (by kernel_rfl) ?_;refine⟨by simp,by omega,.slice aj n cj,by simpa using Sf,ad,Om,by omega,[.bool f0,.slice f1 f2 f3,.bool f4,.slice f5 f6 f7],rfl,fun O w' r t u hu=>?_,?_⟩
     ·obtain⟨k1,k2⟩:=hl t u hu;rw[aF,cJ (w:=PL) (w2:=w') (by rw[c9,c9];exact Rel.same r (eI _) k1)];exact k2
     refine⟨fun O w' r=>?_⟩;refine(hE.Cj r hS (i:=rv.length) (j:=j) (h:=h) (by omega) Sr TO Vq Uq (hF.l (by omega)) (fun y hy=>PB k hk y hy) (fun y hy=>hEb ej (aE Up) y hy) SA hh).mono fun e w8 he=>?_;obtain⟨rfl,Oc,QZ,Ov⟩:=he;have PO:=(hw.tr r.cL).tr (hE.cL r Oc QZ);refine⟨.tuple #[],_,(w'.heap.size,w8.heap.size)::OZ,rfl,r.nJ (fun x hx=>Rel.not r (eI _) (hE.new x (QZ x hx))) Oc,?_⟩;have Oh:(E++[fZ E at_ x k]).set rv.length (lu (fZ E at_ x k) ej q)=E++[fZ E at_ x (k+1)]:=by rw[Pk,Eg,zo ho,hejd,Qt]
     rw[Oh]at Ov;generalize (w'.heap.size,w8.heap.size)::OZ=RU at*
     refine⟨((k+1:Nat):Int),wo,?_⟩;intro ρ3 w3 r3;exact⟨(k+1,gx,cx,w3,_),⟨OT,PO.tr r3.cL,Ov.rel r3 hS⟩,Sub.gn [] r3,by dsimp only;omega⟩
    ·have Uo:q=0:=hz.1 rfl;refine⟨((k+1:Nat):Int),wo,?_⟩;intro ρ3 w3 r3;exact⟨(k+1,gx,cx,w3,_),⟨OT,hw.tr r3.cL,by dsimp only;rw[zo ho,Qt,Uo,y8];exact hE.rel r3 hS⟩,Sub.gn [] r3,by dsimp only;omega⟩
  have OT:k=cols:=aU hk (by simpa using OT);rw[OT]at hE;obtain⟨y,hy⟩:∃y,fZ E at_ x cols=y:=⟨_,rfl⟩
  have hyl:y.length=n:=by rw[<-hy];exact hcll cols
  have VJ:∀q∈y,rl q+1<=h:=by rw[<-hy];exact PB cols (Nat.le_refl _)
  rw[hy]at hE;have Sr:(rv++[.slice (some ⟨gx,0,none⟩) n cx])[rv.length]? =some (.slice (some ⟨gx,0,none⟩) n cx):=by simp
  refine⟨Nat×World×Iv,fun z=>⟨[(9,.o (.v (.slice (some ⟨gx,0,none⟩) n cx))),(12,iN z.1),(2,pP 0 0),(4,pP 1 0),(5,pP 2 0),(6,.o (.s 3 0 cols cols)),(8,iN i),(36,sV am M.length cm),(37,iZ M.length),(38,iN i),(1,iZ cols)],[(2,.box T.dE [.w 4 rv.length,.v (.int .i64 n),.v (.slice none 0 0),.w 5 fr.length]),(5,.vec T.int 1 (fr.map fun c:Nat=>.int .i64 (c:Int))),(4,.vec T.jC 1 rv),(0,.box T.di [.v (.slice am M.length cm),.v (.int .i64 n)]),(1,.box T.dE [.v (.slice none 0 0),.v (.int .i64 0),.v (.slice none 0 0),.v (.slice none 0 0)]),(3,.arr T.int (at_.map Lf))],8,z.2.2,z.2.1⟩,fun z=>cols-z.1,
   fun z=>z.1<=cols∧(∀t,t<z.1->y.getD t 0=0)∧dT w.heap.size w z.2.1∧lQ z.2.1 S w.heap.size z.2.2 (rv++[.slice (some ⟨gx,0,none⟩) n cx]) n (E++[y]),?_,?_⟩
  ·intro O w' r3;exact⟨(0,w',_),⟨aS _,fun t ht=>absurd ht (Nat.not_lt_zero t),hw.tr r3.cL,hE.rel r3 hS⟩,Sub.gn [] r3⟩
  rintro⟨pv,w3,iv⟩ ⟨hp,VR,hw,hE⟩;dsimp only at hp VR hw hE ⊢;have Vq:(E++[y])[rv.length]? =some y:=by rw[Pk];simp
  refine dB.mk ?_ ?_<;>intro Ss
  ·have Ss:pv<cols:=by simpa using Ss
   obtain⟨q,hq⟩:∃q,y[pv]? =some q:=⟨_,aB (by omega)⟩
   have Qt:y.getD pv 0=q:=by rw[List.getD,hq];rfl
   have SA:=VJ q (aE hq);obtain⟨ad,cs,Om,hF,hl⟩:=hE.load Sr Vq hq;obtain⟨f0,f1,f2,f3,f4,f5,f6,f7,rfl,hF⟩:=hF;refine⟨ad,Om,by omega,[.bool f0,.slice f1 f2 f3,.bool f4,.slice f5 f6 f7],rfl,fun O w' r t u hu=>?_,?_⟩
   ·obtain⟨k1,k2⟩:=hl t u hu;rw[aF,cJ (w:=w3) (w2:=w') (by rw[c9,c9];exact Rel.same r (eI _) k1)];exact k2
   refine cB (cE hw (fun _ w' v w2=>∃d,v= .bool d∧(d=true↔q=0)) (fun O w' r=>mR (Lr.old r hS) ((hF.Eh r hS).l (by omega))) ?_);rintro O _ _ PR OU r he hw h_ ⟨d,rfl,hz⟩;replace hE:=hE.cD r hS he (mC h_)
   cases d
   ·have Uo:q≠0:=fun e=>by have:=hz.2 e;cases this
    refine dB.mk ?_ ?_<;>intro he
    ·have he:(pv:Int)=cols:=by simpa using he
     omega
    have Tv:tM y cols=pv:=HD VR hp fun _=>by rw[Qt];exact Uo
    have SC:=GO Q7 US hy Tv (by omega);rw[Qt]at SC;obtain⟨u,hu⟩:∃u,y.map (· / q)=u:=⟨_,rfl⟩
    rw[hu]at SC;have hul:u.length=n:=by rw[<-hu,aL,hyl]
    have hub:∀q∈u,rl q+1<=h:=by
     have:=hB.rows (i+1) OQ u (by rw[SC];simp);exact this
    obtain⟨ad,cs,Om,hF,hl⟩:=hE.load Sr Vq hq;obtain⟨f0,f1,f2,f3,f4,f5,f6,f7,rfl,hF⟩:=hF;refine⟨ad,Om,by omega,[.bool f0,.slice f1 f2 f3,.bool f4,.slice f5 f6 f7],rfl,fun O w' r t u hu=>?_,?_⟩
    ·obtain⟨k1,k2⟩:=hl t u hu;rw[aF,cJ (w:=PR) (w2:=w') (by rw[c9,c9];exact Rel.same r (eI _) k1)];exact k2
    refine⟨Nat×World×Iv,fun z=>⟨[(9,.o (.v (.slice (some ⟨gx,0,none⟩) n cx))),(12,iN pv),(13,pP 8 0),(97,iZ n),(98,iN z.1),(2,pP 0 0),(4,pP 1 0),(5,pP 2 0),(6,.o (.s 3 0 cols cols)),(8,iN i),(36,sV am M.length cm),(37,iZ M.length),(38,iN i),(1,iZ cols)],[(8,.box T.Rat [.v (.bool f0),.v (.slice f1 f2 f3),.v (.bool f4),.v (.slice f5 f6 f7)]),(2,.box T.dE [.w 4 rv.length,.v (.int .i64 n),.v (.slice none 0 0),.w 5 fr.length]),(5,.vec T.int 1 (fr.map fun c:Nat=>.int .i64 (c:Int))),(4,.vec T.jC 1 rv),(0,.box T.di [.v (.slice am M.length cm),.v (.int .i64 n)]),(1,.box T.dE [.v (.slice none 0 0),.v (.int .i64 0),.v (.slice none 0 0),.v (.slice none 0 0)]),(3,.arr T.int (at_.map Lf))],9,z.2.2,z.2.1⟩,fun z=>n-z.1,
     fun z=>z.1<=n∧dT w.heap.size w z.2.1∧lQ z.2.1 S w.heap.size z.2.2 (rv++[.slice (some ⟨gx,0,none⟩) n cx]) n (E++[gb z.1 (fun _ r=>r / q) y])∧cN z.2.1 (Lr S w.heap.size z.2.2 (rv++[.slice (some ⟨gx,0,none⟩) n cx])) (.agg #[.bool f0,.slice f1 f2 f3,.bool f4,.slice f5 f6 f7]) q,?_,?_⟩
    ·intro O w' r3;exact⟨(0,w',_),⟨aS _,hw.tr r3.cL,by dsimp only;rw[oP];exact hE.rel r3 hS,hF.Eh r3 hS⟩,Sub.gn [] r3⟩
    rintro⟨k,w4,iv⟩ ⟨hk,hw,hE,hF⟩;dsimp only at hk hw hE hF ⊢;have Vq:(E++[gb k (fun _ r=>r / q) y])[rv.length]? =some (gb k (fun _ r=>r / q) y):=by rw[Pk];simp
    refine dB.mk ?_ ?_<;>intro OT
    ·have OT:k<n:=by simpa using OT
     obtain⟨t,ht⟩:∃q,y[k]? =some q:=⟨_,aB (by omega)⟩
     have htl:=VJ t (aE ht);obtain⟨ad,cs,Om,hG,hl⟩:=hE.load Sr Vq (uL ht);obtain⟨g0,g1,g2,g3,g4,g5,g6,g7,rfl,hG⟩:=hG;refine cH hτ dN [.x 0,.x 1,.x 2,.x 3,.x 4,.x 5,.x 6,.x 7,.x 8,.x 9] (by kernel_rfl) (by kernel_rfl) ?_;refine⟨ad,Om,by omega,[.bool g0,.slice g1 g2 g3,.bool g4,.slice g5 g6 g7],rfl,fun O w' r t u hu=>?_,?_⟩
     ·obtain⟨k1,k2⟩:=hl t u hu;rw[aF,cJ (w:=w4) (w2:=w') (by rw[c9,c9];exact Rel.same r (eI _) k1)];exact k2
     refine cI (Φ:=fun _ w' v w2=>cN w2 (Nf w' w2) v (t / q)) (fun O w' r=>GL (Lr.old r hS) ((hG.Eh r hS).l (by omega)) ((hF.Eh r hS).l (by omega)) Uo) ?_;rintro O PX v3 PW r he hb Qf;replace hw:=hw.tr hb;have hd:=Qf.aAV (S0:=S) hE r;replace hE:=hE.cD (iv':=(PX.heap.size,PW.heap.size)::iv) r hS he fun x hx=>aC _ hx;replace hF:=hF.Mp (iv':=(PX.heap.size,PW.heap.size)::iv) r hS he fun x hx=>aC _ hx;generalize (PX.heap.size,PW.heap.size)::iv=Oi at*
     obtain⟨A0,A1,A2,A3,A4,A5,A6,A7,rfl⟩:=hd.shape;refine⟨⟨gx,0,none⟩,rfl,by omega,?_⟩;intro O w' r;obtain⟨g,hg,h1,h2,h3,h4⟩:=hE.store r hS Sr Vq OT hd;injection hg with hg;injection hg with hg;subst hg;refine⟨h1,h2,h3,fun w5 Rp=>?_⟩;obtain⟨k1,k2,k3,k4⟩:=h4 w5 Rp;have PO:=(hw.tr r.cL).tr k2;have Rz:=hF.cC k4;have Oh:(E++[gb k (fun _ r=>r / q) y]).set rv.length ((gb k (fun _ r=>r / q) y).set k (t / q))=E++[gb (k+1) (fun _ r=>r / q) y]:=by rw[Pk,Eg,<-lP ht]
     rw[Oh]at k1;refine⟨((k+1:Nat):Int),wo,?_⟩;intro ρ3 w6 r3;exact⟨(k+1,w6,_),⟨OT,PO.tr r3.cL,k1.rel r3 hS,Rz.Eh r3 hS⟩,Sub.gn [] r3,by dsimp only;omega⟩
    have OT:k=n:=aU hk (by simpa using OT);rw[OT,<-hyl,Km,hu,hyl]at hE
    refine⟨by simp,Nat×World×Iv,fun z=>⟨[(9,.o (.v (.slice (some ⟨gx,0,none⟩) n cx))),(12,iN pv),(113,.o (.w 4 rv.length)),(114,iZ rv.length),(115,iN z.1),(2,pP 0 0),(4,pP 1 0),(5,pP 2 0),(6,.o (.s 3 0 cols cols)),(8,iN i),(36,sV am M.length cm),(37,iZ M.length),(38,iN i),(1,iZ cols)],[(2,.box T.dE [.w 4 rv.length,.v (.int .i64 n),.v (.slice none 0 0),.w 5 fr.length]),(5,.vec T.int 1 (fr.map fun c:Nat=>.int .i64 (c:Int))),(4,.vec T.jC 1 rv),(0,.box T.di [.v (.slice am M.length cm),.v (.int .i64 n)]),(1,.box T.dE [.v (.slice none 0 0),.v (.int .i64 0),.v (.slice none 0 0),.v (.slice none 0 0)]),(3,.arr T.int (at_.map Lf))],9,z.2.2,z.2.1⟩,fun z=>rv.length-z.1,
     fun z=>z.1<=rv.length∧dT w.heap.size w z.2.1∧lQ z.2.1 S w.heap.size z.2.2 (rv++[.slice (some ⟨gx,0,none⟩) n cx]) n (gE E u pv z.1++[u]),?_,?_⟩
    ·intro O w' r3;exact⟨(0,w',_),⟨aS _,hw.tr r3.cL,by dsimp only;rw[Fl];exact hE.rel r3 hS⟩,Sub.gn [] r3⟩
    rintro⟨j,w5,iv⟩ ⟨hj,hw,hE⟩;dsimp only at hj hw hE ⊢;refine dB.mk ?_ ?_<;>intro Pv
    ·have Pv:j<rv.length:=by simpa using Pv
     obtain⟨ej,Up⟩:∃v,E[j]? =some v:=⟨_,aB (by omega)⟩
     have Ur:ej.length=n:=OV.len ej (aE Up);have heb:=hEb ej (aE Up);obtain⟨vj,Sf⟩:∃v,rv[j]? =some v:=⟨_,aB Pv⟩
     have TO:(rv++[.slice (some ⟨gx,0,none⟩) n cx])[j]? =some vj:=by rw[aJ Pv];exact Sf
     have Uq:(gE E u pv j++[u])[j]? =some ej:=by rw[aJ (by rw[fe];omega)];exact Du Up
     have hur:(gE E u pv j++[u])[rv.length]? =some u:=by rw[Pk,<-fe E u pv j];simp
     obtain⟨t,ht⟩:∃q,ej[pv]? =some q:=⟨_,aB (by omega)⟩
     have htd:ej.getD pv 0=t:=by rw[List.getD,ht];rfl
     have htl:=heb t (aE ht);obtain⟨aj,cj,rfl⟩:=hE.form TO;obtain⟨ad,cs,Om,hG,hl⟩:=hE.load TO Uq ht;obtain⟨g0,g1,g2,g3,g4,g5,g6,g7,rfl,hG⟩:=hG;refine⟨by simp,by omega,.slice aj n cj,by simpa using Sf,ad,Om,by omega,[.bool g0,.slice g1 g2 g3,.bool g4,.slice g5 g6 g7],rfl,fun O w' r t u hu=>?_,?_⟩
     ·obtain⟨k1,k2⟩:=hl t u hu;rw[aF,cJ (w:=w5) (w2:=w') (by rw[c9,c9];exact Rel.same r (eI _) k1)];exact k2
     refine cB (cE hw (fun _ w' v w2=>∃d,v= .bool d∧(d=true↔t=0)) (fun O w' r=>mR (Lr.old r hS) ((hG.Eh r hS).l (by omega))) ?_);rintro O _ _ Q9 Ow r he hw h_ ⟨d,rfl,hz⟩;replace hE:=hE.cD r hS he (mC h_)
     cases d
     ·have ht0:t≠0:=fun e=>by have:=hz.2 e;cases this
      obtain⟨ad,cs,Om,hG,hl⟩:=hE.load TO Uq ht;obtain⟨g0,g1,g2,g3,g4,g5,g6,g7,rfl,hG⟩:=hG;refine⟨ad,Om,by omega,[.bool g0,.slice g1 g2 g3,.bool g4,.slice g5 g6 g7],rfl,fun O w' r t u hu=>?_,?_⟩
      ·obtain⟨k1,k2⟩:=hl t u hu;rw[aF,cJ (w:=Q9) (w2:=w') (by rw[c9,c9];exact Rel.same r (eI _) k1)];exact k2
      refine⟨fun O w' r=>?_⟩;refine(hE.Cj r hS (i:=j) (j:=rv.length) (h:=h) (by omega) TO Sr Uq hur (hG.l (by omega)) heb hub htl hh).mono fun e w8 he=>?_;obtain⟨rfl,Oc,QZ,Ov⟩:=he;have PO:=(hw.tr r.cL).tr (hE.cL r Oc QZ);refine⟨.tuple #[],_,(w'.heap.size,w8.heap.size)::Ow,rfl,r.nJ (fun x hx=>Rel.not r (eI _) (hE.new x (QZ x hx))) Oc,?_⟩;have Oh:(gE E u pv j++[u]).set j (lu ej u t)=gE E u pv (j+1)++[u]:=by rw[Kl _ _ (by rw[fe];omega),y9 Up,htd]
      rw[Oh]at Ov;generalize (w'.heap.size,w8.heap.size)::Ow=RU at*
      refine⟨((j+1:Nat):Int),wo,?_⟩;intro ρ3 w6 r3;exact⟨(j+1,w6,_),⟨Pv,PO.tr r3.cL,Ov.rel r3 hS⟩,Sub.gn [] r3,by dsimp only;omega⟩
     ·have ht0:t=0:=hz.1 rfl;refine⟨((j+1:Nat):Int),wo,?_⟩;intro ρ3 w6 r3;exact⟨(j+1,w6,_),⟨Pv,hw.tr r3.cL,by dsimp only;rw[GP Up (by rw[htd,ht0])];exact hE.rel r3 hS⟩,Sub.gn [] r3,by dsimp only;omega⟩
    have Pv:j=E.length:=by have:=aU hj (by simpa using Pv);omega
    rw[Pv]at hE;refine⟨by simp,by omega,by simp;omega,(at_.set pv (some rv.length)).map Lf,?_,?_⟩
    ·rw[aF,aY,aV,List.map_set];exact ju (by simp;omega)
    refine j1 hτ dN (.x 0 (.x 1 (.x 3 (.x 6 (.x 8 (.ld 2 64544 (.ld 7 64512 (.two 4 (.two 5 (.x 11 (.x 12 (.x 9 (.x 10 (.x 13 (.x 14 (.x 15 .nil))))))) 9 (.x 5 (.x 11 (.x 12 (.x 10 (.x 13 (.x 14 (.x 15 .nil)))))))) 9 (.x 4 (.x 5 (.x 11 (.x 12 (.x 10 (.x 13 (.x 14 (.x 15 .nil)))))))))))))))) (by kernel_rfl) (by kernel_rfl) ?_;refine⟨?_,?_⟩
    ·refine⟨rfl,rfl,?_,?_⟩
     ·refine .inl ?_;refine⟨by simp,by omega,by unfold maxLen;omega,rfl,rfl,?_⟩;refine .inl ?_;refine⟨by simp,by omega,by unfold maxLen;omega,((i+1:Nat):Int),wo,?_⟩;intro ρ3 w6 r3;exact⟨(i+1,rv++[.slice (some ⟨gx,0,none⟩) n cx],gE E u pv E.length++[u],at_.set pv (some E.length),fr++[i],w6,_),⟨OQ,SC.symm,hw.tr r3.cL,hE.rel r3 hS⟩,Sub.gn [(4,10),(5,12)] r3 ⟨by dsimp only;rw[List.length_append,List.length_append,List.length_singleton,List.length_singleton];rfl,by dsimp only;rw[List.map_append];rfl,rfl,rfl,rfl,by dsimp only;rw[<-Pk];rfl,trivial⟩,by dsimp only;omega⟩
     ·refine⟨rfl,rfl,?_⟩;refine .inl ?_;refine⟨by simp,by omega,by unfold maxLen;omega,rfl,?_⟩;refine .inl ?_;refine⟨by simp,by omega,by unfold maxLen;omega,((i+1:Nat):Int),wo,?_⟩;intro ρ3 w6 r3;exact⟨(i+1,rv++[.slice (some ⟨gx,0,none⟩) n cx],gE E u pv E.length++[u],at_.set pv (some E.length),fr++[i],w6,_),⟨OQ,SC.symm,hw.tr r3.cL,hE.rel r3 hS⟩,Sub.gn [(4,11),(5,12)] r3 ⟨by dsimp only;rw[List.length_append,List.length_append,List.length_singleton,List.length_singleton];rfl,by dsimp only;rw[List.map_append];rfl,rfl,rfl,rfl,by dsimp only;rw[<-Pk];rfl,trivial⟩,by dsimp only;omega⟩
    ·refine⟨rfl,rfl,rfl,rfl,?_⟩;refine .inl ?_;refine⟨by simp,by omega,by unfold maxLen;omega,rfl,?_⟩;refine .inl ?_;refine⟨by simp,by omega,by unfold maxLen;omega,((i+1:Nat):Int),wo,?_⟩;intro ρ3 w6 r3;exact⟨(i+1,rv++[.slice (some ⟨gx,0,none⟩) n cx],gE E u pv E.length++[u],at_.set pv (some E.length),fr++[i],w6,_),⟨OQ,SC.symm,hw.tr r3.cL,hE.rel r3 hS⟩,Sub.gn [(4,11),(5,12)] r3 ⟨by dsimp only;rw[List.length_append,List.length_append,List.length_singleton,List.length_singleton];rfl,by dsimp only;rw[List.map_append];rfl,rfl,rfl,rfl,by dsimp only;rw[<-Pk];rfl,trivial⟩,by dsimp only;omega⟩
   ·have Uo:q=0:=hz.1 rfl;refine⟨((pv+1:Nat):Int),wo,?_⟩;intro ρ3 w4 r3
    exact⟨(pv+1,w4,_),⟨Ss,fun t ht=>by
     by_cases htp:t=pv
     ·rw[htp,Qt,Uo]
     ·exact VR t (by dsimp only at ht;omega),hw.tr r3.cL,hE.rel r3 hS⟩,Sub.gn [] r3,by dsimp only;omega⟩
  have Ss:pv=cols:=aU hp (by simpa using Ss);have Tv:tM y cols=cols:=HD (k:=cols) (fun t ht=>VR t (by omega)) (Nat.le_refl _) (fun h=>absurd h (Nat.lt_irrefl _));have hskip:=GN Q7 US hy Tv;refine dB.mk (fun he=>?_) (fun he=>by rw[Ss]at he;simp at he);refine⟨((i+1:Nat):Int),wo,?_⟩;intro ρ3 w4 r3;exact⟨(i+1,rv,E,at_,fr,w4,_),⟨OQ,hskip,hw.tr r3.cL,hE.drop.rel r3 hS⟩,Sub.gn [] r3,by dsimp only;omega⟩
 have OQ:i=M.length:=aU hi (by simpa using OQ);subst OQ;have hredS:dh M cols=cZ (E,at_,fr) cols:=by rw[dh,<-Q7]
 have Ou:∀(k r:Nat),at_[k]? =some (some r)->r<E.length:=OV.lt;have SI:∀k,k<=cols->(cZ (E,at_,fr) k).1.length=(cZ (E,at_,fr) k).2.1.length∧(cZ (E,at_,fr) k).2.2.length=(cZ (E,at_,fr) k).2.1.length∧(kZ rv at_ k).length=(cZ (E,at_,fr) k).2.1.length∧(cZ (E,at_,fr) k).2.1.length<=k:=fun k hk=>uM (E,at_,fr) rv k (by dsimp only;omega)
 refine⟨Nat×World,fun z=>⟨[(4,pP 1 0),(5,pP 2 0),(17,pP 6 0),(159,.o (.s 3 0 cols cols)),(160,iZ cols),(161,iN z.1)],[(6,.box T.dE [.w 7 (cZ (E,at_,fr) z.1).2.1.length,.v (.int .i64 n),.w 8 (cZ (E,at_,fr) z.1).2.1.length,.w 9 (cZ (E,at_,fr) z.1).2.1.length]),(9,.vec T.int 1 ((cZ (E,at_,fr) z.1).2.2.map fun c:Nat=>.int .i64 (c:Int))),(8,.vec T.int 1 ((cZ (E,at_,fr) z.1).2.1.map fun c:Nat=>.int .i64 (c:Int))),(7,.vec T.jC 1 (kZ rv at_ z.1)),(2,.box T.dE [.w 4 rv.length,.v (.int .i64 n),.v (.slice none 0 0),.w 5 fr.length]),(5,.vec T.int 1 (fr.map fun c:Nat=>.int .i64 (c:Int))),(4,.vec T.jC 1 rv),(1,.box T.dE [.v (.slice none 0 0),.v (.int .i64 0),.v (.slice none 0 0),.v (.slice none 0 0)]),(3,.arr T.int (at_.map Lf))],10,iv,z.2⟩,fun z=>cols-z.1,
  fun z=>z.1<=cols∧dT w.heap.size w z.2∧lQ z.2 S w.heap.size iv rv n E,?_,?_⟩
 ·intro O w' r
  exact⟨(0,w'),⟨aS _,hw.tr r.cL,hE.rel r hS⟩,Sub.Ee 6 0 T.jC 1 rfl rfl (by simp[l6,SV.sc,At.sc]) r fun ρ1 r1=>Sub.Ee 6 2 T.int 1 rfl rfl (by simp[l6,SV.sc,At.sc]) r1 fun ρ2 r2=>Sub.Ee 6 3 T.int 1 rfl rfl (by simp[l6,SV.sc,At.sc]) r2 fun ρ3 r3=>
   Sub.gn [] r3⟩
 rintro⟨k,w1⟩ ⟨hk,hw,hE⟩;dsimp only at hk hw hE ⊢;obtain⟨q1,q2,q3,q4⟩:=SI k hk;refine dB.mk ?_ ?_<;>intro OT
 ·have OT:k<cols:=by simpa using OT
  obtain⟨o,ho⟩:∃o,at_[k]? =some o:=⟨_,aB (by omega)⟩
  refine⟨by omega,Lf o,by rw[aF,aY,aV,aM,ho];rfl,?_⟩
  cases o with
  |none=>
   refine⟨((k+1:Nat):Int),wo,?_⟩;have PQ:=mS (s:=(E,at_,fr)) ho;have Q6:=s5 (rv:=rv) ho;intro ρ3 w3 r3;exact⟨(k+1,w3),⟨OT,hw.tr r3.cL,hE.rel r3 hS⟩,Sub.gn [] r3 ⟨by dsimp only;rw[PQ];rfl,by dsimp only;rw[PQ];rfl,by dsimp only;rw[PQ];rfl,by dsimp only;rw[Q6];rfl,rfl,rfl,rfl,rfl,rfl,trivial⟩,by dsimp only;omega⟩
  |some j=>
   have hj:j<E.length:=Ou k j ho;obtain⟨vj,Sf⟩:∃v,rv[j]? =some v:=⟨_,aB (by omega)⟩
   have hvjd:rv.getD j (.bool false)=vj:=by rw[List.getD,Sf];rfl
   obtain⟨aj,cj,rfl⟩:=hE.form Sf;obtain⟨fj,So⟩:∃v,fr[j]? =some v:=⟨_,aB (by omega)⟩
   have hfjd:fr.getD j 0=fj:=by rw[List.getD,So];rfl
   have PQ:=mT (s:=(E,at_,fr)) ho;have Q6:=s6 (rv:=rv) ho;dsimp only at PQ;rw[hvjd]at Q6;rw[hfjd]at PQ;refine j1 hτ dN (.x 0 (.x 1 (.x 3 (.x 4 (.x 6 (.x 11 (.x 13 (.x 16 (.x 18 (.x 20 (.ld 2 4278223872 (.ld 5 4278224768 (.x 7 (.ld 8 4278224384 (.ld 12 4278222848 (.ld 17 4278190080 (.ld 19 4192206848 (.x 21 (.ld 22 4185915392 (.three 9 (.three 10 (.x 25 (.x 26 (.two 14 (.two 15 (.x 23 (.x 24 (.x 27 (.x 28 (.x 29 (.x 30 (.x 31 .nil))))))) 23 (.x 15 (.x 24 (.x 27 (.x 28 (.x 29 (.x 30 (.x 31 .nil)))))))) 23 (.x 14 (.x 15 (.x 24 (.x 27 (.x 28 (.x 29 (.x 30 (.x 31 .nil))))))))))) 14 (.two 10 (.x 25 (.x 26 (.two 15 (.x 23 (.x 24 (.x 27 (.x 28 (.x 29 (.x 30 (.x 31 .nil))))))) 23 (.x 15 (.x 24 (.x 27 (.x 28 (.x 29 (.x 30 (.x 31 .nil)))))))))) 23 (.x 10 (.x 25 (.x 26 (.x 15 (.x 24 (.x 27 (.x 28 (.x 29 (.x 30 (.x 31 .nil))))))))))) 23 (.two 10 (.x 25 (.x 26 (.x 14 (.x 15 (.x 24 (.x 27 (.x 28 (.x 29 (.x 30 (.x 31 .nil)))))))))) 14 (.x 10 (.x 25 (.x 26 (.x 15 (.x 24 (.x 27 (.x 28 (.x 29 (.x 30 (.x 31 .nil)))))))))))) 14 (.two 9 (.two 10 (.x 25 (.x 26 (.two 15 (.x 23 (.x 24 (.x 27 (.x 28 (.x 29 (.x 30 (.x 31 .nil))))))) 23 (.x 15 (.x 24 (.x 27 (.x 28 (.x 29 (.x 30 (.x 31 .nil)))))))))) 23 (.x 10 (.x 25 (.x 26 (.x 15 (.x 24 (.x 27 (.x 28 (.x 29 (.x 30 (.x 31 .nil))))))))))) 23 (.x 9 (.x 10 (.x 25 (.x 26 (.x 15 (.x 24 (.x 27 (.x 28 (.x 29 (.x 30 (.x 31 .nil)))))))))))) 23 (.two 9 (.two 10 (.x 25 (.x 26 (.x 14 (.x 15 (.x 24 (.x 27 (.x 28 (.x 29 (.x 30 (.x 31 .nil)))))))))) 14 (.x 10 (.x 25 (.x 26 (.x 15 (.x 24 (.x 27 (.x 28 (.x 29 (.x 30 (.x 31 .nil))))))))))) 14 (.x 9 (.x 10 (.x 25 (.x 26 (.x 15 (.x 24 (.x 27 (.x 28 (.x 29 (.x 30 (.x 31 .nil)))))))))))))))))))))))))))))))) (by kernel_rfl) (by kernel_rfl) ?_;refine⟨by simp,by omega,.slice aj n cj,by simpa using Sf,by simp,by omega,.int .i64 (fj:Int),by simp[So],?_,?_,?_⟩
   ·refine⟨.int .i64 (fj:Int),by simp[So],rfl,rfl,rfl,rfl,rfl,?_,?_,?_⟩
    ·refine .inl ?_;refine⟨by simp[q2,q3],by omega,by unfold maxLen;omega,.int .i64 (fj:Int),by simp[So],rfl,rfl,rfl,rfl,?_,?_⟩
     ·refine⟨.int .i64 (fj:Int),by simp[So],rfl,rfl,rfl,rfl,?_,?_⟩
      ·refine .inl ?_;refine⟨by simp[q2,q3],by omega,by unfold maxLen;omega,.int .i64 (fj:Int),by simp[So],rfl,rfl,rfl,rfl,?_⟩;refine .inl ?_;refine⟨by simp[q2,q3],by omega,by unfold maxLen;omega,((k+1:Nat):Int),wo,?_⟩;intro ρ3 w3 r3;exact⟨(k+1,w3),⟨OT,hw.tr r3.cL,hE.rel r3 hS⟩,Sub.gn [(7,11),(8,13),(9,15)] r3 ⟨by dsimp only;rw[PQ,List.length_append,List.length_singleton];rfl,by dsimp only;rw[PQ,List.map_append];rfl,by dsimp only;rw[PQ,List.map_append];rfl,by dsimp only;rw[Q6];rfl,rfl,rfl,rfl,rfl,rfl,trivial⟩,by dsimp only;omega⟩
      ·refine⟨rfl,rfl,?_⟩;refine .inl ?_;refine⟨by simp[q2,q3],by omega,by unfold maxLen;omega,rfl,?_⟩;refine .inl ?_;refine⟨by simp[q2,q3],by omega,by unfold maxLen;omega,((k+1:Nat):Int),wo,?_⟩;intro ρ3 w3 r3;exact⟨(k+1,w3),⟨OT,hw.tr r3.cL,hE.rel r3 hS⟩,Sub.gn [(7,11),(8,14),(9,15)] r3 ⟨by dsimp only;rw[PQ,List.length_append,List.length_singleton];rfl,by dsimp only;rw[PQ,List.map_append];rfl,by dsimp only;rw[PQ,List.map_append];rfl,by dsimp only;rw[Q6];rfl,rfl,rfl,rfl,rfl,rfl,trivial⟩,by dsimp only;omega⟩
     ·refine⟨rfl,rfl,rfl,rfl,?_⟩;refine .inl ?_;refine⟨by simp[q2,q3],by omega,by unfold maxLen;omega,rfl,?_⟩;refine .inl ?_;refine⟨by simp[q2,q3],by omega,by unfold maxLen;omega,((k+1:Nat):Int),wo,?_⟩;intro ρ3 w3 r3;exact⟨(k+1,w3),⟨OT,hw.tr r3.cL,hE.rel r3 hS⟩,Sub.gn [(7,11),(8,14),(9,15)] r3 ⟨by dsimp only;rw[PQ,List.length_append,List.length_singleton];rfl,by dsimp only;rw[PQ,List.map_append];rfl,by dsimp only;rw[PQ,List.map_append];rfl,by dsimp only;rw[Q6];rfl,rfl,rfl,rfl,rfl,rfl,trivial⟩,by dsimp only;omega⟩
    ·refine⟨.int .i64 (fj:Int),by simp[So],rfl,rfl,rfl,rfl,rfl,?_,?_⟩
     ·refine .inl ?_;refine⟨by simp[q2,q3],by omega,by unfold maxLen;omega,.int .i64 (fj:Int),by simp[So],rfl,rfl,rfl,rfl,?_,?_⟩
      ·refine .inl ?_;refine⟨by simp[q2,q3],by omega,by unfold maxLen;omega,.int .i64 (fj:Int),by simp[So],rfl,rfl,rfl,rfl,?_⟩;refine .inl ?_;refine⟨by simp[q2,q3],by omega,by unfold maxLen;omega,((k+1:Nat):Int),wo,?_⟩;intro ρ3 w3 r3;exact⟨(k+1,w3),⟨OT,hw.tr r3.cL,hE.rel r3 hS⟩,Sub.gn [(7,12),(8,13),(9,15)] r3 ⟨by dsimp only;rw[PQ,List.length_append,List.length_singleton];rfl,by dsimp only;rw[PQ,List.map_append];rfl,by dsimp only;rw[PQ,List.map_append];rfl,by dsimp only;rw[Q6];rfl,rfl,rfl,rfl,rfl,rfl,trivial⟩,by dsimp only;omega⟩
      ·refine⟨rfl,rfl,?_⟩;refine .inl ?_;refine⟨by simp[q2,q3],by omega,by unfold maxLen;omega,rfl,?_⟩;refine .inl ?_;refine⟨by simp[q2,q3],by omega,by unfold maxLen;omega,((k+1:Nat):Int),wo,?_⟩;intro ρ3 w3 r3;exact⟨(k+1,w3),⟨OT,hw.tr r3.cL,hE.rel r3 hS⟩,Sub.gn [(7,12),(8,14),(9,15)] r3 ⟨by dsimp only;rw[PQ,List.length_append,List.length_singleton];rfl,by dsimp only;rw[PQ,List.map_append];rfl,by dsimp only;rw[PQ,List.map_append];rfl,by dsimp only;rw[Q6];rfl,rfl,rfl,rfl,rfl,rfl,trivial⟩,by dsimp only;omega⟩
     ·refine⟨rfl,rfl,rfl,?_⟩;refine .inl ?_;refine⟨by simp[q2,q3],by omega,by unfold maxLen;omega,rfl,rfl,?_⟩;refine .inl ?_;refine⟨by simp[q2,q3],by omega,by unfold maxLen;omega,rfl,?_⟩;refine .inl ?_;refine⟨by simp[q2,q3],by omega,by unfold maxLen;omega,((k+1:Nat):Int),wo,?_⟩;intro ρ3 w3 r3;exact⟨(k+1,w3),⟨OT,hw.tr r3.cL,hE.rel r3 hS⟩,Sub.gn [(7,13),(8,14),(9,15)] r3 ⟨by dsimp only;rw[PQ,List.length_append,List.length_singleton];rfl,by dsimp only;rw[PQ,List.map_append];rfl,by dsimp only;rw[PQ,List.map_append];rfl,by dsimp only;rw[Q6];rfl,rfl,rfl,rfl,rfl,rfl,trivial⟩,by dsimp only;omega⟩
    ·refine⟨rfl,rfl,rfl,?_,?_⟩
     ·refine .inl ?_;refine⟨by simp[q2,q3],by omega,by unfold maxLen;omega,rfl,rfl,rfl,rfl,?_⟩;refine .inl ?_;refine⟨by simp[q2,q3],by omega,by unfold maxLen;omega,rfl,?_⟩;refine .inl ?_;refine⟨by simp[q2,q3],by omega,by unfold maxLen;omega,((k+1:Nat):Int),wo,?_⟩;intro ρ3 w3 r3;exact⟨(k+1,w3),⟨OT,hw.tr r3.cL,hE.rel r3 hS⟩,Sub.gn [(7,12),(8,14),(9,15)] r3 ⟨by dsimp only;rw[PQ,List.length_append,List.length_singleton];rfl,by dsimp only;rw[PQ,List.map_append];rfl,by dsimp only;rw[PQ,List.map_append];rfl,by dsimp only;rw[Q6];rfl,rfl,rfl,rfl,rfl,rfl,trivial⟩,by dsimp only;omega⟩
     ·refine⟨rfl,rfl,rfl,?_⟩;refine .inl ?_;refine⟨by simp[q2,q3],by omega,by unfold maxLen;omega,rfl,rfl,?_⟩;refine .inl ?_;refine⟨by simp[q2,q3],by omega,by unfold maxLen;omega,rfl,?_⟩;refine .inl ?_;refine⟨by simp[q2,q3],by omega,by unfold maxLen;omega,((k+1:Nat):Int),wo,?_⟩;intro ρ3 w3 r3;exact⟨(k+1,w3),⟨OT,hw.tr r3.cL,hE.rel r3 hS⟩,Sub.gn [(7,13),(8,14),(9,15)] r3 ⟨by dsimp only;rw[PQ,List.length_append,List.length_singleton];rfl,by dsimp only;rw[PQ,List.map_append];rfl,by dsimp only;rw[PQ,List.map_append];rfl,by dsimp only;rw[Q6];rfl,rfl,rfl,rfl,rfl,rfl,trivial⟩,by dsimp only;omega⟩
   ·refine⟨.int .i64 (fj:Int),by simp[So],rfl,rfl,rfl,rfl,.slice aj n cj,by simpa using Sf,rfl,rfl,rfl,?_,?_⟩
    ·refine⟨.int .i64 (fj:Int),by simp[So],rfl,rfl,rfl,rfl,rfl,?_,?_⟩
     ·refine .inl ?_;refine⟨by simp[q2,q3],by omega,by unfold maxLen;omega,.int .i64 (fj:Int),by simp[So],rfl,rfl,rfl,rfl,?_,?_⟩
      ·refine .inl ?_;refine⟨by simp[q2,q3],by omega,by unfold maxLen;omega,.int .i64 (fj:Int),by simp[So],rfl,rfl,rfl,rfl,?_⟩;refine .inl ?_;refine⟨by simp[q2,q3],by omega,by unfold maxLen;omega,((k+1:Nat):Int),wo,?_⟩;intro ρ3 w3 r3;exact⟨(k+1,w3),⟨OT,hw.tr r3.cL,hE.rel r3 hS⟩,Sub.gn [(7,12),(8,13),(9,15)] r3 ⟨by dsimp only;rw[PQ,List.length_append,List.length_singleton];rfl,by dsimp only;rw[PQ,List.map_append];rfl,by dsimp only;rw[PQ,List.map_append];rfl,by dsimp only;rw[Q6];rfl,rfl,rfl,rfl,rfl,rfl,trivial⟩,by dsimp only;omega⟩
      ·refine⟨rfl,rfl,?_⟩;refine .inl ?_;refine⟨by simp[q2,q3],by omega,by unfold maxLen;omega,rfl,?_⟩;refine .inl ?_;refine⟨by simp[q2,q3],by omega,by unfold maxLen;omega,((k+1:Nat):Int),wo,?_⟩;intro ρ3 w3 r3;exact⟨(k+1,w3),⟨OT,hw.tr r3.cL,hE.rel r3 hS⟩,Sub.gn [(7,12),(8,14),(9,15)] r3 ⟨by dsimp only;rw[PQ,List.length_append,List.length_singleton];rfl,by dsimp only;rw[PQ,List.map_append];rfl,by dsimp only;rw[PQ,List.map_append];rfl,by dsimp only;rw[Q6];rfl,rfl,rfl,rfl,rfl,rfl,trivial⟩,by dsimp only;omega⟩
     ·refine⟨rfl,rfl,rfl,?_⟩;refine .inl ?_;refine⟨by simp[q2,q3],by omega,by unfold maxLen;omega,rfl,rfl,?_⟩;refine .inl ?_;refine⟨by simp[q2,q3],by omega,by unfold maxLen;omega,rfl,?_⟩;refine .inl ?_;refine⟨by simp[q2,q3],by omega,by unfold maxLen;omega,((k+1:Nat):Int),wo,?_⟩;intro ρ3 w3 r3;exact⟨(k+1,w3),⟨OT,hw.tr r3.cL,hE.rel r3 hS⟩,Sub.gn [(7,13),(8,14),(9,15)] r3 ⟨by dsimp only;rw[PQ,List.length_append,List.length_singleton];rfl,by dsimp only;rw[PQ,List.map_append];rfl,by dsimp only;rw[PQ,List.map_append];rfl,by dsimp only;rw[Q6];rfl,rfl,rfl,rfl,rfl,rfl,trivial⟩,by dsimp only;omega⟩
    ·refine⟨rfl,rfl,.slice aj n cj,by simpa using Sf,rfl,rfl,rfl,rfl,rfl,rfl,?_⟩;refine .inl ?_;refine⟨by simp[q2,q3],by omega,by unfold maxLen;omega,rfl,rfl,?_⟩;refine .inl ?_;refine⟨by simp[q2,q3],by omega,by unfold maxLen;omega,rfl,?_⟩;refine .inl ?_;refine⟨by simp[q2,q3],by omega,by unfold maxLen;omega,((k+1:Nat):Int),wo,?_⟩;intro ρ3 w3 r3;exact⟨(k+1,w3),⟨OT,hw.tr r3.cL,hE.rel r3 hS⟩,Sub.gn [(7,13),(8,14),(9,15)] r3 ⟨by dsimp only;rw[PQ,List.length_append,List.length_singleton];rfl,by dsimp only;rw[PQ,List.map_append];rfl,by dsimp only;rw[PQ,List.map_append];rfl,by dsimp only;rw[Q6];rfl,rfl,rfl,rfl,rfl,rfl,trivial⟩,by dsimp only;omega⟩
   ·refine⟨rfl,rfl,.slice aj n cj,by simpa using Sf,rfl,rfl,rfl,?_,?_⟩
    ·refine⟨rfl,rfl,rfl,?_,?_⟩
     ·refine .inl ?_;refine⟨by simp[q2,q3],by omega,by unfold maxLen;omega,rfl,rfl,rfl,rfl,?_⟩;refine .inl ?_;refine⟨by simp[q2,q3],by omega,by unfold maxLen;omega,rfl,?_⟩;refine .inl ?_;refine⟨by simp[q2,q3],by omega,by unfold maxLen;omega,((k+1:Nat):Int),wo,?_⟩;intro ρ3 w3 r3;exact⟨(k+1,w3),⟨OT,hw.tr r3.cL,hE.rel r3 hS⟩,Sub.gn [(7,12),(8,14),(9,15)] r3 ⟨by dsimp only;rw[PQ,List.length_append,List.length_singleton];rfl,by dsimp only;rw[PQ,List.map_append];rfl,by dsimp only;rw[PQ,List.map_append];rfl,by dsimp only;rw[Q6];rfl,rfl,rfl,rfl,rfl,rfl,trivial⟩,by dsimp only;omega⟩
     ·refine⟨rfl,rfl,rfl,?_⟩;refine .inl ?_;refine⟨by simp[q2,q3],by omega,by unfold maxLen;omega,rfl,rfl,?_⟩;refine .inl ?_;refine⟨by simp[q2,q3],by omega,by unfold maxLen;omega,rfl,?_⟩;refine .inl ?_;refine⟨by simp[q2,q3],by omega,by unfold maxLen;omega,((k+1:Nat):Int),wo,?_⟩;intro ρ3 w3 r3;exact⟨(k+1,w3),⟨OT,hw.tr r3.cL,hE.rel r3 hS⟩,Sub.gn [(7,13),(8,14),(9,15)] r3 ⟨by dsimp only;rw[PQ,List.length_append,List.length_singleton];rfl,by dsimp only;rw[PQ,List.map_append];rfl,by dsimp only;rw[PQ,List.map_append];rfl,by dsimp only;rw[Q6];rfl,rfl,rfl,rfl,rfl,rfl,trivial⟩,by dsimp only;omega⟩
    ·refine⟨rfl,rfl,.slice aj n cj,by simpa using Sf,rfl,rfl,rfl,rfl,rfl,rfl,?_⟩;refine .inl ?_;refine⟨by simp[q2,q3],by omega,by unfold maxLen;omega,rfl,rfl,?_⟩;refine .inl ?_;refine⟨by simp[q2,q3],by omega,by unfold maxLen;omega,rfl,?_⟩;refine .inl ?_;refine⟨by simp[q2,q3],by omega,by unfold maxLen;omega,((k+1:Nat):Int),wo,?_⟩;intro ρ3 w3 r3;exact⟨(k+1,w3),⟨OT,hw.tr r3.cL,hE.rel r3 hS⟩,Sub.gn [(7,13),(8,14),(9,15)] r3 ⟨by dsimp only;rw[PQ,List.length_append,List.length_singleton];rfl,by dsimp only;rw[PQ,List.map_append];rfl,by dsimp only;rw[PQ,List.map_append];rfl,by dsimp only;rw[Q6];rfl,rfl,rfl,rfl,rfl,rfl,trivial⟩,by dsimp only;omega⟩
 have OT:k=cols:=aU hk (by simpa using OT);subst OT;intro ρe we re;have PI:∀u∈kZ rv at_ k,u.oneCell'=true:=fun u hu=>by
  obtain⟨i,hi⟩:=aQ hu;obtain⟨x,hx⟩:∃x,(cZ (E,at_,fr) k).1[i]? =some x:=⟨_,aB (by have:=(aD.1 hi).1;omega)⟩
  obtain⟨r,h1,h2⟩:=zp Pk Ou k (by omega) i u x hi hx;obtain⟨a,c,rfl⟩:=hE.form h1;rfl
 have h7:=re.kR (id:=7) (sz:=1) (m:=(cZ (E,at_,fr) k).2.1.length) rfl (by simp[q3]) (by unfold maxLen;omega) (by decide) PI;have h8:=re.kR (id:=8) (sz:=1) (m:=(cZ (E,at_,fr) k).2.1.length) rfl (by simp) (by unfold maxLen;omega) (by decide) (fun u hu=>by obtain⟨c,_,rfl⟩:=aR.1 hu;rfl);have h9:=re.kR (id:=9) (sz:=1) (m:=(cZ (E,at_,fr) k).2.1.length) rfl (by simp[q2]) (by unfold maxLen;omega) (by decide) (fun u hu=>by obtain⟨c,_,rfl⟩:=aR.1 hu;rfl);have Ov:=hE.rel re hS;rw[hredS];refine⟨_,rfl,hw.tr re.cL,_,_,_,rfl,⟨kZ rv at_ k,?_,by omega,fun i u x k1 k2=>?_⟩,?_,?_⟩
 ·rw[q1];exact h7.cF fun g hg=>.inr hg
 ·obtain⟨r,h1,h2⟩:=zp Pk Ou k (by omega) i u x k1 k2;refine((Ov.row r u x h1 h2).read.cF (S':=Nw S w we) (C':=Nw S w we) (fun g hg=>?_) fun g hg=>Cv.nw hg.1 re).c;exact Cv.nw (Cg (Ov.new g ⟨u,aE h1,hg⟩)) re
 ·exact h8.cF fun g hg=>.inr hg
 ·show iu we _ 1 _ _ (cZ (E,at_,fr) k).2.2.length;rw[q2];exact h9.cF fun g hg=>.inr hg
end Go.Ex
