/- Texts XTg to X134: lemmas, each with its conditions. -/
import Derived.Test.YtgkpbdkechfgmaaGreatP10
namespace Go.Ex
open Go Go.Sx Go.Proofs
variable{a:Act}{Fn next:Act->World->Prop}{la lx:Array Bool}{A':Array Bool->World->Prop}{Q:Exit->Act->World->Prop}{Fd M:List (List Rat)}{at_:List (Option Nat)}{fr:List Nat}{r row u y:List Rat}{rv:List Value}{b cols i j:Nat}{C S S0:Nat->Prop}{oi:Oper}{C9:Sem Next}{v:Value}{w:World}{AC:World->Prop}{s:wu}
section
variable{P:Program}{ops:Array Oper}{Q:Exit->Act->World->Prop}{md:Region.Mode}
theorem JF{oj:Oper}(hj:ops[j]? =some oj)(Qz:oi.apart ops oj=true)
  (hsi:∀U b,oi.op≠ .select U b) (hsj:∀U b,oj.op≠ .select U b)
  (hQ:∀c a w,Q (.panic c) (a.put oi.dst v) w->Q (.panic c) a w)
  (hy:Region.wanted oi (yielded ops a.tmps)=true/\execOp a.eval oi=C9) (h:wpOp P ops Q j Fn (a.put oi.dst v) w):
  wpOp P ops Q j (fun a' J=>(Region.wanted oi (yielded ops a'.tmps)=true/\execOp a'.eval oi=C9)/\Fn (a'.put oi.dst v) J) a w:=by
 obtain⟨I,X,N⟩:=Oper.apart_spec Qz;have cC:∀(a:Act),(Region.wanted oi (yielded ops a.tmps)=true/\execOp a.eval oi=C9)->∀u,(Region.wanted oi (yielded ops (a.put oj.dst u).tmps)=true/\execOp (a.put oj.dst u).eval oi=C9):=fun a hy u=>
  ⟨(wanted_put oi a oj.dst u N).trans hy.1,(execOp_put oi hsi a oj.dst u N).trans hy.2⟩
 have keepD:∀d:Deferred,(Region.wanted oi (yielded ops ({a with defers:=d::a.defers}:Act).tmps)=true/\execOp ({a with defers:=d::a.defers}:Act).eval oi=C9):=fun d=>hy;unfold wpOp at*
 simp only[hj]at*
 rw[wanted_put oj a oi.dst v I]at h;split
 ·rename_i Y;simp only[Y,if_true]at h;rcases h with h|⟨S6,Uk⟩
  case inr=>exact .inr ⟨by unfold Oper.asks at *;rw[execOp_put oj hsj a oi.dst v I]at S6;exact S6,Uk⟩
  refine .inl ?_;unfold Oper.wp at*
  rw[execOp_put oj hsj a oi.dst v I]at h;generalize (execOp a.eval oj).run P w=r at*
  cases r with
  |ok n J=>
   cases n<;>simp only[Oper.upon]at h ⊢
   case value u=>exact⟨cC a hy u,by rw[<-Act.put_comm a v u X];exact h⟩
   case skip=>exact⟨cC a hy _,by rw[<-Act.put_comm a v undef X];exact h⟩
   case defer d=>
    refine⟨cC ({a with defers:=d::a.defers}:Act) (keepD d) undef,?_⟩;rw[<-Act.put_comm _ v undef X,<-Act.put_defers];exact h
   case enter f args=>
    refine Calls.mono h fun e w'' W=>?_
    cases e with
    |returned u=>exact⟨cC a hy u,by rw[<-Act.put_comm a v u X];exact W⟩
    |panicked c=>exact hQ _ _ _ W
    |outgrown=>exact W
   case row row args=>exact Rows.mono h fun u w'' W=>⟨cC a hy u,by rw[<-Act.put_comm a v u X];exact W⟩
  |halt x J=>
   cases x<;>simp only[Oper.upon]at h ⊢
   case panic u=>exact hQ _ _ _ h
 ·rename_i Y;simp only[Y]at h;exact⟨cC a hy _,by rw[<-Act.put_comm a v undef X];exact h⟩
def qU(P:Program)(md:Region.Mode)(ops:Array Oper)(Q:Exit->Act->World->Prop)(A':Array Bool->World->Prop):Nat->Array Bool->Act->World->Prop
 |0,lx,a,w=>A' lx w/\Region.ready md ops lx=[]/\Q .normal a w
 |fuel+1,lx,a,w=>A' lx w/\(Region.ready md ops lx=[]->Q .normal a w)/\∀i∈Region.ready md ops lx,wpOp P ops Q i (fun a' J=>qU P md ops Q A' fuel (lx.setIfInBounds i true) a' J) a w
theorem AQ{A':Array Bool->World->Prop}:∀(fuel:Nat) (lx:Array Bool) (a:Act) (w:World),qU P md ops Q A' fuel lx a w->wpAny P md ops Q fuel lx a w
 |0,_,_,_,h=>h.2
 |fuel+1,_,_,_,h=>⟨h.2.1,fun i D=>wpOp_mono (fun _ _ h'=>AQ fuel _ _ _ h') (h.2.2 i D)⟩
theorem kN{A' A8:Array Bool->World->Prop}(hIJ:∀lx w,A' lx w->A8 lx w):∀(fuel:Nat) (lx:Array Bool) (a:Act) (w:World),qU P md ops Q A' fuel lx a w->qU P md ops Q A8 fuel lx a w
 |0,_,_,_,h=>⟨hIJ _ _ h.1,h.2⟩
 |fuel+1,_,_,_,h=>⟨hIJ _ _ h.1,h.2.1,fun i D=>wpOp_mono (fun _ _ h'=>kN hIJ fuel _ _ _ h') (h.2.2 i D)⟩
theorem FH(hI:A' lx w)(hr:Region.ready md ops lx=[])(h:Q .normal a w):∀fuel,qU P md ops Q A' fuel lx a w
 |0=>⟨hI,hr,h⟩
 |_+1=>⟨hI,fun _=>h,by rw[hr];simp⟩
def ml(ops:Array Oper)(b:Nat)(lx:Array Bool):Prop:=∀(k:Nat) o,tb b k=true->ops[k]? =some o->uc o.op=false->lx.getD k false=false
theorem jT(D:ops[i]? =some oi)(hR:uc oi.op=true):ml ops b (lx.setIfInBounds i true)↔ml ops b lx:=by
 have key:∀(k:Nat) o,ops[k]? =some o->uc o.op=false->(lx.setIfInBounds i true).getD k false=lx.getD k false:=fun k o ho hr=>by
  have:i≠k:=fun e=>by subst e;rw[D]at ho;injection ho with ho;subst ho;rw[hR]at hr;cases hr
  exact getD_set_ne false this
 exact⟨fun h k o I X N=>by rw[<-key k o X N];exact h k o I X N,fun h k o I X N=>by rw[key k o X N];exact h k o I X N⟩
theorem u9(D:ops[i]? =some oi)(hR:uc oi.op=true)(Ox:∀(j:Nat) (o:Oper) U b,ops[j]? =some o->o.op≠ .select U b)
  (hQ:∀c a w,Q (.panic c) (a.put oi.dst v) w->Q (.panic c) a w) (S4:∀j,tb b j=true->∃oj e,ops[j]? =some oj/\e∈oj.after/\Region.binds md e=true/\(e.on=i\/tb b e.on=true))
  (hY:∀w,AC w->C9.run P w= .ok (.value v) w) (hI:∀lx w,A' (lx.setIfInBounds i true) w->A' lx w):
  ∀(fuel:Nat) (lx:Array Bool) (a:Act) (w:World),(∀j,tb b j=true->lx.getD j false=false)->
   (∀j oj,ops[j]? =some oj->j≠i->lx.getD j true=false->tb b j=false->oi.apart ops oj=true)->
   i∈Region.ready md ops lx->(Region.wanted oi (yielded ops a.tmps)=true/\execOp a.eval oi=C9)->
   qU P md ops Q (fun lx w=>A' lx w/\(ml ops b lx->AC w)) fuel (lx.setIfInBounds i true) (a.put oi.dst v) w->qU P md ops Q A' (fuel+1) lx a w:=by
 intro fuel;have run:∀(lx:Array Bool) (a:Act) (w:World),(∀j,tb b j=true->lx.getD j false=false)->(Region.wanted oi (yielded ops a.tmps)=true/\execOp a.eval oi=C9)->(A' (lx.setIfInBounds i true) w/\(ml ops b (lx.setIfInBounds i true)->AC w))->
   ∀Fn:Act->World->Prop,Fn (a.put oi.dst v) w->wpOp P ops Q i Fn a w:=fun lx a w QL hy hH Fn hK=>by
  have hYw:=hH.2 ((jT D hR).2 fun k o I _ _=>QL k I);unfold wpOp;simp only[D,hy.1,if_true]
  refine .inl ?_;unfold Oper.wp;rw[hy.2,hY w hYw];exact hK
 induction fuel with
 |zero=>
  intro lx a w QL _ hr hy H;refine⟨hI _ _ H.1.1,fun h=>(by rw[h]at hr;cases hr),fun j hj=>?_⟩;by_cases PM:j=i
  ·subst PM;exact run lx a w QL hy H.1 _ (kN (fun _ _ h=>h.1) 0 _ _ _ H)
  ·have:=ready_mono hj PM;rw[H.2.1]at this
   cases this
 |succ fuel ih=>
  intro lx a w QL RH hr hy H;refine⟨hI _ _ H.1.1,fun h=>(by rw[h]at hr;cases hr),fun j hj=>?_⟩;by_cases PM:j=i
  ·subst PM;exact run lx a w QL hy H.1 _ (kN (fun _ _ h=>h.1) (fuel+1) _ _ _ H)
  ·have I:=H.2.2 j (ready_mono hj PM);obtain⟨Ul,oj,Qx,Qd⟩:=mem_ready.1 hj;have Px:tb b j=false:=by
    cases hb:tb b j with
    |false=>rfl
    |true=>
     exfalso;obtain⟨oj',e,Rv,W,hbi,UY⟩:=S4 j hb;rw[Qx]at Rv;injection Rv with Rv;subst Rv;have I:=Qd e W hbi;rcases UY with heq|Qo
     ·have h0:=(mem_ready.1 hr).1;rw[heq]at I;rcases aP i lx.size with h'|h'
      ·simp[h']at h0 I;rw[h0]at I;cases I
      ·simp[Array.getElem?_eq_none h']at I
     ·rw[QL _ Qo]at I;cases I
   have X:=JF Qx (RH j oj Qx PM Ul Px) (fun U b=>Ox i oi U b D) (fun U b=>Ox j oj U b Qx) hQ hy I;have hbl':∀k,tb b k=true->(lx.setIfInBounds j true).getD k false=false:=fun k R=>by
    rw[getD_set_ne false (fun e=>(by subst e;rw[Px]at R;cases R))];exact QL k R
   have TH:∀k ok,ops[k]? =some ok->k≠i->(lx.setIfInBounds j true).getD k true=false->tb b k=false->oi.apart ops ok=true:=fun k ok R VU Ue Rx=>by
    refine RH k ok R VU ?_ Rx;by_cases Rz:j=k
    ·subst Rz;exact Ul
    ·rw[getD_set_ne true Rz]at Ue;exact Ue
   refine wpOp_mono (fun a' J N=>?_) X;refine ih (lx.setIfInBounds j true) a' J hbl' TH (ready_mono hr (Ne.symm PM)) N.1 ?_;rw[Array.setIfInBounds_comm _ _ PM];exact N.2
end
structure Gh where
 u:Nat
 d:Nat
 T:Nat
 b:Nat
def DP(τ:mn)(B:Nat):List Gh->Env->Hp->Nat->Iv->World->Prop->Prop
 |[],_,_,_,_,_,Fn=>Fn
 |g::r,l,H,nx,iv,w,Fn=>match fR l g.u with
  |some su=>BE τ B g.T su H nx iv w (fun v=>fR l g.d=some v/\DP τ B r l H nx iv w Fn)
  |none=>False
inductive Tg where
 |nil
 |x (i:Nat) (t:Tg)
 |two (i:Nat) (t:Tg) (j:Nat) (u:Tg)
 |three (i:Nat) (t:Tg) (j:Nat) (u:Tg) (k:Nat) (v:Tg)
 |ld (i b:Nat) (t:Tg)
 |rK (id:Nat) (t:Tg)
def By(j:Nat):List Gh->List Gh
 |[]=>[]
 |g::r=>match tb g.b j with
  |true=>By j r
  |false=>g::By j r
def stepG(τ:mn)(B:Nat)(rd:Bool)(C8:List Gh)(j:Nat)(l:Env)(H:Hp)(nx:Nat)(iv:Iv)(w:World)(Fn:List Gh->Prop):Prop:=match rd with
 |true=>Fn C8
 |false=>DP τ B (By j C8) l H nx iv w (Fn (By j C8))
def FI(ops:Array Oper)(m i:Nat)(oi:Oper)(b:Nat):List Oper->Nat->Bool
 |[],_=>true
 |oj::r,j=>(Nat.beq j i||tb m j||tb b j||oi.apart ops oj)&&FI ops m i oi b r (j+1)
def Hk(m i u d:Nat):List Oper->Nat->Bool
 |[],_=>true
 |oj::r,j=>(tb m j||match oj.dst with
   |none=>true
   |some e=> !Nat.beq e u&&(Nat.beq j i|| !Nat.beq e d))&&Hk m i u d r (j+1)
def L0(o:Oper):Option (Nat×Nat×Nat):=match o with
 |⟨some d,.load T (.tmp u),_,_,_,none⟩=>some (d,T,u)
 |_=>none
def l0(ops:Array Oper):Tg->Array Bool->Bool
 | .nil,lx=>(Region.ready .any ops lx).isEmpty
 | .x i t,lx=>match ops[i]? with
  |none=>false
  |some o=>(Region.ready .any ops lx).contains i&&((Region.ready .any ops lx).all (fun j=>Nat.beq j i)||Hm o.op&&o.guard.isNone&&FI ops (iU lx.toList 0) i o (AS (iU lx.toList 0) i ops.toList 0 0) ops.toList 0)&&l0 ops t (lx.setIfInBounds i true)
 | .two i t j u,lx=>match Region.ready .any ops lx with
  |[a,b]=>Nat.beq a i&&(Nat.beq b j&&(l0 ops t (lx.setIfInBounds i true)&&l0 ops u (lx.setIfInBounds j true)))
  |_=>false
 | .three i t j u k v,lx=>match Region.ready .any ops lx with
  |[a,b,c]=>Nat.beq a i&&(Nat.beq b j&&(Nat.beq c k&&(l0 ops t (lx.setIfInBounds i true)&&(l0 ops u (lx.setIfInBounds j true)&&l0 ops v (lx.setIfInBounds k true)))))
  |_=>false
 | .ld i b t,lx=>match ops[i]? with
  |none=>false
  |some o=>match L0 o with
   |none=>false
   |some (d,_,u)=>(Region.ready .any ops lx).contains i&&Nat.beq b (AS (iU lx.toList 0) i ops.toList 0 0)&&FI ops (iU lx.toList 0) i o b ops.toList 0&&Hk (iU lx.toList 0) i u d ops.toList 0&&l0 ops t (lx.setIfInBounds i true)
 | .rK _ t,lx=>l0 ops t lx
def Av(P:Program)(τ:mn)(B:Nat)(all:List Oper):Tg->List Gh->Env->Hp->Nat->Iv->World->KT->Prop
 | .nil,_,l,H,nx,iv,w,Fn=>Fn l H nx iv w
 | .x i t,C8,l,H,nx,iv,w,Fn=>rf all i (fun o=>gv (!fk o) P τ B all o l H nx iv w (fun l' H' OW E J=>stepG τ B (uc o.op) C8 i l' H' OW E J (fun G'=>Av P τ B all t G' l' H' OW E J Fn)))
 | .two i t j u,C8,l,H,nx,iv,w,Fn=>rf all i (fun o=>gv (!fk o) P τ B all o l H nx iv w (fun l' H' OW E J=>stepG τ B (uc o.op) C8 i l' H' OW E J (fun G'=>Av P τ B all t G' l' H' OW E J Fn)))/\
   rf all j (fun o=>gv (!fk o) P τ B all o l H nx iv w (fun l' H' OW E J=>stepG τ B (uc o.op) C8 j l' H' OW E J (fun G'=>Av P τ B all u G' l' H' OW E J Fn)))
 | .three i t j u k v,C8,l,H,nx,iv,w,Fn=>rf all i (fun o=>gv (!fk o) P τ B all o l H nx iv w (fun l' H' OW E J=>stepG τ B (uc o.op) C8 i l' H' OW E J (fun G'=>Av P τ B all t G' l' H' OW E J Fn)))/\
   (rf all j (fun o=>gv (!fk o) P τ B all o l H nx iv w (fun l' H' OW E J=>stepG τ B (uc o.op) C8 j l' H' OW E J (fun G'=>Av P τ B all u G' l' H' OW E J Fn)))/\
   rf all k (fun o=>gv (!fk o) P τ B all o l H nx iv w (fun l' H' OW E J=>stepG τ B (uc o.op) C8 k l' H' OW E J (fun G'=>Av P τ B all v G' l' H' OW E J Fn))))
 | .ld i b t,C8,l,H,nx,iv,w,Fn=>rf all i (fun o=>match L0 o with
  |some (d,T,u)=>match fR l u with
   |some su=>BE τ B T su H nx iv w (fun v=>Av P τ B all t (⟨u,d,T,b⟩::C8) ((d,v)::l) H nx iv w Fn)
   |none=>False
  |none=>False)
 | .rK id t,C8,l,H,nx,iv,w,Fn=>∃H' b,cV H id=some b/\b≠ .dead/\ug H H'/\CC id H'=true/\∀O J,Rel H nx iv B w O J->(O id).nil=false/\∃l',(∀u v,fR l' u=some v->v.sc nx/\∃v',fR l u=some v'/\v'.den O=v.den O)/\Av P τ B all t C8 l' H' nx (((O id).g,(O id).g+1)::iv) J Fn
section
variable{P:Program}{τ:mn}{ops:Array Oper}{B n nx:Nat}{l:Env}{H:Hp}{iv:Iv}{w J:World}{O:Nat->Sx.dL}{a:Act}
theorem aAM(hτ:fT P τ){o:Oper}(ho:ops[i]? =some o)(hd:∀d,o.dst=some d->d<n){Fn:KT}
  (I:gv (!fk o) P τ B ops.toList o l H nx iv w Fn) (sat:Sat n l H nx iv B w O a J)
  (Z:∀l' H' OW E V G8 x w3,Fn l' H' OW E V->Sat n l' H' OW E B V G8 (a.put o.dst x) w3->(uc o.op=true->w3=J)->next (a.put o.dst x) w3):
  wpOp P ops Q i next a J:=by
 unfold gv at I;refine pB ho ?_;rcases k7 sat I with⟨Y,l1,X,sat1⟩|⟨Y,l1,X,sat1⟩
 ·refine .inl ⟨Y,?_⟩
  cases hR:uc o.op with
  |true=>
   obtain⟨v,hK,Qy,OY⟩:=(lh hτ X sat1 hR).resolve_right (fun hh=>by have:=hh.1;rw[rn hR]at this;cases this);obtain⟨l2,N,sat2⟩:=iJ sat1 hK hd Qy;exact mU (OY J (.inr sat1.rel)) (Z _ _ _ _ _ _ _ _ N sat2 fun _=>rfl)
  |false=>
   have nr:∀w3:World,uc o.op=true->w3=J:=fun w3 h=>by rw[hR]at h;cases h
   cases hA:La o.op with
   |true=>
    obtain⟨b,v,mk,obj,hK,Pf,hb,hv,Ve,QB,Vf⟩:=nQ hτ X sat1 hA;have PC:Rel ((nx,b)::H) (nx+1) iv B w (Sx.fh O nx ⟨J.heap.size,0,false⟩) (J.alloc obj):=
     sat1.rel.push b _ rfl rfl rfl (by simp) (fun k R=>heap_alloc_old _ _ R) (fun _=>⟨Nat.le_refl _,by simp⟩) (QB _ _ (heap_alloc_new _ _)) hb
    obtain⟨l2,N,sat2⟩:=iJ (sat1.next PC (Nat.le_succ _) (fun id Oy=>fm id Oy)) hK hd hv;rw[Ve]at sat2;exact mU (v:=mk J.heap.size) (V:=J.alloc obj) (Vf J) (Z _ _ _ _ _ _ _ _ N sat2 (by rw[hR];exact fun h=>by cases h))
   |false=>
    cases hH:rC o with
    |false=>
     rw[rL hH]at X;refine xz X sat1 hR hA hH fun v V hK W hs=>?_;obtain⟨l2,N,sat2⟩:=iJ (v:=.o (.v v)) hs hK hd trivial;exact Z _ _ _ _ _ _ _ _ N sat2 (by rw[hR];exact fun h=>by cases h)
    |true=>
     refine nR hτ X sat1 fun v H' OW E V G8 w3 hK sat2 hv=>?_;obtain⟨l2,N,sat3⟩:=iJ sat2 hK hd hv;exact Z _ _ _ _ _ _ _ _ N sat3 (by rw[hR];exact fun h=>by cases h)
 ·obtain⟨l2,h4,sat3⟩:=iJ sat1 X hd trivial;exact .inr ⟨Y,Z _ _ _ _ _ _ _ _ h4 sat3 fun _=>rfl⟩
theorem wi(hτ:fT P τ)(sat:Sat n l H nx iv B w O a J){Fn:Prop}:∀(C8:List Gh),DP τ B C8 l H nx iv w Fn->
  Fn/\∀g∈C8,∃su sv,fR l g.u=some su/\fR l g.d=some sv/\(Instr.loadAt g.T (su.den O)).run P J= .ok (sv.den O) J
 |[],h=>⟨h,fun g G=>by cases G⟩
 |g::r,h=>by
  unfold DP at h;split at h
  ·rename_i su hsu;obtain⟨v,⟨I,X⟩,hv,OY⟩:=nW hτ sat.rel (sat.sc _ _ hsu) h;obtain⟨N,h4⟩:=wi hτ sat r X;refine⟨N,fun g' G=>?_⟩;rcases List.mem_cons.1 G with rfl|G
   ·exact⟨su,v,hsu,I,OY J sat.rel⟩
   ·exact h4 g' G
  ·exact h.elim
theorem rB{j:Nat}{g:Gh}:∀{C8:List Gh},g∈C8->tb g.b j=false->g∈By j C8
 |g'::r,h,hb=>by
  unfold By;rcases List.mem_cons.1 h with rfl|h
  ·rw[hb];exact aG
  ·split
   ·exact rB h hb
   ·exact aC _ (rB h hb)
abbrev Zh:=Gh×Value×Value
def Yz(P:Program)(z:Zh)(w:World):Prop:=(Instr.loadAt z.1.T z.2.1).run P w= .ok z.2.2 w
structure Ns(ops:Array Oper)(la:Array Bool)(a:Act)(z:Zh):Prop where
 u:a.tmps[z.1.u]? =some z.2.1
 d:a.tmps[z.1.d]? =some z.2.2
 no:∀(j:Nat) oj,ops[j]? =some oj->la.getD j false=false->oj.dst≠some z.1.u/\oj.dst≠some z.1.d
theorem Ns.step{z:Zh}{oj:Oper}{x:Value}(h:Ns ops la a z)(hj:ops[j]? =some oj)(hl:la.getD j false=false):Ns ops (la.setIfInBounds j true) (a.put oj.dst x) z:=by
 obtain⟨I,X⟩:=h.no j oj hj hl;refine⟨qX I h.u,qX X h.d,fun k ok R hlk=>h.no k ok R ?_⟩;by_cases Rz:j=k
 ·subst Rz;exact hl
 ·rwa [getD_set_ne false Rz]at hlk
def IZ(P:Program)(ops:Array Oper)(EQ:List Zh)(lx:Array Bool)(w:World):Prop:=∀z∈EQ,ml ops z.1.b lx->Yz P z w
theorem ua(h:i∈Region.ready .any ops la):la.getD i false=false:=by
 have:=(eQ.1 h).1;rw[au,this];rfl
theorem oY{o:Oper}(ho:ops[i]? =some o)(hl:la[i]? =some false)(h:ml ops b (la.setIfInBounds i true)):ml ops b la/\(uc o.op=false->tb b i=false):=by
 refine⟨fun k ok I X N=>?_,fun hR=>?_⟩
 ·by_cases hik:i=k
  ·subst hik;rw[au,hl];rfl
  ·rw[<-getD_set_ne false hik];exact h k ok I X N
 ·cases hb:tb b i with
  |false=>rfl
  |true=>
   have:=h i o hb ho hR;have D:=(ah.1 hl).1;rw[au,Array.getElem?_setIfInBounds_self_of_lt D]at this
   cases this
theorem Bz(hτ:fT P τ){o:Oper}{C8:List Gh}{EQ:List Zh}(ho:ops[i]? =some o)(hd:∀d,o.dst=some d->d<n)(hr:i∈Region.ready .any ops la){Fn:Env->Hp->Nat->Iv->World->List Gh->Prop}
  (I:gv (!fk o) P τ B ops.toList o l H nx iv w (fun l' H' OW E J=>stepG τ B (uc o.op) C8 i l' H' OW E J (Fn l' H' OW E J))) (sat:Sat n l H nx iv B w O a J)
  (hG:∀z∈EQ,ml ops z.1.b la->z.1∈C8) (hZ:∀z∈EQ,Ns ops la a z) (hI:IZ P ops EQ la J)
  (Z:∀l' H' OW E V G8 x w3 G',Fn l' H' OW E V G'->Sat n l' H' OW E B V G8 (a.put o.dst x) w3->(∀z∈EQ,ml ops z.1.b (la.setIfInBounds i true)->z.1∈G')->(∀z∈EQ,Ns ops (la.setIfInBounds i true) (a.put o.dst x) z)->IZ P ops EQ (la.setIfInBounds i true) w3->next (a.put o.dst x) w3):
  wpOp P ops Q i next a J:=by
 have hl:=(eQ.1 hr).1;refine aAM hτ ho hd I sat fun l' H' OW E V G8 x w3 hK sat2 Y=>?_;have hZ2:∀z∈EQ,Ns ops (la.setIfInBounds i true) (a.put o.dst x) z:=fun z hz=>(hZ z hz).step ho (ua hr)
 cases hR:uc o.op with
 |true=>
  rw[hR]at hK;have Y:=Y hR;subst Y;refine Z _ _ _ _ _ _ _ _ C8 hK sat2 (fun z hz h=>hG z hz (oY ho hl h).1) hZ2 fun z hz h=>hI z hz (oY ho hl h).1
 |false=>
  rw[hR]at hK;obtain⟨X,N⟩:=wi hτ sat2 _ hK;refine Z _ _ _ _ _ _ _ _ _ X sat2 (fun z hz h=>?_) hZ2 fun z hz h=>?_
  ·obtain⟨k1,k2⟩:=oY ho hl h;exact rB (hG z hz k1) (k2 hR)
  ·obtain⟨k1,k2⟩:=oY ho hl h;obtain⟨su,sv,e1,e2,e3⟩:=N z.1 (rB (hG z hz k1) (k2 hR));have h4:=sat2.env _ _ e1;have h5:=sat2.env _ _ e2;rw[(hZ2 z hz).u]at h4;rw[(hZ2 z hz).d]at h5;injection h4 with h4;injection h5 with h5;unfold Yz;rw[h4,h5];exact e3
end
section
variable{P:Program}{τ:mn}{ops:Array Oper}{B n nx:Nat}{l:Env}{H:Hp}{iv:Iv}{w J:World}{O:Nat->Sx.dL}{a:Act}
theorem sh{m i b:Nat}{oi:Oper}:∀(l:List Oper) (k:Nat),FI ops m i oi b l k=true->∀(j:Nat) oj,l[j]? =some oj->k+j≠i->tb m (k+j)=false->tb b (k+j)=false->oi.apart ops oj=true
 |[],_,_,j,oj,h,_,_,_=>by cases h
 |o::r,k,h,j,oj,hj,I,X,N=>by
  simp only[FI,aw,Bool.or_eq_true]at h
  cases j with
  |zero=>
   injection hj with hj;subst hj;rcases h.1 with((h4|h4)|h4)|h4
   ·exact absurd (bM h4) I
   ·rw[bj]at X;rw[X]at h4;cases h4
   ·rw[bj]at N;rw[N]at h4;cases h4
   ·exact h4
  |succ j=>
   have e:k+(j+1)=k+1+j:=by omega
   rw[e]at I X N;exact sh r (k+1) h.2 j oj (by simpa using hj) I X N
theorem AR{m i u d:Nat}:∀(l:List Oper) (k:Nat),Hk m i u d l k=true->∀(j:Nat) oj,l[j]? =some oj->tb m (k+j)=false->oj.dst≠some u/\(k+j≠i->oj.dst≠some d)
 |[],_,_,j,oj,h,_=>by cases h
 |o::r,k,h,j,oj,hj,X=>by
  simp only[Hk,aw,Bool.or_eq_true]at h
  cases j with
  |zero=>
   injection hj with hj;subst hj;rcases h.1 with h4|h4
   ·rw[bj]at X;rw[X]at h4;cases h4
   ·cases ho:o.dst with
    |none=>exact⟨by simp,by simp⟩
    |some e=>
     rw[ho]at h4;simp only[aw,Bool.not_eq_true',Bool.or_eq_true]at h4;refine⟨fun hh=>?_,fun OS hh=>?_⟩
     ·injection hh with hh;subst hh;have:=h4.1;simp at this
     ·injection hh with hh;subst hh;rcases h4.2 with h5|h5
      ·exact OS (bM h5)
      ·simp at h5
  |succ j=>
   have e:k+(j+1)=k+1+j:=by omega
   rw[e]at X ⊢;exact AR r (k+1) h.2 j oj (by simpa using hj) X
theorem JG{o:Oper}{d T u:Nat}(h:L0 o=some (d,T,u)):o.dst=some d/\o.op= .load T (.tmp u)/\o.guard=none:=by
 unfold L0 at h;split at h
 ·injection h with h;injection h with I X;injection X with X N;subst I X N;exact⟨rfl,rfl,rfl⟩
 ·cases h
theorem jL(hτ:fT P τ)(OV:∀(j:Nat) o,ops[j]? =some o->∀d,o.dst=some d->d<n)(Ox:∀(j:Nat) (o:Oper) U b,ops[j]? =some o->o.op≠ .select U b){Fn:KT}{Q0:Act->World->Prop}
  (hQ:∀l' H' OW E V G8 a' w3,Fn l' H' OW E V->Sat n l' H' OW E B V G8 a' w3->Q0 a' w3):
  ∀(t:Tg) (fuel:Nat) (la:Array Bool) (l:Env) (H:Hp) (nx:Nat) (iv:Iv) (w:World) (O:Nat->Sx.dL) (a:Act) (J:World) (C8:List Gh) (EQ:List Zh),NB la<=fuel->la.size=ops.size->l0 ops t la=true->Av P τ B ops.toList t C8 l H nx iv w Fn->Sat n l H nx iv B w O a J->
   (∀z∈EQ,ml ops z.1.b la->z.1∈C8)->(∀z∈EQ,Ns ops la a z)->IZ P ops EQ la J->qU P .any ops (QN Q0) (IZ P ops EQ) fuel la a J
 | .nil,fuel,la,l,H,nx,iv,w,O,a,J,C8,EQ,_,_,hc,h,s,hG,hZ,hI=>by
  simp only[l0,List.isEmpty_iff]at hc;exact FH hI hc ⟨rfl,hQ _ _ _ _ _ _ _ _ h s⟩ fuel
 | .x i t,fuel,la,l,H,nx,iv,w,O,a,J,C8,EQ,hf,hz,hc,h,s,hG,hZ,hI=>by
  unfold l0 at hc;obtain⟨o,ho,I⟩:=gU h;rw[bA]at ho;simp only[ho,aw,Bool.or_eq_true]at hc;obtain⟨⟨c1,c2⟩,c3⟩:=hc;have c1:i∈Region.ready .any ops la:=by simpa using c1
  obtain⟨RG,-⟩:=eQ.1 c1;have Ue:=k6 RG;obtain⟨f,rfl⟩:∃f,fuel=f+1:=⟨fuel-1,by omega⟩
  have Pg:(la.setIfInBounds i true).size=ops.size:=by rw[bT,hz]
  rcases c2 with c2|⟨⟨hP,QD⟩,c4⟩
  ·refine⟨hI,fun h0=>(by rw[h0]at c1;cases c1),fun j hj=>?_⟩;have PM:j=i:=eC (List.all_eq_true.1 c2 j hj);subst PM;exact Bz hτ ho (OV j o ho) c1 I s hG hZ hI fun _ _ _ _ _ _ _ _ G' R hs VO VP VQ=>jL hτ OV Ox hQ t f _ _ _ _ _ _ _ _ _ G' EQ (by omega) Pg c3 R hs VO VP VQ
  ·have hR:uc o.op=true:=by
    unfold Hm at hP;split at hP
    ·cases hP
    ·exact hP
   have hm:=xT la;have hb:=mr (ops:=ops) (m:=iU la.toList 0) (i:=i) ops.toList 0 0 (fun n o Z=>by rw[aV];rwa [bA]at Z) (fun j hj=>by rw[sn]at hj;cases hj);generalize AS (iU la.toList 0) i ops.toList 0 0=b at*
   have TB:o.guard=none:=by simpa using QD
   unfold gv so at I;rw[TB]at I;obtain⟨v,hK,Qy,OY⟩:=(lh hτ I s hR).resolve_right (fun hh=>by have:=hh.1;rw[rn hR]at this;cases this);obtain⟨l2,N,sat2⟩:=iJ s hK (OV i o ho) Qy;rw[hR]at N;have Y:Region.wanted o (yielded ops a.tmps)=true:=by simp[Region.wanted,TB]
   refine u9 (v:=v.den O) (b:=b) (AC:=fun _=>True) (C9:=execOp a.eval o) ho hR Ox (fun c a w hq=>absurd hq.1 (by simp)) (fun j hj=>(hb j hj).2.2) (fun w3 _=>OY w3 (.inl hP)) (fun lx w h z hz ha=>h z hz ((jT ho hR).2 ha))
    f la a J (fun j hj=>(hm j).symm.trans (hb j hj).1) (fun j oj Qx PM hl R=>sh ops.toList 0 c4 j oj (by rw[bA];exact Qx) (by omega) (by
     have hj:=(ah.1 Qx).1
     rw[aV,hm,mo (by omega) false true];exact hl) (by rw[aV];exact R)) c1 ⟨Y,rfl⟩ ?_
   refine kN (fun lx w h=>⟨h,fun _=>trivial⟩) _ _ _ _ ?_;exact jL hτ OV Ox hQ t f _ _ _ _ _ _ _ _ _ C8 EQ (by omega) Pg c3 N sat2 (fun z hz h=>hG z hz ((jT ho hR).1 h)) (fun z hz=>(hZ z hz).step ho (ua c1)) (fun z hz h=>hI z hz ((jT ho hR).1 h))
 | .two i t k u,fuel,la,l,H,nx,iv,w,O,a,J,C8,EQ,hf,hz,hc,h,s,hG,hZ,hI=>by
  simp only[l0]at hc;split at hc
  ·rename_i x y hr;simp only[aw]at hc;obtain⟨c1,c2,c3,c4⟩:=hc;have L:=bM c1;have hy:=bM c2;subst L;subst hy;obtain⟨I,X⟩:=h;obtain⟨o1,Vc,I⟩:=gU I;obtain⟨o2,UB,X⟩:=gU X;rw[bA]at Vc UB;have Sh:x∈Region.ready .any ops la:=by rw[hr];simp
   have Wm:y∈Region.ready .any ops la:=by rw[hr];simp
   have u1:=k6 (eQ.1 Sh).1;have u2:=k6 (eQ.1 Wm).1;obtain⟨f,rfl⟩:∃f,fuel=f+1:=⟨fuel-1,by omega⟩
   refine⟨hI,fun h0=>(by rw[hr]at h0;cases h0),fun j hj=>?_⟩;rw[hr,List.mem_cons,bF]at hj;rcases hj with rfl|rfl
   ·exact Bz hτ Vc (OV _ o1 Vc) Sh I s hG hZ hI fun _ _ _ _ _ _ _ _ G' R hs VO VP VQ=>jL hτ OV Ox hQ t f _ _ _ _ _ _ _ _ _ G' EQ (by omega) (by rw[bT,hz]) c3 R hs VO VP VQ
   ·exact Bz hτ UB (OV _ o2 UB) Wm X s hG hZ hI fun _ _ _ _ _ _ _ _ G' R hs VO VP VQ=>jL hτ OV Ox hQ u f _ _ _ _ _ _ _ _ _ G' EQ (by omega) (by rw[bT,hz]) c4 R hs VO VP VQ
  ·cases hc
 | .three i t k u m v,fuel,la,l,H,nx,iv,w,O,a,J,C8,EQ,hf,hz,hc,h,s,hG,hZ,hI=>by
  simp only[l0]at hc;split at hc
  ·rename_i x y z9 hr;simp only[aw]at hc;obtain⟨c1,c2,c6,c3,c4,c5⟩:=hc;have L:=bM c1;have hy:=bM c2;have hz9:=bM c6;subst L;subst hy;subst hz9;obtain⟨I,X,N⟩:=h;obtain⟨o1,Vc,I⟩:=gU I;obtain⟨o2,UB,X⟩:=gU X;obtain⟨o3,ho3,N⟩:=gU N;rw[bA]at Vc UB ho3;have Sh:x∈Region.ready .any ops la:=by rw[hr];simp
   have Wm:y∈Region.ready .any ops la:=by rw[hr];simp
   have hm3:z9∈Region.ready .any ops la:=by rw[hr];simp
   have u1:=k6 (eQ.1 Sh).1;have u2:=k6 (eQ.1 Wm).1;have u3:=k6 (eQ.1 hm3).1;obtain⟨f,rfl⟩:∃f,fuel=f+1:=⟨fuel-1,by omega⟩
   refine⟨hI,fun h0=>(by rw[hr]at h0;cases h0),fun j hj=>?_⟩;rw[hr,List.mem_cons,List.mem_cons,bF]at hj;rcases hj with rfl|rfl|rfl
   ·exact Bz hτ Vc (OV _ o1 Vc) Sh I s hG hZ hI fun _ _ _ _ _ _ _ _ G' R hs VO VP VQ=>jL hτ OV Ox hQ t f _ _ _ _ _ _ _ _ _ G' EQ (by omega) (by rw[bT,hz]) c3 R hs VO VP VQ
   ·exact Bz hτ UB (OV _ o2 UB) Wm X s hG hZ hI fun _ _ _ _ _ _ _ _ G' R hs VO VP VQ=>jL hτ OV Ox hQ u f _ _ _ _ _ _ _ _ _ G' EQ (by omega) (by rw[bT,hz]) c4 R hs VO VP VQ
   ·exact Bz hτ ho3 (OV _ o3 ho3) hm3 N s hG hZ hI fun _ _ _ _ _ _ _ _ G' R hs VO VP VQ=>jL hτ OV Ox hQ v f _ _ _ _ _ _ _ _ _ G' EQ (by omega) (by rw[bT,hz]) c5 R hs VO VP VQ
  ·cases hc
 | .ld i b t,fuel,la,l,H,nx,iv,w,O,a,J,C8,EQ,hf,hz,hc,h,s,hG,hZ,hI=>by
  unfold l0 at hc;obtain⟨o,ho,I⟩:=gU h;rw[bA]at ho;simp only[ho]at hc
  cases Sf:L0 o with
  |none=>rw[Sf]at hc;cases hc
  |some q=>
   obtain⟨d,T,u⟩:=q;rw[Sf]at hc I;simp only[aw]at hc;obtain⟨⟨⟨⟨c1,c2⟩,c4⟩,c5⟩,c3⟩:=hc;obtain⟨e1,e2,e3⟩:=JG Sf;have c1:i∈Region.ready .any ops la:=by simpa using c1
   obtain⟨RG,-⟩:=eQ.1 c1;have Ue:=k6 RG;obtain⟨f,rfl⟩:∃f,fuel=f+1:=⟨fuel-1,by omega⟩
   have Pg:(la.setIfInBounds i true).size=ops.size:=by rw[bT,hz]
   have hR:uc o.op=true:=by rw[e2];rfl
   have hm:=xT la;have hb:=mr (ops:=ops) (m:=iU la.toList 0) (i:=i) ops.toList 0 0 (fun n o Z=>by rw[aV];rwa [bA]at Z) (fun j hj=>by rw[sn]at hj;cases hj);rw[<-bM c2]at hb
   cases hsu:fR l u with
   |none=>simp only[hsu]at I
   |some su=>
    simp only[hsu]at I;obtain⟨v,hK,Qy,OY⟩:=nW hτ s.rel (s.sc _ _ hsu) I;have hau:=s.env _ _ hsu;have VR:=OV i o ho d e1;have sat2:Sat n ((d,v)::l) H nx iv B w O (a.put o.dst (v.den O)) J:=by rw[e1];exact s.put VR Qy
    have Y:Region.wanted o (yielded ops a.tmps)=true:=by simp[Region.wanted,e3]
    have Qr:a.eval (.tmp u)=su.den O:=by rw[Act.eval,au,hau];rfl
    have hui:tb (iU la.toList 0) i=false:=by rw[hm];exact ua c1
    have Rx:=AR ops.toList 0 c5;refine u9 (v:=v.den O) (b:=b) (AC:=Yz P (⟨u,d,T,b⟩,su.den O,v.den O)) (C9:=execOp a.eval o) ho hR Ox (fun c a w hq=>absurd hq.1 (by simp)) (fun j hj=>(hb j hj).2.2) (fun w3 hY=>?_) (fun lx w h z hz ha=>h z hz ((jT ho hR).2 ha))
     f la a J (fun j hj=>(hm j).symm.trans (hb j hj).1) (fun j oj Qx PM hl R=>sh ops.toList 0 c4 j oj (by rw[bA];exact Qx) (by omega) (by
      have hj:=(ah.1 Qx).1
      rw[aV,hm,mo (by omega) false true];exact hl) (by rw[aV];exact R)) c1 ⟨Y,rfl⟩ ?_
    ·unfold Yz at hY;obtain⟨dst,op,ty,pos,after,guard⟩:=o;simp only at e2;subst e2;simp only[execOp,Qr]
     exact lk hY
    ·refine kN (A':=IZ P ops ((⟨u,d,T,b⟩,su.den O,v.den O)::EQ)) (fun lx w h=>⟨fun z hz=>h z (aC _ hz),h _ aG⟩) _ _ _ _ ?_;refine jL hτ OV Ox hQ t f _ _ _ _ _ _ _ _ _ (⟨u,d,T,b⟩::C8) ((⟨u,d,T,b⟩,su.den O,v.den O)::EQ) (by omega) Pg c3 hK sat2 (fun z hz h=>?_) (fun z hz=>?_) (fun z hz h=>?_)
     ·rcases List.mem_cons.1 hz with rfl|hz
      ·exact aG
      ·exact aC _ (hG z hz ((jT ho hR).1 h))
     ·rcases List.mem_cons.1 hz with rfl|hz
      ·have h7:=(Rx i o (by rw[bA];exact ho) (by rw[aV];exact hui)).1;refine⟨qX h7 hau,?_,fun j oj Qx Rw=>?_⟩
       ·rw[e1];show(a.tmps.setIfInBounds d _)[d]? =_;rw[Array.getElem?_setIfInBounds_self_of_lt (by rw[s.size];exact VR)]
       ·have PM:i≠j:=fun e=>by
         subst e;have D:=(ah.1 RG).1;rw[au,Array.getElem?_setIfInBounds_self_of_lt D]at Rw
         cases Rw
        rw[getD_set_ne false PM]at Rw;obtain⟨k1,k2⟩:=Rx j oj (by rw[bA];exact Qx) (by rw[aV,hm];exact Rw);exact⟨k1,k2 (by omega)⟩
      ·exact(hZ z hz).step ho (ua c1)
     ·rcases List.mem_cons.1 hz with rfl|hz
      ·exact OY J s.rel
      ·exact hI z hz ((jT ho hR).1 h)
 | .rK id t,fuel,la,l,H,nx,iv,w,O,a,J,C8,EQ,hf,hz,hc,h,s,hG,hZ,hI=>by
  obtain⟨H',b,Oy,hd,hs,ho,h⟩:=h;obtain⟨Z,l',hl,h⟩:=h _ _ s.rel;exact jL hτ OV Ox hQ t fuel la l' H' nx _ J O a J C8 EQ hf hz hc h ⟨s.rel.free Oy hd Z hs ho,s.size,s.defers,fun u v hv=>by obtain⟨-,v',I,X⟩:=hl u v hv;rw[<-X];exact s.env u v' I,fun u v hv=>(hl u v hv).1⟩ hG hZ hI
theorem j1(hτ:fT P τ)(hm:P.follows .mixedOrders=true){Fn:KT}(t:Tg)(hs:Region.noSelect ops=true)(hc:l0 ops t (Array.replicate ops.size false)=true)
  (h:Av P τ B ops.toList t [] l H nx iv w Fn):yB P B ops l H nx iv w Fn:=by
 refine⟨fun n O a J OV sat Q hQ id=>?_⟩;refine wp_mono (Q':=Q) (c:=.region id ops true) (wp_region_any (Q:=QN (Q .normal)) hm (AQ (A':=IZ P ops []) _ _ _ _ ?_)) (fun e a w hq=>by obtain⟨rfl,hq⟩:=hq;exact hq);refine jL (Q0:=Q .normal) hτ (fun j o ho d hd=>?_) (Region.noSelect_spec hs) hQ t _ _ _ _ _ _ _ O _ _ [] [] ?_ (by simp) hc h ⟨sat.rel.drew,sat.size,sat.defers,sat.env,sat.sc⟩ (fun z hz=>by cases hz) (fun z hz=>by cases hz) (fun z hz=>by cases hz)
 ·have:=List.all_eq_true.1 OV o (aE (by rw[bA];exact ho));rw[hd]at this;have h5:d+1<=n:=by simpa [Nat.blt]using this
  exact h5
 ·unfold NB;refine aW List.countP_le_length ?_;simp
end
theorem Kk{α:Type}(a b:α){c:Nat}(h:i<c):(List.replicate i a++List.replicate (c-i) b).take i++[a]++(List.replicate i a++List.replicate (c-i) b).drop (i+1)=List.replicate (i+1) a++List.replicate (c-(i+1)) b:=by
 rw[List.take_left' (bN ..),List.drop_append,bN,List.drop_of_length_le (by rw[bN];omega),List.nil_append,List.drop_replicate,List.replicate_succ'];congr 2;omega
def oQ(w:World)(C S:Nat->Prop)(v:Value)(M:List (List Rat)):Prop:=∃rv,iu w C 1 v rv M.length/\rv.length=M.length/\∀(i:Nat) u x,rv[i]? =some u->M[i]? =some x->cS w S u x
theorem oQ.shape(h:oQ w C S v M):∃a c,v= .slice a M.length c/\M.length<=c/\M.length<=maxLen:=by
 obtain⟨rv,⟨h0,_,_,a,c,I,X,_⟩,_⟩:=h;exact⟨a,c,I,X,h0⟩
theorem oQ.load{a:Option Addr}{m c:Nat}{x:List Rat}(h:oQ w C S (.slice a m c) M)(hq:M[j]? =some x):
  ∃ad u,a=some ad/\cS w S u x/\C ad.block/\w.cell? (ad.add (j*1))=some u:=by
 obtain⟨rv,⟨h0,I,X,a',c',e,N,h4⟩,hl,hf⟩:=h;injection e with e1 e2 e3;subst e1;obtain⟨u,hu⟩:∃u,rv[j]? =some u:=⟨_,aB (by rw[hl];exact(aD.1 hq).1)⟩
 obtain⟨ad,k1,k2,k3⟩:=h4 j u hu;exact⟨ad,u,k1,hf j u x hu hq,k2,by rw[aY];exact k3⟩
def Lf:Option Nat->Value
 |none=>.int .i64 (-1)
 |some j=>.int .i64 (j:Int)
structure Ef(M:List (List Rat))(cols h:Nat):Prop where
 rows:∀i,i<=M.length->∀r∈(gq M cols i).1,∀q∈r,rl q+1<=h
 l6:∀i,i<M.length->∀k,k<=cols->∀q∈fZ (gq M cols i).1 (gq M cols i).2.1 (M.getD i []) k,rl q+1<=h
theorem zo{k:Nat}(h:at_[k]? =some (some j)):fZ Fd at_ row (k+1)=lr (fZ Fd at_ row k) (Fd.getD j []) ((fZ Fd at_ row k).getD k 0):=by
 rw[fZ,show at_.getD k none=some j by rw[List.getD,h];rfl]
theorem GM{k:Nat}(h:at_[k]? =some none):fZ Fd at_ row (k+1)=fZ Fd at_ row k:=by
 rw[fZ,show at_.getD k none=none by rw[List.getD,h];rfl]
theorem Kl{α:Type}{l:List α}(a b:α)(h:j<l.length):(l++[a]).set j b=l.set j b++[a]:=by rw[List.set_append,if_pos h]
theorem GN{x:List Rat}(Q7:(Fd,at_,fr)=gq M cols i)(L:M.getD i []=x)(hy:fZ Fd at_ x cols=y)(hp:tM y cols=cols):(Fd,at_,fr)=gq M cols (i+1):=by
 rw[gq,<-Q7,L,jw];simp only[hy,hp,if_true]
theorem GO{p:Nat}{x:List Rat}(Q7:(Fd,at_,fr)=gq M cols i)(L:M.getD i []=x)(hy:fZ Fd at_ x cols=y)(hp:tM y cols=p)(OS:p≠cols):
  gq M cols (i+1)=(gE Fd (y.map (· / y.getD p 0)) p Fd.length++[y.map (· / y.getD p 0)],at_.set p (some Fd.length),fr++[i]):=by
 rw[gq,<-Q7,L,jw];simp only[hy,hp,aI OS]
theorem Km(q:Rat)(y:List Rat):gb y.length (fun _ r=>r / q) y=y.map (· / q):=by
 rw[qq];exact bG fun j=>by rw[List.getElem?_mapIdx,aM]
theorem GP{p:Nat}(h:Fd[i]? =some r)(h0:r.getD p 0=0):gE Fd u p (i+1)=gE Fd u p i:=by
 rw[y9 h,h0,y8];refine bG fun j=>?_;by_cases hj:i=j
 ·subst hj;rw[aO (by rw[fe];exact(aD.1 h).1),Du h]
 ·rw[aT hj]
def kY(rv:List Value)(at_:List (Option Nat)):Nat->List Value
 |0=>[]
 |k+1=>match at_.getD k none with
  |some r=>kY rv at_ k++[rv.getD r (.bool false)]
  |none=>kY rv at_ k
theorem mR{k:Nat}(h:s.2.1[k]? =some none):cZ s (k+1)=cZ s k:=by
 rw[cZ,show s.2.1.getD k none=none by rw[List.getD,h];rfl]
theorem mS{k r:Nat}(h:s.2.1[k]? =some (some r)):cZ s (k+1)=((cZ s k).1++[s.1.getD r []],(cZ s k).2.1++[k],(cZ s k).2.2++[s.2.2.getD r 0]):=by
 rw[cZ,show s.2.1.getD k none=some r by rw[List.getD,h];rfl]
theorem s5{k:Nat}(h:at_[k]? =some none):kY rv at_ (k+1)=kY rv at_ k:=by
 rw[kY,show at_.getD k none=none by rw[List.getD,h];rfl]
theorem s6{k r:Nat}(h:at_[k]? =some (some r)):kY rv at_ (k+1)=kY rv at_ k++[rv.getD r (.bool false)]:=by
 rw[kY,show at_.getD k none=some r by rw[List.getD,h];rfl]
theorem uM(s:wu)(rv:List Value):∀k,k<=s.2.1.length->(cZ s k).1.length=(cZ s k).2.1.length/\(cZ s k).2.2.length=(cZ s k).2.1.length/\(kY rv s.2.1 k).length=(cZ s k).2.1.length/\(cZ s k).2.1.length<=k
 |0,_=>⟨rfl,rfl,rfl,Nat.le_refl _⟩
 |k+1,R=>by
  have ih:=uM s rv k (by omega);obtain⟨o,ho⟩:∃o,s.2.1[k]? =some o:=⟨_,aB (by omega)⟩
  cases o with
  |none=>rw[mR ho,s5 ho];exact⟨ih.1,ih.2.1,ih.2.2.1,by have:=ih.2.2.2;omega⟩
  |some r=>rw[mS ho,s6 ho];simp only[List.length_append,List.length_singleton];omega
theorem zp{Fd:List (List Rat)}{at_:List (Option Nat)}{fr:List Nat}{rv:List Value}(hl:rv.length=Fd.length)(Ou:∀(k r:Nat),at_[k]? =some (some r)->r<Fd.length):∀k,k<=at_.length->∀(i:Nat) u x,(kY rv at_ k)[i]? =some u->(cZ (Fd,at_,fr) k).1[i]? =some x->∃r:Nat,rv[r]? =some u/\Fd[r]? =some x
 |0,_,i,u,x,h,_=>by cases h
 |k+1,R,i,u,x,I,X=>by
  have ih:=zp (fr:=fr) hl Ou k (by omega) i u x;obtain⟨o,ho⟩:∃o,at_[k]? =some o:=⟨_,aB (by omega)⟩
  cases o with
  |none=>
   rw[s5 ho]at I;rw[mR (s:=(Fd,at_,fr)) ho]at X;exact ih I X
  |some r=>
   have hr:=Ou k r ho;rw[s6 ho]at I;rw[mS (s:=(Fd,at_,fr)) ho]at X;obtain⟨q1,q2,q3,q4⟩:=uM (Fd,at_,fr) rv k (by dsimp only;omega);dsimp only at q1 q2 q3 q4 X;rcases aP i (kY rv at_ k).length with D|D
   ·rw[aJ D]at I;rw[aJ (by omega)]at X;exact ih I X
   ·have RZ:i=(kY rv at_ k).length:=by have:=(aD.1 I).1;simp at this;omega
    rw[RZ,aN (Nat.le_refl _),bB]at I;rw[RZ,q3,<-q1,aN (Nat.le_refl _),bB]at X;simp only[List.getElem?_cons_zero,Option.some.injEq]at I X;refine⟨r,?_,?_⟩
    ·rw[<-I,List.getD,aB (by omega)];rfl
    ·rw[<-X,List.getD,aB hr];rfl
theorem Eg{α:Type}(l:List α)(a b:α):(l++[a]).set l.length b=l++[b]:=by simp
section
variable{S S':Nat->Prop}{H:Hp}{nx:Nat}{iv E:Iv}{B:Nat}{w J V:World}{O:Nat->Sx.dL}{rv:List Value}{v:Value}{q:Rat}
theorem cN.Eh(h:cN w (Lr S B iv rv) v q)(r:Rel H nx iv B w O J)(F:∀g,S g->g<B):cN J (Lr S B iv rv) v q:=h.cC fun _ G=>Rel.same r F G.1
theorem cN.Mp(h:cN w (Lr S B iv rv) v q)(r:Rel H nx iv B w O J)(F:∀g,S g->g<B)(W:Ext J V)(hm:∀p,p∈iv->p∈E):cN V (Lr S B E rv) v q:=
 ((h.Eh r F).cC fun g G=>W.block g (Rel.old r F g G.1)).cF fun _ G=>⟨G.1.mono hm,G.2⟩
theorem Lr.old(r:Rel H nx iv B w O J)(F:∀g,S g->g<B):Old (Lr S B iv rv) J:=fun g G=>Rel.old r F g G.1
theorem cN.aAV{n:Nat}(h:cN V (Nf J V) v q)(hM:lP w S B iv rv n M)(r:Rel H nx iv B w O J):cN V (Lr S0 B ((J.heap.size,V.heap.size)::iv) rv) v q:=
 h.cF fun g G=>by
  rcases G with G|G
  ·exact G.elim
  ·exact⟨.inr ⟨by have:=r.bz;omega,_,_,aG,G.1,G.2⟩,fun hm=>by have:=hM.lt r hm;omega⟩
end
set_option maxHeartbeats 2000000 in
theorem B7{n h:Nat}(hC:Old C w)(F:Old S w)(hM:oQ w C S v M)(hlen:gh n M)(hn0:0<n)(Z:n<=1000)(hR:M.length<=1000)(Q1:cols<=n)(hB:Ef M cols h)(hh:3*h<=90000):
  dx PG F'.ic #[.agg #[v,.int .i64 n],.int .i64 cols] w (eH w fun v' V=>∃vr vp vf,v'= .agg #[vr,.int .i64 n,vp,vf]/\cT V (Nw S w V) vr (dh M cols).1/\dS V (Nf w V) vp (dh M cols).2.1/\dS V (Nf w V) vf (dh M cols).2.2):=by
 have Y:=bR w;obtain⟨am,cm,rfl,S3,Rd⟩:=oQ.shape hM;unfold maxLen at Rd;refine j0 (by simp) ?_
 refine⟨cols,cols,rfl,rfl,Nat.le_refl _,by omega,by omega,Nat×World,fun z=>⟨[(1,iZ cols),(2,pP 0 0),(4,pP 1 0),(5,pP 2 0),(6,.o (.s 3 0 cols cols)),(27,iZ cols),(28,iN z.1)],
   [(3,.arr T.int (List.replicate z.1 (.int .i64 (-1))++List.replicate (cols-z.1) (.int .i64 0))),(2,.box T.dE [.v (.slice none 0 0),.v (.int .i64 n),.v (.slice none 0 0),.v (.slice none 0 0)]),(1,.box T.dE [.v (.slice none 0 0),.v (.int .i64 0),.v (.slice none 0 0),.v (.slice none 0 0)]),(0,.box T.di [.v (.slice am M.length cm),.v (.int .i64 n)])],4,[],z.2⟩,fun z=>cols-z.1,
  fun z=>z.1<=cols/\dT w.heap.size w z.2,?_,?_⟩
 ·intro O J r;exact⟨(0,J),⟨aS _,Y.tr r.cL⟩,Sub.gn [] r ⟨by simp;rfl,rfl,rfl,rfl,trivial⟩⟩
 rintro⟨i,w1⟩ ⟨D,Y⟩;dsimp only at D Y ⊢;refine dB.mk ?_ ?_<;>intro OQ
 ·have OQ:i<cols:=by simpa using OQ
  refine⟨by omega,by simp;omega,List.replicate (i+1) (.int .i64 (-1))++List.replicate (cols-(i+1)) (.int .i64 0),?_,?_⟩
  ·rw[aF,aY,aV];exact Kk _ _ OQ
  refine⟨((i+1:Nat):Int),wo,?_⟩;intro IR w3 K;exact⟨(i+1,w3),⟨OQ,Y.tr K.cL⟩,Sub.gn [] K,by dsimp only;omega⟩
 have OQ:i=cols:=aU D (by simpa using OQ);rw[OQ]
 refine⟨Nat×List Value×List (List Rat)×List (Option Nat)×List Nat×World×Iv,fun z=>⟨[(38,iN z.1),(1,iZ cols),(2,pP 0 0),(4,pP 1 0),(5,pP 2 0),(6,.o (.s 3 0 cols cols)),(36,sV am M.length cm),(37,iZ M.length)],[(2,.box T.dE [.w 4 z.2.1.length,.v (.int .i64 n),.v (.slice none 0 0),.w 5 z.2.2.2.2.1.length]),(5,.vec T.int 1 (z.2.2.2.2.1.map fun c:Nat=>.int .i64 (c:Int))),(4,.vec T.jC 1 z.2.1),(0,.box T.di [.v (.slice am M.length cm),.v (.int .i64 n)]),(1,.box T.dE [.v (.slice none 0 0),.v (.int .i64 0),.v (.slice none 0 0),.v (.slice none 0 0)]),(3,.arr T.int (z.2.2.2.1.map Lf))],6,z.2.2.2.2.2.2,z.2.2.2.2.2.1⟩,fun z=>M.length-z.1,
  fun z=>z.1<=M.length/\(z.2.2.1,z.2.2.2.1,z.2.2.2.2.1)=gq M cols z.1/\dT w.heap.size w z.2.2.2.2.2.1/\lP z.2.2.2.2.2.1 S w.heap.size z.2.2.2.2.2.2 z.2.1 n z.2.2.1,?_,?_⟩
 ·intro O J r
  exact⟨(0,[],[],List.replicate cols none,[],J,[]),⟨aS _,rfl,Y.tr r.cL,lP.nil⟩,Sub.Ee 2 0 T.jC 1 rfl rfl (by simp[l5,SV.sc,At.sc]) r fun In r1=>Sub.Ee 2 3 T.int 1 rfl rfl (by simp[l5,SV.sc,At.sc]) r1 fun GE r2=>
   Sub.gn [] r2 ⟨rfl,rfl,rfl,rfl,rfl,by simp[Lf];rfl,trivial⟩⟩
 rintro⟨i,rv,Fd,at_,fr,w1,iv⟩ ⟨D,Q7,Y,hE⟩;dsimp only at D Q7 Y hE ⊢;have OV:=ya cols hlen i D;rw[<-Q7]at OV;have hatl:at_.length=cols:=OV.at_;have hfrl:fr.length=Fd.length:=OV.ub;have hEi:Fd.length<=i:=OV.le;have Pm:rv.length=Fd.length:=hE.len;have hEb:∀r∈Fd,∀q∈r,rl q+1<=h:=by have:=hB.rows i D;rwa [<-Q7]at this
 refine dB.mk ?_ ?_<;>intro OQ
 ·have OQ:i<M.length:=by simpa using OQ
  obtain⟨x,L⟩:∃r,M[i]? =some r:=⟨_,aB OQ⟩
  have QC:=hlen x (aE L);have Uf:M.getD i []=x:=by rw[List.getD,L];rfl
  have PB:∀k,k<=cols->∀q∈fZ Fd at_ x k,rl q+1<=h:=by have:=hB.l6 i OQ;rwa [<-Q7,Uf]at this
  have hcll:∀k,(fZ Fd at_ x k).length=n:=fun k=>by rw[iA,QC]
  obtain⟨adm,um,Ux,Qc,km1,km2⟩:=oQ.load hM L;obtain⟨A,⟨-,g1,g2,a0,c0,rfl,g4,g5⟩,PZ,Tx,Ok⟩:=Qc;have Ot:=eo Tx;refine⟨adm,Ux,by omega,.slice a0 x.length c0,rd1 km2 Y (hC _ km1),?_⟩;refine .inl ?_;refine⟨A.flatten,g1,g2,fun O J r PI=>?_,?_⟩
  ·obtain⟨u0,hu0⟩:∃u,A.flatten[0]? =some u:=⟨_,aB (by omega)⟩
   obtain⟨ad,ha,_,_⟩:=g5 0 u0 hu0;refine⟨ad,ha,fun j u hj=>?_⟩;obtain⟨ad2,Qt,q1,q2⟩:=g5 j u hj;rw[ha]at Qt;injection Qt with Qt;subst Qt;rw[cJ (w:=w) (V:=J) (by rw[c9];exact(Y.tr r.cL).block _ (F _ q1))];exact q2
  refine⟨rfl,by omega,by unfold maxLen;omega,?_⟩;rw[aV x.length,QC]
  refine⟨Nat×Nat×Nat×World×Iv,fun z=>⟨[(9,.o (.v (.slice (some ⟨z.2.1,0,none⟩) n z.2.2.1))),(46,iZ cols),(47,iN z.1),(2,pP 0 0),(4,pP 1 0),(5,pP 2 0),(6,.o (.s 3 0 cols cols)),(8,iN i),(36,sV am M.length cm),(37,iZ M.length),(38,iN i),(1,iZ cols)],[(2,.box T.dE [.w 4 rv.length,.v (.int .i64 n),.v (.slice none 0 0),.w 5 fr.length]),(5,.vec T.int 1 (fr.map fun c:Nat=>.int .i64 (c:Int))),(4,.vec T.jC 1 rv),(0,.box T.di [.v (.slice am M.length cm),.v (.int .i64 n)]),(1,.box T.dE [.v (.slice none 0 0),.v (.int .i64 0),.v (.slice none 0 0),.v (.slice none 0 0)]),(3,.arr T.int (at_.map Lf))],8,z.2.2.2.2,z.2.2.2.1⟩,fun z=>cols-z.1,
   fun z=>z.1<=cols/\dT w.heap.size w z.2.2.2.1/\lP z.2.2.2.1 S w.heap.size z.2.2.2.2 (rv++[.slice (some ⟨z.2.1,0,none⟩) n z.2.2.1]) n (Fd++[fZ Fd at_ x z.1]),?_,?_⟩
  ·intro O J r;have hv:=aAU (S:=S) (m:=n) (qs:=x) (A:=A) r (id:=7) rfl (by omega) hn0 (by unfold maxLen;omega) ⟨PZ,fun j U q k1 k2=>(Ok j U q k1 k2).cC fun g G=>(Y.tr r.cL).block g (F g G)⟩
   exact⟨(0,(O 7).g,(O 7).cap,J,((O 7).g,(O 7).g+1)::iv),⟨aS _,Y.tr r.cL,(hE.rel r F).push (fun g G e=>Rel.not r F G 7 _ rfl hv.1 e.symm) hv.2.1 hv.2.2.2 F⟩,
    Sub.aAE r (id:=7) (t:=9) (U:=A.flatten) rfl hv.1 rfl ⟨rfl,rfl,rfl,rfl,rfl,rfl,trivial⟩ rfl ⟨rfl,rfl,rfl,rfl,rfl,rfl,rfl,rfl,rfl,rfl,rfl,trivial⟩ (by simp[l5,SV.sc,At.sc])⟩
  rintro⟨k,gx,cx,V,iv⟩ ⟨R,Y,hE⟩;dsimp only at R Y hE ⊢;refine dB.mk ?_ ?_<;>intro OT
  ·have OT:k<cols:=by simpa using OT
   obtain⟨o,ho⟩:∃o,at_[k]? =some o:=⟨_,aB (by omega)⟩
   refine⟨by omega,Lf o,by rw[aF,aY,aV,aM,ho];rfl,?_⟩
   cases o with
   |none=>
    refine⟨((k+1:Nat):Int),wo,?_⟩;intro IR w3 K;exact⟨(k+1,gx,cx,w3,_),⟨OT,Y.tr K.cL,by dsimp only;rw[GM ho];exact hE.rel K F⟩,Sub.gn [] K,by dsimp only;omega⟩
   |some j=>
    have hj:j<Fd.length:=OV.lt k j ho;have hq:∃q,(fZ Fd at_ x k)[k]? =some q:=⟨_,aB (by rw[hcll];omega)⟩
    obtain⟨q,hq⟩:=hq;have Qu:(fZ Fd at_ x k).getD k 0=q:=by rw[List.getD,hq];rfl
    have SB:=PB k R q (aE hq);have Sv:(rv++[.slice (some ⟨gx,0,none⟩) n cx])[rv.length]? =some (.slice (some ⟨gx,0,none⟩) n cx):=by simp
    have WD:(Fd++[fZ Fd at_ x k])[rv.length]? =some (fZ Fd at_ x k):=by rw[Pm];simp
    obtain⟨ad,U,Om,hF,hl⟩:=hE.load Sv WD hq;obtain⟨f0,f1,f2,f3,f4,f5,f6,f7,rfl,hF⟩:=hF;refine⟨ad,Om,by omega,[.bool f0,.slice f1 f2 f3,.bool f4,.slice f5 f6 f7],rfl,fun O J r t u hu=>?_,?_⟩
    ·obtain⟨k1,k2⟩:=hl t u hu;rw[aF,cJ (w:=V) (V:=J) (by rw[c9,c9];exact Rel.same r (eI _) k1)];exact k2
    refine cB (cE Y (fun _ J v V=>∃d,v= .bool d/\(d=true↔q=0)) (fun O J r=>mQ (Lr.old r F) ((hF.Eh r F).l (by omega))) ?_);rintro O _ _ PE OZ r W Y h_ ⟨d,rfl,hz⟩;replace hE:=hE.cD r F W (mC h_);replace hF:=hF.Mp r F W (mC h_)
    cases d
    ·have Uy:q≠0:=fun e=>by have:=hz.2 e;cases this
     obtain⟨vj,Sj⟩:∃v,rv[j]? =some v:=⟨_,aB (by omega)⟩
     have TX:(rv++[.slice (some ⟨gx,0,none⟩) n cx])[j]? =some vj:=by rw[aJ (by omega)];exact Sj
     obtain⟨ej,Uz⟩:∃v,Fd[j]? =some v:=⟨_,aB hj⟩
     have VA:(Fd++[fZ Fd at_ x k])[j]? =some ej:=by rw[aJ hj];exact Uz
     have hejd:Fd.getD j []=ej:=by rw[List.getD,Uz];rfl
     obtain⟨aj,cj,rfl⟩:=hE.form TX;obtain⟨ad,U,Om,hF,hl⟩:=hE.load Sv WD hq;obtain⟨f0,f1,f2,f3,f4,f5,f6,f7,rfl,hF⟩:=hF;refine cI hτ dN [.x 0,.x 1,.x 2,.x 3,.x 4,.x 5,.x 6,.x 7,.x 8,.x 9,.x 10,.x 11] (by kernel_rfl) (by kernel_rfl) ?_;refine⟨by simp,by omega,.slice aj n cj,by simpa using Sj,ad,Om,by omega,[.bool f0,.slice f1 f2 f3,.bool f4,.slice f5 f6 f7],rfl,fun O J r t u hu=>?_,?_⟩
     ·obtain⟨k1,k2⟩:=hl t u hu;rw[aF,cJ (w:=PE) (V:=J) (by rw[c9,c9];exact Rel.same r (eI _) k1)];exact k2
     refine⟨fun O J r=>?_⟩;refine(hE.Cj r F (i:=rv.length) (j:=j) (h:=h) (by omega) Sv TX WD VA (hF.l (by omega)) (fun y hy=>PB k R y hy) (fun y hy=>hEb ej (aE Uz) y hy) SB hh).mono fun e w8 W=>?_;obtain⟨rfl,Oc,QZ,Ov⟩:=W;have PR:=(Y.tr r.cL).tr (hE.cL r Oc QZ);refine⟨.tuple #[],_,(J.heap.size,w8.heap.size)::OZ,rfl,r.nJ (fun x L=>Rel.not r (eI _) (hE.new x (QZ x L))) Oc,?_⟩;have Oh:(Fd++[fZ Fd at_ x k]).set rv.length (lr (fZ Fd at_ x k) ej q)=Fd++[fZ Fd at_ x (k+1)]:=by rw[Pm,Eg,zo ho,hejd,Qu]
     rw[Oh]at Ov;generalize (J.heap.size,w8.heap.size)::OZ=RW at*
     refine⟨((k+1:Nat):Int),wo,?_⟩;intro IR w3 K;exact⟨(k+1,gx,cx,w3,_),⟨OT,PR.tr K.cL,Ov.rel K F⟩,Sub.gn [] K,by dsimp only;omega⟩
    ·have Uy:q=0:=hz.1 rfl;refine⟨((k+1:Nat):Int),wo,?_⟩;intro IR w3 K;exact⟨(k+1,gx,cx,w3,_),⟨OT,Y.tr K.cL,by dsimp only;rw[zo ho,Qu,Uy,y8];exact hE.rel K F⟩,Sub.gn [] K,by dsimp only;omega⟩
  have OT:k=cols:=aU R (by simpa using OT);rw[OT]at hE;obtain⟨y,hy⟩:∃y,fZ Fd at_ x cols=y:=⟨_,rfl⟩
  have hyl:y.length=n:=by rw[<-hy];exact hcll cols
  have VT:∀q∈y,rl q+1<=h:=by rw[<-hy];exact PB cols (Nat.le_refl _)
  rw[hy]at hE;have Sv:(rv++[.slice (some ⟨gx,0,none⟩) n cx])[rv.length]? =some (.slice (some ⟨gx,0,none⟩) n cx):=by simp
  refine⟨Nat×World×Iv,fun z=>⟨[(9,.o (.v (.slice (some ⟨gx,0,none⟩) n cx))),(12,iN z.1),(2,pP 0 0),(4,pP 1 0),(5,pP 2 0),(6,.o (.s 3 0 cols cols)),(8,iN i),(36,sV am M.length cm),(37,iZ M.length),(38,iN i),(1,iZ cols)],[(2,.box T.dE [.w 4 rv.length,.v (.int .i64 n),.v (.slice none 0 0),.w 5 fr.length]),(5,.vec T.int 1 (fr.map fun c:Nat=>.int .i64 (c:Int))),(4,.vec T.jC 1 rv),(0,.box T.di [.v (.slice am M.length cm),.v (.int .i64 n)]),(1,.box T.dE [.v (.slice none 0 0),.v (.int .i64 0),.v (.slice none 0 0),.v (.slice none 0 0)]),(3,.arr T.int (at_.map Lf))],8,z.2.2,z.2.1⟩,fun z=>cols-z.1,
   fun z=>z.1<=cols/\(∀t,t<z.1->y.getD t 0=0)/\dT w.heap.size w z.2.1/\lP z.2.1 S w.heap.size z.2.2 (rv++[.slice (some ⟨gx,0,none⟩) n cx]) n (Fd++[y]),?_,?_⟩
  ·intro O J K;exact⟨(0,J,_),⟨aS _,fun t ht=>absurd ht (Nat.not_lt_zero t),Y.tr K.cL,hE.rel K F⟩,Sub.gn [] K⟩
  rintro⟨pv,w3,iv⟩ ⟨hp,Vb,Y,hE⟩;dsimp only at hp Vb Y hE ⊢;have WD:(Fd++[y])[rv.length]? =some y:=by rw[Pm];simp
  refine dB.mk ?_ ?_<;>intro Sw
  ·have Sw:pv<cols:=by simpa using Sw
   obtain⟨q,hq⟩:∃q,y[pv]? =some q:=⟨_,aB (by omega)⟩
   have Qu:y.getD pv 0=q:=by rw[List.getD,hq];rfl
   have SB:=VT q (aE hq);obtain⟨ad,U,Om,hF,hl⟩:=hE.load Sv WD hq;obtain⟨f0,f1,f2,f3,f4,f5,f6,f7,rfl,hF⟩:=hF;refine⟨ad,Om,by omega,[.bool f0,.slice f1 f2 f3,.bool f4,.slice f5 f6 f7],rfl,fun O J r t u hu=>?_,?_⟩
   ·obtain⟨k1,k2⟩:=hl t u hu;rw[aF,cJ (w:=w3) (V:=J) (by rw[c9,c9];exact Rel.same r (eI _) k1)];exact k2
   refine cB (cE Y (fun _ J v V=>∃d,v= .bool d/\(d=true↔q=0)) (fun O J r=>mQ (Lr.old r F) ((hF.Eh r F).l (by omega))) ?_);rintro O _ _ PT OU r W Y h_ ⟨d,rfl,hz⟩;replace hE:=hE.cD r F W (mC h_)
   cases d
   ·have Uy:q≠0:=fun e=>by have:=hz.2 e;cases this
    refine dB.mk ?_ ?_<;>intro W
    ·have W:(pv:Int)=cols:=by simpa using W
     omega
    have UF:tM y cols=pv:=HD Vb hp fun _=>by rw[Qu];exact Uy
    have SD:=GO Q7 Uf hy UF (by omega);rw[Qu]at SD;obtain⟨u,hu⟩:∃u,y.map (· / q)=u:=⟨_,rfl⟩
    rw[hu]at SD;have hul:u.length=n:=by rw[<-hu,aL,hyl]
    have hub:∀q∈u,rl q+1<=h:=by
     have:=hB.rows (i+1) OQ u (by rw[SD];simp);exact this
    obtain⟨ad,U,Om,hF,hl⟩:=hE.load Sv WD hq;obtain⟨f0,f1,f2,f3,f4,f5,f6,f7,rfl,hF⟩:=hF;refine⟨ad,Om,by omega,[.bool f0,.slice f1 f2 f3,.bool f4,.slice f5 f6 f7],rfl,fun O J r t u hu=>?_,?_⟩
    ·obtain⟨k1,k2⟩:=hl t u hu;rw[aF,cJ (w:=PT) (V:=J) (by rw[c9,c9];exact Rel.same r (eI _) k1)];exact k2
    refine⟨Nat×World×Iv,fun z=>⟨[(9,.o (.v (.slice (some ⟨gx,0,none⟩) n cx))),(12,iN pv),(13,pP 8 0),(97,iZ n),(98,iN z.1),(2,pP 0 0),(4,pP 1 0),(5,pP 2 0),(6,.o (.s 3 0 cols cols)),(8,iN i),(36,sV am M.length cm),(37,iZ M.length),(38,iN i),(1,iZ cols)],[(8,.box T.Rat [.v (.bool f0),.v (.slice f1 f2 f3),.v (.bool f4),.v (.slice f5 f6 f7)]),(2,.box T.dE [.w 4 rv.length,.v (.int .i64 n),.v (.slice none 0 0),.w 5 fr.length]),(5,.vec T.int 1 (fr.map fun c:Nat=>.int .i64 (c:Int))),(4,.vec T.jC 1 rv),(0,.box T.di [.v (.slice am M.length cm),.v (.int .i64 n)]),(1,.box T.dE [.v (.slice none 0 0),.v (.int .i64 0),.v (.slice none 0 0),.v (.slice none 0 0)]),(3,.arr T.int (at_.map Lf))],9,z.2.2,z.2.1⟩,fun z=>n-z.1,
     fun z=>z.1<=n/\dT w.heap.size w z.2.1/\lP z.2.1 S w.heap.size z.2.2 (rv++[.slice (some ⟨gx,0,none⟩) n cx]) n (Fd++[gb z.1 (fun _ r=>r / q) y])/\cN z.2.1 (Lr S w.heap.size z.2.2 (rv++[.slice (some ⟨gx,0,none⟩) n cx])) (.agg #[.bool f0,.slice f1 f2 f3,.bool f4,.slice f5 f6 f7]) q,?_,?_⟩
    ·intro O J K;exact⟨(0,J,_),⟨aS _,Y.tr K.cL,by dsimp only;rw[oP];exact hE.rel K F,hF.Eh K F⟩,Sub.gn [] K⟩
    rintro⟨k,w4,iv⟩ ⟨R,Y,hE,hF⟩;dsimp only at R Y hE hF ⊢;have WD:(Fd++[gb k (fun _ r=>r / q) y])[rv.length]? =some (gb k (fun _ r=>r / q) y):=by rw[Pm];simp
    refine dB.mk ?_ ?_<;>intro OT
    ·have OT:k<n:=by simpa using OT
     obtain⟨t,ht⟩:∃q,y[k]? =some q:=⟨_,aB (by omega)⟩
     have htl:=VT t (aE ht);obtain⟨ad,U,Om,hG,hl⟩:=hE.load Sv WD (uL ht);obtain⟨g0,g1,g2,g3,g4,g5,g6,g7,rfl,hG⟩:=hG;refine cI hτ dN [.x 0,.x 1,.x 2,.x 3,.x 4,.x 5,.x 6,.x 7,.x 8,.x 9] (by kernel_rfl) (by kernel_rfl) ?_;refine⟨ad,Om,by omega,[.bool g0,.slice g1 g2 g3,.bool g4,.slice g5 g6 g7],rfl,fun O J r t u hu=>?_,?_⟩
     ·obtain⟨k1,k2⟩:=hl t u hu;rw[aF,cJ (w:=w4) (V:=J) (by rw[c9,c9];exact Rel.same r (eI _) k1)];exact k2
     refine cG (Id:=fun _ J v V=>cN V (Nf J V) v (t / q)) (fun O J r=>GL (Lr.old r F) ((hG.Eh r F).l (by omega)) ((hF.Eh r F).l (by omega)) Uy) ?_;rintro O PY v3 PX r W hb Qf;replace Y:=Y.tr hb;have hd:=Qf.aAV (S0:=S) hE r;replace hE:=hE.cD (E:=(PY.heap.size,PX.heap.size)::iv) r F W fun x L=>aC _ L;replace hF:=hF.Mp (E:=(PY.heap.size,PX.heap.size)::iv) r F W fun x L=>aC _ L;generalize (PY.heap.size,PX.heap.size)::iv=Oi at*
     obtain⟨A0,A1,A2,A3,A4,A5,A6,A7,rfl⟩:=hd.shape;refine⟨⟨gx,0,none⟩,rfl,by omega,?_⟩;intro O J r;obtain⟨g,G,I,X,N,h4⟩:=hE.store r F Sv WD OT hd;injection G with G;injection G with G;subst G;refine⟨I,X,N,fun w5 Rr=>?_⟩;obtain⟨k1,k2,k3,k4⟩:=h4 w5 Rr;have PR:=(Y.tr r.cL).tr k2;have SA:=hF.cC k4;have Oh:(Fd++[gb k (fun _ r=>r / q) y]).set rv.length ((gb k (fun _ r=>r / q) y).set k (t / q))=Fd++[gb (k+1) (fun _ r=>r / q) y]:=by rw[Pm,Eg,<-lO ht]
     rw[Oh]at k1;refine⟨((k+1:Nat):Int),wo,?_⟩;intro IR w6 K;exact⟨(k+1,w6,_),⟨OT,PR.tr K.cL,k1.rel K F,SA.Eh K F⟩,Sub.gn [] K,by dsimp only;omega⟩
    have OT:k=n:=aU R (by simpa using OT);rw[OT,<-hyl,Km,hu,hyl]at hE
    refine⟨by simp,Nat×World×Iv,fun z=>⟨[(9,.o (.v (.slice (some ⟨gx,0,none⟩) n cx))),(12,iN pv),(113,.o (.w 4 rv.length)),(114,iZ rv.length),(115,iN z.1),(2,pP 0 0),(4,pP 1 0),(5,pP 2 0),(6,.o (.s 3 0 cols cols)),(8,iN i),(36,sV am M.length cm),(37,iZ M.length),(38,iN i),(1,iZ cols)],[(2,.box T.dE [.w 4 rv.length,.v (.int .i64 n),.v (.slice none 0 0),.w 5 fr.length]),(5,.vec T.int 1 (fr.map fun c:Nat=>.int .i64 (c:Int))),(4,.vec T.jC 1 rv),(0,.box T.di [.v (.slice am M.length cm),.v (.int .i64 n)]),(1,.box T.dE [.v (.slice none 0 0),.v (.int .i64 0),.v (.slice none 0 0),.v (.slice none 0 0)]),(3,.arr T.int (at_.map Lf))],9,z.2.2,z.2.1⟩,fun z=>rv.length-z.1,
     fun z=>z.1<=rv.length/\dT w.heap.size w z.2.1/\lP z.2.1 S w.heap.size z.2.2 (rv++[.slice (some ⟨gx,0,none⟩) n cx]) n (gE Fd u pv z.1++[u]),?_,?_⟩
    ·intro O J K;exact⟨(0,J,_),⟨aS _,Y.tr K.cL,by dsimp only;rw[Fl];exact hE.rel K F⟩,Sub.gn [] K⟩
    rintro⟨j,w5,iv⟩ ⟨hj,Y,hE⟩;dsimp only at hj Y hE ⊢;refine dB.mk ?_ ?_<;>intro Pv
    ·have Pv:j<rv.length:=by simpa using Pv
     obtain⟨ej,Uz⟩:∃v,Fd[j]? =some v:=⟨_,aB (by omega)⟩
     have VB:ej.length=n:=OV.len ej (aE Uz);have heb:=hEb ej (aE Uz);obtain⟨vj,Sj⟩:∃v,rv[j]? =some v:=⟨_,aB Pv⟩
     have TX:(rv++[.slice (some ⟨gx,0,none⟩) n cx])[j]? =some vj:=by rw[aJ Pv];exact Sj
     have VA:(gE Fd u pv j++[u])[j]? =some ej:=by rw[aJ (by rw[fe];omega)];exact Du Uz
     have hur:(gE Fd u pv j++[u])[rv.length]? =some u:=by rw[Pm,<-fe Fd u pv j];simp
     obtain⟨t,ht⟩:∃q,ej[pv]? =some q:=⟨_,aB (by omega)⟩
     have htd:ej.getD pv 0=t:=by rw[List.getD,ht];rfl
     have htl:=heb t (aE ht);obtain⟨aj,cj,rfl⟩:=hE.form TX;obtain⟨ad,U,Om,hG,hl⟩:=hE.load TX VA ht;obtain⟨g0,g1,g2,g3,g4,g5,g6,g7,rfl,hG⟩:=hG;refine⟨by simp,by omega,.slice aj n cj,by simpa using Sj,ad,Om,by omega,[.bool g0,.slice g1 g2 g3,.bool g4,.slice g5 g6 g7],rfl,fun O J r t u hu=>?_,?_⟩
     ·obtain⟨k1,k2⟩:=hl t u hu;rw[aF,cJ (w:=w5) (V:=J) (by rw[c9,c9];exact Rel.same r (eI _) k1)];exact k2
     refine cB (cE Y (fun _ J v V=>∃d,v= .bool d/\(d=true↔t=0)) (fun O J r=>mQ (Lr.old r F) ((hG.Eh r F).l (by omega))) ?_);rintro O _ _ Q9 Ow r W Y h_ ⟨d,rfl,hz⟩;replace hE:=hE.cD r F W (mC h_)
     cases d
     ·have ht0:t≠0:=fun e=>by have:=hz.2 e;cases this
      obtain⟨ad,U,Om,hG,hl⟩:=hE.load TX VA ht;obtain⟨g0,g1,g2,g3,g4,g5,g6,g7,rfl,hG⟩:=hG;refine⟨ad,Om,by omega,[.bool g0,.slice g1 g2 g3,.bool g4,.slice g5 g6 g7],rfl,fun O J r t u hu=>?_,?_⟩
      ·obtain⟨k1,k2⟩:=hl t u hu;rw[aF,cJ (w:=Q9) (V:=J) (by rw[c9,c9];exact Rel.same r (eI _) k1)];exact k2
      refine⟨fun O J r=>?_⟩;refine(hE.Cj r F (i:=j) (j:=rv.length) (h:=h) (by omega) TX Sv VA hur (hG.l (by omega)) heb hub htl hh).mono fun e w8 W=>?_;obtain⟨rfl,Oc,QZ,Ov⟩:=W;have PR:=(Y.tr r.cL).tr (hE.cL r Oc QZ);refine⟨.tuple #[],_,(J.heap.size,w8.heap.size)::Ow,rfl,r.nJ (fun x L=>Rel.not r (eI _) (hE.new x (QZ x L))) Oc,?_⟩;have Oh:(gE Fd u pv j++[u]).set j (lr ej u t)=gE Fd u pv (j+1)++[u]:=by rw[Kl _ _ (by rw[fe];omega),y9 Uz,htd]
      rw[Oh]at Ov;generalize (J.heap.size,w8.heap.size)::Ow=RW at*
      refine⟨((j+1:Nat):Int),wo,?_⟩;intro IR w6 K;exact⟨(j+1,w6,_),⟨Pv,PR.tr K.cL,Ov.rel K F⟩,Sub.gn [] K,by dsimp only;omega⟩
     ·have ht0:t=0:=hz.1 rfl;refine⟨((j+1:Nat):Int),wo,?_⟩;intro IR w6 K;exact⟨(j+1,w6,_),⟨Pv,Y.tr K.cL,by dsimp only;rw[GP Uz (by rw[htd,ht0])];exact hE.rel K F⟩,Sub.gn [] K,by dsimp only;omega⟩
    have Pv:j=Fd.length:=by have:=aU hj (by simpa using Pv);omega
    rw[Pv]at hE;refine⟨by simp,by omega,by simp;omega,(at_.set pv (some rv.length)).map Lf,?_,?_⟩
    ·rw[aF,aY,aV,List.map_set];exact jt (by simp;omega)
    refine j1 hτ dN (.x 0 (.x 1 (.x 3 (.x 6 (.x 8 (.ld 2 64544 (.ld 7 64512 (.two 4 (.two 5 (.x 11 (.x 12 (.x 9 (.x 10 (.x 13 (.x 14 (.x 15 .nil))))))) 9 (.x 5 (.x 11 (.x 12 (.x 10 (.x 13 (.x 14 (.x 15 .nil)))))))) 9 (.x 4 (.x 5 (.x 11 (.x 12 (.x 10 (.x 13 (.x 14 (.x 15 .nil)))))))))))))))) (by kernel_rfl) (by kernel_rfl) ?_;refine⟨?_,?_⟩
    ·refine⟨rfl,rfl,?_,?_⟩
     ·refine .inl ?_;refine⟨by simp,by omega,by unfold maxLen;omega,rfl,rfl,?_⟩;refine .inl ?_;refine⟨by simp,by omega,by unfold maxLen;omega,((i+1:Nat):Int),wo,?_⟩;intro IR w6 K;exact⟨(i+1,rv++[.slice (some ⟨gx,0,none⟩) n cx],gE Fd u pv Fd.length++[u],at_.set pv (some Fd.length),fr++[i],w6,_),⟨OQ,SD.symm,Y.tr K.cL,hE.rel K F⟩,Sub.gn [(4,10),(5,12)] K ⟨by dsimp only;rw[List.length_append,List.length_append,List.length_singleton,List.length_singleton];rfl,by dsimp only;rw[List.map_append];rfl,rfl,rfl,rfl,by dsimp only;rw[<-Pm];rfl,trivial⟩,by dsimp only;omega⟩
     ·refine⟨rfl,rfl,?_⟩;refine .inl ?_;refine⟨by simp,by omega,by unfold maxLen;omega,rfl,?_⟩;refine .inl ?_;refine⟨by simp,by omega,by unfold maxLen;omega,((i+1:Nat):Int),wo,?_⟩;intro IR w6 K;exact⟨(i+1,rv++[.slice (some ⟨gx,0,none⟩) n cx],gE Fd u pv Fd.length++[u],at_.set pv (some Fd.length),fr++[i],w6,_),⟨OQ,SD.symm,Y.tr K.cL,hE.rel K F⟩,Sub.gn [(4,11),(5,12)] K ⟨by dsimp only;rw[List.length_append,List.length_append,List.length_singleton,List.length_singleton];rfl,by dsimp only;rw[List.map_append];rfl,rfl,rfl,rfl,by dsimp only;rw[<-Pm];rfl,trivial⟩,by dsimp only;omega⟩
    ·refine⟨rfl,rfl,rfl,rfl,?_⟩;refine .inl ?_;refine⟨by simp,by omega,by unfold maxLen;omega,rfl,?_⟩;refine .inl ?_;refine⟨by simp,by omega,by unfold maxLen;omega,((i+1:Nat):Int),wo,?_⟩;intro IR w6 K;exact⟨(i+1,rv++[.slice (some ⟨gx,0,none⟩) n cx],gE Fd u pv Fd.length++[u],at_.set pv (some Fd.length),fr++[i],w6,_),⟨OQ,SD.symm,Y.tr K.cL,hE.rel K F⟩,Sub.gn [(4,11),(5,12)] K ⟨by dsimp only;rw[List.length_append,List.length_append,List.length_singleton,List.length_singleton];rfl,by dsimp only;rw[List.map_append];rfl,rfl,rfl,rfl,by dsimp only;rw[<-Pm];rfl,trivial⟩,by dsimp only;omega⟩
   ·have Uy:q=0:=hz.1 rfl;refine⟨((pv+1:Nat):Int),wo,?_⟩;intro IR w4 K
    exact⟨(pv+1,w4,_),⟨Sw,fun t ht=>by
     by_cases htp:t=pv
     ·rw[htp,Qu,Uy]
     ·exact Vb t (by dsimp only at ht;omega),Y.tr K.cL,hE.rel K F⟩,Sub.gn [] K,by dsimp only;omega⟩
  have Sw:pv=cols:=aU hp (by simpa using Sw);have UF:tM y cols=cols:=HD (k:=cols) (fun t ht=>Vb t (by omega)) (Nat.le_refl _) (fun h=>absurd h (Nat.lt_irrefl _));have hskip:=GN Q7 Uf hy UF;refine dB.mk (fun W=>?_) (fun W=>by rw[Sw]at W;simp at W);refine⟨((i+1:Nat):Int),wo,?_⟩;intro IR w4 K;exact⟨(i+1,rv,Fd,at_,fr,w4,_),⟨OQ,hskip,Y.tr K.cL,hE.drop.rel K F⟩,Sub.gn [] K,by dsimp only;omega⟩
 have OQ:i=M.length:=aU D (by simpa using OQ);subst OQ;have hredS:dh M cols=cZ (Fd,at_,fr) cols:=by rw[dh,<-Q7]
 have Ou:∀(k r:Nat),at_[k]? =some (some r)->r<Fd.length:=OV.lt;have SJ:∀k,k<=cols->(cZ (Fd,at_,fr) k).1.length=(cZ (Fd,at_,fr) k).2.1.length/\(cZ (Fd,at_,fr) k).2.2.length=(cZ (Fd,at_,fr) k).2.1.length/\(kY rv at_ k).length=(cZ (Fd,at_,fr) k).2.1.length/\(cZ (Fd,at_,fr) k).2.1.length<=k:=fun k R=>uM (Fd,at_,fr) rv k (by dsimp only;omega)
 refine⟨Nat×World,fun z=>⟨[(4,pP 1 0),(5,pP 2 0),(17,pP 6 0),(159,.o (.s 3 0 cols cols)),(160,iZ cols),(161,iN z.1)],[(6,.box T.dE [.w 7 (cZ (Fd,at_,fr) z.1).2.1.length,.v (.int .i64 n),.w 8 (cZ (Fd,at_,fr) z.1).2.1.length,.w 9 (cZ (Fd,at_,fr) z.1).2.1.length]),(9,.vec T.int 1 ((cZ (Fd,at_,fr) z.1).2.2.map fun c:Nat=>.int .i64 (c:Int))),(8,.vec T.int 1 ((cZ (Fd,at_,fr) z.1).2.1.map fun c:Nat=>.int .i64 (c:Int))),(7,.vec T.jC 1 (kY rv at_ z.1)),(2,.box T.dE [.w 4 rv.length,.v (.int .i64 n),.v (.slice none 0 0),.w 5 fr.length]),(5,.vec T.int 1 (fr.map fun c:Nat=>.int .i64 (c:Int))),(4,.vec T.jC 1 rv),(1,.box T.dE [.v (.slice none 0 0),.v (.int .i64 0),.v (.slice none 0 0),.v (.slice none 0 0)]),(3,.arr T.int (at_.map Lf))],10,iv,z.2⟩,fun z=>cols-z.1,
  fun z=>z.1<=cols/\dT w.heap.size w z.2/\lP z.2 S w.heap.size iv rv n Fd,?_,?_⟩
 ·intro O J r
  exact⟨(0,J),⟨aS _,Y.tr r.cL,hE.rel r F⟩,Sub.Ee 6 0 T.jC 1 rfl rfl (by simp[l5,SV.sc,At.sc]) r fun In r1=>Sub.Ee 6 2 T.int 1 rfl rfl (by simp[l5,SV.sc,At.sc]) r1 fun GE r2=>Sub.Ee 6 3 T.int 1 rfl rfl (by simp[l5,SV.sc,At.sc]) r2 fun IR K=>
   Sub.gn [] K⟩
 rintro⟨k,w1⟩ ⟨R,Y,hE⟩;dsimp only at R Y hE ⊢;obtain⟨q1,q2,q3,q4⟩:=SJ k R;refine dB.mk ?_ ?_<;>intro OT
 ·have OT:k<cols:=by simpa using OT
  obtain⟨o,ho⟩:∃o,at_[k]? =some o:=⟨_,aB (by omega)⟩
  refine⟨by omega,Lf o,by rw[aF,aY,aV,aM,ho];rfl,?_⟩
  cases o with
  |none=>
   refine⟨((k+1:Nat):Int),wo,?_⟩;have PS:=mR (s:=(Fd,at_,fr)) ho;have Q6:=s5 (rv:=rv) ho;intro IR w3 K;exact⟨(k+1,w3),⟨OT,Y.tr K.cL,hE.rel K F⟩,Sub.gn [] K ⟨by dsimp only;rw[PS];rfl,by dsimp only;rw[PS];rfl,by dsimp only;rw[PS];rfl,by dsimp only;rw[Q6];rfl,rfl,rfl,rfl,rfl,rfl,trivial⟩,by dsimp only;omega⟩
  |some j=>
   have hj:j<Fd.length:=Ou k j ho;obtain⟨vj,Sj⟩:∃v,rv[j]? =some v:=⟨_,aB (by omega)⟩
   have hvjd:rv.getD j (.bool false)=vj:=by rw[List.getD,Sj];rfl
   obtain⟨aj,cj,rfl⟩:=hE.form Sj;obtain⟨fj,Ss⟩:∃v,fr[j]? =some v:=⟨_,aB (by omega)⟩
   have hfjd:fr.getD j 0=fj:=by rw[List.getD,Ss];rfl
   have PS:=mS (s:=(Fd,at_,fr)) ho;have Q6:=s6 (rv:=rv) ho;dsimp only at PS;rw[hvjd]at Q6;rw[hfjd]at PS;refine j1 hτ dN (.x 0 (.x 1 (.x 3 (.x 4 (.x 6 (.x 11 (.x 13 (.x 16 (.x 18 (.x 20 (.ld 2 4278223872 (.ld 5 4278224768 (.x 7 (.ld 8 4278224384 (.ld 12 4278222848 (.ld 17 4278190080 (.ld 19 4192206848 (.x 21 (.ld 22 4185915392 (.three 9 (.three 10 (.x 25 (.x 26 (.two 14 (.two 15 (.x 23 (.x 24 (.x 27 (.x 28 (.x 29 (.x 30 (.x 31 .nil))))))) 23 (.x 15 (.x 24 (.x 27 (.x 28 (.x 29 (.x 30 (.x 31 .nil)))))))) 23 (.x 14 (.x 15 (.x 24 (.x 27 (.x 28 (.x 29 (.x 30 (.x 31 .nil))))))))))) 14 (.two 10 (.x 25 (.x 26 (.two 15 (.x 23 (.x 24 (.x 27 (.x 28 (.x 29 (.x 30 (.x 31 .nil))))))) 23 (.x 15 (.x 24 (.x 27 (.x 28 (.x 29 (.x 30 (.x 31 .nil)))))))))) 23 (.x 10 (.x 25 (.x 26 (.x 15 (.x 24 (.x 27 (.x 28 (.x 29 (.x 30 (.x 31 .nil))))))))))) 23 (.two 10 (.x 25 (.x 26 (.x 14 (.x 15 (.x 24 (.x 27 (.x 28 (.x 29 (.x 30 (.x 31 .nil)))))))))) 14 (.x 10 (.x 25 (.x 26 (.x 15 (.x 24 (.x 27 (.x 28 (.x 29 (.x 30 (.x 31 .nil)))))))))))) 14 (.two 9 (.two 10 (.x 25 (.x 26 (.two 15 (.x 23 (.x 24 (.x 27 (.x 28 (.x 29 (.x 30 (.x 31 .nil))))))) 23 (.x 15 (.x 24 (.x 27 (.x 28 (.x 29 (.x 30 (.x 31 .nil)))))))))) 23 (.x 10 (.x 25 (.x 26 (.x 15 (.x 24 (.x 27 (.x 28 (.x 29 (.x 30 (.x 31 .nil))))))))))) 23 (.x 9 (.x 10 (.x 25 (.x 26 (.x 15 (.x 24 (.x 27 (.x 28 (.x 29 (.x 30 (.x 31 .nil)))))))))))) 23 (.two 9 (.two 10 (.x 25 (.x 26 (.x 14 (.x 15 (.x 24 (.x 27 (.x 28 (.x 29 (.x 30 (.x 31 .nil)))))))))) 14 (.x 10 (.x 25 (.x 26 (.x 15 (.x 24 (.x 27 (.x 28 (.x 29 (.x 30 (.x 31 .nil))))))))))) 14 (.x 9 (.x 10 (.x 25 (.x 26 (.x 15 (.x 24 (.x 27 (.x 28 (.x 29 (.x 30 (.x 31 .nil)))))))))))))))))))))))))))))))) (by kernel_rfl) (by kernel_rfl) ?_;refine⟨by simp,by omega,.slice aj n cj,by simpa using Sj,by simp,by omega,.int .i64 (fj:Int),by simp[Ss],?_,?_,?_⟩
   ·refine⟨.int .i64 (fj:Int),by simp[Ss],rfl,rfl,rfl,rfl,rfl,?_,?_,?_⟩
    ·refine .inl ?_;refine⟨by simp[q2,q3],by omega,by unfold maxLen;omega,.int .i64 (fj:Int),by simp[Ss],rfl,rfl,rfl,rfl,?_,?_⟩
     ·refine⟨.int .i64 (fj:Int),by simp[Ss],rfl,rfl,rfl,rfl,?_,?_⟩
      ·refine .inl ?_;refine⟨by simp[q2,q3],by omega,by unfold maxLen;omega,.int .i64 (fj:Int),by simp[Ss],rfl,rfl,rfl,rfl,?_⟩;refine .inl ?_;refine⟨by simp[q2,q3],by omega,by unfold maxLen;omega,((k+1:Nat):Int),wo,?_⟩;intro IR w3 K;exact⟨(k+1,w3),⟨OT,Y.tr K.cL,hE.rel K F⟩,Sub.gn [(7,11),(8,13),(9,15)] K ⟨by dsimp only;rw[PS,List.length_append,List.length_singleton];rfl,by dsimp only;rw[PS,List.map_append];rfl,by dsimp only;rw[PS,List.map_append];rfl,by dsimp only;rw[Q6];rfl,rfl,rfl,rfl,rfl,rfl,trivial⟩,by dsimp only;omega⟩
      ·refine⟨rfl,rfl,?_⟩;refine .inl ?_;refine⟨by simp[q2,q3],by omega,by unfold maxLen;omega,rfl,?_⟩;refine .inl ?_;refine⟨by simp[q2,q3],by omega,by unfold maxLen;omega,((k+1:Nat):Int),wo,?_⟩;intro IR w3 K;exact⟨(k+1,w3),⟨OT,Y.tr K.cL,hE.rel K F⟩,Sub.gn [(7,11),(8,14),(9,15)] K ⟨by dsimp only;rw[PS,List.length_append,List.length_singleton];rfl,by dsimp only;rw[PS,List.map_append];rfl,by dsimp only;rw[PS,List.map_append];rfl,by dsimp only;rw[Q6];rfl,rfl,rfl,rfl,rfl,rfl,trivial⟩,by dsimp only;omega⟩
     ·refine⟨rfl,rfl,rfl,rfl,?_⟩;refine .inl ?_;refine⟨by simp[q2,q3],by omega,by unfold maxLen;omega,rfl,?_⟩;refine .inl ?_;refine⟨by simp[q2,q3],by omega,by unfold maxLen;omega,((k+1:Nat):Int),wo,?_⟩;intro IR w3 K;exact⟨(k+1,w3),⟨OT,Y.tr K.cL,hE.rel K F⟩,Sub.gn [(7,11),(8,14),(9,15)] K ⟨by dsimp only;rw[PS,List.length_append,List.length_singleton];rfl,by dsimp only;rw[PS,List.map_append];rfl,by dsimp only;rw[PS,List.map_append];rfl,by dsimp only;rw[Q6];rfl,rfl,rfl,rfl,rfl,rfl,trivial⟩,by dsimp only;omega⟩
    ·refine⟨.int .i64 (fj:Int),by simp[Ss],rfl,rfl,rfl,rfl,rfl,?_,?_⟩
     ·refine .inl ?_;refine⟨by simp[q2,q3],by omega,by unfold maxLen;omega,.int .i64 (fj:Int),by simp[Ss],rfl,rfl,rfl,rfl,?_,?_⟩
      ·refine .inl ?_;refine⟨by simp[q2,q3],by omega,by unfold maxLen;omega,.int .i64 (fj:Int),by simp[Ss],rfl,rfl,rfl,rfl,?_⟩;refine .inl ?_;refine⟨by simp[q2,q3],by omega,by unfold maxLen;omega,((k+1:Nat):Int),wo,?_⟩;intro IR w3 K;exact⟨(k+1,w3),⟨OT,Y.tr K.cL,hE.rel K F⟩,Sub.gn [(7,12),(8,13),(9,15)] K ⟨by dsimp only;rw[PS,List.length_append,List.length_singleton];rfl,by dsimp only;rw[PS,List.map_append];rfl,by dsimp only;rw[PS,List.map_append];rfl,by dsimp only;rw[Q6];rfl,rfl,rfl,rfl,rfl,rfl,trivial⟩,by dsimp only;omega⟩
      ·refine⟨rfl,rfl,?_⟩;refine .inl ?_;refine⟨by simp[q2,q3],by omega,by unfold maxLen;omega,rfl,?_⟩;refine .inl ?_;refine⟨by simp[q2,q3],by omega,by unfold maxLen;omega,((k+1:Nat):Int),wo,?_⟩;intro IR w3 K;exact⟨(k+1,w3),⟨OT,Y.tr K.cL,hE.rel K F⟩,Sub.gn [(7,12),(8,14),(9,15)] K ⟨by dsimp only;rw[PS,List.length_append,List.length_singleton];rfl,by dsimp only;rw[PS,List.map_append];rfl,by dsimp only;rw[PS,List.map_append];rfl,by dsimp only;rw[Q6];rfl,rfl,rfl,rfl,rfl,rfl,trivial⟩,by dsimp only;omega⟩
     ·refine⟨rfl,rfl,rfl,?_⟩;refine .inl ?_;refine⟨by simp[q2,q3],by omega,by unfold maxLen;omega,rfl,rfl,?_⟩;refine .inl ?_;refine⟨by simp[q2,q3],by omega,by unfold maxLen;omega,rfl,?_⟩;refine .inl ?_;refine⟨by simp[q2,q3],by omega,by unfold maxLen;omega,((k+1:Nat):Int),wo,?_⟩;intro IR w3 K;exact⟨(k+1,w3),⟨OT,Y.tr K.cL,hE.rel K F⟩,Sub.gn [(7,13),(8,14),(9,15)] K ⟨by dsimp only;rw[PS,List.length_append,List.length_singleton];rfl,by dsimp only;rw[PS,List.map_append];rfl,by dsimp only;rw[PS,List.map_append];rfl,by dsimp only;rw[Q6];rfl,rfl,rfl,rfl,rfl,rfl,trivial⟩,by dsimp only;omega⟩
    ·refine⟨rfl,rfl,rfl,?_,?_⟩
     ·refine .inl ?_;refine⟨by simp[q2,q3],by omega,by unfold maxLen;omega,rfl,rfl,rfl,rfl,?_⟩;refine .inl ?_;refine⟨by simp[q2,q3],by omega,by unfold maxLen;omega,rfl,?_⟩;refine .inl ?_;refine⟨by simp[q2,q3],by omega,by unfold maxLen;omega,((k+1:Nat):Int),wo,?_⟩;intro IR w3 K;exact⟨(k+1,w3),⟨OT,Y.tr K.cL,hE.rel K F⟩,Sub.gn [(7,12),(8,14),(9,15)] K ⟨by dsimp only;rw[PS,List.length_append,List.length_singleton];rfl,by dsimp only;rw[PS,List.map_append];rfl,by dsimp only;rw[PS,List.map_append];rfl,by dsimp only;rw[Q6];rfl,rfl,rfl,rfl,rfl,rfl,trivial⟩,by dsimp only;omega⟩
     ·refine⟨rfl,rfl,rfl,?_⟩;refine .inl ?_;refine⟨by simp[q2,q3],by omega,by unfold maxLen;omega,rfl,rfl,?_⟩;refine .inl ?_;refine⟨by simp[q2,q3],by omega,by unfold maxLen;omega,rfl,?_⟩;refine .inl ?_;refine⟨by simp[q2,q3],by omega,by unfold maxLen;omega,((k+1:Nat):Int),wo,?_⟩;intro IR w3 K;exact⟨(k+1,w3),⟨OT,Y.tr K.cL,hE.rel K F⟩,Sub.gn [(7,13),(8,14),(9,15)] K ⟨by dsimp only;rw[PS,List.length_append,List.length_singleton];rfl,by dsimp only;rw[PS,List.map_append];rfl,by dsimp only;rw[PS,List.map_append];rfl,by dsimp only;rw[Q6];rfl,rfl,rfl,rfl,rfl,rfl,trivial⟩,by dsimp only;omega⟩
   ·refine⟨.int .i64 (fj:Int),by simp[Ss],rfl,rfl,rfl,rfl,.slice aj n cj,by simpa using Sj,rfl,rfl,rfl,?_,?_⟩
    ·refine⟨.int .i64 (fj:Int),by simp[Ss],rfl,rfl,rfl,rfl,rfl,?_,?_⟩
     ·refine .inl ?_;refine⟨by simp[q2,q3],by omega,by unfold maxLen;omega,.int .i64 (fj:Int),by simp[Ss],rfl,rfl,rfl,rfl,?_,?_⟩
      ·refine .inl ?_;refine⟨by simp[q2,q3],by omega,by unfold maxLen;omega,.int .i64 (fj:Int),by simp[Ss],rfl,rfl,rfl,rfl,?_⟩;refine .inl ?_;refine⟨by simp[q2,q3],by omega,by unfold maxLen;omega,((k+1:Nat):Int),wo,?_⟩;intro IR w3 K;exact⟨(k+1,w3),⟨OT,Y.tr K.cL,hE.rel K F⟩,Sub.gn [(7,12),(8,13),(9,15)] K ⟨by dsimp only;rw[PS,List.length_append,List.length_singleton];rfl,by dsimp only;rw[PS,List.map_append];rfl,by dsimp only;rw[PS,List.map_append];rfl,by dsimp only;rw[Q6];rfl,rfl,rfl,rfl,rfl,rfl,trivial⟩,by dsimp only;omega⟩
      ·refine⟨rfl,rfl,?_⟩;refine .inl ?_;refine⟨by simp[q2,q3],by omega,by unfold maxLen;omega,rfl,?_⟩;refine .inl ?_;refine⟨by simp[q2,q3],by omega,by unfold maxLen;omega,((k+1:Nat):Int),wo,?_⟩;intro IR w3 K;exact⟨(k+1,w3),⟨OT,Y.tr K.cL,hE.rel K F⟩,Sub.gn [(7,12),(8,14),(9,15)] K ⟨by dsimp only;rw[PS,List.length_append,List.length_singleton];rfl,by dsimp only;rw[PS,List.map_append];rfl,by dsimp only;rw[PS,List.map_append];rfl,by dsimp only;rw[Q6];rfl,rfl,rfl,rfl,rfl,rfl,trivial⟩,by dsimp only;omega⟩
     ·refine⟨rfl,rfl,rfl,?_⟩;refine .inl ?_;refine⟨by simp[q2,q3],by omega,by unfold maxLen;omega,rfl,rfl,?_⟩;refine .inl ?_;refine⟨by simp[q2,q3],by omega,by unfold maxLen;omega,rfl,?_⟩;refine .inl ?_;refine⟨by simp[q2,q3],by omega,by unfold maxLen;omega,((k+1:Nat):Int),wo,?_⟩;intro IR w3 K;exact⟨(k+1,w3),⟨OT,Y.tr K.cL,hE.rel K F⟩,Sub.gn [(7,13),(8,14),(9,15)] K ⟨by dsimp only;rw[PS,List.length_append,List.length_singleton];rfl,by dsimp only;rw[PS,List.map_append];rfl,by dsimp only;rw[PS,List.map_append];rfl,by dsimp only;rw[Q6];rfl,rfl,rfl,rfl,rfl,rfl,trivial⟩,by dsimp only;omega⟩
    ·refine⟨rfl,rfl,.slice aj n cj,by simpa using Sj,rfl,rfl,rfl,rfl,rfl,rfl,?_⟩;refine .inl ?_;refine⟨by simp[q2,q3],by omega,by unfold maxLen;omega,rfl,rfl,?_⟩;refine .inl ?_;refine⟨by simp[q2,q3],by omega,by unfold maxLen;omega,rfl,?_⟩;refine .inl ?_;refine⟨by simp[q2,q3],by omega,by unfold maxLen;omega,((k+1:Nat):Int),wo,?_⟩;intro IR w3 K;exact⟨(k+1,w3),⟨OT,Y.tr K.cL,hE.rel K F⟩,Sub.gn [(7,13),(8,14),(9,15)] K ⟨by dsimp only;rw[PS,List.length_append,List.length_singleton];rfl,by dsimp only;rw[PS,List.map_append];rfl,by dsimp only;rw[PS,List.map_append];rfl,by dsimp only;rw[Q6];rfl,rfl,rfl,rfl,rfl,rfl,trivial⟩,by dsimp only;omega⟩
   ·refine⟨rfl,rfl,.slice aj n cj,by simpa using Sj,rfl,rfl,rfl,?_,?_⟩
    ·refine⟨rfl,rfl,rfl,?_,?_⟩
     ·refine .inl ?_;refine⟨by simp[q2,q3],by omega,by unfold maxLen;omega,rfl,rfl,rfl,rfl,?_⟩;refine .inl ?_;refine⟨by simp[q2,q3],by omega,by unfold maxLen;omega,rfl,?_⟩;refine .inl ?_;refine⟨by simp[q2,q3],by omega,by unfold maxLen;omega,((k+1:Nat):Int),wo,?_⟩;intro IR w3 K;exact⟨(k+1,w3),⟨OT,Y.tr K.cL,hE.rel K F⟩,Sub.gn [(7,12),(8,14),(9,15)] K ⟨by dsimp only;rw[PS,List.length_append,List.length_singleton];rfl,by dsimp only;rw[PS,List.map_append];rfl,by dsimp only;rw[PS,List.map_append];rfl,by dsimp only;rw[Q6];rfl,rfl,rfl,rfl,rfl,rfl,trivial⟩,by dsimp only;omega⟩
     ·refine⟨rfl,rfl,rfl,?_⟩;refine .inl ?_;refine⟨by simp[q2,q3],by omega,by unfold maxLen;omega,rfl,rfl,?_⟩;refine .inl ?_;refine⟨by simp[q2,q3],by omega,by unfold maxLen;omega,rfl,?_⟩;refine .inl ?_;refine⟨by simp[q2,q3],by omega,by unfold maxLen;omega,((k+1:Nat):Int),wo,?_⟩;intro IR w3 K;exact⟨(k+1,w3),⟨OT,Y.tr K.cL,hE.rel K F⟩,Sub.gn [(7,13),(8,14),(9,15)] K ⟨by dsimp only;rw[PS,List.length_append,List.length_singleton];rfl,by dsimp only;rw[PS,List.map_append];rfl,by dsimp only;rw[PS,List.map_append];rfl,by dsimp only;rw[Q6];rfl,rfl,rfl,rfl,rfl,rfl,trivial⟩,by dsimp only;omega⟩
    ·refine⟨rfl,rfl,.slice aj n cj,by simpa using Sj,rfl,rfl,rfl,rfl,rfl,rfl,?_⟩;refine .inl ?_;refine⟨by simp[q2,q3],by omega,by unfold maxLen;omega,rfl,rfl,?_⟩;refine .inl ?_;refine⟨by simp[q2,q3],by omega,by unfold maxLen;omega,rfl,?_⟩;refine .inl ?_;refine⟨by simp[q2,q3],by omega,by unfold maxLen;omega,((k+1:Nat):Int),wo,?_⟩;intro IR w3 K;exact⟨(k+1,w3),⟨OT,Y.tr K.cL,hE.rel K F⟩,Sub.gn [(7,13),(8,14),(9,15)] K ⟨by dsimp only;rw[PS,List.length_append,List.length_singleton];rfl,by dsimp only;rw[PS,List.map_append];rfl,by dsimp only;rw[PS,List.map_append];rfl,by dsimp only;rw[Q6];rfl,rfl,rfl,rfl,rfl,rfl,trivial⟩,by dsimp only;omega⟩
 have OT:k=cols:=aU R (by simpa using OT);subst OT;intro GT we re;have PK:∀u∈kY rv at_ k,u.oneCell'=true:=fun u hu=>by
  obtain⟨i,D⟩:=aQ hu;obtain⟨x,L⟩:∃x,(cZ (Fd,at_,fr) k).1[i]? =some x:=⟨_,aB (by have:=(aD.1 D).1;omega)⟩
  obtain⟨r,I,X⟩:=zp Pm Ou k (by omega) i u x D L;obtain⟨a,c,rfl⟩:=hE.form I;rfl
 have h7:=re.kQ (id:=7) (sz:=1) (m:=(cZ (Fd,at_,fr) k).2.1.length) rfl (by simp[q3]) (by unfold maxLen;omega) (by decide) PK;have h8:=re.kQ (id:=8) (sz:=1) (m:=(cZ (Fd,at_,fr) k).2.1.length) rfl (by simp) (by unfold maxLen;omega) (by decide) (fun u hu=>by obtain⟨c,_,rfl⟩:=aR.1 hu;rfl);have h9:=re.kQ (id:=9) (sz:=1) (m:=(cZ (Fd,at_,fr) k).2.1.length) rfl (by simp[q2]) (by unfold maxLen;omega) (by decide) (fun u hu=>by obtain⟨c,_,rfl⟩:=aR.1 hu;rfl);have Ov:=hE.rel re F;rw[hredS];refine⟨_,rfl,Y.tr re.cL,_,_,_,rfl,⟨kY rv at_ k,?_,by omega,fun i u x k1 k2=>?_⟩,?_,?_⟩
 ·rw[q1];exact h7.cF fun g G=>.inr G
 ·obtain⟨r,I,X⟩:=zp Pm Ou k (by omega) i u x k1 k2;refine((Ov.row r u x I X).read.cF (S':=Nw S w we) (C':=Nw S w we) (fun g G=>?_) fun g G=>Cv.nw G.1 re).c;exact Cv.nw (Cg (Ov.new g ⟨u,aE I,G⟩)) re
 ·exact h8.cF fun g G=>.inr G
 ·show iu we _ 1 _ _ (cZ (Fd,at_,fr) k).2.2.length;rw[q2];exact h9.cF fun g G=>.inr G
end Go.Ex
