/- Texts XTg to X134: lemmas, each with its conditions. -/
import Derived.Test.YtgkpbdkechfgmaaGreatP7
namespace Go.Ex
open Go Go.Sx Go.Proofs
variable{a:Act}{G9 next:Act->World->Prop}{la lx:Array Bool}{A':Array Bool->World->Prop}{Q:Exit->Act->World->Prop}{G8 M:List (List Rat)}{at_:List (Option Nat)}{fr:List Nat}{r row u y:List Rat}{rv:List Value}{b cols i j:Nat}{C S S0:Nat->Prop}{oi:Oper}{F9:Sem Next}{v:Value}{w:World}{AC:World->Prop}{s:tT}
section
variable{P:Program}{ops:Array Oper}{Q:Exit->Act->World->Prop}{md:Region.Mode}
theorem Er{oj:Oper}(hj:ops[j]? =some oj)(NN:oi.apart ops oj=true)
  (hsi:∀G b,oi.op≠ .select G b) (hsj:∀G b,oj.op≠ .select G b)
  (hQ:∀c a w,Q (.panic c) (a.put oi.dst v) w->Q (.panic c) a w)
  (hy:Region.wanted oi (yielded ops a.tmps)=true/\execOp a.eval oi=F9) (h:wpOp P ops Q j G9 (a.put oi.dst v) w):
  wpOp P ops Q j (fun a' J=>(Region.wanted oi (yielded ops a'.tmps)=true/\execOp a'.eval oi=F9)/\G9 (a'.put oi.dst v) J) a w:=by
 obtain⟨V,I,K⟩:=Oper.apart_spec NN;have br:∀(a:Act),(Region.wanted oi (yielded ops a.tmps)=true/\execOp a.eval oi=F9)->∀u,(Region.wanted oi (yielded ops (a.put oj.dst u).tmps)=true/\execOp (a.put oj.dst u).eval oi=F9):=fun a hy u=>
  ⟨(wanted_put oi a oj.dst u K).trans hy.1,(execOp_put oi hsi a oj.dst u K).trans hy.2⟩
 have keepD:∀d:Deferred,(Region.wanted oi (yielded ops ({a with defers:=d::a.defers}:Act).tmps)=true/\execOp ({a with defers:=d::a.defers}:Act).eval oi=F9):=fun d=>hy;unfold wpOp at*
 simp only[hj]at*
 rw[wanted_put oj a oi.dst v V]at h;split
 ·rename_i L;simp only[L,if_true]at h;rcases h with h|⟨OR,QG⟩
  case inr=>exact .inr ⟨by unfold Oper.asks at *;rw[execOp_put oj hsj a oi.dst v V]at OR;exact OR,QG⟩
  refine .inl ?_;unfold Oper.wp at*
  rw[execOp_put oj hsj a oi.dst v V]at h;generalize (execOp a.eval oj).run P w=r at*
  cases r with
  |ok n J=>
   cases n<;>simp only[Oper.upon]at h ⊢
   case value u=>exact⟨br a hy u,by rw[<-Act.put_comm a v u I];exact h⟩
   case skip=>exact⟨br a hy _,by rw[<-Act.put_comm a v undef I];exact h⟩
   case defer d=>
    refine⟨br ({a with defers:=d::a.defers}:Act) (keepD d) undef,?_⟩;rw[<-Act.put_comm _ v undef I,<-Act.put_defers];exact h
   case enter f args=>
    refine Calls.mono h fun e w'' Z=>?_
    cases e with
    |returned u=>exact⟨br a hy u,by rw[<-Act.put_comm a v u I];exact Z⟩
    |panicked c=>exact hQ _ _ _ Z
    |outgrown=>exact Z
   case row row args=>exact Rows.mono h fun u w'' Z=>⟨br a hy u,by rw[<-Act.put_comm a v u I];exact Z⟩
  |halt x J=>
   cases x<;>simp only[Oper.upon]at h ⊢
   case panic u=>exact hQ _ _ _ h
 ·rename_i L;simp only[L]at h;exact⟨br a hy _,by rw[<-Act.put_comm a v undef I];exact h⟩
def oP(P:Program)(md:Region.Mode)(ops:Array Oper)(Q:Exit->Act->World->Prop)(A':Array Bool->World->Prop):Nat->Array Bool->Act->World->Prop
 |0,lx,a,w=>A' lx w/\Region.ready md ops lx=[]/\Q .normal a w
 |fuel+1,lx,a,w=>A' lx w/\(Region.ready md ops lx=[]->Q .normal a w)/\∀i∈Region.ready md ops lx,wpOp P ops Q i (fun a' J=>oP P md ops Q A' fuel (lx.setIfInBounds i true) a' J) a w
theorem xO{A':Array Bool->World->Prop}:∀(fuel:Nat) (lx:Array Bool) (a:Act) (w:World),oP P md ops Q A' fuel lx a w->wpAny P md ops Q fuel lx a w
 |0,_,_,_,h=>h.2
 |fuel+1,_,_,_,h=>⟨h.2.1,fun i N=>wpOp_mono (fun _ _ h'=>xO fuel _ _ _ h') (h.2.2 i N)⟩
theorem j0{A' A8:Array Bool->World->Prop}(hIJ:∀lx w,A' lx w->A8 lx w):∀(fuel:Nat) (lx:Array Bool) (a:Act) (w:World),oP P md ops Q A' fuel lx a w->oP P md ops Q A8 fuel lx a w
 |0,_,_,_,h=>⟨hIJ _ _ h.1,h.2⟩
 |fuel+1,_,_,_,h=>⟨hIJ _ _ h.1,h.2.1,fun i N=>wpOp_mono (fun _ _ h'=>j0 hIJ fuel _ _ _ h') (h.2.2 i N)⟩
theorem Bd(hI:A' lx w)(hr:Region.ready md ops lx=[])(h:Q .normal a w):∀fuel,oP P md ops Q A' fuel lx a w
 |0=>⟨hI,hr,h⟩
 |_+1=>⟨hI,fun _=>h,by rw[hr];simp⟩
def lG(ops:Array Oper)(b:Nat)(lx:Array Bool):Prop:=∀(k:Nat) o,tb b k=true->ops[k]? =some o->rQ o.op=false->lx.getD k false=false
theorem iP(N:ops[i]? =some oi)(hR:rQ oi.op=true):lG ops b (lx.setIfInBounds i true)↔lG ops b lx:=by
 have key:∀(k:Nat) o,ops[k]? =some o->rQ o.op=false->(lx.setIfInBounds i true).getD k false=lx.getD k false:=fun k o ho hr=>by
  have:i≠k:=fun e=>by subst e;rw[N]at ho;injection ho with ho;subst ho;rw[hR]at hr;cases hr
  exact getD_set_ne false this
 exact⟨fun h k o V I K=>by rw[<-key k o I K];exact h k o V I K,fun h k o V I K=>by rw[key k o I K];exact h k o V I K⟩
theorem rN(N:ops[i]? =some oi)(hR:rQ oi.op=true)(LJ:∀(j:Nat) (o:Oper) G b,ops[j]? =some o->o.op≠ .select G b)
  (hQ:∀c a w,Q (.panic c) (a.put oi.dst v) w->Q (.panic c) a w) (OO:∀j,tb b j=true->∃oj e,ops[j]? =some oj/\e∈oj.after/\Region.binds md e=true/\(e.on=i\/tb b e.on=true))
  (hY:∀w,AC w->F9.run P w= .ok (.value v) w) (hI:∀lx w,A' (lx.setIfInBounds i true) w->A' lx w):
  ∀(fuel:Nat) (lx:Array Bool) (a:Act) (w:World),(∀j,tb b j=true->lx.getD j false=false)->
   (∀j oj,ops[j]? =some oj->j≠i->lx.getD j true=false->tb b j=false->oi.apart ops oj=true)->
   i∈Region.ready md ops lx->(Region.wanted oi (yielded ops a.tmps)=true/\execOp a.eval oi=F9)->
   oP P md ops Q (fun lx w=>A' lx w/\(lG ops b lx->AC w)) fuel (lx.setIfInBounds i true) (a.put oi.dst v) w->oP P md ops Q A' (fuel+1) lx a w:=by
 intro fuel;have run:∀(lx:Array Bool) (a:Act) (w:World),(∀j,tb b j=true->lx.getD j false=false)->(Region.wanted oi (yielded ops a.tmps)=true/\execOp a.eval oi=F9)->(A' (lx.setIfInBounds i true) w/\(lG ops b (lx.setIfInBounds i true)->AC w))->
   ∀G9:Act->World->Prop,G9 (a.put oi.dst v) w->wpOp P ops Q i G9 a w:=fun lx a w MZ hy hH G9 hK=>by
  have hYw:=hH.2 ((iP N hR).2 fun k o V _ _=>MZ k V);unfold wpOp;simp only[N,hy.1,if_true]
  refine .inl ?_;unfold Oper.wp;rw[hy.2,hY w hYw];exact hK
 induction fuel with
 |zero=>
  intro lx a w MZ _ hr hy H;refine⟨hI _ _ H.1.1,fun h=>(by rw[h]at hr;cases hr),fun j hj=>?_⟩;by_cases Lc:j=i
  ·subst Lc;exact run lx a w MZ hy H.1 _ (j0 (fun _ _ h=>h.1) 0 _ _ _ H)
  ·have:=ready_mono hj Lc;rw[H.2.1]at this
   cases this
 |succ fuel ih=>
  intro lx a w MZ NC hr hy H;refine⟨hI _ _ H.1.1,fun h=>(by rw[h]at hr;cases hr),fun j hj=>?_⟩;by_cases Lc:j=i
  ·subst Lc;exact run lx a w MZ hy H.1 _ (j0 (fun _ _ h=>h.1) (fuel+1) _ _ _ H)
  ·have V:=H.2.2 j (ready_mono hj Lc);obtain⟨QH,oj,Mv,NS⟩:=mem_ready.1 hj;have Me:tb b j=false:=by
    cases hb:tb b j with
    |false=>rfl
    |true=>
     exfalso;obtain⟨oj',e,No,Z,hbi,Pz⟩:=OO j hb;rw[Mv]at No;injection No with No;subst No;have V:=NS e Z hbi;rcases Pz with heq|Mn
     ·have h0:=(mem_ready.1 hr).1;rw[heq]at V;rcases aO i lx.size with h'|h'
      ·simp[h']at h0 V;rw[h0]at V;cases V
      ·simp[Array.getElem?_eq_none h']at V
     ·rw[MZ _ Mn]at V;cases V
   have I:=Er Mv (NC j oj Mv Lc QH Me) (fun G b=>LJ i oi G b N) (fun G b=>LJ j oj G b Mv) hQ hy V;have hbl':∀k,tb b k=true->(lx.setIfInBounds j true).getD k false=false:=fun k W=>by
    rw[getD_set_ne false (fun e=>(by subst e;rw[Me]at W;cases W))];exact MZ k W
   have Oq:∀k ok,ops[k]? =some ok->k≠i->(lx.setIfInBounds j true).getD k true=false->tb b k=false->oi.apart ops ok=true:=fun k ok W hki QC Of=>by
    refine NC k ok W hki ?_ Of;by_cases Ns:j=k
    ·subst Ns;exact QH
    ·rw[getD_set_ne true Ns]at QC;exact QC
   refine wpOp_mono (fun a' J K=>?_) I;refine ih (lx.setIfInBounds j true) a' J hbl' Oq (ready_mono hr (Ne.symm Lc)) K.1 ?_;rw[Array.setIfInBounds_comm _ _ Lc];exact K.2
end
structure Gh where
 u:Nat
 d:Nat
 T:Nat
 b:Nat
def zx(τ:l9)(B:Nat):List Gh->Env->Hp->Nat->Iv->World->Prop->Prop
 |[],_,_,_,_,_,G9=>G9
 |g::r,l,H,nx,iv,w,G9=>match eX l g.u with
  |some su=>xw τ B g.T su H nx iv w (fun v=>eX l g.d=some v/\zx τ B r l H nx iv w G9)
  |none=>False
inductive Tg where
 |nil
 |x (i:Nat) (t:Tg)
 |two (i:Nat) (t:Tg) (j:Nat) (u:Tg)
 |three (i:Nat) (t:Tg) (j:Nat) (u:Tg) (k:Nat) (v:Tg)
 |ld (i b:Nat) (t:Tg)
 |wi (id:Nat) (t:Tg)
def yr(j:Nat):List Gh->List Gh
 |[]=>[]
 |g::r=>match tb g.b j with
  |true=>yr j r
  |false=>g::yr j r
def stepG(τ:l9)(B:Nat)(rd:Bool)(C8:List Gh)(j:Nat)(l:Env)(H:Hp)(nx:Nat)(iv:Iv)(w:World)(G9:List Gh->Prop):Prop:=match rd with
 |true=>G9 C8
 |false=>zx τ B (yr j C8) l H nx iv w (G9 (yr j C8))
def Be(ops:Array Oper)(m i:Nat)(oi:Oper)(b:Nat):List Oper->Nat->Bool
 |[],_=>true
 |oj::r,j=>(Nat.beq j i||tb m j||tb b j||oi.apart ops oj)&&Be ops m i oi b r (j+1)
def Dr(m i u d:Nat):List Oper->Nat->Bool
 |[],_=>true
 |oj::r,j=>(tb m j||match oj.dst with
   |none=>true
   |some e=> !Nat.beq e u&&(Nat.beq j i|| !Nat.beq e d))&&Dr m i u d r (j+1)
def HP(o:Oper):Option (Nat×Nat×Nat):=match o with
 |⟨some d,.load T (.tmp u),_,_,_,none⟩=>some (d,T,u)
 |_=>none
def kR(ops:Array Oper):Tg->Array Bool->Bool
 | .nil,lx=>(Region.ready .any ops lx).isEmpty
 | .x i t,lx=>match ops[i]? with
  |none=>false
  |some o=>(Region.ready .any ops lx).contains i&&((Region.ready .any ops lx).all (fun j=>Nat.beq j i)||Dt o.op&&o.guard.isNone&&Be ops (gS lx.toList 0) i o (xQ (gS lx.toList 0) i ops.toList 0 0) ops.toList 0)&&kR ops t (lx.setIfInBounds i true)
 | .two i t j u,lx=>match Region.ready .any ops lx with
  |[a,b]=>Nat.beq a i&&(Nat.beq b j&&(kR ops t (lx.setIfInBounds i true)&&kR ops u (lx.setIfInBounds j true)))
  |_=>false
 | .three i t j u k v,lx=>match Region.ready .any ops lx with
  |[a,b,c]=>Nat.beq a i&&(Nat.beq b j&&(Nat.beq c k&&(kR ops t (lx.setIfInBounds i true)&&(kR ops u (lx.setIfInBounds j true)&&kR ops v (lx.setIfInBounds k true)))))
  |_=>false
 | .ld i b t,lx=>match ops[i]? with
  |none=>false
  |some o=>match HP o with
   |none=>false
   |some (d,_,u)=>(Region.ready .any ops lx).contains i&&Nat.beq b (xQ (gS lx.toList 0) i ops.toList 0 0)&&Be ops (gS lx.toList 0) i o b ops.toList 0&&Dr (gS lx.toList 0) i u d ops.toList 0&&kR ops t (lx.setIfInBounds i true)
 | .wi _ t,lx=>kR ops t lx
def xl(P:Program)(τ:l9)(B:Nat)(all:List Oper):Tg->List Gh->Env->Hp->Nat->Iv->World->KT->Prop
 | .nil,_,l,H,nx,iv,w,G9=>G9 l H nx iv w
 | .x i t,C8,l,H,nx,iv,w,G9=>uN all i (fun o=>ig (!eu o) P τ B all o l H nx iv w (fun l' H' Ku E J=>stepG τ B (rQ o.op) C8 i l' H' Ku E J (fun G'=>xl P τ B all t G' l' H' Ku E J G9)))
 | .two i t j u,C8,l,H,nx,iv,w,G9=>uN all i (fun o=>ig (!eu o) P τ B all o l H nx iv w (fun l' H' Ku E J=>stepG τ B (rQ o.op) C8 i l' H' Ku E J (fun G'=>xl P τ B all t G' l' H' Ku E J G9)))/\
   uN all j (fun o=>ig (!eu o) P τ B all o l H nx iv w (fun l' H' Ku E J=>stepG τ B (rQ o.op) C8 j l' H' Ku E J (fun G'=>xl P τ B all u G' l' H' Ku E J G9)))
 | .three i t j u k v,C8,l,H,nx,iv,w,G9=>uN all i (fun o=>ig (!eu o) P τ B all o l H nx iv w (fun l' H' Ku E J=>stepG τ B (rQ o.op) C8 i l' H' Ku E J (fun G'=>xl P τ B all t G' l' H' Ku E J G9)))/\
   (uN all j (fun o=>ig (!eu o) P τ B all o l H nx iv w (fun l' H' Ku E J=>stepG τ B (rQ o.op) C8 j l' H' Ku E J (fun G'=>xl P τ B all u G' l' H' Ku E J G9)))/\
   uN all k (fun o=>ig (!eu o) P τ B all o l H nx iv w (fun l' H' Ku E J=>stepG τ B (rQ o.op) C8 k l' H' Ku E J (fun G'=>xl P τ B all v G' l' H' Ku E J G9))))
 | .ld i b t,C8,l,H,nx,iv,w,G9=>uN all i (fun o=>match HP o with
  |some (d,T,u)=>match eX l u with
   |some su=>xw τ B T su H nx iv w (fun v=>xl P τ B all t (⟨u,d,T,b⟩::C8) ((d,v)::l) H nx iv w G9)
   |none=>False
  |none=>False)
 | .wi id t,C8,l,H,nx,iv,w,G9=>∃H' b,cO H id=some b/\b≠ .dead/\rS H H'/\yx id H'=true/\∀O J,Rel H nx iv B w O J->(O id).nil=false/\∃l',(∀u v,eX l' u=some v->v.sc nx/\∃v',eX l u=some v'/\v'.den O=v.den O)/\xl P τ B all t C8 l' H' nx (((O id).g,(O id).g+1)::iv) J G9
section
variable{P:Program}{τ:l9}{ops:Array Oper}{B n nx:Nat}{l:Env}{H:Hp}{iv:Iv}{w J:World}{O:Nat->Sx.cd}{a:Act}
theorem Jv(hτ:ey P τ){o:Oper}(ho:ops[i]? =some o)(hd:∀d,o.dst=some d->d<n){G9:KT}
  (V:ig (!eu o) P τ B ops.toList o l H nx iv w G9) (sat:Sat n l H nx iv B w O a J)
  (A:∀l' H' Ku E Y GE x w3,G9 l' H' Ku E Y->Sat n l' H' Ku E B Y GE (a.put o.dst x) w3->(rQ o.op=true->w3=J)->next (a.put o.dst x) w3):
  wpOp P ops Q i next a J:=by
 unfold ig at V;refine s8 ho ?_;rcases lg sat V with⟨L,l1,I,sat1⟩|⟨L,l1,I,sat1⟩
 ·refine .inl ⟨L,?_⟩
  cases hR:rQ o.op with
  |true=>
   obtain⟨v,hK,Mw,Kv⟩:=(kV hτ I sat1 hR).resolve_right (fun hh=>by have:=hh.1;rw[pQ hR]at this;cases this);obtain⟨l2,K,sat2⟩:=iR sat1 hK hd Mw;exact ko (Kv J (.inr sat1.rel)) (A _ _ _ _ _ _ _ _ K sat2 fun _=>rfl)
  |false=>
   have nr:∀w3:World,rQ o.op=true->w3=J:=fun w3 h=>by rw[hR]at h;cases h
   cases hA:HQ o.op with
   |true=>
    obtain⟨b,v,mk,obj,hK,ML,hb,hv,Qs,Lv,Qc⟩:=lh hτ I sat1 hA;have LP:Rel ((nx,b)::H) (nx+1) iv B w (Sx.fI O nx ⟨J.heap.size,0,false⟩) (J.alloc obj):=
     sat1.rel.push b _ rfl rfl rfl (by simp) (fun k W=>heap_alloc_old _ _ W) (fun _=>⟨aE _,by simp⟩) (Lv _ _ (heap_alloc_new _ _)) hb
    obtain⟨l2,K,sat2⟩:=iR (sat1.next LP (Nat.le_succ _) (fun id LK=>ew id LK)) hK hd hv;rw[Qs]at sat2;exact ko (v:=mk J.heap.size) (Y:=J.alloc obj) (Qc J) (A _ _ _ _ _ _ _ _ K sat2 (by rw[hR];exact fun h=>by cases h))
   |false=>
    cases hH:oq o with
    |false=>
     rw[oz hH]at I;refine uS I sat1 hR hA hH fun v Y hK Z hs=>?_;obtain⟨l2,K,sat2⟩:=iR (v:=.o (.v v)) hs hK hd trivial;exact A _ _ _ _ _ _ _ _ K sat2 (by rw[hR];exact fun h=>by cases h)
    |true=>
     refine pR hτ I sat1 fun v H' Ku E Y GE w3 hK sat2 hv=>?_;obtain⟨l2,K,sat3⟩:=iR sat2 hK hd hv;exact A _ _ _ _ _ _ _ _ K sat3 (by rw[hR];exact fun h=>by cases h)
 ·obtain⟨l2,h4,sat3⟩:=iR sat1 I hd trivial;exact .inr ⟨L,A _ _ _ _ _ _ _ _ h4 sat3 fun _=>rfl⟩
theorem tP(hτ:ey P τ)(sat:Sat n l H nx iv B w O a J){G9:Prop}:∀(C8:List Gh),zx τ B C8 l H nx iv w G9->
  G9/\∀g∈C8,∃su sv,eX l g.u=some su/\eX l g.d=some sv/\(Instr.loadAt g.T (su.den O)).run P J= .ok (sv.den O) J
 |[],h=>⟨h,fun g R=>by cases R⟩
 |g::r,h=>by
  unfold zx at h;split at h
  ·rename_i su hsu;obtain⟨v,⟨V,I⟩,hv,Kv⟩:=lz hτ sat.rel (sat.sc _ _ hsu) h;obtain⟨K,h4⟩:=tP hτ sat r I;refine⟨K,fun g' R=>?_⟩;rcases List.mem_cons.1 R with rfl|R
   ·exact⟨su,v,hsu,V,Kv J sat.rel⟩
   ·exact h4 g' R
  ·exact h.elim
theorem oo{j:Nat}{g:Gh}:∀{C8:List Gh},g∈C8->tb g.b j=false->g∈yr j C8
 |g'::r,h,hb=>by
  unfold yr;rcases List.mem_cons.1 h with rfl|h
  ·rw[hb];exact aH
  ·split
   ·exact oo h hb
   ·exact aB _ (oo h hb)
abbrev Zh:=Gh×Value×Value
def Yz(P:Program)(z:Zh)(w:World):Prop:=(Instr.loadAt z.1.T z.2.1).run P w= .ok z.2.2 w
structure JW(ops:Array Oper)(la:Array Bool)(a:Act)(z:Zh):Prop where
 u:a.tmps[z.1.u]? =some z.2.1
 d:a.tmps[z.1.d]? =some z.2.2
 no:∀(j:Nat) oj,ops[j]? =some oj->la.getD j false=false->oj.dst≠some z.1.u/\oj.dst≠some z.1.d
theorem JW.step{z:Zh}{oj:Oper}{x:Value}(h:JW ops la a z)(hj:ops[j]? =some oj)(hl:la.getD j false=false):JW ops (la.setIfInBounds j true) (a.put oj.dst x) z:=by
 obtain⟨V,I⟩:=h.no j oj hj hl;refine⟨oT V h.u,oT I h.d,fun k ok W hlk=>h.no k ok W ?_⟩;by_cases Ns:j=k
 ·subst Ns;exact hl
 ·rwa [getD_set_ne false Ns]at hlk
def IZ(P:Program)(ops:Array Oper)(F8:List Zh)(lx:Array Bool)(w:World):Prop:=∀z∈F8,lG ops z.1.b lx->Yz P z w
theorem rO(h:i∈Region.ready .any ops la):la.getD i false=false:=by
 have:=(dc.1 h).1;rw[aX,this];rfl
theorem mi{o:Oper}(ho:ops[i]? =some o)(hl:la[i]? =some false)(h:lG ops b (la.setIfInBounds i true)):lG ops b la/\(rQ o.op=false->tb b i=false):=by
 refine⟨fun k ok V I K=>?_,fun hR=>?_⟩
 ·by_cases hik:i=k
  ·subst hik;rw[aX,hl];rfl
  ·rw[<-getD_set_ne false hik];exact h k ok V I K
 ·cases hb:tb b i with
  |false=>rfl
  |true=>
   have:=h i o hb ho hR;have N:=(aW.1 hl).1;rw[aX,Array.getElem?_setIfInBounds_self_of_lt N]at this
   cases this
theorem yt(hτ:ey P τ){o:Oper}{C8:List Gh}{F8:List Zh}(ho:ops[i]? =some o)(hd:∀d,o.dst=some d->d<n)(hr:i∈Region.ready .any ops la){G9:Env->Hp->Nat->Iv->World->List Gh->Prop}
  (V:ig (!eu o) P τ B ops.toList o l H nx iv w (fun l' H' Ku E J=>stepG τ B (rQ o.op) C8 i l' H' Ku E J (G9 l' H' Ku E J))) (sat:Sat n l H nx iv B w O a J)
  (hG:∀z∈F8,lG ops z.1.b la->z.1∈C8) (hZ:∀z∈F8,JW ops la a z) (hI:IZ P ops F8 la J)
  (A:∀l' H' Ku E Y GE x w3 G',G9 l' H' Ku E Y G'->Sat n l' H' Ku E B Y GE (a.put o.dst x) w3->(∀z∈F8,lG ops z.1.b (la.setIfInBounds i true)->z.1∈G')->(∀z∈F8,JW ops (la.setIfInBounds i true) (a.put o.dst x) z)->IZ P ops F8 (la.setIfInBounds i true) w3->next (a.put o.dst x) w3):
  wpOp P ops Q i next a J:=by
 have hl:=(dc.1 hr).1;refine Jv hτ ho hd V sat fun l' H' Ku E Y GE x w3 hK sat2 L=>?_;have PK:∀z∈F8,JW ops (la.setIfInBounds i true) (a.put o.dst x) z:=fun z hz=>(hZ z hz).step ho (rO hr)
 cases hR:rQ o.op with
 |true=>
  rw[hR]at hK;have L:=L hR;subst L;refine A _ _ _ _ _ _ _ _ C8 hK sat2 (fun z hz h=>hG z hz (mi ho hl h).1) PK fun z hz h=>hI z hz (mi ho hl h).1
 |false=>
  rw[hR]at hK;obtain⟨I,K⟩:=tP hτ sat2 _ hK;refine A _ _ _ _ _ _ _ _ _ I sat2 (fun z hz h=>?_) PK fun z hz h=>?_
  ·obtain⟨k1,k2⟩:=mi ho hl h;exact oo (hG z hz k1) (k2 hR)
  ·obtain⟨k1,k2⟩:=mi ho hl h;obtain⟨su,sv,e1,e2,e3⟩:=K z.1 (oo (hG z hz k1) (k2 hR));have h4:=sat2.env _ _ e1;have h5:=sat2.env _ _ e2;rw[(PK z hz).u]at h4;rw[(PK z hz).d]at h5;injection h4 with h4;injection h5 with h5;unfold Yz;rw[h4,h5];exact e3
end
section
variable{P:Program}{τ:l9}{ops:Array Oper}{B n nx:Nat}{l:Env}{H:Hp}{iv:Iv}{w J:World}{O:Nat->Sx.cd}{a:Act}
theorem qF{m i b:Nat}{oi:Oper}:∀(l:List Oper) (k:Nat),Be ops m i oi b l k=true->∀(j:Nat) oj,l[j]? =some oj->k+j≠i->tb m (k+j)=false->tb b (k+j)=false->oi.apart ops oj=true
 |[],_,_,j,oj,h,_,_,_=>by cases h
 |o::r,k,h,j,oj,hj,V,I,K=>by
  simp only[Be,aZ,Bool.or_eq_true]at h
  cases j with
  |zero=>
   injection hj with hj;subst hj;rcases h.1 with((h4|h4)|h4)|h4
   ·exact absurd (bX h4) V
   ·rw[bj]at I;rw[I]at h4;cases h4
   ·rw[bj]at K;rw[K]at h4;cases h4
   ·exact h4
  |succ j=>
   have e:k+(j+1)=k+1+j:=by omega
   rw[e]at V I K;exact qF r (k+1) h.2 j oj (by simpa using hj) V I K
theorem xP{m i u d:Nat}:∀(l:List Oper) (k:Nat),Dr m i u d l k=true->∀(j:Nat) oj,l[j]? =some oj->tb m (k+j)=false->oj.dst≠some u/\(k+j≠i->oj.dst≠some d)
 |[],_,_,j,oj,h,_=>by cases h
 |o::r,k,h,j,oj,hj,I=>by
  simp only[Dr,aZ,Bool.or_eq_true]at h
  cases j with
  |zero=>
   injection hj with hj;subst hj;rcases h.1 with h4|h4
   ·rw[bj]at I;rw[I]at h4;cases h4
   ·cases ho:o.dst with
    |none=>exact⟨by simp,by simp⟩
    |some e=>
     rw[ho]at h4;simp only[aZ,Bool.not_eq_true',Bool.or_eq_true]at h4;refine⟨fun hh=>?_,fun Kq hh=>?_⟩
     ·injection hh with hh;subst hh;have:=h4.1;simp at this
     ·injection hh with hh;subst hh;rcases h4.2 with h5|h5
      ·exact Kq (bX h5)
      ·simp at h5
  |succ j=>
   have e:k+(j+1)=k+1+j:=by omega
   rw[e]at I ⊢;exact xP r (k+1) h.2 j oj (by simpa using hj) I
theorem Es{o:Oper}{d T u:Nat}(h:HP o=some (d,T,u)):o.dst=some d/\o.op= .load T (.tmp u)/\o.guard=none:=by
 unfold HP at h;split at h
 ·injection h with h;injection h with V I;injection I with I K;subst V I K;exact⟨rfl,rfl,rfl⟩
 ·cases h
theorem iF(hτ:ey P τ)(Kt:∀(j:Nat) o,ops[j]? =some o->∀d,o.dst=some d->d<n)(LJ:∀(j:Nat) (o:Oper) G b,ops[j]? =some o->o.op≠ .select G b){G9:KT}{Q0:Act->World->Prop}
  (hQ:∀l' H' Ku E Y GE a' w3,G9 l' H' Ku E Y->Sat n l' H' Ku E B Y GE a' w3->Q0 a' w3):
  ∀(t:Tg) (fuel:Nat) (la:Array Bool) (l:Env) (H:Hp) (nx:Nat) (iv:Iv) (w:World) (O:Nat->Sx.cd) (a:Act) (J:World) (C8:List Gh) (F8:List Zh),Ia la<=fuel->la.size=ops.size->kR ops t la=true->xl P τ B ops.toList t C8 l H nx iv w G9->Sat n l H nx iv B w O a J->
   (∀z∈F8,lG ops z.1.b la->z.1∈C8)->(∀z∈F8,JW ops la a z)->IZ P ops F8 la J->oP P .any ops (QN Q0) (IZ P ops F8) fuel la a J
 | .nil,fuel,la,l,H,nx,iv,w,O,a,J,C8,F8,_,_,hc,h,s,hG,hZ,hI=>by
  simp only[kR,List.isEmpty_iff]at hc;exact Bd hI hc ⟨rfl,hQ _ _ _ _ _ _ _ _ h s⟩ fuel
 | .x i t,fuel,la,l,H,nx,iv,w,O,a,J,C8,F8,hf,hz,hc,h,s,hG,hZ,hI=>by
  unfold kR at hc;obtain⟨o,ho,V⟩:=gF h;rw[bA]at ho;simp only[ho,aZ,Bool.or_eq_true]at hc;obtain⟨⟨c1,c2⟩,c3⟩:=hc;have c1:i∈Region.ready .any ops la:=by simpa using c1
  obtain⟨NR,-⟩:=dc.1 c1;have QC:=jc NR;obtain⟨f,rfl⟩:∃f,fuel=f+1:=⟨fuel-1,by omega⟩
  have LQ:(la.setIfInBounds i true).size=ops.size:=by rw[bT,hz]
  rcases c2 with c2|⟨⟨hP,NP⟩,c4⟩
  ·refine⟨hI,fun h0=>(by rw[h0]at c1;cases c1),fun j hj=>?_⟩;have Lc:j=i:=dS (List.all_eq_true.1 c2 j hj);subst Lc;exact yt hτ ho (Kt j o ho) c1 V s hG hZ hI fun _ _ _ _ _ _ _ _ G' W hs Q9 Qa Qb=>iF hτ Kt LJ hQ t f _ _ _ _ _ _ _ _ _ G' F8 (by omega) LQ c3 W hs Q9 Qa Qb
  ·have hR:rQ o.op=true:=by
    unfold Dt at hP;split at hP
    ·cases hP
    ·exact hP
   have hm:=tn la;have hb:=lJ (ops:=ops) (m:=gS la.toList 0) (i:=i) ops.toList 0 0 (fun n o A=>by rw[aU];rwa [bA]at A) (fun j hj=>by rw[qI]at hj;cases hj);generalize xQ (gS la.toList 0) i ops.toList 0 0=b at*
   have OH:o.guard=none:=by simpa using NP
   unfold ig qJ at V;rw[OH]at V;obtain⟨v,hK,Mw,Kv⟩:=(kV hτ V s hR).resolve_right (fun hh=>by have:=hh.1;rw[pQ hR]at this;cases this);obtain⟨l2,K,sat2⟩:=iR s hK (Kt i o ho) Mw;rw[hR]at K;have L:Region.wanted o (yielded ops a.tmps)=true:=by simp[Region.wanted,OH]
   refine rN (v:=v.den O) (b:=b) (AC:=fun _=>True) (F9:=execOp a.eval o) ho hR LJ (fun c a w hq=>absurd hq.1 (by simp)) (fun j hj=>(hb j hj).2.2) (fun w3 _=>Kv w3 (.inl hP)) (fun lx w h z hz ha=>h z hz ((iP ho hR).2 ha))
    f la a J (fun j hj=>(hm j).symm.trans (hb j hj).1) (fun j oj Mv Lc hl W=>qF ops.toList 0 c4 j oj (by rw[bA];exact Mv) (by omega) (by
     have hj:=(aW.1 Mv).1
     rw[aU,hm,lH (by omega) false true];exact hl) (by rw[aU];exact W)) c1 ⟨L,rfl⟩ ?_
   refine j0 (fun lx w h=>⟨h,fun _=>trivial⟩) _ _ _ _ ?_;exact iF hτ Kt LJ hQ t f _ _ _ _ _ _ _ _ _ C8 F8 (by omega) LQ c3 K sat2 (fun z hz h=>hG z hz ((iP ho hR).1 h)) (fun z hz=>(hZ z hz).step ho (rO c1)) (fun z hz h=>hI z hz ((iP ho hR).1 h))
 | .two i t k u,fuel,la,l,H,nx,iv,w,O,a,J,C8,F8,hf,hz,hc,h,s,hG,hZ,hI=>by
  simp only[kR]at hc;split at hc
  ·rename_i x y hr;simp only[aZ]at hc;obtain⟨c1,c2,c3,c4⟩:=hc;have F:=bX c1;have hy:=bX c2;subst F;subst hy;obtain⟨V,I⟩:=h;obtain⟨o1,Qq,V⟩:=gF V;obtain⟨o2,Pe,I⟩:=gF I;rw[bA]at Qq Pe;have Ov:x∈Region.ready .any ops la:=by rw[hr];simp
   have SH:y∈Region.ready .any ops la:=by rw[hr];simp
   have u1:=jc (dc.1 Ov).1;have u2:=jc (dc.1 SH).1;obtain⟨f,rfl⟩:∃f,fuel=f+1:=⟨fuel-1,by omega⟩
   refine⟨hI,fun h0=>(by rw[hr]at h0;cases h0),fun j hj=>?_⟩;rw[hr,List.mem_cons,bK]at hj;rcases hj with rfl|rfl
   ·exact yt hτ Qq (Kt _ o1 Qq) Ov V s hG hZ hI fun _ _ _ _ _ _ _ _ G' W hs Q9 Qa Qb=>iF hτ Kt LJ hQ t f _ _ _ _ _ _ _ _ _ G' F8 (by omega) (by rw[bT,hz]) c3 W hs Q9 Qa Qb
   ·exact yt hτ Pe (Kt _ o2 Pe) SH I s hG hZ hI fun _ _ _ _ _ _ _ _ G' W hs Q9 Qa Qb=>iF hτ Kt LJ hQ u f _ _ _ _ _ _ _ _ _ G' F8 (by omega) (by rw[bT,hz]) c4 W hs Q9 Qa Qb
  ·cases hc
 | .three i t k u m v,fuel,la,l,H,nx,iv,w,O,a,J,C8,F8,hf,hz,hc,h,s,hG,hZ,hI=>by
  simp only[kR]at hc;split at hc
  ·rename_i x y z9 hr;simp only[aZ]at hc;obtain⟨c1,c2,c6,c3,c4,c5⟩:=hc;have F:=bX c1;have hy:=bX c2;have hz9:=bX c6;subst F;subst hy;subst hz9;obtain⟨V,I,K⟩:=h;obtain⟨o1,Qq,V⟩:=gF V;obtain⟨o2,Pe,I⟩:=gF I;obtain⟨o3,ho3,K⟩:=gF K;rw[bA]at Qq Pe ho3;have Ov:x∈Region.ready .any ops la:=by rw[hr];simp
   have SH:y∈Region.ready .any ops la:=by rw[hr];simp
   have hm3:z9∈Region.ready .any ops la:=by rw[hr];simp
   have u1:=jc (dc.1 Ov).1;have u2:=jc (dc.1 SH).1;have u3:=jc (dc.1 hm3).1;obtain⟨f,rfl⟩:∃f,fuel=f+1:=⟨fuel-1,by omega⟩
   refine⟨hI,fun h0=>(by rw[hr]at h0;cases h0),fun j hj=>?_⟩;rw[hr,List.mem_cons,List.mem_cons,bK]at hj;rcases hj with rfl|rfl|rfl
   ·exact yt hτ Qq (Kt _ o1 Qq) Ov V s hG hZ hI fun _ _ _ _ _ _ _ _ G' W hs Q9 Qa Qb=>iF hτ Kt LJ hQ t f _ _ _ _ _ _ _ _ _ G' F8 (by omega) (by rw[bT,hz]) c3 W hs Q9 Qa Qb
   ·exact yt hτ Pe (Kt _ o2 Pe) SH I s hG hZ hI fun _ _ _ _ _ _ _ _ G' W hs Q9 Qa Qb=>iF hτ Kt LJ hQ u f _ _ _ _ _ _ _ _ _ G' F8 (by omega) (by rw[bT,hz]) c4 W hs Q9 Qa Qb
   ·exact yt hτ ho3 (Kt _ o3 ho3) hm3 K s hG hZ hI fun _ _ _ _ _ _ _ _ G' W hs Q9 Qa Qb=>iF hτ Kt LJ hQ v f _ _ _ _ _ _ _ _ _ G' F8 (by omega) (by rw[bT,hz]) c5 W hs Q9 Qa Qb
  ·cases hc
 | .ld i b t,fuel,la,l,H,nx,iv,w,O,a,J,C8,F8,hf,hz,hc,h,s,hG,hZ,hI=>by
  unfold kR at hc;obtain⟨o,ho,V⟩:=gF h;rw[bA]at ho;simp only[ho]at hc
  cases Ni:HP o with
  |none=>rw[Ni]at hc;cases hc
  |some q=>
   obtain⟨d,T,u⟩:=q;rw[Ni]at hc V;simp only[aZ]at hc;obtain⟨⟨⟨⟨c1,c2⟩,c4⟩,c5⟩,c3⟩:=hc;obtain⟨e1,e2,e3⟩:=Es Ni;have c1:i∈Region.ready .any ops la:=by simpa using c1
   obtain⟨NR,-⟩:=dc.1 c1;have QC:=jc NR;obtain⟨f,rfl⟩:∃f,fuel=f+1:=⟨fuel-1,by omega⟩
   have LQ:(la.setIfInBounds i true).size=ops.size:=by rw[bT,hz]
   have hR:rQ o.op=true:=by rw[e2];rfl
   have hm:=tn la;have hb:=lJ (ops:=ops) (m:=gS la.toList 0) (i:=i) ops.toList 0 0 (fun n o A=>by rw[aU];rwa [bA]at A) (fun j hj=>by rw[qI]at hj;cases hj);rw[<-bX c2]at hb
   cases hsu:eX l u with
   |none=>simp only[hsu]at V
   |some su=>
    simp only[hsu]at V;obtain⟨v,hK,Mw,Kv⟩:=lz hτ s.rel (s.sc _ _ hsu) V;have hau:=s.env _ _ hsu;have Qd:=Kt i o ho d e1;have sat2:Sat n ((d,v)::l) H nx iv B w O (a.put o.dst (v.den O)) J:=by rw[e1];exact s.put Qd Mw
    have L:Region.wanted o (yielded ops a.tmps)=true:=by simp[Region.wanted,e3]
    have MV:a.eval (.tmp u)=su.den O:=by rw[Act.eval,aX,hau];rfl
    have hui:tb (gS la.toList 0) i=false:=by rw[hm];exact rO c1
    have Of:=xP ops.toList 0 c5;refine rN (v:=v.den O) (b:=b) (AC:=Yz P (⟨u,d,T,b⟩,su.den O,v.den O)) (F9:=execOp a.eval o) ho hR LJ (fun c a w hq=>absurd hq.1 (by simp)) (fun j hj=>(hb j hj).2.2) (fun w3 hY=>?_) (fun lx w h z hz ha=>h z hz ((iP ho hR).2 ha))
     f la a J (fun j hj=>(hm j).symm.trans (hb j hj).1) (fun j oj Mv Lc hl W=>qF ops.toList 0 c4 j oj (by rw[bA];exact Mv) (by omega) (by
      have hj:=(aW.1 Mv).1
      rw[aU,hm,lH (by omega) false true];exact hl) (by rw[aU];exact W)) c1 ⟨L,rfl⟩ ?_
    ·unfold Yz at hY;obtain⟨dst,op,ty,pos,after,guard⟩:=o;simp only at e2;subst e2;simp only[execOp,MV]
     exact kX hY
    ·refine j0 (A':=IZ P ops ((⟨u,d,T,b⟩,su.den O,v.den O)::F8)) (fun lx w h=>⟨fun z hz=>h z (aB _ hz),h _ aH⟩) _ _ _ _ ?_;refine iF hτ Kt LJ hQ t f _ _ _ _ _ _ _ _ _ (⟨u,d,T,b⟩::C8) ((⟨u,d,T,b⟩,su.den O,v.den O)::F8) (by omega) LQ c3 hK sat2 (fun z hz h=>?_) (fun z hz=>?_) (fun z hz h=>?_)
     ·rcases List.mem_cons.1 hz with rfl|hz
      ·exact aH
      ·exact aB _ (hG z hz ((iP ho hR).1 h))
     ·rcases List.mem_cons.1 hz with rfl|hz
      ·have h7:=(Of i o (by rw[bA];exact ho) (by rw[aU];exact hui)).1;refine⟨oT h7 hau,?_,fun j oj Mv PX=>?_⟩
       ·rw[e1];show(a.tmps.setIfInBounds d _)[d]? =_;rw[Array.getElem?_setIfInBounds_self_of_lt (by rw[s.size];exact Qd)]
       ·have Lc:i≠j:=fun e=>by
         subst e;have N:=(aW.1 NR).1;rw[aX,Array.getElem?_setIfInBounds_self_of_lt N]at PX
         cases PX
        rw[getD_set_ne false Lc]at PX;obtain⟨k1,k2⟩:=Of j oj (by rw[bA];exact Mv) (by rw[aU,hm];exact PX);exact⟨k1,k2 (by omega)⟩
      ·exact(hZ z hz).step ho (rO c1)
     ·rcases List.mem_cons.1 hz with rfl|hz
      ·exact Kv J s.rel
      ·exact hI z hz ((iP ho hR).1 h)
 | .wi id t,fuel,la,l,H,nx,iv,w,O,a,J,C8,F8,hf,hz,hc,h,s,hG,hZ,hI=>by
  obtain⟨H',b,LK,hd,hs,ho,h⟩:=h;obtain⟨A,l',hl,h⟩:=h _ _ s.rel;exact iF hτ Kt LJ hQ t fuel la l' H' nx _ J O a J C8 F8 hf hz hc h ⟨s.rel.free LK hd A hs ho,s.size,s.defers,fun u v hv=>by obtain⟨-,v',V,I⟩:=hl u v hv;rw[<-I];exact s.env u v' V,fun u v hv=>(hl u v hv).1⟩ hG hZ hI
theorem iW(hτ:ey P τ)(hm:P.follows .mixedOrders=true){G9:KT}(t:Tg)(hs:Region.noSelect ops=true)(hc:kR ops t (Array.replicate ops.size false)=true)
  (h:xl P τ B ops.toList t [] l H nx iv w G9):yw P B ops l H nx iv w G9:=by
 refine⟨fun n O a J Kt sat Q hQ id=>?_⟩;refine wp_mono (Q':=Q) (c:=.region id ops true) (wp_region_any (Q:=QN (Q .normal)) hm (xO (A':=IZ P ops []) _ _ _ _ ?_)) (fun e a w hq=>by obtain⟨rfl,hq⟩:=hq;exact hq);refine iF (Q0:=Q .normal) hτ (fun j o ho d hd=>?_) (Region.noSelect_spec hs) hQ t _ _ _ _ _ _ _ O _ _ [] [] ?_ (by simp) hc h ⟨sat.rel.drew,sat.size,sat.defers,sat.env,sat.sc⟩ (fun z hz=>by cases hz) (fun z hz=>by cases hz) (fun z hz=>by cases hz)
 ·have:=List.all_eq_true.1 Kt o (aD (by rw[bA];exact ho));rw[hd]at this;have h5:d+1<=n:=by simpa [Nat.blt]using this
  exact h5
 ·unfold Ia;refine a9 List.countP_le_length ?_;simp
end
theorem GY{α:Type}(a b:α){c:Nat}(h:i<c):(List.replicate i a++List.replicate (c-i) b).take i++[a]++(List.replicate i a++List.replicate (c-i) b).drop (i+1)=List.replicate (i+1) a++List.replicate (c-(i+1)) b:=by
 rw[List.take_left' (aa ..),List.drop_append,aa,List.drop_of_length_le (by rw[aa];omega),List.nil_append,List.drop_replicate,List.replicate_succ'];congr 2;omega
def mc(w:World)(C S:Nat->Prop)(v:Value)(M:List (List Rat)):Prop:=∃rv,gi w C 1 v rv M.length/\rv.length=M.length/\∀(i:Nat) u x,rv[i]? =some u->M[i]? =some x->cF w S u x
theorem mc.shape(h:mc w C S v M):∃a c,v= .slice a M.length c/\M.length<=c/\M.length<=maxLen:=by
 obtain⟨rv,⟨h0,_,_,a,c,V,I,_⟩,_⟩:=h;exact⟨a,c,V,I,h0⟩
theorem mc.load{a:Option Addr}{m c:Nat}{x:List Rat}(h:mc w C S (.slice a m c) M)(hq:M[j]? =some x):
  ∃ad u,a=some ad/\cF w S u x/\C ad.block/\w.cell? (ad.add (j*1))=some u:=by
 obtain⟨rv,⟨h0,V,I,a',c',e,K,h4⟩,hl,hf⟩:=h;injection e with e1 e2 e3;subst e1;obtain⟨u,hu⟩:∃u,rv[j]? =some u:=⟨_,aA (by rw[hl];exact(aC.1 hq).1)⟩
 obtain⟨ad,k1,k2,k3⟩:=h4 j u hu;exact⟨ad,u,k1,hf j u x hu hq,k2,by rw[az];exact k3⟩
def HT:Option Nat->Value
 |none=>.int .i64 (-1)
 |some j=>.int .i64 (j:Int)
structure BJ(M:List (List Rat))(cols h:Nat):Prop where
 rows:∀i,i<=M.length->∀r∈(fp M cols i).1,∀q∈r,rl q+1<=h
 kT:∀i,i<M.length->∀k,k<=cols->∀q∈ed (fp M cols i).1 (fp M cols i).2.1 (M.getD i []) k,rl q+1<=h
theorem wY{k:Nat}(h:at_[k]? =some (some j)):ed G8 at_ row (k+1)=kY (ed G8 at_ row k) (G8.getD j []) ((ed G8 at_ row k).getD k 0):=by
 rw[ed,show at_.getD k none=some j by rw[List.getD,h];rfl]
theorem CY{k:Nat}(h:at_[k]? =some none):ed G8 at_ row (k+1)=ed G8 at_ row k:=by
 rw[ed,show at_.getD k none=none by rw[List.getD,h];rfl]
theorem GZ{α:Type}{l:List α}(a b:α)(h:j<l.length):(l++[a]).set j b=l.set j b++[a]:=by rw[List.set_append,if_pos h]
theorem CZ{x:List Rat}(M3:(G8,at_,fr)=fp M cols i)(F:M.getD i []=x)(hy:ed G8 at_ x cols=y)(hp:qV y cols=cols):(G8,at_,fr)=fp M cols (i+1):=by
 rw[fp,<-M3,F,jI];simp only[hy,hp,if_true]
theorem Ca{p:Nat}{x:List Rat}(M3:(G8,at_,fr)=fp M cols i)(F:M.getD i []=x)(hy:ed G8 at_ x cols=y)(hp:qV y cols=p)(Kq:p≠cols):
  fp M cols (i+1)=(fJ G8 (y.map (· / y.getD p 0)) p G8.length++[y.map (· / y.getD p 0)],at_.set p (some G8.length),fr++[i]):=by
 rw[fp,<-M3,F,jI];simp only[hy,hp,aF Kq]
theorem Ga(q:Rat)(y:List Rat):fq y.length (fun _ r=>r / q) y=y.map (· / q):=by
 rw[sP];exact bJ fun j=>by rw[List.getElem?_mapIdx,aM]
theorem Cb{p:Nat}(h:G8[i]? =some r)(h0:r.getD p 0=0):fJ G8 u p (i+1)=fJ G8 u p i:=by
 rw[ux h,h0,uw];refine bJ fun j=>?_;by_cases hj:i=j
 ·subst hj;rw[aR (by rw[eh];exact(aC.1 h).1),Ad h]
 ·rw[aY hj]
def jb(rv:List Value)(at_:List (Option Nat)):Nat->List Value
 |0=>[]
 |k+1=>match at_.getD k none with
  |some r=>jb rv at_ k++[rv.getD r (.bool false)]
  |none=>jb rv at_ k
theorem kj{k:Nat}(h:s.2.1[k]? =some none):cN s (k+1)=cN s k:=by
 rw[cN,show s.2.1.getD k none=none by rw[List.getD,h];rfl]
theorem kk{k r:Nat}(h:s.2.1[k]? =some (some r)):cN s (k+1)=((cN s k).1++[s.1.getD r []],(cN s k).2.1++[k],(cN s k).2.2++[s.2.2.getD r 0]):=by
 rw[cN,show s.2.1.getD k none=some r by rw[List.getD,h];rfl]
theorem qB{k:Nat}(h:at_[k]? =some none):jb rv at_ (k+1)=jb rv at_ k:=by
 rw[jb,show at_.getD k none=none by rw[List.getD,h];rfl]
theorem qC{k r:Nat}(h:at_[k]? =some (some r)):jb rv at_ (k+1)=jb rv at_ k++[rv.getD r (.bool false)]:=by
 rw[jb,show at_.getD k none=some r by rw[List.getD,h];rfl]
theorem rB(s:tT)(rv:List Value):∀k,k<=s.2.1.length->(cN s k).1.length=(cN s k).2.1.length/\(cN s k).2.2.length=(cN s k).2.1.length/\(jb rv s.2.1 k).length=(cN s k).2.1.length/\(cN s k).2.1.length<=k
 |0,_=>⟨rfl,rfl,rfl,aE _⟩
 |k+1,W=>by
  have ih:=rB s rv k (by omega);obtain⟨o,ho⟩:∃o,s.2.1[k]? =some o:=⟨_,aA (by omega)⟩
  cases o with
  |none=>rw[kj ho,qB ho];exact⟨ih.1,ih.2.1,ih.2.2.1,by have:=ih.2.2.2;omega⟩
  |some r=>rw[kk ho,qC ho];simp only[List.length_append,List.length_singleton];omega
theorem wZ{G8:List (List Rat)}{at_:List (Option Nat)}{fr:List Nat}{rv:List Value}(hl:rv.length=G8.length)(LG:∀(k r:Nat),at_[k]? =some (some r)->r<G8.length):∀k,k<=at_.length->∀(i:Nat) u x,(jb rv at_ k)[i]? =some u->(cN (G8,at_,fr) k).1[i]? =some x->∃r:Nat,rv[r]? =some u/\G8[r]? =some x
 |0,_,i,u,x,h,_=>by cases h
 |k+1,W,i,u,x,V,I=>by
  have ih:=wZ (fr:=fr) hl LG k (by omega) i u x;obtain⟨o,ho⟩:∃o,at_[k]? =some o:=⟨_,aA (by omega)⟩
  cases o with
  |none=>
   rw[qB ho]at V;rw[kj (s:=(G8,at_,fr)) ho]at I;exact ih V I
  |some r=>
   have hr:=LG k r ho;rw[qC ho]at V;rw[kk (s:=(G8,at_,fr)) ho]at I;obtain⟨q1,q2,q3,q4⟩:=rB (G8,at_,fr) rv k (by dsimp only;omega);dsimp only at q1 q2 q3 q4 I;rcases aO i (jb rv at_ k).length with N|N
   ·rw[aJ N]at V;rw[aJ (by omega)]at I;exact ih V I
   ·have NU:i=(jb rv at_ k).length:=by have:=(aC.1 V).1;simp at this;omega
    rw[NU,aN (aE _),bC]at V;rw[NU,q3,<-q1,aN (aE _),bC]at I;simp only[List.getElem?_cons_zero,Option.some.injEq]at V I;refine⟨r,?_,?_⟩
    ·rw[<-V,List.getD,aA (by omega)];rfl
    ·rw[<-I,List.getD,aA hr];rfl
theorem BK{α:Type}(l:List α)(a b:α):(l++[a]).set l.length b=l++[b]:=by simp
section
variable{S S':Nat->Prop}{H:Hp}{nx:Nat}{iv E:Iv}{B:Nat}{w J Y:World}{O:Nat->Sx.cd}{rv:List Value}{v:Value}{q:Rat}
theorem cI.BL(h:cI w (Lr S B iv rv) v q)(r:Rel H nx iv B w O J)(X:∀g,S g->g<B):cI J (Lr S B iv rv) v q:=h.br fun _ R=>Rel.same r X R.1
theorem cI.IY(h:cI w (Lr S B iv rv) v q)(r:Rel H nx iv B w O J)(X:∀g,S g->g<B)(Z:Ext J Y)(hm:∀p,p∈iv->p∈E):cI Y (Lr S B E rv) v q:=
 ((h.BL r X).br fun g R=>Z.block g (Rel.old r X g R.1)).bw fun _ R=>⟨R.1.mono hm,R.2⟩
theorem Lr.old(r:Rel H nx iv B w O J)(X:∀g,S g->g<B):Old (Lr S B iv rv) J:=fun g R=>Rel.old r X g R.1
theorem cI.KP{n:Nat}(h:cI Y (Nf J Y) v q)(hM:kJ w S B iv rv n M)(r:Rel H nx iv B w O J):cI Y (Lr S0 B ((J.heap.size,Y.heap.size)::iv) rv) v q:=
 h.bw fun g R=>by
  rcases R with R|R
  ·exact R.elim
  ·exact⟨.inr ⟨by have:=r.bs;omega,_,_,aH,R.1,R.2⟩,fun hm=>by have:=hM.lt r hm;omega⟩
end
set_option maxHeartbeats 2000000 in
theorem yU{n h:Nat}(hC:Old C w)(X:Old S w)(hM:mc w C S v M)(hlen:gH n M)(hn0:0<n)(A:n<=1000)(hR:M.length<=1000)(PT:cols<=n)(hB:BJ M cols h)(hh:3*h<=90000):
  eF PG F'.gX #[.agg #[v,.int .i64 n],.int .i64 cols] w (eM w fun v' Y=>∃vr vp vf,v'= .agg #[vr,.int .i64 n,vp,vf]/\cQ Y (Nw S w Y) vr (dI M cols).1/\dE Y (Nf w Y) vp (dI M cols).2.1/\dE Y (Nf w Y) vf (dI M cols).2.2):=by
 have L:=bR w;obtain⟨am,cm,rfl,Og,PQ⟩:=mc.shape hM;unfold maxLen at PQ;refine iU (by simp) ?_
 refine⟨cols,cols,rfl,rfl,aE _,by omega,by omega,Nat×World,fun z=>⟨[(1,iZ cols),(2,pP 0 0),(4,pP 1 0),(5,pP 2 0),(6,.o (.s 3 0 cols cols)),(27,iZ cols),(28,iN z.1)],
   [(3,.arr T.int (List.replicate z.1 (.int .i64 (-1))++List.replicate (cols-z.1) (.int .i64 0))),(2,.box T.cU [.v (.slice none 0 0),.v (.int .i64 n),.v (.slice none 0 0),.v (.slice none 0 0)]),(1,.box T.cU [.v (.slice none 0 0),.v (.int .i64 0),.v (.slice none 0 0),.v (.slice none 0 0)]),(0,.box T.dJ [.v (.slice am M.length cm),.v (.int .i64 n)])],4,[],z.2⟩,fun z=>cols-z.1,
  fun z=>z.1<=cols/\dO w.heap.size w z.2,?_,?_⟩
 ·intro O J r;exact⟨(0,J),⟨aP _,L.tr r.cG⟩,Sub.gn [] r ⟨by simp;rfl,rfl,rfl,rfl,trivial⟩⟩
 rintro⟨i,w1⟩ ⟨N,L⟩;dsimp only at N L ⊢;refine ct.mk ?_ ?_<;>intro Kp
 ·have Kp:i<cols:=by simpa using Kp
  refine⟨by omega,by simp;omega,List.replicate (i+1) (.int .i64 (-1))++List.replicate (cols-(i+1)) (.int .i64 0),?_,?_⟩
  ·rw[aG,az,aU];exact GY _ _ Kp
  refine⟨((i+1:Nat):Int),wo,?_⟩;intro In w3 D;exact⟨(i+1,w3),⟨Kp,L.tr D.cG⟩,Sub.gn [] D,by dsimp only;omega⟩
 have Kp:i=cols:=aS N (by simpa using Kp);rw[Kp]
 refine⟨Nat×List Value×List (List Rat)×List (Option Nat)×List Nat×World×Iv,fun z=>⟨[(38,iN z.1),(1,iZ cols),(2,pP 0 0),(4,pP 1 0),(5,pP 2 0),(6,.o (.s 3 0 cols cols)),(36,sV am M.length cm),(37,iZ M.length)],[(2,.box T.cU [.w 4 z.2.1.length,.v (.int .i64 n),.v (.slice none 0 0),.w 5 z.2.2.2.2.1.length]),(5,.vec T.int 1 (z.2.2.2.2.1.map fun c:Nat=>.int .i64 (c:Int))),(4,.vec T.jC 1 z.2.1),(0,.box T.dJ [.v (.slice am M.length cm),.v (.int .i64 n)]),(1,.box T.cU [.v (.slice none 0 0),.v (.int .i64 0),.v (.slice none 0 0),.v (.slice none 0 0)]),(3,.arr T.int (z.2.2.2.1.map HT))],6,z.2.2.2.2.2.2,z.2.2.2.2.2.1⟩,fun z=>M.length-z.1,
  fun z=>z.1<=M.length/\(z.2.2.1,z.2.2.2.1,z.2.2.2.2.1)=fp M cols z.1/\dO w.heap.size w z.2.2.2.2.2.1/\kJ z.2.2.2.2.2.1 S w.heap.size z.2.2.2.2.2.2 z.2.1 n z.2.2.1,?_,?_⟩
 ·intro O J r
  exact⟨(0,[],[],List.replicate cols none,[],J,[]),⟨aP _,rfl,L.tr r.cG,kJ.nil⟩,Sub.BI 2 0 T.jC 1 rfl rfl (by simp[lj,SV.sc,At.sc]) r fun If r1=>Sub.BI 2 3 T.int 1 rfl rfl (by simp[lj,SV.sc,At.sc]) r1 fun IR r2=>
   Sub.gn [] r2 ⟨rfl,rfl,rfl,rfl,rfl,by simp[HT];rfl,trivial⟩⟩
 rintro⟨i,rv,G8,at_,fr,w1,iv⟩ ⟨N,M3,L,hE⟩;dsimp only at N M3 L hE ⊢;have Kt:=uy cols hlen i N;rw[<-M3]at Kt;have hatl:at_.length=cols:=Kt.at_;have hfrl:fr.length=G8.length:=Kt.rP;have hEi:G8.length<=i:=Kt.le;have Mz:rv.length=G8.length:=hE.len;have hEb:∀r∈G8,∀q∈r,rl q+1<=h:=by have:=hB.rows i N;rwa [<-M3]at this
 refine ct.mk ?_ ?_<;>intro Kp
 ·have Kp:i<M.length:=by simpa using Kp
  obtain⟨x,F⟩:∃r,M[i]? =some r:=⟨_,aA Kp⟩
  have Mo:=hlen x (aD F);have Pc:M.getD i []=x:=by rw[List.getD,F];rfl
  have Nc:∀k,k<=cols->∀q∈ed G8 at_ x k,rl q+1<=h:=by have:=hB.kT i Kp;rwa [<-M3,Pc]at this
  have hcll:∀k,(ed G8 at_ x k).length=n:=fun k=>by rw[fy,Mo]
  obtain⟨adm,um,Nk,Lj,km1,km2⟩:=mc.load hM F;obtain⟨U,⟨-,g1,g2,a0,c0,rfl,g4,g5⟩,Lo,PU,Le⟩:=Lj;have LN:=gD PU;refine⟨adm,Nk,by omega,.slice a0 x.length c0,rd1 km2 L (hC _ km1),?_⟩;refine .inl ?_;refine⟨U.flatten,g1,g2,fun O J r LU=>?_,?_⟩
  ·obtain⟨u0,hu0⟩:∃u,U.flatten[0]? =some u:=⟨_,aA (by omega)⟩
   obtain⟨ad,ha,_,_⟩:=g5 0 u0 hu0;refine⟨ad,ha,fun j u hj=>?_⟩;obtain⟨ad2,M9,q1,q2⟩:=g5 j u hj;rw[ha]at M9;injection M9 with M9;subst M9;rw[cA (w:=w) (Y:=J) (by rw[dP];exact(L.tr r.cG).block _ (X _ q1))];exact q2
  refine⟨rfl,by omega,by unfold maxLen;omega,?_⟩;rw[aU x.length,Mo]
  refine⟨Nat×Nat×Nat×World×Iv,fun z=>⟨[(9,.o (.v (.slice (some ⟨z.2.1,0,none⟩) n z.2.2.1))),(46,iZ cols),(47,iN z.1),(2,pP 0 0),(4,pP 1 0),(5,pP 2 0),(6,.o (.s 3 0 cols cols)),(8,iN i),(36,sV am M.length cm),(37,iZ M.length),(38,iN i),(1,iZ cols)],[(2,.box T.cU [.w 4 rv.length,.v (.int .i64 n),.v (.slice none 0 0),.w 5 fr.length]),(5,.vec T.int 1 (fr.map fun c:Nat=>.int .i64 (c:Int))),(4,.vec T.jC 1 rv),(0,.box T.dJ [.v (.slice am M.length cm),.v (.int .i64 n)]),(1,.box T.cU [.v (.slice none 0 0),.v (.int .i64 0),.v (.slice none 0 0),.v (.slice none 0 0)]),(3,.arr T.int (at_.map HT))],8,z.2.2.2.2,z.2.2.2.1⟩,fun z=>cols-z.1,
   fun z=>z.1<=cols/\dO w.heap.size w z.2.2.2.1/\kJ z.2.2.2.1 S w.heap.size z.2.2.2.2 (rv++[.slice (some ⟨z.2.1,0,none⟩) n z.2.2.1]) n (G8++[ed G8 at_ x z.1]),?_,?_⟩
  ·intro O J r;have hv:=KO (S:=S) (m:=n) (qs:=x) (U:=U) r (id:=7) rfl (by omega) hn0 (by unfold maxLen;omega) ⟨Lo,fun j G q k1 k2=>(Le j G q k1 k2).br fun g R=>(L.tr r.cG).block g (X g R)⟩
   exact⟨(0,(O 7).g,(O 7).cap,J,((O 7).g,(O 7).g+1)::iv),⟨aP _,L.tr r.cG,(hE.rel r X).push (fun g R e=>Rel.not r X R 7 _ rfl hv.1 e.symm) hv.2.1 hv.2.2.2 X⟩,
    Sub.Jo r (id:=7) (t:=9) (G:=U.flatten) rfl hv.1 rfl ⟨rfl,rfl,rfl,rfl,rfl,rfl,trivial⟩ rfl ⟨rfl,rfl,rfl,rfl,rfl,rfl,rfl,rfl,rfl,rfl,rfl,trivial⟩ (by simp[lj,SV.sc,At.sc])⟩
  rintro⟨k,gx,cx,Y,iv⟩ ⟨W,L,hE⟩;dsimp only at W L hE ⊢;refine ct.mk ?_ ?_<;>intro Ks
  ·have Ks:k<cols:=by simpa using Ks
   obtain⟨o,ho⟩:∃o,at_[k]? =some o:=⟨_,aA (by omega)⟩
   refine⟨by omega,HT o,by rw[aG,az,aU,aM,ho];rfl,?_⟩
   cases o with
   |none=>
    refine⟨((k+1:Nat):Int),wo,?_⟩;intro In w3 D;exact⟨(k+1,gx,cx,w3,_),⟨Ks,L.tr D.cG,by dsimp only;rw[CY ho];exact hE.rel D X⟩,Sub.gn [] D,by dsimp only;omega⟩
   |some j=>
    have hj:j<G8.length:=Kt.lt k j ho;have hq:∃q,(ed G8 at_ x k)[k]? =some q:=⟨_,aA (by rw[hcll];omega)⟩
    obtain⟨q,hq⟩:=hq;have Rw:(ed G8 at_ x k).getD k 0=q:=by rw[List.getD,hq];rfl
    have QP:=Nc k W q (aD hq);have RH:(rv++[.slice (some ⟨gx,0,none⟩) n cx])[rv.length]? =some (.slice (some ⟨gx,0,none⟩) n cx):=by simp
    have RI:(G8++[ed G8 at_ x k])[rv.length]? =some (ed G8 at_ x k):=by rw[Mz];simp
    obtain⟨ad,G,LH,hF,hl⟩:=hE.load RH RI hq;obtain⟨f0,f1,f2,f3,f4,f5,f6,f7,rfl,hF⟩:=hF;refine⟨ad,LH,by omega,[.bool f0,.slice f1 f2 f3,.bool f4,.slice f5 f6 f7],rfl,fun O J r t u hu=>?_,?_⟩
    ·obtain⟨k1,k2⟩:=hl t u hu;rw[aG,cA (w:=Y) (Y:=J) (by rw[dP,dP];exact Rel.same r (iC _) k1)];exact k2
    refine bp (cE L (fun _ J v Y=>∃d,v= .bool d/\(d=true↔q=0)) (fun O J r=>oc (Lr.old r X) ((hF.BL r X).l (by omega))) ?_);rintro O _ _ MS LC r Z L h_ ⟨d,rfl,hz⟩;replace hE:=hE.bu r X Z (mC h_);replace hF:=hF.IY r X Z (mC h_)
    cases d
    ·have RJ:q≠0:=fun e=>by have:=hz.2 e;cases this
     obtain⟨vj,OU⟩:∃v,rv[j]? =some v:=⟨_,aA (by omega)⟩
     have Oz:(rv++[.slice (some ⟨gx,0,none⟩) n cx])[j]? =some vj:=by rw[aJ (by omega)];exact OU
     obtain⟨ej,QT⟩:∃v,G8[j]? =some v:=⟨_,aA hj⟩
     have QU:(G8++[ed G8 at_ x k])[j]? =some ej:=by rw[aJ hj];exact QT
     have hejd:G8.getD j []=ej:=by rw[List.getD,QT];rfl
     obtain⟨aj,cj,rfl⟩:=hE.form Oz;obtain⟨ad,G,LH,hF,hl⟩:=hE.load RH RI hq;obtain⟨f0,f1,f2,f3,f4,f5,f6,f7,rfl,hF⟩:=hF;refine cC hτ eG [.x 0,.x 1,.x 2,.x 3,.x 4,.x 5,.x 6,.x 7,.x 8,.x 9,.x 10,.x 11] (by kernel_rfl) (by kernel_rfl) ?_;refine⟨by simp,by omega,.slice aj n cj,by simpa using OU,ad,LH,by omega,[.bool f0,.slice f1 f2 f3,.bool f4,.slice f5 f6 f7],rfl,fun O J r t u hu=>?_,?_⟩
     ·obtain⟨k1,k2⟩:=hl t u hu;rw[aG,cA (w:=MS) (Y:=J) (by rw[dP,dP];exact Rel.same r (iC _) k1)];exact k2
     refine⟨fun O J r=>?_⟩;refine(hE.zU r X (i:=rv.length) (j:=j) (h:=h) (by omega) RH Oz RI QU (hF.l (by omega)) (fun y hy=>Nc k W y hy) (fun y hy=>hEb ej (aD QT) y hy) QP hh).mono fun e w8 Z=>?_;obtain⟨rfl,Ll,ME,LI⟩:=Z;have Ln:=(L.tr r.cG).tr (hE.cG r Ll ME);refine⟨.tuple #[],_,(J.heap.size,w8.heap.size)::LC,rfl,r.BM (fun x F=>Rel.not r (iC _) (hE.new x (ME x F))) Ll,?_⟩;have Kz:(G8++[ed G8 at_ x k]).set rv.length (kY (ed G8 at_ x k) ej q)=G8++[ed G8 at_ x (k+1)]:=by rw[Mz,BK,wY ho,hejd,Rw]
     rw[Kz]at LI;generalize (J.heap.size,w8.heap.size)::LC=iv9 at*
     refine⟨((k+1:Nat):Int),wo,?_⟩;intro In w3 D;exact⟨(k+1,gx,cx,w3,_),⟨Ks,Ln.tr D.cG,LI.rel D X⟩,Sub.gn [] D,by dsimp only;omega⟩
    ·have RJ:q=0:=hz.1 rfl;refine⟨((k+1:Nat):Int),wo,?_⟩;intro In w3 D;exact⟨(k+1,gx,cx,w3,_),⟨Ks,L.tr D.cG,by dsimp only;rw[wY ho,Rw,RJ,uw];exact hE.rel D X⟩,Sub.gn [] D,by dsimp only;omega⟩
  have Ks:k=cols:=aS W (by simpa using Ks);rw[Ks]at hE;obtain⟨y,hy⟩:∃y,ed G8 at_ x cols=y:=⟨_,rfl⟩
  have RB:y.length=n:=by rw[<-hy];exact hcll cols
  have Qf:∀q∈y,rl q+1<=h:=by rw[<-hy];exact Nc cols (aE _)
  rw[hy]at hE;have RH:(rv++[.slice (some ⟨gx,0,none⟩) n cx])[rv.length]? =some (.slice (some ⟨gx,0,none⟩) n cx):=by simp
  refine⟨Nat×World×Iv,fun z=>⟨[(9,.o (.v (.slice (some ⟨gx,0,none⟩) n cx))),(12,iN z.1),(2,pP 0 0),(4,pP 1 0),(5,pP 2 0),(6,.o (.s 3 0 cols cols)),(8,iN i),(36,sV am M.length cm),(37,iZ M.length),(38,iN i),(1,iZ cols)],[(2,.box T.cU [.w 4 rv.length,.v (.int .i64 n),.v (.slice none 0 0),.w 5 fr.length]),(5,.vec T.int 1 (fr.map fun c:Nat=>.int .i64 (c:Int))),(4,.vec T.jC 1 rv),(0,.box T.dJ [.v (.slice am M.length cm),.v (.int .i64 n)]),(1,.box T.cU [.v (.slice none 0 0),.v (.int .i64 0),.v (.slice none 0 0),.v (.slice none 0 0)]),(3,.arr T.int (at_.map HT))],8,z.2.2,z.2.1⟩,fun z=>cols-z.1,
   fun z=>z.1<=cols/\(∀t,t<z.1->y.getD t 0=0)/\dO w.heap.size w z.2.1/\kJ z.2.1 S w.heap.size z.2.2 (rv++[.slice (some ⟨gx,0,none⟩) n cx]) n (G8++[y]),?_,?_⟩
  ·intro O J D;exact⟨(0,J,_),⟨aP _,fun t ht=>absurd ht (Nat.not_lt_zero t),L.tr D.cG,hE.rel D X⟩,Sub.gn [] D⟩
  rintro⟨pv,w3,iv⟩ ⟨hp,Qm,L,hE⟩;dsimp only at hp Qm L hE ⊢;have RI:(G8++[y])[rv.length]? =some y:=by rw[Mz];simp
  refine ct.mk ?_ ?_<;>intro Rx
  ·have Rx:pv<cols:=by simpa using Rx
   obtain⟨q,hq⟩:∃q,y[pv]? =some q:=⟨_,aA (by omega)⟩
   have Rw:y.getD pv 0=q:=by rw[List.getD,hq];rfl
   have QP:=Qf q (aD hq);obtain⟨ad,G,LH,hF,hl⟩:=hE.load RH RI hq;obtain⟨f0,f1,f2,f3,f4,f5,f6,f7,rfl,hF⟩:=hF;refine⟨ad,LH,by omega,[.bool f0,.slice f1 f2 f3,.bool f4,.slice f5 f6 f7],rfl,fun O J r t u hu=>?_,?_⟩
   ·obtain⟨k1,k2⟩:=hl t u hu;rw[aG,cA (w:=w3) (Y:=J) (by rw[dP,dP];exact Rel.same r (iC _) k1)];exact k2
   refine bp (cE L (fun _ J v Y=>∃d,v= .bool d/\(d=true↔q=0)) (fun O J r=>oc (Lr.old r X) ((hF.BL r X).l (by omega))) ?_);rintro O _ _ MF Kx r Z L h_ ⟨d,rfl,hz⟩;replace hE:=hE.bu r X Z (mC h_)
   cases d
   ·have RJ:q≠0:=fun e=>by have:=hz.2 e;cases this
    refine ct.mk ?_ ?_<;>intro Z
    ·have Z:(pv:Int)=cols:=by simpa using Z
     omega
    have Pj:qV y cols=pv:=DL Qm hp fun _=>by rw[Rw];exact RJ
    have Nu:=Ca M3 Pc hy Pj (by omega);rw[Rw]at Nu;obtain⟨u,hu⟩:∃u,y.map (· / q)=u:=⟨_,rfl⟩
    rw[hu]at Nu;have hul:u.length=n:=by rw[<-hu,aK,RB]
    have hub:∀q∈u,rl q+1<=h:=by
     have:=hB.rows (i+1) Kp u (by rw[Nu];simp);exact this
    obtain⟨ad,G,LH,hF,hl⟩:=hE.load RH RI hq;obtain⟨f0,f1,f2,f3,f4,f5,f6,f7,rfl,hF⟩:=hF;refine⟨ad,LH,by omega,[.bool f0,.slice f1 f2 f3,.bool f4,.slice f5 f6 f7],rfl,fun O J r t u hu=>?_,?_⟩
    ·obtain⟨k1,k2⟩:=hl t u hu;rw[aG,cA (w:=MF) (Y:=J) (by rw[dP,dP];exact Rel.same r (iC _) k1)];exact k2
    refine⟨Nat×World×Iv,fun z=>⟨[(9,.o (.v (.slice (some ⟨gx,0,none⟩) n cx))),(12,iN pv),(13,pP 8 0),(97,iZ n),(98,iN z.1),(2,pP 0 0),(4,pP 1 0),(5,pP 2 0),(6,.o (.s 3 0 cols cols)),(8,iN i),(36,sV am M.length cm),(37,iZ M.length),(38,iN i),(1,iZ cols)],[(8,.box T.Rat [.v (.bool f0),.v (.slice f1 f2 f3),.v (.bool f4),.v (.slice f5 f6 f7)]),(2,.box T.cU [.w 4 rv.length,.v (.int .i64 n),.v (.slice none 0 0),.w 5 fr.length]),(5,.vec T.int 1 (fr.map fun c:Nat=>.int .i64 (c:Int))),(4,.vec T.jC 1 rv),(0,.box T.dJ [.v (.slice am M.length cm),.v (.int .i64 n)]),(1,.box T.cU [.v (.slice none 0 0),.v (.int .i64 0),.v (.slice none 0 0),.v (.slice none 0 0)]),(3,.arr T.int (at_.map HT))],9,z.2.2,z.2.1⟩,fun z=>n-z.1,
     fun z=>z.1<=n/\dO w.heap.size w z.2.1/\kJ z.2.1 S w.heap.size z.2.2 (rv++[.slice (some ⟨gx,0,none⟩) n cx]) n (G8++[fq z.1 (fun _ r=>r / q) y])/\cI z.2.1 (Lr S w.heap.size z.2.2 (rv++[.slice (some ⟨gx,0,none⟩) n cx])) (.agg #[.bool f0,.slice f1 f2 f3,.bool f4,.slice f5 f6 f7]) q,?_,?_⟩
    ·intro O J D;exact⟨(0,J,_),⟨aP _,L.tr D.cG,by dsimp only;rw[qA];exact hE.rel D X,hF.BL D X⟩,Sub.gn [] D⟩
    rintro⟨k,w4,iv⟩ ⟨W,L,hE,hF⟩;dsimp only at W L hE hF ⊢;have RI:(G8++[fq k (fun _ r=>r / q) y])[rv.length]? =some (fq k (fun _ r=>r / q) y):=by rw[Mz];simp
    refine ct.mk ?_ ?_<;>intro Ks
    ·have Ks:k<n:=by simpa using Ks
     obtain⟨t,ht⟩:∃q,y[k]? =some q:=⟨_,aA (by omega)⟩
     have Rp:=Qf t (aD ht);obtain⟨ad,G,LH,hG,hl⟩:=hE.load RH RI (wW ht);obtain⟨g0,g1,g2,g3,g4,g5,g6,g7,rfl,hG⟩:=hG;refine cC hτ eG [.x 0,.x 1,.x 2,.x 3,.x 4,.x 5,.x 6,.x 7,.x 8,.x 9] (by kernel_rfl) (by kernel_rfl) ?_;refine⟨ad,LH,by omega,[.bool g0,.slice g1 g2 g3,.bool g4,.slice g5 g6 g7],rfl,fun O J r t u hu=>?_,?_⟩
     ·obtain⟨k1,k2⟩:=hl t u hu;rw[aG,cA (w:=w4) (Y:=J) (by rw[dP,dP];exact Rel.same r (iC _) k1)];exact k2
     refine bz (Id:=fun _ J v Y=>cI Y (Nf J Y) v (t / q)) (fun O J r=>JJ (Lr.old r X) ((hG.BL r X).l (by omega)) ((hF.BL r X).l (by omega)) RJ) ?_;rintro O M4 v3 MY r Z hb OB;replace L:=L.tr hb;have hd:=OB.KP (S0:=S) hE r;replace hE:=hE.bu (E:=(M4.heap.size,MY.heap.size)::iv) r X Z fun x F=>aB _ F;replace hF:=hF.IY (E:=(M4.heap.size,MY.heap.size)::iv) r X Z fun x F=>aB _ F;generalize (M4.heap.size,MY.heap.size)::iv=LV at*
     obtain⟨A0,A1,A2,A3,A4,A5,A6,A7,rfl⟩:=hd.shape;refine⟨⟨gx,0,none⟩,rfl,by omega,?_⟩;intro O J r;obtain⟨g,R,V,I,K,h4⟩:=hE.store r X RH RI Ks hd;injection R with R;injection R with R;subst R;refine⟨V,I,K,fun w5 OL=>?_⟩;obtain⟨k1,k2,k3,k4⟩:=h4 w5 OL;have Ln:=(L.tr r.cG).tr k2;have PV:=hF.br k4;have Kz:(G8++[fq k (fun _ r=>r / q) y]).set rv.length ((fq k (fun _ r=>r / q) y).set k (t / q))=G8++[fq (k+1) (fun _ r=>r / q) y]:=by rw[Mz,BK,<-mb ht]
     rw[Kz]at k1;refine⟨((k+1:Nat):Int),wo,?_⟩;intro In w6 D;exact⟨(k+1,w6,_),⟨Ks,Ln.tr D.cG,k1.rel D X,PV.BL D X⟩,Sub.gn [] D,by dsimp only;omega⟩
    have Ks:k=n:=aS W (by simpa using Ks);rw[Ks,<-RB,Ga,hu,RB]at hE
    refine⟨by simp,Nat×World×Iv,fun z=>⟨[(9,.o (.v (.slice (some ⟨gx,0,none⟩) n cx))),(12,iN pv),(113,.o (.w 4 rv.length)),(114,iZ rv.length),(115,iN z.1),(2,pP 0 0),(4,pP 1 0),(5,pP 2 0),(6,.o (.s 3 0 cols cols)),(8,iN i),(36,sV am M.length cm),(37,iZ M.length),(38,iN i),(1,iZ cols)],[(2,.box T.cU [.w 4 rv.length,.v (.int .i64 n),.v (.slice none 0 0),.w 5 fr.length]),(5,.vec T.int 1 (fr.map fun c:Nat=>.int .i64 (c:Int))),(4,.vec T.jC 1 rv),(0,.box T.dJ [.v (.slice am M.length cm),.v (.int .i64 n)]),(1,.box T.cU [.v (.slice none 0 0),.v (.int .i64 0),.v (.slice none 0 0),.v (.slice none 0 0)]),(3,.arr T.int (at_.map HT))],9,z.2.2,z.2.1⟩,fun z=>rv.length-z.1,
     fun z=>z.1<=rv.length/\dO w.heap.size w z.2.1/\kJ z.2.1 S w.heap.size z.2.2 (rv++[.slice (some ⟨gx,0,none⟩) n cx]) n (fJ G8 u pv z.1++[u]),?_,?_⟩
    ·intro O J D;exact⟨(0,J,_),⟨aP _,L.tr D.cG,by dsimp only;rw[CE];exact hE.rel D X⟩,Sub.gn [] D⟩
    rintro⟨j,w5,iv⟩ ⟨hj,L,hE⟩;dsimp only at hj L hE ⊢;refine ct.mk ?_ ?_<;>intro Lu
    ·have Lu:j<rv.length:=by simpa using Lu
     obtain⟨ej,QT⟩:∃v,G8[j]? =some v:=⟨_,aA (by omega)⟩
     have Ol:ej.length=n:=Kt.len ej (aD QT);have heb:=hEb ej (aD QT);obtain⟨vj,OU⟩:∃v,rv[j]? =some v:=⟨_,aA Lu⟩
     have Oz:(rv++[.slice (some ⟨gx,0,none⟩) n cx])[j]? =some vj:=by rw[aJ Lu];exact OU
     have QU:(fJ G8 u pv j++[u])[j]? =some ej:=by rw[aJ (by rw[eh];omega)];exact Ad QT
     have hur:(fJ G8 u pv j++[u])[rv.length]? =some u:=by rw[Mz,<-eh G8 u pv j];simp
     obtain⟨t,ht⟩:∃q,ej[pv]? =some q:=⟨_,aA (by omega)⟩
     have htd:ej.getD pv 0=t:=by rw[List.getD,ht];rfl
     have Rp:=heb t (aD ht);obtain⟨aj,cj,rfl⟩:=hE.form Oz;obtain⟨ad,G,LH,hG,hl⟩:=hE.load Oz QU ht;obtain⟨g0,g1,g2,g3,g4,g5,g6,g7,rfl,hG⟩:=hG;refine⟨by simp,by omega,.slice aj n cj,by simpa using OU,ad,LH,by omega,[.bool g0,.slice g1 g2 g3,.bool g4,.slice g5 g6 g7],rfl,fun O J r t u hu=>?_,?_⟩
     ·obtain⟨k1,k2⟩:=hl t u hu;rw[aG,cA (w:=w5) (Y:=J) (by rw[dP,dP];exact Rel.same r (iC _) k1)];exact k2
     refine bp (cE L (fun _ J v Y=>∃d,v= .bool d/\(d=true↔t=0)) (fun O J r=>oc (Lr.old r X) ((hG.BL r X).l (by omega))) ?_);rintro O _ _ NI MD r Z L h_ ⟨d,rfl,hz⟩;replace hE:=hE.bu r X Z (mC h_)
     cases d
     ·have ht0:t≠0:=fun e=>by have:=hz.2 e;cases this
      obtain⟨ad,G,LH,hG,hl⟩:=hE.load Oz QU ht;obtain⟨g0,g1,g2,g3,g4,g5,g6,g7,rfl,hG⟩:=hG;refine⟨ad,LH,by omega,[.bool g0,.slice g1 g2 g3,.bool g4,.slice g5 g6 g7],rfl,fun O J r t u hu=>?_,?_⟩
      ·obtain⟨k1,k2⟩:=hl t u hu;rw[aG,cA (w:=NI) (Y:=J) (by rw[dP,dP];exact Rel.same r (iC _) k1)];exact k2
      refine⟨fun O J r=>?_⟩;refine(hE.zU r X (i:=j) (j:=rv.length) (h:=h) (by omega) Oz RH QU hur (hG.l (by omega)) heb hub Rp hh).mono fun e w8 Z=>?_;obtain⟨rfl,Ll,ME,LI⟩:=Z;have Ln:=(L.tr r.cG).tr (hE.cG r Ll ME);refine⟨.tuple #[],_,(J.heap.size,w8.heap.size)::MD,rfl,r.BM (fun x F=>Rel.not r (iC _) (hE.new x (ME x F))) Ll,?_⟩;have Kz:(fJ G8 u pv j++[u]).set j (kY ej u t)=fJ G8 u pv (j+1)++[u]:=by rw[GZ _ _ (by rw[eh];omega),ux QT,htd]
      rw[Kz]at LI;generalize (J.heap.size,w8.heap.size)::MD=iv9 at*
      refine⟨((j+1:Nat):Int),wo,?_⟩;intro In w6 D;exact⟨(j+1,w6,_),⟨Lu,Ln.tr D.cG,LI.rel D X⟩,Sub.gn [] D,by dsimp only;omega⟩
     ·have ht0:t=0:=hz.1 rfl;refine⟨((j+1:Nat):Int),wo,?_⟩;intro In w6 D;exact⟨(j+1,w6,_),⟨Lu,L.tr D.cG,by dsimp only;rw[Cb QT (by rw[htd,ht0])];exact hE.rel D X⟩,Sub.gn [] D,by dsimp only;omega⟩
    have Lu:j=G8.length:=by have:=aS hj (by simpa using Lu);omega
    rw[Lu]at hE;refine⟨by simp,by omega,by simp;omega,(at_.set pv (some rv.length)).map HT,?_,?_⟩
    ·rw[aG,az,aU,List.map_set];exact gw (by simp;omega)
    refine iW hτ eG (.x 0 (.x 1 (.x 3 (.x 6 (.x 8 (.ld 2 64544 (.ld 7 64512 (.two 4 (.two 5 (.x 11 (.x 12 (.x 9 (.x 10 (.x 13 (.x 14 (.x 15 .nil))))))) 9 (.x 5 (.x 11 (.x 12 (.x 10 (.x 13 (.x 14 (.x 15 .nil)))))))) 9 (.x 4 (.x 5 (.x 11 (.x 12 (.x 10 (.x 13 (.x 14 (.x 15 .nil)))))))))))))))) (by kernel_rfl) (by kernel_rfl) ?_;refine⟨?_,?_⟩
    ·refine⟨rfl,rfl,?_,?_⟩
     ·refine .inl ?_;refine⟨by simp,by omega,by unfold maxLen;omega,rfl,rfl,?_⟩;refine .inl ?_;refine⟨by simp,by omega,by unfold maxLen;omega,((i+1:Nat):Int),wo,?_⟩;intro In w6 D;exact⟨(i+1,rv++[.slice (some ⟨gx,0,none⟩) n cx],fJ G8 u pv G8.length++[u],at_.set pv (some G8.length),fr++[i],w6,_),⟨Kp,Nu.symm,L.tr D.cG,hE.rel D X⟩,Sub.gn [(4,10),(5,12)] D ⟨by dsimp only;rw[List.length_append,List.length_append,List.length_singleton,List.length_singleton];rfl,by dsimp only;rw[List.map_append];rfl,rfl,rfl,rfl,by dsimp only;rw[<-Mz];rfl,trivial⟩,by dsimp only;omega⟩
     ·refine⟨rfl,rfl,?_⟩;refine .inl ?_;refine⟨by simp,by omega,by unfold maxLen;omega,rfl,?_⟩;refine .inl ?_;refine⟨by simp,by omega,by unfold maxLen;omega,((i+1:Nat):Int),wo,?_⟩;intro In w6 D;exact⟨(i+1,rv++[.slice (some ⟨gx,0,none⟩) n cx],fJ G8 u pv G8.length++[u],at_.set pv (some G8.length),fr++[i],w6,_),⟨Kp,Nu.symm,L.tr D.cG,hE.rel D X⟩,Sub.gn [(4,11),(5,12)] D ⟨by dsimp only;rw[List.length_append,List.length_append,List.length_singleton,List.length_singleton];rfl,by dsimp only;rw[List.map_append];rfl,rfl,rfl,rfl,by dsimp only;rw[<-Mz];rfl,trivial⟩,by dsimp only;omega⟩
    ·refine⟨rfl,rfl,rfl,rfl,?_⟩;refine .inl ?_;refine⟨by simp,by omega,by unfold maxLen;omega,rfl,?_⟩;refine .inl ?_;refine⟨by simp,by omega,by unfold maxLen;omega,((i+1:Nat):Int),wo,?_⟩;intro In w6 D;exact⟨(i+1,rv++[.slice (some ⟨gx,0,none⟩) n cx],fJ G8 u pv G8.length++[u],at_.set pv (some G8.length),fr++[i],w6,_),⟨Kp,Nu.symm,L.tr D.cG,hE.rel D X⟩,Sub.gn [(4,11),(5,12)] D ⟨by dsimp only;rw[List.length_append,List.length_append,List.length_singleton,List.length_singleton];rfl,by dsimp only;rw[List.map_append];rfl,rfl,rfl,rfl,by dsimp only;rw[<-Mz];rfl,trivial⟩,by dsimp only;omega⟩
   ·have RJ:q=0:=hz.1 rfl;refine⟨((pv+1:Nat):Int),wo,?_⟩;intro In w4 D
    exact⟨(pv+1,w4,_),⟨Rx,fun t ht=>by
     by_cases htp:t=pv
     ·rw[htp,Rw,RJ]
     ·exact Qm t (by dsimp only at ht;omega),L.tr D.cG,hE.rel D X⟩,Sub.gn [] D,by dsimp only;omega⟩
  have Rx:pv=cols:=aS hp (by simpa using Rx);have Pj:qV y cols=cols:=DL (k:=cols) (fun t ht=>Qm t (by omega)) (aE _) (fun h=>absurd h (Nat.lt_irrefl _));have hskip:=CZ M3 Pc hy Pj;refine ct.mk (fun Z=>?_) (fun Z=>by rw[Rx]at Z;simp at Z);refine⟨((i+1:Nat):Int),wo,?_⟩;intro In w4 D;exact⟨(i+1,rv,G8,at_,fr,w4,_),⟨Kp,hskip,L.tr D.cG,hE.drop.rel D X⟩,Sub.gn [] D,by dsimp only;omega⟩
 have Kp:i=M.length:=aS N (by simpa using Kp);subst Kp;have hredS:dI M cols=cN (G8,at_,fr) cols:=by rw[dI,<-M3]
 have LG:∀(k r:Nat),at_[k]? =some (some r)->r<G8.length:=Kt.lt;have NT:∀k,k<=cols->(cN (G8,at_,fr) k).1.length=(cN (G8,at_,fr) k).2.1.length/\(cN (G8,at_,fr) k).2.2.length=(cN (G8,at_,fr) k).2.1.length/\(jb rv at_ k).length=(cN (G8,at_,fr) k).2.1.length/\(cN (G8,at_,fr) k).2.1.length<=k:=fun k W=>rB (G8,at_,fr) rv k (by dsimp only;omega)
 refine⟨Nat×World,fun z=>⟨[(4,pP 1 0),(5,pP 2 0),(17,pP 6 0),(159,.o (.s 3 0 cols cols)),(160,iZ cols),(161,iN z.1)],[(6,.box T.cU [.w 7 (cN (G8,at_,fr) z.1).2.1.length,.v (.int .i64 n),.w 8 (cN (G8,at_,fr) z.1).2.1.length,.w 9 (cN (G8,at_,fr) z.1).2.1.length]),(9,.vec T.int 1 ((cN (G8,at_,fr) z.1).2.2.map fun c:Nat=>.int .i64 (c:Int))),(8,.vec T.int 1 ((cN (G8,at_,fr) z.1).2.1.map fun c:Nat=>.int .i64 (c:Int))),(7,.vec T.jC 1 (jb rv at_ z.1)),(2,.box T.cU [.w 4 rv.length,.v (.int .i64 n),.v (.slice none 0 0),.w 5 fr.length]),(5,.vec T.int 1 (fr.map fun c:Nat=>.int .i64 (c:Int))),(4,.vec T.jC 1 rv),(1,.box T.cU [.v (.slice none 0 0),.v (.int .i64 0),.v (.slice none 0 0),.v (.slice none 0 0)]),(3,.arr T.int (at_.map HT))],10,iv,z.2⟩,fun z=>cols-z.1,
  fun z=>z.1<=cols/\dO w.heap.size w z.2/\kJ z.2 S w.heap.size iv rv n G8,?_,?_⟩
 ·intro O J r
  exact⟨(0,J),⟨aP _,L.tr r.cG,hE.rel r X⟩,Sub.BI 6 0 T.jC 1 rfl rfl (by simp[lj,SV.sc,At.sc]) r fun If r1=>Sub.BI 6 2 T.int 1 rfl rfl (by simp[lj,SV.sc,At.sc]) r1 fun IR r2=>Sub.BI 6 3 T.int 1 rfl rfl (by simp[lj,SV.sc,At.sc]) r2 fun In D=>
   Sub.gn [] D⟩
 rintro⟨k,w1⟩ ⟨W,L,hE⟩;dsimp only at W L hE ⊢;obtain⟨q1,q2,q3,q4⟩:=NT k W;refine ct.mk ?_ ?_<;>intro Ks
 ·have Ks:k<cols:=by simpa using Ks
  obtain⟨o,ho⟩:∃o,at_[k]? =some o:=⟨_,aA (by omega)⟩
  refine⟨by omega,HT o,by rw[aG,az,aU,aM,ho];rfl,?_⟩
  cases o with
  |none=>
   refine⟨((k+1:Nat):Int),wo,?_⟩;have LW:=kj (s:=(G8,at_,fr)) ho;have Li:=qB (rv:=rv) ho;intro In w3 D;exact⟨(k+1,w3),⟨Ks,L.tr D.cG,hE.rel D X⟩,Sub.gn [] D ⟨by dsimp only;rw[LW];rfl,by dsimp only;rw[LW];rfl,by dsimp only;rw[LW];rfl,by dsimp only;rw[Li];rfl,rfl,rfl,rfl,rfl,rfl,trivial⟩,by dsimp only;omega⟩
  |some j=>
   have hj:j<G8.length:=LG k j ho;obtain⟨vj,OU⟩:∃v,rv[j]? =some v:=⟨_,aA (by omega)⟩
   have hvjd:rv.getD j (.bool false)=vj:=by rw[List.getD,OU];rfl
   obtain⟨aj,cj,rfl⟩:=hE.form OU;obtain⟨fj,Oi⟩:∃v,fr[j]? =some v:=⟨_,aA (by omega)⟩
   have hfjd:fr.getD j 0=fj:=by rw[List.getD,Oi];rfl
   have LW:=kk (s:=(G8,at_,fr)) ho;have Li:=qC (rv:=rv) ho;dsimp only at LW;rw[hvjd]at Li;rw[hfjd]at LW;refine iW hτ eG (.x 0 (.x 1 (.x 3 (.x 4 (.x 6 (.x 11 (.x 13 (.x 16 (.x 18 (.x 20 (.ld 2 4278223872 (.ld 5 4278224768 (.x 7 (.ld 8 4278224384 (.ld 12 4278222848 (.ld 17 4278190080 (.ld 19 4192206848 (.x 21 (.ld 22 4185915392 (.three 9 (.three 10 (.x 25 (.x 26 (.two 14 (.two 15 (.x 23 (.x 24 (.x 27 (.x 28 (.x 29 (.x 30 (.x 31 .nil))))))) 23 (.x 15 (.x 24 (.x 27 (.x 28 (.x 29 (.x 30 (.x 31 .nil)))))))) 23 (.x 14 (.x 15 (.x 24 (.x 27 (.x 28 (.x 29 (.x 30 (.x 31 .nil))))))))))) 14 (.two 10 (.x 25 (.x 26 (.two 15 (.x 23 (.x 24 (.x 27 (.x 28 (.x 29 (.x 30 (.x 31 .nil))))))) 23 (.x 15 (.x 24 (.x 27 (.x 28 (.x 29 (.x 30 (.x 31 .nil)))))))))) 23 (.x 10 (.x 25 (.x 26 (.x 15 (.x 24 (.x 27 (.x 28 (.x 29 (.x 30 (.x 31 .nil))))))))))) 23 (.two 10 (.x 25 (.x 26 (.x 14 (.x 15 (.x 24 (.x 27 (.x 28 (.x 29 (.x 30 (.x 31 .nil)))))))))) 14 (.x 10 (.x 25 (.x 26 (.x 15 (.x 24 (.x 27 (.x 28 (.x 29 (.x 30 (.x 31 .nil)))))))))))) 14 (.two 9 (.two 10 (.x 25 (.x 26 (.two 15 (.x 23 (.x 24 (.x 27 (.x 28 (.x 29 (.x 30 (.x 31 .nil))))))) 23 (.x 15 (.x 24 (.x 27 (.x 28 (.x 29 (.x 30 (.x 31 .nil)))))))))) 23 (.x 10 (.x 25 (.x 26 (.x 15 (.x 24 (.x 27 (.x 28 (.x 29 (.x 30 (.x 31 .nil))))))))))) 23 (.x 9 (.x 10 (.x 25 (.x 26 (.x 15 (.x 24 (.x 27 (.x 28 (.x 29 (.x 30 (.x 31 .nil)))))))))))) 23 (.two 9 (.two 10 (.x 25 (.x 26 (.x 14 (.x 15 (.x 24 (.x 27 (.x 28 (.x 29 (.x 30 (.x 31 .nil)))))))))) 14 (.x 10 (.x 25 (.x 26 (.x 15 (.x 24 (.x 27 (.x 28 (.x 29 (.x 30 (.x 31 .nil))))))))))) 14 (.x 9 (.x 10 (.x 25 (.x 26 (.x 15 (.x 24 (.x 27 (.x 28 (.x 29 (.x 30 (.x 31 .nil)))))))))))))))))))))))))))))))) (by kernel_rfl) (by kernel_rfl) ?_;refine⟨by simp,by omega,.slice aj n cj,by simpa using OU,by simp,by omega,.int .i64 (fj:Int),by simp[Oi],?_,?_,?_⟩
   ·refine⟨.int .i64 (fj:Int),by simp[Oi],rfl,rfl,rfl,rfl,rfl,?_,?_,?_⟩
    ·refine .inl ?_;refine⟨by simp[q2,q3],by omega,by unfold maxLen;omega,.int .i64 (fj:Int),by simp[Oi],rfl,rfl,rfl,rfl,?_,?_⟩
     ·refine⟨.int .i64 (fj:Int),by simp[Oi],rfl,rfl,rfl,rfl,?_,?_⟩
      ·refine .inl ?_;refine⟨by simp[q2,q3],by omega,by unfold maxLen;omega,.int .i64 (fj:Int),by simp[Oi],rfl,rfl,rfl,rfl,?_⟩;refine .inl ?_;refine⟨by simp[q2,q3],by omega,by unfold maxLen;omega,((k+1:Nat):Int),wo,?_⟩;intro In w3 D;exact⟨(k+1,w3),⟨Ks,L.tr D.cG,hE.rel D X⟩,Sub.gn [(7,11),(8,13),(9,15)] D ⟨by dsimp only;rw[LW,List.length_append,List.length_singleton];rfl,by dsimp only;rw[LW,List.map_append];rfl,by dsimp only;rw[LW,List.map_append];rfl,by dsimp only;rw[Li];rfl,rfl,rfl,rfl,rfl,rfl,trivial⟩,by dsimp only;omega⟩
      ·refine⟨rfl,rfl,?_⟩;refine .inl ?_;refine⟨by simp[q2,q3],by omega,by unfold maxLen;omega,rfl,?_⟩;refine .inl ?_;refine⟨by simp[q2,q3],by omega,by unfold maxLen;omega,((k+1:Nat):Int),wo,?_⟩;intro In w3 D;exact⟨(k+1,w3),⟨Ks,L.tr D.cG,hE.rel D X⟩,Sub.gn [(7,11),(8,14),(9,15)] D ⟨by dsimp only;rw[LW,List.length_append,List.length_singleton];rfl,by dsimp only;rw[LW,List.map_append];rfl,by dsimp only;rw[LW,List.map_append];rfl,by dsimp only;rw[Li];rfl,rfl,rfl,rfl,rfl,rfl,trivial⟩,by dsimp only;omega⟩
     ·refine⟨rfl,rfl,rfl,rfl,?_⟩;refine .inl ?_;refine⟨by simp[q2,q3],by omega,by unfold maxLen;omega,rfl,?_⟩;refine .inl ?_;refine⟨by simp[q2,q3],by omega,by unfold maxLen;omega,((k+1:Nat):Int),wo,?_⟩;intro In w3 D;exact⟨(k+1,w3),⟨Ks,L.tr D.cG,hE.rel D X⟩,Sub.gn [(7,11),(8,14),(9,15)] D ⟨by dsimp only;rw[LW,List.length_append,List.length_singleton];rfl,by dsimp only;rw[LW,List.map_append];rfl,by dsimp only;rw[LW,List.map_append];rfl,by dsimp only;rw[Li];rfl,rfl,rfl,rfl,rfl,rfl,trivial⟩,by dsimp only;omega⟩
    ·refine⟨.int .i64 (fj:Int),by simp[Oi],rfl,rfl,rfl,rfl,rfl,?_,?_⟩
     ·refine .inl ?_;refine⟨by simp[q2,q3],by omega,by unfold maxLen;omega,.int .i64 (fj:Int),by simp[Oi],rfl,rfl,rfl,rfl,?_,?_⟩
      ·refine .inl ?_;refine⟨by simp[q2,q3],by omega,by unfold maxLen;omega,.int .i64 (fj:Int),by simp[Oi],rfl,rfl,rfl,rfl,?_⟩;refine .inl ?_;refine⟨by simp[q2,q3],by omega,by unfold maxLen;omega,((k+1:Nat):Int),wo,?_⟩;intro In w3 D;exact⟨(k+1,w3),⟨Ks,L.tr D.cG,hE.rel D X⟩,Sub.gn [(7,12),(8,13),(9,15)] D ⟨by dsimp only;rw[LW,List.length_append,List.length_singleton];rfl,by dsimp only;rw[LW,List.map_append];rfl,by dsimp only;rw[LW,List.map_append];rfl,by dsimp only;rw[Li];rfl,rfl,rfl,rfl,rfl,rfl,trivial⟩,by dsimp only;omega⟩
      ·refine⟨rfl,rfl,?_⟩;refine .inl ?_;refine⟨by simp[q2,q3],by omega,by unfold maxLen;omega,rfl,?_⟩;refine .inl ?_;refine⟨by simp[q2,q3],by omega,by unfold maxLen;omega,((k+1:Nat):Int),wo,?_⟩;intro In w3 D;exact⟨(k+1,w3),⟨Ks,L.tr D.cG,hE.rel D X⟩,Sub.gn [(7,12),(8,14),(9,15)] D ⟨by dsimp only;rw[LW,List.length_append,List.length_singleton];rfl,by dsimp only;rw[LW,List.map_append];rfl,by dsimp only;rw[LW,List.map_append];rfl,by dsimp only;rw[Li];rfl,rfl,rfl,rfl,rfl,rfl,trivial⟩,by dsimp only;omega⟩
     ·refine⟨rfl,rfl,rfl,?_⟩;refine .inl ?_;refine⟨by simp[q2,q3],by omega,by unfold maxLen;omega,rfl,rfl,?_⟩;refine .inl ?_;refine⟨by simp[q2,q3],by omega,by unfold maxLen;omega,rfl,?_⟩;refine .inl ?_;refine⟨by simp[q2,q3],by omega,by unfold maxLen;omega,((k+1:Nat):Int),wo,?_⟩;intro In w3 D;exact⟨(k+1,w3),⟨Ks,L.tr D.cG,hE.rel D X⟩,Sub.gn [(7,13),(8,14),(9,15)] D ⟨by dsimp only;rw[LW,List.length_append,List.length_singleton];rfl,by dsimp only;rw[LW,List.map_append];rfl,by dsimp only;rw[LW,List.map_append];rfl,by dsimp only;rw[Li];rfl,rfl,rfl,rfl,rfl,rfl,trivial⟩,by dsimp only;omega⟩
    ·refine⟨rfl,rfl,rfl,?_,?_⟩
     ·refine .inl ?_;refine⟨by simp[q2,q3],by omega,by unfold maxLen;omega,rfl,rfl,rfl,rfl,?_⟩;refine .inl ?_;refine⟨by simp[q2,q3],by omega,by unfold maxLen;omega,rfl,?_⟩;refine .inl ?_;refine⟨by simp[q2,q3],by omega,by unfold maxLen;omega,((k+1:Nat):Int),wo,?_⟩;intro In w3 D;exact⟨(k+1,w3),⟨Ks,L.tr D.cG,hE.rel D X⟩,Sub.gn [(7,12),(8,14),(9,15)] D ⟨by dsimp only;rw[LW,List.length_append,List.length_singleton];rfl,by dsimp only;rw[LW,List.map_append];rfl,by dsimp only;rw[LW,List.map_append];rfl,by dsimp only;rw[Li];rfl,rfl,rfl,rfl,rfl,rfl,trivial⟩,by dsimp only;omega⟩
     ·refine⟨rfl,rfl,rfl,?_⟩;refine .inl ?_;refine⟨by simp[q2,q3],by omega,by unfold maxLen;omega,rfl,rfl,?_⟩;refine .inl ?_;refine⟨by simp[q2,q3],by omega,by unfold maxLen;omega,rfl,?_⟩;refine .inl ?_;refine⟨by simp[q2,q3],by omega,by unfold maxLen;omega,((k+1:Nat):Int),wo,?_⟩;intro In w3 D;exact⟨(k+1,w3),⟨Ks,L.tr D.cG,hE.rel D X⟩,Sub.gn [(7,13),(8,14),(9,15)] D ⟨by dsimp only;rw[LW,List.length_append,List.length_singleton];rfl,by dsimp only;rw[LW,List.map_append];rfl,by dsimp only;rw[LW,List.map_append];rfl,by dsimp only;rw[Li];rfl,rfl,rfl,rfl,rfl,rfl,trivial⟩,by dsimp only;omega⟩
   ·refine⟨.int .i64 (fj:Int),by simp[Oi],rfl,rfl,rfl,rfl,.slice aj n cj,by simpa using OU,rfl,rfl,rfl,?_,?_⟩
    ·refine⟨.int .i64 (fj:Int),by simp[Oi],rfl,rfl,rfl,rfl,rfl,?_,?_⟩
     ·refine .inl ?_;refine⟨by simp[q2,q3],by omega,by unfold maxLen;omega,.int .i64 (fj:Int),by simp[Oi],rfl,rfl,rfl,rfl,?_,?_⟩
      ·refine .inl ?_;refine⟨by simp[q2,q3],by omega,by unfold maxLen;omega,.int .i64 (fj:Int),by simp[Oi],rfl,rfl,rfl,rfl,?_⟩;refine .inl ?_;refine⟨by simp[q2,q3],by omega,by unfold maxLen;omega,((k+1:Nat):Int),wo,?_⟩;intro In w3 D;exact⟨(k+1,w3),⟨Ks,L.tr D.cG,hE.rel D X⟩,Sub.gn [(7,12),(8,13),(9,15)] D ⟨by dsimp only;rw[LW,List.length_append,List.length_singleton];rfl,by dsimp only;rw[LW,List.map_append];rfl,by dsimp only;rw[LW,List.map_append];rfl,by dsimp only;rw[Li];rfl,rfl,rfl,rfl,rfl,rfl,trivial⟩,by dsimp only;omega⟩
      ·refine⟨rfl,rfl,?_⟩;refine .inl ?_;refine⟨by simp[q2,q3],by omega,by unfold maxLen;omega,rfl,?_⟩;refine .inl ?_;refine⟨by simp[q2,q3],by omega,by unfold maxLen;omega,((k+1:Nat):Int),wo,?_⟩;intro In w3 D;exact⟨(k+1,w3),⟨Ks,L.tr D.cG,hE.rel D X⟩,Sub.gn [(7,12),(8,14),(9,15)] D ⟨by dsimp only;rw[LW,List.length_append,List.length_singleton];rfl,by dsimp only;rw[LW,List.map_append];rfl,by dsimp only;rw[LW,List.map_append];rfl,by dsimp only;rw[Li];rfl,rfl,rfl,rfl,rfl,rfl,trivial⟩,by dsimp only;omega⟩
     ·refine⟨rfl,rfl,rfl,?_⟩;refine .inl ?_;refine⟨by simp[q2,q3],by omega,by unfold maxLen;omega,rfl,rfl,?_⟩;refine .inl ?_;refine⟨by simp[q2,q3],by omega,by unfold maxLen;omega,rfl,?_⟩;refine .inl ?_;refine⟨by simp[q2,q3],by omega,by unfold maxLen;omega,((k+1:Nat):Int),wo,?_⟩;intro In w3 D;exact⟨(k+1,w3),⟨Ks,L.tr D.cG,hE.rel D X⟩,Sub.gn [(7,13),(8,14),(9,15)] D ⟨by dsimp only;rw[LW,List.length_append,List.length_singleton];rfl,by dsimp only;rw[LW,List.map_append];rfl,by dsimp only;rw[LW,List.map_append];rfl,by dsimp only;rw[Li];rfl,rfl,rfl,rfl,rfl,rfl,trivial⟩,by dsimp only;omega⟩
    ·refine⟨rfl,rfl,.slice aj n cj,by simpa using OU,rfl,rfl,rfl,rfl,rfl,rfl,?_⟩;refine .inl ?_;refine⟨by simp[q2,q3],by omega,by unfold maxLen;omega,rfl,rfl,?_⟩;refine .inl ?_;refine⟨by simp[q2,q3],by omega,by unfold maxLen;omega,rfl,?_⟩;refine .inl ?_;refine⟨by simp[q2,q3],by omega,by unfold maxLen;omega,((k+1:Nat):Int),wo,?_⟩;intro In w3 D;exact⟨(k+1,w3),⟨Ks,L.tr D.cG,hE.rel D X⟩,Sub.gn [(7,13),(8,14),(9,15)] D ⟨by dsimp only;rw[LW,List.length_append,List.length_singleton];rfl,by dsimp only;rw[LW,List.map_append];rfl,by dsimp only;rw[LW,List.map_append];rfl,by dsimp only;rw[Li];rfl,rfl,rfl,rfl,rfl,rfl,trivial⟩,by dsimp only;omega⟩
   ·refine⟨rfl,rfl,.slice aj n cj,by simpa using OU,rfl,rfl,rfl,?_,?_⟩
    ·refine⟨rfl,rfl,rfl,?_,?_⟩
     ·refine .inl ?_;refine⟨by simp[q2,q3],by omega,by unfold maxLen;omega,rfl,rfl,rfl,rfl,?_⟩;refine .inl ?_;refine⟨by simp[q2,q3],by omega,by unfold maxLen;omega,rfl,?_⟩;refine .inl ?_;refine⟨by simp[q2,q3],by omega,by unfold maxLen;omega,((k+1:Nat):Int),wo,?_⟩;intro In w3 D;exact⟨(k+1,w3),⟨Ks,L.tr D.cG,hE.rel D X⟩,Sub.gn [(7,12),(8,14),(9,15)] D ⟨by dsimp only;rw[LW,List.length_append,List.length_singleton];rfl,by dsimp only;rw[LW,List.map_append];rfl,by dsimp only;rw[LW,List.map_append];rfl,by dsimp only;rw[Li];rfl,rfl,rfl,rfl,rfl,rfl,trivial⟩,by dsimp only;omega⟩
     ·refine⟨rfl,rfl,rfl,?_⟩;refine .inl ?_;refine⟨by simp[q2,q3],by omega,by unfold maxLen;omega,rfl,rfl,?_⟩;refine .inl ?_;refine⟨by simp[q2,q3],by omega,by unfold maxLen;omega,rfl,?_⟩;refine .inl ?_;refine⟨by simp[q2,q3],by omega,by unfold maxLen;omega,((k+1:Nat):Int),wo,?_⟩;intro In w3 D;exact⟨(k+1,w3),⟨Ks,L.tr D.cG,hE.rel D X⟩,Sub.gn [(7,13),(8,14),(9,15)] D ⟨by dsimp only;rw[LW,List.length_append,List.length_singleton];rfl,by dsimp only;rw[LW,List.map_append];rfl,by dsimp only;rw[LW,List.map_append];rfl,by dsimp only;rw[Li];rfl,rfl,rfl,rfl,rfl,rfl,trivial⟩,by dsimp only;omega⟩
    ·refine⟨rfl,rfl,.slice aj n cj,by simpa using OU,rfl,rfl,rfl,rfl,rfl,rfl,?_⟩;refine .inl ?_;refine⟨by simp[q2,q3],by omega,by unfold maxLen;omega,rfl,rfl,?_⟩;refine .inl ?_;refine⟨by simp[q2,q3],by omega,by unfold maxLen;omega,rfl,?_⟩;refine .inl ?_;refine⟨by simp[q2,q3],by omega,by unfold maxLen;omega,((k+1:Nat):Int),wo,?_⟩;intro In w3 D;exact⟨(k+1,w3),⟨Ks,L.tr D.cG,hE.rel D X⟩,Sub.gn [(7,13),(8,14),(9,15)] D ⟨by dsimp only;rw[LW,List.length_append,List.length_singleton];rfl,by dsimp only;rw[LW,List.map_append];rfl,by dsimp only;rw[LW,List.map_append];rfl,by dsimp only;rw[Li];rfl,rfl,rfl,rfl,rfl,rfl,trivial⟩,by dsimp only;omega⟩
 have Ks:k=cols:=aS W (by simpa using Ks);subst Ks;intro I' we re;have Mq:∀u∈jb rv at_ k,u.oneCell'=true:=fun u hu=>by
  obtain⟨i,N⟩:=aQ hu;obtain⟨x,F⟩:∃x,(cN (G8,at_,fr) k).1[i]? =some x:=⟨_,aA (by have:=(aC.1 N).1;omega)⟩
  obtain⟨r,V,I⟩:=wZ Mz LG k (by omega) i u x N F;obtain⟨a,c,rfl⟩:=hE.form V;rfl
 have h7:=re.lB (id:=7) (sz:=1) (m:=(cN (G8,at_,fr) k).2.1.length) rfl (by simp[q3]) (by unfold maxLen;omega) (by decide) Mq;have h8:=re.lB (id:=8) (sz:=1) (m:=(cN (G8,at_,fr) k).2.1.length) rfl (by simp) (by unfold maxLen;omega) (by decide) (fun u hu=>by obtain⟨c,_,rfl⟩:=aT.1 hu;rfl);have h9:=re.lB (id:=9) (sz:=1) (m:=(cN (G8,at_,fr) k).2.1.length) rfl (by simp[q2]) (by unfold maxLen;omega) (by decide) (fun u hu=>by obtain⟨c,_,rfl⟩:=aT.1 hu;rfl);have LI:=hE.rel re X;rw[hredS];refine⟨_,rfl,L.tr re.cG,_,_,_,rfl,⟨jb rv at_ k,?_,by omega,fun i u x k1 k2=>?_⟩,?_,?_⟩
 ·rw[q1];exact h7.bw fun g R=>.inr R
 ·obtain⟨r,V,I⟩:=wZ Mz LG k (by omega) i u x k1 k2;refine((LI.row r u x V I).read.bw (S':=Nw S w we) (C':=Nw S w we) (fun g R=>?_) fun g R=>Cv.nw R.1 re).c;exact Cv.nw (Hr (LI.new g ⟨u,aD V,R⟩)) re
 ·exact h8.bw fun g R=>.inr R
 ·show gi we _ 1 _ _ (cN (G8,at_,fr) k).2.2.length;rw[q2];exact h9.bw fun g R=>.inr R
end Go.Ex
