/- Texts Sx12 to Sx23: lemmas, each with its conditions. -/
import Derived.Laws.BytesString
import Derived.Test.YtgkpbdkechfgmaaGreatP1
namespace Go.Sx
open Go
variable{args:(Nat->da)->Array Value}{F' Q0 next:Act->World->Prop}{E9 R':Ending->World->Prop}{k:Env->Prop}{l:List (Nat×TI)}{B g:Nat}{O:Nat->da}{d:Option Tmp}{P:Program}
section
variable{P:Program}{τ:mS}{ops:Array Oper}{B n nx:Nat}{l:Env}{H:Hp}{iv:Iv}{w J:World}{O:Nat->da}{a:Act}
variable{Pd:List Nat}{Fd:List (Nat×Nat)}{lx la:Array Bool}{Q:Exit->Act->World->Prop}{md:Region.Mode}
theorem Cu(hr:Region.ready md ops la=[])(h:Q .normal a w):∀fuel,uE P md ops Q fuel la a w
 |0=>⟨hr,h⟩
 |_+1=>⟨fun _=>h,by rw[hr];simp⟩
theorem x6(sat:Sat n l H nx iv B w O a J){F':SV->Hp->Iv->World->Prop}{o:Oper}
  (h:Cw P B g args H nx iv w F') (Sa:(execOp a.eval o).run P J=(callFunc g (args O)).run P J)
  (Z:∀v I,F' (.o (.v v)) H ((J.heap.size,I.heap.size)::iv) I->Ext J I->Sat n l H nx ((J.heap.size,I.heap.size)::iv) B I O a I->next (a.put o.dst v) I):o.wp P a J next Q:=by
 have hc:=h.h O J sat.rel;unfold Oper.wp;rw[Sa,hc.e.h];refine Calls.mono hc.c fun e I R=>?_;obtain⟨v,rfl,RW,hK⟩:=R;refine Z v I hK RW ?_;have r:=(sat.rel.ext RW).here;refine sat.next (G8:=O) ?_ (aN _) (fun _ _=>rfl)
 refine Rel.mk' r.os r.tape r.output r.size r.base ?_ r.keys (fun id b hb=>r.fits hb) (fun id b hb=>r.scopd hb) r.inj r.low r.uC ?_
 .intro lo D hm;rcases List.mem_cons.1 hm with hm|hm
  .injection hm with Y X;omega
  .exact r.sN lo D hm
 .intro lo D hm id b hb Ok;rcases List.mem_cons.1 hm with hm|hm
  .injection hm with Y X;have:=(sat.rel.low id b hb Ok).2;omega
  .exact r.kI lo D hm id b hb Ok
theorem x7{o:Oper}{F':SV->Hp->Nat->Iv->World->Prop}(h:xZ true P τ B o l H nx iv w F')(sat:Sat n l H nx iv B w O a J)(hr:uD o.op=false)(ha:KR o.op=false)(hh:qY o=false)
  (Z:∀v I,F' (.o (.v v)) H nx ((J.heap.size,I.heap.size)::iv) I->Ext J I->Sat n l H nx ((J.heap.size,I.heap.size)::iv) B I O a I->next (a.put o.dst v) I):o.wp P a J next Q:=by
 obtain⟨dst,op,ty,pos,after,guard⟩:=o;simp only at hr ha;have:∃f args x,op= .call ⟨.value f,args,x⟩:=by
  simp only[qY,hr,ha,Bool.or_self,Bool.false_or,Bool.not_eq_false']at hh;split at hh
  .exact⟨_,_,_,rfl⟩
  .cases hh
 obtain⟨f,⟨args⟩,x,rfl⟩:=this;simp only[xZ]at h;obtain⟨vf,Y,hf,Qs⟩:=dO sat h;obtain⟨vs,X,QX,hss⟩:=qG sat Y;have RN:(args.toArray).map a.eval=mw O vs:=by
  apply Array.ext';simp[mw,QX]
 split at X
 .rename_i g first caps
  refine x6 sat X ?_ (fun v I hK R hs=>Z v I hK R hs);simp[execOp,resolve,hf,SV.den,At.den,Deferred.ofValue,invoke,RN]
 .rename_i g ids;refine x6 sat X ?_ (fun v I hK R hs=>Z v I hK R hs);simp[execOp,resolve,hf,SV.den,At.den,Deferred.ofValue,invoke,RN]
 .exact X.elim
def QN(Q0:Act->World->Prop):Exit->Act->World->Prop:=fun e a w=>e= .normal/\Q0 a w
theorem x8(sat:Sat n l H nx iv B w O a J){o:Oper}{yes no:Env->Prop}(h:sR ops.toList o.guard l yes no)(F:o.guard=none\/Pd=[]):
  (Region.wanted o (yielded ops a.tmps)=true/\∃l',yes l'/\Sat n l' H nx iv B w O a J/\(Pd≠[]->l'=l))\/
  (Region.wanted o (yielded ops a.tmps)=false/\Pd=[]/\∃l',no l'/\Sat n l' H nx iv B w O a J):=by
 by_cases Ri:o.guard=none
 .rw[Ri]at h;exact .inl ⟨by simp[Region.wanted,Ri],l,h,sat,fun _=>rfl⟩
 .have Ur:=F.resolve_left Ri;rcases kK sat h with⟨Y,l',X,N⟩|⟨Y,l',X,N⟩
  .exact .inl ⟨Y,l',X,N,fun OB=>absurd Ur OB⟩
  .exact .inr ⟨Y,Ur,l',X,N⟩
theorem kW(sat:Sat n l H nx iv B w O a J){v:SV}(h:Ct d v l k)(hd:∀t,d=some t->t<n)(hv:v.sc nx):
  ∃l',k l'/\Sat n l' H nx iv B w O (a.put d (v.den O)) J/\∀t,fO l t=none->d≠some t->fO l' t=none:=by
 unfold Ct at h;split at h
 .rename_i t;exact⟨_,h,sat.put (hd t rfl) hv,fun u hu OB=>by rw[eW,aF (fun e=>OB (by rw[e]))];exact hu⟩
 .exact⟨l,h,sat,fun t ht _=>ht⟩
theorem oc{Q:Exit->Act->World->Prop}{i:Nat}{o:Oper}(D:ops[i]? =some o)
  (h:(Region.wanted o (yielded ops a.tmps)=true/\o.wp P a J F' Q)\/(Region.wanted o (yielded ops a.tmps)=false/\F' (a.put o.dst undef) J)):wpOp P ops Q i F' a J:=by
 unfold wpOp;simp only[D]
 rcases h with⟨Y,X⟩|⟨Y,X⟩
 .rw[aH Y];exact .inl X
 .rw[aF (by simp[Y])];exact X
theorem II(hτ:fQ P τ)(OE:∀(j:Nat) o,ops[j]? =some o->∀d,o.dst=some d->d<n)(OY:∀(j:Nat) (o:Oper) L b,ops[j]? =some o->o.op≠ .select L b)
  {F':KT} (hQ:∀l' H' OF K I G8 a' w3,F' l' H' OF K I->Sat n l' H' OF K B I G8 a' w3->Q0 a' w3):
  ∀(m fuel:Nat) (π:List It) (lx la:Array Bool) (Pd:List Nat) (Fd:List (Nat×Nat)) (l:Env) (H:Hp) (nx:Nat) (iv:Iv) (w:World) (O:Nat->da) (a:Act) (J:World),
   fuel+π.length=m->Lt la<=fuel->o9 ops π lx Pd=true->Gz P τ B ops.toList π l H nx iv w F'->KU P ops n B Pd Fd lx la l H nx iv w O a J->uE P .any ops (QN Q0) fuel la a J:=by
 intro m
 induction m using Nat.strongRecOn with
 |_ m ih=>
 intro fuel π lx la Pd Fd l H nx iv w O a J hm Us hc h s
 match π with
 |[]=>
  simp only[o9,ai,List.isEmpty_iff]at hc;obtain⟨hr,rfl⟩:=hc;refine Cu ?_ ⟨rfl,hQ _ _ _ _ _ _ _ _ h s.sat⟩ fuel;refine List.eq_nil_iff_forall_not_mem.2 fun j hj=>?_;obtain⟨Y,o,X,N⟩:=eR.1 hj;have:j∈Region.ready .any ops lx:=by
   refine eR.2 ⟨?_,o,X,fun e R hb=>?_⟩
   .have OT:j<lx.size:=by rw[s.KV,<-s.KY];exact(bA.1 Y).1
    rw[Array.getElem?_eq_getElem OT]
    cases hb:lx[j]with
    |false=>rfl
    |true=>
     have:=(s.la j).2 (.inl (by rw[Array.getElem?_eq_getElem OT,hb]));rw[Y]at this;cases this
   .rcases(s.la e.on).1 (N e R hb)with h4|⟨g,h4⟩
    .exact h4
    .exact absurd (s.HC _ _ h4) bv
  rw[hr]at this
  cases this
 | .p i::r=>
  obtain⟨o,ho,Y⟩:=gQ h;rw[bE]at ho;simp only[o9,ho,ai]at hc;obtain⟨⟨⟨⟨⟨⟨c1,c2⟩,c3⟩,c4⟩,c5⟩,c6⟩,c7⟩:=hc
  cases hd:o.dst with
  |none=>rw[hd]at c3;cases c3
  |some d=>
  rw[hd]at c3;obtain⟨b,v,mk,obj,hK,-,-,-,-,-,UK⟩:=my hτ Y s.sat c1;rw[hd]at hK;obtain⟨l',hl,Qt,Ps⟩:=rI hK;have hmem:∀j∈Pd,j≠i:=fun j hj=>by
   have:=List.all_eq_true.1 c5 j hj;simpa only[Bool.not_eq_true',mU]using this
  have c6':∀j∈Pd,∀oj,ops[j]? =some oj->o.apart ops oj=true/\oj.apart ops o=true:=fun j hj oj QW=>by
   have:=List.all_eq_true.1 c6 j hj;simpa only[HA,QW,ai]using this
  have hlxi:lx[i]? =some false:=by
   have:lx.getD i true=false:=by simpa using c4
   rw[ah]at this
   cases G:lx[i]? with
   |none=>rw[G]at this;cases this
   |some b=>rw[G]at this;simp at this;rw[this]
  refine ih (fuel+r.length) (by simp only[bO]at hm;omega) fuel r lx la (i::Pd) Fd l' H nx iv w O a J rfl Us c7 hl ?_;refine⟨⟨s.sat.rel,s.sat.size,s.sat.defers,fun t v hv=>s.sat.env t v (Ps t v hv).2,fun t v hv=>s.sat.sc t v (Ps t v hv).2⟩,s.KV,s.KY,s.la,fun j g F=>aA _ (s.HC j g F),fun j hj=>?_,s.eg,s.inj,fun j hj j' hj' OB oj oj' N h4=>?_⟩
  .rcases List.mem_cons.1 hj with rfl|hj
   .refine⟨hlxi,o,d,mk,obj,ho,c1,by simpa using c2,⟨hd,by simpa using c3⟩,UK,Qt,fun g F=>absurd (s.HC _ _ F) (fun Rc=>hmem _ Rc rfl)⟩
   .obtain⟨h0,oj,dj,mkj,objj,g1,g2,g3,g4,g5,g6,g7⟩:=s.pd j hj;exact⟨h0,oj,dj,mkj,objj,g1,g2,g3,g4,g5,IH Ps g6,g7⟩
  .rcases List.mem_cons.1 hj with e1|k1<;>rcases List.mem_cons.1 hj' with e2|k2
   .exact absurd (e1.trans e2.symm) OB
   .rw[e1,ho]at N;injection N with N;subst N;exact(c6' j' k2 oj' h4).1
   .rw[e2,ho]at h4;injection h4 with h4;subst h4;exact(c6' j k1 oj N).2
   .exact s.ap j k1 j' k2 OB oj oj' N h4
 | .x i::r=>
  obtain⟨o,ho,Y⟩:=gQ h;unfold ga at Y;rw[bE]at ho;simp only[o9,ho,ai]at hc;obtain⟨⟨⟨⟨c1,c2⟩,c3⟩,c4⟩,c5⟩:=hc;have c2:i∈Region.ready .any ops lx:=by simpa using c2
  have c1:o.guard=none\/Pd=[]:=by simpa using c1
  have Q7:∀j∈Pd,j≠i->∀oj,ops[j]? =some oj->o.apart ops oj=true:=fun j hj Ol oj QW=>by
   have:=List.all_eq_true.1 c3 j hj;simpa only[HA,QW,Bool.or_eq_true,mU.2 Ol,Bool.false_eq_true,false_or]using this
  obtain⟨OZ,o',RO,hwait⟩:=eR.1 c2;rw[ho]at RO;injection RO with RO;subst RO;simp only[bO]at hm;have Tx:=OE i o ho;by_cases hE:∃g,(i,g)∈Fd
  ·
   obtain⟨g,F⟩:=hE;obtain⟨h0,o',d,mk',obj',g1,g2,g3,g4,g5,g6,g7⟩:=s.pd i (s.HC i g F);rw[ho]at g1;injection g1 with g1;subst g1;rw[g3,EX g2]at Y;have Y:xZ true P τ B o l H nx iv w fun v H' OF K J=>Ct o.dst v l fun l'=>Gz P τ B ops.toList r l' H' OF K J F':=Y;obtain⟨b,v,mk,obj,hK,PX,hb,hv,UJ,PU,UK⟩:=my hτ Y s.sat g2;obtain⟨l',hl,s'⟩:=s.Ml ho F hb hv UJ PU UK hK Tx Q7;exact ih (fuel+r.length) be fuel r _ _ _ _ _ _ _ _ _ _ _ _ rfl Us c5 hl s'
  .have UI:∀g,(i,g)∉Fd:=fun g F=>hE ⟨g,F⟩;have Q9:la[i]? =some false:=by
    have OT:i<la.size:=by rw[s.KY,<-s.KV];exact(bA.1 OZ).1
    rw[Array.getElem?_eq_getElem OT]
    cases hb:la[i]with
    |false=>rfl
    |true=>
     rcases(s.la i).1 (by rw[Array.getElem?_eq_getElem OT,hb])with X|X
     .rw[OZ]at X;cases X
     .exact absurd X hE
   have RX:i∈Region.ready .any ops la:=eR.2 ⟨Q9,o,ho,fun e R hb=>(s.la e.on).2 (.inl (hwait e R hb))⟩;have TN:=kJ Q9;obtain⟨f,rfl⟩:∃f,fuel=f+1:=⟨fuel-1,be⟩
   cases hR:uD o.op with
   |true=>
    rw[hR]at c4;obtain⟨Aa,Om,QP,hb3,Rd⟩:=EV c4 s.KV;have Po:∀j,Aa j->la.getD j false=false:=fun j hj=>by
     cases hl:la.getD j false with
     |false=>rfl
     |true=>
      have hl:la[j]? =some true:=by
       rw[ah]at hl
       cases G:la[j]? with
       |none=>rw[G]at hl;cases hl
       |some b=>rw[G]at hl;simp at hl;rw[hl]
      rcases(s.la j).1 hl with h4|⟨g,h4⟩
      .have:=QP j hj;rw[ah,h4]at this;cases this
      .exact absurd hj (hb3 j (s.HC j g h4))
    have Qa:∀j oj,ops[j]? =some oj->j≠i->la.getD j true=false->¬Aa j->o.apart ops oj=true/\(HB o.op=true\/qY oj=false):=by
     intro j oj QW Ol Sl Qm;have Sb:lx.getD j true=false:=by
      rw[ah]at Sl ⊢
      cases G:lx[j]? with
      |none=>
       have:la[j]? =none:=by
        rw[Array.getElem?_eq_none_iff]at G ⊢;rw[s.KY,<-s.KV];exact G
       rw[this]at Sl;cases Sl
      |some b=>
       cases b with
       |false=>rfl
       |true=>rw[(s.la j).2 (.inl G)]at Sl;cases Sl
     exact Rd j oj QW Ol Sb Qm
    rcases x8 s.sat Y c1 with⟨V,l1,X,sat1,Qt⟩|⟨V,Ur,l1,X,sat1⟩
    .obtain⟨v,hK,QX,OI⟩:=(lM hτ X sat1 hR).resolve_right (fun hh=>by have:=hh.1;rw[rJ hR]at this;cases this);obtain⟨l2,N,sat2,Ps⟩:=kW sat1 hK Tx QX;refine sS (pu:=HB o.op) (v:=v.den O) ho OY (fun c a w hq=>?_) Aa Om f la a J Po Qa RX (.inl ⟨V,fun w3 R=>OI w3 (R.imp id fun R=>sat1.rel.ext R)⟩) ?_
     .exact absurd hq.1 bv
     .refine ih (f+r.length) be f r _ _ _ _ _ _ _ _ _ _ _ _ rfl be c5 N (s.step OY ho UI Q7 sat2 ?_ (fun _ _ _=>Ext.refl _) (fun g _ SK RI _=>⟨SK,RI⟩));intro j hj Ol d hd OB;have Qt:=Qt (by intro e;rw[e]at hj;cases hj);subst Qt;exact Ps d hd OB
    .obtain⟨l2,N,sat2,Ps⟩:=kW (v:=.o (.v undef)) sat1 X Tx trivial;refine sS (pu:=HB o.op) (v:=undef) ho OY (fun c a w hq=>?_) Aa Om f la a J Po Qa RX (.inr ⟨V,rfl⟩) ?_
     .exact absurd hq.1 bv
     .refine ih (f+r.length) be f r _ _ _ _ _ _ _ _ _ _ _ _ rfl be c5 N (s.step OY ho UI Q7 sat2 ?_ (fun _ _ _=>Ext.refl _) (fun g _ SK RI _=>⟨SK,RI⟩));intro j hj;rw[Ur]at hj;cases hj
   |false=>
    rw[hR]at c4;simp only[ai]at c4;obtain⟨c4,c6⟩:=c4;have hpick:∀j∈Region.ready .any ops la,j=i\/(j≠i/\j∈Pd):=by
     intro j hj;by_cases Ol:j=i
     .exact .inl Ol
     .refine .inr ⟨Ol,?_⟩;apply Decidable.byContradiction;intro hjP;obtain⟨k1,oj,k2,k3⟩:=eR.1 hj;have:j∈Region.ready .any ops (Cn lx (Pd.filter fun j=> !Nat.beq j i)):=by
       refine eR.2 ⟨?_,oj,k2,fun e R hb=>?_⟩
       .have OT:j<(Cn lx (Pd.filter fun j=> !Nat.beq j i)).size:=by rw[Cs,s.KV,<-s.KY];exact(bA.1 k1).1
        rw[Array.getElem?_eq_getElem OT]
        cases hb:(Cn lx (Pd.filter fun j=> !Nat.beq j i))[j]with
        |false=>rfl
        |true=>
         rcases(x5 _ lx j).1 (by rw[Array.getElem?_eq_getElem OT,hb])with h4|⟨h4,_⟩
         .have:=(s.la j).2 (.inl h4);rw[k1]at this;cases this
         .exact absurd (List.mem_filter.1 h4).1 hjP
       .rw[x5];rcases(s.la e.on).1 (k3 e R hb)with h4|⟨g,h4⟩
        .exact .inl h4
        .refine .inr ⟨List.mem_filter.2 ⟨s.HC _ _ h4,?_⟩,?_⟩
         .simp only[Bool.not_eq_true',mU]
          intro e2;rw[e2]at h4;exact UI g h4
         .have:=(s.pd _ (s.HC _ _ h4)).1;exact(bA.1 this).1
      have:=List.all_eq_true.1 c6 j this;exact Ol (eG this)
    refine⟨fun R=>(by rw[R]at RX;cases RX),fun j hj=>?_⟩;have Sl:=(eR.1 hj).1;have hunj:=kJ Sl;rcases hpick j hj with rfl|⟨Ol,hjP⟩
    ·
     refine oc ho ?_;rcases x8 s.sat Y c1 with⟨V,l1,X,sat1,Qt⟩|⟨V,Ur,l1,X,sat1⟩
     .refine .inl ⟨V,?_⟩;have hl1':∀k∈Pd,k≠j->∀(l2:Env),(∀t,fO l1 t=none->o.dst≠some t->fO l2 t=none)->∀d,fO l d=none->o.dst≠some d->fO l2 d=none:=by
       intro k E _ l2 Ps d hd OB;have Qt:=Qt (by intro e;rw[e]at E;cases E);subst Qt;exact Ps d hd OB
      cases hA:KR o.op with
      |true=>
       obtain⟨b,v,mk,obj,hK,PX,hb,hv,UJ,PU,UK⟩:=my hτ X sat1 hA;have Oe:Rel ((nx,b)::H) (nx+1) iv B w (gR O nx ⟨J.heap.size,0,false⟩) (J.alloc obj):=
        sat1.rel.push b _ rfl rfl rfl bv (fun k E=>heap_alloc_old _ _ E) (fun _=>⟨aN _,bv⟩) (PU _ _ (heap_alloc_new _ _)) hb
       obtain⟨l2,N,sat2,Ps⟩:=kW (sat1.next Oe (Nat.le_succ _) (fun id Oh=>gS id Oh)) hK Tx hv;rw[UJ]at sat2;refine mE (v:=mk J.heap.size) (I:=J.alloc obj) (UK J) ⟨fun _=>Ext.alloc _ _,?_⟩;refine ih (f+r.length) be f r _ _ _ _ _ _ _ _ _ _ _ _ rfl be c5 N (s.step OY ho UI Q7 sat2 (fun k E hkj=>hl1' k E hkj l2 Ps) (fun _ _ _=>Ext.alloc _ _) (fun g F SK RI _=>⟨fun id c hc Z R=>?_,RI⟩));rw[dA]at hc;split at hc
       .rename_i e;subst e;rw[eh]at R;simp only at R;omega
       .have PV:gR O nx ⟨J.heap.size,0,false⟩ id=O id:=(gS id (s.sat.rel.keys id c hc)).symm;rw[PV]at Z R;exact SK id c hc Z R
      |false=>
       cases hH:qY o with
       |false=>
        rw[qc hH]at X;refine x7 X sat1 hR hA hH fun v I hK R hs=>⟨fun _=>R,?_⟩
        obtain⟨l2,N,sat2,Ps⟩:=kW (v:=.o (.v v)) hs hK Tx trivial;refine ih (f+r.length) be f r _ _ _ _ _ _ _ _ _ _ _ _ rfl be c5 N (s.step OY ho UI Q7 sat2 (fun k E hkj=>hl1' k E hkj l2 Ps) (fun _ _ _=>R) (fun g F SK RI _=>⟨SK,fun lo D hm hc=>?_⟩));rcases List.mem_cons.1 hm with hm|hm
        .injection hm with e1 e2;omega
        .exact RI lo D hm hc
       |true=>
        have Ur:Pd=[]:=by rw[hH]at c4;simpa using c4
        subst Ur;refine mz hτ X sat1 fun v H' OF K I G8 w3 hK sat2 hv=>⟨fun hs=>(by rw[hs o ho]at hH;cases hH),?_⟩
        obtain⟨l2,N,sat3,Ps⟩:=kW sat2 hK Tx hv;exact ih (f+r.length) be f r _ _ _ _ _ _ _ _ _ _ _ _ rfl be c5 N (s.step OY ho UI Q7 sat3 (fun k E=>by cases E) (fun k E=>by cases E) (fun g _ _ _ E=>by obtain⟨k,E,_⟩:=E;cases E))
     .refine .inr ⟨V,fun _=>Ext.refl _,?_⟩;subst Ur;obtain⟨l2,N,sat2,Ps⟩:=kW (v:=.o (.v undef)) sat1 X Tx trivial;exact ih (f+r.length) be f r _ _ _ _ _ _ _ _ _ _ _ _ rfl be c5 N (s.step OY ho UI Q7 sat2 (fun k E=>by cases E) (fun k E=>by cases E) (fun g _ _ _ E=>by obtain⟨k,E,_⟩:=E;cases E))
    ·
     refine s.early OE OY hjP Sl fun E' a2 I R s'=>⟨fun _=>R,?_⟩
     exact ih (f+(r.length+1)) be f (.x i::r) lx _ Pd E' l H nx iv w O a2 I rfl be (by simp only[o9,ho,ai];exact⟨⟨⟨⟨by simpa using c1,by simpa using c2⟩,c3⟩,by rw[hR];simp only[ai];exact⟨c4,c6⟩⟩,c5⟩) h s'
theorem Cx(hτ:fQ P τ)(hm:P.follows .mixedOrders=true){F':KT}(π:List It)(hs:Region.noSelect ops=true)(hc:Cr ops ops.size π 0 []=true)
  (h:Gz P τ B ops.toList π l H nx iv w F'):uF P B ops l H nx iv w F':=by
 rw[Ba π (Array.replicate ops.size false) 0 [] bv (fun j=>by rw[sQ,ah,Array.getElem?_replicate];split<;>rfl)]at hc;refine⟨fun n O a J OE sat Q hQ id=>?_⟩;refine wp_mono (Q':=Q) (c:=.region id ops true) (wp_region_any (Q:=QN (Q .normal)) hm (x9 _ _ _ _ ?_)) (fun e a w hq=>by obtain⟨rfl,hq⟩:=hq;exact hq);refine II hτ (fun j o ho d hd=>?_) (Region.noSelect_spec hs) hQ _ _ π _ _ [] [] l H nx iv w O a _ rfl ?_ hc h ?_
 .have:=List.all_eq_true.1 OE o (aG (by rw[bE];exact ho));rw[hd]at this;have h5:d+1<=n:=by simpa [Nat.blt]using this
  exact h5
 .unfold Lt;refine bB List.countP_le_length ?_;simp
 .refine⟨⟨sat.rel.drew,sat.size,sat.defers,sat.env,sat.sc⟩,bv,bv,fun j=>bv,fun j g h=>(by cases h),fun j h=>(by cases h),fun j g h=>(by cases h),fun j g j' h=>(by cases h),fun j h=>(by cases h)⟩
end
def xG:List (Nat×TI)->Nat->Option TI
 |[],_=>none
 |(t,v)::r,u=>match Nat.beq t u with
  |true=>some v
  |false=>xG r u
def NV:Value->Value->Bool
 | .bool a,.bool b=>a==b
 | .int k n,.int j m=>od k j&&decide (n=m)
 | .string a,.string b=>a.data.toList.isEmpty&&b.data.toList.isEmpty
 | .pointer none,.pointer none=>true
 | .slice none a b,.slice none c d=>Nat.beq a c&&Nat.beq b d
 | .map none,.map none=>true
 | .nilFunc,.nilFunc=>true
 | .nilIface,.nilIface=>true
 |_,_=>false
theorem Ac{a b:IntKind}(h:od a b=true):a=b:=by cases a<;>cases b<;>first|rfl|cases h
theorem Lu{a b:Value}(h:NV a b=true):a=b/\a.oneCell'=true:=by
 unfold NV at h;split at h
 .exact⟨by rw[eq_of_beq h],rfl⟩
 .simp only[ai,decide_eq_true_eq]at h;exact⟨by rw[Ac h.1,h.2],rfl⟩
 .rename_i a b;simp only[ai,List.isEmpty_iff]at h;refine⟨?_,rfl⟩;have ha:a=⟨#[]⟩:=by
   obtain⟨⟨l⟩⟩:=a;simp only at h;rw[h.1]
  have hb:b=⟨#[]⟩:=by
   obtain⟨⟨l⟩⟩:=b;simp only at h;rw[h.2]
  rw[ha,hb]
 .exact⟨rfl,rfl⟩
 .simp only[ai]at h;exact⟨by rw[eG h.1,eG h.2],rfl⟩
 .exact⟨rfl,rfl⟩
 .exact⟨rfl,rfl⟩
 .exact⟨rfl,rfl⟩
 .cases h
def KZ:List Value->List Value->Bool
 |[],[]=>true
 |a::r,b::s=>NV a b&&KZ r s
 |_,_=>false
theorem GA:∀{a b:List Value},KZ a b=true->a=b/\∀x∈b,x.oneCell'=true
 |[],[],_=>⟨rfl,bv⟩
 |a::r,b::s,h=>by
  simp only[KZ,ai]at h;obtain⟨Y,X⟩:=Lu h.1;obtain⟨N,h4⟩:=GA h.2;refine⟨by rw[Y,N],fun x G=>?_⟩;rcases List.mem_cons.1 G with rfl|G
  .rw[<-Y];exact X
  .exact h4 x G
 |[],_::_,h=>by cases h
 |_::_,[],h=>by cases h
def xH(P:Program):List Field->List (Nat×Nat)->Bool
 |[],[]=>true
 |f::r,(o,t)::s=>Nat.beq f.offset o&&Nat.beq f.type t&&(P.info? f.type).isSome&&xH P r s
 |_,_=>false
theorem xa{P:Program}:∀{a:List Field} {b:List (Nat×Nat)},xH P a b=true->a.map (fun f=>(f.offset,f.type))=b/\∀f∈a,(P.info? f.type).isSome=true
 |[],[],_=>⟨rfl,bv⟩
 |f::r,(o,t)::s,h=>by
  simp only[xH,ai]at h;obtain⟨N,h4⟩:=xa h.2;refine⟨by rw[List.map_cons,N,eG h.1.1.1,eG h.1.1.2],fun x G=>?_⟩;rcases List.mem_cons.1 G with rfl|G
  .exact h.1.2
  .exact h4 x G
 |[],_::_,h=>by cases h
 |_::_,[],h=>by cases h
def isAgg:TypeDesc->Bool
 | .struct _=>true
 | .array _ _=>true
 |_=>false
def Mm(a b:Bool):Bool:=match a with
 |true=>b
 |false=> !b
theorem Ka{a b:Bool}(h:Mm a b=true):a=b:=by cases a<;>cases b<;>first|rfl|cases h
def tokB(P:Program)(t:Nat)(i:TI):Bool:=
 (match P.info? t with
  |some inf=>Nat.beq inf.size i.size&&Nat.beq inf.bytes i.bytes&&(match inf.zero with
   |some z=>KZ z.cells.toList i.zero
   |none=>false)
  |none=>false)&&Nat.beq i.zero.length i.size&&
 (match P.underlying t with
  |some d=>Mm (isAgg d) i.agg&&(match i.tag with
   |1=>(match d with
    | .int k=>od k i.ik
    |_=>false)
   |2=>(match d with
    | .bool=>true
    |_=>false)
   |3=>(match d with
    | .string=>true
    |_=>false)
   |4=>(match d with
    | .slice e=>Nat.beq e i.elem
    |_=>false)
   |5=>(match d with
    | .struct fs=>xH P fs.toList i.fields
    |_=>false)
   |6=>(match d with
    | .array n e=>Nat.beq n i.B9&&Nat.beq e i.elem
    |_=>false)
   |_=>true)
  |none=>false)
theorem tok_of{t:Nat}{i:TI}(h:tokB P t i=true):EY P t i:=by
 simp only[tokB,ai]at h;obtain⟨⟨Y,X⟩,N⟩:=h
 cases D:P.info? t with
 |none=>rw[D]at Y;cases Y
 |some inf=>
 rw[D]at Y;simp only[ai]at Y;obtain⟨⟨h4,h5⟩,h6⟩:=Y
 cases hz:inf.zero with
 |none=>rw[hz]at h6;cases h6
 |some z=>
 rw[hz]at h6;obtain⟨h7,h8⟩:=GA h6
 cases hu:P.underlying t with
 |none=>rw[hu]at N;cases N
 |some d=>
 rw[hu]at N;simp only[ai]at N;obtain⟨h9,h10⟩:=N;refine⟨⟨inf,z,D,eG h4,eG h5,hz,h7⟩,eG X,h8,⟨d,hu,?_⟩,fun e=>?_,fun e=>?_,fun e=>?_,fun e=>?_,fun e=>?_,fun e=>?_⟩
 .rw[<-Ka h9]
  cases d<;>rfl
 all_goals rw[e]at h10
 .cases d with
  |int k=>simp only at h10;rw[<-Ac h10];exact hu
  |_=>cases h10
 .cases d with
  |bool=>exact hu
  |_=>cases h10
 .cases d with
  |string=>exact hu
  |_=>cases h10
 .cases d with
  |slice e=>simp only at h10;rw[<-eG h10];exact hu
  |_=>cases h10
 .cases d with
  |struct fs=>simp only at h10;exact⟨fs,hu,xa h10⟩
  |_=>cases h10
 .cases d with
  |array n e=>simp only[ai]at h10;rw[<-eG h10.1,<-eG h10.2];exact hu
  |_=>cases h10
theorem Lv(h:l.all (fun p=>tokB P p.1 p.2)=true):fQ P (xG l):=by
 intro t i D;have:(t,i)∈l:=by
  clear h
  induction l with
  |nil=>cases D
  |cons p r ih=>
   obtain⟨t0,i0⟩:=p;unfold xG at D;split at D
   .rename_i hb;injection D with D;subst D;rw[eG hb];exact aI ..
   .exact aA _ (ih D)
 exact tok_of (List.all_eq_true.1 h _ this)
theorem HD{fn:Func}{c:Code}(hf:P.funcs[g]? =some fn)(hb:fn.body=some c)(Z:(fn.name== "runtime.NumGoroutine")=false):IJ P g:=
 ⟨fun args w=>by simp only[beq_eq_false_iff_ne]at Z;simp[callFunc,hf,hb,Z]⟩
theorem eC.mono{args:Array Value}{w:World}(h:eC P g args w E9)(k:∀e I,E9 e I->R' e I):eC P g args w R':=
 ⟨h.e,Calls.mono h.c k⟩
abbrev jv(B:Nat)(w I:World):Prop:=RowKit.Below B w I
theorem jv.refl{w:World}:jv B w w:=RowKit.Below.refl _ _
theorem Rel.cN{H:Hp}{nx:Nat}{iv:Iv}{w J:World}(r:Rel H nx iv B w O J):jv B w J:=
 ⟨r.os,r.tape,r.output,r.size,fun k E=>r.uC k (by have:=r.base;omega) (fun id b h Z R=>by have:=(r.low id b h Z).1;omega)⟩
theorem jv.tr{a b c:World}(h:jv B a b)(k:jv B b c):jv B a c:=RowKit.Below.trans h k
theorem Ext.cN{a b:World}(h:Ext a b)(hB:B<=a.heap.size):jv B a b:=RowKit.Below.mono h hB
end Go.Sx
namespace Go.RowKit
open Go Go.Sx
theorem Below.cN{B:Nat}{a b:World}(h:RowKit.Below a.heap.size a b)(hB:B<=a.heap.size):RowKit.Below B a b:=RowKit.Below.mono h hB
end Go.RowKit
namespace Go.Sx
open Go
section
variable{args:(Nat->da)->Array Value}{If:(Nat->da)->World->Value->World->Prop}{H:Hp}{F':Int->Prop}{iv:Iv}{B i n nx:Nat}{O:Nat->da}{P:Program}
theorem cO{w I:World}{a:Addr}(h:I.heap[a.block]? =w.heap[a.block]?):I.cell? a=w.cell? a:=by
 unfold World.cell?;rw[h]
theorem jv.cell{w I:World}(h:jv B w I){a:Addr}(ha:a.block<B):I.cell? a=w.cell? a:=cO (h.block _ ha)
def Cy(l:Env):Env->Prop
 |[]=>True
 |(u,v)::r=>fO l u=some v/\Cy l r
theorem Cy.get{l:Env}:∀{t:Env},Cy l t->∀u v,fO t u=some v->fO l u=some v
 |[],_,u,v,h=>by cases h
 |(u0,v0)::r,h,u,v,F=>by
  rw[eW]at F;split at F
  .rename_i e;subst e;injection F with F;subst F;exact h.1
  .exact Cy.get h.2 u v F
def kL(n:Nat):Env->Prop
 |[]=>True
 |(_,v)::r=>v.sc n/\kL n r
theorem kL.get{n:Nat}:∀{t:Env},kL n t->∀u v,fO t u=some v->v.sc n
 |[],_,u,v,h=>by cases h
 |(u0,v0)::r,h,u,v,F=>by
  rw[eW]at F;split at F
  .injection F with F;subst F;exact h.1
  .exact kL.get h.2 u v F
theorem Rel.NW{w J:World}(r:Rel H nx iv B w O J):Rel H nx [] B w O J:=
 Rel.mk' r.os r.tape r.output r.size r.base bv r.keys (fun id b h=>r.fits h) (fun id b h=>r.scopd h) r.inj r.low r.uC bv
theorem Sub.reset{l tl:Env}{w J:World}(r:Rel H nx iv B w O J)(Y:Cy l tl)(X:kL nx tl):Sub B l nx O J ⟨tl,H,nx,[],J⟩:=
 ⟨O,r.here.NW,fun u v hv=>⟨X.get u v hv,v,Y.get u v hv,rfl⟩⟩
def eI(w:World)(If:Value->World->Prop)(e:Ending)(I:World):Prop:=∃v,e= .returned v/\Ext w I/\If v I
theorem cM{g:Nat}{w:World}{F':SV->Hp->Iv->World->Prop}
  (h:∀O J,Rel H nx iv B w O J->eC P g (args O) J (eI J (If O J))) (hK:∀O J v I,Rel H nx iv B w O J->Ext J I->jv B w I->If O J v I->F' (.o (.v v)) H ((J.heap.size,I.heap.size)::iv) I):Cw P B g args H nx iv w F':=
 ⟨fun O J r=>(h O J r).mono fun e I ⟨v,Y,X,N⟩=>⟨v,Y,X,hK O J v I r X (r.cN.tr (X.cN (by have:=r.base;have:=r.size;omega))) N⟩⟩
theorem cE{g:Nat}{w w0:World}{F':SV->Hp->Iv->World->Prop}(V:jv B w0 w)(If:(Nat->da)->World->Value->World->Prop)
  (h:∀O J,Rel H nx iv B w O J->eC P g (args O) J (eI J (If O J))) (hK:∀O J v I K,Rel H nx iv B w O J->Ext J I->jv B w0 I->K=(J.heap.size,I.heap.size)::iv->If O J v I->F' (.o (.v v)) H K I):Cw P B g args H nx iv w F':=
 cM h fun O J v I r Y X N=>hK O J v I _ r Y (V.tr X) rfl N
theorem mC{a:Nat×Nat}{K:Iv}(h:K=a::iv):∀p,p∈iv->p∈K:=h▸fun _ h=>aA _ h
theorem mN{a:Nat×Nat}{K:Iv}(h:K=a::iv):a∈K:=h▸aI
theorem wrap64{n:Int}(Y: -9223372036854775808<=n)(X:n<=9223372036854775807):IntKind.wrap .i64 n=n:=by
 have e1:(2:Int)^64=18446744073709551616:=by decide
 have e2:(2:Int)^(64-1)=9223372036854775808:=by decide
 simp only[IntKind.wrap,IntKind.bits,IntKind.signed,e1,e2]
 by_cases h:n % 18446744073709551616≥9223372036854775808
 .rw[aH (by simp[h])];omega
 .rw[aF (by simp[h])];omega
theorem wo{n r:Int}(h:(-9223372036854775808<=n/\n<=9223372036854775807)/\n=r:=by omega):IntKind.wrap .i64 n=r:=by rw[wrap64 h.1.1 h.1.2];exact h.2
theorem inc(i:Nat)(h:F' ((i+1:Nat):Int))(hb:i<9223372036854775807:=by omega):∃r,IntKind.wrap .i64 ((i:Int)+1)=r/\F' r:=⟨_,by rw[wrap64]<;>omega,h⟩
theorem dL(h:decide ((i:Int)<(n:Int))=true):i<n:=by have:=aE h;omega
theorem dE(D:i<=n)(h:decide ((i:Int)<(n:Int))=false):i=n:=by have:=aC h;omega
theorem gO{α:Type}(l:List α)(i:Nat)(h:i<l.length:=by omega):∃x,l[i]? =some x:=⟨_,aB h⟩
theorem exq{α:Type}(a:α):∃x,a=x:=⟨_,rfl⟩
theorem lr:n<=n:=aN n
theorem dec(h:i<n):n-(i+1)<n-i:=by omega
theorem l1{α:Type}{l:List α}{x:α}:(l++[x]).length=l.length+1:=by rw[aL];rfl
theorem mx(h:n<=9223372036854775807:=by omega):n<=maxLen:=h
theorem xI{n:Int}(Y:0<=n)(X:n<18446744073709551616):IntKind.wrap .u64 n=n:=by
 have e1:(2:Int)^64=18446744073709551616:=by decide
 simp only[IntKind.wrap,IntKind.bits,IntKind.signed,e1,Bool.false_and,Bool.false_eq_true,if_false]
 omega
theorem xJ{n:Int}(Y:0<=n)(X:n<4294967296):IntKind.wrap .u32 n=n:=by
 have e1:(2:Int)^32=4294967296:=by decide
 simp only[IntKind.wrap,IntKind.bits,IntKind.signed,e1,Bool.false_and,Bool.false_eq_true,if_false]
 omega
end
variable{args:(Nat->da)->Array Value}{If:(Nat->da)->World->Value->World->Prop}{next:Act->World->Prop}{after:Array Edge}{es:Array MapEntry}{ag ag':Bool}{Q:Exit->Act->World->Prop}{tH:Hp}{m:Int}{ik ik' k:IntKind}{F':KT}{fs fs':List (Nat×Nat)}{L cs2 ks xs ze:List Value}{B bt clock g id r sz t tag' ty:Nat}{O:Nat->da}{i y:Operand}{guard:Option (Nat×Bool)}{row:Option Nat}{dst:Option Tmp}{pos:String}{key z:Value}{KS:Value->Prop}
section
variable{P:Program}{τ:mS}{B nx:Nat}{l:Env}{H:Hp}{iv:Iv}{w J I:World}{O:Nat->da}
theorem Rel.Cz{OH:Iv}(r:Rel H nx iv B w O J)(Oj:J.heap.size<=I.heap.size)(Rj:∀id b,cw H id=some b->(O id).nil=false->I.heap[(O id).g]? =J.heap[(O id).g]?)
  (UL:∀lo D,(lo,D)∈OH->D<=I.heap.size/\∀id b,cw H id=some b->(O id).nil=false->¬(lo<=(O id).g/\(O id).g<D)):Rel H nx OH B I O I:=
 Rel.mk' rfl rfl rfl (aN _) (by have:=r.base;have:=r.size;omega) (fun lo D h=>(UL lo D h).1) r.keys
  (fun id b h=>j1.gu (r.fits h) (fun _ _=>rfl) (r.scopd h) (fun Z _=>Rj id b h Z)) (fun id b h=>r.scopd h) r.inj
  (fun id b h Z=>by have:=r.low id b h Z;omega) (fun _ _ _=>rfl) (fun lo D h=>(UL lo D h).2)
theorem xb(hτ:fQ P τ){Bc:Nat}(hBc:Bc<=B){x:Operand}{e by_ k m:Nat}{ze':List Value}{sz0 e' al al':Nat}
  {v:Value} {vy:SV} {news:List Value} {F':SV->Hp->Nat->Iv->World->Prop}
  (ht:τ t=some ⟨sz0,ag,bt,ze,4,ik,e,al,fs⟩) (Oq:τ e=some ⟨sz,ag',by_,ze',tag',ik',e',al',fs'⟩) (PB:0<sz) (G:ev l x=some (.o (.v v))) (hy:ev l y=some vy)
  (RY:∀O J,Rel H nx iv B w O J->J.ownsRow Bc e sz v m xs/\∀g,v.ownBlock=some g->∀id b,cw H id=some b->(O id).nil=false->(O id).g≠g)
  (Qn:news.length=k*sz) (hn1:∀u∈news,u.oneCell'=true) (Qo:m+k<=maxLen) (hb:(m+k)*by_<=140737488355328)
  (src:∀O J,Rel H nx iv B w O J->(∃c,vy.den O= .slice none 0 c/\k=0)\/∃ad c,vy.den O= .slice (some ad) k c/\∀(j:Nat) u,news[j]? =some u->J.cell? (ad.add j)=some u)
  (OH:Value->World->Iv)
  (UL:∀O J v' I,Rel H nx iv B w O J->J.heap.size<=I.heap.size->(∀g,v'.ownBlock=some g->g<I.heap.size/\(v.ownBlock=some g\/g=J.heap.size))->∀lo D,(lo,D)∈OH v' I->D<=I.heap.size/\∀id b,cw H id=some b->(O id).nil=false->¬(lo<=(O id).g/\(O id).g<D))
  (hK:∀O J v' I,Rel H nx iv B w O J->I.ownsRow Bc e sz v' (m+k) (xs++news)->J.grownBy I v.ownBlock->(v'.ownBlock=v.ownBlock\/v'.ownBlock=some J.heap.size)->F' (.o (.v v')) H nx (OH v' I) I):
  xK P B ⟨dst,.call ⟨.builtin .append,⟨[x,y]⟩,⟨[t,t]⟩⟩,ty,pos,after,guard⟩ l H nx iv w F':=by
 refine⟨fun O J ev' r Pz=>?_⟩;have hto:=hτ t _ ht;have hu:=hto.i4 rfl;simp only at hu;have RJ:=hτ e _ Oq;obtain⟨inf,z,D,Oj,Oy,hz,Qp⟩:=RJ.info;have RD:=RJ.HE;simp only at Oj Oy Qp RD;have hzs:z.cells.size=sz:=by rw[<-RD,<-Qp];simp
 obtain⟨OD,OB⟩:=RY O J r;have key:∃v' I,(Builtin.append_ #[t,t] ty #[v,vy.den O]).run P J= .ok v' I/\I.ownsRow Bc e sz v' (m+k) (xs++news)/\J.grownBy I v.ownBlock/\(v'.ownBlock=v.ownBlock\/v'.ownBlock=some J.heap.size):=by
  rcases src O J r with⟨c,hv,rfl⟩|⟨ad,c,hv,Oi⟩
  .have:news=[]:=List.eq_nil_of_length_eq_zero (by simpa using Qn);subst this;rw[hv];exact⟨v,J,k6 J Bc t ty e inf sz hu D v m xs OD c,by simpa using OD,⟨rfl,rfl,rfl,aN _,fun _ _ _=>rfl⟩,.inl rfl⟩
  .rw[hv];obtain⟨v',I,Y,X,N,_,h5⟩:=run_append_own_at (P:=P) J Bc t ty e inf z sz by_ hu D hz Oj Oy hzs PB v m xs OD ad k c news Qn Oi hn1 Qo hb (by have:=r.base;have:=r.size;omega);exact⟨v',I,Y,X,N,h5⟩
 obtain⟨v',I,Y,X,N,h4⟩:=key;have e1:=Pz x _ G;have e2:=Pz y _ hy;have Qb:∀g,v'.ownBlock=some g->g<I.heap.size/\(v.ownBlock=some g\/g=J.heap.size):=fun g F=>by
  refine⟨?_,?_⟩
  .rcases X.2 with⟨rfl,_⟩|⟨g',cap,cur,rfl,_,hc,_⟩
   .cases F
   .simp only[Value.ownBlock,Option.some.injEq]at F;subst F;exact(bA.1 hc).1
  .rcases h4 with h4|h4
   .exact .inl (h4▸F)
   .rw[h4]at F;injection F with F;exact .inr F.symm
 refine⟨v',I,OH v' I,.inl ?_,r.Cz N.size (fun id b h Z=>N.block _ (r.low id b h Z).2 (fun e=>OB _ e.symm id b h Z rfl)) (UL O J v' I r N.size Qb),hK O J v' I r X N h4⟩;have e1:ev' x=v:=e1;generalize vy.den O=yy at*
 simp[execOp,resolve,invoke,builtin,e1,e2,Y]
theorem jv.grown{B0:Nat}(h:J.grownBy I row)(hr:∀g,row=some g->B0<=g)(hB:B0<=J.heap.size):jv B0 J I:=
 ⟨h.os,h.tape,h.output,h.size,fun k E=>h.block k be (fun e=>by have:=hr k e.symm;omega)⟩
theorem ownsRow.low{e m:Nat}{v:Value}(h:w.ownsRow B e sz v m xs):∀g,v.ownBlock=some g->B<=g/\g<w.heap.size:=by
 intro g F;rcases h.2 with⟨rfl,_⟩|⟨g',cap,cur,rfl,hb,hc,_⟩
 .cases F
 .simp only[Value.ownBlock,Option.some.injEq]at F;subst F;exact⟨hb,(bA.1 hc).1⟩
theorem ownsRow.cK{e m:Nat}{v:Value}(h:w.ownsRow B e sz v m xs)(E:∀g,v.ownBlock=some g->I.heap[g]? =w.heap[g]?):I.ownsRow B e sz v m xs:=by
 refine⟨h.1,?_⟩;rcases h.2 with Y|⟨g',cap,cur,rfl,hb,hc,X⟩
 .exact .inl Y
 .exact .inr ⟨g',cap,cur,rfl,hb,by rw[E g' rfl];exact hc,X⟩
end
def At.Cl(f:Nat->Nat):At->At
 | .v x=>.v x
 | .p id off=>.p (f id) off
 | .s id off len cap=>.s (f id) off len cap
 | .w id len=>.w (f id) len
 | .fn g caps=>.fn g (caps.map f)
def SV.Cl(f:Nat->Nat):SV->SV
 | .o x=>.o (x.Cl f)
 | .a L=>.a (L.map (At.Cl f))
def j1.Cl(f:Nat->Nat):j1->j1
 | .box t L=>.box t (L.map (At.Cl f))
 | .arr t L=>.arr t L
 | .vec t size L=>.vec t size L
 | .dead=>.dead
theorem At.sT(f:Nat->Nat)(O:Nat->da)(x:At):(x.Cl f).den O=x.den (fun i=>O (f i)):=by
 cases x<;>simp[At.Cl,At.den]
theorem SV.sT(f:Nat->Nat)(O:Nat->da)(x:SV):(x.Cl f).den O=x.den (fun i=>O (f i)):=by
 cases x with
 |o x=>exact At.sT f O x
 |a L=>
  have:At.den O ∘ At.Cl f=At.den (fun i=>O (f i)):=funext fun x=>At.sT f O x;simp[SV.Cl,SV.den,this]
def xc:List (Nat×Nat)->Nat->Nat
 |[],n=>n
 |(a,b)::r,n=>match Nat.beq a n with
  |true=>b
  |false=>xc r n
def Ad(f:Nat->Nat)(l:Env):Env->Prop
 |[]=>True
 |(u,v)::r=>fO l u=some (v.Cl f)/\Ad f l r
def Ae(f:Nat->Nat)(H:Hp):Hp->Prop
 |[]=>True
 |(u,b)::r=>cw H (f u)=some (b.Cl f)/\Ae f H r
def Lw(n:Nat):Hp->Prop
 |[]=>True
 |(u,b)::r=>(u<n/\b.scopd n)/\Lw n r
def IK(f:Nat->Nat):Hp->Bool
 |[]=>true
 |(u,_)::r=>r.all (fun p=>Nat.beq p.1 u|| !Nat.beq (f p.1) (f u))&&IK f r
theorem Ad.get{f:Nat->Nat}{l:Env}:∀{t:Env},Ad f l t->∀u v,fO t u=some v->fO l u=some (v.Cl f)
 |[],_,u,v,h=>by cases h
 |(u0,v0)::r,h,u,v,F=>by
  rw[eW]at F;split at F
  .rename_i e;subst e;injection F with F;subst F;exact h.1
  .exact Ad.get h.2 u v F
theorem Ae.get{f:Nat->Nat}{l:Hp}:∀{t:Hp},Ae f l t->∀u v,cw t u=some v->cw l (f u)=some (v.Cl f)
 |[],_,u,v,h=>by cases h
 |(u0,v0)::r,h,u,v,F=>by
  rw[dA]at F;split at F
  .rename_i e;subst e;injection F with F;subst F;exact h.1
  .exact Ae.get h.2 u v F
theorem Lw.get{n:Nat}:∀{t:Hp},Lw n t->∀u b,cw t u=some b->u<n/\b.scopd n
 |[],_,u,v,h=>by cases h
 |(u0,v0)::r,h,u,v,F=>by
  rw[dA]at F;split at F
  .rename_i e;subst e;injection F with F;subst F;exact h.1
  .exact Lw.get h.2 u v F
theorem DA:∀{t:Hp} {u:Nat} {b:j1},cw t u=some b->∃p∈t,p.1=u
 |[],u,b,h=>by cases h
 |(u0,v0)::r,u,b,h=>by
  rw[dA]at h;split at h
  .rename_i e;exact⟨_,aI ..,e⟩
  .obtain⟨p,Y,X⟩:=DA h;exact⟨p,aA _ Y,X⟩
theorem Af{f:Nat->Nat}:∀{t:Hp},IK f t=true->∀u v b c,cw t u=some b->cw t v=some c->f u=f v->u=v
 |[],_,u,v,b,c,h,_,_=>by cases h
 |(u0,v0)::r,D,u,v,b,c,hu,hv,R=>by
  simp only[IK,ai]at D;have key:∀{w:Nat} {d:j1},cw r w=some d->f w=f u0->w=u0:=fun{w d} V hf=>by
   obtain⟨p,hp,rfl⟩:=DA V;have:=List.all_eq_true.1 D.1 p hp;simp only[Bool.or_eq_true,Bool.not_eq_true']at this;rcases this with h|h
   .exact eG h
   .rw[hf,Nat.beq_refl]at h;cases h
  rw[dA]at hu hv;split at hu<;>split at hv
  .rename_i x y;rw[<-x,<-y]
  .rename_i x y;subst x;exact(key hv R.symm).symm
  .rename_i x y;subst y;exact key hu R
  .exact Af D.2 u v b c hu hv R
theorem Sub.gen{l tl:Env}{nx OF:Nat}{H:Hp}{iv K:Iv}{w J:World}(m:List (Nat×Nat))(r:Rel H nx iv B w O J)
  (hH:Ae (xc m) H tH) (hE:Ad (xc m) l tl) (hsH:Lw OF tH) (hsE:kL OF tl) (D:IK (xc m) tH=true) (UL:∀lo D,(lo,D)∈K->(lo,D)∈iv):Sub B l nx O J ⟨tl,tH,OF,K,J⟩:=by
 refine⟨fun i=>O (xc m i),(?_:Rel tH OF K B J (fun i=>O (xc m i)) J),fun u v hv=>⟨hsE.get u v hv,_,hE.get u v hv,SV.sT _ _ _⟩⟩;refine Rel.mk' rfl rfl rfl (aN _) (by have:=r.base;have:=r.size;omega) (fun lo D h=>by have:=r.sN lo D (UL lo D h);have:=r.size;omega) (fun id b h=>(hsH.get id b h).1) ?_ (fun id b h=>(hsH.get id b h).2) ?_ ?_ (fun _ _ _=>rfl) ?_
 .intro id b h;have Y:=r.fits (hH.get id b h);have hr:At.den O ∘ At.Cl (xc m)=At.den (fun i=>O (xc m i)):=funext fun x=>At.sT _ O x
  cases b with
  |box t L=>simpa [j1.Cl,j1.fits,hr]using Y
  |arr t L=>exact Y
  |vec t size L=>exact Y
  |dead=>trivial
 .intro id id' b b' h h' hd Uq Z hn' R;refine Af D id id' b b' h h' (r.inj _ _ _ _ (hH.get id b h) (hH.get id' b' h') ?_ ?_ Z hn' R)
  .cases b<;>first|(exact absurd rfl hd)|simp[j1.Cl]
  .cases b'<;>first|(exact absurd rfl Uq)|simp[j1.Cl]
 .intro id b h Z;exact r.low _ _ (hH.get id b h) Z
 .intro lo Rw h id b hb Z;exact r.kI lo Rw (UL lo Rw h) _ _ (hH.get id b hb) Z
theorem sbgn{l tl:Env}{nx OF:Nat}{H:Hp}{iv K:Iv}{w J:World}(m:List (Nat×Nat))(r:Rel H nx iv B w O J)
  (hH:Ae (xc m) H tH:=by repeat' first|exact trivial|refine⟨rfl,?_⟩) (hE:Ad (xc m) l tl:=by repeat' first|exact trivial|refine⟨rfl,?_⟩) (hsH:Lw OF tH:=by simp[Lw,j1.scopd,At.sc]) (hsE:kL OF tl:=by simp[kL,SV.sc,At.sc,fp]) (D:IK (xc m) tH=true:=by rfl) (UL:∀lo D,(lo,D)∈K->(lo,D)∈iv:=by first|exact fun _ _ h=>h|simp):Sub B l nx O J ⟨tl,tH,OF,K,J⟩:=Sub.gen m r hH hE hsH hsE D UL
def wN(H:Hp):Hp->Prop
 |[]=>True
 |(u,b)::r=>cw H u=some b/\wN H r
def DB(id:Nat):Hp->Bool
 |[]=>true
 |(_,.dead)::_=>false
 |(u,_)::r=> !Nat.beq u id&&DB id r
theorem wN.get{H:Hp}:∀{t:Hp},wN H t->∀{u b},cw t u=some b->cw H u=some b
 |[],_,u,b,h=>by cases h
 |(v,c)::r,hs,u,b,h=>by
  unfold cw at h;split at h
  .rename_i e;injection h with h;subst h;have:=bQ e;subst this;exact hs.1
  .exact wN.get hs.2 h
theorem DB.get{id:Nat}:∀{t:Hp},DB id t=true->∀{u b},cw t u=some b->u≠id/\b≠ .dead
 |[],_,u,b,h=>by cases h
 |(v,c)::r,hs,u,b,h=>by
  unfold cw at h;split at h
  .rename_i e;injection h with h;subst h;have:=bQ e;subst this;have hv:v.beq id=false->v≠id:=fun h e=>by rw[e,Nat.beq_refl]at h;cases h
   cases c<;>simp_all [DB]
  .refine DB.get (t:=r) ?_ h
   cases c<;>simp_all [DB]
section
variable{P:Program}{B nx:Nat}{H H':Hp}{iv:Iv}{w J I:World}{O:Nat->da}
theorem Rel.free{b:j1}(r:Rel H nx iv B w O J)(Oh:cw H id=some b)(hd:b≠ .dead)(Z:(O id).nil=false)(hs:wN H H')(ho:DB id H'=true):Rel H' nx (((O id).g,(O id).g+1)::iv) B J O J:=by
 have Y:Rel H' nx iv B J O J:=Rel.mk' rfl rfl rfl (aN _) (by have:=r.base;have:=r.size;omega) (fun lo D hm=>by have:=r.sN lo D hm;have:=r.size;omega) (fun j c h=>r.keys j c (hs.get h))
  (fun j c h=>r.fits (hs.get h)) (fun j c h=>r.scopd (hs.get h)) (fun j k c e h h'=>r.inj j k c e (hs.get h) (hs.get h')) (fun j c h=>r.low j c (hs.get h)) (fun _ _ _=>rfl) (fun lo D hm j c h=>r.kI lo D hm j c (hs.get h))
 refine Y.more (by have:=(r.low id b Oh Z).2;omega) fun j c hj hnj R=>?_;obtain⟨X,N⟩:=DB.get ho hj;exact X (r.inj j id c b (hs.get hj) Oh N hd hnj Z be)
theorem gI{F':SV->Hp->Iv->World->Prop}(id:Nat){b:j1}(Oh:cw H id=some b)(hd:b≠ .dead)(hs:wN H H')(ho:DB id H'=true)
  (Z:∀O J,Rel H nx iv B w O J->(O id).nil=false)
  (hc:∀O J,Rel H nx iv B w O J->eC P g (args O) J (eI J (If O J)))
  (h:∀O J v I,Rel H nx iv B w O J->Ext J I->jv B w I->If O J v I->F' (.o (.v v)) H' (((O id).g,(O id).g+1)::(J.heap.size,I.heap.size)::iv) I):DC P B g args H nx iv w F':=
 ⟨fun O J r=>⟨(hc O J r).e,Calls.mono (hc O J r).c fun e I R=>by
  obtain⟨v,Y,X,N⟩:=R;have r2:Rel H nx ((J.heap.size,I.heap.size)::iv) B I O I:=(r.ext X).here.more (aN _) (fun j c hj Z=>by have:=(r.low j c hj Z).2;omega)
  exact⟨v,H',_,Y,r2.free Oh hd (Z O J r) hs ho,h O J v I r X (r.cN.tr (X.cN (by have:=r.base;have:=r.size;omega))) N⟩⟩⟩
end
inductive Tr where
 |nil
 |one (i:Nat) (t:Tr)
 |two (i:Nat) (t:Tr) (j:Nat) (u:Tr)
def Tr.depth:Tr->Nat
 | .nil=>0
 | .one _ t=>t.depth+1
 | .two _ t _ u=>max t.depth u.depth+1
def vG(ops:Array Oper):Tr->Array Bool->Bool
 | .nil,la=>(Region.ready .any ops la).isEmpty
 | .one i t,la=>match Region.ready .any ops la with
  |[x]=>Nat.beq x i&&vG ops t (la.setIfInBounds i true)
  |_=>false
 | .two i t j u,la=>match Region.ready .any ops la with
  |[x,y]=>Nat.beq x i&&(Nat.beq y j&&(vG ops t (la.setIfInBounds i true)&&vG ops u (la.setIfInBounds j true)))
  |_=>false
def IL(P:Program)(τ:mS)(B:Nat)(all:List Oper):Tr->Env->Hp->Nat->Iv->World->KT->Prop
 | .nil,l,H,nx,iv,w,F'=>F' l H nx iv w
 | .one i t,l,H,nx,iv,w,F'=>rG all i (fun o=>ga false P τ B all o l H nx iv w (fun l' H' OF K J=>IL P τ B all t l' H' OF K J F'))
 | .two i t j u,l,H,nx,iv,w,F'=>rG all i (fun o=>ga false P τ B all o l H nx iv w (fun l' H' OF K J=>IL P τ B all t l' H' OF K J F'))/\
   rG all j (fun o=>ga false P τ B all o l H nx iv w (fun l' H' OF K J=>IL P τ B all u l' H' OF K J F'))
section
variable{P:Program}{τ:mS}{ops:Array Oper}{B n nx:Nat}{l:Env}{H:Hp}{iv:Iv}{w J:World}{O:Nat->da}{a:Act}
theorem Bb(hτ:fQ P τ)(OE:∀(j:Nat) o,ops[j]? =some o->∀d,o.dst=some d->d<n){i:Nat}
  (h:rG ops.toList i (fun o=>ga false P τ B ops.toList o l H nx iv w F')) (sat:Sat n l H nx iv B w O a J)
  (Z:∀l' H' OF K I G8 a' w3,F' l' H' OF K I->Sat n l' H' OF K B I G8 a' w3->next a' w3):wpOp P ops Q i next a J:=by
 obtain⟨o,ho,Y⟩:=gQ h;rw[bE]at ho;have hd:=OE i o ho;unfold ga at Y;refine oc ho ?_;rcases kK sat Y with⟨V,l1,X,sat1⟩|⟨V,l1,X,sat1⟩
 .refine .inl ⟨V,mz hτ X sat1 fun v H' OF K I G8 w3 N sat2 hv=>?_⟩;obtain⟨l2,h4,sat3⟩:=gv sat2 N hd hv;exact Z _ _ _ _ _ _ _ _ h4 sat3
 .obtain⟨l2,h4,sat3⟩:=gv sat1 X hd trivial;exact .inr ⟨V,Z _ _ _ _ _ _ _ _ h4 sat3⟩
theorem sU(hτ:fQ P τ)(OE:∀(j:Nat) o,ops[j]? =some o->∀d,o.dst=some d->d<n){F':KT}{Q:Exit->Act->World->Prop}
  (hQ:∀l' H' OF K I G8 a' w3,F' l' H' OF K I->Sat n l' H' OF K B I G8 a' w3->Q .normal a' w3):
  ∀(t:Tr) (fuel:Nat) (la:Array Bool) (l:Env) (H:Hp) (nx:Nat) (iv:Iv) (w:World) (O:Nat->da) (a:Act) (J:World),t.depth<=fuel->vG ops t la=true->IL P τ B ops.toList t l H nx iv w F'->Sat n l H nx iv B w O a J->wpAny P .any ops Q fuel la a J
 | .nil,fuel,la,l,H,nx,iv,w,O,a,J,_,hc,h,s=>by
  simp only[vG,List.isEmpty_iff]at hc;have hq:=hQ _ _ _ _ _ _ _ _ h s
  cases fuel with
  |zero=>exact⟨hc,hq⟩
  |succ fuel=>exact⟨fun _=>hq,fun i D=>by rw[hc]at D;cases D⟩
 | .one i t,fuel,la,l,H,nx,iv,w,O,a,J,hf,hc,h,s=>by
  simp only[Tr.depth]at hf;obtain⟨fuel,rfl⟩:∃q,fuel=q+1:=⟨fuel-1,be⟩
  simp only[vG]at hc;split at hc
  .rename_i x hr;simp only[ai]at hc;have G:=bQ hc.1;subst G;refine⟨fun h0=>(by rw[hr]at h0;cases h0),fun j hj=>?_⟩;rw[hr,bJ]at hj;subst hj;exact Bb hτ OE h s fun _ _ _ _ _ _ _ _ E hs=>sU hτ OE hQ t fuel _ _ _ _ _ _ _ _ _ be hc.2 E hs
  .cases hc
 | .two i t k u,fuel,la,l,H,nx,iv,w,O,a,J,hf,hc,h,s=>by
  simp only[Tr.depth]at hf;obtain⟨fuel,rfl⟩:∃q,fuel=q+1:=⟨fuel-1,be⟩
  simp only[vG]at hc;split at hc
  .rename_i x y hr;simp only[ai]at hc;obtain⟨c1,c2,c3,c4⟩:=hc;have G:=bQ c1;have hy:=bQ c2;subst G;subst hy;obtain⟨Y,X⟩:=h;refine⟨fun h0=>(by rw[hr]at h0;cases h0),fun j hj=>?_⟩;rw[hr,List.mem_cons,bJ]at hj;rcases hj with rfl|rfl
   .exact Bb hτ OE Y s fun _ _ _ _ _ _ _ _ E hs=>sU hτ OE hQ t fuel _ _ _ _ _ _ _ _ _ be c3 E hs
   .exact Bb hτ OE X s fun _ _ _ _ _ _ _ _ E hs=>sU hτ OE hQ u fuel _ _ _ _ _ _ _ _ _ be c4 E hs
  .cases hc
theorem iK(hτ:fQ P τ)(hm:P.follows .mixedOrders=true)(t:Tr)(hc:(Nat.ble t.depth ops.size&&vG ops t (Array.replicate ops.size false))=true)
  (h:IL P τ B ops.toList t l H nx iv w F'):uF P B ops l H nx iv w F':=by
 simp only[ai]at hc;refine⟨fun n O a J OE sat Q hQ id=>?_⟩;refine wp_region_any hm (sU hτ (fun j o ho d hd=>?_) hQ t _ _ _ _ _ _ _ O _ _ (Nat.le_of_ble_eq_true hc.1) hc.2 h ⟨sat.rel.drew,sat.size,sat.defers,sat.env,sat.sc⟩);have:=List.all_eq_true.1 OE o (aG (by rw[bE];exact ho));rw[hd]at this;have h5:d+1<=n:=by simpa [Nat.blt]using this
 exact h5
end
section
variable{P:Program}{τ:mS}{B n nx:Nat}{l:Env}{H:Hp}{iv:Iv}{w J:World}{O:Nat->da}{a:Act}
theorem qH{x:Operand}{F':SV->Hp->Nat->Iv->World->Prop}{s:ByteArray}{b:UInt8}
  (hu:P.underlying t=some .string) (G:ev l x=some (.o (.v (.string s)))) (D:ev l i=some (.o (.v (.int k m)))) (hm:0<=m) (hb:s[m.toNat]? =some b)
  (hK:∀O J,Rel H nx iv B w O J->F' (.o (.v (.int .u8 b.toNat))) H nx iv J):xK P B ⟨dst,.index t x i,ty,pos,after,guard⟩ l H nx iv w F':=by
 refine⟨fun O J ev' r Pz=>⟨.int .u8 b.toNat,J,iv,.inl ?_,r.here,hK O J r⟩⟩;have e1:ev' x= .string s:=Pz x _ G;have e2:ev' i= .int k m:=Pz i _ D;simp[execOp,e1,e2,Instr.index,asIntOf,run_underlying hu,hm,hb]
theorem uG(w:World)(t e:TypeId)(a:Option Addr)(n c n' c':Nat)(h:P.underlying t=some (.slice e)):
  (binOp .eql t (.slice a n c) (.slice none n' c')).run P w= .ok (.bool a.isNone) w:=by
 have:∀d,(Op.equalIn (d+1) t (.slice a n c) (.slice none n' c')).run P w= .ok a.isNone w:=fun d=>by cases a<;>simp[Op.equalIn,run_underlying h]
 simp only[binOp]
 simp[Op.equal,Op.maxDepth,this 9999]
theorem jS(w:World)(g:Nat)(L:Array Value):w.grownBy (w.setRow g L) (some g):=
 ⟨rfl,rfl,rfl,bv,fun k _ OB=>setRow_other _ _ _ _ fun e=>OB (by rw[e])⟩
theorem Rel.xd{I:World}(r:Rel H nx iv B w O J)(OB:∀id b,cw H id=some b->(O id).nil=false->(O id).g≠g)(h:J.grownBy I (some g)):Rel H nx iv B I O I:=
 r.Cz h.size (fun id b hb Z=>h.block _ (r.low id b hb Z).2 fun e=>OB id b hb Z (Option.some.inj e)) fun lo D hm=>⟨by have:=r.sN lo D hm;have:=r.size;have:=h.size;omega,fun id b hb Z=>r.kI lo D hm id b hb Z⟩
theorem zn(z:Value)(n:Nat):(Builtin.zeroCells #[z] n).toList=List.replicate n z:=by
 apply bY;intro i;simp only[Builtin.zeroCells,Array.toList_map,aO,Array.toList_range,List.getElem?_replicate]
 by_cases h:i<n
 .simp[h,Nat.mod_one]
 .simp[h]
theorem HF(hτ:fQ P τ){e by_ k off c tg:Nat}{x:Operand}{sz0 e' al al':Nat}
  {F':SV->Hp->Nat->Iv->World->Prop}
  (ht:τ t=some ⟨sz0,ag,bt,ze,4,ik,e,al,fs⟩) (Oq:τ e=some ⟨1,ag',by_,[z],tag',ik',e',al',fs'⟩) (G:ev l x=some (.o (.v (.slice (some ⟨g,off,none⟩) k c)))) (E:k≠0)
  (F:∀O J,Rel H nx iv B w O J->J.heap[g]? =some (.cells L.toArray tg (0,0))/\∀id b,cw H id=some b->(O id).nil=false->(O id).g≠g) (PU:off+k<=L.length)
  (hK:∀O J I,Rel H nx iv B w O J->I.heap[g]? =some (.cells (L.take off++List.replicate k z++L.drop (off+k)).toArray tg (0,0))->J.grownBy I (some g)->I.heap.size=J.heap.size->F' (.o (.v (.tuple #[]))) H nx iv I):
  xK P B ⟨dst,.call ⟨.builtin .clear,⟨[x]⟩,⟨[t]⟩⟩,ty,pos,after,guard⟩ l H nx iv w F':=by
 refine⟨fun O J ev' r Pz=>?_⟩;have hu:=(hτ t _ ht).i4 rfl;simp only at hu;have RJ:=hτ e _ Oq;obtain⟨inf,zv,D,Oj,Oy,hz,Qp⟩:=RJ.info;have hzo:=RJ.NX z bv;simp only at Oj Qp;have hza:zv.cells= #[z]:=by apply Array.ext';simpa using Qp
 obtain⟨hc,OB⟩:=F O J r;have QA:=run_storeCells_at (P:=P) g off tg (List.replicate k z) 0 L.toArray J hc (by simpa using PU) (fun v hv=>by rw[List.mem_replicate]at hv;rw[hv.2];exact hzo);have RD:=zn z k;have e1:ev' x= .slice (some ⟨g,off,none⟩) k c:=Pz x _ G;simp only[cC,bK]at QA;refine⟨.tuple #[],_,iv,.inl ?_,r.xd OB (jS J g _),hK O J _ r (setRow_heap J g L.toArray _ tg _ hc) (jS _ _ _) bv⟩;simp[execOp,resolve,invoke,builtin,e1,Builtin.clear_,run_underlying hu,zeroValue,typeInfo,D,hz,hza,RD,QA,E]
theorem IM(hτ:fQ P τ){e by_ k off c tg:Nat}{x:Operand}{sz0 e' al al':Nat}
  {ds:List Value} {vy:SV} {F':SV->Hp->Nat->Iv->World->Prop}
  (ht:τ t=some ⟨sz0,ag,bt,ze,4,ik,e,al,fs⟩) (Oq:τ e=some ⟨1,ag',by_,[z],tag',ik',e',al',fs'⟩) (G:ev l x=some (.o (.v (.slice (some ⟨g,off,none⟩) k c)))) (hy:ev l y=some vy)
  (F:∀O J,Rel H nx iv B w O J->J.heap[g]? =some (.cells L.toArray tg (0,0))/\∀id b,cw H id=some b->(O id).nil=false->(O id).g≠g)
  (src:∀O J,Rel H nx iv B w O J->∃a m,vy.den O= .slice a ds.length m/\∀(j:Nat) u,ds[j]? =some u->∃ad,a=some ad/\J.cell? (ad.add j)=some u)
  (hds:ds.length<=k) (PU:off+ds.length<=L.length) (Y:∀u∈ds,u.oneCell'=true)
  (hK:∀O J I,Rel H nx iv B w O J->I.heap[g]? =some (.cells (L.take off++ds++L.drop (off+ds.length)).toArray tg (0,0))->J.grownBy I (some g)->I.heap.size=J.heap.size->F' (.o (.v (goInt ds.length))) H nx iv I):
  xK P B ⟨dst,.call ⟨.builtin .copy,⟨[x,y]⟩,⟨[t,t]⟩⟩,ty,pos,after,guard⟩ l H nx iv w F':=by
 refine⟨fun O J ev' r Pz=>?_⟩;have hu:=(hτ t _ ht).i4 rfl;simp only at hu;have RJ:=hτ e _ Oq;obtain⟨inf,zv,D,Oj,Oy,hz,Qp⟩:=RJ.info;simp only at Oj;obtain⟨hc,OB⟩:=F O J r;obtain⟨ay,m,hya,Oi⟩:=src O J r;have e1:ev' x= .slice (some ⟨g,off,none⟩) k c:=Pz x _ G;have e2:ev' y= .slice ay ds.length m:=by rw[<-hya];exact Pz y _ hy
 refine⟨goInt ds.length,J.setRow g (L.take off++ds++L.drop (off+ds.length)).toArray,iv,.inl ?_,r.xd OB (jS J g _),hK O J _ r (setRow_heap J g L.toArray _ tg _ hc) (jS _ _ _) bv⟩;have hmin:Nat.min ds.length k=ds.length:=Nat.min_eq_left hds;have OI:(Builtin.copy_ #[t,t] ty #[.slice (some ⟨g,off,none⟩) k c,.slice ay ds.length m]).run P J= .ok (goInt ds.length) (J.setRow g (L.take off++ds++L.drop (off+ds.length)).toArray):=by
  cases ay with
  |some ad=>
   have:=run_copy_row (P:=P) J t t ty e g off k c ad ds.length m L.toArray tg ds hu (by simp[D,Oj]) hc (by rw[hmin]) (fun j v hv=>by
    obtain⟨ad',X,N⟩:=Oi j v hv;injection X with X
    rw[X];exact N) (by simpa using PU) Y
   simpa using this
  |none=>
   have hd:ds=[]:=by
    cases ds with
    |nil=>rfl
    |cons u r=>obtain⟨ad',X,_⟩:=Oi 0 u rfl;cases X
   subst hd;have Q8:=setRow_self J g L.toArray tg (0,0) hc;simp[Builtin.copy_,run_underlying hu,Builtin.lenOf,Builtin.firstCells,sizeOf,typeInfo,D,storeCells,Q8]
 simp[execOp,resolve,invoke,builtin,e1,e2,OI]
end
section
variable{P:Program}{τ:mS}{B nx:Nat}{l:Env}{H:Hp}{iv:Iv}{w J:World}{O:Nat->da}
end
section
variable{P:Program}{τ:mS}{B nx:Nat}{l:Env}{H:Hp}{iv:Iv}{w J:World}{O:Nat->da}
end
theorem og:∀(nv:List Value) (w:World) (b off:Nat) (cur:Array Value) (e:TypeId),w.heap[b]? =some (.cells cur e (0,0))->off+nv.length<=cur.size->
  (w.setCells b off nv).heap[b]? =some (.cells (cur.toList.take off++nv++cur.toList.drop (off+nv.length)).toArray e (0,0))
 |[],w,b,off,cur,e,h,_=>by simpa [World.setCells]using h
 |v::r,w,b,off,cur,e,h,hl=>by
  simp only[World.setCells]
  have Qt:off+(r.length+1)<=cur.size:=by simpa using hl
  have Y:(w.setCell ⟨b,off,none⟩ v).heap[b]? =some (.cells (cur.setIfInBounds off v) e (0,0)):=by
   simp[World.setCell,Array.getElem?_modify,h]
  rw[og r _ b (off+1) _ e Y (by simp;omega)];congr 3;have OR:cur.toList.length=cur.size:=by simp
  apply bY;intro i;have e1:(cur.setIfInBounds off v).toList=cur.toList.set off v:=by simp
  rw[e1];rcases bw i off with D|D|D
  .rw[bI,bI,aK (by simp;omega),aK (by simp;omega),bT be,bT D,bC be]
  .subst D;rw[bI,bI,aK (by simp;omega),aQ (by simp;omega),bT be,aW (by simp;omega)];have:(List.take i cur.toList).length=i:=by rw[aZ];omega
   rw[this,bP];rfl
  .have l1:(List.take (off+1) (cur.toList.set off v)).length=off+1:=by rw[aZ,bm];omega
   have l2:(List.take off cur.toList).length=off:=by rw[aZ];omega
   have hd:List.drop (off+1+r.length) (cur.toList.set off v)=List.drop (off+(v::r).length) cur.toList:=by
    rw[List.drop_set_of_lt be,bO];congr 1;omega
   obtain⟨k,rfl⟩:∃k,i=off+1+k:=⟨i-off-1,be⟩
   rw[bI,bI,hd];generalize List.drop (off+(v::r).length) cur.toList=tl;have F8:(List.take (off+1) (cur.toList.set off v)++(r++tl))[off+1+k]? =(r++tl)[k]? :=by
    rw[aQ be,l1];congr 1;omega
   have B:(List.take off cur.toList++((v::r)++tl))[off+1+k]? =(r++tl)[k]? :=by
    rw[aQ be,l2,show off+1+k-off=k+1 by omega];rfl
   rw[F8,B]
theorem oh:∀(nv:List Value) (w:World) (b off:Nat) {k:Nat},k≠b->(w.setCells b off nv).heap[k]? =w.heap[k]?
 |[],_,_,_,_,_=>rfl
 |v::r,w,b,off,k,E=>by
  simp only[World.setCells]
  rw[oh r _ b (off+1) E];simp[World.setCell,Array.getElem?_modify,Ne.symm E]
theorem sW:∀(vs:List Value) (w0:World) (b o:Nat),(w0.setCells b o vs).os=w0.os/\(w0.setCells b o vs).tape=w0.tape/\(w0.setCells b o vs).output=w0.output/\(w0.setCells b o vs).heap.size=w0.heap.size
 |[],_,_,_=>⟨rfl,rfl,rfl,rfl⟩
 |v::r,w0,b,o=>by
  simp only[World.setCells]
  obtain⟨Y,X,N,h4⟩:=sW r (w0.setCell ⟨b,o,none⟩ v) b (o+1);exact⟨Y,X,N,by rw[h4];simp⟩
theorem om{w:World}{Bc e n:Nat}{v:Value}{nv:List Value}{a:Option Addr}{c j:Nat}(h:w.ownsRow Bc e sz v n xs)(hv:v= .slice a n c)(hj:j<n)(Sc:nv.length=sz)(hs:0<sz):
  ∃g,a=some ⟨g,0,none⟩/\(∀k,k<sz->(w.cell? (Addr.add ⟨g,j*sz,none⟩ k)).isSome=true/\w.frozen? (Addr.add ⟨g,j*sz,none⟩ k)=false)/\
   (setCells w ⟨g,j*sz,none⟩ nv).ownsRow Bc e sz v n (xs.take (j*sz)++nv++xs.drop (j*sz+sz))/\w.grownBy (setCells w ⟨g,j*sz,none⟩ nv) (some g)/\(setCells w ⟨g,j*sz,none⟩ nv).heap.size=w.heap.size:=by
 rcases h.2 with⟨_,h0⟩|⟨g,cap,cur,Qq,hb,F,Sm,Sd,Of,TO⟩
 .omega
 rw[hv]at Qq;injection Qq with Y X N;subst Y N;have hjs:j*sz+sz<=n*sz:=by
  have:=Nat.mul_le_mul_right sz (show j+1<=n from hj);rw[Nat.add_mul,Nat.one_mul]at this;exact this
 have hns:n*sz<=c*sz:=Nat.mul_le_mul_right sz Sm;obtain⟨f1,f2,f3,f4⟩:=sW nv w g (j*sz);have Rk:=og nv w g (j*sz) cur e F be;refine⟨g,rfl,fun k E=>?_,?_,?_,?_⟩
 .rw[dS];refine⟨?_,?_⟩
  .rw[cell_of (g:=g) (L:=cur.toList) (by simpa using F),aB (by simp;omega)];rfl
  .simp[World.frozen?,F]
 .rw[ji];refine⟨?_,.inr ⟨g,c,_,hv,hb,Rk,Sm,Sd,?_,?_⟩⟩
  .simp only[aL,aZ,List.length_drop,Sc,h.1];omega
  .simp only[List.size_toArray,aL,aZ,List.length_drop,Sc,Array.length_toList];omega
  .subst TO;have OR:cur.toList.length=cur.size:=by simp
   have ha:List.drop (j*sz+sz) (List.take (n*sz) cur.toList)=(List.drop (j*sz+sz) cur.toList).take (n*sz-(j*sz+sz)):=by rw[List.drop_take]
   rw[ha,List.take_take,Nat.min_eq_left be];show List.take (n*sz) (_++nv++_)=_;rw[Sc,List.take_append,bF (by simp;omega)];congr 2;simp only[aL,aZ,Sc]
   omega
 .rw[ji];exact⟨f1,f2,f3,by rw[f4];exact aN _,fun k E OB=>oh nv w g _ (fun e=>OB (by rw[e]))⟩
 .rw[ji];exact f4
structure IQ(P:Program)(kt:TypeId)(KS:Value->Prop):Prop where
 desc:∃fs,P.underlying kt=some (.struct fs)
 check:∀(w:World) (em:Bool) (v:Value),KS v->(Instr.checkKey em 10000 kt v).run P w= .ok () w
 eq:∀(w:World) (a b:Value),KS a->KS b->∃c,(Op.equal kt a b).run P w= .ok c w/\(c=true↔a=b)
def DD(w:World)(g:Nat)(ks:List Value):Prop:=∃es clock,w.heap[g]? =some (.map es clock)/\es.toList.map (·.key)=ks/\∀e∈es.toList,e.val= .bool true
section
variable{P:Program}{τ:mS}{B n nx:Nat}{l:Env}{H:Hp}{iv:Iv}{w J I:World}{O:Nat->da}{a:Act}
theorem DD.cK(h:DD w g ks)(E:I.heap[g]? =w.heap[g]?):DD I g ks:=by
 obtain⟨es,c,Y,X⟩:=h;exact⟨es,c,by rw[E];exact Y,X⟩
theorem rK(hb:w.heap[r]? =some (.map es clock)):(getObj r).run P w= .ok (.map es clock) w:=by simp[getObj,Sem.run,hb]
theorem Eb(o:Obj)(hb:w.heap[r]? =some (.map es clock)):(setObj r o).run P w= .ok () {w with heap:=w.heap.setIfInBounds r o}:=by simp[setObj,Sem.run,hb]
theorem oE{kt:TypeId}{KS:Value->Prop}(F':IQ P kt KS){x:Value}(G:KS x)(w:World):∀(es:List MapEntry) (i:Nat),(∀e∈es,KS e.key)->
  ((Instr.findAsking kt x es i).run P w= .ok none w/\∀e∈es,e.key≠x)\/∃j e,(Instr.findAsking kt x es i).run P w= .ok (some (j,e.val)) w/\e∈es/\e.key=x
 |[],i,_=>.inl ⟨rfl,fun e R=>by cases R⟩
 |e::es,i,h=>by
  obtain⟨c,hc,hiff⟩:=F'.eq w x e.key G (h e aI)
  cases c with
  |true=>exact .inr ⟨i,e,by simp[Instr.findAsking,hc],aI,(hiff.1 rfl).symm⟩
  |false=>
   have OB:e.key≠x:=fun R=>by have:=hiff.2 R.symm;cases this
   rcases oE F' G w es (i+1) (fun e R=>h e (aA _ R))with⟨Y,X⟩|⟨j,e',Y,X,N⟩
   .refine .inl ⟨by simp[Instr.findAsking,hc,Y],fun e' R=>?_⟩;rcases List.mem_cons.1 R with rfl|R
    .exact OB
    .exact X e' R
   .exact .inr ⟨j,e',by simp[Instr.findAsking,hc,Y],aA _ X,N⟩
theorem sX{kt:TypeId}(F':IQ P kt KS){x:Value}(G:KS x)(w:World)(es:List MapEntry)(h:∀e∈es,KS e.key):
  ((Instr.findKey kt x es).run P w= .ok none w/\∀e∈es,e.key≠x)\/∃j e,(Instr.findKey kt x es).run P w= .ok (some (j,e.val)) w/\e∈es/\e.key=x:=by
 obtain⟨fs,Qs⟩:=F'.desc
 cases es with
 |nil=>exact .inl ⟨by simp[Instr.findKey,run_underlying Qs,Instr.findNow],fun e R=>by cases R⟩
 |cons e es=>
  have hs:Instr.findNow (.struct fs) x (e::es) 0=none:=by
   unfold Instr.findNow
   cases x<;>cases e.key<;>rfl
  have:=oE F' G w (e::es) 0 h;rcases this with⟨Y,X⟩|⟨j,e',Y,X,N⟩
  .exact .inl ⟨by simp[Instr.findKey,run_underlying Qs,hs,Y],X⟩
  .exact .inr ⟨j,e',by simp[Instr.findKey,run_underlying Qs,hs,Y],X,N⟩
theorem vH{F':SV->Hp->Nat->Iv->World->Prop}
  (hK:∀O J I,Rel H nx iv B w O J->DD I J.heap.size []->J.grownBy I none->I.heap.size=J.heap.size+1->F' (.o (.v (.map (some J.heap.size)))) H nx ((J.heap.size,J.heap.size+1)::iv) I):
  xK P B ⟨dst,.makeMap t none,ty,pos,after,guard⟩ l H nx iv w F':=by
 refine⟨fun O J ev' r Pz=>?_⟩;have hp:(J.alloc (.map #[] 0)).heap=J.heap.push (.map #[] 0):=rfl;have F:J.grownBy (J.alloc (.map #[] 0)) none:=⟨rfl,rfl,rfl,by rw[hp,Array.size_push];omega,fun k E _=>by rw[hp,Array.getElem?_push,aF (Nat.ne_of_lt E)]⟩
 have Oj:(J.alloc (.map #[] 0)).heap.size=J.heap.size+1:=by rw[hp,Array.size_push]
 refine⟨.map (some J.heap.size),J.alloc (.map #[] 0),(J.heap.size,J.heap.size+1)::iv,.inl ?_,r.Cz be (fun id b hb Z=>F.block _ (r.low id b hb Z).2 bv) ?_,
  hK O J _ r ⟨#[],0,by rw[hp];simp,rfl,bv⟩ F Oj⟩
 .simp[execOp,Instr.makeMap]
 .intro lo D hm;rcases List.mem_cons.1 hm with e|hm
  .injection e with e1 e2;subst e1 e2;exact⟨be,fun id b hb Z h=>by have:=(r.low id b hb Z).2;omega⟩
  .exact⟨by have:=r.sN lo D hm;have:=r.size;omega,fun id b hb Z=>r.kI lo D hm id b hb Z⟩
theorem xe{kt et:Nat}{m x:Operand}{F':SV->Hp->Nat->Iv->World->Prop}(Q:IQ P kt KS){vx:SV}
  (ht:P.underlying t=some (.map kt et)) (hz:∀w,(zeroValue et).run P w= .ok (.bool false) w) (hm:ev l m=some (.o (.v (.map (some g))))) (G:ev l x=some vx) (Sn:∀O,vx.den O=key) (hks:KS key) (Q1:∀k∈ks,KS k)
  (F:∀O J,Rel H nx iv B w O J->DD J g ks)
  (hK:∀O J b,Rel H nx iv B w O J->(b=true↔key∈ks)->F' (.o (.v (.bool b))) H nx iv J):
  xK P B ⟨dst,.lookup t m x false,ty,pos,after,guard⟩ l H nx iv w F':=by
 refine⟨fun O J ev' r Pz=>?_⟩;obtain⟨es,clock,Y,X,N⟩:=F O J r;have e1:ev' m= .map (some g):=Pz m _ hm;have e2:ev' x=key:=by rw[Pz x _ G,Sn]
 have hes:∀e∈es.toList,KS e.key:=fun e R=>Q1 _ (by rw[<-X];exact aV.2 ⟨e,R,rfl⟩);have hck:=Q.check J es.isEmpty key hks;rcases sX Q hks J es.toList hes with⟨f1,f2⟩|⟨j,e,f1,f2,f3⟩
 .refine⟨.bool false,J,iv,.inl ?_,r.here,hK O J false r ⟨(fun h=>by cases h),fun h=>?_⟩⟩
  .simp[execOp,Instr.lookup,e1,e2,run_underlying ht,rK Y,hck,f1,hz]
  .rw[<-X]at h;obtain⟨e,R,E⟩:=aV.1 h;exact absurd E (f2 e R)
 .refine⟨.bool true,J,iv,.inl ?_,r.here,hK O J true r ⟨fun _=>by rw[<-X];exact aV.2 ⟨e,f2,f3⟩,fun _=>rfl⟩⟩;have:=N e f2;simp[execOp,Instr.lookup,e1,e2,run_underlying ht,rK Y,hck,f1,this]
theorem qd{kt et:Nat}{m x:Operand}{F':SV->Hp->Nat->Iv->World->Prop}(Q:IQ P kt KS){vx:SV}
  (ht:P.underlying t=some (.map kt et)) (hm:ev l m=some (.o (.v (.map (some g))))) (G:ev l x=some vx) (Sn:∀O,vx.den O=key) (hy:ev l y=some (.o (.v (.bool true)))) (hks:KS key) (Q1:∀k∈ks,KS k) (So:key∉ks)
  (F:∀O J,Rel H nx iv B w O J->DD J g ks/\∀id b,cw H id=some b->(O id).nil=false->(O id).g≠g)
  (hK:∀O J I,Rel H nx iv B w O J->DD I g (ks++[key])->J.grownBy I (some g)->I.heap.size=J.heap.size->F' (.o (.v undef)) H nx iv I):
  xK P B ⟨dst,.mapUpdate t m x y,ty,pos,after,guard⟩ l H nx iv w F':=by
 refine⟨fun O J ev' r Pz=>?_⟩;obtain⟨⟨es,clock,Y,X,N⟩,OB⟩:=F O J r;have e1:ev' m= .map (some g):=Pz m _ hm;have e2:ev' x=key:=by rw[Pz x _ G,Sn]
 have e3:ev' y= .bool true:=Pz y _ hy;have hes:∀e∈es.toList,KS e.key:=fun e R=>Q1 _ (by rw[<-X];exact aV.2 ⟨e,R,rfl⟩);have hck:=Q.check J false key hks;have OT:g<J.heap.size:=(bA.1 Y).1;rcases sX Q hks J es.toList hes with⟨f1,f2⟩|⟨j,e,f1,f2,f3⟩
 .let ob:Obj:=.map (es.push {key:=key,val:=.bool true,born:=clock}) (clock+1)
  have PK:J.grownBy {J with heap:=J.heap.setIfInBounds g ob} (some g):=⟨rfl,rfl,rfl,bv,fun k _ E=>by
   rw[Array.getElem?_setIfInBounds_ne]
   exact fun e=>E (by rw[e])⟩
  refine⟨undef,{J with heap:=J.heap.setIfInBounds g ob},iv,.inr ⟨?_,rfl⟩,r.xd OB PK,hK O J _ r ⟨es.push {key:=key,val:=.bool true,born:=clock},clock+1,by simp[OT,ob],?_,?_⟩ PK bv⟩
  .simp[execOp,Instr.mapUpdate,e1,e2,e3,run_underlying ht,rK Y,Eb _ Y,hck,f1,ob]
  .simp[X]
  .intro e R;simp at R;rcases R with R|rfl
   .exact N e (by simpa using R)
   .rfl
 .exact absurd (by rw[<-X];exact aV.2 ⟨e,f2,f3⟩) So
theorem Ec{len e:Nat}{x:Operand}{F':SV->Hp->Nat->Iv->World->Prop}{vx:SV}{L:Array Value}{u:Value}
  (hu:P.underlying t=some (.array len e)) (hs:∀w,(sizeOf e).run P w= .ok 1 w) (hp:∀(w:World) (j:Nat) v,L[j]? =some v->(part e L j).run P w= .ok v w) (G:ev l x=some vx) (TP:∀O,vx.den O= .agg L) (D:ev l i=some (.o (.v (.int k m)))) (hm:0<=m/\m<len) (hc:L[m.toNat]? =some u)
  (hK:∀O J,Rel H nx iv B w O J->F' (.o (.v u)) H nx iv J):xK P B ⟨dst,.index t x i,ty,pos,after,guard⟩ l H nx iv w F':=by
 refine⟨fun O J ev' r Pz=>⟨u,J,iv,.inl ?_,r.here,hK O J r⟩⟩;have e1:ev' x= .agg L:=by rw[Pz x _ G,TP]
 have e2:ev' i= .int k m:=Pz i _ D;have e3:=hp J _ u hc;simp[execOp,e1,e2,Instr.index,asIntOf,run_underlying hu,hm.1,hm.2,hs,e3]
theorem HK(hτ:fQ P τ){id2 off k c:Nat}{e2:TypeId}{ad x:Operand}{F':SV->Hp->Nat->Iv->World->Prop}
  (ha:ev l ad=some (.o (.p id off))) (G:ev l x=some (.o (.s id2 0 k c))) (Oh:id<nx) (UM:cw H id2=some (.arr e2 cs2)) (hs:wN H tH) (ho:DB id2 tH=true)
  (hK:∀O J,Rel H nx iv B w O J->Bd τ B t (.o (.p id off)) (.o (.v (.slice (some ⟨(O id2).g,0,none⟩) k c))) tH nx (((O id2).g,(O id2).g+1)::iv) J (fun H' I=>F' (.o (.v undef)) H' nx (((O id2).g,(O id2).g+1)::iv) I)):
  NY P B ⟨dst,.store t ad x,ty,pos,after,guard⟩ l H nx iv w F':=by
 refine⟨fun O J ev' r Pz=>?_⟩;have e1:ev' ad=(SV.o (.p id off)).den O:=Pz ad _ ha;have e2:ev' x= .slice (some ⟨(O id2).g,0,none⟩) k c:=Pz x _ G;have r2:=r.free UM bv (r.fits UM).1 hs ho;have sat:Sat 0 [] tH nx (((O id2).g,(O id2).g+1)::iv) B J O ⟨#[],[]⟩ J:=⟨r2,rfl,rfl,(fun u v hv=>by cases hv),fun u v hv=>by cases hv⟩
 obtain⟨H',I,w3,E,Oe,OI⟩:=vI (addr:=.o (.p id off)) (x:=.o (.v (.slice (some ⟨(O id2).g,0,none⟩) k c))) hτ sat (by exact Oh) (by simp[SV.sc,At.sc]) (hK O J r);refine⟨I,w3,H',_,?_,Oe,E⟩;have OI:(Instr.storeAt t ((SV.o (.p id off)).den O) (.slice (some ⟨(O id2).g,0,none⟩) k c)).run P J= .ok () w3:=OI;simp[execOp,e1,e2,OI]
def qZ(v:da)(iv:Iv):Iv:=match v.nil with
 |true=>iv
 |false=>(v.g,v.g+1)::iv
theorem HL{v:da}{iv:Iv}:∀p,p∈iv->p∈qZ v iv:=fun p hp=>by
 unfold qZ
 cases v.nil with
 |true=>exact hp
 |false=>exact aA _ hp
theorem IS{v:da}{iv:Iv}(h:v.nil=false):(v.g,v.g+1)∈qZ v iv:=by
 unfold qZ;rw[h];exact aI
theorem Rel.drop{H':Hp}{b:j1}(r:Rel H nx iv B w O J)(Oh:cw H id=some b)(hd:b≠ .dead)(hs:wN H H')(ho:DB id H'=true):Rel H' nx (qZ (O id) iv) B J O J:=by
 have Y:Rel H' nx iv B J O J:=Rel.mk' rfl rfl rfl (aN _) (by have:=r.base;have:=r.size;omega) (fun lo D hm=>by have:=r.sN lo D hm;have:=r.size;omega) (fun j c h=>r.keys j c (hs.get h))
  (fun j c h=>r.fits (hs.get h)) (fun j c h=>r.scopd (hs.get h)) (fun j k c e h h'=>r.inj j k c e (hs.get h) (hs.get h')) (fun j c h=>r.low j c (hs.get h)) (fun _ _ _=>rfl) (fun lo D hm j c h=>r.kI lo D hm j c (hs.get h))
 unfold qZ
 cases Z:(O id).nil with
 |false=>exact r.free Oh hd Z hs ho
 |true=>exact Y
theorem Ed(hτ:fQ P τ){id3 id2 c1 t3:Nat}{c:At}{b2:j1}{x:Operand}{vx:SV}{F':SV->Hp->Nat->Iv->World->Prop}
  (G:ev l x=some vx) (hy:ev l y=some (.o (.s id3 0 1 c1))) (UN:cw H id3=some (.box t3 [c])) (UM:cw H id2=some b2) (Ot:b2≠ .dead) (hs:wN H tH) (ho3:DB id3 tH=true) (Sp:DB id2 tH=true)
  (hK:∀O J,Rel H nx iv B w O J->Rel tH nx (((O id3).g,(O id3).g+1)::qZ (O id2) iv) B J O J->J.heap[(O id3).g]? =some (.cells #[c.den O] t3 (0,0))->
   xM τ B t vx (.o (.v (.slice (some ⟨(O id3).g,0,none⟩) 1 c1))) tH nx (((O id3).g,(O id3).g+1)::qZ (O id2) iv) J (fun v H' OF=>F' v H' OF (((O id3).g,(O id3).g+1)::qZ (O id2) iv) J)):
  Np P B ⟨dst,.call ⟨.builtin .append,⟨[x,y]⟩,⟨[t,t]⟩⟩,ty,pos,after,guard⟩ l H nx iv w F':=by
 refine⟨fun O J ev' r Pz=>?_⟩;have e1:ev' x=vx.den O:=Pz x _ G;have e2:ev' y= .slice (some ⟨(O id3).g,0,none⟩) 1 c1:=Pz y _ hy;have UO:=(r.fits UN).1;have r1:=r.drop UM Ot hs Sp;have r2:Rel tH nx (((O id3).g,(O id3).g+1)::qZ (O id2) iv) B J O J:=by
  refine r1.more (by have:=(r.low id3 _ UN UO).2;omega) fun j cc hj hnj R=>?_;obtain⟨X,N⟩:=DB.get ho3 hj;exact X (r.inj j id3 cc _ (hs.get hj) UN N bv hnj UO be)
 have sat:Sat 0 [] tH nx (((O id3).g,(O id3).g+1)::qZ (O id2) iv) B J O ⟨#[],[]⟩ J:=⟨r2,rfl,rfl,(fun u v hv=>by cases hv),fun u v hv=>by cases hv⟩
 obtain⟨rr,H',OF,G8,I,E,Oe,hr,PI,G9,OI⟩:=sY (ty:=ty) hτ sat (hK O J r r2 (by have:=r.box id3 _ _ UN;simpa using this));refine⟨rr,H',OF,_,G8,J,I,?_,Oe,hr,PI,G9,E⟩;have OI:(Builtin.append_ #[t,t] ty #[vx.den O,.slice (some ⟨(O id3).g,0,none⟩) 1 c1]).run P J= .ok (rr.den G8) I:=OI;simp[execOp,resolve,invoke,builtin,e1,e2,OI]
end
end Go.Sx
