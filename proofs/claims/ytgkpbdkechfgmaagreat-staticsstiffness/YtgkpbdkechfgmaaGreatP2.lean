/- Texts Sx12 to Sx23: lemmas, each with its conditions. -/
import Derived.Laws.BytesString
import Derived.Test.YtgkpbdkechfgmaaGreatP1
namespace Go.Sx
open Go
variable{args:(Nat->eG)->Array Value}{GE Q0 next:Act->World->Prop}{Fn R':Ending->World->Prop}{k:Env->Prop}{l:List (Nat×TI)}{B g:Nat}{O:Nat->eG}{d:Option Tmp}{P:Program}
section
variable{P:Program}{τ:og}{ops:Array Oper}{B n nx:Nat}{l:Env}{H:Hp}{iv:Iv}{w J:World}{O:Nat->eG}{a:Act}
variable{Pd:List Nat}{F':List (Nat×Nat)}{lx la:Array Bool}{Q:Exit->Act->World->Prop}{md:Region.Mode}
theorem H2(hr:Region.ready md ops la=[])(h:Q .normal a w):∀fuel,yL P md ops Q fuel la a w
 |0=>⟨hr,h⟩
 |_+1=>⟨fun _=>h,by rw[hr];simp⟩
theorem BV(sat:Sat n l H nx iv B w O a J){GE:SV->Hp->Iv->World->Prop}{o:Oper}
  (h:H3 P B g args H nx iv w GE) (VJ:(execOp a.eval o).run P J=(callFunc g (args O)).run P J)
  (W:∀v Y,GE (.o (.v v)) H ((J.heap.size,Y.heap.size)::iv) Y->Ext J Y->Sat n l H nx ((J.heap.size,Y.heap.size)::iv) B Y O a Y->next (a.put o.dst v) Y):o.wp P a J next Q:=by
 have hc:=h.h O J sat.rel;unfold Oper.wp;rw[VJ,hc.e.h];refine Calls.mono hc.c fun e Y L=>?_;obtain⟨v,rfl,TP,hK⟩:=L;refine W v Y hK TP ?_;have r:=(sat.rel.ext TP).here;refine sat.next (IR:=O) ?_ (aP _) (fun _ _=>rfl)
 refine Rel.mk' r.os r.tape r.output r.size r.base ?_ r.keys (fun id b hb=>r.fits hb) (fun id b hb=>r.scopd hb) r.inj r.low r.yJ ?_
 .intro lo D hm;rcases List.mem_cons.1 hm with hm|hm
  .injection hm with I G;omega
  .exact r.tI lo D hm
 .intro lo D hm id b hb PK;rcases List.mem_cons.1 hm with hm|hm
  .injection hm with I G;have:=(sat.rel.low id b hb PK).2;omega
  .exact r.mA lo D hm id b hb PK
theorem BW{o:Oper}{GE:SV->Hp->Nat->Iv->World->Prop}(h:BS true P τ B o l H nx iv w GE)(sat:Sat n l H nx iv B w O a J)(hr:yK o.op=false)(ha:isA o.op=false)(hh:th o=false)
  (W:∀v Y,GE (.o (.v v)) H nx ((J.heap.size,Y.heap.size)::iv) Y->Ext J Y->Sat n l H nx ((J.heap.size,Y.heap.size)::iv) B Y O a Y->next (a.put o.dst v) Y):o.wp P a J next Q:=by
 obtain⟨dst,op,ty,pos,after,guard⟩:=o;simp only at hr ha;have:∃f args x,op= .call ⟨.value f,args,x⟩:=by
  simp only[th,hr,ha,Bool.or_self,Bool.false_or,Bool.not_eq_false']at hh;split at hh
  .exact⟨_,_,_,rfl⟩
  .cases hh
 obtain⟨f,⟨args⟩,x,rfl⟩:=this;simp only[BS]at h;obtain⟨vf,I,hf,PS⟩:=du sat h;obtain⟨vs,G,Rx,hss⟩:=tK sat I;have Sw:(args.toArray).map a.eval=oQ O vs:=by
  apply Array.ext';simp[oQ,Rx]
 split at G
 .rename_i g first caps
  refine BV sat G ?_ (fun v Y hK L hs=>W v Y hK L hs);simp[execOp,resolve,hf,SV.den,At.den,Deferred.ofValue,invoke,Sw]
 .rename_i g ids;refine BV sat G ?_ (fun v Y hK L hs=>W v Y hK L hs);simp[execOp,resolve,hf,SV.den,At.den,Deferred.ofValue,invoke,Sw]
 .exact G.elim
def QN(Q0:Act->World->Prop):Exit->Act->World->Prop:=fun e a w=>e= .normal/\Q0 a w
theorem BX(sat:Sat n l H nx iv B w O a J){o:Oper}{yes no:Env->Prop}(h:wF ops.toList o.guard l yes no)(X:o.guard=none\/Pd=[]):
  (Region.wanted o (yielded ops a.tmps)=true/\∃l',yes l'/\Sat n l' H nx iv B w O a J/\(Pd≠[]->l'=l))\/
  (Region.wanted o (yielded ops a.tmps)=false/\Pd=[]/\∃l',no l'/\Sat n l' H nx iv B w O a J):=by
 by_cases Tt:o.guard=none
 .rw[Tt]at h;exact .inl ⟨by simp[Region.wanted,Tt],l,h,sat,fun _=>rfl⟩
 .have YK:=X.resolve_left Tt;rcases mQ sat h with⟨I,l',G,h3⟩|⟨I,l',G,h3⟩
  .exact .inl ⟨I,l',G,h3,fun Ox=>absurd YK Ox⟩
  .exact .inr ⟨I,YK,l',G,h3⟩
theorem me(sat:Sat n l H nx iv B w O a J){v:SV}(h:H0 d v l k)(hd:∀t,d=some t->t<n)(hv:v.sc nx):
  ∃l',k l'/\Sat n l' H nx iv B w O (a.put d (v.den O)) J/\∀t,gK l t=none->d≠some t->gK l' t=none:=by
 unfold H0 at h;split at h
 .rename_i t;exact⟨_,h,sat.put (hd t rfl) hv,fun u hu Ox=>by rw[fQ,aJ (fun e=>Ox (by rw[e]))];exact hu⟩
 .exact⟨l,h,sat,fun t ht _=>ht⟩
theorem rQ{Q:Exit->Act->World->Prop}{i:Nat}{o:Oper}(D:ops[i]? =some o)
  (h:(Region.wanted o (yielded ops a.tmps)=true/\o.wp P a J GE Q)\/(Region.wanted o (yielded ops a.tmps)=false/\GE (a.put o.dst undef) J)):wpOp P ops Q i GE a J:=by
 unfold wpOp;simp only[D]
 rcases h with⟨I,G⟩|⟨I,G⟩
 .rw[aM I];exact .inl G
 .rw[aJ (by simp[I])];exact G
theorem OC(hτ:gM P τ)(Oz:∀(j:Nat) o,ops[j]? =some o->∀d,o.dst=some d->d<n)(Pr:∀(j:Nat) (o:Oper) Z b,ops[j]? =some o->o.op≠ .select Z b)
  {GE:KT} (hQ:∀l' H' PC N Y IR a' w3,GE l' H' PC N Y->Sat n l' H' PC N B Y IR a' w3->Q0 a' w3):
  ∀(m fuel:Nat) (π:List It) (lx la:Array Bool) (Pd:List Nat) (F':List (Nat×Nat)) (l:Env) (H:Hp) (nx:Nat) (iv:Iv) (w:World) (O:Nat->eG) (a:Act) (J:World),
   fuel+π.length=m->unl la<=fuel->rN ops π lx Pd=true->ML P τ B ops.toList π l H nx iv w GE->Sim P ops n B Pd F' lx la l H nx iv w O a J->yL P .any ops (QN Q0) fuel la a J:=by
 intro m
 induction m using Nat.strongRecOn with
 |_ m ih=>
 intro fuel π lx la Pd F' l H nx iv w O a J hm YL hc h s
 match π with
 |[]=>
  simp only[rN,bL,List.isEmpty_iff]at hc;obtain⟨hr,rfl⟩:=hc;refine H2 ?_ ⟨rfl,hQ _ _ _ _ _ _ _ _ h s.sat⟩ fuel;refine List.eq_nil_iff_forall_not_mem.2 fun j hj=>?_;obtain⟨I,o,G,h3⟩:=fL.1 hj;have:j∈Region.ready .any ops lx:=by
   refine fL.2 ⟨?_,o,G,fun e L hb=>?_⟩
   .have PY:j<lx.size:=by rw[s.szx,<-s.sza];exact(bM.1 I).1
    rw[Array.getElem?_eq_getElem PY]
    cases hb:lx[j]with
    |false=>rfl
    |true=>
     have:=(s.la j).2 (.inl (by rw[Array.getElem?_eq_getElem PY,hb]));rw[I]at this;cases this
   .rcases(s.la e.on).1 (h3 e L hb)with h4|⟨g,h4⟩
    .exact h4
    .exact absurd (s.MO _ _ h4) bv
  rw[hr]at this
  cases this
 | .p i::r=>
  obtain⟨o,ho,I⟩:=iS h;rw[bQ]at ho;simp only[rN,ho,bL]at hc;obtain⟨⟨⟨⟨⟨⟨c1,c2⟩,c3⟩,c4⟩,c5⟩,c6⟩,c7⟩:=hc
  cases hd:o.dst with
  |none=>rw[hd]at c3;cases c3
  |some d=>
  rw[hd]at c3;obtain⟨b,v,mk,obj,hK,-,-,-,-,-,XP⟩:=pY hτ I s.sat c1;rw[hd]at hK;obtain⟨l',hl,Qe,Ps⟩:=uY hK;have hmem:∀j∈Pd,j≠i:=fun j hj=>by
   have:=List.all_eq_true.1 c5 j hj;simpa only[Bool.not_eq_true',om]using this
  have c6':∀j∈Pd,∀oj,ops[j]? =some oj->o.apart ops oj=true/\oj.apart ops o=true:=fun j hj oj Rw=>by
   have:=List.all_eq_true.1 c6 j hj;simpa only[MM,Rw,bL]using this
  have hlxi:lx[i]? =some false:=by
   have:lx.getD i true=false:=by simpa using c4
   rw[bJ]at this
   cases U:lx[i]? with
   |none=>rw[U]at this;cases this
   |some b=>rw[U]at this;simp at this;rw[this]
  refine ih (fuel+r.length) (by simp only[bg]at hm;omega) fuel r lx la (i::Pd) F' l' H nx iv w O a J rfl YL c7 hl ?_;refine⟨⟨s.sat.rel,s.sat.size,s.sat.defers,fun t v hv=>s.sat.env t v (Ps t v hv).2,fun t v hv=>s.sat.sc t v (Ps t v hv).2⟩,s.szx,s.sza,s.la,fun j g X=>aB _ (s.MO j g X),fun j hj=>?_,s.eg,s.inj,fun j hj j' hj' Ox oj oj' h3 h4=>?_⟩
  .rcases List.mem_cons.1 hj with rfl|hj
   .refine⟨hlxi,o,d,mk,obj,ho,c1,by simpa using c2,⟨hd,by simpa using c3⟩,XP,Qe,fun g X=>absurd (s.MO _ _ X) (fun Qr=>hmem _ Qr rfl)⟩
   .obtain⟨h0,oj,dj,mkj,objj,g1,g2,g3,g4,g5,g6,g7⟩:=s.pd j hj;exact⟨h0,oj,dj,mkj,objj,g1,g2,g3,g4,g5,OB Ps g6,g7⟩
  .rcases List.mem_cons.1 hj with e1|k1<;>rcases List.mem_cons.1 hj' with e2|k2
   .exact absurd (e1.trans e2.symm) Ox
   .rw[e1,ho]at h3;injection h3 with h3;subst h3;exact(c6' j' k2 oj' h4).1
   .rw[e2,ho]at h4;injection h4 with h4;subst h4;exact(c6' j k1 oj h3).2
   .exact s.ap j k1 j' k2 Ox oj oj' h3 h4
 | .x i::r=>
  obtain⟨o,ho,I⟩:=iS h;unfold jA at I;rw[bQ]at ho;simp only[rN,ho,bL]at hc;obtain⟨⟨⟨⟨c1,c2⟩,c3⟩,c4⟩,c5⟩:=hc;have c2:i∈Region.ready .any ops lx:=by simpa using c2
  have c1:o.guard=none\/Pd=[]:=by simpa using c1
  have Rn:∀j∈Pd,j≠i->∀oj,ops[j]? =some oj->o.apart ops oj=true:=fun j hj QL oj Rw=>by
   have:=List.all_eq_true.1 c3 j hj;simpa only[MM,Rw,Bool.or_eq_true,om.2 QL,Bool.false_eq_true,false_or]using this
  obtain⟨Pq,o',Sz,hwait⟩:=fL.1 c2;rw[ho]at Sz;injection Sz with Sz;subst Sz;simp only[bg]at hm;have XE:=Oz i o ho;by_cases hE:∃g,(i,g)∈F'
  ·
   obtain⟨g,X⟩:=hE;obtain⟨h0,o',d,mk',obj',g1,g2,g3,g4,g5,g6,g7⟩:=s.pd i (s.MO i g X);rw[ho]at g1;injection g1 with g1;subst g1;rw[g3,Ja g2]at I;have I:BS true P τ B o l H nx iv w fun v H' PC N J=>H0 o.dst v l fun l'=>ML P τ B ops.toList r l' H' PC N J GE:=I;obtain⟨b,v,mk,obj,hK,Pm,hb,hv,XO,Qo,XP⟩:=pY hτ I s.sat g2;obtain⟨l',hl,s'⟩:=s.aDT ho X hb hv XO Qo XP hK XE Rn;exact ih (fuel+r.length) be fuel r _ _ _ _ _ _ _ _ _ _ _ _ rfl YL c5 hl s'
  .have XN:∀g,(i,g)∉F':=fun g X=>hE ⟨g,X⟩;have Qs:la[i]? =some false:=by
    have PY:i<la.size:=by rw[s.sza,<-s.szx];exact(bM.1 Pq).1
    rw[Array.getElem?_eq_getElem PY]
    cases hb:la[i]with
    |false=>rfl
    |true=>
     rcases(s.la i).1 (by rw[Array.getElem?_eq_getElem PY,hb])with G|G
     .rw[Pq]at G;cases G
     .exact absurd G hE
   have TQ:i∈Region.ready .any ops la:=fL.2 ⟨Qs,o,ho,fun e L hb=>(s.la e.on).2 (.inl (hwait e L hb))⟩;have WI:=mP Qs;obtain⟨f,rfl⟩:∃f,fuel=f+1:=⟨fuel-1,be⟩
   cases hR:yK o.op with
   |true=>
    rw[hR]at c4;obtain⟨rO,PE,RW,hb3,TA⟩:=JY c4 s.szx;have Q3:∀j,rO j->la.getD j false=false:=fun j hj=>by
     cases hl:la.getD j false with
     |false=>rfl
     |true=>
      have hl:la[j]? =some true:=by
       rw[bJ]at hl
       cases U:la[j]? with
       |none=>rw[U]at hl;cases hl
       |some b=>rw[U]at hl;simp at hl;rw[hl]
      rcases(s.la j).1 hl with h4|⟨g,h4⟩
      .have:=RW j hj;rw[bJ,h4]at this;cases this
      .exact absurd hj (hb3 j (s.MO j g h4))
    have SM:∀j oj,ops[j]? =some oj->j≠i->la.getD j true=false->¬rO j->o.apart ops oj=true/\(MN o.op=true\/th oj=false):=by
     intro j oj Rw QL TB S2;have Tu:lx.getD j true=false:=by
      rw[bJ]at TB ⊢
      cases U:lx[j]? with
      |none=>
       have:la[j]? =none:=by
        rw[Array.getElem?_eq_none_iff]at U ⊢;rw[s.sza,<-s.szx];exact U
       rw[this]at TB;cases TB
      |some b=>
       cases b with
       |false=>rfl
       |true=>rw[(s.la j).2 (.inl U)]at TB;cases TB
     exact TA j oj Rw QL Tu S2
    rcases BX s.sat I c1 with⟨V,l1,G,sat1,Qe⟩|⟨V,YK,l1,G,sat1⟩
    .obtain⟨v,hK,Rx,PD⟩:=(n9 hτ G sat1 hR).resolve_right (fun hh=>by have:=hh.1;rw[uZ hR]at this;cases this);obtain⟨l2,h3,sat2,Ps⟩:=me sat1 hK XE Rx;refine wG (pu:=MN o.op) (v:=v.den O) ho Pr (fun c a w hq=>?_) rO PE f la a J Q3 SM TQ (.inl ⟨V,fun w3 L=>PD w3 (L.imp id fun L=>sat1.rel.ext L)⟩) ?_
     .exact absurd hq.1 bv
     .refine ih (f+r.length) be f r _ _ _ _ _ _ _ _ _ _ _ _ rfl be c5 h3 (s.step Pr ho XN Rn sat2 ?_ (fun _ _ _=>Ext.refl _) (fun g _ Uj S3 _=>⟨Uj,S3⟩));intro j hj QL d hd Ox;have Qe:=Qe (by intro e;rw[e]at hj;cases hj);subst Qe;exact Ps d hd Ox
    .obtain⟨l2,h3,sat2,Ps⟩:=me (v:=.o (.v undef)) sat1 G XE trivial;refine wG (pu:=MN o.op) (v:=undef) ho Pr (fun c a w hq=>?_) rO PE f la a J Q3 SM TQ (.inr ⟨V,rfl⟩) ?_
     .exact absurd hq.1 bv
     .refine ih (f+r.length) be f r _ _ _ _ _ _ _ _ _ _ _ _ rfl be c5 h3 (s.step Pr ho XN Rn sat2 ?_ (fun _ _ _=>Ext.refl _) (fun g _ Uj S3 _=>⟨Uj,S3⟩));intro j hj;rw[YK]at hj;cases hj
   |false=>
    rw[hR]at c4;simp only[bL]at c4;obtain⟨c4,c6⟩:=c4;have hpick:∀j∈Region.ready .any ops la,j=i\/(j≠i/\j∈Pd):=by
     intro j hj;by_cases QL:j=i
     .exact .inl QL
     .refine .inr ⟨QL,?_⟩;apply Decidable.byContradiction;intro hjP;obtain⟨k1,oj,k2,k3⟩:=fL.1 hj;have:j∈Region.ready .any ops (HU lx (Pd.filter fun j=> !Nat.beq j i)):=by
       refine fL.2 ⟨?_,oj,k2,fun e L hb=>?_⟩
       .have PY:j<(HU lx (Pd.filter fun j=> !Nat.beq j i)).size:=by rw[HZ,s.szx,<-s.sza];exact(bM.1 k1).1
        rw[Array.getElem?_eq_getElem PY]
        cases hb:(HU lx (Pd.filter fun j=> !Nat.beq j i))[j]with
        |false=>rfl
        |true=>
         rcases(BU _ lx j).1 (by rw[Array.getElem?_eq_getElem PY,hb])with h4|⟨h4,_⟩
         .have:=(s.la j).2 (.inl h4);rw[k1]at this;cases this
         .exact absurd (List.mem_filter.1 h4).1 hjP
       .rw[BU];rcases(s.la e.on).1 (k3 e L hb)with h4|⟨g,h4⟩
        .exact .inl h4
        .refine .inr ⟨List.mem_filter.2 ⟨s.MO _ _ h4,?_⟩,?_⟩
         .simp only[Bool.not_eq_true',om]
          intro e2;rw[e2]at h4;exact XN g h4
         .have:=(s.pd _ (s.MO _ _ h4)).1;exact(bM.1 this).1
      have:=List.all_eq_true.1 c6 j this;exact QL (fA this)
    refine⟨fun L=>(by rw[L]at TQ;cases TQ),fun j hj=>?_⟩;have TB:=(fL.1 hj).1;have hunj:=mP TB;rcases hpick j hj with rfl|⟨QL,hjP⟩
    ·
     refine rQ ho ?_;rcases BX s.sat I c1 with⟨V,l1,G,sat1,Qe⟩|⟨V,YK,l1,G,sat1⟩
     .refine .inl ⟨V,?_⟩;have hl1':∀k∈Pd,k≠j->∀(l2:Env),(∀t,gK l1 t=none->o.dst≠some t->gK l2 t=none)->∀d,gK l d=none->o.dst≠some d->gK l2 d=none:=by
       intro k K _ l2 Ps d hd Ox;have Qe:=Qe (by intro e;rw[e]at K;cases K);subst Qe;exact Ps d hd Ox
      cases hA:isA o.op with
      |true=>
       obtain⟨b,v,mk,obj,hK,Pm,hb,hv,XO,Qo,XP⟩:=pY hτ G sat1 hA;have QA:Rel ((nx,b)::H) (nx+1) iv B w (iL O nx ⟨J.heap.size,0,false⟩) (J.alloc obj):=
        sat1.rel.push b _ rfl rfl rfl bv (fun k K=>heap_alloc_old _ _ K) (fun _=>⟨aP _,bv⟩) (Qo _ _ (heap_alloc_new _ _)) hb
       obtain⟨l2,h3,sat2,Ps⟩:=me (sat1.next QA (Nat.le_succ _) (fun id QF=>iT id QF)) hK XE hv;rw[XO]at sat2;refine oR (v:=mk J.heap.size) (Y:=J.alloc obj) (XP J) ⟨fun _=>Ext.alloc _ _,?_⟩;refine ih (f+r.length) be f r _ _ _ _ _ _ _ _ _ _ _ _ rfl be c5 h3 (s.step Pr ho XN Rn sat2 (fun k K Ui=>hl1' k K Ui l2 Ps) (fun _ _ _=>Ext.alloc _ _) (fun g X Uj S3 _=>⟨fun id c hc W L=>?_,S3⟩));rw[da]at hc;split at hc
       .rename_i e;subst e;rw[ff]at L;simp only at L;omega
       .have Qq:iL O nx ⟨J.heap.size,0,false⟩ id=O id:=(iT id (s.sat.rel.keys id c hc)).symm;rw[Qq]at W L;exact Uj id c hc W L
      |false=>
       cases hH:th o with
       |false=>
        rw[tv hH]at G;refine BW G sat1 hR hA hH fun v Y hK L hs=>⟨fun _=>L,?_⟩
        obtain⟨l2,h3,sat2,Ps⟩:=me (v:=.o (.v v)) hs hK XE trivial;refine ih (f+r.length) be f r _ _ _ _ _ _ _ _ _ _ _ _ rfl be c5 h3 (s.step Pr ho XN Rn sat2 (fun k K Ui=>hl1' k K Ui l2 Ps) (fun _ _ _=>L) (fun g X Uj S3 _=>⟨Uj,fun lo D hm hc=>?_⟩));rcases List.mem_cons.1 hm with hm|hm
        .injection hm with e1 e2;omega
        .exact S3 lo D hm hc
       |true=>
        have YK:Pd=[]:=by rw[hH]at c4;simpa using c4
        subst YK;refine pZ hτ G sat1 fun v H' PC N Y IR w3 hK sat2 hv=>⟨fun hs=>(by rw[hs o ho]at hH;cases hH),?_⟩
        obtain⟨l2,h3,sat3,Ps⟩:=me sat2 hK XE hv;exact ih (f+r.length) be f r _ _ _ _ _ _ _ _ _ _ _ _ rfl be c5 h3 (s.step Pr ho XN Rn sat3 (fun k K=>by cases K) (fun k K=>by cases K) (fun g _ _ _ K=>by obtain⟨k,K,_⟩:=K;cases K))
     .refine .inr ⟨V,fun _=>Ext.refl _,?_⟩;subst YK;obtain⟨l2,h3,sat2,Ps⟩:=me (v:=.o (.v undef)) sat1 G XE trivial;exact ih (f+r.length) be f r _ _ _ _ _ _ _ _ _ _ _ _ rfl be c5 h3 (s.step Pr ho XN Rn sat2 (fun k K=>by cases K) (fun k K=>by cases K) (fun g _ _ _ K=>by obtain⟨k,K,_⟩:=K;cases K))
    ·
     refine s.early Oz Pr hjP TB fun E' a2 Y L s'=>⟨fun _=>L,?_⟩
     exact ih (f+(r.length+1)) be f (.x i::r) lx _ Pd E' l H nx iv w O a2 Y rfl be (by simp only[rN,ho,bL];exact⟨⟨⟨⟨by simpa using c1,by simpa using c2⟩,c3⟩,by rw[hR];simp only[bL];exact⟨c4,c6⟩⟩,c5⟩) h s'
theorem H4(hτ:gM P τ)(hm:P.follows .mixedOrders=true){GE:KT}(π:List It)(hs:Region.noSelect ops=true)(hc:HY ops ops.size π 0 []=true)
  (h:ML P τ B ops.toList π l H nx iv w GE):yM P B ops l H nx iv w GE:=by
 rw[Fo π (Array.replicate ops.size false) 0 [] bv (fun j=>by rw[wD,bJ,Array.getElem?_replicate];split<;>rfl)]at hc;refine⟨fun n O a J Oz sat Q hQ id=>?_⟩;refine wp_mono (Q':=Q) (c:=.region id ops true) (wp_region_any (Q:=QN (Q .normal)) hm (BY _ _ _ _ ?_)) (fun e a w hq=>by obtain⟨rfl,hq⟩:=hq;exact hq);refine OC hτ (fun j o ho d hd=>?_) (Region.noSelect_spec hs) hQ _ _ π _ _ [] [] l H nx iv w O a _ rfl ?_ hc h ?_
 .have:=List.all_eq_true.1 Oz o (aC (by rw[bQ];exact ho));rw[hd]at this;have h5:d+1<=n:=by simpa [Nat.blt]using this
  exact h5
 .unfold unl;refine aX List.countP_le_length ?_;simp
 .refine⟨⟨sat.rel.drew,sat.size,sat.defers,sat.env,sat.sc⟩,bv,bv,fun j=>bv,fun j g h=>(by cases h),fun j h=>(by cases h),fun j g h=>(by cases h),fun j g j' h=>(by cases h),fun j h=>(by cases h)⟩
end
def As:List (Nat×TI)->Nat->Option TI
 |[],_=>none
 |(t,v)::r,u=>match Nat.beq t u with
  |true=>some v
  |false=>As r u
def veq:Value->Value->Bool
 | .bool a,.bool b=>a==b
 | .int k n,.int j m=>rR k j&&decide (n=m)
 | .string a,.string b=>a.data.toList.isEmpty&&b.data.toList.isEmpty
 | .pointer none,.pointer none=>true
 | .slice none a b,.slice none c d=>Nat.beq a c&&Nat.beq b d
 | .map none,.map none=>true
 | .nilFunc,.nilFunc=>true
 | .nilIface,.nilIface=>true
 |_,_=>false
theorem EZ{a b:IntKind}(h:rR a b=true):a=b:=by cases a<;>cases b<;>first|rfl|cases h
theorem aCe{a b:Value}(h:veq a b=true):a=b/\a.oneCell'=true:=by
 unfold veq at h;split at h
 .exact⟨by rw[eq_of_beq h],rfl⟩
 .simp only[bL,decide_eq_true_eq]at h;exact⟨by rw[EZ h.1,h.2],rfl⟩
 .rename_i a b;simp only[bL,List.isEmpty_iff]at h;refine⟨?_,rfl⟩;have ha:a=⟨#[]⟩:=by
   obtain⟨⟨l⟩⟩:=a;simp only at h;rw[h.1]
  have hb:b=⟨#[]⟩:=by
   obtain⟨⟨l⟩⟩:=b;simp only at h;rw[h.2]
  rw[ha,hb]
 .exact⟨rfl,rfl⟩
 .simp only[bL]at h;exact⟨by rw[fA h.1,fA h.2],rfl⟩
 .exact⟨rfl,rfl⟩
 .exact⟨rfl,rfl⟩
 .exact⟨rfl,rfl⟩
 .cases h
def aB5:List Value->List Value->Bool
 |[],[]=>true
 |a::r,b::s=>veq a b&&aB5 r s
 |_,_=>false
theorem LK:∀{a b:List Value},aB5 a b=true->a=b/\∀x∈b,x.oneCell'=true
 |[],[],_=>⟨rfl,bv⟩
 |a::r,b::s,h=>by
  simp only[aB5,bL]at h;obtain⟨I,G⟩:=aCe h.1;obtain⟨h3,h4⟩:=LK h.2;refine⟨by rw[I,h3],fun x U=>?_⟩;rcases List.mem_cons.1 U with rfl|U
  .rw[<-I];exact G
  .exact h4 x U
 |[],_::_,h=>by cases h
 |_::_,[],h=>by cases h
def Au(P:Program):List Field->List (Nat×Nat)->Bool
 |[],[]=>true
 |f::r,(o,t)::s=>Nat.beq f.offset o&&Nat.beq f.type t&&(P.info? f.type).isSome&&Au P r s
 |_,_=>false
theorem BZ{P:Program}:∀{a:List Field} {b:List (Nat×Nat)},Au P a b=true->a.map (fun f=>(f.offset,f.type))=b/\∀f∈a,(P.info? f.type).isSome=true
 |[],[],_=>⟨rfl,bv⟩
 |f::r,(o,t)::s,h=>by
  simp only[Au,bL]at h;obtain⟨h3,h4⟩:=BZ h.2;refine⟨by rw[List.map_cons,h3,fA h.1.1.1,fA h.1.1.2],fun x U=>?_⟩;rcases List.mem_cons.1 U with rfl|U
  .exact h.1.2
  .exact h4 x U
 |[],_::_,h=>by cases h
 |_::_,[],h=>by cases h
def isAgg:TypeDesc->Bool
 | .struct _=>true
 | .array _ _=>true
 |_=>false
def aDU(a b:Bool):Bool:=match a with
 |true=>b
 |false=> !b
theorem aB6{a b:Bool}(h:aDU a b=true):a=b:=by cases a<;>cases b<;>first|rfl|cases h
def tokB(P:Program)(t:Nat)(i:TI):Bool:=
 (match P.info? t with
  |some inf=>Nat.beq inf.size i.size&&Nat.beq inf.bytes i.bytes&&(match inf.zero with
   |some z=>aB5 z.cells.toList i.zero
   |none=>false)
  |none=>false)&&Nat.beq i.zero.length i.size&&
 (match P.underlying t with
  |some d=>aDU (isAgg d) i.agg&&(match i.tag with
   |1=>(match d with
    | .int k=>rR k i.ik
    |_=>false)
   |2=>(match d with
    | .bool=>true
    |_=>false)
   |3=>(match d with
    | .string=>true
    |_=>false)
   |4=>(match d with
    | .slice e=>Nat.beq e i.elem
    |_=>false)
   |5=>(match d with
    | .struct fs=>Au P fs.toList i.fields
    |_=>false)
   |6=>(match d with
    | .array n e=>Nat.beq n i.Fm&&Nat.beq e i.elem
    |_=>false)
   |_=>true)
  |none=>false)
theorem tok_of{t:Nat}{i:TI}(h:tokB P t i=true):Jb P t i:=by
 simp only[tokB,bL]at h;obtain⟨⟨I,G⟩,h3⟩:=h
 cases D:P.info? t with
 |none=>rw[D]at I;cases I
 |some inf=>
 rw[D]at I;simp only[bL]at I;obtain⟨⟨h4,h5⟩,h6⟩:=I
 cases hz:inf.zero with
 |none=>rw[hz]at h6;cases h6
 |some z=>
 rw[hz]at h6;obtain⟨h7,h8⟩:=LK h6
 cases hu:P.underlying t with
 |none=>rw[hu]at h3;cases h3
 |some d=>
 rw[hu]at h3;simp only[bL]at h3;obtain⟨h9,h10⟩:=h3;refine⟨⟨inf,z,D,fA h4,fA h5,hz,h7⟩,fA G,h8,⟨d,hu,?_⟩,fun e=>?_,fun e=>?_,fun e=>?_,fun e=>?_,fun e=>?_,fun e=>?_⟩
 .rw[<-aB6 h9]
  cases d<;>rfl
 all_goals rw[e]at h10
 .cases d with
  |int k=>simp only at h10;rw[<-EZ h10];exact hu
  |_=>cases h10
 .cases d with
  |bool=>exact hu
  |_=>cases h10
 .cases d with
  |string=>exact hu
  |_=>cases h10
 .cases d with
  |slice e=>simp only at h10;rw[<-fA h10];exact hu
  |_=>cases h10
 .cases d with
  |struct fs=>simp only at h10;exact⟨fs,hu,BZ h10⟩
  |_=>cases h10
 .cases d with
  |array n e=>simp only[bL]at h10;rw[<-fA h10.1,<-fA h10.2];exact hu
  |_=>cases h10
theorem aCf(h:l.all (fun p=>tokB P p.1 p.2)=true):gM P (As l):=by
 intro t i D;have:(t,i)∈l:=by
  clear h
  induction l with
  |nil=>cases D
  |cons p r ih=>
   obtain⟨t0,i0⟩:=p;unfold As at D;split at D
   .rename_i hb;injection D with D;subst D;rw[fA hb];exact aH ..
   .exact aB _ (ih D)
 exact tok_of (List.all_eq_true.1 h _ this)
theorem MP{fn:Func}{c:Code}(hf:P.funcs[g]? =some fn)(hb:fn.body=some c)(W:(fn.name== "runtime.NumGoroutine")=false):OD P g:=
 ⟨fun args w=>by simp only[beq_eq_false_iff_ne]at W;simp[callFunc,hf,hb,W]⟩
theorem eH.mono{args:Array Value}{w:World}(h:eH P g args w Fn)(k:∀e Y,Fn e Y->R' e Y):eH P g args w R':=
 ⟨h.e,Calls.mono h.c k⟩
abbrev ju(B:Nat)(w Y:World):Prop:=RowKit.Below B w Y
theorem ju.refl{w:World}:ju B w w:=RowKit.Below.refl _ _
theorem Rel.cZ{H:Hp}{nx:Nat}{iv:Iv}{w J:World}(r:Rel H nx iv B w O J):ju B w J:=
 ⟨r.os,r.tape,r.output,r.size,fun k K=>r.yJ k (by have:=r.base;omega) (fun id b h W L=>by have:=(r.low id b h W).1;omega)⟩
theorem ju.tr{a b c:World}(h:ju B a b)(k:ju B b c):ju B a c:=RowKit.Below.trans h k
theorem Ext.cZ{a b:World}(h:Ext a b)(hB:B<=a.heap.size):ju B a b:=RowKit.Below.mono h hB
end Go.Sx
namespace Go.RowKit
open Go Go.Sx
theorem Below.cZ{B:Nat}{a b:World}(h:RowKit.Below a.heap.size a b)(hB:B<=a.heap.size):RowKit.Below B a b:=RowKit.Below.mono h hB
end Go.RowKit
namespace Go.Sx
open Go
section
variable{args:(Nat->eG)->Array Value}{J9:(Nat->eG)->World->Value->World->Prop}{H:Hp}{GE:Int->Prop}{iv:Iv}{B i n nx:Nat}{O:Nat->eG}{P:Program}
theorem cV{w Y:World}{a:Addr}(h:Y.heap[a.block]? =w.heap[a.block]?):Y.cell? a=w.cell? a:=by
 unfold World.cell?;rw[h]
theorem ju.cell{w Y:World}(h:ju B w Y){a:Addr}(ha:a.block<B):Y.cell? a=w.cell? a:=cV (h.block _ ha)
def H5(l:Env):Env->Prop
 |[]=>True
 |(u,v)::r=>gK l u=some v/\H5 l r
theorem H5.get{l:Env}:∀{t:Env},H5 l t->∀u v,gK t u=some v->gK l u=some v
 |[],_,u,v,h=>by cases h
 |(u0,v0)::r,h,u,v,X=>by
  rw[fQ]at X;split at X
  .rename_i e;subst e;injection X with X;subst X;exact h.1
  .exact H5.get h.2 u v X
def kK(n:Nat):Env->Prop
 |[]=>True
 |(_,v)::r=>v.sc n/\kK n r
theorem kK.get{n:Nat}:∀{t:Env},kK n t->∀u v,gK t u=some v->v.sc n
 |[],_,u,v,h=>by cases h
 |(u0,v0)::r,h,u,v,X=>by
  rw[fQ]at X;split at X
  .injection X with X;subst X;exact h.1
  .exact kK.get h.2 u v X
theorem Rel.aDq{w J:World}(r:Rel H nx iv B w O J):Rel H nx [] B w O J:=
 Rel.mk' r.os r.tape r.output r.size r.base bv r.keys (fun id b h=>r.fits h) (fun id b h=>r.scopd h) r.inj r.low r.yJ bv
theorem Sub.reset{l tl:Env}{w J:World}(r:Rel H nx iv B w O J)(I:H5 l tl)(G:kK nx tl):Sub B l nx O J ⟨tl,H,nx,[],J⟩:=
 ⟨O,r.here.aDq,fun u v hv=>⟨G.get u v hv,v,I.get u v hv,rfl⟩⟩
def eR(w:World)(J9:Value->World->Prop)(e:Ending)(Y:World):Prop:=∃v,e= .returned v/\Ext w Y/\J9 v Y
theorem cU{g:Nat}{w:World}{GE:SV->Hp->Iv->World->Prop}
  (h:∀O J,Rel H nx iv B w O J->eH P g (args O) J (eR J (J9 O J))) (hK:∀O J v Y,Rel H nx iv B w O J->Ext J Y->ju B w Y->J9 O J v Y->GE (.o (.v v)) H ((J.heap.size,Y.heap.size)::iv) Y):H3 P B g args H nx iv w GE:=
 ⟨fun O J r=>(h O J r).mono fun e Y ⟨v,I,G,h3⟩=>⟨v,I,G,hK O J v Y r G (r.cZ.tr (G.cZ (by have:=r.base;have:=r.size;omega))) h3⟩⟩
theorem cE{g:Nat}{w w0:World}{GE:SV->Hp->Iv->World->Prop}(V:ju B w0 w)(J9:(Nat->eG)->World->Value->World->Prop)
  (h:∀O J,Rel H nx iv B w O J->eH P g (args O) J (eR J (J9 O J))) (hK:∀O J v Y N,Rel H nx iv B w O J->Ext J Y->ju B w0 Y->N=(J.heap.size,Y.heap.size)::iv->J9 O J v Y->GE (.o (.v v)) H N Y):H3 P B g args H nx iv w GE:=
 cU h fun O J v Y r I G h3=>hK O J v Y _ r I (V.tr G) rfl h3
theorem mC{a:Nat×Nat}{N:Iv}(h:N=a::iv):∀p,p∈iv->p∈N:=h▸fun _ h=>aB _ h
theorem mN{a:Nat×Nat}{N:Iv}(h:N=a::iv):a∈N:=h▸aH
theorem wrap64{n:Int}(I: -9223372036854775808<=n)(G:n<=9223372036854775807):IntKind.wrap .i64 n=n:=by
 have e1:(2:Int)^64=18446744073709551616:=by decide
 have e2:(2:Int)^(64-1)=9223372036854775808:=by decide
 simp only[IntKind.wrap,IntKind.bits,IntKind.signed,e1,e2]
 by_cases h:n % 18446744073709551616≥9223372036854775808
 .rw[aM (by simp[h])];omega
 .rw[aJ (by simp[h])];omega
theorem wo{n r:Int}(h:(-9223372036854775808<=n/\n<=9223372036854775807)/\n=r:=by omega):IntKind.wrap .i64 n=r:=by rw[wrap64 h.1.1 h.1.2];exact h.2
theorem inc(i:Nat)(h:GE ((i+1:Nat):Int))(hb:i<9223372036854775807:=by omega):∃r,IntKind.wrap .i64 ((i:Int)+1)=r/\GE r:=⟨_,by rw[wrap64]<;>omega,h⟩
theorem dL(h:decide ((i:Int)<(n:Int))=true):i<n:=by have:=aK h;omega
theorem dE(D:i<=n)(h:decide ((i:Int)<(n:Int))=false):i=n:=by have:=aG h;omega
theorem gO{α:Type}(l:List α)(i:Nat)(h:i<l.length:=by omega):∃x,l[i]? =some x:=⟨_,aD h⟩
theorem exq{α:Type}(a:α):∃x,a=x:=⟨_,rfl⟩
theorem lr:n<=n:=aP n
theorem dec(h:i<n):n-(i+1)<n-i:=by omega
theorem l1{α:Type}{l:List α}{x:α}:(l++[x]).length=l.length+1:=by rw[aQ];rfl
theorem mx(h:n<=9223372036854775807:=by omega):n<=maxLen:=h
theorem Av{n:Int}(I:0<=n)(G:n<18446744073709551616):IntKind.wrap .u64 n=n:=by
 have e1:(2:Int)^64=18446744073709551616:=by decide
 simp only[IntKind.wrap,IntKind.bits,IntKind.signed,e1,Bool.false_and,Bool.false_eq_true,if_false]
 omega
theorem Aw{n:Int}(I:0<=n)(G:n<4294967296):IntKind.wrap .u32 n=n:=by
 have e1:(2:Int)^32=4294967296:=by decide
 simp only[IntKind.wrap,IntKind.bits,IntKind.signed,e1,Bool.false_and,Bool.false_eq_true,if_false]
 omega
end
variable{args:(Nat->eG)->Array Value}{J9:(Nat->eG)->World->Value->World->Prop}{next:Act->World->Prop}{after:Array Edge}{es:Array MapEntry}{ag ag':Bool}{Q:Exit->Act->World->Prop}{tH:Hp}{m:Int}{ik ik' k:IntKind}{GE:KT}{fs fs':List (Nat×Nat)}{Z cs2 ks xs ze:List Value}{B bt clock g id r sz t tag' ty:Nat}{O:Nat->eG}{i y:Operand}{guard:Option (Nat×Bool)}{row:Option Nat}{dst:Option Tmp}{pos:String}{key z:Value}{KS:Value->Prop}
section
variable{P:Program}{τ:og}{B nx:Nat}{l:Env}{H:Hp}{iv:Iv}{w J Y:World}{O:Nat->eG}
theorem Rel.H6{Oy:Iv}(r:Rel H nx iv B w O J)(PR:J.heap.size<=Y.heap.size)(Sa:∀id b,dU H id=some b->(O id).nil=false->Y.heap[(O id).g]? =J.heap[(O id).g]?)
  (XQ:∀lo D,(lo,D)∈Oy->D<=Y.heap.size/\∀id b,dU H id=some b->(O id).nil=false->¬(lo<=(O id).g/\(O id).g<D)):Rel H nx Oy B Y O Y:=
 Rel.mk' rfl rfl rfl (aP _) (by have:=r.base;have:=r.size;omega) (fun lo D h=>(XQ lo D h).1) r.keys
  (fun id b h=>kp.jQ (r.fits h) (fun _ _=>rfl) (r.scopd h) (fun W _=>Sa id b h W)) (fun id b h=>r.scopd h) r.inj
  (fun id b h W=>by have:=r.low id b h W;omega) (fun _ _ _=>rfl) (fun lo D h=>(XQ lo D h).2)
theorem u9(hτ:gM P τ){Bc:Nat}(hBc:Bc<=B){x:Operand}{e by_ k m:Nat}{ze':List Value}{sz0 e' al al':Nat}
  {v:Value} {vy:SV} {news:List Value} {GE:SV->Hp->Nat->Iv->World->Prop}
  (ht:τ t=some ⟨sz0,ag,bt,ze,4,ik,e,al,fs⟩) (QT:τ e=some ⟨sz,ag',by_,ze',tag',ik',e',al',fs'⟩) (Ph:0<sz) (U:ev l x=some (.o (.v v))) (hy:ev l y=some vy)
  (SQ:∀O J,Rel H nx iv B w O J->J.ownsRow Bc e sz v m xs/\∀g,v.ownBlock=some g->∀id b,dU H id=some b->(O id).nil=false->(O id).g≠g)
  (S4:news.length=k*sz) (UZ:∀u∈news,u.oneCell'=true) (SA:m+k<=maxLen) (hb:(m+k)*by_<=140737488355328)
  (src:∀O J,Rel H nx iv B w O J->(∃c,vy.den O= .slice none 0 c/\k=0)\/∃ad c,vy.den O= .slice (some ad) k c/\∀(j:Nat) u,news[j]? =some u->J.cell? (ad.add j)=some u)
  (Oy:Value->World->Iv)
  (XQ:∀O J v' Y,Rel H nx iv B w O J->J.heap.size<=Y.heap.size->(∀g,v'.ownBlock=some g->g<Y.heap.size/\(v.ownBlock=some g\/g=J.heap.size))->∀lo D,(lo,D)∈Oy v' Y->D<=Y.heap.size/\∀id b,dU H id=some b->(O id).nil=false->¬(lo<=(O id).g/\(O id).g<D))
  (hK:∀O J v' Y,Rel H nx iv B w O J->Y.ownsRow Bc e sz v' (m+k) (xs++news)->J.grownBy Y v.ownBlock->(v'.ownBlock=v.ownBlock\/v'.ownBlock=some J.heap.size)->GE (.o (.v v')) H nx (Oy v' Y) Y):
  B1 P B ⟨dst,.call ⟨.builtin .append,⟨[x,y]⟩,⟨[t,t]⟩⟩,ty,pos,after,guard⟩ l H nx iv w GE:=by
 refine⟨fun O J ev' r Ro=>?_⟩;have hto:=hτ t _ ht;have hu:=hto.i4 rfl;simp only at hu;have Sp:=hτ e _ QT;obtain⟨inf,z,D,PR,PZ,hz,S5⟩:=Sp.info;have Sl:=Sp.MQ;simp only at PR PZ S5 Sl;have hzs:z.cells.size=sz:=by rw[<-Sl,<-S5];simp
 obtain⟨Ov,Ox⟩:=SQ O J r;have key:∃v' Y,(Builtin.append_ #[t,t] ty #[v,vy.den O]).run P J= .ok v' Y/\Y.ownsRow Bc e sz v' (m+k) (xs++news)/\J.grownBy Y v.ownBlock/\(v'.ownBlock=v.ownBlock\/v'.ownBlock=some J.heap.size):=by
  rcases src O J r with⟨c,hv,rfl⟩|⟨ad,c,hv,QG⟩
  .have:news=[]:=List.eq_nil_of_length_eq_zero (by simpa using S4);subst this;rw[hv];exact⟨v,J,mh J Bc t ty e inf sz hu D v m xs Ov c,by simpa using Ov,⟨rfl,rfl,rfl,aP _,fun _ _ _=>rfl⟩,.inl rfl⟩
  .rw[hv];obtain⟨v',Y,I,G,h3,_,h5⟩:=run_append_own_at (P:=P) J Bc t ty e inf z sz by_ hu D hz PR PZ hzs Ph v m xs Ov ad k c news S4 QG UZ SA hb (by have:=r.base;have:=r.size;omega);exact⟨v',Y,I,G,h3,h5⟩
 obtain⟨v',Y,I,G,h3,h4⟩:=key;have e1:=Ro x _ U;have e2:=Ro y _ hy;have Rg:∀g,v'.ownBlock=some g->g<Y.heap.size/\(v.ownBlock=some g\/g=J.heap.size):=fun g X=>by
  refine⟨?_,?_⟩
  .rcases G.2 with⟨rfl,_⟩|⟨g',cap,cur,rfl,_,hc,_⟩
   .cases X
   .simp only[Value.ownBlock,Option.some.injEq]at X;subst X;exact(bM.1 hc).1
  .rcases h4 with h4|h4
   .exact .inl (h4▸X)
   .rw[h4]at X;injection X with X;exact .inr X.symm
 refine⟨v',Y,Oy v' Y,.inl ?_,r.H6 h3.size (fun id b h W=>h3.block _ (r.low id b h W).2 (fun e=>Ox _ e.symm id b h W rfl)) (XQ O J v' Y r h3.size Rg),hK O J v' Y r G h3 h4⟩;have e1:ev' x=v:=e1;generalize vy.den O=yy at*
 simp[execOp,resolve,invoke,builtin,e1,e2,I]
theorem ju.grown{B0:Nat}(h:J.grownBy Y row)(hr:∀g,row=some g->B0<=g)(hB:B0<=J.heap.size):ju B0 J Y:=
 ⟨h.os,h.tape,h.output,h.size,fun k K=>h.block k be (fun e=>by have:=hr k e.symm;omega)⟩
theorem ownsRow.low{e m:Nat}{v:Value}(h:w.ownsRow B e sz v m xs):∀g,v.ownBlock=some g->B<=g/\g<w.heap.size:=by
 intro g X;rcases h.2 with⟨rfl,_⟩|⟨g',cap,cur,rfl,hb,hc,_⟩
 .cases X
 .simp only[Value.ownBlock,Option.some.injEq]at X;subst X;exact⟨hb,(bM.1 hc).1⟩
theorem ownsRow.cR{e m:Nat}{v:Value}(h:w.ownsRow B e sz v m xs)(K:∀g,v.ownBlock=some g->Y.heap[g]? =w.heap[g]?):Y.ownsRow B e sz v m xs:=by
 refine⟨h.1,?_⟩;rcases h.2 with I|⟨g',cap,cur,rfl,hb,hc,G⟩
 .exact .inl I
 .exact .inr ⟨g',cap,cur,rfl,hb,by rw[K g' rfl];exact hc,G⟩
end
def At.HR(f:Nat->Nat):At->At
 | .v x=>.v x
 | .p id off=>.p (f id) off
 | .s id off len cap=>.s (f id) off len cap
 | .w id len=>.w (f id) len
 | .fn g caps=>.fn g (caps.map f)
def SV.HR(f:Nat->Nat):SV->SV
 | .o x=>.o (x.HR f)
 | .a Z=>.a (Z.map (At.HR f))
def kp.HR(f:Nat->Nat):kp->kp
 | .box t Z=>.box t (Z.map (At.HR f))
 | .arr t Z=>.arr t Z
 | .vec t size Z=>.vec t size Z
 | .dead=>.dead
theorem At.wH(f:Nat->Nat)(O:Nat->eG)(x:At):(x.HR f).den O=x.den (fun i=>O (f i)):=by
 cases x<;>simp[At.HR,At.den]
theorem SV.wH(f:Nat->Nat)(O:Nat->eG)(x:SV):(x.HR f).den O=x.den (fun i=>O (f i)):=by
 cases x with
 |o x=>exact At.wH f O x
 |a Z=>
  have:At.den O ∘ At.HR f=At.den (fun i=>O (f i)):=funext fun x=>At.wH f O x;simp[SV.HR,SV.den,this]
def B2:List (Nat×Nat)->Nat->Nat
 |[],n=>n
 |(a,b)::r,n=>match Nat.beq a n with
  |true=>b
  |false=>B2 r n
def E1(f:Nat->Nat)(l:Env):Env->Prop
 |[]=>True
 |(u,v)::r=>gK l u=some (v.HR f)/\E1 f l r
def E2(f:Nat->Nat)(H:Hp):Hp->Prop
 |[]=>True
 |(u,b)::r=>dU H (f u)=some (b.HR f)/\E2 f H r
def ScH(n:Nat):Hp->Prop
 |[]=>True
 |(u,b)::r=>(u<n/\b.scopd n)/\ScH n r
def OE(f:Nat->Nat):Hp->Bool
 |[]=>true
 |(u,_)::r=>r.all (fun p=>Nat.beq p.1 u|| !Nat.beq (f p.1) (f u))&&OE f r
theorem E1.get{f:Nat->Nat}{l:Env}:∀{t:Env},E1 f l t->∀u v,gK t u=some v->gK l u=some (v.HR f)
 |[],_,u,v,h=>by cases h
 |(u0,v0)::r,h,u,v,X=>by
  rw[fQ]at X;split at X
  .rename_i e;subst e;injection X with X;subst X;exact h.1
  .exact E1.get h.2 u v X
theorem E2.get{f:Nat->Nat}{l:Hp}:∀{t:Hp},E2 f l t->∀u v,dU t u=some v->dU l (f u)=some (v.HR f)
 |[],_,u,v,h=>by cases h
 |(u0,v0)::r,h,u,v,X=>by
  rw[da]at X;split at X
  .rename_i e;subst e;injection X with X;subst X;exact h.1
  .exact E2.get h.2 u v X
theorem ScH.get{n:Nat}:∀{t:Hp},ScH n t->∀u b,dU t u=some b->u<n/\b.scopd n
 |[],_,u,v,h=>by cases h
 |(u0,v0)::r,h,u,v,X=>by
  rw[da]at X;split at X
  .rename_i e;subst e;injection X with X;subst X;exact h.1
  .exact ScH.get h.2 u v X
theorem H7:∀{t:Hp} {u:Nat} {b:kp},dU t u=some b->∃p∈t,p.1=u
 |[],u,b,h=>by cases h
 |(u0,v0)::r,u,b,h=>by
  rw[da]at h;split at h
  .rename_i e;exact⟨_,aH ..,e⟩
  .obtain⟨p,I,G⟩:=H7 h;exact⟨p,aB _ I,G⟩
theorem E3{f:Nat->Nat}:∀{t:Hp},OE f t=true->∀u v b c,dU t u=some b->dU t v=some c->f u=f v->u=v
 |[],_,u,v,b,c,h,_,_=>by cases h
 |(u0,v0)::r,D,u,v,b,c,hu,hv,L=>by
  simp only[OE,bL]at D;have key:∀{w:Nat} {d:kp},dU r w=some d->f w=f u0->w=u0:=fun{w d} V hf=>by
   obtain⟨p,hp,rfl⟩:=H7 V;have:=List.all_eq_true.1 D.1 p hp;simp only[Bool.or_eq_true,Bool.not_eq_true']at this;rcases this with h|h
   .exact fA h
   .rw[hf,Nat.beq_refl]at h;cases h
  rw[da]at hu hv;split at hu<;>split at hv
  .rename_i x y;rw[<-x,<-y]
  .rename_i x y;subst x;exact(key hv L.symm).symm
  .rename_i x y;subst y;exact key hu L
  .exact E3 D.2 u v b c hu hv L
theorem Sub.gen{l tl:Env}{nx PC:Nat}{H:Hp}{iv N:Iv}{w J:World}(m:List (Nat×Nat))(r:Rel H nx iv B w O J)
  (hH:E2 (B2 m) H tH) (hE:E1 (B2 m) l tl) (hsH:ScH PC tH) (hsE:kK PC tl) (D:OE (B2 m) tH=true) (XQ:∀lo D,(lo,D)∈N->(lo,D)∈iv):Sub B l nx O J ⟨tl,tH,PC,N,J⟩:=by
 refine⟨fun i=>O (B2 m i),(?_:Rel tH PC N B J (fun i=>O (B2 m i)) J),fun u v hv=>⟨hsE.get u v hv,_,hE.get u v hv,SV.wH _ _ _⟩⟩;refine Rel.mk' rfl rfl rfl (aP _) (by have:=r.base;have:=r.size;omega) (fun lo D h=>by have:=r.tI lo D (XQ lo D h);have:=r.size;omega) (fun id b h=>(hsH.get id b h).1) ?_ (fun id b h=>(hsH.get id b h).2) ?_ ?_ (fun _ _ _=>rfl) ?_
 .intro id b h;have I:=r.fits (hH.get id b h);have hr:At.den O ∘ At.HR (B2 m)=At.den (fun i=>O (B2 m i)):=funext fun x=>At.wH _ O x
  cases b with
  |box t Z=>simpa [kp.HR,kp.fits,hr]using I
  |arr t Z=>exact I
  |vec t size Z=>exact I
  |dead=>trivial
 .intro id id' b b' h h' hd YJ W hn' L;refine E3 D id id' b b' h h' (r.inj _ _ _ _ (hH.get id b h) (hH.get id' b' h') ?_ ?_ W hn' L)
  .cases b<;>first|(exact absurd rfl hd)|simp[kp.HR]
  .cases b'<;>first|(exact absurd rfl YJ)|simp[kp.HR]
 .intro id b h W;exact r.low _ _ (hH.get id b h) W
 .intro lo UX h id b hb W;exact r.mA lo UX (XQ lo UX h) _ _ (hH.get id b hb) W
theorem sbgn{l tl:Env}{nx PC:Nat}{H:Hp}{iv N:Iv}{w J:World}(m:List (Nat×Nat))(r:Rel H nx iv B w O J)
  (hH:E2 (B2 m) H tH:=by repeat' first|exact trivial|refine⟨rfl,?_⟩) (hE:E1 (B2 m) l tl:=by repeat' first|exact trivial|refine⟨rfl,?_⟩) (hsH:ScH PC tH:=by simp[ScH,kp.scopd,At.sc]) (hsE:kK PC tl:=by simp[kK,SV.sc,At.sc,fc]) (D:OE (B2 m) tH=true:=by rfl) (XQ:∀lo D,(lo,D)∈N->(lo,D)∈iv:=by first|exact fun _ _ h=>h|simp):Sub B l nx O J ⟨tl,tH,PC,N,J⟩:=Sub.gen m r hH hE hsH hsE D XQ
def AM(H:Hp):Hp->Prop
 |[]=>True
 |(u,b)::r=>dU H u=some b/\AM H r
def H8(id:Nat):Hp->Bool
 |[]=>true
 |(_,.dead)::_=>false
 |(u,_)::r=> !Nat.beq u id&&H8 id r
theorem AM.get{H:Hp}:∀{t:Hp},AM H t->∀{u b},dU t u=some b->dU H u=some b
 |[],_,u,b,h=>by cases h
 |(v,c)::r,hs,u,b,h=>by
  unfold dU at h;split at h
  .rename_i e;injection h with h;subst h;have:=bm e;subst this;exact hs.1
  .exact AM.get hs.2 h
theorem H8.get{id:Nat}:∀{t:Hp},H8 id t=true->∀{u b},dU t u=some b->u≠id/\b≠ .dead
 |[],_,u,b,h=>by cases h
 |(v,c)::r,hs,u,b,h=>by
  unfold dU at h;split at h
  .rename_i e;injection h with h;subst h;have:=bm e;subst this;have hv:v.beq id=false->v≠id:=fun h e=>by rw[e,Nat.beq_refl]at h;cases h
   cases c<;>simp_all [H8]
  .refine H8.get (t:=r) ?_ h
   cases c<;>simp_all [H8]
section
variable{P:Program}{B nx:Nat}{H H':Hp}{iv:Iv}{w J Y:World}{O:Nat->eG}
theorem Rel.free{b:kp}(r:Rel H nx iv B w O J)(QF:dU H id=some b)(hd:b≠ .dead)(W:(O id).nil=false)(hs:AM H H')(ho:H8 id H'=true):Rel H' nx (((O id).g,(O id).g+1)::iv) B J O J:=by
 have I:Rel H' nx iv B J O J:=Rel.mk' rfl rfl rfl (aP _) (by have:=r.base;have:=r.size;omega) (fun lo D hm=>by have:=r.tI lo D hm;have:=r.size;omega) (fun j c h=>r.keys j c (hs.get h))
  (fun j c h=>r.fits (hs.get h)) (fun j c h=>r.scopd (hs.get h)) (fun j k c e h h'=>r.inj j k c e (hs.get h) (hs.get h')) (fun j c h=>r.low j c (hs.get h)) (fun _ _ _=>rfl) (fun lo D hm j c h=>r.mA lo D hm j c (hs.get h))
 refine I.more (by have:=(r.low id b QF W).2;omega) fun j c hj hnj L=>?_;obtain⟨G,h3⟩:=H8.get ho hj;exact G (r.inj j id c b (hs.get hj) QF h3 hd hnj W be)
theorem iM{GE:SV->Hp->Iv->World->Prop}(id:Nat){b:kp}(QF:dU H id=some b)(hd:b≠ .dead)(hs:AM H H')(ho:H8 id H'=true)
  (W:∀O J,Rel H nx iv B w O J->(O id).nil=false)
  (hc:∀O J,Rel H nx iv B w O J->eH P g (args O) J (eR J (J9 O J)))
  (h:∀O J v Y,Rel H nx iv B w O J->Ext J Y->ju B w Y->J9 O J v Y->GE (.o (.v v)) H' (((O id).g,(O id).g+1)::(J.heap.size,Y.heap.size)::iv) Y):E4 P B g args H nx iv w GE:=
 ⟨fun O J r=>⟨(hc O J r).e,Calls.mono (hc O J r).c fun e Y L=>by
  obtain⟨v,I,G,h3⟩:=L;have r2:Rel H nx ((J.heap.size,Y.heap.size)::iv) B Y O Y:=(r.ext G).here.more (aP _) (fun j c hj W=>by have:=(r.low j c hj W).2;omega)
  exact⟨v,H',_,I,r2.free QF hd (W O J r) hs ho,h O J v Y r G (r.cZ.tr (G.cZ (by have:=r.base;have:=r.size;omega))) h3⟩⟩⟩
end
inductive Tr where
 |nil
 |one (i:Nat) (t:Tr)
 |two (i:Nat) (t:Tr) (j:Nat) (u:Tr)
def Tr.depth:Tr->Nat
 | .nil=>0
 | .one _ t=>t.depth+1
 | .two _ t _ u=>max t.depth u.depth+1
def zT(ops:Array Oper):Tr->Array Bool->Bool
 | .nil,la=>(Region.ready .any ops la).isEmpty
 | .one i t,la=>match Region.ready .any ops la with
  |[x]=>Nat.beq x i&&zT ops t (la.setIfInBounds i true)
  |_=>false
 | .two i t j u,la=>match Region.ready .any ops la with
  |[x,y]=>Nat.beq x i&&(Nat.beq y j&&(zT ops t (la.setIfInBounds i true)&&zT ops u (la.setIfInBounds j true)))
  |_=>false
def OF(P:Program)(τ:og)(B:Nat)(all:List Oper):Tr->Env->Hp->Nat->Iv->World->KT->Prop
 | .nil,l,H,nx,iv,w,GE=>GE l H nx iv w
 | .one i t,l,H,nx,iv,w,GE=>uW all i (fun o=>jA false P τ B all o l H nx iv w (fun l' H' PC N J=>OF P τ B all t l' H' PC N J GE))
 | .two i t j u,l,H,nx,iv,w,GE=>uW all i (fun o=>jA false P τ B all o l H nx iv w (fun l' H' PC N J=>OF P τ B all t l' H' PC N J GE))/\
   uW all j (fun o=>jA false P τ B all o l H nx iv w (fun l' H' PC N J=>OF P τ B all u l' H' PC N J GE))
section
variable{P:Program}{τ:og}{ops:Array Oper}{B n nx:Nat}{l:Env}{H:Hp}{iv:Iv}{w J:World}{O:Nat->eG}{a:Act}
theorem Fp(hτ:gM P τ)(Oz:∀(j:Nat) o,ops[j]? =some o->∀d,o.dst=some d->d<n){i:Nat}
  (h:uW ops.toList i (fun o=>jA false P τ B ops.toList o l H nx iv w GE)) (sat:Sat n l H nx iv B w O a J)
  (W:∀l' H' PC N Y IR a' w3,GE l' H' PC N Y->Sat n l' H' PC N B Y IR a' w3->next a' w3):wpOp P ops Q i next a J:=by
 obtain⟨o,ho,I⟩:=iS h;rw[bQ]at ho;have hd:=Oz i o ho;unfold jA at I;refine rQ ho ?_;rcases mQ sat I with⟨V,l1,G,sat1⟩|⟨V,l1,G,sat1⟩
 .refine .inl ⟨V,pZ hτ G sat1 fun v H' PC N Y IR w3 h3 sat2 hv=>?_⟩;obtain⟨l2,h4,sat3⟩:=jR sat2 h3 hd hv;exact W _ _ _ _ _ _ _ _ h4 sat3
 .obtain⟨l2,h4,sat3⟩:=jR sat1 G hd trivial;exact .inr ⟨V,W _ _ _ _ _ _ _ _ h4 sat3⟩
theorem wI(hτ:gM P τ)(Oz:∀(j:Nat) o,ops[j]? =some o->∀d,o.dst=some d->d<n){GE:KT}{Q:Exit->Act->World->Prop}
  (hQ:∀l' H' PC N Y IR a' w3,GE l' H' PC N Y->Sat n l' H' PC N B Y IR a' w3->Q .normal a' w3):
  ∀(t:Tr) (fuel:Nat) (la:Array Bool) (l:Env) (H:Hp) (nx:Nat) (iv:Iv) (w:World) (O:Nat->eG) (a:Act) (J:World),t.depth<=fuel->zT ops t la=true->OF P τ B ops.toList t l H nx iv w GE->Sat n l H nx iv B w O a J->wpAny P .any ops Q fuel la a J
 | .nil,fuel,la,l,H,nx,iv,w,O,a,J,_,hc,h,s=>by
  simp only[zT,List.isEmpty_iff]at hc;have hq:=hQ _ _ _ _ _ _ _ _ h s
  cases fuel with
  |zero=>exact⟨hc,hq⟩
  |succ fuel=>exact⟨fun _=>hq,fun i D=>by rw[hc]at D;cases D⟩
 | .one i t,fuel,la,l,H,nx,iv,w,O,a,J,hf,hc,h,s=>by
  simp only[Tr.depth]at hf;obtain⟨fuel,rfl⟩:∃q,fuel=q+1:=⟨fuel-1,be⟩
  simp only[zT]at hc;split at hc
  .rename_i x hr;simp only[bL]at hc;have U:=bm hc.1;subst U;refine⟨fun h0=>(by rw[hr]at h0;cases h0),fun j hj=>?_⟩;rw[hr,bK]at hj;subst hj;exact Fp hτ Oz h s fun _ _ _ _ _ _ _ _ K hs=>wI hτ Oz hQ t fuel _ _ _ _ _ _ _ _ _ be hc.2 K hs
  .cases hc
 | .two i t k u,fuel,la,l,H,nx,iv,w,O,a,J,hf,hc,h,s=>by
  simp only[Tr.depth]at hf;obtain⟨fuel,rfl⟩:∃q,fuel=q+1:=⟨fuel-1,be⟩
  simp only[zT]at hc;split at hc
  .rename_i x y hr;simp only[bL]at hc;obtain⟨c1,c2,c3,c4⟩:=hc;have U:=bm c1;have hy:=bm c2;subst U;subst hy;obtain⟨I,G⟩:=h;refine⟨fun h0=>(by rw[hr]at h0;cases h0),fun j hj=>?_⟩;rw[hr,List.mem_cons,bK]at hj;rcases hj with rfl|rfl
   .exact Fp hτ Oz I s fun _ _ _ _ _ _ _ _ K hs=>wI hτ Oz hQ t fuel _ _ _ _ _ _ _ _ _ be c3 K hs
   .exact Fp hτ Oz G s fun _ _ _ _ _ _ _ _ K hs=>wI hτ Oz hQ u fuel _ _ _ _ _ _ _ _ _ be c4 K hs
  .cases hc
theorem j3(hτ:gM P τ)(hm:P.follows .mixedOrders=true)(t:Tr)(hc:(Nat.ble t.depth ops.size&&zT ops t (Array.replicate ops.size false))=true)
  (h:OF P τ B ops.toList t l H nx iv w GE):yM P B ops l H nx iv w GE:=by
 simp only[bL]at hc;refine⟨fun n O a J Oz sat Q hQ id=>?_⟩;refine wp_region_any hm (wI hτ (fun j o ho d hd=>?_) hQ t _ _ _ _ _ _ _ O _ _ (Nat.le_of_ble_eq_true hc.1) hc.2 h ⟨sat.rel.drew,sat.size,sat.defers,sat.env,sat.sc⟩);have:=List.all_eq_true.1 Oz o (aC (by rw[bQ];exact ho));rw[hd]at this;have h5:d+1<=n:=by simpa [Nat.blt]using this
 exact h5
end
section
variable{P:Program}{τ:og}{B n nx:Nat}{l:Env}{H:Hp}{iv:Iv}{w J:World}{O:Nat->eG}{a:Act}
theorem tL{x:Operand}{GE:SV->Hp->Nat->Iv->World->Prop}{s:ByteArray}{b:UInt8}
  (hu:P.underlying t=some .string) (U:ev l x=some (.o (.v (.string s)))) (D:ev l i=some (.o (.v (.int k m)))) (hm:0<=m) (hb:s[m.toNat]? =some b)
  (hK:∀O J,Rel H nx iv B w O J->GE (.o (.v (.int .u8 b.toNat))) H nx iv J):B1 P B ⟨dst,.index t x i,ty,pos,after,guard⟩ l H nx iv w GE:=by
 refine⟨fun O J ev' r Ro=>⟨.int .u8 b.toNat,J,iv,.inl ?_,r.here,hK O J r⟩⟩;have e1:ev' x= .string s:=Ro x _ U;have e2:ev' i= .int k m:=Ro i _ D;simp[execOp,e1,e2,Instr.index,asIntOf,run_underlying hu,hm,hb]
theorem oq(w:World)(t e:TypeId)(a:Option Addr)(n c n' c':Nat)(h:P.underlying t=some (.slice e)):
  (binOp .eql t (.slice a n c) (.slice none n' c')).run P w= .ok (.bool a.isNone) w:=by
 have:∀d,(Op.equalIn (d+1) t (.slice a n c) (.slice none n' c')).run P w= .ok a.isNone w:=fun d=>by cases a<;>simp[Op.equalIn,run_underlying h]
 simp only[binOp]
 simp[Op.equal,Op.maxDepth,this 9999]
theorem kY(w:World)(g:Nat)(Z:Array Value):w.grownBy (w.setRow g Z) (some g):=
 ⟨rfl,rfl,rfl,bv,fun k _ Ox=>setRow_other _ _ _ _ fun e=>Ox (by rw[e])⟩
theorem Rel.B3{Y:World}(r:Rel H nx iv B w O J)(Ox:∀id b,dU H id=some b->(O id).nil=false->(O id).g≠g)(h:J.grownBy Y (some g)):Rel H nx iv B Y O Y:=
 r.H6 h.size (fun id b hb W=>h.block _ (r.low id b hb W).2 fun e=>Ox id b hb W (Option.some.inj e)) fun lo D hm=>⟨by have:=r.tI lo D hm;have:=r.size;have:=h.size;omega,fun id b hb W=>r.mA lo D hm id b hb W⟩
theorem Dj(z:Value)(n:Nat):(Builtin.zeroCells #[z] n).toList=List.replicate n z:=by
 apply bT;intro i;simp only[Builtin.zeroCells,Array.toList_map,aO,Array.toList_range,List.getElem?_replicate]
 by_cases h:i<n
 .simp[h,Nat.mod_one]
 .simp[h]
theorem MR(hτ:gM P τ){e by_ k off c tg:Nat}{x:Operand}{sz0 e' al al':Nat}
  {GE:SV->Hp->Nat->Iv->World->Prop}
  (ht:τ t=some ⟨sz0,ag,bt,ze,4,ik,e,al,fs⟩) (QT:τ e=some ⟨1,ag',by_,[z],tag',ik',e',al',fs'⟩) (U:ev l x=some (.o (.v (.slice (some ⟨g,off,none⟩) k c)))) (K:k≠0)
  (X:∀O J,Rel H nx iv B w O J->J.heap[g]? =some (.cells Z.toArray tg (0,0))/\∀id b,dU H id=some b->(O id).nil=false->(O id).g≠g) (Qo:off+k<=Z.length)
  (hK:∀O J Y,Rel H nx iv B w O J->Y.heap[g]? =some (.cells (Z.take off++List.replicate k z++Z.drop (off+k)).toArray tg (0,0))->J.grownBy Y (some g)->Y.heap.size=J.heap.size->GE (.o (.v (.tuple #[]))) H nx iv Y):
  B1 P B ⟨dst,.call ⟨.builtin .clear,⟨[x]⟩,⟨[t]⟩⟩,ty,pos,after,guard⟩ l H nx iv w GE:=by
 refine⟨fun O J ev' r Ro=>?_⟩;have hu:=(hτ t _ ht).i4 rfl;simp only at hu;have Sp:=hτ e _ QT;obtain⟨inf,zv,D,PR,PZ,hz,S5⟩:=Sp.info;have hzo:=Sp.aDr z bv;simp only at PR S5;have XR:zv.cells= #[z]:=by apply Array.ext';simpa using S5
 obtain⟨hc,Ox⟩:=X O J r;have Qm:=run_storeCells_at (P:=P) g off tg (List.replicate k z) 0 Z.toArray J hc (by simpa using Qo) (fun v hv=>by rw[List.mem_replicate]at hv;rw[hv.2];exact hzo);have Sl:=Dj z k;have e1:ev' x= .slice (some ⟨g,off,none⟩) k c:=Ro x _ U;simp only[cI,bD]at Qm;refine⟨.tuple #[],_,iv,.inl ?_,r.B3 Ox (kY J g _),hK O J _ r (setRow_heap J g Z.toArray _ tg _ hc) (kY _ _ _) bv⟩;simp[execOp,resolve,invoke,builtin,e1,Builtin.clear_,run_underlying hu,zeroValue,typeInfo,D,hz,XR,Sl,Qm,K]
theorem OG(hτ:gM P τ){e by_ k off c tg:Nat}{x:Operand}{sz0 e' al al':Nat}
  {ds:List Value} {vy:SV} {GE:SV->Hp->Nat->Iv->World->Prop}
  (ht:τ t=some ⟨sz0,ag,bt,ze,4,ik,e,al,fs⟩) (QT:τ e=some ⟨1,ag',by_,[z],tag',ik',e',al',fs'⟩) (U:ev l x=some (.o (.v (.slice (some ⟨g,off,none⟩) k c)))) (hy:ev l y=some vy)
  (X:∀O J,Rel H nx iv B w O J->J.heap[g]? =some (.cells Z.toArray tg (0,0))/\∀id b,dU H id=some b->(O id).nil=false->(O id).g≠g)
  (src:∀O J,Rel H nx iv B w O J->∃a m,vy.den O= .slice a ds.length m/\∀(j:Nat) u,ds[j]? =some u->∃ad,a=some ad/\J.cell? (ad.add j)=some u)
  (WJ:ds.length<=k) (Qo:off+ds.length<=Z.length) (I:∀u∈ds,u.oneCell'=true)
  (hK:∀O J Y,Rel H nx iv B w O J->Y.heap[g]? =some (.cells (Z.take off++ds++Z.drop (off+ds.length)).toArray tg (0,0))->J.grownBy Y (some g)->Y.heap.size=J.heap.size->GE (.o (.v (goInt ds.length))) H nx iv Y):
  B1 P B ⟨dst,.call ⟨.builtin .copy,⟨[x,y]⟩,⟨[t,t]⟩⟩,ty,pos,after,guard⟩ l H nx iv w GE:=by
 refine⟨fun O J ev' r Ro=>?_⟩;have hu:=(hτ t _ ht).i4 rfl;simp only at hu;have Sp:=hτ e _ QT;obtain⟨inf,zv,D,PR,PZ,hz,S5⟩:=Sp.info;simp only at PR;obtain⟨hc,Ox⟩:=X O J r;obtain⟨ay,m,hya,QG⟩:=src O J r;have e1:ev' x= .slice (some ⟨g,off,none⟩) k c:=Ro x _ U;have e2:ev' y= .slice ay ds.length m:=by rw[<-hya];exact Ro y _ hy
 refine⟨goInt ds.length,J.setRow g (Z.take off++ds++Z.drop (off+ds.length)).toArray,iv,.inl ?_,r.B3 Ox (kY J g _),hK O J _ r (setRow_heap J g Z.toArray _ tg _ hc) (kY _ _ _) bv⟩;have hmin:Nat.min ds.length k=ds.length:=Nat.min_eq_left WJ;have PD:(Builtin.copy_ #[t,t] ty #[.slice (some ⟨g,off,none⟩) k c,.slice ay ds.length m]).run P J= .ok (goInt ds.length) (J.setRow g (Z.take off++ds++Z.drop (off+ds.length)).toArray):=by
  cases ay with
  |some ad=>
   have:=run_copy_row (P:=P) J t t ty e g off k c ad ds.length m Z.toArray tg ds hu (by simp[D,PR]) hc (by rw[hmin]) (fun j v hv=>by
    obtain⟨ad',G,h3⟩:=QG j v hv;injection G with G
    rw[G];exact h3) (by simpa using Qo) I
   simpa using this
  |none=>
   have hd:ds=[]:=by
    cases ds with
    |nil=>rfl
    |cons u r=>obtain⟨ad',G,_⟩:=QG 0 u rfl;cases G
   subst hd;have SL:=setRow_self J g Z.toArray tg (0,0) hc;simp[Builtin.copy_,run_underlying hu,Builtin.lenOf,Builtin.firstCells,sizeOf,typeInfo,D,storeCells,SL]
 simp[execOp,resolve,invoke,builtin,e1,e2,PD]
end
section
variable{P:Program}{τ:og}{B nx:Nat}{l:Env}{H:Hp}{iv:Iv}{w J:World}{O:Nat->eG}
end
section
variable{P:Program}{τ:og}{B nx:Nat}{l:Env}{H:Hp}{iv:Iv}{w J:World}{O:Nat->eG}
end
theorem rT:∀(nv:List Value) (w:World) (b off:Nat) (cur:Array Value) (e:TypeId),w.heap[b]? =some (.cells cur e (0,0))->off+nv.length<=cur.size->
  (w.setCells b off nv).heap[b]? =some (.cells (cur.toList.take off++nv++cur.toList.drop (off+nv.length)).toArray e (0,0))
 |[],w,b,off,cur,e,h,_=>by simpa [World.setCells]using h
 |v::r,w,b,off,cur,e,h,hl=>by
  simp only[World.setCells]
  have Qe:off+(r.length+1)<=cur.size:=by simpa using hl
  have I:(w.setCell ⟨b,off,none⟩ v).heap[b]? =some (.cells (cur.setIfInBounds off v) e (0,0)):=by
   simp[World.setCell,Array.getElem?_modify,h]
  rw[rT r _ b (off+1) _ e I (by simp;omega)];congr 3;have QW:cur.toList.length=cur.size:=by simp
  apply bT;intro i;have e1:(cur.setIfInBounds off v).toList=cur.toList.set off v:=by simp
  rw[e1];rcases cH i off with D|D|D
  .rw[cC,cC,aI (by simp;omega),aI (by simp;omega),bo be,bo D,aY be]
  .subst D;rw[cC,cC,aI (by simp;omega),aN (by simp;omega),bo be,aT (by simp;omega)];have:(List.take i cur.toList).length=i:=by rw[ah];omega
   rw[this,bO];rfl
  .have l1:(List.take (off+1) (cur.toList.set off v)).length=off+1:=by rw[ah,bj];omega
   have l2:(List.take off cur.toList).length=off:=by rw[ah];omega
   have hd:List.drop (off+1+r.length) (cur.toList.set off v)=List.drop (off+(v::r).length) cur.toList:=by
    rw[List.drop_set_of_lt be,bg];congr 1;omega
   obtain⟨k,rfl⟩:∃k,i=off+1+k:=⟨i-off-1,be⟩
   rw[cC,cC,hd];generalize List.drop (off+(v::r).length) cur.toList=tl;have FS:(List.take (off+1) (cur.toList.set off v)++(r++tl))[off+1+k]? =(r++tl)[k]? :=by
    rw[aN be,l1];congr 1;omega
   have B:(List.take off cur.toList++((v::r)++tl))[off+1+k]? =(r++tl)[k]? :=by
    rw[aN be,l2,show off+1+k-off=k+1 by omega];rfl
   rw[FS,B]
theorem rU:∀(nv:List Value) (w:World) (b off:Nat) {k:Nat},k≠b->(w.setCells b off nv).heap[k]? =w.heap[k]?
 |[],_,_,_,_,_=>rfl
 |v::r,w,b,off,k,K=>by
  simp only[World.setCells]
  rw[rU r _ b (off+1) K];simp[World.setCell,Array.getElem?_modify,Ne.symm K]
theorem wJ:∀(vs:List Value) (w0:World) (b o:Nat),(w0.setCells b o vs).os=w0.os/\(w0.setCells b o vs).tape=w0.tape/\(w0.setCells b o vs).output=w0.output/\(w0.setCells b o vs).heap.size=w0.heap.size
 |[],_,_,_=>⟨rfl,rfl,rfl,rfl⟩
 |v::r,w0,b,o=>by
  simp only[World.setCells]
  obtain⟨I,G,h3,h4⟩:=wJ r (w0.setCell ⟨b,o,none⟩ v) b (o+1);exact⟨I,G,h3,by rw[h4];simp⟩
theorem lZ{w:World}{Bc e n:Nat}{v:Value}{nv:List Value}{a:Option Addr}{c j:Nat}(h:w.ownsRow Bc e sz v n xs)(hv:v= .slice a n c)(hj:j<n)(VK:nv.length=sz)(hs:0<sz):
  ∃g,a=some ⟨g,0,none⟩/\(∀k,k<sz->(w.cell? (Addr.add ⟨g,j*sz,none⟩ k)).isSome=true/\w.frozen? (Addr.add ⟨g,j*sz,none⟩ k)=false)/\
   (setCells w ⟨g,j*sz,none⟩ nv).ownsRow Bc e sz v n (xs.take (j*sz)++nv++xs.drop (j*sz+sz))/\w.grownBy (setCells w ⟨g,j*sz,none⟩ nv) (some g)/\(setCells w ⟨g,j*sz,none⟩ nv).heap.size=w.heap.size:=by
 rcases h.2 with⟨_,h0⟩|⟨g,cap,cur,SN,hb,X,VL,SB,PT,WK⟩
 .omega
 rw[hv]at SN;injection SN with I G h3;subst I h3;have hjs:j*sz+sz<=n*sz:=by
  have:=Nat.mul_le_mul_right sz (show j+1<=n from hj);rw[Nat.add_mul,Nat.one_mul]at this;exact this
 have hns:n*sz<=c*sz:=Nat.mul_le_mul_right sz VL;obtain⟨f1,f2,f3,f4⟩:=wJ nv w g (j*sz);have Tv:=rT nv w g (j*sz) cur e X be;refine⟨g,rfl,fun k K=>?_,?_,?_,?_⟩
 .rw[dX];refine⟨?_,?_⟩
  .rw[cell_of (g:=g) (Z:=cur.toList) (by simpa using X),aD (by simp;omega)];rfl
  .simp[World.frozen?,X]
 .rw[l0];refine⟨?_,.inr ⟨g,c,_,hv,hb,Tv,VL,SB,?_,?_⟩⟩
  .simp only[aQ,ah,List.length_drop,VK,h.1];omega
  .simp only[List.size_toArray,aQ,ah,List.length_drop,VK,Array.length_toList];omega
  .subst WK;have QW:cur.toList.length=cur.size:=by simp
   have ha:List.drop (j*sz+sz) (List.take (n*sz) cur.toList)=(List.drop (j*sz+sz) cur.toList).take (n*sz-(j*sz+sz)):=by rw[List.drop_take]
   rw[ha,List.take_take,Nat.min_eq_left be];show List.take (n*sz) (_++nv++_)=_;rw[VK,List.take_append,bH (by simp;omega)];congr 2;simp only[aQ,ah,VK]
   omega
 .rw[l0];exact⟨f1,f2,f3,by rw[f4];exact aP _,fun k K Ox=>rU nv w g _ (fun e=>Ox (by rw[e]))⟩
 .rw[l0];exact f4
structure OJ(P:Program)(kt:TypeId)(KS:Value->Prop):Prop where
 desc:∃fs,P.underlying kt=some (.struct fs)
 check:∀(w:World) (em:Bool) (v:Value),KS v->(Instr.checkKey em 10000 kt v).run P w= .ok () w
 eq:∀(w:World) (a b:Value),KS a->KS b->∃c,(Op.equal kt a b).run P w= .ok c w/\(c=true↔a=b)
def H9(w:World)(g:Nat)(ks:List Value):Prop:=∃es clock,w.heap[g]? =some (.map es clock)/\es.toList.map (·.key)=ks/\∀e∈es.toList,e.val= .bool true
section
variable{P:Program}{τ:og}{B n nx:Nat}{l:Env}{H:Hp}{iv:Iv}{w J Y:World}{O:Nat->eG}{a:Act}
theorem H9.cR(h:H9 w g ks)(K:Y.heap[g]? =w.heap[g]?):H9 Y g ks:=by
 obtain⟨es,c,I,G⟩:=h;exact⟨es,c,by rw[K];exact I,G⟩
theorem ua(hb:w.heap[r]? =some (.map es clock)):(getObj r).run P w= .ok (.map es clock) w:=by simp[getObj,Sem.run,hb]
theorem Je(o:Obj)(hb:w.heap[r]? =some (.map es clock)):(setObj r o).run P w= .ok () {w with heap:=w.heap.setIfInBounds r o}:=by simp[setObj,Sem.run,hb]
theorem qm{kt:TypeId}{KS:Value->Prop}(GE:OJ P kt KS){x:Value}(U:KS x)(w:World):∀(es:List MapEntry) (i:Nat),(∀e∈es,KS e.key)->
  ((Instr.findAsking kt x es i).run P w= .ok none w/\∀e∈es,e.key≠x)\/∃j e,(Instr.findAsking kt x es i).run P w= .ok (some (j,e.val)) w/\e∈es/\e.key=x
 |[],i,_=>.inl ⟨rfl,fun e L=>by cases L⟩
 |e::es,i,h=>by
  obtain⟨c,hc,Uk⟩:=GE.eq w x e.key U (h e aH)
  cases c with
  |true=>exact .inr ⟨i,e,by simp[Instr.findAsking,hc],aH,(Uk.1 rfl).symm⟩
  |false=>
   have Ox:e.key≠x:=fun L=>by have:=Uk.2 L.symm;cases this
   rcases qm GE U w es (i+1) (fun e L=>h e (aB _ L))with⟨I,G⟩|⟨j,e',I,G,h3⟩
   .refine .inl ⟨by simp[Instr.findAsking,hc,I],fun e' L=>?_⟩;rcases List.mem_cons.1 L with rfl|L
    .exact Ox
    .exact G e' L
   .exact .inr ⟨j,e',by simp[Instr.findAsking,hc,I],aB _ G,h3⟩
theorem wK{kt:TypeId}(GE:OJ P kt KS){x:Value}(U:KS x)(w:World)(es:List MapEntry)(h:∀e∈es,KS e.key):
  ((Instr.findKey kt x es).run P w= .ok none w/\∀e∈es,e.key≠x)\/∃j e,(Instr.findKey kt x es).run P w= .ok (some (j,e.val)) w/\e∈es/\e.key=x:=by
 obtain⟨fs,PS⟩:=GE.desc
 cases es with
 |nil=>exact .inl ⟨by simp[Instr.findKey,run_underlying PS,Instr.findNow],fun e L=>by cases L⟩
 |cons e es=>
  have hs:Instr.findNow (.struct fs) x (e::es) 0=none:=by
   unfold Instr.findNow
   cases x<;>cases e.key<;>rfl
  have:=qm GE U w (e::es) 0 h;rcases this with⟨I,G⟩|⟨j,e',I,G,h3⟩
  .exact .inl ⟨by simp[Instr.findKey,run_underlying PS,hs,I],G⟩
  .exact .inr ⟨j,e',by simp[Instr.findKey,run_underlying PS,hs,I],G,h3⟩
theorem zU{GE:SV->Hp->Nat->Iv->World->Prop}
  (hK:∀O J Y,Rel H nx iv B w O J->H9 Y J.heap.size []->J.grownBy Y none->Y.heap.size=J.heap.size+1->GE (.o (.v (.map (some J.heap.size)))) H nx ((J.heap.size,J.heap.size+1)::iv) Y):
  B1 P B ⟨dst,.makeMap t none,ty,pos,after,guard⟩ l H nx iv w GE:=by
 refine⟨fun O J ev' r Ro=>?_⟩;have hp:(J.alloc (.map #[] 0)).heap=J.heap.push (.map #[] 0):=rfl;have X:J.grownBy (J.alloc (.map #[] 0)) none:=⟨rfl,rfl,rfl,by rw[hp,Array.size_push];omega,fun k K _=>by rw[hp,Array.getElem?_push,aJ (Nat.ne_of_lt K)]⟩
 have PR:(J.alloc (.map #[] 0)).heap.size=J.heap.size+1:=by rw[hp,Array.size_push]
 refine⟨.map (some J.heap.size),J.alloc (.map #[] 0),(J.heap.size,J.heap.size+1)::iv,.inl ?_,r.H6 be (fun id b hb W=>X.block _ (r.low id b hb W).2 bv) ?_,
  hK O J _ r ⟨#[],0,by rw[hp];simp,rfl,bv⟩ X PR⟩
 .simp[execOp,Instr.makeMap]
 .intro lo D hm;rcases List.mem_cons.1 hm with e|hm
  .injection e with e1 e2;subst e1 e2;exact⟨be,fun id b hb W h=>by have:=(r.low id b hb W).2;omega⟩
  .exact⟨by have:=r.tI lo D hm;have:=r.size;omega,fun id b hb W=>r.mA lo D hm id b hb W⟩
theorem B5{kt et:Nat}{m x:Operand}{GE:SV->Hp->Nat->Iv->World->Prop}(Q:OJ P kt KS){vx:SV}
  (ht:P.underlying t=some (.map kt et)) (hz:∀w,(zeroValue et).run P w= .ok (.bool false) w) (hm:ev l m=some (.o (.v (.map (some g))))) (U:ev l x=some vx) (VX:∀O,vx.den O=key) (XS:KS key) (RA:∀k∈ks,KS k)
  (X:∀O J,Rel H nx iv B w O J->H9 J g ks)
  (hK:∀O J b,Rel H nx iv B w O J->(b=true↔key∈ks)->GE (.o (.v (.bool b))) H nx iv J):
  B1 P B ⟨dst,.lookup t m x false,ty,pos,after,guard⟩ l H nx iv w GE:=by
 refine⟨fun O J ev' r Ro=>?_⟩;obtain⟨es,clock,I,G,h3⟩:=X O J r;have e1:ev' m= .map (some g):=Ro m _ hm;have e2:ev' x=key:=by rw[Ro x _ U,VX]
 have hes:∀e∈es.toList,KS e.key:=fun e L=>RA _ (by rw[<-G];exact aV.2 ⟨e,L,rfl⟩);have Th:=Q.check J es.isEmpty key XS;rcases wK Q XS J es.toList hes with⟨f1,f2⟩|⟨j,e,f1,f2,f3⟩
 .refine⟨.bool false,J,iv,.inl ?_,r.here,hK O J false r ⟨(fun h=>by cases h),fun h=>?_⟩⟩
  .simp[execOp,Instr.lookup,e1,e2,run_underlying ht,ua I,Th,f1,hz]
  .rw[<-G]at h;obtain⟨e,L,K⟩:=aV.1 h;exact absurd K (f2 e L)
 .refine⟨.bool true,J,iv,.inl ?_,r.here,hK O J true r ⟨fun _=>by rw[<-G];exact aV.2 ⟨e,f2,f3⟩,fun _=>rfl⟩⟩;have:=h3 e f2;simp[execOp,Instr.lookup,e1,e2,run_underlying ht,ua I,Th,f1,this]
theorem tw{kt et:Nat}{m x:Operand}{GE:SV->Hp->Nat->Iv->World->Prop}(Q:OJ P kt KS){vx:SV}
  (ht:P.underlying t=some (.map kt et)) (hm:ev l m=some (.o (.v (.map (some g))))) (U:ev l x=some vx) (VX:∀O,vx.den O=key) (hy:ev l y=some (.o (.v (.bool true)))) (XS:KS key) (RA:∀k∈ks,KS k) (RB:key∉ks)
  (X:∀O J,Rel H nx iv B w O J->H9 J g ks/\∀id b,dU H id=some b->(O id).nil=false->(O id).g≠g)
  (hK:∀O J Y,Rel H nx iv B w O J->H9 Y g (ks++[key])->J.grownBy Y (some g)->Y.heap.size=J.heap.size->GE (.o (.v undef)) H nx iv Y):
  B1 P B ⟨dst,.mapUpdate t m x y,ty,pos,after,guard⟩ l H nx iv w GE:=by
 refine⟨fun O J ev' r Ro=>?_⟩;obtain⟨⟨es,clock,I,G,h3⟩,Ox⟩:=X O J r;have e1:ev' m= .map (some g):=Ro m _ hm;have e2:ev' x=key:=by rw[Ro x _ U,VX]
 have e3:ev' y= .bool true:=Ro y _ hy;have hes:∀e∈es.toList,KS e.key:=fun e L=>RA _ (by rw[<-G];exact aV.2 ⟨e,L,rfl⟩);have Th:=Q.check J false key XS;have PY:g<J.heap.size:=(bM.1 I).1;rcases wK Q XS J es.toList hes with⟨f1,f2⟩|⟨j,e,f1,f2,f3⟩
 .let ob:Obj:=.map (es.push {key:=key,val:=.bool true,born:=clock}) (clock+1)
  have PF:J.grownBy {J with heap:=J.heap.setIfInBounds g ob} (some g):=⟨rfl,rfl,rfl,bv,fun k _ K=>by
   rw[Array.getElem?_setIfInBounds_ne]
   exact fun e=>K (by rw[e])⟩
  refine⟨undef,{J with heap:=J.heap.setIfInBounds g ob},iv,.inr ⟨?_,rfl⟩,r.B3 Ox PF,hK O J _ r ⟨es.push {key:=key,val:=.bool true,born:=clock},clock+1,by simp[PY,ob],?_,?_⟩ PF bv⟩
  .simp[execOp,Instr.mapUpdate,e1,e2,e3,run_underlying ht,ua I,Je _ I,Th,f1,ob]
  .simp[G]
  .intro e L;simp at L;rcases L with L|rfl
   .exact h3 e (by simpa using L)
   .rfl
 .exact absurd (by rw[<-G];exact aV.2 ⟨e,f2,f3⟩) RB
theorem Jf{len e:Nat}{x:Operand}{GE:SV->Hp->Nat->Iv->World->Prop}{vx:SV}{Z:Array Value}{u:Value}
  (hu:P.underlying t=some (.array len e)) (hs:∀w,(sizeOf e).run P w= .ok 1 w) (hp:∀(w:World) (j:Nat) v,Z[j]? =some v->(part e Z j).run P w= .ok v w) (U:ev l x=some vx) (WL:∀O,vx.den O= .agg Z) (D:ev l i=some (.o (.v (.int k m)))) (hm:0<=m/\m<len) (hc:Z[m.toNat]? =some u)
  (hK:∀O J,Rel H nx iv B w O J->GE (.o (.v u)) H nx iv J):B1 P B ⟨dst,.index t x i,ty,pos,after,guard⟩ l H nx iv w GE:=by
 refine⟨fun O J ev' r Ro=>⟨u,J,iv,.inl ?_,r.here,hK O J r⟩⟩;have e1:ev' x= .agg Z:=by rw[Ro x _ U,WL]
 have e2:ev' i= .int k m:=Ro i _ D;have e3:=hp J _ u hc;simp[execOp,e1,e2,Instr.index,asIntOf,run_underlying hu,hm.1,hm.2,hs,e3]
theorem MW(hτ:gM P τ){id2 off k c:Nat}{e2:TypeId}{ad x:Operand}{GE:SV->Hp->Nat->Iv->World->Prop}
  (ha:ev l ad=some (.o (.p id off))) (U:ev l x=some (.o (.s id2 0 k c))) (QF:id<nx) (XT:dU H id2=some (.arr e2 cs2)) (hs:AM H tH) (ho:H8 id2 tH=true)
  (hK:∀O J,Rel H nx iv B w O J->Fs τ B t (.o (.p id off)) (.o (.v (.slice (some ⟨(O id2).g,0,none⟩) k c))) tH nx (((O id2).g,(O id2).g+1)::iv) J (fun H' Y=>GE (.o (.v undef)) H' nx (((O id2).g,(O id2).g+1)::iv) Y)):
  OpG P B ⟨dst,.store t ad x,ty,pos,after,guard⟩ l H nx iv w GE:=by
 refine⟨fun O J ev' r Ro=>?_⟩;have e1:ev' ad=(SV.o (.p id off)).den O:=Ro ad _ ha;have e2:ev' x= .slice (some ⟨(O id2).g,0,none⟩) k c:=Ro x _ U;have r2:=r.free XT bv (r.fits XT).1 hs ho;have sat:Sat 0 [] tH nx (((O id2).g,(O id2).g+1)::iv) B J O ⟨#[],[]⟩ J:=⟨r2,rfl,rfl,(fun u v hv=>by cases hv),fun u v hv=>by cases hv⟩
 obtain⟨H',Y,w3,K,QA,PD⟩:=zV (addr:=.o (.p id off)) (x:=.o (.v (.slice (some ⟨(O id2).g,0,none⟩) k c))) hτ sat (by exact QF) (by simp[SV.sc,At.sc]) (hK O J r);refine⟨Y,w3,H',_,?_,QA,K⟩;have PD:(Instr.storeAt t ((SV.o (.p id off)).den O) (.slice (some ⟨(O id2).g,0,none⟩) k c)).run P J= .ok () w3:=PD;simp[execOp,e1,e2,PD]
def kC(v:eG)(iv:Iv):Iv:=match v.nil with
 |true=>iv
 |false=>(v.g,v.g+1)::iv
theorem kx{v:eG}{iv:Iv}:∀p,p∈iv->p∈kC v iv:=fun p hp=>by
 unfold kC
 cases v.nil with
 |true=>exact hp
 |false=>exact aB _ hp
theorem Ha{v:eG}{iv:Iv}(h:v.nil=false):(v.g,v.g+1)∈kC v iv:=by
 unfold kC;rw[h];exact aH
theorem Rel.drop{H':Hp}{b:kp}(r:Rel H nx iv B w O J)(QF:dU H id=some b)(hd:b≠ .dead)(hs:AM H H')(ho:H8 id H'=true):Rel H' nx (kC (O id) iv) B J O J:=by
 have I:Rel H' nx iv B J O J:=Rel.mk' rfl rfl rfl (aP _) (by have:=r.base;have:=r.size;omega) (fun lo D hm=>by have:=r.tI lo D hm;have:=r.size;omega) (fun j c h=>r.keys j c (hs.get h))
  (fun j c h=>r.fits (hs.get h)) (fun j c h=>r.scopd (hs.get h)) (fun j k c e h h'=>r.inj j k c e (hs.get h) (hs.get h')) (fun j c h=>r.low j c (hs.get h)) (fun _ _ _=>rfl) (fun lo D hm j c h=>r.mA lo D hm j c (hs.get h))
 unfold kC
 cases W:(O id).nil with
 |false=>exact r.free QF hd W hs ho
 |true=>exact I
theorem mi(hτ:gM P τ){id3 id2 c1 t3:Nat}{c:At}{b2:kp}{x:Operand}{vx:SV}{GE:SV->Hp->Nat->Iv->World->Prop}
  (U:ev l x=some vx) (hy:ev l y=some (.o (.s id3 0 1 c1))) (XU:dU H id3=some (.box t3 [c])) (XT:dU H id2=some b2) (Pc:b2≠ .dead) (hs:AM H tH) (ho3:H8 id3 tH=true) (VY:H8 id2 tH=true)
  (hK:∀O J,Rel H nx iv B w O J->Rel tH nx (((O id3).g,(O id3).g+1)::kC (O id2) iv) B J O J->J.heap[(O id3).g]? =some (.cells #[c.den O] t3 (0,0))->
   Ay τ B t vx (.o (.v (.slice (some ⟨(O id3).g,0,none⟩) 1 c1))) tH nx (((O id3).g,(O id3).g+1)::kC (O id2) iv) J (fun v H' PC=>GE v H' PC (((O id3).g,(O id3).g+1)::kC (O id2) iv) J)):
  OpA P B ⟨dst,.call ⟨.builtin .append,⟨[x,y]⟩,⟨[t,t]⟩⟩,ty,pos,after,guard⟩ l H nx iv w GE:=by
 refine⟨fun O J ev' r Ro=>?_⟩;have e1:ev' x=vx.den O:=Ro x _ U;have e2:ev' y= .slice (some ⟨(O id3).g,0,none⟩) 1 c1:=Ro y _ hy;have XV:=(r.fits XU).1;have r1:=r.drop XT Pc hs VY;have r2:Rel tH nx (((O id3).g,(O id3).g+1)::kC (O id2) iv) B J O J:=by
  refine r1.more (by have:=(r.low id3 _ XU XV).2;omega) fun j cc hj hnj L=>?_;obtain⟨G,h3⟩:=H8.get ho3 hj;exact G (r.inj j id3 cc _ (hs.get hj) XU h3 bv hnj XV be)
 have sat:Sat 0 [] tH nx (((O id3).g,(O id3).g+1)::kC (O id2) iv) B J O ⟨#[],[]⟩ J:=⟨r2,rfl,rfl,(fun u v hv=>by cases hv),fun u v hv=>by cases hv⟩
 obtain⟨rr,H',PC,IR,Y,K,QA,hr,Qf,Id,PD⟩:=wL (ty:=ty) hτ sat (hK O J r r2 (by have:=r.box id3 _ _ XU;simpa using this));refine⟨rr,H',PC,_,IR,J,Y,?_,QA,hr,Qf,Id,K⟩;have PD:(Builtin.append_ #[t,t] ty #[vx.den O,.slice (some ⟨(O id3).g,0,none⟩) 1 c1]).run P J= .ok (rr.den IR) Y:=PD;simp[execOp,resolve,invoke,builtin,e1,e2,PD]
end
end Go.Sx
