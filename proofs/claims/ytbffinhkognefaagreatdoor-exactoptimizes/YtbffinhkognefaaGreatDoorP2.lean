/- Texts Sx12 to Sx23: lemmas, each with its conditions. -/
import Derived.Laws.BytesString
import Derived.Test.YtbffinhkognefaaGreatDoorP1
namespace Go.Sx
open Go
variable{args:(Nat->eH)->Array Value}{Fd Q0 next:Act->World->Prop}{F9 R':Ending->World->Prop}{k:Env->Prop}{l:List (Nat×TI)}{B g:Nat}{O:Nat->eH}{d:Option Tmp}{P:Program}
section
variable{P:Program}{τ:mo}{ops:Array Oper}{B n nx:Nat}{l:Env}{H:Hp}{iv:Iv}{w J:World}{O:Nat->eH}{a:Act}
variable{Pd:List Nat}{E9:List (Nat×Nat)}{lx la:Array Bool}{Q:Exit->Act->World->Prop}{md:Region.Mode}
theorem yE(hr:Region.ready md ops la=[])(h:Q .normal a w):∀fuel,uW P md ops Q fuel la a w
 |0=>⟨hr,h⟩
 |_+1=>⟨fun _=>h,by rw[hr];simp⟩
theorem zq(sat:Sat n l H nx iv B w O a J){Fd:SV->Hp->Iv->World->Prop}{o:Oper}
  (h:FX P B g args H nx iv w Fd) (WT:(execOp a.eval o).run P J=(callFunc g (args O)).run P J)
  (U:∀v F,Fd (.o (.v v)) H ((J.heap.size,F.heap.size)::iv) F->Ext J F->Sat n l H nx ((J.heap.size,F.heap.size)::iv) B F O a F->next (a.put o.dst v) F):o.wp P a J next Q:=by
 have hc:=h.h O J sat.rel;unfold Oper.wp;rw[WT,hc.e.h];refine Calls.mono hc.c fun e F L=>?_;obtain⟨v,rfl,Uv,hK⟩:=L;refine U v F hK Uv ?_;have r:=(sat.rel.ext Uv).here;refine sat.next (F':=O) ?_ (aq _) (fun _ _=>rfl)
 refine Rel.mk' r.os r.tape r.output r.size r.base ?_ r.keys (fun id b A=>r.fits A) (fun id b A=>r.scopd A) r.inj r.low r.Dz ?_
 .intro lo N hm;rcases List.mem_cons.1 hm with hm|hm
  .injection hm with Y I;omega
  .exact r.oc lo N hm
 .intro lo N hm id b A QF;rcases List.mem_cons.1 hm with hm|hm
  .injection hm with Y I;have:=(sat.rel.low id b A QF).2;omega
  .exact r.jU lo N hm id b A QF
theorem uX{o:Oper}{Fd:SV->Hp->Nat->Iv->World->Prop}(h:zl true P τ B o l H nx iv w Fd)(sat:Sat n l H nx iv B w O a J)(hr:mM o.op=false)(ha:Cw o.op=false)(hh:rI o=false)
  (U:∀v F,Fd (.o (.v v)) H nx ((J.heap.size,F.heap.size)::iv) F->Ext J F->Sat n l H nx ((J.heap.size,F.heap.size)::iv) B F O a F->next (a.put o.dst v) F):o.wp P a J next Q:=by
 obtain⟨dst,op,ty,pos,after,guard⟩:=o;simp only at hr ha;have:∃f args x,op= .call ⟨.value f,args,x⟩:=by
  simp only[rI,hr,ha,Bool.or_self,Bool.false_or,Bool.not_eq_false']at hh;split at hh
  .exact⟨_,_,_,rfl⟩
  .cases hh
 obtain⟨f,⟨args⟩,x,rfl⟩:=this;simp only[zl]at h;obtain⟨vf,Y,hf,Yt⟩:=dy sat h;obtain⟨vs,I,R1,hss⟩:=tO sat Y;have Ue:(args.toArray).map a.eval=qB O vs:=by
  apply Array.ext';simp[qB,R1]
 split at I
 .rename_i g first caps
  refine zq sat I ?_ (fun v F hK L hs=>U v F hK L hs);simp[execOp,resolve,hf,SV.den,At.den,Deferred.ofValue,invoke,Ue]
 .rename_i g ids;refine zq sat I ?_ (fun v F hK L hs=>U v F hK L hs);simp[execOp,resolve,hf,SV.den,At.den,Deferred.ofValue,invoke,Ue]
 .exact I.elim
def QN(Q0:Act->World->Prop):Exit->Act->World->Prop:=fun e a w=>e= .normal/\Q0 a w
theorem zt(sat:Sat n l H nx iv B w O a J){o:Oper}{yes no:Env->Prop}(h:tP ops.toList o.guard l yes no)(V:o.guard=none\/Pd=[]):
  (Region.wanted o (yielded ops a.tmps)=true/\∃l',yes l'/\Sat n l' H nx iv B w O a J/\(Pd≠[]->l'=l))\/
  (Region.wanted o (yielded ops a.tmps)=false/\Pd=[]/\∃l',no l'/\Sat n l' H nx iv B w O a J):=by
 by_cases VV:o.guard=none
 .rw[VV]at h;exact .inl ⟨by simp[Region.wanted,VV],l,h,sat,fun _=>rfl⟩
 .have S9:=V.resolve_left VV;rcases iy sat h with⟨Y,l',I,h3⟩|⟨Y,l',I,h3⟩
  .exact .inl ⟨Y,l',I,h3,fun Po=>absurd S9 Po⟩
  .exact .inr ⟨Y,S9,l',I,h3⟩
theorem nG(sat:Sat n l H nx iv B w O a J){v:SV}(h:FW d v l k)(hd:∀t,d=some t->t<n)(hv:v.sc nx):
  ∃l',k l'/\Sat n l' H nx iv B w O (a.put d (v.den O)) J/\∀t,fZ l t=none->d≠some t->fZ l' t=none:=by
 unfold FW at h;split at h
 .rename_i t;exact⟨_,h,sat.put (hd t rfl) hv,fun u hu Po=>by rw[fE,aI (fun e=>Po (by rw[e]))];exact hu⟩
 .exact⟨l,h,sat,fun t ht _=>ht⟩
theorem lh{Q:Exit->Act->World->Prop}{i:Nat}{o:Oper}(N:ops[i]? =some o)
  (h:(Region.wanted o (yielded ops a.tmps)=true/\o.wp P a J Fd Q)\/(Region.wanted o (yielded ops a.tmps)=false/\Fd (a.put o.dst undef) J)):wpOp P ops Q i Fd a J:=by
 unfold wpOp;simp only[N]
 rcases h with⟨Y,I⟩|⟨Y,I⟩
 .rw[aM Y];exact .inl I
 .rw[aI (by simp[Y])];exact I
theorem L0(hτ:fG P τ)(Py:∀(j:Nat) o,ops[j]? =some o->∀d,o.dst=some d->d<n)(QB:∀(j:Nat) (o:Oper) cs b,ops[j]? =some o->o.op≠ .select cs b)
  {Fd:KT} (hQ:∀l' H' Pr K F F' a' w3,Fd l' H' Pr K F->Sat n l' H' Pr K B F F' a' w3->Q0 a' w3):
  ∀(m fuel:Nat) (π:List It) (lx la:Array Bool) (Pd:List Nat) (E9:List (Nat×Nat)) (l:Env) (H:Hp) (nx:Nat) (iv:Iv) (w:World) (O:Nat->eH) (a:Act) (J:World),
   fuel+π.length=m->LY la<=fuel->rX ops π lx Pd=true->Jm P τ B ops.toList π l H nx iv w Fd->Nc P ops n B Pd E9 lx la l H nx iv w O a J->uW P .any ops (QN Q0) fuel la a J:=by
 intro m
 induction m using Nat.strongRecOn with
 |_ m ih=>
 intro fuel π lx la Pd E9 l H nx iv w O a J hm Zg hc h s
 match π with
 |[]=>
  simp only[rX,bF,List.isEmpty_iff]at hc;obtain⟨hr,rfl⟩:=hc;refine yE ?_ ⟨rfl,hQ _ _ _ _ _ _ _ _ h s.sat⟩ fuel;refine List.eq_nil_iff_forall_not_mem.2 fun j hj=>?_;obtain⟨Y,o,I,h3⟩:=eE.1 hj;have:j∈Region.ready .any ops lx:=by
   refine eE.2 ⟨?_,o,I,fun e L A=>?_⟩
   .have QZ:j<lx.size:=by rw[s.Nd,<-s.Ni];exact(bD.1 Y).1
    rw[Array.getElem?_eq_getElem QZ]
    cases A:lx[j]with
    |false=>rfl
    |true=>
     have:=(s.la j).2 (.inl (by rw[Array.getElem?_eq_getElem QZ,A]));rw[Y]at this;cases this
   .rcases(s.la e.on).1 (h3 e L A)with h4|⟨g,h4⟩
    .exact h4
    .exact absurd (s.Jo _ _ h4) ce
  rw[hr]at this
  cases this
 | .p i::r=>
  obtain⟨o,ho,Y⟩:=ew h;rw[ah]at ho;simp only[rX,ho,bF]at hc;obtain⟨⟨⟨⟨⟨⟨c1,c2⟩,c3⟩,c4⟩,c5⟩,c6⟩,c7⟩:=hc
  cases hd:o.dst with
  |none=>rw[hd]at c3;cases c3
  |some d=>
  rw[hd]at c3;obtain⟨b,v,mk,obj,hK,-,-,-,-,-,Tl⟩:=lF hτ Y s.sat c1;rw[hd]at hK;obtain⟨l',hl,Ts,Qu⟩:=uV hK;have Sf:∀j∈Pd,j≠i:=fun j hj=>by
   have:=cD.1 c5 j hj;simpa only[Bool.not_eq_true',pF]using this
  have c6':∀j∈Pd,∀oj,ops[j]? =some oj->o.apart ops oj=true/\oj.apart ops o=true:=fun j hj oj Ry=>by
   have:=cD.1 c6 j hj;simpa only[Jn,Ry,bF]using this
  have hlxi:lx[i]? =some false:=by
   have:lx.getD i true=false:=by simpa using c4
   rw[bG]at this
   cases E:lx[i]? with
   |none=>rw[E]at this;cases this
   |some b=>rw[E]at this;simp at this;rw[this]
  refine ih (fuel+r.length) (by simp only[bm]at hm;omega) fuel r lx la (i::Pd) E9 l' H nx iv w O a J rfl Zg c7 hl ?_;refine⟨⟨s.sat.rel,s.sat.size,s.sat.defers,fun t v hv=>s.sat.env t v (Qu t v hv).2,fun t v hv=>s.sat.sc t v (Qu t v hv).2⟩,s.Nd,s.Ni,s.la,fun j g V=>aD _ (s.Jo j g V),fun j hj=>?_,s.eg,s.inj,fun j hj j' Ys Po oj oj' h3 h4=>?_⟩
  .rcases List.mem_cons.1 hj with rfl|hj
   .refine⟨hlxi,o,d,mk,obj,ho,c1,by simpa using c2,⟨hd,by simpa using c3⟩,Tl,Ts,fun g V=>absurd (s.Jo _ _ V) (fun TG=>Sf _ TG rfl)⟩
   .obtain⟨h0,oj,dj,mkj,objj,g1,g2,g3,g4,g5,g6,g7⟩:=s.pd j hj;exact⟨h0,oj,dj,mkj,objj,g1,g2,g3,g4,g5,LZ Qu g6,g7⟩
  .rcases List.mem_cons.1 hj with e1|k1<;>rcases List.mem_cons.1 Ys with e2|k2
   .exact absurd (e1.trans e2.symm) Po
   .rw[e1,ho]at h3;injection h3 with h3;subst h3;exact(c6' j' k2 oj' h4).1
   .rw[e2,ho]at h4;injection h4 with h4;subst h4;exact(c6' j k1 oj h3).2
   .exact s.ap j k1 j' k2 Po oj oj' h3 h4
 | .x i::r=>
  obtain⟨o,ho,Y⟩:=ew h;unfold fA at Y;rw[ah]at ho;simp only[rX,ho,bF]at hc;obtain⟨⟨⟨⟨c1,c2⟩,c3⟩,c4⟩,c5⟩:=hc;have c2:i∈Region.ready .any ops lx:=by simpa using c2
  have c1:o.guard=none\/Pd=[]:=by simpa using c1
  have Sr:∀j∈Pd,j≠i->∀oj,ops[j]? =some oj->o.apart ops oj=true:=fun j hj Q1 oj Ry=>by
   have:=cD.1 c3 j hj;simpa only[Jn,Ry,Bool.or_eq_true,pF.2 Q1,Bool.false_eq_true,false_or]using this
  obtain⟨RL,o',Uf,hwait⟩:=eE.1 c2;rw[ho]at Uf;injection Uf with Uf;subst Uf;simp only[bm]at hm;have Wl:=Py i o ho;by_cases hE:∃g,(i,g)∈E9
  ·
   obtain⟨g,V⟩:=hE;obtain⟨h0,o',d,mk',obj',g1,g2,g3,g4,g5,g6,g7⟩:=s.pd i (s.Jo i g V);rw[ho]at g1;injection g1 with g1;subst g1;rw[g3,H5 g2]at Y;have Y:zl true P τ B o l H nx iv w fun v H' Pr K J=>FW o.dst v l fun l'=>Jm P τ B ops.toList r l' H' Pr K J Fd:=Y;obtain⟨b,v,mk,obj,hK,TH,A,hv,Wk,RH,Tl⟩:=lF hτ Y s.sat g2;obtain⟨l',hl,s'⟩:=s.aA8 ho V A hv Wk RH Tl hK Wl Sr;exact ih (fuel+r.length) be fuel r _ _ _ _ _ _ _ _ _ _ _ _ rfl Zg c5 hl s'
  .have Yr:∀g,(i,g)∉E9:=fun g V=>hE ⟨g,V⟩;have VW:la[i]? =some false:=by
    have QZ:i<la.size:=by rw[s.Ni,<-s.Nd];exact(bD.1 RL).1
    rw[Array.getElem?_eq_getElem QZ]
    cases A:la[i]with
    |false=>rfl
    |true=>
     rcases(s.la i).1 (by rw[Array.getElem?_eq_getElem QZ,A])with I|I
     .rw[RL]at I;cases I
     .exact absurd I hE
   have Ux:i∈Region.ready .any ops la:=eE.2 ⟨VW,o,ho,fun e L A=>(s.la e.on).2 (.inl (hwait e L A))⟩;have WS:=gH VW;obtain⟨f,rfl⟩:∃f,fuel=f+1:=⟨fuel-1,be⟩
   cases hR:mM o.op with
   |true=>
    rw[hR]at c4;obtain⟨kz,Sg,Q2,WU,Rd⟩:=zo c4 s.Nd;have Pw:∀j,kz j->la.getD j false=false:=fun j hj=>by
     cases hl:la.getD j false with
     |false=>rfl
     |true=>
      have hl:la[j]? =some true:=by
       rw[bG]at hl
       cases E:la[j]? with
       |none=>rw[E]at hl;cases hl
       |some b=>rw[E]at hl;simp at hl;rw[hl]
      rcases(s.la j).1 hl with h4|⟨g,h4⟩
      .have:=Q2 j hj;rw[bG,h4]at this;cases this
      .exact absurd hj (WU j (s.Jo j g h4))
    have SC:∀j oj,ops[j]? =some oj->j≠i->la.getD j true=false->¬kz j->o.apart ops oj=true/\(HU o.op=true\/rI oj=false):=by
     intro j oj Ry Q1 TM Ta;have Wm:lx.getD j true=false:=by
      rw[bG]at TM ⊢
      cases E:lx[j]? with
      |none=>
       have:la[j]? =none:=by
        rw[Array.getElem?_eq_none_iff]at E ⊢;rw[s.Ni,<-s.Nd];exact E
       rw[this]at TM;cases TM
      |some b=>
       cases b with
       |false=>rfl
       |true=>rw[(s.la j).2 (.inl E)]at TM;cases TM
     exact Rd j oj Ry Q1 Wm Ta
    rcases zt s.sat Y c1 with⟨G,l1,I,sat1,Ts⟩|⟨G,S9,l1,I,sat1⟩
    .obtain⟨v,hK,R1,Px⟩:=(im hτ I sat1 hR).resolve_right (fun hh=>by have:=hh.1;rw[nP hR]at this;cases this);obtain⟨l2,h3,sat2,Qu⟩:=nG sat1 hK Wl R1;refine mq (pu:=HU o.op) (v:=v.den O) ho QB (fun c a w hq=>?_) kz Sg f la a J Pw SC Ux (.inl ⟨G,fun w3 L=>Px w3 (L.imp id fun L=>sat1.rel.ext L)⟩) ?_
     .exact absurd hq.1 ce
     .refine ih (f+r.length) be f r _ _ _ _ _ _ _ _ _ _ _ _ rfl be c5 h3 (s.step QB ho Yr Sr sat2 ?_ (fun _ _ _=>Ext.refl _) (fun g _ Tt RF _=>⟨Tt,RF⟩));intro j hj Q1 d hd Po;have Ts:=Ts (by intro e;rw[e]at hj;cases hj);subst Ts;exact Qu d hd Po
    .obtain⟨l2,h3,sat2,Qu⟩:=nG (v:=.o (.v undef)) sat1 I Wl trivial;refine mq (pu:=HU o.op) (v:=undef) ho QB (fun c a w hq=>?_) kz Sg f la a J Pw SC Ux (.inr ⟨G,rfl⟩) ?_
     .exact absurd hq.1 ce
     .refine ih (f+r.length) be f r _ _ _ _ _ _ _ _ _ _ _ _ rfl be c5 h3 (s.step QB ho Yr Sr sat2 ?_ (fun _ _ _=>Ext.refl _) (fun g _ Tt RF _=>⟨Tt,RF⟩));intro j hj;rw[S9]at hj;cases hj
   |false=>
    rw[hR]at c4;simp only[bF]at c4;obtain⟨c4,c6⟩:=c4;have hpick:∀j∈Region.ready .any ops la,j=i\/(j≠i/\j∈Pd):=by
     intro j hj;by_cases Q1:j=i
     .exact .inl Q1
     .refine .inr ⟨Q1,?_⟩;apply Decidable.byContradiction;intro hjP;obtain⟨k1,oj,k2,k3⟩:=eE.1 hj;have:j∈Region.ready .any ops (FO lx (Pd.filter fun j=> !Nat.beq j i)):=by
       refine eE.2 ⟨?_,oj,k2,fun e L A=>?_⟩
       .have QZ:j<(FO lx (Pd.filter fun j=> !Nat.beq j i)).size:=by rw[FV,s.Nd,<-s.Ni];exact(bD.1 k1).1
        rw[Array.getElem?_eq_getElem QZ]
        cases A:(FO lx (Pd.filter fun j=> !Nat.beq j i))[j]with
        |false=>rfl
        |true=>
         rcases(zp _ lx j).1 (by rw[Array.getElem?_eq_getElem QZ,A])with h4|⟨h4,_⟩
         .have:=(s.la j).2 (.inl h4);rw[k1]at this;cases this
         .exact absurd (List.mem_filter.1 h4).1 hjP
       .rw[zp];rcases(s.la e.on).1 (k3 e L A)with h4|⟨g,h4⟩
        .exact .inl h4
        .refine .inr ⟨List.mem_filter.2 ⟨s.Jo _ _ h4,?_⟩,?_⟩
         .simp only[Bool.not_eq_true',pF]
          intro e2;rw[e2]at h4;exact Yr g h4
         .have:=(s.pd _ (s.Jo _ _ h4)).1;exact(bD.1 this).1
      have:=cD.1 c6 j this;exact Q1 (ee this)
    refine⟨fun L=>(by rw[L]at Ux;cases Ux),fun j hj=>?_⟩;have TM:=(eE.1 hj).1;have hunj:=gH TM;rcases hpick j hj with rfl|⟨Q1,hjP⟩
    ·
     refine lh ho ?_;rcases zt s.sat Y c1 with⟨G,l1,I,sat1,Ts⟩|⟨G,S9,l1,I,sat1⟩
     .refine .inl ⟨G,?_⟩;have hl1':∀k∈Pd,k≠j->∀(l2:Env),(∀t,fZ l1 t=none->o.dst≠some t->fZ l2 t=none)->∀d,fZ l d=none->o.dst≠some d->fZ l2 d=none:=by
       intro k R _ l2 Qu d hd Po;have Ts:=Ts (by intro e;rw[e]at R;cases R);subst Ts;exact Qu d hd Po
      cases hA:Cw o.op with
      |true=>
       obtain⟨b,v,mk,obj,hK,TH,A,hv,Wk,RH,Tl⟩:=lF hτ I sat1 hA;have Qb:Rel ((nx,b)::H) (nx+1) iv B w (jG O nx ⟨J.heap.size,0,false⟩) (J.alloc obj):=
        sat1.rel.push b _ rfl rfl rfl ce (fun k R=>heap_alloc_old _ _ R) (fun _=>⟨aq _,ce⟩) (RH _ _ (heap_alloc_new _ _)) A
       obtain⟨l2,h3,sat2,Qu⟩:=nG (sat1.next Qb (Nat.le_succ _) (fun id RE=>iO id RE)) hK Wl hv;rw[Wk]at sat2;refine kf (v:=mk J.heap.size) (F:=J.alloc obj) (Tl J) ⟨fun _=>Ext.alloc _ _,?_⟩;refine ih (f+r.length) be f r _ _ _ _ _ _ _ _ _ _ _ _ rfl be c5 h3 (s.step QB ho Yr Sr sat2 (fun k R Vw=>hl1' k R Vw l2 Qu) (fun _ _ _=>Ext.alloc _ _) (fun g V Tt RF _=>⟨fun id c hc U L=>?_,RF⟩));rw[de]at hc;split at hc
       .rename_i e;subst e;rw[fj]at L;simp only at L;omega
       .have Rz:jG O nx ⟨J.heap.size,0,false⟩ id=O id:=(iO id (s.sat.rel.keys id c hc)).symm;rw[Rz]at U L;exact Tt id c hc U L
      |false=>
       cases hH:rI o with
       |false=>
        rw[od hH]at I;refine uX I sat1 hR hA hH fun v F hK L hs=>⟨fun _=>L,?_⟩
        obtain⟨l2,h3,sat2,Qu⟩:=nG (v:=.o (.v v)) hs hK Wl trivial;refine ih (f+r.length) be f r _ _ _ _ _ _ _ _ _ _ _ _ rfl be c5 h3 (s.step QB ho Yr Sr sat2 (fun k R Vw=>hl1' k R Vw l2 Qu) (fun _ _ _=>L) (fun g V Tt RF _=>⟨Tt,fun lo N hm hc=>?_⟩));rcases List.mem_cons.1 hm with hm|hm
        .injection hm with e1 e2;omega
        .exact RF lo N hm hc
       |true=>
        have S9:Pd=[]:=by rw[hH]at c4;simpa using c4
        subst S9;refine lG hτ I sat1 fun v H' Pr K F F' w3 hK sat2 hv=>⟨fun hs=>(by rw[hs o ho]at hH;cases hH),?_⟩
        obtain⟨l2,h3,sat3,Qu⟩:=nG sat2 hK Wl hv;exact ih (f+r.length) be f r _ _ _ _ _ _ _ _ _ _ _ _ rfl be c5 h3 (s.step QB ho Yr Sr sat3 (fun k R=>by cases R) (fun k R=>by cases R) (fun g _ _ _ R=>by obtain⟨k,R,_⟩:=R;cases R))
     .refine .inr ⟨G,fun _=>Ext.refl _,?_⟩;subst S9;obtain⟨l2,h3,sat2,Qu⟩:=nG (v:=.o (.v undef)) sat1 I Wl trivial;exact ih (f+r.length) be f r _ _ _ _ _ _ _ _ _ _ _ _ rfl be c5 h3 (s.step QB ho Yr Sr sat2 (fun k R=>by cases R) (fun k R=>by cases R) (fun g _ _ _ R=>by obtain⟨k,R,_⟩:=R;cases R))
    ·
     refine s.early Py QB hjP TM fun E' a2 F L s'=>⟨fun _=>L,?_⟩
     exact ih (f+(r.length+1)) be f (.x i::r) lx _ Pd E' l H nx iv w O a2 F rfl be (by simp only[rX,ho,bF];exact⟨⟨⟨⟨by simpa using c1,by simpa using c2⟩,c3⟩,by rw[hR];simp only[bF];exact⟨c4,c6⟩⟩,c5⟩) h s'
theorem FY(hτ:fG P τ)(hm:P.follows .mixedOrders=true){Fd:KT}(π:List It)(hs:Region.noSelect ops=true)(hc:FU ops ops.size π 0 []=true)
  (h:Jm P τ B ops.toList π l H nx iv w Fd):mO P B ops l H nx iv w Fd:=by
 rw[EA π (Array.replicate ops.size false) 0 [] ce (fun j=>by rw[pz,bG,Array.getElem?_replicate];split<;>rfl)]at hc;refine⟨fun n O a J Py sat Q hQ id=>?_⟩;refine wp_mono (Q':=Q) (c:=.region id ops true) (wp_region_any (Q:=QN (Q .normal)) hm (uY _ _ _ _ ?_)) (fun e a w hq=>by obtain⟨rfl,hq⟩:=hq;exact hq);refine L0 hτ (fun j o ho d hd=>?_) (Region.noSelect_spec hs) hQ _ _ π _ _ [] [] l H nx iv w O a _ rfl ?_ hc h ?_
 .have:=cD.1 Py o (aG (by rw[ah];exact ho));rw[hd]at this;have h5:d+1<=n:=by simpa [Nat.blt]using this
  exact h5
 .unfold LY;refine aR List.countP_le_length ?_;simp
 .refine⟨⟨sat.rel.drew,sat.size,sat.defers,sat.env,sat.sc⟩,ce,ce,fun j=>ce,fun j g h=>(by cases h),fun j h=>(by cases h),fun j g h=>(by cases h),fun j g j' h=>(by cases h),fun j h=>(by cases h)⟩
end
def zR:List (Nat×TI)->Nat->Option TI
 |[],_=>none
 |(t,v)::r,u=>match Nat.beq t u with
  |true=>some v
  |false=>zR r u
def veq:Value->Value->Bool
 | .bool a,.bool b=>a==b
 | .int k n,.int j m=>rZ k j&&decide (n=m)
 | .string a,.string b=>a.data.toList.isEmpty&&b.data.toList.isEmpty
 | .pointer none,.pointer none=>true
 | .slice none a b,.slice none c d=>Nat.beq a c&&Nat.beq b d
 | .map none,.map none=>true
 | .nilFunc,.nilFunc=>true
 | .nilIface,.nilIface=>true
 |_,_=>false
theorem Cy{a b:IntKind}(h:rZ a b=true):a=b:=by cases a<;>cases b<;>first|rfl|cases h
theorem PQ{a b:Value}(h:veq a b=true):a=b/\a.oneCell'=true:=by
 unfold veq at h;split at h
 .exact⟨by rw[eq_of_beq h],rfl⟩
 .simp only[bF,decide_eq_true_eq]at h;exact⟨by rw[Cy h.1,h.2],rfl⟩
 .rename_i a b;simp only[bF,List.isEmpty_iff]at h;refine⟨?_,rfl⟩;have ha:a=⟨#[]⟩:=by
   obtain⟨⟨l⟩⟩:=a;simp only at h;rw[h.1]
  have A:b=⟨#[]⟩:=by
   obtain⟨⟨l⟩⟩:=b;simp only at h;rw[h.2]
  rw[ha,A]
 .exact⟨rfl,rfl⟩
 .simp only[bF]at h;exact⟨by rw[ee h.1,ee h.2],rfl⟩
 .exact⟨rfl,rfl⟩
 .exact⟨rfl,rfl⟩
 .exact⟨rfl,rfl⟩
 .cases h
def Nj:List Value->List Value->Bool
 |[],[]=>true
 |a::r,b::s=>veq a b&&Nj r s
 |_,_=>false
theorem Is:∀{a b:List Value},Nj a b=true->a=b/\∀x∈b,x.oneCell'=true
 |[],[],_=>⟨rfl,ce⟩
 |a::r,b::s,h=>by
  simp only[Nj,bF]at h;obtain⟨Y,I⟩:=PQ h.1;obtain⟨h3,h4⟩:=Is h.2;refine⟨by rw[Y,h3],fun x E=>?_⟩;rcases List.mem_cons.1 E with rfl|E
  .rw[<-Y];exact I
  .exact h4 x E
 |[],_::_,h=>by cases h
 |_::_,[],h=>by cases h
def zS(P:Program):List Field->List (Nat×Nat)->Bool
 |[],[]=>true
 |f::r,(o,t)::s=>Nat.beq f.offset o&&Nat.beq f.type t&&(P.info? f.type).isSome&&zS P r s
 |_,_=>false
theorem zu{P:Program}:∀{a:List Field} {b:List (Nat×Nat)},zS P a b=true->a.map (fun f=>(f.offset,f.type))=b/\∀f∈a,(P.info? f.type).isSome=true
 |[],[],_=>⟨rfl,ce⟩
 |f::r,(o,t)::s,h=>by
  simp only[zS,bF]at h;obtain⟨h3,h4⟩:=zu h.2;refine⟨by rw[List.map_cons,h3,ee h.1.1.1,ee h.1.1.2],fun x E=>?_⟩;rcases List.mem_cons.1 E with rfl|E
  .exact h.1.2
  .exact h4 x E
 |[],_::_,h=>by cases h
 |_::_,[],h=>by cases h
def isAgg:TypeDesc->Bool
 | .struct _=>true
 | .array _ _=>true
 |_=>false
def aA9(a b:Bool):Bool:=match a with
 |true=>b
 |false=> !b
theorem Nk{a b:Bool}(h:aA9 a b=true):a=b:=by cases a<;>cases b<;>first|rfl|cases h
def tokB(P:Program)(t:Nat)(i:TI):Bool:=
 (match P.info? t with
  |some inf=>Nat.beq inf.size i.size&&Nat.beq inf.bytes i.bytes&&(match inf.zero with
   |some z=>Nj z.cells.toList i.zero
   |none=>false)
  |none=>false)&&Nat.beq i.zero.length i.size&&
 (match P.underlying t with
  |some d=>aA9 (isAgg d) i.agg&&(match i.tag with
   |1=>(match d with
    | .int k=>rZ k i.ik
    |_=>false)
   |2=>(match d with
    | .bool=>true
    |_=>false)
   |3=>(match d with
    | .string=>true
    |_=>false)
   |4=>(match d with
    | .slice e=>Nat.beq e i.elem
    |_=>false)
   |5=>(match d with
    | .struct fs=>zS P fs.toList i.fields
    |_=>false)
   |6=>(match d with
    | .array n e=>Nat.beq n i.CO&&Nat.beq e i.elem
    |_=>false)
   |_=>true)
  |none=>false)
theorem tok_of{t:Nat}{i:TI}(h:tokB P t i=true):H6 P t i:=by
 simp only[tokB,bF]at h;obtain⟨⟨Y,I⟩,h3⟩:=h
 cases N:P.info? t with
 |none=>rw[N]at Y;cases Y
 |some inf=>
 rw[N]at Y;simp only[bF]at Y;obtain⟨⟨h4,h5⟩,h6⟩:=Y
 cases hz:inf.zero with
 |none=>rw[hz]at h6;cases h6
 |some z=>
 rw[hz]at h6;obtain⟨h7,h8⟩:=Is h6
 cases hu:P.underlying t with
 |none=>rw[hu]at h3;cases h3
 |some d=>
 rw[hu]at h3;simp only[bF]at h3;obtain⟨h9,h10⟩:=h3;refine⟨⟨inf,z,N,ee h4,ee h5,hz,h7⟩,ee I,h8,⟨d,hu,?_⟩,fun e=>?_,fun e=>?_,fun e=>?_,fun e=>?_,fun e=>?_,fun e=>?_⟩
 .rw[<-Nk h9]
  cases d<;>rfl
 all_goals rw[e]at h10
 .cases d with
  |int k=>simp only at h10;rw[<-Cy h10];exact hu
  |_=>cases h10
 .cases d with
  |bool=>exact hu
  |_=>cases h10
 .cases d with
  |string=>exact hu
  |_=>cases h10
 .cases d with
  |slice e=>simp only at h10;rw[<-ee h10];exact hu
  |_=>cases h10
 .cases d with
  |struct fs=>simp only at h10;exact⟨fs,hu,zu h10⟩
  |_=>cases h10
 .cases d with
  |array n e=>simp only[bF]at h10;rw[<-ee h10.1,<-ee h10.2];exact hu
  |_=>cases h10
theorem PR(h:l.all (fun p=>tokB P p.1 p.2)=true):fG P (zR l):=by
 intro t i N;have:(t,i)∈l:=by
  clear h
  induction l with
  |nil=>cases N
  |cons p r ih=>
   obtain⟨t0,i0⟩:=p;unfold zR at N;split at N
   .rename_i A;injection N with N;subst N;rw[ee A];exact aF ..
   .exact aD _ (ih N)
 exact tok_of (cD.1 h _ this)
theorem Jp{fn:Func}{c:Code}(hf:P.funcs[g]? =some fn)(A:fn.body=some c)(U:(fn.name== "runtime.NumGoroutine")=false):La P g:=
 ⟨fun args w=>by simp only[beq_eq_false_iff_ne]at U;simp[callFunc,hf,A,U]⟩
theorem eL.mono{args:Array Value}{w:World}(h:eL P g args w F9)(k:∀e F,F9 e F->R' e F):eL P g args w R':=
 ⟨h.e,Calls.mono h.c k⟩
abbrev Bel(B:Nat)(w F:World):Prop:=RowKit.Below B w F
theorem Bel.refl{w:World}:Bel B w w:=RowKit.Below.refl _ _
theorem Rel.cj{H:Hp}{nx:Nat}{iv:Iv}{w J:World}(r:Rel H nx iv B w O J):Bel B w J:=
 ⟨r.os,r.tape,r.output,r.size,fun k R=>r.Dz k (by have:=r.base;omega) (fun id b h U L=>by have:=(r.low id b h U).1;omega)⟩
theorem Bel.tr{a b c:World}(h:Bel B a b)(k:Bel B b c):Bel B a c:=RowKit.Below.trans h k
theorem Ext.cj{a b:World}(h:Ext a b)(hB:B<=a.heap.size):Bel B a b:=RowKit.Below.mono h hB
end Go.Sx
namespace Go.RowKit
open Go Go.Sx
theorem Below.cj{B:Nat}{a b:World}(h:RowKit.Below a.heap.size a b)(hB:B<=a.heap.size):RowKit.Below B a b:=RowKit.Below.mono h hB
end Go.RowKit
namespace Go.Sx
open Go
section
variable{args:(Nat->eH)->Array Value}{GT:(Nat->eH)->World->Value->World->Prop}{H:Hp}{Fd:Int->Prop}{iv:Iv}{B i n nx:Nat}{O:Nat->eH}{P:Program}
theorem cd{w F:World}{a:Addr}(h:F.heap[a.block]? =w.heap[a.block]?):F.cell? a=w.cell? a:=by
 unfold World.cell?;rw[h]
theorem Bel.cell{w F:World}(h:Bel B w F){a:Addr}(ha:a.block<B):F.cell? a=w.cell? a:=cd (h.block _ ha)
def FZ(l:Env):Env->Prop
 |[]=>True
 |(u,v)::r=>fZ l u=some v/\FZ l r
theorem FZ.get{l:Env}:∀{t:Env},FZ l t->∀u v,fZ t u=some v->fZ l u=some v
 |[],_,u,v,h=>by cases h
 |(u0,v0)::r,h,u,v,V=>by
  rw[fE]at V;split at V
  .rename_i e;subst e;injection V with V;subst V;exact h.1
  .exact FZ.get h.2 u v V
def jn(n:Nat):Env->Prop
 |[]=>True
 |(_,v)::r=>v.sc n/\jn n r
theorem jn.get{n:Nat}:∀{t:Env},jn n t->∀u v,fZ t u=some v->v.sc n
 |[],_,u,v,h=>by cases h
 |(u0,v0)::r,h,u,v,V=>by
  rw[fE]at V;split at V
  .injection V with V;subst V;exact h.1
  .exact jn.get h.2 u v V
theorem Rel.aBT{w J:World}(r:Rel H nx iv B w O J):Rel H nx [] B w O J:=
 Rel.mk' r.os r.tape r.output r.size r.base ce r.keys (fun id b h=>r.fits h) (fun id b h=>r.scopd h) r.inj r.low r.Dz ce
theorem Sub.reset{l tl:Env}{w J:World}(r:Rel H nx iv B w O J)(Y:FZ l tl)(I:jn nx tl):Sub B l nx O J ⟨tl,H,nx,[],J⟩:=
 ⟨O,r.here.aBT,fun u v hv=>⟨I.get u v hv,v,Y.get u v hv,rfl⟩⟩
def eY(w:World)(GT:Value->World->Prop)(e:Ending)(F:World):Prop:=∃v,e= .returned v/\Ext w F/\GT v F
theorem cU{g:Nat}{w:World}{Fd:SV->Hp->Iv->World->Prop}
  (h:∀O J,Rel H nx iv B w O J->eL P g (args O) J (eY J (GT O J))) (hK:∀O J v F,Rel H nx iv B w O J->Ext J F->Bel B w F->GT O J v F->Fd (.o (.v v)) H ((J.heap.size,F.heap.size)::iv) F):FX P B g args H nx iv w Fd:=
 ⟨fun O J r=>(h O J r).mono fun e F ⟨v,Y,I,h3⟩=>⟨v,Y,I,hK O J v F r I (r.cj.tr (I.cj (by have:=r.base;have:=r.size;omega))) h3⟩⟩
theorem cE{g:Nat}{w w0:World}{Fd:SV->Hp->Iv->World->Prop}(G:Bel B w0 w)(GT:(Nat->eH)->World->Value->World->Prop)
  (h:∀O J,Rel H nx iv B w O J->eL P g (args O) J (eY J (GT O J))) (hK:∀O J v F K,Rel H nx iv B w O J->Ext J F->Bel B w0 F->K=(J.heap.size,F.heap.size)::iv->GT O J v F->Fd (.o (.v v)) H K F):FX P B g args H nx iv w Fd:=
 cU h fun O J v F r Y I h3=>hK O J v F _ r Y (G.tr I) rfl h3
theorem mC{a:Nat×Nat}{K:Iv}(h:K=a::iv):∀p,p∈iv->p∈K:=h▸fun _ h=>aD _ h
theorem mN{a:Nat×Nat}{K:Iv}(h:K=a::iv):a∈K:=h▸aF
theorem wrap64{n:Int}(Y: -9223372036854775808<=n)(I:n<=9223372036854775807):IntKind.wrap .i64 n=n:=by
 have e1:(2:Int)^64=18446744073709551616:=by decide
 have e2:(2:Int)^(64-1)=9223372036854775808:=by decide
 simp only[IntKind.wrap,IntKind.bits,IntKind.signed,e1,e2]
 by_cases h:n % 18446744073709551616≥9223372036854775808
 .rw[aM (by simp[h])];omega
 .rw[aI (by simp[h])];omega
theorem wo{n r:Int}(h:(-9223372036854775808<=n/\n<=9223372036854775807)/\n=r:=by omega):IntKind.wrap .i64 n=r:=by rw[wrap64 h.1.1 h.1.2];exact h.2
theorem inc(i:Nat)(h:Fd ((i+1:Nat):Int))(A:i<9223372036854775807:=by omega):∃r,IntKind.wrap .i64 ((i:Int)+1)=r/\Fd r:=⟨_,by rw[wrap64]<;>omega,h⟩
theorem dL(h:decide ((i:Int)<(n:Int))=true):i<n:=by have:=aJ h;omega
theorem dE(N:i<=n)(h:decide ((i:Int)<(n:Int))=false):i=n:=by have:=aL h;omega
theorem gO{α:Type}(l:List α)(i:Nat)(h:i<l.length:=by omega):∃x,l[i]? =some x:=⟨_,aE h⟩
theorem exq{α:Type}(a:α):∃x,a=x:=⟨_,rfl⟩
theorem lr:n<=n:=aq n
theorem dec(h:i<n):n-(i+1)<n-i:=by omega
theorem l1{α:Type}{l:List α}{x:α}:(l++[x]).length=l.length+1:=by rw[aV];rfl
theorem mx(h:n<=9223372036854775807:=by omega):n<=maxLen:=h
theorem zT{n:Int}(Y:0<=n)(I:n<18446744073709551616):IntKind.wrap .u64 n=n:=by
 have e1:(2:Int)^64=18446744073709551616:=by decide
 simp only[IntKind.wrap,IntKind.bits,IntKind.signed,e1,Bool.false_and,Bool.false_eq_true,if_false]
 omega
theorem jQ{n:Int}(Y:0<=n)(I:n<4294967296):IntKind.wrap .u32 n=n:=by
 have e1:(2:Int)^32=4294967296:=by decide
 simp only[IntKind.wrap,IntKind.bits,IntKind.signed,e1,Bool.false_and,Bool.false_eq_true,if_false]
 omega
end
variable{args:(Nat->eH)->Array Value}{GT:(Nat->eH)->World->Value->World->Prop}{next:Act->World->Prop}{after:Array Edge}{ag ag':Bool}{Q:Exit->Act->World->Prop}{tH:Hp}{ik ik':IntKind}{Fd:KT}{fs fs':List (Nat×Nat)}{bs:List Nat}{cs xs ze ze':List Value}{B Bc al al' bt by_ c e e' g id n sz sz0 t tag' ty:Nat}{O:Nat->eH}{y:Operand}{guard:Option (Nat×Bool)}{row:Option Nat}{dst:Option Tmp}{pos:String}{z:Value}
section
variable{P:Program}{τ:mo}{B nx:Nat}{l:Env}{H:Hp}{iv:Iv}{w J F:World}{O:Nat->eH}
theorem Rel.Cz{iv2:Iv}(r:Rel H nx iv B w O J)(QK:J.heap.size<=F.heap.size)(Pp:∀id b,dV H id=some b->(O id).nil=false->F.heap[(O id).g]? =J.heap[(O id).g]?)
  (XQ:∀lo N,(lo,N)∈iv2->N<=F.heap.size/\∀id b,dV H id=some b->(O id).nil=false->¬(lo<=(O id).g/\(O id).g<N)):Rel H nx iv2 B F O F:=
 Rel.mk' rfl rfl rfl (aq _) (by have:=r.base;have:=r.size;omega) (fun lo N h=>(XQ lo N h).1) r.keys
  (fun id b h=>ja.iY (r.fits h) (fun _ _=>rfl) (r.scopd h) (fun U _=>Pp id b h U)) (fun id b h=>r.scopd h) r.inj
  (fun id b h U=>by have:=r.low id b h U;omega) (fun _ _ _=>rfl) (fun lo N h=>(XQ lo N h).2)
theorem iP(hτ:fG P τ)(hBc:Bc<=B){x:Operand}{k m:Nat}
  {v:Value} {vy:SV} {news:List Value} {Fd:SV->Hp->Nat->Iv->World->Prop}
  (ht:τ t=some ⟨sz0,ag,bt,ze,4,ik,e,al,fs⟩) (Qn:τ e=some ⟨sz,ag',by_,ze',tag',ik',e',al',fs'⟩) (QU:0<sz) (E:ev l x=some (.o (.v v))) (hy:ev l y=some vy)
  (R8:∀O J,Rel H nx iv B w O J->J.ownsRow Bc e sz v m xs/\∀g,v.ownBlock=some g->∀id b,dV H id=some b->(O id).nil=false->(O id).g≠g)
  (Tu:news.length=k*sz) (Ss:∀u∈news,u.oneCell'=true) (VH:m+k<=maxLen) (A:(m+k)*by_<=140737488355328)
  (src:∀O J,Rel H nx iv B w O J->(∃c,vy.den O= .slice none 0 c/\k=0)\/∃ad c,vy.den O= .slice (some ad) k c/\∀(j:Nat) u,news[j]? =some u->J.cell? (ad.add j)=some u)
  (iv2:Value->World->Iv)
  (XQ:∀O J v' F,Rel H nx iv B w O J->J.heap.size<=F.heap.size->(∀g,v'.ownBlock=some g->g<F.heap.size/\(v.ownBlock=some g\/g=J.heap.size))->∀lo N,(lo,N)∈iv2 v' F->N<=F.heap.size/\∀id b,dV H id=some b->(O id).nil=false->¬(lo<=(O id).g/\(O id).g<N))
  (hK:∀O J v' F,Rel H nx iv B w O J->F.ownsRow Bc e sz v' (m+k) (xs++news)->J.grownBy F v.ownBlock->(v'.ownBlock=v.ownBlock\/v'.ownBlock=some J.heap.size)->Fd (.o (.v v')) H nx (iv2 v' F) F):
  zU P B ⟨dst,.call ⟨.builtin .append,⟨[x,y]⟩,⟨[t,t]⟩⟩,ty,pos,after,guard⟩ l H nx iv w Fd:=by
 refine⟨fun O J ev' r TB=>?_⟩;have hto:=hτ t _ ht;have hu:=hto.i4 rfl;simp only at hu;have SZ:=hτ e _ Qn;obtain⟨inf,z,N,QK,QR,hz,SD⟩:=SZ.info;have Su:=SZ.Fa;simp only at QK QR SD Su;have XR:z.cells.size=sz:=by rw[<-Su,<-SD];simp
 obtain⟨Pm,Po⟩:=R8 O J r;have key:∃v' F,(Builtin.append_ #[t,t] ty #[v,vy.den O]).run P J= .ok v' F/\F.ownsRow Bc e sz v' (m+k) (xs++news)/\J.grownBy F v.ownBlock/\(v'.ownBlock=v.ownBlock\/v'.ownBlock=some J.heap.size):=by
  rcases src O J r with⟨c,hv,rfl⟩|⟨ad,c,hv,Q8⟩
  .have:news=[]:=List.eq_nil_of_length_eq_zero (by simpa using Tu);subst this;rw[hv];exact⟨v,J,nQ J Bc t ty e inf sz hu N v m xs Pm c,by simpa using Pm,⟨rfl,rfl,rfl,aq _,fun _ _ _=>rfl⟩,.inl rfl⟩
  .rw[hv];obtain⟨v',F,Y,I,h3,_,h5⟩:=run_append_own_at (P:=P) J Bc t ty e inf z sz by_ hu N hz QK QR XR QU v m xs Pm ad k c news Tu Q8 Ss VH A (by have:=r.base;have:=r.size;omega);exact⟨v',F,Y,I,h3,h5⟩
 obtain⟨v',F,Y,I,h3,h4⟩:=key;have e1:=TB x _ E;have e2:=TB y _ hy;have S0:∀g,v'.ownBlock=some g->g<F.heap.size/\(v.ownBlock=some g\/g=J.heap.size):=fun g V=>by
  refine⟨?_,?_⟩
  .rcases I.2 with⟨rfl,_⟩|⟨g',cap,cur,rfl,_,hc,_⟩
   .cases V
   .simp only[Value.ownBlock,Option.some.injEq]at V;subst V;exact(bD.1 hc).1
  .rcases h4 with h4|h4
   .exact .inl (h4▸V)
   .rw[h4]at V;injection V with V;exact .inr V.symm
 refine⟨v',F,iv2 v' F,.inl ?_,r.Cz h3.size (fun id b h U=>h3.block _ (r.low id b h U).2 (fun e=>Po _ e.symm id b h U rfl)) (XQ O J v' F r h3.size S0),hK O J v' F r I h3 h4⟩;have e1:ev' x=v:=e1;generalize vy.den O=yy at*
 simp[execOp,resolve,invoke,builtin,e1,e2,Y]
theorem Bel.grown{B0:Nat}(h:J.grownBy F row)(hr:∀g,row=some g->B0<=g)(hB:B0<=J.heap.size):Bel B0 J F:=
 ⟨h.os,h.tape,h.output,h.size,fun k R=>h.block k be (fun e=>by have:=hr k e.symm;omega)⟩
theorem ownsRow.low{m:Nat}{v:Value}(h:w.ownsRow B e sz v m xs):∀g,v.ownBlock=some g->B<=g/\g<w.heap.size:=by
 intro g V;rcases h.2 with⟨rfl,_⟩|⟨g',cap,cur,rfl,A,hc,_⟩
 .cases V
 .simp only[Value.ownBlock,Option.some.injEq]at V;subst V;exact⟨A,(bD.1 hc).1⟩
theorem ownsRow.cX{m:Nat}{v:Value}(h:w.ownsRow B e sz v m xs)(R:∀g,v.ownBlock=some g->F.heap[g]? =w.heap[g]?):F.ownsRow B e sz v m xs:=by
 refine⟨h.1,?_⟩;rcases h.2 with Y|⟨g',cap,cur,rfl,A,hc,I⟩
 .exact .inl Y
 .exact .inr ⟨g',cap,cur,rfl,A,by rw[R g' rfl];exact hc,I⟩
end
def At.FL(f:Nat->Nat):At->At
 | .v x=>.v x
 | .p id off=>.p (f id) off
 | .s id off len cap=>.s (f id) off len cap
 | .w id len=>.w (f id) len
 | .fn g caps=>.fn g (caps.map f)
def SV.FL(f:Nat->Nat):SV->SV
 | .o x=>.o (x.FL f)
 | .a cs=>.a (cs.map (At.FL f))
def ja.FL(f:Nat->Nat):ja->ja
 | .box t cs=>.box t (cs.map (At.FL f))
 | .arr t cs=>.arr t cs
 | .vec t size cs=>.vec t size cs
 | .dead=>.dead
theorem At.vW(f:Nat->Nat)(O:Nat->eH)(x:At):(x.FL f).den O=x.den (fun i=>O (f i)):=by
 cases x<;>simp[At.FL,At.den]
theorem SV.vW(f:Nat->Nat)(O:Nat->eH)(x:SV):(x.FL f).den O=x.den (fun i=>O (f i)):=by
 cases x with
 |o x=>exact At.vW f O x
 |a cs=>
  have:At.den O ∘ At.FL f=At.den (fun i=>O (f i)):=funext fun x=>At.vW f O x;simp[SV.FL,SV.den,this]
def vX:List (Nat×Nat)->Nat->Nat
 |[],n=>n
 |(a,b)::r,n=>match Nat.beq a n with
  |true=>b
  |false=>vX r n
def zw(f:Nat->Nat)(l:Env):Env->Prop
 |[]=>True
 |(u,v)::r=>fZ l u=some (v.FL f)/\zw f l r
def zx(f:Nat->Nat)(H:Hp):Hp->Prop
 |[]=>True
 |(u,b)::r=>dV H (f u)=some (b.FL f)/\zx f H r
def DA(n:Nat):Hp->Prop
 |[]=>True
 |(u,b)::r=>(u<n/\b.scopd n)/\DA n r
def Jq(f:Nat->Nat):Hp->Bool
 |[]=>true
 |(u,_)::r=>r.all (fun p=>Nat.beq p.1 u|| !Nat.beq (f p.1) (f u))&&Jq f r
theorem zw.get{f:Nat->Nat}{l:Env}:∀{t:Env},zw f l t->∀u v,fZ t u=some v->fZ l u=some (v.FL f)
 |[],_,u,v,h=>by cases h
 |(u0,v0)::r,h,u,v,V=>by
  rw[fE]at V;split at V
  .rename_i e;subst e;injection V with V;subst V;exact h.1
  .exact zw.get h.2 u v V
theorem zx.get{f:Nat->Nat}{l:Hp}:∀{t:Hp},zx f l t->∀u v,dV t u=some v->dV l (f u)=some (v.FL f)
 |[],_,u,v,h=>by cases h
 |(u0,v0)::r,h,u,v,V=>by
  rw[de]at V;split at V
  .rename_i e;subst e;injection V with V;subst V;exact h.1
  .exact zx.get h.2 u v V
theorem DA.get{n:Nat}:∀{t:Hp},DA n t->∀u b,dV t u=some b->u<n/\b.scopd n
 |[],_,u,v,h=>by cases h
 |(u0,v0)::r,h,u,v,V=>by
  rw[de]at V;split at V
  .rename_i e;subst e;injection V with V;subst V;exact h.1
  .exact DA.get h.2 u v V
theorem Fb:∀{t:Hp} {u:Nat} {b:ja},dV t u=some b->∃p∈t,p.1=u
 |[],u,b,h=>by cases h
 |(u0,v0)::r,u,b,h=>by
  rw[de]at h;split at h
  .rename_i e;exact⟨_,aF ..,e⟩
  .obtain⟨p,Y,I⟩:=Fb h;exact⟨p,aD _ Y,I⟩
theorem DB{f:Nat->Nat}:∀{t:Hp},Jq f t=true->∀u v b c,dV t u=some b->dV t v=some c->f u=f v->u=v
 |[],_,u,v,b,c,h,_,_=>by cases h
 |(u0,v0)::r,N,u,v,b,c,hu,hv,L=>by
  simp only[Jq,bF]at N;have key:∀{w:Nat} {d:ja},dV r w=some d->f w=f u0->w=u0:=fun{w d} G hf=>by
   obtain⟨p,hp,rfl⟩:=Fb G;have:=cD.1 N.1 p hp;simp only[Bool.or_eq_true,Bool.not_eq_true']at this;rcases this with h|h
   .exact ee h
   .rw[hf,Nat.beq_refl]at h;cases h
  rw[de]at hu hv;split at hu<;>split at hv
  .rename_i x y;rw[<-x,<-y]
  .rename_i x y;subst x;exact(key hv L.symm).symm
  .rename_i x y;subst y;exact key hu L
  .exact DB N.2 u v b c hu hv L
theorem Sub.gen{l tl:Env}{nx Pr:Nat}{H:Hp}{iv K:Iv}{w J:World}(m:List (Nat×Nat))(r:Rel H nx iv B w O J)
  (hH:zx (vX m) H tH) (hE:zw (vX m) l tl) (Yd:DA Pr tH) (hsE:jn Pr tl) (N:Jq (vX m) tH=true) (XQ:∀lo N,(lo,N)∈K->(lo,N)∈iv):Sub B l nx O J ⟨tl,tH,Pr,K,J⟩:=by
 refine⟨fun i=>O (vX m i),(?_:Rel tH Pr K B J (fun i=>O (vX m i)) J),fun u v hv=>⟨hsE.get u v hv,_,hE.get u v hv,SV.vW _ _ _⟩⟩;refine Rel.mk' rfl rfl rfl (aq _) (by have:=r.base;have:=r.size;omega) (fun lo N h=>by have:=r.oc lo N (XQ lo N h);have:=r.size;omega) (fun id b h=>(Yd.get id b h).1) ?_ (fun id b h=>(Yd.get id b h).2) ?_ ?_ (fun _ _ _=>rfl) ?_
 .intro id b h;have Y:=r.fits (hH.get id b h);have hr:At.den O ∘ At.FL (vX m)=At.den (fun i=>O (vX m i)):=funext fun x=>At.vW _ O x
  cases b with
  |box t cs=>simpa [ja.FL,ja.fits,hr]using Y
  |arr t cs=>exact Y
  |vec t size cs=>exact Y
  |dead=>trivial
 .intro id id' b b' h h' hd Ze U hn' L;refine DB N id id' b b' h h' (r.inj _ _ _ _ (hH.get id b h) (hH.get id' b' h') ?_ ?_ U hn' L)
  .cases b<;>first|(exact absurd rfl hd)|simp[ja.FL]
  .cases b'<;>first|(exact absurd rfl Ze)|simp[ja.FL]
 .intro id b h U;exact r.low _ _ (hH.get id b h) U
 .intro lo Rc h id b A U;exact r.jU lo Rc (XQ lo Rc h) _ _ (hH.get id b A) U
theorem sbgn{l tl:Env}{nx Pr:Nat}{H:Hp}{iv K:Iv}{w J:World}(m:List (Nat×Nat))(r:Rel H nx iv B w O J)
  (hH:zx (vX m) H tH:=by repeat' first|exact trivial|refine⟨rfl,?_⟩) (hE:zw (vX m) l tl:=by repeat' first|exact trivial|refine⟨rfl,?_⟩) (Yd:DA Pr tH:=by simp[DA,ja.scopd,At.sc]) (hsE:jn Pr tl:=by simp[jn,SV.sc,At.sc,fu]) (N:Jq (vX m) tH=true:=by rfl) (XQ:∀lo N,(lo,N)∈K->(lo,N)∈iv:=by first|exact fun _ _ h=>h|simp):Sub B l nx O J ⟨tl,tH,Pr,K,J⟩:=Sub.gen m r hH hE Yd hsE N XQ
def xN(H:Hp):Hp->Prop
 |[]=>True
 |(u,b)::r=>dV H u=some b/\xN H r
def FM(id:Nat):Hp->Bool
 |[]=>true
 |(_,.dead)::_=>false
 |(u,_)::r=> !Nat.beq u id&&FM id r
theorem xN.get{H:Hp}:∀{t:Hp},xN H t->∀{u b},dV t u=some b->dV H u=some b
 |[],_,u,b,h=>by cases h
 |(v,c)::r,hs,u,b,h=>by
  unfold dV at h;split at h
  .rename_i e;injection h with h;subst h;have:=bT e;subst this;exact hs.1
  .exact xN.get hs.2 h
theorem FM.get{id:Nat}:∀{t:Hp},FM id t=true->∀{u b},dV t u=some b->u≠id/\b≠ .dead
 |[],_,u,b,h=>by cases h
 |(v,c)::r,hs,u,b,h=>by
  unfold dV at h;split at h
  .rename_i e;injection h with h;subst h;have:=bT e;subst this;have hv:v.beq id=false->v≠id:=fun h e=>by rw[e,Nat.beq_refl]at h;cases h
   cases c<;>simp_all [FM]
  .refine FM.get (t:=r) ?_ h
   cases c<;>simp_all [FM]
section
variable{P:Program}{B nx:Nat}{H H':Hp}{iv:Iv}{w J F:World}{O:Nat->eH}
theorem Rel.free{b:ja}(r:Rel H nx iv B w O J)(RE:dV H id=some b)(hd:b≠ .dead)(U:(O id).nil=false)(hs:xN H H')(ho:FM id H'=true):Rel H' nx (((O id).g,(O id).g+1)::iv) B J O J:=by
 have Y:Rel H' nx iv B J O J:=Rel.mk' rfl rfl rfl (aq _) (by have:=r.base;have:=r.size;omega) (fun lo N hm=>by have:=r.oc lo N hm;have:=r.size;omega) (fun j c h=>r.keys j c (hs.get h))
  (fun j c h=>r.fits (hs.get h)) (fun j c h=>r.scopd (hs.get h)) (fun j k c e h h'=>r.inj j k c e (hs.get h) (hs.get h')) (fun j c h=>r.low j c (hs.get h)) (fun _ _ _=>rfl) (fun lo N hm j c h=>r.jU lo N hm j c (hs.get h))
 refine Y.more (by have:=(r.low id b RE U).2;omega) fun j c hj hnj L=>?_;obtain⟨I,h3⟩:=FM.get ho hj;exact I (r.inj j id c b (hs.get hj) RE h3 hd hnj U be)
theorem gU{Fd:SV->Hp->Iv->World->Prop}(id:Nat){b:ja}(RE:dV H id=some b)(hd:b≠ .dead)(hs:xN H H')(ho:FM id H'=true)
  (U:∀O J,Rel H nx iv B w O J->(O id).nil=false)
  (hc:∀O J,Rel H nx iv B w O J->eL P g (args O) J (eY J (GT O J)))
  (h:∀O J v F,Rel H nx iv B w O J->Ext J F->Bel B w F->GT O J v F->Fd (.o (.v v)) H' (((O id).g,(O id).g+1)::(J.heap.size,F.heap.size)::iv) F):Fe P B g args H nx iv w Fd:=
 ⟨fun O J r=>⟨(hc O J r).e,Calls.mono (hc O J r).c fun e F L=>by
  obtain⟨v,Y,I,h3⟩:=L;have r2:Rel H nx ((J.heap.size,F.heap.size)::iv) B F O F:=(r.ext I).here.more (aq _) (fun j c hj U=>by have:=(r.low j c hj U).2;omega)
  exact⟨v,H',_,Y,r2.free RE hd (U O J r) hs ho,h O J v F r I (r.cj.tr (I.cj (by have:=r.base;have:=r.size;omega))) h3⟩⟩⟩
end
inductive Tr where
 |nil
 |one (i:Nat) (t:Tr)
 |two (i:Nat) (t:Tr) (j:Nat) (u:Tr)
def Tr.depth:Tr->Nat
 | .nil=>0
 | .one _ t=>t.depth+1
 | .two _ t _ u=>max t.depth u.depth+1
def yF(ops:Array Oper):Tr->Array Bool->Bool
 | .nil,la=>(Region.ready .any ops la).isEmpty
 | .one i t,la=>match Region.ready .any ops la with
  |[x]=>Nat.beq x i&&yF ops t (la.setIfInBounds i true)
  |_=>false
 | .two i t j u,la=>match Region.ready .any ops la with
  |[x,y]=>Nat.beq x i&&(Nat.beq y j&&(yF ops t (la.setIfInBounds i true)&&yF ops u (la.setIfInBounds j true)))
  |_=>false
def Lb(P:Program)(τ:mo)(B:Nat)(all:List Oper):Tr->Env->Hp->Nat->Iv->World->KT->Prop
 | .nil,l,H,nx,iv,w,Fd=>Fd l H nx iv w
 | .one i t,l,H,nx,iv,w,Fd=>lg all i (fun o=>fA false P τ B all o l H nx iv w (fun l' H' Pr K J=>Lb P τ B all t l' H' Pr K J Fd))
 | .two i t j u,l,H,nx,iv,w,Fd=>lg all i (fun o=>fA false P τ B all o l H nx iv w (fun l' H' Pr K J=>Lb P τ B all t l' H' Pr K J Fd))/\
   lg all j (fun o=>fA false P τ B all o l H nx iv w (fun l' H' Pr K J=>Lb P τ B all u l' H' Pr K J Fd))
section
variable{P:Program}{τ:mo}{ops:Array Oper}{B n nx:Nat}{l:Env}{H:Hp}{iv:Iv}{w J:World}{O:Nat->eH}{a:Act}
theorem EB(hτ:fG P τ)(Py:∀(j:Nat) o,ops[j]? =some o->∀d,o.dst=some d->d<n){i:Nat}
  (h:lg ops.toList i (fun o=>fA false P τ B ops.toList o l H nx iv w Fd)) (sat:Sat n l H nx iv B w O a J)
  (U:∀l' H' Pr K F F' a' w3,Fd l' H' Pr K F->Sat n l' H' Pr K B F F' a' w3->next a' w3):wpOp P ops Q i next a J:=by
 obtain⟨o,ho,Y⟩:=ew h;rw[ah]at ho;have hd:=Py i o ho;unfold fA at Y;refine lh ho ?_;rcases iy sat Y with⟨G,l1,I,sat1⟩|⟨G,l1,I,sat1⟩
 .refine .inl ⟨G,lG hτ I sat1 fun v H' Pr K F F' w3 h3 sat2 hv=>?_⟩;obtain⟨l2,h4,sat3⟩:=eh sat2 h3 hd hv;exact U _ _ _ _ _ _ _ _ h4 sat3
 .obtain⟨l2,h4,sat3⟩:=eh sat1 I hd trivial;exact .inr ⟨G,U _ _ _ _ _ _ _ _ h4 sat3⟩
theorem vY(hτ:fG P τ)(Py:∀(j:Nat) o,ops[j]? =some o->∀d,o.dst=some d->d<n){Fd:KT}{Q:Exit->Act->World->Prop}
  (hQ:∀l' H' Pr K F F' a' w3,Fd l' H' Pr K F->Sat n l' H' Pr K B F F' a' w3->Q .normal a' w3):
  ∀(t:Tr) (fuel:Nat) (la:Array Bool) (l:Env) (H:Hp) (nx:Nat) (iv:Iv) (w:World) (O:Nat->eH) (a:Act) (J:World),t.depth<=fuel->yF ops t la=true->Lb P τ B ops.toList t l H nx iv w Fd->Sat n l H nx iv B w O a J->wpAny P .any ops Q fuel la a J
 | .nil,fuel,la,l,H,nx,iv,w,O,a,J,_,hc,h,s=>by
  simp only[yF,List.isEmpty_iff]at hc;have hq:=hQ _ _ _ _ _ _ _ _ h s
  cases fuel with
  |zero=>exact⟨hc,hq⟩
  |succ fuel=>exact⟨fun _=>hq,fun i N=>by rw[hc]at N;cases N⟩
 | .one i t,fuel,la,l,H,nx,iv,w,O,a,J,hf,hc,h,s=>by
  simp only[Tr.depth]at hf;obtain⟨fuel,rfl⟩:∃q,fuel=q+1:=⟨fuel-1,be⟩
  simp only[yF]at hc;split at hc
  .rename_i x hr;simp only[bF]at hc;have E:=bT hc.1;subst E;refine⟨fun h0=>(by rw[hr]at h0;cases h0),fun j hj=>?_⟩;rw[hr,aX]at hj;subst hj;exact EB hτ Py h s fun _ _ _ _ _ _ _ _ R hs=>vY hτ Py hQ t fuel _ _ _ _ _ _ _ _ _ be hc.2 R hs
  .cases hc
 | .two i t k u,fuel,la,l,H,nx,iv,w,O,a,J,hf,hc,h,s=>by
  simp only[Tr.depth]at hf;obtain⟨fuel,rfl⟩:∃q,fuel=q+1:=⟨fuel-1,be⟩
  simp only[yF]at hc;split at hc
  .rename_i x y hr;simp only[bF]at hc;obtain⟨c1,c2,c3,c4⟩:=hc;have E:=bT c1;have hy:=bT c2;subst E;subst hy;obtain⟨Y,I⟩:=h;refine⟨fun h0=>(by rw[hr]at h0;cases h0),fun j hj=>?_⟩;rw[hr,List.mem_cons,aX]at hj;rcases hj with rfl|rfl
   .exact EB hτ Py Y s fun _ _ _ _ _ _ _ _ R hs=>vY hτ Py hQ t fuel _ _ _ _ _ _ _ _ _ be c3 R hs
   .exact EB hτ Py I s fun _ _ _ _ _ _ _ _ R hs=>vY hτ Py hQ u fuel _ _ _ _ _ _ _ _ _ be c4 R hs
  .cases hc
theorem jV(hτ:fG P τ)(hm:P.follows .mixedOrders=true)(t:Tr)(hc:(Nat.ble t.depth ops.size&&yF ops t (Array.replicate ops.size false))=true)
  (h:Lb P τ B ops.toList t l H nx iv w Fd):mO P B ops l H nx iv w Fd:=by
 simp only[bF]at hc;refine⟨fun n O a J Py sat Q hQ id=>?_⟩;refine wp_region_any hm (vY hτ (fun j o ho d hd=>?_) hQ t _ _ _ _ _ _ _ O _ _ (Nat.le_of_ble_eq_true hc.1) hc.2 h ⟨sat.rel.drew,sat.size,sat.defers,sat.env,sat.sc⟩);have:=cD.1 Py o (aG (by rw[ah];exact ho));rw[hd]at this;have h5:d+1<=n:=by simpa [Nat.blt]using this
 exact h5
end
section
variable{P:Program}{τ:mo}{B n nx:Nat}{l:Env}{H:Hp}{iv:Iv}{w J:World}{O:Nat->eH}{a:Act}
theorem lH{x i:Operand}{Fd:SV->Hp->Nat->Iv->World->Prop}{s:ByteArray}{k:IntKind}{m:Int}{b:UInt8}
  (hu:P.underlying t=some .string) (E:ev l x=some (.o (.v (.string s)))) (N:ev l i=some (.o (.v (.int k m)))) (hm:0<=m) (A:s[m.toNat]? =some b)
  (hK:∀O J,Rel H nx iv B w O J->Fd (.o (.v (.int .u8 b.toNat))) H nx iv J):zU P B ⟨dst,.index t x i,ty,pos,after,guard⟩ l H nx iv w Fd:=by
 refine⟨fun O J ev' r TB=>⟨.int .u8 b.toNat,J,iv,.inl ?_,r.here,hK O J r⟩⟩;have e1:ev' x= .string s:=TB x _ E;have e2:ev' i= .int k m:=TB i _ N;simp[execOp,e1,e2,Instr.index,asIntOf,run_underlying hu,hm,A]
theorem pG(w:World)(t e:TypeId)(a:Option Addr)(n c n' c':Nat)(h:P.underlying t=some (.slice e)):
  (binOp .eql t (.slice a n c) (.slice none n' c')).run P w= .ok (.bool a.isNone) w:=by
 have:∀d,(Op.equalIn (d+1) t (.slice a n c) (.slice none n' c')).run P w= .ok a.isNone w:=fun d=>by cases a<;>simp[Op.equalIn,run_underlying h]
 simp only[binOp]
 simp[Op.equal,Op.maxDepth,this 9999]
theorem ie(w:World)(g:Nat)(cs:Array Value):w.grownBy (w.setRow g cs) (some g):=
 ⟨rfl,rfl,rfl,ce,fun k _ Po=>setRow_other _ _ _ _ fun e=>Po (by rw[e])⟩
theorem Rel.Ff{F:World}(r:Rel H nx iv B w O J)(Po:∀id b,dV H id=some b->(O id).nil=false->(O id).g≠g)(h:J.grownBy F (some g)):Rel H nx iv B F O F:=
 r.Cz h.size (fun id b A U=>h.block _ (r.low id b A U).2 fun e=>Po id b A U (Option.some.inj e)) fun lo N hm=>⟨by have:=r.oc lo N hm;have:=r.size;have:=h.size;omega,fun id b A U=>r.jU lo N hm id b A U⟩
theorem CP(z:Value)(n:Nat):(Builtin.zeroCells #[z] n).toList=List.replicate n z:=by
 apply bA;intro i;simp only[Builtin.zeroCells,Array.toList_map,aU,Array.toList_range,List.getElem?_replicate]
 by_cases h:i<n
 .simp[h,Nat.mod_one]
 .simp[h]
theorem Jr(hτ:fG P τ){k off tg:Nat}{x:Operand}
  {Fd:SV->Hp->Nat->Iv->World->Prop}
  (ht:τ t=some ⟨sz0,ag,bt,ze,4,ik,e,al,fs⟩) (Qn:τ e=some ⟨1,ag',by_,[z],tag',ik',e',al',fs'⟩) (E:ev l x=some (.o (.v (.slice (some ⟨g,off,none⟩) k c)))) (R:k≠0)
  (V:∀O J,Rel H nx iv B w O J->J.heap[g]? =some (.cells cs.toArray tg (0,0))/\∀id b,dV H id=some b->(O id).nil=false->(O id).g≠g) (RH:off+k<=cs.length)
  (hK:∀O J F,Rel H nx iv B w O J->F.heap[g]? =some (.cells (cs.take off++List.replicate k z++cs.drop (off+k)).toArray tg (0,0))->J.grownBy F (some g)->F.heap.size=J.heap.size->Fd (.o (.v (.tuple #[]))) H nx iv F):
  zU P B ⟨dst,.call ⟨.builtin .clear,⟨[x]⟩,⟨[t]⟩⟩,ty,pos,after,guard⟩ l H nx iv w Fd:=by
 refine⟨fun O J ev' r TB=>?_⟩;have hu:=(hτ t _ ht).i4 rfl;simp only at hu;have SZ:=hτ e _ Qn;obtain⟨inf,zv,N,QK,QR,hz,SD⟩:=SZ.info;have hzo:=SZ.aAa z ce;simp only at QK SD;have hza:zv.cells= #[z]:=by apply Array.ext';simpa using SD
 obtain⟨hc,Po⟩:=V O J r;have RN:=run_storeCells_at (P:=P) g off tg (List.replicate k z) 0 cs.toArray J hc (by simpa using RH) (fun v hv=>by rw[List.mem_replicate]at hv;rw[hv.2];exact hzo);have Su:=CP z k;have e1:ev' x= .slice (some ⟨g,off,none⟩) k c:=TB x _ E;simp only[cN,aj]at RN;refine⟨.tuple #[],_,iv,.inl ?_,r.Ff Po (ie J g _),hK O J _ r (setRow_heap J g cs.toArray _ tg _ hc) (ie _ _ _) ce⟩;simp[execOp,resolve,invoke,builtin,e1,Builtin.clear_,run_underlying hu,zeroValue,typeInfo,N,hz,hza,Su,RN,R]
theorem Lc(hτ:fG P τ){k off tg:Nat}{x:Operand}
  {ds:List Value} {vy:SV} {Fd:SV->Hp->Nat->Iv->World->Prop}
  (ht:τ t=some ⟨sz0,ag,bt,ze,4,ik,e,al,fs⟩) (Qn:τ e=some ⟨1,ag',by_,[z],tag',ik',e',al',fs'⟩) (E:ev l x=some (.o (.v (.slice (some ⟨g,off,none⟩) k c)))) (hy:ev l y=some vy)
  (V:∀O J,Rel H nx iv B w O J->J.heap[g]? =some (.cells cs.toArray tg (0,0))/\∀id b,dV H id=some b->(O id).nil=false->(O id).g≠g)
  (src:∀O J,Rel H nx iv B w O J->∃a m,vy.den O= .slice a ds.length m/\∀(j:Nat) u,ds[j]? =some u->∃ad,a=some ad/\J.cell? (ad.add j)=some u)
  (hds:ds.length<=k) (RH:off+ds.length<=cs.length) (Y:∀u∈ds,u.oneCell'=true)
  (hK:∀O J F,Rel H nx iv B w O J->F.heap[g]? =some (.cells (cs.take off++ds++cs.drop (off+ds.length)).toArray tg (0,0))->J.grownBy F (some g)->F.heap.size=J.heap.size->Fd (.o (.v (goInt ds.length))) H nx iv F):
  zU P B ⟨dst,.call ⟨.builtin .copy,⟨[x,y]⟩,⟨[t,t]⟩⟩,ty,pos,after,guard⟩ l H nx iv w Fd:=by
 refine⟨fun O J ev' r TB=>?_⟩;have hu:=(hτ t _ ht).i4 rfl;simp only at hu;have SZ:=hτ e _ Qn;obtain⟨inf,zv,N,QK,QR,hz,SD⟩:=SZ.info;simp only at QK;obtain⟨hc,Po⟩:=V O J r;obtain⟨ay,m,R6,Q8⟩:=src O J r;have e1:ev' x= .slice (some ⟨g,off,none⟩) k c:=TB x _ E;have e2:ev' y= .slice ay ds.length m:=by rw[<-R6];exact TB y _ hy
 refine⟨goInt ds.length,J.setRow g (cs.take off++ds++cs.drop (off+ds.length)).toArray,iv,.inl ?_,r.Ff Po (ie J g _),hK O J _ r (setRow_heap J g cs.toArray _ tg _ hc) (ie _ _ _) ce⟩;have Xh:Nat.min ds.length k=ds.length:=Nat.min_eq_left hds;have Px:(Builtin.copy_ #[t,t] ty #[.slice (some ⟨g,off,none⟩) k c,.slice ay ds.length m]).run P J= .ok (goInt ds.length) (J.setRow g (cs.take off++ds++cs.drop (off+ds.length)).toArray):=by
  cases ay with
  |some ad=>
   have:=run_copy_row (P:=P) J t t ty e g off k c ad ds.length m cs.toArray tg ds hu (by simp[N,QK]) hc (by rw[Xh]) (fun j v hv=>by
    obtain⟨ad',I,h3⟩:=Q8 j v hv;injection I with I
    rw[I];exact h3) (by simpa using RH) Y
   simpa using this
  |none=>
   have hd:ds=[]:=by
    cases ds with
    |nil=>rfl
    |cons u r=>obtain⟨ad',I,_⟩:=Q8 0 u rfl;cases I
   subst hd;have TT:=setRow_self J g cs.toArray tg (0,0) hc;simp[Builtin.copy_,run_underlying hu,Builtin.lenOf,Builtin.firstCells,sizeOf,typeInfo,N,storeCells,TT]
 simp[execOp,resolve,invoke,builtin,e1,e2,Px]
end
section
variable{P:Program}{τ:mo}{B nx:Nat}{l:Env}{H:Hp}{iv:Iv}{w J:World}{O:Nat->eH}
theorem zX{x:Operand}{Fd:SV->Hp->Nat->Iv->World->Prop}{a:Option Addr}
  (hu:P.underlying t=some (.slice e)) (E:ev l x=some (.o (.v (.slice a n c))))
  (hK:∀O J,Rel H nx iv B w O J->Fd (.o (.v (.int .i64 c))) H nx iv J):zU P B ⟨dst,.call ⟨.builtin .cap,⟨[x]⟩,⟨[t]⟩⟩,ty,pos,after,guard⟩ l H nx iv w Fd:=by
 refine⟨fun O J ev' r TB=>⟨.int .i64 c,J,iv,.inl ?_,r.here,hK O J r⟩⟩;have e1:ev' x= .slice a n c:=TB x _ E;simp[execOp,resolve,invoke,builtin,e1,Builtin.cap_,run_underlying hu,goInt]
theorem r9(z:Array Value)(n:Nat):(Builtin.zeroCells z n).size=n*z.size:=by simp[Builtin.zeroCells]
theorem EE(h:0<n):Builtin.nextslicecap n 0=n:=by simp[Builtin.nextslicecap,h]
theorem Jw(w:World)(t tn ty e:TypeId)(i:TypeInfo)(z:Value)(ht:P.underlying t=some (.slice e))(htn:P.underlying tn=some (.int .i64))(N:P.info? e=some i)(hz:i.zero=some z)(XR:z.cells.size=i.size)
  (n:Nat) (h0:0<n) (hs:0<i.size) (h63:n<=maxLen) (h48:n*i.bytes<=140737488355328) (Bc:Nat) (hB:Bc<=w.heap.size):
  ∃c F,(Builtin.append_ #[t,tn] ty #[.slice none 0 0,.int .i64 n]).run P w= .ok (.slice (some ⟨w.heap.size,0,none⟩) n c) F/\n<=c/\F.ownsRow Bc e i.size (.slice (some ⟨w.heap.size,0,none⟩) 0 c) 0 []/\w.grownBy F none/\F.heap.size=w.heap.size+1:=by
 have U:n≠0:=by omega
 have h63n:(n:Int)<=9223372036854775807:=by unfold maxLen at h63;omega
 have G:IntKind.i64.wrap (n:Int)=n:=wrap64 be h63n;have h63':¬(9223372036854775807<(n:Int)):=by omega
 have h48':¬(281474976710656<Builtin.nextslicecap n 0*i.bytes):=by rw[EE h0];omega
 have h48i:¬(281474976710656<(n:Int)*(i.bytes:Int)):=by rw[<-Int.natCast_mul];omega
 have SE:¬((n:Int)<0):=by omega
 have hns:¬(n*i.size=0):=Nat.mul_ne_zero U be;have TC:=grownCap_ge w n 0 e;have hle:=grownCap_le_maxLen w n 0 e h63;refine⟨grownCap w n 0 e,w.drew.alloc (.cells (Builtin.zeroCells z.cells n++Builtin.zeroCells z.cells (grownCap w n 0 e-n)) e),?_,TC,?_,?_,?_⟩
 .simp[Builtin.append_,run_underlying ht,run_underlying htn,sizeOf,typeInfo,zeroValue,N,hz,asInt,asIntOf,G,U,SE,hns,h63',h48',h48i,Question.forced,run_firstCells_none,newRow,grownCap]
 .have:=World.ownsRow_made (e:=e) (size:=i.size) (base:=Bc) w.drew (Builtin.zeroCells z.cells n++Builtin.zeroCells z.cells (grownCap w n 0 e-n)) (grownCap w n 0 e) (by simpa using hB) hle (by
   rw[Array.size_append,r9,r9,XR,<-Nat.add_mul];congr 1;omega)
  simpa using this
 .refine⟨rfl,rfl,rfl,ce,fun j hj _=>?_⟩;simp[World.alloc,Array.getElem?_push,Nat.ne_of_lt hj];rfl
 .simp
theorem DD(hτ:fG P τ)(hBc:Bc<=B){x:Operand}{tn k:Nat}
  {Fd:SV->Hp->Nat->Iv->World->Prop}
  (ht:τ t=some ⟨sz0,ag,bt,ze,4,ik,e,al,fs⟩) (Qn:τ e=some ⟨sz,ag',by_,ze',tag',ik',e',al',fs'⟩) (htn:P.underlying tn=some (.int .i64)) (QU:0<sz) (E:ev l x=some (.o (.v (.slice none 0 0)))) (hy:ev l y=some (.o (.v (.int .i64 k))))
  (h0:0<k) (VH:k<=maxLen) (A:k*by_<=140737488355328)
  (hK:∀O J F c,Rel H nx iv B w O J->k<=c->F.ownsRow Bc e sz (.slice (some ⟨J.heap.size,0,none⟩) 0 c) 0 []->J.grownBy F none->F.heap.size=J.heap.size+1->Fd (.o (.v (.slice (some ⟨J.heap.size,0,none⟩) k c))) H nx ((J.heap.size,F.heap.size)::iv) F):
  zU P B ⟨dst,.call ⟨.builtin .append,⟨[x,y]⟩,⟨[t,tn]⟩⟩,ty,pos,after,guard⟩ l H nx iv w Fd:=by
 refine⟨fun O J ev' r TB=>?_⟩;have hu:=(hτ t _ ht).i4 rfl;simp only at hu;have SZ:=hτ e _ Qn;obtain⟨inf,z,N,QK,QR,hz,SD⟩:=SZ.info;have Su:=SZ.Fa;simp only at QK QR SD Su;have XR:z.cells.size=inf.size:=by rw[QK,<-Su,<-SD];simp
 obtain⟨c,F,Y,I,h3,h4,h5⟩:=Jw (P:=P) J t tn ty e inf z hu htn N hz XR k h0 be VH (by rw[QR];exact A) Bc (by have:=r.base;have:=r.size;omega);have e1:ev' x= .slice none 0 0:=TB x _ E;have e2:ev' y= .int .i64 k:=TB y _ hy;refine⟨_,F,(J.heap.size,F.heap.size)::iv,.inl ?_,r.Cz h4.size (fun id b h U=>h4.block _ (r.low id b h U).2 ce) (fun lo N hm=>?_),hK O J F c r I (QK▸h3) h4 h5⟩
 .simp[execOp,resolve,invoke,builtin,e1,e2,Y]
 .rcases List.mem_cons.1 hm with h|h
  .injection h with h6 h7;subst h6 h7;exact⟨aq _,fun id b A U=>by have:=(r.low id b A U).2;omega⟩
  .exact⟨by have:=r.oc lo N h;have:=r.size;omega,fun id b A U=>r.jU lo N h id b A U⟩
end
section
variable{P:Program}{τ:mo}{B nx:Nat}{l:Env}{H:Hp}{iv:Iv}{w J:World}{O:Nat->eH}
def strOf(bs:List Nat):ByteArray:=bs.foldl (fun r n=>r.push (UInt8.ofNat n)) ByteArray.empty
theorem lI(bs:List Nat):(strOf bs).data=(bs.map UInt8.ofNat).toArray:=by
 have:∀(bs:List Nat) (s:ByteArray),(bs.foldl (fun r n=>r.push (UInt8.ofNat n)) s).data=s.data++(bs.map UInt8.ofNat).toArray:=by
  intro bs
  induction bs with
  |nil=>intro s;simp
  |cons b r ih=>intro s;rw[List.foldl_cons,ih];simp[ByteArray.push]
 rw[strOf,this];simp
theorem Nl{d:Nat}{x:Operand}{Fd:SV->Hp->Nat->Iv->World->Prop}
  (hs:P.underlying t=some (.slice e)) (L:P.underlying e=some (.int .u8)) (hd:P.underlying d=some .string) (E:ev l x=some (.o (.s id 0 n n))) (hH:dV H id=some (.box bt (bs.map fun b:Nat=>At.v (.int .u8 (b:Int))))) (U:bs.length=n)
  (hK:∀O J,Rel H nx iv B w O J->Fd (.o (.v (.string (strOf bs)))) H nx iv J):zU P B ⟨dst,.convert t d x,ty,pos,after,guard⟩ l H nx iv w Fd:=by
 refine⟨fun O J ev' r TB=>⟨.string (strOf bs),J,iv,.inl ?_,r.here,hK O J r⟩⟩;have e1:ev' x= .slice (some ⟨(O id).g,0,none⟩) n n:=TB x _ E
 have hl:=run_loadCells_list (P:=P) (w:=J) ⟨(O id).g,0,none⟩ (bs.map fun b:Nat=>Value.int .u8 (b:Int)) (fun j v hv=>by
  rw[dF,cell_of (r.box id bt _ hH),aS];have:List.map (At.den O) (bs.map fun b:Nat=>At.v (.int .u8 (b:Int)))=bs.map fun b:Nat=>Value.int .u8 (b:Int):=by rw[List.map_map];rfl
  rw[this]
  exact hv)
 rw[aO,U]at hl;have:=run_bytesToString (P:=P) J ⟨(O id).g,0,none⟩ n n (bs.map fun b:Nat=>(b:Int)) (by rw[hl,List.map_map];rfl);have I:=run_convert_bytes_string (P:=P) J t d e (some ⟨(O id).g,0,none⟩) n n hs L hd;have h3:(bs.map fun b:Nat=>(b:Int)).foldl (fun r n=>r.push (UInt8.ofNat n.toNat)) ByteArray.empty=strOf bs:=by
  rw[List.foldl_map];rfl
 rw[this,h3]at I;simp[execOp,e1,I]
end
theorem nR:∀(nv:List Value) (w:World) (b off:Nat) (cur:Array Value) (e:TypeId),w.heap[b]? =some (.cells cur e (0,0))->off+nv.length<=cur.size->
  (w.setCells b off nv).heap[b]? =some (.cells (cur.toList.take off++nv++cur.toList.drop (off+nv.length)).toArray e (0,0))
 |[],w,b,off,cur,e,h,_=>by simpa [World.setCells]using h
 |v::r,w,b,off,cur,e,h,hl=>by
  simp only[World.setCells]
  have Ts:off+(r.length+1)<=cur.size:=by simpa using hl
  have Y:(w.setCell ⟨b,off,none⟩ v).heap[b]? =some (.cells (cur.setIfInBounds off v) e (0,0)):=by
   simp[World.setCell,Array.getElem?_modify,h]
  rw[nR r _ b (off+1) _ e Y (by simp;omega)];congr 3;have Qg:cur.toList.length=cur.size:=by simp
  apply bA;intro i;have e1:(cur.setIfInBounds off v).toList=cur.toList.set off v:=by simp
  rw[e1];rcases cP i off with N|N|N
  .rw[bJ,bJ,aN (by simp;omega),aN (by simp;omega),List.getElem?_take_of_lt be,List.getElem?_take_of_lt N,aZ be]
  .subst N;rw[bJ,bJ,aN (by simp;omega),aP (by simp;omega),List.getElem?_take_of_lt be,aQ (by simp;omega)];have:(List.take i cur.toList).length=i:=by rw[bN];omega
   rw[this,bY];rfl
  .have l1:(List.take (off+1) (cur.toList.set off v)).length=off+1:=by rw[bN,bW];omega
   have l2:(List.take off cur.toList).length=off:=by rw[bN];omega
   have hd:List.drop (off+1+r.length) (cur.toList.set off v)=List.drop (off+(v::r).length) cur.toList:=by
    rw[List.drop_set_of_lt be,bm];congr 1;omega
   obtain⟨k,rfl⟩:∃k,i=off+1+k:=⟨i-off-1,be⟩
   rw[bJ,bJ,hd];generalize List.drop (off+(v::r).length) cur.toList=tl;have Fn:(List.take (off+1) (cur.toList.set off v)++(r++tl))[off+1+k]? =(r++tl)[k]? :=by
    rw[aP be,l1];congr 1;omega
   have B:(List.take off cur.toList++((v::r)++tl))[off+1+k]? =(r++tl)[k]? :=by
    rw[aP be,l2,show off+1+k-off=k+1 by omega];rfl
   rw[Fn,B]
theorem nS:∀(nv:List Value) (w:World) (b off:Nat) {k:Nat},k≠b->(w.setCells b off nv).heap[k]? =w.heap[k]?
 |[],_,_,_,_,_=>rfl
 |v::r,w,b,off,k,R=>by
  simp only[World.setCells]
  rw[nS r _ b (off+1) R];simp[World.setCell,Array.getElem?_modify,Ne.symm R]
theorem qD:∀(vs:List Value) (w0:World) (b o:Nat),(w0.setCells b o vs).os=w0.os/\(w0.setCells b o vs).tape=w0.tape/\(w0.setCells b o vs).output=w0.output/\(w0.setCells b o vs).heap.size=w0.heap.size
 |[],_,_,_=>⟨rfl,rfl,rfl,rfl⟩
 |v::r,w0,b,o=>by
  simp only[World.setCells]
  obtain⟨Y,I,h3,h4⟩:=qD r (w0.setCell ⟨b,o,none⟩ v) b (o+1);exact⟨Y,I,h3,by rw[h4];simp⟩
theorem nT{w:World}{v:Value}{nv:List Value}{a:Option Addr}{j:Nat}(h:w.ownsRow Bc e sz v n xs)(hv:v= .slice a n c)(hj:j<n)(TU:nv.length=sz)(hs:0<sz):
  ∃g,a=some ⟨g,0,none⟩/\(∀k,k<sz->(w.cell? (Addr.add ⟨g,j*sz,none⟩ k)).isSome=true/\w.frozen? (Addr.add ⟨g,j*sz,none⟩ k)=false)/\
   (setCells w ⟨g,j*sz,none⟩ nv).ownsRow Bc e sz v n (xs.take (j*sz)++nv++xs.drop (j*sz+sz))/\w.grownBy (setCells w ⟨g,j*sz,none⟩ nv) (some g)/\(setCells w ⟨g,j*sz,none⟩ nv).heap.size=w.heap.size:=by
 rcases h.2 with⟨_,h0⟩|⟨g,cap,cur,Sh,A,V,VI,SF,Q4,VX⟩
 .omega
 rw[hv]at Sh;injection Sh with Y I h3;subst Y h3;have hjs:j*sz+sz<=n*sz:=by
  have:=Nat.mul_le_mul_right sz (show j+1<=n from hj);rw[Nat.add_mul,Nat.one_mul]at this;exact this
 have hns:n*sz<=c*sz:=Nat.mul_le_mul_right sz VI;obtain⟨f1,f2,f3,f4⟩:=qD nv w g (j*sz);have RA:=nR nv w g (j*sz) cur e V be;refine⟨g,rfl,fun k R=>?_,?_,?_,?_⟩
 .rw[dF];refine⟨?_,?_⟩
  .rw[cell_of (g:=g) (cs:=cur.toList) (by simpa using V),aE (by simp;omega)];rfl
  .simp[World.frozen?,V]
 .rw[jW];refine⟨?_,.inr ⟨g,c,_,hv,A,RA,VI,SF,?_,?_⟩⟩
  .simp only[aV,bN,List.length_drop,TU,h.1];omega
  .simp only[List.size_toArray,aV,bN,List.length_drop,TU,Array.length_toList];omega
  .subst VX;have Qg:cur.toList.length=cur.size:=by simp
   have ha:List.drop (j*sz+sz) (List.take (n*sz) cur.toList)=(List.drop (j*sz+sz) cur.toList).take (n*sz-(j*sz+sz)):=by rw[List.drop_take]
   rw[ha,List.take_take,Nat.min_eq_left be];show List.take (n*sz) (_++nv++_)=_;rw[TU,List.take_append,bX (by simp;omega)];congr 2;simp only[aV,bN,TU]
   omega
 .rw[jW];exact⟨f1,f2,f3,by rw[f4];exact aq _,fun k R Po=>nS nv w g _ (fun e=>Po (by rw[e]))⟩
 .rw[jW];exact f4
structure aBl(P:Program)(kt:TypeId)(KS:Value->Prop):Prop where
 desc:∃fs,P.underlying kt=some (.struct fs)
 check:∀(w:World) (em:Bool) (v:Value),KS v->(Instr.checkKey em 10000 kt v).run P w= .ok () w
 eq:∀(w:World) (a b:Value),KS a->KS b->∃c,(Op.equal kt a b).run P w= .ok c w/\(c=true↔a=b)
section
variable{P:Program}{τ:mo}{B n nx:Nat}{l:Env}{H:Hp}{iv:Iv}{w J F:World}{O:Nat->eH}{a:Act}
def tt(v:eH)(iv:Iv):Iv:=match v.nil with
 |true=>iv
 |false=>(v.g,v.g+1)::iv
theorem Jx{v:eH}{iv:Iv}:∀p,p∈iv->p∈tt v iv:=fun p hp=>by
 unfold tt
 cases v.nil with
 |true=>exact hp
 |false=>exact aD _ hp
theorem Lf{v:eH}{iv:Iv}(h:v.nil=false):(v.g,v.g+1)∈tt v iv:=by
 unfold tt;rw[h];exact aF
theorem Rel.drop{H':Hp}{b:ja}(r:Rel H nx iv B w O J)(RE:dV H id=some b)(hd:b≠ .dead)(hs:xN H H')(ho:FM id H'=true):Rel H' nx (tt (O id) iv) B J O J:=by
 have Y:Rel H' nx iv B J O J:=Rel.mk' rfl rfl rfl (aq _) (by have:=r.base;have:=r.size;omega) (fun lo N hm=>by have:=r.oc lo N hm;have:=r.size;omega) (fun j c h=>r.keys j c (hs.get h))
  (fun j c h=>r.fits (hs.get h)) (fun j c h=>r.scopd (hs.get h)) (fun j k c e h h'=>r.inj j k c e (hs.get h) (hs.get h')) (fun j c h=>r.low j c (hs.get h)) (fun _ _ _=>rfl) (fun lo N hm j c h=>r.jU lo N hm j c (hs.get h))
 unfold tt
 cases U:(O id).nil with
 |false=>exact r.free RE hd U hs ho
 |true=>exact Y
theorem Ha(hτ:fG P τ){id3 id2 c1 t3:Nat}{c:At}{b2:ja}{x:Operand}{vx:SV}{Fd:SV->Hp->Nat->Iv->World->Prop}
  (E:ev l x=some vx) (hy:ev l y=some (.o (.s id3 0 1 c1))) (Yu:dV H id3=some (.box t3 [c])) (hid2:dV H id2=some b2) (QJ:b2≠ .dead) (hs:xN H tH) (VJ:FM id3 tH=true) (RB:FM id2 tH=true)
  (hK:∀O J,Rel H nx iv B w O J->Rel tH nx (((O id3).g,(O id3).g+1)::tt (O id2) iv) B J O J->J.heap[(O id3).g]? =some (.cells #[c.den O] t3 (0,0))->
   zW τ B t vx (.o (.v (.slice (some ⟨(O id3).g,0,none⟩) 1 c1))) tH nx (((O id3).g,(O id3).g+1)::tt (O id2) iv) J (fun v H' Pr=>Fd v H' Pr (((O id3).g,(O id3).g+1)::tt (O id2) iv) J)):
  OpA P B ⟨dst,.call ⟨.builtin .append,⟨[x,y]⟩,⟨[t,t]⟩⟩,ty,pos,after,guard⟩ l H nx iv w Fd:=by
 refine⟨fun O J ev' r TB=>?_⟩;have e1:ev' x=vx.den O:=TB x _ E;have e2:ev' y= .slice (some ⟨(O id3).g,0,none⟩) 1 c1:=TB y _ hy;have Yv:=(r.fits Yu).1;have r1:=r.drop hid2 QJ hs RB;have r2:Rel tH nx (((O id3).g,(O id3).g+1)::tt (O id2) iv) B J O J:=by
  refine r1.more (by have:=(r.low id3 _ Yu Yv).2;omega) fun j cc hj hnj L=>?_;obtain⟨I,h3⟩:=FM.get VJ hj;exact I (r.inj j id3 cc _ (hs.get hj) Yu h3 ce hnj Yv be)
 have sat:Sat 0 [] tH nx (((O id3).g,(O id3).g+1)::tt (O id2) iv) B J O ⟨#[],[]⟩ J:=⟨r2,rfl,rfl,(fun u v hv=>by cases hv),fun u v hv=>by cases hv⟩
 obtain⟨rr,H',Pr,F',F,R,Qb,hr,Vx,G8,Px⟩:=vZ (ty:=ty) hτ sat (hK O J r r2 (by have:=r.box id3 _ _ Yu;simpa using this));refine⟨rr,H',Pr,_,F',J,F,?_,Qb,hr,Vx,G8,R⟩;have Px:(Builtin.append_ #[t,t] ty #[vx.den O,.slice (some ⟨(O id3).g,0,none⟩) 1 c1]).run P J= .ok (rr.den F') F:=Px;simp[execOp,resolve,invoke,builtin,e1,e2,Px]
end
end Go.Sx
