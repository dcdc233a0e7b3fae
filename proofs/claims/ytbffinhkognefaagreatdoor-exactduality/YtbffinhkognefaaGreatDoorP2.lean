/- Texts Sx12 to Sx23: lemmas, each with its conditions. -/
import Derived.Laws.BytesString
import Derived.Test.YtbffinhkognefaaGreatDoorP1
namespace Go.Sx
open Go
variable{args:(Nat->dc)->Array Value}{Fn Q0 next:Act->World->Prop}{FS R':Ending->World->Prop}{k:Env->Prop}{l:List (Nat×TI)}{B g:Nat}{O:Nat->dc}{d:Option Tmp}{P:Program}
section
variable{P:Program}{τ:lO}{ops:Array Oper}{B n nx:Nat}{l:Env}{H:Hp}{iv:Iv}{w J:World}{O:Nat->dc}{a:Act}
variable{Pd:List Nat}{EQ:List (Nat×Nat)}{lx la:Array Bool}{Q:Exit->Act->World->Prop}{md:Region.Mode}
theorem Bs(hr:Region.ready md ops la=[])(h:Q .normal a w):∀fuel,tw P md ops Q fuel la a w
 |0=>⟨hr,h⟩
 |_+1=>⟨fun _=>h,by rw[hr];simp⟩
theorem xE(sat:Sat n l H nx iv B w O a J){Fn:SV->Hp->Iv->World->Prop}{o:Oper}
  (h:Bt P B g args H nx iv w Fn) (UG:(execOp a.eval o).run P J=(callFunc g (args O)).run P J)
  (U:∀v F,Fn (.o (.v v)) H ((J.heap.size,F.heap.size)::iv) F->Ext J F->Sat n l H nx ((J.heap.size,F.heap.size)::iv) B F O a F->next (a.put o.dst v) F):o.wp P a J next Q:=by
 have hc:=h.h O J sat.rel;unfold Oper.wp;rw[UG,hc.e.h];refine Calls.mono hc.c fun e F G=>?_;obtain⟨v,rfl,Sa,hK⟩:=G;refine U v F hK Sa ?_;have r:=(sat.rel.ext Sa).here;refine sat.next (G9:=O) ?_ (ae _) (fun _ _=>rfl)
 refine Rel.mk' r.os r.tape r.output r.size r.base ?_ r.keys (fun id b N=>r.fits N) (fun id b N=>r.scopd N) r.inj r.low r.Ad ?_
 .intro lo R hm;rcases List.mem_cons.1 hm with hm|hm
  .injection hm with W I;omega
  .exact r.nG lo R hm
 .intro lo R hm id b N OW;rcases List.mem_cons.1 hm with hm|hm
  .injection hm with W I;have:=(sat.rel.low id b N OW).2;omega
  .exact r.ix lo R hm id b N OW
theorem xF{o:Oper}{Fn:SV->Hp->Nat->Iv->World->Prop}(h:xA true P τ B o l H nx iv w Fn)(sat:Sat n l H nx iv B w O a J)(hr:lG o.op=false)(ha:Ae o.op=false)(hh:rX o=false)
  (U:∀v F,Fn (.o (.v v)) H nx ((J.heap.size,F.heap.size)::iv) F->Ext J F->Sat n l H nx ((J.heap.size,F.heap.size)::iv) B F O a F->next (a.put o.dst v) F):o.wp P a J next Q:=by
 obtain⟨dst,op,ty,pos,after,guard⟩:=o;simp only at hr ha;have:∃f args x,op= .call ⟨.value f,args,x⟩:=by
  simp only[rX,hr,ha,Bool.or_self,Bool.false_or,Bool.not_eq_false']at hh;split at hh
  .exact⟨_,_,_,rfl⟩
  .cases hh
 obtain⟨f,⟨args⟩,x,rfl⟩:=this;simp only[xA]at h;obtain⟨vf,W,hf,Wb⟩:=dT sat h;obtain⟨vs,I,QF,hss⟩:=rG sat W;have SX:(args.toArray).map a.eval=nt O vs:=by
  apply Array.ext';simp[nt,QF]
 split at I
 .rename_i g first caps
  refine xE sat I ?_ (fun v F hK G hs=>U v F hK G hs);simp[execOp,resolve,hf,SV.den,At.den,Deferred.ofValue,invoke,SX]
 .rename_i g ids;refine xE sat I ?_ (fun v F hK G hs=>U v F hK G hs);simp[execOp,resolve,hf,SV.den,At.den,Deferred.ofValue,invoke,SX]
 .exact I.elim
def QN(Q0:Act->World->Prop):Exit->Act->World->Prop:=fun e a w=>e= .normal/\Q0 a w
theorem xG(sat:Sat n l H nx iv B w O a J){o:Oper}{yes no:Env->Prop}(h:rH ops.toList o.guard l yes no)(V:o.guard=none\/Pd=[]):
  (Region.wanted o (yielded ops a.tmps)=true/\∃l',yes l'/\Sat n l' H nx iv B w O a J/\(Pd≠[]->l'=l))\/
  (Region.wanted o (yielded ops a.tmps)=false/\Pd=[]/\∃l',no l'/\Sat n l' H nx iv B w O a J):=by
 by_cases Sr:o.guard=none
 .rw[Sr]at h;exact .inl ⟨by simp[Region.wanted,Sr],l,h,sat,fun _=>rfl⟩
 .have Qo:=V.resolve_left Sr;rcases ja sat h with⟨W,l',I,h3⟩|⟨W,l',I,h3⟩
  .exact .inl ⟨W,l',I,h3,fun OL=>absurd Qo OL⟩
  .exact .inr ⟨W,Qo,l',I,h3⟩
theorem lP(sat:Sat n l H nx iv B w O a J){v:SV}(h:Br d v l k)(hd:∀t,d=some t->t<n)(hv:v.sc nx):
  ∃l',k l'/\Sat n l' H nx iv B w O (a.put d (v.den O)) J/\∀t,fH l t=none->d≠some t->fH l' t=none:=by
 unfold Br at h;split at h
 .rename_i t;exact⟨_,h,sat.put (hd t rfl) hv,fun u hu OL=>by rw[eU,aK (fun e=>OL (by rw[e]))];exact hu⟩
 .exact⟨l,h,sat,fun t ht _=>ht⟩
theorem mP{Q:Exit->Act->World->Prop}{i:Nat}{o:Oper}(R:ops[i]? =some o)
  (h:(Region.wanted o (yielded ops a.tmps)=true/\o.wp P a J Fn Q)\/(Region.wanted o (yielded ops a.tmps)=false/\Fn (a.put o.dst undef) J)):wpOp P ops Q i Fn a J:=by
 unfold wpOp;simp only[R]
 rcases h with⟨W,I⟩|⟨W,I⟩
 .rw[aM W];exact .inl I
 .rw[aK (by simp[W])];exact I
theorem Ha(hτ:en P τ)(OV:∀(j:Nat) o,ops[j]? =some o->∀d,o.dst=some d->d<n)(Oc:∀(j:Nat) (o:Oper) cs b,ops[j]? =some o->o.op≠ .select cs b)
  {Fn:KT} (hQ:∀l' H' OO K F G9 a' w3,Fn l' H' OO K F->Sat n l' H' OO K B F G9 a' w3->Q0 a' w3):
  ∀(m fuel:Nat) (π:List It) (lx la:Array Bool) (Pd:List Nat) (EQ:List (Nat×Nat)) (l:Env) (H:Hp) (nx:Nat) (iv:Iv) (w:World) (O:Nat->dc) (a:Act) (J:World),
   fuel+π.length=m->JW la<=fuel->pU ops π lx Pd=true->Fw P τ B ops.toList π l H nx iv w Fn->JT P ops n B Pd EQ lx la l H nx iv w O a J->tw P .any ops (QN Q0) fuel la a J:=by
 intro m
 induction m using Nat.strongRecOn with
 |_ m ih=>
 intro fuel π lx la Pd EQ l H nx iv w O a J hm XK hc h s
 match π with
 |[]=>
  simp only[pU,aq,List.isEmpty_iff]at hc;obtain⟨hr,rfl⟩:=hc;refine Bs ?_ ⟨rfl,hQ _ _ _ _ _ _ _ _ h s.sat⟩ fuel;refine List.eq_nil_iff_forall_not_mem.2 fun j hj=>?_;obtain⟨W,o,I,h3⟩:=df.1 hj;have:j∈Region.ready .any ops lx:=by
   refine df.2 ⟨?_,o,I,fun e G N=>?_⟩
   .have Oo:j<lx.size:=by rw[s.JU,<-s.JX];exact(aZ.1 W).1
    rw[Array.getElem?_eq_getElem Oo]
    cases N:lx[j]with
    |false=>rfl
    |true=>
     have:=(s.la j).2 (.inl (by rw[Array.getElem?_eq_getElem Oo,N]));rw[W]at this;cases this
   .rcases(s.la e.on).1 (h3 e G N)with h4|⟨g,h4⟩
    .exact h4
    .exact absurd (s.Fy _ _ h4) ce
  rw[hr]at this
  cases this
 | .p i::r=>
  obtain⟨o,ho,W⟩:=eV h;rw[aX]at ho;simp only[pU,ho,aq]at hc;obtain⟨⟨⟨⟨⟨⟨c1,c2⟩,c3⟩,c4⟩,c5⟩,c6⟩,c7⟩:=hc
  cases hd:o.dst with
  |none=>rw[hd]at c3;cases c3
  |some d=>
  rw[hd]at c3;obtain⟨b,v,mk,obj,hK,-,-,-,-,-,SB⟩:=lV hτ W s.sat c1;rw[hd]at hK;obtain⟨l',hl,SI,Ph⟩:=sJ hK;have Th:∀j∈Pd,j≠i:=fun j hj=>by
   have:=List.all_eq_true.1 c5 j hj;simpa only[Bool.not_eq_true',nH]using this
  have c6':∀j∈Pd,∀oj,ops[j]? =some oj->o.apart ops oj=true/\oj.apart ops o=true:=fun j hj oj QZ=>by
   have:=List.all_eq_true.1 c6 j hj;simpa only[Fx,QZ,aq]using this
  have hlxi:lx[i]? =some false:=by
   have:lx.getD i true=false:=by simpa using c4
   rw[ah]at this
   cases E:lx[i]? with
   |none=>rw[E]at this;cases this
   |some b=>rw[E]at this;simp at this;rw[this]
  refine ih (fuel+r.length) (by simp only[bZ]at hm;omega) fuel r lx la (i::Pd) EQ l' H nx iv w O a J rfl XK c7 hl ?_;refine⟨⟨s.sat.rel,s.sat.size,s.sat.defers,fun t v hv=>s.sat.env t v (Ph t v hv).2,fun t v hv=>s.sat.sc t v (Ph t v hv).2⟩,s.JU,s.JX,s.la,fun j g V=>aD _ (s.Fy j g V),fun j hj=>?_,s.eg,s.inj,fun j hj j' WY OL oj oj' h3 h4=>?_⟩
  .rcases List.mem_cons.1 hj with rfl|hj
   .refine⟨hlxi,o,d,mk,obj,ho,c1,by simpa using c2,⟨hd,by simpa using c3⟩,SB,SI,fun g V=>absurd (s.Fy _ _ V) (fun TQ=>Th _ TQ rfl)⟩
   .obtain⟨h0,oj,dj,mkj,objj,g1,g2,g3,g4,g5,g6,g7⟩:=s.pd j hj;exact⟨h0,oj,dj,mkj,objj,g1,g2,g3,g4,g5,H9 Ph g6,g7⟩
  .rcases List.mem_cons.1 hj with e1|k1<;>rcases List.mem_cons.1 WY with e2|k2
   .exact absurd (e1.trans e2.symm) OL
   .rw[e1,ho]at h3;injection h3 with h3;subst h3;exact(c6' j' k2 oj' h4).1
   .rw[e2,ho]at h4;injection h4 with h4;subst h4;exact(c6' j k1 oj h3).2
   .exact s.ap j k1 j' k2 OL oj oj' h3 h4
 | .x i::r=>
  obtain⟨o,ho,W⟩:=eV h;unfold eh at W;rw[aX]at ho;simp only[pU,ho,aq]at hc;obtain⟨⟨⟨⟨c1,c2⟩,c3⟩,c4⟩,c5⟩:=hc;have c2:i∈Region.ready .any ops lx:=by simpa using c2
  have c1:o.guard=none\/Pd=[]:=by simpa using c1
  have RJ:∀j∈Pd,j≠i->∀oj,ops[j]? =some oj->o.apart ops oj=true:=fun j hj Ov oj QZ=>by
   have:=List.all_eq_true.1 c3 j hj;simpa only[Fx,QZ,Bool.or_eq_true,nH.2 Ov,Bool.false_eq_true,false_or]using this
  obtain⟨QI,o',SY,hwait⟩:=df.1 c2;rw[ho]at SY;injection SY with SY;subst SY;simp only[bZ]at hm;have UT:=OV i o ho;by_cases hE:∃g,(i,g)∈EQ
  ·
   obtain⟨g,V⟩:=hE;obtain⟨h0,o',d,mk',obj',g1,g2,g3,g4,g5,g6,g7⟩:=s.pd i (s.Fy i g V);rw[ho]at g1;injection g1 with g1;subst g1;rw[g3,Da g2]at W;have W:xA true P τ B o l H nx iv w fun v H' OO K J=>Br o.dst v l fun l'=>Fw P τ B ops.toList r l' H' OO K J Fn:=W;obtain⟨b,v,mk,obj,hK,TR,N,hv,WZ,Pg,SB⟩:=lV hτ W s.sat g2;obtain⟨l',hl,s'⟩:=s.MA ho V N hv WZ Pg SB hK UT RJ;exact ih (fuel+r.length) be fuel r _ _ _ _ _ _ _ _ _ _ _ _ rfl XK c5 hl s'
  .have WX:∀g,(i,g)∉EQ:=fun g V=>hE ⟨g,V⟩;have Ti:la[i]? =some false:=by
    have Oo:i<la.size:=by rw[s.JX,<-s.JU];exact(aZ.1 QI).1
    rw[Array.getElem?_eq_getElem Oo]
    cases N:la[i]with
    |false=>rfl
    |true=>
     rcases(s.la i).1 (by rw[Array.getElem?_eq_getElem Oo,N])with I|I
     .rw[QI]at I;cases I
     .exact absurd I hE
   have Se:i∈Region.ready .any ops la:=df.2 ⟨Ti,o,ho,fun e G N=>(s.la e.on).2 (.inl (hwait e G N))⟩;have US:=gS Ti;obtain⟨f,rfl⟩:∃f,fuel=f+1:=⟨fuel-1,be⟩
   cases hR:lG o.op with
   |true=>
    rw[hR]at c4;obtain⟨kL,RK,PD,UU,Pj⟩:=D8 c4 s.JU;have OQ:∀j,kL j->la.getD j false=false:=fun j hj=>by
     cases hl:la.getD j false with
     |false=>rfl
     |true=>
      have hl:la[j]? =some true:=by
       rw[ah]at hl
       cases E:la[j]? with
       |none=>rw[E]at hl;cases hl
       |some b=>rw[E]at hl;simp at hl;rw[hl]
      rcases(s.la j).1 hl with h4|⟨g,h4⟩
      .have:=PD j hj;rw[ah,h4]at this;cases this
      .exact absurd hj (UU j (s.Fy j g h4))
    have Q5:∀j oj,ops[j]? =some oj->j≠i->la.getD j true=false->¬kL j->o.apart ops oj=true/\(Ew o.op=true\/rX oj=false):=by
     intro j oj QZ Ov RP SJ;have hjl:lx.getD j true=false:=by
      rw[ah]at RP ⊢
      cases E:lx[j]? with
      |none=>
       have:la[j]? =none:=by
        rw[Array.getElem?_eq_none_iff]at E ⊢;rw[s.JX,<-s.JU];exact E
       rw[this]at RP;cases RP
      |some b=>
       cases b with
       |false=>rfl
       |true=>rw[(s.la j).2 (.inl E)]at RP;cases RP
     exact Pj j oj QZ Ov hjl SJ
    rcases xG s.sat W c1 with⟨Y,l1,I,sat1,SI⟩|⟨Y,Qo,l1,I,sat1⟩
    .obtain⟨v,hK,QF,OU⟩:=(j2 hτ I sat1 hR).resolve_right (fun hh=>by have:=hh.1;rw[sK hR]at this;cases this);obtain⟨l2,h3,sat2,Ph⟩:=lP sat1 hK UT QF;refine sf (pu:=Ew o.op) (v:=v.den O) ho Oc (fun c a w hq=>?_) kL RK f la a J OQ Q5 Se (.inl ⟨Y,fun w3 G=>OU w3 (G.imp id fun G=>sat1.rel.ext G)⟩) ?_
     .exact absurd hq.1 ce
     .refine ih (f+r.length) be f r _ _ _ _ _ _ _ _ _ _ _ _ rfl be c5 h3 (s.step Oc ho WX RJ sat2 ?_ (fun _ _ _=>Ext.refl _) (fun g _ Rc Pa _=>⟨Rc,Pa⟩));intro j hj Ov d hd OL;have SI:=SI (by intro e;rw[e]at hj;cases hj);subst SI;exact Ph d hd OL
    .obtain⟨l2,h3,sat2,Ph⟩:=lP (v:=.o (.v undef)) sat1 I UT trivial;refine sf (pu:=Ew o.op) (v:=undef) ho Oc (fun c a w hq=>?_) kL RK f la a J OQ Q5 Se (.inr ⟨Y,rfl⟩) ?_
     .exact absurd hq.1 ce
     .refine ih (f+r.length) be f r _ _ _ _ _ _ _ _ _ _ _ _ rfl be c5 h3 (s.step Oc ho WX RJ sat2 ?_ (fun _ _ _=>Ext.refl _) (fun g _ Rc Pa _=>⟨Rc,Pa⟩));intro j hj;rw[Qo]at hj;cases hj
   |false=>
    rw[hR]at c4;simp only[aq]at c4;obtain⟨c4,c6⟩:=c4;have hpick:∀j∈Region.ready .any ops la,j=i\/(j≠i/\j∈Pd):=by
     intro j hj;by_cases Ov:j=i
     .exact .inl Ov
     .refine .inr ⟨Ov,?_⟩;apply Decidable.byContradiction;intro hjP;obtain⟨k1,oj,k2,k3⟩:=df.1 hj;have:j∈Region.ready .any ops (Bk lx (Pd.filter fun j=> !Nat.beq j i)):=by
       refine df.2 ⟨?_,oj,k2,fun e G N=>?_⟩
       .have Oo:j<(Bk lx (Pd.filter fun j=> !Nat.beq j i)).size:=by rw[Bp,s.JU,<-s.JX];exact(aZ.1 k1).1
        rw[Array.getElem?_eq_getElem Oo]
        cases N:(Bk lx (Pd.filter fun j=> !Nat.beq j i))[j]with
        |false=>rfl
        |true=>
         rcases(xD _ lx j).1 (by rw[Array.getElem?_eq_getElem Oo,N])with h4|⟨h4,_⟩
         .have:=(s.la j).2 (.inl h4);rw[k1]at this;cases this
         .exact absurd (List.mem_filter.1 h4).1 hjP
       .rw[xD];rcases(s.la e.on).1 (k3 e G N)with h4|⟨g,h4⟩
        .exact .inl h4
        .refine .inr ⟨List.mem_filter.2 ⟨s.Fy _ _ h4,?_⟩,?_⟩
         .simp only[Bool.not_eq_true',nH]
          intro e2;rw[e2]at h4;exact WX g h4
         .have:=(s.pd _ (s.Fy _ _ h4)).1;exact(aZ.1 this).1
      have:=List.all_eq_true.1 c6 j this;exact Ov (eJ this)
    refine⟨fun G=>(by rw[G]at Se;cases Se),fun j hj=>?_⟩;have RP:=(df.1 hj).1;have hunj:=gS RP;rcases hpick j hj with rfl|⟨Ov,hjP⟩
    ·
     refine mP ho ?_;rcases xG s.sat W c1 with⟨Y,l1,I,sat1,SI⟩|⟨Y,Qo,l1,I,sat1⟩
     .refine .inl ⟨Y,?_⟩;have hl1':∀k∈Pd,k≠j->∀(l2:Env),(∀t,fH l1 t=none->o.dst≠some t->fH l2 t=none)->∀d,fH l d=none->o.dst≠some d->fH l2 d=none:=by
       intro k Z _ l2 Ph d hd OL;have SI:=SI (by intro e;rw[e]at Z;cases Z);subst SI;exact Ph d hd OL
      cases hA:Ae o.op with
      |true=>
       obtain⟨b,v,mk,obj,hK,TR,N,hv,WZ,Pg,SB⟩:=lV hτ I sat1 hA;have PR:Rel ((nx,b)::H) (nx+1) iv B w (gn O nx ⟨J.heap.size,0,false⟩) (J.alloc obj):=
        sat1.rel.push b _ rfl rfl rfl ce (fun k Z=>heap_alloc_old _ _ Z) (fun _=>⟨ae _,ce⟩) (Pg _ _ (heap_alloc_new _ _)) N
       obtain⟨l2,h3,sat2,Ph⟩:=lP (sat1.next PR (Nat.le_succ _) (fun id Pk=>gN id Pk)) hK UT hv;rw[WZ]at sat2;refine k9 (v:=mk J.heap.size) (F:=J.alloc obj) (SB J) ⟨fun _=>Ext.alloc _ _,?_⟩;refine ih (f+r.length) be f r _ _ _ _ _ _ _ _ _ _ _ _ rfl be c5 h3 (s.step Oc ho WX RJ sat2 (fun k Z Tf=>hl1' k Z Tf l2 Ph) (fun _ _ _=>Ext.alloc _ _) (fun g V Rc Pa _=>⟨fun id c hc U G=>?_,Pa⟩));rw[dN]at hc;split at hc
       .rename_i e;subst e;rw[ek]at G;simp only at G;omega
       .have Q1:gn O nx ⟨J.heap.size,0,false⟩ id=O id:=(gN id (s.sat.rel.keys id c hc)).symm;rw[Q1]at U G;exact Rc id c hc U G
      |false=>
       cases hH:rX o with
       |false=>
        rw[rq hH]at I;refine xF I sat1 hR hA hH fun v F hK G hs=>⟨fun _=>G,?_⟩
        obtain⟨l2,h3,sat2,Ph⟩:=lP (v:=.o (.v v)) hs hK UT trivial;refine ih (f+r.length) be f r _ _ _ _ _ _ _ _ _ _ _ _ rfl be c5 h3 (s.step Oc ho WX RJ sat2 (fun k Z Tf=>hl1' k Z Tf l2 Ph) (fun _ _ _=>G) (fun g V Rc Pa _=>⟨Rc,fun lo R hm hc=>?_⟩));rcases List.mem_cons.1 hm with hm|hm
        .injection hm with e1 e2;omega
        .exact Pa lo R hm hc
       |true=>
        have Qo:Pd=[]:=by rw[hH]at c4;simpa using c4
        subst Qo;refine lW hτ I sat1 fun v H' OO K F G9 w3 hK sat2 hv=>⟨fun hs=>(by rw[hs o ho]at hH;cases hH),?_⟩
        obtain⟨l2,h3,sat3,Ph⟩:=lP sat2 hK UT hv;exact ih (f+r.length) be f r _ _ _ _ _ _ _ _ _ _ _ _ rfl be c5 h3 (s.step Oc ho WX RJ sat3 (fun k Z=>by cases Z) (fun k Z=>by cases Z) (fun g _ _ _ Z=>by obtain⟨k,Z,_⟩:=Z;cases Z))
     .refine .inr ⟨Y,fun _=>Ext.refl _,?_⟩;subst Qo;obtain⟨l2,h3,sat2,Ph⟩:=lP (v:=.o (.v undef)) sat1 I UT trivial;exact ih (f+r.length) be f r _ _ _ _ _ _ _ _ _ _ _ _ rfl be c5 h3 (s.step Oc ho WX RJ sat2 (fun k Z=>by cases Z) (fun k Z=>by cases Z) (fun g _ _ _ Z=>by obtain⟨k,Z,_⟩:=Z;cases Z))
    ·
     refine s.early OV Oc hjP RP fun E' a2 F G s'=>⟨fun _=>G,?_⟩
     exact ih (f+(r.length+1)) be f (.x i::r) lx _ Pd E' l H nx iv w O a2 F rfl be (by simp only[pU,ho,aq];exact⟨⟨⟨⟨by simpa using c1,by simpa using c2⟩,c3⟩,by rw[hR];simp only[aq];exact⟨c4,c6⟩⟩,c5⟩) h s'
theorem Bu(hτ:en P τ)(hm:P.follows .mixedOrders=true){Fn:KT}(π:List It)(hs:Region.noSelect ops=true)(hc:Bo ops ops.size π 0 []=true)
  (h:Fw P τ B ops.toList π l H nx iv w Fn):nu P B ops l H nx iv w Fn:=by
 rw[Af π (Array.replicate ops.size false) 0 [] ce (fun j=>by rw[nq,ah,Array.getElem?_replicate];split<;>rfl)]at hc;refine⟨fun n O a J OV sat Q hQ id=>?_⟩;refine wp_mono (Q':=Q) (c:=.region id ops true) (wp_region_any (Q:=QN (Q .normal)) hm (xH _ _ _ _ ?_)) (fun e a w hq=>by obtain⟨rfl,hq⟩:=hq;exact hq);refine Ha hτ (fun j o ho d hd=>?_) (Region.noSelect_spec hs) hQ _ _ π _ _ [] [] l H nx iv w O a _ rfl ?_ hc h ?_
 .have:=List.all_eq_true.1 OV o (aG (by rw[aX];exact ho));rw[hd]at this;have h5:d+1<=n:=by simpa [Nat.blt]using this
  exact h5
 .unfold JW;refine aP List.countP_le_length ?_;simp
 .refine⟨⟨sat.rel.drew,sat.size,sat.defers,sat.env,sat.sc⟩,ce,ce,fun j=>ce,fun j g h=>(by cases h),fun j h=>(by cases h),fun j g h=>(by cases h),fun j g j' h=>(by cases h),fun j h=>(by cases h)⟩
end
def wN:List (Nat×TI)->Nat->Option TI
 |[],_=>none
 |(t,v)::r,u=>match Nat.beq t u with
  |true=>some v
  |false=>wN r u
def Mz:Value->Value->Bool
 | .bool a,.bool b=>a==b
 | .int k n,.int j m=>pW k j&&decide (n=m)
 | .string a,.string b=>a.data.toList.isEmpty&&b.data.toList.isEmpty
 | .pointer none,.pointer none=>true
 | .slice none a b,.slice none c d=>Nat.beq a c&&Nat.beq b d
 | .map none,.map none=>true
 | .nilFunc,.nilFunc=>true
 | .nilIface,.nilIface=>true
 |_,_=>false
theorem za{a b:IntKind}(h:pW a b=true):a=b:=by cases a<;>cases b<;>first|rfl|cases h
theorem Ko{a b:Value}(h:Mz a b=true):a=b/\a.oneCell'=true:=by
 unfold Mz at h;split at h
 .exact⟨by rw[eq_of_beq h],rfl⟩
 .simp only[aq,decide_eq_true_eq]at h;exact⟨by rw[za h.1,h.2],rfl⟩
 .rename_i a b;simp only[aq,List.isEmpty_iff]at h;refine⟨?_,rfl⟩;have ha:a=⟨#[]⟩:=by
   obtain⟨⟨l⟩⟩:=a;simp only at h;rw[h.1]
  have N:b=⟨#[]⟩:=by
   obtain⟨⟨l⟩⟩:=b;simp only at h;rw[h.2]
  rw[ha,N]
 .exact⟨rfl,rfl⟩
 .simp only[aq]at h;exact⟨by rw[eJ h.1,eJ h.2],rfl⟩
 .exact⟨rfl,rfl⟩
 .exact⟨rfl,rfl⟩
 .exact⟨rfl,rfl⟩
 .cases h
def JY:List Value->List Value->Bool
 |[],[]=>true
 |a::r,b::s=>Mz a b&&JY r s
 |_,_=>false
theorem FA:∀{a b:List Value},JY a b=true->a=b/\∀x∈b,x.oneCell'=true
 |[],[],_=>⟨rfl,ce⟩
 |a::r,b::s,h=>by
  simp only[JY,aq]at h;obtain⟨W,I⟩:=Ko h.1;obtain⟨h3,h4⟩:=FA h.2;refine⟨by rw[W,h3],fun x E=>?_⟩;rcases List.mem_cons.1 E with rfl|E
  .rw[<-W];exact I
  .exact h4 x E
 |[],_::_,h=>by cases h
 |_::_,[],h=>by cases h
def wO(P:Program):List Field->List (Nat×Nat)->Bool
 |[],[]=>true
 |f::r,(o,t)::s=>Nat.beq f.offset o&&Nat.beq f.type t&&(P.info? f.type).isSome&&wO P r s
 |_,_=>false
theorem xI{P:Program}:∀{a:List Field} {b:List (Nat×Nat)},wO P a b=true->a.map (fun f=>(f.offset,f.type))=b/\∀f∈a,(P.info? f.type).isSome=true
 |[],[],_=>⟨rfl,ce⟩
 |f::r,(o,t)::s,h=>by
  simp only[wO,aq]at h;obtain⟨h3,h4⟩:=xI h.2;refine⟨by rw[List.map_cons,h3,eJ h.1.1.1,eJ h.1.1.2],fun x E=>?_⟩;rcases List.mem_cons.1 E with rfl|E
  .exact h.1.2
  .exact h4 x E
 |[],_::_,h=>by cases h
 |_::_,[],h=>by cases h
def isAgg:TypeDesc->Bool
 | .struct _=>true
 | .array _ _=>true
 |_=>false
def MB(a b:Bool):Bool:=match a with
 |true=>b
 |false=> !b
theorem JZ{a b:Bool}(h:MB a b=true):a=b:=by cases a<;>cases b<;>first|rfl|cases h
def tokB(P:Program)(t:Nat)(i:TI):Bool:=
 (match P.info? t with
  |some inf=>Nat.beq inf.size i.size&&Nat.beq inf.bytes i.bytes&&(match inf.zero with
   |some z=>JY z.cells.toList i.zero
   |none=>false)
  |none=>false)&&Nat.beq i.zero.length i.size&&
 (match P.underlying t with
  |some d=>MB (isAgg d) i.agg&&(match i.tag with
   |1=>(match d with
    | .int k=>pW k i.ik
    |_=>false)
   |2=>(match d with
    | .bool=>true
    |_=>false)
   |3=>(match d with
    | .string=>true
    |_=>false)
   |4=>(match d with
    | .slice e=>Nat.beq e i.elem
    |_=>false)
   |5=>(match d with
    | .struct fs=>wO P fs.toList i.fields
    |_=>false)
   |6=>(match d with
    | .array n e=>Nat.beq n i.zE&&Nat.beq e i.elem
    |_=>false)
   |_=>true)
  |none=>false)
theorem tok_of{t:Nat}{i:TI}(h:tokB P t i=true):Db P t i:=by
 simp only[tokB,aq]at h;obtain⟨⟨W,I⟩,h3⟩:=h
 cases R:P.info? t with
 |none=>rw[R]at W;cases W
 |some inf=>
 rw[R]at W;simp only[aq]at W;obtain⟨⟨h4,h5⟩,h6⟩:=W
 cases hz:inf.zero with
 |none=>rw[hz]at h6;cases h6
 |some z=>
 rw[hz]at h6;obtain⟨h7,h8⟩:=FA h6
 cases hu:P.underlying t with
 |none=>rw[hu]at h3;cases h3
 |some d=>
 rw[hu]at h3;simp only[aq]at h3;obtain⟨h9,h10⟩:=h3;refine⟨⟨inf,z,R,eJ h4,eJ h5,hz,h7⟩,eJ I,h8,⟨d,hu,?_⟩,fun e=>?_,fun e=>?_,fun e=>?_,fun e=>?_,fun e=>?_,fun e=>?_⟩
 .rw[<-JZ h9]
  cases d<;>rfl
 all_goals rw[e]at h10
 .cases d with
  |int k=>simp only at h10;rw[<-za h10];exact hu
  |_=>cases h10
 .cases d with
  |bool=>exact hu
  |_=>cases h10
 .cases d with
  |string=>exact hu
  |_=>cases h10
 .cases d with
  |slice e=>simp only at h10;rw[<-eJ h10];exact hu
  |_=>cases h10
 .cases d with
  |struct fs=>simp only at h10;exact⟨fs,hu,xI h10⟩
  |_=>cases h10
 .cases d with
  |array n e=>simp only[aq]at h10;rw[<-eJ h10.1,<-eJ h10.2];exact hu
  |_=>cases h10
theorem Kp(h:l.all (fun p=>tokB P p.1 p.2)=true):en P (wN l):=by
 intro t i R;have:(t,i)∈l:=by
  clear h
  induction l with
  |nil=>cases R
  |cons p r ih=>
   obtain⟨t0,i0⟩:=p;unfold wN at R;split at R
   .rename_i N;injection R with R;subst R;rw[eJ N];exact aF ..
   .exact aD _ (ih R)
 exact tok_of (List.all_eq_true.1 h _ this)
theorem Fz{fn:Func}{c:Code}(hf:P.funcs[g]? =some fn)(N:fn.body=some c)(U:(fn.name== "runtime.NumGoroutine")=false):Hb P g:=
 ⟨fun args w=>by simp only[beq_eq_false_iff_ne]at U;simp[callFunc,hf,N,U]⟩
theorem eD.mono{args:Array Value}{w:World}(h:eD P g args w FS)(k:∀e F,FS e F->R' e F):eD P g args w R':=
 ⟨h.e,Calls.mono h.c k⟩
abbrev Bel(B:Nat)(w F:World):Prop:=RowKit.Below B w F
theorem Bel.refl{w:World}:Bel B w w:=RowKit.Below.refl _ _
theorem Rel.cV{H:Hp}{nx:Nat}{iv:Iv}{w J:World}(r:Rel H nx iv B w O J):Bel B w J:=
 ⟨r.os,r.tape,r.output,r.size,fun k Z=>r.Ad k (by have:=r.base;omega) (fun id b h U G=>by have:=(r.low id b h U).1;omega)⟩
theorem Bel.tr{a b c:World}(h:Bel B a b)(k:Bel B b c):Bel B a c:=RowKit.Below.trans h k
theorem Ext.cV{a b:World}(h:Ext a b)(hB:B<=a.heap.size):Bel B a b:=RowKit.Below.mono h hB
end Go.Sx
namespace Go.RowKit
open Go Go.Sx
theorem Below.cV{B:Nat}{a b:World}(h:RowKit.Below a.heap.size a b)(hB:B<=a.heap.size):RowKit.Below B a b:=RowKit.Below.mono h hB
end Go.RowKit
namespace Go.Sx
open Go
section
variable{args:(Nat->dc)->Array Value}{I9:(Nat->dc)->World->Value->World->Prop}{H:Hp}{Fn:Int->Prop}{iv:Iv}{B i n nx:Nat}{O:Nat->dc}{P:Program}
theorem cg{w F:World}{a:Addr}(h:F.heap[a.block]? =w.heap[a.block]?):F.cell? a=w.cell? a:=by
 unfold World.cell?;rw[h]
theorem Bel.cell{w F:World}(h:Bel B w F){a:Addr}(ha:a.block<B):F.cell? a=w.cell? a:=cg (h.block _ ha)
def Dd(l:Env):Env->Prop
 |[]=>True
 |(u,v)::r=>fH l u=some v/\Dd l r
theorem Dd.get{l:Env}:∀{t:Env},Dd l t->∀u v,fH t u=some v->fH l u=some v
 |[],_,u,v,h=>by cases h
 |(u0,v0)::r,h,u,v,V=>by
  rw[eU]at V;split at V
  .rename_i e;subst e;injection V with V;subst V;exact h.1
  .exact Dd.get h.2 u v V
def ka(n:Nat):Env->Prop
 |[]=>True
 |(_,v)::r=>v.sc n/\ka n r
theorem ka.get{n:Nat}:∀{t:Env},ka n t->∀u v,fH t u=some v->v.sc n
 |[],_,u,v,h=>by cases h
 |(u0,v0)::r,h,u,v,V=>by
  rw[eU]at V;split at V
  .injection V with V;subst V;exact h.1
  .exact ka.get h.2 u v V
theorem Rel.NA{w J:World}(r:Rel H nx iv B w O J):Rel H nx [] B w O J:=
 Rel.mk' r.os r.tape r.output r.size r.base ce r.keys (fun id b h=>r.fits h) (fun id b h=>r.scopd h) r.inj r.low r.Ad ce
theorem Sub.reset{l tl:Env}{w J:World}(r:Rel H nx iv B w O J)(W:Dd l tl)(I:ka nx tl):Sub B l nx O J ⟨tl,H,nx,[],J⟩:=
 ⟨O,r.here.NA,fun u v hv=>⟨I.get u v hv,v,W.get u v hv,rfl⟩⟩
def eL(w:World)(I9:Value->World->Prop)(e:Ending)(F:World):Prop:=∃v,e= .returned v/\Ext w F/\I9 v F
theorem cN{g:Nat}{w:World}{Fn:SV->Hp->Iv->World->Prop}
  (h:∀O J,Rel H nx iv B w O J->eD P g (args O) J (eL J (I9 O J))) (hK:∀O J v F,Rel H nx iv B w O J->Ext J F->Bel B w F->I9 O J v F->Fn (.o (.v v)) H ((J.heap.size,F.heap.size)::iv) F):Bt P B g args H nx iv w Fn:=
 ⟨fun O J r=>(h O J r).mono fun e F ⟨v,W,I,h3⟩=>⟨v,W,I,hK O J v F r I (r.cV.tr (I.cV (by have:=r.base;have:=r.size;omega))) h3⟩⟩
theorem cE{g:Nat}{w w0:World}{Fn:SV->Hp->Iv->World->Prop}(Y:Bel B w0 w)(I9:(Nat->dc)->World->Value->World->Prop)
  (h:∀O J,Rel H nx iv B w O J->eD P g (args O) J (eL J (I9 O J))) (hK:∀O J v F K,Rel H nx iv B w O J->Ext J F->Bel B w0 F->K=(J.heap.size,F.heap.size)::iv->I9 O J v F->Fn (.o (.v v)) H K F):Bt P B g args H nx iv w Fn:=
 cN h fun O J v F r W I h3=>hK O J v F _ r W (Y.tr I) rfl h3
theorem mC{a:Nat×Nat}{K:Iv}(h:K=a::iv):∀p,p∈iv->p∈K:=h▸fun _ h=>aD _ h
theorem mN{a:Nat×Nat}{K:Iv}(h:K=a::iv):a∈K:=h▸aF
theorem wrap64{n:Int}(W: -9223372036854775808<=n)(I:n<=9223372036854775807):IntKind.wrap .i64 n=n:=by
 have e1:(2:Int)^64=18446744073709551616:=by decide
 have e2:(2:Int)^(64-1)=9223372036854775808:=by decide
 simp only[IntKind.wrap,IntKind.bits,IntKind.signed,e1,e2]
 by_cases h:n % 18446744073709551616≥9223372036854775808
 .rw[aM (by simp[h])];omega
 .rw[aK (by simp[h])];omega
theorem wo{n r:Int}(h:(-9223372036854775808<=n/\n<=9223372036854775807)/\n=r:=by omega):IntKind.wrap .i64 n=r:=by rw[wrap64 h.1.1 h.1.2];exact h.2
theorem inc(i:Nat)(h:Fn ((i+1:Nat):Int))(N:i<9223372036854775807:=by omega):∃r,IntKind.wrap .i64 ((i:Int)+1)=r/\Fn r:=⟨_,by rw[wrap64]<;>omega,h⟩
theorem dL(h:decide ((i:Int)<(n:Int))=true):i<n:=by have:=aI h;omega
theorem dE(R:i<=n)(h:decide ((i:Int)<(n:Int))=false):i=n:=by have:=aL h;omega
theorem gO{α:Type}(l:List α)(i:Nat)(h:i<l.length:=by omega):∃x,l[i]? =some x:=⟨_,aE h⟩
theorem exq{α:Type}(a:α):∃x,a=x:=⟨_,rfl⟩
theorem lr:n<=n:=ae n
theorem dec(h:i<n):n-(i+1)<n-i:=by omega
theorem l1{α:Type}{l:List α}{x:α}:(l++[x]).length=l.length+1:=by rw[aU];rfl
theorem mx(h:n<=9223372036854775807:=by omega):n<=maxLen:=h
theorem wP{n:Int}(W:0<=n)(I:n<18446744073709551616):IntKind.wrap .u64 n=n:=by
 have e1:(2:Int)^64=18446744073709551616:=by decide
 simp only[IntKind.wrap,IntKind.bits,IntKind.signed,e1,Bool.false_and,Bool.false_eq_true,if_false]
 omega
theorem iM{n:Int}(W:0<=n)(I:n<4294967296):IntKind.wrap .u32 n=n:=by
 have e1:(2:Int)^32=4294967296:=by decide
 simp only[IntKind.wrap,IntKind.bits,IntKind.signed,e1,Bool.false_and,Bool.false_eq_true,if_false]
 omega
end
variable{args:(Nat->dc)->Array Value}{I9:(Nat->dc)->World->Value->World->Prop}{next:Act->World->Prop}{after:Array Edge}{ag ag':Bool}{Q:Exit->Act->World->Prop}{ik ik':IntKind}{Fn:KT}{fs fs':List (Nat×Nat)}{bs:List Nat}{cs xs ze ze':List Value}{B Bc al al' bt by_ c e e' g n sz sz0 t tag' ty:Nat}{O:Nat->dc}{y:Operand}{guard:Option (Nat×Bool)}{row:Option Nat}{dst:Option Tmp}{pos:String}{z:Value}
section
variable{P:Program}{τ:lO}{B nx:Nat}{l:Env}{H:Hp}{iv:Iv}{w J F:World}{O:Nat->dc}
theorem Rel.zb{iv2:Iv}(r:Rel H nx iv B w O J)(Od:J.heap.size<=F.heap.size)(OM:∀id b,dF H id=some b->(O id).nil=false->F.heap[(O id).g]? =J.heap[(O id).g]?)
  (Us:∀lo R,(lo,R)∈iv2->R<=F.heap.size/\∀id b,dF H id=some b->(O id).nil=false->¬(lo<=(O id).g/\(O id).g<R)):Rel H nx iv2 B F O F:=
 Rel.mk' rfl rfl rfl (ae _) (by have:=r.base;have:=r.size;omega) (fun lo R h=>(Us lo R h).1) r.keys
  (fun id b h=>jL.gV (r.fits h) (fun _ _=>rfl) (r.scopd h) (fun U _=>OM id b h U)) (fun id b h=>r.scopd h) r.inj
  (fun id b h U=>by have:=r.low id b h U;omega) (fun _ _ _=>rfl) (fun lo R h=>(Us lo R h).2)
theorem gp(hτ:en P τ)(hBc:Bc<=B){x:Operand}{k m:Nat}
  {v:Value} {vy:SV} {news:List Value} {Fn:SV->Hp->Nat->Iv->World->Prop}
  (ht:τ t=some ⟨sz0,ag,bt,ze,4,ik,e,al,fs⟩) (PI:τ e=some ⟨sz,ag',by_,ze',tag',ik',e',al',fs'⟩) (PW:0<sz) (E:ev l x=some (.o (.v v))) (hy:ev l y=some vy)
  (QD:∀O J,Rel H nx iv B w O J->J.ownsRow Bc e sz v m xs/\∀g,v.ownBlock=some g->∀id b,dF H id=some b->(O id).nil=false->(O id).g≠g)
  (SK:news.length=k*sz) (Ss:∀u∈news,u.oneCell'=true) (TS:m+k<=maxLen) (N:(m+k)*by_<=140737488355328)
  (src:∀O J,Rel H nx iv B w O J->(∃c,vy.den O= .slice none 0 c/\k=0)\/∃ad c,vy.den O= .slice (some ad) k c/\∀(j:Nat) u,news[j]? =some u->J.cell? (ad.add j)=some u)
  (iv2:Value->World->Iv)
  (Us:∀O J v' F,Rel H nx iv B w O J->J.heap.size<=F.heap.size->(∀g,v'.ownBlock=some g->g<F.heap.size/\(v.ownBlock=some g\/g=J.heap.size))->∀lo R,(lo,R)∈iv2 v' F->R<=F.heap.size/\∀id b,dF H id=some b->(O id).nil=false->¬(lo<=(O id).g/\(O id).g<R))
  (hK:∀O J v' F,Rel H nx iv B w O J->F.ownsRow Bc e sz v' (m+k) (xs++news)->J.grownBy F v.ownBlock->(v'.ownBlock=v.ownBlock\/v'.ownBlock=some J.heap.size)->Fn (.o (.v v')) H nx (iv2 v' F) F):
  xJ P B ⟨dst,.call ⟨.builtin .append,⟨[x,y]⟩,⟨[t,t]⟩⟩,ty,pos,after,guard⟩ l H nx iv w Fn:=by
 refine⟨fun O J ev' r RX=>?_⟩;have hto:=hτ t _ ht;have hu:=hto.i4 rfl;simp only at hu;have Qh:=hτ e _ PI;obtain⟨inf,z,R,Od,Om,hz,Q6⟩:=Qh.info;have RC:=Qh.Bw;simp only at Od Om Q6 RC;have Ut:z.cells.size=sz:=by rw[<-RC,<-Q6];simp
 obtain⟨OI,OL⟩:=QD O J r;have key:∃v' F,(Builtin.append_ #[t,t] ty #[v,vy.den O]).run P J= .ok v' F/\F.ownsRow Bc e sz v' (m+k) (xs++news)/\J.grownBy F v.ownBlock/\(v'.ownBlock=v.ownBlock\/v'.ownBlock=some J.heap.size):=by
  rcases src O J r with⟨c,hv,rfl⟩|⟨ad,c,hv,Oy⟩
  .have:news=[]:=List.eq_nil_of_length_eq_zero (by simpa using SK);subst this;rw[hv];exact⟨v,J,lX J Bc t ty e inf sz hu R v m xs OI c,by simpa using OI,⟨rfl,rfl,rfl,ae _,fun _ _ _=>rfl⟩,.inl rfl⟩
  .rw[hv];obtain⟨v',F,W,I,h3,_,h5⟩:=run_append_own_at (P:=P) J Bc t ty e inf z sz by_ hu R hz Od Om Ut PW v m xs OI ad k c news SK Oy Ss TS N (by have:=r.base;have:=r.size;omega);exact⟨v',F,W,I,h3,h5⟩
 obtain⟨v',F,W,I,h3,h4⟩:=key;have e1:=RX x _ E;have e2:=RX y _ hy;have Qu:∀g,v'.ownBlock=some g->g<F.heap.size/\(v.ownBlock=some g\/g=J.heap.size):=fun g V=>by
  refine⟨?_,?_⟩
  .rcases I.2 with⟨rfl,_⟩|⟨g',cap,cur,rfl,_,hc,_⟩
   .cases V
   .simp only[Value.ownBlock,Option.some.injEq]at V;subst V;exact(aZ.1 hc).1
  .rcases h4 with h4|h4
   .exact .inl (h4▸V)
   .rw[h4]at V;injection V with V;exact .inr V.symm
 refine⟨v',F,iv2 v' F,.inl ?_,r.zb h3.size (fun id b h U=>h3.block _ (r.low id b h U).2 (fun e=>OL _ e.symm id b h U rfl)) (Us O J v' F r h3.size Qu),hK O J v' F r I h3 h4⟩;have e1:ev' x=v:=e1;generalize vy.den O=yy at*
 simp[execOp,resolve,invoke,builtin,e1,e2,W]
theorem Bel.grown{B0:Nat}(h:J.grownBy F row)(hr:∀g,row=some g->B0<=g)(hB:B0<=J.heap.size):Bel B0 J F:=
 ⟨h.os,h.tape,h.output,h.size,fun k Z=>h.block k be (fun e=>by have:=hr k e.symm;omega)⟩
theorem ownsRow.low{m:Nat}{v:Value}(h:w.ownsRow B e sz v m xs):∀g,v.ownBlock=some g->B<=g/\g<w.heap.size:=by
 intro g V;rcases h.2 with⟨rfl,_⟩|⟨g',cap,cur,rfl,N,hc,_⟩
 .cases V
 .simp only[Value.ownBlock,Option.some.injEq]at V;subst V;exact⟨N,(aZ.1 hc).1⟩
theorem ownsRow.cP{m:Nat}{v:Value}(h:w.ownsRow B e sz v m xs)(Z:∀g,v.ownBlock=some g->F.heap[g]? =w.heap[g]?):F.ownsRow B e sz v m xs:=by
 refine⟨h.1,?_⟩;rcases h.2 with W|⟨g',cap,cur,rfl,N,hc,I⟩
 .exact .inl W
 .exact .inr ⟨g',cap,cur,rfl,N,by rw[Z g' rfl];exact hc,I⟩
end
def At.Bi(f:Nat->Nat):At->At
 | .v x=>.v x
 | .p id off=>.p (f id) off
 | .s id off len cap=>.s (f id) off len cap
 | .w id len=>.w (f id) len
 | .fn g caps=>.fn g (caps.map f)
def SV.Bi(f:Nat->Nat):SV->SV
 | .o x=>.o (x.Bi f)
 | .a cs=>.a (cs.map (At.Bi f))
def jL.Bi(f:Nat->Nat):jL->jL
 | .box t cs=>.box t (cs.map (At.Bi f))
 | .arr t cs=>.arr t cs
 | .vec t size cs=>.vec t size cs
 | .dead=>.dead
theorem At.sh(f:Nat->Nat)(O:Nat->dc)(x:At):(x.Bi f).den O=x.den (fun i=>O (f i)):=by
 cases x<;>simp[At.Bi,At.den]
theorem SV.sh(f:Nat->Nat)(O:Nat->dc)(x:SV):(x.Bi f).den O=x.den (fun i=>O (f i)):=by
 cases x with
 |o x=>exact At.sh f O x
 |a cs=>
  have:At.den O ∘ At.Bi f=At.den (fun i=>O (f i)):=funext fun x=>At.sh f O x;simp[SV.Bi,SV.den,this]
def si:List (Nat×Nat)->Nat->Nat
 |[],n=>n
 |(a,b)::r,n=>match Nat.beq a n with
  |true=>b
  |false=>si r n
def xK(f:Nat->Nat)(l:Env):Env->Prop
 |[]=>True
 |(u,v)::r=>fH l u=some (v.Bi f)/\xK f l r
def xL(f:Nat->Nat)(H:Hp):Hp->Prop
 |[]=>True
 |(u,b)::r=>dF H (f u)=some (b.Bi f)/\xL f H r
def zc(n:Nat):Hp->Prop
 |[]=>True
 |(u,b)::r=>(u<n/\b.scopd n)/\zc n r
def GA(f:Nat->Nat):Hp->Bool
 |[]=>true
 |(u,_)::r=>r.all (fun p=>Nat.beq p.1 u|| !Nat.beq (f p.1) (f u))&&GA f r
theorem xK.get{f:Nat->Nat}{l:Env}:∀{t:Env},xK f l t->∀u v,fH t u=some v->fH l u=some (v.Bi f)
 |[],_,u,v,h=>by cases h
 |(u0,v0)::r,h,u,v,V=>by
  rw[eU]at V;split at V
  .rename_i e;subst e;injection V with V;subst V;exact h.1
  .exact xK.get h.2 u v V
theorem xL.get{f:Nat->Nat}{l:Hp}:∀{t:Hp},xL f l t->∀u v,dF t u=some v->dF l (f u)=some (v.Bi f)
 |[],_,u,v,h=>by cases h
 |(u0,v0)::r,h,u,v,V=>by
  rw[dN]at V;split at V
  .rename_i e;subst e;injection V with V;subst V;exact h.1
  .exact xL.get h.2 u v V
theorem zc.get{n:Nat}:∀{t:Hp},zc n t->∀u b,dF t u=some b->u<n/\b.scopd n
 |[],_,u,v,h=>by cases h
 |(u0,v0)::r,h,u,v,V=>by
  rw[dN]at V;split at V
  .rename_i e;subst e;injection V with V;subst V;exact h.1
  .exact zc.get h.2 u v V
theorem Bx:∀{t:Hp} {u:Nat} {b:jL},dF t u=some b->∃p∈t,p.1=u
 |[],u,b,h=>by cases h
 |(u0,v0)::r,u,b,h=>by
  rw[dN]at h;split at h
  .rename_i e;exact⟨_,aF ..,e⟩
  .obtain⟨p,W,I⟩:=Bx h;exact⟨p,aD _ W,I⟩
theorem zd{f:Nat->Nat}:∀{t:Hp},GA f t=true->∀u v b c,dF t u=some b->dF t v=some c->f u=f v->u=v
 |[],_,u,v,b,c,h,_,_=>by cases h
 |(u0,v0)::r,R,u,v,b,c,hu,hv,G=>by
  simp only[GA,aq]at R;have key:∀{w:Nat} {d:jL},dF r w=some d->f w=f u0->w=u0:=fun{w d} Y hf=>by
   obtain⟨p,hp,rfl⟩:=Bx Y;have:=List.all_eq_true.1 R.1 p hp;simp only[Bool.or_eq_true,Bool.not_eq_true']at this;rcases this with h|h
   .exact eJ h
   .rw[hf,Nat.beq_refl]at h;cases h
  rw[dN]at hu hv;split at hu<;>split at hv
  .rename_i x y;rw[<-x,<-y]
  .rename_i x y;subst x;exact(key hv G.symm).symm
  .rename_i x y;subst y;exact key hu G
  .exact zd R.2 u v b c hu hv G
theorem Sub.gen{l tl:Env}{nx OO:Nat}{H tH:Hp}{iv K:Iv}{w J:World}(m:List (Nat×Nat))(r:Rel H nx iv B w O J)
  (hH:xL (si m) H tH) (hE:xK (si m) l tl) (hsH:zc OO tH) (hsE:ka OO tl) (R:GA (si m) tH=true) (Us:∀lo R,(lo,R)∈K->(lo,R)∈iv):Sub B l nx O J ⟨tl,tH,OO,K,J⟩:=by
 refine⟨fun i=>O (si m i),(?_:Rel tH OO K B J (fun i=>O (si m i)) J),fun u v hv=>⟨hsE.get u v hv,_,hE.get u v hv,SV.sh _ _ _⟩⟩;refine Rel.mk' rfl rfl rfl (ae _) (by have:=r.base;have:=r.size;omega) (fun lo R h=>by have:=r.nG lo R (Us lo R h);have:=r.size;omega) (fun id b h=>(hsH.get id b h).1) ?_ (fun id b h=>(hsH.get id b h).2) ?_ ?_ (fun _ _ _=>rfl) ?_
 .intro id b h;have W:=r.fits (hH.get id b h);have hr:At.den O ∘ At.Bi (si m)=At.den (fun i=>O (si m i)):=funext fun x=>At.sh _ O x
  cases b with
  |box t cs=>simpa [jL.Bi,jL.fits,hr]using W
  |arr t cs=>exact W
  |vec t size cs=>exact W
  |dead=>trivial
 .intro id id' b b' h h' hd XJ U hn' G;refine zd R id id' b b' h h' (r.inj _ _ _ _ (hH.get id b h) (hH.get id' b' h') ?_ ?_ U hn' G)
  .cases b<;>first|(exact absurd rfl hd)|simp[jL.Bi]
  .cases b'<;>first|(exact absurd rfl XJ)|simp[jL.Bi]
 .intro id b h U;exact r.low _ _ (hH.get id b h) U
 .intro lo QL h id b N U;exact r.ix lo QL (Us lo QL h) _ _ (hH.get id b N) U
theorem sbgn{l tl:Env}{nx OO:Nat}{H tH:Hp}{iv K:Iv}{w J:World}(m:List (Nat×Nat))(r:Rel H nx iv B w O J)
  (hH:xL (si m) H tH:=by repeat' first|exact trivial|refine⟨rfl,?_⟩) (hE:xK (si m) l tl:=by repeat' first|exact trivial|refine⟨rfl,?_⟩) (hsH:zc OO tH:=by simp[zc,jL.scopd,At.sc]) (hsE:ka OO tl:=by simp[ka,SV.sc,At.sc,gW]) (R:GA (si m) tH=true:=by rfl) (Us:∀lo R,(lo,R)∈K->(lo,R)∈iv:=by first|exact fun _ _ h=>h|simp):Sub B l nx O J ⟨tl,tH,OO,K,J⟩:=Sub.gen m r hH hE hsH hsE R Us
def Ag(H:Hp):Hp->Prop
 |[]=>True
 |(u,b)::r=>dF H u=some b/\Ag H r
def H0(id:Nat):Hp->Bool
 |[]=>true
 |(_,.dead)::_=>false
 |(u,_)::r=> !Nat.beq u id&&H0 id r
theorem Ag.get{H:Hp}:∀{t:Hp},Ag H t->∀{u b},dF t u=some b->dF H u=some b
 |[],_,u,b,h=>by cases h
 |(v,c)::r,hs,u,b,h=>by
  unfold dF at h;split at h
  .rename_i e;injection h with h;subst h;have:=bJ e;subst this;exact hs.1
  .exact Ag.get hs.2 h
theorem H0.get{id:Nat}:∀{t:Hp},H0 id t=true->∀{u b},dF t u=some b->u≠id/\b≠ .dead
 |[],_,u,b,h=>by cases h
 |(v,c)::r,hs,u,b,h=>by
  unfold dF at h;split at h
  .rename_i e;injection h with h;subst h;have:=bJ e;subst this;have hv:v.beq id=false->v≠id:=fun h e=>by rw[e,Nat.beq_refl]at h;cases h
   cases c<;>simp_all [H0]
  .refine H0.get (t:=r) ?_ h
   cases c<;>simp_all [H0]
section
variable{P:Program}{B nx:Nat}{H H':Hp}{iv:Iv}{w J F:World}{O:Nat->dc}
theorem Rel.free{id:Nat}{b:jL}(r:Rel H nx iv B w O J)(Pk:dF H id=some b)(hd:b≠ .dead)(U:(O id).nil=false)(hs:Ag H H')(ho:H0 id H'=true):Rel H' nx (((O id).g,(O id).g+1)::iv) B J O J:=by
 have W:Rel H' nx iv B J O J:=Rel.mk' rfl rfl rfl (ae _) (by have:=r.base;have:=r.size;omega) (fun lo R hm=>by have:=r.nG lo R hm;have:=r.size;omega) (fun j c h=>r.keys j c (hs.get h))
  (fun j c h=>r.fits (hs.get h)) (fun j c h=>r.scopd (hs.get h)) (fun j k c e h h'=>r.inj j k c e (hs.get h) (hs.get h')) (fun j c h=>r.low j c (hs.get h)) (fun _ _ _=>rfl) (fun lo R hm j c h=>r.ix lo R hm j c (hs.get h))
 refine W.more (by have:=(r.low id b Pk U).2;omega) fun j c hj hnj G=>?_;obtain⟨I,h3⟩:=H0.get ho hj;exact I (r.inj j id c b (hs.get hj) Pk h3 hd hnj U be)
theorem fg{Fn:SV->Hp->Iv->World->Prop}(id:Nat){b:jL}(Pk:dF H id=some b)(hd:b≠ .dead)(hs:Ag H H')(ho:H0 id H'=true)
  (U:∀O J,Rel H nx iv B w O J->(O id).nil=false)
  (hc:∀O J,Rel H nx iv B w O J->eD P g (args O) J (eL J (I9 O J)))
  (h:∀O J v F,Rel H nx iv B w O J->Ext J F->Bel B w F->I9 O J v F->Fn (.o (.v v)) H' (((O id).g,(O id).g+1)::(J.heap.size,F.heap.size)::iv) F):By P B g args H nx iv w Fn:=
 ⟨fun O J r=>⟨(hc O J r).e,Calls.mono (hc O J r).c fun e F G=>by
  obtain⟨v,W,I,h3⟩:=G;have r2:Rel H nx ((J.heap.size,F.heap.size)::iv) B F O F:=(r.ext I).here.more (ae _) (fun j c hj U=>by have:=(r.low j c hj U).2;omega)
  exact⟨v,H',_,W,r2.free Pk hd (U O J r) hs ho,h O J v F r I (r.cV.tr (I.cV (by have:=r.base;have:=r.size;omega))) h3⟩⟩⟩
end
inductive Tr where
 |nil
 |one (i:Nat) (t:Tr)
 |two (i:Nat) (t:Tr) (j:Nat) (u:Tr)
def Tr.depth:Tr->Nat
 | .nil=>0
 | .one _ t=>t.depth+1
 | .two _ t _ u=>max t.depth u.depth+1
def ui(ops:Array Oper):Tr->Array Bool->Bool
 | .nil,la=>(Region.ready .any ops la).isEmpty
 | .one i t,la=>match Region.ready .any ops la with
  |[x]=>Nat.beq x i&&ui ops t (la.setIfInBounds i true)
  |_=>false
 | .two i t j u,la=>match Region.ready .any ops la with
  |[x,y]=>Nat.beq x i&&(Nat.beq y j&&(ui ops t (la.setIfInBounds i true)&&ui ops u (la.setIfInBounds j true)))
  |_=>false
def Hc(P:Program)(τ:lO)(B:Nat)(all:List Oper):Tr->Env->Hp->Nat->Iv->World->KT->Prop
 | .nil,l,H,nx,iv,w,Fn=>Fn l H nx iv w
 | .one i t,l,H,nx,iv,w,Fn=>mL all i (fun o=>eh false P τ B all o l H nx iv w (fun l' H' OO K J=>Hc P τ B all t l' H' OO K J Fn))
 | .two i t j u,l,H,nx,iv,w,Fn=>mL all i (fun o=>eh false P τ B all o l H nx iv w (fun l' H' OO K J=>Hc P τ B all t l' H' OO K J Fn))/\
   mL all j (fun o=>eh false P τ B all o l H nx iv w (fun l' H' OO K J=>Hc P τ B all u l' H' OO K J Fn))
section
variable{P:Program}{τ:lO}{ops:Array Oper}{B n nx:Nat}{l:Env}{H:Hp}{iv:Iv}{w J:World}{O:Nat->dc}{a:Act}
theorem Ah(hτ:en P τ)(OV:∀(j:Nat) o,ops[j]? =some o->∀d,o.dst=some d->d<n){i:Nat}
  (h:mL ops.toList i (fun o=>eh false P τ B ops.toList o l H nx iv w Fn)) (sat:Sat n l H nx iv B w O a J)
  (U:∀l' H' OO K F G9 a' w3,Fn l' H' OO K F->Sat n l' H' OO K B F G9 a' w3->next a' w3):wpOp P ops Q i next a J:=by
 obtain⟨o,ho,W⟩:=eV h;rw[aX]at ho;have hd:=OV i o ho;unfold eh at W;refine mP ho ?_;rcases ja sat W with⟨Y,l1,I,sat1⟩|⟨Y,l1,I,sat1⟩
 .refine .inl ⟨Y,lW hτ I sat1 fun v H' OO K F G9 w3 h3 sat2 hv=>?_⟩;obtain⟨l2,h4,sat3⟩:=fI sat2 h3 hd hv;exact U _ _ _ _ _ _ _ _ h4 sat3
 .obtain⟨l2,h4,sat3⟩:=fI sat1 I hd trivial;exact .inr ⟨Y,U _ _ _ _ _ _ _ _ h4 sat3⟩
theorem sj(hτ:en P τ)(OV:∀(j:Nat) o,ops[j]? =some o->∀d,o.dst=some d->d<n){Fn:KT}{Q:Exit->Act->World->Prop}
  (hQ:∀l' H' OO K F G9 a' w3,Fn l' H' OO K F->Sat n l' H' OO K B F G9 a' w3->Q .normal a' w3):
  ∀(t:Tr) (fuel:Nat) (la:Array Bool) (l:Env) (H:Hp) (nx:Nat) (iv:Iv) (w:World) (O:Nat->dc) (a:Act) (J:World),t.depth<=fuel->ui ops t la=true->Hc P τ B ops.toList t l H nx iv w Fn->Sat n l H nx iv B w O a J->wpAny P .any ops Q fuel la a J
 | .nil,fuel,la,l,H,nx,iv,w,O,a,J,_,hc,h,s=>by
  simp only[ui,List.isEmpty_iff]at hc;have hq:=hQ _ _ _ _ _ _ _ _ h s
  cases fuel with
  |zero=>exact⟨hc,hq⟩
  |succ fuel=>exact⟨fun _=>hq,fun i R=>by rw[hc]at R;cases R⟩
 | .one i t,fuel,la,l,H,nx,iv,w,O,a,J,hf,hc,h,s=>by
  simp only[Tr.depth]at hf;obtain⟨fuel,rfl⟩:∃q,fuel=q+1:=⟨fuel-1,be⟩
  simp only[ui]at hc;split at hc
  .rename_i x hr;simp only[aq]at hc;have E:=bJ hc.1;subst E;refine⟨fun h0=>(by rw[hr]at h0;cases h0),fun j hj=>?_⟩;rw[hr,bW]at hj;subst hj;exact Ah hτ OV h s fun _ _ _ _ _ _ _ _ Z hs=>sj hτ OV hQ t fuel _ _ _ _ _ _ _ _ _ be hc.2 Z hs
  .cases hc
 | .two i t k u,fuel,la,l,H,nx,iv,w,O,a,J,hf,hc,h,s=>by
  simp only[Tr.depth]at hf;obtain⟨fuel,rfl⟩:∃q,fuel=q+1:=⟨fuel-1,be⟩
  simp only[ui]at hc;split at hc
  .rename_i x y hr;simp only[aq]at hc;obtain⟨c1,c2,c3,c4⟩:=hc;have E:=bJ c1;have hy:=bJ c2;subst E;subst hy;obtain⟨W,I⟩:=h;refine⟨fun h0=>(by rw[hr]at h0;cases h0),fun j hj=>?_⟩;rw[hr,List.mem_cons,bW]at hj;rcases hj with rfl|rfl
   .exact Ah hτ OV W s fun _ _ _ _ _ _ _ _ Z hs=>sj hτ OV hQ t fuel _ _ _ _ _ _ _ _ _ be c3 Z hs
   .exact Ah hτ OV I s fun _ _ _ _ _ _ _ _ Z hs=>sj hτ OV hQ u fuel _ _ _ _ _ _ _ _ _ be c4 Z hs
  .cases hc
theorem iR(hτ:en P τ)(hm:P.follows .mixedOrders=true)(t:Tr)(hc:(Nat.ble t.depth ops.size&&ui ops t (Array.replicate ops.size false))=true)
  (h:Hc P τ B ops.toList t l H nx iv w Fn):nu P B ops l H nx iv w Fn:=by
 simp only[aq]at hc;refine⟨fun n O a J OV sat Q hQ id=>?_⟩;refine wp_region_any hm (sj hτ (fun j o ho d hd=>?_) hQ t _ _ _ _ _ _ _ O _ _ (Nat.le_of_ble_eq_true hc.1) hc.2 h ⟨sat.rel.drew,sat.size,sat.defers,sat.env,sat.sc⟩);have:=List.all_eq_true.1 OV o (aG (by rw[aX];exact ho));rw[hd]at this;have h5:d+1<=n:=by simpa [Nat.blt]using this
 exact h5
end
section
variable{P:Program}{τ:lO}{B n nx:Nat}{l:Env}{H:Hp}{iv:Iv}{w J:World}{O:Nat->dc}{a:Act}
theorem jq{x i:Operand}{Fn:SV->Hp->Nat->Iv->World->Prop}{s:ByteArray}{k:IntKind}{m:Int}{b:UInt8}
  (hu:P.underlying t=some .string) (E:ev l x=some (.o (.v (.string s)))) (R:ev l i=some (.o (.v (.int k m)))) (hm:0<=m) (N:s[m.toNat]? =some b)
  (hK:∀O J,Rel H nx iv B w O J->Fn (.o (.v (.int .u8 b.toNat))) H nx iv J):xJ P B ⟨dst,.index t x i,ty,pos,after,guard⟩ l H nx iv w Fn:=by
 refine⟨fun O J ev' r RX=>⟨.int .u8 b.toNat,J,iv,.inl ?_,r.here,hK O J r⟩⟩;have e1:ev' x= .string s:=RX x _ E;have e2:ev' i= .int k m:=RX i _ R;simp[execOp,e1,e2,Instr.index,asIntOf,run_underlying hu,hm,N]
theorem nI(w:World)(t e:TypeId)(a:Option Addr)(n c n' c':Nat)(h:P.underlying t=some (.slice e)):
  (binOp .eql t (.slice a n c) (.slice none n' c')).run P w= .ok (.bool a.isNone) w:=by
 have:∀d,(Op.equalIn (d+1) t (.slice a n c) (.slice none n' c')).run P w= .ok a.isNone w:=fun d=>by cases a<;>simp[Op.equalIn,run_underlying h]
 simp only[binOp]
 simp[Op.equal,Op.maxDepth,this 9999]
theorem gX(w:World)(g:Nat)(cs:Array Value):w.grownBy (w.setRow g cs) (some g):=
 ⟨rfl,rfl,rfl,ce,fun k _ OL=>setRow_other _ _ _ _ fun e=>OL (by rw[e])⟩
theorem Rel.CA{F:World}(r:Rel H nx iv B w O J)(OL:∀id b,dF H id=some b->(O id).nil=false->(O id).g≠g)(h:J.grownBy F (some g)):Rel H nx iv B F O F:=
 r.zb h.size (fun id b N U=>h.block _ (r.low id b N U).2 fun e=>OL id b N U (Option.some.inj e)) fun lo R hm=>⟨by have:=r.nG lo R hm;have:=r.size;have:=h.size;omega,fun id b N U=>r.ix lo R hm id b N U⟩
theorem zG(z:Value)(n:Nat):(Builtin.zeroCells #[z] n).toList=List.replicate n z:=by
 apply aj;intro i;simp only[Builtin.zeroCells,Array.toList_map,aS,Array.toList_range,List.getElem?_replicate]
 by_cases h:i<n
 .simp[h,Nat.mod_one]
 .simp[h]
theorem GB(hτ:en P τ){k off tg:Nat}{x:Operand}
  {Fn:SV->Hp->Nat->Iv->World->Prop}
  (ht:τ t=some ⟨sz0,ag,bt,ze,4,ik,e,al,fs⟩) (PI:τ e=some ⟨1,ag',by_,[z],tag',ik',e',al',fs'⟩) (E:ev l x=some (.o (.v (.slice (some ⟨g,off,none⟩) k c)))) (Z:k≠0)
  (V:∀O J,Rel H nx iv B w O J->J.heap[g]? =some (.cells cs.toArray tg (0,0))/\∀id b,dF H id=some b->(O id).nil=false->(O id).g≠g) (Pg:off+k<=cs.length)
  (hK:∀O J F,Rel H nx iv B w O J->F.heap[g]? =some (.cells (cs.take off++List.replicate k z++cs.drop (off+k)).toArray tg (0,0))->J.grownBy F (some g)->F.heap.size=J.heap.size->Fn (.o (.v (.tuple #[]))) H nx iv F):
  xJ P B ⟨dst,.call ⟨.builtin .clear,⟨[x]⟩,⟨[t]⟩⟩,ty,pos,after,guard⟩ l H nx iv w Fn:=by
 refine⟨fun O J ev' r RX=>?_⟩;have hu:=(hτ t _ ht).i4 rfl;simp only at hu;have Qh:=hτ e _ PI;obtain⟨inf,zv,R,Od,Om,hz,Q6⟩:=Qh.info;have hzo:=Qh.MC z ce;simp only at Od Q6;have hza:zv.cells= #[z]:=by apply Array.ext';simpa using Q6
 obtain⟨hc,OL⟩:=V O J r;have Pr:=run_storeCells_at (P:=P) g off tg (List.replicate k z) 0 cs.toArray J hc (by simpa using Pg) (fun v hv=>by rw[List.mem_replicate]at hv;rw[hv.2];exact hzo);have RC:=zG z k;have e1:ev' x= .slice (some ⟨g,off,none⟩) k c:=RX x _ E;simp only[cH,bp]at Pr;refine⟨.tuple #[],_,iv,.inl ?_,r.CA OL (gX J g _),hK O J _ r (setRow_heap J g cs.toArray _ tg _ hc) (gX _ _ _) ce⟩;simp[execOp,resolve,invoke,builtin,e1,Builtin.clear_,run_underlying hu,zeroValue,typeInfo,R,hz,hza,RC,Pr,Z]
theorem Hd(hτ:en P τ){k off tg:Nat}{x:Operand}
  {ds:List Value} {vy:SV} {Fn:SV->Hp->Nat->Iv->World->Prop}
  (ht:τ t=some ⟨sz0,ag,bt,ze,4,ik,e,al,fs⟩) (PI:τ e=some ⟨1,ag',by_,[z],tag',ik',e',al',fs'⟩) (E:ev l x=some (.o (.v (.slice (some ⟨g,off,none⟩) k c)))) (hy:ev l y=some vy)
  (V:∀O J,Rel H nx iv B w O J->J.heap[g]? =some (.cells cs.toArray tg (0,0))/\∀id b,dF H id=some b->(O id).nil=false->(O id).g≠g)
  (src:∀O J,Rel H nx iv B w O J->∃a m,vy.den O= .slice a ds.length m/\∀(j:Nat) u,ds[j]? =some u->∃ad,a=some ad/\J.cell? (ad.add j)=some u)
  (hds:ds.length<=k) (Pg:off+ds.length<=cs.length) (W:∀u∈ds,u.oneCell'=true)
  (hK:∀O J F,Rel H nx iv B w O J->F.heap[g]? =some (.cells (cs.take off++ds++cs.drop (off+ds.length)).toArray tg (0,0))->J.grownBy F (some g)->F.heap.size=J.heap.size->Fn (.o (.v (goInt ds.length))) H nx iv F):
  xJ P B ⟨dst,.call ⟨.builtin .copy,⟨[x,y]⟩,⟨[t,t]⟩⟩,ty,pos,after,guard⟩ l H nx iv w Fn:=by
 refine⟨fun O J ev' r RX=>?_⟩;have hu:=(hτ t _ ht).i4 rfl;simp only at hu;have Qh:=hτ e _ PI;obtain⟨inf,zv,R,Od,Om,hz,Q6⟩:=Qh.info;simp only at Od;obtain⟨hc,OL⟩:=V O J r;obtain⟨ay,m,Pz,Oy⟩:=src O J r;have e1:ev' x= .slice (some ⟨g,off,none⟩) k c:=RX x _ E;have e2:ev' y= .slice ay ds.length m:=by rw[<-Pz];exact RX y _ hy
 refine⟨goInt ds.length,J.setRow g (cs.take off++ds++cs.drop (off+ds.length)).toArray,iv,.inl ?_,r.CA OL (gX J g _),hK O J _ r (setRow_heap J g cs.toArray _ tg _ hc) (gX _ _ _) ce⟩;have VK:Nat.min ds.length k=ds.length:=Nat.min_eq_left hds;have OU:(Builtin.copy_ #[t,t] ty #[.slice (some ⟨g,off,none⟩) k c,.slice ay ds.length m]).run P J= .ok (goInt ds.length) (J.setRow g (cs.take off++ds++cs.drop (off+ds.length)).toArray):=by
  cases ay with
  |some ad=>
   have:=run_copy_row (P:=P) J t t ty e g off k c ad ds.length m cs.toArray tg ds hu (by simp[R,Od]) hc (by rw[VK]) (fun j v hv=>by
    obtain⟨ad',I,h3⟩:=Oy j v hv;injection I with I
    rw[I];exact h3) (by simpa using Pg) W
   simpa using this
  |none=>
   have hd:ds=[]:=by
    cases ds with
    |nil=>rfl
    |cons u r=>obtain⟨ad',I,_⟩:=Oy 0 u rfl;cases I
   subst hd;have RW:=setRow_self J g cs.toArray tg (0,0) hc;simp[Builtin.copy_,run_underlying hu,Builtin.lenOf,Builtin.firstCells,sizeOf,typeInfo,R,storeCells,RW]
 simp[execOp,resolve,invoke,builtin,e1,e2,OU]
end
section
variable{P:Program}{τ:lO}{B nx:Nat}{l:Env}{H:Hp}{iv:Iv}{w J:World}{O:Nat->dc}
theorem wR{x:Operand}{Fn:SV->Hp->Nat->Iv->World->Prop}{a:Option Addr}
  (hu:P.underlying t=some (.slice e)) (E:ev l x=some (.o (.v (.slice a n c))))
  (hK:∀O J,Rel H nx iv B w O J->Fn (.o (.v (.int .i64 c))) H nx iv J):xJ P B ⟨dst,.call ⟨.builtin .cap,⟨[x]⟩,⟨[t]⟩⟩,ty,pos,after,guard⟩ l H nx iv w Fn:=by
 refine⟨fun O J ev' r RX=>⟨.int .i64 c,J,iv,.inl ?_,r.here,hK O J r⟩⟩;have e1:ev' x= .slice a n c:=RX x _ E;simp[execOp,resolve,invoke,builtin,e1,Builtin.cap_,run_underlying hu,goInt]
theorem pY(z:Array Value)(n:Nat):(Builtin.zeroCells z n).size=n*z.size:=by simp[Builtin.zeroCells]
theorem Al(h:0<n):Builtin.nextslicecap n 0=n:=by simp[Builtin.nextslicecap,h]
theorem GH(w:World)(t tn ty e:TypeId)(i:TypeInfo)(z:Value)(ht:P.underlying t=some (.slice e))(htn:P.underlying tn=some (.int .i64))(R:P.info? e=some i)(hz:i.zero=some z)(Ut:z.cells.size=i.size)
  (n:Nat) (h0:0<n) (hs:0<i.size) (h63:n<=maxLen) (h48:n*i.bytes<=140737488355328) (Bc:Nat) (hB:Bc<=w.heap.size):
  ∃c F,(Builtin.append_ #[t,tn] ty #[.slice none 0 0,.int .i64 n]).run P w= .ok (.slice (some ⟨w.heap.size,0,none⟩) n c) F/\n<=c/\F.ownsRow Bc e i.size (.slice (some ⟨w.heap.size,0,none⟩) 0 c) 0 []/\w.grownBy F none/\F.heap.size=w.heap.size+1:=by
 have U:n≠0:=by omega
 have h63n:(n:Int)<=9223372036854775807:=by unfold maxLen at h63;omega
 have Y:IntKind.i64.wrap (n:Int)=n:=wrap64 be h63n;have h63':¬(9223372036854775807<(n:Int)):=by omega
 have h48':¬(281474976710656<Builtin.nextslicecap n 0*i.bytes):=by rw[Al h0];omega
 have h48i:¬(281474976710656<(n:Int)*(i.bytes:Int)):=by rw[<-Int.natCast_mul];omega
 have Qv:¬((n:Int)<0):=by omega
 have hns:¬(n*i.size=0):=Nat.mul_ne_zero U be;have hge:=grownCap_ge w n 0 e;have hle:=grownCap_le_maxLen w n 0 e h63;refine⟨grownCap w n 0 e,w.drew.alloc (.cells (Builtin.zeroCells z.cells n++Builtin.zeroCells z.cells (grownCap w n 0 e-n)) e),?_,hge,?_,?_,?_⟩
 .simp[Builtin.append_,run_underlying ht,run_underlying htn,sizeOf,typeInfo,zeroValue,R,hz,asInt,asIntOf,Y,U,Qv,hns,h63',h48',h48i,Question.forced,run_firstCells_none,newRow,grownCap]
 .have:=World.ownsRow_made (e:=e) (size:=i.size) (base:=Bc) w.drew (Builtin.zeroCells z.cells n++Builtin.zeroCells z.cells (grownCap w n 0 e-n)) (grownCap w n 0 e) (by simpa using hB) hle (by
   rw[Array.size_append,pY,pY,Ut,<-Nat.add_mul];congr 1;omega)
  simpa using this
 .refine⟨rfl,rfl,rfl,ce,fun j hj _=>?_⟩;simp[World.alloc,Array.getElem?_push,Nat.ne_of_lt hj];rfl
 .simp
theorem zg(hτ:en P τ)(hBc:Bc<=B){x:Operand}{tn k:Nat}
  {Fn:SV->Hp->Nat->Iv->World->Prop}
  (ht:τ t=some ⟨sz0,ag,bt,ze,4,ik,e,al,fs⟩) (PI:τ e=some ⟨sz,ag',by_,ze',tag',ik',e',al',fs'⟩) (htn:P.underlying tn=some (.int .i64)) (PW:0<sz) (E:ev l x=some (.o (.v (.slice none 0 0)))) (hy:ev l y=some (.o (.v (.int .i64 k))))
  (h0:0<k) (TS:k<=maxLen) (N:k*by_<=140737488355328)
  (hK:∀O J F c,Rel H nx iv B w O J->k<=c->F.ownsRow Bc e sz (.slice (some ⟨J.heap.size,0,none⟩) 0 c) 0 []->J.grownBy F none->F.heap.size=J.heap.size+1->Fn (.o (.v (.slice (some ⟨J.heap.size,0,none⟩) k c))) H nx ((J.heap.size,F.heap.size)::iv) F):
  xJ P B ⟨dst,.call ⟨.builtin .append,⟨[x,y]⟩,⟨[t,tn]⟩⟩,ty,pos,after,guard⟩ l H nx iv w Fn:=by
 refine⟨fun O J ev' r RX=>?_⟩;have hu:=(hτ t _ ht).i4 rfl;simp only at hu;have Qh:=hτ e _ PI;obtain⟨inf,z,R,Od,Om,hz,Q6⟩:=Qh.info;have RC:=Qh.Bw;simp only at Od Om Q6 RC;have Ut:z.cells.size=inf.size:=by rw[Od,<-RC,<-Q6];simp
 obtain⟨c,F,W,I,h3,h4,h5⟩:=GH (P:=P) J t tn ty e inf z hu htn R hz Ut k h0 be TS (by rw[Om];exact N) Bc (by have:=r.base;have:=r.size;omega);have e1:ev' x= .slice none 0 0:=RX x _ E;have e2:ev' y= .int .i64 k:=RX y _ hy;refine⟨_,F,(J.heap.size,F.heap.size)::iv,.inl ?_,r.zb h4.size (fun id b h U=>h4.block _ (r.low id b h U).2 ce) (fun lo R hm=>?_),hK O J F c r I (Od▸h3) h4 h5⟩
 .simp[execOp,resolve,invoke,builtin,e1,e2,W]
 .rcases List.mem_cons.1 hm with h|h
  .injection h with h6 h7;subst h6 h7;exact⟨ae _,fun id b N U=>by have:=(r.low id b N U).2;omega⟩
  .exact⟨by have:=r.nG lo R h;have:=r.size;omega,fun id b N U=>r.ix lo R h id b N U⟩
end
section
variable{P:Program}{τ:lO}{B nx:Nat}{l:Env}{H:Hp}{iv:Iv}{w J:World}{O:Nat->dc}
def strOf(bs:List Nat):ByteArray:=bs.foldl (fun r n=>r.push (UInt8.ofNat n)) ByteArray.empty
theorem jr(bs:List Nat):(strOf bs).data=(bs.map UInt8.ofNat).toArray:=by
 have:∀(bs:List Nat) (s:ByteArray),(bs.foldl (fun r n=>r.push (UInt8.ofNat n)) s).data=s.data++(bs.map UInt8.ofNat).toArray:=by
  intro bs
  induction bs with
  |nil=>intro s;simp
  |cons b r ih=>intro s;rw[List.foldl_cons,ih];simp[ByteArray.push]
 rw[strOf,this];simp
theorem Ja{d id:Nat}{x:Operand}{Fn:SV->Hp->Nat->Iv->World->Prop}
  (hs:P.underlying t=some (.slice e)) (G:P.underlying e=some (.int .u8)) (hd:P.underlying d=some .string) (E:ev l x=some (.o (.s id 0 n n))) (hH:dF H id=some (.box bt (bs.map fun b:Nat=>At.v (.int .u8 (b:Int))))) (U:bs.length=n)
  (hK:∀O J,Rel H nx iv B w O J->Fn (.o (.v (.string (strOf bs)))) H nx iv J):xJ P B ⟨dst,.convert t d x,ty,pos,after,guard⟩ l H nx iv w Fn:=by
 refine⟨fun O J ev' r RX=>⟨.string (strOf bs),J,iv,.inl ?_,r.here,hK O J r⟩⟩;have e1:ev' x= .slice (some ⟨(O id).g,0,none⟩) n n:=RX x _ E
 have hl:=run_loadCells_list (P:=P) (w:=J) ⟨(O id).g,0,none⟩ (bs.map fun b:Nat=>Value.int .u8 (b:Int)) (fun j v hv=>by
  rw[cd,cell_of (r.box id bt _ hH),aR];have:List.map (At.den O) (bs.map fun b:Nat=>At.v (.int .u8 (b:Int)))=bs.map fun b:Nat=>Value.int .u8 (b:Int):=by rw[List.map_map];rfl
  rw[this]
  exact hv)
 rw[aJ,U]at hl;have:=run_bytesToString (P:=P) J ⟨(O id).g,0,none⟩ n n (bs.map fun b:Nat=>(b:Int)) (by rw[hl,List.map_map];rfl);have I:=run_convert_bytes_string (P:=P) J t d e (some ⟨(O id).g,0,none⟩) n n hs G hd;have h3:(bs.map fun b:Nat=>(b:Int)).foldl (fun r n=>r.push (UInt8.ofNat n.toNat)) ByteArray.empty=strOf bs:=by
  rw[List.foldl_map];rfl
 rw[this,h3]at I;simp[execOp,e1,I]
end
theorem lY:∀(nv:List Value) (w:World) (b off:Nat) (cur:Array Value) (e:TypeId),w.heap[b]? =some (.cells cur e (0,0))->off+nv.length<=cur.size->
  (w.setCells b off nv).heap[b]? =some (.cells (cur.toList.take off++nv++cur.toList.drop (off+nv.length)).toArray e (0,0))
 |[],w,b,off,cur,e,h,_=>by simpa [World.setCells]using h
 |v::r,w,b,off,cur,e,h,hl=>by
  simp only[World.setCells]
  have SI:off+(r.length+1)<=cur.size:=by simpa using hl
  have W:(w.setCell ⟨b,off,none⟩ v).heap[b]? =some (.cells (cur.setIfInBounds off v) e (0,0)):=by
   simp[World.setCell,Array.getElem?_modify,h]
  rw[lY r _ b (off+1) _ e W (by simp;omega)];congr 3;have QM:cur.toList.length=cur.size:=by simp
  apply aj;intro i;have e1:(cur.setIfInBounds off v).toList=cur.toList.set off v:=by simp
  rw[e1];rcases Nat.lt_trichotomy i off with R|R|R
  .rw[bg,bg,aQ (by simp;omega),aQ (by simp;omega),List.getElem?_take_of_lt be,List.getElem?_take_of_lt R,aV be]
  .subst R;rw[bg,bg,aQ (by simp;omega),aW (by simp;omega),List.getElem?_take_of_lt be,aO (by simp;omega)];have:(List.take i cur.toList).length=i:=by rw[bL];omega
   rw[this,bj];rfl
  .have l1:(List.take (off+1) (cur.toList.set off v)).length=off+1:=by rw[bL,bM];omega
   have l2:(List.take off cur.toList).length=off:=by rw[bL];omega
   have hd:List.drop (off+1+r.length) (cur.toList.set off v)=List.drop (off+(v::r).length) cur.toList:=by
    rw[List.drop_set_of_lt be,bZ];congr 1;omega
   obtain⟨k,rfl⟩:∃k,i=off+1+k:=⟨i-off-1,be⟩
   rw[bg,bg,hd];generalize List.drop (off+(v::r).length) cur.toList=tl;have F':(List.take (off+1) (cur.toList.set off v)++(r++tl))[off+1+k]? =(r++tl)[k]? :=by
    rw[aW be,l1];congr 1;omega
   have B:(List.take off cur.toList++((v::r)++tl))[off+1+k]? =(r++tl)[k]? :=by
    rw[aW be,l2,show off+1+k-off=k+1 by omega];rfl
   rw[F',B]
theorem lZ:∀(nv:List Value) (w:World) (b off:Nat) {k:Nat},k≠b->(w.setCells b off nv).heap[k]? =w.heap[k]?
 |[],_,_,_,_,_=>rfl
 |v::r,w,b,off,k,Z=>by
  simp only[World.setCells]
  rw[lZ r _ b (off+1) Z];simp[World.setCell,Array.getElem?_modify,Ne.symm Z]
theorem oB:∀(vs:List Value) (w0:World) (b o:Nat),(w0.setCells b o vs).os=w0.os/\(w0.setCells b o vs).tape=w0.tape/\(w0.setCells b o vs).output=w0.output/\(w0.setCells b o vs).heap.size=w0.heap.size
 |[],_,_,_=>⟨rfl,rfl,rfl,rfl⟩
 |v::r,w0,b,o=>by
  simp only[World.setCells]
  obtain⟨W,I,h3,h4⟩:=oB r (w0.setCell ⟨b,o,none⟩ v) b (o+1);exact⟨W,I,h3,by rw[h4];simp⟩
theorem nJ{w:World}{v:Value}{nv:List Value}{a:Option Addr}{j:Nat}(h:w.ownsRow Bc e sz v n xs)(hv:v= .slice a n c)(hj:j<n)(RY:nv.length=sz)(hs:0<sz):
  ∃g,a=some ⟨g,0,none⟩/\(∀k,k<sz->(w.cell? (Addr.add ⟨g,j*sz,none⟩ k)).isSome=true/\w.frozen? (Addr.add ⟨g,j*sz,none⟩ k)=false)/\
   (setCells w ⟨g,j*sz,none⟩ nv).ownsRow Bc e sz v n (xs.take (j*sz)++nv++xs.drop (j*sz+sz))/\w.grownBy (setCells w ⟨g,j*sz,none⟩ nv) (some g)/\(setCells w ⟨g,j*sz,none⟩ nv).heap.size=w.heap.size:=by
 rcases h.2 with⟨_,h0⟩|⟨g,cap,cur,RD,N,V,So,Rd,Oz,Su⟩
 .omega
 rw[hv]at RD;injection RD with W I h3;subst W h3;have hjs:j*sz+sz<=n*sz:=by
  have:=Nat.mul_le_mul_right sz (show j+1<=n from hj);rw[Nat.add_mul,Nat.one_mul]at this;exact this
 have hns:n*sz<=c*sz:=Nat.mul_le_mul_right sz So;obtain⟨f1,f2,f3,f4⟩:=oB nv w g (j*sz);have PS:=lY nv w g (j*sz) cur e V be;refine⟨g,rfl,fun k Z=>?_,?_,?_,?_⟩
 .rw[cd];refine⟨?_,?_⟩
  .rw[cell_of (g:=g) (cs:=cur.toList) (by simpa using V),aE (by simp;omega)];rfl
  .simp[World.frozen?,V]
 .rw[iS];refine⟨?_,.inr ⟨g,c,_,hv,N,PS,So,Rd,?_,?_⟩⟩
  .simp only[aU,bL,List.length_drop,RY,h.1];omega
  .simp only[List.size_toArray,aU,bL,List.length_drop,RY,Array.length_toList];omega
  .subst Su;have QM:cur.toList.length=cur.size:=by simp
   have ha:List.drop (j*sz+sz) (List.take (n*sz) cur.toList)=(List.drop (j*sz+sz) cur.toList).take (n*sz-(j*sz+sz)):=by rw[List.drop_take]
   rw[ha,List.take_take,Nat.min_eq_left be];show List.take (n*sz) (_++nv++_)=_;rw[RY,List.take_append,bU (by simp;omega)];congr 2;simp only[aU,bL,RY]
   omega
 .rw[iS];exact⟨f1,f2,f3,by rw[f4];exact ae _,fun k Z OL=>lZ nv w g _ (fun e=>OL (by rw[e]))⟩
 .rw[iS];exact f4
structure aAD(P:Program)(kt:TypeId)(KS:Value->Prop):Prop where
 desc:∃fs,P.underlying kt=some (.struct fs)
 check:∀(w:World) (em:Bool) (v:Value),KS v->(Instr.checkKey em 10000 kt v).run P w= .ok () w
 eq:∀(w:World) (a b:Value),KS a->KS b->∃c,(Op.equal kt a b).run P w= .ok c w/\(c=true↔a=b)
section
variable{P:Program}{τ:lO}{B n nx:Nat}{l:Env}{H:Hp}{iv:Iv}{w J F:World}{O:Nat->dc}{a:Act}
end
end Go.Sx
