/- Texts Sx12 to Sx23: lemmas, each with its conditions. -/
import Derived.Laws.BytesString
import Derived.Test.YtbffinhkognefaaGreatDoorP1
set_option linter.defProp false
namespace Go.Sx
open Go
variable{args:(Nat->eD)->Array Value}{FS Q0 next:Act->World->Prop}{F9 R':Ending->World->Prop}{k:Env->Prop}{l:List (Nat×TI)}{B g:Nat}{O:Nat->eD}{d:Option Tmp}{P:Program}
section
variable{P:Program}{τ:nO}{ops:Array Oper}{B n nx:Nat}{l:Env}{H:Hp}{iv:Iv}{w J:World}{O:Nat->eD}{a:Act}
variable{Pd:List Nat}{EQ:List (Nat×Nat)}{lx la:Array Bool}{Q:Exit->Act->World->Prop}{md:Region.Mode}
def Ew(hr:Region.ready md ops la=[])(h:Q .normal a w):∀fuel,wk P md ops Q fuel la a w
 |0=>⟨hr,h⟩
 |_+1=>⟨λ_=>h,by rw[hr];simp⟩
def zY(sat:Sat n l H nx iv B w O a J){FS:SV->Hp->Iv->World->Prop}{o:Oper}
  (h:Ey P B g args H nx iv w FS) (Vz:(execOp a.eval o).run P J=(callFunc g (args O)).run P J)
  (E:∀v F,FS (.o (.v v)) H ((J.heap.size,F.heap.size)::iv) F->Ext J F->Sat n l H nx ((J.heap.size,F.heap.size)::iv) B F O a F->next (a.put o.dst v) F):o.wp P a J next Q:=by
 have hc:=h.h O J sat.rel;unfold Oper.wp;rw[Vz,hc.e.h];refine Calls.mono hc.c λe F L=>?_;obtain⟨v,rfl,Ua,hK⟩:=L;refine E v F hK Ua ?_;have r:=(sat.rel.ext Ua).here;refine sat.next (F':=O) ?_ (ae _) (λ_ _=>rfl)
 refine Rel.mk' r.os r.tape r.output r.size r.base ?_ r.keys (λid b N=>r.fits N) (λid b N=>r.scopd N) r.inj r.low r.D9 ?_
 .intro lo R hm;rcases List.mem_cons.1 hm with hm|hm
  .injection hm with Y I;omega
  .exact r.oB lo R hm
 .intro lo R hm id b N QC;rcases List.mem_cons.1 hm with hm|hm
  .injection hm with Y I;have:=(sat.rel.low id b N QC).2;omega
  .exact r.jJ lo R hm id b N QC
def HI{o:Oper}{FS:SV->Hp->Nat->Iv->World->Prop}(h:zV true P τ B o l H nx iv w FS)(sat:Sat n l H nx iv B w O a J)(hr:qq o.op=false)(ha:El o.op=false)(hh:tw o=false)
  (E:∀v F,FS (.o (.v v)) H nx ((J.heap.size,F.heap.size)::iv) F->Ext J F->Sat n l H nx ((J.heap.size,F.heap.size)::iv) B F O a F->next (a.put o.dst v) F):o.wp P a J next Q:=by
 obtain⟨dst,op,ty,pos,after,guard⟩:=o;simp only at hr ha;have:∃f args x,op= .call ⟨.value f,args,x⟩:=by
  simp only[tw,hr,ha,Bool.or_self,Bool.false_or,Bool.not_eq_false']at hh;split at hh
  .exact⟨_,_,_,rfl⟩
  .cases hh
 obtain⟨f,⟨args⟩,x,rfl⟩:=this;simp only[zV]at h;obtain⟨vf,Y,hf,Yk⟩:=dq sat h;obtain⟨vs,I,Rq,hss⟩:=sf sat Y;have UM:(args.toArray).map a.eval=pJ O vs:=by
  apply Array.ext';simp[pJ,Rq]
 split at I
 .rename_i g first caps
  refine zY sat I ?_ (λv F hK L hs=>E v F hK L hs);simp[execOp,resolve,hf,SV.den,At.den,Deferred.ofValue,invoke,UM]
 .rename_i g ids;refine zY sat I ?_ (λv F hK L hs=>E v F hK L hs);simp[execOp,resolve,hf,SV.den,At.den,Deferred.ofValue,invoke,UM]
 .exact I.elim
def QN(Q0:Act->World->Prop):Exit->Act->World->Prop:=λe a w=>e= .normal/\Q0 a w
def zZ(sat:Sat n l H nx iv B w O a J){o:Oper}{yes no:Env->Prop}(h:uv ops.toList o.guard l yes no)(V:o.guard=none\/Pd=[]):
  (Region.wanted o (yielded ops a.tmps)=true/\∃l',yes l'/\Sat n l' H nx iv B w O a J/\(Pd≠[]->l'=l))\/
  (Region.wanted o (yielded ops a.tmps)=false/\Pd=[]/\∃l',no l'/\Sat n l' H nx iv B w O a J):=by
 by_cases Uy:o.guard=none
 .rw[Uy]at h;exact .inl ⟨by simp[Region.wanted,Uy],l,h,sat,λ_=>rfl⟩
 .have SY:=V.resolve_left Uy;rcases pK sat h with⟨Y,l',I,h3⟩|⟨Y,l',I,h3⟩
  .exact .inl ⟨Y,l',I,h3,λPo=>absurd SY Po⟩
  .exact .inr ⟨Y,SY,l',I,h3⟩
def mY(sat:Sat n l H nx iv B w O a J){v:SV}(h:Ev d v l k)(hd:∀t,d=some t->t<n)(hv:v.sc nx):
  ∃l',k l'/\Sat n l' H nx iv B w O (a.put d (v.den O)) J/\∀t,fj l t=none->d≠some t->fj l' t=none:=by
 unfold Ev at h;split at h
 .rename_i t;exact⟨_,h,sat.put (hd t rfl) hv,λu hu Po=>by rw[ep,aJ (λe=>Po (by rw[e]))];exact hu⟩
 .exact⟨l,h,sat,λt ht _=>ht⟩
def xh{Q:Exit->Act->World->Prop}{i:Nat}{o:Oper}(R:ops[i]? =some o)
  (h:(Region.wanted o (yielded ops a.tmps)=true/\o.wp P a J FS Q)\/(Region.wanted o (yielded ops a.tmps)=false/\FS (a.put o.dst undef) J)):wpOp P ops Q i FS a J:=by
 unfold wpOp;simp only[R]
 rcases h with⟨Y,I⟩|⟨Y,I⟩
 .rw[aM Y];exact .inl I
 .rw[aJ (by simp[Y])];exact I
def LK(hτ:fk P τ)(QK:∀(j:Nat) o,ops[j]? =some o->∀d,o.dst=some d->d<n)(Q6:∀(j:Nat) (o:Oper) cs b,ops[j]? =some o->o.op≠ .select cs b)
  {FS:KT} (hQ:∀l' H' Pv A F F' a' w3,FS l' H' Pv A F->Sat n l' H' Pv A B F F' a' w3->Q0 a' w3):
  ∀(m fuel:Nat) (π:List It) (lx la:Array Bool) (Pd:List Nat) (EQ:List (Nat×Nat)) (l:Env) (H:Hp) (nx:Nat) (iv:Iv) (w:World) (O:Nat->eD) (a:Act) (J:World),
   fuel+π.length=m->Oz la<=fuel->qw ops π lx Pd=true->JW P τ B ops.toList π l H nx iv w FS->NM P ops n B Pd EQ lx la l H nx iv w O a J->wk P .any ops (QN Q0) fuel la a J:=by
 intro m
 induction m using Nat.strongRecOn with
 |_ m ih=>
 intro fuel π lx la Pd EQ l H nx iv w O a J hm ZT hc h s
 match π with
 |[]=>
  simp only[qw,bM,List.isEmpty_iff]at hc;obtain⟨hr,rfl⟩:=hc;refine Ew ?_ ⟨rfl,hQ _ _ _ _ _ _ _ _ h s.sat⟩ fuel;refine List.eq_nil_iff_forall_not_mem.2 λj hj=>?_;obtain⟨Y,o,I,h3⟩:=ew.1 hj;have:j∈Region.ready .any ops lx:=by
   refine ew.2 ⟨?_,o,I,λe L N=>?_⟩
   .have QU:j<lx.size:=by rw[s.NN,<-s.NQ];exact(bG.1 Y).1
    rw[Array.getElem?_eq_getElem QU]
    cases N:lx[j]with
    |false=>rfl
    |true=>
     have:=(s.la j).2 (.inl (by rw[Array.getElem?_eq_getElem QU,N]));rw[Y]at this;cases this
   .rcases(s.la e.on).1 (h3 e L N)with h4|⟨g,h4⟩
    .exact h4
    .exact absurd (s.JZ _ _ h4) ce
  rw[hr]at this
  cases this
 | .p i::r=>
  obtain⟨o,ho,Y⟩:=ix h;rw[bT]at ho;simp only[qw,ho,bM]at hc;obtain⟨⟨⟨⟨⟨⟨c1,c2⟩,c3⟩,c4⟩,c5⟩,c6⟩,c7⟩:=hc
  cases hd:o.dst with
  |none=>rw[hd]at c3;cases c3
  |some d=>
  rw[hd]at c3;obtain⟨b,v,mk,obj,hK,-,-,-,-,-,UK⟩:=pL hτ Y s.sat c1;rw[hd]at hK;obtain⟨l',hl,Ta,Qn⟩:=tz hK;have S4:∀j∈Pd,j≠i:=λj hj=>by
   have:=List.all_eq_true.1 c5 j hj;simpa only[Bool.not_eq_true',oY]using this
  have c6':∀j∈Pd,∀oj,ops[j]? =some oj->o.apart ops oj=true/\oj.apart ops o=true:=λj hj oj Su=>by
   have:=List.all_eq_true.1 c6 j hj;simpa only[JX,Su,bM]using this
  have hlxi:lx[i]? =some false:=by
   have:lx.getD i true=false:=by simpa using c4
   rw[bJ]at this
   cases Z:lx[i]? with
   |none=>rw[Z]at this;cases this
   |some b=>rw[Z]at this;simp at this;rw[this]
  refine ih (fuel+r.length) (by simp only[bh]at hm;omega) fuel r lx la (i::Pd) EQ l' H nx iv w O a J rfl ZT c7 hl ?_;refine⟨⟨s.sat.rel,s.sat.size,s.sat.defers,λt v hv=>s.sat.env t v (Qn t v hv).2,λt v hv=>s.sat.sc t v (Qn t v hv).2⟩,s.NN,s.NQ,s.la,λj g V=>aD _ (s.JZ j g V),λj hj=>?_,s.eg,s.inj,λj hj j' Yi Po oj oj' h3 h4=>?_⟩
  .rcases List.mem_cons.1 hj with rfl|hj
   .refine⟨hlxi,o,d,mk,obj,ho,c1,by simpa using c2,⟨hd,by simpa using c3⟩,UK,Ta,λg V=>absurd (s.JZ _ _ V) (λSv=>S4 _ Sv rfl)⟩
   .obtain⟨h0,oj,dj,mkj,objj,g1,g2,g3,g4,g5,g6,g7⟩:=s.pd j hj;exact⟨h0,oj,dj,mkj,objj,g1,g2,g3,g4,g5,LJ Qn g6,g7⟩
  .rcases List.mem_cons.1 hj with e1|k1<;>rcases List.mem_cons.1 Yi with e2|k2
   .exact absurd (e1.trans e2.symm) Po
   .rw[e1,ho]at h3;injection h3 with h3;subst h3;exact(c6' j' k2 oj' h4).1
   .rw[e2,ho]at h4;injection h4 with h4;subst h4;exact(c6' j k1 oj h3).2
   .exact s.ap j k1 j' k2 Po oj oj' h3 h4
 | .x i::r=>
  obtain⟨o,ho,Y⟩:=ix h;unfold kO at Y;rw[bT]at ho;simp only[qw,ho,bM]at hc;obtain⟨⟨⟨⟨c1,c2⟩,c3⟩,c4⟩,c5⟩:=hc;have c2:i∈Region.ready .any ops lx:=by simpa using c2
  have c1:o.guard=none\/Pd=[]:=by simpa using c1
  have Sh:∀j∈Pd,j≠i->∀oj,ops[j]? =some oj->o.apart ops oj=true:=λj hj Qd oj Su=>by
   have:=List.all_eq_true.1 c3 j hj;simpa only[JX,Su,Bool.or_eq_true,oY.2 Qd,Bool.false_eq_true,false_or]using this
  obtain⟨RA,o',UN,hwait⟩:=ew.1 c2;rw[ho]at UN;injection UN with UN;subst UN;simp only[bh]at hm;have YQ:=QK i o ho;by_cases hE:∃g,(i,g)∈EQ
  ·
   obtain⟨g,V⟩:=hE;obtain⟨h0,o',d,mk',obj',g1,g2,g3,g4,g5,g6,g7⟩:=s.pd i (s.JZ i g V);rw[ho]at g1;injection g1 with g1;subst g1;rw[g3,HJ g2]at Y;have Y:zV true P τ B o l H nx iv w λv H' Pv A J=>Ev o.dst v l λl'=>JW P τ B ops.toList r l' H' Pv A J FS:=Y;obtain⟨b,v,mk,obj,hK,TJ,N,hv,Yj,RU,UK⟩:=pL hτ Y s.sat g2;obtain⟨l',hl,s'⟩:=s.aAW ho V N hv Yj RU UK hK YQ Sh;exact ih (fuel+r.length) be fuel r _ _ _ _ _ _ _ _ _ _ _ _ rfl ZT c5 hl s'
  .have Yh:∀g,(i,g)∉EQ:=λg V=>hE ⟨g,V⟩;have YR:la[i]? =some false:=by
    have QU:i<la.size:=by rw[s.NQ,<-s.NN];exact(bG.1 RA).1
    rw[Array.getElem?_eq_getElem QU]
    cases N:la[i]with
    |false=>rfl
    |true=>
     rcases(s.la i).1 (by rw[Array.getElem?_eq_getElem QU,N])with I|I
     .rw[RA]at I;cases I
     .exact absurd I hE
   have Uc:i∈Region.ready .any ops la:=ew.2 ⟨YR,o,ho,λe L N=>(s.la e.on).2 (.inl (hwait e L N))⟩;have XM:=mO YR;obtain⟨f,rfl⟩:∃f,fuel=f+1:=⟨fuel-1,be⟩
   cases hR:qq o.op with
   |true=>
    rw[hR]at c4;obtain⟨lH,Sw,QZ,WQ,Rb⟩:=HG c4 s.NN;have Pu:∀j,lH j->la.getD j false=false:=λj hj=>by
     cases hl:la.getD j false with
     |false=>rfl
     |true=>
      have hl:la[j]? =some true:=by
       rw[bJ]at hl
       cases Z:la[j]? with
       |none=>rw[Z]at hl;cases hl
       |some b=>rw[Z]at hl;simp at hl;rw[hl]
      rcases(s.la j).1 hl with h4|⟨g,h4⟩
      .have:=QZ j hj;rw[bJ,h4]at this;cases this
      .exact absurd hj (WQ j (s.JZ j g h4))
    have Rs:∀j oj,ops[j]? =some oj->j≠i->la.getD j true=false->¬lH j->o.apart ops oj=true/\(JY o.op=true\/tw oj=false):=by
     intro j oj Su Qd Tt Tu;have WR:lx.getD j true=false:=by
      rw[bJ]at Tt ⊢
      cases Z:lx[j]? with
      |none=>
       have:la[j]? =none:=by
        rw[Array.getElem?_eq_none_iff]at Z ⊢;rw[s.NQ,<-s.NN];exact Z
       rw[this]at Tt;cases Tt
      |some b=>
       cases b with
       |false=>rfl
       |true=>rw[(s.la j).2 (.inl Z)]at Tt;cases Tt
     exact Rb j oj Su Qd WR Tu
    rcases zZ s.sat Y c1 with⟨W,l1,I,sat1,Ta⟩|⟨W,SY,l1,I,sat1⟩
    .obtain⟨v,hK,Rq,Py⟩:=(nT hτ I sat1 hR).resolve_right (λhh=>by have:=hh.1;rw[HK hR]at this;cases this);obtain⟨l2,h3,sat2,Qn⟩:=mY sat1 hK YQ Rq;refine uw (pu:=JY o.op) (v:=v.den O) ho Q6 (λc a w hq=>?_) lH Sw f la a J Pu Rs Uc (.inl ⟨W,λw3 L=>Py w3 (L.imp id λL=>sat1.rel.ext L)⟩) ?_
     .exact absurd hq.1 ce
     .refine ih (f+r.length) be f r _ _ _ _ _ _ _ _ _ _ _ _ rfl be c5 h3 (s.step Q6 ho Yh Sh sat2 ?_ (λ_ _ _=>Ext.refl _) (λg _ Tc Qv _=>⟨Tc,Qv⟩));intro j hj Qd d hd Po;have Ta:=Ta (by intro e;rw[e]at hj;cases hj);subst Ta;exact Qn d hd Po
    .obtain⟨l2,h3,sat2,Qn⟩:=mY (v:=.o (.v undef)) sat1 I YQ trivial;refine uw (pu:=JY o.op) (v:=undef) ho Q6 (λc a w hq=>?_) lH Sw f la a J Pu Rs Uc (.inr ⟨W,rfl⟩) ?_
     .exact absurd hq.1 ce
     .refine ih (f+r.length) be f r _ _ _ _ _ _ _ _ _ _ _ _ rfl be c5 h3 (s.step Q6 ho Yh Sh sat2 ?_ (λ_ _ _=>Ext.refl _) (λg _ Tc Qv _=>⟨Tc,Qv⟩));intro j hj;rw[SY]at hj;cases hj
   |false=>
    rw[hR]at c4;simp only[bM]at c4;obtain⟨c4,c6⟩:=c4;have hpick:∀j∈Region.ready .any ops la,j=i\/(j≠i/\j∈Pd):=by
     intro j hj;by_cases Qd:j=i
     .exact .inl Qd
     .refine .inr ⟨Qd,?_⟩;apply Decidable.byContradiction;intro hjP;obtain⟨k1,oj,k2,k3⟩:=ew.1 hj;have:j∈Region.ready .any ops (Eo lx (Pd.filter λj=> !Nat.beq j i)):=by
       refine ew.2 ⟨?_,oj,k2,λe L N=>?_⟩
       .have QU:j<(Eo lx (Pd.filter λj=> !Nat.beq j i)).size:=by rw[Eu,s.NN,<-s.NQ];exact(bG.1 k1).1
        rw[Array.getElem?_eq_getElem QU]
        cases N:(Eo lx (Pd.filter λj=> !Nat.beq j i))[j]with
        |false=>rfl
        |true=>
         rcases(zX _ lx j).1 (by rw[Array.getElem?_eq_getElem QU,N])with h4|⟨h4,_⟩
         .have:=(s.la j).2 (.inl h4);rw[k1]at this;cases this
         .exact absurd (List.mem_filter.1 h4).1 hjP
       .rw[zX];rcases(s.la e.on).1 (k3 e L N)with h4|⟨g,h4⟩
        .exact .inl h4
        .refine .inr ⟨List.mem_filter.2 ⟨s.JZ _ _ h4,?_⟩,?_⟩
         .simp only[Bool.not_eq_true',oY]
          intro e2;rw[e2]at h4;exact Yh g h4
         .have:=(s.pd _ (s.JZ _ _ h4)).1;exact(bG.1 this).1
      have:=List.all_eq_true.1 c6 j this;exact Qd (ed this)
    refine⟨λL=>(by rw[L]at Uc;cases Uc),λj hj=>?_⟩;have Tt:=(ew.1 hj).1;have hunj:=mO Tt;rcases hpick j hj with rfl|⟨Qd,hjP⟩
    ·
     refine xh ho ?_;rcases zZ s.sat Y c1 with⟨W,l1,I,sat1,Ta⟩|⟨W,SY,l1,I,sat1⟩
     .refine .inl ⟨W,?_⟩;have hl1':∀k∈Pd,k≠j->∀(l2:Env),(∀t,fj l1 t=none->o.dst≠some t->fj l2 t=none)->∀d,fj l d=none->o.dst≠some d->fj l2 d=none:=by
       intro k K _ l2 Qn d hd Po;have Ta:=Ta (by intro e;rw[e]at K;cases K);subst Ta;exact Qn d hd Po
      cases hA:El o.op with
      |true=>
       obtain⟨b,v,mk,obj,hK,TJ,N,hv,Yj,RU,UK⟩:=pL hτ I sat1 hA;have Qs:Rel ((nx,b)::H) (nx+1) iv B w (iy O nx ⟨J.heap.size,0,false⟩) (J.alloc obj):=
        sat1.rel.push b _ rfl rfl rfl ce (λk K=>heap_alloc_old _ _ K) (λ_=>⟨ae _,ce⟩) (RU _ _ (heap_alloc_new _ _)) N
       obtain⟨l2,h3,sat2,Qn⟩:=mY (sat1.next Qs (Nat.le_succ _) (λid RR=>iU id RR)) hK YQ hv;rw[Yj]at sat2;refine oC (v:=mk J.heap.size) (F:=J.alloc obj) (UK J) ⟨λ_=>Ext.alloc _ _,?_⟩;refine ih (f+r.length) be f r _ _ _ _ _ _ _ _ _ _ _ _ rfl be c5 h3 (s.step Q6 ho Yh Sh sat2 (λk K Ve=>hl1' k K Ve l2 Qn) (λ_ _ _=>Ext.alloc _ _) (λg V Tc Qv _=>⟨λid c hc E L=>?_,Qv⟩));rw[db]at hc;split at hc
       .rename_i e;subst e;rw[fX]at L;simp only at L;omega
       .have Ro:iy O nx ⟨J.heap.size,0,false⟩ id=O id:=(iU id (s.sat.rel.keys id c hc)).symm;rw[Ro]at E L;exact Tc id c hc E L
      |false=>
       cases hH:tw o with
       |false=>
        rw[Bt hH]at I;refine HI I sat1 hR hA hH λv F hK L hs=>⟨λ_=>L,?_⟩
        obtain⟨l2,h3,sat2,Qn⟩:=mY (v:=.o (.v v)) hs hK YQ trivial;refine ih (f+r.length) be f r _ _ _ _ _ _ _ _ _ _ _ _ rfl be c5 h3 (s.step Q6 ho Yh Sh sat2 (λk K Ve=>hl1' k K Ve l2 Qn) (λ_ _ _=>L) (λg V Tc Qv _=>⟨Tc,λlo R hm hc=>?_⟩));rcases List.mem_cons.1 hm with hm|hm
        .injection hm with e1 e2;omega
        .exact Qv lo R hm hc
       |true=>
        have SY:Pd=[]:=by rw[hH]at c4;simpa using c4
        subst SY;refine uA hτ I sat1 λv H' Pv A F F' w3 hK sat2 hv=>⟨λhs=>(by rw[hs o ho]at hH;cases hH),?_⟩
        obtain⟨l2,h3,sat3,Qn⟩:=mY sat2 hK YQ hv;exact ih (f+r.length) be f r _ _ _ _ _ _ _ _ _ _ _ _ rfl be c5 h3 (s.step Q6 ho Yh Sh sat3 (λk K=>by cases K) (λk K=>by cases K) (λg _ _ _ K=>by obtain⟨k,K,_⟩:=K;cases K))
     .refine .inr ⟨W,λ_=>Ext.refl _,?_⟩;subst SY;obtain⟨l2,h3,sat2,Qn⟩:=mY (v:=.o (.v undef)) sat1 I YQ trivial;exact ih (f+r.length) be f r _ _ _ _ _ _ _ _ _ _ _ _ rfl be c5 h3 (s.step Q6 ho Yh Sh sat2 (λk K=>by cases K) (λk K=>by cases K) (λg _ _ _ K=>by obtain⟨k,K,_⟩:=K;cases K))
    ·
     refine s.early QK Q6 hjP Tt λE' a2 F L s'=>⟨λ_=>L,?_⟩
     exact ih (f+(r.length+1)) be f (.x i::r) lx _ Pd E' l H nx iv w O a2 F rfl be (by simp only[qw,ho,bM];exact⟨⟨⟨⟨by simpa using c1,by simpa using c2⟩,c3⟩,by rw[hR];simp only[bM];exact⟨c4,c6⟩⟩,c5⟩) h s'
def Ez(hτ:fk P τ)(hm:P.follows .mixedOrders=true){FS:KT}(π:List It)(hs:Region.noSelect ops=true)(hc:Et ops ops.size π 0 []=true)
  (h:JW P τ B ops.toList π l H nx iv w FS):pM P B ops l H nx iv w FS:=by
 rw[Da π (Array.replicate ops.size false) 0 [] ce (λj=>by rw[uu,bJ,Array.getElem?_replicate];split<;>rfl)]at hc;refine⟨λn O a J QK sat Q hQ id=>?_⟩;refine wp_mono (Q':=Q) (c:=.region id ops true) (wp_region_any (Q:=QN (Q .normal)) hm (z3 _ _ _ _ ?_)) (λe a w hq=>by obtain⟨rfl,hq⟩:=hq;exact hq);refine LK hτ (λj o ho d hd=>?_) (Region.noSelect_spec hs) hQ _ _ π _ _ [] [] l H nx iv w O a _ rfl ?_ hc h ?_
 .have:=List.all_eq_true.1 QK o (aG (by rw[bT];exact ho));rw[hd]at this;have h5:d+1<=n:=by simpa [Nat.blt]using this
  exact h5
 .unfold Oz;refine aR List.countP_le_length ?_;simp
 .refine⟨⟨sat.rel.drew,sat.size,sat.defers,sat.env,sat.sc⟩,ce,ce,λj=>ce,λj g h=>(by cases h),λj h=>(by cases h),λj g h=>(by cases h),λj g j' h=>(by cases h),λj h=>(by cases h)⟩
end
def yv:List (Nat×TI)->Nat->Option TI
 |[],_=>none
 |(t,v)::r,u=>match Nat.beq t u with
  |true=>some v
  |false=>yv r u
def veq:Value->Value->Bool
 | .bool a,.bool b=>a==b
 | .int k n,.int j m=>rB k j&&decide (n=m)
 | .string a,.string b=>a.data.toList.isEmpty&&b.data.toList.isEmpty
 | .pointer none,.pointer none=>true
 | .slice none a b,.slice none c d=>Nat.beq a c&&Nat.beq b d
 | .map none,.map none=>true
 | .nilFunc,.nilFunc=>true
 | .nilIface,.nilIface=>true
 |_,_=>false
def Cb{a b:IntKind}(h:rB a b=true):a=b:=by cases a<;>cases b<;>first|rfl|cases h
def PA{a b:Value}(h:veq a b=true):a=b/\a.oneCell'=true:=by
 unfold veq at h;split at h
 .exact⟨by rw[eq_of_beq h],rfl⟩
 .simp only[bM,decide_eq_true_eq]at h;exact⟨by rw[Cb h.1,h.2],rfl⟩
 .rename_i a b;simp only[bM,List.isEmpty_iff]at h;refine⟨?_,rfl⟩;have ha:a=⟨#[]⟩:=by
   obtain⟨⟨l⟩⟩:=a;simp only at h;rw[h.1]
  have N:b=⟨#[]⟩:=by
   obtain⟨⟨l⟩⟩:=b;simp only at h;rw[h.2]
  rw[ha,N]
 .exact⟨rfl,rfl⟩
 .simp only[bM]at h;exact⟨by rw[ed h.1,ed h.2],rfl⟩
 .exact⟨rfl,rfl⟩
 .exact⟨rfl,rfl⟩
 .exact⟨rfl,rfl⟩
 .cases h
def NR:List Value->List Value->Bool
 |[],[]=>true
 |a::r,b::s=>veq a b&&NR r s
 |_,_=>false
def IW:∀{a b:List Value},NR a b=true->a=b/\∀x∈b,x.oneCell'=true
 |[],[],_=>⟨rfl,ce⟩
 |a::r,b::s,h=>by
  simp only[NR,bM]at h;obtain⟨Y,I⟩:=PA h.1;obtain⟨h3,h4⟩:=IW h.2;refine⟨by rw[Y,h3],λx Z=>?_⟩;rcases List.mem_cons.1 Z with rfl|Z
  .rw[<-Y];exact I
  .exact h4 x Z
 |[],_::_,h=>by cases h
 |_::_,[],h=>by cases h
def yw(P:Program):List Field->List (Nat×Nat)->Bool
 |[],[]=>true
 |f::r,(o,t)::s=>Nat.beq f.offset o&&Nat.beq f.type t&&(P.info? f.type).isSome&&yw P r s
 |_,_=>false
def z4{P:Program}:∀{a:List Field} {b:List (Nat×Nat)},yw P a b=true->a.map (λf=>(f.offset,f.type))=b/\∀f∈a,(P.info? f.type).isSome=true
 |[],[],_=>⟨rfl,ce⟩
 |f::r,(o,t)::s,h=>by
  simp only[yw,bM]at h;obtain⟨h3,h4⟩:=z4 h.2;refine⟨by rw[List.map_cons,h3,ed h.1.1.1,ed h.1.1.2],λx Z=>?_⟩;rcases List.mem_cons.1 Z with rfl|Z
  .exact h.1.2
  .exact h4 x Z
 |[],_::_,h=>by cases h
 |_::_,[],h=>by cases h
def isAgg:TypeDesc->Bool
 | .struct _=>true
 | .array _ _=>true
 |_=>false
def aAX(a b:Bool):Bool:=match a with
 |true=>b
 |false=> !b
def NS{a b:Bool}(h:aAX a b=true):a=b:=by cases a<;>cases b<;>first|rfl|cases h
def tokB(P:Program)(t:Nat)(i:TI):Bool:=
 (match P.info? t with
  |some inf=>Nat.beq inf.size i.size&&Nat.beq inf.bytes i.bytes&&(match inf.zero with
   |some z=>NR z.cells.toList i.zero
   |none=>false)
  |none=>false)&&Nat.beq i.zero.length i.size&&
 (match P.underlying t with
  |some d=>aAX (isAgg d) i.agg&&(match i.tag with
   |1=>(match d with
    | .int k=>rB k i.ik
    |_=>false)
   |2=>(match d with
    | .bool=>true
    |_=>false)
   |3=>(match d with
    | .string=>true
    |_=>false)
   |4=>(match d with
    | .slice e=>Nat.beq e i.elem
    |_=>false)
   |5=>(match d with
    | .struct fs=>yw P fs.toList i.fields
    |_=>false)
   |6=>(match d with
    | .array n e=>Nat.beq n i.HE&&Nat.beq e i.elem
    |_=>false)
   |_=>true)
  |none=>false)
def tok_of{t:Nat}{i:TI}(h:tokB P t i=true):HL P t i:=by
 simp only[tokB,bM]at h;obtain⟨⟨Y,I⟩,h3⟩:=h
 cases R:P.info? t with
 |none=>rw[R]at Y;cases Y
 |some inf=>
 rw[R]at Y;simp only[bM]at Y;obtain⟨⟨h4,h5⟩,h6⟩:=Y
 cases hz:inf.zero with
 |none=>rw[hz]at h6;cases h6
 |some z=>
 rw[hz]at h6;obtain⟨h7,h8⟩:=IW h6
 cases hu:P.underlying t with
 |none=>rw[hu]at h3;cases h3
 |some d=>
 rw[hu]at h3;simp only[bM]at h3;obtain⟨h9,h10⟩:=h3;refine⟨⟨inf,z,R,ed h4,ed h5,hz,h7⟩,ed I,h8,⟨d,hu,?_⟩,λe=>?_,λe=>?_,λe=>?_,λe=>?_,λe=>?_,λe=>?_⟩
 .rw[<-NS h9]
  cases d<;>rfl
 all_goals rw[e]at h10
 .cases d with
  |int k=>simp only at h10;rw[<-Cb h10];exact hu
  |_=>cases h10
 .cases d with
  |bool=>exact hu
  |_=>cases h10
 .cases d with
  |string=>exact hu
  |_=>cases h10
 .cases d with
  |slice e=>simp only at h10;rw[<-ed h10];exact hu
  |_=>cases h10
 .cases d with
  |struct fs=>simp only at h10;exact⟨fs,hu,z4 h10⟩
  |_=>cases h10
 .cases d with
  |array n e=>simp only[bM]at h10;rw[<-ed h10.1,<-ed h10.2];exact hu
  |_=>cases h10
def PB(h:l.all (λp=>tokB P p.1 p.2)=true):fk P (yv l):=by
 intro t i R;have:(t,i)∈l:=by
  clear h
  induction l with
  |nil=>cases R
  |cons p r ih=>
   obtain⟨t0,i0⟩:=p;unfold yv at R;split at R
   .rename_i N;injection R with R;subst R;rw[ed N];exact aF ..
   .exact aD _ (ih R)
 exact tok_of (List.all_eq_true.1 h _ this)
def Ja{fn:Func}{c:Code}(hf:P.funcs[g]? =some fn)(N:fn.body=some c)(E:(fn.name== "runtime.NumGoroutine")=false):LL P g:=
 ⟨λargs w=>by simp only[beq_eq_false_iff_ne]at E;simp[callFunc,hf,N,E]⟩
def eH.mono{args:Array Value}{w:World}(h:eH P g args w F9)(k:∀e F,F9 e F->R' e F):eH P g args w R':=
 ⟨h.e,Calls.mono h.c k⟩
abbrev Bel(B:Nat)(w F:World):Prop:=RowKit.Below B w F
def Bel.refl{w:World}:Bel B w w:=RowKit.Below.refl _ _
def Rel.cg{H:Hp}{nx:Nat}{iv:Iv}{w J:World}(r:Rel H nx iv B w O J):Bel B w J:=
 ⟨r.os,r.tape,r.output,r.size,λk K=>r.D9 k (by have:=r.base;omega) (λid b h E L=>by have:=(r.low id b h E).1;omega)⟩
def Bel.tr{a b c:World}(h:Bel B a b)(k:Bel B b c):Bel B a c:=RowKit.Below.trans h k
def Ext.cg{a b:World}(h:Ext a b)(hB:B<=a.heap.size):Bel B a b:=RowKit.Below.mono h hB
end Go.Sx
namespace Go.RowKit
open Go Go.Sx
def Below.cg{B:Nat}{a b:World}(h:RowKit.Below a.heap.size a b)(hB:B<=a.heap.size):RowKit.Below B a b:=RowKit.Below.mono h hB
end Go.RowKit
namespace Go.Sx
open Go
section
variable{args:(Nat->eD)->Array Value}{GT:(Nat->eD)->World->Value->World->Prop}{H:Hp}{FS:Int->Prop}{iv:Iv}{B i n nx:Nat}{O:Nat->eD}{P:Program}
def cZ{w F:World}{a:Addr}(h:F.heap[a.block]? =w.heap[a.block]?):F.cell? a=w.cell? a:=by
 unfold World.cell?;rw[h]
def Bel.cell{w F:World}(h:Bel B w F){a:Addr}(ha:a.block<B):F.cell? a=w.cell? a:=cZ (h.block _ ha)
def FA(l:Env):Env->Prop
 |[]=>True
 |(u,v)::r=>fj l u=some v/\FA l r
def FA.get{l:Env}:∀{t:Env},FA l t->∀u v,fj t u=some v->fj l u=some v
 |[],_,u,v,h=>by cases h
 |(u0,v0)::r,h,u,v,V=>by
  rw[ep]at V;split at V
  .rename_i e;subst e;injection V with V;subst V;exact h.1
  .exact FA.get h.2 u v V
def kN(n:Nat):Env->Prop
 |[]=>True
 |(_,v)::r=>v.sc n/\kN n r
def kN.get{n:Nat}:∀{t:Env},kN n t->∀u v,fj t u=some v->v.sc n
 |[],_,u,v,h=>by cases h
 |(u0,v0)::r,h,u,v,V=>by
  rw[ep]at V;split at V
  .injection V with V;subst V;exact h.1
  .exact kN.get h.2 u v V
def Rel.aBG{w J:World}(r:Rel H nx iv B w O J):Rel H nx [] B w O J:=
 Rel.mk' r.os r.tape r.output r.size r.base ce r.keys (λid b h=>r.fits h) (λid b h=>r.scopd h) r.inj r.low r.D9 ce
def Sub.reset{l tl:Env}{w J:World}(r:Rel H nx iv B w O J)(Y:FA l tl)(I:kN nx tl):Sub B l nx O J ⟨tl,H,nx,[],J⟩:=
 ⟨O,r.here.aBG,λu v hv=>⟨I.get u v hv,v,Y.get u v hv,rfl⟩⟩
def eV(w:World)(GT:Value->World->Prop)(e:Ending)(F:World):Prop:=∃v,e= .returned v/\Ext w F/\GT v F
def cR{g:Nat}{w:World}{FS:SV->Hp->Iv->World->Prop}
  (h:∀O J,Rel H nx iv B w O J->eH P g (args O) J (eV J (GT O J))) (hK:∀O J v F,Rel H nx iv B w O J->Ext J F->Bel B w F->GT O J v F->FS (.o (.v v)) H ((J.heap.size,F.heap.size)::iv) F):Ey P B g args H nx iv w FS:=
 ⟨λO J r=>(h O J r).mono λe F ⟨v,Y,I,h3⟩=>⟨v,Y,I,hK O J v F r I (r.cg.tr (I.cg (by have:=r.base;have:=r.size;omega))) h3⟩⟩
def cE{g:Nat}{w w0:World}{FS:SV->Hp->Iv->World->Prop}(W:Bel B w0 w)(GT:(Nat->eD)->World->Value->World->Prop)
  (h:∀O J,Rel H nx iv B w O J->eH P g (args O) J (eV J (GT O J))) (hK:∀O J v F A,Rel H nx iv B w O J->Ext J F->Bel B w0 F->A=(J.heap.size,F.heap.size)::iv->GT O J v F->FS (.o (.v v)) H A F):Ey P B g args H nx iv w FS:=
 cR h λO J v F r Y I h3=>hK O J v F _ r Y (W.tr I) rfl h3
def mC{a:Nat×Nat}{A:Iv}(h:A=a::iv):∀p,p∈iv->p∈A:=h▸λ_ h=>aD _ h
def mN{a:Nat×Nat}{A:Iv}(h:A=a::iv):a∈A:=h▸aF
def wrap64{n:Int}(Y: -9223372036854775808<=n)(I:n<=9223372036854775807):IntKind.wrap .i64 n=n:=by
 have e1:(2:Int)^64=18446744073709551616:=by decide
 have e2:(2:Int)^(64-1)=9223372036854775808:=by decide
 simp only[IntKind.wrap,IntKind.bits,IntKind.signed,e1,e2]
 by_cases h:n % 18446744073709551616≥9223372036854775808
 .rw[aM (by simp[h])];omega
 .rw[aJ (by simp[h])];omega
def wo{n r:Int}(h:(-9223372036854775808<=n/\n<=9223372036854775807)/\n=r:=by omega):IntKind.wrap .i64 n=r:=by rw[wrap64 h.1.1 h.1.2];exact h.2
def inc(i:Nat)(h:FS ((i+1:Nat):Int))(N:i<9223372036854775807:=by omega):∃r,IntKind.wrap .i64 ((i:Int)+1)=r/\FS r:=⟨_,by rw[wrap64]<;>omega,h⟩
def dL(h:decide ((i:Int)<(n:Int))=true):i<n:=by have:=aK h;omega
def dE(R:i<=n)(h:decide ((i:Int)<(n:Int))=false):i=n:=by have:=aL h;omega
def gO{α:Type}(l:List α)(i:Nat)(h:i<l.length:=by omega):∃x,l[i]? =some x:=⟨_,aE h⟩
def exq{α:Type}(a:α):∃x,a=x:=⟨_,rfl⟩
def lr:n<=n:=ae n
def dec(h:i<n):n-(i+1)<n-i:=by omega
def l1{α:Type}{l:List α}{x:α}:(l++[x]).length=l.length+1:=by rw[aU];rfl
def mx(h:n<=9223372036854775807:=by omega):n<=maxLen:=h
def yx{n:Int}(Y:0<=n)(I:n<18446744073709551616):IntKind.wrap .u64 n=n:=by
 have e1:(2:Int)^64=18446744073709551616:=by decide
 simp only[IntKind.wrap,IntKind.bits,IntKind.signed,e1,Bool.false_and,Bool.false_eq_true,if_false]
 omega
def jF{n:Int}(Y:0<=n)(I:n<4294967296):IntKind.wrap .u32 n=n:=by
 have e1:(2:Int)^32=4294967296:=by decide
 simp only[IntKind.wrap,IntKind.bits,IntKind.signed,e1,Bool.false_and,Bool.false_eq_true,if_false]
 omega
end
variable{args:(Nat->eD)->Array Value}{GT:(Nat->eD)->World->Value->World->Prop}{after:Array Edge}{ag ag':Bool}{tH:Hp}{ik ik':IntKind}{fs fs':List (Nat×Nat)}{bs:List Nat}{cs xs ze ze':List Value}{B Bc al al' bt by_ c e e' g n sz sz0 t tag' ty:Nat}{O:Nat->eD}{y:Operand}{guard:Option (Nat×Bool)}{row:Option Nat}{dst:Option Tmp}{pos:String}{z:Value}
section
variable{P:Program}{τ:nO}{B nx:Nat}{l:Env}{H:Hp}{iv:Iv}{w J F:World}{O:Nat->eD}
def Rel.Cc{iv2:Iv}(r:Rel H nx iv B w O J)(QG:J.heap.size<=F.heap.size)(Pp:∀id b,dT H id=some b->(O id).nil=false->F.heap[(O id).g]? =J.heap[(O id).g]?)
  (Wv:∀lo R,(lo,R)∈iv2->R<=F.heap.size/\∀id b,dT H id=some b->(O id).nil=false->¬(lo<=(O id).g/\(O id).g<R)):Rel H nx iv2 B F O F:=
 Rel.mk' rfl rfl rfl (ae _) (by have:=r.base;have:=r.size;omega) (λlo R h=>(Wv lo R h).1) r.keys
  (λid b h=>jX.iJ (r.fits h) (λ_ _=>rfl) (r.scopd h) (λE _=>Pp id b h E)) (λid b h=>r.scopd h) r.inj
  (λid b h E=>by have:=r.low id b h E;omega) (λ_ _ _=>rfl) (λlo R h=>(Wv lo R h).2)
def iC(hτ:fk P τ)(hBc:Bc<=B){x:Operand}{k m:Nat}
  {v:Value} {vy:SV} {news:List Value} {FS:SV->Hp->Nat->Iv->World->Prop}
  (ht:τ t=some ⟨sz0,ag,bt,ze,4,ik,e,al,fs⟩) (Qg:τ e=some ⟨sz,ag',by_,ze',tag',ik',e',al',fs'⟩) (QV:0<sz) (Z:ev l x=some (.o (.v v))) (hy:ev l y=some vy)
  (RY:∀O J,Rel H nx iv B w O J->J.ownsRow Bc e sz v m xs/\∀g,v.ownBlock=some g->∀id b,dT H id=some b->(O id).nil=false->(O id).g≠g)
  (Td:news.length=k*sz) (Si:∀u∈news,u.oneCell'=true) (Um:m+k<=maxLen) (N:(m+k)*by_<=140737488355328)
  (src:∀O J,Rel H nx iv B w O J->(∃c,vy.den O= .slice none 0 c/\k=0)\/∃ad c,vy.den O= .slice (some ad) k c/\∀(j:Nat) u,news[j]? =some u->J.cell? (ad.add j)=some u)
  (iv2:Value->World->Iv)
  (Wv:∀O J v' F,Rel H nx iv B w O J->J.heap.size<=F.heap.size->(∀g,v'.ownBlock=some g->g<F.heap.size/\(v.ownBlock=some g\/g=J.heap.size))->∀lo R,(lo,R)∈iv2 v' F->R<=F.heap.size/\∀id b,dT H id=some b->(O id).nil=false->¬(lo<=(O id).g/\(O id).g<R))
  (hK:∀O J v' F,Rel H nx iv B w O J->F.ownsRow Bc e sz v' (m+k) (xs++news)->J.grownBy F v.ownBlock->(v'.ownBlock=v.ownBlock\/v'.ownBlock=some J.heap.size)->FS (.o (.v v')) H nx (iv2 v' F) F):
  yz P B ⟨dst,.call ⟨.builtin .append,⟨[x,y]⟩,⟨[t,t]⟩⟩,ty,pos,after,guard⟩ l H nx iv w FS:=by
 refine⟨λO J ev' r TB=>?_⟩;have hto:=hτ t _ ht;have hu:=hto.i4 rfl;simp only at hu;have SP:=hτ e _ Qg;obtain⟨inf,z,R,QG,QM,hz,Rt⟩:=SP.info;have Sj:=SP.FB;simp only at QG QM Rt Sj;have Ww:z.cells.size=sz:=by rw[<-Sj,<-Rt];simp
 obtain⟨Pm,Po⟩:=RY O J r;have key:∃v' F,(Builtin.append_ #[t,t] ty #[v,vy.den O]).run P J= .ok v' F/\F.ownsRow Bc e sz v' (m+k) (xs++news)/\J.grownBy F v.ownBlock/\(v'.ownBlock=v.ownBlock\/v'.ownBlock=some J.heap.size):=by
  rcases src O J r with⟨c,hv,rfl⟩|⟨ad,c,hv,Q3⟩
  .have:news=[]:=List.eq_nil_of_length_eq_zero (by simpa using Td);subst this;rw[hv];exact⟨v,J,mh J Bc t ty e inf sz hu R v m xs Pm c,by simpa using Pm,⟨rfl,rfl,rfl,ae _,λ_ _ _=>rfl⟩,.inl rfl⟩
  .rw[hv];obtain⟨v',F,Y,I,h3,_,h5⟩:=run_append_own_at (P:=P) J Bc t ty e inf z sz by_ hu R hz QG QM Ww QV v m xs Pm ad k c news Td Q3 Si Um N (by have:=r.base;have:=r.size;omega);exact⟨v',F,Y,I,h3,h5⟩
 obtain⟨v',F,Y,I,h3,h4⟩:=key;have e1:=TB x _ Z;have e2:=TB y _ hy;have SQ:∀g,v'.ownBlock=some g->g<F.heap.size/\(v.ownBlock=some g\/g=J.heap.size):=λg V=>by
  refine⟨?_,?_⟩
  .rcases I.2 with⟨rfl,_⟩|⟨g',cap,cur,rfl,_,hc,_⟩
   .cases V
   .simp only[Value.ownBlock,Option.some.injEq]at V;subst V;exact(bG.1 hc).1
  .rcases h4 with h4|h4
   .exact .inl (h4▸V)
   .rw[h4]at V;injection V with V;exact .inr V.symm
 refine⟨v',F,iv2 v' F,.inl ?_,r.Cc h3.size (λid b h E=>h3.block _ (r.low id b h E).2 (λe=>Po _ e.symm id b h E rfl)) (Wv O J v' F r h3.size SQ),hK O J v' F r I h3 h4⟩;have e1:ev' x=v:=e1;generalize vy.den O=yy at*
 simp[execOp,resolve,invoke,builtin,e1,e2,Y]
def Bel.grown{B0:Nat}(h:J.grownBy F row)(hr:∀g,row=some g->B0<=g)(hB:B0<=J.heap.size):Bel B0 J F:=
 ⟨h.os,h.tape,h.output,h.size,λk K=>h.block k be (λe=>by have:=hr k e.symm;omega)⟩
def ownsRow.low{m:Nat}{v:Value}(h:w.ownsRow B e sz v m xs):∀g,v.ownBlock=some g->B<=g/\g<w.heap.size:=by
 intro g V;rcases h.2 with⟨rfl,_⟩|⟨g',cap,cur,rfl,N,hc,_⟩
 .cases V
 .simp only[Value.ownBlock,Option.some.injEq]at V;subst V;exact⟨N,(bG.1 hc).1⟩
def ownsRow.cW{m:Nat}{v:Value}(h:w.ownsRow B e sz v m xs)(K:∀g,v.ownBlock=some g->F.heap[g]? =w.heap[g]?):F.ownsRow B e sz v m xs:=by
 refine⟨h.1,?_⟩;rcases h.2 with Y|⟨g',cap,cur,rfl,N,hc,I⟩
 .exact .inl Y
 .exact .inr ⟨g',cap,cur,rfl,N,by rw[K g' rfl];exact hc,I⟩
end
def At.Em(f:Nat->Nat):At->At
 | .v x=>.v x
 | .p id off=>.p (f id) off
 | .s id off len cap=>.s (f id) off len cap
 | .w id len=>.w (f id) len
 | .fn g caps=>.fn g (caps.map f)
def SV.Em(f:Nat->Nat):SV->SV
 | .o x=>.o (x.Em f)
 | .a cs=>.a (cs.map (At.Em f))
def jX.Em(f:Nat->Nat):jX->jX
 | .box t cs=>.box t (cs.map (At.Em f))
 | .arr t cs=>.arr t cs
 | .vec t size cs=>.vec t size cs
 | .dead=>.dead
def At.uy(f:Nat->Nat)(O:Nat->eD)(x:At):(x.Em f).den O=x.den (λi=>O (f i)):=by
 cases x<;>simp[At.Em,At.den]
def SV.uy(f:Nat->Nat)(O:Nat->eD)(x:SV):(x.Em f).den O=x.den (λi=>O (f i)):=by
 cases x with
 |o x=>exact At.uy f O x
 |a cs=>
  have:At.den O ∘ At.Em f=At.den (λi=>O (f i)):=funext λx=>At.uy f O x;simp[SV.Em,SV.den,this]
def uz:List (Nat×Nat)->Nat->Nat
 |[],n=>n
 |(a,b)::r,n=>match Nat.beq a n with
  |true=>b
  |false=>uz r n
def z5(f:Nat->Nat)(l:Env):Env->Prop
 |[]=>True
 |(u,v)::r=>fj l u=some (v.Em f)/\z5 f l r
def z6(f:Nat->Nat)(H:Hp):Hp->Prop
 |[]=>True
 |(u,b)::r=>dT H (f u)=some (b.Em f)/\z6 f H r
def Cd(n:Nat):Hp->Prop
 |[]=>True
 |(u,b)::r=>(u<n/\b.scopd n)/\Cd n r
def Jb(f:Nat->Nat):Hp->Bool
 |[]=>true
 |(u,_)::r=>r.all (λp=>Nat.beq p.1 u|| !Nat.beq (f p.1) (f u))&&Jb f r
def z5.get{f:Nat->Nat}{l:Env}:∀{t:Env},z5 f l t->∀u v,fj t u=some v->fj l u=some (v.Em f)
 |[],_,u,v,h=>by cases h
 |(u0,v0)::r,h,u,v,V=>by
  rw[ep]at V;split at V
  .rename_i e;subst e;injection V with V;subst V;exact h.1
  .exact z5.get h.2 u v V
def z6.get{f:Nat->Nat}{l:Hp}:∀{t:Hp},z6 f l t->∀u v,dT t u=some v->dT l (f u)=some (v.Em f)
 |[],_,u,v,h=>by cases h
 |(u0,v0)::r,h,u,v,V=>by
  rw[db]at V;split at V
  .rename_i e;subst e;injection V with V;subst V;exact h.1
  .exact z6.get h.2 u v V
def Cd.get{n:Nat}:∀{t:Hp},Cd n t->∀u b,dT t u=some b->u<n/\b.scopd n
 |[],_,u,v,h=>by cases h
 |(u0,v0)::r,h,u,v,V=>by
  rw[db]at V;split at V
  .rename_i e;subst e;injection V with V;subst V;exact h.1
  .exact Cd.get h.2 u v V
def FC:∀{t:Hp} {u:Nat} {b:jX},dT t u=some b->∃p∈t,p.1=u
 |[],u,b,h=>by cases h
 |(u0,v0)::r,u,b,h=>by
  rw[db]at h;split at h
  .rename_i e;exact⟨_,aF ..,e⟩
  .obtain⟨p,Y,I⟩:=FC h;exact⟨p,aD _ Y,I⟩
def Ce{f:Nat->Nat}:∀{t:Hp},Jb f t=true->∀u v b c,dT t u=some b->dT t v=some c->f u=f v->u=v
 |[],_,u,v,b,c,h,_,_=>by cases h
 |(u0,v0)::r,R,u,v,b,c,hu,hv,L=>by
  simp only[Jb,bM]at R;have key:∀{w:Nat} {d:jX},dT r w=some d->f w=f u0->w=u0:=λ{w d} W hf=>by
   obtain⟨p,hp,rfl⟩:=FC W;have:=List.all_eq_true.1 R.1 p hp;simp only[Bool.or_eq_true,Bool.not_eq_true']at this;rcases this with h|h
   .exact ed h
   .rw[hf,Nat.beq_refl]at h;cases h
  rw[db]at hu hv;split at hu<;>split at hv
  .rename_i x y;rw[<-x,<-y]
  .rename_i x y;subst x;exact(key hv L.symm).symm
  .rename_i x y;subst y;exact key hu L
  .exact Ce R.2 u v b c hu hv L
def Sub.gen{l tl:Env}{nx Pv:Nat}{H:Hp}{iv A:Iv}{w J:World}(m:List (Nat×Nat))(r:Rel H nx iv B w O J)
  (hH:z6 (uz m) H tH) (hE:z5 (uz m) l tl) (YS:Cd Pv tH) (hsE:kN Pv tl) (R:Jb (uz m) tH=true) (Wv:∀lo R,(lo,R)∈A->(lo,R)∈iv):Sub B l nx O J ⟨tl,tH,Pv,A,J⟩:=by
 refine⟨λi=>O (uz m i),(?_:Rel tH Pv A B J (λi=>O (uz m i)) J),λu v hv=>⟨hsE.get u v hv,_,hE.get u v hv,SV.uy _ _ _⟩⟩;refine Rel.mk' rfl rfl rfl (ae _) (by have:=r.base;have:=r.size;omega) (λlo R h=>by have:=r.oB lo R (Wv lo R h);have:=r.size;omega) (λid b h=>(YS.get id b h).1) ?_ (λid b h=>(YS.get id b h).2) ?_ ?_ (λ_ _ _=>rfl) ?_
 .intro id b h;have Y:=r.fits (hH.get id b h);have hr:At.den O ∘ At.Em (uz m)=At.den (λi=>O (uz m i)):=funext λx=>At.uy _ O x
  cases b with
  |box t cs=>simpa [jX.Em,jX.fits,hr]using Y
  |arr t cs=>exact Y
  |vec t size cs=>exact Y
  |dead=>trivial
 .intro id id' b b' h h' hd ZS E hn' L;refine Ce R id id' b b' h h' (r.inj _ _ _ _ (hH.get id b h) (hH.get id' b' h') ?_ ?_ E hn' L)
  .cases b<;>first|(exact absurd rfl hd)|simp[jX.Em]
  .cases b'<;>first|(exact absurd rfl ZS)|simp[jX.Em]
 .intro id b h E;exact r.low _ _ (hH.get id b h) E
 .intro lo R4 h id b N E;exact r.jJ lo R4 (Wv lo R4 h) _ _ (hH.get id b N) E
def sbgn{l tl:Env}{nx Pv:Nat}{H:Hp}{iv A:Iv}{w J:World}(m:List (Nat×Nat))(r:Rel H nx iv B w O J)
  (hH:z6 (uz m) H tH:=by repeat' first|exact trivial|refine⟨rfl,?_⟩) (hE:z5 (uz m) l tl:=by repeat' first|exact trivial|refine⟨rfl,?_⟩) (YS:Cd Pv tH:=by simp[Cd,jX.scopd,At.sc]) (hsE:kN Pv tl:=by simp[kN,SV.sc,At.sc,ff]) (R:Jb (uz m) tH=true:=by rfl) (Wv:∀lo R,(lo,R)∈A->(lo,R)∈iv:=by first|exact λ_ _ h=>h|simp):Sub B l nx O J ⟨tl,tH,Pv,A,J⟩:=Sub.gen m r hH hE YS hsE R Wv
def z7(H:Hp):Hp->Prop
 |[]=>True
 |(u,b)::r=>dT H u=some b/\z7 H r
def Gx(id:Nat):Hp->Bool
 |[]=>true
 |(_,.dead)::_=>false
 |(u,_)::r=> !Nat.beq u id&&Gx id r
def z7.get{H:Hp}:∀{t:Hp},z7 H t->∀{u b},dT t u=some b->dT H u=some b
 |[],_,u,b,h=>by cases h
 |(v,c)::r,hs,u,b,h=>by
  unfold dT at h;split at h
  .rename_i e;injection h with h;subst h;have:=bz e;subst this;exact hs.1
  .exact z7.get hs.2 h
def Gx.get{id:Nat}:∀{t:Hp},Gx id t=true->∀{u b},dT t u=some b->u≠id/\b≠ .dead
 |[],_,u,b,h=>by cases h
 |(v,c)::r,hs,u,b,h=>by
  unfold dT at h;split at h
  .rename_i e;injection h with h;subst h;have:=bz e;subst this;have hv:v.beq id=false->v≠id:=λh e=>by rw[e,Nat.beq_refl]at h;cases h
   cases c<;>simp_all [Gx]
  .refine Gx.get (t:=r) ?_ h
   cases c<;>simp_all [Gx]
section
variable{P:Program}{B nx:Nat}{H H':Hp}{iv:Iv}{w J F:World}{O:Nat->eD}
def Rel.free{id:Nat}{b:jX}(r:Rel H nx iv B w O J)(RR:dT H id=some b)(hd:b≠ .dead)(E:(O id).nil=false)(hs:z7 H H')(ho:Gx id H'=true):Rel H' nx (((O id).g,(O id).g+1)::iv) B J O J:=by
 have Y:Rel H' nx iv B J O J:=Rel.mk' rfl rfl rfl (ae _) (by have:=r.base;have:=r.size;omega) (λlo R hm=>by have:=r.oB lo R hm;have:=r.size;omega) (λj c h=>r.keys j c (hs.get h))
  (λj c h=>r.fits (hs.get h)) (λj c h=>r.scopd (hs.get h)) (λj k c e h h'=>r.inj j k c e (hs.get h) (hs.get h')) (λj c h=>r.low j c (hs.get h)) (λ_ _ _=>rfl) (λlo R hm j c h=>r.jJ lo R hm j c (hs.get h))
 refine Y.more (by have:=(r.low id b RR E).2;omega) λj c hj hnj L=>?_;obtain⟨I,h3⟩:=Gx.get ho hj;exact I (r.inj j id c b (hs.get hj) RR h3 hd hnj E be)
def gJ{FS:SV->Hp->Iv->World->Prop}(id:Nat){b:jX}(RR:dT H id=some b)(hd:b≠ .dead)(hs:z7 H H')(ho:Gx id H'=true)
  (E:∀O J,Rel H nx iv B w O J->(O id).nil=false)
  (hc:∀O J,Rel H nx iv B w O J->eH P g (args O) J (eV J (GT O J)))
  (h:∀O J v F,Rel H nx iv B w O J->Ext J F->Bel B w F->GT O J v F->FS (.o (.v v)) H' (((O id).g,(O id).g+1)::(J.heap.size,F.heap.size)::iv) F):FD P B g args H nx iv w FS:=
 ⟨λO J r=>⟨(hc O J r).e,Calls.mono (hc O J r).c λe F L=>by
  obtain⟨v,Y,I,h3⟩:=L;have r2:Rel H nx ((J.heap.size,F.heap.size)::iv) B F O F:=(r.ext I).here.more (ae _) (λj c hj E=>by have:=(r.low j c hj E).2;omega)
  exact⟨v,H',_,Y,r2.free RR hd (E O J r) hs ho,h O J v F r I (r.cg.tr (I.cg (by have:=r.base;have:=r.size;omega))) h3⟩⟩⟩
end
inductive Tr where
 |nil
 |one (i:Nat) (t:Tr)
 |two (i:Nat) (t:Tr) (j:Nat) (u:Tr)
section
variable{P:Program}{τ:nO}{ops:Array Oper}{B n nx:Nat}{l:Env}{H:Hp}{iv:Iv}{w J:World}{O:Nat->eD}{a:Act}
end
section
variable{P:Program}{τ:nO}{B n nx:Nat}{l:Env}{H:Hp}{iv:Iv}{w J:World}{O:Nat->eD}{a:Act}
def kh{x i:Operand}{FS:SV->Hp->Nat->Iv->World->Prop}{s:ByteArray}{k:IntKind}{m:Int}{b:UInt8}
  (hu:P.underlying t=some .string) (Z:ev l x=some (.o (.v (.string s)))) (R:ev l i=some (.o (.v (.int k m)))) (hm:0<=m) (N:s[m.toNat]? =some b)
  (hK:∀O J,Rel H nx iv B w O J->FS (.o (.v (.int .u8 b.toNat))) H nx iv J):yz P B ⟨dst,.index t x i,ty,pos,after,guard⟩ l H nx iv w FS:=by
 refine⟨λO J ev' r TB=>⟨.int .u8 b.toNat,J,iv,.inl ?_,r.here,hK O J r⟩⟩;have e1:ev' x= .string s:=TB x _ Z;have e2:ev' i= .int k m:=TB i _ R;simp[execOp,e1,e2,Instr.index,asIntOf,run_underlying hu,hm,N]
def o9(w:World)(t e:TypeId)(a:Option Addr)(n c n' c':Nat)(h:P.underlying t=some (.slice e)):
  (binOp .eql t (.slice a n c) (.slice none n' c')).run P w= .ok (.bool a.isNone) w:=by
 have:∀d,(Op.equalIn (d+1) t (.slice a n c) (.slice none n' c')).run P w= .ok a.isNone w:=λd=>by cases a<;>simp[Op.equalIn,run_underlying h]
 simp only[binOp]
 simp[Op.equal,Op.maxDepth,this 9999]
def iK(w:World)(g:Nat)(cs:Array Value):w.grownBy (w.setRow g cs) (some g):=
 ⟨rfl,rfl,rfl,ce,λk _ Po=>setRow_other _ _ _ _ λe=>Po (by rw[e])⟩
def Rel.FE{F:World}(r:Rel H nx iv B w O J)(Po:∀id b,dT H id=some b->(O id).nil=false->(O id).g≠g)(h:J.grownBy F (some g)):Rel H nx iv B F O F:=
 r.Cc h.size (λid b N E=>h.block _ (r.low id b N E).2 λe=>Po id b N E (Option.some.inj e)) λlo R hm=>⟨by have:=r.oB lo R hm;have:=r.size;have:=h.size;omega,λid b N E=>r.jJ lo R hm id b N E⟩
def Bu(z:Value)(n:Nat):(Builtin.zeroCells #[z] n).toList=List.replicate n z:=by
 apply av;intro i;simp only[Builtin.zeroCells,Array.toList_map,aS,Array.toList_range,List.getElem?_replicate]
 by_cases h:i<n
 .simp[h,Nat.mod_one]
 .simp[h]
def Jc(hτ:fk P τ){k off tg:Nat}{x:Operand}
  {FS:SV->Hp->Nat->Iv->World->Prop}
  (ht:τ t=some ⟨sz0,ag,bt,ze,4,ik,e,al,fs⟩) (Qg:τ e=some ⟨1,ag',by_,[z],tag',ik',e',al',fs'⟩) (Z:ev l x=some (.o (.v (.slice (some ⟨g,off,none⟩) k c)))) (K:k≠0)
  (V:∀O J,Rel H nx iv B w O J->J.heap[g]? =some (.cells cs.toArray tg (0,0))/\∀id b,dT H id=some b->(O id).nil=false->(O id).g≠g) (RU:off+k<=cs.length)
  (hK:∀O J F,Rel H nx iv B w O J->F.heap[g]? =some (.cells (cs.take off++List.replicate k z++cs.drop (off+k)).toArray tg (0,0))->J.grownBy F (some g)->F.heap.size=J.heap.size->FS (.o (.v (.tuple #[]))) H nx iv F):
  yz P B ⟨dst,.call ⟨.builtin .clear,⟨[x]⟩,⟨[t]⟩⟩,ty,pos,after,guard⟩ l H nx iv w FS:=by
 refine⟨λO J ev' r TB=>?_⟩;have hu:=(hτ t _ ht).i4 rfl;simp only at hu;have SP:=hτ e _ Qg;obtain⟨inf,zv,R,QG,QM,hz,Rt⟩:=SP.info;have hzo:=SP.aAY z ce;simp only at QG Rt;have hza:zv.cells= #[z]:=by apply Array.ext';simpa using Rt
 obtain⟨hc,Po⟩:=V O J r;have RC:=run_storeCells_at (P:=P) g off tg (List.replicate k z) 0 cs.toArray J hc (by simpa using RU) (λv hv=>by rw[List.mem_replicate]at hv;rw[hv.2];exact hzo);have Sj:=Bu z k;have e1:ev' x= .slice (some ⟨g,off,none⟩) k c:=TB x _ Z;simp only[cM,aq]at RC;refine⟨.tuple #[],_,iv,.inl ?_,r.FE Po (iK J g _),hK O J _ r (setRow_heap J g cs.toArray _ tg _ hc) (iK _ _ _) ce⟩;simp[execOp,resolve,invoke,builtin,e1,Builtin.clear_,run_underlying hu,zeroValue,typeInfo,R,hz,hza,Sj,RC,K]
def LM(hτ:fk P τ){k off tg:Nat}{x:Operand}
  {ds:List Value} {vy:SV} {FS:SV->Hp->Nat->Iv->World->Prop}
  (ht:τ t=some ⟨sz0,ag,bt,ze,4,ik,e,al,fs⟩) (Qg:τ e=some ⟨1,ag',by_,[z],tag',ik',e',al',fs'⟩) (Z:ev l x=some (.o (.v (.slice (some ⟨g,off,none⟩) k c)))) (hy:ev l y=some vy)
  (V:∀O J,Rel H nx iv B w O J->J.heap[g]? =some (.cells cs.toArray tg (0,0))/\∀id b,dT H id=some b->(O id).nil=false->(O id).g≠g)
  (src:∀O J,Rel H nx iv B w O J->∃a m,vy.den O= .slice a ds.length m/\∀(j:Nat) u,ds[j]? =some u->∃ad,a=some ad/\J.cell? (ad.add j)=some u)
  (hds:ds.length<=k) (RU:off+ds.length<=cs.length) (Y:∀u∈ds,u.oneCell'=true)
  (hK:∀O J F,Rel H nx iv B w O J->F.heap[g]? =some (.cells (cs.take off++ds++cs.drop (off+ds.length)).toArray tg (0,0))->J.grownBy F (some g)->F.heap.size=J.heap.size->FS (.o (.v (goInt ds.length))) H nx iv F):
  yz P B ⟨dst,.call ⟨.builtin .copy,⟨[x,y]⟩,⟨[t,t]⟩⟩,ty,pos,after,guard⟩ l H nx iv w FS:=by
 refine⟨λO J ev' r TB=>?_⟩;have hu:=(hτ t _ ht).i4 rfl;simp only at hu;have SP:=hτ e _ Qg;obtain⟨inf,zv,R,QG,QM,hz,Rt⟩:=SP.info;simp only at QG;obtain⟨hc,Po⟩:=V O J r;obtain⟨ay,m,RW,Q3⟩:=src O J r;have e1:ev' x= .slice (some ⟨g,off,none⟩) k c:=TB x _ Z;have e2:ev' y= .slice ay ds.length m:=by rw[<-RW];exact TB y _ hy
 refine⟨goInt ds.length,J.setRow g (cs.take off++ds++cs.drop (off+ds.length)).toArray,iv,.inl ?_,r.FE Po (iK J g _),hK O J _ r (setRow_heap J g cs.toArray _ tg _ hc) (iK _ _ _) ce⟩;have XN:Nat.min ds.length k=ds.length:=Nat.min_eq_left hds;have Py:(Builtin.copy_ #[t,t] ty #[.slice (some ⟨g,off,none⟩) k c,.slice ay ds.length m]).run P J= .ok (goInt ds.length) (J.setRow g (cs.take off++ds++cs.drop (off+ds.length)).toArray):=by
  cases ay with
  |some ad=>
   have:=run_copy_row (P:=P) J t t ty e g off k c ad ds.length m cs.toArray tg ds hu (by simp[R,QG]) hc (by rw[XN]) (λj v hv=>by
    obtain⟨ad',I,h3⟩:=Q3 j v hv;injection I with I
    rw[I];exact h3) (by simpa using RU) Y
   simpa using this
  |none=>
   have hd:ds=[]:=by
    cases ds with
    |nil=>rfl
    |cons u r=>obtain⟨ad',I,_⟩:=Q3 0 u rfl;cases I
   subst hd;have TH:=setRow_self J g cs.toArray tg (0,0) hc;simp[Builtin.copy_,run_underlying hu,Builtin.lenOf,Builtin.firstCells,sizeOf,typeInfo,R,storeCells,TH]
 simp[execOp,resolve,invoke,builtin,e1,e2,Py]
end
section
variable{P:Program}{τ:nO}{B nx:Nat}{l:Env}{H:Hp}{iv:Iv}{w J:World}{O:Nat->eD}
def zC{x:Operand}{FS:SV->Hp->Nat->Iv->World->Prop}{a:Option Addr}
  (hu:P.underlying t=some (.slice e)) (Z:ev l x=some (.o (.v (.slice a n c))))
  (hK:∀O J,Rel H nx iv B w O J->FS (.o (.v (.int .i64 c))) H nx iv J):yz P B ⟨dst,.call ⟨.builtin .cap,⟨[x]⟩,⟨[t]⟩⟩,ty,pos,after,guard⟩ l H nx iv w FS:=by
 refine⟨λO J ev' r TB=>⟨.int .i64 c,J,iv,.inl ?_,r.here,hK O J r⟩⟩;have e1:ev' x= .slice a n c:=TB x _ Z;simp[execOp,resolve,invoke,builtin,e1,Builtin.cap_,run_underlying hu,goInt]
def rE(z:Array Value)(n:Nat):(Builtin.zeroCells z n).size=n*z.size:=by simp[Builtin.zeroCells]
def De(h:0<n):Builtin.nextslicecap n 0=n:=by simp[Builtin.nextslicecap,h]
def Jh(w:World)(t tn ty e:TypeId)(i:TypeInfo)(z:Value)(ht:P.underlying t=some (.slice e))(htn:P.underlying tn=some (.int .i64))(R:P.info? e=some i)(hz:i.zero=some z)(Ww:z.cells.size=i.size)
  (n:Nat) (h0:0<n) (hs:0<i.size) (h63:n<=maxLen) (h48:n*i.bytes<=140737488355328) (Bc:Nat) (hB:Bc<=w.heap.size):
  ∃c F,(Builtin.append_ #[t,tn] ty #[.slice none 0 0,.int .i64 n]).run P w= .ok (.slice (some ⟨w.heap.size,0,none⟩) n c) F/\n<=c/\F.ownsRow Bc e i.size (.slice (some ⟨w.heap.size,0,none⟩) 0 c) 0 []/\w.grownBy F none/\F.heap.size=w.heap.size+1:=by
 have E:n≠0:=by omega
 have h63n:(n:Int)<=9223372036854775807:=by unfold maxLen at h63;omega
 have W:IntKind.i64.wrap (n:Int)=n:=wrap64 be h63n;have h63':¬(9223372036854775807<(n:Int)):=by omega
 have h48':¬(281474976710656<Builtin.nextslicecap n 0*i.bytes):=by rw[De h0];omega
 have h48i:¬(281474976710656<(n:Int)*(i.bytes:Int)):=by rw[<-Int.natCast_mul];omega
 have Rv:¬((n:Int)<0):=by omega
 have hns:¬(n*i.size=0):=Nat.mul_ne_zero E be;have Ud:=grownCap_ge w n 0 e;have hle:=grownCap_le_maxLen w n 0 e h63;refine⟨grownCap w n 0 e,w.drew.alloc (.cells (Builtin.zeroCells z.cells n++Builtin.zeroCells z.cells (grownCap w n 0 e-n)) e),?_,Ud,?_,?_,?_⟩
 .simp[Builtin.append_,run_underlying ht,run_underlying htn,sizeOf,typeInfo,zeroValue,R,hz,asInt,asIntOf,W,E,Rv,hns,h63',h48',h48i,Question.forced,run_firstCells_none,newRow,grownCap]
 .have:=World.ownsRow_made (e:=e) (size:=i.size) (base:=Bc) w.drew (Builtin.zeroCells z.cells n++Builtin.zeroCells z.cells (grownCap w n 0 e-n)) (grownCap w n 0 e) (by simpa using hB) hle (by
   rw[Array.size_append,rE,rE,Ww,<-Nat.add_mul];congr 1;omega)
  simpa using this
 .refine⟨rfl,rfl,rfl,ce,λj hj _=>?_⟩;simp[World.alloc,Array.getElem?_push,Nat.ne_of_lt hj];rfl
 .simp
def Ci(hτ:fk P τ)(hBc:Bc<=B){x:Operand}{tn k:Nat}
  {FS:SV->Hp->Nat->Iv->World->Prop}
  (ht:τ t=some ⟨sz0,ag,bt,ze,4,ik,e,al,fs⟩) (Qg:τ e=some ⟨sz,ag',by_,ze',tag',ik',e',al',fs'⟩) (htn:P.underlying tn=some (.int .i64)) (QV:0<sz) (Z:ev l x=some (.o (.v (.slice none 0 0)))) (hy:ev l y=some (.o (.v (.int .i64 k))))
  (h0:0<k) (Um:k<=maxLen) (N:k*by_<=140737488355328)
  (hK:∀O J F c,Rel H nx iv B w O J->k<=c->F.ownsRow Bc e sz (.slice (some ⟨J.heap.size,0,none⟩) 0 c) 0 []->J.grownBy F none->F.heap.size=J.heap.size+1->FS (.o (.v (.slice (some ⟨J.heap.size,0,none⟩) k c))) H nx ((J.heap.size,F.heap.size)::iv) F):
  yz P B ⟨dst,.call ⟨.builtin .append,⟨[x,y]⟩,⟨[t,tn]⟩⟩,ty,pos,after,guard⟩ l H nx iv w FS:=by
 refine⟨λO J ev' r TB=>?_⟩;have hu:=(hτ t _ ht).i4 rfl;simp only at hu;have SP:=hτ e _ Qg;obtain⟨inf,z,R,QG,QM,hz,Rt⟩:=SP.info;have Sj:=SP.FB;simp only at QG QM Rt Sj;have Ww:z.cells.size=inf.size:=by rw[QG,<-Sj,<-Rt];simp
 obtain⟨c,F,Y,I,h3,h4,h5⟩:=Jh (P:=P) J t tn ty e inf z hu htn R hz Ww k h0 be Um (by rw[QM];exact N) Bc (by have:=r.base;have:=r.size;omega);have e1:ev' x= .slice none 0 0:=TB x _ Z;have e2:ev' y= .int .i64 k:=TB y _ hy;refine⟨_,F,(J.heap.size,F.heap.size)::iv,.inl ?_,r.Cc h4.size (λid b h E=>h4.block _ (r.low id b h E).2 ce) (λlo R hm=>?_),hK O J F c r I (QG▸h3) h4 h5⟩
 .simp[execOp,resolve,invoke,builtin,e1,e2,Y]
 .rcases List.mem_cons.1 hm with h|h
  .injection h with h6 h7;subst h6 h7;exact⟨ae _,λid b N E=>by have:=(r.low id b N E).2;omega⟩
  .exact⟨by have:=r.oB lo R h;have:=r.size;omega,λid b N E=>r.jJ lo R h id b N E⟩
end
section
variable{P:Program}{τ:nO}{B nx:Nat}{l:Env}{H:Hp}{iv:Iv}{w J:World}{O:Nat->eD}
def strOf(bs:List Nat):ByteArray:=bs.foldl (λr n=>r.push (UInt8.ofNat n)) ByteArray.empty
def ki(bs:List Nat):(strOf bs).data=(bs.map UInt8.ofNat).toArray:=by
 have:∀(bs:List Nat) (s:ByteArray),(bs.foldl (λr n=>r.push (UInt8.ofNat n)) s).data=s.data++(bs.map UInt8.ofNat).toArray:=by
  intro bs
  induction bs with
  |nil=>intro s;simp
  |cons b r ih=>intro s;rw[List.foldl_cons,ih];simp[ByteArray.push]
 rw[strOf,this];simp
def NT{t d e ty id n bt:Nat}{x:Operand}{FS:SV->Hp->Nat->Iv->World->Prop}
  (hs:P.underlying t=some (.slice e)) (L:P.underlying e=some (.int .u8)) (hd:P.underlying d=some .string) (Z:ev l x=some (.o (.s id 0 n n))) (hH:dT H id=some (.box bt (bs.map λb:Nat=>At.v (.int .u8 (b:Int))))) (E:bs.length=n)
  (hK:∀O J,Rel H nx iv B w O J->FS (.o (.v (.string (strOf bs)))) H nx iv J):yz P B ⟨dst,.convert t d x,ty,pos,after,guard⟩ l H nx iv w FS:=by
 refine⟨λO J ev' r TB=>⟨.string (strOf bs),J,iv,.inl ?_,r.here,hK O J r⟩⟩;have e1:ev' x= .slice (some ⟨(O id).g,0,none⟩) n n:=TB x _ Z
 have hl:=run_loadCells_list (P:=P) (w:=J) ⟨(O id).g,0,none⟩ (bs.map λb:Nat=>Value.int .u8 (b:Int)) (λj v hv=>by
  rw[dD,cell_of (r.box id bt _ hH),aV];have:List.map (At.den O) (bs.map λb:Nat=>At.v (.int .u8 (b:Int)))=bs.map λb:Nat=>Value.int .u8 (b:Int):=by rw[List.map_map];rfl
  rw[this]
  exact hv)
 rw[aO,E]at hl;have:=run_bytesToString (P:=P) J ⟨(O id).g,0,none⟩ n n (bs.map λb:Nat=>(b:Int)) (by rw[hl,List.map_map];rfl);have I:=run_convert_bytes_string (P:=P) J t d e (some ⟨(O id).g,0,none⟩) n n hs L hd;have h3:(bs.map λb:Nat=>(b:Int)).foldl (λr n=>r.push (UInt8.ofNat n.toNat)) ByteArray.empty=strOf bs:=by
  rw[List.foldl_map];rfl
 rw[this,h3]at I;simp[execOp,e1,I]
end
def mi:∀(nv:List Value) (w:World) (b off:Nat) (cur:Array Value) (e:TypeId),w.heap[b]? =some (.cells cur e (0,0))->off+nv.length<=cur.size->
  (w.setCells b off nv).heap[b]? =some (.cells (cur.toList.take off++nv++cur.toList.drop (off+nv.length)).toArray e (0,0))
 |[],w,b,off,cur,e,h,_=>by simpa [World.setCells]using h
 |v::r,w,b,off,cur,e,h,hl=>by
  simp only[World.setCells]
  have Ta:off+(r.length+1)<=cur.size:=by simpa using hl
  have Y:(w.setCell ⟨b,off,none⟩ v).heap[b]? =some (.cells (cur.setIfInBounds off v) e (0,0)):=by
   simp[World.setCell,Array.getElem?_modify,h]
  rw[mi r _ b (off+1) _ e Y (by simp;omega)];congr 3;have Qa:cur.toList.length=cur.size:=by simp
  apply av;intro i;have e1:(cur.setIfInBounds off v).toList=cur.toList.set off v:=by simp
  rw[e1];rcases cO i off with R|R|R
  .rw[bg,bg,aN (by simp;omega),aN (by simp;omega),List.getElem?_take_of_lt be,List.getElem?_take_of_lt R,aX be]
  .subst R;rw[bg,bg,aN (by simp;omega),aP (by simp;omega),List.getElem?_take_of_lt be,aQ (by simp;omega)];have:(List.take i cur.toList).length=i:=by rw[bI];omega
   rw[this,bV];rfl
  .have l1:(List.take (off+1) (cur.toList.set off v)).length=off+1:=by rw[bI,bQ];omega
   have l2:(List.take off cur.toList).length=off:=by rw[bI];omega
   have hd:List.drop (off+1+r.length) (cur.toList.set off v)=List.drop (off+(v::r).length) cur.toList:=by
    rw[List.drop_set_of_lt be,bh];congr 1;omega
   obtain⟨k,rfl⟩:∃k,i=off+1+k:=⟨i-off-1,be⟩
   rw[bg,bg,hd];generalize List.drop (off+(v::r).length) cur.toList=tl;have Fn:(List.take (off+1) (cur.toList.set off v)++(r++tl))[off+1+k]? =(r++tl)[k]? :=by
    rw[aP be,l1];congr 1;omega
   have B:(List.take off cur.toList++((v::r)++tl))[off+1+k]? =(r++tl)[k]? :=by
    rw[aP be,l2,show off+1+k-off=k+1 by omega];rfl
   rw[Fn,B]
def mj:∀(nv:List Value) (w:World) (b off:Nat) {k:Nat},k≠b->(w.setCells b off nv).heap[k]? =w.heap[k]?
 |[],_,_,_,_,_=>rfl
 |v::r,w,b,off,k,K=>by
  simp only[World.setCells]
  rw[mj r _ b (off+1) K];simp[World.setCell,Array.getElem?_modify,Ne.symm K]
def pO:∀(vs:List Value) (w0:World) (b o:Nat),(w0.setCells b o vs).os=w0.os/\(w0.setCells b o vs).tape=w0.tape/\(w0.setCells b o vs).output=w0.output/\(w0.setCells b o vs).heap.size=w0.heap.size
 |[],_,_,_=>⟨rfl,rfl,rfl,rfl⟩
 |v::r,w0,b,o=>by
  simp only[World.setCells]
  obtain⟨Y,I,h3,h4⟩:=pO r (w0.setCell ⟨b,o,none⟩ v) b (o+1);exact⟨Y,I,h3,by rw[h4];simp⟩
def ml{w:World}{v:Value}{nv:List Value}{a:Option Addr}{j:Nat}(h:w.ownsRow Bc e sz v n xs)(hv:v= .slice a n c)(hj:j<n)(TK:nv.length=sz)(hs:0<sz):
  ∃g,a=some ⟨g,0,none⟩/\(∀k,k<sz->(w.cell? (Addr.add ⟨g,j*sz,none⟩ k)).isSome=true/\w.frozen? (Addr.add ⟨g,j*sz,none⟩ k)=false)/\
   (setCells w ⟨g,j*sz,none⟩ nv).ownsRow Bc e sz v n (xs.take (j*sz)++nv++xs.drop (j*sz+sz))/\w.grownBy (setCells w ⟨g,j*sz,none⟩ nv) (some g)/\(setCells w ⟨g,j*sz,none⟩ nv).heap.size=w.heap.size:=by
 rcases h.2 with⟨_,h0⟩|⟨g,cap,cur,S5,N,V,Uo,Rw,QX,Uz⟩
 .omega
 rw[hv]at S5;injection S5 with Y I h3;subst Y h3;have hjs:j*sz+sz<=n*sz:=by
  have:=Nat.mul_le_mul_right sz (show j+1<=n from hj);rw[Nat.add_mul,Nat.one_mul]at this;exact this
 have hns:n*sz<=c*sz:=Nat.mul_le_mul_right sz Uo;obtain⟨f1,f2,f3,f4⟩:=pO nv w g (j*sz);have Qt:=mi nv w g (j*sz) cur e V be;refine⟨g,rfl,λk K=>?_,?_,?_,?_⟩
 .rw[dD];refine⟨?_,?_⟩
  .rw[cell_of (g:=g) (cs:=cur.toList) (by simpa using V),aE (by simp;omega)];rfl
  .simp[World.frozen?,V]
 .rw[jL];refine⟨?_,.inr ⟨g,c,_,hv,N,Qt,Uo,Rw,?_,?_⟩⟩
  .simp only[aU,bI,List.length_drop,TK,h.1];omega
  .simp only[List.size_toArray,aU,bI,List.length_drop,TK,Array.length_toList];omega
  .subst Uz;have Qa:cur.toList.length=cur.size:=by simp
   have ha:List.drop (j*sz+sz) (List.take (n*sz) cur.toList)=(List.drop (j*sz+sz) cur.toList).take (n*sz-(j*sz+sz)):=by rw[List.drop_take]
   rw[ha,List.take_take,Nat.min_eq_left be];show List.take (n*sz) (_++nv++_)=_;rw[TK,List.take_append,bU (by simp;omega)];congr 2;simp only[aU,bI,TK]
   omega
 .rw[jL];exact⟨f1,f2,f3,by rw[f4];exact ae _,λk K Po=>mj nv w g _ (λe=>Po (by rw[e]))⟩
 .rw[jL];exact f4
structure aB8(P:Program)(kt:TypeId)(KS:Value->Prop):Prop where
 desc:∃fs,P.underlying kt=some (.struct fs)
 check:∀(w:World) (em:Bool) (v:Value),KS v->(Instr.checkKey em 10000 kt v).run P w= .ok () w
 eq:∀(w:World) (a b:Value),KS a->KS b->∃c,(Op.equal kt a b).run P w= .ok c w/\(c=true↔a=b)
section
variable{P:Program}{τ:nO}{B n nx:Nat}{l:Env}{H:Hp}{iv:Iv}{w J F:World}{O:Nat->eD}{a:Act}
def tN(v:eD)(iv:Iv):Iv:=match v.nil with
 |true=>iv
 |false=>(v.g,v.g+1)::iv
def Ji{v:eD}{iv:Iv}:∀p,p∈iv->p∈tN v iv:=λp hp=>by
 unfold tN
 cases v.nil with
 |true=>exact hp
 |false=>exact aD _ hp
def LP{v:eD}{iv:Iv}(h:v.nil=false):(v.g,v.g+1)∈tN v iv:=by
 unfold tN;rw[h];exact aF
def Rel.drop{H':Hp}{id:Nat}{b:jX}(r:Rel H nx iv B w O J)(RR:dT H id=some b)(hd:b≠ .dead)(hs:z7 H H')(ho:Gx id H'=true):Rel H' nx (tN (O id) iv) B J O J:=by
 have Y:Rel H' nx iv B J O J:=Rel.mk' rfl rfl rfl (ae _) (by have:=r.base;have:=r.size;omega) (λlo R hm=>by have:=r.oB lo R hm;have:=r.size;omega) (λj c h=>r.keys j c (hs.get h))
  (λj c h=>r.fits (hs.get h)) (λj c h=>r.scopd (hs.get h)) (λj k c e h h'=>r.inj j k c e (hs.get h) (hs.get h')) (λj c h=>r.low j c (hs.get h)) (λ_ _ _=>rfl) (λlo R hm j c h=>r.jJ lo R hm j c (hs.get h))
 unfold tN
 cases E:(O id).nil with
 |false=>exact r.free RR hd E hs ho
 |true=>exact Y
def HP(hτ:fk P τ){id3 id2 c1 t3:Nat}{c:At}{b2:jX}{x:Operand}{vx:SV}{FS:SV->Hp->Nat->Iv->World->Prop}
  (Z:ev l x=some vx) (hy:ev l y=some (.o (.s id3 0 1 c1))) (Yl:dT H id3=some (.box t3 [c])) (hid2:dT H id2=some b2) (RS:b2≠ .dead) (hs:z7 H tH) (WA:Gx id3 tH=true) (RD:Gx id2 tH=true)
  (hK:∀O J,Rel H nx iv B w O J->Rel tH nx (((O id3).g,(O id3).g+1)::tN (O id2) iv) B J O J->J.heap[(O id3).g]? =some (.cells #[c.den O] t3 (0,0))->
   zB τ B t vx (.o (.v (.slice (some ⟨(O id3).g,0,none⟩) 1 c1))) tH nx (((O id3).g,(O id3).g+1)::tN (O id2) iv) J (λv H' Pv=>FS v H' Pv (((O id3).g,(O id3).g+1)::tN (O id2) iv) J)):
  OpA P B ⟨dst,.call ⟨.builtin .append,⟨[x,y]⟩,⟨[t,t]⟩⟩,ty,pos,after,guard⟩ l H nx iv w FS:=by
 refine⟨λO J ev' r TB=>?_⟩;have e1:ev' x=vx.den O:=TB x _ Z;have e2:ev' y= .slice (some ⟨(O id3).g,0,none⟩) 1 c1:=TB y _ hy;have Ym:=(r.fits Yl).1;have r1:=r.drop hid2 RS hs RD;have r2:Rel tH nx (((O id3).g,(O id3).g+1)::tN (O id2) iv) B J O J:=by
  refine r1.more (by have:=(r.low id3 _ Yl Ym).2;omega) λj cc hj hnj L=>?_;obtain⟨I,h3⟩:=Gx.get WA hj;exact I (r.inj j id3 cc _ (hs.get hj) Yl h3 ce hnj Ym be)
 have sat:Sat 0 [] tH nx (((O id3).g,(O id3).g+1)::tN (O id2) iv) B J O ⟨#[],[]⟩ J:=⟨r2,rfl,rfl,(λu v hv=>by cases hv),λu v hv=>by cases hv⟩
 obtain⟨rr,H',Pv,F',F,K,Qs,hr,Vf,G8,Py⟩:=vA (ty:=ty) hτ sat (hK O J r r2 (by have:=r.box id3 _ _ Yl;simpa using this));refine⟨rr,H',Pv,_,F',J,F,?_,Qs,hr,Vf,G8,K⟩;have Py:(Builtin.append_ #[t,t] ty #[vx.den O,.slice (some ⟨(O id3).g,0,none⟩) 1 c1]).run P J= .ok (rr.den F') F:=Py;simp[execOp,resolve,invoke,builtin,e1,e2,Py]
end
end Go.Sx
