/- Texts Sx12 to Sx23: lemmas, each with its conditions. -/
import Derived.Laws.BytesString
import Derived.Test.YtgkpbdkechfgmaaGreatP1
namespace Go.Sx
open Go
variable{args:(Nat->dL)->Array Value}{Fn Q0 next:Act->World->Prop}{FS R':Ending->World->Prop}{k:Env->Prop}{l:List (Nat×TI)}{B g:Nat}{O:Nat->dL}{d:Option Tmp}{P:Program}
section
variable{P:Program}{τ:mn}{ops:Array Oper}{B n nx:Nat}{l:Env}{H:Hp}{iv:Iv}{w J:World}{O:Nat->dL}{a:Act}
variable{Pd:List Nat}{Fd:List (Nat×Nat)}{lx la:Array Bool}{Q:Exit->Act->World->Prop}{md:Region.Mode}
theorem D2(hr:Region.ready md ops la=[])(h:Q .normal a w):∀fuel,uf P md ops Q fuel la a w
 |0=>⟨hr,h⟩
 |_+1=>⟨fun _=>h,by rw[hr];simp⟩
theorem xy(sat:Sat n l H nx iv B w O a J){Fn:SV->Hp->Iv->World->Prop}{o:Oper}
  (h:D3 P B g args H nx iv w Fn) (Tf:(execOp a.eval o).run P J=(callFunc g (args O)).run P J)
  (Z:∀v V,Fn (.o (.v v)) H ((J.heap.size,V.heap.size)::iv) V->Ext J V->Sat n l H nx ((J.heap.size,V.heap.size)::iv) B V O a V->next (a.put o.dst v) V):o.wp P a J next Q:=by
 have hc:=h.h O J sat.rel;unfold Oper.wp;rw[Tf,hc.e.h];refine Calls.mono hc.c fun e V W=>?_;obtain⟨v,rfl,SG,hK⟩:=W;refine Z v V hK SG ?_;have r:=(sat.rel.ext SG).here;refine sat.next (G8:=O) ?_ (Nat.le_refl _) (fun _ _=>rfl)
 refine Rel.mk' r.os r.tape r.output r.size r.base ?_ r.keys (fun id b hb=>r.fits hb) (fun id b hb=>r.scopd hb) r.inj r.low r.ub ?_
 ·intro lo D hm;rcases List.mem_cons.1 hm with hm|hm
  ·injection hm with I X;omega
  ·exact r.qW lo D hm
 ·intro lo D hm id b hb Oe;rcases List.mem_cons.1 hm with hm|hm
  ·injection hm with I X;have:=(sat.rel.low id b hb Oe).2;omega
  ·exact r.ji lo D hm id b hb Oe
theorem xz{o:Oper}{Fn:SV->Hp->Nat->Iv->World->Prop}(h:xu true P τ B o l H nx iv w Fn)(sat:Sat n l H nx iv B w O a J)(hr:uc o.op=false)(ha:La o.op=false)(hh:rC o=false)
  (Z:∀v V,Fn (.o (.v v)) H nx ((J.heap.size,V.heap.size)::iv) V->Ext J V->Sat n l H nx ((J.heap.size,V.heap.size)::iv) B V O a V->next (a.put o.dst v) V):o.wp P a J next Q:=by
 obtain⟨dst,op,ty,pos,after,guard⟩:=o;simp only at hr ha;have:∃f args x,op= .call ⟨.value f,args,x⟩:=by
  simp only[rC,hr,ha,Bool.or_self,Bool.false_or,Bool.not_eq_false']at hh;split at hh
  ·exact⟨_,_,_,rfl⟩
  ·cases hh
 obtain⟨f,⟨args⟩,x,rfl⟩:=this;simp only[xu]at h;obtain⟨vf,I,hf,RF⟩:=dF sat h;obtain⟨vs,X,Qy,hss⟩:=qY sat I;have Rt:(args.toArray).map a.eval=nP O vs:=by
  apply Array.ext';simp[nP,Qy]
 split at X
 ·rename_i g first caps
  refine xy sat X ?_ (fun v V hK W hs=>Z v V hK W hs);simp[execOp,resolve,hf,SV.den,At.den,Deferred.ofValue,invoke,Rt]
 ·rename_i g ids;refine xy sat X ?_ (fun v V hK W hs=>Z v V hK W hs);simp[execOp,resolve,hf,SV.den,At.den,Deferred.ofValue,invoke,Rt]
 ·exact X.elim
def QN(Q0:Act->World->Prop):Exit->Act->World->Prop:=fun e a w=>e= .normal/\Q0 a w
theorem yA(sat:Sat n l H nx iv B w O a J){o:Oper}{yes no:Env->Prop}(h:so ops.toList o.guard l yes no)(G:o.guard=none\/Pd=[]):
  (Region.wanted o (yielded ops a.tmps)=true/\∃l',yes l'/\Sat n l' H nx iv B w O a J/\(Pd≠[]->l'=l))\/
  (Region.wanted o (yielded ops a.tmps)=false/\Pd=[]/\∃l',no l'/\Sat n l' H nx iv B w O a J):=by
 by_cases S1:o.guard=none
 ·rw[S1]at h;exact .inl ⟨by simp[Region.wanted,S1],l,h,sat,fun _=>rfl⟩
 ·have WO:=G.resolve_left S1;rcases k7 sat h with⟨I,l',X,N⟩|⟨I,l',X,N⟩
  ·exact .inl ⟨I,l',X,N,fun OS=>absurd WO OS⟩
  ·exact .inr ⟨I,WO,l',X,N⟩
theorem kk(sat:Sat n l H nx iv B w O a J){v:SV}(h:DZ d v l k)(hd:∀t,d=some t->t<n)(hv:v.sc nx):
  ∃l',k l'/\Sat n l' H nx iv B w O (a.put d (v.den O)) J/\∀t,fR l t=none->d≠some t->fR l' t=none:=by
 unfold DZ at h;split at h
 ·rename_i t;exact⟨_,h,sat.put (hd t rfl) hv,fun u hu OS=>by rw[eW,aI (fun e=>OS (by rw[e]))];exact hu⟩
 ·exact⟨l,h,sat,fun t ht _=>ht⟩
theorem pB{Q:Exit->Act->World->Prop}{i:Nat}{o:Oper}(D:ops[i]? =some o)
  (h:(Region.wanted o (yielded ops a.tmps)=true/\o.wp P a J Fn Q)\/(Region.wanted o (yielded ops a.tmps)=false/\Fn (a.put o.dst undef) J)):wpOp P ops Q i Fn a J:=by
 unfold wpOp;simp only[D]
 rcases h with⟨I,X⟩|⟨I,X⟩
 ·rw[if_pos I];exact .inl X
 ·rw[aI (by simp[I])];exact X
theorem JP(hτ:fT P τ)(OV:∀(j:Nat) o,ops[j]? =some o->∀d,o.dst=some d->d<n)(Ox:∀(j:Nat) (o:Oper) U b,ops[j]? =some o->o.op≠ .select U b)
  {Fn:KT} (hQ:∀l' H' OW E V G8 a' w3,Fn l' H' OW E V->Sat n l' H' OW E B V G8 a' w3->Q0 a' w3):
  ∀(m fuel:Nat) (π:List It) (lx la:Array Bool) (Pd:List Nat) (Fd:List (Nat×Nat)) (l:Env) (H:Hp) (nx:Nat) (iv:Iv) (w:World) (O:Nat->dL) (a:Act) (J:World),
   fuel+π.length=m->NB la<=fuel->oy ops π lx Pd=true->JK P τ B ops.toList π l H nx iv w Fn->Lb P ops n B Pd Fd lx la l H nx iv w O a J->uf P .any ops (QN Q0) fuel la a J:=by
 intro m
 induction m using Nat.strongRecOn with
 |_ m ih=>
 intro fuel π lx la Pd Fd l H nx iv w O a J hm WQ hc h s
 match π with
 |[]=>
  simp only[oy,aw,List.isEmpty_iff]at hc;obtain⟨hr,rfl⟩:=hc;refine D2 ?_ ⟨rfl,hQ _ _ _ _ _ _ _ _ h s.sat⟩ fuel;refine List.eq_nil_iff_forall_not_mem.2 fun j hj=>?_;obtain⟨I,o,X,N⟩:=eQ.1 hj;have:j∈Region.ready .any ops lx:=by
   refine eQ.2 ⟨?_,o,X,fun e W hb=>?_⟩
   ·have Ou:j<lx.size:=by rw[s.Lc,<-s.Lg];exact(ah.1 I).1
    rw[Array.getElem?_eq_getElem Ou]
    cases hb:lx[j]with
    |false=>rfl
    |true=>
     have:=(s.la j).2 (.inl (by rw[Array.getElem?_eq_getElem Ou,hb]));rw[I]at this;cases this
   ·rcases(s.la e.on).1 (N e W hb)with h4|⟨g,h4⟩
    ·exact h4
    ·exact absurd (s.Hn _ _ h4) (by simp)
  rw[hr]at this
  cases this
 | .p i::r=>
  obtain⟨o,ho,I⟩:=gU h;rw[bA]at ho;simp only[oy,ho,aw]at hc;obtain⟨⟨⟨⟨⟨⟨c1,c2⟩,c3⟩,c4⟩,c5⟩,c6⟩,c7⟩:=hc
  cases hd:o.dst with
  |none=>rw[hd]at c3;cases c3
  |some d=>
  rw[hd]at c3;obtain⟨b,v,mk,obj,hK,-,-,-,-,-,Vf⟩:=nQ hτ I s.sat c1;rw[hd]at hK;obtain⟨l',hl,QT,Ps⟩:=rk hK;have hmem:∀j∈Pd,j≠i:=fun j hj=>by
   have:=List.all_eq_true.1 c5 j hj;simpa only[Bool.not_eq_true',mq]using this
  have c6':∀j∈Pd,∀oj,ops[j]? =some oj->o.apart ops oj=true/\oj.apart ops o=true:=fun j hj oj Qx=>by
   have:=List.all_eq_true.1 c6 j hj;simpa only[Hl,Qx,aw]using this
  have hlxi:lx[i]? =some false:=by
   have:lx.getD i true=false:=by simpa using c4
   rw[au]at this
   cases L:lx[i]? with
   |none=>rw[L]at this;cases this
   |some b=>rw[L]at this;simp at this;rw[this]
  refine ih (fuel+r.length) (by simp only[List.length_cons]at hm;omega) fuel r lx la (i::Pd) Fd l' H nx iv w O a J rfl WQ c7 hl ?_;refine⟨⟨s.sat.rel,s.sat.size,s.sat.defers,fun t v hv=>s.sat.env t v (Ps t v hv).2,fun t v hv=>s.sat.sc t v (Ps t v hv).2⟩,s.Lc,s.Lg,s.la,fun j g G=>aC _ (s.Hn j g G),fun j hj=>?_,s.eg,s.inj,fun j hj j' hj' OS oj oj' N h4=>?_⟩
  ·rcases List.mem_cons.1 hj with rfl|hj
   ·refine⟨hlxi,o,d,mk,obj,ho,c1,by simpa using c2,⟨hd,by simpa using c3⟩,Vf,QT,fun g G=>absurd (s.Hn _ _ G) (fun Rd=>hmem _ Rd rfl)⟩
   ·obtain⟨h0,oj,dj,mkj,objj,g1,g2,g3,g4,g5,g6,g7⟩:=s.pd j hj;exact⟨h0,oj,dj,mkj,objj,g1,g2,g3,g4,g5,JN Ps g6,g7⟩
  ·rcases List.mem_cons.1 hj with e1|k1<;>rcases List.mem_cons.1 hj' with e2|k2
   ·exact absurd (e1.trans e2.symm) OS
   ·rw[e1,ho]at N;injection N with N;subst N;exact(c6' j' k2 oj' h4).1
   ·rw[e2,ho]at h4;injection h4 with h4;subst h4;exact(c6' j k1 oj N).2
   ·exact s.ap j k1 j' k2 OS oj oj' N h4
 | .x i::r=>
  obtain⟨o,ho,I⟩:=gU h;unfold gv at I;rw[bA]at ho;simp only[oy,ho,aw]at hc;obtain⟨⟨⟨⟨c1,c2⟩,c3⟩,c4⟩,c5⟩:=hc;have c2:i∈Region.ready .any ops lx:=by simpa using c2
  have c1:o.guard=none\/Pd=[]:=by simpa using c1
  have Qz:∀j∈Pd,j≠i->∀oj,ops[j]? =some oj->o.apart ops oj=true:=fun j hj PM oj Qx=>by
   have:=List.all_eq_true.1 c3 j hj;simpa only[Hl,Qx,Bool.or_eq_true,mq.2 PM,Bool.false_eq_true,false_or]using this
  obtain⟨Pt,o',Rv,hwait⟩:=eQ.1 c2;rw[ho]at Rv;injection Rv with Rv;subst Rv;simp only[List.length_cons]at hm;have VR:=OV i o ho;by_cases hE:∃g,(i,g)∈Fd
  ·
   obtain⟨g,G⟩:=hE;obtain⟨h0,o',d,mk',obj',g1,g2,g3,g4,g5,g6,g7⟩:=s.pd i (s.Hn i g G);rw[ho]at g1;injection g1 with g1;subst g1;rw[g3,FO g2]at I;have I:xu true P τ B o l H nx iv w fun v H' OW E J=>DZ o.dst v l fun l'=>JK P τ B ops.toList r l' H' OW E J Fn:=I;obtain⟨b,v,mk,obj,hK,Pf,hb,hv,Ve,QB,Vf⟩:=nQ hτ I s.sat g2;obtain⟨l',hl,s'⟩:=s.JO ho G hb hv Ve QB Vf hK VR Qz;exact ih (fuel+r.length) (by omega) fuel r _ _ _ _ _ _ _ _ _ _ _ _ rfl WQ c5 hl s'
  ·have Vd:∀g,(i,g)∉Fd:=fun g G=>hE ⟨g,G⟩;have RG:la[i]? =some false:=by
    have Ou:i<la.size:=by rw[s.Lg,<-s.Lc];exact(ah.1 Pt).1
    rw[Array.getElem?_eq_getElem Ou]
    cases hb:la[i]with
    |false=>rfl
    |true=>
     rcases(s.la i).1 (by rw[Array.getElem?_eq_getElem Ou,hb])with X|X
     ·rw[Pt]at X;cases X
     ·exact absurd X hE
   have SH:i∈Region.ready .any ops la:=eQ.2 ⟨RG,o,ho,fun e W hb=>(s.la e.on).2 (.inl (hwait e W hb))⟩;have Ue:=k6 RG;obtain⟨f,rfl⟩:∃f,fuel=f+1:=⟨fuel-1,by omega⟩
   cases hR:uc o.op with
   |true=>
    rw[hR]at c4;obtain⟨oz,Oa,Qo,hb3,SU⟩:=FL c4 s.Lc;have QL:∀j,oz j->la.getD j false=false:=fun j hj=>by
     cases hl:la.getD j false with
     |false=>rfl
     |true=>
      have hl:la[j]? =some true:=by
       rw[au]at hl
       cases L:la[j]? with
       |none=>rw[L]at hl;cases hl
       |some b=>rw[L]at hl;simp at hl;rw[hl]
      rcases(s.la j).1 hl with h4|⟨g,h4⟩
      ·have:=Qo j hj;rw[au,h4]at this;cases this
      ·exact absurd hj (hb3 j (s.Hn j g h4))
    have RH:∀j oj,ops[j]? =some oj->j≠i->la.getD j true=false->¬oz j->o.apart ops oj=true/\(Hm o.op=true\/rC oj=false):=by
     intro j oj Qx PM Rw Rx;have Sr:lx.getD j true=false:=by
      rw[au]at Rw ⊢
      cases L:lx[j]? with
      |none=>
       have:la[j]? =none:=by
        rw[Array.getElem?_eq_none_iff]at L ⊢;rw[s.Lg,<-s.Lc];exact L
       rw[this]at Rw;cases Rw
      |some b=>
       cases b with
       |false=>rfl
       |true=>rw[(s.la j).2 (.inl L)]at Rw;cases Rw
     exact SU j oj Qx PM Sr Rx
    rcases yA s.sat I c1 with⟨Y,l1,X,sat1,QT⟩|⟨Y,WO,l1,X,sat1⟩
    ·obtain⟨v,hK,Qy,OY⟩:=(lh hτ X sat1 hR).resolve_right (fun hh=>by have:=hh.1;rw[rn hR]at this;cases this);obtain⟨l2,N,sat2,Ps⟩:=kk sat1 hK VR Qy;refine sq (pu:=Hm o.op) (v:=v.den O) ho Ox (fun c a w hq=>?_) oz Oa f la a J QL RH SH (.inl ⟨Y,fun w3 W=>OY w3 (W.imp id fun W=>sat1.rel.ext W)⟩) ?_
     ·exact absurd hq.1 (by simp)
     ·refine ih (f+r.length) (by omega) f r _ _ _ _ _ _ _ _ _ _ _ _ rfl (by omega) c5 N (s.step Ox ho Vd Qz sat2 ?_ (fun _ _ _=>Ext.refl _) (fun g _ TE Rl _=>⟨TE,Rl⟩));intro j hj PM d hd OS;have QT:=QT (by intro e;rw[e]at hj;cases hj);subst QT;exact Ps d hd OS
    ·obtain⟨l2,N,sat2,Ps⟩:=kk (v:=.o (.v undef)) sat1 X VR trivial;refine sq (pu:=Hm o.op) (v:=undef) ho Ox (fun c a w hq=>?_) oz Oa f la a J QL RH SH (.inr ⟨Y,rfl⟩) ?_
     ·exact absurd hq.1 (by simp)
     ·refine ih (f+r.length) (by omega) f r _ _ _ _ _ _ _ _ _ _ _ _ rfl (by omega) c5 N (s.step Ox ho Vd Qz sat2 ?_ (fun _ _ _=>Ext.refl _) (fun g _ TE Rl _=>⟨TE,Rl⟩));intro j hj;rw[WO]at hj;cases hj
   |false=>
    rw[hR]at c4;simp only[aw]at c4;obtain⟨c4,c6⟩:=c4;have hpick:∀j∈Region.ready .any ops la,j=i\/(j≠i/\j∈Pd):=by
     intro j hj;by_cases PM:j=i
     ·exact .inl PM
     ·refine .inr ⟨PM,?_⟩;apply Decidable.byContradiction;intro hjP;obtain⟨k1,oj,k2,k3⟩:=eQ.1 hj;have:j∈Region.ready .any ops (DU lx (Pd.filter fun j=> !Nat.beq j i)):=by
       refine eQ.2 ⟨?_,oj,k2,fun e W hb=>?_⟩
       ·have Ou:j<(DU lx (Pd.filter fun j=> !Nat.beq j i)).size:=by rw[DY,s.Lc,<-s.Lg];exact(ah.1 k1).1
        rw[Array.getElem?_eq_getElem Ou]
        cases hb:(DU lx (Pd.filter fun j=> !Nat.beq j i))[j]with
        |false=>rfl
        |true=>
         rcases(xx _ lx j).1 (by rw[Array.getElem?_eq_getElem Ou,hb])with h4|⟨h4,_⟩
         ·have:=(s.la j).2 (.inl h4);rw[k1]at this;cases this
         ·exact absurd (List.mem_filter.1 h4).1 hjP
       ·rw[xx];rcases(s.la e.on).1 (k3 e W hb)with h4|⟨g,h4⟩
        ·exact .inl h4
        ·refine .inr ⟨List.mem_filter.2 ⟨s.Hn _ _ h4,?_⟩,?_⟩
         ·simp only[Bool.not_eq_true',mq]
          intro e2;rw[e2]at h4;exact Vd g h4
         ·have:=(s.pd _ (s.Hn _ _ h4)).1;exact(ah.1 this).1
      have:=List.all_eq_true.1 c6 j this;exact PM (eC this)
    refine⟨fun W=>(by rw[W]at SH;cases SH),fun j hj=>?_⟩;have Rw:=(eQ.1 hj).1;have hunj:=k6 Rw;rcases hpick j hj with rfl|⟨PM,hjP⟩
    ·
     refine pB ho ?_;rcases yA s.sat I c1 with⟨Y,l1,X,sat1,QT⟩|⟨Y,WO,l1,X,sat1⟩
     ·refine .inl ⟨Y,?_⟩;have hl1':∀k∈Pd,k≠j->∀(l2:Env),(∀t,fR l1 t=none->o.dst≠some t->fR l2 t=none)->∀d,fR l d=none->o.dst≠some d->fR l2 d=none:=by
       intro k R _ l2 Ps d hd OS;have QT:=QT (by intro e;rw[e]at R;cases R);subst QT;exact Ps d hd OS
      cases hA:La o.op with
      |true=>
       obtain⟨b,v,mk,obj,hK,Pf,hb,hv,Ve,QB,Vf⟩:=nQ hτ X sat1 hA;have PC:Rel ((nx,b)::H) (nx+1) iv B w (fh O nx ⟨J.heap.size,0,false⟩) (J.alloc obj):=
        sat1.rel.push b _ rfl rfl rfl (by simp) (fun k R=>heap_alloc_old _ _ R) (fun _=>⟨Nat.le_refl _,by simp⟩) (QB _ _ (heap_alloc_new _ _)) hb
       obtain⟨l2,N,sat2,Ps⟩:=kk (sat1.next PC (Nat.le_succ _) (fun id Oy=>fm id Oy)) hK VR hv;rw[Ve]at sat2;refine mU (v:=mk J.heap.size) (V:=J.alloc obj) (Vf J) ⟨fun _=>Ext.alloc _ _,?_⟩;refine ih (f+r.length) (by omega) f r _ _ _ _ _ _ _ _ _ _ _ _ rfl (by omega) c5 N (s.step Ox ho Vd Qz sat2 (fun k R TD=>hl1' k R TD l2 Ps) (fun _ _ _=>Ext.alloc _ _) (fun g G TE Rl _=>⟨fun id c hc Z W=>?_,Rl⟩));rw[cU]at hc;split at hc
       ·rename_i e;subst e;rw[dw]at W;simp only at W;omega
       ·have Pp:fh O nx ⟨J.heap.size,0,false⟩ id=O id:=(fm id (s.sat.rel.keys id c hc)).symm;rw[Pp]at Z W;exact TE id c hc Z W
      |false=>
       cases hH:rC o with
       |false=>
        rw[rL hH]at X;refine xz X sat1 hR hA hH fun v V hK W hs=>⟨fun _=>W,?_⟩
        obtain⟨l2,N,sat2,Ps⟩:=kk (v:=.o (.v v)) hs hK VR trivial;refine ih (f+r.length) (by omega) f r _ _ _ _ _ _ _ _ _ _ _ _ rfl (by omega) c5 N (s.step Ox ho Vd Qz sat2 (fun k R TD=>hl1' k R TD l2 Ps) (fun _ _ _=>W) (fun g G TE Rl _=>⟨TE,fun lo D hm hc=>?_⟩));rcases List.mem_cons.1 hm with hm|hm
        ·injection hm with e1 e2;omega
        ·exact Rl lo D hm hc
       |true=>
        have WO:Pd=[]:=by rw[hH]at c4;simpa using c4
        subst WO;refine nR hτ X sat1 fun v H' OW E V G8 w3 hK sat2 hv=>⟨fun hs=>(by rw[hs o ho]at hH;cases hH),?_⟩
        obtain⟨l2,N,sat3,Ps⟩:=kk sat2 hK VR hv;exact ih (f+r.length) (by omega) f r _ _ _ _ _ _ _ _ _ _ _ _ rfl (by omega) c5 N (s.step Ox ho Vd Qz sat3 (fun k R=>by cases R) (fun k R=>by cases R) (fun g _ _ _ R=>by obtain⟨k,R,_⟩:=R;cases R))
     ·refine .inr ⟨Y,fun _=>Ext.refl _,?_⟩;subst WO;obtain⟨l2,N,sat2,Ps⟩:=kk (v:=.o (.v undef)) sat1 X VR trivial;exact ih (f+r.length) (by omega) f r _ _ _ _ _ _ _ _ _ _ _ _ rfl (by omega) c5 N (s.step Ox ho Vd Qz sat2 (fun k R=>by cases R) (fun k R=>by cases R) (fun g _ _ _ R=>by obtain⟨k,R,_⟩:=R;cases R))
    ·
     refine s.early OV Ox hjP Rw fun E' a2 V W s'=>⟨fun _=>W,?_⟩
     exact ih (f+(r.length+1)) (by omega) f (.x i::r) lx _ Pd E' l H nx iv w O a2 V rfl (by omega) (by simp only[oy,ho,aw];exact⟨⟨⟨⟨by simpa using c1,by simpa using c2⟩,c3⟩,by rw[hR];simp only[aw];exact⟨c4,c6⟩⟩,c5⟩) h s'
theorem cI(hτ:fT P τ)(hm:P.follows .mixedOrders=true){Fn:KT}(π:List It)(hs:Region.noSelect ops=true)(hc:FM ops ops.size π 0 []=true)
  (h:JK P τ B ops.toList π l H nx iv w Fn):yB P B ops l H nx iv w Fn:=by
 rw[CB π (Array.replicate ops.size false) 0 [] (by simp) (fun j=>by rw[sn,au,Array.getElem?_replicate];split<;>rfl)]at hc;refine⟨fun n O a J OV sat Q hQ id=>?_⟩;refine wp_mono (Q':=Q) (c:=.region id ops true) (wp_region_any (Q:=QN (Q .normal)) hm (yC _ _ _ _ ?_)) (fun e a w hq=>by obtain⟨rfl,hq⟩:=hq;exact hq);refine JP hτ (fun j o ho d hd=>?_) (Region.noSelect_spec hs) hQ _ _ π _ _ [] [] l H nx iv w O a _ rfl ?_ hc h ?_
 ·have:=List.all_eq_true.1 OV o (aE (by rw[bA];exact ho));rw[hd]at this;have h5:d+1<=n:=by simpa [Nat.blt]using this
  exact h5
 ·unfold NB;refine aW List.countP_le_length ?_;simp
 ·refine⟨⟨sat.rel.drew,sat.size,sat.defers,sat.env,sat.sc⟩,by simp,by simp,fun j=>by simp,fun j g h=>(by cases h),fun j h=>(by cases h),fun j g h=>(by cases h),fun j g j' h=>(by cases h),fun j h=>(by cases h)⟩
end
def xU:List (Nat×TI)->Nat->Option TI
 |[],_=>none
 |(t,v)::r,u=>match Nat.beq t u with
  |true=>some v
  |false=>xU r u
def veq:Value->Value->Bool
 | .bool a,.bool b=>a==b
 | .int k n,.int j m=>pC k j&&decide (n=m)
 | .string a,.string b=>a.data.toList.isEmpty&&b.data.toList.isEmpty
 | .pointer none,.pointer none=>true
 | .slice none a b,.slice none c d=>Nat.beq a c&&Nat.beq b d
 | .map none,.map none=>true
 | .nilFunc,.nilFunc=>true
 | .nilIface,.nilIface=>true
 |_,_=>false
theorem Az{a b:IntKind}(h:pC a b=true):a=b:=by cases a<;>cases b<;>first|rfl|cases h
theorem NC{a b:Value}(h:veq a b=true):a=b/\a.oneCell'=true:=by
 unfold veq at h;split at h
 ·exact⟨by rw[eq_of_beq h],rfl⟩
 ·simp only[aw,decide_eq_true_eq]at h;exact⟨by rw[Az h.1,h.2],rfl⟩
 ·rename_i a b;simp only[aw,List.isEmpty_iff]at h;refine⟨?_,rfl⟩;have ha:a=⟨#[]⟩:=by
   obtain⟨⟨l⟩⟩:=a;simp only at h;rw[h.1]
  have hb:b=⟨#[]⟩:=by
   obtain⟨⟨l⟩⟩:=b;simp only at h;rw[h.2]
  rw[ha,hb]
 ·exact⟨rfl,rfl⟩
 ·simp only[aw]at h;exact⟨by rw[eC h.1,eC h.2],rfl⟩
 ·exact⟨rfl,rfl⟩
 ·exact⟨rfl,rfl⟩
 ·exact⟨rfl,rfl⟩
 ·cases h
def Lh:List Value->List Value->Bool
 |[],[]=>true
 |a::r,b::s=>veq a b&&Lh r s
 |_,_=>false
theorem Gx:∀{a b:List Value},Lh a b=true->a=b/\∀x∈b,x.oneCell'=true
 |[],[],_=>⟨rfl,by simp⟩
 |a::r,b::s,h=>by
  simp only[Lh,aw]at h;obtain⟨I,X⟩:=NC h.1;obtain⟨N,h4⟩:=Gx h.2;refine⟨by rw[I,N],fun x L=>?_⟩;rcases List.mem_cons.1 L with rfl|L
  ·rw[<-I];exact X
  ·exact h4 x L
 |[],_::_,h=>by cases h
 |_::_,[],h=>by cases h
def xV(P:Program):List Field->List (Nat×Nat)->Bool
 |[],[]=>true
 |f::r,(o,t)::s=>Nat.beq f.offset o&&Nat.beq f.type t&&(P.info? f.type).isSome&&xV P r s
 |_,_=>false
theorem yD{P:Program}:∀{a:List Field} {b:List (Nat×Nat)},xV P a b=true->a.map (fun f=>(f.offset,f.type))=b/\∀f∈a,(P.info? f.type).isSome=true
 |[],[],_=>⟨rfl,by simp⟩
 |f::r,(o,t)::s,h=>by
  simp only[xV,aw]at h;obtain⟨N,h4⟩:=yD h.2;refine⟨by rw[List.map_cons,N,eC h.1.1.1,eC h.1.1.2],fun x L=>?_⟩;rcases List.mem_cons.1 L with rfl|L
  ·exact h.1.2
  ·exact h4 x L
 |[],_::_,h=>by cases h
 |_::_,[],h=>by cases h
def isAgg:TypeDesc->Bool
 | .struct _=>true
 | .array _ _=>true
 |_=>false
def OA(a b:Bool):Bool:=match a with
 |true=>b
 |false=> !b
theorem Li{a b:Bool}(h:OA a b=true):a=b:=by cases a<;>cases b<;>first|rfl|cases h
def tokB(P:Program)(t:Nat)(i:TI):Bool:=
 (match P.info? t with
  |some inf=>Nat.beq inf.size i.size&&Nat.beq inf.bytes i.bytes&&(match inf.zero with
   |some z=>Lh z.cells.toList i.zero
   |none=>false)
  |none=>false)&&Nat.beq i.zero.length i.size&&
 (match P.underlying t with
  |some d=>OA (isAgg d) i.agg&&(match i.tag with
   |1=>(match d with
    | .int k=>pC k i.ik
    |_=>false)
   |2=>(match d with
    | .bool=>true
    |_=>false)
   |3=>(match d with
    | .string=>true
    |_=>false)
   |4=>(match d with
    | .slice e=>Nat.beq e i.elem
    |_=>false)
   |5=>(match d with
    | .struct fs=>xV P fs.toList i.fields
    |_=>false)
   |6=>(match d with
    | .array n e=>Nat.beq n i.CA&&Nat.beq e i.elem
    |_=>false)
   |_=>true)
  |none=>false)
theorem tok_of{t:Nat}{i:TI}(h:tokB P t i=true):FP P t i:=by
 simp only[tokB,aw]at h;obtain⟨⟨I,X⟩,N⟩:=h
 cases D:P.info? t with
 |none=>rw[D]at I;cases I
 |some inf=>
 rw[D]at I;simp only[aw]at I;obtain⟨⟨h4,h5⟩,h6⟩:=I
 cases hz:inf.zero with
 |none=>rw[hz]at h6;cases h6
 |some z=>
 rw[hz]at h6;obtain⟨h7,h8⟩:=Gx h6
 cases hu:P.underlying t with
 |none=>rw[hu]at N;cases N
 |some d=>
 rw[hu]at N;simp only[aw]at N;obtain⟨h9,h10⟩:=N;refine⟨⟨inf,z,D,eC h4,eC h5,hz,h7⟩,eC X,h8,⟨d,hu,?_⟩,fun e=>?_,fun e=>?_,fun e=>?_,fun e=>?_,fun e=>?_,fun e=>?_⟩
 ·rw[<-Li h9]
  cases d<;>rfl
 all_goals rw[e]at h10
 ·cases d with
  |int k=>simp only at h10;rw[<-Az h10];exact hu
  |_=>cases h10
 ·cases d with
  |bool=>exact hu
  |_=>cases h10
 ·cases d with
  |string=>exact hu
  |_=>cases h10
 ·cases d with
  |slice e=>simp only at h10;rw[<-eC h10];exact hu
  |_=>cases h10
 ·cases d with
  |struct fs=>simp only at h10;exact⟨fs,hu,yD h10⟩
  |_=>cases h10
 ·cases d with
  |array n e=>simp only[aw]at h10;rw[<-eC h10.1,<-eC h10.2];exact hu
  |_=>cases h10
theorem ND(h:l.all (fun p=>tokB P p.1 p.2)=true):fT P (xU l):=by
 intro t i D;have:(t,i)∈l:=by
  clear h
  induction l with
  |nil=>cases D
  |cons p r ih=>
   obtain⟨t0,i0⟩:=p;unfold xU at D;split at D
   ·rename_i hb;injection D with D;subst D;rw[eC hb];exact aG ..
   ·exact aC _ (ih D)
 exact tok_of (List.all_eq_true.1 h _ this)
theorem Ho{fn:Func}{c:Code}(hf:P.funcs[g]? =some fn)(hb:fn.body=some c)(Z:(fn.name== "runtime.NumGoroutine")=false):JQ P g:=
 ⟨fun args w=>by simp only[beq_eq_false_iff_ne]at Z;simp[callFunc,hf,hb,Z]⟩
theorem dx.mono{args:Array Value}{w:World}(h:dx P g args w FS)(k:∀e V,FS e V->R' e V):dx P g args w R':=
 ⟨h.e,Calls.mono h.c k⟩
abbrev dT(B:Nat)(w V:World):Prop:=RowKit.Below B w V
theorem dT.refl{w:World}:dT B w w:=RowKit.Below.refl _ _
theorem Rel.cL{H:Hp}{nx:Nat}{iv:Iv}{w J:World}(r:Rel H nx iv B w O J):dT B w J:=
 ⟨r.os,r.tape,r.output,r.size,fun k R=>r.ub k (by have:=r.base;omega) (fun id b h Z W=>by have:=(r.low id b h Z).1;omega)⟩
theorem dT.tr{a b c:World}(h:dT B a b)(k:dT B b c):dT B a c:=RowKit.Below.trans h k
theorem Ext.cL{a b:World}(h:Ext a b)(hB:B<=a.heap.size):dT B a b:=RowKit.Below.mono h hB
end Go.Sx
namespace Go.RowKit
open Go Go.Sx
theorem Below.cL{B:Nat}{a b:World}(h:RowKit.Below a.heap.size a b)(hB:B<=a.heap.size):RowKit.Below B a b:=RowKit.Below.mono h hB
end Go.RowKit
namespace Go.Sx
open Go
variable{args:(Nat->dL)->Array Value}{Id:(Nat->dL)->World->Value->World->Prop}{H:Hp}{n:Int}{iv:Iv}{B nx:Nat}{O:Nat->dL}{P:Program}
theorem cJ{w V:World}{a:Addr}(h:V.heap[a.block]? =w.heap[a.block]?):V.cell? a=w.cell? a:=by
 unfold World.cell?;rw[h]
theorem dT.cell{w V:World}(h:dT B w V){a:Addr}(ha:a.block<B):V.cell? a=w.cell? a:=cJ (h.block _ ha)
def D4(l:Env):Env->Prop
 |[]=>True
 |(u,v)::r=>fR l u=some v/\D4 l r
theorem D4.get{l:Env}:∀{t:Env},D4 l t->∀u v,fR t u=some v->fR l u=some v
 |[],_,u,v,h=>by cases h
 |(u0,v0)::r,h,u,v,G=>by
  rw[eW]at G;split at G
  ·rename_i e;subst e;injection G with G;subst G;exact h.1
  ·exact D4.get h.2 u v G
def l5(n:Nat):Env->Prop
 |[]=>True
 |(_,v)::r=>v.sc n/\l5 n r
theorem l5.get{n:Nat}:∀{t:Env},l5 n t->∀u v,fR t u=some v->v.sc n
 |[],_,u,v,h=>by cases h
 |(u0,v0)::r,h,u,v,G=>by
  rw[eW]at G;split at G
  ·injection G with G;subst G;exact h.1
  ·exact l5.get h.2 u v G
theorem Rel.aAP{w J:World}(r:Rel H nx iv B w O J):Rel H nx [] B w O J:=
 Rel.mk' r.os r.tape r.output r.size r.base (by simp) r.keys (fun id b h=>r.fits h) (fun id b h=>r.scopd h) r.inj r.low r.ub (by simp)
theorem Sub.reset{l tl:Env}{w J:World}(r:Rel H nx iv B w O J)(I:D4 l tl)(X:l5 nx tl):Sub B l nx O J ⟨tl,H,nx,[],J⟩:=
 ⟨O,r.here.aAP,fun u v hv=>⟨X.get u v hv,v,I.get u v hv,rfl⟩⟩
def eH(w:World)(Id:Value->World->Prop)(e:Ending)(V:World):Prop:=∃v,e= .returned v/\Ext w V/\Id v V
theorem cG{g:Nat}{w:World}{Fn:SV->Hp->Iv->World->Prop}
  (h:∀O J,Rel H nx iv B w O J->dx P g (args O) J (eH J (Id O J))) (hK:∀O J v V,Rel H nx iv B w O J->Ext J V->dT B w V->Id O J v V->Fn (.o (.v v)) H ((J.heap.size,V.heap.size)::iv) V):D3 P B g args H nx iv w Fn:=
 ⟨fun O J r=>(h O J r).mono fun e V ⟨v,I,X,N⟩=>⟨v,I,X,hK O J v V r X (r.cL.tr (X.cL (by have:=r.base;have:=r.size;omega))) N⟩⟩
theorem cE{g:Nat}{w w0:World}{Fn:SV->Hp->Iv->World->Prop}(Y:dT B w0 w)(Id:(Nat->dL)->World->Value->World->Prop)
  (h:∀O J,Rel H nx iv B w O J->dx P g (args O) J (eH J (Id O J))) (hK:∀O J v V E,Rel H nx iv B w O J->Ext J V->dT B w0 V->E=(J.heap.size,V.heap.size)::iv->Id O J v V->Fn (.o (.v v)) H E V):D3 P B g args H nx iv w Fn:=
 cG h fun O J v V r I X N=>hK O J v V _ r I (Y.tr X) rfl N
theorem mC{a:Nat×Nat}{E:Iv}(h:E=a::iv):∀p,p∈iv->p∈E:=h▸fun _ h=>aC _ h
theorem mN{a:Nat×Nat}{E:Iv}(h:E=a::iv):a∈E:=h▸aG
theorem wrap64(I: -9223372036854775808<=n)(X:n<=9223372036854775807):IntKind.wrap .i64 n=n:=by
 have e1:(2:Int)^64=18446744073709551616:=by decide
 have e2:(2:Int)^(64-1)=9223372036854775808:=by decide
 simp only[IntKind.wrap,IntKind.bits,IntKind.signed,e1,e2]
 by_cases h:n % 18446744073709551616≥9223372036854775808
 ·rw[if_pos (by simp[h])];omega
 ·rw[aI (by simp[h])];omega
theorem wo{r:Int}(h:(-9223372036854775808<=n/\n<=9223372036854775807)/\n=r:=by omega):IntKind.wrap .i64 n=r:=by rw[wrap64 h.1.1 h.1.2];exact h.2
theorem xW(I:0<=n)(X:n<18446744073709551616):IntKind.wrap .u64 n=n:=by
 have e1:(2:Int)^64=18446744073709551616:=by decide
 simp only[IntKind.wrap,IntKind.bits,IntKind.signed,e1,Bool.false_and,Bool.false_eq_true,if_false]
 omega
theorem xX(I:0<=n)(X:n<4294967296):IntKind.wrap .u32 n=n:=by
 have e1:(2:Int)^32=4294967296:=by decide
 simp only[IntKind.wrap,IntKind.bits,IntKind.signed,e1,Bool.false_and,Bool.false_eq_true,if_false]
 omega
end Go.Sx
namespace Go.Sx
open Go
variable{args:(Nat->dL)->Array Value}{Id:(Nat->dL)->World->Value->World->Prop}{next:Act->World->Prop}{after:Array Edge}{es:Array MapEntry}{ag ag':Bool}{Q:Exit->Act->World->Prop}{tH:Hp}{m:Int}{ik ik' k:IntKind}{Fn:KT}{fs fs':List (Nat×Nat)}{U cs2 ks xs ze:List Value}{B bt clock g id r sz t tag' ty:Nat}{O:Nat->dL}{i y:Operand}{guard:Option (Nat×Bool)}{row:Option Nat}{dst:Option Tmp}{pos:String}{key z:Value}{KS:Value->Prop}
section
variable{P:Program}{τ:mn}{B nx:Nat}{l:Env}{H:Hp}{iv:Iv}{w J V:World}{O:Nat->dL}
theorem Rel.D5{OU:Iv}(r:Rel H nx iv B w O J)(Oj:J.heap.size<=V.heap.size)(RY:∀id b,cV H id=some b->(O id).nil=false->V.heap[(O id).g]? =J.heap[(O id).g]?)
  (Vg:∀lo D,(lo,D)∈OU->D<=V.heap.size/\∀id b,cV H id=some b->(O id).nil=false->¬(lo<=(O id).g/\(O id).g<D)):Rel H nx OU B V O V:=
 Rel.mk' rfl rfl rfl (Nat.le_refl _) (by have:=r.base;have:=r.size;omega) (fun lo D h=>(Vg lo D h).1) r.keys
  (fun id b h=>jh.gV (r.fits h) (fun _ _=>rfl) (r.scopd h) (fun Z _=>RY id b h Z)) (fun id b h=>r.scopd h) r.inj
  (fun id b h Z=>by have:=r.low id b h Z;omega) (fun _ _ _=>rfl) (fun lo D h=>(Vg lo D h).2)
theorem yE(hτ:fT P τ){Bc:Nat}(hBc:Bc<=B){x:Operand}{e by_ k m:Nat}{ze':List Value}{sz0 e' al al':Nat}
  {v:Value} {vy:SV} {news:List Value} {Fn:SV->Hp->Nat->Iv->World->Prop}
  (ht:τ t=some ⟨sz0,ag,bt,ze,4,ik,e,al,fs⟩) (PW:τ e=some ⟨sz,ag',by_,ze',tag',ik',e',al',fs'⟩) (PI:0<sz) (L:ev l x=some (.o (.v v))) (hy:ev l y=some vy)
  (SI:∀O J,Rel H nx iv B w O J->J.ownsRow Bc e sz v m xs/\∀g,v.ownBlock=some g->∀id b,cV H id=some b->(O id).nil=false->(O id).g≠g)
  (RU:news.length=k*sz) (S2:∀u∈news,u.oneCell'=true) (Qq:m+k<=maxLen) (hb:(m+k)*by_<=140737488355328)
  (src:∀O J,Rel H nx iv B w O J->(∃c,vy.den O= .slice none 0 c/\k=0)\/∃ad c,vy.den O= .slice (some ad) k c/\∀(j:Nat) u,news[j]? =some u->J.cell? (ad.add j)=some u)
  (OU:Value->World->Iv)
  (Vg:∀O J v' V,Rel H nx iv B w O J->J.heap.size<=V.heap.size->(∀g,v'.ownBlock=some g->g<V.heap.size/\(v.ownBlock=some g\/g=J.heap.size))->∀lo D,(lo,D)∈OU v' V->D<=V.heap.size/\∀id b,cV H id=some b->(O id).nil=false->¬(lo<=(O id).g/\(O id).g<D))
  (hK:∀O J v' V,Rel H nx iv B w O J->V.ownsRow Bc e sz v' (m+k) (xs++news)->J.grownBy V v.ownBlock->(v'.ownBlock=v.ownBlock\/v'.ownBlock=some J.heap.size)->Fn (.o (.v v')) H nx (OU v' V) V):
  yF P B ⟨dst,.call ⟨.builtin .append,⟨[x,y]⟩,⟨[t,t]⟩⟩,ty,pos,after,guard⟩ l H nx iv w Fn:=by
 refine⟨fun O J ev' r Qr=>?_⟩;have hto:=hτ t _ ht;have hu:=hto.i4 rfl;simp only at hu;have Rn:=hτ e _ PW;obtain⟨inf,z,D,Oj,Oq,hz,RV⟩:=Rn.info;have Re:=Rn.Hq;simp only at Oj Oq RV Re;have hzs:z.cells.size=sz:=by rw[<-Re,<-RV];simp
 obtain⟨OR,OS⟩:=SI O J r;have key:∃v' V,(Builtin.append_ #[t,t] ty #[v,vy.den O]).run P J= .ok v' V/\V.ownsRow Bc e sz v' (m+k) (xs++news)/\J.grownBy V v.ownBlock/\(v'.ownBlock=v.ownBlock\/v'.ownBlock=some J.heap.size):=by
  rcases src O J r with⟨c,hv,rfl⟩|⟨ad,c,hv,PJ⟩
  ·have:news=[]:=List.eq_nil_of_length_eq_zero (by simpa using RU);subst this;rw[hv];exact⟨v,J,kp J Bc t ty e inf sz hu D v m xs OR c,by simpa using OR,⟨rfl,rfl,rfl,Nat.le_refl _,fun _ _ _=>rfl⟩,.inl rfl⟩
  ·rw[hv];obtain⟨v',V,I,X,N,_,h5⟩:=run_append_own_at (P:=P) J Bc t ty e inf z sz by_ hu D hz Oj Oq hzs PI v m xs OR ad k c news RU PJ S2 Qq hb (by have:=r.base;have:=r.size;omega);exact⟨v',V,I,X,N,h5⟩
 obtain⟨v',V,I,X,N,h4⟩:=key;have e1:=Qr x _ L;have e2:=Qr y _ hy;have RI:∀g,v'.ownBlock=some g->g<V.heap.size/\(v.ownBlock=some g\/g=J.heap.size):=fun g G=>by
  refine⟨?_,?_⟩
  ·rcases X.2 with⟨rfl,_⟩|⟨g',cap,cur,rfl,_,hc,_⟩
   ·cases G
   ·simp only[Value.ownBlock,Option.some.injEq]at G;subst G;exact(ah.1 hc).1
  ·rcases h4 with h4|h4
   ·exact .inl (h4▸G)
   ·rw[h4]at G;injection G with G;exact .inr G.symm
 refine⟨v',V,OU v' V,.inl ?_,r.D5 N.size (fun id b h Z=>N.block _ (r.low id b h Z).2 (fun e=>OS _ e.symm id b h Z rfl)) (Vg O J v' V r N.size RI),hK O J v' V r X N h4⟩;have e1:ev' x=v:=e1;generalize vy.den O=yy at*
 simp[execOp,resolve,invoke,builtin,e1,e2,I]
theorem dT.grown{B0:Nat}(h:J.grownBy V row)(hr:∀g,row=some g->B0<=g)(hB:B0<=J.heap.size):dT B0 J V:=
 ⟨h.os,h.tape,h.output,h.size,fun k R=>h.block k (by omega) (fun e=>by have:=hr k e.symm;omega)⟩
theorem ownsRow.low{e m:Nat}{v:Value}(h:w.ownsRow B e sz v m xs):∀g,v.ownBlock=some g->B<=g/\g<w.heap.size:=by
 intro g G;rcases h.2 with⟨rfl,_⟩|⟨g',cap,cur,rfl,hb,hc,_⟩
 ·cases G
 ·simp only[Value.ownBlock,Option.some.injEq]at G;subst G;exact⟨hb,(ah.1 hc).1⟩
theorem ownsRow.cC{e m:Nat}{v:Value}(h:w.ownsRow B e sz v m xs)(R:∀g,v.ownBlock=some g->V.heap[g]? =w.heap[g]?):V.ownsRow B e sz v m xs:=by
 refine⟨h.1,?_⟩;rcases h.2 with I|⟨g',cap,cur,rfl,hb,hc,X⟩
 ·exact .inl I
 ·exact .inr ⟨g',cap,cur,rfl,hb,by rw[R g' rfl];exact hc,X⟩
end
def At.DQ(f:Nat->Nat):At->At
 | .v x=>.v x
 | .p id off=>.p (f id) off
 | .s id off len cap=>.s (f id) off len cap
 | .w id len=>.w (f id) len
 | .fn g caps=>.fn g (caps.map f)
def SV.DQ(f:Nat->Nat):SV->SV
 | .o x=>.o (x.DQ f)
 | .a U=>.a (U.map (At.DQ f))
def jh.DQ(f:Nat->Nat):jh->jh
 | .box t U=>.box t (U.map (At.DQ f))
 | .arr t U=>.arr t U
 | .vec t size U=>.vec t size U
 | .dead=>.dead
theorem At.ss(f:Nat->Nat)(O:Nat->dL)(x:At):(x.DQ f).den O=x.den (fun i=>O (f i)):=by
 cases x<;>simp[At.DQ,At.den]
theorem SV.ss(f:Nat->Nat)(O:Nat->dL)(x:SV):(x.DQ f).den O=x.den (fun i=>O (f i)):=by
 cases x with
 |o x=>exact At.ss f O x
 |a U=>
  have:At.den O ∘ At.DQ f=At.den (fun i=>O (f i)):=funext fun x=>At.ss f O x;simp[SV.DQ,SV.den,this]
def yG:List (Nat×Nat)->Nat->Nat
 |[],n=>n
 |(a,b)::r,n=>match Nat.beq a n with
  |true=>b
  |false=>yG r n
def BA(f:Nat->Nat)(l:Env):Env->Prop
 |[]=>True
 |(u,v)::r=>fR l u=some (v.DQ f)/\BA f l r
def BB(f:Nat->Nat)(H:Hp):Hp->Prop
 |[]=>True
 |(u,b)::r=>cV H (f u)=some (b.DQ f)/\BB f H r
def NF(n:Nat):Hp->Prop
 |[]=>True
 |(u,b)::r=>(u<n/\b.scopd n)/\NF n r
def JR(f:Nat->Nat):Hp->Bool
 |[]=>true
 |(u,_)::r=>r.all (fun p=>Nat.beq p.1 u|| !Nat.beq (f p.1) (f u))&&JR f r
theorem BA.get{f:Nat->Nat}{l:Env}:∀{t:Env},BA f l t->∀u v,fR t u=some v->fR l u=some (v.DQ f)
 |[],_,u,v,h=>by cases h
 |(u0,v0)::r,h,u,v,G=>by
  rw[eW]at G;split at G
  ·rename_i e;subst e;injection G with G;subst G;exact h.1
  ·exact BA.get h.2 u v G
theorem BB.get{f:Nat->Nat}{l:Hp}:∀{t:Hp},BB f l t->∀u v,cV t u=some v->cV l (f u)=some (v.DQ f)
 |[],_,u,v,h=>by cases h
 |(u0,v0)::r,h,u,v,G=>by
  rw[cU]at G;split at G
  ·rename_i e;subst e;injection G with G;subst G;exact h.1
  ·exact BB.get h.2 u v G
theorem NF.get{n:Nat}:∀{t:Hp},NF n t->∀u b,cV t u=some b->u<n/\b.scopd n
 |[],_,u,v,h=>by cases h
 |(u0,v0)::r,h,u,v,G=>by
  rw[cU]at G;split at G
  ·rename_i e;subst e;injection G with G;subst G;exact h.1
  ·exact NF.get h.2 u v G
theorem D6:∀{t:Hp} {u:Nat} {b:jh},cV t u=some b->∃p∈t,p.1=u
 |[],u,b,h=>by cases h
 |(u0,v0)::r,u,b,h=>by
  rw[cU]at h;split at h
  ·rename_i e;exact⟨_,aG ..,e⟩
  ·obtain⟨p,I,X⟩:=D6 h;exact⟨p,aC _ I,X⟩
theorem BC{f:Nat->Nat}:∀{t:Hp},JR f t=true->∀u v b c,cV t u=some b->cV t v=some c->f u=f v->u=v
 |[],_,u,v,b,c,h,_,_=>by cases h
 |(u0,v0)::r,D,u,v,b,c,hu,hv,W=>by
  simp only[JR,aw]at D;have key:∀{w:Nat} {d:jh},cV r w=some d->f w=f u0->w=u0:=fun{w d} Y hf=>by
   obtain⟨p,hp,rfl⟩:=D6 Y;have:=List.all_eq_true.1 D.1 p hp;simp only[Bool.or_eq_true,Bool.not_eq_true']at this;rcases this with h|h
   ·exact eC h
   ·rw[hf,Nat.beq_refl]at h;cases h
  rw[cU]at hu hv;split at hu<;>split at hv
  ·rename_i x y;rw[<-x,<-y]
  ·rename_i x y;subst x;exact(key hv W.symm).symm
  ·rename_i x y;subst y;exact key hu W
  ·exact BC D.2 u v b c hu hv W
theorem Sub.gen{l tl:Env}{nx OW:Nat}{H:Hp}{iv E:Iv}{w J:World}(m:List (Nat×Nat))(r:Rel H nx iv B w O J)
  (hH:BB (yG m) H tH) (hE:BA (yG m) l tl) (hsH:NF OW tH) (hsE:l5 OW tl) (D:JR (yG m) tH=true) (Vg:∀lo D,(lo,D)∈E->(lo,D)∈iv):Sub B l nx O J ⟨tl,tH,OW,E,J⟩:=by
 refine⟨fun i=>O (yG m i),(?_:Rel tH OW E B J (fun i=>O (yG m i)) J),fun u v hv=>⟨hsE.get u v hv,_,hE.get u v hv,SV.ss _ _ _⟩⟩;refine Rel.mk' rfl rfl rfl (Nat.le_refl _) (by have:=r.base;have:=r.size;omega) (fun lo D h=>by have:=r.qW lo D (Vg lo D h);have:=r.size;omega) (fun id b h=>(hsH.get id b h).1) ?_ (fun id b h=>(hsH.get id b h).2) ?_ ?_ (fun _ _ _=>rfl) ?_
 ·intro id b h;have I:=r.fits (hH.get id b h);have hr:At.den O ∘ At.DQ (yG m)=At.den (fun i=>O (yG m i)):=funext fun x=>At.ss _ O x
  cases b with
  |box t U=>simpa [jh.DQ,jh.fits,hr]using I
  |arr t U=>exact I
  |vec t size U=>exact I
  |dead=>trivial
 ·intro id id' b b' h h' hd WN Z hn' W;refine BC D id id' b b' h h' (r.inj _ _ _ _ (hH.get id b h) (hH.get id' b' h') ?_ ?_ Z hn' W)
  ·cases b<;>first|(exact absurd rfl hd)|simp[jh.DQ]
  ·cases b'<;>first|(exact absurd rfl WN)|simp[jh.DQ]
 ·intro id b h Z;exact r.low _ _ (hH.get id b h) Z
 ·intro lo Sp h id b hb Z;exact r.ji lo Sp (Vg lo Sp h) _ _ (hH.get id b hb) Z
theorem Sub.gn{l tl:Env}{nx OW:Nat}{H:Hp}{iv E:Iv}{w J:World}(m:List (Nat×Nat))(r:Rel H nx iv B w O J)
  (hH:BB (yG m) H tH:=by repeat' first|exact trivial|refine⟨rfl,?_⟩) (hE:BA (yG m) l tl:=by repeat' first|exact trivial|refine⟨rfl,?_⟩) (hsH:NF OW tH:=by simp[NF,jh.scopd,At.sc]) (hsE:l5 OW tl:=by simp[l5,SV.sc,At.sc,iW]) (D:JR (yG m) tH=true:=by rfl) (Vg:∀lo D,(lo,D)∈E->(lo,D)∈iv:=by first|exact fun _ _ h=>h|simp):Sub B l nx O J ⟨tl,tH,OW,E,J⟩:=Sub.gen m r hH hE hsH hsE D Vg
def ug(H:Hp):Hp->Prop
 |[]=>True
 |(u,b)::r=>cV H u=some b/\ug H r
def CC(id:Nat):Hp->Bool
 |[]=>true
 |(_,.dead)::_=>false
 |(u,_)::r=> !Nat.beq u id&&CC id r
theorem ug.get{H:Hp}:∀{t:Hp},ug H t->∀{u b},cV t u=some b->cV H u=some b
 |[],_,u,b,h=>by cases h
 |(v,c)::r,hs,u,b,h=>by
  unfold cV at h;split at h
  ·rename_i e;injection h with h;subst h;have:=bM e;subst this;exact hs.1
  ·exact ug.get hs.2 h
theorem CC.get{id:Nat}:∀{t:Hp},CC id t=true->∀{u b},cV t u=some b->u≠id/\b≠ .dead
 |[],_,u,b,h=>by cases h
 |(v,c)::r,hs,u,b,h=>by
  unfold cV at h;split at h
  ·rename_i e;injection h with h;subst h;have:=bM e;subst this;have hv:v.beq id=false->v≠id:=fun h e=>by rw[e,Nat.beq_refl]at h;cases h
   cases c<;>simp_all [CC]
  ·refine CC.get (t:=r) ?_ h
   cases c<;>simp_all [CC]
section
variable{P:Program}{B nx:Nat}{H H':Hp}{iv:Iv}{w J V:World}{O:Nat->dL}
theorem Rel.free{b:jh}(r:Rel H nx iv B w O J)(Oy:cV H id=some b)(hd:b≠ .dead)(Z:(O id).nil=false)(hs:ug H H')(ho:CC id H'=true):Rel H' nx (((O id).g,(O id).g+1)::iv) B J O J:=by
 have I:Rel H' nx iv B J O J:=Rel.mk' rfl rfl rfl (Nat.le_refl _) (by have:=r.base;have:=r.size;omega) (fun lo D hm=>by have:=r.qW lo D hm;have:=r.size;omega) (fun j c h=>r.keys j c (hs.get h))
  (fun j c h=>r.fits (hs.get h)) (fun j c h=>r.scopd (hs.get h)) (fun j k c e h h'=>r.inj j k c e (hs.get h) (hs.get h')) (fun j c h=>r.low j c (hs.get h)) (fun _ _ _=>rfl) (fun lo D hm j c h=>r.ji lo D hm j c (hs.get h))
 refine I.more (by have:=(r.low id b Oy Z).2;omega) fun j c hj WR W=>?_;obtain⟨X,N⟩:=CC.get ho hj;exact X (r.inj j id c b (hs.get hj) Oy N hd WR Z (by omega))
theorem gO{Fn:SV->Hp->Iv->World->Prop}(id:Nat){b:jh}(Oy:cV H id=some b)(hd:b≠ .dead)(hs:ug H H')(ho:CC id H'=true)
  (Z:∀O J,Rel H nx iv B w O J->(O id).nil=false)
  (hc:∀O J,Rel H nx iv B w O J->dx P g (args O) J (eH J (Id O J)))
  (h:∀O J v V,Rel H nx iv B w O J->Ext J V->dT B w V->Id O J v V->Fn (.o (.v v)) H' (((O id).g,(O id).g+1)::(J.heap.size,V.heap.size)::iv) V):BD P B g args H nx iv w Fn:=
 ⟨fun O J r=>⟨(hc O J r).e,Calls.mono (hc O J r).c fun e V W=>by
  obtain⟨v,I,X,N⟩:=W;have r2:Rel H nx ((J.heap.size,V.heap.size)::iv) B V O V:=(r.ext X).here.more (Nat.le_refl _) (fun j c hj Z=>by have:=(r.low j c hj Z).2;omega)
  exact⟨v,H',_,I,r2.free Oy hd (Z O J r) hs ho,h O J v V r X (r.cL.tr (X.cL (by have:=r.base;have:=r.size;omega))) N⟩⟩⟩
end
inductive Tr where
 |nil
 |one (i:Nat) (t:Tr)
 |two (i:Nat) (t:Tr) (j:Nat) (u:Tr)
def Tr.depth:Tr->Nat
 | .nil=>0
 | .one _ t=>t.depth+1
 | .two _ t _ u=>max t.depth u.depth+1
def vq(ops:Array Oper):Tr->Array Bool->Bool
 | .nil,la=>(Region.ready .any ops la).isEmpty
 | .one i t,la=>match Region.ready .any ops la with
  |[x]=>Nat.beq x i&&vq ops t (la.setIfInBounds i true)
  |_=>false
 | .two i t j u,la=>match Region.ready .any ops la with
  |[x,y]=>Nat.beq x i&&(Nat.beq y j&&(vq ops t (la.setIfInBounds i true)&&vq ops u (la.setIfInBounds j true)))
  |_=>false
def JS(P:Program)(τ:mn)(B:Nat)(all:List Oper):Tr->Env->Hp->Nat->Iv->World->KT->Prop
 | .nil,l,H,nx,iv,w,Fn=>Fn l H nx iv w
 | .one i t,l,H,nx,iv,w,Fn=>rf all i (fun o=>gv false P τ B all o l H nx iv w (fun l' H' OW E J=>JS P τ B all t l' H' OW E J Fn))
 | .two i t j u,l,H,nx,iv,w,Fn=>rf all i (fun o=>gv false P τ B all o l H nx iv w (fun l' H' OW E J=>JS P τ B all t l' H' OW E J Fn))/\
   rf all j (fun o=>gv false P τ B all o l H nx iv w (fun l' H' OW E J=>JS P τ B all u l' H' OW E J Fn))
section
variable{P:Program}{τ:mn}{ops:Array Oper}{B n nx:Nat}{l:Env}{H:Hp}{iv:Iv}{w J:World}{O:Nat->dL}{a:Act}
theorem CD(hτ:fT P τ)(OV:∀(j:Nat) o,ops[j]? =some o->∀d,o.dst=some d->d<n){i:Nat}
  (h:rf ops.toList i (fun o=>gv false P τ B ops.toList o l H nx iv w Fn)) (sat:Sat n l H nx iv B w O a J)
  (Z:∀l' H' OW E V G8 a' w3,Fn l' H' OW E V->Sat n l' H' OW E B V G8 a' w3->next a' w3):wpOp P ops Q i next a J:=by
 obtain⟨o,ho,I⟩:=gU h;rw[bA]at ho;have hd:=OV i o ho;unfold gv at I;refine pB ho ?_;rcases k7 sat I with⟨Y,l1,X,sat1⟩|⟨Y,l1,X,sat1⟩
 ·refine .inl ⟨Y,nR hτ X sat1 fun v H' OW E V G8 w3 N sat2 hv=>?_⟩;obtain⟨l2,h4,sat3⟩:=iJ sat2 N hd hv;exact Z _ _ _ _ _ _ _ _ h4 sat3
 ·obtain⟨l2,h4,sat3⟩:=iJ sat1 X hd trivial;exact .inr ⟨Y,Z _ _ _ _ _ _ _ _ h4 sat3⟩
theorem sw(hτ:fT P τ)(OV:∀(j:Nat) o,ops[j]? =some o->∀d,o.dst=some d->d<n){Fn:KT}{Q:Exit->Act->World->Prop}
  (hQ:∀l' H' OW E V G8 a' w3,Fn l' H' OW E V->Sat n l' H' OW E B V G8 a' w3->Q .normal a' w3):
  ∀(t:Tr) (fuel:Nat) (la:Array Bool) (l:Env) (H:Hp) (nx:Nat) (iv:Iv) (w:World) (O:Nat->dL) (a:Act) (J:World),t.depth<=fuel->vq ops t la=true->JS P τ B ops.toList t l H nx iv w Fn->Sat n l H nx iv B w O a J->wpAny P .any ops Q fuel la a J
 | .nil,fuel,la,l,H,nx,iv,w,O,a,J,_,hc,h,s=>by
  simp only[vq,List.isEmpty_iff]at hc;have hq:=hQ _ _ _ _ _ _ _ _ h s
  cases fuel with
  |zero=>exact⟨hc,hq⟩
  |succ fuel=>exact⟨fun _=>hq,fun i D=>by rw[hc]at D;cases D⟩
 | .one i t,fuel,la,l,H,nx,iv,w,O,a,J,hf,hc,h,s=>by
  simp only[Tr.depth]at hf;obtain⟨fuel,rfl⟩:∃q,fuel=q+1:=⟨fuel-1,by omega⟩
  simp only[vq]at hc;split at hc
  ·rename_i x hr;simp only[aw]at hc;have L:=bM hc.1;subst L;refine⟨fun h0=>(by rw[hr]at h0;cases h0),fun j hj=>?_⟩;rw[hr,bF]at hj;subst hj;exact CD hτ OV h s fun _ _ _ _ _ _ _ _ R hs=>sw hτ OV hQ t fuel _ _ _ _ _ _ _ _ _ (by omega) hc.2 R hs
  ·cases hc
 | .two i t k u,fuel,la,l,H,nx,iv,w,O,a,J,hf,hc,h,s=>by
  simp only[Tr.depth]at hf;obtain⟨fuel,rfl⟩:∃q,fuel=q+1:=⟨fuel-1,by omega⟩
  simp only[vq]at hc;split at hc
  ·rename_i x y hr;simp only[aw]at hc;obtain⟨c1,c2,c3,c4⟩:=hc;have L:=bM c1;have hy:=bM c2;subst L;subst hy;obtain⟨I,X⟩:=h;refine⟨fun h0=>(by rw[hr]at h0;cases h0),fun j hj=>?_⟩;rw[hr,List.mem_cons,bF]at hj;rcases hj with rfl|rfl
   ·exact CD hτ OV I s fun _ _ _ _ _ _ _ _ R hs=>sw hτ OV hQ t fuel _ _ _ _ _ _ _ _ _ (by omega) c3 R hs
   ·exact CD hτ OV X s fun _ _ _ _ _ _ _ _ R hs=>sw hτ OV hQ u fuel _ _ _ _ _ _ _ _ _ (by omega) c4 R hs
  ·cases hc
theorem iX(hτ:fT P τ)(hm:P.follows .mixedOrders=true)(t:Tr)(hc:(Nat.ble t.depth ops.size&&vq ops t (Array.replicate ops.size false))=true)
  (h:JS P τ B ops.toList t l H nx iv w Fn):yB P B ops l H nx iv w Fn:=by
 simp only[aw]at hc;refine⟨fun n O a J OV sat Q hQ id=>?_⟩;refine wp_region_any hm (sw hτ (fun j o ho d hd=>?_) hQ t _ _ _ _ _ _ _ O _ _ (Nat.le_of_ble_eq_true hc.1) hc.2 h ⟨sat.rel.drew,sat.size,sat.defers,sat.env,sat.sc⟩);have:=List.all_eq_true.1 OV o (aE (by rw[bA];exact ho));rw[hd]at this;have h5:d+1<=n:=by simpa [Nat.blt]using this
 exact h5
end
section
variable{P:Program}{τ:mn}{B n nx:Nat}{l:Env}{H:Hp}{iv:Iv}{w J:World}{O:Nat->dL}{a:Act}
theorem qZ{x:Operand}{Fn:SV->Hp->Nat->Iv->World->Prop}{s:ByteArray}{b:UInt8}
  (hu:P.underlying t=some .string) (L:ev l x=some (.o (.v (.string s)))) (D:ev l i=some (.o (.v (.int k m)))) (hm:0<=m) (hb:s[m.toNat]? =some b)
  (hK:∀O J,Rel H nx iv B w O J->Fn (.o (.v (.int .u8 b.toNat))) H nx iv J):yF P B ⟨dst,.index t x i,ty,pos,after,guard⟩ l H nx iv w Fn:=by
 refine⟨fun O J ev' r Qr=>⟨.int .u8 b.toNat,J,iv,.inl ?_,r.here,hK O J r⟩⟩;have e1:ev' x= .string s:=Qr x _ L;have e2:ev' i= .int k m:=Qr i _ D;simp[execOp,e1,e2,Instr.index,asIntOf,run_underlying hu,hm,hb]
theorem mu(w:World)(t e:TypeId)(a:Option Addr)(n c n' c':Nat)(h:P.underlying t=some (.slice e)):
  (binOp .eql t (.slice a n c) (.slice none n' c')).run P w= .ok (.bool a.isNone) w:=by
 have:∀d,(Op.equalIn (d+1) t (.slice a n c) (.slice none n' c')).run P w= .ok a.isNone w:=fun d=>by cases a<;>simp[Op.equalIn,run_underlying h]
 simp only[binOp]
 simp[Op.equal,Op.maxDepth,this 9999]
theorem j6(w:World)(g:Nat)(U:Array Value):w.grownBy (w.setRow g U) (some g):=
 ⟨rfl,rfl,rfl,by simp,fun k _ OS=>setRow_other _ _ _ _ fun e=>OS (by rw[e])⟩
theorem Rel.yH{V:World}(r:Rel H nx iv B w O J)(OS:∀id b,cV H id=some b->(O id).nil=false->(O id).g≠g)(h:J.grownBy V (some g)):Rel H nx iv B V O V:=
 r.D5 h.size (fun id b hb Z=>h.block _ (r.low id b hb Z).2 fun e=>OS id b hb Z (Option.some.inj e)) fun lo D hm=>⟨by have:=r.qW lo D hm;have:=r.size;have:=h.size;omega,fun id b hb Z=>r.ji lo D hm id b hb Z⟩
theorem AT(z:Value)(n:Nat):(Builtin.zeroCells #[z] n).toList=List.replicate n z:=by
 apply bG;intro i;simp only[Builtin.zeroCells,Array.toList_map,aM,Array.toList_range,List.getElem?_replicate]
 by_cases h:i<n
 ·simp[h,Nat.mod_one]
 ·simp[h]
theorem Hr(hτ:fT P τ){e by_ k off c tg:Nat}{x:Operand}{sz0 e' al al':Nat}
  {Fn:SV->Hp->Nat->Iv->World->Prop}
  (ht:τ t=some ⟨sz0,ag,bt,ze,4,ik,e,al,fs⟩) (PW:τ e=some ⟨1,ag',by_,[z],tag',ik',e',al',fs'⟩) (L:ev l x=some (.o (.v (.slice (some ⟨g,off,none⟩) k c)))) (R:k≠0)
  (G:∀O J,Rel H nx iv B w O J->J.heap[g]? =some (.cells U.toArray tg (0,0))/\∀id b,cV H id=some b->(O id).nil=false->(O id).g≠g) (QB:off+k<=U.length)
  (hK:∀O J V,Rel H nx iv B w O J->V.heap[g]? =some (.cells (U.take off++List.replicate k z++U.drop (off+k)).toArray tg (0,0))->J.grownBy V (some g)->V.heap.size=J.heap.size->Fn (.o (.v (.tuple #[]))) H nx iv V):
  yF P B ⟨dst,.call ⟨.builtin .clear,⟨[x]⟩,⟨[t]⟩⟩,ty,pos,after,guard⟩ l H nx iv w Fn:=by
 refine⟨fun O J ev' r Qr=>?_⟩;have hu:=(hτ t _ ht).i4 rfl;simp only at hu;have Rn:=hτ e _ PW;obtain⟨inf,zv,D,Oj,Oq,hz,RV⟩:=Rn.info;have hzo:=Rn.aAQ z (by simp);simp only at Oj RV;have hza:zv.cells= #[z]:=by apply Array.ext';simpa using RV
 obtain⟨hc,OS⟩:=G O J r;have QA:=run_storeCells_at (P:=P) g off tg (List.replicate k z) 0 U.toArray J hc (by simpa using QB) (fun v hv=>by rw[List.mem_replicate]at hv;rw[hv.2];exact hzo);have Re:=AT z k;have e1:ev' x= .slice (some ⟨g,off,none⟩) k c:=Qr x _ L;simp only[bj,bN]at QA;refine⟨.tuple #[],_,iv,.inl ?_,r.yH OS (j6 J g _),hK O J _ r (setRow_heap J g U.toArray _ tg _ hc) (j6 _ _ _) (by simp)⟩;simp[execOp,resolve,invoke,builtin,e1,Builtin.clear_,run_underlying hu,zeroValue,typeInfo,D,hz,hza,Re,QA,R]
theorem JT(hτ:fT P τ){e by_ k off c tg:Nat}{x:Operand}{sz0 e' al al':Nat}
  {ds:List Value} {vy:SV} {Fn:SV->Hp->Nat->Iv->World->Prop}
  (ht:τ t=some ⟨sz0,ag,bt,ze,4,ik,e,al,fs⟩) (PW:τ e=some ⟨1,ag',by_,[z],tag',ik',e',al',fs'⟩) (L:ev l x=some (.o (.v (.slice (some ⟨g,off,none⟩) k c)))) (hy:ev l y=some vy)
  (G:∀O J,Rel H nx iv B w O J->J.heap[g]? =some (.cells U.toArray tg (0,0))/\∀id b,cV H id=some b->(O id).nil=false->(O id).g≠g)
  (src:∀O J,Rel H nx iv B w O J->∃a m,vy.den O= .slice a ds.length m/\∀(j:Nat) u,ds[j]? =some u->∃ad,a=some ad/\J.cell? (ad.add j)=some u)
  (WS:ds.length<=k) (QB:off+ds.length<=U.length) (I:∀u∈ds,u.oneCell'=true)
  (hK:∀O J V,Rel H nx iv B w O J->V.heap[g]? =some (.cells (U.take off++ds++U.drop (off+ds.length)).toArray tg (0,0))->J.grownBy V (some g)->V.heap.size=J.heap.size->Fn (.o (.v (goInt ds.length))) H nx iv V):
  yF P B ⟨dst,.call ⟨.builtin .copy,⟨[x,y]⟩,⟨[t,t]⟩⟩,ty,pos,after,guard⟩ l H nx iv w Fn:=by
 refine⟨fun O J ev' r Qr=>?_⟩;have hu:=(hτ t _ ht).i4 rfl;simp only at hu;have Rn:=hτ e _ PW;obtain⟨inf,zv,D,Oj,Oq,hz,RV⟩:=Rn.info;simp only at Oj;obtain⟨hc,OS⟩:=G O J r;obtain⟨ay,m,hya,PJ⟩:=src O J r;have e1:ev' x= .slice (some ⟨g,off,none⟩) k c:=Qr x _ L;have e2:ev' y= .slice ay ds.length m:=by rw[<-hya];exact Qr y _ hy
 refine⟨goInt ds.length,J.setRow g (U.take off++ds++U.drop (off+ds.length)).toArray,iv,.inl ?_,r.yH OS (j6 J g _),hK O J _ r (setRow_heap J g U.toArray _ tg _ hc) (j6 _ _ _) (by simp)⟩;have hmin:Nat.min ds.length k=ds.length:=Nat.min_eq_left WS;have OY:(Builtin.copy_ #[t,t] ty #[.slice (some ⟨g,off,none⟩) k c,.slice ay ds.length m]).run P J= .ok (goInt ds.length) (J.setRow g (U.take off++ds++U.drop (off+ds.length)).toArray):=by
  cases ay with
  |some ad=>
   have:=run_copy_row (P:=P) J t t ty e g off k c ad ds.length m U.toArray tg ds hu (by simp[D,Oj]) hc (by rw[hmin]) (fun j v hv=>by
    obtain⟨ad',X,N⟩:=PJ j v hv;injection X with X
    rw[X];exact N) (by simpa using QB) I
   simpa using this
  |none=>
   have hd:ds=[]:=by
    cases ds with
    |nil=>rfl
    |cons u r=>obtain⟨ad',X,_⟩:=PJ 0 u rfl;cases X
   subst hd;have RE:=setRow_self J g U.toArray tg (0,0) hc;simp[Builtin.copy_,run_underlying hu,Builtin.lenOf,Builtin.firstCells,sizeOf,typeInfo,D,storeCells,RE]
 simp[execOp,resolve,invoke,builtin,e1,e2,OY]
end
section
variable{P:Program}{τ:mn}{B nx:Nat}{l:Env}{H:Hp}{iv:Iv}{w J:World}{O:Nat->dL}
end
section
variable{P:Program}{τ:mn}{B nx:Nat}{l:Env}{H:Hp}{iv:Iv}{w J:World}{O:Nat->dL}
end
theorem pE:∀(nv:List Value) (w:World) (b off:Nat) (cur:Array Value) (e:TypeId),w.heap[b]? =some (.cells cur e (0,0))->off+nv.length<=cur.size->
  (w.setCells b off nv).heap[b]? =some (.cells (cur.toList.take off++nv++cur.toList.drop (off+nv.length)).toArray e (0,0))
 |[],w,b,off,cur,e,h,_=>by simpa [World.setCells]using h
 |v::r,w,b,off,cur,e,h,hl=>by
  simp only[World.setCells]
  have QT:off+(r.length+1)<=cur.size:=by simpa using hl
  have I:(w.setCell ⟨b,off,none⟩ v).heap[b]? =some (.cells (cur.setIfInBounds off v) e (0,0)):=by
   simp[World.setCell,Array.getElem?_modify,h]
  rw[pE r _ b (off+1) _ e I (by simp;omega)];congr 3;have PZ:cur.toList.length=cur.size:=by simp
  apply bG;intro i;have e1:(cur.setIfInBounds off v).toList=cur.toList.set off v:=by simp
  rw[e1];rcases bp i off with D|D|D
  ·rw[bf,bf,aJ (by simp;omega),aJ (by simp;omega),bO (by omega),bO D,aT (by omega)]
  ·subst D;rw[bf,bf,aJ (by simp;omega),aN (by simp;omega),bO (by omega),aO (by simp;omega)];have:(List.take i cur.toList).length=i:=by rw[aZ];omega
   rw[this,bB];rfl
  ·have l1:(List.take (off+1) (cur.toList.set off v)).length=off+1:=by rw[aZ,bX];omega
   have l2:(List.take off cur.toList).length=off:=by rw[aZ];omega
   have hd:List.drop (off+1+r.length) (cur.toList.set off v)=List.drop (off+(v::r).length) cur.toList:=by
    rw[List.drop_set_of_lt (by omega),List.length_cons];congr 1;omega
   obtain⟨k,rfl⟩:∃k,i=off+1+k:=⟨i-off-1,by omega⟩
   rw[bf,bf,hd];generalize List.drop (off+(v::r).length) cur.toList=tl;have F8:(List.take (off+1) (cur.toList.set off v)++(r++tl))[off+1+k]? =(r++tl)[k]? :=by
    rw[aN (by omega),l1];congr 1;omega
   have B:(List.take off cur.toList++((v::r)++tl))[off+1+k]? =(r++tl)[k]? :=by
    rw[aN (by omega),l2,show off+1+k-off=k+1 by omega];rfl
   rw[F8,B]
theorem pF:∀(nv:List Value) (w:World) (b off:Nat) {k:Nat},k≠b->(w.setCells b off nv).heap[k]? =w.heap[k]?
 |[],_,_,_,_,_=>rfl
 |v::r,w,b,off,k,R=>by
  simp only[World.setCells]
  rw[pF r _ b (off+1) R];simp[World.setCell,Array.getElem?_modify,Ne.symm R]
theorem tA:∀(vs:List Value) (w0:World) (b o:Nat),(w0.setCells b o vs).os=w0.os/\(w0.setCells b o vs).tape=w0.tape/\(w0.setCells b o vs).output=w0.output/\(w0.setCells b o vs).heap.size=w0.heap.size
 |[],_,_,_=>⟨rfl,rfl,rfl,rfl⟩
 |v::r,w0,b,o=>by
  simp only[World.setCells]
  obtain⟨I,X,N,h4⟩:=tA r (w0.setCell ⟨b,o,none⟩ v) b (o+1);exact⟨I,X,N,by rw[h4];simp⟩
theorem kA{w:World}{Bc e n:Nat}{v:Value}{nv:List Value}{a:Option Addr}{c j:Nat}(h:w.ownsRow Bc e sz v n xs)(hv:v= .slice a n c)(hj:j<n)(Th:nv.length=sz)(hs:0<sz):
  ∃g,a=some ⟨g,0,none⟩/\(∀k,k<sz->(w.cell? (Addr.add ⟨g,j*sz,none⟩ k)).isSome=true/\w.frozen? (Addr.add ⟨g,j*sz,none⟩ k)=false)/\
   (setCells w ⟨g,j*sz,none⟩ nv).ownsRow Bc e sz v n (xs.take (j*sz)++nv++xs.drop (j*sz+sz))/\w.grownBy (setCells w ⟨g,j*sz,none⟩ nv) (some g)/\(setCells w ⟨g,j*sz,none⟩ nv).heap.size=w.heap.size:=by
 rcases h.2 with⟨_,h0⟩|⟨g,cap,cur,RJ,hb,G,Ti,S3,Ok,Vh⟩
 ·omega
 rw[hv]at RJ;injection RJ with I X N;subst I N;have hjs:j*sz+sz<=n*sz:=by
  have:=Nat.mul_le_mul_right sz (show j+1<=n from hj);rw[Nat.add_mul,Nat.one_mul]at this;exact this
 have hns:n*sz<=c*sz:=Nat.mul_le_mul_right sz Ti;obtain⟨f1,f2,f3,f4⟩:=tA nv w g (j*sz);have S4:=pE nv w g (j*sz) cur e G (by omega);refine⟨g,rfl,fun k R=>?_,?_,?_,?_⟩
 ·rw[dA];refine⟨?_,?_⟩
  ·rw[cell_of (g:=g) (U:=cur.toList) (by simpa using G),aB (by simp;omega)];rfl
  ·simp[World.frozen?,G]
 ·rw[kC];refine⟨?_,.inr ⟨g,c,_,hv,hb,S4,Ti,S3,?_,?_⟩⟩
  ·simp only[List.length_append,aZ,List.length_drop,Th,h.1];omega
  ·simp only[List.size_toArray,List.length_append,aZ,List.length_drop,Th,Array.length_toList];omega
  ·subst Vh;have PZ:cur.toList.length=cur.size:=by simp
   have ha:List.drop (j*sz+sz) (List.take (n*sz) cur.toList)=(List.drop (j*sz+sz) cur.toList).take (n*sz-(j*sz+sz)):=by rw[List.drop_take]
   rw[ha,List.take_take,Nat.min_eq_left (by omega)];show List.take (n*sz) (_++nv++_)=_;rw[Th,List.take_append,List.take_of_length_le (by simp;omega)];congr 2;simp only[List.length_append,aZ,Th]
   omega
 ·rw[kC];exact⟨f1,f2,f3,by rw[f4];exact Nat.le_refl _,fun k R OS=>pF nv w g _ (fun e=>OS (by rw[e]))⟩
 ·rw[kC];exact f4
structure JW(P:Program)(kt:TypeId)(KS:Value->Prop):Prop where
 desc:∃fs,P.underlying kt=some (.struct fs)
 check:∀(w:World) (em:Bool) (v:Value),KS v->(Instr.checkKey em 10000 kt v).run P w= .ok () w
 eq:∀(w:World) (a b:Value),KS a->KS b->∃c,(Op.equal kt a b).run P w= .ok c w/\(c=true↔a=b)
def D7(w:World)(g:Nat)(ks:List Value):Prop:=∃es clock,w.heap[g]? =some (.map es clock)/\es.toList.map (·.key)=ks/\∀e∈es.toList,e.val= .bool true
section
variable{P:Program}{τ:mn}{B n nx:Nat}{l:Env}{H:Hp}{iv:Iv}{w J V:World}{O:Nat->dL}{a:Act}
theorem D7.cC(h:D7 w g ks)(R:V.heap[g]? =w.heap[g]?):D7 V g ks:=by
 obtain⟨es,c,I,X⟩:=h;exact⟨es,c,by rw[R];exact I,X⟩
theorem rp(hb:w.heap[r]? =some (.map es clock)):(getObj r).run P w= .ok (.map es clock) w:=by simp[getObj,Sem.run,hb]
theorem FT(o:Obj)(hb:w.heap[r]? =some (.map es clock)):(setObj r o).run P w= .ok () {w with heap:=w.heap.setIfInBounds r o}:=by simp[setObj,Sem.run,hb]
theorem oZ{kt:TypeId}{KS:Value->Prop}(Fn:JW P kt KS){x:Value}(L:KS x)(w:World):∀(es:List MapEntry) (i:Nat),(∀e∈es,KS e.key)->
  ((Instr.findAsking kt x es i).run P w= .ok none w/\∀e∈es,e.key≠x)\/∃j e,(Instr.findAsking kt x es i).run P w= .ok (some (j,e.val)) w/\e∈es/\e.key=x
 |[],i,_=>.inl ⟨rfl,fun e W=>by cases W⟩
 |e::es,i,h=>by
  obtain⟨c,hc,TF⟩:=Fn.eq w x e.key L (h e aG)
  cases c with
  |true=>exact .inr ⟨i,e,by simp[Instr.findAsking,hc],aG,(TF.1 rfl).symm⟩
  |false=>
   have OS:e.key≠x:=fun W=>by have:=TF.2 W.symm;cases this
   rcases oZ Fn L w es (i+1) (fun e W=>h e (aC _ W))with⟨I,X⟩|⟨j,e',I,X,N⟩
   ·refine .inl ⟨by simp[Instr.findAsking,hc,I],fun e' W=>?_⟩;rcases List.mem_cons.1 W with rfl|W
    ·exact OS
    ·exact X e' W
   ·exact .inr ⟨j,e',by simp[Instr.findAsking,hc,I],aC _ X,N⟩
theorem tB{kt:TypeId}(Fn:JW P kt KS){x:Value}(L:KS x)(w:World)(es:List MapEntry)(h:∀e∈es,KS e.key):
  ((Instr.findKey kt x es).run P w= .ok none w/\∀e∈es,e.key≠x)\/∃j e,(Instr.findKey kt x es).run P w= .ok (some (j,e.val)) w/\e∈es/\e.key=x:=by
 obtain⟨fs,RF⟩:=Fn.desc
 cases es with
 |nil=>exact .inl ⟨by simp[Instr.findKey,run_underlying RF,Instr.findNow],fun e W=>by cases W⟩
 |cons e es=>
  have hs:Instr.findNow (.struct fs) x (e::es) 0=none:=by
   unfold Instr.findNow
   cases x<;>cases e.key<;>rfl
  have:=oZ Fn L w (e::es) 0 h;rcases this with⟨I,X⟩|⟨j,e',I,X,N⟩
  ·exact .inl ⟨by simp[Instr.findKey,run_underlying RF,hs,I],X⟩
  ·exact .inr ⟨j,e',by simp[Instr.findKey,run_underlying RF,hs,I],X,N⟩
theorem vu{Fn:SV->Hp->Nat->Iv->World->Prop}
  (hK:∀O J V,Rel H nx iv B w O J->D7 V J.heap.size []->J.grownBy V none->V.heap.size=J.heap.size+1->Fn (.o (.v (.map (some J.heap.size)))) H nx ((J.heap.size,J.heap.size+1)::iv) V):
  yF P B ⟨dst,.makeMap t none,ty,pos,after,guard⟩ l H nx iv w Fn:=by
 refine⟨fun O J ev' r Qr=>?_⟩;have hp:(J.alloc (.map #[] 0)).heap=J.heap.push (.map #[] 0):=rfl;have G:J.grownBy (J.alloc (.map #[] 0)) none:=⟨rfl,rfl,rfl,by rw[hp,Array.size_push];omega,fun k R _=>by rw[hp,Array.getElem?_push,aI (Nat.ne_of_lt R)]⟩
 have Oj:(J.alloc (.map #[] 0)).heap.size=J.heap.size+1:=by rw[hp,Array.size_push]
 refine⟨.map (some J.heap.size),J.alloc (.map #[] 0),(J.heap.size,J.heap.size+1)::iv,.inl ?_,r.D5 (by omega) (fun id b hb Z=>G.block _ (r.low id b hb Z).2 (by simp)) ?_,
  hK O J _ r ⟨#[],0,by rw[hp];simp,rfl,by simp⟩ G Oj⟩
 ·simp[execOp,Instr.makeMap]
 ·intro lo D hm;rcases List.mem_cons.1 hm with e|hm
  ·injection e with e1 e2;subst e1 e2;exact⟨by omega,fun id b hb Z h=>by have:=(r.low id b hb Z).2;omega⟩
  ·exact⟨by have:=r.qW lo D hm;have:=r.size;omega,fun id b hb Z=>r.ji lo D hm id b hb Z⟩
theorem yI{kt et:Nat}{m x:Operand}{Fn:SV->Hp->Nat->Iv->World->Prop}(Q:JW P kt KS){vx:SV}
  (ht:P.underlying t=some (.map kt et)) (hz:∀w,(zeroValue et).run P w= .ok (.bool false) w) (hm:ev l m=some (.o (.v (.map (some g))))) (L:ev l x=some vx) (UA:∀O,vx.den O=key) (hks:KS key) (Qd:∀k∈ks,KS k)
  (G:∀O J,Rel H nx iv B w O J->D7 J g ks)
  (hK:∀O J b,Rel H nx iv B w O J->(b=true↔key∈ks)->Fn (.o (.v (.bool b))) H nx iv J):
  yF P B ⟨dst,.lookup t m x false,ty,pos,after,guard⟩ l H nx iv w Fn:=by
 refine⟨fun O J ev' r Qr=>?_⟩;obtain⟨es,clock,I,X,N⟩:=G O J r;have e1:ev' m= .map (some g):=Qr m _ hm;have e2:ev' x=key:=by rw[Qr x _ L,UA]
 have hes:∀e∈es.toList,KS e.key:=fun e W=>Qd _ (by rw[<-X];exact aR.2 ⟨e,W,rfl⟩);have VS:=Q.check J es.isEmpty key hks;rcases tB Q hks J es.toList hes with⟨f1,f2⟩|⟨j,e,f1,f2,f3⟩
 ·refine⟨.bool false,J,iv,.inl ?_,r.here,hK O J false r ⟨(fun h=>by cases h),fun h=>?_⟩⟩
  ·simp[execOp,Instr.lookup,e1,e2,run_underlying ht,rp I,VS,f1,hz]
  ·rw[<-X]at h;obtain⟨e,W,R⟩:=aR.1 h;exact absurd R (f2 e W)
 ·refine⟨.bool true,J,iv,.inl ?_,r.here,hK O J true r ⟨fun _=>by rw[<-X];exact aR.2 ⟨e,f2,f3⟩,fun _=>rfl⟩⟩;have:=N e f2;simp[execOp,Instr.lookup,e1,e2,run_underlying ht,rp I,VS,f1,this]
theorem rM{kt et:Nat}{m x:Operand}{Fn:SV->Hp->Nat->Iv->World->Prop}(Q:JW P kt KS){vx:SV}
  (ht:P.underlying t=some (.map kt et)) (hm:ev l m=some (.o (.v (.map (some g))))) (L:ev l x=some vx) (UA:∀O,vx.den O=key) (hy:ev l y=some (.o (.v (.bool true)))) (hks:KS key) (Qd:∀k∈ks,KS k) (Q5:key∉ks)
  (G:∀O J,Rel H nx iv B w O J->D7 J g ks/\∀id b,cV H id=some b->(O id).nil=false->(O id).g≠g)
  (hK:∀O J V,Rel H nx iv B w O J->D7 V g (ks++[key])->J.grownBy V (some g)->V.heap.size=J.heap.size->Fn (.o (.v undef)) H nx iv V):
  yF P B ⟨dst,.mapUpdate t m x y,ty,pos,after,guard⟩ l H nx iv w Fn:=by
 refine⟨fun O J ev' r Qr=>?_⟩;obtain⟨⟨es,clock,I,X,N⟩,OS⟩:=G O J r;have e1:ev' m= .map (some g):=Qr m _ hm;have e2:ev' x=key:=by rw[Qr x _ L,UA]
 have e3:ev' y= .bool true:=Qr y _ hy;have hes:∀e∈es.toList,KS e.key:=fun e W=>Qd _ (by rw[<-X];exact aR.2 ⟨e,W,rfl⟩);have VS:=Q.check J false key hks;have Ou:g<J.heap.size:=(ah.1 I).1;rcases tB Q hks J es.toList hes with⟨f1,f2⟩|⟨j,e,f1,f2,f3⟩
 ·let ob:Obj:=.map (es.push {key:=key,val:=.bool true,born:=clock}) (clock+1)
  have Oc:J.grownBy {J with heap:=J.heap.setIfInBounds g ob} (some g):=⟨rfl,rfl,rfl,by simp,fun k _ R=>by
   rw[Array.getElem?_setIfInBounds_ne]
   exact fun e=>R (by rw[e])⟩
  refine⟨undef,{J with heap:=J.heap.setIfInBounds g ob},iv,.inr ⟨?_,rfl⟩,r.yH OS Oc,hK O J _ r ⟨es.push {key:=key,val:=.bool true,born:=clock},clock+1,by simp[Ou,ob],?_,?_⟩ Oc (by simp)⟩
  ·simp[execOp,Instr.mapUpdate,e1,e2,e3,run_underlying ht,rp I,FT _ I,VS,f1,ob]
  ·simp[X]
  ·intro e W;simp at W;rcases W with W|rfl
   ·exact N e (by simpa using W)
   ·rfl
 ·exact absurd (by rw[<-X];exact aR.2 ⟨e,f2,f3⟩) Q5
theorem FU{len e:Nat}{x:Operand}{Fn:SV->Hp->Nat->Iv->World->Prop}{vx:SV}{U:Array Value}{u:Value}
  (hu:P.underlying t=some (.array len e)) (hs:∀w,(sizeOf e).run P w= .ok 1 w) (hp:∀(w:World) (j:Nat) v,U[j]? =some v->(part e U j).run P w= .ok v w) (L:ev l x=some vx) (Uf:∀O,vx.den O= .agg U) (D:ev l i=some (.o (.v (.int k m)))) (hm:0<=m/\m<len) (hc:U[m.toNat]? =some u)
  (hK:∀O J,Rel H nx iv B w O J->Fn (.o (.v u)) H nx iv J):yF P B ⟨dst,.index t x i,ty,pos,after,guard⟩ l H nx iv w Fn:=by
 refine⟨fun O J ev' r Qr=>⟨u,J,iv,.inl ?_,r.here,hK O J r⟩⟩;have e1:ev' x= .agg U:=by rw[Qr x _ L,Uf]
 have e2:ev' i= .int k m:=Qr i _ D;have e3:=hp J _ u hc;simp[execOp,e1,e2,Instr.index,asIntOf,run_underlying hu,hm.1,hm.2,hs,e3]
theorem Hx(hτ:fT P τ){id2 off k c:Nat}{e2:TypeId}{ad x:Operand}{Fn:SV->Hp->Nat->Iv->World->Prop}
  (ha:ev l ad=some (.o (.p id off))) (L:ev l x=some (.o (.s id2 0 k c))) (Oy:id<nx) (Vi:cV H id2=some (.arr e2 cs2)) (hs:ug H tH) (ho:CC id2 tH=true)
  (hK:∀O J,Rel H nx iv B w O J->CF τ B t (.o (.p id off)) (.o (.v (.slice (some ⟨(O id2).g,0,none⟩) k c))) tH nx (((O id2).g,(O id2).g+1)::iv) J (fun H' V=>Fn (.o (.v undef)) H' nx (((O id2).g,(O id2).g+1)::iv) V)):
  OpG P B ⟨dst,.store t ad x,ty,pos,after,guard⟩ l H nx iv w Fn:=by
 refine⟨fun O J ev' r Qr=>?_⟩;have e1:ev' ad=(SV.o (.p id off)).den O:=Qr ad _ ha;have e2:ev' x= .slice (some ⟨(O id2).g,0,none⟩) k c:=Qr x _ L;have r2:=r.free Vi (by simp) (r.fits Vi).1 hs ho;have sat:Sat 0 [] tH nx (((O id2).g,(O id2).g+1)::iv) B J O ⟨#[],[]⟩ J:=⟨r2,rfl,rfl,(fun u v hv=>by cases hv),fun u v hv=>by cases hv⟩
 obtain⟨H',V,w3,R,PC,OY⟩:=vv (addr:=.o (.p id off)) (x:=.o (.v (.slice (some ⟨(O id2).g,0,none⟩) k c))) hτ sat (by exact Oy) (by simp[SV.sc,At.sc]) (hK O J r);refine⟨V,w3,H',_,?_,PC,R⟩;have OY:(Instr.storeAt t ((SV.o (.p id off)).den O) (.slice (some ⟨(O id2).g,0,none⟩) k c)).run P J= .ok () w3:=OY;simp[execOp,e1,e2,OY]
def rD(v:dL)(iv:Iv):Iv:=match v.nil with
 |true=>iv
 |false=>(v.g,v.g+1)::iv
theorem Hy{v:dL}{iv:Iv}:∀p,p∈iv->p∈rD v iv:=fun p hp=>by
 unfold rD
 cases v.nil with
 |true=>exact hp
 |false=>exact aC _ hp
theorem JX{v:dL}{iv:Iv}(h:v.nil=false):(v.g,v.g+1)∈rD v iv:=by
 unfold rD;rw[h];exact aG
theorem Rel.drop{H':Hp}{b:jh}(r:Rel H nx iv B w O J)(Oy:cV H id=some b)(hd:b≠ .dead)(hs:ug H H')(ho:CC id H'=true):Rel H' nx (rD (O id) iv) B J O J:=by
 have I:Rel H' nx iv B J O J:=Rel.mk' rfl rfl rfl (Nat.le_refl _) (by have:=r.base;have:=r.size;omega) (fun lo D hm=>by have:=r.qW lo D hm;have:=r.size;omega) (fun j c h=>r.keys j c (hs.get h))
  (fun j c h=>r.fits (hs.get h)) (fun j c h=>r.scopd (hs.get h)) (fun j k c e h h'=>r.inj j k c e (hs.get h) (hs.get h')) (fun j c h=>r.low j c (hs.get h)) (fun _ _ _=>rfl) (fun lo D hm j c h=>r.ji lo D hm j c (hs.get h))
 unfold rD
 cases Z:(O id).nil with
 |false=>exact r.free Oy hd Z hs ho
 |true=>exact I
theorem FV(hτ:fT P τ){id3 id2 c1 t3:Nat}{c:At}{b2:jh}{x:Operand}{vx:SV}{Fn:SV->Hp->Nat->Iv->World->Prop}
  (L:ev l x=some vx) (hy:ev l y=some (.o (.s id3 0 1 c1))) (Vj:cV H id3=some (.box t3 [c])) (Vi:cV H id2=some b2) (PN:b2≠ .dead) (hs:ug H tH) (ho3:CC id3 tH=true) (UB:CC id2 tH=true)
  (hK:∀O J,Rel H nx iv B w O J->Rel tH nx (((O id3).g,(O id3).g+1)::rD (O id2) iv) B J O J->J.heap[(O id3).g]? =some (.cells #[c.den O] t3 (0,0))->
   xZ τ B t vx (.o (.v (.slice (some ⟨(O id3).g,0,none⟩) 1 c1))) tH nx (((O id3).g,(O id3).g+1)::rD (O id2) iv) J (fun v H' OW=>Fn v H' OW (((O id3).g,(O id3).g+1)::rD (O id2) iv) J)):
  OpA P B ⟨dst,.call ⟨.builtin .append,⟨[x,y]⟩,⟨[t,t]⟩⟩,ty,pos,after,guard⟩ l H nx iv w Fn:=by
 refine⟨fun O J ev' r Qr=>?_⟩;have e1:ev' x=vx.den O:=Qr x _ L;have e2:ev' y= .slice (some ⟨(O id3).g,0,none⟩) 1 c1:=Qr y _ hy;have Vk:=(r.fits Vj).1;have r1:=r.drop Vi PN hs UB;have r2:Rel tH nx (((O id3).g,(O id3).g+1)::rD (O id2) iv) B J O J:=by
  refine r1.more (by have:=(r.low id3 _ Vj Vk).2;omega) fun j cc hj WR W=>?_;obtain⟨X,N⟩:=CC.get ho3 hj;exact X (r.inj j id3 cc _ (hs.get hj) Vj N (by simp) WR Vk (by omega))
 have sat:Sat 0 [] tH nx (((O id3).g,(O id3).g+1)::rD (O id2) iv) B J O ⟨#[],[]⟩ J:=⟨r2,rfl,rfl,(fun u v hv=>by cases hv),fun u v hv=>by cases hv⟩
 obtain⟨rr,H',OW,G8,V,R,PC,hr,QU,G9,OY⟩:=tC (ty:=ty) hτ sat (hK O J r r2 (by have:=r.box id3 _ _ Vj;simpa using this));refine⟨rr,H',OW,_,G8,J,V,?_,PC,hr,QU,G9,R⟩;have OY:(Builtin.append_ #[t,t] ty #[vx.den O,.slice (some ⟨(O id3).g,0,none⟩) 1 c1]).run P J= .ok (rr.den G8) V:=OY;simp[execOp,resolve,invoke,builtin,e1,e2,OY]
end
end Go.Sx
