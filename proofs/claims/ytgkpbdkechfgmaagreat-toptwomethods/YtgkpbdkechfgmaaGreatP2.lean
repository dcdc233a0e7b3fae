/- Texts Sx12 to Sx23: lemmas, each with its conditions. -/
import Derived.Laws.BytesString
import Derived.Test.YtgkpbdkechfgmaaGreatP1
namespace Go.Sx
open Go
variable{args:(Nat->dq)->Array Value}{Fn Q0 next:Act->World->Prop}{EQ R':Ending->World->Prop}{k:Env->Prop}{l:List (Nat×TI)}{B g:Nat}{O:Nat->dq}{d:Option Tmp}{P:Program}
section
variable{P:Program}{τ:nR}{ops:Array Oper}{B n nx:Nat}{l:Env}{H:Hp}{iv:Iv}{w J:World}{O:Nat->dq}{a:Act}
variable{Pd:List Nat}{FS:List (Nat×Nat)}{lx la:Array Bool}{Q:Exit->Act->World->Prop}{md:Region.Mode}
theorem FA(hr:Region.ready md ops la=[])(h:Q .normal a w):∀fuel,vS P md ops Q fuel la a w
 |0=>⟨hr,h⟩
 |_+1=>⟨fun _=>h,by rw[hr];simp⟩
theorem zB(sat:Sat n l H nx iv B w O a J){Fn:SV->Hp->Iv->World->Prop}{o:Oper}
  (h:FB P B g args H nx iv w Fn) (UI:(execOp a.eval o).run P J=(callFunc g (args O)).run P J)
  (R:∀v V,Fn (.o (.v v)) H ((J.heap.size,V.heap.size)::iv) V->Ext J V->Sat n l H nx ((J.heap.size,V.heap.size)::iv) B V O a V->next (a.put o.dst v) V):o.wp P a J next Q:=by
 have hc:=h.h O J sat.rel;unfold Oper.wp;rw[UI,hc.e.h];refine Calls.mono hc.c fun e V U=>?_;obtain⟨v,rfl,Sl,hK⟩:=U;refine R v V hK Sl ?_;have r:=(sat.rel.ext Sl).here;refine sat.next (G8:=O) ?_ (Nat.le_refl _) (fun _ _=>rfl)
 refine Rel.mk' r.os r.tape r.output r.size r.base ?_ r.keys (fun id b hb=>r.fits hb) (fun id b hb=>r.scopd hb) r.inj r.low r.vP ?_
 ·intro lo A hm;rcases List.mem_cons.1 hm with hm|hm
  ·injection hm with L G;omega
  ·exact r.oJ lo A hm
 ·intro lo A hm id b hb PA;rcases List.mem_cons.1 hm with hm|hm
  ·injection hm with L G;have:=(sat.rel.low id b hb PA).2;omega
  ·exact r.je lo A hm id b hb PA
theorem zC{o:Oper}{Fn:SV->Hp->Nat->Iv->World->Prop}(h:yw true P τ B o l H nx iv w Fn)(sat:Sat n l H nx iv B w O a J)(hr:vQ o.op=false)(ha:NJ o.op=false)(hh:rf o=false)
  (R:∀v V,Fn (.o (.v v)) H nx ((J.heap.size,V.heap.size)::iv) V->Ext J V->Sat n l H nx ((J.heap.size,V.heap.size)::iv) B V O a V->next (a.put o.dst v) V):o.wp P a J next Q:=by
 obtain⟨dst,op,ty,pos,after,guard⟩:=o;simp only at hr ha;have:∃f args x,op= .call ⟨.value f,args,x⟩:=by
  simp only[rf,hr,ha,Bool.or_self,Bool.false_or,Bool.not_eq_false']at hh;split at hh
  ·exact⟨_,_,_,rfl⟩
  ·cases hh
 obtain⟨f,⟨args⟩,x,rfl⟩:=this;simp only[yw]at h;obtain⟨vf,L,hf,QC⟩:=dZ sat h;obtain⟨vs,G,R4,hss⟩:=rH sat L;have S7:(args.toArray).map a.eval=oK O vs:=by
  apply Array.ext';simp[oK,R4]
 split at G
 ·rename_i g first caps
  refine zB sat G ?_ (fun v V hK U hs=>R v V hK U hs);simp[execOp,resolve,hf,SV.den,At.den,Deferred.ofValue,invoke,S7]
 ·rename_i g ids;refine zB sat G ?_ (fun v V hK U hs=>R v V hK U hs);simp[execOp,resolve,hf,SV.den,At.den,Deferred.ofValue,invoke,S7]
 ·exact G.elim
def QN(Q0:Act->World->Prop):Exit->Act->World->Prop:=fun e a w=>e= .normal/\Q0 a w
theorem zD(sat:Sat n l H nx iv B w O a J){o:Oper}{yes no:Env->Prop}(h:tU ops.toList o.guard l yes no)(Y:o.guard=none\/Pd=[]):
  (Region.wanted o (yielded ops a.tmps)=true/\∃l',yes l'/\Sat n l' H nx iv B w O a J/\(Pd≠[]->l'=l))\/
  (Region.wanted o (yielded ops a.tmps)=false/\Pd=[]/\∃l',no l'/\Sat n l' H nx iv B w O a J):=by
 by_cases TG:o.guard=none
 ·rw[TG]at h;exact .inl ⟨by simp[Region.wanted,TG],l,h,sat,fun _=>rfl⟩
 ·have RB:=Y.resolve_left TG;rcases lA sat h with⟨L,l',G,N⟩|⟨L,l',G,N⟩
  ·exact .inl ⟨L,l',G,N,fun Oe=>absurd RB Oe⟩
  ·exact .inr ⟨L,RB,l',G,N⟩
theorem lK(sat:Sat n l H nx iv B w O a J){v:SV}(h:Ez d v l k)(hd:∀t,d=some t->t<n)(hv:v.sc nx):
  ∃l',k l'/\Sat n l' H nx iv B w O (a.put d (v.den O)) J/\∀t,fm l t=none->d≠some t->fm l' t=none:=by
 unfold Ez at h;split at h
 ·rename_i t;exact⟨_,h,sat.put (hd t rfl) hv,fun u hu Oe=>by rw[eh,aH (fun e=>Oe (by rw[e]))];exact hu⟩
 ·exact⟨l,h,sat,fun t ht _=>ht⟩
theorem pj{Q:Exit->Act->World->Prop}{i:Nat}{o:Oper}(A:ops[i]? =some o)
  (h:(Region.wanted o (yielded ops a.tmps)=true/\o.wp P a J Fn Q)\/(Region.wanted o (yielded ops a.tmps)=false/\Fn (a.put o.dst undef) J)):wpOp P ops Q i Fn a J:=by
 unfold wpOp;simp only[A]
 rcases h with⟨L,G⟩|⟨L,G⟩
 ·rw[if_pos L];exact .inl G
 ·rw[aH (by simp[L])];exact G
theorem Km(hτ:fo P τ)(Of:∀(j:Nat) o,ops[j]? =some o->∀d,o.dst=some d->d<n)(Pb:∀(j:Nat) (o:Oper) W b,ops[j]? =some o->o.op≠ .select W b)
  {Fn:KT} (hQ:∀l' H' On K V G8 a' w3,Fn l' H' On K V->Sat n l' H' On K B V G8 a' w3->Q0 a' w3):
  ∀(m fuel:Nat) (π:List It) (lx la:Array Bool) (Pd:List Nat) (FS:List (Nat×Nat)) (l:Env) (H:Hp) (nx:Nat) (iv:Iv) (w:World) (O:Nat->dq) (a:Act) (J:World),
   fuel+π.length=m->unl la<=fuel->pg ops π lx Pd=true->Ki P τ B ops.toList π l H nx iv w Fn->NK P ops n B Pd FS lx la l H nx iv w O a J->vS P .any ops (QN Q0) fuel la a J:=by
 intro m
 induction m using Nat.strongRecOn with
 |_ m ih=>
 intro fuel π lx la Pd FS l H nx iv w O a J hm XK hc h s
 match π with
 |[]=>
  simp only[pg,av,List.isEmpty_iff]at hc;obtain⟨hr,rfl⟩:=hc;refine FA ?_ ⟨rfl,hQ _ _ _ _ _ _ _ _ h s.sat⟩ fuel;refine List.eq_nil_iff_forall_not_mem.2 fun j hj=>?_;obtain⟨L,o,G,N⟩:=ew.1 hj;have:j∈Region.ready .any ops lx:=by
   refine ew.2 ⟨?_,o,G,fun e U hb=>?_⟩
   ·have Ow:j<lx.size:=by rw[s.NL,<-s.NO];exact(aZ.1 L).1
    rw[Array.getElem?_eq_getElem Ow]
    cases hb:lx[j]with
    |false=>rfl
    |true=>
     have:=(s.la j).2 (.inl (by rw[Array.getElem?_eq_getElem Ow,hb]));rw[L]at this;cases this
   ·rcases(s.la e.on).1 (N e U hb)with h4|⟨g,h4⟩
    ·exact h4
    ·exact absurd (s.JL _ _ h4) (by simp)
  rw[hr]at this
  cases this
 | .p i::r=>
  obtain⟨o,ho,L⟩:=iF h;rw[bG]at ho;simp only[pg,ho,av]at hc;obtain⟨⟨⟨⟨⟨⟨c1,c2⟩,c3⟩,c4⟩,c5⟩,c6⟩,c7⟩:=hc
  cases hd:o.dst with
  |none=>rw[hd]at c3;cases c3
  |some d=>
  rw[hd]at c3;obtain⟨b,v,mk,obj,hK,-,-,-,-,-,WU⟩:=oL hτ L s.sat c1;rw[hd]at hK;obtain⟨l',hl,R6,QV⟩:=sX hK;have hmem:∀j∈Pd,j≠i:=fun j hj=>by
   have:=List.all_eq_true.1 c5 j hj;simpa only[Bool.not_eq_true',nT]using this
  have c6':∀j∈Pd,∀oj,ops[j]? =some oj->o.apart ops oj=true/\oj.apart ops o=true:=fun j hj oj R1=>by
   have:=List.all_eq_true.1 c6 j hj;simpa only[JJ,R1,av]using this
  have hlxi:lx[i]? =some false:=by
   have:lx.getD i true=false:=by simpa using c4
   rw[ai]at this
   cases F:lx[i]? with
   |none=>rw[F]at this;cases this
   |some b=>rw[F]at this;simp at this;rw[this]
  refine ih (fuel+r.length) (by simp only[List.length_cons]at hm;omega) fuel r lx la (i::Pd) FS l' H nx iv w O a J rfl XK c7 hl ?_;refine⟨⟨s.sat.rel,s.sat.size,s.sat.defers,fun t v hv=>s.sat.env t v (QV t v hv).2,fun t v hv=>s.sat.sc t v (QV t v hv).2⟩,s.NL,s.NO,s.la,fun j g Y=>aB _ (s.JL j g Y),fun j hj=>?_,s.eg,s.inj,fun j hj j' hj' Oe oj oj' N h4=>?_⟩
  ·rcases List.mem_cons.1 hj with rfl|hj
   ·refine⟨hlxi,o,d,mk,obj,ho,c1,by simpa using c2,⟨hd,by simpa using c3⟩,WU,R6,fun g Y=>absurd (s.JL _ _ Y) (fun SC=>hmem _ SC rfl)⟩
   ·obtain⟨h0,oj,dj,mkj,objj,g1,g2,g3,g4,g5,g6,g7⟩:=s.pd j hj;exact⟨h0,oj,dj,mkj,objj,g1,g2,g3,g4,g5,Kl QV g6,g7⟩
  ·rcases List.mem_cons.1 hj with e1|k1<;>rcases List.mem_cons.1 hj' with e2|k2
   ·exact absurd (e1.trans e2.symm) Oe
   ·rw[e1,ho]at N;injection N with N;subst N;exact(c6' j' k2 oj' h4).1
   ·rw[e2,ho]at h4;injection h4 with h4;subst h4;exact(c6' j k1 oj N).2
   ·exact s.ap j k1 j' k2 Oe oj oj' N h4
 | .x i::r=>
  obtain⟨o,ho,L⟩:=iF h;unfold iR at L;rw[bG]at ho;simp only[pg,ho,av]at hc;obtain⟨⟨⟨⟨c1,c2⟩,c3⟩,c4⟩,c5⟩:=hc;have c2:i∈Region.ready .any ops lx:=by simpa using c2
  have c1:o.guard=none\/Pd=[]:=by simpa using c1
  have R5:∀j∈Pd,j≠i->∀oj,ops[j]? =some oj->o.apart ops oj=true:=fun j hj Ph oj R1=>by
   have:=List.all_eq_true.1 c3 j hj;simpa only[JJ,R1,Bool.or_eq_true,nT.2 Ph,Bool.false_eq_true,false_or]using this
  obtain⟨PU,o',S8,hwait⟩:=ew.1 c2;rw[ho]at S8;injection S8 with S8;subst S8;simp only[List.length_cons]at hm;have WE:=Of i o ho;by_cases hE:∃g,(i,g)∈FS
  ·
   obtain⟨g,Y⟩:=hE;obtain⟨h0,o',d,mk',obj',g1,g2,g3,g4,g5,g6,g7⟩:=s.pd i (s.JL i g Y);rw[ho]at g1;injection g1 with g1;subst g1;rw[g3,Gw g2]at L;have L:yw true P τ B o l H nx iv w fun v H' On K J=>Ez o.dst v l fun l'=>Ki P τ B ops.toList r l' H' On K J Fn:=L;obtain⟨b,v,mk,obj,hK,PH,hb,hv,WT,QZ,WU⟩:=oL hτ L s.sat g2;obtain⟨l',hl,s'⟩:=s.zA ho Y hb hv WT QZ WU hK WE R5;exact ih (fuel+r.length) (by omega) fuel r _ _ _ _ _ _ _ _ _ _ _ _ rfl XK c5 hl s'
  ·have WS:∀g,(i,g)∉FS:=fun g Y=>hE ⟨g,Y⟩;have Q1:la[i]? =some false:=by
    have Ow:i<la.size:=by rw[s.NO,<-s.NL];exact(aZ.1 PU).1
    rw[Array.getElem?_eq_getElem Ow]
    cases hb:la[i]with
    |false=>rfl
    |true=>
     rcases(s.la i).1 (by rw[Array.getElem?_eq_getElem Ow,hb])with G|G
     ·rw[PU]at G;cases G
     ·exact absurd G hE
   have Sm:i∈Region.ready .any ops la:=ew.2 ⟨Q1,o,ho,fun e U hb=>(s.la e.on).2 (.inl (hwait e U hb))⟩;have VL:=kz Q1;obtain⟨f,rfl⟩:∃f,fuel=f+1:=⟨fuel-1,by omega⟩
   cases hR:vQ o.op with
   |true=>
    rw[hR]at c4;obtain⟨vR,Py,Q5,hb3,S9⟩:=Gt c4 s.NL;have PD:∀j,vR j->la.getD j false=false:=fun j hj=>by
     cases hl:la.getD j false with
     |false=>rfl
     |true=>
      have hl:la[j]? =some true:=by
       rw[ai]at hl
       cases F:la[j]? with
       |none=>rw[F]at hl;cases hl
       |some b=>rw[F]at hl;simp at hl;rw[hl]
      rcases(s.la j).1 hl with h4|⟨g,h4⟩
      ·have:=Q5 j hj;rw[ai,h4]at this;cases this
      ·exact absurd hj (hb3 j (s.JL j g h4))
    have Rg:∀j oj,ops[j]? =some oj->j≠i->la.getD j true=false->¬vR j->o.apart ops oj=true/\(JK o.op=true\/rf oj=false):=by
     intro j oj R1 Ph SK TA;have Tj:lx.getD j true=false:=by
      rw[ai]at SK ⊢
      cases F:lx[j]? with
      |none=>
       have:la[j]? =none:=by
        rw[Array.getElem?_eq_none_iff]at F ⊢;rw[s.NO,<-s.NL];exact F
       rw[this]at SK;cases SK
      |some b=>
       cases b with
       |false=>rfl
       |true=>rw[(s.la j).2 (.inl F)]at SK;cases SK
     exact S9 j oj R1 Ph Tj TA
    rcases zD s.sat L c1 with⟨I,l1,G,sat1,R6⟩|⟨I,RB,l1,G,sat1⟩
    ·obtain⟨v,hK,R4,Ot⟩:=(mS hτ G sat1 hR).resolve_right (fun hh=>by have:=hh.1;rw[sY hR]at this;cases this);obtain⟨l2,N,sat2,QV⟩:=lK sat1 hK WE R4;refine tV (pu:=JK o.op) (v:=v.den O) ho Pb (fun c a w hq=>?_) vR Py f la a J PD Rg Sm (.inl ⟨I,fun w3 U=>Ot w3 (U.imp id fun U=>sat1.rel.ext U)⟩) ?_
     ·exact absurd hq.1 (by simp)
     ·refine ih (f+r.length) (by omega) f r _ _ _ _ _ _ _ _ _ _ _ _ rfl (by omega) c5 N (s.step Pb ho WS R5 sat2 ?_ (fun _ _ _=>Ext.refl _) (fun g _ Tk SQ _=>⟨Tk,SQ⟩));intro j hj Ph d hd Oe;have R6:=R6 (by intro e;rw[e]at hj;cases hj);subst R6;exact QV d hd Oe
    ·obtain⟨l2,N,sat2,QV⟩:=lK (v:=.o (.v undef)) sat1 G WE trivial;refine tV (pu:=JK o.op) (v:=undef) ho Pb (fun c a w hq=>?_) vR Py f la a J PD Rg Sm (.inr ⟨I,rfl⟩) ?_
     ·exact absurd hq.1 (by simp)
     ·refine ih (f+r.length) (by omega) f r _ _ _ _ _ _ _ _ _ _ _ _ rfl (by omega) c5 N (s.step Pb ho WS R5 sat2 ?_ (fun _ _ _=>Ext.refl _) (fun g _ Tk SQ _=>⟨Tk,SQ⟩));intro j hj;rw[RB]at hj;cases hj
   |false=>
    rw[hR]at c4;simp only[av]at c4;obtain⟨c4,c6⟩:=c4;have hpick:∀j∈Region.ready .any ops la,j=i\/(j≠i/\j∈Pd):=by
     intro j hj;by_cases Ph:j=i
     ·exact .inl Ph
     ·refine .inr ⟨Ph,?_⟩;apply Decidable.byContradiction;intro hjP;obtain⟨k1,oj,k2,k3⟩:=ew.1 hj;have:j∈Region.ready .any ops (Et lx (Pd.filter fun j=> !Nat.beq j i)):=by
       refine ew.2 ⟨?_,oj,k2,fun e U hb=>?_⟩
       ·have Ow:j<(Et lx (Pd.filter fun j=> !Nat.beq j i)).size:=by rw[Ey,s.NL,<-s.NO];exact(aZ.1 k1).1
        rw[Array.getElem?_eq_getElem Ow]
        cases hb:(Et lx (Pd.filter fun j=> !Nat.beq j i))[j]with
        |false=>rfl
        |true=>
         rcases(yz _ lx j).1 (by rw[Array.getElem?_eq_getElem Ow,hb])with h4|⟨h4,_⟩
         ·have:=(s.la j).2 (.inl h4);rw[k1]at this;cases this
         ·exact absurd (List.mem_filter.1 h4).1 hjP
       ·rw[yz];rcases(s.la e.on).1 (k3 e U hb)with h4|⟨g,h4⟩
        ·exact .inl h4
        ·refine .inr ⟨List.mem_filter.2 ⟨s.JL _ _ h4,?_⟩,?_⟩
         ·simp only[Bool.not_eq_true',nT]
          intro e2;rw[e2]at h4;exact WS g h4
         ·have:=(s.pd _ (s.JL _ _ h4)).1;exact(aZ.1 this).1
      have:=List.all_eq_true.1 c6 j this;exact Ph (eX this)
    refine⟨fun U=>(by rw[U]at Sm;cases Sm),fun j hj=>?_⟩;have SK:=(ew.1 hj).1;have hunj:=kz SK;rcases hpick j hj with rfl|⟨Ph,hjP⟩
    ·
     refine pj ho ?_;rcases zD s.sat L c1 with⟨I,l1,G,sat1,R6⟩|⟨I,RB,l1,G,sat1⟩
     ·refine .inl ⟨I,?_⟩;have hl1':∀k∈Pd,k≠j->∀(l2:Env),(∀t,fm l1 t=none->o.dst≠some t->fm l2 t=none)->∀d,fm l d=none->o.dst≠some d->fm l2 d=none:=by
       intro k D _ l2 QV d hd Oe;have R6:=R6 (by intro e;rw[e]at D;cases D);subst R6;exact QV d hd Oe
      cases hA:NJ o.op with
      |true=>
       obtain⟨b,v,mk,obj,hK,PH,hb,hv,WT,QZ,WU⟩:=oL hτ G sat1 hA;have Pf:Rel ((nx,b)::H) (nx+1) iv B w (gT O nx ⟨J.heap.size,0,false⟩) (J.alloc obj):=
        sat1.rel.push b _ rfl rfl rfl (by simp) (fun k D=>heap_alloc_old _ _ D) (fun _=>⟨Nat.le_refl _,by simp⟩) (QZ _ _ (heap_alloc_new _ _)) hb
       obtain⟨l2,N,sat2,QV⟩:=lK (sat1.next Pf (Nat.le_succ _) (fun id PY=>gD id PY)) hK WE hv;rw[WT]at sat2;refine nC (v:=mk J.heap.size) (V:=J.alloc obj) (WU J) ⟨fun _=>Ext.alloc _ _,?_⟩;refine ih (f+r.length) (by omega) f r _ _ _ _ _ _ _ _ _ _ _ _ rfl (by omega) c5 N (s.step Pb ho WS R5 sat2 (fun k D Ti=>hl1' k D Ti l2 QV) (fun _ _ _=>Ext.alloc _ _) (fun g Y Tk SQ _=>⟨fun id c hc R U=>?_,SQ⟩));rw[dB]at hc;split at hc
       ·rename_i e;subst e;rw[eR]at U;simp only at U;omega
       ·have QL:gT O nx ⟨J.heap.size,0,false⟩ id=O id:=(gD id (s.sat.rel.keys id c hc)).symm;rw[QL]at R U;exact Tk id c hc R U
      |false=>
       cases hH:rf o with
       |false=>
        rw[sC hH]at G;refine zC G sat1 hR hA hH fun v V hK U hs=>⟨fun _=>U,?_⟩
        obtain⟨l2,N,sat2,QV⟩:=lK (v:=.o (.v v)) hs hK WE trivial;refine ih (f+r.length) (by omega) f r _ _ _ _ _ _ _ _ _ _ _ _ rfl (by omega) c5 N (s.step Pb ho WS R5 sat2 (fun k D Ti=>hl1' k D Ti l2 QV) (fun _ _ _=>U) (fun g Y Tk SQ _=>⟨Tk,fun lo A hm hc=>?_⟩));rcases List.mem_cons.1 hm with hm|hm
        ·injection hm with e1 e2;omega
        ·exact SQ lo A hm hc
       |true=>
        have RB:Pd=[]:=by rw[hH]at c4;simpa using c4
        subst RB;refine oM hτ G sat1 fun v H' On K V G8 w3 hK sat2 hv=>⟨fun hs=>(by rw[hs o ho]at hH;cases hH),?_⟩
        obtain⟨l2,N,sat3,QV⟩:=lK sat2 hK WE hv;exact ih (f+r.length) (by omega) f r _ _ _ _ _ _ _ _ _ _ _ _ rfl (by omega) c5 N (s.step Pb ho WS R5 sat3 (fun k D=>by cases D) (fun k D=>by cases D) (fun g _ _ _ D=>by obtain⟨k,D,_⟩:=D;cases D))
     ·refine .inr ⟨I,fun _=>Ext.refl _,?_⟩;subst RB;obtain⟨l2,N,sat2,QV⟩:=lK (v:=.o (.v undef)) sat1 G WE trivial;exact ih (f+r.length) (by omega) f r _ _ _ _ _ _ _ _ _ _ _ _ rfl (by omega) c5 N (s.step Pb ho WS R5 sat2 (fun k D=>by cases D) (fun k D=>by cases D) (fun g _ _ _ D=>by obtain⟨k,D,_⟩:=D;cases D))
    ·
     refine s.early Of Pb hjP SK fun E' a2 V U s'=>⟨fun _=>U,?_⟩
     exact ih (f+(r.length+1)) (by omega) f (.x i::r) lx _ Pd E' l H nx iv w O a2 V rfl (by omega) (by simp only[pg,ho,av];exact⟨⟨⟨⟨by simpa using c1,by simpa using c2⟩,c3⟩,by rw[hR];simp only[av];exact⟨c4,c6⟩⟩,c5⟩) h s'
theorem cR(hτ:fo P τ)(hm:P.follows .mixedOrders=true){Fn:KT}(π:List It)(hs:Region.noSelect ops=true)(hc:Gu ops ops.size π 0 []=true)
  (h:Ki P τ B ops.toList π l H nx iv w Fn):zE P B ops l H nx iv w Fn:=by
 rw[DY π (Array.replicate ops.size false) 0 [] (by simp) (fun j=>by rw[tT,ai,Array.getElem?_replicate];split<;>rfl)]at hc;refine⟨fun n O a J Of sat Q hQ id=>?_⟩;refine wp_mono (Q':=Q) (c:=.region id ops true) (wp_region_any (Q:=QN (Q .normal)) hm (zF _ _ _ _ ?_)) (fun e a w hq=>by obtain⟨rfl,hq⟩:=hq;exact hq);refine Km hτ (fun j o ho d hd=>?_) (Region.noSelect_spec hs) hQ _ _ π _ _ [] [] l H nx iv w O a _ rfl ?_ hc h ?_
 ·have:=List.all_eq_true.1 Of o (aC (by rw[bG];exact ho));rw[hd]at this;have h5:d+1<=n:=by simpa [Nat.blt]using this
  exact h5
 ·unfold unl;refine aW List.countP_le_length ?_;simp
 ·refine⟨⟨sat.rel.drew,sat.size,sat.defers,sat.env,sat.sc⟩,by simp,by simp,fun j=>by simp,fun j g h=>(by cases h),fun j h=>(by cases h),fun j g h=>(by cases h),fun j g j' h=>(by cases h),fun j h=>(by cases h)⟩
end
def yb:List (Nat×TI)->Nat->Option TI
 |[],_=>none
 |(t,v)::r,u=>match Nat.beq t u with
  |true=>some v
  |false=>yb r u
def veq:Value->Value->Bool
 | .bool a,.bool b=>a==b
 | .int k n,.int j m=>pn k j&&decide (n=m)
 | .string a,.string b=>a.data.toList.isEmpty&&b.data.toList.isEmpty
 | .pointer none,.pointer none=>true
 | .slice none a b,.slice none c d=>Nat.beq a c&&Nat.beq b d
 | .map none,.map none=>true
 | .nilFunc,.nilFunc=>true
 | .nilIface,.nilIface=>true
 |_,_=>false
theorem CI{a b:IntKind}(h:pn a b=true):a=b:=by cases a<;>cases b<;>first|rfl|cases h
theorem aAL{a b:Value}(h:veq a b=true):a=b/\a.oneCell'=true:=by
 unfold veq at h;split at h
 ·exact⟨by rw[eq_of_beq h],rfl⟩
 ·simp only[av,decide_eq_true_eq]at h;exact⟨by rw[CI h.1,h.2],rfl⟩
 ·rename_i a b;simp only[av,List.isEmpty_iff]at h;refine⟨?_,rfl⟩;have ha:a=⟨#[]⟩:=by
   obtain⟨⟨l⟩⟩:=a;simp only at h;rw[h.1]
  have hb:b=⟨#[]⟩:=by
   obtain⟨⟨l⟩⟩:=b;simp only at h;rw[h.2]
  rw[ha,hb]
 ·exact⟨rfl,rfl⟩
 ·simp only[av]at h;exact⟨by rw[eX h.1,eX h.2],rfl⟩
 ·exact⟨rfl,rfl⟩
 ·exact⟨rfl,rfl⟩
 ·exact⟨rfl,rfl⟩
 ·cases h
def NP:List Value->List Value->Bool
 |[],[]=>true
 |a::r,b::s=>veq a b&&NP r s
 |_,_=>false
theorem IK:∀{a b:List Value},NP a b=true->a=b/\∀x∈b,x.oneCell'=true
 |[],[],_=>⟨rfl,by simp⟩
 |a::r,b::s,h=>by
  simp only[NP,av]at h;obtain⟨L,G⟩:=aAL h.1;obtain⟨N,h4⟩:=IK h.2;refine⟨by rw[L,N],fun x F=>?_⟩;rcases List.mem_cons.1 F with rfl|F
  ·rw[<-L];exact G
  ·exact h4 x F
 |[],_::_,h=>by cases h
 |_::_,[],h=>by cases h
def yc(P:Program):List Field->List (Nat×Nat)->Bool
 |[],[]=>true
 |f::r,(o,t)::s=>Nat.beq f.offset o&&Nat.beq f.type t&&(P.info? f.type).isSome&&yc P r s
 |_,_=>false
theorem zG{P:Program}:∀{a:List Field} {b:List (Nat×Nat)},yc P a b=true->a.map (fun f=>(f.offset,f.type))=b/\∀f∈a,(P.info? f.type).isSome=true
 |[],[],_=>⟨rfl,by simp⟩
 |f::r,(o,t)::s,h=>by
  simp only[yc,av]at h;obtain⟨N,h4⟩:=zG h.2;refine⟨by rw[List.map_cons,N,eX h.1.1.1,eX h.1.1.2],fun x F=>?_⟩;rcases List.mem_cons.1 F with rfl|F
  ·exact h.1.2
  ·exact h4 x F
 |[],_::_,h=>by cases h
 |_::_,[],h=>by cases h
def isAgg:TypeDesc->Bool
 | .struct _=>true
 | .array _ _=>true
 |_=>false
def aAv(a b:Bool):Bool:=match a with
 |true=>b
 |false=> !b
theorem NQ{a b:Bool}(h:aAv a b=true):a=b:=by cases a<;>cases b<;>first|rfl|cases h
def tokB(P:Program)(t:Nat)(i:TI):Bool:=
 (match P.info? t with
  |some inf=>Nat.beq inf.size i.size&&Nat.beq inf.bytes i.bytes&&(match inf.zero with
   |some z=>NP z.cells.toList i.zero
   |none=>false)
  |none=>false)&&Nat.beq i.zero.length i.size&&
 (match P.underlying t with
  |some d=>aAv (isAgg d) i.agg&&(match i.tag with
   |1=>(match d with
    | .int k=>pn k i.ik
    |_=>false)
   |2=>(match d with
    | .bool=>true
    |_=>false)
   |3=>(match d with
    | .string=>true
    |_=>false)
   |4=>(match d with
    | .slice e=>Nat.beq e i.elem
    |_=>false)
   |5=>(match d with
    | .struct fs=>yc P fs.toList i.fields
    |_=>false)
   |6=>(match d with
    | .array n e=>Nat.beq n i.DX&&Nat.beq e i.elem
    |_=>false)
   |_=>true)
  |none=>false)
theorem tok_of{t:Nat}{i:TI}(h:tokB P t i=true):Gx P t i:=by
 simp only[tokB,av]at h;obtain⟨⟨L,G⟩,N⟩:=h
 cases A:P.info? t with
 |none=>rw[A]at L;cases L
 |some inf=>
 rw[A]at L;simp only[av]at L;obtain⟨⟨h4,h5⟩,h6⟩:=L
 cases hz:inf.zero with
 |none=>rw[hz]at h6;cases h6
 |some z=>
 rw[hz]at h6;obtain⟨h7,h8⟩:=IK h6
 cases hu:P.underlying t with
 |none=>rw[hu]at N;cases N
 |some d=>
 rw[hu]at N;simp only[av]at N;obtain⟨h9,h10⟩:=N;refine⟨⟨inf,z,A,eX h4,eX h5,hz,h7⟩,eX G,h8,⟨d,hu,?_⟩,fun e=>?_,fun e=>?_,fun e=>?_,fun e=>?_,fun e=>?_,fun e=>?_⟩
 ·rw[<-NQ h9]
  cases d<;>rfl
 all_goals rw[e]at h10
 ·cases d with
  |int k=>simp only at h10;rw[<-CI h10];exact hu
  |_=>cases h10
 ·cases d with
  |bool=>exact hu
  |_=>cases h10
 ·cases d with
  |string=>exact hu
  |_=>cases h10
 ·cases d with
  |slice e=>simp only at h10;rw[<-eX h10];exact hu
  |_=>cases h10
 ·cases d with
  |struct fs=>simp only at h10;exact⟨fs,hu,zG h10⟩
  |_=>cases h10
 ·cases d with
  |array n e=>simp only[av]at h10;rw[<-eX h10.1,<-eX h10.2];exact hu
  |_=>cases h10
theorem aAM(h:l.all (fun p=>tokB P p.1 p.2)=true):fo P (yb l):=by
 intro t i A;have:(t,i)∈l:=by
  clear h
  induction l with
  |nil=>cases A
  |cons p r ih=>
   obtain⟨t0,i0⟩:=p;unfold yb at A;split at A
   ·rename_i hb;injection A with A;subst A;rw[eX hb];exact aF ..
   ·exact aB _ (ih A)
 exact tok_of (List.all_eq_true.1 h _ this)
theorem JM{fn:Func}{c:Code}(hf:P.funcs[g]? =some fn)(hb:fn.body=some c)(R:(fn.name== "runtime.NumGoroutine")=false):Kn P g:=
 ⟨fun args w=>by simp only[beq_eq_false_iff_ne]at R;simp[callFunc,hf,hb,R]⟩
theorem eI.mono{args:Array Value}{w:World}(h:eI P g args w EQ)(k:∀e V,EQ e V->R' e V):eI P g args w R':=
 ⟨h.e,Calls.mono h.c k⟩
abbrev dw(B:Nat)(w V:World):Prop:=RowKit.Below B w V
theorem dw.refl{w:World}:dw B w w:=RowKit.Below.refl _ _
theorem Rel.cU{H:Hp}{nx:Nat}{iv:Iv}{w J:World}(r:Rel H nx iv B w O J):dw B w J:=
 ⟨r.os,r.tape,r.output,r.size,fun k D=>r.vP k (by have:=r.base;omega) (fun id b h R U=>by have:=(r.low id b h R).1;omega)⟩
theorem dw.tr{a b c:World}(h:dw B a b)(k:dw B b c):dw B a c:=RowKit.Below.trans h k
theorem Ext.cU{a b:World}(h:Ext a b)(hB:B<=a.heap.size):dw B a b:=RowKit.Below.mono h hB
end Go.Sx
namespace Go.RowKit
open Go Go.Sx
theorem Below.cU{B:Nat}{a b:World}(h:RowKit.Below a.heap.size a b)(hB:B<=a.heap.size):RowKit.Below B a b:=RowKit.Below.mono h hB
end Go.RowKit
namespace Go.Sx
open Go
variable{args:(Nat->dq)->Array Value}{If:(Nat->dq)->World->Value->World->Prop}{H:Hp}{n:Int}{iv:Iv}{B nx:Nat}{O:Nat->dq}{P:Program}
theorem cL{w V:World}{a:Addr}(h:V.heap[a.block]? =w.heap[a.block]?):V.cell? a=w.cell? a:=by
 unfold World.cell?;rw[h]
theorem dw.cell{w V:World}(h:dw B w V){a:Addr}(ha:a.block<B):V.cell? a=w.cell? a:=cL (h.block _ ha)
def FC(l:Env):Env->Prop
 |[]=>True
 |(u,v)::r=>fm l u=some v/\FC l r
theorem FC.get{l:Env}:∀{t:Env},FC l t->∀u v,fm t u=some v->fm l u=some v
 |[],_,u,v,h=>by cases h
 |(u0,v0)::r,h,u,v,Y=>by
  rw[eh]at Y;split at Y
  ·rename_i e;subst e;injection Y with Y;subst Y;exact h.1
  ·exact FC.get h.2 u v Y
def jw(n:Nat):Env->Prop
 |[]=>True
 |(_,v)::r=>v.sc n/\jw n r
theorem jw.get{n:Nat}:∀{t:Env},jw n t->∀u v,fm t u=some v->v.sc n
 |[],_,u,v,h=>by cases h
 |(u0,v0)::r,h,u,v,Y=>by
  rw[eh]at Y;split at Y
  ·injection Y with Y;subst Y;exact h.1
  ·exact jw.get h.2 u v Y
theorem Rel.aBS{w J:World}(r:Rel H nx iv B w O J):Rel H nx [] B w O J:=
 Rel.mk' r.os r.tape r.output r.size r.base (by simp) r.keys (fun id b h=>r.fits h) (fun id b h=>r.scopd h) r.inj r.low r.vP (by simp)
theorem Sub.reset{l tl:Env}{w J:World}(r:Rel H nx iv B w O J)(L:FC l tl)(G:jw nx tl):Sub B l nx O J ⟨tl,H,nx,[],J⟩:=
 ⟨O,r.here.aBS,fun u v hv=>⟨G.get u v hv,v,L.get u v hv,rfl⟩⟩
def eO(w:World)(If:Value->World->Prop)(e:Ending)(V:World):Prop:=∃v,e= .returned v/\Ext w V/\If v V
theorem cO{g:Nat}{w:World}{Fn:SV->Hp->Iv->World->Prop}
  (h:∀O J,Rel H nx iv B w O J->eI P g (args O) J (eO J (If O J))) (hK:∀O J v V,Rel H nx iv B w O J->Ext J V->dw B w V->If O J v V->Fn (.o (.v v)) H ((J.heap.size,V.heap.size)::iv) V):FB P B g args H nx iv w Fn:=
 ⟨fun O J r=>(h O J r).mono fun e V ⟨v,L,G,N⟩=>⟨v,L,G,hK O J v V r G (r.cU.tr (G.cU (by have:=r.base;have:=r.size;omega))) N⟩⟩
theorem cE{g:Nat}{w w0:World}{Fn:SV->Hp->Iv->World->Prop}(I:dw B w0 w)(If:(Nat->dq)->World->Value->World->Prop)
  (h:∀O J,Rel H nx iv B w O J->eI P g (args O) J (eO J (If O J))) (hK:∀O J v V K,Rel H nx iv B w O J->Ext J V->dw B w0 V->K=(J.heap.size,V.heap.size)::iv->If O J v V->Fn (.o (.v v)) H K V):FB P B g args H nx iv w Fn:=
 cO h fun O J v V r L G N=>hK O J v V _ r L (I.tr G) rfl N
theorem mC{a:Nat×Nat}{K:Iv}(h:K=a::iv):∀p,p∈iv->p∈K:=h▸fun _ h=>aB _ h
theorem mN{a:Nat×Nat}{K:Iv}(h:K=a::iv):a∈K:=h▸aF
theorem wrap64(L: -9223372036854775808<=n)(G:n<=9223372036854775807):IntKind.wrap .i64 n=n:=by
 have e1:(2:Int)^64=18446744073709551616:=by decide
 have e2:(2:Int)^(64-1)=9223372036854775808:=by decide
 simp only[IntKind.wrap,IntKind.bits,IntKind.signed,e1,e2]
 by_cases h:n % 18446744073709551616≥9223372036854775808
 ·rw[if_pos (by simp[h])];omega
 ·rw[aH (by simp[h])];omega
theorem wo{r:Int}(h:(-9223372036854775808<=n/\n<=9223372036854775807)/\n=r:=by omega):IntKind.wrap .i64 n=r:=by rw[wrap64 h.1.1 h.1.2];exact h.2
theorem yd(L:0<=n)(G:n<18446744073709551616):IntKind.wrap .u64 n=n:=by
 have e1:(2:Int)^64=18446744073709551616:=by decide
 simp only[IntKind.wrap,IntKind.bits,IntKind.signed,e1,Bool.false_and,Bool.false_eq_true,if_false]
 omega
theorem ye(L:0<=n)(G:n<4294967296):IntKind.wrap .u32 n=n:=by
 have e1:(2:Int)^32=4294967296:=by decide
 simp only[IntKind.wrap,IntKind.bits,IntKind.signed,e1,Bool.false_and,Bool.false_eq_true,if_false]
 omega
end Go.Sx
namespace Go.Sx
open Go
variable{args:(Nat->dq)->Array Value}{If:(Nat->dq)->World->Value->World->Prop}{next:Act->World->Prop}{after:Array Edge}{es:Array MapEntry}{ag ag':Bool}{Q:Exit->Act->World->Prop}{tH:Hp}{m:Int}{ik ik' k:IntKind}{Fn:KT}{fs fs':List (Nat×Nat)}{W cs2 ks xs ze ze':List Value}{B Bc al al' bt by_ c clock e' g id n r sz sz0 t tag' ty:Nat}{O:Nat->dq}{i y:Operand}{guard:Option (Nat×Bool)}{row:Option Nat}{dst:Option Tmp}{pos:String}{key z:Value}{KS:Value->Prop}
section
variable{P:Program}{τ:nR}{B nx:Nat}{l:Env}{H:Hp}{iv:Iv}{w J V:World}{O:Nat->dq}
theorem Rel.CJ{Od:Iv}(r:Rel H nx iv B w O J)(PN:J.heap.size<=V.heap.size)(Oh:∀id b,dG H id=some b->(O id).nil=false->V.heap[(O id).g]? =J.heap[(O id).g]?)
  (Uz:∀lo A,(lo,A)∈Od->A<=V.heap.size/\∀id b,dG H id=some b->(O id).nil=false->¬(lo<=(O id).g/\(O id).g<A)):Rel H nx Od B V O V:=
 Rel.mk' rfl rfl rfl (Nat.le_refl _) (by have:=r.base;have:=r.size;omega) (fun lo A h=>(Uz lo A h).1) r.keys
  (fun id b h=>jz.gg (r.fits h) (fun _ _=>rfl) (r.scopd h) (fun R _=>Oh id b h R)) (fun id b h=>r.scopd h) r.inj
  (fun id b h R=>by have:=r.low id b h R;omega) (fun _ _ _=>rfl) (fun lo A h=>(Uz lo A h).2)
theorem sZ(hτ:fo P τ)(hBc:Bc<=B){x:Operand}{e k m:Nat}
  {v:Value} {vy:SV} {news:List Value} {Fn:SV->Hp->Nat->Iv->World->Prop}
  (ht:τ t=some ⟨sz0,ag,bt,ze,4,ik,e,al,fs⟩) (Px:τ e=some ⟨sz,ag',by_,ze',tag',ik',e',al',fs'⟩) (QI:0<sz) (F:ev l x=some (.o (.v v))) (hy:ev l y=some vy)
  (Sn:∀O J,Rel H nx iv B w O J->J.ownsRow Bc e sz v m xs/\∀g,v.ownBlock=some g->∀id b,dG H id=some b->(O id).nil=false->(O id).g≠g)
  (Ry:news.length=k*sz) (WV:∀u∈news,u.oneCell'=true) (RM:m+k<=maxLen) (hb:(m+k)*by_<=140737488355328)
  (src:∀O J,Rel H nx iv B w O J->(∃c,vy.den O= .slice none 0 c/\k=0)\/∃ad c,vy.den O= .slice (some ad) k c/\∀(j:Nat) u,news[j]? =some u->J.cell? (ad.add j)=some u)
  (Od:Value->World->Iv)
  (Uz:∀O J v' V,Rel H nx iv B w O J->J.heap.size<=V.heap.size->(∀g,v'.ownBlock=some g->g<V.heap.size/\(v.ownBlock=some g\/g=J.heap.size))->∀lo A,(lo,A)∈Od v' V->A<=V.heap.size/\∀id b,dG H id=some b->(O id).nil=false->¬(lo<=(O id).g/\(O id).g<A))
  (hK:∀O J v' V,Rel H nx iv B w O J->V.ownsRow Bc e sz v' (m+k) (xs++news)->J.grownBy V v.ownBlock->(v'.ownBlock=v.ownBlock\/v'.ownBlock=some J.heap.size)->Fn (.o (.v v')) H nx (Od v' V) V):
  xy P B ⟨dst,.call ⟨.builtin .append,⟨[x,y]⟩,⟨[t,t]⟩⟩,ty,pos,after,guard⟩ l H nx iv w Fn:=by
 refine⟨fun O J ev' r Qt=>?_⟩;have hto:=hτ t _ ht;have hu:=hto.i4 rfl;simp only at hu;have R7:=hτ e _ Px;obtain⟨inf,z,A,PN,PB,hz,R8⟩:=R7.info;have R9:=R7.Gy;simp only at PN PB R8 R9;have WG:z.cells.size=sz:=by rw[<-R9,<-R8];simp
 obtain⟨Oa,Oe⟩:=Sn O J r;have key:∃v' V,(Builtin.append_ #[t,t] ty #[v,vy.den O]).run P J= .ok v' V/\V.ownsRow Bc e sz v' (m+k) (xs++news)/\J.grownBy V v.ownBlock/\(v'.ownBlock=v.ownBlock\/v'.ownBlock=some J.heap.size):=by
  rcases src O J r with⟨c,hv,rfl⟩|⟨ad,c,hv,Pm⟩
  ·have:news=[]:=List.eq_nil_of_length_eq_zero (by simpa using Ry);subst this;rw[hv];exact⟨v,J,lP J Bc t ty e inf sz hu A v m xs Oa c,by simpa using Oa,⟨rfl,rfl,rfl,Nat.le_refl _,fun _ _ _=>rfl⟩,.inl rfl⟩
  ·rw[hv];obtain⟨v',V,L,G,N,_,h5⟩:=run_append_own_at (P:=P) J Bc t ty e inf z sz by_ hu A hz PN PB WG QI v m xs Oa ad k c news Ry Pm WV RM hb (by have:=r.base;have:=r.size;omega);exact⟨v',V,L,G,N,h5⟩
 obtain⟨v',V,L,G,N,h4⟩:=key;have e1:=Qt x _ F;have e2:=Qt y _ hy;have RN:∀g,v'.ownBlock=some g->g<V.heap.size/\(v.ownBlock=some g\/g=J.heap.size):=fun g Y=>by
  refine⟨?_,?_⟩
  ·rcases G.2 with⟨rfl,_⟩|⟨g',cap,cur,rfl,_,hc,_⟩
   ·cases Y
   ·simp only[Value.ownBlock,Option.some.injEq]at Y;subst Y;exact(aZ.1 hc).1
  ·rcases h4 with h4|h4
   ·exact .inl (h4▸Y)
   ·rw[h4]at Y;injection Y with Y;exact .inr Y.symm
 refine⟨v',V,Od v' V,.inl ?_,r.CJ N.size (fun id b h R=>N.block _ (r.low id b h R).2 (fun e=>Oe _ e.symm id b h R rfl)) (Uz O J v' V r N.size RN),hK O J v' V r G N h4⟩;have e1:ev' x=v:=e1;generalize vy.den O=yy at*
 simp[execOp,resolve,invoke,builtin,e1,e2,L]
theorem dw.grown{B0:Nat}(h:J.grownBy V row)(hr:∀g,row=some g->B0<=g)(hB:B0<=J.heap.size):dw B0 J V:=
 ⟨h.os,h.tape,h.output,h.size,fun k D=>h.block k (by omega) (fun e=>by have:=hr k e.symm;omega)⟩
theorem ownsRow.low{e m:Nat}{v:Value}(h:w.ownsRow B e sz v m xs):∀g,v.ownBlock=some g->B<=g/\g<w.heap.size:=by
 intro g Y;rcases h.2 with⟨rfl,_⟩|⟨g',cap,cur,rfl,hb,hc,_⟩
 ·cases Y
 ·simp only[Value.ownBlock,Option.some.injEq]at Y;subst Y;exact⟨hb,(aZ.1 hc).1⟩
theorem ownsRow.cK{e m:Nat}{v:Value}(h:w.ownsRow B e sz v m xs)(D:∀g,v.ownBlock=some g->V.heap[g]? =w.heap[g]?):V.ownsRow B e sz v m xs:=by
 refine⟨h.1,?_⟩;rcases h.2 with L|⟨g',cap,cur,rfl,hb,hc,G⟩
 ·exact .inl L
 ·exact .inr ⟨g',cap,cur,rfl,hb,by rw[D g' rfl];exact hc,G⟩
end
def At.Ep(f:Nat->Nat):At->At
 | .v x=>.v x
 | .p id off=>.p (f id) off
 | .s id off len cap=>.s (f id) off len cap
 | .w id len=>.w (f id) len
 | .fn g caps=>.fn g (caps.map f)
def SV.Ep(f:Nat->Nat):SV->SV
 | .o x=>.o (x.Ep f)
 | .a W=>.a (W.map (At.Ep f))
def jz.Ep(f:Nat->Nat):jz->jz
 | .box t W=>.box t (W.map (At.Ep f))
 | .arr t W=>.arr t W
 | .vec t size W=>.vec t size W
 | .dead=>.dead
theorem At.tW(f:Nat->Nat)(O:Nat->dq)(x:At):(x.Ep f).den O=x.den (fun i=>O (f i)):=by
 cases x<;>simp[At.Ep,At.den]
theorem SV.tW(f:Nat->Nat)(O:Nat->dq)(x:SV):(x.Ep f).den O=x.den (fun i=>O (f i)):=by
 cases x with
 |o x=>exact At.tW f O x
 |a W=>
  have:At.den O ∘ At.Ep f=At.den (fun i=>O (f i)):=funext fun x=>At.tW f O x;simp[SV.Ep,SV.den,this]
def tX:List (Nat×Nat)->Nat->Nat
 |[],n=>n
 |(a,b)::r,n=>match Nat.beq a n with
  |true=>b
  |false=>tX r n
def zH(f:Nat->Nat)(l:Env):Env->Prop
 |[]=>True
 |(u,v)::r=>fm l u=some (v.Ep f)/\zH f l r
def zI(f:Nat->Nat)(H:Hp):Hp->Prop
 |[]=>True
 |(u,b)::r=>dG H (f u)=some (b.Ep f)/\zI f H r
def NR(n:Nat):Hp->Prop
 |[]=>True
 |(u,b)::r=>(u<n/\b.scopd n)/\NR n r
def JN(f:Nat->Nat):Hp->Bool
 |[]=>true
 |(u,_)::r=>r.all (fun p=>Nat.beq p.1 u|| !Nat.beq (f p.1) (f u))&&JN f r
theorem zH.get{f:Nat->Nat}{l:Env}:∀{t:Env},zH f l t->∀u v,fm t u=some v->fm l u=some (v.Ep f)
 |[],_,u,v,h=>by cases h
 |(u0,v0)::r,h,u,v,Y=>by
  rw[eh]at Y;split at Y
  ·rename_i e;subst e;injection Y with Y;subst Y;exact h.1
  ·exact zH.get h.2 u v Y
theorem zI.get{f:Nat->Nat}{l:Hp}:∀{t:Hp},zI f l t->∀u v,dG t u=some v->dG l (f u)=some (v.Ep f)
 |[],_,u,v,h=>by cases h
 |(u0,v0)::r,h,u,v,Y=>by
  rw[dB]at Y;split at Y
  ·rename_i e;subst e;injection Y with Y;subst Y;exact h.1
  ·exact zI.get h.2 u v Y
theorem NR.get{n:Nat}:∀{t:Hp},NR n t->∀u b,dG t u=some b->u<n/\b.scopd n
 |[],_,u,v,h=>by cases h
 |(u0,v0)::r,h,u,v,Y=>by
  rw[dB]at Y;split at Y
  ·rename_i e;subst e;injection Y with Y;subst Y;exact h.1
  ·exact NR.get h.2 u v Y
theorem FD:∀{t:Hp} {u:Nat} {b:jz},dG t u=some b->∃p∈t,p.1=u
 |[],u,b,h=>by cases h
 |(u0,v0)::r,u,b,h=>by
  rw[dB]at h;split at h
  ·rename_i e;exact⟨_,aF ..,e⟩
  ·obtain⟨p,L,G⟩:=FD h;exact⟨p,aB _ L,G⟩
theorem CK{f:Nat->Nat}:∀{t:Hp},JN f t=true->∀u v b c,dG t u=some b->dG t v=some c->f u=f v->u=v
 |[],_,u,v,b,c,h,_,_=>by cases h
 |(u0,v0)::r,A,u,v,b,c,hu,hv,U=>by
  simp only[JN,av]at A;have key:∀{w:Nat} {d:jz},dG r w=some d->f w=f u0->w=u0:=fun{w d} I hf=>by
   obtain⟨p,hp,rfl⟩:=FD I;have:=List.all_eq_true.1 A.1 p hp;simp only[Bool.or_eq_true,Bool.not_eq_true']at this;rcases this with h|h
   ·exact eX h
   ·rw[hf,Nat.beq_refl]at h;cases h
  rw[dB]at hu hv;split at hu<;>split at hv
  ·rename_i x y;rw[<-x,<-y]
  ·rename_i x y;subst x;exact(key hv U.symm).symm
  ·rename_i x y;subst y;exact key hu U
  ·exact CK A.2 u v b c hu hv U
theorem Sub.gen{l tl:Env}{nx On:Nat}{H:Hp}{iv K:Iv}{w J:World}(m:List (Nat×Nat))(r:Rel H nx iv B w O J)
  (hH:zI (tX m) H tH) (hE:zH (tX m) l tl) (hsH:NR On tH) (hsE:jw On tl) (A:JN (tX m) tH=true) (Uz:∀lo A,(lo,A)∈K->(lo,A)∈iv):Sub B l nx O J ⟨tl,tH,On,K,J⟩:=by
 refine⟨fun i=>O (tX m i),(?_:Rel tH On K B J (fun i=>O (tX m i)) J),fun u v hv=>⟨hsE.get u v hv,_,hE.get u v hv,SV.tW _ _ _⟩⟩;refine Rel.mk' rfl rfl rfl (Nat.le_refl _) (by have:=r.base;have:=r.size;omega) (fun lo A h=>by have:=r.oJ lo A (Uz lo A h);have:=r.size;omega) (fun id b h=>(hsH.get id b h).1) ?_ (fun id b h=>(hsH.get id b h).2) ?_ ?_ (fun _ _ _=>rfl) ?_
 ·intro id b h;have L:=r.fits (hH.get id b h);have hr:At.den O ∘ At.Ep (tX m)=At.den (fun i=>O (tX m i)):=funext fun x=>At.tW _ O x
  cases b with
  |box t W=>simpa [jz.Ep,jz.fits,hr]using L
  |arr t W=>exact L
  |vec t size W=>exact L
  |dead=>trivial
 ·intro id id' b b' h h' hd XJ R hn' U;refine CK A id id' b b' h h' (r.inj _ _ _ _ (hH.get id b h) (hH.get id' b' h') ?_ ?_ R hn' U)
  ·cases b<;>first|(exact absurd rfl hd)|simp[jz.Ep]
  ·cases b'<;>first|(exact absurd rfl XJ)|simp[jz.Ep]
 ·intro id b h R;exact r.low _ _ (hH.get id b h) R
 ·intro lo RA h id b hb R;exact r.je lo RA (Uz lo RA h) _ _ (hH.get id b hb) R
theorem Sub.gn{l tl:Env}{nx On:Nat}{H:Hp}{iv K:Iv}{w J:World}(m:List (Nat×Nat))(r:Rel H nx iv B w O J)
  (hH:zI (tX m) H tH:=by repeat' first|exact trivial|refine⟨rfl,?_⟩) (hE:zH (tX m) l tl:=by repeat' first|exact trivial|refine⟨rfl,?_⟩) (hsH:NR On tH:=by simp[NR,jz.scopd,At.sc]) (hsE:jw On tl:=by simp[jw,SV.sc,At.sc,fW]) (A:JN (tX m) tH=true:=by rfl) (Uz:∀lo A,(lo,A)∈K->(lo,A)∈iv:=by first|exact fun _ _ h=>h|simp):Sub B l nx O J ⟨tl,tH,On,K,J⟩:=Sub.gen m r hH hE hsH hsE A Uz
def vT(H:Hp):Hp->Prop
 |[]=>True
 |(u,b)::r=>dG H u=some b/\vT H r
def DZ(id:Nat):Hp->Bool
 |[]=>true
 |(_,.dead)::_=>false
 |(u,_)::r=> !Nat.beq u id&&DZ id r
theorem vT.get{H:Hp}:∀{t:Hp},vT H t->∀{u b},dG t u=some b->dG H u=some b
 |[],_,u,b,h=>by cases h
 |(v,c)::r,hs,u,b,h=>by
  unfold dG at h;split at h
  ·rename_i e;injection h with h;subst h;have:=bP e;subst this;exact hs.1
  ·exact vT.get hs.2 h
theorem DZ.get{id:Nat}:∀{t:Hp},DZ id t=true->∀{u b},dG t u=some b->u≠id/\b≠ .dead
 |[],_,u,b,h=>by cases h
 |(v,c)::r,hs,u,b,h=>by
  unfold dG at h;split at h
  ·rename_i e;injection h with h;subst h;have:=bP e;subst this;have hv:v.beq id=false->v≠id:=fun h e=>by rw[e,Nat.beq_refl]at h;cases h
   cases c<;>simp_all [DZ]
  ·refine DZ.get (t:=r) ?_ h
   cases c<;>simp_all [DZ]
section
variable{P:Program}{B nx:Nat}{H H':Hp}{iv:Iv}{w J V:World}{O:Nat->dq}
theorem Rel.free{b:jz}(r:Rel H nx iv B w O J)(PY:dG H id=some b)(hd:b≠ .dead)(R:(O id).nil=false)(hs:vT H H')(ho:DZ id H'=true):Rel H' nx (((O id).g,(O id).g+1)::iv) B J O J:=by
 have L:Rel H' nx iv B J O J:=Rel.mk' rfl rfl rfl (Nat.le_refl _) (by have:=r.base;have:=r.size;omega) (fun lo A hm=>by have:=r.oJ lo A hm;have:=r.size;omega) (fun j c h=>r.keys j c (hs.get h))
  (fun j c h=>r.fits (hs.get h)) (fun j c h=>r.scopd (hs.get h)) (fun j k c e h h'=>r.inj j k c e (hs.get h) (hs.get h')) (fun j c h=>r.low j c (hs.get h)) (fun _ _ _=>rfl) (fun lo A hm j c h=>r.je lo A hm j c (hs.get h))
 refine L.more (by have:=(r.low id b PY R).2;omega) fun j c hj XL U=>?_;obtain⟨G,N⟩:=DZ.get ho hj;exact G (r.inj j id c b (hs.get hj) PY N hd XL R (by omega))
theorem gM{Fn:SV->Hp->Iv->World->Prop}(id:Nat){b:jz}(PY:dG H id=some b)(hd:b≠ .dead)(hs:vT H H')(ho:DZ id H'=true)
  (R:∀O J,Rel H nx iv B w O J->(O id).nil=false)
  (hc:∀O J,Rel H nx iv B w O J->eI P g (args O) J (eO J (If O J)))
  (h:∀O J v V,Rel H nx iv B w O J->Ext J V->dw B w V->If O J v V->Fn (.o (.v v)) H' (((O id).g,(O id).g+1)::(J.heap.size,V.heap.size)::iv) V):FE P B g args H nx iv w Fn:=
 ⟨fun O J r=>⟨(hc O J r).e,Calls.mono (hc O J r).c fun e V U=>by
  obtain⟨v,L,G,N⟩:=U;have r2:Rel H nx ((J.heap.size,V.heap.size)::iv) B V O V:=(r.ext G).here.more (Nat.le_refl _) (fun j c hj R=>by have:=(r.low j c hj R).2;omega)
  exact⟨v,H',_,L,r2.free PY hd (R O J r) hs ho,h O J v V r G (r.cU.tr (G.cU (by have:=r.base;have:=r.size;omega))) N⟩⟩⟩
end
inductive Tr where
 |nil
 |one (i:Nat) (t:Tr)
 |two (i:Nat) (t:Tr) (j:Nat) (u:Tr)
def Tr.depth:Tr->Nat
 | .nil=>0
 | .one _ t=>t.depth+1
 | .two _ t _ u=>max t.depth u.depth+1
def xC(ops:Array Oper):Tr->Array Bool->Bool
 | .nil,la=>(Region.ready .any ops la).isEmpty
 | .one i t,la=>match Region.ready .any ops la with
  |[x]=>Nat.beq x i&&xC ops t (la.setIfInBounds i true)
  |_=>false
 | .two i t j u,la=>match Region.ready .any ops la with
  |[x,y]=>Nat.beq x i&&(Nat.beq y j&&(xC ops t (la.setIfInBounds i true)&&xC ops u (la.setIfInBounds j true)))
  |_=>false
def Ko(P:Program)(τ:nR)(B:Nat)(all:List Oper):Tr->Env->Hp->Nat->Iv->World->KT->Prop
 | .nil,l,H,nx,iv,w,Fn=>Fn l H nx iv w
 | .one i t,l,H,nx,iv,w,Fn=>sU all i (fun o=>iR false P τ B all o l H nx iv w (fun l' H' On K J=>Ko P τ B all t l' H' On K J Fn))
 | .two i t j u,l,H,nx,iv,w,Fn=>sU all i (fun o=>iR false P τ B all o l H nx iv w (fun l' H' On K J=>Ko P τ B all t l' H' On K J Fn))/\
   sU all j (fun o=>iR false P τ B all o l H nx iv w (fun l' H' On K J=>Ko P τ B all u l' H' On K J Fn))
section
variable{P:Program}{τ:nR}{ops:Array Oper}{B n nx:Nat}{l:Env}{H:Hp}{iv:Iv}{w J:World}{O:Nat->dq}{a:Act}
theorem D2(hτ:fo P τ)(Of:∀(j:Nat) o,ops[j]? =some o->∀d,o.dst=some d->d<n){i:Nat}
  (h:sU ops.toList i (fun o=>iR false P τ B ops.toList o l H nx iv w Fn)) (sat:Sat n l H nx iv B w O a J)
  (R:∀l' H' On K V G8 a' w3,Fn l' H' On K V->Sat n l' H' On K B V G8 a' w3->next a' w3):wpOp P ops Q i next a J:=by
 obtain⟨o,ho,L⟩:=iF h;rw[bG]at ho;have hd:=Of i o ho;unfold iR at L;refine pj ho ?_;rcases lA sat L with⟨I,l1,G,sat1⟩|⟨I,l1,G,sat1⟩
 ·refine .inl ⟨I,oM hτ G sat1 fun v H' On K V G8 w3 N sat2 hv=>?_⟩;obtain⟨l2,h4,sat3⟩:=ix sat2 N hd hv;exact R _ _ _ _ _ _ _ _ h4 sat3
 ·obtain⟨l2,h4,sat3⟩:=ix sat1 G hd trivial;exact .inr ⟨I,R _ _ _ _ _ _ _ _ h4 sat3⟩
theorem tY(hτ:fo P τ)(Of:∀(j:Nat) o,ops[j]? =some o->∀d,o.dst=some d->d<n){Fn:KT}{Q:Exit->Act->World->Prop}
  (hQ:∀l' H' On K V G8 a' w3,Fn l' H' On K V->Sat n l' H' On K B V G8 a' w3->Q .normal a' w3):
  ∀(t:Tr) (fuel:Nat) (la:Array Bool) (l:Env) (H:Hp) (nx:Nat) (iv:Iv) (w:World) (O:Nat->dq) (a:Act) (J:World),t.depth<=fuel->xC ops t la=true->Ko P τ B ops.toList t l H nx iv w Fn->Sat n l H nx iv B w O a J->wpAny P .any ops Q fuel la a J
 | .nil,fuel,la,l,H,nx,iv,w,O,a,J,_,hc,h,s=>by
  simp only[xC,List.isEmpty_iff]at hc;have hq:=hQ _ _ _ _ _ _ _ _ h s
  cases fuel with
  |zero=>exact⟨hc,hq⟩
  |succ fuel=>exact⟨fun _=>hq,fun i A=>by rw[hc]at A;cases A⟩
 | .one i t,fuel,la,l,H,nx,iv,w,O,a,J,hf,hc,h,s=>by
  simp only[Tr.depth]at hf;obtain⟨fuel,rfl⟩:∃q,fuel=q+1:=⟨fuel-1,by omega⟩
  simp only[xC]at hc;split at hc
  ·rename_i x hr;simp only[av]at hc;have F:=bP hc.1;subst F;refine⟨fun h0=>(by rw[hr]at h0;cases h0),fun j hj=>?_⟩;rw[hr,bD]at hj;subst hj;exact D2 hτ Of h s fun _ _ _ _ _ _ _ _ D hs=>tY hτ Of hQ t fuel _ _ _ _ _ _ _ _ _ (by omega) hc.2 D hs
  ·cases hc
 | .two i t k u,fuel,la,l,H,nx,iv,w,O,a,J,hf,hc,h,s=>by
  simp only[Tr.depth]at hf;obtain⟨fuel,rfl⟩:∃q,fuel=q+1:=⟨fuel-1,by omega⟩
  simp only[xC]at hc;split at hc
  ·rename_i x y hr;simp only[av]at hc;obtain⟨c1,c2,c3,c4⟩:=hc;have F:=bP c1;have hy:=bP c2;subst F;subst hy;obtain⟨L,G⟩:=h;refine⟨fun h0=>(by rw[hr]at h0;cases h0),fun j hj=>?_⟩;rw[hr,List.mem_cons,bD]at hj;rcases hj with rfl|rfl
   ·exact D2 hτ Of L s fun _ _ _ _ _ _ _ _ D hs=>tY hτ Of hQ t fuel _ _ _ _ _ _ _ _ _ (by omega) c3 D hs
   ·exact D2 hτ Of G s fun _ _ _ _ _ _ _ _ D hs=>tY hτ Of hQ u fuel _ _ _ _ _ _ _ _ _ (by omega) c4 D hs
  ·cases hc
theorem jH(hτ:fo P τ)(hm:P.follows .mixedOrders=true)(t:Tr)(hc:(Nat.ble t.depth ops.size&&xC ops t (Array.replicate ops.size false))=true)
  (h:Ko P τ B ops.toList t l H nx iv w Fn):zE P B ops l H nx iv w Fn:=by
 simp only[av]at hc;refine⟨fun n O a J Of sat Q hQ id=>?_⟩;refine wp_region_any hm (tY hτ (fun j o ho d hd=>?_) hQ t _ _ _ _ _ _ _ O _ _ (Nat.le_of_ble_eq_true hc.1) hc.2 h ⟨sat.rel.drew,sat.size,sat.defers,sat.env,sat.sc⟩);have:=List.all_eq_true.1 Of o (aC (by rw[bG];exact ho));rw[hd]at this;have h5:d+1<=n:=by simpa [Nat.blt]using this
 exact h5
end
section
variable{P:Program}{τ:nR}{B n nx:Nat}{l:Env}{H:Hp}{iv:Iv}{w J:World}{O:Nat->dq}{a:Act}
theorem rI{x:Operand}{Fn:SV->Hp->Nat->Iv->World->Prop}{s:ByteArray}{b:UInt8}
  (hu:P.underlying t=some .string) (F:ev l x=some (.o (.v (.string s)))) (A:ev l i=some (.o (.v (.int k m)))) (hm:0<=m) (hb:s[m.toNat]? =some b)
  (hK:∀O J,Rel H nx iv B w O J->Fn (.o (.v (.int .u8 b.toNat))) H nx iv J):xy P B ⟨dst,.index t x i,ty,pos,after,guard⟩ l H nx iv w Fn:=by
 refine⟨fun O J ev' r Qt=>⟨.int .u8 b.toNat,J,iv,.inl ?_,r.here,hK O J r⟩⟩;have e1:ev' x= .string s:=Qt x _ F;have e2:ev' i= .int k m:=Qt i _ A;simp[execOp,e1,e2,Instr.index,asIntOf,run_underlying hu,hm,hb]
theorem nV(w:World)(t e:TypeId)(a:Option Addr)(n c n' c':Nat)(h:P.underlying t=some (.slice e)):
  (binOp .eql t (.slice a n c) (.slice none n' c')).run P w= .ok (.bool a.isNone) w:=by
 have:∀d,(Op.equalIn (d+1) t (.slice a n c) (.slice none n' c')).run P w= .ok a.isNone w:=fun d=>by cases a<;>simp[Op.equalIn,run_underlying h]
 simp only[binOp]
 simp[Op.equal,Op.maxDepth,this 9999]
theorem kA(w:World)(g:Nat)(W:Array Value):w.grownBy (w.setRow g W) (some g):=
 ⟨rfl,rfl,rfl,by simp,fun k _ Oe=>setRow_other _ _ _ _ fun e=>Oe (by rw[e])⟩
theorem Rel.zJ{V:World}(r:Rel H nx iv B w O J)(Oe:∀id b,dG H id=some b->(O id).nil=false->(O id).g≠g)(h:J.grownBy V (some g)):Rel H nx iv B V O V:=
 r.CJ h.size (fun id b hb R=>h.block _ (r.low id b hb R).2 fun e=>Oe id b hb R (Option.some.inj e)) fun lo A hm=>⟨by have:=r.oJ lo A hm;have:=r.size;have:=h.size;omega,fun id b hb R=>r.je lo A hm id b hb R⟩
theorem B6(z:Value)(n:Nat):(Builtin.zeroCells #[z] n).toList=List.replicate n z:=by
 apply bF;intro i;simp only[Builtin.zeroCells,Array.toList_map,aL,Array.toList_range,List.getElem?_replicate]
 by_cases h:i<n
 ·simp[h,Nat.mod_one]
 ·simp[h]
theorem JO(hτ:fo P τ){e k off tg:Nat}{x:Operand}
  {Fn:SV->Hp->Nat->Iv->World->Prop}
  (ht:τ t=some ⟨sz0,ag,bt,ze,4,ik,e,al,fs⟩) (Px:τ e=some ⟨1,ag',by_,[z],tag',ik',e',al',fs'⟩) (F:ev l x=some (.o (.v (.slice (some ⟨g,off,none⟩) k c)))) (D:k≠0)
  (Y:∀O J,Rel H nx iv B w O J->J.heap[g]? =some (.cells W.toArray tg (0,0))/\∀id b,dG H id=some b->(O id).nil=false->(O id).g≠g) (QZ:off+k<=W.length)
  (hK:∀O J V,Rel H nx iv B w O J->V.heap[g]? =some (.cells (W.take off++List.replicate k z++W.drop (off+k)).toArray tg (0,0))->J.grownBy V (some g)->V.heap.size=J.heap.size->Fn (.o (.v (.tuple #[]))) H nx iv V):
  xy P B ⟨dst,.call ⟨.builtin .clear,⟨[x]⟩,⟨[t]⟩⟩,ty,pos,after,guard⟩ l H nx iv w Fn:=by
 refine⟨fun O J ev' r Qt=>?_⟩;have hu:=(hτ t _ ht).i4 rfl;simp only at hu;have R7:=hτ e _ Px;obtain⟨inf,zv,A,PN,PB,hz,R8⟩:=R7.info;have hzo:=R7.aBT z (by simp);simp only at PN R8;have WW:zv.cells= #[z]:=by apply Array.ext';simpa using R8
 obtain⟨hc,Oe⟩:=Y O J r;have QW:=run_storeCells_at (P:=P) g off tg (List.replicate k z) 0 W.toArray J hc (by simpa using QZ) (fun v hv=>by rw[List.mem_replicate]at hv;rw[hv.2];exact hzo);have R9:=B6 z k;have e1:ev' x= .slice (some ⟨g,off,none⟩) k c:=Qt x _ F;simp only[cF,bH]at QW;refine⟨.tuple #[],_,iv,.inl ?_,r.zJ Oe (kA J g _),hK O J _ r (setRow_heap J g W.toArray _ tg _ hc) (kA _ _ _) (by simp)⟩;simp[execOp,resolve,invoke,builtin,e1,Builtin.clear_,run_underlying hu,zeroValue,typeInfo,A,hz,WW,R9,QW,D]
theorem Kp(hτ:fo P τ){e k off tg:Nat}{x:Operand}
  {ds:List Value} {vy:SV} {Fn:SV->Hp->Nat->Iv->World->Prop}
  (ht:τ t=some ⟨sz0,ag,bt,ze,4,ik,e,al,fs⟩) (Px:τ e=some ⟨1,ag',by_,[z],tag',ik',e',al',fs'⟩) (F:ev l x=some (.o (.v (.slice (some ⟨g,off,none⟩) k c)))) (hy:ev l y=some vy)
  (Y:∀O J,Rel H nx iv B w O J->J.heap[g]? =some (.cells W.toArray tg (0,0))/\∀id b,dG H id=some b->(O id).nil=false->(O id).g≠g)
  (src:∀O J,Rel H nx iv B w O J->∃a m,vy.den O= .slice a ds.length m/\∀(j:Nat) u,ds[j]? =some u->∃ad,a=some ad/\J.cell? (ad.add j)=some u)
  (hds:ds.length<=k) (QZ:off+ds.length<=W.length) (L:∀u∈ds,u.oneCell'=true)
  (hK:∀O J V,Rel H nx iv B w O J->V.heap[g]? =some (.cells (W.take off++ds++W.drop (off+ds.length)).toArray tg (0,0))->J.grownBy V (some g)->V.heap.size=J.heap.size->Fn (.o (.v (goInt ds.length))) H nx iv V):
  xy P B ⟨dst,.call ⟨.builtin .copy,⟨[x,y]⟩,⟨[t,t]⟩⟩,ty,pos,after,guard⟩ l H nx iv w Fn:=by
 refine⟨fun O J ev' r Qt=>?_⟩;have hu:=(hτ t _ ht).i4 rfl;simp only at hu;have R7:=hτ e _ Px;obtain⟨inf,zv,A,PN,PB,hz,R8⟩:=R7.info;simp only at PN;obtain⟨hc,Oe⟩:=Y O J r;obtain⟨ay,m,hya,Pm⟩:=src O J r;have e1:ev' x= .slice (some ⟨g,off,none⟩) k c:=Qt x _ F;have e2:ev' y= .slice ay ds.length m:=by rw[<-hya];exact Qt y _ hy
 refine⟨goInt ds.length,J.setRow g (W.take off++ds++W.drop (off+ds.length)).toArray,iv,.inl ?_,r.zJ Oe (kA J g _),hK O J _ r (setRow_heap J g W.toArray _ tg _ hc) (kA _ _ _) (by simp)⟩;have hmin:Nat.min ds.length k=ds.length:=Nat.min_eq_left hds;have Ot:(Builtin.copy_ #[t,t] ty #[.slice (some ⟨g,off,none⟩) k c,.slice ay ds.length m]).run P J= .ok (goInt ds.length) (J.setRow g (W.take off++ds++W.drop (off+ds.length)).toArray):=by
  cases ay with
  |some ad=>
   have:=run_copy_row (P:=P) J t t ty e g off k c ad ds.length m W.toArray tg ds hu (by simp[A,PN]) hc (by rw[hmin]) (fun j v hv=>by
    obtain⟨ad',G,N⟩:=Pm j v hv;injection G with G
    rw[G];exact N) (by simpa using QZ) L
   simpa using this
  |none=>
   have hd:ds=[]:=by
    cases ds with
    |nil=>rfl
    |cons u r=>obtain⟨ad',G,_⟩:=Pm 0 u rfl;cases G
   subst hd;have Re:=setRow_self J g W.toArray tg (0,0) hc;simp[Builtin.copy_,run_underlying hu,Builtin.lenOf,Builtin.firstCells,sizeOf,typeInfo,A,storeCells,Re]
 simp[execOp,resolve,invoke,builtin,e1,e2,Ot]
end
section
variable{P:Program}{τ:nR}{B nx:Nat}{l:Env}{H:Hp}{iv:Iv}{w J:World}{O:Nat->dq}
theorem IN{e:Nat}{x:Operand}{Fn:SV->Hp->Nat->Iv->World->Prop}{a:Option Addr}
  (hu:P.underlying t=some (.slice e)) (F:ev l x=some (.o (.v (.slice a n c))))
  (hK:∀O J,Rel H nx iv B w O J->Fn (.o (.v (.int .i64 c))) H nx iv J):xy P B ⟨dst,.call ⟨.builtin .cap,⟨[x]⟩,⟨[t]⟩⟩,ty,pos,after,guard⟩ l H nx iv w Fn:=by
 refine⟨fun O J ev' r Qt=>⟨.int .i64 c,J,iv,.inl ?_,r.here,hK O J r⟩⟩;have e1:ev' x= .slice a n c:=Qt x _ F;simp[execOp,resolve,invoke,builtin,e1,Builtin.cap_,run_underlying hu,goInt]
theorem pq(z:Array Value)(n:Nat):(Builtin.zeroCells z n).size=n*z.size:=by simp[Builtin.zeroCells]
theorem D5(h:0<n):Builtin.nextslicecap n 0=n:=by simp[Builtin.nextslicecap,h]
theorem JT(w:World)(t tn ty e:TypeId)(i:TypeInfo)(z:Value)(ht:P.underlying t=some (.slice e))(htn:P.underlying tn=some (.int .i64))(A:P.info? e=some i)(hz:i.zero=some z)(WG:z.cells.size=i.size)
  (n:Nat) (h0:0<n) (hs:0<i.size) (h63:n<=maxLen) (h48:n*i.bytes<=140737488355328) (Bc:Nat) (hB:Bc<=w.heap.size):
  ∃c V,(Builtin.append_ #[t,tn] ty #[.slice none 0 0,.int .i64 n]).run P w= .ok (.slice (some ⟨w.heap.size,0,none⟩) n c) V/\n<=c/\V.ownsRow Bc e i.size (.slice (some ⟨w.heap.size,0,none⟩) 0 c) 0 []/\w.grownBy V none/\V.heap.size=w.heap.size+1:=by
 have R:n≠0:=by omega
 have h63n:(n:Int)<=9223372036854775807:=by unfold maxLen at h63;omega
 have I:IntKind.i64.wrap (n:Int)=n:=wrap64 (by omega) h63n;have h63':¬(9223372036854775807<(n:Int)):=by omega
 have h48':¬(281474976710656<Builtin.nextslicecap n 0*i.bytes):=by rw[D5 h0];omega
 have h48i:¬(281474976710656<(n:Int)*(i.bytes:Int)):=by rw[<-Int.natCast_mul];omega
 have RC:¬((n:Int)<0):=by omega
 have hns:¬(n*i.size=0):=Nat.mul_ne_zero R (by omega);have hge:=grownCap_ge w n 0 e;have hle:=grownCap_le_maxLen w n 0 e h63;refine⟨grownCap w n 0 e,w.drew.alloc (.cells (Builtin.zeroCells z.cells n++Builtin.zeroCells z.cells (grownCap w n 0 e-n)) e),?_,hge,?_,?_,?_⟩
 ·simp[Builtin.append_,run_underlying ht,run_underlying htn,sizeOf,typeInfo,zeroValue,A,hz,asInt,asIntOf,I,R,RC,hns,h63',h48',h48i,Question.forced,run_firstCells_none,newRow,grownCap]
 ·have:=World.ownsRow_made (e:=e) (size:=i.size) (base:=Bc) w.drew (Builtin.zeroCells z.cells n++Builtin.zeroCells z.cells (grownCap w n 0 e-n)) (grownCap w n 0 e) (by simpa using hB) hle (by
   rw[Array.size_append,pq,pq,WG,<-Nat.add_mul];congr 1;omega)
  simpa using this
 ·refine⟨rfl,rfl,rfl,by simp,fun j hj _=>?_⟩;simp[World.alloc,Array.getElem?_push,Nat.ne_of_lt hj];rfl
 ·simp
theorem JU(hτ:fo P τ)(hBc:Bc<=B){x:Operand}{tn e k:Nat}
  {Fn:SV->Hp->Nat->Iv->World->Prop}
  (ht:τ t=some ⟨sz0,ag,bt,ze,4,ik,e,al,fs⟩) (Px:τ e=some ⟨sz,ag',by_,ze',tag',ik',e',al',fs'⟩) (htn:P.underlying tn=some (.int .i64)) (QI:0<sz) (F:ev l x=some (.o (.v (.slice none 0 0)))) (hy:ev l y=some (.o (.v (.int .i64 k))))
  (h0:0<k) (RM:k<=maxLen) (hb:k*by_<=140737488355328)
  (hK:∀O J V c,Rel H nx iv B w O J->k<=c->V.ownsRow Bc e sz (.slice (some ⟨J.heap.size,0,none⟩) 0 c) 0 []->J.grownBy V none->V.heap.size=J.heap.size+1->Fn (.o (.v (.slice (some ⟨J.heap.size,0,none⟩) k c))) H nx ((J.heap.size,V.heap.size)::iv) V):
  xy P B ⟨dst,.call ⟨.builtin .append,⟨[x,y]⟩,⟨[t,tn]⟩⟩,ty,pos,after,guard⟩ l H nx iv w Fn:=by
 refine⟨fun O J ev' r Qt=>?_⟩;have hu:=(hτ t _ ht).i4 rfl;simp only at hu;have R7:=hτ e _ Px;obtain⟨inf,z,A,PN,PB,hz,R8⟩:=R7.info;have R9:=R7.Gy;simp only at PN PB R8 R9;have WG:z.cells.size=inf.size:=by rw[PN,<-R9,<-R8];simp
 obtain⟨c,V,L,G,N,h4,h5⟩:=JT (P:=P) J t tn ty e inf z hu htn A hz WG k h0 (by omega) RM (by rw[PB];exact hb) Bc (by have:=r.base;have:=r.size;omega);have e1:ev' x= .slice none 0 0:=Qt x _ F;have e2:ev' y= .int .i64 k:=Qt y _ hy;refine⟨_,V,(J.heap.size,V.heap.size)::iv,.inl ?_,r.CJ h4.size (fun id b h R=>h4.block _ (r.low id b h R).2 (by simp)) (fun lo A hm=>?_),hK O J V c r G (PN▸N) h4 h5⟩
 ·simp[execOp,resolve,invoke,builtin,e1,e2,L]
 ·rcases List.mem_cons.1 hm with h|h
  ·injection h with h6 h7;subst h6 h7;exact⟨Nat.le_refl _,fun id b hb R=>by have:=(r.low id b hb R).2;omega⟩
  ·exact⟨by have:=r.oJ lo A h;have:=r.size;omega,fun id b hb R=>r.je lo A h id b hb R⟩
end
section
variable{P:Program}{τ:nR}{B nx:Nat}{l:Env}{H:Hp}{iv:Iv}{w J:World}{O:Nat->dq}
end
theorem pr:∀(nv:List Value) (w:World) (b off:Nat) (cur:Array Value) (e:TypeId),w.heap[b]? =some (.cells cur e (0,0))->off+nv.length<=cur.size->
  (w.setCells b off nv).heap[b]? =some (.cells (cur.toList.take off++nv++cur.toList.drop (off+nv.length)).toArray e (0,0))
 |[],w,b,off,cur,e,h,_=>by simpa [World.setCells]using h
 |v::r,w,b,off,cur,e,h,hl=>by
  simp only[World.setCells]
  have R6:off+(r.length+1)<=cur.size:=by simpa using hl
  have L:(w.setCell ⟨b,off,none⟩ v).heap[b]? =some (.cells (cur.setIfInBounds off v) e (0,0)):=by
   simp[World.setCell,Array.getElem?_modify,h]
  rw[pr r _ b (off+1) _ e L (by simp;omega)];congr 3;have Pu:cur.toList.length=cur.size:=by simp
  apply bF;intro i;have e1:(cur.setIfInBounds off v).toList=cur.toList.set off v:=by simp
  rw[e1];rcases cC i off with A|A|A
  ·rw[bZ,bZ,aI (by simp;omega),aI (by simp;omega),bS (by omega),bS A,aS (by omega)]
  ·subst A;rw[bZ,bZ,aI (by simp;omega),aM (by simp;omega),bS (by omega),aP (by simp;omega)];have:(List.take i cur.toList).length=i:=by rw[aX];omega
   rw[this,bJ];rfl
  ·have l1:(List.take (off+1) (cur.toList.set off v)).length=off+1:=by rw[aX,bL];omega
   have l2:(List.take off cur.toList).length=off:=by rw[aX];omega
   have hd:List.drop (off+1+r.length) (cur.toList.set off v)=List.drop (off+(v::r).length) cur.toList:=by
    rw[List.drop_set_of_lt (by omega),List.length_cons];congr 1;omega
   obtain⟨k,rfl⟩:∃k,i=off+1+k:=⟨i-off-1,by omega⟩
   rw[bZ,bZ,hd];generalize List.drop (off+(v::r).length) cur.toList=tl;have F9:(List.take (off+1) (cur.toList.set off v)++(r++tl))[off+1+k]? =(r++tl)[k]? :=by
    rw[aM (by omega),l1];congr 1;omega
   have B:(List.take off cur.toList++((v::r)++tl))[off+1+k]? =(r++tl)[k]? :=by
    rw[aM (by omega),l2,show off+1+k-off=k+1 by omega];rfl
   rw[F9,B]
theorem pt:∀(nv:List Value) (w:World) (b off:Nat) {k:Nat},k≠b->(w.setCells b off nv).heap[k]? =w.heap[k]?
 |[],_,_,_,_,_=>rfl
 |v::r,w,b,off,k,D=>by
  simp only[World.setCells]
  rw[pt r _ b (off+1) D];simp[World.setCell,Array.getElem?_modify,Ne.symm D]
theorem tZ:∀(vs:List Value) (w0:World) (b o:Nat),(w0.setCells b o vs).os=w0.os/\(w0.setCells b o vs).tape=w0.tape/\(w0.setCells b o vs).output=w0.output/\(w0.setCells b o vs).heap.size=w0.heap.size
 |[],_,_,_=>⟨rfl,rfl,rfl,rfl⟩
 |v::r,w0,b,o=>by
  simp only[World.setCells]
  obtain⟨L,G,N,h4⟩:=tZ r (w0.setCell ⟨b,o,none⟩ v) b (o+1);exact⟨L,G,N,by rw[h4];simp⟩
theorem j3{w:World}{e:Nat}{v:Value}{nv:List Value}{a:Option Addr}{j:Nat}(h:w.ownsRow Bc e sz v n xs)(hv:v= .slice a n c)(hj:j<n)(UJ:nv.length=sz)(hs:0<sz):
  ∃g,a=some ⟨g,0,none⟩/\(∀k,k<sz->(w.cell? (Addr.add ⟨g,j*sz,none⟩ k)).isSome=true/\w.frozen? (Addr.add ⟨g,j*sz,none⟩ k)=false)/\
   (setCells w ⟨g,j*sz,none⟩ nv).ownsRow Bc e sz v n (xs.take (j*sz)++nv++xs.drop (j*sz+sz))/\w.grownBy (setCells w ⟨g,j*sz,none⟩ nv) (some g)/\(setCells w ⟨g,j*sz,none⟩ nv).heap.size=w.heap.size:=by
 rcases h.2 with⟨_,h0⟩|⟨g,cap,cur,Rh,hb,Y,Tl,So,PS,UU⟩
 ·omega
 rw[hv]at Rh;injection Rh with L G N;subst L N;have hjs:j*sz+sz<=n*sz:=by
  have:=Nat.mul_le_mul_right sz (show j+1<=n from hj);rw[Nat.add_mul,Nat.one_mul]at this;exact this
 have hns:n*sz<=c*sz:=Nat.mul_le_mul_right sz Tl;obtain⟨f1,f2,f3,f4⟩:=tZ nv w g (j*sz);have QM:=pr nv w g (j*sz) cur e Y (by omega);refine⟨g,rfl,fun k D=>?_,?_,?_,?_⟩
 ·rw[dL];refine⟨?_,?_⟩
  ·rw[cell_of (g:=g) (W:=cur.toList) (by simpa using Y),aA (by simp;omega)];rfl
  ·simp[World.frozen?,Y]
 ·rw[k7];refine⟨?_,.inr ⟨g,c,_,hv,hb,QM,Tl,So,?_,?_⟩⟩
  ·simp only[List.length_append,aX,List.length_drop,UJ,h.1];omega
  ·simp only[List.size_toArray,List.length_append,aX,List.length_drop,UJ,Array.length_toList];omega
  ·subst UU;have Pu:cur.toList.length=cur.size:=by simp
   have ha:List.drop (j*sz+sz) (List.take (n*sz) cur.toList)=(List.drop (j*sz+sz) cur.toList).take (n*sz-(j*sz+sz)):=by rw[List.drop_take]
   rw[ha,List.take_take,Nat.min_eq_left (by omega)];show List.take (n*sz) (_++nv++_)=_;rw[UJ,List.take_append,List.take_of_length_le (by simp;omega)];congr 2;simp only[List.length_append,aX,UJ]
   omega
 ·rw[k7];exact⟨f1,f2,f3,by rw[f4];exact Nat.le_refl _,fun k D Oe=>pt nv w g _ (fun e=>Oe (by rw[e]))⟩
 ·rw[k7];exact f4
structure Ks(P:Program)(kt:TypeId)(KS:Value->Prop):Prop where
 desc:∃fs,P.underlying kt=some (.struct fs)
 check:∀(w:World) (em:Bool) (v:Value),KS v->(Instr.checkKey em 10000 kt v).run P w= .ok () w
 eq:∀(w:World) (a b:Value),KS a->KS b->∃c,(Op.equal kt a b).run P w= .ok c w/\(c=true↔a=b)
def FG(w:World)(g:Nat)(ks:List Value):Prop:=∃es clock,w.heap[g]? =some (.map es clock)/\es.toList.map (·.key)=ks/\∀e∈es.toList,e.val= .bool true
section
variable{P:Program}{τ:nR}{B n nx:Nat}{l:Env}{H:Hp}{iv:Iv}{w J V:World}{O:Nat->dq}{a:Act}
theorem FG.cK(h:FG w g ks)(D:V.heap[g]? =w.heap[g]?):FG V g ks:=by
 obtain⟨es,c,L,G⟩:=h;exact⟨es,c,by rw[D];exact L,G⟩
theorem s3(hb:w.heap[r]? =some (.map es clock)):(getObj r).run P w= .ok (.map es clock) w:=by simp[getObj,Sem.run,hb]
theorem HB(o:Obj)(hb:w.heap[r]? =some (.map es clock)):(setObj r o).run P w= .ok () {w with heap:=w.heap.setIfInBounds r o}:=by simp[setObj,Sem.run,hb]
theorem pL{kt:TypeId}{KS:Value->Prop}(Fn:Ks P kt KS){x:Value}(F:KS x)(w:World):∀(es:List MapEntry) (i:Nat),(∀e∈es,KS e.key)->
  ((Instr.findAsking kt x es i).run P w= .ok none w/\∀e∈es,e.key≠x)\/∃j e,(Instr.findAsking kt x es i).run P w= .ok (some (j,e.val)) w/\e∈es/\e.key=x
 |[],i,_=>.inl ⟨rfl,fun e U=>by cases U⟩
 |e::es,i,h=>by
  obtain⟨c,hc,hiff⟩:=Fn.eq w x e.key F (h e aF)
  cases c with
  |true=>exact .inr ⟨i,e,by simp[Instr.findAsking,hc],aF,(hiff.1 rfl).symm⟩
  |false=>
   have Oe:e.key≠x:=fun U=>by have:=hiff.2 U.symm;cases this
   rcases pL Fn F w es (i+1) (fun e U=>h e (aB _ U))with⟨L,G⟩|⟨j,e',L,G,N⟩
   ·refine .inl ⟨by simp[Instr.findAsking,hc,L],fun e' U=>?_⟩;rcases List.mem_cons.1 U with rfl|U
    ·exact Oe
    ·exact G e' U
   ·exact .inr ⟨j,e',by simp[Instr.findAsking,hc,L],aB _ G,N⟩
theorem ta{kt:TypeId}(Fn:Ks P kt KS){x:Value}(F:KS x)(w:World)(es:List MapEntry)(h:∀e∈es,KS e.key):
  ((Instr.findKey kt x es).run P w= .ok none w/\∀e∈es,e.key≠x)\/∃j e,(Instr.findKey kt x es).run P w= .ok (some (j,e.val)) w/\e∈es/\e.key=x:=by
 obtain⟨fs,QC⟩:=Fn.desc
 cases es with
 |nil=>exact .inl ⟨by simp[Instr.findKey,run_underlying QC,Instr.findNow],fun e U=>by cases U⟩
 |cons e es=>
  have hs:Instr.findNow (.struct fs) x (e::es) 0=none:=by
   unfold Instr.findNow
   cases x<;>cases e.key<;>rfl
  have:=pL Fn F w (e::es) 0 h;rcases this with⟨L,G⟩|⟨j,e',L,G,N⟩
  ·exact .inl ⟨by simp[Instr.findKey,run_underlying QC,hs,L],G⟩
  ·exact .inr ⟨j,e',by simp[Instr.findKey,run_underlying QC,hs,L],G,N⟩
theorem xE{Fn:SV->Hp->Nat->Iv->World->Prop}
  (hK:∀O J V,Rel H nx iv B w O J->FG V J.heap.size []->J.grownBy V none->V.heap.size=J.heap.size+1->Fn (.o (.v (.map (some J.heap.size)))) H nx ((J.heap.size,J.heap.size+1)::iv) V):
  xy P B ⟨dst,.makeMap t none,ty,pos,after,guard⟩ l H nx iv w Fn:=by
 refine⟨fun O J ev' r Qt=>?_⟩;have hp:(J.alloc (.map #[] 0)).heap=J.heap.push (.map #[] 0):=rfl;have Y:J.grownBy (J.alloc (.map #[] 0)) none:=⟨rfl,rfl,rfl,by rw[hp,Array.size_push];omega,fun k D _=>by rw[hp,Array.getElem?_push,aH (Nat.ne_of_lt D)]⟩
 have PN:(J.alloc (.map #[] 0)).heap.size=J.heap.size+1:=by rw[hp,Array.size_push]
 refine⟨.map (some J.heap.size),J.alloc (.map #[] 0),(J.heap.size,J.heap.size+1)::iv,.inl ?_,r.CJ (by omega) (fun id b hb R=>Y.block _ (r.low id b hb R).2 (by simp)) ?_,
  hK O J _ r ⟨#[],0,by rw[hp];simp,rfl,by simp⟩ Y PN⟩
 ·simp[execOp,Instr.makeMap]
 ·intro lo A hm;rcases List.mem_cons.1 hm with e|hm
  ·injection e with e1 e2;subst e1 e2;exact⟨by omega,fun id b hb R h=>by have:=(r.low id b hb R).2;omega⟩
  ·exact⟨by have:=r.oJ lo A hm;have:=r.size;omega,fun id b hb R=>r.je lo A hm id b hb R⟩
theorem zK{kt et:Nat}{m x:Operand}{Fn:SV->Hp->Nat->Iv->World->Prop}(Q:Ks P kt KS){vx:SV}
  (ht:P.underlying t=some (.map kt et)) (hz:∀w,(zeroValue et).run P w= .ok (.bool false) w) (hm:ev l m=some (.o (.v (.map (some g))))) (F:ev l x=some vx) (UW:∀O,vx.den O=key) (VA:KS key) (Pc:∀k∈ks,KS k)
  (Y:∀O J,Rel H nx iv B w O J->FG J g ks)
  (hK:∀O J b,Rel H nx iv B w O J->(b=true↔key∈ks)->Fn (.o (.v (.bool b))) H nx iv J):
  xy P B ⟨dst,.lookup t m x false,ty,pos,after,guard⟩ l H nx iv w Fn:=by
 refine⟨fun O J ev' r Qt=>?_⟩;obtain⟨es,clock,L,G,N⟩:=Y O J r;have e1:ev' m= .map (some g):=Qt m _ hm;have e2:ev' x=key:=by rw[Qt x _ F,UW]
 have hes:∀e∈es.toList,KS e.key:=fun e U=>Pc _ (by rw[<-G];exact aU.2 ⟨e,U,rfl⟩);have hck:=Q.check J es.isEmpty key VA;rcases ta Q VA J es.toList hes with⟨f1,f2⟩|⟨j,e,f1,f2,f3⟩
 ·refine⟨.bool false,J,iv,.inl ?_,r.here,hK O J false r ⟨(fun h=>by cases h),fun h=>?_⟩⟩
  ·simp[execOp,Instr.lookup,e1,e2,run_underlying ht,s3 L,hck,f1,hz]
  ·rw[<-G]at h;obtain⟨e,U,D⟩:=aU.1 h;exact absurd D (f2 e U)
 ·refine⟨.bool true,J,iv,.inl ?_,r.here,hK O J true r ⟨fun _=>by rw[<-G];exact aU.2 ⟨e,f2,f3⟩,fun _=>rfl⟩⟩;have:=N e f2;simp[execOp,Instr.lookup,e1,e2,run_underlying ht,s3 L,hck,f1,this]
theorem sD{kt et:Nat}{m x:Operand}{Fn:SV->Hp->Nat->Iv->World->Prop}(Q:Ks P kt KS){vx:SV}
  (ht:P.underlying t=some (.map kt et)) (hm:ev l m=some (.o (.v (.map (some g))))) (F:ev l x=some vx) (UW:∀O,vx.den O=key) (hy:ev l y=some (.o (.v (.bool true)))) (VA:KS key) (Pc:∀k∈ks,KS k) (SD:key∉ks)
  (Y:∀O J,Rel H nx iv B w O J->FG J g ks/\∀id b,dG H id=some b->(O id).nil=false->(O id).g≠g)
  (hK:∀O J V,Rel H nx iv B w O J->FG V g (ks++[key])->J.grownBy V (some g)->V.heap.size=J.heap.size->Fn (.o (.v undef)) H nx iv V):
  xy P B ⟨dst,.mapUpdate t m x y,ty,pos,after,guard⟩ l H nx iv w Fn:=by
 refine⟨fun O J ev' r Qt=>?_⟩;obtain⟨⟨es,clock,L,G,N⟩,Oe⟩:=Y O J r;have e1:ev' m= .map (some g):=Qt m _ hm;have e2:ev' x=key:=by rw[Qt x _ F,UW]
 have e3:ev' y= .bool true:=Qt y _ hy;have hes:∀e∈es.toList,KS e.key:=fun e U=>Pc _ (by rw[<-G];exact aU.2 ⟨e,U,rfl⟩);have hck:=Q.check J false key VA;have Ow:g<J.heap.size:=(aZ.1 L).1;rcases ta Q VA J es.toList hes with⟨f1,f2⟩|⟨j,e,f1,f2,f3⟩
 ·let ob:Obj:=.map (es.push {key:=key,val:=.bool true,born:=clock}) (clock+1)
  have PC:J.grownBy {J with heap:=J.heap.setIfInBounds g ob} (some g):=⟨rfl,rfl,rfl,by simp,fun k _ D=>by
   rw[Array.getElem?_setIfInBounds_ne]
   exact fun e=>D (by rw[e])⟩
  refine⟨undef,{J with heap:=J.heap.setIfInBounds g ob},iv,.inr ⟨?_,rfl⟩,r.zJ Oe PC,hK O J _ r ⟨es.push {key:=key,val:=.bool true,born:=clock},clock+1,by simp[Ow,ob],?_,?_⟩ PC (by simp)⟩
  ·simp[execOp,Instr.mapUpdate,e1,e2,e3,run_underlying ht,s3 L,HB _ L,hck,f1,ob]
  ·simp[G]
  ·intro e U;simp at U;rcases U with U|rfl
   ·exact N e (by simpa using U)
   ·rfl
 ·exact absurd (by rw[<-G];exact aU.2 ⟨e,f2,f3⟩) SD
theorem HC{len e:Nat}{x:Operand}{Fn:SV->Hp->Nat->Iv->World->Prop}{vx:SV}{W:Array Value}{u:Value}
  (hu:P.underlying t=some (.array len e)) (hs:∀w,(sizeOf e).run P w= .ok 1 w) (hp:∀(w:World) (j:Nat) v,W[j]? =some v->(part e W j).run P w= .ok v w) (F:ev l x=some vx) (VM:∀O,vx.den O= .agg W) (A:ev l i=some (.o (.v (.int k m)))) (hm:0<=m/\m<len) (hc:W[m.toNat]? =some u)
  (hK:∀O J,Rel H nx iv B w O J->Fn (.o (.v u)) H nx iv J):xy P B ⟨dst,.index t x i,ty,pos,after,guard⟩ l H nx iv w Fn:=by
 refine⟨fun O J ev' r Qt=>⟨u,J,iv,.inl ?_,r.here,hK O J r⟩⟩;have e1:ev' x= .agg W:=by rw[Qt x _ F,VM]
 have e2:ev' i= .int k m:=Qt i _ A;have e3:=hp J _ u hc;simp[execOp,e1,e2,Instr.index,asIntOf,run_underlying hu,hm.1,hm.2,hs,e3]
theorem JV(hτ:fo P τ){id2 off k:Nat}{e2:TypeId}{ad x:Operand}{Fn:SV->Hp->Nat->Iv->World->Prop}
  (ha:ev l ad=some (.o (.p id off))) (F:ev l x=some (.o (.s id2 0 k c))) (PY:id<nx) (WX:dG H id2=some (.arr e2 cs2)) (hs:vT H tH) (ho:DZ id2 tH=true)
  (hK:∀O J,Rel H nx iv B w O J->D4 τ B t (.o (.p id off)) (.o (.v (.slice (some ⟨(O id2).g,0,none⟩) k c))) tH nx (((O id2).g,(O id2).g+1)::iv) J (fun H' V=>Fn (.o (.v undef)) H' nx (((O id2).g,(O id2).g+1)::iv) V)):
  OpG P B ⟨dst,.store t ad x,ty,pos,after,guard⟩ l H nx iv w Fn:=by
 refine⟨fun O J ev' r Qt=>?_⟩;have e1:ev' ad=(SV.o (.p id off)).den O:=Qt ad _ ha;have e2:ev' x= .slice (some ⟨(O id2).g,0,none⟩) k c:=Qt x _ F;have r2:=r.free WX (by simp) (r.fits WX).1 hs ho;have sat:Sat 0 [] tH nx (((O id2).g,(O id2).g+1)::iv) B J O ⟨#[],[]⟩ J:=⟨r2,rfl,rfl,(fun u v hv=>by cases hv),fun u v hv=>by cases hv⟩
 obtain⟨H',V,w3,D,Pf,Ot⟩:=xF (addr:=.o (.p id off)) (x:=.o (.v (.slice (some ⟨(O id2).g,0,none⟩) k c))) hτ sat (by exact PY) (by simp[SV.sc,At.sc]) (hK O J r);refine⟨V,w3,H',_,?_,Pf,D⟩;have Ot:(Instr.storeAt t ((SV.o (.p id off)).den O) (.slice (some ⟨(O id2).g,0,none⟩) k c)).run P J= .ok () w3:=Ot;simp[execOp,e1,e2,Ot]
def jf(v:dq)(iv:Iv):Iv:=match v.nil with
 |true=>iv
 |false=>(v.g,v.g+1)::iv
theorem kN{v:dq}{iv:Iv}:∀p,p∈iv->p∈jf v iv:=fun p hp=>by
 unfold jf
 cases v.nil with
 |true=>exact hp
 |false=>exact aB _ hp
theorem FH{v:dq}{iv:Iv}(h:v.nil=false):(v.g,v.g+1)∈jf v iv:=by
 unfold jf;rw[h];exact aF
theorem Rel.drop{H':Hp}{b:jz}(r:Rel H nx iv B w O J)(PY:dG H id=some b)(hd:b≠ .dead)(hs:vT H H')(ho:DZ id H'=true):Rel H' nx (jf (O id) iv) B J O J:=by
 have L:Rel H' nx iv B J O J:=Rel.mk' rfl rfl rfl (Nat.le_refl _) (by have:=r.base;have:=r.size;omega) (fun lo A hm=>by have:=r.oJ lo A hm;have:=r.size;omega) (fun j c h=>r.keys j c (hs.get h))
  (fun j c h=>r.fits (hs.get h)) (fun j c h=>r.scopd (hs.get h)) (fun j k c e h h'=>r.inj j k c e (hs.get h) (hs.get h')) (fun j c h=>r.low j c (hs.get h)) (fun _ _ _=>rfl) (fun lo A hm j c h=>r.je lo A hm j c (hs.get h))
 unfold jf
 cases R:(O id).nil with
 |false=>exact r.free PY hd R hs ho
 |true=>exact L
theorem lQ(hτ:fo P τ){id3 id2 c1 t3:Nat}{c:At}{b2:jz}{x:Operand}{vx:SV}{Fn:SV->Hp->Nat->Iv->World->Prop}
  (F:ev l x=some vx) (hy:ev l y=some (.o (.s id3 0 1 c1))) (WY:dG H id3=some (.box t3 [c])) (WX:dG H id2=some b2) (Pn:b2≠ .dead) (hs:vT H tH) (ho3:DZ id3 tH=true) (UX:DZ id2 tH=true)
  (hK:∀O J,Rel H nx iv B w O J->Rel tH nx (((O id3).g,(O id3).g+1)::jf (O id2) iv) B J O J->J.heap[(O id3).g]? =some (.cells #[c.den O] t3 (0,0))->
   yg τ B t vx (.o (.v (.slice (some ⟨(O id3).g,0,none⟩) 1 c1))) tH nx (((O id3).g,(O id3).g+1)::jf (O id2) iv) J (fun v H' On=>Fn v H' On (((O id3).g,(O id3).g+1)::jf (O id2) iv) J)):
  OpA P B ⟨dst,.call ⟨.builtin .append,⟨[x,y]⟩,⟨[t,t]⟩⟩,ty,pos,after,guard⟩ l H nx iv w Fn:=by
 refine⟨fun O J ev' r Qt=>?_⟩;have e1:ev' x=vx.den O:=Qt x _ F;have e2:ev' y= .slice (some ⟨(O id3).g,0,none⟩) 1 c1:=Qt y _ hy;have WZ:=(r.fits WY).1;have r1:=r.drop WX Pn hs UX;have r2:Rel tH nx (((O id3).g,(O id3).g+1)::jf (O id2) iv) B J O J:=by
  refine r1.more (by have:=(r.low id3 _ WY WZ).2;omega) fun j cc hj XL U=>?_;obtain⟨G,N⟩:=DZ.get ho3 hj;exact G (r.inj j id3 cc _ (hs.get hj) WY N (by simp) XL WZ (by omega))
 have sat:Sat 0 [] tH nx (((O id3).g,(O id3).g+1)::jf (O id2) iv) B J O ⟨#[],[]⟩ J:=⟨r2,rfl,rfl,(fun u v hv=>by cases hv),fun u v hv=>by cases hv⟩
 obtain⟨rr,H',On,G8,V,D,Pf,hr,RD,G9,Ot⟩:=tc (ty:=ty) hτ sat (hK O J r r2 (by have:=r.box id3 _ _ WY;simpa using this));refine⟨rr,H',On,_,G8,J,V,?_,Pf,hr,RD,G9,D⟩;have Ot:(Builtin.append_ #[t,t] ty #[vx.den O,.slice (some ⟨(O id3).g,0,none⟩) 1 c1]).run P J= .ok (rr.den G8) V:=Ot;simp[execOp,resolve,invoke,builtin,e1,e2,Ot]
end
end Go.Sx
