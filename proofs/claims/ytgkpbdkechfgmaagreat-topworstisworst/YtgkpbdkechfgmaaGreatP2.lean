/- Texts Sx12 to Sx23: lemmas, each with its conditions. -/
import Derived.Laws.BytesString
import Derived.Test.YtgkpbdkechfgmaaGreatP1
namespace Go.Sx
open Go
variable{args:(Nat->cd)->Array Value}{G9 Q0 next:Act->World->Prop}{Do R':Ending->World->Prop}{k:Env->Prop}{l:List (Nat×TI)}{B g:Nat}{O:Nat->cd}{d:Option Tmp}{P:Program}
section
variable{P:Program}{τ:l9}{ops:Array Oper}{B n nx:Nat}{l:Env}{H:Hp}{iv:Iv}{w J:World}{O:Nat->cd}{a:Act}
variable{Pd:List Nat}{G8:List (Nat×Nat)}{lx la:Array Bool}{Q:Exit->Act->World->Prop}{md:Region.Mode}
theorem AH(hr:Region.ready md ops la=[])(h:Q .normal a w):∀fuel,rR P md ops Q fuel la a w
 |0=>⟨hr,h⟩
 |_+1=>⟨fun _=>h,by rw[hr];simp⟩
theorem uR(sat:Sat n l H nx iv B w O a J){G9:SV->Hp->Iv->World->Prop}{o:Oper}
  (h:AI P B g args H nx iv w G9) (PO:(execOp a.eval o).run P J=(callFunc g (args O)).run P J)
  (A:∀v Y,G9 (.o (.v v)) H ((J.heap.size,Y.heap.size)::iv) Y->Ext J Y->Sat n l H nx ((J.heap.size,Y.heap.size)::iv) B Y O a Y->next (a.put o.dst v) Y):o.wp P a J next Q:=by
 have hc:=h.h O J sat.rel;unfold Oper.wp;rw[PO,hc.e.h];refine Calls.mono hc.c fun e Y Z=>?_;obtain⟨v,rfl,Nv,hK⟩:=Z;refine A v Y hK Nv ?_;have r:=(sat.rel.ext Nv).here;refine sat.next (GE:=O) ?_ (aE _) (fun _ _=>rfl)
 refine Rel.mk' r.os r.tape r.output r.size r.base ?_ r.keys (fun id b hb=>r.fits hb) (fun id b hb=>r.scopd hb) r.inj r.low r.rP ?_
 ·intro lo N hm;rcases List.mem_cons.1 hm with hm|hm
  ·injection hm with V I;omega
  ·exact r.oR lo N hm
 ·intro lo N hm id b hb LD;rcases List.mem_cons.1 hm with hm|hm
  ·injection hm with V I;have:=(sat.rel.low id b hb LD).2;omega
  ·exact r.ie lo N hm id b hb LD
theorem uS{o:Oper}{G9:SV->Hp->Nat->Iv->World->Prop}(h:uO true P τ B o l H nx iv w G9)(sat:Sat n l H nx iv B w O a J)(hr:rQ o.op=false)(ha:HQ o.op=false)(hh:oq o=false)
  (A:∀v Y,G9 (.o (.v v)) H nx ((J.heap.size,Y.heap.size)::iv) Y->Ext J Y->Sat n l H nx ((J.heap.size,Y.heap.size)::iv) B Y O a Y->next (a.put o.dst v) Y):o.wp P a J next Q:=by
 obtain⟨dst,op,ty,pos,after,guard⟩:=o;simp only at hr ha;have:∃f args x,op= .call ⟨.value f,args,x⟩:=by
  simp only[oq,hr,ha,Bool.or_self,Bool.false_or,Bool.not_eq_false']at hh;split at hh
  ·exact⟨_,_,_,rfl⟩
  ·cases hh
 obtain⟨f,⟨args⟩,x,rfl⟩:=this;simp only[uO]at h;obtain⟨vf,V,hf,Nx⟩:=cW sat h;obtain⟨vs,I,Mw,hss⟩:=oU sat V;have Nn:(args.toArray).map a.eval=lf O vs:=by
  apply Array.ext';simp[lf,Mw]
 split at I
 ·rename_i g first caps
  refine uR sat I ?_ (fun v Y hK Z hs=>A v Y hK Z hs);simp[execOp,resolve,hf,SV.den,At.den,Deferred.ofValue,invoke,Nn]
 ·rename_i g ids;refine uR sat I ?_ (fun v Y hK Z hs=>A v Y hK Z hs);simp[execOp,resolve,hf,SV.den,At.den,Deferred.ofValue,invoke,Nn]
 ·exact I.elim
def QN(Q0:Act->World->Prop):Exit->Act->World->Prop:=fun e a w=>e= .normal/\Q0 a w
theorem uT(sat:Sat n l H nx iv B w O a J){o:Oper}{yes no:Env->Prop}(h:qJ ops.toList o.guard l yes no)(R:o.guard=none\/Pd=[]):
  (Region.wanted o (yielded ops a.tmps)=true/\∃l',yes l'/\Sat n l' H nx iv B w O a J/\(Pd≠[]->l'=l))\/
  (Region.wanted o (yielded ops a.tmps)=false/\Pd=[]/\∃l',no l'/\Sat n l' H nx iv B w O a J):=by
 by_cases OM:o.guard=none
 ·rw[OM]at h;exact .inl ⟨by simp[Region.wanted,OM],l,h,sat,fun _=>rfl⟩
 ·have Rc:=R.resolve_left OM;rcases lg sat h with⟨V,l',I,K⟩|⟨V,l',I,K⟩
  ·exact .inl ⟨V,l',I,K,fun Kq=>absurd Rc Kq⟩
  ·exact .inr ⟨V,Rc,l',I,K⟩
theorem jn(sat:Sat n l H nx iv B w O a J){v:SV}(h:AG d v l k)(hd:∀t,d=some t->t<n)(hv:v.sc nx):
  ∃l',k l'/\Sat n l' H nx iv B w O (a.put d (v.den O)) J/\∀t,eX l t=none->d≠some t->eX l' t=none:=by
 unfold AG at h;split at h
 ·rename_i t;exact⟨_,h,sat.put (hd t rfl) hv,fun u hu Kq=>by rw[dm,aF (fun e=>Kq (by rw[e]))];exact hu⟩
 ·exact⟨l,h,sat,fun t ht _=>ht⟩
theorem s8{Q:Exit->Act->World->Prop}{i:Nat}{o:Oper}(N:ops[i]? =some o)
  (h:(Region.wanted o (yielded ops a.tmps)=true/\o.wp P a J G9 Q)\/(Region.wanted o (yielded ops a.tmps)=false/\G9 (a.put o.dst undef) J)):wpOp P ops Q i G9 a J:=by
 unfold wpOp;simp only[N]
 rcases h with⟨V,I⟩|⟨V,I⟩
 ·rw[if_pos V];exact .inl I
 ·rw[aF (by simp[V])];exact I
theorem FC(hτ:ey P τ)(Kt:∀(j:Nat) o,ops[j]? =some o->∀d,o.dst=some d->d<n)(LJ:∀(j:Nat) (o:Oper) G b,ops[j]? =some o->o.op≠ .select G b)
  {G9:KT} (hQ:∀l' H' Ku E Y GE a' w3,G9 l' H' Ku E Y->Sat n l' H' Ku E B Y GE a' w3->Q0 a' w3):
  ∀(m fuel:Nat) (π:List It) (lx la:Array Bool) (Pd:List Nat) (G8:List (Nat×Nat)) (l:Env) (H:Hp) (nx:Nat) (iv:Iv) (w:World) (O:Nat->cd) (a:Act) (J:World),
   fuel+π.length=m->Ia la<=fuel->nG ops π lx Pd=true->Ev P τ B ops.toList π l H nx iv w G9->HR P ops n B Pd G8 lx la l H nx iv w O a J->rR P .any ops (QN Q0) fuel la a J:=by
 intro m
 induction m using Nat.strongRecOn with
 |_ m ih=>
 intro fuel π lx la Pd G8 l H nx iv w O a J hm Rd hc h s
 match π with
 |[]=>
  simp only[nG,aZ,List.isEmpty_iff]at hc;obtain⟨hr,rfl⟩:=hc;refine AH ?_ ⟨rfl,hQ _ _ _ _ _ _ _ _ h s.sat⟩ fuel;refine List.eq_nil_iff_forall_not_mem.2 fun j hj=>?_;obtain⟨V,o,I,K⟩:=dc.1 hj;have:j∈Region.ready .any ops lx:=by
   refine dc.2 ⟨?_,o,I,fun e Z hb=>?_⟩
   ·have LG:j<lx.size:=by rw[s.HS,<-s.HU];exact(aW.1 V).1
    rw[Array.getElem?_eq_getElem LG]
    cases hb:lx[j]with
    |false=>rfl
    |true=>
     have:=(s.la j).2 (.inl (by rw[Array.getElem?_eq_getElem LG,hb]));rw[V]at this;cases this
   ·rcases(s.la e.on).1 (K e Z hb)with h4|⟨g,h4⟩
    ·exact h4
    ·exact absurd (s.Du _ _ h4) (by simp)
  rw[hr]at this
  cases this
 | .p i::r=>
  obtain⟨o,ho,V⟩:=gF h;rw[bA]at ho;simp only[nG,ho,aZ]at hc;obtain⟨⟨⟨⟨⟨⟨c1,c2⟩,c3⟩,c4⟩,c5⟩,c6⟩,c7⟩:=hc
  cases hd:o.dst with
  |none=>rw[hd]at c3;cases c3
  |some d=>
  rw[hd]at c3;obtain⟨b,v,mk,obj,hK,-,-,-,-,-,Qc⟩:=lh hτ V s.sat c1;rw[hd]at hK;obtain⟨l',hl,NG,MP⟩:=pO hK;have hmem:∀j∈Pd,j≠i:=fun j hj=>by
   have:=List.all_eq_true.1 c5 j hj;simpa only[Bool.not_eq_true',lI]using this
  have c6':∀j∈Pd,∀oj,ops[j]? =some oj->o.apart ops oj=true/\oj.apart ops o=true:=fun j hj oj Mv=>by
   have:=List.all_eq_true.1 c6 j hj;simpa only[Ds,Mv,aZ]using this
  have hlxi:lx[i]? =some false:=by
   have:lx.getD i true=false:=by simpa using c4
   rw[aX]at this
   cases F:lx[i]? with
   |none=>rw[F]at this;cases this
   |some b=>rw[F]at this;simp at this;rw[this]
  refine ih (fuel+r.length) (by simp only[bL]at hm;omega) fuel r lx la (i::Pd) G8 l' H nx iv w O a J rfl Rd c7 hl ?_;refine⟨⟨s.sat.rel,s.sat.size,s.sat.defers,fun t v hv=>s.sat.env t v (MP t v hv).2,fun t v hv=>s.sat.sc t v (MP t v hv).2⟩,s.HS,s.HU,s.la,fun j g R=>aB _ (s.Du j g R),fun j hj=>?_,s.eg,s.inj,fun j hj j' hj' Kq oj oj' K h4=>?_⟩
  ·rcases List.mem_cons.1 hj with rfl|hj
   ·refine⟨hlxi,o,d,mk,obj,ho,c1,by simpa using c2,⟨hd,by simpa using c3⟩,Qc,NG,fun g R=>absurd (s.Du _ _ R) (fun PQ=>hmem _ PQ rfl)⟩
   ·obtain⟨h0,oj,dj,mkj,objj,g1,g2,g3,g4,g5,g6,g7⟩:=s.pd j hj;exact⟨h0,oj,dj,mkj,objj,g1,g2,g3,g4,g5,Ez MP g6,g7⟩
  ·rcases List.mem_cons.1 hj with e1|k1<;>rcases List.mem_cons.1 hj' with e2|k2
   ·exact absurd (e1.trans e2.symm) Kq
   ·rw[e1,ho]at K;injection K with K;subst K;exact(c6' j' k2 oj' h4).1
   ·rw[e2,ho]at h4;injection h4 with h4;subst h4;exact(c6' j k1 oj K).2
   ·exact s.ap j k1 j' k2 Kq oj oj' K h4
 | .x i::r=>
  obtain⟨o,ho,V⟩:=gF h;unfold ig at V;rw[bA]at ho;simp only[nG,ho,aZ]at hc;obtain⟨⟨⟨⟨c1,c2⟩,c3⟩,c4⟩,c5⟩:=hc;have c2:i∈Region.ready .any ops lx:=by simpa using c2
  have c1:o.guard=none\/Pd=[]:=by simpa using c1
  have NN:∀j∈Pd,j≠i->∀oj,ops[j]? =some oj->o.apart ops oj=true:=fun j hj Lc oj Mv=>by
   have:=List.all_eq_true.1 c3 j hj;simpa only[Ds,Mv,Bool.or_eq_true,lI.2 Lc,Bool.false_eq_true,false_or]using this
  obtain⟨Lw,o',No,hwait⟩:=dc.1 c2;rw[ho]at No;injection No with No;subst No;simp only[bL]at hm;have Qd:=Kt i o ho;by_cases hE:∃g,(i,g)∈G8
  ·
   obtain⟨g,R⟩:=hE;obtain⟨h0,o',d,mk',obj',g1,g2,g3,g4,g5,g6,g7⟩:=s.pd i (s.Du i g R);rw[ho]at g1;injection g1 with g1;subst g1;rw[g3,Bm g2]at V;have V:uO true P τ B o l H nx iv w fun v H' Ku E J=>AG o.dst v l fun l'=>Ev P τ B ops.toList r l' H' Ku E J G9:=V;obtain⟨b,v,mk,obj,hK,ML,hb,hv,Qs,Lv,Qc⟩:=lh hτ V s.sat g2;obtain⟨l',hl,s'⟩:=s.FB ho R hb hv Qs Lv Qc hK Qd NN;exact ih (fuel+r.length) (by omega) fuel r _ _ _ _ _ _ _ _ _ _ _ _ rfl Rd c5 hl s'
  ·have Qr:∀g,(i,g)∉G8:=fun g R=>hE ⟨g,R⟩;have NR:la[i]? =some false:=by
    have LG:i<la.size:=by rw[s.HU,<-s.HS];exact(aW.1 Lw).1
    rw[Array.getElem?_eq_getElem LG]
    cases hb:la[i]with
    |false=>rfl
    |true=>
     rcases(s.la i).1 (by rw[Array.getElem?_eq_getElem LG,hb])with I|I
     ·rw[Lw]at I;cases I
     ·exact absurd I hE
   have Ny:i∈Region.ready .any ops la:=dc.2 ⟨NR,o,ho,fun e Z hb=>(s.la e.on).2 (.inl (hwait e Z hb))⟩;have QC:=jc NR;obtain⟨f,rfl⟩:∃f,fuel=f+1:=⟨fuel-1,by omega⟩
   cases hR:rQ o.op with
   |true=>
    rw[hR]at c4;obtain⟨xo,LF,Mn,hb3,OJ⟩:=Bi c4 s.HS;have MZ:∀j,xo j->la.getD j false=false:=fun j hj=>by
     cases hl:la.getD j false with
     |false=>rfl
     |true=>
      have hl:la[j]? =some true:=by
       rw[aX]at hl
       cases F:la[j]? with
       |none=>rw[F]at hl;cases hl
       |some b=>rw[F]at hl;simp at hl;rw[hl]
      rcases(s.la j).1 hl with h4|⟨g,h4⟩
      ·have:=Mn j hj;rw[aX,h4]at this;cases this
      ·exact absurd hj (hb3 j (s.Du j g h4))
    have NC:∀j oj,ops[j]? =some oj->j≠i->la.getD j true=false->¬xo j->o.apart ops oj=true/\(Dt o.op=true\/oq oj=false):=by
     intro j oj Mv Lc PX Of;have PY:lx.getD j true=false:=by
      rw[aX]at PX ⊢
      cases F:lx[j]? with
      |none=>
       have:la[j]? =none:=by
        rw[Array.getElem?_eq_none_iff]at F ⊢;rw[s.HU,<-s.HS];exact F
       rw[this]at PX;cases PX
      |some b=>
       cases b with
       |false=>rfl
       |true=>rw[(s.la j).2 (.inl F)]at PX;cases PX
     exact OJ j oj Mv Lc PY Of
    rcases uT s.sat V c1 with⟨L,l1,I,sat1,NG⟩|⟨L,Rc,l1,I,sat1⟩
    ·obtain⟨v,hK,Mw,Kv⟩:=(kV hτ I sat1 hR).resolve_right (fun hh=>by have:=hh.1;rw[pQ hR]at this;cases this);obtain⟨l2,K,sat2,MP⟩:=jn sat1 hK Qd Mw;refine qK (pu:=Dt o.op) (v:=v.den O) ho LJ (fun c a w hq=>?_) xo LF f la a J MZ NC Ny (.inl ⟨L,fun w3 Z=>Kv w3 (Z.imp id fun Z=>sat1.rel.ext Z)⟩) ?_
     ·exact absurd hq.1 (by simp)
     ·refine ih (f+r.length) (by omega) f r _ _ _ _ _ _ _ _ _ _ _ _ rfl (by omega) c5 K (s.step LJ ho Qr NN sat2 ?_ (fun _ _ _=>Ext.refl _) (fun g _ On hg2 _=>⟨On,hg2⟩));intro j hj Lc d hd Kq;have NG:=NG (by intro e;rw[e]at hj;cases hj);subst NG;exact MP d hd Kq
    ·obtain⟨l2,K,sat2,MP⟩:=jn (v:=.o (.v undef)) sat1 I Qd trivial;refine qK (pu:=Dt o.op) (v:=undef) ho LJ (fun c a w hq=>?_) xo LF f la a J MZ NC Ny (.inr ⟨L,rfl⟩) ?_
     ·exact absurd hq.1 (by simp)
     ·refine ih (f+r.length) (by omega) f r _ _ _ _ _ _ _ _ _ _ _ _ rfl (by omega) c5 K (s.step LJ ho Qr NN sat2 ?_ (fun _ _ _=>Ext.refl _) (fun g _ On hg2 _=>⟨On,hg2⟩));intro j hj;rw[Rc]at hj;cases hj
   |false=>
    rw[hR]at c4;simp only[aZ]at c4;obtain⟨c4,c6⟩:=c4;have hpick:∀j∈Region.ready .any ops la,j=i\/(j≠i/\j∈Pd):=by
     intro j hj;by_cases Lc:j=i
     ·exact .inl Lc
     ·refine .inr ⟨Lc,?_⟩;apply Decidable.byContradiction;intro hjP;obtain⟨k1,oj,k2,k3⟩:=dc.1 hj;have:j∈Region.ready .any ops (ia lx (Pd.filter fun j=> !Nat.beq j i)):=by
       refine dc.2 ⟨?_,oj,k2,fun e Z hb=>?_⟩
       ·have LG:j<(ia lx (Pd.filter fun j=> !Nat.beq j i)).size:=by rw[AF,s.HS,<-s.HU];exact(aW.1 k1).1
        rw[Array.getElem?_eq_getElem LG]
        cases hb:(ia lx (Pd.filter fun j=> !Nat.beq j i))[j]with
        |false=>rfl
        |true=>
         rcases(uQ _ lx j).1 (by rw[Array.getElem?_eq_getElem LG,hb])with h4|⟨h4,_⟩
         ·have:=(s.la j).2 (.inl h4);rw[k1]at this;cases this
         ·exact absurd (List.mem_filter.1 h4).1 hjP
       ·rw[uQ];rcases(s.la e.on).1 (k3 e Z hb)with h4|⟨g,h4⟩
        ·exact .inl h4
        ·refine .inr ⟨List.mem_filter.2 ⟨s.Du _ _ h4,?_⟩,?_⟩
         ·simp only[Bool.not_eq_true',lI]
          intro e2;rw[e2]at h4;exact Qr g h4
         ·have:=(s.pd _ (s.Du _ _ h4)).1;exact(aW.1 this).1
      have:=List.all_eq_true.1 c6 j this;exact Lc (dS this)
    refine⟨fun Z=>(by rw[Z]at Ny;cases Ny),fun j hj=>?_⟩;have PX:=(dc.1 hj).1;have hunj:=jc PX;rcases hpick j hj with rfl|⟨Lc,hjP⟩
    ·
     refine s8 ho ?_;rcases uT s.sat V c1 with⟨L,l1,I,sat1,NG⟩|⟨L,Rc,l1,I,sat1⟩
     ·refine .inl ⟨L,?_⟩;have hl1':∀k∈Pd,k≠j->∀(l2:Env),(∀t,eX l1 t=none->o.dst≠some t->eX l2 t=none)->∀d,eX l d=none->o.dst≠some d->eX l2 d=none:=by
       intro k W _ l2 MP d hd Kq;have NG:=NG (by intro e;rw[e]at W;cases W);subst NG;exact MP d hd Kq
      cases hA:HQ o.op with
      |true=>
       obtain⟨b,v,mk,obj,hK,ML,hb,hv,Qs,Lv,Qc⟩:=lh hτ I sat1 hA;have LP:Rel ((nx,b)::H) (nx+1) iv B w (fI O nx ⟨J.heap.size,0,false⟩) (J.alloc obj):=
        sat1.rel.push b _ rfl rfl rfl (by simp) (fun k W=>heap_alloc_old _ _ W) (fun _=>⟨aE _,by simp⟩) (Lv _ _ (heap_alloc_new _ _)) hb
       obtain⟨l2,K,sat2,MP⟩:=jn (sat1.next LP (Nat.le_succ _) (fun id LK=>ew id LK)) hK Qd hv;rw[Qs]at sat2;refine ko (v:=mk J.heap.size) (Y:=J.alloc obj) (Qc J) ⟨fun _=>Ext.alloc _ _,?_⟩;refine ih (f+r.length) (by omega) f r _ _ _ _ _ _ _ _ _ _ _ _ rfl (by omega) c5 K (s.step LJ ho Qr NN sat2 (fun k W hkj=>hl1' k W hkj l2 MP) (fun _ _ _=>Ext.alloc _ _) (fun g R On hg2 _=>⟨fun id c hc A Z=>?_,hg2⟩));rw[cL]at hc;split at hc
       ·rename_i e;subst e;rw[dM]at Z;simp only at Z;omega
       ·have Lg:fI O nx ⟨J.heap.size,0,false⟩ id=O id:=(ew id (s.sat.rel.keys id c hc)).symm;rw[Lg]at A Z;exact On id c hc A Z
      |false=>
       cases hH:oq o with
       |false=>
        rw[oz hH]at I;refine uS I sat1 hR hA hH fun v Y hK Z hs=>⟨fun _=>Z,?_⟩
        obtain⟨l2,K,sat2,MP⟩:=jn (v:=.o (.v v)) hs hK Qd trivial;refine ih (f+r.length) (by omega) f r _ _ _ _ _ _ _ _ _ _ _ _ rfl (by omega) c5 K (s.step LJ ho Qr NN sat2 (fun k W hkj=>hl1' k W hkj l2 MP) (fun _ _ _=>Z) (fun g R On hg2 _=>⟨On,fun lo N hm hc=>?_⟩));rcases List.mem_cons.1 hm with hm|hm
        ·injection hm with e1 e2;omega
        ·exact hg2 lo N hm hc
       |true=>
        have Rc:Pd=[]:=by rw[hH]at c4;simpa using c4
        subst Rc;refine pR hτ I sat1 fun v H' Ku E Y GE w3 hK sat2 hv=>⟨fun hs=>(by rw[hs o ho]at hH;cases hH),?_⟩
        obtain⟨l2,K,sat3,MP⟩:=jn sat2 hK Qd hv;exact ih (f+r.length) (by omega) f r _ _ _ _ _ _ _ _ _ _ _ _ rfl (by omega) c5 K (s.step LJ ho Qr NN sat3 (fun k W=>by cases W) (fun k W=>by cases W) (fun g _ _ _ W=>by obtain⟨k,W,_⟩:=W;cases W))
     ·refine .inr ⟨L,fun _=>Ext.refl _,?_⟩;subst Rc;obtain⟨l2,K,sat2,MP⟩:=jn (v:=.o (.v undef)) sat1 I Qd trivial;exact ih (f+r.length) (by omega) f r _ _ _ _ _ _ _ _ _ _ _ _ rfl (by omega) c5 K (s.step LJ ho Qr NN sat2 (fun k W=>by cases W) (fun k W=>by cases W) (fun g _ _ _ W=>by obtain⟨k,W,_⟩:=W;cases W))
    ·
     refine s.early Kt LJ hjP PX fun E' a2 Y Z s'=>⟨fun _=>Z,?_⟩
     exact ih (f+(r.length+1)) (by omega) f (.x i::r) lx _ Pd E' l H nx iv w O a2 Y rfl (by omega) (by simp only[nG,ho,aZ];exact⟨⟨⟨⟨by simpa using c1,by simpa using c2⟩,c3⟩,by rw[hR];simp only[aZ];exact⟨c4,c6⟩⟩,c5⟩) h s'
theorem cC(hτ:ey P τ)(hm:P.follows .mixedOrders=true){G9:KT}(π:List It)(hs:Region.noSelect ops=true)(hc:Bj ops ops.size π 0 []=true)
  (h:Ev P τ B ops.toList π l H nx iv w G9):yw P B ops l H nx iv w G9:=by
 rw[yv π (Array.replicate ops.size false) 0 [] (by simp) (fun j=>by rw[qI,aX,Array.getElem?_replicate];split<;>rfl)]at hc;refine⟨fun n O a J Kt sat Q hQ id=>?_⟩;refine wp_mono (Q':=Q) (c:=.region id ops true) (wp_region_any (Q:=QN (Q .normal)) hm (uU _ _ _ _ ?_)) (fun e a w hq=>by obtain⟨rfl,hq⟩:=hq;exact hq);refine FC hτ (fun j o ho d hd=>?_) (Region.noSelect_spec hs) hQ _ _ π _ _ [] [] l H nx iv w O a _ rfl ?_ hc h ?_
 ·have:=List.all_eq_true.1 Kt o (aD (by rw[bA];exact ho));rw[hd]at this;have h5:d+1<=n:=by simpa [Nat.blt]using this
  exact h5
 ·unfold Ia;refine a9 List.countP_le_length ?_;simp
 ·refine⟨⟨sat.rel.drew,sat.size,sat.defers,sat.env,sat.sc⟩,by simp,by simp,fun j=>by simp,fun j g h=>(by cases h),fun j h=>(by cases h),fun j g h=>(by cases h),fun j g j' h=>(by cases h),fun j h=>(by cases h)⟩
end
def tp:List (Nat×TI)->Nat->Option TI
 |[],_=>none
 |(t,v)::r,u=>match Nat.beq t u with
  |true=>some v
  |false=>tp r u
def KB:Value->Value->Bool
 | .bool a,.bool b=>a==b
 | .int k n,.int j m=>nI k j&&decide (n=m)
 | .string a,.string b=>a.data.toList.isEmpty&&b.data.toList.isEmpty
 | .pointer none,.pointer none=>true
 | .slice none a b,.slice none c d=>Nat.beq a c&&Nat.beq b d
 | .map none,.map none=>true
 | .nilFunc,.nilFunc=>true
 | .nilIface,.nilIface=>true
 |_,_=>false
theorem xq{a b:IntKind}(h:nI a b=true):a=b:=by cases a<;>cases b<;>first|rfl|cases h
theorem Ic{a b:Value}(h:KB a b=true):a=b/\a.oneCell'=true:=by
 unfold KB at h;split at h
 ·exact⟨by rw[eq_of_beq h],rfl⟩
 ·simp only[aZ,decide_eq_true_eq]at h;exact⟨by rw[xq h.1,h.2],rfl⟩
 ·rename_i a b;simp only[aZ,List.isEmpty_iff]at h;refine⟨?_,rfl⟩;have ha:a=⟨#[]⟩:=by
   obtain⟨⟨l⟩⟩:=a;simp only at h;rw[h.1]
  have hb:b=⟨#[]⟩:=by
   obtain⟨⟨l⟩⟩:=b;simp only at h;rw[h.2]
  rw[ha,hb]
 ·exact⟨rfl,rfl⟩
 ·simp only[aZ]at h;exact⟨by rw[dS h.1,dS h.2],rfl⟩
 ·exact⟨rfl,rfl⟩
 ·exact⟨rfl,rfl⟩
 ·exact⟨rfl,rfl⟩
 ·cases h
def HV:List Value->List Value->Bool
 |[],[]=>true
 |a::r,b::s=>KB a b&&HV r s
 |_,_=>false
theorem DF:∀{a b:List Value},HV a b=true->a=b/\∀x∈b,x.oneCell'=true
 |[],[],_=>⟨rfl,by simp⟩
 |a::r,b::s,h=>by
  simp only[HV,aZ]at h;obtain⟨V,I⟩:=Ic h.1;obtain⟨K,h4⟩:=DF h.2;refine⟨by rw[V,K],fun x F=>?_⟩;rcases List.mem_cons.1 F with rfl|F
  ·rw[<-V];exact I
  ·exact h4 x F
 |[],_::_,h=>by cases h
 |_::_,[],h=>by cases h
def tq(P:Program):List Field->List (Nat×Nat)->Bool
 |[],[]=>true
 |f::r,(o,t)::s=>Nat.beq f.offset o&&Nat.beq f.type t&&(P.info? f.type).isSome&&tq P r s
 |_,_=>false
theorem uV{P:Program}:∀{a:List Field} {b:List (Nat×Nat)},tq P a b=true->a.map (fun f=>(f.offset,f.type))=b/\∀f∈a,(P.info? f.type).isSome=true
 |[],[],_=>⟨rfl,by simp⟩
 |f::r,(o,t)::s,h=>by
  simp only[tq,aZ]at h;obtain⟨K,h4⟩:=uV h.2;refine⟨by rw[List.map_cons,K,dS h.1.1.1,dS h.1.1.2],fun x F=>?_⟩;rcases List.mem_cons.1 F with rfl|F
  ·exact h.1.2
  ·exact h4 x F
 |[],_::_,h=>by cases h
 |_::_,[],h=>by cases h
def isAgg:TypeDesc->Bool
 | .struct _=>true
 | .array _ _=>true
 |_=>false
def Jb(a b:Bool):Bool:=match a with
 |true=>b
 |false=> !b
theorem HW{a b:Bool}(h:Jb a b=true):a=b:=by cases a<;>cases b<;>first|rfl|cases h
def tokB(P:Program)(t:Nat)(i:TI):Bool:=
 (match P.info? t with
  |some inf=>Nat.beq inf.size i.size&&Nat.beq inf.bytes i.bytes&&(match inf.zero with
   |some z=>HV z.cells.toList i.zero
   |none=>false)
  |none=>false)&&Nat.beq i.zero.length i.size&&
 (match P.underlying t with
  |some d=>Jb (isAgg d) i.agg&&(match i.tag with
   |1=>(match d with
    | .int k=>nI k i.ik
    |_=>false)
   |2=>(match d with
    | .bool=>true
    |_=>false)
   |3=>(match d with
    | .string=>true
    |_=>false)
   |4=>(match d with
    | .slice e=>Nat.beq e i.elem
    |_=>false)
   |5=>(match d with
    | .struct fs=>tq P fs.toList i.fields
    |_=>false)
   |6=>(match d with
    | .array n e=>Nat.beq n i.yu&&Nat.beq e i.elem
    |_=>false)
   |_=>true)
  |none=>false)
theorem tok_of{t:Nat}{i:TI}(h:tokB P t i=true):Bn P t i:=by
 simp only[tokB,aZ]at h;obtain⟨⟨V,I⟩,K⟩:=h
 cases N:P.info? t with
 |none=>rw[N]at V;cases V
 |some inf=>
 rw[N]at V;simp only[aZ]at V;obtain⟨⟨h4,h5⟩,h6⟩:=V
 cases hz:inf.zero with
 |none=>rw[hz]at h6;cases h6
 |some z=>
 rw[hz]at h6;obtain⟨h7,h8⟩:=DF h6
 cases hu:P.underlying t with
 |none=>rw[hu]at K;cases K
 |some d=>
 rw[hu]at K;simp only[aZ]at K;obtain⟨h9,h10⟩:=K;refine⟨⟨inf,z,N,dS h4,dS h5,hz,h7⟩,dS I,h8,⟨d,hu,?_⟩,fun e=>?_,fun e=>?_,fun e=>?_,fun e=>?_,fun e=>?_,fun e=>?_⟩
 ·rw[<-HW h9]
  cases d<;>rfl
 all_goals rw[e]at h10
 ·cases d with
  |int k=>simp only at h10;rw[<-xq h10];exact hu
  |_=>cases h10
 ·cases d with
  |bool=>exact hu
  |_=>cases h10
 ·cases d with
  |string=>exact hu
  |_=>cases h10
 ·cases d with
  |slice e=>simp only at h10;rw[<-dS h10];exact hu
  |_=>cases h10
 ·cases d with
  |struct fs=>simp only at h10;exact⟨fs,hu,uV h10⟩
  |_=>cases h10
 ·cases d with
  |array n e=>simp only[aZ]at h10;rw[<-dS h10.1,<-dS h10.2];exact hu
  |_=>cases h10
theorem Ie(h:l.all (fun p=>tokB P p.1 p.2)=true):ey P (tp l):=by
 intro t i N;have:(t,i)∈l:=by
  clear h
  induction l with
  |nil=>cases N
  |cons p r ih=>
   obtain⟨t0,i0⟩:=p;unfold tp at N;split at N
   ·rename_i hb;injection N with N;subst N;rw[dS hb];exact aH ..
   ·exact aB _ (ih N)
 exact tok_of (List.all_eq_true.1 h _ this)
theorem Dv{fn:Func}{c:Code}(hf:P.funcs[g]? =some fn)(hb:fn.body=some c)(A:(fn.name== "runtime.NumGoroutine")=false):FD P g:=
 ⟨fun args w=>by simp only[beq_eq_false_iff_ne]at A;simp[callFunc,hf,hb,A]⟩
theorem eF.mono{args:Array Value}{w:World}(h:eF P g args w Do)(k:∀e Y,Do e Y->R' e Y):eF P g args w R':=
 ⟨h.e,Calls.mono h.c k⟩
abbrev dO(B:Nat)(w Y:World):Prop:=RowKit.Below B w Y
theorem dO.refl{w:World}:dO B w w:=RowKit.Below.refl _ _
theorem Rel.cG{H:Hp}{nx:Nat}{iv:Iv}{w J:World}(r:Rel H nx iv B w O J):dO B w J:=
 ⟨r.os,r.tape,r.output,r.size,fun k W=>r.rP k (by have:=r.base;omega) (fun id b h A Z=>by have:=(r.low id b h A).1;omega)⟩
theorem dO.tr{a b c:World}(h:dO B a b)(k:dO B b c):dO B a c:=RowKit.Below.trans h k
theorem Ext.cG{a b:World}(h:Ext a b)(hB:B<=a.heap.size):dO B a b:=RowKit.Below.mono h hB
end Go.Sx
namespace Go.RowKit
open Go Go.Sx
theorem Below.cG{B:Nat}{a b:World}(h:RowKit.Below a.heap.size a b)(hB:B<=a.heap.size):RowKit.Below B a b:=RowKit.Below.mono h hB
end Go.RowKit
namespace Go.Sx
open Go
variable{args:(Nat->cd)->Array Value}{Id:(Nat->cd)->World->Value->World->Prop}{H:Hp}{n:Int}{iv:Iv}{B nx:Nat}{O:Nat->cd}{P:Program}
theorem cA{w Y:World}{a:Addr}(h:Y.heap[a.block]? =w.heap[a.block]?):Y.cell? a=w.cell? a:=by
 unfold World.cell?;rw[h]
theorem dO.cell{w Y:World}(h:dO B w Y){a:Addr}(ha:a.block<B):Y.cell? a=w.cell? a:=cA (h.block _ ha)
def AJ(l:Env):Env->Prop
 |[]=>True
 |(u,v)::r=>eX l u=some v/\AJ l r
theorem AJ.get{l:Env}:∀{t:Env},AJ l t->∀u v,eX t u=some v->eX l u=some v
 |[],_,u,v,h=>by cases h
 |(u0,v0)::r,h,u,v,R=>by
  rw[dm]at R;split at R
  ·rename_i e;subst e;injection R with R;subst R;exact h.1
  ·exact AJ.get h.2 u v R
def lj(n:Nat):Env->Prop
 |[]=>True
 |(_,v)::r=>v.sc n/\lj n r
theorem lj.get{n:Nat}:∀{t:Env},lj n t->∀u v,eX t u=some v->v.sc n
 |[],_,u,v,h=>by cases h
 |(u0,v0)::r,h,u,v,R=>by
  rw[dm]at R;split at R
  ·injection R with R;subst R;exact h.1
  ·exact lj.get h.2 u v R
theorem Rel.KC{w J:World}(r:Rel H nx iv B w O J):Rel H nx [] B w O J:=
 Rel.mk' r.os r.tape r.output r.size r.base (by simp) r.keys (fun id b h=>r.fits h) (fun id b h=>r.scopd h) r.inj r.low r.rP (by simp)
theorem Sub.reset{l tl:Env}{w J:World}(r:Rel H nx iv B w O J)(V:AJ l tl)(I:lj nx tl):Sub B l nx O J ⟨tl,H,nx,[],J⟩:=
 ⟨O,r.here.KC,fun u v hv=>⟨I.get u v hv,v,V.get u v hv,rfl⟩⟩
def eM(w:World)(Id:Value->World->Prop)(e:Ending)(Y:World):Prop:=∃v,e= .returned v/\Ext w Y/\Id v Y
theorem bz{g:Nat}{w:World}{G9:SV->Hp->Iv->World->Prop}
  (h:∀O J,Rel H nx iv B w O J->eF P g (args O) J (eM J (Id O J))) (hK:∀O J v Y,Rel H nx iv B w O J->Ext J Y->dO B w Y->Id O J v Y->G9 (.o (.v v)) H ((J.heap.size,Y.heap.size)::iv) Y):AI P B g args H nx iv w G9:=
 ⟨fun O J r=>(h O J r).mono fun e Y ⟨v,V,I,K⟩=>⟨v,V,I,hK O J v Y r I (r.cG.tr (I.cG (by have:=r.base;have:=r.size;omega))) K⟩⟩
theorem cE{g:Nat}{w w0:World}{G9:SV->Hp->Iv->World->Prop}(L:dO B w0 w)(Id:(Nat->cd)->World->Value->World->Prop)
  (h:∀O J,Rel H nx iv B w O J->eF P g (args O) J (eM J (Id O J))) (hK:∀O J v Y E,Rel H nx iv B w O J->Ext J Y->dO B w0 Y->E=(J.heap.size,Y.heap.size)::iv->Id O J v Y->G9 (.o (.v v)) H E Y):AI P B g args H nx iv w G9:=
 bz h fun O J v Y r V I K=>hK O J v Y _ r V (L.tr I) rfl K
theorem mC{a:Nat×Nat}{E:Iv}(h:E=a::iv):∀p,p∈iv->p∈E:=h▸fun _ h=>aB _ h
theorem mN{a:Nat×Nat}{E:Iv}(h:E=a::iv):a∈E:=h▸aH
theorem wrap64(V: -9223372036854775808<=n)(I:n<=9223372036854775807):IntKind.wrap .i64 n=n:=by
 have e1:(2:Int)^64=18446744073709551616:=by decide
 have e2:(2:Int)^(64-1)=9223372036854775808:=by decide
 simp only[IntKind.wrap,IntKind.bits,IntKind.signed,e1,e2]
 by_cases h:n % 18446744073709551616≥9223372036854775808
 ·rw[if_pos (by simp[h])];omega
 ·rw[aF (by simp[h])];omega
theorem wo{r:Int}(h:(-9223372036854775808<=n/\n<=9223372036854775807)/\n=r:=by omega):IntKind.wrap .i64 n=r:=by rw[wrap64 h.1.1 h.1.2];exact h.2
theorem tt(V:0<=n)(I:n<18446744073709551616):IntKind.wrap .u64 n=n:=by
 have e1:(2:Int)^64=18446744073709551616:=by decide
 simp only[IntKind.wrap,IntKind.bits,IntKind.signed,e1,Bool.false_and,Bool.false_eq_true,if_false]
 omega
theorem tu(V:0<=n)(I:n<4294967296):IntKind.wrap .u32 n=n:=by
 have e1:(2:Int)^32=4294967296:=by decide
 simp only[IntKind.wrap,IntKind.bits,IntKind.signed,e1,Bool.false_and,Bool.false_eq_true,if_false]
 omega
end Go.Sx
namespace Go.Sx
open Go
variable{args:(Nat->cd)->Array Value}{Id:(Nat->cd)->World->Value->World->Prop}{after:Array Edge}{es:Array MapEntry}{ag ag':Bool}{tH:Hp}{m:Int}{ik ik' k:IntKind}{fs fs':List (Nat×Nat)}{G cs2 ks xs ze:List Value}{B bt clock g id r sz t tag' ty:Nat}{O:Nat->cd}{i y:Operand}{guard:Option (Nat×Bool)}{row:Option Nat}{dst:Option Tmp}{pos:String}{key z:Value}{KS:Value->Prop}
section
variable{P:Program}{τ:l9}{B nx:Nat}{l:Env}{H:Hp}{iv:Iv}{w J Y:World}{O:Nat->cd}
theorem Rel.AK{Kx:Iv}(r:Rel H nx iv B w O J)(LL:J.heap.size<=Y.heap.size)(ON:∀id b,cO H id=some b->(O id).nil=false->Y.heap[(O id).g]? =J.heap[(O id).g]?)
  (Qt:∀lo N,(lo,N)∈Kx->N<=Y.heap.size/\∀id b,cO H id=some b->(O id).nil=false->¬(lo<=(O id).g/\(O id).g<N)):Rel H nx Kx B Y O Y:=
 Rel.mk' rfl rfl rfl (aE _) (by have:=r.base;have:=r.size;omega) (fun lo N h=>(Qt lo N h).1) r.keys
  (fun id b h=>ix.fg (r.fits h) (fun _ _=>rfl) (r.scopd h) (fun A _=>ON id b h A)) (fun id b h=>r.scopd h) r.inj
  (fun id b h A=>by have:=r.low id b h A;omega) (fun _ _ _=>rfl) (fun lo N h=>(Qt lo N h).2)
theorem lk(hτ:ey P τ){Bc:Nat}(hBc:Bc<=B){x:Operand}{e by_ k m:Nat}{ze':List Value}{sz0 e' al al':Nat}
  {v:Value} {vy:SV} {news:List Value} {G9:SV->Hp->Nat->Iv->World->Prop}
  (ht:τ t=some ⟨sz0,ag,bt,ze,4,ik,e,al,fs⟩) (LY:τ e=some ⟨sz,ag',by_,ze',tag',ik',e',al',fs'⟩) (LU:0<sz) (F:ev l x=some (.o (.v v))) (hy:ev l y=some vy)
  (OA:∀O J,Rel H nx iv B w O J->J.ownsRow Bc e sz v m xs/\∀g,v.ownBlock=some g->∀id b,cO H id=some b->(O id).nil=false->(O id).g≠g)
  (NO:news.length=k*sz) (hn1:∀u∈news,u.oneCell'=true) (ND:m+k<=maxLen) (hb:(m+k)*by_<=140737488355328)
  (src:∀O J,Rel H nx iv B w O J->(∃c,vy.den O= .slice none 0 c/\k=0)\/∃ad c,vy.den O= .slice (some ad) k c/\∀(j:Nat) u,news[j]? =some u->J.cell? (ad.add j)=some u)
  (Kx:Value->World->Iv)
  (Qt:∀O J v' Y,Rel H nx iv B w O J->J.heap.size<=Y.heap.size->(∀g,v'.ownBlock=some g->g<Y.heap.size/\(v.ownBlock=some g\/g=J.heap.size))->∀lo N,(lo,N)∈Kx v' Y->N<=Y.heap.size/\∀id b,cO H id=some b->(O id).nil=false->¬(lo<=(O id).g/\(O id).g<N))
  (hK:∀O J v' Y,Rel H nx iv B w O J->Y.ownsRow Bc e sz v' (m+k) (xs++news)->J.grownBy Y v.ownBlock->(v'.ownBlock=v.ownBlock\/v'.ownBlock=some J.heap.size)->G9 (.o (.v v')) H nx (Kx v' Y) Y):
  tv P B ⟨dst,.call ⟨.builtin .append,⟨[x,y]⟩,⟨[t,t]⟩⟩,ty,pos,after,guard⟩ l H nx iv w G9:=by
 refine⟨fun O J ev' r MV=>?_⟩;have hto:=hτ t _ ht;have hu:=hto.i4 rfl;simp only at hu;have Nh:=hτ e _ LY;obtain⟨inf,z,N,LL,L0,hz,MW⟩:=Nh.info;have Mp:=Nh.Dw;simp only at LL L0 MW Mp;have hzs:z.cells.size=sz:=by rw[<-Mp,<-MW];simp
 obtain⟨Kr,Kq⟩:=OA O J r;have key:∃v' Y,(Builtin.append_ #[t,t] ty #[v,vy.den O]).run P J= .ok v' Y/\Y.ownsRow Bc e sz v' (m+k) (xs++news)/\J.grownBy Y v.ownBlock/\(v'.ownBlock=v.ownBlock\/v'.ownBlock=some J.heap.size):=by
  rcases src O J r with⟨c,hv,rfl⟩|⟨ad,c,hv,LS⟩
  ·have:news=[]:=List.eq_nil_of_length_eq_zero (by simpa using NO);subst this;rw[hv];exact⟨v,J,js J Bc t ty e inf sz hu N v m xs Kr c,by simpa using Kr,⟨rfl,rfl,rfl,aE _,fun _ _ _=>rfl⟩,.inl rfl⟩
  ·rw[hv];obtain⟨v',Y,V,I,K,_,h5⟩:=run_append_own_at (P:=P) J Bc t ty e inf z sz by_ hu N hz LL L0 hzs LU v m xs Kr ad k c news NO LS hn1 ND hb (by have:=r.base;have:=r.size;omega);exact⟨v',Y,V,I,K,h5⟩
 obtain⟨v',Y,V,I,K,h4⟩:=key;have e1:=MV x _ F;have e2:=MV y _ hy;have M7:∀g,v'.ownBlock=some g->g<Y.heap.size/\(v.ownBlock=some g\/g=J.heap.size):=fun g R=>by
  refine⟨?_,?_⟩
  ·rcases I.2 with⟨rfl,_⟩|⟨g',cap,cur,rfl,_,hc,_⟩
   ·cases R
   ·simp only[Value.ownBlock,Option.some.injEq]at R;subst R;exact(aW.1 hc).1
  ·rcases h4 with h4|h4
   ·exact .inl (h4▸R)
   ·rw[h4]at R;injection R with R;exact .inr R.symm
 refine⟨v',Y,Kx v' Y,.inl ?_,r.AK K.size (fun id b h A=>K.block _ (r.low id b h A).2 (fun e=>Kq _ e.symm id b h A rfl)) (Qt O J v' Y r K.size M7),hK O J v' Y r I K h4⟩;have e1:ev' x=v:=e1;generalize vy.den O=yy at*
 simp[execOp,resolve,invoke,builtin,e1,e2,V]
theorem dO.grown{B0:Nat}(h:J.grownBy Y row)(hr:∀g,row=some g->B0<=g)(hB:B0<=J.heap.size):dO B0 J Y:=
 ⟨h.os,h.tape,h.output,h.size,fun k W=>h.block k (by omega) (fun e=>by have:=hr k e.symm;omega)⟩
theorem ownsRow.low{e m:Nat}{v:Value}(h:w.ownsRow B e sz v m xs):∀g,v.ownBlock=some g->B<=g/\g<w.heap.size:=by
 intro g R;rcases h.2 with⟨rfl,_⟩|⟨g',cap,cur,rfl,hb,hc,_⟩
 ·cases R
 ·simp only[Value.ownBlock,Option.some.injEq]at R;subst R;exact⟨hb,(aW.1 hc).1⟩
theorem ownsRow.br{e m:Nat}{v:Value}(h:w.ownsRow B e sz v m xs)(W:∀g,v.ownBlock=some g->Y.heap[g]? =w.heap[g]?):Y.ownsRow B e sz v m xs:=by
 refine⟨h.1,?_⟩;rcases h.2 with V|⟨g',cap,cur,rfl,hb,hc,I⟩
 ·exact .inl V
 ·exact .inr ⟨g',cap,cur,rfl,hb,by rw[W g' rfl];exact hc,I⟩
end
def At.zy(f:Nat->Nat):At->At
 | .v x=>.v x
 | .p id off=>.p (f id) off
 | .s id off len cap=>.s (f id) off len cap
 | .w id len=>.w (f id) len
 | .fn g caps=>.fn g (caps.map f)
def SV.zy(f:Nat->Nat):SV->SV
 | .o x=>.o (x.zy f)
 | .a G=>.a (G.map (At.zy f))
def ix.zy(f:Nat->Nat):ix->ix
 | .box t G=>.box t (G.map (At.zy f))
 | .arr t G=>.arr t G
 | .vec t size G=>.vec t size G
 | .dead=>.dead
theorem At.qL(f:Nat->Nat)(O:Nat->cd)(x:At):(x.zy f).den O=x.den (fun i=>O (f i)):=by
 cases x<;>simp[At.zy,At.den]
theorem SV.qL(f:Nat->Nat)(O:Nat->cd)(x:SV):(x.zy f).den O=x.den (fun i=>O (f i)):=by
 cases x with
 |o x=>exact At.qL f O x
 |a G=>
  have:At.den O ∘ At.zy f=At.den (fun i=>O (f i)):=funext fun x=>At.qL f O x;simp[SV.zy,SV.den,this]
def uW:List (Nat×Nat)->Nat->Nat
 |[],n=>n
 |(a,b)::r,n=>match Nat.beq a n with
  |true=>b
  |false=>uW r n
def xr(f:Nat->Nat)(l:Env):Env->Prop
 |[]=>True
 |(u,v)::r=>eX l u=some (v.zy f)/\xr f l r
def xt(f:Nat->Nat)(H:Hp):Hp->Prop
 |[]=>True
 |(u,b)::r=>cO H (f u)=some (b.zy f)/\xt f H r
def Ig(n:Nat):Hp->Prop
 |[]=>True
 |(u,b)::r=>(u<n/\b.scopd n)/\Ig n r
def FE(f:Nat->Nat):Hp->Bool
 |[]=>true
 |(u,_)::r=>r.all (fun p=>Nat.beq p.1 u|| !Nat.beq (f p.1) (f u))&&FE f r
theorem xr.get{f:Nat->Nat}{l:Env}:∀{t:Env},xr f l t->∀u v,eX t u=some v->eX l u=some (v.zy f)
 |[],_,u,v,h=>by cases h
 |(u0,v0)::r,h,u,v,R=>by
  rw[dm]at R;split at R
  ·rename_i e;subst e;injection R with R;subst R;exact h.1
  ·exact xr.get h.2 u v R
theorem xt.get{f:Nat->Nat}{l:Hp}:∀{t:Hp},xt f l t->∀u v,cO t u=some v->cO l (f u)=some (v.zy f)
 |[],_,u,v,h=>by cases h
 |(u0,v0)::r,h,u,v,R=>by
  rw[cL]at R;split at R
  ·rename_i e;subst e;injection R with R;subst R;exact h.1
  ·exact xt.get h.2 u v R
theorem Ig.get{n:Nat}:∀{t:Hp},Ig n t->∀u b,cO t u=some b->u<n/\b.scopd n
 |[],_,u,v,h=>by cases h
 |(u0,v0)::r,h,u,v,R=>by
  rw[cL]at R;split at R
  ·rename_i e;subst e;injection R with R;subst R;exact h.1
  ·exact Ig.get h.2 u v R
theorem AM:∀{t:Hp} {u:Nat} {b:ix},cO t u=some b->∃p∈t,p.1=u
 |[],u,b,h=>by cases h
 |(u0,v0)::r,u,b,h=>by
  rw[cL]at h;split at h
  ·rename_i e;exact⟨_,aH ..,e⟩
  ·obtain⟨p,V,I⟩:=AM h;exact⟨p,aB _ V,I⟩
theorem xu{f:Nat->Nat}:∀{t:Hp},FE f t=true->∀u v b c,cO t u=some b->cO t v=some c->f u=f v->u=v
 |[],_,u,v,b,c,h,_,_=>by cases h
 |(u0,v0)::r,N,u,v,b,c,hu,hv,Z=>by
  simp only[FE,aZ]at N;have key:∀{w:Nat} {d:ix},cO r w=some d->f w=f u0->w=u0:=fun{w d} L hf=>by
   obtain⟨p,hp,rfl⟩:=AM L;have:=List.all_eq_true.1 N.1 p hp;simp only[Bool.or_eq_true,Bool.not_eq_true']at this;rcases this with h|h
   ·exact dS h
   ·rw[hf,Nat.beq_refl]at h;cases h
  rw[cL]at hu hv;split at hu<;>split at hv
  ·rename_i x y;rw[<-x,<-y]
  ·rename_i x y;subst x;exact(key hv Z.symm).symm
  ·rename_i x y;subst y;exact key hu Z
  ·exact xu N.2 u v b c hu hv Z
theorem Sub.gen{l tl:Env}{nx Ku:Nat}{H:Hp}{iv E:Iv}{w J:World}(m:List (Nat×Nat))(r:Rel H nx iv B w O J)
  (hH:xt (uW m) H tH) (hE:xr (uW m) l tl) (hsH:Ig Ku tH) (hsE:lj Ku tl) (N:FE (uW m) tH=true) (Qt:∀lo N,(lo,N)∈E->(lo,N)∈iv):Sub B l nx O J ⟨tl,tH,Ku,E,J⟩:=by
 refine⟨fun i=>O (uW m i),(?_:Rel tH Ku E B J (fun i=>O (uW m i)) J),fun u v hv=>⟨hsE.get u v hv,_,hE.get u v hv,SV.qL _ _ _⟩⟩;refine Rel.mk' rfl rfl rfl (aE _) (by have:=r.base;have:=r.size;omega) (fun lo N h=>by have:=r.oR lo N (Qt lo N h);have:=r.size;omega) (fun id b h=>(hsH.get id b h).1) ?_ (fun id b h=>(hsH.get id b h).2) ?_ ?_ (fun _ _ _=>rfl) ?_
 ·intro id b h;have V:=r.fits (hH.get id b h);have hr:At.den O ∘ At.zy (uW m)=At.den (fun i=>O (uW m i)):=funext fun x=>At.qL _ O x
  cases b with
  |box t G=>simpa [ix.zy,ix.fits,hr]using V
  |arr t G=>exact V
  |vec t size G=>exact V
  |dead=>trivial
 ·intro id id' b b' h h' hd Rb A hn' Z;refine xu N id id' b b' h h' (r.inj _ _ _ _ (hH.get id b h) (hH.get id' b' h') ?_ ?_ A hn' Z)
  ·cases b<;>first|(exact absurd rfl hd)|simp[ix.zy]
  ·cases b'<;>first|(exact absurd rfl Rb)|simp[ix.zy]
 ·intro id b h A;exact r.low _ _ (hH.get id b h) A
 ·intro lo Oe h id b hb A;exact r.ie lo Oe (Qt lo Oe h) _ _ (hH.get id b hb) A
theorem Sub.gn{l tl:Env}{nx Ku:Nat}{H:Hp}{iv E:Iv}{w J:World}(m:List (Nat×Nat))(r:Rel H nx iv B w O J)
  (hH:xt (uW m) H tH:=by repeat' first|exact trivial|refine⟨rfl,?_⟩) (hE:xr (uW m) l tl:=by repeat' first|exact trivial|refine⟨rfl,?_⟩) (hsH:Ig Ku tH:=by simp[Ig,ix.scopd,At.sc]) (hsE:lj Ku tl:=by simp[lj,SV.sc,At.sc,ij]) (N:FE (uW m) tH=true:=by rfl) (Qt:∀lo N,(lo,N)∈E->(lo,N)∈iv:=by first|exact fun _ _ h=>h|simp):Sub B l nx O J ⟨tl,tH,Ku,E,J⟩:=Sub.gen m r hH hE hsH hsE N Qt
def rS(H:Hp):Hp->Prop
 |[]=>True
 |(u,b)::r=>cO H u=some b/\rS H r
def yx(id:Nat):Hp->Bool
 |[]=>true
 |(_,.dead)::_=>false
 |(u,_)::r=> !Nat.beq u id&&yx id r
theorem rS.get{H:Hp}:∀{t:Hp},rS H t->∀{u b},cO t u=some b->cO H u=some b
 |[],_,u,b,h=>by cases h
 |(v,c)::r,hs,u,b,h=>by
  unfold cO at h;split at h
  ·rename_i e;injection h with h;subst h;have:=bX e;subst this;exact hs.1
  ·exact rS.get hs.2 h
theorem yx.get{id:Nat}:∀{t:Hp},yx id t=true->∀{u b},cO t u=some b->u≠id/\b≠ .dead
 |[],_,u,b,h=>by cases h
 |(v,c)::r,hs,u,b,h=>by
  unfold cO at h;split at h
  ·rename_i e;injection h with h;subst h;have:=bX e;subst this;have hv:v.beq id=false->v≠id:=fun h e=>by rw[e,Nat.beq_refl]at h;cases h
   cases c<;>simp_all [yx]
  ·refine yx.get (t:=r) ?_ h
   cases c<;>simp_all [yx]
section
variable{P:Program}{B nx:Nat}{H H':Hp}{iv:Iv}{w J Y:World}{O:Nat->cd}
theorem Rel.free{b:ix}(r:Rel H nx iv B w O J)(LK:cO H id=some b)(hd:b≠ .dead)(A:(O id).nil=false)(hs:rS H H')(ho:yx id H'=true):Rel H' nx (((O id).g,(O id).g+1)::iv) B J O J:=by
 have V:Rel H' nx iv B J O J:=Rel.mk' rfl rfl rfl (aE _) (by have:=r.base;have:=r.size;omega) (fun lo N hm=>by have:=r.oR lo N hm;have:=r.size;omega) (fun j c h=>r.keys j c (hs.get h))
  (fun j c h=>r.fits (hs.get h)) (fun j c h=>r.scopd (hs.get h)) (fun j k c e h h'=>r.inj j k c e (hs.get h) (hs.get h')) (fun j c h=>r.low j c (hs.get h)) (fun _ _ _=>rfl) (fun lo N hm j c h=>r.ie lo N hm j c (hs.get h))
 refine V.more (by have:=(r.low id b LK A).2;omega) fun j c hj Re Z=>?_;obtain⟨I,K⟩:=yx.get ho hj;exact I (r.inj j id c b (hs.get hj) LK K hd Re A (by omega))
theorem fU{G9:SV->Hp->Iv->World->Prop}(id:Nat){b:ix}(LK:cO H id=some b)(hd:b≠ .dead)(hs:rS H H')(ho:yx id H'=true)
  (A:∀O J,Rel H nx iv B w O J->(O id).nil=false)
  (hc:∀O J,Rel H nx iv B w O J->eF P g (args O) J (eM J (Id O J)))
  (h:∀O J v Y,Rel H nx iv B w O J->Ext J Y->dO B w Y->Id O J v Y->G9 (.o (.v v)) H' (((O id).g,(O id).g+1)::(J.heap.size,Y.heap.size)::iv) Y):AN P B g args H nx iv w G9:=
 ⟨fun O J r=>⟨(hc O J r).e,Calls.mono (hc O J r).c fun e Y Z=>by
  obtain⟨v,V,I,K⟩:=Z;have r2:Rel H nx ((J.heap.size,Y.heap.size)::iv) B Y O Y:=(r.ext I).here.more (aE _) (fun j c hj A=>by have:=(r.low j c hj A).2;omega)
  exact⟨v,H',_,V,r2.free LK hd (A O J r) hs ho,h O J v Y r I (r.cG.tr (I.cG (by have:=r.base;have:=r.size;omega))) K⟩⟩⟩
end
inductive Tr where
 |nil
 |one (i:Nat) (t:Tr)
 |two (i:Nat) (t:Tr) (j:Nat) (u:Tr)
section
variable{P:Program}{τ:l9}{ops:Array Oper}{B n nx:Nat}{l:Env}{H:Hp}{iv:Iv}{w J:World}{O:Nat->cd}{a:Act}
end
section
variable{P:Program}{τ:l9}{B n nx:Nat}{l:Env}{H:Hp}{iv:Iv}{w J:World}{O:Nat->cd}{a:Act}
theorem oV{x:Operand}{G9:SV->Hp->Nat->Iv->World->Prop}{s:ByteArray}{b:UInt8}
  (hu:P.underlying t=some .string) (F:ev l x=some (.o (.v (.string s)))) (N:ev l i=some (.o (.v (.int k m)))) (hm:0<=m) (hb:s[m.toNat]? =some b)
  (hK:∀O J,Rel H nx iv B w O J->G9 (.o (.v (.int .u8 b.toNat))) H nx iv J):tv P B ⟨dst,.index t x i,ty,pos,after,guard⟩ l H nx iv w G9:=by
 refine⟨fun O J ev' r MV=>⟨.int .u8 b.toNat,J,iv,.inl ?_,r.here,hK O J r⟩⟩;have e1:ev' x= .string s:=MV x _ F;have e2:ev' i= .int k m:=MV i _ N;simp[execOp,e1,e2,Instr.index,asIntOf,run_underlying hu,hm,hb]
theorem rT(w:World)(t e:TypeId)(a:Option Addr)(n c n' c':Nat)(h:P.underlying t=some (.slice e)):
  (binOp .eql t (.slice a n c) (.slice none n' c')).run P w= .ok (.bool a.isNone) w:=by
 have:∀d,(Op.equalIn (d+1) t (.slice a n c) (.slice none n' c')).run P w= .ok a.isNone w:=fun d=>by cases a<;>simp[Op.equalIn,run_underlying h]
 simp only[binOp]
 simp[Op.equal,Op.maxDepth,this 9999]
theorem il(w:World)(g:Nat)(G:Array Value):w.grownBy (w.setRow g G) (some g):=
 ⟨rfl,rfl,rfl,by simp,fun k _ Kq=>setRow_other _ _ _ _ fun e=>Kq (by rw[e])⟩
theorem Rel.uX{Y:World}(r:Rel H nx iv B w O J)(Kq:∀id b,cO H id=some b->(O id).nil=false->(O id).g≠g)(h:J.grownBy Y (some g)):Rel H nx iv B Y O Y:=
 r.AK h.size (fun id b hb A=>h.block _ (r.low id b hb A).2 fun e=>Kq id b hb A (Option.some.inj e)) fun lo N hm=>⟨by have:=r.oR lo N hm;have:=r.size;have:=h.size;omega,fun id b hb A=>r.ie lo N hm id b hb A⟩
theorem xR(z:Value)(n:Nat):(Builtin.zeroCells #[z] n).toList=List.replicate n z:=by
 apply bJ;intro i;simp only[Builtin.zeroCells,Array.toList_map,aM,Array.toList_range,List.getElem?_replicate]
 by_cases h:i<n
 ·simp[h,Nat.mod_one]
 ·simp[h]
theorem Dx(hτ:ey P τ){e by_ k off c tg:Nat}{x:Operand}{sz0 e' al al':Nat}
  {G9:SV->Hp->Nat->Iv->World->Prop}
  (ht:τ t=some ⟨sz0,ag,bt,ze,4,ik,e,al,fs⟩) (LY:τ e=some ⟨1,ag',by_,[z],tag',ik',e',al',fs'⟩) (F:ev l x=some (.o (.v (.slice (some ⟨g,off,none⟩) k c)))) (W:k≠0)
  (R:∀O J,Rel H nx iv B w O J->J.heap[g]? =some (.cells G.toArray tg (0,0))/\∀id b,cO H id=some b->(O id).nil=false->(O id).g≠g) (Lv:off+k<=G.length)
  (hK:∀O J Y,Rel H nx iv B w O J->Y.heap[g]? =some (.cells (G.take off++List.replicate k z++G.drop (off+k)).toArray tg (0,0))->J.grownBy Y (some g)->Y.heap.size=J.heap.size->G9 (.o (.v (.tuple #[]))) H nx iv Y):
  tv P B ⟨dst,.call ⟨.builtin .clear,⟨[x]⟩,⟨[t]⟩⟩,ty,pos,after,guard⟩ l H nx iv w G9:=by
 refine⟨fun O J ev' r MV=>?_⟩;have hu:=(hτ t _ ht).i4 rfl;simp only at hu;have Nh:=hτ e _ LY;obtain⟨inf,zv,N,LL,L0,hz,MW⟩:=Nh.info;have hzo:=Nh.KD z (by simp);simp only at LL MW;have hza:zv.cells= #[z]:=by apply Array.ext';simpa using MW
 obtain⟨hc,Kq⟩:=R O J r;have MG:=run_storeCells_at (P:=P) g off tg (List.replicate k z) 0 G.toArray J hc (by simpa using Lv) (fun v hv=>by rw[List.mem_replicate]at hv;rw[hv.2];exact hzo);have Mp:=xR z k;have e1:ev' x= .slice (some ⟨g,off,none⟩) k c:=MV x _ F;simp only[bj,aa]at MG;refine⟨.tuple #[],_,iv,.inl ?_,r.uX Kq (il J g _),hK O J _ r (setRow_heap J g G.toArray _ tg _ hc) (il _ _ _) (by simp)⟩;simp[execOp,resolve,invoke,builtin,e1,Builtin.clear_,run_underlying hu,zeroValue,typeInfo,N,hz,hza,Mp,MG,W]
theorem FG(hτ:ey P τ){e by_ k off c tg:Nat}{x:Operand}{sz0 e' al al':Nat}
  {ds:List Value} {vy:SV} {G9:SV->Hp->Nat->Iv->World->Prop}
  (ht:τ t=some ⟨sz0,ag,bt,ze,4,ik,e,al,fs⟩) (LY:τ e=some ⟨1,ag',by_,[z],tag',ik',e',al',fs'⟩) (F:ev l x=some (.o (.v (.slice (some ⟨g,off,none⟩) k c)))) (hy:ev l y=some vy)
  (R:∀O J,Rel H nx iv B w O J->J.heap[g]? =some (.cells G.toArray tg (0,0))/\∀id b,cO H id=some b->(O id).nil=false->(O id).g≠g)
  (src:∀O J,Rel H nx iv B w O J->∃a m,vy.den O= .slice a ds.length m/\∀(j:Nat) u,ds[j]? =some u->∃ad,a=some ad/\J.cell? (ad.add j)=some u)
  (hds:ds.length<=k) (Lv:off+ds.length<=G.length) (V:∀u∈ds,u.oneCell'=true)
  (hK:∀O J Y,Rel H nx iv B w O J->Y.heap[g]? =some (.cells (G.take off++ds++G.drop (off+ds.length)).toArray tg (0,0))->J.grownBy Y (some g)->Y.heap.size=J.heap.size->G9 (.o (.v (goInt ds.length))) H nx iv Y):
  tv P B ⟨dst,.call ⟨.builtin .copy,⟨[x,y]⟩,⟨[t,t]⟩⟩,ty,pos,after,guard⟩ l H nx iv w G9:=by
 refine⟨fun O J ev' r MV=>?_⟩;have hu:=(hτ t _ ht).i4 rfl;simp only at hu;have Nh:=hτ e _ LY;obtain⟨inf,zv,N,LL,L0,hz,MW⟩:=Nh.info;simp only at LL;obtain⟨hc,Kq⟩:=R O J r;obtain⟨ay,m,hya,LS⟩:=src O J r;have e1:ev' x= .slice (some ⟨g,off,none⟩) k c:=MV x _ F;have e2:ev' y= .slice ay ds.length m:=by rw[<-hya];exact MV y _ hy
 refine⟨goInt ds.length,J.setRow g (G.take off++ds++G.drop (off+ds.length)).toArray,iv,.inl ?_,r.uX Kq (il J g _),hK O J _ r (setRow_heap J g G.toArray _ tg _ hc) (il _ _ _) (by simp)⟩;have hmin:Nat.min ds.length k=ds.length:=Nat.min_eq_left hds;have Kv:(Builtin.copy_ #[t,t] ty #[.slice (some ⟨g,off,none⟩) k c,.slice ay ds.length m]).run P J= .ok (goInt ds.length) (J.setRow g (G.take off++ds++G.drop (off+ds.length)).toArray):=by
  cases ay with
  |some ad=>
   have:=run_copy_row (P:=P) J t t ty e g off k c ad ds.length m G.toArray tg ds hu (by simp[N,LL]) hc (by rw[hmin]) (fun j v hv=>by
    obtain⟨ad',I,K⟩:=LS j v hv;injection I with I
    rw[I];exact K) (by simpa using Lv) V
   simpa using this
  |none=>
   have hd:ds=[]:=by
    cases ds with
    |nil=>rfl
    |cons u r=>obtain⟨ad',I,_⟩:=LS 0 u rfl;cases I
   subst hd;have NB:=setRow_self J g G.toArray tg (0,0) hc;simp[Builtin.copy_,run_underlying hu,Builtin.lenOf,Builtin.firstCells,sizeOf,typeInfo,N,storeCells,NB]
 simp[execOp,resolve,invoke,builtin,e1,e2,Kv]
end
section
variable{P:Program}{τ:l9}{B nx:Nat}{l:Env}{H:Hp}{iv:Iv}{w J:World}{O:Nat->cd}
end
section
variable{P:Program}{τ:l9}{B nx:Nat}{l:Env}{H:Hp}{iv:Iv}{w J:World}{O:Nat->cd}
end
theorem nK:∀(nv:List Value) (w:World) (b off:Nat) (cur:Array Value) (e:TypeId),w.heap[b]? =some (.cells cur e (0,0))->off+nv.length<=cur.size->
  (w.setCells b off nv).heap[b]? =some (.cells (cur.toList.take off++nv++cur.toList.drop (off+nv.length)).toArray e (0,0))
 |[],w,b,off,cur,e,h,_=>by simpa [World.setCells]using h
 |v::r,w,b,off,cur,e,h,hl=>by
  simp only[World.setCells]
  have NG:off+(r.length+1)<=cur.size:=by simpa using hl
  have V:(w.setCell ⟨b,off,none⟩ v).heap[b]? =some (.cells (cur.setIfInBounds off v) e (0,0)):=by
   simp[World.setCell,Array.getElem?_modify,h]
  rw[nK r _ b (off+1) _ e V (by simp;omega)];congr 3;have Lo:cur.toList.length=cur.size:=by simp
  apply bJ;intro i;have e1:(cur.setIfInBounds off v).toList=cur.toList.set off v:=by simp
  rw[e1];rcases Nat.lt_trichotomy i off with N|N|N
  ·rw[bP,bP,aJ (by simp;omega),aJ (by simp;omega),bM (by omega),bM N,aY (by omega)]
  ·subst N;rw[bP,bP,aJ (by simp;omega),aN (by simp;omega),bM (by omega),aR (by simp;omega)];have:(List.take i cur.toList).length=i:=by rw[ah];omega
   rw[this,bC];rfl
  ·have l1:(List.take (off+1) (cur.toList.set off v)).length=off+1:=by rw[ah,bH];omega
   have l2:(List.take off cur.toList).length=off:=by rw[ah];omega
   have hd:List.drop (off+1+r.length) (cur.toList.set off v)=List.drop (off+(v::r).length) cur.toList:=by
    rw[List.drop_set_of_lt (by omega),bL];congr 1;omega
   obtain⟨k,rfl⟩:∃k,i=off+1+k:=⟨i-off-1,by omega⟩
   rw[bP,bP,hd];generalize List.drop (off+(v::r).length) cur.toList=tl;have FS:(List.take (off+1) (cur.toList.set off v)++(r++tl))[off+1+k]? =(r++tl)[k]? :=by
    rw[aN (by omega),l1];congr 1;omega
   have B:(List.take off cur.toList++((v::r)++tl))[off+1+k]? =(r++tl)[k]? :=by
    rw[aN (by omega),l2,show off+1+k-off=k+1 by omega];rfl
   rw[FS,B]
theorem nL:∀(nv:List Value) (w:World) (b off:Nat) {k:Nat},k≠b->(w.setCells b off nv).heap[k]? =w.heap[k]?
 |[],_,_,_,_,_=>rfl
 |v::r,w,b,off,k,W=>by
  simp only[World.setCells]
  rw[nL r _ b (off+1) W];simp[World.setCell,Array.getElem?_modify,Ne.symm W]
theorem qM:∀(vs:List Value) (w0:World) (b o:Nat),(w0.setCells b o vs).os=w0.os/\(w0.setCells b o vs).tape=w0.tape/\(w0.setCells b o vs).output=w0.output/\(w0.setCells b o vs).heap.size=w0.heap.size
 |[],_,_,_=>⟨rfl,rfl,rfl,rfl⟩
 |v::r,w0,b,o=>by
  simp only[World.setCells]
  obtain⟨V,I,K,h4⟩:=qM r (w0.setCell ⟨b,o,none⟩ v) b (o+1);exact⟨V,I,K,by rw[h4];simp⟩
theorem nM{w:World}{Bc e n:Nat}{v:Value}{nv:List Value}{a:Option Addr}{c j:Nat}(h:w.ownsRow Bc e sz v n xs)(hv:v= .slice a n c)(hj:j<n)(PR:nv.length=sz)(hs:0<sz):
  ∃g,a=some ⟨g,0,none⟩/\(∀k,k<sz->(w.cell? (Addr.add ⟨g,j*sz,none⟩ k)).isSome=true/\w.frozen? (Addr.add ⟨g,j*sz,none⟩ k)=false)/\
   (setCells w ⟨g,j*sz,none⟩ nv).ownsRow Bc e sz v n (xs.take (j*sz)++nv++xs.drop (j*sz+sz))/\w.grownBy (setCells w ⟨g,j*sz,none⟩ nv) (some g)/\(setCells w ⟨g,j*sz,none⟩ nv).heap.size=w.heap.size:=by
 rcases h.2 with⟨_,h0⟩|⟨g,cap,cur,Nb,hb,R,PZ,Og,Le,htk⟩
 ·omega
 rw[hv]at Nb;injection Nb with V I K;subst V K;have hjs:j*sz+sz<=n*sz:=by
  have:=Nat.mul_le_mul_right sz (show j+1<=n from hj);rw[Nat.add_mul,Nat.one_mul]at this;exact this
 have hns:n*sz<=c*sz:=Nat.mul_le_mul_right sz PZ;obtain⟨f1,f2,f3,f4⟩:=qM nv w g (j*sz);have OO:=nK nv w g (j*sz) cur e R (by omega);refine⟨g,rfl,fun k W=>?_,?_,?_,?_⟩
 ·rw[cZ];refine⟨?_,?_⟩
  ·rw[cell_of (g:=g) (G:=cur.toList) (by simpa using R),aA (by simp;omega)];rfl
  ·simp[World.frozen?,R]
 ·rw[jM];refine⟨?_,.inr ⟨g,c,_,hv,hb,OO,PZ,Og,?_,?_⟩⟩
  ·simp only[List.length_append,ah,List.length_drop,PR,h.1];omega
  ·simp only[List.size_toArray,List.length_append,ah,List.length_drop,PR,Array.length_toList];omega
  ·subst htk;have Lo:cur.toList.length=cur.size:=by simp
   have ha:List.drop (j*sz+sz) (List.take (n*sz) cur.toList)=(List.drop (j*sz+sz) cur.toList).take (n*sz-(j*sz+sz)):=by rw[List.drop_take]
   rw[ha,List.take_take,Nat.min_eq_left (by omega)];show List.take (n*sz) (_++nv++_)=_;rw[PR,List.take_append,List.take_of_length_le (by simp;omega)];congr 2;simp only[List.length_append,ah,PR]
   omega
 ·rw[jM];exact⟨f1,f2,f3,by rw[f4];exact aE _,fun k W Kq=>nL nv w g _ (fun e=>Kq (by rw[e]))⟩
 ·rw[jM];exact f4
structure FJ(P:Program)(kt:TypeId)(KS:Value->Prop):Prop where
 desc:∃fs,P.underlying kt=some (.struct fs)
 check:∀(w:World) (em:Bool) (v:Value),KS v->(Instr.checkKey em 10000 kt v).run P w= .ok () w
 eq:∀(w:World) (a b:Value),KS a->KS b->∃c,(Op.equal kt a b).run P w= .ok c w/\(c=true↔a=b)
def AO(w:World)(g:Nat)(ks:List Value):Prop:=∃es clock,w.heap[g]? =some (.map es clock)/\es.toList.map (·.key)=ks/\∀e∈es.toList,e.val= .bool true
section
variable{P:Program}{τ:l9}{B n nx:Nat}{l:Env}{H:Hp}{iv:Iv}{w J Y:World}{O:Nat->cd}{a:Act}
theorem AO.br(h:AO w g ks)(W:Y.heap[g]? =w.heap[g]?):AO Y g ks:=by
 obtain⟨es,c,V,I⟩:=h;exact⟨es,c,by rw[W];exact V,I⟩
theorem pS(hb:w.heap[r]? =some (.map es clock)):(getObj r).run P w= .ok (.map es clock) w:=by simp[getObj,Sem.run,hb]
theorem Bq(o:Obj)(hb:w.heap[r]? =some (.map es clock)):(setObj r o).run P w= .ok () {w with heap:=w.heap.setIfInBounds r o}:=by simp[setObj,Sem.run,hb]
theorem mj{kt:TypeId}{KS:Value->Prop}(G9:FJ P kt KS){x:Value}(F:KS x)(w:World):∀(es:List MapEntry) (i:Nat),(∀e∈es,KS e.key)->
  ((Instr.findAsking kt x es i).run P w= .ok none w/\∀e∈es,e.key≠x)\/∃j e,(Instr.findAsking kt x es i).run P w= .ok (some (j,e.val)) w/\e∈es/\e.key=x
 |[],i,_=>.inl ⟨rfl,fun e Z=>by cases Z⟩
 |e::es,i,h=>by
  obtain⟨c,hc,hiff⟩:=G9.eq w x e.key F (h e aH)
  cases c with
  |true=>exact .inr ⟨i,e,by simp[Instr.findAsking,hc],aH,(hiff.1 rfl).symm⟩
  |false=>
   have Kq:e.key≠x:=fun Z=>by have:=hiff.2 Z.symm;cases this
   rcases mj G9 F w es (i+1) (fun e Z=>h e (aB _ Z))with⟨V,I⟩|⟨j,e',V,I,K⟩
   ·refine .inl ⟨by simp[Instr.findAsking,hc,V],fun e' Z=>?_⟩;rcases List.mem_cons.1 Z with rfl|Z
    ·exact Kq
    ·exact I e' Z
   ·exact .inr ⟨j,e',by simp[Instr.findAsking,hc,V],aB _ I,K⟩
theorem qN{kt:TypeId}(G9:FJ P kt KS){x:Value}(F:KS x)(w:World)(es:List MapEntry)(h:∀e∈es,KS e.key):
  ((Instr.findKey kt x es).run P w= .ok none w/\∀e∈es,e.key≠x)\/∃j e,(Instr.findKey kt x es).run P w= .ok (some (j,e.val)) w/\e∈es/\e.key=x:=by
 obtain⟨fs,Nx⟩:=G9.desc
 cases es with
 |nil=>exact .inl ⟨by simp[Instr.findKey,run_underlying Nx,Instr.findNow],fun e Z=>by cases Z⟩
 |cons e es=>
  have hs:Instr.findNow (.struct fs) x (e::es) 0=none:=by
   unfold Instr.findNow
   cases x<;>cases e.key<;>rfl
  have:=mj G9 F w (e::es) 0 h;rcases this with⟨V,I⟩|⟨j,e',V,I,K⟩
  ·exact .inl ⟨by simp[Instr.findKey,run_underlying Nx,hs,V],I⟩
  ·exact .inr ⟨j,e',by simp[Instr.findKey,run_underlying Nx,hs,V],I,K⟩
theorem s9{G9:SV->Hp->Nat->Iv->World->Prop}
  (hK:∀O J Y,Rel H nx iv B w O J->AO Y J.heap.size []->J.grownBy Y none->Y.heap.size=J.heap.size+1->G9 (.o (.v (.map (some J.heap.size)))) H nx ((J.heap.size,J.heap.size+1)::iv) Y):
  tv P B ⟨dst,.makeMap t none,ty,pos,after,guard⟩ l H nx iv w G9:=by
 refine⟨fun O J ev' r MV=>?_⟩;have hp:(J.alloc (.map #[] 0)).heap=J.heap.push (.map #[] 0):=rfl;have R:J.grownBy (J.alloc (.map #[] 0)) none:=⟨rfl,rfl,rfl,by rw[hp,Array.size_push];omega,fun k W _=>by rw[hp,Array.getElem?_push,aF (Nat.ne_of_lt W)]⟩
 have LL:(J.alloc (.map #[] 0)).heap.size=J.heap.size+1:=by rw[hp,Array.size_push]
 refine⟨.map (some J.heap.size),J.alloc (.map #[] 0),(J.heap.size,J.heap.size+1)::iv,.inl ?_,r.AK (by omega) (fun id b hb A=>R.block _ (r.low id b hb A).2 (by simp)) ?_,
  hK O J _ r ⟨#[],0,by rw[hp];simp,rfl,by simp⟩ R LL⟩
 ·simp[execOp,Instr.makeMap]
 ·intro lo N hm;rcases List.mem_cons.1 hm with e|hm
  ·injection e with e1 e2;subst e1 e2;exact⟨by omega,fun id b hb A h=>by have:=(r.low id b hb A).2;omega⟩
  ·exact⟨by have:=r.oR lo N hm;have:=r.size;omega,fun id b hb A=>r.ie lo N hm id b hb A⟩
theorem uZ{kt et:Nat}{m x:Operand}{G9:SV->Hp->Nat->Iv->World->Prop}(Q:FJ P kt KS){vx:SV}
  (ht:P.underlying t=some (.map kt et)) (hz:∀w,(zeroValue et).run P w= .ok (.bool false) w) (hm:ev l m=some (.o (.v (.map (some g))))) (F:ev l x=some vx) (Pa:∀O,vx.den O=key) (hks:KS key) (NS:∀k∈ks,KS k)
  (R:∀O J,Rel H nx iv B w O J->AO J g ks)
  (hK:∀O J b,Rel H nx iv B w O J->(b=true↔key∈ks)->G9 (.o (.v (.bool b))) H nx iv J):
  tv P B ⟨dst,.lookup t m x false,ty,pos,after,guard⟩ l H nx iv w G9:=by
 refine⟨fun O J ev' r MV=>?_⟩;obtain⟨es,clock,V,I,K⟩:=R O J r;have e1:ev' m= .map (some g):=MV m _ hm;have e2:ev' x=key:=by rw[MV x _ F,Pa]
 have hes:∀e∈es.toList,KS e.key:=fun e Z=>NS _ (by rw[<-I];exact aT.2 ⟨e,Z,rfl⟩);have hck:=Q.check J es.isEmpty key hks;rcases qN Q hks J es.toList hes with⟨f1,f2⟩|⟨j,e,f1,f2,f3⟩
 ·refine⟨.bool false,J,iv,.inl ?_,r.here,hK O J false r ⟨(fun h=>by cases h),fun h=>?_⟩⟩
  ·simp[execOp,Instr.lookup,e1,e2,run_underlying ht,pS V,hck,f1,hz]
  ·rw[<-I]at h;obtain⟨e,Z,W⟩:=aT.1 h;exact absurd W (f2 e Z)
 ·refine⟨.bool true,J,iv,.inl ?_,r.here,hK O J true r ⟨fun _=>by rw[<-I];exact aT.2 ⟨e,f2,f3⟩,fun _=>rfl⟩⟩;have:=K e f2;simp[execOp,Instr.lookup,e1,e2,run_underlying ht,pS V,hck,f1,this]
theorem pA{kt et:Nat}{m x:Operand}{G9:SV->Hp->Nat->Iv->World->Prop}(Q:FJ P kt KS){vx:SV}
  (ht:P.underlying t=some (.map kt et)) (hm:ev l m=some (.o (.v (.map (some g))))) (F:ev l x=some vx) (Pa:∀O,vx.den O=key) (hy:ev l y=some (.o (.v (.bool true)))) (hks:KS key) (NS:∀k∈ks,KS k) (Pb:key∉ks)
  (R:∀O J,Rel H nx iv B w O J->AO J g ks/\∀id b,cO H id=some b->(O id).nil=false->(O id).g≠g)
  (hK:∀O J Y,Rel H nx iv B w O J->AO Y g (ks++[key])->J.grownBy Y (some g)->Y.heap.size=J.heap.size->G9 (.o (.v undef)) H nx iv Y):
  tv P B ⟨dst,.mapUpdate t m x y,ty,pos,after,guard⟩ l H nx iv w G9:=by
 refine⟨fun O J ev' r MV=>?_⟩;obtain⟨⟨es,clock,V,I,K⟩,Kq⟩:=R O J r;have e1:ev' m= .map (some g):=MV m _ hm;have e2:ev' x=key:=by rw[MV x _ F,Pa]
 have e3:ev' y= .bool true:=MV y _ hy;have hes:∀e∈es.toList,KS e.key:=fun e Z=>NS _ (by rw[<-I];exact aT.2 ⟨e,Z,rfl⟩);have hck:=Q.check J false key hks;have LG:g<J.heap.size:=(aW.1 V).1;rcases qN Q hks J es.toList hes with⟨f1,f2⟩|⟨j,e,f1,f2,f3⟩
 ·let ob:Obj:=.map (es.push {key:=key,val:=.bool true,born:=clock}) (clock+1)
  have Ll:J.grownBy {J with heap:=J.heap.setIfInBounds g ob} (some g):=⟨rfl,rfl,rfl,by simp,fun k _ W=>by
   rw[Array.getElem?_setIfInBounds_ne]
   exact fun e=>W (by rw[e])⟩
  refine⟨undef,{J with heap:=J.heap.setIfInBounds g ob},iv,.inr ⟨?_,rfl⟩,r.uX Kq Ll,hK O J _ r ⟨es.push {key:=key,val:=.bool true,born:=clock},clock+1,by simp[LG,ob],?_,?_⟩ Ll (by simp)⟩
  ·simp[execOp,Instr.mapUpdate,e1,e2,e3,run_underlying ht,pS V,Bq _ V,hck,f1,ob]
  ·simp[I]
  ·intro e Z;simp at Z;rcases Z with Z|rfl
   ·exact K e (by simpa using Z)
   ·rfl
 ·exact absurd (by rw[<-I];exact aT.2 ⟨e,f2,f3⟩) Pb
theorem Br{len e:Nat}{x:Operand}{G9:SV->Hp->Nat->Iv->World->Prop}{vx:SV}{G:Array Value}{u:Value}
  (hu:P.underlying t=some (.array len e)) (hs:∀w,(sizeOf e).run P w= .ok 1 w) (hp:∀(w:World) (j:Nat) v,G[j]? =some v->(part e G j).run P w= .ok v w) (F:ev l x=some vx) (Pc:∀O,vx.den O= .agg G) (N:ev l i=some (.o (.v (.int k m)))) (hm:0<=m/\m<len) (hc:G[m.toNat]? =some u)
  (hK:∀O J,Rel H nx iv B w O J->G9 (.o (.v u)) H nx iv J):tv P B ⟨dst,.index t x i,ty,pos,after,guard⟩ l H nx iv w G9:=by
 refine⟨fun O J ev' r MV=>⟨u,J,iv,.inl ?_,r.here,hK O J r⟩⟩;have e1:ev' x= .agg G:=by rw[MV x _ F,Pc]
 have e2:ev' i= .int k m:=MV i _ N;have e3:=hp J _ u hc;simp[execOp,e1,e2,Instr.index,asIntOf,run_underlying hu,hm.1,hm.2,hs,e3]
theorem EC(hτ:ey P τ){id2 off k c:Nat}{e2:TypeId}{ad x:Operand}{G9:SV->Hp->Nat->Iv->World->Prop}
  (ha:ev l ad=some (.o (.p id off))) (F:ev l x=some (.o (.s id2 0 k c))) (LK:id<nx) (Qu:cO H id2=some (.arr e2 cs2)) (hs:rS H tH) (ho:yx id2 tH=true)
  (hK:∀O J,Rel H nx iv B w O J->zA τ B t (.o (.p id off)) (.o (.v (.slice (some ⟨(O id2).g,0,none⟩) k c))) tH nx (((O id2).g,(O id2).g+1)::iv) J (fun H' Y=>G9 (.o (.v undef)) H' nx (((O id2).g,(O id2).g+1)::iv) Y)):
  KE P B ⟨dst,.store t ad x,ty,pos,after,guard⟩ l H nx iv w G9:=by
 refine⟨fun O J ev' r MV=>?_⟩;have e1:ev' ad=(SV.o (.p id off)).den O:=MV ad _ ha;have e2:ev' x= .slice (some ⟨(O id2).g,0,none⟩) k c:=MV x _ F;have r2:=r.free Qu (by simp) (r.fits Qu).1 hs ho;have sat:Sat 0 [] tH nx (((O id2).g,(O id2).g+1)::iv) B J O ⟨#[],[]⟩ J:=⟨r2,rfl,rfl,(fun u v hv=>by cases hv),fun u v hv=>by cases hv⟩
 obtain⟨H',Y,w3,W,LP,Kv⟩:=sd (addr:=.o (.p id off)) (x:=.o (.v (.slice (some ⟨(O id2).g,0,none⟩) k c))) hτ sat (by exact LK) (by simp[SV.sc,At.sc]) (hK O J r);refine⟨Y,w3,H',_,?_,LP,W⟩;have Kv:(Instr.storeAt t ((SV.o (.p id off)).den O) (.slice (some ⟨(O id2).g,0,none⟩) k c)).run P J= .ok () w3:=Kv;simp[execOp,e1,e2,Kv]
def ot(v:cd)(iv:Iv):Iv:=match v.nil with
 |true=>iv
 |false=>(v.g,v.g+1)::iv
theorem ED{v:cd}{iv:Iv}:∀p,p∈iv->p∈ot v iv:=fun p hp=>by
 unfold ot
 cases v.nil with
 |true=>exact hp
 |false=>exact aB _ hp
theorem FK{v:cd}{iv:Iv}(h:v.nil=false):(v.g,v.g+1)∈ot v iv:=by
 unfold ot;rw[h];exact aH
theorem Rel.drop{H':Hp}{b:ix}(r:Rel H nx iv B w O J)(LK:cO H id=some b)(hd:b≠ .dead)(hs:rS H H')(ho:yx id H'=true):Rel H' nx (ot (O id) iv) B J O J:=by
 have V:Rel H' nx iv B J O J:=Rel.mk' rfl rfl rfl (aE _) (by have:=r.base;have:=r.size;omega) (fun lo N hm=>by have:=r.oR lo N hm;have:=r.size;omega) (fun j c h=>r.keys j c (hs.get h))
  (fun j c h=>r.fits (hs.get h)) (fun j c h=>r.scopd (hs.get h)) (fun j k c e h h'=>r.inj j k c e (hs.get h) (hs.get h')) (fun j c h=>r.low j c (hs.get h)) (fun _ _ _=>rfl) (fun lo N hm j c h=>r.ie lo N hm j c (hs.get h))
 unfold ot
 cases A:(O id).nil with
 |false=>exact r.free LK hd A hs ho
 |true=>exact V
theorem Bt(hτ:ey P τ){id3 id2 c1 t3:Nat}{c:At}{b2:ix}{x:Operand}{vx:SV}{G9:SV->Hp->Nat->Iv->World->Prop}
  (F:ev l x=some vx) (hy:ev l y=some (.o (.s id3 0 1 c1))) (Qv:cO H id3=some (.box t3 [c])) (Qu:cO H id2=some b2) (LZ:b2≠ .dead) (hs:rS H tH) (ho3:yx id3 tH=true) (Pe:yx id2 tH=true)
  (hK:∀O J,Rel H nx iv B w O J->Rel tH nx (((O id3).g,(O id3).g+1)::ot (O id2) iv) B J O J->J.heap[(O id3).g]? =some (.cells #[c.den O] t3 (0,0))->
   tx τ B t vx (.o (.v (.slice (some ⟨(O id3).g,0,none⟩) 1 c1))) tH nx (((O id3).g,(O id3).g+1)::ot (O id2) iv) J (fun v H' Ku=>G9 v H' Ku (((O id3).g,(O id3).g+1)::ot (O id2) iv) J)):
  Kb P B ⟨dst,.call ⟨.builtin .append,⟨[x,y]⟩,⟨[t,t]⟩⟩,ty,pos,after,guard⟩ l H nx iv w G9:=by
 refine⟨fun O J ev' r MV=>?_⟩;have e1:ev' x=vx.den O:=MV x _ F;have e2:ev' y= .slice (some ⟨(O id3).g,0,none⟩) 1 c1:=MV y _ hy;have hn3:=(r.fits Qv).1;have r1:=r.drop Qu LZ hs Pe;have r2:Rel tH nx (((O id3).g,(O id3).g+1)::ot (O id2) iv) B J O J:=by
  refine r1.more (by have:=(r.low id3 _ Qv hn3).2;omega) fun j cc hj Re Z=>?_;obtain⟨I,K⟩:=yx.get ho3 hj;exact I (r.inj j id3 cc _ (hs.get hj) Qv K (by simp) Re hn3 (by omega))
 have sat:Sat 0 [] tH nx (((O id3).g,(O id3).g+1)::ot (O id2) iv) B J O ⟨#[],[]⟩ J:=⟨r2,rfl,rfl,(fun u v hv=>by cases hv),fun u v hv=>by cases hv⟩
 obtain⟨rr,H',Ku,GE,Y,W,LP,hr,MA,GT,Kv⟩:=qO (ty:=ty) hτ sat (hK O J r r2 (by have:=r.box id3 _ _ Qv;simpa using this));refine⟨rr,H',Ku,_,GE,J,Y,?_,LP,hr,MA,GT,W⟩;have Kv:(Builtin.append_ #[t,t] ty #[vx.den O,.slice (some ⟨(O id3).g,0,none⟩) 1 c1]).run P J= .ok (rr.den GE) Y:=Kv;simp[execOp,resolve,invoke,builtin,e1,e2,Kv]
end
end Go.Sx
