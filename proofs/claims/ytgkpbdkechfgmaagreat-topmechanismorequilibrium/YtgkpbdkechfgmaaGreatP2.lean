/- Texts Sx12 to Sx23: lemmas, each with its conditions. -/
import Derived.Laws.BytesString
import Derived.Test.YtgkpbdkechfgmaaGreatP1
namespace Go.Sx
open Go
variable{args:(Nat->dw)->Array Value}{K Q0 next:Act->World->Prop}{R R':Ending->World->Prop}{k:Env->Prop}{l:List (Nat×TI)}{B g:Nat}{O:Nat->dw}{d:Option Tmp}{P:Program}
section
variable{P:Program}{τ:nF}{ops:Array Oper}{B n nx:Nat}{l:Env}{H:Hp}{iv:Iv}{w w':World}{O:Nat->dw}{a:Act}
variable{Pd:List Nat}{E:List (Nat×Nat)}{lx la:Array Bool}{Q:Exit->Act->World->Prop}{md:Region.Mode}
theorem EY(hr:Region.ready md ops la=[])(h:Q .normal a w):∀fuel,vI P md ops Q fuel la a w
 |0=>⟨hr,h⟩
 |_+1=>⟨fun _=>h,by rw[hr];simp⟩
theorem yl(sat:Sat n l H nx iv B w O a w'){K:SV->Hp->Iv->World->Prop}{o:Oper}
  (h:EZ P B g args H nx iv w K) (Tt:(execOp a.eval o).run P w'=(callFunc g (args O)).run P w')
  (hn:∀v w2,K (.o (.v v)) H ((w'.heap.size,w2.heap.size)::iv) w2->Ext w' w2->Sat n l H nx ((w'.heap.size,w2.heap.size)::iv) B w2 O a w2->next (a.put o.dst v) w2):o.wp P a w' next Q:=by
 have hc:=h.h O w' sat.rel;unfold Oper.wp;rw[Tt,hc.e.h];refine Calls.mono hc.c fun e w2 he=>?_;obtain⟨v,rfl,S8,hK⟩:=he;refine hn v w2 hK S8 ?_;have r:=(sat.rel.ext S8).here;refine sat.next (ρ':=O) ?_ (Nat.le_refl _) (fun _ _=>rfl)
 refine Rel.mk' r.os r.tape r.output r.size r.base ?_ r.keys (fun id b hb=>r.fits hb) (fun id b hb=>r.scopd hb) r.inj r.low r.vF ?_
 ·intro lo hi hm;rcases List.mem_cons.1 hm with hm|hm
  ·injection hm with h1 h2;omega
  ·exact r.pC lo hi hm
 ·intro lo hi hm id b hb Oo;rcases List.mem_cons.1 hm with hm|hm
  ·injection hm with h1 h2;have:=(sat.rel.low id b hb Oo).2;omega
  ·exact r.jb lo hi hm id b hb Oo
theorem ym{o:Oper}{K:SV->Hp->Nat->Iv->World->Prop}(h:yh true P τ B o l H nx iv w K)(sat:Sat n l H nx iv B w O a w')(hr:vG o.op=false)(ha:M7 o.op=false)(hh:rV o=false)
  (hn:∀v w2,K (.o (.v v)) H nx ((w'.heap.size,w2.heap.size)::iv) w2->Ext w' w2->Sat n l H nx ((w'.heap.size,w2.heap.size)::iv) B w2 O a w2->next (a.put o.dst v) w2):o.wp P a w' next Q:=by
 obtain⟨dst,op,ty,pos,after,guard⟩:=o;simp only at hr ha;have:∃f args x,op= .call ⟨.value f,args,x⟩:=by
  simp only[rV,hr,ha,Bool.or_self,Bool.false_or,Bool.not_eq_false']at hh;split at hh
  ·exact⟨_,_,_,rfl⟩
  ·cases hh
 obtain⟨f,⟨args⟩,x,rfl⟩:=this;simp only[yh]at h;obtain⟨vf,h1,hf,PE⟩:=da sat h;obtain⟨vs,h2,RV,hss⟩:=rB sat h1;have SX:(args.toArray).map a.eval=oB O vs:=by
  apply Array.ext';simp[oB,RV]
 split at h2
 ·rename_i g first caps
  refine yl sat h2 ?_ (fun v w2 hK he hs=>hn v w2 hK he hs);simp[execOp,resolve,hf,SV.den,At.den,Deferred.ofValue,invoke,SX]
 ·rename_i g ids;refine yl sat h2 ?_ (fun v w2 hK he hs=>hn v w2 hK he hs);simp[execOp,resolve,hf,SV.den,At.den,Deferred.ofValue,invoke,SX]
 ·exact h2.elim
def QN(Q0:Act->World->Prop):Exit->Act->World->Prop:=fun e a w=>e= .normal∧Q0 a w
theorem yn(sat:Sat n l H nx iv B w O a w'){o:Oper}{yes no:Env->Prop}(h:tO ops.toList o.guard l yes no)(hg:o.guard=none∨Pd=[]):
  (Region.wanted o (yielded ops a.tmps)=true∧∃l',yes l'∧Sat n l' H nx iv B w O a w'∧(Pd≠[]->l'=l))∨
  (Region.wanted o (yielded ops a.tmps)=false∧Pd=[]∧∃l',no l'∧Sat n l' H nx iv B w O a w'):=by
 by_cases Sq:o.guard=none
 ·rw[Sq]at h;exact .inl ⟨by simp[Region.wanted,Sq],l,h,sat,fun _=>rfl⟩
 ·have Qp:=hg.resolve_left Sq;rcases ky sat h with⟨h1,l',h2,h3⟩|⟨h1,l',h2,h3⟩
  ·exact .inl ⟨h1,l',h2,h3,fun OY=>absurd Qp OY⟩
  ·exact .inr ⟨h1,Qp,l',h2,h3⟩
theorem lK(sat:Sat n l H nx iv B w O a w'){v:SV}(h:EX d v l k)(hd:∀t,d=some t->t<n)(hv:v.sc nx):
  ∃l',k l'∧Sat n l' H nx iv B w O (a.put d (v.den O)) w'∧∀t,fu l t=none->d≠some t->fu l' t=none:=by
 unfold EX at h;split at h
 ·rename_i t;exact⟨_,h,sat.put (hd t rfl) hv,fun u hu OY=>by rw[fA,aJ (fun e=>OY (by rw[e]))];exact hu⟩
 ·exact⟨l,h,sat,fun t ht _=>ht⟩
theorem p9{Q:Exit->Act->World->Prop}{i:Nat}{o:Oper}(hi:ops[i]? =some o)
  (h:(Region.wanted o (yielded ops a.tmps)=true∧o.wp P a w' K Q)∨(Region.wanted o (yielded ops a.tmps)=false∧K (a.put o.dst undef) w')):wpOp P ops Q i K a w':=by
 unfold wpOp;simp only[hi]
 rcases h with⟨h1,h2⟩|⟨h1,h2⟩
 ·rw[if_pos h1];exact .inl h2
 ·rw[aJ (by simp[h1])];exact h2
theorem KG(hτ:fk P τ)(OZ:∀(j:Nat) o,ops[j]? =some o->∀d,o.dst=some d->d<n)(PU:∀(j:Nat) (o:Oper) cs b,ops[j]? =some o->o.op≠ .select cs b)
  {K:KT} (hQ:∀l' H' Oe iv' w2 ρ' a' w3,K l' H' Oe iv' w2->Sat n l' H' Oe iv' B w2 ρ' a' w3->Q0 a' w3):
  ∀(m fuel:Nat) (π:List It) (lx la:Array Bool) (Pd:List Nat) (E:List (Nat×Nat)) (l:Env) (H:Hp) (nx:Nat) (iv:Iv) (w:World) (O:Nat->dw) (a:Act) (w':World),
   fuel+π.length=m->OL la<=fuel->pZ ops π lx Pd=true->KB P τ B ops.toList π l H nx iv w K->M8 P ops n B Pd E lx la l H nx iv w O a w'->vI P .any ops (QN Q0) fuel la a w':=by
 intro m
 induction m using Nat.strongRecOn with
 |_ m ih=>
 intro fuel π lx la Pd E l H nx iv w O a w' hm XE hc h s
 match π with
 |[]=>
  simp only[pZ,bC,List.isEmpty_iff]at hc;obtain⟨hr,rfl⟩:=hc;refine EY ?_ ⟨rfl,hQ _ _ _ _ _ _ _ _ h s.sat⟩ fuel;refine List.eq_nil_iff_forall_not_mem.2 fun j hj=>?_;obtain⟨h1,o,h2,h3⟩:=ek.1 hj;have:j∈Region.ready .any ops lx:=by
   refine ek.2 ⟨?_,o,h2,fun e he hb=>?_⟩
   ·have PF:j<lx.size:=by rw[s.M9,<-s.Me];exact(bA.1 h1).1
    rw[Array.getElem?_eq_getElem PF]
    cases hb:lx[j]with
    |false=>rfl
    |true=>
     have:=(s.la j).2 (.inl (by rw[Array.getElem?_eq_getElem PF,hb]));rw[h1]at this;cases this
   ·rcases(s.la e.on).1 (h3 e he hb)with h4|⟨g,h4⟩
    ·exact h4
    ·exact absurd (s.Ig _ _ h4) (by simp)
  rw[hr]at this
  cases this
 | .p i::r=>
  obtain⟨o,ho,h1⟩:=iH h;rw[bG]at ho;simp only[pZ,ho,bC]at hc;obtain⟨⟨⟨⟨⟨⟨c1,c2⟩,c3⟩,c4⟩,c5⟩,c6⟩,c7⟩:=hc
  cases hd:o.dst with
  |none=>rw[hd]at c3;cases c3
  |some d=>
  rw[hd]at c3;obtain⟨b,v,mk,obj,hK,-,-,-,-,-,WJ⟩:=oC hτ h1 s.sat c1;rw[hd]at hK;obtain⟨l',hl,RK,QA⟩:=sO hK;have hmem:∀j∈Pd,j≠i:=fun j hj=>by
   have:=List.all_eq_true.1 c5 j hj;simpa only[Bool.not_eq_true',nH]using this
  have c6':∀j∈Pd,∀oj,ops[j]? =some oj->o.apart ops oj=true∧oj.apart ops o=true:=fun j hj oj RU=>by
   have:=List.all_eq_true.1 c6 j hj;simpa only[Ic,RU,bC]using this
  have hlxi:lx[i]? =some false:=by
   have:lx.getD i true=false:=by simpa using c4
   rw[bB]at this
   cases hx:lx[i]? with
   |none=>rw[hx]at this;cases this
   |some b=>rw[hx]at this;simp at this;rw[this]
  refine ih (fuel+r.length) (by simp only[List.length_cons]at hm;omega) fuel r lx la (i::Pd) E l' H nx iv w O a w' rfl XE c7 hl ?_;refine⟨⟨s.sat.rel,s.sat.size,s.sat.defers,fun t v hv=>s.sat.env t v (QA t v hv).2,fun t v hv=>s.sat.sc t v (QA t v hv).2⟩,s.M9,s.Me,s.la,fun j g hg=>aC _ (s.Ig j g hg),fun j hj=>?_,s.eg,s.inj,fun j hj j' hj' OY oj oj' h3 h4=>?_⟩
  ·rcases List.mem_cons.1 hj with rfl|hj
   ·refine⟨hlxi,o,d,mk,obj,ho,c1,by simpa using c2,⟨hd,by simpa using c3⟩,WJ,RK,fun g hg=>absurd (s.Ig _ _ hg) (fun Ra=>hmem _ Ra rfl)⟩
   ·obtain⟨h0,oj,dj,mkj,objj,g1,g2,g3,g4,g5,g6,g7⟩:=s.pd j hj;exact⟨h0,oj,dj,mkj,objj,g1,g2,g3,g4,g5,KE QA g6,g7⟩
  ·rcases List.mem_cons.1 hj with e1|k1<;>rcases List.mem_cons.1 hj' with e2|k2
   ·exact absurd (e1.trans e2.symm) OY
   ·rw[e1,ho]at h3;injection h3 with h3;subst h3;exact(c6' j' k2 oj' h4).1
   ·rw[e2,ho]at h4;injection h4 with h4;subst h4;exact(c6' j k1 oj h3).2
   ·exact s.ap j k1 j' k2 OY oj oj' h3 h4
 | .x i::r=>
  obtain⟨o,ho,h1⟩:=iH h;unfold iW at h1;rw[bG]at ho;simp only[pZ,ho,bC]at hc;obtain⟨⟨⟨⟨c1,c2⟩,c3⟩,c4⟩,c5⟩:=hc;have c2:i∈Region.ready .any ops lx:=by simpa using c2
  have c1:o.guard=none∨Pd=[]:=by simpa using c1
  have RY:∀j∈Pd,j≠i->∀oj,ops[j]? =some oj->o.apart ops oj=true:=fun j hj PZ oj RU=>by
   have:=List.all_eq_true.1 c3 j hj;simpa only[Ic,RU,Bool.or_eq_true,nH.2 PZ,Bool.false_eq_true,false_or]using this
  obtain⟨PO,o',SY,hwait⟩:=ek.1 c2;rw[ho]at SY;injection SY with SY;subst SY;simp only[List.length_cons]at hm;have Vu:=OZ i o ho;by_cases hE:∃g,(i,g)∈E
  ·
   obtain⟨g,hg⟩:=hE;obtain⟨h0,o',d,mk',obj',g1,g2,g3,g4,g5,g6,g7⟩:=s.pd i (s.Ig i g hg);rw[ho]at g1;injection g1 with g1;subst g1;rw[g3,GX g2]at h1;have h1:yh true P τ B o l H nx iv w fun v H' Oe iv' w'=>EX o.dst v l fun l'=>KB P τ B ops.toList r l' H' Oe iv' w' K:=h1;obtain⟨b,v,mk,obj,hK,Ow,hb,hv,WI,QR,WJ⟩:=oC hτ h1 s.sat g2;obtain⟨l',hl,s'⟩:=s.KF ho hg hb hv WI QR WJ hK Vu RY;exact ih (fuel+r.length) (by omega) fuel r _ _ _ _ _ _ _ _ _ _ _ _ rfl XE c5 hl s'
  ·have WH:∀g,(i,g)∉E:=fun g hg=>hE ⟨g,hg⟩;have QM:la[i]? =some false:=by
    have PF:i<la.size:=by rw[s.Me,<-s.M9];exact(bA.1 PO).1
    rw[Array.getElem?_eq_getElem PF]
    cases hb:la[i]with
    |false=>rfl
    |true=>
     rcases(s.la i).1 (by rw[Array.getElem?_eq_getElem PF,hb])with h2|h2
     ·rw[PO]at h2;cases h2
     ·exact absurd h2 hE
   have S9:i∈Region.ready .any ops la:=ek.2 ⟨QM,o,ho,fun e he hb=>(s.la e.on).2 (.inl (hwait e he hb))⟩;have SC:=kx QM;obtain⟨f,rfl⟩:∃f,fuel=f+1:=⟨fuel-1,by omega⟩
   cases hR:vG o.op with
   |true=>
    rw[hR]at c4;obtain⟨vH,Pa,QW,hb3,SZ⟩:=GU c4 s.M9;have PQ:∀j,vH j->la.getD j false=false:=fun j hj=>by
     cases hl:la.getD j false with
     |false=>rfl
     |true=>
      have hl:la[j]? =some true:=by
       rw[bB]at hl
       cases hx:la[j]? with
       |none=>rw[hx]at hl;cases hl
       |some b=>rw[hx]at hl;simp at hl;rw[hl]
      rcases(s.la j).1 hl with h4|⟨g,h4⟩
      ·have:=QW j hj;rw[bB,h4]at this;cases this
      ·exact absurd hj (hb3 j (s.Ig j g h4))
    have Q2:∀j oj,ops[j]? =some oj->j≠i->la.getD j true=false->¬vH j->o.apart ops oj=true∧(Ie o.op=true∨rV oj=false):=by
     intro j oj RU PZ SA SD;have Sa:lx.getD j true=false:=by
      rw[bB]at SA ⊢
      cases hx:lx[j]? with
      |none=>
       have:la[j]? =none:=by
        rw[Array.getElem?_eq_none_iff]at hx ⊢;rw[s.Me,<-s.M9];exact hx
       rw[this]at SA;cases SA
      |some b=>
       cases b with
       |false=>rfl
       |true=>rw[(s.la j).2 (.inl hx)]at SA;cases SA
     exact SZ j oj RU PZ Sa SD
    rcases yn s.sat h1 c1 with⟨hw,l1,h2,sat1,RK⟩|⟨hw,Qp,l1,h2,sat1⟩
    ·obtain⟨v,hK,RV,Oj⟩:=(mI hτ h2 sat1 hR).resolve_right (fun hh=>by have:=hh.1;rw[sP hR]at this;cases this);obtain⟨l2,h3,sat2,QA⟩:=lK sat1 hK Vu RV;refine tP (pu:=Ie o.op) (v:=v.den O) ho PU (fun c a w hq=>?_) vH Pa f la a w' PQ Q2 S9 (.inl ⟨hw,fun w3 he=>Oj w3 (he.imp id fun he=>sat1.rel.ext he)⟩) ?_
     ·exact absurd hq.1 (by simp)
     ·refine ih (f+r.length) (by omega) f r _ _ _ _ _ _ _ _ _ _ _ _ rfl (by omega) c5 h3 (s.step PU ho WH RY sat2 ?_ (fun _ _ _=>Ext.refl _) (fun g _ TQ SE _=>⟨TQ,SE⟩));intro j hj PZ d hd OY;have RK:=RK (by intro e;rw[e]at hj;cases hj);subst RK;exact QA d hd OY
    ·obtain⟨l2,h3,sat2,QA⟩:=lK (v:=.o (.v undef)) sat1 h2 Vu trivial;refine tP (pu:=Ie o.op) (v:=undef) ho PU (fun c a w hq=>?_) vH Pa f la a w' PQ Q2 S9 (.inr ⟨hw,rfl⟩) ?_
     ·exact absurd hq.1 (by simp)
     ·refine ih (f+r.length) (by omega) f r _ _ _ _ _ _ _ _ _ _ _ _ rfl (by omega) c5 h3 (s.step PU ho WH RY sat2 ?_ (fun _ _ _=>Ext.refl _) (fun g _ TQ SE _=>⟨TQ,SE⟩));intro j hj;rw[Qp]at hj;cases hj
   |false=>
    rw[hR]at c4;simp only[bC]at c4;obtain⟨c4,c6⟩:=c4;have hpick:∀j∈Region.ready .any ops la,j=i∨(j≠i∧j∈Pd):=by
     intro j hj;by_cases PZ:j=i
     ·exact .inl PZ
     ·refine .inr ⟨PZ,?_⟩;apply Decidable.byContradiction;intro hjP;obtain⟨k1,oj,k2,k3⟩:=ek.1 hj;have:j∈Region.ready .any ops (ES lx (Pd.filter fun j=> !Nat.beq j i)):=by
       refine ek.2 ⟨?_,oj,k2,fun e he hb=>?_⟩
       ·have PF:j<(ES lx (Pd.filter fun j=> !Nat.beq j i)).size:=by rw[EW,s.M9,<-s.Me];exact(bA.1 k1).1
        rw[Array.getElem?_eq_getElem PF]
        cases hb:(ES lx (Pd.filter fun j=> !Nat.beq j i))[j]with
        |false=>rfl
        |true=>
         rcases(yj _ lx j).1 (by rw[Array.getElem?_eq_getElem PF,hb])with h4|⟨h4,_⟩
         ·have:=(s.la j).2 (.inl h4);rw[k1]at this;cases this
         ·exact absurd (List.mem_filter.1 h4).1 hjP
       ·rw[yj];rcases(s.la e.on).1 (k3 e he hb)with h4|⟨g,h4⟩
        ·exact .inl h4
        ·refine .inr ⟨List.mem_filter.2 ⟨s.Ig _ _ h4,?_⟩,?_⟩
         ·simp only[Bool.not_eq_true',nH]
          intro e2;rw[e2]at h4;exact WH g h4
         ·have:=(s.pd _ (s.Ig _ _ h4)).1;exact(bA.1 this).1
      have:=List.all_eq_true.1 c6 j this;exact PZ (eW this)
    refine⟨fun he=>(by rw[he]at S9;cases S9),fun j hj=>?_⟩;have SA:=(ek.1 hj).1;have hunj:=kx SA;rcases hpick j hj with rfl|⟨PZ,hjP⟩
    ·
     refine p9 ho ?_;rcases yn s.sat h1 c1 with⟨hw,l1,h2,sat1,RK⟩|⟨hw,Qp,l1,h2,sat1⟩
     ·refine .inl ⟨hw,?_⟩;have hl1':∀k∈Pd,k≠j->∀(l2:Env),(∀t,fu l1 t=none->o.dst≠some t->fu l2 t=none)->∀d,fu l d=none->o.dst≠some d->fu l2 d=none:=by
       intro k hk _ l2 QA d hd OY;have RK:=RK (by intro e;rw[e]at hk;cases hk);subst RK;exact QA d hd OY
      cases hA:M7 o.op with
      |true=>
       obtain⟨b,v,mk,obj,hK,Ow,hb,hv,WI,QR,WJ⟩:=oC hτ h2 sat1 hA;have PX:Rel ((nx,b)::H) (nx+1) iv B w (gS O nx ⟨w'.heap.size,0,false⟩) (w'.alloc obj):=
        sat1.rel.push b _ rfl rfl rfl (by simp) (fun k hk=>heap_alloc_old _ _ hk) (fun _=>⟨Nat.le_refl _,by simp⟩) (QR _ _ (heap_alloc_new _ _)) hb
       obtain⟨l2,h3,sat2,QA⟩:=lK (sat1.next PX (Nat.le_succ _) (fun id PV=>gM id PV)) hK Vu hv;rw[WI]at sat2;refine ml (v:=mk w'.heap.size) (w2:=w'.alloc obj) (WJ w') ⟨fun _=>Ext.alloc _ _,?_⟩;refine ih (f+r.length) (by omega) f r _ _ _ _ _ _ _ _ _ _ _ _ rfl (by omega) c5 h3 (s.step PU ho WH RY sat2 (fun k hk TP=>hl1' k hk TP l2 QA) (fun _ _ _=>Ext.alloc _ _) (fun g hg TQ SE _=>⟨fun id c hc hn he=>?_,SE⟩));rw[dB]at hc;split at hc
       ·rename_i e;subst e;rw[eS]at he;simp only at he;omega
       ·have QC:gS O nx ⟨w'.heap.size,0,false⟩ id=O id:=(gM id (s.sat.rel.keys id c hc)).symm;rw[QC]at hn he;exact TQ id c hc hn he
      |false=>
       cases hH:rV o with
       |false=>
        rw[rf hH]at h2;refine ym h2 sat1 hR hA hH fun v w2 hK he hs=>⟨fun _=>he,?_⟩
        obtain⟨l2,h3,sat2,QA⟩:=lK (v:=.o (.v v)) hs hK Vu trivial;refine ih (f+r.length) (by omega) f r _ _ _ _ _ _ _ _ _ _ _ _ rfl (by omega) c5 h3 (s.step PU ho WH RY sat2 (fun k hk TP=>hl1' k hk TP l2 QA) (fun _ _ _=>he) (fun g hg TQ SE _=>⟨TQ,fun lo hi hm hc=>?_⟩));rcases List.mem_cons.1 hm with hm|hm
        ·injection hm with e1 e2;omega
        ·exact SE lo hi hm hc
       |true=>
        have Qp:Pd=[]:=by rw[hH]at c4;simpa using c4
        subst Qp;refine oD hτ h2 sat1 fun v H' Oe iv' w2 ρ' w3 hK sat2 hv=>⟨fun hs=>(by rw[hs o ho]at hH;cases hH),?_⟩
        obtain⟨l2,h3,sat3,QA⟩:=lK sat2 hK Vu hv;exact ih (f+r.length) (by omega) f r _ _ _ _ _ _ _ _ _ _ _ _ rfl (by omega) c5 h3 (s.step PU ho WH RY sat3 (fun k hk=>by cases hk) (fun k hk=>by cases hk) (fun g _ _ _ hk=>by obtain⟨k,hk,_⟩:=hk;cases hk))
     ·refine .inr ⟨hw,fun _=>Ext.refl _,?_⟩;subst Qp;obtain⟨l2,h3,sat2,QA⟩:=lK (v:=.o (.v undef)) sat1 h2 Vu trivial;exact ih (f+r.length) (by omega) f r _ _ _ _ _ _ _ _ _ _ _ _ rfl (by omega) c5 h3 (s.step PU ho WH RY sat2 (fun k hk=>by cases hk) (fun k hk=>by cases hk) (fun g _ _ _ hk=>by obtain⟨k,hk,_⟩:=hk;cases hk))
    ·
     refine s.early OZ PU hjP SA fun E' a2 w2 he s'=>⟨fun _=>he,?_⟩
     exact ih (f+(r.length+1)) (by omega) f (.x i::r) lx _ Pd E' l H nx iv w O a2 w2 rfl (by omega) (by simp only[pZ,ho,bC];exact⟨⟨⟨⟨by simpa using c1,by simpa using c2⟩,c3⟩,by rw[hR];simp only[bC];exact⟨c4,c6⟩⟩,c5⟩) h s'
theorem cQ(hτ:fk P τ)(hm:P.follows .mixedOrders=true){K:KT}(π:List It)(hs:Region.noSelect ops=true)(hc:GV ops ops.size π 0 []=true)
  (h:KB P τ B ops.toList π l H nx iv w K):yo P B ops l H nx iv w K:=by
 rw[DC π (Array.replicate ops.size false) 0 [] (by simp) (fun j=>by rw[tN,bB,Array.getElem?_replicate];split<;>rfl)]at hc;refine⟨fun n O a w' OZ sat Q hQ id=>?_⟩;refine wp_mono (Q':=Q) (c:=.region id ops true) (wp_region_any (Q:=QN (Q .normal)) hm (yp _ _ _ _ ?_)) (fun e a w hq=>by obtain⟨rfl,hq⟩:=hq;exact hq);refine KG hτ (fun j o ho d hd=>?_) (Region.noSelect_spec hs) hQ _ _ π _ _ [] [] l H nx iv w O a _ rfl ?_ hc h ?_
 ·have:=List.all_eq_true.1 OZ o (aD (by rw[bG];exact ho));rw[hd]at this;have h5:d+1<=n:=by simpa [Nat.blt]using this
  exact h5
 ·unfold OL;refine aX List.countP_le_length ?_;simp
 ·refine⟨⟨sat.rel.drew,sat.size,sat.defers,sat.env,sat.sc⟩,by simp,by simp,fun j=>by simp,fun j g h=>(by cases h),fun j h=>(by cases h),fun j g h=>(by cases h),fun j g j' h=>(by cases h),fun j h=>(by cases h)⟩
end
def yM:List (Nat×TI)->Nat->Option TI
 |[],_=>none
 |(t,v)::r,u=>match Nat.beq t u with
  |true=>some v
  |false=>yM r u
def veq:Value->Value->Bool
 | .bool a,.bool b=>a==b
 | .int k n,.int j m=>pc k j&&decide (n=m)
 | .string a,.string b=>a.data.toList.isEmpty&&b.data.toList.isEmpty
 | .pointer none,.pointer none=>true
 | .slice none a b,.slice none c d=>Nat.beq a c&&Nat.beq b d
 | .map none,.map none=>true
 | .nilFunc,.nilFunc=>true
 | .nilIface,.nilIface=>true
 |_,_=>false
theorem Bv{a b:IntKind}(h:pc a b=true):a=b:=by cases a<;>cases b<;>first|rfl|cases h
theorem OM{a b:Value}(h:veq a b=true):a=b∧a.oneCell'=true:=by
 unfold veq at h;split at h
 ·exact⟨by rw[eq_of_beq h],rfl⟩
 ·simp only[bC,decide_eq_true_eq]at h;exact⟨by rw[Bv h.1,h.2],rfl⟩
 ·rename_i a b;simp only[bC,List.isEmpty_iff]at h;refine⟨?_,rfl⟩;have ha:a=⟨#[]⟩:=by
   obtain⟨⟨l⟩⟩:=a;simp only at h;rw[h.1]
  have hb:b=⟨#[]⟩:=by
   obtain⟨⟨l⟩⟩:=b;simp only at h;rw[h.2]
  rw[ha,hb]
 ·exact⟨rfl,rfl⟩
 ·simp only[bC]at h;exact⟨by rw[eW h.1,eW h.2],rfl⟩
 ·exact⟨rfl,rfl⟩
 ·exact⟨rfl,rfl⟩
 ·exact⟨rfl,rfl⟩
 ·cases h
def Mf:List Value->List Value->Bool
 |[],[]=>true
 |a::r,b::s=>veq a b&&Mf r s
 |_,_=>false
theorem Ho:∀{a b:List Value},Mf a b=true->a=b∧∀x∈b,x.oneCell'=true
 |[],[],_=>⟨rfl,by simp⟩
 |a::r,b::s,h=>by
  simp only[Mf,bC]at h;obtain⟨h1,h2⟩:=OM h.1;obtain⟨h3,h4⟩:=Ho h.2;refine⟨by rw[h1,h3],fun x hx=>?_⟩;rcases List.mem_cons.1 hx with rfl|hx
  ·rw[<-h1];exact h2
  ·exact h4 x hx
 |[],_::_,h=>by cases h
 |_::_,[],h=>by cases h
def yN(P:Program):List Field->List (Nat×Nat)->Bool
 |[],[]=>true
 |f::r,(o,t)::s=>Nat.beq f.offset o&&Nat.beq f.type t&&(P.info? f.type).isSome&&yN P r s
 |_,_=>false
theorem yq{P:Program}:∀{a:List Field} {b:List (Nat×Nat)},yN P a b=true->a.map (fun f=>(f.offset,f.type))=b∧∀f∈a,(P.info? f.type).isSome=true
 |[],[],_=>⟨rfl,by simp⟩
 |f::r,(o,t)::s,h=>by
  simp only[yN,bC]at h;obtain⟨h3,h4⟩:=yq h.2;refine⟨by rw[List.map_cons,h3,eW h.1.1.1,eW h.1.1.2],fun x hx=>?_⟩;rcases List.mem_cons.1 hx with rfl|hx
  ·exact h.1.2
  ·exact h4 x hx
 |[],_::_,h=>by cases h
 |_::_,[],h=>by cases h
def isAgg:TypeDesc->Bool
 | .struct _=>true
 | .array _ _=>true
 |_=>false
def aA0(a b:Bool):Bool:=match a with
 |true=>b
 |false=> !b
theorem Mg{a b:Bool}(h:aA0 a b=true):a=b:=by cases a<;>cases b<;>first|rfl|cases h
def tokB(P:Program)(t:Nat)(i:TI):Bool:=
 (match P.info? t with
  |some inf=>Nat.beq inf.size i.size&&Nat.beq inf.bytes i.bytes&&(match inf.zero with
   |some z=>Mf z.cells.toList i.zero
   |none=>false)
  |none=>false)&&Nat.beq i.zero.length i.size&&
 (match P.underlying t with
  |some d=>aA0 (isAgg d) i.agg&&(match i.tag with
   |1=>(match d with
    | .int k=>pc k i.ik
    |_=>false)
   |2=>(match d with
    | .bool=>true
    |_=>false)
   |3=>(match d with
    | .string=>true
    |_=>false)
   |4=>(match d with
    | .slice e=>Nat.beq e i.elem
    |_=>false)
   |5=>(match d with
    | .struct fs=>yN P fs.toList i.fields
    |_=>false)
   |6=>(match d with
    | .array n e=>Nat.beq n i.DB&&Nat.beq e i.elem
    |_=>false)
   |_=>true)
  |none=>false)
theorem tok_of{t:Nat}{i:TI}(h:tokB P t i=true):GY P t i:=by
 simp only[tokB,bC]at h;obtain⟨⟨h1,h2⟩,h3⟩:=h
 cases hi:P.info? t with
 |none=>rw[hi]at h1;cases h1
 |some inf=>
 rw[hi]at h1;simp only[bC]at h1;obtain⟨⟨h4,h5⟩,h6⟩:=h1
 cases hz:inf.zero with
 |none=>rw[hz]at h6;cases h6
 |some z=>
 rw[hz]at h6;obtain⟨h7,h8⟩:=Ho h6
 cases hu:P.underlying t with
 |none=>rw[hu]at h3;cases h3
 |some d=>
 rw[hu]at h3;simp only[bC]at h3;obtain⟨h9,h10⟩:=h3;refine⟨⟨inf,z,hi,eW h4,eW h5,hz,h7⟩,eW h2,h8,⟨d,hu,?_⟩,fun e=>?_,fun e=>?_,fun e=>?_,fun e=>?_,fun e=>?_,fun e=>?_⟩
 ·rw[<-Mg h9]
  cases d<;>rfl
 all_goals rw[e]at h10
 ·cases d with
  |int k=>simp only at h10;rw[<-Bv h10];exact hu
  |_=>cases h10
 ·cases d with
  |bool=>exact hu
  |_=>cases h10
 ·cases d with
  |string=>exact hu
  |_=>cases h10
 ·cases d with
  |slice e=>simp only at h10;rw[<-eW h10];exact hu
  |_=>cases h10
 ·cases d with
  |struct fs=>simp only at h10;exact⟨fs,hu,yq h10⟩
  |_=>cases h10
 ·cases d with
  |array n e=>simp only[bC]at h10;rw[<-eW h10.1,<-eW h10.2];exact hu
  |_=>cases h10
theorem ON(h:l.all (fun p=>tokB P p.1 p.2)=true):fk P (yM l):=by
 intro t i hi;have:(t,i)∈l:=by
  clear h
  induction l with
  |nil=>cases hi
  |cons p r ih=>
   obtain⟨t0,i0⟩:=p;unfold yM at hi;split at hi
   ·rename_i hb;injection hi with hi;subst hi;rw[eW hb];exact aG ..
   ·exact aC _ (ih hi)
 exact tok_of (List.all_eq_true.1 h _ this)
theorem Ih{fn:Func}{c:Code}(hf:P.funcs[g]? =some fn)(hb:fn.body=some c)(hn:(fn.name== "runtime.NumGoroutine")=false):KH P g:=
 ⟨fun args w=>by simp only[beq_eq_false_iff_ne]at hn;simp[callFunc,hf,hb,hn]⟩
theorem eG.mono{args:Array Value}{w:World}(h:eG P g args w R)(k:∀e w2,R e w2->R' e w2):eG P g args w R':=
 ⟨h.e,Calls.mono h.c k⟩
abbrev dq(B:Nat)(w w2:World):Prop:=RowKit.Below B w w2
theorem dq.refl{w:World}:dq B w w:=RowKit.Below.refl _ _
theorem Rel.cU{H:Hp}{nx:Nat}{iv:Iv}{w w':World}(r:Rel H nx iv B w O w'):dq B w w':=
 ⟨r.os,r.tape,r.output,r.size,fun k hk=>r.vF k (by have:=r.base;omega) (fun id b h hn he=>by have:=(r.low id b h hn).1;omega)⟩
theorem dq.tr{a b c:World}(h:dq B a b)(k:dq B b c):dq B a c:=RowKit.Below.trans h k
theorem Ext.cU{a b:World}(h:Ext a b)(hB:B<=a.heap.size):dq B a b:=RowKit.Below.mono h hB
end Go.Sx
namespace Go.RowKit
open Go Go.Sx
theorem Below.cU{B:Nat}{a b:World}(h:RowKit.Below a.heap.size a b)(hB:B<=a.heap.size):RowKit.Below B a b:=RowKit.Below.mono h hB
end Go.RowKit
namespace Go.Sx
open Go
variable{args:(Nat->dw)->Array Value}{Φ:(Nat->dw)->World->Value->World->Prop}{H:Hp}{n:Int}{iv:Iv}{B nx:Nat}{O:Nat->dw}{P:Program}
theorem cI{w w2:World}{a:Addr}(h:w2.heap[a.block]? =w.heap[a.block]?):w2.cell? a=w.cell? a:=by
 unfold World.cell?;rw[h]
theorem dq.cell{w w2:World}(h:dq B w w2){a:Addr}(ha:a.block<B):w2.cell? a=w.cell? a:=cI (h.block _ ha)
def Ea(l:Env):Env->Prop
 |[]=>True
 |(u,v)::r=>fu l u=some v∧Ea l r
theorem Ea.get{l:Env}:∀{t:Env},Ea l t->∀u v,fu t u=some v->fu l u=some v
 |[],_,u,v,h=>by cases h
 |(u0,v0)::r,h,u,v,hg=>by
  rw[fA]at hg;split at hg
  ·rename_i e;subst e;injection hg with hg;subst hg;exact h.1
  ·exact Ea.get h.2 u v hg
def kF(n:Nat):Env->Prop
 |[]=>True
 |(_,v)::r=>v.sc n∧kF n r
theorem kF.get{n:Nat}:∀{t:Env},kF n t->∀u v,fu t u=some v->v.sc n
 |[],_,u,v,h=>by cases h
 |(u0,v0)::r,h,u,v,hg=>by
  rw[fA]at hg;split at hg
  ·injection hg with hg;subst hg;exact h.1
  ·exact kF.get h.2 u v hg
theorem Rel.aAm{w w':World}(r:Rel H nx iv B w O w'):Rel H nx [] B w O w':=
 Rel.mk' r.os r.tape r.output r.size r.base (by simp) r.keys (fun id b h=>r.fits h) (fun id b h=>r.scopd h) r.inj r.low r.vF (by simp)
theorem Sub.reset{l tl:Env}{w w':World}(r:Rel H nx iv B w O w')(h1:Ea l tl)(h2:kF nx tl):Sub B l nx O w' ⟨tl,H,nx,[],w'⟩:=
 ⟨O,r.here.aAm,fun u v hv=>⟨h2.get u v hv,v,h1.get u v hv,rfl⟩⟩
def eL(w:World)(Φ:Value->World->Prop)(e:Ending)(w2:World):Prop:=∃v,e= .returned v∧Ext w w2∧Φ v w2
theorem cM{g:Nat}{w:World}{K:SV->Hp->Iv->World->Prop}
  (h:∀O w',Rel H nx iv B w O w'->eG P g (args O) w' (eL w' (Φ O w'))) (hK:∀O w' v w2,Rel H nx iv B w O w'->Ext w' w2->dq B w w2->Φ O w' v w2->K (.o (.v v)) H ((w'.heap.size,w2.heap.size)::iv) w2):EZ P B g args H nx iv w K:=
 ⟨fun O w' r=>(h O w' r).mono fun e w2 ⟨v,h1,h2,h3⟩=>⟨v,h1,h2,hK O w' v w2 r h2 (r.cU.tr (h2.cU (by have:=r.base;have:=r.size;omega))) h3⟩⟩
theorem cE{g:Nat}{w w0:World}{K:SV->Hp->Iv->World->Prop}(hw:dq B w0 w)(Φ:(Nat->dw)->World->Value->World->Prop)
  (h:∀O w',Rel H nx iv B w O w'->eG P g (args O) w' (eL w' (Φ O w'))) (hK:∀O w' v w2 iv',Rel H nx iv B w O w'->Ext w' w2->dq B w0 w2->iv'=(w'.heap.size,w2.heap.size)::iv->Φ O w' v w2->K (.o (.v v)) H iv' w2):EZ P B g args H nx iv w K:=
 cM h fun O w' v w2 r h1 h2 h3=>hK O w' v w2 _ r h1 (hw.tr h2) rfl h3
theorem mC{a:Nat×Nat}{iv':Iv}(h:iv'=a::iv):∀p,p∈iv->p∈iv':=h▸fun _ h=>aC _ h
theorem mN{a:Nat×Nat}{iv':Iv}(h:iv'=a::iv):a∈iv':=h▸aG
theorem wrap64(h1: -9223372036854775808<=n)(h2:n<=9223372036854775807):IntKind.wrap .i64 n=n:=by
 have e1:(2:Int)^64=18446744073709551616:=by decide
 have e2:(2:Int)^(64-1)=9223372036854775808:=by decide
 simp only[IntKind.wrap,IntKind.bits,IntKind.signed,e1,e2]
 by_cases h:n % 18446744073709551616≥9223372036854775808
 ·rw[if_pos (by simp[h])];omega
 ·rw[aJ (by simp[h])];omega
theorem wo{r:Int}(h:(-9223372036854775808<=n∧n<=9223372036854775807)∧n=r:=by omega):IntKind.wrap .i64 n=r:=by rw[wrap64 h.1.1 h.1.2];exact h.2
theorem yO(h1:0<=n)(h2:n<18446744073709551616):IntKind.wrap .u64 n=n:=by
 have e1:(2:Int)^64=18446744073709551616:=by decide
 simp only[IntKind.wrap,IntKind.bits,IntKind.signed,e1,Bool.false_and,Bool.false_eq_true,if_false]
 omega
theorem yP(h1:0<=n)(h2:n<4294967296):IntKind.wrap .u32 n=n:=by
 have e1:(2:Int)^32=4294967296:=by decide
 simp only[IntKind.wrap,IntKind.bits,IntKind.signed,e1,Bool.false_and,Bool.false_eq_true,if_false]
 omega
end Go.Sx
namespace Go.Sx
open Go
variable{args:(Nat->dw)->Array Value}{Φ:(Nat->dw)->World->Value->World->Prop}{next:Act->World->Prop}{after:Array Edge}{es:Array MapEntry}{ag ag':Bool}{Q:Exit->Act->World->Prop}{tH:Hp}{m:Int}{ik ik' k:IntKind}{K:KT}{fs fs':List (Nat×Nat)}{cs cs2 ks xs ze ze':List Value}{B Bc al al' bt by_ c clock e' g id n r sz sz0 t tag' ty:Nat}{O:Nat->dw}{i y:Operand}{guard:Option (Nat×Bool)}{row:Option Nat}{dst:Option Tmp}{pos:String}{key z:Value}{KS:Value->Prop}
section
variable{P:Program}{τ:nF}{B nx:Nat}{l:Env}{H:Hp}{iv:Iv}{w w' w2:World}{O:Nat->dw}
theorem Rel.Bw{OX:Iv}(r:Rel H nx iv B w O w')(PH:w'.heap.size<=w2.heap.size)(Od:∀id b,dD H id=some b->(O id).nil=false->w2.heap[(O id).g]? =w'.heap[(O id).g]?)
  (TR:∀lo hi,(lo,hi)∈OX->hi<=w2.heap.size∧∀id b,dD H id=some b->(O id).nil=false->¬(lo<=(O id).g∧(O id).g<hi)):Rel H nx OX B w2 O w2:=
 Rel.mk' rfl rfl rfl (Nat.le_refl _) (by have:=r.base;have:=r.size;omega) (fun lo hi h=>(TR lo hi h).1) r.keys
  (fun id b h=>jq.gf (r.fits h) (fun _ _=>rfl) (r.scopd h) (fun hn _=>Od id b h hn)) (fun id b h=>r.scopd h) r.inj
  (fun id b h hn=>by have:=r.low id b h hn;omega) (fun _ _ _=>rfl) (fun lo hi h=>(TR lo hi h).2)
theorem sQ(hτ:fk P τ)(hBc:Bc<=B){x:Operand}{e k m:Nat}
  {v:Value} {vy:SV} {news:List Value} {K:SV->Hp->Nat->Iv->World->Prop}
  (ht:τ t=some ⟨sz0,ag,bt,ze,4,ik,e,al,fs⟩) (Pr:τ e=some ⟨sz,ag',by_,ze',tag',ik',e',al',fs'⟩) (Py:0<sz) (hx:ev l x=some (.o (.v v))) (hy:ev l y=some vy)
  (Sb:∀O w',Rel H nx iv B w O w'->w'.ownsRow Bc e sz v m xs∧∀g,v.ownBlock=some g->∀id b,dD H id=some b->(O id).nil=false->(O id).g≠g)
  (Rp:news.length=k*sz) (WK:∀u∈news,u.oneCell'=true) (Qt:m+k<=maxLen) (hb:(m+k)*by_<=140737488355328)
  (src:∀O w',Rel H nx iv B w O w'->(∃c,vy.den O= .slice none 0 c∧k=0)∨∃ad c,vy.den O= .slice (some ad) k c∧∀(j:Nat) u,news[j]? =some u->w'.cell? (ad.add j)=some u)
  (OX:Value->World->Iv)
  (TR:∀O w' v' w2,Rel H nx iv B w O w'->w'.heap.size<=w2.heap.size->(∀g,v'.ownBlock=some g->g<w2.heap.size∧(v.ownBlock=some g∨g=w'.heap.size))->∀lo hi,(lo,hi)∈OX v' w2->hi<=w2.heap.size∧∀id b,dD H id=some b->(O id).nil=false->¬(lo<=(O id).g∧(O id).g<hi))
  (hK:∀O w' v' w2,Rel H nx iv B w O w'->w2.ownsRow Bc e sz v' (m+k) (xs++news)->w'.grownBy w2 v.ownBlock->(v'.ownBlock=v.ownBlock∨v'.ownBlock=some w'.heap.size)->K (.o (.v v')) H nx (OX v' w2) w2):
  xd P B ⟨dst,.call ⟨.builtin .append,⟨[x,y]⟩,⟨[t,t]⟩⟩,ty,pos,after,guard⟩ l H nx iv w K:=by
 refine⟨fun O w' ev' r Qi=>?_⟩;have hto:=hτ t _ ht;have hu:=hto.i4 rfl;simp only at hu;have RZ:=hτ e _ Pr;obtain⟨inf,z,hi,PH,Oq,hz,R0⟩:=RZ.info;have Rk:=RZ.GZ;simp only at PH Oq R0 Rk;have Vv:z.cells.size=sz:=by rw[<-Rk,<-R0];simp
 obtain⟨OV,OY⟩:=Sb O w' r;have key:∃v' w2,(Builtin.append_ #[t,t] ty #[v,vy.den O]).run P w'= .ok v' w2∧w2.ownsRow Bc e sz v' (m+k) (xs++news)∧w'.grownBy w2 v.ownBlock∧(v'.ownBlock=v.ownBlock∨v'.ownBlock=some w'.heap.size):=by
  rcases src O w' r with⟨c,hv,rfl⟩|⟨ad,c,hv,Pe⟩
  ·have:news=[]:=List.eq_nil_of_length_eq_zero (by simpa using Rp);subst this;rw[hv];exact⟨v,w',lO w' Bc t ty e inf sz hu hi v m xs OV c,by simpa using OV,⟨rfl,rfl,rfl,Nat.le_refl _,fun _ _ _=>rfl⟩,.inl rfl⟩
  ·rw[hv];obtain⟨v',w2,h1,h2,h3,_,h5⟩:=run_append_own_at (P:=P) w' Bc t ty e inf z sz by_ hu hi hz PH Oq Vv Py v m xs OV ad k c news Rp Pe WK Qt hb (by have:=r.base;have:=r.size;omega);exact⟨v',w2,h1,h2,h3,h5⟩
 obtain⟨v',w2,h1,h2,h3,h4⟩:=key;have e1:=Qi x _ hx;have e2:=Qi y _ hy;have RE:∀g,v'.ownBlock=some g->g<w2.heap.size∧(v.ownBlock=some g∨g=w'.heap.size):=fun g hg=>by
  refine⟨?_,?_⟩
  ·rcases h2.2 with⟨rfl,_⟩|⟨g',cap,cur,rfl,_,hc,_⟩
   ·cases hg
   ·simp only[Value.ownBlock,Option.some.injEq]at hg;subst hg;exact(bA.1 hc).1
  ·rcases h4 with h4|h4
   ·exact .inl (h4▸hg)
   ·rw[h4]at hg;injection hg with hg;exact .inr hg.symm
 refine⟨v',w2,OX v' w2,.inl ?_,r.Bw h3.size (fun id b h hn=>h3.block _ (r.low id b h hn).2 (fun e=>OY _ e.symm id b h hn rfl)) (TR O w' v' w2 r h3.size RE),hK O w' v' w2 r h2 h3 h4⟩;have e1:ev' x=v:=e1;generalize vy.den O=yy at*
 simp[execOp,resolve,invoke,builtin,e1,e2,h1]
theorem dq.grown{B0:Nat}(h:w'.grownBy w2 row)(hr:∀g,row=some g->B0<=g)(hB:B0<=w'.heap.size):dq B0 w' w2:=
 ⟨h.os,h.tape,h.output,h.size,fun k hk=>h.block k (by omega) (fun e=>by have:=hr k e.symm;omega)⟩
theorem ownsRow.low{e m:Nat}{v:Value}(h:w.ownsRow B e sz v m xs):∀g,v.ownBlock=some g->B<=g∧g<w.heap.size:=by
 intro g hg;rcases h.2 with⟨rfl,_⟩|⟨g',cap,cur,rfl,hb,hc,_⟩
 ·cases hg
 ·simp only[Value.ownBlock,Option.some.injEq]at hg;subst hg;exact⟨hb,(bA.1 hc).1⟩
theorem ownsRow.cJ{e m:Nat}{v:Value}(h:w.ownsRow B e sz v m xs)(hk:∀g,v.ownBlock=some g->w2.heap[g]? =w.heap[g]?):w2.ownsRow B e sz v m xs:=by
 refine⟨h.1,?_⟩;rcases h.2 with h1|⟨g',cap,cur,rfl,hb,hc,h2⟩
 ·exact .inl h1
 ·exact .inr ⟨g',cap,cur,rfl,hb,by rw[hk g' rfl];exact hc,h2⟩
end
def At.EO(f:Nat->Nat):At->At
 | .v x=>.v x
 | .p id off=>.p (f id) off
 | .s id off len cap=>.s (f id) off len cap
 | .w id len=>.w (f id) len
 | .fn g caps=>.fn g (caps.map f)
def SV.EO(f:Nat->Nat):SV->SV
 | .o x=>.o (x.EO f)
 | .a cs=>.a (cs.map (At.EO f))
def jq.EO(f:Nat->Nat):jq->jq
 | .box t cs=>.box t (cs.map (At.EO f))
 | .arr t cs=>.arr t cs
 | .vec t size cs=>.vec t size cs
 | .dead=>.dead
theorem At.tQ(f:Nat->Nat)(O:Nat->dw)(x:At):(x.EO f).den O=x.den (fun i=>O (f i)):=by
 cases x<;>simp[At.EO,At.den]
theorem SV.tQ(f:Nat->Nat)(O:Nat->dw)(x:SV):(x.EO f).den O=x.den (fun i=>O (f i)):=by
 cases x with
 |o x=>exact At.tQ f O x
 |a cs=>
  have:At.den O ∘ At.EO f=At.den (fun i=>O (f i)):=funext fun x=>At.tQ f O x;simp[SV.EO,SV.den,this]
def tR:List (Nat×Nat)->Nat->Nat
 |[],n=>n
 |(a,b)::r,n=>match Nat.beq a n with
  |true=>b
  |false=>tR r n
def yr(f:Nat->Nat)(l:Env):Env->Prop
 |[]=>True
 |(u,v)::r=>fu l u=some (v.EO f)∧yr f l r
def yt(f:Nat->Nat)(H:Hp):Hp->Prop
 |[]=>True
 |(u,b)::r=>dD H (f u)=some (b.EO f)∧yt f H r
def Mh(n:Nat):Hp->Prop
 |[]=>True
 |(u,b)::r=>(u<n∧b.scopd n)∧Mh n r
def Ii(f:Nat->Nat):Hp->Bool
 |[]=>true
 |(u,_)::r=>r.all (fun p=>Nat.beq p.1 u|| !Nat.beq (f p.1) (f u))&&Ii f r
theorem yr.get{f:Nat->Nat}{l:Env}:∀{t:Env},yr f l t->∀u v,fu t u=some v->fu l u=some (v.EO f)
 |[],_,u,v,h=>by cases h
 |(u0,v0)::r,h,u,v,hg=>by
  rw[fA]at hg;split at hg
  ·rename_i e;subst e;injection hg with hg;subst hg;exact h.1
  ·exact yr.get h.2 u v hg
theorem yt.get{f:Nat->Nat}{l:Hp}:∀{t:Hp},yt f l t->∀u v,dD t u=some v->dD l (f u)=some (v.EO f)
 |[],_,u,v,h=>by cases h
 |(u0,v0)::r,h,u,v,hg=>by
  rw[dB]at hg;split at hg
  ·rename_i e;subst e;injection hg with hg;subst hg;exact h.1
  ·exact yt.get h.2 u v hg
theorem Mh.get{n:Nat}:∀{t:Hp},Mh n t->∀u b,dD t u=some b->u<n∧b.scopd n
 |[],_,u,v,h=>by cases h
 |(u0,v0)::r,h,u,v,hg=>by
  rw[dB]at hg;split at hg
  ·rename_i e;subst e;injection hg with hg;subst hg;exact h.1
  ·exact Mh.get h.2 u v hg
theorem Eb:∀{t:Hp} {u:Nat} {b:jq},dD t u=some b->∃p∈t,p.1=u
 |[],u,b,h=>by cases h
 |(u0,v0)::r,u,b,h=>by
  rw[dB]at h;split at h
  ·rename_i e;exact⟨_,aG ..,e⟩
  ·obtain⟨p,h1,h2⟩:=Eb h;exact⟨p,aC _ h1,h2⟩
theorem Bx{f:Nat->Nat}:∀{t:Hp},Ii f t=true->∀u v b c,dD t u=some b->dD t v=some c->f u=f v->u=v
 |[],_,u,v,b,c,h,_,_=>by cases h
 |(u0,v0)::r,hi,u,v,b,c,hu,hv,he=>by
  simp only[Ii,bC]at hi;have key:∀{w:Nat} {d:jq},dD r w=some d->f w=f u0->w=u0:=fun{w d} hw hf=>by
   obtain⟨p,hp,rfl⟩:=Eb hw;have:=List.all_eq_true.1 hi.1 p hp;simp only[Bool.or_eq_true,Bool.not_eq_true']at this;rcases this with h|h
   ·exact eW h
   ·rw[hf,Nat.beq_refl]at h;cases h
  rw[dB]at hu hv;split at hu<;>split at hv
  ·rename_i x y;rw[<-x,<-y]
  ·rename_i x y;subst x;exact(key hv he.symm).symm
  ·rename_i x y;subst y;exact key hu he
  ·exact Bx hi.2 u v b c hu hv he
theorem Sub.gen{l tl:Env}{nx Oe:Nat}{H:Hp}{iv iv':Iv}{w w':World}(m:List (Nat×Nat))(r:Rel H nx iv B w O w')
  (hH:yt (tR m) H tH) (hE:yr (tR m) l tl) (hsH:Mh Oe tH) (hsE:kF Oe tl) (hi:Ii (tR m) tH=true) (TR:∀lo hi,(lo,hi)∈iv'->(lo,hi)∈iv):Sub B l nx O w' ⟨tl,tH,Oe,iv',w'⟩:=by
 refine⟨fun i=>O (tR m i),(?_:Rel tH Oe iv' B w' (fun i=>O (tR m i)) w'),fun u v hv=>⟨hsE.get u v hv,_,hE.get u v hv,SV.tQ _ _ _⟩⟩;refine Rel.mk' rfl rfl rfl (Nat.le_refl _) (by have:=r.base;have:=r.size;omega) (fun lo hi h=>by have:=r.pC lo hi (TR lo hi h);have:=r.size;omega) (fun id b h=>(hsH.get id b h).1) ?_ (fun id b h=>(hsH.get id b h).2) ?_ ?_ (fun _ _ _=>rfl) ?_
 ·intro id b h;have h1:=r.fits (hH.get id b h);have hr:At.den O ∘ At.EO (tR m)=At.den (fun i=>O (tR m i)):=funext fun x=>At.tQ _ O x
  cases b with
  |box t cs=>simpa [jq.EO,jq.fits,hr]using h1
  |arr t cs=>exact h1
  |vec t size cs=>exact h1
  |dead=>trivial
 ·intro id id' b b' h h' hd XD hn hn' he;refine Bx hi id id' b b' h h' (r.inj _ _ _ _ (hH.get id b h) (hH.get id' b' h') ?_ ?_ hn hn' he)
  ·cases b<;>first|(exact absurd rfl hd)|simp[jq.EO]
  ·cases b'<;>first|(exact absurd rfl XD)|simp[jq.EO]
 ·intro id b h hn;exact r.low _ _ (hH.get id b h) hn
 ·intro lo Qo h id b hb hn;exact r.jb lo Qo (TR lo Qo h) _ _ (hH.get id b hb) hn
theorem Sub.gn{l tl:Env}{nx Oe:Nat}{H:Hp}{iv iv':Iv}{w w':World}(m:List (Nat×Nat))(r:Rel H nx iv B w O w')
  (hH:yt (tR m) H tH:=by repeat' first|exact trivial|refine⟨rfl,?_⟩) (hE:yr (tR m) l tl:=by repeat' first|exact trivial|refine⟨rfl,?_⟩) (hsH:Mh Oe tH:=by simp[Mh,jq.scopd,At.sc]) (hsE:kF Oe tl:=by simp[kF,SV.sc,At.sc,fm]) (hi:Ii (tR m) tH=true:=by rfl) (TR:∀lo hi,(lo,hi)∈iv'->(lo,hi)∈iv:=by first|exact fun _ _ h=>h|simp):Sub B l nx O w' ⟨tl,tH,Oe,iv',w'⟩:=Sub.gen m r hH hE hsH hsE hi TR
def vJ(H:Hp):Hp->Prop
 |[]=>True
 |(u,b)::r=>dD H u=some b∧vJ H r
def DD(id:Nat):Hp->Bool
 |[]=>true
 |(_,.dead)::_=>false
 |(u,_)::r=> !Nat.beq u id&&DD id r
theorem vJ.get{H:Hp}:∀{t:Hp},vJ H t->∀{u b},dD t u=some b->dD H u=some b
 |[],_,u,b,h=>by cases h
 |(v,c)::r,hs,u,b,h=>by
  unfold dD at h;split at h
  ·rename_i e;injection h with h;subst h;have:=bU e;subst this;exact hs.1
  ·exact vJ.get hs.2 h
theorem DD.get{id:Nat}:∀{t:Hp},DD id t=true->∀{u b},dD t u=some b->u≠id∧b≠ .dead
 |[],_,u,b,h=>by cases h
 |(v,c)::r,hs,u,b,h=>by
  unfold dD at h;split at h
  ·rename_i e;injection h with h;subst h;have:=bU e;subst this;have hv:v.beq id=false->v≠id:=fun h e=>by rw[e,Nat.beq_refl]at h;cases h
   cases c<;>simp_all [DD]
  ·refine DD.get (t:=r) ?_ h
   cases c<;>simp_all [DD]
section
variable{P:Program}{B nx:Nat}{H H':Hp}{iv:Iv}{w w' w2:World}{O:Nat->dw}
theorem Rel.free{b:jq}(r:Rel H nx iv B w O w')(PV:dD H id=some b)(hd:b≠ .dead)(hn:(O id).nil=false)(hs:vJ H H')(ho:DD id H'=true):Rel H' nx (((O id).g,(O id).g+1)::iv) B w' O w':=by
 have h1:Rel H' nx iv B w' O w':=Rel.mk' rfl rfl rfl (Nat.le_refl _) (by have:=r.base;have:=r.size;omega) (fun lo hi hm=>by have:=r.pC lo hi hm;have:=r.size;omega) (fun j c h=>r.keys j c (hs.get h))
  (fun j c h=>r.fits (hs.get h)) (fun j c h=>r.scopd (hs.get h)) (fun j k c e h h'=>r.inj j k c e (hs.get h) (hs.get h')) (fun j c h=>r.low j c (hs.get h)) (fun _ _ _=>rfl) (fun lo hi hm j c h=>r.jb lo hi hm j c (hs.get h))
 refine h1.more (by have:=(r.low id b PV hn).2;omega) fun j c hj XF he=>?_;obtain⟨h2,h3⟩:=DD.get ho hj;exact h2 (r.inj j id c b (hs.get hj) PV h3 hd XF hn (by omega))
theorem gN{K:SV->Hp->Iv->World->Prop}(id:Nat){b:jq}(PV:dD H id=some b)(hd:b≠ .dead)(hs:vJ H H')(ho:DD id H'=true)
  (hn:∀O w',Rel H nx iv B w O w'->(O id).nil=false)
  (hc:∀O w',Rel H nx iv B w O w'->eG P g (args O) w' (eL w' (Φ O w')))
  (h:∀O w' v w2,Rel H nx iv B w O w'->Ext w' w2->dq B w w2->Φ O w' v w2->K (.o (.v v)) H' (((O id).g,(O id).g+1)::(w'.heap.size,w2.heap.size)::iv) w2):Ec P B g args H nx iv w K:=
 ⟨fun O w' r=>⟨(hc O w' r).e,Calls.mono (hc O w' r).c fun e w2 he=>by
  obtain⟨v,h1,h2,h3⟩:=he;have r2:Rel H nx ((w'.heap.size,w2.heap.size)::iv) B w2 O w2:=(r.ext h2).here.more (Nat.le_refl _) (fun j c hj hn=>by have:=(r.low j c hj hn).2;omega)
  exact⟨v,H',_,h1,r2.free PV hd (hn O w' r) hs ho,h O w' v w2 r h2 (r.cU.tr (h2.cU (by have:=r.base;have:=r.size;omega))) h3⟩⟩⟩
end
inductive Tr where
 |nil
 |one (i:Nat) (t:Tr)
 |two (i:Nat) (t:Tr) (j:Nat) (u:Tr)
def Tr.depth:Tr->Nat
 | .nil=>0
 | .one _ t=>t.depth+1
 | .two _ t _ u=>max t.depth u.depth+1
def wY(ops:Array Oper):Tr->Array Bool->Bool
 | .nil,la=>(Region.ready .any ops la).isEmpty
 | .one i t,la=>match Region.ready .any ops la with
  |[x]=>Nat.beq x i&&wY ops t (la.setIfInBounds i true)
  |_=>false
 | .two i t j u,la=>match Region.ready .any ops la with
  |[x,y]=>Nat.beq x i&&(Nat.beq y j&&(wY ops t (la.setIfInBounds i true)&&wY ops u (la.setIfInBounds j true)))
  |_=>false
def KI(P:Program)(τ:nF)(B:Nat)(all:List Oper):Tr->Env->Hp->Nat->Iv->World->KT->Prop
 | .nil,l,H,nx,iv,w,K=>K l H nx iv w
 | .one i t,l,H,nx,iv,w,K=>sM all i (fun o=>iW false P τ B all o l H nx iv w (fun l' H' Oe iv' w'=>KI P τ B all t l' H' Oe iv' w' K))
 | .two i t j u,l,H,nx,iv,w,K=>sM all i (fun o=>iW false P τ B all o l H nx iv w (fun l' H' Oe iv' w'=>KI P τ B all t l' H' Oe iv' w' K))∧
   sM all j (fun o=>iW false P τ B all o l H nx iv w (fun l' H' Oe iv' w'=>KI P τ B all u l' H' Oe iv' w' K))
section
variable{P:Program}{τ:nF}{ops:Array Oper}{B n nx:Nat}{l:Env}{H:Hp}{iv:Iv}{w w':World}{O:Nat->dw}{a:Act}
theorem DE(hτ:fk P τ)(OZ:∀(j:Nat) o,ops[j]? =some o->∀d,o.dst=some d->d<n){i:Nat}
  (h:sM ops.toList i (fun o=>iW false P τ B ops.toList o l H nx iv w K)) (sat:Sat n l H nx iv B w O a w')
  (hn:∀l' H' Oe iv' w2 ρ' a' w3,K l' H' Oe iv' w2->Sat n l' H' Oe iv' B w2 ρ' a' w3->next a' w3):wpOp P ops Q i next a w':=by
 obtain⟨o,ho,h1⟩:=iH h;rw[bG]at ho;have hd:=OZ i o ho;unfold iW at h1;refine p9 ho ?_;rcases ky sat h1 with⟨hw,l1,h2,sat1⟩|⟨hw,l1,h2,sat1⟩
 ·refine .inl ⟨hw,oD hτ h2 sat1 fun v H' Oe iv' w2 ρ' w3 h3 sat2 hv=>?_⟩;obtain⟨l2,h4,sat3⟩:=iu sat2 h3 hd hv;exact hn _ _ _ _ _ _ _ _ h4 sat3
 ·obtain⟨l2,h4,sat3⟩:=iu sat1 h2 hd trivial;exact .inr ⟨hw,hn _ _ _ _ _ _ _ _ h4 sat3⟩
theorem tS(hτ:fk P τ)(OZ:∀(j:Nat) o,ops[j]? =some o->∀d,o.dst=some d->d<n){K:KT}{Q:Exit->Act->World->Prop}
  (hQ:∀l' H' Oe iv' w2 ρ' a' w3,K l' H' Oe iv' w2->Sat n l' H' Oe iv' B w2 ρ' a' w3->Q .normal a' w3):
  ∀(t:Tr) (fuel:Nat) (la:Array Bool) (l:Env) (H:Hp) (nx:Nat) (iv:Iv) (w:World) (O:Nat->dw) (a:Act) (w':World),t.depth<=fuel->wY ops t la=true->KI P τ B ops.toList t l H nx iv w K->Sat n l H nx iv B w O a w'->wpAny P .any ops Q fuel la a w'
 | .nil,fuel,la,l,H,nx,iv,w,O,a,w',_,hc,h,s=>by
  simp only[wY,List.isEmpty_iff]at hc;have hq:=hQ _ _ _ _ _ _ _ _ h s
  cases fuel with
  |zero=>exact⟨hc,hq⟩
  |succ fuel=>exact⟨fun _=>hq,fun i hi=>by rw[hc]at hi;cases hi⟩
 | .one i t,fuel,la,l,H,nx,iv,w,O,a,w',hf,hc,h,s=>by
  simp only[Tr.depth]at hf;obtain⟨fuel,rfl⟩:∃q,fuel=q+1:=⟨fuel-1,by omega⟩
  simp only[wY]at hc;split at hc
  ·rename_i x hr;simp only[bC]at hc;have hx:=bU hc.1;subst hx;refine⟨fun h0=>(by rw[hr]at h0;cases h0),fun j hj=>?_⟩;rw[hr,bL]at hj;subst hj;exact DE hτ OZ h s fun _ _ _ _ _ _ _ _ hk hs=>tS hτ OZ hQ t fuel _ _ _ _ _ _ _ _ _ (by omega) hc.2 hk hs
  ·cases hc
 | .two i t k u,fuel,la,l,H,nx,iv,w,O,a,w',hf,hc,h,s=>by
  simp only[Tr.depth]at hf;obtain⟨fuel,rfl⟩:∃q,fuel=q+1:=⟨fuel-1,by omega⟩
  simp only[wY]at hc;split at hc
  ·rename_i x y hr;simp only[bC]at hc;obtain⟨c1,c2,c3,c4⟩:=hc;have hx:=bU c1;have hy:=bU c2;subst hx;subst hy;obtain⟨h1,h2⟩:=h;refine⟨fun h0=>(by rw[hr]at h0;cases h0),fun j hj=>?_⟩;rw[hr,List.mem_cons,bL]at hj;rcases hj with rfl|rfl
   ·exact DE hτ OZ h1 s fun _ _ _ _ _ _ _ _ hk hs=>tS hτ OZ hQ t fuel _ _ _ _ _ _ _ _ _ (by omega) c3 hk hs
   ·exact DE hτ OZ h2 s fun _ _ _ _ _ _ _ _ hk hs=>tS hτ OZ hQ u fuel _ _ _ _ _ _ _ _ _ (by omega) c4 hk hs
  ·cases hc
theorem jD(hτ:fk P τ)(hm:P.follows .mixedOrders=true)(t:Tr)(hc:(Nat.ble t.depth ops.size&&wY ops t (Array.replicate ops.size false))=true)
  (h:KI P τ B ops.toList t l H nx iv w K):yo P B ops l H nx iv w K:=by
 simp only[bC]at hc;refine⟨fun n O a w' OZ sat Q hQ id=>?_⟩;refine wp_region_any hm (tS hτ (fun j o ho d hd=>?_) hQ t _ _ _ _ _ _ _ O _ _ (Nat.le_of_ble_eq_true hc.1) hc.2 h ⟨sat.rel.drew,sat.size,sat.defers,sat.env,sat.sc⟩);have:=List.all_eq_true.1 OZ o (aD (by rw[bG];exact ho));rw[hd]at this;have h5:d+1<=n:=by simpa [Nat.blt]using this
 exact h5
end
section
variable{P:Program}{τ:nF}{B n nx:Nat}{l:Env}{H:Hp}{iv:Iv}{w w':World}{O:Nat->dw}{a:Act}
theorem rC{x:Operand}{K:SV->Hp->Nat->Iv->World->Prop}{s:ByteArray}{b:UInt8}
  (hu:P.underlying t=some .string) (hx:ev l x=some (.o (.v (.string s)))) (hi:ev l i=some (.o (.v (.int k m)))) (hm:0<=m) (hb:s[m.toNat]? =some b)
  (hK:∀O w',Rel H nx iv B w O w'->K (.o (.v (.int .u8 b.toNat))) H nx iv w'):xd P B ⟨dst,.index t x i,ty,pos,after,guard⟩ l H nx iv w K:=by
 refine⟨fun O w' ev' r Qi=>⟨.int .u8 b.toNat,w',iv,.inl ?_,r.here,hK O w' r⟩⟩;have e1:ev' x= .string s:=Qi x _ hx;have e2:ev' i= .int k m:=Qi i _ hi;simp[execOp,e1,e2,Instr.index,asIntOf,run_underlying hu,hm,hb]
theorem kI(w:World)(t e:TypeId)(a:Option Addr)(n c n' c':Nat)(h:P.underlying t=some (.slice e)):
  (binOp .eql t (.slice a n c) (.slice none n' c')).run P w= .ok (.bool a.isNone) w:=by
 have:∀d,(Op.equalIn (d+1) t (.slice a n c) (.slice none n' c')).run P w= .ok a.isNone w:=fun d=>by cases a<;>simp[Op.equalIn,run_underlying h]
 simp only[binOp]
 simp[Op.equal,Op.maxDepth,this 9999]
theorem jr(w:World)(g:Nat)(cs:Array Value):w.grownBy (w.setRow g cs) (some g):=
 ⟨rfl,rfl,rfl,by simp,fun k _ OY=>setRow_other _ _ _ _ fun e=>OY (by rw[e])⟩
theorem Rel.yu{w2:World}(r:Rel H nx iv B w O w')(OY:∀id b,dD H id=some b->(O id).nil=false->(O id).g≠g)(h:w'.grownBy w2 (some g)):Rel H nx iv B w2 O w2:=
 r.Bw h.size (fun id b hb hn=>h.block _ (r.low id b hb hn).2 fun e=>OY id b hb hn (Option.some.inj e)) fun lo hi hm=>⟨by have:=r.pC lo hi hm;have:=r.size;have:=h.size;omega,fun id b hb hn=>r.jb lo hi hm id b hb hn⟩
theorem BU(z:Value)(n:Nat):(Builtin.zeroCells #[z] n).toList=List.replicate n z:=by
 apply bH;intro i;simp only[Builtin.zeroCells,Array.toList_map,aM,Array.toList_range,List.getElem?_replicate]
 by_cases h:i<n
 ·simp[h,Nat.mod_one]
 ·simp[h]
theorem Ij(hτ:fk P τ){e k off tg:Nat}{x:Operand}
  {K:SV->Hp->Nat->Iv->World->Prop}
  (ht:τ t=some ⟨sz0,ag,bt,ze,4,ik,e,al,fs⟩) (Pr:τ e=some ⟨1,ag',by_,[z],tag',ik',e',al',fs'⟩) (hx:ev l x=some (.o (.v (.slice (some ⟨g,off,none⟩) k c)))) (hk:k≠0)
  (hg:∀O w',Rel H nx iv B w O w'->w'.heap[g]? =some (.cells cs.toArray tg (0,0))∧∀id b,dD H id=some b->(O id).nil=false->(O id).g≠g) (QR:off+k<=cs.length)
  (hK:∀O w' w2,Rel H nx iv B w O w'->w2.heap[g]? =some (.cells (cs.take off++List.replicate k z++cs.drop (off+k)).toArray tg (0,0))->w'.grownBy w2 (some g)->w2.heap.size=w'.heap.size->K (.o (.v (.tuple #[]))) H nx iv w2):
  xd P B ⟨dst,.call ⟨.builtin .clear,⟨[x]⟩,⟨[t]⟩⟩,ty,pos,after,guard⟩ l H nx iv w K:=by
 refine⟨fun O w' ev' r Qi=>?_⟩;have hu:=(hτ t _ ht).i4 rfl;simp only at hu;have RZ:=hτ e _ Pr;obtain⟨inf,zv,hi,PH,Oq,hz,R0⟩:=RZ.info;have hzo:=RZ.aAn z (by simp);simp only at PH R0;have WL:zv.cells= #[z]:=by apply Array.ext';simpa using R0
 obtain⟨hc,OY⟩:=hg O w' r;have QB:=run_storeCells_at (P:=P) g off tg (List.replicate k z) 0 cs.toArray w' hc (by simpa using QR) (fun v hv=>by rw[List.mem_replicate]at hv;rw[hv.2];exact hzo);have Rk:=BU z k;have e1:ev' x= .slice (some ⟨g,off,none⟩) k c:=Qi x _ hx;simp only[cD,bc]at QB;refine⟨.tuple #[],_,iv,.inl ?_,r.yu OY (jr w' g _),hK O w' _ r (setRow_heap w' g cs.toArray _ tg _ hc) (jr _ _ _) (by simp)⟩;simp[execOp,resolve,invoke,builtin,e1,Builtin.clear_,run_underlying hu,zeroValue,typeInfo,hi,hz,WL,Rk,QB,hk]
theorem KJ(hτ:fk P τ){e k off tg:Nat}{x:Operand}
  {ds:List Value} {vy:SV} {K:SV->Hp->Nat->Iv->World->Prop}
  (ht:τ t=some ⟨sz0,ag,bt,ze,4,ik,e,al,fs⟩) (Pr:τ e=some ⟨1,ag',by_,[z],tag',ik',e',al',fs'⟩) (hx:ev l x=some (.o (.v (.slice (some ⟨g,off,none⟩) k c)))) (hy:ev l y=some vy)
  (hg:∀O w',Rel H nx iv B w O w'->w'.heap[g]? =some (.cells cs.toArray tg (0,0))∧∀id b,dD H id=some b->(O id).nil=false->(O id).g≠g)
  (src:∀O w',Rel H nx iv B w O w'->∃a m,vy.den O= .slice a ds.length m∧∀(j:Nat) u,ds[j]? =some u->∃ad,a=some ad∧w'.cell? (ad.add j)=some u)
  (hds:ds.length<=k) (QR:off+ds.length<=cs.length) (h1:∀u∈ds,u.oneCell'=true)
  (hK:∀O w' w2,Rel H nx iv B w O w'->w2.heap[g]? =some (.cells (cs.take off++ds++cs.drop (off+ds.length)).toArray tg (0,0))->w'.grownBy w2 (some g)->w2.heap.size=w'.heap.size->K (.o (.v (goInt ds.length))) H nx iv w2):
  xd P B ⟨dst,.call ⟨.builtin .copy,⟨[x,y]⟩,⟨[t,t]⟩⟩,ty,pos,after,guard⟩ l H nx iv w K:=by
 refine⟨fun O w' ev' r Qi=>?_⟩;have hu:=(hτ t _ ht).i4 rfl;simp only at hu;have RZ:=hτ e _ Pr;obtain⟨inf,zv,hi,PH,Oq,hz,R0⟩:=RZ.info;simp only at PH;obtain⟨hc,OY⟩:=hg O w' r;obtain⟨ay,m,hya,Pe⟩:=src O w' r;have e1:ev' x= .slice (some ⟨g,off,none⟩) k c:=Qi x _ hx;have e2:ev' y= .slice ay ds.length m:=by rw[<-hya];exact Qi y _ hy
 refine⟨goInt ds.length,w'.setRow g (cs.take off++ds++cs.drop (off+ds.length)).toArray,iv,.inl ?_,r.yu OY (jr w' g _),hK O w' _ r (setRow_heap w' g cs.toArray _ tg _ hc) (jr _ _ _) (by simp)⟩;have hmin:Nat.min ds.length k=ds.length:=Nat.min_eq_left hds;have Oj:(Builtin.copy_ #[t,t] ty #[.slice (some ⟨g,off,none⟩) k c,.slice ay ds.length m]).run P w'= .ok (goInt ds.length) (w'.setRow g (cs.take off++ds++cs.drop (off+ds.length)).toArray):=by
  cases ay with
  |some ad=>
   have:=run_copy_row (P:=P) w' t t ty e g off k c ad ds.length m cs.toArray tg ds hu (by simp[hi,PH]) hc (by rw[hmin]) (fun j v hv=>by
    obtain⟨ad',h2,h3⟩:=Pe j v hv;injection h2 with h2
    rw[h2];exact h3) (by simpa using QR) h1
   simpa using this
  |none=>
   have hd:ds=[]:=by
    cases ds with
    |nil=>rfl
    |cons u r=>obtain⟨ad',h2,_⟩:=Pe 0 u rfl;cases h2
   subst hd;have R9:=setRow_self w' g cs.toArray tg (0,0) hc;simp[Builtin.copy_,run_underlying hu,Builtin.lenOf,Builtin.firstCells,sizeOf,typeInfo,hi,storeCells,R9]
 simp[execOp,resolve,invoke,builtin,e1,e2,Oj]
end
section
variable{P:Program}{τ:nF}{B nx:Nat}{l:Env}{H:Hp}{iv:Iv}{w w':World}{O:Nat->dw}
theorem Hs{e:Nat}{x:Operand}{K:SV->Hp->Nat->Iv->World->Prop}{a:Option Addr}
  (hu:P.underlying t=some (.slice e)) (hx:ev l x=some (.o (.v (.slice a n c))))
  (hK:∀O w',Rel H nx iv B w O w'->K (.o (.v (.int .i64 c))) H nx iv w'):xd P B ⟨dst,.call ⟨.builtin .cap,⟨[x]⟩,⟨[t]⟩⟩,ty,pos,after,guard⟩ l H nx iv w K:=by
 refine⟨fun O w' ev' r Qi=>⟨.int .i64 c,w',iv,.inl ?_,r.here,hK O w' r⟩⟩;have e1:ev' x= .slice a n c:=Qi x _ hx;simp[execOp,resolve,invoke,builtin,e1,Builtin.cap_,run_underlying hu,goInt]
theorem pf(z:Array Value)(n:Nat):(Builtin.zeroCells z n).size=n*z.size:=by simp[Builtin.zeroCells]
theorem DH(h:0<n):Builtin.nextslicecap n 0=n:=by simp[Builtin.nextslicecap,h]
theorem Ip(w:World)(t tn ty e:TypeId)(i:TypeInfo)(z:Value)(ht:P.underlying t=some (.slice e))(htn:P.underlying tn=some (.int .i64))(hi:P.info? e=some i)(hz:i.zero=some z)(Vv:z.cells.size=i.size)
  (n:Nat) (h0:0<n) (hs:0<i.size) (h63:n<=maxLen) (h48:n*i.bytes<=140737488355328) (Bc:Nat) (hB:Bc<=w.heap.size):
  ∃c w2,(Builtin.append_ #[t,tn] ty #[.slice none 0 0,.int .i64 n]).run P w= .ok (.slice (some ⟨w.heap.size,0,none⟩) n c) w2∧n<=c∧w2.ownsRow Bc e i.size (.slice (some ⟨w.heap.size,0,none⟩) 0 c) 0 []∧w.grownBy w2 none∧w2.heap.size=w.heap.size+1:=by
 have hn:n≠0:=by omega
 have h63n:(n:Int)<=9223372036854775807:=by unfold maxLen at h63;omega
 have hw:IntKind.i64.wrap (n:Int)=n:=wrap64 (by omega) h63n;have h63':¬(9223372036854775807<(n:Int)):=by omega
 have h48':¬(281474976710656<Builtin.nextslicecap n 0*i.bytes):=by rw[DH h0];omega
 have h48i:¬(281474976710656<(n:Int)*(i.bytes:Int)):=by rw[<-Int.natCast_mul];omega
 have Qu:¬((n:Int)<0):=by omega
 have hns:¬(n*i.size=0):=Nat.mul_ne_zero hn (by omega);have hge:=grownCap_ge w n 0 e;have hle:=grownCap_le_maxLen w n 0 e h63;refine⟨grownCap w n 0 e,w.drew.alloc (.cells (Builtin.zeroCells z.cells n++Builtin.zeroCells z.cells (grownCap w n 0 e-n)) e),?_,hge,?_,?_,?_⟩
 ·simp[Builtin.append_,run_underlying ht,run_underlying htn,sizeOf,typeInfo,zeroValue,hi,hz,asInt,asIntOf,hw,hn,Qu,hns,h63',h48',h48i,Question.forced,run_firstCells_none,newRow,grownCap]
 ·have:=World.ownsRow_made (e:=e) (size:=i.size) (base:=Bc) w.drew (Builtin.zeroCells z.cells n++Builtin.zeroCells z.cells (grownCap w n 0 e-n)) (grownCap w n 0 e) (by simpa using hB) hle (by
   rw[Array.size_append,pf,pf,Vv,<-Nat.add_mul];congr 1;omega)
  simpa using this
 ·refine⟨rfl,rfl,rfl,by simp,fun j hj _=>?_⟩;simp[World.alloc,Array.getElem?_push,Nat.ne_of_lt hj];rfl
 ·simp
theorem Iq(hτ:fk P τ)(hBc:Bc<=B){x:Operand}{tn e k:Nat}
  {K:SV->Hp->Nat->Iv->World->Prop}
  (ht:τ t=some ⟨sz0,ag,bt,ze,4,ik,e,al,fs⟩) (Pr:τ e=some ⟨sz,ag',by_,ze',tag',ik',e',al',fs'⟩) (htn:P.underlying tn=some (.int .i64)) (Py:0<sz) (hx:ev l x=some (.o (.v (.slice none 0 0)))) (hy:ev l y=some (.o (.v (.int .i64 k))))
  (h0:0<k) (Qt:k<=maxLen) (hb:k*by_<=140737488355328)
  (hK:∀O w' w2 c,Rel H nx iv B w O w'->k<=c->w2.ownsRow Bc e sz (.slice (some ⟨w'.heap.size,0,none⟩) 0 c) 0 []->w'.grownBy w2 none->w2.heap.size=w'.heap.size+1->K (.o (.v (.slice (some ⟨w'.heap.size,0,none⟩) k c))) H nx ((w'.heap.size,w2.heap.size)::iv) w2):
  xd P B ⟨dst,.call ⟨.builtin .append,⟨[x,y]⟩,⟨[t,tn]⟩⟩,ty,pos,after,guard⟩ l H nx iv w K:=by
 refine⟨fun O w' ev' r Qi=>?_⟩;have hu:=(hτ t _ ht).i4 rfl;simp only at hu;have RZ:=hτ e _ Pr;obtain⟨inf,z,hi,PH,Oq,hz,R0⟩:=RZ.info;have Rk:=RZ.GZ;simp only at PH Oq R0 Rk;have Vv:z.cells.size=inf.size:=by rw[PH,<-Rk,<-R0];simp
 obtain⟨c,w2,h1,h2,h3,h4,h5⟩:=Ip (P:=P) w' t tn ty e inf z hu htn hi hz Vv k h0 (by omega) Qt (by rw[Oq];exact hb) Bc (by have:=r.base;have:=r.size;omega);have e1:ev' x= .slice none 0 0:=Qi x _ hx;have e2:ev' y= .int .i64 k:=Qi y _ hy;refine⟨_,w2,(w'.heap.size,w2.heap.size)::iv,.inl ?_,r.Bw h4.size (fun id b h hn=>h4.block _ (r.low id b h hn).2 (by simp)) (fun lo hi hm=>?_),hK O w' w2 c r h2 (PH▸h3) h4 h5⟩
 ·simp[execOp,resolve,invoke,builtin,e1,e2,h1]
 ·rcases List.mem_cons.1 hm with h|h
  ·injection h with h6 h7;subst h6 h7;exact⟨Nat.le_refl _,fun id b hb hn=>by have:=(r.low id b hb hn).2;omega⟩
  ·exact⟨by have:=r.pC lo hi h;have:=r.size;omega,fun id b hb hn=>r.jb lo hi h id b hb hn⟩
end
section
variable{P:Program}{τ:nF}{B nx:Nat}{l:Env}{H:Hp}{iv:Iv}{w w':World}{O:Nat->dw}
end
theorem pg:∀(nv:List Value) (w:World) (b off:Nat) (cur:Array Value) (e:TypeId),w.heap[b]? =some (.cells cur e (0,0))->off+nv.length<=cur.size->
  (w.setCells b off nv).heap[b]? =some (.cells (cur.toList.take off++nv++cur.toList.drop (off+nv.length)).toArray e (0,0))
 |[],w,b,off,cur,e,h,_=>by simpa [World.setCells]using h
 |v::r,w,b,off,cur,e,h,hl=>by
  simp only[World.setCells]
  have RK:off+(r.length+1)<=cur.size:=by simpa using hl
  have h1:(w.setCell ⟨b,off,none⟩ v).heap[b]? =some (.cells (cur.setIfInBounds off v) e (0,0)):=by
   simp[World.setCell,Array.getElem?_modify,h]
  rw[pg r _ b (off+1) _ e h1 (by simp;omega)];congr 3;have Pf:cur.toList.length=cur.size:=by simp
  apply bH;intro i;have e1:(cur.setIfInBounds off v).toList=cur.toList.set off v:=by simp
  rw[e1];rcases cA i off with hi|hi|hi
  ·rw[bj,bj,aK (by simp;omega),aK (by simp;omega),bV (by omega),bV hi,aY (by omega)]
  ·subst hi;rw[bj,bj,aK (by simp;omega),aO (by simp;omega),bV (by omega),aQ (by simp;omega)];have:(List.take i cur.toList).length=i:=by rw[ai];omega
   rw[this,bK];rfl
  ·have l1:(List.take (off+1) (cur.toList.set off v)).length=off+1:=by rw[ai,bM];omega
   have l2:(List.take off cur.toList).length=off:=by rw[ai];omega
   have hd:List.drop (off+1+r.length) (cur.toList.set off v)=List.drop (off+(v::r).length) cur.toList:=by
    rw[List.drop_set_of_lt (by omega),List.length_cons];congr 1;omega
   obtain⟨k,rfl⟩:∃k,i=off+1+k:=⟨i-off-1,by omega⟩
   rw[bj,bj,hd];generalize List.drop (off+(v::r).length) cur.toList=tl;have A:(List.take (off+1) (cur.toList.set off v)++(r++tl))[off+1+k]? =(r++tl)[k]? :=by
    rw[aO (by omega),l1];congr 1;omega
   have B:(List.take off cur.toList++((v::r)++tl))[off+1+k]? =(r++tl)[k]? :=by
    rw[aO (by omega),l2,show off+1+k-off=k+1 by omega];rfl
   rw[A,B]
theorem ph:∀(nv:List Value) (w:World) (b off:Nat) {k:Nat},k≠b->(w.setCells b off nv).heap[k]? =w.heap[k]?
 |[],_,_,_,_,_=>rfl
 |v::r,w,b,off,k,hk=>by
  simp only[World.setCells]
  rw[ph r _ b (off+1) hk];simp[World.setCell,Array.getElem?_modify,Ne.symm hk]
theorem tT:∀(vs:List Value) (w0:World) (b o:Nat),(w0.setCells b o vs).os=w0.os∧(w0.setCells b o vs).tape=w0.tape∧(w0.setCells b o vs).output=w0.output∧(w0.setCells b o vs).heap.size=w0.heap.size
 |[],_,_,_=>⟨rfl,rfl,rfl,rfl⟩
 |v::r,w0,b,o=>by
  simp only[World.setCells]
  obtain⟨h1,h2,h3,h4⟩:=tT r (w0.setCell ⟨b,o,none⟩ v) b (o+1);exact⟨h1,h2,h3,by rw[h4];simp⟩
theorem j1{w:World}{e:Nat}{v:Value}{nv:List Value}{a:Option Addr}{j:Nat}(h:w.ownsRow Bc e sz v n xs)(hv:v= .slice a n c)(hj:j<n)(Tu:nv.length=sz)(hs:0<sz):
  ∃g,a=some ⟨g,0,none⟩∧(∀k,k<sz->(w.cell? (Addr.add ⟨g,j*sz,none⟩ k)).isSome=true∧w.frozen? (Addr.add ⟨g,j*sz,none⟩ k)=false)∧
   (setCells w ⟨g,j*sz,none⟩ nv).ownsRow Bc e sz v n (xs.take (j*sz)++nv++xs.drop (j*sz+sz))∧w.grownBy (setCells w ⟨g,j*sz,none⟩ nv) (some g)∧(setCells w ⟨g,j*sz,none⟩ nv).heap.size=w.heap.size:=by
 rcases h.2 with⟨_,h0⟩|⟨g,cap,cur,Rb,hb,hg,TF,Rt,PI,UK⟩
 ·omega
 rw[hv]at Rb;injection Rb with h1 h2 h3;subst h1 h3;have hjs:j*sz+sz<=n*sz:=by
  have:=Nat.mul_le_mul_right sz (show j+1<=n from hj);rw[Nat.add_mul,Nat.one_mul]at this;exact this
 have hns:n*sz<=c*sz:=Nat.mul_le_mul_right sz TF;obtain⟨f1,f2,f3,f4⟩:=tT nv w g (j*sz);have QD:=pg nv w g (j*sz) cur e hg (by omega);refine⟨g,rfl,fun k hk=>?_,?_,?_,?_⟩
 ·rw[dI];refine⟨?_,?_⟩
  ·rw[cell_of (g:=g) (cs:=cur.toList) (by simpa using hg),aA (by simp;omega)];rfl
  ·simp[World.frozen?,hg]
 ·rw[kW];refine⟨?_,.inr ⟨g,c,_,hv,hb,QD,TF,Rt,?_,?_⟩⟩
  ·simp only[List.length_append,ai,List.length_drop,Tu,h.1];omega
  ·simp only[List.size_toArray,List.length_append,ai,List.length_drop,Tu,Array.length_toList];omega
  ·subst UK;have Pf:cur.toList.length=cur.size:=by simp
   have ha:List.drop (j*sz+sz) (List.take (n*sz) cur.toList)=(List.drop (j*sz+sz) cur.toList).take (n*sz-(j*sz+sz)):=by rw[List.drop_take]
   rw[ha,List.take_take,Nat.min_eq_left (by omega)];show List.take (n*sz) (_++nv++_)=_;rw[Tu,List.take_append,List.take_of_length_le (by simp;omega)];congr 2;simp only[List.length_append,ai,Tu]
   omega
 ·rw[kW];exact⟨f1,f2,f3,by rw[f4];exact Nat.le_refl _,fun k hk OY=>ph nv w g _ (fun e=>OY (by rw[e]))⟩
 ·rw[kW];exact f4
structure KM(P:Program)(kt:TypeId)(KS:Value->Prop):Prop where
 desc:∃fs,P.underlying kt=some (.struct fs)
 check:∀(w:World) (em:Bool) (v:Value),KS v->(Instr.checkKey em 10000 kt v).run P w= .ok () w
 eq:∀(w:World) (a b:Value),KS a->KS b->∃c,(Op.equal kt a b).run P w= .ok c w∧(c=true↔a=b)
def Ed(w:World)(g:Nat)(ks:List Value):Prop:=∃es clock,w.heap[g]? =some (.map es clock)∧es.toList.map (·.key)=ks∧∀e∈es.toList,e.val= .bool true
section
variable{P:Program}{τ:nF}{B n nx:Nat}{l:Env}{H:Hp}{iv:Iv}{w w' w2:World}{O:Nat->dw}{a:Act}
theorem Ed.cJ(h:Ed w g ks)(hk:w2.heap[g]? =w.heap[g]?):Ed w2 g ks:=by
 obtain⟨es,c,h1,h2⟩:=h;exact⟨es,c,by rw[hk];exact h1,h2⟩
theorem sR(hb:w.heap[r]? =some (.map es clock)):(getObj r).run P w= .ok (.map es clock) w:=by simp[getObj,Sem.run,hb]
theorem Gc(o:Obj)(hb:w.heap[r]? =some (.map es clock)):(setObj r o).run P w= .ok () {w with heap:=w.heap.setIfInBounds r o}:=by simp[setObj,Sem.run,hb]
theorem pD{kt:TypeId}{KS:Value->Prop}(K:KM P kt KS){x:Value}(hx:KS x)(w:World):∀(es:List MapEntry) (i:Nat),(∀e∈es,KS e.key)->
  ((Instr.findAsking kt x es i).run P w= .ok none w∧∀e∈es,e.key≠x)∨∃j e,(Instr.findAsking kt x es i).run P w= .ok (some (j,e.val)) w∧e∈es∧e.key=x
 |[],i,_=>.inl ⟨rfl,fun e he=>by cases he⟩
 |e::es,i,h=>by
  obtain⟨c,hc,hiff⟩:=K.eq w x e.key hx (h e aG)
  cases c with
  |true=>exact .inr ⟨i,e,by simp[Instr.findAsking,hc],aG,(hiff.1 rfl).symm⟩
  |false=>
   have OY:e.key≠x:=fun he=>by have:=hiff.2 he.symm;cases this
   rcases pD K hx w es (i+1) (fun e he=>h e (aC _ he))with⟨h1,h2⟩|⟨j,e',h1,h2,h3⟩
   ·refine .inl ⟨by simp[Instr.findAsking,hc,h1],fun e' he=>?_⟩;rcases List.mem_cons.1 he with rfl|he
    ·exact OY
    ·exact h2 e' he
   ·exact .inr ⟨j,e',by simp[Instr.findAsking,hc,h1],aC _ h2,h3⟩
theorem tU{kt:TypeId}(K:KM P kt KS){x:Value}(hx:KS x)(w:World)(es:List MapEntry)(h:∀e∈es,KS e.key):
  ((Instr.findKey kt x es).run P w= .ok none w∧∀e∈es,e.key≠x)∨∃j e,(Instr.findKey kt x es).run P w= .ok (some (j,e.val)) w∧e∈es∧e.key=x:=by
 obtain⟨fs,PE⟩:=K.desc
 cases es with
 |nil=>exact .inl ⟨by simp[Instr.findKey,run_underlying PE,Instr.findNow],fun e he=>by cases he⟩
 |cons e es=>
  have hs:Instr.findNow (.struct fs) x (e::es) 0=none:=by
   unfold Instr.findNow
   cases x<;>cases e.key<;>rfl
  have:=pD K hx w (e::es) 0 h;rcases this with⟨h1,h2⟩|⟨j,e',h1,h2,h3⟩
  ·exact .inl ⟨by simp[Instr.findKey,run_underlying PE,hs,h1],h2⟩
  ·exact .inr ⟨j,e',by simp[Instr.findKey,run_underlying PE,hs,h1],h2,h3⟩
theorem wZ{K:SV->Hp->Nat->Iv->World->Prop}
  (hK:∀O w' w2,Rel H nx iv B w O w'->Ed w2 w'.heap.size []->w'.grownBy w2 none->w2.heap.size=w'.heap.size+1->K (.o (.v (.map (some w'.heap.size)))) H nx ((w'.heap.size,w'.heap.size+1)::iv) w2):
  xd P B ⟨dst,.makeMap t none,ty,pos,after,guard⟩ l H nx iv w K:=by
 refine⟨fun O w' ev' r Qi=>?_⟩;have hp:(w'.alloc (.map #[] 0)).heap=w'.heap.push (.map #[] 0):=rfl;have hg:w'.grownBy (w'.alloc (.map #[] 0)) none:=⟨rfl,rfl,rfl,by rw[hp,Array.size_push];omega,fun k hk _=>by rw[hp,Array.getElem?_push,aJ (Nat.ne_of_lt hk)]⟩
 have PH:(w'.alloc (.map #[] 0)).heap.size=w'.heap.size+1:=by rw[hp,Array.size_push]
 refine⟨.map (some w'.heap.size),w'.alloc (.map #[] 0),(w'.heap.size,w'.heap.size+1)::iv,.inl ?_,r.Bw (by omega) (fun id b hb hn=>hg.block _ (r.low id b hb hn).2 (by simp)) ?_,
  hK O w' _ r ⟨#[],0,by rw[hp];simp,rfl,by simp⟩ hg PH⟩
 ·simp[execOp,Instr.makeMap]
 ·intro lo hi hm;rcases List.mem_cons.1 hm with e|hm
  ·injection e with e1 e2;subst e1 e2;exact⟨by omega,fun id b hb hn h=>by have:=(r.low id b hb hn).2;omega⟩
  ·exact⟨by have:=r.pC lo hi hm;have:=r.size;omega,fun id b hb hn=>r.jb lo hi hm id b hb hn⟩
theorem yw{kt et:Nat}{m x:Operand}{K:SV->Hp->Nat->Iv->World->Prop}(Q:KM P kt KS){vx:SV}
  (ht:P.underlying t=some (.map kt et)) (hz:∀w,(zeroValue et).run P w= .ok (.bool false) w) (hm:ev l m=some (.o (.v (.map (some g))))) (hx:ev l x=some vx) (UL:∀O,vx.den O=key) (WM:KS key) (QX:∀k∈ks,KS k)
  (hg:∀O w',Rel H nx iv B w O w'->Ed w' g ks)
  (hK:∀O w' b,Rel H nx iv B w O w'->(b=true↔key∈ks)->K (.o (.v (.bool b))) H nx iv w'):
  xd P B ⟨dst,.lookup t m x false,ty,pos,after,guard⟩ l H nx iv w K:=by
 refine⟨fun O w' ev' r Qi=>?_⟩;obtain⟨es,clock,h1,h2,h3⟩:=hg O w' r;have e1:ev' m= .map (some g):=Qi m _ hm;have e2:ev' x=key:=by rw[Qi x _ hx,UL]
 have hes:∀e∈es.toList,KS e.key:=fun e he=>QX _ (by rw[<-h2];exact aV.2 ⟨e,he,rfl⟩);have hck:=Q.check w' es.isEmpty key WM;rcases tU Q WM w' es.toList hes with⟨f1,f2⟩|⟨j,e,f1,f2,f3⟩
 ·refine⟨.bool false,w',iv,.inl ?_,r.here,hK O w' false r ⟨(fun h=>by cases h),fun h=>?_⟩⟩
  ·simp[execOp,Instr.lookup,e1,e2,run_underlying ht,sR h1,hck,f1,hz]
  ·rw[<-h2]at h;obtain⟨e,he,hk⟩:=aV.1 h;exact absurd hk (f2 e he)
 ·refine⟨.bool true,w',iv,.inl ?_,r.here,hK O w' true r ⟨fun _=>by rw[<-h2];exact aV.2 ⟨e,f2,f3⟩,fun _=>rfl⟩⟩;have:=h3 e f2;simp[execOp,Instr.lookup,e1,e2,run_underlying ht,sR h1,hck,f1,this]
theorem rh{kt et:Nat}{m x:Operand}{K:SV->Hp->Nat->Iv->World->Prop}(Q:KM P kt KS){vx:SV}
  (ht:P.underlying t=some (.map kt et)) (hm:ev l m=some (.o (.v (.map (some g))))) (hx:ev l x=some vx) (UL:∀O,vx.den O=key) (hy:ev l y=some (.o (.v (.bool true)))) (WM:KS key) (QX:∀k∈ks,KS k) (Rv:key∉ks)
  (hg:∀O w',Rel H nx iv B w O w'->Ed w' g ks∧∀id b,dD H id=some b->(O id).nil=false->(O id).g≠g)
  (hK:∀O w' w2,Rel H nx iv B w O w'->Ed w2 g (ks++[key])->w'.grownBy w2 (some g)->w2.heap.size=w'.heap.size->K (.o (.v undef)) H nx iv w2):
  xd P B ⟨dst,.mapUpdate t m x y,ty,pos,after,guard⟩ l H nx iv w K:=by
 refine⟨fun O w' ev' r Qi=>?_⟩;obtain⟨⟨es,clock,h1,h2,h3⟩,OY⟩:=hg O w' r;have e1:ev' m= .map (some g):=Qi m _ hm;have e2:ev' x=key:=by rw[Qi x _ hx,UL]
 have e3:ev' y= .bool true:=Qi y _ hy;have hes:∀e∈es.toList,KS e.key:=fun e he=>QX _ (by rw[<-h2];exact aV.2 ⟨e,he,rfl⟩);have hck:=Q.check w' false key WM;have PF:g<w'.heap.size:=(bA.1 h1).1;rcases tU Q WM w' es.toList hes with⟨f1,f2⟩|⟨j,e,f1,f2,f3⟩
 ·let ob:Obj:=.map (es.push {key:=key,val:=.bool true,born:=clock}) (clock+1)
  have Ot:w'.grownBy {w' with heap:=w'.heap.setIfInBounds g ob} (some g):=⟨rfl,rfl,rfl,by simp,fun k _ hk=>by
   rw[Array.getElem?_setIfInBounds_ne]
   exact fun e=>hk (by rw[e])⟩
  refine⟨undef,{w' with heap:=w'.heap.setIfInBounds g ob},iv,.inr ⟨?_,rfl⟩,r.yu OY Ot,hK O w' _ r ⟨es.push {key:=key,val:=.bool true,born:=clock},clock+1,by simp[PF,ob],?_,?_⟩ Ot (by simp)⟩
  ·simp[execOp,Instr.mapUpdate,e1,e2,e3,run_underlying ht,sR h1,Gc _ h1,hck,f1,ob]
  ·simp[h2]
  ·intro e he;simp at he;rcases he with he|rfl
   ·exact h3 e (by simpa using he)
   ·rfl
 ·exact absurd (by rw[<-h2];exact aV.2 ⟨e,f2,f3⟩) Rv
theorem Gd{len e:Nat}{x:Operand}{K:SV->Hp->Nat->Iv->World->Prop}{vx:SV}{cs:Array Value}{u:Value}
  (hu:P.underlying t=some (.array len e)) (hs:∀w,(sizeOf e).run P w= .ok 1 w) (hp:∀(w:World) (j:Nat) v,cs[j]? =some v->(part e cs j).run P w= .ok v w) (hx:ev l x=some vx) (Uw:∀O,vx.den O= .agg cs) (hi:ev l i=some (.o (.v (.int k m)))) (hm:0<=m∧m<len) (hc:cs[m.toNat]? =some u)
  (hK:∀O w',Rel H nx iv B w O w'->K (.o (.v u)) H nx iv w'):xd P B ⟨dst,.index t x i,ty,pos,after,guard⟩ l H nx iv w K:=by
 refine⟨fun O w' ev' r Qi=>⟨u,w',iv,.inl ?_,r.here,hK O w' r⟩⟩;have e1:ev' x= .agg cs:=by rw[Qi x _ hx,Uw]
 have e2:ev' i= .int k m:=Qi i _ hi;have e3:=hp w' _ u hc;simp[execOp,e1,e2,Instr.index,asIntOf,run_underlying hu,hm.1,hm.2,hs,e3]
theorem Ir(hτ:fk P τ){id2 off k:Nat}{e2:TypeId}{ad x:Operand}{K:SV->Hp->Nat->Iv->World->Prop}
  (ha:ev l ad=some (.o (.p id off))) (hx:ev l x=some (.o (.s id2 0 k c))) (PV:id<nx) (WN:dD H id2=some (.arr e2 cs2)) (hs:vJ H tH) (ho:DD id2 tH=true)
  (hK:∀O w',Rel H nx iv B w O w'->DG τ B t (.o (.p id off)) (.o (.v (.slice (some ⟨(O id2).g,0,none⟩) k c))) tH nx (((O id2).g,(O id2).g+1)::iv) w' (fun H' w2=>K (.o (.v undef)) H' nx (((O id2).g,(O id2).g+1)::iv) w2)):
  OpG P B ⟨dst,.store t ad x,ty,pos,after,guard⟩ l H nx iv w K:=by
 refine⟨fun O w' ev' r Qi=>?_⟩;have e1:ev' ad=(SV.o (.p id off)).den O:=Qi ad _ ha;have e2:ev' x= .slice (some ⟨(O id2).g,0,none⟩) k c:=Qi x _ hx;have r2:=r.free WN (by simp) (r.fits WN).1 hs ho;have sat:Sat 0 [] tH nx (((O id2).g,(O id2).g+1)::iv) B w' O ⟨#[],[]⟩ w':=⟨r2,rfl,rfl,(fun u v hv=>by cases hv),fun u v hv=>by cases hv⟩
 obtain⟨H',w2,w3,hk,PX,Oj⟩:=wh (addr:=.o (.p id off)) (x:=.o (.v (.slice (some ⟨(O id2).g,0,none⟩) k c))) hτ sat (by exact PV) (by simp[SV.sc,At.sc]) (hK O w' r);refine⟨w2,w3,H',_,?_,PX,hk⟩;have Oj:(Instr.storeAt t ((SV.o (.p id off)).den O) (.slice (some ⟨(O id2).g,0,none⟩) k c)).run P w'= .ok () w3:=Oj;simp[execOp,e1,e2,Oj]
def kJ(v:dw)(iv:Iv):Iv:=match v.nil with
 |true=>iv
 |false=>(v.g,v.g+1)::iv
theorem nJ{v:dw}{iv:Iv}:∀p,p∈iv->p∈kJ v iv:=fun p hp=>by
 unfold kJ
 cases v.nil with
 |true=>exact hp
 |false=>exact aC _ hp
theorem Ee{v:dw}{iv:Iv}(h:v.nil=false):(v.g,v.g+1)∈kJ v iv:=by
 unfold kJ;rw[h];exact aG
theorem Rel.drop{H':Hp}{b:jq}(r:Rel H nx iv B w O w')(PV:dD H id=some b)(hd:b≠ .dead)(hs:vJ H H')(ho:DD id H'=true):Rel H' nx (kJ (O id) iv) B w' O w':=by
 have h1:Rel H' nx iv B w' O w':=Rel.mk' rfl rfl rfl (Nat.le_refl _) (by have:=r.base;have:=r.size;omega) (fun lo hi hm=>by have:=r.pC lo hi hm;have:=r.size;omega) (fun j c h=>r.keys j c (hs.get h))
  (fun j c h=>r.fits (hs.get h)) (fun j c h=>r.scopd (hs.get h)) (fun j k c e h h'=>r.inj j k c e (hs.get h) (hs.get h')) (fun j c h=>r.low j c (hs.get h)) (fun _ _ _=>rfl) (fun lo hi hm j c h=>r.jb lo hi hm j c (hs.get h))
 unfold kJ
 cases hn:(O id).nil with
 |false=>exact r.free PV hd hn hs ho
 |true=>exact h1
theorem oF(hτ:fk P τ){id3 id2 c1 t3:Nat}{c:At}{b2:jq}{x:Operand}{vx:SV}{K:SV->Hp->Nat->Iv->World->Prop}
  (hx:ev l x=some vx) (hy:ev l y=some (.o (.s id3 0 1 c1))) (WO:dD H id3=some (.box t3 [c])) (WN:dD H id2=some b2) (Pg:b2≠ .dead) (hs:vJ H tH) (ho3:DD id3 tH=true) (UM:DD id2 tH=true)
  (hK:∀O w',Rel H nx iv B w O w'->Rel tH nx (((O id3).g,(O id3).g+1)::kJ (O id2) iv) B w' O w'->w'.heap[(O id3).g]? =some (.cells #[c.den O] t3 (0,0))->
   yR τ B t vx (.o (.v (.slice (some ⟨(O id3).g,0,none⟩) 1 c1))) tH nx (((O id3).g,(O id3).g+1)::kJ (O id2) iv) w' (fun v H' Oe=>K v H' Oe (((O id3).g,(O id3).g+1)::kJ (O id2) iv) w')):
  OpA P B ⟨dst,.call ⟨.builtin .append,⟨[x,y]⟩,⟨[t,t]⟩⟩,ty,pos,after,guard⟩ l H nx iv w K:=by
 refine⟨fun O w' ev' r Qi=>?_⟩;have e1:ev' x=vx.den O:=Qi x _ hx;have e2:ev' y= .slice (some ⟨(O id3).g,0,none⟩) 1 c1:=Qi y _ hy;have WQ:=(r.fits WO).1;have r1:=r.drop WN Pg hs UM;have r2:Rel tH nx (((O id3).g,(O id3).g+1)::kJ (O id2) iv) B w' O w':=by
  refine r1.more (by have:=(r.low id3 _ WO WQ).2;omega) fun j cc hj XF he=>?_;obtain⟨h2,h3⟩:=DD.get ho3 hj;exact h2 (r.inj j id3 cc _ (hs.get hj) WO h3 (by simp) XF WQ (by omega))
 have sat:Sat 0 [] tH nx (((O id3).g,(O id3).g+1)::kJ (O id2) iv) B w' O ⟨#[],[]⟩ w':=⟨r2,rfl,rfl,(fun u v hv=>by cases hv),fun u v hv=>by cases hv⟩
 obtain⟨rr,H',Oe,ρ',w2,hk,PX,hr,Qv,hρ,Oj⟩:=tV (ty:=ty) hτ sat (hK O w' r r2 (by have:=r.box id3 _ _ WO;simpa using this));refine⟨rr,H',Oe,_,ρ',w',w2,?_,PX,hr,Qv,hρ,hk⟩;have Oj:(Builtin.append_ #[t,t] ty #[vx.den O,.slice (some ⟨(O id3).g,0,none⟩) 1 c1]).run P w'= .ok (rr.den ρ') w2:=Oj;simp[execOp,resolve,invoke,builtin,e1,e2,Oj]
end
end Go.Sx
