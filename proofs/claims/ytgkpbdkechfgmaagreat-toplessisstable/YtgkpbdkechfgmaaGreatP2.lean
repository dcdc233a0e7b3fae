/- Texts Sx12 to Sx23: lemmas, each with its conditions. -/
import Derived.Laws.BytesString
import Derived.Test.YtgkpbdkechfgmaaGreatP1
namespace Go.Sx
open Go
variable{args:(Nat->dL)->Array Value}{K Q0 next:Act->World->Prop}{R R':Ending->World->Prop}{k:Env->Prop}{l:List (Nat×TI)}{B g:Nat}{O:Nat->dL}{d:Option Tmp}{P:Program}
section
variable{P:Program}{τ:mo}{ops:Array Oper}{B n nx:Nat}{l:Env}{H:Hp}{iv:Iv}{w w':World}{O:Nat->dL}{a:Act}
variable{Pd:List Nat}{E:List (Nat×Nat)}{lx la:Array Bool}{Q:Exit->Act->World->Prop}{md:Region.Mode}
theorem D2(hr:Region.ready md ops la=[])(h:Q .normal a w):∀fuel,uf P md ops Q fuel la a w
 |0=>⟨hr,h⟩
 |_+1=>⟨fun _=>h,by rw[hr];simp⟩
theorem xy(sat:Sat n l H nx iv B w O a w'){K:SV->Hp->Iv->World->Prop}{o:Oper}
  (h:D3 P B g args H nx iv w K) (TW:(execOp a.eval o).run P w'=(callFunc g (args O)).run P w')
  (hn:∀v w2,K (.o (.v v)) H ((w'.heap.size,w2.heap.size)::iv) w2->Ext w' w2->Sat n l H nx ((w'.heap.size,w2.heap.size)::iv) B w2 O a w2->next (a.put o.dst v) w2):o.wp P a w' next Q:=by
 have hc:=h.h O w' sat.rel;unfold Oper.wp;rw[TW,hc.e.h];refine Calls.mono hc.c fun e w2 he=>?_;obtain⟨v,rfl,SF,hK⟩:=he;refine hn v w2 hK SF ?_;have r:=(sat.rel.ext SF).here;refine sat.next (ρ':=O) ?_ (Nat.le_refl _) (fun _ _=>rfl)
 refine Rel.mk' r.os r.tape r.output r.size r.base ?_ r.keys (fun id b hb=>r.fits hb) (fun id b hb=>r.scopd hb) r.inj r.low r.ub ?_
 ·intro lo hi hm;rcases List.mem_cons.1 hm with hm|hm
  ·injection hm with h1 h2;omega
  ·exact r.qW lo hi hm
 ·intro lo hi hm id b hb Oe;rcases List.mem_cons.1 hm with hm|hm
  ·injection hm with h1 h2;have:=(sat.rel.low id b hb Oe).2;omega
  ·exact r.ji lo hi hm id b hb Oe
theorem xz{o:Oper}{K:SV->Hp->Nat->Iv->World->Prop}(h:xu true P τ B o l H nx iv w K)(sat:Sat n l H nx iv B w O a w')(hr:uc o.op=false)(ha:La o.op=false)(hh:rC o=false)
  (hn:∀v w2,K (.o (.v v)) H nx ((w'.heap.size,w2.heap.size)::iv) w2->Ext w' w2->Sat n l H nx ((w'.heap.size,w2.heap.size)::iv) B w2 O a w2->next (a.put o.dst v) w2):o.wp P a w' next Q:=by
 obtain⟨dst,op,ty,pos,after,guard⟩:=o;simp only at hr ha;have:∃f args x,op= .call ⟨.value f,args,x⟩:=by
  simp only[rC,hr,ha,Bool.or_self,Bool.false_or,Bool.not_eq_false']at hh;split at hh
  ·exact⟨_,_,_,rfl⟩
  ·cases hh
 obtain⟨f,⟨args⟩,x,rfl⟩:=this;simp only[xu]at h;obtain⟨vf,h1,hf,RD⟩:=dF sat h;obtain⟨vs,h2,Qw,hss⟩:=qY sat h1;have Rs:(args.toArray).map a.eval=nP O vs:=by
  apply Array.ext';simp[nP,Qw]
 split at h2
 ·rename_i g first caps
  refine xy sat h2 ?_ (fun v w2 hK he hs=>hn v w2 hK he hs);simp[execOp,resolve,hf,SV.den,At.den,Deferred.ofValue,invoke,Rs]
 ·rename_i g ids;refine xy sat h2 ?_ (fun v w2 hK he hs=>hn v w2 hK he hs);simp[execOp,resolve,hf,SV.den,At.den,Deferred.ofValue,invoke,Rs]
 ·exact h2.elim
def QN(Q0:Act->World->Prop):Exit->Act->World->Prop:=fun e a w=>e= .normal∧Q0 a w
theorem yA(sat:Sat n l H nx iv B w O a w'){o:Oper}{yes no:Env->Prop}(h:so ops.toList o.guard l yes no)(hg:o.guard=none∨Pd=[]):
  (Region.wanted o (yielded ops a.tmps)=true∧∃l',yes l'∧Sat n l' H nx iv B w O a w'∧(Pd≠[]->l'=l))∨
  (Region.wanted o (yielded ops a.tmps)=false∧Pd=[]∧∃l',no l'∧Sat n l' H nx iv B w O a w'):=by
 by_cases SY:o.guard=none
 ·rw[SY]at h;exact .inl ⟨by simp[Region.wanted,SY],l,h,sat,fun _=>rfl⟩
 ·have WD:=hg.resolve_left SY;rcases k8 sat h with⟨h1,l',h2,h3⟩|⟨h1,l',h2,h3⟩
  ·exact .inl ⟨h1,l',h2,h3,fun OS=>absurd WD OS⟩
  ·exact .inr ⟨h1,WD,l',h2,h3⟩
theorem kl(sat:Sat n l H nx iv B w O a w'){v:SV}(h:DZ d v l k)(hd:∀t,d=some t->t<n)(hv:v.sc nx):
  ∃l',k l'∧Sat n l' H nx iv B w O (a.put d (v.den O)) w'∧∀t,fR l t=none->d≠some t->fR l' t=none:=by
 unfold DZ at h;split at h
 ·rename_i t;exact⟨_,h,sat.put (hd t rfl) hv,fun u hu OS=>by rw[eW,aI (fun e=>OS (by rw[e]))];exact hu⟩
 ·exact⟨l,h,sat,fun t ht _=>ht⟩
theorem pB{Q:Exit->Act->World->Prop}{i:Nat}{o:Oper}(hi:ops[i]? =some o)
  (h:(Region.wanted o (yielded ops a.tmps)=true∧o.wp P a w' K Q)∨(Region.wanted o (yielded ops a.tmps)=false∧K (a.put o.dst undef) w')):wpOp P ops Q i K a w':=by
 unfold wpOp;simp only[hi]
 rcases h with⟨h1,h2⟩|⟨h1,h2⟩
 ·rw[if_pos h1];exact .inl h2
 ·rw[aI (by simp[h1])];exact h2
theorem JP(hτ:fT P τ)(OV:∀(j:Nat) o,ops[j]? =some o->∀d,o.dst=some d->d<n)(Ox:∀(j:Nat) (o:Oper) cs b,ops[j]? =some o->o.op≠ .select cs b)
  {K:KT} (hQ:∀l' H' OW iv' w2 ρ' a' w3,K l' H' OW iv' w2->Sat n l' H' OW iv' B w2 ρ' a' w3->Q0 a' w3):
  ∀(m fuel:Nat) (π:List It) (lx la:Array Bool) (Pd:List Nat) (E:List (Nat×Nat)) (l:Env) (H:Hp) (nx:Nat) (iv:Iv) (w:World) (O:Nat->dL) (a:Act) (w':World),
   fuel+π.length=m->NB la<=fuel->oy ops π lx Pd=true->JK P τ B ops.toList π l H nx iv w K->Lb P ops n B Pd E lx la l H nx iv w O a w'->uf P .any ops (QN Q0) fuel la a w':=by
 intro m
 induction m using Nat.strongRecOn with
 |_ m ih=>
 intro fuel π lx la Pd E l H nx iv w O a w' hm WE hc h s
 match π with
 |[]=>
  simp only[oy,aw,List.isEmpty_iff]at hc;obtain⟨hr,rfl⟩:=hc;refine D2 ?_ ⟨rfl,hQ _ _ _ _ _ _ _ _ h s.sat⟩ fuel;refine List.eq_nil_iff_forall_not_mem.2 fun j hj=>?_;obtain⟨h1,o,h2,h3⟩:=eQ.1 hj;have:j∈Region.ready .any ops lx:=by
   refine eQ.2 ⟨?_,o,h2,fun e he hb=>?_⟩
   ·have Ou:j<lx.size:=by rw[s.Lc,<-s.Lg];exact(ah.1 h1).1
    rw[Array.getElem?_eq_getElem Ou]
    cases hb:lx[j]with
    |false=>rfl
    |true=>
     have:=(s.la j).2 (.inl (by rw[Array.getElem?_eq_getElem Ou,hb]));rw[h1]at this;cases this
   ·rcases(s.la e.on).1 (h3 e he hb)with h4|⟨g,h4⟩
    ·exact h4
    ·exact absurd (s.Hn _ _ h4) (by simp)
  rw[hr]at this
  cases this
 | .p i::r=>
  obtain⟨o,ho,h1⟩:=gU h;rw[bA]at ho;simp only[oy,ho,aw]at hc;obtain⟨⟨⟨⟨⟨⟨c1,c2⟩,c3⟩,c4⟩,c5⟩,c6⟩,c7⟩:=hc
  cases hd:o.dst with
  |none=>rw[hd]at c3;cases c3
  |some d=>
  rw[hd]at c3;obtain⟨b,v,mk,obj,hK,-,-,-,-,-,VV⟩:=nQ hτ h1 s.sat c1;rw[hd]at hK;obtain⟨l',hl,QT,Ps⟩:=rk hK;have hmem:∀j∈Pd,j≠i:=fun j hj=>by
   have:=List.all_eq_true.1 c5 j hj;simpa only[Bool.not_eq_true',mr]using this
  have c6':∀j∈Pd,∀oj,ops[j]? =some oj->o.apart ops oj=true∧oj.apart ops o=true:=fun j hj oj Qv=>by
   have:=List.all_eq_true.1 c6 j hj;simpa only[Hl,Qv,aw]using this
  have hlxi:lx[i]? =some false:=by
   have:lx.getD i true=false:=by simpa using c4
   rw[au]at this
   cases hx:lx[i]? with
   |none=>rw[hx]at this;cases this
   |some b=>rw[hx]at this;simp at this;rw[this]
  refine ih (fuel+r.length) (by simp only[List.length_cons]at hm;omega) fuel r lx la (i::Pd) E l' H nx iv w O a w' rfl WE c7 hl ?_;refine⟨⟨s.sat.rel,s.sat.size,s.sat.defers,fun t v hv=>s.sat.env t v (Ps t v hv).2,fun t v hv=>s.sat.sc t v (Ps t v hv).2⟩,s.Lc,s.Lg,s.la,fun j g hg=>aC _ (s.Hn j g hg),fun j hj=>?_,s.eg,s.inj,fun j hj j' hj' OS oj oj' h3 h4=>?_⟩
  ·rcases List.mem_cons.1 hj with rfl|hj
   ·refine⟨hlxi,o,d,mk,obj,ho,c1,by simpa using c2,⟨hd,by simpa using c3⟩,VV,QT,fun g hg=>absurd (s.Hn _ _ hg) (fun Rc=>hmem _ Rc rfl)⟩
   ·obtain⟨h0,oj,dj,mkj,objj,g1,g2,g3,g4,g5,g6,g7⟩:=s.pd j hj;exact⟨h0,oj,dj,mkj,objj,g1,g2,g3,g4,g5,JN Ps g6,g7⟩
  ·rcases List.mem_cons.1 hj with e1|k1<;>rcases List.mem_cons.1 hj' with e2|k2
   ·exact absurd (e1.trans e2.symm) OS
   ·rw[e1,ho]at h3;injection h3 with h3;subst h3;exact(c6' j' k2 oj' h4).1
   ·rw[e2,ho]at h4;injection h4 with h4;subst h4;exact(c6' j k1 oj h3).2
   ·exact s.ap j k1 j' k2 OS oj oj' h3 h4
 | .x i::r=>
  obtain⟨o,ho,h1⟩:=gU h;unfold gv at h1;rw[bA]at ho;simp only[oy,ho,aw]at hc;obtain⟨⟨⟨⟨c1,c2⟩,c3⟩,c4⟩,c5⟩:=hc;have c2:i∈Region.ready .any ops lx:=by simpa using c2
  have c1:o.guard=none∨Pd=[]:=by simpa using c1
  have Qx:∀j∈Pd,j≠i->∀oj,ops[j]? =some oj->o.apart ops oj=true:=fun j hj PK oj Qv=>by
   have:=List.all_eq_true.1 c3 j hj;simpa only[Hl,Qv,Bool.or_eq_true,mr.2 PK,Bool.false_eq_true,false_or]using this
  obtain⟨Pt,o',Rt,hwait⟩:=eQ.1 c2;rw[ho]at Rt;injection Rt with Rt;subst Rt;simp only[List.length_cons]at hm;have VH:=OV i o ho;by_cases hE:∃g,(i,g)∈E
  ·
   obtain⟨g,hg⟩:=hE;obtain⟨h0,o',d,mk',obj',g1,g2,g3,g4,g5,g6,g7⟩:=s.pd i (s.Hn i g hg);rw[ho]at g1;injection g1 with g1;subst g1;rw[g3,FO g2]at h1;have h1:xu true P τ B o l H nx iv w fun v H' OW iv' w'=>DZ o.dst v l fun l'=>JK P τ B ops.toList r l' H' OW iv' w' K:=h1;obtain⟨b,v,mk,obj,hK,Pe,hb,hv,VU,QB,VV⟩:=nQ hτ h1 s.sat g2;obtain⟨l',hl,s'⟩:=s.JO ho hg hb hv VU QB VV hK VH Qx;exact ih (fuel+r.length) (by omega) fuel r _ _ _ _ _ _ _ _ _ _ _ _ rfl WE c5 hl s'
  ·have VT:∀g,(i,g)∉E:=fun g hg=>hE ⟨g,hg⟩;have RE:la[i]? =some false:=by
    have Ou:i<la.size:=by rw[s.Lg,<-s.Lc];exact(ah.1 Pt).1
    rw[Array.getElem?_eq_getElem Ou]
    cases hb:la[i]with
    |false=>rfl
    |true=>
     rcases(s.la i).1 (by rw[Array.getElem?_eq_getElem Ou,hb])with h2|h2
     ·rw[Pt]at h2;cases h2
     ·exact absurd h2 hE
   have SG:i∈Region.ready .any ops la:=eQ.2 ⟨RE,o,ho,fun e he hb=>(s.la e.on).2 (.inl (hwait e he hb))⟩;have UR:=k7 RE;obtain⟨f,rfl⟩:∃f,fuel=f+1:=⟨fuel-1,by omega⟩
   cases hR:uc o.op with
   |true=>
    rw[hR]at c4;obtain⟨oz,Oa,Qn,hb3,SR⟩:=FL c4 s.Lc;have QL:∀j,oz j->la.getD j false=false:=fun j hj=>by
     cases hl:la.getD j false with
     |false=>rfl
     |true=>
      have hl:la[j]? =some true:=by
       rw[au]at hl
       cases hx:la[j]? with
       |none=>rw[hx]at hl;cases hl
       |some b=>rw[hx]at hl;simp at hl;rw[hl]
      rcases(s.la j).1 hl with h4|⟨g,h4⟩
      ·have:=Qn j hj;rw[au,h4]at this;cases this
      ·exact absurd hj (hb3 j (s.Hn j g h4))
    have RF:∀j oj,ops[j]? =some oj->j≠i->la.getD j true=false->¬oz j->o.apart ops oj=true∧(Hm o.op=true∨rC oj=false):=by
     intro j oj Qv PK Rv Rw;have Sn:lx.getD j true=false:=by
      rw[au]at Rv ⊢
      cases hx:lx[j]? with
      |none=>
       have:la[j]? =none:=by
        rw[Array.getElem?_eq_none_iff]at hx ⊢;rw[s.Lg,<-s.Lc];exact hx
       rw[this]at Rv;cases Rv
      |some b=>
       cases b with
       |false=>rfl
       |true=>rw[(s.la j).2 (.inl hx)]at Rv;cases Rv
     exact SR j oj Qv PK Sn Rw
    rcases yA s.sat h1 c1 with⟨hw,l1,h2,sat1,QT⟩|⟨hw,WD,l1,h2,sat1⟩
    ·obtain⟨v,hK,Qw,OY⟩:=(lj hτ h2 sat1 hR).resolve_right (fun hh=>by have:=hh.1;rw[rn hR]at this;cases this);obtain⟨l2,h3,sat2,Ps⟩:=kl sat1 hK VH Qw;refine sq (pu:=Hm o.op) (v:=v.den O) ho Ox (fun c a w hq=>?_) oz Oa f la a w' QL RF SG (.inl ⟨hw,fun w3 he=>OY w3 (he.imp id fun he=>sat1.rel.ext he)⟩) ?_
     ·exact absurd hq.1 (by simp)
     ·refine ih (f+r.length) (by omega) f r _ _ _ _ _ _ _ _ _ _ _ _ rfl (by omega) c5 h3 (s.step Ox ho VT Qx sat2 ?_ (fun _ _ _=>Ext.refl _) (fun g _ TA Rk _=>⟨TA,Rk⟩));intro j hj PK d hd OS;have QT:=QT (by intro e;rw[e]at hj;cases hj);subst QT;exact Ps d hd OS
    ·obtain⟨l2,h3,sat2,Ps⟩:=kl (v:=.o (.v undef)) sat1 h2 VH trivial;refine sq (pu:=Hm o.op) (v:=undef) ho Ox (fun c a w hq=>?_) oz Oa f la a w' QL RF SG (.inr ⟨hw,rfl⟩) ?_
     ·exact absurd hq.1 (by simp)
     ·refine ih (f+r.length) (by omega) f r _ _ _ _ _ _ _ _ _ _ _ _ rfl (by omega) c5 h3 (s.step Ox ho VT Qx sat2 ?_ (fun _ _ _=>Ext.refl _) (fun g _ TA Rk _=>⟨TA,Rk⟩));intro j hj;rw[WD]at hj;cases hj
   |false=>
    rw[hR]at c4;simp only[aw]at c4;obtain⟨c4,c6⟩:=c4;have hpick:∀j∈Region.ready .any ops la,j=i∨(j≠i∧j∈Pd):=by
     intro j hj;by_cases PK:j=i
     ·exact .inl PK
     ·refine .inr ⟨PK,?_⟩;apply Decidable.byContradiction;intro hjP;obtain⟨k1,oj,k2,k3⟩:=eQ.1 hj;have:j∈Region.ready .any ops (DU lx (Pd.filter fun j=> !Nat.beq j i)):=by
       refine eQ.2 ⟨?_,oj,k2,fun e he hb=>?_⟩
       ·have Ou:j<(DU lx (Pd.filter fun j=> !Nat.beq j i)).size:=by rw[DY,s.Lc,<-s.Lg];exact(ah.1 k1).1
        rw[Array.getElem?_eq_getElem Ou]
        cases hb:(DU lx (Pd.filter fun j=> !Nat.beq j i))[j]with
        |false=>rfl
        |true=>
         rcases(xx _ lx j).1 (by rw[Array.getElem?_eq_getElem Ou,hb])with h4|⟨h4,_⟩
         ·have:=(s.la j).2 (.inl h4);rw[k1]at this;cases this
         ·exact absurd (List.mem_filter.1 h4).1 hjP
       ·rw[xx];rcases(s.la e.on).1 (k3 e he hb)with h4|⟨g,h4⟩
        ·exact .inl h4
        ·refine .inr ⟨List.mem_filter.2 ⟨s.Hn _ _ h4,?_⟩,?_⟩
         ·simp only[Bool.not_eq_true',mr]
          intro e2;rw[e2]at h4;exact VT g h4
         ·have:=(s.pd _ (s.Hn _ _ h4)).1;exact(ah.1 this).1
      have:=List.all_eq_true.1 c6 j this;exact PK (eC this)
    refine⟨fun he=>(by rw[he]at SG;cases SG),fun j hj=>?_⟩;have Rv:=(eQ.1 hj).1;have hunj:=k7 Rv;rcases hpick j hj with rfl|⟨PK,hjP⟩
    ·
     refine pB ho ?_;rcases yA s.sat h1 c1 with⟨hw,l1,h2,sat1,QT⟩|⟨hw,WD,l1,h2,sat1⟩
     ·refine .inl ⟨hw,?_⟩;have hl1':∀k∈Pd,k≠j->∀(l2:Env),(∀t,fR l1 t=none->o.dst≠some t->fR l2 t=none)->∀d,fR l d=none->o.dst≠some d->fR l2 d=none:=by
       intro k hk _ l2 Ps d hd OS;have QT:=QT (by intro e;rw[e]at hk;cases hk);subst QT;exact Ps d hd OS
      cases hA:La o.op with
      |true=>
       obtain⟨b,v,mk,obj,hK,Pe,hb,hv,VU,QB,VV⟩:=nQ hτ h2 sat1 hA;have PC:Rel ((nx,b)::H) (nx+1) iv B w (fh O nx ⟨w'.heap.size,0,false⟩) (w'.alloc obj):=
        sat1.rel.push b _ rfl rfl rfl (by simp) (fun k hk=>heap_alloc_old _ _ hk) (fun _=>⟨Nat.le_refl _,by simp⟩) (QB _ _ (heap_alloc_new _ _)) hb
       obtain⟨l2,h3,sat2,Ps⟩:=kl (sat1.next PC (Nat.le_succ _) (fun id Oy=>fm id Oy)) hK VH hv;rw[VU]at sat2;refine mV (v:=mk w'.heap.size) (w2:=w'.alloc obj) (VV w') ⟨fun _=>Ext.alloc _ _,?_⟩;refine ih (f+r.length) (by omega) f r _ _ _ _ _ _ _ _ _ _ _ _ rfl (by omega) c5 h3 (s.step Ox ho VT Qx sat2 (fun k hk Sz=>hl1' k hk Sz l2 Ps) (fun _ _ _=>Ext.alloc _ _) (fun g hg TA Rk _=>⟨fun id c hc hn he=>?_,Rk⟩));rw[cU]at hc;split at hc
       ·rename_i e;subst e;rw[dw]at he;simp only at he;omega
       ·have Pn:fh O nx ⟨w'.heap.size,0,false⟩ id=O id:=(fm id (s.sat.rel.keys id c hc)).symm;rw[Pn]at hn he;exact TA id c hc hn he
      |false=>
       cases hH:rC o with
       |false=>
        rw[rL hH]at h2;refine xz h2 sat1 hR hA hH fun v w2 hK he hs=>⟨fun _=>he,?_⟩
        obtain⟨l2,h3,sat2,Ps⟩:=kl (v:=.o (.v v)) hs hK VH trivial;refine ih (f+r.length) (by omega) f r _ _ _ _ _ _ _ _ _ _ _ _ rfl (by omega) c5 h3 (s.step Ox ho VT Qx sat2 (fun k hk Sz=>hl1' k hk Sz l2 Ps) (fun _ _ _=>he) (fun g hg TA Rk _=>⟨TA,fun lo hi hm hc=>?_⟩));rcases List.mem_cons.1 hm with hm|hm
        ·injection hm with e1 e2;omega
        ·exact Rk lo hi hm hc
       |true=>
        have WD:Pd=[]:=by rw[hH]at c4;simpa using c4
        subst WD;refine nR hτ h2 sat1 fun v H' OW iv' w2 ρ' w3 hK sat2 hv=>⟨fun hs=>(by rw[hs o ho]at hH;cases hH),?_⟩
        obtain⟨l2,h3,sat3,Ps⟩:=kl sat2 hK VH hv;exact ih (f+r.length) (by omega) f r _ _ _ _ _ _ _ _ _ _ _ _ rfl (by omega) c5 h3 (s.step Ox ho VT Qx sat3 (fun k hk=>by cases hk) (fun k hk=>by cases hk) (fun g _ _ _ hk=>by obtain⟨k,hk,_⟩:=hk;cases hk))
     ·refine .inr ⟨hw,fun _=>Ext.refl _,?_⟩;subst WD;obtain⟨l2,h3,sat2,Ps⟩:=kl (v:=.o (.v undef)) sat1 h2 VH trivial;exact ih (f+r.length) (by omega) f r _ _ _ _ _ _ _ _ _ _ _ _ rfl (by omega) c5 h3 (s.step Ox ho VT Qx sat2 (fun k hk=>by cases hk) (fun k hk=>by cases hk) (fun g _ _ _ hk=>by obtain⟨k,hk,_⟩:=hk;cases hk))
    ·
     refine s.early OV Ox hjP Rv fun E' a2 w2 he s'=>⟨fun _=>he,?_⟩
     exact ih (f+(r.length+1)) (by omega) f (.x i::r) lx _ Pd E' l H nx iv w O a2 w2 rfl (by omega) (by simp only[oy,ho,aw];exact⟨⟨⟨⟨by simpa using c1,by simpa using c2⟩,c3⟩,by rw[hR];simp only[aw];exact⟨c4,c6⟩⟩,c5⟩) h s'
theorem cH(hτ:fT P τ)(hm:P.follows .mixedOrders=true){K:KT}(π:List It)(hs:Region.noSelect ops=true)(hc:FM ops ops.size π 0 []=true)
  (h:JK P τ B ops.toList π l H nx iv w K):yB P B ops l H nx iv w K:=by
 rw[CB π (Array.replicate ops.size false) 0 [] (by simp) (fun j=>by rw[sn,au,Array.getElem?_replicate];split<;>rfl)]at hc;refine⟨fun n O a w' OV sat Q hQ id=>?_⟩;refine wp_mono (Q':=Q) (c:=.region id ops true) (wp_region_any (Q:=QN (Q .normal)) hm (yC _ _ _ _ ?_)) (fun e a w hq=>by obtain⟨rfl,hq⟩:=hq;exact hq);refine JP hτ (fun j o ho d hd=>?_) (Region.noSelect_spec hs) hQ _ _ π _ _ [] [] l H nx iv w O a _ rfl ?_ hc h ?_
 ·have:=List.all_eq_true.1 OV o (aE (by rw[bA];exact ho));rw[hd]at this;have h5:d+1<=n:=by simpa [Nat.blt]using this
  exact h5
 ·unfold NB;refine aW List.countP_le_length ?_;simp
 ·refine⟨⟨sat.rel.drew,sat.size,sat.defers,sat.env,sat.sc⟩,by simp,by simp,fun j=>by simp,fun j g h=>(by cases h),fun j h=>(by cases h),fun j g h=>(by cases h),fun j g j' h=>(by cases h),fun j h=>(by cases h)⟩
end
def xU:List (Nat×TI)->Nat->Option TI
 |[],_=>none
 |(t,v)::r,u=>match Nat.beq t u with
  |true=>some v
  |false=>xU r u
def veq:Value->Value->Bool
 | .bool a,.bool b=>a==b
 | .int k n,.int j m=>pC k j&&decide (n=m)
 | .string a,.string b=>a.data.toList.isEmpty&&b.data.toList.isEmpty
 | .pointer none,.pointer none=>true
 | .slice none a b,.slice none c d=>Nat.beq a c&&Nat.beq b d
 | .map none,.map none=>true
 | .nilFunc,.nilFunc=>true
 | .nilIface,.nilIface=>true
 |_,_=>false
theorem Az{a b:IntKind}(h:pC a b=true):a=b:=by cases a<;>cases b<;>first|rfl|cases h
theorem NC{a b:Value}(h:veq a b=true):a=b∧a.oneCell'=true:=by
 unfold veq at h;split at h
 ·exact⟨by rw[eq_of_beq h],rfl⟩
 ·simp only[aw,decide_eq_true_eq]at h;exact⟨by rw[Az h.1,h.2],rfl⟩
 ·rename_i a b;simp only[aw,List.isEmpty_iff]at h;refine⟨?_,rfl⟩;have ha:a=⟨#[]⟩:=by
   obtain⟨⟨l⟩⟩:=a;simp only at h;rw[h.1]
  have hb:b=⟨#[]⟩:=by
   obtain⟨⟨l⟩⟩:=b;simp only at h;rw[h.2]
  rw[ha,hb]
 ·exact⟨rfl,rfl⟩
 ·simp only[aw]at h;exact⟨by rw[eC h.1,eC h.2],rfl⟩
 ·exact⟨rfl,rfl⟩
 ·exact⟨rfl,rfl⟩
 ·exact⟨rfl,rfl⟩
 ·cases h
def Lh:List Value->List Value->Bool
 |[],[]=>true
 |a::r,b::s=>veq a b&&Lh r s
 |_,_=>false
theorem Gx:∀{a b:List Value},Lh a b=true->a=b∧∀x∈b,x.oneCell'=true
 |[],[],_=>⟨rfl,by simp⟩
 |a::r,b::s,h=>by
  simp only[Lh,aw]at h;obtain⟨h1,h2⟩:=NC h.1;obtain⟨h3,h4⟩:=Gx h.2;refine⟨by rw[h1,h3],fun x hx=>?_⟩;rcases List.mem_cons.1 hx with rfl|hx
  ·rw[<-h1];exact h2
  ·exact h4 x hx
 |[],_::_,h=>by cases h
 |_::_,[],h=>by cases h
def xV(P:Program):List Field->List (Nat×Nat)->Bool
 |[],[]=>true
 |f::r,(o,t)::s=>Nat.beq f.offset o&&Nat.beq f.type t&&(P.info? f.type).isSome&&xV P r s
 |_,_=>false
theorem yD{P:Program}:∀{a:List Field} {b:List (Nat×Nat)},xV P a b=true->a.map (fun f=>(f.offset,f.type))=b∧∀f∈a,(P.info? f.type).isSome=true
 |[],[],_=>⟨rfl,by simp⟩
 |f::r,(o,t)::s,h=>by
  simp only[xV,aw]at h;obtain⟨h3,h4⟩:=yD h.2;refine⟨by rw[List.map_cons,h3,eC h.1.1.1,eC h.1.1.2],fun x hx=>?_⟩;rcases List.mem_cons.1 hx with rfl|hx
  ·exact h.1.2
  ·exact h4 x hx
 |[],_::_,h=>by cases h
 |_::_,[],h=>by cases h
def isAgg:TypeDesc->Bool
 | .struct _=>true
 | .array _ _=>true
 |_=>false
def OA(a b:Bool):Bool:=match a with
 |true=>b
 |false=> !b
theorem Li{a b:Bool}(h:OA a b=true):a=b:=by cases a<;>cases b<;>first|rfl|cases h
def tokB(P:Program)(t:Nat)(i:TI):Bool:=
 (match P.info? t with
  |some inf=>Nat.beq inf.size i.size&&Nat.beq inf.bytes i.bytes&&(match inf.zero with
   |some z=>Lh z.cells.toList i.zero
   |none=>false)
  |none=>false)&&Nat.beq i.zero.length i.size&&
 (match P.underlying t with
  |some d=>OA (isAgg d) i.agg&&(match i.tag with
   |1=>(match d with
    | .int k=>pC k i.ik
    |_=>false)
   |2=>(match d with
    | .bool=>true
    |_=>false)
   |3=>(match d with
    | .string=>true
    |_=>false)
   |4=>(match d with
    | .slice e=>Nat.beq e i.elem
    |_=>false)
   |5=>(match d with
    | .struct fs=>xV P fs.toList i.fields
    |_=>false)
   |6=>(match d with
    | .array n e=>Nat.beq n i.CA&&Nat.beq e i.elem
    |_=>false)
   |_=>true)
  |none=>false)
theorem tok_of{t:Nat}{i:TI}(h:tokB P t i=true):FP P t i:=by
 simp only[tokB,aw]at h;obtain⟨⟨h1,h2⟩,h3⟩:=h
 cases hi:P.info? t with
 |none=>rw[hi]at h1;cases h1
 |some inf=>
 rw[hi]at h1;simp only[aw]at h1;obtain⟨⟨h4,h5⟩,h6⟩:=h1
 cases hz:inf.zero with
 |none=>rw[hz]at h6;cases h6
 |some z=>
 rw[hz]at h6;obtain⟨h7,h8⟩:=Gx h6
 cases hu:P.underlying t with
 |none=>rw[hu]at h3;cases h3
 |some d=>
 rw[hu]at h3;simp only[aw]at h3;obtain⟨h9,h10⟩:=h3;refine⟨⟨inf,z,hi,eC h4,eC h5,hz,h7⟩,eC h2,h8,⟨d,hu,?_⟩,fun e=>?_,fun e=>?_,fun e=>?_,fun e=>?_,fun e=>?_,fun e=>?_⟩
 ·rw[<-Li h9]
  cases d<;>rfl
 all_goals rw[e]at h10
 ·cases d with
  |int k=>simp only at h10;rw[<-Az h10];exact hu
  |_=>cases h10
 ·cases d with
  |bool=>exact hu
  |_=>cases h10
 ·cases d with
  |string=>exact hu
  |_=>cases h10
 ·cases d with
  |slice e=>simp only at h10;rw[<-eC h10];exact hu
  |_=>cases h10
 ·cases d with
  |struct fs=>simp only at h10;exact⟨fs,hu,yD h10⟩
  |_=>cases h10
 ·cases d with
  |array n e=>simp only[aw]at h10;rw[<-eC h10.1,<-eC h10.2];exact hu
  |_=>cases h10
theorem ND(h:l.all (fun p=>tokB P p.1 p.2)=true):fT P (xU l):=by
 intro t i hi;have:(t,i)∈l:=by
  clear h
  induction l with
  |nil=>cases hi
  |cons p r ih=>
   obtain⟨t0,i0⟩:=p;unfold xU at hi;split at hi
   ·rename_i hb;injection hi with hi;subst hi;rw[eC hb];exact aG ..
   ·exact aC _ (ih hi)
 exact tok_of (List.all_eq_true.1 h _ this)
theorem Ho{fn:Func}{c:Code}(hf:P.funcs[g]? =some fn)(hb:fn.body=some c)(hn:(fn.name== "runtime.NumGoroutine")=false):JQ P g:=
 ⟨fun args w=>by simp only[beq_eq_false_iff_ne]at hn;simp[callFunc,hf,hb,hn]⟩
theorem dx.mono{args:Array Value}{w:World}(h:dx P g args w R)(k:∀e w2,R e w2->R' e w2):dx P g args w R':=
 ⟨h.e,Calls.mono h.c k⟩
abbrev dT(B:Nat)(w w2:World):Prop:=RowKit.Below B w w2
theorem dT.refl{w:World}:dT B w w:=RowKit.Below.refl _ _
theorem Rel.cL{H:Hp}{nx:Nat}{iv:Iv}{w w':World}(r:Rel H nx iv B w O w'):dT B w w':=
 ⟨r.os,r.tape,r.output,r.size,fun k hk=>r.ub k (by have:=r.base;omega) (fun id b h hn he=>by have:=(r.low id b h hn).1;omega)⟩
theorem dT.tr{a b c:World}(h:dT B a b)(k:dT B b c):dT B a c:=RowKit.Below.trans h k
theorem Ext.cL{a b:World}(h:Ext a b)(hB:B<=a.heap.size):dT B a b:=RowKit.Below.mono h hB
end Go.Sx
namespace Go.RowKit
open Go Go.Sx
theorem Below.cL{B:Nat}{a b:World}(h:RowKit.Below a.heap.size a b)(hB:B<=a.heap.size):RowKit.Below B a b:=RowKit.Below.mono h hB
end Go.RowKit
namespace Go.Sx
open Go
variable{args:(Nat->dL)->Array Value}{Φ:(Nat->dL)->World->Value->World->Prop}{H:Hp}{n:Int}{iv:Iv}{B nx:Nat}{O:Nat->dL}{P:Program}
theorem cJ{w w2:World}{a:Addr}(h:w2.heap[a.block]? =w.heap[a.block]?):w2.cell? a=w.cell? a:=by
 unfold World.cell?;rw[h]
theorem dT.cell{w w2:World}(h:dT B w w2){a:Addr}(ha:a.block<B):w2.cell? a=w.cell? a:=cJ (h.block _ ha)
def D4(l:Env):Env->Prop
 |[]=>True
 |(u,v)::r=>fR l u=some v∧D4 l r
theorem D4.get{l:Env}:∀{t:Env},D4 l t->∀u v,fR t u=some v->fR l u=some v
 |[],_,u,v,h=>by cases h
 |(u0,v0)::r,h,u,v,hg=>by
  rw[eW]at hg;split at hg
  ·rename_i e;subst e;injection hg with hg;subst hg;exact h.1
  ·exact D4.get h.2 u v hg
def l6(n:Nat):Env->Prop
 |[]=>True
 |(_,v)::r=>v.sc n∧l6 n r
theorem l6.get{n:Nat}:∀{t:Env},l6 n t->∀u v,fR t u=some v->v.sc n
 |[],_,u,v,h=>by cases h
 |(u0,v0)::r,h,u,v,hg=>by
  rw[eW]at hg;split at hg
  ·injection hg with hg;subst hg;exact h.1
  ·exact l6.get h.2 u v hg
theorem Rel.aAP{w w':World}(r:Rel H nx iv B w O w'):Rel H nx [] B w O w':=
 Rel.mk' r.os r.tape r.output r.size r.base (by simp) r.keys (fun id b h=>r.fits h) (fun id b h=>r.scopd h) r.inj r.low r.ub (by simp)
theorem Sub.reset{l tl:Env}{w w':World}(r:Rel H nx iv B w O w')(h1:D4 l tl)(h2:l6 nx tl):Sub B l nx O w' ⟨tl,H,nx,[],w'⟩:=
 ⟨O,r.here.aAP,fun u v hv=>⟨h2.get u v hv,v,h1.get u v hv,rfl⟩⟩
def eH(w:World)(Φ:Value->World->Prop)(e:Ending)(w2:World):Prop:=∃v,e= .returned v∧Ext w w2∧Φ v w2
theorem cI{g:Nat}{w:World}{K:SV->Hp->Iv->World->Prop}
  (h:∀O w',Rel H nx iv B w O w'->dx P g (args O) w' (eH w' (Φ O w'))) (hK:∀O w' v w2,Rel H nx iv B w O w'->Ext w' w2->dT B w w2->Φ O w' v w2->K (.o (.v v)) H ((w'.heap.size,w2.heap.size)::iv) w2):D3 P B g args H nx iv w K:=
 ⟨fun O w' r=>(h O w' r).mono fun e w2 ⟨v,h1,h2,h3⟩=>⟨v,h1,h2,hK O w' v w2 r h2 (r.cL.tr (h2.cL (by have:=r.base;have:=r.size;omega))) h3⟩⟩
theorem cE{g:Nat}{w w0:World}{K:SV->Hp->Iv->World->Prop}(hw:dT B w0 w)(Φ:(Nat->dL)->World->Value->World->Prop)
  (h:∀O w',Rel H nx iv B w O w'->dx P g (args O) w' (eH w' (Φ O w'))) (hK:∀O w' v w2 iv',Rel H nx iv B w O w'->Ext w' w2->dT B w0 w2->iv'=(w'.heap.size,w2.heap.size)::iv->Φ O w' v w2->K (.o (.v v)) H iv' w2):D3 P B g args H nx iv w K:=
 cI h fun O w' v w2 r h1 h2 h3=>hK O w' v w2 _ r h1 (hw.tr h2) rfl h3
theorem mC{a:Nat×Nat}{iv':Iv}(h:iv'=a::iv):∀p,p∈iv->p∈iv':=h▸fun _ h=>aC _ h
theorem mN{a:Nat×Nat}{iv':Iv}(h:iv'=a::iv):a∈iv':=h▸aG
theorem wrap64(h1: -9223372036854775808<=n)(h2:n<=9223372036854775807):IntKind.wrap .i64 n=n:=by
 have e1:(2:Int)^64=18446744073709551616:=by decide
 have e2:(2:Int)^(64-1)=9223372036854775808:=by decide
 simp only[IntKind.wrap,IntKind.bits,IntKind.signed,e1,e2]
 by_cases h:n % 18446744073709551616≥9223372036854775808
 ·rw[if_pos (by simp[h])];omega
 ·rw[aI (by simp[h])];omega
theorem wo{r:Int}(h:(-9223372036854775808<=n∧n<=9223372036854775807)∧n=r:=by omega):IntKind.wrap .i64 n=r:=by rw[wrap64 h.1.1 h.1.2];exact h.2
theorem xW(h1:0<=n)(h2:n<18446744073709551616):IntKind.wrap .u64 n=n:=by
 have e1:(2:Int)^64=18446744073709551616:=by decide
 simp only[IntKind.wrap,IntKind.bits,IntKind.signed,e1,Bool.false_and,Bool.false_eq_true,if_false]
 omega
theorem xX(h1:0<=n)(h2:n<4294967296):IntKind.wrap .u32 n=n:=by
 have e1:(2:Int)^32=4294967296:=by decide
 simp only[IntKind.wrap,IntKind.bits,IntKind.signed,e1,Bool.false_and,Bool.false_eq_true,if_false]
 omega
end Go.Sx
namespace Go.Sx
open Go
variable{args:(Nat->dL)->Array Value}{Φ:(Nat->dL)->World->Value->World->Prop}{next:Act->World->Prop}{after:Array Edge}{es:Array MapEntry}{ag ag':Bool}{Q:Exit->Act->World->Prop}{tH:Hp}{m:Int}{ik ik' k:IntKind}{K:KT}{fs fs':List (Nat×Nat)}{cs cs2 ks xs ze:List Value}{B bt clock g id r sz t tag' ty:Nat}{O:Nat->dL}{i y:Operand}{guard:Option (Nat×Bool)}{row:Option Nat}{dst:Option Tmp}{pos:String}{key z:Value}{KS:Value->Prop}
section
variable{P:Program}{τ:mo}{B nx:Nat}{l:Env}{H:Hp}{iv:Iv}{w w' w2:World}{O:Nat->dL}
theorem Rel.D5{OU:Iv}(r:Rel H nx iv B w O w')(Oj:w'.heap.size<=w2.heap.size)(RW:∀id b,cV H id=some b->(O id).nil=false->w2.heap[(O id).g]? =w'.heap[(O id).g]?)
  (VW:∀lo hi,(lo,hi)∈OU->hi<=w2.heap.size∧∀id b,cV H id=some b->(O id).nil=false->¬(lo<=(O id).g∧(O id).g<hi)):Rel H nx OU B w2 O w2:=
 Rel.mk' rfl rfl rfl (Nat.le_refl _) (by have:=r.base;have:=r.size;omega) (fun lo hi h=>(VW lo hi h).1) r.keys
  (fun id b h=>jh.gV (r.fits h) (fun _ _=>rfl) (r.scopd h) (fun hn _=>RW id b h hn)) (fun id b h=>r.scopd h) r.inj
  (fun id b h hn=>by have:=r.low id b h hn;omega) (fun _ _ _=>rfl) (fun lo hi h=>(VW lo hi h).2)
theorem yE(hτ:fT P τ){Bc:Nat}(hBc:Bc<=B){x:Operand}{e by_ k m:Nat}{ze':List Value}{sz0 e' al al':Nat}
  {v:Value} {vy:SV} {news:List Value} {K:SV->Hp->Nat->Iv->World->Prop}
  (ht:τ t=some ⟨sz0,ag,bt,ze,4,ik,e,al,fs⟩) (PU:τ e=some ⟨sz,ag',by_,ze',tag',ik',e',al',fs'⟩) (PF:0<sz) (hx:ev l x=some (.o (.v v))) (hy:ev l y=some vy)
  (SH:∀O w',Rel H nx iv B w O w'->w'.ownsRow Bc e sz v m xs∧∀g,v.ownBlock=some g->∀id b,cV H id=some b->(O id).nil=false->(O id).g≠g)
  (RS:news.length=k*sz) (SZ:∀u∈news,u.oneCell'=true) (Qo:m+k<=maxLen) (hb:(m+k)*by_<=140737488355328)
  (src:∀O w',Rel H nx iv B w O w'->(∃c,vy.den O= .slice none 0 c∧k=0)∨∃ad c,vy.den O= .slice (some ad) k c∧∀(j:Nat) u,news[j]? =some u->w'.cell? (ad.add j)=some u)
  (OU:Value->World->Iv)
  (VW:∀O w' v' w2,Rel H nx iv B w O w'->w'.heap.size<=w2.heap.size->(∀g,v'.ownBlock=some g->g<w2.heap.size∧(v.ownBlock=some g∨g=w'.heap.size))->∀lo hi,(lo,hi)∈OU v' w2->hi<=w2.heap.size∧∀id b,cV H id=some b->(O id).nil=false->¬(lo<=(O id).g∧(O id).g<hi))
  (hK:∀O w' v' w2,Rel H nx iv B w O w'->w2.ownsRow Bc e sz v' (m+k) (xs++news)->w'.grownBy w2 v.ownBlock->(v'.ownBlock=v.ownBlock∨v'.ownBlock=some w'.heap.size)->K (.o (.v v')) H nx (OU v' w2) w2):
  yF P B ⟨dst,.call ⟨.builtin .append,⟨[x,y]⟩,⟨[t,t]⟩⟩,ty,pos,after,guard⟩ l H nx iv w K:=by
 refine⟨fun O w' ev' r Qq=>?_⟩;have hto:=hτ t _ ht;have hu:=hto.i4 rfl;simp only at hu;have Rl:=hτ e _ PU;obtain⟨inf,z,hi,Oj,Oq,hz,RT⟩:=Rl.info;have Rd:=Rl.Hq;simp only at Oj Oq RT Rd;have hzs:z.cells.size=sz:=by rw[<-Rd,<-RT];simp
 obtain⟨OR,OS⟩:=SH O w' r;have key:∃v' w2,(Builtin.append_ #[t,t] ty #[v,vy.den O]).run P w'= .ok v' w2∧w2.ownsRow Bc e sz v' (m+k) (xs++news)∧w'.grownBy w2 v.ownBlock∧(v'.ownBlock=v.ownBlock∨v'.ownBlock=some w'.heap.size):=by
  rcases src O w' r with⟨c,hv,rfl⟩|⟨ad,c,hv,PH⟩
  ·have:news=[]:=List.eq_nil_of_length_eq_zero (by simpa using RS);subst this;rw[hv];exact⟨v,w',kr w' Bc t ty e inf sz hu hi v m xs OR c,by simpa using OR,⟨rfl,rfl,rfl,Nat.le_refl _,fun _ _ _=>rfl⟩,.inl rfl⟩
  ·rw[hv];obtain⟨v',w2,h1,h2,h3,_,h5⟩:=run_append_own_at (P:=P) w' Bc t ty e inf z sz by_ hu hi hz Oj Oq hzs PF v m xs OR ad k c news RS PH SZ Qo hb (by have:=r.base;have:=r.size;omega);exact⟨v',w2,h1,h2,h3,h5⟩
 obtain⟨v',w2,h1,h2,h3,h4⟩:=key;have e1:=Qq x _ hx;have e2:=Qq y _ hy;have RG:∀g,v'.ownBlock=some g->g<w2.heap.size∧(v.ownBlock=some g∨g=w'.heap.size):=fun g hg=>by
  refine⟨?_,?_⟩
  ·rcases h2.2 with⟨rfl,_⟩|⟨g',cap,cur,rfl,_,hc,_⟩
   ·cases hg
   ·simp only[Value.ownBlock,Option.some.injEq]at hg;subst hg;exact(ah.1 hc).1
  ·rcases h4 with h4|h4
   ·exact .inl (h4▸hg)
   ·rw[h4]at hg;injection hg with hg;exact .inr hg.symm
 refine⟨v',w2,OU v' w2,.inl ?_,r.D5 h3.size (fun id b h hn=>h3.block _ (r.low id b h hn).2 (fun e=>OS _ e.symm id b h hn rfl)) (VW O w' v' w2 r h3.size RG),hK O w' v' w2 r h2 h3 h4⟩;have e1:ev' x=v:=e1;generalize vy.den O=yy at*
 simp[execOp,resolve,invoke,builtin,e1,e2,h1]
theorem dT.grown{B0:Nat}(h:w'.grownBy w2 row)(hr:∀g,row=some g->B0<=g)(hB:B0<=w'.heap.size):dT B0 w' w2:=
 ⟨h.os,h.tape,h.output,h.size,fun k hk=>h.block k (by omega) (fun e=>by have:=hr k e.symm;omega)⟩
theorem ownsRow.low{e m:Nat}{v:Value}(h:w.ownsRow B e sz v m xs):∀g,v.ownBlock=some g->B<=g∧g<w.heap.size:=by
 intro g hg;rcases h.2 with⟨rfl,_⟩|⟨g',cap,cur,rfl,hb,hc,_⟩
 ·cases hg
 ·simp only[Value.ownBlock,Option.some.injEq]at hg;subst hg;exact⟨hb,(ah.1 hc).1⟩
theorem ownsRow.cC{e m:Nat}{v:Value}(h:w.ownsRow B e sz v m xs)(hk:∀g,v.ownBlock=some g->w2.heap[g]? =w.heap[g]?):w2.ownsRow B e sz v m xs:=by
 refine⟨h.1,?_⟩;rcases h.2 with h1|⟨g',cap,cur,rfl,hb,hc,h2⟩
 ·exact .inl h1
 ·exact .inr ⟨g',cap,cur,rfl,hb,by rw[hk g' rfl];exact hc,h2⟩
end
def At.DQ(f:Nat->Nat):At->At
 | .v x=>.v x
 | .p id off=>.p (f id) off
 | .s id off len cap=>.s (f id) off len cap
 | .w id len=>.w (f id) len
 | .fn g caps=>.fn g (caps.map f)
def SV.DQ(f:Nat->Nat):SV->SV
 | .o x=>.o (x.DQ f)
 | .a cs=>.a (cs.map (At.DQ f))
def jh.DQ(f:Nat->Nat):jh->jh
 | .box t cs=>.box t (cs.map (At.DQ f))
 | .arr t cs=>.arr t cs
 | .vec t size cs=>.vec t size cs
 | .dead=>.dead
theorem At.ss(f:Nat->Nat)(O:Nat->dL)(x:At):(x.DQ f).den O=x.den (fun i=>O (f i)):=by
 cases x<;>simp[At.DQ,At.den]
theorem SV.ss(f:Nat->Nat)(O:Nat->dL)(x:SV):(x.DQ f).den O=x.den (fun i=>O (f i)):=by
 cases x with
 |o x=>exact At.ss f O x
 |a cs=>
  have:At.den O ∘ At.DQ f=At.den (fun i=>O (f i)):=funext fun x=>At.ss f O x;simp[SV.DQ,SV.den,this]
def yG:List (Nat×Nat)->Nat->Nat
 |[],n=>n
 |(a,b)::r,n=>match Nat.beq a n with
  |true=>b
  |false=>yG r n
def BA(f:Nat->Nat)(l:Env):Env->Prop
 |[]=>True
 |(u,v)::r=>fR l u=some (v.DQ f)∧BA f l r
def BB(f:Nat->Nat)(H:Hp):Hp->Prop
 |[]=>True
 |(u,b)::r=>cV H (f u)=some (b.DQ f)∧BB f H r
def NF(n:Nat):Hp->Prop
 |[]=>True
 |(u,b)::r=>(u<n∧b.scopd n)∧NF n r
def JR(f:Nat->Nat):Hp->Bool
 |[]=>true
 |(u,_)::r=>r.all (fun p=>Nat.beq p.1 u|| !Nat.beq (f p.1) (f u))&&JR f r
theorem BA.get{f:Nat->Nat}{l:Env}:∀{t:Env},BA f l t->∀u v,fR t u=some v->fR l u=some (v.DQ f)
 |[],_,u,v,h=>by cases h
 |(u0,v0)::r,h,u,v,hg=>by
  rw[eW]at hg;split at hg
  ·rename_i e;subst e;injection hg with hg;subst hg;exact h.1
  ·exact BA.get h.2 u v hg
theorem BB.get{f:Nat->Nat}{l:Hp}:∀{t:Hp},BB f l t->∀u v,cV t u=some v->cV l (f u)=some (v.DQ f)
 |[],_,u,v,h=>by cases h
 |(u0,v0)::r,h,u,v,hg=>by
  rw[cU]at hg;split at hg
  ·rename_i e;subst e;injection hg with hg;subst hg;exact h.1
  ·exact BB.get h.2 u v hg
theorem NF.get{n:Nat}:∀{t:Hp},NF n t->∀u b,cV t u=some b->u<n∧b.scopd n
 |[],_,u,v,h=>by cases h
 |(u0,v0)::r,h,u,v,hg=>by
  rw[cU]at hg;split at hg
  ·rename_i e;subst e;injection hg with hg;subst hg;exact h.1
  ·exact NF.get h.2 u v hg
theorem D6:∀{t:Hp} {u:Nat} {b:jh},cV t u=some b->∃p∈t,p.1=u
 |[],u,b,h=>by cases h
 |(u0,v0)::r,u,b,h=>by
  rw[cU]at h;split at h
  ·rename_i e;exact⟨_,aG ..,e⟩
  ·obtain⟨p,h1,h2⟩:=D6 h;exact⟨p,aC _ h1,h2⟩
theorem BC{f:Nat->Nat}:∀{t:Hp},JR f t=true->∀u v b c,cV t u=some b->cV t v=some c->f u=f v->u=v
 |[],_,u,v,b,c,h,_,_=>by cases h
 |(u0,v0)::r,hi,u,v,b,c,hu,hv,he=>by
  simp only[JR,aw]at hi;have key:∀{w:Nat} {d:jh},cV r w=some d->f w=f u0->w=u0:=fun{w d} hw hf=>by
   obtain⟨p,hp,rfl⟩:=D6 hw;have:=List.all_eq_true.1 hi.1 p hp;simp only[Bool.or_eq_true,Bool.not_eq_true']at this;rcases this with h|h
   ·exact eC h
   ·rw[hf,Nat.beq_refl]at h;cases h
  rw[cU]at hu hv;split at hu<;>split at hv
  ·rename_i x y;rw[<-x,<-y]
  ·rename_i x y;subst x;exact(key hv he.symm).symm
  ·rename_i x y;subst y;exact key hu he
  ·exact BC hi.2 u v b c hu hv he
theorem Sub.gen{l tl:Env}{nx OW:Nat}{H:Hp}{iv iv':Iv}{w w':World}(m:List (Nat×Nat))(r:Rel H nx iv B w O w')
  (hH:BB (yG m) H tH) (hE:BA (yG m) l tl) (hsH:NF OW tH) (hsE:l6 OW tl) (hi:JR (yG m) tH=true) (VW:∀lo hi,(lo,hi)∈iv'->(lo,hi)∈iv):Sub B l nx O w' ⟨tl,tH,OW,iv',w'⟩:=by
 refine⟨fun i=>O (yG m i),(?_:Rel tH OW iv' B w' (fun i=>O (yG m i)) w'),fun u v hv=>⟨hsE.get u v hv,_,hE.get u v hv,SV.ss _ _ _⟩⟩;refine Rel.mk' rfl rfl rfl (Nat.le_refl _) (by have:=r.base;have:=r.size;omega) (fun lo hi h=>by have:=r.qW lo hi (VW lo hi h);have:=r.size;omega) (fun id b h=>(hsH.get id b h).1) ?_ (fun id b h=>(hsH.get id b h).2) ?_ ?_ (fun _ _ _=>rfl) ?_
 ·intro id b h;have h1:=r.fits (hH.get id b h);have hr:At.den O ∘ At.DQ (yG m)=At.den (fun i=>O (yG m i)):=funext fun x=>At.ss _ O x
  cases b with
  |box t cs=>simpa [jh.DQ,jh.fits,hr]using h1
  |arr t cs=>exact h1
  |vec t size cs=>exact h1
  |dead=>trivial
 ·intro id id' b b' h h' hd WC hn hn' he;refine BC hi id id' b b' h h' (r.inj _ _ _ _ (hH.get id b h) (hH.get id' b' h') ?_ ?_ hn hn' he)
  ·cases b<;>first|(exact absurd rfl hd)|simp[jh.DQ]
  ·cases b'<;>first|(exact absurd rfl WC)|simp[jh.DQ]
 ·intro id b h hn;exact r.low _ _ (hH.get id b h) hn
 ·intro lo Sl h id b hb hn;exact r.ji lo Sl (VW lo Sl h) _ _ (hH.get id b hb) hn
theorem Sub.gn{l tl:Env}{nx OW:Nat}{H:Hp}{iv iv':Iv}{w w':World}(m:List (Nat×Nat))(r:Rel H nx iv B w O w')
  (hH:BB (yG m) H tH:=by repeat' first|exact trivial|refine⟨rfl,?_⟩) (hE:BA (yG m) l tl:=by repeat' first|exact trivial|refine⟨rfl,?_⟩) (hsH:NF OW tH:=by simp[NF,jh.scopd,At.sc]) (hsE:l6 OW tl:=by simp[l6,SV.sc,At.sc,iW]) (hi:JR (yG m) tH=true:=by rfl) (VW:∀lo hi,(lo,hi)∈iv'->(lo,hi)∈iv:=by first|exact fun _ _ h=>h|simp):Sub B l nx O w' ⟨tl,tH,OW,iv',w'⟩:=Sub.gen m r hH hE hsH hsE hi VW
def ug(H:Hp):Hp->Prop
 |[]=>True
 |(u,b)::r=>cV H u=some b∧ug H r
def CC(id:Nat):Hp->Bool
 |[]=>true
 |(_,.dead)::_=>false
 |(u,_)::r=> !Nat.beq u id&&CC id r
theorem ug.get{H:Hp}:∀{t:Hp},ug H t->∀{u b},cV t u=some b->cV H u=some b
 |[],_,u,b,h=>by cases h
 |(v,c)::r,hs,u,b,h=>by
  unfold cV at h;split at h
  ·rename_i e;injection h with h;subst h;have:=bM e;subst this;exact hs.1
  ·exact ug.get hs.2 h
theorem CC.get{id:Nat}:∀{t:Hp},CC id t=true->∀{u b},cV t u=some b->u≠id∧b≠ .dead
 |[],_,u,b,h=>by cases h
 |(v,c)::r,hs,u,b,h=>by
  unfold cV at h;split at h
  ·rename_i e;injection h with h;subst h;have:=bM e;subst this;have hv:v.beq id=false->v≠id:=fun h e=>by rw[e,Nat.beq_refl]at h;cases h
   cases c<;>simp_all [CC]
  ·refine CC.get (t:=r) ?_ h
   cases c<;>simp_all [CC]
section
variable{P:Program}{B nx:Nat}{H H':Hp}{iv:Iv}{w w' w2:World}{O:Nat->dL}
theorem Rel.free{b:jh}(r:Rel H nx iv B w O w')(Oy:cV H id=some b)(hd:b≠ .dead)(hn:(O id).nil=false)(hs:ug H H')(ho:CC id H'=true):Rel H' nx (((O id).g,(O id).g+1)::iv) B w' O w':=by
 have h1:Rel H' nx iv B w' O w':=Rel.mk' rfl rfl rfl (Nat.le_refl _) (by have:=r.base;have:=r.size;omega) (fun lo hi hm=>by have:=r.qW lo hi hm;have:=r.size;omega) (fun j c h=>r.keys j c (hs.get h))
  (fun j c h=>r.fits (hs.get h)) (fun j c h=>r.scopd (hs.get h)) (fun j k c e h h'=>r.inj j k c e (hs.get h) (hs.get h')) (fun j c h=>r.low j c (hs.get h)) (fun _ _ _=>rfl) (fun lo hi hm j c h=>r.ji lo hi hm j c (hs.get h))
 refine h1.more (by have:=(r.low id b Oy hn).2;omega) fun j c hj WG he=>?_;obtain⟨h2,h3⟩:=CC.get ho hj;exact h2 (r.inj j id c b (hs.get hj) Oy h3 hd WG hn (by omega))
theorem gO{K:SV->Hp->Iv->World->Prop}(id:Nat){b:jh}(Oy:cV H id=some b)(hd:b≠ .dead)(hs:ug H H')(ho:CC id H'=true)
  (hn:∀O w',Rel H nx iv B w O w'->(O id).nil=false)
  (hc:∀O w',Rel H nx iv B w O w'->dx P g (args O) w' (eH w' (Φ O w')))
  (h:∀O w' v w2,Rel H nx iv B w O w'->Ext w' w2->dT B w w2->Φ O w' v w2->K (.o (.v v)) H' (((O id).g,(O id).g+1)::(w'.heap.size,w2.heap.size)::iv) w2):BD P B g args H nx iv w K:=
 ⟨fun O w' r=>⟨(hc O w' r).e,Calls.mono (hc O w' r).c fun e w2 he=>by
  obtain⟨v,h1,h2,h3⟩:=he;have r2:Rel H nx ((w'.heap.size,w2.heap.size)::iv) B w2 O w2:=(r.ext h2).here.more (Nat.le_refl _) (fun j c hj hn=>by have:=(r.low j c hj hn).2;omega)
  exact⟨v,H',_,h1,r2.free Oy hd (hn O w' r) hs ho,h O w' v w2 r h2 (r.cL.tr (h2.cL (by have:=r.base;have:=r.size;omega))) h3⟩⟩⟩
end
inductive Tr where
 |nil
 |one (i:Nat) (t:Tr)
 |two (i:Nat) (t:Tr) (j:Nat) (u:Tr)
def Tr.depth:Tr->Nat
 | .nil=>0
 | .one _ t=>t.depth+1
 | .two _ t _ u=>max t.depth u.depth+1
def vq(ops:Array Oper):Tr->Array Bool->Bool
 | .nil,la=>(Region.ready .any ops la).isEmpty
 | .one i t,la=>match Region.ready .any ops la with
  |[x]=>Nat.beq x i&&vq ops t (la.setIfInBounds i true)
  |_=>false
 | .two i t j u,la=>match Region.ready .any ops la with
  |[x,y]=>Nat.beq x i&&(Nat.beq y j&&(vq ops t (la.setIfInBounds i true)&&vq ops u (la.setIfInBounds j true)))
  |_=>false
def JS(P:Program)(τ:mo)(B:Nat)(all:List Oper):Tr->Env->Hp->Nat->Iv->World->KT->Prop
 | .nil,l,H,nx,iv,w,K=>K l H nx iv w
 | .one i t,l,H,nx,iv,w,K=>rf all i (fun o=>gv false P τ B all o l H nx iv w (fun l' H' OW iv' w'=>JS P τ B all t l' H' OW iv' w' K))
 | .two i t j u,l,H,nx,iv,w,K=>rf all i (fun o=>gv false P τ B all o l H nx iv w (fun l' H' OW iv' w'=>JS P τ B all t l' H' OW iv' w' K))∧
   rf all j (fun o=>gv false P τ B all o l H nx iv w (fun l' H' OW iv' w'=>JS P τ B all u l' H' OW iv' w' K))
section
variable{P:Program}{τ:mo}{ops:Array Oper}{B n nx:Nat}{l:Env}{H:Hp}{iv:Iv}{w w':World}{O:Nat->dL}{a:Act}
theorem CD(hτ:fT P τ)(OV:∀(j:Nat) o,ops[j]? =some o->∀d,o.dst=some d->d<n){i:Nat}
  (h:rf ops.toList i (fun o=>gv false P τ B ops.toList o l H nx iv w K)) (sat:Sat n l H nx iv B w O a w')
  (hn:∀l' H' OW iv' w2 ρ' a' w3,K l' H' OW iv' w2->Sat n l' H' OW iv' B w2 ρ' a' w3->next a' w3):wpOp P ops Q i next a w':=by
 obtain⟨o,ho,h1⟩:=gU h;rw[bA]at ho;have hd:=OV i o ho;unfold gv at h1;refine pB ho ?_;rcases k8 sat h1 with⟨hw,l1,h2,sat1⟩|⟨hw,l1,h2,sat1⟩
 ·refine .inl ⟨hw,nR hτ h2 sat1 fun v H' OW iv' w2 ρ' w3 h3 sat2 hv=>?_⟩;obtain⟨l2,h4,sat3⟩:=iJ sat2 h3 hd hv;exact hn _ _ _ _ _ _ _ _ h4 sat3
 ·obtain⟨l2,h4,sat3⟩:=iJ sat1 h2 hd trivial;exact .inr ⟨hw,hn _ _ _ _ _ _ _ _ h4 sat3⟩
theorem sw(hτ:fT P τ)(OV:∀(j:Nat) o,ops[j]? =some o->∀d,o.dst=some d->d<n){K:KT}{Q:Exit->Act->World->Prop}
  (hQ:∀l' H' OW iv' w2 ρ' a' w3,K l' H' OW iv' w2->Sat n l' H' OW iv' B w2 ρ' a' w3->Q .normal a' w3):
  ∀(t:Tr) (fuel:Nat) (la:Array Bool) (l:Env) (H:Hp) (nx:Nat) (iv:Iv) (w:World) (O:Nat->dL) (a:Act) (w':World),t.depth<=fuel->vq ops t la=true->JS P τ B ops.toList t l H nx iv w K->Sat n l H nx iv B w O a w'->wpAny P .any ops Q fuel la a w'
 | .nil,fuel,la,l,H,nx,iv,w,O,a,w',_,hc,h,s=>by
  simp only[vq,List.isEmpty_iff]at hc;have hq:=hQ _ _ _ _ _ _ _ _ h s
  cases fuel with
  |zero=>exact⟨hc,hq⟩
  |succ fuel=>exact⟨fun _=>hq,fun i hi=>by rw[hc]at hi;cases hi⟩
 | .one i t,fuel,la,l,H,nx,iv,w,O,a,w',hf,hc,h,s=>by
  simp only[Tr.depth]at hf;obtain⟨fuel,rfl⟩:∃q,fuel=q+1:=⟨fuel-1,by omega⟩
  simp only[vq]at hc;split at hc
  ·rename_i x hr;simp only[aw]at hc;have hx:=bM hc.1;subst hx;refine⟨fun h0=>(by rw[hr]at h0;cases h0),fun j hj=>?_⟩;rw[hr,bF]at hj;subst hj;exact CD hτ OV h s fun _ _ _ _ _ _ _ _ hk hs=>sw hτ OV hQ t fuel _ _ _ _ _ _ _ _ _ (by omega) hc.2 hk hs
  ·cases hc
 | .two i t k u,fuel,la,l,H,nx,iv,w,O,a,w',hf,hc,h,s=>by
  simp only[Tr.depth]at hf;obtain⟨fuel,rfl⟩:∃q,fuel=q+1:=⟨fuel-1,by omega⟩
  simp only[vq]at hc;split at hc
  ·rename_i x y hr;simp only[aw]at hc;obtain⟨c1,c2,c3,c4⟩:=hc;have hx:=bM c1;have hy:=bM c2;subst hx;subst hy;obtain⟨h1,h2⟩:=h;refine⟨fun h0=>(by rw[hr]at h0;cases h0),fun j hj=>?_⟩;rw[hr,List.mem_cons,bF]at hj;rcases hj with rfl|rfl
   ·exact CD hτ OV h1 s fun _ _ _ _ _ _ _ _ hk hs=>sw hτ OV hQ t fuel _ _ _ _ _ _ _ _ _ (by omega) c3 hk hs
   ·exact CD hτ OV h2 s fun _ _ _ _ _ _ _ _ hk hs=>sw hτ OV hQ u fuel _ _ _ _ _ _ _ _ _ (by omega) c4 hk hs
  ·cases hc
theorem iX(hτ:fT P τ)(hm:P.follows .mixedOrders=true)(t:Tr)(hc:(Nat.ble t.depth ops.size&&vq ops t (Array.replicate ops.size false))=true)
  (h:JS P τ B ops.toList t l H nx iv w K):yB P B ops l H nx iv w K:=by
 simp only[aw]at hc;refine⟨fun n O a w' OV sat Q hQ id=>?_⟩;refine wp_region_any hm (sw hτ (fun j o ho d hd=>?_) hQ t _ _ _ _ _ _ _ O _ _ (Nat.le_of_ble_eq_true hc.1) hc.2 h ⟨sat.rel.drew,sat.size,sat.defers,sat.env,sat.sc⟩);have:=List.all_eq_true.1 OV o (aE (by rw[bA];exact ho));rw[hd]at this;have h5:d+1<=n:=by simpa [Nat.blt]using this
 exact h5
end
section
variable{P:Program}{τ:mo}{B n nx:Nat}{l:Env}{H:Hp}{iv:Iv}{w w':World}{O:Nat->dL}{a:Act}
theorem qZ{x:Operand}{K:SV->Hp->Nat->Iv->World->Prop}{s:ByteArray}{b:UInt8}
  (hu:P.underlying t=some .string) (hx:ev l x=some (.o (.v (.string s)))) (hi:ev l i=some (.o (.v (.int k m)))) (hm:0<=m) (hb:s[m.toNat]? =some b)
  (hK:∀O w',Rel H nx iv B w O w'->K (.o (.v (.int .u8 b.toNat))) H nx iv w'):yF P B ⟨dst,.index t x i,ty,pos,after,guard⟩ l H nx iv w K:=by
 refine⟨fun O w' ev' r Qq=>⟨.int .u8 b.toNat,w',iv,.inl ?_,r.here,hK O w' r⟩⟩;have e1:ev' x= .string s:=Qq x _ hx;have e2:ev' i= .int k m:=Qq i _ hi;simp[execOp,e1,e2,Instr.index,asIntOf,run_underlying hu,hm,hb]
theorem jm(w:World)(t e:TypeId)(a:Option Addr)(n c n' c':Nat)(h:P.underlying t=some (.slice e)):
  (binOp .eql t (.slice a n c) (.slice none n' c')).run P w= .ok (.bool a.isNone) w:=by
 have:∀d,(Op.equalIn (d+1) t (.slice a n c) (.slice none n' c')).run P w= .ok a.isNone w:=fun d=>by cases a<;>simp[Op.equalIn,run_underlying h]
 simp only[binOp]
 simp[Op.equal,Op.maxDepth,this 9999]
theorem j6(w:World)(g:Nat)(cs:Array Value):w.grownBy (w.setRow g cs) (some g):=
 ⟨rfl,rfl,rfl,by simp,fun k _ OS=>setRow_other _ _ _ _ fun e=>OS (by rw[e])⟩
theorem Rel.yH{w2:World}(r:Rel H nx iv B w O w')(OS:∀id b,cV H id=some b->(O id).nil=false->(O id).g≠g)(h:w'.grownBy w2 (some g)):Rel H nx iv B w2 O w2:=
 r.D5 h.size (fun id b hb hn=>h.block _ (r.low id b hb hn).2 fun e=>OS id b hb hn (Option.some.inj e)) fun lo hi hm=>⟨by have:=r.qW lo hi hm;have:=r.size;have:=h.size;omega,fun id b hb hn=>r.ji lo hi hm id b hb hn⟩
theorem AT(z:Value)(n:Nat):(Builtin.zeroCells #[z] n).toList=List.replicate n z:=by
 apply bG;intro i;simp only[Builtin.zeroCells,Array.toList_map,aM,Array.toList_range,List.getElem?_replicate]
 by_cases h:i<n
 ·simp[h,Nat.mod_one]
 ·simp[h]
theorem Hr(hτ:fT P τ){e by_ k off c tg:Nat}{x:Operand}{sz0 e' al al':Nat}
  {K:SV->Hp->Nat->Iv->World->Prop}
  (ht:τ t=some ⟨sz0,ag,bt,ze,4,ik,e,al,fs⟩) (PU:τ e=some ⟨1,ag',by_,[z],tag',ik',e',al',fs'⟩) (hx:ev l x=some (.o (.v (.slice (some ⟨g,off,none⟩) k c)))) (hk:k≠0)
  (hg:∀O w',Rel H nx iv B w O w'->w'.heap[g]? =some (.cells cs.toArray tg (0,0))∧∀id b,cV H id=some b->(O id).nil=false->(O id).g≠g) (QB:off+k<=cs.length)
  (hK:∀O w' w2,Rel H nx iv B w O w'->w2.heap[g]? =some (.cells (cs.take off++List.replicate k z++cs.drop (off+k)).toArray tg (0,0))->w'.grownBy w2 (some g)->w2.heap.size=w'.heap.size->K (.o (.v (.tuple #[]))) H nx iv w2):
  yF P B ⟨dst,.call ⟨.builtin .clear,⟨[x]⟩,⟨[t]⟩⟩,ty,pos,after,guard⟩ l H nx iv w K:=by
 refine⟨fun O w' ev' r Qq=>?_⟩;have hu:=(hτ t _ ht).i4 rfl;simp only at hu;have Rl:=hτ e _ PU;obtain⟨inf,zv,hi,Oj,Oq,hz,RT⟩:=Rl.info;have hzo:=Rl.aAQ z (by simp);simp only at Oj RT;have hza:zv.cells= #[z]:=by apply Array.ext';simpa using RT
 obtain⟨hc,OS⟩:=hg O w' r;have QA:=run_storeCells_at (P:=P) g off tg (List.replicate k z) 0 cs.toArray w' hc (by simpa using QB) (fun v hv=>by rw[List.mem_replicate]at hv;rw[hv.2];exact hzo);have Rd:=AT z k;have e1:ev' x= .slice (some ⟨g,off,none⟩) k c:=Qq x _ hx;simp only[bj,bN]at QA;refine⟨.tuple #[],_,iv,.inl ?_,r.yH OS (j6 w' g _),hK O w' _ r (setRow_heap w' g cs.toArray _ tg _ hc) (j6 _ _ _) (by simp)⟩;simp[execOp,resolve,invoke,builtin,e1,Builtin.clear_,run_underlying hu,zeroValue,typeInfo,hi,hz,hza,Rd,QA,hk]
theorem JT(hτ:fT P τ){e by_ k off c tg:Nat}{x:Operand}{sz0 e' al al':Nat}
  {ds:List Value} {vy:SV} {K:SV->Hp->Nat->Iv->World->Prop}
  (ht:τ t=some ⟨sz0,ag,bt,ze,4,ik,e,al,fs⟩) (PU:τ e=some ⟨1,ag',by_,[z],tag',ik',e',al',fs'⟩) (hx:ev l x=some (.o (.v (.slice (some ⟨g,off,none⟩) k c)))) (hy:ev l y=some vy)
  (hg:∀O w',Rel H nx iv B w O w'->w'.heap[g]? =some (.cells cs.toArray tg (0,0))∧∀id b,cV H id=some b->(O id).nil=false->(O id).g≠g)
  (src:∀O w',Rel H nx iv B w O w'->∃a m,vy.den O= .slice a ds.length m∧∀(j:Nat) u,ds[j]? =some u->∃ad,a=some ad∧w'.cell? (ad.add j)=some u)
  (WH:ds.length<=k) (QB:off+ds.length<=cs.length) (h1:∀u∈ds,u.oneCell'=true)
  (hK:∀O w' w2,Rel H nx iv B w O w'->w2.heap[g]? =some (.cells (cs.take off++ds++cs.drop (off+ds.length)).toArray tg (0,0))->w'.grownBy w2 (some g)->w2.heap.size=w'.heap.size->K (.o (.v (goInt ds.length))) H nx iv w2):
  yF P B ⟨dst,.call ⟨.builtin .copy,⟨[x,y]⟩,⟨[t,t]⟩⟩,ty,pos,after,guard⟩ l H nx iv w K:=by
 refine⟨fun O w' ev' r Qq=>?_⟩;have hu:=(hτ t _ ht).i4 rfl;simp only at hu;have Rl:=hτ e _ PU;obtain⟨inf,zv,hi,Oj,Oq,hz,RT⟩:=Rl.info;simp only at Oj;obtain⟨hc,OS⟩:=hg O w' r;obtain⟨ay,m,hya,PH⟩:=src O w' r;have e1:ev' x= .slice (some ⟨g,off,none⟩) k c:=Qq x _ hx;have e2:ev' y= .slice ay ds.length m:=by rw[<-hya];exact Qq y _ hy
 refine⟨goInt ds.length,w'.setRow g (cs.take off++ds++cs.drop (off+ds.length)).toArray,iv,.inl ?_,r.yH OS (j6 w' g _),hK O w' _ r (setRow_heap w' g cs.toArray _ tg _ hc) (j6 _ _ _) (by simp)⟩;have hmin:Nat.min ds.length k=ds.length:=Nat.min_eq_left WH;have OY:(Builtin.copy_ #[t,t] ty #[.slice (some ⟨g,off,none⟩) k c,.slice ay ds.length m]).run P w'= .ok (goInt ds.length) (w'.setRow g (cs.take off++ds++cs.drop (off+ds.length)).toArray):=by
  cases ay with
  |some ad=>
   have:=run_copy_row (P:=P) w' t t ty e g off k c ad ds.length m cs.toArray tg ds hu (by simp[hi,Oj]) hc (by rw[hmin]) (fun j v hv=>by
    obtain⟨ad',h2,h3⟩:=PH j v hv;injection h2 with h2
    rw[h2];exact h3) (by simpa using QB) h1
   simpa using this
  |none=>
   have hd:ds=[]:=by
    cases ds with
    |nil=>rfl
    |cons u r=>obtain⟨ad',h2,_⟩:=PH 0 u rfl;cases h2
   subst hd;have RC:=setRow_self w' g cs.toArray tg (0,0) hc;simp[Builtin.copy_,run_underlying hu,Builtin.lenOf,Builtin.firstCells,sizeOf,typeInfo,hi,storeCells,RC]
 simp[execOp,resolve,invoke,builtin,e1,e2,OY]
end
section
variable{P:Program}{τ:mo}{B nx:Nat}{l:Env}{H:Hp}{iv:Iv}{w w':World}{O:Nat->dL}
end
section
variable{P:Program}{τ:mo}{B nx:Nat}{l:Env}{H:Hp}{iv:Iv}{w w':World}{O:Nat->dL}
end
theorem pE:∀(nv:List Value) (w:World) (b off:Nat) (cur:Array Value) (e:TypeId),w.heap[b]? =some (.cells cur e (0,0))->off+nv.length<=cur.size->
  (w.setCells b off nv).heap[b]? =some (.cells (cur.toList.take off++nv++cur.toList.drop (off+nv.length)).toArray e (0,0))
 |[],w,b,off,cur,e,h,_=>by simpa [World.setCells]using h
 |v::r,w,b,off,cur,e,h,hl=>by
  simp only[World.setCells]
  have QT:off+(r.length+1)<=cur.size:=by simpa using hl
  have h1:(w.setCell ⟨b,off,none⟩ v).heap[b]? =some (.cells (cur.setIfInBounds off v) e (0,0)):=by
   simp[World.setCell,Array.getElem?_modify,h]
  rw[pE r _ b (off+1) _ e h1 (by simp;omega)];congr 3;have PY:cur.toList.length=cur.size:=by simp
  apply bG;intro i;have e1:(cur.setIfInBounds off v).toList=cur.toList.set off v:=by simp
  rw[e1];rcases bp i off with hi|hi|hi
  ·rw[bf,bf,aJ (by simp;omega),aJ (by simp;omega),bO (by omega),bO hi,aT (by omega)]
  ·subst hi;rw[bf,bf,aJ (by simp;omega),aN (by simp;omega),bO (by omega),aO (by simp;omega)];have:(List.take i cur.toList).length=i:=by rw[aZ];omega
   rw[this,bB];rfl
  ·have l1:(List.take (off+1) (cur.toList.set off v)).length=off+1:=by rw[aZ,bX];omega
   have l2:(List.take off cur.toList).length=off:=by rw[aZ];omega
   have hd:List.drop (off+1+r.length) (cur.toList.set off v)=List.drop (off+(v::r).length) cur.toList:=by
    rw[List.drop_set_of_lt (by omega),List.length_cons];congr 1;omega
   obtain⟨k,rfl⟩:∃k,i=off+1+k:=⟨i-off-1,by omega⟩
   rw[bf,bf,hd];generalize List.drop (off+(v::r).length) cur.toList=tl;have A:(List.take (off+1) (cur.toList.set off v)++(r++tl))[off+1+k]? =(r++tl)[k]? :=by
    rw[aN (by omega),l1];congr 1;omega
   have B:(List.take off cur.toList++((v::r)++tl))[off+1+k]? =(r++tl)[k]? :=by
    rw[aN (by omega),l2,show off+1+k-off=k+1 by omega];rfl
   rw[A,B]
theorem pF:∀(nv:List Value) (w:World) (b off:Nat) {k:Nat},k≠b->(w.setCells b off nv).heap[k]? =w.heap[k]?
 |[],_,_,_,_,_=>rfl
 |v::r,w,b,off,k,hk=>by
  simp only[World.setCells]
  rw[pF r _ b (off+1) hk];simp[World.setCell,Array.getElem?_modify,Ne.symm hk]
theorem tA:∀(vs:List Value) (w0:World) (b o:Nat),(w0.setCells b o vs).os=w0.os∧(w0.setCells b o vs).tape=w0.tape∧(w0.setCells b o vs).output=w0.output∧(w0.setCells b o vs).heap.size=w0.heap.size
 |[],_,_,_=>⟨rfl,rfl,rfl,rfl⟩
 |v::r,w0,b,o=>by
  simp only[World.setCells]
  obtain⟨h1,h2,h3,h4⟩:=tA r (w0.setCell ⟨b,o,none⟩ v) b (o+1);exact⟨h1,h2,h3,by rw[h4];simp⟩
theorem kC{w:World}{Bc e n:Nat}{v:Value}{nv:List Value}{a:Option Addr}{c j:Nat}(h:w.ownsRow Bc e sz v n xs)(hv:v= .slice a n c)(hj:j<n)(TX:nv.length=sz)(hs:0<sz):
  ∃g,a=some ⟨g,0,none⟩∧(∀k,k<sz->(w.cell? (Addr.add ⟨g,j*sz,none⟩ k)).isSome=true∧w.frozen? (Addr.add ⟨g,j*sz,none⟩ k)=false)∧
   (setCells w ⟨g,j*sz,none⟩ nv).ownsRow Bc e sz v n (xs.take (j*sz)++nv++xs.drop (j*sz+sz))∧w.grownBy (setCells w ⟨g,j*sz,none⟩ nv) (some g)∧(setCells w ⟨g,j*sz,none⟩ nv).heap.size=w.heap.size:=by
 rcases h.2 with⟨_,h0⟩|⟨g,cap,cur,RH,hb,hg,TY,S1,Ok,VX⟩
 ·omega
 rw[hv]at RH;injection RH with h1 h2 h3;subst h1 h3;have hjs:j*sz+sz<=n*sz:=by
  have:=Nat.mul_le_mul_right sz (show j+1<=n from hj);rw[Nat.add_mul,Nat.one_mul]at this;exact this
 have hns:n*sz<=c*sz:=Nat.mul_le_mul_right sz TY;obtain⟨f1,f2,f3,f4⟩:=tA nv w g (j*sz);have S2:=pE nv w g (j*sz) cur e hg (by omega);refine⟨g,rfl,fun k hk=>?_,?_,?_,?_⟩
 ·rw[dA];refine⟨?_,?_⟩
  ·rw[cell_of (g:=g) (cs:=cur.toList) (by simpa using hg),aB (by simp;omega)];rfl
  ·simp[World.frozen?,hg]
 ·rw[kD];refine⟨?_,.inr ⟨g,c,_,hv,hb,S2,TY,S1,?_,?_⟩⟩
  ·simp only[List.length_append,aZ,List.length_drop,TX,h.1];omega
  ·simp only[List.size_toArray,List.length_append,aZ,List.length_drop,TX,Array.length_toList];omega
  ·subst VX;have PY:cur.toList.length=cur.size:=by simp
   have ha:List.drop (j*sz+sz) (List.take (n*sz) cur.toList)=(List.drop (j*sz+sz) cur.toList).take (n*sz-(j*sz+sz)):=by rw[List.drop_take]
   rw[ha,List.take_take,Nat.min_eq_left (by omega)];show List.take (n*sz) (_++nv++_)=_;rw[TX,List.take_append,List.take_of_length_le (by simp;omega)];congr 2;simp only[List.length_append,aZ,TX]
   omega
 ·rw[kD];exact⟨f1,f2,f3,by rw[f4];exact Nat.le_refl _,fun k hk OS=>pF nv w g _ (fun e=>OS (by rw[e]))⟩
 ·rw[kD];exact f4
structure JW(P:Program)(kt:TypeId)(KS:Value->Prop):Prop where
 desc:∃fs,P.underlying kt=some (.struct fs)
 check:∀(w:World) (em:Bool) (v:Value),KS v->(Instr.checkKey em 10000 kt v).run P w= .ok () w
 eq:∀(w:World) (a b:Value),KS a->KS b->∃c,(Op.equal kt a b).run P w= .ok c w∧(c=true↔a=b)
def D7(w:World)(g:Nat)(ks:List Value):Prop:=∃es clock,w.heap[g]? =some (.map es clock)∧es.toList.map (·.key)=ks∧∀e∈es.toList,e.val= .bool true
section
variable{P:Program}{τ:mo}{B n nx:Nat}{l:Env}{H:Hp}{iv:Iv}{w w' w2:World}{O:Nat->dL}{a:Act}
theorem D7.cC(h:D7 w g ks)(hk:w2.heap[g]? =w.heap[g]?):D7 w2 g ks:=by
 obtain⟨es,c,h1,h2⟩:=h;exact⟨es,c,by rw[hk];exact h1,h2⟩
theorem rp(hb:w.heap[r]? =some (.map es clock)):(getObj r).run P w= .ok (.map es clock) w:=by simp[getObj,Sem.run,hb]
theorem FT(o:Obj)(hb:w.heap[r]? =some (.map es clock)):(setObj r o).run P w= .ok () {w with heap:=w.heap.setIfInBounds r o}:=by simp[setObj,Sem.run,hb]
theorem oZ{kt:TypeId}{KS:Value->Prop}(K:JW P kt KS){x:Value}(hx:KS x)(w:World):∀(es:List MapEntry) (i:Nat),(∀e∈es,KS e.key)->
  ((Instr.findAsking kt x es i).run P w= .ok none w∧∀e∈es,e.key≠x)∨∃j e,(Instr.findAsking kt x es i).run P w= .ok (some (j,e.val)) w∧e∈es∧e.key=x
 |[],i,_=>.inl ⟨rfl,fun e he=>by cases he⟩
 |e::es,i,h=>by
  obtain⟨c,hc,TB⟩:=K.eq w x e.key hx (h e aG)
  cases c with
  |true=>exact .inr ⟨i,e,by simp[Instr.findAsking,hc],aG,(TB.1 rfl).symm⟩
  |false=>
   have OS:e.key≠x:=fun he=>by have:=TB.2 he.symm;cases this
   rcases oZ K hx w es (i+1) (fun e he=>h e (aC _ he))with⟨h1,h2⟩|⟨j,e',h1,h2,h3⟩
   ·refine .inl ⟨by simp[Instr.findAsking,hc,h1],fun e' he=>?_⟩;rcases List.mem_cons.1 he with rfl|he
    ·exact OS
    ·exact h2 e' he
   ·exact .inr ⟨j,e',by simp[Instr.findAsking,hc,h1],aC _ h2,h3⟩
theorem tB{kt:TypeId}(K:JW P kt KS){x:Value}(hx:KS x)(w:World)(es:List MapEntry)(h:∀e∈es,KS e.key):
  ((Instr.findKey kt x es).run P w= .ok none w∧∀e∈es,e.key≠x)∨∃j e,(Instr.findKey kt x es).run P w= .ok (some (j,e.val)) w∧e∈es∧e.key=x:=by
 obtain⟨fs,RD⟩:=K.desc
 cases es with
 |nil=>exact .inl ⟨by simp[Instr.findKey,run_underlying RD,Instr.findNow],fun e he=>by cases he⟩
 |cons e es=>
  have hs:Instr.findNow (.struct fs) x (e::es) 0=none:=by
   unfold Instr.findNow
   cases x<;>cases e.key<;>rfl
  have:=oZ K hx w (e::es) 0 h;rcases this with⟨h1,h2⟩|⟨j,e',h1,h2,h3⟩
  ·exact .inl ⟨by simp[Instr.findKey,run_underlying RD,hs,h1],h2⟩
  ·exact .inr ⟨j,e',by simp[Instr.findKey,run_underlying RD,hs,h1],h2,h3⟩
theorem vu{K:SV->Hp->Nat->Iv->World->Prop}
  (hK:∀O w' w2,Rel H nx iv B w O w'->D7 w2 w'.heap.size []->w'.grownBy w2 none->w2.heap.size=w'.heap.size+1->K (.o (.v (.map (some w'.heap.size)))) H nx ((w'.heap.size,w'.heap.size+1)::iv) w2):
  yF P B ⟨dst,.makeMap t none,ty,pos,after,guard⟩ l H nx iv w K:=by
 refine⟨fun O w' ev' r Qq=>?_⟩;have hp:(w'.alloc (.map #[] 0)).heap=w'.heap.push (.map #[] 0):=rfl;have hg:w'.grownBy (w'.alloc (.map #[] 0)) none:=⟨rfl,rfl,rfl,by rw[hp,Array.size_push];omega,fun k hk _=>by rw[hp,Array.getElem?_push,aI (Nat.ne_of_lt hk)]⟩
 have Oj:(w'.alloc (.map #[] 0)).heap.size=w'.heap.size+1:=by rw[hp,Array.size_push]
 refine⟨.map (some w'.heap.size),w'.alloc (.map #[] 0),(w'.heap.size,w'.heap.size+1)::iv,.inl ?_,r.D5 (by omega) (fun id b hb hn=>hg.block _ (r.low id b hb hn).2 (by simp)) ?_,
  hK O w' _ r ⟨#[],0,by rw[hp];simp,rfl,by simp⟩ hg Oj⟩
 ·simp[execOp,Instr.makeMap]
 ·intro lo hi hm;rcases List.mem_cons.1 hm with e|hm
  ·injection e with e1 e2;subst e1 e2;exact⟨by omega,fun id b hb hn h=>by have:=(r.low id b hb hn).2;omega⟩
  ·exact⟨by have:=r.qW lo hi hm;have:=r.size;omega,fun id b hb hn=>r.ji lo hi hm id b hb hn⟩
theorem yI{kt et:Nat}{m x:Operand}{K:SV->Hp->Nat->Iv->World->Prop}(Q:JW P kt KS){vx:SV}
  (ht:P.underlying t=some (.map kt et)) (hz:∀w,(zeroValue et).run P w= .ok (.bool false) w) (hm:ev l m=some (.o (.v (.map (some g))))) (hx:ev l x=some vx) (Tn:∀O,vx.den O=key) (hks:KS key) (Qd:∀k∈ks,KS k)
  (hg:∀O w',Rel H nx iv B w O w'->D7 w' g ks)
  (hK:∀O w' b,Rel H nx iv B w O w'->(b=true↔key∈ks)->K (.o (.v (.bool b))) H nx iv w'):
  yF P B ⟨dst,.lookup t m x false,ty,pos,after,guard⟩ l H nx iv w K:=by
 refine⟨fun O w' ev' r Qq=>?_⟩;obtain⟨es,clock,h1,h2,h3⟩:=hg O w' r;have e1:ev' m= .map (some g):=Qq m _ hm;have e2:ev' x=key:=by rw[Qq x _ hx,Tn]
 have hes:∀e∈es.toList,KS e.key:=fun e he=>Qd _ (by rw[<-h2];exact aR.2 ⟨e,he,rfl⟩);have VI:=Q.check w' es.isEmpty key hks;rcases tB Q hks w' es.toList hes with⟨f1,f2⟩|⟨j,e,f1,f2,f3⟩
 ·refine⟨.bool false,w',iv,.inl ?_,r.here,hK O w' false r ⟨(fun h=>by cases h),fun h=>?_⟩⟩
  ·simp[execOp,Instr.lookup,e1,e2,run_underlying ht,rp h1,VI,f1,hz]
  ·rw[<-h2]at h;obtain⟨e,he,hk⟩:=aR.1 h;exact absurd hk (f2 e he)
 ·refine⟨.bool true,w',iv,.inl ?_,r.here,hK O w' true r ⟨fun _=>by rw[<-h2];exact aR.2 ⟨e,f2,f3⟩,fun _=>rfl⟩⟩;have:=h3 e f2;simp[execOp,Instr.lookup,e1,e2,run_underlying ht,rp h1,VI,f1,this]
theorem rM{kt et:Nat}{m x:Operand}{K:SV->Hp->Nat->Iv->World->Prop}(Q:JW P kt KS){vx:SV}
  (ht:P.underlying t=some (.map kt et)) (hm:ev l m=some (.o (.v (.map (some g))))) (hx:ev l x=some vx) (Tn:∀O,vx.den O=key) (hy:ev l y=some (.o (.v (.bool true)))) (hks:KS key) (Qd:∀k∈ks,KS k) (Q5:key∉ks)
  (hg:∀O w',Rel H nx iv B w O w'->D7 w' g ks∧∀id b,cV H id=some b->(O id).nil=false->(O id).g≠g)
  (hK:∀O w' w2,Rel H nx iv B w O w'->D7 w2 g (ks++[key])->w'.grownBy w2 (some g)->w2.heap.size=w'.heap.size->K (.o (.v undef)) H nx iv w2):
  yF P B ⟨dst,.mapUpdate t m x y,ty,pos,after,guard⟩ l H nx iv w K:=by
 refine⟨fun O w' ev' r Qq=>?_⟩;obtain⟨⟨es,clock,h1,h2,h3⟩,OS⟩:=hg O w' r;have e1:ev' m= .map (some g):=Qq m _ hm;have e2:ev' x=key:=by rw[Qq x _ hx,Tn]
 have e3:ev' y= .bool true:=Qq y _ hy;have hes:∀e∈es.toList,KS e.key:=fun e he=>Qd _ (by rw[<-h2];exact aR.2 ⟨e,he,rfl⟩);have VI:=Q.check w' false key hks;have Ou:g<w'.heap.size:=(ah.1 h1).1;rcases tB Q hks w' es.toList hes with⟨f1,f2⟩|⟨j,e,f1,f2,f3⟩
 ·let ob:Obj:=.map (es.push {key:=key,val:=.bool true,born:=clock}) (clock+1)
  have Oc:w'.grownBy {w' with heap:=w'.heap.setIfInBounds g ob} (some g):=⟨rfl,rfl,rfl,by simp,fun k _ hk=>by
   rw[Array.getElem?_setIfInBounds_ne]
   exact fun e=>hk (by rw[e])⟩
  refine⟨undef,{w' with heap:=w'.heap.setIfInBounds g ob},iv,.inr ⟨?_,rfl⟩,r.yH OS Oc,hK O w' _ r ⟨es.push {key:=key,val:=.bool true,born:=clock},clock+1,by simp[Ou,ob],?_,?_⟩ Oc (by simp)⟩
  ·simp[execOp,Instr.mapUpdate,e1,e2,e3,run_underlying ht,rp h1,FT _ h1,VI,f1,ob]
  ·simp[h2]
  ·intro e he;simp at he;rcases he with he|rfl
   ·exact h3 e (by simpa using he)
   ·rfl
 ·exact absurd (by rw[<-h2];exact aR.2 ⟨e,f2,f3⟩) Q5
theorem FU{len e:Nat}{x:Operand}{K:SV->Hp->Nat->Iv->World->Prop}{vx:SV}{cs:Array Value}{u:Value}
  (hu:P.underlying t=some (.array len e)) (hs:∀w,(sizeOf e).run P w= .ok 1 w) (hp:∀(w:World) (j:Nat) v,cs[j]? =some v->(part e cs j).run P w= .ok v w) (hx:ev l x=some vx) (US:∀O,vx.den O= .agg cs) (hi:ev l i=some (.o (.v (.int k m)))) (hm:0<=m∧m<len) (hc:cs[m.toNat]? =some u)
  (hK:∀O w',Rel H nx iv B w O w'->K (.o (.v u)) H nx iv w'):yF P B ⟨dst,.index t x i,ty,pos,after,guard⟩ l H nx iv w K:=by
 refine⟨fun O w' ev' r Qq=>⟨u,w',iv,.inl ?_,r.here,hK O w' r⟩⟩;have e1:ev' x= .agg cs:=by rw[Qq x _ hx,US]
 have e2:ev' i= .int k m:=Qq i _ hi;have e3:=hp w' _ u hc;simp[execOp,e1,e2,Instr.index,asIntOf,run_underlying hu,hm.1,hm.2,hs,e3]
theorem Hx(hτ:fT P τ){id2 off k c:Nat}{e2:TypeId}{ad x:Operand}{K:SV->Hp->Nat->Iv->World->Prop}
  (ha:ev l ad=some (.o (.p id off))) (hx:ev l x=some (.o (.s id2 0 k c))) (Oy:id<nx) (VY:cV H id2=some (.arr e2 cs2)) (hs:ug H tH) (ho:CC id2 tH=true)
  (hK:∀O w',Rel H nx iv B w O w'->CF τ B t (.o (.p id off)) (.o (.v (.slice (some ⟨(O id2).g,0,none⟩) k c))) tH nx (((O id2).g,(O id2).g+1)::iv) w' (fun H' w2=>K (.o (.v undef)) H' nx (((O id2).g,(O id2).g+1)::iv) w2)):
  OpG P B ⟨dst,.store t ad x,ty,pos,after,guard⟩ l H nx iv w K:=by
 refine⟨fun O w' ev' r Qq=>?_⟩;have e1:ev' ad=(SV.o (.p id off)).den O:=Qq ad _ ha;have e2:ev' x= .slice (some ⟨(O id2).g,0,none⟩) k c:=Qq x _ hx;have r2:=r.free VY (by simp) (r.fits VY).1 hs ho;have sat:Sat 0 [] tH nx (((O id2).g,(O id2).g+1)::iv) B w' O ⟨#[],[]⟩ w':=⟨r2,rfl,rfl,(fun u v hv=>by cases hv),fun u v hv=>by cases hv⟩
 obtain⟨H',w2,w3,hk,PC,OY⟩:=vv (addr:=.o (.p id off)) (x:=.o (.v (.slice (some ⟨(O id2).g,0,none⟩) k c))) hτ sat (by exact Oy) (by simp[SV.sc,At.sc]) (hK O w' r);refine⟨w2,w3,H',_,?_,PC,hk⟩;have OY:(Instr.storeAt t ((SV.o (.p id off)).den O) (.slice (some ⟨(O id2).g,0,none⟩) k c)).run P w'= .ok () w3:=OY;simp[execOp,e1,e2,OY]
def rD(v:dL)(iv:Iv):Iv:=match v.nil with
 |true=>iv
 |false=>(v.g,v.g+1)::iv
theorem Hy{v:dL}{iv:Iv}:∀p,p∈iv->p∈rD v iv:=fun p hp=>by
 unfold rD
 cases v.nil with
 |true=>exact hp
 |false=>exact aC _ hp
theorem JX{v:dL}{iv:Iv}(h:v.nil=false):(v.g,v.g+1)∈rD v iv:=by
 unfold rD;rw[h];exact aG
theorem Rel.drop{H':Hp}{b:jh}(r:Rel H nx iv B w O w')(Oy:cV H id=some b)(hd:b≠ .dead)(hs:ug H H')(ho:CC id H'=true):Rel H' nx (rD (O id) iv) B w' O w':=by
 have h1:Rel H' nx iv B w' O w':=Rel.mk' rfl rfl rfl (Nat.le_refl _) (by have:=r.base;have:=r.size;omega) (fun lo hi hm=>by have:=r.qW lo hi hm;have:=r.size;omega) (fun j c h=>r.keys j c (hs.get h))
  (fun j c h=>r.fits (hs.get h)) (fun j c h=>r.scopd (hs.get h)) (fun j k c e h h'=>r.inj j k c e (hs.get h) (hs.get h')) (fun j c h=>r.low j c (hs.get h)) (fun _ _ _=>rfl) (fun lo hi hm j c h=>r.ji lo hi hm j c (hs.get h))
 unfold rD
 cases hn:(O id).nil with
 |false=>exact r.free Oy hd hn hs ho
 |true=>exact h1
theorem FV(hτ:fT P τ){id3 id2 c1 t3:Nat}{c:At}{b2:jh}{x:Operand}{vx:SV}{K:SV->Hp->Nat->Iv->World->Prop}
  (hx:ev l x=some vx) (hy:ev l y=some (.o (.s id3 0 1 c1))) (VZ:cV H id3=some (.box t3 [c])) (VY:cV H id2=some b2) (PM:b2≠ .dead) (hs:ug H tH) (ho3:CC id3 tH=true) (To:CC id2 tH=true)
  (hK:∀O w',Rel H nx iv B w O w'->Rel tH nx (((O id3).g,(O id3).g+1)::rD (O id2) iv) B w' O w'->w'.heap[(O id3).g]? =some (.cells #[c.den O] t3 (0,0))->
   xZ τ B t vx (.o (.v (.slice (some ⟨(O id3).g,0,none⟩) 1 c1))) tH nx (((O id3).g,(O id3).g+1)::rD (O id2) iv) w' (fun v H' OW=>K v H' OW (((O id3).g,(O id3).g+1)::rD (O id2) iv) w')):
  OpA P B ⟨dst,.call ⟨.builtin .append,⟨[x,y]⟩,⟨[t,t]⟩⟩,ty,pos,after,guard⟩ l H nx iv w K:=by
 refine⟨fun O w' ev' r Qq=>?_⟩;have e1:ev' x=vx.den O:=Qq x _ hx;have e2:ev' y= .slice (some ⟨(O id3).g,0,none⟩) 1 c1:=Qq y _ hy;have Va:=(r.fits VZ).1;have r1:=r.drop VY PM hs To;have r2:Rel tH nx (((O id3).g,(O id3).g+1)::rD (O id2) iv) B w' O w':=by
  refine r1.more (by have:=(r.low id3 _ VZ Va).2;omega) fun j cc hj WG he=>?_;obtain⟨h2,h3⟩:=CC.get ho3 hj;exact h2 (r.inj j id3 cc _ (hs.get hj) VZ h3 (by simp) WG Va (by omega))
 have sat:Sat 0 [] tH nx (((O id3).g,(O id3).g+1)::rD (O id2) iv) B w' O ⟨#[],[]⟩ w':=⟨r2,rfl,rfl,(fun u v hv=>by cases hv),fun u v hv=>by cases hv⟩
 obtain⟨rr,H',OW,ρ',w2,hk,PC,hr,QU,hρ,OY⟩:=tC (ty:=ty) hτ sat (hK O w' r r2 (by have:=r.box id3 _ _ VZ;simpa using this));refine⟨rr,H',OW,_,ρ',w',w2,?_,PC,hr,QU,hρ,hk⟩;have OY:(Builtin.append_ #[t,t] ty #[vx.den O,.slice (some ⟨(O id3).g,0,none⟩) 1 c1]).run P w'= .ok (rr.den ρ') w2:=OY;simp[execOp,resolve,invoke,builtin,e1,e2,OY]
end
end Go.Sx
