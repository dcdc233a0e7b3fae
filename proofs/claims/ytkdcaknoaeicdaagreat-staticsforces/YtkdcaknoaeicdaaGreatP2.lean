/- Texts Sx12 to Sx23: lemmas, each with its conditions. -/
import Derived.Laws.BytesString
import Derived.Test.YtkdcaknoaeicdaaGreatP1
namespace Go.Sx
open Go
variable{args:(Nat->dg)->Array Value}{K Q0 next:Act->World->Prop}{R R':Ending->World->Prop}{k:Env->Prop}{l:List (Nat×TI)}{B g:Nat}{O:Nat->dg}{d:Option Tmp}{P:Program}
section
variable{P:Program}{τ:nH}{ops:Array Oper}{B n nx:Nat}{l:Env}{H:Hp}{iv:Iv}{w w':World}{O:Nat->dg}{a:Act}
variable{Pd:List Nat}{E:List (Nat×Nat)}{lx la:Array Bool}{Q:Exit->Act->World->Prop}{md:Region.Mode}
theorem wN(hr:Region.ready md ops la=[])(h:Q .normal a w):∀fuel,sA P md ops Q fuel la a w
 |0=>⟨hr,h⟩
 |_+1=>⟨fun _=>h,by rw[hr];simp⟩
theorem yZ(sat:Sat n l H nx iv B w O a w'){K:SV->Hp->Iv->World->Prop}{o:Oper}
  (h:EJ P B g args H nx iv w K) (TL:(execOp a.eval o).run P w'=(callFunc g (args O)).run P w')
  (hn:∀v w2,K (.o (.v v)) H ((w'.heap.size,w2.heap.size)::iv) w2->Ext w' w2->Sat n l H nx ((w'.heap.size,w2.heap.size)::iv) B w2 O a w2->next (a.put o.dst v) w2):o.wp P a w' next Q:=by
 have hc:=h.h O w' sat.rel;unfold Oper.wp;rw[TL,hc.e.h];refine Calls.mono hc.c fun e w2 he=>?_;obtain⟨v,rfl,SH,hK⟩:=he;refine hn v w2 hK SH ?_;have r:=(sat.rel.ext SH).here;refine sat.next (ρ':=O) ?_ (aF _) (fun _ _=>rfl)
 refine Rel.mk' r.os r.tape r.output r.size r.base ?_ r.keys (fun id b hb=>r.fits hb) (fun id b hb=>r.scopd hb) r.inj r.low r.uh ?_
 ·intro lo hi hm;rcases List.mem_cons.1 hm with hm|hm
  ·injection hm with h1 h2;omega
  ·exact r.qd lo hi hm
 ·intro lo hi hm id b hb PC;rcases List.mem_cons.1 hm with hm|hm
  ·injection hm with h1 h2;have:=(sat.rel.low id b hb PC).2;omega
  ·exact r.kP lo hi hm id b hb PC
theorem sB{o:Oper}{K:SV->Hp->Nat->Iv->World->Prop}(h:yU true P τ B o l H nx iv w K)(sat:Sat n l H nx iv B w O a w')(hr:sw o.op=false)(ha:Jg o.op=false)(hh:pE o=false)
  (hn:∀v w2,K (.o (.v v)) H nx ((w'.heap.size,w2.heap.size)::iv) w2->Ext w' w2->Sat n l H nx ((w'.heap.size,w2.heap.size)::iv) B w2 O a w2->next (a.put o.dst v) w2):o.wp P a w' next Q:=by
 obtain⟨dst,op,ty,pos,after,guard⟩:=o;simp only at hr ha;have:∃f args x,op= .call ⟨.value f,args,x⟩:=by
  simp only[pE,hr,ha,Bool.or_self,Bool.false_or,Bool.not_eq_false']at hh;split at hh
  ·exact⟨_,_,_,rfl⟩
  ·cases hh
 obtain⟨f,⟨args⟩,x,rfl⟩:=this;simp only[yU]at h;obtain⟨vf,h1,hf,PH⟩:=dV sat h;obtain⟨vs,h2,Q8,hss⟩:=qf sat h1;have Rt:(args.toArray).map a.eval=np O vs:=by
  apply Array.ext';simp[np,Q8]
 split at h2
 ·rename_i g first caps
  refine yZ sat h2 ?_ (fun v w2 hK he hs=>hn v w2 hK he hs);simp[execOp,resolve,hf,SV.den,At.den,Deferred.ofValue,invoke,Rt]
 ·rename_i g ids;refine yZ sat h2 ?_ (fun v w2 hK he hs=>hn v w2 hK he hs);simp[execOp,resolve,hf,SV.den,At.den,Deferred.ofValue,invoke,Rt]
 ·exact h2.elim
def QN(Q0:Act->World->Prop):Exit->Act->World->Prop:=fun e a w=>e= .normal∧Q0 a w
theorem y8(sat:Sat n l H nx iv B w O a w'){o:Oper}{yes no:Env->Prop}(h:tE ops.toList o.guard l yes no)(hg:o.guard=none∨Pd=[]):
  (Region.wanted o (yielded ops a.tmps)=true∧∃l',yes l'∧Sat n l' H nx iv B w O a w'∧(Pd≠[]->l'=l))∨
  (Region.wanted o (yielded ops a.tmps)=false∧Pd=[]∧∃l',no l'∧Sat n l' H nx iv B w O a w'):=by
 by_cases SS:o.guard=none
 ·rw[SS]at h;exact .inl ⟨by simp[Region.wanted,SS],l,h,sat,fun _=>rfl⟩
 ·have Vs:=hg.resolve_left SS;rcases ix sat h with⟨h1,l',h2,h3⟩|⟨h1,l',h2,h3⟩
  ·exact .inl ⟨h1,l',h2,h3,fun OH=>absurd Vs OH⟩
  ·exact .inr ⟨h1,Vs,l',h2,h3⟩
theorem lG(sat:Sat n l H nx iv B w O a w'){v:SV}(h:EI d v l k)(hd:∀t,d=some t->t<n)(hv:v.sc nx):
  ∃l',k l'∧Sat n l' H nx iv B w O (a.put d (v.den O)) w'∧∀t,fM l t=none->d≠some t->fM l' t=none:=by
 unfold EI at h;split at h
 ·rename_i t;exact⟨_,h,sat.put (hd t rfl) hv,fun u hu OH=>by rw[eS,aL (fun e=>OH (by rw[e]))];exact hu⟩
 ·exact⟨l,h,sat,fun t ht _=>ht⟩
theorem mL{Q:Exit->Act->World->Prop}{i:Nat}{o:Oper}(hi:ops[i]? =some o)
  (h:(Region.wanted o (yielded ops a.tmps)=true∧o.wp P a w' K Q)∨(Region.wanted o (yielded ops a.tmps)=false∧K (a.put o.dst undef) w')):wpOp P ops Q i K a w':=by
 unfold wpOp;simp only[hi]
 rcases h with⟨h1,h2⟩|⟨h1,h2⟩
 ·rw[if_pos h1];exact .inl h2
 ·rw[aL (by simp[h1])];exact h2
theorem Jk(hτ:fJ P τ)(OI:∀(j:Nat) o,ops[j]? =some o->∀d,o.dst=some d->d<n)(OV:∀(j:Nat) (o:Oper) cs b,ops[j]? =some o->o.op≠ .select cs b)
  {K:KT} (hQ:∀l' H' OL iv' w2 ρ' a' w3,K l' H' OL iv' w2->Sat n l' H' OL iv' B w2 ρ' a' w3->Q0 a' w3):
  ∀(m fuel:Nat) (π:List It) (lx la:Array Bool) (Pd:List Nat) (E:List (Nat×Nat)) (l:Env) (H:Hp) (nx:Nat) (iv:Iv) (w:World) (O:Nat->dg) (a:Act) (w':World),
   fuel+π.length=m->Lz la<=fuel->pO ops π lx Pd=true->Jf P τ B ops.toList π l H nx iv w K->Lu P ops n B Pd E lx la l H nx iv w O a w'->sA P .any ops (QN Q0) fuel la a w':=by
 intro m
 induction m using Nat.strongRecOn with
 |_ m ih=>
 intro fuel π lx la Pd E l H nx iv w O a w' hm Vt hc h s
 match π with
 |[]=>
  simp only[pO,a9,List.isEmpty_iff]at hc;obtain⟨hr,rfl⟩:=hc;refine wN ?_ ⟨rfl,hQ _ _ _ _ _ _ _ _ h s.sat⟩ fuel;refine List.eq_nil_iff_forall_not_mem.2 fun j hj=>?_;obtain⟨h1,o,h2,h3⟩:=eH.1 hj;have:j∈Region.ready .any ops lx:=by
   refine eH.2 ⟨?_,o,h2,fun e he hb=>?_⟩
   ·have Od:j<lx.size:=by rw[s.Lv,<-s.MA];exact(ah.1 h1).1
    rw[Array.getElem?_eq_getElem Od]
    cases hb:lx[j]with
    |false=>rfl
    |true=>
     have:=(s.la j).2 (.inl (by rw[Array.getElem?_eq_getElem Od,hb]));rw[h1]at this;cases this
   ·rcases(s.la e.on).1 (h3 e he hb)with h4|⟨g,h4⟩
    ·exact h4
    ·exact absurd (s.IT _ _ h4) (by simp)
  rw[hr]at this
  cases this
 | .p i::r=>
  obtain⟨o,ho,h1⟩:=gA h;rw[bA]at ho;simp only[pO,ho,a9]at hc;obtain⟨⟨⟨⟨⟨⟨c1,c2⟩,c3⟩,c4⟩,c5⟩,c6⟩,c7⟩:=hc
  cases hd:o.dst with
  |none=>rw[hd]at c3;cases c3
  |some d=>
  rw[hd]at c3;obtain⟨b,v,mk,obj,hK,-,-,-,-,-,UB⟩:=lJ hτ h1 s.sat c1;rw[hd]at hK;obtain⟨l',hl,RU,Pb⟩:=rz hK;have hmem:∀j∈Pd,j≠i:=fun j hj=>by
   have:=List.all_eq_true.1 c5 j hj;simpa only[Bool.not_eq_true',nK]using this
  have c6':∀j∈Pd,∀oj,ops[j]? =some oj->o.apart ops oj=true∧oj.apart ops o=true:=fun j hj oj Qu=>by
   have:=List.all_eq_true.1 c6 j hj;simpa only[IS,Qu,a9]using this
  have hlxi:lx[i]? =some false:=by
   have:lx.getD i true=false:=by simpa using c4
   rw[ai]at this
   cases hx:lx[i]? with
   |none=>rw[hx]at this;cases this
   |some b=>rw[hx]at this;simp at this;rw[this]
  refine ih (fuel+r.length) (by simp only[List.length_cons]at hm;omega) fuel r lx la (i::Pd) E l' H nx iv w O a w' rfl Vt c7 hl ?_;refine⟨⟨s.sat.rel,s.sat.size,s.sat.defers,fun t v hv=>s.sat.env t v (Pb t v hv).2,fun t v hv=>s.sat.sc t v (Pb t v hv).2⟩,s.Lv,s.MA,s.la,fun j g hg=>List.mem_cons_of_mem _ (s.IT j g hg),fun j hj=>?_,s.eg,s.inj,fun j hj j' hj' OH oj oj' h3 h4=>?_⟩
  ·rcases List.mem_cons.1 hj with rfl|hj
   ·refine⟨hlxi,o,d,mk,obj,ho,c1,by simpa using c2,⟨hd,by simpa using c3⟩,UB,RU,fun g hg=>absurd (s.IT _ _ hg) (fun RD=>hmem _ RD rfl)⟩
   ·obtain⟨h0,oj,dj,mkj,objj,g1,g2,g3,g4,g5,g6,g7⟩:=s.pd j hj;exact⟨h0,oj,dj,mkj,objj,g1,g2,g3,g4,g5,Jj Pb g6,g7⟩
  ·rcases List.mem_cons.1 hj with e1|k1<;>rcases List.mem_cons.1 hj' with e2|k2
   ·exact absurd (e1.trans e2.symm) OH
   ·rw[e1,ho]at h3;injection h3 with h3;subst h3;exact(c6' j' k2 oj' h4).1
   ·rw[e2,ho]at h4;injection h4 with h4;subst h4;exact(c6' j k1 oj h3).2
   ·exact s.ap j k1 j' k2 OH oj oj' h3 h4
 | .x i::r=>
  obtain⟨o,ho,h1⟩:=gA h;unfold fX at h1;rw[bA]at ho;simp only[pO,ho,a9]at hc;obtain⟨⟨⟨⟨c1,c2⟩,c3⟩,c4⟩,c5⟩:=hc;have c2:i∈Region.ready .any ops lx:=by simpa using c2
  have c1:o.guard=none∨Pd=[]:=by simpa using c1
  have Qv:∀j∈Pd,j≠i->∀oj,ops[j]? =some oj->o.apart ops oj=true:=fun j hj Oy oj Qu=>by
   have:=List.all_eq_true.1 c3 j hj;simpa only[IS,Qu,Bool.or_eq_true,nK.2 Oy,Bool.false_eq_true,false_or]using this
  obtain⟨Oj,o',Rv,hwait⟩:=eH.1 c2;rw[ho]at Rv;injection Rv with Rv;subst Rv;simp only[List.length_cons]at hm;have Uu:=OI i o ho;by_cases hE:∃g,(i,g)∈E
  ·
   obtain⟨g,hg⟩:=hE;obtain⟨h0,o',d,mk',obj',g1,g2,g3,g4,g5,g6,g7⟩:=s.pd i (s.IT i g hg);rw[ho]at g1;injection g1 with g1;subst g1;rw[g3,GP g2]at h1;have h1:yU true P τ B o l H nx iv w fun v H' OL iv' w'=>EI o.dst v l fun l'=>Jf P τ B ops.toList r l' H' OL iv' w' K:=h1;obtain⟨b,v,mk,obj,hK,Oe,hb,hv,TU,Pn,UB⟩:=lJ hτ h1 s.sat g2;obtain⟨l',hl,s'⟩:=s.B4 ho hg hb hv TU Pn UB hK Uu Qv;exact ih (fuel+r.length) (by omega) fuel r _ _ _ _ _ _ _ _ _ _ _ _ rfl Vt c5 hl s'
  ·have VF:∀g,(i,g)∉E:=fun g hg=>hE ⟨g,hg⟩;have Pc:la[i]? =some false:=by
    have Od:i<la.size:=by rw[s.MA,<-s.Lv];exact(ah.1 Oj).1
    rw[Array.getElem?_eq_getElem Od]
    cases hb:la[i]with
    |false=>rfl
    |true=>
     rcases(s.la i).1 (by rw[Array.getElem?_eq_getElem Od,hb])with h2|h2
     ·rw[Oj]at h2;cases h2
     ·exact absurd h2 hE
   have SI:i∈Region.ready .any ops la:=eH.2 ⟨Pc,o,ho,fun e he hb=>(s.la e.on).2 (.inl (hwait e he hb))⟩;have Tt:=jU Pc;obtain⟨f,rfl⟩:∃f,fuel=f+1:=⟨fuel-1,by omega⟩
   cases hR:sw o.op with
   |true=>
    rw[hR]at c4;obtain⟨yX,Of,QI,hb3,RV⟩:=yW c4 s.Lv;have Pg:∀j,yX j->la.getD j false=false:=fun j hj=>by
     cases hl:la.getD j false with
     |false=>rfl
     |true=>
      have hl:la[j]? =some true:=by
       rw[ai]at hl
       cases hx:la[j]? with
       |none=>rw[hx]at hl;cases hl
       |some b=>rw[hx]at hl;simp at hl;rw[hl]
      rcases(s.la j).1 hl with h4|⟨g,h4⟩
      ·have:=QI j hj;rw[ai,h4]at this;cases this
      ·exact absurd hj (hb3 j (s.IT j g h4))
    have RE:∀j oj,ops[j]? =some oj->j≠i->la.getD j true=false->¬yX j->o.apart ops oj=true∧(GL o.op=true∨pE oj=false):=by
     intro j oj Qu Oy TV R9;have Sf:lx.getD j true=false:=by
      rw[ai]at TV ⊢
      cases hx:lx[j]? with
      |none=>
       have:la[j]? =none:=by
        rw[Array.getElem?_eq_none_iff]at hx ⊢;rw[s.MA,<-s.Lv];exact hx
       rw[this]at TV;cases TV
      |some b=>
       cases b with
       |false=>rfl
       |true=>rw[(s.la j).2 (.inl hx)]at TV;cases TV
     exact RV j oj Qu Oy Sf R9
    rcases y8 s.sat h1 c1 with⟨hw,l1,h2,sat1,RU⟩|⟨hw,Vs,l1,h2,sat1⟩
    ·obtain⟨v,hK,Q8,ON⟩:=(j3 hτ h2 sat1 hR).resolve_right (fun hh=>by have:=hh.1;rw[lK hR]at this;cases this);obtain⟨l2,h3,sat2,Pb⟩:=lG sat1 hK Uu Q8;refine kv (pu:=GL o.op) (v:=v.den O) ho OV (fun c a w hq=>?_) yX Of f la a w' Pg RE SI (.inl ⟨hw,fun w3 he=>ON w3 (he.imp id fun he=>sat1.rel.ext he)⟩) ?_
     ·exact absurd hq.1 (by simp)
     ·refine ih (f+r.length) (by omega) f r _ _ _ _ _ _ _ _ _ _ _ _ rfl (by omega) c5 h3 (s.step OV ho VF Qv sat2 ?_ (fun _ _ _=>Ext.refl _) (fun g _ Sp Re _=>⟨Sp,Re⟩));intro j hj Oy d hd OH;have RU:=RU (by intro e;rw[e]at hj;cases hj);subst RU;exact Pb d hd OH
    ·obtain⟨l2,h3,sat2,Pb⟩:=lG (v:=.o (.v undef)) sat1 h2 Uu trivial;refine kv (pu:=GL o.op) (v:=undef) ho OV (fun c a w hq=>?_) yX Of f la a w' Pg RE SI (.inr ⟨hw,rfl⟩) ?_
     ·exact absurd hq.1 (by simp)
     ·refine ih (f+r.length) (by omega) f r _ _ _ _ _ _ _ _ _ _ _ _ rfl (by omega) c5 h3 (s.step OV ho VF Qv sat2 ?_ (fun _ _ _=>Ext.refl _) (fun g _ Sp Re _=>⟨Sp,Re⟩));intro j hj;rw[Vs]at hj;cases hj
   |false=>
    rw[hR]at c4;simp only[a9]at c4;obtain⟨c4,c6⟩:=c4;have hpick:∀j∈Region.ready .any ops la,j=i∨(j≠i∧j∈Pd):=by
     intro j hj;by_cases Oy:j=i
     ·exact .inl Oy
     ·refine .inr ⟨Oy,?_⟩;apply Decidable.byContradiction;intro hjP;obtain⟨k1,oj,k2,k3⟩:=eH.1 hj;have:j∈Region.ready .any ops (EB lx (Pd.filter fun j=> !Nat.beq j i)):=by
       refine eH.2 ⟨?_,oj,k2,fun e he hb=>?_⟩
       ·have Od:j<(EB lx (Pd.filter fun j=> !Nat.beq j i)).size:=by rw[EH,s.Lv,<-s.MA];exact(ah.1 k1).1
        rw[Array.getElem?_eq_getElem Od]
        cases hb:(EB lx (Pd.filter fun j=> !Nat.beq j i))[j]with
        |false=>rfl
        |true=>
         rcases(yY _ lx j).1 (by rw[Array.getElem?_eq_getElem Od,hb])with h4|⟨h4,_⟩
         ·have:=(s.la j).2 (.inl h4);rw[k1]at this;cases this
         ·exact absurd (List.mem_filter.1 h4).1 hjP
       ·rw[yY];rcases(s.la e.on).1 (k3 e he hb)with h4|⟨g,h4⟩
        ·exact .inl h4
        ·refine .inr ⟨List.mem_filter.2 ⟨s.IT _ _ h4,?_⟩,?_⟩
         ·simp only[Bool.not_eq_true',nK]
          intro e2;rw[e2]at h4;exact VF g h4
         ·have:=(s.pd _ (s.IT _ _ h4)).1;exact(ah.1 this).1
      have:=List.all_eq_true.1 c6 j this;exact Oy (eI this)
    refine⟨fun he=>(by rw[he]at SI;cases SI),fun j hj=>?_⟩;have TV:=(eH.1 hj).1;have hunj:=jU TV;rcases hpick j hj with rfl|⟨Oy,hjP⟩
    ·
     refine mL ho ?_;rcases y8 s.sat h1 c1 with⟨hw,l1,h2,sat1,RU⟩|⟨hw,Vs,l1,h2,sat1⟩
     ·refine .inl ⟨hw,?_⟩;have hl1':∀k∈Pd,k≠j->∀(l2:Env),(∀t,fM l1 t=none->o.dst≠some t->fM l2 t=none)->∀d,fM l d=none->o.dst≠some d->fM l2 d=none:=by
       intro k hk _ l2 Pb d hd OH;have RU:=RU (by intro e;rw[e]at hk;cases hk);subst RU;exact Pb d hd OH
      cases hA:Jg o.op with
      |true=>
       obtain⟨b,v,mk,obj,hK,Oe,hb,hv,TU,Pn,UB⟩:=lJ hτ h2 sat1 hA;have Ol:Rel ((nx,b)::H) (nx+1) iv B w (gO O nx ⟨w'.heap.size,0,false⟩) (w'.alloc obj):=
        sat1.rel.push b _ rfl rfl rfl (by simp) (fun k hk=>heap_alloc_old _ _ hk) (fun _=>⟨aF _,by simp⟩) (Pn _ _ (heap_alloc_new _ _)) hb
       obtain⟨l2,h3,sat2,Pb⟩:=lG (sat1.next Ol (Nat.le_succ _) (fun id Om=>gC id Om)) hK Uu hv;rw[TU]at sat2;refine k9 (v:=mk w'.heap.size) (w2:=w'.alloc obj) (UB w') ⟨fun _=>Ext.alloc _ _,?_⟩;refine ih (f+r.length) (by omega) f r _ _ _ _ _ _ _ _ _ _ _ _ rfl (by omega) c5 h3 (s.step OV ho VF Qv sat2 (fun k hk hkj=>hl1' k hk hkj l2 Pb) (fun _ _ _=>Ext.alloc _ _) (fun g hg Sp Re _=>⟨fun id c hc hn he=>?_,Re⟩));rw[c9]at hc;split at hc
       ·rename_i e;subst e;rw[eL]at he;simp only at he;omega
       ·have Pa:gO O nx ⟨w'.heap.size,0,false⟩ id=O id:=(gC id (s.sat.rel.keys id c hc)).symm;rw[Pa]at hn he;exact Sp id c hc hn he
      |false=>
       cases hH:pE o with
       |false=>
        rw[mr hH]at h2;refine sB h2 sat1 hR hA hH fun v w2 hK he hs=>⟨fun _=>he,?_⟩
        obtain⟨l2,h3,sat2,Pb⟩:=lG (v:=.o (.v v)) hs hK Uu trivial;refine ih (f+r.length) (by omega) f r _ _ _ _ _ _ _ _ _ _ _ _ rfl (by omega) c5 h3 (s.step OV ho VF Qv sat2 (fun k hk hkj=>hl1' k hk hkj l2 Pb) (fun _ _ _=>he) (fun g hg Sp Re _=>⟨Sp,fun lo hi hm hc=>?_⟩));rcases List.mem_cons.1 hm with hm|hm
        ·injection hm with e1 e2;omega
        ·exact Re lo hi hm hc
       |true=>
        have Vs:Pd=[]:=by rw[hH]at c4;simpa using c4
        subst Vs;refine lL hτ h2 sat1 fun v H' OL iv' w2 ρ' w3 hK sat2 hv=>⟨fun hs=>(by rw[hs o ho]at hH;cases hH),?_⟩
        obtain⟨l2,h3,sat3,Pb⟩:=lG sat2 hK Uu hv;exact ih (f+r.length) (by omega) f r _ _ _ _ _ _ _ _ _ _ _ _ rfl (by omega) c5 h3 (s.step OV ho VF Qv sat3 (fun k hk=>by cases hk) (fun k hk=>by cases hk) (fun g _ _ _ hk=>by obtain⟨k,hk,_⟩:=hk;cases hk))
     ·refine .inr ⟨hw,fun _=>Ext.refl _,?_⟩;subst Vs;obtain⟨l2,h3,sat2,Pb⟩:=lG (v:=.o (.v undef)) sat1 h2 Uu trivial;exact ih (f+r.length) (by omega) f r _ _ _ _ _ _ _ _ _ _ _ _ rfl (by omega) c5 h3 (s.step OV ho VF Qv sat2 (fun k hk=>by cases hk) (fun k hk=>by cases hk) (fun g _ _ _ hk=>by obtain⟨k,hk,_⟩:=hk;cases hk))
    ·
     refine s.early OI OV hjP TV fun E' a2 w2 he s'=>⟨fun _=>he,?_⟩
     exact ih (f+(r.length+1)) (by omega) f (.x i::r) lx _ Pd E' l H nx iv w O a2 w2 rfl (by omega) (by simp only[pO,ho,a9];exact⟨⟨⟨⟨by simpa using c1,by simpa using c2⟩,c3⟩,by rw[hR];simp only[a9];exact⟨c4,c6⟩⟩,c5⟩) h s'
theorem cK(hτ:fJ P τ)(hm:P.follows .mixedOrders=true){K:KT}(π:List It)(hs:Region.noSelect ops=true)(hc:GN ops ops.size π 0 []=true)
  (h:Jf P τ B ops.toList π l H nx iv w K):uj P B ops l H nx iv w K:=by
 rw[Cm π (Array.replicate ops.size false) 0 [] (by simp) (fun j=>by rw[tD,ai,Array.getElem?_replicate];split<;>rfl)]at hc;refine⟨fun n O a w' OI sat Q hQ id=>?_⟩;refine wp_mono (Q':=Q) (c:=.region id ops true) (wp_region_any (Q:=QN (Q .normal)) hm (sC _ _ _ _ ?_)) (fun e a w hq=>by obtain⟨rfl,hq⟩:=hq;exact hq);refine Jk hτ (fun j o ho d hd=>?_) (Region.noSelect_spec hs) hQ _ _ π _ _ [] [] l H nx iv w O a _ rfl ?_ hc h ?_
 ·have:=List.all_eq_true.1 OI o (aC (by rw[bA];exact ho));rw[hd]at this;have h5:d+1<=n:=by simpa [Nat.blt]using this
  exact h5
 ·unfold Lz;refine aZ List.countP_le_length ?_;simp
 ·refine⟨⟨sat.rel.drew,sat.size,sat.defers,sat.env,sat.sc⟩,by simp,by simp,fun j=>by simp,fun j g h=>(by cases h),fun j h=>(by cases h),fun j g h=>(by cases h),fun j g j' h=>(by cases h),fun j h=>(by cases h)⟩
end
def yB:List (Nat×TI)->Nat->Option TI
 |[],_=>none
 |(t,v)::r,u=>match Nat.beq t u with
  |true=>some v
  |false=>yB r u
def veq:Value->Value->Bool
 | .bool a,.bool b=>a==b
 | .int k n,.int j m=>pR k j&&decide (n=m)
 | .string a,.string b=>a.data.toList.isEmpty&&b.data.toList.isEmpty
 | .pointer none,.pointer none=>true
 | .slice none a b,.slice none c d=>Nat.beq a c&&Nat.beq b d
 | .map none,.map none=>true
 | .nilFunc,.nilFunc=>true
 | .nilIface,.nilIface=>true
 |_,_=>false
theorem B5{a b:IntKind}(h:pR a b=true):a=b:=by cases a<;>cases b<;>first|rfl|cases h
theorem NM{a b:Value}(h:veq a b=true):a=b∧a.oneCell'=true:=by
 unfold veq at h;split at h
 ·exact⟨by rw[eq_of_beq h],rfl⟩
 ·simp only[a9,decide_eq_true_eq]at h;exact⟨by rw[B5 h.1,h.2],rfl⟩
 ·rename_i a b;simp only[a9,List.isEmpty_iff]at h;refine⟨?_,rfl⟩;have ha:a=⟨#[]⟩:=by
   obtain⟨⟨l⟩⟩:=a;simp only at h;rw[h.1]
  have hb:b=⟨#[]⟩:=by
   obtain⟨⟨l⟩⟩:=b;simp only at h;rw[h.2]
  rw[ha,hb]
 ·exact⟨rfl,rfl⟩
 ·simp only[a9]at h;exact⟨by rw[eI h.1,eI h.2],rfl⟩
 ·exact⟨rfl,rfl⟩
 ·exact⟨rfl,rfl⟩
 ·exact⟨rfl,rfl⟩
 ·cases h
def MB:List Value->List Value->Bool
 |[],[]=>true
 |a::r,b::s=>veq a b&&MB r s
 |_,_=>false
theorem Hc:∀{a b:List Value},MB a b=true->a=b∧∀x∈b,x.oneCell'=true
 |[],[],_=>⟨rfl,by simp⟩
 |a::r,b::s,h=>by
  simp only[MB,a9]at h;obtain⟨h1,h2⟩:=NM h.1;obtain⟨h3,h4⟩:=Hc h.2;refine⟨by rw[h1,h3],fun x hx=>?_⟩;rcases List.mem_cons.1 hx with rfl|hx
  ·rw[<-h1];exact h2
  ·exact h4 x hx
 |[],_::_,h=>by cases h
 |_::_,[],h=>by cases h
def yC(P:Program):List Field->List (Nat×Nat)->Bool
 |[],[]=>true
 |f::r,(o,t)::s=>Nat.beq f.offset o&&Nat.beq f.type t&&(P.info? f.type).isSome&&yC P r s
 |_,_=>false
theorem y9{P:Program}:∀{a:List Field} {b:List (Nat×Nat)},yC P a b=true->a.map (fun f=>(f.offset,f.type))=b∧∀f∈a,(P.info? f.type).isSome=true
 |[],[],_=>⟨rfl,by simp⟩
 |f::r,(o,t)::s,h=>by
  simp only[yC,a9]at h;obtain⟨h3,h4⟩:=y9 h.2;refine⟨by rw[List.map_cons,h3,eI h.1.1.1,eI h.1.1.2],fun x hx=>?_⟩;rcases List.mem_cons.1 hx with rfl|hx
  ·exact h.1.2
  ·exact h4 x hx
 |[],_::_,h=>by cases h
 |_::_,[],h=>by cases h
def isAgg:TypeDesc->Bool
 | .struct _=>true
 | .array _ _=>true
 |_=>false
def aAP(a b:Bool):Bool:=match a with
 |true=>b
 |false=> !b
theorem MC{a b:Bool}(h:aAP a b=true):a=b:=by cases a<;>cases b<;>first|rfl|cases h
def tokB(P:Program)(t:Nat)(i:TI):Bool:=
 (match P.info? t with
  |some inf=>Nat.beq inf.size i.size&&Nat.beq inf.bytes i.bytes&&(match inf.zero with
   |some z=>MB z.cells.toList i.zero
   |none=>false)
  |none=>false)&&Nat.beq i.zero.length i.size&&
 (match P.underlying t with
  |some d=>aAP (isAgg d) i.agg&&(match i.tag with
   |1=>(match d with
    | .int k=>pR k i.ik
    |_=>false)
   |2=>(match d with
    | .bool=>true
    |_=>false)
   |3=>(match d with
    | .string=>true
    |_=>false)
   |4=>(match d with
    | .slice e=>Nat.beq e i.elem
    |_=>false)
   |5=>(match d with
    | .struct fs=>yC P fs.toList i.fields
    |_=>false)
   |6=>(match d with
    | .array n e=>Nat.beq n i.Ar&&Nat.beq e i.elem
    |_=>false)
   |_=>true)
  |none=>false)
theorem tok_of{t:Nat}{i:TI}(h:tokB P t i=true):GQ P t i:=by
 simp only[tokB,a9]at h;obtain⟨⟨h1,h2⟩,h3⟩:=h
 cases hi:P.info? t with
 |none=>rw[hi]at h1;cases h1
 |some inf=>
 rw[hi]at h1;simp only[a9]at h1;obtain⟨⟨h4,h5⟩,h6⟩:=h1
 cases hz:inf.zero with
 |none=>rw[hz]at h6;cases h6
 |some z=>
 rw[hz]at h6;obtain⟨h7,h8⟩:=Hc h6
 cases hu:P.underlying t with
 |none=>rw[hu]at h3;cases h3
 |some d=>
 rw[hu]at h3;simp only[a9]at h3;obtain⟨h9,h10⟩:=h3;refine⟨⟨inf,z,hi,eI h4,eI h5,hz,h7⟩,eI h2,h8,⟨d,hu,?_⟩,fun e=>?_,fun e=>?_,fun e=>?_,fun e=>?_,fun e=>?_,fun e=>?_⟩
 ·rw[<-MC h9]
  cases d<;>rfl
 all_goals rw[e]at h10
 ·cases d with
  |int k=>simp only at h10;rw[<-B5 h10];exact hu
  |_=>cases h10
 ·cases d with
  |bool=>exact hu
  |_=>cases h10
 ·cases d with
  |string=>exact hu
  |_=>cases h10
 ·cases d with
  |slice e=>simp only at h10;rw[<-eI h10];exact hu
  |_=>cases h10
 ·cases d with
  |struct fs=>simp only at h10;exact⟨fs,hu,y9 h10⟩
  |_=>cases h10
 ·cases d with
  |array n e=>simp only[a9]at h10;rw[<-eI h10.1,<-eI h10.2];exact hu
  |_=>cases h10
theorem NN(h:l.all (fun p=>tokB P p.1 p.2)=true):fJ P (yB l):=by
 intro t i hi;have:(t,i)∈l:=by
  clear h
  induction l with
  |nil=>cases hi
  |cons p r ih=>
   obtain⟨t0,i0⟩:=p;unfold yB at hi;split at hi
   ·rename_i hb;injection hi with hi;subst hi;rw[eI hb];exact aG ..
   ·exact List.mem_cons_of_mem _ (ih hi)
 exact tok_of (List.all_eq_true.1 h _ this)
theorem IU{fn:Func}{c:Code}(hf:P.funcs[g]? =some fn)(hb:fn.body=some c)(hn:(fn.name== "runtime.NumGoroutine")=false):Jl P g:=
 ⟨fun args w=>by simp only[beq_eq_false_iff_ne]at hn;simp[callFunc,hf,hb,hn]⟩
theorem di.mono{args:Array Value}{w:World}(h:di P g args w R)(k:∀e w2,R e w2->R' e w2):di P g args w R':=
 ⟨h.e,Calls.mono h.c k⟩
abbrev dm(B:Nat)(w w2:World):Prop:=RowKit.Below B w w2
theorem dm.refl{w:World}:dm B w w:=RowKit.Below.refl _ _
theorem Rel.cP{H:Hp}{nx:Nat}{iv:Iv}{w w':World}(r:Rel H nx iv B w O w'):dm B w w':=
 ⟨r.os,r.tape,r.output,r.size,fun k hk=>r.uh k (by have:=r.base;omega) (fun id b h hn he=>by have:=(r.low id b h hn).1;omega)⟩
theorem dm.tr{a b c:World}(h:dm B a b)(k:dm B b c):dm B a c:=RowKit.Below.trans h k
theorem Ext.cP{a b:World}(h:Ext a b)(hB:B<=a.heap.size):dm B a b:=RowKit.Below.mono h hB
end Go.Sx
namespace Go.RowKit
open Go Go.Sx
theorem Below.cP{B:Nat}{a b:World}(h:RowKit.Below a.heap.size a b)(hB:B<=a.heap.size):RowKit.Below B a b:=RowKit.Below.mono h hB
end Go.RowKit
namespace Go.Sx
open Go
variable{args:(Nat->dg)->Array Value}{Φ:(Nat->dg)->World->Value->World->Prop}{H:Hp}{n:Int}{iv:Iv}{B nx:Nat}{O:Nat->dg}{P:Program}
theorem cG{w w2:World}{a:Addr}(h:w2.heap[a.block]? =w.heap[a.block]?):w2.cell? a=w.cell? a:=by
 unfold World.cell?;rw[h]
theorem dm.cell{w w2:World}(h:dm B w w2){a:Addr}(ha:a.block<B):w2.cell? a=w.cell? a:=cG (h.block _ ha)
def EK(l:Env):Env->Prop
 |[]=>True
 |(u,v)::r=>fM l u=some v∧EK l r
theorem EK.get{l:Env}:∀{t:Env},EK l t->∀u v,fM t u=some v->fM l u=some v
 |[],_,u,v,h=>by cases h
 |(u0,v0)::r,h,u,v,hg=>by
  rw[eS]at hg;split at hg
  ·rename_i e;subst e;injection hg with hg;subst hg;exact h.1
  ·exact EK.get h.2 u v hg
def jX(n:Nat):Env->Prop
 |[]=>True
 |(_,v)::r=>v.sc n∧jX n r
theorem jX.get{n:Nat}:∀{t:Env},jX n t->∀u v,fM t u=some v->v.sc n
 |[],_,u,v,h=>by cases h
 |(u0,v0)::r,h,u,v,hg=>by
  rw[eS]at hg;split at hg
  ·injection hg with hg;subst hg;exact h.1
  ·exact jX.get h.2 u v hg
theorem Rel.aAe{w w':World}(r:Rel H nx iv B w O w'):Rel H nx [] B w O w':=
 Rel.mk' r.os r.tape r.output r.size r.base (by simp) r.keys (fun id b h=>r.fits h) (fun id b h=>r.scopd h) r.inj r.low r.uh (by simp)
theorem Sub.reset{l tl:Env}{w w':World}(r:Rel H nx iv B w O w')(h1:EK l tl)(h2:jX nx tl):Sub B l nx O w' ⟨tl,H,nx,[],w'⟩:=
 ⟨O,r.here.aAe,fun u v hv=>⟨h2.get u v hv,v,h1.get u v hv,rfl⟩⟩
def dw(w:World)(Φ:Value->World->Prop)(e:Ending)(w2:World):Prop:=∃v,e= .returned v∧Ext w w2∧Φ v w2
theorem cM{g:Nat}{w:World}{K:SV->Hp->Iv->World->Prop}
  (h:∀O w',Rel H nx iv B w O w'->di P g (args O) w' (dw w' (Φ O w'))) (hK:∀O w' v w2,Rel H nx iv B w O w'->Ext w' w2->dm B w w2->Φ O w' v w2->K (.o (.v v)) H ((w'.heap.size,w2.heap.size)::iv) w2):EJ P B g args H nx iv w K:=
 ⟨fun O w' r=>(h O w' r).mono fun e w2 ⟨v,h1,h2,h3⟩=>⟨v,h1,h2,hK O w' v w2 r h2 (r.cP.tr (h2.cP (by have:=r.base;have:=r.size;omega))) h3⟩⟩
theorem cE{g:Nat}{w w0:World}{K:SV->Hp->Iv->World->Prop}(hw:dm B w0 w)(Φ:(Nat->dg)->World->Value->World->Prop)
  (h:∀O w',Rel H nx iv B w O w'->di P g (args O) w' (dw w' (Φ O w'))) (hK:∀O w' v w2 iv',Rel H nx iv B w O w'->Ext w' w2->dm B w0 w2->iv'=(w'.heap.size,w2.heap.size)::iv->Φ O w' v w2->K (.o (.v v)) H iv' w2):EJ P B g args H nx iv w K:=
 cM h fun O w' v w2 r h1 h2 h3=>hK O w' v w2 _ r h1 (hw.tr h2) rfl h3
theorem mC{a:Nat×Nat}{iv':Iv}(h:iv'=a::iv):∀p,p∈iv->p∈iv':=h▸fun _ h=>List.mem_cons_of_mem _ h
theorem mN{a:Nat×Nat}{iv':Iv}(h:iv'=a::iv):a∈iv':=h▸aG
theorem wrap64(h1: -9223372036854775808<=n)(h2:n<=9223372036854775807):IntKind.wrap .i64 n=n:=by
 have e1:(2:Int)^64=18446744073709551616:=by decide
 have e2:(2:Int)^(64-1)=9223372036854775808:=by decide
 simp only[IntKind.wrap,IntKind.bits,IntKind.signed,e1,e2]
 by_cases h:n % 18446744073709551616≥9223372036854775808
 ·rw[if_pos (by simp[h])];omega
 ·rw[aL (by simp[h])];omega
theorem wo{r:Int}(h:(-9223372036854775808<=n∧n<=9223372036854775807)∧n=r:=by omega):IntKind.wrap .i64 n=r:=by rw[wrap64 h.1.1 h.1.2];exact h.2
theorem yD(h1:0<=n)(h2:n<18446744073709551616):IntKind.wrap .u64 n=n:=by
 have e1:(2:Int)^64=18446744073709551616:=by decide
 simp only[IntKind.wrap,IntKind.bits,IntKind.signed,e1,Bool.false_and,Bool.false_eq_true,if_false]
 omega
theorem yE(h1:0<=n)(h2:n<4294967296):IntKind.wrap .u32 n=n:=by
 have e1:(2:Int)^32=4294967296:=by decide
 simp only[IntKind.wrap,IntKind.bits,IntKind.signed,e1,Bool.false_and,Bool.false_eq_true,if_false]
 omega
end Go.Sx
namespace Go.Sx
open Go
variable{args:(Nat->dg)->Array Value}{Φ:(Nat->dg)->World->Value->World->Prop}{next:Act->World->Prop}{after:Array Edge}{es:Array MapEntry}{ag ag':Bool}{Q:Exit->Act->World->Prop}{tH:Hp}{m:Int}{ik ik' k:IntKind}{K:KT}{fs fs':List (Nat×Nat)}{cs cs2 ks xs ze:List Value}{B bt clock g id r sz t tag' ty:Nat}{O:Nat->dg}{i y:Operand}{guard:Option (Nat×Bool)}{row:Option Nat}{dst:Option Tmp}{pos:String}{key z:Value}{KS:Value->Prop}
section
variable{P:Program}{τ:nH}{B nx:Nat}{l:Env}{H:Hp}{iv:Iv}{w w' w2:World}{O:Nat->dg}
theorem Rel.EL{OJ:Iv}(r:Rel H nx iv B w O w')(OX:w'.heap.size<=w2.heap.size)(Qo:∀id b,dC H id=some b->(O id).nil=false->w2.heap[(O id).g]? =w'.heap[(O id).g]?)
  (Tu:∀lo hi,(lo,hi)∈OJ->hi<=w2.heap.size∧∀id b,dC H id=some b->(O id).nil=false->¬(lo<=(O id).g∧(O id).g<hi)):Rel H nx OJ B w2 O w2:=
 Rel.mk' rfl rfl rfl (aF _) (by have:=r.base;have:=r.size;omega) (fun lo hi h=>(Tu lo hi h).1) r.keys
  (fun id b h=>jr.gi (r.fits h) (fun _ _=>rfl) (r.scopd h) (fun hn _=>Qo id b h hn)) (fun id b h=>r.scopd h) r.inj
  (fun id b h hn=>by have:=r.low id b h hn;omega) (fun _ _ _=>rfl) (fun lo hi h=>(Tu lo hi h).2)
theorem ya(hτ:fJ P τ){Bc:Nat}(hBc:Bc<=B){x:Operand}{e by_ k m:Nat}{ze':List Value}{sz0 e' al al':Nat}
  {v:Value} {vy:SV} {news:List Value} {K:SV->Hp->Nat->Iv->World->Prop}
  (ht:τ t=some ⟨sz0,ag,bt,ze,4,ik,e,al,fs⟩) (PM:τ e=some ⟨sz,ag',by_,ze',tag',ik',e',al',fs'⟩) (Ot:0<sz) (hx:ev l x=some (.o (.v v))) (hy:ev l y=some vy)
  (SJ:∀O w',Rel H nx iv B w O w'->w'.ownsRow Bc e sz v m xs∧∀g,v.ownBlock=some g->∀id b,dC H id=some b->(O id).nil=false->(O id).g≠g)
  (RP:news.length=k*sz) (hn1:∀u∈news,u.oneCell'=true) (Ql:m+k<=maxLen) (hb:(m+k)*by_<=140737488355328)
  (src:∀O w',Rel H nx iv B w O w'->(∃c,vy.den O= .slice none 0 c∧k=0)∨∃ad c,vy.den O= .slice (some ad) k c∧∀(j:Nat) u,news[j]? =some u->w'.cell? (ad.add j)=some u)
  (OJ:Value->World->Iv)
  (Tu:∀O w' v' w2,Rel H nx iv B w O w'->w'.heap.size<=w2.heap.size->(∀g,v'.ownBlock=some g->g<w2.heap.size∧(v.ownBlock=some g∨g=w'.heap.size))->∀lo hi,(lo,hi)∈OJ v' w2->hi<=w2.heap.size∧∀id b,dC H id=some b->(O id).nil=false->¬(lo<=(O id).g∧(O id).g<hi))
  (hK:∀O w' v' w2,Rel H nx iv B w O w'->w2.ownsRow Bc e sz v' (m+k) (xs++news)->w'.grownBy w2 v.ownBlock->(v'.ownBlock=v.ownBlock∨v'.ownBlock=some w'.heap.size)->K (.o (.v v')) H nx (OJ v' w2) w2):
  yb P B ⟨dst,.call ⟨.builtin .append,⟨[x,y]⟩,⟨[t,t]⟩⟩,ty,pos,after,guard⟩ l H nx iv w K:=by
 refine⟨fun O w' ev' r Qp=>?_⟩;have hto:=hτ t _ ht;have hu:=hto.i4 rfl;simp only at hu;have Rg:=hτ e _ PM;obtain⟨inf,z,hi,OX,PQ,hz,RQ⟩:=Rg.info;have Ra:=Rg.IV;simp only at OX PQ RQ Ra;have hzs:z.cells.size=sz:=by rw[<-Ra,<-RQ];simp
 obtain⟨OG,OH⟩:=SJ O w' r;have key:∃v' w2,(Builtin.append_ #[t,t] ty #[v,vy.den O]).run P w'= .ok v' w2∧w2.ownsRow Bc e sz v' (m+k) (xs++news)∧w'.grownBy w2 v.ownBlock∧(v'.ownBlock=v.ownBlock∨v'.ownBlock=some w'.heap.size):=by
  rcases src O w' r with⟨c,hv,rfl⟩|⟨ad,c,hv,PA⟩
  ·have:news=[]:=List.eq_nil_of_length_eq_zero (by simpa using RP);subst this;rw[hv];exact⟨v,w',lM w' Bc t ty e inf sz hu hi v m xs OG c,by simpa using OG,⟨rfl,rfl,rfl,aF _,fun _ _ _=>rfl⟩,.inl rfl⟩
  ·rw[hv];obtain⟨v',w2,h1,h2,h3,_,h5⟩:=run_append_own_at (P:=P) w' Bc t ty e inf z sz by_ hu hi hz OX PQ hzs Ot v m xs OG ad k c news RP PA hn1 Ql hb (by have:=r.base;have:=r.size;omega);exact⟨v',w2,h1,h2,h3,h5⟩
 obtain⟨v',w2,h1,h2,h3,h4⟩:=key;have e1:=Qp x _ hx;have e2:=Qp y _ hy;have RF:∀g,v'.ownBlock=some g->g<w2.heap.size∧(v.ownBlock=some g∨g=w'.heap.size):=fun g hg=>by
  refine⟨?_,?_⟩
  ·rcases h2.2 with⟨rfl,_⟩|⟨g',cap,cur,rfl,_,hc,_⟩
   ·cases hg
   ·simp only[Value.ownBlock,Option.some.injEq]at hg;subst hg;exact(ah.1 hc).1
  ·rcases h4 with h4|h4
   ·exact .inl (h4▸hg)
   ·rw[h4]at hg;injection hg with hg;exact .inr hg.symm
 refine⟨v',w2,OJ v' w2,.inl ?_,r.EL h3.size (fun id b h hn=>h3.block _ (r.low id b h hn).2 (fun e=>OH _ e.symm id b h hn rfl)) (Tu O w' v' w2 r h3.size RF),hK O w' v' w2 r h2 h3 h4⟩;have e1:ev' x=v:=e1;generalize vy.den O=yy at*
 simp[execOp,resolve,invoke,builtin,e1,e2,h1]
theorem dm.grown{B0:Nat}(h:w'.grownBy w2 row)(hr:∀g,row=some g->B0<=g)(hB:B0<=w'.heap.size):dm B0 w' w2:=
 ⟨h.os,h.tape,h.output,h.size,fun k hk=>h.block k (by omega) (fun e=>by have:=hr k e.symm;omega)⟩
theorem ownsRow.low{e m:Nat}{v:Value}(h:w.ownsRow B e sz v m xs):∀g,v.ownBlock=some g->B<=g∧g<w.heap.size:=by
 intro g hg;rcases h.2 with⟨rfl,_⟩|⟨g',cap,cur,rfl,hb,hc,_⟩
 ·cases hg
 ·simp only[Value.ownBlock,Option.some.injEq]at hg;subst hg;exact⟨hb,(ah.1 hc).1⟩
theorem ownsRow.cH{e m:Nat}{v:Value}(h:w.ownsRow B e sz v m xs)(hk:∀g,v.ownBlock=some g->w2.heap[g]? =w.heap[g]?):w2.ownsRow B e sz v m xs:=by
 refine⟨h.1,?_⟩;rcases h.2 with h1|⟨g',cap,cur,rfl,hb,hc,h2⟩
 ·exact .inl h1
 ·exact .inr ⟨g',cap,cur,rfl,hb,by rw[hk g' rfl];exact hc,h2⟩
end
def At.Dy(f:Nat->Nat):At->At
 | .v x=>.v x
 | .p id off=>.p (f id) off
 | .s id off len cap=>.s (f id) off len cap
 | .w id len=>.w (f id) len
 | .fn g caps=>.fn g (caps.map f)
def SV.Dy(f:Nat->Nat):SV->SV
 | .o x=>.o (x.Dy f)
 | .a cs=>.a (cs.map (At.Dy f))
def jr.Dy(f:Nat->Nat):jr->jr
 | .box t cs=>.box t (cs.map (At.Dy f))
 | .arr t cs=>.arr t cs
 | .vec t size cs=>.vec t size cs
 | .dead=>.dead
theorem At.tF(f:Nat->Nat)(O:Nat->dg)(x:At):(x.Dy f).den O=x.den (fun i=>O (f i)):=by
 cases x<;>simp[At.Dy,At.den]
theorem SV.tF(f:Nat->Nat)(O:Nat->dg)(x:SV):(x.Dy f).den O=x.den (fun i=>O (f i)):=by
 cases x with
 |o x=>exact At.tF f O x
 |a cs=>
  have:At.den O ∘ At.Dy f=At.den (fun i=>O (f i)):=funext fun x=>At.tF f O x;simp[SV.Dy,SV.den,this]
def yc:List (Nat×Nat)->Nat->Nat
 |[],n=>n
 |(a,b)::r,n=>match Nat.beq a n with
  |true=>b
  |false=>yc r n
def B6(f:Nat->Nat)(l:Env):Env->Prop
 |[]=>True
 |(u,v)::r=>fM l u=some (v.Dy f)∧B6 f l r
def B7(f:Nat->Nat)(H:Hp):Hp->Prop
 |[]=>True
 |(u,b)::r=>dC H (f u)=some (b.Dy f)∧B7 f H r
def NO(n:Nat):Hp->Prop
 |[]=>True
 |(u,b)::r=>(u<n∧b.scopd n)∧NO n r
def Jm(f:Nat->Nat):Hp->Bool
 |[]=>true
 |(u,_)::r=>r.all (fun p=>Nat.beq p.1 u|| !Nat.beq (f p.1) (f u))&&Jm f r
theorem B6.get{f:Nat->Nat}{l:Env}:∀{t:Env},B6 f l t->∀u v,fM t u=some v->fM l u=some (v.Dy f)
 |[],_,u,v,h=>by cases h
 |(u0,v0)::r,h,u,v,hg=>by
  rw[eS]at hg;split at hg
  ·rename_i e;subst e;injection hg with hg;subst hg;exact h.1
  ·exact B6.get h.2 u v hg
theorem B7.get{f:Nat->Nat}{l:Hp}:∀{t:Hp},B7 f l t->∀u v,dC t u=some v->dC l (f u)=some (v.Dy f)
 |[],_,u,v,h=>by cases h
 |(u0,v0)::r,h,u,v,hg=>by
  rw[c9]at hg;split at hg
  ·rename_i e;subst e;injection hg with hg;subst hg;exact h.1
  ·exact B7.get h.2 u v hg
theorem NO.get{n:Nat}:∀{t:Hp},NO n t->∀u b,dC t u=some b->u<n∧b.scopd n
 |[],_,u,v,h=>by cases h
 |(u0,v0)::r,h,u,v,hg=>by
  rw[c9]at hg;split at hg
  ·rename_i e;subst e;injection hg with hg;subst hg;exact h.1
  ·exact NO.get h.2 u v hg
theorem EM:∀{t:Hp} {u:Nat} {b:jr},dC t u=some b->∃p∈t,p.1=u
 |[],u,b,h=>by cases h
 |(u0,v0)::r,u,b,h=>by
  rw[c9]at h;split at h
  ·rename_i e;exact⟨_,aG ..,e⟩
  ·obtain⟨p,h1,h2⟩:=EM h;exact⟨p,List.mem_cons_of_mem _ h1,h2⟩
theorem B8{f:Nat->Nat}:∀{t:Hp},Jm f t=true->∀u v b c,dC t u=some b->dC t v=some c->f u=f v->u=v
 |[],_,u,v,b,c,h,_,_=>by cases h
 |(u0,v0)::r,hi,u,v,b,c,hu,hv,he=>by
  simp only[Jm,a9]at hi;have key:∀{w:Nat} {d:jr},dC r w=some d->f w=f u0->w=u0:=fun{w d} hw hf=>by
   obtain⟨p,hp,rfl⟩:=EM hw;have:=List.all_eq_true.1 hi.1 p hp;simp only[Bool.or_eq_true,Bool.not_eq_true']at this;rcases this with h|h
   ·exact eI h
   ·rw[hf,Nat.beq_refl]at h;cases h
  rw[c9]at hu hv;split at hu<;>split at hv
  ·rename_i x y;rw[<-x,<-y]
  ·rename_i x y;subst x;exact(key hv he.symm).symm
  ·rename_i x y;subst y;exact key hu he
  ·exact B8 hi.2 u v b c hu hv he
theorem Sub.gen{l tl:Env}{nx OL:Nat}{H:Hp}{iv iv':Iv}{w w':World}(m:List (Nat×Nat))(r:Rel H nx iv B w O w')
  (hH:B7 (yc m) H tH) (hE:B6 (yc m) l tl) (hsH:NO OL tH) (hsE:jX OL tl) (hi:Jm (yc m) tH=true) (Tu:∀lo hi,(lo,hi)∈iv'->(lo,hi)∈iv):Sub B l nx O w' ⟨tl,tH,OL,iv',w'⟩:=by
 refine⟨fun i=>O (yc m i),(?_:Rel tH OL iv' B w' (fun i=>O (yc m i)) w'),fun u v hv=>⟨hsE.get u v hv,_,hE.get u v hv,SV.tF _ _ _⟩⟩;refine Rel.mk' rfl rfl rfl (aF _) (by have:=r.base;have:=r.size;omega) (fun lo hi h=>by have:=r.qd lo hi (Tu lo hi h);have:=r.size;omega) (fun id b h=>(hsH.get id b h).1) ?_ (fun id b h=>(hsH.get id b h).2) ?_ ?_ (fun _ _ _=>rfl) ?_
 ·intro id b h;have h1:=r.fits (hH.get id b h);have hr:At.den O ∘ At.Dy (yc m)=At.den (fun i=>O (yc m i)):=funext fun x=>At.tF _ O x
  cases b with
  |box t cs=>simpa [jr.Dy,jr.fits,hr]using h1
  |arr t cs=>exact h1
  |vec t size cs=>exact h1
  |dead=>trivial
 ·intro id id' b b' h h' hd Vr hn hn' he;refine B8 hi id id' b b' h h' (r.inj _ _ _ _ (hH.get id b h) (hH.get id' b' h') ?_ ?_ hn hn' he)
  ·cases b<;>first|(exact absurd rfl hd)|simp[jr.Dy]
  ·cases b'<;>first|(exact absurd rfl Vr)|simp[jr.Dy]
 ·intro id b h hn;exact r.low _ _ (hH.get id b h) hn
 ·intro lo Se h id b hb hn;exact r.kP lo Se (Tu lo Se h) _ _ (hH.get id b hb) hn
theorem Sub.gn{l tl:Env}{nx OL:Nat}{H:Hp}{iv iv':Iv}{w w':World}(m:List (Nat×Nat))(r:Rel H nx iv B w O w')
  (hH:B7 (yc m) H tH:=by repeat' first|exact trivial|refine⟨rfl,?_⟩) (hE:B6 (yc m) l tl:=by repeat' first|exact trivial|refine⟨rfl,?_⟩) (hsH:NO OL tH:=by simp[NO,jr.scopd,At.sc]) (hsE:jX OL tl:=by simp[jX,SV.sc,At.sc,fT]) (hi:Jm (yc m) tH=true:=by rfl) (Tu:∀lo hi,(lo,hi)∈iv'->(lo,hi)∈iv:=by first|exact fun _ _ h=>h|simp):Sub B l nx O w' ⟨tl,tH,OL,iv',w'⟩:=Sub.gen m r hH hE hsH hsE hi Tu
def uo(H:Hp):Hp->Prop
 |[]=>True
 |(u,b)::r=>dC H u=some b∧uo H r
def Dz(id:Nat):Hp->Bool
 |[]=>true
 |(_,.dead)::_=>false
 |(u,_)::r=> !Nat.beq u id&&Dz id r
theorem uo.get{H:Hp}:∀{t:Hp},uo H t->∀{u b},dC t u=some b->dC H u=some b
 |[],_,u,b,h=>by cases h
 |(v,c)::r,hs,u,b,h=>by
  unfold dC at h;split at h
  ·rename_i e;injection h with h;subst h;have:=bQ e;subst this;exact hs.1
  ·exact uo.get hs.2 h
theorem Dz.get{id:Nat}:∀{t:Hp},Dz id t=true->∀{u b},dC t u=some b->u≠id∧b≠ .dead
 |[],_,u,b,h=>by cases h
 |(v,c)::r,hs,u,b,h=>by
  unfold dC at h;split at h
  ·rename_i e;injection h with h;subst h;have:=bQ e;subst this;have hv:v.beq id=false->v≠id:=fun h e=>by rw[e,Nat.beq_refl]at h;cases h
   cases c<;>simp_all [Dz]
  ·refine Dz.get (t:=r) ?_ h
   cases c<;>simp_all [Dz]
section
variable{P:Program}{B nx:Nat}{H H':Hp}{iv:Iv}{w w' w2:World}{O:Nat->dg}
theorem Rel.free{b:jr}(r:Rel H nx iv B w O w')(Om:dC H id=some b)(hd:b≠ .dead)(hn:(O id).nil=false)(hs:uo H H')(ho:Dz id H'=true):Rel H' nx (((O id).g,(O id).g+1)::iv) B w' O w':=by
 have h1:Rel H' nx iv B w' O w':=Rel.mk' rfl rfl rfl (aF _) (by have:=r.base;have:=r.size;omega) (fun lo hi hm=>by have:=r.qd lo hi hm;have:=r.size;omega) (fun j c h=>r.keys j c (hs.get h))
  (fun j c h=>r.fits (hs.get h)) (fun j c h=>r.scopd (hs.get h)) (fun j k c e h h'=>r.inj j k c e (hs.get h) (hs.get h')) (fun j c h=>r.low j c (hs.get h)) (fun _ _ _=>rfl) (fun lo hi hm j c h=>r.kP lo hi hm j c (hs.get h))
 refine h1.more (by have:=(r.low id b Om hn).2;omega) fun j c hj hnj he=>?_;obtain⟨h2,h3⟩:=Dz.get ho hj;exact h2 (r.inj j id c b (hs.get hj) Om h3 hd hnj hn (by omega))
theorem gZ{K:SV->Hp->Iv->World->Prop}(id:Nat){b:jr}(Om:dC H id=some b)(hd:b≠ .dead)(hs:uo H H')(ho:Dz id H'=true)
  (hn:∀O w',Rel H nx iv B w O w'->(O id).nil=false)
  (hc:∀O w',Rel H nx iv B w O w'->di P g (args O) w' (dw w' (Φ O w')))
  (h:∀O w' v w2,Rel H nx iv B w O w'->Ext w' w2->dm B w w2->Φ O w' v w2->K (.o (.v v)) H' (((O id).g,(O id).g+1)::(w'.heap.size,w2.heap.size)::iv) w2):EN P B g args H nx iv w K:=
 ⟨fun O w' r=>⟨(hc O w' r).e,Calls.mono (hc O w' r).c fun e w2 he=>by
  obtain⟨v,h1,h2,h3⟩:=he;have r2:Rel H nx ((w'.heap.size,w2.heap.size)::iv) B w2 O w2:=(r.ext h2).here.more (aF _) (fun j c hj hn=>by have:=(r.low j c hj hn).2;omega)
  exact⟨v,H',_,h1,r2.free Om hd (hn O w' r) hs ho,h O w' v w2 r h2 (r.cP.tr (h2.cP (by have:=r.base;have:=r.size;omega))) h3⟩⟩⟩
end
inductive Tr where
 |nil
 |one (i:Nat) (t:Tr)
 |two (i:Nat) (t:Tr) (j:Nat) (u:Tr)
def Tr.depth:Tr->Nat
 | .nil=>0
 | .one _ t=>t.depth+1
 | .two _ t _ u=>max t.depth u.depth+1
def wO(ops:Array Oper):Tr->Array Bool->Bool
 | .nil,la=>(Region.ready .any ops la).isEmpty
 | .one i t,la=>match Region.ready .any ops la with
  |[x]=>Nat.beq x i&&wO ops t (la.setIfInBounds i true)
  |_=>false
 | .two i t j u,la=>match Region.ready .any ops la with
  |[x,y]=>Nat.beq x i&&(Nat.beq y j&&(wO ops t (la.setIfInBounds i true)&&wO ops u (la.setIfInBounds j true)))
  |_=>false
def Jn(P:Program)(τ:nH)(B:Nat)(all:List Oper):Tr->Env->Hp->Nat->Iv->World->KT->Prop
 | .nil,l,H,nx,iv,w,K=>K l H nx iv w
 | .one i t,l,H,nx,iv,w,K=>nm all i (fun o=>fX false P τ B all o l H nx iv w (fun l' H' OL iv' w'=>Jn P τ B all t l' H' OL iv' w' K))
 | .two i t j u,l,H,nx,iv,w,K=>nm all i (fun o=>fX false P τ B all o l H nx iv w (fun l' H' OL iv' w'=>Jn P τ B all t l' H' OL iv' w' K))∧
   nm all j (fun o=>fX false P τ B all o l H nx iv w (fun l' H' OL iv' w'=>Jn P τ B all u l' H' OL iv' w' K))
section
variable{P:Program}{τ:nH}{ops:Array Oper}{B n nx:Nat}{l:Env}{H:Hp}{iv:Iv}{w w':World}{O:Nat->dg}{a:Act}
theorem Cn(hτ:fJ P τ)(OI:∀(j:Nat) o,ops[j]? =some o->∀d,o.dst=some d->d<n){i:Nat}
  (h:nm ops.toList i (fun o=>fX false P τ B ops.toList o l H nx iv w K)) (sat:Sat n l H nx iv B w O a w')
  (hn:∀l' H' OL iv' w2 ρ' a' w3,K l' H' OL iv' w2->Sat n l' H' OL iv' B w2 ρ' a' w3->next a' w3):wpOp P ops Q i next a w':=by
 obtain⟨o,ho,h1⟩:=gA h;rw[bA]at ho;have hd:=OI i o ho;unfold fX at h1;refine mL ho ?_;rcases ix sat h1 with⟨hw,l1,h2,sat1⟩|⟨hw,l1,h2,sat1⟩
 ·refine .inl ⟨hw,lL hτ h2 sat1 fun v H' OL iv' w2 ρ' w3 h3 sat2 hv=>?_⟩;obtain⟨l2,h4,sat3⟩:=ei sat2 h3 hd hv;exact hn _ _ _ _ _ _ _ _ h4 sat3
 ·obtain⟨l2,h4,sat3⟩:=ei sat1 h2 hd trivial;exact .inr ⟨hw,hn _ _ _ _ _ _ _ _ h4 sat3⟩
theorem tG(hτ:fJ P τ)(OI:∀(j:Nat) o,ops[j]? =some o->∀d,o.dst=some d->d<n){K:KT}{Q:Exit->Act->World->Prop}
  (hQ:∀l' H' OL iv' w2 ρ' a' w3,K l' H' OL iv' w2->Sat n l' H' OL iv' B w2 ρ' a' w3->Q .normal a' w3):
  ∀(t:Tr) (fuel:Nat) (la:Array Bool) (l:Env) (H:Hp) (nx:Nat) (iv:Iv) (w:World) (O:Nat->dg) (a:Act) (w':World),t.depth<=fuel->wO ops t la=true->Jn P τ B ops.toList t l H nx iv w K->Sat n l H nx iv B w O a w'->wpAny P .any ops Q fuel la a w'
 | .nil,fuel,la,l,H,nx,iv,w,O,a,w',_,hc,h,s=>by
  simp only[wO,List.isEmpty_iff]at hc;have hq:=hQ _ _ _ _ _ _ _ _ h s
  cases fuel with
  |zero=>exact⟨hc,hq⟩
  |succ fuel=>exact⟨fun _=>hq,fun i hi=>by rw[hc]at hi;cases hi⟩
 | .one i t,fuel,la,l,H,nx,iv,w,O,a,w',hf,hc,h,s=>by
  simp only[Tr.depth]at hf;obtain⟨fuel,rfl⟩:∃q,fuel=q+1:=⟨fuel-1,by omega⟩
  simp only[wO]at hc;split at hc
  ·rename_i x hr;simp only[a9]at hc;have hx:=bQ hc.1;subst hx;refine⟨fun h0=>(by rw[hr]at h0;cases h0),fun j hj=>?_⟩;rw[hr,bB]at hj;subst hj;exact Cn hτ OI h s fun _ _ _ _ _ _ _ _ hk hs=>tG hτ OI hQ t fuel _ _ _ _ _ _ _ _ _ (by omega) hc.2 hk hs
  ·cases hc
 | .two i t k u,fuel,la,l,H,nx,iv,w,O,a,w',hf,hc,h,s=>by
  simp only[Tr.depth]at hf;obtain⟨fuel,rfl⟩:∃q,fuel=q+1:=⟨fuel-1,by omega⟩
  simp only[wO]at hc;split at hc
  ·rename_i x y hr;simp only[a9]at hc;obtain⟨c1,c2,c3,c4⟩:=hc;have hx:=bQ c1;have hy:=bQ c2;subst hx;subst hy;obtain⟨h1,h2⟩:=h;refine⟨fun h0=>(by rw[hr]at h0;cases h0),fun j hj=>?_⟩;rw[hr,List.mem_cons,bB]at hj;rcases hj with rfl|rfl
   ·exact Cn hτ OI h1 s fun _ _ _ _ _ _ _ _ hk hs=>tG hτ OI hQ t fuel _ _ _ _ _ _ _ _ _ (by omega) c3 hk hs
   ·exact Cn hτ OI h2 s fun _ _ _ _ _ _ _ _ hk hs=>tG hτ OI hQ u fuel _ _ _ _ _ _ _ _ _ (by omega) c4 hk hs
  ·cases hc
theorem iY(hτ:fJ P τ)(hm:P.follows .mixedOrders=true)(t:Tr)(hc:(Nat.ble t.depth ops.size&&wO ops t (Array.replicate ops.size false))=true)
  (h:Jn P τ B ops.toList t l H nx iv w K):uj P B ops l H nx iv w K:=by
 simp only[a9]at hc;refine⟨fun n O a w' OI sat Q hQ id=>?_⟩;refine wp_region_any hm (tG hτ (fun j o ho d hd=>?_) hQ t _ _ _ _ _ _ _ O _ _ (Nat.le_of_ble_eq_true hc.1) hc.2 h ⟨sat.rel.drew,sat.size,sat.defers,sat.env,sat.sc⟩);have:=List.all_eq_true.1 OI o (aC (by rw[bA];exact ho));rw[hd]at this;have h5:d+1<=n:=by simpa [Nat.blt]using this
 exact h5
end
section
variable{P:Program}{τ:nH}{B n nx:Nat}{l:Env}{H:Hp}{iv:Iv}{w w':World}{O:Nat->dg}{a:Act}
theorem qg{x:Operand}{K:SV->Hp->Nat->Iv->World->Prop}{s:ByteArray}{b:UInt8}
  (hu:P.underlying t=some .string) (hx:ev l x=some (.o (.v (.string s)))) (hi:ev l i=some (.o (.v (.int k m)))) (hm:0<=m) (hb:s[m.toNat]? =some b)
  (hK:∀O w',Rel H nx iv B w O w'->K (.o (.v (.int .u8 b.toNat))) H nx iv w'):yb P B ⟨dst,.index t x i,ty,pos,after,guard⟩ l H nx iv w K:=by
 refine⟨fun O w' ev' r Qp=>⟨.int .u8 b.toNat,w',iv,.inl ?_,r.here,hK O w' r⟩⟩;have e1:ev' x= .string s:=Qp x _ hx;have e2:ev' i= .int k m:=Qp i _ hi;simp[execOp,e1,e2,Instr.index,asIntOf,run_underlying hu,hm,hb]
theorem nM(w:World)(t e:TypeId)(a:Option Addr)(n c n' c':Nat)(h:P.underlying t=some (.slice e)):
  (binOp .eql t (.slice a n c) (.slice none n' c')).run P w= .ok (.bool a.isNone) w:=by
 have:∀d,(Op.equalIn (d+1) t (.slice a n c) (.slice none n' c')).run P w= .ok a.isNone w:=fun d=>by cases a<;>simp[Op.equalIn,run_underlying h]
 simp only[binOp]
 simp[Op.equal,Op.maxDepth,this 9999]
theorem jd(w:World)(g:Nat)(cs:Array Value):w.grownBy (w.setRow g cs) (some g):=
 ⟨rfl,rfl,rfl,by simp,fun k _ OH=>setRow_other _ _ _ _ fun e=>OH (by rw[e])⟩
theorem Rel.yd{w2:World}(r:Rel H nx iv B w O w')(OH:∀id b,dC H id=some b->(O id).nil=false->(O id).g≠g)(h:w'.grownBy w2 (some g)):Rel H nx iv B w2 O w2:=
 r.EL h.size (fun id b hb hn=>h.block _ (r.low id b hb hn).2 fun e=>OH id b hb hn (Option.some.inj e)) fun lo hi hm=>⟨by have:=r.qd lo hi hm;have:=r.size;have:=h.size;omega,fun id b hb hn=>r.kP lo hi hm id b hb hn⟩
theorem Au(z:Value)(n:Nat):(Builtin.zeroCells #[z] n).toList=List.replicate n z:=by
 apply bM;intro i;simp only[Builtin.zeroCells,Array.toList_map,aM,Array.toList_range,List.getElem?_replicate]
 by_cases h:i<n
 ·simp[h,Nat.mod_one]
 ·simp[h]
theorem IW(hτ:fJ P τ){e by_ k off c tg:Nat}{x:Operand}{sz0 e' al al':Nat}
  {K:SV->Hp->Nat->Iv->World->Prop}
  (ht:τ t=some ⟨sz0,ag,bt,ze,4,ik,e,al,fs⟩) (PM:τ e=some ⟨1,ag',by_,[z],tag',ik',e',al',fs'⟩) (hx:ev l x=some (.o (.v (.slice (some ⟨g,off,none⟩) k c)))) (hk:k≠0)
  (hg:∀O w',Rel H nx iv B w O w'->w'.heap[g]? =some (.cells cs.toArray tg (0,0))∧∀id b,dC H id=some b->(O id).nil=false->(O id).g≠g) (Pn:off+k<=cs.length)
  (hK:∀O w' w2,Rel H nx iv B w O w'->w2.heap[g]? =some (.cells (cs.take off++List.replicate k z++cs.drop (off+k)).toArray tg (0,0))->w'.grownBy w2 (some g)->w2.heap.size=w'.heap.size->K (.o (.v (.tuple #[]))) H nx iv w2):
  yb P B ⟨dst,.call ⟨.builtin .clear,⟨[x]⟩,⟨[t]⟩⟩,ty,pos,after,guard⟩ l H nx iv w K:=by
 refine⟨fun O w' ev' r Qp=>?_⟩;have hu:=(hτ t _ ht).i4 rfl;simp only at hu;have Rg:=hτ e _ PM;obtain⟨inf,zv,hi,OX,PQ,hz,RQ⟩:=Rg.info;have hzo:=Rg.aAf z (by simp);simp only at OX RQ;have VG:zv.cells= #[z]:=by apply Array.ext';simpa using RQ
 obtain⟨hc,OH⟩:=hg O w' r;have QD:=run_storeCells_at (P:=P) g off tg (List.replicate k z) 0 cs.toArray w' hc (by simpa using Pn) (fun v hv=>by rw[List.mem_replicate]at hv;rw[hv.2];exact hzo);have Ra:=Au z k;have e1:ev' x= .slice (some ⟨g,off,none⟩) k c:=Qp x _ hx;simp only[bw,bF]at QD;refine⟨.tuple #[],_,iv,.inl ?_,r.yd OH (jd w' g _),hK O w' _ r (setRow_heap w' g cs.toArray _ tg _ hc) (jd _ _ _) (by simp)⟩;simp[execOp,resolve,invoke,builtin,e1,Builtin.clear_,run_underlying hu,zeroValue,typeInfo,hi,hz,VG,Ra,QD,hk]
theorem Jo(hτ:fJ P τ){e by_ k off c tg:Nat}{x:Operand}{sz0 e' al al':Nat}
  {ds:List Value} {vy:SV} {K:SV->Hp->Nat->Iv->World->Prop}
  (ht:τ t=some ⟨sz0,ag,bt,ze,4,ik,e,al,fs⟩) (PM:τ e=some ⟨1,ag',by_,[z],tag',ik',e',al',fs'⟩) (hx:ev l x=some (.o (.v (.slice (some ⟨g,off,none⟩) k c)))) (hy:ev l y=some vy)
  (hg:∀O w',Rel H nx iv B w O w'->w'.heap[g]? =some (.cells cs.toArray tg (0,0))∧∀id b,dC H id=some b->(O id).nil=false->(O id).g≠g)
  (src:∀O w',Rel H nx iv B w O w'->∃a m,vy.den O= .slice a ds.length m∧∀(j:Nat) u,ds[j]? =some u->∃ad,a=some ad∧w'.cell? (ad.add j)=some u)
  (hds:ds.length<=k) (Pn:off+ds.length<=cs.length) (h1:∀u∈ds,u.oneCell'=true)
  (hK:∀O w' w2,Rel H nx iv B w O w'->w2.heap[g]? =some (.cells (cs.take off++ds++cs.drop (off+ds.length)).toArray tg (0,0))->w'.grownBy w2 (some g)->w2.heap.size=w'.heap.size->K (.o (.v (goInt ds.length))) H nx iv w2):
  yb P B ⟨dst,.call ⟨.builtin .copy,⟨[x,y]⟩,⟨[t,t]⟩⟩,ty,pos,after,guard⟩ l H nx iv w K:=by
 refine⟨fun O w' ev' r Qp=>?_⟩;have hu:=(hτ t _ ht).i4 rfl;simp only at hu;have Rg:=hτ e _ PM;obtain⟨inf,zv,hi,OX,PQ,hz,RQ⟩:=Rg.info;simp only at OX;obtain⟨hc,OH⟩:=hg O w' r;obtain⟨ay,m,hya,PA⟩:=src O w' r;have e1:ev' x= .slice (some ⟨g,off,none⟩) k c:=Qp x _ hx;have e2:ev' y= .slice ay ds.length m:=by rw[<-hya];exact Qp y _ hy
 refine⟨goInt ds.length,w'.setRow g (cs.take off++ds++cs.drop (off+ds.length)).toArray,iv,.inl ?_,r.yd OH (jd w' g _),hK O w' _ r (setRow_heap w' g cs.toArray _ tg _ hc) (jd _ _ _) (by simp)⟩;have hmin:Nat.min ds.length k=ds.length:=Nat.min_eq_left hds;have ON:(Builtin.copy_ #[t,t] ty #[.slice (some ⟨g,off,none⟩) k c,.slice ay ds.length m]).run P w'= .ok (goInt ds.length) (w'.setRow g (cs.take off++ds++cs.drop (off+ds.length)).toArray):=by
  cases ay with
  |some ad=>
   have:=run_copy_row (P:=P) w' t t ty e g off k c ad ds.length m cs.toArray tg ds hu (by simp[hi,OX]) hc (by rw[hmin]) (fun j v hv=>by
    obtain⟨ad',h2,h3⟩:=PA j v hv;injection h2 with h2
    rw[h2];exact h3) (by simpa using Pn) h1
   simpa using this
  |none=>
   have hd:ds=[]:=by
    cases ds with
    |nil=>rfl
    |cons u r=>obtain⟨ad',h2,_⟩:=PA 0 u rfl;cases h2
   subst hd;have RC:=setRow_self w' g cs.toArray tg (0,0) hc;simp[Builtin.copy_,run_underlying hu,Builtin.lenOf,Builtin.firstCells,sizeOf,typeInfo,hi,storeCells,RC]
 simp[execOp,resolve,invoke,builtin,e1,e2,ON]
end
section
variable{P:Program}{τ:nH}{B nx:Nat}{l:Env}{H:Hp}{iv:Iv}{w w':World}{O:Nat->dg}
end
section
variable{P:Program}{τ:nH}{B nx:Nat}{l:Env}{H:Hp}{iv:Iv}{w w':World}{O:Nat->dg}
end
theorem pT:∀(nv:List Value) (w:World) (b off:Nat) (cur:Array Value) (e:TypeId),w.heap[b]? =some (.cells cur e (0,0))->off+nv.length<=cur.size->
  (w.setCells b off nv).heap[b]? =some (.cells (cur.toList.take off++nv++cur.toList.drop (off+nv.length)).toArray e (0,0))
 |[],w,b,off,cur,e,h,_=>by simpa [World.setCells]using h
 |v::r,w,b,off,cur,e,h,hl=>by
  simp only[World.setCells]
  have RU:off+(r.length+1)<=cur.size:=by simpa using hl
  have h1:(w.setCell ⟨b,off,none⟩ v).heap[b]? =some (.cells (cur.setIfInBounds off v) e (0,0)):=by
   simp[World.setCell,Array.getElem?_modify,h]
  rw[pT r _ b (off+1) _ e h1 (by simp;omega)];congr 3;have PV:cur.toList.length=cur.size:=by simp
  apply bM;intro i;have e1:(cur.setIfInBounds off v).toList=cur.toList.set off v:=by simp
  rw[e1];rcases bq i off with hi|hi|hi
  ·rw[bY,bY,aK (by simp;omega),aK (by simp;omega),bU (by omega),bU hi,aY (by omega)]
  ·subst hi;rw[bY,bY,aK (by simp;omega),aN (by simp;omega),bU (by omega),aV (by simp;omega)];have:(List.take i cur.toList).length=i:=by rw[aW];omega
   rw[this,bH];rfl
  ·have l1:(List.take (off+1) (cur.toList.set off v)).length=off+1:=by rw[aW,bE];omega
   have l2:(List.take off cur.toList).length=off:=by rw[aW];omega
   have hd:List.drop (off+1+r.length) (cur.toList.set off v)=List.drop (off+(v::r).length) cur.toList:=by
    rw[List.drop_set_of_lt (by omega),List.length_cons];congr 1;omega
   obtain⟨k,rfl⟩:∃k,i=off+1+k:=⟨i-off-1,by omega⟩
   rw[bY,bY,hd];generalize List.drop (off+(v::r).length) cur.toList=tl;have A:(List.take (off+1) (cur.toList.set off v)++(r++tl))[off+1+k]? =(r++tl)[k]? :=by
    rw[aN (by omega),l1];congr 1;omega
   have B:(List.take off cur.toList++((v::r)++tl))[off+1+k]? =(r++tl)[k]? :=by
    rw[aN (by omega),l2,show off+1+k-off=k+1 by omega];rfl
   rw[A,B]
theorem pU:∀(nv:List Value) (w:World) (b off:Nat) {k:Nat},k≠b->(w.setCells b off nv).heap[k]? =w.heap[k]?
 |[],_,_,_,_,_=>rfl
 |v::r,w,b,off,k,hk=>by
  simp only[World.setCells]
  rw[pU r _ b (off+1) hk];simp[World.setCell,Array.getElem?_modify,Ne.symm hk]
theorem tI:∀(vs:List Value) (w0:World) (b o:Nat),(w0.setCells b o vs).os=w0.os∧(w0.setCells b o vs).tape=w0.tape∧(w0.setCells b o vs).output=w0.output∧(w0.setCells b o vs).heap.size=w0.heap.size
 |[],_,_,_=>⟨rfl,rfl,rfl,rfl⟩
 |v::r,w0,b,o=>by
  simp only[World.setCells]
  obtain⟨h1,h2,h3,h4⟩:=tI r (w0.setCell ⟨b,o,none⟩ v) b (o+1);exact⟨h1,h2,h3,by rw[h4];simp⟩
theorem pV{w:World}{Bc e n:Nat}{v:Value}{nv:List Value}{a:Option Addr}{c j:Nat}(h:w.ownsRow Bc e sz v n xs)(hv:v= .slice a n c)(hj:j<n)(TM:nv.length=sz)(hs:0<sz):
  ∃g,a=some ⟨g,0,none⟩∧(∀k,k<sz->(w.cell? (Addr.add ⟨g,j*sz,none⟩ k)).isSome=true∧w.frozen? (Addr.add ⟨g,j*sz,none⟩ k)=false)∧
   (setCells w ⟨g,j*sz,none⟩ nv).ownsRow Bc e sz v n (xs.take (j*sz)++nv++xs.drop (j*sz+sz))∧w.grownBy (setCells w ⟨g,j*sz,none⟩ nv) (some g)∧(setCells w ⟨g,j*sz,none⟩ nv).heap.size=w.heap.size:=by
 rcases h.2 with⟨_,h0⟩|⟨g,cap,cur,RR,hb,hg,TW,Rb,Ov,UC⟩
 ·omega
 rw[hv]at RR;injection RR with h1 h2 h3;subst h1 h3;have hjs:j*sz+sz<=n*sz:=by
  have:=Nat.mul_le_mul_right sz (show j+1<=n from hj);rw[Nat.add_mul,Nat.one_mul]at this;exact this
 have hns:n*sz<=c*sz:=Nat.mul_le_mul_right sz TW;obtain⟨f1,f2,f3,f4⟩:=tI nv w g (j*sz);have SU:=pT nv w g (j*sz) cur e hg (by omega);refine⟨g,rfl,fun k hk=>?_,?_,?_,?_⟩
 ·rw[dW];refine⟨?_,?_⟩
  ·rw[cell_of (g:=g) (cs:=cur.toList) (by simpa using hg),aB (by simp;omega)];rfl
  ·simp[World.frozen?,hg]
 ·rw[kQ];refine⟨?_,.inr ⟨g,c,_,hv,hb,SU,TW,Rb,?_,?_⟩⟩
  ·simp only[List.length_append,aW,List.length_drop,TM,h.1];omega
  ·simp only[List.size_toArray,List.length_append,aW,List.length_drop,TM,Array.length_toList];omega
  ·subst UC;have PV:cur.toList.length=cur.size:=by simp
   have ha:List.drop (j*sz+sz) (List.take (n*sz) cur.toList)=(List.drop (j*sz+sz) cur.toList).take (n*sz-(j*sz+sz)):=by rw[List.drop_take]
   rw[ha,List.take_take,Nat.min_eq_left (by omega)];show List.take (n*sz) (_++nv++_)=_;rw[TM,List.take_append,List.take_of_length_le (by simp;omega)];congr 2;simp only[List.length_append,aW,TM]
   omega
 ·rw[kQ];exact⟨f1,f2,f3,by rw[f4];exact aF _,fun k hk OH=>pU nv w g _ (fun e=>OH (by rw[e]))⟩
 ·rw[kQ];exact f4
structure Jr(P:Program)(kt:TypeId)(KS:Value->Prop):Prop where
 desc:∃fs,P.underlying kt=some (.struct fs)
 check:∀(w:World) (em:Bool) (v:Value),KS v->(Instr.checkKey em 10000 kt v).run P w= .ok () w
 eq:∀(w:World) (a b:Value),KS a->KS b->∃c,(Op.equal kt a b).run P w= .ok c w∧(c=true↔a=b)
def EO(w:World)(g:Nat)(ks:List Value):Prop:=∃es clock,w.heap[g]? =some (.map es clock)∧es.toList.map (·.key)=ks∧∀e∈es.toList,e.val= .bool true
section
variable{P:Program}{τ:nH}{B n nx:Nat}{l:Env}{H:Hp}{iv:Iv}{w w' w2:World}{O:Nat->dg}{a:Act}
theorem EO.cH(h:EO w g ks)(hk:w2.heap[g]? =w.heap[g]?):EO w2 g ks:=by
 obtain⟨es,c,h1,h2⟩:=h;exact⟨es,c,by rw[hk];exact h1,h2⟩
theorem sD(hb:w.heap[r]? =some (.map es clock)):(getObj r).run P w= .ok (.map es clock) w:=by simp[getObj,Sem.run,hb]
theorem GU(o:Obj)(hb:w.heap[r]? =some (.map es clock)):(setObj r o).run P w= .ok () {w with heap:=w.heap.setIfInBounds r o}:=by simp[setObj,Sem.run,hb]
theorem ou{kt:TypeId}{KS:Value->Prop}(K:Jr P kt KS){x:Value}(hx:KS x)(w:World):∀(es:List MapEntry) (i:Nat),(∀e∈es,KS e.key)->
  ((Instr.findAsking kt x es i).run P w= .ok none w∧∀e∈es,e.key≠x)∨∃j e,(Instr.findAsking kt x es i).run P w= .ok (some (j,e.val)) w∧e∈es∧e.key=x
 |[],i,_=>.inl ⟨rfl,fun e he=>by cases he⟩
 |e::es,i,h=>by
  obtain⟨c,hc,hiff⟩:=K.eq w x e.key hx (h e aG)
  cases c with
  |true=>exact .inr ⟨i,e,by simp[Instr.findAsking,hc],aG,(hiff.1 rfl).symm⟩
  |false=>
   have OH:e.key≠x:=fun he=>by have:=hiff.2 he.symm;cases this
   rcases ou K hx w es (i+1) (fun e he=>h e (List.mem_cons_of_mem _ he))with⟨h1,h2⟩|⟨j,e',h1,h2,h3⟩
   ·refine .inl ⟨by simp[Instr.findAsking,hc,h1],fun e' he=>?_⟩;rcases List.mem_cons.1 he with rfl|he
    ·exact OH
    ·exact h2 e' he
   ·exact .inr ⟨j,e',by simp[Instr.findAsking,hc,h1],List.mem_cons_of_mem _ h2,h3⟩
theorem tJ{kt:TypeId}(K:Jr P kt KS){x:Value}(hx:KS x)(w:World)(es:List MapEntry)(h:∀e∈es,KS e.key):
  ((Instr.findKey kt x es).run P w= .ok none w∧∀e∈es,e.key≠x)∨∃j e,(Instr.findKey kt x es).run P w= .ok (some (j,e.val)) w∧e∈es∧e.key=x:=by
 obtain⟨fs,PH⟩:=K.desc
 cases es with
 |nil=>exact .inl ⟨by simp[Instr.findKey,run_underlying PH,Instr.findNow],fun e he=>by cases he⟩
 |cons e es=>
  have hs:Instr.findNow (.struct fs) x (e::es) 0=none:=by
   unfold Instr.findNow
   cases x<;>cases e.key<;>rfl
  have:=ou K hx w (e::es) 0 h;rcases this with⟨h1,h2⟩|⟨j,e',h1,h2,h3⟩
  ·exact .inl ⟨by simp[Instr.findKey,run_underlying PH,hs,h1],h2⟩
  ·exact .inr ⟨j,e',by simp[Instr.findKey,run_underlying PH,hs,h1],h2,h3⟩
theorem wP{K:SV->Hp->Nat->Iv->World->Prop}
  (hK:∀O w' w2,Rel H nx iv B w O w'->EO w2 w'.heap.size []->w'.grownBy w2 none->w2.heap.size=w'.heap.size+1->K (.o (.v (.map (some w'.heap.size)))) H nx ((w'.heap.size,w'.heap.size+1)::iv) w2):
  yb P B ⟨dst,.makeMap t none,ty,pos,after,guard⟩ l H nx iv w K:=by
 refine⟨fun O w' ev' r Qp=>?_⟩;have hp:(w'.alloc (.map #[] 0)).heap=w'.heap.push (.map #[] 0):=rfl;have hg:w'.grownBy (w'.alloc (.map #[] 0)) none:=⟨rfl,rfl,rfl,by rw[hp,Array.size_push];omega,fun k hk _=>by rw[hp,Array.getElem?_push,aL (Nat.ne_of_lt hk)]⟩
 have OX:(w'.alloc (.map #[] 0)).heap.size=w'.heap.size+1:=by rw[hp,Array.size_push]
 refine⟨.map (some w'.heap.size),w'.alloc (.map #[] 0),(w'.heap.size,w'.heap.size+1)::iv,.inl ?_,r.EL (by omega) (fun id b hb hn=>hg.block _ (r.low id b hb hn).2 (by simp)) ?_,
  hK O w' _ r ⟨#[],0,by rw[hp];simp,rfl,by simp⟩ hg OX⟩
 ·simp[execOp,Instr.makeMap]
 ·intro lo hi hm;rcases List.mem_cons.1 hm with e|hm
  ·injection e with e1 e2;subst e1 e2;exact⟨by omega,fun id b hb hn h=>by have:=(r.low id b hb hn).2;omega⟩
  ·exact⟨by have:=r.qd lo hi hm;have:=r.size;omega,fun id b hb hn=>r.kP lo hi hm id b hb hn⟩
theorem yf{kt et:Nat}{m x:Operand}{K:SV->Hp->Nat->Iv->World->Prop}(Q:Jr P kt KS){vx:SV}
  (ht:P.underlying t=some (.map kt et)) (hz:∀w,(zeroValue et).run P w= .ok (.bool false) w) (hm:ev l m=some (.o (.v (.map (some g))))) (hx:ev l x=some vx) (TX:∀O,vx.den O=key) (VH:KS key) (QO:∀k∈ks,KS k)
  (hg:∀O w',Rel H nx iv B w O w'->EO w' g ks)
  (hK:∀O w' b,Rel H nx iv B w O w'->(b=true↔key∈ks)->K (.o (.v (.bool b))) H nx iv w'):
  yb P B ⟨dst,.lookup t m x false,ty,pos,after,guard⟩ l H nx iv w K:=by
 refine⟨fun O w' ev' r Qp=>?_⟩;obtain⟨es,clock,h1,h2,h3⟩:=hg O w' r;have e1:ev' m= .map (some g):=Qp m _ hm;have e2:ev' x=key:=by rw[Qp x _ hx,TX]
 have hes:∀e∈es.toList,KS e.key:=fun e he=>QO _ (by rw[<-h2];exact aU.2 ⟨e,he,rfl⟩);have hck:=Q.check w' es.isEmpty key VH;rcases tJ Q VH w' es.toList hes with⟨f1,f2⟩|⟨j,e,f1,f2,f3⟩
 ·refine⟨.bool false,w',iv,.inl ?_,r.here,hK O w' false r ⟨(fun h=>by cases h),fun h=>?_⟩⟩
  ·simp[execOp,Instr.lookup,e1,e2,run_underlying ht,sD h1,hck,f1,hz]
  ·rw[<-h2]at h;obtain⟨e,he,hk⟩:=aU.1 h;exact absurd hk (f2 e he)
 ·refine⟨.bool true,w',iv,.inl ?_,r.here,hK O w' true r ⟨fun _=>by rw[<-h2];exact aU.2 ⟨e,f2,f3⟩,fun _=>rfl⟩⟩;have:=h3 e f2;simp[execOp,Instr.lookup,e1,e2,run_underlying ht,sD h1,hck,f1,this]
theorem rK{kt et:Nat}{m x:Operand}{K:SV->Hp->Nat->Iv->World->Prop}(Q:Jr P kt KS){vx:SV}
  (ht:P.underlying t=some (.map kt et)) (hm:ev l m=some (.o (.v (.map (some g))))) (hx:ev l x=some vx) (TX:∀O,vx.den O=key) (hy:ev l y=some (.o (.v (.bool true)))) (VH:KS key) (QO:∀k∈ks,KS k) (Ps:key∉ks)
  (hg:∀O w',Rel H nx iv B w O w'->EO w' g ks∧∀id b,dC H id=some b->(O id).nil=false->(O id).g≠g)
  (hK:∀O w' w2,Rel H nx iv B w O w'->EO w2 g (ks++[key])->w'.grownBy w2 (some g)->w2.heap.size=w'.heap.size->K (.o (.v undef)) H nx iv w2):
  yb P B ⟨dst,.mapUpdate t m x y,ty,pos,after,guard⟩ l H nx iv w K:=by
 refine⟨fun O w' ev' r Qp=>?_⟩;obtain⟨⟨es,clock,h1,h2,h3⟩,OH⟩:=hg O w' r;have e1:ev' m= .map (some g):=Qp m _ hm;have e2:ev' x=key:=by rw[Qp x _ hx,TX]
 have e3:ev' y= .bool true:=Qp y _ hy;have hes:∀e∈es.toList,KS e.key:=fun e he=>QO _ (by rw[<-h2];exact aU.2 ⟨e,he,rfl⟩);have hck:=Q.check w' false key VH;have Od:g<w'.heap.size:=(ah.1 h1).1;rcases tJ Q VH w' es.toList hes with⟨f1,f2⟩|⟨j,e,f1,f2,f3⟩
 ·let ob:Obj:=.map (es.push {key:=key,val:=.bool true,born:=clock}) (clock+1)
  have PW:w'.grownBy {w' with heap:=w'.heap.setIfInBounds g ob} (some g):=⟨rfl,rfl,rfl,by simp,fun k _ hk=>by
   rw[Array.getElem?_setIfInBounds_ne]
   exact fun e=>hk (by rw[e])⟩
  refine⟨undef,{w' with heap:=w'.heap.setIfInBounds g ob},iv,.inr ⟨?_,rfl⟩,r.yd OH PW,hK O w' _ r ⟨es.push {key:=key,val:=.bool true,born:=clock},clock+1,by simp[Od,ob],?_,?_⟩ PW (by simp)⟩
  ·simp[execOp,Instr.mapUpdate,e1,e2,e3,run_underlying ht,sD h1,GU _ h1,hck,f1,ob]
  ·simp[h2]
  ·intro e he;simp at he;rcases he with he|rfl
   ·exact h3 e (by simpa using he)
   ·rfl
 ·exact absurd (by rw[<-h2];exact aU.2 ⟨e,f2,f3⟩) Ps
theorem GV{len e:Nat}{x:Operand}{K:SV->Hp->Nat->Iv->World->Prop}{vx:SV}{cs:Array Value}{u:Value}
  (hu:P.underlying t=some (.array len e)) (hs:∀w,(sizeOf e).run P w= .ok 1 w) (hp:∀(w:World) (j:Nat) v,cs[j]? =some v->(part e cs j).run P w= .ok v w) (hx:ev l x=some vx) (UD:∀O,vx.den O= .agg cs) (hi:ev l i=some (.o (.v (.int k m)))) (hm:0<=m∧m<len) (hc:cs[m.toNat]? =some u)
  (hK:∀O w',Rel H nx iv B w O w'->K (.o (.v u)) H nx iv w'):yb P B ⟨dst,.index t x i,ty,pos,after,guard⟩ l H nx iv w K:=by
 refine⟨fun O w' ev' r Qp=>⟨u,w',iv,.inl ?_,r.here,hK O w' r⟩⟩;have e1:ev' x= .agg cs:=by rw[Qp x _ hx,UD]
 have e2:ev' i= .int k m:=Qp i _ hi;have e3:=hp w' _ u hc;simp[execOp,e1,e2,Instr.index,asIntOf,run_underlying hu,hm.1,hm.2,hs,e3]
theorem I2(hτ:fJ P τ){id2 off k c:Nat}{e2:TypeId}{ad x:Operand}{K:SV->Hp->Nat->Iv->World->Prop}
  (ha:ev l ad=some (.o (.p id off))) (hx:ev l x=some (.o (.s id2 0 k c))) (Om:id<nx) (VI:dC H id2=some (.arr e2 cs2)) (hs:uo H tH) (ho:Dz id2 tH=true)
  (hK:∀O w',Rel H nx iv B w O w'->Cp τ B t (.o (.p id off)) (.o (.v (.slice (some ⟨(O id2).g,0,none⟩) k c))) tH nx (((O id2).g,(O id2).g+1)::iv) w' (fun H' w2=>K (.o (.v undef)) H' nx (((O id2).g,(O id2).g+1)::iv) w2)):
  OpG P B ⟨dst,.store t ad x,ty,pos,after,guard⟩ l H nx iv w K:=by
 refine⟨fun O w' ev' r Qp=>?_⟩;have e1:ev' ad=(SV.o (.p id off)).den O:=Qp ad _ ha;have e2:ev' x= .slice (some ⟨(O id2).g,0,none⟩) k c:=Qp x _ hx;have r2:=r.free VI (by simp) (r.fits VI).1 hs ho;have sat:Sat 0 [] tH nx (((O id2).g,(O id2).g+1)::iv) B w' O ⟨#[],[]⟩ w':=⟨r2,rfl,rfl,(fun u v hv=>by cases hv),fun u v hv=>by cases hv⟩
 obtain⟨H',w2,w3,hk,Ol,ON⟩:=wQ (addr:=.o (.p id off)) (x:=.o (.v (.slice (some ⟨(O id2).g,0,none⟩) k c))) hτ sat (by exact Om) (by simp[SV.sc,At.sc]) (hK O w' r);refine⟨w2,w3,H',_,?_,Ol,hk⟩;have ON:(Instr.storeAt t ((SV.o (.p id off)).den O) (.slice (some ⟨(O id2).g,0,none⟩) k c)).run P w'= .ok () w3:=ON;simp[execOp,e1,e2,ON]
def lN(v:dg)(iv:Iv):Iv:=match v.nil with
 |true=>iv
 |false=>(v.g,v.g+1)::iv
theorem uu{v:dg}{iv:Iv}:∀p,p∈iv->p∈lN v iv:=fun p hp=>by
 unfold lN
 cases v.nil with
 |true=>exact hp
 |false=>exact List.mem_cons_of_mem _ hp
theorem EP{v:dg}{iv:Iv}(h:v.nil=false):(v.g,v.g+1)∈lN v iv:=by
 unfold lN;rw[h];exact aG
theorem Rel.drop{H':Hp}{b:jr}(r:Rel H nx iv B w O w')(Om:dC H id=some b)(hd:b≠ .dead)(hs:uo H H')(ho:Dz id H'=true):Rel H' nx (lN (O id) iv) B w' O w':=by
 have h1:Rel H' nx iv B w' O w':=Rel.mk' rfl rfl rfl (aF _) (by have:=r.base;have:=r.size;omega) (fun lo hi hm=>by have:=r.qd lo hi hm;have:=r.size;omega) (fun j c h=>r.keys j c (hs.get h))
  (fun j c h=>r.fits (hs.get h)) (fun j c h=>r.scopd (hs.get h)) (fun j k c e h h'=>r.inj j k c e (hs.get h) (hs.get h')) (fun j c h=>r.low j c (hs.get h)) (fun _ _ _=>rfl) (fun lo hi hm j c h=>r.kP lo hi hm j c (hs.get h))
 unfold lN
 cases hn:(O id).nil with
 |false=>exact r.free Om hd hn hs ho
 |true=>exact h1
theorem sE(hτ:fJ P τ){id3 id2 c1 t3:Nat}{c:At}{b2:jr}{x:Operand}{vx:SV}{K:SV->Hp->Nat->Iv->World->Prop}
  (hx:ev l x=some vx) (hy:ev l y=some (.o (.s id3 0 1 c1))) (VJ:dC H id3=some (.box t3 [c])) (VI:dC H id2=some b2) (PD:b2≠ .dead) (hs:uo H tH) (ho3:Dz id3 tH=true) (TY:Dz id2 tH=true)
  (hK:∀O w',Rel H nx iv B w O w'->Rel tH nx (((O id3).g,(O id3).g+1)::lN (O id2) iv) B w' O w'->w'.heap[(O id3).g]? =some (.cells #[c.den O] t3 (0,0))->
   yG τ B t vx (.o (.v (.slice (some ⟨(O id3).g,0,none⟩) 1 c1))) tH nx (((O id3).g,(O id3).g+1)::lN (O id2) iv) w' (fun v H' OL=>K v H' OL (((O id3).g,(O id3).g+1)::lN (O id2) iv) w')):
  OpA P B ⟨dst,.call ⟨.builtin .append,⟨[x,y]⟩,⟨[t,t]⟩⟩,ty,pos,after,guard⟩ l H nx iv w K:=by
 refine⟨fun O w' ev' r Qp=>?_⟩;have e1:ev' x=vx.den O:=Qp x _ hx;have e2:ev' y= .slice (some ⟨(O id3).g,0,none⟩) 1 c1:=Qp y _ hy;have VK:=(r.fits VJ).1;have r1:=r.drop VI PD hs TY;have r2:Rel tH nx (((O id3).g,(O id3).g+1)::lN (O id2) iv) B w' O w':=by
  refine r1.more (by have:=(r.low id3 _ VJ VK).2;omega) fun j cc hj hnj he=>?_;obtain⟨h2,h3⟩:=Dz.get ho3 hj;exact h2 (r.inj j id3 cc _ (hs.get hj) VJ h3 (by simp) hnj VK (by omega))
 have sat:Sat 0 [] tH nx (((O id3).g,(O id3).g+1)::lN (O id2) iv) B w' O ⟨#[],[]⟩ w':=⟨r2,rfl,rfl,(fun u v hv=>by cases hv),fun u v hv=>by cases hv⟩
 obtain⟨rr,H',OL,ρ',w2,hk,Ol,hr,Q3,hρ,ON⟩:=tK (ty:=ty) hτ sat (hK O w' r r2 (by have:=r.box id3 _ _ VJ;simpa using this));refine⟨rr,H',OL,_,ρ',w',w2,?_,Ol,hr,Q3,hρ,hk⟩;have ON:(Builtin.append_ #[t,t] ty #[vx.den O,.slice (some ⟨(O id3).g,0,none⟩) 1 c1]).run P w'= .ok (rr.den ρ') w2:=ON;simp[execOp,resolve,invoke,builtin,e1,e2,ON]
end
end Go.Sx
