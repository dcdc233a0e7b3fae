/- Texts Sx12 to Sx23: lemmas, each with its conditions. -/
import Derived.Laws.BytesString
import Derived.Test.YtgkpbdkechfgmaaGreatP1
namespace Go.Sx
open Go
variable{args:(Nat->dx)->Array Value}{K Q0 next:Act->World->Prop}{R R':Ending->World->Prop}{k:Env->Prop}{l:List (Nat×TI)}{B g:Nat}{O:Nat->dx}{d:Option Tmp}{P:Program}
section
variable{P:Program}{τ:mz}{ops:Array Oper}{B n nx:Nat}{l:Env}{H:Hp}{iv:Iv}{w w':World}{O:Nat->dx}{a:Act}
variable{Pd:List Nat}{E:List (Nat×Nat)}{lx la:Array Bool}{Q:Exit->Act->World->Prop}{md:Region.Mode}
theorem wP(hr:Region.ready md ops la=[])(h:Q .normal a w):∀fuel,sE P md ops Q fuel la a w
 |0=>⟨hr,h⟩
 |_+1=>⟨fun _=>h,by rw[hr];simp⟩
theorem ya(sat:Sat n l H nx iv B w O a w'){K:SV->Hp->Iv->World->Prop}{o:Oper}
  (h:EM P B g args H nx iv w K) (Sz:(execOp a.eval o).run P w'=(callFunc g (args O)).run P w')
  (hn:∀v w2,K (.o (.v v)) H ((w'.heap.size,w2.heap.size)::iv) w2->Ext w' w2->Sat n l H nx ((w'.heap.size,w2.heap.size)::iv) B w2 O a w2->next (a.put o.dst v) w2):o.wp P a w' next Q:=by
 have hc:=h.h O w' sat.rel;unfold Oper.wp;rw[Sz,hc.e.h];refine Calls.mono hc.c fun e w2 he=>?_;obtain⟨v,rfl,Rz,hK⟩:=he;refine hn v w2 hK Rz ?_;have r:=(sat.rel.ext Rz).here;refine sat.next (ρ':=O) ?_ (aF _) (fun _ _=>rfl)
 refine Rel.mk' r.os r.tape r.output r.size r.base ?_ r.keys (fun id b hb=>r.fits hb) (fun id b hb=>r.scopd hb) r.inj r.low r.ug ?_
 ·intro lo hi hm;rcases List.mem_cons.1 hm with hm|hm
  ·injection hm with h1 h2;omega
  ·exact r.rM lo hi hm
 ·intro lo hi hm id b hb PA;rcases List.mem_cons.1 hm with hm|hm
  ·injection hm with h1 h2;have:=(sat.rel.low id b hb PA).2;omega
  ·exact r.kk lo hi hm id b hb PA
theorem sF{o:Oper}{K:SV->Hp->Nat->Iv->World->Prop}(h:yX true P τ B o l H nx iv w K)(sat:Sat n l H nx iv B w O a w')(hr:tB o.op=false)(ha:Jh o.op=false)(hh:pC o=false)
  (hn:∀v w2,K (.o (.v v)) H nx ((w'.heap.size,w2.heap.size)::iv) w2->Ext w' w2->Sat n l H nx ((w'.heap.size,w2.heap.size)::iv) B w2 O a w2->next (a.put o.dst v) w2):o.wp P a w' next Q:=by
 obtain⟨dst,op,ty,pos,after,guard⟩:=o;simp only at hr ha;have:∃f args x,op= .call ⟨.value f,args,x⟩:=by
  simp only[pC,hr,ha,Bool.or_self,Bool.false_or,Bool.not_eq_false']at hh;split at hh
  ·exact⟨_,_,_,rfl⟩
  ·cases hh
 obtain⟨f,⟨args⟩,x,rfl⟩:=this;simp only[yX]at h;obtain⟨vf,h1,hf,OO⟩:=dZ sat h;obtain⟨vs,h2,QW,hss⟩:=qg sat h1;have Ri:(args.toArray).map a.eval=ni O vs:=by
  apply Array.ext';simp[ni,QW]
 split at h2
 ·rename_i g first caps
  refine ya sat h2 ?_ (fun v w2 hK he hs=>hn v w2 hK he hs);simp[execOp,resolve,hf,SV.den,At.den,Deferred.ofValue,invoke,Ri]
 ·rename_i g ids;refine ya sat h2 ?_ (fun v w2 hK he hs=>hn v w2 hK he hs);simp[execOp,resolve,hf,SV.den,At.den,Deferred.ofValue,invoke,Ri]
 ·exact h2.elim
def QN(Q0:Act->World->Prop):Exit->Act->World->Prop:=fun e a w=>e= .normal∧Q0 a w
theorem yb(sat:Sat n l H nx iv B w O a w'){o:Oper}{yes no:Env->Prop}(h:tF ops.toList o.guard l yes no)(hg:o.guard=none∨Pd=[]):
  (Region.wanted o (yielded ops a.tmps)=true∧∃l',yes l'∧Sat n l' H nx iv B w O a w'∧(Pd≠[]->l'=l))∨
  (Region.wanted o (yielded ops a.tmps)=false∧Pd=[]∧∃l',no l'∧Sat n l' H nx iv B w O a w'):=by
 by_cases SM:o.guard=none
 ·rw[SM]at h;exact .inl ⟨by simp[Region.wanted,SM],l,h,sat,fun _=>rfl⟩
 ·have Vb:=hg.resolve_left SM;rcases iu sat h with⟨h1,l',h2,h3⟩|⟨h1,l',h2,h3⟩
  ·exact .inl ⟨h1,l',h2,h3,fun OD=>absurd Vb OD⟩
  ·exact .inr ⟨h1,Vb,l',h2,h3⟩
theorem lC(sat:Sat n l H nx iv B w O a w'){v:SV}(h:EL d v l k)(hd:∀t,d=some t->t<n)(hv:v.sc nx):
  ∃l',k l'∧Sat n l' H nx iv B w O (a.put d (v.den O)) w'∧∀t,fX l t=none->d≠some t->fX l' t=none:=by
 unfold EL at h;split at h
 ·rename_i t;exact⟨_,h,sat.put (hd t rfl) hv,fun u hu OD=>by rw[ee,aJ (fun e=>OD (by rw[e]))];exact hu⟩
 ·exact⟨l,h,sat,fun t ht _=>ht⟩
theorem mH{Q:Exit->Act->World->Prop}{i:Nat}{o:Oper}(hi:ops[i]? =some o)
  (h:(Region.wanted o (yielded ops a.tmps)=true∧o.wp P a w' K Q)∨(Region.wanted o (yielded ops a.tmps)=false∧K (a.put o.dst undef) w')):wpOp P ops Q i K a w':=by
 unfold wpOp;simp only[hi]
 rcases h with⟨h1,h2⟩|⟨h1,h2⟩
 ·rw[if_pos h1];exact .inl h2
 ·rw[aJ (by simp[h1])];exact h2
theorem Jl(hτ:fQ P τ)(OF:∀(j:Nat) o,ops[j]? =some o->∀d,o.dst=some d->d<n)(OS:∀(j:Nat) (o:Oper) cs b,ops[j]? =some o->o.op≠ .select cs b)
  {K:KT} (hQ:∀l' H' OI iv' w2 ρ' a' w3,K l' H' OI iv' w2->Sat n l' H' OI iv' B w2 ρ' a' w3->Q0 a' w3):
  ∀(m fuel:Nat) (π:List It) (lx la:Array Bool) (Pd:List Nat) (E:List (Nat×Nat)) (l:Env) (H:Hp) (nx:Nat) (iv:Iv) (w:World) (O:Nat->dx) (a:Act) (w':World),
   fuel+π.length=m->MS la<=fuel->pM ops π lx Pd=true->Jg P τ B ops.toList π l H nx iv w K->MO P ops n B Pd E lx la l H nx iv w O a w'->sE P .any ops (QN Q0) fuel la a w':=by
 intro m
 induction m using Nat.strongRecOn with
 |_ m ih=>
 intro fuel π lx la Pd E l H nx iv w O a w' hm Vc hc h s
 match π with
 |[]=>
  simp only[pM,a9,List.isEmpty_iff]at hc;obtain⟨hr,rfl⟩:=hc;refine wP ?_ ⟨rfl,hQ _ _ _ _ _ _ _ _ h s.sat⟩ fuel;refine List.eq_nil_iff_forall_not_mem.2 fun j hj=>?_;obtain⟨h1,o,h2,h3⟩:=eK.1 hj;have:j∈Region.ready .any ops lx:=by
   refine eK.2 ⟨?_,o,h2,fun e he hb=>?_⟩
   ·have OU:j<lx.size:=by rw[s.MP,<-s.MT];exact(ai.1 h1).1
    rw[Array.getElem?_eq_getElem OU]
    cases hb:lx[j]with
    |false=>rfl
    |true=>
     have:=(s.la j).2 (.inl (by rw[Array.getElem?_eq_getElem OU,hb]));rw[h1]at this;cases this
   ·rcases(s.la e.on).1 (h3 e he hb)with h4|⟨g,h4⟩
    ·exact h4
    ·exact absurd (s.IV _ _ h4) (by simp)
  rw[hr]at this
  cases this
 | .p i::r=>
  obtain⟨o,ho,h1⟩:=gE h;rw[bA]at ho;simp only[pM,ho,a9]at hc;obtain⟨⟨⟨⟨⟨⟨c1,c2⟩,c3⟩,c4⟩,c5⟩,c6⟩,c7⟩:=hc
  cases hd:o.dst with
  |none=>rw[hd]at c3;cases c3
  |some d=>
  rw[hd]at c3;obtain⟨b,v,mk,obj,hK,-,-,-,-,-,Ty⟩:=lG hτ h1 s.sat c1;rw[hd]at hK;obtain⟨l',hl,Pz,PQ⟩:=sD hK;have hmem:∀j∈Pd,j≠i:=fun j hj=>by
   have:=List.all_eq_true.1 c5 j hj;simpa only[Bool.not_eq_true',nC]using this
  have c6':∀j∈Pd,∀oj,ops[j]? =some oj->o.apart ops oj=true∧oj.apart ops o=true:=fun j hj oj Qf=>by
   have:=List.all_eq_true.1 c6 j hj;simpa only[IU,Qf,a9]using this
  have hlxi:lx[i]? =some false:=by
   have:lx.getD i true=false:=by simpa using c4
   rw[ah]at this
   cases hx:lx[i]? with
   |none=>rw[hx]at this;cases this
   |some b=>rw[hx]at this;simp at this;rw[this]
  refine ih (fuel+r.length) (by simp only[List.length_cons]at hm;omega) fuel r lx la (i::Pd) E l' H nx iv w O a w' rfl Vc c7 hl ?_;refine⟨⟨s.sat.rel,s.sat.size,s.sat.defers,fun t v hv=>s.sat.env t v (PQ t v hv).2,fun t v hv=>s.sat.sc t v (PQ t v hv).2⟩,s.MP,s.MT,s.la,fun j g hg=>List.mem_cons_of_mem _ (s.IV j g hg),fun j hj=>?_,s.eg,s.inj,fun j hj j' hj' OD oj oj' h3 h4=>?_⟩
  ·rcases List.mem_cons.1 hj with rfl|hj
   ·refine⟨hlxi,o,d,mk,obj,ho,c1,by simpa using c2,⟨hd,by simpa using c3⟩,Ty,Pz,fun g hg=>absurd (s.IV _ _ hg) (fun Qg=>hmem _ Qg rfl)⟩
   ·obtain⟨h0,oj,dj,mkj,objj,g1,g2,g3,g4,g5,g6,g7⟩:=s.pd j hj;exact⟨h0,oj,dj,mkj,objj,g1,g2,g3,g4,g5,Jk PQ g6,g7⟩
  ·rcases List.mem_cons.1 hj with e1|k1<;>rcases List.mem_cons.1 hj' with e2|k2
   ·exact absurd (e1.trans e2.symm) OD
   ·rw[e1,ho]at h3;injection h3 with h3;subst h3;exact(c6' j' k2 oj' h4).1
   ·rw[e2,ho]at h4;injection h4 with h4;subst h4;exact(c6' j k1 oj h3).2
   ·exact s.ap j k1 j' k2 OD oj oj' h3 h4
 | .x i::r=>
  obtain⟨o,ho,h1⟩:=gE h;unfold fh at h1;rw[bA]at ho;simp only[pM,ho,a9]at hc;obtain⟨⟨⟨⟨c1,c2⟩,c3⟩,c4⟩,c5⟩:=hc;have c2:i∈Region.ready .any ops lx:=by simpa using c2
  have c1:o.guard=none∨Pd=[]:=by simpa using c1
  have Qr:∀j∈Pd,j≠i->∀oj,ops[j]? =some oj->o.apart ops oj=true:=fun j hj Ox oj Qf=>by
   have:=List.all_eq_true.1 c3 j hj;simpa only[IU,Qf,Bool.or_eq_true,nC.2 Ox,Bool.false_eq_true,false_or]using this
  obtain⟨Oa,o',Rj,hwait⟩:=eK.1 c2;rw[ho]at Rj;injection Rj with Rj;subst Rj;simp only[List.length_cons]at hm;have Uh:=OF i o ho;by_cases hE:∃g,(i,g)∈E
  ·
   obtain⟨g,hg⟩:=hE;obtain⟨h0,o',d,mk',obj',g1,g2,g3,g4,g5,g6,g7⟩:=s.pd i (s.IV i g hg);rw[ho]at g1;injection g1 with g1;subst g1;rw[g3,GN g2]at h1;have h1:yX true P τ B o l H nx iv w fun v H' OI iv' w'=>EL o.dst v l fun l'=>Jg P τ B ops.toList r l' H' OI iv' w' K:=h1;obtain⟨b,v,mk,obj,hK,OW,hb,hv,Tx,Pb,Ty⟩:=lG hτ h1 s.sat g2;obtain⟨l',hl,s'⟩:=s.aAT ho hg hb hv Tx Pb Ty hK Uh Qr;exact ih (fuel+r.length) (by omega) fuel r _ _ _ _ _ _ _ _ _ _ _ _ rfl Vc c5 hl s'
  ·have Uq:∀g,(i,g)∉E:=fun g hg=>hE ⟨g,hg⟩;have PW:la[i]? =some false:=by
    have OU:i<la.size:=by rw[s.MT,<-s.MP];exact(ai.1 Oa).1
    rw[Array.getElem?_eq_getElem OU]
    cases hb:la[i]with
    |false=>rfl
    |true=>
     rcases(s.la i).1 (by rw[Array.getElem?_eq_getElem OU,hb])with h2|h2
     ·rw[Oa]at h2;cases h2
     ·exact absurd h2 hE
   have SA:i∈Region.ready .any ops la:=eK.2 ⟨PW,o,ho,fun e he hb=>(s.la e.on).2 (.inl (hwait e he hb))⟩;have Ti:=jQ PW;obtain⟨f,rfl⟩:∃f,fuel=f+1:=⟨fuel-1,by omega⟩
   cases hR:tB o.op with
   |true=>
    rw[hR]at c4;obtain⟨y8,Oe,QE,hb3,RS⟩:=yZ c4 s.MP;have PX:∀j,y8 j->la.getD j false=false:=fun j hj=>by
     cases hl:la.getD j false with
     |false=>rfl
     |true=>
      have hl:la[j]? =some true:=by
       rw[ah]at hl
       cases hx:la[j]? with
       |none=>rw[hx]at hl;cases hl
       |some b=>rw[hx]at hl;simp at hl;rw[hl]
      rcases(s.la j).1 hl with h4|⟨g,h4⟩
      ·have:=QE j hj;rw[ah,h4]at this;cases this
      ·exact absurd hj (hb3 j (s.IV j g h4))
    have PM:∀j oj,ops[j]? =some oj->j≠i->la.getD j true=false->¬y8 j->o.apart ops oj=true∧(GJ o.op=true∨pC oj=false):=by
     intro j oj Qf Ox TH Qy;have TA:lx.getD j true=false:=by
      rw[ah]at TH ⊢
      cases hx:lx[j]? with
      |none=>
       have:la[j]? =none:=by
        rw[Array.getElem?_eq_none_iff]at hx ⊢;rw[s.MT,<-s.MP];exact hx
       rw[this]at TH;cases TH
      |some b=>
       cases b with
       |false=>rfl
       |true=>rw[(s.la j).2 (.inl hx)]at TH;cases TH
     exact RS j oj Qf Ox TA Qy
    rcases yb s.sat h1 c1 with⟨hw,l1,h2,sat1,Pz⟩|⟨hw,Vb,l1,h2,sat1⟩
    ·obtain⟨v,hK,QW,OK⟩:=(j0 hτ h2 sat1 hR).resolve_right (fun hh=>by have:=hh.1;rw[lH hR]at this;cases this);obtain⟨l2,h3,sat2,PQ⟩:=lC sat1 hK Uh QW;refine kl (pu:=GJ o.op) (v:=v.den O) ho OS (fun c a w hq=>?_) y8 Oe f la a w' PX PM SA (.inl ⟨hw,fun w3 he=>OK w3 (he.imp id fun he=>sat1.rel.ext he)⟩) ?_
     ·exact absurd hq.1 (by simp)
     ·refine ih (f+r.length) (by omega) f r _ _ _ _ _ _ _ _ _ _ _ _ rfl (by omega) c5 h3 (s.step OS ho Uq Qr sat2 ?_ (fun _ _ _=>Ext.refl _) (fun g _ Si R8 _=>⟨Si,R8⟩));intro j hj Ox d hd OD;have Pz:=Pz (by intro e;rw[e]at hj;cases hj);subst Pz;exact PQ d hd OD
    ·obtain⟨l2,h3,sat2,PQ⟩:=lC (v:=.o (.v undef)) sat1 h2 Uh trivial;refine kl (pu:=GJ o.op) (v:=undef) ho OS (fun c a w hq=>?_) y8 Oe f la a w' PX PM SA (.inr ⟨hw,rfl⟩) ?_
     ·exact absurd hq.1 (by simp)
     ·refine ih (f+r.length) (by omega) f r _ _ _ _ _ _ _ _ _ _ _ _ rfl (by omega) c5 h3 (s.step OS ho Uq Qr sat2 ?_ (fun _ _ _=>Ext.refl _) (fun g _ Si R8 _=>⟨Si,R8⟩));intro j hj;rw[Vb]at hj;cases hj
   |false=>
    rw[hR]at c4;simp only[a9]at c4;obtain⟨c4,c6⟩:=c4;have hpick:∀j∈Region.ready .any ops la,j=i∨(j≠i∧j∈Pd):=by
     intro j hj;by_cases Ox:j=i
     ·exact .inl Ox
     ·refine .inr ⟨Ox,?_⟩;apply Decidable.byContradiction;intro hjP;obtain⟨k1,oj,k2,k3⟩:=eK.1 hj;have:j∈Region.ready .any ops (EF lx (Pd.filter fun j=> !Nat.beq j i)):=by
       refine eK.2 ⟨?_,oj,k2,fun e he hb=>?_⟩
       ·have OU:j<(EF lx (Pd.filter fun j=> !Nat.beq j i)).size:=by rw[EK,s.MP,<-s.MT];exact(ai.1 k1).1
        rw[Array.getElem?_eq_getElem OU]
        cases hb:(EF lx (Pd.filter fun j=> !Nat.beq j i))[j]with
        |false=>rfl
        |true=>
         rcases(y9 _ lx j).1 (by rw[Array.getElem?_eq_getElem OU,hb])with h4|⟨h4,_⟩
         ·have:=(s.la j).2 (.inl h4);rw[k1]at this;cases this
         ·exact absurd (List.mem_filter.1 h4).1 hjP
       ·rw[y9];rcases(s.la e.on).1 (k3 e he hb)with h4|⟨g,h4⟩
        ·exact .inl h4
        ·refine .inr ⟨List.mem_filter.2 ⟨s.IV _ _ h4,?_⟩,?_⟩
         ·simp only[Bool.not_eq_true',nC]
          intro e2;rw[e2]at h4;exact Uq g h4
         ·have:=(s.pd _ (s.IV _ _ h4)).1;exact(ai.1 this).1
      have:=List.all_eq_true.1 c6 j this;exact Ox (eM this)
    refine⟨fun he=>(by rw[he]at SA;cases SA),fun j hj=>?_⟩;have TH:=(eK.1 hj).1;have hunj:=jQ TH;rcases hpick j hj with rfl|⟨Ox,hjP⟩
    ·
     refine mH ho ?_;rcases yb s.sat h1 c1 with⟨hw,l1,h2,sat1,Pz⟩|⟨hw,Vb,l1,h2,sat1⟩
     ·refine .inl ⟨hw,?_⟩;have hl1':∀k∈Pd,k≠j->∀(l2:Env),(∀t,fX l1 t=none->o.dst≠some t->fX l2 t=none)->∀d,fX l d=none->o.dst≠some d->fX l2 d=none:=by
       intro k hk _ l2 PQ d hd OD;have Pz:=Pz (by intro e;rw[e]at hk;cases hk);subst Pz;exact PQ d hd OD
      cases hA:Jh o.op with
      |true=>
       obtain⟨b,v,mk,obj,hK,OW,hb,hv,Tx,Pb,Ty⟩:=lG hτ h2 sat1 hA;have Og:Rel ((nx,b)::H) (nx+1) iv B w (gl O nx ⟨w'.heap.size,0,false⟩) (w'.alloc obj):=
        sat1.rel.push b _ rfl rfl rfl (by simp) (fun k hk=>heap_alloc_old _ _ hk) (fun _=>⟨aF _,by simp⟩) (Pb _ _ (heap_alloc_new _ _)) hb
       obtain⟨l2,h3,sat2,PQ⟩:=lC (sat1.next Og (Nat.le_succ _) (fun id Om=>gb id Om)) hK Uh hv;rw[Tx]at sat2;refine k5 (v:=mk w'.heap.size) (w2:=w'.alloc obj) (Ty w') ⟨fun _=>Ext.alloc _ _,?_⟩;refine ih (f+r.length) (by omega) f r _ _ _ _ _ _ _ _ _ _ _ _ rfl (by omega) c5 h3 (s.step OS ho Uq Qr sat2 (fun k hk hkj=>hl1' k hk hkj l2 PQ) (fun _ _ _=>Ext.alloc _ _) (fun g hg Si R8 _=>⟨fun id c hc hn he=>?_,R8⟩));rw[dJ]at hc;split at hc
       ·rename_i e;subst e;rw[fJ]at he;simp only at he;omega
       ·have Pk:gl O nx ⟨w'.heap.size,0,false⟩ id=O id:=(gb id (s.sat.rel.keys id c hc)).symm;rw[Pk]at hn he;exact Si id c hc hn he
      |false=>
       cases hH:pC o with
       |false=>
        rw[mi hH]at h2;refine sF h2 sat1 hR hA hH fun v w2 hK he hs=>⟨fun _=>he,?_⟩
        obtain⟨l2,h3,sat2,PQ⟩:=lC (v:=.o (.v v)) hs hK Uh trivial;refine ih (f+r.length) (by omega) f r _ _ _ _ _ _ _ _ _ _ _ _ rfl (by omega) c5 h3 (s.step OS ho Uq Qr sat2 (fun k hk hkj=>hl1' k hk hkj l2 PQ) (fun _ _ _=>he) (fun g hg Si R8 _=>⟨Si,fun lo hi hm hc=>?_⟩));rcases List.mem_cons.1 hm with hm|hm
        ·injection hm with e1 e2;omega
        ·exact R8 lo hi hm hc
       |true=>
        have Vb:Pd=[]:=by rw[hH]at c4;simpa using c4
        subst Vb;refine lI hτ h2 sat1 fun v H' OI iv' w2 ρ' w3 hK sat2 hv=>⟨fun hs=>(by rw[hs o ho]at hH;cases hH),?_⟩
        obtain⟨l2,h3,sat3,PQ⟩:=lC sat2 hK Uh hv;exact ih (f+r.length) (by omega) f r _ _ _ _ _ _ _ _ _ _ _ _ rfl (by omega) c5 h3 (s.step OS ho Uq Qr sat3 (fun k hk=>by cases hk) (fun k hk=>by cases hk) (fun g _ _ _ hk=>by obtain⟨k,hk,_⟩:=hk;cases hk))
     ·refine .inr ⟨hw,fun _=>Ext.refl _,?_⟩;subst Vb;obtain⟨l2,h3,sat2,PQ⟩:=lC (v:=.o (.v undef)) sat1 h2 Uh trivial;exact ih (f+r.length) (by omega) f r _ _ _ _ _ _ _ _ _ _ _ _ rfl (by omega) c5 h3 (s.step OS ho Uq Qr sat2 (fun k hk=>by cases hk) (fun k hk=>by cases hk) (fun g _ _ _ hk=>by obtain⟨k,hk,_⟩:=hk;cases hk))
    ·
     refine s.early OF OS hjP TH fun E' a2 w2 he s'=>⟨fun _=>he,?_⟩
     exact ih (f+(r.length+1)) (by omega) f (.x i::r) lx _ Pd E' l H nx iv w O a2 w2 rfl (by omega) (by simp only[pM,ho,a9];exact⟨⟨⟨⟨by simpa using c1,by simpa using c2⟩,c3⟩,by rw[hR];simp only[a9];exact⟨c4,c6⟩⟩,c5⟩) h s'
theorem cM(hτ:fQ P τ)(hm:P.follows .mixedOrders=true){K:KT}(π:List It)(hs:Region.noSelect ops=true)(hc:GL ops ops.size π 0 []=true)
  (h:Jg P τ B ops.toList π l H nx iv w K):ui P B ops l H nx iv w K:=by
 rw[Cm π (Array.replicate ops.size false) 0 [] (by simp) (fun j=>by rw[tE,ah,Array.getElem?_replicate];split<;>rfl)]at hc;refine⟨fun n O a w' OF sat Q hQ id=>?_⟩;refine wp_mono (Q':=Q) (c:=.region id ops true) (wp_region_any (Q:=QN (Q .normal)) hm (sG _ _ _ _ ?_)) (fun e a w hq=>by obtain⟨rfl,hq⟩:=hq;exact hq);refine Jl hτ (fun j o ho d hd=>?_) (Region.noSelect_spec hs) hQ _ _ π _ _ [] [] l H nx iv w O a _ rfl ?_ hc h ?_
 ·have:=List.all_eq_true.1 OF o (aC (by rw[bA];exact ho));rw[hd]at this;have h5:d+1<=n:=by simpa [Nat.blt]using this
  exact h5
 ·unfold MS;refine aX List.countP_le_length ?_;simp
 ·refine⟨⟨sat.rel.drew,sat.size,sat.defers,sat.env,sat.sc⟩,by simp,by simp,fun j=>by simp,fun j g h=>(by cases h),fun j h=>(by cases h),fun j g h=>(by cases h),fun j g j' h=>(by cases h),fun j h=>(by cases h)⟩
end
def yC:List (Nat×TI)->Nat->Option TI
 |[],_=>none
 |(t,v)::r,u=>match Nat.beq t u with
  |true=>some v
  |false=>yC r u
def veq:Value->Value->Bool
 | .bool a,.bool b=>a==b
 | .int k n,.int j m=>pO k j&&decide (n=m)
 | .string a,.string b=>a.data.toList.isEmpty&&b.data.toList.isEmpty
 | .pointer none,.pointer none=>true
 | .slice none a b,.slice none c d=>Nat.beq a c&&Nat.beq b d
 | .map none,.map none=>true
 | .nilFunc,.nilFunc=>true
 | .nilIface,.nilIface=>true
 |_,_=>false
theorem Ba{a b:IntKind}(h:pO a b=true):a=b:=by cases a<;>cases b<;>first|rfl|cases h
theorem NZ{a b:Value}(h:veq a b=true):a=b∧a.oneCell'=true:=by
 unfold veq at h;split at h
 ·exact⟨by rw[eq_of_beq h],rfl⟩
 ·simp only[a9,decide_eq_true_eq]at h;exact⟨by rw[Ba h.1,h.2],rfl⟩
 ·rename_i a b;simp only[a9,List.isEmpty_iff]at h;refine⟨?_,rfl⟩;have ha:a=⟨#[]⟩:=by
   obtain⟨⟨l⟩⟩:=a;simp only at h;rw[h.1]
  have hb:b=⟨#[]⟩:=by
   obtain⟨⟨l⟩⟩:=b;simp only at h;rw[h.2]
  rw[ha,hb]
 ·exact⟨rfl,rfl⟩
 ·simp only[a9]at h;exact⟨by rw[eM h.1,eM h.2],rfl⟩
 ·exact⟨rfl,rfl⟩
 ·exact⟨rfl,rfl⟩
 ·exact⟨rfl,rfl⟩
 ·cases h
def MU:List Value->List Value->Bool
 |[],[]=>true
 |a::r,b::s=>veq a b&&MU r s
 |_,_=>false
theorem H8:∀{a b:List Value},MU a b=true->a=b∧∀x∈b,x.oneCell'=true
 |[],[],_=>⟨rfl,by simp⟩
 |a::r,b::s,h=>by
  simp only[MU,a9]at h;obtain⟨h1,h2⟩:=NZ h.1;obtain⟨h3,h4⟩:=H8 h.2;refine⟨by rw[h1,h3],fun x hx=>?_⟩;rcases List.mem_cons.1 hx with rfl|hx
  ·rw[<-h1];exact h2
  ·exact h4 x hx
 |[],_::_,h=>by cases h
 |_::_,[],h=>by cases h
def yD(P:Program):List Field->List (Nat×Nat)->Bool
 |[],[]=>true
 |f::r,(o,t)::s=>Nat.beq f.offset o&&Nat.beq f.type t&&(P.info? f.type).isSome&&yD P r s
 |_,_=>false
theorem yc{P:Program}:∀{a:List Field} {b:List (Nat×Nat)},yD P a b=true->a.map (fun f=>(f.offset,f.type))=b∧∀f∈a,(P.info? f.type).isSome=true
 |[],[],_=>⟨rfl,by simp⟩
 |f::r,(o,t)::s,h=>by
  simp only[yD,a9]at h;obtain⟨h3,h4⟩:=yc h.2;refine⟨by rw[List.map_cons,h3,eM h.1.1.1,eM h.1.1.2],fun x hx=>?_⟩;rcases List.mem_cons.1 hx with rfl|hx
  ·exact h.1.2
  ·exact h4 x hx
 |[],_::_,h=>by cases h
 |_::_,[],h=>by cases h
def isAgg:TypeDesc->Bool
 | .struct _=>true
 | .array _ _=>true
 |_=>false
def aAU(a b:Bool):Bool:=match a with
 |true=>b
 |false=> !b
theorem MV{a b:Bool}(h:aAU a b=true):a=b:=by cases a<;>cases b<;>first|rfl|cases h
def tokB(P:Program)(t:Nat)(i:TI):Bool:=
 (match P.info? t with
  |some inf=>Nat.beq inf.size i.size&&Nat.beq inf.bytes i.bytes&&(match inf.zero with
   |some z=>MU z.cells.toList i.zero
   |none=>false)
  |none=>false)&&Nat.beq i.zero.length i.size&&
 (match P.underlying t with
  |some d=>aAU (isAgg d) i.agg&&(match i.tag with
   |1=>(match d with
    | .int k=>pO k i.ik
    |_=>false)
   |2=>(match d with
    | .bool=>true
    |_=>false)
   |3=>(match d with
    | .string=>true
    |_=>false)
   |4=>(match d with
    | .slice e=>Nat.beq e i.elem
    |_=>false)
   |5=>(match d with
    | .struct fs=>yD P fs.toList i.fields
    |_=>false)
   |6=>(match d with
    | .array n e=>Nat.beq n i.Cl&&Nat.beq e i.elem
    |_=>false)
   |_=>true)
  |none=>false)
theorem tok_of{t:Nat}{i:TI}(h:tokB P t i=true):GO P t i:=by
 simp only[tokB,a9]at h;obtain⟨⟨h1,h2⟩,h3⟩:=h
 cases hi:P.info? t with
 |none=>rw[hi]at h1;cases h1
 |some inf=>
 rw[hi]at h1;simp only[a9]at h1;obtain⟨⟨h4,h5⟩,h6⟩:=h1
 cases hz:inf.zero with
 |none=>rw[hz]at h6;cases h6
 |some z=>
 rw[hz]at h6;obtain⟨h7,h8⟩:=H8 h6
 cases hu:P.underlying t with
 |none=>rw[hu]at h3;cases h3
 |some d=>
 rw[hu]at h3;simp only[a9]at h3;obtain⟨h9,h10⟩:=h3;refine⟨⟨inf,z,hi,eM h4,eM h5,hz,h7⟩,eM h2,h8,⟨d,hu,?_⟩,fun e=>?_,fun e=>?_,fun e=>?_,fun e=>?_,fun e=>?_,fun e=>?_⟩
 ·rw[<-MV h9]
  cases d<;>rfl
 all_goals rw[e]at h10
 ·cases d with
  |int k=>simp only at h10;rw[<-Ba h10];exact hu
  |_=>cases h10
 ·cases d with
  |bool=>exact hu
  |_=>cases h10
 ·cases d with
  |string=>exact hu
  |_=>cases h10
 ·cases d with
  |slice e=>simp only at h10;rw[<-eM h10];exact hu
  |_=>cases h10
 ·cases d with
  |struct fs=>simp only at h10;exact⟨fs,hu,yc h10⟩
  |_=>cases h10
 ·cases d with
  |array n e=>simp only[a9]at h10;rw[<-eM h10.1,<-eM h10.2];exact hu
  |_=>cases h10
theorem Na(h:l.all (fun p=>tokB P p.1 p.2)=true):fQ P (yC l):=by
 intro t i hi;have:(t,i)∈l:=by
  clear h
  induction l with
  |nil=>cases hi
  |cons p r ih=>
   obtain⟨t0,i0⟩:=p;unfold yC at hi;split at hi
   ·rename_i hb;injection hi with hi;subst hi;rw[eM hb];exact aG ..
   ·exact List.mem_cons_of_mem _ (ih hi)
 exact tok_of (List.all_eq_true.1 h _ this)
theorem IW{fn:Func}{c:Code}(hf:P.funcs[g]? =some fn)(hb:fn.body=some c)(hn:(fn.name== "runtime.NumGoroutine")=false):Jm P g:=
 ⟨fun args w=>by simp only[beq_eq_false_iff_ne]at hn;simp[callFunc,hf,hb,hn]⟩
theorem eA.mono{args:Array Value}{w:World}(h:eA P g args w R)(k:∀e w2,R e w2->R' e w2):eA P g args w R':=
 ⟨h.e,Calls.mono h.c k⟩
abbrev eE(B:Nat)(w w2:World):Prop:=RowKit.Below B w w2
theorem eE.refl{w:World}:eE B w w:=RowKit.Below.refl _ _
theorem Rel.cQ{H:Hp}{nx:Nat}{iv:Iv}{w w':World}(r:Rel H nx iv B w O w'):eE B w w':=
 ⟨r.os,r.tape,r.output,r.size,fun k hk=>r.ug k (by have:=r.base;omega) (fun id b h hn he=>by have:=(r.low id b h hn).1;omega)⟩
theorem eE.tr{a b c:World}(h:eE B a b)(k:eE B b c):eE B a c:=RowKit.Below.trans h k
theorem Ext.cQ{a b:World}(h:Ext a b)(hB:B<=a.heap.size):eE B a b:=RowKit.Below.mono h hB
end Go.Sx
namespace Go.RowKit
open Go Go.Sx
theorem Below.cQ{B:Nat}{a b:World}(h:RowKit.Below a.heap.size a b)(hB:B<=a.heap.size):RowKit.Below B a b:=RowKit.Below.mono h hB
end Go.RowKit
namespace Go.Sx
open Go
variable{args:(Nat->dx)->Array Value}{Φ:(Nat->dx)->World->Value->World->Prop}{H:Hp}{n:Int}{iv:Iv}{B nx:Nat}{O:Nat->dx}{P:Program}
theorem cH{w w2:World}{a:Addr}(h:w2.heap[a.block]? =w.heap[a.block]?):w2.cell? a=w.cell? a:=by
 unfold World.cell?;rw[h]
theorem eE.cell{w w2:World}(h:eE B w w2){a:Addr}(ha:a.block<B):w2.cell? a=w.cell? a:=cH (h.block _ ha)
def EN(l:Env):Env->Prop
 |[]=>True
 |(u,v)::r=>fX l u=some v∧EN l r
theorem EN.get{l:Env}:∀{t:Env},EN l t->∀u v,fX t u=some v->fX l u=some v
 |[],_,u,v,h=>by cases h
 |(u0,v0)::r,h,u,v,hg=>by
  rw[ee]at hg;split at hg
  ·rename_i e;subst e;injection hg with hg;subst hg;exact h.1
  ·exact EN.get h.2 u v hg
def j8(n:Nat):Env->Prop
 |[]=>True
 |(_,v)::r=>v.sc n∧j8 n r
theorem j8.get{n:Nat}:∀{t:Env},j8 n t->∀u v,fX t u=some v->v.sc n
 |[],_,u,v,h=>by cases h
 |(u0,v0)::r,h,u,v,hg=>by
  rw[ee]at hg;split at hg
  ·injection hg with hg;subst hg;exact h.1
  ·exact j8.get h.2 u v hg
theorem Rel.aAk{w w':World}(r:Rel H nx iv B w O w'):Rel H nx [] B w O w':=
 Rel.mk' r.os r.tape r.output r.size r.base (by simp) r.keys (fun id b h=>r.fits h) (fun id b h=>r.scopd h) r.inj r.low r.ug (by simp)
theorem Sub.reset{l tl:Env}{w w':World}(r:Rel H nx iv B w O w')(h1:EN l tl)(h2:j8 nx tl):Sub B l nx O w' ⟨tl,H,nx,[],w'⟩:=
 ⟨O,r.here.aAk,fun u v hv=>⟨h2.get u v hv,v,h1.get u v hv,rfl⟩⟩
def eF(w:World)(Φ:Value->World->Prop)(e:Ending)(w2:World):Prop:=∃v,e= .returned v∧Ext w w2∧Φ v w2
theorem cO{g:Nat}{w:World}{K:SV->Hp->Iv->World->Prop}
  (h:∀O w',Rel H nx iv B w O w'->eA P g (args O) w' (eF w' (Φ O w'))) (hK:∀O w' v w2,Rel H nx iv B w O w'->Ext w' w2->eE B w w2->Φ O w' v w2->K (.o (.v v)) H ((w'.heap.size,w2.heap.size)::iv) w2):EM P B g args H nx iv w K:=
 ⟨fun O w' r=>(h O w' r).mono fun e w2 ⟨v,h1,h2,h3⟩=>⟨v,h1,h2,hK O w' v w2 r h2 (r.cQ.tr (h2.cQ (by have:=r.base;have:=r.size;omega))) h3⟩⟩
theorem cE{g:Nat}{w w0:World}{K:SV->Hp->Iv->World->Prop}(hw:eE B w0 w)(Φ:(Nat->dx)->World->Value->World->Prop)
  (h:∀O w',Rel H nx iv B w O w'->eA P g (args O) w' (eF w' (Φ O w'))) (hK:∀O w' v w2 iv',Rel H nx iv B w O w'->Ext w' w2->eE B w0 w2->iv'=(w'.heap.size,w2.heap.size)::iv->Φ O w' v w2->K (.o (.v v)) H iv' w2):EM P B g args H nx iv w K:=
 cO h fun O w' v w2 r h1 h2 h3=>hK O w' v w2 _ r h1 (hw.tr h2) rfl h3
theorem mC{a:Nat×Nat}{iv':Iv}(h:iv'=a::iv):∀p,p∈iv->p∈iv':=h▸fun _ h=>List.mem_cons_of_mem _ h
theorem mN{a:Nat×Nat}{iv':Iv}(h:iv'=a::iv):a∈iv':=h▸aG
theorem wrap64(h1: -9223372036854775808<=n)(h2:n<=9223372036854775807):IntKind.wrap .i64 n=n:=by
 have e1:(2:Int)^64=18446744073709551616:=by decide
 have e2:(2:Int)^(64-1)=9223372036854775808:=by decide
 simp only[IntKind.wrap,IntKind.bits,IntKind.signed,e1,e2]
 by_cases h:n % 18446744073709551616≥9223372036854775808
 ·rw[if_pos (by simp[h])];omega
 ·rw[aJ (by simp[h])];omega
theorem wo{r:Int}(h:(-9223372036854775808<=n∧n<=9223372036854775807)∧n=r:=by omega):IntKind.wrap .i64 n=r:=by rw[wrap64 h.1.1 h.1.2];exact h.2
theorem yE(h1:0<=n)(h2:n<18446744073709551616):IntKind.wrap .u64 n=n:=by
 have e1:(2:Int)^64=18446744073709551616:=by decide
 simp only[IntKind.wrap,IntKind.bits,IntKind.signed,e1,Bool.false_and,Bool.false_eq_true,if_false]
 omega
theorem yF(h1:0<=n)(h2:n<4294967296):IntKind.wrap .u32 n=n:=by
 have e1:(2:Int)^32=4294967296:=by decide
 simp only[IntKind.wrap,IntKind.bits,IntKind.signed,e1,Bool.false_and,Bool.false_eq_true,if_false]
 omega
end Go.Sx
namespace Go.Sx
open Go
variable{args:(Nat->dx)->Array Value}{Φ:(Nat->dx)->World->Value->World->Prop}{next:Act->World->Prop}{after:Array Edge}{es:Array MapEntry}{ag ag':Bool}{Q:Exit->Act->World->Prop}{tH:Hp}{m:Int}{ik ik' k:IntKind}{K:KT}{fs fs':List (Nat×Nat)}{cs cs2 ks xs ze:List Value}{B bt clock g id r sz t tag' ty:Nat}{O:Nat->dx}{i y:Operand}{guard:Option (Nat×Bool)}{row:Option Nat}{dst:Option Tmp}{pos:String}{key z:Value}{KS:Value->Prop}
section
variable{P:Program}{τ:mz}{B nx:Nat}{l:Env}{H:Hp}{iv:Iv}{w w' w2:World}{O:Nat->dx}
theorem Rel.EO{OG:Iv}(r:Rel H nx iv B w O w')(Oy:w'.heap.size<=w2.heap.size)(SN:∀id b,dF H id=some b->(O id).nil=false->w2.heap[(O id).g]? =w'.heap[(O id).g]?)
  (Tj:∀lo hi,(lo,hi)∈OG->hi<=w2.heap.size∧∀id b,dF H id=some b->(O id).nil=false->¬(lo<=(O id).g∧(O id).g<hi)):Rel H nx OG B w2 O w2:=
 Rel.mk' rfl rfl rfl (aF _) (by have:=r.base;have:=r.size;omega) (fun lo hi h=>(Tj lo hi h).1) r.keys
  (fun id b h=>jm.iP (r.fits h) (fun _ _=>rfl) (r.scopd h) (fun hn _=>SN id b h hn)) (fun id b h=>r.scopd h) r.inj
  (fun id b h hn=>by have:=r.low id b h hn;omega) (fun _ _ _=>rfl) (fun lo hi h=>(Tj lo hi h).2)
theorem yd(hτ:fQ P τ){Bc:Nat}(hBc:Bc<=B){x:Operand}{e by_ k m:Nat}{ze':List Value}{sz0 e' al al':Nat}
  {v:Value} {vy:SV} {news:List Value} {K:SV->Hp->Nat->Iv->World->Prop}
  (ht:τ t=some ⟨sz0,ag,bt,ze,4,ik,e,al,fs⟩) (PK:τ e=some ⟨sz,ag',by_,ze',tag',ik',e',al',fs'⟩) (Ol:0<sz) (hx:ev l x=some (.o (.v v))) (hy:ev l y=some vy)
  (SB:∀O w',Rel H nx iv B w O w'->w'.ownsRow Bc e sz v m xs∧∀g,v.ownBlock=some g->∀id b,dF H id=some b->(O id).nil=false->(O id).g≠g)
  (RI:news.length=k*sz) (hn1:∀u∈news,u.oneCell'=true) (QO:m+k<=maxLen) (hb:(m+k)*by_<=140737488355328)
  (src:∀O w',Rel H nx iv B w O w'->(∃c,vy.den O= .slice none 0 c∧k=0)∨∃ad c,vy.den O= .slice (some ad) k c∧∀(j:Nat) u,news[j]? =some u->w'.cell? (ad.add j)=some u)
  (OG:Value->World->Iv)
  (Tj:∀O w' v' w2,Rel H nx iv B w O w'->w'.heap.size<=w2.heap.size->(∀g,v'.ownBlock=some g->g<w2.heap.size∧(v.ownBlock=some g∨g=w'.heap.size))->∀lo hi,(lo,hi)∈OG v' w2->hi<=w2.heap.size∧∀id b,dF H id=some b->(O id).nil=false->¬(lo<=(O id).g∧(O id).g<hi))
  (hK:∀O w' v' w2,Rel H nx iv B w O w'->w2.ownsRow Bc e sz v' (m+k) (xs++news)->w'.grownBy w2 v.ownBlock->(v'.ownBlock=v.ownBlock∨v'.ownBlock=some w'.heap.size)->K (.o (.v v')) H nx (OG v' w2) w2):
  ye P B ⟨dst,.call ⟨.builtin .append,⟨[x,y]⟩,⟨[t,t]⟩⟩,ty,pos,after,guard⟩ l H nx iv w K:=by
 refine⟨fun O w' ev' r Qa=>?_⟩;have hto:=hτ t _ ht;have hu:=hto.i4 rfl;simp only at hu;have R9:=hτ e _ PK;obtain⟨inf,z,hi,Oy,PN,hz,RJ⟩:=R9.info;have R0:=R9.IX;simp only at Oy PN RJ R0;have hzs:z.cells.size=sz:=by rw[<-R0,<-RJ];simp
 obtain⟨OE,OD⟩:=SB O w' r;have key:∃v' w2,(Builtin.append_ #[t,t] ty #[v,vy.den O]).run P w'= .ok v' w2∧w2.ownsRow Bc e sz v' (m+k) (xs++news)∧w'.grownBy w2 v.ownBlock∧(v'.ownBlock=v.ownBlock∨v'.ownBlock=some w'.heap.size):=by
  rcases src O w' r with⟨c,hv,rfl⟩|⟨ad,c,hv,Ou⟩
  ·have:news=[]:=List.eq_nil_of_length_eq_zero (by simpa using RI);subst this;rw[hv];exact⟨v,w',lJ w' Bc t ty e inf sz hu hi v m xs OE c,by simpa using OE,⟨rfl,rfl,rfl,aF _,fun _ _ _=>rfl⟩,.inl rfl⟩
  ·rw[hv];obtain⟨v',w2,h1,h2,h3,_,h5⟩:=run_append_own_at (P:=P) w' Bc t ty e inf z sz by_ hu hi hz Oy PN hzs Ol v m xs OE ad k c news RI Ou hn1 QO hb (by have:=r.base;have:=r.size;omega);exact⟨v',w2,h1,h2,h3,h5⟩
 obtain⟨v',w2,h1,h2,h3,h4⟩:=key;have e1:=Qa x _ hx;have e2:=Qa y _ hy;have Qt:∀g,v'.ownBlock=some g->g<w2.heap.size∧(v.ownBlock=some g∨g=w'.heap.size):=fun g hg=>by
  refine⟨?_,?_⟩
  ·rcases h2.2 with⟨rfl,_⟩|⟨g',cap,cur,rfl,_,hc,_⟩
   ·cases hg
   ·simp only[Value.ownBlock,Option.some.injEq]at hg;subst hg;exact(ai.1 hc).1
  ·rcases h4 with h4|h4
   ·exact .inl (h4▸hg)
   ·rw[h4]at hg;injection hg with hg;exact .inr hg.symm
 refine⟨v',w2,OG v' w2,.inl ?_,r.EO h3.size (fun id b h hn=>h3.block _ (r.low id b h hn).2 (fun e=>OD _ e.symm id b h hn rfl)) (Tj O w' v' w2 r h3.size Qt),hK O w' v' w2 r h2 h3 h4⟩;have e1:ev' x=v:=e1;generalize vy.den O=yy at*
 simp[execOp,resolve,invoke,builtin,e1,e2,h1]
theorem eE.grown{B0:Nat}(h:w'.grownBy w2 row)(hr:∀g,row=some g->B0<=g)(hB:B0<=w'.heap.size):eE B0 w' w2:=
 ⟨h.os,h.tape,h.output,h.size,fun k hk=>h.block k (by omega) (fun e=>by have:=hr k e.symm;omega)⟩
theorem ownsRow.low{e m:Nat}{v:Value}(h:w.ownsRow B e sz v m xs):∀g,v.ownBlock=some g->B<=g∧g<w.heap.size:=by
 intro g hg;rcases h.2 with⟨rfl,_⟩|⟨g',cap,cur,rfl,hb,hc,_⟩
 ·cases hg
 ·simp only[Value.ownBlock,Option.some.injEq]at hg;subst hg;exact⟨hb,(ai.1 hc).1⟩
theorem ownsRow.cJ{e m:Nat}{v:Value}(h:w.ownsRow B e sz v m xs)(hk:∀g,v.ownBlock=some g->w2.heap[g]? =w.heap[g]?):w2.ownsRow B e sz v m xs:=by
 refine⟨h.1,?_⟩;rcases h.2 with h1|⟨g',cap,cur,rfl,hb,hc,h2⟩
 ·exact .inl h1
 ·exact .inr ⟨g',cap,cur,rfl,hb,by rw[hk g' rfl];exact hc,h2⟩
end
def At.EA(f:Nat->Nat):At->At
 | .v x=>.v x
 | .p id off=>.p (f id) off
 | .s id off len cap=>.s (f id) off len cap
 | .w id len=>.w (f id) len
 | .fn g caps=>.fn g (caps.map f)
def SV.EA(f:Nat->Nat):SV->SV
 | .o x=>.o (x.EA f)
 | .a cs=>.a (cs.map (At.EA f))
def jm.EA(f:Nat->Nat):jm->jm
 | .box t cs=>.box t (cs.map (At.EA f))
 | .arr t cs=>.arr t cs
 | .vec t size cs=>.vec t size cs
 | .dead=>.dead
theorem At.tG(f:Nat->Nat)(O:Nat->dx)(x:At):(x.EA f).den O=x.den (fun i=>O (f i)):=by
 cases x<;>simp[At.EA,At.den]
theorem SV.tG(f:Nat->Nat)(O:Nat->dx)(x:SV):(x.EA f).den O=x.den (fun i=>O (f i)):=by
 cases x with
 |o x=>exact At.tG f O x
 |a cs=>
  have:At.den O ∘ At.EA f=At.den (fun i=>O (f i)):=funext fun x=>At.tG f O x;simp[SV.EA,SV.den,this]
def yf:List (Nat×Nat)->Nat->Nat
 |[],n=>n
 |(a,b)::r,n=>match Nat.beq a n with
  |true=>b
  |false=>yf r n
def Bb(f:Nat->Nat)(l:Env):Env->Prop
 |[]=>True
 |(u,v)::r=>fX l u=some (v.EA f)∧Bb f l r
def Bd(f:Nat->Nat)(H:Hp):Hp->Prop
 |[]=>True
 |(u,b)::r=>dF H (f u)=some (b.EA f)∧Bd f H r
def Nb(n:Nat):Hp->Prop
 |[]=>True
 |(u,b)::r=>(u<n∧b.scopd n)∧Nb n r
def Jn(f:Nat->Nat):Hp->Bool
 |[]=>true
 |(u,_)::r=>r.all (fun p=>Nat.beq p.1 u|| !Nat.beq (f p.1) (f u))&&Jn f r
theorem Bb.get{f:Nat->Nat}{l:Env}:∀{t:Env},Bb f l t->∀u v,fX t u=some v->fX l u=some (v.EA f)
 |[],_,u,v,h=>by cases h
 |(u0,v0)::r,h,u,v,hg=>by
  rw[ee]at hg;split at hg
  ·rename_i e;subst e;injection hg with hg;subst hg;exact h.1
  ·exact Bb.get h.2 u v hg
theorem Bd.get{f:Nat->Nat}{l:Hp}:∀{t:Hp},Bd f l t->∀u v,dF t u=some v->dF l (f u)=some (v.EA f)
 |[],_,u,v,h=>by cases h
 |(u0,v0)::r,h,u,v,hg=>by
  rw[dJ]at hg;split at hg
  ·rename_i e;subst e;injection hg with hg;subst hg;exact h.1
  ·exact Bd.get h.2 u v hg
theorem Nb.get{n:Nat}:∀{t:Hp},Nb n t->∀u b,dF t u=some b->u<n∧b.scopd n
 |[],_,u,v,h=>by cases h
 |(u0,v0)::r,h,u,v,hg=>by
  rw[dJ]at hg;split at hg
  ·rename_i e;subst e;injection hg with hg;subst hg;exact h.1
  ·exact Nb.get h.2 u v hg
theorem EP:∀{t:Hp} {u:Nat} {b:jm},dF t u=some b->∃p∈t,p.1=u
 |[],u,b,h=>by cases h
 |(u0,v0)::r,u,b,h=>by
  rw[dJ]at h;split at h
  ·rename_i e;exact⟨_,aG ..,e⟩
  ·obtain⟨p,h1,h2⟩:=EP h;exact⟨p,List.mem_cons_of_mem _ h1,h2⟩
theorem Be{f:Nat->Nat}:∀{t:Hp},Jn f t=true->∀u v b c,dF t u=some b->dF t v=some c->f u=f v->u=v
 |[],_,u,v,b,c,h,_,_=>by cases h
 |(u0,v0)::r,hi,u,v,b,c,hu,hv,he=>by
  simp only[Jn,a9]at hi;have key:∀{w:Nat} {d:jm},dF r w=some d->f w=f u0->w=u0:=fun{w d} hw hf=>by
   obtain⟨p,hp,rfl⟩:=EP hw;have:=List.all_eq_true.1 hi.1 p hp;simp only[Bool.or_eq_true,Bool.not_eq_true']at this;rcases this with h|h
   ·exact eM h
   ·rw[hf,Nat.beq_refl]at h;cases h
  rw[dJ]at hu hv;split at hu<;>split at hv
  ·rename_i x y;rw[<-x,<-y]
  ·rename_i x y;subst x;exact(key hv he.symm).symm
  ·rename_i x y;subst y;exact key hu he
  ·exact Be hi.2 u v b c hu hv he
theorem Sub.gen{l tl:Env}{nx OI:Nat}{H:Hp}{iv iv':Iv}{w w':World}(m:List (Nat×Nat))(r:Rel H nx iv B w O w')
  (hH:Bd (yf m) H tH) (hE:Bb (yf m) l tl) (hsH:Nb OI tH) (hsE:j8 OI tl) (hi:Jn (yf m) tH=true) (Tj:∀lo hi,(lo,hi)∈iv'->(lo,hi)∈iv):Sub B l nx O w' ⟨tl,tH,OI,iv',w'⟩:=by
 refine⟨fun i=>O (yf m i),(?_:Rel tH OI iv' B w' (fun i=>O (yf m i)) w'),fun u v hv=>⟨hsE.get u v hv,_,hE.get u v hv,SV.tG _ _ _⟩⟩;refine Rel.mk' rfl rfl rfl (aF _) (by have:=r.base;have:=r.size;omega) (fun lo hi h=>by have:=r.rM lo hi (Tj lo hi h);have:=r.size;omega) (fun id b h=>(hsH.get id b h).1) ?_ (fun id b h=>(hsH.get id b h).2) ?_ ?_ (fun _ _ _=>rfl) ?_
 ·intro id b h;have h1:=r.fits (hH.get id b h);have hr:At.den O ∘ At.EA (yf m)=At.den (fun i=>O (yf m i)):=funext fun x=>At.tG _ O x
  cases b with
  |box t cs=>simpa [jm.EA,jm.fits,hr]using h1
  |arr t cs=>exact h1
  |vec t size cs=>exact h1
  |dead=>trivial
 ·intro id id' b b' h h' hd Va hn hn' he;refine Be hi id id' b b' h h' (r.inj _ _ _ _ (hH.get id b h) (hH.get id' b' h') ?_ ?_ hn hn' he)
  ·cases b<;>first|(exact absurd rfl hd)|simp[jm.EA]
  ·cases b'<;>first|(exact absurd rfl Va)|simp[jm.EA]
 ·intro id b h hn;exact r.low _ _ (hH.get id b h) hn
 ·intro lo S8 h id b hb hn;exact r.kk lo S8 (Tj lo S8 h) _ _ (hH.get id b hb) hn
theorem Sub.gn{l tl:Env}{nx OI:Nat}{H:Hp}{iv iv':Iv}{w w':World}(m:List (Nat×Nat))(r:Rel H nx iv B w O w')
  (hH:Bd (yf m) H tH:=by repeat' first|exact trivial|refine⟨rfl,?_⟩) (hE:Bb (yf m) l tl:=by repeat' first|exact trivial|refine⟨rfl,?_⟩) (hsH:Nb OI tH:=by simp[Nb,jm.scopd,At.sc]) (hsE:j8 OI tl:=by simp[j8,SV.sc,At.sc,fa]) (hi:Jn (yf m) tH=true:=by rfl) (Tj:∀lo hi,(lo,hi)∈iv'->(lo,hi)∈iv:=by first|exact fun _ _ h=>h|simp):Sub B l nx O w' ⟨tl,tH,OI,iv',w'⟩:=Sub.gen m r hH hE hsH hsE hi Tj
def uj(H:Hp):Hp->Prop
 |[]=>True
 |(u,b)::r=>dF H u=some b∧uj H r
def EB(id:Nat):Hp->Bool
 |[]=>true
 |(_,.dead)::_=>false
 |(u,_)::r=> !Nat.beq u id&&EB id r
theorem uj.get{H:Hp}:∀{t:Hp},uj H t->∀{u b},dF t u=some b->dF H u=some b
 |[],_,u,b,h=>by cases h
 |(v,c)::r,hs,u,b,h=>by
  unfold dF at h;split at h
  ·rename_i e;injection h with h;subst h;have:=bQ e;subst this;exact hs.1
  ·exact uj.get hs.2 h
theorem EB.get{id:Nat}:∀{t:Hp},EB id t=true->∀{u b},dF t u=some b->u≠id∧b≠ .dead
 |[],_,u,b,h=>by cases h
 |(v,c)::r,hs,u,b,h=>by
  unfold dF at h;split at h
  ·rename_i e;injection h with h;subst h;have:=bQ e;subst this;have hv:v.beq id=false->v≠id:=fun h e=>by rw[e,Nat.beq_refl]at h;cases h
   cases c<;>simp_all [EB]
  ·refine EB.get (t:=r) ?_ h
   cases c<;>simp_all [EB]
section
variable{P:Program}{B nx:Nat}{H H':Hp}{iv:Iv}{w w' w2:World}{O:Nat->dx}
theorem Rel.free{b:jm}(r:Rel H nx iv B w O w')(Om:dF H id=some b)(hd:b≠ .dead)(hn:(O id).nil=false)(hs:uj H H')(ho:EB id H'=true):Rel H' nx (((O id).g,(O id).g+1)::iv) B w' O w':=by
 have h1:Rel H' nx iv B w' O w':=Rel.mk' rfl rfl rfl (aF _) (by have:=r.base;have:=r.size;omega) (fun lo hi hm=>by have:=r.rM lo hi hm;have:=r.size;omega) (fun j c h=>r.keys j c (hs.get h))
  (fun j c h=>r.fits (hs.get h)) (fun j c h=>r.scopd (hs.get h)) (fun j k c e h h'=>r.inj j k c e (hs.get h) (hs.get h')) (fun j c h=>r.low j c (hs.get h)) (fun _ _ _=>rfl) (fun lo hi hm j c h=>r.kk lo hi hm j c (hs.get h))
 refine h1.more (by have:=(r.low id b Om hn).2;omega) fun j c hj hnj he=>?_;obtain⟨h2,h3⟩:=EB.get ho hj;exact h2 (r.inj j id c b (hs.get hj) Om h3 hd hnj hn (by omega))
theorem gf{K:SV->Hp->Iv->World->Prop}(id:Nat){b:jm}(Om:dF H id=some b)(hd:b≠ .dead)(hs:uj H H')(ho:EB id H'=true)
  (hn:∀O w',Rel H nx iv B w O w'->(O id).nil=false)
  (hc:∀O w',Rel H nx iv B w O w'->eA P g (args O) w' (eF w' (Φ O w')))
  (h:∀O w' v w2,Rel H nx iv B w O w'->Ext w' w2->eE B w w2->Φ O w' v w2->K (.o (.v v)) H' (((O id).g,(O id).g+1)::(w'.heap.size,w2.heap.size)::iv) w2):ER P B g args H nx iv w K:=
 ⟨fun O w' r=>⟨(hc O w' r).e,Calls.mono (hc O w' r).c fun e w2 he=>by
  obtain⟨v,h1,h2,h3⟩:=he;have r2:Rel H nx ((w'.heap.size,w2.heap.size)::iv) B w2 O w2:=(r.ext h2).here.more (aF _) (fun j c hj hn=>by have:=(r.low j c hj hn).2;omega)
  exact⟨v,H',_,h1,r2.free Om hd (hn O w' r) hs ho,h O w' v w2 r h2 (r.cQ.tr (h2.cQ (by have:=r.base;have:=r.size;omega))) h3⟩⟩⟩
end
inductive Tr where
 |nil
 |one (i:Nat) (t:Tr)
 |two (i:Nat) (t:Tr) (j:Nat) (u:Tr)
def Tr.depth:Tr->Nat
 | .nil=>0
 | .one _ t=>t.depth+1
 | .two _ t _ u=>max t.depth u.depth+1
def wQ(ops:Array Oper):Tr->Array Bool->Bool
 | .nil,la=>(Region.ready .any ops la).isEmpty
 | .one i t,la=>match Region.ready .any ops la with
  |[x]=>Nat.beq x i&&wQ ops t (la.setIfInBounds i true)
  |_=>false
 | .two i t j u,la=>match Region.ready .any ops la with
  |[x,y]=>Nat.beq x i&&(Nat.beq y j&&(wQ ops t (la.setIfInBounds i true)&&wQ ops u (la.setIfInBounds j true)))
  |_=>false
def Jo(P:Program)(τ:mz)(B:Nat)(all:List Oper):Tr->Env->Hp->Nat->Iv->World->KT->Prop
 | .nil,l,H,nx,iv,w,K=>K l H nx iv w
 | .one i t,l,H,nx,iv,w,K=>nh all i (fun o=>fh false P τ B all o l H nx iv w (fun l' H' OI iv' w'=>Jo P τ B all t l' H' OI iv' w' K))
 | .two i t j u,l,H,nx,iv,w,K=>nh all i (fun o=>fh false P τ B all o l H nx iv w (fun l' H' OI iv' w'=>Jo P τ B all t l' H' OI iv' w' K))∧
   nh all j (fun o=>fh false P τ B all o l H nx iv w (fun l' H' OI iv' w'=>Jo P τ B all u l' H' OI iv' w' K))
section
variable{P:Program}{τ:mz}{ops:Array Oper}{B n nx:Nat}{l:Env}{H:Hp}{iv:Iv}{w w':World}{O:Nat->dx}{a:Act}
theorem Cn(hτ:fQ P τ)(OF:∀(j:Nat) o,ops[j]? =some o->∀d,o.dst=some d->d<n){i:Nat}
  (h:nh ops.toList i (fun o=>fh false P τ B ops.toList o l H nx iv w K)) (sat:Sat n l H nx iv B w O a w')
  (hn:∀l' H' OI iv' w2 ρ' a' w3,K l' H' OI iv' w2->Sat n l' H' OI iv' B w2 ρ' a' w3->next a' w3):wpOp P ops Q i next a w':=by
 obtain⟨o,ho,h1⟩:=gE h;rw[bA]at ho;have hd:=OF i o ho;unfold fh at h1;refine mH ho ?_;rcases iu sat h1 with⟨hw,l1,h2,sat1⟩|⟨hw,l1,h2,sat1⟩
 ·refine .inl ⟨hw,lI hτ h2 sat1 fun v H' OI iv' w2 ρ' w3 h3 sat2 hv=>?_⟩;obtain⟨l2,h4,sat3⟩:=fC sat2 h3 hd hv;exact hn _ _ _ _ _ _ _ _ h4 sat3
 ·obtain⟨l2,h4,sat3⟩:=fC sat1 h2 hd trivial;exact .inr ⟨hw,hn _ _ _ _ _ _ _ _ h4 sat3⟩
theorem tI(hτ:fQ P τ)(OF:∀(j:Nat) o,ops[j]? =some o->∀d,o.dst=some d->d<n){K:KT}{Q:Exit->Act->World->Prop}
  (hQ:∀l' H' OI iv' w2 ρ' a' w3,K l' H' OI iv' w2->Sat n l' H' OI iv' B w2 ρ' a' w3->Q .normal a' w3):
  ∀(t:Tr) (fuel:Nat) (la:Array Bool) (l:Env) (H:Hp) (nx:Nat) (iv:Iv) (w:World) (O:Nat->dx) (a:Act) (w':World),t.depth<=fuel->wQ ops t la=true->Jo P τ B ops.toList t l H nx iv w K->Sat n l H nx iv B w O a w'->wpAny P .any ops Q fuel la a w'
 | .nil,fuel,la,l,H,nx,iv,w,O,a,w',_,hc,h,s=>by
  simp only[wQ,List.isEmpty_iff]at hc;have hq:=hQ _ _ _ _ _ _ _ _ h s
  cases fuel with
  |zero=>exact⟨hc,hq⟩
  |succ fuel=>exact⟨fun _=>hq,fun i hi=>by rw[hc]at hi;cases hi⟩
 | .one i t,fuel,la,l,H,nx,iv,w,O,a,w',hf,hc,h,s=>by
  simp only[Tr.depth]at hf;obtain⟨fuel,rfl⟩:∃q,fuel=q+1:=⟨fuel-1,by omega⟩
  simp only[wQ]at hc;split at hc
  ·rename_i x hr;simp only[a9]at hc;have hx:=bQ hc.1;subst hx;refine⟨fun h0=>(by rw[hr]at h0;cases h0),fun j hj=>?_⟩;rw[hr,bB]at hj;subst hj;exact Cn hτ OF h s fun _ _ _ _ _ _ _ _ hk hs=>tI hτ OF hQ t fuel _ _ _ _ _ _ _ _ _ (by omega) hc.2 hk hs
  ·cases hc
 | .two i t k u,fuel,la,l,H,nx,iv,w,O,a,w',hf,hc,h,s=>by
  simp only[Tr.depth]at hf;obtain⟨fuel,rfl⟩:∃q,fuel=q+1:=⟨fuel-1,by omega⟩
  simp only[wQ]at hc;split at hc
  ·rename_i x y hr;simp only[a9]at hc;obtain⟨c1,c2,c3,c4⟩:=hc;have hx:=bQ c1;have hy:=bQ c2;subst hx;subst hy;obtain⟨h1,h2⟩:=h;refine⟨fun h0=>(by rw[hr]at h0;cases h0),fun j hj=>?_⟩;rw[hr,List.mem_cons,bB]at hj;rcases hj with rfl|rfl
   ·exact Cn hτ OF h1 s fun _ _ _ _ _ _ _ _ hk hs=>tI hτ OF hQ t fuel _ _ _ _ _ _ _ _ _ (by omega) c3 hk hs
   ·exact Cn hτ OF h2 s fun _ _ _ _ _ _ _ _ hk hs=>tI hτ OF hQ u fuel _ _ _ _ _ _ _ _ _ (by omega) c4 hk hs
  ·cases hc
theorem iX(hτ:fQ P τ)(hm:P.follows .mixedOrders=true)(t:Tr)(hc:(Nat.ble t.depth ops.size&&wQ ops t (Array.replicate ops.size false))=true)
  (h:Jo P τ B ops.toList t l H nx iv w K):ui P B ops l H nx iv w K:=by
 simp only[a9]at hc;refine⟨fun n O a w' OF sat Q hQ id=>?_⟩;refine wp_region_any hm (tI hτ (fun j o ho d hd=>?_) hQ t _ _ _ _ _ _ _ O _ _ (Nat.le_of_ble_eq_true hc.1) hc.2 h ⟨sat.rel.drew,sat.size,sat.defers,sat.env,sat.sc⟩);have:=List.all_eq_true.1 OF o (aC (by rw[bA];exact ho));rw[hd]at this;have h5:d+1<=n:=by simpa [Nat.blt]using this
 exact h5
end
section
variable{P:Program}{τ:mz}{B n nx:Nat}{l:Env}{H:Hp}{iv:Iv}{w w':World}{O:Nat->dx}{a:Act}
theorem qh{x:Operand}{K:SV->Hp->Nat->Iv->World->Prop}{s:ByteArray}{b:UInt8}
  (hu:P.underlying t=some .string) (hx:ev l x=some (.o (.v (.string s)))) (hi:ev l i=some (.o (.v (.int k m)))) (hm:0<=m) (hb:s[m.toNat]? =some b)
  (hK:∀O w',Rel H nx iv B w O w'->K (.o (.v (.int .u8 b.toNat))) H nx iv w'):ye P B ⟨dst,.index t x i,ty,pos,after,guard⟩ l H nx iv w K:=by
 refine⟨fun O w' ev' r Qa=>⟨.int .u8 b.toNat,w',iv,.inl ?_,r.here,hK O w' r⟩⟩;have e1:ev' x= .string s:=Qa x _ hx;have e2:ev' i= .int k m:=Qa i _ hi;simp[execOp,e1,e2,Instr.index,asIntOf,run_underlying hu,hm,hb]
theorem nE(w:World)(t e:TypeId)(a:Option Addr)(n c n' c':Nat)(h:P.underlying t=some (.slice e)):
  (binOp .eql t (.slice a n c) (.slice none n' c')).run P w= .ok (.bool a.isNone) w:=by
 have:∀d,(Op.equalIn (d+1) t (.slice a n c) (.slice none n' c')).run P w= .ok a.isNone w:=fun d=>by cases a<;>simp[Op.equalIn,run_underlying h]
 simp only[binOp]
 simp[Op.equal,Op.maxDepth,this 9999]
theorem ja(w:World)(g:Nat)(cs:Array Value):w.grownBy (w.setRow g cs) (some g):=
 ⟨rfl,rfl,rfl,by simp,fun k _ OD=>setRow_other _ _ _ _ fun e=>OD (by rw[e])⟩
theorem Rel.yg{w2:World}(r:Rel H nx iv B w O w')(OD:∀id b,dF H id=some b->(O id).nil=false->(O id).g≠g)(h:w'.grownBy w2 (some g)):Rel H nx iv B w2 O w2:=
 r.EO h.size (fun id b hb hn=>h.block _ (r.low id b hb hn).2 fun e=>OD id b hb hn (Option.some.inj e)) fun lo hi hm=>⟨by have:=r.rM lo hi hm;have:=r.size;have:=h.size;omega,fun id b hb hn=>r.kk lo hi hm id b hb hn⟩
theorem BD(z:Value)(n:Nat):(Builtin.zeroCells #[z] n).toList=List.replicate n z:=by
 apply bK;intro i;simp only[Builtin.zeroCells,Array.toList_map,aM,Array.toList_range,List.getElem?_replicate]
 by_cases h:i<n
 ·simp[h,Nat.mod_one]
 ·simp[h]
theorem IY(hτ:fQ P τ){e by_ k off c tg:Nat}{x:Operand}{sz0 e' al al':Nat}
  {K:SV->Hp->Nat->Iv->World->Prop}
  (ht:τ t=some ⟨sz0,ag,bt,ze,4,ik,e,al,fs⟩) (PK:τ e=some ⟨1,ag',by_,[z],tag',ik',e',al',fs'⟩) (hx:ev l x=some (.o (.v (.slice (some ⟨g,off,none⟩) k c)))) (hk:k≠0)
  (hg:∀O w',Rel H nx iv B w O w'->w'.heap[g]? =some (.cells cs.toArray tg (0,0))∧∀id b,dF H id=some b->(O id).nil=false->(O id).g≠g) (Pb:off+k<=cs.length)
  (hK:∀O w' w2,Rel H nx iv B w O w'->w2.heap[g]? =some (.cells (cs.take off++List.replicate k z++cs.drop (off+k)).toArray tg (0,0))->w'.grownBy w2 (some g)->w2.heap.size=w'.heap.size->K (.o (.v (.tuple #[]))) H nx iv w2):
  ye P B ⟨dst,.call ⟨.builtin .clear,⟨[x]⟩,⟨[t]⟩⟩,ty,pos,after,guard⟩ l H nx iv w K:=by
 refine⟨fun O w' ev' r Qa=>?_⟩;have hu:=(hτ t _ ht).i4 rfl;simp only at hu;have R9:=hτ e _ PK;obtain⟨inf,zv,hi,Oy,PN,hz,RJ⟩:=R9.info;have hzo:=R9.aAl z (by simp);simp only at Oy RJ;have Ur:zv.cells= #[z]:=by apply Array.ext';simpa using RJ
 obtain⟨hc,OD⟩:=hg O w' r;have QX:=run_storeCells_at (P:=P) g off tg (List.replicate k z) 0 cs.toArray w' hc (by simpa using Pb) (fun v hv=>by rw[List.mem_replicate]at hv;rw[hv.2];exact hzo);have R0:=BD z k;have e1:ev' x= .slice (some ⟨g,off,none⟩) k c:=Qa x _ hx;simp only[bw,bG]at QX;refine⟨.tuple #[],_,iv,.inl ?_,r.yg OD (ja w' g _),hK O w' _ r (setRow_heap w' g cs.toArray _ tg _ hc) (ja _ _ _) (by simp)⟩;simp[execOp,resolve,invoke,builtin,e1,Builtin.clear_,run_underlying hu,zeroValue,typeInfo,hi,hz,Ur,R0,QX,hk]
theorem Jp(hτ:fQ P τ){e by_ k off c tg:Nat}{x:Operand}{sz0 e' al al':Nat}
  {ds:List Value} {vy:SV} {K:SV->Hp->Nat->Iv->World->Prop}
  (ht:τ t=some ⟨sz0,ag,bt,ze,4,ik,e,al,fs⟩) (PK:τ e=some ⟨1,ag',by_,[z],tag',ik',e',al',fs'⟩) (hx:ev l x=some (.o (.v (.slice (some ⟨g,off,none⟩) k c)))) (hy:ev l y=some vy)
  (hg:∀O w',Rel H nx iv B w O w'->w'.heap[g]? =some (.cells cs.toArray tg (0,0))∧∀id b,dF H id=some b->(O id).nil=false->(O id).g≠g)
  (src:∀O w',Rel H nx iv B w O w'->∃a m,vy.den O= .slice a ds.length m∧∀(j:Nat) u,ds[j]? =some u->∃ad,a=some ad∧w'.cell? (ad.add j)=some u)
  (hds:ds.length<=k) (Pb:off+ds.length<=cs.length) (h1:∀u∈ds,u.oneCell'=true)
  (hK:∀O w' w2,Rel H nx iv B w O w'->w2.heap[g]? =some (.cells (cs.take off++ds++cs.drop (off+ds.length)).toArray tg (0,0))->w'.grownBy w2 (some g)->w2.heap.size=w'.heap.size->K (.o (.v (goInt ds.length))) H nx iv w2):
  ye P B ⟨dst,.call ⟨.builtin .copy,⟨[x,y]⟩,⟨[t,t]⟩⟩,ty,pos,after,guard⟩ l H nx iv w K:=by
 refine⟨fun O w' ev' r Qa=>?_⟩;have hu:=(hτ t _ ht).i4 rfl;simp only at hu;have R9:=hτ e _ PK;obtain⟨inf,zv,hi,Oy,PN,hz,RJ⟩:=R9.info;simp only at Oy;obtain⟨hc,OD⟩:=hg O w' r;obtain⟨ay,m,hya,Ou⟩:=src O w' r;have e1:ev' x= .slice (some ⟨g,off,none⟩) k c:=Qa x _ hx;have e2:ev' y= .slice ay ds.length m:=by rw[<-hya];exact Qa y _ hy
 refine⟨goInt ds.length,w'.setRow g (cs.take off++ds++cs.drop (off+ds.length)).toArray,iv,.inl ?_,r.yg OD (ja w' g _),hK O w' _ r (setRow_heap w' g cs.toArray _ tg _ hc) (ja _ _ _) (by simp)⟩;have hmin:Nat.min ds.length k=ds.length:=Nat.min_eq_left hds;have OK:(Builtin.copy_ #[t,t] ty #[.slice (some ⟨g,off,none⟩) k c,.slice ay ds.length m]).run P w'= .ok (goInt ds.length) (w'.setRow g (cs.take off++ds++cs.drop (off+ds.length)).toArray):=by
  cases ay with
  |some ad=>
   have:=run_copy_row (P:=P) w' t t ty e g off k c ad ds.length m cs.toArray tg ds hu (by simp[hi,Oy]) hc (by rw[hmin]) (fun j v hv=>by
    obtain⟨ad',h2,h3⟩:=Ou j v hv;injection h2 with h2
    rw[h2];exact h3) (by simpa using Pb) h1
   simpa using this
  |none=>
   have hd:ds=[]:=by
    cases ds with
    |nil=>rfl
    |cons u r=>obtain⟨ad',h2,_⟩:=Ou 0 u rfl;cases h2
   subst hd;have Qs:=setRow_self w' g cs.toArray tg (0,0) hc;simp[Builtin.copy_,run_underlying hu,Builtin.lenOf,Builtin.firstCells,sizeOf,typeInfo,hi,storeCells,Qs]
 simp[execOp,resolve,invoke,builtin,e1,e2,OK]
end
section
variable{P:Program}{τ:mz}{B nx:Nat}{l:Env}{H:Hp}{iv:Iv}{w w':World}{O:Nat->dx}
end
section
variable{P:Program}{τ:mz}{B nx:Nat}{l:Env}{H:Hp}{iv:Iv}{w w':World}{O:Nat->dx}
end
theorem pR:∀(nv:List Value) (w:World) (b off:Nat) (cur:Array Value) (e:TypeId),w.heap[b]? =some (.cells cur e (0,0))->off+nv.length<=cur.size->
  (w.setCells b off nv).heap[b]? =some (.cells (cur.toList.take off++nv++cur.toList.drop (off+nv.length)).toArray e (0,0))
 |[],w,b,off,cur,e,h,_=>by simpa [World.setCells]using h
 |v::r,w,b,off,cur,e,h,hl=>by
  simp only[World.setCells]
  have Pz:off+(r.length+1)<=cur.size:=by simpa using hl
  have h1:(w.setCell ⟨b,off,none⟩ v).heap[b]? =some (.cells (cur.setIfInBounds off v) e (0,0)):=by
   simp[World.setCell,Array.getElem?_modify,h]
  rw[pR r _ b (off+1) _ e h1 (by simp;omega)];congr 3;have PU:cur.toList.length=cur.size:=by simp
  apply bK;intro i;have e1:(cur.setIfInBounds off v).toList=cur.toList.set off v:=by simp
  rw[e1];rcases bs i off with hi|hi|hi
  ·rw[bc,bc,aL (by simp;omega),aL (by simp;omega),bT (by omega),bT hi,aZ (by omega)]
  ·subst hi;rw[bc,bc,aL (by simp;omega),aN (by simp;omega),bT (by omega),aV (by simp;omega)];have:(List.take i cur.toList).length=i:=by rw[aW];omega
   rw[this,bI];rfl
  ·have l1:(List.take (off+1) (cur.toList.set off v)).length=off+1:=by rw[aW,bF];omega
   have l2:(List.take off cur.toList).length=off:=by rw[aW];omega
   have hd:List.drop (off+1+r.length) (cur.toList.set off v)=List.drop (off+(v::r).length) cur.toList:=by
    rw[List.drop_set_of_lt (by omega),List.length_cons];congr 1;omega
   obtain⟨k,rfl⟩:∃k,i=off+1+k:=⟨i-off-1,by omega⟩
   rw[bc,bc,hd];generalize List.drop (off+(v::r).length) cur.toList=tl;have A:(List.take (off+1) (cur.toList.set off v)++(r++tl))[off+1+k]? =(r++tl)[k]? :=by
    rw[aN (by omega),l1];congr 1;omega
   have B:(List.take off cur.toList++((v::r)++tl))[off+1+k]? =(r++tl)[k]? :=by
    rw[aN (by omega),l2,show off+1+k-off=k+1 by omega];rfl
   rw[A,B]
theorem pS:∀(nv:List Value) (w:World) (b off:Nat) {k:Nat},k≠b->(w.setCells b off nv).heap[k]? =w.heap[k]?
 |[],_,_,_,_,_=>rfl
 |v::r,w,b,off,k,hk=>by
  simp only[World.setCells]
  rw[pS r _ b (off+1) hk];simp[World.setCell,Array.getElem?_modify,Ne.symm hk]
theorem tJ:∀(vs:List Value) (w0:World) (b o:Nat),(w0.setCells b o vs).os=w0.os∧(w0.setCells b o vs).tape=w0.tape∧(w0.setCells b o vs).output=w0.output∧(w0.setCells b o vs).heap.size=w0.heap.size
 |[],_,_,_=>⟨rfl,rfl,rfl,rfl⟩
 |v::r,w0,b,o=>by
  simp only[World.setCells]
  obtain⟨h1,h2,h3,h4⟩:=tJ r (w0.setCell ⟨b,o,none⟩ v) b (o+1);exact⟨h1,h2,h3,by rw[h4];simp⟩
theorem pT{w:World}{Bc e n:Nat}{v:Value}{nv:List Value}{a:Option Addr}{c j:Nat}(h:w.ownsRow Bc e sz v n xs)(hv:v= .slice a n c)(hj:j<n)(TB:nv.length=sz)(hs:0<sz):
  ∃g,a=some ⟨g,0,none⟩∧(∀k,k<sz->(w.cell? (Addr.add ⟨g,j*sz,none⟩ k)).isSome=true∧w.frozen? (Addr.add ⟨g,j*sz,none⟩ k)=false)∧
   (setCells w ⟨g,j*sz,none⟩ nv).ownsRow Bc e sz v n (xs.take (j*sz)++nv++xs.drop (j*sz+sz))∧w.grownBy (setCells w ⟨g,j*sz,none⟩ nv) (some g)∧(setCells w ⟨g,j*sz,none⟩ nv).heap.size=w.heap.size:=by
 rcases h.2 with⟨_,h0⟩|⟨g,cap,cur,RK,hb,hg,Tk,Rk,On,Tz⟩
 ·omega
 rw[hv]at RK;injection RK with h1 h2 h3;subst h1 h3;have hjs:j*sz+sz<=n*sz:=by
  have:=Nat.mul_le_mul_right sz (show j+1<=n from hj);rw[Nat.add_mul,Nat.one_mul]at this;exact this
 have hns:n*sz<=c*sz:=Nat.mul_le_mul_right sz Tk;obtain⟨f1,f2,f3,f4⟩:=tJ nv w g (j*sz);have SO:=pR nv w g (j*sz) cur e hg (by omega);refine⟨g,rfl,fun k hk=>?_,?_,?_,?_⟩
 ·rw[dV];refine⟨?_,?_⟩
  ·rw[cell_of (g:=g) (cs:=cur.toList) (by simpa using hg),aB (by simp;omega)];rfl
  ·simp[World.frozen?,hg]
 ·rw[kM];refine⟨?_,.inr ⟨g,c,_,hv,hb,SO,Tk,Rk,?_,?_⟩⟩
  ·simp only[List.length_append,aW,List.length_drop,TB,h.1];omega
  ·simp only[List.size_toArray,List.length_append,aW,List.length_drop,TB,Array.length_toList];omega
  ·subst Tz;have PU:cur.toList.length=cur.size:=by simp
   have ha:List.drop (j*sz+sz) (List.take (n*sz) cur.toList)=(List.drop (j*sz+sz) cur.toList).take (n*sz-(j*sz+sz)):=by rw[List.drop_take]
   rw[ha,List.take_take,Nat.min_eq_left (by omega)];show List.take (n*sz) (_++nv++_)=_;rw[TB,List.take_append,List.take_of_length_le (by simp;omega)];congr 2;simp only[List.length_append,aW,TB]
   omega
 ·rw[kM];exact⟨f1,f2,f3,by rw[f4];exact aF _,fun k hk OD=>pS nv w g _ (fun e=>OD (by rw[e]))⟩
 ·rw[kM];exact f4
structure Js(P:Program)(kt:TypeId)(KS:Value->Prop):Prop where
 desc:∃fs,P.underlying kt=some (.struct fs)
 check:∀(w:World) (em:Bool) (v:Value),KS v->(Instr.checkKey em 10000 kt v).run P w= .ok () w
 eq:∀(w:World) (a b:Value),KS a->KS b->∃c,(Op.equal kt a b).run P w= .ok c w∧(c=true↔a=b)
def ES(w:World)(g:Nat)(ks:List Value):Prop:=∃es clock,w.heap[g]? =some (.map es clock)∧es.toList.map (·.key)=ks∧∀e∈es.toList,e.val= .bool true
section
variable{P:Program}{τ:mz}{B n nx:Nat}{l:Env}{H:Hp}{iv:Iv}{w w' w2:World}{O:Nat->dx}{a:Act}
theorem ES.cJ(h:ES w g ks)(hk:w2.heap[g]? =w.heap[g]?):ES w2 g ks:=by
 obtain⟨es,c,h1,h2⟩:=h;exact⟨es,c,by rw[hk];exact h1,h2⟩
theorem sH(hb:w.heap[r]? =some (.map es clock)):(getObj r).run P w= .ok (.map es clock) w:=by simp[getObj,Sem.run,hb]
theorem GR(o:Obj)(hb:w.heap[r]? =some (.map es clock)):(setObj r o).run P w= .ok () {w with heap:=w.heap.setIfInBounds r o}:=by simp[setObj,Sem.run,hb]
theorem ot{kt:TypeId}{KS:Value->Prop}(K:Js P kt KS){x:Value}(hx:KS x)(w:World):∀(es:List MapEntry) (i:Nat),(∀e∈es,KS e.key)->
  ((Instr.findAsking kt x es i).run P w= .ok none w∧∀e∈es,e.key≠x)∨∃j e,(Instr.findAsking kt x es i).run P w= .ok (some (j,e.val)) w∧e∈es∧e.key=x
 |[],i,_=>.inl ⟨rfl,fun e he=>by cases he⟩
 |e::es,i,h=>by
  obtain⟨c,hc,hiff⟩:=K.eq w x e.key hx (h e aG)
  cases c with
  |true=>exact .inr ⟨i,e,by simp[Instr.findAsking,hc],aG,(hiff.1 rfl).symm⟩
  |false=>
   have OD:e.key≠x:=fun he=>by have:=hiff.2 he.symm;cases this
   rcases ot K hx w es (i+1) (fun e he=>h e (List.mem_cons_of_mem _ he))with⟨h1,h2⟩|⟨j,e',h1,h2,h3⟩
   ·refine .inl ⟨by simp[Instr.findAsking,hc,h1],fun e' he=>?_⟩;rcases List.mem_cons.1 he with rfl|he
    ·exact OD
    ·exact h2 e' he
   ·exact .inr ⟨j,e',by simp[Instr.findAsking,hc,h1],List.mem_cons_of_mem _ h2,h3⟩
theorem tK{kt:TypeId}(K:Js P kt KS){x:Value}(hx:KS x)(w:World)(es:List MapEntry)(h:∀e∈es,KS e.key):
  ((Instr.findKey kt x es).run P w= .ok none w∧∀e∈es,e.key≠x)∨∃j e,(Instr.findKey kt x es).run P w= .ok (some (j,e.val)) w∧e∈es∧e.key=x:=by
 obtain⟨fs,OO⟩:=K.desc
 cases es with
 |nil=>exact .inl ⟨by simp[Instr.findKey,run_underlying OO,Instr.findNow],fun e he=>by cases he⟩
 |cons e es=>
  have hs:Instr.findNow (.struct fs) x (e::es) 0=none:=by
   unfold Instr.findNow
   cases x<;>cases e.key<;>rfl
  have:=ot K hx w (e::es) 0 h;rcases this with⟨h1,h2⟩|⟨j,e',h1,h2,h3⟩
  ·exact .inl ⟨by simp[Instr.findKey,run_underlying OO,hs,h1],h2⟩
  ·exact .inr ⟨j,e',by simp[Instr.findKey,run_underlying OO,hs,h1],h2,h3⟩
theorem wR{K:SV->Hp->Nat->Iv->World->Prop}
  (hK:∀O w' w2,Rel H nx iv B w O w'->ES w2 w'.heap.size []->w'.grownBy w2 none->w2.heap.size=w'.heap.size+1->K (.o (.v (.map (some w'.heap.size)))) H nx ((w'.heap.size,w'.heap.size+1)::iv) w2):
  ye P B ⟨dst,.makeMap t none,ty,pos,after,guard⟩ l H nx iv w K:=by
 refine⟨fun O w' ev' r Qa=>?_⟩;have hp:(w'.alloc (.map #[] 0)).heap=w'.heap.push (.map #[] 0):=rfl;have hg:w'.grownBy (w'.alloc (.map #[] 0)) none:=⟨rfl,rfl,rfl,by rw[hp,Array.size_push];omega,fun k hk _=>by rw[hp,Array.getElem?_push,aJ (Nat.ne_of_lt hk)]⟩
 have Oy:(w'.alloc (.map #[] 0)).heap.size=w'.heap.size+1:=by rw[hp,Array.size_push]
 refine⟨.map (some w'.heap.size),w'.alloc (.map #[] 0),(w'.heap.size,w'.heap.size+1)::iv,.inl ?_,r.EO (by omega) (fun id b hb hn=>hg.block _ (r.low id b hb hn).2 (by simp)) ?_,
  hK O w' _ r ⟨#[],0,by rw[hp];simp,rfl,by simp⟩ hg Oy⟩
 ·simp[execOp,Instr.makeMap]
 ·intro lo hi hm;rcases List.mem_cons.1 hm with e|hm
  ·injection e with e1 e2;subst e1 e2;exact⟨by omega,fun id b hb hn h=>by have:=(r.low id b hb hn).2;omega⟩
  ·exact⟨by have:=r.rM lo hi hm;have:=r.size;omega,fun id b hb hn=>r.kk lo hi hm id b hb hn⟩
theorem yh{kt et:Nat}{m x:Operand}{K:SV->Hp->Nat->Iv->World->Prop}(Q:Js P kt KS){vx:SV}
  (ht:P.underlying t=some (.map kt et)) (hz:∀w,(zeroValue et).run P w= .ok (.bool false) w) (hm:ev l m=some (.o (.v (.map (some g))))) (hx:ev l x=some vx) (TJ:∀O,vx.den O=key) (Us:KS key) (Ph:∀k∈ks,KS k)
  (hg:∀O w',Rel H nx iv B w O w'->ES w' g ks)
  (hK:∀O w' b,Rel H nx iv B w O w'->(b=true↔key∈ks)->K (.o (.v (.bool b))) H nx iv w'):
  ye P B ⟨dst,.lookup t m x false,ty,pos,after,guard⟩ l H nx iv w K:=by
 refine⟨fun O w' ev' r Qa=>?_⟩;obtain⟨es,clock,h1,h2,h3⟩:=hg O w' r;have e1:ev' m= .map (some g):=Qa m _ hm;have e2:ev' x=key:=by rw[Qa x _ hx,TJ]
 have hes:∀e∈es.toList,KS e.key:=fun e he=>Ph _ (by rw[<-h2];exact aU.2 ⟨e,he,rfl⟩);have hck:=Q.check w' es.isEmpty key Us;rcases tK Q Us w' es.toList hes with⟨f1,f2⟩|⟨j,e,f1,f2,f3⟩
 ·refine⟨.bool false,w',iv,.inl ?_,r.here,hK O w' false r ⟨(fun h=>by cases h),fun h=>?_⟩⟩
  ·simp[execOp,Instr.lookup,e1,e2,run_underlying ht,sH h1,hck,f1,hz]
  ·rw[<-h2]at h;obtain⟨e,he,hk⟩:=aU.1 h;exact absurd hk (f2 e he)
 ·refine⟨.bool true,w',iv,.inl ?_,r.here,hK O w' true r ⟨fun _=>by rw[<-h2];exact aU.2 ⟨e,f2,f3⟩,fun _=>rfl⟩⟩;have:=h3 e f2;simp[execOp,Instr.lookup,e1,e2,run_underlying ht,sH h1,hck,f1,this]
theorem rN{kt et:Nat}{m x:Operand}{K:SV->Hp->Nat->Iv->World->Prop}(Q:Js P kt KS){vx:SV}
  (ht:P.underlying t=some (.map kt et)) (hm:ev l m=some (.o (.v (.map (some g))))) (hx:ev l x=some vx) (TJ:∀O,vx.den O=key) (hy:ev l y=some (.o (.v (.bool true)))) (Us:KS key) (Ph:∀k∈ks,KS k) (Pj:key∉ks)
  (hg:∀O w',Rel H nx iv B w O w'->ES w' g ks∧∀id b,dF H id=some b->(O id).nil=false->(O id).g≠g)
  (hK:∀O w' w2,Rel H nx iv B w O w'->ES w2 g (ks++[key])->w'.grownBy w2 (some g)->w2.heap.size=w'.heap.size->K (.o (.v undef)) H nx iv w2):
  ye P B ⟨dst,.mapUpdate t m x y,ty,pos,after,guard⟩ l H nx iv w K:=by
 refine⟨fun O w' ev' r Qa=>?_⟩;obtain⟨⟨es,clock,h1,h2,h3⟩,OD⟩:=hg O w' r;have e1:ev' m= .map (some g):=Qa m _ hm;have e2:ev' x=key:=by rw[Qa x _ hx,TJ]
 have e3:ev' y= .bool true:=Qa y _ hy;have hes:∀e∈es.toList,KS e.key:=fun e he=>Ph _ (by rw[<-h2];exact aU.2 ⟨e,he,rfl⟩);have hck:=Q.check w' false key Us;have OU:g<w'.heap.size:=(ai.1 h1).1;rcases tK Q Us w' es.toList hes with⟨f1,f2⟩|⟨j,e,f1,f2,f3⟩
 ·let ob:Obj:=.map (es.push {key:=key,val:=.bool true,born:=clock}) (clock+1)
  have PV:w'.grownBy {w' with heap:=w'.heap.setIfInBounds g ob} (some g):=⟨rfl,rfl,rfl,by simp,fun k _ hk=>by
   rw[Array.getElem?_setIfInBounds_ne]
   exact fun e=>hk (by rw[e])⟩
  refine⟨undef,{w' with heap:=w'.heap.setIfInBounds g ob},iv,.inr ⟨?_,rfl⟩,r.yg OD PV,hK O w' _ r ⟨es.push {key:=key,val:=.bool true,born:=clock},clock+1,by simp[OU,ob],?_,?_⟩ PV (by simp)⟩
  ·simp[execOp,Instr.mapUpdate,e1,e2,e3,run_underlying ht,sH h1,GR _ h1,hck,f1,ob]
  ·simp[h2]
  ·intro e he;simp at he;rcases he with he|rfl
   ·exact h3 e (by simpa using he)
   ·rfl
 ·exact absurd (by rw[<-h2];exact aU.2 ⟨e,f2,f3⟩) Pj
theorem GS{len e:Nat}{x:Operand}{K:SV->Hp->Nat->Iv->World->Prop}{vx:SV}{cs:Array Value}{u:Value}
  (hu:P.underlying t=some (.array len e)) (hs:∀w,(sizeOf e).run P w= .ok 1 w) (hp:∀(w:World) (j:Nat) v,cs[j]? =some v->(part e cs j).run P w= .ok v w) (hx:ev l x=some vx) (UA:∀O,vx.den O= .agg cs) (hi:ev l i=some (.o (.v (.int k m)))) (hm:0<=m∧m<len) (hc:cs[m.toNat]? =some u)
  (hK:∀O w',Rel H nx iv B w O w'->K (.o (.v u)) H nx iv w'):ye P B ⟨dst,.index t x i,ty,pos,after,guard⟩ l H nx iv w K:=by
 refine⟨fun O w' ev' r Qa=>⟨u,w',iv,.inl ?_,r.here,hK O w' r⟩⟩;have e1:ev' x= .agg cs:=by rw[Qa x _ hx,UA]
 have e2:ev' i= .int k m:=Qa i _ hi;have e3:=hp w' _ u hc;simp[execOp,e1,e2,Instr.index,asIntOf,run_underlying hu,hm.1,hm.2,hs,e3]
theorem I5(hτ:fQ P τ){id2 off k c:Nat}{e2:TypeId}{ad x:Operand}{K:SV->Hp->Nat->Iv->World->Prop}
  (ha:ev l ad=some (.o (.p id off))) (hx:ev l x=some (.o (.s id2 0 k c))) (Om:id<nx) (Ut:dF H id2=some (.arr e2 cs2)) (hs:uj H tH) (ho:EB id2 tH=true)
  (hK:∀O w',Rel H nx iv B w O w'->Cp τ B t (.o (.p id off)) (.o (.v (.slice (some ⟨(O id2).g,0,none⟩) k c))) tH nx (((O id2).g,(O id2).g+1)::iv) w' (fun H' w2=>K (.o (.v undef)) H' nx (((O id2).g,(O id2).g+1)::iv) w2)):
  OpG P B ⟨dst,.store t ad x,ty,pos,after,guard⟩ l H nx iv w K:=by
 refine⟨fun O w' ev' r Qa=>?_⟩;have e1:ev' ad=(SV.o (.p id off)).den O:=Qa ad _ ha;have e2:ev' x= .slice (some ⟨(O id2).g,0,none⟩) k c:=Qa x _ hx;have r2:=r.free Ut (by simp) (r.fits Ut).1 hs ho;have sat:Sat 0 [] tH nx (((O id2).g,(O id2).g+1)::iv) B w' O ⟨#[],[]⟩ w':=⟨r2,rfl,rfl,(fun u v hv=>by cases hv),fun u v hv=>by cases hv⟩
 obtain⟨H',w2,w3,hk,Og,OK⟩:=wS (addr:=.o (.p id off)) (x:=.o (.v (.slice (some ⟨(O id2).g,0,none⟩) k c))) hτ sat (by exact Om) (by simp[SV.sc,At.sc]) (hK O w' r);refine⟨w2,w3,H',_,?_,Og,hk⟩;have OK:(Instr.storeAt t ((SV.o (.p id off)).den O) (.slice (some ⟨(O id2).g,0,none⟩) k c)).run P w'= .ok () w3:=OK;simp[execOp,e1,e2,OK]
def js(v:dx)(iv:Iv):Iv:=match v.nil with
 |true=>iv
 |false=>(v.g,v.g+1)::iv
theorem nF{v:dx}{iv:Iv}:∀p,p∈iv->p∈js v iv:=fun p hp=>by
 unfold js
 cases v.nil with
 |true=>exact hp
 |false=>exact List.mem_cons_of_mem _ hp
theorem ET{v:dx}{iv:Iv}(h:v.nil=false):(v.g,v.g+1)∈js v iv:=by
 unfold js;rw[h];exact aG
theorem Rel.drop{H':Hp}{b:jm}(r:Rel H nx iv B w O w')(Om:dF H id=some b)(hd:b≠ .dead)(hs:uj H H')(ho:EB id H'=true):Rel H' nx (js (O id) iv) B w' O w':=by
 have h1:Rel H' nx iv B w' O w':=Rel.mk' rfl rfl rfl (aF _) (by have:=r.base;have:=r.size;omega) (fun lo hi hm=>by have:=r.rM lo hi hm;have:=r.size;omega) (fun j c h=>r.keys j c (hs.get h))
  (fun j c h=>r.fits (hs.get h)) (fun j c h=>r.scopd (hs.get h)) (fun j k c e h h'=>r.inj j k c e (hs.get h) (hs.get h')) (fun j c h=>r.low j c (hs.get h)) (fun _ _ _=>rfl) (fun lo hi hm j c h=>r.kk lo hi hm j c (hs.get h))
 unfold js
 cases hn:(O id).nil with
 |false=>exact r.free Om hd hn hs ho
 |true=>exact h1
theorem nm(hτ:fQ P τ){id3 id2 c1 t3:Nat}{c:At}{b2:jm}{x:Operand}{vx:SV}{K:SV->Hp->Nat->Iv->World->Prop}
  (hx:ev l x=some vx) (hy:ev l y=some (.o (.s id3 0 1 c1))) (Uu:dF H id3=some (.box t3 [c])) (Ut:dF H id2=some b2) (Oc:b2≠ .dead) (hs:uj H tH) (ho3:EB id3 tH=true) (TK:EB id2 tH=true)
  (hK:∀O w',Rel H nx iv B w O w'->Rel tH nx (((O id3).g,(O id3).g+1)::js (O id2) iv) B w' O w'->w'.heap[(O id3).g]? =some (.cells #[c.den O] t3 (0,0))->
   yH τ B t vx (.o (.v (.slice (some ⟨(O id3).g,0,none⟩) 1 c1))) tH nx (((O id3).g,(O id3).g+1)::js (O id2) iv) w' (fun v H' OI=>K v H' OI (((O id3).g,(O id3).g+1)::js (O id2) iv) w')):
  OpA P B ⟨dst,.call ⟨.builtin .append,⟨[x,y]⟩,⟨[t,t]⟩⟩,ty,pos,after,guard⟩ l H nx iv w K:=by
 refine⟨fun O w' ev' r Qa=>?_⟩;have e1:ev' x=vx.den O:=Qa x _ hx;have e2:ev' y= .slice (some ⟨(O id3).g,0,none⟩) 1 c1:=Qa y _ hy;have Uv:=(r.fits Uu).1;have r1:=r.drop Ut Oc hs TK;have r2:Rel tH nx (((O id3).g,(O id3).g+1)::js (O id2) iv) B w' O w':=by
  refine r1.more (by have:=(r.low id3 _ Uu Uv).2;omega) fun j cc hj hnj he=>?_;obtain⟨h2,h3⟩:=EB.get ho3 hj;exact h2 (r.inj j id3 cc _ (hs.get hj) Uu h3 (by simp) hnj Uv (by omega))
 have sat:Sat 0 [] tH nx (((O id3).g,(O id3).g+1)::js (O id2) iv) B w' O ⟨#[],[]⟩ w':=⟨r2,rfl,rfl,(fun u v hv=>by cases hv),fun u v hv=>by cases hv⟩
 obtain⟨rr,H',OI,ρ',w2,hk,Og,hr,QR,hρ,OK⟩:=tL (ty:=ty) hτ sat (hK O w' r r2 (by have:=r.box id3 _ _ Uu;simpa using this));refine⟨rr,H',OI,_,ρ',w',w2,?_,Og,hr,QR,hρ,hk⟩;have OK:(Builtin.append_ #[t,t] ty #[vx.den O,.slice (some ⟨(O id3).g,0,none⟩) 1 c1]).run P w'= .ok (rr.den ρ') w2:=OK;simp[execOp,resolve,invoke,builtin,e1,e2,OK]
end
end Go.Sx
