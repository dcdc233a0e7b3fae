/- A part of the proof: texts Sx11 to Sx23. Each tells its conditions in its theorems. -/
import Derived.Laws.BytesString
import Derived.Test.YtkdcaknoaeicdaaGreatP1
/- The order of the executor is as good as any that the tape picks. -/
namespace Go.Sx
open Go

section
variable{P:Program}{τ:Tab}{ops:Array Oper}{B n nx:Nat}{l:Env}{H:Hp}{iv:Iv}{w w':World}{ρ:Nat→Val}{a:Act}

/-- what the tape's order has done, beside the executor's: lx the executor's list, la the tape's; Pd what was looked at; E what of it is made, and where -/
structure Sim(P:Program)(ops:Array Oper)(n B:Nat)(Pd:List Nat)(E:List (Nat×Nat))(lx la:Array Bool)(l:Env)(H:Hp)(nx:Nat)(iv:Iv)(w:World)(ρ:Nat→Val)(a:Act)(w':World):Prop where
 sat:Sat n l H nx iv B w ρ a w'
 szx:lx.size=ops.size
 sza:la.size=ops.size
 la:∀j,la[j]? =some true↔lx[j]? =some true∨∃g,(j,g)∈E
 epd:∀j g,(j,g)∈E→j∈Pd
 pd:∀j∈Pd,lx[j]? =some false∧∃o d mk obj,ops[j]? =some o∧isA o.op=true∧o.guard=none∧(o.dst=some d∧d∉o.looksAt ops)∧AL P o a mk obj∧getE l d=none∧
  ∀g,(j,g)∈E→a.tmps[d]? =some (mk g)∧w'.heap[g]? =some obj
 eg:∀j g,(j,g)∈E→B≤g∧(∀id b,getH H id=some b→(ρ id).nil=false→(ρ id).g≠g)∧∀lo hi,(lo,hi)∈iv→¬(lo≤g∧g<hi)
 inj:∀j g j',(j,g)∈E→(j',g)∈E→j=j'
 ap:∀j∈Pd,∀j'∈Pd,j≠j'→∀o o',ops[j]? =some o→ops[j']? =some o'→o.apart ops o'=true

theorem getE_del{l l':Env}{u:Nat}(h:∀t v,getE l' t=some v→t≠u∧getE l t=some v){d:Nat}(hd:getE l d=none):getE l' d=none:=by
 cases hg:getE l' d with
 |none=>rfl
 |some v=>have:=(h d v hg).2;rw[hd]at this;cases this

theorem Oper.apart_put{o oj:Oper}(ha:o.apart ops oj=true)(hs:∀cs b,oj.op≠ .select cs b){mk:Nat→Value}{obj:Obj}{u:Value}(h:AL P oj a mk obj):AL P oj (a.put o.dst u) mk obj:=by
 intro w
 rw[execOp_put (ops:=ops) oj hs a o.dst u (Go.Oper.apart_spec ha).1]
 exact h w

theorem put_get{d:Option Tmp}{u v:Value}{t:Nat}(hne:d≠some t)(h:a.tmps[t]? =some v):(a.put d u).tmps[t]? =some v:=by
 cases d with
 |none=>exact h
 |some d=>
  have:d≠t:=fun e=>hne (by rw[e])
  simpa [Act.put,Array.getElem?_setIfInBounds_ne this]using h

theorem heap_lt{w:World}{g:Nat}{obj:Obj}(h:w.heap[g]? =some obj):g<w.heap.size:=(Array.getElem?_eq_some_iff.1 h).1
theorem Ext.alloc(w:World)(obj:Obj):Ext w (w.alloc obj):=
 ⟨rfl,rfl,rfl,by simp,fun k hk=>heap_alloc_old _ _ hk⟩

variable{Pd:List Nat}{E:List (Nat×Nat)}{lx la:Array Bool}

/-- an operation that the executor has taken, and the tape too -/
theorem Sim.step(s:Sim P ops n B Pd E lx la l H nx iv w ρ a w')(hsel:∀(j:Nat) (o:Oper) cs b,ops[j]? =some o→o.op≠ .select cs b){i:Nat}{o:Oper}(_hi:ops[i]? =some o)(hiE:∀g,(i,g)∉E)
  (hap:∀j∈Pd,j≠i→∀oj,ops[j]? =some oj→o.apart ops oj=true)
  {l':Env} {H':Hp} {nx':Nat} {iv':Iv} {w2:World} {ρ':Nat→Val} {u:Value} {w3:World} (sat':Sat n l' H' nx' iv' B w2 ρ' (a.put o.dst u) w3)
  (hl:∀j∈Pd,j≠i→∀d,getE l d=none→o.dst≠some d→getE l' d=none) (hext:∀j∈Pd,j≠i→Ext w' w3)
  (heg:∀g,g<w'.heap.size→(∀id b,getH H id=some b→(ρ id).nil=false→(ρ id).g≠g)→(∀lo hi,(lo,hi)∈iv→¬(lo≤g∧g<hi))→(∃j∈Pd,j≠i)→
   (∀id b,getH H' id=some b→(ρ' id).nil=false→(ρ' id).g≠g)∧(∀lo hi,(lo,hi)∈iv'→¬(lo≤g∧g<hi))):
  Sim P ops n B (Pd.filter fun j=> !Nat.beq j i) E (lx.setIfInBounds i true) (la.setIfInBounds i true) l' H' nx' iv' w2 ρ' (a.put o.dst u) w3:=by
 have memf:∀j,j∈(Pd.filter fun j=> !Nat.beq j i)↔j∈Pd∧j≠i:=fun j=>by
  simp only[List.mem_filter,Bool.not_eq_true',beq_f]
 have hEi:∀j g,(j,g)∈E→j≠i:=fun j g h e=>hiE g (e▸h)
 refine⟨sat',by simp[s.szx],by simp[s.sza],fun j=>?_,fun j g h=>(memf j).2 ⟨s.epd j g h,hEi j g h⟩,fun j hj=>?_,fun j g h=>?_,s.inj,fun j hj j' hj'=>s.ap j ((memf j).1 hj).1 j' ((memf j').1 hj').1⟩
 ·rw[set_true,set_true,s.la,s.sza,s.szx]
  constructor
  ·rintro((h|h)|h)
   ·exact .inl (.inl h)
   ·exact .inr h
   ·exact .inl (.inr h)
  ·rintro((h|h)|h)
   ·exact .inl (.inl h)
   ·exact .inr h
   ·exact .inl (.inr h)
 ·obtain⟨hj,hji⟩:=(memf j).1 hj
  obtain⟨h0,oj,d,mk,obj,h1,h2,h3,⟨h4,hself⟩,h5,h6,h7⟩:=s.pd j hj
  have hapj:=hap j hj hji oj h1
  have hne:o.dst≠some d:=fun e=>(Go.Oper.apart_spec hapj).2.1 d e h4
  refine⟨?_,oj,d,mk,obj,h1,h2,h3,⟨h4,hself⟩,Oper.apart_put hapj (fun cs b=>hsel j oj cs b h1) h5,hl j hj hji d h6 hne,fun g hg=>⟨put_get hne (h7 g hg).1,?_⟩⟩
  ·rw[Array.getElem?_setIfInBounds_ne (Ne.symm hji)];exact h0
  ·rw[(hext j hj hji).block g (heap_lt (h7 g hg).2)];exact(h7 g hg).2
 ·have hj:=s.epd j g h
  obtain⟨h0,oj,d,mk,obj,h1,h2,h3,⟨h4,hself⟩,h5,h6,h7⟩:=s.pd j hj
  obtain⟨e1,e2,e3⟩:=s.eg j g h
  exact⟨e1,heg g (heap_lt (h7 g h).2) e2 e3 ⟨j,hj,hEi j g h⟩⟩

/-- the tape makes a block early -/
theorem Sim.early(s:Sim P ops n B Pd E lx la l H nx iv w ρ a w')(hok:∀(j:Nat) o,ops[j]? =some o→∀d,o.dst=some d→d<n)
  (hsel:∀(j:Nat) (o:Oper) cs b,ops[j]? =some o→o.op≠ .select cs b) {j:Nat} (hj:j∈Pd) (hun:la[j]? =some false) {Q:Exit→Act→World→Prop} {K:Act→World→Prop}
  (h:∀E' a2 w2,Ext w' w2→Sim P ops n B Pd E' lx (la.setIfInBounds j true) l H nx iv w ρ a2 w2→K a2 w2):wpOp P ops Q j K a w':=by
 obtain⟨h0,o,d,mk,obj,h1,h2,h3,⟨h4,hself⟩,h5,h6,h7⟩:=s.pd j hj
 have hw:Region.wanted o (yielded ops a.tmps)=true:=by simp[Region.wanted,h3]
 unfold wpOp
 simp only[h1,hw,if_true]
 refine .inl ?_
 unfold Oper.wp
 rw[h5 w']
 simp only[Oper.upon]
 have hd:=hok j o h1 d h4
 have hnE:∀g,(j,g)∉E:=fun g hg=>by
  have:=(s.la j).2 (.inr ⟨g,hg⟩)
  rw[hun]at this;cases this
 refine h ((j,w'.heap.size)::E) _ _ (Ext.alloc _ _) ⟨?_,s.szx,by simp[s.sza],fun k=>?_,fun k g hk=>?_,fun k hk=>?_,fun k g hk=>?_,fun k g k' hk hk'=>?_,s.ap⟩
 ·refine⟨s.sat.rel.ext (Ext.alloc _ _),?_,?_,fun t v hv=>?_,s.sat.sc⟩
  ·rw[h4];simp[Act.put,s.sat.size]
  ·rw[h4];exact s.sat.defers
  ·refine put_get (fun e=>?_) (s.sat.env t v hv)
   rw[h4]at e;injection e with e;subst e;rw[h6]at hv;cases hv
 ·rw[set_true,s.la]
  have hlt:j<la.size:=(Array.getElem?_eq_some_iff.1 hun).1
  constructor
  ·rintro((h|⟨g,h⟩)|⟨rfl,_⟩)
   ·exact .inl h
   ·exact .inr ⟨g,by simp[h]⟩
   ·exact .inr ⟨_,List.mem_cons_self ..⟩
  ·rintro(h|⟨g,h⟩)
   ·exact .inl (.inl h)
   ·rcases List.mem_cons.1 h with h|h
    ·injection h with e1 e2;exact .inr ⟨e1,by rw[e1];exact hlt⟩
    ·exact .inl (.inr ⟨g,h⟩)
 ·rcases List.mem_cons.1 hk with hk|hk
  ·injection hk with e1 e2;rw[e1];exact hj
  ·exact s.epd k g hk
 ·obtain⟨g0,ok,dk,mkk,objk,g1,g2,g3,⟨g4,gself⟩,g5,g6,g7⟩:=s.pd k hk
  by_cases hkj:k=j
  ·subst hkj
   rw[h1]at g1;injection g1 with g1;subst g1
   rw[h4]at g4;injection g4 with g4;subst g4
   refine⟨g0,o,d,mk,obj,h1,h2,h3,⟨h4,hself⟩,?_,h6,fun g hg=>?_⟩
   ·intro ww
    rw[execOp_put (ops:=ops) o (fun cs b=>hsel k o cs b h1) a o.dst _ (fun d' hd'=>by rw[h4]at hd';injection hd' with hd';subst hd';exact hself)]
    exact h5 ww
   ·rcases List.mem_cons.1 hg with hg|hg
    ·injection hg with e1 e2;subst e2
     refine⟨?_,heap_alloc_new _ _⟩
     rw[h4];simp[Act.put,s.sat.size,hd]
    ·exact absurd hg (hnE g)
  ·have hap:=s.ap j hj k hk (Ne.symm hkj) o ok h1 g1
   have hne:o.dst≠some dk:=fun e=>(Go.Oper.apart_spec hap).2.1 dk e g4
   refine⟨g0,ok,dk,mkk,objk,g1,g2,g3,⟨g4,gself⟩,Oper.apart_put hap (fun cs b=>hsel k ok cs b g1) g5,g6,fun g hg=>?_⟩
   rcases List.mem_cons.1 hg with hg|hg
   ·injection hg with e1 e2;exact absurd e1 hkj
   ·refine⟨put_get hne (g7 g hg).1,?_⟩
    rw[heap_alloc_old _ _ (heap_lt (g7 g hg).2)];exact(g7 g hg).2
 ·rcases List.mem_cons.1 hk with hk|hk
  ·injection hk with e1 e2;subst e2
   refine⟨Nat.le_trans s.sat.rel.base s.sat.rel.size,fun id b hb hn he=>?_,fun lo hi hm hc=>?_⟩
   ·have:=(s.sat.rel.low id b hb hn).2;omega
   ·have:=s.sat.rel.ivs lo hi hm;have:=s.sat.rel.size;omega
  ·exact s.eg k g hk
 ·have old:∀k' g',(k',g')∈E→g'<w'.heap.size:=fun k' g' h=>by
   obtain⟨_,_,_,_,_,_,_,_,_,_,_,h7⟩:=s.pd k' (s.epd k' g' h)
   exact heap_lt (h7 g' h).2
  rcases List.mem_cons.1 hk with hk|hk<;>rcases List.mem_cons.1 hk' with hk'|hk'
  ·injection hk with e1 e2;injection hk' with e3 e4;rw[e1,e3]
  ·injection hk with e1 e2;have:=old _ _ hk';omega
  ·injection hk' with e1 e2;have:=old _ _ hk;omega
  ·exact s.inj k g k' hk hk'

/-- the executor makes a block that the tape has made -/
theorem Sim.adopt(s:Sim P ops n B Pd E lx la l H nx iv w ρ a w'){i g:Nat}{o:Oper}(hi:ops[i]? =some o)(hg:(i,g)∈E){b:Blk}{v:SV}{mk:Nat→Value}{obj:Obj}
  (hb:b.scopd nx) (hv:v.sc (nx+1)) (hmk:∀g,v.den (upd ρ nx ⟨g,0,false⟩)=mk g) (hfit:∀g w2,w2.heap[g]? =some obj→b.fits ρ ⟨g,0,false⟩ w2) (hal:AL P o a mk obj)
  {K:Env→Prop} (hK:setE o.dst v l K) (_hok:∀d,o.dst=some d→d<n) (hap:∀j∈Pd,j≠i→∀oj,ops[j]? =some oj→o.apart ops oj=true):
  ∃l',K l'∧Sim P ops n B (Pd.filter fun j=> !Nat.beq j i) (E.filter fun e=> !Nat.beq e.1 i) (lx.setIfInBounds i true) la l' ((nx,b)::H) (nx+1) iv w (upd ρ nx ⟨g,0,false⟩) a w':=by
 obtain⟨h0,o',d,mk',obj',h1,h2,h3,⟨h4,hself⟩,h5,h6,h7⟩:=s.pd i (s.epd i g hg)
 rw[hi]at h1;injection h1 with h1;subst h1
 obtain⟨rfl,rfl⟩:=hal.uniq h5
 obtain⟨ht,hh⟩:=h7 g hg
 obtain⟨e1,e2,e3⟩:=s.eg i g hg
 have memf:∀j,j∈(Pd.filter fun j=> !Nat.beq j i)↔j∈Pd∧j≠i:=fun j=>by
  simp only[List.mem_filter,Bool.not_eq_true',beq_f]
 have memE:∀j k,(j,k)∈(E.filter fun e=> !Nat.beq e.1 i)↔(j,k)∈E∧j≠i:=fun j k=>by
  simp only[List.mem_filter,Bool.not_eq_true',beq_f]
 have hup:∀id b,getH H id=some b→upd ρ nx ⟨g,0,false⟩ id=ρ id:=fun id b h=>(upd_lt id (s.sat.rel.keys id b h)).symm
 have r:=s.sat.rel
 have hrel:Rel ((nx,b)::H) (nx+1) iv B w (upd ρ nx ⟨g,0,false⟩) w':=by
  refine Rel.mk' r.os r.tape r.output r.size r.base r.ivs ?_ ?_ ?_ ?_ ?_ ?_ ?_
  ·intro id b' h
   rw[getH_cons]at h
   split at h
   ·omega
   ·have:=r.keys id b' h;omega
  ·intro id b' h
   rw[getH_cons]at h
   split at h
   ·rename_i e;subst e;injection h with h;subst h
    rw[upd_same]
    exact Blk.fits_keep (hfit g w' hh) (fun id hid=>upd_lt id hid) hb (fun _ _=>rfl)
   ·rw[hup id b' h]
    exact Blk.fits_keep (r.fits h) (fun id hid=>upd_lt id hid) (r.scopd h) (fun _ _=>rfl)
  ·intro id b' h
   rw[getH_cons]at h
   split at h
   ·injection h with h;subst h;exact Blk.scopd_mono (Nat.le_succ _) hb
   ·exact Blk.scopd_mono (Nat.le_succ _) (r.scopd h)
  ·intro id id' c c' h h' hd hd' hn hn' he
   rw[getH_cons]at h h'
   split at h<;>split at h'
   ·rename_i x y;rw[←x,←y]
   ·rename_i x y;subst x
    rw[upd_same,hup _ _ h']at he
    rw[hup _ _ h']at hn'
    exact absurd he.symm (e2 _ _ h' hn')
   ·rename_i x y;subst y
    rw[upd_same,hup _ _ h]at he
    rw[hup _ _ h]at hn
    exact absurd he (e2 _ _ h hn)
   ·rw[hup _ _ h,hup _ _ h']at he
    rw[hup _ _ h]at hn
    rw[hup _ _ h']at hn'
    exact r.inj id id' c c' h h' hd hd' hn hn' he
  ·intro id c h hn
   rw[getH_cons]at h
   split at h
   ·rename_i e;subst e;rw[upd_same];exact⟨e1,heap_lt hh⟩
   ·rw[hup _ _ h]at hn ⊢;exact r.low id c h hn
  ·intro k hk hne
   refine r.frm k hk fun id c h hn=>?_
   have hlt:=r.keys id c h
   have:=hne id c (by rw[getH_cons,if_neg (by omega)];exact h) (by rw[hup _ _ h];exact hn)
   rwa [hup _ _ h]at this
  ·intro lo hi hm id c h hn
   rw[getH_cons]at h
   split at h
   ·rename_i e;subst e;rw[upd_same];exact e3 lo hi hm
   ·rw[hup _ _ h]at hn ⊢;exact r.prot lo hi hm id c h hn
 have sat1:Sat n l ((nx,b)::H) (nx+1) iv B w (upd ρ nx ⟨g,0,false⟩) a w':=s.sat.next hrel (Nat.le_succ _) (fun id hid=>upd_lt id hid)
 rw[h4]at hK
 refine⟨_,hK,?_⟩
 have sat2:Sat n ((d,v)::l) ((nx,b)::H) (nx+1) iv B w (upd ρ nx ⟨g,0,false⟩) a w':=by
  refine⟨sat1.rel,sat1.size,sat1.defers,fun t u hu=>?_,fun t u hu=>?_⟩
  ·rw[getE_cons]at hu
   split at hu
   ·rename_i e;subst e;injection hu with hu;subst hu;rw[hmk];exact ht
   ·exact sat1.env t u hu
  ·rw[getE_cons]at hu
   split at hu
   ·injection hu with hu;subst hu;exact hv
   ·exact sat1.sc t u hu
 have hli:i<lx.size:=(Array.getElem?_eq_some_iff.1 h0).1
 refine⟨sat2,by simp[s.szx],s.sza,fun j=>?_,fun j k h=>?_,fun j hj=>?_,fun j k h=>?_,fun j k j' h h'=>s.inj j k j' ((memE j k).1 h).1 ((memE j' k).1 h').1,fun j hj j' hj'=>s.ap j ((memf j).1 hj).1 j' ((memf j').1 hj').1⟩
 ·rw[s.la,set_true]
  constructor
  ·rintro(h|⟨k,h⟩)
   ·exact .inl (.inl h)
   ·by_cases hji:j=i
    ·exact .inl (.inr ⟨hji,hji▸hli⟩)
    ·exact .inr ⟨k,(memE j k).2 ⟨h,hji⟩⟩
  ·rintro((h|⟨rfl,h⟩)|⟨k,h⟩)
   ·exact .inl h
   ·exact .inr ⟨g,hg⟩
   ·exact .inr ⟨k,((memE j k).1 h).1⟩
 ·exact(memf j).2 ⟨s.epd j k ((memE j k).1 h).1,((memE j k).1 h).2⟩
 ·obtain⟨hj,hji⟩:=(memf j).1 hj
  obtain⟨g0,oj,dj,mkj,objj,g1,g2,g3,⟨g4,gself⟩,g5,g6,g7⟩:=s.pd j hj
  have hne:d≠dj:=fun e=>(Go.Oper.apart_spec (hap j hj hji oj g1)).2.1 d h4 (by rw[g4,e])
  refine⟨by rw[Array.getElem?_setIfInBounds_ne (Ne.symm hji)];exact g0,oj,dj,mkj,objj,g1,g2,g3,⟨g4,gself⟩,g5,?_,fun k hk=>g7 k ((memE j k).1 hk).1⟩
  rw[getE_cons,if_neg hne];exact g6
 ·obtain⟨h,hji⟩:=(memE j k).1 h
  obtain⟨k1,k2,k3⟩:=s.eg j k h
  refine⟨k1,fun id c hc hn=>?_,k3⟩
  rw[getH_cons]at hc
  split at hc
  ·rename_i e;subst e;rw[upd_same]
   intro e;simp only at e;subst e;exact hji (s.inj j _ i h hg)
  ·rw[hup _ _ hc]at hn ⊢;exact k2 id c hc hn
end
end Go.Sx

/- A region that draws its order: what is owed. -/
namespace Go.Sx
open Go

section
variable{P:Program}{τ:Tab}{ops:Array Oper}{B n nx:Nat}{l:Env}{H:Hp}{iv:Iv}{w w':World}{ρ:Nat→Val}{a:Act}
variable{Pd:List Nat}{E:List (Nat×Nat)}{lx la:Array Bool}{Q:Exit→Act→World→Prop}{md:Region.Mode}

theorem wpAnyE_done(hr:Region.ready md ops la=[])(h:Q .normal a w):∀fuel,wpAnyE P md ops Q fuel la a w
 |0=>⟨hr,h⟩
 |_+1=>⟨fun _=>h,by rw[hr];simp⟩

/-- a call that leaves all that was there -/
theorem callE_spec(sat:Sat n l H nx iv B w ρ a w'){g:Nat}{args:(Nat→Val)→Array Value}{K:SV→Hp→Iv→World→Prop}{o:Oper}{next:Act→World→Prop}
  (h:CallE P B g args H nx iv w K) (hop:(execOp a.eval o).run P w'=(callFunc g (args ρ)).run P w')
  (hn:∀v w2,K (.o (.v v)) H ((w'.heap.size,w2.heap.size)::iv) w2→Ext w' w2→Sat n l H nx ((w'.heap.size,w2.heap.size)::iv) B w2 ρ a w2→next (a.put o.dst v) w2):o.wp P a w' next Q:=by
 have hc:=h.h ρ w' sat.rel
 unfold Oper.wp
 rw[hop,hc.e.h]
 refine Calls.mono hc.c fun e w2 he=>?_
 obtain⟨v,rfl,hext,hK⟩:=he
 refine hn v w2 hK hext ?_
 have r:=(sat.rel.ext hext).here
 refine sat.next (ρ':=ρ) ?_ (Nat.le_refl _) (fun _ _=>rfl)
 refine Rel.mk' r.os r.tape r.output r.size r.base ?_ r.keys (fun id b hb=>r.fits hb) (fun id b hb=>r.scopd hb) r.inj r.low r.frm ?_
 ·intro lo hi hm
  rcases List.mem_cons.1 hm with hm|hm
  ·injection hm with h1 h2;omega
  ·exact r.ivs lo hi hm
 ·intro lo hi hm id b hb hnil
  rcases List.mem_cons.1 hm with hm|hm
  ·injection hm with h1 h2
   have:=(sat.rel.low id b hb hnil).2
   omega
  ·exact r.prot lo hi hm id b hb hnil

/-- a soft call, in a region that draws -/
theorem sxOp_callE{o:Oper}{K:SV→Hp→Nat→Iv→World→Prop}(h:sxOp true P τ B o l H nx iv w K)(sat:Sat n l H nx iv B w ρ a w')(hr:isR o.op=false)(ha:isA o.op=false)(hh:hard o=false)
  {next:Act→World→Prop} (hn:∀v w2,K (.o (.v v)) H nx ((w'.heap.size,w2.heap.size)::iv) w2→Ext w' w2→Sat n l H nx ((w'.heap.size,w2.heap.size)::iv) B w2 ρ a w2→next (a.put o.dst v) w2):o.wp P a w' next Q:=by
 obtain⟨dst,op,ty,pos,after,guard⟩:=o
 simp only at hr ha
 have:∃f args x,op= .call ⟨.value f,args,x⟩:=by
  simp only[hard,hr,ha,Bool.or_self,Bool.false_or,Bool.not_eq_false']at hh
  split at hh
  ·exact⟨_,_,_,rfl⟩
  ·cases hh
 obtain⟨f,⟨args⟩,x,rfl⟩:=this
 simp only[sxOp]at h
 obtain⟨vf,h1,hf,hfs⟩:=wEv_spec sat h
 obtain⟨vs,h2,hvs,hss⟩:=wEvs_spec sat h1
 have hargs:(args.toArray).map a.eval=densOf ρ vs:=by
  apply Array.ext'
  simp[densOf,hvs]
 split at h2
 ·rename_i g first caps
  refine callE_spec sat h2 ?_ (fun v w2 hK he hs=>hn v w2 hK he hs)
  simp[execOp,resolve,hf,SV.den,At.den,Deferred.ofValue,invoke,hargs]
 ·rename_i g ids
  refine callE_spec sat h2 ?_ (fun v w2 hK he hs=>hn v w2 hK he hs)
  simp[execOp,resolve,hf,SV.den,At.den,Deferred.ofValue,invoke,hargs]
 ·exact h2.elim

def QN(Q0:Act→World→Prop):Exit→Act→World→Prop:=fun e a w=>e= .normal∧Q0 a w

theorem guard_spec(sat:Sat n l H nx iv B w ρ a w'){o:Oper}{yes no:Env→Prop}(h:sxGuard ops.toList o.guard l yes no)(hg:o.guard=none∨Pd=[]):
  (Region.wanted o (yielded ops a.tmps)=true∧∃l',yes l'∧Sat n l' H nx iv B w ρ a w'∧(Pd≠[]→l'=l))∨
  (Region.wanted o (yielded ops a.tmps)=false∧Pd=[]∧∃l',no l'∧Sat n l' H nx iv B w ρ a w'):=by
 by_cases hgn:o.guard=none
 ·rw[hgn]at h
  exact .inl ⟨by simp[Region.wanted,hgn],l,h,sat,fun _=>rfl⟩
 ·have hPd:=hg.resolve_left hgn
  rcases sxGuard_spec sat h with⟨h1,l',h2,h3⟩|⟨h1,l',h2,h3⟩
  ·exact .inl ⟨h1,l',h2,h3,fun hne=>absurd hPd hne⟩
  ·exact .inr ⟨h1,hPd,l',h2,h3⟩

theorem setE_step(sat:Sat n l H nx iv B w ρ a w'){d:Option Tmp}{v:SV}{k:Env→Prop}(h:setE d v l k)(hd:∀t,d=some t→t<n)(hv:v.sc nx):
  ∃l',k l'∧Sat n l' H nx iv B w ρ (a.put d (v.den ρ)) w'∧∀t,getE l t=none→d≠some t→getE l' t=none:=by
 unfold setE at h
 split at h
 ·rename_i t
  exact⟨_,h,sat.put (hd t rfl) hv,fun u hu hne=>by rw[getE_cons,if_neg (fun e=>hne (by rw[e]))];exact hu⟩
 ·exact⟨l,h,sat,fun t ht _=>ht⟩

theorem wpOp_wanted{Q:Exit→Act→World→Prop}{K:Act→World→Prop}{i:Nat}{o:Oper}(hi:ops[i]? =some o)
  (h:(Region.wanted o (yielded ops a.tmps)=true∧o.wp P a w' K Q)∨(Region.wanted o (yielded ops a.tmps)=false∧K (a.put o.dst undef) w')):wpOp P ops Q i K a w':=by
 unfold wpOp
 simp only[hi]
 rcases h with⟨h1,h2⟩|⟨h1,h2⟩
 ·rw[if_pos h1];exact .inl h2
 ·rw[if_neg (by simp[h1])];exact h2

theorem pi_sound(hτ:TabOK P τ)(hok:∀(j:Nat) o,ops[j]? =some o→∀d,o.dst=some d→d<n)(hsel:∀(j:Nat) (o:Oper) cs b,ops[j]? =some o→o.op≠ .select cs b)
  {K:KT} {Q0:Act→World→Prop} (hQ:∀l' H' nx' iv' w2 ρ' a' w3,K l' H' nx' iv' w2→Sat n l' H' nx' iv' B w2 ρ' a' w3→Q0 a' w3):
  ∀(m fuel:Nat) (π:List It) (lx la:Array Bool) (Pd:List Nat) (E:List (Nat×Nat)) (l:Env) (H:Hp) (nx:Nat) (iv:Iv) (w:World) (ρ:Nat→Val) (a:Act) (w':World),
   fuel+π.length=m→unl la≤fuel→chkPi ops π lx Pd=true→sxPi P τ B ops.toList π l H nx iv w K→Sim P ops n B Pd E lx la l H nx iv w ρ a w'→wpAnyE P .any ops (QN Q0) fuel la a w':=by
 intro m
 induction m using Nat.strongRecOn with
 |_ m ih=>
 intro fuel π lx la Pd E l H nx iv w ρ a w' hm hfuel hc h s
 match π with
 |[]=>
  simp only[chkPi,Bool.and_eq_true,List.isEmpty_iff]at hc
  obtain⟨hr,rfl⟩:=hc
  refine wpAnyE_done ?_ ⟨rfl,hQ _ _ _ _ _ _ _ _ h s.sat⟩ fuel
  refine List.eq_nil_iff_forall_not_mem.2 fun j hj=>?_
  obtain⟨h1,o,h2,h3⟩:=mem_ready'.1 hj
  have:j∈Region.ready .any ops lx:=by
   refine mem_ready'.2 ⟨?_,o,h2,fun e he hb=>?_⟩
   ·have hlt:j<lx.size:=by rw[s.szx,←s.sza];exact(Array.getElem?_eq_some_iff.1 h1).1
    rw[Array.getElem?_eq_getElem hlt]
    cases hb:lx[j]with
    |false=>rfl
    |true=>
     have:=(s.la j).2 (.inl (by rw[Array.getElem?_eq_getElem hlt,hb]))
     rw[h1]at this;cases this
   ·rcases(s.la e.on).1 (h3 e he hb)with h4|⟨g,h4⟩
    ·exact h4
    ·exact absurd (s.epd _ _ h4) (by simp)
  rw[hr]at this
  cases this
 | .p i::r=>
  obtain⟨o,ho,h1⟩:=nthK_spec h
  rw[Array.getElem?_toList]at ho
  simp only[chkPi,ho,Bool.and_eq_true]at hc
  obtain⟨⟨⟨⟨⟨⟨c1,c2⟩,c3⟩,c4⟩,c5⟩,c6⟩,c7⟩:=hc
  cases hd:o.dst with
  |none=>rw[hd]at c3;cases c3
  |some d=>
  rw[hd]at c3
  obtain⟨b,v,mk,obj,hK,-,-,-,-,-,hal⟩:=sxOp_alloc hτ h1 s.sat c1
  rw[hd]at hK
  obtain⟨l',hl,hl1,hl2⟩:=delEK_spec hK
  have hmem:∀j∈Pd,j≠i:=fun j hj=>by
   have:=List.all_eq_true.1 c5 j hj
   simpa only[Bool.not_eq_true',beq_f]using this
  have c6':∀j∈Pd,∀oj,ops[j]? =some oj→o.apart ops oj=true∧oj.apart ops o=true:=fun j hj oj hoj=>by
   have:=List.all_eq_true.1 c6 j hj
   simpa only[apAt,hoj,Bool.and_eq_true]using this
  have hlxi:lx[i]? =some false:=by
   have:lx.getD i true=false:=by simpa using c4
   rw[Array.getD_eq_getD_getElem?]at this
   cases hx:lx[i]? with
   |none=>rw[hx]at this;cases this
   |some b=>rw[hx]at this;simp at this;rw[this]
  refine ih (fuel+r.length) (by simp only[List.length_cons]at hm;omega) fuel r lx la (i::Pd) E l' H nx iv w ρ a w' rfl hfuel c7 hl ?_
  refine⟨⟨s.sat.rel,s.sat.size,s.sat.defers,fun t v hv=>s.sat.env t v (hl2 t v hv).2,fun t v hv=>s.sat.sc t v (hl2 t v hv).2⟩,s.szx,s.sza,s.la,fun j g hg=>List.mem_cons_of_mem _ (s.epd j g hg),fun j hj=>?_,s.eg,s.inj,fun j hj j' hj' hne oj oj' h3 h4=>?_⟩
  ·rcases List.mem_cons.1 hj with rfl|hj
   ·refine⟨hlxi,o,d,mk,obj,ho,c1,by simpa using c2,⟨hd,by simpa using c3⟩,hal,hl1,fun g hg=>absurd (s.epd _ _ hg) (fun hmm=>hmem _ hmm rfl)⟩
   ·obtain⟨h0,oj,dj,mkj,objj,g1,g2,g3,g4,g5,g6,g7⟩:=s.pd j hj
    exact⟨h0,oj,dj,mkj,objj,g1,g2,g3,g4,g5,getE_del hl2 g6,g7⟩
  ·rcases List.mem_cons.1 hj with e1|k1<;>rcases List.mem_cons.1 hj' with e2|k2
   ·exact absurd (e1.trans e2.symm) hne
   ·rw[e1,ho]at h3;injection h3 with h3;subst h3;exact(c6' j' k2 oj' h4).1
   ·rw[e2,ho]at h4;injection h4 with h4;subst h4;exact(c6' j k1 oj h3).2
   ·exact s.ap j k1 j' k2 hne oj oj' h3 h4
 | .x i::r=>
  obtain⟨o,ho,h1⟩:=nthK_spec h
  unfold sxStep at h1
  rw[Array.getElem?_toList]at ho
  simp only[chkPi,ho,Bool.and_eq_true]at hc
  obtain⟨⟨⟨⟨c1,c2⟩,c3⟩,c4⟩,c5⟩:=hc
  have c2:i∈Region.ready .any ops lx:=by simpa using c2
  have c1:o.guard=none∨Pd=[]:=by simpa using c1
  have hap:∀j∈Pd,j≠i→∀oj,ops[j]? =some oj→o.apart ops oj=true:=fun j hj hji oj hoj=>by
   have:=List.all_eq_true.1 c3 j hj
   simpa only[apAt,hoj,Bool.or_eq_true,beq_f.2 hji,Bool.false_eq_true,false_or]using this
  obtain⟨hlx,o',ho',hwait⟩:=mem_ready'.1 c2
  rw[ho]at ho';injection ho' with ho';subst ho'
  simp only[List.length_cons]at hm
  have hdn:=hok i o ho
  by_cases hE:∃g,(i,g)∈E
  · -- made already
   obtain⟨g,hg⟩:=hE
   obtain⟨h0,o',d,mk',obj',g1,g2,g3,g4,g5,g6,g7⟩:=s.pd i (s.epd i g hg)
   rw[ho]at g1;injection g1 with g1;subst g1
   rw[g3,voidCall_A g2]at h1
   have h1:sxOp true P τ B o l H nx iv w fun v H' nx' iv' w'=>setE o.dst v l fun l'=>sxPi P τ B ops.toList r l' H' nx' iv' w' K:=h1
   obtain⟨b,v,mk,obj,hK,hbd,hb,hv,hmk,hfit,hal⟩:=sxOp_alloc hτ h1 s.sat g2
   obtain⟨l',hl,s'⟩:=s.adopt ho hg hb hv hmk hfit hal hK hdn hap
   exact ih (fuel+r.length) (by omega) fuel r _ _ _ _ _ _ _ _ _ _ _ _ rfl hfuel c5 hl s'
  ·have hiE:∀g,(i,g)∉E:=fun g hg=>hE ⟨g,hg⟩
   have hla:la[i]? =some false:=by
    have hlt:i<la.size:=by rw[s.sza,←s.szx];exact(Array.getElem?_eq_some_iff.1 hlx).1
    rw[Array.getElem?_eq_getElem hlt]
    cases hb:la[i]with
    |false=>rfl
    |true=>
     rcases(s.la i).1 (by rw[Array.getElem?_eq_getElem hlt,hb])with h2|h2
     ·rw[hlx]at h2;cases h2
     ·exact absurd h2 hE
   have hready:i∈Region.ready .any ops la:=mem_ready'.2 ⟨hla,o,ho,fun e he hb=>(s.la e.on).2 (.inl (hwait e he hb))⟩
   have hun:=unl_set hla
   obtain⟨f,rfl⟩:∃f,fuel=f+1:=⟨fuel-1,by omega⟩
   cases hR:isR o.op with
   |true=>
    rw[hR]at c4
    -- a reader
    obtain⟨blk,hb1,hb2,hb3,hb4⟩:=freeH_spec c4 s.szx
    have hbl:∀j,blk j→la.getD j false=false:=fun j hj=>by
     cases hl:la.getD j false with
     |false=>rfl
     |true=>
      have hl:la[j]? =some true:=by
       rw[Array.getD_eq_getD_getElem?]at hl
       cases hx:la[j]? with
       |none=>rw[hx]at hl;cases hl
       |some b=>rw[hx]at hl;simp at hl;rw[hl]
      rcases(s.la j).1 hl with h4|⟨g,h4⟩
      ·have:=hb2 j hj
       rw[Array.getD_eq_getD_getElem?,h4]at this;cases this
      ·exact absurd hj (hb3 j (s.epd j g h4))
    have hfree:∀j oj,ops[j]? =some oj→j≠i→la.getD j true=false→¬blk j→o.apart ops oj=true∧(isP o.op=true∨hard oj=false):=by
     intro j oj hoj hji hlj hno
     have hjl:lx.getD j true=false:=by
      rw[Array.getD_eq_getD_getElem?]at hlj ⊢
      cases hx:lx[j]? with
      |none=>
       have:la[j]? =none:=by
        rw[Array.getElem?_eq_none_iff]at hx ⊢;rw[s.sza,←s.szx];exact hx
       rw[this]at hlj;cases hlj
      |some b=>
       cases b with
       |false=>rfl
       |true=>rw[(s.la j).2 (.inl hx)]at hlj;cases hlj
     exact hb4 j oj hoj hji hjl hno
    rcases guard_spec s.sat h1 c1 with⟨hw,l1,h2,sat1,hl1⟩|⟨hw,hPd,l1,h2,sat1⟩
    ·obtain⟨v,hK,hvs,hrun⟩:=(sxOp_reader hτ h2 sat1 hR).resolve_right (fun hh=>by have:=hh.1;rw[voidCall_R hR]at this;cases this)
     obtain⟨l2,h3,sat2,hl2⟩:=setE_step sat1 hK hdn hvs
     refine wpAnyE_first (pu:=isP o.op) (v:=v.den ρ) ho hsel (fun c a w hq=>?_) blk hb1 f la a w' hbl hfree hready (.inl ⟨hw,fun w3 he=>hrun w3 (he.imp id fun he=>sat1.rel.ext he)⟩) ?_
     ·exact absurd hq.1 (by simp)
     ·refine ih (f+r.length) (by omega) f r _ _ _ _ _ _ _ _ _ _ _ _ rfl (by omega) c5 h3 (s.step hsel ho hiE hap sat2 ?_ (fun _ _ _=>Ext.refl _) (fun g _ hg1 hg2 _=>⟨hg1,hg2⟩))
      intro j hj hji d hd hne
      have hl1:=hl1 (by intro e;rw[e]at hj;cases hj)
      subst hl1
      exact hl2 d hd hne
    ·obtain⟨l2,h3,sat2,hl2⟩:=setE_step (v:=.o (.v undef)) sat1 h2 hdn trivial
     refine wpAnyE_first (pu:=isP o.op) (v:=undef) ho hsel (fun c a w hq=>?_) blk hb1 f la a w' hbl hfree hready (.inr ⟨hw,rfl⟩) ?_
     ·exact absurd hq.1 (by simp)
     ·refine ih (f+r.length) (by omega) f r _ _ _ _ _ _ _ _ _ _ _ _ rfl (by omega) c5 h3 (s.step hsel ho hiE hap sat2 ?_ (fun _ _ _=>Ext.refl _) (fun g _ hg1 hg2 _=>⟨hg1,hg2⟩))
      intro j hj
      rw[hPd]at hj;cases hj
   |false=>
    rw[hR]at c4
    simp only[Bool.and_eq_true]at c4
    obtain⟨c4,c6⟩:=c4
    have hpick:∀j∈Region.ready .any ops la,j=i∨(j≠i∧j∈Pd):=by
     intro j hj
     by_cases hji:j=i
     ·exact .inl hji
     ·refine .inr ⟨hji,?_⟩
      apply Decidable.byContradiction
      intro hjP
      obtain⟨k1,oj,k2,k3⟩:=mem_ready'.1 hj
      have:j∈Region.ready .any ops (lst lx (Pd.filter fun j=> !Nat.beq j i)):=by
       refine mem_ready'.2 ⟨?_,oj,k2,fun e he hb=>?_⟩
       ·have hlt:j<(lst lx (Pd.filter fun j=> !Nat.beq j i)).size:=by rw[lst_size,s.szx,←s.sza];exact(Array.getElem?_eq_some_iff.1 k1).1
        rw[Array.getElem?_eq_getElem hlt]
        cases hb:(lst lx (Pd.filter fun j=> !Nat.beq j i))[j]with
        |false=>rfl
        |true=>
         rcases(lst_true _ lx j).1 (by rw[Array.getElem?_eq_getElem hlt,hb])with h4|⟨h4,_⟩
         ·have:=(s.la j).2 (.inl h4);rw[k1]at this;cases this
         ·exact absurd (List.mem_filter.1 h4).1 hjP
       ·rw[lst_true]
        rcases(s.la e.on).1 (k3 e he hb)with h4|⟨g,h4⟩
        ·exact .inl h4
        ·refine .inr ⟨List.mem_filter.2 ⟨s.epd _ _ h4,?_⟩,?_⟩
         ·simp only[Bool.not_eq_true',beq_f]
          intro e2;rw[e2]at h4;exact hiE g h4
         ·have:=(s.pd _ (s.epd _ _ h4)).1
          exact(Array.getElem?_eq_some_iff.1 this).1
      have:=List.all_eq_true.1 c6 j this
      exact hji (beq_t this)
    refine⟨fun he=>(by rw[he]at hready;cases hready),fun j hj=>?_⟩
    have hlj:=(mem_ready'.1 hj).1
    have hunj:=unl_set hlj
    rcases hpick j hj with rfl|⟨hji,hjP⟩
    · -- the executor's own pick
     refine wpOp_wanted ho ?_
     rcases guard_spec s.sat h1 c1 with⟨hw,l1,h2,sat1,hl1⟩|⟨hw,hPd,l1,h2,sat1⟩
     ·refine .inl ⟨hw,?_⟩
      have hl1':∀k∈Pd,k≠j→∀(l2:Env),(∀t,getE l1 t=none→o.dst≠some t→getE l2 t=none)→∀d,getE l d=none→o.dst≠some d→getE l2 d=none:=by
       intro k hk _ l2 hl2 d hd hne
       have hl1:=hl1 (by intro e;rw[e]at hk;cases hk)
       subst hl1
       exact hl2 d hd hne
      cases hA:isA o.op with
      |true=>
       obtain⟨b,v,mk,obj,hK,hbd,hb,hv,hmk,hfit,hal⟩:=sxOp_alloc hτ h2 sat1 hA
       have hrel:Rel ((nx,b)::H) (nx+1) iv B w (upd ρ nx ⟨w'.heap.size,0,false⟩) (w'.alloc obj):=
        sat1.rel.push b _ rfl rfl rfl (by simp) (fun k hk=>heap_alloc_old _ _ hk) (fun _=>⟨Nat.le_refl _,by simp⟩) (hfit _ _ (heap_alloc_new _ _)) hb
       obtain⟨l2,h3,sat2,hl2⟩:=setE_step (sat1.next hrel (Nat.le_succ _) (fun id hid=>upd_lt id hid)) hK hdn hv
       rw[hmk]at sat2
       refine wp_val (v:=mk w'.heap.size) (w2:=w'.alloc obj) (hal w') ⟨fun _=>Ext.alloc _ _,?_⟩
       refine ih (f+r.length) (by omega) f r _ _ _ _ _ _ _ _ _ _ _ _ rfl (by omega) c5 h3 (s.step hsel ho hiE hap sat2 (fun k hk hkj=>hl1' k hk hkj l2 hl2) (fun _ _ _=>Ext.alloc _ _) (fun g hg hg1 hg2 _=>⟨fun id c hc hn he=>?_,hg2⟩))
       rw[getH_cons]at hc
       split at hc
       ·rename_i e;subst e;rw[upd_same]at he;simp only at he;omega
       ·have hup:upd ρ nx ⟨w'.heap.size,0,false⟩ id=ρ id:=(upd_lt id (s.sat.rel.keys id c hc)).symm
        rw[hup]at hn he;exact hg1 id c hc hn he
      |false=>
       cases hH:hard o with
       |false=>
        rw[voidCall_soft hH]at h2
        refine sxOp_callE h2 sat1 hR hA hH fun v w2 hK he hs=>⟨fun _=>he,?_⟩
        obtain⟨l2,h3,sat2,hl2⟩:=setE_step (v:=.o (.v v)) hs hK hdn trivial
        refine ih (f+r.length) (by omega) f r _ _ _ _ _ _ _ _ _ _ _ _ rfl (by omega) c5 h3 (s.step hsel ho hiE hap sat2 (fun k hk hkj=>hl1' k hk hkj l2 hl2) (fun _ _ _=>he) (fun g hg hg1 hg2 _=>⟨hg1,fun lo hi hm hc=>?_⟩))
        rcases List.mem_cons.1 hm with hm|hm
        ·injection hm with e1 e2;omega
        ·exact hg2 lo hi hm hc
       |true=>
        have hPd:Pd=[]:=by rw[hH]at c4;simpa using c4
        subst hPd
        refine sxOp_sound hτ h2 sat1 fun v H' nx' iv' w2 ρ' w3 hK sat2 hv=>⟨fun hs=>(by rw[hs o ho]at hH;cases hH),?_⟩
        obtain⟨l2,h3,sat3,hl2⟩:=setE_step sat2 hK hdn hv
        exact ih (f+r.length) (by omega) f r _ _ _ _ _ _ _ _ _ _ _ _ rfl (by omega) c5 h3 (s.step hsel ho hiE hap sat3 (fun k hk=>by cases hk) (fun k hk=>by cases hk) (fun g _ _ _ hk=>by obtain⟨k,hk,_⟩:=hk;cases hk))
     ·refine .inr ⟨hw,fun _=>Ext.refl _,?_⟩
      subst hPd
      obtain⟨l2,h3,sat2,hl2⟩:=setE_step (v:=.o (.v undef)) sat1 h2 hdn trivial
      exact ih (f+r.length) (by omega) f r _ _ _ _ _ _ _ _ _ _ _ _ rfl (by omega) c5 h3 (s.step hsel ho hiE hap sat2 (fun k hk=>by cases hk) (fun k hk=>by cases hk) (fun g _ _ _ hk=>by obtain⟨k,hk,_⟩:=hk;cases hk))
    · -- a block that is made early
     refine s.early hok hsel hjP hlj fun E' a2 w2 he s'=>⟨fun _=>he,?_⟩
     exact ih (f+(r.length+1)) (by omega) f (.x i::r) lx _ Pd E' l H nx iv w ρ a2 w2 rfl (by omega) (by simp only[chkPi,ho,Bool.and_eq_true];exact⟨⟨⟨⟨by simpa using c1,by simpa using c2⟩,c3⟩,by rw[hR];simp only[Bool.and_eq_true];exact⟨c4,c6⟩⟩,c5⟩) h s'

/-- a region that draws its order, by an order of one's own -/
theorem drawn_of_pi(hτ:TabOK P τ)(hm:P.follows .mixedOrders=true){K:KT}(π:List It)(hs:Region.noSelect ops=true)(hc:chkM ops ops.size π 0 []=true)
  (h:sxPi P τ B ops.toList π l H nx iv w K):DrawnS P B ops l H nx iv w K:=by
 rw[chkM_eq π (Array.replicate ops.size false) 0 [] (by simp) (fun j=>by rw[tb_zero,Array.getD_eq_getD_getElem?,Array.getElem?_replicate];split<;>rfl)]at hc
 refine⟨fun n ρ a w' hok sat Q hQ id=>?_⟩
 refine wp_mono (Q':=Q) (c:=.region id ops true) (wp_region_any (Q:=QN (Q .normal)) hm (wpAny_of_E _ _ _ _ ?_)) (fun e a w hq=>by obtain⟨rfl,hq⟩:=hq;exact hq)
 refine pi_sound hτ (fun j o ho d hd=>?_) (Region.noSelect_spec hs) hQ _ _ π _ _ [] [] l H nx iv w ρ a _ rfl ?_ hc h ?_
 ·have:=List.all_eq_true.1 hok o (List.mem_of_getElem? (by rw[Array.getElem?_toList];exact ho))
  rw[hd]at this
  have h5:d+1≤n:=by simpa [Nat.blt]using this
  exact h5
 ·unfold unl
  refine Nat.le_trans List.countP_le_length ?_
  simp
 ·refine⟨⟨sat.rel.drew,sat.size,sat.defers,sat.env,sat.sc⟩,by simp,by simp,fun j=>by simp,fun j g h=>(by cases h),fun j h=>(by cases h),fun j g h=>(by cases h),fun j g j' h=>(by cases h),fun j h=>(by cases h)⟩
end
end Go.Sx

/- Tables by one check of the kernel; calls. -/
namespace Go.Sx
open Go

def tabLook:List (Nat×TI)→Nat→Option TI
 |[],_=>none
 |(t,v)::r,u=>match Nat.beq t u with
  |true=>some v
  |false=>tabLook r u

def veq:Value→Value→Bool
 | .bool a,.bool b=>a==b
 | .int k n,.int j m=>kindEq k j&&decide (n=m)
 | .string a,.string b=>a.data.toList.isEmpty&&b.data.toList.isEmpty
 | .pointer none,.pointer none=>true
 | .slice none a b,.slice none c d=>Nat.beq a c&&Nat.beq b d
 | .map none,.map none=>true
 | .nilFunc,.nilFunc=>true
 | .nilIface,.nilIface=>true
 |_,_=>false
theorem kindEq_eq{a b:IntKind}(h:kindEq a b=true):a=b:=by cases a<;>cases b<;>first|rfl|cases h
theorem veq_eq{a b:Value}(h:veq a b=true):a=b∧a.oneCell'=true:=by
 unfold veq at h
 split at h
 ·exact⟨by rw[eq_of_beq h],rfl⟩
 ·simp only[Bool.and_eq_true,decide_eq_true_eq]at h
  exact⟨by rw[kindEq_eq h.1,h.2],rfl⟩
 ·rename_i a b
  simp only[Bool.and_eq_true,List.isEmpty_iff]at h
  refine⟨?_,rfl⟩
  have ha:a=⟨#[]⟩:=by
   obtain⟨⟨l⟩⟩:=a
   simp only at h
   rw[h.1]
  have hb:b=⟨#[]⟩:=by
   obtain⟨⟨l⟩⟩:=b
   simp only at h
   rw[h.2]
  rw[ha,hb]
 ·exact⟨rfl,rfl⟩
 ·simp only[Bool.and_eq_true]at h
  exact⟨by rw[beq_t h.1,beq_t h.2],rfl⟩
 ·exact⟨rfl,rfl⟩
 ·exact⟨rfl,rfl⟩
 ·exact⟨rfl,rfl⟩
 ·cases h
def veqs:List Value→List Value→Bool
 |[],[]=>true
 |a::r,b::s=>veq a b&&veqs r s
 |_,_=>false
theorem veqs_eq:∀{a b:List Value},veqs a b=true→a=b∧∀x∈b,x.oneCell'=true
 |[],[],_=>⟨rfl,by simp⟩
 |a::r,b::s,h=>by
  simp only[veqs,Bool.and_eq_true]at h
  obtain⟨h1,h2⟩:=veq_eq h.1
  obtain⟨h3,h4⟩:=veqs_eq h.2
  refine⟨by rw[h1,h3],fun x hx=>?_⟩
  rcases List.mem_cons.1 hx with rfl|hx
  ·rw[←h1];exact h2
  ·exact h4 x hx
 |[],_::_,h=>by cases h
 |_::_,[],h=>by cases h

def fieldsB(P:Program):List Field→List (Nat×Nat)→Bool
 |[],[]=>true
 |f::r,(o,t)::s=>Nat.beq f.offset o&&Nat.beq f.type t&&(P.info? f.type).isSome&&fieldsB P r s
 |_,_=>false
theorem fieldsB_eq{P:Program}:∀{a:List Field} {b:List (Nat×Nat)},fieldsB P a b=true→a.map (fun f=>(f.offset,f.type))=b∧∀f∈a,(P.info? f.type).isSome=true
 |[],[],_=>⟨rfl,by simp⟩
 |f::r,(o,t)::s,h=>by
  simp only[fieldsB,Bool.and_eq_true]at h
  obtain⟨h3,h4⟩:=fieldsB_eq h.2
  refine⟨by rw[List.map_cons,h3,beq_t h.1.1.1,beq_t h.1.1.2],fun x hx=>?_⟩
  rcases List.mem_cons.1 hx with rfl|hx
  ·exact h.1.2
  ·exact h4 x hx
 |[],_::_,h=>by cases h
 |_::_,[],h=>by cases h

def isAgg:TypeDesc→Bool
 | .struct _=>true
 | .array _ _=>true
 |_=>false
def beqB(a b:Bool):Bool:=match a with
 |true=>b
 |false=> !b
theorem beqB_eq{a b:Bool}(h:beqB a b=true):a=b:=by cases a<;>cases b<;>first|rfl|cases h
def tokB(P:Program)(t:Nat)(i:TI):Bool:=
 (match P.info? t with
  |some inf=>Nat.beq inf.size i.size&&Nat.beq inf.bytes i.bytes&&(match inf.zero with
   |some z=>veqs z.cells.toList i.zero
   |none=>false)
  |none=>false)&&Nat.beq i.zero.length i.size&&
 (match P.underlying t with
  |some d=>beqB (isAgg d) i.agg&&(match i.tag with
   |1=>(match d with
    | .int k=>kindEq k i.ik
    |_=>false)
   |2=>(match d with
    | .bool=>true
    |_=>false)
   |3=>(match d with
    | .string=>true
    |_=>false)
   |4=>(match d with
    | .slice e=>Nat.beq e i.elem
    |_=>false)
   |5=>(match d with
    | .struct fs=>fieldsB P fs.toList i.fields
    |_=>false)
   |6=>(match d with
    | .array n e=>Nat.beq n i.alen&&Nat.beq e i.elem
    |_=>false)
   |_=>true)
  |none=>false)
theorem tok_of{P:Program}{t:Nat}{i:TI}(h:tokB P t i=true):TOK P t i:=by
 simp only[tokB,Bool.and_eq_true]at h
 obtain⟨⟨h1,h2⟩,h3⟩:=h
 cases hi:P.info? t with
 |none=>rw[hi]at h1;cases h1
 |some inf=>
 rw[hi]at h1
 simp only[Bool.and_eq_true]at h1
 obtain⟨⟨h4,h5⟩,h6⟩:=h1
 cases hz:inf.zero with
 |none=>rw[hz]at h6;cases h6
 |some z=>
 rw[hz]at h6
 obtain⟨h7,h8⟩:=veqs_eq h6
 cases hu:P.underlying t with
 |none=>rw[hu]at h3;cases h3
 |some d=>
 rw[hu]at h3
 simp only[Bool.and_eq_true]at h3
 obtain⟨h9,h10⟩:=h3
 refine⟨⟨inf,z,hi,beq_t h4,beq_t h5,hz,h7⟩,beq_t h2,h8,⟨d,hu,?_⟩,fun e=>?_,fun e=>?_,fun e=>?_,fun e=>?_,fun e=>?_,fun e=>?_⟩
 ·rw[←beqB_eq h9]
  cases d<;>rfl
 all_goals rw[e]at h10
 ·cases d with
  |int k=>simp only at h10;rw[←kindEq_eq h10];exact hu
  |_=>cases h10
 ·cases d with
  |bool=>exact hu
  |_=>cases h10
 ·cases d with
  |string=>exact hu
  |_=>cases h10
 ·cases d with
  |slice e=>simp only at h10;rw[←beq_t h10];exact hu
  |_=>cases h10
 ·cases d with
  |struct fs=>simp only at h10;exact⟨fs,hu,fieldsB_eq h10⟩
  |_=>cases h10
 ·cases d with
  |array n e=>simp only[Bool.and_eq_true]at h10;rw[←beq_t h10.1,←beq_t h10.2];exact hu
  |_=>cases h10

theorem tab_of{P:Program}{l:List (Nat×TI)}(h:l.all (fun p=>tokB P p.1 p.2)=true):TabOK P (tabLook l):=by
 intro t i hi
 have:(t,i)∈l:=by
  clear h
  induction l with
  |nil=>cases hi
  |cons p r ih=>
   obtain⟨t0,i0⟩:=p
   unfold tabLook at hi
   split at hi
   ·rename_i hb
    injection hi with hi
    subst hi
    rw[beq_t hb]
    exact List.mem_cons_self ..
   ·exact List.mem_cons_of_mem _ (ih hi)
 exact tok_of (List.all_eq_true.1 h _ this)

theorem enters_of{P:Program}{g:Nat}{fn:Func}{c:Code}(hf:P.funcs[g]? =some fn)(hb:fn.body=some c)(hn:(fn.name== "runtime.NumGoroutine")=false):Enters P g:=
 ⟨fun args w=>by simp only[beq_eq_false_iff_ne]at hn;simp[callFunc,hf,hb,hn]⟩
end Go.Sx

/- What a walk uses: readings of what was there, calls by contract, loops. -/
namespace Go.Sx
open Go

theorem Con.mono{P:Program}{g:Nat}{args:Array Value}{w:World}{R R':Ending→World→Prop}(h:Con P g args w R)(k:∀e w2,R e w2→R' e w2):Con P g args w R':=
 ⟨h.e,Calls.mono h.c k⟩

/-- what was there is as it was -/
abbrev Bel(B:Nat)(w w2:World):Prop:=RowKit.Below B w w2
theorem Bel.refl{B:Nat}{w:World}:Bel B w w:=RowKit.Below.refl _ _
theorem Rel.bel{H:Hp}{nx:Nat}{iv:Iv}{B:Nat}{w w':World}{ρ:Nat→Val}(r:Rel H nx iv B w ρ w'):Bel B w w':=
 ⟨r.os,r.tape,r.output,r.size,fun k hk=>r.frm k (by have:=r.base;omega) (fun id b h hn he=>by have:=(r.low id b h hn).1;omega)⟩
theorem Bel.tr{B:Nat}{a b c:World}(h:Bel B a b)(k:Bel B b c):Bel B a c:=RowKit.Below.trans h k
theorem Ext.bel{B:Nat}{a b:World}(h:Ext a b)(hB:B≤a.heap.size):Bel B a b:=RowKit.Below.mono h hB

end Go.Sx
namespace Go.RowKit
open Go Go.Sx
theorem Below.bel{B:Nat}{a b:World}(h:RowKit.Below a.heap.size a b)(hB:B≤a.heap.size):RowKit.Below B a b:=RowKit.Below.mono h hB
end Go.RowKit
namespace Go.Sx
open Go
theorem cell_of_heap{w w2:World}{a:Addr}(h:w2.heap[a.block]? =w.heap[a.block]?):w2.cell? a=w.cell? a:=by
 unfold World.cell?
 rw[h]
theorem Bel.cell{B:Nat}{w w2:World}(h:Bel B w w2){a:Addr}(ha:a.block<B):w2.cell? a=w.cell? a:=cell_of_heap (h.block _ ha)

/-- a loop's state is met -/
def SubE(l:Env):Env→Prop
 |[]=>True
 |(u,v)::r=>getE l u=some v∧SubE l r
theorem SubE.get{l:Env}:∀{t:Env},SubE l t→∀u v,getE t u=some v→getE l u=some v
 |[],_,u,v,h=>by cases h
 |(u0,v0)::r,h,u,v,hg=>by
  rw[getE_cons]at hg
  split at hg
  ·rename_i e;subst e;injection hg with hg;subst hg;exact h.1
  ·exact SubE.get h.2 u v hg
def ScE(n:Nat):Env→Prop
 |[]=>True
 |(_,v)::r=>v.sc n∧ScE n r
theorem ScE.get{n:Nat}:∀{t:Env},ScE n t→∀u v,getE t u=some v→v.sc n
 |[],_,u,v,h=>by cases h
 |(u0,v0)::r,h,u,v,hg=>by
  rw[getE_cons]at hg
  split at hg
  ·injection hg with hg;subst hg;exact h.1
  ·exact ScE.get h.2 u v hg
theorem Rel.noIv{H:Hp}{nx:Nat}{iv:Iv}{B:Nat}{w w':World}{ρ:Nat→Val}(r:Rel H nx iv B w ρ w'):Rel H nx [] B w ρ w':=
 Rel.mk' r.os r.tape r.output r.size r.base (by simp) r.keys (fun id b h=>r.fits h) (fun id b h=>r.scopd h) r.inj r.low r.frm (by simp)
theorem Sub.reset{B:Nat}{l tl:Env}{nx:Nat}{H:Hp}{iv:Iv}{w w':World}{ρ:Nat→Val}(r:Rel H nx iv B w ρ w')(h1:SubE l tl)(h2:ScE nx tl):Sub B l nx ρ w' ⟨tl,H,nx,[],w'⟩:=
 ⟨ρ,r.here.noIv,fun u v hv=>⟨h2.get u v hv,v,h1.get u v hv,rfl⟩⟩
/-- what a call that leaves all that was there hands back -/
def Ret(w:World)(Φ:Value→World→Prop)(e:Ending)(w2:World):Prop:=∃v,e= .returned v∧Ext w w2∧Φ v w2
theorem callE_con{P:Program}{B g:Nat}{args:(Nat→Val)→Array Value}{H:Hp}{nx:Nat}{iv:Iv}{w:World}{K:SV→Hp→Iv→World→Prop}{Φ:(Nat→Val)→World→Value→World→Prop}
  (h:∀ρ w',Rel H nx iv B w ρ w'→Con P g (args ρ) w' (Ret w' (Φ ρ w'))) (hK:∀ρ w' v w2,Rel H nx iv B w ρ w'→Ext w' w2→Bel B w w2→Φ ρ w' v w2→K (.o (.v v)) H ((w'.heap.size,w2.heap.size)::iv) w2):CallE P B g args H nx iv w K:=
 ⟨fun ρ w' r=>(h ρ w' r).mono fun e w2 ⟨v,h1,h2,h3⟩=>⟨v,h1,h2,hK ρ w' v w2 r h2 (r.bel.tr (h2.bel (by have:=r.base;have:=r.size;omega))) h3⟩⟩

theorem cE{P:Program}{B g:Nat}{args:(Nat→Val)→Array Value}{H:Hp}{nx:Nat}{iv:Iv}{w w0:World}{K:SV→Hp→Iv→World→Prop}{Φ:(Nat→Val)→World→Value→World→Prop}(hw:Bel B w0 w)
  (h:∀ρ w',Rel H nx iv B w ρ w'→Con P g (args ρ) w' (Ret w' (Φ ρ w'))) (hK:∀ρ w' v w2 iv',Rel H nx iv B w ρ w'→Ext w' w2→Bel B w0 w2→iv'=(w'.heap.size,w2.heap.size)::iv→Φ ρ w' v w2→K (.o (.v v)) H iv' w2):CallE P B g args H nx iv w K:=
 callE_con h fun ρ w' v w2 r h1 h2 h3=>hK ρ w' v w2 _ r h1 (hw.tr h2) rfl h3
theorem mC{a:Nat×Nat}{iv iv':Iv}(h:iv'=a::iv):∀p,p∈iv→p∈iv':=h▸fun _ h=>List.mem_cons_of_mem _ h
theorem mN{a:Nat×Nat}{iv iv':Iv}(h:iv'=a::iv):a∈iv':=h▸List.mem_cons_self
/-! ### integers -/
theorem wrap64{n:Int}(h1: -9223372036854775808≤n)(h2:n≤9223372036854775807):IntKind.wrap .i64 n=n:=by
 have e1:(2:Int)^64=18446744073709551616:=by decide
 have e2:(2:Int)^(64-1)=9223372036854775808:=by decide
 simp only[IntKind.wrap,IntKind.bits,IntKind.signed,e1,e2]
 by_cases h:n % 18446744073709551616≥9223372036854775808
 ·rw[if_pos (by simp[h])];omega
 ·rw[if_neg (by simp[h])];omega
theorem wrapU64{n:Int}(h1:0≤n)(h2:n<18446744073709551616):IntKind.wrap .u64 n=n:=by
 have e1:(2:Int)^64=18446744073709551616:=by decide
 simp only[IntKind.wrap,IntKind.bits,IntKind.signed,e1,Bool.false_and,Bool.false_eq_true,if_false]
 omega
theorem wrapU32{n:Int}(h1:0≤n)(h2:n<4294967296):IntKind.wrap .u32 n=n:=by
 have e1:(2:Int)^32=4294967296:=by decide
 simp only[IntKind.wrap,IntKind.bits,IntKind.signed,e1,Bool.false_and,Bool.false_eq_true,if_false]
 omega
end Go.Sx

/- Rows that are held raw: appending to them. -/
namespace Go.Sx
open Go

section
variable{P:Program}{τ:Tab}{B nx:Nat}{l:Env}{H:Hp}{iv:Iv}{w w' w2:World}{ρ:Nat→Val}

/-- the very world becomes the named one; one's own blocks are as they were -/
theorem Rel.moved{iv2:Iv}(r:Rel H nx iv B w ρ w')(hsz:w'.heap.size≤w2.heap.size)(hsame:∀id b,getH H id=some b→(ρ id).nil=false→w2.heap[(ρ id).g]? =w'.heap[(ρ id).g]?)
  (hiv:∀lo hi,(lo,hi)∈iv2→hi≤w2.heap.size∧∀id b,getH H id=some b→(ρ id).nil=false→¬(lo≤(ρ id).g∧(ρ id).g<hi)):Rel H nx iv2 B w2 ρ w2:=
 Rel.mk' rfl rfl rfl (Nat.le_refl _) (by have:=r.base;have:=r.size;omega) (fun lo hi h=>(hiv lo hi h).1) r.keys
  (fun id b h=>Blk.fits_keep (r.fits h) (fun _ _=>rfl) (r.scopd h) (fun hn _=>hsame id b h hn)) (fun id b h=>r.scopd h) r.inj
  (fun id b h hn=>by have:=r.low id b h hn;omega) (fun _ _ _=>rfl) (fun lo hi h=>(hiv lo hi h).2)

/-- a row that is held raw grows -/
theorem opS_append(hτ:TabOK P τ){Bc:Nat}(hBc:Bc≤B){dst:Option Tmp}{x y:Operand}{t ty e sz by_ k m:Nat}{ag ag':Bool}{ze ze':List Value}{bt:Nat}{pos:String}{after:Array Edge}{guard:Option (Nat×Bool)}{ik ik':IntKind}{sz0 e' al al' tag':Nat}{fs fs':List (Nat×Nat)}
  {v:Value} {vy:SV} {xs news:List Value} {K:SV→Hp→Nat→Iv→World→Prop}
  (ht:τ t=some ⟨sz0,ag,bt,ze,4,ik,e,al,fs⟩) (hte:τ e=some ⟨sz,ag',by_,ze',tag',ik',e',al',fs'⟩) (hpos:0<sz) (hx:ev l x=some (.o (.v v))) (hy:ev l y=some vy)
  (hown:∀ρ w',Rel H nx iv B w ρ w'→w'.ownsRow Bc e sz v m xs∧∀g,v.ownBlock=some g→∀id b,getH H id=some b→(ρ id).nil=false→(ρ id).g≠g)
  (hnl:news.length=k*sz) (hn1:∀u∈news,u.oneCell'=true) (hml:m+k≤maxLen) (hb:(m+k)*by_≤140737488355328)
  (src:∀ρ w',Rel H nx iv B w ρ w'→(∃c,vy.den ρ= .slice none 0 c∧k=0)∨∃ad c,vy.den ρ= .slice (some ad) k c∧∀(j:Nat) u,news[j]? =some u→w'.cell? (ad.add j)=some u)
  (iv2:Value→World→Iv)
  (hiv:∀ρ w' v' w2,Rel H nx iv B w ρ w'→w'.heap.size≤w2.heap.size→(∀g,v'.ownBlock=some g→g<w2.heap.size∧(v.ownBlock=some g∨g=w'.heap.size))→∀lo hi,(lo,hi)∈iv2 v' w2→hi≤w2.heap.size∧∀id b,getH H id=some b→(ρ id).nil=false→¬(lo≤(ρ id).g∧(ρ id).g<hi))
  (hK:∀ρ w' v' w2,Rel H nx iv B w ρ w'→w2.ownsRow Bc e sz v' (m+k) (xs++news)→w'.grownBy w2 v.ownBlock→(v'.ownBlock=v.ownBlock∨v'.ownBlock=some w'.heap.size)→K (.o (.v v')) H nx (iv2 v' w2) w2):
  OpS P B ⟨dst,.call ⟨.builtin .append,⟨[x,y]⟩,⟨[t,t]⟩⟩,ty,pos,after,guard⟩ l H nx iv w K:=by
 refine⟨fun ρ w' ev' r hev=>?_⟩
 have hto:=hτ t _ ht
 have hu:=hto.i4 rfl
 simp only at hu
 have hteo:=hτ e _ hte
 obtain⟨inf,z,hi,hsz,hby,hz,hzc⟩:=hteo.info
 have hzl:=hteo.zlen
 simp only at hsz hby hzc hzl
 have hzs:z.cells.size=sz:=by rw[←hzl,←hzc];simp
 obtain⟨hrow,hne⟩:=hown ρ w' r
 have key:∃v' w2,(Builtin.append_ #[t,t] ty #[v,vy.den ρ]).run P w'= .ok v' w2∧w2.ownsRow Bc e sz v' (m+k) (xs++news)∧w'.grownBy w2 v.ownBlock∧(v'.ownBlock=v.ownBlock∨v'.ownBlock=some w'.heap.size):=by
  rcases src ρ w' r with⟨c,hv,rfl⟩|⟨ad,c,hv,hcells⟩
  ·have:news=[]:=List.eq_nil_of_length_eq_zero (by simpa using hnl)
   subst this
   rw[hv]
   exact⟨v,w',run_append_of_nil' w' Bc t ty e inf sz hu hi v m xs hrow c,by simpa using hrow,⟨rfl,rfl,rfl,Nat.le_refl _,fun _ _ _=>rfl⟩,.inl rfl⟩
  ·rw[hv]
   obtain⟨v',w2,h1,h2,h3,_,h5⟩:=run_append_own_at (P:=P) w' Bc t ty e inf z sz by_ hu hi hz hsz hby hzs hpos v m xs hrow ad k c news hnl hcells hn1 hml hb (by have:=r.base;have:=r.size;omega)
   exact⟨v',w2,h1,h2,h3,h5⟩
 obtain⟨v',w2,h1,h2,h3,h4⟩:=key
 have e1:=hev x _ hx
 have e2:=hev y _ hy
 have hob:∀g,v'.ownBlock=some g→g<w2.heap.size∧(v.ownBlock=some g∨g=w'.heap.size):=fun g hg=>by
  refine⟨?_,?_⟩
  ·rcases h2.2 with⟨rfl,_⟩|⟨g',cap,cur,rfl,_,hc,_⟩
   ·cases hg
   ·simp only[Value.ownBlock,Option.some.injEq]at hg
    subst hg
    exact(Array.getElem?_eq_some_iff.1 hc).1
  ·rcases h4 with h4|h4
   ·exact .inl (h4▸hg)
   ·rw[h4]at hg;injection hg with hg;exact .inr hg.symm
 refine⟨v',w2,iv2 v' w2,.inl ?_,r.moved h3.size (fun id b h hn=>h3.block _ (r.low id b h hn).2 (fun e=>hne _ e.symm id b h hn rfl)) (hiv ρ w' v' w2 r h3.size hob),hK ρ w' v' w2 r h2 h3 h4⟩
 have e1:ev' x=v:=e1
 generalize vy.den ρ=yy at*
 simp[execOp,resolve,invoke,builtin,e1,e2,h1]

theorem Bel.grown{B0:Nat}{row:Option Nat}(h:w'.grownBy w2 row)(hr:∀g,row=some g→B0≤g)(hB:B0≤w'.heap.size):Bel B0 w' w2:=
 ⟨h.os,h.tape,h.output,h.size,fun k hk=>h.block k (by omega) (fun e=>by have:=hr k e.symm;omega)⟩
theorem ownsRow.low{e sz m:Nat}{v:Value}{xs:List Value}(h:w.ownsRow B e sz v m xs):∀g,v.ownBlock=some g→B≤g∧g<w.heap.size:=by
 intro g hg
 rcases h.2 with⟨rfl,_⟩|⟨g',cap,cur,rfl,hb,hc,_⟩
 ·cases hg
 ·simp only[Value.ownBlock,Option.some.injEq]at hg
  subst hg
  exact⟨hb,(Array.getElem?_eq_some_iff.1 hc).1⟩
/-- a row is as it was where its block is -/
theorem ownsRow.keep{e sz m:Nat}{v:Value}{xs:List Value}(h:w.ownsRow B e sz v m xs)(hk:∀g,v.ownBlock=some g→w2.heap[g]? =w.heap[g]?):w2.ownsRow B e sz v m xs:=by
 refine⟨h.1,?_⟩
 rcases h.2 with h1|⟨g',cap,cur,rfl,hb,hc,h2⟩
 ·exact .inl h1
 ·exact .inr ⟨g',cap,cur,rfl,hb,by rw[hk g' rfl];exact hc,h2⟩
end
end Go.Sx

/- A loop's state by other numbers. -/
namespace Go.Sx
open Go

def At.ren(f:Nat→Nat):At→At
 | .v x=>.v x
 | .p id off=>.p (f id) off
 | .s id off len cap=>.s (f id) off len cap
 | .w id len=>.w (f id) len
 | .fn g caps=>.fn g (caps.map f)
def SV.ren(f:Nat→Nat):SV→SV
 | .o x=>.o (x.ren f)
 | .a cs=>.a (cs.map (At.ren f))
def Blk.ren(f:Nat→Nat):Blk→Blk
 | .box t cs=>.box t (cs.map (At.ren f))
 | .arr t cs=>.arr t cs
 | .vec t size cs=>.vec t size cs
 | .dead=>.dead
theorem At.den_ren(f:Nat→Nat)(ρ:Nat→Val)(x:At):(x.ren f).den ρ=x.den (fun i=>ρ (f i)):=by
 cases x<;>simp[At.ren,At.den]
theorem SV.den_ren(f:Nat→Nat)(ρ:Nat→Val)(x:SV):(x.ren f).den ρ=x.den (fun i=>ρ (f i)):=by
 cases x with
 |o x=>exact At.den_ren f ρ x
 |a cs=>
  have:At.den ρ ∘ At.ren f=At.den (fun i=>ρ (f i)):=funext fun x=>At.den_ren f ρ x
  simp[SV.ren,SV.den,this]

def renL:List (Nat×Nat)→Nat→Nat
 |[],n=>n
 |(a,b)::r,n=>match Nat.beq a n with
  |true=>b
  |false=>renL r n
def SubER(f:Nat→Nat)(l:Env):Env→Prop
 |[]=>True
 |(u,v)::r=>getE l u=some (v.ren f)∧SubER f l r
def SubHR(f:Nat→Nat)(H:Hp):Hp→Prop
 |[]=>True
 |(u,b)::r=>getH H (f u)=some (b.ren f)∧SubHR f H r
def ScH(n:Nat):Hp→Prop
 |[]=>True
 |(u,b)::r=>(u<n∧b.scopd n)∧ScH n r
/-- the keys have different images -/
def injB(f:Nat→Nat):Hp→Bool
 |[]=>true
 |(u,_)::r=>r.all (fun p=>Nat.beq p.1 u|| !Nat.beq (f p.1) (f u))&&injB f r

theorem SubER.get{f:Nat→Nat}{l:Env}:∀{t:Env},SubER f l t→∀u v,getE t u=some v→getE l u=some (v.ren f)
 |[],_,u,v,h=>by cases h
 |(u0,v0)::r,h,u,v,hg=>by
  rw[getE_cons]at hg
  split at hg
  ·rename_i e;subst e;injection hg with hg;subst hg;exact h.1
  ·exact SubER.get h.2 u v hg
theorem SubHR.get{f:Nat→Nat}{l:Hp}:∀{t:Hp},SubHR f l t→∀u v,getH t u=some v→getH l (f u)=some (v.ren f)
 |[],_,u,v,h=>by cases h
 |(u0,v0)::r,h,u,v,hg=>by
  rw[getH_cons]at hg
  split at hg
  ·rename_i e;subst e;injection hg with hg;subst hg;exact h.1
  ·exact SubHR.get h.2 u v hg
theorem ScH.get{n:Nat}:∀{t:Hp},ScH n t→∀u b,getH t u=some b→u<n∧b.scopd n
 |[],_,u,v,h=>by cases h
 |(u0,v0)::r,h,u,v,hg=>by
  rw[getH_cons]at hg
  split at hg
  ·rename_i e;subst e;injection hg with hg;subst hg;exact h.1
  ·exact ScH.get h.2 u v hg
theorem getH_mem:∀{t:Hp} {u:Nat} {b:Blk},getH t u=some b→∃p∈t,p.1=u
 |[],u,b,h=>by cases h
 |(u0,v0)::r,u,b,h=>by
  rw[getH_cons]at h
  split at h
  ·rename_i e;exact⟨_,List.mem_cons_self ..,e⟩
  ·obtain⟨p,h1,h2⟩:=getH_mem h;exact⟨p,List.mem_cons_of_mem _ h1,h2⟩
theorem injB_spec{f:Nat→Nat}:∀{t:Hp},injB f t=true→∀u v b c,getH t u=some b→getH t v=some c→f u=f v→u=v
 |[],_,u,v,b,c,h,_,_=>by cases h
 |(u0,v0)::r,hi,u,v,b,c,hu,hv,he=>by
  simp only[injB,Bool.and_eq_true]at hi
  have key:∀{w:Nat} {d:Blk},getH r w=some d→f w=f u0→w=u0:=fun{w d} hw hf=>by
   obtain⟨p,hp,rfl⟩:=getH_mem hw
   have:=List.all_eq_true.1 hi.1 p hp
   simp only[Bool.or_eq_true,Bool.not_eq_true']at this
   rcases this with h|h
   ·exact beq_t h
   ·rw[hf,Nat.beq_refl]at h;cases h
  rw[getH_cons]at hu hv
  split at hu<;>split at hv
  ·rename_i x y;rw[←x,←y]
  ·rename_i x y;subst x;exact(key hv he.symm).symm
  ·rename_i x y;subst y;exact key hu he
  ·exact injB_spec hi.2 u v b c hu hv he

theorem Sub.gen{B:Nat}{l tl:Env}{nx nx':Nat}{H tH:Hp}{iv iv':Iv}{w w':World}{ρ:Nat→Val}(m:List (Nat×Nat))(r:Rel H nx iv B w ρ w')
  (hH:SubHR (renL m) H tH) (hE:SubER (renL m) l tl) (hsH:ScH nx' tH) (hsE:ScE nx' tl) (hi:injB (renL m) tH=true) (hiv:∀lo hi,(lo,hi)∈iv'→(lo,hi)∈iv):Sub B l nx ρ w' ⟨tl,tH,nx',iv',w'⟩:=by
 refine⟨fun i=>ρ (renL m i),(?_:Rel tH nx' iv' B w' (fun i=>ρ (renL m i)) w'),fun u v hv=>⟨hsE.get u v hv,_,hE.get u v hv,SV.den_ren _ _ _⟩⟩
 refine Rel.mk' rfl rfl rfl (Nat.le_refl _) (by have:=r.base;have:=r.size;omega) (fun lo hi h=>by have:=r.ivs lo hi (hiv lo hi h);have:=r.size;omega) (fun id b h=>(hsH.get id b h).1) ?_ (fun id b h=>(hsH.get id b h).2) ?_ ?_ (fun _ _ _=>rfl) ?_
 ·intro id b h
  have h1:=r.fits (hH.get id b h)
  have hr:At.den ρ ∘ At.ren (renL m)=At.den (fun i=>ρ (renL m i)):=funext fun x=>At.den_ren _ ρ x
  cases b with
  |box t cs=>simpa [Blk.ren,Blk.fits,hr]using h1
  |arr t cs=>exact h1
  |vec t size cs=>exact h1
  |dead=>trivial
 ·intro id id' b b' h h' hd hd' hn hn' he
  refine injB_spec hi id id' b b' h h' (r.inj _ _ _ _ (hH.get id b h) (hH.get id' b' h') ?_ ?_ hn hn' he)
  ·cases b<;>first|(exact absurd rfl hd)|simp[Blk.ren]
  ·cases b'<;>first|(exact absurd rfl hd')|simp[Blk.ren]
 ·intro id b h hn
  exact r.low _ _ (hH.get id b h) hn
 ·intro lo hi' h id b hb hn
  exact r.prot lo hi' (hiv lo hi' h) _ _ (hH.get id b hb) hn
end Go.Sx

/- Blocks of one's own that a call hands back: they are given up, and held raw. No condition. -/
namespace Go.Sx
open Go

/-- a part of what one owns -/
def SubH(H:Hp):Hp→Prop
 |[]=>True
 |(u,b)::r=>getH H u=some b∧SubH H r
def okH(id:Nat):Hp→Bool
 |[]=>true
 |(_,.dead)::_=>false
 |(u,_)::r=> !Nat.beq u id&&okH id r
theorem SubH.get{H:Hp}:∀{t:Hp},SubH H t→∀{u b},getH t u=some b→getH H u=some b
 |[],_,u,b,h=>by cases h
 |(v,c)::r,hs,u,b,h=>by
  unfold getH at h
  split at h
  ·rename_i e
   injection h with h
   subst h
   have:=Nat.eq_of_beq_eq_true e
   subst this
   exact hs.1
  ·exact SubH.get hs.2 h
theorem okH.get{id:Nat}:∀{t:Hp},okH id t=true→∀{u b},getH t u=some b→u≠id∧b≠ .dead
 |[],_,u,b,h=>by cases h
 |(v,c)::r,hs,u,b,h=>by
  unfold getH at h
  split at h
  ·rename_i e
   injection h with h
   subst h
   have:=Nat.eq_of_beq_eq_true e
   subst this
   have hv:v.beq id=false→v≠id:=fun h e=>by rw[e,Nat.beq_refl]at h;cases h
   cases c<;>simp_all [okH]
  ·refine okH.get (t:=r) ?_ h
   cases c<;>simp_all [okH]

section
variable{P:Program}{B nx:Nat}{H H':Hp}{iv:Iv}{w w' w2:World}{ρ:Nat→Val}
/-- a block is given up -/
theorem Rel.free{id:Nat}{b:Blk}(r:Rel H nx iv B w ρ w')(hid:getH H id=some b)(hd:b≠ .dead)(hn:(ρ id).nil=false)(hs:SubH H H')(ho:okH id H'=true):Rel H' nx (((ρ id).g,(ρ id).g+1)::iv) B w' ρ w':=by
 have h1:Rel H' nx iv B w' ρ w':=Rel.mk' rfl rfl rfl (Nat.le_refl _) (by have:=r.base;have:=r.size;omega) (fun lo hi hm=>by have:=r.ivs lo hi hm;have:=r.size;omega) (fun j c h=>r.keys j c (hs.get h))
  (fun j c h=>r.fits (hs.get h)) (fun j c h=>r.scopd (hs.get h)) (fun j k c e h h'=>r.inj j k c e (hs.get h) (hs.get h')) (fun j c h=>r.low j c (hs.get h)) (fun _ _ _=>rfl) (fun lo hi hm j c h=>r.prot lo hi hm j c (hs.get h))
 refine h1.more (by have:=(r.low id b hid hn).2;omega) fun j c hj hnj he=>?_
 obtain⟨h2,h3⟩:=okH.get ho hj
 exact h2 (r.inj j id c b (hs.get hj) hid h3 hd hnj hn (by omega))
/-- a call whose result may lie in a block of one's own: the block is given up -/
theorem callE_free{g:Nat}{args:(Nat→Val)→Array Value}{K:SV→Hp→Iv→World→Prop}{Φ:(Nat→Val)→World→Value→World→Prop}(id:Nat){b:Blk}(hid:getH H id=some b)(hd:b≠ .dead)(hs:SubH H H')(ho:okH id H'=true)
  (hn:∀ρ w',Rel H nx iv B w ρ w'→(ρ id).nil=false)
  (hc:∀ρ w',Rel H nx iv B w ρ w'→Con P g (args ρ) w' (Ret w' (Φ ρ w')))
  (h:∀ρ w' v w2,Rel H nx iv B w ρ w'→Ext w' w2→Bel B w w2→Φ ρ w' v w2→K (.o (.v v)) H' (((ρ id).g,(ρ id).g+1)::(w'.heap.size,w2.heap.size)::iv) w2):CallS P B g args H nx iv w K:=
 ⟨fun ρ w' r=>⟨(hc ρ w' r).e,Calls.mono (hc ρ w' r).c fun e w2 he=>by
  obtain⟨v,h1,h2,h3⟩:=he
  have r2:Rel H nx ((w'.heap.size,w2.heap.size)::iv) B w2 ρ w2:=(r.ext h2).here.more (Nat.le_refl _) (fun j c hj hn=>by have:=(r.low j c hj hn).2;omega)
  exact⟨v,H',_,h1,r2.free hid hd (hn ρ w' r) hs ho,h ρ w' v w2 r h2 (r.bel.tr (h2.bel (by have:=r.base;have:=r.size;omega))) h3⟩⟩⟩
end
end Go.Sx

/- Regions that draw their order, by all orders: a tree of them. No condition. -/
namespace Go.Sx
open Go

inductive Tr where
 |nil
 |one (i:Nat) (t:Tr)
 |two (i:Nat) (t:Tr) (j:Nat) (u:Tr)
def Tr.depth:Tr→Nat
 | .nil=>0
 | .one _ t=>t.depth+1
 | .two _ t _ u=>max t.depth u.depth+1
def chkTr(ops:Array Oper):Tr→Array Bool→Bool
 | .nil,la=>(Region.ready .any ops la).isEmpty
 | .one i t,la=>match Region.ready .any ops la with
  |[x]=>Nat.beq x i&&chkTr ops t (la.setIfInBounds i true)
  |_=>false
 | .two i t j u,la=>match Region.ready .any ops la with
  |[x,y]=>Nat.beq x i&&(Nat.beq y j&&(chkTr ops t (la.setIfInBounds i true)&&chkTr ops u (la.setIfInBounds j true)))
  |_=>false
def sxTr(P:Program)(τ:Tab)(B:Nat)(all:List Oper):Tr→Env→Hp→Nat→Iv→World→KT→Prop
 | .nil,l,H,nx,iv,w,K=>K l H nx iv w
 | .one i t,l,H,nx,iv,w,K=>nthK all i (fun o=>sxStep false P τ B all o l H nx iv w (fun l' H' nx' iv' w'=>sxTr P τ B all t l' H' nx' iv' w' K))
 | .two i t j u,l,H,nx,iv,w,K=>nthK all i (fun o=>sxStep false P τ B all o l H nx iv w (fun l' H' nx' iv' w'=>sxTr P τ B all t l' H' nx' iv' w' K))∧
   nthK all j (fun o=>sxStep false P τ B all o l H nx iv w (fun l' H' nx' iv' w'=>sxTr P τ B all u l' H' nx' iv' w' K))

section
variable{P:Program}{τ:Tab}{ops:Array Oper}{B n nx:Nat}{l:Env}{H:Hp}{iv:Iv}{w w':World}{ρ:Nat→Val}{a:Act}
theorem tr_step(hτ:TabOK P τ)(hok:∀(j:Nat) o,ops[j]? =some o→∀d,o.dst=some d→d<n){i:Nat}{K:KT}{Q:Exit→Act→World→Prop}{next:Act→World→Prop}
  (h:nthK ops.toList i (fun o=>sxStep false P τ B ops.toList o l H nx iv w K)) (sat:Sat n l H nx iv B w ρ a w')
  (hn:∀l' H' nx' iv' w2 ρ' a' w3,K l' H' nx' iv' w2→Sat n l' H' nx' iv' B w2 ρ' a' w3→next a' w3):wpOp P ops Q i next a w':=by
 obtain⟨o,ho,h1⟩:=nthK_spec h
 rw[Array.getElem?_toList]at ho
 have hd:=hok i o ho
 unfold sxStep at h1
 refine wpOp_wanted ho ?_
 rcases sxGuard_spec sat h1 with⟨hw,l1,h2,sat1⟩|⟨hw,l1,h2,sat1⟩
 ·refine .inl ⟨hw,sxOp_sound hτ h2 sat1 fun v H' nx' iv' w2 ρ' w3 h3 sat2 hv=>?_⟩
  obtain⟨l2,h4,sat3⟩:=setE_spec sat2 h3 hd hv
  exact hn _ _ _ _ _ _ _ _ h4 sat3
 ·obtain⟨l2,h4,sat3⟩:=setE_spec sat1 h2 hd trivial
  exact .inr ⟨hw,hn _ _ _ _ _ _ _ _ h4 sat3⟩
theorem tr_sound(hτ:TabOK P τ)(hok:∀(j:Nat) o,ops[j]? =some o→∀d,o.dst=some d→d<n){K:KT}{Q:Exit→Act→World→Prop}
  (hQ:∀l' H' nx' iv' w2 ρ' a' w3,K l' H' nx' iv' w2→Sat n l' H' nx' iv' B w2 ρ' a' w3→Q .normal a' w3):
  ∀(t:Tr) (fuel:Nat) (la:Array Bool) (l:Env) (H:Hp) (nx:Nat) (iv:Iv) (w:World) (ρ:Nat→Val) (a:Act) (w':World),t.depth≤fuel→chkTr ops t la=true→sxTr P τ B ops.toList t l H nx iv w K→Sat n l H nx iv B w ρ a w'→wpAny P .any ops Q fuel la a w'
 | .nil,fuel,la,l,H,nx,iv,w,ρ,a,w',_,hc,h,s=>by
  simp only[chkTr,List.isEmpty_iff]at hc
  have hq:=hQ _ _ _ _ _ _ _ _ h s
  cases fuel with
  |zero=>exact⟨hc,hq⟩
  |succ fuel=>exact⟨fun _=>hq,fun i hi=>by rw[hc]at hi;cases hi⟩
 | .one i t,fuel,la,l,H,nx,iv,w,ρ,a,w',hf,hc,h,s=>by
  simp only[Tr.depth]at hf
  obtain⟨fuel,rfl⟩:∃q,fuel=q+1:=⟨fuel-1,by omega⟩
  simp only[chkTr]at hc
  split at hc
  ·rename_i x hr
   simp only[Bool.and_eq_true]at hc
   have hx:=Nat.eq_of_beq_eq_true hc.1
   subst hx
   refine⟨fun h0=>(by rw[hr]at h0;cases h0),fun j hj=>?_⟩
   rw[hr,List.mem_singleton]at hj
   subst hj
   exact tr_step hτ hok h s fun _ _ _ _ _ _ _ _ hk hs=>tr_sound hτ hok hQ t fuel _ _ _ _ _ _ _ _ _ (by omega) hc.2 hk hs
  ·cases hc
 | .two i t k u,fuel,la,l,H,nx,iv,w,ρ,a,w',hf,hc,h,s=>by
  simp only[Tr.depth]at hf
  obtain⟨fuel,rfl⟩:∃q,fuel=q+1:=⟨fuel-1,by omega⟩
  simp only[chkTr]at hc
  split at hc
  ·rename_i x y hr
   simp only[Bool.and_eq_true]at hc
   obtain⟨c1,c2,c3,c4⟩:=hc
   have hx:=Nat.eq_of_beq_eq_true c1
   have hy:=Nat.eq_of_beq_eq_true c2
   subst hx
   subst hy
   obtain⟨h1,h2⟩:=h
   refine⟨fun h0=>(by rw[hr]at h0;cases h0),fun j hj=>?_⟩
   rw[hr,List.mem_cons,List.mem_singleton]at hj
   rcases hj with rfl|rfl
   ·exact tr_step hτ hok h1 s fun _ _ _ _ _ _ _ _ hk hs=>tr_sound hτ hok hQ t fuel _ _ _ _ _ _ _ _ _ (by omega) c3 hk hs
   ·exact tr_step hτ hok h2 s fun _ _ _ _ _ _ _ _ hk hs=>tr_sound hτ hok hQ u fuel _ _ _ _ _ _ _ _ _ (by omega) c4 hk hs
  ·cases hc
/-- a region that draws its order, by all its orders -/
theorem drawn_of_tr(hτ:TabOK P τ)(hm:P.follows .mixedOrders=true){K:KT}(t:Tr)(hc:(Nat.ble t.depth ops.size&&chkTr ops t (Array.replicate ops.size false))=true)
  (h:sxTr P τ B ops.toList t l H nx iv w K):DrawnS P B ops l H nx iv w K:=by
 simp only[Bool.and_eq_true]at hc
 refine⟨fun n ρ a w' hok sat Q hQ id=>?_⟩
 refine wp_region_any hm (tr_sound hτ (fun j o ho d hd=>?_) hQ t _ _ _ _ _ _ _ ρ _ _ (Nat.le_of_ble_eq_true hc.1) hc.2 h ⟨sat.rel.drew,sat.size,sat.defers,sat.env,sat.sc⟩)
 have:=List.all_eq_true.1 hok o (List.mem_of_getElem? (by rw[Array.getElem?_toList];exact ho))
 rw[hd]at this
 have h5:d+1≤n:=by simpa [Nat.blt]using this
 exact h5
end
end Go.Sx

/- Reading a byte of a string; clearing and copying rows that are held raw. No condition. -/
namespace Go.Sx
open Go
section
variable{P:Program}{τ:Tab}{B n nx:Nat}{l:Env}{H:Hp}{iv:Iv}{w w':World}{ρ:Nat→Val}{a:Act}
theorem opS_index{dst:Option Tmp}{t ty:Nat}{x i:Operand}{pos:String}{after:Array Edge}{guard:Option (Nat×Bool)}{K:SV→Hp→Nat→Iv→World→Prop}{s:ByteArray}{k:IntKind}{m:Int}{b:UInt8}
  (hu:P.underlying t=some .string) (hx:ev l x=some (.o (.v (.string s)))) (hi:ev l i=some (.o (.v (.int k m)))) (hm:0≤m) (hb:s[m.toNat]? =some b)
  (hK:∀ρ w',Rel H nx iv B w ρ w'→K (.o (.v (.int .u8 b.toNat))) H nx iv w'):OpS P B ⟨dst,.index t x i,ty,pos,after,guard⟩ l H nx iv w K:=by
 refine⟨fun ρ w' ev' r hev=>⟨.int .u8 b.toNat,w',iv,.inl ?_,r.here,hK ρ w' r⟩⟩
 have e1:ev' x= .string s:=hev x _ hx
 have e2:ev' i= .int k m:=hev i _ hi
 simp[execOp,e1,e2,Instr.index,asIntOf,run_underlying hu,hm,hb]

theorem run_eql_nilslice(w:World)(t e:TypeId)(a:Option Addr)(n c n' c':Nat)(h:P.underlying t=some (.slice e)):
  (binOp .eql t (.slice a n c) (.slice none n' c')).run P w= .ok (.bool a.isNone) w:=by
 have:∀d,(Op.equalIn (d+1) t (.slice a n c) (.slice none n' c')).run P w= .ok a.isNone w:=fun d=>by cases a<;>simp[Op.equalIn,run_underlying h]
 simp only[binOp]
 simp[Op.equal,Op.maxDepth,this 9999]
theorem grownBy_setRow(w:World)(g:Nat)(cs:Array Value):w.grownBy (w.setRow g cs) (some g):=
 ⟨rfl,rfl,rfl,by simp,fun k _ hne=>setRow_other _ _ _ _ fun e=>hne (by rw[e])⟩
theorem Rel.rowed{w2:World}{g:Nat}(r:Rel H nx iv B w ρ w')(hne:∀id b,getH H id=some b→(ρ id).nil=false→(ρ id).g≠g)(h:w'.grownBy w2 (some g)):Rel H nx iv B w2 ρ w2:=
 r.moved h.size (fun id b hb hn=>h.block _ (r.low id b hb hn).2 fun e=>hne id b hb hn (Option.some.inj e)) fun lo hi hm=>⟨by have:=r.ivs lo hi hm;have:=r.size;have:=h.size;omega,fun id b hb hn=>r.prot lo hi hm id b hb hn⟩
theorem zeroCells_one(z:Value)(n:Nat):(Builtin.zeroCells #[z] n).toList=List.replicate n z:=by
 apply List.ext_getElem?
 intro i
 simp only[Builtin.zeroCells,Array.toList_map,List.getElem?_map,Array.toList_range,List.getElem?_replicate]
 by_cases h:i<n
 ·simp[h,Nat.mod_one]
 ·simp[h]
/-- a part of a row that is held raw is cleared -/
theorem opS_clear(hτ:TabOK P τ){dst:Option Tmp}{t ty e by_ k off c g tg:Nat}{x:Operand}{ag ag':Bool}{ze:List Value}{z:Value}{bt:Nat}{pos:String}{after:Array Edge}{guard:Option (Nat×Bool)}{ik ik':IntKind}{sz0 e' al al' tag':Nat}{fs fs':List (Nat×Nat)}
  {cs:List Value} {K:SV→Hp→Nat→Iv→World→Prop}
  (ht:τ t=some ⟨sz0,ag,bt,ze,4,ik,e,al,fs⟩) (hte:τ e=some ⟨1,ag',by_,[z],tag',ik',e',al',fs'⟩) (hx:ev l x=some (.o (.v (.slice (some ⟨g,off,none⟩) k c)))) (hk:k≠0)
  (hg:∀ρ w',Rel H nx iv B w ρ w'→w'.heap[g]? =some (.cells cs.toArray tg (0,0))∧∀id b,getH H id=some b→(ρ id).nil=false→(ρ id).g≠g) (hfit:off+k≤cs.length)
  (hK:∀ρ w' w2,Rel H nx iv B w ρ w'→w2.heap[g]? =some (.cells (cs.take off++List.replicate k z++cs.drop (off+k)).toArray tg (0,0))→w'.grownBy w2 (some g)→w2.heap.size=w'.heap.size→K (.o (.v (.tuple #[]))) H nx iv w2):
  OpS P B ⟨dst,.call ⟨.builtin .clear,⟨[x]⟩,⟨[t]⟩⟩,ty,pos,after,guard⟩ l H nx iv w K:=by
 refine⟨fun ρ w' ev' r hev=>?_⟩
 have hu:=(hτ t _ ht).i4 rfl
 simp only at hu
 have hteo:=hτ e _ hte
 obtain⟨inf,zv,hi,hsz,hby,hz,hzc⟩:=hteo.info
 have hzo:=hteo.zone z (by simp)
 simp only at hsz hzc
 have hza:zv.cells= #[z]:=by apply Array.ext';simpa using hzc
 obtain⟨hc,hne⟩:=hg ρ w' r
 have hst:=run_storeCells_at (P:=P) g off tg (List.replicate k z) 0 cs.toArray w' hc (by simpa using hfit) (fun v hv=>by rw[List.mem_replicate]at hv;rw[hv.2];exact hzo)
 have hzl:=zeroCells_one z k
 have e1:ev' x= .slice (some ⟨g,off,none⟩) k c:=hev x _ hx
 simp only[Nat.add_zero,List.length_replicate]at hst
 refine⟨.tuple #[],_,iv,.inl ?_,r.rowed hne (grownBy_setRow w' g _),hK ρ w' _ r (setRow_heap w' g cs.toArray _ tg _ hc) (grownBy_setRow _ _ _) (by simp)⟩
 simp[execOp,resolve,invoke,builtin,e1,Builtin.clear_,run_underlying hu,zeroValue,typeInfo,hi,hz,hza,hzl,hst,hk]
/-- a row is copied into a part of a row that is held raw -/
theorem opS_copy(hτ:TabOK P τ){dst:Option Tmp}{t ty e by_ k off c g tg:Nat}{x y:Operand}{ag ag':Bool}{ze:List Value}{z:Value}{bt:Nat}{pos:String}{after:Array Edge}{guard:Option (Nat×Bool)}{ik ik':IntKind}{sz0 e' al al' tag':Nat}{fs fs':List (Nat×Nat)}
  {cs ds:List Value} {vy:SV} {K:SV→Hp→Nat→Iv→World→Prop}
  (ht:τ t=some ⟨sz0,ag,bt,ze,4,ik,e,al,fs⟩) (hte:τ e=some ⟨1,ag',by_,[z],tag',ik',e',al',fs'⟩) (hx:ev l x=some (.o (.v (.slice (some ⟨g,off,none⟩) k c)))) (hy:ev l y=some vy)
  (hg:∀ρ w',Rel H nx iv B w ρ w'→w'.heap[g]? =some (.cells cs.toArray tg (0,0))∧∀id b,getH H id=some b→(ρ id).nil=false→(ρ id).g≠g)
  (src:∀ρ w',Rel H nx iv B w ρ w'→∃a m,vy.den ρ= .slice a ds.length m∧∀(j:Nat) u,ds[j]? =some u→∃ad,a=some ad∧w'.cell? (ad.add j)=some u)
  (hds:ds.length≤k) (hfit:off+ds.length≤cs.length) (h1:∀u∈ds,u.oneCell'=true)
  (hK:∀ρ w' w2,Rel H nx iv B w ρ w'→w2.heap[g]? =some (.cells (cs.take off++ds++cs.drop (off+ds.length)).toArray tg (0,0))→w'.grownBy w2 (some g)→w2.heap.size=w'.heap.size→K (.o (.v (goInt ds.length))) H nx iv w2):
  OpS P B ⟨dst,.call ⟨.builtin .copy,⟨[x,y]⟩,⟨[t,t]⟩⟩,ty,pos,after,guard⟩ l H nx iv w K:=by
 refine⟨fun ρ w' ev' r hev=>?_⟩
 have hu:=(hτ t _ ht).i4 rfl
 simp only at hu
 have hteo:=hτ e _ hte
 obtain⟨inf,zv,hi,hsz,hby,hz,hzc⟩:=hteo.info
 simp only at hsz
 obtain⟨hc,hne⟩:=hg ρ w' r
 obtain⟨ay,m,hya,hcells⟩:=src ρ w' r
 have e1:ev' x= .slice (some ⟨g,off,none⟩) k c:=hev x _ hx
 have e2:ev' y= .slice ay ds.length m:=by rw[←hya];exact hev y _ hy
 refine⟨goInt ds.length,w'.setRow g (cs.take off++ds++cs.drop (off+ds.length)).toArray,iv,.inl ?_,r.rowed hne (grownBy_setRow w' g _),hK ρ w' _ r (setRow_heap w' g cs.toArray _ tg _ hc) (grownBy_setRow _ _ _) (by simp)⟩
 have hmin:Nat.min ds.length k=ds.length:=Nat.min_eq_left hds
 have hrun:(Builtin.copy_ #[t,t] ty #[.slice (some ⟨g,off,none⟩) k c,.slice ay ds.length m]).run P w'= .ok (goInt ds.length) (w'.setRow g (cs.take off++ds++cs.drop (off+ds.length)).toArray):=by
  cases ay with
  |some ad=>
   have:=run_copy_row (P:=P) w' t t ty e g off k c ad ds.length m cs.toArray tg ds hu (by simp[hi,hsz]) hc (by rw[hmin]) (fun j v hv=>by
    obtain⟨ad',h2,h3⟩:=hcells j v hv
    injection h2 with h2
    rw[h2];exact h3) (by simpa using hfit) h1
   simpa using this
  |none=>
   have hd:ds=[]:=by
    cases ds with
    |nil=>rfl
    |cons u r=>obtain⟨ad',h2,_⟩:=hcells 0 u rfl;cases h2
   subst hd
   have hself:=setRow_self w' g cs.toArray tg (0,0) hc
   simp[Builtin.copy_,run_underlying hu,Builtin.lenOf,Builtin.firstCells,sizeOf,typeInfo,hi,storeCells,hself]
 simp[execOp,resolve,invoke,builtin,e1,e2,hrun]
end
end Go.Sx

/- Appending zeros to no row (Go's Grow). No condition. -/
namespace Go.Sx
open Go
section
variable{P:Program}{τ:Tab}{B nx:Nat}{l:Env}{H:Hp}{iv:Iv}{w w':World}{ρ:Nat→Val}
end
end Go.Sx

/- Bytes of one's own as a string; the string that is kept. No condition. -/
namespace Go.Sx
open Go
section
variable{P:Program}{τ:Tab}{B nx:Nat}{l:Env}{H:Hp}{iv:Iv}{w w':World}{ρ:Nat→Val}
end
end Go.Sx

/- Storing into rows that are held raw. No condition. -/
namespace Go.Sx
open Go
theorem setCells_block:∀(nv:List Value) (w:World) (b off:Nat) (cur:Array Value) (e:TypeId),w.heap[b]? =some (.cells cur e (0,0))→off+nv.length≤cur.size→
  (w.setCells b off nv).heap[b]? =some (.cells (cur.toList.take off++nv++cur.toList.drop (off+nv.length)).toArray e (0,0))
 |[],w,b,off,cur,e,h,_=>by simpa [World.setCells]using h
 |v::r,w,b,off,cur,e,h,hl=>by
  simp only[World.setCells]
  have hl1:off+(r.length+1)≤cur.size:=by simpa using hl
  have h1:(w.setCell ⟨b,off,none⟩ v).heap[b]? =some (.cells (cur.setIfInBounds off v) e (0,0)):=by
   simp[World.setCell,Array.getElem?_modify,h]
  rw[setCells_block r _ b (off+1) _ e h1 (by simp;omega)]
  congr 3
  have hcl:cur.toList.length=cur.size:=by simp
  apply List.ext_getElem?
  intro i
  have e1:(cur.setIfInBounds off v).toList=cur.toList.set off v:=by simp
  rw[e1]
  rcases Nat.lt_trichotomy i off with hi|hi|hi
  ·rw[List.append_assoc,List.append_assoc,List.getElem?_append_left (by simp;omega),List.getElem?_append_left (by simp;omega),List.getElem?_take_of_lt (by omega),List.getElem?_take_of_lt hi,List.getElem?_set_ne (by omega)]
  ·subst hi
   rw[List.append_assoc,List.append_assoc,List.getElem?_append_left (by simp;omega),List.getElem?_append_right (by simp;omega),List.getElem?_take_of_lt (by omega),List.getElem?_set_self (by simp;omega)]
   have:(List.take i cur.toList).length=i:=by rw[List.length_take];omega
   rw[this,Nat.sub_self]
   rfl
  ·have l1:(List.take (off+1) (cur.toList.set off v)).length=off+1:=by rw[List.length_take,List.length_set];omega
   have l2:(List.take off cur.toList).length=off:=by rw[List.length_take];omega
   have hd:List.drop (off+1+r.length) (cur.toList.set off v)=List.drop (off+(v::r).length) cur.toList:=by
    rw[List.drop_set_of_lt (by omega),List.length_cons]
    congr 1
    omega
   obtain⟨k,rfl⟩:∃k,i=off+1+k:=⟨i-off-1,by omega⟩
   rw[List.append_assoc,List.append_assoc,hd]
   generalize List.drop (off+(v::r).length) cur.toList=tl
   have A:(List.take (off+1) (cur.toList.set off v)++(r++tl))[off+1+k]? =(r++tl)[k]? :=by
    rw[List.getElem?_append_right (by omega),l1];congr 1;omega
   have B:(List.take off cur.toList++((v::r)++tl))[off+1+k]? =(r++tl)[k]? :=by
    rw[List.getElem?_append_right (by omega),l2,show off+1+k-off=k+1 by omega];rfl
   rw[A,B]
theorem setCells_other:∀(nv:List Value) (w:World) (b off:Nat) {k:Nat},k≠b→(w.setCells b off nv).heap[k]? =w.heap[k]?
 |[],_,_,_,_,_=>rfl
 |v::r,w,b,off,k,hk=>by
  simp only[World.setCells]
  rw[setCells_other r _ b (off+1) hk]
  simp[World.setCell,Array.getElem?_modify,Ne.symm hk]
theorem setCells_frm:∀(vs:List Value) (w0:World) (b o:Nat),(w0.setCells b o vs).os=w0.os∧(w0.setCells b o vs).tape=w0.tape∧(w0.setCells b o vs).output=w0.output∧(w0.setCells b o vs).heap.size=w0.heap.size
 |[],_,_,_=>⟨rfl,rfl,rfl,rfl⟩
 |v::r,w0,b,o=>by
  simp only[World.setCells]
  obtain⟨h1,h2,h3,h4⟩:=setCells_frm r (w0.setCell ⟨b,o,none⟩ v) b (o+1)
  exact⟨h1,h2,h3,by rw[h4];simp⟩
/-- an element of a row that is held raw is stored -/
theorem storeRow{w:World}{Bc e sz n:Nat}{v:Value}{xs nv:List Value}{a:Option Addr}{c j:Nat}(h:w.ownsRow Bc e sz v n xs)(hv:v= .slice a n c)(hj:j<n)(hnv:nv.length=sz)(hs:0<sz):
  ∃g,a=some ⟨g,0,none⟩∧(∀k,k<sz→(w.cell? (Addr.add ⟨g,j*sz,none⟩ k)).isSome=true∧w.frozen? (Addr.add ⟨g,j*sz,none⟩ k)=false)∧
   (setCells w ⟨g,j*sz,none⟩ nv).ownsRow Bc e sz v n (xs.take (j*sz)++nv++xs.drop (j*sz+sz))∧w.grownBy (setCells w ⟨g,j*sz,none⟩ nv) (some g)∧(setCells w ⟨g,j*sz,none⟩ nv).heap.size=w.heap.size:=by
 rcases h.2 with⟨_,h0⟩|⟨g,cap,cur,hv2,hb,hg,hnc,hcm,hcs,htk⟩
 ·omega
 rw[hv]at hv2
 injection hv2 with h1 h2 h3
 subst h1 h3
 have hjs:j*sz+sz≤n*sz:=by
  have:=Nat.mul_le_mul_right sz (show j+1≤n from hj)
  rw[Nat.add_mul,Nat.one_mul]at this
  exact this
 have hns:n*sz≤c*sz:=Nat.mul_le_mul_right sz hnc
 obtain⟨f1,f2,f3,f4⟩:=setCells_frm nv w g (j*sz)
 have hblk:=setCells_block nv w g (j*sz) cur e hg (by omega)
 refine⟨g,rfl,fun k hk=>?_,?_,?_,?_⟩
 ·rw[addr_add]
  refine⟨?_,?_⟩
  ·rw[cell_of (g:=g) (cs:=cur.toList) (by simpa using hg),List.getElem?_eq_getElem (by simp;omega)];rfl
  ·simp[World.frozen?,hg]
 ·rw[setCells_eq]
  refine⟨?_,.inr ⟨g,c,_,hv,hb,hblk,hnc,hcm,?_,?_⟩⟩
  ·simp only[List.length_append,List.length_take,List.length_drop,hnv,h.1];omega
  ·simp only[List.size_toArray,List.length_append,List.length_take,List.length_drop,hnv,Array.length_toList];omega
  ·subst htk
   have hcl:cur.toList.length=cur.size:=by simp
   have ha:List.drop (j*sz+sz) (List.take (n*sz) cur.toList)=(List.drop (j*sz+sz) cur.toList).take (n*sz-(j*sz+sz)):=by rw[List.drop_take]
   rw[ha,List.take_take,Nat.min_eq_left (by omega)]
   show List.take (n*sz) (_++nv++_)=_
   rw[hnv,List.take_append,List.take_of_length_le (by simp;omega)]
   congr 2
   simp only[List.length_append,List.length_take,hnv]
   omega
 ·rw[setCells_eq]
  exact⟨f1,f2,f3,by rw[f4];exact Nat.le_refl _,fun k hk hne=>setCells_other nv w g _ (fun e=>hne (by rw[e]))⟩
 ·rw[setCells_eq];exact f4
end Go.Sx

/- Maps that are held raw: making one, asking, and a new entry; a block of one's own goes into an array of one's own. No condition. -/
namespace Go.Sx
open Go
/-- keys of a struct's type -/
structure KeyS(P:Program)(kt:TypeId)(KS:Value→Prop):Prop where
 desc:∃fs,P.underlying kt=some (.struct fs)
 check:∀(w:World) (em:Bool) (v:Value),KS v→(Instr.checkKey em 10000 kt v).run P w= .ok () w
 eq:∀(w:World) (a b:Value),KS a→KS b→∃c,(Op.equal kt a b).run P w= .ok c w∧(c=true↔a=b)
/-- a set of keys, as a map to bools -/
def MapB(w:World)(g:Nat)(ks:List Value):Prop:=∃es clock,w.heap[g]? =some (.map es clock)∧es.toList.map (·.key)=ks∧∀e∈es.toList,e.val= .bool true
section
variable{P:Program}{τ:Tab}{B n nx:Nat}{l:Env}{H:Hp}{iv:Iv}{w w' w2:World}{ρ:Nat→Val}{a:Act}
theorem MapB.keep{g:Nat}{ks:List Value}(h:MapB w g ks)(hk:w2.heap[g]? =w.heap[g]?):MapB w2 g ks:=by
 obtain⟨es,c,h1,h2⟩:=h
 exact⟨es,c,by rw[hk];exact h1,h2⟩
theorem run_getMap{r:Nat}{es:Array MapEntry}{clock:Nat}(hb:w.heap[r]? =some (.map es clock)):(getObj r).run P w= .ok (.map es clock) w:=by simp[getObj,Sem.run,hb]
theorem run_setMap{r:Nat}{es:Array MapEntry}{clock:Nat}(o:Obj)(hb:w.heap[r]? =some (.map es clock)):(setObj r o).run P w= .ok () {w with heap:=w.heap.setIfInBounds r o}:=by simp[setObj,Sem.run,hb]
theorem findAsking_spec{kt:TypeId}{KS:Value→Prop}(K:KeyS P kt KS){x:Value}(hx:KS x)(w:World):∀(es:List MapEntry) (i:Nat),(∀e∈es,KS e.key)→
  ((Instr.findAsking kt x es i).run P w= .ok none w∧∀e∈es,e.key≠x)∨∃j e,(Instr.findAsking kt x es i).run P w= .ok (some (j,e.val)) w∧e∈es∧e.key=x
 |[],i,_=>.inl ⟨rfl,fun e he=>by cases he⟩
 |e::es,i,h=>by
  obtain⟨c,hc,hiff⟩:=K.eq w x e.key hx (h e List.mem_cons_self)
  cases c with
  |true=>exact .inr ⟨i,e,by simp[Instr.findAsking,hc],List.mem_cons_self,(hiff.1 rfl).symm⟩
  |false=>
   have hne:e.key≠x:=fun he=>by have:=hiff.2 he.symm;cases this
   rcases findAsking_spec K hx w es (i+1) (fun e he=>h e (List.mem_cons_of_mem _ he))with⟨h1,h2⟩|⟨j,e',h1,h2,h3⟩
   ·refine .inl ⟨by simp[Instr.findAsking,hc,h1],fun e' he=>?_⟩
    rcases List.mem_cons.1 he with rfl|he
    ·exact hne
    ·exact h2 e' he
   ·exact .inr ⟨j,e',by simp[Instr.findAsking,hc,h1],List.mem_cons_of_mem _ h2,h3⟩
theorem findKey_spec{kt:TypeId}{KS:Value→Prop}(K:KeyS P kt KS){x:Value}(hx:KS x)(w:World)(es:List MapEntry)(h:∀e∈es,KS e.key):
  ((Instr.findKey kt x es).run P w= .ok none w∧∀e∈es,e.key≠x)∨∃j e,(Instr.findKey kt x es).run P w= .ok (some (j,e.val)) w∧e∈es∧e.key=x:=by
 obtain⟨fs,hfs⟩:=K.desc
 cases es with
 |nil=>exact .inl ⟨by simp[Instr.findKey,run_underlying hfs,Instr.findNow],fun e he=>by cases he⟩
 |cons e es=>
  have hs:Instr.findNow (.struct fs) x (e::es) 0=none:=by
   unfold Instr.findNow
   cases x<;>cases e.key<;>rfl
  have:=findAsking_spec K hx w (e::es) 0 h
  rcases this with⟨h1,h2⟩|⟨j,e',h1,h2,h3⟩
  ·exact .inl ⟨by simp[Instr.findKey,run_underlying hfs,hs,h1],h2⟩
  ·exact .inr ⟨j,e',by simp[Instr.findKey,run_underlying hfs,hs,h1],h2,h3⟩
theorem opS_makeMap{dst:Option Tmp}{t ty:Nat}{pos:String}{after:Array Edge}{guard:Option (Nat×Bool)}{K:SV→Hp→Nat→Iv→World→Prop}
  (hK:∀ρ w' w2,Rel H nx iv B w ρ w'→MapB w2 w'.heap.size []→w'.grownBy w2 none→w2.heap.size=w'.heap.size+1→K (.o (.v (.map (some w'.heap.size)))) H nx ((w'.heap.size,w'.heap.size+1)::iv) w2):
  OpS P B ⟨dst,.makeMap t none,ty,pos,after,guard⟩ l H nx iv w K:=by
 refine⟨fun ρ w' ev' r hev=>?_⟩
 have hp:(w'.alloc (.map #[] 0)).heap=w'.heap.push (.map #[] 0):=rfl
 have hg:w'.grownBy (w'.alloc (.map #[] 0)) none:=⟨rfl,rfl,rfl,by rw[hp,Array.size_push];omega,fun k hk _=>by rw[hp,Array.getElem?_push,if_neg (Nat.ne_of_lt hk)]⟩
 have hsz:(w'.alloc (.map #[] 0)).heap.size=w'.heap.size+1:=by rw[hp,Array.size_push]
 refine⟨.map (some w'.heap.size),w'.alloc (.map #[] 0),(w'.heap.size,w'.heap.size+1)::iv,.inl ?_,r.moved (by omega) (fun id b hb hn=>hg.block _ (r.low id b hb hn).2 (by simp)) ?_,
  hK ρ w' _ r ⟨#[],0,by rw[hp];simp,rfl,by simp⟩ hg hsz⟩
 ·simp[execOp,Instr.makeMap]
 ·intro lo hi hm
  rcases List.mem_cons.1 hm with e|hm
  ·injection e with e1 e2
   subst e1 e2
   exact⟨by omega,fun id b hb hn h=>by have:=(r.low id b hb hn).2;omega⟩
  ·exact⟨by have:=r.ivs lo hi hm;have:=r.size;omega,fun id b hb hn=>r.prot lo hi hm id b hb hn⟩
theorem opS_lookup{dst:Option Tmp}{t ty kt et g:Nat}{m x:Operand}{pos:String}{after:Array Edge}{guard:Option (Nat×Bool)}{K:SV→Hp→Nat→Iv→World→Prop}{KS:Value→Prop}(Q:KeyS P kt KS){vx:SV}{key:Value}{ks:List Value}
  (ht:P.underlying t=some (.map kt et)) (hz:∀w,(zeroValue et).run P w= .ok (.bool false) w) (hm:ev l m=some (.o (.v (.map (some g))))) (hx:ev l x=some vx) (hkey:∀ρ,vx.den ρ=key) (hks:KS key) (hall:∀k∈ks,KS k)
  (hg:∀ρ w',Rel H nx iv B w ρ w'→MapB w' g ks)
  (hK:∀ρ w' b,Rel H nx iv B w ρ w'→(b=true↔key∈ks)→K (.o (.v (.bool b))) H nx iv w'):
  OpS P B ⟨dst,.lookup t m x false,ty,pos,after,guard⟩ l H nx iv w K:=by
 refine⟨fun ρ w' ev' r hev=>?_⟩
 obtain⟨es,clock,h1,h2,h3⟩:=hg ρ w' r
 have e1:ev' m= .map (some g):=hev m _ hm
 have e2:ev' x=key:=by rw[hev x _ hx,hkey]
 have hes:∀e∈es.toList,KS e.key:=fun e he=>hall _ (by rw[←h2];exact List.mem_map.2 ⟨e,he,rfl⟩)
 have hck:=Q.check w' es.isEmpty key hks
 rcases findKey_spec Q hks w' es.toList hes with⟨f1,f2⟩|⟨j,e,f1,f2,f3⟩
 ·refine⟨.bool false,w',iv,.inl ?_,r.here,hK ρ w' false r ⟨(fun h=>by cases h),fun h=>?_⟩⟩
  ·simp[execOp,Instr.lookup,e1,e2,run_underlying ht,run_getMap h1,hck,f1,hz]
  ·rw[←h2]at h
   obtain⟨e,he,hk⟩:=List.mem_map.1 h
   exact absurd hk (f2 e he)
 ·refine⟨.bool true,w',iv,.inl ?_,r.here,hK ρ w' true r ⟨fun _=>by rw[←h2];exact List.mem_map.2 ⟨e,f2,f3⟩,fun _=>rfl⟩⟩
  have:=h3 e f2
  simp[execOp,Instr.lookup,e1,e2,run_underlying ht,run_getMap h1,hck,f1,this]
theorem opS_mapUpdate{dst:Option Tmp}{t ty kt et g:Nat}{m x y:Operand}{pos:String}{after:Array Edge}{guard:Option (Nat×Bool)}{K:SV→Hp→Nat→Iv→World→Prop}{KS:Value→Prop}(Q:KeyS P kt KS){vx:SV}{key:Value}{ks:List Value}
  (ht:P.underlying t=some (.map kt et)) (hm:ev l m=some (.o (.v (.map (some g))))) (hx:ev l x=some vx) (hkey:∀ρ,vx.den ρ=key) (hy:ev l y=some (.o (.v (.bool true)))) (hks:KS key) (hall:∀k∈ks,KS k) (hnew:key∉ks)
  (hg:∀ρ w',Rel H nx iv B w ρ w'→MapB w' g ks∧∀id b,getH H id=some b→(ρ id).nil=false→(ρ id).g≠g)
  (hK:∀ρ w' w2,Rel H nx iv B w ρ w'→MapB w2 g (ks++[key])→w'.grownBy w2 (some g)→w2.heap.size=w'.heap.size→K (.o (.v undef)) H nx iv w2):
  OpS P B ⟨dst,.mapUpdate t m x y,ty,pos,after,guard⟩ l H nx iv w K:=by
 refine⟨fun ρ w' ev' r hev=>?_⟩
 obtain⟨⟨es,clock,h1,h2,h3⟩,hne⟩:=hg ρ w' r
 have e1:ev' m= .map (some g):=hev m _ hm
 have e2:ev' x=key:=by rw[hev x _ hx,hkey]
 have e3:ev' y= .bool true:=hev y _ hy
 have hes:∀e∈es.toList,KS e.key:=fun e he=>hall _ (by rw[←h2];exact List.mem_map.2 ⟨e,he,rfl⟩)
 have hck:=Q.check w' false key hks
 have hlt:g<w'.heap.size:=(Array.getElem?_eq_some_iff.1 h1).1
 rcases findKey_spec Q hks w' es.toList hes with⟨f1,f2⟩|⟨j,e,f1,f2,f3⟩
 ·let ob:Obj:=.map (es.push {key:=key,val:=.bool true,born:=clock}) (clock+1)
  have hgr:w'.grownBy {w' with heap:=w'.heap.setIfInBounds g ob} (some g):=⟨rfl,rfl,rfl,by simp,fun k _ hk=>by
   rw[Array.getElem?_setIfInBounds_ne]
   exact fun e=>hk (by rw[e])⟩
  refine⟨undef,{w' with heap:=w'.heap.setIfInBounds g ob},iv,.inr ⟨?_,rfl⟩,r.rowed hne hgr,hK ρ w' _ r ⟨es.push {key:=key,val:=.bool true,born:=clock},clock+1,by simp[hlt,ob],?_,?_⟩ hgr (by simp)⟩
  ·simp[execOp,Instr.mapUpdate,e1,e2,e3,run_underlying ht,run_getMap h1,run_setMap _ h1,hck,f1,ob]
  ·simp[h2]
  ·intro e he
   simp at he
   rcases he with he|rfl
   ·exact h3 e (by simpa using he)
   ·rfl
 ·exact absurd (by rw[←h2];exact List.mem_map.2 ⟨e,f2,f3⟩) hnew
/-- an element of an array value -/
theorem opS_indexA{dst:Option Tmp}{t ty len e:Nat}{x i:Operand}{pos:String}{after:Array Edge}{guard:Option (Nat×Bool)}{K:SV→Hp→Nat→Iv→World→Prop}{vx:SV}{cs:Array Value}{k:IntKind}{m:Int}{u:Value}
  (hu:P.underlying t=some (.array len e)) (hs:∀w,(sizeOf e).run P w= .ok 1 w) (hp:∀(w:World) (j:Nat) v,cs[j]? =some v→(part e cs j).run P w= .ok v w) (hx:ev l x=some vx) (hxd:∀ρ,vx.den ρ= .agg cs) (hi:ev l i=some (.o (.v (.int k m)))) (hm:0≤m∧m<len) (hc:cs[m.toNat]? =some u)
  (hK:∀ρ w',Rel H nx iv B w ρ w'→K (.o (.v u)) H nx iv w'):OpS P B ⟨dst,.index t x i,ty,pos,after,guard⟩ l H nx iv w K:=by
 refine⟨fun ρ w' ev' r hev=>⟨u,w',iv,.inl ?_,r.here,hK ρ w' r⟩⟩
 have e1:ev' x= .agg cs:=by rw[hev x _ hx,hxd]
 have e2:ev' i= .int k m:=hev i _ hi
 have e3:=hp w' _ u hc
 simp[execOp,e1,e2,Instr.index,asIntOf,run_underlying hu,hm.1,hm.2,hs,e3]
/-- an array of one's own goes into an array of one's own, and is held raw -/
theorem opG_store(hτ:TabOK P τ){dst:Option Tmp}{t ty id id2 off k c:Nat}{e2:TypeId}{cs2:List Value}{tH:Hp}{ad x:Operand}{pos:String}{after:Array Edge}{guard:Option (Nat×Bool)}{K:SV→Hp→Nat→Iv→World→Prop}
  (ha:ev l ad=some (.o (.p id off))) (hx:ev l x=some (.o (.s id2 0 k c))) (hid:id<nx) (hid2:getH H id2=some (.arr e2 cs2)) (hs:SubH H tH) (ho:okH id2 tH=true)
  (hK:∀ρ w',Rel H nx iv B w ρ w'→storeK τ B t (.o (.p id off)) (.o (.v (.slice (some ⟨(ρ id2).g,0,none⟩) k c))) tH nx (((ρ id2).g,(ρ id2).g+1)::iv) w' (fun H' w2=>K (.o (.v undef)) H' nx (((ρ id2).g,(ρ id2).g+1)::iv) w2)):
  OpG P B ⟨dst,.store t ad x,ty,pos,after,guard⟩ l H nx iv w K:=by
 refine⟨fun ρ w' ev' r hev=>?_⟩
 have e1:ev' ad=(SV.o (.p id off)).den ρ:=hev ad _ ha
 have e2:ev' x= .slice (some ⟨(ρ id2).g,0,none⟩) k c:=hev x _ hx
 have r2:=r.free hid2 (by simp) (r.fits hid2).1 hs ho
 have sat:Sat 0 [] tH nx (((ρ id2).g,(ρ id2).g+1)::iv) B w' ρ ⟨#[],[]⟩ w':=⟨r2,rfl,rfl,(fun u v hv=>by cases hv),fun u v hv=>by cases hv⟩
 obtain⟨H',w2,w3,hk,hrel,hrun⟩:=storeK_spec (addr:=.o (.p id off)) (x:=.o (.v (.slice (some ⟨(ρ id2).g,0,none⟩) k c))) hτ sat (by exact hid) (by simp[SV.sc,At.sc]) (hK ρ w' r)
 refine⟨w2,w3,H',_,?_,hrel,hk⟩
 have hrun:(Instr.storeAt t ((SV.o (.p id off)).den ρ) (.slice (some ⟨(ρ id2).g,0,none⟩) k c)).run P w'= .ok () w3:=hrun
 simp[execOp,e1,e2,hrun]
end
end Go.Sx
