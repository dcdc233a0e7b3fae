/- A part of the proof: texts Sx6 to Sx10. Each tells its conditions in its theorems. -/
import Derived.OrdersHeld
import Derived.Test.YtkdcaknoaeicdaaGreatP0
/- The executor is sound, fourth part: make, append, comparisons, calls; the theorem on one operation. -/
namespace Go.Sx
open Go

section
variable{P:Program}{τ:Tab}{B n nx:Nat}{l:Env}{H:Hp}{iv:Iv}{w w':World}{ρ:Nat→Val}{a:Act}

theorem made_one(z:Value)(c:Nat):(madeCells #[z] c)=(List.replicate c z).toArray:=by
 unfold madeCells
 apply Array.ext'
 simp[List.map_const',Nat.mod_one]
theorem made_many(zs:List Value)(c:Nat):(madeCells zs.toArray (c*zs.length))=((List.replicate c zs).flatten).toArray:=by
 unfold madeCells
 apply Array.ext'
 simp only[Array.toList_map,Array.toList_range,List.size_toArray]
 induction c with
 |zero=>simp
 |succ c ih=>
  rw[Nat.succ_mul,List.range_add,List.map_append,ih,List.replicate_succ',List.flatten_append]
  simp only[List.flatten_cons,List.flatten_nil,List.append_nil,List.map_map]
  congr 1
  apply List.ext_getElem
  ·simp
  ·intro i h1 h2
   simp at h1
   simp[Nat.mod_eq_of_lt h1,h1]

theorem makeK_spec(hτ:TabOK P τ)(sat:Sat n l H nx iv B w ρ a w'){t:Nat}{x y:SV}{K:SV→Hp→Nat→Prop}(h:makeK τ t x y H nx K):
  ∃r H' nx' ρ' w2,K r H' nx'∧Rel H' nx' iv B w ρ' w2∧r.sc nx'∧nx≤nx'∧(∀id,id<nx→ρ id=ρ' id)∧(Instr.makeSlice t (x.den ρ) (y.den ρ)).run P w'= .ok (r.den ρ') w2:=by
 unfold makeK at h
 split at h
 ·rename_i k1 a1 k2 b1
  split at h
  ·rename_i sz ag by_ ze tag ik e al fs hti
   have ht:=hτ t _ hti
   split at h
   ·rename_i htag
    have hu:=ht.i4 (beq_t htag)
    simp only at hu
    split at h
    ·rename_i sz' ag' by' ze' tag' ik' e' al' fs' hte
     have hte:=hτ e _ hte
     obtain⟨inf,z,hi,hsz,hby,hz,hzc⟩:=hte.info
     simp only at hsz hby hzc
     obtain⟨m,c,rfl,rfl,hmc,hbytes,h63,h⟩:=h
     have hb':(inf.bytes:Int)*(c:Int)≤281474976710656:=by
      rw[hby]
      have hb2:((by'*c:Nat):Int)≤281474976710656:=by omega
      rwa [Int.natCast_mul]at hb2
     have hrun:=run_make (P:=P) w' t e inf z hu hi hz k1 k2 (m:Int) (c:Int) (by omega) (by omega) hb' (by omega)
     simp only[Int.toNat_natCast]at hrun
     have fin:∀cs:List Value,cs.toArray=madeCells z.cells (c*inf.size)→newK (.arr e cs) H nx (fun H' nx'=>K (.o (.s nx 0 m c)) H' nx')→
       ∃r H' nx' ρ' w2,K r H' nx'∧Rel H' nx' iv B w ρ' w2∧r.sc nx'∧nx≤nx'∧(∀id,id<nx→ρ id=ρ' id)∧(Instr.makeSlice t (.int k1 m) (.int k2 c)).run P w'= .ok (r.den ρ') w2:=by
      intro cs hcs hK
      refine⟨_,_,_,upd ρ nx ⟨w'.heap.size,0,false⟩,w'.alloc (.cells cs.toArray e),hK,?_,?_,by omega,upd_lt,?_⟩
      ·refine sat.rel.push (.arr e cs) _ rfl rfl rfl (by simp) (fun k hk=>heap_alloc_old _ _ hk) (fun _=>⟨Nat.le_refl _,by simp⟩) ⟨rfl,heap_alloc_new _ _⟩ trivial
      ·simp[SV.sc,At.sc]
      ·rw[hrun,←hcs];simp[SV.den,At.den]
     have hzl:=hte.zlen
     simp only at hzl
     have hzarr:z.cells=ze'.toArray:=by apply Array.ext';simpa using hzc
     split at h
     ·rename_i z0
      refine fin _ ?_ h
      have:inf.size=1:=by rw[hsz,←hzl];rfl
      rw[this,Nat.mul_one,hzarr,made_one]
     ·refine fin _ ?_ h
      rw[hsz,←hzl,hzarr]
      rcases Nat.eq_zero_or_pos ze'.length with h0|h0
      ·have:ze'=[]:=List.eq_nil_of_length_eq_zero h0
       subst this
       simp[madeCells]
      ·rw[made_many]
    ·exact h.elim
   ·exact h.elim
  ·exact h.elim
 ·exact h.elim

theorem newsK_spec(sat:Sat n l H nx iv B w ρ a w'){size:Nat}{x:SV}{K:Nat→List Value→Prop}(hpos:0<size)(h:newsK B H nx iv w size x K):
  ∃m c ad news,K m news∧x.den ρ= .slice ad m c∧news.length=m*size∧(∀u∈news,u.oneCell'=true)∧
   ((ad=none∧m=0)∨∃ad',ad=some ad'∧∀j u,news[j]? =some u→w'.cell? (ad'.add j)=some u):=by
 have rel:=sat.rel
 unfold newsK at h
 split at h
 ·rename_i id off m c
  split at h
  ·rename_i bt cs hH
   obtain⟨h1,hd⟩:=dropK_spec h
   obtain⟨h2,ht⟩:=takeK_spec h1
   obtain⟨vs,h3,hvs,hv1⟩:=rawK_spec h2
   refine⟨m,c,_,vs,h3,rfl,?_,hv1,.inr ⟨_,rfl,fun j u hu=>?_⟩⟩
   ·have:=congrArg List.length hvs
    simp at this ht
    omega
   ·rw[addr_add,cell_of (rel.box id bt cs hH)]
    have e:(vs.map At.v)[j]? =some (.v u):=by simp[hu]
    rw[←hvs]at e
    simp only[List.getElem?_take,List.getElem?_drop]at e
    split at e
    ·simp[e,At.den]
    ·simp at e
  ·rename_i bt cs hH
   obtain⟨vs,h1,h2,h3,h4⟩:=h
   refine⟨m,c,_,vs,h4,rfl,h2,h3,.inr ⟨_,rfl,fun j u hu=>?_⟩⟩
   rw[addr_add,cell_of (rel.arr id bt cs hH)]
   rw[←h1]at hu
   simp only[List.getElem?_take,List.getElem?_drop]at hu
   split at hu
   ·exact hu
   ·simp at hu
  ·exact h.elim
 ·rename_i ad m c
  obtain⟨vs,h1,h2,h3,h4⟩:=h
  refine⟨m,c,ad,vs,h4,rfl,h1,h2,?_⟩
  rcases Nat.eq_zero_or_pos m with h0|h0
  ·subst h0
   have:vs=[]:=List.eq_nil_of_length_eq_zero (by simpa using h1)
   subst this
   cases ad with
   |none=>exact .inl ⟨rfl,rfl⟩
   |some ad=>exact .inr ⟨ad,rfl,fun j u hu=>by simp at hu⟩
  ·exact .inr (h3 ρ w' rel h0)
 ·rename_i id m
  split at h
  ·rename_i bt sz cs hH
   obtain⟨h1,h2,h3⟩:=h
   rcases rel.vec id bt sz cs hH with⟨hn,rfl⟩|⟨hn,spare,hb,_⟩
   ·have h0:m=0:=by
     have h4:m*size=0:=by simpa using h1.symm
     rcases Nat.mul_eq_zero.1 h4 with h5|h5<;>omega
    subst h0
    exact⟨0,0,none,[],h3,by simp[SV.den,At.den,hn],by simp,by simp,.inl ⟨rfl,rfl⟩⟩
   ·refine⟨m,(ρ id).cap,_,cs,h3,by simp only[SV.den,At.den,hn];rfl,h1,h2,.inr ⟨_,rfl,fun j u hu=>?_⟩⟩
    rw[addr_add,cell_of hb,Nat.zero_add,List.getElem?_append_left (List.getElem?_eq_some_iff.1 hu).1]
    exact hu
  ·exact h.elim
 ·exact h.elim

theorem run_append_of_nil'(w:World)(base:Nat)(t ty e:TypeId)(i:TypeInfo)(size:Nat)(ht:P.underlying t=some (.slice e))(hi:P.info? e=some i)
  (v:Value) (m:Nat) (xs:List Value) (hown:w.ownsRow base e size v m xs) (c:Nat):(Builtin.append_ #[t,t] ty #[v,.slice none 0 c]).run P w= .ok v w:=by
 rcases hown.2 with⟨rfl,rfl⟩|⟨g,cap,cur,rfl,_,_,hnc,_⟩
 ·simp[Builtin.append_,run_underlying ht,sizeOf,typeInfo,hi,Builtin.lenOf,Builtin.firstCells]
 ·simp[Builtin.append_,run_underlying ht,sizeOf,typeInfo,hi,Builtin.lenOf,Builtin.firstCells,hnc,storeCells]

theorem ownsRow_val{w:World}{e size m:Nat}{v:Value}{xs:List Value}{base:Nat}(h:w.ownsRow base e size v m xs):
  ∃val:Val,(At.w 0 m).den (fun _=>val)=v∧(Blk.vec e size xs).fits (fun _=>val) val w∧(val.nil=false→v.ownBlock=some val.g∧val.g<w.heap.size)∧(val.nil=true→v.ownBlock=none):=by
 rcases h.2 with⟨rfl,rfl⟩|⟨g,cap,cur,rfl,_,hb,hnc,hcap,hcur,htake⟩
 ·have:xs=[]:=List.eq_nil_of_length_eq_zero (by simpa using h.1)
  exact⟨⟨0,0,true⟩,rfl,.inl ⟨rfl,this⟩,(fun h=>by cases h),fun _=>rfl⟩
 ·refine⟨⟨g,cap,false⟩,rfl,.inr ⟨rfl,cur.toList.drop (m*size),?_,?_,hcap⟩,fun _=>⟨rfl,(Array.getElem?_eq_some_iff.1 hb).1⟩,(fun h=>by cases h)⟩
  ·rw[←htake,List.take_append_drop];simpa using hb
  ·rw[←htake,List.take_append_drop];simpa using hcur

theorem vec_owns(rel:Rel H nx iv B w ρ w'){id m e sz:Nat}{cs:List Value}(hH:getH H id=some (.vec e sz cs))(hl:cs.length=m*sz)(hpos:0<sz):
  w'.ownsRow B e sz ((At.w id m).den ρ) m cs:=by
 rcases rel.vec id e sz cs hH with⟨hn,rfl⟩|⟨hn,spare,hb,hsl,hcap⟩
 ·have h0:m=0:=by
   have h4:m*sz=0:=by simpa using hl.symm
   rcases Nat.mul_eq_zero.1 h4 with h5|h5<;>omega
  subst h0
  simp only[At.den,hn]
  exact World.ownsRow_nil _ _ _ _
 ·refine⟨hl,.inr ⟨(ρ id).g,(ρ id).cap,_,by simp only[At.den,hn],(rel.low id _ hH hn).1,hb,?_,hcap,by simpa using hsl,by simp[←hl]⟩⟩
  have h1:m*sz≤(ρ id).cap*sz:=by rw[←hsl,←hl];simp
  exact Nat.le_of_mul_le_mul_right h1 hpos

theorem appendK_spec(hτ:TabOK P τ)(sat:Sat n l H nx iv B w ρ a w'){t ty:Nat}{x y:SV}{K:SV→Hp→Nat→Prop}(h:appendK τ B t x y H nx iv w K):
  ∃r H' nx' ρ' w2,K r H' nx'∧Rel H' nx' iv B w ρ' w2∧r.sc nx'∧nx≤nx'∧(∀id,id<nx→ρ id=ρ' id)∧(Builtin.append_ #[t,t] ty #[x.den ρ,y.den ρ]).run P w'= .ok (r.den ρ') w2:=by
 have rel:=sat.rel
 unfold appendK at h
 split at h
 ·exact h.elim
 rename_i sz ag by_ ze tag ik e al fs hti
 have ht:=hτ t _ hti
 split at h
 ·rename_i htag
  have hu:=ht.i4 (beq_t htag)
  simp only at hu
  split at h
  ·rename_i sz' ag' by' ze' tag' ik' e' al' fs' hte
   have hte:=hτ e _ hte
   split at h
   ·exact h.elim
   ·rename_i z0 zr
    obtain⟨inf,z,hi,hsz,hby,hz,hzc⟩:=hte.info
    have hzl:=hte.zlen
    simp only at hsz hby hzc hzl
    have hpos:0<sz':=by rw[←hzl];simp
    have hzs:z.cells.size=sz':=by rw[←hzl,←hzc];simp
    have h0:=newsK_spec sat hpos h
    clear h
    obtain⟨m,c,ad,news,h,hy,hnl,hn1,hsrc⟩:=h0
    have happ:∀(v:Value) (k:Nat) (xs:List Value),w'.ownsRow B e sz' v k xs→(k+m)*by'≤140737488355328→k+m≤maxLen→
      ∃v' w2,(Builtin.append_ #[t,t] ty #[v,y.den ρ]).run P w'= .ok v' w2∧w2.ownsRow B e sz' v' (k+m) (xs++news)∧w'.grownBy w2 v.ownBlock∧(v'.ownBlock=v.ownBlock∨v'.ownBlock=some w'.heap.size):=by
     intro v k xs hown hb hml
     rw[hy]
     rcases hsrc with⟨rfl,rfl⟩|⟨ad',rfl,hcells⟩
     ·have:news=[]:=List.eq_nil_of_length_eq_zero (by simpa using hnl)
      subst this
      exact⟨v,w',run_append_of_nil' w' B t ty e inf sz' hu hi v k xs hown c,by simpa using hown,⟨rfl,rfl,rfl,Nat.le_refl _,fun _ _ _=>rfl⟩,.inl rfl⟩
     ·obtain⟨v',w2,h1,h2,h3,_,h5⟩:=run_append_own_at (P:=P) w' B t ty e inf z sz' by' hu hi hz hsz hby hzs hpos v k xs hown ad' m c news hnl hcells hn1 hml hb (by have:=rel.base;have:=rel.size;omega)
      exact⟨v',w2,h1,h2,h3,h5⟩
    split at h
    ·obtain⟨hb,hml,hK⟩:=h
     obtain⟨v',w2,h1,h2,h3,h5⟩:=happ (.slice none 0 0) 0 [] (World.ownsRow_nil _ _ _ _) (by simpa using hb) (by simpa using hml)
     simp only[Nat.zero_add,List.nil_append]at h2
     obtain⟨val,hv1,hv2,hv3,hv4⟩:=ownsRow_val h2
     refine⟨_,_,_,upd ρ nx val,w2,hK,?_,by simp[SV.sc,At.sc],by omega,upd_lt,?_⟩
     ·refine rel.push (.vec e sz' news) val h3.os h3.tape h3.output h3.size (fun k hk=>h3.block k hk (by simp[Value.ownBlock])) (fun hn=>?_) (by simpa [Blk.fits]using hv2) trivial
      have:=hv3 hn
      rcases h5 with h6|h6
      ·rw[this.1]at h6;simp[Value.ownBlock]at h6
      ·rw[this.1]at h6;injection h6 with h6;exact⟨by omega,this.2⟩
     ·rw[show SV.den ρ (.o (.v (.slice none 0 0)))= .slice none 0 0 from rfl,h1,←hv1]
      simp[SV.den,At.den]
    ·rename_i id k
     split at h
     ·rename_i e1 sz1 cs hH
      split at h
      ·rename_i he1
       have he1:=beq_t he1
       subst he1
       split at h
       ·rename_i hs1
        have hs1:=beq_t hs1
        subst hs1
        obtain⟨hl,hb,hml,h⟩:=h
        obtain⟨H1,hK,hH1,_⟩:=killK_spec h
        obtain⟨v',w2,h1,h2,h3,h5⟩:=happ _ k cs (vec_owns rel hH hl hpos) hb hml
        obtain⟨val,hv1,hv2,hv3,hv4⟩:=ownsRow_val h2
        have hob:(ρ id).nil=false→((At.w id k).den ρ).ownBlock=some (ρ id).g:=fun hn=>by simp[At.den,hn,Value.ownBlock]
        have hob':(ρ id).nil=true→((At.w id k).den ρ).ownBlock=none:=fun hn=>by simp[At.den,hn,Value.ownBlock]
        refine⟨_,_,_,upd ρ nx val,w2,hK,?_,by simp[SV.sc,At.sc],by omega,upd_lt,?_⟩
        ·refine rel.regrow hH (by simp) hH1 (.vec e1 sz1 (cs++news)) val h3.os h3.tape h3.output h3.size (fun j hj hne=>?_) (fun hn=>?_) (by simpa [Blk.fits]using hv2) trivial
         ·refine h3.block j hj fun e=>?_
          cases hnil:(ρ id).nil
          ·rw[hob hnil]at e;injection e with e;exact hne hnil e
          ·rw[hob' hnil]at e;cases e
         ·have:=hv3 hn
          rcases h5 with h6|h6
          ·rw[this.1]at h6
           cases hnil:(ρ id).nil
           ·rw[hob hnil]at h6;injection h6 with h6;exact .inr ⟨rfl,h6⟩
           ·rw[hob' hnil]at h6;cases h6
          ·rw[this.1]at h6;injection h6 with h6;exact .inl ⟨by omega,this.2⟩
        ·rw[show SV.den ρ (.o (.w id k))=(At.w id k).den ρ from rfl,h1,←hv1]
         simp[SV.den,At.den]
       ·exact h.elim
      ·exact h.elim
     ·exact h.elim
    ·rename_i id k c0
     split at h
     ·rename_i hkc
      have hkc:=beq_t hkc
      subst hkc
      split at h
      ·rename_i e1 cs0 hH
       split at h
       ·rename_i he1
        have he1:=beq_t he1
        subst he1
        obtain⟨cs,⟨hl,hb,hml,h9⟩,rfl,_⟩:=rawK_spec h
        obtain⟨H1,hK,hH1,_⟩:=killK_spec h9
        have hnil:(ρ id).nil=false:=rel.nn id _ hH (by intros;simp) (by simp)
        have hblk:=rel.box id _ _ hH
        rw[map_v_den]at hblk
        have hown:w'.ownsRow B e1 sz' ((At.s id 0 k k).den ρ) k cs:=by
         refine⟨hl,.inr ⟨(ρ id).g,k,_,by simp only[At.den],(rel.low id _ hH hnil).1,hblk,Nat.le_refl _,by omega,by simp[hl],by simp[←hl]⟩⟩
        obtain⟨v',w2,h1,h2,h3,h5⟩:=happ _ k cs hown hb hml
        obtain⟨val,hv1,hv2,hv3,hv4⟩:=ownsRow_val h2
        have hob:((At.s id 0 k k).den ρ).ownBlock=some (ρ id).g:=by simp[At.den,Value.ownBlock]
        refine⟨_,_,_,upd ρ nx val,w2,hK,?_,by simp[SV.sc,At.sc],by omega,upd_lt,?_⟩
        ·refine rel.regrow hH (by simp) hH1 (.vec e1 sz' (cs++news)) val h3.os h3.tape h3.output h3.size (fun j hj hne=>?_) (fun hn=>?_) (by simpa [Blk.fits]using hv2) trivial
         ·refine h3.block j hj fun e=>?_
          rw[hob]at e;injection e with e;exact hne hnil e
         ·have:=hv3 hn
          rcases h5 with h6|h6
          ·rw[this.1]at h6
           rw[hob]at h6;injection h6 with h6;exact .inr ⟨hnil,h6⟩
          ·rw[this.1]at h6;injection h6 with h6;exact .inl ⟨by omega,this.2⟩
        ·rw[show SV.den ρ (.o (.s id 0 k k))=(At.s id 0 k k).den ρ from rfl,h1,←hv1]
         simp[SV.den,At.den]
       ·exact h.elim
      ·exact h.elim
     ·exact h.elim
    ·exact h.elim
  ·exact h.elim
 ·exact h.elim
end
end Go.Sx

/- The executor is sound, fifth part: one operation, a region, a piece of code, a function. -/
namespace Go.Sx
open Go

section
variable{P:Program}{τ:Tab}{B n nx:Nat}{l:Env}{H:Hp}{iv:Iv}{w w':World}{ρ:Nat→Val}{a:Act}

theorem kindEq_spec{k k':IntKind}(h:kindEq k k'=true):k=k':=by
 cases k<;>cases k'<;>first|rfl|(simp [kindEq]at h)

theorem run_eqGuard_int(op:BinOp)(t:TypeId)(x y:Operand)(k k':IntKind)(i j:Int)(w:World):(eqGuard op t x y (.int k i) (.int k' j)).run P w= .ok () w:=by
 unfold eqGuard;cases op<;>simp
theorem run_eqGuard_bool(op:BinOp)(t:TypeId)(x y:Operand)(i j:Bool)(w:World):(eqGuard op t x y (.bool i) (.bool j)).run P w= .ok () w:=by
 unfold eqGuard;cases op<;>simp
theorem run_eqGuard_string(op:BinOp)(t:TypeId)(x y:Operand)(i j:ByteArray)(w:World):(eqGuard op t x y (.string i) (.string j)).run P w= .ok () w:=by
 unfold eqGuard;cases op<;>simp

theorem intK_spec{op:BinOp}{k:IntKind}{i j:Int}{t:TypeId}{K:Value→Prop}(h:intK op k i j K)(k':IntKind)(hk:(op= .shl∨op= .shr)∨k=k'):
  ∃r,K r∧∀w:World,(binOp op t (.int k i) (.int k' j)).run P w= .ok r w:=by
 have hkk:op≠ .shl→op≠ .shr→k=k':=fun h1 h2=>by rcases hk with(h3|h3)|h3<;>simp_all
 cases op<;>simp only[intK]at h
 case shl=>obtain⟨h0,r,h1,h2⟩:=h;refine⟨_,h2,fun w=>?_⟩;subst h1;simp[binOp,Op.shift,show ¬j<0 by omega]
 case shr=>obtain⟨h0,r,h1,h2⟩:=h;refine⟨_,h2,fun w=>?_⟩;subst h1;simp[binOp,Op.shift,show ¬j<0 by omega]
 all_goals (obtain rfl:=hkk (by simp) (by simp))
 case quo=>obtain⟨h0,r,h1,h2⟩:=h;refine⟨_,h2,fun w=>?_⟩;subst h1;simp[binOp,Op.intDiv,h0]
 case rem=>obtain⟨h0,r,h1,h2⟩:=h;refine⟨_,h2,fun w=>?_⟩;subst h1;simp[binOp,Op.intDiv,h0]
 case eql=>exact⟨_,h,fun w=>by simp[binOp,Op.intCmp]⟩
 case neq=>exact⟨_,h,fun w=>by simp[binOp,Op.intCmp]⟩
 case lss=>exact⟨_,h,fun w=>by simp[binOp,Op.intCmp]⟩
 case leq=>exact⟨_,h,fun w=>by simp[binOp,Op.intCmp]⟩
 case gtr=>exact⟨_,h,fun w=>by simp[binOp,Op.intCmp]⟩
 case geq=>exact⟨_,h,fun w=>by simp[binOp,Op.intCmp]⟩
 case add=>obtain⟨r,h1,h2⟩:=h;refine⟨_,h2,fun w=>?_⟩;subst h1;simp[binOp,Op.intArith]
 case sub=>obtain⟨r,h1,h2⟩:=h;refine⟨_,h2,fun w=>?_⟩;subst h1;simp[binOp,Op.intArith]
 case mul=>obtain⟨r,h1,h2⟩:=h;refine⟨_,h2,fun w=>?_⟩;subst h1;simp[binOp,Op.intArith]
 case and=>obtain⟨r,h1,h2⟩:=h;refine⟨_,h2,fun w=>?_⟩;subst h1;simp[binOp,Op.intBits]
 case or=>obtain⟨r,h1,h2⟩:=h;refine⟨_,h2,fun w=>?_⟩;subst h1;simp[binOp,Op.intBits]
 case andNot=>obtain⟨r,h1,h2⟩:=h;refine⟨_,h2,fun w=>?_⟩;subst h1;simp[binOp,Op.intBits]
 case xor=>obtain⟨r,h1,h2⟩:=h;refine⟨_,h2,fun w=>?_⟩;subst h1;simp[binOp,Op.intBits]

theorem run_equalIn_bool{t:TypeId}(hu:P.underlying t=some .bool)(d:Nat)(i j:Bool)(w:World):(Op.equalIn (d+1) t (.bool i) (.bool j)).run P w= .ok (i==j) w:=by
 simp[Op.equalIn,run_underlying hu]
theorem run_eq_bool{t:TypeId}(hu:P.underlying t=some .bool)(i j:Bool)(w:World):(Op.equal t (.bool i) (.bool j)).run P w= .ok (i==j) w:=run_equalIn_bool hu 9999 i j w
theorem run_binOp_bool{t:TypeId}(hu:P.underlying t=some .bool)(i j:Bool)(w:World):(binOp .eql t (.bool i) (.bool j)).run P w= .ok (.bool (i==j)) w:=by
 show(do pure (.bool (←Op.equal t (.bool i) (.bool j))):Sem Value).run P w=_
 rw[Sem.run_bind,run_eq_bool hu]
 rfl
theorem run_binOp_nbool{t:TypeId}(hu:P.underlying t=some .bool)(i j:Bool)(w:World):(binOp .neq t (.bool i) (.bool j)).run P w= .ok (.bool (!(i==j))) w:=by
 show(do pure (.bool (!(←Op.equal t (.bool i) (.bool j)))):Sem Value).run P w=_
 rw[Sem.run_bind,run_eq_bool hu]
 rfl
theorem binK_spec(hτ:TabOK P τ){op:BinOp}{t:Nat}{x y:SV}{K:SV→Prop}(h:binK P τ op t x y K)(o1 o2:Operand):
  ∃r,K r∧r.sc nx∧∀w':World,(do eqGuard op t o1 o2 (x.den ρ) (y.den ρ);binOp op t (x.den ρ) (y.den ρ)).run P w'= .ok (r.den ρ) w':=by
 unfold binK at h
 split at h
 ·rename_i k i k' j
  have fin:∀hk:(op= .shl∨op= .shr)∨k=k',intK op k i j (fun r=>K (.o (.v r)))→∃r,K r∧r.sc nx∧∀w':World,(do eqGuard op t o1 o2 (SV.den ρ (.o (.v (.int k i)))) (SV.den ρ (.o (.v (.int k' j))));binOp op t (SV.den ρ (.o (.v (.int k i)))) (SV.den ρ (.o (.v (.int k' j))))).run P w'= .ok (r.den ρ) w':=by
   intro hk h
   obtain⟨r,h1,h2⟩:=intK_spec (P:=P) (t:=t) h k' hk
   refine⟨_,h1,trivial,fun w'=>?_⟩
   simp only[SV.den,At.den,Sem.run_bind,run_eqGuard_int,Result.andThen_ok,h2]
  split at h
  ·exact fin (.inl (.inl rfl)) h
  ·exact fin (.inl (.inr rfl)) h
  ·split at h
   ·rename_i hk;exact fin (.inr (kindEq_spec hk)) h
   ·exact h.elim
 ·rename_i i j
  split at h
  ·rename_i ti hti
   split at h
   ·rename_i htag
    have hu:=(hτ t _ hti).i2 (beq_t htag)
    split at h
    ·refine⟨_,h,trivial,fun w'=>?_⟩
     simp only[SV.den,At.den,Sem.run_bind,run_eqGuard_bool,Result.andThen_ok,run_binOp_bool hu]
    ·refine⟨_,h,trivial,fun w'=>?_⟩
     simp only[SV.den,At.den,Sem.run_bind,run_eqGuard_bool,Result.andThen_ok,run_binOp_nbool hu]
    ·exact h.elim
   ·exact h.elim
  ·exact h.elim
 ·rename_i i j
  split at h
  ·refine⟨_,h,trivial,fun w'=>?_⟩
   simp only[SV.den,At.den,Sem.run_bind,run_eqGuard_string,Result.andThen_ok]
   simp[binOp,Op.stringOp,ByteArray.toList_eq]
  ·refine⟨_,h,trivial,fun w'=>?_⟩
   simp only[SV.den,At.den,Sem.run_bind,run_eqGuard_string,Result.andThen_ok]
   simp[binOp,Op.stringOp,ByteArray.toList_eq]
  ·refine⟨_,h.2,trivial,fun w'=>?_⟩
   simp only[SV.den,At.den,Sem.run_bind,run_eqGuard_string,Result.andThen_ok]
   have h1:=h.1
   unfold maxLen at h1
   simp[binOp,Op.stringOp]
   omega
  ·exact h.elim
 ·obtain⟨b,h1,h2⟩:=h
  exact⟨_,h2,trivial,fun w'=>h1 ρ w' o1 o2⟩

/-- what follows an operation -/
abbrev NextT(n B:Nat)(l:Env)(a:Act)(dst:Option Tmp)(K:SV→Hp→Nat→Iv→World→Prop)(next:Act→World→Prop):Prop:=
 ∀v H' nx' iv' w2 ρ' w3,K v H' nx' iv' w2→Sat n l H' nx' iv' B w2 ρ' a w3→v.sc nx'→next (a.put dst (v.den ρ')) w3

/-- the slots stay as they were while the world goes on -/
theorem Sat.next(sat:Sat n l H nx iv B w ρ a w'){H':Hp}{nx':Nat}{iv':Iv}{w2 w3:World}{ρ':Nat→Val}(rel:Rel H' nx' iv' B w2 ρ' w3)(hnx:nx≤nx')(hρ:∀id,id<nx→ρ id=ρ' id):
  Sat n l H' nx' iv' B w2 ρ' a w3:=
 ⟨rel,sat.size,sat.defers,fun t v h=>by rw[sat.env t v h,SV.den_congr hρ (sat.sc t v h)],fun t v h=>SV.sc_mono hnx (sat.sc t v h)⟩

theorem box_new(sat:Sat n l H nx iv B w ρ a w'){t:Nat}{cs:List At}(hs:∀c∈cs,At.sc nx c):
  Rel ((nx,.box t cs)::H) (nx+1) iv B w (upd ρ nx ⟨w'.heap.size,0,false⟩) (w'.alloc (.cells (cs.map (At.den ρ)).toArray t)):=
 sat.rel.push (.box t cs) _ rfl rfl rfl (by simp) (fun k hk=>heap_alloc_old _ _ hk) (fun _=>⟨Nat.le_refl _,by simp⟩) ⟨rfl,heap_alloc_new _ _⟩ hs

theorem allPtr_spec:∀{vs:List SV} {k:List Nat→Prop},allPtr vs k→(∀v∈vs,SV.sc nx v)→∃ids,k ids∧vs.map (SV.den ρ)=ids.map (fun id=>Value.pointer (some ⟨(ρ id).g,0,none⟩))∧∀id∈ids,id<nx
 |[],k,h,_=>⟨[],h,rfl,by simp⟩
 | .o (.p id 0)::r,k,h,hs=>by
  obtain⟨ids,h1,h2,h3⟩:=allPtr_spec (vs:=r) h (fun v hv=>hs v (by simp[hv]))
  exact⟨id::ids,h1,by simp[h2,SV.den,At.den],by simp;exact⟨hs (.o (.p id 0)) (by simp),h3⟩⟩
 | .o (.p id (m+1))::r,k,h,_=>by simp[allPtr]at h
 | .o (.v x)::r,k,h,_=>by simp[allPtr]at h
 | .o (.s _ _ _ _)::r,k,h,_=>by simp[allPtr]at h
 | .o (.w _ _)::r,k,h,_=>by simp[allPtr]at h
 | .o (.fn _ _)::r,k,h,_=>by simp[allPtr]at h
 | .a _::r,k,h,_=>by simp[allPtr]at h

theorem callS_spec(sat:Sat n l H nx iv B w ρ a w'){g:Nat}{args:(Nat→Val)→Array Value}{K:SV→Hp→Iv→World→Prop}{o:Oper}{next:Act→World→Prop}{Q:Exit→Act→World→Prop}
  (h:CallS P B g args H nx iv w K) (hop:(execOp a.eval o).run P w'=(callFunc g (args ρ)).run P w')
  (hn:∀v H' iv' w2,K v H' iv' w2→Sat n l H' nx iv' B w2 ρ a w2→v.sc nx→next (a.put o.dst (v.den ρ)) w2):o.wp P a w' next Q:=by
 have hc:=h.h ρ w' sat.rel
 unfold Oper.wp
 rw[hop,hc.e.h]
 refine Calls.mono hc.c fun e w2 he=>?_
 obtain⟨v,H',iv',rfl,hrel,hK⟩:=he
 exact hn _ _ _ _ hK (sat.next (ρ':=ρ) hrel (Nat.le_refl _) (fun _ _=>rfl)) trivial

theorem Rel.ext{w2:World}(r:Rel H nx iv B w ρ w')(e:Ext w' w2):Rel H nx iv B w ρ w2:=
 Rel.mk' (e.os.trans r.os) (e.tape.trans r.tape) (e.output.trans r.output) (Nat.le_trans r.size e.size) r.base r.ivs r.keys
  (fun id b h=>Blk.fits_keep (r.fits h) (fun _ _=>rfl) (r.scopd h) (fun hn _=>e.block _ (r.low id b h hn).2)) (fun id b h=>r.scopd h) r.inj
  (fun id b h hn=>by have:=r.low id b h hn;have:=e.size;omega) (fun k hk hne=>by rw[e.block k (by have:=r.size;omega)];exact r.frm k hk hne) r.prot
/-- the named world may be the very world -/
theorem Rel.here(r:Rel H nx iv B w ρ w'):Rel H nx iv B w' ρ w':=
 Rel.mk' rfl rfl rfl (Nat.le_refl _) (by have:=r.base;have:=r.size;omega) (fun lo hi hm=>by have:=r.ivs lo hi hm;have:=r.size;omega) r.keys
  (fun id b h=>r.fits h) (fun id b h=>r.scopd h) r.inj r.low (fun _ _ _=>rfl) r.prot

/-- one interval more, where no block of one's own lies -/
theorem Rel.more{lo hi:Nat}(r:Rel H nx iv B w ρ w')(h1:hi≤w.heap.size)(h2:∀id b,getH H id=some b→(ρ id).nil=false→¬(lo≤(ρ id).g∧(ρ id).g<hi)):Rel H nx ((lo,hi)::iv) B w ρ w':=
 Rel.mk' r.os r.tape r.output r.size r.base
  (fun lo' hi' hm=>by
   rcases List.mem_cons.1 hm with hm|hm
   ·injection hm with e1 e2;omega
   ·exact r.ivs lo' hi' hm) r.keys (fun id b hb=>r.fits hb) (fun id b hb=>r.scopd hb) r.inj r.low r.frm
  (fun lo' hi' hm id b hb hnil=>by
   rcases List.mem_cons.1 hm with hm|hm
   ·injection hm with e1 e2
    subst e1;subst e2
    exact h2 id b hb hnil
   ·exact r.prot lo' hi' hm id b hb hnil)
theorem callE_S{g:Nat}{args:(Nat→Val)→Array Value}{K:SV→Hp→Iv→World→Prop}(h:CallE P B g args H nx iv w K):CallS P B g args H nx iv w K:=
 ⟨fun ρ w' r=>⟨(h.h ρ w' r).e,Calls.mono (h.h ρ w' r).c fun e w2 he=>by
  obtain⟨v,h1,h2,h3⟩:=he
  exact⟨v,H,_,h1,(r.ext h2).here.more (Nat.le_refl _) (fun id b hb hn=>by have:=(r.low id b hb hn).2;omega),h3⟩⟩⟩

def isR:Op→Bool
 | .move _| .assign _| .pick _ _ _| .build _ _| .load _ _| .nilCheck _| .binOp _ _ _ _ _| .unOp _ _ _| .convert _ _ _| .makeFunc _ _ _| .slice _ _ _ _ _| .fieldAddr _ _ _| .field _ _ _| .indexAddr _ _ _| .extract _ _=>true
 | .call ⟨.builtin .len,_,_⟩=>true
 | .call ⟨.builtin .max,_,_⟩=>true
 | .call ⟨.builtin .min,_,_⟩=>true
 |_=>false
def isA:Op→Bool
 | .alloc _| .box _ _| .buildSlice _ _ _| .makeSlice _ _ _=>true
 |_=>false
/-- whatever the world -/
def isP:Op→Bool
 | .load _ _=>false
 |o=>isR o
theorem sxOp_reader(hτ:TabOK P τ){dr:Bool}{o:Oper}{K:SV→Hp→Nat→Iv→World→Prop}(h:sxOp dr P τ B o l H nx iv w K)(sat:Sat n l H nx iv B w ρ a w')(hk:isR o.op=true):
  (∃v,K v H nx iv w∧v.sc nx∧∀w2,(isP o.op=true∨Rel H nx iv B w ρ w2)→(execOp a.eval o).run P w2= .ok (.value (v.den ρ)) w2)∨(dr=false∧OpS P B o l H nx iv w K):=by
 obtain⟨dst,op,ty,pos,after,guard⟩:=o
 have val:∀(r:SV),K r H nx iv w→r.sc nx→(∀w2,(isP op=true∨Rel H nx iv B w ρ w2)→(execOp a.eval ⟨dst,op,ty,pos,after,guard⟩).run P w2= .ok (.value (r.den ρ)) w2)→
   (∃v,K v H nx iv w∧v.sc nx∧∀w2,(isP op=true∨Rel H nx iv B w ρ w2)→(execOp a.eval ⟨dst,op,ty,pos,after,guard⟩).run P w2= .ok (.value (v.den ρ)) w2)∨(dr=false∧OpS P B ⟨dst,op,ty,pos,after,guard⟩ l H nx iv w K):=
  fun r hK hs hr=>.inl ⟨r,hK,hs,hr⟩
 unfold sxOp at h
 split at h<;>first|(exact False.elim h)|(rename_i hop;simp only at hop;subst hop)
 -- move
 ·obtain⟨v,hK,hv,hs⟩:=wEv_spec sat h
  exact val v hK hs (fun w2 rel=>by simp[execOp,hv])
 -- assign
 ·obtain⟨v,hK,hv,hs⟩:=wEv_spec sat h
  exact val v hK hs (fun w2 rel=>by simp[execOp,hv])
 -- pick
 ·rename_i c x y
  obtain⟨v,h1,hv,hvs⟩:=wEv_spec sat h
  clear hvs
  split at h1
  ·rename_i t
   cases t
   ·obtain⟨u,hK,hu,hs⟩:=wEv_spec sat (h1.f rfl)
    exact val u hK hs (fun w2 rel=>by simp[execOp,hv,SV.den,At.den,asBool,hu])
   ·obtain⟨u,hK,hu,hs⟩:=wEv_spec sat (h1.t rfl)
    exact val u hK hs (fun w2 rel=>by simp[execOp,hv,SV.den,At.den,asBool,hu])
  ·exact h1.elim
 -- alloc
 ·cases hk
 -- box
 ·cases hk
 -- build
 ·rename_i t parts
  split at h
  ·rename_i sz ag by_ ze tag ik e al fs hti
   have ht:=hτ t _ hti
   obtain⟨inf,z,hi,hsz,hby,hz,hzc⟩:=ht.info
   simp only at hsz hby hzc
   have hzz:z.cells=(((ze.map At.v)).map (At.den ρ)).toArray:=by rw[map_v_den];apply Array.ext';simpa using hzc
   have hzs:∀c∈ze.map At.v,At.sc nx c:=fun c hc=>by simp at hc;obtain⟨v,_,rfl⟩:=hc;trivial
   split at h
   ·rename_i htag
    obtain⟨fds,hu,hf,hall⟩:=ht.i5 (beq_t htag)
    simp only at hf
    have hplaces:fds.toList.mapM (fun f=>(P.info? f.type).map fun i=>(f.offset,i.size))=some (fds.toList.map fun f=>(f.offset,((P.info? f.type).map (·.size)).getD 0)):=by
     clear hf hu
     generalize fds.toList=fl at hall
     induction fl with
     |nil=>rfl
     |cons f r ih=>
      obtain⟨i0,hi0⟩:=Option.isSome_iff_exists.1 (hall f (by simp))
      rw[List.mapM_cons,ih (fun g hg=>hall g (by simp[hg]))]
      simp[hi0]
    have h0:=valsK_spec h
    obtain⟨cs',hK,hcs,hlen,hfill⟩:=partsK_spec sat (placeF:=fun i=>(fds.toList.map fun f=>(f.offset,((P.info? f.type).map (·.size)).getD 0))[i]?) (fun i k hk=>by
     obtain⟨off,ft,fi,h1,h2,h3,h4⟩:=fieldOff_spec hτ hk
     refine⟨off,fi.size,h1,?_⟩
     rw[←hf]at h2
     simp only[List.getElem?_map,Option.map_eq_some_iff]at h2 ⊢
     obtain⟨fd,hfd,he⟩:=h2
     injection he with e1 e2
     refine⟨fd,hfd,?_⟩
     obtain⟨inf',_,hi',hs',_⟩:=h3.info
     rw[e1,e2,hi']
     simp[hs']) h0 hzs
    refine val _ hK hcs (fun w2 rel=>?_)
    have hb:P.built t (parts.map fun p=>(p.1,a.eval p.2)).toList=some (cs'.map (At.den ρ)).toArray:=by
     unfold Program.built
     simp only[hi,hu,hz,hplaces]
     rw[hzz,←hfill]
     simp
    have:=run_build w2 t _ _ hb
    simp only[execOp]
    exact run_v this
   ·split at h
    ·rename_i htag
     have hu:=ht.i6 (beq_t htag)
     simp only at hu
     split at h
     ·rename_i sz' ag' by' ze' tag' ik' e' al' fs' hte
      have hte:=hτ e _ hte
      obtain⟨inf',_,hi',hs',_⟩:=hte.info
      simp only at hs'
      have h0:=valsK_spec h
      obtain⟨cs',hK,hcs,hlen,hfill⟩:=partsK_spec sat (placeF:=fun i=>some (i*inf'.size,inf'.size)) (fun i k hk=>⟨i*sz',sz',hk,by rw[hs']⟩) h0 hzs
      refine val _ hK hcs (fun w2 rel=>?_)
      have hb:P.built t (parts.map fun p=>(p.1,a.eval p.2)).toList=some (cs'.map (At.den ρ)).toArray:=by
       unfold Program.built
       simp only[hi,hu,hz,hi']
       rw[hzz,←hfill]
       simp
      have:=run_build w2 t _ _ hb
      simp only[execOp]
      exact run_v this
     ·exact h.elim
    ·exact h.elim
  ·exact h.elim
 -- buildSlice
 ·cases hk
 -- load
 ·rename_i t x
  obtain⟨v,h1,hv,hs⟩:=wEv_spec sat h
  obtain⟨r,hK,hr,hrun⟩:=loadK_spec hτ sat.rel hs h1
  exact val r hK hr (fun w2 rel=>by simp only[execOp,hv];exact run_v (hrun w2 (rel.resolve_left (by simp[isP]))))
 -- store
 ·cases hk
 -- nilCheck
 ·rename_i x
  obtain⟨v,h1,hv,hs⟩:=wEv_spec sat h
  split at h1
  ·exact val _ h1 hs (fun w2 rel=>by simp[execOp,hv,SV.den,At.den])
  ·exact val _ h1 hs (fun w2 rel=>by simp[execOp,hv,SV.den,At.den])
  ·exact val _ h1 hs (fun w2 rel=>by simp[execOp,hv,SV.den,At.den])
  ·exact val _ h1 hs (fun w2 rel=>by simp[execOp,hv,SV.den,At.den])
  ·exact h1.elim
 -- binOp
 ·rename_i op t x y u
  obtain⟨v,h1,hv,_⟩:=wEv_spec sat h
  obtain⟨v2,h2,hv2,_⟩:=wEv_spec sat h1
  obtain⟨r,hK,hr,hrun⟩:=binK_spec (ρ:=ρ) hτ h2 x y
  exact val r hK hr (fun w2 rel=>by simp only[execOp,hv,hv2];exact run_v (hrun w2))
 -- unOp
 ·rename_i op t x
  obtain⟨v,h1,hv,_⟩:=wEv_spec sat h
  split at h1
  ·exact val _ h1 trivial (fun w2 rel=>by simp[execOp,hv,SV.den,At.den,Op.unary])
  ·obtain⟨r,hr,hK⟩:=h1
   exact val _ hK trivial (fun w2 rel=>by subst hr;simp[execOp,hv,SV.den,At.den,Op.unary,Op.intArith])
  ·obtain⟨r,hr,hK⟩:=h1
   exact val _ hK trivial (fun w2 rel=>by subst hr;simp[execOp,hv,SV.den,At.den,Op.unary,Op.intBits])
  ·exact h1.elim
 -- convert
 ·rename_i s d x
  split at h
  ·rename_i tis htis
   obtain⟨ds,hds,_⟩:=(hτ s _ htis).agg
   obtain⟨v,h1,hv,hvs⟩:=wEv_spec sat h
   clear hvs
   split at h1
   ·rename_i sz ag by_ ze tag ik e al fs hti
    have ht:=hτ d _ hti
    split at h1
    ·rename_i htag
     have hu:=ht.i1 (beq_t htag)
     simp only at hu
     split at h1
     ·obtain⟨r,hr,hK⟩:=h1
      refine val _ hK trivial (fun w2 rel=>?_)
      subst hr
      simp[execOp,convert,run_underlying hds,run_underlying hu,hv,SV.den,At.den,Conv.intToInt]
     ·exact h1.elim
    ·cases dr
     ·exact .inr ⟨rfl,h1⟩
     ·exact h1.elim
   ·exact h1.elim
  ·exact h.elim
 -- makeFunc
 ·rename_i f first caps
  split at h
  ·obtain⟨vs,h1,hvs,hsc⟩:=wEvs_spec sat h
   obtain⟨ids,hK,hids,hlt⟩:=allPtr_spec (ρ:=ρ) h1 hsc
   refine val _ hK (fun id hid=>hlt id hid) (fun w2 rel=>?_)
   have e:caps.map a.eval=(ids.map fun id=>Value.pointer (some ⟨(ρ id).g,0,none⟩)).toArray:=by
    apply Array.ext'
    rw[←hids,←hvs];simp
   simp[execOp,Instr.makeFunc,e,SV.den,At.den]
  ·exact h.elim
 -- makeSlice
 ·cases hk
 -- slice
 ·rename_i t x lo hi
  obtain⟨v,h1,hv,hs⟩:=wEv_spec sat h
  obtain⟨r,hK,hr,hrun⟩:=sliceK_spec hτ sat h1 hs
  exact val r hK hr (fun w2 rel=>by simp only[execOp,hv];exact run_v (by simpa using hrun w2))
 -- fieldAddr
 ·rename_i t x f
  split at h
  ·rename_i sz ag by_ ze tag ik e al fs hti
   have ht:=hτ t _ hti
   split at h
   ·rename_i htag
    obtain⟨off,ft,fi,h1,hf,hfi,hsz⟩:=fieldOff_spec hτ h
    obtain⟨v,h2,hv,hs⟩:=wEv_spec sat h1
    obtain⟨r,ad,hK,hr,hd,hrd⟩:=ptrAddK_spec (ρ:=ρ) h2 hs
    refine val r hK hr (fun w2 rel=>?_)
    simp only[execOp,hv,hd,hrd]
    exact run_v (run_fieldAt ht (beq_t htag) hf hfi hsz ad w2)
   ·exact h.elim
  ·exact h.elim
 -- field
 ·rename_i t x f
  split at h
  ·rename_i sz ag by_ ze tag ik e al fs hti
   have ht:=hτ t _ hti
   split at h
   ·rename_i htag
    obtain⟨off,ft,fi,h1,hf,hfi,hsz⟩:=fieldOff_spec hτ h
    obtain⟨v,h2,hv,hs⟩:=wEv_spec sat h1
    obtain⟨fds,fd,hu,hfd,e1,e2⟩:=fields_get ht (beq_t htag) hf
    -- the cells of the value, whichever way it is written
    have fin:∀cs:List At,v.den ρ= .agg (cs.map (At.den ρ)).toArray→(∀c∈cs,At.sc nx c)→
      (match fi.agg with
       |true=>dropK cs off (fun r=>takeK r fi.size (fun c=>K (.a c) H nx iv w))
       |false=>match nthA cs off with
        |some c=>K (.o c) H nx iv w
        |none=>False)→(∃v,K v H nx iv w∧v.sc nx∧∀w2,(isP (.field t x f)=true∨Rel H nx iv B w ρ w2)→(execOp a.eval ⟨dst,.field t x f,ty,pos,after,guard⟩).run P w2= .ok (.value (v.den ρ)) w2)∨(dr=false∧OpS P B ⟨dst,.field t x f,ty,pos,after,guard⟩ l H nx iv w K):=by
     intro cs hd hcs hk
     split at hk
     ·rename_i hag
      obtain⟨h3,hd1⟩:=dropK_spec hk
      obtain⟨hK,hd2⟩:=takeK_spec h3
      refine val _ hK (fun c hc=>hcs c (List.mem_of_mem_drop (List.mem_of_mem_take hc))) (fun w2 rel=>?_)
      simp only[execOp,hv,hd]
      refine run_v ?_
      subst e1 e2
      simp[Instr.field,run_underlying hu,hfd,asAgg,part,hfi.isAgg,hag,hfi.sizeOf,SV.den,List.map_drop,List.map_take,List.extract_eq_take_drop]
     ·rename_i hag
      split at hk
      ·rename_i c hc
       rw[nthA_spec]at hc
       refine val _ hk (hcs c (List.mem_of_getElem? hc)) (fun w2 rel=>?_)
       simp only[execOp,hv,hd]
       refine run_v ?_
       subst e1 e2
       simp[Instr.field,run_underlying hu,hfd,asAgg,part,hfi.isAgg,hag,hc,SV.den]
      ·exact hk.elim
    split at h2
    ·rename_i vs
     exact fin (vs.map At.v) (by rw[map_v_den];rfl) (fun c hc=>by simp at hc;obtain⟨v,_,rfl⟩:=hc;trivial) (valsK_spec h2)
    ·exact fin _ rfl hs h2
    ·exact h2.elim
   ·exact h.elim
  ·exact h.elim
 -- indexAddr
 ·rename_i t x i
  obtain⟨v,h1,hv,hs⟩:=wEv_spec sat h
  obtain⟨u,h2,hu,_⟩:=wEv_spec sat h1
  obtain⟨r,hK,hr,hrun⟩:=indexK_spec hτ h2 hs sat.rel
  exact val r hK hr (fun w2 rel=>by simp only[execOp,hv,hu];exact run_v (hrun w2))
 -- extract
 ·rename_i x i
  obtain⟨v,h1,hv,hs⟩:=wEv_spec sat h
  split at h1
  ·split at h1
   ·rename_i vs u hu
    rw[nthV_spec]at hu
    exact val _ h1 trivial (fun w2 rel=>by simp[execOp,hv,Instr.extract,SV.den,At.den,hu])
   ·exact h1.elim
  ·exact h1.elim
 -- len
 ·rename_i x t
  obtain⟨v,h1,hv,_⟩:=wEv_spec sat h
  obtain⟨r,hK,hrun⟩:=lenK_spec (ty:=ty) hτ h1 sat.rel
  refine val _ hK trivial (fun w2 rel=>?_)
  show _=Result.ok (Next.value (Value.int .i64 r)) w2
  generalize v.den ρ=xv at hv hrun
  have hrun:=hrun w2
  simp[execOp,resolve,invoke,builtin,hv,hrun]
 -- append
 ·cases hk
 -- max
 ·rename_i x y ts
  obtain⟨v,h1,hv,_⟩:=wEv_spec sat h
  obtain⟨v2,h2,hv2,_⟩:=wEv_spec sat h1
  split at h2
  ·split at h2
   ·rename_i k a1 k' b1 hk2
    have hkk:=kindEq_spec hk2
    subst hkk
    refine val _ h2 trivial (fun w2 rel=>?_)
    simp only[execOp,resolve,invoke,builtin]
    simp[hv,hv2,SV.den,At.den,Builtin.max_,Builtin.max2]
    omega
   ·exact h2.elim
  ·exact h2.elim
 -- min
 ·rename_i x y ts
  obtain⟨v,h1,hv,_⟩:=wEv_spec sat h
  obtain⟨v2,h2,hv2,_⟩:=wEv_spec sat h1
  split at h2
  ·split at h2
   ·rename_i k a1 k' b1 hk2
    have hkk:=kindEq_spec hk2
    subst hkk
    refine val _ h2 trivial (fun w2 rel=>?_)
    simp only[execOp,resolve,invoke,builtin]
    simp[hv,hv2,SV.den,At.den,Builtin.min_,Builtin.min2]
    omega
   ·exact h2.elim
  ·exact h2.elim
 -- copy
 ·cases hk
 -- clear
 ·cases hk
 -- cap
 ·cases hk
 -- index
 ·cases hk
 -- makeMap
 ·cases hk
 -- lookup
 ·cases hk
 -- mapUpdate
 ·cases hk
 -- call
 ·cases hk

theorem opS_sound{o:Oper}{K:SV→Hp→Nat→Iv→World→Prop}(h:OpS P B o l H nx iv w K)(sat:Sat n l H nx iv B w ρ a w'){next:Act→World→Prop}{Q:Exit→Act→World→Prop}
  (hn:NextT n B l a o.dst K next):o.wp P a w' next Q:=by
 obtain⟨v,w2,iv',hrun,hrel,hK⟩:=h.h ρ w' a.eval sat.rel (fun x v hx=>(ev_spec sat hx).1)
 have:=hn _ _ _ _ _ _ _ hK (sat.next hrel (Nat.le_refl _) (fun _ _=>rfl)) trivial
 unfold Oper.wp
 rcases hrun with hrun|⟨hrun,rfl⟩
 ·rw[hrun];exact this
 ·rw[hrun];exact this

theorem sxOp_sound(hτ:TabOK P τ){dr:Bool}{o:Oper}{K:SV→Hp→Nat→Iv→World→Prop}(h:sxOp dr P τ B o l H nx iv w K)(sat:Sat n l H nx iv B w ρ a w'){next:Act→World→Prop}{Q:Exit→Act→World→Prop}
  (hn:NextT n B l a o.dst K next):o.wp P a w' next Q:=by
 by_cases hk:isR o.op=true
 ·rcases sxOp_reader hτ h sat hk with⟨v,hK,hs,hr⟩|⟨_,hop⟩
  ·exact wp_val (hr w' (.inr sat.rel)) (hn _ _ _ _ _ _ _ hK sat hs)
  ·exact opS_sound hop sat hn
 obtain⟨dst,op,ty,pos,after,guard⟩:=o
 unfold sxOp at h
 split at h<;>first|(exact False.elim h)|(rename_i hop;simp only at hop;subst hop)
 -- move
 ·exact absurd rfl hk
 -- assign
 ·exact absurd rfl hk
 -- pick
 ·exact absurd rfl hk
 -- alloc
 ·rename_i t
  split at h
  ·rename_i sz ag by_ ze tag ik e al fs hti
   obtain⟨z,hz1,hz2⟩:=(hτ t _ hti).zeroV w'
   have hK:=valsK_spec h
   simp only at hz2
   have hrel:=box_new sat (t:=t) (cs:=ze.map At.v) (fun c hc=>by simp at hc;obtain⟨v,_,rfl⟩:=hc;trivial)
   rw[map_v_den]at hrel
   have hzz:z.cells=ze.toArray:=by apply Array.ext';simpa using hz2
   refine wp_val (w2:=w'.alloc (.cells ze.toArray t)) (v:=.pointer (some ⟨w'.heap.size,0,none⟩)) ?_ ?_
   ·simp[execOp,Instr.alloc,hz1,newVar,newRow,hzz]
   ·have:=hn _ _ _ _ _ _ _ hK (sat.next hrel (by omega) upd_lt) (by simp[SV.sc,At.sc])
    simpa [SV.den,At.den]using this
  ·exact h.elim
 -- box
 ·rename_i t x
  obtain⟨v,h1,hv,hs⟩:=wEv_spec sat h
  obtain⟨cs,hK,hcells,hsc⟩:=cellsK_spec h1
  have hrel:=box_new sat (t:=t) (hsc nx hs)
  refine wp_val (w2:=w'.alloc (.cells (cs.map (At.den ρ)).toArray t)) (v:=.pointer (some ⟨w'.heap.size,0,none⟩)) ?_ ?_
  ·simp[execOp,Instr.box,hv,newVar,newRow,hcells ρ]
  ·have:=hn _ _ _ _ _ _ _ hK (sat.next hrel (by omega) upd_lt) (by simp[SV.sc,At.sc])
   simpa [SV.den,At.den]using this
 -- build
 ·exact absurd rfl hk
 -- buildSlice
 ·rename_i t m parts
  split at h
  ·rename_i sz ag by_ ze tag ik e al fs hti
   have ht:=hτ t _ hti
   split at h
   ·rename_i htag
    have hu:=ht.i4 (beq_t htag)
    simp only at hu
    split at h
    ·rename_i sz' ag' by' ze' tag' ik' e' al' fs' hte
     have hte:=hτ e _ hte
     obtain⟨inf,z,hi,hsz,hby,hz,hzc⟩:=hte.info
     have hzl:=hte.zlen
     simp only at hsz hby hzc hzl
     split at h
     ·rename_i hle
      have hle:=Nat.le_of_ble_eq_true hle
      have h0:=valsK_spec h
      obtain⟨cs',hK,hcs,hlen,hfill⟩:=partsK_spec sat (placeF:=fun i=>some (i*inf.size,inf.size)) (fun i k hk=>⟨i*sz',sz',hk,by rw[hsz]⟩) h0
       (fun c hc=>by obtain⟨v,_,rfl⟩:=List.mem_map.1 hc;trivial)
      rw[map_v_den]at hfill
      have hzarr:z.cells=ze'.toArray:=by apply Array.ext';simpa using hzc
      have hmade:((List.replicate m ze').flatten).toArray=madeCells z.cells (m*inf.size):=by
       rw[hzarr,hsz,←hzl]
       exact(made_many ze' m).symm
      have hrel:=box_new sat (t:=e) hcs
      refine wp_val (w2:=w'.alloc (.cells (cs'.map (At.den ρ)).toArray e)) (v:=.slice (some ⟨w'.heap.size,0,none⟩) m m) ?_ ?_
      ·simp only[execOp]
       refine run_v ?_
       rw[hmade]at hfill
       by_cases hpos:m*inf.size=0
       ·have hfill':Instr.fill (fun i=>some (i*inf.size,inf.size)) (madeCells z.cells 0) (parts.toList.map fun p=>(p.1,a.eval p.2))=some (cs'.map (At.den ρ)).toArray:=by rw[hpos]at hfill;exact hfill
        have e0:madeCells z.cells 0= #[]:=by simp[madeCells]
        rw[e0]at hfill'
        have er:Array.range 0= #[]:=rfl
        simp[Instr.buildSlice,run_underlying hu,sizeOf,typeInfo,zeroValue,hi,hz,hpos,newRow,hfill',er]
       ·exact run_buildSlice w' t e m _ _ inf z hu hi hz (by rw[hsz];omega) hpos (by rw[←hfill];simp[madeCells])
      ·have:=hn _ _ _ _ _ _ _ hK (sat.next hrel (by omega) upd_lt) (by simp[SV.sc,At.sc])
       simpa [SV.den,At.den]using this
     ·exact h.elim
    ·exact h.elim
   ·exact h.elim
  ·exact h.elim
 -- load
 ·exact absurd rfl hk
 -- store
 ·rename_i t x y
  obtain⟨v,h1,hv,hs⟩:=wEv_spec sat h
  obtain⟨u,h2,hu,hs2⟩:=wEv_spec sat h1
  cases hg:giveS H v u with
  |true=>
   rw[hg]at h2
   cases dr with
   |true=>exact h2.elim
   |false=>
    have h2:OpG P B _ l H nx iv w K:=h2
    obtain⟨w2,w3,H',iv',hrun,hrel,hK⟩:=h2.h ρ w' a.eval sat.rel (fun x v hx=>(ev_spec sat hx).1)
    refine wp_skp (w2:=w3) hrun ?_
    exact hn _ _ _ _ _ _ _ hK (sat.next hrel (Nat.le_refl _) (fun _ _=>rfl)) trivial
  |false=>
   rw[hg]at h2
   obtain⟨H',w2,w3,hK,hrel,hrun⟩:=storeK_spec hτ sat hs hs2 h2
   refine wp_skp (w2:=w3) (by simp[execOp,hv,hu,hrun]) ?_
   exact hn _ _ _ _ _ _ _ hK (sat.next hrel (Nat.le_refl _) (fun _ _=>rfl)) trivial
 -- nilCheck
 ·exact absurd rfl hk
 -- binOp
 ·exact absurd rfl hk
 -- unOp
 ·exact absurd rfl hk
 -- convert
 ·exact absurd rfl hk
 -- makeFunc
 ·exact absurd rfl hk
 -- makeSlice
 ·rename_i t x y
  obtain⟨v,h1,hv,_⟩:=wEv_spec sat h
  obtain⟨u,h2,hu,_⟩:=wEv_spec sat h1
  obtain⟨r,H',nx',ρ',w2,hK,hrel,hr,hnx,hρ,hrun⟩:=makeK_spec hτ sat h2
  refine wp_val (w2:=w2) (by simp only[execOp,hv,hu];exact run_v hrun) ?_
  exact hn _ _ _ _ _ _ _ hK (sat.next hrel hnx hρ) hr
 -- slice
 ·exact absurd rfl hk
 -- fieldAddr
 ·exact absurd rfl hk
 -- field
 ·exact absurd rfl hk
 -- indexAddr
 ·exact absurd rfl hk
 -- extract
 ·exact absurd rfl hk
 -- len
 ·exact absurd rfl hk
 -- append
 ·rename_i x y t u
  split at h
  ·rename_i htu
   have htu:=beq_t htu
   subst htu
   obtain⟨v,h1,hv,_⟩:=wEv_spec sat h
   obtain⟨v2,h2,hv2,_⟩:=wEv_spec sat h1
   split at h2
   ·unfold gaK at h2
    split at h2
    ·exact h2.elim
    ·obtain⟨v,H',nx',iv',ρ',w2,w3,hrun,hrel,hs,hnx,hρ,hK⟩:=h2.h ρ w' a.eval sat.rel (fun x v hx=>(ev_spec sat hx).1)
     exact wp_val hrun (hn _ _ _ _ _ _ _ hK (sat.next hrel hnx hρ) hs)
   rcases h2 with h2|h2
   ·obtain⟨r,H',nx',ρ',w2,hK,hrel,hr,hnx,hρ,hrun⟩:=appendK_spec (ty:=ty) hτ sat h2
    refine wp_val (v:=r.den ρ') (w2:=w2) ?_ ?_
    ·simp[execOp,resolve,invoke,builtin,hv,hv2,hrun]
    ·exact hn _ _ _ _ _ _ _ hK (sat.next hrel hnx hρ) hr
   ·exact opS_sound h2 sat hn
  ·exact opS_sound h sat hn
 -- max
 ·exact absurd rfl hk
 -- min
 ·exact absurd rfl hk
 -- copy
 ·exact opS_sound h sat hn
 -- clear
 ·exact opS_sound h sat hn
 -- cap
 ·exact opS_sound h sat hn
 -- index
 ·exact opS_sound h sat hn
 -- makeMap
 ·exact opS_sound h sat hn
 -- lookup
 ·exact opS_sound h sat hn
 -- mapUpdate
 ·exact opS_sound h sat hn
 -- call
 ·rename_i f args ats
  obtain⟨v,h1,hv,_⟩:=wEv_spec sat h
  obtain⟨vs,h2,hvs,hsc⟩:=wEvs_spec sat h1
  have hargs:(args.toArray).map a.eval=densOf ρ vs:=by
   apply Array.ext'
   simp[densOf,hvs]
  have hcall:∀(g:Nat) (args:(Nat→Val)→Array Value) (K:SV→Hp→Iv→World→Prop),callK dr P B g args H nx iv w K→CallS P B g args H nx iv w K:=fun g args K h=>by
   cases dr
   ·exact h
   ·exact callE_S h
  split at h2
  ·rename_i g first caps
   refine callS_spec sat (hcall _ _ _ h2) ?_ (fun v H' iv' w2 hK hs hv=>hn _ _ _ _ _ _ _ hK hs hv)
   simp[execOp,resolve,hv,SV.den,At.den,Deferred.ofValue,invoke,hargs]
  ·rename_i g ids
   refine callS_spec sat (hcall _ _ _ h2) ?_ (fun v H' iv' w2 hK hs hv=>hn _ _ _ _ _ _ _ hK hs hv)
   simp[execOp,resolve,hv,SV.den,At.den,Deferred.ofValue,invoke,hargs]
  ·exact h2.elim
end
end Go.Sx

/- The executor is sound, sixth part: a region in its order, a piece of code, a function. -/
namespace Go.Sx
open Go

def Ex.to:Ex→Exit
 | .normal=>.normal
 | .exit id=>.exit id
 | .ret=>.ret

/-- every slot that is written is one of the frame's -/
def opOk(n:Nat)(o:Oper):Bool:=match o.dst with
 |some d=>Nat.blt d n
 |none=>true
def codeOk(n:Nat):Code→Bool
 | .region _ ops _=>ops.toList.all (opOk n)
 | .seq a b=>codeOk n a&&codeOk n b
 | .cond _ a b=>codeOk n a&&codeOk n b
 | .block _ c=>codeOk n c
 | .loop c=>codeOk n c
 |_=>true

section
variable{P:Program}{τ:Tab}{B n nx:Nat}{l:Env}{H:Hp}{iv:Iv}{w w':World}{ρ:Nat→Val}{a:Act}

theorem Sat.put(sat:Sat n l H nx iv B w ρ a w'){d:Nat}(hd:d<n){v:SV}(hv:v.sc nx):Sat n ((d,v)::l) H nx iv B w ρ (a.put (some d) (v.den ρ)) w':=by
 refine⟨sat.rel,by simp[Act.put,sat.size],sat.defers,fun t u h=>?_,fun t u h=>?_⟩
 ·rw[getE_cons]at h
  split at h
  ·rename_i e;subst e;injection h with h;subst h
   simp[Act.put,sat.size,hd]
  ·rename_i e
   have:=sat.env t u h
   simpa [Act.put,Array.getElem?_setIfInBounds_ne e]using this
 ·rw[getE_cons]at h
  split at h
  ·injection h with h;subst h;exact hv
  ·exact sat.sc t u h

theorem setE_spec(sat:Sat n l H nx iv B w ρ a w'){d:Option Tmp}{v:SV}{k:Env→Prop}(h:setE d v l k)(hd:∀t,d=some t→t<n)(hv:v.sc nx):
  ∃l',k l'∧Sat n l' H nx iv B w ρ (a.put d (v.den ρ)) w':=by
 unfold setE at h
 split at h
 ·rename_i t
  exact⟨_,h,sat.put (hd t rfl) hv⟩
 ·exact⟨l,h,sat⟩

theorem dstOf_spec:∀{all:List Oper} {j:Nat},dstOf all j=(all[j]?).bind (·.dst)
 |[],j=>by simp[dstOf]
 |o::r,0=>by simp[dstOf]
 |o::r,j+1=>by simp[dstOf,dstOf_spec (all:=r)]

theorem Sat.know(sat:Sat n l H nx iv B w ρ a w'){d:Nat}{v:SV}(hd:a.tmps[d]? =some (v.den ρ))(hv:v.sc nx):Sat n ((d,v)::l) H nx iv B w ρ a w':=by
 refine⟨sat.rel,sat.size,sat.defers,fun t u h=>?_,fun t u h=>?_⟩
 ·rw[getE_cons]at h
  split at h
  ·rename_i e;subst e;injection h with h;subst h;exact hd
  ·exact sat.env t u h
 ·rw[getE_cons]at h
  split at h
  ·injection h with h;subst h;exact hv
  ·exact sat.sc t u h

theorem sxGuard_spec(sat:Sat n l H nx iv B w ρ a w'){all:List Oper}{o:Oper}{yes no:Env→Prop}(h:sxGuard all o.guard l yes no):
  (Region.wanted o (yielded all.toArray a.tmps)=true∧∃l',yes l'∧Sat n l' H nx iv B w ρ a w')∨(Region.wanted o (yielded all.toArray a.tmps)=false∧∃l',no l'∧Sat n l' H nx iv B w ρ a w'):=by
 unfold sxGuard at h
 split at h
 ·rename_i hg
  exact .inl ⟨by simp[Region.wanted,hg],l,h,sat⟩
 ·rename_i j want hg
  have hy:Region.wanted o (yielded all.toArray a.tmps)=(yielded all.toArray a.tmps j==some want):=by simp[Region.wanted,hg]
  split at h
  ·rename_i hd
   rw[dstOf_spec]at hd
   exact .inr ⟨by rw[hy];simp[yielded,hd],l,h,sat⟩
  ·rename_i d hd
   rw[dstOf_spec]at hd
   split at h
   ·rename_i b hb
    have ht:=sat.env d _ hb
    have hyb:yielded all.toArray a.tmps j=some b:=by simp[yielded,hd,ht,SV.den,At.den]
    have hkt:b=true→Sat n ((d,.o (.v (.bool true)))::l) H nx iv B w ρ a w':=fun e=>sat.know (by rw[ht,e]) trivial
    have hkf:b=false→Sat n ((d,.o (.v (.bool false)))::l) H nx iv B w ρ a w':=fun e=>sat.know (by rw[ht,e]) trivial
    split at h
    ·cases hbb:b
     ·exact .inr ⟨by rw[hy,hyb,hbb];rfl,_,h.f hbb,hkf hbb⟩
     ·exact .inl ⟨by rw[hy,hyb,hbb];rfl,_,h.t hbb,hkt hbb⟩
    ·cases hbb:b
     ·exact .inl ⟨by rw[hy,hyb,hbb];rfl,_,h.f hbb,hkf hbb⟩
     ·exact .inr ⟨by rw[hy,hyb,hbb];rfl,_,h.t hbb,hkt hbb⟩
   ·rename_i vs hb
    have ht:=sat.env d _ hb
    exact .inr ⟨by rw[hy];simp[yielded,hd,ht,SV.den,At.den],l,h,sat⟩
   ·exact h.elim

theorem sxOps_sound(hτ:TabOK P τ){all:List Oper}{K:KT}{Q:Exit→Act→World→Prop}
  (hQ:∀l' H' nx' iv' w2 ρ' a' w3,K l' H' nx' iv' w2→Sat n l' H' nx' iv' B w2 ρ' a' w3→Q .normal a' w3):
  ∀(rest:List Oper) (l:Env) (H:Hp) (nx:Nat) (iv:Iv) (w:World) (ρ:Nat→Val) (a:Act) (w':World),rest.all (opOk n)=true→sxOps P τ B all rest l H nx iv w K→Sat n l H nx iv B w ρ a w'→
   wpList P all.toArray Q rest a w'
 |[],l,H,nx,iv,w,ρ,a,w',_,h,sat=>wpList_nil (hQ _ _ _ _ _ _ _ _ h sat)
 |o::r,l,H,nx,iv,w,ρ,a,w',hok,h,sat=>by
  simp only[List.all_cons,Bool.and_eq_true]at hok
  have hd:∀t,o.dst=some t→t<n:=fun t ht=>by
   have:=hok.1
   simp only[opOk,ht]at this
   have h5:t+1≤n:=by simpa [Nat.blt]using this
   exact h5
  refine wpList_step fun Kc hKc=>?_
  unfold sxOps sxStep at h
  rcases sxGuard_spec sat h with⟨hw,l1,h1,sat1⟩|⟨hw,l1,h1,sat1⟩
  ·rw[if_pos hw]
   refine sxOp_sound hτ h1 sat1 fun v H' nx' iv' w2 ρ' w3 h2 sat2 hv=>?_
   obtain⟨l2,h3,sat3⟩:=setE_spec sat2 h2 hd hv
   exact hKc _ _ (sxOps_sound hτ hQ r _ _ _ _ _ _ _ _ hok.2 h3 sat3)
  ·rw[if_neg (by simp[hw])]
   obtain⟨l2,h3,sat3⟩:=setE_spec sat1 h1 hd trivial
   exact hKc _ _ (sxOps_sound hτ hQ r _ _ _ _ _ _ _ _ hok.2 h3 sat3)

theorem Sub.sat{t:LoopI}(h:Sub B l nx ρ w' t)(sat:Sat n l H nx iv B w ρ a w'):∃ρ',Sat n t.l t.H t.nx t.iv B t.w ρ' a w':=by
 obtain⟨ρ',h1,h2⟩:=h
 refine⟨ρ',h1,sat.size,sat.defers,fun u v hv=>?_,fun u v hv=>(h2 u v hv).1⟩
 obtain⟨_,v0,h3,h4⟩:=h2 u v hv
 rw[sat.env u v0 h3,h4]

theorem sxCode_sound(hτ:TabOK P τ):∀(c:Code) (l:Env) (H:Hp) (nx:Nat) (iv:Iv) (w:World) (Q':Ex→KT),sxCode P τ B c l H nx iv w Q'→codeOk n c=true→
  ∀(ρ:Nat→Val) (a:Act) (w':World),Sat n l H nx iv B w ρ a w'→∀Q:Exit→Act→World→Prop,(∀e l' H' nx' iv' w2 ρ' a' w3,Q' e l' H' nx' iv' w2→Sat n l' H' nx' iv' B w2 ρ' a' w3→Q e.to a' w3)→c.wp P Q a w'
 | .skip,l,H,nx,iv,w,Q',h,_,ρ,a,w',sat,Q,hQ=>wp_skip (hQ .normal _ _ _ _ _ _ _ _ h sat)
 | .region id ops false,l,H,nx,iv,w,Q',h,hok,ρ,a,w',sat,Q,hQ=>by
  obtain⟨ol⟩:=ops
  exact wp_region_lit (sxOps_sound hτ (fun l' H' nx' iv' w2 ρ' a' w3 hk hs=>hQ .normal _ _ _ _ _ _ _ _ hk hs) ol _ _ _ _ _ _ _ _ hok h sat)
 | .region id ops true,l,H,nx,iv,w,Q',h,hok,ρ,a,w',sat,Q,hQ=>
  DrawnS.h h n ρ a w' hok sat Q (fun l' H' nx' iv' w2 ρ' a' w3 hk hs=>hQ .normal _ _ _ _ _ _ _ _ hk hs) id
 | .seq c d,l,H,nx,iv,w,Q',h,hok,ρ,a,w',sat,Q,hQ=>by
  simp only[codeOk,Bool.and_eq_true]at hok
  refine wp_seq (sxCode_sound hτ c _ _ _ _ _ _ h hok.1 ρ a w' sat _ fun e l' H' nx' iv' w2 ρ' a' w3 hk hs=>?_)
  cases e with
  |normal=>exact sxCode_sound hτ d _ _ _ _ _ _ hk hok.2 ρ' a' w3 hs Q hQ
  |exit id=>exact hQ (.exit id) _ _ _ _ _ _ _ _ hk hs
  |ret=>exact hQ .ret _ _ _ _ _ _ _ _ hk hs
 | .cond x c d,l,H,nx,iv,w,Q',h,hok,ρ,a,w',sat,Q,hQ=>by
  simp only[codeOk,Bool.and_eq_true]at hok
  obtain⟨v,h1,hv,hvs⟩:=wEv_spec sat h
  clear hvs
  split at h1
  ·rename_i t
   refine wp_cond_split (t:=t) (by rw[hv];rfl) (fun ht=>?_) (fun ht=>?_)
   ·exact sxCode_sound hτ c _ _ _ _ _ _ (h1.t ht) hok.1 ρ a w' sat Q hQ
   ·exact sxCode_sound hτ d _ _ _ _ _ _ (h1.f ht) hok.2 ρ a w' sat Q hQ
  ·exact h1.elim
 | .block id c,l,H,nx,iv,w,Q',h,hok,ρ,a,w',sat,Q,hQ=>by
  refine wp_block (sxCode_sound hτ c _ _ _ _ _ _ h hok ρ a w' sat _ fun e l' H' nx' iv' w2 ρ' a' w3 hk hs=>?_)
  cases e with
  |normal=>exact hQ .normal _ _ _ _ _ _ _ _ hk hs
  |exit id'=>
   simp only[Ex.to,Exit.inBlock]
   simp only at hk
   split at hk
   ·rename_i he;rw[if_pos (beq_t he)];exact hQ .normal _ _ _ _ _ _ _ _ hk hs
   ·rename_i he
    rw[if_neg (fun e=>by subst e;rw[Nat.beq_refl]at he;cases he)]
    exact hQ (.exit id') _ _ _ _ _ _ _ _ hk hs
  |ret=>exact hQ .ret _ _ _ _ _ _ _ _ hk hs
 | .loop c,l,H,nx,iv,w,Q',h,hok,ρ,a,w',sat,Q,hQ=>by
  obtain⟨α,st,μ,I,h0,hr⟩:=h
  intro b k cs
  have key:∀m x ρ a w',μ x=m→I x→Sat n (st x).l (st x).H (st x).nx (st x).iv B (st x).w ρ a w'→
    ∃e a' w2,Q e a' w2∧Arrives P (lone (b.at a (.code c:: .inLoop c::k)) cs w') b k cs e a' w2:=by
   intro m
   induction m using Nat.strongRecOn with
   |_ m ih=>
    intro x ρ a w' hm hI hs
    have hc:=sxCode_sound hτ c _ _ _ _ _ _ (hr x hI) hok ρ a w' hs
     (fun e a2 w2=>match e with
      | .normal=>∃y ρ2,I y∧Sat n (st y).l (st y).H (st y).nx (st y).iv B (st y).w ρ2 a2 w2∧μ y<μ x
      |e=>Q e a2 w2) (fun e l' H' nx' iv' w2 ρ' a' w3 hk hs'=>by
       cases e with
       |normal=>
        obtain⟨y,hIy,hy,hlt⟩:=hk ρ' w3 hs'.rel
        obtain⟨ρ2,hs2⟩:=hy.sat hs'
        exact⟨y,ρ2,hIy,hs2,hlt⟩
       |exit id=>exact hQ (.exit id) _ _ _ _ _ _ _ _ hk hs'
       |ret=>exact hQ .ret _ _ _ _ _ _ _ _ hk hs')
    obtain⟨e,a₁,w₁,hq,harr⟩:=hc b (.inLoop c::k) cs
    cases e with
    |normal=>
     obtain⟨y,ρ2,hIy,hs2,hlt⟩:=hq
     obtain⟨e₂,a₂,w₂,hq₂,harr₂⟩:=ih (μ y) (hm▸hlt) y ρ2 a₁ w₁ rfl hIy hs2
     exact⟨e₂,a₂,w₂,hq₂,.of_steps (Steps.trans harr (.one step_inLoop)) harr₂⟩
    |exit id=>exact⟨_,a₁,w₁,hq,.pass (x:=.inLoop c) rfl (fun _ _=>.inl (by simp)) harr⟩
    |goto l=>exact⟨_,a₁,w₁,hq,.pass (x:=.inLoop c) rfl (fun _ _=>.inl (by simp)) harr⟩
    |ret=>exact⟨_,a₁,w₁,hq,.pass (x:=.inLoop c) rfl (fun _ _=>.inl (by simp)) harr⟩
    |panic ch=>exact⟨_,a₁,w₁,hq,.pass (x:=.inLoop c) rfl (fun _ _=>.inl (by simp)) harr⟩
    |outgrown=>exact⟨_,a₁,w₁,hq,.pass (x:=.inLoop c) rfl (fun _ _=>.inl (by simp)) harr⟩
  obtain⟨x,hIx,hx⟩:=h0 ρ w' sat.rel
  obtain⟨ρ2,hs2⟩:=hx.sat sat
  obtain⟨e,a',w2,hq,harr⟩:=key _ x ρ2 a w' rfl hIx hs2
  exact⟨e,a',w2,hq,.of_steps (.one step_loop) harr⟩
 | .exit id,l,H,nx,iv,w,Q',h,_,ρ,a,w',sat,Q,hQ=>wp_exit (hQ (.exit id) _ _ _ _ _ _ _ _ h sat)
 | .ret,l,H,nx,iv,w,Q',h,_,ρ,a,w',sat,Q,hQ=>wp_ret (hQ .ret _ _ _ _ _ _ _ _ h sat)
 | .rangeFunc _ _ _ _,l,H,nx,iv,w,Q',h,_,ρ,a,w',sat,Q,hQ=>h.elim
 | .scope _,l,H,nx,iv,w,Q',h,_,ρ,a,w',sat,Q,hQ=>h.elim
 | .label _,l,H,nx,iv,w,Q',h,_,ρ,a,w',sat,Q,hQ=>h.elim
 | .goto _,l,H,nx,iv,w,Q',h,_,ρ,a,w',sat,Q,hQ=>h.elim
 | .refuse _,l,H,nx,iv,w,Q',h,_,ρ,a,w',sat,Q,hQ=>h.elim

/-! ### a function -/
def initE:Nat→List Value→Env
 |_,[]=>[]
 |k,v::r=>(k,.o (.v v))::initE (k+1) r
theorem initE_spec:∀(vs:List Value) (k t:Nat) (v:SV),getE (initE k vs) t=some v→k≤t∧∃x,v= .o (.v x)∧vs[t-k]? =some x
 |[],k,t,v,h=>by simp[initE,getE]at h
 |x::r,k,t,v,h=>by
  rw[initE,getE_cons]at h
  split at h
  ·rename_i e;subst e;injection h with h;subst h;exact⟨Nat.le_refl _,x,rfl,by simp⟩
  ·obtain⟨h1,y,h2,h3⟩:=initE_spec r (k+1) t v h
   refine⟨by omega,y,h2,?_⟩
   rw[show t-k=(t-(k+1))+1 by omega]
   simpa using h3

def resK(τ:Tab)(B:Nat)(l:Env)(H:Hp)(nx:Nat)(iv:Iv)(w:World):List ResultVar→(List SV→Prop)→Prop
 |[],k=>k []
 | .tmp t::r,k=>match getE l t with
  |some v=>resK τ B l H nx iv w r (fun vs=>k (v::vs))
  |none=>False
 | .cell t ty::r,k=>match getE l t with
  |some v=>loadK τ B ty v H nx iv w (fun u=>resK τ B l H nx iv w r (fun vs=>k (u::vs)))
  |none=>False

def doneK(B:Nat)(H:Hp)(nx:Nat)(iv:Iv)(w:World)(R:Ending→World→Prop):List SV→Prop
 |[v]=>∀ρ w',Rel H nx iv B w ρ w'→R (.returned (v.den ρ)) w'
 |vs=>∀ρ w',Rel H nx iv B w ρ w'→R (.returned (.tuple (densOf ρ vs))) w'

def retK(τ:Tab)(B:Nat)(rs:List ResultVar)(R:Ending→World→Prop):Ex→KT
 | .exit _,_,_,_,_,_=>False
 | .normal,l,H,nx,iv,w=>resK τ B l H nx iv w rs (doneK B H nx iv w R)
 | .ret,l,H,nx,iv,w=>resK τ B l H nx iv w rs (doneK B H nx iv w R)

def resF(tmps:Array Value):ResultVar→Sem Value
 | .tmp t=>pure (tmps.getD t undef)
 | .cell c t=>do loadVar t (←asAddr (tmps.getD c undef))
theorem resK_spec(hτ:TabOK P τ)(sat:Sat n l H nx iv B w ρ a w'):∀{rs:List ResultVar} {k:List SV→Prop},resK τ B l H nx iv w rs k→
  ∃vs,k vs∧(rs.mapM (resF a.tmps)).run P w'= .ok (vs.map (SV.den ρ)) w'
 |[],k,h=>⟨[],h,by simp⟩
 | .tmp t::r,k,h=>by
  unfold resK at h
  split at h
  ·rename_i v hv
   obtain⟨vs,h1,h2⟩:=resK_spec hτ sat h
   have:=sat.env t v hv
   exact⟨v::vs,h1,by rw[List.mapM_cons,Sem.run_bind];simp[resF,this,h2]⟩
  ·exact h.elim
 | .cell t ty::r,k,h=>by
  unfold resK at h
  split at h
  ·rename_i v hv
   obtain⟨u,h1,hu,hrun0⟩:=loadK_spec hτ sat.rel (sat.sc t v hv) h
   have hrun:=hrun0 w' sat.rel
   clear hrun0
   obtain⟨vs,h2,h3⟩:=resK_spec hτ sat h1
   have htm:=sat.env t v hv
   refine⟨u::vs,h2,?_⟩
   have:(do loadVar ty (←asAddr (v.den ρ)):Sem Value).run P w'= .ok (u.den ρ) w':=by
    revert hrun
    generalize v.den ρ=x
    intro hrun
    cases x with
    |pointer ad=>
     cases ad with
     |some ad=>simpa [asAddr,Instr.loadAt,Instr.sureAddr]using hrun
     |none=>simp[Instr.loadAt,Instr.sureAddr]at hrun
    |_=>simp[Instr.loadAt,Instr.sureAddr]at hrun
   have h4:(resF a.tmps (.cell t ty)).run P w'= .ok (u.den ρ) w':=by
    have e:a.tmps.getD t undef=v.den ρ:=by simp[htm]
    show(do loadVar ty (←asAddr (a.tmps.getD t undef)):Sem Value).run P w'=_
    rw[e];exact this
   rw[List.mapM_cons,Sem.run_bind,h4]
   simp[h3]
  ·exact h.elim

theorem calls_of_sx(hτ:TabOK P τ){f:FuncId}{fn:Func}{c:Code}{args:Array Value}{w:World}{R:Ending→World→Prop}(hf:P.funcs[f]? =some fn)(hb:fn.body=some c)
  (hn:args.size≤fn.ntmps) (hok:codeOk fn.ntmps c=true) (h:sxCode P τ w.heap.size c (initE 0 args.toList) [] 0 [] w (retK τ w.heap.size fn.results.toList R)):Calls P f args w R:=by
 refine calls_of_wp hf hb ?_
 have sat:Sat fn.ntmps (initE 0 args.toList) [] 0 [] w.heap.size w (fun _=>⟨0,0,true⟩) {tmps:=args++Array.replicate (fn.ntmps-args.size) undef,defers:=[]} w:=by
  refine⟨Rel.mk' rfl rfl rfl (Nat.le_refl _) (Nat.le_refl _) (by simp) (by simp[getH]) (by simp[getH]) (by simp[getH]) (by simp[getH]) (by simp[getH]) (fun _ _ _=>rfl) (by simp),by simp;omega,rfl,fun t v hv=>?_,fun t v hv=>?_⟩
  ·obtain⟨_,x,rfl,hx⟩:=initE_spec _ 0 t v hv
   simp only[Nat.sub_zero,Array.getElem?_toList]at hx
   rw[Array.getElem?_append_left (Array.getElem?_eq_some_iff.1 hx).1,hx]
   rfl
  ·obtain⟨_,x,rfl,hx⟩:=initE_spec _ 0 t v hv
   trivial
 refine sxCode_sound hτ c _ _ _ _ _ _ h hok _ _ _ sat _ fun e l' H' nx' iv' w2 ρ' a' w3 hk hs=>?_
 have fin:resK τ w.heap.size l' H' nx' iv' w2 fn.results.toList (doneK w.heap.size H' nx' iv' w2 R)→a'.defers=[]∧∃v,(results fn a'.tmps).run P w3= .ok v w3∧R (.returned v) w3:=by
  intro hk
  obtain⟨vs,h1,h2⟩:=resK_spec hτ hs hk
  refine⟨hs.defers,if hsz:(vs.map (SV.den ρ')).toArray.size=1 then(vs.map (SV.den ρ')).toArray[0]else .tuple (vs.map (SV.den ρ')).toArray,?_,?_⟩
  ·have e:(fn.results.mapM (resF a'.tmps)).run P w3= .ok (vs.map (SV.den ρ')).toArray w3:=by
    rw[Array.mapM_eq_mapM_toList]
    simp only[Sem.run_map,h2,Result.andThen_ok]
   show(do let vs ←fn.results.mapM (resF a'.tmps);pure (if h:vs.size=1 then vs[0]else .tuple vs):Sem Value).run P w3=_
   rw[Sem.run_bind,e]
   simp only[Result.andThen_ok,Sem.run_pure]
  ·match vs,h1 with
   |[v],h1=>simpa using h1 ρ' w3 hs.rel
   |[],h1=>simpa [densOf]using h1 ρ' w3 hs.rel
   |v1::v2::r,h1=>simpa [densOf]using h1 ρ' w3 hs.rel
 cases e with
 |normal=>exact fin hk
 |exit id=>exact hk.elim
 |ret=>exact fin hk
end
end Go.Sx

/- The executor is sound, seventh part: a region that draws its order. -/
namespace Go.Sx
open Go

/-! ### Readers first: the orders' law with 'nothing that was there has changed' in the place of a fixed condition -/
section
variable{P:Program}{ops:Array Oper}{Q:Exit→Act→World→Prop}{md:Region.Mode}

def YieldsE(P:Program)(ops:Array Oper)(pu:Bool)(o:Oper)(v:Value)(a:Act)(w:World):Prop:=
 (Region.wanted o (yielded ops a.tmps)=true∧∀w2,(pu=true∨Ext w w2)→(execOp a.eval o).run P w2= .ok (.value v) w2)∨
 (Region.wanted o (yielded ops a.tmps)=false∧v=undef)

theorem Ext.refl(w:World):Ext w w:=RowKit.Below.refl _ _
theorem Ext.trans{a b c:World}(h:Ext a b)(k:Ext b c):Ext a c:=RowKit.Below.trans h (k.mono h.size)

theorem YieldsE.wpOp{pu:Bool}{i:Nat}{o:Oper}{v:Value}{a:Act}{w:World}(hi:ops[i]? =some o)(hy:YieldsE P ops pu o v a w)
  {K:Act→World→Prop} (h:K (a.put o.dst v) w):wpOp P ops Q i K a w:=by
 unfold Go.wpOp
 simp only[hi]
 rcases hy with⟨hw,hv⟩|⟨hw,rfl⟩
 ·simp only[hw,if_true,Oper.wp,hv w (.inr (Ext.refl w)),Oper.upon];exact .inl h
 ·simp only[hw,Bool.false_eq_true,if_false];exact h
theorem YieldsE.of_same{pu:Bool}{o:Oper}{v:Value}{a a':Act}{w:World}(hy:YieldsE P ops pu o v a w)(he:execOp a'.eval o=execOp a.eval o)
  (hw:Region.wanted o (yielded ops a'.tmps)=Region.wanted o (yielded ops a.tmps)):YieldsE P ops pu o v a' w:=by
 unfold YieldsE at*
 rw[he,hw]
 exact hy
theorem YieldsE.ext{pu:Bool}{o:Oper}{v:Value}{a:Act}{w w2:World}(hy:YieldsE P ops pu o v a w)(e:pu=true∨Ext w w2):YieldsE P ops pu o v a w2:=
 hy.imp (fun ⟨h1,h2⟩=>⟨h1,fun w3 h3=>h2 w3 (by
  rcases h3 with h3|h3
  ·exact .inl h3
  ·exact e.imp id (fun e=>e.trans h3))⟩) id

theorem wpOp_putE{pu:Bool}{j:Nat}{oi oj:Oper}{v:Value}{w0:World}(hj:ops[j]? =some oj)(hap:oi.apart ops oj=true)
  (hsi:∀cs b,oi.op≠ .select cs b) (hsj:∀cs b,oj.op≠ .select cs b)
  (hQ:∀c a w,Q (.panic c) (a.put oi.dst v) w→Q (.panic c) a w) {K:Act→World→Prop} {a:Act} {w:World}
  (hy:YieldsE P ops pu oi v a w0) (h:wpOp P ops Q j K (a.put oi.dst v) w):
  wpOp P ops Q j (fun a' w'=>YieldsE P ops pu oi v a' w0∧K (a'.put oi.dst v) w') a w:=by
 obtain⟨h1,h2,h3⟩:=Oper.apart_spec hap
 have keep:∀(a:Act),YieldsE P ops pu oi v a w0→∀u,YieldsE P ops pu oi v (a.put oj.dst u) w0:=fun a hy u=>
  hy.of_same (execOp_put oi hsi a oj.dst u h3) (wanted_put oi a oj.dst u h3)
 have keepD:∀d,YieldsE P ops pu oi v {a with defers:=d::a.defers} w0:=fun d=>hy.of_same rfl rfl
 unfold wpOp at*
 simp only[hj]at*
 rw[wanted_put oj a oi.dst v h1]at h
 split
 ·rename_i hw
  simp only[hw,if_true]at h
  rcases h with h|⟨hasks,hlets⟩
  case inr=>exact .inr ⟨by unfold Oper.asks at *;rw[execOp_put oj hsj a oi.dst v h1]at hasks;exact hasks,hlets⟩
  refine .inl ?_
  unfold Oper.wp at*
  rw[execOp_put oj hsj a oi.dst v h1]at h
  generalize (execOp a.eval oj).run P w=r at*
  cases r with
  |ok n w'=>
   cases n<;>simp only[Oper.upon]at h ⊢
   case value u=>exact⟨keep a hy u,by rw[←Act.put_comm a v u h2];exact h⟩
   case skip=>exact⟨keep a hy _,by rw[←Act.put_comm a v undef h2];exact h⟩
   case defer d=>
    refine⟨keep _ (keepD d) _,?_⟩
    rw[←Act.put_comm _ v undef h2,←Act.put_defers]
    exact h
   case enter f args=>
    refine Calls.mono h fun e w'' he=>?_
    cases e with
    |returned u=>exact⟨keep a hy u,by rw[←Act.put_comm a v u h2];exact he⟩
    |panicked c=>exact hQ _ _ _ he
    |outgrown=>exact he
   case row row args=>exact Rows.mono h fun u w'' he=>⟨keep a hy u,by rw[←Act.put_comm a v u h2];exact he⟩
  |halt x w'=>
   cases x<;>simp only[Oper.upon]at h ⊢
   case panic u=>exact hQ _ _ _ h
 ·rename_i hw
  simp only[hw]at h
  exact⟨keep a hy _,by rw[←Act.put_comm a v undef h2];exact h⟩

/-- an operation that may write what was there -/
def hard(o:Oper):Bool:= !(isR o.op||isA o.op||(match o.op with
 | .call ⟨.value _,_,_⟩=> !(Nat.beq o.type 0)
 |_=>false))
/-- a call for its effect alone -/
def voidCall(o:Oper):Bool:=match o.op with
 | .call ⟨.value _,_,_⟩=>Nat.beq o.type 0
 |_=>false
theorem voidCall_R{o:Oper}(h:isR o.op=true):voidCall o=false:=by
 unfold voidCall
 split
 ·rename_i e
  rw[e]at h
  cases h
 ·rfl
theorem voidCall_A{o:Oper}(h:isA o.op=true):voidCall o=false:=by
 unfold voidCall
 split
 ·rename_i e
  rw[e]at h
  cases h
 ·rfl
theorem voidCall_soft{o:Oper}(h:hard o=false):voidCall o=false:=by
 unfold voidCall
 split
 ·rename_i e
  simp only[hard,e,isR,isA,Bool.false_or,Bool.not_not]at h
  exact h
 ·rfl

/-- Whatever order is picked from here on; what is not hard leaves all that was there. -/
def wpAnyE(P:Program)(md:Region.Mode)(ops:Array Oper)(Q:Exit→Act→World→Prop):Nat→Array Bool→Act→World→Prop
 |0,listed,a,w=>Region.ready md ops listed=[]∧Q .normal a w
 |fuel+1,listed,a,w=>
  (Region.ready md ops listed=[]→Q .normal a w)∧
  ∀i∈Region.ready md ops listed,wpOp P ops Q i (fun a' w'=>((∀o,ops[i]? =some o→hard o=false)→Ext w w')∧wpAnyE P md ops Q fuel (listed.setIfInBounds i true) a' w') a w

theorem wpAny_of_E:∀(fuel:Nat) (listed:Array Bool) (a:Act) (w:World),wpAnyE P md ops Q fuel listed a w→wpAny P md ops Q fuel listed a w
 |0,_,_,_,h=>h
 |fuel+1,_,_,_,h=>⟨h.1,fun i hi=>wpOp_mono (fun a' w' h'=>wpAny_of_E fuel _ a' w' h'.2) (h.2 i hi)⟩

theorem wpAnyE_first{pu:Bool}{i:Nat}{oi:Oper}{v:Value}(hi:ops[i]? =some oi)(hsel:∀(j:Nat) (o:Oper) cs b,ops[j]? =some o→o.op≠ .select cs b)
  (hQ:∀c a w,Q (.panic c) (a.put oi.dst v) w→Q (.panic c) a w) (blk:Nat→Prop) (hblk:∀j,blk j→∃oj e,ops[j]? =some oj∧e∈oj.after∧Region.binds md e=true∧(e.on=i∨blk e.on)):
  ∀(fuel:Nat) (listed:Array Bool) (a:Act) (w:World),(∀j,blk j→listed.getD j false=false)→
   (∀j oj,ops[j]? =some oj→j≠i→listed.getD j true=false→¬blk j→oi.apart ops oj=true∧(pu=true∨hard oj=false))→
   i∈Region.ready md ops listed→YieldsE P ops pu oi v a w→
   wpAnyE P md ops Q fuel (listed.setIfInBounds i true) (a.put oi.dst v) w→wpAnyE P md ops Q (fuel+1) listed a w:=by
 intro fuel
 induction fuel with
 |zero=>
  intro listed a w _ _ hr hy H
  refine⟨fun h=>(by rw[h]at hr;cases hr),fun j hj=>?_⟩
  by_cases hji:j=i
  ·subst hji;exact hy.wpOp hi ⟨fun _=>Ext.refl w,H⟩
  ·have:=ready_mono hj hji
   rw[H.1]at this
   cases this
 |succ fuel ih=>
  intro listed a w hbl hfree hr hy H
  refine⟨fun h=>(by rw[h]at hr;cases hr),fun j hj=>?_⟩
  by_cases hji:j=i
  ·subst hji;exact hy.wpOp hi ⟨fun _=>Ext.refl w,H⟩
  ·have h1:=H.2 j (ready_mono hj hji)
   obtain⟨hjun,oj,hoj,hall⟩:=mem_ready.1 hj
   have hnot:¬blk j:=fun hb=>by
    obtain⟨oj',e,ho',he,hbi,hor⟩:=hblk j hb
    rw[hoj]at ho';injection ho' with ho';subst ho'
    have h1:=hall e he hbi
    rcases hor with heq|hb2
    ·have h0:=(mem_ready.1 hr).1
     rw[heq]at h1
     rcases Nat.lt_or_ge i listed.size with h'|h'
     ·simp[h']at h0 h1;rw[h0]at h1;cases h1
     ·simp[Array.getElem?_eq_none h']at h1
    ·rw[hbl _ hb2]at h1;cases h1
   have hfj:=hfree j oj hoj hji hjun hnot
   have h2:=wpOp_putE hoj hfj.1 (fun cs b=>hsel i oi cs b hi) (fun cs b=>hsel j oj cs b hoj) hQ hy h1
   have hbl':∀k,blk k→(listed.setIfInBounds j true).getD k false=false:=fun k hk=>by
    rw[getD_set_ne false (fun e=>(by subst e;exact hnot hk))];exact hbl k hk
   have hfree':∀k ok,ops[k]? =some ok→k≠i→(listed.setIfInBounds j true).getD k true=false→
     ¬blk k→oi.apart ops ok=true∧(pu=true∨hard ok=false):=fun k ok hk hki hun hno=>by
    refine hfree k ok hk hki ?_ hno
    by_cases hjk:j=k
    ·subst hjk;exact hjun
    ·rw[getD_set_ne true hjk]at hun;exact hun
   refine wpOp_mono (fun a' w' h3=>?_) h2
   have hext:hard oj=false→Ext w w':=fun hf=>h3.2.1 (fun o ho=>by rw[hoj]at ho;injection ho with ho;subst ho;exact hf)
   refine⟨fun hh=>hext (hh oj hoj),ih (listed.setIfInBounds j true) a' w' hbl' hfree' (ready_mono hr (Ne.symm hji)) (h3.1.ext (hfj.2.imp id hext)) ?_⟩
   rw[Array.setIfInBounds_comm _ _ hji]
   exact h3.2.2
end

/-! ### An operation that only makes a block -/
section
variable{P:Program}{τ:Tab}{B n nx:Nat}{l:Env}{H:Hp}{iv:Iv}{w w':World}{ρ:Nat→Val}{a:Act}

/-- whatever the world, the operation makes the block obj and hands back mk of its number -/
def AL(P:Program)(o:Oper)(a:Act)(mk:Nat→Value)(obj:Obj):Prop:=
 ∀w:World,(execOp a.eval o).run P w= .ok (.value (mk w.heap.size)) (w.alloc obj)

theorem AL.uniq{o:Oper}{mk mk':Nat→Value}{obj obj':Obj}(h:AL P o a mk obj)(h':AL P o a mk' obj'):obj=obj'∧mk=mk':=by
 have key:∀w:World,mk w.heap.size=mk' w.heap.size∧w.alloc obj=w.alloc obj':=fun w=>by
  have:=(h w).symm.trans (h' w)
  injection this with h1 h2
  injection h1 with h1
  exact⟨h1,h2⟩
 refine⟨?_,funext fun g=>?_⟩
 ·have:=(key default).2
  have h2:=congrArg (fun w:World=>w.heap[(default:World).heap.size]?) this
  simp only[heap_alloc_new]at h2
  injection h2
 ·have:=(key {(default:World)with heap:=Array.replicate g default}).1
  simpa using this

theorem sxOp_alloc(hτ:TabOK P τ){dr:Bool}{o:Oper}{K:SV→Hp→Nat→Iv→World→Prop}(h:sxOp dr P τ B o l H nx iv w K)(sat:Sat n l H nx iv B w ρ a w')(hk:isA o.op=true):
  ∃b v mk obj,K v ((nx,b)::H) (nx+1) iv w∧b≠ .dead∧b.scopd nx∧v.sc (nx+1)∧(∀g,v.den (upd ρ nx ⟨g,0,false⟩)=mk g)∧(∀g w2,w2.heap[g]? =some obj→b.fits ρ ⟨g,0,false⟩ w2)∧AL P o a mk obj:=by
 obtain⟨dst,op,ty,pos,after,guard⟩:=o
 unfold sxOp at h
 split at h<;>first|(exact False.elim h)|(rename_i hop;simp only at hop;subst hop)
 all_goals first|(exact absurd hk Bool.false_ne_true)|skip
 -- alloc
 ·rename_i t
  split at h
  ·rename_i sz ag by_ ze tag ik e al fs hti
   have hK:=valsK_spec h
   refine⟨_,_,fun g=>.pointer (some ⟨g,0,none⟩),.cells ze.toArray t,hK,by simp,(fun c hc=>by obtain⟨v,_,rfl⟩:=List.mem_map.1 hc;trivial),by simp[SV.sc,At.sc],fun g=>by simp[SV.den,At.den],fun g w2 hg=>⟨rfl,by rw[map_v_den];exact hg⟩,fun w=>?_⟩
   obtain⟨z,hz1,hz2⟩:=(hτ t _ hti).zeroV w
   simp only at hz2
   have hzz:z.cells=ze.toArray:=by apply Array.ext';simpa using hz2
   simp[execOp,Instr.alloc,hz1,newVar,newRow,hzz]
  ·exact h.elim
 -- box
 ·rename_i t x
  obtain⟨v,h1,hv,hs⟩:=wEv_spec sat h
  obtain⟨cs,hK,hcells,hsc⟩:=cellsK_spec h1
  refine⟨_,_,fun g=>.pointer (some ⟨g,0,none⟩),.cells (cs.map (At.den ρ)).toArray t,hK,by simp,hsc nx hs,by simp[SV.sc,At.sc],fun g=>by simp[SV.den,At.den],fun g w2 hg=>⟨rfl,hg⟩,fun w=>?_⟩
  simp[execOp,Instr.box,hv,newVar,newRow,hcells ρ]
 -- buildSlice
 ·rename_i t m parts
  split at h
  ·rename_i sz ag by_ ze tag ik e al fs hti
   have ht:=hτ t _ hti
   split at h
   ·rename_i htag
    have hu:=ht.i4 (beq_t htag)
    simp only at hu
    split at h
    ·rename_i sz' ag' by' ze' tag' ik' e' al' fs' hte
     have hte:=hτ e _ hte
     obtain⟨inf,z,hi,hsz,hby,hz,hzc⟩:=hte.info
     have hzl:=hte.zlen
     simp only at hsz hby hzc hzl
     split at h
     ·rename_i hle
      have hle:=Nat.le_of_ble_eq_true hle
      have h0:=valsK_spec h
      obtain⟨cs',hK,hcs,hlen,hfill⟩:=partsK_spec sat (placeF:=fun i=>some (i*inf.size,inf.size)) (fun i k hk=>⟨i*sz',sz',hk,by rw[hsz]⟩) h0
       (fun c hc=>by obtain⟨v,_,rfl⟩:=List.mem_map.1 hc;trivial)
      rw[map_v_den]at hfill
      have hzarr:z.cells=ze'.toArray:=by apply Array.ext';simpa using hzc
      have hmade:((List.replicate m ze').flatten).toArray=madeCells z.cells (m*inf.size):=by
       rw[hzarr,hsz,←hzl]
       exact(made_many ze' m).symm
      refine⟨_,_,fun g=>.slice (some ⟨g,0,none⟩) m m,.cells (cs'.map (At.den ρ)).toArray e,hK,by simp,hcs,by simp[SV.sc,At.sc],fun g=>by simp[SV.den,At.den],fun g w2 hg=>⟨rfl,hg⟩,fun w=>?_⟩
      simp only[execOp]
      refine run_v ?_
      rw[hmade]at hfill
      by_cases hpos:m*inf.size=0
      ·have hfill':Instr.fill (fun i=>some (i*inf.size,inf.size)) (madeCells z.cells 0) (parts.toList.map fun p=>(p.1,a.eval p.2))=some (cs'.map (At.den ρ)).toArray:=by rw[hpos]at hfill;exact hfill
       have e0:madeCells z.cells 0= #[]:=by simp[madeCells]
       rw[e0]at hfill'
       have er:Array.range 0= #[]:=rfl
       simp[Instr.buildSlice,run_underlying hu,sizeOf,typeInfo,zeroValue,hi,hz,hpos,newRow,hfill',er]
      ·exact run_buildSlice w t e m _ _ inf z hu hi hz (by rw[hsz];omega) hpos (by rw[←hfill];simp[madeCells])
     ·exact h.elim
    ·exact h.elim
   ·exact h.elim
  ·exact h.elim
 -- makeSlice
 ·rename_i t x y
  obtain⟨v,h1,hv,hvs⟩:=wEv_spec sat h
  obtain⟨u,h2,hu,hus⟩:=wEv_spec sat h1
  clear hvs hus
  unfold makeK at h2
  split at h2
  ·rename_i k1 a1 k2 b1
   split at h2
   ·rename_i sz ag by_ ze tag ik e al fs hti
    have ht:=hτ t _ hti
    split at h2
    ·rename_i htag
     have hut:=ht.i4 (beq_t htag)
     simp only at hut
     split at h2
     ·rename_i sz' ag' by' ze' tag' ik' e' al' fs' hte
      have hte:=hτ e _ hte
      obtain⟨inf,z,hi,hsz,hby,hz,hzc⟩:=hte.info
      simp only at hsz hby hzc
      obtain⟨m,c,rfl,rfl,hmc,hbytes,h63,h3⟩:=h2
      have hb':(inf.bytes:Int)*(c:Int)≤281474976710656:=by
       rw[hby]
       have hb2:((by'*c:Nat):Int)≤281474976710656:=by omega
       rwa [Int.natCast_mul]at hb2
      have hrun:=fun w:World=>run_make (P:=P) w t e inf z hut hi hz k1 k2 (m:Int) (c:Int) (by omega) (by omega) hb' (by omega)
      simp only[Int.toNat_natCast]at hrun
      have hzl:=hte.zlen
      simp only at hzl
      have hzarr:z.cells=ze'.toArray:=by apply Array.ext';simpa using hzc
      have fin:∀cs:List Value,cs.toArray=madeCells z.cells (c*inf.size)→newK (.arr e cs) H nx (fun H' nx'=>K (.o (.s nx 0 m c)) H' nx' iv w)→
        ∃b v mk obj,K v ((nx,b)::H) (nx+1) iv w∧b≠ .dead∧b.scopd nx∧v.sc (nx+1)∧(∀g,v.den (upd ρ nx ⟨g,0,false⟩)=mk g)∧(∀g w2,w2.heap[g]? =some obj→b.fits ρ ⟨g,0,false⟩ w2)∧
         AL P ⟨dst,.makeSlice t x y,ty,pos,after,guard⟩ a mk obj:=by
       intro cs hcs hK
       refine⟨_,_,fun g=>.slice (some ⟨g,0,none⟩) m c,.cells cs.toArray e,hK,by simp,trivial,by simp[SV.sc,At.sc],fun g=>by simp[SV.den,At.den],fun g w2 hg=>⟨rfl,hg⟩,fun w=>?_⟩
       simp only[execOp,hv,hu]
       refine run_v ?_
       rw[show SV.den ρ (.o (.v (.int k1 m)))= .int k1 m from rfl,show SV.den ρ (.o (.v (.int k2 c)))= .int k2 c from rfl,hrun w,hcs]
      split at h3
      ·rename_i z0
       refine fin _ ?_ h3
       have:inf.size=1:=by rw[hsz,←hzl];rfl
       rw[this,Nat.mul_one,hzarr,made_one]
      ·refine fin _ ?_ h3
       rw[hsz,←hzl,hzarr,made_many]
     ·exact h2.elim
    ·exact h2.elim
   ·exact h2.elim
  ·exact h2.elim
end
end Go.Sx

/- A region that draws its order, by one order of its own: what only reads goes first, what only makes a block is looked at early. -/
namespace Go.Sx
open Go

inductive It where
 |x (i:Nat)
 |p (i:Nat)

def delEK:Env→Nat→(Env→Prop)→Prop
 |[],_,k=>k []
 |(t,v)::r,u,k=>match Nat.beq t u with
  |true=>delEK r u k
  |false=>delEK r u (fun r'=>k ((t,v)::r'))
def delO(d:Option Tmp)(l:Env)(k:Env→Prop):Prop:=match d with
 |some t=>delEK l t k
 |none=>k l
def nthK:List Oper→Nat→(Oper→Prop)→Prop
 |[],_,_=>False
 |o::_,0,k=>k o
 |_::r,n+1,k=>nthK r n k

def sxPi(P:Program)(τ:Tab)(B:Nat)(all:List Oper):List It→Env→Hp→Nat→Iv→World→KT→Prop
 |[],l,H,nx,iv,w,K=>K l H nx iv w
 | .x i::r,l,H,nx,iv,w,K=>nthK all i (fun o=>sxStep (!voidCall o) P τ B all o l H nx iv w (fun l' H' nx' iv' w'=>sxPi P τ B all r l' H' nx' iv' w' K))
 | .p i::r,l,H,nx,iv,w,K=>nthK all i (fun o=>sxOp true P τ B o l H nx iv w (fun _ _ _ _ _=>delO o.dst l (fun l'=>sxPi P τ B all r l' H nx iv w K)))

def apAt(ops:Array Oper)(o:Oper)(j:Nat):Bool:=match ops[j]? with
 |some oj=>o.apart ops oj
 |none=>false
def lst(la:Array Bool):List Nat→Array Bool
 |[]=>la
 |i::r=>lst (la.setIfInBounds i true) r
/-- a set of places, as the bits of a number -/
def tb(m j:Nat):Bool:=Nat.beq ((m >>> j) % 2) 1
def maskL:List Bool→Nat→Nat
 |[],_=>0
 |true::r,j=>(1 <<< j) ||| maskL r (j+1)
 |false::r,j=>maskL r (j+1)
/-- what cannot come up before i has -/
def blkM(m i:Nat):List Oper→Nat→Nat→Nat
 |[],_,b=>b
 |o::r,j,b=>match(!tb m j&& !Nat.beq j i)&&o.after.toList.any (fun e=>Region.binds .any e&&(Nat.beq e.on i||tb b e.on))with
  |true=>blkM m i r (j+1) (b ||| (1 <<< j))
  |false=>blkM m i r (j+1) b
def freeM(ops:Array Oper)(m i:Nat)(oi:Oper)(b:Nat):List Oper→Nat→Bool
 |[],_=>true
 |oj::r,j=>(Nat.beq j i||tb m j||tb b j||(oi.apart ops oj&&(isP oi.op|| !hard oj)))&&freeM ops m i oi b r (j+1)
def freeB(ops:Array Oper)(m:Nat)(Pd:List Nat)(i:Nat)(oi:Oper)(b:Nat):Bool:=Pd.all (fun j=> !tb b j)&&freeM ops m i oi b ops.toList 0
def freeH(ops:Array Oper)(m:Nat)(Pd:List Nat)(i:Nat)(oi:Oper):Bool:=freeB ops m Pd i oi (blkM m i ops.toList 0 0)
def chkPi(ops:Array Oper):List It→Array Bool→List Nat→Bool
 |[],lx,Pd=>(Region.ready .any ops lx).isEmpty&&Pd.isEmpty
 | .p i::r,lx,Pd=>match ops[i]? with
  |none=>false
  |some o=>isA o.op&&o.guard.isNone&&(match o.dst with
     |some d=> !(o.looksAt ops).contains d
     |none=>false)&&(!lx.getD i true)&&Pd.all (fun j=> !Nat.beq j i)&&
    Pd.all (fun j=>apAt ops o j&&(match ops[j]? with
     |some oj=>oj.apart ops o
     |none=>false))&&chkPi ops r lx (i::Pd)
 | .x i::r,lx,Pd=>match ops[i]? with
  |none=>false
  |some o=>(o.guard.isNone||Pd.isEmpty)&&(Region.ready .any ops lx).contains i&&
    Pd.all (fun j=>Nat.beq j i||apAt ops o j)&&
    (match isR o.op with
     |true=>freeH ops (maskL lx.toList 0) Pd i o
     |false=>(!hard o||Pd.isEmpty)&&(Region.ready .any ops (lst lx (Pd.filter fun j=> !Nat.beq j i))).all (fun j=>Nat.beq j i))&&
    chkPi ops r (lx.setIfInBounds i true) (Pd.filter fun j=> !Nat.beq j i)

theorem getD_flip{la:Array Bool}{j:Nat}(h:j<la.size)(b c:Bool):la.getD j b=la.getD j c:=by
 rw[Array.getD_eq_getD_getElem?,Array.getD_eq_getD_getElem?,Array.getElem?_eq_getElem h];rfl
theorem beq_f{a b:Nat}:Nat.beq a b=false↔a≠b:=⟨fun h e=>(by subst e;rw[Nat.beq_refl]at h;cases h),fun h=>by
 cases hb:Nat.beq a b with
 |false=>rfl
 |true=>exact absurd (beq_t hb) h⟩
theorem ble_f{a b:Nat}(h:b<a):Nat.ble a b=false:=by
 cases hb:Nat.ble a b with
 |false=>rfl
 |true=>exact absurd (Nat.le_of_ble_eq_true hb) (by omega)
theorem tb_bit(m j:Nat):tb m j=m.testBit j:=by
 rw[Nat.testBit_eq_decide_div_mod_eq,tb,Nat.shiftRight_eq_div_pow]
 cases h:decide (m / 2^j % 2=1)with
 |true=>rw[of_decide_eq_true h];rfl
 |false=>exact beq_f.2 (of_decide_eq_false h)
theorem tb_or(a b j:Nat):tb (a ||| b) j=(tb a j||tb b j):=by rw[tb_bit,tb_bit,tb_bit,Nat.testBit_or]
theorem tb_one(i j:Nat):tb (1 <<< i) j=Nat.beq j i:=by
 rw[tb_bit,Nat.one_shiftLeft,Nat.testBit_two_pow]
 cases h:Nat.beq j i with
 |true=>exact decide_eq_true (beq_t h).symm
 |false=>exact decide_eq_false fun e=>(beq_f.1 h) e.symm
theorem tb_zero(j:Nat):tb 0 j=false:=by rw[tb_bit,Nat.zero_testBit]
theorem tb_maskL:∀(l:List Bool) (k j:Nat),tb (maskL l k) j=(Nat.ble k j&&l.getD (j-k) false)
 |[],k,j=>by unfold maskL;rw[tb_zero];simp
 |b::r,k,j=>by
  have e:tb (maskL (b::r) k) j=((b&&Nat.beq j k)||tb (maskL r (k+1)) j):=by
   cases b<;>simp only[maskL,tb_or,tb_one,Bool.false_and,Bool.true_and,Bool.false_or]
  rw[e,tb_maskL r (k+1) j]
  rcases Nat.lt_trichotomy j k with h|h|h
  ·rw[beq_f.2 (by omega),Bool.and_false,Bool.false_or,ble_f (by omega),ble_f (by omega)];rfl
  ·subst h
   rw[Nat.beq_refl,ble_f (by omega),Nat.ble_eq_true_of_le (Nat.le_refl j),Nat.sub_self]
   simp
  ·rw[beq_f.2 (by omega),Bool.and_false,Bool.false_or,Nat.ble_eq_true_of_le (show k+1≤j from h),Nat.ble_eq_true_of_le (Nat.le_of_lt h),show j-k=(j-(k+1))+1 by omega,List.getD_cons_succ]
/-- a number tells the same as a list of Bools -/
def Rm(lx:Array Bool)(m:Nat):Prop:=∀j,tb m j=lx.getD j false
theorem rm_mask(lx:Array Bool):Rm lx (maskL lx.toList 0):=fun j=>by
 rw[tb_maskL,show Nat.ble 0 j=true from Nat.ble_eq_true_of_le (Nat.zero_le j),Bool.true_and,Nat.sub_zero,Array.getD_eq_getD_getElem?,List.getD,Array.getElem?_toList]
theorem Rm.eq{lx:Array Bool}{m m':Nat}(h:Rm lx m)(h':Rm lx m'):m=m':=Nat.eq_of_testBit_eq fun j=>by rw[←tb_bit,←tb_bit,h,h']
theorem blkM_spec{ops:Array Oper}{m i:Nat}:∀(l:List Oper) (k b:Nat),(∀n o,l[n]? =some o→ops[k+n]? =some o)→
  (∀j,tb b j=true→tb m j=false∧j≠i∧∃oj e,ops[j]? =some oj∧e∈oj.after∧Region.binds .any e=true∧(e.on=i∨∃b2,tb b2 e.on=true∧b2=b))→
  ∀j,tb (blkM m i l k b) j=true→tb m j=false∧j≠i∧∃oj e,ops[j]? =some oj∧e∈oj.after∧Region.binds .any e=true∧(e.on=i∨tb (blkM m i l k b) e.on=true)
 |[],k,b,_,h,j,hj=>by
  obtain⟨h1,h2,oj,e,h3,h4,h5,h6⟩:=h j hj
  exact⟨h1,h2,oj,e,h3,h4,h5,h6.imp id fun⟨_,h7,h8⟩=>h8▸h7⟩
 |o::r,k,b,hl,h,j,hj=>by
  have hr:∀n o',r[n]? =some o'→ops[k+1+n]? =some o':=fun n o' hn=>by
   have:=hl (n+1) o' (by simpa using hn)
   rwa [show k+(n+1)=k+1+n by omega]at this
  unfold blkM at hj ⊢
  cases hc:((!tb m k&& !Nat.beq k i)&&o.after.toList.any (fun e=>Region.binds .any e&&(Nat.beq e.on i||tb b e.on)))with
  |false=>
   rw[hc]at hj
   exact blkM_spec r (k+1) b hr h j hj
  |true=>
   rw[hc]at hj
   refine blkM_spec r (k+1) (b ||| (1 <<< k)) hr (fun j hj=>?_) j hj
   rw[tb_or,tb_one,Bool.or_eq_true]at hj
   rcases hj with hj|hj
   ·obtain⟨h1,h2,oj,e,h3,h4,h5,h6⟩:=h j hj
    refine⟨h1,h2,oj,e,h3,h4,h5,h6.imp id fun⟨b2,h7,h8⟩=>⟨_,?_,rfl⟩⟩
    rw[tb_or,←h8,h7];rfl
   ·have hj:=beq_t hj
    subst hj
    simp only[Bool.and_eq_true,Bool.not_eq_true',List.any_eq_true]at hc
    obtain⟨⟨h1,h2⟩,e,he,h3,h4⟩:=hc
    refine⟨h1,beq_f.1 h2,o,e,by have:=hl 0 o (by simp);simpa using this,by simpa using he,h3,?_⟩
    rw[Bool.or_eq_true]at h4
    exact h4.imp beq_t fun h5=>⟨_,by rw[tb_or,h5];rfl,rfl⟩
theorem freeM_spec{ops:Array Oper}{m i:Nat}{oi:Oper}{b:Nat}:∀(l:List Oper) (k:Nat),freeM ops m i oi b l k=true→∀n oj,l[n]? =some oj→k+n≠i→tb m (k+n)=false→tb b (k+n)=false→oi.apart ops oj=true∧(isP oi.op=true∨hard oj=false)
 |[],_,_,n,oj,hn,_,_,_=>by simp at hn
 |o::r,k,h,n,oj,hn,h1,h2,h3=>by
  unfold freeM at h
  rw[Bool.and_eq_true]at h
  cases n with
  |zero=>
   rw[List.getElem?_cons_zero]at hn
   injection hn with hn
   subst hn
   rw[Nat.add_zero]at h1 h2 h3
   rw[beq_f.2 h1,h2,h3]at h
   simpa using h.1
  |succ n=>
   rw[List.getElem?_cons_succ]at hn
   rw[show k+(n+1)=k+1+n by omega]at h1 h2 h3
   exact freeM_spec r (k+1) h.2 n oj hn h1 h2 h3
theorem freeH_spec{ops:Array Oper}{lx:Array Bool}{Pd:List Nat}{i:Nat}{oi:Oper}(h:freeH ops (maskL lx.toList 0) Pd i oi=true)(hs:lx.size=ops.size):∃blk:Nat→Prop,
  (∀j,blk j→∃oj e,ops[j]? =some oj∧e∈oj.after∧Region.binds .any e=true∧(e.on=i∨blk e.on))∧(∀j,blk j→lx.getD j false=false)∧(∀j∈Pd,¬blk j)∧
  ∀j oj,ops[j]? =some oj→j≠i→lx.getD j true=false→¬blk j→oi.apart ops oj=true∧(isP oi.op=true∨hard oj=false):=by
 unfold freeH freeB at h
 rw[Bool.and_eq_true]at h
 have hm:=rm_mask lx
 have hb:=blkM_spec (ops:=ops) (m:=maskL lx.toList 0) (i:=i) ops.toList 0 0 (fun n o hn=>by rw[Nat.zero_add];rwa [Array.getElem?_toList]at hn) (fun j hj=>by rw[tb_zero]at hj;cases hj)
 generalize blkM (maskL lx.toList 0) i ops.toList 0 0=b at*
 refine⟨fun j=>tb b j=true,fun j hj=>(hb j hj).2.2,fun j hj=>(hm j).symm.trans (hb j hj).1,fun j hj hk=>?_,fun j oj hoj hji hl hk=>?_⟩
 ·have:=List.all_eq_true.1 h.1 j hj
  rw[hk]at this;cases this
 ·have hj:=(Array.getElem?_eq_some_iff.1 hoj).1
  exact freeM_spec ops.toList 0 h.2 j oj (by rw[Array.getElem?_toList];exact hoj) (by omega) (by rw[Nat.zero_add,hm,getD_flip (by omega) false true];exact hl) (by rw[Nat.zero_add];simpa using hk)

/-- the same check, by numbers -/
def rdyL(m:Nat):List Oper→Nat→List Nat
 |[],_=>[]
 |o::r,j=>match !tb m j&&o.after.toList.all (fun e=> !Region.binds .any e||tb m e.on)with
  |true=>j::rdyL m r (j+1)
  |false=>rdyL m r (j+1)
def sm(n m i:Nat):Nat:=match Nat.blt i n with
 |true=>m ||| (1 <<< i)
 |false=>m
def lsm(n:Nat)(m:Nat):List Nat→Nat
 |[]=>m
 |i::r=>lsm n (sm n m i) r
def chkM(ops:Array Oper)(n:Nat):List It→Nat→List Nat→Bool
 |[],m,Pd=>(rdyL m ops.toList 0).isEmpty&&Pd.isEmpty
 | .p i::r,m,Pd=>match ops[i]? with
  |none=>false
  |some o=>isA o.op&&o.guard.isNone&&(match o.dst with
     |some d=> !(o.looksAt ops).contains d
     |none=>false)&&(Nat.blt i n&& !tb m i)&&Pd.all (fun j=> !Nat.beq j i)&&
    Pd.all (fun j=>apAt ops o j&&(match ops[j]? with
     |some oj=>oj.apart ops o
     |none=>false))&&chkM ops n r m (i::Pd)
 | .x i::r,m,Pd=>match ops[i]? with
  |none=>false
  |some o=>(o.guard.isNone||Pd.isEmpty)&&(rdyL m ops.toList 0).contains i&&
    Pd.all (fun j=>Nat.beq j i||apAt ops o j)&&
    (match isR o.op with
     |true=>freeH ops m Pd i o
     |false=>(!hard o||Pd.isEmpty)&&(rdyL (lsm n m (Pd.filter fun j=> !Nat.beq j i)) ops.toList 0).all (fun j=>Nat.beq j i))&&
    chkM ops n r (sm n m i) (Pd.filter fun j=> !Nat.beq j i)
theorem rdyL_eq{ops:Array Oper}{lx:Array Bool}{m:Nat}(hR:Rm lx m)(hs:lx.size=ops.size):∀(l:List Oper) (k:Nat),(∀n,n<l.length→ops[k+n]? =l[n]?)→k+l.length≤ops.size→
  rdyL m l k=(List.range' k l.length).filter fun i=> !lx.getD i true&&((ops[i]?).map (·.after.all fun e=> !Region.binds .any e||lx.getD e.on false)).getD false
 |[],_,_,_=>rfl
 |o::r,k,h,hk=>by
  rw[List.length_cons]at hk
  have ih:=rdyL_eq hR hs r (k+1) (fun n hn=>by
   have:=h (n+1) (by simpa using hn)
   rw[show k+1+n=k+(n+1) by omega,this,List.getElem?_cons_succ]) (by omega)
  have h0:ops[k]? =some o:=by have:=h 0 (by simp);simpa using this
  rw[List.length_cons,List.range'_succ,List.filter_cons,←ih]
  have e:(!lx.getD k true&&((ops[k]?).map (·.after.all fun e=> !Region.binds .any e||lx.getD e.on false)).getD false)=(!tb m k&&o.after.toList.all fun e=> !Region.binds .any e||tb m e.on):=by
   rw[h0,hR k,getD_flip (by omega) true false,Option.map_some,Option.getD_some,Array.all_toList]
   simp only[hR _]
  rw[e,rdyL]
  cases (!tb m k&&o.after.toList.all fun e=> !Region.binds .any e||tb m e.on)<;>rfl
theorem rdy_eq{ops:Array Oper}{lx:Array Bool}{m:Nat}(hR:Rm lx m)(hs:lx.size=ops.size):rdyL m ops.toList 0=Region.ready .any ops lx:=by
 rw[rdyL_eq hR hs ops.toList 0 (fun n _=>by rw[Nat.zero_add,Array.getElem?_toList]) (by simp)]
 unfold Region.ready
 rw[List.range_eq_range',Array.length_toList]
theorem Rm.set{lx:Array Bool}{m:Nat}(hR:Rm lx m)(i:Nat):Rm (lx.setIfInBounds i true) (sm lx.size m i):=fun j=>by
 unfold sm
 rw[Array.getD_eq_getD_getElem?,Array.getElem?_setIfInBounds]
 cases h:Nat.blt i lx.size with
 |true=>
  have h:=Nat.le_of_ble_eq_true h
  show tb (m ||| (1 <<< i)) j=_
  rw[tb_or,tb_one]
  by_cases hij:i=j
  ·rw[if_pos hij,if_pos (by omega),hij,Nat.beq_refl,Bool.or_true];rfl
  ·rw[if_neg hij,beq_f.2 (Ne.symm hij),Bool.or_false,hR,Array.getD_eq_getD_getElem?]
 |false=>
  show tb m j=_
  have h:¬i<lx.size:=fun h2=>by rw[show Nat.blt i lx.size=true from Nat.ble_eq_true_of_le h2]at h;cases h
  by_cases hij:i=j
  ·rw[if_pos hij,if_neg h,hR,Array.getD_eq_getD_getElem?,←hij,Array.getElem?_eq_none (by omega)]
  ·rw[if_neg hij,hR,Array.getD_eq_getD_getElem?]
theorem lst_sz:∀(r:List Nat) (lx:Array Bool),(lst lx r).size=lx.size
 |[],_=>rfl
 |i::r,lx=>by unfold lst;rw[lst_sz r,Array.size_setIfInBounds]
theorem Rm.lst{n:Nat}:∀(r:List Nat) (lx:Array Bool) (m:Nat),lx.size=n→Rm lx m→Rm (lst lx r) (lsm n m r)
 |[],_,_,_,h=>h
 |i::r,lx,m,hn,h=>by
  unfold Go.Sx.lst lsm
  exact Rm.lst r _ _ (by rw[Array.size_setIfInBounds];exact hn) (hn▸h.set i)
theorem chkM_eq{ops:Array Oper}:∀(π:List It) (lx:Array Bool) (m:Nat) (Pd:List Nat),lx.size=ops.size→Rm lx m→chkM ops ops.size π m Pd=chkPi ops π lx Pd
 |[],lx,m,Pd,hs,h=>by unfold chkM chkPi;rw[rdy_eq h hs]
 | .p i::r,lx,m,Pd,hs,h=>by
  unfold chkM chkPi
  cases ho:ops[i]? with
  |none=>rfl
  |some o=>
   have hi:=(Array.getElem?_eq_some_iff.1 ho).1
   simp only[chkM_eq r lx m (i::Pd) hs h,h i,getD_flip (show i<lx.size by omega) true false,show Nat.blt i ops.size=true from Nat.ble_eq_true_of_le hi,Bool.true_and]
 | .x i::r,lx,m,Pd,hs,h=>by
  unfold chkM chkPi
  cases ho:ops[i]? with
  |none=>rfl
  |some o=>
   obtain rfl:=h.eq (rm_mask lx)
   have h1:=chkM_eq r (lx.setIfInBounds i true) (sm ops.size (maskL lx.toList 0) i) (Pd.filter fun j=> !Nat.beq j i) (by rw[Array.size_setIfInBounds];exact hs) (hs▸h.set i)
   have h2:=rdy_eq (Rm.lst (n:=ops.size) (Pd.filter fun j=> !Nat.beq j i) lx (maskL lx.toList 0) hs h) (by rw[lst_sz];exact hs)
   simp only[h1,h2,rdy_eq h hs]

theorem mem_ready'{ops:Array Oper}{la:Array Bool}{j:Nat}:j∈Region.ready .any ops la↔
  la[j]? =some false∧∃o,ops[j]? =some o∧∀e∈o.after,Region.binds .any e=true→la[e.on]? =some true:=by
 rw[mem_ready]
 have h1:la.getD j true=false↔la[j]? =some false:=by
  rw[Array.getD_eq_getD_getElem?]
  cases la[j]? with
  |none=>simp
  |some b=>simp
 have h2:∀k,la.getD k false=true↔la[k]? =some true:=fun k=>by
  rw[Array.getD_eq_getD_getElem?]
  cases la[k]? with
  |none=>simp
  |some b=>simp
 simp only[h1,h2]
theorem set_true{la:Array Bool}{i j:Nat}:(la.setIfInBounds i true)[j]? =some true↔la[j]? =some true∨(j=i∧j<la.size):=by
 rw[Array.getElem?_setIfInBounds]
 split
 ·rename_i h;subst h
  by_cases hs:i<la.size
  ·simp[hs]
  ·simp[hs]
 ·rename_i h
  simp[Ne.symm h]
theorem lst_size:∀(Pd:List Nat) (la:Array Bool),(lst la Pd).size=la.size
 |[],_=>rfl
 |i::r,la=>by simp[lst,lst_size r]
theorem lst_true:∀(Pd:List Nat) (la:Array Bool) (j:Nat),(lst la Pd)[j]? =some true↔la[j]? =some true∨(j∈Pd∧j<la.size)
 |[],_,_=>by simp[lst]
 |i::r,la,j=>by
  rw[lst,lst_true r,set_true]
  simp only[Array.size_setIfInBounds,List.mem_cons]
  constructor
  ·rintro((h|⟨h,hs⟩)|⟨h,hs⟩)
   ·exact .inl h
   ·exact .inr ⟨.inl h,hs⟩
   ·exact .inr ⟨.inr h,hs⟩
  ·rintro(h|⟨h|h,hs⟩)
   ·exact .inl (.inl h)
   ·exact .inl (.inr ⟨h,hs⟩)
   ·exact .inr ⟨h,hs⟩

/-- how many have not come up -/
def unl(la:Array Bool):Nat:=la.toList.countP (fun b=> !b)
theorem unl_set{la:Array Bool}{i:Nat}(h:la[i]? =some false):unl (la.setIfInBounds i true)+1=unl la:=by
 obtain⟨hi,he⟩:=Array.getElem?_eq_some_iff.1 h
 have hi':i<la.toList.length:=by simpa using hi
 have hpos:0<la.toList.countP (fun b=> !b):=List.countP_pos_iff.2 ⟨false,by
  have:la[i]∈la:=Array.getElem_mem hi
  rw[he]at this
  simpa using this,rfl⟩
 unfold unl
 rw[Array.toList_setIfInBounds,List.countP_set hi']
 simp only[Array.getElem_toList,he]
 simp only[Bool.not_false,if_true,Bool.not_true,Bool.false_eq_true,if_false,Nat.add_zero]
 exact Nat.sub_add_cancel hpos

theorem delEK_spec:∀{l:Env} {u:Nat} {k:Env→Prop},delEK l u k→∃l',k l'∧getE l' u=none∧∀t v,getE l' t=some v→t≠u∧getE l t=some v
 |[],u,k,h=>⟨[],h,rfl,fun t v h=>by cases h⟩
 |(t0,v0)::r,u,k,h=>by
  unfold delEK at h
  split at h
  ·rename_i hb
   have hb:=beq_t hb
   obtain⟨l',h1,h2,h3⟩:=delEK_spec h
   refine⟨l',h1,h2,fun t v hv=>⟨(h3 t v hv).1,?_⟩⟩
   rw[getE_cons,if_neg (fun e=>(h3 t v hv).1 (e.symm.trans hb))]
   exact(h3 t v hv).2
  ·rename_i hb
   have hne:t0≠u:=fun e=>by subst e;rw[Nat.beq_refl]at hb;cases hb
   obtain⟨l',h1,h2,h3⟩:=delEK_spec h
   refine⟨_,h1,?_,fun t v hv=>?_⟩
   ·rw[getE_cons,if_neg hne];exact h2
   ·rw[getE_cons]at hv ⊢
    split at hv
    ·rename_i e;subst e;exact⟨hne,by simpa using hv⟩
    ·rename_i e;rw[if_neg e];exact h3 t v hv
theorem nthK_spec:∀{all:List Oper} {i:Nat} {k:Oper→Prop},nthK all i k→∃o,all[i]? =some o∧k o
 |[],_,_,h=>h.elim
 |o::_,0,_,h=>⟨o,rfl,h⟩
 |_::r,n+1,_,h=>by obtain⟨o,h1,h2⟩:=nthK_spec (all:=r) h;exact⟨o,by simpa using h1,h2⟩

end Go.Sx
