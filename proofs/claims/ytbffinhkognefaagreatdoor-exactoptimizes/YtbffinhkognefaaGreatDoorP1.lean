/- Texts Sx7 to Sx11: lemmas, each with its conditions. -/
import Derived.OrdersHeld
import Derived.Test.YtbffinhkognefaaGreatDoorP0
namespace Go.Sx
open Go
variable{args:(Nat->eH)->Array Value}{la lx:Array Bool}{op:BinOp}{dr pu:Bool}{F9:Ending->World->Prop}{l':Env}{Q:Exit->Act->World->Prop}{H':Hp}{k:IntKind}{K:Iv}{Pd:List Nat}{Pr g j m t:Nat}{mk:Nat->Value}{F':Nat->eH}{obj:Obj}{d:Option Tmp}{Fd:SV->Hp->Nat->Iv->World->Prop}{u v:Value}{w F w3:World}
section
variable{P:Program}{τ:mo}{B n nx:Nat}{l:Env}{H:Hp}{iv:Iv}{w J:World}{O:Nat->eH}{a:Act}
theorem rh{k':IntKind}(h:rZ k k'=true):k=k':=by
 cases k<;>cases k'<;>first|rfl|(simp [rZ]at h)
theorem yq(op:BinOp)(t:TypeId)(x y:Operand)(k k':IntKind)(i j:Int)(w:World):(eqGuard op t x y (.int k i) (.int k' j)).run P w= .ok () w:=by
 unfold eqGuard;cases op<;>simp
theorem pH(op:BinOp)(t:TypeId)(x y:Operand)(i j:Bool)(w:World):(eqGuard op t x y (.bool i) (.bool j)).run P w= .ok () w:=by
 unfold eqGuard;cases op<;>simp
theorem kF(op:BinOp)(t:TypeId)(x y:Operand)(i j:ByteArray)(w:World):(eqGuard op t x y (.string i) (.string j)).run P w= .ok () w:=by
 unfold eqGuard;cases op<;>simp
theorem KA{i j:Int}{t:TypeId}{Fd:Value->Prop}(h:Ju op k i j Fd)(k':IntKind)(R:(op= .shl\/op= .shr)\/k=k'):
  ∃r,Fd r/\∀w:World,(binOp op t (.int k i) (.int k' j)).run P w= .ok r w:=by
 have WV:op≠ .shl->op≠ .shr->k=k':=fun Y I=>by rcases R with(h3|h3)|h3<;>simp_all
 cases op<;>simp only[Ju]at h
 case shl=>obtain⟨h0,r,Y,I⟩:=h;refine⟨_,I,fun w=>?_⟩;subst Y;simp[binOp,Op.shift,show ¬j<0 by omega]
 case shr=>obtain⟨h0,r,Y,I⟩:=h;refine⟨_,I,fun w=>?_⟩;subst Y;simp[binOp,Op.shift,show ¬j<0 by omega]
 all_goals (obtain rfl:=WV ce ce)
 case quo=>obtain⟨h0,r,Y,I⟩:=h;refine⟨_,I,fun w=>?_⟩;subst Y;simp[binOp,Op.intDiv,h0]
 case rem=>obtain⟨h0,r,Y,I⟩:=h;refine⟨_,I,fun w=>?_⟩;subst Y;simp[binOp,Op.intDiv,h0]
 case eql=>exact⟨_,h,fun w=>by simp[binOp,Op.intCmp]⟩
 case neq=>exact⟨_,h,fun w=>by simp[binOp,Op.intCmp]⟩
 case lss=>exact⟨_,h,fun w=>by simp[binOp,Op.intCmp]⟩
 case leq=>exact⟨_,h,fun w=>by simp[binOp,Op.intCmp]⟩
 case gtr=>exact⟨_,h,fun w=>by simp[binOp,Op.intCmp]⟩
 case geq=>exact⟨_,h,fun w=>by simp[binOp,Op.intCmp]⟩
 case add=>obtain⟨r,Y,I⟩:=h;refine⟨_,I,fun w=>?_⟩;subst Y;simp[binOp,Op.intArith]
 case sub=>obtain⟨r,Y,I⟩:=h;refine⟨_,I,fun w=>?_⟩;subst Y;simp[binOp,Op.intArith]
 case mul=>obtain⟨r,Y,I⟩:=h;refine⟨_,I,fun w=>?_⟩;subst Y;simp[binOp,Op.intArith]
 case and=>obtain⟨r,Y,I⟩:=h;refine⟨_,I,fun w=>?_⟩;subst Y;simp[binOp,Op.intBits]
 case or=>obtain⟨r,Y,I⟩:=h;refine⟨_,I,fun w=>?_⟩;subst Y;simp[binOp,Op.intBits]
 case andNot=>obtain⟨r,Y,I⟩:=h;refine⟨_,I,fun w=>?_⟩;subst Y;simp[binOp,Op.intBits]
 case xor=>obtain⟨r,Y,I⟩:=h;refine⟨_,I,fun w=>?_⟩;subst Y;simp[binOp,Op.intBits]
theorem run_equalIn_bool{t:TypeId}(hu:P.underlying t=some .bool)(d:Nat)(i j:Bool)(w:World):(Op.equalIn (d+1) t (.bool i) (.bool j)).run P w= .ok (i==j) w:=by
 simp[Op.equalIn,run_underlying hu]
theorem yH{t:TypeId}(hu:P.underlying t=some .bool)(i j:Bool)(w:World):(Op.equal t (.bool i) (.bool j)).run P w= .ok (i==j) w:=run_equalIn_bool hu 9999 i j w
theorem AE{t:TypeId}(hu:P.underlying t=some .bool)(i j:Bool)(w:World):(binOp .eql t (.bool i) (.bool j)).run P w= .ok (.bool (i==j)) w:=by
 show(do pure (.bool (<-Op.equal t (.bool i) (.bool j))):Sem Value).run P w=_;rw[Sem.run_bind,yH hu];rfl
theorem yr{t:TypeId}(hu:P.underlying t=some .bool)(i j:Bool)(w:World):(binOp .neq t (.bool i) (.bool j)).run P w= .ok (.bool (!(i==j))) w:=by
 show(do pure (.bool (!(<-Op.equal t (.bool i) (.bool j)))):Sem Value).run P w=_;rw[Sem.run_bind,yH hu];rfl
theorem KB(hτ:fG P τ){x y:SV}{Fd:SV->Prop}(h:PS P τ op t x y Fd)(o1 o2:Operand):
  ∃r,Fd r/\r.sc nx/\∀J:World,(do eqGuard op t o1 o2 (x.den O) (y.den O);binOp op t (x.den O) (y.den O)).run P J= .ok (r.den O) J:=by
 unfold PS at h;split at h
 .rename_i k i k' j;have fin:∀R:(op= .shl\/op= .shr)\/k=k',Ju op k i j (fun r=>Fd (.o (.v r)))->∃r,Fd r/\r.sc nx/\∀J:World,(do eqGuard op t o1 o2 (SV.den O (.o (.v (.int k i)))) (SV.den O (.o (.v (.int k' j))));binOp op t (SV.den O (.o (.v (.int k i)))) (SV.den O (.o (.v (.int k' j))))).run P J= .ok (r.den O) J:=by
   intro R h;obtain⟨r,Y,I⟩:=KA (P:=P) (t:=t) h k' R;refine⟨_,Y,trivial,fun J=>?_⟩;simp only[SV.den,At.den,Sem.run_bind,yq,Result.andThen_ok,I]
  split at h
  .exact fin (.inl (.inl rfl)) h
  .exact fin (.inl (.inr rfl)) h
  .split at h
   .rename_i R;exact fin (.inr (rh R)) h
   .exact h.elim
 .rename_i i j;split at h
  .rename_i ti Rs;split at h
   .rename_i QS;have hu:=(hτ t _ Rs).i2 (ee QS);split at h
    .refine⟨_,h,trivial,fun J=>?_⟩;simp only[SV.den,At.den,Sem.run_bind,pH,Result.andThen_ok,AE hu]
    .refine⟨_,h,trivial,fun J=>?_⟩;simp only[SV.den,At.den,Sem.run_bind,pH,Result.andThen_ok,yr hu]
    .exact h.elim
   .exact h.elim
  .exact h.elim
 .rename_i i j;split at h
  .refine⟨_,h,trivial,fun J=>?_⟩;simp only[SV.den,At.den,Sem.run_bind,kF,Result.andThen_ok]
   simp[binOp,Op.stringOp,ByteArray.toList_eq]
  .refine⟨_,h,trivial,fun J=>?_⟩;simp only[SV.den,At.den,Sem.run_bind,kF,Result.andThen_ok]
   simp[binOp,Op.stringOp,ByteArray.toList_eq]
  .refine⟨_,h.2,trivial,fun J=>?_⟩;simp only[SV.den,At.den,Sem.run_bind,kF,Result.andThen_ok]
   have Y:=h.1;unfold maxLen at Y;simp[binOp,Op.stringOp];omega
  .exact h.elim
 .obtain⟨b,Y,I⟩:=h;exact⟨_,I,trivial,fun J=>Y O J o1 o2⟩
abbrev Ot(n B:Nat)(l:Env)(a:Act)(dst:Option Tmp)(Fd:SV->Hp->Nat->Iv->World->Prop)(next:Act->World->Prop):Prop:=
 ∀v H' Pr K F F' w3,Fd v H' Pr K F->Sat n l H' Pr K B F F' a w3->v.sc Pr->next (a.put dst (v.den F')) w3
theorem Sat.next(sat:Sat n l H nx iv B w O a J)(rel:Rel H' Pr K B F F' w3)(Vx:nx<=Pr)(G8:∀id,id<nx->O id=F' id):
  Sat n l H' Pr K B F F' a w3:=
 ⟨rel,sat.size,sat.defers,fun t v h=>by rw[sat.env t v h,SV.nI G8 (sat.sc t v h)],fun t v h=>SV.ve Vx (sat.sc t v h)⟩
theorem EG(sat:Sat n l H nx iv B w O a J){cs:List At}(hs:∀c∈cs,At.sc nx c):
  Rel ((nx,.box t cs)::H) (nx+1) iv B w (jG O nx ⟨J.heap.size,0,false⟩) (J.alloc (.cells (cs.map (At.den O)).toArray t)):=
 sat.rel.push (.box t cs) _ rfl rfl rfl ce (fun k R=>heap_alloc_old _ _ R) (fun _=>⟨aq _,ce⟩) ⟨rfl,heap_alloc_new _ _⟩ hs
theorem yI:∀{vs:List SV} {k:List Nat->Prop},qC vs k->(∀v∈vs,SV.sc nx v)->∃ids,k ids/\vs.map (SV.den O)=ids.map (fun id=>Value.pointer (some ⟨(O id).g,0,none⟩))/\∀id∈ids,id<nx
 |[],k,h,_=>⟨[],h,rfl,ce⟩
 | .o (.p id 0)::r,k,h,hs=>by
  obtain⟨ids,Y,I,h3⟩:=yI (vs:=r) h (fun v hv=>hs v (by simp[hv]));exact⟨id::ids,Y,by simp[I,SV.den,At.den],by simp;exact⟨hs (.o (.p id 0)) ce,h3⟩⟩
 | .o (.p id (m+1))::r,k,h,_=>by simp[qC]at h
 | .o (.v x)::r,k,h,_=>by simp[qC]at h
 | .o (.s _ _ _ _)::r,k,h,_=>by simp[qC]at h
 | .o (.w _ _)::r,k,h,_=>by simp[qC]at h
 | .o (.fn _ _)::r,k,h,_=>by simp[qC]at h
 | .a _::r,k,h,_=>by simp[qC]at h
theorem AF(sat:Sat n l H nx iv B w O a J){Fd:SV->Hp->Iv->World->Prop}{o:Oper}{next:Act->World->Prop}
  (h:Fe P B g args H nx iv w Fd) (WT:(execOp a.eval o).run P J=(callFunc g (args O)).run P J)
  (U:∀v H' K F,Fd v H' K F->Sat n l H' nx K B F O a F->v.sc nx->next (a.put o.dst (v.den O)) F):o.wp P a J next Q:=by
 have hc:=h.h O J sat.rel;unfold Oper.wp;rw[WT,hc.e.h];refine Calls.mono hc.c fun e F L=>?_;obtain⟨v,H',K,rfl,Qb,hK⟩:=L;exact U _ _ _ _ hK (sat.next (F':=O) Qb (aq _) (fun _ _=>rfl)) trivial
theorem Rel.ext(r:Rel H nx iv B w O J)(e:Ext J F):Rel H nx iv B w O F:=
 Rel.mk' (e.os.trans r.os) (e.tape.trans r.tape) (e.output.trans r.output) (aR r.size e.size) r.base r.oc r.keys
  (fun id b h=>ja.iY (r.fits h) (fun _ _=>rfl) (r.scopd h) (fun U _=>e.block _ (r.low id b h U).2)) (fun id b h=>r.scopd h) r.inj
  (fun id b h U=>by have:=r.low id b h U;have:=e.size;omega) (fun k R Po=>by rw[e.block k (by have:=r.size;omega)];exact r.Dz k R Po) r.jU
theorem Rel.here(r:Rel H nx iv B w O J):Rel H nx iv B J O J:=
 Rel.mk' rfl rfl rfl (aq _) (by have:=r.base;have:=r.size;omega) (fun lo N hm=>by have:=r.oc lo N hm;have:=r.size;omega) r.keys
  (fun id b h=>r.fits h) (fun id b h=>r.scopd h) r.inj r.low (fun _ _ _=>rfl) r.jU
theorem Rel.more{lo N:Nat}(r:Rel H nx iv B w O J)(Y:N<=w.heap.size)(I:∀id b,dV H id=some b->(O id).nil=false->¬(lo<=(O id).g/\(O id).g<N)):Rel H nx ((lo,N)::iv) B w O J:=
 Rel.mk' r.os r.tape r.output r.size r.base
  (fun lo' Rc hm=>by
   rcases List.mem_cons.1 hm with hm|hm
   .injection hm with e1 e2;omega
   .exact r.oc lo' Rc hm) r.keys (fun id b A=>r.fits A) (fun id b A=>r.scopd A) r.inj r.low r.Dz
  (fun lo' Rc hm id b A QF=>by
   rcases List.mem_cons.1 hm with hm|hm
   .injection hm with e1 e2;subst e1;subst e2;exact I id b A QF
   .exact r.jU lo' Rc hm id b A QF)
theorem cW{Fd:SV->Hp->Iv->World->Prop}(h:FX P B g args H nx iv w Fd):Fe P B g args H nx iv w Fd:=
 ⟨fun O J r=>⟨(h.h O J r).e,Calls.mono (h.h O J r).c fun e F L=>by
  obtain⟨v,Y,I,h3⟩:=L
  exact⟨v,H,_,Y,(r.ext I).here.more (aq _) (fun id b A U=>by have:=(r.low id b A U).2;omega),h3⟩⟩⟩
def mM:Op->Bool
 | .move _| .assign _| .pick _ _ _| .build _ _| .load _ _| .nilCheck _| .binOp _ _ _ _ _| .unOp _ _ _| .convert _ _ _| .makeFunc _ _ _| .slice _ _ _ _ _| .fieldAddr _ _ _| .field _ _ _| .indexAddr _ _ _| .extract _ _=>true
 | .call ⟨.builtin .len,_,_⟩=>true
 | .call ⟨.builtin .max,_,_⟩=>true
 | .call ⟨.builtin .min,_,_⟩=>true
 |_=>false
def Cw:Op->Bool
 | .alloc _| .box _ _| .buildSlice _ _ _| .makeSlice _ _ _=>true
 |_=>false
def HU:Op->Bool
 | .load _ _=>false
 |o=>mM o
theorem im(hτ:fG P τ){o:Oper}(h:zl dr P τ B o l H nx iv w Fd)(sat:Sat n l H nx iv B w O a J)(R:mM o.op=true):
  (∃v,Fd v H nx iv w/\v.sc nx/\∀F,(HU o.op=true\/Rel H nx iv B w O F)->(execOp a.eval o).run P F= .ok (.value (v.den O)) F)\/(dr=false/\zU P B o l H nx iv w Fd):=by
 obtain⟨dst,op,ty,pos,after,guard⟩:=o;have val:∀(r:SV),Fd r H nx iv w->r.sc nx->(∀F,(HU op=true\/Rel H nx iv B w O F)->(execOp a.eval ⟨dst,op,ty,pos,after,guard⟩).run P F= .ok (.value (r.den O)) F)->
   (∃v,Fd v H nx iv w/\v.sc nx/\∀F,(HU op=true\/Rel H nx iv B w O F)->(execOp a.eval ⟨dst,op,ty,pos,after,guard⟩).run P F= .ok (.value (v.den O)) F)\/(dr=false/\zU P B ⟨dst,op,ty,pos,after,guard⟩ l H nx iv w Fd):=
  fun r hK hs hr=>.inl ⟨r,hK,hs,hr⟩
 unfold zl at h;split at h<;>first|(exact False.elim h)|(rename_i WT;simp only at WT;subst WT)
 .obtain⟨v,hK,hv,hs⟩:=dy sat h;exact val v hK hs (fun F rel=>by simp[execOp,hv])
 .obtain⟨v,hK,hv,hs⟩:=dy sat h;exact val v hK hs (fun F rel=>by simp[execOp,hv])
 .rename_i c x y;obtain⟨v,Y,hv,R1⟩:=dy sat h;clear R1;split at Y
  .rename_i t
   cases t
   .obtain⟨u,hK,hu,hs⟩:=dy sat (Y.f rfl);exact val u hK hs (fun F rel=>by simp[execOp,hv,SV.den,At.den,asBool,hu])
   .obtain⟨u,hK,hu,hs⟩:=dy sat (Y.t rfl);exact val u hK hs (fun F rel=>by simp[execOp,hv,SV.den,At.den,asBool,hu])
  .exact Y.elim
 .cases R
 .cases R
 .rename_i t parts;split at h
  .rename_i sz ag by_ ze tag ik e al fs Rs;have ht:=hτ t _ Rs;obtain⟨inf,z,N,QK,QR,hz,SD⟩:=ht.info;simp only at QK QR SD;have hzz:z.cells=(((ze.map At.v)).map (At.den O)).toArray:=by rw[fx];apply Array.ext';simpa using SD
   have XR:∀c∈ze.map At.v,At.sc nx c:=fun c hc=>by simp at hc;obtain⟨v,_,rfl⟩:=hc;trivial
   split at h
   .rename_i QS;obtain⟨fds,hu,hf,Qw⟩:=ht.i5 (ee QS);simp only at hf;have Yw:fds.toList.mapM (fun f=>(P.info? f.type).map fun i=>(f.offset,i.size))=some (fds.toList.map fun f=>(f.offset,((P.info? f.type).map (·.size)).getD 0)):=by
     clear hf hu;generalize fds.toList=fl at Qw
     induction fl with
     |nil=>rfl
     |cons f r ih=>
      obtain⟨i0,Vz⟩:=Option.isSome_iff_exists.1 (Qw f ce);rw[List.mapM_cons,ih (fun g V=>Qw g (by simp[V]))];simp[Vz]
    have h0:=fy h
    obtain⟨cs',hK,Q4,hlen,RV⟩:=lj sat (placeF:=fun i=>(fds.toList.map fun f=>(f.offset,((P.info? f.type).map (·.size)).getD 0))[i]?) (fun i k R=>by
     obtain⟨off,ft,fi,Y,I,h3,h4⟩:=og hτ R;refine⟨off,fi.size,Y,?_⟩;rw[<-hf]at I;simp only[aU,Option.map_eq_some_iff]at I ⊢;obtain⟨fd,RI,L⟩:=I;injection L with e1 e2;refine⟨fd,RI,?_⟩;obtain⟨inf',_,Rc,Vo,_⟩:=h3.info;rw[e1,e2,Rc]
     simp[Vo]) h0 XR
    refine val _ hK Q4 (fun F rel=>?_);have A:P.built t (parts.map fun p=>(p.1,a.eval p.2)).toList=some (cs'.map (At.den O)).toArray:=by
     unfold Program.built;simp only[N,hu,hz,Yw]
     rw[hzz,<-RV];simp
    have:=run_build F t _ _ A;simp only[execOp]
    exact mX this
   .split at h
    .rename_i QS;have hu:=ht.i6 (ee QS);simp only at hu;split at h
     .rename_i sz' ag' by' ze' tag' ik' e' al' fs' Qn
      have Qn:=hτ e _ Qn;obtain⟨inf',_,Rc,Vo,_⟩:=Qn.info;simp only at Vo;have h0:=fy h;obtain⟨cs',hK,Q4,hlen,RV⟩:=lj sat (placeF:=fun i=>some (i*inf'.size,inf'.size)) (fun i k R=>⟨i*sz',sz',R,by rw[Vo]⟩) h0 XR;refine val _ hK Q4 (fun F rel=>?_);have A:P.built t (parts.map fun p=>(p.1,a.eval p.2)).toList=some (cs'.map (At.den O)).toArray:=by
       unfold Program.built;simp only[N,hu,hz,Rc]
       rw[hzz,<-RV];simp
      have:=run_build F t _ _ A;simp only[execOp]
      exact mX this
     .exact h.elim
    .exact h.elim
  .exact h.elim
 .cases R
 .rename_i t x;obtain⟨v,Y,hv,hs⟩:=dy sat h;obtain⟨r,hK,hr,Px⟩:=nU hτ sat.rel hs Y;exact val r hK hr (fun F rel=>by simp only[execOp,hv];exact mX (Px F (rel.resolve_left (by simp[HU]))))
 .cases R
 .rename_i x;obtain⟨v,Y,hv,hs⟩:=dy sat h;split at Y
  .exact val _ Y hs (fun F rel=>by simp[execOp,hv,SV.den,At.den])
  .exact val _ Y hs (fun F rel=>by simp[execOp,hv,SV.den,At.den])
  .exact val _ Y hs (fun F rel=>by simp[execOp,hv,SV.den,At.den])
  .exact val _ Y hs (fun F rel=>by simp[execOp,hv,SV.den,At.den])
  .exact Y.elim
 .rename_i op t x y u;obtain⟨v,Y,hv,_⟩:=dy sat h;obtain⟨v2,I,Sh,_⟩:=dy sat Y;obtain⟨r,hK,hr,Px⟩:=KB (O:=O) hτ I x y;exact val r hK hr (fun F rel=>by simp only[execOp,hv,Sh];exact mX (Px F))
 .rename_i op t x;obtain⟨v,Y,hv,_⟩:=dy sat h;split at Y
  .exact val _ Y trivial (fun F rel=>by simp[execOp,hv,SV.den,At.den,Op.unary])
  .obtain⟨r,hr,hK⟩:=Y;exact val _ hK trivial (fun F rel=>by subst hr;simp[execOp,hv,SV.den,At.den,Op.unary,Op.intArith])
  .obtain⟨r,hr,hK⟩:=Y;exact val _ hK trivial (fun F rel=>by subst hr;simp[execOp,hv,SV.den,At.den,Op.unary,Op.intBits])
  .exact Y.elim
 .rename_i s d x;split at h
  .rename_i tis htis;obtain⟨ds,hds,_⟩:=(hτ s _ htis).agg;obtain⟨v,Y,hv,R1⟩:=dy sat h;clear R1;split at Y
   .rename_i sz ag by_ ze tag ik e al fs Rs;have ht:=hτ d _ Rs;split at Y
    .rename_i QS;have hu:=ht.i1 (ee QS);simp only at hu;split at Y
     .obtain⟨r,hr,hK⟩:=Y;refine val _ hK trivial (fun F rel=>?_);subst hr;simp[execOp,convert,run_underlying hds,run_underlying hu,hv,SV.den,At.den,Conv.intToInt]
     .exact Y.elim
    .cases dr
     .exact .inr ⟨rfl,Y⟩
     .exact Y.elim
   .exact Y.elim
  .exact h.elim
 .rename_i f first caps
  split at h
  .obtain⟨vs,Y,R1,UP⟩:=tO sat h;obtain⟨ids,hK,hids,QZ⟩:=yI (O:=O) Y UP;refine val _ hK (fun id RE=>QZ id RE) (fun F rel=>?_);have e:caps.map a.eval=(ids.map fun id=>Value.pointer (some ⟨(O id).g,0,none⟩)).toArray:=by
    apply Array.ext';rw[<-hids,<-R1];simp
   simp[execOp,Instr.makeFunc,e,SV.den,At.den]
  .exact h.elim
 .cases R
 .rename_i t x lo N;obtain⟨v,Y,hv,hs⟩:=dy sat h;obtain⟨r,hK,hr,Px⟩:=Fl hτ sat Y hs;exact val r hK hr (fun F rel=>by simp only[execOp,hv];exact mX (by simpa using Px F))
 .rename_i t x lo N mx;obtain⟨v,Y,hv,hs⟩:=dy sat h;obtain⟨r,hK,hr,Px⟩:=EF hτ sat Y;exact val r hK hr (fun F rel=>by simp only[execOp,hv];exact mX (by simpa using Px F))
 .rename_i t x f;split at h
  .rename_i sz ag by_ ze tag ik e al fs Rs;have ht:=hτ t _ Rs;split at h
   .rename_i QS;obtain⟨off,ft,fi,Y,hf,Xj,QK⟩:=og hτ h;obtain⟨v,I,hv,hs⟩:=dy sat Y;obtain⟨r,ad,hK,hr,hd,hrd⟩:=vh (O:=O) I hs;refine val r hK hr (fun F rel=>?_);simp only[execOp,hv,hd,hrd]
    exact mX (Fi ht (ee QS) hf Xj QK ad F)
   .exact h.elim
  .exact h.elim
 .rename_i t x f;split at h
  .rename_i sz ag by_ ze tag ik e al fs Rs;have ht:=hτ t _ Rs;split at h
   .rename_i QS;obtain⟨off,ft,fi,Y,hf,Xj,QK⟩:=og hτ h;obtain⟨v,I,hv,hs⟩:=dy sat Y;obtain⟨fds,fd,hu,RI,e1,e2⟩:=AB ht (ee QS) hf;have fin:∀cs:List At,v.den O= .agg (cs.map (At.den O)).toArray->(∀c∈cs,At.sc nx c)->
      (match fi.agg with
       |true=>vU cs off (fun r=>vV r fi.size (fun c=>Fd (.a c) H nx iv w))
       |false=>match EC cs off with
        |some c=>Fd (.o c) H nx iv w
        |none=>False)->(∃v,Fd v H nx iv w/\v.sc nx/\∀F,(HU (.field t x f)=true\/Rel H nx iv B w O F)->(execOp a.eval ⟨dst,.field t x f,ty,pos,after,guard⟩).run P F= .ok (.value (v.den O)) F)\/(dr=false/\zU P B ⟨dst,.field t x f,ty,pos,after,guard⟩ l H nx iv w Fd):=by
     intro cs hd Q4 R;split at R
     .rename_i hag;obtain⟨h3,QM⟩:=qE R;obtain⟨hK,QJ⟩:=qF h3;refine val _ hK (fun c hc=>Q4 c (List.mem_of_mem_drop (List.mem_of_mem_take hc))) (fun F rel=>?_);simp only[execOp,hv,hd]
      refine mX ?_;subst e1 e2;simp[Instr.field,run_underlying hu,RI,asAgg,part,Xj.isAgg,hag,Xj.sizeOf,SV.den,List.map_drop,List.map_take,List.extract_eq_take_drop]
     .rename_i hag;split at R
      .rename_i c hc;rw[xP]at hc;refine val _ R (Q4 c (aG hc)) (fun F rel=>?_);simp only[execOp,hv,hd]
       refine mX ?_;subst e1 e2;simp[Instr.field,run_underlying hu,RI,asAgg,part,Xj.isAgg,hag,hc,SV.den]
      .exact R.elim
    split at I
    .rename_i vs;exact fin (vs.map At.v) (by rw[fx];rfl) (fun c hc=>by simp at hc;obtain⟨v,_,rfl⟩:=hc;trivial) (fy I)
    .exact fin _ rfl hs I
    .exact I.elim
   .exact h.elim
  .exact h.elim
 .rename_i t x i;obtain⟨v,Y,hv,hs⟩:=dy sat h;obtain⟨u,I,hu,_⟩:=dy sat Y;obtain⟨r,hK,hr,Px⟩:=Fj hτ I hs sat.rel;exact val r hK hr (fun F rel=>by simp only[execOp,hv,hu];exact mX (Px F))
 .rename_i x i;obtain⟨v,Y,hv,hs⟩:=dy sat h;split at Y
  .split at Y
   .rename_i vs u hu;rw[DE]at hu;exact val _ Y trivial (fun F rel=>by simp[execOp,hv,Instr.extract,SV.den,At.den,hu])
   .exact Y.elim
  .exact Y.elim
 .rename_i x t;obtain⟨v,Y,hv,_⟩:=dy sat h;obtain⟨r,hK,Px⟩:=Jz (ty:=ty) hτ Y sat.rel;refine val _ hK trivial (fun F rel=>?_);show _=Result.ok (Next.value (Value.int .i64 r)) F;generalize v.den O=xv at hv Px;have Px:=Px F;simp[execOp,resolve,invoke,builtin,hv,Px]
 .cases R
 .rename_i x y ts;obtain⟨v,Y,hv,_⟩:=dy sat h;obtain⟨v2,I,Sh,_⟩:=dy sat Y;split at I
  .split at I
   .rename_i k a1 k' b1 Tm;have WV:=rh Tm;subst WV;refine val _ I trivial (fun F rel=>?_);simp only[execOp,resolve,invoke,builtin]
    simp[hv,Sh,SV.den,At.den,Builtin.max_,Builtin.max2];omega
   .exact I.elim
  .exact I.elim
 .rename_i x y ts;obtain⟨v,Y,hv,_⟩:=dy sat h;obtain⟨v2,I,Sh,_⟩:=dy sat Y;split at I
  .split at I
   .rename_i k a1 k' b1 Tm;have WV:=rh Tm;subst WV;refine val _ I trivial (fun F rel=>?_);simp only[execOp,resolve,invoke,builtin]
    simp[hv,Sh,SV.den,At.den,Builtin.min_,Builtin.min2];omega
   .exact I.elim
  .exact I.elim
 .cases R
 .cases R
 .cases R
 .cases R
 .cases R
 .cases R
 .cases R
 .cases R
theorem jL{o:Oper}(h:zU P B o l H nx iv w Fd)(sat:Sat n l H nx iv B w O a J){next:Act->World->Prop}
  (U:Ot n B l a o.dst Fd next):o.wp P a J next Q:=by
 obtain⟨v,F,K,Px,Qb,hK⟩:=h.h O J a.eval sat.rel (fun x v E=>(vg sat E).1);have:=U _ _ _ _ _ _ _ hK (sat.next Qb (aq _) (fun _ _=>rfl)) trivial;unfold Oper.wp;rcases Px with Px|⟨Px,rfl⟩
 .rw[Px];exact this
 .rw[Px];exact this
theorem lG(hτ:fG P τ){o:Oper}(h:zl dr P τ B o l H nx iv w Fd)(sat:Sat n l H nx iv B w O a J){next:Act->World->Prop}
  (U:Ot n B l a o.dst Fd next):o.wp P a J next Q:=by
 by_cases R:mM o.op=true
 .rcases im hτ h sat R with⟨v,hK,hs,hr⟩|⟨_,WT⟩
  .exact kf (hr J (.inr sat.rel)) (U _ _ _ _ _ _ _ hK sat hs)
  .exact jL WT sat U
 obtain⟨dst,op,ty,pos,after,guard⟩:=o;unfold zl at h;split at h<;>first|(exact False.elim h)|(rename_i WT;simp only at WT;subst WT)
 .exact absurd rfl R
 .exact absurd rfl R
 .exact absurd rfl R
 .rename_i t;split at h
  .rename_i sz ag by_ ze tag ik e al fs Rs;obtain⟨z,Uz,Ro⟩:=(hτ t _ Rs).zeroV J;have hK:=fy h;simp only at Ro;have Qb:=EG sat (t:=t) (cs:=ze.map At.v) (fun c hc=>by simp at hc;obtain⟨v,_,rfl⟩:=hc;trivial);rw[fx]at Qb;have hzz:z.cells=ze.toArray:=by apply Array.ext';simpa using Ro
   refine kf (F:=J.alloc (.cells ze.toArray t)) (v:=.pointer (some ⟨J.heap.size,0,none⟩)) ?_ ?_
   .simp[execOp,Instr.alloc,Uz,newVar,newRow,hzz]
   .have:=U _ _ _ _ _ _ _ hK (sat.next Qb be iO) (by simp[SV.sc,At.sc]);simpa [SV.den,At.den]using this
  .exact h.elim
 .rename_i t x;obtain⟨v,Y,hv,hs⟩:=dy sat h;obtain⟨cs,hK,Q8,UP⟩:=oI Y;have Qb:=EG sat (t:=t) (UP nx hs);refine kf (F:=J.alloc (.cells (cs.map (At.den O)).toArray t)) (v:=.pointer (some ⟨J.heap.size,0,none⟩)) ?_ ?_
  .simp[execOp,Instr.box,hv,newVar,newRow,Q8 O]
  .have:=U _ _ _ _ _ _ _ hK (sat.next Qb be iO) (by simp[SV.sc,At.sc]);simpa [SV.den,At.den]using this
 .exact absurd rfl R
 .rename_i t m parts;split at h
  .rename_i sz ag by_ ze tag ik e al fs Rs;have ht:=hτ t _ Rs;split at h
   .rename_i QS;have hu:=ht.i4 (ee QS);simp only at hu;split at h
    .rename_i sz' ag' by' ze' tag' ik' e' al' fs' Qn
     have Qn:=hτ e _ Qn;obtain⟨inf,z,N,QK,QR,hz,SD⟩:=Qn.info;have Su:=Qn.Fa;simp only at QK QR SD Su;split at h
     .rename_i hle;have hle:=Nat.le_of_ble_eq_true hle;have h0:=fy h;obtain⟨cs',hK,Q4,hlen,RV⟩:=lj sat (placeF:=fun i=>some (i*inf.size,inf.size)) (fun i k R=>⟨i*sz',sz',R,by rw[QK]⟩) h0
       (fun c hc=>by obtain⟨v,_,rfl⟩:=bE.1 hc;trivial)
      rw[fx]at RV;have TD:z.cells=ze'.toArray:=by apply Array.ext';simpa using SD
      have Xk:((List.replicate m ze').flatten).toArray=madeCells z.cells (m*inf.size):=by
       rw[TD,QK,<-Su];exact(tR ze' m).symm
      have Qb:=EG sat (t:=e) Q4;refine kf (F:=J.alloc (.cells (cs'.map (At.den O)).toArray e)) (v:=.slice (some ⟨J.heap.size,0,none⟩) m m) ?_ ?_
      .simp only[execOp]
       refine mX ?_;rw[Xk]at RV;by_cases QU:m*inf.size=0
       .have Tw:Instr.fill (fun i=>some (i*inf.size,inf.size)) (madeCells z.cells 0) (parts.toList.map fun p=>(p.1,a.eval p.2))=some (cs'.map (At.den O)).toArray:=by rw[QU]at RV;exact RV
        have e0:madeCells z.cells 0= #[]:=by simp[madeCells]
        rw[e0]at Tw;have er:Array.range 0= #[]:=rfl;simp[Instr.buildSlice,run_underlying hu,sizeOf,typeInfo,zeroValue,N,hz,QU,newRow,Tw,er]
       .exact run_buildSlice J t e m _ _ inf z hu N hz (by rw[QK];omega) QU (by rw[<-RV];simp[madeCells])
      .have:=U _ _ _ _ _ _ _ hK (sat.next Qb be iO) (by simp[SV.sc,At.sc]);simpa [SV.den,At.den]using this
     .exact h.elim
    .exact h.elim
   .exact h.elim
  .exact h.elim
 .exact absurd rfl R
 .rename_i t x y;obtain⟨v,Y,hv,hs⟩:=dy sat h;obtain⟨u,I,hu,TO⟩:=dy sat Y
  cases V:Oq H v u with
  |true=>
   rw[V]at I
   cases dr with
   |true=>exact I.elim
   |false=>
    have I:OpG P B _ l H nx iv w Fd:=I;obtain⟨F,w3,H',K,Px,Qb,hK⟩:=I.h O J a.eval sat.rel (fun x v E=>(vg sat E).1);refine Lh (F:=w3) Px ?_;exact U _ _ _ _ _ _ _ hK (sat.next Qb (aq _) (fun _ _=>rfl)) trivial
  |false=>
   rw[V]at I;obtain⟨H',F,w3,hK,Qb,Px⟩:=Fh hτ sat hs TO I;refine Lh (F:=w3) (by simp[execOp,hv,hu,Px]) ?_;exact U _ _ _ _ _ _ _ hK (sat.next Qb (aq _) (fun _ _=>rfl)) trivial
 .exact absurd rfl R
 .exact absurd rfl R
 .exact absurd rfl R
 .exact absurd rfl R
 .exact absurd rfl R
 .rename_i t x y;obtain⟨v,Y,hv,_⟩:=dy sat h;obtain⟨u,I,hu,_⟩:=dy sat Y;obtain⟨r,H',Pr,F',F,hK,Qb,hr,Vx,G8,Px⟩:=Hc hτ sat I;refine kf (F:=F) (by simp only[execOp,hv,hu];exact mX Px) ?_;exact U _ _ _ _ _ _ _ hK (sat.next Qb Vx G8) hr
 .exact absurd rfl R
 .exact absurd rfl R
 .exact absurd rfl R
 .exact absurd rfl R
 .exact absurd rfl R
 .exact absurd rfl R
 .exact absurd rfl R
 .rename_i x y t u;split at h
  .rename_i htu;have htu:=ee htu;subst htu;obtain⟨v,Y,hv,_⟩:=dy sat h;obtain⟨v2,I,Sh,_⟩:=dy sat Y;split at I
   .unfold gaK at I;split at I
    .exact I.elim
    .obtain⟨v,H',Pr,K,F',F,w3,Px,Qb,hs,Vx,G8,hK⟩:=I.h O J a.eval sat.rel (fun x v E=>(vg sat E).1);exact kf Px (U _ _ _ _ _ _ _ hK (sat.next Qb Vx G8) hs)
   rcases I with I|I
   .obtain⟨r,H',Pr,F',F,hK,Qb,hr,Vx,G8,Px⟩:=vZ (ty:=ty) hτ sat I;refine kf (v:=r.den F') (F:=F) ?_ ?_
    .simp[execOp,resolve,invoke,builtin,hv,Sh,Px]
    .exact U _ _ _ _ _ _ _ hK (sat.next Qb Vx G8) hr
   .exact jL I sat U
  .exact jL h sat U
 .exact absurd rfl R
 .exact absurd rfl R
 .exact jL h sat U
 .exact jL h sat U
 .exact jL h sat U
 .exact jL h sat U
 .exact jL h sat U
 .exact jL h sat U
 .exact jL h sat U
 .rename_i f args ats;obtain⟨v,Y,hv,_⟩:=dy sat h;obtain⟨vs,I,R1,UP⟩:=tO sat Y;have Ue:(args.toArray).map a.eval=qB O vs:=by
   apply Array.ext';simp[qB,R1]
  have Zl:∀(g:Nat) (args:(Nat->eH)->Array Value) (Fd:SV->Hp->Iv->World->Prop),Le dr P B g args H nx iv w Fd->Fe P B g args H nx iv w Fd:=fun g args Fd h=>by
   cases dr
   .exact h
   .exact cW h
  split at I
  .rename_i g first caps
   refine AF sat (Zl _ _ _ I) ?_ (fun v H' K F hK hs hv=>U _ _ _ _ _ _ _ hK hs hv);simp[execOp,resolve,hv,SV.den,At.den,Deferred.ofValue,invoke,Ue]
  .rename_i g ids;refine AF sat (Zl _ _ _ I) ?_ (fun v H' K F hK hs hv=>U _ _ _ _ _ _ _ hK hs hv);simp[execOp,resolve,hv,SV.den,At.den,Deferred.ofValue,invoke,Ue]
  .exact I.elim
end
def Ex.to:Ex->Exit
 | .normal=>.normal
 | .exit id=>.exit id
 | .ret=>.ret
def PU(n:Nat)(o:Oper):Bool:=match o.dst with
 |some d=>Nat.blt d n
 |none=>true
def codeOk(n:Nat):Code->Bool
 | .region _ ops _=>ops.toList.all (PU n)
 | .seq a b=>codeOk n a&&codeOk n b
 | .cond _ a b=>codeOk n a&&codeOk n b
 | .block _ c=>codeOk n c
 | .loop c=>codeOk n c
 |_=>true
section
variable{P:Program}{τ:mo}{B n nx:Nat}{l:Env}{H:Hp}{iv:Iv}{w J:World}{O:Nat->eH}{a:Act}
theorem Sat.put(sat:Sat n l H nx iv B w O a J){d:Nat}(hd:d<n){v:SV}(hv:v.sc nx):Sat n ((d,v)::l) H nx iv B w O (a.put (some d) (v.den O)) J:=by
 refine⟨sat.rel,by simp[Act.put,sat.size],sat.defers,fun t u h=>?_,fun t u h=>?_⟩
 .rw[fE]at h;split at h
  .rename_i e;subst e;injection h with h;subst h;simp[Act.put,sat.size,hd]
  .rename_i e;have:=sat.env t u h;simpa [Act.put,Array.getElem?_setIfInBounds_ne e]using this
 .rw[fE]at h;split at h
  .injection h with h;subst h;exact hv
  .exact sat.sc t u h
theorem eh(sat:Sat n l H nx iv B w O a J){v:SV}{k:Env->Prop}(h:FW d v l k)(hd:∀t,d=some t->t<n)(hv:v.sc nx):
  ∃l',k l'/\Sat n l' H nx iv B w O (a.put d (v.den O)) J:=by
 unfold FW at h;split at h
 .rename_i t;exact⟨_,h,sat.put (hd t rfl) hv⟩
 .exact⟨l,h,sat⟩
theorem u9:∀{all:List Oper} {j:Nat},DC all j=(all[j]?).bind (·.dst)
 |[],j=>by simp[DC]
 |o::r,0=>by simp[DC]
 |o::r,j+1=>by simp[DC,u9 (all:=r)]
theorem Sat.aAc(sat:Sat n l H nx iv B w O a J){d:Nat}{v:SV}(hd:a.tmps[d]? =some (v.den O))(hv:v.sc nx):Sat n ((d,v)::l) H nx iv B w O a J:=by
 refine⟨sat.rel,sat.size,sat.defers,fun t u h=>?_,fun t u h=>?_⟩
 .rw[fE]at h;split at h
  .rename_i e;subst e;injection h with h;subst h;exact hd
  .exact sat.env t u h
 .rw[fE]at h;split at h
  .injection h with h;subst h;exact hv
  .exact sat.sc t u h
theorem iy(sat:Sat n l H nx iv B w O a J){all:List Oper}{o:Oper}{yes no:Env->Prop}(h:tP all o.guard l yes no):
  (Region.wanted o (yielded all.toArray a.tmps)=true/\∃l',yes l'/\Sat n l' H nx iv B w O a J)\/(Region.wanted o (yielded all.toArray a.tmps)=false/\∃l',no l'/\Sat n l' H nx iv B w O a J):=by
 unfold tP at h;split at h
 .rename_i V;exact .inl ⟨by simp[Region.wanted,V],l,h,sat⟩
 .rename_i j want V;have hy:Region.wanted o (yielded all.toArray a.tmps)=(yielded all.toArray a.tmps j==some want):=by simp[Region.wanted,V]
  split at h
  .rename_i hd;rw[u9]at hd;exact .inr ⟨by rw[hy];simp[yielded,hd],l,h,sat⟩
  .rename_i d hd;rw[u9]at hd;split at h
   .rename_i b A;have ht:=sat.env d _ A;have Xl:yielded all.toArray a.tmps j=some b:=by simp[yielded,hd,ht,SV.den,At.den]
    have hkt:b=true->Sat n ((d,.o (.v (.bool true)))::l) H nx iv B w O a J:=fun e=>sat.aAc (by rw[ht,e]) trivial;have hkf:b=false->Sat n ((d,.o (.v (.bool false)))::l) H nx iv B w O a J:=fun e=>sat.aAc (by rw[ht,e]) trivial;split at h
    .cases QE:b
     .exact .inr ⟨by rw[hy,Xl,QE];rfl,_,h.f QE,hkf QE⟩
     .exact .inl ⟨by rw[hy,Xl,QE];rfl,_,h.t QE,hkt QE⟩
    .cases QE:b
     .exact .inl ⟨by rw[hy,Xl,QE];rfl,_,h.f QE,hkf QE⟩
     .exact .inr ⟨by rw[hy,Xl,QE];rfl,_,h.t QE,hkt QE⟩
   .rename_i vs A;have ht:=sat.env d _ A;exact .inr ⟨by rw[hy];simp[yielded,hd,ht,SV.den,At.den],l,h,sat⟩
   .exact h.elim
theorem rj(hτ:fG P τ){all:List Oper}{Fd:KT}{Q:Exit->Act->World->Prop}
  (hQ:∀l' H' Pr K F F' a' w3,Fd l' H' Pr K F->Sat n l' H' Pr K B F F' a' w3->Q .normal a' w3):
  ∀(rest:List Oper) (l:Env) (H:Hp) (nx:Nat) (iv:Iv) (w:World) (O:Nat->eH) (a:Act) (J:World),rest.all (PU n)=true->yG P τ B all rest l H nx iv w Fd->Sat n l H nx iv B w O a J->
   wpList P all.toArray Q rest a J
 |[],l,H,nx,iv,w,O,a,J,_,h,sat=>wpList_nil (hQ _ _ _ _ _ _ _ _ h sat)
 |o::r,l,H,nx,iv,w,O,a,J,Py,h,sat=>by
  simp only[List.all_cons,bF]at Py;have hd:∀t,o.dst=some t->t<n:=fun t ht=>by
   have:=Py.1;simp only[PU,ht]at this;have h5:t+1<=n:=by simpa [Nat.blt]using this
   exact h5
  refine wpList_step fun Kc hKc=>?_;unfold yG fA at h;rcases iy sat h with⟨G,l1,Y,sat1⟩|⟨G,l1,Y,sat1⟩
  .rw[aM G];refine lG hτ Y sat1 fun v H' Pr K F F' w3 I sat2 hv=>?_;obtain⟨l2,h3,sat3⟩:=eh sat2 I hd hv;exact hKc _ _ (rj hτ hQ r _ _ _ _ _ _ _ _ Py.2 h3 sat3)
  .rw[aI (by simp[G])];obtain⟨l2,h3,sat3⟩:=eh sat1 Y hd trivial;exact hKc _ _ (rj hτ hQ r _ _ _ _ _ _ _ _ Py.2 h3 sat3)
theorem Sub.sat{t:Fg}(h:Sub B l nx O J t)(sat:Sat n l H nx iv B w O a J):∃F',Sat n t.l t.H t.nx t.iv B t.w F' a J:=by
 obtain⟨F',Y,I⟩:=h;refine⟨F',Y,sat.size,sat.defers,fun u v hv=>?_,fun u v hv=>(I u v hv).1⟩;obtain⟨_,v0,h3,h4⟩:=I u v hv;rw[sat.env u v0 h3,h4]
theorem iz(hτ:fG P τ):∀(c:Code) (l:Env) (H:Hp) (nx:Nat) (iv:Iv) (w:World) (Q':Ex->KT),kE P τ B c l H nx iv w Q'->codeOk n c=true->
  ∀(O:Nat->eH) (a:Act) (J:World),Sat n l H nx iv B w O a J->∀Q:Exit->Act->World->Prop,(∀e l' H' Pr K F F' a' w3,Q' e l' H' Pr K F->Sat n l' H' Pr K B F F' a' w3->Q e.to a' w3)->c.wp P Q a J
 | .skip,l,H,nx,iv,w,Q',h,_,O,a,J,sat,Q,hQ=>wp_skip (hQ .normal _ _ _ _ _ _ _ _ h sat)
 | .region id ops false,l,H,nx,iv,w,Q',h,Py,O,a,J,sat,Q,hQ=>by
  obtain⟨ol⟩:=ops;exact wp_region_lit (rj hτ (fun l' H' Pr K F F' a' w3 R hs=>hQ .normal _ _ _ _ _ _ _ _ R hs) ol _ _ _ _ _ _ _ _ Py h sat)
 | .region id ops true,l,H,nx,iv,w,Q',h,Py,O,a,J,sat,Q,hQ=>
  mO.h h n O a J Py sat Q (fun l' H' Pr K F F' a' w3 R hs=>hQ .normal _ _ _ _ _ _ _ _ R hs) id
 | .seq c d,l,H,nx,iv,w,Q',h,Py,O,a,J,sat,Q,hQ=>by
  simp only[codeOk,bF]at Py;refine wp_seq (iz hτ c _ _ _ _ _ _ h Py.1 O a J sat _ fun e l' H' Pr K F F' a' w3 R hs=>?_)
  cases e with
  |normal=>exact iz hτ d _ _ _ _ _ _ R Py.2 F' a' w3 hs Q hQ
  |exit id=>exact hQ (.exit id) _ _ _ _ _ _ _ _ R hs
  |ret=>exact hQ .ret _ _ _ _ _ _ _ _ R hs
 | .cond x c d,l,H,nx,iv,w,Q',h,Py,O,a,J,sat,Q,hQ=>by
  simp only[codeOk,bF]at Py;obtain⟨v,Y,hv,R1⟩:=dy sat h;clear R1;split at Y
  .rename_i t;refine wp_cond_split (t:=t) (by rw[hv];rfl) (fun ht=>?_) (fun ht=>?_)
   .exact iz hτ c _ _ _ _ _ _ (Y.t ht) Py.1 O a J sat Q hQ
   .exact iz hτ d _ _ _ _ _ _ (Y.f ht) Py.2 O a J sat Q hQ
  .exact Y.elim
 | .block id c,l,H,nx,iv,w,Q',h,Py,O,a,J,sat,Q,hQ=>by
  refine wp_block (iz hτ c _ _ _ _ _ _ h Py O a J sat _ fun e l' H' Pr K F F' a' w3 R hs=>?_)
  cases e with
  |normal=>exact hQ .normal _ _ _ _ _ _ _ _ R hs
  |exit id'=>
   simp only[Ex.to,Exit.inBlock]
   simp only at R;split at R
   .rename_i L;rw[aM (ee L)];exact hQ .normal _ _ _ _ _ _ _ _ R hs
   .rename_i L;rw[aI (fun e=>by subst e;rw[Nat.beq_refl]at L;cases L)];exact hQ (.exit id') _ _ _ _ _ _ _ _ R hs
  |ret=>exact hQ .ret _ _ _ _ _ _ _ _ R hs
 | .loop c,l,H,nx,iv,w,Q',h,Py,O,a,J,sat,Q,hQ=>by
  obtain⟨α,st,μ,E8,h0,hr⟩:=h;intro b k cs;have key:∀m x O a J,μ x=m->E8 x->Sat n (st x).l (st x).H (st x).nx (st x).iv B (st x).w O a J->
    ∃e a' F,Q e a' F/\Arrives P (lone (b.at a (.code c:: .inLoop c::k)) cs J) b k cs e a' F:=by
   intro m
   induction m using Nat.strongRecOn with
   |_ m ih=>
    intro x O a J hm hI hs;have hc:=iz hτ c _ _ _ _ _ _ (hr x hI) Py O a J hs
     (fun e a2 F=>match e with
      | .normal=>∃y G9,E8 y/\Sat n (st y).l (st y).H (st y).nx (st y).iv B (st y).w G9 a2 F/\μ y<μ x
      |e=>Q e a2 F) (fun e l' H' Pr K F F' a' w3 R Vo=>by
       cases e with
       |normal=>
        obtain⟨y,hIy,hy,QZ⟩:=R F' w3 Vo.rel;obtain⟨G9,TO⟩:=hy.sat Vo;exact⟨y,G9,hIy,TO,QZ⟩
       |exit id=>exact hQ (.exit id) _ _ _ _ _ _ _ _ R Vo
       |ret=>exact hQ .ret _ _ _ _ _ _ _ _ R Vo)
    obtain⟨e,a₁,w₁,hq,VY⟩:=hc b (.inLoop c::k) cs
    cases e with
    |normal=>
     obtain⟨y,G9,hIy,TO,QZ⟩:=hq;obtain⟨e₂,a₂,w₂,hq₂,harr₂⟩:=ih (μ y) (hm▸QZ) y G9 a₁ w₁ rfl hIy TO;exact⟨e₂,a₂,w₂,hq₂,.of_steps (Steps.trans VY (.one step_inLoop)) harr₂⟩
    |exit id=>exact⟨_,a₁,w₁,hq,.pass (x:=.inLoop c) rfl (fun _ _=>.inl ce) VY⟩
    |goto l=>exact⟨_,a₁,w₁,hq,.pass (x:=.inLoop c) rfl (fun _ _=>.inl ce) VY⟩
    |ret=>exact⟨_,a₁,w₁,hq,.pass (x:=.inLoop c) rfl (fun _ _=>.inl ce) VY⟩
    |panic ch=>exact⟨_,a₁,w₁,hq,.pass (x:=.inLoop c) rfl (fun _ _=>.inl ce) VY⟩
    |outgrown=>exact⟨_,a₁,w₁,hq,.pass (x:=.inLoop c) rfl (fun _ _=>.inl ce) VY⟩
  obtain⟨x,hIx,E⟩:=h0 O J sat.rel;obtain⟨G9,TO⟩:=E.sat sat;obtain⟨e,a',F,hq,VY⟩:=key _ x G9 a J rfl hIx TO;exact⟨e,a',F,hq,.of_steps (.one step_loop) VY⟩
 | .exit id,l,H,nx,iv,w,Q',h,_,O,a,J,sat,Q,hQ=>wp_exit (hQ (.exit id) _ _ _ _ _ _ _ _ h sat)
 | .ret,l,H,nx,iv,w,Q',h,_,O,a,J,sat,Q,hQ=>wp_ret (hQ .ret _ _ _ _ _ _ _ _ h sat)
 | .rangeFunc _ _ _ _,l,H,nx,iv,w,Q',h,_,O,a,J,sat,Q,hQ=>h.elim
 | .scope _,l,H,nx,iv,w,Q',h,_,O,a,J,sat,Q,hQ=>h.elim
 | .label _,l,H,nx,iv,w,Q',h,_,O,a,J,sat,Q,hQ=>h.elim
 | .goto _,l,H,nx,iv,w,Q',h,_,O,a,J,sat,Q,hQ=>h.elim
 | .refuse _,l,H,nx,iv,w,Q',h,_,O,a,J,sat,Q,hQ=>h.elim
def fu:Nat->List Value->Env
 |_,[]=>[]
 |k,v::r=>(k,.o (.v v))::fu (k+1) r
theorem ua:∀(vs:List Value) (k t:Nat) (v:SV),fZ (fu k vs) t=some v->k<=t/\∃x,v= .o (.v x)/\vs[t-k]? =some x
 |[],k,t,v,h=>by simp[fu,fZ]at h
 |x::r,k,t,v,h=>by
  rw[fu,fE]at h;split at h
  .rename_i e;subst e;injection h with h;subst h;exact⟨aq _,x,rfl,ce⟩
  .obtain⟨Y,y,I,h3⟩:=ua r (k+1) t v h;refine⟨be,y,I,?_⟩;rw[show t-k=(t-(k+1))+1 by omega];simpa using h3
def Fo(τ:mo)(B:Nat)(l:Env)(H:Hp)(nx:Nat)(iv:Iv)(w:World):List ResultVar->(List SV->Prop)->Prop
 |[],k=>k []
 | .tmp t::r,k=>match fZ l t with
  |some v=>Fo τ B l H nx iv w r (fun vs=>k (v::vs))
  |none=>False
 | .cell t ty::r,k=>match fZ l t with
  |some v=>zy τ B ty v H nx iv w (fun u=>Fo τ B l H nx iv w r (fun vs=>k (u::vs)))
  |none=>False
def Li(B:Nat)(H:Hp)(nx:Nat)(iv:Iv)(w:World)(F9:Ending->World->Prop):List SV->Prop
 |[v]=>∀O J,Rel H nx iv B w O J->F9 (.returned (v.den O)) J
 |vs=>∀O J,Rel H nx iv B w O J->F9 (.returned (.tuple (qB O vs))) J
def PV(τ:mo)(B:Nat)(rs:List ResultVar)(F9:Ending->World->Prop):Ex->KT
 | .exit _,_,_,_,_,_=>False
 | .normal,l,H,nx,iv,w=>Fo τ B l H nx iv w rs (Li B H nx iv w F9)
 | .ret,l,H,nx,iv,w=>Fo τ B l H nx iv w rs (Li B H nx iv w F9)
def Lj(tmps:Array Value):ResultVar->Sem Value
 | .tmp t=>pure (tmps.getD t undef)
 | .cell c t=>do loadVar t (<-asAddr (tmps.getD c undef))
theorem xR(hτ:fG P τ)(sat:Sat n l H nx iv B w O a J):∀{rs:List ResultVar} {k:List SV->Prop},Fo τ B l H nx iv w rs k->
  ∃vs,k vs/\(rs.mapM (Lj a.tmps)).run P J= .ok (vs.map (SV.den O)) J
 |[],k,h=>⟨[],h,ce⟩
 | .tmp t::r,k,h=>by
  unfold Fo at h;split at h
  .rename_i v hv;obtain⟨vs,Y,I⟩:=xR hτ sat h;have:=sat.env t v hv;exact⟨v::vs,Y,by rw[List.mapM_cons,Sem.run_bind];simp[Lj,this,I]⟩
  .exact h.elim
 | .cell t ty::r,k,h=>by
  unfold Fo at h;split at h
  .rename_i v hv;obtain⟨u,Y,hu,Zm⟩:=nU hτ sat.rel (sat.sc t v hv) h;have Px:=Zm J sat.rel;clear Zm;obtain⟨vs,I,h3⟩:=xR hτ sat Y;have htm:=sat.env t v hv;refine⟨u::vs,I,?_⟩;have:(do loadVar ty (<-asAddr (v.den O)):Sem Value).run P J= .ok (u.den O) J:=by
    revert Px;generalize v.den O=x;intro Px
    cases x with
    |pointer ad=>
     cases ad with
     |some ad=>simpa [asAddr,Instr.loadAt,Instr.sureAddr]using Px
     |none=>simp[Instr.loadAt,Instr.sureAddr]at Px
    |_=>simp[Instr.loadAt,Instr.sureAddr]at Px
   have h4:(Lj a.tmps (.cell t ty)).run P J= .ok (u.den O) J:=by
    have e:a.tmps.getD t undef=v.den O:=by simp[htm]
    show(do loadVar ty (<-asAddr (a.tmps.getD t undef)):Sem Value).run P J=_;rw[e];exact this
   rw[List.mapM_cons,Sem.run_bind,h4];simp[h3]
  .exact h.elim
theorem Fp(hτ:fG P τ){f:FuncId}{fn:Func}{c:Code}{args:Array Value}{w:World}(hf:P.funcs[f]? =some fn)(A:fn.body=some c)
  (U:args.size<=fn.ntmps) (Py:codeOk fn.ntmps c=true) (h:kE P τ w.heap.size c (fu 0 args.toList) [] 0 [] w (PV τ w.heap.size fn.results.toList F9)):Calls P f args w F9:=by
 refine calls_of_wp hf A ?_;have sat:Sat fn.ntmps (fu 0 args.toList) [] 0 [] w.heap.size w (fun _=>⟨0,0,true⟩) {tmps:=args++Array.replicate (fn.ntmps-args.size) undef,defers:=[]} w:=by
  refine⟨Rel.mk' rfl rfl rfl (aq _) (aq _) ce (by simp[dV]) (by simp[dV]) (by simp[dV]) (by simp[dV]) (by simp[dV]) (fun _ _ _=>rfl) ce,by simp;omega,rfl,fun t v hv=>?_,fun t v hv=>?_⟩
  .obtain⟨_,x,rfl,E⟩:=ua _ 0 t v hv;simp only[Nat.sub_zero,ah]at E;rw[Array.getElem?_append_left (bD.1 E).1,E];rfl
  .obtain⟨_,x,rfl,E⟩:=ua _ 0 t v hv;trivial
 refine iz hτ c _ _ _ _ _ _ h Py _ _ _ sat _ fun e l' H' Pr K F F' a' w3 R hs=>?_;have fin:Fo τ w.heap.size l' H' Pr K F fn.results.toList (Li w.heap.size H' Pr K F F9)->a'.defers=[]/\∃v,(results fn a'.tmps).run P w3= .ok v w3/\F9 (.returned v) w3:=by
  intro R;obtain⟨vs,Y,I⟩:=xR hτ hs R;refine⟨hs.defers,if QK:(vs.map (SV.den F')).toArray.size=1 then(vs.map (SV.den F')).toArray[0]else .tuple (vs.map (SV.den F')).toArray,?_,?_⟩
  .have e:(fn.results.mapM (Lj a'.tmps)).run P w3= .ok (vs.map (SV.den F')).toArray w3:=by
    rw[Array.mapM_eq_mapM_toList];simp only[Sem.run_map,I,Result.andThen_ok]
   show(do let vs <-fn.results.mapM (Lj a'.tmps);pure (if h:vs.size=1 then vs[0]else .tuple vs):Sem Value).run P w3=_;rw[Sem.run_bind,e];simp only[Result.andThen_ok,Sem.run_pure]
  .match vs,Y with
   |[v],Y=>simpa using Y F' w3 hs.rel
   |[],Y=>simpa [qB]using Y F' w3 hs.rel
   |v1::v2::r,Y=>simpa [qB]using Y F' w3 hs.rel
 cases e with
 |normal=>exact fin R
 |exit id=>exact R.elim
 |ret=>exact fin R
end
section
variable{P:Program}{ops:Array Oper}{Q:Exit->Act->World->Prop}{md:Region.Mode}
def jA(P:Program)(ops:Array Oper)(pu:Bool)(o:Oper)(v:Value)(a:Act)(w:World):Prop:=
 (Region.wanted o (yielded ops a.tmps)=true/\∀F,(pu=true\/Ext w F)->(execOp a.eval o).run P F= .ok (.value v) F)\/
 (Region.wanted o (yielded ops a.tmps)=false/\v=undef)
theorem Ext.refl(w:World):Ext w w:=RowKit.Below.refl _ _
theorem Ext.trans{a b c:World}(h:Ext a b)(k:Ext b c):Ext a c:=RowKit.Below.trans h (k.mono h.size)
theorem jA.wpOp{i:Nat}{o:Oper}{a:Act}(N:ops[i]? =some o)(hy:jA P ops pu o v a w)
  {Fd:Act->World->Prop} (h:Fd (a.put o.dst v) w):wpOp P ops Q i Fd a w:=by
 unfold Go.wpOp;simp only[N]
 rcases hy with⟨G,hv⟩|⟨G,rfl⟩
 .simp only[G,if_true,Oper.wp,hv w (.inr (Ext.refl w)),Oper.upon];exact .inl h
 .simp only[G,Bool.false_eq_true,if_false];exact h
theorem jA.of_same{o:Oper}{a a':Act}(hy:jA P ops pu o v a w)(L:execOp a'.eval o=execOp a.eval o)
  (G:Region.wanted o (yielded ops a'.tmps)=Region.wanted o (yielded ops a.tmps)):jA P ops pu o v a' w:=by
 unfold jA at*
 rw[L,G];exact hy
theorem jA.ext{o:Oper}{a:Act}(hy:jA P ops pu o v a w)(e:pu=true\/Ext w F):jA P ops pu o v a F:=
 hy.imp (fun ⟨Y,I⟩=>⟨Y,fun w3 h3=>I w3 (by
  rcases h3 with h3|h3
  .exact .inl h3
  .exact e.imp id (fun e=>e.trans h3))⟩) id
theorem KC{oi oj:Oper}{w0:World}(hj:ops[j]? =some oj)(Sr:oi.apart ops oj=true)
  (hsi:∀cs b,oi.op≠ .select cs b) (hsj:∀cs b,oj.op≠ .select cs b)
  (hQ:∀c a w,Q (.panic c) (a.put oi.dst v) w->Q (.panic c) a w) {Fd:Act->World->Prop} {a:Act}
  (hy:jA P ops pu oi v a w0) (h:wpOp P ops Q j Fd (a.put oi.dst v) w):
  wpOp P ops Q j (fun a' J=>jA P ops pu oi v a' w0/\Fd (a'.put oi.dst v) J) a w:=by
 obtain⟨Y,I,h3⟩:=Oper.apart_spec Sr;have cX:∀(a:Act),jA P ops pu oi v a w0->∀u,jA P ops pu oi v (a.put oj.dst u) w0:=fun a hy u=>
  hy.of_same (execOp_put oi hsi a oj.dst u h3) (wanted_put oi a oj.dst u h3)
 have keepD:∀d,jA P ops pu oi v {a with defers:=d::a.defers} w0:=fun d=>hy.of_same rfl rfl;unfold wpOp at*
 simp only[hj]at*
 rw[wanted_put oj a oi.dst v Y]at h;split
 .rename_i G;simp only[G,if_true]at h;rcases h with h|⟨VZ,Xm⟩
  case inr=>exact .inr ⟨by unfold Oper.asks at *;rw[execOp_put oj hsj a oi.dst v Y]at VZ;exact VZ,Xm⟩
  refine .inl ?_;unfold Oper.wp at*
  rw[execOp_put oj hsj a oi.dst v Y]at h;generalize (execOp a.eval oj).run P w=r at*
  cases r with
  |ok n J=>
   cases n<;>simp only[Oper.upon]at h ⊢
   case value u=>exact⟨cX a hy u,by rw[<-Act.put_comm a v u I];exact h⟩
   case skip=>exact⟨cX a hy _,by rw[<-Act.put_comm a v undef I];exact h⟩
   case defer d=>
    refine⟨cX _ (keepD d) _,?_⟩;rw[<-Act.put_comm _ v undef I,<-Act.put_defers];exact h
   case enter f args=>
    refine Calls.mono h fun e w'' L=>?_
    cases e with
    |returned u=>exact⟨cX a hy u,by rw[<-Act.put_comm a v u I];exact L⟩
    |panicked c=>exact hQ _ _ _ L
    |outgrown=>exact L
   case row row args=>exact Rows.mono h fun u w'' L=>⟨cX a hy u,by rw[<-Act.put_comm a v u I];exact L⟩
  |halt x J=>
   cases x<;>simp only[Oper.upon]at h ⊢
   case panic u=>exact hQ _ _ _ h
 .rename_i G;simp only[G]at h;exact⟨cX a hy _,by rw[<-Act.put_comm a v undef I];exact h⟩
def rI(o:Oper):Bool:= !(mM o.op||Cw o.op||(match o.op with
 | .call ⟨.value _,_,_⟩=> !(Nat.beq o.type 0)
 |_=>false))
def fT(o:Oper):Bool:=match o.op with
 | .call ⟨.value _,_,_⟩=>Nat.beq o.type 0
 |_=>false
theorem nP{o:Oper}(h:mM o.op=true):fT o=false:=by
 unfold fT;split
 .rename_i e;rw[e]at h
  cases h
 .rfl
theorem H5{o:Oper}(h:Cw o.op=true):fT o=false:=by
 unfold fT;split
 .rename_i e;rw[e]at h
  cases h
 .rfl
theorem od{o:Oper}(h:rI o=false):fT o=false:=by
 unfold fT;split
 .rename_i e;simp only[rI,e,mM,Cw,Bool.false_or,Bool.not_not]at h;exact h
 .rfl
def uW(P:Program)(md:Region.Mode)(ops:Array Oper)(Q:Exit->Act->World->Prop):Nat->Array Bool->Act->World->Prop
 |0,listed,a,w=>Region.ready md ops listed=[]/\Q .normal a w
 |fuel+1,listed,a,w=>
  (Region.ready md ops listed=[]->Q .normal a w)/\
  ∀i∈Region.ready md ops listed,wpOp P ops Q i (fun a' J=>((∀o,ops[i]? =some o->rI o=false)->Ext w J)/\uW P md ops Q fuel (listed.setIfInBounds i true) a' J) a w
theorem uY:∀(fuel:Nat) (listed:Array Bool) (a:Act) (w:World),uW P md ops Q fuel listed a w->wpAny P md ops Q fuel listed a w
 |0,_,_,_,h=>h
 |fuel+1,_,_,_,h=>⟨h.1,fun i N=>wpOp_mono (fun a' J h'=>uY fuel _ a' J h'.2) (h.2 i N)⟩
theorem mq{i:Nat}{oi:Oper}(N:ops[i]? =some oi)(QB:∀(j:Nat) (o:Oper) cs b,ops[j]? =some o->o.op≠ .select cs b)
  (hQ:∀c a w,Q (.panic c) (a.put oi.dst v) w->Q (.panic c) a w) (kz:Nat->Prop) (RA:∀j,kz j->∃oj e,ops[j]? =some oj/\e∈oj.after/\Region.binds md e=true/\(e.on=i\/kz e.on)):
  ∀(fuel:Nat) (listed:Array Bool) (a:Act) (w:World),(∀j,kz j->listed.getD j false=false)->
   (∀j oj,ops[j]? =some oj->j≠i->listed.getD j true=false->¬kz j->oi.apart ops oj=true/\(pu=true\/rI oj=false))->
   i∈Region.ready md ops listed->jA P ops pu oi v a w->
   uW P md ops Q fuel (listed.setIfInBounds i true) (a.put oi.dst v) w->uW P md ops Q (fuel+1) listed a w:=by
 intro fuel
 induction fuel with
 |zero=>
  intro listed a w _ _ hr hy H;refine⟨fun h=>(by rw[h]at hr;cases hr),fun j hj=>?_⟩;by_cases Q1:j=i
  .subst Q1;exact hy.wpOp N ⟨fun _=>Ext.refl w,H⟩
  .have:=ready_mono hj Q1;rw[H.1]at this
   cases this
 |succ fuel ih=>
  intro listed a w Pw SC hr hy H;refine⟨fun h=>(by rw[h]at hr;cases hr),fun j hj=>?_⟩;by_cases Q1:j=i
  .subst Q1;exact hy.wpOp N ⟨fun _=>Ext.refl w,H⟩
  .have Y:=H.2 j (ready_mono hj Q1);obtain⟨Xn,oj,Ry,Qw⟩:=mem_ready.1 hj;have Qk:¬kz j:=fun A=>by
    obtain⟨oj',e,Uf,L,Wo,XT⟩:=RA j A;rw[Ry]at Uf;injection Uf with Uf;subst Uf;have Y:=Qw e L Wo;rcases XT with heq|Q2
    .have h0:=(mem_ready.1 hr).1;rw[heq]at Y;rcases aW i listed.size with h'|h'
     .simp[h']at h0 Y;rw[h0]at Y;cases Y
     .simp[Array.getElem?_eq_none h']at Y
    .rw[Pw _ Q2]at Y;cases Y
   have hfj:=SC j oj Ry Q1 Xn Qk;have I:=KC Ry hfj.1 (fun cs b=>QB i oi cs b N) (fun cs b=>QB j oj cs b Ry) hQ hy Y;have hbl':∀k,kz k->(listed.setIfInBounds j true).getD k false=false:=fun k R=>by
    rw[getD_set_ne false (fun e=>(by subst e;exact Qk R))];exact Pw k R
   have WA:∀k ok,ops[k]? =some ok->k≠i->(listed.setIfInBounds j true).getD k true=false->
     ¬kz k->oi.apart ops ok=true/\(pu=true\/rI ok=false):=fun k ok R Va WS Ta=>by
    refine SC k ok R Va ?_ Ta;by_cases VK:j=k
    .subst VK;exact Xn
    .rw[getD_set_ne true VK]at WS;exact WS
   refine wpOp_mono (fun a' J h3=>?_) I;have Uv:rI oj=false->Ext w J:=fun hf=>h3.2.1 (fun o ho=>by rw[Ry]at ho;injection ho with ho;subst ho;exact hf);refine⟨fun hh=>Uv (hh oj Ry),ih (listed.setIfInBounds j true) a' J hbl' WA (ready_mono hr (Ne.symm Q1)) (h3.1.ext (hfj.2.imp id Uv)) ?_⟩;rw[Array.setIfInBounds_comm _ _ Q1];exact h3.2.2
end
section
variable{P:Program}{τ:mo}{B n nx:Nat}{l:Env}{H:Hp}{iv:Iv}{w J:World}{O:Nat->eH}{a:Act}
def AL(P:Program)(o:Oper)(a:Act)(mk:Nat->Value)(obj:Obj):Prop:=
 ∀w:World,(execOp a.eval o).run P w= .ok (.value (mk w.heap.size)) (w.alloc obj)
theorem AL.uniq{o:Oper}{mk':Nat->Value}{obj':Obj}(h:AL P o a mk obj)(h':AL P o a mk' obj'):obj=obj'/\mk=mk':=by
 have key:∀w:World,mk w.heap.size=mk' w.heap.size/\w.alloc obj=w.alloc obj':=fun w=>by
  have:=(h w).symm.trans (h' w);injection this with Y I;injection Y with Y;exact⟨Y,I⟩
 refine⟨?_,funext fun g=>?_⟩
 .have:=(key default).2;have I:=congrArg (fun w:World=>w.heap[(default:World).heap.size]?) this;simp only[heap_alloc_new]at I;injection I
 .have:=(key {(default:World)with heap:=Array.replicate g default}).1;simpa using this
theorem lF(hτ:fG P τ){o:Oper}(h:zl dr P τ B o l H nx iv w Fd)(sat:Sat n l H nx iv B w O a J)(R:Cw o.op=true):
  ∃b v mk obj,Fd v ((nx,b)::H) (nx+1) iv w/\b≠ .dead/\b.scopd nx/\v.sc (nx+1)/\(∀g,v.den (jG O nx ⟨g,0,false⟩)=mk g)/\(∀g F,F.heap[g]? =some obj->b.fits O ⟨g,0,false⟩ F)/\AL P o a mk obj:=by
 obtain⟨dst,op,ty,pos,after,guard⟩:=o;unfold zl at h;split at h<;>first|(exact False.elim h)|(rename_i WT;simp only at WT;subst WT)
 all_goals first|(exact absurd R Bool.false_ne_true)|skip
 .rename_i t;split at h
  .rename_i sz ag by_ ze tag ik e al fs Rs;have hK:=fy h;refine⟨_,_,fun g=>.pointer (some ⟨g,0,none⟩),.cells ze.toArray t,hK,ce,(fun c hc=>by obtain⟨v,_,rfl⟩:=bE.1 hc;trivial),by simp[SV.sc,At.sc],fun g=>by simp[SV.den,At.den],fun g F V=>⟨rfl,by rw[fx];exact V⟩,fun w=>?_⟩;obtain⟨z,Uz,Ro⟩:=(hτ t _ Rs).zeroV w;simp only at Ro;have hzz:z.cells=ze.toArray:=by apply Array.ext';simpa using Ro
   simp[execOp,Instr.alloc,Uz,newVar,newRow,hzz]
  .exact h.elim
 .rename_i t x;obtain⟨v,Y,hv,hs⟩:=dy sat h;obtain⟨cs,hK,Q8,UP⟩:=oI Y;refine⟨_,_,fun g=>.pointer (some ⟨g,0,none⟩),.cells (cs.map (At.den O)).toArray t,hK,ce,UP nx hs,by simp[SV.sc,At.sc],fun g=>by simp[SV.den,At.den],fun g F V=>⟨rfl,V⟩,fun w=>?_⟩;simp[execOp,Instr.box,hv,newVar,newRow,Q8 O]
 .rename_i t m parts;split at h
  .rename_i sz ag by_ ze tag ik e al fs Rs;have ht:=hτ t _ Rs;split at h
   .rename_i QS;have hu:=ht.i4 (ee QS);simp only at hu;split at h
    .rename_i sz' ag' by' ze' tag' ik' e' al' fs' Qn
     have Qn:=hτ e _ Qn;obtain⟨inf,z,N,QK,QR,hz,SD⟩:=Qn.info;have Su:=Qn.Fa;simp only at QK QR SD Su;split at h
     .rename_i hle;have hle:=Nat.le_of_ble_eq_true hle;have h0:=fy h;obtain⟨cs',hK,Q4,hlen,RV⟩:=lj sat (placeF:=fun i=>some (i*inf.size,inf.size)) (fun i k R=>⟨i*sz',sz',R,by rw[QK]⟩) h0
       (fun c hc=>by obtain⟨v,_,rfl⟩:=bE.1 hc;trivial)
      rw[fx]at RV;have TD:z.cells=ze'.toArray:=by apply Array.ext';simpa using SD
      have Xk:((List.replicate m ze').flatten).toArray=madeCells z.cells (m*inf.size):=by
       rw[TD,QK,<-Su];exact(tR ze' m).symm
      refine⟨_,_,fun g=>.slice (some ⟨g,0,none⟩) m m,.cells (cs'.map (At.den O)).toArray e,hK,ce,Q4,by simp[SV.sc,At.sc],fun g=>by simp[SV.den,At.den],fun g F V=>⟨rfl,V⟩,fun w=>?_⟩;simp only[execOp]
      refine mX ?_;rw[Xk]at RV;by_cases QU:m*inf.size=0
      .have Tw:Instr.fill (fun i=>some (i*inf.size,inf.size)) (madeCells z.cells 0) (parts.toList.map fun p=>(p.1,a.eval p.2))=some (cs'.map (At.den O)).toArray:=by rw[QU]at RV;exact RV
       have e0:madeCells z.cells 0= #[]:=by simp[madeCells]
       rw[e0]at Tw;have er:Array.range 0= #[]:=rfl;simp[Instr.buildSlice,run_underlying hu,sizeOf,typeInfo,zeroValue,N,hz,QU,newRow,Tw,er]
      .exact run_buildSlice w t e m _ _ inf z hu N hz (by rw[QK];omega) QU (by rw[<-RV];simp[madeCells])
     .exact h.elim
    .exact h.elim
   .exact h.elim
  .exact h.elim
 .rename_i t x y;obtain⟨v,Y,hv,R1⟩:=dy sat h;obtain⟨u,I,hu,hus⟩:=dy sat Y;clear R1 hus;unfold Iu at I;split at I
  .rename_i k1 a1 k2 b1;split at I
   .rename_i sz ag by_ ze tag ik e al fs Rs;have ht:=hτ t _ Rs;split at I
    .rename_i QS;have hut:=ht.i4 (ee QS);simp only at hut;split at I
     .rename_i sz' ag' by' ze' tag' ik' e' al' fs' Qn
      have Qn:=hτ e _ Qn;obtain⟨inf,z,N,QK,QR,hz,SD⟩:=Qn.info;simp only at QK QR SD;obtain⟨m,c,rfl,rfl,SR,hbytes,h63,h3⟩:=I;have S3:(inf.bytes:Int)*(c:Int)<=281474976710656:=by
       rw[QR];have Q2:((by'*c:Nat):Int)<=281474976710656:=by omega
       rwa [Int.natCast_mul]at Q2
      have Px:=fun w:World=>run_make (P:=P) w t e inf z hut N hz k1 k2 (m:Int) (c:Int) be be S3 be;simp only[aK]at Px;have Su:=Qn.Fa;simp only at Su;have TD:z.cells=ze'.toArray:=by apply Array.ext';simpa using SD
      have fin:∀cs:List Value,cs.toArray=madeCells z.cells (c*inf.size)->CQ (.arr e cs) H nx (fun H' Pr=>Fd (.o (.s nx 0 m c)) H' Pr iv w)->
        ∃b v mk obj,Fd v ((nx,b)::H) (nx+1) iv w/\b≠ .dead/\b.scopd nx/\v.sc (nx+1)/\(∀g,v.den (jG O nx ⟨g,0,false⟩)=mk g)/\(∀g F,F.heap[g]? =some obj->b.fits O ⟨g,0,false⟩ F)/\
         AL P ⟨dst,.makeSlice t x y,ty,pos,after,guard⟩ a mk obj:=by
       intro cs Q4 hK;refine⟨_,_,fun g=>.slice (some ⟨g,0,none⟩) m c,.cells cs.toArray e,hK,ce,trivial,by simp[SV.sc,At.sc],fun g=>by simp[SV.den,At.den],fun g F V=>⟨rfl,V⟩,fun w=>?_⟩;simp only[execOp,hv,hu]
       refine mX ?_;rw[show SV.den O (.o (.v (.int k1 m)))= .int k1 m from rfl,show SV.den O (.o (.v (.int k2 c)))= .int k2 c from rfl,Px w,Q4]
      split at h3
      .rename_i z0;refine fin _ ?_ h3;have:inf.size=1:=by rw[QK,<-Su];rfl
       rw[this,av,TD,Fm]
      .refine fin _ ?_ h3;rw[QK,<-Su,TD,tR]
     .exact I.elim
    .exact I.elim
   .exact I.elim
  .exact I.elim
end
inductive It where
 |x (i:Nat)
 |p (i:Nat)
def FN:Env->Nat->(Env->Prop)->Prop
 |[],_,k=>k []
 |(t,v)::r,u,k=>match Nat.beq t u with
  |true=>FN r u k
  |false=>FN r u (fun r'=>k ((t,v)::r'))
def aBS(d:Option Tmp)(l:Env)(k:Env->Prop):Prop:=match d with
 |some t=>FN l t k
 |none=>k l
def lg:List Oper->Nat->(Oper->Prop)->Prop
 |[],_,_=>False
 |o::_,0,k=>k o
 |_::r,n+1,k=>lg r n k
def Jm(P:Program)(τ:mo)(B:Nat)(all:List Oper):List It->Env->Hp->Nat->Iv->World->KT->Prop
 |[],l,H,nx,iv,w,Fd=>Fd l H nx iv w
 | .x i::r,l,H,nx,iv,w,Fd=>lg all i (fun o=>fA (!fT o) P τ B all o l H nx iv w (fun l' H' Pr K J=>Jm P τ B all r l' H' Pr K J Fd))
 | .p i::r,l,H,nx,iv,w,Fd=>lg all i (fun o=>zl true P τ B o l H nx iv w (fun _ _ _ _ _=>aBS o.dst l (fun l'=>Jm P τ B all r l' H nx iv w Fd)))
def Jn(ops:Array Oper)(o:Oper)(j:Nat):Bool:=match ops[j]? with
 |some oj=>o.apart ops oj
 |none=>false
def FO(la:Array Bool):List Nat->Array Bool
 |[]=>la
 |i::r=>FO (la.setIfInBounds i true) r
def tb(m j:Nat):Bool:=Nat.beq ((m >>> j) % 2) 1
def iU:List Bool->Nat->Nat
 |[],_=>0
 |true::r,j=>(1 <<< j) ||| iU r (j+1)
 |false::r,j=>iU r (j+1)
def zm(m i:Nat):List Oper->Nat->Nat->Nat
 |[],_,b=>b
 |o::r,j,b=>match(!tb m j&& !Nat.beq j i)&&o.after.toList.any (fun e=>Region.binds .any e&&(Nat.beq e.on i||tb b e.on))with
  |true=>zm m i r (j+1) (b ||| (1 <<< j))
  |false=>zm m i r (j+1) b
def Iq(ops:Array Oper)(m i:Nat)(oi:Oper)(b:Nat):List Oper->Nat->Bool
 |[],_=>true
 |oj::r,j=>(Nat.beq j i||tb m j||tb b j||(oi.apart ops oj&&(HU oi.op|| !rI oj)))&&Iq ops m i oi b r (j+1)
def Oo(ops:Array Oper)(m:Nat)(Pd:List Nat)(i:Nat)(oi:Oper)(b:Nat):Bool:=Pd.all (fun j=> !tb b j)&&Iq ops m i oi b ops.toList 0
def FP(ops:Array Oper)(m:Nat)(Pd:List Nat)(i:Nat)(oi:Oper):Bool:=Oo ops m Pd i oi (zm m i ops.toList 0 0)
def rX(ops:Array Oper):List It->Array Bool->List Nat->Bool
 |[],lx,Pd=>(Region.ready .any ops lx).isEmpty&&Pd.isEmpty
 | .p i::r,lx,Pd=>match ops[i]? with
  |none=>false
  |some o=>Cw o.op&&o.guard.isNone&&(match o.dst with
     |some d=> !(o.looksAt ops).contains d
     |none=>false)&&(!lx.getD i true)&&Pd.all (fun j=> !Nat.beq j i)&&
    Pd.all (fun j=>Jn ops o j&&(match ops[j]? with
     |some oj=>oj.apart ops o
     |none=>false))&&rX ops r lx (i::Pd)
 | .x i::r,lx,Pd=>match ops[i]? with
  |none=>false
  |some o=>(o.guard.isNone||Pd.isEmpty)&&(Region.ready .any ops lx).contains i&&
    Pd.all (fun j=>Nat.beq j i||Jn ops o j)&&
    (match mM o.op with
     |true=>FP ops (iU lx.toList 0) Pd i o
     |false=>(!rI o||Pd.isEmpty)&&(Region.ready .any ops (FO lx (Pd.filter fun j=> !Nat.beq j i))).all (fun j=>Nat.beq j i))&&
    rX ops r (lx.setIfInBounds i true) (Pd.filter fun j=> !Nat.beq j i)
theorem lD(h:j<la.size)(b c:Bool):la.getD j b=la.getD j c:=by
 rw[bG,bG,Array.getElem?_eq_getElem h];rfl
theorem pF{a b:Nat}:Nat.beq a b=false↔a≠b:=⟨fun h e=>(by subst e;rw[Nat.beq_refl]at h;cases h),fun h=>by
 cases A:Nat.beq a b with
 |false=>rfl
 |true=>exact absurd (ee A) h⟩
theorem LW{a b:Nat}(h:b<a):Nat.ble a b=false:=by
 cases A:Nat.ble a b with
 |false=>rfl
 |true=>exact absurd (Nat.le_of_ble_eq_true A) be
theorem uU(m j:Nat):tb m j=m.testBit j:=by
 rw[Nat.testBit_eq_decide_div_mod_eq,tb,Nat.shiftRight_eq_div_pow]
 cases h:decide (m / 2^j % 2=1)with
 |true=>rw[aJ h];rfl
 |false=>exact pF.2 (aL h)
theorem FQ(a b j:Nat):tb (a ||| b) j=(tb a j||tb b j):=by rw[uU,uU,uU,Nat.testBit_or]
theorem H3(i j:Nat):tb (1 <<< i) j=Nat.beq j i:=by
 rw[uU,Nat.one_shiftLeft,Nat.testBit_two_pow]
 cases h:Nat.beq j i with
 |true=>exact bg (ee h).symm
 |false=>exact bI fun e=>(pF.1 h) e.symm
theorem pz(j:Nat):tb 0 j=false:=by rw[uU,Nat.zero_testBit]
theorem FR:∀(l:List Bool) (k j:Nat),tb (iU l k) j=(Nat.ble k j&&l.getD (j-k) false)
 |[],k,j=>by unfold iU;rw[pz];simp
 |b::r,k,j=>by
  have e:tb (iU (b::r) k) j=((b&&Nat.beq j k)||tb (iU r (k+1)) j):=by
   cases b<;>simp only[iU,FQ,H3,Bool.false_and,Bool.true_and,Bool.false_or]
  rw[e,FR r (k+1) j];rcases cP j k with h|h|h
  .rw[pF.2 be,Bool.and_false,Bool.false_or,LW be,LW be];rfl
  .subst h;rw[Nat.beq_refl,LW be,Nat.ble_eq_true_of_le (aq j),bY];simp
  .rw[pF.2 be,Bool.and_false,Bool.false_or,Nat.ble_eq_true_of_le (show k+1<=j from h),Nat.ble_eq_true_of_le (Nat.le_of_lt h),show j-k=(j-(k+1))+1 by omega,List.getD_cons_succ]
def Rm(lx:Array Bool)(m:Nat):Prop:=∀j,tb m j=lx.getD j false
theorem tN(lx:Array Bool):Rm lx (iU lx.toList 0):=fun j=>by
 rw[FR,show Nat.ble 0 j=true from Nat.ble_eq_true_of_le (ae j),Bool.true_and,Nat.sub_zero,bG,List.getD,ah]
theorem Rm.eq{m':Nat}(h:Rm lx m)(h':Rm lx m'):m=m':=Nat.eq_of_testBit_eq fun j=>by rw[<-uU,<-uU,h,h']
theorem lE{ops:Array Oper}{m i:Nat}:∀(l:List Oper) (k b:Nat),(∀n o,l[n]? =some o->ops[k+n]? =some o)->
  (∀j,tb b j=true->tb m j=false/\j≠i/\∃oj e,ops[j]? =some oj/\e∈oj.after/\Region.binds .any e=true/\(e.on=i\/∃b2,tb b2 e.on=true/\b2=b))->
  ∀j,tb (zm m i l k b) j=true->tb m j=false/\j≠i/\∃oj e,ops[j]? =some oj/\e∈oj.after/\Region.binds .any e=true/\(e.on=i\/tb (zm m i l k b) e.on=true)
 |[],k,b,_,h,j,hj=>by
  obtain⟨Y,I,oj,e,h3,h4,h5,h6⟩:=h j hj;exact⟨Y,I,oj,e,h3,h4,h5,h6.imp id fun⟨_,h7,h8⟩=>h8▸h7⟩
 |o::r,k,b,hl,h,j,hj=>by
  have hr:∀n o',r[n]? =some o'->ops[k+1+n]? =some o':=fun n o' U=>by
   have:=hl (n+1) o' (by simpa using U)
   rwa [show k+(n+1)=k+1+n by omega]at this
  unfold zm at hj ⊢
  cases hc:((!tb m k&& !Nat.beq k i)&&o.after.toList.any (fun e=>Region.binds .any e&&(Nat.beq e.on i||tb b e.on)))with
  |false=>
   rw[hc]at hj;exact lE r (k+1) b hr h j hj
  |true=>
   rw[hc]at hj;refine lE r (k+1) (b ||| (1 <<< k)) hr (fun j hj=>?_) j hj;rw[FQ,H3,Bool.or_eq_true]at hj;rcases hj with hj|hj
   .obtain⟨Y,I,oj,e,h3,h4,h5,h6⟩:=h j hj;refine⟨Y,I,oj,e,h3,h4,h5,h6.imp id fun⟨b2,h7,h8⟩=>⟨_,?_,rfl⟩⟩;rw[FQ,<-h8,h7];rfl
   .have hj:=ee hj;subst hj;simp only[bF,Bool.not_eq_true',List.any_eq_true]at hc;obtain⟨⟨Y,I⟩,e,L,h3,h4⟩:=hc;refine⟨Y,pF.1 I,o,e,by have:=hl 0 o ce;simpa using this,by simpa using L,h3,?_⟩;rw[Bool.or_eq_true]at h4;exact h4.imp ee fun h5=>⟨_,by rw[FQ,h5];rfl,rfl⟩
theorem zn{ops:Array Oper}{m i:Nat}{oi:Oper}{b:Nat}:∀(l:List Oper) (k:Nat),Iq ops m i oi b l k=true->∀n oj,l[n]? =some oj->k+n≠i->tb m (k+n)=false->tb b (k+n)=false->oi.apart ops oj=true/\(HU oi.op=true\/rI oj=false)
 |[],_,_,n,oj,U,_,_,_=>by simp at U
 |o::r,k,h,n,oj,U,Y,I,h3=>by
  unfold Iq at h;rw[bF]at h
  cases n with
  |zero=>
   rw[List.getElem?_cons_zero]at U;injection U with U;subst U;rw[cN]at Y I h3;rw[pF.2 Y,I,h3]at h;simpa using h.1
  |succ n=>
   rw[List.getElem?_cons_succ]at U;rw[show k+(n+1)=k+1+n by omega]at Y I h3;exact zn r (k+1) h.2 n oj U Y I h3
theorem zo{ops:Array Oper}{i:Nat}{oi:Oper}(h:FP ops (iU lx.toList 0) Pd i oi=true)(hs:lx.size=ops.size):∃kz:Nat->Prop,
  (∀j,kz j->∃oj e,ops[j]? =some oj/\e∈oj.after/\Region.binds .any e=true/\(e.on=i\/kz e.on))/\(∀j,kz j->lx.getD j false=false)/\(∀j∈Pd,¬kz j)/\
  ∀j oj,ops[j]? =some oj->j≠i->lx.getD j true=false->¬kz j->oi.apart ops oj=true/\(HU oi.op=true\/rI oj=false):=by
 unfold FP Oo at h;rw[bF]at h;have hm:=tN lx;have A:=lE (ops:=ops) (m:=iU lx.toList 0) (i:=i) ops.toList 0 0 (fun n o U=>by rw[aS];rwa [ah]at U) (fun j hj=>by rw[pz]at hj;cases hj);generalize zm (iU lx.toList 0) i ops.toList 0 0=b at*
 refine⟨fun j=>tb b j=true,fun j hj=>(A j hj).2.2,fun j hj=>(hm j).symm.trans (A j hj).1,fun j hj R=>?_,fun j oj Ry Q1 hl R=>?_⟩
 .have:=cD.1 h.1 j hj;rw[R]at this;cases this
 .have hj:=(bD.1 Ry).1;exact zn ops.toList 0 h.2 j oj (by rw[ah];exact Ry) be (by rw[aS,hm,lD be false true];exact hl) (by rw[aS];simpa using R)
def FT(m:Nat):List Oper->Nat->List Nat
 |[],_=>[]
 |o::r,j=>match !tb m j&&o.after.toList.all (fun e=> !Region.binds .any e||tb m e.on)with
  |true=>j::FT m r (j+1)
  |false=>FT m r (j+1)
def sm(n m i:Nat):Nat:=match Nat.blt i n with
 |true=>m ||| (1 <<< i)
 |false=>m
def lsm(n:Nat)(m:Nat):List Nat->Nat
 |[]=>m
 |i::r=>lsm n (sm n m i) r
def FU(ops:Array Oper)(n:Nat):List It->Nat->List Nat->Bool
 |[],m,Pd=>(FT m ops.toList 0).isEmpty&&Pd.isEmpty
 | .p i::r,m,Pd=>match ops[i]? with
  |none=>false
  |some o=>Cw o.op&&o.guard.isNone&&(match o.dst with
     |some d=> !(o.looksAt ops).contains d
     |none=>false)&&(Nat.blt i n&& !tb m i)&&Pd.all (fun j=> !Nat.beq j i)&&
    Pd.all (fun j=>Jn ops o j&&(match ops[j]? with
     |some oj=>oj.apart ops o
     |none=>false))&&FU ops n r m (i::Pd)
 | .x i::r,m,Pd=>match ops[i]? with
  |none=>false
  |some o=>(o.guard.isNone||Pd.isEmpty)&&(FT m ops.toList 0).contains i&&
    Pd.all (fun j=>Nat.beq j i||Jn ops o j)&&
    (match mM o.op with
     |true=>FP ops m Pd i o
     |false=>(!rI o||Pd.isEmpty)&&(FT (lsm n m (Pd.filter fun j=> !Nat.beq j i)) ops.toList 0).all (fun j=>Nat.beq j i))&&
    FU ops n r (sm n m i) (Pd.filter fun j=> !Nat.beq j i)
theorem Ir{ops:Array Oper}{lx:Array Bool}{m:Nat}(hR:Rm lx m)(hs:lx.size=ops.size):∀(l:List Oper) (k:Nat),(∀n,n<l.length->ops[k+n]? =l[n]?)->k+l.length<=ops.size->
  FT m l k=(List.range' k l.length).filter fun i=> !lx.getD i true&&((ops[i]?).map (·.after.all fun e=> !Region.binds .any e||lx.getD e.on false)).getD false
 |[],_,_,_=>rfl
 |o::r,k,h,R=>by
  rw[bm]at R
  have ih:=Ir hR hs r (k+1) (fun n U=>by
   have:=h (n+1) (by simpa using U)
   rw[show k+1+n=k+(n+1) by omega,this,List.getElem?_cons_succ]) be
  have h0:ops[k]? =some o:=by have:=h 0 ce;simpa using this
  rw[bm,List.range'_succ,List.filter_cons,<-ih];have e:(!lx.getD k true&&((ops[k]?).map (·.after.all fun e=> !Region.binds .any e||lx.getD e.on false)).getD false)=(!tb m k&&o.after.toList.all fun e=> !Region.binds .any e||tb m e.on):=by
   rw[h0,hR k,lD be true false,bU,Option.getD_some,Array.all_toList];simp only[hR _]
  rw[e,FT]
  cases (!tb m k&&o.after.toList.all fun e=> !Region.binds .any e||tb m e.on)<;>rfl
theorem H4{ops:Array Oper}(hR:Rm lx m)(hs:lx.size=ops.size):FT m ops.toList 0=Region.ready .any ops lx:=by
 rw[Ir hR hs ops.toList 0 (fun n _=>by rw[aS,ah]) ce];unfold Region.ready;rw[List.range_eq_range',Array.length_toList]
theorem Rm.set(hR:Rm lx m)(i:Nat):Rm (lx.setIfInBounds i true) (sm lx.size m i):=fun j=>by
 unfold sm;rw[bG,Array.getElem?_setIfInBounds]
 cases h:Nat.blt i lx.size with
 |true=>
  have h:=Nat.le_of_ble_eq_true h;show tb (m ||| (1 <<< i)) j=_;rw[FQ,H3];by_cases R0:i=j
  .rw[aM R0,aM be,R0,Nat.beq_refl,Bool.or_true];rfl
  .rw[aI R0,pF.2 (Ne.symm R0),Bool.or_false,hR,bG]
 |false=>
  show tb m j=_;have h:¬i<lx.size:=fun I=>by rw[show Nat.blt i lx.size=true from Nat.ble_eq_true_of_le I]at h;cases h
  by_cases R0:i=j
  .rw[aM R0,aI h,hR,bG,<-R0,Array.getElem?_eq_none be]
  .rw[aI R0,hR,bG]
theorem LX:∀(r:List Nat) (lx:Array Bool),(FO lx r).size=lx.size
 |[],_=>rfl
 |i::r,lx=>by unfold FO;rw[LX r,bO]
theorem Rm.FO{n:Nat}:∀(r:List Nat) (lx:Array Bool) (m:Nat),lx.size=n->Rm lx m->Rm (FO lx r) (lsm n m r)
 |[],_,_,_,h=>h
 |i::r,lx,m,U,h=>by
  unfold Go.Sx.FO lsm;exact Rm.FO r _ _ (by rw[bO];exact U) (U▸h.set i)
theorem EA{ops:Array Oper}:∀(π:List It) (lx:Array Bool) (m:Nat) (Pd:List Nat),lx.size=ops.size->Rm lx m->FU ops ops.size π m Pd=rX ops π lx Pd
 |[],lx,m,Pd,hs,h=>by unfold FU rX;rw[H4 h hs]
 | .p i::r,lx,m,Pd,hs,h=>by
  unfold FU rX
  cases ho:ops[i]? with
  |none=>rfl
  |some o=>
   have N:=(bD.1 ho).1;simp only[EA r lx m (i::Pd) hs h,h i,lD (show i<lx.size by omega) true false,show Nat.blt i ops.size=true from Nat.ble_eq_true_of_le N,Bool.true_and]
 | .x i::r,lx,m,Pd,hs,h=>by
  unfold FU rX
  cases ho:ops[i]? with
  |none=>rfl
  |some o=>
   obtain rfl:=h.eq (tN lx);have Y:=EA r (lx.setIfInBounds i true) (sm ops.size (iU lx.toList 0) i) (Pd.filter fun j=> !Nat.beq j i) (by rw[bO];exact hs) (hs▸h.set i);have I:=H4 (Rm.FO (n:=ops.size) (Pd.filter fun j=> !Nat.beq j i) lx (iU lx.toList 0) hs h) (by rw[LX];exact hs);simp only[Y,I,H4 h hs]
theorem eE{ops:Array Oper}:j∈Region.ready .any ops la↔
  la[j]? =some false/\∃o,ops[j]? =some o/\∀e∈o.after,Region.binds .any e=true->la[e.on]? =some true:=by
 rw[mem_ready];have Y:la.getD j true=false↔la[j]? =some false:=by
  rw[bG]
  cases la[j]? with
  |none=>simp
  |some b=>simp
 have I:∀k,la.getD k false=true↔la[k]? =some true:=fun k=>by
  rw[bG]
  cases la[k]? with
  |none=>simp
  |some b=>simp
 simp only[Y,I]
theorem rY{i:Nat}:(la.setIfInBounds i true)[j]? =some true↔la[j]? =some true\/(j=i/\j<la.size):=by
 rw[Array.getElem?_setIfInBounds];split
 .rename_i h;subst h;by_cases hs:i<la.size
  .simp[hs]
  .simp[hs]
 .rename_i h;simp[Ne.symm h]
theorem FV:∀(Pd:List Nat) (la:Array Bool),(FO la Pd).size=la.size
 |[],_=>rfl
 |i::r,la=>by simp[FO,FV r]
theorem zp:∀(Pd:List Nat) (la:Array Bool) (j:Nat),(FO la Pd)[j]? =some true↔la[j]? =some true\/(j∈Pd/\j<la.size)
 |[],_,_=>by simp[FO]
 |i::r,la,j=>by
  rw[FO,zp r,rY];simp only[bO,List.mem_cons]
  constructor
  .rintro((h|⟨h,hs⟩)|⟨h,hs⟩)
   .exact .inl h
   .exact .inr ⟨.inl h,hs⟩
   .exact .inr ⟨.inr h,hs⟩
  .rintro(h|⟨h|h,hs⟩)
   .exact .inl (.inl h)
   .exact .inl (.inr ⟨h,hs⟩)
   .exact .inr ⟨h,hs⟩
def LY(la:Array Bool):Nat:=la.toList.countP (fun b=> !b)
theorem gH{i:Nat}(h:la[i]? =some false):LY (la.setIfInBounds i true)+1=LY la:=by
 obtain⟨N,L⟩:=bD.1 h;have Rc:i<la.toList.length:=by simpa using N
 have QU:0<la.toList.countP (fun b=> !b):=List.countP_pos_iff.2 ⟨false,by
  have:la[i]∈la:=Array.getElem_mem N;rw[L]at this
  simpa using this,rfl⟩
 unfold LY;rw[Array.toList_setIfInBounds,List.countP_set Rc];simp only[Array.getElem_toList,L]
 simp only[Bool.not_false,if_true,Bool.not_true,Bool.false_eq_true,if_false,cN]
 exact Nat.sub_add_cancel QU
theorem uV:∀{l:Env} {u:Nat} {k:Env->Prop},FN l u k->∃l',k l'/\fZ l' u=none/\∀t v,fZ l' t=some v->t≠u/\fZ l t=some v
 |[],u,k,h=>⟨[],h,rfl,fun t v h=>by cases h⟩
 |(t0,v0)::r,u,k,h=>by
  unfold FN at h;split at h
  .rename_i A;have A:=ee A;obtain⟨l',Y,I,h3⟩:=uV h;refine⟨l',Y,I,fun t v hv=>⟨(h3 t v hv).1,?_⟩⟩;rw[fE,aI (fun e=>(h3 t v hv).1 (e.symm.trans A))];exact(h3 t v hv).2
  .rename_i A;have Po:t0≠u:=fun e=>by subst e;rw[Nat.beq_refl]at A;cases A
   obtain⟨l',Y,I,h3⟩:=uV h;refine⟨_,Y,?_,fun t v hv=>?_⟩
   .rw[fE,aI Po];exact I
   .rw[fE]at hv ⊢;split at hv
    .rename_i e;subst e;exact⟨Po,by simpa using hv⟩
    .rename_i e;rw[aI e];exact h3 t v hv
theorem ew:∀{all:List Oper} {i:Nat} {k:Oper->Prop},lg all i k->∃o,all[i]? =some o/\k o
 |[],_,_,h=>h.elim
 |o::_,0,_,h=>⟨o,rfl,h⟩
 |_::r,n+1,_,h=>by obtain⟨o,Y,I⟩:=ew (all:=r) h;exact⟨o,by simpa using Y,I⟩
section
variable{P:Program}{τ:mo}{ops:Array Oper}{B n nx:Nat}{l:Env}{H:Hp}{iv:Iv}{w J:World}{O:Nat->eH}{a:Act}
structure Nc(P:Program)(ops:Array Oper)(n B:Nat)(Pd:List Nat)(E9:List (Nat×Nat))(lx la:Array Bool)(l:Env)(H:Hp)(nx:Nat)(iv:Iv)(w:World)(O:Nat->eH)(a:Act)(J:World):Prop where
 sat:Sat n l H nx iv B w O a J
 Nd:lx.size=ops.size
 Ni:la.size=ops.size
 la:∀j,la[j]? =some true↔lx[j]? =some true\/∃g,(j,g)∈E9
 Jo:∀j g,(j,g)∈E9->j∈Pd
 pd:∀j∈Pd,lx[j]? =some false/\∃o d mk obj,ops[j]? =some o/\Cw o.op=true/\o.guard=none/\(o.dst=some d/\d∉o.looksAt ops)/\AL P o a mk obj/\fZ l d=none/\
  ∀g,(j,g)∈E9->a.tmps[d]? =some (mk g)/\J.heap[g]? =some obj
 eg:∀j g,(j,g)∈E9->B<=g/\(∀id b,dV H id=some b->(O id).nil=false->(O id).g≠g)/\∀lo N,(lo,N)∈iv->¬(lo<=g/\g<N)
 inj:∀j g j',(j,g)∈E9->(j',g)∈E9->j=j'
 ap:∀j∈Pd,∀j'∈Pd,j≠j'->∀o o',ops[j]? =some o->ops[j']? =some o'->o.apart ops o'=true
theorem LZ{l:Env}{u:Nat}(h:∀t v,fZ l' t=some v->t≠u/\fZ l t=some v){d:Nat}(hd:fZ l d=none):fZ l' d=none:=by
 cases V:fZ l' d with
 |none=>rfl
 |some v=>have:=(h d v V).2;rw[hd]at this;cases this
theorem Oper.Cx{o oj:Oper}(ha:o.apart ops oj=true)(hs:∀cs b,oj.op≠ .select cs b)(h:AL P oj a mk obj):AL P oj (a.put o.dst u) mk obj:=by
 intro w;rw[execOp_put (ops:=ops) oj hs a o.dst u (Go.Oper.apart_spec ha).1];exact h w
theorem qA(Po:d≠some t)(h:a.tmps[t]? =some v):(a.put d u).tmps[t]? =some v:=by
 cases d with
 |none=>exact h
 |some d=>
  have:d≠t:=fun e=>Po (by rw[e]);simpa [Act.put,Array.getElem?_setIfInBounds_ne this]using h
theorem lQ{w:World}(h:w.heap[g]? =some obj):g<w.heap.size:=(bD.1 h).1
theorem Ext.alloc(w:World)(obj:Obj):Ext w (w.alloc obj):=
 ⟨rfl,rfl,rfl,ce,fun k R=>heap_alloc_old _ _ R⟩
variable{Pd:List Nat}{E9:List (Nat×Nat)}{lx la:Array Bool}
theorem Nc.step(s:Nc P ops n B Pd E9 lx la l H nx iv w O a J)(QB:∀(j:Nat) (o:Oper) cs b,ops[j]? =some o->o.op≠ .select cs b){i:Nat}{o:Oper}(_hi:ops[i]? =some o)(Yr:∀g,(i,g)∉E9)
  (Sr:∀j∈Pd,j≠i->∀oj,ops[j]? =some oj->o.apart ops oj=true)
  (sat':Sat n l' H' Pr K B F F' (a.put o.dst u) w3)
  (hl:∀j∈Pd,j≠i->∀d,fZ l d=none->o.dst≠some d->fZ l' d=none) (Uv:∀j∈Pd,j≠i->Ext J w3)
  (heg:∀g,g<J.heap.size->(∀id b,dV H id=some b->(O id).nil=false->(O id).g≠g)->(∀lo N,(lo,N)∈iv->¬(lo<=g/\g<N))->(∃j∈Pd,j≠i)->
   (∀id b,dV H' id=some b->(F' id).nil=false->(F' id).g≠g)/\(∀lo N,(lo,N)∈K->¬(lo<=g/\g<N))):
  Nc P ops n B (Pd.filter fun j=> !Nat.beq j i) E9 (lx.setIfInBounds i true) (la.setIfInBounds i true) l' H' Pr K F F' (a.put o.dst u) w3:=by
 have memf:∀j,j∈(Pd.filter fun j=> !Nat.beq j i)↔j∈Pd/\j≠i:=fun j=>by
  simp only[List.mem_filter,Bool.not_eq_true',pF]
 have hEi:∀j g,(j,g)∈E9->j≠i:=fun j g h e=>Yr g (e▸h);refine⟨sat',by simp[s.Nd],by simp[s.Ni],fun j=>?_,fun j g h=>(memf j).2 ⟨s.Jo j g h,hEi j g h⟩,fun j hj=>?_,fun j g h=>?_,s.inj,fun j hj j' Ys=>s.ap j ((memf j).1 hj).1 j' ((memf j').1 Ys).1⟩
 .rw[rY,rY,s.la,s.Ni,s.Nd];constructor
  .rintro((h|h)|h)
   .exact .inl (.inl h)
   .exact .inr h
   .exact .inl (.inr h)
  .rintro((h|h)|h)
   .exact .inl (.inl h)
   .exact .inr h
   .exact .inl (.inr h)
 .obtain⟨hj,Q1⟩:=(memf j).1 hj;obtain⟨h0,oj,d,mk,obj,Y,I,h3,⟨h4,TT⟩,h5,h6,h7⟩:=s.pd j hj;have hapj:=Sr j hj Q1 oj Y;have Po:o.dst≠some d:=fun e=>(Go.Oper.apart_spec hapj).2.1 d e h4;refine⟨?_,oj,d,mk,obj,Y,I,h3,⟨h4,TT⟩,Oper.Cx hapj (fun cs b=>QB j oj cs b Y) h5,hl j hj Q1 d h6 Po,fun g V=>⟨qA Po (h7 g V).1,?_⟩⟩
  .rw[Array.getElem?_setIfInBounds_ne (Ne.symm Q1)];exact h0
  .rw[(Uv j hj Q1).block g (lQ (h7 g V).2)];exact(h7 g V).2
 .have hj:=s.Jo j g h;obtain⟨h0,oj,d,mk,obj,Y,I,h3,⟨h4,TT⟩,h5,h6,h7⟩:=s.pd j hj;obtain⟨e1,e2,e3⟩:=s.eg j g h;exact⟨e1,heg g (lQ (h7 g h).2) e2 e3 ⟨j,hj,hEi j g h⟩⟩
theorem Nc.early(s:Nc P ops n B Pd E9 lx la l H nx iv w O a J)(Py:∀(j:Nat) o,ops[j]? =some o->∀d,o.dst=some d->d<n)
  (QB:∀(j:Nat) (o:Oper) cs b,ops[j]? =some o->o.op≠ .select cs b) (hj:j∈Pd) (WS:la[j]? =some false) {Fd:Act->World->Prop}
  (h:∀E' a2 F,Ext J F->Nc P ops n B Pd E' lx (la.setIfInBounds j true) l H nx iv w O a2 F->Fd a2 F):wpOp P ops Q j Fd a J:=by
 obtain⟨h0,o,d,mk,obj,Y,I,h3,⟨h4,TT⟩,h5,h6,h7⟩:=s.pd j hj;have G:Region.wanted o (yielded ops a.tmps)=true:=by simp[Region.wanted,h3]
 unfold wpOp;simp only[Y,G,if_true]
 refine .inl ?_;unfold Oper.wp;rw[h5 J];simp only[Oper.upon]
 have hd:=Py j o Y d h4;have hnE:∀g,(j,g)∉E9:=fun g V=>by
  have:=(s.la j).2 (.inr ⟨g,V⟩);rw[WS]at this;cases this
 refine h ((j,J.heap.size)::E9) _ _ (Ext.alloc _ _) ⟨?_,s.Nd,by simp[s.Ni],fun k=>?_,fun k g R=>?_,fun k R=>?_,fun k g R=>?_,fun k g k' R Uw=>?_,s.ap⟩
 .refine⟨s.sat.rel.ext (Ext.alloc _ _),?_,?_,fun t v hv=>?_,s.sat.sc⟩
  .rw[h4];simp[Act.put,s.sat.size]
  .rw[h4];exact s.sat.defers
  .refine qA (fun e=>?_) (s.sat.env t v hv);rw[h4]at e;injection e with e;subst e;rw[h6]at hv;cases hv
 .rw[rY,s.la];have QZ:j<la.size:=(bD.1 WS).1;constructor
  .rintro((h|⟨g,h⟩)|⟨rfl,_⟩)
   .exact .inl h
   .exact .inr ⟨g,by simp[h]⟩
   .exact .inr ⟨_,aF ..⟩
  .rintro(h|⟨g,h⟩)
   .exact .inl (.inl h)
   .rcases List.mem_cons.1 h with h|h
    .injection h with e1 e2;exact .inr ⟨e1,by rw[e1];exact QZ⟩
    .exact .inl (.inr ⟨g,h⟩)
 .rcases List.mem_cons.1 R with R|R
  .injection R with e1 e2;rw[e1];exact hj
  .exact s.Jo k g R
 .obtain⟨g0,ok,dk,mkk,objk,g1,g2,g3,⟨g4,gself⟩,g5,g6,g7⟩:=s.pd k R;by_cases Vw:k=j
  .subst Vw;rw[Y]at g1;injection g1 with g1;subst g1;rw[h4]at g4;injection g4 with g4;subst g4;refine⟨g0,o,d,mk,obj,Y,I,h3,⟨h4,TT⟩,?_,h6,fun g V=>?_⟩
   .intro ww;rw[execOp_put (ops:=ops) o (fun cs b=>QB k o cs b Y) a o.dst _ (fun d' Ze=>by rw[h4]at Ze;injection Ze with Ze;subst Ze;exact TT)];exact h5 ww
   .rcases List.mem_cons.1 V with V|V
    .injection V with e1 e2;subst e2;refine⟨?_,heap_alloc_new _ _⟩;rw[h4];simp[Act.put,s.sat.size,hd]
    .exact absurd V (hnE g)
  .have Sr:=s.ap j hj k R (Ne.symm Vw) o ok Y g1;have Po:o.dst≠some dk:=fun e=>(Go.Oper.apart_spec Sr).2.1 dk e g4;refine⟨g0,ok,dk,mkk,objk,g1,g2,g3,⟨g4,gself⟩,Oper.Cx Sr (fun cs b=>QB k ok cs b g1) g5,g6,fun g V=>?_⟩;rcases List.mem_cons.1 V with V|V
   .injection V with e1 e2;exact absurd e1 Vw
   .refine⟨qA Po (g7 g V).1,?_⟩;rw[heap_alloc_old _ _ (lQ (g7 g V).2)];exact(g7 g V).2
 .rcases List.mem_cons.1 R with R|R
  .injection R with e1 e2;subst e2;refine⟨aR s.sat.rel.base s.sat.rel.size,fun id b A U L=>?_,fun lo N hm hc=>?_⟩
   .have:=(s.sat.rel.low id b A U).2;omega
   .have:=s.sat.rel.oc lo N hm;have:=s.sat.rel.size;omega
  .exact s.eg k g R
 .have old:∀k' g',(k',g')∈E9->g'<J.heap.size:=fun k' g' h=>by
   obtain⟨_,_,_,_,_,_,_,_,_,_,_,h7⟩:=s.pd k' (s.Jo k' g' h);exact lQ (h7 g' h).2
  rcases List.mem_cons.1 R with R|R<;>rcases List.mem_cons.1 Uw with Uw|Uw
  .injection R with e1 e2;injection Uw with e3 e4;rw[e1,e3]
  .injection R with e1 e2;have:=old _ _ Uw;omega
  .injection Uw with e1 e2;have:=old _ _ R;omega
  .exact s.inj k g k' R Uw
theorem Nc.aA8(s:Nc P ops n B Pd E9 lx la l H nx iv w O a J){i:Nat}{o:Oper}(N:ops[i]? =some o)(V:(i,g)∈E9){b:ja}{v:SV}
  (A:b.scopd nx) (hv:v.sc (nx+1)) (Wk:∀g,v.den (jG O nx ⟨g,0,false⟩)=mk g) (RH:∀g F,F.heap[g]? =some obj->b.fits O ⟨g,0,false⟩ F) (Tl:AL P o a mk obj)
  {Fd:Env->Prop} (hK:FW o.dst v l Fd) (_hok:∀d,o.dst=some d->d<n) (Sr:∀j∈Pd,j≠i->∀oj,ops[j]? =some oj->o.apart ops oj=true):
  ∃l',Fd l'/\Nc P ops n B (Pd.filter fun j=> !Nat.beq j i) (E9.filter fun e=> !Nat.beq e.1 i) (lx.setIfInBounds i true) la l' ((nx,b)::H) (nx+1) iv w (jG O nx ⟨g,0,false⟩) a J:=by
 obtain⟨h0,o',d,mk',obj',Y,I,h3,⟨h4,TT⟩,h5,h6,h7⟩:=s.pd i (s.Jo i g V);rw[N]at Y;injection Y with Y;subst Y;obtain⟨rfl,rfl⟩:=Tl.uniq h5;obtain⟨ht,hh⟩:=h7 g V;obtain⟨e1,e2,e3⟩:=s.eg i g V;have memf:∀j,j∈(Pd.filter fun j=> !Nat.beq j i)↔j∈Pd/\j≠i:=fun j=>by
  simp only[List.mem_filter,Bool.not_eq_true',pF]
 have memE:∀j k,(j,k)∈(E9.filter fun e=> !Nat.beq e.1 i)↔(j,k)∈E9/\j≠i:=fun j k=>by
  simp only[List.mem_filter,Bool.not_eq_true',pF]
 have Rz:∀id b,dV H id=some b->jG O nx ⟨g,0,false⟩ id=O id:=fun id b h=>(iO id (s.sat.rel.keys id b h)).symm;have r:=s.sat.rel;have Qb:Rel ((nx,b)::H) (nx+1) iv B w (jG O nx ⟨g,0,false⟩) J:=by
  refine Rel.mk' r.os r.tape r.output r.size r.base r.oc ?_ ?_ ?_ ?_ ?_ ?_ ?_
  .intro id b' h;rw[de]at h;split at h
   .omega
   .have:=r.keys id b' h;omega
  .intro id b' h;rw[de]at h;split at h
   .rename_i e;subst e;injection h with h;subst h;rw[fj];exact ja.iY (RH g J hh) (fun id RE=>iO id RE) A (fun _ _=>rfl)
   .rw[Rz id b' h];exact ja.iY (r.fits h) (fun id RE=>iO id RE) (r.scopd h) (fun _ _=>rfl)
  .intro id b' h;rw[de]at h;split at h
   .injection h with h;subst h;exact ja.kM (Nat.le_succ _) A
   .exact ja.kM (Nat.le_succ _) (r.scopd h)
  .intro id id' c c' h h' hd Ze U hn' L;rw[de]at h h';split at h<;>split at h'
   .rename_i x y;rw[<-x,<-y]
   .rename_i x y;subst x;rw[fj,Rz _ _ h']at L;rw[Rz _ _ h']at hn';exact absurd L.symm (e2 _ _ h' hn')
   .rename_i x y;subst y;rw[fj,Rz _ _ h]at L;rw[Rz _ _ h]at U;exact absurd L (e2 _ _ h U)
   .rw[Rz _ _ h,Rz _ _ h']at L;rw[Rz _ _ h]at U;rw[Rz _ _ h']at hn';exact r.inj id id' c c' h h' hd Ze U hn' L
  .intro id c h U;rw[de]at h;split at h
   .rename_i e;subst e;rw[fj];exact⟨e1,lQ hh⟩
   .rw[Rz _ _ h]at U ⊢;exact r.low id c h U
  .intro k R Po;refine r.Dz k R fun id c h U=>?_;have QZ:=r.keys id c h;have:=Po id c (by rw[de,aI be];exact h) (by rw[Rz _ _ h];exact U)
   rwa [Rz _ _ h]at this
  .intro lo N hm id c h U;rw[de]at h;split at h
   .rename_i e;subst e;rw[fj];exact e3 lo N hm
   .rw[Rz _ _ h]at U ⊢;exact r.jU lo N hm id c h U
 have sat1:Sat n l ((nx,b)::H) (nx+1) iv B w (jG O nx ⟨g,0,false⟩) a J:=s.sat.next Qb (Nat.le_succ _) (fun id RE=>iO id RE)
 rw[h4]at hK;refine⟨_,hK,?_⟩;have sat2:Sat n ((d,v)::l) ((nx,b)::H) (nx+1) iv B w (jG O nx ⟨g,0,false⟩) a J:=by
  refine⟨sat1.rel,sat1.size,sat1.defers,fun t u hu=>?_,fun t u hu=>?_⟩
  .rw[fE]at hu;split at hu
   .rename_i e;subst e;injection hu with hu;subst hu;rw[Wk];exact ht
   .exact sat1.env t u hu
  .rw[fE]at hu;split at hu
   .injection hu with hu;subst hu;exact hv
   .exact sat1.sc t u hu
 have Ud:i<lx.size:=(bD.1 h0).1;refine⟨sat2,by simp[s.Nd],s.Ni,fun j=>?_,fun j k h=>?_,fun j hj=>?_,fun j k h=>?_,fun j k j' h h'=>s.inj j k j' ((memE j k).1 h).1 ((memE j' k).1 h').1,fun j hj j' Ys=>s.ap j ((memf j).1 hj).1 j' ((memf j').1 Ys).1⟩
 .rw[s.la,rY];constructor
  .rintro(h|⟨k,h⟩)
   .exact .inl (.inl h)
   .by_cases Q1:j=i
    .exact .inl (.inr ⟨Q1,Q1▸Ud⟩)
    .exact .inr ⟨k,(memE j k).2 ⟨h,Q1⟩⟩
  .rintro((h|⟨rfl,h⟩)|⟨k,h⟩)
   .exact .inl h
   .exact .inr ⟨g,V⟩
   .exact .inr ⟨k,((memE j k).1 h).1⟩
 .exact(memf j).2 ⟨s.Jo j k ((memE j k).1 h).1,((memE j k).1 h).2⟩
 .obtain⟨hj,Q1⟩:=(memf j).1 hj;obtain⟨g0,oj,dj,mkj,objj,g1,g2,g3,⟨g4,gself⟩,g5,g6,g7⟩:=s.pd j hj;have Po:d≠dj:=fun e=>(Go.Oper.apart_spec (Sr j hj Q1 oj g1)).2.1 d h4 (by rw[g4,e]);refine⟨by rw[Array.getElem?_setIfInBounds_ne (Ne.symm Q1)];exact g0,oj,dj,mkj,objj,g1,g2,g3,⟨g4,gself⟩,g5,?_,fun k R=>g7 k ((memE j k).1 R).1⟩;rw[fE,aI Po];exact g6
 .obtain⟨h,Q1⟩:=(memE j k).1 h;obtain⟨k1,k2,k3⟩:=s.eg j k h;refine⟨k1,fun id c hc U=>?_,k3⟩;rw[de]at hc;split at hc
  .rename_i e;subst e;rw[fj];intro e;simp only at e;subst e;exact Q1 (s.inj j _ i h V)
  .rw[Rz _ _ hc]at U ⊢;exact k2 id c hc U
end
end Go.Sx
