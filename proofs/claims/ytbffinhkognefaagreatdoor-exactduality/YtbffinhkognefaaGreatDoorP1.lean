/- Texts Sx7 to Sx11: lemmas, each with its conditions. -/
import Derived.OrdersHeld
import Derived.Test.YtbffinhkognefaaGreatDoorP0
namespace Go.Sx
open Go
variable{args:(Nat->dc)->Array Value}{la lx:Array Bool}{op:BinOp}{dr pu:Bool}{FS:Ending->World->Prop}{l':Env}{Q:Exit->Act->World->Prop}{H':Hp}{k:IntKind}{K:Iv}{Pd:List Nat}{OO g j m t:Nat}{mk:Nat->Value}{G9:Nat->dc}{obj:Obj}{d:Option Tmp}{Fn:SV->Hp->Nat->Iv->World->Prop}{u v:Value}{w F w3:World}
section
variable{P:Program}{τ:lO}{B n nx:Nat}{l:Env}{H:Hp}{iv:Iv}{w J:World}{O:Nat->dc}{a:Act}
theorem p9{k':IntKind}(h:pW k k'=true):k=k':=by
 cases k<;>cases k'<;>first|rfl|(simp [pW]at h)
theorem vh(op:BinOp)(t:TypeId)(x y:Operand)(k k':IntKind)(i j:Int)(w:World):(eqGuard op t x y (.int k i) (.int k' j)).run P w= .ok () w:=by
 unfold eqGuard;cases op<;>simp
theorem nK(op:BinOp)(t:TypeId)(x y:Operand)(i j:Bool)(w:World):(eqGuard op t x y (.bool i) (.bool j)).run P w= .ok () w:=by
 unfold eqGuard;cases op<;>simp
theorem jX(op:BinOp)(t:TypeId)(x y:Operand)(i j:ByteArray)(w:World):(eqGuard op t x y (.string i) (.string j)).run P w= .ok () w:=by
 unfold eqGuard;cases op<;>simp
theorem GK{i j:Int}{t:TypeId}{Fn:Value->Prop}(h:GF op k i j Fn)(k':IntKind)(Z:(op= .shl\/op= .shr)\/k=k'):
  ∃r,Fn r/\∀w:World,(binOp op t (.int k i) (.int k' j)).run P w= .ok r w:=by
 have TT:op≠ .shl->op≠ .shr->k=k':=fun W I=>by rcases Z with(h3|h3)|h3<;>simp_all
 cases op<;>simp only[GF]at h
 case shl=>obtain⟨h0,r,W,I⟩:=h;refine⟨_,I,fun w=>?_⟩;subst W;simp[binOp,Op.shift,show ¬j<0 by omega]
 case shr=>obtain⟨h0,r,W,I⟩:=h;refine⟨_,I,fun w=>?_⟩;subst W;simp[binOp,Op.shift,show ¬j<0 by omega]
 all_goals (obtain rfl:=TT ce ce)
 case quo=>obtain⟨h0,r,W,I⟩:=h;refine⟨_,I,fun w=>?_⟩;subst W;simp[binOp,Op.intDiv,h0]
 case rem=>obtain⟨h0,r,W,I⟩:=h;refine⟨_,I,fun w=>?_⟩;subst W;simp[binOp,Op.intDiv,h0]
 case eql=>exact⟨_,h,fun w=>by simp[binOp,Op.intCmp]⟩
 case neq=>exact⟨_,h,fun w=>by simp[binOp,Op.intCmp]⟩
 case lss=>exact⟨_,h,fun w=>by simp[binOp,Op.intCmp]⟩
 case leq=>exact⟨_,h,fun w=>by simp[binOp,Op.intCmp]⟩
 case gtr=>exact⟨_,h,fun w=>by simp[binOp,Op.intCmp]⟩
 case geq=>exact⟨_,h,fun w=>by simp[binOp,Op.intCmp]⟩
 case add=>obtain⟨r,W,I⟩:=h;refine⟨_,I,fun w=>?_⟩;subst W;simp[binOp,Op.intArith]
 case sub=>obtain⟨r,W,I⟩:=h;refine⟨_,I,fun w=>?_⟩;subst W;simp[binOp,Op.intArith]
 case mul=>obtain⟨r,W,I⟩:=h;refine⟨_,I,fun w=>?_⟩;subst W;simp[binOp,Op.intArith]
 case and=>obtain⟨r,W,I⟩:=h;refine⟨_,I,fun w=>?_⟩;subst W;simp[binOp,Op.intBits]
 case or=>obtain⟨r,W,I⟩:=h;refine⟨_,I,fun w=>?_⟩;subst W;simp[binOp,Op.intBits]
 case andNot=>obtain⟨r,W,I⟩:=h;refine⟨_,I,fun w=>?_⟩;subst W;simp[binOp,Op.intBits]
 case xor=>obtain⟨r,W,I⟩:=h;refine⟨_,I,fun w=>?_⟩;subst W;simp[binOp,Op.intBits]
theorem run_equalIn_bool{t:TypeId}(hu:P.underlying t=some .bool)(d:Nat)(i j:Bool)(w:World):(Op.equalIn (d+1) t (.bool i) (.bool j)).run P w= .ok (i==j) w:=by
 simp[Op.equalIn,run_underlying hu]
theorem uk{t:TypeId}(hu:P.underlying t=some .bool)(i j:Bool)(w:World):(Op.equal t (.bool i) (.bool j)).run P w= .ok (i==j) w:=run_equalIn_bool hu 9999 i j w
theorem xQ{t:TypeId}(hu:P.underlying t=some .bool)(i j:Bool)(w:World):(binOp .eql t (.bool i) (.bool j)).run P w= .ok (.bool (i==j)) w:=by
 show(do pure (.bool (<-Op.equal t (.bool i) (.bool j))):Sem Value).run P w=_;rw[Sem.run_bind,uk hu];rfl
theorem vj{t:TypeId}(hu:P.underlying t=some .bool)(i j:Bool)(w:World):(binOp .neq t (.bool i) (.bool j)).run P w= .ok (.bool (!(i==j))) w:=by
 show(do pure (.bool (!(<-Op.equal t (.bool i) (.bool j)))):Sem Value).run P w=_;rw[Sem.run_bind,uk hu];rfl
theorem GL(hτ:en P τ){x y:SV}{Fn:SV->Prop}(h:Kq P τ op t x y Fn)(o1 o2:Operand):
  ∃r,Fn r/\r.sc nx/\∀J:World,(do eqGuard op t o1 o2 (x.den O) (y.den O);binOp op t (x.den O) (y.den O)).run P J= .ok (r.den O) J:=by
 unfold Kq at h;split at h
 .rename_i k i k' j;have fin:∀Z:(op= .shl\/op= .shr)\/k=k',GF op k i j (fun r=>Fn (.o (.v r)))->∃r,Fn r/\r.sc nx/\∀J:World,(do eqGuard op t o1 o2 (SV.den O (.o (.v (.int k i)))) (SV.den O (.o (.v (.int k' j))));binOp op t (SV.den O (.o (.v (.int k i)))) (SV.den O (.o (.v (.int k' j))))).run P J= .ok (r.den O) J:=by
   intro Z h;obtain⟨r,W,I⟩:=GK (P:=P) (t:=t) h k' Z;refine⟨_,W,trivial,fun J=>?_⟩;simp only[SV.den,At.den,Sem.run_bind,vh,Result.andThen_ok,I]
  split at h
  .exact fin (.inl (.inl rfl)) h
  .exact fin (.inl (.inr rfl)) h
  .split at h
   .rename_i Z;exact fin (.inr (p9 Z)) h
   .exact h.elim
 .rename_i i j;split at h
  .rename_i ti QT;split at h
   .rename_i Oh;have hu:=(hτ t _ QT).i2 (eJ Oh);split at h
    .refine⟨_,h,trivial,fun J=>?_⟩;simp only[SV.den,At.den,Sem.run_bind,nK,Result.andThen_ok,xQ hu]
    .refine⟨_,h,trivial,fun J=>?_⟩;simp only[SV.den,At.den,Sem.run_bind,nK,Result.andThen_ok,vj hu]
    .exact h.elim
   .exact h.elim
  .exact h.elim
 .rename_i i j;split at h
  .refine⟨_,h,trivial,fun J=>?_⟩;simp only[SV.den,At.den,Sem.run_bind,jX,Result.andThen_ok]
   simp[binOp,Op.stringOp,ByteArray.toList_eq]
  .refine⟨_,h,trivial,fun J=>?_⟩;simp only[SV.den,At.den,Sem.run_bind,jX,Result.andThen_ok]
   simp[binOp,Op.stringOp,ByteArray.toList_eq]
  .refine⟨_,h.2,trivial,fun J=>?_⟩;simp only[SV.den,At.den,Sem.run_bind,jX,Result.andThen_ok]
   have W:=h.1;unfold maxLen at W;simp[binOp,Op.stringOp];omega
  .exact h.elim
 .obtain⟨b,W,I⟩:=h;exact⟨_,I,trivial,fun J=>W O J o1 o2⟩
abbrev K4(n B:Nat)(l:Env)(a:Act)(dst:Option Tmp)(Fn:SV->Hp->Nat->Iv->World->Prop)(next:Act->World->Prop):Prop:=
 ∀v H' OO K F G9 w3,Fn v H' OO K F->Sat n l H' OO K B F G9 a w3->v.sc OO->next (a.put dst (v.den G9)) w3
theorem Sat.next(sat:Sat n l H nx iv B w O a J)(rel:Rel H' OO K B F G9 w3)(UX:nx<=OO)(GE:∀id,id<nx->O id=G9 id):
  Sat n l H' OO K B F G9 a w3:=
 ⟨rel,sat.size,sat.defers,fun t v h=>by rw[sat.env t v h,SV.js GE (sat.sc t v h)],fun t v h=>SV.sk UX (sat.sc t v h)⟩
theorem Ao(sat:Sat n l H nx iv B w O a J){cs:List At}(hs:∀c∈cs,At.sc nx c):
  Rel ((nx,.box t cs)::H) (nx+1) iv B w (gn O nx ⟨J.heap.size,0,false⟩) (J.alloc (.cells (cs.map (At.den O)).toArray t)):=
 sat.rel.push (.box t cs) _ rfl rfl rfl ce (fun k Z=>heap_alloc_old _ _ Z) (fun _=>⟨ae _,ce⟩) ⟨rfl,heap_alloc_new _ _⟩ hs
theorem uo:∀{vs:List SV} {k:List Nat->Prop},oA vs k->(∀v∈vs,SV.sc nx v)->∃ids,k ids/\vs.map (SV.den O)=ids.map (fun id=>Value.pointer (some ⟨(O id).g,0,none⟩))/\∀id∈ids,id<nx
 |[],k,h,_=>⟨[],h,rfl,ce⟩
 | .o (.p id 0)::r,k,h,hs=>by
  obtain⟨ids,W,I,h3⟩:=uo (vs:=r) h (fun v hv=>hs v (by simp[hv]));exact⟨id::ids,W,by simp[I,SV.den,At.den],by simp;exact⟨hs (.o (.p id 0)) ce,h3⟩⟩
 | .o (.p id (m+1))::r,k,h,_=>by simp[oA]at h
 | .o (.v x)::r,k,h,_=>by simp[oA]at h
 | .o (.s _ _ _ _)::r,k,h,_=>by simp[oA]at h
 | .o (.w _ _)::r,k,h,_=>by simp[oA]at h
 | .o (.fn _ _)::r,k,h,_=>by simp[oA]at h
 | .a _::r,k,h,_=>by simp[oA]at h
theorem xR(sat:Sat n l H nx iv B w O a J){Fn:SV->Hp->Iv->World->Prop}{o:Oper}{next:Act->World->Prop}
  (h:By P B g args H nx iv w Fn) (UG:(execOp a.eval o).run P J=(callFunc g (args O)).run P J)
  (U:∀v H' K F,Fn v H' K F->Sat n l H' nx K B F O a F->v.sc nx->next (a.put o.dst (v.den O)) F):o.wp P a J next Q:=by
 have hc:=h.h O J sat.rel;unfold Oper.wp;rw[UG,hc.e.h];refine Calls.mono hc.c fun e F G=>?_;obtain⟨v,H',K,rfl,PR,hK⟩:=G;exact U _ _ _ _ hK (sat.next (G9:=O) PR (ae _) (fun _ _=>rfl)) trivial
theorem Rel.ext(r:Rel H nx iv B w O J)(e:Ext J F):Rel H nx iv B w O F:=
 Rel.mk' (e.os.trans r.os) (e.tape.trans r.tape) (e.output.trans r.output) (aP r.size e.size) r.base r.nG r.keys
  (fun id b h=>jL.gV (r.fits h) (fun _ _=>rfl) (r.scopd h) (fun U _=>e.block _ (r.low id b h U).2)) (fun id b h=>r.scopd h) r.inj
  (fun id b h U=>by have:=r.low id b h U;have:=e.size;omega) (fun k Z OL=>by rw[e.block k (by have:=r.size;omega)];exact r.Ad k Z OL) r.ix
theorem Rel.here(r:Rel H nx iv B w O J):Rel H nx iv B J O J:=
 Rel.mk' rfl rfl rfl (ae _) (by have:=r.base;have:=r.size;omega) (fun lo R hm=>by have:=r.nG lo R hm;have:=r.size;omega) r.keys
  (fun id b h=>r.fits h) (fun id b h=>r.scopd h) r.inj r.low (fun _ _ _=>rfl) r.ix
theorem Rel.more{lo R:Nat}(r:Rel H nx iv B w O J)(W:R<=w.heap.size)(I:∀id b,dF H id=some b->(O id).nil=false->¬(lo<=(O id).g/\(O id).g<R)):Rel H nx ((lo,R)::iv) B w O J:=
 Rel.mk' r.os r.tape r.output r.size r.base
  (fun lo' QL hm=>by
   rcases List.mem_cons.1 hm with hm|hm
   .injection hm with e1 e2;omega
   .exact r.nG lo' QL hm) r.keys (fun id b N=>r.fits N) (fun id b N=>r.scopd N) r.inj r.low r.Ad
  (fun lo' QL hm id b N OW=>by
   rcases List.mem_cons.1 hm with hm|hm
   .injection hm with e1 e2;subst e1;subst e2;exact I id b N OW
   .exact r.ix lo' QL hm id b N OW)
theorem cM{Fn:SV->Hp->Iv->World->Prop}(h:Bt P B g args H nx iv w Fn):By P B g args H nx iv w Fn:=
 ⟨fun O J r=>⟨(h.h O J r).e,Calls.mono (h.h O J r).c fun e F G=>by
  obtain⟨v,W,I,h3⟩:=G
  exact⟨v,H,_,W,(r.ext I).here.more (ae _) (fun id b N U=>by have:=(r.low id b N U).2;omega),h3⟩⟩⟩
def lG:Op->Bool
 | .move _| .assign _| .pick _ _ _| .build _ _| .load _ _| .nilCheck _| .binOp _ _ _ _ _| .unOp _ _ _| .convert _ _ _| .makeFunc _ _ _| .slice _ _ _ _ _| .fieldAddr _ _ _| .field _ _ _| .indexAddr _ _ _| .extract _ _=>true
 | .call ⟨.builtin .len,_,_⟩=>true
 | .call ⟨.builtin .max,_,_⟩=>true
 | .call ⟨.builtin .min,_,_⟩=>true
 |_=>false
def Ae:Op->Bool
 | .alloc _| .box _ _| .buildSlice _ _ _| .makeSlice _ _ _=>true
 |_=>false
def Ew:Op->Bool
 | .load _ _=>false
 |o=>lG o
theorem j2(hτ:en P τ){o:Oper}(h:xA dr P τ B o l H nx iv w Fn)(sat:Sat n l H nx iv B w O a J)(Z:lG o.op=true):
  (∃v,Fn v H nx iv w/\v.sc nx/\∀F,(Ew o.op=true\/Rel H nx iv B w O F)->(execOp a.eval o).run P F= .ok (.value (v.den O)) F)\/(dr=false/\xJ P B o l H nx iv w Fn):=by
 obtain⟨dst,op,ty,pos,after,guard⟩:=o;have val:∀(r:SV),Fn r H nx iv w->r.sc nx->(∀F,(Ew op=true\/Rel H nx iv B w O F)->(execOp a.eval ⟨dst,op,ty,pos,after,guard⟩).run P F= .ok (.value (r.den O)) F)->
   (∃v,Fn v H nx iv w/\v.sc nx/\∀F,(Ew op=true\/Rel H nx iv B w O F)->(execOp a.eval ⟨dst,op,ty,pos,after,guard⟩).run P F= .ok (.value (v.den O)) F)\/(dr=false/\xJ P B ⟨dst,op,ty,pos,after,guard⟩ l H nx iv w Fn):=
  fun r hK hs hr=>.inl ⟨r,hK,hs,hr⟩
 unfold xA at h;split at h<;>first|(exact False.elim h)|(rename_i UG;simp only at UG;subst UG)
 .obtain⟨v,hK,hv,hs⟩:=dT sat h;exact val v hK hs (fun F rel=>by simp[execOp,hv])
 .obtain⟨v,hK,hv,hs⟩:=dT sat h;exact val v hK hs (fun F rel=>by simp[execOp,hv])
 .rename_i c x y;obtain⟨v,W,hv,QF⟩:=dT sat h;clear QF;split at W
  .rename_i t
   cases t
   .obtain⟨u,hK,hu,hs⟩:=dT sat (W.f rfl);exact val u hK hs (fun F rel=>by simp[execOp,hv,SV.den,At.den,asBool,hu])
   .obtain⟨u,hK,hu,hs⟩:=dT sat (W.t rfl);exact val u hK hs (fun F rel=>by simp[execOp,hv,SV.den,At.den,asBool,hu])
  .exact W.elim
 .cases Z
 .cases Z
 .rename_i t parts;split at h
  .rename_i sz ag by_ ze tag ik e al fs QT;have ht:=hτ t _ QT;obtain⟨inf,z,R,Od,Om,hz,Q6⟩:=ht.info;simp only at Od Om Q6;have hzz:z.cells=(((ze.map At.v)).map (At.den O)).toArray:=by rw[fN];apply Array.ext';simpa using Q6
   have Ut:∀c∈ze.map At.v,At.sc nx c:=fun c hc=>by simp at hc;obtain⟨v,_,rfl⟩:=hc;trivial
   split at h
   .rename_i Oh;obtain⟨fds,hu,hf,Q7⟩:=ht.i5 (eJ Oh);simp only at hf;have Wc:fds.toList.mapM (fun f=>(P.info? f.type).map fun i=>(f.offset,i.size))=some (fds.toList.map fun f=>(f.offset,((P.info? f.type).map (·.size)).getD 0)):=by
     clear hf hu;generalize fds.toList=fl at Q7
     induction fl with
     |nil=>rfl
     |cons f r ih=>
      obtain⟨i0,hi0⟩:=Option.isSome_iff_exists.1 (Q7 f ce);rw[List.mapM_cons,ih (fun g V=>Q7 g (by simp[V]))];simp[hi0]
    have h0:=fO h
    obtain⟨cs',hK,Oz,hlen,Pn⟩:=kM sat (placeF:=fun i=>(fds.toList.map fun f=>(f.offset,((P.info? f.type).map (·.size)).getD 0))[i]?) (fun i k Z=>by
     obtain⟨off,ft,fi,W,I,h3,h4⟩:=mm hτ Z;refine⟨off,fi.size,W,?_⟩;rw[<-hf]at I;simp only[aS,Option.map_eq_some_iff]at I ⊢;obtain⟨fd,Pb,G⟩:=I;injection G with e1 e2;refine⟨fd,Pb,?_⟩;obtain⟨inf',_,QL,TU,_⟩:=h3.info;rw[e1,e2,QL]
     simp[TU]) h0 Ut
    refine val _ hK Oz (fun F rel=>?_);have N:P.built t (parts.map fun p=>(p.1,a.eval p.2)).toList=some (cs'.map (At.den O)).toArray:=by
     unfold Program.built;simp only[R,hu,hz,Wc]
     rw[hzz,<-Pn];simp
    have:=run_build F t _ _ N;simp only[execOp]
    exact km this
   .split at h
    .rename_i Oh;have hu:=ht.i6 (eJ Oh);simp only at hu;split at h
     .rename_i sz' ag' by' ze' tag' ik' e' al' fs' PI
      have PI:=hτ e _ PI;obtain⟨inf',_,QL,TU,_⟩:=PI.info;simp only at TU;have h0:=fO h;obtain⟨cs',hK,Oz,hlen,Pn⟩:=kM sat (placeF:=fun i=>some (i*inf'.size,inf'.size)) (fun i k Z=>⟨i*sz',sz',Z,by rw[TU]⟩) h0 Ut;refine val _ hK Oz (fun F rel=>?_);have N:P.built t (parts.map fun p=>(p.1,a.eval p.2)).toList=some (cs'.map (At.den O)).toArray:=by
       unfold Program.built;simp only[R,hu,hz,QL]
       rw[hzz,<-Pn];simp
      have:=run_build F t _ _ N;simp only[execOp]
      exact km this
     .exact h.elim
    .exact h.elim
  .exact h.elim
 .cases Z
 .rename_i t x;obtain⟨v,W,hv,hs⟩:=dT sat h;obtain⟨r,hK,hr,OU⟩:=l9 hτ sat.rel hs W;exact val r hK hr (fun F rel=>by simp only[execOp,hv];exact km (OU F (rel.resolve_left (by simp[Ew]))))
 .cases Z
 .rename_i x;obtain⟨v,W,hv,hs⟩:=dT sat h;split at W
  .exact val _ W hs (fun F rel=>by simp[execOp,hv,SV.den,At.den])
  .exact val _ W hs (fun F rel=>by simp[execOp,hv,SV.den,At.den])
  .exact val _ W hs (fun F rel=>by simp[execOp,hv,SV.den,At.den])
  .exact val _ W hs (fun F rel=>by simp[execOp,hv,SV.den,At.den])
  .exact W.elim
 .rename_i op t x y u;obtain⟨v,W,hv,_⟩:=dT sat h;obtain⟨v2,I,RD,_⟩:=dT sat W;obtain⟨r,hK,hr,OU⟩:=GL (O:=O) hτ I x y;exact val r hK hr (fun F rel=>by simp only[execOp,hv,RD];exact km (OU F))
 .rename_i op t x;obtain⟨v,W,hv,_⟩:=dT sat h;split at W
  .exact val _ W trivial (fun F rel=>by simp[execOp,hv,SV.den,At.den,Op.unary])
  .obtain⟨r,hr,hK⟩:=W;exact val _ hK trivial (fun F rel=>by subst hr;simp[execOp,hv,SV.den,At.den,Op.unary,Op.intArith])
  .obtain⟨r,hr,hK⟩:=W;exact val _ hK trivial (fun F rel=>by subst hr;simp[execOp,hv,SV.den,At.den,Op.unary,Op.intBits])
  .exact W.elim
 .rename_i s d x;split at h
  .rename_i tis htis;obtain⟨ds,hds,_⟩:=(hτ s _ htis).agg;obtain⟨v,W,hv,QF⟩:=dT sat h;clear QF;split at W
   .rename_i sz ag by_ ze tag ik e al fs QT;have ht:=hτ d _ QT;split at W
    .rename_i Oh;have hu:=ht.i1 (eJ Oh);simp only at hu;split at W
     .obtain⟨r,hr,hK⟩:=W;refine val _ hK trivial (fun F rel=>?_);subst hr;simp[execOp,convert,run_underlying hds,run_underlying hu,hv,SV.den,At.den,Conv.intToInt]
     .exact W.elim
    .cases dr
     .exact .inr ⟨rfl,W⟩
     .exact W.elim
   .exact W.elim
  .exact h.elim
 .rename_i f first caps
  split at h
  .obtain⟨vs,W,QF,Re⟩:=rG sat h;obtain⟨ids,hK,hids,Oo⟩:=uo (O:=O) W Re;refine val _ hK (fun id Pk=>Oo id Pk) (fun F rel=>?_);have e:caps.map a.eval=(ids.map fun id=>Value.pointer (some ⟨(O id).g,0,none⟩)).toArray:=by
    apply Array.ext';rw[<-hids,<-QF];simp
   simp[execOp,Instr.makeFunc,e,SV.den,At.den]
  .exact h.elim
 .cases Z
 .rename_i t x lo R;obtain⟨v,W,hv,hs⟩:=dT sat h;obtain⟨r,hK,hr,OU⟩:=CG hτ sat W hs;exact val r hK hr (fun F rel=>by simp only[execOp,hv];exact km (by simpa using OU F))
 .rename_i t x lo R mx;obtain⟨v,W,hv,hs⟩:=dT sat h;obtain⟨r,hK,hr,OU⟩:=Am hτ sat W;exact val r hK hr (fun F rel=>by simp only[execOp,hv];exact km (by simpa using OU F))
 .rename_i t x f;split at h
  .rename_i sz ag by_ ze tag ik e al fs QT;have ht:=hτ t _ QT;split at h
   .rename_i Oh;obtain⟨off,ft,fi,W,hf,VM,Od⟩:=mm hτ h;obtain⟨v,I,hv,hs⟩:=dT sat W;obtain⟨r,ad,hK,hr,hd,hrd⟩:=so (O:=O) I hs;refine val r hK hr (fun F rel=>?_);simp only[execOp,hv,hd,hrd]
    exact km (CD ht (eJ Oh) hf VM Od ad F)
   .exact h.elim
  .exact h.elim
 .rename_i t x f;split at h
  .rename_i sz ag by_ ze tag ik e al fs QT;have ht:=hτ t _ QT;split at h
   .rename_i Oh;obtain⟨off,ft,fi,W,hf,VM,Od⟩:=mm hτ h;obtain⟨v,I,hv,hs⟩:=dT sat W;obtain⟨fds,fd,hu,Pb,e1,e2⟩:=xP ht (eJ Oh) hf;have fin:∀cs:List At,v.den O= .agg (cs.map (At.den O)).toArray->(∀c∈cs,At.sc nx c)->
      (match fi.agg with
       |true=>sd cs off (fun r=>se r fi.size (fun c=>Fn (.a c) H nx iv w))
       |false=>match Ai cs off with
        |some c=>Fn (.o c) H nx iv w
        |none=>False)->(∃v,Fn v H nx iv w/\v.sc nx/\∀F,(Ew (.field t x f)=true\/Rel H nx iv B w O F)->(execOp a.eval ⟨dst,.field t x f,ty,pos,after,guard⟩).run P F= .ok (.value (v.den O)) F)\/(dr=false/\xJ P B ⟨dst,.field t x f,ty,pos,after,guard⟩ l H nx iv w Fn):=by
     intro cs hd Oz Z;split at Z
     .rename_i hag;obtain⟨h3,RH⟩:=oC Z;obtain⟨hK,RZ⟩:=oD h3;refine val _ hK (fun c hc=>Oz c (List.mem_of_mem_drop (List.mem_of_mem_take hc))) (fun F rel=>?_);simp only[execOp,hv,hd]
      refine km ?_;subst e1 e2;simp[Instr.field,run_underlying hu,Pb,asAgg,part,VM.isAgg,hag,VM.sizeOf,SV.den,List.map_drop,List.map_take,List.extract_eq_take_drop]
     .rename_i hag;split at Z
      .rename_i c hc;rw[tz]at hc;refine val _ Z (Oz c (aG hc)) (fun F rel=>?_);simp only[execOp,hv,hd]
       refine km ?_;subst e1 e2;simp[Instr.field,run_underlying hu,Pb,asAgg,part,VM.isAgg,hag,hc,SV.den]
      .exact Z.elim
    split at I
    .rename_i vs;exact fin (vs.map At.v) (by rw[fN];rfl) (fun c hc=>by simp at hc;obtain⟨v,_,rfl⟩:=hc;trivial) (fO I)
    .exact fin _ rfl hs I
    .exact I.elim
   .exact h.elim
  .exact h.elim
 .rename_i t x i;obtain⟨v,W,hv,hs⟩:=dT sat h;obtain⟨u,I,hu,_⟩:=dT sat W;obtain⟨r,hK,hr,OU⟩:=CE hτ I hs sat.rel;exact val r hK hr (fun F rel=>by simp only[execOp,hv,hu];exact km (OU F))
 .rename_i x i;obtain⟨v,W,hv,hs⟩:=dT sat h;split at W
  .split at W
   .rename_i vs u hu;rw[zh]at hu;exact val _ W trivial (fun F rel=>by simp[execOp,hv,Instr.extract,SV.den,At.den,hu])
   .exact W.elim
  .exact W.elim
 .rename_i x t;obtain⟨v,W,hv,_⟩:=dT sat h;obtain⟨r,hK,OU⟩:=GJ (ty:=ty) hτ W sat.rel;refine val _ hK trivial (fun F rel=>?_);show _=Result.ok (Next.value (Value.int .i64 r)) F;generalize v.den O=xv at hv OU;have OU:=OU F;simp[execOp,resolve,invoke,builtin,hv,OU]
 .cases Z
 .rename_i x y ts;obtain⟨v,W,hv,_⟩:=dT sat h;obtain⟨v2,I,RD,_⟩:=dT sat W;split at I
  .split at I
   .rename_i k a1 k' b1 SL;have TT:=p9 SL;subst TT;refine val _ I trivial (fun F rel=>?_);simp only[execOp,resolve,invoke,builtin]
    simp[hv,RD,SV.den,At.den,Builtin.max_,Builtin.max2];omega
   .exact I.elim
  .exact I.elim
 .rename_i x y ts;obtain⟨v,W,hv,_⟩:=dT sat h;obtain⟨v2,I,RD,_⟩:=dT sat W;split at I
  .split at I
   .rename_i k a1 k' b1 SL;have TT:=p9 SL;subst TT;refine val _ I trivial (fun F rel=>?_);simp only[execOp,resolve,invoke,builtin]
    simp[hv,RD,SV.den,At.den,Builtin.min_,Builtin.min2];omega
   .exact I.elim
  .exact I.elim
 .cases Z
 .cases Z
 .cases Z
 .cases Z
 .cases Z
 .cases Z
 .cases Z
 .cases Z
theorem iK{o:Oper}(h:xJ P B o l H nx iv w Fn)(sat:Sat n l H nx iv B w O a J){next:Act->World->Prop}
  (U:K4 n B l a o.dst Fn next):o.wp P a J next Q:=by
 obtain⟨v,F,K,OU,PR,hK⟩:=h.h O J a.eval sat.rel (fun x v E=>(sn sat E).1);have:=U _ _ _ _ _ _ _ hK (sat.next PR (ae _) (fun _ _=>rfl)) trivial;unfold Oper.wp;rcases OU with OU|⟨OU,rfl⟩
 .rw[OU];exact this
 .rw[OU];exact this
theorem lW(hτ:en P τ){o:Oper}(h:xA dr P τ B o l H nx iv w Fn)(sat:Sat n l H nx iv B w O a J){next:Act->World->Prop}
  (U:K4 n B l a o.dst Fn next):o.wp P a J next Q:=by
 by_cases Z:lG o.op=true
 .rcases j2 hτ h sat Z with⟨v,hK,hs,hr⟩|⟨_,UG⟩
  .exact k9 (hr J (.inr sat.rel)) (U _ _ _ _ _ _ _ hK sat hs)
  .exact iK UG sat U
 obtain⟨dst,op,ty,pos,after,guard⟩:=o;unfold xA at h;split at h<;>first|(exact False.elim h)|(rename_i UG;simp only at UG;subst UG)
 .exact absurd rfl Z
 .exact absurd rfl Z
 .exact absurd rfl Z
 .rename_i t;split at h
  .rename_i sz ag by_ ze tag ik e al fs QT;obtain⟨z,hz1,Sf⟩:=(hτ t _ QT).zeroV J;have hK:=fO h;simp only at Sf;have PR:=Ao sat (t:=t) (cs:=ze.map At.v) (fun c hc=>by simp at hc;obtain⟨v,_,rfl⟩:=hc;trivial);rw[fN]at PR;have hzz:z.cells=ze.toArray:=by apply Array.ext';simpa using Sf
   refine k9 (F:=J.alloc (.cells ze.toArray t)) (v:=.pointer (some ⟨J.heap.size,0,none⟩)) ?_ ?_
   .simp[execOp,Instr.alloc,hz1,newVar,newRow,hzz]
   .have:=U _ _ _ _ _ _ _ hK (sat.next PR be gN) (by simp[SV.sc,At.sc]);simpa [SV.den,At.den]using this
  .exact h.elim
 .rename_i t x;obtain⟨v,W,hv,hs⟩:=dT sat h;obtain⟨cs,hK,Oy,Re⟩:=mQ W;have PR:=Ao sat (t:=t) (Re nx hs);refine k9 (F:=J.alloc (.cells (cs.map (At.den O)).toArray t)) (v:=.pointer (some ⟨J.heap.size,0,none⟩)) ?_ ?_
  .simp[execOp,Instr.box,hv,newVar,newRow,Oy O]
  .have:=U _ _ _ _ _ _ _ hK (sat.next PR be gN) (by simp[SV.sc,At.sc]);simpa [SV.den,At.den]using this
 .exact absurd rfl Z
 .rename_i t m parts;split at h
  .rename_i sz ag by_ ze tag ik e al fs QT;have ht:=hτ t _ QT;split at h
   .rename_i Oh;have hu:=ht.i4 (eJ Oh);simp only at hu;split at h
    .rename_i sz' ag' by' ze' tag' ik' e' al' fs' PI
     have PI:=hτ e _ PI;obtain⟨inf,z,R,Od,Om,hz,Q6⟩:=PI.info;have RC:=PI.Bw;simp only at Od Om Q6 RC;split at h
     .rename_i hle;have hle:=Nat.le_of_ble_eq_true hle;have h0:=fO h;obtain⟨cs',hK,Oz,hlen,Pn⟩:=kM sat (placeF:=fun i=>some (i*inf.size,inf.size)) (fun i k Z=>⟨i*sz',sz',Z,by rw[Od]⟩) h0
       (fun c hc=>by obtain⟨v,_,rfl⟩:=bD.1 hc;trivial)
      rw[fN]at Pn;have RG:z.cells=ze'.toArray:=by apply Array.ext';simpa using Q6
      have VP:((List.replicate m ze').flatten).toArray=madeCells z.cells (m*inf.size):=by
       rw[RG,Od,<-RC];exact(rJ ze' m).symm
      have PR:=Ao sat (t:=e) Oz;refine k9 (F:=J.alloc (.cells (cs'.map (At.den O)).toArray e)) (v:=.slice (some ⟨J.heap.size,0,none⟩) m m) ?_ ?_
      .simp only[execOp]
       refine km ?_;rw[VP]at Pn;by_cases PW:m*inf.size=0
       .have Rh:Instr.fill (fun i=>some (i*inf.size,inf.size)) (madeCells z.cells 0) (parts.toList.map fun p=>(p.1,a.eval p.2))=some (cs'.map (At.den O)).toArray:=by rw[PW]at Pn;exact Pn
        have e0:madeCells z.cells 0= #[]:=by simp[madeCells]
        rw[e0]at Rh;have er:Array.range 0= #[]:=rfl;simp[Instr.buildSlice,run_underlying hu,sizeOf,typeInfo,zeroValue,R,hz,PW,newRow,Rh,er]
       .exact run_buildSlice J t e m _ _ inf z hu R hz (by rw[Od];omega) PW (by rw[<-Pn];simp[madeCells])
      .have:=U _ _ _ _ _ _ _ hK (sat.next PR be gN) (by simp[SV.sc,At.sc]);simpa [SV.den,At.den]using this
     .exact h.elim
    .exact h.elim
   .exact h.elim
  .exact h.elim
 .exact absurd rfl Z
 .rename_i t x y;obtain⟨v,W,hv,hs⟩:=dT sat h;obtain⟨u,I,hu,R9⟩:=dT sat W
  cases V:K3 H v u with
  |true=>
   rw[V]at I
   cases dr with
   |true=>exact I.elim
   |false=>
    have I:Ni P B _ l H nx iv w Fn:=I;obtain⟨F,w3,H',K,OU,PR,hK⟩:=I.h O J a.eval sat.rel (fun x v E=>(sn sat E).1);refine Hh (F:=w3) OU ?_;exact U _ _ _ _ _ _ _ hK (sat.next PR (ae _) (fun _ _=>rfl)) trivial
  |false=>
   rw[V]at I;obtain⟨H',F,w3,hK,PR,OU⟩:=CC hτ sat hs R9 I;refine Hh (F:=w3) (by simp[execOp,hv,hu,OU]) ?_;exact U _ _ _ _ _ _ _ hK (sat.next PR (ae _) (fun _ _=>rfl)) trivial
 .exact absurd rfl Z
 .exact absurd rfl Z
 .exact absurd rfl Z
 .exact absurd rfl Z
 .exact absurd rfl Z
 .rename_i t x y;obtain⟨v,W,hv,_⟩:=dT sat h;obtain⟨u,I,hu,_⟩:=dT sat W;obtain⟨r,H',OO,G9,F,hK,PR,hr,UX,GE,OU⟩:=Dj hτ sat I;refine k9 (F:=F) (by simp only[execOp,hv,hu];exact km OU) ?_;exact U _ _ _ _ _ _ _ hK (sat.next PR UX GE) hr
 .exact absurd rfl Z
 .exact absurd rfl Z
 .exact absurd rfl Z
 .exact absurd rfl Z
 .exact absurd rfl Z
 .exact absurd rfl Z
 .exact absurd rfl Z
 .rename_i x y t u;split at h
  .rename_i htu;have htu:=eJ htu;subst htu;obtain⟨v,W,hv,_⟩:=dT sat h;obtain⟨v2,I,RD,_⟩:=dT sat W;split at I
   .unfold Nj at I;split at I
    .exact I.elim
    .obtain⟨v,H',OO,K,G9,F,w3,OU,PR,hs,UX,GE,hK⟩:=I.h O J a.eval sat.rel (fun x v E=>(sn sat E).1);exact k9 OU (U _ _ _ _ _ _ _ hK (sat.next PR UX GE) hs)
   rcases I with I|I
   .obtain⟨r,H',OO,G9,F,hK,PR,hr,UX,GE,OU⟩:=An (ty:=ty) hτ sat I;refine k9 (v:=r.den G9) (F:=F) ?_ ?_
    .simp[execOp,resolve,invoke,builtin,hv,RD,OU]
    .exact U _ _ _ _ _ _ _ hK (sat.next PR UX GE) hr
   .exact iK I sat U
  .exact iK h sat U
 .exact absurd rfl Z
 .exact absurd rfl Z
 .exact iK h sat U
 .exact iK h sat U
 .exact iK h sat U
 .exact iK h sat U
 .exact iK h sat U
 .exact iK h sat U
 .exact iK h sat U
 .rename_i f args ats;obtain⟨v,W,hv,_⟩:=dT sat h;obtain⟨vs,I,QF,Re⟩:=rG sat W;have SX:(args.toArray).map a.eval=nt O vs:=by
   apply Array.ext';simp[nt,QF]
  have XO:∀(g:Nat) (args:(Nat->dc)->Array Value) (Fn:SV->Hp->Iv->World->Prop),Hf dr P B g args H nx iv w Fn->By P B g args H nx iv w Fn:=fun g args Fn h=>by
   cases dr
   .exact h
   .exact cM h
  split at I
  .rename_i g first caps
   refine xR sat (XO _ _ _ I) ?_ (fun v H' K F hK hs hv=>U _ _ _ _ _ _ _ hK hs hv);simp[execOp,resolve,hv,SV.den,At.den,Deferred.ofValue,invoke,SX]
  .rename_i g ids;refine xR sat (XO _ _ _ I) ?_ (fun v H' K F hK hs hv=>U _ _ _ _ _ _ _ hK hs hv);simp[execOp,resolve,hv,SV.den,At.den,Deferred.ofValue,invoke,SX]
  .exact I.elim
end
def Ex.to:Ex->Exit
 | .normal=>.normal
 | .exit id=>.exit id
 | .ret=>.ret
def Ks(n:Nat)(o:Oper):Bool:=match o.dst with
 |some d=>Nat.blt d n
 |none=>true
def codeOk(n:Nat):Code->Bool
 | .region _ ops _=>ops.toList.all (Ks n)
 | .seq a b=>codeOk n a&&codeOk n b
 | .cond _ a b=>codeOk n a&&codeOk n b
 | .block _ c=>codeOk n c
 | .loop c=>codeOk n c
 |_=>true
section
variable{P:Program}{τ:lO}{B n nx:Nat}{l:Env}{H:Hp}{iv:Iv}{w J:World}{O:Nat->dc}{a:Act}
theorem Sat.put(sat:Sat n l H nx iv B w O a J){d:Nat}(hd:d<n){v:SV}(hv:v.sc nx):Sat n ((d,v)::l) H nx iv B w O (a.put (some d) (v.den O)) J:=by
 refine⟨sat.rel,by simp[Act.put,sat.size],sat.defers,fun t u h=>?_,fun t u h=>?_⟩
 .rw[eU]at h;split at h
  .rename_i e;subst e;injection h with h;subst h;simp[Act.put,sat.size,hd]
  .rename_i e;have:=sat.env t u h;simpa [Act.put,Array.getElem?_setIfInBounds_ne e]using this
 .rw[eU]at h;split at h
  .injection h with h;subst h;exact hv
  .exact sat.sc t u h
theorem fI(sat:Sat n l H nx iv B w O a J){v:SV}{k:Env->Prop}(h:Br d v l k)(hd:∀t,d=some t->t<n)(hv:v.sc nx):
  ∃l',k l'/\Sat n l' H nx iv B w O (a.put d (v.den O)) J:=by
 unfold Br at h;split at h
 .rename_i t;exact⟨_,h,sat.put (hd t rfl) hv⟩
 .exact⟨l,h,sat⟩
theorem sM:∀{all:List Oper} {j:Nat},zf all j=(all[j]?).bind (·.dst)
 |[],j=>by simp[zf]
 |o::r,0=>by simp[zf]
 |o::r,j+1=>by simp[zf,sM (all:=r)]
theorem Sat.ME(sat:Sat n l H nx iv B w O a J){d:Nat}{v:SV}(hd:a.tmps[d]? =some (v.den O))(hv:v.sc nx):Sat n ((d,v)::l) H nx iv B w O a J:=by
 refine⟨sat.rel,sat.size,sat.defers,fun t u h=>?_,fun t u h=>?_⟩
 .rw[eU]at h;split at h
  .rename_i e;subst e;injection h with h;subst h;exact hd
  .exact sat.env t u h
 .rw[eU]at h;split at h
  .injection h with h;subst h;exact hv
  .exact sat.sc t u h
theorem ja(sat:Sat n l H nx iv B w O a J){all:List Oper}{o:Oper}{yes no:Env->Prop}(h:rH all o.guard l yes no):
  (Region.wanted o (yielded all.toArray a.tmps)=true/\∃l',yes l'/\Sat n l' H nx iv B w O a J)\/(Region.wanted o (yielded all.toArray a.tmps)=false/\∃l',no l'/\Sat n l' H nx iv B w O a J):=by
 unfold rH at h;split at h
 .rename_i V;exact .inl ⟨by simp[Region.wanted,V],l,h,sat⟩
 .rename_i j want V;have hy:Region.wanted o (yielded all.toArray a.tmps)=(yielded all.toArray a.tmps j==some want):=by simp[Region.wanted,V]
  split at h
  .rename_i hd;rw[sM]at hd;exact .inr ⟨by rw[hy];simp[yielded,hd],l,h,sat⟩
  .rename_i d hd;rw[sM]at hd;split at h
   .rename_i b N;have ht:=sat.env d _ N;have WM:yielded all.toArray a.tmps j=some b:=by simp[yielded,hd,ht,SV.den,At.den]
    have hkt:b=true->Sat n ((d,.o (.v (.bool true)))::l) H nx iv B w O a J:=fun e=>sat.ME (by rw[ht,e]) trivial;have hkf:b=false->Sat n ((d,.o (.v (.bool false)))::l) H nx iv B w O a J:=fun e=>sat.ME (by rw[ht,e]) trivial;split at h
    .cases OX:b
     .exact .inr ⟨by rw[hy,WM,OX];rfl,_,h.f OX,hkf OX⟩
     .exact .inl ⟨by rw[hy,WM,OX];rfl,_,h.t OX,hkt OX⟩
    .cases OX:b
     .exact .inl ⟨by rw[hy,WM,OX];rfl,_,h.f OX,hkf OX⟩
     .exact .inr ⟨by rw[hy,WM,OX];rfl,_,h.t OX,hkt OX⟩
   .rename_i vs N;have ht:=sat.env d _ N;exact .inr ⟨by rw[hy];simp[yielded,hd,ht,SV.den,At.den],l,h,sat⟩
   .exact h.elim
theorem pc(hτ:en P τ){all:List Oper}{Fn:KT}{Q:Exit->Act->World->Prop}
  (hQ:∀l' H' OO K F G9 a' w3,Fn l' H' OO K F->Sat n l' H' OO K B F G9 a' w3->Q .normal a' w3):
  ∀(rest:List Oper) (l:Env) (H:Hp) (nx:Nat) (iv:Iv) (w:World) (O:Nat->dc) (a:Act) (J:World),rest.all (Ks n)=true->uj P τ B all rest l H nx iv w Fn->Sat n l H nx iv B w O a J->
   wpList P all.toArray Q rest a J
 |[],l,H,nx,iv,w,O,a,J,_,h,sat=>wpList_nil (hQ _ _ _ _ _ _ _ _ h sat)
 |o::r,l,H,nx,iv,w,O,a,J,OV,h,sat=>by
  simp only[List.all_cons,aq]at OV;have hd:∀t,o.dst=some t->t<n:=fun t ht=>by
   have:=OV.1;simp only[Ks,ht]at this;have h5:t+1<=n:=by simpa [Nat.blt]using this
   exact h5
  refine wpList_step fun Kc hKc=>?_;unfold uj eh at h;rcases ja sat h with⟨Y,l1,W,sat1⟩|⟨Y,l1,W,sat1⟩
  .rw[aM Y];refine lW hτ W sat1 fun v H' OO K F G9 w3 I sat2 hv=>?_;obtain⟨l2,h3,sat3⟩:=fI sat2 I hd hv;exact hKc _ _ (pc hτ hQ r _ _ _ _ _ _ _ _ OV.2 h3 sat3)
  .rw[aK (by simp[Y])];obtain⟨l2,h3,sat3⟩:=fI sat1 W hd trivial;exact hKc _ _ (pc hτ hQ r _ _ _ _ _ _ _ _ OV.2 h3 sat3)
theorem Sub.sat{t:CB}(h:Sub B l nx O J t)(sat:Sat n l H nx iv B w O a J):∃G9,Sat n t.l t.H t.nx t.iv B t.w G9 a J:=by
 obtain⟨G9,W,I⟩:=h;refine⟨G9,W,sat.size,sat.defers,fun u v hv=>?_,fun u v hv=>(I u v hv).1⟩;obtain⟨_,v0,h3,h4⟩:=I u v hv;rw[sat.env u v0 h3,h4]
theorem gq(hτ:en P τ):∀(c:Code) (l:Env) (H:Hp) (nx:Nat) (iv:Iv) (w:World) (Q':Ex->KT),jW P τ B c l H nx iv w Q'->codeOk n c=true->
  ∀(O:Nat->dc) (a:Act) (J:World),Sat n l H nx iv B w O a J->∀Q:Exit->Act->World->Prop,(∀e l' H' OO K F G9 a' w3,Q' e l' H' OO K F->Sat n l' H' OO K B F G9 a' w3->Q e.to a' w3)->c.wp P Q a J
 | .skip,l,H,nx,iv,w,Q',h,_,O,a,J,sat,Q,hQ=>wp_skip (hQ .normal _ _ _ _ _ _ _ _ h sat)
 | .region id ops false,l,H,nx,iv,w,Q',h,OV,O,a,J,sat,Q,hQ=>by
  obtain⟨ol⟩:=ops;exact wp_region_lit (pc hτ (fun l' H' OO K F G9 a' w3 Z hs=>hQ .normal _ _ _ _ _ _ _ _ Z hs) ol _ _ _ _ _ _ _ _ OV h sat)
 | .region id ops true,l,H,nx,iv,w,Q',h,OV,O,a,J,sat,Q,hQ=>
  nu.h h n O a J OV sat Q (fun l' H' OO K F G9 a' w3 Z hs=>hQ .normal _ _ _ _ _ _ _ _ Z hs) id
 | .seq c d,l,H,nx,iv,w,Q',h,OV,O,a,J,sat,Q,hQ=>by
  simp only[codeOk,aq]at OV;refine wp_seq (gq hτ c _ _ _ _ _ _ h OV.1 O a J sat _ fun e l' H' OO K F G9 a' w3 Z hs=>?_)
  cases e with
  |normal=>exact gq hτ d _ _ _ _ _ _ Z OV.2 G9 a' w3 hs Q hQ
  |exit id=>exact hQ (.exit id) _ _ _ _ _ _ _ _ Z hs
  |ret=>exact hQ .ret _ _ _ _ _ _ _ _ Z hs
 | .cond x c d,l,H,nx,iv,w,Q',h,OV,O,a,J,sat,Q,hQ=>by
  simp only[codeOk,aq]at OV;obtain⟨v,W,hv,QF⟩:=dT sat h;clear QF;split at W
  .rename_i t;refine wp_cond_split (t:=t) (by rw[hv];rfl) (fun ht=>?_) (fun ht=>?_)
   .exact gq hτ c _ _ _ _ _ _ (W.t ht) OV.1 O a J sat Q hQ
   .exact gq hτ d _ _ _ _ _ _ (W.f ht) OV.2 O a J sat Q hQ
  .exact W.elim
 | .block id c,l,H,nx,iv,w,Q',h,OV,O,a,J,sat,Q,hQ=>by
  refine wp_block (gq hτ c _ _ _ _ _ _ h OV O a J sat _ fun e l' H' OO K F G9 a' w3 Z hs=>?_)
  cases e with
  |normal=>exact hQ .normal _ _ _ _ _ _ _ _ Z hs
  |exit id'=>
   simp only[Ex.to,Exit.inBlock]
   simp only at Z;split at Z
   .rename_i G;rw[aM (eJ G)];exact hQ .normal _ _ _ _ _ _ _ _ Z hs
   .rename_i G;rw[aK (fun e=>by subst e;rw[Nat.beq_refl]at G;cases G)];exact hQ (.exit id') _ _ _ _ _ _ _ _ Z hs
  |ret=>exact hQ .ret _ _ _ _ _ _ _ _ Z hs
 | .loop c,l,H,nx,iv,w,Q',h,OV,O,a,J,sat,Q,hQ=>by
  obtain⟨α,st,μ,E9,h0,hr⟩:=h;intro b k cs;have key:∀m x O a J,μ x=m->E9 x->Sat n (st x).l (st x).H (st x).nx (st x).iv B (st x).w O a J->
    ∃e a' F,Q e a' F/\Arrives P (lone (b.at a (.code c:: .inLoop c::k)) cs J) b k cs e a' F:=by
   intro m
   induction m using Nat.strongRecOn with
   |_ m ih=>
    intro x O a J hm hI hs;have hc:=gq hτ c _ _ _ _ _ _ (hr x hI) OV O a J hs
     (fun e a2 F=>match e with
      | .normal=>∃y GT,E9 y/\Sat n (st y).l (st y).H (st y).nx (st y).iv B (st y).w GT a2 F/\μ y<μ x
      |e=>Q e a2 F) (fun e l' H' OO K F G9 a' w3 Z TU=>by
       cases e with
       |normal=>
        obtain⟨y,hIy,hy,Oo⟩:=Z G9 w3 TU.rel;obtain⟨GT,R9⟩:=hy.sat TU;exact⟨y,GT,hIy,R9,Oo⟩
       |exit id=>exact hQ (.exit id) _ _ _ _ _ _ _ _ Z TU
       |ret=>exact hQ .ret _ _ _ _ _ _ _ _ Z TU)
    obtain⟨e,a₁,w₁,hq,Sw⟩:=hc b (.inLoop c::k) cs
    cases e with
    |normal=>
     obtain⟨y,GT,hIy,R9,Oo⟩:=hq;obtain⟨e₂,a₂,w₂,hq₂,harr₂⟩:=ih (μ y) (hm▸Oo) y GT a₁ w₁ rfl hIy R9;exact⟨e₂,a₂,w₂,hq₂,.of_steps (Steps.trans Sw (.one step_inLoop)) harr₂⟩
    |exit id=>exact⟨_,a₁,w₁,hq,.pass (x:=.inLoop c) rfl (fun _ _=>.inl ce) Sw⟩
    |goto l=>exact⟨_,a₁,w₁,hq,.pass (x:=.inLoop c) rfl (fun _ _=>.inl ce) Sw⟩
    |ret=>exact⟨_,a₁,w₁,hq,.pass (x:=.inLoop c) rfl (fun _ _=>.inl ce) Sw⟩
    |panic ch=>exact⟨_,a₁,w₁,hq,.pass (x:=.inLoop c) rfl (fun _ _=>.inl ce) Sw⟩
    |outgrown=>exact⟨_,a₁,w₁,hq,.pass (x:=.inLoop c) rfl (fun _ _=>.inl ce) Sw⟩
  obtain⟨x,hIx,E⟩:=h0 O J sat.rel;obtain⟨GT,R9⟩:=E.sat sat;obtain⟨e,a',F,hq,Sw⟩:=key _ x GT a J rfl hIx R9;exact⟨e,a',F,hq,.of_steps (.one step_loop) Sw⟩
 | .exit id,l,H,nx,iv,w,Q',h,_,O,a,J,sat,Q,hQ=>wp_exit (hQ (.exit id) _ _ _ _ _ _ _ _ h sat)
 | .ret,l,H,nx,iv,w,Q',h,_,O,a,J,sat,Q,hQ=>wp_ret (hQ .ret _ _ _ _ _ _ _ _ h sat)
 | .rangeFunc _ _ _ _,l,H,nx,iv,w,Q',h,_,O,a,J,sat,Q,hQ=>h.elim
 | .scope _,l,H,nx,iv,w,Q',h,_,O,a,J,sat,Q,hQ=>h.elim
 | .label _,l,H,nx,iv,w,Q',h,_,O,a,J,sat,Q,hQ=>h.elim
 | .goto _,l,H,nx,iv,w,Q',h,_,O,a,J,sat,Q,hQ=>h.elim
 | .refuse _,l,H,nx,iv,w,Q',h,_,O,a,J,sat,Q,hQ=>h.elim
def gW:Nat->List Value->Env
 |_,[]=>[]
 |k,v::r=>(k,.o (.v v))::gW (k+1) r
theorem sN:∀(vs:List Value) (k t:Nat) (v:SV),fH (gW k vs) t=some v->k<=t/\∃x,v= .o (.v x)/\vs[t-k]? =some x
 |[],k,t,v,h=>by simp[gW,fH]at h
 |x::r,k,t,v,h=>by
  rw[gW,eU]at h;split at h
  .rename_i e;subst e;injection h with h;subst h;exact⟨ae _,x,rfl,ce⟩
  .obtain⟨W,y,I,h3⟩:=sN r (k+1) t v h;refine⟨be,y,I,?_⟩;rw[show t-k=(t-(k+1))+1 by omega];simpa using h3
def CI(τ:lO)(B:Nat)(l:Env)(H:Hp)(nx:Nat)(iv:Iv)(w:World):List ResultVar->(List SV->Prop)->Prop
 |[],k=>k []
 | .tmp t::r,k=>match fH l t with
  |some v=>CI τ B l H nx iv w r (fun vs=>k (v::vs))
  |none=>False
 | .cell t ty::r,k=>match fH l t with
  |some v=>xM τ B ty v H nx iv w (fun u=>CI τ B l H nx iv w r (fun vs=>k (u::vs)))
  |none=>False
def Hj(B:Nat)(H:Hp)(nx:Nat)(iv:Iv)(w:World)(FS:Ending->World->Prop):List SV->Prop
 |[v]=>∀O J,Rel H nx iv B w O J->FS (.returned (v.den O)) J
 |vs=>∀O J,Rel H nx iv B w O J->FS (.returned (.tuple (nt O vs))) J
def Kt(τ:lO)(B:Nat)(rs:List ResultVar)(FS:Ending->World->Prop):Ex->KT
 | .exit _,_,_,_,_,_=>False
 | .normal,l,H,nx,iv,w=>CI τ B l H nx iv w rs (Hj B H nx iv w FS)
 | .ret,l,H,nx,iv,w=>CI τ B l H nx iv w rs (Hj B H nx iv w FS)
def Hk(tmps:Array Value):ResultVar->Sem Value
 | .tmp t=>pure (tmps.getD t undef)
 | .cell c t=>do loadVar t (<-asAddr (tmps.getD c undef))
theorem uB(hτ:en P τ)(sat:Sat n l H nx iv B w O a J):∀{rs:List ResultVar} {k:List SV->Prop},CI τ B l H nx iv w rs k->
  ∃vs,k vs/\(rs.mapM (Hk a.tmps)).run P J= .ok (vs.map (SV.den O)) J
 |[],k,h=>⟨[],h,ce⟩
 | .tmp t::r,k,h=>by
  unfold CI at h;split at h
  .rename_i v hv;obtain⟨vs,W,I⟩:=uB hτ sat h;have:=sat.env t v hv;exact⟨v::vs,W,by rw[List.mapM_cons,Sem.run_bind];simp[Hk,this,I]⟩
  .exact h.elim
 | .cell t ty::r,k,h=>by
  unfold CI at h;split at h
  .rename_i v hv;obtain⟨u,W,hu,XP⟩:=l9 hτ sat.rel (sat.sc t v hv) h;have OU:=XP J sat.rel;clear XP;obtain⟨vs,I,h3⟩:=uB hτ sat W;have htm:=sat.env t v hv;refine⟨u::vs,I,?_⟩;have:(do loadVar ty (<-asAddr (v.den O)):Sem Value).run P J= .ok (u.den O) J:=by
    revert OU;generalize v.den O=x;intro OU
    cases x with
    |pointer ad=>
     cases ad with
     |some ad=>simpa [asAddr,Instr.loadAt,Instr.sureAddr]using OU
     |none=>simp[Instr.loadAt,Instr.sureAddr]at OU
    |_=>simp[Instr.loadAt,Instr.sureAddr]at OU
   have h4:(Hk a.tmps (.cell t ty)).run P J= .ok (u.den O) J:=by
    have e:a.tmps.getD t undef=v.den O:=by simp[htm]
    show(do loadVar ty (<-asAddr (a.tmps.getD t undef)):Sem Value).run P J=_;rw[e];exact this
   rw[List.mapM_cons,Sem.run_bind,h4];simp[h3]
  .exact h.elim
theorem CJ(hτ:en P τ){f:FuncId}{fn:Func}{c:Code}{args:Array Value}{w:World}(hf:P.funcs[f]? =some fn)(N:fn.body=some c)
  (U:args.size<=fn.ntmps) (OV:codeOk fn.ntmps c=true) (h:jW P τ w.heap.size c (gW 0 args.toList) [] 0 [] w (Kt τ w.heap.size fn.results.toList FS)):Calls P f args w FS:=by
 refine calls_of_wp hf N ?_;have sat:Sat fn.ntmps (gW 0 args.toList) [] 0 [] w.heap.size w (fun _=>⟨0,0,true⟩) {tmps:=args++Array.replicate (fn.ntmps-args.size) undef,defers:=[]} w:=by
  refine⟨Rel.mk' rfl rfl rfl (ae _) (ae _) ce (by simp[dF]) (by simp[dF]) (by simp[dF]) (by simp[dF]) (by simp[dF]) (fun _ _ _=>rfl) ce,by simp;omega,rfl,fun t v hv=>?_,fun t v hv=>?_⟩
  .obtain⟨_,x,rfl,E⟩:=sN _ 0 t v hv;simp only[Nat.sub_zero,aX]at E;rw[Array.getElem?_append_left (aZ.1 E).1,E];rfl
  .obtain⟨_,x,rfl,E⟩:=sN _ 0 t v hv;trivial
 refine gq hτ c _ _ _ _ _ _ h OV _ _ _ sat _ fun e l' H' OO K F G9 a' w3 Z hs=>?_;have fin:CI τ w.heap.size l' H' OO K F fn.results.toList (Hj w.heap.size H' OO K F FS)->a'.defers=[]/\∃v,(results fn a'.tmps).run P w3= .ok v w3/\FS (.returned v) w3:=by
  intro Z;obtain⟨vs,W,I⟩:=uB hτ hs Z;refine⟨hs.defers,if Od:(vs.map (SV.den G9)).toArray.size=1 then(vs.map (SV.den G9)).toArray[0]else .tuple (vs.map (SV.den G9)).toArray,?_,?_⟩
  .have e:(fn.results.mapM (Hk a'.tmps)).run P w3= .ok (vs.map (SV.den G9)).toArray w3:=by
    rw[Array.mapM_eq_mapM_toList];simp only[Sem.run_map,I,Result.andThen_ok]
   show(do let vs <-fn.results.mapM (Hk a'.tmps);pure (if h:vs.size=1 then vs[0]else .tuple vs):Sem Value).run P w3=_;rw[Sem.run_bind,e];simp only[Result.andThen_ok,Sem.run_pure]
  .match vs,W with
   |[v],W=>simpa using W G9 w3 hs.rel
   |[],W=>simpa [nt]using W G9 w3 hs.rel
   |v1::v2::r,W=>simpa [nt]using W G9 w3 hs.rel
 cases e with
 |normal=>exact fin Z
 |exit id=>exact Z.elim
 |ret=>exact fin Z
end
section
variable{P:Program}{ops:Array Oper}{Q:Exit->Act->World->Prop}{md:Region.Mode}
def gv(P:Program)(ops:Array Oper)(pu:Bool)(o:Oper)(v:Value)(a:Act)(w:World):Prop:=
 (Region.wanted o (yielded ops a.tmps)=true/\∀F,(pu=true\/Ext w F)->(execOp a.eval o).run P F= .ok (.value v) F)\/
 (Region.wanted o (yielded ops a.tmps)=false/\v=undef)
theorem Ext.refl(w:World):Ext w w:=RowKit.Below.refl _ _
theorem Ext.trans{a b c:World}(h:Ext a b)(k:Ext b c):Ext a c:=RowKit.Below.trans h (k.mono h.size)
theorem gv.wpOp{i:Nat}{o:Oper}{a:Act}(R:ops[i]? =some o)(hy:gv P ops pu o v a w)
  {Fn:Act->World->Prop} (h:Fn (a.put o.dst v) w):wpOp P ops Q i Fn a w:=by
 unfold Go.wpOp;simp only[R]
 rcases hy with⟨Y,hv⟩|⟨Y,rfl⟩
 .simp only[Y,if_true,Oper.wp,hv w (.inr (Ext.refl w)),Oper.upon];exact .inl h
 .simp only[Y,Bool.false_eq_true,if_false];exact h
theorem gv.of_same{o:Oper}{a a':Act}(hy:gv P ops pu o v a w)(G:execOp a'.eval o=execOp a.eval o)
  (Y:Region.wanted o (yielded ops a'.tmps)=Region.wanted o (yielded ops a.tmps)):gv P ops pu o v a' w:=by
 unfold gv at*
 rw[G,Y];exact hy
theorem gv.ext{o:Oper}{a:Act}(hy:gv P ops pu o v a w)(e:pu=true\/Ext w F):gv P ops pu o v a F:=
 hy.imp (fun ⟨W,I⟩=>⟨W,fun w3 h3=>I w3 (by
  rcases h3 with h3|h3
  .exact .inl h3
  .exact e.imp id (fun e=>e.trans h3))⟩) id
theorem GM{oi oj:Oper}{w0:World}(hj:ops[j]? =some oj)(RJ:oi.apart ops oj=true)
  (hsi:∀cs b,oi.op≠ .select cs b) (hsj:∀cs b,oj.op≠ .select cs b)
  (hQ:∀c a w,Q (.panic c) (a.put oi.dst v) w->Q (.panic c) a w) {Fn:Act->World->Prop} {a:Act}
  (hy:gv P ops pu oi v a w0) (h:wpOp P ops Q j Fn (a.put oi.dst v) w):
  wpOp P ops Q j (fun a' J=>gv P ops pu oi v a' w0/\Fn (a'.put oi.dst v) J) a w:=by
 obtain⟨W,I,h3⟩:=Oper.apart_spec RJ;have cP:∀(a:Act),gv P ops pu oi v a w0->∀u,gv P ops pu oi v (a.put oj.dst u) w0:=fun a hy u=>
  hy.of_same (execOp_put oi hsi a oj.dst u h3) (wanted_put oi a oj.dst u h3)
 have keepD:∀d,gv P ops pu oi v {a with defers:=d::a.defers} w0:=fun d=>hy.of_same rfl rfl;unfold wpOp at*
 simp only[hj]at*
 rw[wanted_put oj a oi.dst v W]at h;split
 .rename_i Y;simp only[Y,if_true]at h;rcases h with h|⟨Sy,VQ⟩
  case inr=>exact .inr ⟨by unfold Oper.asks at *;rw[execOp_put oj hsj a oi.dst v W]at Sy;exact Sy,VQ⟩
  refine .inl ?_;unfold Oper.wp at*
  rw[execOp_put oj hsj a oi.dst v W]at h;generalize (execOp a.eval oj).run P w=r at*
  cases r with
  |ok n J=>
   cases n<;>simp only[Oper.upon]at h ⊢
   case value u=>exact⟨cP a hy u,by rw[<-Act.put_comm a v u I];exact h⟩
   case skip=>exact⟨cP a hy _,by rw[<-Act.put_comm a v undef I];exact h⟩
   case defer d=>
    refine⟨cP _ (keepD d) _,?_⟩;rw[<-Act.put_comm _ v undef I,<-Act.put_defers];exact h
   case enter f args=>
    refine Calls.mono h fun e w'' G=>?_
    cases e with
    |returned u=>exact⟨cP a hy u,by rw[<-Act.put_comm a v u I];exact G⟩
    |panicked c=>exact hQ _ _ _ G
    |outgrown=>exact G
   case row row args=>exact Rows.mono h fun u w'' G=>⟨cP a hy u,by rw[<-Act.put_comm a v u I];exact G⟩
  |halt x J=>
   cases x<;>simp only[Oper.upon]at h ⊢
   case panic u=>exact hQ _ _ _ h
 .rename_i Y;simp only[Y]at h;exact⟨cP a hy _,by rw[<-Act.put_comm a v undef I];exact h⟩
def rX(o:Oper):Bool:= !(lG o.op||Ae o.op||(match o.op with
 | .call ⟨.value _,_,_⟩=> !(Nat.beq o.type 0)
 |_=>false))
def ff(o:Oper):Bool:=match o.op with
 | .call ⟨.value _,_,_⟩=>Nat.beq o.type 0
 |_=>false
theorem sK{o:Oper}(h:lG o.op=true):ff o=false:=by
 unfold ff;split
 .rename_i e;rw[e]at h
  cases h
 .rfl
theorem Da{o:Oper}(h:Ae o.op=true):ff o=false:=by
 unfold ff;split
 .rename_i e;rw[e]at h
  cases h
 .rfl
theorem rq{o:Oper}(h:rX o=false):ff o=false:=by
 unfold ff;split
 .rename_i e;simp only[rX,e,lG,Ae,Bool.false_or,Bool.not_not]at h;exact h
 .rfl
def tw(P:Program)(md:Region.Mode)(ops:Array Oper)(Q:Exit->Act->World->Prop):Nat->Array Bool->Act->World->Prop
 |0,listed,a,w=>Region.ready md ops listed=[]/\Q .normal a w
 |fuel+1,listed,a,w=>
  (Region.ready md ops listed=[]->Q .normal a w)/\
  ∀i∈Region.ready md ops listed,wpOp P ops Q i (fun a' J=>((∀o,ops[i]? =some o->rX o=false)->Ext w J)/\tw P md ops Q fuel (listed.setIfInBounds i true) a' J) a w
theorem xH:∀(fuel:Nat) (listed:Array Bool) (a:Act) (w:World),tw P md ops Q fuel listed a w->wpAny P md ops Q fuel listed a w
 |0,_,_,_,h=>h
 |fuel+1,_,_,_,h=>⟨h.1,fun i R=>wpOp_mono (fun a' J h'=>xH fuel _ a' J h'.2) (h.2 i R)⟩
theorem sf{i:Nat}{oi:Oper}(R:ops[i]? =some oi)(Oc:∀(j:Nat) (o:Oper) cs b,ops[j]? =some o->o.op≠ .select cs b)
  (hQ:∀c a w,Q (.panic c) (a.put oi.dst v) w->Q (.panic c) a w) (kL:Nat->Prop) (PS:∀j,kL j->∃oj e,ops[j]? =some oj/\e∈oj.after/\Region.binds md e=true/\(e.on=i\/kL e.on)):
  ∀(fuel:Nat) (listed:Array Bool) (a:Act) (w:World),(∀j,kL j->listed.getD j false=false)->
   (∀j oj,ops[j]? =some oj->j≠i->listed.getD j true=false->¬kL j->oi.apart ops oj=true/\(pu=true\/rX oj=false))->
   i∈Region.ready md ops listed->gv P ops pu oi v a w->
   tw P md ops Q fuel (listed.setIfInBounds i true) (a.put oi.dst v) w->tw P md ops Q (fuel+1) listed a w:=by
 intro fuel
 induction fuel with
 |zero=>
  intro listed a w _ _ hr hy H;refine⟨fun h=>(by rw[h]at hr;cases hr),fun j hj=>?_⟩;by_cases Ov:j=i
  .subst Ov;exact hy.wpOp R ⟨fun _=>Ext.refl w,H⟩
  .have:=ready_mono hj Ov;rw[H.1]at this
   cases this
 |succ fuel ih=>
  intro listed a w OQ Q5 hr hy H;refine⟨fun h=>(by rw[h]at hr;cases hr),fun j hj=>?_⟩;by_cases Ov:j=i
  .subst Ov;exact hy.wpOp R ⟨fun _=>Ext.refl w,H⟩
  .have W:=H.2 j (ready_mono hj Ov);obtain⟨VR,oj,QZ,Q7⟩:=mem_ready.1 hj;have PF:¬kL j:=fun N=>by
    obtain⟨oj',e,SY,G,UY,Uv⟩:=PS j N;rw[QZ]at SY;injection SY with SY;subst SY;have W:=Q7 e G UY;rcases Uv with heq|PD
    .have h0:=(mem_ready.1 hr).1;rw[heq]at W;rcases az i listed.size with h'|h'
     .simp[h']at h0 W;rw[h0]at W;cases W
     .simp[Array.getElem?_eq_none h']at W
    .rw[OQ _ PD]at W;cases W
   have hfj:=Q5 j oj QZ Ov VR PF;have I:=GM QZ hfj.1 (fun cs b=>Oc i oi cs b R) (fun cs b=>Oc j oj cs b QZ) hQ hy W;have hbl':∀k,kL k->(listed.setIfInBounds j true).getD k false=false:=fun k Z=>by
    rw[getD_set_ne false (fun e=>(by subst e;exact PF Z))];exact OQ k Z
   have Tk:∀k ok,ops[k]? =some ok->k≠i->(listed.setIfInBounds j true).getD k true=false->
     ¬kL k->oi.apart ops ok=true/\(pu=true\/rX ok=false):=fun k ok Z TA US SJ=>by
    refine Q5 k ok Z TA ?_ SJ;by_cases VS:j=k
    .subst VS;exact VR
    .rw[getD_set_ne true VS]at US;exact US
   refine wpOp_mono (fun a' J h3=>?_) I;have Sa:rX oj=false->Ext w J:=fun hf=>h3.2.1 (fun o ho=>by rw[QZ]at ho;injection ho with ho;subst ho;exact hf);refine⟨fun hh=>Sa (hh oj QZ),ih (listed.setIfInBounds j true) a' J hbl' Tk (ready_mono hr (Ne.symm Ov)) (h3.1.ext (hfj.2.imp id Sa)) ?_⟩;rw[Array.setIfInBounds_comm _ _ Ov];exact h3.2.2
end
section
variable{P:Program}{τ:lO}{B n nx:Nat}{l:Env}{H:Hp}{iv:Iv}{w J:World}{O:Nat->dc}{a:Act}
def AL(P:Program)(o:Oper)(a:Act)(mk:Nat->Value)(obj:Obj):Prop:=
 ∀w:World,(execOp a.eval o).run P w= .ok (.value (mk w.heap.size)) (w.alloc obj)
theorem AL.uniq{o:Oper}{mk':Nat->Value}{obj':Obj}(h:AL P o a mk obj)(h':AL P o a mk' obj'):obj=obj'/\mk=mk':=by
 have key:∀w:World,mk w.heap.size=mk' w.heap.size/\w.alloc obj=w.alloc obj':=fun w=>by
  have:=(h w).symm.trans (h' w);injection this with W I;injection W with W;exact⟨W,I⟩
 refine⟨?_,funext fun g=>?_⟩
 .have:=(key default).2;have I:=congrArg (fun w:World=>w.heap[(default:World).heap.size]?) this;simp only[heap_alloc_new]at I;injection I
 .have:=(key {(default:World)with heap:=Array.replicate g default}).1;simpa using this
theorem lV(hτ:en P τ){o:Oper}(h:xA dr P τ B o l H nx iv w Fn)(sat:Sat n l H nx iv B w O a J)(Z:Ae o.op=true):
  ∃b v mk obj,Fn v ((nx,b)::H) (nx+1) iv w/\b≠ .dead/\b.scopd nx/\v.sc (nx+1)/\(∀g,v.den (gn O nx ⟨g,0,false⟩)=mk g)/\(∀g F,F.heap[g]? =some obj->b.fits O ⟨g,0,false⟩ F)/\AL P o a mk obj:=by
 obtain⟨dst,op,ty,pos,after,guard⟩:=o;unfold xA at h;split at h<;>first|(exact False.elim h)|(rename_i UG;simp only at UG;subst UG)
 all_goals first|(exact absurd Z Bool.false_ne_true)|skip
 .rename_i t;split at h
  .rename_i sz ag by_ ze tag ik e al fs QT;have hK:=fO h;refine⟨_,_,fun g=>.pointer (some ⟨g,0,none⟩),.cells ze.toArray t,hK,ce,(fun c hc=>by obtain⟨v,_,rfl⟩:=bD.1 hc;trivial),by simp[SV.sc,At.sc],fun g=>by simp[SV.den,At.den],fun g F V=>⟨rfl,by rw[fN];exact V⟩,fun w=>?_⟩;obtain⟨z,hz1,Sf⟩:=(hτ t _ QT).zeroV w;simp only at Sf;have hzz:z.cells=ze.toArray:=by apply Array.ext';simpa using Sf
   simp[execOp,Instr.alloc,hz1,newVar,newRow,hzz]
  .exact h.elim
 .rename_i t x;obtain⟨v,W,hv,hs⟩:=dT sat h;obtain⟨cs,hK,Oy,Re⟩:=mQ W;refine⟨_,_,fun g=>.pointer (some ⟨g,0,none⟩),.cells (cs.map (At.den O)).toArray t,hK,ce,Re nx hs,by simp[SV.sc,At.sc],fun g=>by simp[SV.den,At.den],fun g F V=>⟨rfl,V⟩,fun w=>?_⟩;simp[execOp,Instr.box,hv,newVar,newRow,Oy O]
 .rename_i t m parts;split at h
  .rename_i sz ag by_ ze tag ik e al fs QT;have ht:=hτ t _ QT;split at h
   .rename_i Oh;have hu:=ht.i4 (eJ Oh);simp only at hu;split at h
    .rename_i sz' ag' by' ze' tag' ik' e' al' fs' PI
     have PI:=hτ e _ PI;obtain⟨inf,z,R,Od,Om,hz,Q6⟩:=PI.info;have RC:=PI.Bw;simp only at Od Om Q6 RC;split at h
     .rename_i hle;have hle:=Nat.le_of_ble_eq_true hle;have h0:=fO h;obtain⟨cs',hK,Oz,hlen,Pn⟩:=kM sat (placeF:=fun i=>some (i*inf.size,inf.size)) (fun i k Z=>⟨i*sz',sz',Z,by rw[Od]⟩) h0
       (fun c hc=>by obtain⟨v,_,rfl⟩:=bD.1 hc;trivial)
      rw[fN]at Pn;have RG:z.cells=ze'.toArray:=by apply Array.ext';simpa using Q6
      have VP:((List.replicate m ze').flatten).toArray=madeCells z.cells (m*inf.size):=by
       rw[RG,Od,<-RC];exact(rJ ze' m).symm
      refine⟨_,_,fun g=>.slice (some ⟨g,0,none⟩) m m,.cells (cs'.map (At.den O)).toArray e,hK,ce,Oz,by simp[SV.sc,At.sc],fun g=>by simp[SV.den,At.den],fun g F V=>⟨rfl,V⟩,fun w=>?_⟩;simp only[execOp]
      refine km ?_;rw[VP]at Pn;by_cases PW:m*inf.size=0
      .have Rh:Instr.fill (fun i=>some (i*inf.size,inf.size)) (madeCells z.cells 0) (parts.toList.map fun p=>(p.1,a.eval p.2))=some (cs'.map (At.den O)).toArray:=by rw[PW]at Pn;exact Pn
       have e0:madeCells z.cells 0= #[]:=by simp[madeCells]
       rw[e0]at Rh;have er:Array.range 0= #[]:=rfl;simp[Instr.buildSlice,run_underlying hu,sizeOf,typeInfo,zeroValue,R,hz,PW,newRow,Rh,er]
      .exact run_buildSlice w t e m _ _ inf z hu R hz (by rw[Od];omega) PW (by rw[<-Pn];simp[madeCells])
     .exact h.elim
    .exact h.elim
   .exact h.elim
  .exact h.elim
 .rename_i t x y;obtain⟨v,W,hv,QF⟩:=dT sat h;obtain⟨u,I,hu,hus⟩:=dT sat W;clear QF hus;unfold FB at I;split at I
  .rename_i k1 a1 k2 b1;split at I
   .rename_i sz ag by_ ze tag ik e al fs QT;have ht:=hτ t _ QT;split at I
    .rename_i Oh;have hut:=ht.i4 (eJ Oh);simp only at hut;split at I
     .rename_i sz' ag' by' ze' tag' ik' e' al' fs' PI
      have PI:=hτ e _ PI;obtain⟨inf,z,R,Od,Om,hz,Q6⟩:=PI.info;simp only at Od Om Q6;obtain⟨m,c,rfl,rfl,RL,hbytes,h63,h3⟩:=I;have Qi:(inf.bytes:Int)*(c:Int)<=281474976710656:=by
       rw[Om];have PD:((by'*c:Nat):Int)<=281474976710656:=by omega
       rwa [Int.natCast_mul]at PD
      have OU:=fun w:World=>run_make (P:=P) w t e inf z hut R hz k1 k2 (m:Int) (c:Int) be be Qi be;simp only[aN]at OU;have RC:=PI.Bw;simp only at RC;have RG:z.cells=ze'.toArray:=by apply Array.ext';simpa using Q6
      have fin:∀cs:List Value,cs.toArray=madeCells z.cells (c*inf.size)->zH (.arr e cs) H nx (fun H' OO=>Fn (.o (.s nx 0 m c)) H' OO iv w)->
        ∃b v mk obj,Fn v ((nx,b)::H) (nx+1) iv w/\b≠ .dead/\b.scopd nx/\v.sc (nx+1)/\(∀g,v.den (gn O nx ⟨g,0,false⟩)=mk g)/\(∀g F,F.heap[g]? =some obj->b.fits O ⟨g,0,false⟩ F)/\
         AL P ⟨dst,.makeSlice t x y,ty,pos,after,guard⟩ a mk obj:=by
       intro cs Oz hK;refine⟨_,_,fun g=>.slice (some ⟨g,0,none⟩) m c,.cells cs.toArray e,hK,ce,trivial,by simp[SV.sc,At.sc],fun g=>by simp[SV.den,At.den],fun g F V=>⟨rfl,V⟩,fun w=>?_⟩;simp only[execOp,hv,hu]
       refine km ?_;rw[show SV.den O (.o (.v (.int k1 m)))= .int k1 m from rfl,show SV.den O (.o (.v (.int k2 c)))= .int k2 c from rfl,OU w,Oz]
      split at h3
      .rename_i z0;refine fin _ ?_ h3;have:inf.size=1:=by rw[Od,<-RC];rfl
       rw[this,bC,RG,CH]
      .refine fin _ ?_ h3;rw[Od,<-RC,RG,rJ]
     .exact I.elim
    .exact I.elim
   .exact I.elim
  .exact I.elim
end
inductive It where
 |x (i:Nat)
 |p (i:Nat)
def Bj:Env->Nat->(Env->Prop)->Prop
 |[],_,k=>k []
 |(t,v)::r,u,k=>match Nat.beq t u with
  |true=>Bj r u k
  |false=>Bj r u (fun r'=>k ((t,v)::r'))
def My(d:Option Tmp)(l:Env)(k:Env->Prop):Prop:=match d with
 |some t=>Bj l t k
 |none=>k l
def mL:List Oper->Nat->(Oper->Prop)->Prop
 |[],_,_=>False
 |o::_,0,k=>k o
 |_::r,n+1,k=>mL r n k
def Fw(P:Program)(τ:lO)(B:Nat)(all:List Oper):List It->Env->Hp->Nat->Iv->World->KT->Prop
 |[],l,H,nx,iv,w,Fn=>Fn l H nx iv w
 | .x i::r,l,H,nx,iv,w,Fn=>mL all i (fun o=>eh (!ff o) P τ B all o l H nx iv w (fun l' H' OO K J=>Fw P τ B all r l' H' OO K J Fn))
 | .p i::r,l,H,nx,iv,w,Fn=>mL all i (fun o=>xA true P τ B o l H nx iv w (fun _ _ _ _ _=>My o.dst l (fun l'=>Fw P τ B all r l' H nx iv w Fn)))
def Fx(ops:Array Oper)(o:Oper)(j:Nat):Bool:=match ops[j]? with
 |some oj=>o.apart ops oj
 |none=>false
def Bk(la:Array Bool):List Nat->Array Bool
 |[]=>la
 |i::r=>Bk (la.setIfInBounds i true) r
def tb(m j:Nat):Bool:=Nat.beq ((m >>> j) % 2) 1
def gU:List Bool->Nat->Nat
 |[],_=>0
 |true::r,j=>(1 <<< j) ||| gU r (j+1)
 |false::r,j=>gU r (j+1)
def xB(m i:Nat):List Oper->Nat->Nat->Nat
 |[],_,b=>b
 |o::r,j,b=>match(!tb m j&& !Nat.beq j i)&&o.after.toList.any (fun e=>Region.binds .any e&&(Nat.beq e.on i||tb b e.on))with
  |true=>xB m i r (j+1) (b ||| (1 <<< j))
  |false=>xB m i r (j+1) b
def Ev(ops:Array Oper)(m i:Nat)(oi:Oper)(b:Nat):List Oper->Nat->Bool
 |[],_=>true
 |oj::r,j=>(Nat.beq j i||tb m j||tb b j||(oi.apart ops oj&&(Ew oi.op|| !rX oj)))&&Ev ops m i oi b r (j+1)
def K2(ops:Array Oper)(m:Nat)(Pd:List Nat)(i:Nat)(oi:Oper)(b:Nat):Bool:=Pd.all (fun j=> !tb b j)&&Ev ops m i oi b ops.toList 0
def Ey(ops:Array Oper)(m:Nat)(Pd:List Nat)(i:Nat)(oi:Oper):Bool:=K2 ops m Pd i oi (xB m i ops.toList 0 0)
def pU(ops:Array Oper):List It->Array Bool->List Nat->Bool
 |[],lx,Pd=>(Region.ready .any ops lx).isEmpty&&Pd.isEmpty
 | .p i::r,lx,Pd=>match ops[i]? with
  |none=>false
  |some o=>Ae o.op&&o.guard.isNone&&(match o.dst with
     |some d=> !(o.looksAt ops).contains d
     |none=>false)&&(!lx.getD i true)&&Pd.all (fun j=> !Nat.beq j i)&&
    Pd.all (fun j=>Fx ops o j&&(match ops[j]? with
     |some oj=>oj.apart ops o
     |none=>false))&&pU ops r lx (i::Pd)
 | .x i::r,lx,Pd=>match ops[i]? with
  |none=>false
  |some o=>(o.guard.isNone||Pd.isEmpty)&&(Region.ready .any ops lx).contains i&&
    Pd.all (fun j=>Nat.beq j i||Fx ops o j)&&
    (match lG o.op with
     |true=>Ey ops (gU lx.toList 0) Pd i o
     |false=>(!rX o||Pd.isEmpty)&&(Region.ready .any ops (Bk lx (Pd.filter fun j=> !Nat.beq j i))).all (fun j=>Nat.beq j i))&&
    pU ops r (lx.setIfInBounds i true) (Pd.filter fun j=> !Nat.beq j i)
theorem jn(h:j<la.size)(b c:Bool):la.getD j b=la.getD j c:=by
 rw[ah,ah,Array.getElem?_eq_getElem h];rfl
theorem nH{a b:Nat}:Nat.beq a b=false↔a≠b:=⟨fun h e=>(by subst e;rw[Nat.beq_refl]at h;cases h),fun h=>by
 cases N:Nat.beq a b with
 |false=>rfl
 |true=>exact absurd (eJ N) h⟩
theorem H7{a b:Nat}(h:b<a):Nat.ble a b=false:=by
 cases N:Nat.ble a b with
 |false=>rfl
 |true=>exact absurd (Nat.le_of_ble_eq_true N) be
theorem sI(m j:Nat):tb m j=m.testBit j:=by
 rw[Nat.testBit_eq_decide_div_mod_eq,tb,Nat.shiftRight_eq_div_pow]
 cases h:decide (m / 2^j % 2=1)with
 |true=>rw[aI h];rfl
 |false=>exact nH.2 (aL h)
theorem Bl(a b j:Nat):tb (a ||| b) j=(tb a j||tb b j):=by rw[sI,sI,sI,Nat.testBit_or]
theorem D7(i j:Nat):tb (1 <<< i) j=Nat.beq j i:=by
 rw[sI,Nat.one_shiftLeft,Nat.testBit_two_pow]
 cases h:Nat.beq j i with
 |true=>exact bQ (eJ h).symm
 |false=>exact av fun e=>(nH.1 h) e.symm
theorem nq(j:Nat):tb 0 j=false:=by rw[sI,Nat.zero_testBit]
theorem Bm:∀(l:List Bool) (k j:Nat),tb (gU l k) j=(Nat.ble k j&&l.getD (j-k) false)
 |[],k,j=>by unfold gU;rw[nq];simp
 |b::r,k,j=>by
  have e:tb (gU (b::r) k) j=((b&&Nat.beq j k)||tb (gU r (k+1)) j):=by
   cases b<;>simp only[gU,Bl,D7,Bool.false_and,Bool.true_and,Bool.false_or]
  rw[e,Bm r (k+1) j];rcases Nat.lt_trichotomy j k with h|h|h
  .rw[nH.2 be,Bool.and_false,Bool.false_or,H7 be,H7 be];rfl
  .subst h;rw[Nat.beq_refl,H7 be,Nat.ble_eq_true_of_le (ae j),bj];simp
  .rw[nH.2 be,Bool.and_false,Bool.false_or,Nat.ble_eq_true_of_le (show k+1<=j from h),Nat.ble_eq_true_of_le (Nat.le_of_lt h),show j-k=(j-(k+1))+1 by omega,List.getD_cons_succ]
def Rm(lx:Array Bool)(m:Nat):Prop:=∀j,tb m j=lx.getD j false
theorem rF(lx:Array Bool):Rm lx (gU lx.toList 0):=fun j=>by
 rw[Bm,show Nat.ble 0 j=true from Nat.ble_eq_true_of_le (bA j),Bool.true_and,Nat.sub_zero,ah,List.getD,aX]
theorem Rm.eq{m':Nat}(h:Rm lx m)(h':Rm lx m'):m=m':=Nat.eq_of_testBit_eq fun j=>by rw[<-sI,<-sI,h,h']
theorem jo{ops:Array Oper}{m i:Nat}:∀(l:List Oper) (k b:Nat),(∀n o,l[n]? =some o->ops[k+n]? =some o)->
  (∀j,tb b j=true->tb m j=false/\j≠i/\∃oj e,ops[j]? =some oj/\e∈oj.after/\Region.binds .any e=true/\(e.on=i\/∃b2,tb b2 e.on=true/\b2=b))->
  ∀j,tb (xB m i l k b) j=true->tb m j=false/\j≠i/\∃oj e,ops[j]? =some oj/\e∈oj.after/\Region.binds .any e=true/\(e.on=i\/tb (xB m i l k b) e.on=true)
 |[],k,b,_,h,j,hj=>by
  obtain⟨W,I,oj,e,h3,h4,h5,h6⟩:=h j hj;exact⟨W,I,oj,e,h3,h4,h5,h6.imp id fun⟨_,h7,h8⟩=>h8▸h7⟩
 |o::r,k,b,hl,h,j,hj=>by
  have hr:∀n o',r[n]? =some o'->ops[k+1+n]? =some o':=fun n o' U=>by
   have:=hl (n+1) o' (by simpa using U)
   rwa [show k+(n+1)=k+1+n by omega]at this
  unfold xB at hj ⊢
  cases hc:((!tb m k&& !Nat.beq k i)&&o.after.toList.any (fun e=>Region.binds .any e&&(Nat.beq e.on i||tb b e.on)))with
  |false=>
   rw[hc]at hj;exact jo r (k+1) b hr h j hj
  |true=>
   rw[hc]at hj;refine jo r (k+1) (b ||| (1 <<< k)) hr (fun j hj=>?_) j hj;rw[Bl,D7,Bool.or_eq_true]at hj;rcases hj with hj|hj
   .obtain⟨W,I,oj,e,h3,h4,h5,h6⟩:=h j hj;refine⟨W,I,oj,e,h3,h4,h5,h6.imp id fun⟨b2,h7,h8⟩=>⟨_,?_,rfl⟩⟩;rw[Bl,<-h8,h7];rfl
   .have hj:=eJ hj;subst hj;simp only[aq,Bool.not_eq_true',List.any_eq_true]at hc;obtain⟨⟨W,I⟩,e,G,h3,h4⟩:=hc;refine⟨W,nH.1 I,o,e,by have:=hl 0 o ce;simpa using this,by simpa using G,h3,?_⟩;rw[Bool.or_eq_true]at h4;exact h4.imp eJ fun h5=>⟨_,by rw[Bl,h5];rfl,rfl⟩
theorem xC{ops:Array Oper}{m i:Nat}{oi:Oper}{b:Nat}:∀(l:List Oper) (k:Nat),Ev ops m i oi b l k=true->∀n oj,l[n]? =some oj->k+n≠i->tb m (k+n)=false->tb b (k+n)=false->oi.apart ops oj=true/\(Ew oi.op=true\/rX oj=false)
 |[],_,_,n,oj,U,_,_,_=>by simp at U
 |o::r,k,h,n,oj,U,W,I,h3=>by
  unfold Ev at h;rw[aq]at h
  cases n with
  |zero=>
   rw[List.getElem?_cons_zero]at U;injection U with U;subst U;rw[cH]at W I h3;rw[nH.2 W,I,h3]at h;simpa using h.1
  |succ n=>
   rw[List.getElem?_cons_succ]at U;rw[show k+(n+1)=k+1+n by omega]at W I h3;exact xC r (k+1) h.2 n oj U W I h3
theorem D8{ops:Array Oper}{i:Nat}{oi:Oper}(h:Ey ops (gU lx.toList 0) Pd i oi=true)(hs:lx.size=ops.size):∃kL:Nat->Prop,
  (∀j,kL j->∃oj e,ops[j]? =some oj/\e∈oj.after/\Region.binds .any e=true/\(e.on=i\/kL e.on))/\(∀j,kL j->lx.getD j false=false)/\(∀j∈Pd,¬kL j)/\
  ∀j oj,ops[j]? =some oj->j≠i->lx.getD j true=false->¬kL j->oi.apart ops oj=true/\(Ew oi.op=true\/rX oj=false):=by
 unfold Ey K2 at h;rw[aq]at h;have hm:=rF lx;have N:=jo (ops:=ops) (m:=gU lx.toList 0) (i:=i) ops.toList 0 0 (fun n o U=>by rw[aR];rwa [aX]at U) (fun j hj=>by rw[nq]at hj;cases hj);generalize xB (gU lx.toList 0) i ops.toList 0 0=b at*
 refine⟨fun j=>tb b j=true,fun j hj=>(N j hj).2.2,fun j hj=>(hm j).symm.trans (N j hj).1,fun j hj Z=>?_,fun j oj QZ Ov hl Z=>?_⟩
 .have:=List.all_eq_true.1 h.1 j hj;rw[Z]at this;cases this
 .have hj:=(aZ.1 QZ).1;exact xC ops.toList 0 h.2 j oj (by rw[aX];exact QZ) be (by rw[aR,hm,jn be false true];exact hl) (by rw[aR];simpa using Z)
def Bn(m:Nat):List Oper->Nat->List Nat
 |[],_=>[]
 |o::r,j=>match !tb m j&&o.after.toList.all (fun e=> !Region.binds .any e||tb m e.on)with
  |true=>j::Bn m r (j+1)
  |false=>Bn m r (j+1)
def sm(n m i:Nat):Nat:=match Nat.blt i n with
 |true=>m ||| (1 <<< i)
 |false=>m
def Mp(n:Nat)(m:Nat):List Nat->Nat
 |[]=>m
 |i::r=>Mp n (sm n m i) r
def Bo(ops:Array Oper)(n:Nat):List It->Nat->List Nat->Bool
 |[],m,Pd=>(Bn m ops.toList 0).isEmpty&&Pd.isEmpty
 | .p i::r,m,Pd=>match ops[i]? with
  |none=>false
  |some o=>Ae o.op&&o.guard.isNone&&(match o.dst with
     |some d=> !(o.looksAt ops).contains d
     |none=>false)&&(Nat.blt i n&& !tb m i)&&Pd.all (fun j=> !Nat.beq j i)&&
    Pd.all (fun j=>Fx ops o j&&(match ops[j]? with
     |some oj=>oj.apart ops o
     |none=>false))&&Bo ops n r m (i::Pd)
 | .x i::r,m,Pd=>match ops[i]? with
  |none=>false
  |some o=>(o.guard.isNone||Pd.isEmpty)&&(Bn m ops.toList 0).contains i&&
    Pd.all (fun j=>Nat.beq j i||Fx ops o j)&&
    (match lG o.op with
     |true=>Ey ops m Pd i o
     |false=>(!rX o||Pd.isEmpty)&&(Bn (Mp n m (Pd.filter fun j=> !Nat.beq j i)) ops.toList 0).all (fun j=>Nat.beq j i))&&
    Bo ops n r (sm n m i) (Pd.filter fun j=> !Nat.beq j i)
theorem Ez{ops:Array Oper}{lx:Array Bool}{m:Nat}(hR:Rm lx m)(hs:lx.size=ops.size):∀(l:List Oper) (k:Nat),(∀n,n<l.length->ops[k+n]? =l[n]?)->k+l.length<=ops.size->
  Bn m l k=(List.range' k l.length).filter fun i=> !lx.getD i true&&((ops[i]?).map (·.after.all fun e=> !Region.binds .any e||lx.getD e.on false)).getD false
 |[],_,_,_=>rfl
 |o::r,k,h,Z=>by
  rw[bZ]at Z
  have ih:=Ez hR hs r (k+1) (fun n U=>by
   have:=h (n+1) (by simpa using U)
   rw[show k+1+n=k+(n+1) by omega,this,List.getElem?_cons_succ]) be
  have h0:ops[k]? =some o:=by have:=h 0 ce;simpa using this
  rw[bZ,List.range'_succ,List.filter_cons,<-ih];have e:(!lx.getD k true&&((ops[k]?).map (·.after.all fun e=> !Region.binds .any e||lx.getD e.on false)).getD false)=(!tb m k&&o.after.toList.all fun e=> !Region.binds .any e||tb m e.on):=by
   rw[h0,hR k,jn be true false,bO,Option.getD_some,Array.all_toList];simp only[hR _]
  rw[e,Bn]
  cases (!tb m k&&o.after.toList.all fun e=> !Region.binds .any e||tb m e.on)<;>rfl
theorem D9{ops:Array Oper}(hR:Rm lx m)(hs:lx.size=ops.size):Bn m ops.toList 0=Region.ready .any ops lx:=by
 rw[Ez hR hs ops.toList 0 (fun n _=>by rw[aR,aX]) ce];unfold Region.ready;rw[List.range_eq_range',Array.length_toList]
theorem Rm.set(hR:Rm lx m)(i:Nat):Rm (lx.setIfInBounds i true) (sm lx.size m i):=fun j=>by
 unfold sm;rw[ah,Array.getElem?_setIfInBounds]
 cases h:Nat.blt i lx.size with
 |true=>
  have h:=Nat.le_of_ble_eq_true h;show tb (m ||| (1 <<< i)) j=_;rw[Bl,D7];by_cases Qg:i=j
  .rw[aM Qg,aM be,Qg,Nat.beq_refl,Bool.or_true];rfl
  .rw[aK Qg,nH.2 (Ne.symm Qg),Bool.or_false,hR,ah]
 |false=>
  show tb m j=_;have h:¬i<lx.size:=fun I=>by rw[show Nat.blt i lx.size=true from Nat.ble_eq_true_of_le I]at h;cases h
  by_cases Qg:i=j
  .rw[aM Qg,aK h,hR,ah,<-Qg,Array.getElem?_eq_none be]
  .rw[aK Qg,hR,ah]
theorem H8:∀(r:List Nat) (lx:Array Bool),(Bk lx r).size=lx.size
 |[],_=>rfl
 |i::r,lx=>by unfold Bk;rw[H8 r,bG]
theorem Rm.Bk{n:Nat}:∀(r:List Nat) (lx:Array Bool) (m:Nat),lx.size=n->Rm lx m->Rm (Bk lx r) (Mp n m r)
 |[],_,_,_,h=>h
 |i::r,lx,m,U,h=>by
  unfold Go.Sx.Bk Mp;exact Rm.Bk r _ _ (by rw[bG];exact U) (U▸h.set i)
theorem Af{ops:Array Oper}:∀(π:List It) (lx:Array Bool) (m:Nat) (Pd:List Nat),lx.size=ops.size->Rm lx m->Bo ops ops.size π m Pd=pU ops π lx Pd
 |[],lx,m,Pd,hs,h=>by unfold Bo pU;rw[D9 h hs]
 | .p i::r,lx,m,Pd,hs,h=>by
  unfold Bo pU
  cases ho:ops[i]? with
  |none=>rfl
  |some o=>
   have R:=(aZ.1 ho).1;simp only[Af r lx m (i::Pd) hs h,h i,jn (show i<lx.size by omega) true false,show Nat.blt i ops.size=true from Nat.ble_eq_true_of_le R,Bool.true_and]
 | .x i::r,lx,m,Pd,hs,h=>by
  unfold Bo pU
  cases ho:ops[i]? with
  |none=>rfl
  |some o=>
   obtain rfl:=h.eq (rF lx);have W:=Af r (lx.setIfInBounds i true) (sm ops.size (gU lx.toList 0) i) (Pd.filter fun j=> !Nat.beq j i) (by rw[bG];exact hs) (hs▸h.set i);have I:=D9 (Rm.Bk (n:=ops.size) (Pd.filter fun j=> !Nat.beq j i) lx (gU lx.toList 0) hs h) (by rw[H8];exact hs);simp only[W,I,D9 h hs]
theorem df{ops:Array Oper}:j∈Region.ready .any ops la↔
  la[j]? =some false/\∃o,ops[j]? =some o/\∀e∈o.after,Region.binds .any e=true->la[e.on]? =some true:=by
 rw[mem_ready];have W:la.getD j true=false↔la[j]? =some false:=by
  rw[ah]
  cases la[j]? with
  |none=>simp
  |some b=>simp
 have I:∀k,la.getD k false=true↔la[k]? =some true:=fun k=>by
  rw[ah]
  cases la[k]? with
  |none=>simp
  |some b=>simp
 simp only[W,I]
theorem pV{i:Nat}:(la.setIfInBounds i true)[j]? =some true↔la[j]? =some true\/(j=i/\j<la.size):=by
 rw[Array.getElem?_setIfInBounds];split
 .rename_i h;subst h;by_cases hs:i<la.size
  .simp[hs]
  .simp[hs]
 .rename_i h;simp[Ne.symm h]
theorem Bp:∀(Pd:List Nat) (la:Array Bool),(Bk la Pd).size=la.size
 |[],_=>rfl
 |i::r,la=>by simp[Bk,Bp r]
theorem xD:∀(Pd:List Nat) (la:Array Bool) (j:Nat),(Bk la Pd)[j]? =some true↔la[j]? =some true\/(j∈Pd/\j<la.size)
 |[],_,_=>by simp[Bk]
 |i::r,la,j=>by
  rw[Bk,xD r,pV];simp only[bG,List.mem_cons]
  constructor
  .rintro((h|⟨h,hs⟩)|⟨h,hs⟩)
   .exact .inl h
   .exact .inr ⟨.inl h,hs⟩
   .exact .inr ⟨.inr h,hs⟩
  .rintro(h|⟨h|h,hs⟩)
   .exact .inl (.inl h)
   .exact .inl (.inr ⟨h,hs⟩)
   .exact .inr ⟨h,hs⟩
def JW(la:Array Bool):Nat:=la.toList.countP (fun b=> !b)
theorem gS{i:Nat}(h:la[i]? =some false):JW (la.setIfInBounds i true)+1=JW la:=by
 obtain⟨R,G⟩:=aZ.1 h;have QL:i<la.toList.length:=by simpa using R
 have PW:0<la.toList.countP (fun b=> !b):=List.countP_pos_iff.2 ⟨false,by
  have:la[i]∈la:=Array.getElem_mem R;rw[G]at this
  simpa using this,rfl⟩
 unfold JW;rw[Array.toList_setIfInBounds,List.countP_set QL];simp only[Array.getElem_toList,G]
 simp only[Bool.not_false,if_true,Bool.not_true,Bool.false_eq_true,if_false,cH]
 exact Nat.sub_add_cancel PW
theorem sJ:∀{l:Env} {u:Nat} {k:Env->Prop},Bj l u k->∃l',k l'/\fH l' u=none/\∀t v,fH l' t=some v->t≠u/\fH l t=some v
 |[],u,k,h=>⟨[],h,rfl,fun t v h=>by cases h⟩
 |(t0,v0)::r,u,k,h=>by
  unfold Bj at h;split at h
  .rename_i N;have N:=eJ N;obtain⟨l',W,I,h3⟩:=sJ h;refine⟨l',W,I,fun t v hv=>⟨(h3 t v hv).1,?_⟩⟩;rw[eU,aK (fun e=>(h3 t v hv).1 (e.symm.trans N))];exact(h3 t v hv).2
  .rename_i N;have OL:t0≠u:=fun e=>by subst e;rw[Nat.beq_refl]at N;cases N
   obtain⟨l',W,I,h3⟩:=sJ h;refine⟨_,W,?_,fun t v hv=>?_⟩
   .rw[eU,aK OL];exact I
   .rw[eU]at hv ⊢;split at hv
    .rename_i e;subst e;exact⟨OL,by simpa using hv⟩
    .rename_i e;rw[aK e];exact h3 t v hv
theorem eV:∀{all:List Oper} {i:Nat} {k:Oper->Prop},mL all i k->∃o,all[i]? =some o/\k o
 |[],_,_,h=>h.elim
 |o::_,0,_,h=>⟨o,rfl,h⟩
 |_::r,n+1,_,h=>by obtain⟨o,W,I⟩:=eV (all:=r) h;exact⟨o,by simpa using W,I⟩
section
variable{P:Program}{τ:lO}{ops:Array Oper}{B n nx:Nat}{l:Env}{H:Hp}{iv:Iv}{w J:World}{O:Nat->dc}{a:Act}
structure JT(P:Program)(ops:Array Oper)(n B:Nat)(Pd:List Nat)(EQ:List (Nat×Nat))(lx la:Array Bool)(l:Env)(H:Hp)(nx:Nat)(iv:Iv)(w:World)(O:Nat->dc)(a:Act)(J:World):Prop where
 sat:Sat n l H nx iv B w O a J
 JU:lx.size=ops.size
 JX:la.size=ops.size
 la:∀j,la[j]? =some true↔lx[j]? =some true\/∃g,(j,g)∈EQ
 Fy:∀j g,(j,g)∈EQ->j∈Pd
 pd:∀j∈Pd,lx[j]? =some false/\∃o d mk obj,ops[j]? =some o/\Ae o.op=true/\o.guard=none/\(o.dst=some d/\d∉o.looksAt ops)/\AL P o a mk obj/\fH l d=none/\
  ∀g,(j,g)∈EQ->a.tmps[d]? =some (mk g)/\J.heap[g]? =some obj
 eg:∀j g,(j,g)∈EQ->B<=g/\(∀id b,dF H id=some b->(O id).nil=false->(O id).g≠g)/\∀lo R,(lo,R)∈iv->¬(lo<=g/\g<R)
 inj:∀j g j',(j,g)∈EQ->(j',g)∈EQ->j=j'
 ap:∀j∈Pd,∀j'∈Pd,j≠j'->∀o o',ops[j]? =some o->ops[j']? =some o'->o.apart ops o'=true
theorem H9{l:Env}{u:Nat}(h:∀t v,fH l' t=some v->t≠u/\fH l t=some v){d:Nat}(hd:fH l d=none):fH l' d=none:=by
 cases V:fH l' d with
 |none=>rfl
 |some v=>have:=(h d v V).2;rw[hd]at this;cases this
theorem Oper.z8{o oj:Oper}(ha:o.apart ops oj=true)(hs:∀cs b,oj.op≠ .select cs b)(h:AL P oj a mk obj):AL P oj (a.put o.dst u) mk obj:=by
 intro w;rw[execOp_put (ops:=ops) oj hs a o.dst u (Go.Oper.apart_spec ha).1];exact h w
theorem ns(OL:d≠some t)(h:a.tmps[t]? =some v):(a.put d u).tmps[t]? =some v:=by
 cases d with
 |none=>exact h
 |some d=>
  have:d≠t:=fun e=>OL (by rw[e]);simpa [Act.put,Array.getElem?_setIfInBounds_ne this]using h
theorem kC{w:World}(h:w.heap[g]? =some obj):g<w.heap.size:=(aZ.1 h).1
theorem Ext.alloc(w:World)(obj:Obj):Ext w (w.alloc obj):=
 ⟨rfl,rfl,rfl,ce,fun k Z=>heap_alloc_old _ _ Z⟩
variable{Pd:List Nat}{EQ:List (Nat×Nat)}{lx la:Array Bool}
theorem JT.step(s:JT P ops n B Pd EQ lx la l H nx iv w O a J)(Oc:∀(j:Nat) (o:Oper) cs b,ops[j]? =some o->o.op≠ .select cs b){i:Nat}{o:Oper}(_hi:ops[i]? =some o)(WX:∀g,(i,g)∉EQ)
  (RJ:∀j∈Pd,j≠i->∀oj,ops[j]? =some oj->o.apart ops oj=true)
  (sat':Sat n l' H' OO K B F G9 (a.put o.dst u) w3)
  (hl:∀j∈Pd,j≠i->∀d,fH l d=none->o.dst≠some d->fH l' d=none) (Sa:∀j∈Pd,j≠i->Ext J w3)
  (heg:∀g,g<J.heap.size->(∀id b,dF H id=some b->(O id).nil=false->(O id).g≠g)->(∀lo R,(lo,R)∈iv->¬(lo<=g/\g<R))->(∃j∈Pd,j≠i)->
   (∀id b,dF H' id=some b->(G9 id).nil=false->(G9 id).g≠g)/\(∀lo R,(lo,R)∈K->¬(lo<=g/\g<R))):
  JT P ops n B (Pd.filter fun j=> !Nat.beq j i) EQ (lx.setIfInBounds i true) (la.setIfInBounds i true) l' H' OO K F G9 (a.put o.dst u) w3:=by
 have memf:∀j,j∈(Pd.filter fun j=> !Nat.beq j i)↔j∈Pd/\j≠i:=fun j=>by
  simp only[List.mem_filter,Bool.not_eq_true',nH]
 have hEi:∀j g,(j,g)∈EQ->j≠i:=fun j g h e=>WX g (e▸h);refine⟨sat',by simp[s.JU],by simp[s.JX],fun j=>?_,fun j g h=>(memf j).2 ⟨s.Fy j g h,hEi j g h⟩,fun j hj=>?_,fun j g h=>?_,s.inj,fun j hj j' WY=>s.ap j ((memf j).1 hj).1 j' ((memf j').1 WY).1⟩
 .rw[pV,pV,s.la,s.JX,s.JU];constructor
  .rintro((h|h)|h)
   .exact .inl (.inl h)
   .exact .inr h
   .exact .inl (.inr h)
  .rintro((h|h)|h)
   .exact .inl (.inl h)
   .exact .inr h
   .exact .inl (.inr h)
 .obtain⟨hj,Ov⟩:=(memf j).1 hj;obtain⟨h0,oj,d,mk,obj,W,I,h3,⟨h4,RW⟩,h5,h6,h7⟩:=s.pd j hj;have hapj:=RJ j hj Ov oj W;have OL:o.dst≠some d:=fun e=>(Go.Oper.apart_spec hapj).2.1 d e h4;refine⟨?_,oj,d,mk,obj,W,I,h3,⟨h4,RW⟩,Oper.z8 hapj (fun cs b=>Oc j oj cs b W) h5,hl j hj Ov d h6 OL,fun g V=>⟨ns OL (h7 g V).1,?_⟩⟩
  .rw[Array.getElem?_setIfInBounds_ne (Ne.symm Ov)];exact h0
  .rw[(Sa j hj Ov).block g (kC (h7 g V).2)];exact(h7 g V).2
 .have hj:=s.Fy j g h;obtain⟨h0,oj,d,mk,obj,W,I,h3,⟨h4,RW⟩,h5,h6,h7⟩:=s.pd j hj;obtain⟨e1,e2,e3⟩:=s.eg j g h;exact⟨e1,heg g (kC (h7 g h).2) e2 e3 ⟨j,hj,hEi j g h⟩⟩
theorem JT.early(s:JT P ops n B Pd EQ lx la l H nx iv w O a J)(OV:∀(j:Nat) o,ops[j]? =some o->∀d,o.dst=some d->d<n)
  (Oc:∀(j:Nat) (o:Oper) cs b,ops[j]? =some o->o.op≠ .select cs b) (hj:j∈Pd) (US:la[j]? =some false) {Fn:Act->World->Prop}
  (h:∀E' a2 F,Ext J F->JT P ops n B Pd E' lx (la.setIfInBounds j true) l H nx iv w O a2 F->Fn a2 F):wpOp P ops Q j Fn a J:=by
 obtain⟨h0,o,d,mk,obj,W,I,h3,⟨h4,RW⟩,h5,h6,h7⟩:=s.pd j hj;have Y:Region.wanted o (yielded ops a.tmps)=true:=by simp[Region.wanted,h3]
 unfold wpOp;simp only[W,Y,if_true]
 refine .inl ?_;unfold Oper.wp;rw[h5 J];simp only[Oper.upon]
 have hd:=OV j o W d h4;have hnE:∀g,(j,g)∉EQ:=fun g V=>by
  have:=(s.la j).2 (.inr ⟨g,V⟩);rw[US]at this;cases this
 refine h ((j,J.heap.size)::EQ) _ _ (Ext.alloc _ _) ⟨?_,s.JU,by simp[s.JX],fun k=>?_,fun k g Z=>?_,fun k Z=>?_,fun k g Z=>?_,fun k g k' Z Sd=>?_,s.ap⟩
 .refine⟨s.sat.rel.ext (Ext.alloc _ _),?_,?_,fun t v hv=>?_,s.sat.sc⟩
  .rw[h4];simp[Act.put,s.sat.size]
  .rw[h4];exact s.sat.defers
  .refine ns (fun e=>?_) (s.sat.env t v hv);rw[h4]at e;injection e with e;subst e;rw[h6]at hv;cases hv
 .rw[pV,s.la];have Oo:j<la.size:=(aZ.1 US).1;constructor
  .rintro((h|⟨g,h⟩)|⟨rfl,_⟩)
   .exact .inl h
   .exact .inr ⟨g,by simp[h]⟩
   .exact .inr ⟨_,aF ..⟩
  .rintro(h|⟨g,h⟩)
   .exact .inl (.inl h)
   .rcases List.mem_cons.1 h with h|h
    .injection h with e1 e2;exact .inr ⟨e1,by rw[e1];exact Oo⟩
    .exact .inl (.inr ⟨g,h⟩)
 .rcases List.mem_cons.1 Z with Z|Z
  .injection Z with e1 e2;rw[e1];exact hj
  .exact s.Fy k g Z
 .obtain⟨g0,ok,dk,mkk,objk,g1,g2,g3,⟨g4,gself⟩,g5,g6,g7⟩:=s.pd k Z;by_cases Tf:k=j
  .subst Tf;rw[W]at g1;injection g1 with g1;subst g1;rw[h4]at g4;injection g4 with g4;subst g4;refine⟨g0,o,d,mk,obj,W,I,h3,⟨h4,RW⟩,?_,h6,fun g V=>?_⟩
   .intro ww;rw[execOp_put (ops:=ops) o (fun cs b=>Oc k o cs b W) a o.dst _ (fun d' XJ=>by rw[h4]at XJ;injection XJ with XJ;subst XJ;exact RW)];exact h5 ww
   .rcases List.mem_cons.1 V with V|V
    .injection V with e1 e2;subst e2;refine⟨?_,heap_alloc_new _ _⟩;rw[h4];simp[Act.put,s.sat.size,hd]
    .exact absurd V (hnE g)
  .have RJ:=s.ap j hj k Z (Ne.symm Tf) o ok W g1;have OL:o.dst≠some dk:=fun e=>(Go.Oper.apart_spec RJ).2.1 dk e g4;refine⟨g0,ok,dk,mkk,objk,g1,g2,g3,⟨g4,gself⟩,Oper.z8 RJ (fun cs b=>Oc k ok cs b g1) g5,g6,fun g V=>?_⟩;rcases List.mem_cons.1 V with V|V
   .injection V with e1 e2;exact absurd e1 Tf
   .refine⟨ns OL (g7 g V).1,?_⟩;rw[heap_alloc_old _ _ (kC (g7 g V).2)];exact(g7 g V).2
 .rcases List.mem_cons.1 Z with Z|Z
  .injection Z with e1 e2;subst e2;refine⟨aP s.sat.rel.base s.sat.rel.size,fun id b N U G=>?_,fun lo R hm hc=>?_⟩
   .have:=(s.sat.rel.low id b N U).2;omega
   .have:=s.sat.rel.nG lo R hm;have:=s.sat.rel.size;omega
  .exact s.eg k g Z
 .have old:∀k' g',(k',g')∈EQ->g'<J.heap.size:=fun k' g' h=>by
   obtain⟨_,_,_,_,_,_,_,_,_,_,_,h7⟩:=s.pd k' (s.Fy k' g' h);exact kC (h7 g' h).2
  rcases List.mem_cons.1 Z with Z|Z<;>rcases List.mem_cons.1 Sd with Sd|Sd
  .injection Z with e1 e2;injection Sd with e3 e4;rw[e1,e3]
  .injection Z with e1 e2;have:=old _ _ Sd;omega
  .injection Sd with e1 e2;have:=old _ _ Z;omega
  .exact s.inj k g k' Z Sd
theorem JT.MA(s:JT P ops n B Pd EQ lx la l H nx iv w O a J){i:Nat}{o:Oper}(R:ops[i]? =some o)(V:(i,g)∈EQ){b:jL}{v:SV}
  (N:b.scopd nx) (hv:v.sc (nx+1)) (WZ:∀g,v.den (gn O nx ⟨g,0,false⟩)=mk g) (Pg:∀g F,F.heap[g]? =some obj->b.fits O ⟨g,0,false⟩ F) (SB:AL P o a mk obj)
  {Fn:Env->Prop} (hK:Br o.dst v l Fn) (_hok:∀d,o.dst=some d->d<n) (RJ:∀j∈Pd,j≠i->∀oj,ops[j]? =some oj->o.apart ops oj=true):
  ∃l',Fn l'/\JT P ops n B (Pd.filter fun j=> !Nat.beq j i) (EQ.filter fun e=> !Nat.beq e.1 i) (lx.setIfInBounds i true) la l' ((nx,b)::H) (nx+1) iv w (gn O nx ⟨g,0,false⟩) a J:=by
 obtain⟨h0,o',d,mk',obj',W,I,h3,⟨h4,RW⟩,h5,h6,h7⟩:=s.pd i (s.Fy i g V);rw[R]at W;injection W with W;subst W;obtain⟨rfl,rfl⟩:=SB.uniq h5;obtain⟨ht,hh⟩:=h7 g V;obtain⟨e1,e2,e3⟩:=s.eg i g V;have memf:∀j,j∈(Pd.filter fun j=> !Nat.beq j i)↔j∈Pd/\j≠i:=fun j=>by
  simp only[List.mem_filter,Bool.not_eq_true',nH]
 have memE:∀j k,(j,k)∈(EQ.filter fun e=> !Nat.beq e.1 i)↔(j,k)∈EQ/\j≠i:=fun j k=>by
  simp only[List.mem_filter,Bool.not_eq_true',nH]
 have Q1:∀id b,dF H id=some b->gn O nx ⟨g,0,false⟩ id=O id:=fun id b h=>(gN id (s.sat.rel.keys id b h)).symm;have r:=s.sat.rel;have PR:Rel ((nx,b)::H) (nx+1) iv B w (gn O nx ⟨g,0,false⟩) J:=by
  refine Rel.mk' r.os r.tape r.output r.size r.base r.nG ?_ ?_ ?_ ?_ ?_ ?_ ?_
  .intro id b' h;rw[dN]at h;split at h
   .omega
   .have:=r.keys id b' h;omega
  .intro id b' h;rw[dN]at h;split at h
   .rename_i e;subst e;injection h with h;subst h;rw[ek];exact jL.gV (Pg g J hh) (fun id Pk=>gN id Pk) N (fun _ _=>rfl)
   .rw[Q1 id b' h];exact jL.gV (r.fits h) (fun id Pk=>gN id Pk) (r.scopd h) (fun _ _=>rfl)
  .intro id b' h;rw[dN]at h;split at h
   .injection h with h;subst h;exact jL.j1 (Nat.le_succ _) N
   .exact jL.j1 (Nat.le_succ _) (r.scopd h)
  .intro id id' c c' h h' hd XJ U hn' G;rw[dN]at h h';split at h<;>split at h'
   .rename_i x y;rw[<-x,<-y]
   .rename_i x y;subst x;rw[ek,Q1 _ _ h']at G;rw[Q1 _ _ h']at hn';exact absurd G.symm (e2 _ _ h' hn')
   .rename_i x y;subst y;rw[ek,Q1 _ _ h]at G;rw[Q1 _ _ h]at U;exact absurd G (e2 _ _ h U)
   .rw[Q1 _ _ h,Q1 _ _ h']at G;rw[Q1 _ _ h]at U;rw[Q1 _ _ h']at hn';exact r.inj id id' c c' h h' hd XJ U hn' G
  .intro id c h U;rw[dN]at h;split at h
   .rename_i e;subst e;rw[ek];exact⟨e1,kC hh⟩
   .rw[Q1 _ _ h]at U ⊢;exact r.low id c h U
  .intro k Z OL;refine r.Ad k Z fun id c h U=>?_;have Oo:=r.keys id c h;have:=OL id c (by rw[dN,aK be];exact h) (by rw[Q1 _ _ h];exact U)
   rwa [Q1 _ _ h]at this
  .intro lo R hm id c h U;rw[dN]at h;split at h
   .rename_i e;subst e;rw[ek];exact e3 lo R hm
   .rw[Q1 _ _ h]at U ⊢;exact r.ix lo R hm id c h U
 have sat1:Sat n l ((nx,b)::H) (nx+1) iv B w (gn O nx ⟨g,0,false⟩) a J:=s.sat.next PR (Nat.le_succ _) (fun id Pk=>gN id Pk)
 rw[h4]at hK;refine⟨_,hK,?_⟩;have sat2:Sat n ((d,v)::l) ((nx,b)::H) (nx+1) iv B w (gn O nx ⟨g,0,false⟩) a J:=by
  refine⟨sat1.rel,sat1.size,sat1.defers,fun t u hu=>?_,fun t u hu=>?_⟩
  .rw[eU]at hu;split at hu
   .rename_i e;subst e;injection hu with hu;subst hu;rw[WZ];exact ht
   .exact sat1.env t u hu
  .rw[eU]at hu;split at hu
   .injection hu with hu;subst hu;exact hv
   .exact sat1.sc t u hu
 have Wa:i<lx.size:=(aZ.1 h0).1;refine⟨sat2,by simp[s.JU],s.JX,fun j=>?_,fun j k h=>?_,fun j hj=>?_,fun j k h=>?_,fun j k j' h h'=>s.inj j k j' ((memE j k).1 h).1 ((memE j' k).1 h').1,fun j hj j' WY=>s.ap j ((memf j).1 hj).1 j' ((memf j').1 WY).1⟩
 .rw[s.la,pV];constructor
  .rintro(h|⟨k,h⟩)
   .exact .inl (.inl h)
   .by_cases Ov:j=i
    .exact .inl (.inr ⟨Ov,Ov▸Wa⟩)
    .exact .inr ⟨k,(memE j k).2 ⟨h,Ov⟩⟩
  .rintro((h|⟨rfl,h⟩)|⟨k,h⟩)
   .exact .inl h
   .exact .inr ⟨g,V⟩
   .exact .inr ⟨k,((memE j k).1 h).1⟩
 .exact(memf j).2 ⟨s.Fy j k ((memE j k).1 h).1,((memE j k).1 h).2⟩
 .obtain⟨hj,Ov⟩:=(memf j).1 hj;obtain⟨g0,oj,dj,mkj,objj,g1,g2,g3,⟨g4,gself⟩,g5,g6,g7⟩:=s.pd j hj;have OL:d≠dj:=fun e=>(Go.Oper.apart_spec (RJ j hj Ov oj g1)).2.1 d h4 (by rw[g4,e]);refine⟨by rw[Array.getElem?_setIfInBounds_ne (Ne.symm Ov)];exact g0,oj,dj,mkj,objj,g1,g2,g3,⟨g4,gself⟩,g5,?_,fun k Z=>g7 k ((memE j k).1 Z).1⟩;rw[eU,aK OL];exact g6
 .obtain⟨h,Ov⟩:=(memE j k).1 h;obtain⟨k1,k2,k3⟩:=s.eg j k h;refine⟨k1,fun id c hc U=>?_,k3⟩;rw[dN]at hc;split at hc
  .rename_i e;subst e;rw[ek];intro e;simp only at e;subst e;exact Ov (s.inj j _ i h V)
  .rw[Q1 _ _ hc]at U ⊢;exact k2 id c hc U
end
end Go.Sx
