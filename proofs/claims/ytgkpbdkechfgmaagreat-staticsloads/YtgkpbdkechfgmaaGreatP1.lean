/- Texts Sx7 to Sx11: lemmas, each with its conditions. -/
import Derived.OrdersHeld
import Derived.Test.YtgkpbdkechfgmaaGreatP0
namespace Go.Sx
open Go
variable{args:(Nat->da)->Array Value}{la lx:Array Bool}{op:BinOp}{dr pu:Bool}{E9:Ending->World->Prop}{l':Env}{Q:Exit->Act->World->Prop}{H':Hp}{k:IntKind}{K:Iv}{Pd:List Nat}{OF g j m t:Nat}{mk:Nat->Value}{G8:Nat->da}{obj:Obj}{d:Option Tmp}{F':SV->Hp->Nat->Iv->World->Prop}{u v:Value}{w I w3:World}
section
variable{P:Program}{τ:mS}{B n nx:Nat}{l:Env}{H:Hp}{iv:Iv}{w J:World}{O:Nat->da}{a:Act}
theorem oq{k':IntKind}(h:od k k'=true):k=k':=by
 cases k<;>cases k'<;>first|rfl|(simp [od]at h)
theorem wO(op:BinOp)(t:TypeId)(x y:Operand)(k k':IntKind)(i j:Int)(w:World):(eqGuard op t x y (.int k i) (.int k' j)).run P w= .ok () w:=by
 unfold eqGuard;cases op<;>simp
theorem mW(op:BinOp)(t:TypeId)(x y:Operand)(i j:Bool)(w:World):(eqGuard op t x y (.bool i) (.bool j)).run P w= .ok () w:=by
 unfold eqGuard;cases op<;>simp
theorem jE(op:BinOp)(t:TypeId)(x y:Operand)(i j:ByteArray)(w:World):(eqGuard op t x y (.string i) (.string j)).run P w= .ok () w:=by
 unfold eqGuard;cases op<;>simp
theorem HO{i j:Int}{t:TypeId}{F':Value->Prop}(h:HI op k i j F')(k':IntKind)(E:(op= .shl\/op= .shr)\/k=k'):
  ∃r,F' r/\∀w:World,(binOp op t (.int k i) (.int k' j)).run P w= .ok r w:=by
 have UQ:op≠ .shl->op≠ .shr->k=k':=fun Y X=>by rcases E with(N|N)|N<;>simp_all
 cases op<;>simp only[HI]at h
 case shl=>obtain⟨h0,r,Y,X⟩:=h;refine⟨_,X,fun w=>?_⟩;subst Y;simp[binOp,Op.shift,show ¬j<0 by omega]
 case shr=>obtain⟨h0,r,Y,X⟩:=h;refine⟨_,X,fun w=>?_⟩;subst Y;simp[binOp,Op.shift,show ¬j<0 by omega]
 all_goals (obtain rfl:=UQ bv bv)
 case quo=>obtain⟨h0,r,Y,X⟩:=h;refine⟨_,X,fun w=>?_⟩;subst Y;simp[binOp,Op.intDiv,h0]
 case rem=>obtain⟨h0,r,Y,X⟩:=h;refine⟨_,X,fun w=>?_⟩;subst Y;simp[binOp,Op.intDiv,h0]
 case eql=>exact⟨_,h,fun w=>by simp[binOp,Op.intCmp]⟩
 case neq=>exact⟨_,h,fun w=>by simp[binOp,Op.intCmp]⟩
 case lss=>exact⟨_,h,fun w=>by simp[binOp,Op.intCmp]⟩
 case leq=>exact⟨_,h,fun w=>by simp[binOp,Op.intCmp]⟩
 case gtr=>exact⟨_,h,fun w=>by simp[binOp,Op.intCmp]⟩
 case geq=>exact⟨_,h,fun w=>by simp[binOp,Op.intCmp]⟩
 case add=>obtain⟨r,Y,X⟩:=h;refine⟨_,X,fun w=>?_⟩;subst Y;simp[binOp,Op.intArith]
 case sub=>obtain⟨r,Y,X⟩:=h;refine⟨_,X,fun w=>?_⟩;subst Y;simp[binOp,Op.intArith]
 case mul=>obtain⟨r,Y,X⟩:=h;refine⟨_,X,fun w=>?_⟩;subst Y;simp[binOp,Op.intArith]
 case and=>obtain⟨r,Y,X⟩:=h;refine⟨_,X,fun w=>?_⟩;subst Y;simp[binOp,Op.intBits]
 case or=>obtain⟨r,Y,X⟩:=h;refine⟨_,X,fun w=>?_⟩;subst Y;simp[binOp,Op.intBits]
 case andNot=>obtain⟨r,Y,X⟩:=h;refine⟨_,X,fun w=>?_⟩;subst Y;simp[binOp,Op.intBits]
 case xor=>obtain⟨r,Y,X⟩:=h;refine⟨_,X,fun w=>?_⟩;subst Y;simp[binOp,Op.intBits]
theorem run_equalIn_bool{t:TypeId}(hu:P.underlying t=some .bool)(d:Nat)(i j:Bool)(w:World):(Op.equalIn (d+1) t (.bool i) (.bool j)).run P w= .ok (i==j) w:=by
 simp[Op.equalIn,run_underlying hu]
theorem vJ{t:TypeId}(hu:P.underlying t=some .bool)(i j:Bool)(w:World):(Op.equal t (.bool i) (.bool j)).run P w= .ok (i==j) w:=run_equalIn_bool hu 9999 i j w
theorem xj{t:TypeId}(hu:P.underlying t=some .bool)(i j:Bool)(w:World):(binOp .eql t (.bool i) (.bool j)).run P w= .ok (.bool (i==j)) w:=by
 show(do pure (.bool (<-Op.equal t (.bool i) (.bool j))):Sem Value).run P w=_;rw[Sem.run_bind,vJ hu];rfl
theorem wP{t:TypeId}(hu:P.underlying t=some .bool)(i j:Bool)(w:World):(binOp .neq t (.bool i) (.bool j)).run P w= .ok (.bool (!(i==j))) w:=by
 show(do pure (.bool (!(<-Op.equal t (.bool i) (.bool j)))):Sem Value).run P w=_;rw[Sem.run_bind,vJ hu];rfl
theorem HP(hτ:fQ P τ){x y:SV}{F':SV->Prop}(h:Lx P τ op t x y F')(o1 o2:Operand):
  ∃r,F' r/\r.sc nx/\∀J:World,(do eqGuard op t o1 o2 (x.den O) (y.den O);binOp op t (x.den O) (y.den O)).run P J= .ok (r.den O) J:=by
 unfold Lx at h;split at h
 .rename_i k i k' j;have fin:∀E:(op= .shl\/op= .shr)\/k=k',HI op k i j (fun r=>F' (.o (.v r)))->∃r,F' r/\r.sc nx/\∀J:World,(do eqGuard op t o1 o2 (SV.den O (.o (.v (.int k i)))) (SV.den O (.o (.v (.int k' j))));binOp op t (SV.den O (.o (.v (.int k i)))) (SV.den O (.o (.v (.int k' j))))).run P J= .ok (r.den O) J:=by
   intro E h;obtain⟨r,Y,X⟩:=HO (P:=P) (t:=t) h k' E;refine⟨_,Y,trivial,fun J=>?_⟩;simp only[SV.den,At.den,Sem.run_bind,wO,Result.andThen_ok,X]
  split at h
  .exact fin (.inl (.inl rfl)) h
  .exact fin (.inl (.inr rfl)) h
  .split at h
   .rename_i E;exact fin (.inr (oq E)) h
   .exact h.elim
 .rename_i i j;split at h
  .rename_i ti Pt;split at h
   .rename_i OU;have hu:=(hτ t _ Pt).i2 (eG OU);split at h
    .refine⟨_,h,trivial,fun J=>?_⟩;simp only[SV.den,At.den,Sem.run_bind,mW,Result.andThen_ok,xj hu]
    .refine⟨_,h,trivial,fun J=>?_⟩;simp only[SV.den,At.den,Sem.run_bind,mW,Result.andThen_ok,wP hu]
    .exact h.elim
   .exact h.elim
  .exact h.elim
 .rename_i i j;split at h
  .refine⟨_,h,trivial,fun J=>?_⟩;simp only[SV.den,At.den,Sem.run_bind,jE,Result.andThen_ok]
   simp[binOp,Op.stringOp,ByteArray.toList_eq]
  .refine⟨_,h,trivial,fun J=>?_⟩;simp only[SV.den,At.den,Sem.run_bind,jE,Result.andThen_ok]
   simp[binOp,Op.stringOp,ByteArray.toList_eq]
  .refine⟨_,h.2,trivial,fun J=>?_⟩;simp only[SV.den,At.den,Sem.run_bind,jE,Result.andThen_ok]
   have Y:=h.1;unfold maxLen at Y;simp[binOp,Op.stringOp];omega
  .exact h.elim
 .obtain⟨b,Y,X⟩:=h;exact⟨_,X,trivial,fun J=>Y O J o1 o2⟩
abbrev LX(n B:Nat)(l:Env)(a:Act)(dst:Option Tmp)(F':SV->Hp->Nat->Iv->World->Prop)(next:Act->World->Prop):Prop:=
 ∀v H' OF K I G8 w3,F' v H' OF K I->Sat n l H' OF K B I G8 a w3->v.sc OF->next (a.put dst (v.den G8)) w3
theorem Sat.next(sat:Sat n l H nx iv B w O a J)(rel:Rel H' OF K B I G8 w3)(PI:nx<=OF)(G9:∀id,id<nx->O id=G8 id):
  Sat n l H' OF K B I G8 a w3:=
 ⟨rel,sat.size,sat.defers,fun t v h=>by rw[sat.env t v h,SV.j6 G9 (sat.sc t v h)],fun t v h=>SV.sZ PI (sat.sc t v h)⟩
theorem Be(sat:Sat n l H nx iv B w O a J){L:List At}(hs:∀c∈L,At.sc nx c):
  Rel ((nx,.box t L)::H) (nx+1) iv B w (gR O nx ⟨J.heap.size,0,false⟩) (J.alloc (.cells (L.map (At.den O)).toArray t)):=
 sat.rel.push (.box t L) _ rfl rfl rfl bv (fun k E=>heap_alloc_old _ _ E) (fun _=>⟨aN _,bv⟩) ⟨rfl,heap_alloc_new _ _⟩ hs
theorem vK:∀{vs:List SV} {k:List Nat->Prop},nA vs k->(∀v∈vs,SV.sc nx v)->∃ids,k ids/\vs.map (SV.den O)=ids.map (fun id=>Value.pointer (some ⟨(O id).g,0,none⟩))/\∀id∈ids,id<nx
 |[],k,h,_=>⟨[],h,rfl,bv⟩
 | .o (.p id 0)::r,k,h,hs=>by
  obtain⟨ids,Y,X,N⟩:=vK (vs:=r) h (fun v hv=>hs v (by simp[hv]));exact⟨id::ids,Y,by simp[X,SV.den,At.den],by simp;exact⟨hs (.o (.p id 0)) bv,N⟩⟩
 | .o (.p id (m+1))::r,k,h,_=>by simp[nA]at h
 | .o (.v x)::r,k,h,_=>by simp[nA]at h
 | .o (.s _ _ _ _)::r,k,h,_=>by simp[nA]at h
 | .o (.w _ _)::r,k,h,_=>by simp[nA]at h
 | .o (.fn _ _)::r,k,h,_=>by simp[nA]at h
 | .a _::r,k,h,_=>by simp[nA]at h
theorem xk(sat:Sat n l H nx iv B w O a J){F':SV->Hp->Iv->World->Prop}{o:Oper}{next:Act->World->Prop}
  (h:DC P B g args H nx iv w F') (Sa:(execOp a.eval o).run P J=(callFunc g (args O)).run P J)
  (Z:∀v H' K I,F' v H' K I->Sat n l H' nx K B I O a I->v.sc nx->next (a.put o.dst (v.den O)) I):o.wp P a J next Q:=by
 have hc:=h.h O J sat.rel;unfold Oper.wp;rw[Sa,hc.e.h];refine Calls.mono hc.c fun e I R=>?_;obtain⟨v,H',K,rfl,Oe,hK⟩:=R;exact Z _ _ _ _ hK (sat.next (G8:=O) Oe (aN _) (fun _ _=>rfl)) trivial
theorem Rel.ext(r:Rel H nx iv B w O J)(e:Ext J I):Rel H nx iv B w O I:=
 Rel.mk' (e.os.trans r.os) (e.tape.trans r.tape) (e.output.trans r.output) (bB r.size e.size) r.base r.sN r.keys
  (fun id b h=>j1.gu (r.fits h) (fun _ _=>rfl) (r.scopd h) (fun Z _=>e.block _ (r.low id b h Z).2)) (fun id b h=>r.scopd h) r.inj
  (fun id b h Z=>by have:=r.low id b h Z;have:=e.size;omega) (fun k E OB=>by rw[e.block k (by have:=r.size;omega)];exact r.uC k E OB) r.kI
theorem Rel.here(r:Rel H nx iv B w O J):Rel H nx iv B J O J:=
 Rel.mk' rfl rfl rfl (aN _) (by have:=r.base;have:=r.size;omega) (fun lo D hm=>by have:=r.sN lo D hm;have:=r.size;omega) r.keys
  (fun id b h=>r.fits h) (fun id b h=>r.scopd h) r.inj r.low (fun _ _ _=>rfl) r.kI
theorem Rel.more{lo D:Nat}(r:Rel H nx iv B w O J)(Y:D<=w.heap.size)(X:∀id b,cw H id=some b->(O id).nil=false->¬(lo<=(O id).g/\(O id).g<D)):Rel H nx ((lo,D)::iv) B w O J:=
 Rel.mk' r.os r.tape r.output r.size r.base
  (fun lo' Rw hm=>by
   rcases List.mem_cons.1 hm with hm|hm
   .injection hm with e1 e2;omega
   .exact r.sN lo' Rw hm) r.keys (fun id b hb=>r.fits hb) (fun id b hb=>r.scopd hb) r.inj r.low r.uC
  (fun lo' Rw hm id b hb Ok=>by
   rcases List.mem_cons.1 hm with hm|hm
   .injection hm with e1 e2;subst e1;subst e2;exact X id b hb Ok
   .exact r.kI lo' Rw hm id b hb Ok)
theorem cD{F':SV->Hp->Iv->World->Prop}(h:Cw P B g args H nx iv w F'):DC P B g args H nx iv w F':=
 ⟨fun O J r=>⟨(h.h O J r).e,Calls.mono (h.h O J r).c fun e I R=>by
  obtain⟨v,Y,X,N⟩:=R
  exact⟨v,H,_,Y,(r.ext X).here.more (aN _) (fun id b hb Z=>by have:=(r.low id b hb Z).2;omega),N⟩⟩⟩
def uD:Op->Bool
 | .move _| .assign _| .pick _ _ _| .build _ _| .load _ _| .nilCheck _| .binOp _ _ _ _ _| .unOp _ _ _| .convert _ _ _| .makeFunc _ _ _| .slice _ _ _ _ _| .fieldAddr _ _ _| .field _ _ _| .indexAddr _ _ _| .extract _ _=>true
 | .call ⟨.builtin .len,_,_⟩=>true
 | .call ⟨.builtin .max,_,_⟩=>true
 | .call ⟨.builtin .min,_,_⟩=>true
 |_=>false
def KR:Op->Bool
 | .alloc _| .box _ _| .buildSlice _ _ _| .makeSlice _ _ _=>true
 |_=>false
def HB:Op->Bool
 | .load _ _=>false
 |o=>uD o
theorem lM(hτ:fQ P τ){o:Oper}(h:xZ dr P τ B o l H nx iv w F')(sat:Sat n l H nx iv B w O a J)(E:uD o.op=true):
  (∃v,F' v H nx iv w/\v.sc nx/\∀I,(HB o.op=true\/Rel H nx iv B w O I)->(execOp a.eval o).run P I= .ok (.value (v.den O)) I)\/(dr=false/\xK P B o l H nx iv w F'):=by
 obtain⟨dst,op,ty,pos,after,guard⟩:=o;have val:∀(r:SV),F' r H nx iv w->r.sc nx->(∀I,(HB op=true\/Rel H nx iv B w O I)->(execOp a.eval ⟨dst,op,ty,pos,after,guard⟩).run P I= .ok (.value (r.den O)) I)->
   (∃v,F' v H nx iv w/\v.sc nx/\∀I,(HB op=true\/Rel H nx iv B w O I)->(execOp a.eval ⟨dst,op,ty,pos,after,guard⟩).run P I= .ok (.value (v.den O)) I)\/(dr=false/\xK P B ⟨dst,op,ty,pos,after,guard⟩ l H nx iv w F'):=
  fun r hK hs hr=>.inl ⟨r,hK,hs,hr⟩
 unfold xZ at h;split at h<;>first|(exact False.elim h)|(rename_i Sa;simp only at Sa;subst Sa)
 .obtain⟨v,hK,hv,hs⟩:=dO sat h;exact val v hK hs (fun I rel=>by simp[execOp,hv])
 .obtain⟨v,hK,hv,hs⟩:=dO sat h;exact val v hK hs (fun I rel=>by simp[execOp,hv])
 .rename_i c x y;obtain⟨v,Y,hv,QX⟩:=dO sat h;clear QX;split at Y
  .rename_i t
   cases t
   .obtain⟨u,hK,hu,hs⟩:=dO sat (Y.f rfl);exact val u hK hs (fun I rel=>by simp[execOp,hv,SV.den,At.den,asBool,hu])
   .obtain⟨u,hK,hu,hs⟩:=dO sat (Y.t rfl);exact val u hK hs (fun I rel=>by simp[execOp,hv,SV.den,At.den,asBool,hu])
  .exact Y.elim
 .cases E
 .cases E
 .rename_i t parts;split at h
  .rename_i sz ag by_ ze tag ik e al fs Pt;have ht:=hτ t _ Pt;obtain⟨inf,z,D,Oj,Oy,hz,Qp⟩:=ht.info;simp only at Oj Oy Qp;have hzz:z.cells=(((ze.map At.v)).map (At.den O)).toArray:=by rw[fR];apply Array.ext';simpa using Qp
   have hzs:∀c∈ze.map At.v,At.sc nx c:=fun c hc=>by simp at hc;obtain⟨v,_,rfl⟩:=hc;trivial
   split at h
   .rename_i OU;obtain⟨fds,hu,hf,Q1⟩:=ht.i5 (eG OU);simp only at hf;have UR:fds.toList.mapM (fun f=>(P.info? f.type).map fun i=>(f.offset,i.size))=some (fds.toList.map fun f=>(f.offset,((P.info? f.type).map (·.size)).getD 0)):=by
     clear hf hu;generalize fds.toList=fl at Q1
     induction fl with
     |nil=>rfl
     |cons f r ih=>
      obtain⟨i0,Qu⟩:=Option.isSome_iff_exists.1 (Q1 f bv);rw[List.mapM_cons,ih (fun g F=>Q1 g (by simp[F]))];simp[Qu]
    have h0:=fS h
    obtain⟨cs',hK,Of,hlen,PC⟩:=jk sat (placeF:=fun i=>(fds.toList.map fun f=>(f.offset,((P.info? f.type).map (·.size)).getD 0))[i]?) (fun i k E=>by
     obtain⟨off,ft,fi,Y,X,N,h4⟩:=mH hτ E;refine⟨off,fi.size,Y,?_⟩;rw[<-hf]at X;simp only[aO,Option.map_eq_some_iff]at X ⊢;obtain⟨fd,Pp,R⟩:=X;injection R with e1 e2;refine⟨fd,Pp,?_⟩;obtain⟨inf',_,Rw,Se,_⟩:=N.info;rw[e1,e2,Rw]
     simp[Se]) h0 hzs
    refine val _ hK Of (fun I rel=>?_);have hb:P.built t (parts.map fun p=>(p.1,a.eval p.2)).toList=some (cs'.map (At.den O)).toArray:=by
     unfold Program.built;simp only[D,hu,hz,UR]
     rw[hzz,<-PC];simp
    have:=run_build I t _ _ hb;simp only[execOp]
    exact lO this
   .split at h
    .rename_i OU;have hu:=ht.i6 (eG OU);simp only at hu;split at h
     .rename_i sz' ag' by' ze' tag' ik' e' al' fs' Oq
      have Oq:=hτ e _ Oq;obtain⟨inf',_,Rw,Se,_⟩:=Oq.info;simp only at Se;have h0:=fS h;obtain⟨cs',hK,Of,hlen,PC⟩:=jk sat (placeF:=fun i=>some (i*inf'.size,inf'.size)) (fun i k E=>⟨i*sz',sz',E,by rw[Se]⟩) h0 hzs;refine val _ hK Of (fun I rel=>?_);have hb:P.built t (parts.map fun p=>(p.1,a.eval p.2)).toList=some (cs'.map (At.den O)).toArray:=by
       unfold Program.built;simp only[D,hu,hz,Rw]
       rw[hzz,<-PC];simp
      have:=run_build I t _ _ hb;simp only[execOp]
      exact lO this
     .exact h.elim
    .exact h.elim
  .exact h.elim
 .cases E
 .rename_i t x;obtain⟨v,Y,hv,hs⟩:=dO sat h;obtain⟨r,hK,hr,OI⟩:=nE hτ sat.rel hs Y;exact val r hK hr (fun I rel=>by simp only[execOp,hv];exact lO (OI I (rel.resolve_left (by simp[HB]))))
 .cases E
 .rename_i x;obtain⟨v,Y,hv,hs⟩:=dO sat h;split at Y
  .exact val _ Y hs (fun I rel=>by simp[execOp,hv,SV.den,At.den])
  .exact val _ Y hs (fun I rel=>by simp[execOp,hv,SV.den,At.den])
  .exact val _ Y hs (fun I rel=>by simp[execOp,hv,SV.den,At.den])
  .exact val _ Y hs (fun I rel=>by simp[execOp,hv,SV.den,At.den])
  .exact Y.elim
 .rename_i op t x y u;obtain⟨v,Y,hv,_⟩:=dO sat h;obtain⟨v2,X,Qq,_⟩:=dO sat Y;obtain⟨r,hK,hr,OI⟩:=HP (O:=O) hτ X x y;exact val r hK hr (fun I rel=>by simp only[execOp,hv,Qq];exact lO (OI I))
 .rename_i op t x;obtain⟨v,Y,hv,_⟩:=dO sat h;split at Y
  .exact val _ Y trivial (fun I rel=>by simp[execOp,hv,SV.den,At.den,Op.unary])
  .obtain⟨r,hr,hK⟩:=Y;exact val _ hK trivial (fun I rel=>by subst hr;simp[execOp,hv,SV.den,At.den,Op.unary,Op.intArith])
  .obtain⟨r,hr,hK⟩:=Y;exact val _ hK trivial (fun I rel=>by subst hr;simp[execOp,hv,SV.den,At.den,Op.unary,Op.intBits])
  .exact Y.elim
 .rename_i s d x;split at h
  .rename_i tis htis;obtain⟨ds,hds,_⟩:=(hτ s _ htis).agg;obtain⟨v,Y,hv,QX⟩:=dO sat h;clear QX;split at Y
   .rename_i sz ag by_ ze tag ik e al fs Pt;have ht:=hτ d _ Pt;split at Y
    .rename_i OU;have hu:=ht.i1 (eG OU);simp only at hu;split at Y
     .obtain⟨r,hr,hK⟩:=Y;refine val _ hK trivial (fun I rel=>?_);subst hr;simp[execOp,convert,run_underlying hds,run_underlying hu,hv,SV.den,At.den,Conv.intToInt]
     .exact Y.elim
    .cases dr
     .exact .inr ⟨rfl,Y⟩
     .exact Y.elim
   .exact Y.elim
  .exact h.elim
 .rename_i f first caps
  split at h
  .obtain⟨vs,Y,QX,Re⟩:=qG sat h;obtain⟨ids,hK,hids,OT⟩:=vK (O:=O) Y Re;refine val _ hK (fun id Oh=>OT id Oh) (fun I rel=>?_);have e:caps.map a.eval=(ids.map fun id=>Value.pointer (some ⟨(O id).g,0,none⟩)).toArray:=by
    apply Array.ext';rw[<-hids,<-QX];simp
   simp[execOp,Instr.makeFunc,e,SV.den,At.den]
  .exact h.elim
 .cases E
 .rename_i t x lo D;obtain⟨v,Y,hv,hs⟩:=dO sat h;obtain⟨r,hK,hr,OI⟩:=DH hτ sat Y hs;exact val r hK hr (fun I rel=>by simp only[execOp,hv];exact lO (by simpa using OI I))
 .rename_i t x f;split at h
  .rename_i sz ag by_ ze tag ik e al fs Pt;have ht:=hτ t _ Pt;split at h
   .rename_i OU;obtain⟨off,ft,fi,Y,hf,TR,Oj⟩:=mH hτ h;obtain⟨v,X,hv,hs⟩:=dO sat Y;obtain⟨r,ad,hK,hr,hd,hrd⟩:=s3 (O:=O) X hs;refine val r hK hr (fun I rel=>?_);simp only[execOp,hv,hd,hrd]
    exact lO (DE ht (eG OU) hf TR Oj ad I)
   .exact h.elim
  .exact h.elim
 .rename_i t x f;split at h
  .rename_i sz ag by_ ze tag ik e al fs Pt;have ht:=hτ t _ Pt;split at h
   .rename_i OU;obtain⟨off,ft,fi,Y,hf,TR,Oj⟩:=mH hτ h;obtain⟨v,X,hv,hs⟩:=dO sat Y;obtain⟨fds,fd,hu,Pp,e1,e2⟩:=xh ht (eG OU) hf;have fin:∀L:List At,v.den O= .agg (L.map (At.den O)).toArray->(∀c∈L,At.sc nx c)->
      (match fi.agg with
       |true=>sO L off (fun r=>sP r fi.size (fun c=>F' (.a c) H nx iv w))
       |false=>match zo L off with
        |some c=>F' (.o c) H nx iv w
        |none=>False)->(∃v,F' v H nx iv w/\v.sc nx/\∀I,(HB (.field t x f)=true\/Rel H nx iv B w O I)->(execOp a.eval ⟨dst,.field t x f,ty,pos,after,guard⟩).run P I= .ok (.value (v.den O)) I)\/(dr=false/\xK P B ⟨dst,.field t x f,ty,pos,after,guard⟩ l H nx iv w F'):=by
     intro L hd Of E;split at E
     .rename_i hag;obtain⟨N,Rg⟩:=nB E;obtain⟨hK,Ot⟩:=nC N;refine val _ hK (fun c hc=>Of c (List.mem_of_mem_drop (List.mem_of_mem_take hc))) (fun I rel=>?_);simp only[execOp,hv,hd]
      refine lO ?_;subst e1 e2;simp[Instr.field,run_underlying hu,Pp,asAgg,part,TR.isAgg,hag,TR.sizeOf,SV.den,List.map_drop,List.map_take,List.extract_eq_take_drop]
     .rename_i hag;split at E
      .rename_i c hc;rw[uI]at hc;refine val _ E (Of c (aG hc)) (fun I rel=>?_);simp only[execOp,hv,hd]
       refine lO ?_;subst e1 e2;simp[Instr.field,run_underlying hu,Pp,asAgg,part,TR.isAgg,hag,hc,SV.den]
      .exact E.elim
    split at X
    .rename_i vs;exact fin (vs.map At.v) (by rw[fR];rfl) (fun c hc=>by simp at hc;obtain⟨v,_,rfl⟩:=hc;trivial) (fS X)
    .exact fin _ rfl hs X
    .exact X.elim
   .exact h.elim
  .exact h.elim
 .rename_i t x i;obtain⟨v,Y,hv,hs⟩:=dO sat h;obtain⟨u,X,hu,_⟩:=dO sat Y;obtain⟨r,hK,hr,OI⟩:=DF hτ X hs sat.rel;exact val r hK hr (fun I rel=>by simp only[execOp,hv,hu];exact lO (OI I))
 .rename_i x i;obtain⟨v,Y,hv,hs⟩:=dO sat h;split at Y
  .split at Y
   .rename_i vs u hu;rw[Aj]at hu;exact val _ Y trivial (fun I rel=>by simp[execOp,hv,Instr.extract,SV.den,At.den,hu])
   .exact Y.elim
  .exact Y.elim
 .rename_i x t;obtain⟨v,Y,hv,_⟩:=dO sat h;obtain⟨r,hK,OI⟩:=HN (ty:=ty) hτ Y sat.rel;refine val _ hK trivial (fun I rel=>?_);show _=Result.ok (Next.value (Value.int .i64 r)) I;generalize v.den O=xv at hv OI;have OI:=OI I;simp[execOp,resolve,invoke,builtin,hv,OI]
 .cases E
 .rename_i x y ts;obtain⟨v,Y,hv,_⟩:=dO sat h;obtain⟨v2,X,Qq,_⟩:=dO sat Y;split at X
  .split at X
   .rename_i k a1 k' b1 US;have UQ:=oq US;subst UQ;refine val _ X trivial (fun I rel=>?_);simp only[execOp,resolve,invoke,builtin]
    simp[hv,Qq,SV.den,At.den,Builtin.max_,Builtin.max2];omega
   .exact X.elim
  .exact X.elim
 .rename_i x y ts;obtain⟨v,Y,hv,_⟩:=dO sat h;obtain⟨v2,X,Qq,_⟩:=dO sat Y;split at X
  .split at X
   .rename_i k a1 k' b1 US;have UQ:=oq US;subst UQ;refine val _ X trivial (fun I rel=>?_);simp only[execOp,resolve,invoke,builtin]
    simp[hv,Qq,SV.den,At.den,Builtin.min_,Builtin.min2];omega
   .exact X.elim
  .exact X.elim
 .cases E
 .cases E
 .cases E
 .cases E
 .cases E
 .cases E
 .cases E
 .cases E
theorem gw{o:Oper}(h:xK P B o l H nx iv w F')(sat:Sat n l H nx iv B w O a J){next:Act->World->Prop}
  (Z:LX n B l a o.dst F' next):o.wp P a J next Q:=by
 obtain⟨v,I,K,OI,Oe,hK⟩:=h.h O J a.eval sat.rel (fun x v G=>(s0 sat G).1);have:=Z _ _ _ _ _ _ _ hK (sat.next Oe (aN _) (fun _ _=>rfl)) trivial;unfold Oper.wp;rcases OI with OI|⟨OI,rfl⟩
 .rw[OI];exact this
 .rw[OI];exact this
theorem mz(hτ:fQ P τ){o:Oper}(h:xZ dr P τ B o l H nx iv w F')(sat:Sat n l H nx iv B w O a J){next:Act->World->Prop}
  (Z:LX n B l a o.dst F' next):o.wp P a J next Q:=by
 by_cases E:uD o.op=true
 .rcases lM hτ h sat E with⟨v,hK,hs,hr⟩|⟨_,Sa⟩
  .exact mE (hr J (.inr sat.rel)) (Z _ _ _ _ _ _ _ hK sat hs)
  .exact gw Sa sat Z
 obtain⟨dst,op,ty,pos,after,guard⟩:=o;unfold xZ at h;split at h<;>first|(exact False.elim h)|(rename_i Sa;simp only at Sa;subst Sa)
 .exact absurd rfl E
 .exact absurd rfl E
 .exact absurd rfl E
 .rename_i t;split at h
  .rename_i sz ag by_ ze tag ik e al fs Pt;obtain⟨z,OG,OQ⟩:=(hτ t _ Pt).zeroV J;have hK:=fS h;simp only at OQ;have Oe:=Be sat (t:=t) (L:=ze.map At.v) (fun c hc=>by simp at hc;obtain⟨v,_,rfl⟩:=hc;trivial);rw[fR]at Oe;have hzz:z.cells=ze.toArray:=by apply Array.ext';simpa using OQ
   refine mE (I:=J.alloc (.cells ze.toArray t)) (v:=.pointer (some ⟨J.heap.size,0,none⟩)) ?_ ?_
   .simp[execOp,Instr.alloc,OG,newVar,newRow,hzz]
   .have:=Z _ _ _ _ _ _ _ hK (sat.next Oe be gS) (by simp[SV.sc,At.sc]);simpa [SV.den,At.den]using this
  .exact h.elim
 .rename_i t x;obtain⟨v,Y,hv,hs⟩:=dO sat h;obtain⟨L,hK,Oi,Re⟩:=lN Y;have Oe:=Be sat (t:=t) (Re nx hs);refine mE (I:=J.alloc (.cells (L.map (At.den O)).toArray t)) (v:=.pointer (some ⟨J.heap.size,0,none⟩)) ?_ ?_
  .simp[execOp,Instr.box,hv,newVar,newRow,Oi O]
  .have:=Z _ _ _ _ _ _ _ hK (sat.next Oe be gS) (by simp[SV.sc,At.sc]);simpa [SV.den,At.den]using this
 .exact absurd rfl E
 .rename_i t m parts;split at h
  .rename_i sz ag by_ ze tag ik e al fs Pt;have ht:=hτ t _ Pt;split at h
   .rename_i OU;have hu:=ht.i4 (eG OU);simp only at hu;split at h
    .rename_i sz' ag' by' ze' tag' ik' e' al' fs' Oq
     have Oq:=hτ e _ Oq;obtain⟨inf,z,D,Oj,Oy,hz,Qp⟩:=Oq.info;have RD:=Oq.HE;simp only at Oj Oy Qp RD;split at h
     .rename_i hle;have hle:=Nat.le_of_ble_eq_true hle;have h0:=fS h;obtain⟨cs',hK,Of,hlen,PC⟩:=jk sat (placeF:=fun i=>some (i*inf.size,inf.size)) (fun i k E=>⟨i*sz',sz',E,by rw[Oj]⟩) h0
       (fun c hc=>by obtain⟨v,_,rfl⟩:=aV.1 hc;trivial)
      rw[fR]at PC;have QQ:z.cells=ze'.toArray:=by apply Array.ext';simpa using Qp
      have TT:((List.replicate m ze').flatten).toArray=madeCells z.cells (m*inf.size):=by
       rw[QQ,Oj,<-RD];exact(qJ ze' m).symm
      have Oe:=Be sat (t:=e) Of;refine mE (I:=J.alloc (.cells (cs'.map (At.den O)).toArray e)) (v:=.slice (some ⟨J.heap.size,0,none⟩) m m) ?_ ?_
      .simp only[execOp]
       refine lO ?_;rw[TT]at PC;by_cases PB:m*inf.size=0
       .have Qv:Instr.fill (fun i=>some (i*inf.size,inf.size)) (madeCells z.cells 0) (parts.toList.map fun p=>(p.1,a.eval p.2))=some (cs'.map (At.den O)).toArray:=by rw[PB]at PC;exact PC
        have e0:madeCells z.cells 0= #[]:=by simp[madeCells]
        rw[e0]at Qv;have er:Array.range 0= #[]:=rfl;simp[Instr.buildSlice,run_underlying hu,sizeOf,typeInfo,zeroValue,D,hz,PB,newRow,Qv,er]
       .exact run_buildSlice J t e m _ _ inf z hu D hz (by rw[Oj];omega) PB (by rw[<-PC];simp[madeCells])
      .have:=Z _ _ _ _ _ _ _ hK (sat.next Oe be gS) (by simp[SV.sc,At.sc]);simpa [SV.den,At.den]using this
     .exact h.elim
    .exact h.elim
   .exact h.elim
  .exact h.elim
 .exact absurd rfl E
 .rename_i t x y;obtain⟨v,Y,hv,hs⟩:=dO sat h;obtain⟨u,X,hu,PY⟩:=dO sat Y
  cases F:LW H v u with
  |true=>
   rw[F]at X
   cases dr with
   |true=>exact X.elim
   |false=>
    have X:NY P B _ l H nx iv w F':=X;obtain⟨I,w3,H',K,OI,Oe,hK⟩:=X.h O J a.eval sat.rel (fun x v G=>(s0 sat G).1);refine IU (I:=w3) OI ?_;exact Z _ _ _ _ _ _ _ hK (sat.next Oe (aN _) (fun _ _=>rfl)) trivial
  |false=>
   rw[F]at X;obtain⟨H',I,w3,hK,Oe,OI⟩:=vI hτ sat hs PY X;refine IU (I:=w3) (by simp[execOp,hv,hu,OI]) ?_;exact Z _ _ _ _ _ _ _ hK (sat.next Oe (aN _) (fun _ _=>rfl)) trivial
 .exact absurd rfl E
 .exact absurd rfl E
 .exact absurd rfl E
 .exact absurd rfl E
 .exact absurd rfl E
 .rename_i t x y;obtain⟨v,Y,hv,_⟩:=dO sat h;obtain⟨u,X,hu,_⟩:=dO sat Y;obtain⟨r,H',OF,G8,I,hK,Oe,hr,PI,G9,OI⟩:=Ef hτ sat X;refine mE (I:=I) (by simp only[execOp,hv,hu];exact lO OI) ?_;exact Z _ _ _ _ _ _ _ hK (sat.next Oe PI G9) hr
 .exact absurd rfl E
 .exact absurd rfl E
 .exact absurd rfl E
 .exact absurd rfl E
 .exact absurd rfl E
 .exact absurd rfl E
 .rename_i x y t u;split at h
  .rename_i htu;have htu:=eG htu;subst htu;obtain⟨v,Y,hv,_⟩:=dO sat h;obtain⟨v2,X,Qq,_⟩:=dO sat Y;split at X
   .unfold Nq at X;split at X
    .exact X.elim
    .obtain⟨v,H',OF,K,G8,I,w3,OI,Oe,hs,PI,G9,hK⟩:=X.h O J a.eval sat.rel (fun x v G=>(s0 sat G).1);exact mE OI (Z _ _ _ _ _ _ _ hK (sat.next Oe PI G9) hs)
   rcases X with X|X
   .obtain⟨r,H',OF,G8,I,hK,Oe,hr,PI,G9,OI⟩:=sY (ty:=ty) hτ sat X;refine mE (v:=r.den G8) (I:=I) ?_ ?_
    .simp[execOp,resolve,invoke,builtin,hv,Qq,OI]
    .exact Z _ _ _ _ _ _ _ hK (sat.next Oe PI G9) hr
   .exact gw X sat Z
  .exact gw h sat Z
 .exact absurd rfl E
 .exact absurd rfl E
 .exact gw h sat Z
 .exact gw h sat Z
 .exact gw h sat Z
 .exact gw h sat Z
 .exact gw h sat Z
 .exact gw h sat Z
 .exact gw h sat Z
 .rename_i f args ats;obtain⟨v,Y,hv,_⟩:=dO sat h;obtain⟨vs,X,QX,Re⟩:=qG sat Y;have RN:(args.toArray).map a.eval=mw O vs:=by
   apply Array.ext';simp[mw,QX]
  have Uv:∀(g:Nat) (args:(Nat->da)->Array Value) (F':SV->Hp->Iv->World->Prop),IP dr P B g args H nx iv w F'->DC P B g args H nx iv w F':=fun g args F' h=>by
   cases dr
   .exact h
   .exact cD h
  split at X
  .rename_i g first caps
   refine xk sat (Uv _ _ _ X) ?_ (fun v H' K I hK hs hv=>Z _ _ _ _ _ _ _ hK hs hv);simp[execOp,resolve,hv,SV.den,At.den,Deferred.ofValue,invoke,RN]
  .rename_i g ids;refine xk sat (Uv _ _ _ X) ?_ (fun v H' K I hK hs hv=>Z _ _ _ _ _ _ _ hK hs hv);simp[execOp,resolve,hv,SV.den,At.den,Deferred.ofValue,invoke,RN]
  .exact X.elim
end
def Ex.to:Ex->Exit
 | .normal=>.normal
 | .exit id=>.exit id
 | .ret=>.ret
def Lz(n:Nat)(o:Oper):Bool:=match o.dst with
 |some d=>Nat.blt d n
 |none=>true
def codeOk(n:Nat):Code->Bool
 | .region _ ops _=>ops.toList.all (Lz n)
 | .seq a b=>codeOk n a&&codeOk n b
 | .cond _ a b=>codeOk n a&&codeOk n b
 | .block _ c=>codeOk n c
 | .loop c=>codeOk n c
 |_=>true
section
variable{P:Program}{τ:mS}{B n nx:Nat}{l:Env}{H:Hp}{iv:Iv}{w J:World}{O:Nat->da}{a:Act}
theorem Sat.put(sat:Sat n l H nx iv B w O a J){d:Nat}(hd:d<n){v:SV}(hv:v.sc nx):Sat n ((d,v)::l) H nx iv B w O (a.put (some d) (v.den O)) J:=by
 refine⟨sat.rel,by simp[Act.put,sat.size],sat.defers,fun t u h=>?_,fun t u h=>?_⟩
 .rw[eW]at h;split at h
  .rename_i e;subst e;injection h with h;subst h;simp[Act.put,sat.size,hd]
  .rename_i e;have:=sat.env t u h;simpa [Act.put,Array.getElem?_setIfInBounds_ne e]using this
 .rw[eW]at h;split at h
  .injection h with h;subst h;exact hv
  .exact sat.sc t u h
theorem gv(sat:Sat n l H nx iv B w O a J){v:SV}{k:Env->Prop}(h:Ct d v l k)(hd:∀t,d=some t->t<n)(hv:v.sc nx):
  ∃l',k l'/\Sat n l' H nx iv B w O (a.put d (v.den O)) J:=by
 unfold Ct at h;split at h
 .rename_i t;exact⟨_,h,sat.put (hd t rfl) hv⟩
 .exact⟨l,h,sat⟩
theorem rM:∀{all:List Oper} {j:Nat},Ah all j=(all[j]?).bind (·.dst)
 |[],j=>by simp[Ah]
 |o::r,0=>by simp[Ah]
 |o::r,j+1=>by simp[Ah,rM (all:=r)]
theorem Sat.Mo(sat:Sat n l H nx iv B w O a J){d:Nat}{v:SV}(hd:a.tmps[d]? =some (v.den O))(hv:v.sc nx):Sat n ((d,v)::l) H nx iv B w O a J:=by
 refine⟨sat.rel,sat.size,sat.defers,fun t u h=>?_,fun t u h=>?_⟩
 .rw[eW]at h;split at h
  .rename_i e;subst e;injection h with h;subst h;exact hd
  .exact sat.env t u h
 .rw[eW]at h;split at h
  .injection h with h;subst h;exact hv
  .exact sat.sc t u h
theorem kK(sat:Sat n l H nx iv B w O a J){all:List Oper}{o:Oper}{yes no:Env->Prop}(h:sR all o.guard l yes no):
  (Region.wanted o (yielded all.toArray a.tmps)=true/\∃l',yes l'/\Sat n l' H nx iv B w O a J)\/(Region.wanted o (yielded all.toArray a.tmps)=false/\∃l',no l'/\Sat n l' H nx iv B w O a J):=by
 unfold sR at h;split at h
 .rename_i F;exact .inl ⟨by simp[Region.wanted,F],l,h,sat⟩
 .rename_i j want F;have hy:Region.wanted o (yielded all.toArray a.tmps)=(yielded all.toArray a.tmps j==some want):=by simp[Region.wanted,F]
  split at h
  .rename_i hd;rw[rM]at hd;exact .inr ⟨by rw[hy];simp[yielded,hd],l,h,sat⟩
  .rename_i d hd;rw[rM]at hd;split at h
   .rename_i b hb;have ht:=sat.env d _ hb;have Ty:yielded all.toArray a.tmps j=some b:=by simp[yielded,hd,ht,SV.den,At.den]
    have hkt:b=true->Sat n ((d,.o (.v (.bool true)))::l) H nx iv B w O a J:=fun e=>sat.Mo (by rw[ht,e]) trivial;have hkf:b=false->Sat n ((d,.o (.v (.bool false)))::l) H nx iv B w O a J:=fun e=>sat.Mo (by rw[ht,e]) trivial;split at h
    .cases OO:b
     .exact .inr ⟨by rw[hy,Ty,OO];rfl,_,h.f OO,hkf OO⟩
     .exact .inl ⟨by rw[hy,Ty,OO];rfl,_,h.t OO,hkt OO⟩
    .cases OO:b
     .exact .inl ⟨by rw[hy,Ty,OO];rfl,_,h.f OO,hkf OO⟩
     .exact .inr ⟨by rw[hy,Ty,OO];rfl,_,h.t OO,hkt OO⟩
   .rename_i vs hb;have ht:=sat.env d _ hb;exact .inr ⟨by rw[hy];simp[yielded,hd,ht,SV.den,At.den],l,h,sat⟩
   .exact h.elim
theorem ot(hτ:fQ P τ){all:List Oper}{F':KT}{Q:Exit->Act->World->Prop}
  (hQ:∀l' H' OF K I G8 a' w3,F' l' H' OF K I->Sat n l' H' OF K B I G8 a' w3->Q .normal a' w3):
  ∀(rest:List Oper) (l:Env) (H:Hp) (nx:Nat) (iv:Iv) (w:World) (O:Nat->da) (a:Act) (J:World),rest.all (Lz n)=true->GC P τ B all rest l H nx iv w F'->Sat n l H nx iv B w O a J->
   wpList P all.toArray Q rest a J
 |[],l,H,nx,iv,w,O,a,J,_,h,sat=>wpList_nil (hQ _ _ _ _ _ _ _ _ h sat)
 |o::r,l,H,nx,iv,w,O,a,J,OE,h,sat=>by
  simp only[List.all_cons,ai]at OE;have hd:∀t,o.dst=some t->t<n:=fun t ht=>by
   have:=OE.1;simp only[Lz,ht]at this;have h5:t+1<=n:=by simpa [Nat.blt]using this
   exact h5
  refine wpList_step fun Kc hKc=>?_;unfold GC ga at h;rcases kK sat h with⟨V,l1,Y,sat1⟩|⟨V,l1,Y,sat1⟩
  .rw[aH V];refine mz hτ Y sat1 fun v H' OF K I G8 w3 X sat2 hv=>?_;obtain⟨l2,N,sat3⟩:=gv sat2 X hd hv;exact hKc _ _ (ot hτ hQ r _ _ _ _ _ _ _ _ OE.2 N sat3)
  .rw[aF (by simp[V])];obtain⟨l2,N,sat3⟩:=gv sat1 Y hd trivial;exact hKc _ _ (ot hτ hQ r _ _ _ _ _ _ _ _ OE.2 N sat3)
theorem Sub.sat{t:Ai}(h:Sub B l nx O J t)(sat:Sat n l H nx iv B w O a J):∃G8,Sat n t.l t.H t.nx t.iv B t.w G8 a J:=by
 obtain⟨G8,Y,X⟩:=h;refine⟨G8,Y,sat.size,sat.defers,fun u v hv=>?_,fun u v hv=>(X u v hv).1⟩;obtain⟨_,v0,N,h4⟩:=X u v hv;rw[sat.env u v0 N,h4]
theorem gb(hτ:fQ P τ):∀(c:Code) (l:Env) (H:Hp) (nx:Nat) (iv:Iv) (w:World) (Q':Ex->KT),mF P τ B c l H nx iv w Q'->codeOk n c=true->
  ∀(O:Nat->da) (a:Act) (J:World),Sat n l H nx iv B w O a J->∀Q:Exit->Act->World->Prop,(∀e l' H' OF K I G8 a' w3,Q' e l' H' OF K I->Sat n l' H' OF K B I G8 a' w3->Q e.to a' w3)->c.wp P Q a J
 | .skip,l,H,nx,iv,w,Q',h,_,O,a,J,sat,Q,hQ=>wp_skip (hQ .normal _ _ _ _ _ _ _ _ h sat)
 | .region id ops false,l,H,nx,iv,w,Q',h,OE,O,a,J,sat,Q,hQ=>by
  obtain⟨ol⟩:=ops;exact wp_region_lit (ot hτ (fun l' H' OF K I G8 a' w3 E hs=>hQ .normal _ _ _ _ _ _ _ _ E hs) ol _ _ _ _ _ _ _ _ OE h sat)
 | .region id ops true,l,H,nx,iv,w,Q',h,OE,O,a,J,sat,Q,hQ=>
  uF.h h n O a J OE sat Q (fun l' H' OF K I G8 a' w3 E hs=>hQ .normal _ _ _ _ _ _ _ _ E hs) id
 | .seq c d,l,H,nx,iv,w,Q',h,OE,O,a,J,sat,Q,hQ=>by
  simp only[codeOk,ai]at OE;refine wp_seq (gb hτ c _ _ _ _ _ _ h OE.1 O a J sat _ fun e l' H' OF K I G8 a' w3 E hs=>?_)
  cases e with
  |normal=>exact gb hτ d _ _ _ _ _ _ E OE.2 G8 a' w3 hs Q hQ
  |exit id=>exact hQ (.exit id) _ _ _ _ _ _ _ _ E hs
  |ret=>exact hQ .ret _ _ _ _ _ _ _ _ E hs
 | .cond x c d,l,H,nx,iv,w,Q',h,OE,O,a,J,sat,Q,hQ=>by
  simp only[codeOk,ai]at OE;obtain⟨v,Y,hv,QX⟩:=dO sat h;clear QX;split at Y
  .rename_i t;refine wp_cond_split (t:=t) (by rw[hv];rfl) (fun ht=>?_) (fun ht=>?_)
   .exact gb hτ c _ _ _ _ _ _ (Y.t ht) OE.1 O a J sat Q hQ
   .exact gb hτ d _ _ _ _ _ _ (Y.f ht) OE.2 O a J sat Q hQ
  .exact Y.elim
 | .block id c,l,H,nx,iv,w,Q',h,OE,O,a,J,sat,Q,hQ=>by
  refine wp_block (gb hτ c _ _ _ _ _ _ h OE O a J sat _ fun e l' H' OF K I G8 a' w3 E hs=>?_)
  cases e with
  |normal=>exact hQ .normal _ _ _ _ _ _ _ _ E hs
  |exit id'=>
   simp only[Ex.to,Exit.inBlock]
   simp only at E;split at E
   .rename_i R;rw[aH (eG R)];exact hQ .normal _ _ _ _ _ _ _ _ E hs
   .rename_i R;rw[aF (fun e=>by subst e;rw[Nat.beq_refl]at R;cases R)];exact hQ (.exit id') _ _ _ _ _ _ _ _ E hs
  |ret=>exact hQ .ret _ _ _ _ _ _ _ _ E hs
 | .loop c,l,H,nx,iv,w,Q',h,OE,O,a,J,sat,Q,hQ=>by
  obtain⟨α,st,μ,A',h0,hr⟩:=h;intro b k L;have key:∀m x O a J,μ x=m->A' x->Sat n (st x).l (st x).H (st x).nx (st x).iv B (st x).w O a J->
    ∃e a' I,Q e a' I/\Arrives P (lone (b.at a (.code c:: .inLoop c::k)) L J) b k L e a' I:=by
   intro m
   induction m using Nat.strongRecOn with
   |_ m ih=>
    intro x O a J hm hI hs;have hc:=gb hτ c _ _ _ _ _ _ (hr x hI) OE O a J hs
     (fun e a2 I=>match e with
      | .normal=>∃y GE,A' y/\Sat n (st y).l (st y).H (st y).nx (st y).iv B (st y).w GE a2 I/\μ y<μ x
      |e=>Q e a2 I) (fun e l' H' OF K I G8 a' w3 E Se=>by
       cases e with
       |normal=>
        obtain⟨y,hIy,hy,OT⟩:=E G8 w3 Se.rel;obtain⟨GE,PY⟩:=hy.sat Se;exact⟨y,GE,hIy,PY,OT⟩
       |exit id=>exact hQ (.exit id) _ _ _ _ _ _ _ _ E Se
       |ret=>exact hQ .ret _ _ _ _ _ _ _ _ E Se)
    obtain⟨e,a₁,w₁,hq,Rl⟩:=hc b (.inLoop c::k) L
    cases e with
    |normal=>
     obtain⟨y,GE,hIy,PY,OT⟩:=hq;obtain⟨e₂,a₂,w₂,hq₂,harr₂⟩:=ih (μ y) (hm▸OT) y GE a₁ w₁ rfl hIy PY;exact⟨e₂,a₂,w₂,hq₂,.of_steps (Steps.trans Rl (.one step_inLoop)) harr₂⟩
    |exit id=>exact⟨_,a₁,w₁,hq,.pass (x:=.inLoop c) rfl (fun _ _=>.inl bv) Rl⟩
    |goto l=>exact⟨_,a₁,w₁,hq,.pass (x:=.inLoop c) rfl (fun _ _=>.inl bv) Rl⟩
    |ret=>exact⟨_,a₁,w₁,hq,.pass (x:=.inLoop c) rfl (fun _ _=>.inl bv) Rl⟩
    |panic ch=>exact⟨_,a₁,w₁,hq,.pass (x:=.inLoop c) rfl (fun _ _=>.inl bv) Rl⟩
    |outgrown=>exact⟨_,a₁,w₁,hq,.pass (x:=.inLoop c) rfl (fun _ _=>.inl bv) Rl⟩
  obtain⟨x,hIx,G⟩:=h0 O J sat.rel;obtain⟨GE,PY⟩:=G.sat sat;obtain⟨e,a',I,hq,Rl⟩:=key _ x GE a J rfl hIx PY;exact⟨e,a',I,hq,.of_steps (.one step_loop) Rl⟩
 | .exit id,l,H,nx,iv,w,Q',h,_,O,a,J,sat,Q,hQ=>wp_exit (hQ (.exit id) _ _ _ _ _ _ _ _ h sat)
 | .ret,l,H,nx,iv,w,Q',h,_,O,a,J,sat,Q,hQ=>wp_ret (hQ .ret _ _ _ _ _ _ _ _ h sat)
 | .rangeFunc _ _ _ _,l,H,nx,iv,w,Q',h,_,O,a,J,sat,Q,hQ=>h.elim
 | .scope _,l,H,nx,iv,w,Q',h,_,O,a,J,sat,Q,hQ=>h.elim
 | .label _,l,H,nx,iv,w,Q',h,_,O,a,J,sat,Q,hQ=>h.elim
 | .goto _,l,H,nx,iv,w,Q',h,_,O,a,J,sat,Q,hQ=>h.elim
 | .refuse _,l,H,nx,iv,w,Q',h,_,O,a,J,sat,Q,hQ=>h.elim
def fp:Nat->List Value->Env
 |_,[]=>[]
 |k,v::r=>(k,.o (.v v))::fp (k+1) r
theorem rN:∀(vs:List Value) (k t:Nat) (v:SV),fO (fp k vs) t=some v->k<=t/\∃x,v= .o (.v x)/\vs[t-k]? =some x
 |[],k,t,v,h=>by simp[fp,fO]at h
 |x::r,k,t,v,h=>by
  rw[fp,eW]at h;split at h
  .rename_i e;subst e;injection h with h;subst h;exact⟨aN _,x,rfl,bv⟩
  .obtain⟨Y,y,X,N⟩:=rN r (k+1) t v h;refine⟨be,y,X,?_⟩;rw[show t-k=(t-(k+1))+1 by omega];simpa using N
def DJ(τ:mS)(B:Nat)(l:Env)(H:Hp)(nx:Nat)(iv:Iv)(w:World):List ResultVar->(List SV->Prop)->Prop
 |[],k=>k []
 | .tmp t::r,k=>match fO l t with
  |some v=>DJ τ B l H nx iv w r (fun vs=>k (v::vs))
  |none=>False
 | .cell t ty::r,k=>match fO l t with
  |some v=>Ag τ B ty v H nx iv w (fun u=>DJ τ B l H nx iv w r (fun vs=>k (u::vs)))
  |none=>False
def IW(B:Nat)(H:Hp)(nx:Nat)(iv:Iv)(w:World)(E9:Ending->World->Prop):List SV->Prop
 |[v]=>∀O J,Rel H nx iv B w O J->E9 (.returned (v.den O)) J
 |vs=>∀O J,Rel H nx iv B w O J->E9 (.returned (.tuple (mw O vs))) J
def MA(τ:mS)(B:Nat)(rs:List ResultVar)(E9:Ending->World->Prop):Ex->KT
 | .exit _,_,_,_,_,_=>False
 | .normal,l,H,nx,iv,w=>DJ τ B l H nx iv w rs (IW B H nx iv w E9)
 | .ret,l,H,nx,iv,w=>DJ τ B l H nx iv w rs (IW B H nx iv w E9)
def IX(tmps:Array Value):ResultVar->Sem Value
 | .tmp t=>pure (tmps.getD t undef)
 | .cell c t=>do loadVar t (<-asAddr (tmps.getD c undef))
theorem uK(hτ:fQ P τ)(sat:Sat n l H nx iv B w O a J):∀{rs:List ResultVar} {k:List SV->Prop},DJ τ B l H nx iv w rs k->
  ∃vs,k vs/\(rs.mapM (IX a.tmps)).run P J= .ok (vs.map (SV.den O)) J
 |[],k,h=>⟨[],h,bv⟩
 | .tmp t::r,k,h=>by
  unfold DJ at h;split at h
  .rename_i v hv;obtain⟨vs,Y,X⟩:=uK hτ sat h;have:=sat.env t v hv;exact⟨v::vs,Y,by rw[List.mapM_cons,Sem.run_bind];simp[IX,this,X]⟩
  .exact h.elim
 | .cell t ty::r,k,h=>by
  unfold DJ at h;split at h
  .rename_i v hv;obtain⟨u,Y,hu,Uw⟩:=nE hτ sat.rel (sat.sc t v hv) h;have OI:=Uw J sat.rel;clear Uw;obtain⟨vs,X,N⟩:=uK hτ sat Y;have htm:=sat.env t v hv;refine⟨u::vs,X,?_⟩;have:(do loadVar ty (<-asAddr (v.den O)):Sem Value).run P J= .ok (u.den O) J:=by
    revert OI;generalize v.den O=x;intro OI
    cases x with
    |pointer ad=>
     cases ad with
     |some ad=>simpa [asAddr,Instr.loadAt,Instr.sureAddr]using OI
     |none=>simp[Instr.loadAt,Instr.sureAddr]at OI
    |_=>simp[Instr.loadAt,Instr.sureAddr]at OI
   have h4:(IX a.tmps (.cell t ty)).run P J= .ok (u.den O) J:=by
    have e:a.tmps.getD t undef=v.den O:=by simp[htm]
    show(do loadVar ty (<-asAddr (a.tmps.getD t undef)):Sem Value).run P J=_;rw[e];exact this
   rw[List.mapM_cons,Sem.run_bind,h4];simp[N]
  .exact h.elim
theorem DK(hτ:fQ P τ){f:FuncId}{fn:Func}{c:Code}{args:Array Value}{w:World}(hf:P.funcs[f]? =some fn)(hb:fn.body=some c)
  (Z:args.size<=fn.ntmps) (OE:codeOk fn.ntmps c=true) (h:mF P τ w.heap.size c (fp 0 args.toList) [] 0 [] w (MA τ w.heap.size fn.results.toList E9)):Calls P f args w E9:=by
 refine calls_of_wp hf hb ?_;have sat:Sat fn.ntmps (fp 0 args.toList) [] 0 [] w.heap.size w (fun _=>⟨0,0,true⟩) {tmps:=args++Array.replicate (fn.ntmps-args.size) undef,defers:=[]} w:=by
  refine⟨Rel.mk' rfl rfl rfl (aN _) (aN _) bv (by simp[cw]) (by simp[cw]) (by simp[cw]) (by simp[cw]) (by simp[cw]) (fun _ _ _=>rfl) bv,by simp;omega,rfl,fun t v hv=>?_,fun t v hv=>?_⟩
  .obtain⟨_,x,rfl,G⟩:=rN _ 0 t v hv;simp only[Nat.sub_zero,bE]at G;rw[Array.getElem?_append_left (bA.1 G).1,G];rfl
  .obtain⟨_,x,rfl,G⟩:=rN _ 0 t v hv;trivial
 refine gb hτ c _ _ _ _ _ _ h OE _ _ _ sat _ fun e l' H' OF K I G8 a' w3 E hs=>?_;have fin:DJ τ w.heap.size l' H' OF K I fn.results.toList (IW w.heap.size H' OF K I E9)->a'.defers=[]/\∃v,(results fn a'.tmps).run P w3= .ok v w3/\E9 (.returned v) w3:=by
  intro E;obtain⟨vs,Y,X⟩:=uK hτ hs E;refine⟨hs.defers,if Oj:(vs.map (SV.den G8)).toArray.size=1 then(vs.map (SV.den G8)).toArray[0]else .tuple (vs.map (SV.den G8)).toArray,?_,?_⟩
  .have e:(fn.results.mapM (IX a'.tmps)).run P w3= .ok (vs.map (SV.den G8)).toArray w3:=by
    rw[Array.mapM_eq_mapM_toList];simp only[Sem.run_map,X,Result.andThen_ok]
   show(do let vs <-fn.results.mapM (IX a'.tmps);pure (if h:vs.size=1 then vs[0]else .tuple vs):Sem Value).run P w3=_;rw[Sem.run_bind,e];simp only[Result.andThen_ok,Sem.run_pure]
  .match vs,Y with
   |[v],Y=>simpa using Y G8 w3 hs.rel
   |[],Y=>simpa [mw]using Y G8 w3 hs.rel
   |v1::v2::r,Y=>simpa [mw]using Y G8 w3 hs.rel
 cases e with
 |normal=>exact fin E
 |exit id=>exact E.elim
 |ret=>exact fin E
end
section
variable{P:Program}{ops:Array Oper}{Q:Exit->Act->World->Prop}{md:Region.Mode}
def gf(P:Program)(ops:Array Oper)(pu:Bool)(o:Oper)(v:Value)(a:Act)(w:World):Prop:=
 (Region.wanted o (yielded ops a.tmps)=true/\∀I,(pu=true\/Ext w I)->(execOp a.eval o).run P I= .ok (.value v) I)\/
 (Region.wanted o (yielded ops a.tmps)=false/\v=undef)
theorem Ext.refl(w:World):Ext w w:=RowKit.Below.refl _ _
theorem Ext.trans{a b c:World}(h:Ext a b)(k:Ext b c):Ext a c:=RowKit.Below.trans h (k.mono h.size)
theorem gf.wpOp{i:Nat}{o:Oper}{a:Act}(D:ops[i]? =some o)(hy:gf P ops pu o v a w)
  {F':Act->World->Prop} (h:F' (a.put o.dst v) w):wpOp P ops Q i F' a w:=by
 unfold Go.wpOp;simp only[D]
 rcases hy with⟨V,hv⟩|⟨V,rfl⟩
 .simp only[V,if_true,Oper.wp,hv w (.inr (Ext.refl w)),Oper.upon];exact .inl h
 .simp only[V,Bool.false_eq_true,if_false];exact h
theorem gf.of_same{o:Oper}{a a':Act}(hy:gf P ops pu o v a w)(R:execOp a'.eval o=execOp a.eval o)
  (V:Region.wanted o (yielded ops a'.tmps)=Region.wanted o (yielded ops a.tmps)):gf P ops pu o v a' w:=by
 unfold gf at*
 rw[R,V];exact hy
theorem gf.ext{o:Oper}{a:Act}(hy:gf P ops pu o v a w)(e:pu=true\/Ext w I):gf P ops pu o v a I:=
 hy.imp (fun ⟨Y,X⟩=>⟨Y,fun w3 N=>X w3 (by
  rcases N with N|N
  .exact .inl N
  .exact e.imp id (fun e=>e.trans N))⟩) id
theorem HQ{oi oj:Oper}{w0:World}(hj:ops[j]? =some oj)(Q7:oi.apart ops oj=true)
  (hsi:∀L b,oi.op≠ .select L b) (hsj:∀L b,oj.op≠ .select L b)
  (hQ:∀c a w,Q (.panic c) (a.put oi.dst v) w->Q (.panic c) a w) {F':Act->World->Prop} {a:Act}
  (hy:gf P ops pu oi v a w0) (h:wpOp P ops Q j F' (a.put oi.dst v) w):
  wpOp P ops Q j (fun a' J=>gf P ops pu oi v a' w0/\F' (a'.put oi.dst v) J) a w:=by
 obtain⟨Y,X,N⟩:=Oper.apart_spec Q7;have cK:∀(a:Act),gf P ops pu oi v a w0->∀u,gf P ops pu oi v (a.put oj.dst u) w0:=fun a hy u=>
  hy.of_same (execOp_put oi hsi a oj.dst u N) (wanted_put oi a oj.dst u N)
 have xl:∀d,gf P ops pu oi v {a with defers:=d::a.defers} w0:=fun d=>hy.of_same rfl rfl;unfold wpOp at*
 simp only[hj]at*
 rw[wanted_put oj a oi.dst v Y]at h;split
 .rename_i V;simp only[V,if_true]at h;rcases h with h|⟨Rn,TU⟩
  case inr=>exact .inr ⟨by unfold Oper.asks at *;rw[execOp_put oj hsj a oi.dst v Y]at Rn;exact Rn,TU⟩
  refine .inl ?_;unfold Oper.wp at*
  rw[execOp_put oj hsj a oi.dst v Y]at h;generalize (execOp a.eval oj).run P w=r at*
  cases r with
  |ok n J=>
   cases n<;>simp only[Oper.upon]at h ⊢
   case value u=>exact⟨cK a hy u,by rw[<-Act.put_comm a v u X];exact h⟩
   case skip=>exact⟨cK a hy _,by rw[<-Act.put_comm a v undef X];exact h⟩
   case defer d=>
    refine⟨cK _ (xl d) _,?_⟩;rw[<-Act.put_comm _ v undef X,<-Act.put_defers];exact h
   case enter f args=>
    refine Calls.mono h fun e w'' R=>?_
    cases e with
    |returned u=>exact⟨cK a hy u,by rw[<-Act.put_comm a v u X];exact R⟩
    |panicked c=>exact hQ _ _ _ R
    |outgrown=>exact R
   case row row args=>exact Rows.mono h fun u w'' R=>⟨cK a hy u,by rw[<-Act.put_comm a v u X];exact R⟩
  |halt x J=>
   cases x<;>simp only[Oper.upon]at h ⊢
   case panic u=>exact hQ _ _ _ h
 .rename_i V;simp only[V]at h;exact⟨cK a hy _,by rw[<-Act.put_comm a v undef X];exact h⟩
def qY(o:Oper):Bool:= !(uD o.op||KR o.op||(match o.op with
 | .call ⟨.value _,_,_⟩=> !(Nat.beq o.type 0)
 |_=>false))
def fe(o:Oper):Bool:=match o.op with
 | .call ⟨.value _,_,_⟩=>Nat.beq o.type 0
 |_=>false
theorem rJ{o:Oper}(h:uD o.op=true):fe o=false:=by
 unfold fe;split
 .rename_i e;rw[e]at h
  cases h
 .rfl
theorem EX{o:Oper}(h:KR o.op=true):fe o=false:=by
 unfold fe;split
 .rename_i e;rw[e]at h
  cases h
 .rfl
theorem qc{o:Oper}(h:qY o=false):fe o=false:=by
 unfold fe;split
 .rename_i e;simp only[qY,e,uD,KR,Bool.false_or,Bool.not_not]at h;exact h
 .rfl
def uE(P:Program)(md:Region.Mode)(ops:Array Oper)(Q:Exit->Act->World->Prop):Nat->Array Bool->Act->World->Prop
 |0,listed,a,w=>Region.ready md ops listed=[]/\Q .normal a w
 |fuel+1,listed,a,w=>
  (Region.ready md ops listed=[]->Q .normal a w)/\
  ∀i∈Region.ready md ops listed,wpOp P ops Q i (fun a' J=>((∀o,ops[i]? =some o->qY o=false)->Ext w J)/\uE P md ops Q fuel (listed.setIfInBounds i true) a' J) a w
theorem x9:∀(fuel:Nat) (listed:Array Bool) (a:Act) (w:World),uE P md ops Q fuel listed a w->wpAny P md ops Q fuel listed a w
 |0,_,_,_,h=>h
 |fuel+1,_,_,_,h=>⟨h.1,fun i D=>wpOp_mono (fun a' J h'=>x9 fuel _ a' J h'.2) (h.2 i D)⟩
theorem sS{i:Nat}{oi:Oper}(D:ops[i]? =some oi)(OY:∀(j:Nat) (o:Oper) L b,ops[j]? =some o->o.op≠ .select L b)
  (hQ:∀c a w,Q (.panic c) (a.put oi.dst v) w->Q (.panic c) a w) (Aa:Nat->Prop) (Rk:∀j,Aa j->∃oj e,ops[j]? =some oj/\e∈oj.after/\Region.binds md e=true/\(e.on=i\/Aa e.on)):
  ∀(fuel:Nat) (listed:Array Bool) (a:Act) (w:World),(∀j,Aa j->listed.getD j false=false)->
   (∀j oj,ops[j]? =some oj->j≠i->listed.getD j true=false->¬Aa j->oi.apart ops oj=true/\(pu=true\/qY oj=false))->
   i∈Region.ready md ops listed->gf P ops pu oi v a w->
   uE P md ops Q fuel (listed.setIfInBounds i true) (a.put oi.dst v) w->uE P md ops Q (fuel+1) listed a w:=by
 intro fuel
 induction fuel with
 |zero=>
  intro listed a w _ _ hr hy H;refine⟨fun h=>(by rw[h]at hr;cases hr),fun j hj=>?_⟩;by_cases Ol:j=i
  .subst Ol;exact hy.wpOp D ⟨fun _=>Ext.refl w,H⟩
  .have:=ready_mono hj Ol;rw[H.1]at this
   cases this
 |succ fuel ih=>
  intro listed a w Po Qa hr hy H;refine⟨fun h=>(by rw[h]at hr;cases hr),fun j hj=>?_⟩;by_cases Ol:j=i
  .subst Ol;exact hy.wpOp D ⟨fun _=>Ext.refl w,H⟩
  .have Y:=H.2 j (ready_mono hj Ol);obtain⟨TV,oj,QW,Q1⟩:=mem_ready.1 hj;have QG:¬Aa j:=fun hb=>by
    obtain⟨oj',e,RO,R,hbi,TG⟩:=Rk j hb;rw[QW]at RO;injection RO with RO;subst RO;have Y:=Q1 e R hbi;rcases TG with heq|QP
    .have h0:=(mem_ready.1 hr).1;rw[heq]at Y;rcases aR i listed.size with h'|h'
     .simp[h']at h0 Y;rw[h0]at Y;cases Y
     .simp[Array.getElem?_eq_none h']at Y
    .rw[Po _ QP]at Y;cases Y
   have Ry:=Qa j oj QW Ol TV QG;have X:=HQ QW Ry.1 (fun L b=>OY i oi L b D) (fun L b=>OY j oj L b QW) hQ hy Y;have hbl':∀k,Aa k->(listed.setIfInBounds j true).getD k false=false:=fun k E=>by
    rw[getD_set_ne false (fun e=>(by subst e;exact QG E))];exact Po k E
   have SL:∀k ok,ops[k]? =some ok->k≠i->(listed.setIfInBounds j true).getD k true=false->
     ¬Aa k->oi.apart ops ok=true/\(pu=true\/qY ok=false):=fun k ok E hki TN Qm=>by
    refine Qa k ok E hki ?_ Qm;by_cases RR:j=k
    .subst RR;exact TV
    .rw[getD_set_ne true RR]at TN;exact TN
   refine wpOp_mono (fun a' J N=>?_) X;have RW:qY oj=false->Ext w J:=fun hf=>N.2.1 (fun o ho=>by rw[QW]at ho;injection ho with ho;subst ho;exact hf);refine⟨fun hh=>RW (hh oj QW),ih (listed.setIfInBounds j true) a' J hbl' SL (ready_mono hr (Ne.symm Ol)) (N.1.ext (Ry.2.imp id RW)) ?_⟩;rw[Array.setIfInBounds_comm _ _ Ol];exact N.2.2
end
section
variable{P:Program}{τ:mS}{B n nx:Nat}{l:Env}{H:Hp}{iv:Iv}{w J:World}{O:Nat->da}{a:Act}
def AL(P:Program)(o:Oper)(a:Act)(mk:Nat->Value)(obj:Obj):Prop:=
 ∀w:World,(execOp a.eval o).run P w= .ok (.value (mk w.heap.size)) (w.alloc obj)
theorem AL.uniq{o:Oper}{mk':Nat->Value}{obj':Obj}(h:AL P o a mk obj)(h':AL P o a mk' obj'):obj=obj'/\mk=mk':=by
 have key:∀w:World,mk w.heap.size=mk' w.heap.size/\w.alloc obj=w.alloc obj':=fun w=>by
  have:=(h w).symm.trans (h' w);injection this with Y X;injection Y with Y;exact⟨Y,X⟩
 refine⟨?_,funext fun g=>?_⟩
 .have:=(key default).2;have X:=congrArg (fun w:World=>w.heap[(default:World).heap.size]?) this;simp only[heap_alloc_new]at X;injection X
 .have:=(key {(default:World)with heap:=Array.replicate g default}).1;simpa using this
theorem my(hτ:fQ P τ){o:Oper}(h:xZ dr P τ B o l H nx iv w F')(sat:Sat n l H nx iv B w O a J)(E:KR o.op=true):
  ∃b v mk obj,F' v ((nx,b)::H) (nx+1) iv w/\b≠ .dead/\b.scopd nx/\v.sc (nx+1)/\(∀g,v.den (gR O nx ⟨g,0,false⟩)=mk g)/\(∀g I,I.heap[g]? =some obj->b.fits O ⟨g,0,false⟩ I)/\AL P o a mk obj:=by
 obtain⟨dst,op,ty,pos,after,guard⟩:=o;unfold xZ at h;split at h<;>first|(exact False.elim h)|(rename_i Sa;simp only at Sa;subst Sa)
 all_goals first|(exact absurd E Bool.false_ne_true)|skip
 .rename_i t;split at h
  .rename_i sz ag by_ ze tag ik e al fs Pt;have hK:=fS h;refine⟨_,_,fun g=>.pointer (some ⟨g,0,none⟩),.cells ze.toArray t,hK,bv,(fun c hc=>by obtain⟨v,_,rfl⟩:=aV.1 hc;trivial),by simp[SV.sc,At.sc],fun g=>by simp[SV.den,At.den],fun g I F=>⟨rfl,by rw[fR];exact F⟩,fun w=>?_⟩;obtain⟨z,OG,OQ⟩:=(hτ t _ Pt).zeroV w;simp only at OQ;have hzz:z.cells=ze.toArray:=by apply Array.ext';simpa using OQ
   simp[execOp,Instr.alloc,OG,newVar,newRow,hzz]
  .exact h.elim
 .rename_i t x;obtain⟨v,Y,hv,hs⟩:=dO sat h;obtain⟨L,hK,Oi,Re⟩:=lN Y;refine⟨_,_,fun g=>.pointer (some ⟨g,0,none⟩),.cells (L.map (At.den O)).toArray t,hK,bv,Re nx hs,by simp[SV.sc,At.sc],fun g=>by simp[SV.den,At.den],fun g I F=>⟨rfl,F⟩,fun w=>?_⟩;simp[execOp,Instr.box,hv,newVar,newRow,Oi O]
 .rename_i t m parts;split at h
  .rename_i sz ag by_ ze tag ik e al fs Pt;have ht:=hτ t _ Pt;split at h
   .rename_i OU;have hu:=ht.i4 (eG OU);simp only at hu;split at h
    .rename_i sz' ag' by' ze' tag' ik' e' al' fs' Oq
     have Oq:=hτ e _ Oq;obtain⟨inf,z,D,Oj,Oy,hz,Qp⟩:=Oq.info;have RD:=Oq.HE;simp only at Oj Oy Qp RD;split at h
     .rename_i hle;have hle:=Nat.le_of_ble_eq_true hle;have h0:=fS h;obtain⟨cs',hK,Of,hlen,PC⟩:=jk sat (placeF:=fun i=>some (i*inf.size,inf.size)) (fun i k E=>⟨i*sz',sz',E,by rw[Oj]⟩) h0
       (fun c hc=>by obtain⟨v,_,rfl⟩:=aV.1 hc;trivial)
      rw[fR]at PC;have QQ:z.cells=ze'.toArray:=by apply Array.ext';simpa using Qp
      have TT:((List.replicate m ze').flatten).toArray=madeCells z.cells (m*inf.size):=by
       rw[QQ,Oj,<-RD];exact(qJ ze' m).symm
      refine⟨_,_,fun g=>.slice (some ⟨g,0,none⟩) m m,.cells (cs'.map (At.den O)).toArray e,hK,bv,Of,by simp[SV.sc,At.sc],fun g=>by simp[SV.den,At.den],fun g I F=>⟨rfl,F⟩,fun w=>?_⟩;simp only[execOp]
      refine lO ?_;rw[TT]at PC;by_cases PB:m*inf.size=0
      .have Qv:Instr.fill (fun i=>some (i*inf.size,inf.size)) (madeCells z.cells 0) (parts.toList.map fun p=>(p.1,a.eval p.2))=some (cs'.map (At.den O)).toArray:=by rw[PB]at PC;exact PC
       have e0:madeCells z.cells 0= #[]:=by simp[madeCells]
       rw[e0]at Qv;have er:Array.range 0= #[]:=rfl;simp[Instr.buildSlice,run_underlying hu,sizeOf,typeInfo,zeroValue,D,hz,PB,newRow,Qv,er]
      .exact run_buildSlice w t e m _ _ inf z hu D hz (by rw[Oj];omega) PB (by rw[<-PC];simp[madeCells])
     .exact h.elim
    .exact h.elim
   .exact h.elim
  .exact h.elim
 .rename_i t x y;obtain⟨v,Y,hv,QX⟩:=dO sat h;obtain⟨u,X,hu,hus⟩:=dO sat Y;clear QX hus;unfold GB at X;split at X
  .rename_i k1 a1 k2 b1;split at X
   .rename_i sz ag by_ ze tag ik e al fs Pt;have ht:=hτ t _ Pt;split at X
    .rename_i OU;have hut:=ht.i4 (eG OU);simp only at hut;split at X
     .rename_i sz' ag' by' ze' tag' ik' e' al' fs' Oq
      have Oq:=hτ e _ Oq;obtain⟨inf,z,D,Oj,Oy,hz,Qp⟩:=Oq.info;simp only at Oj Oy Qp;obtain⟨m,c,rfl,rfl,UP,hbytes,h63,N⟩:=X;have TS:(inf.bytes:Int)*(c:Int)<=281474976710656:=by
       rw[Oy];have QP:((by'*c:Nat):Int)<=281474976710656:=by omega
       rwa [Int.natCast_mul]at QP
      have OI:=fun w:World=>run_make (P:=P) w t e inf z hut D hz k1 k2 (m:Int) (c:Int) be be TS be;simp only[aJ]at OI;have RD:=Oq.HE;simp only at RD;have QQ:z.cells=ze'.toArray:=by apply Array.ext';simpa using Qp
      have fin:∀L:List Value,L.toArray=madeCells z.cells (c*inf.size)->zp (.arr e L) H nx (fun H' OF=>F' (.o (.s nx 0 m c)) H' OF iv w)->
        ∃b v mk obj,F' v ((nx,b)::H) (nx+1) iv w/\b≠ .dead/\b.scopd nx/\v.sc (nx+1)/\(∀g,v.den (gR O nx ⟨g,0,false⟩)=mk g)/\(∀g I,I.heap[g]? =some obj->b.fits O ⟨g,0,false⟩ I)/\
         AL P ⟨dst,.makeSlice t x y,ty,pos,after,guard⟩ a mk obj:=by
       intro L Of hK;refine⟨_,_,fun g=>.slice (some ⟨g,0,none⟩) m c,.cells L.toArray e,hK,bv,trivial,by simp[SV.sc,At.sc],fun g=>by simp[SV.den,At.den],fun g I F=>⟨rfl,F⟩,fun w=>?_⟩;simp only[execOp,hv,hu]
       refine lO ?_;rw[show SV.den O (.o (.v (.int k1 m)))= .int k1 m from rfl,show SV.den O (.o (.v (.int k2 c)))= .int k2 c from rfl,OI w,Of]
      split at N
      .rename_i z0;refine fin _ ?_ N;have:inf.size=1:=by rw[Oj,<-RD];rfl
       rw[this,aw,QQ,DI]
      .refine fin _ ?_ N;rw[Oj,<-RD,QQ,qJ]
     .exact X.elim
    .exact X.elim
   .exact X.elim
  .exact X.elim
end
inductive It where
 |x (i:Nat)
 |p (i:Nat)
def Cm:Env->Nat->(Env->Prop)->Prop
 |[],_,k=>k []
 |(t,v)::r,u,k=>match Nat.beq t u with
  |true=>Cm r u k
  |false=>Cm r u (fun r'=>k ((t,v)::r'))
def NU(d:Option Tmp)(l:Env)(k:Env->Prop):Prop:=match d with
 |some t=>Cm l t k
 |none=>k l
def rG:List Oper->Nat->(Oper->Prop)->Prop
 |[],_,_=>False
 |o::_,0,k=>k o
 |_::r,n+1,k=>rG r n k
def Gz(P:Program)(τ:mS)(B:Nat)(all:List Oper):List It->Env->Hp->Nat->Iv->World->KT->Prop
 |[],l,H,nx,iv,w,F'=>F' l H nx iv w
 | .x i::r,l,H,nx,iv,w,F'=>rG all i (fun o=>ga (!fe o) P τ B all o l H nx iv w (fun l' H' OF K J=>Gz P τ B all r l' H' OF K J F'))
 | .p i::r,l,H,nx,iv,w,F'=>rG all i (fun o=>xZ true P τ B o l H nx iv w (fun _ _ _ _ _=>NU o.dst l (fun l'=>Gz P τ B all r l' H nx iv w F')))
def HA(ops:Array Oper)(o:Oper)(j:Nat):Bool:=match ops[j]? with
 |some oj=>o.apart ops oj
 |none=>false
def Cn(la:Array Bool):List Nat->Array Bool
 |[]=>la
 |i::r=>Cn (la.setIfInBounds i true) r
def tb(m j:Nat):Bool:=Nat.beq ((m >>> j) % 2) 1
def iJ:List Bool->Nat->Nat
 |[],_=>0
 |true::r,j=>(1 <<< j) ||| iJ r (j+1)
 |false::r,j=>iJ r (j+1)
def zm(m i:Nat):List Oper->Nat->Nat->Nat
 |[],_,b=>b
 |o::r,j,b=>match(!tb m j&& !Nat.beq j i)&&o.after.toList.any (fun e=>Region.binds .any e&&(Nat.beq e.on i||tb b e.on))with
  |true=>zm m i r (j+1) (b ||| (1 <<< j))
  |false=>zm m i r (j+1) b
def Fx(ops:Array Oper)(m i:Nat)(oi:Oper)(b:Nat):List Oper->Nat->Bool
 |[],_=>true
 |oj::r,j=>(Nat.beq j i||tb m j||tb b j||(oi.apart ops oj&&(HB oi.op|| !qY oj)))&&Fx ops m i oi b r (j+1)
def LV(ops:Array Oper)(m:Nat)(Pd:List Nat)(i:Nat)(oi:Oper)(b:Nat):Bool:=Pd.all (fun j=> !tb b j)&&Fx ops m i oi b ops.toList 0
def Fy(ops:Array Oper)(m:Nat)(Pd:List Nat)(i:Nat)(oi:Oper):Bool:=LV ops m Pd i oi (zm m i ops.toList 0 0)
def o9(ops:Array Oper):List It->Array Bool->List Nat->Bool
 |[],lx,Pd=>(Region.ready .any ops lx).isEmpty&&Pd.isEmpty
 | .p i::r,lx,Pd=>match ops[i]? with
  |none=>false
  |some o=>KR o.op&&o.guard.isNone&&(match o.dst with
     |some d=> !(o.looksAt ops).contains d
     |none=>false)&&(!lx.getD i true)&&Pd.all (fun j=> !Nat.beq j i)&&
    Pd.all (fun j=>HA ops o j&&(match ops[j]? with
     |some oj=>oj.apart ops o
     |none=>false))&&o9 ops r lx (i::Pd)
 | .x i::r,lx,Pd=>match ops[i]? with
  |none=>false
  |some o=>(o.guard.isNone||Pd.isEmpty)&&(Region.ready .any ops lx).contains i&&
    Pd.all (fun j=>Nat.beq j i||HA ops o j)&&
    (match uD o.op with
     |true=>Fy ops (iJ lx.toList 0) Pd i o
     |false=>(!qY o||Pd.isEmpty)&&(Region.ready .any ops (Cn lx (Pd.filter fun j=> !Nat.beq j i))).all (fun j=>Nat.beq j i))&&
    o9 ops r (lx.setIfInBounds i true) (Pd.filter fun j=> !Nat.beq j i)
theorem mT(h:j<la.size)(b c:Bool):la.getD j b=la.getD j c:=by
 rw[ah,ah,Array.getElem?_eq_getElem h];rfl
theorem mU{a b:Nat}:Nat.beq a b=false↔a≠b:=⟨fun h e=>(by subst e;rw[Nat.beq_refl]at h;cases h),fun h=>by
 cases hb:Nat.beq a b with
 |false=>rfl
 |true=>exact absurd (eG hb) h⟩
theorem IF{a b:Nat}(h:b<a):Nat.ble a b=false:=by
 cases hb:Nat.ble a b with
 |false=>rfl
 |true=>exact absurd (Nat.le_of_ble_eq_true hb) be
theorem rH(m j:Nat):tb m j=m.testBit j:=by
 rw[Nat.testBit_eq_decide_div_mod_eq,tb,Nat.shiftRight_eq_div_pow]
 cases h:decide (m / 2^j % 2=1)with
 |true=>rw[aE h];rfl
 |false=>exact mU.2 (aC h)
theorem Co(a b j:Nat):tb (a ||| b) j=(tb a j||tb b j):=by rw[rH,rH,rH,Nat.testBit_or]
theorem EU(i j:Nat):tb (1 <<< i) j=Nat.beq j i:=by
 rw[rH,Nat.one_shiftLeft,Nat.testBit_two_pow]
 cases h:Nat.beq j i with
 |true=>exact bc (eG h).symm
 |false=>exact bL fun e=>(mU.1 h) e.symm
theorem sQ(j:Nat):tb 0 j=false:=by rw[rH,Nat.zero_testBit]
theorem Cp:∀(l:List Bool) (k j:Nat),tb (iJ l k) j=(Nat.ble k j&&l.getD (j-k) false)
 |[],k,j=>by unfold iJ;rw[sQ];simp
 |b::r,k,j=>by
  have e:tb (iJ (b::r) k) j=((b&&Nat.beq j k)||tb (iJ r (k+1)) j):=by
   cases b<;>simp only[iJ,Co,EU,Bool.false_and,Bool.true_and,Bool.false_or]
  rw[e,Cp r (k+1) j];rcases bw j k with h|h|h
  .rw[mU.2 be,Bool.and_false,Bool.false_or,IF be,IF be];rfl
  .subst h;rw[Nat.beq_refl,IF be,Nat.ble_eq_true_of_le (aN j),bP];simp
  .rw[mU.2 be,Bool.and_false,Bool.false_or,Nat.ble_eq_true_of_le (show k+1<=j from h),Nat.ble_eq_true_of_le (Nat.le_of_lt h),show j-k=(j-(k+1))+1 by omega,List.getD_cons_succ]
def Rm(lx:Array Bool)(m:Nat):Prop:=∀j,tb m j=lx.getD j false
theorem xF(lx:Array Bool):Rm lx (iJ lx.toList 0):=fun j=>by
 rw[Cp,show Nat.ble 0 j=true from Nat.ble_eq_true_of_le (aP j),Bool.true_and,Nat.sub_zero,ah,List.getD,bE]
theorem Rm.eq{m':Nat}(h:Rm lx m)(h':Rm lx m'):m=m':=Nat.eq_of_testBit_eq fun j=>by rw[<-rH,<-rH,h,h']
theorem mV{ops:Array Oper}{m i:Nat}:∀(l:List Oper) (k b:Nat),(∀n o,l[n]? =some o->ops[k+n]? =some o)->
  (∀j,tb b j=true->tb m j=false/\j≠i/\∃oj e,ops[j]? =some oj/\e∈oj.after/\Region.binds .any e=true/\(e.on=i\/∃b2,tb b2 e.on=true/\b2=b))->
  ∀j,tb (zm m i l k b) j=true->tb m j=false/\j≠i/\∃oj e,ops[j]? =some oj/\e∈oj.after/\Region.binds .any e=true/\(e.on=i\/tb (zm m i l k b) e.on=true)
 |[],k,b,_,h,j,hj=>by
  obtain⟨Y,X,oj,e,N,h4,h5,h6⟩:=h j hj;exact⟨Y,X,oj,e,N,h4,h5,h6.imp id fun⟨_,h7,h8⟩=>h8▸h7⟩
 |o::r,k,b,hl,h,j,hj=>by
  have hr:∀n o',r[n]? =some o'->ops[k+1+n]? =some o':=fun n o' Z=>by
   have:=hl (n+1) o' (by simpa using Z)
   rwa [show k+(n+1)=k+1+n by omega]at this
  unfold zm at hj ⊢
  cases hc:((!tb m k&& !Nat.beq k i)&&o.after.toList.any (fun e=>Region.binds .any e&&(Nat.beq e.on i||tb b e.on)))with
  |false=>
   rw[hc]at hj;exact mV r (k+1) b hr h j hj
  |true=>
   rw[hc]at hj;refine mV r (k+1) (b ||| (1 <<< k)) hr (fun j hj=>?_) j hj;rw[Co,EU,Bool.or_eq_true]at hj;rcases hj with hj|hj
   .obtain⟨Y,X,oj,e,N,h4,h5,h6⟩:=h j hj;refine⟨Y,X,oj,e,N,h4,h5,h6.imp id fun⟨b2,h7,h8⟩=>⟨_,?_,rfl⟩⟩;rw[Co,<-h8,h7];rfl
   .have hj:=eG hj;subst hj;simp only[ai,Bool.not_eq_true',List.any_eq_true]at hc;obtain⟨⟨Y,X⟩,e,R,N,h4⟩:=hc;refine⟨Y,mU.1 X,o,e,by have:=hl 0 o bv;simpa using this,by simpa using R,N,?_⟩;rw[Bool.or_eq_true]at h4;exact h4.imp eG fun h5=>⟨_,by rw[Co,h5];rfl,rfl⟩
theorem x4{ops:Array Oper}{m i:Nat}{oi:Oper}{b:Nat}:∀(l:List Oper) (k:Nat),Fx ops m i oi b l k=true->∀n oj,l[n]? =some oj->k+n≠i->tb m (k+n)=false->tb b (k+n)=false->oi.apart ops oj=true/\(HB oi.op=true\/qY oj=false)
 |[],_,_,n,oj,Z,_,_,_=>by simp at Z
 |o::r,k,h,n,oj,Z,Y,X,N=>by
  unfold Fx at h;rw[ai]at h
  cases n with
  |zero=>
   rw[List.getElem?_cons_zero]at Z;injection Z with Z;subst Z;rw[cC]at Y X N;rw[mU.2 Y,X,N]at h;simpa using h.1
  |succ n=>
   rw[List.getElem?_cons_succ]at Z;rw[show k+(n+1)=k+1+n by omega]at Y X N;exact x4 r (k+1) h.2 n oj Z Y X N
theorem EV{ops:Array Oper}{i:Nat}{oi:Oper}(h:Fy ops (iJ lx.toList 0) Pd i oi=true)(hs:lx.size=ops.size):∃Aa:Nat->Prop,
  (∀j,Aa j->∃oj e,ops[j]? =some oj/\e∈oj.after/\Region.binds .any e=true/\(e.on=i\/Aa e.on))/\(∀j,Aa j->lx.getD j false=false)/\(∀j∈Pd,¬Aa j)/\
  ∀j oj,ops[j]? =some oj->j≠i->lx.getD j true=false->¬Aa j->oi.apart ops oj=true/\(HB oi.op=true\/qY oj=false):=by
 unfold Fy LV at h;rw[ai]at h;have hm:=xF lx;have hb:=mV (ops:=ops) (m:=iJ lx.toList 0) (i:=i) ops.toList 0 0 (fun n o Z=>by rw[aX];rwa [bE]at Z) (fun j hj=>by rw[sQ]at hj;cases hj);generalize zm (iJ lx.toList 0) i ops.toList 0 0=b at*
 refine⟨fun j=>tb b j=true,fun j hj=>(hb j hj).2.2,fun j hj=>(hm j).symm.trans (hb j hj).1,fun j hj E=>?_,fun j oj QW Ol hl E=>?_⟩
 .have:=List.all_eq_true.1 h.1 j hj;rw[E]at this;cases this
 .have hj:=(bA.1 QW).1;exact x4 ops.toList 0 h.2 j oj (by rw[bE];exact QW) be (by rw[aX,hm,mT be false true];exact hl) (by rw[aX];simpa using E)
def Cq(m:Nat):List Oper->Nat->List Nat
 |[],_=>[]
 |o::r,j=>match !tb m j&&o.after.toList.all (fun e=> !Region.binds .any e||tb m e.on)with
  |true=>j::Cq m r (j+1)
  |false=>Cq m r (j+1)
def sm(n m i:Nat):Nat:=match Nat.blt i n with
 |true=>m ||| (1 <<< i)
 |false=>m
def NP(n:Nat)(m:Nat):List Nat->Nat
 |[]=>m
 |i::r=>NP n (sm n m i) r
def Cr(ops:Array Oper)(n:Nat):List It->Nat->List Nat->Bool
 |[],m,Pd=>(Cq m ops.toList 0).isEmpty&&Pd.isEmpty
 | .p i::r,m,Pd=>match ops[i]? with
  |none=>false
  |some o=>KR o.op&&o.guard.isNone&&(match o.dst with
     |some d=> !(o.looksAt ops).contains d
     |none=>false)&&(Nat.blt i n&& !tb m i)&&Pd.all (fun j=> !Nat.beq j i)&&
    Pd.all (fun j=>HA ops o j&&(match ops[j]? with
     |some oj=>oj.apart ops o
     |none=>false))&&Cr ops n r m (i::Pd)
 | .x i::r,m,Pd=>match ops[i]? with
  |none=>false
  |some o=>(o.guard.isNone||Pd.isEmpty)&&(Cq m ops.toList 0).contains i&&
    Pd.all (fun j=>Nat.beq j i||HA ops o j)&&
    (match uD o.op with
     |true=>Fy ops m Pd i o
     |false=>(!qY o||Pd.isEmpty)&&(Cq (NP n m (Pd.filter fun j=> !Nat.beq j i)) ops.toList 0).all (fun j=>Nat.beq j i))&&
    Cr ops n r (sm n m i) (Pd.filter fun j=> !Nat.beq j i)
theorem Fz{ops:Array Oper}{lx:Array Bool}{m:Nat}(hR:Rm lx m)(hs:lx.size=ops.size):∀(l:List Oper) (k:Nat),(∀n,n<l.length->ops[k+n]? =l[n]?)->k+l.length<=ops.size->
  Cq m l k=(List.range' k l.length).filter fun i=> !lx.getD i true&&((ops[i]?).map (·.after.all fun e=> !Region.binds .any e||lx.getD e.on false)).getD false
 |[],_,_,_=>rfl
 |o::r,k,h,E=>by
  rw[bO]at E
  have ih:=Fz hR hs r (k+1) (fun n Z=>by
   have:=h (n+1) (by simpa using Z)
   rw[show k+1+n=k+(n+1) by omega,this,List.getElem?_cons_succ]) be
  have h0:ops[k]? =some o:=by have:=h 0 bv;simpa using this
  rw[bO,List.range'_succ,List.filter_cons,<-ih];have e:(!lx.getD k true&&((ops[k]?).map (·.after.all fun e=> !Region.binds .any e||lx.getD e.on false)).getD false)=(!tb m k&&o.after.toList.all fun e=> !Region.binds .any e||tb m e.on):=by
   rw[h0,hR k,mT be true false,Option.map_some,Option.getD_some,Array.all_toList];simp only[hR _]
  rw[e,Cq]
  cases (!tb m k&&o.after.toList.all fun e=> !Region.binds .any e||tb m e.on)<;>rfl
theorem EW{ops:Array Oper}(hR:Rm lx m)(hs:lx.size=ops.size):Cq m ops.toList 0=Region.ready .any ops lx:=by
 rw[Fz hR hs ops.toList 0 (fun n _=>by rw[aX,bE]) bv];unfold Region.ready;rw[List.range_eq_range',Array.length_toList]
theorem Rm.set(hR:Rm lx m)(i:Nat):Rm (lx.setIfInBounds i true) (sm lx.size m i):=fun j=>by
 unfold sm;rw[ah,Array.getElem?_setIfInBounds]
 cases h:Nat.blt i lx.size with
 |true=>
  have h:=Nat.le_of_ble_eq_true h;show tb (m ||| (1 <<< i)) j=_;rw[Co,EU];by_cases PR:i=j
  .rw[aH PR,aH be,PR,Nat.beq_refl,Bool.or_true];rfl
  .rw[aF PR,mU.2 (Ne.symm PR),Bool.or_false,hR,ah]
 |false=>
  show tb m j=_;have h:¬i<lx.size:=fun X=>by rw[show Nat.blt i lx.size=true from Nat.ble_eq_true_of_le X]at h;cases h
  by_cases PR:i=j
  .rw[aH PR,aF h,hR,ah,<-PR,Array.getElem?_eq_none be]
  .rw[aF PR,hR,ah]
theorem IG:∀(r:List Nat) (lx:Array Bool),(Cn lx r).size=lx.size
 |[],_=>rfl
 |i::r,lx=>by unfold Cn;rw[IG r,bX]
theorem Rm.Cn{n:Nat}:∀(r:List Nat) (lx:Array Bool) (m:Nat),lx.size=n->Rm lx m->Rm (Cn lx r) (NP n m r)
 |[],_,_,_,h=>h
 |i::r,lx,m,Z,h=>by
  unfold Go.Sx.Cn NP;exact Rm.Cn r _ _ (by rw[bX];exact Z) (Z▸h.set i)
theorem Ba{ops:Array Oper}:∀(π:List It) (lx:Array Bool) (m:Nat) (Pd:List Nat),lx.size=ops.size->Rm lx m->Cr ops ops.size π m Pd=o9 ops π lx Pd
 |[],lx,m,Pd,hs,h=>by unfold Cr o9;rw[EW h hs]
 | .p i::r,lx,m,Pd,hs,h=>by
  unfold Cr o9
  cases ho:ops[i]? with
  |none=>rfl
  |some o=>
   have D:=(bA.1 ho).1;simp only[Ba r lx m (i::Pd) hs h,h i,mT (show i<lx.size by omega) true false,show Nat.blt i ops.size=true from Nat.ble_eq_true_of_le D,Bool.true_and]
 | .x i::r,lx,m,Pd,hs,h=>by
  unfold Cr o9
  cases ho:ops[i]? with
  |none=>rfl
  |some o=>
   obtain rfl:=h.eq (xF lx);have Y:=Ba r (lx.setIfInBounds i true) (sm ops.size (iJ lx.toList 0) i) (Pd.filter fun j=> !Nat.beq j i) (by rw[bX];exact hs) (hs▸h.set i);have X:=EW (Rm.Cn (n:=ops.size) (Pd.filter fun j=> !Nat.beq j i) lx (iJ lx.toList 0) hs h) (by rw[IG];exact hs);simp only[Y,X,EW h hs]
theorem eR{ops:Array Oper}:j∈Region.ready .any ops la↔
  la[j]? =some false/\∃o,ops[j]? =some o/\∀e∈o.after,Region.binds .any e=true->la[e.on]? =some true:=by
 rw[mem_ready];have Y:la.getD j true=false↔la[j]? =some false:=by
  rw[ah]
  cases la[j]? with
  |none=>simp
  |some b=>simp
 have X:∀k,la.getD k false=true↔la[k]? =some true:=fun k=>by
  rw[ah]
  cases la[k]? with
  |none=>simp
  |some b=>simp
 simp only[Y,X]
theorem oa{i:Nat}:(la.setIfInBounds i true)[j]? =some true↔la[j]? =some true\/(j=i/\j<la.size):=by
 rw[Array.getElem?_setIfInBounds];split
 .rename_i h;subst h;by_cases hs:i<la.size
  .simp[hs]
  .simp[hs]
 .rename_i h;simp[Ne.symm h]
theorem Cs:∀(Pd:List Nat) (la:Array Bool),(Cn la Pd).size=la.size
 |[],_=>rfl
 |i::r,la=>by simp[Cn,Cs r]
theorem x5:∀(Pd:List Nat) (la:Array Bool) (j:Nat),(Cn la Pd)[j]? =some true↔la[j]? =some true\/(j∈Pd/\j<la.size)
 |[],_,_=>by simp[Cn]
 |i::r,la,j=>by
  rw[Cn,x5 r,oa];simp only[bX,List.mem_cons]
  constructor
  .rintro((h|⟨h,hs⟩)|⟨h,hs⟩)
   .exact .inl h
   .exact .inr ⟨.inl h,hs⟩
   .exact .inr ⟨.inr h,hs⟩
  .rintro(h|⟨h|h,hs⟩)
   .exact .inl (.inl h)
   .exact .inl (.inr ⟨h,hs⟩)
   .exact .inr ⟨h,hs⟩
def Lt(la:Array Bool):Nat:=la.toList.countP (fun b=> !b)
theorem kJ{i:Nat}(h:la[i]? =some false):Lt (la.setIfInBounds i true)+1=Lt la:=by
 obtain⟨D,R⟩:=bA.1 h;have Rw:i<la.toList.length:=by simpa using D
 have PB:0<la.toList.countP (fun b=> !b):=List.countP_pos_iff.2 ⟨false,by
  have:la[i]∈la:=Array.getElem_mem D;rw[R]at this
  simpa using this,rfl⟩
 unfold Lt;rw[Array.toList_setIfInBounds,List.countP_set Rw];simp only[Array.getElem_toList,R]
 simp only[Bool.not_false,if_true,Bool.not_true,Bool.false_eq_true,if_false,cC]
 exact Nat.sub_add_cancel PB
theorem rI:∀{l:Env} {u:Nat} {k:Env->Prop},Cm l u k->∃l',k l'/\fO l' u=none/\∀t v,fO l' t=some v->t≠u/\fO l t=some v
 |[],u,k,h=>⟨[],h,rfl,fun t v h=>by cases h⟩
 |(t0,v0)::r,u,k,h=>by
  unfold Cm at h;split at h
  .rename_i hb;have hb:=eG hb;obtain⟨l',Y,X,N⟩:=rI h;refine⟨l',Y,X,fun t v hv=>⟨(N t v hv).1,?_⟩⟩;rw[eW,aF (fun e=>(N t v hv).1 (e.symm.trans hb))];exact(N t v hv).2
  .rename_i hb;have OB:t0≠u:=fun e=>by subst e;rw[Nat.beq_refl]at hb;cases hb
   obtain⟨l',Y,X,N⟩:=rI h;refine⟨_,Y,?_,fun t v hv=>?_⟩
   .rw[eW,aF OB];exact X
   .rw[eW]at hv ⊢;split at hv
    .rename_i e;subst e;exact⟨OB,by simpa using hv⟩
    .rename_i e;rw[aF e];exact N t v hv
theorem gQ:∀{all:List Oper} {i:Nat} {k:Oper->Prop},rG all i k->∃o,all[i]? =some o/\k o
 |[],_,_,h=>h.elim
 |o::_,0,_,h=>⟨o,rfl,h⟩
 |_::r,n+1,_,h=>by obtain⟨o,Y,X⟩:=gQ (all:=r) h;exact⟨o,by simpa using Y,X⟩
section
variable{P:Program}{τ:mS}{ops:Array Oper}{B n nx:Nat}{l:Env}{H:Hp}{iv:Iv}{w J:World}{O:Nat->da}{a:Act}
structure KU(P:Program)(ops:Array Oper)(n B:Nat)(Pd:List Nat)(Fd:List (Nat×Nat))(lx la:Array Bool)(l:Env)(H:Hp)(nx:Nat)(iv:Iv)(w:World)(O:Nat->da)(a:Act)(J:World):Prop where
 sat:Sat n l H nx iv B w O a J
 KV:lx.size=ops.size
 KY:la.size=ops.size
 la:∀j,la[j]? =some true↔lx[j]? =some true\/∃g,(j,g)∈Fd
 HC:∀j g,(j,g)∈Fd->j∈Pd
 pd:∀j∈Pd,lx[j]? =some false/\∃o d mk obj,ops[j]? =some o/\KR o.op=true/\o.guard=none/\(o.dst=some d/\d∉o.looksAt ops)/\AL P o a mk obj/\fO l d=none/\
  ∀g,(j,g)∈Fd->a.tmps[d]? =some (mk g)/\J.heap[g]? =some obj
 eg:∀j g,(j,g)∈Fd->B<=g/\(∀id b,cw H id=some b->(O id).nil=false->(O id).g≠g)/\∀lo D,(lo,D)∈iv->¬(lo<=g/\g<D)
 inj:∀j g j',(j,g)∈Fd->(j',g)∈Fd->j=j'
 ap:∀j∈Pd,∀j'∈Pd,j≠j'->∀o o',ops[j]? =some o->ops[j']? =some o'->o.apart ops o'=true
theorem IH{l:Env}{u:Nat}(h:∀t v,fO l' t=some v->t≠u/\fO l t=some v){d:Nat}(hd:fO l d=none):fO l' d=none:=by
 cases F:fO l' d with
 |none=>rfl
 |some v=>have:=(h d v F).2;rw[hd]at this;cases this
theorem Oper.Ab{o oj:Oper}(ha:o.apart ops oj=true)(hs:∀L b,oj.op≠ .select L b)(h:AL P oj a mk obj):AL P oj (a.put o.dst u) mk obj:=by
 intro w;rw[execOp_put (ops:=ops) oj hs a o.dst u (Go.Oper.apart_spec ha).1];exact h w
theorem qF(OB:d≠some t)(h:a.tmps[t]? =some v):(a.put d u).tmps[t]? =some v:=by
 cases d with
 |none=>exact h
 |some d=>
  have:d≠t:=fun e=>OB (by rw[e]);simpa [Act.put,Array.getElem?_setIfInBounds_ne this]using h
theorem jb{w:World}(h:w.heap[g]? =some obj):g<w.heap.size:=(bA.1 h).1
theorem Ext.alloc(w:World)(obj:Obj):Ext w (w.alloc obj):=
 ⟨rfl,rfl,rfl,bv,fun k E=>heap_alloc_old _ _ E⟩
variable{Pd:List Nat}{Fd:List (Nat×Nat)}{lx la:Array Bool}
theorem KU.step(s:KU P ops n B Pd Fd lx la l H nx iv w O a J)(OY:∀(j:Nat) (o:Oper) L b,ops[j]? =some o->o.op≠ .select L b){i:Nat}{o:Oper}(_hi:ops[i]? =some o)(UI:∀g,(i,g)∉Fd)
  (Q7:∀j∈Pd,j≠i->∀oj,ops[j]? =some oj->o.apart ops oj=true)
  (sat':Sat n l' H' OF K B I G8 (a.put o.dst u) w3)
  (hl:∀j∈Pd,j≠i->∀d,fO l d=none->o.dst≠some d->fO l' d=none) (RW:∀j∈Pd,j≠i->Ext J w3)
  (heg:∀g,g<J.heap.size->(∀id b,cw H id=some b->(O id).nil=false->(O id).g≠g)->(∀lo D,(lo,D)∈iv->¬(lo<=g/\g<D))->(∃j∈Pd,j≠i)->
   (∀id b,cw H' id=some b->(G8 id).nil=false->(G8 id).g≠g)/\(∀lo D,(lo,D)∈K->¬(lo<=g/\g<D))):
  KU P ops n B (Pd.filter fun j=> !Nat.beq j i) Fd (lx.setIfInBounds i true) (la.setIfInBounds i true) l' H' OF K I G8 (a.put o.dst u) w3:=by
 have memf:∀j,j∈(Pd.filter fun j=> !Nat.beq j i)↔j∈Pd/\j≠i:=fun j=>by
  simp only[List.mem_filter,Bool.not_eq_true',mU]
 have hEi:∀j g,(j,g)∈Fd->j≠i:=fun j g h e=>UI g (e▸h);refine⟨sat',by simp[s.KV],by simp[s.KY],fun j=>?_,fun j g h=>(memf j).2 ⟨s.HC j g h,hEi j g h⟩,fun j hj=>?_,fun j g h=>?_,s.inj,fun j hj j' hj'=>s.ap j ((memf j).1 hj).1 j' ((memf j').1 hj').1⟩
 .rw[oa,oa,s.la,s.KY,s.KV];constructor
  .rintro((h|h)|h)
   .exact .inl (.inl h)
   .exact .inr h
   .exact .inl (.inr h)
  .rintro((h|h)|h)
   .exact .inl (.inl h)
   .exact .inr h
   .exact .inl (.inr h)
 .obtain⟨hj,Ol⟩:=(memf j).1 hj;obtain⟨h0,oj,d,mk,obj,Y,X,N,⟨h4,Q8⟩,h5,h6,h7⟩:=s.pd j hj;have hapj:=Q7 j hj Ol oj Y;have OB:o.dst≠some d:=fun e=>(Go.Oper.apart_spec hapj).2.1 d e h4;refine⟨?_,oj,d,mk,obj,Y,X,N,⟨h4,Q8⟩,Oper.Ab hapj (fun L b=>OY j oj L b Y) h5,hl j hj Ol d h6 OB,fun g F=>⟨qF OB (h7 g F).1,?_⟩⟩
  .rw[Array.getElem?_setIfInBounds_ne (Ne.symm Ol)];exact h0
  .rw[(RW j hj Ol).block g (jb (h7 g F).2)];exact(h7 g F).2
 .have hj:=s.HC j g h;obtain⟨h0,oj,d,mk,obj,Y,X,N,⟨h4,Q8⟩,h5,h6,h7⟩:=s.pd j hj;obtain⟨e1,e2,e3⟩:=s.eg j g h;exact⟨e1,heg g (jb (h7 g h).2) e2 e3 ⟨j,hj,hEi j g h⟩⟩
theorem KU.early(s:KU P ops n B Pd Fd lx la l H nx iv w O a J)(OE:∀(j:Nat) o,ops[j]? =some o->∀d,o.dst=some d->d<n)
  (OY:∀(j:Nat) (o:Oper) L b,ops[j]? =some o->o.op≠ .select L b) (hj:j∈Pd) (TN:la[j]? =some false) {F':Act->World->Prop}
  (h:∀E' a2 I,Ext J I->KU P ops n B Pd E' lx (la.setIfInBounds j true) l H nx iv w O a2 I->F' a2 I):wpOp P ops Q j F' a J:=by
 obtain⟨h0,o,d,mk,obj,Y,X,N,⟨h4,Q8⟩,h5,h6,h7⟩:=s.pd j hj;have V:Region.wanted o (yielded ops a.tmps)=true:=by simp[Region.wanted,N]
 unfold wpOp;simp only[Y,V,if_true]
 refine .inl ?_;unfold Oper.wp;rw[h5 J];simp only[Oper.upon]
 have hd:=OE j o Y d h4;have hnE:∀g,(j,g)∉Fd:=fun g F=>by
  have:=(s.la j).2 (.inr ⟨g,F⟩);rw[TN]at this;cases this
 refine h ((j,J.heap.size)::Fd) _ _ (Ext.alloc _ _) ⟨?_,s.KV,by simp[s.KY],fun k=>?_,fun k g E=>?_,fun k E=>?_,fun k g E=>?_,fun k g k' E hk'=>?_,s.ap⟩
 .refine⟨s.sat.rel.ext (Ext.alloc _ _),?_,?_,fun t v hv=>?_,s.sat.sc⟩
  .rw[h4];simp[Act.put,s.sat.size]
  .rw[h4];exact s.sat.defers
  .refine qF (fun e=>?_) (s.sat.env t v hv);rw[h4]at e;injection e with e;subst e;rw[h6]at hv;cases hv
 .rw[oa,s.la];have OT:j<la.size:=(bA.1 TN).1;constructor
  .rintro((h|⟨g,h⟩)|⟨rfl,_⟩)
   .exact .inl h
   .exact .inr ⟨g,by simp[h]⟩
   .exact .inr ⟨_,aI ..⟩
  .rintro(h|⟨g,h⟩)
   .exact .inl (.inl h)
   .rcases List.mem_cons.1 h with h|h
    .injection h with e1 e2;exact .inr ⟨e1,by rw[e1];exact OT⟩
    .exact .inl (.inr ⟨g,h⟩)
 .rcases List.mem_cons.1 E with E|E
  .injection E with e1 e2;rw[e1];exact hj
  .exact s.HC k g E
 .obtain⟨g0,ok,dk,mkk,objk,g1,g2,g3,⟨g4,gself⟩,g5,g6,g7⟩:=s.pd k E;by_cases hkj:k=j
  .subst hkj;rw[Y]at g1;injection g1 with g1;subst g1;rw[h4]at g4;injection g4 with g4;subst g4;refine⟨g0,o,d,mk,obj,Y,X,N,⟨h4,Q8⟩,?_,h6,fun g F=>?_⟩
   .intro ww;rw[execOp_put (ops:=ops) o (fun L b=>OY k o L b Y) a o.dst _ (fun d' Uq=>by rw[h4]at Uq;injection Uq with Uq;subst Uq;exact Q8)];exact h5 ww
   .rcases List.mem_cons.1 F with F|F
    .injection F with e1 e2;subst e2;refine⟨?_,heap_alloc_new _ _⟩;rw[h4];simp[Act.put,s.sat.size,hd]
    .exact absurd F (hnE g)
  .have Q7:=s.ap j hj k E (Ne.symm hkj) o ok Y g1;have OB:o.dst≠some dk:=fun e=>(Go.Oper.apart_spec Q7).2.1 dk e g4;refine⟨g0,ok,dk,mkk,objk,g1,g2,g3,⟨g4,gself⟩,Oper.Ab Q7 (fun L b=>OY k ok L b g1) g5,g6,fun g F=>?_⟩;rcases List.mem_cons.1 F with F|F
   .injection F with e1 e2;exact absurd e1 hkj
   .refine⟨qF OB (g7 g F).1,?_⟩;rw[heap_alloc_old _ _ (jb (g7 g F).2)];exact(g7 g F).2
 .rcases List.mem_cons.1 E with E|E
  .injection E with e1 e2;subst e2;refine⟨bB s.sat.rel.base s.sat.rel.size,fun id b hb Z R=>?_,fun lo D hm hc=>?_⟩
   .have:=(s.sat.rel.low id b hb Z).2;omega
   .have:=s.sat.rel.sN lo D hm;have:=s.sat.rel.size;omega
  .exact s.eg k g E
 .have old:∀k' g',(k',g')∈Fd->g'<J.heap.size:=fun k' g' h=>by
   obtain⟨_,_,_,_,_,_,_,_,_,_,_,h7⟩:=s.pd k' (s.HC k' g' h);exact jb (h7 g' h).2
  rcases List.mem_cons.1 E with E|E<;>rcases List.mem_cons.1 hk' with hk'|hk'
  .injection E with e1 e2;injection hk' with e3 e4;rw[e1,e3]
  .injection E with e1 e2;have:=old _ _ hk';omega
  .injection hk' with e1 e2;have:=old _ _ E;omega
  .exact s.inj k g k' E hk'
theorem KU.Ml(s:KU P ops n B Pd Fd lx la l H nx iv w O a J){i:Nat}{o:Oper}(D:ops[i]? =some o)(F:(i,g)∈Fd){b:j1}{v:SV}
  (hb:b.scopd nx) (hv:v.sc (nx+1)) (UJ:∀g,v.den (gR O nx ⟨g,0,false⟩)=mk g) (PU:∀g I,I.heap[g]? =some obj->b.fits O ⟨g,0,false⟩ I) (UK:AL P o a mk obj)
  {F':Env->Prop} (hK:Ct o.dst v l F') (_hok:∀d,o.dst=some d->d<n) (Q7:∀j∈Pd,j≠i->∀oj,ops[j]? =some oj->o.apart ops oj=true):
  ∃l',F' l'/\KU P ops n B (Pd.filter fun j=> !Nat.beq j i) (Fd.filter fun e=> !Nat.beq e.1 i) (lx.setIfInBounds i true) la l' ((nx,b)::H) (nx+1) iv w (gR O nx ⟨g,0,false⟩) a J:=by
 obtain⟨h0,o',d,mk',obj',Y,X,N,⟨h4,Q8⟩,h5,h6,h7⟩:=s.pd i (s.HC i g F);rw[D]at Y;injection Y with Y;subst Y;obtain⟨rfl,rfl⟩:=UK.uniq h5;obtain⟨ht,hh⟩:=h7 g F;obtain⟨e1,e2,e3⟩:=s.eg i g F;have memf:∀j,j∈(Pd.filter fun j=> !Nat.beq j i)↔j∈Pd/\j≠i:=fun j=>by
  simp only[List.mem_filter,Bool.not_eq_true',mU]
 have memE:∀j k,(j,k)∈(Fd.filter fun e=> !Nat.beq e.1 i)↔(j,k)∈Fd/\j≠i:=fun j k=>by
  simp only[List.mem_filter,Bool.not_eq_true',mU]
 have PV:∀id b,cw H id=some b->gR O nx ⟨g,0,false⟩ id=O id:=fun id b h=>(gS id (s.sat.rel.keys id b h)).symm;have r:=s.sat.rel;have Oe:Rel ((nx,b)::H) (nx+1) iv B w (gR O nx ⟨g,0,false⟩) J:=by
  refine Rel.mk' r.os r.tape r.output r.size r.base r.sN ?_ ?_ ?_ ?_ ?_ ?_ ?_
  .intro id b' h;rw[dA]at h;split at h
   .omega
   .have:=r.keys id b' h;omega
  .intro id b' h;rw[dA]at h;split at h
   .rename_i e;subst e;injection h with h;subst h;rw[eh];exact j1.gu (PU g J hh) (fun id Oh=>gS id Oh) hb (fun _ _=>rfl)
   .rw[PV id b' h];exact j1.gu (r.fits h) (fun id Oh=>gS id Oh) (r.scopd h) (fun _ _=>rfl)
  .intro id b' h;rw[dA]at h;split at h
   .injection h with h;subst h;exact j1.jJ (Nat.le_succ _) hb
   .exact j1.jJ (Nat.le_succ _) (r.scopd h)
  .intro id id' c c' h h' hd Uq Z hn' R;rw[dA]at h h';split at h<;>split at h'
   .rename_i x y;rw[<-x,<-y]
   .rename_i x y;subst x;rw[eh,PV _ _ h']at R;rw[PV _ _ h']at hn';exact absurd R.symm (e2 _ _ h' hn')
   .rename_i x y;subst y;rw[eh,PV _ _ h]at R;rw[PV _ _ h]at Z;exact absurd R (e2 _ _ h Z)
   .rw[PV _ _ h,PV _ _ h']at R;rw[PV _ _ h]at Z;rw[PV _ _ h']at hn';exact r.inj id id' c c' h h' hd Uq Z hn' R
  .intro id c h Z;rw[dA]at h;split at h
   .rename_i e;subst e;rw[eh];exact⟨e1,jb hh⟩
   .rw[PV _ _ h]at Z ⊢;exact r.low id c h Z
  .intro k E OB;refine r.uC k E fun id c h Z=>?_;have OT:=r.keys id c h;have:=OB id c (by rw[dA,aF be];exact h) (by rw[PV _ _ h];exact Z)
   rwa [PV _ _ h]at this
  .intro lo D hm id c h Z;rw[dA]at h;split at h
   .rename_i e;subst e;rw[eh];exact e3 lo D hm
   .rw[PV _ _ h]at Z ⊢;exact r.kI lo D hm id c h Z
 have sat1:Sat n l ((nx,b)::H) (nx+1) iv B w (gR O nx ⟨g,0,false⟩) a J:=s.sat.next Oe (Nat.le_succ _) (fun id Oh=>gS id Oh)
 rw[h4]at hK;refine⟨_,hK,?_⟩;have sat2:Sat n ((d,v)::l) ((nx,b)::H) (nx+1) iv B w (gR O nx ⟨g,0,false⟩) a J:=by
  refine⟨sat1.rel,sat1.size,sat1.defers,fun t u hu=>?_,fun t u hu=>?_⟩
  .rw[eW]at hu;split at hu
   .rename_i e;subst e;injection hu with hu;subst hu;rw[UJ];exact ht
   .exact sat1.env t u hu
  .rw[eW]at hu;split at hu
   .injection hu with hu;subst hu;exact hv
   .exact sat1.sc t u hu
 have hli:i<lx.size:=(bA.1 h0).1;refine⟨sat2,by simp[s.KV],s.KY,fun j=>?_,fun j k h=>?_,fun j hj=>?_,fun j k h=>?_,fun j k j' h h'=>s.inj j k j' ((memE j k).1 h).1 ((memE j' k).1 h').1,fun j hj j' hj'=>s.ap j ((memf j).1 hj).1 j' ((memf j').1 hj').1⟩
 .rw[s.la,oa];constructor
  .rintro(h|⟨k,h⟩)
   .exact .inl (.inl h)
   .by_cases Ol:j=i
    .exact .inl (.inr ⟨Ol,Ol▸hli⟩)
    .exact .inr ⟨k,(memE j k).2 ⟨h,Ol⟩⟩
  .rintro((h|⟨rfl,h⟩)|⟨k,h⟩)
   .exact .inl h
   .exact .inr ⟨g,F⟩
   .exact .inr ⟨k,((memE j k).1 h).1⟩
 .exact(memf j).2 ⟨s.HC j k ((memE j k).1 h).1,((memE j k).1 h).2⟩
 .obtain⟨hj,Ol⟩:=(memf j).1 hj;obtain⟨g0,oj,dj,mkj,objj,g1,g2,g3,⟨g4,gself⟩,g5,g6,g7⟩:=s.pd j hj;have OB:d≠dj:=fun e=>(Go.Oper.apart_spec (Q7 j hj Ol oj g1)).2.1 d h4 (by rw[g4,e]);refine⟨by rw[Array.getElem?_setIfInBounds_ne (Ne.symm Ol)];exact g0,oj,dj,mkj,objj,g1,g2,g3,⟨g4,gself⟩,g5,?_,fun k E=>g7 k ((memE j k).1 E).1⟩;rw[eW,aF OB];exact g6
 .obtain⟨h,Ol⟩:=(memE j k).1 h;obtain⟨k1,k2,k3⟩:=s.eg j k h;refine⟨k1,fun id c hc Z=>?_,k3⟩;rw[dA]at hc;split at hc
  .rename_i e;subst e;rw[eh];intro e;simp only at e;subst e;exact Ol (s.inj j _ i h F)
  .rw[PV _ _ hc]at Z ⊢;exact k2 id c hc Z
end
end Go.Sx
