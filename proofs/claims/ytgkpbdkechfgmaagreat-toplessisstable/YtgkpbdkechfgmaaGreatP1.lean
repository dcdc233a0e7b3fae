/- Texts Sx7 to Sx11: lemmas, each with its conditions. -/
import Derived.OrdersHeld
import Derived.Test.YtgkpbdkechfgmaaGreatP0
namespace Go.Sx
open Go
variable{args:(Nat->dL)->Array Value}{la lx:Array Bool}{op:BinOp}{dr pu:Bool}{FS:Ending->World->Prop}{l':Env}{Q:Exit->Act->World->Prop}{H':Hp}{k:IntKind}{E:Iv}{Pd:List Nat}{OW g j m t:Nat}{mk:Nat->Value}{G8:Nat->dL}{obj:Obj}{d:Option Tmp}{Fn:SV->Hp->Nat->Iv->World->Prop}{u v:Value}{w V w3:World}
section
variable{P:Program}{τ:mn}{B n nx:Nat}{l:Env}{H:Hp}{iv:Iv}{w J:World}{O:Nat->dL}{a:Act}
theorem pH{k':IntKind}(h:pC k k'=true):k=k':=by
 cases k<;>cases k'<;>first|rfl|(simp [pC]at h)
theorem wk(op:BinOp)(t:TypeId)(x y:Operand)(k k':IntKind)(i j:Int)(w:World):(eqGuard op t x y (.int k i) (.int k' j)).run P w= .ok () w:=by
 unfold eqGuard;cases op<;>simp
theorem mw(op:BinOp)(t:TypeId)(x y:Operand)(i j:Bool)(w:World):(eqGuard op t x y (.bool i) (.bool j)).run P w= .ok () w:=by
 unfold eqGuard;cases op<;>simp
theorem jO(op:BinOp)(t:TypeId)(x y:Operand)(i j:ByteArray)(w:World):(eqGuard op t x y (.string i) (.string j)).run P w= .ok () w:=by
 unfold eqGuard;cases op<;>simp
theorem IB{i j:Int}{t:TypeId}{Fn:Value->Prop}(h:Hv op k i j Fn)(k':IntKind)(R:(op= .shl\/op= .shr)\/k=k'):
  ∃r,Fn r/\∀w:World,(binOp op t (.int k i) (.int k' j)).run P w= .ok r w:=by
 have RN:op≠ .shl->op≠ .shr->k=k':=fun I X=>by rcases R with(N|N)|N<;>simp_all
 cases op<;>simp only[Hv]at h
 case shl=>obtain⟨h0,r,I,X⟩:=h;refine⟨_,X,fun w=>?_⟩;subst I;simp[binOp,Op.shift,show ¬j<0 by omega]
 case shr=>obtain⟨h0,r,I,X⟩:=h;refine⟨_,X,fun w=>?_⟩;subst I;simp[binOp,Op.shift,show ¬j<0 by omega]
 all_goals (obtain rfl:=RN (by simp) (by simp))
 case quo=>obtain⟨h0,r,I,X⟩:=h;refine⟨_,X,fun w=>?_⟩;subst I;simp[binOp,Op.intDiv,h0]
 case rem=>obtain⟨h0,r,I,X⟩:=h;refine⟨_,X,fun w=>?_⟩;subst I;simp[binOp,Op.intDiv,h0]
 case eql=>exact⟨_,h,fun w=>by simp[binOp,Op.intCmp]⟩
 case neq=>exact⟨_,h,fun w=>by simp[binOp,Op.intCmp]⟩
 case lss=>exact⟨_,h,fun w=>by simp[binOp,Op.intCmp]⟩
 case leq=>exact⟨_,h,fun w=>by simp[binOp,Op.intCmp]⟩
 case gtr=>exact⟨_,h,fun w=>by simp[binOp,Op.intCmp]⟩
 case geq=>exact⟨_,h,fun w=>by simp[binOp,Op.intCmp]⟩
 case add=>obtain⟨r,I,X⟩:=h;refine⟨_,X,fun w=>?_⟩;subst I;simp[binOp,Op.intArith]
 case sub=>obtain⟨r,I,X⟩:=h;refine⟨_,X,fun w=>?_⟩;subst I;simp[binOp,Op.intArith]
 case mul=>obtain⟨r,I,X⟩:=h;refine⟨_,X,fun w=>?_⟩;subst I;simp[binOp,Op.intArith]
 case and=>obtain⟨r,I,X⟩:=h;refine⟨_,X,fun w=>?_⟩;subst I;simp[binOp,Op.intBits]
 case or=>obtain⟨r,I,X⟩:=h;refine⟨_,X,fun w=>?_⟩;subst I;simp[binOp,Op.intBits]
 case andNot=>obtain⟨r,I,X⟩:=h;refine⟨_,X,fun w=>?_⟩;subst I;simp[binOp,Op.intBits]
 case xor=>obtain⟨r,I,X⟩:=h;refine⟨_,X,fun w=>?_⟩;subst I;simp[binOp,Op.intBits]
theorem run_equalIn_bool{t:TypeId}(hu:P.underlying t=some .bool)(d:Nat)(i j:Bool)(w:World):(Op.equalIn (d+1) t (.bool i) (.bool j)).run P w= .ok (i==j) w:=by
 simp[Op.equalIn,run_underlying hu]
theorem vw{t:TypeId}(hu:P.underlying t=some .bool)(i j:Bool)(w:World):(Op.equal t (.bool i) (.bool j)).run P w= .ok (i==j) w:=run_equalIn_bool hu 9999 i j w
theorem yM{t:TypeId}(hu:P.underlying t=some .bool)(i j:Bool)(w:World):(binOp .eql t (.bool i) (.bool j)).run P w= .ok (.bool (i==j)) w:=by
 show(do pure (.bool (<-Op.equal t (.bool i) (.bool j))):Sem Value).run P w=_;rw[Sem.run_bind,vw hu];rfl
theorem wm{t:TypeId}(hu:P.underlying t=some .bool)(i j:Bool)(w:World):(binOp .neq t (.bool i) (.bool j)).run P w= .ok (.bool (!(i==j))) w:=by
 show(do pure (.bool (!(<-Op.equal t (.bool i) (.bool j)))):Sem Value).run P w=_;rw[Sem.run_bind,vw hu];rfl
theorem IC(hτ:fT P τ){x y:SV}{Fn:SV->Prop}(h:NG P τ op t x y Fn)(o1 o2:Operand):
  ∃r,Fn r/\r.sc nx/\∀J:World,(do eqGuard op t o1 o2 (x.den O) (y.den O);binOp op t (x.den O) (y.den O)).run P J= .ok (r.den O) J:=by
 unfold NG at h;split at h
 ·rename_i k i k' j;have fin:∀R:(op= .shl\/op= .shr)\/k=k',Hv op k i j (fun r=>Fn (.o (.v r)))->∃r,Fn r/\r.sc nx/\∀J:World,(do eqGuard op t o1 o2 (SV.den O (.o (.v (.int k i)))) (SV.den O (.o (.v (.int k' j))));binOp op t (SV.den O (.o (.v (.int k i)))) (SV.den O (.o (.v (.int k' j))))).run P J= .ok (r.den O) J:=by
   intro R h;obtain⟨r,I,X⟩:=IB (P:=P) (t:=t) h k' R;refine⟨_,I,trivial,fun J=>?_⟩;simp only[SV.den,At.den,Sem.run_bind,wk,Result.andThen_ok,X]
  split at h
  ·exact fin (.inl (.inl rfl)) h
  ·exact fin (.inl (.inr rfl)) h
  ·split at h
   ·rename_i R;exact fin (.inr (pH R)) h
   ·exact h.elim
 ·rename_i i j;split at h
  ·rename_i ti QX;split at h
   ·rename_i On;have hu:=(hτ t _ QX).i2 (eC On);split at h
    ·refine⟨_,h,trivial,fun J=>?_⟩;simp only[SV.den,At.den,Sem.run_bind,mw,Result.andThen_ok,yM hu]
    ·refine⟨_,h,trivial,fun J=>?_⟩;simp only[SV.den,At.den,Sem.run_bind,mw,Result.andThen_ok,wm hu]
    ·exact h.elim
   ·exact h.elim
  ·exact h.elim
 ·rename_i i j;split at h
  ·refine⟨_,h,trivial,fun J=>?_⟩;simp only[SV.den,At.den,Sem.run_bind,jO,Result.andThen_ok]
   simp[binOp,Op.stringOp,ByteArray.toList_eq]
  ·refine⟨_,h,trivial,fun J=>?_⟩;simp only[SV.den,At.den,Sem.run_bind,jO,Result.andThen_ok]
   simp[binOp,Op.stringOp,ByteArray.toList_eq]
  ·refine⟨_,h.2,trivial,fun J=>?_⟩;simp only[SV.den,At.den,Sem.run_bind,jO,Result.andThen_ok]
   have I:=h.1;unfold maxLen at I;simp[binOp,Op.stringOp];omega
  ·exact h.elim
 ·obtain⟨b,I,X⟩:=h;exact⟨_,X,trivial,fun J=>I O J o1 o2⟩
abbrev Mh(n B:Nat)(l:Env)(a:Act)(dst:Option Tmp)(Fn:SV->Hp->Nat->Iv->World->Prop)(next:Act->World->Prop):Prop:=
 ∀v H' OW E V G8 w3,Fn v H' OW E V->Sat n l H' OW E B V G8 a w3->v.sc OW->next (a.put dst (v.den G8)) w3
theorem Sat.next(sat:Sat n l H nx iv B w O a J)(rel:Rel H' OW E B V G8 w3)(QU:nx<=OW)(G9:∀id,id<nx->O id=G8 id):
  Sat n l H' OW E B V G8 a w3:=
 ⟨rel,sat.size,sat.defers,fun t v h=>by rw[sat.env t v h,SV.jU G9 (sat.sc t v h)],fun t v h=>SV.tD QU (sat.sc t v h)⟩
theorem CG(sat:Sat n l H nx iv B w O a J){U:List At}(hs:∀c∈U,At.sc nx c):
  Rel ((nx,.box t U)::H) (nx+1) iv B w (fh O nx ⟨J.heap.size,0,false⟩) (J.alloc (.cells (U.map (At.den O)).toArray t)):=
 sat.rel.push (.box t U) _ rfl rfl rfl (by simp) (fun k R=>heap_alloc_old _ _ R) (fun _=>⟨Nat.le_refl _,by simp⟩) ⟨rfl,heap_alloc_new _ _⟩ hs
theorem vz:∀{vs:List SV} {k:List Nat->Prop},nS vs k->(∀v∈vs,SV.sc nx v)->∃ids,k ids/\vs.map (SV.den O)=ids.map (fun id=>Value.pointer (some ⟨(O id).g,0,none⟩))/\∀id∈ids,id<nx
 |[],k,h,_=>⟨[],h,rfl,by simp⟩
 | .o (.p id 0)::r,k,h,hs=>by
  obtain⟨ids,I,X,N⟩:=vz (vs:=r) h (fun v hv=>hs v (by simp[hv]));exact⟨id::ids,I,by simp[X,SV.den,At.den],by simp;exact⟨hs (.o (.p id 0)) (by simp),N⟩⟩
 | .o (.p id (m+1))::r,k,h,_=>by simp[nS]at h
 | .o (.v x)::r,k,h,_=>by simp[nS]at h
 | .o (.s _ _ _ _)::r,k,h,_=>by simp[nS]at h
 | .o (.w _ _)::r,k,h,_=>by simp[nS]at h
 | .o (.fn _ _)::r,k,h,_=>by simp[nS]at h
 | .a _::r,k,h,_=>by simp[nS]at h
theorem yN(sat:Sat n l H nx iv B w O a J){Fn:SV->Hp->Iv->World->Prop}{o:Oper}{next:Act->World->Prop}
  (h:BD P B g args H nx iv w Fn) (Tf:(execOp a.eval o).run P J=(callFunc g (args O)).run P J)
  (Z:∀v H' E V,Fn v H' E V->Sat n l H' nx E B V O a V->v.sc nx->next (a.put o.dst (v.den O)) V):o.wp P a J next Q:=by
 have hc:=h.h O J sat.rel;unfold Oper.wp;rw[Tf,hc.e.h];refine Calls.mono hc.c fun e V W=>?_;obtain⟨v,H',E,rfl,PC,hK⟩:=W;exact Z _ _ _ _ hK (sat.next (G8:=O) PC (Nat.le_refl _) (fun _ _=>rfl)) trivial
theorem Rel.ext(r:Rel H nx iv B w O J)(e:Ext J V):Rel H nx iv B w O V:=
 Rel.mk' (e.os.trans r.os) (e.tape.trans r.tape) (e.output.trans r.output) (aW r.size e.size) r.base r.qW r.keys
  (fun id b h=>jh.gV (r.fits h) (fun _ _=>rfl) (r.scopd h) (fun Z _=>e.block _ (r.low id b h Z).2)) (fun id b h=>r.scopd h) r.inj
  (fun id b h Z=>by have:=r.low id b h Z;have:=e.size;omega) (fun k R OS=>by rw[e.block k (by have:=r.size;omega)];exact r.ub k R OS) r.ji
theorem Rel.here(r:Rel H nx iv B w O J):Rel H nx iv B J O J:=
 Rel.mk' rfl rfl rfl (Nat.le_refl _) (by have:=r.base;have:=r.size;omega) (fun lo D hm=>by have:=r.qW lo D hm;have:=r.size;omega) r.keys
  (fun id b h=>r.fits h) (fun id b h=>r.scopd h) r.inj r.low (fun _ _ _=>rfl) r.ji
theorem Rel.more{lo D:Nat}(r:Rel H nx iv B w O J)(I:D<=w.heap.size)(X:∀id b,cV H id=some b->(O id).nil=false->¬(lo<=(O id).g/\(O id).g<D)):Rel H nx ((lo,D)::iv) B w O J:=
 Rel.mk' r.os r.tape r.output r.size r.base
  (fun lo' Sp hm=>by
   rcases List.mem_cons.1 hm with hm|hm
   ·injection hm with e1 e2;omega
   ·exact r.qW lo' Sp hm) r.keys (fun id b hb=>r.fits hb) (fun id b hb=>r.scopd hb) r.inj r.low r.ub
  (fun lo' Sp hm id b hb Oe=>by
   rcases List.mem_cons.1 hm with hm|hm
   ·injection hm with e1 e2;subst e1;subst e2;exact X id b hb Oe
   ·exact r.ji lo' Sp hm id b hb Oe)
theorem cB{Fn:SV->Hp->Iv->World->Prop}(h:D3 P B g args H nx iv w Fn):BD P B g args H nx iv w Fn:=
 ⟨fun O J r=>⟨(h.h O J r).e,Calls.mono (h.h O J r).c fun e V W=>by
  obtain⟨v,I,X,N⟩:=W
  exact⟨v,H,_,I,(r.ext X).here.more (Nat.le_refl _) (fun id b hb Z=>by have:=(r.low id b hb Z).2;omega),N⟩⟩⟩
def uc:Op->Bool
 | .move _| .assign _| .pick _ _ _| .build _ _| .load _ _| .nilCheck _| .binOp _ _ _ _ _| .unOp _ _ _| .convert _ _ _| .makeFunc _ _ _| .slice _ _ _ _ _| .fieldAddr _ _ _| .field _ _ _| .indexAddr _ _ _| .extract _ _=>true
 | .call ⟨.builtin .len,_,_⟩=>true
 | .call ⟨.builtin .max,_,_⟩=>true
 | .call ⟨.builtin .min,_,_⟩=>true
 |_=>false
def La:Op->Bool
 | .alloc _| .box _ _| .buildSlice _ _ _| .makeSlice _ _ _=>true
 |_=>false
def Hm:Op->Bool
 | .load _ _=>false
 |o=>uc o
theorem lh(hτ:fT P τ){o:Oper}(h:xu dr P τ B o l H nx iv w Fn)(sat:Sat n l H nx iv B w O a J)(R:uc o.op=true):
  (∃v,Fn v H nx iv w/\v.sc nx/\∀V,(Hm o.op=true\/Rel H nx iv B w O V)->(execOp a.eval o).run P V= .ok (.value (v.den O)) V)\/(dr=false/\yF P B o l H nx iv w Fn):=by
 obtain⟨dst,op,ty,pos,after,guard⟩:=o;have val:∀(r:SV),Fn r H nx iv w->r.sc nx->(∀V,(Hm op=true\/Rel H nx iv B w O V)->(execOp a.eval ⟨dst,op,ty,pos,after,guard⟩).run P V= .ok (.value (r.den O)) V)->
   (∃v,Fn v H nx iv w/\v.sc nx/\∀V,(Hm op=true\/Rel H nx iv B w O V)->(execOp a.eval ⟨dst,op,ty,pos,after,guard⟩).run P V= .ok (.value (v.den O)) V)\/(dr=false/\yF P B ⟨dst,op,ty,pos,after,guard⟩ l H nx iv w Fn):=
  fun r hK hs hr=>.inl ⟨r,hK,hs,hr⟩
 unfold xu at h;split at h<;>first|(exact False.elim h)|(rename_i Tf;simp only at Tf;subst Tf)
 ·obtain⟨v,hK,hv,hs⟩:=dF sat h;exact val v hK hs (fun V rel=>by simp[execOp,hv])
 ·obtain⟨v,hK,hv,hs⟩:=dF sat h;exact val v hK hs (fun V rel=>by simp[execOp,hv])
 ·rename_i c x y;obtain⟨v,I,hv,Qy⟩:=dF sat h;clear Qy;split at I
  ·rename_i t
   cases t
   ·obtain⟨u,hK,hu,hs⟩:=dF sat (I.f rfl);exact val u hK hs (fun V rel=>by simp[execOp,hv,SV.den,At.den,asBool,hu])
   ·obtain⟨u,hK,hu,hs⟩:=dF sat (I.t rfl);exact val u hK hs (fun V rel=>by simp[execOp,hv,SV.den,At.den,asBool,hu])
  ·exact I.elim
 ·cases R
 ·cases R
 ·rename_i t parts;split at h
  ·rename_i sz ag by_ ze tag ik e al fs QX;have ht:=hτ t _ QX;obtain⟨inf,z,D,Oj,Oq,hz,RV⟩:=ht.info;simp only at Oj Oq RV;have hzz:z.cells=(((ze.map At.v)).map (At.den O)).toArray:=by rw[fU];apply Array.ext';simpa using RV
   have hzs:∀c∈ze.map At.v,At.sc nx c:=fun c hc=>by simp at hc;obtain⟨v,_,rfl⟩:=hc;trivial
   split at h
   ·rename_i On;obtain⟨fds,hu,hf,Qd⟩:=ht.i5 (eC On);simp only at hf;have Vm:fds.toList.mapM (fun f=>(P.info? f.type).map fun i=>(f.offset,i.size))=some (fds.toList.map fun f=>(f.offset,((P.info? f.type).map (·.size)).getD 0)):=by
     clear hf hu;generalize fds.toList=fl at Qd
     induction fl with
     |nil=>rfl
     |cons f r ih=>
      obtain⟨i0,RZ⟩:=Option.isSome_iff_exists.1 (Qd f (by simp));rw[List.mapM_cons,ih (fun g G=>Qd g (by simp[G]))];simp[RZ]
    have h0:=fW h
    obtain⟨cs',hK,Ok,hlen,Pq⟩:=kD sat (placeF:=fun i=>(fds.toList.map fun f=>(f.offset,((P.info? f.type).map (·.size)).getD 0))[i]?) (fun i k R=>by
     obtain⟨off,ft,fi,I,X,N,h4⟩:=mX hτ R;refine⟨off,fi.size,I,?_⟩;rw[<-hf]at X;simp only[aM,Option.map_eq_some_iff]at X ⊢;obtain⟨fd,QV,W⟩:=X;injection W with e1 e2;refine⟨fd,QV,?_⟩;obtain⟨inf',_,Sp,Tj,_⟩:=N.info;rw[e1,e2,Sp]
     simp[Tj]) h0 hzs
    refine val _ hK Ok (fun V rel=>?_);have hb:P.built t (parts.map fun p=>(p.1,a.eval p.2)).toList=some (cs'.map (At.den O)).toArray:=by
     unfold Program.built;simp only[D,hu,hz,Vm]
     rw[hzz,<-Pq];simp
    have:=run_build V t _ _ hb;simp only[execOp]
    exact lk this
   ·split at h
    ·rename_i On;have hu:=ht.i6 (eC On);simp only at hu;split at h
     ·rename_i sz' ag' by' ze' tag' ik' e' al' fs' PW
      have PW:=hτ e _ PW;obtain⟨inf',_,Sp,Tj,_⟩:=PW.info;simp only at Tj;have h0:=fW h;obtain⟨cs',hK,Ok,hlen,Pq⟩:=kD sat (placeF:=fun i=>some (i*inf'.size,inf'.size)) (fun i k R=>⟨i*sz',sz',R,by rw[Tj]⟩) h0 hzs;refine val _ hK Ok (fun V rel=>?_);have hb:P.built t (parts.map fun p=>(p.1,a.eval p.2)).toList=some (cs'.map (At.den O)).toArray:=by
       unfold Program.built;simp only[D,hu,hz,Sp]
       rw[hzz,<-Pq];simp
      have:=run_build V t _ _ hb;simp only[execOp]
      exact lk this
     ·exact h.elim
    ·exact h.elim
  ·exact h.elim
 ·cases R
 ·rename_i t x;obtain⟨v,I,hv,hs⟩:=dF sat h;obtain⟨r,hK,hr,OY⟩:=nW hτ sat.rel hs I;exact val r hK hr (fun V rel=>by simp only[execOp,hv];exact lk (OY V (rel.resolve_left (by simp[Hm]))))
 ·cases R
 ·rename_i x;obtain⟨v,I,hv,hs⟩:=dF sat h;split at I
  ·exact val _ I hs (fun V rel=>by simp[execOp,hv,SV.den,At.den])
  ·exact val _ I hs (fun V rel=>by simp[execOp,hv,SV.den,At.den])
  ·exact val _ I hs (fun V rel=>by simp[execOp,hv,SV.den,At.den])
  ·exact val _ I hs (fun V rel=>by simp[execOp,hv,SV.den,At.den])
  ·exact I.elim
 ·rename_i op t x y u;obtain⟨v,I,hv,_⟩:=dF sat h;obtain⟨v2,X,RJ,_⟩:=dF sat I;obtain⟨r,hK,hr,OY⟩:=IC (O:=O) hτ X x y;exact val r hK hr (fun V rel=>by simp only[execOp,hv,RJ];exact lk (OY V))
 ·rename_i op t x;obtain⟨v,I,hv,_⟩:=dF sat h;split at I
  ·exact val _ I trivial (fun V rel=>by simp[execOp,hv,SV.den,At.den,Op.unary])
  ·obtain⟨r,hr,hK⟩:=I;exact val _ hK trivial (fun V rel=>by subst hr;simp[execOp,hv,SV.den,At.den,Op.unary,Op.intArith])
  ·obtain⟨r,hr,hK⟩:=I;exact val _ hK trivial (fun V rel=>by subst hr;simp[execOp,hv,SV.den,At.den,Op.unary,Op.intBits])
  ·exact I.elim
 ·rename_i s d x;split at h
  ·rename_i tis htis;obtain⟨ds,WS,_⟩:=(hτ s _ htis).agg;obtain⟨v,I,hv,Qy⟩:=dF sat h;clear Qy;split at I
   ·rename_i sz ag by_ ze tag ik e al fs QX;have ht:=hτ d _ QX;split at I
    ·rename_i On;have hu:=ht.i1 (eC On);simp only at hu;split at I
     ·obtain⟨r,hr,hK⟩:=I;refine val _ hK trivial (fun V rel=>?_);subst hr;simp[execOp,convert,run_underlying WS,run_underlying hu,hv,SV.den,At.den,Conv.intToInt]
     ·exact I.elim
    ·cases dr
     ·exact .inr ⟨rfl,I⟩
     ·exact I.elim
   ·exact I.elim
  ·exact h.elim
 ·rename_i f first caps
  split at h
  ·obtain⟨vs,I,Qy,Rg⟩:=qY sat h;obtain⟨ids,hK,hids,Ou⟩:=vz (O:=O) I Rg;refine val _ hK (fun id Oy=>Ou id Oy) (fun V rel=>?_);have e:caps.map a.eval=(ids.map fun id=>Value.pointer (some ⟨(O id).g,0,none⟩)).toArray:=by
    apply Array.ext';rw[<-hids,<-Qy];simp
   simp[execOp,Instr.makeFunc,e,SV.den,At.den]
  ·exact h.elim
 ·cases R
 ·rename_i t x lo D;obtain⟨v,I,hv,hs⟩:=dF sat h;obtain⟨r,hK,hr,OY⟩:=Db hτ sat I hs;exact val r hK hr (fun V rel=>by simp only[execOp,hv];exact lk (by simpa using OY V))
 ·rename_i t x f;split at h
  ·rename_i sz ag by_ ze tag ik e al fs QX;have ht:=hτ t _ QX;split at h
   ·rename_i On;obtain⟨off,ft,fi,I,hf,TG,Oj⟩:=mX hτ h;obtain⟨v,X,hv,hs⟩:=dF sat I;obtain⟨r,ad,hK,hr,hd,hrd⟩:=tF (O:=O) X hs;refine val r hK hr (fun V rel=>?_);simp only[execOp,hv,hd,hrd]
    exact lk (D8 ht (eC On) hf TG Oj ad V)
   ·exact h.elim
  ·exact h.elim
 ·rename_i t x f;split at h
  ·rename_i sz ag by_ ze tag ik e al fs QX;have ht:=hτ t _ QX;split at h
   ·rename_i On;obtain⟨off,ft,fi,I,hf,TG,Oj⟩:=mX hτ h;obtain⟨v,X,hv,hs⟩:=dF sat I;obtain⟨fds,fd,hu,QV,e1,e2⟩:=yL ht (eC On) hf;have fin:∀U:List At,v.den O= .agg (U.map (At.den O)).toArray->(∀c∈U,At.sc nx c)->
      (match fi.agg with
       |true=>sj U off (fun r=>sk r fi.size (fun c=>Fn (.a c) H nx iv w))
       |false=>match CE U off with
        |some c=>Fn (.o c) H nx iv w
        |none=>False)->(∃v,Fn v H nx iv w/\v.sc nx/\∀V,(Hm (.field t x f)=true\/Rel H nx iv B w O V)->(execOp a.eval ⟨dst,.field t x f,ty,pos,after,guard⟩).run P V= .ok (.value (v.den O)) V)\/(dr=false/\yF P B ⟨dst,.field t x f,ty,pos,after,guard⟩ l H nx iv w Fn):=by
     intro U hd Ok R;split at R
     ·rename_i hag;obtain⟨N,RO⟩:=nT R;obtain⟨hK,PN⟩:=nU N;refine val _ hK (fun c hc=>Ok c (List.mem_of_mem_drop (bS hc))) (fun V rel=>?_);simp only[execOp,hv,hd]
      refine lk ?_;subst e1 e2;simp[Instr.field,run_underlying hu,QV,asAgg,part,TG.isAgg,hag,TG.sizeOf,SV.den,List.map_drop,List.map_take,List.extract_eq_take_drop]
     ·rename_i hag;split at R
      ·rename_i c hc;rw[ui]at hc;refine val _ R (Ok c (aE hc)) (fun V rel=>?_);simp only[execOp,hv,hd]
       refine lk ?_;subst e1 e2;simp[Instr.field,run_underlying hu,QV,asAgg,part,TG.isAgg,hag,hc,SV.den]
      ·exact R.elim
    split at X
    ·rename_i vs;exact fin (vs.map At.v) (by rw[fU];rfl) (fun c hc=>by simp at hc;obtain⟨v,_,rfl⟩:=hc;trivial) (fW X)
    ·exact fin _ rfl hs X
    ·exact X.elim
   ·exact h.elim
  ·exact h.elim
 ·rename_i t x i;obtain⟨v,I,hv,hs⟩:=dF sat h;obtain⟨u,X,hu,_⟩:=dF sat I;obtain⟨r,hK,hr,OY⟩:=D9 hτ X hs sat.rel;exact val r hK hr (fun V rel=>by simp only[execOp,hv,hu];exact lk (OY V))
 ·rename_i x i;obtain⟨v,I,hv,hs⟩:=dF sat h;split at I
  ·split at I
   ·rename_i vs u hu;rw[BG]at hu;exact val _ I trivial (fun V rel=>by simp[execOp,hv,Instr.extract,SV.den,At.den,hu])
   ·exact I.elim
  ·exact I.elim
 ·rename_i x t;obtain⟨v,I,hv,_⟩:=dF sat h;obtain⟨r,hK,OY⟩:=IA (ty:=ty) hτ I sat.rel;refine val _ hK trivial (fun V rel=>?_);show _=Result.ok (Next.value (Value.int .i64 r)) V;generalize v.den O=xv at hv OY;have OY:=OY V;simp[execOp,resolve,invoke,builtin,hv,OY]
 ·cases R
 ·rename_i x y ts;obtain⟨v,I,hv,_⟩:=dF sat h;obtain⟨v2,X,RJ,_⟩:=dF sat I;split at X
  ·split at X
   ·rename_i k a1 k' b1 UX;have RN:=pH UX;subst RN;refine val _ X trivial (fun V rel=>?_);simp only[execOp,resolve,invoke,builtin]
    simp[hv,RJ,SV.den,At.den,Builtin.max_,Builtin.max2];omega
   ·exact X.elim
  ·exact X.elim
 ·rename_i x y ts;obtain⟨v,I,hv,_⟩:=dF sat h;obtain⟨v2,X,RJ,_⟩:=dF sat I;split at X
  ·split at X
   ·rename_i k a1 k' b1 UX;have RN:=pH UX;subst RN;refine val _ X trivial (fun V rel=>?_);simp only[execOp,resolve,invoke,builtin]
    simp[hv,RJ,SV.den,At.den,Builtin.min_,Builtin.min2];omega
   ·exact X.elim
  ·exact X.elim
 ·cases R
 ·cases R
 ·cases R
 ·cases R
 ·cases R
 ·cases R
 ·cases R
 ·cases R
theorem iK{o:Oper}(h:yF P B o l H nx iv w Fn)(sat:Sat n l H nx iv B w O a J){next:Act->World->Prop}
  (Z:Mh n B l a o.dst Fn next):o.wp P a J next Q:=by
 obtain⟨v,V,E,OY,PC,hK⟩:=h.h O J a.eval sat.rel (fun x v L=>(tE sat L).1);have:=Z _ _ _ _ _ _ _ hK (sat.next PC (Nat.le_refl _) (fun _ _=>rfl)) trivial;unfold Oper.wp;rcases OY with OY|⟨OY,rfl⟩
 ·rw[OY];exact this
 ·rw[OY];exact this
theorem nR(hτ:fT P τ){o:Oper}(h:xu dr P τ B o l H nx iv w Fn)(sat:Sat n l H nx iv B w O a J){next:Act->World->Prop}
  (Z:Mh n B l a o.dst Fn next):o.wp P a J next Q:=by
 by_cases R:uc o.op=true
 ·rcases lh hτ h sat R with⟨v,hK,hs,hr⟩|⟨_,Tf⟩
  ·exact mU (hr J (.inr sat.rel)) (Z _ _ _ _ _ _ _ hK sat hs)
  ·exact iK Tf sat Z
 obtain⟨dst,op,ty,pos,after,guard⟩:=o;unfold xu at h;split at h<;>first|(exact False.elim h)|(rename_i Tf;simp only at Tf;subst Tf)
 ·exact absurd rfl R
 ·exact absurd rfl R
 ·exact absurd rfl R
 ·rename_i t;split at h
  ·rename_i sz ag by_ ze tag ik e al fs QX;obtain⟨z,Ol,Pg⟩:=(hτ t _ QX).zeroV J;have hK:=fW h;simp only at Pg;have PC:=CG sat (t:=t) (U:=ze.map At.v) (fun c hc=>by simp at hc;obtain⟨v,_,rfl⟩:=hc;trivial);rw[fU]at PC;have hzz:z.cells=ze.toArray:=by apply Array.ext';simpa using Pg
   refine mU (V:=J.alloc (.cells ze.toArray t)) (v:=.pointer (some ⟨J.heap.size,0,none⟩)) ?_ ?_
   ·simp[execOp,Instr.alloc,Ol,newVar,newRow,hzz]
   ·have:=Z _ _ _ _ _ _ _ hK (sat.next PC (by omega) fm) (by simp[SV.sc,At.sc]);simpa [SV.den,At.den]using this
  ·exact h.elim
 ·rename_i t x;obtain⟨v,I,hv,hs⟩:=dF sat h;obtain⟨U,hK,PJ,Rg⟩:=lj I;have PC:=CG sat (t:=t) (Rg nx hs);refine mU (V:=J.alloc (.cells (U.map (At.den O)).toArray t)) (v:=.pointer (some ⟨J.heap.size,0,none⟩)) ?_ ?_
  ·simp[execOp,Instr.box,hv,newVar,newRow,PJ O]
  ·have:=Z _ _ _ _ _ _ _ hK (sat.next PC (by omega) fm) (by simp[SV.sc,At.sc]);simpa [SV.den,At.den]using this
 ·exact absurd rfl R
 ·rename_i t m parts;split at h
  ·rename_i sz ag by_ ze tag ik e al fs QX;have ht:=hτ t _ QX;split at h
   ·rename_i On;have hu:=ht.i4 (eC On);simp only at hu;split at h
    ·rename_i sz' ag' by' ze' tag' ik' e' al' fs' PW
     have PW:=hτ e _ PW;obtain⟨inf,z,D,Oj,Oq,hz,RV⟩:=PW.info;have Re:=PW.Hq;simp only at Oj Oq RV Re;split at h
     ·rename_i hle;have hle:=Nat.le_of_ble_eq_true hle;have h0:=fW h;obtain⟨cs',hK,Ok,hlen,Pq⟩:=kD sat (placeF:=fun i=>some (i*inf.size,inf.size)) (fun i k R=>⟨i*sz',sz',R,by rw[Oj]⟩) h0
       (fun c hc=>by obtain⟨v,_,rfl⟩:=aR.1 hc;trivial)
      rw[fU]at Pq;have Qs:z.cells=ze'.toArray:=by apply Array.ext';simpa using RV
      have Uj:((List.replicate m ze').flatten).toArray=madeCells z.cells (m*inf.size):=by
       rw[Qs,Oj,<-Re];exact(q9 ze' m).symm
      have PC:=CG sat (t:=e) Ok;refine mU (V:=J.alloc (.cells (cs'.map (At.den O)).toArray e)) (v:=.slice (some ⟨J.heap.size,0,none⟩) m m) ?_ ?_
      ·simp only[execOp]
       refine lk ?_;rw[Uj]at Pq;by_cases PI:m*inf.size=0
       ·have R0:Instr.fill (fun i=>some (i*inf.size,inf.size)) (madeCells z.cells 0) (parts.toList.map fun p=>(p.1,a.eval p.2))=some (cs'.map (At.den O)).toArray:=by rw[PI]at Pq;exact Pq
        have e0:madeCells z.cells 0= #[]:=by simp[madeCells]
        rw[e0]at R0;have er:Array.range 0= #[]:=rfl;simp[Instr.buildSlice,run_underlying hu,sizeOf,typeInfo,zeroValue,D,hz,PI,newRow,R0,er]
       ·exact run_buildSlice J t e m _ _ inf z hu D hz (by rw[Oj];omega) PI (by rw[<-Pq];simp[madeCells])
      ·have:=Z _ _ _ _ _ _ _ hK (sat.next PC (by omega) fm) (by simp[SV.sc,At.sc]);simpa [SV.den,At.den]using this
     ·exact h.elim
    ·exact h.elim
   ·exact h.elim
  ·exact h.elim
 ·exact absurd rfl R
 ·rename_i t x y;obtain⟨v,I,hv,hs⟩:=dF sat h;obtain⟨u,X,hu,Q6⟩:=dF sat I
  cases G:Mg H v u with
  |true=>
   rw[G]at X
   cases dr with
   |true=>exact X.elim
   |false=>
    have X:OpG P B _ l H nx iv w Fn:=X;obtain⟨V,w3,H',E,OY,PC,hK⟩:=X.h O J a.eval sat.rel (fun x v L=>(tE sat L).1);refine JZ (V:=w3) OY ?_;exact Z _ _ _ _ _ _ _ hK (sat.next PC (Nat.le_refl _) (fun _ _=>rfl)) trivial
  |false=>
   rw[G]at X;obtain⟨H',V,w3,hK,PC,OY⟩:=vv hτ sat hs Q6 X;refine JZ (V:=w3) (by simp[execOp,hv,hu,OY]) ?_;exact Z _ _ _ _ _ _ _ hK (sat.next PC (Nat.le_refl _) (fun _ _=>rfl)) trivial
 ·exact absurd rfl R
 ·exact absurd rfl R
 ·exact absurd rfl R
 ·exact absurd rfl R
 ·exact absurd rfl R
 ·rename_i t x y;obtain⟨v,I,hv,_⟩:=dF sat h;obtain⟨u,X,hu,_⟩:=dF sat I;obtain⟨r,H',OW,G8,V,hK,PC,hr,QU,G9,OY⟩:=FX hτ sat X;refine mU (V:=V) (by simp only[execOp,hv,hu];exact lk OY) ?_;exact Z _ _ _ _ _ _ _ hK (sat.next PC QU G9) hr
 ·exact absurd rfl R
 ·exact absurd rfl R
 ·exact absurd rfl R
 ·exact absurd rfl R
 ·exact absurd rfl R
 ·exact absurd rfl R
 ·rename_i x y t u;split at h
  ·rename_i htu;have htu:=eC htu;subst htu;obtain⟨v,I,hv,_⟩:=dF sat h;obtain⟨v2,X,RJ,_⟩:=dF sat I;split at X
   ·unfold gaK at X;split at X
    ·exact X.elim
    ·obtain⟨v,H',OW,E,G8,V,w3,OY,PC,hs,QU,G9,hK⟩:=X.h O J a.eval sat.rel (fun x v L=>(tE sat L).1);exact mU OY (Z _ _ _ _ _ _ _ hK (sat.next PC QU G9) hs)
   rcases X with X|X
   ·obtain⟨r,H',OW,G8,V,hK,PC,hr,QU,G9,OY⟩:=tC (ty:=ty) hτ sat X;refine mU (v:=r.den G8) (V:=V) ?_ ?_
    ·simp[execOp,resolve,invoke,builtin,hv,RJ,OY]
    ·exact Z _ _ _ _ _ _ _ hK (sat.next PC QU G9) hr
   ·exact iK X sat Z
  ·exact iK h sat Z
 ·exact absurd rfl R
 ·exact absurd rfl R
 ·exact iK h sat Z
 ·exact iK h sat Z
 ·exact iK h sat Z
 ·exact iK h sat Z
 ·exact iK h sat Z
 ·exact iK h sat Z
 ·exact iK h sat Z
 ·rename_i f args ats;obtain⟨v,I,hv,_⟩:=dF sat h;obtain⟨vs,X,Qy,Rg⟩:=qY sat I;have Rt:(args.toArray).map a.eval=nP O vs:=by
   apply Array.ext';simp[nP,Qy]
  have WV:∀(g:Nat) (args:(Nat->dL)->Array Value) (Fn:SV->Hp->Iv->World->Prop),JV dr P B g args H nx iv w Fn->BD P B g args H nx iv w Fn:=fun g args Fn h=>by
   cases dr
   ·exact h
   ·exact cB h
  split at X
  ·rename_i g first caps
   refine yN sat (WV _ _ _ X) ?_ (fun v H' E V hK hs hv=>Z _ _ _ _ _ _ _ hK hs hv);simp[execOp,resolve,hv,SV.den,At.den,Deferred.ofValue,invoke,Rt]
  ·rename_i g ids;refine yN sat (WV _ _ _ X) ?_ (fun v H' E V hK hs hv=>Z _ _ _ _ _ _ _ hK hs hv);simp[execOp,resolve,hv,SV.den,At.den,Deferred.ofValue,invoke,Rt]
  ·exact X.elim
end
def Ex.to:Ex->Exit
 | .normal=>.normal
 | .exit id=>.exit id
 | .ret=>.ret
def NI(n:Nat)(o:Oper):Bool:=match o.dst with
 |some d=>Nat.blt d n
 |none=>true
def codeOk(n:Nat):Code->Bool
 | .region _ ops _=>ops.toList.all (NI n)
 | .seq a b=>codeOk n a&&codeOk n b
 | .cond _ a b=>codeOk n a&&codeOk n b
 | .block _ c=>codeOk n c
 | .loop c=>codeOk n c
 |_=>true
section
variable{P:Program}{τ:mn}{B n nx:Nat}{l:Env}{H:Hp}{iv:Iv}{w J:World}{O:Nat->dL}{a:Act}
theorem Sat.put(sat:Sat n l H nx iv B w O a J){d:Nat}(hd:d<n){v:SV}(hv:v.sc nx):Sat n ((d,v)::l) H nx iv B w O (a.put (some d) (v.den O)) J:=by
 refine⟨sat.rel,by simp[Act.put,sat.size],sat.defers,fun t u h=>?_,fun t u h=>?_⟩
 ·rw[eW]at h;split at h
  ·rename_i e;subst e;injection h with h;subst h;simp[Act.put,sat.size,hd]
  ·rename_i e;have:=sat.env t u h;simpa [Act.put,Array.getElem?_setIfInBounds_ne e]using this
 ·rw[eW]at h;split at h
  ·injection h with h;subst h;exact hv
  ·exact sat.sc t u h
theorem iJ(sat:Sat n l H nx iv B w O a J){v:SV}{k:Env->Prop}(h:DZ d v l k)(hd:∀t,d=some t->t<n)(hv:v.sc nx):
  ∃l',k l'/\Sat n l' H nx iv B w O (a.put d (v.den O)) J:=by
 unfold DZ at h;split at h
 ·rename_i t;exact⟨_,h,sat.put (hd t rfl) hv⟩
 ·exact⟨l,h,sat⟩
theorem rz:∀{all:List Oper} {j:Nat},BF all j=(all[j]?).bind (·.dst)
 |[],j=>by simp[BF]
 |o::r,0=>by simp[BF]
 |o::r,j+1=>by simp[BF,rz (all:=r)]
theorem Sat.OC(sat:Sat n l H nx iv B w O a J){d:Nat}{v:SV}(hd:a.tmps[d]? =some (v.den O))(hv:v.sc nx):Sat n ((d,v)::l) H nx iv B w O a J:=by
 refine⟨sat.rel,sat.size,sat.defers,fun t u h=>?_,fun t u h=>?_⟩
 ·rw[eW]at h;split at h
  ·rename_i e;subst e;injection h with h;subst h;exact hd
  ·exact sat.env t u h
 ·rw[eW]at h;split at h
  ·injection h with h;subst h;exact hv
  ·exact sat.sc t u h
theorem k7(sat:Sat n l H nx iv B w O a J){all:List Oper}{o:Oper}{yes no:Env->Prop}(h:so all o.guard l yes no):
  (Region.wanted o (yielded all.toArray a.tmps)=true/\∃l',yes l'/\Sat n l' H nx iv B w O a J)\/(Region.wanted o (yielded all.toArray a.tmps)=false/\∃l',no l'/\Sat n l' H nx iv B w O a J):=by
 unfold so at h;split at h
 ·rename_i G;exact .inl ⟨by simp[Region.wanted,G],l,h,sat⟩
 ·rename_i j want G;have hy:Region.wanted o (yielded all.toArray a.tmps)=(yielded all.toArray a.tmps j==some want):=by simp[Region.wanted,G]
  split at h
  ·rename_i hd;rw[rz]at hd;exact .inr ⟨by rw[hy];simp[yielded,hd],l,h,sat⟩
  ·rename_i d hd;rw[rz]at hd;split at h
   ·rename_i b hb;have ht:=sat.env d _ hb;have VT:yielded all.toArray a.tmps j=some b:=by simp[yielded,hd,ht,SV.den,At.den]
    have hkt:b=true->Sat n ((d,.o (.v (.bool true)))::l) H nx iv B w O a J:=fun e=>sat.OC (by rw[ht,e]) trivial;have hkf:b=false->Sat n ((d,.o (.v (.bool false)))::l) H nx iv B w O a J:=fun e=>sat.OC (by rw[ht,e]) trivial;split at h
    ·cases Og:b
     ·exact .inr ⟨by rw[hy,VT,Og];rfl,_,h.f Og,hkf Og⟩
     ·exact .inl ⟨by rw[hy,VT,Og];rfl,_,h.t Og,hkt Og⟩
    ·cases Og:b
     ·exact .inl ⟨by rw[hy,VT,Og];rfl,_,h.f Og,hkf Og⟩
     ·exact .inr ⟨by rw[hy,VT,Og];rfl,_,h.t Og,hkt Og⟩
   ·rename_i vs hb;have ht:=sat.env d _ hb;exact .inr ⟨by rw[hy];simp[yielded,hd,ht,SV.den,At.den],l,h,sat⟩
   ·exact h.elim
theorem pI(hτ:fT P τ){all:List Oper}{Fn:KT}{Q:Exit->Act->World->Prop}
  (hQ:∀l' H' OW E V G8 a' w3,Fn l' H' OW E V->Sat n l' H' OW E B V G8 a' w3->Q .normal a' w3):
  ∀(rest:List Oper) (l:Env) (H:Hp) (nx:Nat) (iv:Iv) (w:World) (O:Nat->dL) (a:Act) (J:World),rest.all (NI n)=true->Gz P τ B all rest l H nx iv w Fn->Sat n l H nx iv B w O a J->
   wpList P all.toArray Q rest a J
 |[],l,H,nx,iv,w,O,a,J,_,h,sat=>wpList_nil (hQ _ _ _ _ _ _ _ _ h sat)
 |o::r,l,H,nx,iv,w,O,a,J,OV,h,sat=>by
  simp only[List.all_cons,aw]at OV;have hd:∀t,o.dst=some t->t<n:=fun t ht=>by
   have:=OV.1;simp only[NI,ht]at this;have h5:t+1<=n:=by simpa [Nat.blt]using this
   exact h5
  refine wpList_step fun Kc hKc=>?_;unfold Gz gv at h;rcases k7 sat h with⟨Y,l1,I,sat1⟩|⟨Y,l1,I,sat1⟩
  ·rw[if_pos Y];refine nR hτ I sat1 fun v H' OW E V G8 w3 X sat2 hv=>?_;obtain⟨l2,N,sat3⟩:=iJ sat2 X hd hv;exact hKc _ _ (pI hτ hQ r _ _ _ _ _ _ _ _ OV.2 N sat3)
  ·rw[aI (by simp[Y])];obtain⟨l2,N,sat3⟩:=iJ sat1 I hd trivial;exact hKc _ _ (pI hτ hQ r _ _ _ _ _ _ _ _ OV.2 N sat3)
theorem Sub.sat{t:vt}(h:Sub B l nx O J t)(sat:Sat n l H nx iv B w O a J):∃G8,Sat n t.l t.H t.nx t.iv B t.w G8 a J:=by
 obtain⟨G8,I,X⟩:=h;refine⟨G8,I,sat.size,sat.defers,fun u v hv=>?_,fun u v hv=>(X u v hv).1⟩;obtain⟨_,v0,N,h4⟩:=X u v hv;rw[sat.env u v0 N,h4]
theorem gw(hτ:fT P τ):∀(c:Code) (l:Env) (H:Hp) (nx:Nat) (iv:Iv) (w:World) (Q':Ex->KT),mV P τ B c l H nx iv w Q'->codeOk n c=true->
  ∀(O:Nat->dL) (a:Act) (J:World),Sat n l H nx iv B w O a J->∀Q:Exit->Act->World->Prop,(∀e l' H' OW E V G8 a' w3,Q' e l' H' OW E V->Sat n l' H' OW E B V G8 a' w3->Q e.to a' w3)->c.wp P Q a J
 | .skip,l,H,nx,iv,w,Q',h,_,O,a,J,sat,Q,hQ=>wp_skip (hQ .normal _ _ _ _ _ _ _ _ h sat)
 | .region id ops false,l,H,nx,iv,w,Q',h,OV,O,a,J,sat,Q,hQ=>by
  obtain⟨ol⟩:=ops;exact wp_region_lit (pI hτ (fun l' H' OW E V G8 a' w3 R hs=>hQ .normal _ _ _ _ _ _ _ _ R hs) ol _ _ _ _ _ _ _ _ OV h sat)
 | .region id ops true,l,H,nx,iv,w,Q',h,OV,O,a,J,sat,Q,hQ=>
  yB.h h n O a J OV sat Q (fun l' H' OW E V G8 a' w3 R hs=>hQ .normal _ _ _ _ _ _ _ _ R hs) id
 | .seq c d,l,H,nx,iv,w,Q',h,OV,O,a,J,sat,Q,hQ=>by
  simp only[codeOk,aw]at OV;refine wp_seq (gw hτ c _ _ _ _ _ _ h OV.1 O a J sat _ fun e l' H' OW E V G8 a' w3 R hs=>?_)
  cases e with
  |normal=>exact gw hτ d _ _ _ _ _ _ R OV.2 G8 a' w3 hs Q hQ
  |exit id=>exact hQ (.exit id) _ _ _ _ _ _ _ _ R hs
  |ret=>exact hQ .ret _ _ _ _ _ _ _ _ R hs
 | .cond x c d,l,H,nx,iv,w,Q',h,OV,O,a,J,sat,Q,hQ=>by
  simp only[codeOk,aw]at OV;obtain⟨v,I,hv,Qy⟩:=dF sat h;clear Qy;split at I
  ·rename_i t;refine wp_cond_split (t:=t) (by rw[hv];rfl) (fun ht=>?_) (fun ht=>?_)
   ·exact gw hτ c _ _ _ _ _ _ (I.t ht) OV.1 O a J sat Q hQ
   ·exact gw hτ d _ _ _ _ _ _ (I.f ht) OV.2 O a J sat Q hQ
  ·exact I.elim
 | .block id c,l,H,nx,iv,w,Q',h,OV,O,a,J,sat,Q,hQ=>by
  refine wp_block (gw hτ c _ _ _ _ _ _ h OV O a J sat _ fun e l' H' OW E V G8 a' w3 R hs=>?_)
  cases e with
  |normal=>exact hQ .normal _ _ _ _ _ _ _ _ R hs
  |exit id'=>
   simp only[Ex.to,Exit.inBlock]
   simp only at R;split at R
   ·rename_i W;rw[if_pos (eC W)];exact hQ .normal _ _ _ _ _ _ _ _ R hs
   ·rename_i W;rw[aI (fun e=>by subst e;rw[Nat.beq_refl]at W;cases W)];exact hQ (.exit id') _ _ _ _ _ _ _ _ R hs
  |ret=>exact hQ .ret _ _ _ _ _ _ _ _ R hs
 | .loop c,l,H,nx,iv,w,Q',h,OV,O,a,J,sat,Q,hQ=>by
  obtain⟨α,st,μ,A',h0,hr⟩:=h;intro b k U;have key:∀m x O a J,μ x=m->A' x->Sat n (st x).l (st x).H (st x).nx (st x).iv B (st x).w O a J->
    ∃e a' V,Q e a' V/\Arrives P (lone (b.at a (.code c:: .inLoop c::k)) U J) b k U e a' V:=by
   intro m
   induction m using Nat.strongRecOn with
   |_ m ih=>
    intro x O a J hm hI hs;have hc:=gw hτ c _ _ _ _ _ _ (hr x hI) OV O a J hs
     (fun e a2 V=>match e with
      | .normal=>∃y GE,A' y/\Sat n (st y).l (st y).H (st y).nx (st y).iv B (st y).w GE a2 V/\μ y<μ x
      |e=>Q e a2 V) (fun e l' H' OW E V G8 a' w3 R Tj=>by
       cases e with
       |normal=>
        obtain⟨y,hIy,hy,Ou⟩:=R G8 w3 Tj.rel;obtain⟨GE,Q6⟩:=hy.sat Tj;exact⟨y,GE,hIy,Q6,Ou⟩
       |exit id=>exact hQ (.exit id) _ _ _ _ _ _ _ _ R Tj
       |ret=>exact hQ .ret _ _ _ _ _ _ _ _ R Tj)
    obtain⟨e,a₁,w₁,hq,S5⟩:=hc b (.inLoop c::k) U
    cases e with
    |normal=>
     obtain⟨y,GE,hIy,Q6,Ou⟩:=hq;obtain⟨e₂,a₂,w₂,hq₂,harr₂⟩:=ih (μ y) (hm▸Ou) y GE a₁ w₁ rfl hIy Q6;exact⟨e₂,a₂,w₂,hq₂,.of_steps (Steps.trans S5 (.one step_inLoop)) harr₂⟩
    |exit id=>exact⟨_,a₁,w₁,hq,.pass (x:=.inLoop c) rfl (fun _ _=>.inl (by simp)) S5⟩
    |goto l=>exact⟨_,a₁,w₁,hq,.pass (x:=.inLoop c) rfl (fun _ _=>.inl (by simp)) S5⟩
    |ret=>exact⟨_,a₁,w₁,hq,.pass (x:=.inLoop c) rfl (fun _ _=>.inl (by simp)) S5⟩
    |panic ch=>exact⟨_,a₁,w₁,hq,.pass (x:=.inLoop c) rfl (fun _ _=>.inl (by simp)) S5⟩
    |outgrown=>exact⟨_,a₁,w₁,hq,.pass (x:=.inLoop c) rfl (fun _ _=>.inl (by simp)) S5⟩
  obtain⟨x,hIx,L⟩:=h0 O J sat.rel;obtain⟨GE,Q6⟩:=L.sat sat;obtain⟨e,a',V,hq,S5⟩:=key _ x GE a J rfl hIx Q6;exact⟨e,a',V,hq,.of_steps (.one step_loop) S5⟩
 | .exit id,l,H,nx,iv,w,Q',h,_,O,a,J,sat,Q,hQ=>wp_exit (hQ (.exit id) _ _ _ _ _ _ _ _ h sat)
 | .ret,l,H,nx,iv,w,Q',h,_,O,a,J,sat,Q,hQ=>wp_ret (hQ .ret _ _ _ _ _ _ _ _ h sat)
 | .rangeFunc _ _ _ _,l,H,nx,iv,w,Q',h,_,O,a,J,sat,Q,hQ=>h.elim
 | .scope _,l,H,nx,iv,w,Q',h,_,O,a,J,sat,Q,hQ=>h.elim
 | .label _,l,H,nx,iv,w,Q',h,_,O,a,J,sat,Q,hQ=>h.elim
 | .goto _,l,H,nx,iv,w,Q',h,_,O,a,J,sat,Q,hQ=>h.elim
 | .refuse _,l,H,nx,iv,w,Q',h,_,O,a,J,sat,Q,hQ=>h.elim
def iW:Nat->List Value->Env
 |_,[]=>[]
 |k,v::r=>(k,.o (.v v))::iW (k+1) r
theorem sA:∀(vs:List Value) (k t:Nat) (v:SV),fR (iW k vs) t=some v->k<=t/\∃x,v= .o (.v x)/\vs[t-k]? =some x
 |[],k,t,v,h=>by simp[iW,fR]at h
 |x::r,k,t,v,h=>by
  rw[iW,eW]at h;split at h
  ·rename_i e;subst e;injection h with h;subst h;exact⟨Nat.le_refl _,x,rfl,by simp⟩
  ·obtain⟨I,y,X,N⟩:=sA r (k+1) t v h;refine⟨by omega,y,X,?_⟩;rw[show t-k=(t-(k+1))+1 by omega];simpa using N
def De(τ:mn)(B:Nat)(l:Env)(H:Hp)(nx:Nat)(iv:Iv)(w:World):List ResultVar->(List SV->Prop)->Prop
 |[],k=>k []
 | .tmp t::r,k=>match fR l t with
  |some v=>De τ B l H nx iv w r (fun vs=>k (v::vs))
  |none=>False
 | .cell t ty::r,k=>match fR l t with
  |some v=>BE τ B ty v H nx iv w (fun u=>De τ B l H nx iv w r (fun vs=>k (u::vs)))
  |none=>False
def Ja(B:Nat)(H:Hp)(nx:Nat)(iv:Iv)(w:World)(FS:Ending->World->Prop):List SV->Prop
 |[v]=>∀O J,Rel H nx iv B w O J->FS (.returned (v.den O)) J
 |vs=>∀O J,Rel H nx iv B w O J->FS (.returned (.tuple (nP O vs))) J
def NJ(τ:mn)(B:Nat)(rs:List ResultVar)(FS:Ending->World->Prop):Ex->KT
 | .exit _,_,_,_,_,_=>False
 | .normal,l,H,nx,iv,w=>De τ B l H nx iv w rs (Ja B H nx iv w FS)
 | .ret,l,H,nx,iv,w=>De τ B l H nx iv w rs (Ja B H nx iv w FS)
def Jb(tmps:Array Value):ResultVar->Sem Value
 | .tmp t=>pure (tmps.getD t undef)
 | .cell c t=>do loadVar t (<-asAddr (tmps.getD c undef))
theorem uk(hτ:fT P τ)(sat:Sat n l H nx iv B w O a J):∀{rs:List ResultVar} {k:List SV->Prop},De τ B l H nx iv w rs k->
  ∃vs,k vs/\(rs.mapM (Jb a.tmps)).run P J= .ok (vs.map (SV.den O)) J
 |[],k,h=>⟨[],h,by simp⟩
 | .tmp t::r,k,h=>by
  unfold De at h;split at h
  ·rename_i v hv;obtain⟨vs,I,X⟩:=uk hτ sat h;have:=sat.env t v hv;exact⟨v::vs,I,by rw[List.mapM_cons,Sem.run_bind];simp[Jb,this,X]⟩
  ·exact h.elim
 | .cell t ty::r,k,h=>by
  unfold De at h;split at h
  ·rename_i v hv;obtain⟨u,I,hu,WW⟩:=nW hτ sat.rel (sat.sc t v hv) h;have OY:=WW J sat.rel;clear WW;obtain⟨vs,X,N⟩:=uk hτ sat I;have htm:=sat.env t v hv;refine⟨u::vs,X,?_⟩;have:(do loadVar ty (<-asAddr (v.den O)):Sem Value).run P J= .ok (u.den O) J:=by
    revert OY;generalize v.den O=x;intro OY
    cases x with
    |pointer ad=>
     cases ad with
     |some ad=>simpa [asAddr,Instr.loadAt,Instr.sureAddr]using OY
     |none=>simp[Instr.loadAt,Instr.sureAddr]at OY
    |_=>simp[Instr.loadAt,Instr.sureAddr]at OY
   have h4:(Jb a.tmps (.cell t ty)).run P J= .ok (u.den O) J:=by
    have e:a.tmps.getD t undef=v.den O:=by simp[htm]
    show(do loadVar ty (<-asAddr (a.tmps.getD t undef)):Sem Value).run P J=_;rw[e];exact this
   rw[List.mapM_cons,Sem.run_bind,h4];simp[N]
  ·exact h.elim
theorem Df(hτ:fT P τ){f:FuncId}{fn:Func}{c:Code}{args:Array Value}{w:World}(hf:P.funcs[f]? =some fn)(hb:fn.body=some c)
  (Z:args.size<=fn.ntmps) (OV:codeOk fn.ntmps c=true) (h:mV P τ w.heap.size c (iW 0 args.toList) [] 0 [] w (NJ τ w.heap.size fn.results.toList FS)):Calls P f args w FS:=by
 refine calls_of_wp hf hb ?_;have sat:Sat fn.ntmps (iW 0 args.toList) [] 0 [] w.heap.size w (fun _=>⟨0,0,true⟩) {tmps:=args++Array.replicate (fn.ntmps-args.size) undef,defers:=[]} w:=by
  refine⟨Rel.mk' rfl rfl rfl (Nat.le_refl _) (Nat.le_refl _) (by simp) (by simp[cV]) (by simp[cV]) (by simp[cV]) (by simp[cV]) (by simp[cV]) (fun _ _ _=>rfl) (by simp),by simp;omega,rfl,fun t v hv=>?_,fun t v hv=>?_⟩
  ·obtain⟨_,x,rfl,L⟩:=sA _ 0 t v hv;simp only[Nat.sub_zero,bA]at L;rw[Array.getElem?_append_left (ah.1 L).1,L];rfl
  ·obtain⟨_,x,rfl,L⟩:=sA _ 0 t v hv;trivial
 refine gw hτ c _ _ _ _ _ _ h OV _ _ _ sat _ fun e l' H' OW E V G8 a' w3 R hs=>?_;have fin:De τ w.heap.size l' H' OW E V fn.results.toList (Ja w.heap.size H' OW E V FS)->a'.defers=[]/\∃v,(results fn a'.tmps).run P w3= .ok v w3/\FS (.returned v) w3:=by
  intro R;obtain⟨vs,I,X⟩:=uk hτ hs R;refine⟨hs.defers,if Oj:(vs.map (SV.den G8)).toArray.size=1 then(vs.map (SV.den G8)).toArray[0]else .tuple (vs.map (SV.den G8)).toArray,?_,?_⟩
  ·have e:(fn.results.mapM (Jb a'.tmps)).run P w3= .ok (vs.map (SV.den G8)).toArray w3:=by
    rw[Array.mapM_eq_mapM_toList];simp only[Sem.run_map,X,Result.andThen_ok]
   show(do let vs <-fn.results.mapM (Jb a'.tmps);pure (if h:vs.size=1 then vs[0]else .tuple vs):Sem Value).run P w3=_;rw[Sem.run_bind,e];simp only[Result.andThen_ok,Sem.run_pure]
  ·match vs,I with
   |[v],I=>simpa using I G8 w3 hs.rel
   |[],I=>simpa [nP]using I G8 w3 hs.rel
   |v1::v2::r,I=>simpa [nP]using I G8 w3 hs.rel
 cases e with
 |normal=>exact fin R
 |exit id=>exact R.elim
 |ret=>exact fin R
end
section
variable{P:Program}{ops:Array Oper}{Q:Exit->Act->World->Prop}{md:Region.Mode}
def gz(P:Program)(ops:Array Oper)(pu:Bool)(o:Oper)(v:Value)(a:Act)(w:World):Prop:=
 (Region.wanted o (yielded ops a.tmps)=true/\∀V,(pu=true\/Ext w V)->(execOp a.eval o).run P V= .ok (.value v) V)\/
 (Region.wanted o (yielded ops a.tmps)=false/\v=undef)
theorem Ext.refl(w:World):Ext w w:=RowKit.Below.refl _ _
theorem Ext.trans{a b c:World}(h:Ext a b)(k:Ext b c):Ext a c:=RowKit.Below.trans h (k.mono h.size)
theorem gz.wpOp{i:Nat}{o:Oper}{a:Act}(D:ops[i]? =some o)(hy:gz P ops pu o v a w)
  {Fn:Act->World->Prop} (h:Fn (a.put o.dst v) w):wpOp P ops Q i Fn a w:=by
 unfold Go.wpOp;simp only[D]
 rcases hy with⟨Y,hv⟩|⟨Y,rfl⟩
 ·simp only[Y,if_true,Oper.wp,hv w (.inr (Ext.refl w)),Oper.upon];exact .inl h
 ·simp only[Y,Bool.false_eq_true,if_false];exact h
theorem gz.of_same{o:Oper}{a a':Act}(hy:gz P ops pu o v a w)(W:execOp a'.eval o=execOp a.eval o)
  (Y:Region.wanted o (yielded ops a'.tmps)=Region.wanted o (yielded ops a.tmps)):gz P ops pu o v a' w:=by
 unfold gz at*
 rw[W,Y];exact hy
theorem gz.ext{o:Oper}{a:Act}(hy:gz P ops pu o v a w)(e:pu=true\/Ext w V):gz P ops pu o v a V:=
 hy.imp (fun ⟨I,X⟩=>⟨I,fun w3 N=>X w3 (by
  rcases N with N|N
  ·exact .inl N
  ·exact e.imp id (fun e=>e.trans N))⟩) id
theorem ID{oi oj:Oper}{w0:World}(hj:ops[j]? =some oj)(Qz:oi.apart ops oj=true)
  (hsi:∀U b,oi.op≠ .select U b) (hsj:∀U b,oj.op≠ .select U b)
  (hQ:∀c a w,Q (.panic c) (a.put oi.dst v) w->Q (.panic c) a w) {Fn:Act->World->Prop} {a:Act}
  (hy:gz P ops pu oi v a w0) (h:wpOp P ops Q j Fn (a.put oi.dst v) w):
  wpOp P ops Q j (fun a' J=>gz P ops pu oi v a' w0/\Fn (a'.put oi.dst v) J) a w:=by
 obtain⟨I,X,N⟩:=Oper.apart_spec Qz;have cC:∀(a:Act),gz P ops pu oi v a w0->∀u,gz P ops pu oi v (a.put oj.dst u) w0:=fun a hy u=>
  hy.of_same (execOp_put oi hsi a oj.dst u N) (wanted_put oi a oj.dst u N)
 have keepD:∀d,gz P ops pu oi v {a with defers:=d::a.defers} w0:=fun d=>hy.of_same rfl rfl;unfold wpOp at*
 simp only[hj]at*
 rw[wanted_put oj a oi.dst v I]at h;split
 ·rename_i Y;simp only[Y,if_true]at h;rcases h with h|⟨S6,Uk⟩
  case inr=>exact .inr ⟨by unfold Oper.asks at *;rw[execOp_put oj hsj a oi.dst v I]at S6;exact S6,Uk⟩
  refine .inl ?_;unfold Oper.wp at*
  rw[execOp_put oj hsj a oi.dst v I]at h;generalize (execOp a.eval oj).run P w=r at*
  cases r with
  |ok n J=>
   cases n<;>simp only[Oper.upon]at h ⊢
   case value u=>exact⟨cC a hy u,by rw[<-Act.put_comm a v u X];exact h⟩
   case skip=>exact⟨cC a hy _,by rw[<-Act.put_comm a v undef X];exact h⟩
   case defer d=>
    refine⟨cC _ (keepD d) _,?_⟩;rw[<-Act.put_comm _ v undef X,<-Act.put_defers];exact h
   case enter f args=>
    refine Calls.mono h fun e w'' W=>?_
    cases e with
    |returned u=>exact⟨cC a hy u,by rw[<-Act.put_comm a v u X];exact W⟩
    |panicked c=>exact hQ _ _ _ W
    |outgrown=>exact W
   case row row args=>exact Rows.mono h fun u w'' W=>⟨cC a hy u,by rw[<-Act.put_comm a v u X];exact W⟩
  |halt x J=>
   cases x<;>simp only[Oper.upon]at h ⊢
   case panic u=>exact hQ _ _ _ h
 ·rename_i Y;simp only[Y]at h;exact⟨cC a hy _,by rw[<-Act.put_comm a v undef X];exact h⟩
def rC(o:Oper):Bool:= !(uc o.op||La o.op||(match o.op with
 | .call ⟨.value _,_,_⟩=> !(Nat.beq o.type 0)
 |_=>false))
def fk(o:Oper):Bool:=match o.op with
 | .call ⟨.value _,_,_⟩=>Nat.beq o.type 0
 |_=>false
theorem rn{o:Oper}(h:uc o.op=true):fk o=false:=by
 unfold fk;split
 ·rename_i e;rw[e]at h
  cases h
 ·rfl
theorem FO{o:Oper}(h:La o.op=true):fk o=false:=by
 unfold fk;split
 ·rename_i e;rw[e]at h
  cases h
 ·rfl
theorem rL{o:Oper}(h:rC o=false):fk o=false:=by
 unfold fk;split
 ·rename_i e;simp only[rC,e,uc,La,Bool.false_or,Bool.not_not]at h;exact h
 ·rfl
def uf(P:Program)(md:Region.Mode)(ops:Array Oper)(Q:Exit->Act->World->Prop):Nat->Array Bool->Act->World->Prop
 |0,listed,a,w=>Region.ready md ops listed=[]/\Q .normal a w
 |fuel+1,listed,a,w=>
  (Region.ready md ops listed=[]->Q .normal a w)/\
  ∀i∈Region.ready md ops listed,wpOp P ops Q i (fun a' J=>((∀o,ops[i]? =some o->rC o=false)->Ext w J)/\uf P md ops Q fuel (listed.setIfInBounds i true) a' J) a w
theorem yC:∀(fuel:Nat) (listed:Array Bool) (a:Act) (w:World),uf P md ops Q fuel listed a w->wpAny P md ops Q fuel listed a w
 |0,_,_,_,h=>h
 |fuel+1,_,_,_,h=>⟨h.1,fun i D=>wpOp_mono (fun a' J h'=>yC fuel _ a' J h'.2) (h.2 i D)⟩
theorem sq{i:Nat}{oi:Oper}(D:ops[i]? =some oi)(Ox:∀(j:Nat) (o:Oper) U b,ops[j]? =some o->o.op≠ .select U b)
  (hQ:∀c a w,Q (.panic c) (a.put oi.dst v) w->Q (.panic c) a w) (oz:Nat->Prop) (S4:∀j,oz j->∃oj e,ops[j]? =some oj/\e∈oj.after/\Region.binds md e=true/\(e.on=i\/oz e.on)):
  ∀(fuel:Nat) (listed:Array Bool) (a:Act) (w:World),(∀j,oz j->listed.getD j false=false)->
   (∀j oj,ops[j]? =some oj->j≠i->listed.getD j true=false->¬oz j->oi.apart ops oj=true/\(pu=true\/rC oj=false))->
   i∈Region.ready md ops listed->gz P ops pu oi v a w->
   uf P md ops Q fuel (listed.setIfInBounds i true) (a.put oi.dst v) w->uf P md ops Q (fuel+1) listed a w:=by
 intro fuel
 induction fuel with
 |zero=>
  intro listed a w _ _ hr hy H;refine⟨fun h=>(by rw[h]at hr;cases hr),fun j hj=>?_⟩;by_cases PM:j=i
  ·subst PM;exact hy.wpOp D ⟨fun _=>Ext.refl w,H⟩
  ·have:=ready_mono hj PM;rw[H.1]at this
   cases this
 |succ fuel ih=>
  intro listed a w QL RH hr hy H;refine⟨fun h=>(by rw[h]at hr;cases hr),fun j hj=>?_⟩;by_cases PM:j=i
  ·subst PM;exact hy.wpOp D ⟨fun _=>Ext.refl w,H⟩
  ·have I:=H.2 j (ready_mono hj PM);obtain⟨Ul,oj,Qx,Qd⟩:=mem_ready.1 hj;have Px:¬oz j:=fun hb=>by
    obtain⟨oj',e,Rv,W,hbi,UY⟩:=S4 j hb;rw[Qx]at Rv;injection Rv with Rv;subst Rv;have I:=Qd e W hbi;rcases UY with heq|Qo
    ·have h0:=(mem_ready.1 hr).1;rw[heq]at I;rcases aP i listed.size with h'|h'
     ·simp[h']at h0 I;rw[h0]at I;cases I
     ·simp[Array.getElem?_eq_none h']at I
    ·rw[QL _ Qo]at I;cases I
   have Ss:=RH j oj Qx PM Ul Px;have X:=ID Qx Ss.1 (fun U b=>Ox i oi U b D) (fun U b=>Ox j oj U b Qx) hQ hy I;have hbl':∀k,oz k->(listed.setIfInBounds j true).getD k false=false:=fun k R=>by
    rw[getD_set_ne false (fun e=>(by subst e;exact Px R))];exact QL k R
   have TH:∀k ok,ops[k]? =some ok->k≠i->(listed.setIfInBounds j true).getD k true=false->
     ¬oz k->oi.apart ops ok=true/\(pu=true\/rC ok=false):=fun k ok R VU Ue Rx=>by
    refine RH k ok R VU ?_ Rx;by_cases Rz:j=k
    ·subst Rz;exact Ul
    ·rw[getD_set_ne true Rz]at Ue;exact Ue
   refine wpOp_mono (fun a' J N=>?_) X;have SG:rC oj=false->Ext w J:=fun hf=>N.2.1 (fun o ho=>by rw[Qx]at ho;injection ho with ho;subst ho;exact hf);refine⟨fun hh=>SG (hh oj Qx),ih (listed.setIfInBounds j true) a' J hbl' TH (ready_mono hr (Ne.symm PM)) (N.1.ext (Ss.2.imp id SG)) ?_⟩;rw[Array.setIfInBounds_comm _ _ PM];exact N.2.2
end
section
variable{P:Program}{τ:mn}{B n nx:Nat}{l:Env}{H:Hp}{iv:Iv}{w J:World}{O:Nat->dL}{a:Act}
def AL(P:Program)(o:Oper)(a:Act)(mk:Nat->Value)(obj:Obj):Prop:=
 ∀w:World,(execOp a.eval o).run P w= .ok (.value (mk w.heap.size)) (w.alloc obj)
theorem AL.uniq{o:Oper}{mk':Nat->Value}{obj':Obj}(h:AL P o a mk obj)(h':AL P o a mk' obj'):obj=obj'/\mk=mk':=by
 have key:∀w:World,mk w.heap.size=mk' w.heap.size/\w.alloc obj=w.alloc obj':=fun w=>by
  have:=(h w).symm.trans (h' w);injection this with I X;injection I with I;exact⟨I,X⟩
 refine⟨?_,funext fun g=>?_⟩
 ·have:=(key default).2;have X:=congrArg (fun w:World=>w.heap[(default:World).heap.size]?) this;simp only[heap_alloc_new]at X;injection X
 ·have:=(key {(default:World)with heap:=Array.replicate g default}).1;simpa using this
theorem nQ(hτ:fT P τ){o:Oper}(h:xu dr P τ B o l H nx iv w Fn)(sat:Sat n l H nx iv B w O a J)(R:La o.op=true):
  ∃b v mk obj,Fn v ((nx,b)::H) (nx+1) iv w/\b≠ .dead/\b.scopd nx/\v.sc (nx+1)/\(∀g,v.den (fh O nx ⟨g,0,false⟩)=mk g)/\(∀g V,V.heap[g]? =some obj->b.fits O ⟨g,0,false⟩ V)/\AL P o a mk obj:=by
 obtain⟨dst,op,ty,pos,after,guard⟩:=o;unfold xu at h;split at h<;>first|(exact False.elim h)|(rename_i Tf;simp only at Tf;subst Tf)
 all_goals first|(exact absurd R Bool.false_ne_true)|skip
 ·rename_i t;split at h
  ·rename_i sz ag by_ ze tag ik e al fs QX;have hK:=fW h;refine⟨_,_,fun g=>.pointer (some ⟨g,0,none⟩),.cells ze.toArray t,hK,by simp,(fun c hc=>by obtain⟨v,_,rfl⟩:=aR.1 hc;trivial),by simp[SV.sc,At.sc],fun g=>by simp[SV.den,At.den],fun g V G=>⟨rfl,by rw[fU];exact G⟩,fun w=>?_⟩;obtain⟨z,Ol,Pg⟩:=(hτ t _ QX).zeroV w;simp only at Pg;have hzz:z.cells=ze.toArray:=by apply Array.ext';simpa using Pg
   simp[execOp,Instr.alloc,Ol,newVar,newRow,hzz]
  ·exact h.elim
 ·rename_i t x;obtain⟨v,I,hv,hs⟩:=dF sat h;obtain⟨U,hK,PJ,Rg⟩:=lj I;refine⟨_,_,fun g=>.pointer (some ⟨g,0,none⟩),.cells (U.map (At.den O)).toArray t,hK,by simp,Rg nx hs,by simp[SV.sc,At.sc],fun g=>by simp[SV.den,At.den],fun g V G=>⟨rfl,G⟩,fun w=>?_⟩;simp[execOp,Instr.box,hv,newVar,newRow,PJ O]
 ·rename_i t m parts;split at h
  ·rename_i sz ag by_ ze tag ik e al fs QX;have ht:=hτ t _ QX;split at h
   ·rename_i On;have hu:=ht.i4 (eC On);simp only at hu;split at h
    ·rename_i sz' ag' by' ze' tag' ik' e' al' fs' PW
     have PW:=hτ e _ PW;obtain⟨inf,z,D,Oj,Oq,hz,RV⟩:=PW.info;have Re:=PW.Hq;simp only at Oj Oq RV Re;split at h
     ·rename_i hle;have hle:=Nat.le_of_ble_eq_true hle;have h0:=fW h;obtain⟨cs',hK,Ok,hlen,Pq⟩:=kD sat (placeF:=fun i=>some (i*inf.size,inf.size)) (fun i k R=>⟨i*sz',sz',R,by rw[Oj]⟩) h0
       (fun c hc=>by obtain⟨v,_,rfl⟩:=aR.1 hc;trivial)
      rw[fU]at Pq;have Qs:z.cells=ze'.toArray:=by apply Array.ext';simpa using RV
      have Uj:((List.replicate m ze').flatten).toArray=madeCells z.cells (m*inf.size):=by
       rw[Qs,Oj,<-Re];exact(q9 ze' m).symm
      refine⟨_,_,fun g=>.slice (some ⟨g,0,none⟩) m m,.cells (cs'.map (At.den O)).toArray e,hK,by simp,Ok,by simp[SV.sc,At.sc],fun g=>by simp[SV.den,At.den],fun g V G=>⟨rfl,G⟩,fun w=>?_⟩;simp only[execOp]
      refine lk ?_;rw[Uj]at Pq;by_cases PI:m*inf.size=0
      ·have R0:Instr.fill (fun i=>some (i*inf.size,inf.size)) (madeCells z.cells 0) (parts.toList.map fun p=>(p.1,a.eval p.2))=some (cs'.map (At.den O)).toArray:=by rw[PI]at Pq;exact Pq
       have e0:madeCells z.cells 0= #[]:=by simp[madeCells]
       rw[e0]at R0;have er:Array.range 0= #[]:=rfl;simp[Instr.buildSlice,run_underlying hu,sizeOf,typeInfo,zeroValue,D,hz,PI,newRow,R0,er]
      ·exact run_buildSlice w t e m _ _ inf z hu D hz (by rw[Oj];omega) PI (by rw[<-Pq];simp[madeCells])
     ·exact h.elim
    ·exact h.elim
   ·exact h.elim
  ·exact h.elim
 ·rename_i t x y;obtain⟨v,I,hv,Qy⟩:=dF sat h;obtain⟨u,X,hu,hus⟩:=dF sat I;clear Qy hus;unfold Gy at X;split at X
  ·rename_i k1 a1 k2 b1;split at X
   ·rename_i sz ag by_ ze tag ik e al fs QX;have ht:=hτ t _ QX;split at X
    ·rename_i On;have hut:=ht.i4 (eC On);simp only at hut;split at X
     ·rename_i sz' ag' by' ze' tag' ik' e' al' fs' PW
      have PW:=hτ e _ PW;obtain⟨inf,z,D,Oj,Oq,hz,RV⟩:=PW.info;simp only at Oj Oq RV;obtain⟨m,c,rfl,rfl,Vl,hbytes,h63,N⟩:=X;have Pk:(inf.bytes:Int)*(c:Int)<=281474976710656:=by
       rw[Oq];have Qo:((by'*c:Nat):Int)<=281474976710656:=by omega
       rwa [Int.natCast_mul]at Qo
      have OY:=fun w:World=>run_make (P:=P) w t e inf z hut D hz k1 k2 (m:Int) (c:Int) (by omega) (by omega) Pk (by omega);simp only[aF]at OY;have Re:=PW.Hq;simp only at Re;have Qs:z.cells=ze'.toArray:=by apply Array.ext';simpa using RV
      have fin:∀U:List Value,U.toArray=madeCells z.cells (c*inf.size)->AU (.arr e U) H nx (fun H' OW=>Fn (.o (.s nx 0 m c)) H' OW iv w)->
        ∃b v mk obj,Fn v ((nx,b)::H) (nx+1) iv w/\b≠ .dead/\b.scopd nx/\v.sc (nx+1)/\(∀g,v.den (fh O nx ⟨g,0,false⟩)=mk g)/\(∀g V,V.heap[g]? =some obj->b.fits O ⟨g,0,false⟩ V)/\
         AL P ⟨dst,.makeSlice t x y,ty,pos,after,guard⟩ a mk obj:=by
       intro U Ok hK;refine⟨_,_,fun g=>.slice (some ⟨g,0,none⟩) m c,.cells U.toArray e,hK,by simp,trivial,by simp[SV.sc,At.sc],fun g=>by simp[SV.den,At.den],fun g V G=>⟨rfl,G⟩,fun w=>?_⟩;simp only[execOp,hv,hu]
       refine lk ?_;rw[show SV.den O (.o (.v (.int k1 m)))= .int k1 m from rfl,show SV.den O (.o (.v (.int k2 c)))= .int k2 c from rfl,OY w,Ok]
      split at N
      ·rename_i z0;refine fin _ ?_ N;have:inf.size=1:=by rw[Oj,<-Re];rfl
       rw[this,aY,Qs,Dc]
      ·refine fin _ ?_ N;rw[Oj,<-Re,Qs,q9]
     ·exact X.elim
    ·exact X.elim
   ·exact X.elim
  ·exact X.elim
end
inductive It where
 |x (i:Nat)
 |p (i:Nat)
def DT:Env->Nat->(Env->Prop)->Prop
 |[],_,k=>k []
 |(t,v)::r,u,k=>match Nat.beq t u with
  |true=>DT r u k
  |false=>DT r u (fun r'=>k ((t,v)::r'))
def aAO(d:Option Tmp)(l:Env)(k:Env->Prop):Prop:=match d with
 |some t=>DT l t k
 |none=>k l
def rf:List Oper->Nat->(Oper->Prop)->Prop
 |[],_,_=>False
 |o::_,0,k=>k o
 |_::r,n+1,k=>rf r n k
def JK(P:Program)(τ:mn)(B:Nat)(all:List Oper):List It->Env->Hp->Nat->Iv->World->KT->Prop
 |[],l,H,nx,iv,w,Fn=>Fn l H nx iv w
 | .x i::r,l,H,nx,iv,w,Fn=>rf all i (fun o=>gv (!fk o) P τ B all o l H nx iv w (fun l' H' OW E J=>JK P τ B all r l' H' OW E J Fn))
 | .p i::r,l,H,nx,iv,w,Fn=>rf all i (fun o=>xu true P τ B o l H nx iv w (fun _ _ _ _ _=>aAO o.dst l (fun l'=>JK P τ B all r l' H nx iv w Fn)))
def Hl(ops:Array Oper)(o:Oper)(j:Nat):Bool:=match ops[j]? with
 |some oj=>o.apart ops oj
 |none=>false
def DU(la:Array Bool):List Nat->Array Bool
 |[]=>la
 |i::r=>DU (la.setIfInBounds i true) r
def tb(m j:Nat):Bool:=Nat.beq ((m >>> j) % 2) 1
def iU:List Bool->Nat->Nat
 |[],_=>0
 |true::r,j=>(1 <<< j) ||| iU r (j+1)
 |false::r,j=>iU r (j+1)
def AS(m i:Nat):List Oper->Nat->Nat->Nat
 |[],_,b=>b
 |o::r,j,b=>match(!tb m j&& !Nat.beq j i)&&o.after.toList.any (fun e=>Region.binds .any e&&(Nat.beq e.on i||tb b e.on))with
  |true=>AS m i r (j+1) (b ||| (1 <<< j))
  |false=>AS m i r (j+1) b
def Gu(ops:Array Oper)(m i:Nat)(oi:Oper)(b:Nat):List Oper->Nat->Bool
 |[],_=>true
 |oj::r,j=>(Nat.beq j i||tb m j||tb b j||(oi.apart ops oj&&(Hm oi.op|| !rC oj)))&&Gu ops m i oi b r (j+1)
def Mf(ops:Array Oper)(m:Nat)(Pd:List Nat)(i:Nat)(oi:Oper)(b:Nat):Bool:=Pd.all (fun j=> !tb b j)&&Gu ops m i oi b ops.toList 0
def Gv(ops:Array Oper)(m:Nat)(Pd:List Nat)(i:Nat)(oi:Oper):Bool:=Mf ops m Pd i oi (AS m i ops.toList 0 0)
def oy(ops:Array Oper):List It->Array Bool->List Nat->Bool
 |[],lx,Pd=>(Region.ready .any ops lx).isEmpty&&Pd.isEmpty
 | .p i::r,lx,Pd=>match ops[i]? with
  |none=>false
  |some o=>La o.op&&o.guard.isNone&&(match o.dst with
     |some d=> !(o.looksAt ops).contains d
     |none=>false)&&(!lx.getD i true)&&Pd.all (fun j=> !Nat.beq j i)&&
    Pd.all (fun j=>Hl ops o j&&(match ops[j]? with
     |some oj=>oj.apart ops o
     |none=>false))&&oy ops r lx (i::Pd)
 | .x i::r,lx,Pd=>match ops[i]? with
  |none=>false
  |some o=>(o.guard.isNone||Pd.isEmpty)&&(Region.ready .any ops lx).contains i&&
    Pd.all (fun j=>Nat.beq j i||Hl ops o j)&&
    (match uc o.op with
     |true=>Gv ops (iU lx.toList 0) Pd i o
     |false=>(!rC o||Pd.isEmpty)&&(Region.ready .any ops (DU lx (Pd.filter fun j=> !Nat.beq j i))).all (fun j=>Nat.beq j i))&&
    oy ops r (lx.setIfInBounds i true) (Pd.filter fun j=> !Nat.beq j i)
theorem mo(h:j<la.size)(b c:Bool):la.getD j b=la.getD j c:=by
 rw[au,au,Array.getElem?_eq_getElem h];rfl
theorem mq{a b:Nat}:Nat.beq a b=false↔a≠b:=⟨fun h e=>(by subst e;rw[Nat.beq_refl]at h;cases h),fun h=>by
 cases hb:Nat.beq a b with
 |false=>rfl
 |true=>exact absurd (eC hb) h⟩
theorem JL{a b:Nat}(h:b<a):Nat.ble a b=false:=by
 cases hb:Nat.ble a b with
 |false=>rfl
 |true=>exact absurd (Nat.le_of_ble_eq_true hb) (by omega)
theorem rh(m j:Nat):tb m j=m.testBit j:=by
 rw[Nat.testBit_eq_decide_div_mod_eq,tb,Nat.shiftRight_eq_div_pow]
 cases h:decide (m / 2^j % 2=1)with
 |true=>rw[aK h];rfl
 |false=>exact mq.2 (aH h)
theorem DV(a b j:Nat):tb (a ||| b) j=(tb a j||tb b j):=by rw[rh,rh,rh,Nat.testBit_or]
theorem FK(i j:Nat):tb (1 <<< i) j=Nat.beq j i:=by
 rw[rh,Nat.one_shiftLeft,Nat.testBit_two_pow]
 cases h:Nat.beq j i with
 |true=>exact bU (eC h).symm
 |false=>exact bE fun e=>(mq.1 h) e.symm
theorem sn(j:Nat):tb 0 j=false:=by rw[rh,Nat.zero_testBit]
theorem DW:∀(l:List Bool) (k j:Nat),tb (iU l k) j=(Nat.ble k j&&l.getD (j-k) false)
 |[],k,j=>by unfold iU;rw[sn];simp
 |b::r,k,j=>by
  have e:tb (iU (b::r) k) j=((b&&Nat.beq j k)||tb (iU r (k+1)) j):=by
   cases b<;>simp only[iU,DV,FK,Bool.false_and,Bool.true_and,Bool.false_or]
  rw[e,DW r (k+1) j];rcases bp j k with h|h|h
  ·rw[mq.2 (by omega),Bool.and_false,Bool.false_or,JL (by omega),JL (by omega)];rfl
  ·subst h;rw[Nat.beq_refl,JL (by omega),Nat.ble_eq_true_of_le (Nat.le_refl j),bB];simp
  ·rw[mq.2 (by omega),Bool.and_false,Bool.false_or,Nat.ble_eq_true_of_le (show k+1<=j from h),Nat.ble_eq_true_of_le (Nat.le_of_lt h),show j-k=(j-(k+1))+1 by omega,List.getD_cons_succ]
def Rm(lx:Array Bool)(m:Nat):Prop:=∀j,tb m j=lx.getD j false
theorem xT(lx:Array Bool):Rm lx (iU lx.toList 0):=fun j=>by
 rw[DW,show Nat.ble 0 j=true from Nat.ble_eq_true_of_le (aS j),Bool.true_and,Nat.sub_zero,au,List.getD,bA]
theorem Rm.eq{m':Nat}(h:Rm lx m)(h':Rm lx m'):m=m':=Nat.eq_of_testBit_eq fun j=>by rw[<-rh,<-rh,h,h']
theorem mr{ops:Array Oper}{m i:Nat}:∀(l:List Oper) (k b:Nat),(∀n o,l[n]? =some o->ops[k+n]? =some o)->
  (∀j,tb b j=true->tb m j=false/\j≠i/\∃oj e,ops[j]? =some oj/\e∈oj.after/\Region.binds .any e=true/\(e.on=i\/∃b2,tb b2 e.on=true/\b2=b))->
  ∀j,tb (AS m i l k b) j=true->tb m j=false/\j≠i/\∃oj e,ops[j]? =some oj/\e∈oj.after/\Region.binds .any e=true/\(e.on=i\/tb (AS m i l k b) e.on=true)
 |[],k,b,_,h,j,hj=>by
  obtain⟨I,X,oj,e,N,h4,h5,h6⟩:=h j hj;exact⟨I,X,oj,e,N,h4,h5,h6.imp id fun⟨_,h7,h8⟩=>h8▸h7⟩
 |o::r,k,b,hl,h,j,hj=>by
  have hr:∀n o',r[n]? =some o'->ops[k+1+n]? =some o':=fun n o' Z=>by
   have:=hl (n+1) o' (by simpa using Z)
   rwa [show k+(n+1)=k+1+n by omega]at this
  unfold AS at hj ⊢
  cases hc:((!tb m k&& !Nat.beq k i)&&o.after.toList.any (fun e=>Region.binds .any e&&(Nat.beq e.on i||tb b e.on)))with
  |false=>
   rw[hc]at hj;exact mr r (k+1) b hr h j hj
  |true=>
   rw[hc]at hj;refine mr r (k+1) (b ||| (1 <<< k)) hr (fun j hj=>?_) j hj;rw[DV,FK,Bool.or_eq_true]at hj;rcases hj with hj|hj
   ·obtain⟨I,X,oj,e,N,h4,h5,h6⟩:=h j hj;refine⟨I,X,oj,e,N,h4,h5,h6.imp id fun⟨b2,h7,h8⟩=>⟨_,?_,rfl⟩⟩;rw[DV,<-h8,h7];rfl
   ·have hj:=eC hj;subst hj;simp only[aw,Bool.not_eq_true',List.any_eq_true]at hc;obtain⟨⟨I,X⟩,e,W,N,h4⟩:=hc;refine⟨I,mq.1 X,o,e,by have:=hl 0 o (by simp);simpa using this,by simpa using W,N,?_⟩;rw[Bool.or_eq_true]at h4;exact h4.imp eC fun h5=>⟨_,by rw[DV,h5];rfl,rfl⟩
theorem xw{ops:Array Oper}{m i:Nat}{oi:Oper}{b:Nat}:∀(l:List Oper) (k:Nat),Gu ops m i oi b l k=true->∀n oj,l[n]? =some oj->k+n≠i->tb m (k+n)=false->tb b (k+n)=false->oi.apart ops oj=true/\(Hm oi.op=true\/rC oj=false)
 |[],_,_,n,oj,Z,_,_,_=>by simp at Z
 |o::r,k,h,n,oj,Z,I,X,N=>by
  unfold Gu at h;rw[aw]at h
  cases n with
  |zero=>
   rw[List.getElem?_cons_zero]at Z;injection Z with Z;subst Z;rw[bj]at I X N;rw[mq.2 I,X,N]at h;simpa using h.1
  |succ n=>
   rw[List.getElem?_cons_succ]at Z;rw[show k+(n+1)=k+1+n by omega]at I X N;exact xw r (k+1) h.2 n oj Z I X N
theorem FL{ops:Array Oper}{i:Nat}{oi:Oper}(h:Gv ops (iU lx.toList 0) Pd i oi=true)(hs:lx.size=ops.size):∃oz:Nat->Prop,
  (∀j,oz j->∃oj e,ops[j]? =some oj/\e∈oj.after/\Region.binds .any e=true/\(e.on=i\/oz e.on))/\(∀j,oz j->lx.getD j false=false)/\(∀j∈Pd,¬oz j)/\
  ∀j oj,ops[j]? =some oj->j≠i->lx.getD j true=false->¬oz j->oi.apart ops oj=true/\(Hm oi.op=true\/rC oj=false):=by
 unfold Gv Mf at h;rw[aw]at h;have hm:=xT lx;have hb:=mr (ops:=ops) (m:=iU lx.toList 0) (i:=i) ops.toList 0 0 (fun n o Z=>by rw[aV];rwa [bA]at Z) (fun j hj=>by rw[sn]at hj;cases hj);generalize AS (iU lx.toList 0) i ops.toList 0 0=b at*
 refine⟨fun j=>tb b j=true,fun j hj=>(hb j hj).2.2,fun j hj=>(hm j).symm.trans (hb j hj).1,fun j hj R=>?_,fun j oj Qx PM hl R=>?_⟩
 ·have:=List.all_eq_true.1 h.1 j hj;rw[R]at this;cases this
 ·have hj:=(ah.1 Qx).1;exact xw ops.toList 0 h.2 j oj (by rw[bA];exact Qx) (by omega) (by rw[aV,hm,mo (by omega) false true];exact hl) (by rw[aV];simpa using R)
def DX(m:Nat):List Oper->Nat->List Nat
 |[],_=>[]
 |o::r,j=>match !tb m j&&o.after.toList.all (fun e=> !Region.binds .any e||tb m e.on)with
  |true=>j::DX m r (j+1)
  |false=>DX m r (j+1)
def sm(n m i:Nat):Nat:=match Nat.blt i n with
 |true=>m ||| (1 <<< i)
 |false=>m
def lsm(n:Nat)(m:Nat):List Nat->Nat
 |[]=>m
 |i::r=>lsm n (sm n m i) r
def FM(ops:Array Oper)(n:Nat):List It->Nat->List Nat->Bool
 |[],m,Pd=>(DX m ops.toList 0).isEmpty&&Pd.isEmpty
 | .p i::r,m,Pd=>match ops[i]? with
  |none=>false
  |some o=>La o.op&&o.guard.isNone&&(match o.dst with
     |some d=> !(o.looksAt ops).contains d
     |none=>false)&&(Nat.blt i n&& !tb m i)&&Pd.all (fun j=> !Nat.beq j i)&&
    Pd.all (fun j=>Hl ops o j&&(match ops[j]? with
     |some oj=>oj.apart ops o
     |none=>false))&&FM ops n r m (i::Pd)
 | .x i::r,m,Pd=>match ops[i]? with
  |none=>false
  |some o=>(o.guard.isNone||Pd.isEmpty)&&(DX m ops.toList 0).contains i&&
    Pd.all (fun j=>Nat.beq j i||Hl ops o j)&&
    (match uc o.op with
     |true=>Gv ops m Pd i o
     |false=>(!rC o||Pd.isEmpty)&&(DX (lsm n m (Pd.filter fun j=> !Nat.beq j i)) ops.toList 0).all (fun j=>Nat.beq j i))&&
    FM ops n r (sm n m i) (Pd.filter fun j=> !Nat.beq j i)
theorem Gw{ops:Array Oper}{lx:Array Bool}{m:Nat}(hR:Rm lx m)(hs:lx.size=ops.size):∀(l:List Oper) (k:Nat),(∀n,n<l.length->ops[k+n]? =l[n]?)->k+l.length<=ops.size->
  DX m l k=(List.range' k l.length).filter fun i=> !lx.getD i true&&((ops[i]?).map (·.after.all fun e=> !Region.binds .any e||lx.getD e.on false)).getD false
 |[],_,_,_=>rfl
 |o::r,k,h,R=>by
  rw[List.length_cons]at R
  have ih:=Gw hR hs r (k+1) (fun n Z=>by
   have:=h (n+1) (by simpa using Z)
   rw[show k+1+n=k+(n+1) by omega,this,List.getElem?_cons_succ]) (by omega)
  have h0:ops[k]? =some o:=by have:=h 0 (by simp);simpa using this
  rw[List.length_cons,List.range'_succ,List.filter_cons,<-ih];have e:(!lx.getD k true&&((ops[k]?).map (·.after.all fun e=> !Region.binds .any e||lx.getD e.on false)).getD false)=(!tb m k&&o.after.toList.all fun e=> !Region.binds .any e||tb m e.on):=by
   rw[h0,hR k,mo (by omega) true false,bY,Option.getD_some,Array.all_toList];simp only[hR _]
  rw[e,DX]
  cases (!tb m k&&o.after.toList.all fun e=> !Region.binds .any e||tb m e.on)<;>rfl
theorem FN{ops:Array Oper}(hR:Rm lx m)(hs:lx.size=ops.size):DX m ops.toList 0=Region.ready .any ops lx:=by
 rw[Gw hR hs ops.toList 0 (fun n _=>by rw[aV,bA]) (by simp)];unfold Region.ready;rw[List.range_eq_range',Array.length_toList]
theorem Rm.set(hR:Rm lx m)(i:Nat):Rm (lx.setIfInBounds i true) (sm lx.size m i):=fun j=>by
 unfold sm;rw[au,Array.getElem?_setIfInBounds]
 cases h:Nat.blt i lx.size with
 |true=>
  have h:=Nat.le_of_ble_eq_true h;show tb (m ||| (1 <<< i)) j=_;rw[DV,FK];by_cases PH:i=j
  ·rw[if_pos PH,if_pos (by omega),PH,Nat.beq_refl,Bool.or_true];rfl
  ·rw[aI PH,mq.2 (Ne.symm PH),Bool.or_false,hR,au]
 |false=>
  show tb m j=_;have h:¬i<lx.size:=fun X=>by rw[show Nat.blt i lx.size=true from Nat.ble_eq_true_of_le X]at h;cases h
  by_cases PH:i=j
  ·rw[if_pos PH,aI h,hR,au,<-PH,Array.getElem?_eq_none (by omega)]
  ·rw[aI PH,hR,au]
theorem JM:∀(r:List Nat) (lx:Array Bool),(DU lx r).size=lx.size
 |[],_=>rfl
 |i::r,lx=>by unfold DU;rw[JM r,bT]
theorem Rm.DU{n:Nat}:∀(r:List Nat) (lx:Array Bool) (m:Nat),lx.size=n->Rm lx m->Rm (DU lx r) (lsm n m r)
 |[],_,_,_,h=>h
 |i::r,lx,m,Z,h=>by
  unfold Go.Sx.DU lsm;exact Rm.DU r _ _ (by rw[bT];exact Z) (Z▸h.set i)
theorem CB{ops:Array Oper}:∀(π:List It) (lx:Array Bool) (m:Nat) (Pd:List Nat),lx.size=ops.size->Rm lx m->FM ops ops.size π m Pd=oy ops π lx Pd
 |[],lx,m,Pd,hs,h=>by unfold FM oy;rw[FN h hs]
 | .p i::r,lx,m,Pd,hs,h=>by
  unfold FM oy
  cases ho:ops[i]? with
  |none=>rfl
  |some o=>
   have D:=(ah.1 ho).1;simp only[CB r lx m (i::Pd) hs h,h i,mo (show i<lx.size by omega) true false,show Nat.blt i ops.size=true from Nat.ble_eq_true_of_le D,Bool.true_and]
 | .x i::r,lx,m,Pd,hs,h=>by
  unfold FM oy
  cases ho:ops[i]? with
  |none=>rfl
  |some o=>
   obtain rfl:=h.eq (xT lx);have I:=CB r (lx.setIfInBounds i true) (sm ops.size (iU lx.toList 0) i) (Pd.filter fun j=> !Nat.beq j i) (by rw[bT];exact hs) (hs▸h.set i);have X:=FN (Rm.DU (n:=ops.size) (Pd.filter fun j=> !Nat.beq j i) lx (iU lx.toList 0) hs h) (by rw[JM];exact hs);simp only[I,X,FN h hs]
theorem eQ{ops:Array Oper}:j∈Region.ready .any ops la↔
  la[j]? =some false/\∃o,ops[j]? =some o/\∀e∈o.after,Region.binds .any e=true->la[e.on]? =some true:=by
 rw[mem_ready];have I:la.getD j true=false↔la[j]? =some false:=by
  rw[au]
  cases la[j]? with
  |none=>simp
  |some b=>simp
 have X:∀k,la.getD k false=true↔la[k]? =some true:=fun k=>by
  rw[au]
  cases la[k]? with
  |none=>simp
  |some b=>simp
 simp only[I,X]
theorem pA{i:Nat}:(la.setIfInBounds i true)[j]? =some true↔la[j]? =some true\/(j=i/\j<la.size):=by
 rw[Array.getElem?_setIfInBounds];split
 ·rename_i h;subst h;by_cases hs:i<la.size
  ·simp[hs]
  ·simp[hs]
 ·rename_i h;simp[Ne.symm h]
theorem DY:∀(Pd:List Nat) (la:Array Bool),(DU la Pd).size=la.size
 |[],_=>rfl
 |i::r,la=>by simp[DU,DY r]
theorem xx:∀(Pd:List Nat) (la:Array Bool) (j:Nat),(DU la Pd)[j]? =some true↔la[j]? =some true\/(j∈Pd/\j<la.size)
 |[],_,_=>by simp[DU]
 |i::r,la,j=>by
  rw[DU,xx r,pA];simp only[bT,List.mem_cons]
  constructor
  ·rintro((h|⟨h,hs⟩)|⟨h,hs⟩)
   ·exact .inl h
   ·exact .inr ⟨.inl h,hs⟩
   ·exact .inr ⟨.inr h,hs⟩
  ·rintro(h|⟨h|h,hs⟩)
   ·exact .inl (.inl h)
   ·exact .inl (.inr ⟨h,hs⟩)
   ·exact .inr ⟨h,hs⟩
def NB(la:Array Bool):Nat:=la.toList.countP (fun b=> !b)
theorem k6{i:Nat}(h:la[i]? =some false):NB (la.setIfInBounds i true)+1=NB la:=by
 obtain⟨D,W⟩:=ah.1 h;have Sp:i<la.toList.length:=by simpa using D
 have PI:0<la.toList.countP (fun b=> !b):=List.countP_pos_iff.2 ⟨false,by
  have:la[i]∈la:=Array.getElem_mem D;rw[W]at this
  simpa using this,rfl⟩
 unfold NB;rw[Array.toList_setIfInBounds,List.countP_set Sp];simp only[Array.getElem_toList,W]
 simp only[Bool.not_false,if_true,Bool.not_true,Bool.false_eq_true,if_false,bj]
 exact Nat.sub_add_cancel PI
theorem rk:∀{l:Env} {u:Nat} {k:Env->Prop},DT l u k->∃l',k l'/\fR l' u=none/\∀t v,fR l' t=some v->t≠u/\fR l t=some v
 |[],u,k,h=>⟨[],h,rfl,fun t v h=>by cases h⟩
 |(t0,v0)::r,u,k,h=>by
  unfold DT at h;split at h
  ·rename_i hb;have hb:=eC hb;obtain⟨l',I,X,N⟩:=rk h;refine⟨l',I,X,fun t v hv=>⟨(N t v hv).1,?_⟩⟩;rw[eW,aI (fun e=>(N t v hv).1 (e.symm.trans hb))];exact(N t v hv).2
  ·rename_i hb;have OS:t0≠u:=fun e=>by subst e;rw[Nat.beq_refl]at hb;cases hb
   obtain⟨l',I,X,N⟩:=rk h;refine⟨_,I,?_,fun t v hv=>?_⟩
   ·rw[eW,aI OS];exact X
   ·rw[eW]at hv ⊢;split at hv
    ·rename_i e;subst e;exact⟨OS,by simpa using hv⟩
    ·rename_i e;rw[aI e];exact N t v hv
theorem gU:∀{all:List Oper} {i:Nat} {k:Oper->Prop},rf all i k->∃o,all[i]? =some o/\k o
 |[],_,_,h=>h.elim
 |o::_,0,_,h=>⟨o,rfl,h⟩
 |_::r,n+1,_,h=>by obtain⟨o,I,X⟩:=gU (all:=r) h;exact⟨o,by simpa using I,X⟩
section
variable{P:Program}{τ:mn}{ops:Array Oper}{B n nx:Nat}{l:Env}{H:Hp}{iv:Iv}{w J:World}{O:Nat->dL}{a:Act}
structure Lb(P:Program)(ops:Array Oper)(n B:Nat)(Pd:List Nat)(Fd:List (Nat×Nat))(lx la:Array Bool)(l:Env)(H:Hp)(nx:Nat)(iv:Iv)(w:World)(O:Nat->dL)(a:Act)(J:World):Prop where
 sat:Sat n l H nx iv B w O a J
 Lc:lx.size=ops.size
 Lg:la.size=ops.size
 la:∀j,la[j]? =some true↔lx[j]? =some true\/∃g,(j,g)∈Fd
 Hn:∀j g,(j,g)∈Fd->j∈Pd
 pd:∀j∈Pd,lx[j]? =some false/\∃o d mk obj,ops[j]? =some o/\La o.op=true/\o.guard=none/\(o.dst=some d/\d∉o.looksAt ops)/\AL P o a mk obj/\fR l d=none/\
  ∀g,(j,g)∈Fd->a.tmps[d]? =some (mk g)/\J.heap[g]? =some obj
 eg:∀j g,(j,g)∈Fd->B<=g/\(∀id b,cV H id=some b->(O id).nil=false->(O id).g≠g)/\∀lo D,(lo,D)∈iv->¬(lo<=g/\g<D)
 inj:∀j g j',(j,g)∈Fd->(j',g)∈Fd->j=j'
 ap:∀j∈Pd,∀j'∈Pd,j≠j'->∀o o',ops[j]? =some o->ops[j']? =some o'->o.apart ops o'=true
theorem JN{l:Env}{u:Nat}(h:∀t v,fR l' t=some v->t≠u/\fR l t=some v){d:Nat}(hd:fR l d=none):fR l' d=none:=by
 cases G:fR l' d with
 |none=>rfl
 |some v=>have:=(h d v G).2;rw[hd]at this;cases this
theorem Oper.Ay{o oj:Oper}(ha:o.apart ops oj=true)(hs:∀U b,oj.op≠ .select U b)(h:AL P oj a mk obj):AL P oj (a.put o.dst u) mk obj:=by
 intro w;rw[execOp_put (ops:=ops) oj hs a o.dst u (Go.Oper.apart_spec ha).1];exact h w
theorem qX(OS:d≠some t)(h:a.tmps[t]? =some v):(a.put d u).tmps[t]? =some v:=by
 cases d with
 |none=>exact h
 |some d=>
  have:d≠t:=fun e=>OS (by rw[e]);simpa [Act.put,Array.getElem?_setIfInBounds_ne this]using h
theorem js{w:World}(h:w.heap[g]? =some obj):g<w.heap.size:=(ah.1 h).1
theorem Ext.alloc(w:World)(obj:Obj):Ext w (w.alloc obj):=
 ⟨rfl,rfl,rfl,by simp,fun k R=>heap_alloc_old _ _ R⟩
variable{Pd:List Nat}{Fd:List (Nat×Nat)}{lx la:Array Bool}
theorem Lb.step(s:Lb P ops n B Pd Fd lx la l H nx iv w O a J)(Ox:∀(j:Nat) (o:Oper) U b,ops[j]? =some o->o.op≠ .select U b){i:Nat}{o:Oper}(_hi:ops[i]? =some o)(Vd:∀g,(i,g)∉Fd)
  (Qz:∀j∈Pd,j≠i->∀oj,ops[j]? =some oj->o.apart ops oj=true)
  (sat':Sat n l' H' OW E B V G8 (a.put o.dst u) w3)
  (hl:∀j∈Pd,j≠i->∀d,fR l d=none->o.dst≠some d->fR l' d=none) (SG:∀j∈Pd,j≠i->Ext J w3)
  (heg:∀g,g<J.heap.size->(∀id b,cV H id=some b->(O id).nil=false->(O id).g≠g)->(∀lo D,(lo,D)∈iv->¬(lo<=g/\g<D))->(∃j∈Pd,j≠i)->
   (∀id b,cV H' id=some b->(G8 id).nil=false->(G8 id).g≠g)/\(∀lo D,(lo,D)∈E->¬(lo<=g/\g<D))):
  Lb P ops n B (Pd.filter fun j=> !Nat.beq j i) Fd (lx.setIfInBounds i true) (la.setIfInBounds i true) l' H' OW E V G8 (a.put o.dst u) w3:=by
 have memf:∀j,j∈(Pd.filter fun j=> !Nat.beq j i)↔j∈Pd/\j≠i:=fun j=>by
  simp only[List.mem_filter,Bool.not_eq_true',mq]
 have hEi:∀j g,(j,g)∈Fd->j≠i:=fun j g h e=>Vd g (e▸h);refine⟨sat',by simp[s.Lc],by simp[s.Lg],fun j=>?_,fun j g h=>(memf j).2 ⟨s.Hn j g h,hEi j g h⟩,fun j hj=>?_,fun j g h=>?_,s.inj,fun j hj j' hj'=>s.ap j ((memf j).1 hj).1 j' ((memf j').1 hj').1⟩
 ·rw[pA,pA,s.la,s.Lg,s.Lc];constructor
  ·rintro((h|h)|h)
   ·exact .inl (.inl h)
   ·exact .inr h
   ·exact .inl (.inr h)
  ·rintro((h|h)|h)
   ·exact .inl (.inl h)
   ·exact .inr h
   ·exact .inl (.inr h)
 ·obtain⟨hj,PM⟩:=(memf j).1 hj;obtain⟨h0,oj,d,mk,obj,I,X,N,⟨h4,RE⟩,h5,h6,h7⟩:=s.pd j hj;have hapj:=Qz j hj PM oj I;have OS:o.dst≠some d:=fun e=>(Go.Oper.apart_spec hapj).2.1 d e h4;refine⟨?_,oj,d,mk,obj,I,X,N,⟨h4,RE⟩,Oper.Ay hapj (fun U b=>Ox j oj U b I) h5,hl j hj PM d h6 OS,fun g G=>⟨qX OS (h7 g G).1,?_⟩⟩
  ·rw[Array.getElem?_setIfInBounds_ne (Ne.symm PM)];exact h0
  ·rw[(SG j hj PM).block g (js (h7 g G).2)];exact(h7 g G).2
 ·have hj:=s.Hn j g h;obtain⟨h0,oj,d,mk,obj,I,X,N,⟨h4,RE⟩,h5,h6,h7⟩:=s.pd j hj;obtain⟨e1,e2,e3⟩:=s.eg j g h;exact⟨e1,heg g (js (h7 g h).2) e2 e3 ⟨j,hj,hEi j g h⟩⟩
theorem Lb.early(s:Lb P ops n B Pd Fd lx la l H nx iv w O a J)(OV:∀(j:Nat) o,ops[j]? =some o->∀d,o.dst=some d->d<n)
  (Ox:∀(j:Nat) (o:Oper) U b,ops[j]? =some o->o.op≠ .select U b) (hj:j∈Pd) (Ue:la[j]? =some false) {Fn:Act->World->Prop}
  (h:∀E' a2 V,Ext J V->Lb P ops n B Pd E' lx (la.setIfInBounds j true) l H nx iv w O a2 V->Fn a2 V):wpOp P ops Q j Fn a J:=by
 obtain⟨h0,o,d,mk,obj,I,X,N,⟨h4,RE⟩,h5,h6,h7⟩:=s.pd j hj;have Y:Region.wanted o (yielded ops a.tmps)=true:=by simp[Region.wanted,N]
 unfold wpOp;simp only[I,Y,if_true]
 refine .inl ?_;unfold Oper.wp;rw[h5 J];simp only[Oper.upon]
 have hd:=OV j o I d h4;have hnE:∀g,(j,g)∉Fd:=fun g G=>by
  have:=(s.la j).2 (.inr ⟨g,G⟩);rw[Ue]at this;cases this
 refine h ((j,J.heap.size)::Fd) _ _ (Ext.alloc _ _) ⟨?_,s.Lc,by simp[s.Lg],fun k=>?_,fun k g R=>?_,fun k R=>?_,fun k g R=>?_,fun k g k' R hk'=>?_,s.ap⟩
 ·refine⟨s.sat.rel.ext (Ext.alloc _ _),?_,?_,fun t v hv=>?_,s.sat.sc⟩
  ·rw[h4];simp[Act.put,s.sat.size]
  ·rw[h4];exact s.sat.defers
  ·refine qX (fun e=>?_) (s.sat.env t v hv);rw[h4]at e;injection e with e;subst e;rw[h6]at hv;cases hv
 ·rw[pA,s.la];have Ou:j<la.size:=(ah.1 Ue).1;constructor
  ·rintro((h|⟨g,h⟩)|⟨rfl,_⟩)
   ·exact .inl h
   ·exact .inr ⟨g,by simp[h]⟩
   ·exact .inr ⟨_,aG ..⟩
  ·rintro(h|⟨g,h⟩)
   ·exact .inl (.inl h)
   ·rcases List.mem_cons.1 h with h|h
    ·injection h with e1 e2;exact .inr ⟨e1,by rw[e1];exact Ou⟩
    ·exact .inl (.inr ⟨g,h⟩)
 ·rcases List.mem_cons.1 R with R|R
  ·injection R with e1 e2;rw[e1];exact hj
  ·exact s.Hn k g R
 ·obtain⟨g0,ok,dk,mkk,objk,g1,g2,g3,⟨g4,gself⟩,g5,g6,g7⟩:=s.pd k R;by_cases TD:k=j
  ·subst TD;rw[I]at g1;injection g1 with g1;subst g1;rw[h4]at g4;injection g4 with g4;subst g4;refine⟨g0,o,d,mk,obj,I,X,N,⟨h4,RE⟩,?_,h6,fun g G=>?_⟩
   ·intro ww;rw[execOp_put (ops:=ops) o (fun U b=>Ox k o U b I) a o.dst _ (fun d' WN=>by rw[h4]at WN;injection WN with WN;subst WN;exact RE)];exact h5 ww
   ·rcases List.mem_cons.1 G with G|G
    ·injection G with e1 e2;subst e2;refine⟨?_,heap_alloc_new _ _⟩;rw[h4];simp[Act.put,s.sat.size,hd]
    ·exact absurd G (hnE g)
  ·have Qz:=s.ap j hj k R (Ne.symm TD) o ok I g1;have OS:o.dst≠some dk:=fun e=>(Go.Oper.apart_spec Qz).2.1 dk e g4;refine⟨g0,ok,dk,mkk,objk,g1,g2,g3,⟨g4,gself⟩,Oper.Ay Qz (fun U b=>Ox k ok U b g1) g5,g6,fun g G=>?_⟩;rcases List.mem_cons.1 G with G|G
   ·injection G with e1 e2;exact absurd e1 TD
   ·refine⟨qX OS (g7 g G).1,?_⟩;rw[heap_alloc_old _ _ (js (g7 g G).2)];exact(g7 g G).2
 ·rcases List.mem_cons.1 R with R|R
  ·injection R with e1 e2;subst e2;refine⟨aW s.sat.rel.base s.sat.rel.size,fun id b hb Z W=>?_,fun lo D hm hc=>?_⟩
   ·have:=(s.sat.rel.low id b hb Z).2;omega
   ·have:=s.sat.rel.qW lo D hm;have:=s.sat.rel.size;omega
  ·exact s.eg k g R
 ·have old:∀k' g',(k',g')∈Fd->g'<J.heap.size:=fun k' g' h=>by
   obtain⟨_,_,_,_,_,_,_,_,_,_,_,h7⟩:=s.pd k' (s.Hn k' g' h);exact js (h7 g' h).2
  rcases List.mem_cons.1 R with R|R<;>rcases List.mem_cons.1 hk' with hk'|hk'
  ·injection R with e1 e2;injection hk' with e3 e4;rw[e1,e3]
  ·injection R with e1 e2;have:=old _ _ hk';omega
  ·injection hk' with e1 e2;have:=old _ _ R;omega
  ·exact s.inj k g k' R hk'
theorem Lb.JO(s:Lb P ops n B Pd Fd lx la l H nx iv w O a J){i:Nat}{o:Oper}(D:ops[i]? =some o)(G:(i,g)∈Fd){b:jh}{v:SV}
  (hb:b.scopd nx) (hv:v.sc (nx+1)) (Ve:∀g,v.den (fh O nx ⟨g,0,false⟩)=mk g) (QB:∀g V,V.heap[g]? =some obj->b.fits O ⟨g,0,false⟩ V) (Vf:AL P o a mk obj)
  {Fn:Env->Prop} (hK:DZ o.dst v l Fn) (_hok:∀d,o.dst=some d->d<n) (Qz:∀j∈Pd,j≠i->∀oj,ops[j]? =some oj->o.apart ops oj=true):
  ∃l',Fn l'/\Lb P ops n B (Pd.filter fun j=> !Nat.beq j i) (Fd.filter fun e=> !Nat.beq e.1 i) (lx.setIfInBounds i true) la l' ((nx,b)::H) (nx+1) iv w (fh O nx ⟨g,0,false⟩) a J:=by
 obtain⟨h0,o',d,mk',obj',I,X,N,⟨h4,RE⟩,h5,h6,h7⟩:=s.pd i (s.Hn i g G);rw[D]at I;injection I with I;subst I;obtain⟨rfl,rfl⟩:=Vf.uniq h5;obtain⟨ht,hh⟩:=h7 g G;obtain⟨e1,e2,e3⟩:=s.eg i g G;have memf:∀j,j∈(Pd.filter fun j=> !Nat.beq j i)↔j∈Pd/\j≠i:=fun j=>by
  simp only[List.mem_filter,Bool.not_eq_true',mq]
 have memE:∀j k,(j,k)∈(Fd.filter fun e=> !Nat.beq e.1 i)↔(j,k)∈Fd/\j≠i:=fun j k=>by
  simp only[List.mem_filter,Bool.not_eq_true',mq]
 have Pp:∀id b,cV H id=some b->fh O nx ⟨g,0,false⟩ id=O id:=fun id b h=>(fm id (s.sat.rel.keys id b h)).symm;have r:=s.sat.rel;have PC:Rel ((nx,b)::H) (nx+1) iv B w (fh O nx ⟨g,0,false⟩) J:=by
  refine Rel.mk' r.os r.tape r.output r.size r.base r.qW ?_ ?_ ?_ ?_ ?_ ?_ ?_
  ·intro id b' h;rw[cU]at h;split at h
   ·omega
   ·have:=r.keys id b' h;omega
  ·intro id b' h;rw[cU]at h;split at h
   ·rename_i e;subst e;injection h with h;subst h;rw[dw];exact jh.gV (QB g J hh) (fun id Oy=>fm id Oy) hb (fun _ _=>rfl)
   ·rw[Pp id b' h];exact jh.gV (r.fits h) (fun id Oy=>fm id Oy) (r.scopd h) (fun _ _=>rfl)
  ·intro id b' h;rw[cU]at h;split at h
   ·injection h with h;subst h;exact jh.iV (Nat.le_succ _) hb
   ·exact jh.iV (Nat.le_succ _) (r.scopd h)
  ·intro id id' c c' h h' hd WN Z hn' W;rw[cU]at h h';split at h<;>split at h'
   ·rename_i x y;rw[<-x,<-y]
   ·rename_i x y;subst x;rw[dw,Pp _ _ h']at W;rw[Pp _ _ h']at hn';exact absurd W.symm (e2 _ _ h' hn')
   ·rename_i x y;subst y;rw[dw,Pp _ _ h]at W;rw[Pp _ _ h]at Z;exact absurd W (e2 _ _ h Z)
   ·rw[Pp _ _ h,Pp _ _ h']at W;rw[Pp _ _ h]at Z;rw[Pp _ _ h']at hn';exact r.inj id id' c c' h h' hd WN Z hn' W
  ·intro id c h Z;rw[cU]at h;split at h
   ·rename_i e;subst e;rw[dw];exact⟨e1,js hh⟩
   ·rw[Pp _ _ h]at Z ⊢;exact r.low id c h Z
  ·intro k R OS;refine r.ub k R fun id c h Z=>?_;have Ou:=r.keys id c h;have:=OS id c (by rw[cU,aI (by omega)];exact h) (by rw[Pp _ _ h];exact Z)
   rwa [Pp _ _ h]at this
  ·intro lo D hm id c h Z;rw[cU]at h;split at h
   ·rename_i e;subst e;rw[dw];exact e3 lo D hm
   ·rw[Pp _ _ h]at Z ⊢;exact r.ji lo D hm id c h Z
 have sat1:Sat n l ((nx,b)::H) (nx+1) iv B w (fh O nx ⟨g,0,false⟩) a J:=s.sat.next PC (Nat.le_succ _) (fun id Oy=>fm id Oy)
 rw[h4]at hK;refine⟨_,hK,?_⟩;have sat2:Sat n ((d,v)::l) ((nx,b)::H) (nx+1) iv B w (fh O nx ⟨g,0,false⟩) a J:=by
  refine⟨sat1.rel,sat1.size,sat1.defers,fun t u hu=>?_,fun t u hu=>?_⟩
  ·rw[eW]at hu;split at hu
   ·rename_i e;subst e;injection hu with hu;subst hu;rw[Ve];exact ht
   ·exact sat1.env t u hu
  ·rw[eW]at hu;split at hu
   ·injection hu with hu;subst hu;exact hv
   ·exact sat1.sc t u hu
 have Sq:i<lx.size:=(ah.1 h0).1;refine⟨sat2,by simp[s.Lc],s.Lg,fun j=>?_,fun j k h=>?_,fun j hj=>?_,fun j k h=>?_,fun j k j' h h'=>s.inj j k j' ((memE j k).1 h).1 ((memE j' k).1 h').1,fun j hj j' hj'=>s.ap j ((memf j).1 hj).1 j' ((memf j').1 hj').1⟩
 ·rw[s.la,pA];constructor
  ·rintro(h|⟨k,h⟩)
   ·exact .inl (.inl h)
   ·by_cases PM:j=i
    ·exact .inl (.inr ⟨PM,PM▸Sq⟩)
    ·exact .inr ⟨k,(memE j k).2 ⟨h,PM⟩⟩
  ·rintro((h|⟨rfl,h⟩)|⟨k,h⟩)
   ·exact .inl h
   ·exact .inr ⟨g,G⟩
   ·exact .inr ⟨k,((memE j k).1 h).1⟩
 ·exact(memf j).2 ⟨s.Hn j k ((memE j k).1 h).1,((memE j k).1 h).2⟩
 ·obtain⟨hj,PM⟩:=(memf j).1 hj;obtain⟨g0,oj,dj,mkj,objj,g1,g2,g3,⟨g4,gself⟩,g5,g6,g7⟩:=s.pd j hj;have OS:d≠dj:=fun e=>(Go.Oper.apart_spec (Qz j hj PM oj g1)).2.1 d h4 (by rw[g4,e]);refine⟨by rw[Array.getElem?_setIfInBounds_ne (Ne.symm PM)];exact g0,oj,dj,mkj,objj,g1,g2,g3,⟨g4,gself⟩,g5,?_,fun k R=>g7 k ((memE j k).1 R).1⟩;rw[eW,aI OS];exact g6
 ·obtain⟨h,PM⟩:=(memE j k).1 h;obtain⟨k1,k2,k3⟩:=s.eg j k h;refine⟨k1,fun id c hc Z=>?_,k3⟩;rw[cU]at hc;split at hc
  ·rename_i e;subst e;rw[dw];intro e;simp only at e;subst e;exact PM (s.inj j _ i h G)
  ·rw[Pp _ _ hc]at Z ⊢;exact k2 id c hc Z
end
end Go.Sx
