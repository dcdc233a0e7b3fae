/- Texts Sx7 to Sx11: lemmas, each with its conditions. -/
import Derived.OrdersHeld
import Derived.Test.YtgkpbdkechfgmaaGreatP0
namespace Go.Sx
open Go
variable{args:(Nat->dq)->Array Value}{la lx:Array Bool}{op:BinOp}{dr pu:Bool}{EQ:Ending->World->Prop}{l':Env}{Q:Exit->Act->World->Prop}{H':Hp}{k:IntKind}{K:Iv}{Pd:List Nat}{On g j m t:Nat}{mk:Nat->Value}{G8:Nat->dq}{obj:Obj}{d:Option Tmp}{Fn:SV->Hp->Nat->Iv->World->Prop}{u v:Value}{w V w3:World}
section
variable{P:Program}{τ:nR}{B n nx:Nat}{l:Env}{H:Hp}{iv:Iv}{w J:World}{O:Nat->dq}{a:Act}
theorem pz{k':IntKind}(h:pn k k'=true):k=k':=by
 cases k<;>cases k'<;>first|rfl|(simp [pn]at h)
theorem xz(op:BinOp)(t:TypeId)(x y:Operand)(k k':IntKind)(i j:Int)(w:World):(eqGuard op t x y (.int k i) (.int k' j)).run P w= .ok () w:=by
 unfold eqGuard;cases op<;>simp
theorem nW(op:BinOp)(t:TypeId)(x y:Operand)(i j:Bool)(w:World):(eqGuard op t x y (.bool i) (.bool j)).run P w= .ok () w:=by
 unfold eqGuard;cases op<;>simp
theorem jg(op:BinOp)(t:TypeId)(x y:Operand)(i j:ByteArray)(w:World):(eqGuard op t x y (.string i) (.string j)).run P w= .ok () w:=by
 unfold eqGuard;cases op<;>simp
theorem JY{i j:Int}{t:TypeId}{Fn:Value->Prop}(h:JR op k i j Fn)(k':IntKind)(D:(op= .shl\/op= .shr)\/k=k'):
  ∃r,Fn r/\∀w:World,(binOp op t (.int k i) (.int k' j)).run P w= .ok r w:=by
 have UK:op≠ .shl->op≠ .shr->k=k':=fun L G=>by rcases D with(N|N)|N<;>simp_all
 cases op<;>simp only[JR]at h
 case shl=>obtain⟨h0,r,L,G⟩:=h;refine⟨_,G,fun w=>?_⟩;subst L;simp[binOp,Op.shift,show ¬j<0 by omega]
 case shr=>obtain⟨h0,r,L,G⟩:=h;refine⟨_,G,fun w=>?_⟩;subst L;simp[binOp,Op.shift,show ¬j<0 by omega]
 all_goals (obtain rfl:=UK (by simp) (by simp))
 case quo=>obtain⟨h0,r,L,G⟩:=h;refine⟨_,G,fun w=>?_⟩;subst L;simp[binOp,Op.intDiv,h0]
 case rem=>obtain⟨h0,r,L,G⟩:=h;refine⟨_,G,fun w=>?_⟩;subst L;simp[binOp,Op.intDiv,h0]
 case eql=>exact⟨_,h,fun w=>by simp[binOp,Op.intCmp]⟩
 case neq=>exact⟨_,h,fun w=>by simp[binOp,Op.intCmp]⟩
 case lss=>exact⟨_,h,fun w=>by simp[binOp,Op.intCmp]⟩
 case leq=>exact⟨_,h,fun w=>by simp[binOp,Op.intCmp]⟩
 case gtr=>exact⟨_,h,fun w=>by simp[binOp,Op.intCmp]⟩
 case geq=>exact⟨_,h,fun w=>by simp[binOp,Op.intCmp]⟩
 case add=>obtain⟨r,L,G⟩:=h;refine⟨_,G,fun w=>?_⟩;subst L;simp[binOp,Op.intArith]
 case sub=>obtain⟨r,L,G⟩:=h;refine⟨_,G,fun w=>?_⟩;subst L;simp[binOp,Op.intArith]
 case mul=>obtain⟨r,L,G⟩:=h;refine⟨_,G,fun w=>?_⟩;subst L;simp[binOp,Op.intArith]
 case and=>obtain⟨r,L,G⟩:=h;refine⟨_,G,fun w=>?_⟩;subst L;simp[binOp,Op.intBits]
 case or=>obtain⟨r,L,G⟩:=h;refine⟨_,G,fun w=>?_⟩;subst L;simp[binOp,Op.intBits]
 case andNot=>obtain⟨r,L,G⟩:=h;refine⟨_,G,fun w=>?_⟩;subst L;simp[binOp,Op.intBits]
 case xor=>obtain⟨r,L,G⟩:=h;refine⟨_,G,fun w=>?_⟩;subst L;simp[binOp,Op.intBits]
theorem run_equalIn_bool{t:TypeId}(hu:P.underlying t=some .bool)(d:Nat)(i j:Bool)(w:World):(Op.equalIn (d+1) t (.bool i) (.bool j)).run P w= .ok (i==j) w:=by
 simp[Op.equalIn,run_underlying hu]
theorem xG{t:TypeId}(hu:P.underlying t=some .bool)(i j:Bool)(w:World):(Op.equal t (.bool i) (.bool j)).run P w= .ok (i==j) w:=run_equalIn_bool hu 9999 i j w
theorem zP{t:TypeId}(hu:P.underlying t=some .bool)(i j:Bool)(w:World):(binOp .eql t (.bool i) (.bool j)).run P w= .ok (.bool (i==j)) w:=by
 show(do pure (.bool (<-Op.equal t (.bool i) (.bool j))):Sem Value).run P w=_;rw[Sem.run_bind,xG hu];rfl
theorem yA{t:TypeId}(hu:P.underlying t=some .bool)(i j:Bool)(w:World):(binOp .neq t (.bool i) (.bool j)).run P w= .ok (.bool (!(i==j))) w:=by
 show(do pure (.bool (!(<-Op.equal t (.bool i) (.bool j)))):Sem Value).run P w=_;rw[Sem.run_bind,xG hu];rfl
theorem JZ(hτ:fo P τ){x y:SV}{Fn:SV->Prop}(h:aAN P τ op t x y Fn)(o1 o2:Operand):
  ∃r,Fn r/\r.sc nx/\∀J:World,(do eqGuard op t o1 o2 (x.den O) (y.den O);binOp op t (x.den O) (y.den O)).run P J= .ok (r.den O) J:=by
 unfold aAN at h;split at h
 ·rename_i k i k' j;have fin:∀D:(op= .shl\/op= .shr)\/k=k',JR op k i j (fun r=>Fn (.o (.v r)))->∃r,Fn r/\r.sc nx/\∀J:World,(do eqGuard op t o1 o2 (SV.den O (.o (.v (.int k i)))) (SV.den O (.o (.v (.int k' j))));binOp op t (SV.den O (.o (.v (.int k i)))) (SV.den O (.o (.v (.int k' j))))).run P J= .ok (r.den O) J:=by
   intro D h;obtain⟨r,L,G⟩:=JY (P:=P) (t:=t) h k' D;refine⟨_,L,trivial,fun J=>?_⟩;simp only[SV.den,At.den,Sem.run_bind,xz,Result.andThen_ok,G]
  split at h
  ·exact fin (.inl (.inl rfl)) h
  ·exact fin (.inl (.inr rfl)) h
  ·split at h
   ·rename_i D;exact fin (.inr (pz D)) h
   ·exact h.elim
 ·rename_i i j;split at h
  ·rename_i ti Qp;split at h
   ·rename_i PO;have hu:=(hτ t _ Qp).i2 (eX PO);split at h
    ·refine⟨_,h,trivial,fun J=>?_⟩;simp only[SV.den,At.den,Sem.run_bind,nW,Result.andThen_ok,zP hu]
    ·refine⟨_,h,trivial,fun J=>?_⟩;simp only[SV.den,At.den,Sem.run_bind,nW,Result.andThen_ok,yA hu]
    ·exact h.elim
   ·exact h.elim
  ·exact h.elim
 ·rename_i i j;split at h
  ·refine⟨_,h,trivial,fun J=>?_⟩;simp only[SV.den,At.den,Sem.run_bind,jg,Result.andThen_ok]
   simp[binOp,Op.stringOp,ByteArray.toList_eq]
  ·refine⟨_,h,trivial,fun J=>?_⟩;simp only[SV.den,At.den,Sem.run_bind,jg,Result.andThen_ok]
   simp[binOp,Op.stringOp,ByteArray.toList_eq]
  ·refine⟨_,h.2,trivial,fun J=>?_⟩;simp only[SV.den,At.den,Sem.run_bind,jg,Result.andThen_ok]
   have L:=h.1;unfold maxLen at L;simp[binOp,Op.stringOp];omega
  ·exact h.elim
 ·obtain⟨b,L,G⟩:=h;exact⟨_,G,trivial,fun J=>L O J o1 o2⟩
abbrev OQ(n B:Nat)(l:Env)(a:Act)(dst:Option Tmp)(Fn:SV->Hp->Nat->Iv->World->Prop)(next:Act->World->Prop):Prop:=
 ∀v H' On K V G8 w3,Fn v H' On K V->Sat n l H' On K B V G8 a w3->v.sc On->next (a.put dst (v.den G8)) w3
theorem Sat.next(sat:Sat n l H nx iv B w O a J)(rel:Rel H' On K B V G8 w3)(RD:nx<=On)(G9:∀id,id<nx->O id=G8 id):
  Sat n l H' On K B V G8 a w3:=
 ⟨rel,sat.size,sat.defers,fun t v h=>by rw[sat.env t v h,SV.jT G9 (sat.sc t v h)],fun t v h=>SV.td RD (sat.sc t v h)⟩
theorem D6(sat:Sat n l H nx iv B w O a J){W:List At}(hs:∀c∈W,At.sc nx c):
  Rel ((nx,.box t W)::H) (nx+1) iv B w (gT O nx ⟨J.heap.size,0,false⟩) (J.alloc (.cells (W.map (At.den O)).toArray t)):=
 sat.rel.push (.box t W) _ rfl rfl rfl (by simp) (fun k D=>heap_alloc_old _ _ D) (fun _=>⟨Nat.le_refl _,by simp⟩) ⟨rfl,heap_alloc_new _ _⟩ hs
theorem xH:∀{vs:List SV} {k:List Nat->Prop},oN vs k->(∀v∈vs,SV.sc nx v)->∃ids,k ids/\vs.map (SV.den O)=ids.map (fun id=>Value.pointer (some ⟨(O id).g,0,none⟩))/\∀id∈ids,id<nx
 |[],k,h,_=>⟨[],h,rfl,by simp⟩
 | .o (.p id 0)::r,k,h,hs=>by
  obtain⟨ids,L,G,N⟩:=xH (vs:=r) h (fun v hv=>hs v (by simp[hv]));exact⟨id::ids,L,by simp[G,SV.den,At.den],by simp;exact⟨hs (.o (.p id 0)) (by simp),N⟩⟩
 | .o (.p id (m+1))::r,k,h,_=>by simp[oN]at h
 | .o (.v x)::r,k,h,_=>by simp[oN]at h
 | .o (.s _ _ _ _)::r,k,h,_=>by simp[oN]at h
 | .o (.w _ _)::r,k,h,_=>by simp[oN]at h
 | .o (.fn _ _)::r,k,h,_=>by simp[oN]at h
 | .a _::r,k,h,_=>by simp[oN]at h
theorem zQ(sat:Sat n l H nx iv B w O a J){Fn:SV->Hp->Iv->World->Prop}{o:Oper}{next:Act->World->Prop}
  (h:FE P B g args H nx iv w Fn) (UI:(execOp a.eval o).run P J=(callFunc g (args O)).run P J)
  (R:∀v H' K V,Fn v H' K V->Sat n l H' nx K B V O a V->v.sc nx->next (a.put o.dst (v.den O)) V):o.wp P a J next Q:=by
 have hc:=h.h O J sat.rel;unfold Oper.wp;rw[UI,hc.e.h];refine Calls.mono hc.c fun e V U=>?_;obtain⟨v,H',K,rfl,Pf,hK⟩:=U;exact R _ _ _ _ hK (sat.next (G8:=O) Pf (Nat.le_refl _) (fun _ _=>rfl)) trivial
theorem Rel.ext(r:Rel H nx iv B w O J)(e:Ext J V):Rel H nx iv B w O V:=
 Rel.mk' (e.os.trans r.os) (e.tape.trans r.tape) (e.output.trans r.output) (aW r.size e.size) r.base r.oJ r.keys
  (fun id b h=>jz.gg (r.fits h) (fun _ _=>rfl) (r.scopd h) (fun R _=>e.block _ (r.low id b h R).2)) (fun id b h=>r.scopd h) r.inj
  (fun id b h R=>by have:=r.low id b h R;have:=e.size;omega) (fun k D Oe=>by rw[e.block k (by have:=r.size;omega)];exact r.vP k D Oe) r.je
theorem Rel.here(r:Rel H nx iv B w O J):Rel H nx iv B J O J:=
 Rel.mk' rfl rfl rfl (Nat.le_refl _) (by have:=r.base;have:=r.size;omega) (fun lo A hm=>by have:=r.oJ lo A hm;have:=r.size;omega) r.keys
  (fun id b h=>r.fits h) (fun id b h=>r.scopd h) r.inj r.low (fun _ _ _=>rfl) r.je
theorem Rel.more{lo A:Nat}(r:Rel H nx iv B w O J)(L:A<=w.heap.size)(G:∀id b,dG H id=some b->(O id).nil=false->¬(lo<=(O id).g/\(O id).g<A)):Rel H nx ((lo,A)::iv) B w O J:=
 Rel.mk' r.os r.tape r.output r.size r.base
  (fun lo' RA hm=>by
   rcases List.mem_cons.1 hm with hm|hm
   ·injection hm with e1 e2;omega
   ·exact r.oJ lo' RA hm) r.keys (fun id b hb=>r.fits hb) (fun id b hb=>r.scopd hb) r.inj r.low r.vP
  (fun lo' RA hm id b hb PA=>by
   rcases List.mem_cons.1 hm with hm|hm
   ·injection hm with e1 e2;subst e1;subst e2;exact G id b hb PA
   ·exact r.je lo' RA hm id b hb PA)
theorem cJ{Fn:SV->Hp->Iv->World->Prop}(h:FB P B g args H nx iv w Fn):FE P B g args H nx iv w Fn:=
 ⟨fun O J r=>⟨(h.h O J r).e,Calls.mono (h.h O J r).c fun e V U=>by
  obtain⟨v,L,G,N⟩:=U
  exact⟨v,H,_,L,(r.ext G).here.more (Nat.le_refl _) (fun id b hb R=>by have:=(r.low id b hb R).2;omega),N⟩⟩⟩
def vQ:Op->Bool
 | .move _| .assign _| .pick _ _ _| .build _ _| .load _ _| .nilCheck _| .binOp _ _ _ _ _| .unOp _ _ _| .convert _ _ _| .makeFunc _ _ _| .slice _ _ _ _ _| .fieldAddr _ _ _| .field _ _ _| .indexAddr _ _ _| .extract _ _=>true
 | .call ⟨.builtin .len,_,_⟩=>true
 | .call ⟨.builtin .max,_,_⟩=>true
 | .call ⟨.builtin .min,_,_⟩=>true
 |_=>false
def NJ:Op->Bool
 | .alloc _| .box _ _| .buildSlice _ _ _| .makeSlice _ _ _=>true
 |_=>false
def JK:Op->Bool
 | .load _ _=>false
 |o=>vQ o
theorem mS(hτ:fo P τ){o:Oper}(h:yw dr P τ B o l H nx iv w Fn)(sat:Sat n l H nx iv B w O a J)(D:vQ o.op=true):
  (∃v,Fn v H nx iv w/\v.sc nx/\∀V,(JK o.op=true\/Rel H nx iv B w O V)->(execOp a.eval o).run P V= .ok (.value (v.den O)) V)\/(dr=false/\xy P B o l H nx iv w Fn):=by
 obtain⟨dst,op,ty,pos,after,guard⟩:=o;have val:∀(r:SV),Fn r H nx iv w->r.sc nx->(∀V,(JK op=true\/Rel H nx iv B w O V)->(execOp a.eval ⟨dst,op,ty,pos,after,guard⟩).run P V= .ok (.value (r.den O)) V)->
   (∃v,Fn v H nx iv w/\v.sc nx/\∀V,(JK op=true\/Rel H nx iv B w O V)->(execOp a.eval ⟨dst,op,ty,pos,after,guard⟩).run P V= .ok (.value (v.den O)) V)\/(dr=false/\xy P B ⟨dst,op,ty,pos,after,guard⟩ l H nx iv w Fn):=
  fun r hK hs hr=>.inl ⟨r,hK,hs,hr⟩
 unfold yw at h;split at h<;>first|(exact False.elim h)|(rename_i UI;simp only at UI;subst UI)
 ·obtain⟨v,hK,hv,hs⟩:=dZ sat h;exact val v hK hs (fun V rel=>by simp[execOp,hv])
 ·obtain⟨v,hK,hv,hs⟩:=dZ sat h;exact val v hK hs (fun V rel=>by simp[execOp,hv])
 ·rename_i c x y;obtain⟨v,L,hv,R4⟩:=dZ sat h;clear R4;split at L
  ·rename_i t
   cases t
   ·obtain⟨u,hK,hu,hs⟩:=dZ sat (L.f rfl);exact val u hK hs (fun V rel=>by simp[execOp,hv,SV.den,At.den,asBool,hu])
   ·obtain⟨u,hK,hu,hs⟩:=dZ sat (L.t rfl);exact val u hK hs (fun V rel=>by simp[execOp,hv,SV.den,At.den,asBool,hu])
  ·exact L.elim
 ·cases D
 ·cases D
 ·rename_i t parts;split at h
  ·rename_i sz ag by_ ze tag ik e al fs Qp;have ht:=hτ t _ Qp;obtain⟨inf,z,A,PN,PB,hz,R8⟩:=ht.info;simp only at PN PB R8;have hzz:z.cells=(((ze.map At.v)).map (At.den O)).toArray:=by rw[fu];apply Array.ext';simpa using R8
   have WG:∀c∈ze.map At.v,At.sc nx c:=fun c hc=>by simp at hc;obtain⟨v,_,rfl⟩:=hc;trivial
   split at h
   ·rename_i PO;obtain⟨fds,hu,hf,Pc⟩:=ht.i5 (eX PO);simp only at hf;have Wa:fds.toList.mapM (fun f=>(P.info? f.type).map fun i=>(f.offset,i.size))=some (fds.toList.map fun f=>(f.offset,((P.info? f.type).map (·.size)).getD 0)):=by
     clear hf hu;generalize fds.toList=fl at Pc
     induction fl with
     |nil=>rfl
     |cons f r ih=>
      obtain⟨i0,SR⟩:=Option.isSome_iff_exists.1 (Pc f (by simp));rw[List.mapM_cons,ih (fun g Y=>Pc g (by simp[Y]))];simp[SR]
    have h0:=fy h
    obtain⟨cs',hK,PS,hlen,QP⟩:=k8 sat (placeF:=fun i=>(fds.toList.map fun f=>(f.offset,((P.info? f.type).map (·.size)).getD 0))[i]?) (fun i k D=>by
     obtain⟨off,ft,fi,L,G,N,h4⟩:=nF hτ D;refine⟨off,fi.size,L,?_⟩;rw[<-hf]at G;simp only[aL,Option.map_eq_some_iff]at G ⊢;obtain⟨fd,Ql,U⟩:=G;injection U with e1 e2;refine⟨fd,Ql,?_⟩;obtain⟨inf',_,RA,UL,_⟩:=N.info;rw[e1,e2,RA]
     simp[UL]) h0 WG
    refine val _ hK PS (fun V rel=>?_);have hb:P.built t (parts.map fun p=>(p.1,a.eval p.2)).toList=some (cs'.map (At.den O)).toArray:=by
     unfold Program.built;simp only[A,hu,hz,Wa]
     rw[hzz,<-QP];simp
    have:=run_build V t _ _ hb;simp only[execOp]
    exact mU this
   ·split at h
    ·rename_i PO;have hu:=ht.i6 (eX PO);simp only at hu;split at h
     ·rename_i sz' ag' by' ze' tag' ik' e' al' fs' Px
      have Px:=hτ e _ Px;obtain⟨inf',_,RA,UL,_⟩:=Px.info;simp only at UL;have h0:=fy h;obtain⟨cs',hK,PS,hlen,QP⟩:=k8 sat (placeF:=fun i=>some (i*inf'.size,inf'.size)) (fun i k D=>⟨i*sz',sz',D,by rw[UL]⟩) h0 WG;refine val _ hK PS (fun V rel=>?_);have hb:P.built t (parts.map fun p=>(p.1,a.eval p.2)).toList=some (cs'.map (At.den O)).toArray:=by
       unfold Program.built;simp only[A,hu,hz,RA]
       rw[hzz,<-QP];simp
      have:=run_build V t _ _ hb;simp only[execOp]
      exact mU this
     ·exact h.elim
    ·exact h.elim
  ·exact h.elim
 ·cases D
 ·rename_i t x;obtain⟨v,L,hv,hs⟩:=dZ sat h;obtain⟨r,hK,hr,Ot⟩:=oR hτ sat.rel hs L;exact val r hK hr (fun V rel=>by simp only[execOp,hv];exact mU (Ot V (rel.resolve_left (by simp[JK]))))
 ·cases D
 ·rename_i x;obtain⟨v,L,hv,hs⟩:=dZ sat h;split at L
  ·exact val _ L hs (fun V rel=>by simp[execOp,hv,SV.den,At.den])
  ·exact val _ L hs (fun V rel=>by simp[execOp,hv,SV.den,At.den])
  ·exact val _ L hs (fun V rel=>by simp[execOp,hv,SV.den,At.den])
  ·exact val _ L hs (fun V rel=>by simp[execOp,hv,SV.den,At.den])
  ·exact L.elim
 ·rename_i op t x y u;obtain⟨v,L,hv,_⟩:=dZ sat h;obtain⟨v2,G,Rh,_⟩:=dZ sat L;obtain⟨r,hK,hr,Ot⟩:=JZ (O:=O) hτ G x y;exact val r hK hr (fun V rel=>by simp only[execOp,hv,Rh];exact mU (Ot V))
 ·rename_i op t x;obtain⟨v,L,hv,_⟩:=dZ sat h;split at L
  ·exact val _ L trivial (fun V rel=>by simp[execOp,hv,SV.den,At.den,Op.unary])
  ·obtain⟨r,hr,hK⟩:=L;exact val _ hK trivial (fun V rel=>by subst hr;simp[execOp,hv,SV.den,At.den,Op.unary,Op.intArith])
  ·obtain⟨r,hr,hK⟩:=L;exact val _ hK trivial (fun V rel=>by subst hr;simp[execOp,hv,SV.den,At.den,Op.unary,Op.intBits])
  ·exact L.elim
 ·rename_i s d x;split at h
  ·rename_i tis htis;obtain⟨ds,hds,_⟩:=(hτ s _ htis).agg;obtain⟨v,L,hv,R4⟩:=dZ sat h;clear R4;split at L
   ·rename_i sz ag by_ ze tag ik e al fs Qp;have ht:=hτ d _ Qp;split at L
    ·rename_i PO;have hu:=ht.i1 (eX PO);simp only at hu;split at L
     ·obtain⟨r,hr,hK⟩:=L;refine val _ hK trivial (fun V rel=>?_);subst hr;simp[execOp,convert,run_underlying hds,run_underlying hu,hv,SV.den,At.den,Conv.intToInt]
     ·exact L.elim
    ·cases dr
     ·exact .inr ⟨rfl,L⟩
     ·exact L.elim
   ·exact L.elim
  ·exact h.elim
 ·rename_i f first caps
  split at h
  ·obtain⟨vs,L,R4,RS⟩:=rH sat h;obtain⟨ids,hK,hids,Ow⟩:=xH (O:=O) L RS;refine val _ hK (fun id PY=>Ow id PY) (fun V rel=>?_);have e:caps.map a.eval=(ids.map fun id=>Value.pointer (some ⟨(O id).g,0,none⟩)).toArray:=by
    apply Array.ext';rw[<-hids,<-R4];simp
   simp[execOp,Instr.makeFunc,e,SV.den,At.den]
  ·exact h.elim
 ·cases D
 ·rename_i t x lo A;obtain⟨v,L,hv,hs⟩:=dZ sat h;obtain⟨r,hK,hr,Ot⟩:=FL hτ sat L hs;exact val r hK hr (fun V rel=>by simp only[execOp,hv];exact mU (by simpa using Ot V))
 ·rename_i t x f;split at h
  ·rename_i sz ag by_ ze tag ik e al fs Qp;have ht:=hτ t _ Qp;split at h
   ·rename_i PO;obtain⟨off,ft,fi,L,hf,Tm,PN⟩:=nF hτ h;obtain⟨v,G,hv,hs⟩:=dZ sat L;obtain⟨r,ad,hK,hr,hd,hrd⟩:=tf (O:=O) G hs;refine val r hK hr (fun V rel=>?_);simp only[execOp,hv,hd,hrd]
    exact mU (FI ht (eX PO) hf Tm PN ad V)
   ·exact h.elim
  ·exact h.elim
 ·rename_i t x f;split at h
  ·rename_i sz ag by_ ze tag ik e al fs Qp;have ht:=hτ t _ Qp;split at h
   ·rename_i PO;obtain⟨off,ft,fi,L,hf,Tm,PN⟩:=nF hτ h;obtain⟨v,G,hv,hs⟩:=dZ sat L;obtain⟨fds,fd,hu,Ql,e1,e2⟩:=zN ht (eX PO) hf;have fin:∀W:List At,v.den O= .agg (W.map (At.den O)).toArray->(∀c∈W,At.sc nx c)->
      (match fi.agg with
       |true=>tR W off (fun r=>tS r fi.size (fun c=>Fn (.a c) H nx iv w))
       |false=>match D3 W off with
        |some c=>Fn (.o c) H nx iv w
        |none=>False)->(∃v,Fn v H nx iv w/\v.sc nx/\∀V,(JK (.field t x f)=true\/Rel H nx iv B w O V)->(execOp a.eval ⟨dst,.field t x f,ty,pos,after,guard⟩).run P V= .ok (.value (v.den O)) V)\/(dr=false/\xy P B ⟨dst,.field t x f,ty,pos,after,guard⟩ l H nx iv w Fn):=by
     intro W hd PS D;split at D
     ·rename_i hag;obtain⟨N,SL⟩:=oO D;obtain⟨hK,Pn⟩:=oP N;refine val _ hK (fun c hc=>PS c (List.mem_of_mem_drop (List.mem_of_mem_take hc))) (fun V rel=>?_);simp only[execOp,hv,hd]
      refine mU ?_;subst e1 e2;simp[Instr.field,run_underlying hu,Ql,asAgg,part,Tm.isAgg,hag,Tm.sizeOf,SV.den,List.map_drop,List.map_take,List.extract_eq_take_drop]
     ·rename_i hag;split at D
      ·rename_i c hc;rw[vV]at hc;refine val _ D (PS c (aC hc)) (fun V rel=>?_);simp only[execOp,hv,hd]
       refine mU ?_;subst e1 e2;simp[Instr.field,run_underlying hu,Ql,asAgg,part,Tm.isAgg,hag,hc,SV.den]
      ·exact D.elim
    split at G
    ·rename_i vs;exact fin (vs.map At.v) (by rw[fu];rfl) (fun c hc=>by simp at hc;obtain⟨v,_,rfl⟩:=hc;trivial) (fy G)
    ·exact fin _ rfl hs G
    ·exact G.elim
   ·exact h.elim
  ·exact h.elim
 ·rename_i t x i;obtain⟨v,L,hv,hs⟩:=dZ sat h;obtain⟨u,G,hu,_⟩:=dZ sat L;obtain⟨r,hK,hr,Ot⟩:=FJ hτ G hs sat.rel;exact val r hK hr (fun V rel=>by simp only[execOp,hv,hu];exact mU (Ot V))
 ·rename_i x i;obtain⟨v,L,hv,hs⟩:=dZ sat h;split at L
  ·split at L
   ·rename_i vs u hu;rw[CN]at hu;exact val _ L trivial (fun V rel=>by simp[execOp,hv,Instr.extract,SV.den,At.den,hu])
   ·exact L.elim
  ·exact L.elim
 ·rename_i x t;obtain⟨v,L,hv,_⟩:=dZ sat h;obtain⟨r,hK,Ot⟩:=JX (ty:=ty) hτ L sat.rel;refine val _ hK trivial (fun V rel=>?_);show _=Result.ok (Next.value (Value.int .i64 r)) V;generalize v.den O=xv at hv Ot;have Ot:=Ot V;simp[execOp,resolve,invoke,builtin,hv,Ot]
 ·cases D
 ·rename_i x y ts;obtain⟨v,L,hv,_⟩:=dZ sat h;obtain⟨v2,G,Rh,_⟩:=dZ sat L;split at G
  ·split at G
   ·rename_i k a1 k' b1 Sp;have UK:=pz Sp;subst UK;refine val _ G trivial (fun V rel=>?_);simp only[execOp,resolve,invoke,builtin]
    simp[hv,Rh,SV.den,At.den,Builtin.max_,Builtin.max2];omega
   ·exact G.elim
  ·exact G.elim
 ·rename_i x y ts;obtain⟨v,L,hv,_⟩:=dZ sat h;obtain⟨v2,G,Rh,_⟩:=dZ sat L;split at G
  ·split at G
   ·rename_i k a1 k' b1 Sp;have UK:=pz Sp;subst UK;refine val _ G trivial (fun V rel=>?_);simp only[execOp,resolve,invoke,builtin]
    simp[hv,Rh,SV.den,At.den,Builtin.min_,Builtin.min2];omega
   ·exact G.elim
  ·exact G.elim
 ·cases D
 ·cases D
 ·cases D
 ·cases D
 ·cases D
 ·cases D
 ·cases D
 ·cases D
theorem iy{o:Oper}(h:xy P B o l H nx iv w Fn)(sat:Sat n l H nx iv B w O a J){next:Act->World->Prop}
  (R:OQ n B l a o.dst Fn next):o.wp P a J next Q:=by
 obtain⟨v,V,K,Ot,Pf,hK⟩:=h.h O J a.eval sat.rel (fun x v F=>(te sat F).1);have:=R _ _ _ _ _ _ _ hK (sat.next Pf (Nat.le_refl _) (fun _ _=>rfl)) trivial;unfold Oper.wp;rcases Ot with Ot|⟨Ot,rfl⟩
 ·rw[Ot];exact this
 ·rw[Ot];exact this
theorem oM(hτ:fo P τ){o:Oper}(h:yw dr P τ B o l H nx iv w Fn)(sat:Sat n l H nx iv B w O a J){next:Act->World->Prop}
  (R:OQ n B l a o.dst Fn next):o.wp P a J next Q:=by
 by_cases D:vQ o.op=true
 ·rcases mS hτ h sat D with⟨v,hK,hs,hr⟩|⟨_,UI⟩
  ·exact nC (hr J (.inr sat.rel)) (R _ _ _ _ _ _ _ hK sat hs)
  ·exact iy UI sat R
 obtain⟨dst,op,ty,pos,after,guard⟩:=o;unfold yw at h;split at h<;>first|(exact False.elim h)|(rename_i UI;simp only at UI;subst UI)
 ·exact absurd rfl D
 ·exact absurd rfl D
 ·exact absurd rfl D
 ·rename_i t;split at h
  ·rename_i sz ag by_ ze tag ik e al fs Qp;obtain⟨z,PF,QD⟩:=(hτ t _ Qp).zeroV J;have hK:=fy h;simp only at QD;have Pf:=D6 sat (t:=t) (W:=ze.map At.v) (fun c hc=>by simp at hc;obtain⟨v,_,rfl⟩:=hc;trivial);rw[fu]at Pf;have hzz:z.cells=ze.toArray:=by apply Array.ext';simpa using QD
   refine nC (V:=J.alloc (.cells ze.toArray t)) (v:=.pointer (some ⟨J.heap.size,0,none⟩)) ?_ ?_
   ·simp[execOp,Instr.alloc,PF,newVar,newRow,hzz]
   ·have:=R _ _ _ _ _ _ _ hK (sat.next Pf (by omega) gD) (by simp[SV.sc,At.sc]);simpa [SV.den,At.den]using this
  ·exact h.elim
 ·rename_i t x;obtain⟨v,L,hv,hs⟩:=dZ sat h;obtain⟨W,hK,Pm,RS⟩:=mT L;have Pf:=D6 sat (t:=t) (RS nx hs);refine nC (V:=J.alloc (.cells (W.map (At.den O)).toArray t)) (v:=.pointer (some ⟨J.heap.size,0,none⟩)) ?_ ?_
  ·simp[execOp,Instr.box,hv,newVar,newRow,Pm O]
  ·have:=R _ _ _ _ _ _ _ hK (sat.next Pf (by omega) gD) (by simp[SV.sc,At.sc]);simpa [SV.den,At.den]using this
 ·exact absurd rfl D
 ·rename_i t m parts;split at h
  ·rename_i sz ag by_ ze tag ik e al fs Qp;have ht:=hτ t _ Qp;split at h
   ·rename_i PO;have hu:=ht.i4 (eX PO);simp only at hu;split at h
    ·rename_i sz' ag' by' ze' tag' ik' e' al' fs' Px
     have Px:=hτ e _ Px;obtain⟨inf,z,A,PN,PB,hz,R8⟩:=Px.info;have R9:=Px.Gy;simp only at PN PB R8 R9;split at h
     ·rename_i hle;have hle:=Nat.le_of_ble_eq_true hle;have h0:=fy h;obtain⟨cs',hK,PS,hlen,QP⟩:=k8 sat (placeF:=fun i=>some (i*inf.size,inf.size)) (fun i k D=>⟨i*sz',sz',D,by rw[PN]⟩) h0
       (fun c hc=>by obtain⟨v,_,rfl⟩:=aU.1 hc;trivial)
      rw[fu]at QP;have RT:z.cells=ze'.toArray:=by apply Array.ext';simpa using R8
      have VP:((List.replicate m ze').flatten).toArray=madeCells z.cells (m*inf.size):=by
       rw[RT,PN,<-R9];exact(rK ze' m).symm
      have Pf:=D6 sat (t:=e) PS;refine nC (V:=J.alloc (.cells (cs'.map (At.den O)).toArray e)) (v:=.slice (some ⟨J.heap.size,0,none⟩) m m) ?_ ?_
      ·simp only[execOp]
       refine mU ?_;rw[VP]at QP;by_cases QI:m*inf.size=0
       ·have SF:Instr.fill (fun i=>some (i*inf.size,inf.size)) (madeCells z.cells 0) (parts.toList.map fun p=>(p.1,a.eval p.2))=some (cs'.map (At.den O)).toArray:=by rw[QI]at QP;exact QP
        have e0:madeCells z.cells 0= #[]:=by simp[madeCells]
        rw[e0]at SF;have er:Array.range 0= #[]:=rfl;simp[Instr.buildSlice,run_underlying hu,sizeOf,typeInfo,zeroValue,A,hz,QI,newRow,SF,er]
       ·exact run_buildSlice J t e m _ _ inf z hu A hz (by rw[PN];omega) QI (by rw[<-QP];simp[madeCells])
      ·have:=R _ _ _ _ _ _ _ hK (sat.next Pf (by omega) gD) (by simp[SV.sc,At.sc]);simpa [SV.den,At.den]using this
     ·exact h.elim
    ·exact h.elim
   ·exact h.elim
  ·exact h.elim
 ·exact absurd rfl D
 ·rename_i t x y;obtain⟨v,L,hv,hs⟩:=dZ sat h;obtain⟨u,G,hu,Qm⟩:=dZ sat L
  cases Y:OP H v u with
  |true=>
   rw[Y]at G
   cases dr with
   |true=>exact G.elim
   |false=>
    have G:OpG P B _ l H nx iv w Fn:=G;obtain⟨V,w3,H',K,Ot,Pf,hK⟩:=G.h O J a.eval sat.rel (fun x v F=>(te sat F).1);refine Ku (V:=w3) Ot ?_;exact R _ _ _ _ _ _ _ hK (sat.next Pf (Nat.le_refl _) (fun _ _=>rfl)) trivial
  |false=>
   rw[Y]at G;obtain⟨H',V,w3,hK,Pf,Ot⟩:=xF hτ sat hs Qm G;refine Ku (V:=w3) (by simp[execOp,hv,hu,Ot]) ?_;exact R _ _ _ _ _ _ _ hK (sat.next Pf (Nat.le_refl _) (fun _ _=>rfl)) trivial
 ·exact absurd rfl D
 ·exact absurd rfl D
 ·exact absurd rfl D
 ·exact absurd rfl D
 ·exact absurd rfl D
 ·rename_i t x y;obtain⟨v,L,hv,_⟩:=dZ sat h;obtain⟨u,G,hu,_⟩:=dZ sat L;obtain⟨r,H',On,G8,V,hK,Pf,hr,RD,G9,Ot⟩:=HE hτ sat G;refine nC (V:=V) (by simp only[execOp,hv,hu];exact mU Ot) ?_;exact R _ _ _ _ _ _ _ hK (sat.next Pf RD G9) hr
 ·exact absurd rfl D
 ·exact absurd rfl D
 ·exact absurd rfl D
 ·exact absurd rfl D
 ·exact absurd rfl D
 ·exact absurd rfl D
 ·rename_i x y t u;split at h
  ·rename_i htu;have htu:=eX htu;subst htu;obtain⟨v,L,hv,_⟩:=dZ sat h;obtain⟨v2,G,Rh,_⟩:=dZ sat L;split at G
   ·unfold gaK at G;split at G
    ·exact G.elim
    ·obtain⟨v,H',On,K,G8,V,w3,Ot,Pf,hs,RD,G9,hK⟩:=G.h O J a.eval sat.rel (fun x v F=>(te sat F).1);exact nC Ot (R _ _ _ _ _ _ _ hK (sat.next Pf RD G9) hs)
   rcases G with G|G
   ·obtain⟨r,H',On,G8,V,hK,Pf,hr,RD,G9,Ot⟩:=tc (ty:=ty) hτ sat G;refine nC (v:=r.den G8) (V:=V) ?_ ?_
    ·simp[execOp,resolve,invoke,builtin,hv,Rh,Ot]
    ·exact R _ _ _ _ _ _ _ hK (sat.next Pf RD G9) hr
   ·exact iy G sat R
  ·exact iy h sat R
 ·exact absurd rfl D
 ·exact absurd rfl D
 ·exact iy h sat R
 ·exact iy h sat R
 ·exact iy h sat R
 ·exact iy h sat R
 ·exact iy h sat R
 ·exact iy h sat R
 ·exact iy h sat R
 ·rename_i f args ats;obtain⟨v,L,hv,_⟩:=dZ sat h;obtain⟨vs,G,R4,RS⟩:=rH sat L;have S7:(args.toArray).map a.eval=oK O vs:=by
   apply Array.ext';simp[oK,R4]
  have XO:∀(g:Nat) (args:(Nat->dq)->Array Value) (Fn:SV->Hp->Iv->World->Prop),Kr dr P B g args H nx iv w Fn->FE P B g args H nx iv w Fn:=fun g args Fn h=>by
   cases dr
   ·exact h
   ·exact cJ h
  split at G
  ·rename_i g first caps
   refine zQ sat (XO _ _ _ G) ?_ (fun v H' K V hK hs hv=>R _ _ _ _ _ _ _ hK hs hv);simp[execOp,resolve,hv,SV.den,At.den,Deferred.ofValue,invoke,S7]
  ·rename_i g ids;refine zQ sat (XO _ _ _ G) ?_ (fun v H' K V hK hs hv=>R _ _ _ _ _ _ _ hK hs hv);simp[execOp,resolve,hv,SV.den,At.den,Deferred.ofValue,invoke,S7]
  ·exact G.elim
end
def Ex.to:Ex->Exit
 | .normal=>.normal
 | .exit id=>.exit id
 | .ret=>.ret
def aAP(n:Nat)(o:Oper):Bool:=match o.dst with
 |some d=>Nat.blt d n
 |none=>true
def codeOk(n:Nat):Code->Bool
 | .region _ ops _=>ops.toList.all (aAP n)
 | .seq a b=>codeOk n a&&codeOk n b
 | .cond _ a b=>codeOk n a&&codeOk n b
 | .block _ c=>codeOk n c
 | .loop c=>codeOk n c
 |_=>true
section
variable{P:Program}{τ:nR}{B n nx:Nat}{l:Env}{H:Hp}{iv:Iv}{w J:World}{O:Nat->dq}{a:Act}
theorem Sat.put(sat:Sat n l H nx iv B w O a J){d:Nat}(hd:d<n){v:SV}(hv:v.sc nx):Sat n ((d,v)::l) H nx iv B w O (a.put (some d) (v.den O)) J:=by
 refine⟨sat.rel,by simp[Act.put,sat.size],sat.defers,fun t u h=>?_,fun t u h=>?_⟩
 ·rw[eh]at h;split at h
  ·rename_i e;subst e;injection h with h;subst h;simp[Act.put,sat.size,hd]
  ·rename_i e;have:=sat.env t u h;simpa [Act.put,Array.getElem?_setIfInBounds_ne e]using this
 ·rw[eh]at h;split at h
  ·injection h with h;subst h;exact hv
  ·exact sat.sc t u h
theorem ix(sat:Sat n l H nx iv B w O a J){v:SV}{k:Env->Prop}(h:Ez d v l k)(hd:∀t,d=some t->t<n)(hv:v.sc nx):
  ∃l',k l'/\Sat n l' H nx iv B w O (a.put d (v.den O)) J:=by
 unfold Ez at h;split at h
 ·rename_i t;exact⟨_,h,sat.put (hd t rfl) hv⟩
 ·exact⟨l,h,sat⟩
theorem s5:∀{all:List Oper} {j:Nat},CM all j=(all[j]?).bind (·.dst)
 |[],j=>by simp[CM]
 |o::r,0=>by simp[CM]
 |o::r,j+1=>by simp[CM,s5 (all:=r)]
theorem Sat.aAx(sat:Sat n l H nx iv B w O a J){d:Nat}{v:SV}(hd:a.tmps[d]? =some (v.den O))(hv:v.sc nx):Sat n ((d,v)::l) H nx iv B w O a J:=by
 refine⟨sat.rel,sat.size,sat.defers,fun t u h=>?_,fun t u h=>?_⟩
 ·rw[eh]at h;split at h
  ·rename_i e;subst e;injection h with h;subst h;exact hd
  ·exact sat.env t u h
 ·rw[eh]at h;split at h
  ·injection h with h;subst h;exact hv
  ·exact sat.sc t u h
theorem lA(sat:Sat n l H nx iv B w O a J){all:List Oper}{o:Oper}{yes no:Env->Prop}(h:tU all o.guard l yes no):
  (Region.wanted o (yielded all.toArray a.tmps)=true/\∃l',yes l'/\Sat n l' H nx iv B w O a J)\/(Region.wanted o (yielded all.toArray a.tmps)=false/\∃l',no l'/\Sat n l' H nx iv B w O a J):=by
 unfold tU at h;split at h
 ·rename_i Y;exact .inl ⟨by simp[Region.wanted,Y],l,h,sat⟩
 ·rename_i j want Y;have hy:Region.wanted o (yielded all.toArray a.tmps)=(yielded all.toArray a.tmps j==some want):=by simp[Region.wanted,Y]
  split at h
  ·rename_i hd;rw[s5]at hd;exact .inr ⟨by rw[hy];simp[yielded,hd],l,h,sat⟩
  ·rename_i d hd;rw[s5]at hd;split at h
   ·rename_i b hb;have ht:=sat.env d _ hb;have WH:yielded all.toArray a.tmps j=some b:=by simp[yielded,hd,ht,SV.den,At.den]
    have hkt:b=true->Sat n ((d,.o (.v (.bool true)))::l) H nx iv B w O a J:=fun e=>sat.aAx (by rw[ht,e]) trivial;have hkf:b=false->Sat n ((d,.o (.v (.bool false)))::l) H nx iv B w O a J:=fun e=>sat.aAx (by rw[ht,e]) trivial;split at h
    ·cases Oz:b
     ·exact .inr ⟨by rw[hy,WH,Oz];rfl,_,h.f Oz,hkf Oz⟩
     ·exact .inl ⟨by rw[hy,WH,Oz];rfl,_,h.t Oz,hkt Oz⟩
    ·cases Oz:b
     ·exact .inl ⟨by rw[hy,WH,Oz];rfl,_,h.f Oz,hkf Oz⟩
     ·exact .inr ⟨by rw[hy,WH,Oz];rfl,_,h.t Oz,hkt Oz⟩
   ·rename_i vs hb;have ht:=sat.env d _ hb;exact .inr ⟨by rw[hy];simp[yielded,hd,ht,SV.den,At.den],l,h,sat⟩
   ·exact h.elim
theorem qA(hτ:fo P τ){all:List Oper}{Fn:KT}{Q:Exit->Act->World->Prop}
  (hQ:∀l' H' On K V G8 a' w3,Fn l' H' On K V->Sat n l' H' On K B V G8 a' w3->Q .normal a' w3):
  ∀(rest:List Oper) (l:Env) (H:Hp) (nx:Nat) (iv:Iv) (w:World) (O:Nat->dq) (a:Act) (J:World),rest.all (aAP n)=true->IM P τ B all rest l H nx iv w Fn->Sat n l H nx iv B w O a J->
   wpList P all.toArray Q rest a J
 |[],l,H,nx,iv,w,O,a,J,_,h,sat=>wpList_nil (hQ _ _ _ _ _ _ _ _ h sat)
 |o::r,l,H,nx,iv,w,O,a,J,Of,h,sat=>by
  simp only[List.all_cons,av]at Of;have hd:∀t,o.dst=some t->t<n:=fun t ht=>by
   have:=Of.1;simp only[aAP,ht]at this;have h5:t+1<=n:=by simpa [Nat.blt]using this
   exact h5
  refine wpList_step fun Kc hKc=>?_;unfold IM iR at h;rcases lA sat h with⟨I,l1,L,sat1⟩|⟨I,l1,L,sat1⟩
  ·rw[if_pos I];refine oM hτ L sat1 fun v H' On K V G8 w3 G sat2 hv=>?_;obtain⟨l2,N,sat3⟩:=ix sat2 G hd hv;exact hKc _ _ (qA hτ hQ r _ _ _ _ _ _ _ _ Of.2 N sat3)
  ·rw[aH (by simp[I])];obtain⟨l2,N,sat3⟩:=ix sat1 L hd trivial;exact hKc _ _ (qA hτ hQ r _ _ _ _ _ _ _ _ Of.2 N sat3)
theorem Sub.sat{t:xD}(h:Sub B l nx O J t)(sat:Sat n l H nx iv B w O a J):∃G8,Sat n t.l t.H t.nx t.iv B t.w G8 a J:=by
 obtain⟨G8,L,G⟩:=h;refine⟨G8,L,sat.size,sat.defers,fun u v hv=>?_,fun u v hv=>(G u v hv).1⟩;obtain⟨_,v0,N,h4⟩:=G u v hv;rw[sat.env u v0 N,h4]
theorem iS(hτ:fo P τ):∀(c:Code) (l:Env) (H:Hp) (nx:Nat) (iv:Iv) (w:World) (Q':Ex->KT),nD P τ B c l H nx iv w Q'->codeOk n c=true->
  ∀(O:Nat->dq) (a:Act) (J:World),Sat n l H nx iv B w O a J->∀Q:Exit->Act->World->Prop,(∀e l' H' On K V G8 a' w3,Q' e l' H' On K V->Sat n l' H' On K B V G8 a' w3->Q e.to a' w3)->c.wp P Q a J
 | .skip,l,H,nx,iv,w,Q',h,_,O,a,J,sat,Q,hQ=>wp_skip (hQ .normal _ _ _ _ _ _ _ _ h sat)
 | .region id ops false,l,H,nx,iv,w,Q',h,Of,O,a,J,sat,Q,hQ=>by
  obtain⟨ol⟩:=ops;exact wp_region_lit (qA hτ (fun l' H' On K V G8 a' w3 D hs=>hQ .normal _ _ _ _ _ _ _ _ D hs) ol _ _ _ _ _ _ _ _ Of h sat)
 | .region id ops true,l,H,nx,iv,w,Q',h,Of,O,a,J,sat,Q,hQ=>
  zE.h h n O a J Of sat Q (fun l' H' On K V G8 a' w3 D hs=>hQ .normal _ _ _ _ _ _ _ _ D hs) id
 | .seq c d,l,H,nx,iv,w,Q',h,Of,O,a,J,sat,Q,hQ=>by
  simp only[codeOk,av]at Of;refine wp_seq (iS hτ c _ _ _ _ _ _ h Of.1 O a J sat _ fun e l' H' On K V G8 a' w3 D hs=>?_)
  cases e with
  |normal=>exact iS hτ d _ _ _ _ _ _ D Of.2 G8 a' w3 hs Q hQ
  |exit id=>exact hQ (.exit id) _ _ _ _ _ _ _ _ D hs
  |ret=>exact hQ .ret _ _ _ _ _ _ _ _ D hs
 | .cond x c d,l,H,nx,iv,w,Q',h,Of,O,a,J,sat,Q,hQ=>by
  simp only[codeOk,av]at Of;obtain⟨v,L,hv,R4⟩:=dZ sat h;clear R4;split at L
  ·rename_i t;refine wp_cond_split (t:=t) (by rw[hv];rfl) (fun ht=>?_) (fun ht=>?_)
   ·exact iS hτ c _ _ _ _ _ _ (L.t ht) Of.1 O a J sat Q hQ
   ·exact iS hτ d _ _ _ _ _ _ (L.f ht) Of.2 O a J sat Q hQ
  ·exact L.elim
 | .block id c,l,H,nx,iv,w,Q',h,Of,O,a,J,sat,Q,hQ=>by
  refine wp_block (iS hτ c _ _ _ _ _ _ h Of O a J sat _ fun e l' H' On K V G8 a' w3 D hs=>?_)
  cases e with
  |normal=>exact hQ .normal _ _ _ _ _ _ _ _ D hs
  |exit id'=>
   simp only[Ex.to,Exit.inBlock]
   simp only at D;split at D
   ·rename_i U;rw[if_pos (eX U)];exact hQ .normal _ _ _ _ _ _ _ _ D hs
   ·rename_i U;rw[aH (fun e=>by subst e;rw[Nat.beq_refl]at U;cases U)];exact hQ (.exit id') _ _ _ _ _ _ _ _ D hs
  |ret=>exact hQ .ret _ _ _ _ _ _ _ _ D hs
 | .loop c,l,H,nx,iv,w,Q',h,Of,O,a,J,sat,Q,hQ=>by
  obtain⟨α,st,μ,A',h0,hr⟩:=h;intro b k W;have key:∀m x O a J,μ x=m->A' x->Sat n (st x).l (st x).H (st x).nx (st x).iv B (st x).w O a J->
    ∃e a' V,Q e a' V/\Arrives P (lone (b.at a (.code c:: .inLoop c::k)) W J) b k W e a' V:=by
   intro m
   induction m using Nat.strongRecOn with
   |_ m ih=>
    intro x O a J hm hI hs;have hc:=iS hτ c _ _ _ _ _ _ (hr x hI) Of O a J hs
     (fun e a2 V=>match e with
      | .normal=>∃y GE,A' y/\Sat n (st y).l (st y).H (st y).nx (st y).iv B (st y).w GE a2 V/\μ y<μ x
      |e=>Q e a2 V) (fun e l' H' On K V G8 a' w3 D UL=>by
       cases e with
       |normal=>
        obtain⟨y,hIy,hy,Ow⟩:=D G8 w3 UL.rel;obtain⟨GE,Qm⟩:=hy.sat UL;exact⟨y,GE,hIy,Qm,Ow⟩
       |exit id=>exact hQ (.exit id) _ _ _ _ _ _ _ _ D UL
       |ret=>exact hQ .ret _ _ _ _ _ _ _ _ D UL)
    obtain⟨e,a₁,w₁,hq,TH⟩:=hc b (.inLoop c::k) W
    cases e with
    |normal=>
     obtain⟨y,GE,hIy,Qm,Ow⟩:=hq;obtain⟨e₂,a₂,w₂,hq₂,harr₂⟩:=ih (μ y) (hm▸Ow) y GE a₁ w₁ rfl hIy Qm;exact⟨e₂,a₂,w₂,hq₂,.of_steps (Steps.trans TH (.one step_inLoop)) harr₂⟩
    |exit id=>exact⟨_,a₁,w₁,hq,.pass (x:=.inLoop c) rfl (fun _ _=>.inl (by simp)) TH⟩
    |goto l=>exact⟨_,a₁,w₁,hq,.pass (x:=.inLoop c) rfl (fun _ _=>.inl (by simp)) TH⟩
    |ret=>exact⟨_,a₁,w₁,hq,.pass (x:=.inLoop c) rfl (fun _ _=>.inl (by simp)) TH⟩
    |panic ch=>exact⟨_,a₁,w₁,hq,.pass (x:=.inLoop c) rfl (fun _ _=>.inl (by simp)) TH⟩
    |outgrown=>exact⟨_,a₁,w₁,hq,.pass (x:=.inLoop c) rfl (fun _ _=>.inl (by simp)) TH⟩
  obtain⟨x,hIx,F⟩:=h0 O J sat.rel;obtain⟨GE,Qm⟩:=F.sat sat;obtain⟨e,a',V,hq,TH⟩:=key _ x GE a J rfl hIx Qm;exact⟨e,a',V,hq,.of_steps (.one step_loop) TH⟩
 | .exit id,l,H,nx,iv,w,Q',h,_,O,a,J,sat,Q,hQ=>wp_exit (hQ (.exit id) _ _ _ _ _ _ _ _ h sat)
 | .ret,l,H,nx,iv,w,Q',h,_,O,a,J,sat,Q,hQ=>wp_ret (hQ .ret _ _ _ _ _ _ _ _ h sat)
 | .rangeFunc _ _ _ _,l,H,nx,iv,w,Q',h,_,O,a,J,sat,Q,hQ=>h.elim
 | .scope _,l,H,nx,iv,w,Q',h,_,O,a,J,sat,Q,hQ=>h.elim
 | .label _,l,H,nx,iv,w,Q',h,_,O,a,J,sat,Q,hQ=>h.elim
 | .goto _,l,H,nx,iv,w,Q',h,_,O,a,J,sat,Q,hQ=>h.elim
 | .refuse _,l,H,nx,iv,w,Q',h,_,O,a,J,sat,Q,hQ=>h.elim
def fW:Nat->List Value->Env
 |_,[]=>[]
 |k,v::r=>(k,.o (.v v))::fW (k+1) r
theorem s6:∀(vs:List Value) (k t:Nat) (v:SV),fm (fW k vs) t=some v->k<=t/\∃x,v= .o (.v x)/\vs[t-k]? =some x
 |[],k,t,v,h=>by simp[fW,fm]at h
 |x::r,k,t,v,h=>by
  rw[fW,eh]at h;split at h
  ·rename_i e;subst e;injection h with h;subst h;exact⟨Nat.le_refl _,x,rfl,by simp⟩
  ·obtain⟨L,y,G,N⟩:=s6 r (k+1) t v h;refine⟨by omega,y,G,?_⟩;rw[show t-k=(t-(k+1))+1 by omega];simpa using N
def FN(τ:nR)(B:Nat)(l:Env)(H:Hp)(nx:Nat)(iv:Iv)(w:World):List ResultVar->(List SV->Prop)->Prop
 |[],k=>k []
 | .tmp t::r,k=>match fm l t with
  |some v=>FN τ B l H nx iv w r (fun vs=>k (v::vs))
  |none=>False
 | .cell t ty::r,k=>match fm l t with
  |some v=>CL τ B ty v H nx iv w (fun u=>FN τ B l H nx iv w r (fun vs=>k (u::vs)))
  |none=>False
def Kv(B:Nat)(H:Hp)(nx:Nat)(iv:Iv)(w:World)(EQ:Ending->World->Prop):List SV->Prop
 |[v]=>∀O J,Rel H nx iv B w O J->EQ (.returned (v.den O)) J
 |vs=>∀O J,Rel H nx iv B w O J->EQ (.returned (.tuple (oK O vs))) J
def aAQ(τ:nR)(B:Nat)(rs:List ResultVar)(EQ:Ending->World->Prop):Ex->KT
 | .exit _,_,_,_,_,_=>False
 | .normal,l,H,nx,iv,w=>FN τ B l H nx iv w rs (Kv B H nx iv w EQ)
 | .ret,l,H,nx,iv,w=>FN τ B l H nx iv w rs (Kv B H nx iv w EQ)
def Kw(tmps:Array Value):ResultVar->Sem Value
 | .tmp t=>pure (tmps.getD t undef)
 | .cell c t=>do loadVar t (<-asAddr (tmps.getD c undef))
theorem vX(hτ:fo P τ)(sat:Sat n l H nx iv B w O a J):∀{rs:List ResultVar} {k:List SV->Prop},FN τ B l H nx iv w rs k->
  ∃vs,k vs/\(rs.mapM (Kw a.tmps)).run P J= .ok (vs.map (SV.den O)) J
 |[],k,h=>⟨[],h,by simp⟩
 | .tmp t::r,k,h=>by
  unfold FN at h;split at h
  ·rename_i v hv;obtain⟨vs,L,G⟩:=vX hτ sat h;have:=sat.env t v hv;exact⟨v::vs,L,by rw[List.mapM_cons,Sem.run_bind];simp[Kw,this,G]⟩
  ·exact h.elim
 | .cell t ty::r,k,h=>by
  unfold FN at h;split at h
  ·rename_i v hv;obtain⟨u,L,hu,XP⟩:=oR hτ sat.rel (sat.sc t v hv) h;have Ot:=XP J sat.rel;clear XP;obtain⟨vs,G,N⟩:=vX hτ sat L;have htm:=sat.env t v hv;refine⟨u::vs,G,?_⟩;have:(do loadVar ty (<-asAddr (v.den O)):Sem Value).run P J= .ok (u.den O) J:=by
    revert Ot;generalize v.den O=x;intro Ot
    cases x with
    |pointer ad=>
     cases ad with
     |some ad=>simpa [asAddr,Instr.loadAt,Instr.sureAddr]using Ot
     |none=>simp[Instr.loadAt,Instr.sureAddr]at Ot
    |_=>simp[Instr.loadAt,Instr.sureAddr]at Ot
   have h4:(Kw a.tmps (.cell t ty)).run P J= .ok (u.den O) J:=by
    have e:a.tmps.getD t undef=v.den O:=by simp[htm]
    show(do loadVar ty (<-asAddr (a.tmps.getD t undef)):Sem Value).run P J=_;rw[e];exact this
   rw[List.mapM_cons,Sem.run_bind,h4];simp[N]
  ·exact h.elim
theorem FO(hτ:fo P τ){f:FuncId}{fn:Func}{c:Code}{args:Array Value}{w:World}(hf:P.funcs[f]? =some fn)(hb:fn.body=some c)
  (R:args.size<=fn.ntmps) (Of:codeOk fn.ntmps c=true) (h:nD P τ w.heap.size c (fW 0 args.toList) [] 0 [] w (aAQ τ w.heap.size fn.results.toList EQ)):Calls P f args w EQ:=by
 refine calls_of_wp hf hb ?_;have sat:Sat fn.ntmps (fW 0 args.toList) [] 0 [] w.heap.size w (fun _=>⟨0,0,true⟩) {tmps:=args++Array.replicate (fn.ntmps-args.size) undef,defers:=[]} w:=by
  refine⟨Rel.mk' rfl rfl rfl (Nat.le_refl _) (Nat.le_refl _) (by simp) (by simp[dG]) (by simp[dG]) (by simp[dG]) (by simp[dG]) (by simp[dG]) (fun _ _ _=>rfl) (by simp),by simp;omega,rfl,fun t v hv=>?_,fun t v hv=>?_⟩
  ·obtain⟨_,x,rfl,F⟩:=s6 _ 0 t v hv;simp only[Nat.sub_zero,bG]at F;rw[Array.getElem?_append_left (aZ.1 F).1,F];rfl
  ·obtain⟨_,x,rfl,F⟩:=s6 _ 0 t v hv;trivial
 refine iS hτ c _ _ _ _ _ _ h Of _ _ _ sat _ fun e l' H' On K V G8 a' w3 D hs=>?_;have fin:FN τ w.heap.size l' H' On K V fn.results.toList (Kv w.heap.size H' On K V EQ)->a'.defers=[]/\∃v,(results fn a'.tmps).run P w3= .ok v w3/\EQ (.returned v) w3:=by
  intro D;obtain⟨vs,L,G⟩:=vX hτ hs D;refine⟨hs.defers,if PN:(vs.map (SV.den G8)).toArray.size=1 then(vs.map (SV.den G8)).toArray[0]else .tuple (vs.map (SV.den G8)).toArray,?_,?_⟩
  ·have e:(fn.results.mapM (Kw a'.tmps)).run P w3= .ok (vs.map (SV.den G8)).toArray w3:=by
    rw[Array.mapM_eq_mapM_toList];simp only[Sem.run_map,G,Result.andThen_ok]
   show(do let vs <-fn.results.mapM (Kw a'.tmps);pure (if h:vs.size=1 then vs[0]else .tuple vs):Sem Value).run P w3=_;rw[Sem.run_bind,e];simp only[Result.andThen_ok,Sem.run_pure]
  ·match vs,L with
   |[v],L=>simpa using L G8 w3 hs.rel
   |[],L=>simpa [oK]using L G8 w3 hs.rel
   |v1::v2::r,L=>simpa [oK]using L G8 w3 hs.rel
 cases e with
 |normal=>exact fin D
 |exit id=>exact D.elim
 |ret=>exact fin D
end
section
variable{P:Program}{ops:Array Oper}{Q:Exit->Act->World->Prop}{md:Region.Mode}
def iT(P:Program)(ops:Array Oper)(pu:Bool)(o:Oper)(v:Value)(a:Act)(w:World):Prop:=
 (Region.wanted o (yielded ops a.tmps)=true/\∀V,(pu=true\/Ext w V)->(execOp a.eval o).run P V= .ok (.value v) V)\/
 (Region.wanted o (yielded ops a.tmps)=false/\v=undef)
theorem Ext.refl(w:World):Ext w w:=RowKit.Below.refl _ _
theorem Ext.trans{a b c:World}(h:Ext a b)(k:Ext b c):Ext a c:=RowKit.Below.trans h (k.mono h.size)
theorem iT.wpOp{i:Nat}{o:Oper}{a:Act}(A:ops[i]? =some o)(hy:iT P ops pu o v a w)
  {Fn:Act->World->Prop} (h:Fn (a.put o.dst v) w):wpOp P ops Q i Fn a w:=by
 unfold Go.wpOp;simp only[A]
 rcases hy with⟨I,hv⟩|⟨I,rfl⟩
 ·simp only[I,if_true,Oper.wp,hv w (.inr (Ext.refl w)),Oper.upon];exact .inl h
 ·simp only[I,Bool.false_eq_true,if_false];exact h
theorem iT.of_same{o:Oper}{a a':Act}(hy:iT P ops pu o v a w)(U:execOp a'.eval o=execOp a.eval o)
  (I:Region.wanted o (yielded ops a'.tmps)=Region.wanted o (yielded ops a.tmps)):iT P ops pu o v a' w:=by
 unfold iT at*
 rw[U,I];exact hy
theorem iT.ext{o:Oper}{a:Act}(hy:iT P ops pu o v a w)(e:pu=true\/Ext w V):iT P ops pu o v a V:=
 hy.imp (fun ⟨L,G⟩=>⟨L,fun w3 N=>G w3 (by
  rcases N with N|N
  ·exact .inl N
  ·exact e.imp id (fun e=>e.trans N))⟩) id
theorem Ja{oi oj:Oper}{w0:World}(hj:ops[j]? =some oj)(R5:oi.apart ops oj=true)
  (hsi:∀W b,oi.op≠ .select W b) (hsj:∀W b,oj.op≠ .select W b)
  (hQ:∀c a w,Q (.panic c) (a.put oi.dst v) w->Q (.panic c) a w) {Fn:Act->World->Prop} {a:Act}
  (hy:iT P ops pu oi v a w0) (h:wpOp P ops Q j Fn (a.put oi.dst v) w):
  wpOp P ops Q j (fun a' J=>iT P ops pu oi v a' w0/\Fn (a'.put oi.dst v) J) a w:=by
 obtain⟨L,G,N⟩:=Oper.apart_spec R5;have cK:∀(a:Act),iT P ops pu oi v a w0->∀u,iT P ops pu oi v (a.put oj.dst u) w0:=fun a hy u=>
  hy.of_same (execOp_put oi hsi a oj.dst u N) (wanted_put oi a oj.dst u N)
 have keepD:∀d,iT P ops pu oi v {a with defers:=d::a.defers} w0:=fun d=>hy.of_same rfl rfl;unfold wpOp at*
 simp only[hj]at*
 rw[wanted_put oj a oi.dst v L]at h;split
 ·rename_i I;simp only[I,if_true]at h;rcases h with h|⟨TJ,VQ⟩
  case inr=>exact .inr ⟨by unfold Oper.asks at *;rw[execOp_put oj hsj a oi.dst v L]at TJ;exact TJ,VQ⟩
  refine .inl ?_;unfold Oper.wp at*
  rw[execOp_put oj hsj a oi.dst v L]at h;generalize (execOp a.eval oj).run P w=r at*
  cases r with
  |ok n J=>
   cases n<;>simp only[Oper.upon]at h ⊢
   case value u=>exact⟨cK a hy u,by rw[<-Act.put_comm a v u G];exact h⟩
   case skip=>exact⟨cK a hy _,by rw[<-Act.put_comm a v undef G];exact h⟩
   case defer d=>
    refine⟨cK _ (keepD d) _,?_⟩;rw[<-Act.put_comm _ v undef G,<-Act.put_defers];exact h
   case enter f args=>
    refine Calls.mono h fun e w'' U=>?_
    cases e with
    |returned u=>exact⟨cK a hy u,by rw[<-Act.put_comm a v u G];exact U⟩
    |panicked c=>exact hQ _ _ _ U
    |outgrown=>exact U
   case row row args=>exact Rows.mono h fun u w'' U=>⟨cK a hy u,by rw[<-Act.put_comm a v u G];exact U⟩
  |halt x J=>
   cases x<;>simp only[Oper.upon]at h ⊢
   case panic u=>exact hQ _ _ _ h
 ·rename_i I;simp only[I]at h;exact⟨cK a hy _,by rw[<-Act.put_comm a v undef G];exact h⟩
def rf(o:Oper):Bool:= !(vQ o.op||NJ o.op||(match o.op with
 | .call ⟨.value _,_,_⟩=> !(Nat.beq o.type 0)
 |_=>false))
def gL(o:Oper):Bool:=match o.op with
 | .call ⟨.value _,_,_⟩=>Nat.beq o.type 0
 |_=>false
theorem sY{o:Oper}(h:vQ o.op=true):gL o=false:=by
 unfold gL;split
 ·rename_i e;rw[e]at h
  cases h
 ·rfl
theorem Gw{o:Oper}(h:NJ o.op=true):gL o=false:=by
 unfold gL;split
 ·rename_i e;rw[e]at h
  cases h
 ·rfl
theorem sC{o:Oper}(h:rf o=false):gL o=false:=by
 unfold gL;split
 ·rename_i e;simp only[rf,e,vQ,NJ,Bool.false_or,Bool.not_not]at h;exact h
 ·rfl
def vS(P:Program)(md:Region.Mode)(ops:Array Oper)(Q:Exit->Act->World->Prop):Nat->Array Bool->Act->World->Prop
 |0,listed,a,w=>Region.ready md ops listed=[]/\Q .normal a w
 |fuel+1,listed,a,w=>
  (Region.ready md ops listed=[]->Q .normal a w)/\
  ∀i∈Region.ready md ops listed,wpOp P ops Q i (fun a' J=>((∀o,ops[i]? =some o->rf o=false)->Ext w J)/\vS P md ops Q fuel (listed.setIfInBounds i true) a' J) a w
theorem zF:∀(fuel:Nat) (listed:Array Bool) (a:Act) (w:World),vS P md ops Q fuel listed a w->wpAny P md ops Q fuel listed a w
 |0,_,_,_,h=>h
 |fuel+1,_,_,_,h=>⟨h.1,fun i A=>wpOp_mono (fun a' J h'=>zF fuel _ a' J h'.2) (h.2 i A)⟩
theorem tV{i:Nat}{oi:Oper}(A:ops[i]? =some oi)(Pb:∀(j:Nat) (o:Oper) W b,ops[j]? =some o->o.op≠ .select W b)
  (hQ:∀c a w,Q (.panic c) (a.put oi.dst v) w->Q (.panic c) a w) (vR:Nat->Prop) (QM:∀j,vR j->∃oj e,ops[j]? =some oj/\e∈oj.after/\Region.binds md e=true/\(e.on=i\/vR e.on)):
  ∀(fuel:Nat) (listed:Array Bool) (a:Act) (w:World),(∀j,vR j->listed.getD j false=false)->
   (∀j oj,ops[j]? =some oj->j≠i->listed.getD j true=false->¬vR j->oi.apart ops oj=true/\(pu=true\/rf oj=false))->
   i∈Region.ready md ops listed->iT P ops pu oi v a w->
   vS P md ops Q fuel (listed.setIfInBounds i true) (a.put oi.dst v) w->vS P md ops Q (fuel+1) listed a w:=by
 intro fuel
 induction fuel with
 |zero=>
  intro listed a w _ _ hr hy H;refine⟨fun h=>(by rw[h]at hr;cases hr),fun j hj=>?_⟩;by_cases Ph:j=i
  ·subst Ph;exact hy.wpOp A ⟨fun _=>Ext.refl w,H⟩
  ·have:=ready_mono hj Ph;rw[H.1]at this
   cases this
 |succ fuel ih=>
  intro listed a w PD Rg hr hy H;refine⟨fun h=>(by rw[h]at hr;cases hr),fun j hj=>?_⟩;by_cases Ph:j=i
  ·subst Ph;exact hy.wpOp A ⟨fun _=>Ext.refl w,H⟩
  ·have L:=H.2 j (ready_mono hj Ph);obtain⟨VR,oj,R1,Pc⟩:=mem_ready.1 hj;have Pa:¬vR j:=fun hb=>by
    obtain⟨oj',e,S8,U,hbi,VB⟩:=QM j hb;rw[R1]at S8;injection S8 with S8;subst S8;have L:=Pc e U hbi;rcases VB with heq|Q5
    ·have h0:=(mem_ready.1 hr).1;rw[heq]at L;rcases aO i listed.size with h'|h'
     ·simp[h']at h0 L;rw[h0]at L;cases L
     ·simp[Array.getElem?_eq_none h']at L
    ·rw[PD _ Q5]at L;cases L
   have TZ:=Rg j oj R1 Ph VR Pa;have G:=Ja R1 TZ.1 (fun W b=>Pb i oi W b A) (fun W b=>Pb j oj W b R1) hQ hy L;have hbl':∀k,vR k->(listed.setIfInBounds j true).getD k false=false:=fun k D=>by
    rw[getD_set_ne false (fun e=>(by subst e;exact Pa D))];exact PD k D
   have To:∀k ok,ops[k]? =some ok->k≠i->(listed.setIfInBounds j true).getD k true=false->
     ¬vR k->oi.apart ops ok=true/\(pu=true\/rf ok=false):=fun k ok D WI VL TA=>by
    refine Rg k ok D WI ?_ TA;by_cases Sb:j=k
    ·subst Sb;exact VR
    ·rw[getD_set_ne true Sb]at VL;exact VL
   refine wpOp_mono (fun a' J N=>?_) G;have Sl:rf oj=false->Ext w J:=fun hf=>N.2.1 (fun o ho=>by rw[R1]at ho;injection ho with ho;subst ho;exact hf);refine⟨fun hh=>Sl (hh oj R1),ih (listed.setIfInBounds j true) a' J hbl' To (ready_mono hr (Ne.symm Ph)) (N.1.ext (TZ.2.imp id Sl)) ?_⟩;rw[Array.setIfInBounds_comm _ _ Ph];exact N.2.2
end
section
variable{P:Program}{τ:nR}{B n nx:Nat}{l:Env}{H:Hp}{iv:Iv}{w J:World}{O:Nat->dq}{a:Act}
def AL(P:Program)(o:Oper)(a:Act)(mk:Nat->Value)(obj:Obj):Prop:=
 ∀w:World,(execOp a.eval o).run P w= .ok (.value (mk w.heap.size)) (w.alloc obj)
theorem AL.uniq{o:Oper}{mk':Nat->Value}{obj':Obj}(h:AL P o a mk obj)(h':AL P o a mk' obj'):obj=obj'/\mk=mk':=by
 have key:∀w:World,mk w.heap.size=mk' w.heap.size/\w.alloc obj=w.alloc obj':=fun w=>by
  have:=(h w).symm.trans (h' w);injection this with L G;injection L with L;exact⟨L,G⟩
 refine⟨?_,funext fun g=>?_⟩
 ·have:=(key default).2;have G:=congrArg (fun w:World=>w.heap[(default:World).heap.size]?) this;simp only[heap_alloc_new]at G;injection G
 ·have:=(key {(default:World)with heap:=Array.replicate g default}).1;simpa using this
theorem oL(hτ:fo P τ){o:Oper}(h:yw dr P τ B o l H nx iv w Fn)(sat:Sat n l H nx iv B w O a J)(D:NJ o.op=true):
  ∃b v mk obj,Fn v ((nx,b)::H) (nx+1) iv w/\b≠ .dead/\b.scopd nx/\v.sc (nx+1)/\(∀g,v.den (gT O nx ⟨g,0,false⟩)=mk g)/\(∀g V,V.heap[g]? =some obj->b.fits O ⟨g,0,false⟩ V)/\AL P o a mk obj:=by
 obtain⟨dst,op,ty,pos,after,guard⟩:=o;unfold yw at h;split at h<;>first|(exact False.elim h)|(rename_i UI;simp only at UI;subst UI)
 all_goals first|(exact absurd D Bool.false_ne_true)|skip
 ·rename_i t;split at h
  ·rename_i sz ag by_ ze tag ik e al fs Qp;have hK:=fy h;refine⟨_,_,fun g=>.pointer (some ⟨g,0,none⟩),.cells ze.toArray t,hK,by simp,(fun c hc=>by obtain⟨v,_,rfl⟩:=aU.1 hc;trivial),by simp[SV.sc,At.sc],fun g=>by simp[SV.den,At.den],fun g V Y=>⟨rfl,by rw[fu];exact Y⟩,fun w=>?_⟩;obtain⟨z,PF,QD⟩:=(hτ t _ Qp).zeroV w;simp only at QD;have hzz:z.cells=ze.toArray:=by apply Array.ext';simpa using QD
   simp[execOp,Instr.alloc,PF,newVar,newRow,hzz]
  ·exact h.elim
 ·rename_i t x;obtain⟨v,L,hv,hs⟩:=dZ sat h;obtain⟨W,hK,Pm,RS⟩:=mT L;refine⟨_,_,fun g=>.pointer (some ⟨g,0,none⟩),.cells (W.map (At.den O)).toArray t,hK,by simp,RS nx hs,by simp[SV.sc,At.sc],fun g=>by simp[SV.den,At.den],fun g V Y=>⟨rfl,Y⟩,fun w=>?_⟩;simp[execOp,Instr.box,hv,newVar,newRow,Pm O]
 ·rename_i t m parts;split at h
  ·rename_i sz ag by_ ze tag ik e al fs Qp;have ht:=hτ t _ Qp;split at h
   ·rename_i PO;have hu:=ht.i4 (eX PO);simp only at hu;split at h
    ·rename_i sz' ag' by' ze' tag' ik' e' al' fs' Px
     have Px:=hτ e _ Px;obtain⟨inf,z,A,PN,PB,hz,R8⟩:=Px.info;have R9:=Px.Gy;simp only at PN PB R8 R9;split at h
     ·rename_i hle;have hle:=Nat.le_of_ble_eq_true hle;have h0:=fy h;obtain⟨cs',hK,PS,hlen,QP⟩:=k8 sat (placeF:=fun i=>some (i*inf.size,inf.size)) (fun i k D=>⟨i*sz',sz',D,by rw[PN]⟩) h0
       (fun c hc=>by obtain⟨v,_,rfl⟩:=aU.1 hc;trivial)
      rw[fu]at QP;have RT:z.cells=ze'.toArray:=by apply Array.ext';simpa using R8
      have VP:((List.replicate m ze').flatten).toArray=madeCells z.cells (m*inf.size):=by
       rw[RT,PN,<-R9];exact(rK ze' m).symm
      refine⟨_,_,fun g=>.slice (some ⟨g,0,none⟩) m m,.cells (cs'.map (At.den O)).toArray e,hK,by simp,PS,by simp[SV.sc,At.sc],fun g=>by simp[SV.den,At.den],fun g V Y=>⟨rfl,Y⟩,fun w=>?_⟩;simp only[execOp]
      refine mU ?_;rw[VP]at QP;by_cases QI:m*inf.size=0
      ·have SF:Instr.fill (fun i=>some (i*inf.size,inf.size)) (madeCells z.cells 0) (parts.toList.map fun p=>(p.1,a.eval p.2))=some (cs'.map (At.den O)).toArray:=by rw[QI]at QP;exact QP
       have e0:madeCells z.cells 0= #[]:=by simp[madeCells]
       rw[e0]at SF;have er:Array.range 0= #[]:=rfl;simp[Instr.buildSlice,run_underlying hu,sizeOf,typeInfo,zeroValue,A,hz,QI,newRow,SF,er]
      ·exact run_buildSlice w t e m _ _ inf z hu A hz (by rw[PN];omega) QI (by rw[<-QP];simp[madeCells])
     ·exact h.elim
    ·exact h.elim
   ·exact h.elim
  ·exact h.elim
 ·rename_i t x y;obtain⟨v,L,hv,R4⟩:=dZ sat h;obtain⟨u,G,hu,hus⟩:=dZ sat L;clear R4 hus;unfold IL at G;split at G
  ·rename_i k1 a1 k2 b1;split at G
   ·rename_i sz ag by_ ze tag ik e al fs Qp;have ht:=hτ t _ Qp;split at G
    ·rename_i PO;have hut:=ht.i4 (eX PO);simp only at hut;split at G
     ·rename_i sz' ag' by' ze' tag' ik' e' al' fs' Px
      have Px:=hτ e _ Px;obtain⟨inf,z,A,PN,PB,hz,R8⟩:=Px.info;simp only at PN PB R8;obtain⟨m,c,rfl,rfl,VO,hbytes,h63,N⟩:=G;have Qq:(inf.bytes:Int)*(c:Int)<=281474976710656:=by
       rw[PB];have Q5:((by'*c:Nat):Int)<=281474976710656:=by omega
       rwa [Int.natCast_mul]at Q5
      have Ot:=fun w:World=>run_make (P:=P) w t e inf z hut A hz k1 k2 (m:Int) (c:Int) (by omega) (by omega) Qq (by omega);simp only[aE]at Ot;have R9:=Px.Gy;simp only at R9;have RT:z.cells=ze'.toArray:=by apply Array.ext';simpa using R8
      have fin:∀W:List Value,W.toArray=madeCells z.cells (c*inf.size)->B7 (.arr e W) H nx (fun H' On=>Fn (.o (.s nx 0 m c)) H' On iv w)->
        ∃b v mk obj,Fn v ((nx,b)::H) (nx+1) iv w/\b≠ .dead/\b.scopd nx/\v.sc (nx+1)/\(∀g,v.den (gT O nx ⟨g,0,false⟩)=mk g)/\(∀g V,V.heap[g]? =some obj->b.fits O ⟨g,0,false⟩ V)/\
         AL P ⟨dst,.makeSlice t x y,ty,pos,after,guard⟩ a mk obj:=by
       intro W PS hK;refine⟨_,_,fun g=>.slice (some ⟨g,0,none⟩) m c,.cells W.toArray e,hK,by simp,trivial,by simp[SV.sc,At.sc],fun g=>by simp[SV.den,At.den],fun g V Y=>⟨rfl,Y⟩,fun w=>?_⟩;simp only[execOp,hv,hu]
       refine mU ?_;rw[show SV.den O (.o (.v (.int k1 m)))= .int k1 m from rfl,show SV.den O (.o (.v (.int k2 c)))= .int k2 c from rfl,Ot w,PS]
      split at N
      ·rename_i z0;refine fin _ ?_ N;have:inf.size=1:=by rw[PN,<-R9];rfl
       rw[this,aV,RT,FM]
      ·refine fin _ ?_ N;rw[PN,<-R9,RT,rK]
     ·exact G.elim
    ·exact G.elim
   ·exact G.elim
  ·exact G.elim
end
inductive It where
 |x (i:Nat)
 |p (i:Nat)
def Es:Env->Nat->(Env->Prop)->Prop
 |[],_,k=>k []
 |(t,v)::r,u,k=>match Nat.beq t u with
  |true=>Es r u k
  |false=>Es r u (fun r'=>k ((t,v)::r'))
def aBR(d:Option Tmp)(l:Env)(k:Env->Prop):Prop:=match d with
 |some t=>Es l t k
 |none=>k l
def sU:List Oper->Nat->(Oper->Prop)->Prop
 |[],_,_=>False
 |o::_,0,k=>k o
 |_::r,n+1,k=>sU r n k
def Ki(P:Program)(τ:nR)(B:Nat)(all:List Oper):List It->Env->Hp->Nat->Iv->World->KT->Prop
 |[],l,H,nx,iv,w,Fn=>Fn l H nx iv w
 | .x i::r,l,H,nx,iv,w,Fn=>sU all i (fun o=>iR (!gL o) P τ B all o l H nx iv w (fun l' H' On K J=>Ki P τ B all r l' H' On K J Fn))
 | .p i::r,l,H,nx,iv,w,Fn=>sU all i (fun o=>yw true P τ B o l H nx iv w (fun _ _ _ _ _=>aBR o.dst l (fun l'=>Ki P τ B all r l' H nx iv w Fn)))
def JJ(ops:Array Oper)(o:Oper)(j:Nat):Bool:=match ops[j]? with
 |some oj=>o.apart ops oj
 |none=>false
def Et(la:Array Bool):List Nat->Array Bool
 |[]=>la
 |i::r=>Et (la.setIfInBounds i true) r
def tb(m j:Nat):Bool:=Nat.beq ((m >>> j) % 2) 1
def jF:List Bool->Nat->Nat
 |[],_=>0
 |true::r,j=>(1 <<< j) ||| jF r (j+1)
 |false::r,j=>jF r (j+1)
def B5(m i:Nat):List Oper->Nat->Nat->Nat
 |[],_,b=>b
 |o::r,j,b=>match(!tb m j&& !Nat.beq j i)&&o.after.toList.any (fun e=>Region.binds .any e&&(Nat.beq e.on i||tb b e.on))with
  |true=>B5 m i r (j+1) (b ||| (1 <<< j))
  |false=>B5 m i r (j+1) b
def IH(ops:Array Oper)(m i:Nat)(oi:Oper)(b:Nat):List Oper->Nat->Bool
 |[],_=>true
 |oj::r,j=>(Nat.beq j i||tb m j||tb b j||(oi.apart ops oj&&(JK oi.op|| !rf oj)))&&IH ops m i oi b r (j+1)
def OO(ops:Array Oper)(m:Nat)(Pd:List Nat)(i:Nat)(oi:Oper)(b:Nat):Bool:=Pd.all (fun j=> !tb b j)&&IH ops m i oi b ops.toList 0
def II(ops:Array Oper)(m:Nat)(Pd:List Nat)(i:Nat)(oi:Oper):Bool:=OO ops m Pd i oi (B5 m i ops.toList 0 0)
def pg(ops:Array Oper):List It->Array Bool->List Nat->Bool
 |[],lx,Pd=>(Region.ready .any ops lx).isEmpty&&Pd.isEmpty
 | .p i::r,lx,Pd=>match ops[i]? with
  |none=>false
  |some o=>NJ o.op&&o.guard.isNone&&(match o.dst with
     |some d=> !(o.looksAt ops).contains d
     |none=>false)&&(!lx.getD i true)&&Pd.all (fun j=> !Nat.beq j i)&&
    Pd.all (fun j=>JJ ops o j&&(match ops[j]? with
     |some oj=>oj.apart ops o
     |none=>false))&&pg ops r lx (i::Pd)
 | .x i::r,lx,Pd=>match ops[i]? with
  |none=>false
  |some o=>(o.guard.isNone||Pd.isEmpty)&&(Region.ready .any ops lx).contains i&&
    Pd.all (fun j=>Nat.beq j i||JJ ops o j)&&
    (match vQ o.op with
     |true=>II ops (jF lx.toList 0) Pd i o
     |false=>(!rf o||Pd.isEmpty)&&(Region.ready .any ops (Et lx (Pd.filter fun j=> !Nat.beq j i))).all (fun j=>Nat.beq j i))&&
    pg ops r (lx.setIfInBounds i true) (Pd.filter fun j=> !Nat.beq j i)
theorem nS(h:j<la.size)(b c:Bool):la.getD j b=la.getD j c:=by
 rw[ai,ai,Array.getElem?_eq_getElem h];rfl
theorem nT{a b:Nat}:Nat.beq a b=false↔a≠b:=⟨fun h e=>(by subst e;rw[Nat.beq_refl]at h;cases h),fun h=>by
 cases hb:Nat.beq a b with
 |false=>rfl
 |true=>exact absurd (eX hb) h⟩
theorem Kj{a b:Nat}(h:b<a):Nat.ble a b=false:=by
 cases hb:Nat.ble a b with
 |false=>rfl
 |true=>exact absurd (Nat.le_of_ble_eq_true hb) (by omega)
theorem sW(m j:Nat):tb m j=m.testBit j:=by
 rw[Nat.testBit_eq_decide_div_mod_eq,tb,Nat.shiftRight_eq_div_pow]
 cases h:decide (m / 2^j % 2=1)with
 |true=>rw[aK h];rfl
 |false=>exact nT.2 (aG h)
theorem Eu(a b j:Nat):tb (a ||| b) j=(tb a j||tb b j):=by rw[sW,sW,sW,Nat.testBit_or]
theorem Gs(i j:Nat):tb (1 <<< i) j=Nat.beq j i:=by
 rw[sW,Nat.one_shiftLeft,Nat.testBit_two_pow]
 cases h:Nat.beq j i with
 |true=>exact bX (eX h).symm
 |false=>exact bM fun e=>(nT.1 h) e.symm
theorem tT(j:Nat):tb 0 j=false:=by rw[sW,Nat.zero_testBit]
theorem Ev:∀(l:List Bool) (k j:Nat),tb (jF l k) j=(Nat.ble k j&&l.getD (j-k) false)
 |[],k,j=>by unfold jF;rw[tT];simp
 |b::r,k,j=>by
  have e:tb (jF (b::r) k) j=((b&&Nat.beq j k)||tb (jF r (k+1)) j):=by
   cases b<;>simp only[jF,Eu,Gs,Bool.false_and,Bool.true_and,Bool.false_or]
  rw[e,Ev r (k+1) j];rcases cC j k with h|h|h
  ·rw[nT.2 (by omega),Bool.and_false,Bool.false_or,Kj (by omega),Kj (by omega)];rfl
  ·subst h;rw[Nat.beq_refl,Kj (by omega),Nat.ble_eq_true_of_le (Nat.le_refl j),bJ];simp
  ·rw[nT.2 (by omega),Bool.and_false,Bool.false_or,Nat.ble_eq_true_of_le (show k+1<=j from h),Nat.ble_eq_true_of_le (Nat.le_of_lt h),show j-k=(j-(k+1))+1 by omega,List.getD_cons_succ]
def Rm(lx:Array Bool)(m:Nat):Prop:=∀j,tb m j=lx.getD j false
theorem ya(lx:Array Bool):Rm lx (jF lx.toList 0):=fun j=>by
 rw[Ev,show Nat.ble 0 j=true from Nat.ble_eq_true_of_le (aQ j),Bool.true_and,Nat.sub_zero,ai,List.getD,bG]
theorem Rm.eq{m':Nat}(h:Rm lx m)(h':Rm lx m'):m=m':=Nat.eq_of_testBit_eq fun j=>by rw[<-sW,<-sW,h,h']
theorem nU{ops:Array Oper}{m i:Nat}:∀(l:List Oper) (k b:Nat),(∀n o,l[n]? =some o->ops[k+n]? =some o)->
  (∀j,tb b j=true->tb m j=false/\j≠i/\∃oj e,ops[j]? =some oj/\e∈oj.after/\Region.binds .any e=true/\(e.on=i\/∃b2,tb b2 e.on=true/\b2=b))->
  ∀j,tb (B5 m i l k b) j=true->tb m j=false/\j≠i/\∃oj e,ops[j]? =some oj/\e∈oj.after/\Region.binds .any e=true/\(e.on=i\/tb (B5 m i l k b) e.on=true)
 |[],k,b,_,h,j,hj=>by
  obtain⟨L,G,oj,e,N,h4,h5,h6⟩:=h j hj;exact⟨L,G,oj,e,N,h4,h5,h6.imp id fun⟨_,h7,h8⟩=>h8▸h7⟩
 |o::r,k,b,hl,h,j,hj=>by
  have hr:∀n o',r[n]? =some o'->ops[k+1+n]? =some o':=fun n o' R=>by
   have:=hl (n+1) o' (by simpa using R)
   rwa [show k+(n+1)=k+1+n by omega]at this
  unfold B5 at hj ⊢
  cases hc:((!tb m k&& !Nat.beq k i)&&o.after.toList.any (fun e=>Region.binds .any e&&(Nat.beq e.on i||tb b e.on)))with
  |false=>
   rw[hc]at hj;exact nU r (k+1) b hr h j hj
  |true=>
   rw[hc]at hj;refine nU r (k+1) (b ||| (1 <<< k)) hr (fun j hj=>?_) j hj;rw[Eu,Gs,Bool.or_eq_true]at hj;rcases hj with hj|hj
   ·obtain⟨L,G,oj,e,N,h4,h5,h6⟩:=h j hj;refine⟨L,G,oj,e,N,h4,h5,h6.imp id fun⟨b2,h7,h8⟩=>⟨_,?_,rfl⟩⟩;rw[Eu,<-h8,h7];rfl
   ·have hj:=eX hj;subst hj;simp only[av,Bool.not_eq_true',List.any_eq_true]at hc;obtain⟨⟨L,G⟩,e,U,N,h4⟩:=hc;refine⟨L,nT.1 G,o,e,by have:=hl 0 o (by simp);simpa using this,by simpa using U,N,?_⟩;rw[Bool.or_eq_true]at h4;exact h4.imp eX fun h5=>⟨_,by rw[Eu,h5];rfl,rfl⟩
theorem yx{ops:Array Oper}{m i:Nat}{oi:Oper}{b:Nat}:∀(l:List Oper) (k:Nat),IH ops m i oi b l k=true->∀n oj,l[n]? =some oj->k+n≠i->tb m (k+n)=false->tb b (k+n)=false->oi.apart ops oj=true/\(JK oi.op=true\/rf oj=false)
 |[],_,_,n,oj,R,_,_,_=>by simp at R
 |o::r,k,h,n,oj,R,L,G,N=>by
  unfold IH at h;rw[av]at h
  cases n with
  |zero=>
   rw[List.getElem?_cons_zero]at R;injection R with R;subst R;rw[cF]at L G N;rw[nT.2 L,G,N]at h;simpa using h.1
  |succ n=>
   rw[List.getElem?_cons_succ]at R;rw[show k+(n+1)=k+1+n by omega]at L G N;exact yx r (k+1) h.2 n oj R L G N
theorem Gt{ops:Array Oper}{i:Nat}{oi:Oper}(h:II ops (jF lx.toList 0) Pd i oi=true)(hs:lx.size=ops.size):∃vR:Nat->Prop,
  (∀j,vR j->∃oj e,ops[j]? =some oj/\e∈oj.after/\Region.binds .any e=true/\(e.on=i\/vR e.on))/\(∀j,vR j->lx.getD j false=false)/\(∀j∈Pd,¬vR j)/\
  ∀j oj,ops[j]? =some oj->j≠i->lx.getD j true=false->¬vR j->oi.apart ops oj=true/\(JK oi.op=true\/rf oj=false):=by
 unfold II OO at h;rw[av]at h;have hm:=ya lx;have hb:=nU (ops:=ops) (m:=jF lx.toList 0) (i:=i) ops.toList 0 0 (fun n o R=>by rw[aT];rwa [bG]at R) (fun j hj=>by rw[tT]at hj;cases hj);generalize B5 (jF lx.toList 0) i ops.toList 0 0=b at*
 refine⟨fun j=>tb b j=true,fun j hj=>(hb j hj).2.2,fun j hj=>(hm j).symm.trans (hb j hj).1,fun j hj D=>?_,fun j oj R1 Ph hl D=>?_⟩
 ·have:=List.all_eq_true.1 h.1 j hj;rw[D]at this;cases this
 ·have hj:=(aZ.1 R1).1;exact yx ops.toList 0 h.2 j oj (by rw[bG];exact R1) (by omega) (by rw[aT,hm,nS (by omega) false true];exact hl) (by rw[aT];simpa using D)
def Ew(m:Nat):List Oper->Nat->List Nat
 |[],_=>[]
 |o::r,j=>match !tb m j&&o.after.toList.all (fun e=> !Region.binds .any e||tb m e.on)with
  |true=>j::Ew m r (j+1)
  |false=>Ew m r (j+1)
def sm(n m i:Nat):Nat:=match Nat.blt i n with
 |true=>m ||| (1 <<< i)
 |false=>m
def lsm(n:Nat)(m:Nat):List Nat->Nat
 |[]=>m
 |i::r=>lsm n (sm n m i) r
def Gu(ops:Array Oper)(n:Nat):List It->Nat->List Nat->Bool
 |[],m,Pd=>(Ew m ops.toList 0).isEmpty&&Pd.isEmpty
 | .p i::r,m,Pd=>match ops[i]? with
  |none=>false
  |some o=>NJ o.op&&o.guard.isNone&&(match o.dst with
     |some d=> !(o.looksAt ops).contains d
     |none=>false)&&(Nat.blt i n&& !tb m i)&&Pd.all (fun j=> !Nat.beq j i)&&
    Pd.all (fun j=>JJ ops o j&&(match ops[j]? with
     |some oj=>oj.apart ops o
     |none=>false))&&Gu ops n r m (i::Pd)
 | .x i::r,m,Pd=>match ops[i]? with
  |none=>false
  |some o=>(o.guard.isNone||Pd.isEmpty)&&(Ew m ops.toList 0).contains i&&
    Pd.all (fun j=>Nat.beq j i||JJ ops o j)&&
    (match vQ o.op with
     |true=>II ops m Pd i o
     |false=>(!rf o||Pd.isEmpty)&&(Ew (lsm n m (Pd.filter fun j=> !Nat.beq j i)) ops.toList 0).all (fun j=>Nat.beq j i))&&
    Gu ops n r (sm n m i) (Pd.filter fun j=> !Nat.beq j i)
theorem IJ{ops:Array Oper}{lx:Array Bool}{m:Nat}(hR:Rm lx m)(hs:lx.size=ops.size):∀(l:List Oper) (k:Nat),(∀n,n<l.length->ops[k+n]? =l[n]?)->k+l.length<=ops.size->
  Ew m l k=(List.range' k l.length).filter fun i=> !lx.getD i true&&((ops[i]?).map (·.after.all fun e=> !Region.binds .any e||lx.getD e.on false)).getD false
 |[],_,_,_=>rfl
 |o::r,k,h,D=>by
  rw[List.length_cons]at D
  have ih:=IJ hR hs r (k+1) (fun n R=>by
   have:=h (n+1) (by simpa using R)
   rw[show k+1+n=k+(n+1) by omega,this,List.getElem?_cons_succ]) (by omega)
  have h0:ops[k]? =some o:=by have:=h 0 (by simp);simpa using this
  rw[List.length_cons,List.range'_succ,List.filter_cons,<-ih];have e:(!lx.getD k true&&((ops[k]?).map (·.after.all fun e=> !Region.binds .any e||lx.getD e.on false)).getD false)=(!tb m k&&o.after.toList.all fun e=> !Region.binds .any e||tb m e.on):=by
   rw[h0,hR k,nS (by omega) true false,bc,Option.getD_some,Array.all_toList];simp only[hR _]
  rw[e,Ew]
  cases (!tb m k&&o.after.toList.all fun e=> !Region.binds .any e||tb m e.on)<;>rfl
theorem Gv{ops:Array Oper}(hR:Rm lx m)(hs:lx.size=ops.size):Ew m ops.toList 0=Region.ready .any ops lx:=by
 rw[IJ hR hs ops.toList 0 (fun n _=>by rw[aT,bG]) (by simp)];unfold Region.ready;rw[List.range_eq_range',Array.length_toList]
theorem Rm.set(hR:Rm lx m)(i:Nat):Rm (lx.setIfInBounds i true) (sm lx.size m i):=fun j=>by
 unfold sm;rw[ai,Array.getElem?_setIfInBounds]
 cases h:Nat.blt i lx.size with
 |true=>
  have h:=Nat.le_of_ble_eq_true h;show tb (m ||| (1 <<< i)) j=_;rw[Eu,Gs];by_cases Pr:i=j
  ·rw[if_pos Pr,if_pos (by omega),Pr,Nat.beq_refl,Bool.or_true];rfl
  ·rw[aH Pr,nT.2 (Ne.symm Pr),Bool.or_false,hR,ai]
 |false=>
  show tb m j=_;have h:¬i<lx.size:=fun G=>by rw[show Nat.blt i lx.size=true from Nat.ble_eq_true_of_le G]at h;cases h
  by_cases Pr:i=j
  ·rw[if_pos Pr,aH h,hR,ai,<-Pr,Array.getElem?_eq_none (by omega)]
  ·rw[aH Pr,hR,ai]
theorem Kk:∀(r:List Nat) (lx:Array Bool),(Et lx r).size=lx.size
 |[],_=>rfl
 |i::r,lx=>by unfold Et;rw[Kk r,bW]
theorem Rm.Et{n:Nat}:∀(r:List Nat) (lx:Array Bool) (m:Nat),lx.size=n->Rm lx m->Rm (Et lx r) (lsm n m r)
 |[],_,_,_,h=>h
 |i::r,lx,m,R,h=>by
  unfold Go.Sx.Et lsm;exact Rm.Et r _ _ (by rw[bW];exact R) (R▸h.set i)
theorem DY{ops:Array Oper}:∀(π:List It) (lx:Array Bool) (m:Nat) (Pd:List Nat),lx.size=ops.size->Rm lx m->Gu ops ops.size π m Pd=pg ops π lx Pd
 |[],lx,m,Pd,hs,h=>by unfold Gu pg;rw[Gv h hs]
 | .p i::r,lx,m,Pd,hs,h=>by
  unfold Gu pg
  cases ho:ops[i]? with
  |none=>rfl
  |some o=>
   have A:=(aZ.1 ho).1;simp only[DY r lx m (i::Pd) hs h,h i,nS (show i<lx.size by omega) true false,show Nat.blt i ops.size=true from Nat.ble_eq_true_of_le A,Bool.true_and]
 | .x i::r,lx,m,Pd,hs,h=>by
  unfold Gu pg
  cases ho:ops[i]? with
  |none=>rfl
  |some o=>
   obtain rfl:=h.eq (ya lx);have L:=DY r (lx.setIfInBounds i true) (sm ops.size (jF lx.toList 0) i) (Pd.filter fun j=> !Nat.beq j i) (by rw[bW];exact hs) (hs▸h.set i);have G:=Gv (Rm.Et (n:=ops.size) (Pd.filter fun j=> !Nat.beq j i) lx (jF lx.toList 0) hs h) (by rw[Kk];exact hs);simp only[L,G,Gv h hs]
theorem ew{ops:Array Oper}:j∈Region.ready .any ops la↔
  la[j]? =some false/\∃o,ops[j]? =some o/\∀e∈o.after,Region.binds .any e=true->la[e.on]? =some true:=by
 rw[mem_ready];have L:la.getD j true=false↔la[j]? =some false:=by
  rw[ai]
  cases la[j]? with
  |none=>simp
  |some b=>simp
 have G:∀k,la.getD k false=true↔la[k]? =some true:=fun k=>by
  rw[ai]
  cases la[k]? with
  |none=>simp
  |some b=>simp
 simp only[L,G]
theorem ph{i:Nat}:(la.setIfInBounds i true)[j]? =some true↔la[j]? =some true\/(j=i/\j<la.size):=by
 rw[Array.getElem?_setIfInBounds];split
 ·rename_i h;subst h;by_cases hs:i<la.size
  ·simp[hs]
  ·simp[hs]
 ·rename_i h;simp[Ne.symm h]
theorem Ey:∀(Pd:List Nat) (la:Array Bool),(Et la Pd).size=la.size
 |[],_=>rfl
 |i::r,la=>by simp[Et,Ey r]
theorem yz:∀(Pd:List Nat) (la:Array Bool) (j:Nat),(Et la Pd)[j]? =some true↔la[j]? =some true\/(j∈Pd/\j<la.size)
 |[],_,_=>by simp[Et]
 |i::r,la,j=>by
  rw[Et,yz r,ph];simp only[bW,List.mem_cons]
  constructor
  ·rintro((h|⟨h,hs⟩)|⟨h,hs⟩)
   ·exact .inl h
   ·exact .inr ⟨.inl h,hs⟩
   ·exact .inr ⟨.inr h,hs⟩
  ·rintro(h|⟨h|h,hs⟩)
   ·exact .inl (.inl h)
   ·exact .inl (.inr ⟨h,hs⟩)
   ·exact .inr ⟨h,hs⟩
def unl(la:Array Bool):Nat:=la.toList.countP (fun b=> !b)
theorem kz{i:Nat}(h:la[i]? =some false):unl (la.setIfInBounds i true)+1=unl la:=by
 obtain⟨A,U⟩:=aZ.1 h;have RA:i<la.toList.length:=by simpa using A
 have QI:0<la.toList.countP (fun b=> !b):=List.countP_pos_iff.2 ⟨false,by
  have:la[i]∈la:=Array.getElem_mem A;rw[U]at this
  simpa using this,rfl⟩
 unfold unl;rw[Array.toList_setIfInBounds,List.countP_set RA];simp only[Array.getElem_toList,U]
 simp only[Bool.not_false,if_true,Bool.not_true,Bool.false_eq_true,if_false,cF]
 exact Nat.sub_add_cancel QI
theorem sX:∀{l:Env} {u:Nat} {k:Env->Prop},Es l u k->∃l',k l'/\fm l' u=none/\∀t v,fm l' t=some v->t≠u/\fm l t=some v
 |[],u,k,h=>⟨[],h,rfl,fun t v h=>by cases h⟩
 |(t0,v0)::r,u,k,h=>by
  unfold Es at h;split at h
  ·rename_i hb;have hb:=eX hb;obtain⟨l',L,G,N⟩:=sX h;refine⟨l',L,G,fun t v hv=>⟨(N t v hv).1,?_⟩⟩;rw[eh,aH (fun e=>(N t v hv).1 (e.symm.trans hb))];exact(N t v hv).2
  ·rename_i hb;have Oe:t0≠u:=fun e=>by subst e;rw[Nat.beq_refl]at hb;cases hb
   obtain⟨l',L,G,N⟩:=sX h;refine⟨_,L,?_,fun t v hv=>?_⟩
   ·rw[eh,aH Oe];exact G
   ·rw[eh]at hv ⊢;split at hv
    ·rename_i e;subst e;exact⟨Oe,by simpa using hv⟩
    ·rename_i e;rw[aH e];exact N t v hv
theorem iF:∀{all:List Oper} {i:Nat} {k:Oper->Prop},sU all i k->∃o,all[i]? =some o/\k o
 |[],_,_,h=>h.elim
 |o::_,0,_,h=>⟨o,rfl,h⟩
 |_::r,n+1,_,h=>by obtain⟨o,L,G⟩:=iF (all:=r) h;exact⟨o,by simpa using L,G⟩
section
variable{P:Program}{τ:nR}{ops:Array Oper}{B n nx:Nat}{l:Env}{H:Hp}{iv:Iv}{w J:World}{O:Nat->dq}{a:Act}
structure NK(P:Program)(ops:Array Oper)(n B:Nat)(Pd:List Nat)(FS:List (Nat×Nat))(lx la:Array Bool)(l:Env)(H:Hp)(nx:Nat)(iv:Iv)(w:World)(O:Nat->dq)(a:Act)(J:World):Prop where
 sat:Sat n l H nx iv B w O a J
 NL:lx.size=ops.size
 NO:la.size=ops.size
 la:∀j,la[j]? =some true↔lx[j]? =some true\/∃g,(j,g)∈FS
 JL:∀j g,(j,g)∈FS->j∈Pd
 pd:∀j∈Pd,lx[j]? =some false/\∃o d mk obj,ops[j]? =some o/\NJ o.op=true/\o.guard=none/\(o.dst=some d/\d∉o.looksAt ops)/\AL P o a mk obj/\fm l d=none/\
  ∀g,(j,g)∈FS->a.tmps[d]? =some (mk g)/\J.heap[g]? =some obj
 eg:∀j g,(j,g)∈FS->B<=g/\(∀id b,dG H id=some b->(O id).nil=false->(O id).g≠g)/\∀lo A,(lo,A)∈iv->¬(lo<=g/\g<A)
 inj:∀j g j',(j,g)∈FS->(j',g)∈FS->j=j'
 ap:∀j∈Pd,∀j'∈Pd,j≠j'->∀o o',ops[j]? =some o->ops[j']? =some o'->o.apart ops o'=true
theorem Kl{l:Env}{u:Nat}(h:∀t v,fm l' t=some v->t≠u/\fm l t=some v){d:Nat}(hd:fm l d=none):fm l' d=none:=by
 cases Y:fm l' d with
 |none=>rfl
 |some v=>have:=(h d v Y).2;rw[hd]at this;cases this
theorem Oper.CH{o oj:Oper}(ha:o.apart ops oj=true)(hs:∀W b,oj.op≠ .select W b)(h:AL P oj a mk obj):AL P oj (a.put o.dst u) mk obj:=by
 intro w;rw[execOp_put (ops:=ops) oj hs a o.dst u (Go.Oper.apart_spec ha).1];exact h w
theorem rG(Oe:d≠some t)(h:a.tmps[t]? =some v):(a.put d u).tmps[t]? =some v:=by
 cases d with
 |none=>exact h
 |some d=>
  have:d≠t:=fun e=>Oe (by rw[e]);simpa [Act.put,Array.getElem?_setIfInBounds_ne this]using h
theorem kU{w:World}(h:w.heap[g]? =some obj):g<w.heap.size:=(aZ.1 h).1
theorem Ext.alloc(w:World)(obj:Obj):Ext w (w.alloc obj):=
 ⟨rfl,rfl,rfl,by simp,fun k D=>heap_alloc_old _ _ D⟩
variable{Pd:List Nat}{FS:List (Nat×Nat)}{lx la:Array Bool}
theorem NK.step(s:NK P ops n B Pd FS lx la l H nx iv w O a J)(Pb:∀(j:Nat) (o:Oper) W b,ops[j]? =some o->o.op≠ .select W b){i:Nat}{o:Oper}(_hi:ops[i]? =some o)(WS:∀g,(i,g)∉FS)
  (R5:∀j∈Pd,j≠i->∀oj,ops[j]? =some oj->o.apart ops oj=true)
  (sat':Sat n l' H' On K B V G8 (a.put o.dst u) w3)
  (hl:∀j∈Pd,j≠i->∀d,fm l d=none->o.dst≠some d->fm l' d=none) (Sl:∀j∈Pd,j≠i->Ext J w3)
  (heg:∀g,g<J.heap.size->(∀id b,dG H id=some b->(O id).nil=false->(O id).g≠g)->(∀lo A,(lo,A)∈iv->¬(lo<=g/\g<A))->(∃j∈Pd,j≠i)->
   (∀id b,dG H' id=some b->(G8 id).nil=false->(G8 id).g≠g)/\(∀lo A,(lo,A)∈K->¬(lo<=g/\g<A))):
  NK P ops n B (Pd.filter fun j=> !Nat.beq j i) FS (lx.setIfInBounds i true) (la.setIfInBounds i true) l' H' On K V G8 (a.put o.dst u) w3:=by
 have memf:∀j,j∈(Pd.filter fun j=> !Nat.beq j i)↔j∈Pd/\j≠i:=fun j=>by
  simp only[List.mem_filter,Bool.not_eq_true',nT]
 have hEi:∀j g,(j,g)∈FS->j≠i:=fun j g h e=>WS g (e▸h);refine⟨sat',by simp[s.NL],by simp[s.NO],fun j=>?_,fun j g h=>(memf j).2 ⟨s.JL j g h,hEi j g h⟩,fun j hj=>?_,fun j g h=>?_,s.inj,fun j hj j' hj'=>s.ap j ((memf j).1 hj).1 j' ((memf j').1 hj').1⟩
 ·rw[ph,ph,s.la,s.NO,s.NL];constructor
  ·rintro((h|h)|h)
   ·exact .inl (.inl h)
   ·exact .inr h
   ·exact .inl (.inr h)
  ·rintro((h|h)|h)
   ·exact .inl (.inl h)
   ·exact .inr h
   ·exact .inl (.inr h)
 ·obtain⟨hj,Ph⟩:=(memf j).1 hj;obtain⟨h0,oj,d,mk,obj,L,G,N,⟨h4,Re⟩,h5,h6,h7⟩:=s.pd j hj;have hapj:=R5 j hj Ph oj L;have Oe:o.dst≠some d:=fun e=>(Go.Oper.apart_spec hapj).2.1 d e h4;refine⟨?_,oj,d,mk,obj,L,G,N,⟨h4,Re⟩,Oper.CH hapj (fun W b=>Pb j oj W b L) h5,hl j hj Ph d h6 Oe,fun g Y=>⟨rG Oe (h7 g Y).1,?_⟩⟩
  ·rw[Array.getElem?_setIfInBounds_ne (Ne.symm Ph)];exact h0
  ·rw[(Sl j hj Ph).block g (kU (h7 g Y).2)];exact(h7 g Y).2
 ·have hj:=s.JL j g h;obtain⟨h0,oj,d,mk,obj,L,G,N,⟨h4,Re⟩,h5,h6,h7⟩:=s.pd j hj;obtain⟨e1,e2,e3⟩:=s.eg j g h;exact⟨e1,heg g (kU (h7 g h).2) e2 e3 ⟨j,hj,hEi j g h⟩⟩
theorem NK.early(s:NK P ops n B Pd FS lx la l H nx iv w O a J)(Of:∀(j:Nat) o,ops[j]? =some o->∀d,o.dst=some d->d<n)
  (Pb:∀(j:Nat) (o:Oper) W b,ops[j]? =some o->o.op≠ .select W b) (hj:j∈Pd) (VL:la[j]? =some false) {Fn:Act->World->Prop}
  (h:∀E' a2 V,Ext J V->NK P ops n B Pd E' lx (la.setIfInBounds j true) l H nx iv w O a2 V->Fn a2 V):wpOp P ops Q j Fn a J:=by
 obtain⟨h0,o,d,mk,obj,L,G,N,⟨h4,Re⟩,h5,h6,h7⟩:=s.pd j hj;have I:Region.wanted o (yielded ops a.tmps)=true:=by simp[Region.wanted,N]
 unfold wpOp;simp only[L,I,if_true]
 refine .inl ?_;unfold Oper.wp;rw[h5 J];simp only[Oper.upon]
 have hd:=Of j o L d h4;have hnE:∀g,(j,g)∉FS:=fun g Y=>by
  have:=(s.la j).2 (.inr ⟨g,Y⟩);rw[VL]at this;cases this
 refine h ((j,J.heap.size)::FS) _ _ (Ext.alloc _ _) ⟨?_,s.NL,by simp[s.NO],fun k=>?_,fun k g D=>?_,fun k D=>?_,fun k g D=>?_,fun k g k' D hk'=>?_,s.ap⟩
 ·refine⟨s.sat.rel.ext (Ext.alloc _ _),?_,?_,fun t v hv=>?_,s.sat.sc⟩
  ·rw[h4];simp[Act.put,s.sat.size]
  ·rw[h4];exact s.sat.defers
  ·refine rG (fun e=>?_) (s.sat.env t v hv);rw[h4]at e;injection e with e;subst e;rw[h6]at hv;cases hv
 ·rw[ph,s.la];have Ow:j<la.size:=(aZ.1 VL).1;constructor
  ·rintro((h|⟨g,h⟩)|⟨rfl,_⟩)
   ·exact .inl h
   ·exact .inr ⟨g,by simp[h]⟩
   ·exact .inr ⟨_,aF ..⟩
  ·rintro(h|⟨g,h⟩)
   ·exact .inl (.inl h)
   ·rcases List.mem_cons.1 h with h|h
    ·injection h with e1 e2;exact .inr ⟨e1,by rw[e1];exact Ow⟩
    ·exact .inl (.inr ⟨g,h⟩)
 ·rcases List.mem_cons.1 D with D|D
  ·injection D with e1 e2;rw[e1];exact hj
  ·exact s.JL k g D
 ·obtain⟨g0,ok,dk,mkk,objk,g1,g2,g3,⟨g4,gself⟩,g5,g6,g7⟩:=s.pd k D;by_cases Ti:k=j
  ·subst Ti;rw[L]at g1;injection g1 with g1;subst g1;rw[h4]at g4;injection g4 with g4;subst g4;refine⟨g0,o,d,mk,obj,L,G,N,⟨h4,Re⟩,?_,h6,fun g Y=>?_⟩
   ·intro ww;rw[execOp_put (ops:=ops) o (fun W b=>Pb k o W b L) a o.dst _ (fun d' XJ=>by rw[h4]at XJ;injection XJ with XJ;subst XJ;exact Re)];exact h5 ww
   ·rcases List.mem_cons.1 Y with Y|Y
    ·injection Y with e1 e2;subst e2;refine⟨?_,heap_alloc_new _ _⟩;rw[h4];simp[Act.put,s.sat.size,hd]
    ·exact absurd Y (hnE g)
  ·have R5:=s.ap j hj k D (Ne.symm Ti) o ok L g1;have Oe:o.dst≠some dk:=fun e=>(Go.Oper.apart_spec R5).2.1 dk e g4;refine⟨g0,ok,dk,mkk,objk,g1,g2,g3,⟨g4,gself⟩,Oper.CH R5 (fun W b=>Pb k ok W b g1) g5,g6,fun g Y=>?_⟩;rcases List.mem_cons.1 Y with Y|Y
   ·injection Y with e1 e2;exact absurd e1 Ti
   ·refine⟨rG Oe (g7 g Y).1,?_⟩;rw[heap_alloc_old _ _ (kU (g7 g Y).2)];exact(g7 g Y).2
 ·rcases List.mem_cons.1 D with D|D
  ·injection D with e1 e2;subst e2;refine⟨aW s.sat.rel.base s.sat.rel.size,fun id b hb R U=>?_,fun lo A hm hc=>?_⟩
   ·have:=(s.sat.rel.low id b hb R).2;omega
   ·have:=s.sat.rel.oJ lo A hm;have:=s.sat.rel.size;omega
  ·exact s.eg k g D
 ·have old:∀k' g',(k',g')∈FS->g'<J.heap.size:=fun k' g' h=>by
   obtain⟨_,_,_,_,_,_,_,_,_,_,_,h7⟩:=s.pd k' (s.JL k' g' h);exact kU (h7 g' h).2
  rcases List.mem_cons.1 D with D|D<;>rcases List.mem_cons.1 hk' with hk'|hk'
  ·injection D with e1 e2;injection hk' with e3 e4;rw[e1,e3]
  ·injection D with e1 e2;have:=old _ _ hk';omega
  ·injection hk' with e1 e2;have:=old _ _ D;omega
  ·exact s.inj k g k' D hk'
theorem NK.zA(s:NK P ops n B Pd FS lx la l H nx iv w O a J){i:Nat}{o:Oper}(A:ops[i]? =some o)(Y:(i,g)∈FS){b:jz}{v:SV}
  (hb:b.scopd nx) (hv:v.sc (nx+1)) (WT:∀g,v.den (gT O nx ⟨g,0,false⟩)=mk g) (QZ:∀g V,V.heap[g]? =some obj->b.fits O ⟨g,0,false⟩ V) (WU:AL P o a mk obj)
  {Fn:Env->Prop} (hK:Ez o.dst v l Fn) (_hok:∀d,o.dst=some d->d<n) (R5:∀j∈Pd,j≠i->∀oj,ops[j]? =some oj->o.apart ops oj=true):
  ∃l',Fn l'/\NK P ops n B (Pd.filter fun j=> !Nat.beq j i) (FS.filter fun e=> !Nat.beq e.1 i) (lx.setIfInBounds i true) la l' ((nx,b)::H) (nx+1) iv w (gT O nx ⟨g,0,false⟩) a J:=by
 obtain⟨h0,o',d,mk',obj',L,G,N,⟨h4,Re⟩,h5,h6,h7⟩:=s.pd i (s.JL i g Y);rw[A]at L;injection L with L;subst L;obtain⟨rfl,rfl⟩:=WU.uniq h5;obtain⟨ht,hh⟩:=h7 g Y;obtain⟨e1,e2,e3⟩:=s.eg i g Y;have memf:∀j,j∈(Pd.filter fun j=> !Nat.beq j i)↔j∈Pd/\j≠i:=fun j=>by
  simp only[List.mem_filter,Bool.not_eq_true',nT]
 have memE:∀j k,(j,k)∈(FS.filter fun e=> !Nat.beq e.1 i)↔(j,k)∈FS/\j≠i:=fun j k=>by
  simp only[List.mem_filter,Bool.not_eq_true',nT]
 have QL:∀id b,dG H id=some b->gT O nx ⟨g,0,false⟩ id=O id:=fun id b h=>(gD id (s.sat.rel.keys id b h)).symm;have r:=s.sat.rel;have Pf:Rel ((nx,b)::H) (nx+1) iv B w (gT O nx ⟨g,0,false⟩) J:=by
  refine Rel.mk' r.os r.tape r.output r.size r.base r.oJ ?_ ?_ ?_ ?_ ?_ ?_ ?_
  ·intro id b' h;rw[dB]at h;split at h
   ·omega
   ·have:=r.keys id b' h;omega
  ·intro id b' h;rw[dB]at h;split at h
   ·rename_i e;subst e;injection h with h;subst h;rw[eR];exact jz.gg (QZ g J hh) (fun id PY=>gD id PY) hb (fun _ _=>rfl)
   ·rw[QL id b' h];exact jz.gg (r.fits h) (fun id PY=>gD id PY) (r.scopd h) (fun _ _=>rfl)
  ·intro id b' h;rw[dB]at h;split at h
   ·injection h with h;subst h;exact jz.jG (Nat.le_succ _) hb
   ·exact jz.jG (Nat.le_succ _) (r.scopd h)
  ·intro id id' c c' h h' hd XJ R hn' U;rw[dB]at h h';split at h<;>split at h'
   ·rename_i x y;rw[<-x,<-y]
   ·rename_i x y;subst x;rw[eR,QL _ _ h']at U;rw[QL _ _ h']at hn';exact absurd U.symm (e2 _ _ h' hn')
   ·rename_i x y;subst y;rw[eR,QL _ _ h]at U;rw[QL _ _ h]at R;exact absurd U (e2 _ _ h R)
   ·rw[QL _ _ h,QL _ _ h']at U;rw[QL _ _ h]at R;rw[QL _ _ h']at hn';exact r.inj id id' c c' h h' hd XJ R hn' U
  ·intro id c h R;rw[dB]at h;split at h
   ·rename_i e;subst e;rw[eR];exact⟨e1,kU hh⟩
   ·rw[QL _ _ h]at R ⊢;exact r.low id c h R
  ·intro k D Oe;refine r.vP k D fun id c h R=>?_;have Ow:=r.keys id c h;have:=Oe id c (by rw[dB,aH (by omega)];exact h) (by rw[QL _ _ h];exact R)
   rwa [QL _ _ h]at this
  ·intro lo A hm id c h R;rw[dB]at h;split at h
   ·rename_i e;subst e;rw[eR];exact e3 lo A hm
   ·rw[QL _ _ h]at R ⊢;exact r.je lo A hm id c h R
 have sat1:Sat n l ((nx,b)::H) (nx+1) iv B w (gT O nx ⟨g,0,false⟩) a J:=s.sat.next Pf (Nat.le_succ _) (fun id PY=>gD id PY)
 rw[h4]at hK;refine⟨_,hK,?_⟩;have sat2:Sat n ((d,v)::l) ((nx,b)::H) (nx+1) iv B w (gT O nx ⟨g,0,false⟩) a J:=by
  refine⟨sat1.rel,sat1.size,sat1.defers,fun t u hu=>?_,fun t u hu=>?_⟩
  ·rw[eh]at hu;split at hu
   ·rename_i e;subst e;injection hu with hu;subst hu;rw[WT];exact ht
   ·exact sat1.env t u hu
  ·rw[eh]at hu;split at hu
   ·injection hu with hu;subst hu;exact hv
   ·exact sat1.sc t u hu
 have UH:i<lx.size:=(aZ.1 h0).1;refine⟨sat2,by simp[s.NL],s.NO,fun j=>?_,fun j k h=>?_,fun j hj=>?_,fun j k h=>?_,fun j k j' h h'=>s.inj j k j' ((memE j k).1 h).1 ((memE j' k).1 h').1,fun j hj j' hj'=>s.ap j ((memf j).1 hj).1 j' ((memf j').1 hj').1⟩
 ·rw[s.la,ph];constructor
  ·rintro(h|⟨k,h⟩)
   ·exact .inl (.inl h)
   ·by_cases Ph:j=i
    ·exact .inl (.inr ⟨Ph,Ph▸UH⟩)
    ·exact .inr ⟨k,(memE j k).2 ⟨h,Ph⟩⟩
  ·rintro((h|⟨rfl,h⟩)|⟨k,h⟩)
   ·exact .inl h
   ·exact .inr ⟨g,Y⟩
   ·exact .inr ⟨k,((memE j k).1 h).1⟩
 ·exact(memf j).2 ⟨s.JL j k ((memE j k).1 h).1,((memE j k).1 h).2⟩
 ·obtain⟨hj,Ph⟩:=(memf j).1 hj;obtain⟨g0,oj,dj,mkj,objj,g1,g2,g3,⟨g4,gself⟩,g5,g6,g7⟩:=s.pd j hj;have Oe:d≠dj:=fun e=>(Go.Oper.apart_spec (R5 j hj Ph oj g1)).2.1 d h4 (by rw[g4,e]);refine⟨by rw[Array.getElem?_setIfInBounds_ne (Ne.symm Ph)];exact g0,oj,dj,mkj,objj,g1,g2,g3,⟨g4,gself⟩,g5,?_,fun k D=>g7 k ((memE j k).1 D).1⟩;rw[eh,aH Oe];exact g6
 ·obtain⟨h,Ph⟩:=(memE j k).1 h;obtain⟨k1,k2,k3⟩:=s.eg j k h;refine⟨k1,fun id c hc R=>?_,k3⟩;rw[dB]at hc;split at hc
  ·rename_i e;subst e;rw[eR];intro e;simp only at e;subst e;exact Ph (s.inj j _ i h Y)
  ·rw[QL _ _ hc]at R ⊢;exact k2 id c hc R
end
end Go.Sx
