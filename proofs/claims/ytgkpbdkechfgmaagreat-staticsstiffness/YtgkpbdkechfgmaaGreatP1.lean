/- Texts Sx7 to Sx11: lemmas, each with its conditions. -/
import Derived.OrdersHeld
import Derived.Test.YtgkpbdkechfgmaaGreatP0
namespace Go.Sx
open Go
variable{args:(Nat->eG)->Array Value}{la lx:Array Bool}{op:BinOp}{dr pu:Bool}{Fn:Ending->World->Prop}{Q:Exit->Act->World->Prop}{k:IntKind}{Pd:List Nat}{g j m t:Nat}{mk:Nat->Value}{IR:Nat->eG}{obj:Obj}{d:Option Tmp}{GE:SV->Hp->Nat->Iv->World->Prop}{u v:Value}{w Y:World}
section
variable{P:Program}{τ:og}{B n nx:Nat}{l:Env}{H:Hp}{iv:Iv}{w J:World}{O:Nat->eG}{a:Act}
theorem rW{k':IntKind}(h:rR k k'=true):k=k':=by
 cases k<;>cases k'<;>first|rfl|(simp [rR]at h)
theorem AN(op:BinOp)(t:TypeId)(x y:Operand)(k k':IntKind)(i j:Int)(w:World):(eqGuard op t x y (.int k i) (.int k' j)).run P w= .ok () w:=by
 unfold eqGuard;cases op<;>simp
theorem ot(op:BinOp)(t:TypeId)(x y:Operand)(i j:Bool)(w:World):(eqGuard op t x y (.bool i) (.bool j)).run P w= .ok () w:=by
 unfold eqGuard;cases op<;>simp
theorem kD(op:BinOp)(t:TypeId)(x y:Operand)(i j:ByteArray)(w:World):(eqGuard op t x y (.string i) (.string j)).run P w= .ok () w:=by
 unfold eqGuard;cases op<;>simp
theorem MZ{i j:Int}{t:TypeId}{GE:Value->Prop}(h:MU op k i j GE)(k':IntKind)(K:(op= .shl\/op= .shr)\/k=k'):
  ∃r,GE r/\∀w:World,(binOp op t (.int k i) (.int k' j)).run P w= .ok r w:=by
 have SR:op≠ .shl->op≠ .shr->k=k':=fun I G=>by rcases K with(h3|h3)|h3<;>simp_all
 cases op<;>simp only[MU]at h
 case shl=>obtain⟨h0,r,I,G⟩:=h;refine⟨_,G,fun w=>?_⟩;subst I;simp[binOp,Op.shift,show ¬j<0 by omega]
 case shr=>obtain⟨h0,r,I,G⟩:=h;refine⟨_,G,fun w=>?_⟩;subst I;simp[binOp,Op.shift,show ¬j<0 by omega]
 all_goals (obtain rfl:=SR bv bv)
 case quo=>obtain⟨h0,r,I,G⟩:=h;refine⟨_,G,fun w=>?_⟩;subst I;simp[binOp,Op.intDiv,h0]
 case rem=>obtain⟨h0,r,I,G⟩:=h;refine⟨_,G,fun w=>?_⟩;subst I;simp[binOp,Op.intDiv,h0]
 case eql=>exact⟨_,h,fun w=>by simp[binOp,Op.intCmp]⟩
 case neq=>exact⟨_,h,fun w=>by simp[binOp,Op.intCmp]⟩
 case lss=>exact⟨_,h,fun w=>by simp[binOp,Op.intCmp]⟩
 case leq=>exact⟨_,h,fun w=>by simp[binOp,Op.intCmp]⟩
 case gtr=>exact⟨_,h,fun w=>by simp[binOp,Op.intCmp]⟩
 case geq=>exact⟨_,h,fun w=>by simp[binOp,Op.intCmp]⟩
 case add=>obtain⟨r,I,G⟩:=h;refine⟨_,G,fun w=>?_⟩;subst I;simp[binOp,Op.intArith]
 case sub=>obtain⟨r,I,G⟩:=h;refine⟨_,G,fun w=>?_⟩;subst I;simp[binOp,Op.intArith]
 case mul=>obtain⟨r,I,G⟩:=h;refine⟨_,G,fun w=>?_⟩;subst I;simp[binOp,Op.intArith]
 case and=>obtain⟨r,I,G⟩:=h;refine⟨_,G,fun w=>?_⟩;subst I;simp[binOp,Op.intBits]
 case or=>obtain⟨r,I,G⟩:=h;refine⟨_,G,fun w=>?_⟩;subst I;simp[binOp,Op.intBits]
 case andNot=>obtain⟨r,I,G⟩:=h;refine⟨_,G,fun w=>?_⟩;subst I;simp[binOp,Op.intBits]
 case xor=>obtain⟨r,I,G⟩:=h;refine⟨_,G,fun w=>?_⟩;subst I;simp[binOp,Op.intBits]
theorem run_equalIn_bool{t:TypeId}(hu:P.underlying t=some .bool)(d:Nat)(i j:Bool)(w:World):(Op.equalIn (d+1) t (.bool i) (.bool j)).run P w= .ok (i==j) w:=by
 simp[Op.equalIn,run_underlying hu]
theorem zW{t:TypeId}(hu:P.underlying t=some .bool)(i j:Bool)(w:World):(Op.equal t (.bool i) (.bool j)).run P w= .ok (i==j) w:=run_equalIn_bool hu 9999 i j w
theorem Ba{t:TypeId}(hu:P.underlying t=some .bool)(i j:Bool)(w:World):(binOp .eql t (.bool i) (.bool j)).run P w= .ok (.bool (i==j)) w:=by
 show(do pure (.bool (<-Op.equal t (.bool i) (.bool j))):Sem Value).run P w=_;rw[Sem.run_bind,zW hu];rfl
theorem AO{t:TypeId}(hu:P.underlying t=some .bool)(i j:Bool)(w:World):(binOp .neq t (.bool i) (.bool j)).run P w= .ok (.bool (!(i==j))) w:=by
 show(do pure (.bool (!(<-Op.equal t (.bool i) (.bool j)))):Sem Value).run P w=_;rw[Sem.run_bind,zW hu];rfl
theorem M0(hτ:gM P τ){x y:SV}{GE:SV->Prop}(h:aCg P τ op t x y GE)(o1 o2:Operand):
  ∃r,GE r/\r.sc nx/\∀J:World,(do eqGuard op t o1 o2 (x.den O) (y.den O);binOp op t (x.den O) (y.den O)).run P J= .ok (r.den O) J:=by
 unfold aCg at h;split at h
 .rename_i k i k' j;have fin:∀K:(op= .shl\/op= .shr)\/k=k',MU op k i j (fun r=>GE (.o (.v r)))->∃r,GE r/\r.sc nx/\∀J:World,(do eqGuard op t o1 o2 (SV.den O (.o (.v (.int k i)))) (SV.den O (.o (.v (.int k' j))));binOp op t (SV.den O (.o (.v (.int k i)))) (SV.den O (.o (.v (.int k' j))))).run P J= .ok (r.den O) J:=by
   intro K h;obtain⟨r,I,G⟩:=MZ (P:=P) (t:=t) h k' K;refine⟨_,I,trivial,fun J=>?_⟩;simp only[SV.den,At.den,Sem.run_bind,AN,Result.andThen_ok,G]
  split at h
  .exact fin (.inl (.inl rfl)) h
  .exact fin (.inl (.inr rfl)) h
  .split at h
   .rename_i K;exact fin (.inr (rW K)) h
   .exact h.elim
 .rename_i i j;split at h
  .rename_i ti RN;split at h
   .rename_i Pe;have hu:=(hτ t _ RN).i2 (fA Pe);split at h
    .refine⟨_,h,trivial,fun J=>?_⟩;simp only[SV.den,At.den,Sem.run_bind,ot,Result.andThen_ok,Ba hu]
    .refine⟨_,h,trivial,fun J=>?_⟩;simp only[SV.den,At.den,Sem.run_bind,ot,Result.andThen_ok,AO hu]
    .exact h.elim
   .exact h.elim
  .exact h.elim
 .rename_i i j;split at h
  .refine⟨_,h,trivial,fun J=>?_⟩;simp only[SV.den,At.den,Sem.run_bind,kD,Result.andThen_ok]
   simp[binOp,Op.stringOp,ByteArray.toList_eq]
  .refine⟨_,h,trivial,fun J=>?_⟩;simp only[SV.den,At.den,Sem.run_bind,kD,Result.andThen_ok]
   simp[binOp,Op.stringOp,ByteArray.toList_eq]
  .refine⟨_,h.2,trivial,fun J=>?_⟩;simp only[SV.den,At.den,Sem.run_bind,kD,Result.andThen_ok]
   have I:=h.1;unfold maxLen at I;simp[binOp,Op.stringOp];omega
  .exact h.elim
 .obtain⟨b,I,G⟩:=h;exact⟨_,G,trivial,fun J=>I O J o1 o2⟩
abbrev aCX(n B:Nat)(l:Env)(a:Act)(dst:Option Tmp)(GE:SV->Hp->Nat->Iv->World->Prop)(next:Act->World->Prop):Prop:=
 ∀v H' PC N Y IR w3,GE v H' PC N Y->Sat n l H' PC N B Y IR a w3->v.sc PC->next (a.put dst (v.den IR)) w3
theorem Sat.next(sat:Sat n l H nx iv B w O a J){H':Hp}{PC:Nat}{N:Iv}{w3:World}(rel:Rel H' PC N B Y IR w3)(Qf:nx<=PC)(Id:∀id,id<nx->O id=IR id):
  Sat n l H' PC N B Y IR a w3:=
 ⟨rel,sat.size,sat.defers,fun t v h=>by rw[sat.env t v h,SV.ky Id (sat.sc t v h)],fun t v h=>SV.wM Qf (sat.sc t v h)⟩
theorem Ft(sat:Sat n l H nx iv B w O a J){Z:List At}(hs:∀c∈Z,At.sc nx c):
  Rel ((nx,.box t Z)::H) (nx+1) iv B w (iL O nx ⟨J.heap.size,0,false⟩) (J.alloc (.cells (Z.map (At.den O)).toArray t)):=
 sat.rel.push (.box t Z) _ rfl rfl rfl bv (fun k K=>heap_alloc_old _ _ K) (fun _=>⟨aP _,bv⟩) ⟨rfl,heap_alloc_new _ _⟩ hs
theorem zX:∀{vs:List SV} {k:List Nat->Prop},p8 vs k->(∀v∈vs,SV.sc nx v)->∃ids,k ids/\vs.map (SV.den O)=ids.map (fun id=>Value.pointer (some ⟨(O id).g,0,none⟩))/\∀id∈ids,id<nx
 |[],k,h,_=>⟨[],h,rfl,bv⟩
 | .o (.p id 0)::r,k,h,hs=>by
  obtain⟨ids,I,G,h3⟩:=zX (vs:=r) h (fun v hv=>hs v (by simp[hv]));exact⟨id::ids,I,by simp[G,SV.den,At.den],by simp;exact⟨hs (.o (.p id 0)) bv,h3⟩⟩
 | .o (.p id (m+1))::r,k,h,_=>by simp[p8]at h
 | .o (.v x)::r,k,h,_=>by simp[p8]at h
 | .o (.s _ _ _ _)::r,k,h,_=>by simp[p8]at h
 | .o (.w _ _)::r,k,h,_=>by simp[p8]at h
 | .o (.fn _ _)::r,k,h,_=>by simp[p8]at h
 | .a _::r,k,h,_=>by simp[p8]at h
theorem Bb(sat:Sat n l H nx iv B w O a J){GE:SV->Hp->Iv->World->Prop}{o:Oper}{next:Act->World->Prop}
  (h:E4 P B g args H nx iv w GE) (VJ:(execOp a.eval o).run P J=(callFunc g (args O)).run P J)
  (W:∀v H' N Y,GE v H' N Y->Sat n l H' nx N B Y O a Y->v.sc nx->next (a.put o.dst (v.den O)) Y):o.wp P a J next Q:=by
 have hc:=h.h O J sat.rel;unfold Oper.wp;rw[VJ,hc.e.h];refine Calls.mono hc.c fun e Y L=>?_;obtain⟨v,H',N,rfl,QA,hK⟩:=L;exact W _ _ _ _ hK (sat.next (IR:=O) QA (aP _) (fun _ _=>rfl)) trivial
theorem Rel.ext(r:Rel H nx iv B w O J)(e:Ext J Y):Rel H nx iv B w O Y:=
 Rel.mk' (e.os.trans r.os) (e.tape.trans r.tape) (e.output.trans r.output) (aX r.size e.size) r.base r.tI r.keys
  (fun id b h=>kp.jQ (r.fits h) (fun _ _=>rfl) (r.scopd h) (fun W _=>e.block _ (r.low id b h W).2)) (fun id b h=>r.scopd h) r.inj
  (fun id b h W=>by have:=r.low id b h W;have:=e.size;omega) (fun k K Ox=>by rw[e.block k (by have:=r.size;omega)];exact r.yJ k K Ox) r.mA
theorem Rel.here(r:Rel H nx iv B w O J):Rel H nx iv B J O J:=
 Rel.mk' rfl rfl rfl (aP _) (by have:=r.base;have:=r.size;omega) (fun lo D hm=>by have:=r.tI lo D hm;have:=r.size;omega) r.keys
  (fun id b h=>r.fits h) (fun id b h=>r.scopd h) r.inj r.low (fun _ _ _=>rfl) r.mA
theorem Rel.more{lo D:Nat}(r:Rel H nx iv B w O J)(I:D<=w.heap.size)(G:∀id b,dU H id=some b->(O id).nil=false->¬(lo<=(O id).g/\(O id).g<D)):Rel H nx ((lo,D)::iv) B w O J:=
 Rel.mk' r.os r.tape r.output r.size r.base
  (fun lo' UX hm=>by
   rcases List.mem_cons.1 hm with hm|hm
   .injection hm with e1 e2;omega
   .exact r.tI lo' UX hm) r.keys (fun id b hb=>r.fits hb) (fun id b hb=>r.scopd hb) r.inj r.low r.yJ
  (fun lo' UX hm id b hb PK=>by
   rcases List.mem_cons.1 hm with hm|hm
   .injection hm with e1 e2;subst e1;subst e2;exact G id b hb PK
   .exact r.mA lo' UX hm id b hb PK)
theorem cQ{GE:SV->Hp->Iv->World->Prop}(h:H3 P B g args H nx iv w GE):E4 P B g args H nx iv w GE:=
 ⟨fun O J r=>⟨(h.h O J r).e,Calls.mono (h.h O J r).c fun e Y L=>by
  obtain⟨v,I,G,h3⟩:=L
  exact⟨v,H,_,I,(r.ext G).here.more (aP _) (fun id b hb W=>by have:=(r.low id b hb W).2;omega),h3⟩⟩⟩
def yK:Op->Bool
 | .move _| .assign _| .pick _ _ _| .build _ _| .load _ _| .nilCheck _| .binOp _ _ _ _ _| .unOp _ _ _| .convert _ _ _| .makeFunc _ _ _| .slice _ _ _ _ _| .fieldAddr _ _ _| .field _ _ _| .indexAddr _ _ _| .extract _ _=>true
 | .call ⟨.builtin .len,_,_⟩=>true
 | .call ⟨.builtin .max,_,_⟩=>true
 | .call ⟨.builtin .min,_,_⟩=>true
 |_=>false
def isA:Op->Bool
 | .alloc _| .box _ _| .buildSlice _ _ _| .makeSlice _ _ _=>true
 |_=>false
def MN:Op->Bool
 | .load _ _=>false
 |o=>yK o
theorem n9(hτ:gM P τ){o:Oper}(h:BS dr P τ B o l H nx iv w GE)(sat:Sat n l H nx iv B w O a J)(K:yK o.op=true):
  (∃v,GE v H nx iv w/\v.sc nx/\∀Y,(MN o.op=true\/Rel H nx iv B w O Y)->(execOp a.eval o).run P Y= .ok (.value (v.den O)) Y)\/(dr=false/\B1 P B o l H nx iv w GE):=by
 obtain⟨dst,op,ty,pos,after,guard⟩:=o;have val:∀(r:SV),GE r H nx iv w->r.sc nx->(∀Y,(MN op=true\/Rel H nx iv B w O Y)->(execOp a.eval ⟨dst,op,ty,pos,after,guard⟩).run P Y= .ok (.value (r.den O)) Y)->
   (∃v,GE v H nx iv w/\v.sc nx/\∀Y,(MN op=true\/Rel H nx iv B w O Y)->(execOp a.eval ⟨dst,op,ty,pos,after,guard⟩).run P Y= .ok (.value (v.den O)) Y)\/(dr=false/\B1 P B ⟨dst,op,ty,pos,after,guard⟩ l H nx iv w GE):=
  fun r hK hs hr=>.inl ⟨r,hK,hs,hr⟩
 unfold BS at h;split at h<;>first|(exact False.elim h)|(rename_i VJ;simp only at VJ;subst VJ)
 .obtain⟨v,hK,hv,hs⟩:=du sat h;exact val v hK hs (fun Y rel=>by simp[execOp,hv])
 .obtain⟨v,hK,hv,hs⟩:=du sat h;exact val v hK hs (fun Y rel=>by simp[execOp,hv])
 .rename_i c x y;obtain⟨v,I,hv,Rx⟩:=du sat h;clear Rx;split at I
  .rename_i t
   cases t
   .obtain⟨u,hK,hu,hs⟩:=du sat (I.f rfl);exact val u hK hs (fun Y rel=>by simp[execOp,hv,SV.den,At.den,asBool,hu])
   .obtain⟨u,hK,hu,hs⟩:=du sat (I.t rfl);exact val u hK hs (fun Y rel=>by simp[execOp,hv,SV.den,At.den,asBool,hu])
  .exact I.elim
 .cases K
 .cases K
 .rename_i t parts;split at h
  .rename_i sz ag by_ ze tag ik e al fs RN;have ht:=hτ t _ RN;obtain⟨inf,z,D,PR,PZ,hz,S5⟩:=ht.info;simp only at PR PZ S5;have hzz:z.cells=(((ze.map At.v)).map (At.den O)).toArray:=by rw[gN];apply Array.ext';simpa using S5
   have hzs:∀c∈ze.map At.v,At.sc nx c:=fun c hc=>by simp at hc;obtain⟨v,_,rfl⟩:=hc;trivial
   split at h
   .rename_i Pe;obtain⟨fds,hu,hf,RA⟩:=ht.i5 (fA Pe);simp only at hf;have XW:fds.toList.mapM (fun f=>(P.info? f.type).map fun i=>(f.offset,i.size))=some (fds.toList.map fun f=>(f.offset,((P.info? f.type).map (·.size)).getD 0)):=by
     clear hf hu;generalize fds.toList=fl at RA
     induction fl with
     |nil=>rfl
     |cons f r ih=>
      obtain⟨i0,Rr⟩:=Option.isSome_iff_exists.1 (RA f bv);rw[List.mapM_cons,ih (fun g X=>RA g (by simp[X]))];simp[Rr]
    have h0:=gP h
    obtain⟨cs',hK,PT,hlen,Q6⟩:=l5 sat (placeF:=fun i=>(fds.toList.map fun f=>(f.offset,((P.info? f.type).map (·.size)).getD 0))[i]?) (fun i k K=>by
     obtain⟨off,ft,fi,I,G,h3,h4⟩:=oV hτ K;refine⟨off,fi.size,I,?_⟩;rw[<-hf]at G;simp only[aO,Option.map_eq_some_iff]at G ⊢;obtain⟨fd,RJ,L⟩:=G;injection L with e1 e2;refine⟨fd,RJ,?_⟩;obtain⟨inf',_,UX,VM,_⟩:=h3.info;rw[e1,e2,UX]
     simp[VM]) h0 hzs
    refine val _ hK PT (fun Y rel=>?_);have hb:P.built t (parts.map fun p=>(p.1,a.eval p.2)).toList=some (cs'.map (At.den O)).toArray:=by
     unfold Program.built;simp only[D,hu,hz,XW]
     rw[hzz,<-Q6];simp
    have:=run_build Y t _ _ hb;simp only[execOp]
    exact nd this
   .split at h
    .rename_i Pe;have hu:=ht.i6 (fA Pe);simp only at hu;split at h
     .rename_i sz' ag' by' ze' tag' ik' e' al' fs' QT
      have QT:=hτ e _ QT;obtain⟨inf',_,UX,VM,_⟩:=QT.info;simp only at VM;have h0:=gP h;obtain⟨cs',hK,PT,hlen,Q6⟩:=l5 sat (placeF:=fun i=>some (i*inf'.size,inf'.size)) (fun i k K=>⟨i*sz',sz',K,by rw[VM]⟩) h0 hzs;refine val _ hK PT (fun Y rel=>?_);have hb:P.built t (parts.map fun p=>(p.1,a.eval p.2)).toList=some (cs'.map (At.den O)).toArray:=by
       unfold Program.built;simp only[D,hu,hz,UX]
       rw[hzz,<-Q6];simp
      have:=run_build Y t _ _ hb;simp only[execOp]
      exact nd this
     .exact h.elim
    .exact h.elim
  .exact h.elim
 .cases K
 .rename_i t x;obtain⟨v,I,hv,hs⟩:=du sat h;obtain⟨r,hK,hr,PD⟩:=pf hτ sat.rel hs I;exact val r hK hr (fun Y rel=>by simp only[execOp,hv];exact nd (PD Y (rel.resolve_left (by simp[MN]))))
 .cases K
 .rename_i x;obtain⟨v,I,hv,hs⟩:=du sat h;split at I
  .exact val _ I hs (fun Y rel=>by simp[execOp,hv,SV.den,At.den])
  .exact val _ I hs (fun Y rel=>by simp[execOp,hv,SV.den,At.den])
  .exact val _ I hs (fun Y rel=>by simp[execOp,hv,SV.den,At.den])
  .exact val _ I hs (fun Y rel=>by simp[execOp,hv,SV.den,At.den])
  .exact I.elim
 .rename_i op t x y u;obtain⟨v,I,hv,_⟩:=du sat h;obtain⟨v2,G,SN,_⟩:=du sat I;obtain⟨r,hK,hr,PD⟩:=M0 (O:=O) hτ G x y;exact val r hK hr (fun Y rel=>by simp only[execOp,hv,SN];exact nd (PD Y))
 .rename_i op t x;obtain⟨v,I,hv,_⟩:=du sat h;split at I
  .exact val _ I trivial (fun Y rel=>by simp[execOp,hv,SV.den,At.den,Op.unary])
  .obtain⟨r,hr,hK⟩:=I;exact val _ hK trivial (fun Y rel=>by subst hr;simp[execOp,hv,SV.den,At.den,Op.unary,Op.intArith])
  .obtain⟨r,hr,hK⟩:=I;exact val _ hK trivial (fun Y rel=>by subst hr;simp[execOp,hv,SV.den,At.den,Op.unary,Op.intBits])
  .exact I.elim
 .rename_i s d x;split at h
  .rename_i tis htis;obtain⟨ds,WJ,_⟩:=(hτ s _ htis).agg;obtain⟨v,I,hv,Rx⟩:=du sat h;clear Rx;split at I
   .rename_i sz ag by_ ze tag ik e al fs RN;have ht:=hτ d _ RN;split at I
    .rename_i Pe;have hu:=ht.i1 (fA Pe);simp only at hu;split at I
     .obtain⟨r,hr,hK⟩:=I;refine val _ hK trivial (fun Y rel=>?_);subst hr;simp[execOp,convert,run_underlying WJ,run_underlying hu,hv,SV.den,At.den,Conv.intToInt]
     .exact I.elim
    .cases dr
     .exact .inr ⟨rfl,I⟩
     .exact I.elim
   .exact I.elim
  .exact h.elim
 .rename_i f first caps
  split at h
  .obtain⟨vs,I,Rx,TD⟩:=tK sat h;obtain⟨ids,hK,hids,PY⟩:=zX (O:=O) I TD;refine val _ hK (fun id QF=>PY id QF) (fun Y rel=>?_);have e:caps.map a.eval=(ids.map fun id=>Value.pointer (some ⟨(O id).g,0,none⟩)).toArray:=by
    apply Array.ext';rw[<-hids,<-Rx];simp
   simp[execOp,Instr.makeFunc,e,SV.den,At.den]
  .exact h.elim
 .cases K
 .rename_i t x lo D;obtain⟨v,I,hv,hs⟩:=du sat h;obtain⟨r,hK,hr,PD⟩:=He hτ sat I hs;exact val r hK hr (fun Y rel=>by simp only[execOp,hv];exact nd (by simpa using PD Y))
 .rename_i t x f;split at h
  .rename_i sz ag by_ ze tag ik e al fs RN;have ht:=hτ t _ RN;split at h
   .rename_i Pe;obtain⟨off,ft,fi,I,hf,Ul,PR⟩:=oV hτ h;obtain⟨v,G,hv,hs⟩:=du sat I;obtain⟨r,ad,hK,hr,hd,XF⟩:=wO (O:=O) G hs;refine val r hK hr (fun Y rel=>?_);simp only[execOp,hv,hd,XF]
    exact nd (Hb ht (fA Pe) hf Ul PR ad Y)
   .exact h.elim
  .exact h.elim
 .rename_i t x f;split at h
  .rename_i sz ag by_ ze tag ik e al fs RN;have ht:=hτ t _ RN;split at h
   .rename_i Pe;obtain⟨off,ft,fi,I,hf,Ul,PR⟩:=oV hτ h;obtain⟨v,G,hv,hs⟩:=du sat I;obtain⟨fds,fd,hu,RJ,e1,e2⟩:=B8 ht (fA Pe) hf;have fin:∀Z:List At,v.den O= .agg (Z.map (At.den O)).toArray->(∀c∈Z,At.sc nx c)->
      (match fi.agg with
       |true=>wB Z off (fun r=>wC r fi.size (fun c=>GE (.a c) H nx iv w))
       |false=>match Fq Z off with
        |some c=>GE (.o c) H nx iv w
        |none=>False)->(∃v,GE v H nx iv w/\v.sc nx/\∀Y,(MN (.field t x f)=true\/Rel H nx iv B w O Y)->(execOp a.eval ⟨dst,.field t x f,ty,pos,after,guard⟩).run P Y= .ok (.value (v.den O)) Y)\/(dr=false/\B1 P B ⟨dst,.field t x f,ty,pos,after,guard⟩ l H nx iv w GE):=by
     intro Z hd PT K;split at K
     .rename_i hag;obtain⟨h3,Rh⟩:=p9 K;obtain⟨hK,Pc⟩:=pc h3;refine val _ hK (fun c hc=>PT c (List.mem_of_mem_drop (bq hc))) (fun Y rel=>?_);simp only[execOp,hv,hd]
      refine nd ?_;subst e1 e2;simp[Instr.field,run_underlying hu,RJ,asAgg,part,Ul.isAgg,hag,Ul.sizeOf,SV.den,List.map_drop,List.map_take,List.extract_eq_take_drop]
     .rename_i hag;split at K
      .rename_i c hc;rw[yO]at hc;refine val _ K (PT c (aC hc)) (fun Y rel=>?_);simp only[execOp,hv,hd]
       refine nd ?_;subst e1 e2;simp[Instr.field,run_underlying hu,RJ,asAgg,part,Ul.isAgg,hag,hc,SV.den]
      .exact K.elim
    split at G
    .rename_i vs;exact fin (vs.map At.v) (by rw[gN];rfl) (fun c hc=>by simp at hc;obtain⟨v,_,rfl⟩:=hc;trivial) (gP G)
    .exact fin _ rfl hs G
    .exact G.elim
   .exact h.elim
  .exact h.elim
 .rename_i t x i;obtain⟨v,I,hv,hs⟩:=du sat h;obtain⟨u,G,hu,_⟩:=du sat I;obtain⟨r,hK,hr,PD⟩:=Hc hτ G hs sat.rel;exact val r hK hr (fun Y rel=>by simp only[execOp,hv,hu];exact nd (PD Y))
 .rename_i x i;obtain⟨v,I,hv,hs⟩:=du sat h;split at I
  .split at I
   .rename_i vs u hu;rw[E7]at hu;exact val _ I trivial (fun Y rel=>by simp[execOp,hv,Instr.extract,SV.den,At.den,hu])
   .exact I.elim
  .exact I.elim
 .rename_i x t;obtain⟨v,I,hv,_⟩:=du sat h;obtain⟨r,hK,PD⟩:=MY (ty:=ty) hτ I sat.rel;refine val _ hK trivial (fun Y rel=>?_);show _=Result.ok (Next.value (Value.int .i64 r)) Y;generalize v.den O=xv at hv PD;have PD:=PD Y;simp[execOp,resolve,invoke,builtin,hv,PD]
 .cases K
 .rename_i x y ts;obtain⟨v,I,hv,_⟩:=du sat h;obtain⟨v2,G,SN,_⟩:=du sat I;split at G
  .split at G
   .rename_i k a1 k' b1 Vv;have SR:=rW Vv;subst SR;refine val _ G trivial (fun Y rel=>?_);simp only[execOp,resolve,invoke,builtin]
    simp[hv,SN,SV.den,At.den,Builtin.max_,Builtin.max2];omega
   .exact G.elim
  .exact G.elim
 .rename_i x y ts;obtain⟨v,I,hv,_⟩:=du sat h;obtain⟨v2,G,SN,_⟩:=du sat I;split at G
  .split at G
   .rename_i k a1 k' b1 Vv;have SR:=rW Vv;subst SR;refine val _ G trivial (fun Y rel=>?_);simp only[execOp,resolve,invoke,builtin]
    simp[hv,SN,SV.den,At.den,Builtin.min_,Builtin.min2];omega
   .exact G.elim
  .exact G.elim
 .cases K
 .cases K
 .cases K
 .cases K
 .cases K
 .cases K
 .cases K
 .cases K
theorem jS{o:Oper}(h:B1 P B o l H nx iv w GE)(sat:Sat n l H nx iv B w O a J){next:Act->World->Prop}
  (W:aCX n B l a o.dst GE next):o.wp P a J next Q:=by
 obtain⟨v,Y,N,PD,QA,hK⟩:=h.h O J a.eval sat.rel (fun x v U=>(wN sat U).1);have:=W _ _ _ _ _ _ _ hK (sat.next QA (aP _) (fun _ _=>rfl)) trivial;unfold Oper.wp;rcases PD with PD|⟨PD,rfl⟩
 .rw[PD];exact this
 .rw[PD];exact this
theorem pZ(hτ:gM P τ){o:Oper}(h:BS dr P τ B o l H nx iv w GE)(sat:Sat n l H nx iv B w O a J){next:Act->World->Prop}
  (W:aCX n B l a o.dst GE next):o.wp P a J next Q:=by
 by_cases K:yK o.op=true
 .rcases n9 hτ h sat K with⟨v,hK,hs,hr⟩|⟨_,VJ⟩
  .exact oR (hr J (.inr sat.rel)) (W _ _ _ _ _ _ _ hK sat hs)
  .exact jS VJ sat W
 obtain⟨dst,op,ty,pos,after,guard⟩:=o;unfold BS at h;split at h<;>first|(exact False.elim h)|(rename_i VJ;simp only at VJ;subst VJ)
 .exact absurd rfl K
 .exact absurd rfl K
 .exact absurd rfl K
 .rename_i t;split at h
  .rename_i sz ag by_ ze tag ik e al fs RN;obtain⟨z,Pj,QY⟩:=(hτ t _ RN).zeroV J;have hK:=gP h;simp only at QY;have QA:=Ft sat (t:=t) (Z:=ze.map At.v) (fun c hc=>by simp at hc;obtain⟨v,_,rfl⟩:=hc;trivial);rw[gN]at QA;have hzz:z.cells=ze.toArray:=by apply Array.ext';simpa using QY
   refine oR (Y:=J.alloc (.cells ze.toArray t)) (v:=.pointer (some ⟨J.heap.size,0,none⟩)) ?_ ?_
   .simp[execOp,Instr.alloc,Pj,newVar,newRow,hzz]
   .have:=W _ _ _ _ _ _ _ hK (sat.next QA be iT) (by simp[SV.sc,At.sc]);simpa [SV.den,At.den]using this
  .exact h.elim
 .rename_i t x;obtain⟨v,I,hv,hs⟩:=du sat h;obtain⟨Z,hK,QG,TD⟩:=nc I;have QA:=Ft sat (t:=t) (TD nx hs);refine oR (Y:=J.alloc (.cells (Z.map (At.den O)).toArray t)) (v:=.pointer (some ⟨J.heap.size,0,none⟩)) ?_ ?_
  .simp[execOp,Instr.box,hv,newVar,newRow,QG O]
  .have:=W _ _ _ _ _ _ _ hK (sat.next QA be iT) (by simp[SV.sc,At.sc]);simpa [SV.den,At.den]using this
 .exact absurd rfl K
 .rename_i t m parts;split at h
  .rename_i sz ag by_ ze tag ik e al fs RN;have ht:=hτ t _ RN;split at h
   .rename_i Pe;have hu:=ht.i4 (fA Pe);simp only at hu;split at h
    .rename_i sz' ag' by' ze' tag' ik' e' al' fs' QT
     have QT:=hτ e _ QT;obtain⟨inf,z,D,PR,PZ,hz,S5⟩:=QT.info;have Sl:=QT.MQ;simp only at PR PZ S5 Sl;split at h
     .rename_i hle;have hle:=Nat.le_of_ble_eq_true hle;have h0:=gP h;obtain⟨cs',hK,PT,hlen,Q6⟩:=l5 sat (placeF:=fun i=>some (i*inf.size,inf.size)) (fun i k K=>⟨i*sz',sz',K,by rw[PR]⟩) h0
       (fun c hc=>by obtain⟨v,_,rfl⟩:=aV.1 hc;trivial)
      rw[gN]at Q6;have Rp:z.cells=ze'.toArray:=by apply Array.ext';simpa using S5
      have WQ:((List.replicate m ze').flatten).toArray=madeCells z.cells (m*inf.size):=by
       rw[Rp,PR,<-Sl];exact(tN ze' m).symm
      have QA:=Ft sat (t:=e) PT;refine oR (Y:=J.alloc (.cells (cs'.map (At.den O)).toArray e)) (v:=.slice (some ⟨J.heap.size,0,none⟩) m m) ?_ ?_
      .simp only[execOp]
       refine nd ?_;rw[WQ]at Q6;by_cases Ph:m*inf.size=0
       .have Sb:Instr.fill (fun i=>some (i*inf.size,inf.size)) (madeCells z.cells 0) (parts.toList.map fun p=>(p.1,a.eval p.2))=some (cs'.map (At.den O)).toArray:=by rw[Ph]at Q6;exact Q6
        have e0:madeCells z.cells 0= #[]:=by simp[madeCells]
        rw[e0]at Sb;have er:Array.range 0= #[]:=rfl;simp[Instr.buildSlice,run_underlying hu,sizeOf,typeInfo,zeroValue,D,hz,Ph,newRow,Sb,er]
       .exact run_buildSlice J t e m _ _ inf z hu D hz (by rw[PR];omega) Ph (by rw[<-Q6];simp[madeCells])
      .have:=W _ _ _ _ _ _ _ hK (sat.next QA be iT) (by simp[SV.sc,At.sc]);simpa [SV.den,At.den]using this
     .exact h.elim
    .exact h.elim
   .exact h.elim
  .exact h.elim
 .exact absurd rfl K
 .rename_i t x y;obtain⟨v,I,hv,hs⟩:=du sat h;obtain⟨u,G,hu,Qy⟩:=du sat I
  cases X:aCW H v u with
  |true=>
   rw[X]at G
   cases dr with
   |true=>exact G.elim
   |false=>
    have G:OpG P B _ l H nx iv w GE:=G;obtain⟨Y,w3,H',N,PD,QA,hK⟩:=G.h O J a.eval sat.rel (fun x v U=>(wN sat U).1);refine OL (Y:=w3) PD ?_;exact W _ _ _ _ _ _ _ hK (sat.next QA (aP _) (fun _ _=>rfl)) trivial
  |false=>
   rw[X]at G;obtain⟨H',Y,w3,hK,QA,PD⟩:=zV hτ sat hs Qy G;refine OL (Y:=w3) (by simp[execOp,hv,hu,PD]) ?_;exact W _ _ _ _ _ _ _ hK (sat.next QA (aP _) (fun _ _=>rfl)) trivial
 .exact absurd rfl K
 .exact absurd rfl K
 .exact absurd rfl K
 .exact absurd rfl K
 .exact absurd rfl K
 .rename_i t x y;obtain⟨v,I,hv,_⟩:=du sat h;obtain⟨u,G,hu,_⟩:=du sat I;obtain⟨r,H',PC,IR,Y,hK,QA,hr,Qf,Id,PD⟩:=Jh hτ sat G;refine oR (Y:=Y) (by simp only[execOp,hv,hu];exact nd PD) ?_;exact W _ _ _ _ _ _ _ hK (sat.next QA Qf Id) hr
 .exact absurd rfl K
 .exact absurd rfl K
 .exact absurd rfl K
 .exact absurd rfl K
 .exact absurd rfl K
 .exact absurd rfl K
 .rename_i x y t u;split at h
  .rename_i htu;have htu:=fA htu;subst htu;obtain⟨v,I,hv,_⟩:=du sat h;obtain⟨v2,G,SN,_⟩:=du sat I;split at G
   .unfold gaK at G;split at G
    .exact G.elim
    .obtain⟨v,H',PC,N,IR,Y,w3,PD,QA,hs,Qf,Id,hK⟩:=G.h O J a.eval sat.rel (fun x v U=>(wN sat U).1);exact oR PD (W _ _ _ _ _ _ _ hK (sat.next QA Qf Id) hs)
   rcases G with G|G
   .obtain⟨r,H',PC,IR,Y,hK,QA,hr,Qf,Id,PD⟩:=wL (ty:=ty) hτ sat G;refine oR (v:=r.den IR) (Y:=Y) ?_ ?_
    .simp[execOp,resolve,invoke,builtin,hv,SN,PD]
    .exact W _ _ _ _ _ _ _ hK (sat.next QA Qf Id) hr
   .exact jS G sat W
  .exact jS h sat W
 .exact absurd rfl K
 .exact absurd rfl K
 .exact jS h sat W
 .exact jS h sat W
 .exact jS h sat W
 .exact jS h sat W
 .exact jS h sat W
 .exact jS h sat W
 .exact jS h sat W
 .rename_i f args ats;obtain⟨v,I,hv,_⟩:=du sat h;obtain⟨vs,G,Rx,TD⟩:=tK sat I;have Sw:(args.toArray).map a.eval=oQ O vs:=by
   apply Array.ext';simp[oQ,Rx]
  have YO:∀(g:Nat) (args:(Nat->eG)->Array Value) (GE:SV->Hp->Iv->World->Prop),OI dr P B g args H nx iv w GE->E4 P B g args H nx iv w GE:=fun g args GE h=>by
   cases dr
   .exact h
   .exact cQ h
  split at G
  .rename_i g first caps
   refine Bb sat (YO _ _ _ G) ?_ (fun v H' N Y hK hs hv=>W _ _ _ _ _ _ _ hK hs hv);simp[execOp,resolve,hv,SV.den,At.den,Deferred.ofValue,invoke,Sw]
  .rename_i g ids;refine Bb sat (YO _ _ _ G) ?_ (fun v H' N Y hK hs hv=>W _ _ _ _ _ _ _ hK hs hv);simp[execOp,resolve,hv,SV.den,At.den,Deferred.ofValue,invoke,Sw]
  .exact G.elim
end
def Ex.to:Ex->Exit
 | .normal=>.normal
 | .exit id=>.exit id
 | .ret=>.ret
def aCi(n:Nat)(o:Oper):Bool:=match o.dst with
 |some d=>Nat.blt d n
 |none=>true
def codeOk(n:Nat):Code->Bool
 | .region _ ops _=>ops.toList.all (aCi n)
 | .seq a b=>codeOk n a&&codeOk n b
 | .cond _ a b=>codeOk n a&&codeOk n b
 | .block _ c=>codeOk n c
 | .loop c=>codeOk n c
 |_=>true
section
variable{P:Program}{τ:og}{B n nx:Nat}{l:Env}{H:Hp}{iv:Iv}{w J:World}{O:Nat->eG}{a:Act}
theorem Sat.put(sat:Sat n l H nx iv B w O a J){d:Nat}(hd:d<n){v:SV}(hv:v.sc nx):Sat n ((d,v)::l) H nx iv B w O (a.put (some d) (v.den O)) J:=by
 refine⟨sat.rel,by simp[Act.put,sat.size],sat.defers,fun t u h=>?_,fun t u h=>?_⟩
 .rw[fQ]at h;split at h
  .rename_i e;subst e;injection h with h;subst h;simp[Act.put,sat.size,hd]
  .rename_i e;have:=sat.env t u h;simpa [Act.put,Array.getElem?_setIfInBounds_ne e]using this
 .rw[fQ]at h;split at h
  .injection h with h;subst h;exact hv
  .exact sat.sc t u h
theorem jR(sat:Sat n l H nx iv B w O a J){v:SV}{k:Env->Prop}(h:H0 d v l k)(hd:∀t,d=some t->t<n)(hv:v.sc nx):
  ∃l',k l'/\Sat n l' H nx iv B w O (a.put d (v.den O)) J:=by
 unfold H0 at h;split at h
 .rename_i t;exact⟨_,h,sat.put (hd t rfl) hv⟩
 .exact⟨l,h,sat⟩
theorem uc:∀{all:List Oper} {j:Nat},E6 all j=(all[j]?).bind (·.dst)
 |[],j=>by simp[E6]
 |o::r,0=>by simp[E6]
 |o::r,j+1=>by simp[E6,uc (all:=r)]
theorem Sat.aDW(sat:Sat n l H nx iv B w O a J){d:Nat}{v:SV}(hd:a.tmps[d]? =some (v.den O))(hv:v.sc nx):Sat n ((d,v)::l) H nx iv B w O a J:=by
 refine⟨sat.rel,sat.size,sat.defers,fun t u h=>?_,fun t u h=>?_⟩
 .rw[fQ]at h;split at h
  .rename_i e;subst e;injection h with h;subst h;exact hd
  .exact sat.env t u h
 .rw[fQ]at h;split at h
  .injection h with h;subst h;exact hv
  .exact sat.sc t u h
theorem mQ(sat:Sat n l H nx iv B w O a J){all:List Oper}{o:Oper}{yes no:Env->Prop}(h:wF all o.guard l yes no):
  (Region.wanted o (yielded all.toArray a.tmps)=true/\∃l',yes l'/\Sat n l' H nx iv B w O a J)\/(Region.wanted o (yielded all.toArray a.tmps)=false/\∃l',no l'/\Sat n l' H nx iv B w O a J):=by
 unfold wF at h;split at h
 .rename_i X;exact .inl ⟨by simp[Region.wanted,X],l,h,sat⟩
 .rename_i j want X;have hy:Region.wanted o (yielded all.toArray a.tmps)=(yielded all.toArray a.tmps j==some want):=by simp[Region.wanted,X]
  split at h
  .rename_i hd;rw[uc]at hd;exact .inr ⟨by rw[hy];simp[yielded,hd],l,h,sat⟩
  .rename_i d hd;rw[uc]at hd;split at h
   .rename_i b hb;have ht:=sat.env d _ hb;have WR:yielded all.toArray a.tmps j=some b:=by simp[yielded,hd,ht,SV.den,At.den]
    have hkt:b=true->Sat n ((d,.o (.v (.bool true)))::l) H nx iv B w O a J:=fun e=>sat.aDW (by rw[ht,e]) trivial;have hkf:b=false->Sat n ((d,.o (.v (.bool false)))::l) H nx iv B w O a J:=fun e=>sat.aDW (by rw[ht,e]) trivial;split at h
    .cases PO:b
     .exact .inr ⟨by rw[hy,WR,PO];rfl,_,h.f PO,hkf PO⟩
     .exact .inl ⟨by rw[hy,WR,PO];rfl,_,h.t PO,hkt PO⟩
    .cases PO:b
     .exact .inl ⟨by rw[hy,WR,PO];rfl,_,h.f PO,hkf PO⟩
     .exact .inr ⟨by rw[hy,WR,PO];rfl,_,h.t PO,hkt PO⟩
   .rename_i vs hb;have ht:=sat.env d _ hb;exact .inr ⟨by rw[hy];simp[yielded,hd,ht,SV.den,At.den],l,h,sat⟩
   .exact h.elim
theorem rX(hτ:gM P τ){all:List Oper}{GE:KT}{Q:Exit->Act->World->Prop}
  (hQ:∀l' H' PC N Y IR a' w3,GE l' H' PC N Y->Sat n l' H' PC N B Y IR a' w3->Q .normal a' w3):
  ∀(rest:List Oper) (l:Env) (H:Hp) (nx:Nat) (iv:Iv) (w:World) (O:Nat->eG) (a:Act) (J:World),rest.all (aCi n)=true->LM P τ B all rest l H nx iv w GE->Sat n l H nx iv B w O a J->
   wpList P all.toArray Q rest a J
 |[],l,H,nx,iv,w,O,a,J,_,h,sat=>wpList_nil (hQ _ _ _ _ _ _ _ _ h sat)
 |o::r,l,H,nx,iv,w,O,a,J,Oz,h,sat=>by
  simp only[List.all_cons,bL]at Oz;have hd:∀t,o.dst=some t->t<n:=fun t ht=>by
   have:=Oz.1;simp only[aCi,ht]at this;have h5:t+1<=n:=by simpa [Nat.blt]using this
   exact h5
  refine wpList_step fun Kc hKc=>?_;unfold LM jA at h;rcases mQ sat h with⟨V,l1,I,sat1⟩|⟨V,l1,I,sat1⟩
  .rw[aM V];refine pZ hτ I sat1 fun v H' PC N Y IR w3 G sat2 hv=>?_;obtain⟨l2,h3,sat3⟩:=jR sat2 G hd hv;exact hKc _ _ (rX hτ hQ r _ _ _ _ _ _ _ _ Oz.2 h3 sat3)
  .rw[aJ (by simp[V])];obtain⟨l2,h3,sat3⟩:=jR sat1 I hd trivial;exact hKc _ _ (rX hτ hQ r _ _ _ _ _ _ _ _ Oz.2 h3 sat3)
theorem Sub.sat{t:B4}(h:Sub B l nx O J t)(sat:Sat n l H nx iv B w O a J):∃IR,Sat n t.l t.H t.nx t.iv B t.w IR a J:=by
 obtain⟨IR,I,G⟩:=h;refine⟨IR,I,sat.size,sat.defers,fun u v hv=>?_,fun u v hv=>(G u v hv).1⟩;obtain⟨_,v0,h3,h4⟩:=G u v hv;rw[sat.env u v0 h3,h4]
theorem jB(hτ:gM P τ):∀(c:Code) (l:Env) (H:Hp) (nx:Nat) (iv:Iv) (w:World) (Q':Ex->KT),oT P τ B c l H nx iv w Q'->codeOk n c=true->
  ∀(O:Nat->eG) (a:Act) (J:World),Sat n l H nx iv B w O a J->∀Q:Exit->Act->World->Prop,(∀e l' H' PC N Y IR a' w3,Q' e l' H' PC N Y->Sat n l' H' PC N B Y IR a' w3->Q e.to a' w3)->c.wp P Q a J
 | .skip,l,H,nx,iv,w,Q',h,_,O,a,J,sat,Q,hQ=>wp_skip (hQ .normal _ _ _ _ _ _ _ _ h sat)
 | .region id ops false,l,H,nx,iv,w,Q',h,Oz,O,a,J,sat,Q,hQ=>by
  obtain⟨ol⟩:=ops;exact wp_region_lit (rX hτ (fun l' H' PC N Y IR a' w3 K hs=>hQ .normal _ _ _ _ _ _ _ _ K hs) ol _ _ _ _ _ _ _ _ Oz h sat)
 | .region id ops true,l,H,nx,iv,w,Q',h,Oz,O,a,J,sat,Q,hQ=>
  yM.h h n O a J Oz sat Q (fun l' H' PC N Y IR a' w3 K hs=>hQ .normal _ _ _ _ _ _ _ _ K hs) id
 | .seq c d,l,H,nx,iv,w,Q',h,Oz,O,a,J,sat,Q,hQ=>by
  simp only[codeOk,bL]at Oz;refine wp_seq (jB hτ c _ _ _ _ _ _ h Oz.1 O a J sat _ fun e l' H' PC N Y IR a' w3 K hs=>?_)
  cases e with
  |normal=>exact jB hτ d _ _ _ _ _ _ K Oz.2 IR a' w3 hs Q hQ
  |exit id=>exact hQ (.exit id) _ _ _ _ _ _ _ _ K hs
  |ret=>exact hQ .ret _ _ _ _ _ _ _ _ K hs
 | .cond x c d,l,H,nx,iv,w,Q',h,Oz,O,a,J,sat,Q,hQ=>by
  simp only[codeOk,bL]at Oz;obtain⟨v,I,hv,Rx⟩:=du sat h;clear Rx;split at I
  .rename_i t;refine wp_cond_split (t:=t) (by rw[hv];rfl) (fun ht=>?_) (fun ht=>?_)
   .exact jB hτ c _ _ _ _ _ _ (I.t ht) Oz.1 O a J sat Q hQ
   .exact jB hτ d _ _ _ _ _ _ (I.f ht) Oz.2 O a J sat Q hQ
  .exact I.elim
 | .block id c,l,H,nx,iv,w,Q',h,Oz,O,a,J,sat,Q,hQ=>by
  refine wp_block (jB hτ c _ _ _ _ _ _ h Oz O a J sat _ fun e l' H' PC N Y IR a' w3 K hs=>?_)
  cases e with
  |normal=>exact hQ .normal _ _ _ _ _ _ _ _ K hs
  |exit id'=>
   simp only[Ex.to,Exit.inBlock]
   simp only at K;split at K
   .rename_i L;rw[aM (fA L)];exact hQ .normal _ _ _ _ _ _ _ _ K hs
   .rename_i L;rw[aJ (fun e=>by subst e;rw[Nat.beq_refl]at L;cases L)];exact hQ (.exit id') _ _ _ _ _ _ _ _ K hs
  |ret=>exact hQ .ret _ _ _ _ _ _ _ _ K hs
 | .loop c,l,H,nx,iv,w,Q',h,Oz,O,a,J,sat,Q,hQ=>by
  obtain⟨α,st,μ,A',h0,hr⟩:=h;intro b k Z;have key:∀m x O a J,μ x=m->A' x->Sat n (st x).l (st x).H (st x).nx (st x).iv B (st x).w O a J->
    ∃e a' Y,Q e a' Y/\Arrives P (lone (b.at a (.code c:: .inLoop c::k)) Z J) b k Z e a' Y:=by
   intro m
   induction m using Nat.strongRecOn with
   |_ m ih=>
    intro x O a J hm hI hs;have hc:=jB hτ c _ _ _ _ _ _ (hr x hI) Oz O a J hs
     (fun e a2 Y=>match e with
      | .normal=>∃y If,A' y/\Sat n (st y).l (st y).H (st y).nx (st y).iv B (st y).w If a2 Y/\μ y<μ x
      |e=>Q e a2 Y) (fun e l' H' PC N Y IR a' w3 K VM=>by
       cases e with
       |normal=>
        obtain⟨y,hIy,hy,PY⟩:=K IR w3 VM.rel;obtain⟨If,Qy⟩:=hy.sat VM;exact⟨y,If,hIy,Qy,PY⟩
       |exit id=>exact hQ (.exit id) _ _ _ _ _ _ _ _ K VM
       |ret=>exact hQ .ret _ _ _ _ _ _ _ _ K VM)
    obtain⟨e,a₁,w₁,hq,Tw⟩:=hc b (.inLoop c::k) Z
    cases e with
    |normal=>
     obtain⟨y,If,hIy,Qy,PY⟩:=hq;obtain⟨e₂,a₂,w₂,hq₂,harr₂⟩:=ih (μ y) (hm▸PY) y If a₁ w₁ rfl hIy Qy;exact⟨e₂,a₂,w₂,hq₂,.of_steps (Steps.trans Tw (.one step_inLoop)) harr₂⟩
    |exit id=>exact⟨_,a₁,w₁,hq,.pass (x:=.inLoop c) rfl (fun _ _=>.inl bv) Tw⟩
    |goto l=>exact⟨_,a₁,w₁,hq,.pass (x:=.inLoop c) rfl (fun _ _=>.inl bv) Tw⟩
    |ret=>exact⟨_,a₁,w₁,hq,.pass (x:=.inLoop c) rfl (fun _ _=>.inl bv) Tw⟩
    |panic ch=>exact⟨_,a₁,w₁,hq,.pass (x:=.inLoop c) rfl (fun _ _=>.inl bv) Tw⟩
    |outgrown=>exact⟨_,a₁,w₁,hq,.pass (x:=.inLoop c) rfl (fun _ _=>.inl bv) Tw⟩
  obtain⟨x,hIx,U⟩:=h0 O J sat.rel;obtain⟨If,Qy⟩:=U.sat sat;obtain⟨e,a',Y,hq,Tw⟩:=key _ x If a J rfl hIx Qy;exact⟨e,a',Y,hq,.of_steps (.one step_loop) Tw⟩
 | .exit id,l,H,nx,iv,w,Q',h,_,O,a,J,sat,Q,hQ=>wp_exit (hQ (.exit id) _ _ _ _ _ _ _ _ h sat)
 | .ret,l,H,nx,iv,w,Q',h,_,O,a,J,sat,Q,hQ=>wp_ret (hQ .ret _ _ _ _ _ _ _ _ h sat)
 | .rangeFunc _ _ _ _,l,H,nx,iv,w,Q',h,_,O,a,J,sat,Q,hQ=>h.elim
 | .scope _,l,H,nx,iv,w,Q',h,_,O,a,J,sat,Q,hQ=>h.elim
 | .label _,l,H,nx,iv,w,Q',h,_,O,a,J,sat,Q,hQ=>h.elim
 | .goto _,l,H,nx,iv,w,Q',h,_,O,a,J,sat,Q,hQ=>h.elim
 | .refuse _,l,H,nx,iv,w,Q',h,_,O,a,J,sat,Q,hQ=>h.elim
def fc:Nat->List Value->Env
 |_,[]=>[]
 |k,v::r=>(k,.o (.v v))::fc (k+1) r
theorem uf:∀(vs:List Value) (k t:Nat) (v:SV),gK (fc k vs) t=some v->k<=t/\∃x,v= .o (.v x)/\vs[t-k]? =some x
 |[],k,t,v,h=>by simp[fc,gK]at h
 |x::r,k,t,v,h=>by
  rw[fc,fQ]at h;split at h
  .rename_i e;subst e;injection h with h;subst h;exact⟨aP _,x,rfl,bv⟩
  .obtain⟨I,y,G,h3⟩:=uf r (k+1) t v h;refine⟨be,y,G,?_⟩;rw[show t-k=(t-(k+1))+1 by omega];simpa using h3
def Hg(τ:og)(B:Nat)(l:Env)(H:Hp)(nx:Nat)(iv:Iv)(w:World):List ResultVar->(List SV->Prop)->Prop
 |[],k=>k []
 | .tmp t::r,k=>match gK l t with
  |some v=>Hg τ B l H nx iv w r (fun vs=>k (v::vs))
  |none=>False
 | .cell t ty::r,k=>match gK l t with
  |some v=>E5 τ B ty v H nx iv w (fun u=>Hg τ B l H nx iv w r (fun vs=>k (u::vs)))
  |none=>False
def OM(B:Nat)(H:Hp)(nx:Nat)(iv:Iv)(w:World)(Fn:Ending->World->Prop):List SV->Prop
 |[v]=>∀O J,Rel H nx iv B w O J->Fn (.returned (v.den O)) J
 |vs=>∀O J,Rel H nx iv B w O J->Fn (.returned (.tuple (oQ O vs))) J
def aCj(τ:og)(B:Nat)(rs:List ResultVar)(Fn:Ending->World->Prop):Ex->KT
 | .exit _,_,_,_,_,_=>False
 | .normal,l,H,nx,iv,w=>Hg τ B l H nx iv w rs (OM B H nx iv w Fn)
 | .ret,l,H,nx,iv,w=>Hg τ B l H nx iv w rs (OM B H nx iv w Fn)
def ON(tmps:Array Value):ResultVar->Sem Value
 | .tmp t=>pure (tmps.getD t undef)
 | .cell c t=>do loadVar t (<-asAddr (tmps.getD c undef))
theorem yQ(hτ:gM P τ)(sat:Sat n l H nx iv B w O a J):∀{rs:List ResultVar} {k:List SV->Prop},Hg τ B l H nx iv w rs k->
  ∃vs,k vs/\(rs.mapM (ON a.tmps)).run P J= .ok (vs.map (SV.den O)) J
 |[],k,h=>⟨[],h,bv⟩
 | .tmp t::r,k,h=>by
  unfold Hg at h;split at h
  .rename_i v hv;obtain⟨vs,I,G⟩:=yQ hτ sat h;have:=sat.env t v hv;exact⟨v::vs,I,by rw[List.mapM_cons,Sem.run_bind];simp[ON,this,G]⟩
  .exact h.elim
 | .cell t ty::r,k,h=>by
  unfold Hg at h;split at h
  .rename_i v hv;obtain⟨u,I,hu,YP⟩:=pf hτ sat.rel (sat.sc t v hv) h;have PD:=YP J sat.rel;clear YP;obtain⟨vs,G,h3⟩:=yQ hτ sat I;have htm:=sat.env t v hv;refine⟨u::vs,G,?_⟩;have:(do loadVar ty (<-asAddr (v.den O)):Sem Value).run P J= .ok (u.den O) J:=by
    revert PD;generalize v.den O=x;intro PD
    cases x with
    |pointer ad=>
     cases ad with
     |some ad=>simpa [asAddr,Instr.loadAt,Instr.sureAddr]using PD
     |none=>simp[Instr.loadAt,Instr.sureAddr]at PD
    |_=>simp[Instr.loadAt,Instr.sureAddr]at PD
   have h4:(ON a.tmps (.cell t ty)).run P J= .ok (u.den O) J:=by
    have e:a.tmps.getD t undef=v.den O:=by simp[htm]
    show(do loadVar ty (<-asAddr (a.tmps.getD t undef)):Sem Value).run P J=_;rw[e];exact this
   rw[List.mapM_cons,Sem.run_bind,h4];simp[h3]
  .exact h.elim
theorem Hh(hτ:gM P τ){f:FuncId}{fn:Func}{c:Code}{args:Array Value}{w:World}(hf:P.funcs[f]? =some fn)(hb:fn.body=some c)
  (W:args.size<=fn.ntmps) (Oz:codeOk fn.ntmps c=true) (h:oT P τ w.heap.size c (fc 0 args.toList) [] 0 [] w (aCj τ w.heap.size fn.results.toList Fn)):Calls P f args w Fn:=by
 refine calls_of_wp hf hb ?_;have sat:Sat fn.ntmps (fc 0 args.toList) [] 0 [] w.heap.size w (fun _=>⟨0,0,true⟩) {tmps:=args++Array.replicate (fn.ntmps-args.size) undef,defers:=[]} w:=by
  refine⟨Rel.mk' rfl rfl rfl (aP _) (aP _) bv (by simp[dU]) (by simp[dU]) (by simp[dU]) (by simp[dU]) (by simp[dU]) (fun _ _ _=>rfl) bv,by simp;omega,rfl,fun t v hv=>?_,fun t v hv=>?_⟩
  .obtain⟨_,x,rfl,U⟩:=uf _ 0 t v hv;simp only[Nat.sub_zero,bQ]at U;rw[Array.getElem?_append_left (bM.1 U).1,U];rfl
  .obtain⟨_,x,rfl,U⟩:=uf _ 0 t v hv;trivial
 refine jB hτ c _ _ _ _ _ _ h Oz _ _ _ sat _ fun e l' H' PC N Y IR a' w3 K hs=>?_;have fin:Hg τ w.heap.size l' H' PC N Y fn.results.toList (OM w.heap.size H' PC N Y Fn)->a'.defers=[]/\∃v,(results fn a'.tmps).run P w3= .ok v w3/\Fn (.returned v) w3:=by
  intro K;obtain⟨vs,I,G⟩:=yQ hτ hs K;refine⟨hs.defers,if PR:(vs.map (SV.den IR)).toArray.size=1 then(vs.map (SV.den IR)).toArray[0]else .tuple (vs.map (SV.den IR)).toArray,?_,?_⟩
  .have e:(fn.results.mapM (ON a'.tmps)).run P w3= .ok (vs.map (SV.den IR)).toArray w3:=by
    rw[Array.mapM_eq_mapM_toList];simp only[Sem.run_map,G,Result.andThen_ok]
   show(do let vs <-fn.results.mapM (ON a'.tmps);pure (if h:vs.size=1 then vs[0]else .tuple vs):Sem Value).run P w3=_;rw[Sem.run_bind,e];simp only[Result.andThen_ok,Sem.run_pure]
  .match vs,I with
   |[v],I=>simpa using I IR w3 hs.rel
   |[],I=>simpa [oQ]using I IR w3 hs.rel
   |v1::v2::r,I=>simpa [oQ]using I IR w3 hs.rel
 cases e with
 |normal=>exact fin K
 |exit id=>exact K.elim
 |ret=>exact fin K
end
section
variable{P:Program}{ops:Array Oper}{Q:Exit->Act->World->Prop}{md:Region.Mode}
def jC(P:Program)(ops:Array Oper)(pu:Bool)(o:Oper)(v:Value)(a:Act)(w:World):Prop:=
 (Region.wanted o (yielded ops a.tmps)=true/\∀Y,(pu=true\/Ext w Y)->(execOp a.eval o).run P Y= .ok (.value v) Y)\/
 (Region.wanted o (yielded ops a.tmps)=false/\v=undef)
theorem Ext.refl(w:World):Ext w w:=RowKit.Below.refl _ _
theorem Ext.trans{a b c:World}(h:Ext a b)(k:Ext b c):Ext a c:=RowKit.Below.trans h (k.mono h.size)
theorem jC.wpOp{i:Nat}{o:Oper}{a:Act}(D:ops[i]? =some o)(hy:jC P ops pu o v a w)
  {GE:Act->World->Prop} (h:GE (a.put o.dst v) w):wpOp P ops Q i GE a w:=by
 unfold Go.wpOp;simp only[D]
 rcases hy with⟨V,hv⟩|⟨V,rfl⟩
 .simp only[V,if_true,Oper.wp,hv w (.inr (Ext.refl w)),Oper.upon];exact .inl h
 .simp only[V,Bool.false_eq_true,if_false];exact h
theorem jC.of_same{o:Oper}{a a':Act}(hy:jC P ops pu o v a w)(L:execOp a'.eval o=execOp a.eval o)
  (V:Region.wanted o (yielded ops a'.tmps)=Region.wanted o (yielded ops a.tmps)):jC P ops pu o v a' w:=by
 unfold jC at*
 rw[L,V];exact hy
theorem jC.ext{o:Oper}{a:Act}(hy:jC P ops pu o v a w)(e:pu=true\/Ext w Y):jC P ops pu o v a Y:=
 hy.imp (fun ⟨I,G⟩=>⟨I,fun w3 h3=>G w3 (by
  rcases h3 with h3|h3
  .exact .inl h3
  .exact e.imp id (fun e=>e.trans h3))⟩) id
theorem M4{oi oj:Oper}{w0:World}(hj:ops[j]? =some oj)(Rn:oi.apart ops oj=true)
  (hsi:∀Z b,oi.op≠ .select Z b) (hsj:∀Z b,oj.op≠ .select Z b)
  (hQ:∀c a w,Q (.panic c) (a.put oi.dst v) w->Q (.panic c) a w) {GE:Act->World->Prop} {a:Act}
  (hy:jC P ops pu oi v a w0) (h:wpOp P ops Q j GE (a.put oi.dst v) w):
  wpOp P ops Q j (fun a' J=>jC P ops pu oi v a' w0/\GE (a'.put oi.dst v) J) a w:=by
 obtain⟨I,G,h3⟩:=Oper.apart_spec Rn;have cR:∀(a:Act),jC P ops pu oi v a w0->∀u,jC P ops pu oi v (a.put oj.dst u) w0:=fun a hy u=>
  hy.of_same (execOp_put oi hsi a oj.dst u h3) (wanted_put oi a oj.dst u h3)
 have keepD:∀d,jC P ops pu oi v {a with defers:=d::a.defers} w0:=fun d=>hy.of_same rfl rfl;unfold wpOp at*
 simp only[hj]at*
 rw[wanted_put oj a oi.dst v I]at h;split
 .rename_i V;simp only[V,if_true]at h;rcases h with h|⟨Tx,WS⟩
  case inr=>exact .inr ⟨by unfold Oper.asks at *;rw[execOp_put oj hsj a oi.dst v I]at Tx;exact Tx,WS⟩
  refine .inl ?_;unfold Oper.wp at*
  rw[execOp_put oj hsj a oi.dst v I]at h;generalize (execOp a.eval oj).run P w=r at*
  cases r with
  |ok n J=>
   cases n<;>simp only[Oper.upon]at h ⊢
   case value u=>exact⟨cR a hy u,by rw[<-Act.put_comm a v u G];exact h⟩
   case skip=>exact⟨cR a hy _,by rw[<-Act.put_comm a v undef G];exact h⟩
   case defer d=>
    refine⟨cR _ (keepD d) _,?_⟩;rw[<-Act.put_comm _ v undef G,<-Act.put_defers];exact h
   case enter f args=>
    refine Calls.mono h fun e w'' L=>?_
    cases e with
    |returned u=>exact⟨cR a hy u,by rw[<-Act.put_comm a v u G];exact L⟩
    |panicked c=>exact hQ _ _ _ L
    |outgrown=>exact L
   case row row args=>exact Rows.mono h fun u w'' L=>⟨cR a hy u,by rw[<-Act.put_comm a v u G];exact L⟩
  |halt x J=>
   cases x<;>simp only[Oper.upon]at h ⊢
   case panic u=>exact hQ _ _ _ h
 .rename_i V;simp only[V]at h;exact⟨cR a hy _,by rw[<-Act.put_comm a v undef G];exact h⟩
def th(o:Oper):Bool:= !(yK o.op||isA o.op||(match o.op with
 | .call ⟨.value _,_,_⟩=> !(Nat.beq o.type 0)
 |_=>false))
def gb(o:Oper):Bool:=match o.op with
 | .call ⟨.value _,_,_⟩=>Nat.beq o.type 0
 |_=>false
theorem uZ{o:Oper}(h:yK o.op=true):gb o=false:=by
 unfold gb;split
 .rename_i e;rw[e]at h
  cases h
 .rfl
theorem Ja{o:Oper}(h:isA o.op=true):gb o=false:=by
 unfold gb;split
 .rename_i e;rw[e]at h
  cases h
 .rfl
theorem tv{o:Oper}(h:th o=false):gb o=false:=by
 unfold gb;split
 .rename_i e;simp only[th,e,yK,isA,Bool.false_or,Bool.not_not]at h;exact h
 .rfl
def yL(P:Program)(md:Region.Mode)(ops:Array Oper)(Q:Exit->Act->World->Prop):Nat->Array Bool->Act->World->Prop
 |0,listed,a,w=>Region.ready md ops listed=[]/\Q .normal a w
 |fuel+1,listed,a,w=>
  (Region.ready md ops listed=[]->Q .normal a w)/\
  ∀i∈Region.ready md ops listed,wpOp P ops Q i (fun a' J=>((∀o,ops[i]? =some o->th o=false)->Ext w J)/\yL P md ops Q fuel (listed.setIfInBounds i true) a' J) a w
theorem BY:∀(fuel:Nat) (listed:Array Bool) (a:Act) (w:World),yL P md ops Q fuel listed a w->wpAny P md ops Q fuel listed a w
 |0,_,_,_,h=>h
 |fuel+1,_,_,_,h=>⟨h.1,fun i D=>wpOp_mono (fun a' J h'=>BY fuel _ a' J h'.2) (h.2 i D)⟩
theorem wG{i:Nat}{oi:Oper}(D:ops[i]? =some oi)(Pr:∀(j:Nat) (o:Oper) Z b,ops[j]? =some o->o.op≠ .select Z b)
  (hQ:∀c a w,Q (.panic c) (a.put oi.dst v) w->Q (.panic c) a w) (rO:Nat->Prop) (Tv:∀j,rO j->∃oj e,ops[j]? =some oj/\e∈oj.after/\Region.binds md e=true/\(e.on=i\/rO e.on)):
  ∀(fuel:Nat) (listed:Array Bool) (a:Act) (w:World),(∀j,rO j->listed.getD j false=false)->
   (∀j oj,ops[j]? =some oj->j≠i->listed.getD j true=false->¬rO j->oi.apart ops oj=true/\(pu=true\/th oj=false))->
   i∈Region.ready md ops listed->jC P ops pu oi v a w->
   yL P md ops Q fuel (listed.setIfInBounds i true) (a.put oi.dst v) w->yL P md ops Q (fuel+1) listed a w:=by
 intro fuel
 induction fuel with
 |zero=>
  intro listed a w _ _ hr hy H;refine⟨fun h=>(by rw[h]at hr;cases hr),fun j hj=>?_⟩;by_cases QL:j=i
  .subst QL;exact hy.wpOp D ⟨fun _=>Ext.refl w,H⟩
  .have:=ready_mono hj QL;rw[H.1]at this
   cases this
 |succ fuel ih=>
  intro listed a w Q3 SM hr hy H;refine⟨fun h=>(by rw[h]at hr;cases hr),fun j hj=>?_⟩;by_cases QL:j=i
  .subst QL;exact hy.wpOp D ⟨fun _=>Ext.refl w,H⟩
  .have I:=H.2 j (ready_mono hj QL);obtain⟨WT,oj,Rw,RA⟩:=mem_ready.1 hj;have Qg:¬rO j:=fun hb=>by
    obtain⟨oj',e,Sz,L,hbi,Vw⟩:=Tv j hb;rw[Rw]at Sz;injection Sz with Sz;subst Sz;have I:=RA e L hbi;rcases Vw with heq|RW
    .have h0:=(mem_ready.1 hr).1;rw[heq]at I;rcases aS i listed.size with h'|h'
     .simp[h']at h0 I;rw[h0]at I;cases I
     .simp[Array.getElem?_eq_none h']at I
    .rw[Q3 _ RW]at I;cases I
   have Ub:=SM j oj Rw QL WT Qg;have G:=M4 Rw Ub.1 (fun Z b=>Pr i oi Z b D) (fun Z b=>Pr j oj Z b Rw) hQ hy I;have hbl':∀k,rO k->(listed.setIfInBounds j true).getD k false=false:=fun k K=>by
    rw[getD_set_ne false (fun e=>(by subst e;exact Qg K))];exact Q3 k K
   have Um:∀k ok,ops[k]? =some ok->k≠i->(listed.setIfInBounds j true).getD k true=false->
     ¬rO k->oi.apart ops ok=true/\(pu=true\/th ok=false):=fun k ok K XG WI S2=>by
    refine SM k ok K XG ?_ S2;by_cases TF:j=k
    .subst TF;exact WT
    .rw[getD_set_ne true TF]at WI;exact WI
   refine wpOp_mono (fun a' J h3=>?_) G;have TP:th oj=false->Ext w J:=fun hf=>h3.2.1 (fun o ho=>by rw[Rw]at ho;injection ho with ho;subst ho;exact hf);refine⟨fun hh=>TP (hh oj Rw),ih (listed.setIfInBounds j true) a' J hbl' Um (ready_mono hr (Ne.symm QL)) (h3.1.ext (Ub.2.imp id TP)) ?_⟩;rw[Array.setIfInBounds_comm _ _ QL];exact h3.2.2
end
section
variable{P:Program}{τ:og}{B n nx:Nat}{l:Env}{H:Hp}{iv:Iv}{w J:World}{O:Nat->eG}{a:Act}
def AL(P:Program)(o:Oper)(a:Act)(mk:Nat->Value)(obj:Obj):Prop:=
 ∀w:World,(execOp a.eval o).run P w= .ok (.value (mk w.heap.size)) (w.alloc obj)
theorem AL.uniq{o:Oper}{mk':Nat->Value}{obj':Obj}(h:AL P o a mk obj)(h':AL P o a mk' obj'):obj=obj'/\mk=mk':=by
 have key:∀w:World,mk w.heap.size=mk' w.heap.size/\w.alloc obj=w.alloc obj':=fun w=>by
  have:=(h w).symm.trans (h' w);injection this with I G;injection I with I;exact⟨I,G⟩
 refine⟨?_,funext fun g=>?_⟩
 .have:=(key default).2;have G:=congrArg (fun w:World=>w.heap[(default:World).heap.size]?) this;simp only[heap_alloc_new]at G;injection G
 .have:=(key {(default:World)with heap:=Array.replicate g default}).1;simpa using this
theorem pY(hτ:gM P τ){o:Oper}(h:BS dr P τ B o l H nx iv w GE)(sat:Sat n l H nx iv B w O a J)(K:isA o.op=true):
  ∃b v mk obj,GE v ((nx,b)::H) (nx+1) iv w/\b≠ .dead/\b.scopd nx/\v.sc (nx+1)/\(∀g,v.den (iL O nx ⟨g,0,false⟩)=mk g)/\(∀g Y,Y.heap[g]? =some obj->b.fits O ⟨g,0,false⟩ Y)/\AL P o a mk obj:=by
 obtain⟨dst,op,ty,pos,after,guard⟩:=o;unfold BS at h;split at h<;>first|(exact False.elim h)|(rename_i VJ;simp only at VJ;subst VJ)
 all_goals first|(exact absurd K Bool.false_ne_true)|skip
 .rename_i t;split at h
  .rename_i sz ag by_ ze tag ik e al fs RN;have hK:=gP h;refine⟨_,_,fun g=>.pointer (some ⟨g,0,none⟩),.cells ze.toArray t,hK,bv,(fun c hc=>by obtain⟨v,_,rfl⟩:=aV.1 hc;trivial),by simp[SV.sc,At.sc],fun g=>by simp[SV.den,At.den],fun g Y X=>⟨rfl,by rw[gN];exact X⟩,fun w=>?_⟩;obtain⟨z,Pj,QY⟩:=(hτ t _ RN).zeroV w;simp only at QY;have hzz:z.cells=ze.toArray:=by apply Array.ext';simpa using QY
   simp[execOp,Instr.alloc,Pj,newVar,newRow,hzz]
  .exact h.elim
 .rename_i t x;obtain⟨v,I,hv,hs⟩:=du sat h;obtain⟨Z,hK,QG,TD⟩:=nc I;refine⟨_,_,fun g=>.pointer (some ⟨g,0,none⟩),.cells (Z.map (At.den O)).toArray t,hK,bv,TD nx hs,by simp[SV.sc,At.sc],fun g=>by simp[SV.den,At.den],fun g Y X=>⟨rfl,X⟩,fun w=>?_⟩;simp[execOp,Instr.box,hv,newVar,newRow,QG O]
 .rename_i t m parts;split at h
  .rename_i sz ag by_ ze tag ik e al fs RN;have ht:=hτ t _ RN;split at h
   .rename_i Pe;have hu:=ht.i4 (fA Pe);simp only at hu;split at h
    .rename_i sz' ag' by' ze' tag' ik' e' al' fs' QT
     have QT:=hτ e _ QT;obtain⟨inf,z,D,PR,PZ,hz,S5⟩:=QT.info;have Sl:=QT.MQ;simp only at PR PZ S5 Sl;split at h
     .rename_i hle;have hle:=Nat.le_of_ble_eq_true hle;have h0:=gP h;obtain⟨cs',hK,PT,hlen,Q6⟩:=l5 sat (placeF:=fun i=>some (i*inf.size,inf.size)) (fun i k K=>⟨i*sz',sz',K,by rw[PR]⟩) h0
       (fun c hc=>by obtain⟨v,_,rfl⟩:=aV.1 hc;trivial)
      rw[gN]at Q6;have Rp:z.cells=ze'.toArray:=by apply Array.ext';simpa using S5
      have WQ:((List.replicate m ze').flatten).toArray=madeCells z.cells (m*inf.size):=by
       rw[Rp,PR,<-Sl];exact(tN ze' m).symm
      refine⟨_,_,fun g=>.slice (some ⟨g,0,none⟩) m m,.cells (cs'.map (At.den O)).toArray e,hK,bv,PT,by simp[SV.sc,At.sc],fun g=>by simp[SV.den,At.den],fun g Y X=>⟨rfl,X⟩,fun w=>?_⟩;simp only[execOp]
      refine nd ?_;rw[WQ]at Q6;by_cases Ph:m*inf.size=0
      .have Sb:Instr.fill (fun i=>some (i*inf.size,inf.size)) (madeCells z.cells 0) (parts.toList.map fun p=>(p.1,a.eval p.2))=some (cs'.map (At.den O)).toArray:=by rw[Ph]at Q6;exact Q6
       have e0:madeCells z.cells 0= #[]:=by simp[madeCells]
       rw[e0]at Sb;have er:Array.range 0= #[]:=rfl;simp[Instr.buildSlice,run_underlying hu,sizeOf,typeInfo,zeroValue,D,hz,Ph,newRow,Sb,er]
      .exact run_buildSlice w t e m _ _ inf z hu D hz (by rw[PR];omega) Ph (by rw[<-Q6];simp[madeCells])
     .exact h.elim
    .exact h.elim
   .exact h.elim
  .exact h.elim
 .rename_i t x y;obtain⟨v,I,hv,Rx⟩:=du sat h;obtain⟨u,G,hu,hus⟩:=du sat I;clear Rx hus;unfold LL at G;split at G
  .rename_i k1 a1 k2 b1;split at G
   .rename_i sz ag by_ ze tag ik e al fs RN;have ht:=hτ t _ RN;split at G
    .rename_i Pe;have hut:=ht.i4 (fA Pe);simp only at hut;split at G
     .rename_i sz' ag' by' ze' tag' ik' e' al' fs' QT
      have QT:=hτ e _ QT;obtain⟨inf,z,D,PR,PZ,hz,S5⟩:=QT.info;simp only at PR PZ S5;obtain⟨m,c,rfl,rfl,WN,hbytes,h63,h3⟩:=G;have QX:(inf.bytes:Int)*(c:Int)<=281474976710656:=by
       rw[PZ];have RW:((by'*c:Nat):Int)<=281474976710656:=by omega
       rwa [Int.natCast_mul]at RW
      have PD:=fun w:World=>run_make (P:=P) w t e inf z hut D hz k1 k2 (m:Int) (c:Int) be be QX be;simp only[aF]at PD;have Sl:=QT.MQ;simp only at Sl;have Rp:z.cells=ze'.toArray:=by apply Array.ext';simpa using S5
      have fin:∀Z:List Value,Z.toArray=madeCells z.cells (c*inf.size)->Dk (.arr e Z) H nx (fun H' PC=>GE (.o (.s nx 0 m c)) H' PC iv w)->
        ∃b v mk obj,GE v ((nx,b)::H) (nx+1) iv w/\b≠ .dead/\b.scopd nx/\v.sc (nx+1)/\(∀g,v.den (iL O nx ⟨g,0,false⟩)=mk g)/\(∀g Y,Y.heap[g]? =some obj->b.fits O ⟨g,0,false⟩ Y)/\
         AL P ⟨dst,.makeSlice t x y,ty,pos,after,guard⟩ a mk obj:=by
       intro Z PT hK;refine⟨_,_,fun g=>.slice (some ⟨g,0,none⟩) m c,.cells Z.toArray e,hK,bv,trivial,by simp[SV.sc,At.sc],fun g=>by simp[SV.den,At.den],fun g Y X=>⟨rfl,X⟩,fun w=>?_⟩;simp only[execOp,hv,hu]
       refine nd ?_;rw[show SV.den O (.o (.v (.int k1 m)))= .int k1 m from rfl,show SV.den O (.o (.v (.int k2 c)))= .int k2 c from rfl,PD w,PT]
      split at h3
      .rename_i z0;refine fin _ ?_ h3;have:inf.size=1:=by rw[PR,<-Sl];rfl
       rw[this,aZ,Rp,Hf]
      .refine fin _ ?_ h3;rw[PR,<-Sl,Rp,tN]
     .exact G.elim
    .exact G.elim
   .exact G.elim
  .exact G.elim
end
inductive It where
 |x (i:Nat)
 |p (i:Nat)
def HT:Env->Nat->(Env->Prop)->Prop
 |[],_,k=>k []
 |(t,v)::r,u,k=>match Nat.beq t u with
  |true=>HT r u k
  |false=>HT r u (fun r'=>k ((t,v)::r'))
def aDp(d:Option Tmp)(l:Env)(k:Env->Prop):Prop:=match d with
 |some t=>HT l t k
 |none=>k l
def uW:List Oper->Nat->(Oper->Prop)->Prop
 |[],_,_=>False
 |o::_,0,k=>k o
 |_::r,n+1,k=>uW r n k
def ML(P:Program)(τ:og)(B:Nat)(all:List Oper):List It->Env->Hp->Nat->Iv->World->KT->Prop
 |[],l,H,nx,iv,w,GE=>GE l H nx iv w
 | .x i::r,l,H,nx,iv,w,GE=>uW all i (fun o=>jA (!gb o) P τ B all o l H nx iv w (fun l' H' PC N J=>ML P τ B all r l' H' PC N J GE))
 | .p i::r,l,H,nx,iv,w,GE=>uW all i (fun o=>BS true P τ B o l H nx iv w (fun _ _ _ _ _=>aDp o.dst l (fun l'=>ML P τ B all r l' H nx iv w GE)))
def MM(ops:Array Oper)(o:Oper)(j:Nat):Bool:=match ops[j]? with
 |some oj=>o.apart ops oj
 |none=>false
def HU(la:Array Bool):List Nat->Array Bool
 |[]=>la
 |i::r=>HU (la.setIfInBounds i true) r
def tb(m j:Nat):Bool:=Nat.beq ((m >>> j) % 2) 1
def j2:List Bool->Nat->Nat
 |[],_=>0
 |true::r,j=>(1 <<< j) ||| j2 r (j+1)
 |false::r,j=>j2 r (j+1)
def Di(m i:Nat):List Oper->Nat->Nat->Nat
 |[],_,b=>b
 |o::r,j,b=>match(!tb m j&& !Nat.beq j i)&&o.after.toList.any (fun e=>Region.binds .any e&&(Nat.beq e.on i||tb b e.on))with
  |true=>Di m i r (j+1) (b ||| (1 <<< j))
  |false=>Di m i r (j+1) b
def LH(ops:Array Oper)(m i:Nat)(oi:Oper)(b:Nat):List Oper->Nat->Bool
 |[],_=>true
 |oj::r,j=>(Nat.beq j i||tb m j||tb b j||(oi.apart ops oj&&(MN oi.op|| !th oj)))&&LH ops m i oi b r (j+1)
def aCV(ops:Array Oper)(m:Nat)(Pd:List Nat)(i:Nat)(oi:Oper)(b:Nat):Bool:=Pd.all (fun j=> !tb b j)&&LH ops m i oi b ops.toList 0
def LI(ops:Array Oper)(m:Nat)(Pd:List Nat)(i:Nat)(oi:Oper):Bool:=aCV ops m Pd i oi (Di m i ops.toList 0 0)
def rN(ops:Array Oper):List It->Array Bool->List Nat->Bool
 |[],lx,Pd=>(Region.ready .any ops lx).isEmpty&&Pd.isEmpty
 | .p i::r,lx,Pd=>match ops[i]? with
  |none=>false
  |some o=>isA o.op&&o.guard.isNone&&(match o.dst with
     |some d=> !(o.looksAt ops).contains d
     |none=>false)&&(!lx.getD i true)&&Pd.all (fun j=> !Nat.beq j i)&&
    Pd.all (fun j=>MM ops o j&&(match ops[j]? with
     |some oj=>oj.apart ops o
     |none=>false))&&rN ops r lx (i::Pd)
 | .x i::r,lx,Pd=>match ops[i]? with
  |none=>false
  |some o=>(o.guard.isNone||Pd.isEmpty)&&(Region.ready .any ops lx).contains i&&
    Pd.all (fun j=>Nat.beq j i||MM ops o j)&&
    (match yK o.op with
     |true=>LI ops (j2 lx.toList 0) Pd i o
     |false=>(!th o||Pd.isEmpty)&&(Region.ready .any ops (HU lx (Pd.filter fun j=> !Nat.beq j i))).all (fun j=>Nat.beq j i))&&
    rN ops r (lx.setIfInBounds i true) (Pd.filter fun j=> !Nat.beq j i)
theorem oh(h:j<la.size)(b c:Bool):la.getD j b=la.getD j c:=by
 rw[bJ,bJ,Array.getElem?_eq_getElem h];rfl
theorem om{a b:Nat}:Nat.beq a b=false↔a≠b:=⟨fun h e=>(by subst e;rw[Nat.beq_refl]at h;cases h),fun h=>by
 cases hb:Nat.beq a b with
 |false=>rfl
 |true=>exact absurd (fA hb) h⟩
theorem Ny{a b:Nat}(h:b<a):Nat.ble a b=false:=by
 cases hb:Nat.ble a b with
 |false=>rfl
 |true=>exact absurd (Nat.le_of_ble_eq_true hb) be
theorem uX(m j:Nat):tb m j=m.testBit j:=by
 rw[Nat.testBit_eq_decide_div_mod_eq,tb,Nat.shiftRight_eq_div_pow]
 cases h:decide (m / 2^j % 2=1)with
 |true=>rw[aK h];rfl
 |false=>exact om.2 (aG h)
theorem HV(a b j:Nat):tb (a ||| b) j=(tb a j||tb b j):=by rw[uX,uX,uX,Nat.testBit_or]
theorem JX(i j:Nat):tb (1 <<< i) j=Nat.beq j i:=by
 rw[uX,Nat.one_shiftLeft,Nat.testBit_two_pow]
 cases h:Nat.beq j i with
 |true=>exact bf (fA h).symm
 |false=>exact bP fun e=>(om.1 h) e.symm
theorem wD(j:Nat):tb 0 j=false:=by rw[uX,Nat.zero_testBit]
theorem HW:∀(l:List Bool) (k j:Nat),tb (j2 l k) j=(Nat.ble k j&&l.getD (j-k) false)
 |[],k,j=>by unfold j2;rw[wD];simp
 |b::r,k,j=>by
  have e:tb (j2 (b::r) k) j=((b&&Nat.beq j k)||tb (j2 r (k+1)) j):=by
   cases b<;>simp only[j2,HV,JX,Bool.false_and,Bool.true_and,Bool.false_or]
  rw[e,HW r (k+1) j];rcases cH j k with h|h|h
  .rw[om.2 be,Bool.and_false,Bool.false_or,Ny be,Ny be];rfl
  .subst h;rw[Nat.beq_refl,Ny be,Nat.ble_eq_true_of_le (aP j),bO];simp
  .rw[om.2 be,Bool.and_false,Bool.false_or,Nat.ble_eq_true_of_le (show k+1<=j from h),Nat.ble_eq_true_of_le (Nat.le_of_lt h),show j-k=(j-(k+1))+1 by omega,List.getD_cons_succ]
def Rm(lx:Array Bool)(m:Nat):Prop:=∀j,tb m j=lx.getD j false
theorem Ar(lx:Array Bool):Rm lx (j2 lx.toList 0):=fun j=>by
 rw[HW,show Nat.ble 0 j=true from Nat.ble_eq_true_of_le (aR j),Bool.true_and,Nat.sub_zero,bJ,List.getD,bQ]
theorem Rm.eq{m':Nat}(h:Rm lx m)(h':Rm lx m'):m=m':=Nat.eq_of_testBit_eq fun j=>by rw[<-uX,<-uX,h,h']
theorem oo{ops:Array Oper}{m i:Nat}:∀(l:List Oper) (k b:Nat),(∀n o,l[n]? =some o->ops[k+n]? =some o)->
  (∀j,tb b j=true->tb m j=false/\j≠i/\∃oj e,ops[j]? =some oj/\e∈oj.after/\Region.binds .any e=true/\(e.on=i\/∃b2,tb b2 e.on=true/\b2=b))->
  ∀j,tb (Di m i l k b) j=true->tb m j=false/\j≠i/\∃oj e,ops[j]? =some oj/\e∈oj.after/\Region.binds .any e=true/\(e.on=i\/tb (Di m i l k b) e.on=true)
 |[],k,b,_,h,j,hj=>by
  obtain⟨I,G,oj,e,h3,h4,h5,h6⟩:=h j hj;exact⟨I,G,oj,e,h3,h4,h5,h6.imp id fun⟨_,h7,h8⟩=>h8▸h7⟩
 |o::r,k,b,hl,h,j,hj=>by
  have hr:∀n o',r[n]? =some o'->ops[k+1+n]? =some o':=fun n o' W=>by
   have:=hl (n+1) o' (by simpa using W)
   rwa [show k+(n+1)=k+1+n by omega]at this
  unfold Di at hj ⊢
  cases hc:((!tb m k&& !Nat.beq k i)&&o.after.toList.any (fun e=>Region.binds .any e&&(Nat.beq e.on i||tb b e.on)))with
  |false=>
   rw[hc]at hj;exact oo r (k+1) b hr h j hj
  |true=>
   rw[hc]at hj;refine oo r (k+1) (b ||| (1 <<< k)) hr (fun j hj=>?_) j hj;rw[HV,JX,Bool.or_eq_true]at hj;rcases hj with hj|hj
   .obtain⟨I,G,oj,e,h3,h4,h5,h6⟩:=h j hj;refine⟨I,G,oj,e,h3,h4,h5,h6.imp id fun⟨b2,h7,h8⟩=>⟨_,?_,rfl⟩⟩;rw[HV,<-h8,h7];rfl
   .have hj:=fA hj;subst hj;simp only[bL,Bool.not_eq_true',List.any_eq_true]at hc;obtain⟨⟨I,G⟩,e,L,h3,h4⟩:=hc;refine⟨I,om.1 G,o,e,by have:=hl 0 o bv;simpa using this,by simpa using L,h3,?_⟩;rw[Bool.or_eq_true]at h4;exact h4.imp fA fun h5=>⟨_,by rw[HV,h5];rfl,rfl⟩
theorem BT{ops:Array Oper}{m i:Nat}{oi:Oper}{b:Nat}:∀(l:List Oper) (k:Nat),LH ops m i oi b l k=true->∀n oj,l[n]? =some oj->k+n≠i->tb m (k+n)=false->tb b (k+n)=false->oi.apart ops oj=true/\(MN oi.op=true\/th oj=false)
 |[],_,_,n,oj,W,_,_,_=>by simp at W
 |o::r,k,h,n,oj,W,I,G,h3=>by
  unfold LH at h;rw[bL]at h
  cases n with
  |zero=>
   rw[List.getElem?_cons_zero]at W;injection W with W;subst W;rw[cI]at I G h3;rw[om.2 I,G,h3]at h;simpa using h.1
  |succ n=>
   rw[List.getElem?_cons_succ]at W;rw[show k+(n+1)=k+1+n by omega]at I G h3;exact BT r (k+1) h.2 n oj W I G h3
theorem JY{ops:Array Oper}{i:Nat}{oi:Oper}(h:LI ops (j2 lx.toList 0) Pd i oi=true)(hs:lx.size=ops.size):∃rO:Nat->Prop,
  (∀j,rO j->∃oj e,ops[j]? =some oj/\e∈oj.after/\Region.binds .any e=true/\(e.on=i\/rO e.on))/\(∀j,rO j->lx.getD j false=false)/\(∀j∈Pd,¬rO j)/\
  ∀j oj,ops[j]? =some oj->j≠i->lx.getD j true=false->¬rO j->oi.apart ops oj=true/\(MN oi.op=true\/th oj=false):=by
 unfold LI aCV at h;rw[bL]at h;have hm:=Ar lx;have hb:=oo (ops:=ops) (m:=j2 lx.toList 0) (i:=i) ops.toList 0 0 (fun n o W=>by rw[aW];rwa [bQ]at W) (fun j hj=>by rw[wD]at hj;cases hj);generalize Di (j2 lx.toList 0) i ops.toList 0 0=b at*
 refine⟨fun j=>tb b j=true,fun j hj=>(hb j hj).2.2,fun j hj=>(hm j).symm.trans (hb j hj).1,fun j hj K=>?_,fun j oj Rw QL hl K=>?_⟩
 .have:=List.all_eq_true.1 h.1 j hj;rw[K]at this;cases this
 .have hj:=(bM.1 Rw).1;exact BT ops.toList 0 h.2 j oj (by rw[bQ];exact Rw) be (by rw[aW,hm,oh be false true];exact hl) (by rw[aW];simpa using K)
def HX(m:Nat):List Oper->Nat->List Nat
 |[],_=>[]
 |o::r,j=>match !tb m j&&o.after.toList.all (fun e=> !Region.binds .any e||tb m e.on)with
  |true=>j::HX m r (j+1)
  |false=>HX m r (j+1)
def sm(n m i:Nat):Nat:=match Nat.blt i n with
 |true=>m ||| (1 <<< i)
 |false=>m
def lsm(n:Nat)(m:Nat):List Nat->Nat
 |[]=>m
 |i::r=>lsm n (sm n m i) r
def HY(ops:Array Oper)(n:Nat):List It->Nat->List Nat->Bool
 |[],m,Pd=>(HX m ops.toList 0).isEmpty&&Pd.isEmpty
 | .p i::r,m,Pd=>match ops[i]? with
  |none=>false
  |some o=>isA o.op&&o.guard.isNone&&(match o.dst with
     |some d=> !(o.looksAt ops).contains d
     |none=>false)&&(Nat.blt i n&& !tb m i)&&Pd.all (fun j=> !Nat.beq j i)&&
    Pd.all (fun j=>MM ops o j&&(match ops[j]? with
     |some oj=>oj.apart ops o
     |none=>false))&&HY ops n r m (i::Pd)
 | .x i::r,m,Pd=>match ops[i]? with
  |none=>false
  |some o=>(o.guard.isNone||Pd.isEmpty)&&(HX m ops.toList 0).contains i&&
    Pd.all (fun j=>Nat.beq j i||MM ops o j)&&
    (match yK o.op with
     |true=>LI ops m Pd i o
     |false=>(!th o||Pd.isEmpty)&&(HX (lsm n m (Pd.filter fun j=> !Nat.beq j i)) ops.toList 0).all (fun j=>Nat.beq j i))&&
    HY ops n r (sm n m i) (Pd.filter fun j=> !Nat.beq j i)
theorem LJ{ops:Array Oper}{lx:Array Bool}{m:Nat}(hR:Rm lx m)(hs:lx.size=ops.size):∀(l:List Oper) (k:Nat),(∀n,n<l.length->ops[k+n]? =l[n]?)->k+l.length<=ops.size->
  HX m l k=(List.range' k l.length).filter fun i=> !lx.getD i true&&((ops[i]?).map (·.after.all fun e=> !Region.binds .any e||lx.getD e.on false)).getD false
 |[],_,_,_=>rfl
 |o::r,k,h,K=>by
  rw[bg]at K
  have ih:=LJ hR hs r (k+1) (fun n W=>by
   have:=h (n+1) (by simpa using W)
   rw[show k+1+n=k+(n+1) by omega,this,List.getElem?_cons_succ]) be
  have h0:ops[k]? =some o:=by have:=h 0 bv;simpa using this
  rw[bg,List.range'_succ,List.filter_cons,<-ih];have e:(!lx.getD k true&&((ops[k]?).map (·.after.all fun e=> !Region.binds .any e||lx.getD e.on false)).getD false)=(!tb m k&&o.after.toList.all fun e=> !Region.binds .any e||tb m e.on):=by
   rw[h0,hR k,oh be true false,bw,Option.getD_some,Array.all_toList];simp only[hR _]
  rw[e,HX]
  cases (!tb m k&&o.after.toList.all fun e=> !Region.binds .any e||tb m e.on)<;>rfl
theorem JZ{ops:Array Oper}(hR:Rm lx m)(hs:lx.size=ops.size):HX m ops.toList 0=Region.ready .any ops lx:=by
 rw[LJ hR hs ops.toList 0 (fun n _=>by rw[aW,bQ]) bv];unfold Region.ready;rw[List.range_eq_range',Array.length_toList]
theorem Rm.set(hR:Rm lx m)(i:Nat):Rm (lx.setIfInBounds i true) (sm lx.size m i):=fun j=>by
 unfold sm;rw[bJ,Array.getElem?_setIfInBounds]
 cases h:Nat.blt i lx.size with
 |true=>
  have h:=Nat.le_of_ble_eq_true h;show tb (m ||| (1 <<< i)) j=_;rw[HV,JX];by_cases Py:i=j
  .rw[aM Py,aM be,Py,Nat.beq_refl,Bool.or_true];rfl
  .rw[aJ Py,om.2 (Ne.symm Py),Bool.or_false,hR,bJ]
 |false=>
  show tb m j=_;have h:¬i<lx.size:=fun G=>by rw[show Nat.blt i lx.size=true from Nat.ble_eq_true_of_le G]at h;cases h
  by_cases Py:i=j
  .rw[aM Py,aJ h,hR,bJ,<-Py,Array.getElem?_eq_none be]
  .rw[aJ Py,hR,bJ]
theorem OA:∀(r:List Nat) (lx:Array Bool),(HU lx r).size=lx.size
 |[],_=>rfl
 |i::r,lx=>by unfold HU;rw[OA r,bu]
theorem Rm.HU{n:Nat}:∀(r:List Nat) (lx:Array Bool) (m:Nat),lx.size=n->Rm lx m->Rm (HU lx r) (lsm n m r)
 |[],_,_,_,h=>h
 |i::r,lx,m,W,h=>by
  unfold Go.Sx.HU lsm;exact Rm.HU r _ _ (by rw[bu];exact W) (W▸h.set i)
theorem Fo{ops:Array Oper}:∀(π:List It) (lx:Array Bool) (m:Nat) (Pd:List Nat),lx.size=ops.size->Rm lx m->HY ops ops.size π m Pd=rN ops π lx Pd
 |[],lx,m,Pd,hs,h=>by unfold HY rN;rw[JZ h hs]
 | .p i::r,lx,m,Pd,hs,h=>by
  unfold HY rN
  cases ho:ops[i]? with
  |none=>rfl
  |some o=>
   have D:=(bM.1 ho).1;simp only[Fo r lx m (i::Pd) hs h,h i,oh (show i<lx.size by omega) true false,show Nat.blt i ops.size=true from Nat.ble_eq_true_of_le D,Bool.true_and]
 | .x i::r,lx,m,Pd,hs,h=>by
  unfold HY rN
  cases ho:ops[i]? with
  |none=>rfl
  |some o=>
   obtain rfl:=h.eq (Ar lx);have I:=Fo r (lx.setIfInBounds i true) (sm ops.size (j2 lx.toList 0) i) (Pd.filter fun j=> !Nat.beq j i) (by rw[bu];exact hs) (hs▸h.set i);have G:=JZ (Rm.HU (n:=ops.size) (Pd.filter fun j=> !Nat.beq j i) lx (j2 lx.toList 0) hs h) (by rw[OA];exact hs);simp only[I,G,JZ h hs]
theorem fL{ops:Array Oper}:j∈Region.ready .any ops la↔
  la[j]? =some false/\∃o,ops[j]? =some o/\∀e∈o.after,Region.binds .any e=true->la[e.on]? =some true:=by
 rw[mem_ready];have I:la.getD j true=false↔la[j]? =some false:=by
  rw[bJ]
  cases la[j]? with
  |none=>simp
  |some b=>simp
 have G:∀k,la.getD k false=true↔la[k]? =some true:=fun k=>by
  rw[bJ]
  cases la[k]? with
  |none=>simp
  |some b=>simp
 simp only[I,G]
theorem rP{i:Nat}:(la.setIfInBounds i true)[j]? =some true↔la[j]? =some true\/(j=i/\j<la.size):=by
 rw[Array.getElem?_setIfInBounds];split
 .rename_i h;subst h;by_cases hs:i<la.size
  .simp[hs]
  .simp[hs]
 .rename_i h;simp[Ne.symm h]
theorem HZ:∀(Pd:List Nat) (la:Array Bool),(HU la Pd).size=la.size
 |[],_=>rfl
 |i::r,la=>by simp[HU,HZ r]
theorem BU:∀(Pd:List Nat) (la:Array Bool) (j:Nat),(HU la Pd)[j]? =some true↔la[j]? =some true\/(j∈Pd/\j<la.size)
 |[],_,_=>by simp[HU]
 |i::r,la,j=>by
  rw[HU,BU r,rP];simp only[bu,List.mem_cons]
  constructor
  .rintro((h|⟨h,hs⟩)|⟨h,hs⟩)
   .exact .inl h
   .exact .inr ⟨.inl h,hs⟩
   .exact .inr ⟨.inr h,hs⟩
  .rintro(h|⟨h|h,hs⟩)
   .exact .inl (.inl h)
   .exact .inl (.inr ⟨h,hs⟩)
   .exact .inr ⟨h,hs⟩
def unl(la:Array Bool):Nat:=la.toList.countP (fun b=> !b)
theorem mP{i:Nat}(h:la[i]? =some false):unl (la.setIfInBounds i true)+1=unl la:=by
 obtain⟨D,L⟩:=bM.1 h;have UX:i<la.toList.length:=by simpa using D
 have Ph:0<la.toList.countP (fun b=> !b):=List.countP_pos_iff.2 ⟨false,by
  have:la[i]∈la:=Array.getElem_mem D;rw[L]at this
  simpa using this,rfl⟩
 unfold unl;rw[Array.toList_setIfInBounds,List.countP_set UX];simp only[Array.getElem_toList,L]
 simp only[Bool.not_false,if_true,Bool.not_true,Bool.false_eq_true,if_false,cI]
 exact Nat.sub_add_cancel Ph
theorem uY:∀{l:Env} {u:Nat} {k:Env->Prop},HT l u k->∃l',k l'/\gK l' u=none/\∀t v,gK l' t=some v->t≠u/\gK l t=some v
 |[],u,k,h=>⟨[],h,rfl,fun t v h=>by cases h⟩
 |(t0,v0)::r,u,k,h=>by
  unfold HT at h;split at h
  .rename_i hb;have hb:=fA hb;obtain⟨l',I,G,h3⟩:=uY h;refine⟨l',I,G,fun t v hv=>⟨(h3 t v hv).1,?_⟩⟩;rw[fQ,aJ (fun e=>(h3 t v hv).1 (e.symm.trans hb))];exact(h3 t v hv).2
  .rename_i hb;have Ox:t0≠u:=fun e=>by subst e;rw[Nat.beq_refl]at hb;cases hb
   obtain⟨l',I,G,h3⟩:=uY h;refine⟨_,I,?_,fun t v hv=>?_⟩
   .rw[fQ,aJ Ox];exact G
   .rw[fQ]at hv ⊢;split at hv
    .rename_i e;subst e;exact⟨Ox,by simpa using hv⟩
    .rename_i e;rw[aJ e];exact h3 t v hv
theorem iS:∀{all:List Oper} {i:Nat} {k:Oper->Prop},uW all i k->∃o,all[i]? =some o/\k o
 |[],_,_,h=>h.elim
 |o::_,0,_,h=>⟨o,rfl,h⟩
 |_::r,n+1,_,h=>by obtain⟨o,I,G⟩:=iS (all:=r) h;exact⟨o,by simpa using I,G⟩
section
variable{P:Program}{τ:og}{ops:Array Oper}{B n nx:Nat}{l:Env}{H:Hp}{iv:Iv}{w J:World}{O:Nat->eG}{a:Act}
structure Sim(P:Program)(ops:Array Oper)(n B:Nat)(Pd:List Nat)(F':List (Nat×Nat))(lx la:Array Bool)(l:Env)(H:Hp)(nx:Nat)(iv:Iv)(w:World)(O:Nat->eG)(a:Act)(J:World):Prop where
 sat:Sat n l H nx iv B w O a J
 szx:lx.size=ops.size
 sza:la.size=ops.size
 la:∀j,la[j]? =some true↔lx[j]? =some true\/∃g,(j,g)∈F'
 MO:∀j g,(j,g)∈F'->j∈Pd
 pd:∀j∈Pd,lx[j]? =some false/\∃o d mk obj,ops[j]? =some o/\isA o.op=true/\o.guard=none/\(o.dst=some d/\d∉o.looksAt ops)/\AL P o a mk obj/\gK l d=none/\
  ∀g,(j,g)∈F'->a.tmps[d]? =some (mk g)/\J.heap[g]? =some obj
 eg:∀j g,(j,g)∈F'->B<=g/\(∀id b,dU H id=some b->(O id).nil=false->(O id).g≠g)/\∀lo D,(lo,D)∈iv->¬(lo<=g/\g<D)
 inj:∀j g j',(j,g)∈F'->(j',g)∈F'->j=j'
 ap:∀j∈Pd,∀j'∈Pd,j≠j'->∀o o',ops[j]? =some o->ops[j']? =some o'->o.apart ops o'=true
theorem OB{l l':Env}{u:Nat}(h:∀t v,gK l' t=some v->t≠u/\gK l t=some v){d:Nat}(hd:gK l d=none):gK l' d=none:=by
 cases X:gK l' d with
 |none=>rfl
 |some v=>have:=(h d v X).2;rw[hd]at this;cases this
theorem Oper.EY{o oj:Oper}(ha:o.apart ops oj=true)(hs:∀Z b,oj.op≠ .select Z b)(h:AL P oj a mk obj):AL P oj (a.put o.dst u) mk obj:=by
 intro w;rw[execOp_put (ops:=ops) oj hs a o.dst u (Go.Oper.apart_spec ha).1];exact h w
theorem tJ(Ox:d≠some t)(h:a.tmps[t]? =some v):(a.put d u).tmps[t]? =some v:=by
 cases d with
 |none=>exact h
 |some d=>
  have:d≠t:=fun e=>Ox (by rw[e]);simpa [Act.put,Array.getElem?_setIfInBounds_ne this]using h
theorem lL{w:World}(h:w.heap[g]? =some obj):g<w.heap.size:=(bM.1 h).1
theorem Ext.alloc(w:World)(obj:Obj):Ext w (w.alloc obj):=
 ⟨rfl,rfl,rfl,bv,fun k K=>heap_alloc_old _ _ K⟩
variable{Pd:List Nat}{F':List (Nat×Nat)}{lx la:Array Bool}
theorem Sim.step(s:Sim P ops n B Pd F' lx la l H nx iv w O a J)(Pr:∀(j:Nat) (o:Oper) Z b,ops[j]? =some o->o.op≠ .select Z b){i:Nat}{o:Oper}(_hi:ops[i]? =some o)(XN:∀g,(i,g)∉F')
  (Rn:∀j∈Pd,j≠i->∀oj,ops[j]? =some oj->o.apart ops oj=true)
  {l':Env} {H':Hp} {PC:Nat} {N:Iv} {Y:World} {IR:Nat->eG} {u:Value} {w3:World} (sat':Sat n l' H' PC N B Y IR (a.put o.dst u) w3)
  (hl:∀j∈Pd,j≠i->∀d,gK l d=none->o.dst≠some d->gK l' d=none) (TP:∀j∈Pd,j≠i->Ext J w3)
  (heg:∀g,g<J.heap.size->(∀id b,dU H id=some b->(O id).nil=false->(O id).g≠g)->(∀lo D,(lo,D)∈iv->¬(lo<=g/\g<D))->(∃j∈Pd,j≠i)->
   (∀id b,dU H' id=some b->(IR id).nil=false->(IR id).g≠g)/\(∀lo D,(lo,D)∈N->¬(lo<=g/\g<D))):
  Sim P ops n B (Pd.filter fun j=> !Nat.beq j i) F' (lx.setIfInBounds i true) (la.setIfInBounds i true) l' H' PC N Y IR (a.put o.dst u) w3:=by
 have memf:∀j,j∈(Pd.filter fun j=> !Nat.beq j i)↔j∈Pd/\j≠i:=fun j=>by
  simp only[List.mem_filter,Bool.not_eq_true',om]
 have hEi:∀j g,(j,g)∈F'->j≠i:=fun j g h e=>XN g (e▸h);refine⟨sat',by simp[s.szx],by simp[s.sza],fun j=>?_,fun j g h=>(memf j).2 ⟨s.MO j g h,hEi j g h⟩,fun j hj=>?_,fun j g h=>?_,s.inj,fun j hj j' hj'=>s.ap j ((memf j).1 hj).1 j' ((memf j').1 hj').1⟩
 .rw[rP,rP,s.la,s.sza,s.szx];constructor
  .rintro((h|h)|h)
   .exact .inl (.inl h)
   .exact .inr h
   .exact .inl (.inr h)
  .rintro((h|h)|h)
   .exact .inl (.inl h)
   .exact .inr h
   .exact .inl (.inr h)
 .obtain⟨hj,QL⟩:=(memf j).1 hj;obtain⟨h0,oj,d,mk,obj,I,G,h3,⟨h4,SL⟩,h5,h6,h7⟩:=s.pd j hj;have hapj:=Rn j hj QL oj I;have Ox:o.dst≠some d:=fun e=>(Go.Oper.apart_spec hapj).2.1 d e h4;refine⟨?_,oj,d,mk,obj,I,G,h3,⟨h4,SL⟩,Oper.EY hapj (fun Z b=>Pr j oj Z b I) h5,hl j hj QL d h6 Ox,fun g X=>⟨tJ Ox (h7 g X).1,?_⟩⟩
  .rw[Array.getElem?_setIfInBounds_ne (Ne.symm QL)];exact h0
  .rw[(TP j hj QL).block g (lL (h7 g X).2)];exact(h7 g X).2
 .have hj:=s.MO j g h;obtain⟨h0,oj,d,mk,obj,I,G,h3,⟨h4,SL⟩,h5,h6,h7⟩:=s.pd j hj;obtain⟨e1,e2,e3⟩:=s.eg j g h;exact⟨e1,heg g (lL (h7 g h).2) e2 e3 ⟨j,hj,hEi j g h⟩⟩
theorem Sim.early(s:Sim P ops n B Pd F' lx la l H nx iv w O a J)(Oz:∀(j:Nat) o,ops[j]? =some o->∀d,o.dst=some d->d<n)
  (Pr:∀(j:Nat) (o:Oper) Z b,ops[j]? =some o->o.op≠ .select Z b) (hj:j∈Pd) (WI:la[j]? =some false) {GE:Act->World->Prop}
  (h:∀E' a2 Y,Ext J Y->Sim P ops n B Pd E' lx (la.setIfInBounds j true) l H nx iv w O a2 Y->GE a2 Y):wpOp P ops Q j GE a J:=by
 obtain⟨h0,o,d,mk,obj,I,G,h3,⟨h4,SL⟩,h5,h6,h7⟩:=s.pd j hj;have V:Region.wanted o (yielded ops a.tmps)=true:=by simp[Region.wanted,h3]
 unfold wpOp;simp only[I,V,if_true]
 refine .inl ?_;unfold Oper.wp;rw[h5 J];simp only[Oper.upon]
 have hd:=Oz j o I d h4;have hnE:∀g,(j,g)∉F':=fun g X=>by
  have:=(s.la j).2 (.inr ⟨g,X⟩);rw[WI]at this;cases this
 refine h ((j,J.heap.size)::F') _ _ (Ext.alloc _ _) ⟨?_,s.szx,by simp[s.sza],fun k=>?_,fun k g K=>?_,fun k K=>?_,fun k g K=>?_,fun k g k' K hk'=>?_,s.ap⟩
 .refine⟨s.sat.rel.ext (Ext.alloc _ _),?_,?_,fun t v hv=>?_,s.sat.sc⟩
  .rw[h4];simp[Act.put,s.sat.size]
  .rw[h4];exact s.sat.defers
  .refine tJ (fun e=>?_) (s.sat.env t v hv);rw[h4]at e;injection e with e;subst e;rw[h6]at hv;cases hv
 .rw[rP,s.la];have PY:j<la.size:=(bM.1 WI).1;constructor
  .rintro((h|⟨g,h⟩)|⟨rfl,_⟩)
   .exact .inl h
   .exact .inr ⟨g,by simp[h]⟩
   .exact .inr ⟨_,aH ..⟩
  .rintro(h|⟨g,h⟩)
   .exact .inl (.inl h)
   .rcases List.mem_cons.1 h with h|h
    .injection h with e1 e2;exact .inr ⟨e1,by rw[e1];exact PY⟩
    .exact .inl (.inr ⟨g,h⟩)
 .rcases List.mem_cons.1 K with K|K
  .injection K with e1 e2;rw[e1];exact hj
  .exact s.MO k g K
 .obtain⟨g0,ok,dk,mkk,objk,g1,g2,g3,⟨g4,gself⟩,g5,g6,g7⟩:=s.pd k K;by_cases Ui:k=j
  .subst Ui;rw[I]at g1;injection g1 with g1;subst g1;rw[h4]at g4;injection g4 with g4;subst g4;refine⟨g0,o,d,mk,obj,I,G,h3,⟨h4,SL⟩,?_,h6,fun g X=>?_⟩
   .intro ww;rw[execOp_put (ops:=ops) o (fun Z b=>Pr k o Z b I) a o.dst _ (fun d' YJ=>by rw[h4]at YJ;injection YJ with YJ;subst YJ;exact SL)];exact h5 ww
   .rcases List.mem_cons.1 X with X|X
    .injection X with e1 e2;subst e2;refine⟨?_,heap_alloc_new _ _⟩;rw[h4];simp[Act.put,s.sat.size,hd]
    .exact absurd X (hnE g)
  .have Rn:=s.ap j hj k K (Ne.symm Ui) o ok I g1;have Ox:o.dst≠some dk:=fun e=>(Go.Oper.apart_spec Rn).2.1 dk e g4;refine⟨g0,ok,dk,mkk,objk,g1,g2,g3,⟨g4,gself⟩,Oper.EY Rn (fun Z b=>Pr k ok Z b g1) g5,g6,fun g X=>?_⟩;rcases List.mem_cons.1 X with X|X
   .injection X with e1 e2;exact absurd e1 Ui
   .refine⟨tJ Ox (g7 g X).1,?_⟩;rw[heap_alloc_old _ _ (lL (g7 g X).2)];exact(g7 g X).2
 .rcases List.mem_cons.1 K with K|K
  .injection K with e1 e2;subst e2;refine⟨aX s.sat.rel.base s.sat.rel.size,fun id b hb W L=>?_,fun lo D hm hc=>?_⟩
   .have:=(s.sat.rel.low id b hb W).2;omega
   .have:=s.sat.rel.tI lo D hm;have:=s.sat.rel.size;omega
  .exact s.eg k g K
 .have old:∀k' g',(k',g')∈F'->g'<J.heap.size:=fun k' g' h=>by
   obtain⟨_,_,_,_,_,_,_,_,_,_,_,h7⟩:=s.pd k' (s.MO k' g' h);exact lL (h7 g' h).2
  rcases List.mem_cons.1 K with K|K<;>rcases List.mem_cons.1 hk' with hk'|hk'
  .injection K with e1 e2;injection hk' with e3 e4;rw[e1,e3]
  .injection K with e1 e2;have:=old _ _ hk';omega
  .injection hk' with e1 e2;have:=old _ _ K;omega
  .exact s.inj k g k' K hk'
theorem Sim.aDT(s:Sim P ops n B Pd F' lx la l H nx iv w O a J){i:Nat}{o:Oper}(D:ops[i]? =some o)(X:(i,g)∈F'){b:kp}{v:SV}
  (hb:b.scopd nx) (hv:v.sc (nx+1)) (XO:∀g,v.den (iL O nx ⟨g,0,false⟩)=mk g) (Qo:∀g Y,Y.heap[g]? =some obj->b.fits O ⟨g,0,false⟩ Y) (XP:AL P o a mk obj)
  {GE:Env->Prop} (hK:H0 o.dst v l GE) (_hok:∀d,o.dst=some d->d<n) (Rn:∀j∈Pd,j≠i->∀oj,ops[j]? =some oj->o.apart ops oj=true):
  ∃l',GE l'/\Sim P ops n B (Pd.filter fun j=> !Nat.beq j i) (F'.filter fun e=> !Nat.beq e.1 i) (lx.setIfInBounds i true) la l' ((nx,b)::H) (nx+1) iv w (iL O nx ⟨g,0,false⟩) a J:=by
 obtain⟨h0,o',d,mk',obj',I,G,h3,⟨h4,SL⟩,h5,h6,h7⟩:=s.pd i (s.MO i g X);rw[D]at I;injection I with I;subst I;obtain⟨rfl,rfl⟩:=XP.uniq h5;obtain⟨ht,hh⟩:=h7 g X;obtain⟨e1,e2,e3⟩:=s.eg i g X;have memf:∀j,j∈(Pd.filter fun j=> !Nat.beq j i)↔j∈Pd/\j≠i:=fun j=>by
  simp only[List.mem_filter,Bool.not_eq_true',om]
 have memE:∀j k,(j,k)∈(F'.filter fun e=> !Nat.beq e.1 i)↔(j,k)∈F'/\j≠i:=fun j k=>by
  simp only[List.mem_filter,Bool.not_eq_true',om]
 have Qq:∀id b,dU H id=some b->iL O nx ⟨g,0,false⟩ id=O id:=fun id b h=>(iT id (s.sat.rel.keys id b h)).symm;have r:=s.sat.rel;have QA:Rel ((nx,b)::H) (nx+1) iv B w (iL O nx ⟨g,0,false⟩) J:=by
  refine Rel.mk' r.os r.tape r.output r.size r.base r.tI ?_ ?_ ?_ ?_ ?_ ?_ ?_
  .intro id b' h;rw[da]at h;split at h
   .omega
   .have:=r.keys id b' h;omega
  .intro id b' h;rw[da]at h;split at h
   .rename_i e;subst e;injection h with h;subst h;rw[ff];exact kp.jQ (Qo g J hh) (fun id QF=>iT id QF) hb (fun _ _=>rfl)
   .rw[Qq id b' h];exact kp.jQ (r.fits h) (fun id QF=>iT id QF) (r.scopd h) (fun _ _=>rfl)
  .intro id b' h;rw[da]at h;split at h
   .injection h with h;subst h;exact kp.kJ (Nat.le_succ _) hb
   .exact kp.kJ (Nat.le_succ _) (r.scopd h)
  .intro id id' c c' h h' hd YJ W hn' L;rw[da]at h h';split at h<;>split at h'
   .rename_i x y;rw[<-x,<-y]
   .rename_i x y;subst x;rw[ff,Qq _ _ h']at L;rw[Qq _ _ h']at hn';exact absurd L.symm (e2 _ _ h' hn')
   .rename_i x y;subst y;rw[ff,Qq _ _ h]at L;rw[Qq _ _ h]at W;exact absurd L (e2 _ _ h W)
   .rw[Qq _ _ h,Qq _ _ h']at L;rw[Qq _ _ h]at W;rw[Qq _ _ h']at hn';exact r.inj id id' c c' h h' hd YJ W hn' L
  .intro id c h W;rw[da]at h;split at h
   .rename_i e;subst e;rw[ff];exact⟨e1,lL hh⟩
   .rw[Qq _ _ h]at W ⊢;exact r.low id c h W
  .intro k K Ox;refine r.yJ k K fun id c h W=>?_;have PY:=r.keys id c h;have:=Ox id c (by rw[da,aJ be];exact h) (by rw[Qq _ _ h];exact W)
   rwa [Qq _ _ h]at this
  .intro lo D hm id c h W;rw[da]at h;split at h
   .rename_i e;subst e;rw[ff];exact e3 lo D hm
   .rw[Qq _ _ h]at W ⊢;exact r.mA lo D hm id c h W
 have sat1:Sat n l ((nx,b)::H) (nx+1) iv B w (iL O nx ⟨g,0,false⟩) a J:=s.sat.next QA (Nat.le_succ _) (fun id QF=>iT id QF)
 rw[h4]at hK;refine⟨_,hK,?_⟩;have sat2:Sat n ((d,v)::l) ((nx,b)::H) (nx+1) iv B w (iL O nx ⟨g,0,false⟩) a J:=by
  refine⟨sat1.rel,sat1.size,sat1.defers,fun t u hu=>?_,fun t u hu=>?_⟩
  .rw[fQ]at hu;split at hu
   .rename_i e;subst e;injection hu with hu;subst hu;rw[XO];exact ht
   .exact sat1.env t u hu
  .rw[fQ]at hu;split at hu
   .injection hu with hu;subst hu;exact hv
   .exact sat1.sc t u hu
 have UY:i<lx.size:=(bM.1 h0).1;refine⟨sat2,by simp[s.szx],s.sza,fun j=>?_,fun j k h=>?_,fun j hj=>?_,fun j k h=>?_,fun j k j' h h'=>s.inj j k j' ((memE j k).1 h).1 ((memE j' k).1 h').1,fun j hj j' hj'=>s.ap j ((memf j).1 hj).1 j' ((memf j').1 hj').1⟩
 .rw[s.la,rP];constructor
  .rintro(h|⟨k,h⟩)
   .exact .inl (.inl h)
   .by_cases QL:j=i
    .exact .inl (.inr ⟨QL,QL▸UY⟩)
    .exact .inr ⟨k,(memE j k).2 ⟨h,QL⟩⟩
  .rintro((h|⟨rfl,h⟩)|⟨k,h⟩)
   .exact .inl h
   .exact .inr ⟨g,X⟩
   .exact .inr ⟨k,((memE j k).1 h).1⟩
 .exact(memf j).2 ⟨s.MO j k ((memE j k).1 h).1,((memE j k).1 h).2⟩
 .obtain⟨hj,QL⟩:=(memf j).1 hj;obtain⟨g0,oj,dj,mkj,objj,g1,g2,g3,⟨g4,gself⟩,g5,g6,g7⟩:=s.pd j hj;have Ox:d≠dj:=fun e=>(Go.Oper.apart_spec (Rn j hj QL oj g1)).2.1 d h4 (by rw[g4,e]);refine⟨by rw[Array.getElem?_setIfInBounds_ne (Ne.symm QL)];exact g0,oj,dj,mkj,objj,g1,g2,g3,⟨g4,gself⟩,g5,?_,fun k K=>g7 k ((memE j k).1 K).1⟩;rw[fQ,aJ Ox];exact g6
 .obtain⟨h,QL⟩:=(memE j k).1 h;obtain⟨k1,k2,k3⟩:=s.eg j k h;refine⟨k1,fun id c hc W=>?_,k3⟩;rw[da]at hc;split at hc
  .rename_i e;subst e;rw[ff];intro e;simp only at e;subst e;exact QL (s.inj j _ i h X)
  .rw[Qq _ _ hc]at W ⊢;exact k2 id c hc W
end
end Go.Sx
