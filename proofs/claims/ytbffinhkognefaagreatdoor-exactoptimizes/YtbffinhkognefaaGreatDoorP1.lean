/- Texts Sx7 to Sx11: lemmas, each with its conditions. -/
import Derived.OrdersHeld
import Derived.Test.YtbffinhkognefaaGreatDoorP0
set_option linter.defProp false
namespace Go.Sx
open Go
variable{args:(Nat->eD)->Array Value}{la lx:Array Bool}{op:BinOp}{dr pu:Bool}{F9:Ending->World->Prop}{l':Env}{Q:Exit->Act->World->Prop}{H':Hp}{k:IntKind}{A:Iv}{Pd:List Nat}{Pv g j m t:Nat}{mk:Nat->Value}{F':Nat->eD}{obj:Obj}{d:Option Tmp}{FS:SV->Hp->Nat->Iv->World->Prop}{u v:Value}{w F w3:World}
section
variable{P:Program}{τ:nO}{B n nx:Nat}{l:Env}{H:Hp}{iv:Iv}{w J:World}{O:Nat->eD}{a:Act}
def rG{k':IntKind}(h:rB k k'=true):k=k':=by
 cases k<;>cases k'<;>first|rfl|(simp [rB]at h)
def yU(op:BinOp)(t:TypeId)(x y:Operand)(k k':IntKind)(i j:Int)(w:World):(eqGuard op t x y (.int k i) (.int k' j)).run P w= .ok () w:=by
 unfold eqGuard;cases op<;>simp
def oa(op:BinOp)(t:TypeId)(x y:Operand)(i j:Bool)(w:World):(eqGuard op t x y (.bool i) (.bool j)).run P w= .ok () w:=by
 unfold eqGuard;cases op<;>simp
def jo(op:BinOp)(t:TypeId)(x y:Operand)(i j:ByteArray)(w:World):(eqGuard op t x y (.string i) (.string j)).run P w= .ok () w:=by
 unfold eqGuard;cases op<;>simp
def Jl{i j:Int}{t:TypeId}{FS:Value->Prop}(h:Jf op k i j FS)(k':IntKind)(K:(op= .shl\/op= .shr)\/k=k'):
  ∃r,FS r/\∀w:World,(binOp op t (.int k i) (.int k' j)).run P w= .ok r w:=by
 have WB:op≠ .shl->op≠ .shr->k=k':=λY I=>by rcases K with(h3|h3)|h3<;>simp_all
 cases op<;>simp only[Jf]at h
 case shl=>obtain⟨h0,r,Y,I⟩:=h;refine⟨_,I,λw=>?_⟩;subst Y;simp[binOp,Op.shift,show ¬j<0 by omega]
 case shr=>obtain⟨h0,r,Y,I⟩:=h;refine⟨_,I,λw=>?_⟩;subst Y;simp[binOp,Op.shift,show ¬j<0 by omega]
 all_goals (obtain rfl:=WB ce ce)
 case quo=>obtain⟨h0,r,Y,I⟩:=h;refine⟨_,I,λw=>?_⟩;subst Y;simp[binOp,Op.intDiv,h0]
 case rem=>obtain⟨h0,r,Y,I⟩:=h;refine⟨_,I,λw=>?_⟩;subst Y;simp[binOp,Op.intDiv,h0]
 case eql=>exact⟨_,h,λw=>by simp[binOp,Op.intCmp]⟩
 case neq=>exact⟨_,h,λw=>by simp[binOp,Op.intCmp]⟩
 case lss=>exact⟨_,h,λw=>by simp[binOp,Op.intCmp]⟩
 case leq=>exact⟨_,h,λw=>by simp[binOp,Op.intCmp]⟩
 case gtr=>exact⟨_,h,λw=>by simp[binOp,Op.intCmp]⟩
 case geq=>exact⟨_,h,λw=>by simp[binOp,Op.intCmp]⟩
 case add=>obtain⟨r,Y,I⟩:=h;refine⟨_,I,λw=>?_⟩;subst Y;simp[binOp,Op.intArith]
 case sub=>obtain⟨r,Y,I⟩:=h;refine⟨_,I,λw=>?_⟩;subst Y;simp[binOp,Op.intArith]
 case mul=>obtain⟨r,Y,I⟩:=h;refine⟨_,I,λw=>?_⟩;subst Y;simp[binOp,Op.intArith]
 case and=>obtain⟨r,Y,I⟩:=h;refine⟨_,I,λw=>?_⟩;subst Y;simp[binOp,Op.intBits]
 case or=>obtain⟨r,Y,I⟩:=h;refine⟨_,I,λw=>?_⟩;subst Y;simp[binOp,Op.intBits]
 case andNot=>obtain⟨r,Y,I⟩:=h;refine⟨_,I,λw=>?_⟩;subst Y;simp[binOp,Op.intBits]
 case xor=>obtain⟨r,Y,I⟩:=h;refine⟨_,I,λw=>?_⟩;subst Y;simp[binOp,Op.intBits]
def run_equalIn_bool{t:TypeId}(hu:P.underlying t=some .bool)(d:Nat)(i j:Bool)(w:World):(Op.equalIn (d+1) t (.bool i) (.bool j)).run P w= .ok (i==j) w:=by
 simp[Op.equalIn,run_underlying hu]
def xl{t:TypeId}(hu:P.underlying t=some .bool)(i j:Bool)(w:World):(Op.equal t (.bool i) (.bool j)).run P w= .ok (i==j) w:=run_equalIn_bool hu 9999 i j w
def zd{t:TypeId}(hu:P.underlying t=some .bool)(i j:Bool)(w:World):(binOp .eql t (.bool i) (.bool j)).run P w= .ok (.bool (i==j)) w:=by
 show(do pure (.bool (<-Op.equal t (.bool i) (.bool j))):Sem Value).run P w=_;rw[Sem.run_bind,xl hu];rfl
def yV{t:TypeId}(hu:P.underlying t=some .bool)(i j:Bool)(w:World):(binOp .neq t (.bool i) (.bool j)).run P w= .ok (.bool (!(i==j))) w:=by
 show(do pure (.bool (!(<-Op.equal t (.bool i) (.bool j)))):Sem Value).run P w=_;rw[Sem.run_bind,xl hu];rfl
def Jm(hτ:fk P τ){x y:SV}{FS:SV->Prop}(h:PC P τ op t x y FS)(o1 o2:Operand):
  ∃r,FS r/\r.sc nx/\∀J:World,(do eqGuard op t o1 o2 (x.den O) (y.den O);binOp op t (x.den O) (y.den O)).run P J= .ok (r.den O) J:=by
 unfold PC at h;split at h
 .rename_i k i k' j;have fin:∀K:(op= .shl\/op= .shr)\/k=k',Jf op k i j (λr=>FS (.o (.v r)))->∃r,FS r/\r.sc nx/\∀J:World,(do eqGuard op t o1 o2 (SV.den O (.o (.v (.int k i)))) (SV.den O (.o (.v (.int k' j))));binOp op t (SV.den O (.o (.v (.int k i)))) (SV.den O (.o (.v (.int k' j))))).run P J= .ok (r.den O) J:=by
   intro K h;obtain⟨r,Y,I⟩:=Jl (P:=P) (t:=t) h k' K;refine⟨_,Y,trivial,λJ=>?_⟩;simp only[SV.den,At.den,Sem.run_bind,yU,Result.andThen_ok,I]
  split at h
  .exact fin (.inl (.inl rfl)) h
  .exact fin (.inl (.inr rfl)) h
  .split at h
   .rename_i K;exact fin (.inr (rG K)) h
   .exact h.elim
 .rename_i i j;split at h
  .rename_i ti Rj;split at h
   .rename_i QO;have hu:=(hτ t _ Rj).i2 (ed QO);split at h
    .refine⟨_,h,trivial,λJ=>?_⟩;simp only[SV.den,At.den,Sem.run_bind,oa,Result.andThen_ok,zd hu]
    .refine⟨_,h,trivial,λJ=>?_⟩;simp only[SV.den,At.den,Sem.run_bind,oa,Result.andThen_ok,yV hu]
    .exact h.elim
   .exact h.elim
  .exact h.elim
 .rename_i i j;split at h
  .refine⟨_,h,trivial,λJ=>?_⟩;simp only[SV.den,At.den,Sem.run_bind,jo,Result.andThen_ok]
   simp[binOp,Op.stringOp,ByteArray.toList_eq]
  .refine⟨_,h,trivial,λJ=>?_⟩;simp only[SV.den,At.den,Sem.run_bind,jo,Result.andThen_ok]
   simp[binOp,Op.stringOp,ByteArray.toList_eq]
  .refine⟨_,h.2,trivial,λJ=>?_⟩;simp only[SV.den,At.den,Sem.run_bind,jo,Result.andThen_ok]
   have Y:=h.1;unfold maxLen at Y;simp[binOp,Op.stringOp];omega
  .exact h.elim
 .obtain⟨b,Y,I⟩:=h;exact⟨_,I,trivial,λJ=>Y O J o1 o2⟩
abbrev Oa(n B:Nat)(l:Env)(a:Act)(dst:Option Tmp)(FS:SV->Hp->Nat->Iv->World->Prop)(next:Act->World->Prop):Prop:=
 ∀v H' Pv A F F' w3,FS v H' Pv A F->Sat n l H' Pv A B F F' a w3->v.sc Pv->next (a.put dst (v.den F')) w3
def Sat.next(sat:Sat n l H nx iv B w O a J)(rel:Rel H' Pv A B F F' w3)(Vf:nx<=Pv)(G8:∀id,id<nx->O id=F' id):
  Sat n l H' Pv A B F F' a w3:=
 ⟨rel,sat.size,sat.defers,λt v h=>by rw[sat.env t v h,SV.ma G8 (sat.sc t v h)],λt v h=>SV.vD Vf (sat.sc t v h)⟩
def Dh(sat:Sat n l H nx iv B w O a J){cs:List At}(hs:∀c∈cs,At.sc nx c):
  Rel ((nx,.box t cs)::H) (nx+1) iv B w (iy O nx ⟨J.heap.size,0,false⟩) (J.alloc (.cells (cs.map (At.den O)).toArray t)):=
 sat.rel.push (.box t cs) _ rfl rfl rfl ce (λk K=>heap_alloc_old _ _ K) (λ_=>⟨ae _,ce⟩) ⟨rfl,heap_alloc_new _ _⟩ hs
def xm:∀{vs:List SV} {k:List Nat->Prop},pN vs k->(∀v∈vs,SV.sc nx v)->∃ids,k ids/\vs.map (SV.den O)=ids.map (λid=>Value.pointer (some ⟨(O id).g,0,none⟩))/\∀id∈ids,id<nx
 |[],k,h,_=>⟨[],h,rfl,ce⟩
 | .o (.p id 0)::r,k,h,hs=>by
  obtain⟨ids,Y,I,h3⟩:=xm (vs:=r) h (λv hv=>hs v (by simp[hv]));exact⟨id::ids,Y,by simp[I,SV.den,At.den],by simp;exact⟨hs (.o (.p id 0)) ce,h3⟩⟩
 | .o (.p id (m+1))::r,k,h,_=>by simp[pN]at h
 | .o (.v x)::r,k,h,_=>by simp[pN]at h
 | .o (.s _ _ _ _)::r,k,h,_=>by simp[pN]at h
 | .o (.w _ _)::r,k,h,_=>by simp[pN]at h
 | .o (.fn _ _)::r,k,h,_=>by simp[pN]at h
 | .a _::r,k,h,_=>by simp[pN]at h
def zf(sat:Sat n l H nx iv B w O a J){FS:SV->Hp->Iv->World->Prop}{o:Oper}{next:Act->World->Prop}
  (h:FD P B g args H nx iv w FS) (Vz:(execOp a.eval o).run P J=(callFunc g (args O)).run P J)
  (E:∀v H' A F,FS v H' A F->Sat n l H' nx A B F O a F->v.sc nx->next (a.put o.dst (v.den O)) F):o.wp P a J next Q:=by
 have hc:=h.h O J sat.rel;unfold Oper.wp;rw[Vz,hc.e.h];refine Calls.mono hc.c λe F L=>?_;obtain⟨v,H',A,rfl,Qs,hK⟩:=L;exact E _ _ _ _ hK (sat.next (F':=O) Qs (ae _) (λ_ _=>rfl)) trivial
def Rel.ext(r:Rel H nx iv B w O J)(e:Ext J F):Rel H nx iv B w O F:=
 Rel.mk' (e.os.trans r.os) (e.tape.trans r.tape) (e.output.trans r.output) (aR r.size e.size) r.base r.oB r.keys
  (λid b h=>jX.iJ (r.fits h) (λ_ _=>rfl) (r.scopd h) (λE _=>e.block _ (r.low id b h E).2)) (λid b h=>r.scopd h) r.inj
  (λid b h E=>by have:=r.low id b h E;have:=e.size;omega) (λk K Po=>by rw[e.block k (by have:=r.size;omega)];exact r.D9 k K Po) r.jJ
def Rel.here(r:Rel H nx iv B w O J):Rel H nx iv B J O J:=
 Rel.mk' rfl rfl rfl (ae _) (by have:=r.base;have:=r.size;omega) (λlo R hm=>by have:=r.oB lo R hm;have:=r.size;omega) r.keys
  (λid b h=>r.fits h) (λid b h=>r.scopd h) r.inj r.low (λ_ _ _=>rfl) r.jJ
def Rel.more{lo R:Nat}(r:Rel H nx iv B w O J)(Y:R<=w.heap.size)(I:∀id b,dT H id=some b->(O id).nil=false->¬(lo<=(O id).g/\(O id).g<R)):Rel H nx ((lo,R)::iv) B w O J:=
 Rel.mk' r.os r.tape r.output r.size r.base
  (λlo' R4 hm=>by
   rcases List.mem_cons.1 hm with hm|hm
   .injection hm with e1 e2;omega
   .exact r.oB lo' R4 hm) r.keys (λid b N=>r.fits N) (λid b N=>r.scopd N) r.inj r.low r.D9
  (λlo' R4 hm id b N QC=>by
   rcases List.mem_cons.1 hm with hm|hm
   .injection hm with e1 e2;subst e1;subst e2;exact I id b N QC
   .exact r.jJ lo' R4 hm id b N QC)
def cS{FS:SV->Hp->Iv->World->Prop}(h:Ey P B g args H nx iv w FS):FD P B g args H nx iv w FS:=
 ⟨λO J r=>⟨(h.h O J r).e,Calls.mono (h.h O J r).c λe F L=>by
  obtain⟨v,Y,I,h3⟩:=L
  exact⟨v,H,_,Y,(r.ext I).here.more (ae _) (λid b N E=>by have:=(r.low id b N E).2;omega),h3⟩⟩⟩
def qq:Op->Bool
 | .move _| .assign _| .pick _ _ _| .build _ _| .load _ _| .nilCheck _| .binOp _ _ _ _ _| .unOp _ _ _| .convert _ _ _| .makeFunc _ _ _| .slice _ _ _ _ _| .fieldAddr _ _ _| .field _ _ _| .indexAddr _ _ _| .extract _ _=>true
 | .call ⟨.builtin .len,_,_⟩=>true
 | .call ⟨.builtin .max,_,_⟩=>true
 | .call ⟨.builtin .min,_,_⟩=>true
 |_=>false
def El:Op->Bool
 | .alloc _| .box _ _| .buildSlice _ _ _| .makeSlice _ _ _=>true
 |_=>false
def JY:Op->Bool
 | .load _ _=>false
 |o=>qq o
def nT(hτ:fk P τ){o:Oper}(h:zV dr P τ B o l H nx iv w FS)(sat:Sat n l H nx iv B w O a J)(K:qq o.op=true):
  (∃v,FS v H nx iv w/\v.sc nx/\∀F,(JY o.op=true\/Rel H nx iv B w O F)->(execOp a.eval o).run P F= .ok (.value (v.den O)) F)\/(dr=false/\yz P B o l H nx iv w FS):=by
 obtain⟨dst,op,ty,pos,after,guard⟩:=o;have val:∀(r:SV),FS r H nx iv w->r.sc nx->(∀F,(JY op=true\/Rel H nx iv B w O F)->(execOp a.eval ⟨dst,op,ty,pos,after,guard⟩).run P F= .ok (.value (r.den O)) F)->
   (∃v,FS v H nx iv w/\v.sc nx/\∀F,(JY op=true\/Rel H nx iv B w O F)->(execOp a.eval ⟨dst,op,ty,pos,after,guard⟩).run P F= .ok (.value (v.den O)) F)\/(dr=false/\yz P B ⟨dst,op,ty,pos,after,guard⟩ l H nx iv w FS):=
  λr hK hs hr=>.inl ⟨r,hK,hs,hr⟩
 unfold zV at h;split at h<;>first|(exact False.elim h)|(rename_i Vz;simp only at Vz;subst Vz)
 .obtain⟨v,hK,hv,hs⟩:=dq sat h;exact val v hK hs (λF rel=>by simp[execOp,hv])
 .obtain⟨v,hK,hv,hs⟩:=dq sat h;exact val v hK hs (λF rel=>by simp[execOp,hv])
 .rename_i c x y;obtain⟨v,Y,hv,Rq⟩:=dq sat h;clear Rq;split at Y
  .rename_i t
   cases t
   .obtain⟨u,hK,hu,hs⟩:=dq sat (Y.f rfl);exact val u hK hs (λF rel=>by simp[execOp,hv,SV.den,At.den,asBool,hu])
   .obtain⟨u,hK,hu,hs⟩:=dq sat (Y.t rfl);exact val u hK hs (λF rel=>by simp[execOp,hv,SV.den,At.den,asBool,hu])
  .exact Y.elim
 .cases K
 .cases K
 .rename_i t parts;split at h
  .rename_i sz ag by_ ze tag ik e al fs Rj;have ht:=hτ t _ Rj;obtain⟨inf,z,R,QG,QM,hz,Rt⟩:=ht.info;simp only at QG QM Rt;have hzz:z.cells=(((ze.map At.v)).map (At.den O)).toArray:=by rw[fm];apply Array.ext';simpa using Rt
   have Ww:∀c∈ze.map At.v,At.sc nx c:=λc hc=>by simp at hc;obtain⟨v,_,rfl⟩:=hc;trivial
   split at h
   .rename_i QO;obtain⟨fds,hu,hf,Qp⟩:=ht.i5 (ed QO);simp only at hf;have Yn:fds.toList.mapM (λf=>(P.info? f.type).map λi=>(f.offset,i.size))=some (fds.toList.map λf=>(f.offset,((P.info? f.type).map (·.size)).getD 0)):=by
     clear hf hu;generalize fds.toList=fl at Qp
     induction fl with
     |nil=>rfl
     |cons f r ih=>
      obtain⟨i0,Vh⟩:=Option.isSome_iff_exists.1 (Qp f ce);rw[List.mapM_cons,ih (λg V=>Qp g (by simp[V]))];simp[Vh]
    have h0:=fo h
    obtain⟨cs',hK,QX,hlen,RN⟩:=lI sat (placeF:=λi=>(fds.toList.map λf=>(f.offset,((P.info? f.type).map (·.size)).getD 0))[i]?) (λi k K=>by
     obtain⟨off,ft,fi,Y,I,h3,h4⟩:=oE hτ K;refine⟨off,fi.size,Y,?_⟩;rw[<-hf]at I;simp only[aS,Option.map_eq_some_iff]at I ⊢;obtain⟨fd,Qx,L⟩:=I;injection L with e1 e2;refine⟨fd,Qx,?_⟩;obtain⟨inf',_,R4,VT,_⟩:=h3.info;rw[e1,e2,R4]
     simp[VT]) h0 Ww
    refine val _ hK QX (λF rel=>?_);have N:P.built t (parts.map λp=>(p.1,a.eval p.2)).toList=some (cs'.map (At.den O)).toArray:=by
     unfold Program.built;simp only[R,hu,hz,Yn]
     rw[hzz,<-RN];simp
    have:=run_build F t _ _ N;simp only[execOp]
    exact mm this
   .split at h
    .rename_i QO;have hu:=ht.i6 (ed QO);simp only at hu;split at h
     .rename_i sz' ag' by' ze' tag' ik' e' al' fs' Qg
      have Qg:=hτ e _ Qg;obtain⟨inf',_,R4,VT,_⟩:=Qg.info;simp only at VT;have h0:=fo h;obtain⟨cs',hK,QX,hlen,RN⟩:=lI sat (placeF:=λi=>some (i*inf'.size,inf'.size)) (λi k K=>⟨i*sz',sz',K,by rw[VT]⟩) h0 Ww;refine val _ hK QX (λF rel=>?_);have N:P.built t (parts.map λp=>(p.1,a.eval p.2)).toList=some (cs'.map (At.den O)).toArray:=by
       unfold Program.built;simp only[R,hu,hz,R4]
       rw[hzz,<-RN];simp
      have:=run_build F t _ _ N;simp only[execOp]
      exact mm this
     .exact h.elim
    .exact h.elim
  .exact h.elim
 .cases K
 .rename_i t x;obtain⟨v,Y,hv,hs⟩:=dq sat h;obtain⟨r,hK,hr,Py⟩:=pV hτ sat.rel hs Y;exact val r hK hr (λF rel=>by simp only[execOp,hv];exact mm (Py F (rel.resolve_left (by simp[JY]))))
 .cases K
 .rename_i x;obtain⟨v,Y,hv,hs⟩:=dq sat h;split at Y
  .exact val _ Y hs (λF rel=>by simp[execOp,hv,SV.den,At.den])
  .exact val _ Y hs (λF rel=>by simp[execOp,hv,SV.den,At.den])
  .exact val _ Y hs (λF rel=>by simp[execOp,hv,SV.den,At.den])
  .exact val _ Y hs (λF rel=>by simp[execOp,hv,SV.den,At.den])
  .exact Y.elim
 .rename_i op t x y u;obtain⟨v,Y,hv,_⟩:=dq sat h;obtain⟨v2,I,S5,_⟩:=dq sat Y;obtain⟨r,hK,hr,Py⟩:=Jm (O:=O) hτ I x y;exact val r hK hr (λF rel=>by simp only[execOp,hv,S5];exact mm (Py F))
 .rename_i op t x;obtain⟨v,Y,hv,_⟩:=dq sat h;split at Y
  .exact val _ Y trivial (λF rel=>by simp[execOp,hv,SV.den,At.den,Op.unary])
  .obtain⟨r,hr,hK⟩:=Y;exact val _ hK trivial (λF rel=>by subst hr;simp[execOp,hv,SV.den,At.den,Op.unary,Op.intArith])
  .obtain⟨r,hr,hK⟩:=Y;exact val _ hK trivial (λF rel=>by subst hr;simp[execOp,hv,SV.den,At.den,Op.unary,Op.intBits])
  .exact Y.elim
 .rename_i s d x;split at h
  .rename_i tis htis;obtain⟨ds,hds,_⟩:=(hτ s _ htis).agg;obtain⟨v,Y,hv,Rq⟩:=dq sat h;clear Rq;split at Y
   .rename_i sz ag by_ ze tag ik e al fs Rj;have ht:=hτ d _ Rj;split at Y
    .rename_i QO;have hu:=ht.i1 (ed QO);simp only at hu;split at Y
     .obtain⟨r,hr,hK⟩:=Y;refine val _ hK trivial (λF rel=>?_);subst hr;simp[execOp,convert,run_underlying hds,run_underlying hu,hv,SV.den,At.den,Conv.intToInt]
     .exact Y.elim
    .cases dr
     .exact .inr ⟨rfl,Y⟩
     .exact Y.elim
   .exact Y.elim
  .exact h.elim
 .rename_i f first caps
  split at h
  .obtain⟨vs,Y,Rq,Tz⟩:=sf sat h;obtain⟨ids,hK,hids,QU⟩:=xm (O:=O) Y Tz;refine val _ hK (λid RR=>QU id RR) (λF rel=>?_);have e:caps.map a.eval=(ids.map λid=>Value.pointer (some ⟨(O id).g,0,none⟩)).toArray:=by
    apply Array.ext';rw[<-hids,<-Rq];simp
   simp[execOp,Instr.makeFunc,e,SV.den,At.den]
  .exact h.elim
 .cases K
 .rename_i t x lo R;obtain⟨v,Y,hv,hs⟩:=dq sat h;obtain⟨r,hK,hr,Py⟩:=FL hτ sat Y hs;exact val r hK hr (λF rel=>by simp only[execOp,hv];exact mm (by simpa using Py F))
 .rename_i t x lo R mx;obtain⟨v,Y,hv,hs⟩:=dq sat h;obtain⟨r,hK,hr,Py⟩:=Df hτ sat Y;exact val r hK hr (λF rel=>by simp only[execOp,hv];exact mm (by simpa using Py F))
 .rename_i t x f;split at h
  .rename_i sz ag by_ ze tag ik e al fs Rj;have ht:=hτ t _ Rj;split at h
   .rename_i QO;obtain⟨off,ft,fi,Y,hf,XP,QG⟩:=oE hτ h;obtain⟨v,I,hv,hs⟩:=dq sat Y;obtain⟨r,ad,hK,hr,hd,hrd⟩:=vF (O:=O) I hs;refine val r hK hr (λF rel=>?_);simp only[execOp,hv,hd,hrd]
    exact mm (FI ht (ed QO) hf XP QG ad F)
   .exact h.elim
  .exact h.elim
 .rename_i t x f;split at h
  .rename_i sz ag by_ ze tag ik e al fs Rj;have ht:=hτ t _ Rj;split at h
   .rename_i QO;obtain⟨off,ft,fi,Y,hf,XP,QG⟩:=oE hτ h;obtain⟨v,I,hv,hs⟩:=dq sat Y;obtain⟨fds,fd,hu,Qx,e1,e2⟩:=zb ht (ed QO) hf;have fin:∀cs:List At,v.den O= .agg (cs.map (At.den O)).toArray->(∀c∈cs,At.sc nx c)->
      (match fi.agg with
       |true=>uo cs off (λr=>uq r fi.size (λc=>FS (.a c) H nx iv w))
       |false=>match Db cs off with
        |some c=>FS (.o c) H nx iv w
        |none=>False)->(∃v,FS v H nx iv w/\v.sc nx/\∀F,(JY (.field t x f)=true\/Rel H nx iv B w O F)->(execOp a.eval ⟨dst,.field t x f,ty,pos,after,guard⟩).run P F= .ok (.value (v.den O)) F)\/(dr=false/\yz P B ⟨dst,.field t x f,ty,pos,after,guard⟩ l H nx iv w FS):=by
     intro cs hd QX K;split at K
     .rename_i hag;obtain⟨h3,Rd⟩:=pQ K;obtain⟨hK,RS⟩:=pS h3;refine val _ hK (λc hc=>QX c (List.mem_of_mem_drop (List.mem_of_mem_take hc))) (λF rel=>?_);simp only[execOp,hv,hd]
      refine mm ?_;subst e1 e2;simp[Instr.field,run_underlying hu,Qx,asAgg,part,XP.isAgg,hag,XP.sizeOf,SV.den,List.map_drop,List.map_take,List.extract_eq_take_drop]
     .rename_i hag;split at K
      .rename_i c hc;rw[wu]at hc;refine val _ K (QX c (aG hc)) (λF rel=>?_);simp only[execOp,hv,hd]
       refine mm ?_;subst e1 e2;simp[Instr.field,run_underlying hu,Qx,asAgg,part,XP.isAgg,hag,hc,SV.den]
      .exact K.elim
    split at I
    .rename_i vs;exact fin (vs.map At.v) (by rw[fm];rfl) (λc hc=>by simp at hc;obtain⟨v,_,rfl⟩:=hc;trivial) (fo I)
    .exact fin _ rfl hs I
    .exact I.elim
   .exact h.elim
  .exact h.elim
 .rename_i t x i;obtain⟨v,Y,hv,hs⟩:=dq sat h;obtain⟨u,I,hu,_⟩:=dq sat Y;obtain⟨r,hK,hr,Py⟩:=FJ hτ I hs sat.rel;exact val r hK hr (λF rel=>by simp only[execOp,hv,hu];exact mm (Py F))
 .rename_i x i;obtain⟨v,Y,hv,hs⟩:=dq sat h;split at Y
  .split at Y
   .rename_i vs u hu;rw[Cj]at hu;exact val _ Y trivial (λF rel=>by simp[execOp,hv,Instr.extract,SV.den,At.den,hu])
   .exact Y.elim
  .exact Y.elim
 .rename_i x t;obtain⟨v,Y,hv,_⟩:=dq sat h;obtain⟨r,hK,Py⟩:=Jk (ty:=ty) hτ Y sat.rel;refine val _ hK trivial (λF rel=>?_);show _=Result.ok (Next.value (Value.int .i64 r)) F;generalize v.den O=xv at hv Py;have Py:=Py F;simp[execOp,resolve,invoke,builtin,hv,Py]
 .cases K
 .rename_i x y ts;obtain⟨v,Y,hv,_⟩:=dq sat h;obtain⟨v2,I,S5,_⟩:=dq sat Y;split at I
  .split at I
   .rename_i k a1 k' b1 TX;have WB:=rG TX;subst WB;refine val _ I trivial (λF rel=>?_);simp only[execOp,resolve,invoke,builtin]
    simp[hv,S5,SV.den,At.den,Builtin.max_,Builtin.max2];omega
   .exact I.elim
  .exact I.elim
 .rename_i x y ts;obtain⟨v,Y,hv,_⟩:=dq sat h;obtain⟨v2,I,S5,_⟩:=dq sat Y;split at I
  .split at I
   .rename_i k a1 k' b1 TX;have WB:=rG TX;subst WB;refine val _ I trivial (λF rel=>?_);simp only[execOp,resolve,invoke,builtin]
    simp[hv,S5,SV.den,At.den,Builtin.min_,Builtin.min2];omega
   .exact I.elim
  .exact I.elim
 .cases K
 .cases K
 .cases K
 .cases K
 .cases K
 .cases K
 .cases K
 .cases K
def iz{o:Oper}(h:yz P B o l H nx iv w FS)(sat:Sat n l H nx iv B w O a J){next:Act->World->Prop}
  (E:Oa n B l a o.dst FS next):o.wp P a J next Q:=by
 obtain⟨v,F,A,Py,Qs,hK⟩:=h.h O J a.eval sat.rel (λx v Z=>(vE sat Z).1);have:=E _ _ _ _ _ _ _ hK (sat.next Qs (ae _) (λ_ _=>rfl)) trivial;unfold Oper.wp;rcases Py with Py|⟨Py,rfl⟩
 .rw[Py];exact this
 .rw[Py];exact this
def uA(hτ:fk P τ){o:Oper}(h:zV dr P τ B o l H nx iv w FS)(sat:Sat n l H nx iv B w O a J){next:Act->World->Prop}
  (E:Oa n B l a o.dst FS next):o.wp P a J next Q:=by
 by_cases K:qq o.op=true
 .rcases nT hτ h sat K with⟨v,hK,hs,hr⟩|⟨_,Vz⟩
  .exact oC (hr J (.inr sat.rel)) (E _ _ _ _ _ _ _ hK sat hs)
  .exact iz Vz sat E
 obtain⟨dst,op,ty,pos,after,guard⟩:=o;unfold zV at h;split at h<;>first|(exact False.elim h)|(rename_i Vz;simp only at Vz;subst Vz)
 .exact absurd rfl K
 .exact absurd rfl K
 .exact absurd rfl K
 .rename_i t;split at h
  .rename_i sz ag by_ ze tag ik e al fs Rj;obtain⟨z,hz1,Vi⟩:=(hτ t _ Rj).zeroV J;have hK:=fo h;simp only at Vi;have Qs:=Dh sat (t:=t) (cs:=ze.map At.v) (λc hc=>by simp at hc;obtain⟨v,_,rfl⟩:=hc;trivial);rw[fm]at Qs;have hzz:z.cells=ze.toArray:=by apply Array.ext';simpa using Vi
   refine oC (F:=J.alloc (.cells ze.toArray t)) (v:=.pointer (some ⟨J.heap.size,0,none⟩)) ?_ ?_
   .simp[execOp,Instr.alloc,hz1,newVar,newRow,hzz]
   .have:=E _ _ _ _ _ _ _ hK (sat.next Qs be iU) (by simp[SV.sc,At.sc]);simpa [SV.den,At.den]using this
  .exact h.elim
 .rename_i t x;obtain⟨v,Y,hv,hs⟩:=dq sat h;obtain⟨cs,hK,Q3,Tz⟩:=nU Y;have Qs:=Dh sat (t:=t) (Tz nx hs);refine oC (F:=J.alloc (.cells (cs.map (At.den O)).toArray t)) (v:=.pointer (some ⟨J.heap.size,0,none⟩)) ?_ ?_
  .simp[execOp,Instr.box,hv,newVar,newRow,Q3 O]
  .have:=E _ _ _ _ _ _ _ hK (sat.next Qs be iU) (by simp[SV.sc,At.sc]);simpa [SV.den,At.den]using this
 .exact absurd rfl K
 .rename_i t m parts;split at h
  .rename_i sz ag by_ ze tag ik e al fs Rj;have ht:=hτ t _ Rj;split at h
   .rename_i QO;have hu:=ht.i4 (ed QO);simp only at hu;split at h
    .rename_i sz' ag' by' ze' tag' ik' e' al' fs' Qg
     have Qg:=hτ e _ Qg;obtain⟨inf,z,R,QG,QM,hz,Rt⟩:=Qg.info;have Sj:=Qg.FB;simp only at QG QM Rt Sj;split at h
     .rename_i hle;have hle:=Nat.le_of_ble_eq_true hle;have h0:=fo h;obtain⟨cs',hK,QX,hlen,RN⟩:=lI sat (placeF:=λi=>some (i*inf.size,inf.size)) (λi k K=>⟨i*sz',sz',K,by rw[QG]⟩) h0
       (λc hc=>by obtain⟨v,_,rfl⟩:=bA.1 hc;trivial)
      rw[fm]at RN;have So:z.cells=ze'.toArray:=by apply Array.ext';simpa using Rt
      have XR:((List.replicate m ze').flatten).toArray=madeCells z.cells (m*inf.size):=by
       rw[So,QG,<-Sj];exact(si ze' m).symm
      have Qs:=Dh sat (t:=e) QX;refine oC (F:=J.alloc (.cells (cs'.map (At.den O)).toArray e)) (v:=.slice (some ⟨J.heap.size,0,none⟩) m m) ?_ ?_
      .simp only[execOp]
       refine mm ?_;rw[XR]at RN;by_cases QV:m*inf.size=0
       .have Tf:Instr.fill (λi=>some (i*inf.size,inf.size)) (madeCells z.cells 0) (parts.toList.map λp=>(p.1,a.eval p.2))=some (cs'.map (At.den O)).toArray:=by rw[QV]at RN;exact RN
        have e0:madeCells z.cells 0= #[]:=by simp[madeCells]
        rw[e0]at Tf;have er:Array.range 0= #[]:=rfl;simp[Instr.buildSlice,run_underlying hu,sizeOf,typeInfo,zeroValue,R,hz,QV,newRow,Tf,er]
       .exact run_buildSlice J t e m _ _ inf z hu R hz (by rw[QG];omega) QV (by rw[<-RN];simp[madeCells])
      .have:=E _ _ _ _ _ _ _ hK (sat.next Qs be iU) (by simp[SV.sc,At.sc]);simpa [SV.den,At.den]using this
     .exact h.elim
    .exact h.elim
   .exact h.elim
  .exact h.elim
 .exact absurd rfl K
 .rename_i t x y;obtain⟨v,Y,hv,hs⟩:=dq sat h;obtain⟨u,I,hu,TC⟩:=dq sat Y
  cases V:OZ H v u with
  |true=>
   rw[V]at I
   cases dr with
   |true=>exact I.elim
   |false=>
    have I:OpG P B _ l H nx iv w FS:=I;obtain⟨F,w3,H',A,Py,Qs,hK⟩:=I.h O J a.eval sat.rel (λx v Z=>(vE sat Z).1);refine LR (F:=w3) Py ?_;exact E _ _ _ _ _ _ _ hK (sat.next Qs (ae _) (λ_ _=>rfl)) trivial
  |false=>
   rw[V]at I;obtain⟨H',F,w3,hK,Qs,Py⟩:=FH hτ sat hs TC I;refine LR (F:=w3) (by simp[execOp,hv,hu,Py]) ?_;exact E _ _ _ _ _ _ _ hK (sat.next Qs (ae _) (λ_ _=>rfl)) trivial
 .exact absurd rfl K
 .exact absurd rfl K
 .exact absurd rfl K
 .exact absurd rfl K
 .exact absurd rfl K
 .rename_i t x y;obtain⟨v,Y,hv,_⟩:=dq sat h;obtain⟨u,I,hu,_⟩:=dq sat Y;obtain⟨r,H',Pv,F',F,hK,Qs,hr,Vf,G8,Py⟩:=HR hτ sat I;refine oC (F:=F) (by simp only[execOp,hv,hu];exact mm Py) ?_;exact E _ _ _ _ _ _ _ hK (sat.next Qs Vf G8) hr
 .exact absurd rfl K
 .exact absurd rfl K
 .exact absurd rfl K
 .exact absurd rfl K
 .exact absurd rfl K
 .exact absurd rfl K
 .exact absurd rfl K
 .rename_i x y t u;split at h
  .rename_i htu;have htu:=ed htu;subst htu;obtain⟨v,Y,hv,_⟩:=dq sat h;obtain⟨v2,I,S5,_⟩:=dq sat Y;split at I
   .unfold gaK at I;split at I
    .exact I.elim
    .obtain⟨v,H',Pv,A,F',F,w3,Py,Qs,hs,Vf,G8,hK⟩:=I.h O J a.eval sat.rel (λx v Z=>(vE sat Z).1);exact oC Py (E _ _ _ _ _ _ _ hK (sat.next Qs Vf G8) hs)
   rcases I with I|I
   .obtain⟨r,H',Pv,F',F,hK,Qs,hr,Vf,G8,Py⟩:=vA (ty:=ty) hτ sat I;refine oC (v:=r.den F') (F:=F) ?_ ?_
    .simp[execOp,resolve,invoke,builtin,hv,S5,Py]
    .exact E _ _ _ _ _ _ _ hK (sat.next Qs Vf G8) hr
   .exact iz I sat E
  .exact iz h sat E
 .exact absurd rfl K
 .exact absurd rfl K
 .exact iz h sat E
 .exact iz h sat E
 .exact iz h sat E
 .exact iz h sat E
 .exact iz h sat E
 .exact iz h sat E
 .exact iz h sat E
 .rename_i f args ats;obtain⟨v,Y,hv,_⟩:=dq sat h;obtain⟨vs,I,Rq,Tz⟩:=sf sat Y;have UM:(args.toArray).map a.eval=pJ O vs:=by
   apply Array.ext';simp[pJ,Rq]
  have ZX:∀(g:Nat) (args:(Nat->eD)->Array Value) (FS:SV->Hp->Iv->World->Prop),LO dr P B g args H nx iv w FS->FD P B g args H nx iv w FS:=λg args FS h=>by
   cases dr
   .exact h
   .exact cS h
  split at I
  .rename_i g first caps
   refine zf sat (ZX _ _ _ I) ?_ (λv H' A F hK hs hv=>E _ _ _ _ _ _ _ hK hs hv);simp[execOp,resolve,hv,SV.den,At.den,Deferred.ofValue,invoke,UM]
  .rename_i g ids;refine zf sat (ZX _ _ _ I) ?_ (λv H' A F hK hs hv=>E _ _ _ _ _ _ _ hK hs hv);simp[execOp,resolve,hv,SV.den,At.den,Deferred.ofValue,invoke,UM]
  .exact I.elim
end
def Ex.to:Ex->Exit
 | .normal=>.normal
 | .exit id=>.exit id
 | .ret=>.ret
def PE(n:Nat)(o:Oper):Bool:=match o.dst with
 |some d=>Nat.blt d n
 |none=>true
def codeOk(n:Nat):Code->Bool
 | .region _ ops _=>ops.toList.all (PE n)
 | .seq a b=>codeOk n a&&codeOk n b
 | .cond _ a b=>codeOk n a&&codeOk n b
 | .block _ c=>codeOk n c
 | .loop c=>codeOk n c
 |_=>true
section
variable{P:Program}{τ:nO}{B n nx:Nat}{l:Env}{H:Hp}{iv:Iv}{w J:World}{O:Nat->eD}{a:Act}
def Sat.put(sat:Sat n l H nx iv B w O a J){d:Nat}(hd:d<n){v:SV}(hv:v.sc nx):Sat n ((d,v)::l) H nx iv B w O (a.put (some d) (v.den O)) J:=by
 refine⟨sat.rel,by simp[Act.put,sat.size],sat.defers,λt u h=>?_,λt u h=>?_⟩
 .rw[ep]at h;split at h
  .rename_i e;subst e;injection h with h;subst h;simp[Act.put,sat.size,hd]
  .rename_i e;have:=sat.env t u h;simpa [Act.put,Array.getElem?_setIfInBounds_ne e]using this
 .rw[ep]at h;split at h
  .injection h with h;subst h;exact hv
  .exact sat.sc t u h
def kj(sat:Sat n l H nx iv B w O a J){v:SV}{k:Env->Prop}(h:Ev d v l k)(hd:∀t,d=some t->t<n)(hv:v.sc nx):
  ∃l',k l'/\Sat n l' H nx iv B w O (a.put d (v.den O)) J:=by
 unfold Ev at h;split at h
 .rename_i t;exact⟨_,h,sat.put (hd t rfl) hv⟩
 .exact⟨l,h,sat⟩
def uC:∀{all:List Oper} {j:Nat},Ch all j=(all[j]?).bind (·.dst)
 |[],j=>by simp[Ch]
 |o::r,0=>by simp[Ch]
 |o::r,j+1=>by simp[Ch,uC (all:=r)]
def Sat.aA0(sat:Sat n l H nx iv B w O a J){d:Nat}{v:SV}(hd:a.tmps[d]? =some (v.den O))(hv:v.sc nx):Sat n ((d,v)::l) H nx iv B w O a J:=by
 refine⟨sat.rel,sat.size,sat.defers,λt u h=>?_,λt u h=>?_⟩
 .rw[ep]at h;split at h
  .rename_i e;subst e;injection h with h;subst h;exact hd
  .exact sat.env t u h
 .rw[ep]at h;split at h
  .injection h with h;subst h;exact hv
  .exact sat.sc t u h
def pK(sat:Sat n l H nx iv B w O a J){all:List Oper}{o:Oper}{yes no:Env->Prop}(h:uv all o.guard l yes no):
  (Region.wanted o (yielded all.toArray a.tmps)=true/\∃l',yes l'/\Sat n l' H nx iv B w O a J)\/(Region.wanted o (yielded all.toArray a.tmps)=false/\∃l',no l'/\Sat n l' H nx iv B w O a J):=by
 unfold uv at h;split at h
 .rename_i V;exact .inl ⟨by simp[Region.wanted,V],l,h,sat⟩
 .rename_i j want V;have hy:Region.wanted o (yielded all.toArray a.tmps)=(yielded all.toArray a.tmps j==some want):=by simp[Region.wanted,V]
  split at h
  .rename_i hd;rw[uC]at hd;exact .inr ⟨by rw[hy];simp[yielded,hd],l,h,sat⟩
  .rename_i d hd;rw[uC]at hd;split at h
   .rename_i b N;have ht:=sat.env d _ N;have XS:yielded all.toArray a.tmps j=some b:=by simp[yielded,hd,ht,SV.den,At.den]
    have hkt:b=true->Sat n ((d,.o (.v (.bool true)))::l) H nx iv B w O a J:=λe=>sat.aA0 (by rw[ht,e]) trivial;have hkf:b=false->Sat n ((d,.o (.v (.bool false)))::l) H nx iv B w O a J:=λe=>sat.aA0 (by rw[ht,e]) trivial;split at h
    .cases QB:b
     .exact .inr ⟨by rw[hy,XS,QB];rfl,_,h.f QB,hkf QB⟩
     .exact .inl ⟨by rw[hy,XS,QB];rfl,_,h.t QB,hkt QB⟩
    .cases QB:b
     .exact .inl ⟨by rw[hy,XS,QB];rfl,_,h.f QB,hkf QB⟩
     .exact .inr ⟨by rw[hy,XS,QB];rfl,_,h.t QB,hkt QB⟩
   .rename_i vs N;have ht:=sat.env d _ N;exact .inr ⟨by rw[hy];simp[yielded,hd,ht,SV.den,At.den],l,h,sat⟩
   .exact h.elim
def rH(hτ:fk P τ){all:List Oper}{FS:KT}{Q:Exit->Act->World->Prop}
  (hQ:∀l' H' Pv A F F' a' w3,FS l' H' Pv A F->Sat n l' H' Pv A B F F' a' w3->Q .normal a' w3):
  ∀(rest:List Oper) (l:Env) (H:Hp) (nx:Nat) (iv:Iv) (w:World) (O:Nat->eD) (a:Act) (J:World),rest.all (PE n)=true->xj P τ B all rest l H nx iv w FS->Sat n l H nx iv B w O a J->
   wpList P all.toArray Q rest a J
 |[],l,H,nx,iv,w,O,a,J,_,h,sat=>wpList_nil (hQ _ _ _ _ _ _ _ _ h sat)
 |o::r,l,H,nx,iv,w,O,a,J,QK,h,sat=>by
  simp only[List.all_cons,bM]at QK;have hd:∀t,o.dst=some t->t<n:=λt ht=>by
   have:=QK.1;simp only[PE,ht]at this;have h5:t+1<=n:=by simpa [Nat.blt]using this
   exact h5
  refine wpList_step λKc hKc=>?_;unfold xj kO at h;rcases pK sat h with⟨W,l1,Y,sat1⟩|⟨W,l1,Y,sat1⟩
  .rw[aM W];refine uA hτ Y sat1 λv H' Pv A F F' w3 I sat2 hv=>?_;obtain⟨l2,h3,sat3⟩:=kj sat2 I hd hv;exact hKc _ _ (rH hτ hQ r _ _ _ _ _ _ _ _ QK.2 h3 sat3)
  .rw[aJ (by simp[W])];obtain⟨l2,h3,sat3⟩:=kj sat1 Y hd trivial;exact hKc _ _ (rH hτ hQ r _ _ _ _ _ _ _ _ QK.2 h3 sat3)
def Sub.sat{t:FG}(h:Sub B l nx O J t)(sat:Sat n l H nx iv B w O a J):∃F',Sat n t.l t.H t.nx t.iv B t.w F' a J:=by
 obtain⟨F',Y,I⟩:=h;refine⟨F',Y,sat.size,sat.defers,λu v hv=>?_,λu v hv=>(I u v hv).1⟩;obtain⟨_,v0,h3,h4⟩:=I u v hv;rw[sat.env u v0 h3,h4]
def iW(hτ:fk P τ):∀(c:Code) (l:Env) (H:Hp) (nx:Nat) (iv:Iv) (w:World) (Q':Ex->KT),jn P τ B c l H nx iv w Q'->codeOk n c=true->
  ∀(O:Nat->eD) (a:Act) (J:World),Sat n l H nx iv B w O a J->∀Q:Exit->Act->World->Prop,(∀e l' H' Pv A F F' a' w3,Q' e l' H' Pv A F->Sat n l' H' Pv A B F F' a' w3->Q e.to a' w3)->c.wp P Q a J
 | .skip,l,H,nx,iv,w,Q',h,_,O,a,J,sat,Q,hQ=>wp_skip (hQ .normal _ _ _ _ _ _ _ _ h sat)
 | .region id ops false,l,H,nx,iv,w,Q',h,QK,O,a,J,sat,Q,hQ=>by
  obtain⟨ol⟩:=ops;exact wp_region_lit (rH hτ (λl' H' Pv A F F' a' w3 K hs=>hQ .normal _ _ _ _ _ _ _ _ K hs) ol _ _ _ _ _ _ _ _ QK h sat)
 | .region id ops true,l,H,nx,iv,w,Q',h,QK,O,a,J,sat,Q,hQ=>
  pM.h h n O a J QK sat Q (λl' H' Pv A F F' a' w3 K hs=>hQ .normal _ _ _ _ _ _ _ _ K hs) id
 | .seq c d,l,H,nx,iv,w,Q',h,QK,O,a,J,sat,Q,hQ=>by
  simp only[codeOk,bM]at QK;refine wp_seq (iW hτ c _ _ _ _ _ _ h QK.1 O a J sat _ λe l' H' Pv A F F' a' w3 K hs=>?_)
  cases e with
  |normal=>exact iW hτ d _ _ _ _ _ _ K QK.2 F' a' w3 hs Q hQ
  |exit id=>exact hQ (.exit id) _ _ _ _ _ _ _ _ K hs
  |ret=>exact hQ .ret _ _ _ _ _ _ _ _ K hs
 | .cond x c d,l,H,nx,iv,w,Q',h,QK,O,a,J,sat,Q,hQ=>by
  simp only[codeOk,bM]at QK;obtain⟨v,Y,hv,Rq⟩:=dq sat h;clear Rq;split at Y
  .rename_i t;refine wp_cond_split (t:=t) (by rw[hv];rfl) (λht=>?_) (λht=>?_)
   .exact iW hτ c _ _ _ _ _ _ (Y.t ht) QK.1 O a J sat Q hQ
   .exact iW hτ d _ _ _ _ _ _ (Y.f ht) QK.2 O a J sat Q hQ
  .exact Y.elim
 | .block id c,l,H,nx,iv,w,Q',h,QK,O,a,J,sat,Q,hQ=>by
  refine wp_block (iW hτ c _ _ _ _ _ _ h QK O a J sat _ λe l' H' Pv A F F' a' w3 K hs=>?_)
  cases e with
  |normal=>exact hQ .normal _ _ _ _ _ _ _ _ K hs
  |exit id'=>
   simp only[Ex.to,Exit.inBlock]
   simp only at K;split at K
   .rename_i L;rw[aM (ed L)];exact hQ .normal _ _ _ _ _ _ _ _ K hs
   .rename_i L;rw[aJ (λe=>by subst e;rw[Nat.beq_refl]at L;cases L)];exact hQ (.exit id') _ _ _ _ _ _ _ _ K hs
  |ret=>exact hQ .ret _ _ _ _ _ _ _ _ K hs
 | .loop c,l,H,nx,iv,w,Q',h,QK,O,a,J,sat,Q,hQ=>by
  obtain⟨α,st,μ,E8,h0,hr⟩:=h;intro b k cs;have key:∀m x O a J,μ x=m->E8 x->Sat n (st x).l (st x).H (st x).nx (st x).iv B (st x).w O a J->
    ∃e a' F,Q e a' F/\Arrives P (lone (b.at a (.code c:: .inLoop c::k)) cs J) b k cs e a' F:=by
   intro m
   induction m using Nat.strongRecOn with
   |_ m ih=>
    intro x O a J hm hI hs;have hc:=iW hτ c _ _ _ _ _ _ (hr x hI) QK O a J hs
     (λe a2 F=>match e with
      | .normal=>∃y G9,E8 y/\Sat n (st y).l (st y).H (st y).nx (st y).iv B (st y).w G9 a2 F/\μ y<μ x
      |e=>Q e a2 F) (λe l' H' Pv A F F' a' w3 K VT=>by
       cases e with
       |normal=>
        obtain⟨y,hIy,hy,QU⟩:=K F' w3 VT.rel;obtain⟨G9,TC⟩:=hy.sat VT;exact⟨y,G9,hIy,TC,QU⟩
       |exit id=>exact hQ (.exit id) _ _ _ _ _ _ _ _ K VT
       |ret=>exact hQ .ret _ _ _ _ _ _ _ _ K VT)
    obtain⟨e,a₁,w₁,hq,VA⟩:=hc b (.inLoop c::k) cs
    cases e with
    |normal=>
     obtain⟨y,G9,hIy,TC,QU⟩:=hq;obtain⟨e₂,a₂,w₂,hq₂,harr₂⟩:=ih (μ y) (hm▸QU) y G9 a₁ w₁ rfl hIy TC;exact⟨e₂,a₂,w₂,hq₂,.of_steps (Steps.trans VA (.one step_inLoop)) harr₂⟩
    |exit id=>exact⟨_,a₁,w₁,hq,.pass (x:=.inLoop c) rfl (λ_ _=>.inl ce) VA⟩
    |goto l=>exact⟨_,a₁,w₁,hq,.pass (x:=.inLoop c) rfl (λ_ _=>.inl ce) VA⟩
    |ret=>exact⟨_,a₁,w₁,hq,.pass (x:=.inLoop c) rfl (λ_ _=>.inl ce) VA⟩
    |panic ch=>exact⟨_,a₁,w₁,hq,.pass (x:=.inLoop c) rfl (λ_ _=>.inl ce) VA⟩
    |outgrown=>exact⟨_,a₁,w₁,hq,.pass (x:=.inLoop c) rfl (λ_ _=>.inl ce) VA⟩
  obtain⟨x,hIx,Z⟩:=h0 O J sat.rel;obtain⟨G9,TC⟩:=Z.sat sat;obtain⟨e,a',F,hq,VA⟩:=key _ x G9 a J rfl hIx TC;exact⟨e,a',F,hq,.of_steps (.one step_loop) VA⟩
 | .exit id,l,H,nx,iv,w,Q',h,_,O,a,J,sat,Q,hQ=>wp_exit (hQ (.exit id) _ _ _ _ _ _ _ _ h sat)
 | .ret,l,H,nx,iv,w,Q',h,_,O,a,J,sat,Q,hQ=>wp_ret (hQ .ret _ _ _ _ _ _ _ _ h sat)
 | .rangeFunc _ _ _ _,l,H,nx,iv,w,Q',h,_,O,a,J,sat,Q,hQ=>h.elim
 | .scope _,l,H,nx,iv,w,Q',h,_,O,a,J,sat,Q,hQ=>h.elim
 | .label _,l,H,nx,iv,w,Q',h,_,O,a,J,sat,Q,hQ=>h.elim
 | .goto _,l,H,nx,iv,w,Q',h,_,O,a,J,sat,Q,hQ=>h.elim
 | .refuse _,l,H,nx,iv,w,Q',h,_,O,a,J,sat,Q,hQ=>h.elim
def ff:Nat->List Value->Env
 |_,[]=>[]
 |k,v::r=>(k,.o (.v v))::ff (k+1) r
def uD:∀(vs:List Value) (k t:Nat) (v:SV),fj (ff k vs) t=some v->k<=t/\∃x,v= .o (.v x)/\vs[t-k]? =some x
 |[],k,t,v,h=>by simp[ff,fj]at h
 |x::r,k,t,v,h=>by
  rw[ff,ep]at h;split at h
  .rename_i e;subst e;injection h with h;subst h;exact⟨ae _,x,rfl,ce⟩
  .obtain⟨Y,y,I,h3⟩:=uD r (k+1) t v h;refine⟨be,y,I,?_⟩;rw[show t-k=(t-(k+1))+1 by omega];simpa using h3
def FN(τ:nO)(B:Nat)(l:Env)(H:Hp)(nx:Nat)(iv:Iv)(w:World):List ResultVar->(List SV->Prop)->Prop
 |[],k=>k []
 | .tmp t::r,k=>match fj l t with
  |some v=>FN τ B l H nx iv w r (λvs=>k (v::vs))
  |none=>False
 | .cell t ty::r,k=>match fj l t with
  |some v=>Cg τ B ty v H nx iv w (λu=>FN τ B l H nx iv w r (λvs=>k (u::vs)))
  |none=>False
def LS(B:Nat)(H:Hp)(nx:Nat)(iv:Iv)(w:World)(F9:Ending->World->Prop):List SV->Prop
 |[v]=>∀O J,Rel H nx iv B w O J->F9 (.returned (v.den O)) J
 |vs=>∀O J,Rel H nx iv B w O J->F9 (.returned (.tuple (pJ O vs))) J
def PF(τ:nO)(B:Nat)(rs:List ResultVar)(F9:Ending->World->Prop):Ex->KT
 | .exit _,_,_,_,_,_=>False
 | .normal,l,H,nx,iv,w=>FN τ B l H nx iv w rs (LS B H nx iv w F9)
 | .ret,l,H,nx,iv,w=>FN τ B l H nx iv w rs (LS B H nx iv w F9)
def LU(tmps:Array Value):ResultVar->Sem Value
 | .tmp t=>pure (tmps.getD t undef)
 | .cell c t=>do loadVar t (<-asAddr (tmps.getD c undef))
def wy(hτ:fk P τ)(sat:Sat n l H nx iv B w O a J):∀{rs:List ResultVar} {k:List SV->Prop},FN τ B l H nx iv w rs k->
  ∃vs,k vs/\(rs.mapM (LU a.tmps)).run P J= .ok (vs.map (SV.den O)) J
 |[],k,h=>⟨[],h,ce⟩
 | .tmp t::r,k,h=>by
  unfold FN at h;split at h
  .rename_i v hv;obtain⟨vs,Y,I⟩:=wy hτ sat h;have:=sat.env t v hv;exact⟨v::vs,Y,by rw[List.mapM_cons,Sem.run_bind];simp[LU,this,I]⟩
  .exact h.elim
 | .cell t ty::r,k,h=>by
  unfold FN at h;split at h
  .rename_i v hv;obtain⟨u,Y,hu,ZY⟩:=pV hτ sat.rel (sat.sc t v hv) h;have Py:=ZY J sat.rel;clear ZY;obtain⟨vs,I,h3⟩:=wy hτ sat Y;have htm:=sat.env t v hv;refine⟨u::vs,I,?_⟩;have:(do loadVar ty (<-asAddr (v.den O)):Sem Value).run P J= .ok (u.den O) J:=by
    revert Py;generalize v.den O=x;intro Py
    cases x with
    |pointer ad=>
     cases ad with
     |some ad=>simpa [asAddr,Instr.loadAt,Instr.sureAddr]using Py
     |none=>simp[Instr.loadAt,Instr.sureAddr]at Py
    |_=>simp[Instr.loadAt,Instr.sureAddr]at Py
   have h4:(LU a.tmps (.cell t ty)).run P J= .ok (u.den O) J:=by
    have e:a.tmps.getD t undef=v.den O:=by simp[htm]
    show(do loadVar ty (<-asAddr (a.tmps.getD t undef)):Sem Value).run P J=_;rw[e];exact this
   rw[List.mapM_cons,Sem.run_bind,h4];simp[h3]
  .exact h.elim
def FO(hτ:fk P τ){f:FuncId}{fn:Func}{c:Code}{args:Array Value}{w:World}(hf:P.funcs[f]? =some fn)(N:fn.body=some c)
  (E:args.size<=fn.ntmps) (QK:codeOk fn.ntmps c=true) (h:jn P τ w.heap.size c (ff 0 args.toList) [] 0 [] w (PF τ w.heap.size fn.results.toList F9)):Calls P f args w F9:=by
 refine calls_of_wp hf N ?_;have sat:Sat fn.ntmps (ff 0 args.toList) [] 0 [] w.heap.size w (λ_=>⟨0,0,true⟩) {tmps:=args++Array.replicate (fn.ntmps-args.size) undef,defers:=[]} w:=by
  refine⟨Rel.mk' rfl rfl rfl (ae _) (ae _) ce (by simp[dT]) (by simp[dT]) (by simp[dT]) (by simp[dT]) (by simp[dT]) (λ_ _ _=>rfl) ce,by simp;omega,rfl,λt v hv=>?_,λt v hv=>?_⟩
  .obtain⟨_,x,rfl,Z⟩:=uD _ 0 t v hv;simp only[Nat.sub_zero,bT]at Z;rw[Array.getElem?_append_left (bG.1 Z).1,Z];rfl
  .obtain⟨_,x,rfl,Z⟩:=uD _ 0 t v hv;trivial
 refine iW hτ c _ _ _ _ _ _ h QK _ _ _ sat _ λe l' H' Pv A F F' a' w3 K hs=>?_;have fin:FN τ w.heap.size l' H' Pv A F fn.results.toList (LS w.heap.size H' Pv A F F9)->a'.defers=[]/\∃v,(results fn a'.tmps).run P w3= .ok v w3/\F9 (.returned v) w3:=by
  intro K;obtain⟨vs,Y,I⟩:=wy hτ hs K;refine⟨hs.defers,if QG:(vs.map (SV.den F')).toArray.size=1 then(vs.map (SV.den F')).toArray[0]else .tuple (vs.map (SV.den F')).toArray,?_,?_⟩
  .have e:(fn.results.mapM (LU a'.tmps)).run P w3= .ok (vs.map (SV.den F')).toArray w3:=by
    rw[Array.mapM_eq_mapM_toList];simp only[Sem.run_map,I,Result.andThen_ok]
   show(do let vs <-fn.results.mapM (LU a'.tmps);pure (if h:vs.size=1 then vs[0]else .tuple vs):Sem Value).run P w3=_;rw[Sem.run_bind,e];simp only[Result.andThen_ok,Sem.run_pure]
  .match vs,Y with
   |[v],Y=>simpa using Y F' w3 hs.rel
   |[],Y=>simpa [pJ]using Y F' w3 hs.rel
   |v1::v2::r,Y=>simpa [pJ]using Y F' w3 hs.rel
 cases e with
 |normal=>exact fin K
 |exit id=>exact K.elim
 |ret=>exact fin K
end
section
variable{P:Program}{ops:Array Oper}{Q:Exit->Act->World->Prop}{md:Region.Mode}
def iX(P:Program)(ops:Array Oper)(pu:Bool)(o:Oper)(v:Value)(a:Act)(w:World):Prop:=
 (Region.wanted o (yielded ops a.tmps)=true/\∀F,(pu=true\/Ext w F)->(execOp a.eval o).run P F= .ok (.value v) F)\/
 (Region.wanted o (yielded ops a.tmps)=false/\v=undef)
def Ext.refl(w:World):Ext w w:=RowKit.Below.refl _ _
def Ext.trans{a b c:World}(h:Ext a b)(k:Ext b c):Ext a c:=RowKit.Below.trans h (k.mono h.size)
def iX.wpOp{i:Nat}{o:Oper}{a:Act}(R:ops[i]? =some o)(hy:iX P ops pu o v a w)
  {FS:Act->World->Prop} (h:FS (a.put o.dst v) w):wpOp P ops Q i FS a w:=by
 unfold Go.wpOp;simp only[R]
 rcases hy with⟨W,hv⟩|⟨W,rfl⟩
 .simp only[W,if_true,Oper.wp,hv w (.inr (Ext.refl w)),Oper.upon];exact .inl h
 .simp only[W,Bool.false_eq_true,if_false];exact h
def iX.of_same{o:Oper}{a a':Act}(hy:iX P ops pu o v a w)(L:execOp a'.eval o=execOp a.eval o)
  (W:Region.wanted o (yielded ops a'.tmps)=Region.wanted o (yielded ops a.tmps)):iX P ops pu o v a' w:=by
 unfold iX at*
 rw[L,W];exact hy
def iX.ext{o:Oper}{a:Act}(hy:iX P ops pu o v a w)(e:pu=true\/Ext w F):iX P ops pu o v a F:=
 hy.imp (λ⟨Y,I⟩=>⟨Y,λw3 h3=>I w3 (by
  rcases h3 with h3|h3
  .exact .inl h3
  .exact e.imp id (λe=>e.trans h3))⟩) id
def Jn{oi oj:Oper}{w0:World}(hj:ops[j]? =some oj)(Sh:oi.apart ops oj=true)
  (hsi:∀cs b,oi.op≠ .select cs b) (hsj:∀cs b,oj.op≠ .select cs b)
  (hQ:∀c a w,Q (.panic c) (a.put oi.dst v) w->Q (.panic c) a w) {FS:Act->World->Prop} {a:Act}
  (hy:iX P ops pu oi v a w0) (h:wpOp P ops Q j FS (a.put oi.dst v) w):
  wpOp P ops Q j (λa' J=>iX P ops pu oi v a' w0/\FS (a'.put oi.dst v) J) a w:=by
 obtain⟨Y,I,h3⟩:=Oper.apart_spec Sh;have cW:∀(a:Act),iX P ops pu oi v a w0->∀u,iX P ops pu oi v (a.put oj.dst u) w0:=λa hy u=>
  hy.of_same (execOp_put oi hsi a oj.dst u h3) (wanted_put oi a oj.dst u h3)
 have keepD:∀d,iX P ops pu oi v {a with defers:=d::a.defers} w0:=λd=>hy.of_same rfl rfl;unfold wpOp at*
 simp only[hj]at*
 rw[wanted_put oj a oi.dst v Y]at h;split
 .rename_i W;simp only[W,if_true]at h;rcases h with h|⟨VB,XT⟩
  case inr=>exact .inr ⟨by unfold Oper.asks at *;rw[execOp_put oj hsj a oi.dst v Y]at VB;exact VB,XT⟩
  refine .inl ?_;unfold Oper.wp at*
  rw[execOp_put oj hsj a oi.dst v Y]at h;generalize (execOp a.eval oj).run P w=r at*
  cases r with
  |ok n J=>
   cases n<;>simp only[Oper.upon]at h ⊢
   case value u=>exact⟨cW a hy u,by rw[<-Act.put_comm a v u I];exact h⟩
   case skip=>exact⟨cW a hy _,by rw[<-Act.put_comm a v undef I];exact h⟩
   case defer d=>
    refine⟨cW _ (keepD d) _,?_⟩;rw[<-Act.put_comm _ v undef I,<-Act.put_defers];exact h
   case enter f args=>
    refine Calls.mono h λe w'' L=>?_
    cases e with
    |returned u=>exact⟨cW a hy u,by rw[<-Act.put_comm a v u I];exact L⟩
    |panicked c=>exact hQ _ _ _ L
    |outgrown=>exact L
   case row row args=>exact Rows.mono h λu w'' L=>⟨cW a hy u,by rw[<-Act.put_comm a v u I];exact L⟩
  |halt x J=>
   cases x<;>simp only[Oper.upon]at h ⊢
   case panic u=>exact hQ _ _ _ h
 .rename_i W;simp only[W]at h;exact⟨cW a hy _,by rw[<-Act.put_comm a v undef I];exact h⟩
def tw(o:Oper):Bool:= !(qq o.op||El o.op||(match o.op with
 | .call ⟨.value _,_,_⟩=> !(Nat.beq o.type 0)
 |_=>false))
def mg(o:Oper):Bool:=match o.op with
 | .call ⟨.value _,_,_⟩=>Nat.beq o.type 0
 |_=>false
def HK{o:Oper}(h:qq o.op=true):mg o=false:=by
 unfold mg;split
 .rename_i e;rw[e]at h
  cases h
 .rfl
def HJ{o:Oper}(h:El o.op=true):mg o=false:=by
 unfold mg;split
 .rename_i e;rw[e]at h
  cases h
 .rfl
def Bt{o:Oper}(h:tw o=false):mg o=false:=by
 unfold mg;split
 .rename_i e;simp only[tw,e,qq,El,Bool.false_or,Bool.not_not]at h;exact h
 .rfl
def wk(P:Program)(md:Region.Mode)(ops:Array Oper)(Q:Exit->Act->World->Prop):Nat->Array Bool->Act->World->Prop
 |0,listed,a,w=>Region.ready md ops listed=[]/\Q .normal a w
 |fuel+1,listed,a,w=>
  (Region.ready md ops listed=[]->Q .normal a w)/\
  ∀i∈Region.ready md ops listed,wpOp P ops Q i (λa' J=>((∀o,ops[i]? =some o->tw o=false)->Ext w J)/\wk P md ops Q fuel (listed.setIfInBounds i true) a' J) a w
def z3:∀(fuel:Nat) (listed:Array Bool) (a:Act) (w:World),wk P md ops Q fuel listed a w->wpAny P md ops Q fuel listed a w
 |0,_,_,_,h=>h
 |fuel+1,_,_,_,h=>⟨h.1,λi R=>wpOp_mono (λa' J h'=>z3 fuel _ a' J h'.2) (h.2 i R)⟩
def uw{i:Nat}{oi:Oper}(R:ops[i]? =some oi)(Q6:∀(j:Nat) (o:Oper) cs b,ops[j]? =some o->o.op≠ .select cs b)
  (hQ:∀c a w,Q (.panic c) (a.put oi.dst v) w->Q (.panic c) a w) (lH:Nat->Prop) (Qt:∀j,lH j->∃oj e,ops[j]? =some oj/\e∈oj.after/\Region.binds md e=true/\(e.on=i\/lH e.on)):
  ∀(fuel:Nat) (listed:Array Bool) (a:Act) (w:World),(∀j,lH j->listed.getD j false=false)->
   (∀j oj,ops[j]? =some oj->j≠i->listed.getD j true=false->¬lH j->oi.apart ops oj=true/\(pu=true\/tw oj=false))->
   i∈Region.ready md ops listed->iX P ops pu oi v a w->
   wk P md ops Q fuel (listed.setIfInBounds i true) (a.put oi.dst v) w->wk P md ops Q (fuel+1) listed a w:=by
 intro fuel
 induction fuel with
 |zero=>
  intro listed a w _ _ hr hy H;refine⟨λh=>(by rw[h]at hr;cases hr),λj hj=>?_⟩;by_cases Qd:j=i
  .subst Qd;exact hy.wpOp R ⟨λ_=>Ext.refl w,H⟩
  .have:=ready_mono hj Qd;rw[H.1]at this
   cases this
 |succ fuel ih=>
  intro listed a w Pu Rs hr hy H;refine⟨λh=>(by rw[h]at hr;cases hr),λj hj=>?_⟩;by_cases Qd:j=i
  .subst Qd;exact hy.wpOp R ⟨λ_=>Ext.refl w,H⟩
  .have Y:=H.2 j (ready_mono hj Qd);obtain⟨XU,oj,Su,Qp⟩:=mem_ready.1 hj;have Qe:¬lH j:=λN=>by
    obtain⟨oj',e,UN,L,WT,Wy⟩:=Qt j N;rw[Su]at UN;injection UN with UN;subst UN;have Y:=Qp e L WT;rcases Wy with heq|QZ
    .have h0:=(mem_ready.1 hr).1;rw[heq]at Y;rcases aW i listed.size with h'|h'
     .simp[h']at h0 Y;rw[h0]at Y;cases Y
     .simp[Array.getElem?_eq_none h']at Y
    .rw[Pu _ QZ]at Y;cases Y
   have hfj:=Rs j oj Su Qd XU Qe;have I:=Jn Su hfj.1 (λcs b=>Q6 i oi cs b R) (λcs b=>Q6 j oj cs b Su) hQ hy Y;have hbl':∀k,lH k->(listed.setIfInBounds j true).getD k false=false:=λk K=>by
    rw[getD_set_ne false (λe=>(by subst e;exact Qe K))];exact Pu k K
   have Vj:∀k ok,ops[k]? =some ok->k≠i->(listed.setIfInBounds j true).getD k true=false->
     ¬lH k->oi.apart ops ok=true/\(pu=true\/tw ok=false):=λk ok K VC XM Tu=>by
    refine Rs k ok K VC ?_ Tu;by_cases Up:j=k
    .subst Up;exact XU
    .rw[getD_set_ne true Up]at XM;exact XM
   refine wpOp_mono (λa' J h3=>?_) I;have Ua:tw oj=false->Ext w J:=λhf=>h3.2.1 (λo ho=>by rw[Su]at ho;injection ho with ho;subst ho;exact hf);refine⟨λhh=>Ua (hh oj Su),ih (listed.setIfInBounds j true) a' J hbl' Vj (ready_mono hr (Ne.symm Qd)) (h3.1.ext (hfj.2.imp id Ua)) ?_⟩;rw[Array.setIfInBounds_comm _ _ Qd];exact h3.2.2
end
section
variable{P:Program}{τ:nO}{B n nx:Nat}{l:Env}{H:Hp}{iv:Iv}{w J:World}{O:Nat->eD}{a:Act}
def AL(P:Program)(o:Oper)(a:Act)(mk:Nat->Value)(obj:Obj):Prop:=
 ∀w:World,(execOp a.eval o).run P w= .ok (.value (mk w.heap.size)) (w.alloc obj)
def AL.uniq{o:Oper}{mk':Nat->Value}{obj':Obj}(h:AL P o a mk obj)(h':AL P o a mk' obj'):obj=obj'/\mk=mk':=by
 have key:∀w:World,mk w.heap.size=mk' w.heap.size/\w.alloc obj=w.alloc obj':=λw=>by
  have:=(h w).symm.trans (h' w);injection this with Y I;injection Y with Y;exact⟨Y,I⟩
 refine⟨?_,funext λg=>?_⟩
 .have:=(key default).2;have I:=congrArg (λw:World=>w.heap[(default:World).heap.size]?) this;simp only[heap_alloc_new]at I;injection I
 .have:=(key {(default:World)with heap:=Array.replicate g default}).1;simpa using this
def pL(hτ:fk P τ){o:Oper}(h:zV dr P τ B o l H nx iv w FS)(sat:Sat n l H nx iv B w O a J)(K:El o.op=true):
  ∃b v mk obj,FS v ((nx,b)::H) (nx+1) iv w/\b≠ .dead/\b.scopd nx/\v.sc (nx+1)/\(∀g,v.den (iy O nx ⟨g,0,false⟩)=mk g)/\(∀g F,F.heap[g]? =some obj->b.fits O ⟨g,0,false⟩ F)/\AL P o a mk obj:=by
 obtain⟨dst,op,ty,pos,after,guard⟩:=o;unfold zV at h;split at h<;>first|(exact False.elim h)|(rename_i Vz;simp only at Vz;subst Vz)
 all_goals first|(exact absurd K Bool.false_ne_true)|skip
 .rename_i t;split at h
  .rename_i sz ag by_ ze tag ik e al fs Rj;have hK:=fo h;refine⟨_,_,λg=>.pointer (some ⟨g,0,none⟩),.cells ze.toArray t,hK,ce,(λc hc=>by obtain⟨v,_,rfl⟩:=bA.1 hc;trivial),by simp[SV.sc,At.sc],λg=>by simp[SV.den,At.den],λg F V=>⟨rfl,by rw[fm];exact V⟩,λw=>?_⟩;obtain⟨z,hz1,Vi⟩:=(hτ t _ Rj).zeroV w;simp only at Vi;have hzz:z.cells=ze.toArray:=by apply Array.ext';simpa using Vi
   simp[execOp,Instr.alloc,hz1,newVar,newRow,hzz]
  .exact h.elim
 .rename_i t x;obtain⟨v,Y,hv,hs⟩:=dq sat h;obtain⟨cs,hK,Q3,Tz⟩:=nU Y;refine⟨_,_,λg=>.pointer (some ⟨g,0,none⟩),.cells (cs.map (At.den O)).toArray t,hK,ce,Tz nx hs,by simp[SV.sc,At.sc],λg=>by simp[SV.den,At.den],λg F V=>⟨rfl,V⟩,λw=>?_⟩;simp[execOp,Instr.box,hv,newVar,newRow,Q3 O]
 .rename_i t m parts;split at h
  .rename_i sz ag by_ ze tag ik e al fs Rj;have ht:=hτ t _ Rj;split at h
   .rename_i QO;have hu:=ht.i4 (ed QO);simp only at hu;split at h
    .rename_i sz' ag' by' ze' tag' ik' e' al' fs' Qg
     have Qg:=hτ e _ Qg;obtain⟨inf,z,R,QG,QM,hz,Rt⟩:=Qg.info;have Sj:=Qg.FB;simp only at QG QM Rt Sj;split at h
     .rename_i hle;have hle:=Nat.le_of_ble_eq_true hle;have h0:=fo h;obtain⟨cs',hK,QX,hlen,RN⟩:=lI sat (placeF:=λi=>some (i*inf.size,inf.size)) (λi k K=>⟨i*sz',sz',K,by rw[QG]⟩) h0
       (λc hc=>by obtain⟨v,_,rfl⟩:=bA.1 hc;trivial)
      rw[fm]at RN;have So:z.cells=ze'.toArray:=by apply Array.ext';simpa using Rt
      have XR:((List.replicate m ze').flatten).toArray=madeCells z.cells (m*inf.size):=by
       rw[So,QG,<-Sj];exact(si ze' m).symm
      refine⟨_,_,λg=>.slice (some ⟨g,0,none⟩) m m,.cells (cs'.map (At.den O)).toArray e,hK,ce,QX,by simp[SV.sc,At.sc],λg=>by simp[SV.den,At.den],λg F V=>⟨rfl,V⟩,λw=>?_⟩;simp only[execOp]
      refine mm ?_;rw[XR]at RN;by_cases QV:m*inf.size=0
      .have Tf:Instr.fill (λi=>some (i*inf.size,inf.size)) (madeCells z.cells 0) (parts.toList.map λp=>(p.1,a.eval p.2))=some (cs'.map (At.den O)).toArray:=by rw[QV]at RN;exact RN
       have e0:madeCells z.cells 0= #[]:=by simp[madeCells]
       rw[e0]at Tf;have er:Array.range 0= #[]:=rfl;simp[Instr.buildSlice,run_underlying hu,sizeOf,typeInfo,zeroValue,R,hz,QV,newRow,Tf,er]
      .exact run_buildSlice w t e m _ _ inf z hu R hz (by rw[QG];omega) QV (by rw[<-RN];simp[madeCells])
     .exact h.elim
    .exact h.elim
   .exact h.elim
  .exact h.elim
 .rename_i t x y;obtain⟨v,Y,hv,Rq⟩:=dq sat h;obtain⟨u,I,hu,hus⟩:=dq sat Y;clear Rq hus;unfold IX at I;split at I
  .rename_i k1 a1 k2 b1;split at I
   .rename_i sz ag by_ ze tag ik e al fs Rj;have ht:=hτ t _ Rj;split at I
    .rename_i QO;have hut:=ht.i4 (ed QO);simp only at hut;split at I
     .rename_i sz' ag' by' ze' tag' ik' e' al' fs' Qg
      have Qg:=hτ e _ Qg;obtain⟨inf,z,R,QG,QM,hz,Rt⟩:=Qg.info;simp only at QG QM Rt;obtain⟨m,c,rfl,rfl,SJ,hbytes,h63,h3⟩:=I;have SR:(inf.bytes:Int)*(c:Int)<=281474976710656:=by
       rw[QM];have QZ:((by'*c:Nat):Int)<=281474976710656:=by omega
       rwa [Int.natCast_mul]at QZ
      have Py:=λw:World=>run_make (P:=P) w t e inf z hut R hz k1 k2 (m:Int) (c:Int) be be SR be;simp only[aI]at Py;have Sj:=Qg.FB;simp only at Sj;have So:z.cells=ze'.toArray:=by apply Array.ext';simpa using Rt
      have fin:∀cs:List Value,cs.toArray=madeCells z.cells (c*inf.size)->Bw (.arr e cs) H nx (λH' Pv=>FS (.o (.s nx 0 m c)) H' Pv iv w)->
        ∃b v mk obj,FS v ((nx,b)::H) (nx+1) iv w/\b≠ .dead/\b.scopd nx/\v.sc (nx+1)/\(∀g,v.den (iy O nx ⟨g,0,false⟩)=mk g)/\(∀g F,F.heap[g]? =some obj->b.fits O ⟨g,0,false⟩ F)/\
         AL P ⟨dst,.makeSlice t x y,ty,pos,after,guard⟩ a mk obj:=by
       intro cs QX hK;refine⟨_,_,λg=>.slice (some ⟨g,0,none⟩) m c,.cells cs.toArray e,hK,ce,trivial,by simp[SV.sc,At.sc],λg=>by simp[SV.den,At.den],λg F V=>⟨rfl,V⟩,λw=>?_⟩;simp only[execOp,hv,hu]
       refine mm ?_;rw[show SV.den O (.o (.v (.int k1 m)))= .int k1 m from rfl,show SV.den O (.o (.v (.int k2 c)))= .int k2 c from rfl,Py w,QX]
      split at h3
      .rename_i z0;refine fin _ ?_ h3;have:inf.size=1:=by rw[QG,<-Sj];rfl
       rw[this,ah,So,FM]
      .refine fin _ ?_ h3;rw[QG,<-Sj,So,si]
     .exact I.elim
    .exact I.elim
   .exact I.elim
  .exact I.elim
end
inductive It where
 |x (i:Nat)
 |p (i:Nat)
def En:Env->Nat->(Env->Prop)->Prop
 |[],_,k=>k []
 |(t,v)::r,u,k=>match Nat.beq t u with
  |true=>En r u k
  |false=>En r u (λr'=>k ((t,v)::r'))
def aBF(d:Option Tmp)(l:Env)(k:Env->Prop):Prop:=match d with
 |some t=>En l t k
 |none=>k l
def zU:List Oper->Nat->(Oper->Prop)->Prop
 |[],_,_=>False
 |o::_,0,k=>k o
 |_::r,n+1,k=>zU r n k
def JW(P:Program)(τ:nO)(B:Nat)(all:List Oper):List It->Env->Hp->Nat->Iv->World->KT->Prop
 |[],l,H,nx,iv,w,FS=>FS l H nx iv w
 | .x i::r,l,H,nx,iv,w,FS=>zU all i (λo=>kO (!mg o) P τ B all o l H nx iv w (λl' H' Pv A J=>JW P τ B all r l' H' Pv A J FS))
 | .p i::r,l,H,nx,iv,w,FS=>zU all i (λo=>zV true P τ B o l H nx iv w (λ_ _ _ _ _=>aBF o.dst l (λl'=>JW P τ B all r l' H nx iv w FS)))
def JX(ops:Array Oper)(o:Oper)(j:Nat):Bool:=match ops[j]? with
 |some oj=>o.apart ops oj
 |none=>false
def Eo(la:Array Bool):List Nat->Array Bool
 |[]=>la
 |i::r=>Eo (la.setIfInBounds i true) r
def tb(m j:Nat):Bool:=Nat.beq ((m >>> j) % 2) 1
def jK:List Bool->Nat->Nat
 |[],_=>0
 |true::r,j=>(1 <<< j) ||| jK r (j+1)
 |false::r,j=>jK r (j+1)
def Bs(m i:Nat):List Oper->Nat->Nat->Nat
 |[],_,b=>b
 |o::r,j,b=>match(!tb m j&& !Nat.beq j i)&&o.after.toList.any (λe=>Region.binds .any e&&(Nat.beq e.on i||tb b e.on))with
  |true=>Bs m i r (j+1) (b ||| (1 <<< j))
  |false=>Bs m i r (j+1) b
def IT(ops:Array Oper)(m i:Nat)(oi:Oper)(b:Nat):List Oper->Nat->Bool
 |[],_=>true
 |oj::r,j=>(Nat.beq j i||tb m j||tb b j||(oi.apart ops oj&&(JY oi.op|| !tw oj)))&&IT ops m i oi b r (j+1)
def OY(ops:Array Oper)(m:Nat)(Pd:List Nat)(i:Nat)(oi:Oper)(b:Nat):Bool:=Pd.all (λj=> !tb b j)&&IT ops m i oi b ops.toList 0
def IU(ops:Array Oper)(m:Nat)(Pd:List Nat)(i:Nat)(oi:Oper):Bool:=OY ops m Pd i oi (Bs m i ops.toList 0 0)
def qw(ops:Array Oper):List It->Array Bool->List Nat->Bool
 |[],lx,Pd=>(Region.ready .any ops lx).isEmpty&&Pd.isEmpty
 | .p i::r,lx,Pd=>match ops[i]? with
  |none=>false
  |some o=>El o.op&&o.guard.isNone&&(match o.dst with
     |some d=> !(o.looksAt ops).contains d
     |none=>false)&&(!lx.getD i true)&&Pd.all (λj=> !Nat.beq j i)&&
    Pd.all (λj=>JX ops o j&&(match ops[j]? with
     |some oj=>oj.apart ops o
     |none=>false))&&qw ops r lx (i::Pd)
 | .x i::r,lx,Pd=>match ops[i]? with
  |none=>false
  |some o=>(o.guard.isNone||Pd.isEmpty)&&(Region.ready .any ops lx).contains i&&
    Pd.all (λj=>Nat.beq j i||JX ops o j)&&
    (match qq o.op with
     |true=>IU ops (jK lx.toList 0) Pd i o
     |false=>(!tw o||Pd.isEmpty)&&(Region.ready .any ops (Eo lx (Pd.filter λj=> !Nat.beq j i))).all (λj=>Nat.beq j i))&&
    qw ops r (lx.setIfInBounds i true) (Pd.filter λj=> !Nat.beq j i)
def oX(h:j<la.size)(b c:Bool):la.getD j b=la.getD j c:=by
 rw[bJ,bJ,Array.getElem?_eq_getElem h];rfl
def oY{a b:Nat}:Nat.beq a b=false↔a≠b:=⟨λh e=>(by subst e;rw[Nat.beq_refl]at h;cases h),λh=>by
 cases N:Nat.beq a b with
 |false=>rfl
 |true=>exact absurd (ed N) h⟩
def LH{a b:Nat}(h:b<a):Nat.ble a b=false:=by
 cases N:Nat.ble a b with
 |false=>rfl
 |true=>exact absurd (Nat.le_of_ble_eq_true N) be
def tx(m j:Nat):tb m j=m.testBit j:=by
 rw[Nat.testBit_eq_decide_div_mod_eq,tb,Nat.shiftRight_eq_div_pow]
 cases h:decide (m / 2^j % 2=1)with
 |true=>rw[aK h];rfl
 |false=>exact oY.2 (aL h)
def Ep(a b j:Nat):tb (a ||| b) j=(tb a j||tb b j):=by rw[tx,tx,tx,Nat.testBit_or]
def HF(i j:Nat):tb (1 <<< i) j=Nat.beq j i:=by
 rw[tx,Nat.one_shiftLeft,Nat.testBit_two_pow]
 cases h:Nat.beq j i with
 |true=>exact bY (ed h).symm
 |false=>exact bD λe=>(oY.1 h) e.symm
def uu(j:Nat):tb 0 j=false:=by rw[tx,Nat.zero_testBit]
def Er:∀(l:List Bool) (k j:Nat),tb (jK l k) j=(Nat.ble k j&&l.getD (j-k) false)
 |[],k,j=>by unfold jK;rw[uu];simp
 |b::r,k,j=>by
  have e:tb (jK (b::r) k) j=((b&&Nat.beq j k)||tb (jK r (k+1)) j):=by
   cases b<;>simp only[jK,Ep,HF,Bool.false_and,Bool.true_and,Bool.false_or]
  rw[e,Er r (k+1) j];rcases cO j k with h|h|h
  .rw[oY.2 be,Bool.and_false,Bool.false_or,LH be,LH be];rfl
  .subst h;rw[Nat.beq_refl,LH be,Nat.ble_eq_true_of_le (ae j),bV];simp
  .rw[oY.2 be,Bool.and_false,Bool.false_or,Nat.ble_eq_true_of_le (show k+1<=j from h),Nat.ble_eq_true_of_le (Nat.le_of_lt h),show j-k=(j-(k+1))+1 by omega,List.getD_cons_succ]
def Rm(lx:Array Bool)(m:Nat):Prop:=∀j,tb m j=lx.getD j false
def yu(lx:Array Bool):Rm lx (jK lx.toList 0):=λj=>by
 rw[Er,show Nat.ble 0 j=true from Nat.ble_eq_true_of_le (aZ j),Bool.true_and,Nat.sub_zero,bJ,List.getD,bT]
def Rm.eq{m':Nat}(h:Rm lx m)(h':Rm lx m'):m=m':=Nat.eq_of_testBit_eq λj=>by rw[<-tx,<-tx,h,h']
def oZ{ops:Array Oper}{m i:Nat}:∀(l:List Oper) (k b:Nat),(∀n o,l[n]? =some o->ops[k+n]? =some o)->
  (∀j,tb b j=true->tb m j=false/\j≠i/\∃oj e,ops[j]? =some oj/\e∈oj.after/\Region.binds .any e=true/\(e.on=i\/∃b2,tb b2 e.on=true/\b2=b))->
  ∀j,tb (Bs m i l k b) j=true->tb m j=false/\j≠i/\∃oj e,ops[j]? =some oj/\e∈oj.after/\Region.binds .any e=true/\(e.on=i\/tb (Bs m i l k b) e.on=true)
 |[],k,b,_,h,j,hj=>by
  obtain⟨Y,I,oj,e,h3,h4,h5,h6⟩:=h j hj;exact⟨Y,I,oj,e,h3,h4,h5,h6.imp id λ⟨_,h7,h8⟩=>h8▸h7⟩
 |o::r,k,b,hl,h,j,hj=>by
  have hr:∀n o',r[n]? =some o'->ops[k+1+n]? =some o':=λn o' E=>by
   have:=hl (n+1) o' (by simpa using E)
   rwa [show k+(n+1)=k+1+n by omega]at this
  unfold Bs at hj ⊢
  cases hc:((!tb m k&& !Nat.beq k i)&&o.after.toList.any (λe=>Region.binds .any e&&(Nat.beq e.on i||tb b e.on)))with
  |false=>
   rw[hc]at hj;exact oZ r (k+1) b hr h j hj
  |true=>
   rw[hc]at hj;refine oZ r (k+1) (b ||| (1 <<< k)) hr (λj hj=>?_) j hj;rw[Ep,HF,Bool.or_eq_true]at hj;rcases hj with hj|hj
   .obtain⟨Y,I,oj,e,h3,h4,h5,h6⟩:=h j hj;refine⟨Y,I,oj,e,h3,h4,h5,h6.imp id λ⟨b2,h7,h8⟩=>⟨_,?_,rfl⟩⟩;rw[Ep,<-h8,h7];rfl
   .have hj:=ed hj;subst hj;simp only[bM,Bool.not_eq_true',List.any_eq_true]at hc;obtain⟨⟨Y,I⟩,e,L,h3,h4⟩:=hc;refine⟨Y,oY.1 I,o,e,by have:=hl 0 o ce;simpa using this,by simpa using L,h3,?_⟩;rw[Bool.or_eq_true]at h4;exact h4.imp ed λh5=>⟨_,by rw[Ep,h5];rfl,rfl⟩
def zW{ops:Array Oper}{m i:Nat}{oi:Oper}{b:Nat}:∀(l:List Oper) (k:Nat),IT ops m i oi b l k=true->∀n oj,l[n]? =some oj->k+n≠i->tb m (k+n)=false->tb b (k+n)=false->oi.apart ops oj=true/\(JY oi.op=true\/tw oj=false)
 |[],_,_,n,oj,E,_,_,_=>by simp at E
 |o::r,k,h,n,oj,E,Y,I,h3=>by
  unfold IT at h;rw[bM]at h
  cases n with
  |zero=>
   rw[List.getElem?_cons_zero]at E;injection E with E;subst E;rw[cM]at Y I h3;rw[oY.2 Y,I,h3]at h;simpa using h.1
  |succ n=>
   rw[List.getElem?_cons_succ]at E;rw[show k+(n+1)=k+1+n by omega]at Y I h3;exact zW r (k+1) h.2 n oj E Y I h3
def HG{ops:Array Oper}{i:Nat}{oi:Oper}(h:IU ops (jK lx.toList 0) Pd i oi=true)(hs:lx.size=ops.size):∃lH:Nat->Prop,
  (∀j,lH j->∃oj e,ops[j]? =some oj/\e∈oj.after/\Region.binds .any e=true/\(e.on=i\/lH e.on))/\(∀j,lH j->lx.getD j false=false)/\(∀j∈Pd,¬lH j)/\
  ∀j oj,ops[j]? =some oj->j≠i->lx.getD j true=false->¬lH j->oi.apart ops oj=true/\(JY oi.op=true\/tw oj=false):=by
 unfold IU OY at h;rw[bM]at h;have hm:=yu lx;have N:=oZ (ops:=ops) (m:=jK lx.toList 0) (i:=i) ops.toList 0 0 (λn o E=>by rw[aV];rwa [bT]at E) (λj hj=>by rw[uu]at hj;cases hj);generalize Bs (jK lx.toList 0) i ops.toList 0 0=b at*
 refine⟨λj=>tb b j=true,λj hj=>(N j hj).2.2,λj hj=>(hm j).symm.trans (N j hj).1,λj hj K=>?_,λj oj Su Qd hl K=>?_⟩
 .have:=List.all_eq_true.1 h.1 j hj;rw[K]at this;cases this
 .have hj:=(bG.1 Su).1;exact zW ops.toList 0 h.2 j oj (by rw[bT];exact Su) be (by rw[aV,hm,oX be false true];exact hl) (by rw[aV];simpa using K)
def Es(m:Nat):List Oper->Nat->List Nat
 |[],_=>[]
 |o::r,j=>match !tb m j&&o.after.toList.all (λe=> !Region.binds .any e||tb m e.on)with
  |true=>j::Es m r (j+1)
  |false=>Es m r (j+1)
def sm(n m i:Nat):Nat:=match Nat.blt i n with
 |true=>m ||| (1 <<< i)
 |false=>m
def lsm(n:Nat)(m:Nat):List Nat->Nat
 |[]=>m
 |i::r=>lsm n (sm n m i) r
def Et(ops:Array Oper)(n:Nat):List It->Nat->List Nat->Bool
 |[],m,Pd=>(Es m ops.toList 0).isEmpty&&Pd.isEmpty
 | .p i::r,m,Pd=>match ops[i]? with
  |none=>false
  |some o=>El o.op&&o.guard.isNone&&(match o.dst with
     |some d=> !(o.looksAt ops).contains d
     |none=>false)&&(Nat.blt i n&& !tb m i)&&Pd.all (λj=> !Nat.beq j i)&&
    Pd.all (λj=>JX ops o j&&(match ops[j]? with
     |some oj=>oj.apart ops o
     |none=>false))&&Et ops n r m (i::Pd)
 | .x i::r,m,Pd=>match ops[i]? with
  |none=>false
  |some o=>(o.guard.isNone||Pd.isEmpty)&&(Es m ops.toList 0).contains i&&
    Pd.all (λj=>Nat.beq j i||JX ops o j)&&
    (match qq o.op with
     |true=>IU ops m Pd i o
     |false=>(!tw o||Pd.isEmpty)&&(Es (lsm n m (Pd.filter λj=> !Nat.beq j i)) ops.toList 0).all (λj=>Nat.beq j i))&&
    Et ops n r (sm n m i) (Pd.filter λj=> !Nat.beq j i)
def IV{ops:Array Oper}{lx:Array Bool}{m:Nat}(hR:Rm lx m)(hs:lx.size=ops.size):∀(l:List Oper) (k:Nat),(∀n,n<l.length->ops[k+n]? =l[n]?)->k+l.length<=ops.size->
  Es m l k=(List.range' k l.length).filter λi=> !lx.getD i true&&((ops[i]?).map (·.after.all λe=> !Region.binds .any e||lx.getD e.on false)).getD false
 |[],_,_,_=>rfl
 |o::r,k,h,K=>by
  rw[bh]at K
  have ih:=IV hR hs r (k+1) (λn E=>by
   have:=h (n+1) (by simpa using E)
   rw[show k+1+n=k+(n+1) by omega,this,List.getElem?_cons_succ]) be
  have h0:ops[k]? =some o:=by have:=h 0 ce;simpa using this
  rw[bh,List.range'_succ,List.filter_cons,<-ih];have e:(!lx.getD k true&&((ops[k]?).map (·.after.all λe=> !Region.binds .any e||lx.getD e.on false)).getD false)=(!tb m k&&o.after.toList.all λe=> !Region.binds .any e||tb m e.on):=by
   rw[h0,hR k,oX be true false,bN,Option.getD_some,Array.all_toList];simp only[hR _]
  rw[e,Es]
  cases (!tb m k&&o.after.toList.all λe=> !Region.binds .any e||tb m e.on)<;>rfl
def HH{ops:Array Oper}(hR:Rm lx m)(hs:lx.size=ops.size):Es m ops.toList 0=Region.ready .any ops lx:=by
 rw[IV hR hs ops.toList 0 (λn _=>by rw[aV,bT]) ce];unfold Region.ready;rw[List.range_eq_range',Array.length_toList]
def Rm.set(hR:Rm lx m)(i:Nat):Rm (lx.setIfInBounds i true) (sm lx.size m i):=λj=>by
 unfold sm;rw[bJ,Array.getElem?_setIfInBounds]
 cases h:Nat.blt i lx.size with
 |true=>
  have h:=Nat.le_of_ble_eq_true h;show tb (m ||| (1 <<< i)) j=_;rw[Ep,HF];by_cases RQ:i=j
  .rw[aM RQ,aM be,RQ,Nat.beq_refl,Bool.or_true];rfl
  .rw[aJ RQ,oY.2 (Ne.symm RQ),Bool.or_false,hR,bJ]
 |false=>
  show tb m j=_;have h:¬i<lx.size:=λI=>by rw[show Nat.blt i lx.size=true from Nat.ble_eq_true_of_le I]at h;cases h
  by_cases RQ:i=j
  .rw[aM RQ,aJ h,hR,bJ,<-RQ,Array.getElem?_eq_none be]
  .rw[aJ RQ,hR,bJ]
def LI:∀(r:List Nat) (lx:Array Bool),(Eo lx r).size=lx.size
 |[],_=>rfl
 |i::r,lx=>by unfold Eo;rw[LI r,bw]
def Rm.Eo{n:Nat}:∀(r:List Nat) (lx:Array Bool) (m:Nat),lx.size=n->Rm lx m->Rm (Eo lx r) (lsm n m r)
 |[],_,_,_,h=>h
 |i::r,lx,m,E,h=>by
  unfold Go.Sx.Eo lsm;exact Rm.Eo r _ _ (by rw[bw];exact E) (E▸h.set i)
def Da{ops:Array Oper}:∀(π:List It) (lx:Array Bool) (m:Nat) (Pd:List Nat),lx.size=ops.size->Rm lx m->Et ops ops.size π m Pd=qw ops π lx Pd
 |[],lx,m,Pd,hs,h=>by unfold Et qw;rw[HH h hs]
 | .p i::r,lx,m,Pd,hs,h=>by
  unfold Et qw
  cases ho:ops[i]? with
  |none=>rfl
  |some o=>
   have R:=(bG.1 ho).1;simp only[Da r lx m (i::Pd) hs h,h i,oX (show i<lx.size by omega) true false,show Nat.blt i ops.size=true from Nat.ble_eq_true_of_le R,Bool.true_and]
 | .x i::r,lx,m,Pd,hs,h=>by
  unfold Et qw
  cases ho:ops[i]? with
  |none=>rfl
  |some o=>
   obtain rfl:=h.eq (yu lx);have Y:=Da r (lx.setIfInBounds i true) (sm ops.size (jK lx.toList 0) i) (Pd.filter λj=> !Nat.beq j i) (by rw[bw];exact hs) (hs▸h.set i);have I:=HH (Rm.Eo (n:=ops.size) (Pd.filter λj=> !Nat.beq j i) lx (jK lx.toList 0) hs h) (by rw[LI];exact hs);simp only[Y,I,HH h hs]
def ew{ops:Array Oper}:j∈Region.ready .any ops la↔
  la[j]? =some false/\∃o,ops[j]? =some o/\∀e∈o.after,Region.binds .any e=true->la[e.on]? =some true:=by
 rw[mem_ready];have Y:la.getD j true=false↔la[j]? =some false:=by
  rw[bJ]
  cases la[j]? with
  |none=>simp
  |some b=>simp
 have I:∀k,la.getD k false=true↔la[k]? =some true:=λk=>by
  rw[bJ]
  cases la[k]? with
  |none=>simp
  |some b=>simp
 simp only[Y,I]
def qz{i:Nat}:(la.setIfInBounds i true)[j]? =some true↔la[j]? =some true\/(j=i/\j<la.size):=by
 rw[Array.getElem?_setIfInBounds];split
 .rename_i h;subst h;by_cases hs:i<la.size
  .simp[hs]
  .simp[hs]
 .rename_i h;simp[Ne.symm h]
def Eu:∀(Pd:List Nat) (la:Array Bool),(Eo la Pd).size=la.size
 |[],_=>rfl
 |i::r,la=>by simp[Eo,Eu r]
def zX:∀(Pd:List Nat) (la:Array Bool) (j:Nat),(Eo la Pd)[j]? =some true↔la[j]? =some true\/(j∈Pd/\j<la.size)
 |[],_,_=>by simp[Eo]
 |i::r,la,j=>by
  rw[Eo,zX r,qz];simp only[bw,List.mem_cons]
  constructor
  .rintro((h|⟨h,hs⟩)|⟨h,hs⟩)
   .exact .inl h
   .exact .inr ⟨.inl h,hs⟩
   .exact .inr ⟨.inr h,hs⟩
  .rintro(h|⟨h|h,hs⟩)
   .exact .inl (.inl h)
   .exact .inl (.inr ⟨h,hs⟩)
   .exact .inr ⟨h,hs⟩
def Oz(la:Array Bool):Nat:=la.toList.countP (λb=> !b)
def mO{i:Nat}(h:la[i]? =some false):Oz (la.setIfInBounds i true)+1=Oz la:=by
 obtain⟨R,L⟩:=bG.1 h;have R4:i<la.toList.length:=by simpa using R
 have QV:0<la.toList.countP (λb=> !b):=List.countP_pos_iff.2 ⟨false,by
  have:la[i]∈la:=Array.getElem_mem R;rw[L]at this
  simpa using this,rfl⟩
 unfold Oz;rw[Array.toList_setIfInBounds,List.countP_set R4];simp only[Array.getElem_toList,L]
 simp only[Bool.not_false,if_true,Bool.not_true,Bool.false_eq_true,if_false,cM]
 exact Nat.sub_add_cancel QV
def tz:∀{l:Env} {u:Nat} {k:Env->Prop},En l u k->∃l',k l'/\fj l' u=none/\∀t v,fj l' t=some v->t≠u/\fj l t=some v
 |[],u,k,h=>⟨[],h,rfl,λt v h=>by cases h⟩
 |(t0,v0)::r,u,k,h=>by
  unfold En at h;split at h
  .rename_i N;have N:=ed N;obtain⟨l',Y,I,h3⟩:=tz h;refine⟨l',Y,I,λt v hv=>⟨(h3 t v hv).1,?_⟩⟩;rw[ep,aJ (λe=>(h3 t v hv).1 (e.symm.trans N))];exact(h3 t v hv).2
  .rename_i N;have Po:t0≠u:=λe=>by subst e;rw[Nat.beq_refl]at N;cases N
   obtain⟨l',Y,I,h3⟩:=tz h;refine⟨_,Y,?_,λt v hv=>?_⟩
   .rw[ep,aJ Po];exact I
   .rw[ep]at hv ⊢;split at hv
    .rename_i e;subst e;exact⟨Po,by simpa using hv⟩
    .rename_i e;rw[aJ e];exact h3 t v hv
def ix:∀{all:List Oper} {i:Nat} {k:Oper->Prop},zU all i k->∃o,all[i]? =some o/\k o
 |[],_,_,h=>h.elim
 |o::_,0,_,h=>⟨o,rfl,h⟩
 |_::r,n+1,_,h=>by obtain⟨o,Y,I⟩:=ix (all:=r) h;exact⟨o,by simpa using Y,I⟩
section
variable{P:Program}{τ:nO}{ops:Array Oper}{B n nx:Nat}{l:Env}{H:Hp}{iv:Iv}{w J:World}{O:Nat->eD}{a:Act}
structure NM(P:Program)(ops:Array Oper)(n B:Nat)(Pd:List Nat)(EQ:List (Nat×Nat))(lx la:Array Bool)(l:Env)(H:Hp)(nx:Nat)(iv:Iv)(w:World)(O:Nat->eD)(a:Act)(J:World):Prop where
 sat:Sat n l H nx iv B w O a J
 NN:lx.size=ops.size
 NQ:la.size=ops.size
 la:∀j,la[j]? =some true↔lx[j]? =some true\/∃g,(j,g)∈EQ
 JZ:∀j g,(j,g)∈EQ->j∈Pd
 pd:∀j∈Pd,lx[j]? =some false/\∃o d mk obj,ops[j]? =some o/\El o.op=true/\o.guard=none/\(o.dst=some d/\d∉o.looksAt ops)/\AL P o a mk obj/\fj l d=none/\
  ∀g,(j,g)∈EQ->a.tmps[d]? =some (mk g)/\J.heap[g]? =some obj
 eg:∀j g,(j,g)∈EQ->B<=g/\(∀id b,dT H id=some b->(O id).nil=false->(O id).g≠g)/\∀lo R,(lo,R)∈iv->¬(lo<=g/\g<R)
 inj:∀j g j',(j,g)∈EQ->(j',g)∈EQ->j=j'
 ap:∀j∈Pd,∀j'∈Pd,j≠j'->∀o o',ops[j]? =some o->ops[j']? =some o'->o.apart ops o'=true
def LJ{l:Env}{u:Nat}(h:∀t v,fj l' t=some v->t≠u/\fj l t=some v){d:Nat}(hd:fj l d=none):fj l' d=none:=by
 cases V:fj l' d with
 |none=>rfl
 |some v=>have:=(h d v V).2;rw[hd]at this;cases this
def Oper.Ca{o oj:Oper}(ha:o.apart ops oj=true)(hs:∀cs b,oj.op≠ .select cs b)(h:AL P oj a mk obj):AL P oj (a.put o.dst u) mk obj:=by
 intro w;rw[execOp_put (ops:=ops) oj hs a o.dst u (Go.Oper.apart_spec ha).1];exact h w
def se(Po:d≠some t)(h:a.tmps[t]? =some v):(a.put d u).tmps[t]? =some v:=by
 cases d with
 |none=>exact h
 |some d=>
  have:d≠t:=λe=>Po (by rw[e]);simpa [Act.put,Array.getElem?_setIfInBounds_ne this]using h
def kv{w:World}(h:w.heap[g]? =some obj):g<w.heap.size:=(bG.1 h).1
def Ext.alloc(w:World)(obj:Obj):Ext w (w.alloc obj):=
 ⟨rfl,rfl,rfl,ce,λk K=>heap_alloc_old _ _ K⟩
variable{Pd:List Nat}{EQ:List (Nat×Nat)}{lx la:Array Bool}
def NM.step(s:NM P ops n B Pd EQ lx la l H nx iv w O a J)(Q6:∀(j:Nat) (o:Oper) cs b,ops[j]? =some o->o.op≠ .select cs b){i:Nat}{o:Oper}(_hi:ops[i]? =some o)(Yh:∀g,(i,g)∉EQ)
  (Sh:∀j∈Pd,j≠i->∀oj,ops[j]? =some oj->o.apart ops oj=true)
  (sat':Sat n l' H' Pv A B F F' (a.put o.dst u) w3)
  (hl:∀j∈Pd,j≠i->∀d,fj l d=none->o.dst≠some d->fj l' d=none) (Ua:∀j∈Pd,j≠i->Ext J w3)
  (heg:∀g,g<J.heap.size->(∀id b,dT H id=some b->(O id).nil=false->(O id).g≠g)->(∀lo R,(lo,R)∈iv->¬(lo<=g/\g<R))->(∃j∈Pd,j≠i)->
   (∀id b,dT H' id=some b->(F' id).nil=false->(F' id).g≠g)/\(∀lo R,(lo,R)∈A->¬(lo<=g/\g<R))):
  NM P ops n B (Pd.filter λj=> !Nat.beq j i) EQ (lx.setIfInBounds i true) (la.setIfInBounds i true) l' H' Pv A F F' (a.put o.dst u) w3:=by
 have memf:∀j,j∈(Pd.filter λj=> !Nat.beq j i)↔j∈Pd/\j≠i:=λj=>by
  simp only[List.mem_filter,Bool.not_eq_true',oY]
 have hEi:∀j g,(j,g)∈EQ->j≠i:=λj g h e=>Yh g (e▸h);refine⟨sat',by simp[s.NN],by simp[s.NQ],λj=>?_,λj g h=>(memf j).2 ⟨s.JZ j g h,hEi j g h⟩,λj hj=>?_,λj g h=>?_,s.inj,λj hj j' Yi=>s.ap j ((memf j).1 hj).1 j' ((memf j').1 Yi).1⟩
 .rw[qz,qz,s.la,s.NQ,s.NN];constructor
  .rintro((h|h)|h)
   .exact .inl (.inl h)
   .exact .inr h
   .exact .inl (.inr h)
  .rintro((h|h)|h)
   .exact .inl (.inl h)
   .exact .inr h
   .exact .inl (.inr h)
 .obtain⟨hj,Qd⟩:=(memf j).1 hj;obtain⟨h0,oj,d,mk,obj,Y,I,h3,⟨h4,TH⟩,h5,h6,h7⟩:=s.pd j hj;have hapj:=Sh j hj Qd oj Y;have Po:o.dst≠some d:=λe=>(Go.Oper.apart_spec hapj).2.1 d e h4;refine⟨?_,oj,d,mk,obj,Y,I,h3,⟨h4,TH⟩,Oper.Ca hapj (λcs b=>Q6 j oj cs b Y) h5,hl j hj Qd d h6 Po,λg V=>⟨se Po (h7 g V).1,?_⟩⟩
  .rw[Array.getElem?_setIfInBounds_ne (Ne.symm Qd)];exact h0
  .rw[(Ua j hj Qd).block g (kv (h7 g V).2)];exact(h7 g V).2
 .have hj:=s.JZ j g h;obtain⟨h0,oj,d,mk,obj,Y,I,h3,⟨h4,TH⟩,h5,h6,h7⟩:=s.pd j hj;obtain⟨e1,e2,e3⟩:=s.eg j g h;exact⟨e1,heg g (kv (h7 g h).2) e2 e3 ⟨j,hj,hEi j g h⟩⟩
def NM.early(s:NM P ops n B Pd EQ lx la l H nx iv w O a J)(QK:∀(j:Nat) o,ops[j]? =some o->∀d,o.dst=some d->d<n)
  (Q6:∀(j:Nat) (o:Oper) cs b,ops[j]? =some o->o.op≠ .select cs b) (hj:j∈Pd) (XM:la[j]? =some false) {FS:Act->World->Prop}
  (h:∀E' a2 F,Ext J F->NM P ops n B Pd E' lx (la.setIfInBounds j true) l H nx iv w O a2 F->FS a2 F):wpOp P ops Q j FS a J:=by
 obtain⟨h0,o,d,mk,obj,Y,I,h3,⟨h4,TH⟩,h5,h6,h7⟩:=s.pd j hj;have W:Region.wanted o (yielded ops a.tmps)=true:=by simp[Region.wanted,h3]
 unfold wpOp;simp only[Y,W,if_true]
 refine .inl ?_;unfold Oper.wp;rw[h5 J];simp only[Oper.upon]
 have hd:=QK j o Y d h4;have hnE:∀g,(j,g)∉EQ:=λg V=>by
  have:=(s.la j).2 (.inr ⟨g,V⟩);rw[XM]at this;cases this
 refine h ((j,J.heap.size)::EQ) _ _ (Ext.alloc _ _) ⟨?_,s.NN,by simp[s.NQ],λk=>?_,λk g K=>?_,λk K=>?_,λk g K=>?_,λk g k' K Ub=>?_,s.ap⟩
 .refine⟨s.sat.rel.ext (Ext.alloc _ _),?_,?_,λt v hv=>?_,s.sat.sc⟩
  .rw[h4];simp[Act.put,s.sat.size]
  .rw[h4];exact s.sat.defers
  .refine se (λe=>?_) (s.sat.env t v hv);rw[h4]at e;injection e with e;subst e;rw[h6]at hv;cases hv
 .rw[qz,s.la];have QU:j<la.size:=(bG.1 XM).1;constructor
  .rintro((h|⟨g,h⟩)|⟨rfl,_⟩)
   .exact .inl h
   .exact .inr ⟨g,by simp[h]⟩
   .exact .inr ⟨_,aF ..⟩
  .rintro(h|⟨g,h⟩)
   .exact .inl (.inl h)
   .rcases List.mem_cons.1 h with h|h
    .injection h with e1 e2;exact .inr ⟨e1,by rw[e1];exact QU⟩
    .exact .inl (.inr ⟨g,h⟩)
 .rcases List.mem_cons.1 K with K|K
  .injection K with e1 e2;rw[e1];exact hj
  .exact s.JZ k g K
 .obtain⟨g0,ok,dk,mkk,objk,g1,g2,g3,⟨g4,gself⟩,g5,g6,g7⟩:=s.pd k K;by_cases Ve:k=j
  .subst Ve;rw[Y]at g1;injection g1 with g1;subst g1;rw[h4]at g4;injection g4 with g4;subst g4;refine⟨g0,o,d,mk,obj,Y,I,h3,⟨h4,TH⟩,?_,h6,λg V=>?_⟩
   .intro ww;rw[execOp_put (ops:=ops) o (λcs b=>Q6 k o cs b Y) a o.dst _ (λd' ZS=>by rw[h4]at ZS;injection ZS with ZS;subst ZS;exact TH)];exact h5 ww
   .rcases List.mem_cons.1 V with V|V
    .injection V with e1 e2;subst e2;refine⟨?_,heap_alloc_new _ _⟩;rw[h4];simp[Act.put,s.sat.size,hd]
    .exact absurd V (hnE g)
  .have Sh:=s.ap j hj k K (Ne.symm Ve) o ok Y g1;have Po:o.dst≠some dk:=λe=>(Go.Oper.apart_spec Sh).2.1 dk e g4;refine⟨g0,ok,dk,mkk,objk,g1,g2,g3,⟨g4,gself⟩,Oper.Ca Sh (λcs b=>Q6 k ok cs b g1) g5,g6,λg V=>?_⟩;rcases List.mem_cons.1 V with V|V
   .injection V with e1 e2;exact absurd e1 Ve
   .refine⟨se Po (g7 g V).1,?_⟩;rw[heap_alloc_old _ _ (kv (g7 g V).2)];exact(g7 g V).2
 .rcases List.mem_cons.1 K with K|K
  .injection K with e1 e2;subst e2;refine⟨aR s.sat.rel.base s.sat.rel.size,λid b N E L=>?_,λlo R hm hc=>?_⟩
   .have:=(s.sat.rel.low id b N E).2;omega
   .have:=s.sat.rel.oB lo R hm;have:=s.sat.rel.size;omega
  .exact s.eg k g K
 .have old:∀k' g',(k',g')∈EQ->g'<J.heap.size:=λk' g' h=>by
   obtain⟨_,_,_,_,_,_,_,_,_,_,_,h7⟩:=s.pd k' (s.JZ k' g' h);exact kv (h7 g' h).2
  rcases List.mem_cons.1 K with K|K<;>rcases List.mem_cons.1 Ub with Ub|Ub
  .injection K with e1 e2;injection Ub with e3 e4;rw[e1,e3]
  .injection K with e1 e2;have:=old _ _ Ub;omega
  .injection Ub with e1 e2;have:=old _ _ K;omega
  .exact s.inj k g k' K Ub
def NM.aAW(s:NM P ops n B Pd EQ lx la l H nx iv w O a J){i:Nat}{o:Oper}(R:ops[i]? =some o)(V:(i,g)∈EQ){b:jX}{v:SV}
  (N:b.scopd nx) (hv:v.sc (nx+1)) (Yj:∀g,v.den (iy O nx ⟨g,0,false⟩)=mk g) (RU:∀g F,F.heap[g]? =some obj->b.fits O ⟨g,0,false⟩ F) (UK:AL P o a mk obj)
  {FS:Env->Prop} (hK:Ev o.dst v l FS) (_hok:∀d,o.dst=some d->d<n) (Sh:∀j∈Pd,j≠i->∀oj,ops[j]? =some oj->o.apart ops oj=true):
  ∃l',FS l'/\NM P ops n B (Pd.filter λj=> !Nat.beq j i) (EQ.filter λe=> !Nat.beq e.1 i) (lx.setIfInBounds i true) la l' ((nx,b)::H) (nx+1) iv w (iy O nx ⟨g,0,false⟩) a J:=by
 obtain⟨h0,o',d,mk',obj',Y,I,h3,⟨h4,TH⟩,h5,h6,h7⟩:=s.pd i (s.JZ i g V);rw[R]at Y;injection Y with Y;subst Y;obtain⟨rfl,rfl⟩:=UK.uniq h5;obtain⟨ht,hh⟩:=h7 g V;obtain⟨e1,e2,e3⟩:=s.eg i g V;have memf:∀j,j∈(Pd.filter λj=> !Nat.beq j i)↔j∈Pd/\j≠i:=λj=>by
  simp only[List.mem_filter,Bool.not_eq_true',oY]
 have memE:∀j k,(j,k)∈(EQ.filter λe=> !Nat.beq e.1 i)↔(j,k)∈EQ/\j≠i:=λj k=>by
  simp only[List.mem_filter,Bool.not_eq_true',oY]
 have Ro:∀id b,dT H id=some b->iy O nx ⟨g,0,false⟩ id=O id:=λid b h=>(iU id (s.sat.rel.keys id b h)).symm;have r:=s.sat.rel;have Qs:Rel ((nx,b)::H) (nx+1) iv B w (iy O nx ⟨g,0,false⟩) J:=by
  refine Rel.mk' r.os r.tape r.output r.size r.base r.oB ?_ ?_ ?_ ?_ ?_ ?_ ?_
  .intro id b' h;rw[db]at h;split at h
   .omega
   .have:=r.keys id b' h;omega
  .intro id b' h;rw[db]at h;split at h
   .rename_i e;subst e;injection h with h;subst h;rw[fX];exact jX.iJ (RU g J hh) (λid RR=>iU id RR) N (λ_ _=>rfl)
   .rw[Ro id b' h];exact jX.iJ (r.fits h) (λid RR=>iU id RR) (r.scopd h) (λ_ _=>rfl)
  .intro id b' h;rw[db]at h;split at h
   .injection h with h;subst h;exact jX.jx (Nat.le_succ _) N
   .exact jX.jx (Nat.le_succ _) (r.scopd h)
  .intro id id' c c' h h' hd ZS E hn' L;rw[db]at h h';split at h<;>split at h'
   .rename_i x y;rw[<-x,<-y]
   .rename_i x y;subst x;rw[fX,Ro _ _ h']at L;rw[Ro _ _ h']at hn';exact absurd L.symm (e2 _ _ h' hn')
   .rename_i x y;subst y;rw[fX,Ro _ _ h]at L;rw[Ro _ _ h]at E;exact absurd L (e2 _ _ h E)
   .rw[Ro _ _ h,Ro _ _ h']at L;rw[Ro _ _ h]at E;rw[Ro _ _ h']at hn';exact r.inj id id' c c' h h' hd ZS E hn' L
  .intro id c h E;rw[db]at h;split at h
   .rename_i e;subst e;rw[fX];exact⟨e1,kv hh⟩
   .rw[Ro _ _ h]at E ⊢;exact r.low id c h E
  .intro k K Po;refine r.D9 k K λid c h E=>?_;have QU:=r.keys id c h;have:=Po id c (by rw[db,aJ be];exact h) (by rw[Ro _ _ h];exact E)
   rwa [Ro _ _ h]at this
  .intro lo R hm id c h E;rw[db]at h;split at h
   .rename_i e;subst e;rw[fX];exact e3 lo R hm
   .rw[Ro _ _ h]at E ⊢;exact r.jJ lo R hm id c h E
 have sat1:Sat n l ((nx,b)::H) (nx+1) iv B w (iy O nx ⟨g,0,false⟩) a J:=s.sat.next Qs (Nat.le_succ _) (λid RR=>iU id RR)
 rw[h4]at hK;refine⟨_,hK,?_⟩;have sat2:Sat n ((d,v)::l) ((nx,b)::H) (nx+1) iv B w (iy O nx ⟨g,0,false⟩) a J:=by
  refine⟨sat1.rel,sat1.size,sat1.defers,λt u hu=>?_,λt u hu=>?_⟩
  .rw[ep]at hu;split at hu
   .rename_i e;subst e;injection hu with hu;subst hu;rw[Yj];exact ht
   .exact sat1.env t u hu
  .rw[ep]at hu;split at hu
   .injection hu with hu;subst hu;exact hv
   .exact sat1.sc t u hu
 have UL:i<lx.size:=(bG.1 h0).1;refine⟨sat2,by simp[s.NN],s.NQ,λj=>?_,λj k h=>?_,λj hj=>?_,λj k h=>?_,λj k j' h h'=>s.inj j k j' ((memE j k).1 h).1 ((memE j' k).1 h').1,λj hj j' Yi=>s.ap j ((memf j).1 hj).1 j' ((memf j').1 Yi).1⟩
 .rw[s.la,qz];constructor
  .rintro(h|⟨k,h⟩)
   .exact .inl (.inl h)
   .by_cases Qd:j=i
    .exact .inl (.inr ⟨Qd,Qd▸UL⟩)
    .exact .inr ⟨k,(memE j k).2 ⟨h,Qd⟩⟩
  .rintro((h|⟨rfl,h⟩)|⟨k,h⟩)
   .exact .inl h
   .exact .inr ⟨g,V⟩
   .exact .inr ⟨k,((memE j k).1 h).1⟩
 .exact(memf j).2 ⟨s.JZ j k ((memE j k).1 h).1,((memE j k).1 h).2⟩
 .obtain⟨hj,Qd⟩:=(memf j).1 hj;obtain⟨g0,oj,dj,mkj,objj,g1,g2,g3,⟨g4,gself⟩,g5,g6,g7⟩:=s.pd j hj;have Po:d≠dj:=λe=>(Go.Oper.apart_spec (Sh j hj Qd oj g1)).2.1 d h4 (by rw[g4,e]);refine⟨by rw[Array.getElem?_setIfInBounds_ne (Ne.symm Qd)];exact g0,oj,dj,mkj,objj,g1,g2,g3,⟨g4,gself⟩,g5,?_,λk K=>g7 k ((memE j k).1 K).1⟩;rw[ep,aJ Po];exact g6
 .obtain⟨h,Qd⟩:=(memE j k).1 h;obtain⟨k1,k2,k3⟩:=s.eg j k h;refine⟨k1,λid c hc E=>?_,k3⟩;rw[db]at hc;split at hc
  .rename_i e;subst e;rw[fX];intro e;simp only at e;subst e;exact Qd (s.inj j _ i h V)
  .rw[Ro _ _ hc]at E ⊢;exact k2 id c hc E
end
end Go.Sx
