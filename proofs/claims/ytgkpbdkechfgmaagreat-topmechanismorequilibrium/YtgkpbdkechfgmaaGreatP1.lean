/- Texts Sx7 to Sx11: lemmas, each with its conditions. -/
import Derived.OrdersHeld
import Derived.Test.YtgkpbdkechfgmaaGreatP0
namespace Go.Sx
open Go
variable{args:(Nat->dw)->Array Value}{la lx:Array Bool}{op:BinOp}{dr pu:Bool}{R:Ending->World->Prop}{l':Env}{Q:Exit->Act->World->Prop}{H':Hp}{k:IntKind}{iv':Iv}{Pd:List Nat}{Oe g j m t:Nat}{mk:Nat->Value}{ρ':Nat->dw}{obj:Obj}{d:Option Tmp}{K:SV->Hp->Nat->Iv->World->Prop}{u v:Value}{w w2 w3:World}
section
variable{P:Program}{τ:nF}{B n nx:Nat}{l:Env}{H:Hp}{iv:Iv}{w w':World}{O:Nat->dw}{a:Act}
theorem pn{k':IntKind}(h:pc k k'=true):k=k':=by
 cases k<;>cases k'<;>first|rfl|(simp [pc]at h)
theorem xe(op:BinOp)(t:TypeId)(x y:Operand)(k k':IntKind)(i j:Int)(w:World):(eqGuard op t x y (.int k i) (.int k' j)).run P w= .ok () w:=by
 unfold eqGuard;cases op<;>simp
theorem nK(op:BinOp)(t:TypeId)(x y:Operand)(i j:Bool)(w:World):(eqGuard op t x y (.bool i) (.bool j)).run P w= .ok () w:=by
 unfold eqGuard;cases op<;>simp
theorem jc(op:BinOp)(t:TypeId)(x y:Operand)(i j:ByteArray)(w:World):(eqGuard op t x y (.string i) (.string j)).run P w= .ok () w:=by
 unfold eqGuard;cases op<;>simp
theorem Iw{i j:Int}{t:TypeId}{K:Value->Prop}(h:Im op k i j K)(k':IntKind)(hk:(op= .shl∨op= .shr)∨k=k'):
  ∃r,K r∧∀w:World,(binOp op t (.int k i) (.int k' j)).run P w= .ok r w:=by
 have Tv:op≠ .shl->op≠ .shr->k=k':=fun h1 h2=>by rcases hk with(h3|h3)|h3<;>simp_all
 cases op<;>simp only[Im]at h
 case shl=>obtain⟨h0,r,h1,h2⟩:=h;refine⟨_,h2,fun w=>?_⟩;subst h1;simp[binOp,Op.shift,show ¬j<0 by omega]
 case shr=>obtain⟨h0,r,h1,h2⟩:=h;refine⟨_,h2,fun w=>?_⟩;subst h1;simp[binOp,Op.shift,show ¬j<0 by omega]
 all_goals (obtain rfl:=Tv (by simp) (by simp))
 case quo=>obtain⟨h0,r,h1,h2⟩:=h;refine⟨_,h2,fun w=>?_⟩;subst h1;simp[binOp,Op.intDiv,h0]
 case rem=>obtain⟨h0,r,h1,h2⟩:=h;refine⟨_,h2,fun w=>?_⟩;subst h1;simp[binOp,Op.intDiv,h0]
 case eql=>exact⟨_,h,fun w=>by simp[binOp,Op.intCmp]⟩
 case neq=>exact⟨_,h,fun w=>by simp[binOp,Op.intCmp]⟩
 case lss=>exact⟨_,h,fun w=>by simp[binOp,Op.intCmp]⟩
 case leq=>exact⟨_,h,fun w=>by simp[binOp,Op.intCmp]⟩
 case gtr=>exact⟨_,h,fun w=>by simp[binOp,Op.intCmp]⟩
 case geq=>exact⟨_,h,fun w=>by simp[binOp,Op.intCmp]⟩
 case add=>obtain⟨r,h1,h2⟩:=h;refine⟨_,h2,fun w=>?_⟩;subst h1;simp[binOp,Op.intArith]
 case sub=>obtain⟨r,h1,h2⟩:=h;refine⟨_,h2,fun w=>?_⟩;subst h1;simp[binOp,Op.intArith]
 case mul=>obtain⟨r,h1,h2⟩:=h;refine⟨_,h2,fun w=>?_⟩;subst h1;simp[binOp,Op.intArith]
 case and=>obtain⟨r,h1,h2⟩:=h;refine⟨_,h2,fun w=>?_⟩;subst h1;simp[binOp,Op.intBits]
 case or=>obtain⟨r,h1,h2⟩:=h;refine⟨_,h2,fun w=>?_⟩;subst h1;simp[binOp,Op.intBits]
 case andNot=>obtain⟨r,h1,h2⟩:=h;refine⟨_,h2,fun w=>?_⟩;subst h1;simp[binOp,Op.intBits]
 case xor=>obtain⟨r,h1,h2⟩:=h;refine⟨_,h2,fun w=>?_⟩;subst h1;simp[binOp,Op.intBits]
theorem run_equalIn_bool{t:TypeId}(hu:P.underlying t=some .bool)(d:Nat)(i j:Bool)(w:World):(Op.equalIn (d+1) t (.bool i) (.bool j)).run P w= .ok (i==j) w:=by
 simp[Op.equalIn,run_underlying hu]
theorem wi{t:TypeId}(hu:P.underlying t=some .bool)(i j:Bool)(w:World):(Op.equal t (.bool i) (.bool j)).run P w= .ok (i==j) w:=run_equalIn_bool hu 9999 i j w
theorem zB{t:TypeId}(hu:P.underlying t=some .bool)(i j:Bool)(w:World):(binOp .eql t (.bool i) (.bool j)).run P w= .ok (.bool (i==j)) w:=by
 show(do pure (.bool (<-Op.equal t (.bool i) (.bool j))):Sem Value).run P w=_;rw[Sem.run_bind,wi hu];rfl
theorem xf{t:TypeId}(hu:P.underlying t=some .bool)(i j:Bool)(w:World):(binOp .neq t (.bool i) (.bool j)).run P w= .ok (.bool (!(i==j))) w:=by
 show(do pure (.bool (!(<-Op.equal t (.bool i) (.bool j)))):Sem Value).run P w=_;rw[Sem.run_bind,wi hu];rfl
theorem Ix(hτ:fk P τ){x y:SV}{K:SV->Prop}(h:OO P τ op t x y K)(o1 o2:Operand):
  ∃r,K r∧r.sc nx∧∀w':World,(do eqGuard op t o1 o2 (x.den O) (y.den O);binOp op t (x.den O) (y.den O)).run P w'= .ok (r.den O) w':=by
 unfold OO at h;split at h
 ·rename_i k i k' j;have fin:∀hk:(op= .shl∨op= .shr)∨k=k',Im op k i j (fun r=>K (.o (.v r)))->∃r,K r∧r.sc nx∧∀w':World,(do eqGuard op t o1 o2 (SV.den O (.o (.v (.int k i)))) (SV.den O (.o (.v (.int k' j))));binOp op t (SV.den O (.o (.v (.int k i)))) (SV.den O (.o (.v (.int k' j))))).run P w'= .ok (r.den O) w':=by
   intro hk h;obtain⟨r,h1,h2⟩:=Iw (P:=P) (t:=t) h k' hk;refine⟨_,h1,trivial,fun w'=>?_⟩;simp only[SV.den,At.den,Sem.run_bind,xe,Result.andThen_ok,h2]
  split at h
  ·exact fin (.inl (.inl rfl)) h
  ·exact fin (.inl (.inr rfl)) h
  ·split at h
   ·rename_i hk;exact fin (.inr (pn hk)) h
   ·exact h.elim
 ·rename_i i j;split at h
  ·rename_i ti Qe;split at h
   ·rename_i PJ;have hu:=(hτ t _ Qe).i2 (eW PJ);split at h
    ·refine⟨_,h,trivial,fun w'=>?_⟩;simp only[SV.den,At.den,Sem.run_bind,nK,Result.andThen_ok,zB hu]
    ·refine⟨_,h,trivial,fun w'=>?_⟩;simp only[SV.den,At.den,Sem.run_bind,nK,Result.andThen_ok,xf hu]
    ·exact h.elim
   ·exact h.elim
  ·exact h.elim
 ·rename_i i j;split at h
  ·refine⟨_,h,trivial,fun w'=>?_⟩;simp only[SV.den,At.den,Sem.run_bind,jc,Result.andThen_ok]
   simp[binOp,Op.stringOp,ByteArray.toList_eq]
  ·refine⟨_,h,trivial,fun w'=>?_⟩;simp only[SV.den,At.den,Sem.run_bind,jc,Result.andThen_ok]
   simp[binOp,Op.stringOp,ByteArray.toList_eq]
  ·refine⟨_,h.2,trivial,fun w'=>?_⟩;simp only[SV.den,At.den,Sem.run_bind,jc,Result.andThen_ok]
   have h1:=h.1;unfold maxLen at h1;simp[binOp,Op.stringOp];omega
  ·exact h.elim
 ·obtain⟨b,h1,h2⟩:=h;exact⟨_,h2,trivial,fun w'=>h1 O w' o1 o2⟩
abbrev No(n B:Nat)(l:Env)(a:Act)(dst:Option Tmp)(K:SV->Hp->Nat->Iv->World->Prop)(next:Act->World->Prop):Prop:=
 ∀v H' Oe iv' w2 ρ' w3,K v H' Oe iv' w2->Sat n l H' Oe iv' B w2 ρ' a w3->v.sc Oe->next (a.put dst (v.den ρ')) w3
theorem Sat.next(sat:Sat n l H nx iv B w O a w')(rel:Rel H' Oe iv' B w2 ρ' w3)(Qv:nx<=Oe)(hρ:∀id,id<nx->O id=ρ' id):
  Sat n l H' Oe iv' B w2 ρ' a w3:=
 ⟨rel,sat.size,sat.defers,fun t v h=>by rw[sat.env t v h,SV.je hρ (sat.sc t v h)],fun t v h=>SV.tW Qv (sat.sc t v h)⟩
theorem DI(sat:Sat n l H nx iv B w O a w'){cs:List At}(hs:∀c∈cs,At.sc nx c):
  Rel ((nx,.box t cs)::H) (nx+1) iv B w (gS O nx ⟨w'.heap.size,0,false⟩) (w'.alloc (.cells (cs.map (At.den O)).toArray t)):=
 sat.rel.push (.box t cs) _ rfl rfl rfl (by simp) (fun k hk=>heap_alloc_old _ _ hk) (fun _=>⟨Nat.le_refl _,by simp⟩) ⟨rfl,heap_alloc_new _ _⟩ hs
theorem wj:∀{vs:List SV} {k:List Nat->Prop},oE vs k->(∀v∈vs,SV.sc nx v)->∃ids,k ids∧vs.map (SV.den O)=ids.map (fun id=>Value.pointer (some ⟨(O id).g,0,none⟩))∧∀id∈ids,id<nx
 |[],k,h,_=>⟨[],h,rfl,by simp⟩
 | .o (.p id 0)::r,k,h,hs=>by
  obtain⟨ids,h1,h2,h3⟩:=wj (vs:=r) h (fun v hv=>hs v (by simp[hv]));exact⟨id::ids,h1,by simp[h2,SV.den,At.den],by simp;exact⟨hs (.o (.p id 0)) (by simp),h3⟩⟩
 | .o (.p id (m+1))::r,k,h,_=>by simp[oE]at h
 | .o (.v x)::r,k,h,_=>by simp[oE]at h
 | .o (.s _ _ _ _)::r,k,h,_=>by simp[oE]at h
 | .o (.w _ _)::r,k,h,_=>by simp[oE]at h
 | .o (.fn _ _)::r,k,h,_=>by simp[oE]at h
 | .a _::r,k,h,_=>by simp[oE]at h
theorem zC(sat:Sat n l H nx iv B w O a w'){K:SV->Hp->Iv->World->Prop}{o:Oper}{next:Act->World->Prop}
  (h:Ec P B g args H nx iv w K) (Tt:(execOp a.eval o).run P w'=(callFunc g (args O)).run P w')
  (hn:∀v H' iv' w2,K v H' iv' w2->Sat n l H' nx iv' B w2 O a w2->v.sc nx->next (a.put o.dst (v.den O)) w2):o.wp P a w' next Q:=by
 have hc:=h.h O w' sat.rel;unfold Oper.wp;rw[Tt,hc.e.h];refine Calls.mono hc.c fun e w2 he=>?_;obtain⟨v,H',iv',rfl,PX,hK⟩:=he;exact hn _ _ _ _ hK (sat.next (ρ':=O) PX (Nat.le_refl _) (fun _ _=>rfl)) trivial
theorem Rel.ext(r:Rel H nx iv B w O w')(e:Ext w' w2):Rel H nx iv B w O w2:=
 Rel.mk' (e.os.trans r.os) (e.tape.trans r.tape) (e.output.trans r.output) (aX r.size e.size) r.base r.pC r.keys
  (fun id b h=>jq.gf (r.fits h) (fun _ _=>rfl) (r.scopd h) (fun hn _=>e.block _ (r.low id b h hn).2)) (fun id b h=>r.scopd h) r.inj
  (fun id b h hn=>by have:=r.low id b h hn;have:=e.size;omega) (fun k hk OY=>by rw[e.block k (by have:=r.size;omega)];exact r.vF k hk OY) r.jb
theorem Rel.here(r:Rel H nx iv B w O w'):Rel H nx iv B w' O w':=
 Rel.mk' rfl rfl rfl (Nat.le_refl _) (by have:=r.base;have:=r.size;omega) (fun lo hi hm=>by have:=r.pC lo hi hm;have:=r.size;omega) r.keys
  (fun id b h=>r.fits h) (fun id b h=>r.scopd h) r.inj r.low (fun _ _ _=>rfl) r.jb
theorem Rel.more{lo hi:Nat}(r:Rel H nx iv B w O w')(h1:hi<=w.heap.size)(h2:∀id b,dD H id=some b->(O id).nil=false->¬(lo<=(O id).g∧(O id).g<hi)):Rel H nx ((lo,hi)::iv) B w O w':=
 Rel.mk' r.os r.tape r.output r.size r.base
  (fun lo' Qo hm=>by
   rcases List.mem_cons.1 hm with hm|hm
   ·injection hm with e1 e2;omega
   ·exact r.pC lo' Qo hm) r.keys (fun id b hb=>r.fits hb) (fun id b hb=>r.scopd hb) r.inj r.low r.vF
  (fun lo' Qo hm id b hb Oo=>by
   rcases List.mem_cons.1 hm with hm|hm
   ·injection hm with e1 e2;subst e1;subst e2;exact h2 id b hb Oo
   ·exact r.jb lo' Qo hm id b hb Oo)
theorem cH{K:SV->Hp->Iv->World->Prop}(h:EZ P B g args H nx iv w K):Ec P B g args H nx iv w K:=
 ⟨fun O w' r=>⟨(h.h O w' r).e,Calls.mono (h.h O w' r).c fun e w2 he=>by
  obtain⟨v,h1,h2,h3⟩:=he
  exact⟨v,H,_,h1,(r.ext h2).here.more (Nat.le_refl _) (fun id b hb hn=>by have:=(r.low id b hb hn).2;omega),h3⟩⟩⟩
def vG:Op->Bool
 | .move _| .assign _| .pick _ _ _| .build _ _| .load _ _| .nilCheck _| .binOp _ _ _ _ _| .unOp _ _ _| .convert _ _ _| .makeFunc _ _ _| .slice _ _ _ _ _| .fieldAddr _ _ _| .field _ _ _| .indexAddr _ _ _| .extract _ _=>true
 | .call ⟨.builtin .len,_,_⟩=>true
 | .call ⟨.builtin .max,_,_⟩=>true
 | .call ⟨.builtin .min,_,_⟩=>true
 |_=>false
def M7:Op->Bool
 | .alloc _| .box _ _| .buildSlice _ _ _| .makeSlice _ _ _=>true
 |_=>false
def Ie:Op->Bool
 | .load _ _=>false
 |o=>vG o
theorem mI(hτ:fk P τ){o:Oper}(h:yh dr P τ B o l H nx iv w K)(sat:Sat n l H nx iv B w O a w')(hk:vG o.op=true):
  (∃v,K v H nx iv w∧v.sc nx∧∀w2,(Ie o.op=true∨Rel H nx iv B w O w2)->(execOp a.eval o).run P w2= .ok (.value (v.den O)) w2)∨(dr=false∧xd P B o l H nx iv w K):=by
 obtain⟨dst,op,ty,pos,after,guard⟩:=o;have val:∀(r:SV),K r H nx iv w->r.sc nx->(∀w2,(Ie op=true∨Rel H nx iv B w O w2)->(execOp a.eval ⟨dst,op,ty,pos,after,guard⟩).run P w2= .ok (.value (r.den O)) w2)->
   (∃v,K v H nx iv w∧v.sc nx∧∀w2,(Ie op=true∨Rel H nx iv B w O w2)->(execOp a.eval ⟨dst,op,ty,pos,after,guard⟩).run P w2= .ok (.value (v.den O)) w2)∨(dr=false∧xd P B ⟨dst,op,ty,pos,after,guard⟩ l H nx iv w K):=
  fun r hK hs hr=>.inl ⟨r,hK,hs,hr⟩
 unfold yh at h;split at h<;>first|(exact False.elim h)|(rename_i Tt;simp only at Tt;subst Tt)
 ·obtain⟨v,hK,hv,hs⟩:=da sat h;exact val v hK hs (fun w2 rel=>by simp[execOp,hv])
 ·obtain⟨v,hK,hv,hs⟩:=da sat h;exact val v hK hs (fun w2 rel=>by simp[execOp,hv])
 ·rename_i c x y;obtain⟨v,h1,hv,RV⟩:=da sat h;clear RV;split at h1
  ·rename_i t
   cases t
   ·obtain⟨u,hK,hu,hs⟩:=da sat (h1.f rfl);exact val u hK hs (fun w2 rel=>by simp[execOp,hv,SV.den,At.den,asBool,hu])
   ·obtain⟨u,hK,hu,hs⟩:=da sat (h1.t rfl);exact val u hK hs (fun w2 rel=>by simp[execOp,hv,SV.den,At.den,asBool,hu])
  ·exact h1.elim
 ·cases hk
 ·cases hk
 ·rename_i t parts;split at h
  ·rename_i sz ag by_ ze tag ik e al fs Qe;have ht:=hτ t _ Qe;obtain⟨inf,z,hi,PH,Oq,hz,R0⟩:=ht.info;simp only at PH Oq R0;have hzz:z.cells=(((ze.map At.v)).map (At.den O)).toArray:=by rw[fw];apply Array.ext';simpa using R0
   have Vv:∀c∈ze.map At.v,At.sc nx c:=fun c hc=>by simp at hc;obtain⟨v,_,rfl⟩:=hc;trivial
   split at h
   ·rename_i PJ;obtain⟨fds,hu,hf,QX⟩:=ht.i5 (eW PJ);simp only at hf;have WR:fds.toList.mapM (fun f=>(P.info? f.type).map fun i=>(f.offset,i.size))=some (fds.toList.map fun f=>(f.offset,((P.info? f.type).map (·.size)).getD 0)):=by
     clear hf hu;generalize fds.toList=fl at QX
     induction fl with
     |nil=>rfl
     |cons f r ih=>
      obtain⟨i0,SF⟩:=Option.isSome_iff_exists.1 (QX f (by simp));rw[List.mapM_cons,ih (fun g hg=>QX g (by simp[hg]))];simp[SF]
    have h0:=gA h
    obtain⟨cs',hK,PI,hlen,QF⟩:=kX sat (placeF:=fun i=>(fds.toList.map fun f=>(f.offset,((P.info? f.type).map (·.size)).getD 0))[i]?) (fun i k hk=>by
     obtain⟨off,ft,fi,h1,h2,h3,h4⟩:=mo hτ hk;refine⟨off,fi.size,h1,?_⟩;rw[<-hf]at h2;simp only[aM,Option.map_eq_some_iff]at h2 ⊢;obtain⟨fd,Q9,he⟩:=h2;injection he with e1 e2;refine⟨fd,Q9,?_⟩;obtain⟨inf',_,Qo,Tw,_⟩:=h3.info;rw[e1,e2,Qo]
     simp[Tw]) h0 Vv
    refine val _ hK PI (fun w2 rel=>?_);have hb:P.built t (parts.map fun p=>(p.1,a.eval p.2)).toList=some (cs'.map (At.den O)).toArray:=by
     unfold Program.built;simp only[hi,hu,hz,WR]
     rw[hzz,<-QF];simp
    have:=run_build w2 t _ _ hb;simp only[execOp]
    exact mK this
   ·split at h
    ·rename_i PJ;have hu:=ht.i6 (eW PJ);simp only at hu;split at h
     ·rename_i sz' ag' by' ze' tag' ik' e' al' fs' Pr
      have Pr:=hτ e _ Pr;obtain⟨inf',_,Qo,Tw,_⟩:=Pr.info;simp only at Tw;have h0:=gA h;obtain⟨cs',hK,PI,hlen,QF⟩:=kX sat (placeF:=fun i=>some (i*inf'.size,inf'.size)) (fun i k hk=>⟨i*sz',sz',hk,by rw[Tw]⟩) h0 Vv;refine val _ hK PI (fun w2 rel=>?_);have hb:P.built t (parts.map fun p=>(p.1,a.eval p.2)).toList=some (cs'.map (At.den O)).toArray:=by
       unfold Program.built;simp only[hi,hu,hz,Qo]
       rw[hzz,<-QF];simp
      have:=run_build w2 t _ _ hb;simp only[execOp]
      exact mK this
     ·exact h.elim
    ·exact h.elim
  ·exact h.elim
 ·cases hk
 ·rename_i t x;obtain⟨v,h1,hv,hs⟩:=da sat h;obtain⟨r,hK,hr,Oj⟩:=oJ hτ sat.rel hs h1;exact val r hK hr (fun w2 rel=>by simp only[execOp,hv];exact mK (Oj w2 (rel.resolve_left (by simp[Ie]))))
 ·cases hk
 ·rename_i x;obtain⟨v,h1,hv,hs⟩:=da sat h;split at h1
  ·exact val _ h1 hs (fun w2 rel=>by simp[execOp,hv,SV.den,At.den])
  ·exact val _ h1 hs (fun w2 rel=>by simp[execOp,hv,SV.den,At.den])
  ·exact val _ h1 hs (fun w2 rel=>by simp[execOp,hv,SV.den,At.den])
  ·exact val _ h1 hs (fun w2 rel=>by simp[execOp,hv,SV.den,At.den])
  ·exact h1.elim
 ·rename_i op t x y u;obtain⟨v,h1,hv,_⟩:=da sat h;obtain⟨v2,h2,Rb,_⟩:=da sat h1;obtain⟨r,hK,hr,Oj⟩:=Ix (O:=O) hτ h2 x y;exact val r hK hr (fun w2 rel=>by simp only[execOp,hv,Rb];exact mK (Oj w2))
 ·rename_i op t x;obtain⟨v,h1,hv,_⟩:=da sat h;split at h1
  ·exact val _ h1 trivial (fun w2 rel=>by simp[execOp,hv,SV.den,At.den,Op.unary])
  ·obtain⟨r,hr,hK⟩:=h1;exact val _ hK trivial (fun w2 rel=>by subst hr;simp[execOp,hv,SV.den,At.den,Op.unary,Op.intArith])
  ·obtain⟨r,hr,hK⟩:=h1;exact val _ hK trivial (fun w2 rel=>by subst hr;simp[execOp,hv,SV.den,At.den,Op.unary,Op.intBits])
  ·exact h1.elim
 ·rename_i s d x;split at h
  ·rename_i tis htis;obtain⟨ds,hds,_⟩:=(hτ s _ htis).agg;obtain⟨v,h1,hv,RV⟩:=da sat h;clear RV;split at h1
   ·rename_i sz ag by_ ze tag ik e al fs Qe;have ht:=hτ d _ Qe;split at h1
    ·rename_i PJ;have hu:=ht.i1 (eW PJ);simp only at hu;split at h1
     ·obtain⟨r,hr,hK⟩:=h1;refine val _ hK trivial (fun w2 rel=>?_);subst hr;simp[execOp,convert,run_underlying hds,run_underlying hu,hv,SV.den,At.den,Conv.intToInt]
     ·exact h1.elim
    ·cases dr
     ·exact .inr ⟨rfl,h1⟩
     ·exact h1.elim
   ·exact h1.elim
  ·exact h.elim
 ·rename_i f first caps
  split at h
  ·obtain⟨vs,h1,RV,R1⟩:=rB sat h;obtain⟨ids,hK,hids,PF⟩:=wj (O:=O) h1 R1;refine val _ hK (fun id PV=>PF id PV) (fun w2 rel=>?_);have e:caps.map a.eval=(ids.map fun id=>Value.pointer (some ⟨(O id).g,0,none⟩)).toArray:=by
    apply Array.ext';rw[<-hids,<-RV];simp
   simp[execOp,Instr.makeFunc,e,SV.den,At.den]
  ·exact h.elim
 ·cases hk
 ·rename_i t x lo hi;obtain⟨v,h1,hv,hs⟩:=da sat h;obtain⟨r,hK,hr,Oj⟩:=Ei hτ sat h1 hs;exact val r hK hr (fun w2 rel=>by simp only[execOp,hv];exact mK (by simpa using Oj w2))
 ·rename_i t x f;split at h
  ·rename_i sz ag by_ ze tag ik e al fs Qe;have ht:=hτ t _ Qe;split at h
   ·rename_i PJ;obtain⟨off,ft,fi,h1,hf,TS,PH⟩:=mo hτ h;obtain⟨v,h2,hv,hs⟩:=da sat h1;obtain⟨r,ad,hK,hr,hd,hrd⟩:=tY (O:=O) h2 hs;refine val r hK hr (fun w2 rel=>?_);simp only[execOp,hv,hd,hrd]
    exact mK (Ef ht (eW PJ) hf TS PH ad w2)
   ·exact h.elim
  ·exact h.elim
 ·rename_i t x f;split at h
  ·rename_i sz ag by_ ze tag ik e al fs Qe;have ht:=hτ t _ Qe;split at h
   ·rename_i PJ;obtain⟨off,ft,fi,h1,hf,TS,PH⟩:=mo hτ h;obtain⟨v,h2,hv,hs⟩:=da sat h1;obtain⟨fds,fd,hu,Q9,e1,e2⟩:=zA ht (eW PJ) hf;have fin:∀cs:List At,v.den O= .agg (cs.map (At.den O)).toArray->(∀c∈cs,At.sc nx c)->
      (match fi.agg with
       |true=>tL cs off (fun r=>tM r fi.size (fun c=>K (.a c) H nx iv w))
       |false=>match DF cs off with
        |some c=>K (.o c) H nx iv w
        |none=>False)->(∃v,K v H nx iv w∧v.sc nx∧∀w2,(Ie (.field t x f)=true∨Rel H nx iv B w O w2)->(execOp a.eval ⟨dst,.field t x f,ty,pos,after,guard⟩).run P w2= .ok (.value (v.den O)) w2)∨(dr=false∧xd P B ⟨dst,.field t x f,ty,pos,after,guard⟩ l H nx iv w K):=by
     intro cs hd PI hk;split at hk
     ·rename_i hag;obtain⟨h3,RW⟩:=oG hk;obtain⟨hK,Pg⟩:=oH h3;refine val _ hK (fun c hc=>PI c (List.mem_of_mem_drop (List.mem_of_mem_take hc))) (fun w2 rel=>?_);simp only[execOp,hv,hd]
      refine mK ?_;subst e1 e2;simp[Instr.field,run_underlying hu,Q9,asAgg,part,TS.isAgg,hag,TS.sizeOf,SV.den,List.map_drop,List.map_take,List.extract_eq_take_drop]
     ·rename_i hag;split at hk
      ·rename_i c hc;rw[vL]at hc;refine val _ hk (PI c (aD hc)) (fun w2 rel=>?_);simp only[execOp,hv,hd]
       refine mK ?_;subst e1 e2;simp[Instr.field,run_underlying hu,Q9,asAgg,part,TS.isAgg,hag,hc,SV.den]
      ·exact hk.elim
    split at h2
    ·rename_i vs;exact fin (vs.map At.v) (by rw[fw];rfl) (fun c hc=>by simp at hc;obtain⟨v,_,rfl⟩:=hc;trivial) (gA h2)
    ·exact fin _ rfl hs h2
    ·exact h2.elim
   ·exact h.elim
  ·exact h.elim
 ·rename_i t x i;obtain⟨v,h1,hv,hs⟩:=da sat h;obtain⟨u,h2,hu,_⟩:=da sat h1;obtain⟨r,hK,hr,Oj⟩:=Eg hτ h2 hs sat.rel;exact val r hK hr (fun w2 rel=>by simp only[execOp,hv,hu];exact mK (Oj w2))
 ·rename_i x i;obtain⟨v,h1,hv,hs⟩:=da sat h;split at h1
  ·split at h1
   ·rename_i vs u hu;rw[CA]at hu;exact val _ h1 trivial (fun w2 rel=>by simp[execOp,hv,Instr.extract,SV.den,At.den,hu])
   ·exact h1.elim
  ·exact h1.elim
 ·rename_i x t;obtain⟨v,h1,hv,_⟩:=da sat h;obtain⟨r,hK,Oj⟩:=Iu (ty:=ty) hτ h1 sat.rel;refine val _ hK trivial (fun w2 rel=>?_);show _=Result.ok (Next.value (Value.int .i64 r)) w2;generalize v.den O=xv at hv Oj;have Oj:=Oj w2;simp[execOp,resolve,invoke,builtin,hv,Oj]
 ·cases hk
 ·rename_i x y ts;obtain⟨v,h1,hv,_⟩:=da sat h;obtain⟨v2,h2,Rb,_⟩:=da sat h1;split at h2
  ·split at h2
   ·rename_i k a1 k' b1 TG;have Tv:=pn TG;subst Tv;refine val _ h2 trivial (fun w2 rel=>?_);simp only[execOp,resolve,invoke,builtin]
    simp[hv,Rb,SV.den,At.den,Builtin.max_,Builtin.max2];omega
   ·exact h2.elim
  ·exact h2.elim
 ·rename_i x y ts;obtain⟨v,h1,hv,_⟩:=da sat h;obtain⟨v2,h2,Rb,_⟩:=da sat h1;split at h2
  ·split at h2
   ·rename_i k a1 k' b1 TG;have Tv:=pn TG;subst Tv;refine val _ h2 trivial (fun w2 rel=>?_);simp only[execOp,resolve,invoke,builtin]
    simp[hv,Rb,SV.den,At.den,Builtin.min_,Builtin.min2];omega
   ·exact h2.elim
  ·exact h2.elim
 ·cases hk
 ·cases hk
 ·cases hk
 ·cases hk
 ·cases hk
 ·cases hk
 ·cases hk
 ·cases hk
theorem iw{o:Oper}(h:xd P B o l H nx iv w K)(sat:Sat n l H nx iv B w O a w'){next:Act->World->Prop}
  (hn:No n B l a o.dst K next):o.wp P a w' next Q:=by
 obtain⟨v,w2,iv',Oj,PX,hK⟩:=h.h O w' a.eval sat.rel (fun x v hx=>(tX sat hx).1);have:=hn _ _ _ _ _ _ _ hK (sat.next PX (Nat.le_refl _) (fun _ _=>rfl)) trivial;unfold Oper.wp;rcases Oj with Oj|⟨Oj,rfl⟩
 ·rw[Oj];exact this
 ·rw[Oj];exact this
theorem oD(hτ:fk P τ){o:Oper}(h:yh dr P τ B o l H nx iv w K)(sat:Sat n l H nx iv B w O a w'){next:Act->World->Prop}
  (hn:No n B l a o.dst K next):o.wp P a w' next Q:=by
 by_cases hk:vG o.op=true
 ·rcases mI hτ h sat hk with⟨v,hK,hs,hr⟩|⟨_,Tt⟩
  ·exact ml (hr w' (.inr sat.rel)) (hn _ _ _ _ _ _ _ hK sat hs)
  ·exact iw Tt sat hn
 obtain⟨dst,op,ty,pos,after,guard⟩:=o;unfold yh at h;split at h<;>first|(exact False.elim h)|(rename_i Tt;simp only at Tt;subst Tt)
 ·exact absurd rfl hk
 ·exact absurd rfl hk
 ·exact absurd rfl hk
 ·rename_i t;split at h
  ·rename_i sz ag by_ ze tag ik e al fs Qe;obtain⟨z,Ov,Ps⟩:=(hτ t _ Qe).zeroV w';have hK:=gA h;simp only at Ps;have PX:=DI sat (t:=t) (cs:=ze.map At.v) (fun c hc=>by simp at hc;obtain⟨v,_,rfl⟩:=hc;trivial);rw[fw]at PX;have hzz:z.cells=ze.toArray:=by apply Array.ext';simpa using Ps
   refine ml (w2:=w'.alloc (.cells ze.toArray t)) (v:=.pointer (some ⟨w'.heap.size,0,none⟩)) ?_ ?_
   ·simp[execOp,Instr.alloc,Ov,newVar,newRow,hzz]
   ·have:=hn _ _ _ _ _ _ _ hK (sat.next PX (by omega) gM) (by simp[SV.sc,At.sc]);simpa [SV.den,At.den]using this
  ·exact h.elim
 ·rename_i t x;obtain⟨v,h1,hv,hs⟩:=da sat h;obtain⟨cs,hK,Pe,R1⟩:=mJ h1;have PX:=DI sat (t:=t) (R1 nx hs);refine ml (w2:=w'.alloc (.cells (cs.map (At.den O)).toArray t)) (v:=.pointer (some ⟨w'.heap.size,0,none⟩)) ?_ ?_
  ·simp[execOp,Instr.box,hv,newVar,newRow,Pe O]
  ·have:=hn _ _ _ _ _ _ _ hK (sat.next PX (by omega) gM) (by simp[SV.sc,At.sc]);simpa [SV.den,At.den]using this
 ·exact absurd rfl hk
 ·rename_i t m parts;split at h
  ·rename_i sz ag by_ ze tag ik e al fs Qe;have ht:=hτ t _ Qe;split at h
   ·rename_i PJ;have hu:=ht.i4 (eW PJ);simp only at hu;split at h
    ·rename_i sz' ag' by' ze' tag' ik' e' al' fs' Pr
     have Pr:=hτ e _ Pr;obtain⟨inf,z,hi,PH,Oq,hz,R0⟩:=Pr.info;have Rk:=Pr.GZ;simp only at PH Oq R0 Rk;split at h
     ·rename_i hle;have hle:=Nat.le_of_ble_eq_true hle;have h0:=gA h;obtain⟨cs',hK,PI,hlen,QF⟩:=kX sat (placeF:=fun i=>some (i*inf.size,inf.size)) (fun i k hk=>⟨i*sz',sz',hk,by rw[PH]⟩) h0
       (fun c hc=>by obtain⟨v,_,rfl⟩:=aV.1 hc;trivial)
      rw[fw]at QF;have RL:z.cells=ze'.toArray:=by apply Array.ext';simpa using R0
      have VA:((List.replicate m ze').flatten).toArray=madeCells z.cells (m*inf.size):=by
       rw[RL,PH,<-Rk];exact(rE ze' m).symm
      have PX:=DI sat (t:=e) PI;refine ml (w2:=w'.alloc (.cells (cs'.map (At.den O)).toArray e)) (v:=.slice (some ⟨w'.heap.size,0,none⟩) m m) ?_ ?_
      ·simp only[execOp]
       refine mK ?_;rw[VA]at QF;by_cases Py:m*inf.size=0
       ·have Rw:Instr.fill (fun i=>some (i*inf.size,inf.size)) (madeCells z.cells 0) (parts.toList.map fun p=>(p.1,a.eval p.2))=some (cs'.map (At.den O)).toArray:=by rw[Py]at QF;exact QF
        have e0:madeCells z.cells 0= #[]:=by simp[madeCells]
        rw[e0]at Rw;have er:Array.range 0= #[]:=rfl;simp[Instr.buildSlice,run_underlying hu,sizeOf,typeInfo,zeroValue,hi,hz,Py,newRow,Rw,er]
       ·exact run_buildSlice w' t e m _ _ inf z hu hi hz (by rw[PH];omega) Py (by rw[<-QF];simp[madeCells])
      ·have:=hn _ _ _ _ _ _ _ hK (sat.next PX (by omega) gM) (by simp[SV.sc,At.sc]);simpa [SV.den,At.den]using this
     ·exact h.elim
    ·exact h.elim
   ·exact h.elim
  ·exact h.elim
 ·exact absurd rfl hk
 ·rename_i t x y;obtain⟨v,h1,hv,hs⟩:=da sat h;obtain⟨u,h2,hu,Qa⟩:=da sat h1
  cases hg:Nn H v u with
  |true=>
   rw[hg]at h2
   cases dr with
   |true=>exact h2.elim
   |false=>
    have h2:OpG P B _ l H nx iv w K:=h2;obtain⟨w2,w3,H',iv',Oj,PX,hK⟩:=h2.h O w' a.eval sat.rel (fun x v hx=>(tX sat hx).1);refine KO (w2:=w3) Oj ?_;exact hn _ _ _ _ _ _ _ hK (sat.next PX (Nat.le_refl _) (fun _ _=>rfl)) trivial
  |false=>
   rw[hg]at h2;obtain⟨H',w2,w3,hK,PX,Oj⟩:=wh hτ sat hs Qa h2;refine KO (w2:=w3) (by simp[execOp,hv,hu,Oj]) ?_;exact hn _ _ _ _ _ _ _ hK (sat.next PX (Nat.le_refl _) (fun _ _=>rfl)) trivial
 ·exact absurd rfl hk
 ·exact absurd rfl hk
 ·exact absurd rfl hk
 ·exact absurd rfl hk
 ·exact absurd rfl hk
 ·rename_i t x y;obtain⟨v,h1,hv,_⟩:=da sat h;obtain⟨u,h2,hu,_⟩:=da sat h1;obtain⟨r,H',Oe,ρ',w2,hK,PX,hr,Qv,hρ,Oj⟩:=Gf hτ sat h2;refine ml (w2:=w2) (by simp only[execOp,hv,hu];exact mK Oj) ?_;exact hn _ _ _ _ _ _ _ hK (sat.next PX Qv hρ) hr
 ·exact absurd rfl hk
 ·exact absurd rfl hk
 ·exact absurd rfl hk
 ·exact absurd rfl hk
 ·exact absurd rfl hk
 ·exact absurd rfl hk
 ·rename_i x y t u;split at h
  ·rename_i htu;have htu:=eW htu;subst htu;obtain⟨v,h1,hv,_⟩:=da sat h;obtain⟨v2,h2,Rb,_⟩:=da sat h1;split at h2
   ·unfold gaK at h2;split at h2
    ·exact h2.elim
    ·obtain⟨v,H',Oe,iv',ρ',w2,w3,Oj,PX,hs,Qv,hρ,hK⟩:=h2.h O w' a.eval sat.rel (fun x v hx=>(tX sat hx).1);exact ml Oj (hn _ _ _ _ _ _ _ hK (sat.next PX Qv hρ) hs)
   rcases h2 with h2|h2
   ·obtain⟨r,H',Oe,ρ',w2,hK,PX,hr,Qv,hρ,Oj⟩:=tV (ty:=ty) hτ sat h2;refine ml (v:=r.den ρ') (w2:=w2) ?_ ?_
    ·simp[execOp,resolve,invoke,builtin,hv,Rb,Oj]
    ·exact hn _ _ _ _ _ _ _ hK (sat.next PX Qv hρ) hr
   ·exact iw h2 sat hn
  ·exact iw h sat hn
 ·exact absurd rfl hk
 ·exact absurd rfl hk
 ·exact iw h sat hn
 ·exact iw h sat hn
 ·exact iw h sat hn
 ·exact iw h sat hn
 ·exact iw h sat hn
 ·exact iw h sat hn
 ·exact iw h sat hn
 ·rename_i f args ats;obtain⟨v,h1,hv,_⟩:=da sat h;obtain⟨vs,h2,RV,R1⟩:=rB sat h1;have SX:(args.toArray).map a.eval=oB O vs:=by
   apply Array.ext';simp[oB,RV]
  have XI:∀(g:Nat) (args:(Nat->dw)->Array Value) (K:SV->Hp->Iv->World->Prop),KL dr P B g args H nx iv w K->Ec P B g args H nx iv w K:=fun g args K h=>by
   cases dr
   ·exact h
   ·exact cH h
  split at h2
  ·rename_i g first caps
   refine zC sat (XI _ _ _ h2) ?_ (fun v H' iv' w2 hK hs hv=>hn _ _ _ _ _ _ _ hK hs hv);simp[execOp,resolve,hv,SV.den,At.den,Deferred.ofValue,invoke,SX]
  ·rename_i g ids;refine zC sat (XI _ _ _ h2) ?_ (fun v H' iv' w2 hK hs hv=>hn _ _ _ _ _ _ _ hK hs hv);simp[execOp,resolve,hv,SV.den,At.den,Deferred.ofValue,invoke,SX]
  ·exact h2.elim
end
def Ex.to:Ex->Exit
 | .normal=>.normal
 | .exit id=>.exit id
 | .ret=>.ret
def OQ(n:Nat)(o:Oper):Bool:=match o.dst with
 |some d=>Nat.blt d n
 |none=>true
def codeOk(n:Nat):Code->Bool
 | .region _ ops _=>ops.toList.all (OQ n)
 | .seq a b=>codeOk n a&&codeOk n b
 | .cond _ a b=>codeOk n a&&codeOk n b
 | .block _ c=>codeOk n c
 | .loop c=>codeOk n c
 |_=>true
section
variable{P:Program}{τ:nF}{B n nx:Nat}{l:Env}{H:Hp}{iv:Iv}{w w':World}{O:Nat->dw}{a:Act}
theorem Sat.put(sat:Sat n l H nx iv B w O a w'){d:Nat}(hd:d<n){v:SV}(hv:v.sc nx):Sat n ((d,v)::l) H nx iv B w O (a.put (some d) (v.den O)) w':=by
 refine⟨sat.rel,by simp[Act.put,sat.size],sat.defers,fun t u h=>?_,fun t u h=>?_⟩
 ·rw[fA]at h;split at h
  ·rename_i e;subst e;injection h with h;subst h;simp[Act.put,sat.size,hd]
  ·rename_i e;have:=sat.env t u h;simpa [Act.put,Array.getElem?_setIfInBounds_ne e]using this
 ·rw[fA]at h;split at h
  ·injection h with h;subst h;exact hv
  ·exact sat.sc t u h
theorem iu(sat:Sat n l H nx iv B w O a w'){v:SV}{k:Env->Prop}(h:EX d v l k)(hd:∀t,d=some t->t<n)(hv:v.sc nx):
  ∃l',k l'∧Sat n l' H nx iv B w O (a.put d (v.den O)) w':=by
 unfold EX at h;split at h
 ·rename_i t;exact⟨_,h,sat.put (hd t rfl) hv⟩
 ·exact⟨l,h,sat⟩
theorem sT:∀{all:List Oper} {j:Nat},Bz all j=(all[j]?).bind (·.dst)
 |[],j=>by simp[Bz]
 |o::r,0=>by simp[Bz]
 |o::r,j+1=>by simp[Bz,sT (all:=r)]
theorem Sat.aA2(sat:Sat n l H nx iv B w O a w'){d:Nat}{v:SV}(hd:a.tmps[d]? =some (v.den O))(hv:v.sc nx):Sat n ((d,v)::l) H nx iv B w O a w':=by
 refine⟨sat.rel,sat.size,sat.defers,fun t u h=>?_,fun t u h=>?_⟩
 ·rw[fA]at h;split at h
  ·rename_i e;subst e;injection h with h;subst h;exact hd
  ·exact sat.env t u h
 ·rw[fA]at h;split at h
  ·injection h with h;subst h;exact hv
  ·exact sat.sc t u h
theorem ky(sat:Sat n l H nx iv B w O a w'){all:List Oper}{o:Oper}{yes no:Env->Prop}(h:tO all o.guard l yes no):
  (Region.wanted o (yielded all.toArray a.tmps)=true∧∃l',yes l'∧Sat n l' H nx iv B w O a w')∨(Region.wanted o (yielded all.toArray a.tmps)=false∧∃l',no l'∧Sat n l' H nx iv B w O a w'):=by
 unfold tO at h;split at h
 ·rename_i hg;exact .inl ⟨by simp[Region.wanted,hg],l,h,sat⟩
 ·rename_i j want hg;have hy:Region.wanted o (yielded all.toArray a.tmps)=(yielded all.toArray a.tmps j==some want):=by simp[Region.wanted,hg]
  split at h
  ·rename_i hd;rw[sT]at hd;exact .inr ⟨by rw[hy];simp[yielded,hd],l,h,sat⟩
  ·rename_i d hd;rw[sT]at hd;split at h
   ·rename_i b hb;have ht:=sat.env d _ hb;have Vw:yielded all.toArray a.tmps j=some b:=by simp[yielded,hd,ht,SV.den,At.den]
    have hkt:b=true->Sat n ((d,.o (.v (.bool true)))::l) H nx iv B w O a w':=fun e=>sat.aA2 (by rw[ht,e]) trivial;have hkf:b=false->Sat n ((d,.o (.v (.bool false)))::l) H nx iv B w O a w':=fun e=>sat.aA2 (by rw[ht,e]) trivial;split at h
    ·cases Om:b
     ·exact .inr ⟨by rw[hy,Vw,Om];rfl,_,h.f Om,hkf Om⟩
     ·exact .inl ⟨by rw[hy,Vw,Om];rfl,_,h.t Om,hkt Om⟩
    ·cases Om:b
     ·exact .inl ⟨by rw[hy,Vw,Om];rfl,_,h.f Om,hkf Om⟩
     ·exact .inr ⟨by rw[hy,Vw,Om];rfl,_,h.t Om,hkt Om⟩
   ·rename_i vs hb;have ht:=sat.env d _ hb;exact .inr ⟨by rw[hy];simp[yielded,hd,ht,SV.den,At.den],l,h,sat⟩
   ·exact h.elim
theorem po(hτ:fk P τ){all:List Oper}{K:KT}{Q:Exit->Act->World->Prop}
  (hQ:∀l' H' Oe iv' w2 ρ' a' w3,K l' H' Oe iv' w2->Sat n l' H' Oe iv' B w2 ρ' a' w3->Q .normal a' w3):
  ∀(rest:List Oper) (l:Env) (H:Hp) (nx:Nat) (iv:Iv) (w:World) (O:Nat->dw) (a:Act) (w':World),rest.all (OQ n)=true->Hr P τ B all rest l H nx iv w K->Sat n l H nx iv B w O a w'->
   wpList P all.toArray Q rest a w'
 |[],l,H,nx,iv,w,O,a,w',_,h,sat=>wpList_nil (hQ _ _ _ _ _ _ _ _ h sat)
 |o::r,l,H,nx,iv,w,O,a,w',OZ,h,sat=>by
  simp only[List.all_cons,bC]at OZ;have hd:∀t,o.dst=some t->t<n:=fun t ht=>by
   have:=OZ.1;simp only[OQ,ht]at this;have h5:t+1<=n:=by simpa [Nat.blt]using this
   exact h5
  refine wpList_step fun Kc hKc=>?_;unfold Hr iW at h;rcases ky sat h with⟨hw,l1,h1,sat1⟩|⟨hw,l1,h1,sat1⟩
  ·rw[if_pos hw];refine oD hτ h1 sat1 fun v H' Oe iv' w2 ρ' w3 h2 sat2 hv=>?_;obtain⟨l2,h3,sat3⟩:=iu sat2 h2 hd hv;exact hKc _ _ (po hτ hQ r _ _ _ _ _ _ _ _ OZ.2 h3 sat3)
  ·rw[aJ (by simp[hw])];obtain⟨l2,h3,sat3⟩:=iu sat1 h1 hd trivial;exact hKc _ _ (po hτ hQ r _ _ _ _ _ _ _ _ OZ.2 h3 sat3)
theorem Sub.sat{t:yv}(h:Sub B l nx O w' t)(sat:Sat n l H nx iv B w O a w'):∃ρ',Sat n t.l t.H t.nx t.iv B t.w ρ' a w':=by
 obtain⟨ρ',h1,h2⟩:=h;refine⟨ρ',h1,sat.size,sat.defers,fun u v hv=>?_,fun u v hv=>(h2 u v hv).1⟩;obtain⟨_,v0,h3,h4⟩:=h2 u v hv;rw[sat.env u v0 h3,h4]
theorem iX(hτ:fk P τ):∀(c:Code) (l:Env) (H:Hp) (nx:Nat) (iv:Iv) (w:World) (Q':Ex->KT),mm P τ B c l H nx iv w Q'->codeOk n c=true->
  ∀(O:Nat->dw) (a:Act) (w':World),Sat n l H nx iv B w O a w'->∀Q:Exit->Act->World->Prop,(∀e l' H' Oe iv' w2 ρ' a' w3,Q' e l' H' Oe iv' w2->Sat n l' H' Oe iv' B w2 ρ' a' w3->Q e.to a' w3)->c.wp P Q a w'
 | .skip,l,H,nx,iv,w,Q',h,_,O,a,w',sat,Q,hQ=>wp_skip (hQ .normal _ _ _ _ _ _ _ _ h sat)
 | .region id ops false,l,H,nx,iv,w,Q',h,OZ,O,a,w',sat,Q,hQ=>by
  obtain⟨ol⟩:=ops;exact wp_region_lit (po hτ (fun l' H' Oe iv' w2 ρ' a' w3 hk hs=>hQ .normal _ _ _ _ _ _ _ _ hk hs) ol _ _ _ _ _ _ _ _ OZ h sat)
 | .region id ops true,l,H,nx,iv,w,Q',h,OZ,O,a,w',sat,Q,hQ=>
  yo.h h n O a w' OZ sat Q (fun l' H' Oe iv' w2 ρ' a' w3 hk hs=>hQ .normal _ _ _ _ _ _ _ _ hk hs) id
 | .seq c d,l,H,nx,iv,w,Q',h,OZ,O,a,w',sat,Q,hQ=>by
  simp only[codeOk,bC]at OZ;refine wp_seq (iX hτ c _ _ _ _ _ _ h OZ.1 O a w' sat _ fun e l' H' Oe iv' w2 ρ' a' w3 hk hs=>?_)
  cases e with
  |normal=>exact iX hτ d _ _ _ _ _ _ hk OZ.2 ρ' a' w3 hs Q hQ
  |exit id=>exact hQ (.exit id) _ _ _ _ _ _ _ _ hk hs
  |ret=>exact hQ .ret _ _ _ _ _ _ _ _ hk hs
 | .cond x c d,l,H,nx,iv,w,Q',h,OZ,O,a,w',sat,Q,hQ=>by
  simp only[codeOk,bC]at OZ;obtain⟨v,h1,hv,RV⟩:=da sat h;clear RV;split at h1
  ·rename_i t;refine wp_cond_split (t:=t) (by rw[hv];rfl) (fun ht=>?_) (fun ht=>?_)
   ·exact iX hτ c _ _ _ _ _ _ (h1.t ht) OZ.1 O a w' sat Q hQ
   ·exact iX hτ d _ _ _ _ _ _ (h1.f ht) OZ.2 O a w' sat Q hQ
  ·exact h1.elim
 | .block id c,l,H,nx,iv,w,Q',h,OZ,O,a,w',sat,Q,hQ=>by
  refine wp_block (iX hτ c _ _ _ _ _ _ h OZ O a w' sat _ fun e l' H' Oe iv' w2 ρ' a' w3 hk hs=>?_)
  cases e with
  |normal=>exact hQ .normal _ _ _ _ _ _ _ _ hk hs
  |exit id'=>
   simp only[Ex.to,Exit.inBlock]
   simp only at hk;split at hk
   ·rename_i he;rw[if_pos (eW he)];exact hQ .normal _ _ _ _ _ _ _ _ hk hs
   ·rename_i he;rw[aJ (fun e=>by subst e;rw[Nat.beq_refl]at he;cases he)];exact hQ (.exit id') _ _ _ _ _ _ _ _ hk hs
  |ret=>exact hQ .ret _ _ _ _ _ _ _ _ hk hs
 | .loop c,l,H,nx,iv,w,Q',h,OZ,O,a,w',sat,Q,hQ=>by
  obtain⟨α,st,μ,I,h0,hr⟩:=h;intro b k cs;have key:∀m x O a w',μ x=m->I x->Sat n (st x).l (st x).H (st x).nx (st x).iv B (st x).w O a w'->
    ∃e a' w2,Q e a' w2∧Arrives P (lone (b.at a (.code c:: .inLoop c::k)) cs w') b k cs e a' w2:=by
   intro m
   induction m using Nat.strongRecOn with
   |_ m ih=>
    intro x O a w' hm hI hs;have hc:=iX hτ c _ _ _ _ _ _ (hr x hI) OZ O a w' hs
     (fun e a2 w2=>match e with
      | .normal=>∃y ρ2,I y∧Sat n (st y).l (st y).H (st y).nx (st y).iv B (st y).w ρ2 a2 w2∧μ y<μ x
      |e=>Q e a2 w2) (fun e l' H' Oe iv' w2 ρ' a' w3 hk Tw=>by
       cases e with
       |normal=>
        obtain⟨y,hIy,hy,PF⟩:=hk ρ' w3 Tw.rel;obtain⟨ρ2,Qa⟩:=hy.sat Tw;exact⟨y,ρ2,hIy,Qa,PF⟩
       |exit id=>exact hQ (.exit id) _ _ _ _ _ _ _ _ hk Tw
       |ret=>exact hQ .ret _ _ _ _ _ _ _ _ hk Tw)
    obtain⟨e,a₁,w₁,hq,Sr⟩:=hc b (.inLoop c::k) cs
    cases e with
    |normal=>
     obtain⟨y,ρ2,hIy,Qa,PF⟩:=hq;obtain⟨e₂,a₂,w₂,hq₂,harr₂⟩:=ih (μ y) (hm▸PF) y ρ2 a₁ w₁ rfl hIy Qa;exact⟨e₂,a₂,w₂,hq₂,.of_steps (Steps.trans Sr (.one step_inLoop)) harr₂⟩
    |exit id=>exact⟨_,a₁,w₁,hq,.pass (x:=.inLoop c) rfl (fun _ _=>.inl (by simp)) Sr⟩
    |goto l=>exact⟨_,a₁,w₁,hq,.pass (x:=.inLoop c) rfl (fun _ _=>.inl (by simp)) Sr⟩
    |ret=>exact⟨_,a₁,w₁,hq,.pass (x:=.inLoop c) rfl (fun _ _=>.inl (by simp)) Sr⟩
    |panic ch=>exact⟨_,a₁,w₁,hq,.pass (x:=.inLoop c) rfl (fun _ _=>.inl (by simp)) Sr⟩
    |outgrown=>exact⟨_,a₁,w₁,hq,.pass (x:=.inLoop c) rfl (fun _ _=>.inl (by simp)) Sr⟩
  obtain⟨x,hIx,hx⟩:=h0 O w' sat.rel;obtain⟨ρ2,Qa⟩:=hx.sat sat;obtain⟨e,a',w2,hq,Sr⟩:=key _ x ρ2 a w' rfl hIx Qa;exact⟨e,a',w2,hq,.of_steps (.one step_loop) Sr⟩
 | .exit id,l,H,nx,iv,w,Q',h,_,O,a,w',sat,Q,hQ=>wp_exit (hQ (.exit id) _ _ _ _ _ _ _ _ h sat)
 | .ret,l,H,nx,iv,w,Q',h,_,O,a,w',sat,Q,hQ=>wp_ret (hQ .ret _ _ _ _ _ _ _ _ h sat)
 | .rangeFunc _ _ _ _,l,H,nx,iv,w,Q',h,_,O,a,w',sat,Q,hQ=>h.elim
 | .scope _,l,H,nx,iv,w,Q',h,_,O,a,w',sat,Q,hQ=>h.elim
 | .label _,l,H,nx,iv,w,Q',h,_,O,a,w',sat,Q,hQ=>h.elim
 | .goto _,l,H,nx,iv,w,Q',h,_,O,a,w',sat,Q,hQ=>h.elim
 | .refuse _,l,H,nx,iv,w,Q',h,_,O,a,w',sat,Q,hQ=>h.elim
def fm:Nat->List Value->Env
 |_,[]=>[]
 |k,v::r=>(k,.o (.v v))::fm (k+1) r
theorem sU:∀(vs:List Value) (k t:Nat) (v:SV),fu (fm k vs) t=some v->k<=t∧∃x,v= .o (.v x)∧vs[t-k]? =some x
 |[],k,t,v,h=>by simp[fm,fu]at h
 |x::r,k,t,v,h=>by
  rw[fm,fA]at h;split at h
  ·rename_i e;subst e;injection h with h;subst h;exact⟨Nat.le_refl _,x,rfl,by simp⟩
  ·obtain⟨h1,y,h2,h3⟩:=sU r (k+1) t v h;refine⟨by omega,y,h2,?_⟩;rw[show t-k=(t-(k+1))+1 by omega];simpa using h3
def El(τ:nF)(B:Nat)(l:Env)(H:Hp)(nx:Nat)(iv:Iv)(w:World):List ResultVar->(List SV->Prop)->Prop
 |[],k=>k []
 | .tmp t::r,k=>match fu l t with
  |some v=>El τ B l H nx iv w r (fun vs=>k (v::vs))
  |none=>False
 | .cell t ty::r,k=>match fu l t with
  |some v=>By τ B ty v H nx iv w (fun u=>El τ B l H nx iv w r (fun vs=>k (u::vs)))
  |none=>False
def KP(B:Nat)(H:Hp)(nx:Nat)(iv:Iv)(w:World)(R:Ending->World->Prop):List SV->Prop
 |[v]=>∀O w',Rel H nx iv B w O w'->R (.returned (v.den O)) w'
 |vs=>∀O w',Rel H nx iv B w O w'->R (.returned (.tuple (oB O vs))) w'
def OR(τ:nF)(B:Nat)(rs:List ResultVar)(R:Ending->World->Prop):Ex->KT
 | .exit _,_,_,_,_,_=>False
 | .normal,l,H,nx,iv,w=>El τ B l H nx iv w rs (KP B H nx iv w R)
 | .ret,l,H,nx,iv,w=>El τ B l H nx iv w rs (KP B H nx iv w R)
def KQ(tmps:Array Value):ResultVar->Sem Value
 | .tmp t=>pure (tmps.getD t undef)
 | .cell c t=>do loadVar t (<-asAddr (tmps.getD c undef))
theorem vN(hτ:fk P τ)(sat:Sat n l H nx iv B w O a w'):∀{rs:List ResultVar} {k:List SV->Prop},El τ B l H nx iv w rs k->
  ∃vs,k vs∧(rs.mapM (KQ a.tmps)).run P w'= .ok (vs.map (SV.den O)) w'
 |[],k,h=>⟨[],h,by simp⟩
 | .tmp t::r,k,h=>by
  unfold El at h;split at h
  ·rename_i v hv;obtain⟨vs,h1,h2⟩:=vN hτ sat h;have:=sat.env t v hv;exact⟨v::vs,h1,by rw[List.mapM_cons,Sem.run_bind];simp[KQ,this,h2]⟩
  ·exact h.elim
 | .cell t ty::r,k,h=>by
  unfold El at h;split at h
  ·rename_i v hv;obtain⟨u,h1,hu,XJ⟩:=oJ hτ sat.rel (sat.sc t v hv) h;have Oj:=XJ w' sat.rel;clear XJ;obtain⟨vs,h2,h3⟩:=vN hτ sat h1;have htm:=sat.env t v hv;refine⟨u::vs,h2,?_⟩;have:(do loadVar ty (<-asAddr (v.den O)):Sem Value).run P w'= .ok (u.den O) w':=by
    revert Oj;generalize v.den O=x;intro Oj
    cases x with
    |pointer ad=>
     cases ad with
     |some ad=>simpa [asAddr,Instr.loadAt,Instr.sureAddr]using Oj
     |none=>simp[Instr.loadAt,Instr.sureAddr]at Oj
    |_=>simp[Instr.loadAt,Instr.sureAddr]at Oj
   have h4:(KQ a.tmps (.cell t ty)).run P w'= .ok (u.den O) w':=by
    have e:a.tmps.getD t undef=v.den O:=by simp[htm]
    show(do loadVar ty (<-asAddr (a.tmps.getD t undef)):Sem Value).run P w'=_;rw[e];exact this
   rw[List.mapM_cons,Sem.run_bind,h4];simp[h3]
  ·exact h.elim
theorem Em(hτ:fk P τ){f:FuncId}{fn:Func}{c:Code}{args:Array Value}{w:World}(hf:P.funcs[f]? =some fn)(hb:fn.body=some c)
  (hn:args.size<=fn.ntmps) (OZ:codeOk fn.ntmps c=true) (h:mm P τ w.heap.size c (fm 0 args.toList) [] 0 [] w (OR τ w.heap.size fn.results.toList R)):Calls P f args w R:=by
 refine calls_of_wp hf hb ?_;have sat:Sat fn.ntmps (fm 0 args.toList) [] 0 [] w.heap.size w (fun _=>⟨0,0,true⟩) {tmps:=args++Array.replicate (fn.ntmps-args.size) undef,defers:=[]} w:=by
  refine⟨Rel.mk' rfl rfl rfl (Nat.le_refl _) (Nat.le_refl _) (by simp) (by simp[dD]) (by simp[dD]) (by simp[dD]) (by simp[dD]) (by simp[dD]) (fun _ _ _=>rfl) (by simp),by simp;omega,rfl,fun t v hv=>?_,fun t v hv=>?_⟩
  ·obtain⟨_,x,rfl,hx⟩:=sU _ 0 t v hv;simp only[Nat.sub_zero,bG]at hx;rw[Array.getElem?_append_left (bA.1 hx).1,hx];rfl
  ·obtain⟨_,x,rfl,hx⟩:=sU _ 0 t v hv;trivial
 refine iX hτ c _ _ _ _ _ _ h OZ _ _ _ sat _ fun e l' H' Oe iv' w2 ρ' a' w3 hk hs=>?_;have fin:El τ w.heap.size l' H' Oe iv' w2 fn.results.toList (KP w.heap.size H' Oe iv' w2 R)->a'.defers=[]∧∃v,(results fn a'.tmps).run P w3= .ok v w3∧R (.returned v) w3:=by
  intro hk;obtain⟨vs,h1,h2⟩:=vN hτ hs hk;refine⟨hs.defers,if PH:(vs.map (SV.den ρ')).toArray.size=1 then(vs.map (SV.den ρ')).toArray[0]else .tuple (vs.map (SV.den ρ')).toArray,?_,?_⟩
  ·have e:(fn.results.mapM (KQ a'.tmps)).run P w3= .ok (vs.map (SV.den ρ')).toArray w3:=by
    rw[Array.mapM_eq_mapM_toList];simp only[Sem.run_map,h2,Result.andThen_ok]
   show(do let vs <-fn.results.mapM (KQ a'.tmps);pure (if h:vs.size=1 then vs[0]else .tuple vs):Sem Value).run P w3=_;rw[Sem.run_bind,e];simp only[Result.andThen_ok,Sem.run_pure]
  ·match vs,h1 with
   |[v],h1=>simpa using h1 ρ' w3 hs.rel
   |[],h1=>simpa [oB]using h1 ρ' w3 hs.rel
   |v1::v2::r,h1=>simpa [oB]using h1 ρ' w3 hs.rel
 cases e with
 |normal=>exact fin hk
 |exit id=>exact hk.elim
 |ret=>exact fin hk
end
section
variable{P:Program}{ops:Array Oper}{Q:Exit->Act->World->Prop}{md:Region.Mode}
def iY(P:Program)(ops:Array Oper)(pu:Bool)(o:Oper)(v:Value)(a:Act)(w:World):Prop:=
 (Region.wanted o (yielded ops a.tmps)=true∧∀w2,(pu=true∨Ext w w2)->(execOp a.eval o).run P w2= .ok (.value v) w2)∨
 (Region.wanted o (yielded ops a.tmps)=false∧v=undef)
theorem Ext.refl(w:World):Ext w w:=RowKit.Below.refl _ _
theorem Ext.trans{a b c:World}(h:Ext a b)(k:Ext b c):Ext a c:=RowKit.Below.trans h (k.mono h.size)
theorem iY.wpOp{i:Nat}{o:Oper}{a:Act}(hi:ops[i]? =some o)(hy:iY P ops pu o v a w)
  {K:Act->World->Prop} (h:K (a.put o.dst v) w):wpOp P ops Q i K a w:=by
 unfold Go.wpOp;simp only[hi]
 rcases hy with⟨hw,hv⟩|⟨hw,rfl⟩
 ·simp only[hw,if_true,Oper.wp,hv w (.inr (Ext.refl w)),Oper.upon];exact .inl h
 ·simp only[hw,Bool.false_eq_true,if_false];exact h
theorem iY.of_same{o:Oper}{a a':Act}(hy:iY P ops pu o v a w)(he:execOp a'.eval o=execOp a.eval o)
  (hw:Region.wanted o (yielded ops a'.tmps)=Region.wanted o (yielded ops a.tmps)):iY P ops pu o v a' w:=by
 unfold iY at*
 rw[he,hw];exact hy
theorem iY.ext{o:Oper}{a:Act}(hy:iY P ops pu o v a w)(e:pu=true∨Ext w w2):iY P ops pu o v a w2:=
 hy.imp (fun ⟨h1,h2⟩=>⟨h1,fun w3 h3=>h2 w3 (by
  rcases h3 with h3|h3
  ·exact .inl h3
  ·exact e.imp id (fun e=>e.trans h3))⟩) id
theorem Iy{oi oj:Oper}{w0:World}(hj:ops[j]? =some oj)(RY:oi.apart ops oj=true)
  (hsi:∀cs b,oi.op≠ .select cs b) (hsj:∀cs b,oj.op≠ .select cs b)
  (hQ:∀c a w,Q (.panic c) (a.put oi.dst v) w->Q (.panic c) a w) {K:Act->World->Prop} {a:Act}
  (hy:iY P ops pu oi v a w0) (h:wpOp P ops Q j K (a.put oi.dst v) w):
  wpOp P ops Q j (fun a' w'=>iY P ops pu oi v a' w0∧K (a'.put oi.dst v) w') a w:=by
 obtain⟨h1,h2,h3⟩:=Oper.apart_spec RY;have cJ:∀(a:Act),iY P ops pu oi v a w0->∀u,iY P ops pu oi v (a.put oj.dst u) w0:=fun a hy u=>
  hy.of_same (execOp_put oi hsi a oj.dst u h3) (wanted_put oi a oj.dst u h3)
 have keepD:∀d,iY P ops pu oi v {a with defers:=d::a.defers} w0:=fun d=>hy.of_same rfl rfl;unfold wpOp at*
 simp only[hj]at*
 rw[wanted_put oj a oi.dst v h1]at h;split
 ·rename_i hw;simp only[hw,if_true]at h;rcases h with h|⟨Ss,VB⟩
  case inr=>exact .inr ⟨by unfold Oper.asks at *;rw[execOp_put oj hsj a oi.dst v h1]at Ss;exact Ss,VB⟩
  refine .inl ?_;unfold Oper.wp at*
  rw[execOp_put oj hsj a oi.dst v h1]at h;generalize (execOp a.eval oj).run P w=r at*
  cases r with
  |ok n w'=>
   cases n<;>simp only[Oper.upon]at h ⊢
   case value u=>exact⟨cJ a hy u,by rw[<-Act.put_comm a v u h2];exact h⟩
   case skip=>exact⟨cJ a hy _,by rw[<-Act.put_comm a v undef h2];exact h⟩
   case defer d=>
    refine⟨cJ _ (keepD d) _,?_⟩;rw[<-Act.put_comm _ v undef h2,<-Act.put_defers];exact h
   case enter f args=>
    refine Calls.mono h fun e w'' he=>?_
    cases e with
    |returned u=>exact⟨cJ a hy u,by rw[<-Act.put_comm a v u h2];exact he⟩
    |panicked c=>exact hQ _ _ _ he
    |outgrown=>exact he
   case row row args=>exact Rows.mono h fun u w'' he=>⟨cJ a hy u,by rw[<-Act.put_comm a v u h2];exact he⟩
  |halt x w'=>
   cases x<;>simp only[Oper.upon]at h ⊢
   case panic u=>exact hQ _ _ _ h
 ·rename_i hw;simp only[hw]at h;exact⟨cJ a hy _,by rw[<-Act.put_comm a v undef h2];exact h⟩
def rV(o:Oper):Bool:= !(vG o.op||M7 o.op||(match o.op with
 | .call ⟨.value _,_,_⟩=> !(Nat.beq o.type 0)
 |_=>false))
def gL(o:Oper):Bool:=match o.op with
 | .call ⟨.value _,_,_⟩=>Nat.beq o.type 0
 |_=>false
theorem sP{o:Oper}(h:vG o.op=true):gL o=false:=by
 unfold gL;split
 ·rename_i e;rw[e]at h
  cases h
 ·rfl
theorem GX{o:Oper}(h:M7 o.op=true):gL o=false:=by
 unfold gL;split
 ·rename_i e;rw[e]at h
  cases h
 ·rfl
theorem rf{o:Oper}(h:rV o=false):gL o=false:=by
 unfold gL;split
 ·rename_i e;simp only[rV,e,vG,M7,Bool.false_or,Bool.not_not]at h;exact h
 ·rfl
def vI(P:Program)(md:Region.Mode)(ops:Array Oper)(Q:Exit->Act->World->Prop):Nat->Array Bool->Act->World->Prop
 |0,listed,a,w=>Region.ready md ops listed=[]∧Q .normal a w
 |fuel+1,listed,a,w=>
  (Region.ready md ops listed=[]->Q .normal a w)∧
  ∀i∈Region.ready md ops listed,wpOp P ops Q i (fun a' w'=>((∀o,ops[i]? =some o->rV o=false)->Ext w w')∧vI P md ops Q fuel (listed.setIfInBounds i true) a' w') a w
theorem yp:∀(fuel:Nat) (listed:Array Bool) (a:Act) (w:World),vI P md ops Q fuel listed a w->wpAny P md ops Q fuel listed a w
 |0,_,_,_,h=>h
 |fuel+1,_,_,_,h=>⟨h.1,fun i hi=>wpOp_mono (fun a' w' h'=>yp fuel _ a' w' h'.2) (h.2 i hi)⟩
theorem tP{i:Nat}{oi:Oper}(hi:ops[i]? =some oi)(PU:∀(j:Nat) (o:Oper) cs b,ops[j]? =some o->o.op≠ .select cs b)
  (hQ:∀c a w,Q (.panic c) (a.put oi.dst v) w->Q (.panic c) a w) (vH:Nat->Prop) (QD:∀j,vH j->∃oj e,ops[j]? =some oj∧e∈oj.after∧Region.binds md e=true∧(e.on=i∨vH e.on)):
  ∀(fuel:Nat) (listed:Array Bool) (a:Act) (w:World),(∀j,vH j->listed.getD j false=false)->
   (∀j oj,ops[j]? =some oj->j≠i->listed.getD j true=false->¬vH j->oi.apart ops oj=true∧(pu=true∨rV oj=false))->
   i∈Region.ready md ops listed->iY P ops pu oi v a w->
   vI P md ops Q fuel (listed.setIfInBounds i true) (a.put oi.dst v) w->vI P md ops Q (fuel+1) listed a w:=by
 intro fuel
 induction fuel with
 |zero=>
  intro listed a w _ _ hr hy H;refine⟨fun h=>(by rw[h]at hr;cases hr),fun j hj=>?_⟩;by_cases PZ:j=i
  ·subst PZ;exact hy.wpOp hi ⟨fun _=>Ext.refl w,H⟩
  ·have:=ready_mono hj PZ;rw[H.1]at this
   cases this
 |succ fuel ih=>
  intro listed a w PQ Q2 hr hy H;refine⟨fun h=>(by rw[h]at hr;cases hr),fun j hj=>?_⟩;by_cases PZ:j=i
  ·subst PZ;exact hy.wpOp hi ⟨fun _=>Ext.refl w,H⟩
  ·have h1:=H.2 j (ready_mono hj PZ);obtain⟨VC,oj,RU,QX⟩:=mem_ready.1 hj;have PR:¬vH j:=fun hb=>by
    obtain⟨oj',e,SY,he,hbi,Uk⟩:=QD j hb;rw[RU]at SY;injection SY with SY;subst SY;have h1:=QX e he hbi;rcases Uk with heq|QW
    ·have h0:=(mem_ready.1 hr).1;rw[heq]at h1;rcases aS i listed.size with h'|h'
     ·simp[h']at h0 h1;rw[h0]at h1;cases h1
     ·simp[Array.getElem?_eq_none h']at h1
    ·rw[PQ _ QW]at h1;cases h1
   have TH:=Q2 j oj RU PZ VC PR;have h2:=Iy RU TH.1 (fun cs b=>PU i oi cs b hi) (fun cs b=>PU j oj cs b RU) hQ hy h1;have hbl':∀k,vH k->(listed.setIfInBounds j true).getD k false=false:=fun k hk=>by
    rw[getD_set_ne false (fun e=>(by subst e;exact PR hk))];exact PQ k hk
   have TU:∀k ok,ops[k]? =some ok->k≠i->(listed.setIfInBounds j true).getD k true=false->
     ¬vH k->oi.apart ops ok=true∧(pu=true∨rV ok=false):=fun k ok hk Vx SC SD=>by
    refine Q2 k ok hk Vx ?_ SD;by_cases S2:j=k
    ·subst S2;exact VC
    ·rw[getD_set_ne true S2]at SC;exact SC
   refine wpOp_mono (fun a' w' h3=>?_) h2;have S8:rV oj=false->Ext w w':=fun hf=>h3.2.1 (fun o ho=>by rw[RU]at ho;injection ho with ho;subst ho;exact hf);refine⟨fun hh=>S8 (hh oj RU),ih (listed.setIfInBounds j true) a' w' hbl' TU (ready_mono hr (Ne.symm PZ)) (h3.1.ext (TH.2.imp id S8)) ?_⟩;rw[Array.setIfInBounds_comm _ _ PZ];exact h3.2.2
end
section
variable{P:Program}{τ:nF}{B n nx:Nat}{l:Env}{H:Hp}{iv:Iv}{w w':World}{O:Nat->dw}{a:Act}
def AL(P:Program)(o:Oper)(a:Act)(mk:Nat->Value)(obj:Obj):Prop:=
 ∀w:World,(execOp a.eval o).run P w= .ok (.value (mk w.heap.size)) (w.alloc obj)
theorem AL.uniq{o:Oper}{mk':Nat->Value}{obj':Obj}(h:AL P o a mk obj)(h':AL P o a mk' obj'):obj=obj'∧mk=mk':=by
 have key:∀w:World,mk w.heap.size=mk' w.heap.size∧w.alloc obj=w.alloc obj':=fun w=>by
  have:=(h w).symm.trans (h' w);injection this with h1 h2;injection h1 with h1;exact⟨h1,h2⟩
 refine⟨?_,funext fun g=>?_⟩
 ·have:=(key default).2;have h2:=congrArg (fun w:World=>w.heap[(default:World).heap.size]?) this;simp only[heap_alloc_new]at h2;injection h2
 ·have:=(key {(default:World)with heap:=Array.replicate g default}).1;simpa using this
theorem oC(hτ:fk P τ){o:Oper}(h:yh dr P τ B o l H nx iv w K)(sat:Sat n l H nx iv B w O a w')(hk:M7 o.op=true):
  ∃b v mk obj,K v ((nx,b)::H) (nx+1) iv w∧b≠ .dead∧b.scopd nx∧v.sc (nx+1)∧(∀g,v.den (gS O nx ⟨g,0,false⟩)=mk g)∧(∀g w2,w2.heap[g]? =some obj->b.fits O ⟨g,0,false⟩ w2)∧AL P o a mk obj:=by
 obtain⟨dst,op,ty,pos,after,guard⟩:=o;unfold yh at h;split at h<;>first|(exact False.elim h)|(rename_i Tt;simp only at Tt;subst Tt)
 all_goals first|(exact absurd hk Bool.false_ne_true)|skip
 ·rename_i t;split at h
  ·rename_i sz ag by_ ze tag ik e al fs Qe;have hK:=gA h;refine⟨_,_,fun g=>.pointer (some ⟨g,0,none⟩),.cells ze.toArray t,hK,by simp,(fun c hc=>by obtain⟨v,_,rfl⟩:=aV.1 hc;trivial),by simp[SV.sc,At.sc],fun g=>by simp[SV.den,At.den],fun g w2 hg=>⟨rfl,by rw[fw];exact hg⟩,fun w=>?_⟩;obtain⟨z,Ov,Ps⟩:=(hτ t _ Qe).zeroV w;simp only at Ps;have hzz:z.cells=ze.toArray:=by apply Array.ext';simpa using Ps
   simp[execOp,Instr.alloc,Ov,newVar,newRow,hzz]
  ·exact h.elim
 ·rename_i t x;obtain⟨v,h1,hv,hs⟩:=da sat h;obtain⟨cs,hK,Pe,R1⟩:=mJ h1;refine⟨_,_,fun g=>.pointer (some ⟨g,0,none⟩),.cells (cs.map (At.den O)).toArray t,hK,by simp,R1 nx hs,by simp[SV.sc,At.sc],fun g=>by simp[SV.den,At.den],fun g w2 hg=>⟨rfl,hg⟩,fun w=>?_⟩;simp[execOp,Instr.box,hv,newVar,newRow,Pe O]
 ·rename_i t m parts;split at h
  ·rename_i sz ag by_ ze tag ik e al fs Qe;have ht:=hτ t _ Qe;split at h
   ·rename_i PJ;have hu:=ht.i4 (eW PJ);simp only at hu;split at h
    ·rename_i sz' ag' by' ze' tag' ik' e' al' fs' Pr
     have Pr:=hτ e _ Pr;obtain⟨inf,z,hi,PH,Oq,hz,R0⟩:=Pr.info;have Rk:=Pr.GZ;simp only at PH Oq R0 Rk;split at h
     ·rename_i hle;have hle:=Nat.le_of_ble_eq_true hle;have h0:=gA h;obtain⟨cs',hK,PI,hlen,QF⟩:=kX sat (placeF:=fun i=>some (i*inf.size,inf.size)) (fun i k hk=>⟨i*sz',sz',hk,by rw[PH]⟩) h0
       (fun c hc=>by obtain⟨v,_,rfl⟩:=aV.1 hc;trivial)
      rw[fw]at QF;have RL:z.cells=ze'.toArray:=by apply Array.ext';simpa using R0
      have VA:((List.replicate m ze').flatten).toArray=madeCells z.cells (m*inf.size):=by
       rw[RL,PH,<-Rk];exact(rE ze' m).symm
      refine⟨_,_,fun g=>.slice (some ⟨g,0,none⟩) m m,.cells (cs'.map (At.den O)).toArray e,hK,by simp,PI,by simp[SV.sc,At.sc],fun g=>by simp[SV.den,At.den],fun g w2 hg=>⟨rfl,hg⟩,fun w=>?_⟩;simp only[execOp]
      refine mK ?_;rw[VA]at QF;by_cases Py:m*inf.size=0
      ·have Rw:Instr.fill (fun i=>some (i*inf.size,inf.size)) (madeCells z.cells 0) (parts.toList.map fun p=>(p.1,a.eval p.2))=some (cs'.map (At.den O)).toArray:=by rw[Py]at QF;exact QF
       have e0:madeCells z.cells 0= #[]:=by simp[madeCells]
       rw[e0]at Rw;have er:Array.range 0= #[]:=rfl;simp[Instr.buildSlice,run_underlying hu,sizeOf,typeInfo,zeroValue,hi,hz,Py,newRow,Rw,er]
      ·exact run_buildSlice w t e m _ _ inf z hu hi hz (by rw[PH];omega) Py (by rw[<-QF];simp[madeCells])
     ·exact h.elim
    ·exact h.elim
   ·exact h.elim
  ·exact h.elim
 ·rename_i t x y;obtain⟨v,h1,hv,RV⟩:=da sat h;obtain⟨u,h2,hu,hus⟩:=da sat h1;clear RV hus;unfold Hq at h2;split at h2
  ·rename_i k1 a1 k2 b1;split at h2
   ·rename_i sz ag by_ ze tag ik e al fs Qe;have ht:=hτ t _ Qe;split at h2
    ·rename_i PJ;have hut:=ht.i4 (eW PJ);simp only at hut;split at h2
     ·rename_i sz' ag' by' ze' tag' ik' e' al' fs' Pr
      have Pr:=hτ e _ Pr;obtain⟨inf,z,hi,PH,Oq,hz,R0⟩:=Pr.info;simp only at PH Oq R0;obtain⟨m,c,rfl,rfl,Uy,hbytes,h63,h3⟩:=h2;have Qf:(inf.bytes:Int)*(c:Int)<=281474976710656:=by
       rw[Oq];have QW:((by'*c:Nat):Int)<=281474976710656:=by omega
       rwa [Int.natCast_mul]at QW
      have Oj:=fun w:World=>run_make (P:=P) w t e inf z hut hi hz k1 k2 (m:Int) (c:Int) (by omega) (by omega) Qf (by omega);simp only[aF]at Oj;have Rk:=Pr.GZ;simp only at Rk;have RL:z.cells=ze'.toArray:=by apply Array.ext';simpa using R0
      have fin:∀cs:List Value,cs.toArray=madeCells z.cells (c*inf.size)->BV (.arr e cs) H nx (fun H' Oe=>K (.o (.s nx 0 m c)) H' Oe iv w)->
        ∃b v mk obj,K v ((nx,b)::H) (nx+1) iv w∧b≠ .dead∧b.scopd nx∧v.sc (nx+1)∧(∀g,v.den (gS O nx ⟨g,0,false⟩)=mk g)∧(∀g w2,w2.heap[g]? =some obj->b.fits O ⟨g,0,false⟩ w2)∧
         AL P ⟨dst,.makeSlice t x y,ty,pos,after,guard⟩ a mk obj:=by
       intro cs PI hK;refine⟨_,_,fun g=>.slice (some ⟨g,0,none⟩) m c,.cells cs.toArray e,hK,by simp,trivial,by simp[SV.sc,At.sc],fun g=>by simp[SV.den,At.den],fun g w2 hg=>⟨rfl,hg⟩,fun w=>?_⟩;simp only[execOp,hv,hu]
       refine mK ?_;rw[show SV.den O (.o (.v (.int k1 m)))= .int k1 m from rfl,show SV.den O (.o (.v (.int k2 c)))= .int k2 c from rfl,Oj w,PI]
      split at h3
      ·rename_i z0;refine fin _ ?_ h3;have:inf.size=1:=by rw[PH,<-Rk];rfl
       rw[this,aZ,RL,Ej]
      ·refine fin _ ?_ h3;rw[PH,<-Rk,RL,rE]
     ·exact h2.elim
    ·exact h2.elim
   ·exact h2.elim
  ·exact h2.elim
end
inductive It where
 |x (i:Nat)
 |p (i:Nat)
def ER:Env->Nat->(Env->Prop)->Prop
 |[],_,k=>k []
 |(t,v)::r,u,k=>match Nat.beq t u with
  |true=>ER r u k
  |false=>ER r u (fun r'=>k ((t,v)::r'))
def aAl(d:Option Tmp)(l:Env)(k:Env->Prop):Prop:=match d with
 |some t=>ER l t k
 |none=>k l
def sM:List Oper->Nat->(Oper->Prop)->Prop
 |[],_,_=>False
 |o::_,0,k=>k o
 |_::r,n+1,k=>sM r n k
def KB(P:Program)(τ:nF)(B:Nat)(all:List Oper):List It->Env->Hp->Nat->Iv->World->KT->Prop
 |[],l,H,nx,iv,w,K=>K l H nx iv w
 | .x i::r,l,H,nx,iv,w,K=>sM all i (fun o=>iW (!gL o) P τ B all o l H nx iv w (fun l' H' Oe iv' w'=>KB P τ B all r l' H' Oe iv' w' K))
 | .p i::r,l,H,nx,iv,w,K=>sM all i (fun o=>yh true P τ B o l H nx iv w (fun _ _ _ _ _=>aAl o.dst l (fun l'=>KB P τ B all r l' H nx iv w K)))
def Ic(ops:Array Oper)(o:Oper)(j:Nat):Bool:=match ops[j]? with
 |some oj=>o.apart ops oj
 |none=>false
def ES(la:Array Bool):List Nat->Array Bool
 |[]=>la
 |i::r=>ES (la.setIfInBounds i true) r
def tb(m j:Nat):Bool:=Nat.beq ((m >>> j) % 2) 1
def jB:List Bool->Nat->Nat
 |[],_=>0
 |true::r,j=>(1 <<< j) ||| jB r (j+1)
 |false::r,j=>jB r (j+1)
def BT(m i:Nat):List Oper->Nat->Nat->Nat
 |[],_,b=>b
 |o::r,j,b=>match(!tb m j&& !Nat.beq j i)&&o.after.toList.any (fun e=>Region.binds .any e&&(Nat.beq e.on i||tb b e.on))with
  |true=>BT m i r (j+1) (b ||| (1 <<< j))
  |false=>BT m i r (j+1) b
def Hl(ops:Array Oper)(m i:Nat)(oi:Oper)(b:Nat):List Oper->Nat->Bool
 |[],_=>true
 |oj::r,j=>(Nat.beq j i||tb m j||tb b j||(oi.apart ops oj&&(Ie oi.op|| !rV oj)))&&Hl ops m i oi b r (j+1)
def Nm(ops:Array Oper)(m:Nat)(Pd:List Nat)(i:Nat)(oi:Oper)(b:Nat):Bool:=Pd.all (fun j=> !tb b j)&&Hl ops m i oi b ops.toList 0
def Hm(ops:Array Oper)(m:Nat)(Pd:List Nat)(i:Nat)(oi:Oper):Bool:=Nm ops m Pd i oi (BT m i ops.toList 0 0)
def pZ(ops:Array Oper):List It->Array Bool->List Nat->Bool
 |[],lx,Pd=>(Region.ready .any ops lx).isEmpty&&Pd.isEmpty
 | .p i::r,lx,Pd=>match ops[i]? with
  |none=>false
  |some o=>M7 o.op&&o.guard.isNone&&(match o.dst with
     |some d=> !(o.looksAt ops).contains d
     |none=>false)&&(!lx.getD i true)&&Pd.all (fun j=> !Nat.beq j i)&&
    Pd.all (fun j=>Ic ops o j&&(match ops[j]? with
     |some oj=>oj.apart ops o
     |none=>false))&&pZ ops r lx (i::Pd)
 | .x i::r,lx,Pd=>match ops[i]? with
  |none=>false
  |some o=>(o.guard.isNone||Pd.isEmpty)&&(Region.ready .any ops lx).contains i&&
    Pd.all (fun j=>Nat.beq j i||Ic ops o j)&&
    (match vG o.op with
     |true=>Hm ops (jB lx.toList 0) Pd i o
     |false=>(!rV o||Pd.isEmpty)&&(Region.ready .any ops (ES lx (Pd.filter fun j=> !Nat.beq j i))).all (fun j=>Nat.beq j i))&&
    pZ ops r (lx.setIfInBounds i true) (Pd.filter fun j=> !Nat.beq j i)
theorem nG(h:j<la.size)(b c:Bool):la.getD j b=la.getD j c:=by
 rw[bB,bB,Array.getElem?_eq_getElem h];rfl
theorem nH{a b:Nat}:Nat.beq a b=false↔a≠b:=⟨fun h e=>(by subst e;rw[Nat.beq_refl]at h;cases h),fun h=>by
 cases hb:Nat.beq a b with
 |false=>rfl
 |true=>exact absurd (eW hb) h⟩
theorem KC{a b:Nat}(h:b<a):Nat.ble a b=false:=by
 cases hb:Nat.ble a b with
 |false=>rfl
 |true=>exact absurd (Nat.le_of_ble_eq_true hb) (by omega)
theorem sN(m j:Nat):tb m j=m.testBit j:=by
 rw[Nat.testBit_eq_decide_div_mod_eq,tb,Nat.shiftRight_eq_div_pow]
 cases h:decide (m / 2^j % 2=1)with
 |true=>rw[aI h];rfl
 |false=>exact nH.2 (aH h)
theorem ET(a b j:Nat):tb (a ||| b) j=(tb a j||tb b j):=by rw[sN,sN,sN,Nat.testBit_or]
theorem GS(i j:Nat):tb (1 <<< i) j=Nat.beq j i:=by
 rw[sN,Nat.one_shiftLeft,Nat.testBit_two_pow]
 cases h:Nat.beq j i with
 |true=>exact bh (eW h).symm
 |false=>exact bP fun e=>(nH.1 h) e.symm
theorem tN(j:Nat):tb 0 j=false:=by rw[sN,Nat.zero_testBit]
theorem EU:∀(l:List Bool) (k j:Nat),tb (jB l k) j=(Nat.ble k j&&l.getD (j-k) false)
 |[],k,j=>by unfold jB;rw[tN];simp
 |b::r,k,j=>by
  have e:tb (jB (b::r) k) j=((b&&Nat.beq j k)||tb (jB r (k+1)) j):=by
   cases b<;>simp only[jB,ET,GS,Bool.false_and,Bool.true_and,Bool.false_or]
  rw[e,EU r (k+1) j];rcases cA j k with h|h|h
  ·rw[nH.2 (by omega),Bool.and_false,Bool.false_or,KC (by omega),KC (by omega)];rfl
  ·subst h;rw[Nat.beq_refl,KC (by omega),Nat.ble_eq_true_of_le (Nat.le_refl j),bK];simp
  ·rw[nH.2 (by omega),Bool.and_false,Bool.false_or,Nat.ble_eq_true_of_le (show k+1<=j from h),Nat.ble_eq_true_of_le (Nat.le_of_lt h),show j-k=(j-(k+1))+1 by omega,List.getD_cons_succ]
def Rm(lx:Array Bool)(m:Nat):Prop:=∀j,tb m j=lx.getD j false
theorem yL(lx:Array Bool):Rm lx (jB lx.toList 0):=fun j=>by
 rw[EU,show Nat.ble 0 j=true from Nat.ble_eq_true_of_le (aR j),Bool.true_and,Nat.sub_zero,bB,List.getD,bG]
theorem Rm.eq{m':Nat}(h:Rm lx m)(h':Rm lx m'):m=m':=Nat.eq_of_testBit_eq fun j=>by rw[<-sN,<-sN,h,h']
theorem nI{ops:Array Oper}{m i:Nat}:∀(l:List Oper) (k b:Nat),(∀n o,l[n]? =some o->ops[k+n]? =some o)->
  (∀j,tb b j=true->tb m j=false∧j≠i∧∃oj e,ops[j]? =some oj∧e∈oj.after∧Region.binds .any e=true∧(e.on=i∨∃b2,tb b2 e.on=true∧b2=b))->
  ∀j,tb (BT m i l k b) j=true->tb m j=false∧j≠i∧∃oj e,ops[j]? =some oj∧e∈oj.after∧Region.binds .any e=true∧(e.on=i∨tb (BT m i l k b) e.on=true)
 |[],k,b,_,h,j,hj=>by
  obtain⟨h1,h2,oj,e,h3,h4,h5,h6⟩:=h j hj;exact⟨h1,h2,oj,e,h3,h4,h5,h6.imp id fun⟨_,h7,h8⟩=>h8▸h7⟩
 |o::r,k,b,hl,h,j,hj=>by
  have hr:∀n o',r[n]? =some o'->ops[k+1+n]? =some o':=fun n o' hn=>by
   have:=hl (n+1) o' (by simpa using hn)
   rwa [show k+(n+1)=k+1+n by omega]at this
  unfold BT at hj ⊢
  cases hc:((!tb m k&& !Nat.beq k i)&&o.after.toList.any (fun e=>Region.binds .any e&&(Nat.beq e.on i||tb b e.on)))with
  |false=>
   rw[hc]at hj;exact nI r (k+1) b hr h j hj
  |true=>
   rw[hc]at hj;refine nI r (k+1) (b ||| (1 <<< k)) hr (fun j hj=>?_) j hj;rw[ET,GS,Bool.or_eq_true]at hj;rcases hj with hj|hj
   ·obtain⟨h1,h2,oj,e,h3,h4,h5,h6⟩:=h j hj;refine⟨h1,h2,oj,e,h3,h4,h5,h6.imp id fun⟨b2,h7,h8⟩=>⟨_,?_,rfl⟩⟩;rw[ET,<-h8,h7];rfl
   ·have hj:=eW hj;subst hj;simp only[bC,Bool.not_eq_true',List.any_eq_true]at hc;obtain⟨⟨h1,h2⟩,e,he,h3,h4⟩:=hc;refine⟨h1,nH.1 h2,o,e,by have:=hl 0 o (by simp);simpa using this,by simpa using he,h3,?_⟩;rw[Bool.or_eq_true]at h4;exact h4.imp eW fun h5=>⟨_,by rw[ET,h5];rfl,rfl⟩
theorem yi{ops:Array Oper}{m i:Nat}{oi:Oper}{b:Nat}:∀(l:List Oper) (k:Nat),Hl ops m i oi b l k=true->∀n oj,l[n]? =some oj->k+n≠i->tb m (k+n)=false->tb b (k+n)=false->oi.apart ops oj=true∧(Ie oi.op=true∨rV oj=false)
 |[],_,_,n,oj,hn,_,_,_=>by simp at hn
 |o::r,k,h,n,oj,hn,h1,h2,h3=>by
  unfold Hl at h;rw[bC]at h
  cases n with
  |zero=>
   rw[List.getElem?_cons_zero]at hn;injection hn with hn;subst hn;rw[cD]at h1 h2 h3;rw[nH.2 h1,h2,h3]at h;simpa using h.1
  |succ n=>
   rw[List.getElem?_cons_succ]at hn;rw[show k+(n+1)=k+1+n by omega]at h1 h2 h3;exact yi r (k+1) h.2 n oj hn h1 h2 h3
theorem GU{ops:Array Oper}{i:Nat}{oi:Oper}(h:Hm ops (jB lx.toList 0) Pd i oi=true)(hs:lx.size=ops.size):∃vH:Nat->Prop,
  (∀j,vH j->∃oj e,ops[j]? =some oj∧e∈oj.after∧Region.binds .any e=true∧(e.on=i∨vH e.on))∧(∀j,vH j->lx.getD j false=false)∧(∀j∈Pd,¬vH j)∧
  ∀j oj,ops[j]? =some oj->j≠i->lx.getD j true=false->¬vH j->oi.apart ops oj=true∧(Ie oi.op=true∨rV oj=false):=by
 unfold Hm Nm at h;rw[bC]at h;have hm:=yL lx;have hb:=nI (ops:=ops) (m:=jB lx.toList 0) (i:=i) ops.toList 0 0 (fun n o hn=>by rw[aW];rwa [bG]at hn) (fun j hj=>by rw[tN]at hj;cases hj);generalize BT (jB lx.toList 0) i ops.toList 0 0=b at*
 refine⟨fun j=>tb b j=true,fun j hj=>(hb j hj).2.2,fun j hj=>(hm j).symm.trans (hb j hj).1,fun j hj hk=>?_,fun j oj RU PZ hl hk=>?_⟩
 ·have:=List.all_eq_true.1 h.1 j hj;rw[hk]at this;cases this
 ·have hj:=(bA.1 RU).1;exact yi ops.toList 0 h.2 j oj (by rw[bG];exact RU) (by omega) (by rw[aW,hm,nG (by omega) false true];exact hl) (by rw[aW];simpa using hk)
def EV(m:Nat):List Oper->Nat->List Nat
 |[],_=>[]
 |o::r,j=>match !tb m j&&o.after.toList.all (fun e=> !Region.binds .any e||tb m e.on)with
  |true=>j::EV m r (j+1)
  |false=>EV m r (j+1)
def sm(n m i:Nat):Nat:=match Nat.blt i n with
 |true=>m ||| (1 <<< i)
 |false=>m
def lsm(n:Nat)(m:Nat):List Nat->Nat
 |[]=>m
 |i::r=>lsm n (sm n m i) r
def GV(ops:Array Oper)(n:Nat):List It->Nat->List Nat->Bool
 |[],m,Pd=>(EV m ops.toList 0).isEmpty&&Pd.isEmpty
 | .p i::r,m,Pd=>match ops[i]? with
  |none=>false
  |some o=>M7 o.op&&o.guard.isNone&&(match o.dst with
     |some d=> !(o.looksAt ops).contains d
     |none=>false)&&(Nat.blt i n&& !tb m i)&&Pd.all (fun j=> !Nat.beq j i)&&
    Pd.all (fun j=>Ic ops o j&&(match ops[j]? with
     |some oj=>oj.apart ops o
     |none=>false))&&GV ops n r m (i::Pd)
 | .x i::r,m,Pd=>match ops[i]? with
  |none=>false
  |some o=>(o.guard.isNone||Pd.isEmpty)&&(EV m ops.toList 0).contains i&&
    Pd.all (fun j=>Nat.beq j i||Ic ops o j)&&
    (match vG o.op with
     |true=>Hm ops m Pd i o
     |false=>(!rV o||Pd.isEmpty)&&(EV (lsm n m (Pd.filter fun j=> !Nat.beq j i)) ops.toList 0).all (fun j=>Nat.beq j i))&&
    GV ops n r (sm n m i) (Pd.filter fun j=> !Nat.beq j i)
theorem Hn{ops:Array Oper}{lx:Array Bool}{m:Nat}(hR:Rm lx m)(hs:lx.size=ops.size):∀(l:List Oper) (k:Nat),(∀n,n<l.length->ops[k+n]? =l[n]?)->k+l.length<=ops.size->
  EV m l k=(List.range' k l.length).filter fun i=> !lx.getD i true&&((ops[i]?).map (·.after.all fun e=> !Region.binds .any e||lx.getD e.on false)).getD false
 |[],_,_,_=>rfl
 |o::r,k,h,hk=>by
  rw[List.length_cons]at hk
  have ih:=Hn hR hs r (k+1) (fun n hn=>by
   have:=h (n+1) (by simpa using hn)
   rw[show k+1+n=k+(n+1) by omega,this,List.getElem?_cons_succ]) (by omega)
  have h0:ops[k]? =some o:=by have:=h 0 (by simp);simpa using this
  rw[List.length_cons,List.range'_succ,List.filter_cons,<-ih];have e:(!lx.getD k true&&((ops[k]?).map (·.after.all fun e=> !Region.binds .any e||lx.getD e.on false)).getD false)=(!tb m k&&o.after.toList.all fun e=> !Region.binds .any e||tb m e.on):=by
   rw[h0,hR k,nG (by omega) true false,bf,Option.getD_some,Array.all_toList];simp only[hR _]
  rw[e,EV]
  cases (!tb m k&&o.after.toList.all fun e=> !Region.binds .any e||tb m e.on)<;>rfl
theorem GW{ops:Array Oper}(hR:Rm lx m)(hs:lx.size=ops.size):EV m ops.toList 0=Region.ready .any ops lx:=by
 rw[Hn hR hs ops.toList 0 (fun n _=>by rw[aW,bG]) (by simp)];unfold Region.ready;rw[List.range_eq_range',Array.length_toList]
theorem Rm.set(hR:Rm lx m)(i:Nat):Rm (lx.setIfInBounds i true) (sm lx.size m i):=fun j=>by
 unfold sm;rw[bB,Array.getElem?_setIfInBounds]
 cases h:Nat.blt i lx.size with
 |true=>
  have h:=Nat.le_of_ble_eq_true h;show tb (m ||| (1 <<< i)) j=_;rw[ET,GS];by_cases Pj:i=j
  ·rw[if_pos Pj,if_pos (by omega),Pj,Nat.beq_refl,Bool.or_true];rfl
  ·rw[aJ Pj,nH.2 (Ne.symm Pj),Bool.or_false,hR,bB]
 |false=>
  show tb m j=_;have h:¬i<lx.size:=fun h2=>by rw[show Nat.blt i lx.size=true from Nat.ble_eq_true_of_le h2]at h;cases h
  by_cases Pj:i=j
  ·rw[if_pos Pj,aJ h,hR,bB,<-Pj,Array.getElem?_eq_none (by omega)]
  ·rw[aJ Pj,hR,bB]
theorem KD:∀(r:List Nat) (lx:Array Bool),(ES lx r).size=lx.size
 |[],_=>rfl
 |i::r,lx=>by unfold ES;rw[KD r,bZ]
theorem Rm.ES{n:Nat}:∀(r:List Nat) (lx:Array Bool) (m:Nat),lx.size=n->Rm lx m->Rm (ES lx r) (lsm n m r)
 |[],_,_,_,h=>h
 |i::r,lx,m,hn,h=>by
  unfold Go.Sx.ES lsm;exact Rm.ES r _ _ (by rw[bZ];exact hn) (hn▸h.set i)
theorem DC{ops:Array Oper}:∀(π:List It) (lx:Array Bool) (m:Nat) (Pd:List Nat),lx.size=ops.size->Rm lx m->GV ops ops.size π m Pd=pZ ops π lx Pd
 |[],lx,m,Pd,hs,h=>by unfold GV pZ;rw[GW h hs]
 | .p i::r,lx,m,Pd,hs,h=>by
  unfold GV pZ
  cases ho:ops[i]? with
  |none=>rfl
  |some o=>
   have hi:=(bA.1 ho).1;simp only[DC r lx m (i::Pd) hs h,h i,nG (show i<lx.size by omega) true false,show Nat.blt i ops.size=true from Nat.ble_eq_true_of_le hi,Bool.true_and]
 | .x i::r,lx,m,Pd,hs,h=>by
  unfold GV pZ
  cases ho:ops[i]? with
  |none=>rfl
  |some o=>
   obtain rfl:=h.eq (yL lx);have h1:=DC r (lx.setIfInBounds i true) (sm ops.size (jB lx.toList 0) i) (Pd.filter fun j=> !Nat.beq j i) (by rw[bZ];exact hs) (hs▸h.set i);have h2:=GW (Rm.ES (n:=ops.size) (Pd.filter fun j=> !Nat.beq j i) lx (jB lx.toList 0) hs h) (by rw[KD];exact hs);simp only[h1,h2,GW h hs]
theorem ek{ops:Array Oper}:j∈Region.ready .any ops la↔
  la[j]? =some false∧∃o,ops[j]? =some o∧∀e∈o.after,Region.binds .any e=true->la[e.on]? =some true:=by
 rw[mem_ready];have h1:la.getD j true=false↔la[j]? =some false:=by
  rw[bB]
  cases la[j]? with
  |none=>simp
  |some b=>simp
 have h2:∀k,la.getD k false=true↔la[k]? =some true:=fun k=>by
  rw[bB]
  cases la[k]? with
  |none=>simp
  |some b=>simp
 simp only[h1,h2]
theorem p8{i:Nat}:(la.setIfInBounds i true)[j]? =some true↔la[j]? =some true∨(j=i∧j<la.size):=by
 rw[Array.getElem?_setIfInBounds];split
 ·rename_i h;subst h;by_cases hs:i<la.size
  ·simp[hs]
  ·simp[hs]
 ·rename_i h;simp[Ne.symm h]
theorem EW:∀(Pd:List Nat) (la:Array Bool),(ES la Pd).size=la.size
 |[],_=>rfl
 |i::r,la=>by simp[ES,EW r]
theorem yj:∀(Pd:List Nat) (la:Array Bool) (j:Nat),(ES la Pd)[j]? =some true↔la[j]? =some true∨(j∈Pd∧j<la.size)
 |[],_,_=>by simp[ES]
 |i::r,la,j=>by
  rw[ES,yj r,p8];simp only[bZ,List.mem_cons]
  constructor
  ·rintro((h|⟨h,hs⟩)|⟨h,hs⟩)
   ·exact .inl h
   ·exact .inr ⟨.inl h,hs⟩
   ·exact .inr ⟨.inr h,hs⟩
  ·rintro(h|⟨h|h,hs⟩)
   ·exact .inl (.inl h)
   ·exact .inl (.inr ⟨h,hs⟩)
   ·exact .inr ⟨h,hs⟩
def OL(la:Array Bool):Nat:=la.toList.countP (fun b=> !b)
theorem kx{i:Nat}(h:la[i]? =some false):OL (la.setIfInBounds i true)+1=OL la:=by
 obtain⟨hi,he⟩:=bA.1 h;have Qo:i<la.toList.length:=by simpa using hi
 have Py:0<la.toList.countP (fun b=> !b):=List.countP_pos_iff.2 ⟨false,by
  have:la[i]∈la:=Array.getElem_mem hi;rw[he]at this
  simpa using this,rfl⟩
 unfold OL;rw[Array.toList_setIfInBounds,List.countP_set Qo];simp only[Array.getElem_toList,he]
 simp only[Bool.not_false,if_true,Bool.not_true,Bool.false_eq_true,if_false,cD]
 exact Nat.sub_add_cancel Py
theorem sO:∀{l:Env} {u:Nat} {k:Env->Prop},ER l u k->∃l',k l'∧fu l' u=none∧∀t v,fu l' t=some v->t≠u∧fu l t=some v
 |[],u,k,h=>⟨[],h,rfl,fun t v h=>by cases h⟩
 |(t0,v0)::r,u,k,h=>by
  unfold ER at h;split at h
  ·rename_i hb;have hb:=eW hb;obtain⟨l',h1,h2,h3⟩:=sO h;refine⟨l',h1,h2,fun t v hv=>⟨(h3 t v hv).1,?_⟩⟩;rw[fA,aJ (fun e=>(h3 t v hv).1 (e.symm.trans hb))];exact(h3 t v hv).2
  ·rename_i hb;have OY:t0≠u:=fun e=>by subst e;rw[Nat.beq_refl]at hb;cases hb
   obtain⟨l',h1,h2,h3⟩:=sO h;refine⟨_,h1,?_,fun t v hv=>?_⟩
   ·rw[fA,aJ OY];exact h2
   ·rw[fA]at hv ⊢;split at hv
    ·rename_i e;subst e;exact⟨OY,by simpa using hv⟩
    ·rename_i e;rw[aJ e];exact h3 t v hv
theorem iH:∀{all:List Oper} {i:Nat} {k:Oper->Prop},sM all i k->∃o,all[i]? =some o∧k o
 |[],_,_,h=>h.elim
 |o::_,0,_,h=>⟨o,rfl,h⟩
 |_::r,n+1,_,h=>by obtain⟨o,h1,h2⟩:=iH (all:=r) h;exact⟨o,by simpa using h1,h2⟩
section
variable{P:Program}{τ:nF}{ops:Array Oper}{B n nx:Nat}{l:Env}{H:Hp}{iv:Iv}{w w':World}{O:Nat->dw}{a:Act}
structure M8(P:Program)(ops:Array Oper)(n B:Nat)(Pd:List Nat)(E:List (Nat×Nat))(lx la:Array Bool)(l:Env)(H:Hp)(nx:Nat)(iv:Iv)(w:World)(O:Nat->dw)(a:Act)(w':World):Prop where
 sat:Sat n l H nx iv B w O a w'
 M9:lx.size=ops.size
 Me:la.size=ops.size
 la:∀j,la[j]? =some true↔lx[j]? =some true∨∃g,(j,g)∈E
 Ig:∀j g,(j,g)∈E->j∈Pd
 pd:∀j∈Pd,lx[j]? =some false∧∃o d mk obj,ops[j]? =some o∧M7 o.op=true∧o.guard=none∧(o.dst=some d∧d∉o.looksAt ops)∧AL P o a mk obj∧fu l d=none∧
  ∀g,(j,g)∈E->a.tmps[d]? =some (mk g)∧w'.heap[g]? =some obj
 eg:∀j g,(j,g)∈E->B<=g∧(∀id b,dD H id=some b->(O id).nil=false->(O id).g≠g)∧∀lo hi,(lo,hi)∈iv->¬(lo<=g∧g<hi)
 inj:∀j g j',(j,g)∈E->(j',g)∈E->j=j'
 ap:∀j∈Pd,∀j'∈Pd,j≠j'->∀o o',ops[j]? =some o->ops[j']? =some o'->o.apart ops o'=true
theorem KE{l:Env}{u:Nat}(h:∀t v,fu l' t=some v->t≠u∧fu l t=some v){d:Nat}(hd:fu l d=none):fu l' d=none:=by
 cases hg:fu l' d with
 |none=>rfl
 |some v=>have:=(h d v hg).2;rw[hd]at this;cases this
theorem Oper.Bu{o oj:Oper}(ha:o.apart ops oj=true)(hs:∀cs b,oj.op≠ .select cs b)(h:AL P oj a mk obj):AL P oj (a.put o.dst u) mk obj:=by
 intro w;rw[execOp_put (ops:=ops) oj hs a o.dst u (Go.Oper.apart_spec ha).1];exact h w
theorem rA(OY:d≠some t)(h:a.tmps[t]? =some v):(a.put d u).tmps[t]? =some v:=by
 cases d with
 |none=>exact h
 |some d=>
  have:d≠t:=fun e=>OY (by rw[e]);simpa [Act.put,Array.getElem?_setIfInBounds_ne this]using h
theorem kN{w:World}(h:w.heap[g]? =some obj):g<w.heap.size:=(bA.1 h).1
theorem Ext.alloc(w:World)(obj:Obj):Ext w (w.alloc obj):=
 ⟨rfl,rfl,rfl,by simp,fun k hk=>heap_alloc_old _ _ hk⟩
variable{Pd:List Nat}{E:List (Nat×Nat)}{lx la:Array Bool}
theorem M8.step(s:M8 P ops n B Pd E lx la l H nx iv w O a w')(PU:∀(j:Nat) (o:Oper) cs b,ops[j]? =some o->o.op≠ .select cs b){i:Nat}{o:Oper}(_hi:ops[i]? =some o)(WH:∀g,(i,g)∉E)
  (RY:∀j∈Pd,j≠i->∀oj,ops[j]? =some oj->o.apart ops oj=true)
  (sat':Sat n l' H' Oe iv' B w2 ρ' (a.put o.dst u) w3)
  (hl:∀j∈Pd,j≠i->∀d,fu l d=none->o.dst≠some d->fu l' d=none) (S8:∀j∈Pd,j≠i->Ext w' w3)
  (heg:∀g,g<w'.heap.size->(∀id b,dD H id=some b->(O id).nil=false->(O id).g≠g)->(∀lo hi,(lo,hi)∈iv->¬(lo<=g∧g<hi))->(∃j∈Pd,j≠i)->
   (∀id b,dD H' id=some b->(ρ' id).nil=false->(ρ' id).g≠g)∧(∀lo hi,(lo,hi)∈iv'->¬(lo<=g∧g<hi))):
  M8 P ops n B (Pd.filter fun j=> !Nat.beq j i) E (lx.setIfInBounds i true) (la.setIfInBounds i true) l' H' Oe iv' w2 ρ' (a.put o.dst u) w3:=by
 have memf:∀j,j∈(Pd.filter fun j=> !Nat.beq j i)↔j∈Pd∧j≠i:=fun j=>by
  simp only[List.mem_filter,Bool.not_eq_true',nH]
 have hEi:∀j g,(j,g)∈E->j≠i:=fun j g h e=>WH g (e▸h);refine⟨sat',by simp[s.M9],by simp[s.Me],fun j=>?_,fun j g h=>(memf j).2 ⟨s.Ig j g h,hEi j g h⟩,fun j hj=>?_,fun j g h=>?_,s.inj,fun j hj j' hj'=>s.ap j ((memf j).1 hj).1 j' ((memf j').1 hj').1⟩
 ·rw[p8,p8,s.la,s.Me,s.M9];constructor
  ·rintro((h|h)|h)
   ·exact .inl (.inl h)
   ·exact .inr h
   ·exact .inl (.inr h)
  ·rintro((h|h)|h)
   ·exact .inl (.inl h)
   ·exact .inr h
   ·exact .inl (.inr h)
 ·obtain⟨hj,PZ⟩:=(memf j).1 hj;obtain⟨h0,oj,d,mk,obj,h1,h2,h3,⟨h4,R9⟩,h5,h6,h7⟩:=s.pd j hj;have hapj:=RY j hj PZ oj h1;have OY:o.dst≠some d:=fun e=>(Go.Oper.apart_spec hapj).2.1 d e h4;refine⟨?_,oj,d,mk,obj,h1,h2,h3,⟨h4,R9⟩,Oper.Bu hapj (fun cs b=>PU j oj cs b h1) h5,hl j hj PZ d h6 OY,fun g hg=>⟨rA OY (h7 g hg).1,?_⟩⟩
  ·rw[Array.getElem?_setIfInBounds_ne (Ne.symm PZ)];exact h0
  ·rw[(S8 j hj PZ).block g (kN (h7 g hg).2)];exact(h7 g hg).2
 ·have hj:=s.Ig j g h;obtain⟨h0,oj,d,mk,obj,h1,h2,h3,⟨h4,R9⟩,h5,h6,h7⟩:=s.pd j hj;obtain⟨e1,e2,e3⟩:=s.eg j g h;exact⟨e1,heg g (kN (h7 g h).2) e2 e3 ⟨j,hj,hEi j g h⟩⟩
theorem M8.early(s:M8 P ops n B Pd E lx la l H nx iv w O a w')(OZ:∀(j:Nat) o,ops[j]? =some o->∀d,o.dst=some d->d<n)
  (PU:∀(j:Nat) (o:Oper) cs b,ops[j]? =some o->o.op≠ .select cs b) (hj:j∈Pd) (SC:la[j]? =some false) {K:Act->World->Prop}
  (h:∀E' a2 w2,Ext w' w2->M8 P ops n B Pd E' lx (la.setIfInBounds j true) l H nx iv w O a2 w2->K a2 w2):wpOp P ops Q j K a w':=by
 obtain⟨h0,o,d,mk,obj,h1,h2,h3,⟨h4,R9⟩,h5,h6,h7⟩:=s.pd j hj;have hw:Region.wanted o (yielded ops a.tmps)=true:=by simp[Region.wanted,h3]
 unfold wpOp;simp only[h1,hw,if_true]
 refine .inl ?_;unfold Oper.wp;rw[h5 w'];simp only[Oper.upon]
 have hd:=OZ j o h1 d h4;have hnE:∀g,(j,g)∉E:=fun g hg=>by
  have:=(s.la j).2 (.inr ⟨g,hg⟩);rw[SC]at this;cases this
 refine h ((j,w'.heap.size)::E) _ _ (Ext.alloc _ _) ⟨?_,s.M9,by simp[s.Me],fun k=>?_,fun k g hk=>?_,fun k hk=>?_,fun k g hk=>?_,fun k g k' hk hk'=>?_,s.ap⟩
 ·refine⟨s.sat.rel.ext (Ext.alloc _ _),?_,?_,fun t v hv=>?_,s.sat.sc⟩
  ·rw[h4];simp[Act.put,s.sat.size]
  ·rw[h4];exact s.sat.defers
  ·refine rA (fun e=>?_) (s.sat.env t v hv);rw[h4]at e;injection e with e;subst e;rw[h6]at hv;cases hv
 ·rw[p8,s.la];have PF:j<la.size:=(bA.1 SC).1;constructor
  ·rintro((h|⟨g,h⟩)|⟨rfl,_⟩)
   ·exact .inl h
   ·exact .inr ⟨g,by simp[h]⟩
   ·exact .inr ⟨_,aG ..⟩
  ·rintro(h|⟨g,h⟩)
   ·exact .inl (.inl h)
   ·rcases List.mem_cons.1 h with h|h
    ·injection h with e1 e2;exact .inr ⟨e1,by rw[e1];exact PF⟩
    ·exact .inl (.inr ⟨g,h⟩)
 ·rcases List.mem_cons.1 hk with hk|hk
  ·injection hk with e1 e2;rw[e1];exact hj
  ·exact s.Ig k g hk
 ·obtain⟨g0,ok,dk,mkk,objk,g1,g2,g3,⟨g4,gself⟩,g5,g6,g7⟩:=s.pd k hk;by_cases TP:k=j
  ·subst TP;rw[h1]at g1;injection g1 with g1;subst g1;rw[h4]at g4;injection g4 with g4;subst g4;refine⟨g0,o,d,mk,obj,h1,h2,h3,⟨h4,R9⟩,?_,h6,fun g hg=>?_⟩
   ·intro ww;rw[execOp_put (ops:=ops) o (fun cs b=>PU k o cs b h1) a o.dst _ (fun d' XD=>by rw[h4]at XD;injection XD with XD;subst XD;exact R9)];exact h5 ww
   ·rcases List.mem_cons.1 hg with hg|hg
    ·injection hg with e1 e2;subst e2;refine⟨?_,heap_alloc_new _ _⟩;rw[h4];simp[Act.put,s.sat.size,hd]
    ·exact absurd hg (hnE g)
  ·have RY:=s.ap j hj k hk (Ne.symm TP) o ok h1 g1;have OY:o.dst≠some dk:=fun e=>(Go.Oper.apart_spec RY).2.1 dk e g4;refine⟨g0,ok,dk,mkk,objk,g1,g2,g3,⟨g4,gself⟩,Oper.Bu RY (fun cs b=>PU k ok cs b g1) g5,g6,fun g hg=>?_⟩;rcases List.mem_cons.1 hg with hg|hg
   ·injection hg with e1 e2;exact absurd e1 TP
   ·refine⟨rA OY (g7 g hg).1,?_⟩;rw[heap_alloc_old _ _ (kN (g7 g hg).2)];exact(g7 g hg).2
 ·rcases List.mem_cons.1 hk with hk|hk
  ·injection hk with e1 e2;subst e2;refine⟨aX s.sat.rel.base s.sat.rel.size,fun id b hb hn he=>?_,fun lo hi hm hc=>?_⟩
   ·have:=(s.sat.rel.low id b hb hn).2;omega
   ·have:=s.sat.rel.pC lo hi hm;have:=s.sat.rel.size;omega
  ·exact s.eg k g hk
 ·have old:∀k' g',(k',g')∈E->g'<w'.heap.size:=fun k' g' h=>by
   obtain⟨_,_,_,_,_,_,_,_,_,_,_,h7⟩:=s.pd k' (s.Ig k' g' h);exact kN (h7 g' h).2
  rcases List.mem_cons.1 hk with hk|hk<;>rcases List.mem_cons.1 hk' with hk'|hk'
  ·injection hk with e1 e2;injection hk' with e3 e4;rw[e1,e3]
  ·injection hk with e1 e2;have:=old _ _ hk';omega
  ·injection hk' with e1 e2;have:=old _ _ hk;omega
  ·exact s.inj k g k' hk hk'
theorem M8.KF(s:M8 P ops n B Pd E lx la l H nx iv w O a w'){i:Nat}{o:Oper}(hi:ops[i]? =some o)(hg:(i,g)∈E){b:jq}{v:SV}
  (hb:b.scopd nx) (hv:v.sc (nx+1)) (WI:∀g,v.den (gS O nx ⟨g,0,false⟩)=mk g) (QR:∀g w2,w2.heap[g]? =some obj->b.fits O ⟨g,0,false⟩ w2) (WJ:AL P o a mk obj)
  {K:Env->Prop} (hK:EX o.dst v l K) (_hok:∀d,o.dst=some d->d<n) (RY:∀j∈Pd,j≠i->∀oj,ops[j]? =some oj->o.apart ops oj=true):
  ∃l',K l'∧M8 P ops n B (Pd.filter fun j=> !Nat.beq j i) (E.filter fun e=> !Nat.beq e.1 i) (lx.setIfInBounds i true) la l' ((nx,b)::H) (nx+1) iv w (gS O nx ⟨g,0,false⟩) a w':=by
 obtain⟨h0,o',d,mk',obj',h1,h2,h3,⟨h4,R9⟩,h5,h6,h7⟩:=s.pd i (s.Ig i g hg);rw[hi]at h1;injection h1 with h1;subst h1;obtain⟨rfl,rfl⟩:=WJ.uniq h5;obtain⟨ht,hh⟩:=h7 g hg;obtain⟨e1,e2,e3⟩:=s.eg i g hg;have memf:∀j,j∈(Pd.filter fun j=> !Nat.beq j i)↔j∈Pd∧j≠i:=fun j=>by
  simp only[List.mem_filter,Bool.not_eq_true',nH]
 have memE:∀j k,(j,k)∈(E.filter fun e=> !Nat.beq e.1 i)↔(j,k)∈E∧j≠i:=fun j k=>by
  simp only[List.mem_filter,Bool.not_eq_true',nH]
 have QC:∀id b,dD H id=some b->gS O nx ⟨g,0,false⟩ id=O id:=fun id b h=>(gM id (s.sat.rel.keys id b h)).symm;have r:=s.sat.rel;have PX:Rel ((nx,b)::H) (nx+1) iv B w (gS O nx ⟨g,0,false⟩) w':=by
  refine Rel.mk' r.os r.tape r.output r.size r.base r.pC ?_ ?_ ?_ ?_ ?_ ?_ ?_
  ·intro id b' h;rw[dB]at h;split at h
   ·omega
   ·have:=r.keys id b' h;omega
  ·intro id b' h;rw[dB]at h;split at h
   ·rename_i e;subst e;injection h with h;subst h;rw[eS];exact jq.gf (QR g w' hh) (fun id PV=>gM id PV) hb (fun _ _=>rfl)
   ·rw[QC id b' h];exact jq.gf (r.fits h) (fun id PV=>gM id PV) (r.scopd h) (fun _ _=>rfl)
  ·intro id b' h;rw[dB]at h;split at h
   ·injection h with h;subst h;exact jq.jC (Nat.le_succ _) hb
   ·exact jq.jC (Nat.le_succ _) (r.scopd h)
  ·intro id id' c c' h h' hd XD hn hn' he;rw[dB]at h h';split at h<;>split at h'
   ·rename_i x y;rw[<-x,<-y]
   ·rename_i x y;subst x;rw[eS,QC _ _ h']at he;rw[QC _ _ h']at hn';exact absurd he.symm (e2 _ _ h' hn')
   ·rename_i x y;subst y;rw[eS,QC _ _ h]at he;rw[QC _ _ h]at hn;exact absurd he (e2 _ _ h hn)
   ·rw[QC _ _ h,QC _ _ h']at he;rw[QC _ _ h]at hn;rw[QC _ _ h']at hn';exact r.inj id id' c c' h h' hd XD hn hn' he
  ·intro id c h hn;rw[dB]at h;split at h
   ·rename_i e;subst e;rw[eS];exact⟨e1,kN hh⟩
   ·rw[QC _ _ h]at hn ⊢;exact r.low id c h hn
  ·intro k hk OY;refine r.vF k hk fun id c h hn=>?_;have PF:=r.keys id c h;have:=OY id c (by rw[dB,aJ (by omega)];exact h) (by rw[QC _ _ h];exact hn)
   rwa [QC _ _ h]at this
  ·intro lo hi hm id c h hn;rw[dB]at h;split at h
   ·rename_i e;subst e;rw[eS];exact e3 lo hi hm
   ·rw[QC _ _ h]at hn ⊢;exact r.jb lo hi hm id c h hn
 have sat1:Sat n l ((nx,b)::H) (nx+1) iv B w (gS O nx ⟨g,0,false⟩) a w':=s.sat.next PX (Nat.le_succ _) (fun id PV=>gM id PV)
 rw[h4]at hK;refine⟨_,hK,?_⟩;have sat2:Sat n ((d,v)::l) ((nx,b)::H) (nx+1) iv B w (gS O nx ⟨g,0,false⟩) a w':=by
  refine⟨sat1.rel,sat1.size,sat1.defers,fun t u hu=>?_,fun t u hu=>?_⟩
  ·rw[fA]at hu;split at hu
   ·rename_i e;subst e;injection hu with hu;subst hu;rw[WI];exact ht
   ·exact sat1.env t u hu
  ·rw[fA]at hu;split at hu
   ·injection hu with hu;subst hu;exact hv
   ·exact sat1.sc t u hu
 have Ts:i<lx.size:=(bA.1 h0).1;refine⟨sat2,by simp[s.M9],s.Me,fun j=>?_,fun j k h=>?_,fun j hj=>?_,fun j k h=>?_,fun j k j' h h'=>s.inj j k j' ((memE j k).1 h).1 ((memE j' k).1 h').1,fun j hj j' hj'=>s.ap j ((memf j).1 hj).1 j' ((memf j').1 hj').1⟩
 ·rw[s.la,p8];constructor
  ·rintro(h|⟨k,h⟩)
   ·exact .inl (.inl h)
   ·by_cases PZ:j=i
    ·exact .inl (.inr ⟨PZ,PZ▸Ts⟩)
    ·exact .inr ⟨k,(memE j k).2 ⟨h,PZ⟩⟩
  ·rintro((h|⟨rfl,h⟩)|⟨k,h⟩)
   ·exact .inl h
   ·exact .inr ⟨g,hg⟩
   ·exact .inr ⟨k,((memE j k).1 h).1⟩
 ·exact(memf j).2 ⟨s.Ig j k ((memE j k).1 h).1,((memE j k).1 h).2⟩
 ·obtain⟨hj,PZ⟩:=(memf j).1 hj;obtain⟨g0,oj,dj,mkj,objj,g1,g2,g3,⟨g4,gself⟩,g5,g6,g7⟩:=s.pd j hj;have OY:d≠dj:=fun e=>(Go.Oper.apart_spec (RY j hj PZ oj g1)).2.1 d h4 (by rw[g4,e]);refine⟨by rw[Array.getElem?_setIfInBounds_ne (Ne.symm PZ)];exact g0,oj,dj,mkj,objj,g1,g2,g3,⟨g4,gself⟩,g5,?_,fun k hk=>g7 k ((memE j k).1 hk).1⟩;rw[fA,aJ OY];exact g6
 ·obtain⟨h,PZ⟩:=(memE j k).1 h;obtain⟨k1,k2,k3⟩:=s.eg j k h;refine⟨k1,fun id c hc hn=>?_,k3⟩;rw[dB]at hc;split at hc
  ·rename_i e;subst e;rw[eS];intro e;simp only at e;subst e;exact PZ (s.inj j _ i h hg)
  ·rw[QC _ _ hc]at hn ⊢;exact k2 id c hc hn
end
end Go.Sx
