/- Texts Sx7 to Sx11: lemmas, each with its conditions. -/
import Derived.OrdersHeld
import Derived.Test.YtgkpbdkechfgmaaGreatP0
namespace Go.Sx
open Go
variable{args:(Nat->dx)->Array Value}{la lx:Array Bool}{op:BinOp}{dr pu:Bool}{R:Ending->World->Prop}{l':Env}{Q:Exit->Act->World->Prop}{H':Hp}{k:IntKind}{iv':Iv}{Pd:List Nat}{OI g j m t:Nat}{mk:Nat->Value}{ρ':Nat->dx}{obj:Obj}{d:Option Tmp}{K:SV->Hp->Nat->Iv->World->Prop}{u v:Value}{w w2 w3:World}
section
variable{P:Program}{τ:mz}{B n nx:Nat}{l:Env}{H:Hp}{iv:Iv}{w w':World}{O:Nat->dx}{a:Act}
theorem pV{k':IntKind}(h:pO k k'=true):k=k':=by
 cases k<;>cases k'<;>first|rfl|(simp [pO]at h)
theorem xX(op:BinOp)(t:TypeId)(x y:Operand)(k k':IntKind)(i j:Int)(w:World):(eqGuard op t x y (.int k i) (.int k' j)).run P w= .ok () w:=by
 unfold eqGuard;cases op<;>simp
theorem nG(op:BinOp)(t:TypeId)(x y:Operand)(i j:Bool)(w:World):(eqGuard op t x y (.bool i) (.bool j)).run P w= .ok () w:=by
 unfold eqGuard;cases op<;>simp
theorem jU(op:BinOp)(t:TypeId)(x y:Operand)(i j:ByteArray)(w:World):(eqGuard op t x y (.string i) (.string j)).run P w= .ok () w:=by
 unfold eqGuard;cases op<;>simp
theorem I8{i j:Int}{t:TypeId}{K:Value->Prop}(h:I2 op k i j K)(k':IntKind)(hk:(op= .shl∨op= .shr)∨k=k'):
  ∃r,K r∧∀w:World,(binOp op t (.int k i) (.int k' j)).run P w= .ok r w:=by
 have Uw:op≠ .shl->op≠ .shr->k=k':=fun h1 h2=>by rcases hk with(h3|h3)|h3<;>simp_all
 cases op<;>simp only[I2]at h
 case shl=>obtain⟨h0,r,h1,h2⟩:=h;refine⟨_,h2,fun w=>?_⟩;subst h1;simp[binOp,Op.shift,show ¬j<0 by omega]
 case shr=>obtain⟨h0,r,h1,h2⟩:=h;refine⟨_,h2,fun w=>?_⟩;subst h1;simp[binOp,Op.shift,show ¬j<0 by omega]
 all_goals (obtain rfl:=Uw (by simp) (by simp))
 case quo=>obtain⟨h0,r,h1,h2⟩:=h;refine⟨_,h2,fun w=>?_⟩;subst h1;simp[binOp,Op.intDiv,h0]
 case rem=>obtain⟨h0,r,h1,h2⟩:=h;refine⟨_,h2,fun w=>?_⟩;subst h1;simp[binOp,Op.intDiv,h0]
 case eql=>exact⟨_,h,fun w=>by simp[binOp,Op.intCmp]⟩
 case neq=>exact⟨_,h,fun w=>by simp[binOp,Op.intCmp]⟩
 case lss=>exact⟨_,h,fun w=>by simp[binOp,Op.intCmp]⟩
 case leq=>exact⟨_,h,fun w=>by simp[binOp,Op.intCmp]⟩
 case gtr=>exact⟨_,h,fun w=>by simp[binOp,Op.intCmp]⟩
 case geq=>exact⟨_,h,fun w=>by simp[binOp,Op.intCmp]⟩
 case add=>obtain⟨r,h1,h2⟩:=h;refine⟨_,h2,fun w=>?_⟩;subst h1;simp[binOp,Op.intArith]
 case sub=>obtain⟨r,h1,h2⟩:=h;refine⟨_,h2,fun w=>?_⟩;subst h1;simp[binOp,Op.intArith]
 case mul=>obtain⟨r,h1,h2⟩:=h;refine⟨_,h2,fun w=>?_⟩;subst h1;simp[binOp,Op.intArith]
 case and=>obtain⟨r,h1,h2⟩:=h;refine⟨_,h2,fun w=>?_⟩;subst h1;simp[binOp,Op.intBits]
 case or=>obtain⟨r,h1,h2⟩:=h;refine⟨_,h2,fun w=>?_⟩;subst h1;simp[binOp,Op.intBits]
 case andNot=>obtain⟨r,h1,h2⟩:=h;refine⟨_,h2,fun w=>?_⟩;subst h1;simp[binOp,Op.intBits]
 case xor=>obtain⟨r,h1,h2⟩:=h;refine⟨_,h2,fun w=>?_⟩;subst h1;simp[binOp,Op.intBits]
theorem run_equalIn_bool{t:TypeId}(hu:P.underlying t=some .bool)(d:Nat)(i j:Bool)(w:World):(Op.equalIn (d+1) t (.bool i) (.bool j)).run P w= .ok (i==j) w:=by
 simp[Op.equalIn,run_underlying hu]
theorem wT{t:TypeId}(hu:P.underlying t=some .bool)(i j:Bool)(w:World):(Op.equal t (.bool i) (.bool j)).run P w= .ok (i==j) w:=run_equalIn_bool hu 9999 i j w
theorem yn{t:TypeId}(hu:P.underlying t=some .bool)(i j:Bool)(w:World):(binOp .eql t (.bool i) (.bool j)).run P w= .ok (.bool (i==j)) w:=by
 show(do pure (.bool (<-Op.equal t (.bool i) (.bool j))):Sem Value).run P w=_;rw[Sem.run_bind,wT hu];rfl
theorem xY{t:TypeId}(hu:P.underlying t=some .bool)(i j:Bool)(w:World):(binOp .neq t (.bool i) (.bool j)).run P w= .ok (.bool (!(i==j))) w:=by
 show(do pure (.bool (!(<-Op.equal t (.bool i) (.bool j)))):Sem Value).run P w=_;rw[Sem.run_bind,wT hu];rfl
theorem I9(hτ:fQ P τ){x y:SV}{K:SV->Prop}(h:Nc P τ op t x y K)(o1 o2:Operand):
  ∃r,K r∧r.sc nx∧∀w':World,(do eqGuard op t o1 o2 (x.den O) (y.den O);binOp op t (x.den O) (y.den O)).run P w'= .ok (r.den O) w':=by
 unfold Nc at h;split at h
 ·rename_i k i k' j;have fin:∀hk:(op= .shl∨op= .shr)∨k=k',I2 op k i j (fun r=>K (.o (.v r)))->∃r,K r∧r.sc nx∧∀w':World,(do eqGuard op t o1 o2 (SV.den O (.o (.v (.int k i)))) (SV.den O (.o (.v (.int k' j))));binOp op t (SV.den O (.o (.v (.int k i)))) (SV.den O (.o (.v (.int k' j))))).run P w'= .ok (r.den O) w':=by
   intro hk h;obtain⟨r,h1,h2⟩:=I8 (P:=P) (t:=t) h k' hk;refine⟨_,h1,trivial,fun w'=>?_⟩;simp only[SV.den,At.den,Sem.run_bind,xX,Result.andThen_ok,h2]
  split at h
  ·exact fin (.inl (.inl rfl)) h
  ·exact fin (.inl (.inr rfl)) h
  ·split at h
   ·rename_i hk;exact fin (.inr (pV hk)) h
   ·exact h.elim
 ·rename_i i j;split at h
  ·rename_i ti QI;split at h
   ·rename_i OV;have hu:=(hτ t _ QI).i2 (eM OV);split at h
    ·refine⟨_,h,trivial,fun w'=>?_⟩;simp only[SV.den,At.den,Sem.run_bind,nG,Result.andThen_ok,yn hu]
    ·refine⟨_,h,trivial,fun w'=>?_⟩;simp only[SV.den,At.den,Sem.run_bind,nG,Result.andThen_ok,xY hu]
    ·exact h.elim
   ·exact h.elim
  ·exact h.elim
 ·rename_i i j;split at h
  ·refine⟨_,h,trivial,fun w'=>?_⟩;simp only[SV.den,At.den,Sem.run_bind,jU,Result.andThen_ok]
   simp[binOp,Op.stringOp,ByteArray.toList_eq]
  ·refine⟨_,h,trivial,fun w'=>?_⟩;simp only[SV.den,At.den,Sem.run_bind,jU,Result.andThen_ok]
   simp[binOp,Op.stringOp,ByteArray.toList_eq]
  ·refine⟨_,h.2,trivial,fun w'=>?_⟩;simp only[SV.den,At.den,Sem.run_bind,jU,Result.andThen_ok]
   have h1:=h.1;unfold maxLen at h1;simp[binOp,Op.stringOp];omega
  ·exact h.elim
 ·obtain⟨b,h1,h2⟩:=h;exact⟨_,h2,trivial,fun w'=>h1 O w' o1 o2⟩
abbrev NI(n B:Nat)(l:Env)(a:Act)(dst:Option Tmp)(K:SV->Hp->Nat->Iv->World->Prop)(next:Act->World->Prop):Prop:=
 ∀v H' OI iv' w2 ρ' w3,K v H' OI iv' w2->Sat n l H' OI iv' B w2 ρ' a w3->v.sc OI->next (a.put dst (v.den ρ')) w3
theorem Sat.next(sat:Sat n l H nx iv B w O a w')(rel:Rel H' OI iv' B w2 ρ' w3)(QR:nx<=OI)(hρ:∀id,id<nx->O id=ρ' id):
  Sat n l H' OI iv' B w2 ρ' a w3:=
 ⟨rel,sat.size,sat.defers,fun t v h=>by rw[sat.env t v h,SV.jt hρ (sat.sc t v h)],fun t v h=>SV.tM QR (sat.sc t v h)⟩
theorem Cq(sat:Sat n l H nx iv B w O a w'){cs:List At}(hs:∀c∈cs,At.sc nx c):
  Rel ((nx,.box t cs)::H) (nx+1) iv B w (gl O nx ⟨w'.heap.size,0,false⟩) (w'.alloc (.cells (cs.map (At.den O)).toArray t)):=
 sat.rel.push (.box t cs) _ rfl rfl rfl (by simp) (fun k hk=>heap_alloc_old _ _ hk) (fun _=>⟨aF _,by simp⟩) ⟨rfl,heap_alloc_new _ _⟩ hs
theorem wU:∀{vs:List SV} {k:List Nat->Prop},nk vs k->(∀v∈vs,SV.sc nx v)->∃ids,k ids∧vs.map (SV.den O)=ids.map (fun id=>Value.pointer (some ⟨(O id).g,0,none⟩))∧∀id∈ids,id<nx
 |[],k,h,_=>⟨[],h,rfl,by simp⟩
 | .o (.p id 0)::r,k,h,hs=>by
  obtain⟨ids,h1,h2,h3⟩:=wU (vs:=r) h (fun v hv=>hs v (by simp[hv]));exact⟨id::ids,h1,by simp[h2,SV.den,At.den],by simp;exact⟨hs (.o (.p id 0)) (by simp),h3⟩⟩
 | .o (.p id (m+1))::r,k,h,_=>by simp[nk]at h
 | .o (.v x)::r,k,h,_=>by simp[nk]at h
 | .o (.s _ _ _ _)::r,k,h,_=>by simp[nk]at h
 | .o (.w _ _)::r,k,h,_=>by simp[nk]at h
 | .o (.fn _ _)::r,k,h,_=>by simp[nk]at h
 | .a _::r,k,h,_=>by simp[nk]at h
theorem yo(sat:Sat n l H nx iv B w O a w'){K:SV->Hp->Iv->World->Prop}{o:Oper}{next:Act->World->Prop}
  (h:ER P B g args H nx iv w K) (Sz:(execOp a.eval o).run P w'=(callFunc g (args O)).run P w')
  (hn:∀v H' iv' w2,K v H' iv' w2->Sat n l H' nx iv' B w2 O a w2->v.sc nx->next (a.put o.dst (v.den O)) w2):o.wp P a w' next Q:=by
 have hc:=h.h O w' sat.rel;unfold Oper.wp;rw[Sz,hc.e.h];refine Calls.mono hc.c fun e w2 he=>?_;obtain⟨v,H',iv',rfl,Og,hK⟩:=he;exact hn _ _ _ _ hK (sat.next (ρ':=O) Og (aF _) (fun _ _=>rfl)) trivial
theorem Rel.ext(r:Rel H nx iv B w O w')(e:Ext w' w2):Rel H nx iv B w O w2:=
 Rel.mk' (e.os.trans r.os) (e.tape.trans r.tape) (e.output.trans r.output) (aX r.size e.size) r.base r.rM r.keys
  (fun id b h=>jm.iP (r.fits h) (fun _ _=>rfl) (r.scopd h) (fun hn _=>e.block _ (r.low id b h hn).2)) (fun id b h=>r.scopd h) r.inj
  (fun id b h hn=>by have:=r.low id b h hn;have:=e.size;omega) (fun k hk OD=>by rw[e.block k (by have:=r.size;omega)];exact r.ug k hk OD) r.kk
theorem Rel.here(r:Rel H nx iv B w O w'):Rel H nx iv B w' O w':=
 Rel.mk' rfl rfl rfl (aF _) (by have:=r.base;have:=r.size;omega) (fun lo hi hm=>by have:=r.rM lo hi hm;have:=r.size;omega) r.keys
  (fun id b h=>r.fits h) (fun id b h=>r.scopd h) r.inj r.low (fun _ _ _=>rfl) r.kk
theorem Rel.more{lo hi:Nat}(r:Rel H nx iv B w O w')(h1:hi<=w.heap.size)(h2:∀id b,dF H id=some b->(O id).nil=false->¬(lo<=(O id).g∧(O id).g<hi)):Rel H nx ((lo,hi)::iv) B w O w':=
 Rel.mk' r.os r.tape r.output r.size r.base
  (fun lo' S8 hm=>by
   rcases List.mem_cons.1 hm with hm|hm
   ·injection hm with e1 e2;omega
   ·exact r.rM lo' S8 hm) r.keys (fun id b hb=>r.fits hb) (fun id b hb=>r.scopd hb) r.inj r.low r.ug
  (fun lo' S8 hm id b hb PA=>by
   rcases List.mem_cons.1 hm with hm|hm
   ·injection hm with e1 e2;subst e1;subst e2;exact h2 id b hb PA
   ·exact r.kk lo' S8 hm id b hb PA)
theorem cF{K:SV->Hp->Iv->World->Prop}(h:EM P B g args H nx iv w K):ER P B g args H nx iv w K:=
 ⟨fun O w' r=>⟨(h.h O w' r).e,Calls.mono (h.h O w' r).c fun e w2 he=>by
  obtain⟨v,h1,h2,h3⟩:=he
  exact⟨v,H,_,h1,(r.ext h2).here.more (aF _) (fun id b hb hn=>by have:=(r.low id b hb hn).2;omega),h3⟩⟩⟩
def tB:Op->Bool
 | .move _| .assign _| .pick _ _ _| .build _ _| .load _ _| .nilCheck _| .binOp _ _ _ _ _| .unOp _ _ _| .convert _ _ _| .makeFunc _ _ _| .slice _ _ _ _ _| .fieldAddr _ _ _| .field _ _ _| .indexAddr _ _ _| .extract _ _=>true
 | .call ⟨.builtin .len,_,_⟩=>true
 | .call ⟨.builtin .max,_,_⟩=>true
 | .call ⟨.builtin .min,_,_⟩=>true
 |_=>false
def Jh:Op->Bool
 | .alloc _| .box _ _| .buildSlice _ _ _| .makeSlice _ _ _=>true
 |_=>false
def GJ:Op->Bool
 | .load _ _=>false
 |o=>tB o
theorem j0(hτ:fQ P τ){o:Oper}(h:yX dr P τ B o l H nx iv w K)(sat:Sat n l H nx iv B w O a w')(hk:tB o.op=true):
  (∃v,K v H nx iv w∧v.sc nx∧∀w2,(GJ o.op=true∨Rel H nx iv B w O w2)->(execOp a.eval o).run P w2= .ok (.value (v.den O)) w2)∨(dr=false∧ye P B o l H nx iv w K):=by
 obtain⟨dst,op,ty,pos,after,guard⟩:=o;have val:∀(r:SV),K r H nx iv w->r.sc nx->(∀w2,(GJ op=true∨Rel H nx iv B w O w2)->(execOp a.eval ⟨dst,op,ty,pos,after,guard⟩).run P w2= .ok (.value (r.den O)) w2)->
   (∃v,K v H nx iv w∧v.sc nx∧∀w2,(GJ op=true∨Rel H nx iv B w O w2)->(execOp a.eval ⟨dst,op,ty,pos,after,guard⟩).run P w2= .ok (.value (v.den O)) w2)∨(dr=false∧ye P B ⟨dst,op,ty,pos,after,guard⟩ l H nx iv w K):=
  fun r hK hs hr=>.inl ⟨r,hK,hs,hr⟩
 unfold yX at h;split at h<;>first|(exact False.elim h)|(rename_i Sz;simp only at Sz;subst Sz)
 ·obtain⟨v,hK,hv,hs⟩:=dZ sat h;exact val v hK hs (fun w2 rel=>by simp[execOp,hv])
 ·obtain⟨v,hK,hv,hs⟩:=dZ sat h;exact val v hK hs (fun w2 rel=>by simp[execOp,hv])
 ·rename_i c x y;obtain⟨v,h1,hv,QW⟩:=dZ sat h;clear QW;split at h1
  ·rename_i t
   cases t
   ·obtain⟨u,hK,hu,hs⟩:=dZ sat (h1.f rfl);exact val u hK hs (fun w2 rel=>by simp[execOp,hv,SV.den,At.den,asBool,hu])
   ·obtain⟨u,hK,hu,hs⟩:=dZ sat (h1.t rfl);exact val u hK hs (fun w2 rel=>by simp[execOp,hv,SV.den,At.den,asBool,hu])
  ·exact h1.elim
 ·cases hk
 ·cases hk
 ·rename_i t parts;split at h
  ·rename_i sz ag by_ ze tag ik e al fs QI;have ht:=hτ t _ QI;obtain⟨inf,z,hi,Oy,PN,hz,RJ⟩:=ht.info;simp only at Oy PN RJ;have hzz:z.cells=(((ze.map At.v)).map (At.den O)).toArray:=by rw[fg];apply Array.ext';simpa using RJ
   have hzs:∀c∈ze.map At.v,At.sc nx c:=fun c hc=>by simp at hc;obtain⟨v,_,rfl⟩:=hc;trivial
   split at h
   ·rename_i OV;obtain⟨fds,hu,hf,Ph⟩:=ht.i5 (eM OV);simp only at hf;have Ux:fds.toList.mapM (fun f=>(P.info? f.type).map fun i=>(f.offset,i.size))=some (fds.toList.map fun f=>(f.offset,((P.info? f.type).map (·.size)).getD 0)):=by
     clear hf hu;generalize fds.toList=fl at Ph
     induction fl with
     |nil=>rfl
     |cons f r ih=>
      obtain⟨i0,RT⟩:=Option.isSome_iff_exists.1 (Ph f (by simp));rw[List.mapM_cons,ih (fun g hg=>Ph g (by simp[hg]))];simp[RT]
    have h0:=fk h
    obtain⟨cs',hK,On,hlen,PY⟩:=kN sat (placeF:=fun i=>(fds.toList.map fun f=>(f.offset,((P.info? f.type).map (·.size)).getD 0))[i]?) (fun i k hk=>by
     obtain⟨off,ft,fi,h1,h2,h3,h4⟩:=mm hτ hk;refine⟨off,fi.size,h1,?_⟩;rw[<-hf]at h2;simp only[aM,Option.map_eq_some_iff]at h2 ⊢;obtain⟨fd,QF,he⟩:=h2;injection he with e1 e2;refine⟨fd,QF,?_⟩;obtain⟨inf',_,S8,TC,_⟩:=h3.info;rw[e1,e2,S8]
     simp[TC]) h0 hzs
    refine val _ hK On (fun w2 rel=>?_);have hb:P.built t (parts.map fun p=>(p.1,a.eval p.2)).toList=some (cs'.map (At.den O)).toArray:=by
     unfold Program.built;simp only[hi,hu,hz,Ux]
     rw[hzz,<-PY];simp
    have:=run_build w2 t _ _ hb;simp only[execOp]
    exact mJ this
   ·split at h
    ·rename_i OV;have hu:=ht.i6 (eM OV);simp only at hu;split at h
     ·rename_i sz' ag' by' ze' tag' ik' e' al' fs' PK
      have PK:=hτ e _ PK;obtain⟨inf',_,S8,TC,_⟩:=PK.info;simp only at TC;have h0:=fk h;obtain⟨cs',hK,On,hlen,PY⟩:=kN sat (placeF:=fun i=>some (i*inf'.size,inf'.size)) (fun i k hk=>⟨i*sz',sz',hk,by rw[TC]⟩) h0 hzs;refine val _ hK On (fun w2 rel=>?_);have hb:P.built t (parts.map fun p=>(p.1,a.eval p.2)).toList=some (cs'.map (At.den O)).toArray:=by
       unfold Program.built;simp only[hi,hu,hz,S8]
       rw[hzz,<-PY];simp
      have:=run_build w2 t _ _ hb;simp only[execOp]
      exact mJ this
     ·exact h.elim
    ·exact h.elim
  ·exact h.elim
 ·cases hk
 ·rename_i t x;obtain⟨v,h1,hv,hs⟩:=dZ sat h;obtain⟨r,hK,hr,OK⟩:=nu hτ sat.rel hs h1;exact val r hK hr (fun w2 rel=>by simp only[execOp,hv];exact mJ (OK w2 (rel.resolve_left (by simp[GJ]))))
 ·cases hk
 ·rename_i x;obtain⟨v,h1,hv,hs⟩:=dZ sat h;split at h1
  ·exact val _ h1 hs (fun w2 rel=>by simp[execOp,hv,SV.den,At.den])
  ·exact val _ h1 hs (fun w2 rel=>by simp[execOp,hv,SV.den,At.den])
  ·exact val _ h1 hs (fun w2 rel=>by simp[execOp,hv,SV.den,At.den])
  ·exact val _ h1 hs (fun w2 rel=>by simp[execOp,hv,SV.den,At.den])
  ·exact h1.elim
 ·rename_i op t x y u;obtain⟨v,h1,hv,_⟩:=dZ sat h;obtain⟨v2,h2,RK,_⟩:=dZ sat h1;obtain⟨r,hK,hr,OK⟩:=I9 (O:=O) hτ h2 x y;exact val r hK hr (fun w2 rel=>by simp only[execOp,hv,RK];exact mJ (OK w2))
 ·rename_i op t x;obtain⟨v,h1,hv,_⟩:=dZ sat h;split at h1
  ·exact val _ h1 trivial (fun w2 rel=>by simp[execOp,hv,SV.den,At.den,Op.unary])
  ·obtain⟨r,hr,hK⟩:=h1;exact val _ hK trivial (fun w2 rel=>by subst hr;simp[execOp,hv,SV.den,At.den,Op.unary,Op.intArith])
  ·obtain⟨r,hr,hK⟩:=h1;exact val _ hK trivial (fun w2 rel=>by subst hr;simp[execOp,hv,SV.den,At.den,Op.unary,Op.intBits])
  ·exact h1.elim
 ·rename_i s d x;split at h
  ·rename_i tis htis;obtain⟨ds,hds,_⟩:=(hτ s _ htis).agg;obtain⟨v,h1,hv,QW⟩:=dZ sat h;clear QW;split at h1
   ·rename_i sz ag by_ ze tag ik e al fs QI;have ht:=hτ d _ QI;split at h1
    ·rename_i OV;have hu:=ht.i1 (eM OV);simp only at hu;split at h1
     ·obtain⟨r,hr,hK⟩:=h1;refine val _ hK trivial (fun w2 rel=>?_);subst hr;simp[execOp,convert,run_underlying hds,run_underlying hu,hv,SV.den,At.den,Conv.intToInt]
     ·exact h1.elim
    ·cases dr
     ·exact .inr ⟨rfl,h1⟩
     ·exact h1.elim
   ·exact h1.elim
  ·exact h.elim
 ·rename_i f first caps
  split at h
  ·obtain⟨vs,h1,QW,SG⟩:=qg sat h;obtain⟨ids,hK,hids,OU⟩:=wU (O:=O) h1 SG;refine val _ hK (fun id Om=>OU id Om) (fun w2 rel=>?_);have e:caps.map a.eval=(ids.map fun id=>Value.pointer (some ⟨(O id).g,0,none⟩)).toArray:=by
    apply Array.ext';rw[<-hids,<-QW];simp
   simp[execOp,Instr.makeFunc,e,SV.den,At.den]
  ·exact h.elim
 ·cases hk
 ·rename_i t x lo hi;obtain⟨v,h1,hv,hs⟩:=dZ sat h;obtain⟨r,hK,hr,OK⟩:=EX hτ sat h1 hs;exact val r hK hr (fun w2 rel=>by simp only[execOp,hv];exact mJ (by simpa using OK w2))
 ·rename_i t x f;split at h
  ·rename_i sz ag by_ ze tag ik e al fs QI;have ht:=hτ t _ QI;split at h
   ·rename_i OV;obtain⟨off,ft,fi,h1,hf,UC,Oy⟩:=mm hτ h;obtain⟨v,h2,hv,hs⟩:=dZ sat h1;obtain⟨r,ad,hK,hr,hd,hrd⟩:=tO (O:=O) h2 hs;refine val r hK hr (fun w2 rel=>?_);simp only[execOp,hv,hd,hrd]
    exact mJ (EU ht (eM OV) hf UC Oy ad w2)
   ·exact h.elim
  ·exact h.elim
 ·rename_i t x f;split at h
  ·rename_i sz ag by_ ze tag ik e al fs QI;have ht:=hτ t _ QI;split at h
   ·rename_i OV;obtain⟨off,ft,fi,h1,hf,UC,Oy⟩:=mm hτ h;obtain⟨v,h2,hv,hs⟩:=dZ sat h1;obtain⟨fds,fd,hu,QF,e1,e2⟩:=yl ht (eM OV) hf;have fin:∀cs:List At,v.den O= .agg (cs.map (At.den O)).toArray->(∀c∈cs,At.sc nx c)->
      (match fi.agg with
       |true=>tC cs off (fun r=>tD r fi.size (fun c=>K (.a c) H nx iv w))
       |false=>match Co cs off with
        |some c=>K (.o c) H nx iv w
        |none=>False)->(∃v,K v H nx iv w∧v.sc nx∧∀w2,(GJ (.field t x f)=true∨Rel H nx iv B w O w2)->(execOp a.eval ⟨dst,.field t x f,ty,pos,after,guard⟩).run P w2= .ok (.value (v.den O)) w2)∨(dr=false∧ye P B ⟨dst,.field t x f,ty,pos,after,guard⟩ l H nx iv w K):=by
     intro cs hd On hk;split at hk
     ·rename_i hag;obtain⟨h3,RL⟩:=np hk;obtain⟨hK,Oc⟩:=ns h3;refine val _ hK (fun c hc=>On c (List.mem_of_mem_drop (List.mem_of_mem_take hc))) (fun w2 rel=>?_);simp only[execOp,hv,hd]
      refine mJ ?_;subst e1 e2;simp[Instr.field,run_underlying hu,QF,asAgg,part,UC.isAgg,hag,UC.sizeOf,SV.den,List.map_drop,List.map_take,List.extract_eq_take_drop]
     ·rename_i hag;split at hk
      ·rename_i c hc;rw[uq]at hc;refine val _ hk (On c (aC hc)) (fun w2 rel=>?_);simp only[execOp,hv,hd]
       refine mJ ?_;subst e1 e2;simp[Instr.field,run_underlying hu,QF,asAgg,part,UC.isAgg,hag,hc,SV.den]
      ·exact hk.elim
    split at h2
    ·rename_i vs;exact fin (vs.map At.v) (by rw[fg];rfl) (fun c hc=>by simp at hc;obtain⟨v,_,rfl⟩:=hc;trivial) (fk h2)
    ·exact fin _ rfl hs h2
    ·exact h2.elim
   ·exact h.elim
  ·exact h.elim
 ·rename_i t x i;obtain⟨v,h1,hv,hs⟩:=dZ sat h;obtain⟨u,h2,hu,_⟩:=dZ sat h1;obtain⟨r,hK,hr,OK⟩:=EV hτ h2 hs sat.rel;exact val r hK hr (fun w2 rel=>by simp only[execOp,hv,hu];exact mJ (OK w2))
 ·rename_i x i;obtain⟨v,h1,hv,hs⟩:=dZ sat h;split at h1
  ·split at h1
   ·rename_i vs u hu;rw[Bi]at hu;exact val _ h1 trivial (fun w2 rel=>by simp[execOp,hv,Instr.extract,SV.den,At.den,hu])
   ·exact h1.elim
  ·exact h1.elim
 ·rename_i x t;obtain⟨v,h1,hv,_⟩:=dZ sat h;obtain⟨r,hK,OK⟩:=I7 (ty:=ty) hτ h1 sat.rel;refine val _ hK trivial (fun w2 rel=>?_);show _=Result.ok (Next.value (Value.int .i64 r)) w2;generalize v.den O=xv at hv OK;have OK:=OK w2;simp[execOp,resolve,invoke,builtin,hv,OK]
 ·cases hk
 ·rename_i x y ts;obtain⟨v,h1,hv,_⟩:=dZ sat h;obtain⟨v2,h2,RK,_⟩:=dZ sat h1;split at h2
  ·split at h2
   ·rename_i k a1 k' b1 Uy;have Uw:=pV Uy;subst Uw;refine val _ h2 trivial (fun w2 rel=>?_);simp only[execOp,resolve,invoke,builtin]
    simp[hv,RK,SV.den,At.den,Builtin.max_,Builtin.max2];omega
   ·exact h2.elim
  ·exact h2.elim
 ·rename_i x y ts;obtain⟨v,h1,hv,_⟩:=dZ sat h;obtain⟨v2,h2,RK,_⟩:=dZ sat h1;split at h2
  ·split at h2
   ·rename_i k a1 k' b1 Uy;have Uw:=pV Uy;subst Uw;refine val _ h2 trivial (fun w2 rel=>?_);simp only[execOp,resolve,invoke,builtin]
    simp[hv,RK,SV.den,At.den,Builtin.min_,Builtin.min2];omega
   ·exact h2.elim
  ·exact h2.elim
 ·cases hk
 ·cases hk
 ·cases hk
 ·cases hk
 ·cases hk
 ·cases hk
 ·cases hk
 ·cases hk
theorem iQ{o:Oper}(h:ye P B o l H nx iv w K)(sat:Sat n l H nx iv B w O a w'){next:Act->World->Prop}
  (hn:NI n B l a o.dst K next):o.wp P a w' next Q:=by
 obtain⟨v,w2,iv',OK,Og,hK⟩:=h.h O w' a.eval sat.rel (fun x v hx=>(tN sat hx).1);have:=hn _ _ _ _ _ _ _ hK (sat.next Og (aF _) (fun _ _=>rfl)) trivial;unfold Oper.wp;rcases OK with OK|⟨OK,rfl⟩
 ·rw[OK];exact this
 ·rw[OK];exact this
theorem lI(hτ:fQ P τ){o:Oper}(h:yX dr P τ B o l H nx iv w K)(sat:Sat n l H nx iv B w O a w'){next:Act->World->Prop}
  (hn:NI n B l a o.dst K next):o.wp P a w' next Q:=by
 by_cases hk:tB o.op=true
 ·rcases j0 hτ h sat hk with⟨v,hK,hs,hr⟩|⟨_,Sz⟩
  ·exact k5 (hr w' (.inr sat.rel)) (hn _ _ _ _ _ _ _ hK sat hs)
  ·exact iQ Sz sat hn
 obtain⟨dst,op,ty,pos,after,guard⟩:=o;unfold yX at h;split at h<;>first|(exact False.elim h)|(rename_i Sz;simp only at Sz;subst Sz)
 ·exact absurd rfl hk
 ·exact absurd rfl hk
 ·exact absurd rfl hk
 ·rename_i t;split at h
  ·rename_i sz ag by_ ze tag ik e al fs QI;obtain⟨z,OR,Oq⟩:=(hτ t _ QI).zeroV w';have hK:=fk h;simp only at Oq;have Og:=Cq sat (t:=t) (cs:=ze.map At.v) (fun c hc=>by simp at hc;obtain⟨v,_,rfl⟩:=hc;trivial);rw[fg]at Og;have hzz:z.cells=ze.toArray:=by apply Array.ext';simpa using Oq
   refine k5 (w2:=w'.alloc (.cells ze.toArray t)) (v:=.pointer (some ⟨w'.heap.size,0,none⟩)) ?_ ?_
   ·simp[execOp,Instr.alloc,OR,newVar,newRow,hzz]
   ·have:=hn _ _ _ _ _ _ _ hK (sat.next Og (by omega) gb) (by simp[SV.sc,At.sc]);simpa [SV.den,At.den]using this
  ·exact h.elim
 ·rename_i t x;obtain⟨v,h1,hv,hs⟩:=dZ sat h;obtain⟨cs,hK,Ou,SG⟩:=mI h1;have Og:=Cq sat (t:=t) (SG nx hs);refine k5 (w2:=w'.alloc (.cells (cs.map (At.den O)).toArray t)) (v:=.pointer (some ⟨w'.heap.size,0,none⟩)) ?_ ?_
  ·simp[execOp,Instr.box,hv,newVar,newRow,Ou O]
  ·have:=hn _ _ _ _ _ _ _ hK (sat.next Og (by omega) gb) (by simp[SV.sc,At.sc]);simpa [SV.den,At.den]using this
 ·exact absurd rfl hk
 ·rename_i t m parts;split at h
  ·rename_i sz ag by_ ze tag ik e al fs QI;have ht:=hτ t _ QI;split at h
   ·rename_i OV;have hu:=ht.i4 (eM OV);simp only at hu;split at h
    ·rename_i sz' ag' by' ze' tag' ik' e' al' fs' PK
     have PK:=hτ e _ PK;obtain⟨inf,z,hi,Oy,PN,hz,RJ⟩:=PK.info;have R0:=PK.IX;simp only at Oy PN RJ R0;split at h
     ·rename_i hle;have hle:=Nat.le_of_ble_eq_true hle;have h0:=fk h;obtain⟨cs',hK,On,hlen,PY⟩:=kN sat (placeF:=fun i=>some (i*inf.size,inf.size)) (fun i k hk=>⟨i*sz',sz',hk,by rw[Oy]⟩) h0
       (fun c hc=>by obtain⟨v,_,rfl⟩:=aU.1 hc;trivial)
      rw[fg]at PY;have Qb:z.cells=ze'.toArray:=by apply Array.ext';simpa using RJ
      have UE:((List.replicate m ze').flatten).toArray=madeCells z.cells (m*inf.size):=by
       rw[Qb,Oy,<-R0];exact(qj ze' m).symm
      have Og:=Cq sat (t:=e) On;refine k5 (w2:=w'.alloc (.cells (cs'.map (At.den O)).toArray e)) (v:=.slice (some ⟨w'.heap.size,0,none⟩) m m) ?_ ?_
      ·simp only[execOp]
       refine mJ ?_;rw[UE]at PY;by_cases Ol:m*inf.size=0
       ·have RU:Instr.fill (fun i=>some (i*inf.size,inf.size)) (madeCells z.cells 0) (parts.toList.map fun p=>(p.1,a.eval p.2))=some (cs'.map (At.den O)).toArray:=by rw[Ol]at PY;exact PY
        have e0:madeCells z.cells 0= #[]:=by simp[madeCells]
        rw[e0]at RU;have er:Array.range 0= #[]:=rfl;simp[Instr.buildSlice,run_underlying hu,sizeOf,typeInfo,zeroValue,hi,hz,Ol,newRow,RU,er]
       ·exact run_buildSlice w' t e m _ _ inf z hu hi hz (by rw[Oy];omega) Ol (by rw[<-PY];simp[madeCells])
      ·have:=hn _ _ _ _ _ _ _ hK (sat.next Og (by omega) gb) (by simp[SV.sc,At.sc]);simpa [SV.den,At.den]using this
     ·exact h.elim
    ·exact h.elim
   ·exact h.elim
  ·exact h.elim
 ·exact absurd rfl hk
 ·rename_i t x y;obtain⟨v,h1,hv,hs⟩:=dZ sat h;obtain⟨u,h2,hu,QS⟩:=dZ sat h1
  cases hg:NH H v u with
  |true=>
   rw[hg]at h2
   cases dr with
   |true=>exact h2.elim
   |false=>
    have h2:OpG P B _ l H nx iv w K:=h2;obtain⟨w2,w3,H',iv',OK,Og,hK⟩:=h2.h O w' a.eval sat.rel (fun x v hx=>(tN sat hx).1);refine Ju (w2:=w3) OK ?_;exact hn _ _ _ _ _ _ _ hK (sat.next Og (aF _) (fun _ _=>rfl)) trivial
  |false=>
   rw[hg]at h2;obtain⟨H',w2,w3,hK,Og,OK⟩:=wS hτ sat hs QS h2;refine Ju (w2:=w3) (by simp[execOp,hv,hu,OK]) ?_;exact hn _ _ _ _ _ _ _ hK (sat.next Og (aF _) (fun _ _=>rfl)) trivial
 ·exact absurd rfl hk
 ·exact absurd rfl hk
 ·exact absurd rfl hk
 ·exact absurd rfl hk
 ·exact absurd rfl hk
 ·rename_i t x y;obtain⟨v,h1,hv,_⟩:=dZ sat h;obtain⟨u,h2,hu,_⟩:=dZ sat h1;obtain⟨r,H',OI,ρ',w2,hK,Og,hr,QR,hρ,OK⟩:=GV hτ sat h2;refine k5 (w2:=w2) (by simp only[execOp,hv,hu];exact mJ OK) ?_;exact hn _ _ _ _ _ _ _ hK (sat.next Og QR hρ) hr
 ·exact absurd rfl hk
 ·exact absurd rfl hk
 ·exact absurd rfl hk
 ·exact absurd rfl hk
 ·exact absurd rfl hk
 ·exact absurd rfl hk
 ·rename_i x y t u;split at h
  ·rename_i htu;have htu:=eM htu;subst htu;obtain⟨v,h1,hv,_⟩:=dZ sat h;obtain⟨v2,h2,RK,_⟩:=dZ sat h1;split at h2
   ·unfold gaK at h2;split at h2
    ·exact h2.elim
    ·obtain⟨v,H',OI,iv',ρ',w2,w3,OK,Og,hs,QR,hρ,hK⟩:=h2.h O w' a.eval sat.rel (fun x v hx=>(tN sat hx).1);exact k5 OK (hn _ _ _ _ _ _ _ hK (sat.next Og QR hρ) hs)
   rcases h2 with h2|h2
   ·obtain⟨r,H',OI,ρ',w2,hK,Og,hr,QR,hρ,OK⟩:=tL (ty:=ty) hτ sat h2;refine k5 (v:=r.den ρ') (w2:=w2) ?_ ?_
    ·simp[execOp,resolve,invoke,builtin,hv,RK,OK]
    ·exact hn _ _ _ _ _ _ _ hK (sat.next Og QR hρ) hr
   ·exact iQ h2 sat hn
  ·exact iQ h sat hn
 ·exact absurd rfl hk
 ·exact absurd rfl hk
 ·exact iQ h sat hn
 ·exact iQ h sat hn
 ·exact iQ h sat hn
 ·exact iQ h sat hn
 ·exact iQ h sat hn
 ·exact iQ h sat hn
 ·exact iQ h sat hn
 ·rename_i f args ats;obtain⟨v,h1,hv,_⟩:=dZ sat h;obtain⟨vs,h2,QW,SG⟩:=qg sat h1;have Ri:(args.toArray).map a.eval=ni O vs:=by
   apply Array.ext';simp[ni,QW]
  have Vf:∀(g:Nat) (args:(Nat->dx)->Array Value) (K:SV->Hp->Iv->World->Prop),Jr dr P B g args H nx iv w K->ER P B g args H nx iv w K:=fun g args K h=>by
   cases dr
   ·exact h
   ·exact cF h
  split at h2
  ·rename_i g first caps
   refine yo sat (Vf _ _ _ h2) ?_ (fun v H' iv' w2 hK hs hv=>hn _ _ _ _ _ _ _ hK hs hv);simp[execOp,resolve,hv,SV.den,At.den,Deferred.ofValue,invoke,Ri]
  ·rename_i g ids;refine yo sat (Vf _ _ _ h2) ?_ (fun v H' iv' w2 hK hs hv=>hn _ _ _ _ _ _ _ hK hs hv);simp[execOp,resolve,hv,SV.den,At.den,Deferred.ofValue,invoke,Ri]
  ·exact h2.elim
end
def Ex.to:Ex->Exit
 | .normal=>.normal
 | .exit id=>.exit id
 | .ret=>.ret
def Ng(n:Nat)(o:Oper):Bool:=match o.dst with
 |some d=>Nat.blt d n
 |none=>true
def codeOk(n:Nat):Code->Bool
 | .region _ ops _=>ops.toList.all (Ng n)
 | .seq a b=>codeOk n a&&codeOk n b
 | .cond _ a b=>codeOk n a&&codeOk n b
 | .block _ c=>codeOk n c
 | .loop c=>codeOk n c
 |_=>true
section
variable{P:Program}{τ:mz}{B n nx:Nat}{l:Env}{H:Hp}{iv:Iv}{w w':World}{O:Nat->dx}{a:Act}
theorem Sat.put(sat:Sat n l H nx iv B w O a w'){d:Nat}(hd:d<n){v:SV}(hv:v.sc nx):Sat n ((d,v)::l) H nx iv B w O (a.put (some d) (v.den O)) w':=by
 refine⟨sat.rel,by simp[Act.put,sat.size],sat.defers,fun t u h=>?_,fun t u h=>?_⟩
 ·rw[ee]at h;split at h
  ·rename_i e;subst e;injection h with h;subst h;simp[Act.put,sat.size,hd]
  ·rename_i e;have:=sat.env t u h;simpa [Act.put,Array.getElem?_setIfInBounds_ne e]using this
 ·rw[ee]at h;split at h
  ·injection h with h;subst h;exact hv
  ·exact sat.sc t u h
theorem fC(sat:Sat n l H nx iv B w O a w'){v:SV}{k:Env->Prop}(h:EL d v l k)(hd:∀t,d=some t->t<n)(hv:v.sc nx):
  ∃l',k l'∧Sat n l' H nx iv B w O (a.put d (v.den O)) w':=by
 unfold EL at h;split at h
 ·rename_i t;exact⟨_,h,sat.put (hd t rfl) hv⟩
 ·exact⟨l,h,sat⟩
theorem sJ:∀{all:List Oper} {j:Nat},Bg all j=(all[j]?).bind (·.dst)
 |[],j=>by simp[Bg]
 |o::r,0=>by simp[Bg]
 |o::r,j+1=>by simp[Bg,sJ (all:=r)]
theorem Sat.aAW(sat:Sat n l H nx iv B w O a w'){d:Nat}{v:SV}(hd:a.tmps[d]? =some (v.den O))(hv:v.sc nx):Sat n ((d,v)::l) H nx iv B w O a w':=by
 refine⟨sat.rel,sat.size,sat.defers,fun t u h=>?_,fun t u h=>?_⟩
 ·rw[ee]at h;split at h
  ·rename_i e;subst e;injection h with h;subst h;exact hd
  ·exact sat.env t u h
 ·rw[ee]at h;split at h
  ·injection h with h;subst h;exact hv
  ·exact sat.sc t u h
theorem iu(sat:Sat n l H nx iv B w O a w'){all:List Oper}{o:Oper}{yes no:Env->Prop}(h:tF all o.guard l yes no):
  (Region.wanted o (yielded all.toArray a.tmps)=true∧∃l',yes l'∧Sat n l' H nx iv B w O a w')∨(Region.wanted o (yielded all.toArray a.tmps)=false∧∃l',no l'∧Sat n l' H nx iv B w O a w'):=by
 unfold tF at h;split at h
 ·rename_i hg;exact .inl ⟨by simp[Region.wanted,hg],l,h,sat⟩
 ·rename_i j want hg;have hy:Region.wanted o (yielded all.toArray a.tmps)=(yielded all.toArray a.tmps j==some want):=by simp[Region.wanted,hg]
  split at h
  ·rename_i hd;rw[sJ]at hd;exact .inr ⟨by rw[hy];simp[yielded,hd],l,h,sat⟩
  ·rename_i d hd;rw[sJ]at hd;split at h
   ·rename_i b hb;have ht:=sat.env d _ hb;have UF:yielded all.toArray a.tmps j=some b:=by simp[yielded,hd,ht,SV.den,At.den]
    have hkt:b=true->Sat n ((d,.o (.v (.bool true)))::l) H nx iv B w O a w':=fun e=>sat.aAW (by rw[ht,e]) trivial;have hkf:b=false->Sat n ((d,.o (.v (.bool false)))::l) H nx iv B w O a w':=fun e=>sat.aAW (by rw[ht,e]) trivial;split at h
    ·cases OQ:b
     ·exact .inr ⟨by rw[hy,UF,OQ];rfl,_,h.f OQ,hkf OQ⟩
     ·exact .inl ⟨by rw[hy,UF,OQ];rfl,_,h.t OQ,hkt OQ⟩
    ·cases OQ:b
     ·exact .inl ⟨by rw[hy,UF,OQ];rfl,_,h.f OQ,hkf OQ⟩
     ·exact .inr ⟨by rw[hy,UF,OQ];rfl,_,h.t OQ,hkt OQ⟩
   ·rename_i vs hb;have ht:=sat.env d _ hb;exact .inr ⟨by rw[hy];simp[yielded,hd,ht,SV.den,At.den],l,h,sat⟩
   ·exact h.elim
theorem pW(hτ:fQ P τ){all:List Oper}{K:KT}{Q:Exit->Act->World->Prop}
  (hQ:∀l' H' OI iv' w2 ρ' a' w3,K l' H' OI iv' w2->Sat n l' H' OI iv' B w2 ρ' a' w3->Q .normal a' w3):
  ∀(rest:List Oper) (l:Env) (H:Hp) (nx:Nat) (iv:Iv) (w:World) (O:Nat->dx) (a:Act) (w':World),rest.all (Ng n)=true->Ha P τ B all rest l H nx iv w K->Sat n l H nx iv B w O a w'->
   wpList P all.toArray Q rest a w'
 |[],l,H,nx,iv,w,O,a,w',_,h,sat=>wpList_nil (hQ _ _ _ _ _ _ _ _ h sat)
 |o::r,l,H,nx,iv,w,O,a,w',OF,h,sat=>by
  simp only[List.all_cons,a9]at OF;have hd:∀t,o.dst=some t->t<n:=fun t ht=>by
   have:=OF.1;simp only[Ng,ht]at this;have h5:t+1<=n:=by simpa [Nat.blt]using this
   exact h5
  refine wpList_step fun Kc hKc=>?_;unfold Ha fh at h;rcases iu sat h with⟨hw,l1,h1,sat1⟩|⟨hw,l1,h1,sat1⟩
  ·rw[if_pos hw];refine lI hτ h1 sat1 fun v H' OI iv' w2 ρ' w3 h2 sat2 hv=>?_;obtain⟨l2,h3,sat3⟩:=fC sat2 h2 hd hv;exact hKc _ _ (pW hτ hQ r _ _ _ _ _ _ _ _ OF.2 h3 sat3)
  ·rw[aJ (by simp[hw])];obtain⟨l2,h3,sat3⟩:=fC sat1 h1 hd trivial;exact hKc _ _ (pW hτ hQ r _ _ _ _ _ _ _ _ OF.2 h3 sat3)
theorem Sub.sat{t:Bh}(h:Sub B l nx O w' t)(sat:Sat n l H nx iv B w O a w'):∃ρ',Sat n t.l t.H t.nx t.iv B t.w ρ' a w':=by
 obtain⟨ρ',h1,h2⟩:=h;refine⟨ρ',h1,sat.size,sat.defers,fun u v hv=>?_,fun u v hv=>(h2 u v hv).1⟩;obtain⟨_,v0,h3,h4⟩:=h2 u v hv;rw[sat.env u v0 h3,h4]
theorem iB(hτ:fQ P τ):∀(c:Code) (l:Env) (H:Hp) (nx:Nat) (iv:Iv) (w:World) (Q':Ex->KT),mj P τ B c l H nx iv w Q'->codeOk n c=true->
  ∀(O:Nat->dx) (a:Act) (w':World),Sat n l H nx iv B w O a w'->∀Q:Exit->Act->World->Prop,(∀e l' H' OI iv' w2 ρ' a' w3,Q' e l' H' OI iv' w2->Sat n l' H' OI iv' B w2 ρ' a' w3->Q e.to a' w3)->c.wp P Q a w'
 | .skip,l,H,nx,iv,w,Q',h,_,O,a,w',sat,Q,hQ=>wp_skip (hQ .normal _ _ _ _ _ _ _ _ h sat)
 | .region id ops false,l,H,nx,iv,w,Q',h,OF,O,a,w',sat,Q,hQ=>by
  obtain⟨ol⟩:=ops;exact wp_region_lit (pW hτ (fun l' H' OI iv' w2 ρ' a' w3 hk hs=>hQ .normal _ _ _ _ _ _ _ _ hk hs) ol _ _ _ _ _ _ _ _ OF h sat)
 | .region id ops true,l,H,nx,iv,w,Q',h,OF,O,a,w',sat,Q,hQ=>
  ui.h h n O a w' OF sat Q (fun l' H' OI iv' w2 ρ' a' w3 hk hs=>hQ .normal _ _ _ _ _ _ _ _ hk hs) id
 | .seq c d,l,H,nx,iv,w,Q',h,OF,O,a,w',sat,Q,hQ=>by
  simp only[codeOk,a9]at OF;refine wp_seq (iB hτ c _ _ _ _ _ _ h OF.1 O a w' sat _ fun e l' H' OI iv' w2 ρ' a' w3 hk hs=>?_)
  cases e with
  |normal=>exact iB hτ d _ _ _ _ _ _ hk OF.2 ρ' a' w3 hs Q hQ
  |exit id=>exact hQ (.exit id) _ _ _ _ _ _ _ _ hk hs
  |ret=>exact hQ .ret _ _ _ _ _ _ _ _ hk hs
 | .cond x c d,l,H,nx,iv,w,Q',h,OF,O,a,w',sat,Q,hQ=>by
  simp only[codeOk,a9]at OF;obtain⟨v,h1,hv,QW⟩:=dZ sat h;clear QW;split at h1
  ·rename_i t;refine wp_cond_split (t:=t) (by rw[hv];rfl) (fun ht=>?_) (fun ht=>?_)
   ·exact iB hτ c _ _ _ _ _ _ (h1.t ht) OF.1 O a w' sat Q hQ
   ·exact iB hτ d _ _ _ _ _ _ (h1.f ht) OF.2 O a w' sat Q hQ
  ·exact h1.elim
 | .block id c,l,H,nx,iv,w,Q',h,OF,O,a,w',sat,Q,hQ=>by
  refine wp_block (iB hτ c _ _ _ _ _ _ h OF O a w' sat _ fun e l' H' OI iv' w2 ρ' a' w3 hk hs=>?_)
  cases e with
  |normal=>exact hQ .normal _ _ _ _ _ _ _ _ hk hs
  |exit id'=>
   simp only[Ex.to,Exit.inBlock]
   simp only at hk;split at hk
   ·rename_i he;rw[if_pos (eM he)];exact hQ .normal _ _ _ _ _ _ _ _ hk hs
   ·rename_i he;rw[aJ (fun e=>by subst e;rw[Nat.beq_refl]at he;cases he)];exact hQ (.exit id') _ _ _ _ _ _ _ _ hk hs
  |ret=>exact hQ .ret _ _ _ _ _ _ _ _ hk hs
 | .loop c,l,H,nx,iv,w,Q',h,OF,O,a,w',sat,Q,hQ=>by
  obtain⟨α,st,μ,I,h0,hr⟩:=h;intro b k cs;have key:∀m x O a w',μ x=m->I x->Sat n (st x).l (st x).H (st x).nx (st x).iv B (st x).w O a w'->
    ∃e a' w2,Q e a' w2∧Arrives P (lone (b.at a (.code c:: .inLoop c::k)) cs w') b k cs e a' w2:=by
   intro m
   induction m using Nat.strongRecOn with
   |_ m ih=>
    intro x O a w' hm hI hs;have hc:=iB hτ c _ _ _ _ _ _ (hr x hI) OF O a w' hs
     (fun e a2 w2=>match e with
      | .normal=>∃y ρ2,I y∧Sat n (st y).l (st y).H (st y).nx (st y).iv B (st y).w ρ2 a2 w2∧μ y<μ x
      |e=>Q e a2 w2) (fun e l' H' OI iv' w2 ρ' a' w3 hk TC=>by
       cases e with
       |normal=>
        obtain⟨y,hIy,hy,OU⟩:=hk ρ' w3 TC.rel;obtain⟨ρ2,QS⟩:=hy.sat TC;exact⟨y,ρ2,hIy,QS,OU⟩
       |exit id=>exact hQ (.exit id) _ _ _ _ _ _ _ _ hk TC
       |ret=>exact hQ .ret _ _ _ _ _ _ _ _ hk TC)
    obtain⟨e,a₁,w₁,hq,SP⟩:=hc b (.inLoop c::k) cs
    cases e with
    |normal=>
     obtain⟨y,ρ2,hIy,QS,OU⟩:=hq;obtain⟨e₂,a₂,w₂,hq₂,harr₂⟩:=ih (μ y) (hm▸OU) y ρ2 a₁ w₁ rfl hIy QS;exact⟨e₂,a₂,w₂,hq₂,.of_steps (Steps.trans SP (.one step_inLoop)) harr₂⟩
    |exit id=>exact⟨_,a₁,w₁,hq,.pass (x:=.inLoop c) rfl (fun _ _=>.inl (by simp)) SP⟩
    |goto l=>exact⟨_,a₁,w₁,hq,.pass (x:=.inLoop c) rfl (fun _ _=>.inl (by simp)) SP⟩
    |ret=>exact⟨_,a₁,w₁,hq,.pass (x:=.inLoop c) rfl (fun _ _=>.inl (by simp)) SP⟩
    |panic ch=>exact⟨_,a₁,w₁,hq,.pass (x:=.inLoop c) rfl (fun _ _=>.inl (by simp)) SP⟩
    |outgrown=>exact⟨_,a₁,w₁,hq,.pass (x:=.inLoop c) rfl (fun _ _=>.inl (by simp)) SP⟩
  obtain⟨x,hIx,hx⟩:=h0 O w' sat.rel;obtain⟨ρ2,QS⟩:=hx.sat sat;obtain⟨e,a',w2,hq,SP⟩:=key _ x ρ2 a w' rfl hIx QS;exact⟨e,a',w2,hq,.of_steps (.one step_loop) SP⟩
 | .exit id,l,H,nx,iv,w,Q',h,_,O,a,w',sat,Q,hQ=>wp_exit (hQ (.exit id) _ _ _ _ _ _ _ _ h sat)
 | .ret,l,H,nx,iv,w,Q',h,_,O,a,w',sat,Q,hQ=>wp_ret (hQ .ret _ _ _ _ _ _ _ _ h sat)
 | .rangeFunc _ _ _ _,l,H,nx,iv,w,Q',h,_,O,a,w',sat,Q,hQ=>h.elim
 | .scope _,l,H,nx,iv,w,Q',h,_,O,a,w',sat,Q,hQ=>h.elim
 | .label _,l,H,nx,iv,w,Q',h,_,O,a,w',sat,Q,hQ=>h.elim
 | .goto _,l,H,nx,iv,w,Q',h,_,O,a,w',sat,Q,hQ=>h.elim
 | .refuse _,l,H,nx,iv,w,Q',h,_,O,a,w',sat,Q,hQ=>h.elim
def fa:Nat->List Value->Env
 |_,[]=>[]
 |k,v::r=>(k,.o (.v v))::fa (k+1) r
theorem sK:∀(vs:List Value) (k t:Nat) (v:SV),fX (fa k vs) t=some v->k<=t∧∃x,v= .o (.v x)∧vs[t-k]? =some x
 |[],k,t,v,h=>by simp[fa,fX]at h
 |x::r,k,t,v,h=>by
  rw[fa,ee]at h;split at h
  ·rename_i e;subst e;injection h with h;subst h;exact⟨aF _,x,rfl,by simp⟩
  ·obtain⟨h1,y,h2,h3⟩:=sK r (k+1) t v h;refine⟨by omega,y,h2,?_⟩;rw[show t-k=(t-(k+1))+1 by omega];simpa using h3
def EZ(τ:mz)(B:Nat)(l:Env)(H:Hp)(nx:Nat)(iv:Iv)(w:World):List ResultVar->(List SV->Prop)->Prop
 |[],k=>k []
 | .tmp t::r,k=>match fX l t with
  |some v=>EZ τ B l H nx iv w r (fun vs=>k (v::vs))
  |none=>False
 | .cell t ty::r,k=>match fX l t with
  |some v=>Bf τ B ty v H nx iv w (fun u=>EZ τ B l H nx iv w r (fun vs=>k (u::vs)))
  |none=>False
def Jv(B:Nat)(H:Hp)(nx:Nat)(iv:Iv)(w:World)(R:Ending->World->Prop):List SV->Prop
 |[v]=>∀O w',Rel H nx iv B w O w'->R (.returned (v.den O)) w'
 |vs=>∀O w',Rel H nx iv B w O w'->R (.returned (.tuple (ni O vs))) w'
def Nh(τ:mz)(B:Nat)(rs:List ResultVar)(R:Ending->World->Prop):Ex->KT
 | .exit _,_,_,_,_,_=>False
 | .normal,l,H,nx,iv,w=>EZ τ B l H nx iv w rs (Jv B H nx iv w R)
 | .ret,l,H,nx,iv,w=>EZ τ B l H nx iv w rs (Jv B H nx iv w R)
def Jw(tmps:Array Value):ResultVar->Sem Value
 | .tmp t=>pure (tmps.getD t undef)
 | .cell c t=>do loadVar t (<-asAddr (tmps.getD c undef))
theorem uv(hτ:fQ P τ)(sat:Sat n l H nx iv B w O a w'):∀{rs:List ResultVar} {k:List SV->Prop},EZ τ B l H nx iv w rs k->
  ∃vs,k vs∧(rs.mapM (Jw a.tmps)).run P w'= .ok (vs.map (SV.den O)) w'
 |[],k,h=>⟨[],h,by simp⟩
 | .tmp t::r,k,h=>by
  unfold EZ at h;split at h
  ·rename_i v hv;obtain⟨vs,h1,h2⟩:=uv hτ sat h;have:=sat.env t v hv;exact⟨v::vs,h1,by rw[List.mapM_cons,Sem.run_bind];simp[Jw,this,h2]⟩
  ·exact h.elim
 | .cell t ty::r,k,h=>by
  unfold EZ at h;split at h
  ·rename_i v hv;obtain⟨u,h1,hu,Vg⟩:=nu hτ sat.rel (sat.sc t v hv) h;have OK:=Vg w' sat.rel;clear Vg;obtain⟨vs,h2,h3⟩:=uv hτ sat h1;have htm:=sat.env t v hv;refine⟨u::vs,h2,?_⟩;have:(do loadVar ty (<-asAddr (v.den O)):Sem Value).run P w'= .ok (u.den O) w':=by
    revert OK;generalize v.den O=x;intro OK
    cases x with
    |pointer ad=>
     cases ad with
     |some ad=>simpa [asAddr,Instr.loadAt,Instr.sureAddr]using OK
     |none=>simp[Instr.loadAt,Instr.sureAddr]at OK
    |_=>simp[Instr.loadAt,Instr.sureAddr]at OK
   have h4:(Jw a.tmps (.cell t ty)).run P w'= .ok (u.den O) w':=by
    have e:a.tmps.getD t undef=v.den O:=by simp[htm]
    show(do loadVar ty (<-asAddr (a.tmps.getD t undef)):Sem Value).run P w'=_;rw[e];exact this
   rw[List.mapM_cons,Sem.run_bind,h4];simp[h3]
  ·exact h.elim
theorem Ea(hτ:fQ P τ){f:FuncId}{fn:Func}{c:Code}{args:Array Value}{w:World}(hf:P.funcs[f]? =some fn)(hb:fn.body=some c)
  (hn:args.size<=fn.ntmps) (OF:codeOk fn.ntmps c=true) (h:mj P τ w.heap.size c (fa 0 args.toList) [] 0 [] w (Nh τ w.heap.size fn.results.toList R)):Calls P f args w R:=by
 refine calls_of_wp hf hb ?_;have sat:Sat fn.ntmps (fa 0 args.toList) [] 0 [] w.heap.size w (fun _=>⟨0,0,true⟩) {tmps:=args++Array.replicate (fn.ntmps-args.size) undef,defers:=[]} w:=by
  refine⟨Rel.mk' rfl rfl rfl (aF _) (aF _) (by simp) (by simp[dF]) (by simp[dF]) (by simp[dF]) (by simp[dF]) (by simp[dF]) (fun _ _ _=>rfl) (by simp),by simp;omega,rfl,fun t v hv=>?_,fun t v hv=>?_⟩
  ·obtain⟨_,x,rfl,hx⟩:=sK _ 0 t v hv;simp only[Nat.sub_zero,bA]at hx;rw[Array.getElem?_append_left (ai.1 hx).1,hx];rfl
  ·obtain⟨_,x,rfl,hx⟩:=sK _ 0 t v hv;trivial
 refine iB hτ c _ _ _ _ _ _ h OF _ _ _ sat _ fun e l' H' OI iv' w2 ρ' a' w3 hk hs=>?_;have fin:EZ τ w.heap.size l' H' OI iv' w2 fn.results.toList (Jv w.heap.size H' OI iv' w2 R)->a'.defers=[]∧∃v,(results fn a'.tmps).run P w3= .ok v w3∧R (.returned v) w3:=by
  intro hk;obtain⟨vs,h1,h2⟩:=uv hτ hs hk;refine⟨hs.defers,if Oy:(vs.map (SV.den ρ')).toArray.size=1 then(vs.map (SV.den ρ')).toArray[0]else .tuple (vs.map (SV.den ρ')).toArray,?_,?_⟩
  ·have e:(fn.results.mapM (Jw a'.tmps)).run P w3= .ok (vs.map (SV.den ρ')).toArray w3:=by
    rw[Array.mapM_eq_mapM_toList];simp only[Sem.run_map,h2,Result.andThen_ok]
   show(do let vs <-fn.results.mapM (Jw a'.tmps);pure (if h:vs.size=1 then vs[0]else .tuple vs):Sem Value).run P w3=_;rw[Sem.run_bind,e];simp only[Result.andThen_ok,Sem.run_pure]
  ·match vs,h1 with
   |[v],h1=>simpa using h1 ρ' w3 hs.rel
   |[],h1=>simpa [ni]using h1 ρ' w3 hs.rel
   |v1::v2::r,h1=>simpa [ni]using h1 ρ' w3 hs.rel
 cases e with
 |normal=>exact fin hk
 |exit id=>exact hk.elim
 |ret=>exact fin hk
end
section
variable{P:Program}{ops:Array Oper}{Q:Exit->Act->World->Prop}{md:Region.Mode}
def iC(P:Program)(ops:Array Oper)(pu:Bool)(o:Oper)(v:Value)(a:Act)(w:World):Prop:=
 (Region.wanted o (yielded ops a.tmps)=true∧∀w2,(pu=true∨Ext w w2)->(execOp a.eval o).run P w2= .ok (.value v) w2)∨
 (Region.wanted o (yielded ops a.tmps)=false∧v=undef)
theorem Ext.refl(w:World):Ext w w:=RowKit.Below.refl _ _
theorem Ext.trans{a b c:World}(h:Ext a b)(k:Ext b c):Ext a c:=RowKit.Below.trans h (k.mono h.size)
theorem iC.wpOp{i:Nat}{o:Oper}{a:Act}(hi:ops[i]? =some o)(hy:iC P ops pu o v a w)
  {K:Act->World->Prop} (h:K (a.put o.dst v) w):wpOp P ops Q i K a w:=by
 unfold Go.wpOp;simp only[hi]
 rcases hy with⟨hw,hv⟩|⟨hw,rfl⟩
 ·simp only[hw,if_true,Oper.wp,hv w (.inr (Ext.refl w)),Oper.upon];exact .inl h
 ·simp only[hw,Bool.false_eq_true,if_false];exact h
theorem iC.of_same{o:Oper}{a a':Act}(hy:iC P ops pu o v a w)(he:execOp a'.eval o=execOp a.eval o)
  (hw:Region.wanted o (yielded ops a'.tmps)=Region.wanted o (yielded ops a.tmps)):iC P ops pu o v a' w:=by
 unfold iC at*
 rw[he,hw];exact hy
theorem iC.ext{o:Oper}{a:Act}(hy:iC P ops pu o v a w)(e:pu=true∨Ext w w2):iC P ops pu o v a w2:=
 hy.imp (fun ⟨h1,h2⟩=>⟨h1,fun w3 h3=>h2 w3 (by
  rcases h3 with h3|h3
  ·exact .inl h3
  ·exact e.imp id (fun e=>e.trans h3))⟩) id
theorem Ia{oi oj:Oper}{w0:World}(hj:ops[j]? =some oj)(Qr:oi.apart ops oj=true)
  (hsi:∀cs b,oi.op≠ .select cs b) (hsj:∀cs b,oj.op≠ .select cs b)
  (hQ:∀c a w,Q (.panic c) (a.put oi.dst v) w->Q (.panic c) a w) {K:Act->World->Prop} {a:Act}
  (hy:iC P ops pu oi v a w0) (h:wpOp P ops Q j K (a.put oi.dst v) w):
  wpOp P ops Q j (fun a' w'=>iC P ops pu oi v a' w0∧K (a'.put oi.dst v) w') a w:=by
 obtain⟨h1,h2,h3⟩:=Oper.apart_spec Qr;have cJ:∀(a:Act),iC P ops pu oi v a w0->∀u,iC P ops pu oi v (a.put oj.dst u) w0:=fun a hy u=>
  hy.of_same (execOp_put oi hsi a oj.dst u h3) (wanted_put oi a oj.dst u h3)
 have keepD:∀d,iC P ops pu oi v {a with defers:=d::a.defers} w0:=fun d=>hy.of_same rfl rfl;unfold wpOp at*
 simp only[hj]at*
 rw[wanted_put oj a oi.dst v h1]at h;split
 ·rename_i hw;simp only[hw,if_true]at h;rcases h with h|⟨SQ,UG⟩
  case inr=>exact .inr ⟨by unfold Oper.asks at *;rw[execOp_put oj hsj a oi.dst v h1]at SQ;exact SQ,UG⟩
  refine .inl ?_;unfold Oper.wp at*
  rw[execOp_put oj hsj a oi.dst v h1]at h;generalize (execOp a.eval oj).run P w=r at*
  cases r with
  |ok n w'=>
   cases n<;>simp only[Oper.upon]at h ⊢
   case value u=>exact⟨cJ a hy u,by rw[<-Act.put_comm a v u h2];exact h⟩
   case skip=>exact⟨cJ a hy _,by rw[<-Act.put_comm a v undef h2];exact h⟩
   case defer d=>
    refine⟨cJ _ (keepD d) _,?_⟩;rw[<-Act.put_comm _ v undef h2,<-Act.put_defers];exact h
   case enter f args=>
    refine Calls.mono h fun e w'' he=>?_
    cases e with
    |returned u=>exact⟨cJ a hy u,by rw[<-Act.put_comm a v u h2];exact he⟩
    |panicked c=>exact hQ _ _ _ he
    |outgrown=>exact he
   case row row args=>exact Rows.mono h fun u w'' he=>⟨cJ a hy u,by rw[<-Act.put_comm a v u h2];exact he⟩
  |halt x w'=>
   cases x<;>simp only[Oper.upon]at h ⊢
   case panic u=>exact hQ _ _ _ h
 ·rename_i hw;simp only[hw]at h;exact⟨cJ a hy _,by rw[<-Act.put_comm a v undef h2];exact h⟩
def pC(o:Oper):Bool:= !(tB o.op||Jh o.op||(match o.op with
 | .call ⟨.value _,_,_⟩=> !(Nat.beq o.type 0)
 |_=>false))
def fI(o:Oper):Bool:=match o.op with
 | .call ⟨.value _,_,_⟩=>Nat.beq o.type 0
 |_=>false
theorem lH{o:Oper}(h:tB o.op=true):fI o=false:=by
 unfold fI;split
 ·rename_i e;rw[e]at h
  cases h
 ·rfl
theorem GN{o:Oper}(h:Jh o.op=true):fI o=false:=by
 unfold fI;split
 ·rename_i e;rw[e]at h
  cases h
 ·rfl
theorem mi{o:Oper}(h:pC o=false):fI o=false:=by
 unfold fI;split
 ·rename_i e;simp only[pC,e,tB,Jh,Bool.false_or,Bool.not_not]at h;exact h
 ·rfl
def sE(P:Program)(md:Region.Mode)(ops:Array Oper)(Q:Exit->Act->World->Prop):Nat->Array Bool->Act->World->Prop
 |0,listed,a,w=>Region.ready md ops listed=[]∧Q .normal a w
 |fuel+1,listed,a,w=>
  (Region.ready md ops listed=[]->Q .normal a w)∧
  ∀i∈Region.ready md ops listed,wpOp P ops Q i (fun a' w'=>((∀o,ops[i]? =some o->pC o=false)->Ext w w')∧sE P md ops Q fuel (listed.setIfInBounds i true) a' w') a w
theorem sG:∀(fuel:Nat) (listed:Array Bool) (a:Act) (w:World),sE P md ops Q fuel listed a w->wpAny P md ops Q fuel listed a w
 |0,_,_,_,h=>h
 |fuel+1,_,_,_,h=>⟨h.1,fun i hi=>wpOp_mono (fun a' w' h'=>sG fuel _ a' w' h'.2) (h.2 i hi)⟩
theorem kl{i:Nat}{oi:Oper}(hi:ops[i]? =some oi)(OS:∀(j:Nat) (o:Oper) cs b,ops[j]? =some o->o.op≠ .select cs b)
  (hQ:∀c a w,Q (.panic c) (a.put oi.dst v) w->Q (.panic c) a w) (y8:Nat->Prop) (SO:∀j,y8 j->∃oj e,ops[j]? =some oj∧e∈oj.after∧Region.binds md e=true∧(e.on=i∨y8 e.on)):
  ∀(fuel:Nat) (listed:Array Bool) (a:Act) (w:World),(∀j,y8 j->listed.getD j false=false)->
   (∀j oj,ops[j]? =some oj->j≠i->listed.getD j true=false->¬y8 j->oi.apart ops oj=true∧(pu=true∨pC oj=false))->
   i∈Region.ready md ops listed->iC P ops pu oi v a w->
   sE P md ops Q fuel (listed.setIfInBounds i true) (a.put oi.dst v) w->sE P md ops Q (fuel+1) listed a w:=by
 intro fuel
 induction fuel with
 |zero=>
  intro listed a w _ _ hr hy H;refine⟨fun h=>(by rw[h]at hr;cases hr),fun j hj=>?_⟩;by_cases Ox:j=i
  ·subst Ox;exact hy.wpOp hi ⟨fun _=>Ext.refl w,H⟩
  ·have:=ready_mono hj Ox;rw[H.1]at this
   cases this
 |succ fuel ih=>
  intro listed a w PX PM hr hy H;refine⟨fun h=>(by rw[h]at hr;cases hr),fun j hj=>?_⟩;by_cases Ox:j=i
  ·subst Ox;exact hy.wpOp hi ⟨fun _=>Ext.refl w,H⟩
  ·have h1:=H.2 j (ready_mono hj Ox);obtain⟨UH,oj,Qf,Ph⟩:=mem_ready.1 hj;have Q4:¬y8 j:=fun hb=>by
    obtain⟨oj',e,Rj,he,hbi,Tl⟩:=SO j hb;rw[Qf]at Rj;injection Rj with Rj;subst Rj;have h1:=Ph e he hbi;rcases Tl with heq|QE
    ·have h0:=(mem_ready.1 hr).1;rw[heq]at h1;rcases aP i listed.size with h'|h'
     ·simp[h']at h0 h1;rw[h0]at h1;cases h1
     ·simp[Array.getElem?_eq_none h']at h1
    ·rw[PX _ QE]at h1;cases h1
   have Sa:=PM j oj Qf Ox UH Q4;have h2:=Ia Qf Sa.1 (fun cs b=>OS i oi cs b hi) (fun cs b=>OS j oj cs b Qf) hQ hy h1;have hbl':∀k,y8 k->(listed.setIfInBounds j true).getD k false=false:=fun k hk=>by
    rw[getD_set_ne false (fun e=>(by subst e;exact Q4 hk))];exact PX k hk
   have Sj:∀k ok,ops[k]? =some ok->k≠i->(listed.setIfInBounds j true).getD k true=false->
     ¬y8 k->oi.apart ops ok=true∧(pu=true∨pC ok=false):=fun k ok hk hki Ti Qy=>by
    refine PM k ok hk hki ?_ Qy;by_cases Ro:j=k
    ·subst Ro;exact UH
    ·rw[getD_set_ne true Ro]at Ti;exact Ti
   refine wpOp_mono (fun a' w' h3=>?_) h2;have Rz:pC oj=false->Ext w w':=fun hf=>h3.2.1 (fun o ho=>by rw[Qf]at ho;injection ho with ho;subst ho;exact hf);refine⟨fun hh=>Rz (hh oj Qf),ih (listed.setIfInBounds j true) a' w' hbl' Sj (ready_mono hr (Ne.symm Ox)) (h3.1.ext (Sa.2.imp id Rz)) ?_⟩;rw[Array.setIfInBounds_comm _ _ Ox];exact h3.2.2
end
section
variable{P:Program}{τ:mz}{B n nx:Nat}{l:Env}{H:Hp}{iv:Iv}{w w':World}{O:Nat->dx}{a:Act}
def AL(P:Program)(o:Oper)(a:Act)(mk:Nat->Value)(obj:Obj):Prop:=
 ∀w:World,(execOp a.eval o).run P w= .ok (.value (mk w.heap.size)) (w.alloc obj)
theorem AL.uniq{o:Oper}{mk':Nat->Value}{obj':Obj}(h:AL P o a mk obj)(h':AL P o a mk' obj'):obj=obj'∧mk=mk':=by
 have key:∀w:World,mk w.heap.size=mk' w.heap.size∧w.alloc obj=w.alloc obj':=fun w=>by
  have:=(h w).symm.trans (h' w);injection this with h1 h2;injection h1 with h1;exact⟨h1,h2⟩
 refine⟨?_,funext fun g=>?_⟩
 ·have:=(key default).2;have h2:=congrArg (fun w:World=>w.heap[(default:World).heap.size]?) this;simp only[heap_alloc_new]at h2;injection h2
 ·have:=(key {(default:World)with heap:=Array.replicate g default}).1;simpa using this
theorem lG(hτ:fQ P τ){o:Oper}(h:yX dr P τ B o l H nx iv w K)(sat:Sat n l H nx iv B w O a w')(hk:Jh o.op=true):
  ∃b v mk obj,K v ((nx,b)::H) (nx+1) iv w∧b≠ .dead∧b.scopd nx∧v.sc (nx+1)∧(∀g,v.den (gl O nx ⟨g,0,false⟩)=mk g)∧(∀g w2,w2.heap[g]? =some obj->b.fits O ⟨g,0,false⟩ w2)∧AL P o a mk obj:=by
 obtain⟨dst,op,ty,pos,after,guard⟩:=o;unfold yX at h;split at h<;>first|(exact False.elim h)|(rename_i Sz;simp only at Sz;subst Sz)
 all_goals first|(exact absurd hk Bool.false_ne_true)|skip
 ·rename_i t;split at h
  ·rename_i sz ag by_ ze tag ik e al fs QI;have hK:=fk h;refine⟨_,_,fun g=>.pointer (some ⟨g,0,none⟩),.cells ze.toArray t,hK,by simp,(fun c hc=>by obtain⟨v,_,rfl⟩:=aU.1 hc;trivial),by simp[SV.sc,At.sc],fun g=>by simp[SV.den,At.den],fun g w2 hg=>⟨rfl,by rw[fg];exact hg⟩,fun w=>?_⟩;obtain⟨z,OR,Oq⟩:=(hτ t _ QI).zeroV w;simp only at Oq;have hzz:z.cells=ze.toArray:=by apply Array.ext';simpa using Oq
   simp[execOp,Instr.alloc,OR,newVar,newRow,hzz]
  ·exact h.elim
 ·rename_i t x;obtain⟨v,h1,hv,hs⟩:=dZ sat h;obtain⟨cs,hK,Ou,SG⟩:=mI h1;refine⟨_,_,fun g=>.pointer (some ⟨g,0,none⟩),.cells (cs.map (At.den O)).toArray t,hK,by simp,SG nx hs,by simp[SV.sc,At.sc],fun g=>by simp[SV.den,At.den],fun g w2 hg=>⟨rfl,hg⟩,fun w=>?_⟩;simp[execOp,Instr.box,hv,newVar,newRow,Ou O]
 ·rename_i t m parts;split at h
  ·rename_i sz ag by_ ze tag ik e al fs QI;have ht:=hτ t _ QI;split at h
   ·rename_i OV;have hu:=ht.i4 (eM OV);simp only at hu;split at h
    ·rename_i sz' ag' by' ze' tag' ik' e' al' fs' PK
     have PK:=hτ e _ PK;obtain⟨inf,z,hi,Oy,PN,hz,RJ⟩:=PK.info;have R0:=PK.IX;simp only at Oy PN RJ R0;split at h
     ·rename_i hle;have hle:=Nat.le_of_ble_eq_true hle;have h0:=fk h;obtain⟨cs',hK,On,hlen,PY⟩:=kN sat (placeF:=fun i=>some (i*inf.size,inf.size)) (fun i k hk=>⟨i*sz',sz',hk,by rw[Oy]⟩) h0
       (fun c hc=>by obtain⟨v,_,rfl⟩:=aU.1 hc;trivial)
      rw[fg]at PY;have Qb:z.cells=ze'.toArray:=by apply Array.ext';simpa using RJ
      have UE:((List.replicate m ze').flatten).toArray=madeCells z.cells (m*inf.size):=by
       rw[Qb,Oy,<-R0];exact(qj ze' m).symm
      refine⟨_,_,fun g=>.slice (some ⟨g,0,none⟩) m m,.cells (cs'.map (At.den O)).toArray e,hK,by simp,On,by simp[SV.sc,At.sc],fun g=>by simp[SV.den,At.den],fun g w2 hg=>⟨rfl,hg⟩,fun w=>?_⟩;simp only[execOp]
      refine mJ ?_;rw[UE]at PY;by_cases Ol:m*inf.size=0
      ·have RU:Instr.fill (fun i=>some (i*inf.size,inf.size)) (madeCells z.cells 0) (parts.toList.map fun p=>(p.1,a.eval p.2))=some (cs'.map (At.den O)).toArray:=by rw[Ol]at PY;exact PY
       have e0:madeCells z.cells 0= #[]:=by simp[madeCells]
       rw[e0]at RU;have er:Array.range 0= #[]:=rfl;simp[Instr.buildSlice,run_underlying hu,sizeOf,typeInfo,zeroValue,hi,hz,Ol,newRow,RU,er]
      ·exact run_buildSlice w t e m _ _ inf z hu hi hz (by rw[Oy];omega) Ol (by rw[<-PY];simp[madeCells])
     ·exact h.elim
    ·exact h.elim
   ·exact h.elim
  ·exact h.elim
 ·rename_i t x y;obtain⟨v,h1,hv,QW⟩:=dZ sat h;obtain⟨u,h2,hu,hus⟩:=dZ sat h1;clear QW hus;unfold H9 at h2;split at h2
  ·rename_i k1 a1 k2 b1;split at h2
   ·rename_i sz ag by_ ze tag ik e al fs QI;have ht:=hτ t _ QI;split at h2
    ·rename_i OV;have hut:=ht.i4 (eM OV);simp only at hut;split at h2
     ·rename_i sz' ag' by' ze' tag' ik' e' al' fs' PK
      have PK:=hτ e _ PK;obtain⟨inf,z,hi,Oy,PN,hz,RJ⟩:=PK.info;simp only at Oy PN RJ;obtain⟨m,c,rfl,rfl,hmc,hbytes,h63,h3⟩:=h2;have QG:(inf.bytes:Int)*(c:Int)<=281474976710656:=by
       rw[PN];have QE:((by'*c:Nat):Int)<=281474976710656:=by omega
       rwa [Int.natCast_mul]at QE
      have OK:=fun w:World=>run_make (P:=P) w t e inf z hut hi hz k1 k2 (m:Int) (c:Int) (by omega) (by omega) QG (by omega);simp only[aE]at OK;have R0:=PK.IX;simp only at R0;have Qb:z.cells=ze'.toArray:=by apply Array.ext';simpa using RJ
      have fin:∀cs:List Value,cs.toArray=madeCells z.cells (c*inf.size)->BE (.arr e cs) H nx (fun H' OI=>K (.o (.s nx 0 m c)) H' OI iv w)->
        ∃b v mk obj,K v ((nx,b)::H) (nx+1) iv w∧b≠ .dead∧b.scopd nx∧v.sc (nx+1)∧(∀g,v.den (gl O nx ⟨g,0,false⟩)=mk g)∧(∀g w2,w2.heap[g]? =some obj->b.fits O ⟨g,0,false⟩ w2)∧
         AL P ⟨dst,.makeSlice t x y,ty,pos,after,guard⟩ a mk obj:=by
       intro cs On hK;refine⟨_,_,fun g=>.slice (some ⟨g,0,none⟩) m c,.cells cs.toArray e,hK,by simp,trivial,by simp[SV.sc,At.sc],fun g=>by simp[SV.den,At.den],fun g w2 hg=>⟨rfl,hg⟩,fun w=>?_⟩;simp only[execOp,hv,hu]
       refine mJ ?_;rw[show SV.den O (.o (.v (.int k1 m)))= .int k1 m from rfl,show SV.den O (.o (.v (.int k2 c)))= .int k2 c from rfl,OK w,On]
      split at h3
      ·rename_i z0;refine fin _ ?_ h3;have:inf.size=1:=by rw[Oy,<-R0];rfl
       rw[this,aT,Qb,EY]
      ·refine fin _ ?_ h3;rw[Oy,<-R0,Qb,qj]
     ·exact h2.elim
    ·exact h2.elim
   ·exact h2.elim
  ·exact h2.elim
end
inductive It where
 |x (i:Nat)
 |p (i:Nat)
def ED:Env->Nat->(Env->Prop)->Prop
 |[],_,k=>k []
 |(t,v)::r,u,k=>match Nat.beq t u with
  |true=>ED r u k
  |false=>ED r u (fun r'=>k ((t,v)::r'))
def aAj(d:Option Tmp)(l:Env)(k:Env->Prop):Prop:=match d with
 |some t=>ED l t k
 |none=>k l
def nh:List Oper->Nat->(Oper->Prop)->Prop
 |[],_,_=>False
 |o::_,0,k=>k o
 |_::r,n+1,k=>nh r n k
def Jg(P:Program)(τ:mz)(B:Nat)(all:List Oper):List It->Env->Hp->Nat->Iv->World->KT->Prop
 |[],l,H,nx,iv,w,K=>K l H nx iv w
 | .x i::r,l,H,nx,iv,w,K=>nh all i (fun o=>fh (!fI o) P τ B all o l H nx iv w (fun l' H' OI iv' w'=>Jg P τ B all r l' H' OI iv' w' K))
 | .p i::r,l,H,nx,iv,w,K=>nh all i (fun o=>yX true P τ B o l H nx iv w (fun _ _ _ _ _=>aAj o.dst l (fun l'=>Jg P τ B all r l' H nx iv w K)))
def IU(ops:Array Oper)(o:Oper)(j:Nat):Bool:=match ops[j]? with
 |some oj=>o.apart ops oj
 |none=>false
def EF(la:Array Bool):List Nat->Array Bool
 |[]=>la
 |i::r=>EF (la.setIfInBounds i true) r
def tb(m j:Nat):Bool:=Nat.beq ((m >>> j) % 2) 1
def iR:List Bool->Nat->Nat
 |[],_=>0
 |true::r,j=>(1 <<< j) ||| iR r (j+1)
 |false::r,j=>iR r (j+1)
def BC(m i:Nat):List Oper->Nat->Nat->Nat
 |[],_,b=>b
 |o::r,j,b=>match(!tb m j&& !Nat.beq j i)&&o.after.toList.any (fun e=>Region.binds .any e&&(Nat.beq e.on i||tb b e.on))with
  |true=>BC m i r (j+1) (b ||| (1 <<< j))
  |false=>BC m i r (j+1) b
def H6(ops:Array Oper)(m i:Nat)(oi:Oper)(b:Nat):List Oper->Nat->Bool
 |[],_=>true
 |oj::r,j=>(Nat.beq j i||tb m j||tb b j||(oi.apart ops oj&&(GJ oi.op|| !pC oj)))&&H6 ops m i oi b r (j+1)
def NG(ops:Array Oper)(m:Nat)(Pd:List Nat)(i:Nat)(oi:Oper)(b:Nat):Bool:=Pd.all (fun j=> !tb b j)&&H6 ops m i oi b ops.toList 0
def EG(ops:Array Oper)(m:Nat)(Pd:List Nat)(i:Nat)(oi:Oper):Bool:=NG ops m Pd i oi (BC m i ops.toList 0 0)
def pM(ops:Array Oper):List It->Array Bool->List Nat->Bool
 |[],lx,Pd=>(Region.ready .any ops lx).isEmpty&&Pd.isEmpty
 | .p i::r,lx,Pd=>match ops[i]? with
  |none=>false
  |some o=>Jh o.op&&o.guard.isNone&&(match o.dst with
     |some d=> !(o.looksAt ops).contains d
     |none=>false)&&(!lx.getD i true)&&Pd.all (fun j=> !Nat.beq j i)&&
    Pd.all (fun j=>IU ops o j&&(match ops[j]? with
     |some oj=>oj.apart ops o
     |none=>false))&&pM ops r lx (i::Pd)
 | .x i::r,lx,Pd=>match ops[i]? with
  |none=>false
  |some o=>(o.guard.isNone||Pd.isEmpty)&&(Region.ready .any ops lx).contains i&&
    Pd.all (fun j=>Nat.beq j i||IU ops o j)&&
    (match tB o.op with
     |true=>EG ops (iR lx.toList 0) Pd i o
     |false=>(!pC o||Pd.isEmpty)&&(Region.ready .any ops (EF lx (Pd.filter fun j=> !Nat.beq j i))).all (fun j=>Nat.beq j i))&&
    pM ops r (lx.setIfInBounds i true) (Pd.filter fun j=> !Nat.beq j i)
theorem nB(h:j<la.size)(b c:Bool):la.getD j b=la.getD j c:=by
 rw[ah,ah,Array.getElem?_eq_getElem h];rfl
theorem nC{a b:Nat}:Nat.beq a b=false↔a≠b:=⟨fun h e=>(by subst e;rw[Nat.beq_refl]at h;cases h),fun h=>by
 cases hb:Nat.beq a b with
 |false=>rfl
 |true=>exact absurd (eM hb) h⟩
theorem Ji{a b:Nat}(h:b<a):Nat.ble a b=false:=by
 cases hb:Nat.ble a b with
 |false=>rfl
 |true=>exact absurd (Nat.le_of_ble_eq_true hb) (by omega)
theorem sC(m j:Nat):tb m j=m.testBit j:=by
 rw[Nat.testBit_eq_decide_div_mod_eq,tb,Nat.shiftRight_eq_div_pow]
 cases h:decide (m / 2^j % 2=1)with
 |true=>rw[aI h];rfl
 |false=>exact nC.2 (aH h)
theorem EH(a b j:Nat):tb (a ||| b) j=(tb a j||tb b j):=by rw[sC,sC,sC,Nat.testBit_or]
theorem GK(i j:Nat):tb (1 <<< i) j=Nat.beq j i:=by
 rw[sC,Nat.one_shiftLeft,Nat.testBit_two_pow]
 cases h:Nat.beq j i with
 |true=>exact bX (eM h).symm
 |false=>exact bL fun e=>(nC.1 h) e.symm
theorem tE(j:Nat):tb 0 j=false:=by rw[sC,Nat.zero_testBit]
theorem EI:∀(l:List Bool) (k j:Nat),tb (iR l k) j=(Nat.ble k j&&l.getD (j-k) false)
 |[],k,j=>by unfold iR;rw[tE];simp
 |b::r,k,j=>by
  have e:tb (iR (b::r) k) j=((b&&Nat.beq j k)||tb (iR r (k+1)) j):=by
   cases b<;>simp only[iR,EH,GK,Bool.false_and,Bool.true_and,Bool.false_or]
  rw[e,EI r (k+1) j];rcases bs j k with h|h|h
  ·rw[nC.2 (by omega),Bool.and_false,Bool.false_or,Ji (by omega),Ji (by omega)];rfl
  ·subst h;rw[Nat.beq_refl,Ji (by omega),Nat.ble_eq_true_of_le (aF j),bI];simp
  ·rw[nC.2 (by omega),Bool.and_false,Bool.false_or,Nat.ble_eq_true_of_le (show k+1<=j from h),Nat.ble_eq_true_of_le (Nat.le_of_lt h),show j-k=(j-(k+1))+1 by omega,List.getD_cons_succ]
def Rm(lx:Array Bool)(m:Nat):Prop:=∀j,tb m j=lx.getD j false
theorem yB(lx:Array Bool):Rm lx (iR lx.toList 0):=fun j=>by
 rw[EI,show Nat.ble 0 j=true from Nat.ble_eq_true_of_le (aQ j),Bool.true_and,Nat.sub_zero,ah,List.getD,bA]
theorem Rm.eq{m':Nat}(h:Rm lx m)(h':Rm lx m'):m=m':=Nat.eq_of_testBit_eq fun j=>by rw[<-sC,<-sC,h,h']
theorem nD{ops:Array Oper}{m i:Nat}:∀(l:List Oper) (k b:Nat),(∀n o,l[n]? =some o->ops[k+n]? =some o)->
  (∀j,tb b j=true->tb m j=false∧j≠i∧∃oj e,ops[j]? =some oj∧e∈oj.after∧Region.binds .any e=true∧(e.on=i∨∃b2,tb b2 e.on=true∧b2=b))->
  ∀j,tb (BC m i l k b) j=true->tb m j=false∧j≠i∧∃oj e,ops[j]? =some oj∧e∈oj.after∧Region.binds .any e=true∧(e.on=i∨tb (BC m i l k b) e.on=true)
 |[],k,b,_,h,j,hj=>by
  obtain⟨h1,h2,oj,e,h3,h4,h5,h6⟩:=h j hj;exact⟨h1,h2,oj,e,h3,h4,h5,h6.imp id fun⟨_,h7,h8⟩=>h8▸h7⟩
 |o::r,k,b,hl,h,j,hj=>by
  have hr:∀n o',r[n]? =some o'->ops[k+1+n]? =some o':=fun n o' hn=>by
   have:=hl (n+1) o' (by simpa using hn)
   rwa [show k+(n+1)=k+1+n by omega]at this
  unfold BC at hj ⊢
  cases hc:((!tb m k&& !Nat.beq k i)&&o.after.toList.any (fun e=>Region.binds .any e&&(Nat.beq e.on i||tb b e.on)))with
  |false=>
   rw[hc]at hj;exact nD r (k+1) b hr h j hj
  |true=>
   rw[hc]at hj;refine nD r (k+1) (b ||| (1 <<< k)) hr (fun j hj=>?_) j hj;rw[EH,GK,Bool.or_eq_true]at hj;rcases hj with hj|hj
   ·obtain⟨h1,h2,oj,e,h3,h4,h5,h6⟩:=h j hj;refine⟨h1,h2,oj,e,h3,h4,h5,h6.imp id fun⟨b2,h7,h8⟩=>⟨_,?_,rfl⟩⟩;rw[EH,<-h8,h7];rfl
   ·have hj:=eM hj;subst hj;simp only[a9,Bool.not_eq_true',List.any_eq_true]at hc;obtain⟨⟨h1,h2⟩,e,he,h3,h4⟩:=hc;refine⟨h1,nC.1 h2,o,e,by have:=hl 0 o (by simp);simpa using this,by simpa using he,h3,?_⟩;rw[Bool.or_eq_true]at h4;exact h4.imp eM fun h5=>⟨_,by rw[EH,h5];rfl,rfl⟩
theorem yY{ops:Array Oper}{m i:Nat}{oi:Oper}{b:Nat}:∀(l:List Oper) (k:Nat),H6 ops m i oi b l k=true->∀n oj,l[n]? =some oj->k+n≠i->tb m (k+n)=false->tb b (k+n)=false->oi.apart ops oj=true∧(GJ oi.op=true∨pC oj=false)
 |[],_,_,n,oj,hn,_,_,_=>by simp at hn
 |o::r,k,h,n,oj,hn,h1,h2,h3=>by
  unfold H6 at h;rw[a9]at h
  cases n with
  |zero=>
   rw[List.getElem?_cons_zero]at hn;injection hn with hn;subst hn;rw[bw]at h1 h2 h3;rw[nC.2 h1,h2,h3]at h;simpa using h.1
  |succ n=>
   rw[List.getElem?_cons_succ]at hn;rw[show k+(n+1)=k+1+n by omega]at h1 h2 h3;exact yY r (k+1) h.2 n oj hn h1 h2 h3
theorem yZ{ops:Array Oper}{i:Nat}{oi:Oper}(h:EG ops (iR lx.toList 0) Pd i oi=true)(hs:lx.size=ops.size):∃y8:Nat->Prop,
  (∀j,y8 j->∃oj e,ops[j]? =some oj∧e∈oj.after∧Region.binds .any e=true∧(e.on=i∨y8 e.on))∧(∀j,y8 j->lx.getD j false=false)∧(∀j∈Pd,¬y8 j)∧
  ∀j oj,ops[j]? =some oj->j≠i->lx.getD j true=false->¬y8 j->oi.apart ops oj=true∧(GJ oi.op=true∨pC oj=false):=by
 unfold EG NG at h;rw[a9]at h;have hm:=yB lx;have hb:=nD (ops:=ops) (m:=iR lx.toList 0) (i:=i) ops.toList 0 0 (fun n o hn=>by rw[aR];rwa [bA]at hn) (fun j hj=>by rw[tE]at hj;cases hj);generalize BC (iR lx.toList 0) i ops.toList 0 0=b at*
 refine⟨fun j=>tb b j=true,fun j hj=>(hb j hj).2.2,fun j hj=>(hm j).symm.trans (hb j hj).1,fun j hj hk=>?_,fun j oj Qf Ox hl hk=>?_⟩
 ·have:=List.all_eq_true.1 h.1 j hj;rw[hk]at this;cases this
 ·have hj:=(ai.1 Qf).1;exact yY ops.toList 0 h.2 j oj (by rw[bA];exact Qf) (by omega) (by rw[aR,hm,nB (by omega) false true];exact hl) (by rw[aR];simpa using hk)
def EJ(m:Nat):List Oper->Nat->List Nat
 |[],_=>[]
 |o::r,j=>match !tb m j&&o.after.toList.all (fun e=> !Region.binds .any e||tb m e.on)with
  |true=>j::EJ m r (j+1)
  |false=>EJ m r (j+1)
def sm(n m i:Nat):Nat:=match Nat.blt i n with
 |true=>m ||| (1 <<< i)
 |false=>m
def lsm(n:Nat)(m:Nat):List Nat->Nat
 |[]=>m
 |i::r=>lsm n (sm n m i) r
def GL(ops:Array Oper)(n:Nat):List It->Nat->List Nat->Bool
 |[],m,Pd=>(EJ m ops.toList 0).isEmpty&&Pd.isEmpty
 | .p i::r,m,Pd=>match ops[i]? with
  |none=>false
  |some o=>Jh o.op&&o.guard.isNone&&(match o.dst with
     |some d=> !(o.looksAt ops).contains d
     |none=>false)&&(Nat.blt i n&& !tb m i)&&Pd.all (fun j=> !Nat.beq j i)&&
    Pd.all (fun j=>IU ops o j&&(match ops[j]? with
     |some oj=>oj.apart ops o
     |none=>false))&&GL ops n r m (i::Pd)
 | .x i::r,m,Pd=>match ops[i]? with
  |none=>false
  |some o=>(o.guard.isNone||Pd.isEmpty)&&(EJ m ops.toList 0).contains i&&
    Pd.all (fun j=>Nat.beq j i||IU ops o j)&&
    (match tB o.op with
     |true=>EG ops m Pd i o
     |false=>(!pC o||Pd.isEmpty)&&(EJ (lsm n m (Pd.filter fun j=> !Nat.beq j i)) ops.toList 0).all (fun j=>Nat.beq j i))&&
    GL ops n r (sm n m i) (Pd.filter fun j=> !Nat.beq j i)
theorem H7{ops:Array Oper}{lx:Array Bool}{m:Nat}(hR:Rm lx m)(hs:lx.size=ops.size):∀(l:List Oper) (k:Nat),(∀n,n<l.length->ops[k+n]? =l[n]?)->k+l.length<=ops.size->
  EJ m l k=(List.range' k l.length).filter fun i=> !lx.getD i true&&((ops[i]?).map (·.after.all fun e=> !Region.binds .any e||lx.getD e.on false)).getD false
 |[],_,_,_=>rfl
 |o::r,k,h,hk=>by
  rw[List.length_cons]at hk
  have ih:=H7 hR hs r (k+1) (fun n hn=>by
   have:=h (n+1) (by simpa using hn)
   rw[show k+1+n=k+(n+1) by omega,this,List.getElem?_cons_succ]) (by omega)
  have h0:ops[k]? =some o:=by have:=h 0 (by simp);simpa using this
  rw[List.length_cons,List.range'_succ,List.filter_cons,<-ih];have e:(!lx.getD k true&&((ops[k]?).map (·.after.all fun e=> !Region.binds .any e||lx.getD e.on false)).getD false)=(!tb m k&&o.after.toList.all fun e=> !Region.binds .any e||tb m e.on):=by
   rw[h0,hR k,nB (by omega) true false,Option.map_some,Option.getD_some,Array.all_toList];simp only[hR _]
  rw[e,EJ]
  cases (!tb m k&&o.after.toList.all fun e=> !Region.binds .any e||tb m e.on)<;>rfl
theorem GM{ops:Array Oper}(hR:Rm lx m)(hs:lx.size=ops.size):EJ m ops.toList 0=Region.ready .any ops lx:=by
 rw[H7 hR hs ops.toList 0 (fun n _=>by rw[aR,bA]) (by simp)];unfold Region.ready;rw[List.range_eq_range',Array.length_toList]
theorem Rm.set(hR:Rm lx m)(i:Nat):Rm (lx.setIfInBounds i true) (sm lx.size m i):=fun j=>by
 unfold sm;rw[ah,Array.getElem?_setIfInBounds]
 cases h:Nat.blt i lx.size with
 |true=>
  have h:=Nat.le_of_ble_eq_true h;show tb (m ||| (1 <<< i)) j=_;rw[EH,GK];by_cases Pa:i=j
  ·rw[if_pos Pa,if_pos (by omega),Pa,Nat.beq_refl,Bool.or_true];rfl
  ·rw[aJ Pa,nC.2 (Ne.symm Pa),Bool.or_false,hR,ah]
 |false=>
  show tb m j=_;have h:¬i<lx.size:=fun h2=>by rw[show Nat.blt i lx.size=true from Nat.ble_eq_true_of_le h2]at h;cases h
  by_cases Pa:i=j
  ·rw[if_pos Pa,aJ h,hR,ah,<-Pa,Array.getElem?_eq_none (by omega)]
  ·rw[aJ Pa,hR,ah]
theorem Jj:∀(r:List Nat) (lx:Array Bool),(EF lx r).size=lx.size
 |[],_=>rfl
 |i::r,lx=>by unfold EF;rw[Jj r,bO]
theorem Rm.EF{n:Nat}:∀(r:List Nat) (lx:Array Bool) (m:Nat),lx.size=n->Rm lx m->Rm (EF lx r) (lsm n m r)
 |[],_,_,_,h=>h
 |i::r,lx,m,hn,h=>by
  unfold Go.Sx.EF lsm;exact Rm.EF r _ _ (by rw[bO];exact hn) (hn▸h.set i)
theorem Cm{ops:Array Oper}:∀(π:List It) (lx:Array Bool) (m:Nat) (Pd:List Nat),lx.size=ops.size->Rm lx m->GL ops ops.size π m Pd=pM ops π lx Pd
 |[],lx,m,Pd,hs,h=>by unfold GL pM;rw[GM h hs]
 | .p i::r,lx,m,Pd,hs,h=>by
  unfold GL pM
  cases ho:ops[i]? with
  |none=>rfl
  |some o=>
   have hi:=(ai.1 ho).1;simp only[Cm r lx m (i::Pd) hs h,h i,nB (show i<lx.size by omega) true false,show Nat.blt i ops.size=true from Nat.ble_eq_true_of_le hi,Bool.true_and]
 | .x i::r,lx,m,Pd,hs,h=>by
  unfold GL pM
  cases ho:ops[i]? with
  |none=>rfl
  |some o=>
   obtain rfl:=h.eq (yB lx);have h1:=Cm r (lx.setIfInBounds i true) (sm ops.size (iR lx.toList 0) i) (Pd.filter fun j=> !Nat.beq j i) (by rw[bO];exact hs) (hs▸h.set i);have h2:=GM (Rm.EF (n:=ops.size) (Pd.filter fun j=> !Nat.beq j i) lx (iR lx.toList 0) hs h) (by rw[Jj];exact hs);simp only[h1,h2,GM h hs]
theorem eK{ops:Array Oper}:j∈Region.ready .any ops la↔
  la[j]? =some false∧∃o,ops[j]? =some o∧∀e∈o.after,Region.binds .any e=true->la[e.on]? =some true:=by
 rw[mem_ready];have h1:la.getD j true=false↔la[j]? =some false:=by
  rw[ah]
  cases la[j]? with
  |none=>simp
  |some b=>simp
 have h2:∀k,la.getD k false=true↔la[k]? =some true:=fun k=>by
  rw[ah]
  cases la[k]? with
  |none=>simp
  |some b=>simp
 simp only[h1,h2]
theorem pN{i:Nat}:(la.setIfInBounds i true)[j]? =some true↔la[j]? =some true∨(j=i∧j<la.size):=by
 rw[Array.getElem?_setIfInBounds];split
 ·rename_i h;subst h;by_cases hs:i<la.size
  ·simp[hs]
  ·simp[hs]
 ·rename_i h;simp[Ne.symm h]
theorem EK:∀(Pd:List Nat) (la:Array Bool),(EF la Pd).size=la.size
 |[],_=>rfl
 |i::r,la=>by simp[EF,EK r]
theorem y9:∀(Pd:List Nat) (la:Array Bool) (j:Nat),(EF la Pd)[j]? =some true↔la[j]? =some true∨(j∈Pd∧j<la.size)
 |[],_,_=>by simp[EF]
 |i::r,la,j=>by
  rw[EF,y9 r,pN];simp only[bO,List.mem_cons]
  constructor
  ·rintro((h|⟨h,hs⟩)|⟨h,hs⟩)
   ·exact .inl h
   ·exact .inr ⟨.inl h,hs⟩
   ·exact .inr ⟨.inr h,hs⟩
  ·rintro(h|⟨h|h,hs⟩)
   ·exact .inl (.inl h)
   ·exact .inl (.inr ⟨h,hs⟩)
   ·exact .inr ⟨h,hs⟩
def MS(la:Array Bool):Nat:=la.toList.countP (fun b=> !b)
theorem jQ{i:Nat}(h:la[i]? =some false):MS (la.setIfInBounds i true)+1=MS la:=by
 obtain⟨hi,he⟩:=ai.1 h;have S8:i<la.toList.length:=by simpa using hi
 have Ol:0<la.toList.countP (fun b=> !b):=List.countP_pos_iff.2 ⟨false,by
  have:la[i]∈la:=Array.getElem_mem hi;rw[he]at this
  simpa using this,rfl⟩
 unfold MS;rw[Array.toList_setIfInBounds,List.countP_set S8];simp only[Array.getElem_toList,he]
 simp only[Bool.not_false,if_true,Bool.not_true,Bool.false_eq_true,if_false,bw]
 exact Nat.sub_add_cancel Ol
theorem sD:∀{l:Env} {u:Nat} {k:Env->Prop},ED l u k->∃l',k l'∧fX l' u=none∧∀t v,fX l' t=some v->t≠u∧fX l t=some v
 |[],u,k,h=>⟨[],h,rfl,fun t v h=>by cases h⟩
 |(t0,v0)::r,u,k,h=>by
  unfold ED at h;split at h
  ·rename_i hb;have hb:=eM hb;obtain⟨l',h1,h2,h3⟩:=sD h;refine⟨l',h1,h2,fun t v hv=>⟨(h3 t v hv).1,?_⟩⟩;rw[ee,aJ (fun e=>(h3 t v hv).1 (e.symm.trans hb))];exact(h3 t v hv).2
  ·rename_i hb;have OD:t0≠u:=fun e=>by subst e;rw[Nat.beq_refl]at hb;cases hb
   obtain⟨l',h1,h2,h3⟩:=sD h;refine⟨_,h1,?_,fun t v hv=>?_⟩
   ·rw[ee,aJ OD];exact h2
   ·rw[ee]at hv ⊢;split at hv
    ·rename_i e;subst e;exact⟨OD,by simpa using hv⟩
    ·rename_i e;rw[aJ e];exact h3 t v hv
theorem gE:∀{all:List Oper} {i:Nat} {k:Oper->Prop},nh all i k->∃o,all[i]? =some o∧k o
 |[],_,_,h=>h.elim
 |o::_,0,_,h=>⟨o,rfl,h⟩
 |_::r,n+1,_,h=>by obtain⟨o,h1,h2⟩:=gE (all:=r) h;exact⟨o,by simpa using h1,h2⟩
section
variable{P:Program}{τ:mz}{ops:Array Oper}{B n nx:Nat}{l:Env}{H:Hp}{iv:Iv}{w w':World}{O:Nat->dx}{a:Act}
structure MO(P:Program)(ops:Array Oper)(n B:Nat)(Pd:List Nat)(E:List (Nat×Nat))(lx la:Array Bool)(l:Env)(H:Hp)(nx:Nat)(iv:Iv)(w:World)(O:Nat->dx)(a:Act)(w':World):Prop where
 sat:Sat n l H nx iv B w O a w'
 MP:lx.size=ops.size
 MT:la.size=ops.size
 la:∀j,la[j]? =some true↔lx[j]? =some true∨∃g,(j,g)∈E
 IV:∀j g,(j,g)∈E->j∈Pd
 pd:∀j∈Pd,lx[j]? =some false∧∃o d mk obj,ops[j]? =some o∧Jh o.op=true∧o.guard=none∧(o.dst=some d∧d∉o.looksAt ops)∧AL P o a mk obj∧fX l d=none∧
  ∀g,(j,g)∈E->a.tmps[d]? =some (mk g)∧w'.heap[g]? =some obj
 eg:∀j g,(j,g)∈E->B<=g∧(∀id b,dF H id=some b->(O id).nil=false->(O id).g≠g)∧∀lo hi,(lo,hi)∈iv->¬(lo<=g∧g<hi)
 inj:∀j g j',(j,g)∈E->(j',g)∈E->j=j'
 ap:∀j∈Pd,∀j'∈Pd,j≠j'->∀o o',ops[j]? =some o->ops[j']? =some o'->o.apart ops o'=true
theorem Jk{l:Env}{u:Nat}(h:∀t v,fX l' t=some v->t≠u∧fX l t=some v){d:Nat}(hd:fX l d=none):fX l' d=none:=by
 cases hg:fX l' d with
 |none=>rfl
 |some v=>have:=(h d v hg).2;rw[hd]at this;cases this
theorem Oper.B9{o oj:Oper}(ha:o.apart ops oj=true)(hs:∀cs b,oj.op≠ .select cs b)(h:AL P oj a mk obj):AL P oj (a.put o.dst u) mk obj:=by
 intro w;rw[execOp_put (ops:=ops) oj hs a o.dst u (Go.Oper.apart_spec ha).1];exact h w
theorem qf(OD:d≠some t)(h:a.tmps[t]? =some v):(a.put d u).tmps[t]? =some v:=by
 cases d with
 |none=>exact h
 |some d=>
  have:d≠t:=fun e=>OD (by rw[e]);simpa [Act.put,Array.getElem?_setIfInBounds_ne this]using h
theorem kC{w:World}(h:w.heap[g]? =some obj):g<w.heap.size:=(ai.1 h).1
theorem Ext.alloc(w:World)(obj:Obj):Ext w (w.alloc obj):=
 ⟨rfl,rfl,rfl,by simp,fun k hk=>heap_alloc_old _ _ hk⟩
variable{Pd:List Nat}{E:List (Nat×Nat)}{lx la:Array Bool}
theorem MO.step(s:MO P ops n B Pd E lx la l H nx iv w O a w')(OS:∀(j:Nat) (o:Oper) cs b,ops[j]? =some o->o.op≠ .select cs b){i:Nat}{o:Oper}(_hi:ops[i]? =some o)(Uq:∀g,(i,g)∉E)
  (Qr:∀j∈Pd,j≠i->∀oj,ops[j]? =some oj->o.apart ops oj=true)
  (sat':Sat n l' H' OI iv' B w2 ρ' (a.put o.dst u) w3)
  (hl:∀j∈Pd,j≠i->∀d,fX l d=none->o.dst≠some d->fX l' d=none) (Rz:∀j∈Pd,j≠i->Ext w' w3)
  (heg:∀g,g<w'.heap.size->(∀id b,dF H id=some b->(O id).nil=false->(O id).g≠g)->(∀lo hi,(lo,hi)∈iv->¬(lo<=g∧g<hi))->(∃j∈Pd,j≠i)->
   (∀id b,dF H' id=some b->(ρ' id).nil=false->(ρ' id).g≠g)∧(∀lo hi,(lo,hi)∈iv'->¬(lo<=g∧g<hi))):
  MO P ops n B (Pd.filter fun j=> !Nat.beq j i) E (lx.setIfInBounds i true) (la.setIfInBounds i true) l' H' OI iv' w2 ρ' (a.put o.dst u) w3:=by
 have memf:∀j,j∈(Pd.filter fun j=> !Nat.beq j i)↔j∈Pd∧j≠i:=fun j=>by
  simp only[List.mem_filter,Bool.not_eq_true',nC]
 have hEi:∀j g,(j,g)∈E->j≠i:=fun j g h e=>Uq g (e▸h);refine⟨sat',by simp[s.MP],by simp[s.MT],fun j=>?_,fun j g h=>(memf j).2 ⟨s.IV j g h,hEi j g h⟩,fun j hj=>?_,fun j g h=>?_,s.inj,fun j hj j' hj'=>s.ap j ((memf j).1 hj).1 j' ((memf j').1 hj').1⟩
 ·rw[pN,pN,s.la,s.MT,s.MP];constructor
  ·rintro((h|h)|h)
   ·exact .inl (.inl h)
   ·exact .inr h
   ·exact .inl (.inr h)
  ·rintro((h|h)|h)
   ·exact .inl (.inl h)
   ·exact .inr h
   ·exact .inl (.inr h)
 ·obtain⟨hj,Ox⟩:=(memf j).1 hj;obtain⟨h0,oj,d,mk,obj,h1,h2,h3,⟨h4,Qs⟩,h5,h6,h7⟩:=s.pd j hj;have hapj:=Qr j hj Ox oj h1;have OD:o.dst≠some d:=fun e=>(Go.Oper.apart_spec hapj).2.1 d e h4;refine⟨?_,oj,d,mk,obj,h1,h2,h3,⟨h4,Qs⟩,Oper.B9 hapj (fun cs b=>OS j oj cs b h1) h5,hl j hj Ox d h6 OD,fun g hg=>⟨qf OD (h7 g hg).1,?_⟩⟩
  ·rw[Array.getElem?_setIfInBounds_ne (Ne.symm Ox)];exact h0
  ·rw[(Rz j hj Ox).block g (kC (h7 g hg).2)];exact(h7 g hg).2
 ·have hj:=s.IV j g h;obtain⟨h0,oj,d,mk,obj,h1,h2,h3,⟨h4,Qs⟩,h5,h6,h7⟩:=s.pd j hj;obtain⟨e1,e2,e3⟩:=s.eg j g h;exact⟨e1,heg g (kC (h7 g h).2) e2 e3 ⟨j,hj,hEi j g h⟩⟩
theorem MO.early(s:MO P ops n B Pd E lx la l H nx iv w O a w')(OF:∀(j:Nat) o,ops[j]? =some o->∀d,o.dst=some d->d<n)
  (OS:∀(j:Nat) (o:Oper) cs b,ops[j]? =some o->o.op≠ .select cs b) (hj:j∈Pd) (Ti:la[j]? =some false) {K:Act->World->Prop}
  (h:∀E' a2 w2,Ext w' w2->MO P ops n B Pd E' lx (la.setIfInBounds j true) l H nx iv w O a2 w2->K a2 w2):wpOp P ops Q j K a w':=by
 obtain⟨h0,o,d,mk,obj,h1,h2,h3,⟨h4,Qs⟩,h5,h6,h7⟩:=s.pd j hj;have hw:Region.wanted o (yielded ops a.tmps)=true:=by simp[Region.wanted,h3]
 unfold wpOp;simp only[h1,hw,if_true]
 refine .inl ?_;unfold Oper.wp;rw[h5 w'];simp only[Oper.upon]
 have hd:=OF j o h1 d h4;have hnE:∀g,(j,g)∉E:=fun g hg=>by
  have:=(s.la j).2 (.inr ⟨g,hg⟩);rw[Ti]at this;cases this
 refine h ((j,w'.heap.size)::E) _ _ (Ext.alloc _ _) ⟨?_,s.MP,by simp[s.MT],fun k=>?_,fun k g hk=>?_,fun k hk=>?_,fun k g hk=>?_,fun k g k' hk hk'=>?_,s.ap⟩
 ·refine⟨s.sat.rel.ext (Ext.alloc _ _),?_,?_,fun t v hv=>?_,s.sat.sc⟩
  ·rw[h4];simp[Act.put,s.sat.size]
  ·rw[h4];exact s.sat.defers
  ·refine qf (fun e=>?_) (s.sat.env t v hv);rw[h4]at e;injection e with e;subst e;rw[h6]at hv;cases hv
 ·rw[pN,s.la];have OU:j<la.size:=(ai.1 Ti).1;constructor
  ·rintro((h|⟨g,h⟩)|⟨rfl,_⟩)
   ·exact .inl h
   ·exact .inr ⟨g,by simp[h]⟩
   ·exact .inr ⟨_,aG ..⟩
  ·rintro(h|⟨g,h⟩)
   ·exact .inl (.inl h)
   ·rcases List.mem_cons.1 h with h|h
    ·injection h with e1 e2;exact .inr ⟨e1,by rw[e1];exact OU⟩
    ·exact .inl (.inr ⟨g,h⟩)
 ·rcases List.mem_cons.1 hk with hk|hk
  ·injection hk with e1 e2;rw[e1];exact hj
  ·exact s.IV k g hk
 ·obtain⟨g0,ok,dk,mkk,objk,g1,g2,g3,⟨g4,gself⟩,g5,g6,g7⟩:=s.pd k hk;by_cases hkj:k=j
  ·subst hkj;rw[h1]at g1;injection g1 with g1;subst g1;rw[h4]at g4;injection g4 with g4;subst g4;refine⟨g0,o,d,mk,obj,h1,h2,h3,⟨h4,Qs⟩,?_,h6,fun g hg=>?_⟩
   ·intro ww;rw[execOp_put (ops:=ops) o (fun cs b=>OS k o cs b h1) a o.dst _ (fun d' Va=>by rw[h4]at Va;injection Va with Va;subst Va;exact Qs)];exact h5 ww
   ·rcases List.mem_cons.1 hg with hg|hg
    ·injection hg with e1 e2;subst e2;refine⟨?_,heap_alloc_new _ _⟩;rw[h4];simp[Act.put,s.sat.size,hd]
    ·exact absurd hg (hnE g)
  ·have Qr:=s.ap j hj k hk (Ne.symm hkj) o ok h1 g1;have OD:o.dst≠some dk:=fun e=>(Go.Oper.apart_spec Qr).2.1 dk e g4;refine⟨g0,ok,dk,mkk,objk,g1,g2,g3,⟨g4,gself⟩,Oper.B9 Qr (fun cs b=>OS k ok cs b g1) g5,g6,fun g hg=>?_⟩;rcases List.mem_cons.1 hg with hg|hg
   ·injection hg with e1 e2;exact absurd e1 hkj
   ·refine⟨qf OD (g7 g hg).1,?_⟩;rw[heap_alloc_old _ _ (kC (g7 g hg).2)];exact(g7 g hg).2
 ·rcases List.mem_cons.1 hk with hk|hk
  ·injection hk with e1 e2;subst e2;refine⟨aX s.sat.rel.base s.sat.rel.size,fun id b hb hn he=>?_,fun lo hi hm hc=>?_⟩
   ·have:=(s.sat.rel.low id b hb hn).2;omega
   ·have:=s.sat.rel.rM lo hi hm;have:=s.sat.rel.size;omega
  ·exact s.eg k g hk
 ·have old:∀k' g',(k',g')∈E->g'<w'.heap.size:=fun k' g' h=>by
   obtain⟨_,_,_,_,_,_,_,_,_,_,_,h7⟩:=s.pd k' (s.IV k' g' h);exact kC (h7 g' h).2
  rcases List.mem_cons.1 hk with hk|hk<;>rcases List.mem_cons.1 hk' with hk'|hk'
  ·injection hk with e1 e2;injection hk' with e3 e4;rw[e1,e3]
  ·injection hk with e1 e2;have:=old _ _ hk';omega
  ·injection hk' with e1 e2;have:=old _ _ hk;omega
  ·exact s.inj k g k' hk hk'
theorem MO.aAT(s:MO P ops n B Pd E lx la l H nx iv w O a w'){i:Nat}{o:Oper}(hi:ops[i]? =some o)(hg:(i,g)∈E){b:jm}{v:SV}
  (hb:b.scopd nx) (hv:v.sc (nx+1)) (Tx:∀g,v.den (gl O nx ⟨g,0,false⟩)=mk g) (Pb:∀g w2,w2.heap[g]? =some obj->b.fits O ⟨g,0,false⟩ w2) (Ty:AL P o a mk obj)
  {K:Env->Prop} (hK:EL o.dst v l K) (_hok:∀d,o.dst=some d->d<n) (Qr:∀j∈Pd,j≠i->∀oj,ops[j]? =some oj->o.apart ops oj=true):
  ∃l',K l'∧MO P ops n B (Pd.filter fun j=> !Nat.beq j i) (E.filter fun e=> !Nat.beq e.1 i) (lx.setIfInBounds i true) la l' ((nx,b)::H) (nx+1) iv w (gl O nx ⟨g,0,false⟩) a w':=by
 obtain⟨h0,o',d,mk',obj',h1,h2,h3,⟨h4,Qs⟩,h5,h6,h7⟩:=s.pd i (s.IV i g hg);rw[hi]at h1;injection h1 with h1;subst h1;obtain⟨rfl,rfl⟩:=Ty.uniq h5;obtain⟨ht,hh⟩:=h7 g hg;obtain⟨e1,e2,e3⟩:=s.eg i g hg;have memf:∀j,j∈(Pd.filter fun j=> !Nat.beq j i)↔j∈Pd∧j≠i:=fun j=>by
  simp only[List.mem_filter,Bool.not_eq_true',nC]
 have memE:∀j k,(j,k)∈(E.filter fun e=> !Nat.beq e.1 i)↔(j,k)∈E∧j≠i:=fun j k=>by
  simp only[List.mem_filter,Bool.not_eq_true',nC]
 have Pk:∀id b,dF H id=some b->gl O nx ⟨g,0,false⟩ id=O id:=fun id b h=>(gb id (s.sat.rel.keys id b h)).symm;have r:=s.sat.rel;have Og:Rel ((nx,b)::H) (nx+1) iv B w (gl O nx ⟨g,0,false⟩) w':=by
  refine Rel.mk' r.os r.tape r.output r.size r.base r.rM ?_ ?_ ?_ ?_ ?_ ?_ ?_
  ·intro id b' h;rw[dJ]at h;split at h
   ·omega
   ·have:=r.keys id b' h;omega
  ·intro id b' h;rw[dJ]at h;split at h
   ·rename_i e;subst e;injection h with h;subst h;rw[fJ];exact jm.iP (Pb g w' hh) (fun id Om=>gb id Om) hb (fun _ _=>rfl)
   ·rw[Pk id b' h];exact jm.iP (r.fits h) (fun id Om=>gb id Om) (r.scopd h) (fun _ _=>rfl)
  ·intro id b' h;rw[dJ]at h;split at h
   ·injection h with h;subst h;exact jm.jZ (Nat.le_succ _) hb
   ·exact jm.jZ (Nat.le_succ _) (r.scopd h)
  ·intro id id' c c' h h' hd Va hn hn' he;rw[dJ]at h h';split at h<;>split at h'
   ·rename_i x y;rw[<-x,<-y]
   ·rename_i x y;subst x;rw[fJ,Pk _ _ h']at he;rw[Pk _ _ h']at hn';exact absurd he.symm (e2 _ _ h' hn')
   ·rename_i x y;subst y;rw[fJ,Pk _ _ h]at he;rw[Pk _ _ h]at hn;exact absurd he (e2 _ _ h hn)
   ·rw[Pk _ _ h,Pk _ _ h']at he;rw[Pk _ _ h]at hn;rw[Pk _ _ h']at hn';exact r.inj id id' c c' h h' hd Va hn hn' he
  ·intro id c h hn;rw[dJ]at h;split at h
   ·rename_i e;subst e;rw[fJ];exact⟨e1,kC hh⟩
   ·rw[Pk _ _ h]at hn ⊢;exact r.low id c h hn
  ·intro k hk OD;refine r.ug k hk fun id c h hn=>?_;have OU:=r.keys id c h;have:=OD id c (by rw[dJ,aJ (by omega)];exact h) (by rw[Pk _ _ h];exact hn)
   rwa [Pk _ _ h]at this
  ·intro lo hi hm id c h hn;rw[dJ]at h;split at h
   ·rename_i e;subst e;rw[fJ];exact e3 lo hi hm
   ·rw[Pk _ _ h]at hn ⊢;exact r.kk lo hi hm id c h hn
 have sat1:Sat n l ((nx,b)::H) (nx+1) iv B w (gl O nx ⟨g,0,false⟩) a w':=s.sat.next Og (Nat.le_succ _) (fun id Om=>gb id Om)
 rw[h4]at hK;refine⟨_,hK,?_⟩;have sat2:Sat n ((d,v)::l) ((nx,b)::H) (nx+1) iv B w (gl O nx ⟨g,0,false⟩) a w':=by
  refine⟨sat1.rel,sat1.size,sat1.defers,fun t u hu=>?_,fun t u hu=>?_⟩
  ·rw[ee]at hu;split at hu
   ·rename_i e;subst e;injection hu with hu;subst hu;rw[Tx];exact ht
   ·exact sat1.env t u hu
  ·rw[ee]at hu;split at hu
   ·injection hu with hu;subst hu;exact hv
   ·exact sat1.sc t u hu
 have hli:i<lx.size:=(ai.1 h0).1;refine⟨sat2,by simp[s.MP],s.MT,fun j=>?_,fun j k h=>?_,fun j hj=>?_,fun j k h=>?_,fun j k j' h h'=>s.inj j k j' ((memE j k).1 h).1 ((memE j' k).1 h').1,fun j hj j' hj'=>s.ap j ((memf j).1 hj).1 j' ((memf j').1 hj').1⟩
 ·rw[s.la,pN];constructor
  ·rintro(h|⟨k,h⟩)
   ·exact .inl (.inl h)
   ·by_cases Ox:j=i
    ·exact .inl (.inr ⟨Ox,Ox▸hli⟩)
    ·exact .inr ⟨k,(memE j k).2 ⟨h,Ox⟩⟩
  ·rintro((h|⟨rfl,h⟩)|⟨k,h⟩)
   ·exact .inl h
   ·exact .inr ⟨g,hg⟩
   ·exact .inr ⟨k,((memE j k).1 h).1⟩
 ·exact(memf j).2 ⟨s.IV j k ((memE j k).1 h).1,((memE j k).1 h).2⟩
 ·obtain⟨hj,Ox⟩:=(memf j).1 hj;obtain⟨g0,oj,dj,mkj,objj,g1,g2,g3,⟨g4,gself⟩,g5,g6,g7⟩:=s.pd j hj;have OD:d≠dj:=fun e=>(Go.Oper.apart_spec (Qr j hj Ox oj g1)).2.1 d h4 (by rw[g4,e]);refine⟨by rw[Array.getElem?_setIfInBounds_ne (Ne.symm Ox)];exact g0,oj,dj,mkj,objj,g1,g2,g3,⟨g4,gself⟩,g5,?_,fun k hk=>g7 k ((memE j k).1 hk).1⟩;rw[ee,aJ OD];exact g6
 ·obtain⟨h,Ox⟩:=(memE j k).1 h;obtain⟨k1,k2,k3⟩:=s.eg j k h;refine⟨k1,fun id c hc hn=>?_,k3⟩;rw[dJ]at hc;split at hc
  ·rename_i e;subst e;rw[fJ];intro e;simp only at e;subst e;exact Ox (s.inj j _ i h hg)
  ·rw[Pk _ _ hc]at hn ⊢;exact k2 id c hc hn
end
end Go.Sx
