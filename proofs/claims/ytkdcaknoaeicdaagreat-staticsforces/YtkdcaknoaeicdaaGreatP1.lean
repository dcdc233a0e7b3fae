/- Texts Sx7 to Sx11: lemmas, each with its conditions. -/
import Derived.OrdersHeld
import Derived.Test.YtkdcaknoaeicdaaGreatP0
namespace Go.Sx
open Go
variable{args:(Nat->dg)->Array Value}{la lx:Array Bool}{op:BinOp}{dr pu:Bool}{R:Ending->World->Prop}{l':Env}{Q:Exit->Act->World->Prop}{H':Hp}{k:IntKind}{iv':Iv}{Pd:List Nat}{OL g j m t:Nat}{mk:Nat->Value}{ρ':Nat->dg}{obj:Obj}{d:Option Tmp}{K:SV->Hp->Nat->Iv->World->Prop}{u v:Value}{w w2 w3:World}
section
variable{P:Program}{τ:nH}{B n nx:Nat}{l:Env}{H:Hp}{iv:Iv}{w w':World}{O:Nat->dg}{a:Act}
theorem pX{k':IntKind}(h:pR k k'=true):k=k':=by
 cases k<;>cases k'<;>first|rfl|(simp [pR]at h)
theorem xS(op:BinOp)(t:TypeId)(x y:Operand)(k k':IntKind)(i j:Int)(w:World):(eqGuard op t x y (.int k i) (.int k' j)).run P w= .ok () w:=by
 unfold eqGuard;cases op<;>simp
theorem nN(op:BinOp)(t:TypeId)(x y:Operand)(i j:Bool)(w:World):(eqGuard op t x y (.bool i) (.bool j)).run P w= .ok () w:=by
 unfold eqGuard;cases op<;>simp
theorem jY(op:BinOp)(t:TypeId)(x y:Operand)(i j:ByteArray)(w:World):(eqGuard op t x y (.string i) (.string j)).run P w= .ok () w:=by
 unfold eqGuard;cases op<;>simp
theorem I6{i j:Int}{t:TypeId}{K:Value->Prop}(h:I0 op k i j K)(k':IntKind)(hk:(op= .shl∨op= .shr)∨k=k'):
  ∃r,K r∧∀w:World,(binOp op t (.int k i) (.int k' j)).run P w= .ok r w:=by
 have VL:op≠ .shl->op≠ .shr->k=k':=fun h1 h2=>by rcases hk with(h3|h3)|h3<;>simp_all
 cases op<;>simp only[I0]at h
 case shl=>obtain⟨h0,r,h1,h2⟩:=h;refine⟨_,h2,fun w=>?_⟩;subst h1;simp[binOp,Op.shift,show ¬j<0 by omega]
 case shr=>obtain⟨h0,r,h1,h2⟩:=h;refine⟨_,h2,fun w=>?_⟩;subst h1;simp[binOp,Op.shift,show ¬j<0 by omega]
 all_goals (obtain rfl:=VL (by simp) (by simp))
 case quo=>obtain⟨h0,r,h1,h2⟩:=h;refine⟨_,h2,fun w=>?_⟩;subst h1;simp[binOp,Op.intDiv,h0]
 case rem=>obtain⟨h0,r,h1,h2⟩:=h;refine⟨_,h2,fun w=>?_⟩;subst h1;simp[binOp,Op.intDiv,h0]
 case eql=>exact⟨_,h,fun w=>by simp[binOp,Op.intCmp]⟩
 case neq=>exact⟨_,h,fun w=>by simp[binOp,Op.intCmp]⟩
 case lss=>exact⟨_,h,fun w=>by simp[binOp,Op.intCmp]⟩
 case leq=>exact⟨_,h,fun w=>by simp[binOp,Op.intCmp]⟩
 case gtr=>exact⟨_,h,fun w=>by simp[binOp,Op.intCmp]⟩
 case geq=>exact⟨_,h,fun w=>by simp[binOp,Op.intCmp]⟩
 case add=>obtain⟨r,h1,h2⟩:=h;refine⟨_,h2,fun w=>?_⟩;subst h1;simp[binOp,Op.intArith]
 case sub=>obtain⟨r,h1,h2⟩:=h;refine⟨_,h2,fun w=>?_⟩;subst h1;simp[binOp,Op.intArith]
 case mul=>obtain⟨r,h1,h2⟩:=h;refine⟨_,h2,fun w=>?_⟩;subst h1;simp[binOp,Op.intArith]
 case and=>obtain⟨r,h1,h2⟩:=h;refine⟨_,h2,fun w=>?_⟩;subst h1;simp[binOp,Op.intBits]
 case or=>obtain⟨r,h1,h2⟩:=h;refine⟨_,h2,fun w=>?_⟩;subst h1;simp[binOp,Op.intBits]
 case andNot=>obtain⟨r,h1,h2⟩:=h;refine⟨_,h2,fun w=>?_⟩;subst h1;simp[binOp,Op.intBits]
 case xor=>obtain⟨r,h1,h2⟩:=h;refine⟨_,h2,fun w=>?_⟩;subst h1;simp[binOp,Op.intBits]
theorem run_equalIn_bool{t:TypeId}(hu:P.underlying t=some .bool)(d:Nat)(i j:Bool)(w:World):(Op.equalIn (d+1) t (.bool i) (.bool j)).run P w= .ok (i==j) w:=by
 simp[Op.equalIn,run_underlying hu]
theorem wR{t:TypeId}(hu:P.underlying t=some .bool)(i j:Bool)(w:World):(Op.equal t (.bool i) (.bool j)).run P w= .ok (i==j) w:=run_equalIn_bool hu 9999 i j w
theorem yl{t:TypeId}(hu:P.underlying t=some .bool)(i j:Bool)(w:World):(binOp .eql t (.bool i) (.bool j)).run P w= .ok (.bool (i==j)) w:=by
 show(do pure (.bool (<-Op.equal t (.bool i) (.bool j))):Sem Value).run P w=_;rw[Sem.run_bind,wR hu];rfl
theorem xT{t:TypeId}(hu:P.underlying t=some .bool)(i j:Bool)(w:World):(binOp .neq t (.bool i) (.bool j)).run P w= .ok (.bool (!(i==j))) w:=by
 show(do pure (.bool (!(<-Op.equal t (.bool i) (.bool j)))):Sem Value).run P w=_;rw[Sem.run_bind,wR hu];rfl
theorem I7(hτ:fJ P τ){x y:SV}{K:SV->Prop}(h:NP P τ op t x y K)(o1 o2:Operand):
  ∃r,K r∧r.sc nx∧∀w':World,(do eqGuard op t o1 o2 (x.den O) (y.den O);binOp op t (x.den O) (y.den O)).run P w'= .ok (r.den O) w':=by
 unfold NP at h;split at h
 ·rename_i k i k' j;have fin:∀hk:(op= .shl∨op= .shr)∨k=k',I0 op k i j (fun r=>K (.o (.v r)))->∃r,K r∧r.sc nx∧∀w':World,(do eqGuard op t o1 o2 (SV.den O (.o (.v (.int k i)))) (SV.den O (.o (.v (.int k' j))));binOp op t (SV.den O (.o (.v (.int k i)))) (SV.den O (.o (.v (.int k' j))))).run P w'= .ok (r.den O) w':=by
   intro hk h;obtain⟨r,h1,h2⟩:=I6 (P:=P) (t:=t) h k' hk;refine⟨_,h1,trivial,fun w'=>?_⟩;simp only[SV.den,At.den,Sem.run_bind,xS,Result.andThen_ok,h2]
  split at h
  ·exact fin (.inl (.inl rfl)) h
  ·exact fin (.inl (.inr rfl)) h
  ·split at h
   ·rename_i hk;exact fin (.inr (pX hk)) h
   ·exact h.elim
 ·rename_i i j;split at h
  ·rename_i ti QP;split at h
   ·rename_i Oa;have hu:=(hτ t _ QP).i2 (eI Oa);split at h
    ·refine⟨_,h,trivial,fun w'=>?_⟩;simp only[SV.den,At.den,Sem.run_bind,nN,Result.andThen_ok,yl hu]
    ·refine⟨_,h,trivial,fun w'=>?_⟩;simp only[SV.den,At.den,Sem.run_bind,nN,Result.andThen_ok,xT hu]
    ·exact h.elim
   ·exact h.elim
  ·exact h.elim
 ·rename_i i j;split at h
  ·refine⟨_,h,trivial,fun w'=>?_⟩;simp only[SV.den,At.den,Sem.run_bind,jY,Result.andThen_ok]
   simp[binOp,Op.stringOp,ByteArray.toList_eq]
  ·refine⟨_,h,trivial,fun w'=>?_⟩;simp only[SV.den,At.den,Sem.run_bind,jY,Result.andThen_ok]
   simp[binOp,Op.stringOp,ByteArray.toList_eq]
  ·refine⟨_,h.2,trivial,fun w'=>?_⟩;simp only[SV.den,At.den,Sem.run_bind,jY,Result.andThen_ok]
   have h1:=h.1;unfold maxLen at h1;simp[binOp,Op.stringOp];omega
  ·exact h.elim
 ·obtain⟨b,h1,h2⟩:=h;exact⟨_,h2,trivial,fun w'=>h1 O w' o1 o2⟩
abbrev Ms(n B:Nat)(l:Env)(a:Act)(dst:Option Tmp)(K:SV->Hp->Nat->Iv->World->Prop)(next:Act->World->Prop):Prop:=
 ∀v H' OL iv' w2 ρ' w3,K v H' OL iv' w2->Sat n l H' OL iv' B w2 ρ' a w3->v.sc OL->next (a.put dst (v.den ρ')) w3
theorem Sat.next(sat:Sat n l H nx iv B w O a w')(rel:Rel H' OL iv' B w2 ρ' w3)(Q3:nx<=OL)(hρ:∀id,id<nx->O id=ρ' id):
  Sat n l H' OL iv' B w2 ρ' a w3:=
 ⟨rel,sat.size,sat.defers,fun t v h=>by rw[sat.env t v h,SV.j4 hρ (sat.sc t v h)],fun t v h=>SV.tL Q3 (sat.sc t v h)⟩
theorem Cq(sat:Sat n l H nx iv B w O a w'){cs:List At}(hs:∀c∈cs,At.sc nx c):
  Rel ((nx,.box t cs)::H) (nx+1) iv B w (gO O nx ⟨w'.heap.size,0,false⟩) (w'.alloc (.cells (cs.map (At.den O)).toArray t)):=
 sat.rel.push (.box t cs) _ rfl rfl rfl (by simp) (fun k hk=>heap_alloc_old _ _ hk) (fun _=>⟨aF _,by simp⟩) ⟨rfl,heap_alloc_new _ _⟩ hs
theorem wS:∀{vs:List SV} {k:List Nat->Prop},ns vs k->(∀v∈vs,SV.sc nx v)->∃ids,k ids∧vs.map (SV.den O)=ids.map (fun id=>Value.pointer (some ⟨(O id).g,0,none⟩))∧∀id∈ids,id<nx
 |[],k,h,_=>⟨[],h,rfl,by simp⟩
 | .o (.p id 0)::r,k,h,hs=>by
  obtain⟨ids,h1,h2,h3⟩:=wS (vs:=r) h (fun v hv=>hs v (by simp[hv]));exact⟨id::ids,h1,by simp[h2,SV.den,At.den],by simp;exact⟨hs (.o (.p id 0)) (by simp),h3⟩⟩
 | .o (.p id (m+1))::r,k,h,_=>by simp[ns]at h
 | .o (.v x)::r,k,h,_=>by simp[ns]at h
 | .o (.s _ _ _ _)::r,k,h,_=>by simp[ns]at h
 | .o (.w _ _)::r,k,h,_=>by simp[ns]at h
 | .o (.fn _ _)::r,k,h,_=>by simp[ns]at h
 | .a _::r,k,h,_=>by simp[ns]at h
theorem ym(sat:Sat n l H nx iv B w O a w'){K:SV->Hp->Iv->World->Prop}{o:Oper}{next:Act->World->Prop}
  (h:EN P B g args H nx iv w K) (TL:(execOp a.eval o).run P w'=(callFunc g (args O)).run P w')
  (hn:∀v H' iv' w2,K v H' iv' w2->Sat n l H' nx iv' B w2 O a w2->v.sc nx->next (a.put o.dst (v.den O)) w2):o.wp P a w' next Q:=by
 have hc:=h.h O w' sat.rel;unfold Oper.wp;rw[TL,hc.e.h];refine Calls.mono hc.c fun e w2 he=>?_;obtain⟨v,H',iv',rfl,Ol,hK⟩:=he;exact hn _ _ _ _ hK (sat.next (ρ':=O) Ol (aF _) (fun _ _=>rfl)) trivial
theorem Rel.ext(r:Rel H nx iv B w O w')(e:Ext w' w2):Rel H nx iv B w O w2:=
 Rel.mk' (e.os.trans r.os) (e.tape.trans r.tape) (e.output.trans r.output) (aZ r.size e.size) r.base r.qd r.keys
  (fun id b h=>jr.gi (r.fits h) (fun _ _=>rfl) (r.scopd h) (fun hn _=>e.block _ (r.low id b h hn).2)) (fun id b h=>r.scopd h) r.inj
  (fun id b h hn=>by have:=r.low id b h hn;have:=e.size;omega) (fun k hk OH=>by rw[e.block k (by have:=r.size;omega)];exact r.uh k hk OH) r.kP
theorem Rel.here(r:Rel H nx iv B w O w'):Rel H nx iv B w' O w':=
 Rel.mk' rfl rfl rfl (aF _) (by have:=r.base;have:=r.size;omega) (fun lo hi hm=>by have:=r.qd lo hi hm;have:=r.size;omega) r.keys
  (fun id b h=>r.fits h) (fun id b h=>r.scopd h) r.inj r.low (fun _ _ _=>rfl) r.kP
theorem Rel.more{lo hi:Nat}(r:Rel H nx iv B w O w')(h1:hi<=w.heap.size)(h2:∀id b,dC H id=some b->(O id).nil=false->¬(lo<=(O id).g∧(O id).g<hi)):Rel H nx ((lo,hi)::iv) B w O w':=
 Rel.mk' r.os r.tape r.output r.size r.base
  (fun lo' Se hm=>by
   rcases List.mem_cons.1 hm with hm|hm
   ·injection hm with e1 e2;omega
   ·exact r.qd lo' Se hm) r.keys (fun id b hb=>r.fits hb) (fun id b hb=>r.scopd hb) r.inj r.low r.uh
  (fun lo' Se hm id b hb PC=>by
   rcases List.mem_cons.1 hm with hm|hm
   ·injection hm with e1 e2;subst e1;subst e2;exact h2 id b hb PC
   ·exact r.kP lo' Se hm id b hb PC)
theorem cC{K:SV->Hp->Iv->World->Prop}(h:EJ P B g args H nx iv w K):EN P B g args H nx iv w K:=
 ⟨fun O w' r=>⟨(h.h O w' r).e,Calls.mono (h.h O w' r).c fun e w2 he=>by
  obtain⟨v,h1,h2,h3⟩:=he
  exact⟨v,H,_,h1,(r.ext h2).here.more (aF _) (fun id b hb hn=>by have:=(r.low id b hb hn).2;omega),h3⟩⟩⟩
def sw:Op->Bool
 | .move _| .assign _| .pick _ _ _| .build _ _| .load _ _| .nilCheck _| .binOp _ _ _ _ _| .unOp _ _ _| .convert _ _ _| .makeFunc _ _ _| .slice _ _ _ _ _| .fieldAddr _ _ _| .field _ _ _| .indexAddr _ _ _| .extract _ _=>true
 | .call ⟨.builtin .len,_,_⟩=>true
 | .call ⟨.builtin .max,_,_⟩=>true
 | .call ⟨.builtin .min,_,_⟩=>true
 |_=>false
def Jg:Op->Bool
 | .alloc _| .box _ _| .buildSlice _ _ _| .makeSlice _ _ _=>true
 |_=>false
def GL:Op->Bool
 | .load _ _=>false
 |o=>sw o
theorem j3(hτ:fJ P τ){o:Oper}(h:yU dr P τ B o l H nx iv w K)(sat:Sat n l H nx iv B w O a w')(hk:sw o.op=true):
  (∃v,K v H nx iv w∧v.sc nx∧∀w2,(GL o.op=true∨Rel H nx iv B w O w2)->(execOp a.eval o).run P w2= .ok (.value (v.den O)) w2)∨(dr=false∧yb P B o l H nx iv w K):=by
 obtain⟨dst,op,ty,pos,after,guard⟩:=o;have val:∀(r:SV),K r H nx iv w->r.sc nx->(∀w2,(GL op=true∨Rel H nx iv B w O w2)->(execOp a.eval ⟨dst,op,ty,pos,after,guard⟩).run P w2= .ok (.value (r.den O)) w2)->
   (∃v,K v H nx iv w∧v.sc nx∧∀w2,(GL op=true∨Rel H nx iv B w O w2)->(execOp a.eval ⟨dst,op,ty,pos,after,guard⟩).run P w2= .ok (.value (v.den O)) w2)∨(dr=false∧yb P B ⟨dst,op,ty,pos,after,guard⟩ l H nx iv w K):=
  fun r hK hs hr=>.inl ⟨r,hK,hs,hr⟩
 unfold yU at h;split at h<;>first|(exact False.elim h)|(rename_i TL;simp only at TL;subst TL)
 ·obtain⟨v,hK,hv,hs⟩:=dV sat h;exact val v hK hs (fun w2 rel=>by simp[execOp,hv])
 ·obtain⟨v,hK,hv,hs⟩:=dV sat h;exact val v hK hs (fun w2 rel=>by simp[execOp,hv])
 ·rename_i c x y;obtain⟨v,h1,hv,Q8⟩:=dV sat h;clear Q8;split at h1
  ·rename_i t
   cases t
   ·obtain⟨u,hK,hu,hs⟩:=dV sat (h1.f rfl);exact val u hK hs (fun w2 rel=>by simp[execOp,hv,SV.den,At.den,asBool,hu])
   ·obtain⟨u,hK,hu,hs⟩:=dV sat (h1.t rfl);exact val u hK hs (fun w2 rel=>by simp[execOp,hv,SV.den,At.den,asBool,hu])
  ·exact h1.elim
 ·cases hk
 ·cases hk
 ·rename_i t parts;split at h
  ·rename_i sz ag by_ ze tag ik e al fs QP;have ht:=hτ t _ QP;obtain⟨inf,z,hi,OX,PQ,hz,RQ⟩:=ht.info;simp only at OX PQ RQ;have hzz:z.cells=(((ze.map At.v)).map (At.den O)).toArray:=by rw[fV];apply Array.ext';simpa using RQ
   have hzs:∀c∈ze.map At.v,At.sc nx c:=fun c hc=>by simp at hc;obtain⟨v,_,rfl⟩:=hc;trivial
   split at h
   ·rename_i Oa;obtain⟨fds,hu,hf,QO⟩:=ht.i5 (eI Oa);simp only at hf;have VM:fds.toList.mapM (fun f=>(P.info? f.type).map fun i=>(f.offset,i.size))=some (fds.toList.map fun f=>(f.offset,((P.info? f.type).map (·.size)).getD 0)):=by
     clear hf hu;generalize fds.toList=fl at QO
     induction fl with
     |nil=>rfl
     |cons f r ih=>
      obtain⟨i0,RW⟩:=Option.isSome_iff_exists.1 (QO f (by simp));rw[List.mapM_cons,ih (fun g hg=>QO g (by simp[hg]))];simp[RW]
    have h0:=fY h
    obtain⟨cs',hK,Ov,hlen,Pj⟩:=kR sat (placeF:=fun i=>(fds.toList.map fun f=>(f.offset,((P.info? f.type).map (·.size)).getD 0))[i]?) (fun i k hk=>by
     obtain⟨off,ft,fi,h1,h2,h3,h4⟩:=mx hτ hk;refine⟨off,fi.size,h1,?_⟩;rw[<-hf]at h2;simp only[aM,Option.map_eq_some_iff]at h2 ⊢;obtain⟨fd,QJ,he⟩:=h2;injection he with e1 e2;refine⟨fd,QJ,?_⟩;obtain⟨inf',_,Se,TN,_⟩:=h3.info;rw[e1,e2,Se]
     simp[TN]) h0 hzs
    refine val _ hK Ov (fun w2 rel=>?_);have hb:P.built t (parts.map fun p=>(p.1,a.eval p.2)).toList=some (cs'.map (At.den O)).toArray:=by
     unfold Program.built;simp only[hi,hu,hz,VM]
     rw[hzz,<-Pj];simp
    have:=run_build w2 t _ _ hb;simp only[execOp]
    exact mO this
   ·split at h
    ·rename_i Oa;have hu:=ht.i6 (eI Oa);simp only at hu;split at h
     ·rename_i sz' ag' by' ze' tag' ik' e' al' fs' PM
      have PM:=hτ e _ PM;obtain⟨inf',_,Se,TN,_⟩:=PM.info;simp only at TN;have h0:=fY h;obtain⟨cs',hK,Ov,hlen,Pj⟩:=kR sat (placeF:=fun i=>some (i*inf'.size,inf'.size)) (fun i k hk=>⟨i*sz',sz',hk,by rw[TN]⟩) h0 hzs;refine val _ hK Ov (fun w2 rel=>?_);have hb:P.built t (parts.map fun p=>(p.1,a.eval p.2)).toList=some (cs'.map (At.den O)).toArray:=by
       unfold Program.built;simp only[hi,hu,hz,Se]
       rw[hzz,<-Pj];simp
      have:=run_build w2 t _ _ hb;simp only[execOp]
      exact mO this
     ·exact h.elim
    ·exact h.elim
  ·exact h.elim
 ·cases hk
 ·rename_i t x;obtain⟨v,h1,hv,hs⟩:=dV sat h;obtain⟨r,hK,hr,ON⟩:=oB hτ sat.rel hs h1;exact val r hK hr (fun w2 rel=>by simp only[execOp,hv];exact mO (ON w2 (rel.resolve_left (by simp[GL]))))
 ·cases hk
 ·rename_i x;obtain⟨v,h1,hv,hs⟩:=dV sat h;split at h1
  ·exact val _ h1 hs (fun w2 rel=>by simp[execOp,hv,SV.den,At.den])
  ·exact val _ h1 hs (fun w2 rel=>by simp[execOp,hv,SV.den,At.den])
  ·exact val _ h1 hs (fun w2 rel=>by simp[execOp,hv,SV.den,At.den])
  ·exact val _ h1 hs (fun w2 rel=>by simp[execOp,hv,SV.den,At.den])
  ·exact h1.elim
 ·rename_i op t x y u;obtain⟨v,h1,hv,_⟩:=dV sat h;obtain⟨v2,h2,RR,_⟩:=dV sat h1;obtain⟨r,hK,hr,ON⟩:=I7 (O:=O) hτ h2 x y;exact val r hK hr (fun w2 rel=>by simp only[execOp,hv,RR];exact mO (ON w2))
 ·rename_i op t x;obtain⟨v,h1,hv,_⟩:=dV sat h;split at h1
  ·exact val _ h1 trivial (fun w2 rel=>by simp[execOp,hv,SV.den,At.den,Op.unary])
  ·obtain⟨r,hr,hK⟩:=h1;exact val _ hK trivial (fun w2 rel=>by subst hr;simp[execOp,hv,SV.den,At.den,Op.unary,Op.intArith])
  ·obtain⟨r,hr,hK⟩:=h1;exact val _ hK trivial (fun w2 rel=>by subst hr;simp[execOp,hv,SV.den,At.den,Op.unary,Op.intBits])
  ·exact h1.elim
 ·rename_i s d x;split at h
  ·rename_i tis htis;obtain⟨ds,hds,_⟩:=(hτ s _ htis).agg;obtain⟨v,h1,hv,Q8⟩:=dV sat h;clear Q8;split at h1
   ·rename_i sz ag by_ ze tag ik e al fs QP;have ht:=hτ d _ QP;split at h1
    ·rename_i Oa;have hu:=ht.i1 (eI Oa);simp only at hu;split at h1
     ·obtain⟨r,hr,hK⟩:=h1;refine val _ hK trivial (fun w2 rel=>?_);subst hr;simp[execOp,convert,run_underlying hds,run_underlying hu,hv,SV.den,At.den,Conv.intToInt]
     ·exact h1.elim
    ·cases dr
     ·exact .inr ⟨rfl,h1⟩
     ·exact h1.elim
   ·exact h1.elim
  ·exact h.elim
 ·rename_i f first caps
  split at h
  ·obtain⟨vs,h1,Q8,Rx⟩:=qf sat h;obtain⟨ids,hK,hids,Od⟩:=wS (O:=O) h1 Rx;refine val _ hK (fun id Om=>Od id Om) (fun w2 rel=>?_);have e:caps.map a.eval=(ids.map fun id=>Value.pointer (some ⟨(O id).g,0,none⟩)).toArray:=by
    apply Array.ext';rw[<-hids,<-Q8];simp
   simp[execOp,Instr.makeFunc,e,SV.den,At.den]
  ·exact h.elim
 ·cases hk
 ·rename_i t x lo hi;obtain⟨v,h1,hv,hs⟩:=dV sat h;obtain⟨r,hK,hr,ON⟩:=EU hτ sat h1 hs;exact val r hK hr (fun w2 rel=>by simp only[execOp,hv];exact mO (by simpa using ON w2))
 ·rename_i t x f;split at h
  ·rename_i sz ag by_ ze tag ik e al fs QP;have ht:=hτ t _ QP;split at h
   ·rename_i Oa;obtain⟨off,ft,fi,h1,hf,UF,OX⟩:=mx hτ h;obtain⟨v,h2,hv,hs⟩:=dV sat h1;obtain⟨r,ad,hK,hr,hd,hrd⟩:=tN (O:=O) h2 hs;refine val r hK hr (fun w2 rel=>?_);simp only[execOp,hv,hd,hrd]
    exact mO (ER ht (eI Oa) hf UF OX ad w2)
   ·exact h.elim
  ·exact h.elim
 ·rename_i t x f;split at h
  ·rename_i sz ag by_ ze tag ik e al fs QP;have ht:=hτ t _ QP;split at h
   ·rename_i Oa;obtain⟨off,ft,fi,h1,hf,UF,OX⟩:=mx hτ h;obtain⟨v,h2,hv,hs⟩:=dV sat h1;obtain⟨fds,fd,hu,QJ,e1,e2⟩:=yi ht (eI Oa) hf;have fin:∀cs:List At,v.den O= .agg (cs.map (At.den O)).toArray->(∀c∈cs,At.sc nx c)->
      (match fi.agg with
       |true=>tB cs off (fun r=>tC r fi.size (fun c=>K (.a c) H nx iv w))
       |false=>match Co cs off with
        |some c=>K (.o c) H nx iv w
        |none=>False)->(∃v,K v H nx iv w∧v.sc nx∧∀w2,(GL (.field t x f)=true∨Rel H nx iv B w O w2)->(execOp a.eval ⟨dst,.field t x f,ty,pos,after,guard⟩).run P w2= .ok (.value (v.den O)) w2)∨(dr=false∧yb P B ⟨dst,.field t x f,ty,pos,after,guard⟩ l H nx iv w K):=by
     intro cs hd Ov hk;split at hk
     ·rename_i hag;obtain⟨h3,RT⟩:=nt hk;obtain⟨hK,PD⟩:=nu h3;refine val _ hK (fun c hc=>Ov c (List.mem_of_mem_drop (List.mem_of_mem_take hc))) (fun w2 rel=>?_);simp only[execOp,hv,hd]
      refine mO ?_;subst e1 e2;simp[Instr.field,run_underlying hu,QJ,asAgg,part,UF.isAgg,hag,UF.sizeOf,SV.den,List.map_drop,List.map_take,List.extract_eq_take_drop]
     ·rename_i hag;split at hk
      ·rename_i c hc;rw[uv]at hc;refine val _ hk (Ov c (aC hc)) (fun w2 rel=>?_);simp only[execOp,hv,hd]
       refine mO ?_;subst e1 e2;simp[Instr.field,run_underlying hu,QJ,asAgg,part,UF.isAgg,hag,hc,SV.den]
      ·exact hk.elim
    split at h2
    ·rename_i vs;exact fin (vs.map At.v) (by rw[fV];rfl) (fun c hc=>by simp at hc;obtain⟨v,_,rfl⟩:=hc;trivial) (fY h2)
    ·exact fin _ rfl hs h2
    ·exact h2.elim
   ·exact h.elim
  ·exact h.elim
 ·rename_i t x i;obtain⟨v,h1,hv,hs⟩:=dV sat h;obtain⟨u,h2,hu,_⟩:=dV sat h1;obtain⟨r,hK,hr,ON⟩:=ES hτ h2 hs sat.rel;exact val r hK hr (fun w2 rel=>by simp only[execOp,hv,hu];exact mO (ON w2))
 ·rename_i x i;obtain⟨v,h1,hv,hs⟩:=dV sat h;split at h1
  ·split at h1
   ·rename_i vs u hu;rw[Bb]at hu;exact val _ h1 trivial (fun w2 rel=>by simp[execOp,hv,Instr.extract,SV.den,At.den,hu])
   ·exact h1.elim
  ·exact h1.elim
 ·rename_i x t;obtain⟨v,h1,hv,_⟩:=dV sat h;obtain⟨r,hK,ON⟩:=I5 (ty:=ty) hτ h1 sat.rel;refine val _ hK trivial (fun w2 rel=>?_);show _=Result.ok (Next.value (Value.int .i64 r)) w2;generalize v.den O=xv at hv ON;have ON:=ON w2;simp[execOp,resolve,invoke,builtin,hv,ON]
 ·cases hk
 ·rename_i x y ts;obtain⟨v,h1,hv,_⟩:=dV sat h;obtain⟨v2,h2,RR,_⟩:=dV sat h1;split at h2
  ·split at h2
   ·rename_i k a1 k' b1 VN;have VL:=pX VN;subst VL;refine val _ h2 trivial (fun w2 rel=>?_);simp only[execOp,resolve,invoke,builtin]
    simp[hv,RR,SV.den,At.den,Builtin.max_,Builtin.max2];omega
   ·exact h2.elim
  ·exact h2.elim
 ·rename_i x y ts;obtain⟨v,h1,hv,_⟩:=dV sat h;obtain⟨v2,h2,RR,_⟩:=dV sat h1;split at h2
  ·split at h2
   ·rename_i k a1 k' b1 VN;have VL:=pX VN;subst VL;refine val _ h2 trivial (fun w2 rel=>?_);simp only[execOp,resolve,invoke,builtin]
    simp[hv,RR,SV.den,At.den,Builtin.min_,Builtin.min2];omega
   ·exact h2.elim
  ·exact h2.elim
 ·cases hk
 ·cases hk
 ·cases hk
 ·cases hk
 ·cases hk
 ·cases hk
 ·cases hk
 ·cases hk
theorem iP{o:Oper}(h:yb P B o l H nx iv w K)(sat:Sat n l H nx iv B w O a w'){next:Act->World->Prop}
  (hn:Ms n B l a o.dst K next):o.wp P a w' next Q:=by
 obtain⟨v,w2,iv',ON,Ol,hK⟩:=h.h O w' a.eval sat.rel (fun x v hx=>(tM sat hx).1);have:=hn _ _ _ _ _ _ _ hK (sat.next Ol (aF _) (fun _ _=>rfl)) trivial;unfold Oper.wp;rcases ON with ON|⟨ON,rfl⟩
 ·rw[ON];exact this
 ·rw[ON];exact this
theorem lL(hτ:fJ P τ){o:Oper}(h:yU dr P τ B o l H nx iv w K)(sat:Sat n l H nx iv B w O a w'){next:Act->World->Prop}
  (hn:Ms n B l a o.dst K next):o.wp P a w' next Q:=by
 by_cases hk:sw o.op=true
 ·rcases j3 hτ h sat hk with⟨v,hK,hs,hr⟩|⟨_,TL⟩
  ·exact k9 (hr w' (.inr sat.rel)) (hn _ _ _ _ _ _ _ hK sat hs)
  ·exact iP TL sat hn
 obtain⟨dst,op,ty,pos,after,guard⟩:=o;unfold yU at h;split at h<;>first|(exact False.elim h)|(rename_i TL;simp only at TL;subst TL)
 ·exact absurd rfl hk
 ·exact absurd rfl hk
 ·exact absurd rfl hk
 ·rename_i t;split at h
  ·rename_i sz ag by_ ze tag ik e al fs QP;obtain⟨z,OU,Ox⟩:=(hτ t _ QP).zeroV w';have hK:=fY h;simp only at Ox;have Ol:=Cq sat (t:=t) (cs:=ze.map At.v) (fun c hc=>by simp at hc;obtain⟨v,_,rfl⟩:=hc;trivial);rw[fV]at Ol;have hzz:z.cells=ze.toArray:=by apply Array.ext';simpa using Ox
   refine k9 (w2:=w'.alloc (.cells ze.toArray t)) (v:=.pointer (some ⟨w'.heap.size,0,none⟩)) ?_ ?_
   ·simp[execOp,Instr.alloc,OU,newVar,newRow,hzz]
   ·have:=hn _ _ _ _ _ _ _ hK (sat.next Ol (by omega) gC) (by simp[SV.sc,At.sc]);simpa [SV.den,At.den]using this
  ·exact h.elim
 ·rename_i t x;obtain⟨v,h1,hv,hs⟩:=dV sat h;obtain⟨cs,hK,PA,Rx⟩:=mM h1;have Ol:=Cq sat (t:=t) (Rx nx hs);refine k9 (w2:=w'.alloc (.cells (cs.map (At.den O)).toArray t)) (v:=.pointer (some ⟨w'.heap.size,0,none⟩)) ?_ ?_
  ·simp[execOp,Instr.box,hv,newVar,newRow,PA O]
  ·have:=hn _ _ _ _ _ _ _ hK (sat.next Ol (by omega) gC) (by simp[SV.sc,At.sc]);simpa [SV.den,At.den]using this
 ·exact absurd rfl hk
 ·rename_i t m parts;split at h
  ·rename_i sz ag by_ ze tag ik e al fs QP;have ht:=hτ t _ QP;split at h
   ·rename_i Oa;have hu:=ht.i4 (eI Oa);simp only at hu;split at h
    ·rename_i sz' ag' by' ze' tag' ik' e' al' fs' PM
     have PM:=hτ e _ PM;obtain⟨inf,z,hi,OX,PQ,hz,RQ⟩:=PM.info;have Ra:=PM.IV;simp only at OX PQ RQ Ra;split at h
     ·rename_i hle;have hle:=Nat.le_of_ble_eq_true hle;have h0:=fY h;obtain⟨cs',hK,Ov,hlen,Pj⟩:=kR sat (placeF:=fun i=>some (i*inf.size,inf.size)) (fun i k hk=>⟨i*sz',sz',hk,by rw[OX]⟩) h0
       (fun c hc=>by obtain⟨v,_,rfl⟩:=aU.1 hc;trivial)
      rw[fV]at Pj;have Qq:z.cells=ze'.toArray:=by apply Array.ext';simpa using RQ
      have UG:((List.replicate m ze').flatten).toArray=madeCells z.cells (m*inf.size):=by
       rw[Qq,OX,<-Ra];exact(qi ze' m).symm
      have Ol:=Cq sat (t:=e) Ov;refine k9 (w2:=w'.alloc (.cells (cs'.map (At.den O)).toArray e)) (v:=.slice (some ⟨w'.heap.size,0,none⟩) m m) ?_ ?_
      ·simp only[execOp]
       refine mO ?_;rw[UG]at Pj;by_cases Ot:m*inf.size=0
       ·have RX:Instr.fill (fun i=>some (i*inf.size,inf.size)) (madeCells z.cells 0) (parts.toList.map fun p=>(p.1,a.eval p.2))=some (cs'.map (At.den O)).toArray:=by rw[Ot]at Pj;exact Pj
        have e0:madeCells z.cells 0= #[]:=by simp[madeCells]
        rw[e0]at RX;have er:Array.range 0= #[]:=rfl;simp[Instr.buildSlice,run_underlying hu,sizeOf,typeInfo,zeroValue,hi,hz,Ot,newRow,RX,er]
       ·exact run_buildSlice w' t e m _ _ inf z hu hi hz (by rw[OX];omega) Ot (by rw[<-Pj];simp[madeCells])
      ·have:=hn _ _ _ _ _ _ _ hK (sat.next Ol (by omega) gC) (by simp[SV.sc,At.sc]);simpa [SV.den,At.den]using this
     ·exact h.elim
    ·exact h.elim
   ·exact h.elim
  ·exact h.elim
 ·exact absurd rfl hk
 ·rename_i t x y;obtain⟨v,h1,hv,hs⟩:=dV sat h;obtain⟨u,h2,hu,Q9⟩:=dV sat h1
  cases hg:Mr H v u with
  |true=>
   rw[hg]at h2
   cases dr with
   |true=>exact h2.elim
   |false=>
    have h2:OpG P B _ l H nx iv w K:=h2;obtain⟨w2,w3,H',iv',ON,Ol,hK⟩:=h2.h O w' a.eval sat.rel (fun x v hx=>(tM sat hx).1);refine Jt (w2:=w3) ON ?_;exact hn _ _ _ _ _ _ _ hK (sat.next Ol (aF _) (fun _ _=>rfl)) trivial
  |false=>
   rw[hg]at h2;obtain⟨H',w2,w3,hK,Ol,ON⟩:=wQ hτ sat hs Q9 h2;refine Jt (w2:=w3) (by simp[execOp,hv,hu,ON]) ?_;exact hn _ _ _ _ _ _ _ hK (sat.next Ol (aF _) (fun _ _=>rfl)) trivial
 ·exact absurd rfl hk
 ·exact absurd rfl hk
 ·exact absurd rfl hk
 ·exact absurd rfl hk
 ·exact absurd rfl hk
 ·rename_i t x y;obtain⟨v,h1,hv,_⟩:=dV sat h;obtain⟨u,h2,hu,_⟩:=dV sat h1;obtain⟨r,H',OL,ρ',w2,hK,Ol,hr,Q3,hρ,ON⟩:=GX hτ sat h2;refine k9 (w2:=w2) (by simp only[execOp,hv,hu];exact mO ON) ?_;exact hn _ _ _ _ _ _ _ hK (sat.next Ol Q3 hρ) hr
 ·exact absurd rfl hk
 ·exact absurd rfl hk
 ·exact absurd rfl hk
 ·exact absurd rfl hk
 ·exact absurd rfl hk
 ·exact absurd rfl hk
 ·rename_i x y t u;split at h
  ·rename_i htu;have htu:=eI htu;subst htu;obtain⟨v,h1,hv,_⟩:=dV sat h;obtain⟨v2,h2,RR,_⟩:=dV sat h1;split at h2
   ·unfold gaK at h2;split at h2
    ·exact h2.elim
    ·obtain⟨v,H',OL,iv',ρ',w2,w3,ON,Ol,hs,Q3,hρ,hK⟩:=h2.h O w' a.eval sat.rel (fun x v hx=>(tM sat hx).1);exact k9 ON (hn _ _ _ _ _ _ _ hK (sat.next Ol Q3 hρ) hs)
   rcases h2 with h2|h2
   ·obtain⟨r,H',OL,ρ',w2,hK,Ol,hr,Q3,hρ,ON⟩:=tK (ty:=ty) hτ sat h2;refine k9 (v:=r.den ρ') (w2:=w2) ?_ ?_
    ·simp[execOp,resolve,invoke,builtin,hv,RR,ON]
    ·exact hn _ _ _ _ _ _ _ hK (sat.next Ol Q3 hρ) hr
   ·exact iP h2 sat hn
  ·exact iP h sat hn
 ·exact absurd rfl hk
 ·exact absurd rfl hk
 ·exact iP h sat hn
 ·exact iP h sat hn
 ·exact iP h sat hn
 ·exact iP h sat hn
 ·exact iP h sat hn
 ·exact iP h sat hn
 ·exact iP h sat hn
 ·rename_i f args ats;obtain⟨v,h1,hv,_⟩:=dV sat h;obtain⟨vs,h2,Q8,Rx⟩:=qf sat h1;have Rt:(args.toArray).map a.eval=np O vs:=by
   apply Array.ext';simp[np,Q8]
  have Vw:∀(g:Nat) (args:(Nat->dg)->Array Value) (K:SV->Hp->Iv->World->Prop),Jq dr P B g args H nx iv w K->EN P B g args H nx iv w K:=fun g args K h=>by
   cases dr
   ·exact h
   ·exact cC h
  split at h2
  ·rename_i g first caps
   refine ym sat (Vw _ _ _ h2) ?_ (fun v H' iv' w2 hK hs hv=>hn _ _ _ _ _ _ _ hK hs hv);simp[execOp,resolve,hv,SV.den,At.den,Deferred.ofValue,invoke,Rt]
  ·rename_i g ids;refine ym sat (Vw _ _ _ h2) ?_ (fun v H' iv' w2 hK hs hv=>hn _ _ _ _ _ _ _ hK hs hv);simp[execOp,resolve,hv,SV.den,At.den,Deferred.ofValue,invoke,Rt]
  ·exact h2.elim
end
def Ex.to:Ex->Exit
 | .normal=>.normal
 | .exit id=>.exit id
 | .ret=>.ret
def NR(n:Nat)(o:Oper):Bool:=match o.dst with
 |some d=>Nat.blt d n
 |none=>true
def codeOk(n:Nat):Code->Bool
 | .region _ ops _=>ops.toList.all (NR n)
 | .seq a b=>codeOk n a&&codeOk n b
 | .cond _ a b=>codeOk n a&&codeOk n b
 | .block _ c=>codeOk n c
 | .loop c=>codeOk n c
 |_=>true
section
variable{P:Program}{τ:nH}{B n nx:Nat}{l:Env}{H:Hp}{iv:Iv}{w w':World}{O:Nat->dg}{a:Act}
theorem Sat.put(sat:Sat n l H nx iv B w O a w'){d:Nat}(hd:d<n){v:SV}(hv:v.sc nx):Sat n ((d,v)::l) H nx iv B w O (a.put (some d) (v.den O)) w':=by
 refine⟨sat.rel,by simp[Act.put,sat.size],sat.defers,fun t u h=>?_,fun t u h=>?_⟩
 ·rw[eS]at h;split at h
  ·rename_i e;subst e;injection h with h;subst h;simp[Act.put,sat.size,hd]
  ·rename_i e;have:=sat.env t u h;simpa [Act.put,Array.getElem?_setIfInBounds_ne e]using this
 ·rw[eS]at h;split at h
  ·injection h with h;subst h;exact hv
  ·exact sat.sc t u h
theorem ei(sat:Sat n l H nx iv B w O a w'){v:SV}{k:Env->Prop}(h:EI d v l k)(hd:∀t,d=some t->t<n)(hv:v.sc nx):
  ∃l',k l'∧Sat n l' H nx iv B w O (a.put d (v.den O)) w':=by
 unfold EI at h;split at h
 ·rename_i t;exact⟨_,h,sat.put (hd t rfl) hv⟩
 ·exact⟨l,h,sat⟩
theorem sG:∀{all:List Oper} {j:Nat},Ba all j=(all[j]?).bind (·.dst)
 |[],j=>by simp[Ba]
 |o::r,0=>by simp[Ba]
 |o::r,j+1=>by simp[Ba,sG (all:=r)]
theorem Sat.aAR(sat:Sat n l H nx iv B w O a w'){d:Nat}{v:SV}(hd:a.tmps[d]? =some (v.den O))(hv:v.sc nx):Sat n ((d,v)::l) H nx iv B w O a w':=by
 refine⟨sat.rel,sat.size,sat.defers,fun t u h=>?_,fun t u h=>?_⟩
 ·rw[eS]at h;split at h
  ·rename_i e;subst e;injection h with h;subst h;exact hd
  ·exact sat.env t u h
 ·rw[eS]at h;split at h
  ·injection h with h;subst h;exact hv
  ·exact sat.sc t u h
theorem ix(sat:Sat n l H nx iv B w O a w'){all:List Oper}{o:Oper}{yes no:Env->Prop}(h:tE all o.guard l yes no):
  (Region.wanted o (yielded all.toArray a.tmps)=true∧∃l',yes l'∧Sat n l' H nx iv B w O a w')∨(Region.wanted o (yielded all.toArray a.tmps)=false∧∃l',no l'∧Sat n l' H nx iv B w O a w'):=by
 unfold tE at h;split at h
 ·rename_i hg;exact .inl ⟨by simp[Region.wanted,hg],l,h,sat⟩
 ·rename_i j want hg;have hy:Region.wanted o (yielded all.toArray a.tmps)=(yielded all.toArray a.tmps j==some want):=by simp[Region.wanted,hg]
  split at h
  ·rename_i hd;rw[sG]at hd;exact .inr ⟨by rw[hy];simp[yielded,hd],l,h,sat⟩
  ·rename_i d hd;rw[sG]at hd;split at h
   ·rename_i b hb;have ht:=sat.env d _ hb;have UH:yielded all.toArray a.tmps j=some b:=by simp[yielded,hd,ht,SV.den,At.den]
    have hkt:b=true->Sat n ((d,.o (.v (.bool true)))::l) H nx iv B w O a w':=fun e=>sat.aAR (by rw[ht,e]) trivial;have hkf:b=false->Sat n ((d,.o (.v (.bool false)))::l) H nx iv B w O a w':=fun e=>sat.aAR (by rw[ht,e]) trivial;split at h
    ·cases OT:b
     ·exact .inr ⟨by rw[hy,UH,OT];rfl,_,h.f OT,hkf OT⟩
     ·exact .inl ⟨by rw[hy,UH,OT];rfl,_,h.t OT,hkt OT⟩
    ·cases OT:b
     ·exact .inl ⟨by rw[hy,UH,OT];rfl,_,h.f OT,hkf OT⟩
     ·exact .inr ⟨by rw[hy,UH,OT];rfl,_,h.t OT,hkt OT⟩
   ·rename_i vs hb;have ht:=sat.env d _ hb;exact .inr ⟨by rw[hy];simp[yielded,hd,ht,SV.den,At.den],l,h,sat⟩
   ·exact h.elim
theorem pY(hτ:fJ P τ){all:List Oper}{K:KT}{Q:Exit->Act->World->Prop}
  (hQ:∀l' H' OL iv' w2 ρ' a' w3,K l' H' OL iv' w2->Sat n l' H' OL iv' B w2 ρ' a' w3->Q .normal a' w3):
  ∀(rest:List Oper) (l:Env) (H:Hp) (nx:Nat) (iv:Iv) (w:World) (O:Nat->dg) (a:Act) (w':World),rest.all (NR n)=true->He P τ B all rest l H nx iv w K->Sat n l H nx iv B w O a w'->
   wpList P all.toArray Q rest a w'
 |[],l,H,nx,iv,w,O,a,w',_,h,sat=>wpList_nil (hQ _ _ _ _ _ _ _ _ h sat)
 |o::r,l,H,nx,iv,w,O,a,w',OI,h,sat=>by
  simp only[List.all_cons,a9]at OI;have hd:∀t,o.dst=some t->t<n:=fun t ht=>by
   have:=OI.1;simp only[NR,ht]at this;have h5:t+1<=n:=by simpa [Nat.blt]using this
   exact h5
  refine wpList_step fun Kc hKc=>?_;unfold He fX at h;rcases ix sat h with⟨hw,l1,h1,sat1⟩|⟨hw,l1,h1,sat1⟩
  ·rw[if_pos hw];refine lL hτ h1 sat1 fun v H' OL iv' w2 ρ' w3 h2 sat2 hv=>?_;obtain⟨l2,h3,sat3⟩:=ei sat2 h2 hd hv;exact hKc _ _ (pY hτ hQ r _ _ _ _ _ _ _ _ OI.2 h3 sat3)
  ·rw[aL (by simp[hw])];obtain⟨l2,h3,sat3⟩:=ei sat1 h1 hd trivial;exact hKc _ _ (pY hτ hQ r _ _ _ _ _ _ _ _ OI.2 h3 sat3)
theorem Sub.sat{t:ye}(h:Sub B l nx O w' t)(sat:Sat n l H nx iv B w O a w'):∃ρ',Sat n t.l t.H t.nx t.iv B t.w ρ' a w':=by
 obtain⟨ρ',h1,h2⟩:=h;refine⟨ρ',h1,sat.size,sat.defers,fun u v hv=>?_,fun u v hv=>(h2 u v hv).1⟩;obtain⟨_,v0,h3,h4⟩:=h2 u v hv;rw[sat.env u v0 h3,h4]
theorem gz(hτ:fJ P τ):∀(c:Code) (l:Env) (H:Hp) (nx:Nat) (iv:Iv) (w:World) (Q':Ex->KT),mu P τ B c l H nx iv w Q'->codeOk n c=true->
  ∀(O:Nat->dg) (a:Act) (w':World),Sat n l H nx iv B w O a w'->∀Q:Exit->Act->World->Prop,(∀e l' H' OL iv' w2 ρ' a' w3,Q' e l' H' OL iv' w2->Sat n l' H' OL iv' B w2 ρ' a' w3->Q e.to a' w3)->c.wp P Q a w'
 | .skip,l,H,nx,iv,w,Q',h,_,O,a,w',sat,Q,hQ=>wp_skip (hQ .normal _ _ _ _ _ _ _ _ h sat)
 | .region id ops false,l,H,nx,iv,w,Q',h,OI,O,a,w',sat,Q,hQ=>by
  obtain⟨ol⟩:=ops;exact wp_region_lit (pY hτ (fun l' H' OL iv' w2 ρ' a' w3 hk hs=>hQ .normal _ _ _ _ _ _ _ _ hk hs) ol _ _ _ _ _ _ _ _ OI h sat)
 | .region id ops true,l,H,nx,iv,w,Q',h,OI,O,a,w',sat,Q,hQ=>
  uj.h h n O a w' OI sat Q (fun l' H' OL iv' w2 ρ' a' w3 hk hs=>hQ .normal _ _ _ _ _ _ _ _ hk hs) id
 | .seq c d,l,H,nx,iv,w,Q',h,OI,O,a,w',sat,Q,hQ=>by
  simp only[codeOk,a9]at OI;refine wp_seq (gz hτ c _ _ _ _ _ _ h OI.1 O a w' sat _ fun e l' H' OL iv' w2 ρ' a' w3 hk hs=>?_)
  cases e with
  |normal=>exact gz hτ d _ _ _ _ _ _ hk OI.2 ρ' a' w3 hs Q hQ
  |exit id=>exact hQ (.exit id) _ _ _ _ _ _ _ _ hk hs
  |ret=>exact hQ .ret _ _ _ _ _ _ _ _ hk hs
 | .cond x c d,l,H,nx,iv,w,Q',h,OI,O,a,w',sat,Q,hQ=>by
  simp only[codeOk,a9]at OI;obtain⟨v,h1,hv,Q8⟩:=dV sat h;clear Q8;split at h1
  ·rename_i t;refine wp_cond_split (t:=t) (by rw[hv];rfl) (fun ht=>?_) (fun ht=>?_)
   ·exact gz hτ c _ _ _ _ _ _ (h1.t ht) OI.1 O a w' sat Q hQ
   ·exact gz hτ d _ _ _ _ _ _ (h1.f ht) OI.2 O a w' sat Q hQ
  ·exact h1.elim
 | .block id c,l,H,nx,iv,w,Q',h,OI,O,a,w',sat,Q,hQ=>by
  refine wp_block (gz hτ c _ _ _ _ _ _ h OI O a w' sat _ fun e l' H' OL iv' w2 ρ' a' w3 hk hs=>?_)
  cases e with
  |normal=>exact hQ .normal _ _ _ _ _ _ _ _ hk hs
  |exit id'=>
   simp only[Ex.to,Exit.inBlock]
   simp only at hk;split at hk
   ·rename_i he;rw[if_pos (eI he)];exact hQ .normal _ _ _ _ _ _ _ _ hk hs
   ·rename_i he;rw[aL (fun e=>by subst e;rw[Nat.beq_refl]at he;cases he)];exact hQ (.exit id') _ _ _ _ _ _ _ _ hk hs
  |ret=>exact hQ .ret _ _ _ _ _ _ _ _ hk hs
 | .loop c,l,H,nx,iv,w,Q',h,OI,O,a,w',sat,Q,hQ=>by
  obtain⟨α,st,μ,I,h0,hr⟩:=h;intro b k cs;have key:∀m x O a w',μ x=m->I x->Sat n (st x).l (st x).H (st x).nx (st x).iv B (st x).w O a w'->
    ∃e a' w2,Q e a' w2∧Arrives P (lone (b.at a (.code c:: .inLoop c::k)) cs w') b k cs e a' w2:=by
   intro m
   induction m using Nat.strongRecOn with
   |_ m ih=>
    intro x O a w' hm hI hs;have hc:=gz hτ c _ _ _ _ _ _ (hr x hI) OI O a w' hs
     (fun e a2 w2=>match e with
      | .normal=>∃y ρ2,I y∧Sat n (st y).l (st y).H (st y).nx (st y).iv B (st y).w ρ2 a2 w2∧μ y<μ x
      |e=>Q e a2 w2) (fun e l' H' OL iv' w2 ρ' a' w3 hk TN=>by
       cases e with
       |normal=>
        obtain⟨y,hIy,hy,Od⟩:=hk ρ' w3 TN.rel;obtain⟨ρ2,Q9⟩:=hy.sat TN;exact⟨y,ρ2,hIy,Q9,Od⟩
       |exit id=>exact hQ (.exit id) _ _ _ _ _ _ _ _ hk TN
       |ret=>exact hQ .ret _ _ _ _ _ _ _ _ hk TN)
    obtain⟨e,a₁,w₁,hq,SW⟩:=hc b (.inLoop c::k) cs
    cases e with
    |normal=>
     obtain⟨y,ρ2,hIy,Q9,Od⟩:=hq;obtain⟨e₂,a₂,w₂,hq₂,harr₂⟩:=ih (μ y) (hm▸Od) y ρ2 a₁ w₁ rfl hIy Q9;exact⟨e₂,a₂,w₂,hq₂,.of_steps (Steps.trans SW (.one step_inLoop)) harr₂⟩
    |exit id=>exact⟨_,a₁,w₁,hq,.pass (x:=.inLoop c) rfl (fun _ _=>.inl (by simp)) SW⟩
    |goto l=>exact⟨_,a₁,w₁,hq,.pass (x:=.inLoop c) rfl (fun _ _=>.inl (by simp)) SW⟩
    |ret=>exact⟨_,a₁,w₁,hq,.pass (x:=.inLoop c) rfl (fun _ _=>.inl (by simp)) SW⟩
    |panic ch=>exact⟨_,a₁,w₁,hq,.pass (x:=.inLoop c) rfl (fun _ _=>.inl (by simp)) SW⟩
    |outgrown=>exact⟨_,a₁,w₁,hq,.pass (x:=.inLoop c) rfl (fun _ _=>.inl (by simp)) SW⟩
  obtain⟨x,hIx,hx⟩:=h0 O w' sat.rel;obtain⟨ρ2,Q9⟩:=hx.sat sat;obtain⟨e,a',w2,hq,SW⟩:=key _ x ρ2 a w' rfl hIx Q9;exact⟨e,a',w2,hq,.of_steps (.one step_loop) SW⟩
 | .exit id,l,H,nx,iv,w,Q',h,_,O,a,w',sat,Q,hQ=>wp_exit (hQ (.exit id) _ _ _ _ _ _ _ _ h sat)
 | .ret,l,H,nx,iv,w,Q',h,_,O,a,w',sat,Q,hQ=>wp_ret (hQ .ret _ _ _ _ _ _ _ _ h sat)
 | .rangeFunc _ _ _ _,l,H,nx,iv,w,Q',h,_,O,a,w',sat,Q,hQ=>h.elim
 | .scope _,l,H,nx,iv,w,Q',h,_,O,a,w',sat,Q,hQ=>h.elim
 | .label _,l,H,nx,iv,w,Q',h,_,O,a,w',sat,Q,hQ=>h.elim
 | .goto _,l,H,nx,iv,w,Q',h,_,O,a,w',sat,Q,hQ=>h.elim
 | .refuse _,l,H,nx,iv,w,Q',h,_,O,a,w',sat,Q,hQ=>h.elim
def fT:Nat->List Value->Env
 |_,[]=>[]
 |k,v::r=>(k,.o (.v v))::fT (k+1) r
theorem sH:∀(vs:List Value) (k t:Nat) (v:SV),fM (fT k vs) t=some v->k<=t∧∃x,v= .o (.v x)∧vs[t-k]? =some x
 |[],k,t,v,h=>by simp[fT,fM]at h
 |x::r,k,t,v,h=>by
  rw[fT,eS]at h;split at h
  ·rename_i e;subst e;injection h with h;subst h;exact⟨aF _,x,rfl,by simp⟩
  ·obtain⟨h1,y,h2,h3⟩:=sH r (k+1) t v h;refine⟨by omega,y,h2,?_⟩;rw[show t-k=(t-(k+1))+1 by omega];simpa using h3
def EW(τ:nH)(B:Nat)(l:Env)(H:Hp)(nx:Nat)(iv:Iv)(w:World):List ResultVar->(List SV->Prop)->Prop
 |[],k=>k []
 | .tmp t::r,k=>match fM l t with
  |some v=>EW τ B l H nx iv w r (fun vs=>k (v::vs))
  |none=>False
 | .cell t ty::r,k=>match fM l t with
  |some v=>B9 τ B ty v H nx iv w (fun u=>EW τ B l H nx iv w r (fun vs=>k (u::vs)))
  |none=>False
def Ju(B:Nat)(H:Hp)(nx:Nat)(iv:Iv)(w:World)(R:Ending->World->Prop):List SV->Prop
 |[v]=>∀O w',Rel H nx iv B w O w'->R (.returned (v.den O)) w'
 |vs=>∀O w',Rel H nx iv B w O w'->R (.returned (.tuple (np O vs))) w'
def NS(τ:nH)(B:Nat)(rs:List ResultVar)(R:Ending->World->Prop):Ex->KT
 | .exit _,_,_,_,_,_=>False
 | .normal,l,H,nx,iv,w=>EW τ B l H nx iv w rs (Ju B H nx iv w R)
 | .ret,l,H,nx,iv,w=>EW τ B l H nx iv w rs (Ju B H nx iv w R)
def Jv(tmps:Array Value):ResultVar->Sem Value
 | .tmp t=>pure (tmps.getD t undef)
 | .cell c t=>do loadVar t (<-asAddr (tmps.getD c undef))
theorem ux(hτ:fJ P τ)(sat:Sat n l H nx iv B w O a w'):∀{rs:List ResultVar} {k:List SV->Prop},EW τ B l H nx iv w rs k->
  ∃vs,k vs∧(rs.mapM (Jv a.tmps)).run P w'= .ok (vs.map (SV.den O)) w'
 |[],k,h=>⟨[],h,by simp⟩
 | .tmp t::r,k,h=>by
  unfold EW at h;split at h
  ·rename_i v hv;obtain⟨vs,h1,h2⟩:=ux hτ sat h;have:=sat.env t v hv;exact⟨v::vs,h1,by rw[List.mapM_cons,Sem.run_bind];simp[Jv,this,h2]⟩
  ·exact h.elim
 | .cell t ty::r,k,h=>by
  unfold EW at h;split at h
  ·rename_i v hv;obtain⟨u,h1,hu,Vx⟩:=oB hτ sat.rel (sat.sc t v hv) h;have ON:=Vx w' sat.rel;clear Vx;obtain⟨vs,h2,h3⟩:=ux hτ sat h1;have htm:=sat.env t v hv;refine⟨u::vs,h2,?_⟩;have:(do loadVar ty (<-asAddr (v.den O)):Sem Value).run P w'= .ok (u.den O) w':=by
    revert ON;generalize v.den O=x;intro ON
    cases x with
    |pointer ad=>
     cases ad with
     |some ad=>simpa [asAddr,Instr.loadAt,Instr.sureAddr]using ON
     |none=>simp[Instr.loadAt,Instr.sureAddr]at ON
    |_=>simp[Instr.loadAt,Instr.sureAddr]at ON
   have h4:(Jv a.tmps (.cell t ty)).run P w'= .ok (u.den O) w':=by
    have e:a.tmps.getD t undef=v.den O:=by simp[htm]
    show(do loadVar ty (<-asAddr (a.tmps.getD t undef)):Sem Value).run P w'=_;rw[e];exact this
   rw[List.mapM_cons,Sem.run_bind,h4];simp[h3]
  ·exact h.elim
theorem EX(hτ:fJ P τ){f:FuncId}{fn:Func}{c:Code}{args:Array Value}{w:World}(hf:P.funcs[f]? =some fn)(hb:fn.body=some c)
  (hn:args.size<=fn.ntmps) (OI:codeOk fn.ntmps c=true) (h:mu P τ w.heap.size c (fT 0 args.toList) [] 0 [] w (NS τ w.heap.size fn.results.toList R)):Calls P f args w R:=by
 refine calls_of_wp hf hb ?_;have sat:Sat fn.ntmps (fT 0 args.toList) [] 0 [] w.heap.size w (fun _=>⟨0,0,true⟩) {tmps:=args++Array.replicate (fn.ntmps-args.size) undef,defers:=[]} w:=by
  refine⟨Rel.mk' rfl rfl rfl (aF _) (aF _) (by simp) (by simp[dC]) (by simp[dC]) (by simp[dC]) (by simp[dC]) (by simp[dC]) (fun _ _ _=>rfl) (by simp),by simp;omega,rfl,fun t v hv=>?_,fun t v hv=>?_⟩
  ·obtain⟨_,x,rfl,hx⟩:=sH _ 0 t v hv;simp only[Nat.sub_zero,bA]at hx;rw[Array.getElem?_append_left (ah.1 hx).1,hx];rfl
  ·obtain⟨_,x,rfl,hx⟩:=sH _ 0 t v hv;trivial
 refine gz hτ c _ _ _ _ _ _ h OI _ _ _ sat _ fun e l' H' OL iv' w2 ρ' a' w3 hk hs=>?_;have fin:EW τ w.heap.size l' H' OL iv' w2 fn.results.toList (Ju w.heap.size H' OL iv' w2 R)->a'.defers=[]∧∃v,(results fn a'.tmps).run P w3= .ok v w3∧R (.returned v) w3:=by
  intro hk;obtain⟨vs,h1,h2⟩:=ux hτ hs hk;refine⟨hs.defers,if OX:(vs.map (SV.den ρ')).toArray.size=1 then(vs.map (SV.den ρ')).toArray[0]else .tuple (vs.map (SV.den ρ')).toArray,?_,?_⟩
  ·have e:(fn.results.mapM (Jv a'.tmps)).run P w3= .ok (vs.map (SV.den ρ')).toArray w3:=by
    rw[Array.mapM_eq_mapM_toList];simp only[Sem.run_map,h2,Result.andThen_ok]
   show(do let vs <-fn.results.mapM (Jv a'.tmps);pure (if h:vs.size=1 then vs[0]else .tuple vs):Sem Value).run P w3=_;rw[Sem.run_bind,e];simp only[Result.andThen_ok,Sem.run_pure]
  ·match vs,h1 with
   |[v],h1=>simpa using h1 ρ' w3 hs.rel
   |[],h1=>simpa [np]using h1 ρ' w3 hs.rel
   |v1::v2::r,h1=>simpa [np]using h1 ρ' w3 hs.rel
 cases e with
 |normal=>exact fin hk
 |exit id=>exact hk.elim
 |ret=>exact fin hk
end
section
variable{P:Program}{ops:Array Oper}{Q:Exit->Act->World->Prop}{md:Region.Mode}
def hJ(P:Program)(ops:Array Oper)(pu:Bool)(o:Oper)(v:Value)(a:Act)(w:World):Prop:=
 (Region.wanted o (yielded ops a.tmps)=true∧∀w2,(pu=true∨Ext w w2)->(execOp a.eval o).run P w2= .ok (.value v) w2)∨
 (Region.wanted o (yielded ops a.tmps)=false∧v=undef)
theorem Ext.refl(w:World):Ext w w:=RowKit.Below.refl _ _
theorem Ext.trans{a b c:World}(h:Ext a b)(k:Ext b c):Ext a c:=RowKit.Below.trans h (k.mono h.size)
theorem hJ.wpOp{i:Nat}{o:Oper}{a:Act}(hi:ops[i]? =some o)(hy:hJ P ops pu o v a w)
  {K:Act->World->Prop} (h:K (a.put o.dst v) w):wpOp P ops Q i K a w:=by
 unfold Go.wpOp;simp only[hi]
 rcases hy with⟨hw,hv⟩|⟨hw,rfl⟩
 ·simp only[hw,if_true,Oper.wp,hv w (.inr (Ext.refl w)),Oper.upon];exact .inl h
 ·simp only[hw,Bool.false_eq_true,if_false];exact h
theorem hJ.of_same{o:Oper}{a a':Act}(hy:hJ P ops pu o v a w)(he:execOp a'.eval o=execOp a.eval o)
  (hw:Region.wanted o (yielded ops a'.tmps)=Region.wanted o (yielded ops a.tmps)):hJ P ops pu o v a' w:=by
 unfold hJ at*
 rw[he,hw];exact hy
theorem hJ.ext{o:Oper}{a:Act}(hy:hJ P ops pu o v a w)(e:pu=true∨Ext w w2):hJ P ops pu o v a w2:=
 hy.imp (fun ⟨h1,h2⟩=>⟨h1,fun w3 h3=>h2 w3 (by
  rcases h3 with h3|h3
  ·exact .inl h3
  ·exact e.imp id (fun e=>e.trans h3))⟩) id
theorem I8{oi oj:Oper}{w0:World}(hj:ops[j]? =some oj)(Qv:oi.apart ops oj=true)
  (hsi:∀cs b,oi.op≠ .select cs b) (hsj:∀cs b,oj.op≠ .select cs b)
  (hQ:∀c a w,Q (.panic c) (a.put oi.dst v) w->Q (.panic c) a w) {K:Act->World->Prop} {a:Act}
  (hy:hJ P ops pu oi v a w0) (h:wpOp P ops Q j K (a.put oi.dst v) w):
  wpOp P ops Q j (fun a' w'=>hJ P ops pu oi v a' w0∧K (a'.put oi.dst v) w') a w:=by
 obtain⟨h1,h2,h3⟩:=Oper.apart_spec Qv;have cH:∀(a:Act),hJ P ops pu oi v a w0->∀u,hJ P ops pu oi v (a.put oj.dst u) w0:=fun a hy u=>
  hy.of_same (execOp_put oi hsi a oj.dst u h3) (wanted_put oi a oj.dst u h3)
 have keepD:∀d,hJ P ops pu oi v {a with defers:=d::a.defers} w0:=fun d=>hy.of_same rfl rfl;unfold wpOp at*
 simp only[hj]at*
 rw[wanted_put oj a oi.dst v h1]at h;split
 ·rename_i hw;simp only[hw,if_true]at h;rcases h with h|⟨SX,UI⟩
  case inr=>exact .inr ⟨by unfold Oper.asks at *;rw[execOp_put oj hsj a oi.dst v h1]at SX;exact SX,UI⟩
  refine .inl ?_;unfold Oper.wp at*
  rw[execOp_put oj hsj a oi.dst v h1]at h;generalize (execOp a.eval oj).run P w=r at*
  cases r with
  |ok n w'=>
   cases n<;>simp only[Oper.upon]at h ⊢
   case value u=>exact⟨cH a hy u,by rw[<-Act.put_comm a v u h2];exact h⟩
   case skip=>exact⟨cH a hy _,by rw[<-Act.put_comm a v undef h2];exact h⟩
   case defer d=>
    refine⟨cH _ (keepD d) _,?_⟩;rw[<-Act.put_comm _ v undef h2,<-Act.put_defers];exact h
   case enter f args=>
    refine Calls.mono h fun e w'' he=>?_
    cases e with
    |returned u=>exact⟨cH a hy u,by rw[<-Act.put_comm a v u h2];exact he⟩
    |panicked c=>exact hQ _ _ _ he
    |outgrown=>exact he
   case row row args=>exact Rows.mono h fun u w'' he=>⟨cH a hy u,by rw[<-Act.put_comm a v u h2];exact he⟩
  |halt x w'=>
   cases x<;>simp only[Oper.upon]at h ⊢
   case panic u=>exact hQ _ _ _ h
 ·rename_i hw;simp only[hw]at h;exact⟨cH a hy _,by rw[<-Act.put_comm a v undef h2];exact h⟩
def pE(o:Oper):Bool:= !(sw o.op||Jg o.op||(match o.op with
 | .call ⟨.value _,_,_⟩=> !(Nat.beq o.type 0)
 |_=>false))
def fC(o:Oper):Bool:=match o.op with
 | .call ⟨.value _,_,_⟩=>Nat.beq o.type 0
 |_=>false
theorem lK{o:Oper}(h:sw o.op=true):fC o=false:=by
 unfold fC;split
 ·rename_i e;rw[e]at h
  cases h
 ·rfl
theorem GP{o:Oper}(h:Jg o.op=true):fC o=false:=by
 unfold fC;split
 ·rename_i e;rw[e]at h
  cases h
 ·rfl
theorem mr{o:Oper}(h:pE o=false):fC o=false:=by
 unfold fC;split
 ·rename_i e;simp only[pE,e,sw,Jg,Bool.false_or,Bool.not_not]at h;exact h
 ·rfl
def sA(P:Program)(md:Region.Mode)(ops:Array Oper)(Q:Exit->Act->World->Prop):Nat->Array Bool->Act->World->Prop
 |0,listed,a,w=>Region.ready md ops listed=[]∧Q .normal a w
 |fuel+1,listed,a,w=>
  (Region.ready md ops listed=[]->Q .normal a w)∧
  ∀i∈Region.ready md ops listed,wpOp P ops Q i (fun a' w'=>((∀o,ops[i]? =some o->pE o=false)->Ext w w')∧sA P md ops Q fuel (listed.setIfInBounds i true) a' w') a w
theorem sC:∀(fuel:Nat) (listed:Array Bool) (a:Act) (w:World),sA P md ops Q fuel listed a w->wpAny P md ops Q fuel listed a w
 |0,_,_,_,h=>h
 |fuel+1,_,_,_,h=>⟨h.1,fun i hi=>wpOp_mono (fun a' w' h'=>sC fuel _ a' w' h'.2) (h.2 i hi)⟩
theorem kv{i:Nat}{oi:Oper}(hi:ops[i]? =some oi)(OV:∀(j:Nat) (o:Oper) cs b,ops[j]? =some o->o.op≠ .select cs b)
  (hQ:∀c a w,Q (.panic c) (a.put oi.dst v) w->Q (.panic c) a w) (yX:Nat->Prop) (SU:∀j,yX j->∃oj e,ops[j]? =some oj∧e∈oj.after∧Region.binds md e=true∧(e.on=i∨yX e.on)):
  ∀(fuel:Nat) (listed:Array Bool) (a:Act) (w:World),(∀j,yX j->listed.getD j false=false)->
   (∀j oj,ops[j]? =some oj->j≠i->listed.getD j true=false->¬yX j->oi.apart ops oj=true∧(pu=true∨pE oj=false))->
   i∈Region.ready md ops listed->hJ P ops pu oi v a w->
   sA P md ops Q fuel (listed.setIfInBounds i true) (a.put oi.dst v) w->sA P md ops Q (fuel+1) listed a w:=by
 intro fuel
 induction fuel with
 |zero=>
  intro listed a w _ _ hr hy H;refine⟨fun h=>(by rw[h]at hr;cases hr),fun j hj=>?_⟩;by_cases Oy:j=i
  ·subst Oy;exact hy.wpOp hi ⟨fun _=>Ext.refl w,H⟩
  ·have:=ready_mono hj Oy;rw[H.1]at this
   cases this
 |succ fuel ih=>
  intro listed a w Pg RE hr hy H;refine⟨fun h=>(by rw[h]at hr;cases hr),fun j hj=>?_⟩;by_cases Oy:j=i
  ·subst Oy;exact hy.wpOp hi ⟨fun _=>Ext.refl w,H⟩
  ·have h1:=H.2 j (ready_mono hj Oy);obtain⟨UJ,oj,Qu,QO⟩:=mem_ready.1 hj;have Qc:¬yX j:=fun hb=>by
    obtain⟨oj',e,Rv,he,hbi,Tv⟩:=SU j hb;rw[Qu]at Rv;injection Rv with Rv;subst Rv;have h1:=QO e he hbi;rcases Tv with heq|QI
    ·have h0:=(mem_ready.1 hr).1;rw[heq]at h1;rcases aO i listed.size with h'|h'
     ·simp[h']at h0 h1;rw[h0]at h1;cases h1
     ·simp[Array.getElem?_eq_none h']at h1
    ·rw[Pg _ QI]at h1;cases h1
   have Sh:=RE j oj Qu Oy UJ Qc;have h2:=I8 Qu Sh.1 (fun cs b=>OV i oi cs b hi) (fun cs b=>OV j oj cs b Qu) hQ hy h1;have hbl':∀k,yX k->(listed.setIfInBounds j true).getD k false=false:=fun k hk=>by
    rw[getD_set_ne false (fun e=>(by subst e;exact Qc hk))];exact Pg k hk
   have Sq:∀k ok,ops[k]? =some ok->k≠i->(listed.setIfInBounds j true).getD k true=false->
     ¬yX k->oi.apart ops ok=true∧(pu=true∨pE ok=false):=fun k ok hk hki Tt R9=>by
    refine RE k ok hk hki ?_ R9;by_cases Rz:j=k
    ·subst Rz;exact UJ
    ·rw[getD_set_ne true Rz]at Tt;exact Tt
   refine wpOp_mono (fun a' w' h3=>?_) h2;have SH:pE oj=false->Ext w w':=fun hf=>h3.2.1 (fun o ho=>by rw[Qu]at ho;injection ho with ho;subst ho;exact hf);refine⟨fun hh=>SH (hh oj Qu),ih (listed.setIfInBounds j true) a' w' hbl' Sq (ready_mono hr (Ne.symm Oy)) (h3.1.ext (Sh.2.imp id SH)) ?_⟩;rw[Array.setIfInBounds_comm _ _ Oy];exact h3.2.2
end
section
variable{P:Program}{τ:nH}{B n nx:Nat}{l:Env}{H:Hp}{iv:Iv}{w w':World}{O:Nat->dg}{a:Act}
def AL(P:Program)(o:Oper)(a:Act)(mk:Nat->Value)(obj:Obj):Prop:=
 ∀w:World,(execOp a.eval o).run P w= .ok (.value (mk w.heap.size)) (w.alloc obj)
theorem AL.uniq{o:Oper}{mk':Nat->Value}{obj':Obj}(h:AL P o a mk obj)(h':AL P o a mk' obj'):obj=obj'∧mk=mk':=by
 have key:∀w:World,mk w.heap.size=mk' w.heap.size∧w.alloc obj=w.alloc obj':=fun w=>by
  have:=(h w).symm.trans (h' w);injection this with h1 h2;injection h1 with h1;exact⟨h1,h2⟩
 refine⟨?_,funext fun g=>?_⟩
 ·have:=(key default).2;have h2:=congrArg (fun w:World=>w.heap[(default:World).heap.size]?) this;simp only[heap_alloc_new]at h2;injection h2
 ·have:=(key {(default:World)with heap:=Array.replicate g default}).1;simpa using this
theorem lJ(hτ:fJ P τ){o:Oper}(h:yU dr P τ B o l H nx iv w K)(sat:Sat n l H nx iv B w O a w')(hk:Jg o.op=true):
  ∃b v mk obj,K v ((nx,b)::H) (nx+1) iv w∧b≠ .dead∧b.scopd nx∧v.sc (nx+1)∧(∀g,v.den (gO O nx ⟨g,0,false⟩)=mk g)∧(∀g w2,w2.heap[g]? =some obj->b.fits O ⟨g,0,false⟩ w2)∧AL P o a mk obj:=by
 obtain⟨dst,op,ty,pos,after,guard⟩:=o;unfold yU at h;split at h<;>first|(exact False.elim h)|(rename_i TL;simp only at TL;subst TL)
 all_goals first|(exact absurd hk Bool.false_ne_true)|skip
 ·rename_i t;split at h
  ·rename_i sz ag by_ ze tag ik e al fs QP;have hK:=fY h;refine⟨_,_,fun g=>.pointer (some ⟨g,0,none⟩),.cells ze.toArray t,hK,by simp,(fun c hc=>by obtain⟨v,_,rfl⟩:=aU.1 hc;trivial),by simp[SV.sc,At.sc],fun g=>by simp[SV.den,At.den],fun g w2 hg=>⟨rfl,by rw[fV];exact hg⟩,fun w=>?_⟩;obtain⟨z,OU,Ox⟩:=(hτ t _ QP).zeroV w;simp only at Ox;have hzz:z.cells=ze.toArray:=by apply Array.ext';simpa using Ox
   simp[execOp,Instr.alloc,OU,newVar,newRow,hzz]
  ·exact h.elim
 ·rename_i t x;obtain⟨v,h1,hv,hs⟩:=dV sat h;obtain⟨cs,hK,PA,Rx⟩:=mM h1;refine⟨_,_,fun g=>.pointer (some ⟨g,0,none⟩),.cells (cs.map (At.den O)).toArray t,hK,by simp,Rx nx hs,by simp[SV.sc,At.sc],fun g=>by simp[SV.den,At.den],fun g w2 hg=>⟨rfl,hg⟩,fun w=>?_⟩;simp[execOp,Instr.box,hv,newVar,newRow,PA O]
 ·rename_i t m parts;split at h
  ·rename_i sz ag by_ ze tag ik e al fs QP;have ht:=hτ t _ QP;split at h
   ·rename_i Oa;have hu:=ht.i4 (eI Oa);simp only at hu;split at h
    ·rename_i sz' ag' by' ze' tag' ik' e' al' fs' PM
     have PM:=hτ e _ PM;obtain⟨inf,z,hi,OX,PQ,hz,RQ⟩:=PM.info;have Ra:=PM.IV;simp only at OX PQ RQ Ra;split at h
     ·rename_i hle;have hle:=Nat.le_of_ble_eq_true hle;have h0:=fY h;obtain⟨cs',hK,Ov,hlen,Pj⟩:=kR sat (placeF:=fun i=>some (i*inf.size,inf.size)) (fun i k hk=>⟨i*sz',sz',hk,by rw[OX]⟩) h0
       (fun c hc=>by obtain⟨v,_,rfl⟩:=aU.1 hc;trivial)
      rw[fV]at Pj;have Qq:z.cells=ze'.toArray:=by apply Array.ext';simpa using RQ
      have UG:((List.replicate m ze').flatten).toArray=madeCells z.cells (m*inf.size):=by
       rw[Qq,OX,<-Ra];exact(qi ze' m).symm
      refine⟨_,_,fun g=>.slice (some ⟨g,0,none⟩) m m,.cells (cs'.map (At.den O)).toArray e,hK,by simp,Ov,by simp[SV.sc,At.sc],fun g=>by simp[SV.den,At.den],fun g w2 hg=>⟨rfl,hg⟩,fun w=>?_⟩;simp only[execOp]
      refine mO ?_;rw[UG]at Pj;by_cases Ot:m*inf.size=0
      ·have RX:Instr.fill (fun i=>some (i*inf.size,inf.size)) (madeCells z.cells 0) (parts.toList.map fun p=>(p.1,a.eval p.2))=some (cs'.map (At.den O)).toArray:=by rw[Ot]at Pj;exact Pj
       have e0:madeCells z.cells 0= #[]:=by simp[madeCells]
       rw[e0]at RX;have er:Array.range 0= #[]:=rfl;simp[Instr.buildSlice,run_underlying hu,sizeOf,typeInfo,zeroValue,hi,hz,Ot,newRow,RX,er]
      ·exact run_buildSlice w t e m _ _ inf z hu hi hz (by rw[OX];omega) Ot (by rw[<-Pj];simp[madeCells])
     ·exact h.elim
    ·exact h.elim
   ·exact h.elim
  ·exact h.elim
 ·rename_i t x y;obtain⟨v,h1,hv,Q8⟩:=dV sat h;obtain⟨u,h2,hu,hus⟩:=dV sat h1;clear Q8 hus;unfold Hd at h2;split at h2
  ·rename_i k1 a1 k2 b1;split at h2
   ·rename_i sz ag by_ ze tag ik e al fs QP;have ht:=hτ t _ QP;split at h2
    ·rename_i Oa;have hut:=ht.i4 (eI Oa);simp only at hut;split at h2
     ·rename_i sz' ag' by' ze' tag' ik' e' al' fs' PM
      have PM:=hτ e _ PM;obtain⟨inf,z,hi,OX,PQ,hz,RQ⟩:=PM.info;simp only at OX PQ RQ;obtain⟨m,c,rfl,rfl,hmc,hbytes,h63,h3⟩:=h2;have QK:(inf.bytes:Int)*(c:Int)<=281474976710656:=by
       rw[PQ];have QI:((by'*c:Nat):Int)<=281474976710656:=by omega
       rwa [Int.natCast_mul]at QI
      have ON:=fun w:World=>run_make (P:=P) w t e inf z hut hi hz k1 k2 (m:Int) (c:Int) (by omega) (by omega) QK (by omega);simp only[aE]at ON;have Ra:=PM.IV;simp only at Ra;have Qq:z.cells=ze'.toArray:=by apply Array.ext';simpa using RQ
      have fin:∀cs:List Value,cs.toArray=madeCells z.cells (c*inf.size)->Av (.arr e cs) H nx (fun H' OL=>K (.o (.s nx 0 m c)) H' OL iv w)->
        ∃b v mk obj,K v ((nx,b)::H) (nx+1) iv w∧b≠ .dead∧b.scopd nx∧v.sc (nx+1)∧(∀g,v.den (gO O nx ⟨g,0,false⟩)=mk g)∧(∀g w2,w2.heap[g]? =some obj->b.fits O ⟨g,0,false⟩ w2)∧
         AL P ⟨dst,.makeSlice t x y,ty,pos,after,guard⟩ a mk obj:=by
       intro cs Ov hK;refine⟨_,_,fun g=>.slice (some ⟨g,0,none⟩) m c,.cells cs.toArray e,hK,by simp,trivial,by simp[SV.sc,At.sc],fun g=>by simp[SV.den,At.den],fun g w2 hg=>⟨rfl,hg⟩,fun w=>?_⟩;simp only[execOp,hv,hu]
       refine mO ?_;rw[show SV.den O (.o (.v (.int k1 m)))= .int k1 m from rfl,show SV.den O (.o (.v (.int k2 c)))= .int k2 c from rfl,ON w,Ov]
      split at h3
      ·rename_i z0;refine fin _ ?_ h3;have:inf.size=1:=by rw[OX,<-Ra];rfl
       rw[this,aT,Qq,EV]
      ·refine fin _ ?_ h3;rw[OX,<-Ra,Qq,qi]
     ·exact h2.elim
    ·exact h2.elim
   ·exact h2.elim
  ·exact h2.elim
end
inductive It where
 |x (i:Nat)
 |p (i:Nat)
def EA:Env->Nat->(Env->Prop)->Prop
 |[],_,k=>k []
 |(t,v)::r,u,k=>match Nat.beq t u with
  |true=>EA r u k
  |false=>EA r u (fun r'=>k ((t,v)::r'))
def aAd(d:Option Tmp)(l:Env)(k:Env->Prop):Prop:=match d with
 |some t=>EA l t k
 |none=>k l
def nm:List Oper->Nat->(Oper->Prop)->Prop
 |[],_,_=>False
 |o::_,0,k=>k o
 |_::r,n+1,k=>nm r n k
def Jf(P:Program)(τ:nH)(B:Nat)(all:List Oper):List It->Env->Hp->Nat->Iv->World->KT->Prop
 |[],l,H,nx,iv,w,K=>K l H nx iv w
 | .x i::r,l,H,nx,iv,w,K=>nm all i (fun o=>fX (!fC o) P τ B all o l H nx iv w (fun l' H' OL iv' w'=>Jf P τ B all r l' H' OL iv' w' K))
 | .p i::r,l,H,nx,iv,w,K=>nm all i (fun o=>yU true P τ B o l H nx iv w (fun _ _ _ _ _=>aAd o.dst l (fun l'=>Jf P τ B all r l' H nx iv w K)))
def IS(ops:Array Oper)(o:Oper)(j:Nat):Bool:=match ops[j]? with
 |some oj=>o.apart ops oj
 |none=>false
def EB(la:Array Bool):List Nat->Array Bool
 |[]=>la
 |i::r=>EB (la.setIfInBounds i true) r
def tb(m j:Nat):Bool:=Nat.beq ((m >>> j) % 2) 1
def iS:List Bool->Nat->Nat
 |[],_=>0
 |true::r,j=>(1 <<< j) ||| iS r (j+1)
 |false::r,j=>iS r (j+1)
def As(m i:Nat):List Oper->Nat->Nat->Nat
 |[],_,b=>b
 |o::r,j,b=>match(!tb m j&& !Nat.beq j i)&&o.after.toList.any (fun e=>Region.binds .any e&&(Nat.beq e.on i||tb b e.on))with
  |true=>As m i r (j+1) (b ||| (1 <<< j))
  |false=>As m i r (j+1) b
def Ha(ops:Array Oper)(m i:Nat)(oi:Oper)(b:Nat):List Oper->Nat->Bool
 |[],_=>true
 |oj::r,j=>(Nat.beq j i||tb m j||tb b j||(oi.apart ops oj&&(GL oi.op|| !pE oj)))&&Ha ops m i oi b r (j+1)
def Mq(ops:Array Oper)(m:Nat)(Pd:List Nat)(i:Nat)(oi:Oper)(b:Nat):Bool:=Pd.all (fun j=> !tb b j)&&Ha ops m i oi b ops.toList 0
def EC(ops:Array Oper)(m:Nat)(Pd:List Nat)(i:Nat)(oi:Oper):Bool:=Mq ops m Pd i oi (As m i ops.toList 0 0)
def pO(ops:Array Oper):List It->Array Bool->List Nat->Bool
 |[],lx,Pd=>(Region.ready .any ops lx).isEmpty&&Pd.isEmpty
 | .p i::r,lx,Pd=>match ops[i]? with
  |none=>false
  |some o=>Jg o.op&&o.guard.isNone&&(match o.dst with
     |some d=> !(o.looksAt ops).contains d
     |none=>false)&&(!lx.getD i true)&&Pd.all (fun j=> !Nat.beq j i)&&
    Pd.all (fun j=>IS ops o j&&(match ops[j]? with
     |some oj=>oj.apart ops o
     |none=>false))&&pO ops r lx (i::Pd)
 | .x i::r,lx,Pd=>match ops[i]? with
  |none=>false
  |some o=>(o.guard.isNone||Pd.isEmpty)&&(Region.ready .any ops lx).contains i&&
    Pd.all (fun j=>Nat.beq j i||IS ops o j)&&
    (match sw o.op with
     |true=>EC ops (iS lx.toList 0) Pd i o
     |false=>(!pE o||Pd.isEmpty)&&(Region.ready .any ops (EB lx (Pd.filter fun j=> !Nat.beq j i))).all (fun j=>Nat.beq j i))&&
    pO ops r (lx.setIfInBounds i true) (Pd.filter fun j=> !Nat.beq j i)
theorem nJ(h:j<la.size)(b c:Bool):la.getD j b=la.getD j c:=by
 rw[ai,ai,Array.getElem?_eq_getElem h];rfl
theorem nK{a b:Nat}:Nat.beq a b=false↔a≠b:=⟨fun h e=>(by subst e;rw[Nat.beq_refl]at h;cases h),fun h=>by
 cases hb:Nat.beq a b with
 |false=>rfl
 |true=>exact absurd (eI hb) h⟩
theorem Jh{a b:Nat}(h:b<a):Nat.ble a b=false:=by
 cases hb:Nat.ble a b with
 |false=>rfl
 |true=>exact absurd (Nat.le_of_ble_eq_true hb) (by omega)
theorem ry(m j:Nat):tb m j=m.testBit j:=by
 rw[Nat.testBit_eq_decide_div_mod_eq,tb,Nat.shiftRight_eq_div_pow]
 cases h:decide (m / 2^j % 2=1)with
 |true=>rw[aI h];rfl
 |false=>exact nK.2 (aH h)
theorem ED(a b j:Nat):tb (a ||| b) j=(tb a j||tb b j):=by rw[ry,ry,ry,Nat.testBit_or]
theorem GM(i j:Nat):tb (1 <<< i) j=Nat.beq j i:=by
 rw[ry,Nat.one_shiftLeft,Nat.testBit_two_pow]
 cases h:Nat.beq j i with
 |true=>exact bS (eI h).symm
 |false=>exact bI fun e=>(nK.1 h) e.symm
theorem tD(j:Nat):tb 0 j=false:=by rw[ry,Nat.zero_testBit]
theorem EF:∀(l:List Bool) (k j:Nat),tb (iS l k) j=(Nat.ble k j&&l.getD (j-k) false)
 |[],k,j=>by unfold iS;rw[tD];simp
 |b::r,k,j=>by
  have e:tb (iS (b::r) k) j=((b&&Nat.beq j k)||tb (iS r (k+1)) j):=by
   cases b<;>simp only[iS,ED,GM,Bool.false_and,Bool.true_and,Bool.false_or]
  rw[e,EF r (k+1) j];rcases bq j k with h|h|h
  ·rw[nK.2 (by omega),Bool.and_false,Bool.false_or,Jh (by omega),Jh (by omega)];rfl
  ·subst h;rw[Nat.beq_refl,Jh (by omega),Nat.ble_eq_true_of_le (aF j),bH];simp
  ·rw[nK.2 (by omega),Bool.and_false,Bool.false_or,Nat.ble_eq_true_of_le (show k+1<=j from h),Nat.ble_eq_true_of_le (Nat.le_of_lt h),show j-k=(j-(k+1))+1 by omega,List.getD_cons_succ]
def Rm(lx:Array Bool)(m:Nat):Prop:=∀j,tb m j=lx.getD j false
theorem yA(lx:Array Bool):Rm lx (iS lx.toList 0):=fun j=>by
 rw[EF,show Nat.ble 0 j=true from Nat.ble_eq_true_of_le (aP j),Bool.true_and,Nat.sub_zero,ai,List.getD,bA]
theorem Rm.eq{m':Nat}(h:Rm lx m)(h':Rm lx m'):m=m':=Nat.eq_of_testBit_eq fun j=>by rw[<-ry,<-ry,h,h']
theorem nL{ops:Array Oper}{m i:Nat}:∀(l:List Oper) (k b:Nat),(∀n o,l[n]? =some o->ops[k+n]? =some o)->
  (∀j,tb b j=true->tb m j=false∧j≠i∧∃oj e,ops[j]? =some oj∧e∈oj.after∧Region.binds .any e=true∧(e.on=i∨∃b2,tb b2 e.on=true∧b2=b))->
  ∀j,tb (As m i l k b) j=true->tb m j=false∧j≠i∧∃oj e,ops[j]? =some oj∧e∈oj.after∧Region.binds .any e=true∧(e.on=i∨tb (As m i l k b) e.on=true)
 |[],k,b,_,h,j,hj=>by
  obtain⟨h1,h2,oj,e,h3,h4,h5,h6⟩:=h j hj;exact⟨h1,h2,oj,e,h3,h4,h5,h6.imp id fun⟨_,h7,h8⟩=>h8▸h7⟩
 |o::r,k,b,hl,h,j,hj=>by
  have hr:∀n o',r[n]? =some o'->ops[k+1+n]? =some o':=fun n o' hn=>by
   have:=hl (n+1) o' (by simpa using hn)
   rwa [show k+(n+1)=k+1+n by omega]at this
  unfold As at hj ⊢
  cases hc:((!tb m k&& !Nat.beq k i)&&o.after.toList.any (fun e=>Region.binds .any e&&(Nat.beq e.on i||tb b e.on)))with
  |false=>
   rw[hc]at hj;exact nL r (k+1) b hr h j hj
  |true=>
   rw[hc]at hj;refine nL r (k+1) (b ||| (1 <<< k)) hr (fun j hj=>?_) j hj;rw[ED,GM,Bool.or_eq_true]at hj;rcases hj with hj|hj
   ·obtain⟨h1,h2,oj,e,h3,h4,h5,h6⟩:=h j hj;refine⟨h1,h2,oj,e,h3,h4,h5,h6.imp id fun⟨b2,h7,h8⟩=>⟨_,?_,rfl⟩⟩;rw[ED,<-h8,h7];rfl
   ·have hj:=eI hj;subst hj;simp only[a9,Bool.not_eq_true',List.any_eq_true]at hc;obtain⟨⟨h1,h2⟩,e,he,h3,h4⟩:=hc;refine⟨h1,nK.1 h2,o,e,by have:=hl 0 o (by simp);simpa using this,by simpa using he,h3,?_⟩;rw[Bool.or_eq_true]at h4;exact h4.imp eI fun h5=>⟨_,by rw[ED,h5];rfl,rfl⟩
theorem yV{ops:Array Oper}{m i:Nat}{oi:Oper}{b:Nat}:∀(l:List Oper) (k:Nat),Ha ops m i oi b l k=true->∀n oj,l[n]? =some oj->k+n≠i->tb m (k+n)=false->tb b (k+n)=false->oi.apart ops oj=true∧(GL oi.op=true∨pE oj=false)
 |[],_,_,n,oj,hn,_,_,_=>by simp at hn
 |o::r,k,h,n,oj,hn,h1,h2,h3=>by
  unfold Ha at h;rw[a9]at h
  cases n with
  |zero=>
   rw[List.getElem?_cons_zero]at hn;injection hn with hn;subst hn;rw[bw]at h1 h2 h3;rw[nK.2 h1,h2,h3]at h;simpa using h.1
  |succ n=>
   rw[List.getElem?_cons_succ]at hn;rw[show k+(n+1)=k+1+n by omega]at h1 h2 h3;exact yV r (k+1) h.2 n oj hn h1 h2 h3
theorem yW{ops:Array Oper}{i:Nat}{oi:Oper}(h:EC ops (iS lx.toList 0) Pd i oi=true)(hs:lx.size=ops.size):∃yX:Nat->Prop,
  (∀j,yX j->∃oj e,ops[j]? =some oj∧e∈oj.after∧Region.binds .any e=true∧(e.on=i∨yX e.on))∧(∀j,yX j->lx.getD j false=false)∧(∀j∈Pd,¬yX j)∧
  ∀j oj,ops[j]? =some oj->j≠i->lx.getD j true=false->¬yX j->oi.apart ops oj=true∧(GL oi.op=true∨pE oj=false):=by
 unfold EC Mq at h;rw[a9]at h;have hm:=yA lx;have hb:=nL (ops:=ops) (m:=iS lx.toList 0) (i:=i) ops.toList 0 0 (fun n o hn=>by rw[aR];rwa [bA]at hn) (fun j hj=>by rw[tD]at hj;cases hj);generalize As (iS lx.toList 0) i ops.toList 0 0=b at*
 refine⟨fun j=>tb b j=true,fun j hj=>(hb j hj).2.2,fun j hj=>(hm j).symm.trans (hb j hj).1,fun j hj hk=>?_,fun j oj Qu Oy hl hk=>?_⟩
 ·have:=List.all_eq_true.1 h.1 j hj;rw[hk]at this;cases this
 ·have hj:=(ah.1 Qu).1;exact yV ops.toList 0 h.2 j oj (by rw[bA];exact Qu) (by omega) (by rw[aR,hm,nJ (by omega) false true];exact hl) (by rw[aR];simpa using hk)
def EG(m:Nat):List Oper->Nat->List Nat
 |[],_=>[]
 |o::r,j=>match !tb m j&&o.after.toList.all (fun e=> !Region.binds .any e||tb m e.on)with
  |true=>j::EG m r (j+1)
  |false=>EG m r (j+1)
def sm(n m i:Nat):Nat:=match Nat.blt i n with
 |true=>m ||| (1 <<< i)
 |false=>m
def lsm(n:Nat)(m:Nat):List Nat->Nat
 |[]=>m
 |i::r=>lsm n (sm n m i) r
def GN(ops:Array Oper)(n:Nat):List It->Nat->List Nat->Bool
 |[],m,Pd=>(EG m ops.toList 0).isEmpty&&Pd.isEmpty
 | .p i::r,m,Pd=>match ops[i]? with
  |none=>false
  |some o=>Jg o.op&&o.guard.isNone&&(match o.dst with
     |some d=> !(o.looksAt ops).contains d
     |none=>false)&&(Nat.blt i n&& !tb m i)&&Pd.all (fun j=> !Nat.beq j i)&&
    Pd.all (fun j=>IS ops o j&&(match ops[j]? with
     |some oj=>oj.apart ops o
     |none=>false))&&GN ops n r m (i::Pd)
 | .x i::r,m,Pd=>match ops[i]? with
  |none=>false
  |some o=>(o.guard.isNone||Pd.isEmpty)&&(EG m ops.toList 0).contains i&&
    Pd.all (fun j=>Nat.beq j i||IS ops o j)&&
    (match sw o.op with
     |true=>EC ops m Pd i o
     |false=>(!pE o||Pd.isEmpty)&&(EG (lsm n m (Pd.filter fun j=> !Nat.beq j i)) ops.toList 0).all (fun j=>Nat.beq j i))&&
    GN ops n r (sm n m i) (Pd.filter fun j=> !Nat.beq j i)
theorem Hb{ops:Array Oper}{lx:Array Bool}{m:Nat}(hR:Rm lx m)(hs:lx.size=ops.size):∀(l:List Oper) (k:Nat),(∀n,n<l.length->ops[k+n]? =l[n]?)->k+l.length<=ops.size->
  EG m l k=(List.range' k l.length).filter fun i=> !lx.getD i true&&((ops[i]?).map (·.after.all fun e=> !Region.binds .any e||lx.getD e.on false)).getD false
 |[],_,_,_=>rfl
 |o::r,k,h,hk=>by
  rw[List.length_cons]at hk
  have ih:=Hb hR hs r (k+1) (fun n hn=>by
   have:=h (n+1) (by simpa using hn)
   rw[show k+1+n=k+(n+1) by omega,this,List.getElem?_cons_succ]) (by omega)
  have h0:ops[k]? =some o:=by have:=h 0 (by simp);simpa using this
  rw[List.length_cons,List.range'_succ,List.filter_cons,<-ih];have e:(!lx.getD k true&&((ops[k]?).map (·.after.all fun e=> !Region.binds .any e||lx.getD e.on false)).getD false)=(!tb m k&&o.after.toList.all fun e=> !Region.binds .any e||tb m e.on):=by
   rw[h0,hR k,nJ (by omega) true false,Option.map_some,Option.getD_some,Array.all_toList];simp only[hR _]
  rw[e,EG]
  cases (!tb m k&&o.after.toList.all fun e=> !Region.binds .any e||tb m e.on)<;>rfl
theorem GO{ops:Array Oper}(hR:Rm lx m)(hs:lx.size=ops.size):EG m ops.toList 0=Region.ready .any ops lx:=by
 rw[Hb hR hs ops.toList 0 (fun n _=>by rw[aR,bA]) (by simp)];unfold Region.ready;rw[List.range_eq_range',Array.length_toList]
theorem Rm.set(hR:Rm lx m)(i:Nat):Rm (lx.setIfInBounds i true) (sm lx.size m i):=fun j=>by
 unfold sm;rw[ai,Array.getElem?_setIfInBounds]
 cases h:Nat.blt i lx.size with
 |true=>
  have h:=Nat.le_of_ble_eq_true h;show tb (m ||| (1 <<< i)) j=_;rw[ED,GM];by_cases Pm:i=j
  ·rw[if_pos Pm,if_pos (by omega),Pm,Nat.beq_refl,Bool.or_true];rfl
  ·rw[aL Pm,nK.2 (Ne.symm Pm),Bool.or_false,hR,ai]
 |false=>
  show tb m j=_;have h:¬i<lx.size:=fun h2=>by rw[show Nat.blt i lx.size=true from Nat.ble_eq_true_of_le h2]at h;cases h
  by_cases Pm:i=j
  ·rw[if_pos Pm,aL h,hR,ai,<-Pm,Array.getElem?_eq_none (by omega)]
  ·rw[aL Pm,hR,ai]
theorem Ji:∀(r:List Nat) (lx:Array Bool),(EB lx r).size=lx.size
 |[],_=>rfl
 |i::r,lx=>by unfold EB;rw[Ji r,bO]
theorem Rm.EB{n:Nat}:∀(r:List Nat) (lx:Array Bool) (m:Nat),lx.size=n->Rm lx m->Rm (EB lx r) (lsm n m r)
 |[],_,_,_,h=>h
 |i::r,lx,m,hn,h=>by
  unfold Go.Sx.EB lsm;exact Rm.EB r _ _ (by rw[bO];exact hn) (hn▸h.set i)
theorem Cm{ops:Array Oper}:∀(π:List It) (lx:Array Bool) (m:Nat) (Pd:List Nat),lx.size=ops.size->Rm lx m->GN ops ops.size π m Pd=pO ops π lx Pd
 |[],lx,m,Pd,hs,h=>by unfold GN pO;rw[GO h hs]
 | .p i::r,lx,m,Pd,hs,h=>by
  unfold GN pO
  cases ho:ops[i]? with
  |none=>rfl
  |some o=>
   have hi:=(ah.1 ho).1;simp only[Cm r lx m (i::Pd) hs h,h i,nJ (show i<lx.size by omega) true false,show Nat.blt i ops.size=true from Nat.ble_eq_true_of_le hi,Bool.true_and]
 | .x i::r,lx,m,Pd,hs,h=>by
  unfold GN pO
  cases ho:ops[i]? with
  |none=>rfl
  |some o=>
   obtain rfl:=h.eq (yA lx);have h1:=Cm r (lx.setIfInBounds i true) (sm ops.size (iS lx.toList 0) i) (Pd.filter fun j=> !Nat.beq j i) (by rw[bO];exact hs) (hs▸h.set i);have h2:=GO (Rm.EB (n:=ops.size) (Pd.filter fun j=> !Nat.beq j i) lx (iS lx.toList 0) hs h) (by rw[Ji];exact hs);simp only[h1,h2,GO h hs]
theorem eH{ops:Array Oper}:j∈Region.ready .any ops la↔
  la[j]? =some false∧∃o,ops[j]? =some o∧∀e∈o.after,Region.binds .any e=true->la[e.on]? =some true:=by
 rw[mem_ready];have h1:la.getD j true=false↔la[j]? =some false:=by
  rw[ai]
  cases la[j]? with
  |none=>simp
  |some b=>simp
 have h2:∀k,la.getD k false=true↔la[k]? =some true:=fun k=>by
  rw[ai]
  cases la[k]? with
  |none=>simp
  |some b=>simp
 simp only[h1,h2]
theorem pQ{i:Nat}:(la.setIfInBounds i true)[j]? =some true↔la[j]? =some true∨(j=i∧j<la.size):=by
 rw[Array.getElem?_setIfInBounds];split
 ·rename_i h;subst h;by_cases hs:i<la.size
  ·simp[hs]
  ·simp[hs]
 ·rename_i h;simp[Ne.symm h]
theorem EH:∀(Pd:List Nat) (la:Array Bool),(EB la Pd).size=la.size
 |[],_=>rfl
 |i::r,la=>by simp[EB,EH r]
theorem yY:∀(Pd:List Nat) (la:Array Bool) (j:Nat),(EB la Pd)[j]? =some true↔la[j]? =some true∨(j∈Pd∧j<la.size)
 |[],_,_=>by simp[EB]
 |i::r,la,j=>by
  rw[EB,yY r,pQ];simp only[bO,List.mem_cons]
  constructor
  ·rintro((h|⟨h,hs⟩)|⟨h,hs⟩)
   ·exact .inl h
   ·exact .inr ⟨.inl h,hs⟩
   ·exact .inr ⟨.inr h,hs⟩
  ·rintro(h|⟨h|h,hs⟩)
   ·exact .inl (.inl h)
   ·exact .inl (.inr ⟨h,hs⟩)
   ·exact .inr ⟨h,hs⟩
def Lz(la:Array Bool):Nat:=la.toList.countP (fun b=> !b)
theorem jU{i:Nat}(h:la[i]? =some false):Lz (la.setIfInBounds i true)+1=Lz la:=by
 obtain⟨hi,he⟩:=ah.1 h;have Se:i<la.toList.length:=by simpa using hi
 have Ot:0<la.toList.countP (fun b=> !b):=List.countP_pos_iff.2 ⟨false,by
  have:la[i]∈la:=Array.getElem_mem hi;rw[he]at this
  simpa using this,rfl⟩
 unfold Lz;rw[Array.toList_setIfInBounds,List.countP_set Se];simp only[Array.getElem_toList,he]
 simp only[Bool.not_false,if_true,Bool.not_true,Bool.false_eq_true,if_false,bw]
 exact Nat.sub_add_cancel Ot
theorem rz:∀{l:Env} {u:Nat} {k:Env->Prop},EA l u k->∃l',k l'∧fM l' u=none∧∀t v,fM l' t=some v->t≠u∧fM l t=some v
 |[],u,k,h=>⟨[],h,rfl,fun t v h=>by cases h⟩
 |(t0,v0)::r,u,k,h=>by
  unfold EA at h;split at h
  ·rename_i hb;have hb:=eI hb;obtain⟨l',h1,h2,h3⟩:=rz h;refine⟨l',h1,h2,fun t v hv=>⟨(h3 t v hv).1,?_⟩⟩;rw[eS,aL (fun e=>(h3 t v hv).1 (e.symm.trans hb))];exact(h3 t v hv).2
  ·rename_i hb;have OH:t0≠u:=fun e=>by subst e;rw[Nat.beq_refl]at hb;cases hb
   obtain⟨l',h1,h2,h3⟩:=rz h;refine⟨_,h1,?_,fun t v hv=>?_⟩
   ·rw[eS,aL OH];exact h2
   ·rw[eS]at hv ⊢;split at hv
    ·rename_i e;subst e;exact⟨OH,by simpa using hv⟩
    ·rename_i e;rw[aL e];exact h3 t v hv
theorem gA:∀{all:List Oper} {i:Nat} {k:Oper->Prop},nm all i k->∃o,all[i]? =some o∧k o
 |[],_,_,h=>h.elim
 |o::_,0,_,h=>⟨o,rfl,h⟩
 |_::r,n+1,_,h=>by obtain⟨o,h1,h2⟩:=gA (all:=r) h;exact⟨o,by simpa using h1,h2⟩
section
variable{P:Program}{τ:nH}{ops:Array Oper}{B n nx:Nat}{l:Env}{H:Hp}{iv:Iv}{w w':World}{O:Nat->dg}{a:Act}
structure Lu(P:Program)(ops:Array Oper)(n B:Nat)(Pd:List Nat)(E:List (Nat×Nat))(lx la:Array Bool)(l:Env)(H:Hp)(nx:Nat)(iv:Iv)(w:World)(O:Nat->dg)(a:Act)(w':World):Prop where
 sat:Sat n l H nx iv B w O a w'
 Lv:lx.size=ops.size
 MA:la.size=ops.size
 la:∀j,la[j]? =some true↔lx[j]? =some true∨∃g,(j,g)∈E
 IT:∀j g,(j,g)∈E->j∈Pd
 pd:∀j∈Pd,lx[j]? =some false∧∃o d mk obj,ops[j]? =some o∧Jg o.op=true∧o.guard=none∧(o.dst=some d∧d∉o.looksAt ops)∧AL P o a mk obj∧fM l d=none∧
  ∀g,(j,g)∈E->a.tmps[d]? =some (mk g)∧w'.heap[g]? =some obj
 eg:∀j g,(j,g)∈E->B<=g∧(∀id b,dC H id=some b->(O id).nil=false->(O id).g≠g)∧∀lo hi,(lo,hi)∈iv->¬(lo<=g∧g<hi)
 inj:∀j g j',(j,g)∈E->(j',g)∈E->j=j'
 ap:∀j∈Pd,∀j'∈Pd,j≠j'->∀o o',ops[j]? =some o->ops[j']? =some o'->o.apart ops o'=true
theorem Jj{l:Env}{u:Nat}(h:∀t v,fM l' t=some v->t≠u∧fM l t=some v){d:Nat}(hd:fM l d=none):fM l' d=none:=by
 cases hg:fM l' d with
 |none=>rfl
 |some v=>have:=(h d v hg).2;rw[hd]at this;cases this
theorem Oper.B3{o oj:Oper}(ha:o.apart ops oj=true)(hs:∀cs b,oj.op≠ .select cs b)(h:AL P oj a mk obj):AL P oj (a.put o.dst u) mk obj:=by
 intro w;rw[execOp_put (ops:=ops) oj hs a o.dst u (Go.Oper.apart_spec ha).1];exact h w
theorem qe(OH:d≠some t)(h:a.tmps[t]? =some v):(a.put d u).tmps[t]? =some v:=by
 cases d with
 |none=>exact h
 |some d=>
  have:d≠t:=fun e=>OH (by rw[e]);simpa [Act.put,Array.getElem?_setIfInBounds_ne this]using h
theorem kG{w:World}(h:w.heap[g]? =some obj):g<w.heap.size:=(ah.1 h).1
theorem Ext.alloc(w:World)(obj:Obj):Ext w (w.alloc obj):=
 ⟨rfl,rfl,rfl,by simp,fun k hk=>heap_alloc_old _ _ hk⟩
variable{Pd:List Nat}{E:List (Nat×Nat)}{lx la:Array Bool}
theorem Lu.step(s:Lu P ops n B Pd E lx la l H nx iv w O a w')(OV:∀(j:Nat) (o:Oper) cs b,ops[j]? =some o->o.op≠ .select cs b){i:Nat}{o:Oper}(_hi:ops[i]? =some o)(VF:∀g,(i,g)∉E)
  (Qv:∀j∈Pd,j≠i->∀oj,ops[j]? =some oj->o.apart ops oj=true)
  (sat':Sat n l' H' OL iv' B w2 ρ' (a.put o.dst u) w3)
  (hl:∀j∈Pd,j≠i->∀d,fM l d=none->o.dst≠some d->fM l' d=none) (SH:∀j∈Pd,j≠i->Ext w' w3)
  (heg:∀g,g<w'.heap.size->(∀id b,dC H id=some b->(O id).nil=false->(O id).g≠g)->(∀lo hi,(lo,hi)∈iv->¬(lo<=g∧g<hi))->(∃j∈Pd,j≠i)->
   (∀id b,dC H' id=some b->(ρ' id).nil=false->(ρ' id).g≠g)∧(∀lo hi,(lo,hi)∈iv'->¬(lo<=g∧g<hi))):
  Lu P ops n B (Pd.filter fun j=> !Nat.beq j i) E (lx.setIfInBounds i true) (la.setIfInBounds i true) l' H' OL iv' w2 ρ' (a.put o.dst u) w3:=by
 have memf:∀j,j∈(Pd.filter fun j=> !Nat.beq j i)↔j∈Pd∧j≠i:=fun j=>by
  simp only[List.mem_filter,Bool.not_eq_true',nK]
 have hEi:∀j g,(j,g)∈E->j≠i:=fun j g h e=>VF g (e▸h);refine⟨sat',by simp[s.Lv],by simp[s.MA],fun j=>?_,fun j g h=>(memf j).2 ⟨s.IT j g h,hEi j g h⟩,fun j hj=>?_,fun j g h=>?_,s.inj,fun j hj j' hj'=>s.ap j ((memf j).1 hj).1 j' ((memf j').1 hj').1⟩
 ·rw[pQ,pQ,s.la,s.MA,s.Lv];constructor
  ·rintro((h|h)|h)
   ·exact .inl (.inl h)
   ·exact .inr h
   ·exact .inl (.inr h)
  ·rintro((h|h)|h)
   ·exact .inl (.inl h)
   ·exact .inr h
   ·exact .inl (.inr h)
 ·obtain⟨hj,Oy⟩:=(memf j).1 hj;obtain⟨h0,oj,d,mk,obj,h1,h2,h3,⟨h4,RC⟩,h5,h6,h7⟩:=s.pd j hj;have hapj:=Qv j hj Oy oj h1;have OH:o.dst≠some d:=fun e=>(Go.Oper.apart_spec hapj).2.1 d e h4;refine⟨?_,oj,d,mk,obj,h1,h2,h3,⟨h4,RC⟩,Oper.B3 hapj (fun cs b=>OV j oj cs b h1) h5,hl j hj Oy d h6 OH,fun g hg=>⟨qe OH (h7 g hg).1,?_⟩⟩
  ·rw[Array.getElem?_setIfInBounds_ne (Ne.symm Oy)];exact h0
  ·rw[(SH j hj Oy).block g (kG (h7 g hg).2)];exact(h7 g hg).2
 ·have hj:=s.IT j g h;obtain⟨h0,oj,d,mk,obj,h1,h2,h3,⟨h4,RC⟩,h5,h6,h7⟩:=s.pd j hj;obtain⟨e1,e2,e3⟩:=s.eg j g h;exact⟨e1,heg g (kG (h7 g h).2) e2 e3 ⟨j,hj,hEi j g h⟩⟩
theorem Lu.early(s:Lu P ops n B Pd E lx la l H nx iv w O a w')(OI:∀(j:Nat) o,ops[j]? =some o->∀d,o.dst=some d->d<n)
  (OV:∀(j:Nat) (o:Oper) cs b,ops[j]? =some o->o.op≠ .select cs b) (hj:j∈Pd) (Tt:la[j]? =some false) {K:Act->World->Prop}
  (h:∀E' a2 w2,Ext w' w2->Lu P ops n B Pd E' lx (la.setIfInBounds j true) l H nx iv w O a2 w2->K a2 w2):wpOp P ops Q j K a w':=by
 obtain⟨h0,o,d,mk,obj,h1,h2,h3,⟨h4,RC⟩,h5,h6,h7⟩:=s.pd j hj;have hw:Region.wanted o (yielded ops a.tmps)=true:=by simp[Region.wanted,h3]
 unfold wpOp;simp only[h1,hw,if_true]
 refine .inl ?_;unfold Oper.wp;rw[h5 w'];simp only[Oper.upon]
 have hd:=OI j o h1 d h4;have hnE:∀g,(j,g)∉E:=fun g hg=>by
  have:=(s.la j).2 (.inr ⟨g,hg⟩);rw[Tt]at this;cases this
 refine h ((j,w'.heap.size)::E) _ _ (Ext.alloc _ _) ⟨?_,s.Lv,by simp[s.MA],fun k=>?_,fun k g hk=>?_,fun k hk=>?_,fun k g hk=>?_,fun k g k' hk hk'=>?_,s.ap⟩
 ·refine⟨s.sat.rel.ext (Ext.alloc _ _),?_,?_,fun t v hv=>?_,s.sat.sc⟩
  ·rw[h4];simp[Act.put,s.sat.size]
  ·rw[h4];exact s.sat.defers
  ·refine qe (fun e=>?_) (s.sat.env t v hv);rw[h4]at e;injection e with e;subst e;rw[h6]at hv;cases hv
 ·rw[pQ,s.la];have Od:j<la.size:=(ah.1 Tt).1;constructor
  ·rintro((h|⟨g,h⟩)|⟨rfl,_⟩)
   ·exact .inl h
   ·exact .inr ⟨g,by simp[h]⟩
   ·exact .inr ⟨_,aG ..⟩
  ·rintro(h|⟨g,h⟩)
   ·exact .inl (.inl h)
   ·rcases List.mem_cons.1 h with h|h
    ·injection h with e1 e2;exact .inr ⟨e1,by rw[e1];exact Od⟩
    ·exact .inl (.inr ⟨g,h⟩)
 ·rcases List.mem_cons.1 hk with hk|hk
  ·injection hk with e1 e2;rw[e1];exact hj
  ·exact s.IT k g hk
 ·obtain⟨g0,ok,dk,mkk,objk,g1,g2,g3,⟨g4,gself⟩,g5,g6,g7⟩:=s.pd k hk;by_cases hkj:k=j
  ·subst hkj;rw[h1]at g1;injection g1 with g1;subst g1;rw[h4]at g4;injection g4 with g4;subst g4;refine⟨g0,o,d,mk,obj,h1,h2,h3,⟨h4,RC⟩,?_,h6,fun g hg=>?_⟩
   ·intro ww;rw[execOp_put (ops:=ops) o (fun cs b=>OV k o cs b h1) a o.dst _ (fun d' Vr=>by rw[h4]at Vr;injection Vr with Vr;subst Vr;exact RC)];exact h5 ww
   ·rcases List.mem_cons.1 hg with hg|hg
    ·injection hg with e1 e2;subst e2;refine⟨?_,heap_alloc_new _ _⟩;rw[h4];simp[Act.put,s.sat.size,hd]
    ·exact absurd hg (hnE g)
  ·have Qv:=s.ap j hj k hk (Ne.symm hkj) o ok h1 g1;have OH:o.dst≠some dk:=fun e=>(Go.Oper.apart_spec Qv).2.1 dk e g4;refine⟨g0,ok,dk,mkk,objk,g1,g2,g3,⟨g4,gself⟩,Oper.B3 Qv (fun cs b=>OV k ok cs b g1) g5,g6,fun g hg=>?_⟩;rcases List.mem_cons.1 hg with hg|hg
   ·injection hg with e1 e2;exact absurd e1 hkj
   ·refine⟨qe OH (g7 g hg).1,?_⟩;rw[heap_alloc_old _ _ (kG (g7 g hg).2)];exact(g7 g hg).2
 ·rcases List.mem_cons.1 hk with hk|hk
  ·injection hk with e1 e2;subst e2;refine⟨aZ s.sat.rel.base s.sat.rel.size,fun id b hb hn he=>?_,fun lo hi hm hc=>?_⟩
   ·have:=(s.sat.rel.low id b hb hn).2;omega
   ·have:=s.sat.rel.qd lo hi hm;have:=s.sat.rel.size;omega
  ·exact s.eg k g hk
 ·have old:∀k' g',(k',g')∈E->g'<w'.heap.size:=fun k' g' h=>by
   obtain⟨_,_,_,_,_,_,_,_,_,_,_,h7⟩:=s.pd k' (s.IT k' g' h);exact kG (h7 g' h).2
  rcases List.mem_cons.1 hk with hk|hk<;>rcases List.mem_cons.1 hk' with hk'|hk'
  ·injection hk with e1 e2;injection hk' with e3 e4;rw[e1,e3]
  ·injection hk with e1 e2;have:=old _ _ hk';omega
  ·injection hk' with e1 e2;have:=old _ _ hk;omega
  ·exact s.inj k g k' hk hk'
theorem Lu.B4(s:Lu P ops n B Pd E lx la l H nx iv w O a w'){i:Nat}{o:Oper}(hi:ops[i]? =some o)(hg:(i,g)∈E){b:jr}{v:SV}
  (hb:b.scopd nx) (hv:v.sc (nx+1)) (TU:∀g,v.den (gO O nx ⟨g,0,false⟩)=mk g) (Pn:∀g w2,w2.heap[g]? =some obj->b.fits O ⟨g,0,false⟩ w2) (UB:AL P o a mk obj)
  {K:Env->Prop} (hK:EI o.dst v l K) (_hok:∀d,o.dst=some d->d<n) (Qv:∀j∈Pd,j≠i->∀oj,ops[j]? =some oj->o.apart ops oj=true):
  ∃l',K l'∧Lu P ops n B (Pd.filter fun j=> !Nat.beq j i) (E.filter fun e=> !Nat.beq e.1 i) (lx.setIfInBounds i true) la l' ((nx,b)::H) (nx+1) iv w (gO O nx ⟨g,0,false⟩) a w':=by
 obtain⟨h0,o',d,mk',obj',h1,h2,h3,⟨h4,RC⟩,h5,h6,h7⟩:=s.pd i (s.IT i g hg);rw[hi]at h1;injection h1 with h1;subst h1;obtain⟨rfl,rfl⟩:=UB.uniq h5;obtain⟨ht,hh⟩:=h7 g hg;obtain⟨e1,e2,e3⟩:=s.eg i g hg;have memf:∀j,j∈(Pd.filter fun j=> !Nat.beq j i)↔j∈Pd∧j≠i:=fun j=>by
  simp only[List.mem_filter,Bool.not_eq_true',nK]
 have memE:∀j k,(j,k)∈(E.filter fun e=> !Nat.beq e.1 i)↔(j,k)∈E∧j≠i:=fun j k=>by
  simp only[List.mem_filter,Bool.not_eq_true',nK]
 have Pa:∀id b,dC H id=some b->gO O nx ⟨g,0,false⟩ id=O id:=fun id b h=>(gC id (s.sat.rel.keys id b h)).symm;have r:=s.sat.rel;have Ol:Rel ((nx,b)::H) (nx+1) iv B w (gO O nx ⟨g,0,false⟩) w':=by
  refine Rel.mk' r.os r.tape r.output r.size r.base r.qd ?_ ?_ ?_ ?_ ?_ ?_ ?_
  ·intro id b' h;rw[c9]at h;split at h
   ·omega
   ·have:=r.keys id b' h;omega
  ·intro id b' h;rw[c9]at h;split at h
   ·rename_i e;subst e;injection h with h;subst h;rw[eL];exact jr.gi (Pn g w' hh) (fun id Om=>gC id Om) hb (fun _ _=>rfl)
   ·rw[Pa id b' h];exact jr.gi (r.fits h) (fun id Om=>gC id Om) (r.scopd h) (fun _ _=>rfl)
  ·intro id b' h;rw[c9]at h;split at h
   ·injection h with h;subst h;exact jr.iX (Nat.le_succ _) hb
   ·exact jr.iX (Nat.le_succ _) (r.scopd h)
  ·intro id id' c c' h h' hd Vr hn hn' he;rw[c9]at h h';split at h<;>split at h'
   ·rename_i x y;rw[<-x,<-y]
   ·rename_i x y;subst x;rw[eL,Pa _ _ h']at he;rw[Pa _ _ h']at hn';exact absurd he.symm (e2 _ _ h' hn')
   ·rename_i x y;subst y;rw[eL,Pa _ _ h]at he;rw[Pa _ _ h]at hn;exact absurd he (e2 _ _ h hn)
   ·rw[Pa _ _ h,Pa _ _ h']at he;rw[Pa _ _ h]at hn;rw[Pa _ _ h']at hn';exact r.inj id id' c c' h h' hd Vr hn hn' he
  ·intro id c h hn;rw[c9]at h;split at h
   ·rename_i e;subst e;rw[eL];exact⟨e1,kG hh⟩
   ·rw[Pa _ _ h]at hn ⊢;exact r.low id c h hn
  ·intro k hk OH;refine r.uh k hk fun id c h hn=>?_;have Od:=r.keys id c h;have:=OH id c (by rw[c9,aL (by omega)];exact h) (by rw[Pa _ _ h];exact hn)
   rwa [Pa _ _ h]at this
  ·intro lo hi hm id c h hn;rw[c9]at h;split at h
   ·rename_i e;subst e;rw[eL];exact e3 lo hi hm
   ·rw[Pa _ _ h]at hn ⊢;exact r.kP lo hi hm id c h hn
 have sat1:Sat n l ((nx,b)::H) (nx+1) iv B w (gO O nx ⟨g,0,false⟩) a w':=s.sat.next Ol (Nat.le_succ _) (fun id Om=>gC id Om)
 rw[h4]at hK;refine⟨_,hK,?_⟩;have sat2:Sat n ((d,v)::l) ((nx,b)::H) (nx+1) iv B w (gO O nx ⟨g,0,false⟩) a w':=by
  refine⟨sat1.rel,sat1.size,sat1.defers,fun t u hu=>?_,fun t u hu=>?_⟩
  ·rw[eS]at hu;split at hu
   ·rename_i e;subst e;injection hu with hu;subst hu;rw[TU];exact ht
   ·exact sat1.env t u hu
  ·rw[eS]at hu;split at hu
   ·injection hu with hu;subst hu;exact hv
   ·exact sat1.sc t u hu
 have hli:i<lx.size:=(ah.1 h0).1;refine⟨sat2,by simp[s.Lv],s.MA,fun j=>?_,fun j k h=>?_,fun j hj=>?_,fun j k h=>?_,fun j k j' h h'=>s.inj j k j' ((memE j k).1 h).1 ((memE j' k).1 h').1,fun j hj j' hj'=>s.ap j ((memf j).1 hj).1 j' ((memf j').1 hj').1⟩
 ·rw[s.la,pQ];constructor
  ·rintro(h|⟨k,h⟩)
   ·exact .inl (.inl h)
   ·by_cases Oy:j=i
    ·exact .inl (.inr ⟨Oy,Oy▸hli⟩)
    ·exact .inr ⟨k,(memE j k).2 ⟨h,Oy⟩⟩
  ·rintro((h|⟨rfl,h⟩)|⟨k,h⟩)
   ·exact .inl h
   ·exact .inr ⟨g,hg⟩
   ·exact .inr ⟨k,((memE j k).1 h).1⟩
 ·exact(memf j).2 ⟨s.IT j k ((memE j k).1 h).1,((memE j k).1 h).2⟩
 ·obtain⟨hj,Oy⟩:=(memf j).1 hj;obtain⟨g0,oj,dj,mkj,objj,g1,g2,g3,⟨g4,gself⟩,g5,g6,g7⟩:=s.pd j hj;have OH:d≠dj:=fun e=>(Go.Oper.apart_spec (Qv j hj Oy oj g1)).2.1 d h4 (by rw[g4,e]);refine⟨by rw[Array.getElem?_setIfInBounds_ne (Ne.symm Oy)];exact g0,oj,dj,mkj,objj,g1,g2,g3,⟨g4,gself⟩,g5,?_,fun k hk=>g7 k ((memE j k).1 hk).1⟩;rw[eS,aL OH];exact g6
 ·obtain⟨h,Oy⟩:=(memE j k).1 h;obtain⟨k1,k2,k3⟩:=s.eg j k h;refine⟨k1,fun id c hc hn=>?_,k3⟩;rw[c9]at hc;split at hc
  ·rename_i e;subst e;rw[eL];intro e;simp only at e;subst e;exact Oy (s.inj j _ i h hg)
  ·rw[Pa _ _ hc]at hn ⊢;exact k2 id c hc hn
end
end Go.Sx
