/- A part of the proof: texts Sx7 to Sx11. Each tells its conditions in its theorems. -/
import Derived.OrdersHeld
import Derived.Test.YtkdcaknoaeicdaaGreatP0
namespace Go.Sx
open Go
variable{args:(Nat->df)->Array Value}{la lx:Array Bool}{op:BinOp}{dr pu:Bool}{R:Ending->World->Prop}{l':Env}{Q:Exit->Act->World->Prop}{H':Hp}{k:IntKind}{iv':Iv}{Pd:List Nat}{g j m nx' t:Nat}{mk:Nat->Value}{ρ':Nat->df}{obj:Obj}{d:Option Tmp}{K:SV->Hp->Nat->Iv->World->Prop}{u v:Value}{w w2 w3:World}
section
variable{P:Program}{τ:mL}{B n nx:Nat}{l:Env}{H:Hp}{iv:Iv}{w w':World}{O:Nat->df}{a:Act}
theorem o0{k':IntKind}(h:oU k k'=true):k=k':=by
 cases k<;>cases k'<;>first|rfl|(simp [oU]at h)
theorem vv(op:BinOp)(t:TypeId)(x y:Operand)(k k':IntKind)(i j:Int)(w:World):(eqGuard op t x y (.int k i) (.int k' j)).run P w= .ok () w:=by
 unfold eqGuard;cases op<;>simp
theorem mR(op:BinOp)(t:TypeId)(x y:Operand)(i j:Bool)(w:World):(eqGuard op t x y (.bool i) (.bool j)).run P w= .ok () w:=by
 unfold eqGuard;cases op<;>simp
theorem iu(op:BinOp)(t:TypeId)(x y:Operand)(i j:ByteArray)(w:World):(eqGuard op t x y (.string i) (.string j)).run P w= .ok () w:=by
 unfold eqGuard;cases op<;>simp
theorem GZ{i j:Int}{t:TypeId}{K:Value->Prop}(h:GU op k i j K)(k':IntKind)(hk:(op= .shl∨op= .shr)∨k=k'):
  ∃r,K r∧∀w:World,(binOp op t (.int k i) (.int k' j)).run P w= .ok r w:=by
 have hkk:op≠ .shl->op≠ .shr->k=k':=fun h1 h2=>by rcases hk with(h3|h3)|h3<;>simp_all
 cases op<;>simp only[GU]at h
 case shl=>obtain⟨h0,r,h1,h2⟩:=h;refine⟨_,h2,fun w=>?_⟩;subst h1;simp[binOp,Op.shift,show ¬j<0 by omega]
 case shr=>obtain⟨h0,r,h1,h2⟩:=h;refine⟨_,h2,fun w=>?_⟩;subst h1;simp[binOp,Op.shift,show ¬j<0 by omega]
 all_goals (obtain rfl:=hkk (by simp) (by simp))
 case quo=>obtain⟨h0,r,h1,h2⟩:=h;refine⟨_,h2,fun w=>?_⟩;subst h1;simp[binOp,Op.intDiv,h0]
 case rem=>obtain⟨h0,r,h1,h2⟩:=h;refine⟨_,h2,fun w=>?_⟩;subst h1;simp[binOp,Op.intDiv,h0]
 case eql=>exact⟨_,h,fun w=>by simp[binOp,Op.intCmp]⟩
 case neq=>exact⟨_,h,fun w=>by simp[binOp,Op.intCmp]⟩
 case lss=>exact⟨_,h,fun w=>by simp[binOp,Op.intCmp]⟩
 case leq=>exact⟨_,h,fun w=>by simp[binOp,Op.intCmp]⟩
 case gtr=>exact⟨_,h,fun w=>by simp[binOp,Op.intCmp]⟩
 case geq=>exact⟨_,h,fun w=>by simp[binOp,Op.intCmp]⟩
 case add=>obtain⟨r,h1,h2⟩:=h;refine⟨_,h2,fun w=>?_⟩;subst h1;simp[binOp,Op.intArith]
 case sub=>obtain⟨r,h1,h2⟩:=h;refine⟨_,h2,fun w=>?_⟩;subst h1;simp[binOp,Op.intArith]
 case mul=>obtain⟨r,h1,h2⟩:=h;refine⟨_,h2,fun w=>?_⟩;subst h1;simp[binOp,Op.intArith]
 case and=>obtain⟨r,h1,h2⟩:=h;refine⟨_,h2,fun w=>?_⟩;subst h1;simp[binOp,Op.intBits]
 case or=>obtain⟨r,h1,h2⟩:=h;refine⟨_,h2,fun w=>?_⟩;subst h1;simp[binOp,Op.intBits]
 case andNot=>obtain⟨r,h1,h2⟩:=h;refine⟨_,h2,fun w=>?_⟩;subst h1;simp[binOp,Op.intBits]
 case xor=>obtain⟨r,h1,h2⟩:=h;refine⟨_,h2,fun w=>?_⟩;subst h1;simp[binOp,Op.intBits]
theorem run_equalIn_bool{t:TypeId}(hu:P.underlying t=some .bool)(d:Nat)(i j:Bool)(w:World):(Op.equalIn (d+1) t (.bool i) (.bool j)).run P w= .ok (i==j) w:=by
 simp[Op.equalIn,run_underlying hu]
theorem ux{t:TypeId}(hu:P.underlying t=some .bool)(i j:Bool)(w:World):(Op.equal t (.bool i) (.bool j)).run P w= .ok (i==j) w:=run_equalIn_bool hu 9999 i j w
theorem xa{t:TypeId}(hu:P.underlying t=some .bool)(i j:Bool)(w:World):(binOp .eql t (.bool i) (.bool j)).run P w= .ok (.bool (i==j)) w:=by
 show(do pure (.bool (<-Op.equal t (.bool i) (.bool j))):Sem Value).run P w=_;rw[Sem.run_bind,ux hu];rfl
theorem vw{t:TypeId}(hu:P.underlying t=some .bool)(i j:Bool)(w:World):(binOp .neq t (.bool i) (.bool j)).run P w= .ok (.bool (!(i==j))) w:=by
 show(do pure (.bool (!(<-Op.equal t (.bool i) (.bool j)))):Sem Value).run P w=_;rw[Sem.run_bind,ux hu];rfl
theorem G0(hτ:fG P τ){x y:SV}{K:SV->Prop}(h:Kj P τ op t x y K)(o1 o2:Operand):
  ∃r,K r∧r.sc nx∧∀w':World,(do eqGuard op t o1 o2 (x.den O) (y.den O);binOp op t (x.den O) (y.den O)).run P w'= .ok (r.den O) w':=by
 unfold Kj at h;split at h
 ·rename_i k i k' j;have fin:∀hk:(op= .shl∨op= .shr)∨k=k',GU op k i j (fun r=>K (.o (.v r)))->∃r,K r∧r.sc nx∧∀w':World,(do eqGuard op t o1 o2 (SV.den O (.o (.v (.int k i)))) (SV.den O (.o (.v (.int k' j))));binOp op t (SV.den O (.o (.v (.int k i)))) (SV.den O (.o (.v (.int k' j))))).run P w'= .ok (r.den O) w':=by
   intro hk h;obtain⟨r,h1,h2⟩:=GZ (P:=P) (t:=t) h k' hk;refine⟨_,h1,trivial,fun w'=>?_⟩;simp only[SV.den,At.den,Sem.run_bind,vv,Result.andThen_ok,h2]
  split at h
  ·exact fin (.inl (.inl rfl)) h
  ·exact fin (.inl (.inr rfl)) h
  ·split at h
   ·rename_i hk;exact fin (.inr (o0 hk)) h
   ·exact h.elim
 ·rename_i i j;split at h
  ·rename_i ti hti;split at h
   ·rename_i htag;have hu:=(hτ t _ hti).i2 (eG htag);split at h
    ·refine⟨_,h,trivial,fun w'=>?_⟩;simp only[SV.den,At.den,Sem.run_bind,mR,Result.andThen_ok,xa hu]
    ·refine⟨_,h,trivial,fun w'=>?_⟩;simp only[SV.den,At.den,Sem.run_bind,mR,Result.andThen_ok,vw hu]
    ·exact h.elim
   ·exact h.elim
  ·exact h.elim
 ·rename_i i j;split at h
  ·refine⟨_,h,trivial,fun w'=>?_⟩;simp only[SV.den,At.den,Sem.run_bind,iu,Result.andThen_ok]
   simp[binOp,Op.stringOp,ByteArray.toList_eq]
  ·refine⟨_,h,trivial,fun w'=>?_⟩;simp only[SV.den,At.den,Sem.run_bind,iu,Result.andThen_ok]
   simp[binOp,Op.stringOp,ByteArray.toList_eq]
  ·refine⟨_,h.2,trivial,fun w'=>?_⟩;simp only[SV.den,At.den,Sem.run_bind,iu,Result.andThen_ok]
   have h1:=h.1;unfold maxLen at h1;simp[binOp,Op.stringOp];omega
  ·exact h.elim
 ·obtain⟨b,h1,h2⟩:=h;exact⟨_,h2,trivial,fun w'=>h1 O w' o1 o2⟩
abbrev KV(n B:Nat)(l:Env)(a:Act)(dst:Option Tmp)(K:SV->Hp->Nat->Iv->World->Prop)(next:Act->World->Prop):Prop:=
 ∀v H' nx' iv' w2 ρ' w3,K v H' nx' iv' w2->Sat n l H' nx' iv' B w2 ρ' a w3->v.sc nx'->next (a.put dst (v.den ρ')) w3
theorem Sat.next(sat:Sat n l H nx iv B w O a w')(rel:Rel H' nx' iv' B w2 ρ' w3)(hnx:nx<=nx')(hρ:∀id,id<nx->O id=ρ' id):
  Sat n l H' nx' iv' B w2 ρ' a w3:=
 ⟨rel,sat.size,sat.defers,fun t v h=>by rw[sat.env t v h,SV.jY hρ (sat.sc t v h)],fun t v h=>SV.sM hnx (sat.sc t v h)⟩
theorem BX(sat:Sat n l H nx iv B w O a w'){cs:List At}(hs:∀c∈cs,At.sc nx c):
  Rel ((nx,.box t cs)::H) (nx+1) iv B w (gI O nx ⟨w'.heap.size,0,false⟩) (w'.alloc (.cells (cs.map (At.den O)).toArray t)):=
 sat.rel.push (.box t cs) _ rfl rfl rfl (by simp) (fun k hk=>heap_alloc_old _ _ hk) (fun _=>⟨aG _,by simp⟩) ⟨rfl,heap_alloc_new _ _⟩ hs
theorem uy:∀{vs:List SV} {k:List Nat->Prop},mr vs k->(∀v∈vs,SV.sc nx v)->∃ids,k ids∧vs.map (SV.den O)=ids.map (fun id=>Value.pointer (some ⟨(O id).g,0,none⟩))∧∀id∈ids,id<nx
 |[],k,h,_=>⟨[],h,rfl,by simp⟩
 | .o (.p id 0)::r,k,h,hs=>by
  obtain⟨ids,h1,h2,h3⟩:=uy (vs:=r) h (fun v hv=>hs v (by simp[hv]));exact⟨id::ids,h1,by simp[h2,SV.den,At.den],by simp;exact⟨hs (.o (.p id 0)) (by simp),h3⟩⟩
 | .o (.p id (m+1))::r,k,h,_=>by simp[mr]at h
 | .o (.v x)::r,k,h,_=>by simp[mr]at h
 | .o (.s _ _ _ _)::r,k,h,_=>by simp[mr]at h
 | .o (.w _ _)::r,k,h,_=>by simp[mr]at h
 | .o (.fn _ _)::r,k,h,_=>by simp[mr]at h
 | .a _::r,k,h,_=>by simp[mr]at h
theorem xb(sat:Sat n l H nx iv B w O a w'){K:SV->Hp->Iv->World->Prop}{o:Oper}{next:Act->World->Prop}
  (h:Cj P B g args H nx iv w K) (hop:(execOp a.eval o).run P w'=(callFunc g (args O)).run P w')
  (hn:∀v H' iv' w2,K v H' iv' w2->Sat n l H' nx iv' B w2 O a w2->v.sc nx->next (a.put o.dst (v.den O)) w2):o.wp P a w' next Q:=by
 have hc:=h.h O w' sat.rel;unfold Oper.wp;rw[hop,hc.e.h];refine Calls.mono hc.c fun e w2 he=>?_;obtain⟨v,H',iv',rfl,hrel,hK⟩:=he;exact hn _ _ _ _ hK (sat.next (ρ':=O) hrel (aG _) (fun _ _=>rfl)) trivial
theorem Rel.ext(r:Rel H nx iv B w O w')(e:Ext w' w2):Rel H nx iv B w O w2:=
 Rel.mk' (e.os.trans r.os) (e.tape.trans r.tape) (e.output.trans r.output) (a9 r.size e.size) r.base r.qV r.keys
  (fun id b h=>jU.gi (r.fits h) (fun _ _=>rfl) (r.scopd h) (fun hn _=>e.block _ (r.low id b h hn).2)) (fun id b h=>r.scopd h) r.inj
  (fun id b h hn=>by have:=r.low id b h hn;have:=e.size;omega) (fun k hk hne=>by rw[e.block k (by have:=r.size;omega)];exact r.tk k hk hne) r.kC
theorem Rel.here(r:Rel H nx iv B w O w'):Rel H nx iv B w' O w':=
 Rel.mk' rfl rfl rfl (aG _) (by have:=r.base;have:=r.size;omega) (fun lo hi hm=>by have:=r.qV lo hi hm;have:=r.size;omega) r.keys
  (fun id b h=>r.fits h) (fun id b h=>r.scopd h) r.inj r.low (fun _ _ _=>rfl) r.kC
theorem Rel.more{lo hi:Nat}(r:Rel H nx iv B w O w')(h1:hi<=w.heap.size)(h2:∀id b,dA H id=some b->(O id).nil=false->¬(lo<=(O id).g∧(O id).g<hi)):Rel H nx ((lo,hi)::iv) B w O w':=
 Rel.mk' r.os r.tape r.output r.size r.base
  (fun lo' hi' hm=>by
   rcases List.mem_cons.1 hm with hm|hm
   ·injection hm with e1 e2;omega
   ·exact r.qV lo' hi' hm) r.keys (fun id b hb=>r.fits hb) (fun id b hb=>r.scopd hb) r.inj r.low r.tk
  (fun lo' hi' hm id b hb hnil=>by
   rcases List.mem_cons.1 hm with hm|hm
   ·injection hm with e1 e2;subst e1;subst e2;exact h2 id b hb hnil
   ·exact r.kC lo' hi' hm id b hb hnil)
theorem cC{K:SV->Hp->Iv->World->Prop}(h:Cd P B g args H nx iv w K):Cj P B g args H nx iv w K:=
 ⟨fun O w' r=>⟨(h.h O w' r).e,Calls.mono (h.h O w' r).c fun e w2 he=>by
  obtain⟨v,h1,h2,h3⟩:=he
  exact⟨v,H,_,h1,(r.ext h2).here.more (aG _) (fun id b hb hn=>by have:=(r.low id b hb hn).2;omega),h3⟩⟩⟩
def tm:Op->Bool
 | .move _| .assign _| .pick _ _ _| .build _ _| .load _ _| .nilCheck _| .binOp _ _ _ _ _| .unOp _ _ _| .convert _ _ _| .makeFunc _ _ _| .slice _ _ _ _ _| .fieldAddr _ _ _| .field _ _ _| .indexAddr _ _ _| .extract _ _=>true
 | .call ⟨.builtin .len,_,_⟩=>true
 | .call ⟨.builtin .max,_,_⟩=>true
 | .call ⟨.builtin .min,_,_⟩=>true
 |_=>false
def JX:Op->Bool
 | .alloc _| .box _ _| .buildSlice _ _ _| .makeSlice _ _ _=>true
 |_=>false
def GM:Op->Bool
 | .load _ _=>false
 |o=>tm o
theorem lG(hτ:fG P τ){o:Oper}(h:xM dr P τ B o l H nx iv w K)(sat:Sat n l H nx iv B w O a w')(hk:tm o.op=true):
  (∃v,K v H nx iv w∧v.sc nx∧∀w2,(GM o.op=true∨Rel H nx iv B w O w2)->(execOp a.eval o).run P w2= .ok (.value (v.den O)) w2)∨(dr=false∧xW P B o l H nx iv w K):=by
 obtain⟨dst,op,ty,pos,after,guard⟩:=o;have val:∀(r:SV),K r H nx iv w->r.sc nx->(∀w2,(GM op=true∨Rel H nx iv B w O w2)->(execOp a.eval ⟨dst,op,ty,pos,after,guard⟩).run P w2= .ok (.value (r.den O)) w2)->
   (∃v,K v H nx iv w∧v.sc nx∧∀w2,(GM op=true∨Rel H nx iv B w O w2)->(execOp a.eval ⟨dst,op,ty,pos,after,guard⟩).run P w2= .ok (.value (v.den O)) w2)∨(dr=false∧xW P B ⟨dst,op,ty,pos,after,guard⟩ l H nx iv w K):=
  fun r hK hs hr=>.inl ⟨r,hK,hs,hr⟩
 unfold xM at h;split at h<;>first|(exact False.elim h)|(rename_i hop;simp only at hop;subst hop)
 ·obtain⟨v,hK,hv,hs⟩:=dO sat h;exact val v hK hs (fun w2 rel=>by simp[execOp,hv])
 ·obtain⟨v,hK,hv,hs⟩:=dO sat h;exact val v hK hs (fun w2 rel=>by simp[execOp,hv])
 ·rename_i c x y;obtain⟨v,h1,hv,hvs⟩:=dO sat h;clear hvs;split at h1
  ·rename_i t
   cases t
   ·obtain⟨u,hK,hu,hs⟩:=dO sat (h1.f rfl);exact val u hK hs (fun w2 rel=>by simp[execOp,hv,SV.den,At.den,asBool,hu])
   ·obtain⟨u,hK,hu,hs⟩:=dO sat (h1.t rfl);exact val u hK hs (fun w2 rel=>by simp[execOp,hv,SV.den,At.den,asBool,hu])
  ·exact h1.elim
 ·cases hk
 ·cases hk
 ·rename_i t parts;split at h
  ·rename_i sz ag by_ ze tag ik e al fs hti;have ht:=hτ t _ hti;obtain⟨inf,z,hi,hsz,hby,hz,hzc⟩:=ht.info;simp only at hsz hby hzc;have hzz:z.cells=(((ze.map At.v)).map (At.den O)).toArray:=by rw[fH];apply Array.ext';simpa using hzc
   have hzs:∀c∈ze.map At.v,At.sc nx c:=fun c hc=>by simp at hc;obtain⟨v,_,rfl⟩:=hc;trivial
   split at h
   ·rename_i htag;obtain⟨fds,hu,hf,hall⟩:=ht.i5 (eG htag);simp only at hf;have hplaces:fds.toList.mapM (fun f=>(P.info? f.type).map fun i=>(f.offset,i.size))=some (fds.toList.map fun f=>(f.offset,((P.info? f.type).map (·.size)).getD 0)):=by
     clear hf hu;generalize fds.toList=fl at hall
     induction fl with
     |nil=>rfl
     |cons f r ih=>
      obtain⟨i0,hi0⟩:=Option.isSome_iff_exists.1 (hall f (by simp));rw[List.mapM_cons,ih (fun g hg=>hall g (by simp[hg]))];simp[hi0]
    have h0:=fJ h
    obtain⟨cs',hK,hcs,hlen,hfill⟩:=jf sat (placeF:=fun i=>(fds.toList.map fun f=>(f.offset,((P.info? f.type).map (·.size)).getD 0))[i]?) (fun i k hk=>by
     obtain⟨off,ft,fi,h1,h2,h3,h4⟩:=lz hτ hk;refine⟨off,fi.size,h1,?_⟩;rw[<-hf]at h2;simp only[aN,Option.map_eq_some_iff]at h2 ⊢;obtain⟨fd,hfd,he⟩:=h2;injection he with e1 e2;refine⟨fd,hfd,?_⟩;obtain⟨inf',_,hi',hs',_⟩:=h3.info;rw[e1,e2,hi']
     simp[hs']) h0 hzs
    refine val _ hK hcs (fun w2 rel=>?_);have hb:P.built t (parts.map fun p=>(p.1,a.eval p.2)).toList=some (cs'.map (At.den O)).toArray:=by
     unfold Program.built;simp only[hi,hu,hz,hplaces]
     rw[hzz,<-hfill];simp
    have:=run_build w2 t _ _ hb;simp only[execOp]
    exact lI this
   ·split at h
    ·rename_i htag;have hu:=ht.i6 (eG htag);simp only at hu;split at h
     ·rename_i sz' ag' by' ze' tag' ik' e' al' fs' hte
      have hte:=hτ e _ hte;obtain⟨inf',_,hi',hs',_⟩:=hte.info;simp only at hs';have h0:=fJ h;obtain⟨cs',hK,hcs,hlen,hfill⟩:=jf sat (placeF:=fun i=>some (i*inf'.size,inf'.size)) (fun i k hk=>⟨i*sz',sz',hk,by rw[hs']⟩) h0 hzs;refine val _ hK hcs (fun w2 rel=>?_);have hb:P.built t (parts.map fun p=>(p.1,a.eval p.2)).toList=some (cs'.map (At.den O)).toArray:=by
       unfold Program.built;simp only[hi,hu,hz,hi']
       rw[hzz,<-hfill];simp
      have:=run_build w2 t _ _ hb;simp only[execOp]
      exact lI this
     ·exact h.elim
    ·exact h.elim
  ·exact h.elim
 ·cases hk
 ·rename_i t x;obtain⟨v,h1,hv,hs⟩:=dO sat h;obtain⟨r,hK,hr,hrun⟩:=my hτ sat.rel hs h1;exact val r hK hr (fun w2 rel=>by simp only[execOp,hv];exact lI (hrun w2 (rel.resolve_left (by simp[GM]))))
 ·cases hk
 ·rename_i x;obtain⟨v,h1,hv,hs⟩:=dO sat h;split at h1
  ·exact val _ h1 hs (fun w2 rel=>by simp[execOp,hv,SV.den,At.den])
  ·exact val _ h1 hs (fun w2 rel=>by simp[execOp,hv,SV.den,At.den])
  ·exact val _ h1 hs (fun w2 rel=>by simp[execOp,hv,SV.den,At.den])
  ·exact val _ h1 hs (fun w2 rel=>by simp[execOp,hv,SV.den,At.den])
  ·exact h1.elim
 ·rename_i op t x y u;obtain⟨v,h1,hv,_⟩:=dO sat h;obtain⟨v2,h2,hv2,_⟩:=dO sat h1;obtain⟨r,hK,hr,hrun⟩:=G0 (O:=O) hτ h2 x y;exact val r hK hr (fun w2 rel=>by simp only[execOp,hv,hv2];exact lI (hrun w2))
 ·rename_i op t x;obtain⟨v,h1,hv,_⟩:=dO sat h;split at h1
  ·exact val _ h1 trivial (fun w2 rel=>by simp[execOp,hv,SV.den,At.den,Op.unary])
  ·obtain⟨r,hr,hK⟩:=h1;exact val _ hK trivial (fun w2 rel=>by subst hr;simp[execOp,hv,SV.den,At.den,Op.unary,Op.intArith])
  ·obtain⟨r,hr,hK⟩:=h1;exact val _ hK trivial (fun w2 rel=>by subst hr;simp[execOp,hv,SV.den,At.den,Op.unary,Op.intBits])
  ·exact h1.elim
 ·rename_i s d x;split at h
  ·rename_i tis htis;obtain⟨ds,hds,_⟩:=(hτ s _ htis).agg;obtain⟨v,h1,hv,hvs⟩:=dO sat h;clear hvs;split at h1
   ·rename_i sz ag by_ ze tag ik e al fs hti;have ht:=hτ d _ hti;split at h1
    ·rename_i htag;have hu:=ht.i1 (eG htag);simp only at hu;split at h1
     ·obtain⟨r,hr,hK⟩:=h1;refine val _ hK trivial (fun w2 rel=>?_);subst hr;simp[execOp,convert,run_underlying hds,run_underlying hu,hv,SV.den,At.den,Conv.intToInt]
     ·exact h1.elim
    ·cases dr
     ·exact .inr ⟨rfl,h1⟩
     ·exact h1.elim
   ·exact h1.elim
  ·exact h.elim
 ·rename_i f first caps
  split at h
  ·obtain⟨vs,h1,hvs,hsc⟩:=ph sat h;obtain⟨ids,hK,hids,hlt⟩:=uy (O:=O) h1 hsc;refine val _ hK (fun id hid=>hlt id hid) (fun w2 rel=>?_);have e:caps.map a.eval=(ids.map fun id=>Value.pointer (some ⟨(O id).g,0,none⟩)).toArray:=by
    apply Array.ext';rw[<-hids,<-hvs];simp
   simp[execOp,Instr.makeFunc,e,SV.den,At.den]
  ·exact h.elim
 ·cases hk
 ·rename_i t x lo hi;obtain⟨v,h1,hv,hs⟩:=dO sat h;obtain⟨r,hK,hr,hrun⟩:=Cp hτ sat h1 hs;exact val r hK hr (fun w2 rel=>by simp only[execOp,hv];exact lI (by simpa using hrun w2))
 ·rename_i t x f;split at h
  ·rename_i sz ag by_ ze tag ik e al fs hti;have ht:=hτ t _ hti;split at h
   ·rename_i htag;obtain⟨off,ft,fi,h1,hf,hfi,hsz⟩:=lz hτ h;obtain⟨v,h2,hv,hs⟩:=dO sat h1;obtain⟨r,ad,hK,hr,hd,hrd⟩:=sO (O:=O) h2 hs;refine val r hK hr (fun w2 rel=>?_);simp only[execOp,hv,hd,hrd]
    exact lI (Cm ht (eG htag) hf hfi hsz ad w2)
   ·exact h.elim
  ·exact h.elim
 ·rename_i t x f;split at h
  ·rename_i sz ag by_ ze tag ik e al fs hti;have ht:=hτ t _ hti;split at h
   ·rename_i htag;obtain⟨off,ft,fi,h1,hf,hfi,hsz⟩:=lz hτ h;obtain⟨v,h2,hv,hs⟩:=dO sat h1;obtain⟨fds,fd,hu,hfd,e1,e2⟩:=x8 ht (eG htag) hf;have fin:∀cs:List At,v.den O= .agg (cs.map (At.den O)).toArray->(∀c∈cs,At.sc nx c)->
      (match fi.agg with
       |true=>sC cs off (fun r=>sD r fi.size (fun c=>K (.a c) H nx iv w))
       |false=>match BV cs off with
        |some c=>K (.o c) H nx iv w
        |none=>False)->(∃v,K v H nx iv w∧v.sc nx∧∀w2,(GM (.field t x f)=true∨Rel H nx iv B w O w2)->(execOp a.eval ⟨dst,.field t x f,ty,pos,after,guard⟩).run P w2= .ok (.value (v.den O)) w2)∨(dr=false∧xW P B ⟨dst,.field t x f,ty,pos,after,guard⟩ l H nx iv w K):=by
     intro cs hd hcs hk;split at hk
     ·rename_i hag;obtain⟨h3,hd1⟩:=mu hk;obtain⟨hK,hd2⟩:=mw h3;refine val _ hK (fun c hc=>hcs c (List.mem_of_mem_drop (List.mem_of_mem_take hc))) (fun w2 rel=>?_);simp only[execOp,hv,hd]
      refine lI ?_;subst e1 e2;simp[Instr.field,run_underlying hu,hfd,asAgg,part,hfi.isAgg,hag,hfi.sizeOf,SV.den,List.map_drop,List.map_take,List.extract_eq_take_drop]
     ·rename_i hag;split at hk
      ·rename_i c hc;rw[tt]at hc;refine val _ hk (hcs c (aD hc)) (fun w2 rel=>?_);simp only[execOp,hv,hd]
       refine lI ?_;subst e1 e2;simp[Instr.field,run_underlying hu,hfd,asAgg,part,hfi.isAgg,hag,hc,SV.den]
      ·exact hk.elim
    split at h2
    ·rename_i vs;exact fin (vs.map At.v) (by rw[fH];rfl) (fun c hc=>by simp at hc;obtain⟨v,_,rfl⟩:=hc;trivial) (fJ h2)
    ·exact fin _ rfl hs h2
    ·exact h2.elim
   ·exact h.elim
  ·exact h.elim
 ·rename_i t x i;obtain⟨v,h1,hv,hs⟩:=dO sat h;obtain⟨u,h2,hu,_⟩:=dO sat h1;obtain⟨r,hK,hr,hrun⟩:=Cn hτ h2 hs sat.rel;exact val r hK hr (fun w2 rel=>by simp only[execOp,hv,hu];exact lI (hrun w2))
 ·rename_i x i;obtain⟨v,h1,hv,hs⟩:=dO sat h;split at h1
  ·split at h1
   ·rename_i vs u hu;rw[A0]at hu;exact val _ h1 trivial (fun w2 rel=>by simp[execOp,hv,Instr.extract,SV.den,At.den,hu])
   ·exact h1.elim
  ·exact h1.elim
 ·rename_i x t;obtain⟨v,h1,hv,_⟩:=dO sat h;obtain⟨r,hK,hrun⟩:=GY (ty:=ty) hτ h1 sat.rel;refine val _ hK trivial (fun w2 rel=>?_);show _=Result.ok (Next.value (Value.int .i64 r)) w2;generalize v.den O=xv at hv hrun;have hrun:=hrun w2;simp[execOp,resolve,invoke,builtin,hv,hrun]
 ·cases hk
 ·rename_i x y ts;obtain⟨v,h1,hv,_⟩:=dO sat h;obtain⟨v2,h2,hv2,_⟩:=dO sat h1;split at h2
  ·split at h2
   ·rename_i k a1 k' b1 hk2;have hkk:=o0 hk2;subst hkk;refine val _ h2 trivial (fun w2 rel=>?_);simp only[execOp,resolve,invoke,builtin]
    simp[hv,hv2,SV.den,At.den,Builtin.max_,Builtin.max2];omega
   ·exact h2.elim
  ·exact h2.elim
 ·rename_i x y ts;obtain⟨v,h1,hv,_⟩:=dO sat h;obtain⟨v2,h2,hv2,_⟩:=dO sat h1;split at h2
  ·split at h2
   ·rename_i k a1 k' b1 hk2;have hkk:=o0 hk2;subst hkk;refine val _ h2 trivial (fun w2 rel=>?_);simp only[execOp,resolve,invoke,builtin]
    simp[hv,hv2,SV.den,At.den,Builtin.min_,Builtin.min2];omega
   ·exact h2.elim
  ·exact h2.elim
 ·cases hk
 ·cases hk
 ·cases hk
 ·cases hk
 ·cases hk
 ·cases hk
 ·cases hk
 ·cases hk
theorem gk{o:Oper}(h:xW P B o l H nx iv w K)(sat:Sat n l H nx iv B w O a w'){next:Act->World->Prop}
  (hn:KV n B l a o.dst K next):o.wp P a w' next Q:=by
 obtain⟨v,w2,iv',hrun,hrel,hK⟩:=h.h O w' a.eval sat.rel (fun x v hx=>(sN sat hx).1);have:=hn _ _ _ _ _ _ _ hK (sat.next hrel (aG _) (fun _ _=>rfl)) trivial;unfold Oper.wp;rcases hrun with hrun|⟨hrun,rfl⟩
 ·rw[hrun];exact this
 ·rw[hrun];exact this
theorem mq(hτ:fG P τ){o:Oper}(h:xM dr P τ B o l H nx iv w K)(sat:Sat n l H nx iv B w O a w'){next:Act->World->Prop}
  (hn:KV n B l a o.dst K next):o.wp P a w' next Q:=by
 by_cases hk:tm o.op=true
 ·rcases lG hτ h sat hk with⟨v,hK,hs,hr⟩|⟨_,hop⟩
  ·exact ll (hr w' (.inr sat.rel)) (hn _ _ _ _ _ _ _ hK sat hs)
  ·exact gk hop sat hn
 obtain⟨dst,op,ty,pos,after,guard⟩:=o;unfold xM at h;split at h<;>first|(exact False.elim h)|(rename_i hop;simp only at hop;subst hop)
 ·exact absurd rfl hk
 ·exact absurd rfl hk
 ·exact absurd rfl hk
 ·rename_i t;split at h
  ·rename_i sz ag by_ ze tag ik e al fs hti;obtain⟨z,hz1,hz2⟩:=(hτ t _ hti).zeroV w';have hK:=fJ h;simp only at hz2;have hrel:=BX sat (t:=t) (cs:=ze.map At.v) (fun c hc=>by simp at hc;obtain⟨v,_,rfl⟩:=hc;trivial);rw[fH]at hrel;have hzz:z.cells=ze.toArray:=by apply Array.ext';simpa using hz2
   refine ll (w2:=w'.alloc (.cells ze.toArray t)) (v:=.pointer (some ⟨w'.heap.size,0,none⟩)) ?_ ?_
   ·simp[execOp,Instr.alloc,hz1,newVar,newRow,hzz]
   ·have:=hn _ _ _ _ _ _ _ hK (sat.next hrel (by omega) gJ) (by simp[SV.sc,At.sc]);simpa [SV.den,At.den]using this
  ·exact h.elim
 ·rename_i t x;obtain⟨v,h1,hv,hs⟩:=dO sat h;obtain⟨cs,hK,hcells,hsc⟩:=lH h1;have hrel:=BX sat (t:=t) (hsc nx hs);refine ll (w2:=w'.alloc (.cells (cs.map (At.den O)).toArray t)) (v:=.pointer (some ⟨w'.heap.size,0,none⟩)) ?_ ?_
  ·simp[execOp,Instr.box,hv,newVar,newRow,hcells O]
  ·have:=hn _ _ _ _ _ _ _ hK (sat.next hrel (by omega) gJ) (by simp[SV.sc,At.sc]);simpa [SV.den,At.den]using this
 ·exact absurd rfl hk
 ·rename_i t m parts;split at h
  ·rename_i sz ag by_ ze tag ik e al fs hti;have ht:=hτ t _ hti;split at h
   ·rename_i htag;have hu:=ht.i4 (eG htag);simp only at hu;split at h
    ·rename_i sz' ag' by' ze' tag' ik' e' al' fs' hte
     have hte:=hτ e _ hte;obtain⟨inf,z,hi,hsz,hby,hz,hzc⟩:=hte.info;have hzl:=hte.GP;simp only at hsz hby hzc hzl;split at h
     ·rename_i hle;have hle:=Nat.le_of_ble_eq_true hle;have h0:=fJ h;obtain⟨cs',hK,hcs,hlen,hfill⟩:=jf sat (placeF:=fun i=>some (i*inf.size,inf.size)) (fun i k hk=>⟨i*sz',sz',hk,by rw[hsz]⟩) h0
       (fun c hc=>by obtain⟨v,_,rfl⟩:=aT.1 hc;trivial)
      rw[fH]at hfill;have hzarr:z.cells=ze'.toArray:=by apply Array.ext';simpa using hzc
      have hmade:((List.replicate m ze').flatten).toArray=madeCells z.cells (m*inf.size):=by
       rw[hzarr,hsz,<-hzl];exact(po ze' m).symm
      have hrel:=BX sat (t:=e) hcs;refine ll (w2:=w'.alloc (.cells (cs'.map (At.den O)).toArray e)) (v:=.slice (some ⟨w'.heap.size,0,none⟩) m m) ?_ ?_
      ·simp only[execOp]
       refine lI ?_;rw[hmade]at hfill;by_cases hpos:m*inf.size=0
       ·have hfill':Instr.fill (fun i=>some (i*inf.size,inf.size)) (madeCells z.cells 0) (parts.toList.map fun p=>(p.1,a.eval p.2))=some (cs'.map (At.den O)).toArray:=by rw[hpos]at hfill;exact hfill
        have e0:madeCells z.cells 0= #[]:=by simp[madeCells]
        rw[e0]at hfill';have er:Array.range 0= #[]:=rfl;simp[Instr.buildSlice,run_underlying hu,sizeOf,typeInfo,zeroValue,hi,hz,hpos,newRow,hfill',er]
       ·exact run_buildSlice w' t e m _ _ inf z hu hi hz (by rw[hsz];omega) hpos (by rw[<-hfill];simp[madeCells])
      ·have:=hn _ _ _ _ _ _ _ hK (sat.next hrel (by omega) gJ) (by simp[SV.sc,At.sc]);simpa [SV.den,At.den]using this
     ·exact h.elim
    ·exact h.elim
   ·exact h.elim
  ·exact h.elim
 ·exact absurd rfl hk
 ·rename_i t x y;obtain⟨v,h1,hv,hs⟩:=dO sat h;obtain⟨u,h2,hu,hs2⟩:=dO sat h1
  cases hg:KU H v u with
  |true=>
   rw[hg]at h2
   cases dr with
   |true=>exact h2.elim
   |false=>
    have h2:M0 P B _ l H nx iv w K:=h2;obtain⟨w2,w3,H',iv',hrun,hrel,hK⟩:=h2.h O w' a.eval sat.rel (fun x v hx=>(sN sat hx).1);refine H7 (w2:=w3) hrun ?_;exact hn _ _ _ _ _ _ _ hK (sat.next hrel (aG _) (fun _ _=>rfl)) trivial
  |false=>
   rw[hg]at h2;obtain⟨H',w2,w3,hK,hrel,hrun⟩:=uw hτ sat hs hs2 h2;refine H7 (w2:=w3) (by simp[execOp,hv,hu,hrun]) ?_;exact hn _ _ _ _ _ _ _ hK (sat.next hrel (aG _) (fun _ _=>rfl)) trivial
 ·exact absurd rfl hk
 ·exact absurd rfl hk
 ·exact absurd rfl hk
 ·exact absurd rfl hk
 ·exact absurd rfl hk
 ·rename_i t x y;obtain⟨v,h1,hv,_⟩:=dO sat h;obtain⟨u,h2,hu,_⟩:=dO sat h1;obtain⟨r,H',nx',ρ',w2,hK,hrel,hr,hnx,hρ,hrun⟩:=EV hτ sat h2;refine ll (w2:=w2) (by simp only[execOp,hv,hu];exact lI hrun) ?_;exact hn _ _ _ _ _ _ _ hK (sat.next hrel hnx hρ) hr
 ·exact absurd rfl hk
 ·exact absurd rfl hk
 ·exact absurd rfl hk
 ·exact absurd rfl hk
 ·exact absurd rfl hk
 ·exact absurd rfl hk
 ·rename_i x y t u;split at h
  ·rename_i htu;have htu:=eG htu;subst htu;obtain⟨v,h1,hv,_⟩:=dO sat h;obtain⟨v2,h2,hv2,_⟩:=dO sat h1;split at h2
   ·unfold Mp at h2;split at h2
    ·exact h2.elim
    ·obtain⟨v,H',nx',iv',ρ',w2,w3,hrun,hrel,hs,hnx,hρ,hK⟩:=h2.h O w' a.eval sat.rel (fun x v hx=>(sN sat hx).1);exact ll hrun (hn _ _ _ _ _ _ _ hK (sat.next hrel hnx hρ) hs)
   rcases h2 with h2|h2
   ·obtain⟨r,H',nx',ρ',w2,hK,hrel,hr,hnx,hρ,hrun⟩:=sL (ty:=ty) hτ sat h2;refine ll (v:=r.den ρ') (w2:=w2) ?_ ?_
    ·simp[execOp,resolve,invoke,builtin,hv,hv2,hrun]
    ·exact hn _ _ _ _ _ _ _ hK (sat.next hrel hnx hρ) hr
   ·exact gk h2 sat hn
  ·exact gk h sat hn
 ·exact absurd rfl hk
 ·exact absurd rfl hk
 ·exact gk h sat hn
 ·exact gk h sat hn
 ·exact gk h sat hn
 ·exact gk h sat hn
 ·exact gk h sat hn
 ·exact gk h sat hn
 ·exact gk h sat hn
 ·rename_i f args ats;obtain⟨v,h1,hv,_⟩:=dO sat h;obtain⟨vs,h2,hvs,hsc⟩:=ph sat h1;have hargs:(args.toArray).map a.eval=mn O vs:=by
   apply Array.ext';simp[mn,hvs]
  have hcall:∀(g:Nat) (args:(Nat->df)->Array Value) (K:SV->Hp->Iv->World->Prop),H4 dr P B g args H nx iv w K->Cj P B g args H nx iv w K:=fun g args K h=>by
   cases dr
   ·exact h
   ·exact cC h
  split at h2
  ·rename_i g first caps
   refine xb sat (hcall _ _ _ h2) ?_ (fun v H' iv' w2 hK hs hv=>hn _ _ _ _ _ _ _ hK hs hv);simp[execOp,resolve,hv,SV.den,At.den,Deferred.ofValue,invoke,hargs]
  ·rename_i g ids;refine xb sat (hcall _ _ _ h2) ?_ (fun v H' iv' w2 hK hs hv=>hn _ _ _ _ _ _ _ hK hs hv);simp[execOp,resolve,hv,SV.den,At.den,Deferred.ofValue,invoke,hargs]
  ·exact h2.elim
end
def Ex.to:Ex->Exit
 | .normal=>.normal
 | .exit id=>.exit id
 | .ret=>.ret
def Kl(n:Nat)(o:Oper):Bool:=match o.dst with
 |some d=>Nat.blt d n
 |none=>true
def codeOk(n:Nat):Code->Bool
 | .region _ ops _=>ops.toList.all (Kl n)
 | .seq a b=>codeOk n a&&codeOk n b
 | .cond _ a b=>codeOk n a&&codeOk n b
 | .block _ c=>codeOk n c
 | .loop c=>codeOk n c
 |_=>true
section
variable{P:Program}{τ:mL}{B n nx:Nat}{l:Env}{H:Hp}{iv:Iv}{w w':World}{O:Nat->df}{a:Act}
theorem Sat.put(sat:Sat n l H nx iv B w O a w'){d:Nat}(hd:d<n){v:SV}(hv:v.sc nx):Sat n ((d,v)::l) H nx iv B w O (a.put (some d) (v.den O)) w':=by
 refine⟨sat.rel,by simp[Act.put,sat.size],sat.defers,fun t u h=>?_,fun t u h=>?_⟩
 ·rw[eU]at h;split at h
  ·rename_i e;subst e;injection h with h;subst h;simp[Act.put,sat.size,hd]
  ·rename_i e;have:=sat.env t u h;simpa [Act.put,Array.getElem?_setIfInBounds_ne e]using this
 ·rw[eU]at h;split at h
  ·injection h with h;subst h;exact hv
  ·exact sat.sc t u h
theorem gj(sat:Sat n l H nx iv B w O a w'){v:SV}{k:Env->Prop}(h:Cb d v l k)(hd:∀t,d=some t->t<n)(hv:v.sc nx):
  ∃l',k l'∧Sat n l' H nx iv B w O (a.put d (v.den O)) w':=by
 unfold Cb at h;split at h
 ·rename_i t;exact⟨_,h,sat.put (hd t rfl) hv⟩
 ·exact⟨l,h,sat⟩
theorem rE:∀{all:List Oper} {j:Nat},AY all j=(all[j]?).bind (·.dst)
 |[],j=>by simp[AY]
 |o::r,0=>by simp[AY]
 |o::r,j+1=>by simp[AY,rE (all:=r)]
theorem Sat.Lw(sat:Sat n l H nx iv B w O a w'){d:Nat}{v:SV}(hd:a.tmps[d]? =some (v.den O))(hv:v.sc nx):Sat n ((d,v)::l) H nx iv B w O a w':=by
 refine⟨sat.rel,sat.size,sat.defers,fun t u h=>?_,fun t u h=>?_⟩
 ·rw[eU]at h;split at h
  ·rename_i e;subst e;injection h with h;subst h;exact hd
  ·exact sat.env t u h
 ·rw[eU]at h;split at h
  ·injection h with h;subst h;exact hv
  ·exact sat.sc t u h
theorem kE(sat:Sat n l H nx iv B w O a w'){all:List Oper}{o:Oper}{yes no:Env->Prop}(h:sF all o.guard l yes no):
  (Region.wanted o (yielded all.toArray a.tmps)=true∧∃l',yes l'∧Sat n l' H nx iv B w O a w')∨(Region.wanted o (yielded all.toArray a.tmps)=false∧∃l',no l'∧Sat n l' H nx iv B w O a w'):=by
 unfold sF at h;split at h
 ·rename_i hg;exact .inl ⟨by simp[Region.wanted,hg],l,h,sat⟩
 ·rename_i j want hg;have hy:Region.wanted o (yielded all.toArray a.tmps)=(yielded all.toArray a.tmps j==some want):=by simp[Region.wanted,hg]
  split at h
  ·rename_i hd;rw[rE]at hd;exact .inr ⟨by rw[hy];simp[yielded,hd],l,h,sat⟩
  ·rename_i d hd;rw[rE]at hd;split at h
   ·rename_i b hb;have ht:=sat.env d _ hb;have hyb:yielded all.toArray a.tmps j=some b:=by simp[yielded,hd,ht,SV.den,At.den]
    have hkt:b=true->Sat n ((d,.o (.v (.bool true)))::l) H nx iv B w O a w':=fun e=>sat.Lw (by rw[ht,e]) trivial;have hkf:b=false->Sat n ((d,.o (.v (.bool false)))::l) H nx iv B w O a w':=fun e=>sat.Lw (by rw[ht,e]) trivial;split at h
    ·cases hbb:b
     ·exact .inr ⟨by rw[hy,hyb,hbb];rfl,_,h.f hbb,hkf hbb⟩
     ·exact .inl ⟨by rw[hy,hyb,hbb];rfl,_,h.t hbb,hkt hbb⟩
    ·cases hbb:b
     ·exact .inl ⟨by rw[hy,hyb,hbb];rfl,_,h.f hbb,hkf hbb⟩
     ·exact .inr ⟨by rw[hy,hyb,hbb];rfl,_,h.t hbb,hkt hbb⟩
   ·rename_i vs hb;have ht:=sat.env d _ hb;exact .inr ⟨by rw[hy];simp[yielded,hd,ht,SV.den,At.den],l,h,sat⟩
   ·exact h.elim
theorem o6(hτ:fG P τ){all:List Oper}{K:KT}{Q:Exit->Act->World->Prop}
  (hQ:∀l' H' nx' iv' w2 ρ' a' w3,K l' H' nx' iv' w2->Sat n l' H' nx' iv' B w2 ρ' a' w3->Q .normal a' w3):
  ∀(rest:List Oper) (l:Env) (H:Hp) (nx:Nat) (iv:Iv) (w:World) (O:Nat->df) (a:Act) (w':World),rest.all (Kl n)=true->F5 P τ B all rest l H nx iv w K->Sat n l H nx iv B w O a w'->
   wpList P all.toArray Q rest a w'
 |[],l,H,nx,iv,w,O,a,w',_,h,sat=>wpList_nil (hQ _ _ _ _ _ _ _ _ h sat)
 |o::r,l,H,nx,iv,w,O,a,w',hok,h,sat=>by
  simp only[List.all_cons,ah]at hok;have hd:∀t,o.dst=some t->t<n:=fun t ht=>by
   have:=hok.1;simp only[Kl,ht]at this;have h5:t+1<=n:=by simpa [Nat.blt]using this
   exact h5
  refine wpList_step fun Kc hKc=>?_;unfold F5 gT at h;rcases kE sat h with⟨hw,l1,h1,sat1⟩|⟨hw,l1,h1,sat1⟩
  ·rw[if_pos hw];refine mq hτ h1 sat1 fun v H' nx' iv' w2 ρ' w3 h2 sat2 hv=>?_;obtain⟨l2,h3,sat3⟩:=gj sat2 h2 hd hv;exact hKc _ _ (o6 hτ hQ r _ _ _ _ _ _ _ _ hok.2 h3 sat3)
  ·rw[aK (by simp[hw])];obtain⟨l2,h3,sat3⟩:=gj sat1 h1 hd trivial;exact hKc _ _ (o6 hτ hQ r _ _ _ _ _ _ _ _ hok.2 h3 sat3)
theorem Sub.sat{t:AZ}(h:Sub B l nx O w' t)(sat:Sat n l H nx iv B w O a w'):∃ρ',Sat n t.l t.H t.nx t.iv B t.w ρ' a w':=by
 obtain⟨ρ',h1,h2⟩:=h;refine⟨ρ',h1,sat.size,sat.defers,fun u v hv=>?_,fun u v hv=>(h2 u v hv).1⟩;obtain⟨_,v0,h3,h4⟩:=h2 u v hv;rw[sat.env u v0 h3,h4]
theorem gU(hτ:fG P τ):∀(c:Code) (l:Env) (H:Hp) (nx:Nat) (iv:Iv) (w:World) (Q':Ex->KT),lr P τ B c l H nx iv w Q'->codeOk n c=true->
  ∀(O:Nat->df) (a:Act) (w':World),Sat n l H nx iv B w O a w'->∀Q:Exit->Act->World->Prop,(∀e l' H' nx' iv' w2 ρ' a' w3,Q' e l' H' nx' iv' w2->Sat n l' H' nx' iv' B w2 ρ' a' w3->Q e.to a' w3)->c.wp P Q a w'
 | .skip,l,H,nx,iv,w,Q',h,_,O,a,w',sat,Q,hQ=>wp_skip (hQ .normal _ _ _ _ _ _ _ _ h sat)
 | .region id ops false,l,H,nx,iv,w,Q',h,hok,O,a,w',sat,Q,hQ=>by
  obtain⟨ol⟩:=ops;exact wp_region_lit (o6 hτ (fun l' H' nx' iv' w2 ρ' a' w3 hk hs=>hQ .normal _ _ _ _ _ _ _ _ hk hs) ol _ _ _ _ _ _ _ _ hok h sat)
 | .region id ops true,l,H,nx,iv,w,Q',h,hok,O,a,w',sat,Q,hQ=>
  xS.h h n O a w' hok sat Q (fun l' H' nx' iv' w2 ρ' a' w3 hk hs=>hQ .normal _ _ _ _ _ _ _ _ hk hs) id
 | .seq c d,l,H,nx,iv,w,Q',h,hok,O,a,w',sat,Q,hQ=>by
  simp only[codeOk,ah]at hok;refine wp_seq (gU hτ c _ _ _ _ _ _ h hok.1 O a w' sat _ fun e l' H' nx' iv' w2 ρ' a' w3 hk hs=>?_)
  cases e with
  |normal=>exact gU hτ d _ _ _ _ _ _ hk hok.2 ρ' a' w3 hs Q hQ
  |exit id=>exact hQ (.exit id) _ _ _ _ _ _ _ _ hk hs
  |ret=>exact hQ .ret _ _ _ _ _ _ _ _ hk hs
 | .cond x c d,l,H,nx,iv,w,Q',h,hok,O,a,w',sat,Q,hQ=>by
  simp only[codeOk,ah]at hok;obtain⟨v,h1,hv,hvs⟩:=dO sat h;clear hvs;split at h1
  ·rename_i t;refine wp_cond_split (t:=t) (by rw[hv];rfl) (fun ht=>?_) (fun ht=>?_)
   ·exact gU hτ c _ _ _ _ _ _ (h1.t ht) hok.1 O a w' sat Q hQ
   ·exact gU hτ d _ _ _ _ _ _ (h1.f ht) hok.2 O a w' sat Q hQ
  ·exact h1.elim
 | .block id c,l,H,nx,iv,w,Q',h,hok,O,a,w',sat,Q,hQ=>by
  refine wp_block (gU hτ c _ _ _ _ _ _ h hok O a w' sat _ fun e l' H' nx' iv' w2 ρ' a' w3 hk hs=>?_)
  cases e with
  |normal=>exact hQ .normal _ _ _ _ _ _ _ _ hk hs
  |exit id'=>
   simp only[Ex.to,Exit.inBlock]
   simp only at hk;split at hk
   ·rename_i he;rw[if_pos (eG he)];exact hQ .normal _ _ _ _ _ _ _ _ hk hs
   ·rename_i he;rw[aK (fun e=>by subst e;rw[Nat.beq_refl]at he;cases he)];exact hQ (.exit id') _ _ _ _ _ _ _ _ hk hs
  |ret=>exact hQ .ret _ _ _ _ _ _ _ _ hk hs
 | .loop c,l,H,nx,iv,w,Q',h,hok,O,a,w',sat,Q,hQ=>by
  obtain⟨α,st,μ,I,h0,hr⟩:=h;intro b k cs;have key:∀m x O a w',μ x=m->I x->Sat n (st x).l (st x).H (st x).nx (st x).iv B (st x).w O a w'->
    ∃e a' w2,Q e a' w2∧Arrives P (lone (b.at a (.code c:: .inLoop c::k)) cs w') b k cs e a' w2:=by
   intro m
   induction m using Nat.strongRecOn with
   |_ m ih=>
    intro x O a w' hm hI hs;have hc:=gU hτ c _ _ _ _ _ _ (hr x hI) hok O a w' hs
     (fun e a2 w2=>match e with
      | .normal=>∃y ρ2,I y∧Sat n (st y).l (st y).H (st y).nx (st y).iv B (st y).w ρ2 a2 w2∧μ y<μ x
      |e=>Q e a2 w2) (fun e l' H' nx' iv' w2 ρ' a' w3 hk hs'=>by
       cases e with
       |normal=>
        obtain⟨y,hIy,hy,hlt⟩:=hk ρ' w3 hs'.rel;obtain⟨ρ2,hs2⟩:=hy.sat hs';exact⟨y,ρ2,hIy,hs2,hlt⟩
       |exit id=>exact hQ (.exit id) _ _ _ _ _ _ _ _ hk hs'
       |ret=>exact hQ .ret _ _ _ _ _ _ _ _ hk hs')
    obtain⟨e,a₁,w₁,hq,harr⟩:=hc b (.inLoop c::k) cs
    cases e with
    |normal=>
     obtain⟨y,ρ2,hIy,hs2,hlt⟩:=hq;obtain⟨e₂,a₂,w₂,hq₂,harr₂⟩:=ih (μ y) (hm▸hlt) y ρ2 a₁ w₁ rfl hIy hs2;exact⟨e₂,a₂,w₂,hq₂,.of_steps (Steps.trans harr (.one step_inLoop)) harr₂⟩
    |exit id=>exact⟨_,a₁,w₁,hq,.pass (x:=.inLoop c) rfl (fun _ _=>.inl (by simp)) harr⟩
    |goto l=>exact⟨_,a₁,w₁,hq,.pass (x:=.inLoop c) rfl (fun _ _=>.inl (by simp)) harr⟩
    |ret=>exact⟨_,a₁,w₁,hq,.pass (x:=.inLoop c) rfl (fun _ _=>.inl (by simp)) harr⟩
    |panic ch=>exact⟨_,a₁,w₁,hq,.pass (x:=.inLoop c) rfl (fun _ _=>.inl (by simp)) harr⟩
    |outgrown=>exact⟨_,a₁,w₁,hq,.pass (x:=.inLoop c) rfl (fun _ _=>.inl (by simp)) harr⟩
  obtain⟨x,hIx,hx⟩:=h0 O w' sat.rel;obtain⟨ρ2,hs2⟩:=hx.sat sat;obtain⟨e,a',w2,hq,harr⟩:=key _ x ρ2 a w' rfl hIx hs2;exact⟨e,a',w2,hq,.of_steps (.one step_loop) harr⟩
 | .exit id,l,H,nx,iv,w,Q',h,_,O,a,w',sat,Q,hQ=>wp_exit (hQ (.exit id) _ _ _ _ _ _ _ _ h sat)
 | .ret,l,H,nx,iv,w,Q',h,_,O,a,w',sat,Q,hQ=>wp_ret (hQ .ret _ _ _ _ _ _ _ _ h sat)
 | .rangeFunc _ _ _ _,l,H,nx,iv,w,Q',h,_,O,a,w',sat,Q,hQ=>h.elim
 | .scope _,l,H,nx,iv,w,Q',h,_,O,a,w',sat,Q,hQ=>h.elim
 | .label _,l,H,nx,iv,w,Q',h,_,O,a,w',sat,Q,hQ=>h.elim
 | .goto _,l,H,nx,iv,w,Q',h,_,O,a,w',sat,Q,hQ=>h.elim
 | .refuse _,l,H,nx,iv,w,Q',h,_,O,a,w',sat,Q,hQ=>h.elim
def fW:Nat->List Value->Env
 |_,[]=>[]
 |k,v::r=>(k,.o (.v v))::fW (k+1) r
theorem rF:∀(vs:List Value) (k t:Nat) (v:SV),fF (fW k vs) t=some v->k<=t∧∃x,v= .o (.v x)∧vs[t-k]? =some x
 |[],k,t,v,h=>by simp[fW,fF]at h
 |x::r,k,t,v,h=>by
  rw[fW,eU]at h;split at h
  ·rename_i e;subst e;injection h with h;subst h;exact⟨aG _,x,rfl,by simp⟩
  ·obtain⟨h1,y,h2,h3⟩:=rF r (k+1) t v h;refine⟨by omega,y,h2,?_⟩;rw[show t-k=(t-(k+1))+1 by omega];simpa using h3
def Cr(τ:mL)(B:Nat)(l:Env)(H:Hp)(nx:Nat)(iv:Iv)(w:World):List ResultVar->(List SV->Prop)->Prop
 |[],k=>k []
 | .tmp t::r,k=>match fF l t with
  |some v=>Cr τ B l H nx iv w r (fun vs=>k (v::vs))
  |none=>False
 | .cell t ty::r,k=>match fF l t with
  |some v=>AX τ B ty v H nx iv w (fun u=>Cr τ B l H nx iv w r (fun vs=>k (u::vs)))
  |none=>False
def H8(B:Nat)(H:Hp)(nx:Nat)(iv:Iv)(w:World)(R:Ending->World->Prop):List SV->Prop
 |[v]=>∀O w',Rel H nx iv B w O w'->R (.returned (v.den O)) w'
 |vs=>∀O w',Rel H nx iv B w O w'->R (.returned (.tuple (mn O vs))) w'
def Km(τ:mL)(B:Nat)(rs:List ResultVar)(R:Ending->World->Prop):Ex->KT
 | .exit _,_,_,_,_,_=>False
 | .normal,l,H,nx,iv,w=>Cr τ B l H nx iv w rs (H8 B H nx iv w R)
 | .ret,l,H,nx,iv,w=>Cr τ B l H nx iv w rs (H8 B H nx iv w R)
def H9(tmps:Array Value):ResultVar->Sem Value
 | .tmp t=>pure (tmps.getD t undef)
 | .cell c t=>do loadVar t (<-asAddr (tmps.getD c undef))
theorem tv(hτ:fG P τ)(sat:Sat n l H nx iv B w O a w'):∀{rs:List ResultVar} {k:List SV->Prop},Cr τ B l H nx iv w rs k->
  ∃vs,k vs∧(rs.mapM (H9 a.tmps)).run P w'= .ok (vs.map (SV.den O)) w'
 |[],k,h=>⟨[],h,by simp⟩
 | .tmp t::r,k,h=>by
  unfold Cr at h;split at h
  ·rename_i v hv;obtain⟨vs,h1,h2⟩:=tv hτ sat h;have:=sat.env t v hv;exact⟨v::vs,h1,by rw[List.mapM_cons,Sem.run_bind];simp[H9,this,h2]⟩
  ·exact h.elim
 | .cell t ty::r,k,h=>by
  unfold Cr at h;split at h
  ·rename_i v hv;obtain⟨u,h1,hu,hrun0⟩:=my hτ sat.rel (sat.sc t v hv) h;have hrun:=hrun0 w' sat.rel;clear hrun0;obtain⟨vs,h2,h3⟩:=tv hτ sat h1;have htm:=sat.env t v hv;refine⟨u::vs,h2,?_⟩;have:(do loadVar ty (<-asAddr (v.den O)):Sem Value).run P w'= .ok (u.den O) w':=by
    revert hrun;generalize v.den O=x;intro hrun
    cases x with
    |pointer ad=>
     cases ad with
     |some ad=>simpa [asAddr,Instr.loadAt,Instr.sureAddr]using hrun
     |none=>simp[Instr.loadAt,Instr.sureAddr]at hrun
    |_=>simp[Instr.loadAt,Instr.sureAddr]at hrun
   have h4:(H9 a.tmps (.cell t ty)).run P w'= .ok (u.den O) w':=by
    have e:a.tmps.getD t undef=v.den O:=by simp[htm]
    show(do loadVar ty (<-asAddr (a.tmps.getD t undef)):Sem Value).run P w'=_;rw[e];exact this
   rw[List.mapM_cons,Sem.run_bind,h4];simp[h3]
  ·exact h.elim
theorem Cs(hτ:fG P τ){f:FuncId}{fn:Func}{c:Code}{args:Array Value}{w:World}(hf:P.funcs[f]? =some fn)(hb:fn.body=some c)
  (hn:args.size<=fn.ntmps) (hok:codeOk fn.ntmps c=true) (h:lr P τ w.heap.size c (fW 0 args.toList) [] 0 [] w (Km τ w.heap.size fn.results.toList R)):Calls P f args w R:=by
 refine calls_of_wp hf hb ?_;have sat:Sat fn.ntmps (fW 0 args.toList) [] 0 [] w.heap.size w (fun _=>⟨0,0,true⟩) {tmps:=args++Array.replicate (fn.ntmps-args.size) undef,defers:=[]} w:=by
  refine⟨Rel.mk' rfl rfl rfl (aG _) (aG _) (by simp) (by simp[dA]) (by simp[dA]) (by simp[dA]) (by simp[dA]) (by simp[dA]) (fun _ _ _=>rfl) (by simp),by simp;omega,rfl,fun t v hv=>?_,fun t v hv=>?_⟩
  ·obtain⟨_,x,rfl,hx⟩:=rF _ 0 t v hv;simp only[Nat.sub_zero,bB]at hx;rw[Array.getElem?_append_left (ai.1 hx).1,hx];rfl
  ·obtain⟨_,x,rfl,hx⟩:=rF _ 0 t v hv;trivial
 refine gU hτ c _ _ _ _ _ _ h hok _ _ _ sat _ fun e l' H' nx' iv' w2 ρ' a' w3 hk hs=>?_;have fin:Cr τ w.heap.size l' H' nx' iv' w2 fn.results.toList (H8 w.heap.size H' nx' iv' w2 R)->a'.defers=[]∧∃v,(results fn a'.tmps).run P w3= .ok v w3∧R (.returned v) w3:=by
  intro hk;obtain⟨vs,h1,h2⟩:=tv hτ hs hk;refine⟨hs.defers,if hsz:(vs.map (SV.den ρ')).toArray.size=1 then(vs.map (SV.den ρ')).toArray[0]else .tuple (vs.map (SV.den ρ')).toArray,?_,?_⟩
  ·have e:(fn.results.mapM (H9 a'.tmps)).run P w3= .ok (vs.map (SV.den ρ')).toArray w3:=by
    rw[Array.mapM_eq_mapM_toList];simp only[Sem.run_map,h2,Result.andThen_ok]
   show(do let vs <-fn.results.mapM (H9 a'.tmps);pure (if h:vs.size=1 then vs[0]else .tuple vs):Sem Value).run P w3=_;rw[Sem.run_bind,e];simp only[Result.andThen_ok,Sem.run_pure]
  ·match vs,h1 with
   |[v],h1=>simpa using h1 ρ' w3 hs.rel
   |[],h1=>simpa [mn]using h1 ρ' w3 hs.rel
   |v1::v2::r,h1=>simpa [mn]using h1 ρ' w3 hs.rel
 cases e with
 |normal=>exact fin hk
 |exit id=>exact hk.elim
 |ret=>exact fin hk
end
section
variable{P:Program}{ops:Array Oper}{Q:Exit->Act->World->Prop}{md:Region.Mode}
def gV(P:Program)(ops:Array Oper)(pu:Bool)(o:Oper)(v:Value)(a:Act)(w:World):Prop:=
 (Region.wanted o (yielded ops a.tmps)=true∧∀w2,(pu=true∨Ext w w2)->(execOp a.eval o).run P w2= .ok (.value v) w2)∨
 (Region.wanted o (yielded ops a.tmps)=false∧v=undef)
theorem Ext.refl(w:World):Ext w w:=RowKit.Below.refl _ _
theorem Ext.trans{a b c:World}(h:Ext a b)(k:Ext b c):Ext a c:=RowKit.Below.trans h (k.mono h.size)
theorem gV.wpOp{i:Nat}{o:Oper}{a:Act}(hi:ops[i]? =some o)(hy:gV P ops pu o v a w)
  {K:Act->World->Prop} (h:K (a.put o.dst v) w):wpOp P ops Q i K a w:=by
 unfold Go.wpOp;simp only[hi]
 rcases hy with⟨hw,hv⟩|⟨hw,rfl⟩
 ·simp only[hw,if_true,Oper.wp,hv w (.inr (Ext.refl w)),Oper.upon];exact .inl h
 ·simp only[hw,Bool.false_eq_true,if_false];exact h
theorem gV.of_same{o:Oper}{a a':Act}(hy:gV P ops pu o v a w)(he:execOp a'.eval o=execOp a.eval o)
  (hw:Region.wanted o (yielded ops a'.tmps)=Region.wanted o (yielded ops a.tmps)):gV P ops pu o v a' w:=by
 unfold gV at*
 rw[he,hw];exact hy
theorem gV.ext{o:Oper}{a:Act}(hy:gV P ops pu o v a w)(e:pu=true∨Ext w w2):gV P ops pu o v a w2:=
 hy.imp (fun ⟨h1,h2⟩=>⟨h1,fun w3 h3=>h2 w3 (by
  rcases h3 with h3|h3
  ·exact .inl h3
  ·exact e.imp id (fun e=>e.trans h3))⟩) id
theorem G1{oi oj:Oper}{w0:World}(hj:ops[j]? =some oj)(hap:oi.apart ops oj=true)
  (hsi:∀cs b,oi.op≠ .select cs b) (hsj:∀cs b,oj.op≠ .select cs b)
  (hQ:∀c a w,Q (.panic c) (a.put oi.dst v) w->Q (.panic c) a w) {K:Act->World->Prop} {a:Act}
  (hy:gV P ops pu oi v a w0) (h:wpOp P ops Q j K (a.put oi.dst v) w):
  wpOp P ops Q j (fun a' w'=>gV P ops pu oi v a' w0∧K (a'.put oi.dst v) w') a w:=by
 obtain⟨h1,h2,h3⟩:=Oper.apart_spec hap;have cG:∀(a:Act),gV P ops pu oi v a w0->∀u,gV P ops pu oi v (a.put oj.dst u) w0:=fun a hy u=>
  hy.of_same (execOp_put oi hsi a oj.dst u h3) (wanted_put oi a oj.dst u h3)
 have keepD:∀d,gV P ops pu oi v {a with defers:=d::a.defers} w0:=fun d=>hy.of_same rfl rfl;unfold wpOp at*
 simp only[hj]at*
 rw[wanted_put oj a oi.dst v h1]at h;split
 ·rename_i hw;simp only[hw,if_true]at h;rcases h with h|⟨hasks,hlets⟩
  case inr=>exact .inr ⟨by unfold Oper.asks at *;rw[execOp_put oj hsj a oi.dst v h1]at hasks;exact hasks,hlets⟩
  refine .inl ?_;unfold Oper.wp at*
  rw[execOp_put oj hsj a oi.dst v h1]at h;generalize (execOp a.eval oj).run P w=r at*
  cases r with
  |ok n w'=>
   cases n<;>simp only[Oper.upon]at h ⊢
   case value u=>exact⟨cG a hy u,by rw[<-Act.put_comm a v u h2];exact h⟩
   case skip=>exact⟨cG a hy _,by rw[<-Act.put_comm a v undef h2];exact h⟩
   case defer d=>
    refine⟨cG _ (keepD d) _,?_⟩;rw[<-Act.put_comm _ v undef h2,<-Act.put_defers];exact h
   case enter f args=>
    refine Calls.mono h fun e w'' he=>?_
    cases e with
    |returned u=>exact⟨cG a hy u,by rw[<-Act.put_comm a v u h2];exact he⟩
    |panicked c=>exact hQ _ _ _ he
    |outgrown=>exact he
   case row row args=>exact Rows.mono h fun u w'' he=>⟨cG a hy u,by rw[<-Act.put_comm a v u h2];exact he⟩
  |halt x w'=>
   cases x<;>simp only[Oper.upon]at h ⊢
   case panic u=>exact hQ _ _ _ h
 ·rename_i hw;simp only[hw]at h;exact⟨cG a hy _,by rw[<-Act.put_comm a v undef h2];exact h⟩
def qO(o:Oper):Bool:= !(tm o.op||JX o.op||(match o.op with
 | .call ⟨.value _,_,_⟩=> !(Nat.beq o.type 0)
 |_=>false))
def fV(o:Oper):Bool:=match o.op with
 | .call ⟨.value _,_,_⟩=>Nat.beq o.type 0
 |_=>false
theorem rA{o:Oper}(h:tm o.op=true):fV o=false:=by
 unfold fV;split
 ·rename_i e;rw[e]at h
  cases h
 ·rfl
theorem EN{o:Oper}(h:JX o.op=true):fV o=false:=by
 unfold fV;split
 ·rename_i e;rw[e]at h
  cases h
 ·rfl
theorem qW{o:Oper}(h:qO o=false):fV o=false:=by
 unfold fV;split
 ·rename_i e;simp only[qO,e,tm,JX,Bool.false_or,Bool.not_not]at h;exact h
 ·rfl
def tn(P:Program)(md:Region.Mode)(ops:Array Oper)(Q:Exit->Act->World->Prop):Nat->Array Bool->Act->World->Prop
 |0,listed,a,w=>Region.ready md ops listed=[]∧Q .normal a w
 |fuel+1,listed,a,w=>
  (Region.ready md ops listed=[]->Q .normal a w)∧
  ∀i∈Region.ready md ops listed,wpOp P ops Q i (fun a' w'=>((∀o,ops[i]? =some o->qO o=false)->Ext w w')∧tn P md ops Q fuel (listed.setIfInBounds i true) a' w') a w
theorem xT:∀(fuel:Nat) (listed:Array Bool) (a:Act) (w:World),tn P md ops Q fuel listed a w->wpAny P md ops Q fuel listed a w
 |0,_,_,_,h=>h
 |fuel+1,_,_,_,h=>⟨h.1,fun i hi=>wpOp_mono (fun a' w' h'=>xT fuel _ a' w' h'.2) (h.2 i hi)⟩
theorem sG{i:Nat}{oi:Oper}(hi:ops[i]? =some oi)(hsel:∀(j:Nat) (o:Oper) cs b,ops[j]? =some o->o.op≠ .select cs b)
  (hQ:∀c a w,Q (.panic c) (a.put oi.dst v) w->Q (.panic c) a w) (AR:Nat->Prop) (hblk:∀j,AR j->∃oj e,ops[j]? =some oj∧e∈oj.after∧Region.binds md e=true∧(e.on=i∨AR e.on)):
  ∀(fuel:Nat) (listed:Array Bool) (a:Act) (w:World),(∀j,AR j->listed.getD j false=false)->
   (∀j oj,ops[j]? =some oj->j≠i->listed.getD j true=false->¬AR j->oi.apart ops oj=true∧(pu=true∨qO oj=false))->
   i∈Region.ready md ops listed->gV P ops pu oi v a w->
   tn P md ops Q fuel (listed.setIfInBounds i true) (a.put oi.dst v) w->tn P md ops Q (fuel+1) listed a w:=by
 intro fuel
 induction fuel with
 |zero=>
  intro listed a w _ _ hr hy H;refine⟨fun h=>(by rw[h]at hr;cases hr),fun j hj=>?_⟩;by_cases hji:j=i
  ·subst hji;exact hy.wpOp hi ⟨fun _=>Ext.refl w,H⟩
  ·have:=ready_mono hj hji;rw[H.1]at this
   cases this
 |succ fuel ih=>
  intro listed a w hbl hfree hr hy H;refine⟨fun h=>(by rw[h]at hr;cases hr),fun j hj=>?_⟩;by_cases hji:j=i
  ·subst hji;exact hy.wpOp hi ⟨fun _=>Ext.refl w,H⟩
  ·have h1:=H.2 j (ready_mono hj hji);obtain⟨hjun,oj,hoj,hall⟩:=mem_ready.1 hj;have hnot:¬AR j:=fun hb=>by
    obtain⟨oj',e,ho',he,hbi,hor⟩:=hblk j hb;rw[hoj]at ho';injection ho' with ho';subst ho';have h1:=hall e he hbi;rcases hor with heq|hb2
    ·have h0:=(mem_ready.1 hr).1;rw[heq]at h1;rcases aQ i listed.size with h'|h'
     ·simp[h']at h0 h1;rw[h0]at h1;cases h1
     ·simp[Array.getElem?_eq_none h']at h1
    ·rw[hbl _ hb2]at h1;cases h1
   have hfj:=hfree j oj hoj hji hjun hnot;have h2:=G1 hoj hfj.1 (fun cs b=>hsel i oi cs b hi) (fun cs b=>hsel j oj cs b hoj) hQ hy h1;have hbl':∀k,AR k->(listed.setIfInBounds j true).getD k false=false:=fun k hk=>by
    rw[getD_set_ne false (fun e=>(by subst e;exact hnot hk))];exact hbl k hk
   have hfree':∀k ok,ops[k]? =some ok->k≠i->(listed.setIfInBounds j true).getD k true=false->
     ¬AR k->oi.apart ops ok=true∧(pu=true∨qO ok=false):=fun k ok hk hki hun hno=>by
    refine hfree k ok hk hki ?_ hno;by_cases hjk:j=k
    ·subst hjk;exact hjun
    ·rw[getD_set_ne true hjk]at hun;exact hun
   refine wpOp_mono (fun a' w' h3=>?_) h2;have hext:qO oj=false->Ext w w':=fun hf=>h3.2.1 (fun o ho=>by rw[hoj]at ho;injection ho with ho;subst ho;exact hf);refine⟨fun hh=>hext (hh oj hoj),ih (listed.setIfInBounds j true) a' w' hbl' hfree' (ready_mono hr (Ne.symm hji)) (h3.1.ext (hfj.2.imp id hext)) ?_⟩;rw[Array.setIfInBounds_comm _ _ hji];exact h3.2.2
end
section
variable{P:Program}{τ:mL}{B n nx:Nat}{l:Env}{H:Hp}{iv:Iv}{w w':World}{O:Nat->df}{a:Act}
def AL(P:Program)(o:Oper)(a:Act)(mk:Nat->Value)(obj:Obj):Prop:=
 ∀w:World,(execOp a.eval o).run P w= .ok (.value (mk w.heap.size)) (w.alloc obj)
theorem AL.uniq{o:Oper}{mk':Nat->Value}{obj':Obj}(h:AL P o a mk obj)(h':AL P o a mk' obj'):obj=obj'∧mk=mk':=by
 have key:∀w:World,mk w.heap.size=mk' w.heap.size∧w.alloc obj=w.alloc obj':=fun w=>by
  have:=(h w).symm.trans (h' w);injection this with h1 h2;injection h1 with h1;exact⟨h1,h2⟩
 refine⟨?_,funext fun g=>?_⟩
 ·have:=(key default).2;have h2:=congrArg (fun w:World=>w.heap[(default:World).heap.size]?) this;simp only[heap_alloc_new]at h2;injection h2
 ·have:=(key {(default:World)with heap:=Array.replicate g default}).1;simpa using this
theorem mo(hτ:fG P τ){o:Oper}(h:xM dr P τ B o l H nx iv w K)(sat:Sat n l H nx iv B w O a w')(hk:JX o.op=true):
  ∃b v mk obj,K v ((nx,b)::H) (nx+1) iv w∧b≠ .dead∧b.scopd nx∧v.sc (nx+1)∧(∀g,v.den (gI O nx ⟨g,0,false⟩)=mk g)∧(∀g w2,w2.heap[g]? =some obj->b.fits O ⟨g,0,false⟩ w2)∧AL P o a mk obj:=by
 obtain⟨dst,op,ty,pos,after,guard⟩:=o;unfold xM at h;split at h<;>first|(exact False.elim h)|(rename_i hop;simp only at hop;subst hop)
 all_goals first|(exact absurd hk Bool.false_ne_true)|skip
 ·rename_i t;split at h
  ·rename_i sz ag by_ ze tag ik e al fs hti;have hK:=fJ h;refine⟨_,_,fun g=>.pointer (some ⟨g,0,none⟩),.cells ze.toArray t,hK,by simp,(fun c hc=>by obtain⟨v,_,rfl⟩:=aT.1 hc;trivial),by simp[SV.sc,At.sc],fun g=>by simp[SV.den,At.den],fun g w2 hg=>⟨rfl,by rw[fH];exact hg⟩,fun w=>?_⟩;obtain⟨z,hz1,hz2⟩:=(hτ t _ hti).zeroV w;simp only at hz2;have hzz:z.cells=ze.toArray:=by apply Array.ext';simpa using hz2
   simp[execOp,Instr.alloc,hz1,newVar,newRow,hzz]
  ·exact h.elim
 ·rename_i t x;obtain⟨v,h1,hv,hs⟩:=dO sat h;obtain⟨cs,hK,hcells,hsc⟩:=lH h1;refine⟨_,_,fun g=>.pointer (some ⟨g,0,none⟩),.cells (cs.map (At.den O)).toArray t,hK,by simp,hsc nx hs,by simp[SV.sc,At.sc],fun g=>by simp[SV.den,At.den],fun g w2 hg=>⟨rfl,hg⟩,fun w=>?_⟩;simp[execOp,Instr.box,hv,newVar,newRow,hcells O]
 ·rename_i t m parts;split at h
  ·rename_i sz ag by_ ze tag ik e al fs hti;have ht:=hτ t _ hti;split at h
   ·rename_i htag;have hu:=ht.i4 (eG htag);simp only at hu;split at h
    ·rename_i sz' ag' by' ze' tag' ik' e' al' fs' hte
     have hte:=hτ e _ hte;obtain⟨inf,z,hi,hsz,hby,hz,hzc⟩:=hte.info;have hzl:=hte.GP;simp only at hsz hby hzc hzl;split at h
     ·rename_i hle;have hle:=Nat.le_of_ble_eq_true hle;have h0:=fJ h;obtain⟨cs',hK,hcs,hlen,hfill⟩:=jf sat (placeF:=fun i=>some (i*inf.size,inf.size)) (fun i k hk=>⟨i*sz',sz',hk,by rw[hsz]⟩) h0
       (fun c hc=>by obtain⟨v,_,rfl⟩:=aT.1 hc;trivial)
      rw[fH]at hfill;have hzarr:z.cells=ze'.toArray:=by apply Array.ext';simpa using hzc
      have hmade:((List.replicate m ze').flatten).toArray=madeCells z.cells (m*inf.size):=by
       rw[hzarr,hsz,<-hzl];exact(po ze' m).symm
      refine⟨_,_,fun g=>.slice (some ⟨g,0,none⟩) m m,.cells (cs'.map (At.den O)).toArray e,hK,by simp,hcs,by simp[SV.sc,At.sc],fun g=>by simp[SV.den,At.den],fun g w2 hg=>⟨rfl,hg⟩,fun w=>?_⟩;simp only[execOp]
      refine lI ?_;rw[hmade]at hfill;by_cases hpos:m*inf.size=0
      ·have hfill':Instr.fill (fun i=>some (i*inf.size,inf.size)) (madeCells z.cells 0) (parts.toList.map fun p=>(p.1,a.eval p.2))=some (cs'.map (At.den O)).toArray:=by rw[hpos]at hfill;exact hfill
       have e0:madeCells z.cells 0= #[]:=by simp[madeCells]
       rw[e0]at hfill';have er:Array.range 0= #[]:=rfl;simp[Instr.buildSlice,run_underlying hu,sizeOf,typeInfo,zeroValue,hi,hz,hpos,newRow,hfill',er]
      ·exact run_buildSlice w t e m _ _ inf z hu hi hz (by rw[hsz];omega) hpos (by rw[<-hfill];simp[madeCells])
     ·exact h.elim
    ·exact h.elim
   ·exact h.elim
  ·exact h.elim
 ·rename_i t x y;obtain⟨v,h1,hv,hvs⟩:=dO sat h;obtain⟨u,h2,hu,hus⟩:=dO sat h1;clear hvs hus;unfold F4 at h2;split at h2
  ·rename_i k1 a1 k2 b1;split at h2
   ·rename_i sz ag by_ ze tag ik e al fs hti;have ht:=hτ t _ hti;split at h2
    ·rename_i htag;have hut:=ht.i4 (eG htag);simp only at hut;split at h2
     ·rename_i sz' ag' by' ze' tag' ik' e' al' fs' hte
      have hte:=hτ e _ hte;obtain⟨inf,z,hi,hsz,hby,hz,hzc⟩:=hte.info;simp only at hsz hby hzc;obtain⟨m,c,rfl,rfl,hmc,hbytes,h63,h3⟩:=h2;have hb':(inf.bytes:Int)*(c:Int)<=281474976710656:=by
       rw[hby];have hb2:((by'*c:Nat):Int)<=281474976710656:=by omega
       rwa [Int.natCast_mul]at hb2
      have hrun:=fun w:World=>run_make (P:=P) w t e inf z hut hi hz k1 k2 (m:Int) (c:Int) (by omega) (by omega) hb' (by omega);simp only[aF]at hrun;have hzl:=hte.GP;simp only at hzl;have hzarr:z.cells=ze'.toArray:=by apply Array.ext';simpa using hzc
      have fin:∀cs:List Value,cs.toArray=madeCells z.cells (c*inf.size)->zf (.arr e cs) H nx (fun H' nx'=>K (.o (.s nx 0 m c)) H' nx' iv w)->
        ∃b v mk obj,K v ((nx,b)::H) (nx+1) iv w∧b≠ .dead∧b.scopd nx∧v.sc (nx+1)∧(∀g,v.den (gI O nx ⟨g,0,false⟩)=mk g)∧(∀g w2,w2.heap[g]? =some obj->b.fits O ⟨g,0,false⟩ w2)∧
         AL P ⟨dst,.makeSlice t x y,ty,pos,after,guard⟩ a mk obj:=by
       intro cs hcs hK;refine⟨_,_,fun g=>.slice (some ⟨g,0,none⟩) m c,.cells cs.toArray e,hK,by simp,trivial,by simp[SV.sc,At.sc],fun g=>by simp[SV.den,At.den],fun g w2 hg=>⟨rfl,hg⟩,fun w=>?_⟩;simp only[execOp,hv,hu]
       refine lI ?_;rw[show SV.den O (.o (.v (.int k1 m)))= .int k1 m from rfl,show SV.den O (.o (.v (.int k2 c)))= .int k2 c from rfl,hrun w,hcs]
      split at h3
      ·rename_i z0;refine fin _ ?_ h3;have:inf.size=1:=by rw[hsz,<-hzl];rfl
       rw[this,aU,hzarr,Cq]
      ·refine fin _ ?_ h3;rw[hsz,<-hzl,hzarr,po]
     ·exact h2.elim
    ·exact h2.elim
   ·exact h2.elim
  ·exact h2.elim
end
inductive It where
 |x (i:Nat)
 |p (i:Nat)
def C5:Env->Nat->(Env->Prop)->Prop
 |[],_,k=>k []
 |(t,v)::r,u,k=>match Nat.beq t u with
  |true=>C5 r u k
  |false=>C5 r u (fun r'=>k ((t,v)::r'))
def MW(d:Option Tmp)(l:Env)(k:Env->Prop):Prop:=match d with
 |some t=>C5 l t k
 |none=>k l
def qv:List Oper->Nat->(Oper->Prop)->Prop
 |[],_,_=>False
 |o::_,0,k=>k o
 |_::r,n+1,k=>qv r n k
def HT(P:Program)(τ:mL)(B:Nat)(all:List Oper):List It->Env->Hp->Nat->Iv->World->KT->Prop
 |[],l,H,nx,iv,w,K=>K l H nx iv w
 | .x i::r,l,H,nx,iv,w,K=>qv all i (fun o=>gT (!fV o) P τ B all o l H nx iv w (fun l' H' nx' iv' w'=>HT P τ B all r l' H' nx' iv' w' K))
 | .p i::r,l,H,nx,iv,w,K=>qv all i (fun o=>xM true P τ B o l H nx iv w (fun _ _ _ _ _=>MW o.dst l (fun l'=>HT P τ B all r l' H nx iv w K)))
def GL(ops:Array Oper)(o:Oper)(j:Nat):Bool:=match ops[j]? with
 |some oj=>o.apart ops oj
 |none=>false
def C6(la:Array Bool):List Nat->Array Bool
 |[]=>la
 |i::r=>C6 (la.setIfInBounds i true) r
def tb(m j:Nat):Bool:=Nat.beq ((m >>> j) % 2) 1
def hJ:List Bool->Nat->Nat
 |[],_=>0
 |true::r,j=>(1 <<< j) ||| hJ r (j+1)
 |false::r,j=>hJ r (j+1)
def zc(m i:Nat):List Oper->Nat->Nat->Nat
 |[],_,b=>b
 |o::r,j,b=>match(!tb m j&& !Nat.beq j i)&&o.after.toList.any (fun e=>Region.binds .any e&&(Nat.beq e.on i||tb b e.on))with
  |true=>zc m i r (j+1) (b ||| (1 <<< j))
  |false=>zc m i r (j+1) b
def F0(ops:Array Oper)(m i:Nat)(oi:Oper)(b:Nat):List Oper->Nat->Bool
 |[],_=>true
 |oj::r,j=>(Nat.beq j i||tb m j||tb b j||(oi.apart ops oj&&(GM oi.op|| !qO oj)))&&F0 ops m i oi b r (j+1)
def KR(ops:Array Oper)(m:Nat)(Pd:List Nat)(i:Nat)(oi:Oper)(b:Nat):Bool:=Pd.all (fun j=> !tb b j)&&F0 ops m i oi b ops.toList 0
def F1(ops:Array Oper)(m:Nat)(Pd:List Nat)(i:Nat)(oi:Oper):Bool:=KR ops m Pd i oi (zc m i ops.toList 0 0)
def oQ(ops:Array Oper):List It->Array Bool->List Nat->Bool
 |[],lx,Pd=>(Region.ready .any ops lx).isEmpty&&Pd.isEmpty
 | .p i::r,lx,Pd=>match ops[i]? with
  |none=>false
  |some o=>JX o.op&&o.guard.isNone&&(match o.dst with
     |some d=> !(o.looksAt ops).contains d
     |none=>false)&&(!lx.getD i true)&&Pd.all (fun j=> !Nat.beq j i)&&
    Pd.all (fun j=>GL ops o j&&(match ops[j]? with
     |some oj=>oj.apart ops o
     |none=>false))&&oQ ops r lx (i::Pd)
 | .x i::r,lx,Pd=>match ops[i]? with
  |none=>false
  |some o=>(o.guard.isNone||Pd.isEmpty)&&(Region.ready .any ops lx).contains i&&
    Pd.all (fun j=>Nat.beq j i||GL ops o j)&&
    (match tm o.op with
     |true=>F1 ops (hJ lx.toList 0) Pd i o
     |false=>(!qO o||Pd.isEmpty)&&(Region.ready .any ops (C6 lx (Pd.filter fun j=> !Nat.beq j i))).all (fun j=>Nat.beq j i))&&
    oQ ops r (lx.setIfInBounds i true) (Pd.filter fun j=> !Nat.beq j i)
theorem mM(h:j<la.size)(b c:Bool):la.getD j b=la.getD j c:=by
 rw[aZ,aZ,Array.getElem?_eq_getElem h];rfl
theorem mO{a b:Nat}:Nat.beq a b=false↔a≠b:=⟨fun h e=>(by subst e;rw[Nat.beq_refl]at h;cases h),fun h=>by
 cases hb:Nat.beq a b with
 |false=>rfl
 |true=>exact absurd (eG hb) h⟩
theorem HU{a b:Nat}(h:b<a):Nat.ble a b=false:=by
 cases hb:Nat.ble a b with
 |false=>rfl
 |true=>exact absurd (Nat.le_of_ble_eq_true hb) (by omega)
theorem qw(m j:Nat):tb m j=m.testBit j:=by
 rw[Nat.testBit_eq_decide_div_mod_eq,tb,Nat.shiftRight_eq_div_pow]
 cases h:decide (m / 2^j % 2=1)with
 |true=>rw[aI h];rfl
 |false=>exact mO.2 (aH h)
theorem C7(a b j:Nat):tb (a ||| b) j=(tb a j||tb b j):=by rw[qw,qw,qw,Nat.testBit_or]
theorem EI(i j:Nat):tb (1 <<< i) j=Nat.beq j i:=by
 rw[qw,Nat.one_shiftLeft,Nat.testBit_two_pow]
 cases h:Nat.beq j i with
 |true=>exact bR (eG h).symm
 |false=>exact bF fun e=>(mO.1 h) e.symm
theorem sE(j:Nat):tb 0 j=false:=by rw[qw,Nat.zero_testBit]
theorem C8:∀(l:List Bool) (k j:Nat),tb (hJ l k) j=(Nat.ble k j&&l.getD (j-k) false)
 |[],k,j=>by unfold hJ;rw[sE];simp
 |b::r,k,j=>by
  have e:tb (hJ (b::r) k) j=((b&&Nat.beq j k)||tb (hJ r (k+1)) j):=by
   cases b<;>simp only[hJ,C7,EI,Bool.false_and,Bool.true_and,Bool.false_or]
  rw[e,C8 r (k+1) j];rcases bq j k with h|h|h
  ·rw[mO.2 (by omega),Bool.and_false,Bool.false_or,HU (by omega),HU (by omega)];rfl
  ·subst h;rw[Nat.beq_refl,HU (by omega),Nat.ble_eq_true_of_le (aG j),bM];simp
  ·rw[mO.2 (by omega),Bool.and_false,Bool.false_or,Nat.ble_eq_true_of_le (show k+1<=j from h),Nat.ble_eq_true_of_le (Nat.le_of_lt h),show j-k=(j-(k+1))+1 by omega,List.getD_cons_succ]
def Rm(lx:Array Bool)(m:Nat):Prop:=∀j,tb m j=lx.getD j false
theorem wj(lx:Array Bool):Rm lx (hJ lx.toList 0):=fun j=>by
 rw[C8,show Nat.ble 0 j=true from Nat.ble_eq_true_of_le (aP j),Bool.true_and,Nat.sub_zero,aZ,List.getD,bB]
theorem Rm.eq{m':Nat}(h:Rm lx m)(h':Rm lx m'):m=m':=Nat.eq_of_testBit_eq fun j=>by rw[<-qw,<-qw,h,h']
theorem mP{ops:Array Oper}{m i:Nat}:∀(l:List Oper) (k b:Nat),(∀n o,l[n]? =some o->ops[k+n]? =some o)->
  (∀j,tb b j=true->tb m j=false∧j≠i∧∃oj e,ops[j]? =some oj∧e∈oj.after∧Region.binds .any e=true∧(e.on=i∨∃b2,tb b2 e.on=true∧b2=b))->
  ∀j,tb (zc m i l k b) j=true->tb m j=false∧j≠i∧∃oj e,ops[j]? =some oj∧e∈oj.after∧Region.binds .any e=true∧(e.on=i∨tb (zc m i l k b) e.on=true)
 |[],k,b,_,h,j,hj=>by
  obtain⟨h1,h2,oj,e,h3,h4,h5,h6⟩:=h j hj;exact⟨h1,h2,oj,e,h3,h4,h5,h6.imp id fun⟨_,h7,h8⟩=>h8▸h7⟩
 |o::r,k,b,hl,h,j,hj=>by
  have hr:∀n o',r[n]? =some o'->ops[k+1+n]? =some o':=fun n o' hn=>by
   have:=hl (n+1) o' (by simpa using hn)
   rwa [show k+(n+1)=k+1+n by omega]at this
  unfold zc at hj ⊢
  cases hc:((!tb m k&& !Nat.beq k i)&&o.after.toList.any (fun e=>Region.binds .any e&&(Nat.beq e.on i||tb b e.on)))with
  |false=>
   rw[hc]at hj;exact mP r (k+1) b hr h j hj
  |true=>
   rw[hc]at hj;refine mP r (k+1) (b ||| (1 <<< k)) hr (fun j hj=>?_) j hj;rw[C7,EI,Bool.or_eq_true]at hj;rcases hj with hj|hj
   ·obtain⟨h1,h2,oj,e,h3,h4,h5,h6⟩:=h j hj;refine⟨h1,h2,oj,e,h3,h4,h5,h6.imp id fun⟨b2,h7,h8⟩=>⟨_,?_,rfl⟩⟩;rw[C7,<-h8,h7];rfl
   ·have hj:=eG hj;subst hj;simp only[ah,Bool.not_eq_true',List.any_eq_true]at hc;obtain⟨⟨h1,h2⟩,e,he,h3,h4⟩:=hc;refine⟨h1,mO.1 h2,o,e,by have:=hl 0 o (by simp);simpa using this,by simpa using he,h3,?_⟩;rw[Bool.or_eq_true]at h4;exact h4.imp eG fun h5=>⟨_,by rw[C7,h5];rfl,rfl⟩
theorem xN{ops:Array Oper}{m i:Nat}{oi:Oper}{b:Nat}:∀(l:List Oper) (k:Nat),F0 ops m i oi b l k=true->∀n oj,l[n]? =some oj->k+n≠i->tb m (k+n)=false->tb b (k+n)=false->oi.apart ops oj=true∧(GM oi.op=true∨qO oj=false)
 |[],_,_,n,oj,hn,_,_,_=>by simp at hn
 |o::r,k,h,n,oj,hn,h1,h2,h3=>by
  unfold F0 at h;rw[ah]at h
  cases n with
  |zero=>
   rw[List.getElem?_cons_zero]at hn;injection hn with hn;subst hn;rw[bw]at h1 h2 h3;rw[mO.2 h1,h2,h3]at h;simpa using h.1
  |succ n=>
   rw[List.getElem?_cons_succ]at hn;rw[show k+(n+1)=k+1+n by omega]at h1 h2 h3;exact xN r (k+1) h.2 n oj hn h1 h2 h3
theorem EJ{ops:Array Oper}{i:Nat}{oi:Oper}(h:F1 ops (hJ lx.toList 0) Pd i oi=true)(hs:lx.size=ops.size):∃AR:Nat->Prop,
  (∀j,AR j->∃oj e,ops[j]? =some oj∧e∈oj.after∧Region.binds .any e=true∧(e.on=i∨AR e.on))∧(∀j,AR j->lx.getD j false=false)∧(∀j∈Pd,¬AR j)∧
  ∀j oj,ops[j]? =some oj->j≠i->lx.getD j true=false->¬AR j->oi.apart ops oj=true∧(GM oi.op=true∨qO oj=false):=by
 unfold F1 KR at h;rw[ah]at h;have hm:=wj lx;have hb:=mP (ops:=ops) (m:=hJ lx.toList 0) (i:=i) ops.toList 0 0 (fun n o hn=>by rw[aV];rwa [bB]at hn) (fun j hj=>by rw[sE]at hj;cases hj);generalize zc (hJ lx.toList 0) i ops.toList 0 0=b at*
 refine⟨fun j=>tb b j=true,fun j hj=>(hb j hj).2.2,fun j hj=>(hm j).symm.trans (hb j hj).1,fun j hj hk=>?_,fun j oj hoj hji hl hk=>?_⟩
 ·have:=List.all_eq_true.1 h.1 j hj;rw[hk]at this;cases this
 ·have hj:=(ai.1 hoj).1;exact xN ops.toList 0 h.2 j oj (by rw[bB];exact hoj) (by omega) (by rw[aV,hm,mM (by omega) false true];exact hl) (by rw[aV];simpa using hk)
def C9(m:Nat):List Oper->Nat->List Nat
 |[],_=>[]
 |o::r,j=>match !tb m j&&o.after.toList.all (fun e=> !Region.binds .any e||tb m e.on)with
  |true=>j::C9 m r (j+1)
  |false=>C9 m r (j+1)
def sm(n m i:Nat):Nat:=match Nat.blt i n with
 |true=>m ||| (1 <<< i)
 |false=>m
def MR(n:Nat)(m:Nat):List Nat->Nat
 |[]=>m
 |i::r=>MR n (sm n m i) r
def EK(ops:Array Oper)(n:Nat):List It->Nat->List Nat->Bool
 |[],m,Pd=>(C9 m ops.toList 0).isEmpty&&Pd.isEmpty
 | .p i::r,m,Pd=>match ops[i]? with
  |none=>false
  |some o=>JX o.op&&o.guard.isNone&&(match o.dst with
     |some d=> !(o.looksAt ops).contains d
     |none=>false)&&(Nat.blt i n&& !tb m i)&&Pd.all (fun j=> !Nat.beq j i)&&
    Pd.all (fun j=>GL ops o j&&(match ops[j]? with
     |some oj=>oj.apart ops o
     |none=>false))&&EK ops n r m (i::Pd)
 | .x i::r,m,Pd=>match ops[i]? with
  |none=>false
  |some o=>(o.guard.isNone||Pd.isEmpty)&&(C9 m ops.toList 0).contains i&&
    Pd.all (fun j=>Nat.beq j i||GL ops o j)&&
    (match tm o.op with
     |true=>F1 ops m Pd i o
     |false=>(!qO o||Pd.isEmpty)&&(C9 (MR n m (Pd.filter fun j=> !Nat.beq j i)) ops.toList 0).all (fun j=>Nat.beq j i))&&
    EK ops n r (sm n m i) (Pd.filter fun j=> !Nat.beq j i)
theorem F2{ops:Array Oper}{lx:Array Bool}{m:Nat}(hR:Rm lx m)(hs:lx.size=ops.size):∀(l:List Oper) (k:Nat),(∀n,n<l.length->ops[k+n]? =l[n]?)->k+l.length<=ops.size->
  C9 m l k=(List.range' k l.length).filter fun i=> !lx.getD i true&&((ops[i]?).map (·.after.all fun e=> !Region.binds .any e||lx.getD e.on false)).getD false
 |[],_,_,_=>rfl
 |o::r,k,h,hk=>by
  rw[List.length_cons]at hk
  have ih:=F2 hR hs r (k+1) (fun n hn=>by
   have:=h (n+1) (by simpa using hn)
   rw[show k+1+n=k+(n+1) by omega,this,List.getElem?_cons_succ]) (by omega)
  have h0:ops[k]? =some o:=by have:=h 0 (by simp);simpa using this
  rw[List.length_cons,List.range'_succ,List.filter_cons,<-ih];have e:(!lx.getD k true&&((ops[k]?).map (·.after.all fun e=> !Region.binds .any e||lx.getD e.on false)).getD false)=(!tb m k&&o.after.toList.all fun e=> !Region.binds .any e||tb m e.on):=by
   rw[h0,hR k,mM (by omega) true false,Option.map_some,Option.getD_some,Array.all_toList];simp only[hR _]
  rw[e,C9]
  cases (!tb m k&&o.after.toList.all fun e=> !Region.binds .any e||tb m e.on)<;>rfl
theorem EM{ops:Array Oper}(hR:Rm lx m)(hs:lx.size=ops.size):C9 m ops.toList 0=Region.ready .any ops lx:=by
 rw[F2 hR hs ops.toList 0 (fun n _=>by rw[aV,bB]) (by simp)];unfold Region.ready;rw[List.range_eq_range',Array.length_toList]
theorem Rm.set(hR:Rm lx m)(i:Nat):Rm (lx.setIfInBounds i true) (sm lx.size m i):=fun j=>by
 unfold sm;rw[aZ,Array.getElem?_setIfInBounds]
 cases h:Nat.blt i lx.size with
 |true=>
  have h:=Nat.le_of_ble_eq_true h;show tb (m ||| (1 <<< i)) j=_;rw[C7,EI];by_cases hij:i=j
  ·rw[if_pos hij,if_pos (by omega),hij,Nat.beq_refl,Bool.or_true];rfl
  ·rw[aK hij,mO.2 (Ne.symm hij),Bool.or_false,hR,aZ]
 |false=>
  show tb m j=_;have h:¬i<lx.size:=fun h2=>by rw[show Nat.blt i lx.size=true from Nat.ble_eq_true_of_le h2]at h;cases h
  by_cases hij:i=j
  ·rw[if_pos hij,aK h,hR,aZ,<-hij,Array.getElem?_eq_none (by omega)]
  ·rw[aK hij,hR,aZ]
theorem HV:∀(r:List Nat) (lx:Array Bool),(C6 lx r).size=lx.size
 |[],_=>rfl
 |i::r,lx=>by unfold C6;rw[HV r,bU]
theorem Rm.C6{n:Nat}:∀(r:List Nat) (lx:Array Bool) (m:Nat),lx.size=n->Rm lx m->Rm (C6 lx r) (MR n m r)
 |[],_,_,_,h=>h
 |i::r,lx,m,hn,h=>by
  unfold Go.Sx.C6 MR;exact Rm.C6 r _ _ (by rw[bU];exact hn) (hn▸h.set i)
theorem BT{ops:Array Oper}:∀(π:List It) (lx:Array Bool) (m:Nat) (Pd:List Nat),lx.size=ops.size->Rm lx m->EK ops ops.size π m Pd=oQ ops π lx Pd
 |[],lx,m,Pd,hs,h=>by unfold EK oQ;rw[EM h hs]
 | .p i::r,lx,m,Pd,hs,h=>by
  unfold EK oQ
  cases ho:ops[i]? with
  |none=>rfl
  |some o=>
   have hi:=(ai.1 ho).1;simp only[BT r lx m (i::Pd) hs h,h i,mM (show i<lx.size by omega) true false,show Nat.blt i ops.size=true from Nat.ble_eq_true_of_le hi,Bool.true_and]
 | .x i::r,lx,m,Pd,hs,h=>by
  unfold EK oQ
  cases ho:ops[i]? with
  |none=>rfl
  |some o=>
   obtain rfl:=h.eq (wj lx);have h1:=BT r (lx.setIfInBounds i true) (sm ops.size (hJ lx.toList 0) i) (Pd.filter fun j=> !Nat.beq j i) (by rw[bU];exact hs) (hs▸h.set i);have h2:=EM (Rm.C6 (n:=ops.size) (Pd.filter fun j=> !Nat.beq j i) lx (hJ lx.toList 0) hs h) (by rw[HV];exact hs);simp only[h1,h2,EM h hs]
theorem eQ{ops:Array Oper}:j∈Region.ready .any ops la↔
  la[j]? =some false∧∃o,ops[j]? =some o∧∀e∈o.after,Region.binds .any e=true->la[e.on]? =some true:=by
 rw[mem_ready];have h1:la.getD j true=false↔la[j]? =some false:=by
  rw[aZ]
  cases la[j]? with
  |none=>simp
  |some b=>simp
 have h2:∀k,la.getD k false=true↔la[k]? =some true:=fun k=>by
  rw[aZ]
  cases la[k]? with
  |none=>simp
  |some b=>simp
 simp only[h1,h2]
theorem oR{i:Nat}:(la.setIfInBounds i true)[j]? =some true↔la[j]? =some true∨(j=i∧j<la.size):=by
 rw[Array.getElem?_setIfInBounds];split
 ·rename_i h;subst h;by_cases hs:i<la.size
  ·simp[hs]
  ·simp[hs]
 ·rename_i h;simp[Ne.symm h]
theorem Ca:∀(Pd:List Nat) (la:Array Bool),(C6 la Pd).size=la.size
 |[],_=>rfl
 |i::r,la=>by simp[C6,Ca r]
theorem xO:∀(Pd:List Nat) (la:Array Bool) (j:Nat),(C6 la Pd)[j]? =some true↔la[j]? =some true∨(j∈Pd∧j<la.size)
 |[],_,_=>by simp[C6]
 |i::r,la,j=>by
  rw[C6,xO r,oR];simp only[bU,List.mem_cons]
  constructor
  ·rintro((h|⟨h,hs⟩)|⟨h,hs⟩)
   ·exact .inl h
   ·exact .inr ⟨.inl h,hs⟩
   ·exact .inr ⟨.inr h,hs⟩
  ·rintro(h|⟨h|h,hs⟩)
   ·exact .inl (.inl h)
   ·exact .inl (.inr ⟨h,hs⟩)
   ·exact .inr ⟨h,hs⟩
def Kf(la:Array Bool):Nat:=la.toList.countP (fun b=> !b)
theorem kD{i:Nat}(h:la[i]? =some false):Kf (la.setIfInBounds i true)+1=Kf la:=by
 obtain⟨hi,he⟩:=ai.1 h;have hi':i<la.toList.length:=by simpa using hi
 have hpos:0<la.toList.countP (fun b=> !b):=List.countP_pos_iff.2 ⟨false,by
  have:la[i]∈la:=Array.getElem_mem hi;rw[he]at this
  simpa using this,rfl⟩
 unfold Kf;rw[Array.toList_setIfInBounds,List.countP_set hi'];simp only[Array.getElem_toList,he]
 simp only[Bool.not_false,if_true,Bool.not_true,Bool.false_eq_true,if_false,bw]
 exact Nat.sub_add_cancel hpos
theorem qz:∀{l:Env} {u:Nat} {k:Env->Prop},C5 l u k->∃l',k l'∧fF l' u=none∧∀t v,fF l' t=some v->t≠u∧fF l t=some v
 |[],u,k,h=>⟨[],h,rfl,fun t v h=>by cases h⟩
 |(t0,v0)::r,u,k,h=>by
  unfold C5 at h;split at h
  ·rename_i hb;have hb:=eG hb;obtain⟨l',h1,h2,h3⟩:=qz h;refine⟨l',h1,h2,fun t v hv=>⟨(h3 t v hv).1,?_⟩⟩;rw[eU,aK (fun e=>(h3 t v hv).1 (e.symm.trans hb))];exact(h3 t v hv).2
  ·rename_i hb;have hne:t0≠u:=fun e=>by subst e;rw[Nat.beq_refl]at hb;cases hb
   obtain⟨l',h1,h2,h3⟩:=qz h;refine⟨_,h1,?_,fun t v hv=>?_⟩
   ·rw[eU,aK hne];exact h2
   ·rw[eU]at hv ⊢;split at hv
    ·rename_i e;subst e;exact⟨hne,by simpa using hv⟩
    ·rename_i e;rw[aK e];exact h3 t v hv
theorem gH:∀{all:List Oper} {i:Nat} {k:Oper->Prop},qv all i k->∃o,all[i]? =some o∧k o
 |[],_,_,h=>h.elim
 |o::_,0,_,h=>⟨o,rfl,h⟩
 |_::r,n+1,_,h=>by obtain⟨o,h1,h2⟩:=gH (all:=r) h;exact⟨o,by simpa using h1,h2⟩
section
variable{P:Program}{τ:mL}{ops:Array Oper}{B n nx:Nat}{l:Env}{H:Hp}{iv:Iv}{w w':World}{O:Nat->df}{a:Act}
structure JY(P:Program)(ops:Array Oper)(n B:Nat)(Pd:List Nat)(E:List (Nat×Nat))(lx la:Array Bool)(l:Env)(H:Hp)(nx:Nat)(iv:Iv)(w:World)(O:Nat->df)(a:Act)(w':World):Prop where
 sat:Sat n l H nx iv B w O a w'
 JZ:lx.size=ops.size
 J1:la.size=ops.size
 la:∀j,la[j]? =some true↔lx[j]? =some true∨∃g,(j,g)∈E
 GN:∀j g,(j,g)∈E->j∈Pd
 pd:∀j∈Pd,lx[j]? =some false∧∃o d mk obj,ops[j]? =some o∧JX o.op=true∧o.guard=none∧(o.dst=some d∧d∉o.looksAt ops)∧AL P o a mk obj∧fF l d=none∧
  ∀g,(j,g)∈E->a.tmps[d]? =some (mk g)∧w'.heap[g]? =some obj
 eg:∀j g,(j,g)∈E->B<=g∧(∀id b,dA H id=some b->(O id).nil=false->(O id).g≠g)∧∀lo hi,(lo,hi)∈iv->¬(lo<=g∧g<hi)
 inj:∀j g j',(j,g)∈E->(j',g)∈E->j=j'
 ap:∀j∈Pd,∀j'∈Pd,j≠j'->∀o o',ops[j]? =some o->ops[j']? =some o'->o.apart ops o'=true
theorem HW{l:Env}{u:Nat}(h:∀t v,fF l' t=some v->t≠u∧fF l t=some v){d:Nat}(hd:fF l d=none):fF l' d=none:=by
 cases hg:fF l' d with
 |none=>rfl
 |some v=>have:=(h d v hg).2;rw[hd]at this;cases this
theorem Oper.AS{o oj:Oper}(ha:o.apart ops oj=true)(hs:∀cs b,oj.op≠ .select cs b)(h:AL P oj a mk obj):AL P oj (a.put o.dst u) mk obj:=by
 intro w;rw[execOp_put (ops:=ops) oj hs a o.dst u (Go.Oper.apart_spec ha).1];exact h w
theorem pg(hne:d≠some t)(h:a.tmps[t]? =some v):(a.put d u).tmps[t]? =some v:=by
 cases d with
 |none=>exact h
 |some d=>
  have:d≠t:=fun e=>hne (by rw[e]);simpa [Act.put,Array.getElem?_setIfInBounds_ne this]using h
theorem j3{w:World}(h:w.heap[g]? =some obj):g<w.heap.size:=(ai.1 h).1
theorem Ext.alloc(w:World)(obj:Obj):Ext w (w.alloc obj):=
 ⟨rfl,rfl,rfl,by simp,fun k hk=>heap_alloc_old _ _ hk⟩
variable{Pd:List Nat}{E:List (Nat×Nat)}{lx la:Array Bool}
theorem JY.step(s:JY P ops n B Pd E lx la l H nx iv w O a w')(hsel:∀(j:Nat) (o:Oper) cs b,ops[j]? =some o->o.op≠ .select cs b){i:Nat}{o:Oper}(_hi:ops[i]? =some o)(hiE:∀g,(i,g)∉E)
  (hap:∀j∈Pd,j≠i->∀oj,ops[j]? =some oj->o.apart ops oj=true)
  (sat':Sat n l' H' nx' iv' B w2 ρ' (a.put o.dst u) w3)
  (hl:∀j∈Pd,j≠i->∀d,fF l d=none->o.dst≠some d->fF l' d=none) (hext:∀j∈Pd,j≠i->Ext w' w3)
  (heg:∀g,g<w'.heap.size->(∀id b,dA H id=some b->(O id).nil=false->(O id).g≠g)->(∀lo hi,(lo,hi)∈iv->¬(lo<=g∧g<hi))->(∃j∈Pd,j≠i)->
   (∀id b,dA H' id=some b->(ρ' id).nil=false->(ρ' id).g≠g)∧(∀lo hi,(lo,hi)∈iv'->¬(lo<=g∧g<hi))):
  JY P ops n B (Pd.filter fun j=> !Nat.beq j i) E (lx.setIfInBounds i true) (la.setIfInBounds i true) l' H' nx' iv' w2 ρ' (a.put o.dst u) w3:=by
 have memf:∀j,j∈(Pd.filter fun j=> !Nat.beq j i)↔j∈Pd∧j≠i:=fun j=>by
  simp only[List.mem_filter,Bool.not_eq_true',mO]
 have hEi:∀j g,(j,g)∈E->j≠i:=fun j g h e=>hiE g (e▸h);refine⟨sat',by simp[s.JZ],by simp[s.J1],fun j=>?_,fun j g h=>(memf j).2 ⟨s.GN j g h,hEi j g h⟩,fun j hj=>?_,fun j g h=>?_,s.inj,fun j hj j' hj'=>s.ap j ((memf j).1 hj).1 j' ((memf j').1 hj').1⟩
 ·rw[oR,oR,s.la,s.J1,s.JZ];constructor
  ·rintro((h|h)|h)
   ·exact .inl (.inl h)
   ·exact .inr h
   ·exact .inl (.inr h)
  ·rintro((h|h)|h)
   ·exact .inl (.inl h)
   ·exact .inr h
   ·exact .inl (.inr h)
 ·obtain⟨hj,hji⟩:=(memf j).1 hj;obtain⟨h0,oj,d,mk,obj,h1,h2,h3,⟨h4,hself⟩,h5,h6,h7⟩:=s.pd j hj;have hapj:=hap j hj hji oj h1;have hne:o.dst≠some d:=fun e=>(Go.Oper.apart_spec hapj).2.1 d e h4;refine⟨?_,oj,d,mk,obj,h1,h2,h3,⟨h4,hself⟩,Oper.AS hapj (fun cs b=>hsel j oj cs b h1) h5,hl j hj hji d h6 hne,fun g hg=>⟨pg hne (h7 g hg).1,?_⟩⟩
  ·rw[Array.getElem?_setIfInBounds_ne (Ne.symm hji)];exact h0
  ·rw[(hext j hj hji).block g (j3 (h7 g hg).2)];exact(h7 g hg).2
 ·have hj:=s.GN j g h;obtain⟨h0,oj,d,mk,obj,h1,h2,h3,⟨h4,hself⟩,h5,h6,h7⟩:=s.pd j hj;obtain⟨e1,e2,e3⟩:=s.eg j g h;exact⟨e1,heg g (j3 (h7 g h).2) e2 e3 ⟨j,hj,hEi j g h⟩⟩
theorem JY.early(s:JY P ops n B Pd E lx la l H nx iv w O a w')(hok:∀(j:Nat) o,ops[j]? =some o->∀d,o.dst=some d->d<n)
  (hsel:∀(j:Nat) (o:Oper) cs b,ops[j]? =some o->o.op≠ .select cs b) (hj:j∈Pd) (hun:la[j]? =some false) {K:Act->World->Prop}
  (h:∀E' a2 w2,Ext w' w2->JY P ops n B Pd E' lx (la.setIfInBounds j true) l H nx iv w O a2 w2->K a2 w2):wpOp P ops Q j K a w':=by
 obtain⟨h0,o,d,mk,obj,h1,h2,h3,⟨h4,hself⟩,h5,h6,h7⟩:=s.pd j hj;have hw:Region.wanted o (yielded ops a.tmps)=true:=by simp[Region.wanted,h3]
 unfold wpOp;simp only[h1,hw,if_true]
 refine .inl ?_;unfold Oper.wp;rw[h5 w'];simp only[Oper.upon]
 have hd:=hok j o h1 d h4;have hnE:∀g,(j,g)∉E:=fun g hg=>by
  have:=(s.la j).2 (.inr ⟨g,hg⟩);rw[hun]at this;cases this
 refine h ((j,w'.heap.size)::E) _ _ (Ext.alloc _ _) ⟨?_,s.JZ,by simp[s.J1],fun k=>?_,fun k g hk=>?_,fun k hk=>?_,fun k g hk=>?_,fun k g k' hk hk'=>?_,s.ap⟩
 ·refine⟨s.sat.rel.ext (Ext.alloc _ _),?_,?_,fun t v hv=>?_,s.sat.sc⟩
  ·rw[h4];simp[Act.put,s.sat.size]
  ·rw[h4];exact s.sat.defers
  ·refine pg (fun e=>?_) (s.sat.env t v hv);rw[h4]at e;injection e with e;subst e;rw[h6]at hv;cases hv
 ·rw[oR,s.la];have hlt:j<la.size:=(ai.1 hun).1;constructor
  ·rintro((h|⟨g,h⟩)|⟨rfl,_⟩)
   ·exact .inl h
   ·exact .inr ⟨g,by simp[h]⟩
   ·exact .inr ⟨_,aJ ..⟩
  ·rintro(h|⟨g,h⟩)
   ·exact .inl (.inl h)
   ·rcases List.mem_cons.1 h with h|h
    ·injection h with e1 e2;exact .inr ⟨e1,by rw[e1];exact hlt⟩
    ·exact .inl (.inr ⟨g,h⟩)
 ·rcases List.mem_cons.1 hk with hk|hk
  ·injection hk with e1 e2;rw[e1];exact hj
  ·exact s.GN k g hk
 ·obtain⟨g0,ok,dk,mkk,objk,g1,g2,g3,⟨g4,gself⟩,g5,g6,g7⟩:=s.pd k hk;by_cases hkj:k=j
  ·subst hkj;rw[h1]at g1;injection g1 with g1;subst g1;rw[h4]at g4;injection g4 with g4;subst g4;refine⟨g0,o,d,mk,obj,h1,h2,h3,⟨h4,hself⟩,?_,h6,fun g hg=>?_⟩
   ·intro ww;rw[execOp_put (ops:=ops) o (fun cs b=>hsel k o cs b h1) a o.dst _ (fun d' hd'=>by rw[h4]at hd';injection hd' with hd';subst hd';exact hself)];exact h5 ww
   ·rcases List.mem_cons.1 hg with hg|hg
    ·injection hg with e1 e2;subst e2;refine⟨?_,heap_alloc_new _ _⟩;rw[h4];simp[Act.put,s.sat.size,hd]
    ·exact absurd hg (hnE g)
  ·have hap:=s.ap j hj k hk (Ne.symm hkj) o ok h1 g1;have hne:o.dst≠some dk:=fun e=>(Go.Oper.apart_spec hap).2.1 dk e g4;refine⟨g0,ok,dk,mkk,objk,g1,g2,g3,⟨g4,gself⟩,Oper.AS hap (fun cs b=>hsel k ok cs b g1) g5,g6,fun g hg=>?_⟩;rcases List.mem_cons.1 hg with hg|hg
   ·injection hg with e1 e2;exact absurd e1 hkj
   ·refine⟨pg hne (g7 g hg).1,?_⟩;rw[heap_alloc_old _ _ (j3 (g7 g hg).2)];exact(g7 g hg).2
 ·rcases List.mem_cons.1 hk with hk|hk
  ·injection hk with e1 e2;subst e2;refine⟨a9 s.sat.rel.base s.sat.rel.size,fun id b hb hn he=>?_,fun lo hi hm hc=>?_⟩
   ·have:=(s.sat.rel.low id b hb hn).2;omega
   ·have:=s.sat.rel.qV lo hi hm;have:=s.sat.rel.size;omega
  ·exact s.eg k g hk
 ·have old:∀k' g',(k',g')∈E->g'<w'.heap.size:=fun k' g' h=>by
   obtain⟨_,_,_,_,_,_,_,_,_,_,_,h7⟩:=s.pd k' (s.GN k' g' h);exact j3 (h7 g' h).2
  rcases List.mem_cons.1 hk with hk|hk<;>rcases List.mem_cons.1 hk' with hk'|hk'
  ·injection hk with e1 e2;injection hk' with e3 e4;rw[e1,e3]
  ·injection hk with e1 e2;have:=old _ _ hk';omega
  ·injection hk' with e1 e2;have:=old _ _ hk;omega
  ·exact s.inj k g k' hk hk'
theorem JY.Lt(s:JY P ops n B Pd E lx la l H nx iv w O a w'){i:Nat}{o:Oper}(hi:ops[i]? =some o)(hg:(i,g)∈E){b:jU}{v:SV}
  (hb:b.scopd nx) (hv:v.sc (nx+1)) (hmk:∀g,v.den (gI O nx ⟨g,0,false⟩)=mk g) (hfit:∀g w2,w2.heap[g]? =some obj->b.fits O ⟨g,0,false⟩ w2) (hal:AL P o a mk obj)
  {K:Env->Prop} (hK:Cb o.dst v l K) (_hok:∀d,o.dst=some d->d<n) (hap:∀j∈Pd,j≠i->∀oj,ops[j]? =some oj->o.apart ops oj=true):
  ∃l',K l'∧JY P ops n B (Pd.filter fun j=> !Nat.beq j i) (E.filter fun e=> !Nat.beq e.1 i) (lx.setIfInBounds i true) la l' ((nx,b)::H) (nx+1) iv w (gI O nx ⟨g,0,false⟩) a w':=by
 obtain⟨h0,o',d,mk',obj',h1,h2,h3,⟨h4,hself⟩,h5,h6,h7⟩:=s.pd i (s.GN i g hg);rw[hi]at h1;injection h1 with h1;subst h1;obtain⟨rfl,rfl⟩:=hal.uniq h5;obtain⟨ht,hh⟩:=h7 g hg;obtain⟨e1,e2,e3⟩:=s.eg i g hg;have memf:∀j,j∈(Pd.filter fun j=> !Nat.beq j i)↔j∈Pd∧j≠i:=fun j=>by
  simp only[List.mem_filter,Bool.not_eq_true',mO]
 have memE:∀j k,(j,k)∈(E.filter fun e=> !Nat.beq e.1 i)↔(j,k)∈E∧j≠i:=fun j k=>by
  simp only[List.mem_filter,Bool.not_eq_true',mO]
 have hup:∀id b,dA H id=some b->gI O nx ⟨g,0,false⟩ id=O id:=fun id b h=>(gJ id (s.sat.rel.keys id b h)).symm;have r:=s.sat.rel;have hrel:Rel ((nx,b)::H) (nx+1) iv B w (gI O nx ⟨g,0,false⟩) w':=by
  refine Rel.mk' r.os r.tape r.output r.size r.base r.qV ?_ ?_ ?_ ?_ ?_ ?_ ?_
  ·intro id b' h;rw[dE]at h;split at h
   ·omega
   ·have:=r.keys id b' h;omega
  ·intro id b' h;rw[dE]at h;split at h
   ·rename_i e;subst e;injection h with h;subst h;rw[ei];exact jU.gi (hfit g w' hh) (fun id hid=>gJ id hid) hb (fun _ _=>rfl)
   ·rw[hup id b' h];exact jU.gi (r.fits h) (fun id hid=>gJ id hid) (r.scopd h) (fun _ _=>rfl)
  ·intro id b' h;rw[dE]at h;split at h
   ·injection h with h;subst h;exact jU.iy (Nat.le_succ _) hb
   ·exact jU.iy (Nat.le_succ _) (r.scopd h)
  ·intro id id' c c' h h' hd hd' hn hn' he;rw[dE]at h h';split at h<;>split at h'
   ·rename_i x y;rw[<-x,<-y]
   ·rename_i x y;subst x;rw[ei,hup _ _ h']at he;rw[hup _ _ h']at hn';exact absurd he.symm (e2 _ _ h' hn')
   ·rename_i x y;subst y;rw[ei,hup _ _ h]at he;rw[hup _ _ h]at hn;exact absurd he (e2 _ _ h hn)
   ·rw[hup _ _ h,hup _ _ h']at he;rw[hup _ _ h]at hn;rw[hup _ _ h']at hn';exact r.inj id id' c c' h h' hd hd' hn hn' he
  ·intro id c h hn;rw[dE]at h;split at h
   ·rename_i e;subst e;rw[ei];exact⟨e1,j3 hh⟩
   ·rw[hup _ _ h]at hn ⊢;exact r.low id c h hn
  ·intro k hk hne;refine r.tk k hk fun id c h hn=>?_;have hlt:=r.keys id c h;have:=hne id c (by rw[dE,aK (by omega)];exact h) (by rw[hup _ _ h];exact hn)
   rwa [hup _ _ h]at this
  ·intro lo hi hm id c h hn;rw[dE]at h;split at h
   ·rename_i e;subst e;rw[ei];exact e3 lo hi hm
   ·rw[hup _ _ h]at hn ⊢;exact r.kC lo hi hm id c h hn
 have sat1:Sat n l ((nx,b)::H) (nx+1) iv B w (gI O nx ⟨g,0,false⟩) a w':=s.sat.next hrel (Nat.le_succ _) (fun id hid=>gJ id hid)
 rw[h4]at hK;refine⟨_,hK,?_⟩;have sat2:Sat n ((d,v)::l) ((nx,b)::H) (nx+1) iv B w (gI O nx ⟨g,0,false⟩) a w':=by
  refine⟨sat1.rel,sat1.size,sat1.defers,fun t u hu=>?_,fun t u hu=>?_⟩
  ·rw[eU]at hu;split at hu
   ·rename_i e;subst e;injection hu with hu;subst hu;rw[hmk];exact ht
   ·exact sat1.env t u hu
  ·rw[eU]at hu;split at hu
   ·injection hu with hu;subst hu;exact hv
   ·exact sat1.sc t u hu
 have hli:i<lx.size:=(ai.1 h0).1;refine⟨sat2,by simp[s.JZ],s.J1,fun j=>?_,fun j k h=>?_,fun j hj=>?_,fun j k h=>?_,fun j k j' h h'=>s.inj j k j' ((memE j k).1 h).1 ((memE j' k).1 h').1,fun j hj j' hj'=>s.ap j ((memf j).1 hj).1 j' ((memf j').1 hj').1⟩
 ·rw[s.la,oR];constructor
  ·rintro(h|⟨k,h⟩)
   ·exact .inl (.inl h)
   ·by_cases hji:j=i
    ·exact .inl (.inr ⟨hji,hji▸hli⟩)
    ·exact .inr ⟨k,(memE j k).2 ⟨h,hji⟩⟩
  ·rintro((h|⟨rfl,h⟩)|⟨k,h⟩)
   ·exact .inl h
   ·exact .inr ⟨g,hg⟩
   ·exact .inr ⟨k,((memE j k).1 h).1⟩
 ·exact(memf j).2 ⟨s.GN j k ((memE j k).1 h).1,((memE j k).1 h).2⟩
 ·obtain⟨hj,hji⟩:=(memf j).1 hj;obtain⟨g0,oj,dj,mkj,objj,g1,g2,g3,⟨g4,gself⟩,g5,g6,g7⟩:=s.pd j hj;have hne:d≠dj:=fun e=>(Go.Oper.apart_spec (hap j hj hji oj g1)).2.1 d h4 (by rw[g4,e]);refine⟨by rw[Array.getElem?_setIfInBounds_ne (Ne.symm hji)];exact g0,oj,dj,mkj,objj,g1,g2,g3,⟨g4,gself⟩,g5,?_,fun k hk=>g7 k ((memE j k).1 hk).1⟩;rw[eU,aK hne];exact g6
 ·obtain⟨h,hji⟩:=(memE j k).1 h;obtain⟨k1,k2,k3⟩:=s.eg j k h;refine⟨k1,fun id c hc hn=>?_,k3⟩;rw[dE]at hc;split at hc
  ·rename_i e;subst e;rw[ei];intro e;simp only at e;subst e;exact hji (s.inj j _ i h hg)
  ·rw[hup _ _ hc]at hn ⊢;exact k2 id c hc hn
end
end Go.Sx
