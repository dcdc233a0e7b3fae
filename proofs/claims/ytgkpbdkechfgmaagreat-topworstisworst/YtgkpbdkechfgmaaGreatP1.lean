/- Texts Sx7 to Sx11: lemmas, each with its conditions. -/
import Derived.OrdersHeld
import Derived.Test.YtgkpbdkechfgmaaGreatP0
namespace Go.Sx
open Go
variable{args:(Nat->cd)->Array Value}{la lx:Array Bool}{op:BinOp}{dr pu:Bool}{Do:Ending->World->Prop}{l':Env}{Q:Exit->Act->World->Prop}{H':Hp}{k:IntKind}{E:Iv}{Pd:List Nat}{Ku g j m t:Nat}{mk:Nat->Value}{GE:Nat->cd}{obj:Obj}{d:Option Tmp}{G9:SV->Hp->Nat->Iv->World->Prop}{u v:Value}{w Y w3:World}
section
variable{P:Program}{τ:l9}{B n nx:Nat}{l:Env}{H:Hp}{iv:Iv}{w J:World}{O:Nat->cd}{a:Act}
theorem nO{k':IntKind}(h:nI k k'=true):k=k':=by
 cases k<;>cases k'<;>first|rfl|(simp [nI]at h)
theorem tR(op:BinOp)(t:TypeId)(x y:Operand)(k k':IntKind)(i j:Int)(w:World):(eqGuard op t x y (.int k i) (.int k' j)).run P w= .ok () w:=by
 unfold eqGuard;cases op<;>simp
theorem lK(op:BinOp)(t:TypeId)(x y:Operand)(i j:Bool)(w:World):(eqGuard op t x y (.bool i) (.bool j)).run P w= .ok () w:=by
 unfold eqGuard;cases op<;>simp
theorem iI(op:BinOp)(t:TypeId)(x y:Operand)(i j:ByteArray)(w:World):(eqGuard op t x y (.string i) (.string j)).run P w= .ok () w:=by
 unfold eqGuard;cases op<;>simp
theorem EI{i j:Int}{t:TypeId}{G9:Value->Prop}(h:EA op k i j G9)(k':IntKind)(W:(op= .shl\/op= .shr)\/k=k'):
  ∃r,G9 r/\∀w:World,(binOp op t (.int k i) (.int k' j)).run P w= .ok r w:=by
 have Qw:op≠ .shl->op≠ .shr->k=k':=fun V I=>by rcases W with(K|K)|K<;>simp_all
 cases op<;>simp only[EA]at h
 case shl=>obtain⟨h0,r,V,I⟩:=h;refine⟨_,I,fun w=>?_⟩;subst V;simp[binOp,Op.shift,show ¬j<0 by omega]
 case shr=>obtain⟨h0,r,V,I⟩:=h;refine⟨_,I,fun w=>?_⟩;subst V;simp[binOp,Op.shift,show ¬j<0 by omega]
 all_goals (obtain rfl:=Qw (by simp) (by simp))
 case quo=>obtain⟨h0,r,V,I⟩:=h;refine⟨_,I,fun w=>?_⟩;subst V;simp[binOp,Op.intDiv,h0]
 case rem=>obtain⟨h0,r,V,I⟩:=h;refine⟨_,I,fun w=>?_⟩;subst V;simp[binOp,Op.intDiv,h0]
 case eql=>exact⟨_,h,fun w=>by simp[binOp,Op.intCmp]⟩
 case neq=>exact⟨_,h,fun w=>by simp[binOp,Op.intCmp]⟩
 case lss=>exact⟨_,h,fun w=>by simp[binOp,Op.intCmp]⟩
 case leq=>exact⟨_,h,fun w=>by simp[binOp,Op.intCmp]⟩
 case gtr=>exact⟨_,h,fun w=>by simp[binOp,Op.intCmp]⟩
 case geq=>exact⟨_,h,fun w=>by simp[binOp,Op.intCmp]⟩
 case add=>obtain⟨r,V,I⟩:=h;refine⟨_,I,fun w=>?_⟩;subst V;simp[binOp,Op.intArith]
 case sub=>obtain⟨r,V,I⟩:=h;refine⟨_,I,fun w=>?_⟩;subst V;simp[binOp,Op.intArith]
 case mul=>obtain⟨r,V,I⟩:=h;refine⟨_,I,fun w=>?_⟩;subst V;simp[binOp,Op.intArith]
 case and=>obtain⟨r,V,I⟩:=h;refine⟨_,I,fun w=>?_⟩;subst V;simp[binOp,Op.intBits]
 case or=>obtain⟨r,V,I⟩:=h;refine⟨_,I,fun w=>?_⟩;subst V;simp[binOp,Op.intBits]
 case andNot=>obtain⟨r,V,I⟩:=h;refine⟨_,I,fun w=>?_⟩;subst V;simp[binOp,Op.intBits]
 case xor=>obtain⟨r,V,I⟩:=h;refine⟨_,I,fun w=>?_⟩;subst V;simp[binOp,Op.intBits]
theorem run_equalIn_bool{t:TypeId}(hu:P.underlying t=some .bool)(d:Nat)(i j:Bool)(w:World):(Op.equalIn (d+1) t (.bool i) (.bool j)).run P w= .ok (i==j) w:=by
 simp[Op.equalIn,run_underlying hu]
theorem se{t:TypeId}(hu:P.underlying t=some .bool)(i j:Bool)(w:World):(Op.equal t (.bool i) (.bool j)).run P w= .ok (i==j) w:=run_equalIn_bool hu 9999 i j w
theorem u7{t:TypeId}(hu:P.underlying t=some .bool)(i j:Bool)(w:World):(binOp .eql t (.bool i) (.bool j)).run P w= .ok (.bool (i==j)) w:=by
 show(do pure (.bool (<-Op.equal t (.bool i) (.bool j))):Sem Value).run P w=_;rw[Sem.run_bind,se hu];rfl
theorem tS{t:TypeId}(hu:P.underlying t=some .bool)(i j:Bool)(w:World):(binOp .neq t (.bool i) (.bool j)).run P w= .ok (.bool (!(i==j))) w:=by
 show(do pure (.bool (!(<-Op.equal t (.bool i) (.bool j)))):Sem Value).run P w=_;rw[Sem.run_bind,se hu];rfl
theorem EJ(hτ:ey P τ){x y:SV}{G9:SV->Prop}(h:Ih P τ op t x y G9)(o1 o2:Operand):
  ∃r,G9 r/\r.sc nx/\∀J:World,(do eqGuard op t o1 o2 (x.den O) (y.den O);binOp op t (x.den O) (y.den O)).run P J= .ok (r.den O) J:=by
 unfold Ih at h;split at h
 ·rename_i k i k' j;have fin:∀W:(op= .shl\/op= .shr)\/k=k',EA op k i j (fun r=>G9 (.o (.v r)))->∃r,G9 r/\r.sc nx/\∀J:World,(do eqGuard op t o1 o2 (SV.den O (.o (.v (.int k i)))) (SV.den O (.o (.v (.int k' j))));binOp op t (SV.den O (.o (.v (.int k i)))) (SV.den O (.o (.v (.int k' j))))).run P J= .ok (r.den O) J:=by
   intro W h;obtain⟨r,V,I⟩:=EI (P:=P) (t:=t) h k' W;refine⟨_,V,trivial,fun J=>?_⟩;simp only[SV.den,At.den,Sem.run_bind,tR,Result.andThen_ok,I]
  split at h
  ·exact fin (.inl (.inl rfl)) h
  ·exact fin (.inl (.inr rfl)) h
  ·split at h
   ·rename_i W;exact fin (.inr (nO W)) h
   ·exact h.elim
 ·rename_i i j;split at h
  ·rename_i ti MQ;split at h
   ·rename_i LB;have hu:=(hτ t _ MQ).i2 (dS LB);split at h
    ·refine⟨_,h,trivial,fun J=>?_⟩;simp only[SV.den,At.den,Sem.run_bind,lK,Result.andThen_ok,u7 hu]
    ·refine⟨_,h,trivial,fun J=>?_⟩;simp only[SV.den,At.den,Sem.run_bind,lK,Result.andThen_ok,tS hu]
    ·exact h.elim
   ·exact h.elim
  ·exact h.elim
 ·rename_i i j;split at h
  ·refine⟨_,h,trivial,fun J=>?_⟩;simp only[SV.den,At.den,Sem.run_bind,iI,Result.andThen_ok]
   simp[binOp,Op.stringOp,ByteArray.toList_eq]
  ·refine⟨_,h,trivial,fun J=>?_⟩;simp only[SV.den,At.den,Sem.run_bind,iI,Result.andThen_ok]
   simp[binOp,Op.stringOp,ByteArray.toList_eq]
  ·refine⟨_,h.2,trivial,fun J=>?_⟩;simp only[SV.den,At.den,Sem.run_bind,iI,Result.andThen_ok]
   have V:=h.1;unfold maxLen at V;simp[binOp,Op.stringOp];omega
  ·exact h.elim
 ·obtain⟨b,V,I⟩:=h;exact⟨_,I,trivial,fun J=>V O J o1 o2⟩
abbrev IP(n B:Nat)(l:Env)(a:Act)(dst:Option Tmp)(G9:SV->Hp->Nat->Iv->World->Prop)(next:Act->World->Prop):Prop:=
 ∀v H' Ku E Y GE w3,G9 v H' Ku E Y->Sat n l H' Ku E B Y GE a w3->v.sc Ku->next (a.put dst (v.den GE)) w3
theorem Sat.next(sat:Sat n l H nx iv B w O a J)(rel:Rel H' Ku E B Y GE w3)(MA:nx<=Ku)(GT:∀id,id<nx->O id=GE id):
  Sat n l H' Ku E B Y GE a w3:=
 ⟨rel,sat.size,sat.defers,fun t v h=>by rw[sat.env t v h,SV.iQ GT (sat.sc t v h)],fun t v h=>SV.qP MA (sat.sc t v h)⟩
theorem zB(sat:Sat n l H nx iv B w O a J){G:List At}(hs:∀c∈G,At.sc nx c):
  Rel ((nx,.box t G)::H) (nx+1) iv B w (fI O nx ⟨J.heap.size,0,false⟩) (J.alloc (.cells (G.map (At.den O)).toArray t)):=
 sat.rel.push (.box t G) _ rfl rfl rfl (by simp) (fun k W=>heap_alloc_old _ _ W) (fun _=>⟨aE _,by simp⟩) ⟨rfl,heap_alloc_new _ _⟩ hs
theorem sf:∀{vs:List SV} {k:List Nat->Prop},ll vs k->(∀v∈vs,SV.sc nx v)->∃ids,k ids/\vs.map (SV.den O)=ids.map (fun id=>Value.pointer (some ⟨(O id).g,0,none⟩))/\∀id∈ids,id<nx
 |[],k,h,_=>⟨[],h,rfl,by simp⟩
 | .o (.p id 0)::r,k,h,hs=>by
  obtain⟨ids,V,I,K⟩:=sf (vs:=r) h (fun v hv=>hs v (by simp[hv]));exact⟨id::ids,V,by simp[I,SV.den,At.den],by simp;exact⟨hs (.o (.p id 0)) (by simp),K⟩⟩
 | .o (.p id (m+1))::r,k,h,_=>by simp[ll]at h
 | .o (.v x)::r,k,h,_=>by simp[ll]at h
 | .o (.s _ _ _ _)::r,k,h,_=>by simp[ll]at h
 | .o (.w _ _)::r,k,h,_=>by simp[ll]at h
 | .o (.fn _ _)::r,k,h,_=>by simp[ll]at h
 | .a _::r,k,h,_=>by simp[ll]at h
theorem u9(sat:Sat n l H nx iv B w O a J){G9:SV->Hp->Iv->World->Prop}{o:Oper}{next:Act->World->Prop}
  (h:AN P B g args H nx iv w G9) (PO:(execOp a.eval o).run P J=(callFunc g (args O)).run P J)
  (A:∀v H' E Y,G9 v H' E Y->Sat n l H' nx E B Y O a Y->v.sc nx->next (a.put o.dst (v.den O)) Y):o.wp P a J next Q:=by
 have hc:=h.h O J sat.rel;unfold Oper.wp;rw[PO,hc.e.h];refine Calls.mono hc.c fun e Y Z=>?_;obtain⟨v,H',E,rfl,LP,hK⟩:=Z;exact A _ _ _ _ hK (sat.next (GE:=O) LP (aE _) (fun _ _=>rfl)) trivial
theorem Rel.ext(r:Rel H nx iv B w O J)(e:Ext J Y):Rel H nx iv B w O Y:=
 Rel.mk' (e.os.trans r.os) (e.tape.trans r.tape) (e.output.trans r.output) (a9 r.size e.size) r.base r.oR r.keys
  (fun id b h=>ix.fg (r.fits h) (fun _ _=>rfl) (r.scopd h) (fun A _=>e.block _ (r.low id b h A).2)) (fun id b h=>r.scopd h) r.inj
  (fun id b h A=>by have:=r.low id b h A;have:=e.size;omega) (fun k W Kq=>by rw[e.block k (by have:=r.size;omega)];exact r.rP k W Kq) r.ie
theorem Rel.here(r:Rel H nx iv B w O J):Rel H nx iv B J O J:=
 Rel.mk' rfl rfl rfl (aE _) (by have:=r.base;have:=r.size;omega) (fun lo N hm=>by have:=r.oR lo N hm;have:=r.size;omega) r.keys
  (fun id b h=>r.fits h) (fun id b h=>r.scopd h) r.inj r.low (fun _ _ _=>rfl) r.ie
theorem Rel.more{lo N:Nat}(r:Rel H nx iv B w O J)(V:N<=w.heap.size)(I:∀id b,cO H id=some b->(O id).nil=false->¬(lo<=(O id).g/\(O id).g<N)):Rel H nx ((lo,N)::iv) B w O J:=
 Rel.mk' r.os r.tape r.output r.size r.base
  (fun lo' Oe hm=>by
   rcases List.mem_cons.1 hm with hm|hm
   ·injection hm with e1 e2;omega
   ·exact r.oR lo' Oe hm) r.keys (fun id b hb=>r.fits hb) (fun id b hb=>r.scopd hb) r.inj r.low r.rP
  (fun lo' Oe hm id b hb LD=>by
   rcases List.mem_cons.1 hm with hm|hm
   ·injection hm with e1 e2;subst e1;subst e2;exact I id b hb LD
   ·exact r.ie lo' Oe hm id b hb LD)
theorem bp{G9:SV->Hp->Iv->World->Prop}(h:AI P B g args H nx iv w G9):AN P B g args H nx iv w G9:=
 ⟨fun O J r=>⟨(h.h O J r).e,Calls.mono (h.h O J r).c fun e Y Z=>by
  obtain⟨v,V,I,K⟩:=Z
  exact⟨v,H,_,V,(r.ext I).here.more (aE _) (fun id b hb A=>by have:=(r.low id b hb A).2;omega),K⟩⟩⟩
def rQ:Op->Bool
 | .move _| .assign _| .pick _ _ _| .build _ _| .load _ _| .nilCheck _| .binOp _ _ _ _ _| .unOp _ _ _| .convert _ _ _| .makeFunc _ _ _| .slice _ _ _ _ _| .fieldAddr _ _ _| .field _ _ _| .indexAddr _ _ _| .extract _ _=>true
 | .call ⟨.builtin .len,_,_⟩=>true
 | .call ⟨.builtin .max,_,_⟩=>true
 | .call ⟨.builtin .min,_,_⟩=>true
 |_=>false
def HQ:Op->Bool
 | .alloc _| .box _ _| .buildSlice _ _ _| .makeSlice _ _ _=>true
 |_=>false
def Dt:Op->Bool
 | .load _ _=>false
 |o=>rQ o
theorem kV(hτ:ey P τ){o:Oper}(h:uO dr P τ B o l H nx iv w G9)(sat:Sat n l H nx iv B w O a J)(W:rQ o.op=true):
  (∃v,G9 v H nx iv w/\v.sc nx/\∀Y,(Dt o.op=true\/Rel H nx iv B w O Y)->(execOp a.eval o).run P Y= .ok (.value (v.den O)) Y)\/(dr=false/\tv P B o l H nx iv w G9):=by
 obtain⟨dst,op,ty,pos,after,guard⟩:=o;have val:∀(r:SV),G9 r H nx iv w->r.sc nx->(∀Y,(Dt op=true\/Rel H nx iv B w O Y)->(execOp a.eval ⟨dst,op,ty,pos,after,guard⟩).run P Y= .ok (.value (r.den O)) Y)->
   (∃v,G9 v H nx iv w/\v.sc nx/\∀Y,(Dt op=true\/Rel H nx iv B w O Y)->(execOp a.eval ⟨dst,op,ty,pos,after,guard⟩).run P Y= .ok (.value (v.den O)) Y)\/(dr=false/\tv P B ⟨dst,op,ty,pos,after,guard⟩ l H nx iv w G9):=
  fun r hK hs hr=>.inl ⟨r,hK,hs,hr⟩
 unfold uO at h;split at h<;>first|(exact False.elim h)|(rename_i PO;simp only at PO;subst PO)
 ·obtain⟨v,hK,hv,hs⟩:=cW sat h;exact val v hK hs (fun Y rel=>by simp[execOp,hv])
 ·obtain⟨v,hK,hv,hs⟩:=cW sat h;exact val v hK hs (fun Y rel=>by simp[execOp,hv])
 ·rename_i c x y;obtain⟨v,V,hv,Mw⟩:=cW sat h;clear Mw;split at V
  ·rename_i t
   cases t
   ·obtain⟨u,hK,hu,hs⟩:=cW sat (V.f rfl);exact val u hK hs (fun Y rel=>by simp[execOp,hv,SV.den,At.den,asBool,hu])
   ·obtain⟨u,hK,hu,hs⟩:=cW sat (V.t rfl);exact val u hK hs (fun Y rel=>by simp[execOp,hv,SV.den,At.den,asBool,hu])
  ·exact V.elim
 ·cases W
 ·cases W
 ·rename_i t parts;split at h
  ·rename_i sz ag by_ ze tag ik e al fs MQ;have ht:=hτ t _ MQ;obtain⟨inf,z,N,LL,L0,hz,MW⟩:=ht.info;simp only at LL L0 MW;have hzz:z.cells=(((ze.map At.v)).map (At.den O)).toArray:=by rw[eY];apply Array.ext';simpa using MW
   have hzs:∀c∈ze.map At.v,At.sc nx c:=fun c hc=>by simp at hc;obtain⟨v,_,rfl⟩:=hc;trivial
   split at h
   ·rename_i LB;obtain⟨fds,hu,hf,NS⟩:=ht.i5 (dS LB);simp only at hf;have Qx:fds.toList.mapM (fun f=>(P.info? f.type).map fun i=>(f.offset,i.size))=some (fds.toList.map fun f=>(f.offset,((P.info? f.type).map (·.size)).getD 0)):=by
     clear hf hu;generalize fds.toList=fl at NS
     induction fl with
     |nil=>rfl
     |cons f r ih=>
      obtain⟨i0,NU⟩:=Option.isSome_iff_exists.1 (NS f (by simp));rw[List.mapM_cons,ih (fun g R=>NS g (by simp[R]))];simp[NU]
    have h0:=e8 h
    obtain⟨cs',hK,Le,hlen,Lh⟩:=jN sat (placeF:=fun i=>(fds.toList.map fun f=>(f.offset,((P.info? f.type).map (·.size)).getD 0))[i]?) (fun i k W=>by
     obtain⟨off,ft,fi,V,I,K,h4⟩:=ku hτ W;refine⟨off,fi.size,V,?_⟩;rw[<-hf]at I;simp only[aM,Option.map_eq_some_iff]at I ⊢;obtain⟨fd,MM,Z⟩:=I;injection Z with e1 e2;refine⟨fd,MM,?_⟩;obtain⟨inf',_,Oe,PS,_⟩:=K.info;rw[e1,e2,Oe]
     simp[PS]) h0 hzs
    refine val _ hK Le (fun Y rel=>?_);have hb:P.built t (parts.map fun p=>(p.1,a.eval p.2)).toList=some (cs'.map (At.den O)).toArray:=by
     unfold Program.built;simp only[N,hu,hz,Qx]
     rw[hzz,<-Lh];simp
    have:=run_build Y t _ _ hb;simp only[execOp]
    exact kX this
   ·split at h
    ·rename_i LB;have hu:=ht.i6 (dS LB);simp only at hu;split at h
     ·rename_i sz' ag' by' ze' tag' ik' e' al' fs' LY
      have LY:=hτ e _ LY;obtain⟨inf',_,Oe,PS,_⟩:=LY.info;simp only at PS;have h0:=e8 h;obtain⟨cs',hK,Le,hlen,Lh⟩:=jN sat (placeF:=fun i=>some (i*inf'.size,inf'.size)) (fun i k W=>⟨i*sz',sz',W,by rw[PS]⟩) h0 hzs;refine val _ hK Le (fun Y rel=>?_);have hb:P.built t (parts.map fun p=>(p.1,a.eval p.2)).toList=some (cs'.map (At.den O)).toArray:=by
       unfold Program.built;simp only[N,hu,hz,Oe]
       rw[hzz,<-Lh];simp
      have:=run_build Y t _ _ hb;simp only[execOp]
      exact kX this
     ·exact h.elim
    ·exact h.elim
  ·exact h.elim
 ·cases W
 ·rename_i t x;obtain⟨v,V,hv,hs⟩:=cW sat h;obtain⟨r,hK,hr,Kv⟩:=lz hτ sat.rel hs V;exact val r hK hr (fun Y rel=>by simp only[execOp,hv];exact kX (Kv Y (rel.resolve_left (by simp[Dt]))))
 ·cases W
 ·rename_i x;obtain⟨v,V,hv,hs⟩:=cW sat h;split at V
  ·exact val _ V hs (fun Y rel=>by simp[execOp,hv,SV.den,At.den])
  ·exact val _ V hs (fun Y rel=>by simp[execOp,hv,SV.den,At.den])
  ·exact val _ V hs (fun Y rel=>by simp[execOp,hv,SV.den,At.den])
  ·exact val _ V hs (fun Y rel=>by simp[execOp,hv,SV.den,At.den])
  ·exact V.elim
 ·rename_i op t x y u;obtain⟨v,V,hv,_⟩:=cW sat h;obtain⟨v2,I,Nb,_⟩:=cW sat V;obtain⟨r,hK,hr,Kv⟩:=EJ (O:=O) hτ I x y;exact val r hK hr (fun Y rel=>by simp only[execOp,hv,Nb];exact kX (Kv Y))
 ·rename_i op t x;obtain⟨v,V,hv,_⟩:=cW sat h;split at V
  ·exact val _ V trivial (fun Y rel=>by simp[execOp,hv,SV.den,At.den,Op.unary])
  ·obtain⟨r,hr,hK⟩:=V;exact val _ hK trivial (fun Y rel=>by subst hr;simp[execOp,hv,SV.den,At.den,Op.unary,Op.intArith])
  ·obtain⟨r,hr,hK⟩:=V;exact val _ hK trivial (fun Y rel=>by subst hr;simp[execOp,hv,SV.den,At.den,Op.unary,Op.intBits])
  ·exact V.elim
 ·rename_i s d x;split at h
  ·rename_i tis htis;obtain⟨ds,hds,_⟩:=(hτ s _ htis).agg;obtain⟨v,V,hv,Mw⟩:=cW sat h;clear Mw;split at V
   ·rename_i sz ag by_ ze tag ik e al fs MQ;have ht:=hτ d _ MQ;split at V
    ·rename_i LB;have hu:=ht.i1 (dS LB);simp only at hu;split at V
     ·obtain⟨r,hr,hK⟩:=V;refine val _ hK trivial (fun Y rel=>?_);subst hr;simp[execOp,convert,run_underlying hds,run_underlying hu,hv,SV.den,At.den,Conv.intToInt]
     ·exact V.elim
    ·cases dr
     ·exact .inr ⟨rfl,V⟩
     ·exact V.elim
   ·exact V.elim
  ·exact h.elim
 ·rename_i f first caps
  split at h
  ·obtain⟨vs,V,Mw,Nq⟩:=oU sat h;obtain⟨ids,hK,hids,LG⟩:=sf (O:=O) V Nq;refine val _ hK (fun id LK=>LG id LK) (fun Y rel=>?_);have e:caps.map a.eval=(ids.map fun id=>Value.pointer (some ⟨(O id).g,0,none⟩)).toArray:=by
    apply Array.ext';rw[<-hids,<-Mw];simp
   simp[execOp,Instr.makeFunc,e,SV.den,At.den]
  ·exact h.elim
 ·cases W
 ·rename_i t x lo N;obtain⟨v,V,hv,hs⟩:=cW sat h;obtain⟨r,hK,hr,Kv⟩:=AS hτ sat V hs;exact val r hK hr (fun Y rel=>by simp only[execOp,hv];exact kX (by simpa using Kv Y))
 ·rename_i t x f;split at h
  ·rename_i sz ag by_ ze tag ik e al fs MQ;have ht:=hτ t _ MQ;split at h
   ·rename_i LB;obtain⟨off,ft,fi,V,hf,QE,LL⟩:=ku hτ h;obtain⟨v,I,hv,hs⟩:=cW sat V;obtain⟨r,ad,hK,hr,hd,hrd⟩:=qR (O:=O) I hs;refine val r hK hr (fun Y rel=>?_);simp only[execOp,hv,hd,hrd]
    exact kX (AP ht (dS LB) hf QE LL ad Y)
   ·exact h.elim
  ·exact h.elim
 ·rename_i t x f;split at h
  ·rename_i sz ag by_ ze tag ik e al fs MQ;have ht:=hτ t _ MQ;split at h
   ·rename_i LB;obtain⟨off,ft,fi,V,hf,QE,LL⟩:=ku hτ h;obtain⟨v,I,hv,hs⟩:=cW sat V;obtain⟨fds,fd,hu,MM,e1,e2⟩:=u6 ht (dS LB) hf;have fin:∀G:List At,v.den O= .agg (G.map (At.den O)).toArray->(∀c∈G,At.sc nx c)->
      (match fi.agg with
       |true=>qG G off (fun r=>qH r fi.size (fun c=>G9 (.a c) H nx iv w))
       |false=>match yz G off with
        |some c=>G9 (.o c) H nx iv w
        |none=>False)->(∃v,G9 v H nx iv w/\v.sc nx/\∀Y,(Dt (.field t x f)=true\/Rel H nx iv B w O Y)->(execOp a.eval ⟨dst,.field t x f,ty,pos,after,guard⟩).run P Y= .ok (.value (v.den O)) Y)\/(dr=false/\tv P B ⟨dst,.field t x f,ty,pos,after,guard⟩ l H nx iv w G9):=by
     intro G hd Le W;split at W
     ·rename_i hag;obtain⟨K,OP⟩:=lq W;obtain⟨hK,LZ⟩:=lr K;refine val _ hK (fun c hc=>Le c (List.mem_of_mem_drop (List.mem_of_mem_take hc))) (fun Y rel=>?_);simp only[execOp,hv,hd]
      refine kX ?_;subst e1 e2;simp[Instr.field,run_underlying hu,MM,asAgg,part,QE.isAgg,hag,QE.sizeOf,SV.den,List.map_drop,List.map_take,List.extract_eq_take_drop]
     ·rename_i hag;split at W
      ·rename_i c hc;rw[rV]at hc;refine val _ W (Le c (aD hc)) (fun Y rel=>?_);simp only[execOp,hv,hd]
       refine kX ?_;subst e1 e2;simp[Instr.field,run_underlying hu,MM,asAgg,part,QE.isAgg,hag,hc,SV.den]
      ·exact W.elim
    split at I
    ·rename_i vs;exact fin (vs.map At.v) (by rw[eY];rfl) (fun c hc=>by simp at hc;obtain⟨v,_,rfl⟩:=hc;trivial) (e8 I)
    ·exact fin _ rfl hs I
    ·exact I.elim
   ·exact h.elim
  ·exact h.elim
 ·rename_i t x i;obtain⟨v,V,hv,hs⟩:=cW sat h;obtain⟨u,I,hu,_⟩:=cW sat V;obtain⟨r,hK,hr,Kv⟩:=AQ hτ I hs sat.rel;exact val r hK hr (fun Y rel=>by simp only[execOp,hv,hu];exact kX (Kv Y))
 ·rename_i x i;obtain⟨v,V,hv,hs⟩:=cW sat h;split at V
  ·split at V
   ·rename_i vs u hu;rw[xy]at hu;exact val _ V trivial (fun Y rel=>by simp[execOp,hv,Instr.extract,SV.den,At.den,hu])
   ·exact V.elim
  ·exact V.elim
 ·rename_i x t;obtain⟨v,V,hv,_⟩:=cW sat h;obtain⟨r,hK,Kv⟩:=EH (ty:=ty) hτ V sat.rel;refine val _ hK trivial (fun Y rel=>?_);show _=Result.ok (Next.value (Value.int .i64 r)) Y;generalize v.den O=xv at hv Kv;have Kv:=Kv Y;simp[execOp,resolve,invoke,builtin,hv,Kv]
 ·cases W
 ·rename_i x y ts;obtain⟨v,V,hv,_⟩:=cW sat h;obtain⟨v2,I,Nb,_⟩:=cW sat V;split at I
  ·split at I
   ·rename_i k a1 k' b1 Qy;have Qw:=nO Qy;subst Qw;refine val _ I trivial (fun Y rel=>?_);simp only[execOp,resolve,invoke,builtin]
    simp[hv,Nb,SV.den,At.den,Builtin.max_,Builtin.max2];omega
   ·exact I.elim
  ·exact I.elim
 ·rename_i x y ts;obtain⟨v,V,hv,_⟩:=cW sat h;obtain⟨v2,I,Nb,_⟩:=cW sat V;split at I
  ·split at I
   ·rename_i k a1 k' b1 Qy;have Qw:=nO Qy;subst Qw;refine val _ I trivial (fun Y rel=>?_);simp only[execOp,resolve,invoke,builtin]
    simp[hv,Nb,SV.den,At.den,Builtin.min_,Builtin.min2];omega
   ·exact I.elim
  ·exact I.elim
 ·cases W
 ·cases W
 ·cases W
 ·cases W
 ·cases W
 ·cases W
 ·cases W
 ·cases W
theorem gG{o:Oper}(h:tv P B o l H nx iv w G9)(sat:Sat n l H nx iv B w O a J){next:Act->World->Prop}
  (A:IP n B l a o.dst G9 next):o.wp P a J next Q:=by
 obtain⟨v,Y,E,Kv,LP,hK⟩:=h.h O J a.eval sat.rel (fun x v F=>(qQ sat F).1);have:=A _ _ _ _ _ _ _ hK (sat.next LP (aE _) (fun _ _=>rfl)) trivial;unfold Oper.wp;rcases Kv with Kv|⟨Kv,rfl⟩
 ·rw[Kv];exact this
 ·rw[Kv];exact this
theorem pR(hτ:ey P τ){o:Oper}(h:uO dr P τ B o l H nx iv w G9)(sat:Sat n l H nx iv B w O a J){next:Act->World->Prop}
  (A:IP n B l a o.dst G9 next):o.wp P a J next Q:=by
 by_cases W:rQ o.op=true
 ·rcases kV hτ h sat W with⟨v,hK,hs,hr⟩|⟨_,PO⟩
  ·exact ko (hr J (.inr sat.rel)) (A _ _ _ _ _ _ _ hK sat hs)
  ·exact gG PO sat A
 obtain⟨dst,op,ty,pos,after,guard⟩:=o;unfold uO at h;split at h<;>first|(exact False.elim h)|(rename_i PO;simp only at PO;subst PO)
 ·exact absurd rfl W
 ·exact absurd rfl W
 ·exact absurd rfl W
 ·rename_i t;split at h
  ·rename_i sz ag by_ ze tag ik e al fs MQ;obtain⟨z,Kw,LQ⟩:=(hτ t _ MQ).zeroV J;have hK:=e8 h;simp only at LQ;have LP:=zB sat (t:=t) (G:=ze.map At.v) (fun c hc=>by simp at hc;obtain⟨v,_,rfl⟩:=hc;trivial);rw[eY]at LP;have hzz:z.cells=ze.toArray:=by apply Array.ext';simpa using LQ
   refine ko (Y:=J.alloc (.cells ze.toArray t)) (v:=.pointer (some ⟨J.heap.size,0,none⟩)) ?_ ?_
   ·simp[execOp,Instr.alloc,Kw,newVar,newRow,hzz]
   ·have:=A _ _ _ _ _ _ _ hK (sat.next LP (by omega) ew) (by simp[SV.sc,At.sc]);simpa [SV.den,At.den]using this
  ·exact h.elim
 ·rename_i t x;obtain⟨v,V,hv,hs⟩:=cW sat h;obtain⟨G,hK,LS,Nq⟩:=kW V;have LP:=zB sat (t:=t) (Nq nx hs);refine ko (Y:=J.alloc (.cells (G.map (At.den O)).toArray t)) (v:=.pointer (some ⟨J.heap.size,0,none⟩)) ?_ ?_
  ·simp[execOp,Instr.box,hv,newVar,newRow,LS O]
  ·have:=A _ _ _ _ _ _ _ hK (sat.next LP (by omega) ew) (by simp[SV.sc,At.sc]);simpa [SV.den,At.den]using this
 ·exact absurd rfl W
 ·rename_i t m parts;split at h
  ·rename_i sz ag by_ ze tag ik e al fs MQ;have ht:=hτ t _ MQ;split at h
   ·rename_i LB;have hu:=ht.i4 (dS LB);simp only at hu;split at h
    ·rename_i sz' ag' by' ze' tag' ik' e' al' fs' LY
     have LY:=hτ e _ LY;obtain⟨inf,z,N,LL,L0,hz,MW⟩:=LY.info;have Mp:=LY.Dw;simp only at LL L0 MW Mp;split at h
     ·rename_i hle;have hle:=Nat.le_of_ble_eq_true hle;have h0:=e8 h;obtain⟨cs',hK,Le,hlen,Lh⟩:=jN sat (placeF:=fun i=>some (i*inf.size,inf.size)) (fun i k W=>⟨i*sz',sz',W,by rw[LL]⟩) h0
       (fun c hc=>by obtain⟨v,_,rfl⟩:=aT.1 hc;trivial)
      rw[eY]at Lh;have Mr:z.cells=ze'.toArray:=by apply Array.ext';simpa using MW
      have QF:((List.replicate m ze').flatten).toArray=madeCells z.cells (m*inf.size):=by
       rw[Mr,LL,<-Mp];exact(oX ze' m).symm
      have LP:=zB sat (t:=e) Le;refine ko (Y:=J.alloc (.cells (cs'.map (At.den O)).toArray e)) (v:=.slice (some ⟨J.heap.size,0,none⟩) m m) ?_ ?_
      ·simp only[execOp]
       refine kX ?_;rw[QF]at Lh;by_cases LU:m*inf.size=0
       ·have NV:Instr.fill (fun i=>some (i*inf.size,inf.size)) (madeCells z.cells 0) (parts.toList.map fun p=>(p.1,a.eval p.2))=some (cs'.map (At.den O)).toArray:=by rw[LU]at Lh;exact Lh
        have e0:madeCells z.cells 0= #[]:=by simp[madeCells]
        rw[e0]at NV;have er:Array.range 0= #[]:=rfl;simp[Instr.buildSlice,run_underlying hu,sizeOf,typeInfo,zeroValue,N,hz,LU,newRow,NV,er]
       ·exact run_buildSlice J t e m _ _ inf z hu N hz (by rw[LL];omega) LU (by rw[<-Lh];simp[madeCells])
      ·have:=A _ _ _ _ _ _ _ hK (sat.next LP (by omega) ew) (by simp[SV.sc,At.sc]);simpa [SV.den,At.den]using this
     ·exact h.elim
    ·exact h.elim
   ·exact h.elim
  ·exact h.elim
 ·exact absurd rfl W
 ·rename_i t x y;obtain⟨v,V,hv,hs⟩:=cW sat h;obtain⟨u,I,hu,Li⟩:=cW sat V
  cases R:IN H v u with
  |true=>
   rw[R]at I
   cases dr with
   |true=>exact I.elim
   |false=>
    have I:KE P B _ l H nx iv w G9:=I;obtain⟨Y,w3,H',E,Kv,LP,hK⟩:=I.h O J a.eval sat.rel (fun x v F=>(qQ sat F).1);refine FM (Y:=w3) Kv ?_;exact A _ _ _ _ _ _ _ hK (sat.next LP (aE _) (fun _ _=>rfl)) trivial
  |false=>
   rw[R]at I;obtain⟨H',Y,w3,hK,LP,Kv⟩:=sd hτ sat hs Li I;refine FM (Y:=w3) (by simp[execOp,hv,hu,Kv]) ?_;exact A _ _ _ _ _ _ _ hK (sat.next LP (aE _) (fun _ _=>rfl)) trivial
 ·exact absurd rfl W
 ·exact absurd rfl W
 ·exact absurd rfl W
 ·exact absurd rfl W
 ·exact absurd rfl W
 ·rename_i t x y;obtain⟨v,V,hv,_⟩:=cW sat h;obtain⟨u,I,hu,_⟩:=cW sat V;obtain⟨r,H',Ku,GE,Y,hK,LP,hr,MA,GT,Kv⟩:=Bv hτ sat I;refine ko (Y:=Y) (by simp only[execOp,hv,hu];exact kX Kv) ?_;exact A _ _ _ _ _ _ _ hK (sat.next LP MA GT) hr
 ·exact absurd rfl W
 ·exact absurd rfl W
 ·exact absurd rfl W
 ·exact absurd rfl W
 ·exact absurd rfl W
 ·exact absurd rfl W
 ·rename_i x y t u;split at h
  ·rename_i htu;have htu:=dS htu;subst htu;obtain⟨v,V,hv,_⟩:=cW sat h;obtain⟨v2,I,Nb,_⟩:=cW sat V;split at I
   ·unfold Kd at I;split at I
    ·exact I.elim
    ·obtain⟨v,H',Ku,E,GE,Y,w3,Kv,LP,hs,MA,GT,hK⟩:=I.h O J a.eval sat.rel (fun x v F=>(qQ sat F).1);exact ko Kv (A _ _ _ _ _ _ _ hK (sat.next LP MA GT) hs)
   rcases I with I|I
   ·obtain⟨r,H',Ku,GE,Y,hK,LP,hr,MA,GT,Kv⟩:=qO (ty:=ty) hτ sat I;refine ko (v:=r.den GE) (Y:=Y) ?_ ?_
    ·simp[execOp,resolve,invoke,builtin,hv,Nb,Kv]
    ·exact A _ _ _ _ _ _ _ hK (sat.next LP MA GT) hr
   ·exact gG I sat A
  ·exact gG h sat A
 ·exact absurd rfl W
 ·exact absurd rfl W
 ·exact gG h sat A
 ·exact gG h sat A
 ·exact gG h sat A
 ·exact gG h sat A
 ·exact gG h sat A
 ·exact gG h sat A
 ·exact gG h sat A
 ·rename_i f args ats;obtain⟨v,V,hv,_⟩:=cW sat h;obtain⟨vs,I,Mw,Nq⟩:=oU sat V;have Nn:(args.toArray).map a.eval=lf O vs:=by
   apply Array.ext';simp[lf,Mw]
  have Ri:∀(g:Nat) (args:(Nat->cd)->Array Value) (G9:SV->Hp->Iv->World->Prop),FI dr P B g args H nx iv w G9->AN P B g args H nx iv w G9:=fun g args G9 h=>by
   cases dr
   ·exact h
   ·exact bp h
  split at I
  ·rename_i g first caps
   refine u9 sat (Ri _ _ _ I) ?_ (fun v H' E Y hK hs hv=>A _ _ _ _ _ _ _ hK hs hv);simp[execOp,resolve,hv,SV.den,At.den,Deferred.ofValue,invoke,Nn]
  ·rename_i g ids;refine u9 sat (Ri _ _ _ I) ?_ (fun v H' E Y hK hs hv=>A _ _ _ _ _ _ _ hK hs hv);simp[execOp,resolve,hv,SV.den,At.den,Deferred.ofValue,invoke,Nn]
  ·exact I.elim
end
def Ex.to:Ex->Exit
 | .normal=>.normal
 | .exit id=>.exit id
 | .ret=>.ret
def Ij(n:Nat)(o:Oper):Bool:=match o.dst with
 |some d=>Nat.blt d n
 |none=>true
def codeOk(n:Nat):Code->Bool
 | .region _ ops _=>ops.toList.all (Ij n)
 | .seq a b=>codeOk n a&&codeOk n b
 | .cond _ a b=>codeOk n a&&codeOk n b
 | .block _ c=>codeOk n c
 | .loop c=>codeOk n c
 |_=>true
section
variable{P:Program}{τ:l9}{B n nx:Nat}{l:Env}{H:Hp}{iv:Iv}{w J:World}{O:Nat->cd}{a:Act}
theorem Sat.put(sat:Sat n l H nx iv B w O a J){d:Nat}(hd:d<n){v:SV}(hv:v.sc nx):Sat n ((d,v)::l) H nx iv B w O (a.put (some d) (v.den O)) J:=by
 refine⟨sat.rel,by simp[Act.put,sat.size],sat.defers,fun t u h=>?_,fun t u h=>?_⟩
 ·rw[dm]at h;split at h
  ·rename_i e;subst e;injection h with h;subst h;simp[Act.put,sat.size,hd]
  ·rename_i e;have:=sat.env t u h;simpa [Act.put,Array.getElem?_setIfInBounds_ne e]using this
 ·rw[dm]at h;split at h
  ·injection h with h;subst h;exact hv
  ·exact sat.sc t u h
theorem iR(sat:Sat n l H nx iv B w O a J){v:SV}{k:Env->Prop}(h:AG d v l k)(hd:∀t,d=some t->t<n)(hv:v.sc nx):
  ∃l',k l'/\Sat n l' H nx iv B w O (a.put d (v.den O)) J:=by
 unfold AG at h;split at h
 ·rename_i t;exact⟨_,h,sat.put (hd t rfl) hv⟩
 ·exact⟨l,h,sat⟩
theorem pU:∀{all:List Oper} {j:Nat},xx all j=(all[j]?).bind (·.dst)
 |[],j=>by simp[xx]
 |o::r,0=>by simp[xx]
 |o::r,j+1=>by simp[xx,pU (all:=r)]
theorem Sat.Jd(sat:Sat n l H nx iv B w O a J){d:Nat}{v:SV}(hd:a.tmps[d]? =some (v.den O))(hv:v.sc nx):Sat n ((d,v)::l) H nx iv B w O a J:=by
 refine⟨sat.rel,sat.size,sat.defers,fun t u h=>?_,fun t u h=>?_⟩
 ·rw[dm]at h;split at h
  ·rename_i e;subst e;injection h with h;subst h;exact hd
  ·exact sat.env t u h
 ·rw[dm]at h;split at h
  ·injection h with h;subst h;exact hv
  ·exact sat.sc t u h
theorem lg(sat:Sat n l H nx iv B w O a J){all:List Oper}{o:Oper}{yes no:Env->Prop}(h:qJ all o.guard l yes no):
  (Region.wanted o (yielded all.toArray a.tmps)=true/\∃l',yes l'/\Sat n l' H nx iv B w O a J)\/(Region.wanted o (yielded all.toArray a.tmps)=false/\∃l',no l'/\Sat n l' H nx iv B w O a J):=by
 unfold qJ at h;split at h
 ·rename_i R;exact .inl ⟨by simp[Region.wanted,R],l,h,sat⟩
 ·rename_i j want R;have hy:Region.wanted o (yielded all.toArray a.tmps)=(yielded all.toArray a.tmps j==some want):=by simp[Region.wanted,R]
  split at h
  ·rename_i hd;rw[pU]at hd;exact .inr ⟨by rw[hy];simp[yielded,hd],l,h,sat⟩
  ·rename_i d hd;rw[pU]at hd;split at h
   ·rename_i b hb;have ht:=sat.env d _ hb;have Qf:yielded all.toArray a.tmps j=some b:=by simp[yielded,hd,ht,SV.den,At.den]
    have hkt:b=true->Sat n ((d,.o (.v (.bool true)))::l) H nx iv B w O a J:=fun e=>sat.Jd (by rw[ht,e]) trivial;have hkf:b=false->Sat n ((d,.o (.v (.bool false)))::l) H nx iv B w O a J:=fun e=>sat.Jd (by rw[ht,e]) trivial;split at h
    ·cases M0:b
     ·exact .inr ⟨by rw[hy,Qf,M0];rfl,_,h.f M0,hkf M0⟩
     ·exact .inl ⟨by rw[hy,Qf,M0];rfl,_,h.t M0,hkt M0⟩
    ·cases M0:b
     ·exact .inl ⟨by rw[hy,Qf,M0];rfl,_,h.f M0,hkf M0⟩
     ·exact .inr ⟨by rw[hy,Qf,M0];rfl,_,h.t M0,hkt M0⟩
   ·rename_i vs hb;have ht:=sat.env d _ hb;exact .inr ⟨by rw[hy];simp[yielded,hd,ht,SV.den,At.den],l,h,sat⟩
   ·exact h.elim
theorem nP(hτ:ey P τ){all:List Oper}{G9:KT}{Q:Exit->Act->World->Prop}
  (hQ:∀l' H' Ku E Y GE a' w3,G9 l' H' Ku E Y->Sat n l' H' Ku E B Y GE a' w3->Q .normal a' w3):
  ∀(rest:List Oper) (l:Env) (H:Hp) (nx:Nat) (iv:Iv) (w:World) (O:Nat->cd) (a:Act) (J:World),rest.all (Ij n)=true->DH P τ B all rest l H nx iv w G9->Sat n l H nx iv B w O a J->
   wpList P all.toArray Q rest a J
 |[],l,H,nx,iv,w,O,a,J,_,h,sat=>wpList_nil (hQ _ _ _ _ _ _ _ _ h sat)
 |o::r,l,H,nx,iv,w,O,a,J,Kt,h,sat=>by
  simp only[List.all_cons,aZ]at Kt;have hd:∀t,o.dst=some t->t<n:=fun t ht=>by
   have:=Kt.1;simp only[Ij,ht]at this;have h5:t+1<=n:=by simpa [Nat.blt]using this
   exact h5
  refine wpList_step fun Kc hKc=>?_;unfold DH ig at h;rcases lg sat h with⟨L,l1,V,sat1⟩|⟨L,l1,V,sat1⟩
  ·rw[if_pos L];refine pR hτ V sat1 fun v H' Ku E Y GE w3 I sat2 hv=>?_;obtain⟨l2,K,sat3⟩:=iR sat2 I hd hv;exact hKc _ _ (nP hτ hQ r _ _ _ _ _ _ _ _ Kt.2 K sat3)
  ·rw[aF (by simp[L])];obtain⟨l2,K,sat3⟩:=iR sat1 V hd trivial;exact hKc _ _ (nP hτ hQ r _ _ _ _ _ _ _ _ Kt.2 K sat3)
theorem Sub.sat{t:uY}(h:Sub B l nx O J t)(sat:Sat n l H nx iv B w O a J):∃GE,Sat n t.l t.H t.nx t.iv B t.w GE a J:=by
 obtain⟨GE,V,I⟩:=h;refine⟨GE,V,sat.size,sat.defers,fun u v hv=>?_,fun u v hv=>(I u v hv).1⟩;obtain⟨_,v0,K,h4⟩:=I u v hv;rw[sat.env u v0 K,h4]
theorem fu(hτ:ey P τ):∀(c:Code) (l:Env) (H:Hp) (nx:Nat) (iv:Iv) (w:World) (Q':Ex->KT),kp P τ B c l H nx iv w Q'->codeOk n c=true->
  ∀(O:Nat->cd) (a:Act) (J:World),Sat n l H nx iv B w O a J->∀Q:Exit->Act->World->Prop,(∀e l' H' Ku E Y GE a' w3,Q' e l' H' Ku E Y->Sat n l' H' Ku E B Y GE a' w3->Q e.to a' w3)->c.wp P Q a J
 | .skip,l,H,nx,iv,w,Q',h,_,O,a,J,sat,Q,hQ=>wp_skip (hQ .normal _ _ _ _ _ _ _ _ h sat)
 | .region id ops false,l,H,nx,iv,w,Q',h,Kt,O,a,J,sat,Q,hQ=>by
  obtain⟨ol⟩:=ops;exact wp_region_lit (nP hτ (fun l' H' Ku E Y GE a' w3 W hs=>hQ .normal _ _ _ _ _ _ _ _ W hs) ol _ _ _ _ _ _ _ _ Kt h sat)
 | .region id ops true,l,H,nx,iv,w,Q',h,Kt,O,a,J,sat,Q,hQ=>
  yw.h h n O a J Kt sat Q (fun l' H' Ku E Y GE a' w3 W hs=>hQ .normal _ _ _ _ _ _ _ _ W hs) id
 | .seq c d,l,H,nx,iv,w,Q',h,Kt,O,a,J,sat,Q,hQ=>by
  simp only[codeOk,aZ]at Kt;refine wp_seq (fu hτ c _ _ _ _ _ _ h Kt.1 O a J sat _ fun e l' H' Ku E Y GE a' w3 W hs=>?_)
  cases e with
  |normal=>exact fu hτ d _ _ _ _ _ _ W Kt.2 GE a' w3 hs Q hQ
  |exit id=>exact hQ (.exit id) _ _ _ _ _ _ _ _ W hs
  |ret=>exact hQ .ret _ _ _ _ _ _ _ _ W hs
 | .cond x c d,l,H,nx,iv,w,Q',h,Kt,O,a,J,sat,Q,hQ=>by
  simp only[codeOk,aZ]at Kt;obtain⟨v,V,hv,Mw⟩:=cW sat h;clear Mw;split at V
  ·rename_i t;refine wp_cond_split (t:=t) (by rw[hv];rfl) (fun ht=>?_) (fun ht=>?_)
   ·exact fu hτ c _ _ _ _ _ _ (V.t ht) Kt.1 O a J sat Q hQ
   ·exact fu hτ d _ _ _ _ _ _ (V.f ht) Kt.2 O a J sat Q hQ
  ·exact V.elim
 | .block id c,l,H,nx,iv,w,Q',h,Kt,O,a,J,sat,Q,hQ=>by
  refine wp_block (fu hτ c _ _ _ _ _ _ h Kt O a J sat _ fun e l' H' Ku E Y GE a' w3 W hs=>?_)
  cases e with
  |normal=>exact hQ .normal _ _ _ _ _ _ _ _ W hs
  |exit id'=>
   simp only[Ex.to,Exit.inBlock]
   simp only at W;split at W
   ·rename_i Z;rw[if_pos (dS Z)];exact hQ .normal _ _ _ _ _ _ _ _ W hs
   ·rename_i Z;rw[aF (fun e=>by subst e;rw[Nat.beq_refl]at Z;cases Z)];exact hQ (.exit id') _ _ _ _ _ _ _ _ W hs
  |ret=>exact hQ .ret _ _ _ _ _ _ _ _ W hs
 | .loop c,l,H,nx,iv,w,Q',h,Kt,O,a,J,sat,Q,hQ=>by
  obtain⟨α,st,μ,A',h0,hr⟩:=h;intro b k G;have key:∀m x O a J,μ x=m->A' x->Sat n (st x).l (st x).H (st x).nx (st x).iv B (st x).w O a J->
    ∃e a' Y,Q e a' Y/\Arrives P (lone (b.at a (.code c:: .inLoop c::k)) G J) b k G e a' Y:=by
   intro m
   induction m using Nat.strongRecOn with
   |_ m ih=>
    intro x O a J hm hI hs;have hc:=fu hτ c _ _ _ _ _ _ (hr x hI) Kt O a J hs
     (fun e a2 Y=>match e with
      | .normal=>∃y IR,A' y/\Sat n (st y).l (st y).H (st y).nx (st y).iv B (st y).w IR a2 Y/\μ y<μ x
      |e=>Q e a2 Y) (fun e l' H' Ku E Y GE a' w3 W PS=>by
       cases e with
       |normal=>
        obtain⟨y,hIy,hy,LG⟩:=W GE w3 PS.rel;obtain⟨IR,Li⟩:=hy.sat PS;exact⟨y,IR,hIy,Li,LG⟩
       |exit id=>exact hQ (.exit id) _ _ _ _ _ _ _ _ W PS
       |ret=>exact hQ .ret _ _ _ _ _ _ _ _ W PS)
    obtain⟨e,a₁,w₁,hq,OQ⟩:=hc b (.inLoop c::k) G
    cases e with
    |normal=>
     obtain⟨y,IR,hIy,Li,LG⟩:=hq;obtain⟨e₂,a₂,w₂,hq₂,harr₂⟩:=ih (μ y) (hm▸LG) y IR a₁ w₁ rfl hIy Li;exact⟨e₂,a₂,w₂,hq₂,.of_steps (Steps.trans OQ (.one step_inLoop)) harr₂⟩
    |exit id=>exact⟨_,a₁,w₁,hq,.pass (x:=.inLoop c) rfl (fun _ _=>.inl (by simp)) OQ⟩
    |goto l=>exact⟨_,a₁,w₁,hq,.pass (x:=.inLoop c) rfl (fun _ _=>.inl (by simp)) OQ⟩
    |ret=>exact⟨_,a₁,w₁,hq,.pass (x:=.inLoop c) rfl (fun _ _=>.inl (by simp)) OQ⟩
    |panic ch=>exact⟨_,a₁,w₁,hq,.pass (x:=.inLoop c) rfl (fun _ _=>.inl (by simp)) OQ⟩
    |outgrown=>exact⟨_,a₁,w₁,hq,.pass (x:=.inLoop c) rfl (fun _ _=>.inl (by simp)) OQ⟩
  obtain⟨x,hIx,F⟩:=h0 O J sat.rel;obtain⟨IR,Li⟩:=F.sat sat;obtain⟨e,a',Y,hq,OQ⟩:=key _ x IR a J rfl hIx Li;exact⟨e,a',Y,hq,.of_steps (.one step_loop) OQ⟩
 | .exit id,l,H,nx,iv,w,Q',h,_,O,a,J,sat,Q,hQ=>wp_exit (hQ (.exit id) _ _ _ _ _ _ _ _ h sat)
 | .ret,l,H,nx,iv,w,Q',h,_,O,a,J,sat,Q,hQ=>wp_ret (hQ .ret _ _ _ _ _ _ _ _ h sat)
 | .rangeFunc _ _ _ _,l,H,nx,iv,w,Q',h,_,O,a,J,sat,Q,hQ=>h.elim
 | .scope _,l,H,nx,iv,w,Q',h,_,O,a,J,sat,Q,hQ=>h.elim
 | .label _,l,H,nx,iv,w,Q',h,_,O,a,J,sat,Q,hQ=>h.elim
 | .goto _,l,H,nx,iv,w,Q',h,_,O,a,J,sat,Q,hQ=>h.elim
 | .refuse _,l,H,nx,iv,w,Q',h,_,O,a,J,sat,Q,hQ=>h.elim
def ij:Nat->List Value->Env
 |_,[]=>[]
 |k,v::r=>(k,.o (.v v))::ij (k+1) r
theorem pV:∀(vs:List Value) (k t:Nat) (v:SV),eX (ij k vs) t=some v->k<=t/\∃x,v= .o (.v x)/\vs[t-k]? =some x
 |[],k,t,v,h=>by simp[ij,eX]at h
 |x::r,k,t,v,h=>by
  rw[ij,dm]at h;split at h
  ·rename_i e;subst e;injection h with h;subst h;exact⟨aE _,x,rfl,by simp⟩
  ·obtain⟨V,y,I,K⟩:=pV r (k+1) t v h;refine⟨by omega,y,I,?_⟩;rw[show t-k=(t-(k+1))+1 by omega];simpa using K
def AU(τ:l9)(B:Nat)(l:Env)(H:Hp)(nx:Nat)(iv:Iv)(w:World):List ResultVar->(List SV->Prop)->Prop
 |[],k=>k []
 | .tmp t::r,k=>match eX l t with
  |some v=>AU τ B l H nx iv w r (fun vs=>k (v::vs))
  |none=>False
 | .cell t ty::r,k=>match eX l t with
  |some v=>xw τ B ty v H nx iv w (fun u=>AU τ B l H nx iv w r (fun vs=>k (u::vs)))
  |none=>False
def FO(B:Nat)(H:Hp)(nx:Nat)(iv:Iv)(w:World)(Do:Ending->World->Prop):List SV->Prop
 |[v]=>∀O J,Rel H nx iv B w O J->Do (.returned (v.den O)) J
 |vs=>∀O J,Rel H nx iv B w O J->Do (.returned (.tuple (lf O vs))) J
def Ik(τ:l9)(B:Nat)(rs:List ResultVar)(Do:Ending->World->Prop):Ex->KT
 | .exit _,_,_,_,_,_=>False
 | .normal,l,H,nx,iv,w=>AU τ B l H nx iv w rs (FO B H nx iv w Do)
 | .ret,l,H,nx,iv,w=>AU τ B l H nx iv w rs (FO B H nx iv w Do)
def FP(tmps:Array Value):ResultVar->Sem Value
 | .tmp t=>pure (tmps.getD t undef)
 | .cell c t=>do loadVar t (<-asAddr (tmps.getD c undef))
theorem rX(hτ:ey P τ)(sat:Sat n l H nx iv B w O a J):∀{rs:List ResultVar} {k:List SV->Prop},AU τ B l H nx iv w rs k->
  ∃vs,k vs/\(rs.mapM (FP a.tmps)).run P J= .ok (vs.map (SV.den O)) J
 |[],k,h=>⟨[],h,by simp⟩
 | .tmp t::r,k,h=>by
  unfold AU at h;split at h
  ·rename_i v hv;obtain⟨vs,V,I⟩:=rX hτ sat h;have:=sat.env t v hv;exact⟨v::vs,V,by rw[List.mapM_cons,Sem.run_bind];simp[FP,this,I]⟩
  ·exact h.elim
 | .cell t ty::r,k,h=>by
  unfold AU at h;split at h
  ·rename_i v hv;obtain⟨u,V,hu,Rj⟩:=lz hτ sat.rel (sat.sc t v hv) h;have Kv:=Rj J sat.rel;clear Rj;obtain⟨vs,I,K⟩:=rX hτ sat V;have htm:=sat.env t v hv;refine⟨u::vs,I,?_⟩;have:(do loadVar ty (<-asAddr (v.den O)):Sem Value).run P J= .ok (u.den O) J:=by
    revert Kv;generalize v.den O=x;intro Kv
    cases x with
    |pointer ad=>
     cases ad with
     |some ad=>simpa [asAddr,Instr.loadAt,Instr.sureAddr]using Kv
     |none=>simp[Instr.loadAt,Instr.sureAddr]at Kv
    |_=>simp[Instr.loadAt,Instr.sureAddr]at Kv
   have h4:(FP a.tmps (.cell t ty)).run P J= .ok (u.den O) J:=by
    have e:a.tmps.getD t undef=v.den O:=by simp[htm]
    show(do loadVar ty (<-asAddr (a.tmps.getD t undef)):Sem Value).run P J=_;rw[e];exact this
   rw[List.mapM_cons,Sem.run_bind,h4];simp[K]
  ·exact h.elim
theorem AV(hτ:ey P τ){f:FuncId}{fn:Func}{c:Code}{args:Array Value}{w:World}(hf:P.funcs[f]? =some fn)(hb:fn.body=some c)
  (A:args.size<=fn.ntmps) (Kt:codeOk fn.ntmps c=true) (h:kp P τ w.heap.size c (ij 0 args.toList) [] 0 [] w (Ik τ w.heap.size fn.results.toList Do)):Calls P f args w Do:=by
 refine calls_of_wp hf hb ?_;have sat:Sat fn.ntmps (ij 0 args.toList) [] 0 [] w.heap.size w (fun _=>⟨0,0,true⟩) {tmps:=args++Array.replicate (fn.ntmps-args.size) undef,defers:=[]} w:=by
  refine⟨Rel.mk' rfl rfl rfl (aE _) (aE _) (by simp) (by simp[cO]) (by simp[cO]) (by simp[cO]) (by simp[cO]) (by simp[cO]) (fun _ _ _=>rfl) (by simp),by simp;omega,rfl,fun t v hv=>?_,fun t v hv=>?_⟩
  ·obtain⟨_,x,rfl,F⟩:=pV _ 0 t v hv;simp only[Nat.sub_zero,bA]at F;rw[Array.getElem?_append_left (aW.1 F).1,F];rfl
  ·obtain⟨_,x,rfl,F⟩:=pV _ 0 t v hv;trivial
 refine fu hτ c _ _ _ _ _ _ h Kt _ _ _ sat _ fun e l' H' Ku E Y GE a' w3 W hs=>?_;have fin:AU τ w.heap.size l' H' Ku E Y fn.results.toList (FO w.heap.size H' Ku E Y Do)->a'.defers=[]/\∃v,(results fn a'.tmps).run P w3= .ok v w3/\Do (.returned v) w3:=by
  intro W;obtain⟨vs,V,I⟩:=rX hτ hs W;refine⟨hs.defers,if LL:(vs.map (SV.den GE)).toArray.size=1 then(vs.map (SV.den GE)).toArray[0]else .tuple (vs.map (SV.den GE)).toArray,?_,?_⟩
  ·have e:(fn.results.mapM (FP a'.tmps)).run P w3= .ok (vs.map (SV.den GE)).toArray w3:=by
    rw[Array.mapM_eq_mapM_toList];simp only[Sem.run_map,I,Result.andThen_ok]
   show(do let vs <-fn.results.mapM (FP a'.tmps);pure (if h:vs.size=1 then vs[0]else .tuple vs):Sem Value).run P w3=_;rw[Sem.run_bind,e];simp only[Result.andThen_ok,Sem.run_pure]
  ·match vs,V with
   |[v],V=>simpa using V GE w3 hs.rel
   |[],V=>simpa [lf]using V GE w3 hs.rel
   |v1::v2::r,V=>simpa [lf]using V GE w3 hs.rel
 cases e with
 |normal=>exact fin W
 |exit id=>exact W.elim
 |ret=>exact fin W
end
section
variable{P:Program}{ops:Array Oper}{Q:Exit->Act->World->Prop}{md:Region.Mode}
def fw(P:Program)(ops:Array Oper)(pu:Bool)(o:Oper)(v:Value)(a:Act)(w:World):Prop:=
 (Region.wanted o (yielded ops a.tmps)=true/\∀Y,(pu=true\/Ext w Y)->(execOp a.eval o).run P Y= .ok (.value v) Y)\/
 (Region.wanted o (yielded ops a.tmps)=false/\v=undef)
theorem Ext.refl(w:World):Ext w w:=RowKit.Below.refl _ _
theorem Ext.trans{a b c:World}(h:Ext a b)(k:Ext b c):Ext a c:=RowKit.Below.trans h (k.mono h.size)
theorem fw.wpOp{i:Nat}{o:Oper}{a:Act}(N:ops[i]? =some o)(hy:fw P ops pu o v a w)
  {G9:Act->World->Prop} (h:G9 (a.put o.dst v) w):wpOp P ops Q i G9 a w:=by
 unfold Go.wpOp;simp only[N]
 rcases hy with⟨L,hv⟩|⟨L,rfl⟩
 ·simp only[L,if_true,Oper.wp,hv w (.inr (Ext.refl w)),Oper.upon];exact .inl h
 ·simp only[L,Bool.false_eq_true,if_false];exact h
theorem fw.of_same{o:Oper}{a a':Act}(hy:fw P ops pu o v a w)(Z:execOp a'.eval o=execOp a.eval o)
  (L:Region.wanted o (yielded ops a'.tmps)=Region.wanted o (yielded ops a.tmps)):fw P ops pu o v a' w:=by
 unfold fw at*
 rw[Z,L];exact hy
theorem fw.ext{o:Oper}{a:Act}(hy:fw P ops pu o v a w)(e:pu=true\/Ext w Y):fw P ops pu o v a Y:=
 hy.imp (fun ⟨V,I⟩=>⟨V,fun w3 K=>I w3 (by
  rcases K with K|K
  ·exact .inl K
  ·exact e.imp id (fun e=>e.trans K))⟩) id
theorem EK{oi oj:Oper}{w0:World}(hj:ops[j]? =some oj)(NN:oi.apart ops oj=true)
  (hsi:∀G b,oi.op≠ .select G b) (hsj:∀G b,oj.op≠ .select G b)
  (hQ:∀c a w,Q (.panic c) (a.put oi.dst v) w->Q (.panic c) a w) {G9:Act->World->Prop} {a:Act}
  (hy:fw P ops pu oi v a w0) (h:wpOp P ops Q j G9 (a.put oi.dst v) w):
  wpOp P ops Q j (fun a' J=>fw P ops pu oi v a' w0/\G9 (a'.put oi.dst v) J) a w:=by
 obtain⟨V,I,K⟩:=Oper.apart_spec NN;have br:∀(a:Act),fw P ops pu oi v a w0->∀u,fw P ops pu oi v (a.put oj.dst u) w0:=fun a hy u=>
  hy.of_same (execOp_put oi hsi a oj.dst u K) (wanted_put oi a oj.dst u K)
 have keepD:∀d,fw P ops pu oi v {a with defers:=d::a.defers} w0:=fun d=>hy.of_same rfl rfl;unfold wpOp at*
 simp only[hj]at*
 rw[wanted_put oj a oi.dst v V]at h;split
 ·rename_i L;simp only[L,if_true]at h;rcases h with h|⟨OR,QG⟩
  case inr=>exact .inr ⟨by unfold Oper.asks at *;rw[execOp_put oj hsj a oi.dst v V]at OR;exact OR,QG⟩
  refine .inl ?_;unfold Oper.wp at*
  rw[execOp_put oj hsj a oi.dst v V]at h;generalize (execOp a.eval oj).run P w=r at*
  cases r with
  |ok n J=>
   cases n<;>simp only[Oper.upon]at h ⊢
   case value u=>exact⟨br a hy u,by rw[<-Act.put_comm a v u I];exact h⟩
   case skip=>exact⟨br a hy _,by rw[<-Act.put_comm a v undef I];exact h⟩
   case defer d=>
    refine⟨br _ (keepD d) _,?_⟩;rw[<-Act.put_comm _ v undef I,<-Act.put_defers];exact h
   case enter f args=>
    refine Calls.mono h fun e w'' Z=>?_
    cases e with
    |returned u=>exact⟨br a hy u,by rw[<-Act.put_comm a v u I];exact Z⟩
    |panicked c=>exact hQ _ _ _ Z
    |outgrown=>exact Z
   case row row args=>exact Rows.mono h fun u w'' Z=>⟨br a hy u,by rw[<-Act.put_comm a v u I];exact Z⟩
  |halt x J=>
   cases x<;>simp only[Oper.upon]at h ⊢
   case panic u=>exact hQ _ _ _ h
 ·rename_i L;simp only[L]at h;exact⟨br a hy _,by rw[<-Act.put_comm a v undef I];exact h⟩
def oq(o:Oper):Bool:= !(rQ o.op||HQ o.op||(match o.op with
 | .call ⟨.value _,_,_⟩=> !(Nat.beq o.type 0)
 |_=>false))
def eu(o:Oper):Bool:=match o.op with
 | .call ⟨.value _,_,_⟩=>Nat.beq o.type 0
 |_=>false
theorem pQ{o:Oper}(h:rQ o.op=true):eu o=false:=by
 unfold eu;split
 ·rename_i e;rw[e]at h
  cases h
 ·rfl
theorem Bm{o:Oper}(h:HQ o.op=true):eu o=false:=by
 unfold eu;split
 ·rename_i e;rw[e]at h
  cases h
 ·rfl
theorem oz{o:Oper}(h:oq o=false):eu o=false:=by
 unfold eu;split
 ·rename_i e;simp only[oq,e,rQ,HQ,Bool.false_or,Bool.not_not]at h;exact h
 ·rfl
def rR(P:Program)(md:Region.Mode)(ops:Array Oper)(Q:Exit->Act->World->Prop):Nat->Array Bool->Act->World->Prop
 |0,listed,a,w=>Region.ready md ops listed=[]/\Q .normal a w
 |fuel+1,listed,a,w=>
  (Region.ready md ops listed=[]->Q .normal a w)/\
  ∀i∈Region.ready md ops listed,wpOp P ops Q i (fun a' J=>((∀o,ops[i]? =some o->oq o=false)->Ext w J)/\rR P md ops Q fuel (listed.setIfInBounds i true) a' J) a w
theorem uU:∀(fuel:Nat) (listed:Array Bool) (a:Act) (w:World),rR P md ops Q fuel listed a w->wpAny P md ops Q fuel listed a w
 |0,_,_,_,h=>h
 |fuel+1,_,_,_,h=>⟨h.1,fun i N=>wpOp_mono (fun a' J h'=>uU fuel _ a' J h'.2) (h.2 i N)⟩
theorem qK{i:Nat}{oi:Oper}(N:ops[i]? =some oi)(LJ:∀(j:Nat) (o:Oper) G b,ops[j]? =some o->o.op≠ .select G b)
  (hQ:∀c a w,Q (.panic c) (a.put oi.dst v) w->Q (.panic c) a w) (xo:Nat->Prop) (OO:∀j,xo j->∃oj e,ops[j]? =some oj/\e∈oj.after/\Region.binds md e=true/\(e.on=i\/xo e.on)):
  ∀(fuel:Nat) (listed:Array Bool) (a:Act) (w:World),(∀j,xo j->listed.getD j false=false)->
   (∀j oj,ops[j]? =some oj->j≠i->listed.getD j true=false->¬xo j->oi.apart ops oj=true/\(pu=true\/oq oj=false))->
   i∈Region.ready md ops listed->fw P ops pu oi v a w->
   rR P md ops Q fuel (listed.setIfInBounds i true) (a.put oi.dst v) w->rR P md ops Q (fuel+1) listed a w:=by
 intro fuel
 induction fuel with
 |zero=>
  intro listed a w _ _ hr hy H;refine⟨fun h=>(by rw[h]at hr;cases hr),fun j hj=>?_⟩;by_cases Lc:j=i
  ·subst Lc;exact hy.wpOp N ⟨fun _=>Ext.refl w,H⟩
  ·have:=ready_mono hj Lc;rw[H.1]at this
   cases this
 |succ fuel ih=>
  intro listed a w MZ NC hr hy H;refine⟨fun h=>(by rw[h]at hr;cases hr),fun j hj=>?_⟩;by_cases Lc:j=i
  ·subst Lc;exact hy.wpOp N ⟨fun _=>Ext.refl w,H⟩
  ·have V:=H.2 j (ready_mono hj Lc);obtain⟨QH,oj,Mv,NS⟩:=mem_ready.1 hj;have Me:¬xo j:=fun hb=>by
    obtain⟨oj',e,No,Z,hbi,Pz⟩:=OO j hb;rw[Mv]at No;injection No with No;subst No;have V:=NS e Z hbi;rcases Pz with heq|Mn
    ·have h0:=(mem_ready.1 hr).1;rw[heq]at V;rcases aO i listed.size with h'|h'
     ·simp[h']at h0 V;rw[h0]at V;cases V
     ·simp[Array.getElem?_eq_none h']at V
    ·rw[MZ _ Mn]at V;cases V
   have Oi:=NC j oj Mv Lc QH Me;have I:=EK Mv Oi.1 (fun G b=>LJ i oi G b N) (fun G b=>LJ j oj G b Mv) hQ hy V;have hbl':∀k,xo k->(listed.setIfInBounds j true).getD k false=false:=fun k W=>by
    rw[getD_set_ne false (fun e=>(by subst e;exact Me W))];exact MZ k W
   have Oq:∀k ok,ops[k]? =some ok->k≠i->(listed.setIfInBounds j true).getD k true=false->
     ¬xo k->oi.apart ops ok=true/\(pu=true\/oq ok=false):=fun k ok W hki QC Of=>by
    refine NC k ok W hki ?_ Of;by_cases Ns:j=k
    ·subst Ns;exact QH
    ·rw[getD_set_ne true Ns]at QC;exact QC
   refine wpOp_mono (fun a' J K=>?_) I;have Nv:oq oj=false->Ext w J:=fun hf=>K.2.1 (fun o ho=>by rw[Mv]at ho;injection ho with ho;subst ho;exact hf);refine⟨fun hh=>Nv (hh oj Mv),ih (listed.setIfInBounds j true) a' J hbl' Oq (ready_mono hr (Ne.symm Lc)) (K.1.ext (Oi.2.imp id Nv)) ?_⟩;rw[Array.setIfInBounds_comm _ _ Lc];exact K.2.2
end
section
variable{P:Program}{τ:l9}{B n nx:Nat}{l:Env}{H:Hp}{iv:Iv}{w J:World}{O:Nat->cd}{a:Act}
def AL(P:Program)(o:Oper)(a:Act)(mk:Nat->Value)(obj:Obj):Prop:=
 ∀w:World,(execOp a.eval o).run P w= .ok (.value (mk w.heap.size)) (w.alloc obj)
theorem AL.uniq{o:Oper}{mk':Nat->Value}{obj':Obj}(h:AL P o a mk obj)(h':AL P o a mk' obj'):obj=obj'/\mk=mk':=by
 have key:∀w:World,mk w.heap.size=mk' w.heap.size/\w.alloc obj=w.alloc obj':=fun w=>by
  have:=(h w).symm.trans (h' w);injection this with V I;injection V with V;exact⟨V,I⟩
 refine⟨?_,funext fun g=>?_⟩
 ·have:=(key default).2;have I:=congrArg (fun w:World=>w.heap[(default:World).heap.size]?) this;simp only[heap_alloc_new]at I;injection I
 ·have:=(key {(default:World)with heap:=Array.replicate g default}).1;simpa using this
theorem lh(hτ:ey P τ){o:Oper}(h:uO dr P τ B o l H nx iv w G9)(sat:Sat n l H nx iv B w O a J)(W:HQ o.op=true):
  ∃b v mk obj,G9 v ((nx,b)::H) (nx+1) iv w/\b≠ .dead/\b.scopd nx/\v.sc (nx+1)/\(∀g,v.den (fI O nx ⟨g,0,false⟩)=mk g)/\(∀g Y,Y.heap[g]? =some obj->b.fits O ⟨g,0,false⟩ Y)/\AL P o a mk obj:=by
 obtain⟨dst,op,ty,pos,after,guard⟩:=o;unfold uO at h;split at h<;>first|(exact False.elim h)|(rename_i PO;simp only at PO;subst PO)
 all_goals first|(exact absurd W Bool.false_ne_true)|skip
 ·rename_i t;split at h
  ·rename_i sz ag by_ ze tag ik e al fs MQ;have hK:=e8 h;refine⟨_,_,fun g=>.pointer (some ⟨g,0,none⟩),.cells ze.toArray t,hK,by simp,(fun c hc=>by obtain⟨v,_,rfl⟩:=aT.1 hc;trivial),by simp[SV.sc,At.sc],fun g=>by simp[SV.den,At.den],fun g Y R=>⟨rfl,by rw[eY];exact R⟩,fun w=>?_⟩;obtain⟨z,Kw,LQ⟩:=(hτ t _ MQ).zeroV w;simp only at LQ;have hzz:z.cells=ze.toArray:=by apply Array.ext';simpa using LQ
   simp[execOp,Instr.alloc,Kw,newVar,newRow,hzz]
  ·exact h.elim
 ·rename_i t x;obtain⟨v,V,hv,hs⟩:=cW sat h;obtain⟨G,hK,LS,Nq⟩:=kW V;refine⟨_,_,fun g=>.pointer (some ⟨g,0,none⟩),.cells (G.map (At.den O)).toArray t,hK,by simp,Nq nx hs,by simp[SV.sc,At.sc],fun g=>by simp[SV.den,At.den],fun g Y R=>⟨rfl,R⟩,fun w=>?_⟩;simp[execOp,Instr.box,hv,newVar,newRow,LS O]
 ·rename_i t m parts;split at h
  ·rename_i sz ag by_ ze tag ik e al fs MQ;have ht:=hτ t _ MQ;split at h
   ·rename_i LB;have hu:=ht.i4 (dS LB);simp only at hu;split at h
    ·rename_i sz' ag' by' ze' tag' ik' e' al' fs' LY
     have LY:=hτ e _ LY;obtain⟨inf,z,N,LL,L0,hz,MW⟩:=LY.info;have Mp:=LY.Dw;simp only at LL L0 MW Mp;split at h
     ·rename_i hle;have hle:=Nat.le_of_ble_eq_true hle;have h0:=e8 h;obtain⟨cs',hK,Le,hlen,Lh⟩:=jN sat (placeF:=fun i=>some (i*inf.size,inf.size)) (fun i k W=>⟨i*sz',sz',W,by rw[LL]⟩) h0
       (fun c hc=>by obtain⟨v,_,rfl⟩:=aT.1 hc;trivial)
      rw[eY]at Lh;have Mr:z.cells=ze'.toArray:=by apply Array.ext';simpa using MW
      have QF:((List.replicate m ze').flatten).toArray=madeCells z.cells (m*inf.size):=by
       rw[Mr,LL,<-Mp];exact(oX ze' m).symm
      refine⟨_,_,fun g=>.slice (some ⟨g,0,none⟩) m m,.cells (cs'.map (At.den O)).toArray e,hK,by simp,Le,by simp[SV.sc,At.sc],fun g=>by simp[SV.den,At.den],fun g Y R=>⟨rfl,R⟩,fun w=>?_⟩;simp only[execOp]
      refine kX ?_;rw[QF]at Lh;by_cases LU:m*inf.size=0
      ·have NV:Instr.fill (fun i=>some (i*inf.size,inf.size)) (madeCells z.cells 0) (parts.toList.map fun p=>(p.1,a.eval p.2))=some (cs'.map (At.den O)).toArray:=by rw[LU]at Lh;exact Lh
       have e0:madeCells z.cells 0= #[]:=by simp[madeCells]
       rw[e0]at NV;have er:Array.range 0= #[]:=rfl;simp[Instr.buildSlice,run_underlying hu,sizeOf,typeInfo,zeroValue,N,hz,LU,newRow,NV,er]
      ·exact run_buildSlice w t e m _ _ inf z hu N hz (by rw[LL];omega) LU (by rw[<-Lh];simp[madeCells])
     ·exact h.elim
    ·exact h.elim
   ·exact h.elim
  ·exact h.elim
 ·rename_i t x y;obtain⟨v,V,hv,Mw⟩:=cW sat h;obtain⟨u,I,hu,hus⟩:=cW sat V;clear Mw hus;unfold DG at I;split at I
  ·rename_i k1 a1 k2 b1;split at I
   ·rename_i sz ag by_ ze tag ik e al fs MQ;have ht:=hτ t _ MQ;split at I
    ·rename_i LB;have hut:=ht.i4 (dS LB);simp only at hut;split at I
     ·rename_i sz' ag' by' ze' tag' ik' e' al' fs' LY
      have LY:=hτ e _ LY;obtain⟨inf,z,N,LL,L0,hz,MW⟩:=LY.info;simp only at LL L0 MW;obtain⟨m,c,rfl,rfl,Ph,hbytes,h63,K⟩:=I;have Qe:(inf.bytes:Int)*(c:Int)<=281474976710656:=by
       rw[L0];have Mn:((by'*c:Nat):Int)<=281474976710656:=by omega
       rwa [Int.natCast_mul]at Mn
      have Kv:=fun w:World=>run_make (P:=P) w t e inf z hut N hz k1 k2 (m:Int) (c:Int) (by omega) (by omega) Qe (by omega);simp only[aG]at Kv;have Mp:=LY.Dw;simp only at Mp;have Mr:z.cells=ze'.toArray:=by apply Array.ext';simpa using MW
      have fin:∀G:List Value,G.toArray=madeCells z.cells (c*inf.size)->xS (.arr e G) H nx (fun H' Ku=>G9 (.o (.s nx 0 m c)) H' Ku iv w)->
        ∃b v mk obj,G9 v ((nx,b)::H) (nx+1) iv w/\b≠ .dead/\b.scopd nx/\v.sc (nx+1)/\(∀g,v.den (fI O nx ⟨g,0,false⟩)=mk g)/\(∀g Y,Y.heap[g]? =some obj->b.fits O ⟨g,0,false⟩ Y)/\
         AL P ⟨dst,.makeSlice t x y,ty,pos,after,guard⟩ a mk obj:=by
       intro G Le hK;refine⟨_,_,fun g=>.slice (some ⟨g,0,none⟩) m c,.cells G.toArray e,hK,by simp,trivial,by simp[SV.sc,At.sc],fun g=>by simp[SV.den,At.den],fun g Y R=>⟨rfl,R⟩,fun w=>?_⟩;simp only[execOp,hv,hu]
       refine kX ?_;rw[show SV.den O (.o (.v (.int k1 m)))= .int k1 m from rfl,show SV.den O (.o (.v (.int k2 c)))= .int k2 c from rfl,Kv w,Le]
      split at K
      ·rename_i z0;refine fin _ ?_ K;have:inf.size=1:=by rw[LL,<-Mp];rfl
       rw[this,az,Mr,AT]
      ·refine fin _ ?_ K;rw[LL,<-Mp,Mr,oX]
     ·exact I.elim
    ·exact I.elim
   ·exact I.elim
  ·exact I.elim
end
inductive It where
 |x (i:Nat)
 |p (i:Nat)
def AA:Env->Nat->(Env->Prop)->Prop
 |[],_,k=>k []
 |(t,v)::r,u,k=>match Nat.beq t u with
  |true=>AA r u k
  |false=>AA r u (fun r'=>k ((t,v)::r'))
def KA(d:Option Tmp)(l:Env)(k:Env->Prop):Prop:=match d with
 |some t=>AA l t k
 |none=>k l
def uN:List Oper->Nat->(Oper->Prop)->Prop
 |[],_,_=>False
 |o::_,0,k=>k o
 |_::r,n+1,k=>uN r n k
def Ev(P:Program)(τ:l9)(B:Nat)(all:List Oper):List It->Env->Hp->Nat->Iv->World->KT->Prop
 |[],l,H,nx,iv,w,G9=>G9 l H nx iv w
 | .x i::r,l,H,nx,iv,w,G9=>uN all i (fun o=>ig (!eu o) P τ B all o l H nx iv w (fun l' H' Ku E J=>Ev P τ B all r l' H' Ku E J G9))
 | .p i::r,l,H,nx,iv,w,G9=>uN all i (fun o=>uO true P τ B o l H nx iv w (fun _ _ _ _ _=>KA o.dst l (fun l'=>Ev P τ B all r l' H nx iv w G9)))
def Ds(ops:Array Oper)(o:Oper)(j:Nat):Bool:=match ops[j]? with
 |some oj=>o.apart ops oj
 |none=>false
def ia(la:Array Bool):List Nat->Array Bool
 |[]=>la
 |i::r=>ia (la.setIfInBounds i true) r
def tb(m j:Nat):Bool:=Nat.beq ((m >>> j) % 2) 1
def gS:List Bool->Nat->Nat
 |[],_=>0
 |true::r,j=>(1 <<< j) ||| gS r (j+1)
 |false::r,j=>gS r (j+1)
def xQ(m i:Nat):List Oper->Nat->Nat->Nat
 |[],_,b=>b
 |o::r,j,b=>match(!tb m j&& !Nat.beq j i)&&o.after.toList.any (fun e=>Region.binds .any e&&(Nat.beq e.on i||tb b e.on))with
  |true=>xQ m i r (j+1) (b ||| (1 <<< j))
  |false=>xQ m i r (j+1) b
def DC(ops:Array Oper)(m i:Nat)(oi:Oper)(b:Nat):List Oper->Nat->Bool
 |[],_=>true
 |oj::r,j=>(Nat.beq j i||tb m j||tb b j||(oi.apart ops oj&&(Dt oi.op|| !oq oj)))&&DC ops m i oi b r (j+1)
def IM(ops:Array Oper)(m:Nat)(Pd:List Nat)(i:Nat)(oi:Oper)(b:Nat):Bool:=Pd.all (fun j=> !tb b j)&&DC ops m i oi b ops.toList 0
def DD(ops:Array Oper)(m:Nat)(Pd:List Nat)(i:Nat)(oi:Oper):Bool:=IM ops m Pd i oi (xQ m i ops.toList 0 0)
def nG(ops:Array Oper):List It->Array Bool->List Nat->Bool
 |[],lx,Pd=>(Region.ready .any ops lx).isEmpty&&Pd.isEmpty
 | .p i::r,lx,Pd=>match ops[i]? with
  |none=>false
  |some o=>HQ o.op&&o.guard.isNone&&(match o.dst with
     |some d=> !(o.looksAt ops).contains d
     |none=>false)&&(!lx.getD i true)&&Pd.all (fun j=> !Nat.beq j i)&&
    Pd.all (fun j=>Ds ops o j&&(match ops[j]? with
     |some oj=>oj.apart ops o
     |none=>false))&&nG ops r lx (i::Pd)
 | .x i::r,lx,Pd=>match ops[i]? with
  |none=>false
  |some o=>(o.guard.isNone||Pd.isEmpty)&&(Region.ready .any ops lx).contains i&&
    Pd.all (fun j=>Nat.beq j i||Ds ops o j)&&
    (match rQ o.op with
     |true=>DD ops (gS lx.toList 0) Pd i o
     |false=>(!oq o||Pd.isEmpty)&&(Region.ready .any ops (ia lx (Pd.filter fun j=> !Nat.beq j i))).all (fun j=>Nat.beq j i))&&
    nG ops r (lx.setIfInBounds i true) (Pd.filter fun j=> !Nat.beq j i)
theorem lH(h:j<la.size)(b c:Bool):la.getD j b=la.getD j c:=by
 rw[aX,aX,Array.getElem?_eq_getElem h];rfl
theorem lI{a b:Nat}:Nat.beq a b=false↔a≠b:=⟨fun h e=>(by subst e;rw[Nat.beq_refl]at h;cases h),fun h=>by
 cases hb:Nat.beq a b with
 |false=>rfl
 |true=>exact absurd (dS hb) h⟩
theorem Ew{a b:Nat}(h:b<a):Nat.ble a b=false:=by
 cases hb:Nat.ble a b with
 |false=>rfl
 |true=>exact absurd (Nat.le_of_ble_eq_true hb) (by omega)
theorem pN(m j:Nat):tb m j=m.testBit j:=by
 rw[Nat.testBit_eq_decide_div_mod_eq,tb,Nat.shiftRight_eq_div_pow]
 cases h:decide (m / 2^j % 2=1)with
 |true=>rw[aL h];rfl
 |false=>exact lI.2 (aI h)
theorem AB(a b j:Nat):tb (a ||| b) j=(tb a j||tb b j):=by rw[pN,pN,pN,Nat.testBit_or]
theorem Bh(i j:Nat):tb (1 <<< i) j=Nat.beq j i:=by
 rw[pN,Nat.one_shiftLeft,Nat.testBit_two_pow]
 cases h:Nat.beq j i with
 |true=>exact bY (dS h).symm
 |false=>exact bI fun e=>(lI.1 h) e.symm
theorem qI(j:Nat):tb 0 j=false:=by rw[pN,Nat.zero_testBit]
theorem AD:∀(l:List Bool) (k j:Nat),tb (gS l k) j=(Nat.ble k j&&l.getD (j-k) false)
 |[],k,j=>by unfold gS;rw[qI];simp
 |b::r,k,j=>by
  have e:tb (gS (b::r) k) j=((b&&Nat.beq j k)||tb (gS r (k+1)) j):=by
   cases b<;>simp only[gS,AB,Bh,Bool.false_and,Bool.true_and,Bool.false_or]
  rw[e,AD r (k+1) j];rcases Nat.lt_trichotomy j k with h|h|h
  ·rw[lI.2 (by omega),Bool.and_false,Bool.false_or,Ew (by omega),Ew (by omega)];rfl
  ·subst h;rw[Nat.beq_refl,Ew (by omega),Nat.ble_eq_true_of_le (aE j),bC];simp
  ·rw[lI.2 (by omega),Bool.and_false,Bool.false_or,Nat.ble_eq_true_of_le (show k+1<=j from h),Nat.ble_eq_true_of_le (Nat.le_of_lt h),show j-k=(j-(k+1))+1 by omega,List.getD_cons_succ]
def Rm(lx:Array Bool)(m:Nat):Prop:=∀j,tb m j=lx.getD j false
theorem tn(lx:Array Bool):Rm lx (gS lx.toList 0):=fun j=>by
 rw[AD,show Nat.ble 0 j=true from Nat.ble_eq_true_of_le (aP j),Bool.true_and,Nat.sub_zero,aX,List.getD,bA]
theorem Rm.eq{m':Nat}(h:Rm lx m)(h':Rm lx m'):m=m':=Nat.eq_of_testBit_eq fun j=>by rw[<-pN,<-pN,h,h']
theorem lJ{ops:Array Oper}{m i:Nat}:∀(l:List Oper) (k b:Nat),(∀n o,l[n]? =some o->ops[k+n]? =some o)->
  (∀j,tb b j=true->tb m j=false/\j≠i/\∃oj e,ops[j]? =some oj/\e∈oj.after/\Region.binds .any e=true/\(e.on=i\/∃b2,tb b2 e.on=true/\b2=b))->
  ∀j,tb (xQ m i l k b) j=true->tb m j=false/\j≠i/\∃oj e,ops[j]? =some oj/\e∈oj.after/\Region.binds .any e=true/\(e.on=i\/tb (xQ m i l k b) e.on=true)
 |[],k,b,_,h,j,hj=>by
  obtain⟨V,I,oj,e,K,h4,h5,h6⟩:=h j hj;exact⟨V,I,oj,e,K,h4,h5,h6.imp id fun⟨_,h7,h8⟩=>h8▸h7⟩
 |o::r,k,b,hl,h,j,hj=>by
  have hr:∀n o',r[n]? =some o'->ops[k+1+n]? =some o':=fun n o' A=>by
   have:=hl (n+1) o' (by simpa using A)
   rwa [show k+(n+1)=k+1+n by omega]at this
  unfold xQ at hj ⊢
  cases hc:((!tb m k&& !Nat.beq k i)&&o.after.toList.any (fun e=>Region.binds .any e&&(Nat.beq e.on i||tb b e.on)))with
  |false=>
   rw[hc]at hj;exact lJ r (k+1) b hr h j hj
  |true=>
   rw[hc]at hj;refine lJ r (k+1) (b ||| (1 <<< k)) hr (fun j hj=>?_) j hj;rw[AB,Bh,Bool.or_eq_true]at hj;rcases hj with hj|hj
   ·obtain⟨V,I,oj,e,K,h4,h5,h6⟩:=h j hj;refine⟨V,I,oj,e,K,h4,h5,h6.imp id fun⟨b2,h7,h8⟩=>⟨_,?_,rfl⟩⟩;rw[AB,<-h8,h7];rfl
   ·have hj:=dS hj;subst hj;simp only[aZ,Bool.not_eq_true',List.any_eq_true]at hc;obtain⟨⟨V,I⟩,e,Z,K,h4⟩:=hc;refine⟨V,lI.1 I,o,e,by have:=hl 0 o (by simp);simpa using this,by simpa using Z,K,?_⟩;rw[Bool.or_eq_true]at h4;exact h4.imp dS fun h5=>⟨_,by rw[AB,h5];rfl,rfl⟩
theorem uP{ops:Array Oper}{m i:Nat}{oi:Oper}{b:Nat}:∀(l:List Oper) (k:Nat),DC ops m i oi b l k=true->∀n oj,l[n]? =some oj->k+n≠i->tb m (k+n)=false->tb b (k+n)=false->oi.apart ops oj=true/\(Dt oi.op=true\/oq oj=false)
 |[],_,_,n,oj,A,_,_,_=>by simp at A
 |o::r,k,h,n,oj,A,V,I,K=>by
  unfold DC at h;rw[aZ]at h
  cases n with
  |zero=>
   rw[List.getElem?_cons_zero]at A;injection A with A;subst A;rw[bj]at V I K;rw[lI.2 V,I,K]at h;simpa using h.1
  |succ n=>
   rw[List.getElem?_cons_succ]at A;rw[show k+(n+1)=k+1+n by omega]at V I K;exact uP r (k+1) h.2 n oj A V I K
theorem Bi{ops:Array Oper}{i:Nat}{oi:Oper}(h:DD ops (gS lx.toList 0) Pd i oi=true)(hs:lx.size=ops.size):∃xo:Nat->Prop,
  (∀j,xo j->∃oj e,ops[j]? =some oj/\e∈oj.after/\Region.binds .any e=true/\(e.on=i\/xo e.on))/\(∀j,xo j->lx.getD j false=false)/\(∀j∈Pd,¬xo j)/\
  ∀j oj,ops[j]? =some oj->j≠i->lx.getD j true=false->¬xo j->oi.apart ops oj=true/\(Dt oi.op=true\/oq oj=false):=by
 unfold DD IM at h;rw[aZ]at h;have hm:=tn lx;have hb:=lJ (ops:=ops) (m:=gS lx.toList 0) (i:=i) ops.toList 0 0 (fun n o A=>by rw[aU];rwa [bA]at A) (fun j hj=>by rw[qI]at hj;cases hj);generalize xQ (gS lx.toList 0) i ops.toList 0 0=b at*
 refine⟨fun j=>tb b j=true,fun j hj=>(hb j hj).2.2,fun j hj=>(hm j).symm.trans (hb j hj).1,fun j hj W=>?_,fun j oj Mv Lc hl W=>?_⟩
 ·have:=List.all_eq_true.1 h.1 j hj;rw[W]at this;cases this
 ·have hj:=(aW.1 Mv).1;exact uP ops.toList 0 h.2 j oj (by rw[bA];exact Mv) (by omega) (by rw[aU,hm,lH (by omega) false true];exact hl) (by rw[aU];simpa using W)
def AE(m:Nat):List Oper->Nat->List Nat
 |[],_=>[]
 |o::r,j=>match !tb m j&&o.after.toList.all (fun e=> !Region.binds .any e||tb m e.on)with
  |true=>j::AE m r (j+1)
  |false=>AE m r (j+1)
def sm(n m i:Nat):Nat:=match Nat.blt i n with
 |true=>m ||| (1 <<< i)
 |false=>m
def Jw(n:Nat)(m:Nat):List Nat->Nat
 |[]=>m
 |i::r=>Jw n (sm n m i) r
def Bj(ops:Array Oper)(n:Nat):List It->Nat->List Nat->Bool
 |[],m,Pd=>(AE m ops.toList 0).isEmpty&&Pd.isEmpty
 | .p i::r,m,Pd=>match ops[i]? with
  |none=>false
  |some o=>HQ o.op&&o.guard.isNone&&(match o.dst with
     |some d=> !(o.looksAt ops).contains d
     |none=>false)&&(Nat.blt i n&& !tb m i)&&Pd.all (fun j=> !Nat.beq j i)&&
    Pd.all (fun j=>Ds ops o j&&(match ops[j]? with
     |some oj=>oj.apart ops o
     |none=>false))&&Bj ops n r m (i::Pd)
 | .x i::r,m,Pd=>match ops[i]? with
  |none=>false
  |some o=>(o.guard.isNone||Pd.isEmpty)&&(AE m ops.toList 0).contains i&&
    Pd.all (fun j=>Nat.beq j i||Ds ops o j)&&
    (match rQ o.op with
     |true=>DD ops m Pd i o
     |false=>(!oq o||Pd.isEmpty)&&(AE (Jw n m (Pd.filter fun j=> !Nat.beq j i)) ops.toList 0).all (fun j=>Nat.beq j i))&&
    Bj ops n r (sm n m i) (Pd.filter fun j=> !Nat.beq j i)
theorem DE{ops:Array Oper}{lx:Array Bool}{m:Nat}(hR:Rm lx m)(hs:lx.size=ops.size):∀(l:List Oper) (k:Nat),(∀n,n<l.length->ops[k+n]? =l[n]?)->k+l.length<=ops.size->
  AE m l k=(List.range' k l.length).filter fun i=> !lx.getD i true&&((ops[i]?).map (·.after.all fun e=> !Region.binds .any e||lx.getD e.on false)).getD false
 |[],_,_,_=>rfl
 |o::r,k,h,W=>by
  rw[bL]at W
  have ih:=DE hR hs r (k+1) (fun n A=>by
   have:=h (n+1) (by simpa using A)
   rw[show k+1+n=k+(n+1) by omega,this,List.getElem?_cons_succ]) (by omega)
  have h0:ops[k]? =some o:=by have:=h 0 (by simp);simpa using this
  rw[bL,List.range'_succ,List.filter_cons,<-ih];have e:(!lx.getD k true&&((ops[k]?).map (·.after.all fun e=> !Region.binds .any e||lx.getD e.on false)).getD false)=(!tb m k&&o.after.toList.all fun e=> !Region.binds .any e||tb m e.on):=by
   rw[h0,hR k,lH (by omega) true false,Option.map_some,Option.getD_some,Array.all_toList];simp only[hR _]
  rw[e,AE]
  cases (!tb m k&&o.after.toList.all fun e=> !Region.binds .any e||tb m e.on)<;>rfl
theorem Bk{ops:Array Oper}(hR:Rm lx m)(hs:lx.size=ops.size):AE m ops.toList 0=Region.ready .any ops lx:=by
 rw[DE hR hs ops.toList 0 (fun n _=>by rw[aU,bA]) (by simp)];unfold Region.ready;rw[List.range_eq_range',Array.length_toList]
theorem Rm.set(hR:Rm lx m)(i:Nat):Rm (lx.setIfInBounds i true) (sm lx.size m i):=fun j=>by
 unfold sm;rw[aX,Array.getElem?_setIfInBounds]
 cases h:Nat.blt i lx.size with
 |true=>
  have h:=Nat.le_of_ble_eq_true h;show tb (m ||| (1 <<< i)) j=_;rw[AB,Bh];by_cases Lt:i=j
  ·rw[if_pos Lt,if_pos (by omega),Lt,Nat.beq_refl,Bool.or_true];rfl
  ·rw[aF Lt,lI.2 (Ne.symm Lt),Bool.or_false,hR,aX]
 |false=>
  show tb m j=_;have h:¬i<lx.size:=fun I=>by rw[show Nat.blt i lx.size=true from Nat.ble_eq_true_of_le I]at h;cases h
  by_cases Lt:i=j
  ·rw[if_pos Lt,aF h,hR,aX,<-Lt,Array.getElem?_eq_none (by omega)]
  ·rw[aF Lt,hR,aX]
theorem Ey:∀(r:List Nat) (lx:Array Bool),(ia lx r).size=lx.size
 |[],_=>rfl
 |i::r,lx=>by unfold ia;rw[Ey r,bT]
theorem Rm.ia{n:Nat}:∀(r:List Nat) (lx:Array Bool) (m:Nat),lx.size=n->Rm lx m->Rm (ia lx r) (Jw n m r)
 |[],_,_,_,h=>h
 |i::r,lx,m,A,h=>by
  unfold Go.Sx.ia Jw;exact Rm.ia r _ _ (by rw[bT];exact A) (A▸h.set i)
theorem yv{ops:Array Oper}:∀(π:List It) (lx:Array Bool) (m:Nat) (Pd:List Nat),lx.size=ops.size->Rm lx m->Bj ops ops.size π m Pd=nG ops π lx Pd
 |[],lx,m,Pd,hs,h=>by unfold Bj nG;rw[Bk h hs]
 | .p i::r,lx,m,Pd,hs,h=>by
  unfold Bj nG
  cases ho:ops[i]? with
  |none=>rfl
  |some o=>
   have N:=(aW.1 ho).1;simp only[yv r lx m (i::Pd) hs h,h i,lH (show i<lx.size by omega) true false,show Nat.blt i ops.size=true from Nat.ble_eq_true_of_le N,Bool.true_and]
 | .x i::r,lx,m,Pd,hs,h=>by
  unfold Bj nG
  cases ho:ops[i]? with
  |none=>rfl
  |some o=>
   obtain rfl:=h.eq (tn lx);have V:=yv r (lx.setIfInBounds i true) (sm ops.size (gS lx.toList 0) i) (Pd.filter fun j=> !Nat.beq j i) (by rw[bT];exact hs) (hs▸h.set i);have I:=Bk (Rm.ia (n:=ops.size) (Pd.filter fun j=> !Nat.beq j i) lx (gS lx.toList 0) hs h) (by rw[Ey];exact hs);simp only[V,I,Bk h hs]
theorem dc{ops:Array Oper}:j∈Region.ready .any ops la↔
  la[j]? =some false/\∃o,ops[j]? =some o/\∀e∈o.after,Region.binds .any e=true->la[e.on]? =some true:=by
 rw[mem_ready];have V:la.getD j true=false↔la[j]? =some false:=by
  rw[aX]
  cases la[j]? with
  |none=>simp
  |some b=>simp
 have I:∀k,la.getD k false=true↔la[k]? =some true:=fun k=>by
  rw[aX]
  cases la[k]? with
  |none=>simp
  |some b=>simp
 simp only[V,I]
theorem nH{i:Nat}:(la.setIfInBounds i true)[j]? =some true↔la[j]? =some true\/(j=i/\j<la.size):=by
 rw[Array.getElem?_setIfInBounds];split
 ·rename_i h;subst h;by_cases hs:i<la.size
  ·simp[hs]
  ·simp[hs]
 ·rename_i h;simp[Ne.symm h]
theorem AF:∀(Pd:List Nat) (la:Array Bool),(ia la Pd).size=la.size
 |[],_=>rfl
 |i::r,la=>by simp[ia,AF r]
theorem uQ:∀(Pd:List Nat) (la:Array Bool) (j:Nat),(ia la Pd)[j]? =some true↔la[j]? =some true\/(j∈Pd/\j<la.size)
 |[],_,_=>by simp[ia]
 |i::r,la,j=>by
  rw[ia,uQ r,nH];simp only[bT,List.mem_cons]
  constructor
  ·rintro((h|⟨h,hs⟩)|⟨h,hs⟩)
   ·exact .inl h
   ·exact .inr ⟨.inl h,hs⟩
   ·exact .inr ⟨.inr h,hs⟩
  ·rintro(h|⟨h|h,hs⟩)
   ·exact .inl (.inl h)
   ·exact .inl (.inr ⟨h,hs⟩)
   ·exact .inr ⟨h,hs⟩
def Ia(la:Array Bool):Nat:=la.toList.countP (fun b=> !b)
theorem jc{i:Nat}(h:la[i]? =some false):Ia (la.setIfInBounds i true)+1=Ia la:=by
 obtain⟨N,Z⟩:=aW.1 h;have Oe:i<la.toList.length:=by simpa using N
 have LU:0<la.toList.countP (fun b=> !b):=List.countP_pos_iff.2 ⟨false,by
  have:la[i]∈la:=Array.getElem_mem N;rw[Z]at this
  simpa using this,rfl⟩
 unfold Ia;rw[Array.toList_setIfInBounds,List.countP_set Oe];simp only[Array.getElem_toList,Z]
 simp only[Bool.not_false,if_true,Bool.not_true,Bool.false_eq_true,if_false,bj]
 exact Nat.sub_add_cancel LU
theorem pO:∀{l:Env} {u:Nat} {k:Env->Prop},AA l u k->∃l',k l'/\eX l' u=none/\∀t v,eX l' t=some v->t≠u/\eX l t=some v
 |[],u,k,h=>⟨[],h,rfl,fun t v h=>by cases h⟩
 |(t0,v0)::r,u,k,h=>by
  unfold AA at h;split at h
  ·rename_i hb;have hb:=dS hb;obtain⟨l',V,I,K⟩:=pO h;refine⟨l',V,I,fun t v hv=>⟨(K t v hv).1,?_⟩⟩;rw[dm,aF (fun e=>(K t v hv).1 (e.symm.trans hb))];exact(K t v hv).2
  ·rename_i hb;have Kq:t0≠u:=fun e=>by subst e;rw[Nat.beq_refl]at hb;cases hb
   obtain⟨l',V,I,K⟩:=pO h;refine⟨_,V,?_,fun t v hv=>?_⟩
   ·rw[dm,aF Kq];exact I
   ·rw[dm]at hv ⊢;split at hv
    ·rename_i e;subst e;exact⟨Kq,by simpa using hv⟩
    ·rename_i e;rw[aF e];exact K t v hv
theorem gF:∀{all:List Oper} {i:Nat} {k:Oper->Prop},uN all i k->∃o,all[i]? =some o/\k o
 |[],_,_,h=>h.elim
 |o::_,0,_,h=>⟨o,rfl,h⟩
 |_::r,n+1,_,h=>by obtain⟨o,V,I⟩:=gF (all:=r) h;exact⟨o,by simpa using V,I⟩
section
variable{P:Program}{τ:l9}{ops:Array Oper}{B n nx:Nat}{l:Env}{H:Hp}{iv:Iv}{w J:World}{O:Nat->cd}{a:Act}
structure HR(P:Program)(ops:Array Oper)(n B:Nat)(Pd:List Nat)(G8:List (Nat×Nat))(lx la:Array Bool)(l:Env)(H:Hp)(nx:Nat)(iv:Iv)(w:World)(O:Nat->cd)(a:Act)(J:World):Prop where
 sat:Sat n l H nx iv B w O a J
 HS:lx.size=ops.size
 HU:la.size=ops.size
 la:∀j,la[j]? =some true↔lx[j]? =some true\/∃g,(j,g)∈G8
 Du:∀j g,(j,g)∈G8->j∈Pd
 pd:∀j∈Pd,lx[j]? =some false/\∃o d mk obj,ops[j]? =some o/\HQ o.op=true/\o.guard=none/\(o.dst=some d/\d∉o.looksAt ops)/\AL P o a mk obj/\eX l d=none/\
  ∀g,(j,g)∈G8->a.tmps[d]? =some (mk g)/\J.heap[g]? =some obj
 eg:∀j g,(j,g)∈G8->B<=g/\(∀id b,cO H id=some b->(O id).nil=false->(O id).g≠g)/\∀lo N,(lo,N)∈iv->¬(lo<=g/\g<N)
 inj:∀j g j',(j,g)∈G8->(j',g)∈G8->j=j'
 ap:∀j∈Pd,∀j'∈Pd,j≠j'->∀o o',ops[j]? =some o->ops[j']? =some o'->o.apart ops o'=true
theorem Ez{l:Env}{u:Nat}(h:∀t v,eX l' t=some v->t≠u/\eX l t=some v){d:Nat}(hd:eX l d=none):eX l' d=none:=by
 cases R:eX l' d with
 |none=>rfl
 |some v=>have:=(h d v R).2;rw[hd]at this;cases this
theorem Oper.xp{o oj:Oper}(ha:o.apart ops oj=true)(hs:∀G b,oj.op≠ .select G b)(h:AL P oj a mk obj):AL P oj (a.put o.dst u) mk obj:=by
 intro w;rw[execOp_put (ops:=ops) oj hs a o.dst u (Go.Oper.apart_spec ha).1];exact h w
theorem oT(Kq:d≠some t)(h:a.tmps[t]? =some v):(a.put d u).tmps[t]? =some v:=by
 cases d with
 |none=>exact h
 |some d=>
  have:d≠t:=fun e=>Kq (by rw[e]);simpa [Act.put,Array.getElem?_setIfInBounds_ne this]using h
theorem jF{w:World}(h:w.heap[g]? =some obj):g<w.heap.size:=(aW.1 h).1
theorem Ext.alloc(w:World)(obj:Obj):Ext w (w.alloc obj):=
 ⟨rfl,rfl,rfl,by simp,fun k W=>heap_alloc_old _ _ W⟩
variable{Pd:List Nat}{G8:List (Nat×Nat)}{lx la:Array Bool}
theorem HR.step(s:HR P ops n B Pd G8 lx la l H nx iv w O a J)(LJ:∀(j:Nat) (o:Oper) G b,ops[j]? =some o->o.op≠ .select G b){i:Nat}{o:Oper}(_hi:ops[i]? =some o)(Qr:∀g,(i,g)∉G8)
  (NN:∀j∈Pd,j≠i->∀oj,ops[j]? =some oj->o.apart ops oj=true)
  (sat':Sat n l' H' Ku E B Y GE (a.put o.dst u) w3)
  (hl:∀j∈Pd,j≠i->∀d,eX l d=none->o.dst≠some d->eX l' d=none) (Nv:∀j∈Pd,j≠i->Ext J w3)
  (heg:∀g,g<J.heap.size->(∀id b,cO H id=some b->(O id).nil=false->(O id).g≠g)->(∀lo N,(lo,N)∈iv->¬(lo<=g/\g<N))->(∃j∈Pd,j≠i)->
   (∀id b,cO H' id=some b->(GE id).nil=false->(GE id).g≠g)/\(∀lo N,(lo,N)∈E->¬(lo<=g/\g<N))):
  HR P ops n B (Pd.filter fun j=> !Nat.beq j i) G8 (lx.setIfInBounds i true) (la.setIfInBounds i true) l' H' Ku E Y GE (a.put o.dst u) w3:=by
 have memf:∀j,j∈(Pd.filter fun j=> !Nat.beq j i)↔j∈Pd/\j≠i:=fun j=>by
  simp only[List.mem_filter,Bool.not_eq_true',lI]
 have hEi:∀j g,(j,g)∈G8->j≠i:=fun j g h e=>Qr g (e▸h);refine⟨sat',by simp[s.HS],by simp[s.HU],fun j=>?_,fun j g h=>(memf j).2 ⟨s.Du j g h,hEi j g h⟩,fun j hj=>?_,fun j g h=>?_,s.inj,fun j hj j' hj'=>s.ap j ((memf j).1 hj).1 j' ((memf j').1 hj').1⟩
 ·rw[nH,nH,s.la,s.HU,s.HS];constructor
  ·rintro((h|h)|h)
   ·exact .inl (.inl h)
   ·exact .inr h
   ·exact .inl (.inr h)
  ·rintro((h|h)|h)
   ·exact .inl (.inl h)
   ·exact .inr h
   ·exact .inl (.inr h)
 ·obtain⟨hj,Lc⟩:=(memf j).1 hj;obtain⟨h0,oj,d,mk,obj,V,I,K,⟨h4,NB⟩,h5,h6,h7⟩:=s.pd j hj;have hapj:=NN j hj Lc oj V;have Kq:o.dst≠some d:=fun e=>(Go.Oper.apart_spec hapj).2.1 d e h4;refine⟨?_,oj,d,mk,obj,V,I,K,⟨h4,NB⟩,Oper.xp hapj (fun G b=>LJ j oj G b V) h5,hl j hj Lc d h6 Kq,fun g R=>⟨oT Kq (h7 g R).1,?_⟩⟩
  ·rw[Array.getElem?_setIfInBounds_ne (Ne.symm Lc)];exact h0
  ·rw[(Nv j hj Lc).block g (jF (h7 g R).2)];exact(h7 g R).2
 ·have hj:=s.Du j g h;obtain⟨h0,oj,d,mk,obj,V,I,K,⟨h4,NB⟩,h5,h6,h7⟩:=s.pd j hj;obtain⟨e1,e2,e3⟩:=s.eg j g h;exact⟨e1,heg g (jF (h7 g h).2) e2 e3 ⟨j,hj,hEi j g h⟩⟩
theorem HR.early(s:HR P ops n B Pd G8 lx la l H nx iv w O a J)(Kt:∀(j:Nat) o,ops[j]? =some o->∀d,o.dst=some d->d<n)
  (LJ:∀(j:Nat) (o:Oper) G b,ops[j]? =some o->o.op≠ .select G b) (hj:j∈Pd) (QC:la[j]? =some false) {G9:Act->World->Prop}
  (h:∀E' a2 Y,Ext J Y->HR P ops n B Pd E' lx (la.setIfInBounds j true) l H nx iv w O a2 Y->G9 a2 Y):wpOp P ops Q j G9 a J:=by
 obtain⟨h0,o,d,mk,obj,V,I,K,⟨h4,NB⟩,h5,h6,h7⟩:=s.pd j hj;have L:Region.wanted o (yielded ops a.tmps)=true:=by simp[Region.wanted,K]
 unfold wpOp;simp only[V,L,if_true]
 refine .inl ?_;unfold Oper.wp;rw[h5 J];simp only[Oper.upon]
 have hd:=Kt j o V d h4;have hnE:∀g,(j,g)∉G8:=fun g R=>by
  have:=(s.la j).2 (.inr ⟨g,R⟩);rw[QC]at this;cases this
 refine h ((j,J.heap.size)::G8) _ _ (Ext.alloc _ _) ⟨?_,s.HS,by simp[s.HU],fun k=>?_,fun k g W=>?_,fun k W=>?_,fun k g W=>?_,fun k g k' W hk'=>?_,s.ap⟩
 ·refine⟨s.sat.rel.ext (Ext.alloc _ _),?_,?_,fun t v hv=>?_,s.sat.sc⟩
  ·rw[h4];simp[Act.put,s.sat.size]
  ·rw[h4];exact s.sat.defers
  ·refine oT (fun e=>?_) (s.sat.env t v hv);rw[h4]at e;injection e with e;subst e;rw[h6]at hv;cases hv
 ·rw[nH,s.la];have LG:j<la.size:=(aW.1 QC).1;constructor
  ·rintro((h|⟨g,h⟩)|⟨rfl,_⟩)
   ·exact .inl h
   ·exact .inr ⟨g,by simp[h]⟩
   ·exact .inr ⟨_,aH ..⟩
  ·rintro(h|⟨g,h⟩)
   ·exact .inl (.inl h)
   ·rcases List.mem_cons.1 h with h|h
    ·injection h with e1 e2;exact .inr ⟨e1,by rw[e1];exact LG⟩
    ·exact .inl (.inr ⟨g,h⟩)
 ·rcases List.mem_cons.1 W with W|W
  ·injection W with e1 e2;rw[e1];exact hj
  ·exact s.Du k g W
 ·obtain⟨g0,ok,dk,mkk,objk,g1,g2,g3,⟨g4,gself⟩,g5,g6,g7⟩:=s.pd k W;by_cases hkj:k=j
  ·subst hkj;rw[V]at g1;injection g1 with g1;subst g1;rw[h4]at g4;injection g4 with g4;subst g4;refine⟨g0,o,d,mk,obj,V,I,K,⟨h4,NB⟩,?_,h6,fun g R=>?_⟩
   ·intro ww;rw[execOp_put (ops:=ops) o (fun G b=>LJ k o G b V) a o.dst _ (fun d' Rb=>by rw[h4]at Rb;injection Rb with Rb;subst Rb;exact NB)];exact h5 ww
   ·rcases List.mem_cons.1 R with R|R
    ·injection R with e1 e2;subst e2;refine⟨?_,heap_alloc_new _ _⟩;rw[h4];simp[Act.put,s.sat.size,hd]
    ·exact absurd R (hnE g)
  ·have NN:=s.ap j hj k W (Ne.symm hkj) o ok V g1;have Kq:o.dst≠some dk:=fun e=>(Go.Oper.apart_spec NN).2.1 dk e g4;refine⟨g0,ok,dk,mkk,objk,g1,g2,g3,⟨g4,gself⟩,Oper.xp NN (fun G b=>LJ k ok G b g1) g5,g6,fun g R=>?_⟩;rcases List.mem_cons.1 R with R|R
   ·injection R with e1 e2;exact absurd e1 hkj
   ·refine⟨oT Kq (g7 g R).1,?_⟩;rw[heap_alloc_old _ _ (jF (g7 g R).2)];exact(g7 g R).2
 ·rcases List.mem_cons.1 W with W|W
  ·injection W with e1 e2;subst e2;refine⟨a9 s.sat.rel.base s.sat.rel.size,fun id b hb A Z=>?_,fun lo N hm hc=>?_⟩
   ·have:=(s.sat.rel.low id b hb A).2;omega
   ·have:=s.sat.rel.oR lo N hm;have:=s.sat.rel.size;omega
  ·exact s.eg k g W
 ·have old:∀k' g',(k',g')∈G8->g'<J.heap.size:=fun k' g' h=>by
   obtain⟨_,_,_,_,_,_,_,_,_,_,_,h7⟩:=s.pd k' (s.Du k' g' h);exact jF (h7 g' h).2
  rcases List.mem_cons.1 W with W|W<;>rcases List.mem_cons.1 hk' with hk'|hk'
  ·injection W with e1 e2;injection hk' with e3 e4;rw[e1,e3]
  ·injection W with e1 e2;have:=old _ _ hk';omega
  ·injection hk' with e1 e2;have:=old _ _ W;omega
  ·exact s.inj k g k' W hk'
theorem HR.FB(s:HR P ops n B Pd G8 lx la l H nx iv w O a J){i:Nat}{o:Oper}(N:ops[i]? =some o)(R:(i,g)∈G8){b:ix}{v:SV}
  (hb:b.scopd nx) (hv:v.sc (nx+1)) (Qs:∀g,v.den (fI O nx ⟨g,0,false⟩)=mk g) (Lv:∀g Y,Y.heap[g]? =some obj->b.fits O ⟨g,0,false⟩ Y) (Qc:AL P o a mk obj)
  {G9:Env->Prop} (hK:AG o.dst v l G9) (_hok:∀d,o.dst=some d->d<n) (NN:∀j∈Pd,j≠i->∀oj,ops[j]? =some oj->o.apart ops oj=true):
  ∃l',G9 l'/\HR P ops n B (Pd.filter fun j=> !Nat.beq j i) (G8.filter fun e=> !Nat.beq e.1 i) (lx.setIfInBounds i true) la l' ((nx,b)::H) (nx+1) iv w (fI O nx ⟨g,0,false⟩) a J:=by
 obtain⟨h0,o',d,mk',obj',V,I,K,⟨h4,NB⟩,h5,h6,h7⟩:=s.pd i (s.Du i g R);rw[N]at V;injection V with V;subst V;obtain⟨rfl,rfl⟩:=Qc.uniq h5;obtain⟨ht,hh⟩:=h7 g R;obtain⟨e1,e2,e3⟩:=s.eg i g R;have memf:∀j,j∈(Pd.filter fun j=> !Nat.beq j i)↔j∈Pd/\j≠i:=fun j=>by
  simp only[List.mem_filter,Bool.not_eq_true',lI]
 have memE:∀j k,(j,k)∈(G8.filter fun e=> !Nat.beq e.1 i)↔(j,k)∈G8/\j≠i:=fun j k=>by
  simp only[List.mem_filter,Bool.not_eq_true',lI]
 have Lg:∀id b,cO H id=some b->fI O nx ⟨g,0,false⟩ id=O id:=fun id b h=>(ew id (s.sat.rel.keys id b h)).symm;have r:=s.sat.rel;have LP:Rel ((nx,b)::H) (nx+1) iv B w (fI O nx ⟨g,0,false⟩) J:=by
  refine Rel.mk' r.os r.tape r.output r.size r.base r.oR ?_ ?_ ?_ ?_ ?_ ?_ ?_
  ·intro id b' h;rw[cL]at h;split at h
   ·omega
   ·have:=r.keys id b' h;omega
  ·intro id b' h;rw[cL]at h;split at h
   ·rename_i e;subst e;injection h with h;subst h;rw[dM];exact ix.fg (Lv g J hh) (fun id LK=>ew id LK) hb (fun _ _=>rfl)
   ·rw[Lg id b' h];exact ix.fg (r.fits h) (fun id LK=>ew id LK) (r.scopd h) (fun _ _=>rfl)
  ·intro id b' h;rw[cL]at h;split at h
   ·injection h with h;subst h;exact ix.gT (Nat.le_succ _) hb
   ·exact ix.gT (Nat.le_succ _) (r.scopd h)
  ·intro id id' c c' h h' hd Rb A hn' Z;rw[cL]at h h';split at h<;>split at h'
   ·rename_i x y;rw[<-x,<-y]
   ·rename_i x y;subst x;rw[dM,Lg _ _ h']at Z;rw[Lg _ _ h']at hn';exact absurd Z.symm (e2 _ _ h' hn')
   ·rename_i x y;subst y;rw[dM,Lg _ _ h]at Z;rw[Lg _ _ h]at A;exact absurd Z (e2 _ _ h A)
   ·rw[Lg _ _ h,Lg _ _ h']at Z;rw[Lg _ _ h]at A;rw[Lg _ _ h']at hn';exact r.inj id id' c c' h h' hd Rb A hn' Z
  ·intro id c h A;rw[cL]at h;split at h
   ·rename_i e;subst e;rw[dM];exact⟨e1,jF hh⟩
   ·rw[Lg _ _ h]at A ⊢;exact r.low id c h A
  ·intro k W Kq;refine r.rP k W fun id c h A=>?_;have LG:=r.keys id c h;have:=Kq id c (by rw[cL,aF (by omega)];exact h) (by rw[Lg _ _ h];exact A)
   rwa [Lg _ _ h]at this
  ·intro lo N hm id c h A;rw[cL]at h;split at h
   ·rename_i e;subst e;rw[dM];exact e3 lo N hm
   ·rw[Lg _ _ h]at A ⊢;exact r.ie lo N hm id c h A
 have sat1:Sat n l ((nx,b)::H) (nx+1) iv B w (fI O nx ⟨g,0,false⟩) a J:=s.sat.next LP (Nat.le_succ _) (fun id LK=>ew id LK)
 rw[h4]at hK;refine⟨_,hK,?_⟩;have sat2:Sat n ((d,v)::l) ((nx,b)::H) (nx+1) iv B w (fI O nx ⟨g,0,false⟩) a J:=by
  refine⟨sat1.rel,sat1.size,sat1.defers,fun t u hu=>?_,fun t u hu=>?_⟩
  ·rw[dm]at hu;split at hu
   ·rename_i e;subst e;injection hu with hu;subst hu;rw[Qs];exact ht
   ·exact sat1.env t u hu
  ·rw[dm]at hu;split at hu
   ·injection hu with hu;subst hu;exact hv
   ·exact sat1.sc t u hu
 have hli:i<lx.size:=(aW.1 h0).1;refine⟨sat2,by simp[s.HS],s.HU,fun j=>?_,fun j k h=>?_,fun j hj=>?_,fun j k h=>?_,fun j k j' h h'=>s.inj j k j' ((memE j k).1 h).1 ((memE j' k).1 h').1,fun j hj j' hj'=>s.ap j ((memf j).1 hj).1 j' ((memf j').1 hj').1⟩
 ·rw[s.la,nH];constructor
  ·rintro(h|⟨k,h⟩)
   ·exact .inl (.inl h)
   ·by_cases Lc:j=i
    ·exact .inl (.inr ⟨Lc,Lc▸hli⟩)
    ·exact .inr ⟨k,(memE j k).2 ⟨h,Lc⟩⟩
  ·rintro((h|⟨rfl,h⟩)|⟨k,h⟩)
   ·exact .inl h
   ·exact .inr ⟨g,R⟩
   ·exact .inr ⟨k,((memE j k).1 h).1⟩
 ·exact(memf j).2 ⟨s.Du j k ((memE j k).1 h).1,((memE j k).1 h).2⟩
 ·obtain⟨hj,Lc⟩:=(memf j).1 hj;obtain⟨g0,oj,dj,mkj,objj,g1,g2,g3,⟨g4,gself⟩,g5,g6,g7⟩:=s.pd j hj;have Kq:d≠dj:=fun e=>(Go.Oper.apart_spec (NN j hj Lc oj g1)).2.1 d h4 (by rw[g4,e]);refine⟨by rw[Array.getElem?_setIfInBounds_ne (Ne.symm Lc)];exact g0,oj,dj,mkj,objj,g1,g2,g3,⟨g4,gself⟩,g5,?_,fun k W=>g7 k ((memE j k).1 W).1⟩;rw[dm,aF Kq];exact g6
 ·obtain⟨h,Lc⟩:=(memE j k).1 h;obtain⟨k1,k2,k3⟩:=s.eg j k h;refine⟨k1,fun id c hc A=>?_,k3⟩;rw[cL]at hc;split at hc
  ·rename_i e;subst e;rw[dM];intro e;simp only at e;subst e;exact Lc (s.inj j _ i h R)
  ·rw[Lg _ _ hc]at A ⊢;exact k2 id c hc A
end
end Go.Sx
