/- Texts X24 to X51: lemmas, each with its conditions. -/
import Derived.Test.YtkdcaknoaeicdaaGreatP4
namespace Go.Ex
open Go Go.Sx Go.Proofs
end Go.Ex
namespace Go.Sx
open Go Go.Ex Go.Proofs
variable{O:Nat->Sx.dg}
theorem Rel.qU{H:Hp}{nx:Nat}{iv:Iv}{B:Nat}{w w':World}(r:Rel H nx iv B w O w'){id t sz n:Nat}{cs:List At}(h:dC H id=some (.box t cs))(hl:cs.length=n*sz)(hn:n<=maxLen)(h1:∀u∈cs,(u.den O).oneCell'=true):
  iM w' (fun g=>g=(O id).g) sz (.slice (some ⟨(O id).g,0,none⟩) n n) (cs.map (At.den O)) n:=by
 refine⟨hn,by simpa using hl,fun u hu=>?_,_,_,rfl,aF _,fun j u hu=>⟨_,rfl,rfl,?_⟩⟩
 ·obtain⟨x,hx,rfl⟩:=aU.1 hu;exact h1 x hx
 ·have h0:(⟨(O id).g,0,none⟩:Addr).add j=⟨(O id).g,j,none⟩:=by
   cases j with
   |zero=>rfl
   |succ j=>simp[Addr.add]
  rw[h0,cell_of (r.box id t _ h)];exact hu
end Go.Sx
namespace Go.Ex
open Go Go.Sx Go.Proofs
theorem LZ{n:Nat}(h:n<=9223372036854775807):IntKind.i64.wrap (n:Int)=n:=by rw[wrap64]<;>omega
theorem Mj{t b:Nat}(h:t<=9223372036854775807):IntKind.i64.wrap ((t:Int).tdiv (b:Int))=((t / b:Nat):Int):=by
 have h1:=Nat.div_le_self t b;rw[Int.tdiv_eq_ediv_of_nonneg (by omega),<-Int.natCast_ediv];exact LZ (by omega)
end Go.Ex
namespace Go.Ex
open Go Go.Sx Go.Proofs
def Af:Value:=.agg #[.bool false,.slice none 0 0,.bool false,.slice none 0 0]
theorem mD{n:Int}(h1: -9223372036854775808<=n)(h2:n<=9223372036854775807):ln n.natAbs<=2:=gI.2 (by show n.natAbs<4294967296^2;omega)
end Go.Ex
namespace Go.Sx
open Go Go.Ex Go.Proofs
variable{cs:List Value}{O:Nat->Sx.dg}
theorem Rel.iR{H:Hp}{nx:Nat}{iv:Iv}{B:Nat}{w w':World}(r:Rel H nx iv B w O w'){id t m sz:Nat}(h:dC H id=some (.vec t sz cs))(hm:cs.length=m*sz)(Ri:m<=maxLen)(hs:0<sz)(h1:∀u∈cs,u.oneCell'=true):
  iM w' (fun g=>B<=g∧g<w'.heap.size) sz ((At.w id m).den O) cs m:=by
 rcases r.vec id t sz _ h with⟨hn,rfl⟩|⟨hn,spare,hb,hc,Qb⟩
 ·have St:m=0:=by
   rcases bK m with h|h
   ·exact h
   ·have:=Nat.mul_pos h hs;simp at hm;omega
  subst St;refine⟨Ri,by simp,by simp,none,0,by simp[At.den,hn],aF _,by simp⟩
 ·refine⟨Ri,hm,h1,some ⟨(O id).g,0,none⟩,(O id).cap,by simp[At.den,hn],?_,fun j x hx=>⟨_,rfl,r.low id _ h hn,?_⟩⟩
  ·have h1:(cs++spare).length=cs.length+spare.length:=List.length_append;have h2:m*sz<=(O id).cap*sz:=by omega
   exact bm h2 hs
  ·rw[dW,cell_of hb,aR,aK (aD.1 hx).1];exact hx
end Go.Sx
namespace Go.Ex
open Go Go.Sx Go.Proofs
end Go.Ex
namespace Go.Ex
open Go Go.Sx Go.Proofs
variable{qs:List Rat}{xs:List Value}{i:Nat}{O:Nat->Sx.dg}{row:Option Nat}{q:Rat}
def signed:Bool->ByteArray->ByteArray
 |true,s=>⟨#[45]⟩++s
 |false,s=>s
def NK(w:World)(S:Nat->Prop)(cs:List Value)(q:Rat):Prop:=∃b a n c b2 a2 n2 c2,cs=[.bool b,.slice a n c,.bool b2,.slice a2 n2 c2]∧dT w S (.agg #[.bool b,.slice a n c,.bool b2,.slice a2 n2 c2]) q
def Fr(w:World)(S:Nat->Prop)(css:List (List Value))(qs:List Rat):Prop:=css.length=qs.length∧∀(j:Nat) cs q,css[j]? =some cs->qs[j]? =some q->NK w S cs q
section
variable{S S':Nat->Prop}{w w2:World}{cs:List Value}{css:List (List Value)}{q:Rat}{qs:List Rat}
end
section
variable{S S':Nat->Prop}{H:Hp}{nx:Nat}{iv iv':Iv}{B:Nat}{w w' w2:World}{O:Nat->Sx.dg}{css:List (List Value)}{qs:List Rat}
end
theorem eN:∀{css:List (List Value)},(∀cs∈css,cs.length=4)->css.flatten.length=css.length*4
 |[],_=>rfl
 |c::r,h=>by
  rw[List.flatten_cons,List.length_append,eN (fun cs hc=>h cs (List.mem_cons_of_mem _ hc)),h c aG,List.length_cons];omega
theorem flat_get:∀{css:List (List Value)} {j:Nat} {cs:List Value},(∀cs∈css,cs.length=4)->css[j]? =some cs->∀k u,cs[k]? =some u->css.flatten[j*4+k]? =some u
 |[],j,cs,_,hj,_,_,_=>by simp at hj
 |c::r,0,cs,h,hj,k,u,hu=>by
  simp at hj;subst hj;rw[List.flatten_cons,aK (by have:=(aD.1 hu).1;omega)];simpa using hu
 |c::r,j+1,cs,h,hj,k,u,hu=>by
  have hc:=h c aG;rw[List.flatten_cons,aN (by omega),hc,show(j+1)*4+k-4=j*4+k by omega];exact flat_get (fun cs hc=>h cs (List.mem_cons_of_mem _ hc)) (by simpa using hj) k u hu
theorem iL:∀{css:List (List Value)} {j:Nat} {cs:List Value},(∀cs∈css,cs.length=4)->j<css.length->css.flatten.take (j*4)++cs++css.flatten.drop (j*4+4)=(css.set j cs).flatten
 |[],j,cs,_,hj=>by simp at hj
 |c::r,0,cs,h,_=>by
  have hc:=h c aG;simp[List.flatten_cons,hc]
 |c::r,j+1,cs,h,hj=>by
  have hc:=h c aG
  rw[List.flatten_cons,show(j+1)*4=c.length+j*4 by omega,List.take_length_add_append,show c.length+j*4+4=c.length+(j*4+4) by omega,List.drop_length_add_append,List.set_cons_succ,List.flatten_cons,
   <-iL (fun cs hc=>h cs (List.mem_cons_of_mem _ hc)) (by simpa using hj),bY,bY,bY]
abbrev Out(B:Nat)(iv:Iv):Nat->Prop:=Cv (fun g=>g<B) B iv
theorem o8{H:Hp}{nx:Nat}{iv:Iv}{B Bc e sz m:Nat}{w w':World}{v:Value}(h:w.ownsRow Bc e sz v m xs)(hc:∀g,v.ownBlock=some g->Out B iv g)(r:Rel H nx iv B w O w'):w'.ownsRow Bc e sz v m xs:=
 ownsRow.cH h fun b hb=>Rel.same r (fun _ h=>h) (hc b hb)
theorem gU{w w1 w2:World}(h:w.grownBy w1 row)(k:dm w.heap.size w1 w2):w.grownBy w2 row:=
 ⟨k.os.trans h.os,k.tape.trans h.tape,k.output.trans h.output,aZ h.size k.size,fun b hb hn=>(k.block b hb).trans (h.block b hb hn)⟩
def gw(i:Nat)(f:Nat->Rat->Rat)(qs:List Rat):List Rat:=qs.mapIdx fun j q=>if j<i then f j q else q
theorem sd(f:Nat->Rat->Rat)(qs:List Rat):gw 0 f qs=qs:=by
 apply bM;intro j;simp[gw]
theorem vw(f:Nat->Rat->Rat)(qs:List Rat):gw qs.length f qs=qs.mapIdx f:=by
 apply bM;intro j;simp only[gw,List.getElem?_mapIdx]
 cases h:qs[j]? with
 |none=>rfl
 |some q=>simp[(aD.1 h).1]
theorem o9{f:Nat->Rat->Rat}(h:qs[i]? =some q):(gw i f qs).set i (f i q)=gw (i+1) f qs:=by
 apply bM;intro j;have hi:=(aD.1 h).1;by_cases Pm:i=j
 ·subst Pm;rw[aV (by simp[gw];exact hi)];simp[gw,List.getElem?_mapIdx,h]
 ·rw[aY Pm];simp only[gw,List.getElem?_mapIdx]
  have:(j<i)↔(j<i+1):=by omega
  simp[this]
theorem Gx{f:Nat->Rat->Rat}(h:qs[i]? =some q)(hf:f i q=q):gw i f qs=gw (i+1) f qs:=by
 rw[<-o9 h,hf];apply bM;intro j;have hi:=(aD.1 h).1;by_cases Pm:i=j
 ·subst Pm;rw[aV (by simp[gw];exact hi)];simp[gw,List.getElem?_mapIdx,h]
 ·rw[aY Pm]
theorem AR{f:Nat->Rat->Rat}(h:qs[i]? =some q):(gw i f qs)[i]? =some q:=by
 simp only[gw,List.getElem?_mapIdx,h]
 simp
section
variable{C C' S S':Nat->Prop}{H:Hp}{nx:Nat}{iv iv':Iv}{B:Nat}{w w' w2:World}{O:Nat->Sx.dg}{v:Value}{qs:List Rat}
end
end Go.Ex
namespace Go.Ex
variable{M:List (List Rat)}{s:List (List Rat)×List Nat}{h i n:Nat}
def dL(M:List (List Rat))(i c:Nat):Rat:=(M.getD i []).getD c 0
def iT(M:List (List Rat))(c:Nat):Nat->Nat->Nat
 |0,k=>k
 |f+1,k=>if dL M k c=0 then iT M c f (k+1)else k
def fP{α:Type}(d:α)(l:List α)(i j:Nat):List α:=(l.set i (l.getD j d)).set j (l.getD i d)
def sJ(p:Rat)(ps:List Rat)(j:Nat)(q:Rat):Rat:=q+p*ps.getD j 0
def db(M:List (List Rat))(at_ c i:Nat):List (List Rat):=M.mapIdx fun j r=>if j<i∧j≠at_ then r.mapIdx (sJ (-(r.getD c 0)) (M.getD at_ []))else r
def scaled(M:List (List Rat))(at_ c:Nat):List (List Rat):=M.set at_ ((M.getD at_ []).map (· *(1 / dL M at_ c)))
def da(s:List (List Rat)×List Nat)(c:Nat):List (List Rat)×List Nat:=
 if s.2.length<s.1.length then
  let k:=iT s.1 c (s.1.length-s.2.length) s.2.length
  if k=s.1.length then s else
   let M1:=scaled (fP [] s.1 s.2.length k) s.2.length c
   (db M1 s.2.length c M1.length,s.2++[c])
 else s
def cN(M:List (List Rat))(cols:Nat):List (List Rat)×List Nat:=(List.range cols).foldl da (M,[])
theorem jf{α:Type}(d:α)(l:List α)(i j:Nat):(fP d l i j).length=l.length:=by simp[fP]
theorem gl(M:List (List Rat))(a c i:Nat):(db M a c i).length=M.length:=by simp[db]
theorem rM(M:List (List Rat))(a c:Nat):(scaled M a c).length=M.length:=by simp[scaled]
theorem oF(s:List (List Rat)×List Nat)(c:Nat):(da s c).1.length=s.1.length:=by
 unfold da;split
 ·dsimp only
  split
  ·rfl
  ·dsimp only
   rw[gl,rM,jf]
 ·rfl
theorem yr(M:List (List Rat))(c:Nat):∀f k,k<=iT M c f k∧iT M c f k<=k+f
 |0,k=>⟨aF _,aF _⟩
 |f+1,k=>by
  unfold iT;split
  ·have:=yr M c f (k+1);omega
  ·omega
theorem yt(M:List (List Rat))(c:Nat):∀f k,iT M c f k<k+f->dL M (iT M c f k) c≠0
 |0,k,h=>by simp[iT]at h
 |f+1,k,h=>by
  unfold iT at h ⊢;split
  ·rename_i h0;rw[if_pos h0]at h;exact yt M c f (k+1) (by omega)
  ·rename_i h0;exact h0
theorem GZ{c f k:Nat}(h:dL M k c=0):iT M c (f+1) k=iT M c f (k+1):=by rw[iT,if_pos h]
theorem Ga{c f k:Nat}(h:dL M k c≠0):iT M c (f+1) k=k:=by rw[iT,aL h]
theorem Cy(M:List (List Rat))(a c:Nat):db M a c 0=M:=by
 apply bM;intro j;simp[db]
theorem sL(M:List (List Rat))(a c i:Nat):(db M a c i)[a]? =M[a]? :=by
 simp only[db,List.getElem?_mapIdx]
 cases M[a]? <;>simp
theorem Gn(M:List (List Rat))(a c i j:Nat)(h:i<=j):(db M a c i)[j]? =M[j]? :=by
 simp only[db,List.getElem?_mapIdx]
 cases M[j]? with
 |none=>rfl
 |some r=>simp;omega
theorem Cz{a c:Nat}{r:List Rat}(h:M[i]? =some r)(OH:i≠a):(db M a c i).set i (r.mapIdx (sJ (-(r.getD c 0)) (M.getD a [])))=db M a c (i+1):=by
 apply bM;intro j;have hi:=(aD.1 h).1;by_cases Pm:i=j
 ·subst Pm;rw[aV (by rw[gl];exact hi)];simp[db,List.getElem?_mapIdx,h,OH]
 ·rw[aY Pm];simp only[db,List.getElem?_mapIdx]
  have:(j<i)↔(j<i+1):=by omega
  simp[this]
theorem DA(M:List (List Rat))(a c:Nat):db M a c a=db M a c (a+1):=by
 apply bM;intro j;simp only[db,List.getElem?_mapIdx]
 have:(j<a∧j≠a)↔(j<a+1∧j≠a):=by omega
 simp[this]
def Ht(M:List (List Rat))(h:Nat):Prop:=∀r∈M,∀q∈r,rl q+1<=h
theorem Ht.at{r:List Rat}(H:Ht M h)(hi:M[i]? =some r):∀q∈r,rl q+1<=h:=H r (aC hi)
theorem Ht.swap{j:Nat}(H:Ht M h)(hi:i<M.length)(hj:j<M.length):Ht (fP [] M i j) h:=by
 intro r hr;have:r∈M:=by
  unfold fP at hr;rcases bJ hr with h1|h1
  ·rcases bJ h1 with h2|h2
   ·exact h2
   ·rw[h2,List.getD,aB hj];exact aX hj
  ·rw[h1,List.getD,aB hi];exact aX hi
 exact H r this
theorem Kg:rl 1=1:=by decide
theorem Nj{q:Rat}(h:q≠0):rl (1 / q)<=rl q+1:=by
 have:=Kb 1 h;rw[Kg]at this;omega
theorem Hz{r:List Rat}(H:∀q∈r,rl q+1<=h)(h2:2<=h)(c:Nat):rl (r.getD c 0)+1<=h:=by
 rw[List.getD]
 cases hc:r[c]? with
 |none=>simp;exact aZ (by decide) h2
 |some q=>simp;exact H q (aC hc)
theorem Bf{j:Nat}(hi:i<M.length)(hj:j<M.length):(fP [] M i j)[i]? =M[j]? :=by
 unfold fP;by_cases h:j=i
 ·subst h;rw[aV (by simpa using hi),List.getD,aB hi];rfl
 ·rw[aY h,aV hi,List.getD,aB hj];rfl
theorem EZ{j c:Nat}(hi:i<M.length)(hj:j<M.length):dL (fP [] M i j) i c=dL M j c:=by
 simp only[dL,List.getD,Bf hi hj]
def fg(n:Nat)(M:List (List Rat)):Prop:=∀r∈M,r.length=n
theorem fg.set{r:List Rat}(h:fg n M)(hr:r.length=n):fg n (M.set i r):=fun x hx=>by
 rcases bJ hx with h1|h1
 ·exact h x h1
 ·rw[h1];exact hr
theorem fg.getD(h:fg n M)(hi:i<M.length):(M.getD i []).length=n:=by
 rw[List.getD,aB hi];exact h _ (aX hi)
theorem fg.step{c:Nat}(h:fg n s.1):fg n (da s c).1:=by
 unfold da;split
 ·rename_i Od;dsimp only
  split
  ·exact h
  ·rename_i hk;have hle:=yr s.1 c (s.1.length-s.2.length) s.2.length;have hkl:iT s.1 c (s.1.length-s.2.length) s.2.length<s.1.length:=by omega
   dsimp only
   generalize iT s.1 c (s.1.length-s.2.length) s.2.length=k at*
   have h1:fg n (fP [] s.1 s.2.length k):=(h.set (h.getD hkl)).set (h.getD Od);have h2:fg n (scaled (fP [] s.1 s.2.length k) s.2.length c):=h1.set (by rw[aJ];exact h1.getD (by rw[jf];exact Od));intro r hr;obtain⟨j,hj⟩:=aS hr;simp only[db,List.getElem?_mapIdx,Option.map_eq_some_iff]at hj;obtain⟨r0,hr0,hj⟩:=hj;have h3:=h2 r0 (aC hr0);split at hj
   ·subst hj;rw[List.length_mapIdx];exact h3
   ·subst hj;exact h3
 ·exact h
theorem wj{cols:Nat}(h:fg n M):fg n (cN M cols).1:=by
 have key:∀(l:List Nat) (s:List (List Rat)×List Nat),fg n s.1->fg n (l.foldl da s).1:=by
  intro l
  induction l with
  |nil=>intro s hs;exact hs
  |cons c r ih=>intro s hs;exact ih _ hs.step
 exact key _ _ h
end Go.Ex
namespace Go.Ex
open Go Go.Sx Go.Proofs
structure aAZ(w:World)(S:Nat->Prop)(vm:Value)(rv:List Value)(n:Nat)(M:List (List Rat)):Prop where
 out:w.ownsRow 0 T.row 1 vm rv.length rv
 len:rv.length=M.length
 row:∀(i:Nat) v qs,rv[i]? =some v->M[i]? =some qs->∃css,w.ownsRow 0 T.FD 4 v n css.flatten∧css.length=n∧Fr w S css qs
 GJ:∀(i j:Nat) a b g,rv[i]? =some a->rv[j]? =some b->a.ownBlock=some g->b.ownBlock=some g->i=j
 aAx:∀v∈rv,∀g,v.ownBlock=some g->vm.ownBlock≠some g
def Mb(vm:Value)(rv:List Value)(g:Nat):Prop:=vm.ownBlock=some g∨∃v∈rv,v.ownBlock=some g
structure Kept(w w2:World)(X:Nat->Prop):Prop where
 os:w2.os=w.os
 tape:w2.tape=w.tape
 output:w2.output=w.output
 size:w.heap.size<=w2.heap.size
 block:∀k,k<w.heap.size->¬X k->w2.heap[k]? =w.heap[k]?
section
variable{S S' X:Nat->Prop}{H:Hp}{nx n:Nat}{iv iv':Iv}{B:Nat}{w w' w2 w3:World}{O:Nat->Sx.dg}{vm:Value}{rv:List Value}{M:List (List Rat)}
end
end Go.Ex
namespace Go.Sx
open Go Go.Ex Go.Proofs
variable{O:Nat->Sx.dg}{row:Option Nat}
theorem Rel.FP{H:Hp}{nx:Nat}{iv:Iv}{B:Nat}{w w' w2:World}(r:Rel H nx iv B w O w')(OH:∀g,row=some g->∀id b,dC H id=some b->(O id).nil=false->(O id).g≠g)(h:w'.grownBy w2 row):Rel H nx ((w'.heap.size,w2.heap.size)::iv) B w2 O w2:=
 r.EL h.size (fun id b hb hn=>h.block _ (r.low id b hb hn).2 fun e=>OH _ e.symm id b hb hn rfl) fun lo hi hm=>by
  rcases List.mem_cons.1 hm with e|hm
  ·injection e with e1 e2;subst e1 e2;exact⟨aF _,fun id b hb hn=>by have:=(r.low id b hb hn).2;omega⟩
  ·exact⟨by have:=r.qd lo hi hm;have:=r.size;have:=h.size;omega,fun id b hb hn=>r.kP lo hi hm id b hb hn⟩
end Go.Sx
namespace Go.Ex
open Go Go.Sx Go.Proofs
end Go.Ex
namespace Go.Ex
open Go Go.Sx Go.Proofs
end Go.Ex
namespace Go.Sx
open Go Go.Ex Go.Proofs
variable{O:Nat->Sx.dg}
theorem Sub.nil{B nx:Nat}{l:Env}{H:Hp}{iv:Iv}{w w':World}{t:ye}(u e sz:Nat)(h9:fM l u=some (sV none 0 0))(Rx:jX nx l)(r:Rel H nx iv B w O w')
  (h:∀ρ1,Rel ((nx,.vec e sz [])::H) (nx+1) iv B w ρ1 w'->Sx.Sub B ((u,.o (.w nx 0))::l) (nx+1) ρ1 w' t):Sx.Sub B l nx O w' t:=by
 have r1:=r.push (.vec e sz []) ⟨0,0,true⟩ (w2:=w') rfl rfl rfl (aF _) (fun _ _=>rfl) (fun h=>by cases h) (.inl ⟨rfl,rfl⟩) trivial;obtain⟨ρ',h1,h2⟩:=h _ r1;refine⟨ρ',h1,fun x v hv=>?_⟩;obtain⟨h3,v0,h4,h5⟩:=h2 x v hv;refine⟨h3,?_⟩;rw[eS]at h4;split at h4
 ·rename_i e;subst e;injection h4 with h4;subst h4;refine⟨_,h9,?_⟩;rw[<-h5];simp[SV.den,At.den,eL]
 ·refine⟨v0,h4,?_⟩;rw[<-h5];exact SV.j4 (fun id Om=>gC id Om) (Rx.get _ _ h4)
end Go.Sx
namespace Go.Ex
open Go Go.Sx Go.Proofs
structure aAu(w:World)(S:Nat->Prop)(rv:List Value)(n:Nat)(M:List (List Rat))(gm k c g ck:Nat)(q:Rat)(d1:Bool)(e1:Option Addr)(m1 k1:Nat)(d2:Bool)(e2:Option Addr)(m2 k2:Nat):Prop where
 rv:rv[k]? =some (.slice (some ⟨g,0,none⟩) n ck)
 at_:dL M k c=q
 aAy:dT w S (.agg #[.bool d1,.slice e1 m1 k1,.bool d2,.slice e2 m2 k2]) q
 outer:w.cell? (Addr.add ⟨gm,0,none⟩ (k*1))=some (.slice (some ⟨g,0,none⟩) n ck)
 cells:∀j u,[Value.bool d1,.slice e1 m1 k1,.bool d2,.slice e2 m2 k2][j]? =some u->w.cell? ((Addr.add ⟨g,0,none⟩ (c*4)).add j)=some u
theorem Mk{α:Type}{xs:List α}{j:Nat}{v:α}(h:j<xs.length):xs.take (j*1)++[v]++xs.drop (j*1+1)=xs.set j v:=by
 rw[aT,List.set_eq_take_append_cons_drop,if_pos h];simp
end Go.Ex
namespace Go.Ex
open Go Go.Sx Go.Proofs
variable{x:Int×Int}{xs:List (Int×Int)}{M:List (List (Int×Int))}{A:List (List Rat)}{ps pv:List Nat}{cs:List Value}{S:Nat->Prop}{v:Value}{w:World}
def aAH(w:World)(S:Nat->Prop)(v:Value)(n:Nat)(qs:List Rat):Prop:=∃css,w.ownsRow 0 T.FD 4 v n css.flatten∧css.length=n∧Fr w S css qs
section
variable{S S' C:Nat->Prop}{H:Hp}{nx n:Nat}{iv iv':Iv}{B:Nat}{w w' w2:World}{O:Nat->Sx.dg}{v:Value}{qs:List Rat}
structure aAz(w:World)(S:Nat->Prop)(B:Nat)(iv:Iv)(v:Value)(n:Nat)(qs:List Rat):Prop where
 row:aAH w (fun g=>Cv S B iv g∧v.ownBlock≠some g) v n qs
 new:∀g,v.ownBlock=some g->Cv FF B iv g
def BQ(w:World)(S:Nat->Prop)(cs:List Value)(x:Int×Int):Prop:=∃b a n c b2 a2 n2 c2,cs=[.bool b,.slice a n c,.bool b2,.slice a2 n2 c2]∧iO w S (.agg #[.bool b,.slice a n c,.bool b2,.slice a2 n2 c2]) x.1 x.2
theorem BQ.cH(h:BQ w S cs x)(hk:∀g,S g->w2.heap[g]? =w.heap[g]?):BQ w2 S cs x:=by
 obtain⟨b,a,n,c,b2,a2,n2,c2,h1,h2⟩:=h;exact⟨b,a,n,c,b2,a2,n2,c2,h1,h2.cH hk⟩
theorem BQ.cI(h:BQ w S cs x)(hk:∀g,S g->S' g):BQ w S' cs x:=by
 obtain⟨b,a,n,c,b2,a2,n2,c2,h1,h2⟩:=h;exact⟨b,a,n,c,b2,a2,n2,c2,h1,h2.cI hk⟩
def cY{α:Type}(P:World->(Nat->Prop)->List Value->α->Prop)(w:World)(S:Nat->Prop)(v:Value)(xs:List α):Prop:=
 ∃css:List (List Value),iM w S 4 v css.flatten xs.length∧css.length=xs.length∧(∀cs∈css,cs.length=4)∧∀(j:Nat) cs x,css[j]? =some cs->xs[j]? =some x->P w S cs x
abbrev kr:=cY BQ
theorem kr.cH(h:kr w S v xs)(hk:∀g,S g->w2.heap[g]? =w.heap[g]?):kr w2 S v xs:=by
 obtain⟨css,h1,h2,h3,h4⟩:=h;exact⟨css,h1.cH hk,h2,h3,fun j cs x k1 k2=>(h4 j cs x k1 k2).cH hk⟩
theorem kr.cI(h:kr w S v xs)(hk:∀g,S g->S' g):kr w S' v xs:=by
 obtain⟨css,h1,h2,h3,h4⟩:=h;exact⟨css,h1.cI hk,h2,h3,fun j cs x k1 k2=>(h4 j cs x k1 k2).cI hk⟩
theorem cY.shape{α:Type}{P:World->(Nat->Prop)->List Value->α->Prop}{xs:List α}(h:cY P w S v xs):∃a c,v= .slice a xs.length c∧xs.length<=c∧xs.length<=maxLen:=by
 obtain⟨css,⟨h0,_,_,a,c,h1,h2,_⟩,_⟩:=h;exact⟨a,c,h1,h2,h0⟩
theorem cY.load{α:Type}{P:World->(Nat->Prop)->List Value->α->Prop}{xs:List α}{a:Option Addr}{m c j:Nat}{x:α}(h:cY P w S (.slice a m c) xs)(hq:xs[j]? =some x):
  ∃ad cs,a=some ad∧P w S cs x∧cs.length=4∧∀k u,cs[k]? =some u->S ad.block∧w.cell? ((ad.add (j*4)).add k)=some u:=by
 obtain⟨css,⟨h0,h1,h2,a',c',e,h3,h4⟩,hl,hl4,hf⟩:=h;injection e with e1 e2 e3;subst e1;obtain⟨cs,Ov⟩:∃cs,css[j]? =some cs:=⟨_,aB (by rw[hl];exact(aD.1 hq).1)⟩
 have hF:=hf j cs x Ov hq;have SY:=hl4 cs (aC Ov);obtain⟨ad,k1,k2,k3⟩:=h4 (j*4+0) _ (flat_get hl4 Ov 0 _ (aB (show 0<cs.length by omega)));refine⟨ad,cs,k1,hF,SY,fun k u hu=>?_⟩;obtain⟨ad2,m1,m2,m3⟩:=h4 (j*4+k) u (flat_get hl4 Ov k u hu);rw[k1]at m1;injection m1 with m1;subst m1;refine⟨m2,?_⟩;rw[<-m3];have:(ad.add (j*4)).add k=ad.add (j*4+k):=by
  unfold Addr.add;split<;>split<;>simp_all<;>omega
 rw[this]
def dD{α:Type}(P:World->(Nat->Prop)->Value->α->Prop)(w:World)(S:Nat->Prop)(v:Value)(M:List α):Prop:=
 ∃rv,iM w S 1 v rv M.length∧rv.length=M.length∧∀(i:Nat) u x,rv[i]? =some u->M[i]? =some x->P w S u x
theorem dD.shape{α:Type}{P:World->(Nat->Prop)->Value->α->Prop}{xs:List α}(h:dD P w S v xs):∃a c,v= .slice a xs.length c∧xs.length<=c∧xs.length<=maxLen:=by
 obtain⟨rv,⟨h0,_,_,a,c,h1,h2,_⟩,_⟩:=h;exact⟨a,c,h1,h2,h0⟩
theorem dD.load{α:Type}{P:World->(Nat->Prop)->Value->α->Prop}{xs:List α}{a:Option Addr}{m c j:Nat}{x:α}(h:dD P w S (.slice a m c) xs)(hq:xs[j]? =some x):
  ∃ad u,a=some ad∧P w S u x∧S ad.block∧w.cell? (ad.add (j*1))=some u:=by
 obtain⟨rv,⟨h0,h1,h2,a',c',e,h3,h4⟩,hl,hf⟩:=h;injection e with e1 e2 e3;subst e1;obtain⟨u,hu⟩:∃u,rv[j]? =some u:=⟨_,aB (by rw[hl];exact(aD.1 hq).1)⟩
 obtain⟨ad,k1,k2,k3⟩:=h4 j u hu;exact⟨ad,u,k1,hf j u x hu hq,k2,by rw[aT];exact k3⟩
abbrev jJ:=dD kr
theorem jJ.cH(h:jJ w S v M)(hk:∀g,S g->w2.heap[g]? =w.heap[g]?):jJ w2 S v M:=by
 obtain⟨rv,h1,h2,h3⟩:=h;exact⟨rv,h1.cH hk,h2,fun i u x k1 k2=>kr.cH (h3 i u x k1 k2) hk⟩
theorem jJ.cI(h:jJ w S v M)(hk:∀g,S g->S' g):jJ w S' v M:=by
 obtain⟨rv,h1,h2,h3⟩:=h;exact⟨rv,h1.cI hk,h2,fun i u x k1 k2=>kr.cI (h3 i u x k1 k2) hk⟩
end
section
variable{S S':Nat->Prop}{H:Hp}{nx:Nat}{iv iv':Iv}{B:Nat}{w w' w2:World}{O:Nat->Sx.dg}{v:Value}{xs:List (Int×Int)}
end
section
variable{S S':Nat->Prop}{H:Hp}{nx:Nat}{iv iv':Iv}{B:Nat}{w w' w2:World}{O:Nat->Sx.dg}{v:Value}{M:List (List (Int×Int))}
theorem jJ.rel(h:jJ w (Cv S B iv) v M)(r:Rel H nx iv B w O w')(hS:∀g,S g->g<B):jJ w' (Cv S B iv) v M:=jJ.cH h fun _ hg=>Rel.same r hS hg
theorem jJ.arg(h:jJ w S v M)(iv:Iv):jJ w (Cv S w.heap.size iv) v M:=jJ.cI h fun _ h=>.inl h
end
section
variable{S S':Nat->Prop}{H:Hp}{nx:Nat}{iv iv':Iv}{B:Nat}{w w' w2:World}{O:Nat->Sx.dg}{v:Value}{M:List (List Rat)}
end
def eP{α:Type}:List (List α)->Nat
 |[]=>0
 |r::_=>r.length
theorem dD.L0(h:kr w S v xs):∃a c,v= .slice a xs.length c:=by
 obtain⟨a,c,h,_⟩:=cY.shape h;exact⟨a,c,h⟩
def f0:List Value:=[.bool false,.slice none 0 0,.bool false,.slice none 0 0]
structure aBA(w:World)(S:Nat->Prop)(n i:Nat)(css:List (List Value))(qs:List Rat):Prop where
 len:css.length=n
 four:∀cs∈css,cs.length=4
 one:∀cs∈css,∀u∈cs,u.oneCell'=true
 at_:∀(j:Nat) cs q,j<i->css[j]? =some cs->qs[j]? =some q->NK w S cs q
section
variable{S S':Nat->Prop}{H:Hp}{nx n i:Nat}{iv iv':Iv}{B:Nat}{w w1 w' w2:World}{O:Nat->Sx.dg}{css:List (List Value)}{qs:List Rat}
end
def iF(x:Int×Int):Rat:=ratio x.1 x.2
structure aAv(w:World)(S:Nat->Prop)(B:Nat)(iv:Iv)(rv:List Value)(n:Nat)(M:List (List Rat)):Prop where
 len:rv.length=M.length
 row:∀(i:Nat) v qs,rv[i]? =some v->M[i]? =some qs->aAH w (fun g=>Cv S B iv g∧¬ ∃u∈rv,u.ownBlock=some g) v n qs
 GJ:∀(i j:Nat) a b g,rv[i]? =some a->rv[j]? =some b->a.ownBlock=some g->b.ownBlock=some g->i=j
 new:∀v∈rv,∀g,v.ownBlock=some g->Cv FF B iv g
theorem gV(B:Nat):∀g,(fun _:Nat=>False) g->g<B:=fun _ h=>h.elim
theorem ui{B:Nat}{iv:Iv}{g:Nat}(h:Cv FF B iv g):Cv S B iv g:=h.elim (fun h=>h.elim) .inr
section
variable{S S':Nat->Prop}{H:Hp}{nx n i:Nat}{iv iv':Iv}{B:Nat}{w w1 w' w2:World}{O:Nat->Sx.dg}{rv:List Value}{M:List (List Rat)}
structure aBB(w:World)(S:Nat->Prop)(B:Nat)(iv:Iv)(vm:Value)(n:Nat)(M:List (List Rat)):Prop where
 ex:∃rv,aAZ w (fun g=>Cv S B iv g∧¬Mb vm rv g) vm rv n M∧∀g,Mb vm rv g->Cv FF B iv g
end
def dH(w:World)(S:Nat->Prop)(v:Value)(ps:List Nat):Prop:=iM w S 1 v (ps.map fun c:Nat=>.int .i64 (c:Int)) ps.length
theorem dH.cH{w2:World}(h:dH w S v ps)(hk:∀g,S g->w2.heap[g]? =w.heap[g]?):dH w2 S v ps:=iM.cH h hk
theorem dH.cI{S':Nat->Prop}(h:dH w S v ps)(hk:∀g,S g->S' g):dH w S' v ps:=iM.cI h hk
section
variable{S S':Nat->Prop}{H:Hp}{nx:Nat}{iv iv':Iv}{B:Nat}{w w' w2:World}{O:Nat->Sx.dg}{v:Value}{ps:List Nat}
theorem dH.rel(h:dH w (Cv S B iv) v ps)(r:Rel H nx iv B w O w')(hS:∀g,S g->g<B):dH w' (Cv S B iv) v ps:=dH.cH h fun _ hg=>Rel.same r hS hg
theorem dH.cF(h:dH w (Cv S B iv) v ps)(r:Rel H nx iv B w O w')(hS:∀g,S g->g<B)(he:Ext w' w2)(hm:∀p,p∈iv->p∈iv'):dH w2 (Cv S B iv') v ps:=
 dH.cI (dH.cH (dH.rel h r hS) fun g hg=>he.block g (Rel.old r hS g hg)) fun _ hg=>hg.mono hm
theorem dH.dA(h:dH w2 (Nf w' w2) v ps)(hB:B<=w'.heap.size)(hm:(w'.heap.size,w2.heap.size)∈iv):dH w2 (Cv S B iv) v ps:=dH.cI h fun _ hg=>hg.dA hB hm
end
section
variable{S S':Nat->Prop}{H:Hp}{nx n:Nat}{iv iv':Iv}{B:Nat}{w w' w2:World}{O:Nat->Sx.dg}{v:Value}{qs:List Rat}
end
def fZ(A:List (List Rat))(pv:List Nat)(cols c i:Nat):List Rat:=(List.range i).foldl (fun x i=>x.set (pv.getD i 0) (-(dL A i c))) ((List.replicate cols 0).set c 1)
def dy(A:List (List Rat))(pv:List Nat)(cols c:Nat):List (List Rat):=((List.range c).filter fun c=>decide (c∉pv)).map fun c=>fZ A pv cols c pv.length
theorem gP(A:List (List Rat))(pv:List Nat)(cols c i:Nat):fZ A pv cols c (i+1)=(fZ A pv cols c i).set (pv.getD i 0) (-(dL A i c)):=by
 rw[fZ,bT,List.foldl_append];rfl
theorem kH(A:List (List Rat))(pv:List Nat)(cols c i:Nat):(fZ A pv cols c i).length=cols:=by
 induction i with
 |zero=>simp[fZ]
 |succ i ih=>rw[gP,bE,ih]
theorem xM{cols c:Nat}(h:c∈pv):dy A pv cols (c+1)=dy A pv cols c:=by
 rw[dy,bT,List.filter_append];simp[h,dy]
theorem uT{cols c:Nat}(h:c∉pv):dy A pv cols (c+1)=dy A pv cols c++[fZ A pv cols c pv.length]:=by
 rw[dy,bT,List.filter_append];simp[h,dy]
abbrev fR(M:List (List (Int×Int))):List (List Rat):=M.map fun r=>r.map iF
def fp(A:List (List Rat))(pv:List Nat)(cols i:Nat):List Rat:=(List.range i).foldl (fun x i=>x.set (pv.getD i 0) (dL A i cols)) (List.replicate cols 0)
theorem gQ(A:List (List Rat))(pv:List Nat)(cols i:Nat):fp A pv cols (i+1)=(fp A pv cols i).set (pv.getD i 0) (dL A i cols):=by
 rw[fp,bT,List.foldl_append];rfl
structure aAw(w:World)(B:Nat)(iv:Iv)(rv:List Value)(v:Value)(n:Nat)(qs:List Rat):Prop where
 row:aAH w (fun g=>(Cv FF B iv g∧¬ ∃u∈rv,u.ownBlock=some g)∧v.ownBlock≠some g) v n qs
 yX:∀g,v.ownBlock=some g->Cv FF B iv g
section
variable{H:Hp}{nx n:Nat}{iv iv':Iv}{B:Nat}{w w' w2:World}{O:Nat->Sx.dg}{v:Value}{qs:List Rat}{rv:List Value}
end
def iK(w:World)(S:Nat->Prop)(cs:List Value)(q:Rat):Prop:=∃b a n c b2 a2 n2 c2,cs=[.bool b,.slice a n c,.bool b2,.slice a2 n2 c2]∧cU w S (.agg #[.bool b,.slice a n c,.bool b2,.slice a2 n2 c2]) q
abbrev cJ:=cY iK
abbrev cQ:=dD cJ
section
variable{S S':Nat->Prop}{H:Hp}{nx:Nat}{iv iv':Iv}{B:Nat}{w w' w2:World}{O:Nat->Sx.dg}{v:Value}{qs:List Rat}{cs:List Value}{q:Rat}
theorem iK.cH(h:iK w S cs q)(hk:∀g,S g->w2.heap[g]? =w.heap[g]?):iK w2 S cs q:=by
 obtain⟨b,a,n,c,b2,a2,n2,c2,h1,h2⟩:=h;exact⟨b,a,n,c,b2,a2,n2,c2,h1,h2.cH hk⟩
theorem iK.cI(h:iK w S cs q)(hk:∀g,S g->S' g):iK w S' cs q:=by
 obtain⟨b,a,n,c,b2,a2,n2,c2,h1,h2⟩:=h;exact⟨b,a,n,c,b2,a2,n2,c2,h1,h2.cI hk⟩
theorem cJ.cH(h:cJ w S v qs)(hk:∀g,S g->w2.heap[g]? =w.heap[g]?):cJ w2 S v qs:=by
 obtain⟨css,h1,h2,h3,h4⟩:=h;exact⟨css,h1.cH hk,h2,h3,fun j cs x k1 k2=>(h4 j cs x k1 k2).cH hk⟩
theorem cJ.cI(h:cJ w S v qs)(hk:∀g,S g->S' g):cJ w S' v qs:=by
 obtain⟨css,h1,h2,h3,h4⟩:=h;exact⟨css,h1.cI hk,h2,h3,fun j cs x k1 k2=>(h4 j cs x k1 k2).cI hk⟩
theorem cQ.cH{M:List (List Rat)}(h:cQ w S v M)(hk:∀g,S g->w2.heap[g]? =w.heap[g]?):cQ w2 S v M:=by
 obtain⟨rv,h1,h2,h3⟩:=h;exact⟨rv,h1.cH hk,h2,fun i u x k1 k2=>cJ.cH (h3 i u x k1 k2) hk⟩
theorem cQ.cI{M:List (List Rat)}(h:cQ w S v M)(hk:∀g,S g->S' g):cQ w S' v M:=by
 obtain⟨rv,h1,h2,h3⟩:=h;exact⟨rv,h1.cI hk,h2,fun i u x k1 k2=>cJ.cI (h3 i u x k1 k2) hk⟩
end
section
variable{S S':Nat->Prop}{H:Hp}{nx:Nat}{iv iv':Iv}{B:Nat}{w w' w2:World}{O:Nat->Sx.dg}{v:Value}{qs:List Rat}
theorem cJ.rel(h:cJ w (Cv S B iv) v qs)(r:Rel H nx iv B w O w')(hS:∀g,S g->g<B):cJ w' (Cv S B iv) v qs:=cJ.cH h fun _ hg=>Rel.same r hS hg
theorem cJ.cF(h:cJ w (Cv S B iv) v qs)(r:Rel H nx iv B w O w')(hS:∀g,S g->g<B)(he:Ext w' w2)(hm:∀p,p∈iv->p∈iv'):cJ w2 (Cv S B iv') v qs:=
 cJ.cI (cJ.cH (cJ.rel h r hS) fun g hg=>he.block g (Rel.old r hS g hg)) fun _ hg=>hg.mono hm
theorem cJ.dA(h:cJ w2 (Nf w' w2) v qs)(hB:B<=w'.heap.size)(hm:(w'.heap.size,w2.heap.size)∈iv):cJ w2 (Cv S B iv) v qs:=cJ.cI h fun _ hg=>hg.dA hB hm
theorem cJ.out{w0 w1:World}(h:cJ w1 (Cv S w0.heap.size iv) v qs)(r:Rel H nx iv w0.heap.size w1 O w')(hS:Old S w0):cJ w' (Nw S w0 w') v qs:=
 cJ.cI (cJ.rel h r hS) fun _ hg=>Cv.nw hg r
end
section
variable{S S':Nat->Prop}{H:Hp}{nx:Nat}{iv iv':Iv}{B:Nat}{w w' w2:World}{O:Nat->Sx.dg}{v:Value}{M:List (List Rat)}
theorem cQ.rel(h:cQ w (Cv S B iv) v M)(r:Rel H nx iv B w O w')(hS:∀g,S g->g<B):cQ w' (Cv S B iv) v M:=cQ.cH h fun _ hg=>Rel.same r hS hg
theorem cQ.cF(h:cQ w (Cv S B iv) v M)(r:Rel H nx iv B w O w')(hS:∀g,S g->g<B)(he:Ext w' w2)(hm:∀p,p∈iv->p∈iv'):cQ w2 (Cv S B iv') v M:=
 cQ.cI (cQ.cH (cQ.rel h r hS) fun g hg=>he.block g (Rel.old r hS g hg)) fun _ hg=>hg.mono hm
theorem cQ.dA(h:cQ w2 (Nf w' w2) v M)(hB:B<=w'.heap.size)(hm:(w'.heap.size,w2.heap.size)∈iv):cQ w2 (Cv S B iv) v M:=cQ.cI h fun _ hg=>hg.dA hB hm
theorem cQ.old(h:cQ w2 (Nw (Cv S B iv) w' w2) v M)(hB:B<=w'.heap.size):cQ w2 (Cv S B ((w'.heap.size,w2.heap.size)::iv)) v M:=cQ.cI h fun _ hg=>Nw.cv hg hB
end
theorem jO(A:List (List Rat))(pv:List Nat)(cols i:Nat):(fp A pv cols i).length=cols:=by
 induction i with
 |zero=>simp[fp]
 |succ i ih=>rw[gQ,bE,ih]
theorem FQ(A:List (List Rat))(pv:List Nat)(cols c:Nat):(dy A pv cols c).length<=c:=by
 unfold dy;rw[aJ];exact aZ (List.length_filter_le _ _) (by simp)
end Go.Ex
namespace Go.Ex
variable{ds l:List Nat}
def dQ:List Int->Int
 |[]=>0
 |c::r=>c+65536*dQ r
def up(k:Nat):Int:=65536^k
theorem DB(k:Nat):up (k+1)=65536*up k:=by rw[up,Int.pow_succ,Int.mul_comm];rfl
theorem Kh(k:Nat):0<up k:=Int.pow_pos (by decide)
theorem Aw(a b:List Int):dQ (a++b)=dQ a+up a.length*dQ b:=by
 induction a with
 |nil=>simp[dQ,up]
 |cons c r ih=>rw[List.cons_append,dQ,ih,dQ,List.length_cons,DB,Int.mul_add,<-Int.mul_assoc];omega
theorem Gp(a:List Int):dQ (a.map (- ·))= -dQ a:=by
 induction a with
 |nil=>rfl
 |cons c r ih=>rw[List.map_cons,dQ,ih,dQ];omega
def Dg(l:List Nat):Prop:=∀d∈l,d<65536
def mK(l:List Nat):Int:=dQ (l.map fun d:Nat=>(d:Int))
theorem z5(h:Dg l):0<=mK l∧mK l<up l.length:=by
 induction l with
 |nil=>exact⟨Int.le_refl _,by decide⟩
 |cons d r ih=>
  have h1:=ih fun x hx=>h x (List.mem_cons_of_mem _ hx);have h2:=h d aG;have e:mK (d::r)=(d:Int)+65536*mK r:=rfl;rw[e,List.length_cons,DB];omega
def dY:List Int->Int->List Nat×Int
 |[],k=>([],k)
 |c::r,k=>(((c+k) % 65536).toNat::(dY r ((c+k) / 65536)).1,(dY r ((c+k) / 65536)).2)
theorem ky:∀(cs:List Int) (k:Int),dQ cs+k=mK (dY cs k).1+up cs.length*(dY cs k).2∧Dg (dY cs k).1∧(dY cs k).1.length=cs.length
 |[],k=>⟨by simp[dQ,dY,mK,up],by simp[dY,Dg],rfl⟩
 |c::r,k=>by
  obtain⟨h1,h2,h3⟩:=ky r ((c+k) / 65536);have h4:0<=(c+k) % 65536:=Int.emod_nonneg _ (by decide);have h5:(c+k) % 65536<65536:=Int.emod_lt_of_pos _ (by decide);have h6:=Int.mul_ediv_add_emod (c+k) 65536;refine⟨?_,fun d hd=>?_,by simp[dY,h3]⟩
  ·have e:mK (dY (c::r) k).1=(((c+k) % 65536).toNat:Int)+65536*mK (dY r ((c+k) / 65536)).1:=rfl;have e2:(dY (c::r) k).2=(dY r ((c+k) / 65536)).2:=rfl;rw[e,e2,dQ,List.length_cons,DB,Int.mul_assoc];omega
  ·have e:(dY (c::r) k).1=((c+k) % 65536).toNat::(dY r ((c+k) / 65536)).1:=rfl;rw[e]at hd;rcases List.mem_cons.1 hd with rfl|hd
   ·omega
   ·exact h2 d hd
theorem DC(cs:List Int)(c k:Int):dY (cs++[c]) k=((dY cs k).1++[((c+(dY cs k).2) % 65536).toNat],(c+(dY cs k).2) / 65536):=by
 induction cs generalizing k with
 |nil=>rfl
 |cons d r ih=>simp only[List.cons_append,dY,ih]
theorem kK:∀(cs:List Int) (k:Int),(∀c∈cs,-1152921504606846976<=c∧c<=1152921504606846976)-> -1152921504606846976<=k->k<=1152921504606846976-> -1152921504606846976<=(dY cs k).2∧(dY cs k).2<=1152921504606846976
 |[],k,_,h1,h2=>⟨h1,h2⟩
 |c::r,k,h,h1,h2=>by
  have hc:=h c aG;exact kK r _ (fun x hx=>h x (List.mem_cons_of_mem _ hx)) (by omega) (by omega)
def dI(n:Nat):List Nat:=if h:n=0 then []else n % 65536::dI (n / 65536)
termination_by n
decreasing_by omega
theorem kz:dI 0=[]:=by rw[dI];rfl
theorem pf{n:Nat}(h:0<n):dI n=n % 65536::dI (n / 65536):=by
 rw[dI,dif_neg (by omega)]
theorem lA(n:Nat):mK (dI n)=n∧Dg (dI n):=by
 induction n using Nat.strongRecOn with
 |_ n ih=>
  rcases bK n with h|h
  ·subst h;rw[kz];exact⟨rfl,by simp[Dg]⟩
  ·rw[pf h];obtain⟨h1,h2⟩:=ih (n / 65536) (by omega);refine⟨?_,fun d hd=>?_⟩
   ·have e:mK (n % 65536::dI (n / 65536))=((n % 65536:Nat):Int)+65536*mK (dI (n / 65536)):=rfl;rw[e,h1];omega
   ·rcases List.mem_cons.1 hd with rfl|hd
    ·omega
    ·exact h2 d hd
theorem j6{n:Nat}:∀{k:Nat},n<65536^k->(dI n).length<=k
 |0,h=>by
  have:n=0:=by simp at h;exact h
  subst this;rw[kz];simp
 |k+1,h=>by
  rcases bK n with h0|h0
  ·subst h0;rw[kz];simp
  ·rw[pf h0,List.length_cons];have:=j6 (n:=n / 65536) (k:=k) (by rw[Nat.pow_succ]at h;exact Nat.div_lt_of_lt_mul (by rw[bW];exact h));omega
def gp:List Nat->List Nat
 |[]=>[]
 |[a]=>[a]
 |a::b::r=>(a+65536*b)::gp r
theorem z6:∀(l:List Nat),Dg l->(val (gp l):Int)=mK l∧Lm (gp l)∧(gp l).length=(l.length+1) / 2
 |[],_=>⟨rfl,by simp[gp,Lm],rfl⟩
 |[a],h=>by
  have:=h a (by simp);exact⟨by simp[gp,val,mK,dQ],fun x hx=>by simp[gp]at hx;omega,by simp[gp]⟩
 |a::b::r,h=>by
  obtain⟨h1,h2,h3⟩:=z6 r fun x hx=>h x (List.mem_cons_of_mem _ (List.mem_cons_of_mem _ hx));have ha:=h a (by simp);have hb:=h b (by simp);refine⟨?_,fun x hx=>?_,?_⟩
  ·have e:mK (a::b::r)=(a:Int)+65536*((b:Int)+65536*mK r):=rfl;rw[e,<-h1,gp,val];simp only[Int.natCast_add,Int.natCast_mul]
   omega
  ·rw[gp]at hx;rcases List.mem_cons.1 hx with rfl|hx
   ·omega
   ·exact h2 x hx
  ·rw[gp,List.length_cons,h3];simp only[List.length_cons]
   omega
def pk(ds:List Nat)(k:Nat):List Nat:=(List.range k).map fun i=>ds.getD (2*i) 0+65536*ds.getD (2*i+1) 0
theorem yL(ds:List Nat)(k:Nat):pk ds (k+1)=pk ds k++[ds.getD (2*k) 0+65536*ds.getD (2*k+1) 0]:=by simp[pk,bT]
theorem vI(ds:List Nat)(k:Nat):(pk ds k).length=k:=by simp[pk]
theorem Ki:∀(ds:List Nat),pk ds ((ds.length+1) / 2)=gp ds
 |[]=>rfl
 |[a]=>by simp[pk,gp,bT]
 |a::b::r=>by
  have ih:=Ki r;have e:((a::b::r).length+1) / 2=(r.length+1) / 2+1:=by simp only[List.length_cons];omega
  rw[e,gp,<-ih,pk,List.range_succ_eq_map,List.map_cons,List.map_map,pk];congr 1
theorem Kj(h:Dg ds)(k:Nat):Lm (pk ds k):=fun x hx=>by
 obtain⟨i,_,rfl⟩:=aU.1 hx;have key:∀j,ds.getD j 0<65536:=fun j=>by
  rw[List.getD]
  cases hj:ds[j]? with
  |none=>simp
  |some d=>simp;exact h d (aC hj)
 have h1:=key (2*i);have h2:=key (2*i+1);omega
end Go.Ex
namespace Go.Ex
open Go Go.Sx Go.Proofs
variable{cs:List Int}{S:Nat->Prop}{v:Value}{w:World}
def du(w:World)(S:Nat->Prop)(v:Value)(cs:List Int):Prop:=iM w S 1 v (cs.map (Value.int .i64)) cs.length
theorem du.cH{w2:World}(h:du w S v cs)(hk:∀g,S g->w2.heap[g]? =w.heap[g]?):du w2 S v cs:=iM.cH h hk
theorem du.cI{S':Nat->Prop}(h:du w S v cs)(hk:∀g,S g->S' g):du w S' v cs:=iM.cI h hk
theorem du.load{a:Option Addr}{n c j:Nat}{x:Int}(h:du w S (.slice a n c) cs)(hx:cs[j]? =some x):∃ad,a=some ad∧S ad.block∧w.cell? (ad.add (j*1))=some (.int .i64 x):=by
 obtain⟨_,_,_,a',c',e,_,h4⟩:=h;injection e with e1 e2 e3;subst e1;obtain⟨ad,k1,k2,k3⟩:=h4 j (.int .i64 x) (by rw[aM,hx];rfl);exact⟨ad,k1,k2,by rw[aT];exact k3⟩
theorem du.shape(h:du w S v cs):∃a c,v= .slice a cs.length c∧cs.length<=c:=by
 obtain⟨_,_,_,a',c',e,h3,_⟩:=h;exact⟨a',c',e,h3⟩
def eE(ds:List Nat):List Int:=ds.map fun d:Nat=>(d:Int)
theorem ee(ds:List Nat):(eE ds).length=ds.length:=by simp[eE]
end Go.Ex
namespace Go.Sx
open Go Go.Ex Go.Proofs
variable{cs:List Value}{O:Nat->Sx.dg}
theorem Rel.Dq{H:Hp}{nx:Nat}{iv:Iv}{B:Nat}{w w':World}(r:Rel H nx iv B w O w'){id t m sz:Nat}(h:dC H id=some (.vec t sz cs))(hm:cs.length=m*sz)(hs:0<sz):
  w'.ownsRow B t sz ((At.w id m).den O) m cs:=by
 rcases r.vec id t sz _ h with⟨hn,rfl⟩|⟨hn,spare,hb,hc,Qb⟩
 ·have St:m=0:=by
   rcases bK m with h|h
   ·exact h
   ·have:=Nat.mul_pos h hs;simp at hm;omega
  subst St;have:(At.w id 0).den O= .slice none 0 0:=by simp[At.den,hn]
  rw[this];exact World.ownsRow_nil _ _ _ _
 ·have hv:(At.w id m).den O= .slice (some ⟨(O id).g,0,none⟩) m (O id).cap:=by simp[At.den,hn]
  have h1:(cs++spare).length=cs.length+spare.length:=List.length_append;rw[hv];refine⟨hm,.inr ⟨(O id).g,(O id).cap,_,rfl,(r.low id _ h hn).1,hb,?_,Qb,by simpa using hc,?_⟩⟩
  ·have h2:m*sz<=(O id).cap*sz:=by omega
   exact bm h2 hs
  ·rw[<-hm];simp
end Go.Sx
namespace Go.Ex
open Go Go.Sx Go.Proofs
theorem Fz(n:Nat)(w:World)(hn:n<=9223372036854775807):di PG N.tz #[.int .i64 n] w (dw w fun v w2=>du w2 (Nf w w2) v (eE (dI n))):=by
 refine xp (by simp) ?_
 refine⟨Nat×List Nat×World,fun z=>⟨[(0,iZ z.1),(3,.o (.w 0 z.2.1.length))],[(0,.vec T.int 1 ((eE z.2.1).map (Value.int .i64)))],1,[],z.2.2⟩,fun z=>z.1,
  fun z=>dm w.heap.size w z.2.2∧z.1<=n∧z.2.1.length<=n-z.1∧z.2.1++dI z.1=dI n,?_,?_⟩
 ·intro O w' r
  exact⟨(n,[],w'),⟨r.cP,aF _,by simp,by simp⟩,Sub.nil 3 T.int 1 rfl (by simp[jX,SV.sc,At.sc,fT]) r fun ρ1 r1=>
   Sub.gn [] r1⟩
 rintro⟨k,ds,w1⟩ ⟨hw,hk,hl,hs⟩;dsimp only at hw hk hl hs ⊢;have Si:=ee ds;refine dM.mk ?_ ?_<;>intro h
 ·have h:0<k:=by
   have:(k:Int)>0:=aI h;omega
  refine⟨by decide,((k % 65536:Nat):Int),La k 65536,?_⟩;refine .inl ?_;refine⟨by simp[Si],?_,by have h1:=congrArg List.length hs;rw[List.length_append]at h1;have h2:=j6 (n:=n) (k:=4) (by omega);unfold maxLen;omega,?_⟩
  ·have h1:=congrArg List.length hs;rw[List.length_append]at h1;have h2:=j6 (n:=n) (k:=4) (by omega);omega
  refine⟨by decide,((k / 65536:Nat):Int),Mj (by omega),?_⟩;intro ρ3 w3 r3;have hl5:(ds++[k % 65536]).length=ds.length+1:=by simp
  have TJ:(eE (ds++[k % 65536])).map (Value.int .i64)=(eE ds).map (Value.int .i64)++[.int .i64 ((k % 65536:Nat):Int)]:=by simp[eE]
  refine⟨(k / 65536,ds++[k % 65536],w3),⟨hw.tr r3.cP,by dsimp only;omega,by dsimp only;rw[hl5];omega,?_⟩,
   Sub.gn [(0,2)] r3 ⟨by rw[TJ];rfl,trivial⟩ ⟨rfl,by dsimp only;rw[hl5];rfl,trivial⟩,by dsimp only;omega⟩
  dsimp only
  rw[<-hs,pf h];simp
 ·have h:k=0:=by
   have:¬(k:Int)>0:=aH h;omega
  subst h;rw[kz,List.append_nil]at hs;subst hs;intro ρe we re;refine⟨_,rfl,hw.tr re.cP,?_⟩;have:=re.iR (id:=0) (sz:=1) (m:=(dI n).length) rfl (by simp[Si]) (by have h2:=j6 (n:=n) (k:=4) (by omega);unfold maxLen;omega) (by decide) (by intro u hu;simp at hu;obtain⟨_,_,rfl⟩:=hu;rfl);unfold du;rw[Si];exact this.cI fun g hg=>.inr hg
end Go.Ex
namespace Go.Ex
open Go Go.Sx Go.Proofs
variable{cs:List Int}{S:Nat->Prop}
theorem wJ(n:Int):(n.tmod 65536<0->n % 65536=n.tmod 65536+65536)∧(¬n.tmod 65536<0->n % 65536=n.tmod 65536)∧ -65536<n.tmod 65536∧n.tmod 65536<65536:=by
 by_cases h:0<=n
 ·rw[Int.tmod_eq_emod_of_nonneg h];omega
 ·have h1:n.tmod 65536= -((-n) % 65536):=by
   have:n= -(-n):=by omega
   conv=>lhs;rw[this]
   rw[Int.neg_tmod,Int.tmod_eq_emod_of_nonneg (by omega)]
  rw[h1];omega
theorem Cb(n:Int):(n-n % 65536).tdiv 65536=n / 65536:=by
 have h:n-n % 65536=65536*(n / 65536):=by omega
 rw[h,Int.mul_tdiv_cancel_left _ (by decide)]
theorem Cc{w:World}{v:Value}(hS:Old S w)(h:du w S v cs)(hb:∀c∈cs,-1152921504606846976<=c∧c<=1152921504606846976)(hl:cs.length<=1000000000):
  di PG N.rZ #[v] w (dw w fun v' w2=>∃o,v'= .tuple #[o,.int .i64 (dY cs 0).2]∧w2.ownsRow w.heap.size T.int 1 o cs.length ((eE (dY cs 0).1).map (Value.int .i64))):=by
 obtain⟨a,c,rfl,hc⟩:=h.shape;refine vh (by simp) ?_
 refine⟨Nat×World,fun z=>⟨[(0,sV a cs.length c),(4,.o (.w 0 z.1)),(5,.o (.v (.int .i64 (dY (cs.take z.1) 0).2))),(6,iZ z.1)],[(0,.vec T.int 1 ((eE (dY (cs.take z.1) 0).1).map (Value.int .i64)))],1,[],z.2⟩,fun z=>cs.length-z.1,
  fun z=>dm w.heap.size w z.2∧z.1<=cs.length,?_,?_⟩
 ·intro O w' r
  exact⟨(0,w'),⟨r.cP,by simp⟩,Sub.nil 4 T.int 1 rfl (by simp[jX,SV.sc,At.sc,fT]) r fun ρ1 r1=>
   Sub.gn [] r1⟩
 rintro⟨i,w1⟩ ⟨hw,hi⟩;dsimp only at hw hi ⊢;obtain⟨-,hdg,hlen⟩:=ky (cs.take i) 0;have SA:((eE (dY (cs.take i) 0).1).map (Value.int .i64)).length=i:=by rw[aJ,ee,hlen,aW];omega
 obtain⟨hk1,VN⟩:=kK (cs.take i) 0 (fun c hc=>hb c (List.mem_of_mem_take hc)) (by decide) (by decide);have hR:du w1 S (.slice a cs.length c) cs:=du.cH h fun g hg=>hw.block g (hS g hg);refine dM.mk ?_ ?_<;>intro h
 ·have h:i<cs.length:=by simpa using h
  obtain⟨x,hx⟩:∃x,cs[i]? =some x:=⟨_,aB h⟩
  obtain⟨SR,Rh⟩:=hb x (aC hx);obtain⟨ad,rfl,q1,q2⟩:=hR.load hx;have UC:cs.take (i+1)=cs.take i++[x]:=by rw[List.take_add_one,hx];rfl
  have hsn:=DC (cs.take i) x 0;rw[<-UC]at hsn;generalize (dY (cs.take i) 0).1=ds at*
  generalize (dY (cs.take i) 0).2=k at*
  obtain⟨t1,t2,t3,t4⟩:=wJ (x+k);have hem1:=Int.emod_nonneg (x+k) (show (65536:Int)≠0 by decide);have hem2:=Int.emod_lt_of_pos (x+k) (show (0:Int)<65536 by decide);refine⟨ad,rfl,by omega,.int .i64 x,fun O w' r=>?_,?_⟩
  ·rw[aE,cG (w:=w1) (w2:=w') (by rw[dE];exact Rel.same (S:=S) r hS (.inl q1))];exact q2
  refine⟨x+k,wo,by decide,(x+k).tmod 65536,rfl,?_⟩;refine dM.mk ?_ ?_<;>intro RB
  ·have RB:=t1 (aI RB);refine⟨(x+k) % 65536,by rw[RB,wrap64]<;>omega,x+k-(x+k) % 65536,wo,by decide,(x+k) / 65536,by rw[Cb,wrap64]<;>omega,?_⟩;refine .inl ?_;refine⟨by rw[SA,aT],by omega,by unfold maxLen;omega,((i+1:Nat):Int),wo,?_⟩;intro ρ3 w3 r3;have TJ:(eE (dY (cs.take (i+1)) 0).1).map (Value.int .i64)=(eE ds).map (Value.int .i64)++[.int .i64 ((x+k) % 65536)]:=by
    rw[hsn];simp[eE,Int.toNat_of_nonneg hem1]
   have hk5:(dY (cs.take (i+1)) 0).2=(x+k) / 65536:=by rw[hsn]
   exact⟨(i+1,w3),⟨hw.tr r3.cP,by dsimp only;omega⟩,Sub.gn [(0,2)] r3 ⟨by dsimp only;rw[TJ];rfl,trivial⟩ ⟨rfl,rfl,by dsimp only;rw[hk5];rfl,rfl,trivial⟩,by dsimp only;omega⟩
  ·have RB:=t2 (aH RB);rw[<-RB];refine⟨x+k-(x+k) % 65536,wo,by decide,(x+k) / 65536,by rw[Cb,wrap64]<;>omega,?_⟩;refine .inl ?_;refine⟨by rw[SA,aT],by omega,by unfold maxLen;omega,((i+1:Nat):Int),wo,?_⟩;intro ρ3 w3 r3;have TJ:(eE (dY (cs.take (i+1)) 0).1).map (Value.int .i64)=(eE ds).map (Value.int .i64)++[.int .i64 ((x+k) % 65536)]:=by
    rw[hsn];simp[eE,Int.toNat_of_nonneg hem1]
   have hk5:(dY (cs.take (i+1)) 0).2=(x+k) / 65536:=by rw[hsn]
   exact⟨(i+1,w3),⟨hw.tr r3.cP,by dsimp only;omega⟩,Sub.gn [(0,2)] r3 ⟨by dsimp only;rw[TJ];rfl,trivial⟩ ⟨rfl,rfl,by dsimp only;rw[hk5];rfl,rfl,trivial⟩,by dsimp only;omega⟩
 ·have h:i=cs.length:=by
   have:¬i<cs.length:=by simpa using h
   omega
  subst h;rw[bC]at SA ⊢;exact rtn hw fun ρe we re=>⟨_,rfl,re.Dq (id:=0) rfl (by rw[SA,aT]) (by decide)⟩
end Go.Ex
namespace Go.Sx
open Go Go.Ex Go.Proofs
variable{ls:List Nat}{O:Nat->Sx.dg}
theorem Rel.Lb{H:Hp}{nx:Nat}{iv:Iv}{B:Nat}{w w':World}(r:Rel H nx iv B w O w'){id t m:Nat}(h:dC H id=some (.vec t 1 (U ls)))(hm:m<=ls.length)(PR:Lm ls)(hle:ls.length<=9223372036854775807):
  dO w' (fun g=>B<=g∧g<w'.heap.size) ((At.w id m).den O) (ls.take m):=by
 have Od:(ls.take m).length=m:=by rw[aW];omega
 rcases r.vec id t 1 _ h with⟨hn,hu⟩|⟨hn,spare,hb,hc,Qb⟩
 ·have hl:ls=[]:=by cases ls with
   |nil=>rfl
   |cons a b=>simp[U]at hu
  subst hl;simp at hm;subst hm;have:(At.w id 0).den O= .slice none 0 0:=by simp[At.den,hn]
  rw[this];exact dO.nil _ _
 ·refine⟨PR.take m,by rw[Od];omega,some ⟨(O id).g,0,none⟩,(O id).cap,by rw[Od];simp[At.den,hn],?_,fun j x hx=>⟨_,rfl,r.low id _ h hn,?_⟩⟩
  ·have h1:(U ls++spare).length=ls.length+spare.length:=by rw[List.length_append,gK]
   rw[Od];omega
  ·rw[List.getElem?_take]at hx;split at hx
   ·rw[dW,cell_of hb,aR,aK (by rw[gK];exact(aD.1 hx).1)];exact uO hx
   ·cases hx
end Go.Sx
namespace Go.Ex
open Go Go.Sx Go.Proofs
variable{ds ls:List Nat}{n:Nat}{S:Nat->Prop}
theorem HZ(_hn:n<ls.length)(h0:ls[n]? =some 0):dh (ls.take (n+1))=dh (ls.take n):=by
 rw[List.take_add_one,h0];exact kc _
theorem H0{x:Nat}(h0:ls[n]? =some x)(hx:x≠0):dh (ls.take (n+1))=ls.take (n+1):=by
 rw[List.take_add_one,h0];exact oE _ hx
theorem GA{w:World}{v:Value}(hS:Old S w)(h:du w S v (eE ds))(hd:Dg ds)(hl:ds.length<=1000000000):
  di PG N.tx #[v] w (dw w fun v' w2=>∃lv,v'= .agg #[.bool false,lv]∧dO w2 (Nf w w2) lv (dh (gp ds))):=by
 obtain⟨a,c,rfl,hc⟩:=h.shape;rw[ee]at hc h ⊢;refine xo (by simp) ?_
 refine⟨Nat×World,fun z=>match z.1 with
   |0=>⟨[(0,sV a ds.length c),(2,pP 0 0),(3,pP 1 0),(4,iZ 0)],[(1,.box T.Int [.v (.bool false),.v (.slice none 0 0)]),(0,.box T.Int [.v (.bool false),.v (.slice none 0 0)])],2,[],z.2⟩
   |k+1=>⟨[(0,sV a ds.length c),(2,pP 0 0),(3,pP 1 0),(4,.o (.v (.int .i64 ((2*(k+1):Nat):Int))))],[(2,.vec T.uint32 1 (U (pk ds (k+1)))),(1,.box T.Int [.v (.bool false),.w 2 (k+1)]),(0,.box T.Int [.v (.bool false),.v (.slice none 0 0)])],3,[],z.2⟩,
  fun z=>ds.length-z.1,fun z=>dm w.heap.size w z.2∧2*z.1<=ds.length+1,?_,?_⟩
 ·intro O w' r;exact⟨(0,w'),⟨r.cP,by simp⟩,Sub.gn [] r⟩
 rintro⟨k,w1⟩ ⟨hw,hi⟩;dsimp only at hw hi;have hR:du w1 S (.slice a ds.length c) (eE ds):=du.cH h fun g hg=>hw.block g (hS g hg)
 cases k with
 |zero=>
  refine dM.mk ?_ ?_<;>intro h1
  ·have h1:0<ds.length:=by
    have:=aI h1;omega
   obtain⟨d0,WO⟩:∃x,ds[0]? =some x:=⟨_,aB h1⟩
   have hd0b:=hd d0 (aC WO);have So:ds.getD (2*0) 0=d0:=by show ds.getD 0 0=d0;rw[List.getD,WO];rfl
   obtain⟨ad,rfl,q1,q2⟩:=hR.load (j:=0) (x:=(d0:Int)) (by rw[eE,aM,WO];rfl);refine⟨ad,rfl,by omega,.int .i64 (d0:Int),fun O w' r=>?_,?_⟩
   ·show w'.cell? (ad.add (0*1))=_;rw[cG (w:=w1) (w2:=w') (by rw[dE];exact Rel.same (S:=S) r hS (.inl q1))];exact q2
   refine⟨((0+1:Nat):Int),wo,?_⟩;refine dM.mk ?_ ?_<;>intro h2
   ·have h2:0+1<ds.length:=by
     have:=aI h2;omega
    obtain⟨d1,RT⟩:∃x,ds[0+1]? =some x:=⟨_,aB h2⟩
    have hd1b:=hd d1 (aC RT);have Sp:ds.getD (2*0+1) 0=d1:=by show ds.getD (0+1) 0=d1;rw[List.getD,RT];rfl
    obtain⟨_,OW,q3,q4⟩:=hR.load (j:=0+1) (x:=(d1:Int)) (by rw[eE,aM,RT];rfl);injection OW with OW;subst OW;refine⟨((0+1:Nat):Int),wo,ad,rfl,by omega,.int .i64 (d1:Int),fun O w' r=>?_,?_⟩
    ·show w'.cell? (ad.add ((0+1)*1))=_;rw[cG (w:=w1) (w2:=w') (by rw[dE];exact Rel.same (S:=S) r hS (.inl q3))];exact q4
    refine⟨((65536*d1:Nat):Int),wo,((d0+65536*d1:Nat):Int),wo,?_⟩;have SQ:=yL ds 0;rw[So,Sp]at SQ;generalize d0+65536*d1=dd at*
    have hdd:dd<4294967296:=Kj hd (0+1) dd (by rw[SQ];simp);refine⟨(dd:Int),by rw[yE]<;>omega,?_⟩;refine .inl ?_;refine⟨by omega,by unfold maxLen;omega,((2*(0+1):Nat):Int),wo,?_⟩;intro ρ3 w3 r3;have hU:U (pk ds (0+1))=U (pk ds 0)++[.int .u32 (dd:Int)]:=by rw[SQ];simp[U]
    exact⟨(0+1,w3),⟨hw.tr r3.cP,by dsimp only;omega⟩,Sub.gn [(2,3)] r3 ⟨by dsimp only;rw[hU];rfl,rfl,rfl,trivial⟩,by dsimp only;omega⟩
   ·have h2:0+1=ds.length:=by
     have:=aH h2;omega
    have Sp:ds.getD (2*0+1) 0=0:=by show ds.getD (0+1) 0=0;rw[List.getD,List.getElem?_eq_none (by omega)];rfl
    have SQ:=yL ds 0;rw[So,Sp]at SQ;obtain⟨dd,hdde⟩:∃dd,dd=d0:=⟨_,rfl⟩
    rw[<-hdde]at SQ ⊢;have hdd:dd<4294967296:=by omega
    rw[show dd+65536*0=dd by omega]at SQ;refine⟨(dd:Int),by rw[yE]<;>omega,?_⟩;refine .inl ?_;refine⟨by omega,by unfold maxLen;omega,((2*(0+1):Nat):Int),wo,?_⟩;intro ρ3 w3 r3;have hU:U (pk ds (0+1))=U (pk ds 0)++[.int .u32 (dd:Int)]:=by rw[SQ];simp[U]
    exact⟨(0+1,w3),⟨hw.tr r3.cP,by dsimp only;omega⟩,Sub.gn [(2,3)] r3 ⟨by dsimp only;rw[hU];rfl,rfl,rfl,trivial⟩,by dsimp only;omega⟩
  ·have h1:ds=[]:=by
    have:=aH h1;exact List.eq_nil_of_length_eq_zero (by omega)
   subst h1;refine⟨World,fun z=>⟨[(2,pP 0 0),(3,pP 1 0),(6,iZ 0)],[(1,.box T.Int [.v (.bool false),.v (.slice none 0 0)]),(0,.box T.Int [.v (.bool false),.v (.slice none 0 0)])],2,[],z⟩,fun _=>0,fun z=>dm w.heap.size w z,?_,?_⟩
   ·intro O w' r;exact⟨w',hw.tr r.cP,Sub.gn [] r⟩
   intro w2 hw;dsimp only at hw ⊢;refine⟨⟨by decide,by decide,by decide⟩,none,0,0,by rfl,by rfl,by rfl,?_⟩;exact rtn hw fun ρe we re=>⟨_,rfl,dO.nil _ _⟩
 |succ k=>
  refine dM.mk ?_ ?_<;>intro h1
  ·have h1:(2*(k+1))<ds.length:=by
    have:=aI h1;omega
   obtain⟨d0,WO⟩:∃x,ds[(2*(k+1))]? =some x:=⟨_,aB h1⟩
   have hd0b:=hd d0 (aC WO);have So:ds.getD (2*(k+1)) 0=d0:=by show ds.getD (2*(k+1)) 0=d0;rw[List.getD,WO];rfl
   obtain⟨ad,rfl,q1,q2⟩:=hR.load (j:=(2*(k+1))) (x:=(d0:Int)) (by rw[eE,aM,WO];rfl);refine⟨ad,rfl,by omega,.int .i64 (d0:Int),fun O w' r=>?_,?_⟩
   ·show w'.cell? (ad.add ((2*(k+1))*1))=_;rw[cG (w:=w1) (w2:=w') (by rw[dE];exact Rel.same (S:=S) r hS (.inl q1))];exact q2
   refine⟨(((2*(k+1))+1:Nat):Int),wo,?_⟩;refine dM.mk ?_ ?_<;>intro h2
   ·have h2:(2*(k+1))+1<ds.length:=by
     have:=aI h2;omega
    obtain⟨d1,RT⟩:∃x,ds[(2*(k+1))+1]? =some x:=⟨_,aB h2⟩
    have hd1b:=hd d1 (aC RT);have Sp:ds.getD (2*(k+1)+1) 0=d1:=by show ds.getD ((2*(k+1))+1) 0=d1;rw[List.getD,RT];rfl
    obtain⟨_,OW,q3,q4⟩:=hR.load (j:=(2*(k+1))+1) (x:=(d1:Int)) (by rw[eE,aM,RT];rfl);injection OW with OW;subst OW;refine⟨(((2*(k+1))+1:Nat):Int),wo,ad,rfl,by omega,.int .i64 (d1:Int),fun O w' r=>?_,?_⟩
    ·show w'.cell? (ad.add (((2*(k+1))+1)*1))=_;rw[cG (w:=w1) (w2:=w') (by rw[dE];exact Rel.same (S:=S) r hS (.inl q3))];exact q4
    refine⟨((65536*d1:Nat):Int),wo,((d0+65536*d1:Nat):Int),wo,?_⟩;have SQ:=yL ds (k+1);rw[So,Sp]at SQ;generalize d0+65536*d1=dd at*
    have hdd:dd<4294967296:=Kj hd ((k+1)+1) dd (by rw[SQ];simp);refine⟨(dd:Int),by rw[yE]<;>omega,?_⟩;refine .inl ?_;refine⟨by rw[gK,vI];omega,by omega,by unfold maxLen;omega,((2*((k+1)+1):Nat):Int),wo,?_⟩;intro ρ3 w3 r3;have hU:U (pk ds ((k+1)+1))=U (pk ds (k+1))++[.int .u32 (dd:Int)]:=by rw[SQ];simp[U]
    exact⟨((k+1)+1,w3),⟨hw.tr r3.cP,by dsimp only;omega⟩,Sub.gn [(2,4)] r3 ⟨by dsimp only;rw[hU];rfl,rfl,rfl,trivial⟩,by dsimp only;omega⟩
   ·have h2:(2*(k+1))+1=ds.length:=by
     have:=aH h2;omega
    have Sp:ds.getD (2*(k+1)+1) 0=0:=by show ds.getD ((2*(k+1))+1) 0=0;rw[List.getD,List.getElem?_eq_none (by omega)];rfl
    have SQ:=yL ds (k+1);rw[So,Sp]at SQ;obtain⟨dd,hdde⟩:∃dd,dd=d0:=⟨_,rfl⟩
    rw[<-hdde]at SQ ⊢;have hdd:dd<4294967296:=by omega
    rw[show dd+65536*0=dd by omega]at SQ;refine⟨(dd:Int),by rw[yE]<;>omega,?_⟩;refine .inl ?_;refine⟨by rw[gK,vI];omega,by omega,by unfold maxLen;omega,((2*((k+1)+1):Nat):Int),wo,?_⟩;intro ρ3 w3 r3;have hU:U (pk ds ((k+1)+1))=U (pk ds (k+1))++[.int .u32 (dd:Int)]:=by rw[SQ];simp[U]
    exact⟨((k+1)+1,w3),⟨hw.tr r3.cP,by dsimp only;omega⟩,Sub.gn [(2,4)] r3 ⟨by dsimp only;rw[hU];rfl,rfl,rfl,trivial⟩,by dsimp only;omega⟩
  ·have h1:ds.length<=2*(k+1):=by
    have:=aH h1;omega
   have hk:k+1=(ds.length+1) / 2:=by omega
   have SQ:pk ds (k+1)=gp ds:=by rw[hk];exact Ki ds
   have hlen:=vI ds (k+1);have PR:=Kj hd (k+1);rw[<-SQ];obtain⟨ls,hls⟩:∃ls,ls=pk ds (k+1):=⟨_,rfl⟩
   rw[<-hls]at hlen PR ⊢
   refine⟨by show(U (pk ds (k+1))).length=_;rw[<-hls,gK,hlen];simp,Nat×World,fun z=>⟨[(2,pP 0 0),(3,pP 1 0),(6,iZ z.1)],[(2,.vec T.uint32 1 (U ls)),(1,.box T.Int [.v (.bool false),.w 2 (k+1)]),(0,.box T.Int [.v (.bool false),.v (.slice none 0 0)])],3,[],z.2⟩,fun z=>z.1,
    fun z=>dm w.heap.size w z.2∧z.1<=k+1∧dh (ls.take z.1)=dh ls,?_,?_⟩
   ·intro O w' r;exact⟨(k+1,w'),⟨hw.tr r.cP,aF _,by dsimp only;rw[List.take_of_length_le (by omega)]⟩,Sub.gn [] r ⟨by dsimp only;rw[hls];rfl,rfl,rfl,trivial⟩⟩
   rintro⟨n,w2⟩ ⟨hw,hn,htr⟩;dsimp only at hw hn htr ⊢
   cases n with
   |zero=>
    refine⟨by rw[gK,hlen];simp,⟨by omega,by omega⟩,0,by rfl,?_⟩;intro ρe we re;refine⟨_,rfl,hw.tr re.cP,_,rfl,?_⟩;have:=re.Lb (id:=2) (m:=0) rfl (aP _) PR (by omega);rw[<-htr];exact this.cI fun g hg=>.inr hg
   |succ n=>
    obtain⟨x,hx⟩:∃x,ls[n]? =some x:=⟨_,aB (by omega)⟩
    refine dM.mk (fun hp=>?_) (fun hp=>absurd (aH hp) (by omega));refine⟨(n:Int),wo,by rw[gK,hlen];simp,by omega,.int .u32 (x:Int),by simpa using uO hx,?_⟩;refine dM.mk ?_ ?_<;>intro h0
    ·have h0:x=0:=by have:=eq_of_beq h0;omega
     subst h0;refine⟨(n:Int),wo,?_⟩;intro ρ3 w3 r3;exact⟨(n,w3),⟨hw.tr r3.cP,by dsimp only;omega,by dsimp only;rw[<-htr,HZ (by omega) hx]⟩,Sub.gn [] r3,by dsimp only;omega⟩
    ·have h0:x≠0:=fun e=>by rw[e]at h0;exact absurd h0 (by decide)
     refine⟨by rw[gK,hlen];simp,⟨by omega,by omega⟩,n+1,by rfl,?_⟩;intro ρe we re;refine⟨_,rfl,hw.tr re.cP,_,rfl,?_⟩;have:=re.Lb (id:=2) (m:=n+1) rfl (by omega) PR (by omega);rw[<-htr,H0 hx h0];exact this.cI fun g hg=>.inr hg
end Go.Ex
namespace Go.Ex
open Go Go.Sx Go.Proofs
variable{H:Hp}{z:Int}{iv:Iv}{cs:List Int}{b ds ls:List Nat}{xs:List Value}{B i nx:Nat}{S:Nat->Prop}{O:Nat->Sx.dg}{a2:Option Addr}{q:Rat}{u v:Value}{w w':World}
theorem ub{w2:World}{v':Value}(hc:HY iv v)(r:Rel H nx iv B w O w')(RF:∀g,v'.ownBlock=some g->g<w2.heap.size∧(v.ownBlock=some g∨g=w'.heap.size)):
  ∀lo hi,(lo,hi)∈rn v'->hi<=w2.heap.size∧∀id b,dC H id=some b->(O id).nil=false->¬(lo<=(O id).g∧(O id).g<hi):=fun lo hi hm=>by
 obtain⟨hg,rfl⟩:=CZ.1 hm;obtain⟨h1,h2⟩:=RF _ hg;refine⟨by omega,fun id c hc' hn he=>?_⟩;rcases h2 with h2|h2
 ·exact hc.not r h2 id c hc' hn (by omega)
 ·have:=(r.low id c hc' hn).2;omega
theorem dO.out{w1:World}(h:dO w1 (Cv S w.heap.size iv) v ls)(r:Rel H nx iv w.heap.size w1 O w')(hS:Old S w):dO w' (Nw S w w') v ls:=
 (dO.rel h r hS).cI fun _ hg=>Cv.nw hg r
theorem IP{B' e sz m:Nat}(h:w.ownsRow B e sz v m xs)(hb:B'<=B):w.ownsRow B' e sz v m xs:=⟨h.1,h.2.imp id fun⟨g,cap,cur,k1,k2,k3⟩=>⟨g,cap,cur,k1,by omega,k3⟩⟩
theorem uc(a b:List Nat):eE (a++b)=eE a++eE b:=by simp[eE]
theorem rA{m:Nat}(h:w.ownsRow B T.int 1 v m (cs.map (Value.int .i64)))(hm:m=cs.length)(hl:m<=maxLen):du w (fun g=>v.ownBlock=some g) v cs:=by
 subst hm;rcases h.2 with⟨rfl,h0⟩|⟨g,cap,cur,rfl,hb,hc,hmc,Qb,OX,Ry⟩
 ·have:cs=[]:=List.eq_nil_of_length_eq_zero h0;subst this;exact⟨by simp[maxLen],by simp,by simp,none,0,rfl,aF _,by simp⟩
 ·refine⟨hl,h.1,fun u hu=>by simp at hu;obtain⟨_,_,rfl⟩:=hu;rfl,_,cap,rfl,hmc,fun j u hu=>⟨_,rfl,rfl,?_⟩⟩;exact h.cells (g:=g) rfl j u hu
theorem Dg.append{a:List Nat}(ha:Dg a)(hb:Dg b):Dg (a++b):=fun x hx=>(bG.1 hx).elim (ha x) (hb x)
theorem xO(a b:List Nat):mK (a++b)=mK a+up a.length*mK b:=by
 unfold mK;rw[List.map_append,Aw,aJ]
theorem Ag(hd:Dg ds):Nz (dh (gp ds))∧(val (dh (gp ds)):Int)=mK ds:=by
 obtain⟨h1,h2,_⟩:=z6 ds hd;obtain⟨k1,k2,_⟩:=ef (gp ds);exact⟨k2,by rw[k1,h1]⟩
theorem wK(hS:Old S w)(h:du w S v cs)(hb:∀c∈cs,-1152921504606846976<=c∧c<=1152921504606846976)(hl:cs.length<=100000000):
  di PG N.kL #[v] w (dw w fun v' w2=>dK w2 (Nf w w2) v' (dQ cs)):=by
 obtain⟨a,c,rfl,hc⟩:=h.shape;obtain⟨WQ,hdg,Si⟩:=ky cs 0;obtain⟨hk1,VN⟩:=kK cs 0 hb (by decide) (by decide);rw[Int.add_zero]at WQ;refine vX (by simp) ?_;refine cC (cM (Φ:=fun _ w' v' w2=>∃o,v'= .tuple #[o,.int .i64 (dY cs 0).2]∧w2.ownsRow w'.heap.size T.int 1 o cs.length ((eE (dY cs 0).1).map (Value.int .i64))) (fun O w' r=>Cc (oS hS r) (du.cH h fun g hg=>Rel.same (S:=S) r hS (.inl hg)) hb (by omega)) ?_);rintro O wa v1 wb r he hw ⟨o,rfl,OG⟩;have QC:HY [(wa.heap.size,wb.heap.size)] o:=fun g hg=>⟨_,_,bB.2 rfl,(ownsRow.low OG g hg).1,(ownsRow.low OG g hg).2⟩
 replace OG:=IP OG r.cD;generalize [(wa.heap.size,wb.heap.size)]=iv at*
 generalize hds:(dY cs 0).1=ds at*
 generalize hk:(dY cs 0).2=k at*
 obtain⟨ao,co,rfl,hco⟩:=jk OG;refine dM.mk ?_ ?_<;>intro RB
 ·have RB:=aI RB;have hV:dQ cs<0:=by
   have h1:=(z5 hdg).2;rw[Si]at h1;have h2:=Kh cs.length;have h3:up cs.length*k<=up cs.length*(-1):=Int.mul_le_mul_of_nonneg_left (by omega) (by omega);omega
  obtain⟨Up,WR,hdl2⟩:=ky (cs.map (- ·)) 0;have QI:∀c∈cs.map (- ·),-1152921504606846976<=c∧c<=1152921504606846976:=fun c hc=>by
   obtain⟨x,hx,rfl⟩:=aU.1 hc;have:=hb x hx;omega
  obtain⟨hk1',hk2'⟩:=kK (cs.map (- ·)) 0 QI (by decide) (by decide);rw[Int.add_zero,Gp,aJ]at Up;rw[aJ]at hdl2;have Sr:0<=(dY (cs.map (- ·)) 0).2:=by
   have h1:=(z5 WR).2;rw[hdl2]at h1;have h2:=Kh cs.length;apply Decidable.byContradiction;intro h3;have h4:up cs.length*(dY (cs.map (- ·)) 0).2<=up cs.length*(-1):=Int.mul_le_mul_of_nonneg_left (by omega) (by omega);omega
  refine⟨Nat×World,fun z=>⟨[(0,sV a cs.length c),(2,pP 0 0),(3,sV ao cs.length co),(5,iZ z.1)],[(0,.box T.Int [.v (.bool false),.v (.slice none 0 0)])],1,iv,z.2⟩,fun z=>cs.length-z.1,
   fun z=>z.1<=cs.length∧dm w.heap.size w z.2∧z.2.ownsRow w.heap.size T.int 1 (.slice ao cs.length co) cs.length (((cs.take z.1).map (- ·)++(eE ds).drop z.1).map (Value.int .i64)),?_,?_⟩
  ·intro O w' r;exact⟨(0,w'),⟨by simp,hw.tr r.cP,by simpa using jW OG QC r⟩,Sub.gn [] r⟩
  rintro⟨i,w1⟩ ⟨hi,hw,OG⟩;dsimp only at hi hw OG ⊢;have hR:du w1 S (.slice a cs.length c) cs:=du.cH h fun g hg=>hw.block g (hS g hg);refine dM.mk ?_ ?_<;>intro OF
  ·have OF:i<cs.length:=by simpa using OF
   obtain⟨x,hx⟩:∃x,cs[i]? =some x:=⟨_,aB OF⟩
   obtain⟨SR,Rh⟩:=hb x (aC hx);obtain⟨ad,rfl,q1,q2⟩:=hR.load hx;obtain⟨go,hgo⟩:∃g,ao=some ⟨g,0,none⟩:=by
    rcases OG.2 with⟨_,h0⟩|⟨g,cap,cur,e,_⟩
    ·omega
    ·injection e with e;exact⟨g,e⟩
   subst hgo;refine⟨ad,rfl,by omega,.int .i64 x,fun O w' r=>?_,?_⟩
   ·rw[aE,cG (w:=w1) (w2:=w') (by rw[dE];exact Rel.same (S:=S) r hS (.inl q1))];exact q2
   refine⟨-x,wo,⟨go,0,none⟩,rfl,by omega,?_⟩;intro O w' r;have UR:=jW OG QC r;obtain⟨g',US,OI,QD,PW,OX⟩:=pV (nv:=[.int .i64 (-x)]) UR rfl OF rfl (by decide);injection US with US;injection US with US;subst US;rw[Mk (by rw[aJ,List.length_append,aJ,aW,List.length_drop,ee,Si];omega)]at QD;have OW:(⟨go,0,none⟩:Addr).add ((i:Int).toNat*1)=⟨go,i*1,none⟩:=by rw[aE,dW,aR]
   have Qc:=fun id b hb hn=>QC.not r (b:=go) rfl id b hb hn;have hgoB:=(ownsRow.low OG go rfl).1;have hw':dm w.heap.size w (setCells w' ⟨go,i*1,none⟩ [.int .i64 (-x)]):=(hw.tr r.cP).tr (dm.grown PW (fun g hg=>by injection hg with hg;subst hg;exact hgoB) r.cD);have hlist:(((cs.take i).map (- ·)++(eE ds).drop i).map (Value.int .i64)).set i (.int .i64 (-x))=((cs.take (i+1)).map (- ·)++(eE ds).drop (i+1)).map (Value.int .i64):=by
    rw[<-List.map_set];congr 1;have RU:((cs.take i).map (- ·)).length=i:=by rw[aJ,aW];omega
    obtain⟨d,hd⟩:∃d,(eE ds)[i]? =some d:=⟨_,aB (by rw[ee,Si];exact OF)⟩
    have PD:(eE ds).drop i=d::(eE ds).drop (i+1):=by
     rw[List.drop_eq_getElem_cons (by rw[ee,Si];exact OF)];congr 1;have:=aB (l:=eE ds) (i:=i) (by rw[ee,Si];exact OF);rw[hd]at this;injection this with this;exact this.symm
    rw[List.take_add_one,hx,List.map_append,PD,List.set_append_right _ _ (by omega),RU,bH];simp
   refine⟨by rw[OW],fun j hj=>by rw[OW];exact OI j hj,fun id b hb hn=>by rw[OW];exact Qc id b hb hn,fun w2 PE=>?_⟩;have PE:w2=setCells w' ⟨go,i*1,none⟩ [.int .i64 (-x)]:=by rw[PE];exact congrArg (fun x=>setCells w' x _) OW
   rw[<-PE]at QD hw'
   erw [hlist]at QD
   refine⟨((i+1:Nat):Int),wo,?_⟩;intro ρ3 w3 r3;exact⟨(i+1,w3),⟨OF,hw'.tr r3.cP,jW QD QC r3⟩,Sub.gn [] r3,by dsimp only;omega⟩
  have OF:i=cs.length:=by
   have:¬i<cs.length:=by simpa using OF
   omega
  subst OF;rw[bC,List.drop_of_length_le (by rw[ee,Si];exact aF _),List.append_nil]at OG;refine⟨⟨by omega,by omega,by omega⟩,ao,cs.length,co,FK ao co,by omega,by omega,?_⟩;refine cC (cM (Φ:=fun _ w' v' w2=>∃o,v'= .tuple #[o,.int .i64 (dY (cs.map (- ·)) 0).2]∧w2.ownsRow w'.heap.size T.int 1 o cs.length ((eE (dY (cs.map (- ·)) 0).1).map (Value.int .i64))) (fun O w' r=>?_) ?_)
  ·have h8:=jW OG QC r;have h9:=rA h8 (by rw[aJ]) (by unfold maxLen;omega);have h10:=Cc (fun g hg=>(ownsRow.low h8 g hg).2) h9 QI (by rw[aJ];omega);rw[aJ]at h10;exact h10
  rintro O wc v1 wd r he OT ⟨o2,rfl,QA⟩;have Qk:HY ((wc.heap.size,wd.heap.size)::iv) o2:=fun g hg=>⟨_,_,aG,(ownsRow.low QA g hg).1,(ownsRow.low QA g hg).2⟩
  replace QA:=IP QA r.cD;replace hw:=hw.tr OT;generalize (wc.heap.size,wd.heap.size)::iv=OJ at*
  generalize hds2:(dY (cs.map (- ·)) 0).1=ds2 at*
  generalize hkk2:(dY (cs.map (- ·)) 0).2=k2 at*
  obtain⟨kn,rfl⟩:∃kn:Nat,k2=kn:=⟨k2.toNat,by omega⟩
  obtain⟨ao2,co2,rfl,hco2⟩:=jk QA;have ds2_len:ds2.length=cs.length:=hdl2;have ds2_dg:Dg ds2:=WR;refine cC (cM (Φ:=fun _ w' v w2=>du w2 (Nf w' w2) v (eE (dI kn))) (fun O w' r=>by exact Fz kn w' (by omega)) ?_);rintro O ws vs wt r he hb Vy;have TK:du wt (Cf w ((ws.heap.size,wt.heap.size)::OJ)) vs (eE (dI kn)):=du.cI Vy fun g hg=>hg.dA r.cD aG;replace QA:=ownsRow.cH (jW QA Qk r) fun g hg=>he.block g (by have:=(ownsRow.low (jW QA Qk r) g hg).2;exact this);replace Qk:HY ((ws.heap.size,wt.heap.size)::OJ) _:=Qk.mono fun p hp=>List.mem_cons_of_mem _ hp;replace hw:=hw.tr hb;generalize (ws.heap.size,wt.heap.size)::OJ=qd at*
  obtain⟨asp,csp,rfl,-⟩:=TK.shape;rw[ee]at TK ⊢;have RS:=j6 (n:=kn) (k:=4) (by omega);have hsd:=(lA kn).2
  refine .inr (ya hτ (aF _) (xs:=(eE ds2).map (Value.int .i64)) (news:=(eE (dI kn)).map (Value.int .i64)) (m:=cs.length) (k:=(dI kn).length) (by rfl) (by rfl) (by decide) (by rfl) (by rfl) (fun O w' r=>⟨jW QA Qk r,fun g hg=>Qk.not r hg⟩) (by simp[eE]) (by intro u hu;simp at hu;obtain⟨_,_,rfl⟩:=hu;rfl) (by unfold maxLen;omega) (by omega)
   (fun O w' r=>?_) (fun v' w2=>rn v') (fun O w' v' w2 r OX RF=>ub Qk r RF) (fun O w' v' w2 r h5 h6 h7=>?_))
  ·obtain⟨_,_,_,a2,c2,e2,_,e3⟩:=TK;injection e2 with e4 e5 e6;subst e4 e6
   cases asp with
   |none=>
    have h0:(dI kn).length=0:=by
     rcases bK (dI kn).length with h0|h0
     ·exact h0
     ·obtain⟨ad2,q1,_⟩:=e3 0 _ (aB (show 0<((eE (dI kn)).map (Value.int .i64)).length by simp[eE];exact h0))
      cases q1
    exact .inl ⟨csp,by rw[h0];rfl,h0⟩
   |some ad3=>
    refine .inr ⟨ad3,csp,rfl,fun j u hu=>?_⟩;obtain⟨ad2,q1,q2,q3⟩:=e3 j u hu;injection q1 with q1;subst q1;rw[cG (w:=wt) (w2:=w') (by rw[dE];exact Rel.same r (cB w) q2)];exact q3
  replace hw:dm w.heap.size w w2:=(hw.tr r.cP).tr (dm.grown h6 (fun g hg=>by
   have:=(ownsRow.low QA g hg).1;omega) r.cD)
  have hcat:(eE ds2).map (Value.int .i64)++(eE (dI kn)).map (Value.int .i64)=(eE (ds2++dI kn)).map (Value.int .i64):=by rw[uc,List.map_append]
  rw[hcat]at h5;have RP:cs.length+(dI kn).length=(eE (ds2++dI kn)).length:=by rw[ee,List.length_append,ds2_len]
  have Uq:Dg (ds2++dI kn):=ds2_dg.append hsd;have Pb:(ds2++dI kn).length<=1000000000:=by rw[List.length_append,ds2_len];omega
  obtain⟨a3,c3,rfl,-⟩:=jk h5;refine cC (cM (Φ:=fun _ w' v' w2=>∃lv,v'= .agg #[.bool false,lv]∧dO w2 (Nf w' w2) lv (dh (gp (ds2++dI kn)))) (fun O w' r=>?_) ?_)
  ·have h8:=jW h5 (HY.row _) r;have h9:=rA h8 RP (by unfold maxLen;omega);have h10:=GA (w:=w') (fun g hg=>(ownsRow.low h8 g hg).2) h9 Uq Pb;exact h10
  rintro O wp v1 wq r he hb ⟨lv,rfl,hL⟩;have WS:=hL.dA (S:=FF) r.cD (iv:=[(wp.heap.size,wq.heap.size)]) aG;have WS:dO wq (Cf w ((wp.heap.size,wq.heap.size)::rn (.slice a3 (cs.length+(dI kn).length) c3))) lv (dh (gp (ds2++dI kn))):=hL.cI fun g hg=>hg.dA r.cD aG;replace hw:=hw.tr hb;generalize (wp.heap.size,wq.heap.size)::rn (.slice a3 (cs.length+(dI kn).length) c3)=ivq at*
  obtain⟨hnz,hvv⟩:=Ag Uq;obtain⟨a4,n4,c4,rfl⟩:=WS.shape;have hcv: -dQ cs=mK (ds2++dI kn):=by rw[Up,xO,(lA kn).1,ds2_len]
  obtain⟨pp,hpe,hpp⟩:=WS.la;injection hpe with Uh hpe2 Ui;subst Uh hpe2 Ui;have hlenpos:0<pp.ls.length:=by
   rw[hpp];rcases bK (dh (gp (ds2++dI kn))).length with h0|h0
   ·rw[List.eq_nil_of_length_eq_zero h0]at hvv;simp[val]at hvv;omega
   ·exact h0
  intro ρe we re;refine⟨_,rfl,hw.tr re.cP,dh (gp (ds2++dI kn)),⟨_,?_,WS.out re (cB w)⟩,hnz,?_⟩
  ·rw[bS hV];have:decide ((pp.ls.length:Int)>0)=true:=bS (by omega);rw[<-this];rfl
  ·have:((val (dh (gp (ds2++dI kn))):Nat):Int)= -dQ cs:=by rw[hvv,hcv]
   omega
 ·have RB:=aH RB;obtain⟨kn,rfl⟩:∃kn:Nat,k=kn:=⟨k.toNat,by omega⟩
  have ds_len:ds.length=cs.length:=Si;have ds_dg:Dg ds:=hdg;refine cC (cM (Φ:=fun _ w' v w2=>du w2 (Nf w' w2) v (eE (dI kn))) (fun O w' r=>by exact Fz kn w' (by omega)) ?_);rintro O ws vs wt r he hb Vy;have TK:du wt (Cf w ((ws.heap.size,wt.heap.size)::iv)) vs (eE (dI kn)):=du.cI Vy fun g hg=>hg.dA r.cD aG;replace OG:=ownsRow.cH (jW OG QC r) fun g hg=>he.block g (by have:=(ownsRow.low (jW OG QC r) g hg).2;exact this);replace QC:HY ((ws.heap.size,wt.heap.size)::iv) _:=QC.mono fun p hp=>List.mem_cons_of_mem _ hp;replace hw:=hw.tr hb;generalize (ws.heap.size,wt.heap.size)::iv=qd at*
  obtain⟨asp,csp,rfl,-⟩:=TK.shape;rw[ee]at TK ⊢;have RS:=j6 (n:=kn) (k:=4) (by omega);have hsd:=(lA kn).2
  refine .inr (ya hτ (aF _) (xs:=(eE ds).map (Value.int .i64)) (news:=(eE (dI kn)).map (Value.int .i64)) (m:=cs.length) (k:=(dI kn).length) (by rfl) (by rfl) (by decide) (by rfl) (by rfl) (fun O w' r=>⟨jW OG QC r,fun g hg=>QC.not r hg⟩) (by simp[eE]) (by intro u hu;simp at hu;obtain⟨_,_,rfl⟩:=hu;rfl) (by unfold maxLen;omega) (by omega)
   (fun O w' r=>?_) (fun v' w2=>rn v') (fun O w' v' w2 r OX RF=>ub QC r RF) (fun O w' v' w2 r h5 h6 h7=>?_))
  ·obtain⟨_,_,_,a2,c2,e2,_,e3⟩:=TK;injection e2 with e4 e5 e6;subst e4 e6
   cases asp with
   |none=>
    have h0:(dI kn).length=0:=by
     rcases bK (dI kn).length with h0|h0
     ·exact h0
     ·obtain⟨ad2,q1,_⟩:=e3 0 _ (aB (show 0<((eE (dI kn)).map (Value.int .i64)).length by simp[eE];exact h0))
      cases q1
    exact .inl ⟨csp,by rw[h0];rfl,h0⟩
   |some ad3=>
    refine .inr ⟨ad3,csp,rfl,fun j u hu=>?_⟩;obtain⟨ad2,q1,q2,q3⟩:=e3 j u hu;injection q1 with q1;subst q1;rw[cG (w:=wt) (w2:=w') (by rw[dE];exact Rel.same r (cB w) q2)];exact q3
  replace hw:dm w.heap.size w w2:=(hw.tr r.cP).tr (dm.grown h6 (fun g hg=>by
   have:=(ownsRow.low OG g hg).1;omega) r.cD)
  have hcat:(eE ds).map (Value.int .i64)++(eE (dI kn)).map (Value.int .i64)=(eE (ds++dI kn)).map (Value.int .i64):=by rw[uc,List.map_append]
  rw[hcat]at h5;have RP:cs.length+(dI kn).length=(eE (ds++dI kn)).length:=by rw[ee,List.length_append,ds_len]
  have Uq:Dg (ds++dI kn):=ds_dg.append hsd;have Pb:(ds++dI kn).length<=1000000000:=by rw[List.length_append,ds_len];omega
  obtain⟨a3,c3,rfl,-⟩:=jk h5;refine cC (cM (Φ:=fun _ w' v' w2=>∃lv,v'= .agg #[.bool false,lv]∧dO w2 (Nf w' w2) lv (dh (gp (ds++dI kn)))) (fun O w' r=>?_) ?_)
  ·have h8:=jW h5 (HY.row _) r;have h9:=rA h8 RP (by unfold maxLen;omega);have h10:=GA (w:=w') (fun g hg=>(ownsRow.low h8 g hg).2) h9 Uq Pb;exact h10
  rintro O wp v1 wq r he hb ⟨lv,rfl,hL⟩;have WS:=hL.dA (S:=FF) r.cD (iv:=[(wp.heap.size,wq.heap.size)]) aG;have WS:dO wq (Cf w ((wp.heap.size,wq.heap.size)::rn (.slice a3 (cs.length+(dI kn).length) c3))) lv (dh (gp (ds++dI kn))):=hL.cI fun g hg=>hg.dA r.cD aG;replace hw:=hw.tr hb;generalize (wp.heap.size,wq.heap.size)::rn (.slice a3 (cs.length+(dI kn).length) c3)=ivq at*
  obtain⟨hnz,hvv⟩:=Ag Uq;obtain⟨a4,n4,c4,rfl⟩:=WS.shape;intro ρe we re;have hcv:dQ cs=mK (ds++dI kn):=by rw[WQ,xO,(lA kn).1,ds_len]
  refine⟨_,rfl,hw.tr re.cP,dh (gp (ds++dI kn)),⟨_,?_,WS.out re (cB w)⟩,hnz,?_⟩
  ·have:¬dQ cs<0:=by rw[hcv,<-hvv];omega
   rw[bI this];rfl
  ·rw[hcv,<-hvv];rfl
theorem aAI(n:Int):dQ [n.tmod 65536,(n.tdiv 65536).tmod 65536,(n.tdiv 65536).tdiv 65536]=n:=by
 simp only[dQ]
 have h1:=Int.mul_tdiv_add_tmod n 65536;have h2:=Int.mul_tdiv_add_tmod (n.tdiv 65536) 65536;omega
theorem ku(n:Int)(w:World)(h1: -9223372036854775808<=n)(h2:n<=9223372036854775807):
  di PG N.FE #[.int .i64 n] w (dw w fun v w2=>dK w2 (Nf w w2) v n):=by
 refine FH (by simp) ?_;have b1:=wJ n;have b2:=wJ (n.tdiv 65536);have e1:=Int.mul_tdiv_add_tmod n 65536;have e2:=Int.mul_tdiv_add_tmod (n.tdiv 65536) 65536;have hsum:=aAI n;refine⟨by decide,n.tmod 65536,rfl,by decide,n.tdiv 65536,wo,by decide,_,rfl,by decide,n.tdiv 65536,wo,by decide,(n.tdiv 65536).tdiv 65536,wo,?_⟩;generalize n.tmod 65536=c0 at*
 generalize (n.tdiv 65536).tmod 65536=c1 at*
 generalize (n.tdiv 65536).tdiv 65536=c2 at*
 refine cC (cM (Φ:=fun _ w' v w2=>dK w2 (Nf w' w2) v n) (fun O w' r=>?_) ?_)
 ·rw[<-hsum];have ha:=r.qU (id:=1) (sz:=1) (n:=3) rfl rfl (by decide) (by intro u hu;simp at hu;rcases hu with rfl|rfl|rfl<;>rfl)
  exact wK (S:=fun g=>g=(O 1).g) (fun g hg=>by rw[hg];exact(r.low 1 _ rfl (r.nn 1 _ rfl (by intros;simp) (by simp))).2) (cs:=[c0,c1,c2]) ha (by
   intro c hc;simp at hc
   rcases hc with rfl|rfl|rfl<;>omega) (by simp)
 rintro O wa v1 wb r he hb hI;have hI:=hI.dA (S:=FF) r.cD (iv:=(wa.heap.size,wb.heap.size)::[]) aG;generalize (wa.heap.size,wb.heap.size)::[]=iv at*
 obtain⟨b,a,m,c,rfl⟩:=hI.shape;intro ρe we re;exact⟨_,rfl,hb.tr re.cP,hI.out re (cB w)⟩
def jo(z:Int):Value:=if z.natAbs<1073741824 then .tuple #[.int .i64 z,.bool true]else .tuple #[.int .i64 0,.bool false]
theorem jc.GB(h:jc w S v z):∃b a ls c,v= .agg #[.bool b,.slice a ls.length c]∧dO w S (.slice a ls.length c) ls∧sg b (val ls)=z:=by
 obtain⟨b,ls,⟨lv,h1,h2⟩,h3⟩:=h;obtain⟨a,c,rfl,_⟩:=h2.sl;exact⟨b,a,ls,c,h1,h2,h3⟩
theorem Ml{x:Nat}(h:ls[i]? =some x):wt i*x<=val ls:=by
 have hi:=(aD.1 h).1;have h1:=e9 ls (i+1) hi;rw[de h]at h1;omega
theorem aAa(h:0<i):4294967296<=wt i:=by
 obtain⟨k,rfl⟩:∃k,i=k+1:=⟨i-1,by omega⟩
 have:=yn k;rw[iy];omega
theorem nk(hS:Old S w)(hI:jc w S v z):
  di PG N.xC #[v] w (dw w fun v' _=>v'=jo z):=by
 obtain⟨b,a,ls,c,rfl,hL,hz⟩:=hI.GB;refine AF (by simp) ?_;have hlen:=hL.le
 refine⟨Nat×World,fun y=>⟨[(1,pP 0 0),(4,.o (.v (.int .i64 (val (ls.take y.1))))),(5,iZ y.1)],[(0,.box T.Int [.v (.bool b),.v (.slice a ls.length c)])],1,[],y.2⟩,fun y=>ls.length-y.1,
  fun y=>y.1<=ls.length∧dm w.heap.size w y.2∧val (ls.take y.1)<1073741824∧(∀j,0<j->j<y.1->ls[j]? =some 0),?_,?_⟩
 ·intro O w' r;exact⟨(0,w'),⟨by simp,r.cP,by simp[val],by omega⟩,Sub.gn [] r⟩
 rintro⟨i,w1⟩ ⟨hi,hw,hv,h0⟩;dsimp only at hi hw hv h0 ⊢;refine dM.mk ?_ ?_<;>intro OF
 ·have OF:i<ls.length:=by simpa using OF
  obtain⟨a',c',e,_,OS⟩:=hL.sl;injection e with e1 e2 e3;subst e1 e3;obtain⟨x,hx⟩:∃x,ls[i]? =some x:=⟨_,aB OF⟩
  have Py:=hL.lm x (aC hx);obtain⟨ad,rfl,q1,q2⟩:=OS i x hx;have Pu:∀{H nx iv O w'},Rel H nx iv w.heap.size w1 O w'->w'.cell? (ad.add ((i:Int).toNat*1))=some (.int .u32 x):=fun r=>by
   rw[aE,aT];exact jv hS hw r q1 q2
  have hge:=Ml hx;refine dM.mk ?_ ?_<;>intro hp
  ·have hp:0<i:=by
    have:(i:Int)>0:=aI hp;omega
   have hw1:=aAa hp;refine⟨ad,rfl,by omega,.int .u32 x,fun O w' r=>Pu r,?_⟩;refine dM.mk ?_ ?_<;>intro OH
   ·have OH:x≠0:=by simpa using OH
    intro ρe we re;refine⟨_,rfl,hw.tr re.cP,?_⟩;have:¬z.natAbs<1073741824:=by
     have:=Nat.mul_le_mul hw1 (show 1<=x by omega);rw[<-hz,sn];omega
    show _=jo z;rw[jo,aL this];rfl
   ·have OH:x=0:=by simpa using OH
    subst OH;refine⟨ad,rfl,by omega,.int .u32 0,fun O w' r=>Pu r,?_⟩;have Q3:val (ls.take (i+1))=val (ls.take i):=by rw[de hx];omega
    have RR:val (ls.take (i+1))<1073741824:=by rw[Q3];exact hv
    have h02:∀j,0<j->j<i+1->ls[j]? =some 0:=fun j h1 h2=>by
     rcases aO j i with h3|h3
     ·exact h0 j h1 h3
     ·have:j=i:=by omega
      rw[this];exact hx
    refine⟨ad,rfl,by omega,.int .u32 0,fun O w' r=>Pu r,((0:Nat):Int),by decide,((val (ls.take (i+1)):Nat):Int),by rw[Q3,wrap64]<;>omega,((i+1:Nat):Int),wo,?_⟩;intro ρ3 w3 r3;exact⟨(i+1,w3),⟨OF,hw.tr r3.cP,RR,h02⟩,Sub.gn [] r3,by dsimp only;omega⟩
  ·have hp:i=0:=by
    have:¬((i:Int)>0):=aH hp;omega
   subst hp;refine⟨ad,rfl,by omega,.int .u32 x,fun O w' r=>Pu r,?_⟩;refine dM.mk ?_ ?_<;>intro Vp
   ·have Vp:=aI Vp;intro ρe we re;refine⟨_,rfl,hw.tr re.cP,?_⟩;have:¬z.natAbs<1073741824:=by
     rw[<-hz,sn];rw[jV]at hge;omega
    show _=jo z;rw[jo,aL this];rfl
   ·have Vp:=aH Vp;have Q3:val (ls.take (0+1))=x:=by rw[de hx];simp[val,jV]
    have RR:val (ls.take (0+1))<1073741824:=by rw[Q3];omega
    have h02:∀j,0<j->j<0+1->ls[j]? =some 0:=fun j h1 h2=>by
     omega
    refine⟨ad,rfl,by omega,.int .u32 x,fun O w' r=>Pu r,((x:Nat):Int),wo,((val (ls.take (0+1)):Nat):Int),by rw[Q3,wrap64]<;>simp[val]<;>omega,((0+1:Nat):Int),wo,?_⟩;intro ρ3 w3 r3;exact⟨(0+1,w3),⟨OF,hw.tr r3.cP,RR,h02⟩,Sub.gn [] r3,by dsimp only;omega⟩
 ·have OF:i=ls.length:=by
   have:¬i<ls.length:=by simpa using OF
   omega
  subst OF;rw[bC]at hv ⊢;have Od:z.natAbs<1073741824:=by rw[<-hz,sn];exact hv
  cases b with
  |true=>
   refine⟨-(val ls:Int),wo,?_⟩;intro ρe we re;refine⟨_,rfl,hw.tr re.cP,?_⟩;show _=jo z;rw[jo,if_pos Od,<-hz,LH];rfl
  |false=>
   intro ρe we re;refine⟨_,rfl,hw.tr re.cP,?_⟩;show _=jo z;rw[jo,if_pos Od,<-hz,Nt];rfl
theorem Cd{a b:Int}(hb:b≠0):a.tdiv (b.sign*(Nat.gcd a.natAbs b.natAbs:Nat))=(Rat.divInt a b).num∧b.tdiv (b.sign*(Nat.gcd a.natAbs b.natAbs:Nat))=((Rat.divInt a b).den:Int):=by
 have hg:0<Nat.gcd a.natAbs b.natAbs:=bj _ (by omega);obtain⟨k,hk⟩:((Nat.gcd a.natAbs b.natAbs:Nat):Int) ∣ a:=by rw[<-Int.natAbs_dvd_natAbs];exact Nat.gcd_dvd_left _ _
 obtain⟨l,hl⟩:((Nat.gcd a.natAbs b.natAbs:Nat):Int) ∣ b:=by rw[<-Int.natAbs_dvd_natAbs];exact Nat.gcd_dvd_right _ _
 have hc:(b.gcd a:Int)=(Nat.gcd a.natAbs b.natAbs:Nat):=by rw[Int.gcd_comm];rfl
 have WN:b.gcd a=Nat.gcd a.natAbs b.natAbs:=by rw[Int.gcd_comm];rfl
 rw[Rat.num_divInt,Rat.den_divInt,aL hb,hc,WN];generalize Nat.gcd a.natAbs b.natAbs=g at*
 have hgi:(g:Int)≠0:=by omega
 have hs:b.sign*b.sign=1:=by
  rcases Int.lt_or_gt_of_ne hb with h|h
  ·rw[bc h];rfl
  ·rw[bh h];rfl
 have VC:b.sign≠0:=fun e=>by rw[e]at hs;simp at hs
 have OH:b.sign*g≠0:=Int.mul_ne_zero VC hgi;have PY:((b.natAbs / g:Nat):Int)=b.sign*l:=by
  rw[Int.natCast_ediv,show((b.natAbs:Nat):Int)=b.sign*b by
   rcases Int.lt_or_gt_of_ne hb with h|h
   ·rw[bc h];omega
   ·rw[bh h];omega]
  conv=>lhs;lhs;rhs;rw[hl]
  rw[show b.sign*(↑g*l)= ↑g*(b.sign*l) by rw[<-Int.mul_assoc,<-Int.mul_assoc,Int.mul_comm b.sign]];exact Int.mul_ediv_cancel_left _ hgi
 constructor
 ·rw[show b.sign*a / (g:Int)=b.sign*k by
   conv=>lhs;lhs;rhs;rw[hk]
   rw[show b.sign*(↑g*k)= ↑g*(b.sign*k) by rw[<-Int.mul_assoc,<-Int.mul_assoc,Int.mul_comm b.sign]]
   exact Int.mul_ediv_cancel_left _ hgi]
  conv=>lhs;lhs;rw[hk,show(g:Int)*k=(b.sign*g)*(b.sign*k) by
   rw[show (b.sign* ↑g)*(b.sign*k)=(b.sign*b.sign)*(↑g*k) by simp only[Int.mul_assoc,Int.mul_comm,Int.mul_left_comm],hs,Int.one_mul]]
  exact Int.mul_tdiv_cancel_left _ OH
 ·rw[PY]
  conv=>lhs;lhs;rw[hl,show(g:Int)*l=(b.sign*g)*(b.sign*l) by
   rw[show (b.sign* ↑g)*(b.sign*l)=(b.sign*b.sign)*(↑g*l) by simp only[Int.mul_assoc,Int.mul_comm,Int.mul_left_comm],hs,Int.one_mul]]
  exact Int.mul_tdiv_cancel_left _ OH
theorem rB(a b:Int)(w:World)(ha:a.natAbs<4611686018427387904)(hb:b.natAbs<4611686018427387904)(UK:b≠0):
  di PG N.tq #[.int .i64 a,.int .i64 b] w (dw w fun v w2=>cU w2 (Nf w w2) v (Rat.divInt a b)):=by
 refine xf (by simp) ?_;refine⟨-a,wo,-b,wo,?_⟩;conv=>whnf
 rw[show max a (-a)=(a.natAbs:Int) by omega,show max b (-b)=(b.natAbs:Int) by omega]
 refine⟨Nat×Nat×World,fun z=>⟨[(0,iZ a),(1,iZ b),(4,pP 0 0),(5,iZ z.1),(6,iZ z.2.1)],[(0,.box T.Rat [.v (.bool false),.v (.slice none 0 0),.v (.bool false),.v (.slice none 0 0)])],1,[],z.2.2⟩,fun z=>z.2.1,
  fun z=>dm w.heap.size w z.2.2∧Nat.gcd z.1 z.2.1=Nat.gcd a.natAbs b.natAbs∧z.1<4611686018427387904∧z.2.1<4611686018427387904,?_,?_⟩
 ·intro O w' r;exact⟨(a.natAbs,b.natAbs,w'),⟨r.cP,rfl,ha,hb⟩,Sub.gn [] r⟩
 rintro⟨x,y,w1⟩ ⟨hw,hg,hx,hy⟩;dsimp only at hw hg hx hy ⊢;conv=>whnf
 refine dM.mk ?_ ?_<;>intro h
 ·have h:0<y:=by
   have:(y:Int)>0:=aI h;omega
  refine cK hτ dZ [.x 0,.x 1,.x 2,.x 3,.x 4,.x 5] (by kernel_rfl) (by kernel_rfl) ?_;have hm:=bs x h;refine⟨by omega,((x % y:Nat):Int),rfl,?_⟩;intro ρ3 w3 r3;exact⟨(y,x % y,w3),⟨hw.tr r3.cP,by dsimp only;rw[<-hg,Nat.gcd_comm x y,Nat.gcd_rec y x,Nat.gcd_comm],hy,by dsimp only;omega⟩,Sub.gn [] r3,by dsimp only;omega⟩
 have h:y=0:=by
  have:¬(y:Int)>0:=aH h;omega
 subst h;rw[Nat.gcd_zero_right]at hg;have R0:x≠0:=by rw[hg];exact Nat.pos_iff_ne_zero.1 (bj _ (by omega))
 obtain⟨hn,hd⟩:=Cd (a:=a) UK;rw[<-hg]at hn hd;have bn:(Rat.divInt a b).num.natAbs<=a.natAbs:=by rw[<-hn];exact Int.natAbs_tdiv_le_natAbs _ _
 have bd:((Rat.divInt a b).den:Int).natAbs<=b.natAbs:=by rw[<-hd];exact Int.natAbs_tdiv_le_natAbs _ _
 refine dM.mk ?_ ?_<;>intro Of
 ·have Of:=aI Of;rw[bc Of,Int.neg_one_mul]at hn hd;refine⟨-(x:Int),wo,?_⟩;refine cK hτ dZ [.x 0,.x 1,.x 2,.x 4,.x 5,.x 6,.x 3,.x 7,.x 8,.x 9] (by kernel_rfl) (by kernel_rfl) ?_;refine⟨by omega,(Rat.divInt a b).num,by rw[hn,wrap64]<;>omega,by omega,((Rat.divInt a b).den:Int),by rw[hd,wrap64]<;>omega,?_⟩;refine cM (Φ:=fun _ w' v w2=>dK w2 (Nf w' w2) v (Rat.divInt a b).num) (fun O w' r=>ku _ w' (by omega) (by omega)) ?_;rintro O wa v1 wb r he OT hI;replace hw:=hw.tr OT;have hN:=hI.dA (S:=FF) r.cD (iv:=(wa.heap.size,wb.heap.size)::[]) aG;generalize (wa.heap.size,wb.heap.size)::[]=iv at*
  obtain⟨b1,a1,m1,c1,rfl⟩:=hN.shape;refine cM (Φ:=fun _ w' v w2=>dK w2 (Nf w' w2) v ((Rat.divInt a b).den:Int)) (fun O w' r=>ku _ w' (by omega) (by omega)) ?_;rintro O wa v1 PB r he OT hI;replace hw:=hw.tr OT;replace hN:=hN.cF (iv':=(wa.heap.size,PB.heap.size)::iv) r (cB w) he fun x hx=>List.mem_cons_of_mem _ hx;have hD:=hI.dA (S:=FF) r.cD (iv:=(wa.heap.size,PB.heap.size)::iv) aG;generalize (wa.heap.size,PB.heap.size)::iv=OJ at*
  obtain⟨b2,a2,m2,c2,rfl⟩:=hD.shape;exact rtn hw fun ρe we re=>(cU.of hN hD).out re (cB w)
 ·have Of:=aH Of;rw[bh (by omega),Int.one_mul]at hn hd;refine cK hτ dZ [.x 0,.x 1,.x 2,.x 4,.x 5,.x 6,.x 3,.x 7,.x 8,.x 9] (by kernel_rfl) (by kernel_rfl) ?_;refine⟨by omega,(Rat.divInt a b).num,by rw[hn,wrap64]<;>omega,by omega,((Rat.divInt a b).den:Int),by rw[hd,wrap64]<;>omega,?_⟩;refine cM (Φ:=fun _ w' v w2=>dK w2 (Nf w' w2) v (Rat.divInt a b).num) (fun O w' r=>ku _ w' (by omega) (by omega)) ?_;rintro O wa v1 wb r he OT hI;replace hw:=hw.tr OT;have hN:=hI.dA (S:=FF) r.cD (iv:=(wa.heap.size,wb.heap.size)::[]) aG;generalize (wa.heap.size,wb.heap.size)::[]=iv at*
  obtain⟨b1,a1,m1,c1,rfl⟩:=hN.shape;refine cM (Φ:=fun _ w' v w2=>dK w2 (Nf w' w2) v ((Rat.divInt a b).den:Int)) (fun O w' r=>ku _ w' (by omega) (by omega)) ?_;rintro O wa v1 PB r he OT hI;replace hw:=hw.tr OT;replace hN:=hN.cF (iv':=(wa.heap.size,PB.heap.size)::iv) r (cB w) he fun x hx=>List.mem_cons_of_mem _ hx;have hD:=hI.dA (S:=FF) r.cD (iv:=(wa.heap.size,PB.heap.size)::iv) aG;generalize (wa.heap.size,PB.heap.size)::iv=OJ at*
  obtain⟨b2,a2,m2,c2,rfl⟩:=hD.shape;exact rtn hw fun ρe we re=>(cU.of hN hD).out re (cB w)
theorem ud(h:z.natAbs<1073741824):jo z= .tuple #[.int .i64 z,.bool true]:=if_pos h
theorem Dr{x y:Int}(hS:Old S w)(hx:jc w S v x)(hy:jc w S u y)(hxs:x.natAbs<1073741824)(hys:y.natAbs<1073741824)(Pp:y≠0):
  di PG N.sX #[v,u] w (dw w fun v' w2=>cU w2 (Nf w w2) v' (Rat.divInt x y)):=by
 have hw:=bR w;replace hx:=hx.cI (S':=Cv S w.heap.size []) fun _ h=>.inl h;replace hy:=hy.cI (S':=Cv S w.heap.size []) fun _ h=>.inl h;obtain⟨bx,ax,lx,cx,rfl⟩:=hx.shape;obtain⟨b2,ay,ly,cy,rfl⟩:=hy.shape;refine r9 (by simp) ?_;refine cC (cE hw (fun _ w' v w2=>v= .tuple #[.int .i64 x,.bool true]) (fun O w' r=>(nk (Rel.old r hS) (hx.rel r hS)).mono fun e w2 ⟨v2,e1,e2,e3⟩=>⟨v2,e1,e2,by rw[e3,ud hxs]⟩) ?_);rintro O Pq v1 Pe OM r he hw h_ rfl;replace hx:=hx.cF r hS he (mC h_);replace hy:=hy.cF r hS he (mC h_);refine cC (cE hw (fun _ w' v w2=>v= .tuple #[.int .i64 y,.bool true]) (fun O w' r=>(nk (Rel.old r hS) (hy.rel r hS)).mono fun e w2 ⟨v2,e1,e2,e3⟩=>⟨v2,e1,e2,by rw[e3,ud hys]⟩) ?_);rintro O _ v1 _ OJ r he hw h_ rfl;refine cC (cE hw (fun _ w' v w2=>cU w2 (Nf w' w2) v (Rat.divInt x y)) (fun O w' r=>rB x y w' (by omega) (by omega) Pp) ?_);rintro O _ _ _ iv r he hw h_ hI;have hR:=hI.dA (S:=FF) r.cD (mN h_);obtain⟨b1,a1,m1,c1,b3,a3,m3,c3,rfl⟩:=hR.shape;exact rtn hw fun ρe we re=>hR.out re (cB w)
theorem Ah(n:Int):Rat.divInt n 1=(n:Rat):=by
 have:=Rat.num_divInt_den (n:Rat);rw[Rat.num_intCast,Rat.den_intCast]at this;exact this
theorem lz(n:Int)(w:World)(hn:n.natAbs<1073741824):
  di PG N.pq #[.int .i64 n] w (dw w fun v' w2=>cU w2 (Nf w w2) v' (n:Rat)):=by
 have hw:=bR w;refine qG (by simp) ?_;refine cC (cM (Φ:=fun _ w' v w2=>dK w2 (Nf w' w2) v n) (fun O w' r=>ku _ w' (by omega) (by omega)) ?_);rintro O wa v1 wb r he OT hI;replace hw:=hw.tr OT;have hN:=hI.dA (S:=FF) r.cD (iv:=(wa.heap.size,wb.heap.size)::[]) aG;generalize (wa.heap.size,wb.heap.size)::[]=iv at*
 obtain⟨b1,a1,m1,c1,rfl⟩:=hN.shape;refine cC (cM (Φ:=fun _ w' v w2=>dK w2 (Nf w' w2) v 1) (fun O w' r=>ku _ w' (by omega) (by omega)) ?_);rintro O wa v1 PB r he OT hI;replace hw:=hw.tr OT;replace hN:=hN.cF (iv':=(wa.heap.size,PB.heap.size)::iv) r (cB w) he fun x hx=>List.mem_cons_of_mem _ hx;have hD:=hI.dA (S:=FF) r.cD (iv:=(wa.heap.size,PB.heap.size)::iv) aG;generalize (wa.heap.size,PB.heap.size)::iv=OJ at*
 obtain⟨b2,a2,m2,c2,rfl⟩:=hD.shape;refine cC (cE hw (fun _ w' v w2=>cU w2 (Nf w' w2) v (Rat.divInt n 1)) (fun O w' r=>Dr (Rel.old r (cB w)) (hN.rel r (cB w)).r (hD.rel r (cB w)).r hn (by decide) (by decide)) ?_);rintro O _ _ _ iv r he hw h_ hI;have hR:=hI.dA (S:=FF) r.cD (mN h_);obtain⟨b1,a1,m1,c1,b3,a3,m3,c3,rfl⟩:=hR.shape;rw[Ah]at hR;exact rtn hw fun ρe we re=>hR.out re (cB w)
theorem Mm{n1 n2:Bool}{ms:List Nat}(hS:Old S w)(hx:uW w S v n1 ls)(hy:uW w S u n2 ms):
  di PG N.nA #[v,u] w (dw w fun v' _=>v'= .bool (decide (n1=n2∧ls=ms))):=by
 obtain⟨lv,rfl,h1⟩:=hx;obtain⟨mv,rfl,h2⟩:=hy;obtain⟨a,c,rfl,_,ha⟩:=h1.sl;obtain⟨b,e,rfl,_,hb⟩:=h2.sl;have hle1:=h1.le;have Uo:=h2.le;have hw:=bR w;refine vU (by simp) ?_;refine dM.mk ?_ ?_<;>intro hn
 ·have hn:n1≠n2:=fun h=>by rw[h]at hn;simp at hn
  intro O w2 r;exact⟨_,rfl,r.cP,by rw[bI (fun h=>hn h.1)];rfl⟩
 have hn:n1=n2:=by simpa using hn
 subst hn;refine dM.mk ?_ ?_<;>intro h
 ·have h:ls.length≠ms.length:=fun he=>by rw[he]at h;simp at h
  intro O w2 r;exact⟨_,rfl,r.cP,by rw[bI (fun e=>h (by rw[e.2]))];rfl⟩
 have h:ls.length=ms.length:=by
  have:(ls.length:Int)=ms.length:=by simpa using h
  omega
 refine⟨Nat×World,fun z=>⟨[(2,pP 0 0),(3,pP 1 0),(5,iZ z.1)],[(1,.box T.Int [.v (.bool n1),.v (.slice b ms.length e)]),(0,.box T.Int [.v (.bool n1),.v (.slice a ls.length c)])],2,[],z.2⟩,fun z=>ls.length-z.1,
  fun z=>z.1<=ls.length∧dm w.heap.size w z.2∧ls.take z.1=ms.take z.1,?_,?_⟩
 ·intro O w' r;exact⟨(0,w'),⟨by simp,r.cP,by simp⟩,Sub.gn [] r⟩
 rintro⟨i,w1⟩ ⟨hi,hw,ht⟩;dsimp only at hi hw ht ⊢;refine dM.mk ?_ ?_<;>intro OF
 ·have OF:i<ls.length:=by simpa using OF
  obtain⟨x,hx⟩:∃x,ls[i]? =some x:=⟨_,aB OF⟩
  obtain⟨y,hy⟩:∃x,ms[i]? =some x:=⟨_,aB (by omega)⟩
  obtain⟨ad,rfl,q1,q2⟩:=ha i x hx;obtain⟨ad2,rfl,q3,q4⟩:=hb i y hy;have Oj:∀{H nx iv O w'},Rel H nx iv w.heap.size w1 O w'->w'.cell? (ad.add ((i:Int).toNat*1))=some (.int .u32 x):=fun r=>by
   rw[aE,aT];exact jv hS hw r q1 q2
  have Qa:∀{H nx iv O w'},Rel H nx iv w.heap.size w1 O w'->w'.cell? (ad2.add ((i:Int).toNat*1))=some (.int .u32 y):=fun r=>by
   rw[aE,aT];exact jv hS hw r q3 q4
  refine cK hτ dZ [.x 0,.x 1,.x 2,.x 3,.x 4,.x 5,.x 6,.x 7,.x 8,.x 9,.x 10] (by kernel_rfl) (by kernel_rfl) ?_;refine⟨ad,rfl,by omega,.int .u32 x,fun O w' r=>Oj r,ad2,rfl,by omega,.int .u32 y,fun O w' r=>Qa r,?_⟩;refine dM.mk ?_ ?_<;>intro OH
  ·have OH:x≠y:=fun h=>by rw[h]at OH;simp at OH
   intro O w2 r;refine⟨_,rfl,hw.tr r.cP,?_⟩
   rw[bI (fun e=>OH (by
    have:=e.2;rw[this,hy]at hx;injection hx with hx
    exact hx.symm))]
   rfl
  have OH:x=y:=by
   have:(x:Int)=y:=by simpa using OH
   omega
  subst OH;have SZ:ls.take (i+1)=ms.take (i+1):=by rw[List.take_add_one,List.take_add_one,ht,hx,hy]
  refine⟨((i+1:Nat):Int),wo,?_⟩;intro ρ3 w3 r3;exact⟨(i+1,w3),⟨OF,hw.tr r3.cP,SZ⟩,Sub.gn [] r3,by dsimp only;omega⟩
 have OF:i=ls.length:=by
  have:¬i<ls.length:=by simpa using OF
  omega
 subst OF;rw[bC,h,bC]at ht;intro O w2 r;exact⟨_,rfl,hw.tr r.cP,by rw[bS ⟨rfl,ht⟩];rfl⟩
theorem JW{a:List Nat}(la:Lm a)(lb:Lm b)(na:Nz a)(nb:Nz b)(h:val a=val b):a=b:=by
 have:a.length=b.length:=by
  rcases bq a.length b.length with h1|h1|h1
  ·have:=iz la nb h1;omega
  ·exact h1
  ·have:=iz lb na h1;omega
 exact val_inj la lb this h
theorem Ce{x y:Int}(hS:Old S w)(hx:dK w S v x)(hy:dK w S u y):
  di PG N.nA #[v,u] w (dw w fun v' _=>v'= .bool (decide (x=y))):=by
 obtain⟨ls,h1,h2,h3⟩:=hx;obtain⟨ms,k1,k2,k3⟩:=hy;have e:decide (decide (x<0)=decide (y<0)∧ls=ms)=decide (x=y):=by
  refine decide_eq_decide.2 ⟨fun ⟨e1,e2⟩=>?_,fun e1=>?_⟩
  ·have e1:=decide_eq_decide.1 e1;rw[e2]at h3;omega
  ·subst e1;obtain⟨_,_,l1⟩:=h1;obtain⟨_,_,l2⟩:=k1;exact⟨rfl,JW l1.lm l2.lm h2 k2 (by omega)⟩
 exact(Mm hS h1 k1).mono fun _ w2 ⟨v2,e1,e2,e3⟩=>⟨v2,e1,e2,by rw[e3,e]⟩
theorem LK{p:Rat}(hS:Old S w)(hx:cU w S v p)(hy:cU w S u q):
  di PG N.zf #[v,u] w (dw w fun v' _=>v'= .bool (decide (p=q))):=by
 obtain⟨b1,a1,n1,c1,b2,a2,n2,c2,rfl⟩:=hx.shape;obtain⟨b3,a3,n3,c3,b4,a4,n4,c4,rfl⟩:=hy.shape;refine Ax (by simp) ?_;refine cC (cM (Φ:=fun _ w' v w2=>v= .bool (decide (p.num=q.num))) (fun O w' r=>Ce (oS hS r) (hx.num.cH fun g hg=>r.cP.block g (hS g hg)) (hy.num.cH fun g hg=>r.cP.block g (hS g hg))) ?_);rintro O wa v1 wb r he hb rfl;have hw:=hb;generalize (wa.heap.size,wb.heap.size)::[]=iv at*
 refine dM.mk ?_ ?_<;>intro h
 ·have h:=aI h;refine cC (cE hw (fun _ w' v w2=>v= .bool (decide ((p.den:Int)=q.den))) (fun O w' r=>Ce (oS hS r) (hx.den.cH (kS hw r hS)) (hy.den.cH (kS hw r hS))) ?_);rintro O _ _ _ OJ r he hw h_ rfl;intro ρe we re;refine⟨_,rfl,hw.tr re.cP,?_⟩;have:decide (p=q)=decide ((p.den:Int)=q.den):=decide_eq_decide.2 ⟨fun e=>by rw[e],fun e=>Rat.ext h (by omega)⟩;rw[this];rfl
 ·have h:=aH h;intro ρe we re;refine⟨_,rfl,hw.tr re.cP,?_⟩;rw[bI (fun e=>h (by rw[e]))];rfl
theorem j1{xs ys:List Rat}(hS:Old S w)(hx:cJ w S v xs)(hy:cJ w S u ys):
  di PG N.pj #[v,u] w (dw w fun v' _=>v'= .bool (decide (xs=ys))):=by
 obtain⟨a,c,rfl,hc,hm⟩:=cY.shape hx;obtain⟨b,e,rfl,WN,Tf⟩:=cY.shape hy;unfold maxLen at hm Tf;refine uB (by simp) ?_;refine dM.mk ?_ ?_<;>intro h
 ·have h:xs.length≠ys.length:=fun he=>by rw[he]at h;simp at h
  intro O w2 r;exact⟨_,rfl,r.cP,by rw[bI (fun e=>h (by rw[e]))];rfl⟩
 have h:xs.length=ys.length:=by
  have:(xs.length:Int)=ys.length:=by simpa using h
  omega
 refine⟨Nat×World,fun z=>⟨[(0,sV a xs.length c),(1,sV b ys.length e),(5,iZ z.1)],[],0,[],z.2⟩,fun z=>xs.length-z.1,
  fun z=>z.1<=xs.length∧dm w.heap.size w z.2∧xs.take z.1=ys.take z.1,?_,?_⟩
 ·intro O w' r;exact⟨(0,w'),⟨by simp,r.cP,by simp⟩,Sub.gn [] r⟩
 rintro⟨i,w1⟩ ⟨hi,hw,ht⟩;dsimp only at hi hw ht ⊢;refine dM.mk ?_ ?_<;>intro OF
 ·have OF:i<xs.length:=by simpa using OF
  obtain⟨x,PZ⟩:∃x,xs[i]? =some x:=⟨_,aB OF⟩
  obtain⟨y,TR⟩:∃x,ys[i]? =some x:=⟨_,aB (by omega)⟩
  obtain⟨ad2,cs2,rfl,Qh,-,Pb⟩:=cY.load hy TR;obtain⟨p2,q2,r2,s2,t2,u2,v2,w2,rfl,Qh⟩:=Qh;obtain⟨ad,cs,rfl,hR,-,hl⟩:=cY.load hx PZ;obtain⟨p1,q1,r1,s1,t1,u1,v1,w1,rfl,hR⟩:=hR;refine cK hτ dZ [.x 0,.x 1,.x 2,.x 3,.x 4,.x 5,.x 6,.x 7,.x 8,.x 9] (by kernel_rfl) (by kernel_rfl) ?_;refine⟨ad,rfl,by omega,[.bool p1,.slice q1 r1 s1,.bool t1,.slice u1 v1 w1],rfl,rdO hl hw hS,ad2,rfl,by omega,[.bool p2,.slice q2 r2 s2,.bool t2,.slice u2 v2 w2],rfl,rdO Pb hw hS,?_⟩;refine cE hw (fun _ w' v w2=>v= .bool (decide (x=y))) (fun O w' r=>LK (oS hS r) (hR.cH (kS hw r hS)) (Qh.cH (kS hw r hS))) ?_;rintro O _ _ _ OJ r he hw h_ rfl;refine dM.mk ?_ ?_<;>intro OH
  ·have OH:x≠y:=fun h=>by rw[h]at OH;simp at OH
   intro O w2 r;refine⟨_,rfl,hw.tr r.cP,?_⟩
   rw[bI (fun e=>OH (by
    rw[e,TR]at PZ;injection PZ with PZ
    exact PZ.symm))]
   rfl
  have OH:x=y:=by simpa using OH
  subst OH;have SZ:xs.take (i+1)=ys.take (i+1):=by rw[List.take_add_one,List.take_add_one,ht,PZ,TR]
  refine⟨((i+1:Nat):Int),wo,?_⟩;intro ρ3 w3 r3;exact⟨(i+1,w3),⟨OF,hw.tr r3.cP,SZ⟩,Sub.gn [] r3,by dsimp only;omega⟩
 have OF:i=xs.length:=by
  have:¬i<xs.length:=by simpa using OF
  omega
 subst OF;rw[bC,h,bC]at ht;intro O w2 r;exact⟨_,rfl,hw.tr r.cP,by rw[bS ht];rfl⟩
theorem cU.four{b b2:Bool}{a:Option Addr}{n c n2 c2:Nat}(h:cU w S (.agg #[.bool b,.slice a n c,.bool b2,.slice a2 n2 c2]) q):BQ w S [.bool b,.slice a n c,.bool b2,.slice a2 n2 c2] (q.num,(q.den:Int)):=
 ⟨b,a,n,c,b2,a2,n2,c2,rfl,h.r⟩
theorem cU.pD{b b2:Bool}{a:Option Addr}{n c n2 c2:Nat}(h:cU w S (.agg #[.bool b,.slice a n c,.bool b2,.slice a2 n2 c2]) q):iK w S [.bool b,.slice a n c,.bool b2,.slice a2 n2 c2] q:=
 ⟨b,a,n,c,b2,a2,n2,c2,rfl,h⟩
theorem Rel.lt(r:Rel H nx iv B w O w'){id t:Nat}{cs:List At}(h:dC H id=some (.box t cs)):(O id).g<w'.heap.size:=(r.low id _ h (r.nn id _ h (by intros;simp) (by simp))).2
end Go.Ex
