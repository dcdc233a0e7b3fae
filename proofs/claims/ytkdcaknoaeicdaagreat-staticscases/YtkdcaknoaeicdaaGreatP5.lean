/- Texts X24 to X51: lemmas, each with its conditions. -/
import Derived.Test.YtkdcaknoaeicdaaGreatP4
namespace Go.Ex
open Go Go.Sx Go.Proofs
end Go.Ex
namespace Go.Sx
open Go Go.Ex Go.Proofs
variable{O:Nat->Sx.di}
theorem Rel.lF{H:Hp}{nx:Nat}{iv:Iv}{B:Nat}{w w':World}(r:Rel H nx iv B w O w'){id t sz n:Nat}{cs:List At}(h:dE H id=some (.box t cs))(hl:cs.length=n*sz)(hn:n<=maxLen)(h1:∀u∈cs,(u.den O).oneCell'=true):
  gO w' (fun g=>g=(O id).g) sz (.slice (some ⟨(O id).g,0,none⟩) n n) (cs.map (At.den O)) n:=by
 refine⟨hn,by simpa using hl,fun u hu=>?_,_,_,rfl,aF _,fun j u hu=>⟨_,rfl,rfl,?_⟩⟩
 ·obtain⟨x,hx,rfl⟩:=aT.1 hu;exact h1 x hx
 ·have h0:(⟨(O id).g,0,none⟩:Addr).add j=⟨(O id).g,j,none⟩:=by
   cases j with
   |zero=>rfl
   |succ j=>simp[Addr.add]
  rw[h0,cell_of (r.box id t _ h)];exact hu
end Go.Sx
namespace Go.Ex
open Go Go.Sx Go.Proofs
theorem MZ{n:Nat}(h:n<=9223372036854775807):IntKind.i64.wrap (n:Int)=n:=by rw[wrap64]<;>omega
theorem Ng{t b:Nat}(h:t<=9223372036854775807):IntKind.i64.wrap ((t:Int).tdiv (b:Int))=((t / b:Nat):Int):=by
 have h1:=Nat.div_le_self t b;rw[Int.tdiv_eq_ediv_of_nonneg (by omega),<-Int.natCast_ediv];exact MZ (by omega)
end Go.Ex
namespace Go.Ex
open Go Go.Sx Go.Proofs
def B6:Value:=.agg #[.bool false,.slice none 0 0,.bool false,.slice none 0 0]
theorem mV{n:Int}(h1: -9223372036854775808<=n)(h2:n<=9223372036854775807):ln n.natAbs<=2:=gP.2 (by show n.natAbs<4294967296^2;omega)
end Go.Ex
namespace Go.Sx
open Go Go.Ex Go.Proofs
variable{cs:List Value}{O:Nat->Sx.di}
theorem Rel.iC{H:Hp}{nx:Nat}{iv:Iv}{B:Nat}{w w':World}(r:Rel H nx iv B w O w'){id t m sz:Nat}(h:dE H id=some (.vec t sz cs))(hm:cs.length=m*sz)(SK:m<=maxLen)(hs:0<sz)(h1:∀u∈cs,u.oneCell'=true):
  gO w' (fun g=>B<=g∧g<w'.heap.size) sz ((At.w id m).den O) cs m:=by
 rcases r.vec id t sz _ h with⟨hn,rfl⟩|⟨hn,spare,hb,hc,Qs⟩
 ·have TR:m=0:=by
   rcases bJ m with h|h
   ·exact h
   ·have:=Nat.mul_pos h hs;simp at hm;omega
  subst TR;refine⟨SK,by simp,by simp,none,0,by simp[At.den,hn],aF _,by simp⟩
 ·refine⟨SK,hm,h1,some ⟨(O id).g,0,none⟩,(O id).cap,by simp[At.den,hn],?_,fun j x hx=>⟨_,rfl,r.low id _ h hn,?_⟩⟩
  ·have h1:(cs++spare).length=cs.length+spare.length:=List.length_append;have h2:m*sz<=(O id).cap*sz:=by omega
   exact bp h2 hs
  ·rw[dZ,cell_of hb,aS,aL (aD.1 hx).1];exact hx
end Go.Sx
namespace Go.Ex
open Go Go.Sx Go.Proofs
end Go.Ex
namespace Go.Ex
open Go Go.Sx Go.Proofs
variable{qs:List Rat}{xs:List Value}{i:Nat}{O:Nat->Sx.di}{row:Option Nat}{q:Rat}
def signed:Bool->ByteArray->ByteArray
 |true,s=>⟨#[45]⟩++s
 |false,s=>s
def OH(w:World)(S:Nat->Prop)(cs:List Value)(q:Rat):Prop:=∃b a n c b2 a2 n2 c2,cs=[.bool b,.slice a n c,.bool b2,.slice a2 n2 c2]∧dW w S (.agg #[.bool b,.slice a n c,.bool b2,.slice a2 n2 c2]) q
def Fr(w:World)(S:Nat->Prop)(css:List (List Value))(qs:List Rat):Prop:=css.length=qs.length∧∀(j:Nat) cs q,css[j]? =some cs->qs[j]? =some q->OH w S cs q
section
variable{S S':Nat->Prop}{w w2:World}{cs:List Value}{css:List (List Value)}{q:Rat}{qs:List Rat}
end
section
variable{S S':Nat->Prop}{H:Hp}{nx:Nat}{iv iv':Iv}{B:Nat}{w w' w2:World}{O:Nat->Sx.di}{css:List (List Value)}{qs:List Rat}
end
theorem eK:∀{css:List (List Value)},(∀cs∈css,cs.length=4)->css.flatten.length=css.length*4
 |[],_=>rfl
 |c::r,h=>by
  rw[List.flatten_cons,List.length_append,eK (fun cs hc=>h cs (List.mem_cons_of_mem _ hc)),h c aG,List.length_cons];omega
theorem flat_get:∀{css:List (List Value)} {j:Nat} {cs:List Value},(∀cs∈css,cs.length=4)->css[j]? =some cs->∀k u,cs[k]? =some u->css.flatten[j*4+k]? =some u
 |[],j,cs,_,hj,_,_,_=>by simp at hj
 |c::r,0,cs,h,hj,k,u,hu=>by
  simp at hj;subst hj;rw[List.flatten_cons,aL (by have:=(aD.1 hu).1;omega)];simpa using hu
 |c::r,j+1,cs,h,hj,k,u,hu=>by
  have hc:=h c aG;rw[List.flatten_cons,aN (by omega),hc,show(j+1)*4+k-4=j*4+k by omega];exact flat_get (fun cs hc=>h cs (List.mem_cons_of_mem _ hc)) (by simpa using hj) k u hu
theorem iy:∀{css:List (List Value)} {j:Nat} {cs:List Value},(∀cs∈css,cs.length=4)->j<css.length->css.flatten.take (j*4)++cs++css.flatten.drop (j*4+4)=(css.set j cs).flatten
 |[],j,cs,_,hj=>by simp at hj
 |c::r,0,cs,h,_=>by
  have hc:=h c aG;simp[List.flatten_cons,hc]
 |c::r,j+1,cs,h,hj=>by
  have hc:=h c aG
  rw[List.flatten_cons,show(j+1)*4=c.length+j*4 by omega,List.take_length_add_append,show c.length+j*4+4=c.length+(j*4+4) by omega,List.drop_length_add_append,List.set_cons_succ,List.flatten_cons,
   <-iy (fun cs hc=>h cs (List.mem_cons_of_mem _ hc)) (by simpa using hj),bU,bU,bU]
abbrev Out(B:Nat)(iv:Iv):Nat->Prop:=Cv (fun g=>g<B) B iv
theorem pB{H:Hp}{nx:Nat}{iv:Iv}{B Bc e sz m:Nat}{w w':World}{v:Value}(h:w.ownsRow Bc e sz v m xs)(hc:∀g,v.ownBlock=some g->Out B iv g)(r:Rel H nx iv B w O w'):w'.ownsRow Bc e sz v m xs:=
 ownsRow.cI h fun b hb=>Rel.same r (fun _ h=>h) (hc b hb)
theorem gf{w w1 w2:World}(h:w.grownBy w1 row)(k:dm w.heap.size w1 w2):w.grownBy w2 row:=
 ⟨k.os.trans h.os,k.tape.trans h.tape,k.output.trans h.output,aY h.size k.size,fun b hb hn=>(k.block b hb).trans (h.block b hb hn)⟩
def iH(i:Nat)(f:Nat->Rat->Rat)(qs:List Rat):List Rat:=qs.mapIdx fun j q=>if j<i then f j q else q
theorem tW(f:Nat->Rat->Rat)(qs:List Rat):iH 0 f qs=qs:=by
 apply bM;intro j;simp[iH]
theorem xD(f:Nat->Rat->Rat)(qs:List Rat):iH qs.length f qs=qs.mapIdx f:=by
 apply bM;intro j;simp only[iH,List.getElem?_mapIdx]
 cases h:qs[j]? with
 |none=>rfl
 |some q=>simp[(aD.1 h).1]
theorem pC{f:Nat->Rat->Rat}(h:qs[i]? =some q):(iH i f qs).set i (f i q)=iH (i+1) f qs:=by
 apply bM;intro j;have hi:=(aD.1 h).1;by_cases Pt:i=j
 ·subst Pt;rw[aV (by simp[iH];exact hi)];simp[iH,List.getElem?_mapIdx,h]
 ·rw[aZ Pt];simp only[iH,List.getElem?_mapIdx]
  have:(j<i)↔(j<i+1):=by omega
  simp[this]
theorem Hc{f:Nat->Rat->Rat}(h:qs[i]? =some q)(hf:f i q=q):iH i f qs=iH (i+1) f qs:=by
 rw[<-pC h,hf];apply bM;intro j;have hi:=(aD.1 h).1;by_cases Pt:i=j
 ·subst Pt;rw[aV (by simp[iH];exact hi)];simp[iH,List.getElem?_mapIdx,h]
 ·rw[aZ Pt]
theorem BO{f:Nat->Rat->Rat}(h:qs[i]? =some q):(iH i f qs)[i]? =some q:=by
 simp only[iH,List.getElem?_mapIdx,h]
 simp
section
variable{C C' S S':Nat->Prop}{H:Hp}{nx:Nat}{iv iv':Iv}{B:Nat}{w w' w2:World}{O:Nat->Sx.di}{v:Value}{qs:List Rat}
end
end Go.Ex
namespace Go.Ex
variable{M:List (List Rat)}{s:List (List Rat)×List Nat}{h i n:Nat}
def dF(M:List (List Rat))(i c:Nat):Rat:=(M.getD i []).getD c 0
def ic(M:List (List Rat))(c:Nat):Nat->Nat->Nat
 |0,k=>k
 |f+1,k=>if dF M k c=0 then ic M c f (k+1)else k
def fW{α:Type}(d:α)(l:List α)(i j:Nat):List α:=(l.set i (l.getD j d)).set j (l.getD i d)
def ss(p:Rat)(ps:List Rat)(j:Nat)(q:Rat):Rat:=q+p*ps.getD j 0
def de(M:List (List Rat))(at_ c i:Nat):List (List Rat):=M.mapIdx fun j r=>if j<i∧j≠at_ then r.mapIdx (ss (-(r.getD c 0)) (M.getD at_ []))else r
def scaled(M:List (List Rat))(at_ c:Nat):List (List Rat):=M.set at_ ((M.getD at_ []).map (· *(1 / dF M at_ c)))
def db(s:List (List Rat)×List Nat)(c:Nat):List (List Rat)×List Nat:=
 if s.2.length<s.1.length then
  let k:=ic s.1 c (s.1.length-s.2.length) s.2.length
  if k=s.1.length then s else
   let M1:=scaled (fW [] s.1 s.2.length k) s.2.length c
   (de M1 s.2.length c M1.length,s.2++[c])
 else s
def cM(M:List (List Rat))(cols:Nat):List (List Rat)×List Nat:=(List.range cols).foldl db (M,[])
theorem jw{α:Type}(d:α)(l:List α)(i j:Nat):(fW d l i j).length=l.length:=by simp[fW]
theorem hJ(M:List (List Rat))(a c i:Nat):(de M a c i).length=M.length:=by simp[de]
theorem sC(M:List (List Rat))(a c:Nat):(scaled M a c).length=M.length:=by simp[scaled]
theorem o8(s:List (List Rat)×List Nat)(c:Nat):(db s c).1.length=s.1.length:=by
 unfold db;split
 ·dsimp only
  split
  ·rfl
  ·dsimp only
   rw[hJ,sC,jw]
 ·rfl
theorem zm(M:List (List Rat))(c:Nat):∀f k,k<=ic M c f k∧ic M c f k<=k+f
 |0,k=>⟨aF _,aF _⟩
 |f+1,k=>by
  unfold ic;split
  ·have:=zm M c f (k+1);omega
  ·omega
theorem zn(M:List (List Rat))(c:Nat):∀f k,ic M c f k<k+f->dF M (ic M c f k) c≠0
 |0,k,h=>by simp[ic]at h
 |f+1,k,h=>by
  unfold ic at h ⊢;split
  ·rename_i h0;rw[if_pos h0]at h;exact zn M c f (k+1) (by omega)
  ·rename_i h0;exact h0
theorem HQ{c f k:Nat}(h:dF M k c=0):ic M c (f+1) k=ic M c f (k+1):=by rw[ic,if_pos h]
theorem HR{c f k:Nat}(h:dF M k c≠0):ic M c (f+1) k=k:=by rw[ic,aK h]
theorem Dt(M:List (List Rat))(a c:Nat):de M a c 0=M:=by
 apply bM;intro j;simp[de]
theorem tA(M:List (List Rat))(a c i:Nat):(de M a c i)[a]? =M[a]? :=by
 simp only[de,List.getElem?_mapIdx]
 cases M[a]? <;>simp
theorem H5(M:List (List Rat))(a c i j:Nat)(h:i<=j):(de M a c i)[j]? =M[j]? :=by
 simp only[de,List.getElem?_mapIdx]
 cases M[j]? with
 |none=>rfl
 |some r=>simp;omega
theorem Du{a c:Nat}{r:List Rat}(h:M[i]? =some r)(OJ:i≠a):(de M a c i).set i (r.mapIdx (ss (-(r.getD c 0)) (M.getD a [])))=de M a c (i+1):=by
 apply bM;intro j;have hi:=(aD.1 h).1;by_cases Pt:i=j
 ·subst Pt;rw[aV (by rw[hJ];exact hi)];simp[de,List.getElem?_mapIdx,h,OJ]
 ·rw[aZ Pt];simp only[de,List.getElem?_mapIdx]
  have:(j<i)↔(j<i+1):=by omega
  simp[this]
theorem Dv(M:List (List Rat))(a c:Nat):de M a c a=de M a c (a+1):=by
 apply bM;intro j;simp only[de,List.getElem?_mapIdx]
 have:(j<a∧j≠a)↔(j<a+1∧j≠a):=by omega
 simp[this]
def Ht(M:List (List Rat))(h:Nat):Prop:=∀r∈M,∀q∈r,rl q+1<=h
theorem Ht.at{r:List Rat}(H:Ht M h)(hi:M[i]? =some r):∀q∈r,rl q+1<=h:=H r (aC hi)
theorem Ht.swap{j:Nat}(H:Ht M h)(hi:i<M.length)(hj:j<M.length):Ht (fW [] M i j) h:=by
 intro r hr;have:r∈M:=by
  unfold fW at hr;rcases bF hr with h1|h1
  ·rcases bF h1 with h2|h2
   ·exact h2
   ·rw[h2,List.getD,aB hj];exact aX hj
  ·rw[h1,List.getD,aB hi];exact aX hi
 exact H r this
theorem Lg:rl 1=1:=by decide
theorem aAX{q:Rat}(h:q≠0):rl (1 / q)<=rl q+1:=by
 have:=La 1 h;rw[Lg]at this;omega
theorem Io{r:List Rat}(H:∀q∈r,rl q+1<=h)(h2:2<=h)(c:Nat):rl (r.getD c 0)+1<=h:=by
 rw[List.getD]
 cases hc:r[c]? with
 |none=>simp;exact aY (by decide) h2
 |some q=>simp;exact H q (aC hc)
theorem Ce{j:Nat}(hi:i<M.length)(hj:j<M.length):(fW [] M i j)[i]? =M[j]? :=by
 unfold fW;by_cases h:j=i
 ·subst h;rw[aV (by simpa using hi),List.getD,aB hi];rfl
 ·rw[aZ h,aV hi,List.getD,aB hj];rfl
theorem FT{j c:Nat}(hi:i<M.length)(hj:j<M.length):dF (fW [] M i j) i c=dF M j c:=by
 simp only[dF,List.getD,Ce hi hj]
def fZ(n:Nat)(M:List (List Rat)):Prop:=∀r∈M,r.length=n
theorem fZ.set{r:List Rat}(h:fZ n M)(hr:r.length=n):fZ n (M.set i r):=fun x hx=>by
 rcases bF hx with h1|h1
 ·exact h x h1
 ·rw[h1];exact hr
theorem fZ.getD(h:fZ n M)(hi:i<M.length):(M.getD i []).length=n:=by
 rw[List.getD,aB hi];exact h _ (aX hi)
theorem fZ.step{c:Nat}(h:fZ n s.1):fZ n (db s c).1:=by
 unfold db;split
 ·rename_i Oc;dsimp only
  split
  ·exact h
  ·rename_i hk;have hle:=zm s.1 c (s.1.length-s.2.length) s.2.length;have Uo:ic s.1 c (s.1.length-s.2.length) s.2.length<s.1.length:=by omega
   dsimp only
   generalize ic s.1 c (s.1.length-s.2.length) s.2.length=k at*
   have h1:fZ n (fW [] s.1 s.2.length k):=(h.set (h.getD Uo)).set (h.getD Oc);have h2:fZ n (scaled (fW [] s.1 s.2.length k) s.2.length c):=h1.set (by rw[aJ];exact h1.getD (by rw[jw];exact Oc));intro r hr;obtain⟨j,hj⟩:=aR hr;simp only[de,List.getElem?_mapIdx,Option.map_eq_some_iff]at hj;obtain⟨r0,hr0,hj⟩:=hj;have h3:=h2 r0 (aC hr0);split at hj
   ·subst hj;rw[List.length_mapIdx];exact h3
   ·subst hj;exact h3
 ·exact h
theorem xe{cols:Nat}(h:fZ n M):fZ n (cM M cols).1:=by
 have key:∀(l:List Nat) (s:List (List Rat)×List Nat),fZ n s.1->fZ n (l.foldl db s).1:=by
  intro l
  induction l with
  |nil=>intro s hs;exact hs
  |cons c r ih=>intro s hs;exact ih _ hs.step
 exact key _ _ h
end Go.Ex
namespace Go.Ex
open Go Go.Sx Go.Proofs
structure aAx(w:World)(S:Nat->Prop)(vm:Value)(rv:List Value)(n:Nat)(M:List (List Rat)):Prop where
 out:w.ownsRow 0 T.row 1 vm rv.length rv
 len:rv.length=M.length
 row:∀(i:Nat) v qs,rv[i]? =some v->M[i]? =some qs->∃css,w.ownsRow 0 T.Fx 4 v n css.flatten∧css.length=n∧Fr w S css qs
 Bj:∀(i j:Nat) a b g,rv[i]? =some a->rv[j]? =some b->a.ownBlock=some g->b.ownBlock=some g->i=j
 aB9:∀v∈rv,∀g,v.ownBlock=some g->vm.ownBlock≠some g
def Mb(vm:Value)(rv:List Value)(g:Nat):Prop:=vm.ownBlock=some g∨∃v∈rv,v.ownBlock=some g
structure Kept(w w2:World)(X:Nat->Prop):Prop where
 os:w2.os=w.os
 tape:w2.tape=w.tape
 output:w2.output=w.output
 size:w.heap.size<=w2.heap.size
 block:∀k,k<w.heap.size->¬X k->w2.heap[k]? =w.heap[k]?
section
variable{S S' X:Nat->Prop}{H:Hp}{nx n:Nat}{iv iv':Iv}{B:Nat}{w w' w2 w3:World}{O:Nat->Sx.di}{vm:Value}{rv:List Value}{M:List (List Rat)}
end
end Go.Ex
namespace Go.Sx
open Go Go.Ex Go.Proofs
variable{O:Nat->Sx.di}{row:Option Nat}
theorem Rel.GJ{H:Hp}{nx:Nat}{iv:Iv}{B:Nat}{w w' w2:World}(r:Rel H nx iv B w O w')(OJ:∀g,row=some g->∀id b,dE H id=some b->(O id).nil=false->(O id).g≠g)(h:w'.grownBy w2 row):Rel H nx ((w'.heap.size,w2.heap.size)::iv) B w2 O w2:=
 r.FC h.size (fun id b hb hn=>h.block _ (r.low id b hb hn).2 fun e=>OJ _ e.symm id b hb hn rfl) fun lo hi hm=>by
  rcases List.mem_cons.1 hm with e|hm
  ·injection e with e1 e2;subst e1 e2;exact⟨aF _,fun id b hb hn=>by have:=(r.low id b hb hn).2;omega⟩
  ·exact⟨by have:=r.po lo hi hm;have:=r.size;have:=h.size;omega,fun id b hb hn=>r.kT lo hi hm id b hb hn⟩
end Go.Sx
namespace Go.Ex
open Go Go.Sx Go.Proofs
end Go.Ex
namespace Go.Ex
open Go Go.Sx Go.Proofs
end Go.Ex
namespace Go.Sx
open Go Go.Ex Go.Proofs
variable{O:Nat->Sx.di}
theorem Sub.nil{B nx:Nat}{l:Env}{H:Hp}{iv:Iv}{w w':World}{t:z6}(u e sz:Nat)(h9:fT l u=some (sV none 0 0))(SZ:jQ nx l)(r:Rel H nx iv B w O w')
  (h:∀ρ1,Rel ((nx,.vec e sz [])::H) (nx+1) iv B w ρ1 w'->Sx.Sub B ((u,.o (.w nx 0))::l) (nx+1) ρ1 w' t):Sx.Sub B l nx O w' t:=by
 have r1:=r.push (.vec e sz []) ⟨0,0,true⟩ (w2:=w') rfl rfl rfl (aF _) (fun _ _=>rfl) (fun h=>by cases h) (.inl ⟨rfl,rfl⟩) trivial;obtain⟨ρ',h1,h2⟩:=h _ r1;refine⟨ρ',h1,fun x v hv=>?_⟩;obtain⟨h3,v0,h4,h5⟩:=h2 x v hv;refine⟨h3,?_⟩;rw[eX]at h4;split at h4
 ·rename_i e;subst e;injection h4 with h4;subst h4;refine⟨_,h9,?_⟩;rw[<-h5];simp[SV.den,At.den,eR]
 ·refine⟨v0,h4,?_⟩;rw[<-h5];exact SV.jg (fun id Ox=>gG id Ox) (SZ.get _ _ h4)
end Go.Sx
namespace Go.Ex
open Go Go.Sx Go.Proofs
structure aB6(w:World)(S:Nat->Prop)(rv:List Value)(n:Nat)(M:List (List Rat))(gm k c g ck:Nat)(q:Rat)(d1:Bool)(e1:Option Addr)(m1 k1:Nat)(d2:Bool)(e2:Option Addr)(m2 k2:Nat):Prop where
 rv:rv[k]? =some (.slice (some ⟨g,0,none⟩) n ck)
 at_:dF M k c=q
 aBa:dW w S (.agg #[.bool d1,.slice e1 m1 k1,.bool d2,.slice e2 m2 k2]) q
 outer:w.cell? (Addr.add ⟨gm,0,none⟩ (k*1))=some (.slice (some ⟨g,0,none⟩) n ck)
 cells:∀j u,[Value.bool d1,.slice e1 m1 k1,.bool d2,.slice e2 m2 k2][j]? =some u->w.cell? ((Addr.add ⟨g,0,none⟩ (c*4)).add j)=some u
theorem Nh{α:Type}{xs:List α}{j:Nat}{v:α}(h:j<xs.length):xs.take (j*1)++[v]++xs.drop (j*1+1)=xs.set j v:=by
 rw[aU,List.set_eq_take_append_cons_drop,if_pos h];simp
end Go.Ex
namespace Go.Ex
open Go Go.Sx Go.Proofs
variable{x:Int×Int}{xs:List (Int×Int)}{M:List (List (Int×Int))}{A:List (List Rat)}{ps pv:List Nat}{cs:List Value}{S:Nat->Prop}{v:Value}{w:World}
def aAf(w:World)(S:Nat->Prop)(v:Value)(n:Nat)(qs:List Rat):Prop:=∃css,w.ownsRow 0 T.Fx 4 v n css.flatten∧css.length=n∧Fr w S css qs
section
variable{S S' C:Nat->Prop}{H:Hp}{nx n:Nat}{iv iv':Iv}{B:Nat}{w w' w2:World}{O:Nat->Sx.di}{v:Value}{qs:List Rat}
structure aBb(w:World)(S:Nat->Prop)(B:Nat)(iv:Iv)(v:Value)(n:Nat)(qs:List Rat):Prop where
 row:aAf w (fun g=>Cv S B iv g∧v.ownBlock≠some g) v n qs
 new:∀g,v.ownBlock=some g->Cv FF B iv g
def Eh(w:World)(S:Nat->Prop)(cs:List Value)(x:Int×Int):Prop:=∃b a n c b2 a2 n2 c2,cs=[.bool b,.slice a n c,.bool b2,.slice a2 n2 c2]∧iU w S (.agg #[.bool b,.slice a n c,.bool b2,.slice a2 n2 c2]) x.1 x.2
theorem Eh.cI(h:Eh w S cs x)(hk:∀g,S g->w2.heap[g]? =w.heap[g]?):Eh w2 S cs x:=by
 obtain⟨b,a,n,c,b2,a2,n2,c2,h1,h2⟩:=h;exact⟨b,a,n,c,b2,a2,n2,c2,h1,h2.cI hk⟩
theorem Eh.cJ(h:Eh w S cs x)(hk:∀g,S g->S' g):Eh w S' cs x:=by
 obtain⟨b,a,n,c,b2,a2,n2,c2,h1,h2⟩:=h;exact⟨b,a,n,c,b2,a2,n2,c2,h1,h2.cJ hk⟩
def dH{α:Type}(P:World->(Nat->Prop)->List Value->α->Prop)(w:World)(S:Nat->Prop)(v:Value)(xs:List α):Prop:=
 ∃css:List (List Value),gO w S 4 v css.flatten xs.length∧css.length=xs.length∧(∀cs∈css,cs.length=4)∧∀(j:Nat) cs x,css[j]? =some cs->xs[j]? =some x->P w S cs x
abbrev qw:=dH Eh
theorem qw.cI(h:qw w S v xs)(hk:∀g,S g->w2.heap[g]? =w.heap[g]?):qw w2 S v xs:=by
 obtain⟨css,h1,h2,h3,h4⟩:=h;exact⟨css,h1.cI hk,h2,h3,fun j cs x k1 k2=>(h4 j cs x k1 k2).cI hk⟩
theorem qw.cJ(h:qw w S v xs)(hk:∀g,S g->S' g):qw w S' v xs:=by
 obtain⟨css,h1,h2,h3,h4⟩:=h;exact⟨css,h1.cJ hk,h2,h3,fun j cs x k1 k2=>(h4 j cs x k1 k2).cJ hk⟩
theorem dH.shape{α:Type}{P:World->(Nat->Prop)->List Value->α->Prop}{xs:List α}(h:dH P w S v xs):∃a c,v= .slice a xs.length c∧xs.length<=c∧xs.length<=maxLen:=by
 obtain⟨css,⟨h0,_,_,a,c,h1,h2,_⟩,_⟩:=h;exact⟨a,c,h1,h2,h0⟩
theorem dH.load{α:Type}{P:World->(Nat->Prop)->List Value->α->Prop}{xs:List α}{a:Option Addr}{m c j:Nat}{x:α}(h:dH P w S (.slice a m c) xs)(hq:xs[j]? =some x):
  ∃ad cs,a=some ad∧P w S cs x∧cs.length=4∧∀k u,cs[k]? =some u->S ad.block∧w.cell? ((ad.add (j*4)).add k)=some u:=by
 obtain⟨css,⟨h0,h1,h2,a',c',e,h3,h4⟩,hl,hl4,hf⟩:=h;injection e with e1 e2 e3;subst e1;obtain⟨cs,PE⟩:∃cs,css[j]? =some cs:=⟨_,aB (by rw[hl];exact(aD.1 hq).1)⟩
 have hF:=hf j cs x PE hq;have Se:=hl4 cs (aC PE);obtain⟨ad,k1,k2,k3⟩:=h4 (j*4+0) _ (flat_get hl4 PE 0 _ (aB (show 0<cs.length by omega)));refine⟨ad,cs,k1,hF,Se,fun k u hu=>?_⟩;obtain⟨ad2,m1,m2,m3⟩:=h4 (j*4+k) u (flat_get hl4 PE k u hu);rw[k1]at m1;injection m1 with m1;subst m1;refine⟨m2,?_⟩;rw[<-m3];have:(ad.add (j*4)).add k=ad.add (j*4+k):=by
  unfold Addr.add;split<;>split<;>simp_all<;>omega
 rw[this]
def c9{α:Type}(P:World->(Nat->Prop)->Value->α->Prop)(w:World)(S:Nat->Prop)(v:Value)(M:List α):Prop:=
 ∃rv,gO w S 1 v rv M.length∧rv.length=M.length∧∀(i:Nat) u x,rv[i]? =some u->M[i]? =some x->P w S u x
theorem c9.shape{α:Type}{P:World->(Nat->Prop)->Value->α->Prop}{xs:List α}(h:c9 P w S v xs):∃a c,v= .slice a xs.length c∧xs.length<=c∧xs.length<=maxLen:=by
 obtain⟨rv,⟨h0,_,_,a,c,h1,h2,_⟩,_⟩:=h;exact⟨a,c,h1,h2,h0⟩
theorem c9.load{α:Type}{P:World->(Nat->Prop)->Value->α->Prop}{xs:List α}{a:Option Addr}{m c j:Nat}{x:α}(h:c9 P w S (.slice a m c) xs)(hq:xs[j]? =some x):
  ∃ad u,a=some ad∧P w S u x∧S ad.block∧w.cell? (ad.add (j*1))=some u:=by
 obtain⟨rv,⟨h0,h1,h2,a',c',e,h3,h4⟩,hl,hf⟩:=h;injection e with e1 e2 e3;subst e1;obtain⟨u,hu⟩:∃u,rv[j]? =some u:=⟨_,aB (by rw[hl];exact(aD.1 hq).1)⟩
 obtain⟨ad,k1,k2,k3⟩:=h4 j u hu;exact⟨ad,u,k1,hf j u x hu hq,k2,by rw[aU];exact k3⟩
abbrev jP:=c9 qw
theorem jP.cI(h:jP w S v M)(hk:∀g,S g->w2.heap[g]? =w.heap[g]?):jP w2 S v M:=by
 obtain⟨rv,h1,h2,h3⟩:=h;exact⟨rv,h1.cI hk,h2,fun i u x k1 k2=>qw.cI (h3 i u x k1 k2) hk⟩
theorem jP.cJ(h:jP w S v M)(hk:∀g,S g->S' g):jP w S' v M:=by
 obtain⟨rv,h1,h2,h3⟩:=h;exact⟨rv,h1.cJ hk,h2,fun i u x k1 k2=>qw.cJ (h3 i u x k1 k2) hk⟩
end
section
variable{S S':Nat->Prop}{H:Hp}{nx:Nat}{iv iv':Iv}{B:Nat}{w w' w2:World}{O:Nat->Sx.di}{v:Value}{xs:List (Int×Int)}
end
section
variable{S S':Nat->Prop}{H:Hp}{nx:Nat}{iv iv':Iv}{B:Nat}{w w' w2:World}{O:Nat->Sx.di}{v:Value}{M:List (List (Int×Int))}
theorem jP.rel(h:jP w (Cv S B iv) v M)(r:Rel H nx iv B w O w')(hS:∀g,S g->g<B):jP w' (Cv S B iv) v M:=jP.cI h fun _ hg=>Rel.same r hS hg
theorem jP.arg(h:jP w S v M)(iv:Iv):jP w (Cv S w.heap.size iv) v M:=jP.cJ h fun _ h=>.inl h
end
section
variable{S S':Nat->Prop}{H:Hp}{nx:Nat}{iv iv':Iv}{B:Nat}{w w' w2:World}{O:Nat->Sx.di}{v:Value}{M:List (List Rat)}
end
def eU{α:Type}:List (List α)->Nat
 |[]=>0
 |r::_=>r.length
theorem c9.M0(h:qw w S v xs):∃a c,v= .slice a xs.length c:=by
 obtain⟨a,c,h,_⟩:=dH.shape h;exact⟨a,c,h⟩
def f0:List Value:=[.bool false,.slice none 0 0,.bool false,.slice none 0 0]
structure aBc(w:World)(S:Nat->Prop)(n i:Nat)(css:List (List Value))(qs:List Rat):Prop where
 len:css.length=n
 four:∀cs∈css,cs.length=4
 one:∀cs∈css,∀u∈cs,u.oneCell'=true
 at_:∀(j:Nat) cs q,j<i->css[j]? =some cs->qs[j]? =some q->OH w S cs q
section
variable{S S':Nat->Prop}{H:Hp}{nx n i:Nat}{iv iv':Iv}{B:Nat}{w w1 w' w2:World}{O:Nat->Sx.di}{css:List (List Value)}{qs:List Rat}
end
def iQ(x:Int×Int):Rat:=ratio x.1 x.2
structure aB7(w:World)(S:Nat->Prop)(B:Nat)(iv:Iv)(rv:List Value)(n:Nat)(M:List (List Rat)):Prop where
 len:rv.length=M.length
 row:∀(i:Nat) v qs,rv[i]? =some v->M[i]? =some qs->aAf w (fun g=>Cv S B iv g∧¬ ∃u∈rv,u.ownBlock=some g) v n qs
 Bj:∀(i j:Nat) a b g,rv[i]? =some a->rv[j]? =some b->a.ownBlock=some g->b.ownBlock=some g->i=j
 new:∀v∈rv,∀g,v.ownBlock=some g->Cv FF B iv g
theorem gg(B:Nat):∀g,(fun _:Nat=>False) g->g<B:=fun _ h=>h.elim
theorem yE{B:Nat}{iv:Iv}{g:Nat}(h:Cv FF B iv g):Cv S B iv g:=h.elim (fun h=>h.elim) .inr
section
variable{S S':Nat->Prop}{H:Hp}{nx n i:Nat}{iv iv':Iv}{B:Nat}{w w1 w' w2:World}{O:Nat->Sx.di}{rv:List Value}{M:List (List Rat)}
structure aBd(w:World)(S:Nat->Prop)(B:Nat)(iv:Iv)(vm:Value)(n:Nat)(M:List (List Rat)):Prop where
 ex:∃rv,aAx w (fun g=>Cv S B iv g∧¬Mb vm rv g) vm rv n M∧∀g,Mb vm rv g->Cv FF B iv g
end
def dC(w:World)(S:Nat->Prop)(v:Value)(ps:List Nat):Prop:=gO w S 1 v (ps.map fun c:Nat=>.int .i64 (c:Int)) ps.length
theorem dC.cI{w2:World}(h:dC w S v ps)(hk:∀g,S g->w2.heap[g]? =w.heap[g]?):dC w2 S v ps:=gO.cI h hk
theorem dC.cJ{S':Nat->Prop}(h:dC w S v ps)(hk:∀g,S g->S' g):dC w S' v ps:=gO.cJ h hk
section
variable{S S':Nat->Prop}{H:Hp}{nx:Nat}{iv iv':Iv}{B:Nat}{w w' w2:World}{O:Nat->Sx.di}{v:Value}{ps:List Nat}
theorem dC.rel(h:dC w (Cv S B iv) v ps)(r:Rel H nx iv B w O w')(hS:∀g,S g->g<B):dC w' (Cv S B iv) v ps:=dC.cI h fun _ hg=>Rel.same r hS hg
theorem dC.cG(h:dC w (Cv S B iv) v ps)(r:Rel H nx iv B w O w')(hS:∀g,S g->g<B)(he:Ext w' w2)(hm:∀p,p∈iv->p∈iv'):dC w2 (Cv S B iv') v ps:=
 dC.cJ (dC.cI (dC.rel h r hS) fun g hg=>he.block g (Rel.old r hS g hg)) fun _ hg=>hg.mono hm
theorem dC.dB(h:dC w2 (Nf w' w2) v ps)(hB:B<=w'.heap.size)(hm:(w'.heap.size,w2.heap.size)∈iv):dC w2 (Cv S B iv) v ps:=dC.cJ h fun _ hg=>hg.dB hB hm
end
section
variable{S S':Nat->Prop}{H:Hp}{nx n:Nat}{iv iv':Iv}{B:Nat}{w w' w2:World}{O:Nat->Sx.di}{v:Value}{qs:List Rat}
end
def fo(A:List (List Rat))(pv:List Nat)(cols c i:Nat):List Rat:=(List.range i).foldl (fun x i=>x.set (pv.getD i 0) (-(dF A i c))) ((List.replicate cols 0).set c 1)
def eE(A:List (List Rat))(pv:List Nat)(cols c:Nat):List (List Rat):=((List.range c).filter fun c=>decide (c∉pv)).map fun c=>fo A pv cols c pv.length
theorem gX(A:List (List Rat))(pv:List Nat)(cols c i:Nat):fo A pv cols c (i+1)=(fo A pv cols c i).set (pv.getD i 0) (-(dF A i c)):=by
 rw[fo,bT,List.foldl_append];rfl
theorem k9(A:List (List Rat))(pv:List Nat)(cols c i:Nat):(fo A pv cols c i).length=cols:=by
 induction i with
 |zero=>simp[fo]
 |succ i ih=>rw[gX,ah,ih]
theorem yF{cols c:Nat}(h:c∈pv):eE A pv cols (c+1)=eE A pv cols c:=by
 rw[eE,bT,List.filter_append];simp[h,eE]
theorem vL{cols c:Nat}(h:c∉pv):eE A pv cols (c+1)=eE A pv cols c++[fo A pv cols c pv.length]:=by
 rw[eE,bT,List.filter_append];simp[h,eE]
abbrev fY(M:List (List (Int×Int))):List (List Rat):=M.map fun r=>r.map iQ
def gA(A:List (List Rat))(pv:List Nat)(cols i:Nat):List Rat:=(List.range i).foldl (fun x i=>x.set (pv.getD i 0) (dF A i cols)) (List.replicate cols 0)
theorem gY(A:List (List Rat))(pv:List Nat)(cols i:Nat):gA A pv cols (i+1)=(gA A pv cols i).set (pv.getD i 0) (dF A i cols):=by
 rw[gA,bT,List.foldl_append];rfl
structure aB8(w:World)(B:Nat)(iv:Iv)(rv:List Value)(v:Value)(n:Nat)(qs:List Rat):Prop where
 row:aAf w (fun g=>(Cv FF B iv g∧¬ ∃u∈rv,u.ownBlock=some g)∧v.ownBlock≠some g) v n qs
 zU:∀g,v.ownBlock=some g->Cv FF B iv g
section
variable{H:Hp}{nx n:Nat}{iv iv':Iv}{B:Nat}{w w' w2:World}{O:Nat->Sx.di}{v:Value}{qs:List Rat}{rv:List Value}
end
def iB(w:World)(S:Nat->Prop)(cs:List Value)(q:Rat):Prop:=∃b a n c b2 a2 n2 c2,cs=[.bool b,.slice a n c,.bool b2,.slice a2 n2 c2]∧cS w S (.agg #[.bool b,.slice a n c,.bool b2,.slice a2 n2 c2]) q
abbrev cN:=dH iB
abbrev cR:=c9 cN
section
variable{S S':Nat->Prop}{H:Hp}{nx:Nat}{iv iv':Iv}{B:Nat}{w w' w2:World}{O:Nat->Sx.di}{v:Value}{qs:List Rat}{cs:List Value}{q:Rat}
theorem iB.cI(h:iB w S cs q)(hk:∀g,S g->w2.heap[g]? =w.heap[g]?):iB w2 S cs q:=by
 obtain⟨b,a,n,c,b2,a2,n2,c2,h1,h2⟩:=h;exact⟨b,a,n,c,b2,a2,n2,c2,h1,h2.cI hk⟩
theorem iB.cJ(h:iB w S cs q)(hk:∀g,S g->S' g):iB w S' cs q:=by
 obtain⟨b,a,n,c,b2,a2,n2,c2,h1,h2⟩:=h;exact⟨b,a,n,c,b2,a2,n2,c2,h1,h2.cJ hk⟩
theorem cN.cI(h:cN w S v qs)(hk:∀g,S g->w2.heap[g]? =w.heap[g]?):cN w2 S v qs:=by
 obtain⟨css,h1,h2,h3,h4⟩:=h;exact⟨css,h1.cI hk,h2,h3,fun j cs x k1 k2=>(h4 j cs x k1 k2).cI hk⟩
theorem cN.cJ(h:cN w S v qs)(hk:∀g,S g->S' g):cN w S' v qs:=by
 obtain⟨css,h1,h2,h3,h4⟩:=h;exact⟨css,h1.cJ hk,h2,h3,fun j cs x k1 k2=>(h4 j cs x k1 k2).cJ hk⟩
theorem cR.cI{M:List (List Rat)}(h:cR w S v M)(hk:∀g,S g->w2.heap[g]? =w.heap[g]?):cR w2 S v M:=by
 obtain⟨rv,h1,h2,h3⟩:=h;exact⟨rv,h1.cI hk,h2,fun i u x k1 k2=>cN.cI (h3 i u x k1 k2) hk⟩
theorem cR.cJ{M:List (List Rat)}(h:cR w S v M)(hk:∀g,S g->S' g):cR w S' v M:=by
 obtain⟨rv,h1,h2,h3⟩:=h;exact⟨rv,h1.cJ hk,h2,fun i u x k1 k2=>cN.cJ (h3 i u x k1 k2) hk⟩
end
section
variable{S S':Nat->Prop}{H:Hp}{nx:Nat}{iv iv':Iv}{B:Nat}{w w' w2:World}{O:Nat->Sx.di}{v:Value}{qs:List Rat}
theorem cN.rel(h:cN w (Cv S B iv) v qs)(r:Rel H nx iv B w O w')(hS:∀g,S g->g<B):cN w' (Cv S B iv) v qs:=cN.cI h fun _ hg=>Rel.same r hS hg
theorem cN.cG(h:cN w (Cv S B iv) v qs)(r:Rel H nx iv B w O w')(hS:∀g,S g->g<B)(he:Ext w' w2)(hm:∀p,p∈iv->p∈iv'):cN w2 (Cv S B iv') v qs:=
 cN.cJ (cN.cI (cN.rel h r hS) fun g hg=>he.block g (Rel.old r hS g hg)) fun _ hg=>hg.mono hm
theorem cN.dB(h:cN w2 (Nf w' w2) v qs)(hB:B<=w'.heap.size)(hm:(w'.heap.size,w2.heap.size)∈iv):cN w2 (Cv S B iv) v qs:=cN.cJ h fun _ hg=>hg.dB hB hm
theorem cN.out{w0 w1:World}(h:cN w1 (Cv S w0.heap.size iv) v qs)(r:Rel H nx iv w0.heap.size w1 O w')(hS:Old S w0):cN w' (Nw S w0 w') v qs:=
 cN.cJ (cN.rel h r hS) fun _ hg=>Cv.nw hg r
end
section
variable{S S':Nat->Prop}{H:Hp}{nx:Nat}{iv iv':Iv}{B:Nat}{w w' w2:World}{O:Nat->Sx.di}{v:Value}{M:List (List Rat)}
theorem cR.rel(h:cR w (Cv S B iv) v M)(r:Rel H nx iv B w O w')(hS:∀g,S g->g<B):cR w' (Cv S B iv) v M:=cR.cI h fun _ hg=>Rel.same r hS hg
theorem cR.cG(h:cR w (Cv S B iv) v M)(r:Rel H nx iv B w O w')(hS:∀g,S g->g<B)(he:Ext w' w2)(hm:∀p,p∈iv->p∈iv'):cR w2 (Cv S B iv') v M:=
 cR.cJ (cR.cI (cR.rel h r hS) fun g hg=>he.block g (Rel.old r hS g hg)) fun _ hg=>hg.mono hm
theorem cR.dB(h:cR w2 (Nf w' w2) v M)(hB:B<=w'.heap.size)(hm:(w'.heap.size,w2.heap.size)∈iv):cR w2 (Cv S B iv) v M:=cR.cJ h fun _ hg=>hg.dB hB hm
theorem cR.old(h:cR w2 (Nw (Cv S B iv) w' w2) v M)(hB:B<=w'.heap.size):cR w2 (Cv S B ((w'.heap.size,w2.heap.size)::iv)) v M:=cR.cJ h fun _ hg=>Nw.cv hg hB
end
theorem jU(A:List (List Rat))(pv:List Nat)(cols i:Nat):(gA A pv cols i).length=cols:=by
 induction i with
 |zero=>simp[gA]
 |succ i ih=>rw[gY,ah,ih]
theorem GL(A:List (List Rat))(pv:List Nat)(cols c:Nat):(eE A pv cols c).length<=c:=by
 unfold eE;rw[aJ];exact aY (List.length_filter_le _ _) (by simp)
end Go.Ex
namespace Go.Ex
variable{ds l:List Nat}
def dR:List Int->Int
 |[]=>0
 |c::r=>c+65536*dR r
def up(k:Nat):Int:=65536^k
theorem Dw(k:Nat):up (k+1)=65536*up k:=by rw[up,Int.pow_succ,Int.mul_comm];rfl
theorem Lh(k:Nat):0<up k:=Int.pow_pos (by decide)
theorem Bq(a b:List Int):dR (a++b)=dR a+up a.length*dR b:=by
 induction a with
 |nil=>simp[dR,up]
 |cons c r ih=>rw[List.cons_append,dR,ih,dR,List.length_cons,Dw,Int.mul_add,<-Int.mul_assoc];omega
theorem H6(a:List Int):dR (a.map (- ·))= -dR a:=by
 induction a with
 |nil=>rfl
 |cons c r ih=>rw[List.map_cons,dR,ih,dR];omega
def Dg(l:List Nat):Prop:=∀d∈l,d<65536
def mc(l:List Nat):Int:=dR (l.map fun d:Nat=>(d:Int))
theorem AZ(h:Dg l):0<=mc l∧mc l<up l.length:=by
 induction l with
 |nil=>exact⟨Int.le_refl _,by decide⟩
 |cons d r ih=>
  have h1:=ih fun x hx=>h x (List.mem_cons_of_mem _ hx);have h2:=h d aG;have e:mc (d::r)=(d:Int)+65536*mc r:=rfl;rw[e,List.length_cons,Dw];omega
def dc:List Int->Int->List Nat×Int
 |[],k=>([],k)
 |c::r,k=>(((c+k) % 65536).toNat::(dc r ((c+k) / 65536)).1,(dc r ((c+k) / 65536)).2)
theorem lT:∀(cs:List Int) (k:Int),dR cs+k=mc (dc cs k).1+up cs.length*(dc cs k).2∧Dg (dc cs k).1∧(dc cs k).1.length=cs.length
 |[],k=>⟨by simp[dR,dc,mc,up],by simp[dc,Dg],rfl⟩
 |c::r,k=>by
  obtain⟨h1,h2,h3⟩:=lT r ((c+k) / 65536);have h4:0<=(c+k) % 65536:=Int.emod_nonneg _ (by decide);have h5:(c+k) % 65536<65536:=Int.emod_lt_of_pos _ (by decide);have h6:=Int.mul_ediv_add_emod (c+k) 65536;refine⟨?_,fun d hd=>?_,by simp[dc,h3]⟩
  ·have e:mc (dc (c::r) k).1=(((c+k) % 65536).toNat:Int)+65536*mc (dc r ((c+k) / 65536)).1:=rfl;have e2:(dc (c::r) k).2=(dc r ((c+k) / 65536)).2:=rfl;rw[e,e2,dR,List.length_cons,Dw,Int.mul_assoc];omega
  ·have e:(dc (c::r) k).1=((c+k) % 65536).toNat::(dc r ((c+k) / 65536)).1:=rfl;rw[e]at hd;rcases List.mem_cons.1 hd with rfl|hd
   ·omega
   ·exact h2 d hd
theorem Dx(cs:List Int)(c k:Int):dc (cs++[c]) k=((dc cs k).1++[((c+(dc cs k).2) % 65536).toNat],(c+(dc cs k).2) / 65536):=by
 induction cs generalizing k with
 |nil=>rfl
 |cons d r ih=>simp only[List.cons_append,dc,ih]
theorem ke:∀(cs:List Int) (k:Int),(∀c∈cs,-1152921504606846976<=c∧c<=1152921504606846976)-> -1152921504606846976<=k->k<=1152921504606846976-> -1152921504606846976<=(dc cs k).2∧(dc cs k).2<=1152921504606846976
 |[],k,_,h1,h2=>⟨h1,h2⟩
 |c::r,k,h,h1,h2=>by
  have hc:=h c aG;exact ke r _ (fun x hx=>h x (List.mem_cons_of_mem _ hx)) (by omega) (by omega)
def dN(n:Nat):List Nat:=if h:n=0 then []else n % 65536::dN (n / 65536)
termination_by n
decreasing_by omega
theorem lV:dN 0=[]:=by rw[dN];rfl
theorem qI{n:Nat}(h:0<n):dN n=n % 65536::dN (n / 65536):=by
 rw[dN,dif_neg (by omega)]
theorem lW(n:Nat):mc (dN n)=n∧Dg (dN n):=by
 induction n using Nat.strongRecOn with
 |_ n ih=>
  rcases bJ n with h|h
  ·subst h;rw[lV];exact⟨rfl,by simp[Dg]⟩
  ·rw[qI h];obtain⟨h1,h2⟩:=ih (n / 65536) (by omega);refine⟨?_,fun d hd=>?_⟩
   ·have e:mc (n % 65536::dN (n / 65536))=((n % 65536:Nat):Int)+65536*mc (dN (n / 65536)):=rfl;rw[e,h1];omega
   ·rcases List.mem_cons.1 hd with rfl|hd
    ·omega
    ·exact h2 d hd
theorem jk{n:Nat}:∀{k:Nat},n<65536^k->(dN n).length<=k
 |0,h=>by
  have:n=0:=by simp at h;exact h
  subst this;rw[lV];simp
 |k+1,h=>by
  rcases bJ n with h0|h0
  ·subst h0;rw[lV];simp
  ·rw[qI h0,List.length_cons];have:=jk (n:=n / 65536) (k:=k) (by rw[Nat.pow_succ]at h;exact Nat.div_lt_of_lt_mul (by rw[bX];exact h));omega
def iA:List Nat->List Nat
 |[]=>[]
 |[a]=>[a]
 |a::b::r=>(a+65536*b)::iA r
theorem Aa:∀(l:List Nat),Dg l->(val (iA l):Int)=mc l∧Lm (iA l)∧(iA l).length=(l.length+1) / 2
 |[],_=>⟨rfl,by simp[iA,Lm],rfl⟩
 |[a],h=>by
  have:=h a (by simp);exact⟨by simp[iA,val,mc,dR],fun x hx=>by simp[iA]at hx;omega,by simp[iA]⟩
 |a::b::r,h=>by
  obtain⟨h1,h2,h3⟩:=Aa r fun x hx=>h x (List.mem_cons_of_mem _ (List.mem_cons_of_mem _ hx));have ha:=h a (by simp);have hb:=h b (by simp);refine⟨?_,fun x hx=>?_,?_⟩
  ·have e:mc (a::b::r)=(a:Int)+65536*((b:Int)+65536*mc r):=rfl;rw[e,<-h1,iA,val];simp only[Int.natCast_add,Int.natCast_mul]
   omega
  ·rw[iA]at hx;rcases List.mem_cons.1 hx with rfl|hx
   ·omega
   ·exact h2 x hx
  ·rw[iA,List.length_cons,h3];simp only[List.length_cons]
   omega
def pk(ds:List Nat)(k:Nat):List Nat:=(List.range k).map fun i=>ds.getD (2*i) 0+65536*ds.getD (2*i+1) 0
theorem zH(ds:List Nat)(k:Nat):pk ds (k+1)=pk ds k++[ds.getD (2*k) 0+65536*ds.getD (2*k+1) 0]:=by simp[pk,bT]
theorem wO(ds:List Nat)(k:Nat):(pk ds k).length=k:=by simp[pk]
theorem Li:∀(ds:List Nat),pk ds ((ds.length+1) / 2)=iA ds
 |[]=>rfl
 |[a]=>by simp[pk,iA,bT]
 |a::b::r=>by
  have ih:=Li r;have e:((a::b::r).length+1) / 2=(r.length+1) / 2+1:=by simp only[List.length_cons];omega
  rw[e,iA,<-ih,pk,List.range_succ_eq_map,List.map_cons,List.map_map,pk];congr 1
theorem Lj(h:Dg ds)(k:Nat):Lm (pk ds k):=fun x hx=>by
 obtain⟨i,_,rfl⟩:=aT.1 hx;have key:∀j,ds.getD j 0<65536:=fun j=>by
  rw[List.getD]
  cases hj:ds[j]? with
  |none=>simp
  |some d=>simp;exact h d (aC hj)
 have h1:=key (2*i);have h2:=key (2*i+1);omega
end Go.Ex
namespace Go.Ex
open Go Go.Sx Go.Proofs
variable{cs:List Int}{S:Nat->Prop}{v:Value}{w:World}
def eC(w:World)(S:Nat->Prop)(v:Value)(cs:List Int):Prop:=gO w S 1 v (cs.map (Value.int .i64)) cs.length
theorem eC.cI{w2:World}(h:eC w S v cs)(hk:∀g,S g->w2.heap[g]? =w.heap[g]?):eC w2 S v cs:=gO.cI h hk
theorem eC.cJ{S':Nat->Prop}(h:eC w S v cs)(hk:∀g,S g->S' g):eC w S' v cs:=gO.cJ h hk
theorem eC.load{a:Option Addr}{n c j:Nat}{x:Int}(h:eC w S (.slice a n c) cs)(hx:cs[j]? =some x):∃ad,a=some ad∧S ad.block∧w.cell? (ad.add (j*1))=some (.int .i64 x):=by
 obtain⟨_,_,_,a',c',e,_,h4⟩:=h;injection e with e1 e2 e3;subst e1;obtain⟨ad,k1,k2,k3⟩:=h4 j (.int .i64 x) (by rw[aM,hx];rfl);exact⟨ad,k1,k2,by rw[aU];exact k3⟩
theorem eC.shape(h:eC w S v cs):∃a c,v= .slice a cs.length c∧cs.length<=c:=by
 obtain⟨_,_,_,a',c',e,h3,_⟩:=h;exact⟨a',c',e,h3⟩
def eH(ds:List Nat):List Int:=ds.map fun d:Nat=>(d:Int)
theorem fA(ds:List Nat):(eH ds).length=ds.length:=by simp[eH]
end Go.Ex
namespace Go.Sx
open Go Go.Ex Go.Proofs
variable{cs:List Value}{O:Nat->Sx.di}
theorem Rel.Ei{H:Hp}{nx:Nat}{iv:Iv}{B:Nat}{w w':World}(r:Rel H nx iv B w O w'){id t m sz:Nat}(h:dE H id=some (.vec t sz cs))(hm:cs.length=m*sz)(hs:0<sz):
  w'.ownsRow B t sz ((At.w id m).den O) m cs:=by
 rcases r.vec id t sz _ h with⟨hn,rfl⟩|⟨hn,spare,hb,hc,Qs⟩
 ·have TR:m=0:=by
   rcases bJ m with h|h
   ·exact h
   ·have:=Nat.mul_pos h hs;simp at hm;omega
  subst TR;have:(At.w id 0).den O= .slice none 0 0:=by simp[At.den,hn]
  rw[this];exact World.ownsRow_nil _ _ _ _
 ·have hv:(At.w id m).den O= .slice (some ⟨(O id).g,0,none⟩) m (O id).cap:=by simp[At.den,hn]
  have h1:(cs++spare).length=cs.length+spare.length:=List.length_append;rw[hv];refine⟨hm,.inr ⟨(O id).g,(O id).cap,_,rfl,(r.low id _ h hn).1,hb,?_,Qs,by simpa using hc,?_⟩⟩
  ·have h2:m*sz<=(O id).cap*sz:=by omega
   exact bp h2 hs
  ·rw[<-hm];simp
end Go.Sx
namespace Go.Ex
open Go Go.Sx Go.Proofs
theorem Gt(n:Nat)(w:World)(hn:n<=9223372036854775807):eD PG N.ui #[.int .i64 n] w (eG w fun v w2=>eC w2 (Nf w w2) v (eH (dN n))):=by
 refine ym (by simp) ?_
 refine⟨Nat×List Nat×World,fun z=>⟨[(0,iZ z.1),(3,.o (.w 0 z.2.1.length))],[(0,.vec T.int 1 ((eH z.2.1).map (Value.int .i64)))],1,[],z.2.2⟩,fun z=>z.1,
  fun z=>dm w.heap.size w z.2.2∧z.1<=n∧z.2.1.length<=n-z.1∧z.2.1++dN z.1=dN n,?_,?_⟩
 ·intro O w' r
  exact⟨(n,[],w'),⟨r.cQ,aF _,by simp,by simp⟩,Sub.nil 3 T.int 1 rfl (by simp[jQ,SV.sc,At.sc,fP]) r fun ρ1 r1=>
   Sub.gn [] r1⟩
 rintro⟨k,ds,w1⟩ ⟨hw,hk,hl,hs⟩;dsimp only at hw hk hl hs ⊢;have TL:=fA ds;refine dI.mk ?_ ?_<;>intro h
 ·have h:0<k:=by
   have:(k:Int)>0:=aI h;omega
  refine⟨by decide,((k % 65536:Nat):Int),M4 k 65536,?_⟩;refine .inl ?_;refine⟨by simp[TL],?_,by have h1:=congrArg List.length hs;rw[List.length_append]at h1;have h2:=jk (n:=n) (k:=4) (by omega);unfold maxLen;omega,?_⟩
  ·have h1:=congrArg List.length hs;rw[List.length_append]at h1;have h2:=jk (n:=n) (k:=4) (by omega);omega
  refine⟨by decide,((k / 65536:Nat):Int),Ng (by omega),?_⟩;intro ρ3 w3 r3;have hl5:(ds++[k % 65536]).length=ds.length+1:=by simp
  have Th:(eH (ds++[k % 65536])).map (Value.int .i64)=(eH ds).map (Value.int .i64)++[.int .i64 ((k % 65536:Nat):Int)]:=by simp[eH]
  refine⟨(k / 65536,ds++[k % 65536],w3),⟨hw.tr r3.cQ,by dsimp only;omega,by dsimp only;rw[hl5];omega,?_⟩,
   Sub.gn [(0,2)] r3 ⟨by rw[Th];rfl,trivial⟩ ⟨rfl,by dsimp only;rw[hl5];rfl,trivial⟩,by dsimp only;omega⟩
  dsimp only
  rw[<-hs,qI h];simp
 ·have h:k=0:=by
   have:¬(k:Int)>0:=aH h;omega
  subst h;rw[lV,List.append_nil]at hs;subst hs;intro ρe we re;refine⟨_,rfl,hw.tr re.cQ,?_⟩;have:=re.iC (id:=0) (sz:=1) (m:=(dN n).length) rfl (by simp[TL]) (by have h2:=jk (n:=n) (k:=4) (by omega);unfold maxLen;omega) (by decide) (by intro u hu;simp at hu;obtain⟨_,_,rfl⟩:=hu;rfl);unfold eC;rw[TL];exact this.cJ fun g hg=>.inr hg
end Go.Ex
namespace Go.Ex
open Go Go.Sx Go.Proofs
variable{cs:List Int}{S:Nat->Prop}
theorem xQ(n:Int):(n.tmod 65536<0->n % 65536=n.tmod 65536+65536)∧(¬n.tmod 65536<0->n % 65536=n.tmod 65536)∧ -65536<n.tmod 65536∧n.tmod 65536<65536:=by
 by_cases h:0<=n
 ·rw[Int.tmod_eq_emod_of_nonneg h];omega
 ·have h1:n.tmod 65536= -((-n) % 65536):=by
   have:n= -(-n):=by omega
   conv=>lhs;rw[this]
   rw[Int.neg_tmod,Int.tmod_eq_emod_of_nonneg (by omega)]
  rw[h1];omega
theorem D4(n:Int):(n-n % 65536).tdiv 65536=n / 65536:=by
 have h:n-n % 65536=65536*(n / 65536):=by omega
 rw[h,Int.mul_tdiv_cancel_left _ (by decide)]
theorem D5{w:World}{v:Value}(hS:Old S w)(h:eC w S v cs)(hb:∀c∈cs,-1152921504606846976<=c∧c<=1152921504606846976)(hl:cs.length<=1000000000):
  eD PG N.sQ #[v] w (eG w fun v' w2=>∃o,v'= .tuple #[o,.int .i64 (dc cs 0).2]∧w2.ownsRow w.heap.size T.int 1 o cs.length ((eH (dc cs 0).1).map (Value.int .i64))):=by
 obtain⟨a,c,rfl,hc⟩:=h.shape;refine wz (by simp) ?_
 refine⟨Nat×World,fun z=>⟨[(0,sV a cs.length c),(4,.o (.w 0 z.1)),(5,.o (.v (.int .i64 (dc (cs.take z.1) 0).2))),(6,iZ z.1)],[(0,.vec T.int 1 ((eH (dc (cs.take z.1) 0).1).map (Value.int .i64)))],1,[],z.2⟩,fun z=>cs.length-z.1,
  fun z=>dm w.heap.size w z.2∧z.1<=cs.length,?_,?_⟩
 ·intro O w' r
  exact⟨(0,w'),⟨r.cQ,by simp⟩,Sub.nil 4 T.int 1 rfl (by simp[jQ,SV.sc,At.sc,fP]) r fun ρ1 r1=>
   Sub.gn [] r1⟩
 rintro⟨i,w1⟩ ⟨hw,hi⟩;dsimp only at hw hi ⊢;obtain⟨-,hdg,hlen⟩:=lT (cs.take i) 0;have S3:((eH (dc (cs.take i) 0).1).map (Value.int .i64)).length=i:=by rw[aJ,fA,hlen,aW];omega
 obtain⟨hk1,Vw⟩:=ke (cs.take i) 0 (fun c hc=>hb c (List.mem_of_mem_take hc)) (by decide) (by decide);have hR:eC w1 S (.slice a cs.length c) cs:=eC.cI h fun g hg=>hw.block g (hS g hg);refine dI.mk ?_ ?_<;>intro h
 ·have h:i<cs.length:=by simpa using h
  obtain⟨x,hx⟩:∃x,cs[i]? =some x:=⟨_,aB h⟩
  obtain⟨Sm,SD⟩:=hb x (aC hx);obtain⟨ad,rfl,q1,q2⟩:=hR.load hx;have Ud:cs.take (i+1)=cs.take i++[x]:=by rw[List.take_add_one,hx];rfl
  have hsn:=Dx (cs.take i) x 0;rw[<-Ud]at hsn;generalize (dc (cs.take i) 0).1=ds at*
  generalize (dc (cs.take i) 0).2=k at*
  obtain⟨t1,t2,t3,t4⟩:=xQ (x+k);have hem1:=Int.emod_nonneg (x+k) (show (65536:Int)≠0 by decide);have hem2:=Int.emod_lt_of_pos (x+k) (show (0:Int)<65536 by decide);refine⟨ad,rfl,by omega,.int .i64 x,fun O w' r=>?_,?_⟩
  ·rw[aE,cH (w:=w1) (w2:=w') (by rw[dD];exact Rel.same (S:=S) r hS (.inl q1))];exact q2
  refine⟨x+k,wo,by decide,(x+k).tmod 65536,rfl,?_⟩;refine dI.mk ?_ ?_<;>intro Pp
  ·have Pp:=t1 (aI Pp);refine⟨(x+k) % 65536,by rw[Pp,wrap64]<;>omega,x+k-(x+k) % 65536,wo,by decide,(x+k) / 65536,by rw[D4,wrap64]<;>omega,?_⟩;refine .inl ?_;refine⟨by rw[S3,aU],by omega,by unfold maxLen;omega,((i+1:Nat):Int),wo,?_⟩;intro ρ3 w3 r3;have Th:(eH (dc (cs.take (i+1)) 0).1).map (Value.int .i64)=(eH ds).map (Value.int .i64)++[.int .i64 ((x+k) % 65536)]:=by
    rw[hsn];simp[eH,Int.toNat_of_nonneg hem1]
   have hk5:(dc (cs.take (i+1)) 0).2=(x+k) / 65536:=by rw[hsn]
   exact⟨(i+1,w3),⟨hw.tr r3.cQ,by dsimp only;omega⟩,Sub.gn [(0,2)] r3 ⟨by dsimp only;rw[Th];rfl,trivial⟩ ⟨rfl,rfl,by dsimp only;rw[hk5];rfl,rfl,trivial⟩,by dsimp only;omega⟩
  ·have Pp:=t2 (aH Pp);rw[<-Pp];refine⟨x+k-(x+k) % 65536,wo,by decide,(x+k) / 65536,by rw[D4,wrap64]<;>omega,?_⟩;refine .inl ?_;refine⟨by rw[S3,aU],by omega,by unfold maxLen;omega,((i+1:Nat):Int),wo,?_⟩;intro ρ3 w3 r3;have Th:(eH (dc (cs.take (i+1)) 0).1).map (Value.int .i64)=(eH ds).map (Value.int .i64)++[.int .i64 ((x+k) % 65536)]:=by
    rw[hsn];simp[eH,Int.toNat_of_nonneg hem1]
   have hk5:(dc (cs.take (i+1)) 0).2=(x+k) / 65536:=by rw[hsn]
   exact⟨(i+1,w3),⟨hw.tr r3.cQ,by dsimp only;omega⟩,Sub.gn [(0,2)] r3 ⟨by dsimp only;rw[Th];rfl,trivial⟩ ⟨rfl,rfl,by dsimp only;rw[hk5];rfl,rfl,trivial⟩,by dsimp only;omega⟩
 ·have h:i=cs.length:=by
   have:¬i<cs.length:=by simpa using h
   omega
  subst h;rw[bG]at S3 ⊢;exact rtn hw fun ρe we re=>⟨_,rfl,re.Ei (id:=0) rfl (by rw[S3,aU]) (by decide)⟩
end Go.Ex
namespace Go.Sx
open Go Go.Ex Go.Proofs
variable{ls:List Nat}{O:Nat->Sx.di}
theorem Rel.M5{H:Hp}{nx:Nat}{iv:Iv}{B:Nat}{w w':World}(r:Rel H nx iv B w O w'){id t m:Nat}(h:dE H id=some (.vec t 1 (U ls)))(hm:m<=ls.length)(PZ:Lm ls)(hle:ls.length<=9223372036854775807):
  dP w' (fun g=>B<=g∧g<w'.heap.size) ((At.w id m).den O) (ls.take m):=by
 have Oc:(ls.take m).length=m:=by rw[aW];omega
 rcases r.vec id t 1 _ h with⟨hn,hu⟩|⟨hn,spare,hb,hc,Qs⟩
 ·have hl:ls=[]:=by cases ls with
   |nil=>rfl
   |cons a b=>simp[U]at hu
  subst hl;simp at hm;subst hm;have:(At.w id 0).den O= .slice none 0 0:=by simp[At.den,hn]
  rw[this];exact dP.nil _ _
 ·refine⟨PZ.take m,by rw[Oc];omega,some ⟨(O id).g,0,none⟩,(O id).cap,by rw[Oc];simp[At.den,hn],?_,fun j x hx=>⟨_,rfl,r.low id _ h hn,?_⟩⟩
  ·have h1:(U ls++spare).length=ls.length+spare.length:=by rw[List.length_append,gR]
   rw[Oc];omega
  ·rw[List.getElem?_take]at hx;split at hx
   ·rw[dZ,cell_of hb,aS,aL (by rw[gR];exact(aD.1 hx).1)];exact vI hx
   ·cases hx
end Go.Sx
namespace Go.Ex
open Go Go.Sx Go.Proofs
variable{ds ls:List Nat}{n:Nat}{S:Nat->Prop}
theorem IH(_hn:n<ls.length)(h0:ls[n]? =some 0):eA (ls.take (n+1))=eA (ls.take n):=by
 rw[List.take_add_one,h0];exact lC _
theorem II{x:Nat}(h0:ls[n]? =some x)(hx:x≠0):eA (ls.take (n+1))=ls.take (n+1):=by
 rw[List.take_add_one,h0];exact o7 _ hx
theorem Gu{w:World}{v:Value}(hS:Old S w)(h:eC w S v (eH ds))(hd:Dg ds)(hl:ds.length<=1000000000):
  eD PG N.uh #[v] w (eG w fun v' w2=>∃lv,v'= .agg #[.bool false,lv]∧dP w2 (Nf w w2) lv (eA (iA ds))):=by
 obtain⟨a,c,rfl,hc⟩:=h.shape;rw[fA]at hc h ⊢;refine yl (by simp) ?_
 refine⟨Nat×World,fun z=>match z.1 with
   |0=>⟨[(0,sV a ds.length c),(2,pP 0 0),(3,pP 1 0),(4,iZ 0)],[(1,.box T.Int [.v (.bool false),.v (.slice none 0 0)]),(0,.box T.Int [.v (.bool false),.v (.slice none 0 0)])],2,[],z.2⟩
   |k+1=>⟨[(0,sV a ds.length c),(2,pP 0 0),(3,pP 1 0),(4,.o (.v (.int .i64 ((2*(k+1):Nat):Int))))],[(2,.vec T.uint32 1 (U (pk ds (k+1)))),(1,.box T.Int [.v (.bool false),.w 2 (k+1)]),(0,.box T.Int [.v (.bool false),.v (.slice none 0 0)])],3,[],z.2⟩,
  fun z=>ds.length-z.1,fun z=>dm w.heap.size w z.2∧2*z.1<=ds.length+1,?_,?_⟩
 ·intro O w' r;exact⟨(0,w'),⟨r.cQ,by simp⟩,Sub.gn [] r⟩
 rintro⟨k,w1⟩ ⟨hw,hi⟩;dsimp only at hw hi;have hR:eC w1 S (.slice a ds.length c) (eH ds):=eC.cI h fun g hg=>hw.block g (hS g hg)
 cases k with
 |zero=>
  refine dI.mk ?_ ?_<;>intro h1
  ·have h1:0<ds.length:=by
    have:=aI h1;omega
   obtain⟨d0,Vj⟩:∃x,ds[0]? =some x:=⟨_,aB h1⟩
   have hd0b:=hd d0 (aC Vj);have TN:ds.getD (2*0) 0=d0:=by show ds.getD 0 0=d0;rw[List.getD,Vj];rfl
   obtain⟨ad,rfl,q1,q2⟩:=hR.load (j:=0) (x:=(d0:Int)) (by rw[eH,aM,Vj];rfl);refine⟨ad,rfl,by omega,.int .i64 (d0:Int),fun O w' r=>?_,?_⟩
   ·show w'.cell? (ad.add (0*1))=_;rw[cH (w:=w1) (w2:=w') (by rw[dD];exact Rel.same (S:=S) r hS (.inl q1))];exact q2
   refine⟨((0+1:Nat):Int),wo,?_⟩;refine dI.mk ?_ ?_<;>intro h2
   ·have h2:0+1<ds.length:=by
     have:=aI h2;omega
    obtain⟨d1,Sl⟩:∃x,ds[0+1]? =some x:=⟨_,aB h2⟩
    have hd1b:=hd d1 (aC Sl);have TO:ds.getD (2*0+1) 0=d1:=by show ds.getD (0+1) 0=d1;rw[List.getD,Sl];rfl
    obtain⟨_,Ol,q3,q4⟩:=hR.load (j:=0+1) (x:=(d1:Int)) (by rw[eH,aM,Sl];rfl);injection Ol with Ol;subst Ol;refine⟨((0+1:Nat):Int),wo,ad,rfl,by omega,.int .i64 (d1:Int),fun O w' r=>?_,?_⟩
    ·show w'.cell? (ad.add ((0+1)*1))=_;rw[cH (w:=w1) (w2:=w') (by rw[dD];exact Rel.same (S:=S) r hS (.inl q3))];exact q4
    refine⟨((65536*d1:Nat):Int),wo,((d0+65536*d1:Nat):Int),wo,?_⟩;have Sk:=zH ds 0;rw[TN,TO]at Sk;generalize d0+65536*d1=dd at*
    have hdd:dd<4294967296:=Lj hd (0+1) dd (by rw[Sk];simp);refine⟨(dd:Int),by rw[zA]<;>omega,?_⟩;refine .inl ?_;refine⟨by omega,by unfold maxLen;omega,((2*(0+1):Nat):Int),wo,?_⟩;intro ρ3 w3 r3;have hU:U (pk ds (0+1))=U (pk ds 0)++[.int .u32 (dd:Int)]:=by rw[Sk];simp[U]
    exact⟨(0+1,w3),⟨hw.tr r3.cQ,by dsimp only;omega⟩,Sub.gn [(2,3)] r3 ⟨by dsimp only;rw[hU];rfl,rfl,rfl,trivial⟩,by dsimp only;omega⟩
   ·have h2:0+1=ds.length:=by
     have:=aH h2;omega
    have TO:ds.getD (2*0+1) 0=0:=by show ds.getD (0+1) 0=0;rw[List.getD,List.getElem?_eq_none (by omega)];rfl
    have Sk:=zH ds 0;rw[TN,TO]at Sk;obtain⟨dd,hdde⟩:∃dd,dd=d0:=⟨_,rfl⟩
    rw[<-hdde]at Sk ⊢;have hdd:dd<4294967296:=by omega
    rw[show dd+65536*0=dd by omega]at Sk;refine⟨(dd:Int),by rw[zA]<;>omega,?_⟩;refine .inl ?_;refine⟨by omega,by unfold maxLen;omega,((2*(0+1):Nat):Int),wo,?_⟩;intro ρ3 w3 r3;have hU:U (pk ds (0+1))=U (pk ds 0)++[.int .u32 (dd:Int)]:=by rw[Sk];simp[U]
    exact⟨(0+1,w3),⟨hw.tr r3.cQ,by dsimp only;omega⟩,Sub.gn [(2,3)] r3 ⟨by dsimp only;rw[hU];rfl,rfl,rfl,trivial⟩,by dsimp only;omega⟩
  ·have h1:ds=[]:=by
    have:=aH h1;exact List.eq_nil_of_length_eq_zero (by omega)
   subst h1;refine⟨World,fun z=>⟨[(2,pP 0 0),(3,pP 1 0),(6,iZ 0)],[(1,.box T.Int [.v (.bool false),.v (.slice none 0 0)]),(0,.box T.Int [.v (.bool false),.v (.slice none 0 0)])],2,[],z⟩,fun _=>0,fun z=>dm w.heap.size w z,?_,?_⟩
   ·intro O w' r;exact⟨w',hw.tr r.cQ,Sub.gn [] r⟩
   intro w2 hw;dsimp only at hw ⊢;refine⟨⟨by decide,by decide,by decide⟩,none,0,0,by rfl,by rfl,by rfl,?_⟩;exact rtn hw fun ρe we re=>⟨_,rfl,dP.nil _ _⟩
 |succ k=>
  refine dI.mk ?_ ?_<;>intro h1
  ·have h1:(2*(k+1))<ds.length:=by
    have:=aI h1;omega
   obtain⟨d0,Vj⟩:∃x,ds[(2*(k+1))]? =some x:=⟨_,aB h1⟩
   have hd0b:=hd d0 (aC Vj);have TN:ds.getD (2*(k+1)) 0=d0:=by show ds.getD (2*(k+1)) 0=d0;rw[List.getD,Vj];rfl
   obtain⟨ad,rfl,q1,q2⟩:=hR.load (j:=(2*(k+1))) (x:=(d0:Int)) (by rw[eH,aM,Vj];rfl);refine⟨ad,rfl,by omega,.int .i64 (d0:Int),fun O w' r=>?_,?_⟩
   ·show w'.cell? (ad.add ((2*(k+1))*1))=_;rw[cH (w:=w1) (w2:=w') (by rw[dD];exact Rel.same (S:=S) r hS (.inl q1))];exact q2
   refine⟨(((2*(k+1))+1:Nat):Int),wo,?_⟩;refine dI.mk ?_ ?_<;>intro h2
   ·have h2:(2*(k+1))+1<ds.length:=by
     have:=aI h2;omega
    obtain⟨d1,Sl⟩:∃x,ds[(2*(k+1))+1]? =some x:=⟨_,aB h2⟩
    have hd1b:=hd d1 (aC Sl);have TO:ds.getD (2*(k+1)+1) 0=d1:=by show ds.getD ((2*(k+1))+1) 0=d1;rw[List.getD,Sl];rfl
    obtain⟨_,Ol,q3,q4⟩:=hR.load (j:=(2*(k+1))+1) (x:=(d1:Int)) (by rw[eH,aM,Sl];rfl);injection Ol with Ol;subst Ol;refine⟨(((2*(k+1))+1:Nat):Int),wo,ad,rfl,by omega,.int .i64 (d1:Int),fun O w' r=>?_,?_⟩
    ·show w'.cell? (ad.add (((2*(k+1))+1)*1))=_;rw[cH (w:=w1) (w2:=w') (by rw[dD];exact Rel.same (S:=S) r hS (.inl q3))];exact q4
    refine⟨((65536*d1:Nat):Int),wo,((d0+65536*d1:Nat):Int),wo,?_⟩;have Sk:=zH ds (k+1);rw[TN,TO]at Sk;generalize d0+65536*d1=dd at*
    have hdd:dd<4294967296:=Lj hd ((k+1)+1) dd (by rw[Sk];simp);refine⟨(dd:Int),by rw[zA]<;>omega,?_⟩;refine .inl ?_;refine⟨by rw[gR,wO];omega,by omega,by unfold maxLen;omega,((2*((k+1)+1):Nat):Int),wo,?_⟩;intro ρ3 w3 r3;have hU:U (pk ds ((k+1)+1))=U (pk ds (k+1))++[.int .u32 (dd:Int)]:=by rw[Sk];simp[U]
    exact⟨((k+1)+1,w3),⟨hw.tr r3.cQ,by dsimp only;omega⟩,Sub.gn [(2,4)] r3 ⟨by dsimp only;rw[hU];rfl,rfl,rfl,trivial⟩,by dsimp only;omega⟩
   ·have h2:(2*(k+1))+1=ds.length:=by
     have:=aH h2;omega
    have TO:ds.getD (2*(k+1)+1) 0=0:=by show ds.getD ((2*(k+1))+1) 0=0;rw[List.getD,List.getElem?_eq_none (by omega)];rfl
    have Sk:=zH ds (k+1);rw[TN,TO]at Sk;obtain⟨dd,hdde⟩:∃dd,dd=d0:=⟨_,rfl⟩
    rw[<-hdde]at Sk ⊢;have hdd:dd<4294967296:=by omega
    rw[show dd+65536*0=dd by omega]at Sk;refine⟨(dd:Int),by rw[zA]<;>omega,?_⟩;refine .inl ?_;refine⟨by rw[gR,wO];omega,by omega,by unfold maxLen;omega,((2*((k+1)+1):Nat):Int),wo,?_⟩;intro ρ3 w3 r3;have hU:U (pk ds ((k+1)+1))=U (pk ds (k+1))++[.int .u32 (dd:Int)]:=by rw[Sk];simp[U]
    exact⟨((k+1)+1,w3),⟨hw.tr r3.cQ,by dsimp only;omega⟩,Sub.gn [(2,4)] r3 ⟨by dsimp only;rw[hU];rfl,rfl,rfl,trivial⟩,by dsimp only;omega⟩
  ·have h1:ds.length<=2*(k+1):=by
    have:=aH h1;omega
   have hk:k+1=(ds.length+1) / 2:=by omega
   have Sk:pk ds (k+1)=iA ds:=by rw[hk];exact Li ds
   have hlen:=wO ds (k+1);have PZ:=Lj hd (k+1);rw[<-Sk];obtain⟨ls,hls⟩:∃ls,ls=pk ds (k+1):=⟨_,rfl⟩
   rw[<-hls]at hlen PZ ⊢
   refine⟨by show(U (pk ds (k+1))).length=_;rw[<-hls,gR,hlen];simp,Nat×World,fun z=>⟨[(2,pP 0 0),(3,pP 1 0),(6,iZ z.1)],[(2,.vec T.uint32 1 (U ls)),(1,.box T.Int [.v (.bool false),.w 2 (k+1)]),(0,.box T.Int [.v (.bool false),.v (.slice none 0 0)])],3,[],z.2⟩,fun z=>z.1,
    fun z=>dm w.heap.size w z.2∧z.1<=k+1∧eA (ls.take z.1)=eA ls,?_,?_⟩
   ·intro O w' r;exact⟨(k+1,w'),⟨hw.tr r.cQ,aF _,by dsimp only;rw[List.take_of_length_le (by omega)]⟩,Sub.gn [] r ⟨by dsimp only;rw[hls];rfl,rfl,rfl,trivial⟩⟩
   rintro⟨n,w2⟩ ⟨hw,hn,htr⟩;dsimp only at hw hn htr ⊢
   cases n with
   |zero=>
    refine⟨by rw[gR,hlen];simp,⟨by omega,by omega⟩,0,by rfl,?_⟩;intro ρe we re;refine⟨_,rfl,hw.tr re.cQ,_,rfl,?_⟩;have:=re.M5 (id:=2) (m:=0) rfl (aO _) PZ (by omega);rw[<-htr];exact this.cJ fun g hg=>.inr hg
   |succ n=>
    obtain⟨x,hx⟩:∃x,ls[n]? =some x:=⟨_,aB (by omega)⟩
    refine dI.mk (fun hp=>?_) (fun hp=>absurd (aH hp) (by omega));refine⟨(n:Int),wo,by rw[gR,hlen];simp,by omega,.int .u32 (x:Int),by simpa using vI hx,?_⟩;refine dI.mk ?_ ?_<;>intro h0
    ·have h0:x=0:=by have:=eq_of_beq h0;omega
     subst h0;refine⟨(n:Int),wo,?_⟩;intro ρ3 w3 r3;exact⟨(n,w3),⟨hw.tr r3.cQ,by dsimp only;omega,by dsimp only;rw[<-htr,IH (by omega) hx]⟩,Sub.gn [] r3,by dsimp only;omega⟩
    ·have h0:x≠0:=fun e=>by rw[e]at h0;exact absurd h0 (by decide)
     refine⟨by rw[gR,hlen];simp,⟨by omega,by omega⟩,n+1,by rfl,?_⟩;intro ρe we re;refine⟨_,rfl,hw.tr re.cQ,_,rfl,?_⟩;have:=re.M5 (id:=2) (m:=n+1) rfl (by omega) PZ (by omega);rw[<-htr,II hx h0];exact this.cJ fun g hg=>.inr hg
end Go.Ex
namespace Go.Ex
open Go Go.Sx Go.Proofs
variable{H:Hp}{z:Int}{iv:Iv}{cs:List Int}{b ds ls:List Nat}{xs:List Value}{B i nx:Nat}{S:Nat->Prop}{O:Nat->Sx.di}{a2:Option Addr}{q:Rat}{u v:Value}{w w':World}
theorem vU{w2:World}{v':Value}(hc:IG iv v)(r:Rel H nx iv B w O w')(Q1:∀g,v'.ownBlock=some g->g<w2.heap.size∧(v.ownBlock=some g∨g=w'.heap.size)):
  ∀lo hi,(lo,hi)∈kI v'->hi<=w2.heap.size∧∀id b,dE H id=some b->(O id).nil=false->¬(lo<=(O id).g∧(O id).g<hi):=fun lo hi hm=>by
 obtain⟨hg,rfl⟩:=rW.1 hm;obtain⟨h1,h2⟩:=Q1 _ hg;refine⟨by omega,fun id c hc' hn he=>?_⟩;rcases h2 with h2|h2
 ·exact hc.not r h2 id c hc' hn (by omega)
 ·have:=(r.low id c hc' hn).2;omega
theorem dP.out{w1:World}(h:dP w1 (Cv S w.heap.size iv) v ls)(r:Rel H nx iv w.heap.size w1 O w')(hS:Old S w):dP w' (Nw S w w') v ls:=
 (dP.rel h r hS).cJ fun _ hg=>Cv.nw hg r
theorem JI{B' e sz m:Nat}(h:w.ownsRow B e sz v m xs)(hb:B'<=B):w.ownsRow B' e sz v m xs:=⟨h.1,h.2.imp id fun⟨g,cap,cur,k1,k2,k3⟩=>⟨g,cap,cur,k1,by omega,k3⟩⟩
theorem vV(a b:List Nat):eH (a++b)=eH a++eH b:=by simp[eH]
theorem rZ{m:Nat}(h:w.ownsRow B T.int 1 v m (cs.map (Value.int .i64)))(hm:m=cs.length)(hl:m<=maxLen):eC w (fun g=>v.ownBlock=some g) v cs:=by
 subst hm;rcases h.2 with⟨rfl,h0⟩|⟨g,cap,cur,rfl,hb,hc,Sc,Qs,Om,S1⟩
 ·have:cs=[]:=List.eq_nil_of_length_eq_zero h0;subst this;exact⟨by simp[maxLen],by simp,by simp,none,0,rfl,aF _,by simp⟩
 ·refine⟨hl,h.1,fun u hu=>by simp at hu;obtain⟨_,_,rfl⟩:=hu;rfl,_,cap,rfl,Sc,fun j u hu=>⟨_,rfl,rfl,?_⟩⟩;exact h.cells (g:=g) rfl j u hu
theorem Dg.append{a:List Nat}(ha:Dg a)(hb:Dg b):Dg (a++b):=fun x hx=>(bK.1 hx).elim (ha x) (hb x)
theorem yL(a b:List Nat):mc (a++b)=mc a+up a.length*mc b:=by
 unfold mc;rw[List.map_append,Bq,aJ]
theorem B7(hd:Dg ds):Nz (eA (iA ds))∧(val (eA (iA ds)):Int)=mc ds:=by
 obtain⟨h1,h2,_⟩:=Aa ds hd;obtain⟨k1,k2,_⟩:=fC (iA ds);exact⟨k2,by rw[k1,h1]⟩
theorem xR(hS:Old S w)(h:eC w S v cs)(hb:∀c∈cs,-1152921504606846976<=c∧c<=1152921504606846976)(hl:cs.length<=100000000):
  eD PG N.kf #[v] w (eG w fun v' w2=>dO w2 (Nf w w2) v' (dR cs)):=by
 obtain⟨a,c,rfl,hc⟩:=h.shape;obtain⟨XC,hdg,TL⟩:=lT cs 0;obtain⟨hk1,Vw⟩:=ke cs 0 hb (by decide) (by decide);rw[Int.add_zero]at XC;refine wm (by simp) ?_;refine cD (cO (Φ:=fun _ w' v' w2=>∃o,v'= .tuple #[o,.int .i64 (dc cs 0).2]∧w2.ownsRow w'.heap.size T.int 1 o cs.length ((eH (dc cs 0).1).map (Value.int .i64))) (fun O w' r=>D5 (oS hS r) (eC.cI h fun g hg=>Rel.same (S:=S) r hS (.inl hg)) hb (by omega)) ?_);rintro O wa v1 wb r he hw ⟨o,rfl,OK⟩;have QQ:IG [(wa.heap.size,wb.heap.size)] o:=fun g hg=>⟨_,_,bB.2 rfl,(ownsRow.low OK g hg).1,(ownsRow.low OK g hg).2⟩
 replace OK:=JI OK r.cF;generalize [(wa.heap.size,wb.heap.size)]=iv at*
 generalize hds:(dc cs 0).1=ds at*
 generalize hk:(dc cs 0).2=k at*
 obtain⟨ao,co,rfl,hco⟩:=fJ OK;refine dI.mk ?_ ?_<;>intro Pp
 ·have Pp:=aI Pp;have hV:dR cs<0:=by
   have h1:=(AZ hdg).2;rw[TL]at h1;have h2:=Lh cs.length;have h3:up cs.length*k<=up cs.length*(-1):=Int.mul_le_mul_of_nonneg_left (by omega) (by omega);omega
  obtain⟨VV,XD,hdl2⟩:=lT (cs.map (- ·)) 0;have QY:∀c∈cs.map (- ·),-1152921504606846976<=c∧c<=1152921504606846976:=fun c hc=>by
   obtain⟨x,hx,rfl⟩:=aT.1 hc;have:=hb x hx;omega
  obtain⟨hk1',hk2'⟩:=ke (cs.map (- ·)) 0 QY (by decide) (by decide);rw[Int.add_zero,H6,aJ]at VV;rw[aJ]at hdl2;have Sd:0<=(dc (cs.map (- ·)) 0).2:=by
   have h1:=(AZ XD).2;rw[hdl2]at h1;have h2:=Lh cs.length;apply Decidable.byContradiction;intro h3;have h4:up cs.length*(dc (cs.map (- ·)) 0).2<=up cs.length*(-1):=Int.mul_le_mul_of_nonneg_left (by omega) (by omega);omega
  refine⟨Nat×World,fun z=>⟨[(0,sV a cs.length c),(2,pP 0 0),(3,sV ao cs.length co),(5,iZ z.1)],[(0,.box T.Int [.v (.bool false),.v (.slice none 0 0)])],1,iv,z.2⟩,fun z=>cs.length-z.1,
   fun z=>z.1<=cs.length∧dm w.heap.size w z.2∧z.2.ownsRow w.heap.size T.int 1 (.slice ao cs.length co) cs.length (((cs.take z.1).map (- ·)++(eH ds).drop z.1).map (Value.int .i64)),?_,?_⟩
  ·intro O w' r;exact⟨(0,w'),⟨by simp,hw.tr r.cQ,by simpa using j4 OK QQ r⟩,Sub.gn [] r⟩
  rintro⟨i,w1⟩ ⟨hi,hw,OK⟩;dsimp only at hi hw OK ⊢;have hR:eC w1 S (.slice a cs.length c) cs:=eC.cI h fun g hg=>hw.block g (hS g hg);refine dI.mk ?_ ?_<;>intro OI
  ·have OI:i<cs.length:=by simpa using OI
   obtain⟨x,hx⟩:∃x,cs[i]? =some x:=⟨_,aB OI⟩
   obtain⟨Sm,SD⟩:=hb x (aC hx);obtain⟨ad,rfl,q1,q2⟩:=hR.load hx;obtain⟨go,hgo⟩:∃g,ao=some ⟨g,0,none⟩:=by
    rcases OK.2 with⟨_,h0⟩|⟨g,cap,cur,e,_⟩
    ·omega
    ·injection e with e;exact⟨g,e⟩
   subst hgo;refine⟨ad,rfl,by omega,.int .i64 x,fun O w' r=>?_,?_⟩
   ·rw[aE,cH (w:=w1) (w2:=w') (by rw[dD];exact Rel.same (S:=S) r hS (.inl q1))];exact q2
   refine⟨-x,wo,⟨go,0,none⟩,rfl,by omega,?_⟩;intro O w' r;have Ur:=j4 OK QQ r;obtain⟨g',Us,OM,Px,Pc,Om⟩:=qB (nv:=[.int .i64 (-x)]) Ur rfl OI rfl (by decide);injection Us with Us;injection Us with Us;subst Us;rw[Nh (by rw[aJ,List.length_append,aJ,aW,List.length_drop,fA,TL];omega)]at Px;have Ol:(⟨go,0,none⟩:Addr).add ((i:Int).toNat*1)=⟨go,i*1,none⟩:=by rw[aE,dZ,aS]
   have Qt:=fun id b hb hn=>QQ.not r (b:=go) rfl id b hb hn;have hgoB:=(ownsRow.low OK go rfl).1;have hw':dm w.heap.size w (setCells w' ⟨go,i*1,none⟩ [.int .i64 (-x)]):=(hw.tr r.cQ).tr (dm.grown Pc (fun g hg=>by injection hg with hg;subst hg;exact hgoB) r.cF);have hlist:(((cs.take i).map (- ·)++(eH ds).drop i).map (Value.int .i64)).set i (.int .i64 (-x))=((cs.take (i+1)).map (- ·)++(eH ds).drop (i+1)).map (Value.int .i64):=by
    rw[<-List.map_set];congr 1;have Rl:((cs.take i).map (- ·)).length=i:=by rw[aJ,aW];omega
    obtain⟨d,hd⟩:∃d,(eH ds)[i]? =some d:=⟨_,aB (by rw[fA,TL];exact OI)⟩
    have PM:(eH ds).drop i=d::(eH ds).drop (i+1):=by
     rw[List.drop_eq_getElem_cons (by rw[fA,TL];exact OI)];congr 1;have:=aB (l:=eH ds) (i:=i) (by rw[fA,TL];exact OI);rw[hd]at this;injection this with this;exact this.symm
    rw[List.take_add_one,hx,List.map_append,PM,List.set_append_right _ _ (by omega),Rl,bL];simp
   refine⟨by rw[Ol],fun j hj=>by rw[Ol];exact OM j hj,fun id b hb hn=>by rw[Ol];exact Qt id b hb hn,fun w2 PN=>?_⟩;have PN:w2=setCells w' ⟨go,i*1,none⟩ [.int .i64 (-x)]:=by rw[PN];exact congrArg (fun x=>setCells w' x _) Ol
   rw[<-PN]at Px hw'
   erw [hlist]at Px
   refine⟨((i+1:Nat):Int),wo,?_⟩;intro ρ3 w3 r3;exact⟨(i+1,w3),⟨OI,hw'.tr r3.cQ,j4 Px QQ r3⟩,Sub.gn [] r3,by dsimp only;omega⟩
  have OI:i=cs.length:=by
   have:¬i<cs.length:=by simpa using OI
   omega
  subst OI;rw[bG,List.drop_of_length_le (by rw[fA,TL];exact aF _),List.append_nil]at OK;refine⟨⟨by omega,by omega,by omega⟩,ao,cs.length,co,GD ao co,by omega,by omega,?_⟩;refine cD (cO (Φ:=fun _ w' v' w2=>∃o,v'= .tuple #[o,.int .i64 (dc (cs.map (- ·)) 0).2]∧w2.ownsRow w'.heap.size T.int 1 o cs.length ((eH (dc (cs.map (- ·)) 0).1).map (Value.int .i64))) (fun O w' r=>?_) ?_)
  ·have h8:=j4 OK QQ r;have h9:=rZ h8 (by rw[aJ]) (by unfold maxLen;omega);have h10:=D5 (fun g hg=>(ownsRow.low h8 g hg).2) h9 QY (by rw[aJ];omega);rw[aJ]at h10;exact h10
  rintro O wc v1 wd r he OX ⟨o2,rfl,QP⟩;have RD:IG ((wc.heap.size,wd.heap.size)::iv) o2:=fun g hg=>⟨_,_,aG,(ownsRow.low QP g hg).1,(ownsRow.low QP g hg).2⟩
  replace QP:=JI QP r.cF;replace hw:=hw.tr OX;generalize (wc.heap.size,wd.heap.size)::iv=ON at*
  generalize hds2:(dc (cs.map (- ·)) 0).1=ds2 at*
  generalize hkk2:(dc (cs.map (- ·)) 0).2=k2 at*
  obtain⟨kn,rfl⟩:∃kn:Nat,k2=kn:=⟨k2.toNat,by omega⟩
  obtain⟨ao2,co2,rfl,hco2⟩:=fJ QP;have ds2_len:ds2.length=cs.length:=hdl2;have ds2_dg:Dg ds2:=XD;refine cD (cO (Φ:=fun _ w' v w2=>eC w2 (Nf w' w2) v (eH (dN kn))) (fun O w' r=>by exact Gt kn w' (by omega)) ?_);rintro O ws vs wt r he hb Wh;have Ti:eC wt (Cf w ((ws.heap.size,wt.heap.size)::ON)) vs (eH (dN kn)):=eC.cJ Wh fun g hg=>hg.dB r.cF aG;replace QP:=ownsRow.cI (j4 QP RD r) fun g hg=>he.block g (by have:=(ownsRow.low (j4 QP RD r) g hg).2;exact this);replace RD:IG ((ws.heap.size,wt.heap.size)::ON) _:=RD.mono fun p hp=>List.mem_cons_of_mem _ hp;replace hw:=hw.tr hb;generalize (ws.heap.size,wt.heap.size)::ON=po at*
  obtain⟨asp,csp,rfl,-⟩:=Ti.shape;rw[fA]at Ti ⊢;have Ro:=jk (n:=kn) (k:=4) (by omega);have hsd:=(lW kn).2
  refine .inr (kU hτ (aF _) (xs:=(eH ds2).map (Value.int .i64)) (news:=(eH (dN kn)).map (Value.int .i64)) (m:=cs.length) (k:=(dN kn).length) (by rfl) (by rfl) (by decide) (by rfl) (by rfl) (fun O w' r=>⟨j4 QP RD r,fun g hg=>RD.not r hg⟩) (by simp[eH]) (by intro u hu;simp at hu;obtain⟨_,_,rfl⟩:=hu;rfl) (by unfold maxLen;omega) (by omega)
   (fun O w' r=>?_) (fun v' w2=>kI v') (fun O w' v' w2 r Om Q1=>vU RD r Q1) (fun O w' v' w2 r h5 h6 h7=>?_))
  ·obtain⟨_,_,_,a2,c2,e2,_,e3⟩:=Ti;injection e2 with e4 e5 e6;subst e4 e6
   cases asp with
   |none=>
    have h0:(dN kn).length=0:=by
     rcases bJ (dN kn).length with h0|h0
     ·exact h0
     ·obtain⟨ad2,q1,_⟩:=e3 0 _ (aB (show 0<((eH (dN kn)).map (Value.int .i64)).length by simp[eH];exact h0))
      cases q1
    exact .inl ⟨csp,by rw[h0];rfl,h0⟩
   |some ad3=>
    refine .inr ⟨ad3,csp,rfl,fun j u hu=>?_⟩;obtain⟨ad2,q1,q2,q3⟩:=e3 j u hu;injection q1 with q1;subst q1;rw[cH (w:=wt) (w2:=w') (by rw[dD];exact Rel.same r (cC w) q2)];exact q3
  replace hw:dm w.heap.size w w2:=(hw.tr r.cQ).tr (dm.grown h6 (fun g hg=>by
   have:=(ownsRow.low QP g hg).1;omega) r.cF)
  have hcat:(eH ds2).map (Value.int .i64)++(eH (dN kn)).map (Value.int .i64)=(eH (ds2++dN kn)).map (Value.int .i64):=by rw[vV,List.map_append]
  rw[hcat]at h5;have Rb:cs.length+(dN kn).length=(eH (ds2++dN kn)).length:=by rw[fA,List.length_append,ds2_len]
  have VW:Dg (ds2++dN kn):=ds2_dg.append hsd;have Pa:(ds2++dN kn).length<=1000000000:=by rw[List.length_append,ds2_len];omega
  obtain⟨a3,c3,rfl,-⟩:=fJ h5;refine cD (cO (Φ:=fun _ w' v' w2=>∃lv,v'= .agg #[.bool false,lv]∧dP w2 (Nf w' w2) lv (eA (iA (ds2++dN kn)))) (fun O w' r=>?_) ?_)
  ·have h8:=j4 h5 (IG.row _) r;have h9:=rZ h8 Rb (by unfold maxLen;omega);have h10:=Gu (w:=w') (fun g hg=>(ownsRow.low h8 g hg).2) h9 VW Pa;exact h10
  rintro O wp v1 wq r he hb ⟨lv,rfl,hL⟩;have XE:=hL.dB (S:=FF) r.cF (iv:=[(wp.heap.size,wq.heap.size)]) aG;have XE:dP wq (Cf w ((wp.heap.size,wq.heap.size)::kI (.slice a3 (cs.length+(dN kn).length) c3))) lv (eA (iA (ds2++dN kn))):=hL.cJ fun g hg=>hg.dB r.cF aG;replace hw:=hw.tr hb;generalize (wp.heap.size,wq.heap.size)::kI (.slice a3 (cs.length+(dN kn).length) c3)=ivq at*
  obtain⟨hnz,hvv⟩:=B7 VW;obtain⟨a4,n4,c4,rfl⟩:=XE.shape;have hcv: -dR cs=mc (ds2++dN kn):=by rw[VV,yL,(lW kn).1,ds2_len]
  obtain⟨pp,hpe,hpp⟩:=XE.la;injection hpe with VF hpe2 VG;subst VF hpe2 VG;have hlenpos:0<pp.ls.length:=by
   rw[hpp];rcases bJ (eA (iA (ds2++dN kn))).length with h0|h0
   ·rw[List.eq_nil_of_length_eq_zero h0]at hvv;simp[val]at hvv;omega
   ·exact h0
  intro ρe we re;refine⟨_,rfl,hw.tr re.cQ,eA (iA (ds2++dN kn)),⟨_,?_,XE.out re (cC w)⟩,hnz,?_⟩
  ·rw[bS hV];have:decide ((pp.ls.length:Int)>0)=true:=bS (by omega);rw[<-this];rfl
  ·have:((val (eA (iA (ds2++dN kn))):Nat):Int)= -dR cs:=by rw[hvv,hcv]
   omega
 ·have Pp:=aH Pp;obtain⟨kn,rfl⟩:∃kn:Nat,k=kn:=⟨k.toNat,by omega⟩
  have ds_len:ds.length=cs.length:=TL;have ds_dg:Dg ds:=hdg;refine cD (cO (Φ:=fun _ w' v w2=>eC w2 (Nf w' w2) v (eH (dN kn))) (fun O w' r=>by exact Gt kn w' (by omega)) ?_);rintro O ws vs wt r he hb Wh;have Ti:eC wt (Cf w ((ws.heap.size,wt.heap.size)::iv)) vs (eH (dN kn)):=eC.cJ Wh fun g hg=>hg.dB r.cF aG;replace OK:=ownsRow.cI (j4 OK QQ r) fun g hg=>he.block g (by have:=(ownsRow.low (j4 OK QQ r) g hg).2;exact this);replace QQ:IG ((ws.heap.size,wt.heap.size)::iv) _:=QQ.mono fun p hp=>List.mem_cons_of_mem _ hp;replace hw:=hw.tr hb;generalize (ws.heap.size,wt.heap.size)::iv=po at*
  obtain⟨asp,csp,rfl,-⟩:=Ti.shape;rw[fA]at Ti ⊢;have Ro:=jk (n:=kn) (k:=4) (by omega);have hsd:=(lW kn).2
  refine .inr (kU hτ (aF _) (xs:=(eH ds).map (Value.int .i64)) (news:=(eH (dN kn)).map (Value.int .i64)) (m:=cs.length) (k:=(dN kn).length) (by rfl) (by rfl) (by decide) (by rfl) (by rfl) (fun O w' r=>⟨j4 OK QQ r,fun g hg=>QQ.not r hg⟩) (by simp[eH]) (by intro u hu;simp at hu;obtain⟨_,_,rfl⟩:=hu;rfl) (by unfold maxLen;omega) (by omega)
   (fun O w' r=>?_) (fun v' w2=>kI v') (fun O w' v' w2 r Om Q1=>vU QQ r Q1) (fun O w' v' w2 r h5 h6 h7=>?_))
  ·obtain⟨_,_,_,a2,c2,e2,_,e3⟩:=Ti;injection e2 with e4 e5 e6;subst e4 e6
   cases asp with
   |none=>
    have h0:(dN kn).length=0:=by
     rcases bJ (dN kn).length with h0|h0
     ·exact h0
     ·obtain⟨ad2,q1,_⟩:=e3 0 _ (aB (show 0<((eH (dN kn)).map (Value.int .i64)).length by simp[eH];exact h0))
      cases q1
    exact .inl ⟨csp,by rw[h0];rfl,h0⟩
   |some ad3=>
    refine .inr ⟨ad3,csp,rfl,fun j u hu=>?_⟩;obtain⟨ad2,q1,q2,q3⟩:=e3 j u hu;injection q1 with q1;subst q1;rw[cH (w:=wt) (w2:=w') (by rw[dD];exact Rel.same r (cC w) q2)];exact q3
  replace hw:dm w.heap.size w w2:=(hw.tr r.cQ).tr (dm.grown h6 (fun g hg=>by
   have:=(ownsRow.low OK g hg).1;omega) r.cF)
  have hcat:(eH ds).map (Value.int .i64)++(eH (dN kn)).map (Value.int .i64)=(eH (ds++dN kn)).map (Value.int .i64):=by rw[vV,List.map_append]
  rw[hcat]at h5;have Rb:cs.length+(dN kn).length=(eH (ds++dN kn)).length:=by rw[fA,List.length_append,ds_len]
  have VW:Dg (ds++dN kn):=ds_dg.append hsd;have Pa:(ds++dN kn).length<=1000000000:=by rw[List.length_append,ds_len];omega
  obtain⟨a3,c3,rfl,-⟩:=fJ h5;refine cD (cO (Φ:=fun _ w' v' w2=>∃lv,v'= .agg #[.bool false,lv]∧dP w2 (Nf w' w2) lv (eA (iA (ds++dN kn)))) (fun O w' r=>?_) ?_)
  ·have h8:=j4 h5 (IG.row _) r;have h9:=rZ h8 Rb (by unfold maxLen;omega);have h10:=Gu (w:=w') (fun g hg=>(ownsRow.low h8 g hg).2) h9 VW Pa;exact h10
  rintro O wp v1 wq r he hb ⟨lv,rfl,hL⟩;have XE:=hL.dB (S:=FF) r.cF (iv:=[(wp.heap.size,wq.heap.size)]) aG;have XE:dP wq (Cf w ((wp.heap.size,wq.heap.size)::kI (.slice a3 (cs.length+(dN kn).length) c3))) lv (eA (iA (ds++dN kn))):=hL.cJ fun g hg=>hg.dB r.cF aG;replace hw:=hw.tr hb;generalize (wp.heap.size,wq.heap.size)::kI (.slice a3 (cs.length+(dN kn).length) c3)=ivq at*
  obtain⟨hnz,hvv⟩:=B7 VW;obtain⟨a4,n4,c4,rfl⟩:=XE.shape;intro ρe we re;have hcv:dR cs=mc (ds++dN kn):=by rw[XC,yL,(lW kn).1,ds_len]
  refine⟨_,rfl,hw.tr re.cQ,eA (iA (ds++dN kn)),⟨_,?_,XE.out re (cC w)⟩,hnz,?_⟩
  ·have:¬dR cs<0:=by rw[hcv,<-hvv];omega
   rw[bN this];rfl
  ·rw[hcv,<-hvv];rfl
theorem aAg(n:Int):dR [n.tmod 65536,(n.tdiv 65536).tmod 65536,(n.tdiv 65536).tdiv 65536]=n:=by
 simp only[dR]
 have h1:=Int.mul_tdiv_add_tmod n 65536;have h2:=Int.mul_tdiv_add_tmod (n.tdiv 65536) 65536;omega
theorem lN(n:Int)(w:World)(h1: -9223372036854775808<=n)(h2:n<=9223372036854775807):
  eD PG N.Fy #[.int .i64 n] w (eG w fun v w2=>dO w2 (Nf w w2) v n):=by
 refine GA (by simp) ?_;have b1:=xQ n;have b2:=xQ (n.tdiv 65536);have e1:=Int.mul_tdiv_add_tmod n 65536;have e2:=Int.mul_tdiv_add_tmod (n.tdiv 65536) 65536;have hsum:=aAg n;refine⟨by decide,n.tmod 65536,rfl,by decide,n.tdiv 65536,wo,by decide,_,rfl,by decide,n.tdiv 65536,wo,by decide,(n.tdiv 65536).tdiv 65536,wo,?_⟩;generalize n.tmod 65536=c0 at*
 generalize (n.tdiv 65536).tmod 65536=c1 at*
 generalize (n.tdiv 65536).tdiv 65536=c2 at*
 refine cD (cO (Φ:=fun _ w' v w2=>dO w2 (Nf w' w2) v n) (fun O w' r=>?_) ?_)
 ·rw[<-hsum];have ha:=r.lF (id:=1) (sz:=1) (n:=3) rfl rfl (by decide) (by intro u hu;simp at hu;rcases hu with rfl|rfl|rfl<;>rfl)
  exact xR (S:=fun g=>g=(O 1).g) (fun g hg=>by rw[hg];exact(r.low 1 _ rfl (r.nn 1 _ rfl (by intros;simp) (by simp))).2) (cs:=[c0,c1,c2]) ha (by
   intro c hc;simp at hc
   rcases hc with rfl|rfl|rfl<;>omega) (by simp)
 rintro O wa v1 wb r he hb hI;have hI:=hI.dB (S:=FF) r.cF (iv:=(wa.heap.size,wb.heap.size)::[]) aG;generalize (wa.heap.size,wb.heap.size)::[]=iv at*
 obtain⟨b,a,m,c,rfl⟩:=hI.shape;intro ρe we re;exact⟨_,rfl,hb.tr re.cQ,hI.out re (cC w)⟩
def kL(z:Int):Value:=if z.natAbs<1073741824 then .tuple #[.int .i64 z,.bool true]else .tuple #[.int .i64 0,.bool false]
theorem jt.Gv(h:jt w S v z):∃b a ls c,v= .agg #[.bool b,.slice a ls.length c]∧dP w S (.slice a ls.length c) ls∧sg b (val ls)=z:=by
 obtain⟨b,ls,⟨lv,h1,h2⟩,h3⟩:=h;obtain⟨a,c,rfl,_⟩:=h2.sl;exact⟨b,a,ls,c,h1,h2,h3⟩
theorem Ni{x:Nat}(h:ls[i]? =some x):wt i*x<=val ls:=by
 have hi:=(aD.1 h).1;have h1:=ek ls (i+1) hi;rw[dg h]at h1;omega
theorem aBM(h:0<i):4294967296<=wt i:=by
 obtain⟨k,rfl⟩:∃k,i=k+1:=⟨i-1,by omega⟩
 have:=zi k;rw[jG];omega
theorem oP(hS:Old S w)(hI:jt w S v z):
  eD PG N.xt #[v] w (eG w fun v' _=>v'=kL z):=by
 obtain⟨b,a,ls,c,rfl,hL,hz⟩:=hI.Gv;refine BC (by simp) ?_;have hlen:=hL.le
 refine⟨Nat×World,fun y=>⟨[(1,pP 0 0),(4,.o (.v (.int .i64 (val (ls.take y.1))))),(5,iZ y.1)],[(0,.box T.Int [.v (.bool b),.v (.slice a ls.length c)])],1,[],y.2⟩,fun y=>ls.length-y.1,
  fun y=>y.1<=ls.length∧dm w.heap.size w y.2∧val (ls.take y.1)<1073741824∧(∀j,0<j->j<y.1->ls[j]? =some 0),?_,?_⟩
 ·intro O w' r;exact⟨(0,w'),⟨by simp,r.cQ,by simp[val],by omega⟩,Sub.gn [] r⟩
 rintro⟨i,w1⟩ ⟨hi,hw,hv,h0⟩;dsimp only at hi hw hv h0 ⊢;refine dI.mk ?_ ?_<;>intro OI
 ·have OI:i<ls.length:=by simpa using OI
  obtain⟨a',c',e,_,Oy⟩:=hL.sl;injection e with e1 e2 e3;subst e1 e3;obtain⟨x,hx⟩:∃x,ls[i]? =some x:=⟨_,aB OI⟩
  have QK:=hL.lm x (aC hx);obtain⟨ad,rfl,q1,q2⟩:=Oy i x hx;have Pm:∀{H nx iv O w'},Rel H nx iv w.heap.size w1 O w'->w'.cell? (ad.add ((i:Int).toNat*1))=some (.int .u32 x):=fun r=>by
   rw[aE,aU];exact kR hS hw r q1 q2
  have Si:=Ni hx;refine dI.mk ?_ ?_<;>intro hp
  ·have hp:0<i:=by
    have:(i:Int)>0:=aI hp;omega
   have hw1:=aBM hp;refine⟨ad,rfl,by omega,.int .u32 x,fun O w' r=>Pm r,?_⟩;refine dI.mk ?_ ?_<;>intro OJ
   ·have OJ:x≠0:=by simpa using OJ
    intro ρe we re;refine⟨_,rfl,hw.tr re.cQ,?_⟩;have:¬z.natAbs<1073741824:=by
     have:=Nat.mul_le_mul hw1 (show 1<=x by omega);rw[<-hz,tf];omega
    show _=kL z;rw[kL,aK this];rfl
   ·have OJ:x=0:=by simpa using OJ
    subst OJ;refine⟨ad,rfl,by omega,.int .u32 0,fun O w' r=>Pm r,?_⟩;have Ph:val (ls.take (i+1))=val (ls.take i):=by rw[dg hx];omega
    have Rd:val (ls.take (i+1))<1073741824:=by rw[Ph];exact hv
    have h02:∀j,0<j->j<i+1->ls[j]? =some 0:=fun j h1 h2=>by
     rcases aQ j i with h3|h3
     ·exact h0 j h1 h3
     ·have:j=i:=by omega
      rw[this];exact hx
    refine⟨ad,rfl,by omega,.int .u32 0,fun O w' r=>Pm r,((0:Nat):Int),by decide,((val (ls.take (i+1)):Nat):Int),by rw[Ph,wrap64]<;>omega,((i+1:Nat):Int),wo,?_⟩;intro ρ3 w3 r3;exact⟨(i+1,w3),⟨OI,hw.tr r3.cQ,Rd,h02⟩,Sub.gn [] r3,by dsimp only;omega⟩
  ·have hp:i=0:=by
    have:¬((i:Int)>0):=aH hp;omega
   subst hp;refine⟨ad,rfl,by omega,.int .u32 x,fun O w' r=>Pm r,?_⟩;refine dI.mk ?_ ?_<;>intro WY
   ·have WY:=aI WY;intro ρe we re;refine⟨_,rfl,hw.tr re.cQ,?_⟩;have:¬z.natAbs<1073741824:=by
     rw[<-hz,tf];rw[j3]at Si;omega
    show _=kL z;rw[kL,aK this];rfl
   ·have WY:=aH WY;have Ph:val (ls.take (0+1))=x:=by rw[dg hx];simp[val,j3]
    have Rd:val (ls.take (0+1))<1073741824:=by rw[Ph];omega
    have h02:∀j,0<j->j<0+1->ls[j]? =some 0:=fun j h1 h2=>by
     omega
    refine⟨ad,rfl,by omega,.int .u32 x,fun O w' r=>Pm r,((x:Nat):Int),wo,((val (ls.take (0+1)):Nat):Int),by rw[Ph,wrap64]<;>simp[val]<;>omega,((0+1:Nat):Int),wo,?_⟩;intro ρ3 w3 r3;exact⟨(0+1,w3),⟨OI,hw.tr r3.cQ,Rd,h02⟩,Sub.gn [] r3,by dsimp only;omega⟩
 ·have OI:i=ls.length:=by
   have:¬i<ls.length:=by simpa using OI
   omega
  subst OI;rw[bG]at hv ⊢;have Oc:z.natAbs<1073741824:=by rw[<-hz,tf];exact hv
  cases b with
  |true=>
   refine⟨-(val ls:Int),wo,?_⟩;intro ρe we re;refine⟨_,rfl,hw.tr re.cQ,?_⟩;show _=kL z;rw[kL,if_pos Oc,<-hz,MF];rfl
  |false=>
   intro ρe we re;refine⟨_,rfl,hw.tr re.cQ,?_⟩;show _=kL z;rw[kL,if_pos Oc,<-hz,aA4];rfl
theorem D6{a b:Int}(hb:b≠0):a.tdiv (b.sign*(Nat.gcd a.natAbs b.natAbs:Nat))=(Rat.divInt a b).num∧b.tdiv (b.sign*(Nat.gcd a.natAbs b.natAbs:Nat))=((Rat.divInt a b).den:Int):=by
 have hg:0<Nat.gcd a.natAbs b.natAbs:=bm _ (by omega);obtain⟨k,hk⟩:((Nat.gcd a.natAbs b.natAbs:Nat):Int) ∣ a:=by rw[<-Int.natAbs_dvd_natAbs];exact Nat.gcd_dvd_left _ _
 obtain⟨l,hl⟩:((Nat.gcd a.natAbs b.natAbs:Nat):Int) ∣ b:=by rw[<-Int.natAbs_dvd_natAbs];exact Nat.gcd_dvd_right _ _
 have hc:(b.gcd a:Int)=(Nat.gcd a.natAbs b.natAbs:Nat):=by rw[Int.gcd_comm];rfl
 have XB:b.gcd a=Nat.gcd a.natAbs b.natAbs:=by rw[Int.gcd_comm];rfl
 rw[Rat.num_divInt,Rat.den_divInt,aK hb,hc,XB];generalize Nat.gcd a.natAbs b.natAbs=g at*
 have hgi:(g:Int)≠0:=by omega
 have hs:b.sign*b.sign=1:=by
  rcases Int.lt_or_gt_of_ne hb with h|h
  ·rw[bZ h];rfl
  ·rw[bf h];rfl
 have Vi:b.sign≠0:=fun e=>by rw[e]at hs;simp at hs
 have OJ:b.sign*g≠0:=Int.mul_ne_zero Vi hgi;have Py:((b.natAbs / g:Nat):Int)=b.sign*l:=by
  rw[Int.natCast_ediv,show((b.natAbs:Nat):Int)=b.sign*b by
   rcases Int.lt_or_gt_of_ne hb with h|h
   ·rw[bZ h];omega
   ·rw[bf h];omega]
  conv=>lhs;lhs;rhs;rw[hl]
  rw[show b.sign*(↑g*l)= ↑g*(b.sign*l) by rw[<-Int.mul_assoc,<-Int.mul_assoc,Int.mul_comm b.sign]];exact Int.mul_ediv_cancel_left _ hgi
 constructor
 ·rw[show b.sign*a / (g:Int)=b.sign*k by
   conv=>lhs;lhs;rhs;rw[hk]
   rw[show b.sign*(↑g*k)= ↑g*(b.sign*k) by rw[<-Int.mul_assoc,<-Int.mul_assoc,Int.mul_comm b.sign]]
   exact Int.mul_ediv_cancel_left _ hgi]
  conv=>lhs;lhs;rw[hk,show(g:Int)*k=(b.sign*g)*(b.sign*k) by
   rw[show (b.sign* ↑g)*(b.sign*k)=(b.sign*b.sign)*(↑g*k) by simp only[Int.mul_assoc,Int.mul_comm,Int.mul_left_comm],hs,Int.one_mul]]
  exact Int.mul_tdiv_cancel_left _ OJ
 ·rw[Py]
  conv=>lhs;lhs;rw[hl,show(g:Int)*l=(b.sign*g)*(b.sign*l) by
   rw[show (b.sign* ↑g)*(b.sign*l)=(b.sign*b.sign)*(↑g*l) by simp only[Int.mul_assoc,Int.mul_comm,Int.mul_left_comm],hs,Int.one_mul]]
  exact Int.mul_tdiv_cancel_left _ OJ
theorem r8(a b:Int)(w:World)(ha:a.natAbs<4611686018427387904)(hb:b.natAbs<4611686018427387904)(hb0:b≠0):
  eD PG N.uc #[.int .i64 a,.int .i64 b] w (eG w fun v w2=>cS w2 (Nf w w2) v (Rat.divInt a b)):=by
 refine yd (by simp) ?_;refine⟨-a,wo,-b,wo,?_⟩;conv=>whnf
 rw[show max a (-a)=(a.natAbs:Int) by omega,show max b (-b)=(b.natAbs:Int) by omega]
 refine⟨Nat×Nat×World,fun z=>⟨[(0,iZ a),(1,iZ b),(4,pP 0 0),(5,iZ z.1),(6,iZ z.2.1)],[(0,.box T.Rat [.v (.bool false),.v (.slice none 0 0),.v (.bool false),.v (.slice none 0 0)])],1,[],z.2.2⟩,fun z=>z.2.1,
  fun z=>dm w.heap.size w z.2.2∧Nat.gcd z.1 z.2.1=Nat.gcd a.natAbs b.natAbs∧z.1<4611686018427387904∧z.2.1<4611686018427387904,?_,?_⟩
 ·intro O w' r;exact⟨(a.natAbs,b.natAbs,w'),⟨r.cQ,rfl,ha,hb⟩,Sub.gn [] r⟩
 rintro⟨x,y,w1⟩ ⟨hw,hg,hx,hy⟩;dsimp only at hw hg hx hy ⊢;conv=>whnf
 refine dI.mk ?_ ?_<;>intro h
 ·have h:0<y:=by
   have:(y:Int)>0:=aI h;omega
  refine cK hτ da [.x 0,.x 1,.x 2,.x 3,.x 4,.x 5] (by kernel_rfl) (by kernel_rfl) ?_;have hm:=bw x h;refine⟨by omega,((x % y:Nat):Int),rfl,?_⟩;intro ρ3 w3 r3;exact⟨(y,x % y,w3),⟨hw.tr r3.cQ,by dsimp only;rw[<-hg,Nat.gcd_comm x y,Nat.gcd_rec y x,Nat.gcd_comm],hy,by dsimp only;omega⟩,Sub.gn [] r3,by dsimp only;omega⟩
 have h:y=0:=by
  have:¬(y:Int)>0:=aH h;omega
 subst h;rw[Nat.gcd_zero_right]at hg;have SO:x≠0:=by rw[hg];exact Nat.pos_iff_ne_zero.1 (bm _ (by omega))
 obtain⟨hn,hd⟩:=D6 (a:=a) hb0;rw[<-hg]at hn hd;have bn:(Rat.divInt a b).num.natAbs<=a.natAbs:=by rw[<-hn];exact Int.natAbs_tdiv_le_natAbs _ _
 have bd:((Rat.divInt a b).den:Int).natAbs<=b.natAbs:=by rw[<-hd];exact Int.natAbs_tdiv_le_natAbs _ _
 refine dI.mk ?_ ?_<;>intro PL
 ·have PL:=aI PL;rw[bZ PL,Int.neg_one_mul]at hn hd;refine⟨-(x:Int),wo,?_⟩;refine cK hτ da [.x 0,.x 1,.x 2,.x 4,.x 5,.x 6,.x 3,.x 7,.x 8,.x 9] (by kernel_rfl) (by kernel_rfl) ?_;refine⟨by omega,(Rat.divInt a b).num,by rw[hn,wrap64]<;>omega,by omega,((Rat.divInt a b).den:Int),by rw[hd,wrap64]<;>omega,?_⟩;refine cO (Φ:=fun _ w' v w2=>dO w2 (Nf w' w2) v (Rat.divInt a b).num) (fun O w' r=>lN _ w' (by omega) (by omega)) ?_;rintro O wa v1 wb r he OX hI;replace hw:=hw.tr OX;have hN:=hI.dB (S:=FF) r.cF (iv:=(wa.heap.size,wb.heap.size)::[]) aG;generalize (wa.heap.size,wb.heap.size)::[]=iv at*
  obtain⟨b1,a1,m1,c1,rfl⟩:=hN.shape;refine cO (Φ:=fun _ w' v w2=>dO w2 (Nf w' w2) v ((Rat.divInt a b).den:Int)) (fun O w' r=>lN _ w' (by omega) (by omega)) ?_;rintro O wa v1 PI r he OX hI;replace hw:=hw.tr OX;replace hN:=hN.cG (iv':=(wa.heap.size,PI.heap.size)::iv) r (cC w) he fun x hx=>List.mem_cons_of_mem _ hx;have hD:=hI.dB (S:=FF) r.cF (iv:=(wa.heap.size,PI.heap.size)::iv) aG;generalize (wa.heap.size,PI.heap.size)::iv=ON at*
  obtain⟨b2,a2,m2,c2,rfl⟩:=hD.shape;exact rtn hw fun ρe we re=>(cS.of hN hD).out re (cC w)
 ·have PL:=aH PL;rw[bf (by omega),Int.one_mul]at hn hd;refine cK hτ da [.x 0,.x 1,.x 2,.x 4,.x 5,.x 6,.x 3,.x 7,.x 8,.x 9] (by kernel_rfl) (by kernel_rfl) ?_;refine⟨by omega,(Rat.divInt a b).num,by rw[hn,wrap64]<;>omega,by omega,((Rat.divInt a b).den:Int),by rw[hd,wrap64]<;>omega,?_⟩;refine cO (Φ:=fun _ w' v w2=>dO w2 (Nf w' w2) v (Rat.divInt a b).num) (fun O w' r=>lN _ w' (by omega) (by omega)) ?_;rintro O wa v1 wb r he OX hI;replace hw:=hw.tr OX;have hN:=hI.dB (S:=FF) r.cF (iv:=(wa.heap.size,wb.heap.size)::[]) aG;generalize (wa.heap.size,wb.heap.size)::[]=iv at*
  obtain⟨b1,a1,m1,c1,rfl⟩:=hN.shape;refine cO (Φ:=fun _ w' v w2=>dO w2 (Nf w' w2) v ((Rat.divInt a b).den:Int)) (fun O w' r=>lN _ w' (by omega) (by omega)) ?_;rintro O wa v1 PI r he OX hI;replace hw:=hw.tr OX;replace hN:=hN.cG (iv':=(wa.heap.size,PI.heap.size)::iv) r (cC w) he fun x hx=>List.mem_cons_of_mem _ hx;have hD:=hI.dB (S:=FF) r.cF (iv:=(wa.heap.size,PI.heap.size)::iv) aG;generalize (wa.heap.size,PI.heap.size)::iv=ON at*
  obtain⟨b2,a2,m2,c2,rfl⟩:=hD.shape;exact rtn hw fun ρe we re=>(cS.of hN hD).out re (cC w)
theorem vW(h:z.natAbs<1073741824):kL z= .tuple #[.int .i64 z,.bool true]:=if_pos h
theorem Ej{x y:Int}(hS:Old S w)(hx:jt w S v x)(hy:jt w S u y)(hxs:x.natAbs<1073741824)(hys:y.natAbs<1073741824)(Pw:y≠0):
  eD PG N.tN #[v,u] w (eG w fun v' w2=>cS w2 (Nf w w2) v' (Rat.divInt x y)):=by
 have hw:=bR w;replace hx:=hx.cJ (S':=Cv S w.heap.size []) fun _ h=>.inl h;replace hy:=hy.cJ (S':=Cv S w.heap.size []) fun _ h=>.inl h;obtain⟨bx,ax,lx,cx,rfl⟩:=hx.shape;obtain⟨b2,ay,ly,cy,rfl⟩:=hy.shape;refine sS (by simp) ?_;refine cD (cE hw (fun _ w' v w2=>v= .tuple #[.int .i64 x,.bool true]) (fun O w' r=>(oP (Rel.old r hS) (hx.rel r hS)).mono fun e w2 ⟨v2,e1,e2,e3⟩=>⟨v2,e1,e2,by rw[e3,vW hxs]⟩) ?_);rintro O QA v1 Pg OP r he hw h_ rfl;replace hx:=hx.cG r hS he (mC h_);replace hy:=hy.cG r hS he (mC h_);refine cD (cE hw (fun _ w' v w2=>v= .tuple #[.int .i64 y,.bool true]) (fun O w' r=>(oP (Rel.old r hS) (hy.rel r hS)).mono fun e w2 ⟨v2,e1,e2,e3⟩=>⟨v2,e1,e2,by rw[e3,vW hys]⟩) ?_);rintro O _ v1 _ ON r he hw h_ rfl;refine cD (cE hw (fun _ w' v w2=>cS w2 (Nf w' w2) v (Rat.divInt x y)) (fun O w' r=>r8 x y w' (by omega) (by omega) Pw) ?_);rintro O _ _ _ iv r he hw h_ hI;have hR:=hI.dB (S:=FF) r.cF (mN h_);obtain⟨b1,a1,m1,c1,b3,a3,m3,c3,rfl⟩:=hR.shape;exact rtn hw fun ρe we re=>hR.out re (cC w)
theorem B8(n:Int):Rat.divInt n 1=(n:Rat):=by
 have:=Rat.num_divInt_den (n:Rat);rw[Rat.num_intCast,Rat.den_intCast]at this;exact this
theorem kF(n:Int)(w:World)(hn:n.natAbs<1073741824):
  eD PG N.qP #[.int .i64 n] w (eG w fun v' w2=>cS w2 (Nf w w2) v' (n:Rat)):=by
 have hw:=bR w;refine qc (by simp) ?_;refine cD (cO (Φ:=fun _ w' v w2=>dO w2 (Nf w' w2) v n) (fun O w' r=>lN _ w' (by omega) (by omega)) ?_);rintro O wa v1 wb r he OX hI;replace hw:=hw.tr OX;have hN:=hI.dB (S:=FF) r.cF (iv:=(wa.heap.size,wb.heap.size)::[]) aG;generalize (wa.heap.size,wb.heap.size)::[]=iv at*
 obtain⟨b1,a1,m1,c1,rfl⟩:=hN.shape;refine cD (cO (Φ:=fun _ w' v w2=>dO w2 (Nf w' w2) v 1) (fun O w' r=>lN _ w' (by omega) (by omega)) ?_);rintro O wa v1 PI r he OX hI;replace hw:=hw.tr OX;replace hN:=hN.cG (iv':=(wa.heap.size,PI.heap.size)::iv) r (cC w) he fun x hx=>List.mem_cons_of_mem _ hx;have hD:=hI.dB (S:=FF) r.cF (iv:=(wa.heap.size,PI.heap.size)::iv) aG;generalize (wa.heap.size,PI.heap.size)::iv=ON at*
 obtain⟨b2,a2,m2,c2,rfl⟩:=hD.shape;refine cD (cE hw (fun _ w' v w2=>cS w2 (Nf w' w2) v (Rat.divInt n 1)) (fun O w' r=>Ej (Rel.old r (cC w)) (hN.rel r (cC w)).r (hD.rel r (cC w)).r hn (by decide) (by decide)) ?_);rintro O _ _ _ iv r he hw h_ hI;have hR:=hI.dB (S:=FF) r.cF (mN h_);obtain⟨b1,a1,m1,c1,b3,a3,m3,c3,rfl⟩:=hR.shape;rw[B8]at hR;exact rtn hw fun ρe we re=>hR.out re (cC w)
theorem Nj{n1 n2:Bool}{ms:List Nat}(hS:Old S w)(hx:vO w S v n1 ls)(hy:vO w S u n2 ms):
  eD PG N.nQ #[v,u] w (eG w fun v' _=>v'= .bool (decide (n1=n2∧ls=ms))):=by
 obtain⟨lv,rfl,h1⟩:=hx;obtain⟨mv,rfl,h2⟩:=hy;obtain⟨a,c,rfl,_,ha⟩:=h1.sl;obtain⟨b,e,rfl,_,hb⟩:=h2.sl;have hle1:=h1.le;have VU:=h2.le;have hw:=bR w;refine wi (by simp) ?_;refine dI.mk ?_ ?_<;>intro hn
 ·have hn:n1≠n2:=fun h=>by rw[h]at hn;simp at hn
  intro O w2 r;exact⟨_,rfl,r.cQ,by rw[bN (fun h=>hn h.1)];rfl⟩
 have hn:n1=n2:=by simpa using hn
 subst hn;refine dI.mk ?_ ?_<;>intro h
 ·have h:ls.length≠ms.length:=fun he=>by rw[he]at h;simp at h
  intro O w2 r;exact⟨_,rfl,r.cQ,by rw[bN (fun e=>h (by rw[e.2]))];rfl⟩
 have h:ls.length=ms.length:=by
  have:(ls.length:Int)=ms.length:=by simpa using h
  omega
 refine⟨Nat×World,fun z=>⟨[(2,pP 0 0),(3,pP 1 0),(5,iZ z.1)],[(1,.box T.Int [.v (.bool n1),.v (.slice b ms.length e)]),(0,.box T.Int [.v (.bool n1),.v (.slice a ls.length c)])],2,[],z.2⟩,fun z=>ls.length-z.1,
  fun z=>z.1<=ls.length∧dm w.heap.size w z.2∧ls.take z.1=ms.take z.1,?_,?_⟩
 ·intro O w' r;exact⟨(0,w'),⟨by simp,r.cQ,by simp⟩,Sub.gn [] r⟩
 rintro⟨i,w1⟩ ⟨hi,hw,ht⟩;dsimp only at hi hw ht ⊢;refine dI.mk ?_ ?_<;>intro OI
 ·have OI:i<ls.length:=by simpa using OI
  obtain⟨x,hx⟩:∃x,ls[i]? =some x:=⟨_,aB OI⟩
  obtain⟨y,hy⟩:∃x,ms[i]? =some x:=⟨_,aB (by omega)⟩
  obtain⟨ad,rfl,q1,q2⟩:=ha i x hx;obtain⟨ad2,rfl,q3,q4⟩:=hb i y hy;have Oo:∀{H nx iv O w'},Rel H nx iv w.heap.size w1 O w'->w'.cell? (ad.add ((i:Int).toNat*1))=some (.int .u32 x):=fun r=>by
   rw[aE,aU];exact kR hS hw r q1 q2
  have Qb:∀{H nx iv O w'},Rel H nx iv w.heap.size w1 O w'->w'.cell? (ad2.add ((i:Int).toNat*1))=some (.int .u32 y):=fun r=>by
   rw[aE,aU];exact kR hS hw r q3 q4
  refine cK hτ da [.x 0,.x 1,.x 2,.x 3,.x 4,.x 5,.x 6,.x 7,.x 8,.x 9,.x 10] (by kernel_rfl) (by kernel_rfl) ?_;refine⟨ad,rfl,by omega,.int .u32 x,fun O w' r=>Oo r,ad2,rfl,by omega,.int .u32 y,fun O w' r=>Qb r,?_⟩;refine dI.mk ?_ ?_<;>intro OJ
  ·have OJ:x≠y:=fun h=>by rw[h]at OJ;simp at OJ
   intro O w2 r;refine⟨_,rfl,hw.tr r.cQ,?_⟩
   rw[bN (fun e=>OJ (by
    have:=e.2;rw[this,hy]at hx;injection hx with hx
    exact hx.symm))]
   rfl
  have OJ:x=y:=by
   have:(x:Int)=y:=by simpa using OJ
   omega
  subst OJ;have Ss:ls.take (i+1)=ms.take (i+1):=by rw[List.take_add_one,List.take_add_one,ht,hx,hy]
  refine⟨((i+1:Nat):Int),wo,?_⟩;intro ρ3 w3 r3;exact⟨(i+1,w3),⟨OI,hw.tr r3.cQ,Ss⟩,Sub.gn [] r3,by dsimp only;omega⟩
 have OI:i=ls.length:=by
  have:¬i<ls.length:=by simpa using OI
  omega
 subst OI;rw[bG,h,bG]at ht;intro O w2 r;exact⟨_,rfl,hw.tr r.cQ,by rw[bS ⟨rfl,ht⟩];rfl⟩
theorem KO{a:List Nat}(la:Lm a)(lb:Lm b)(na:Nz a)(nb:Nz b)(h:val a=val b):a=b:=by
 have:a.length=b.length:=by
  rcases bs a.length b.length with h1|h1|h1
  ·have:=jH la nb h1;omega
  ·exact h1
  ·have:=jH lb na h1;omega
 exact val_inj la lb this h
theorem D7{x y:Int}(hS:Old S w)(hx:dO w S v x)(hy:dO w S u y):
  eD PG N.nQ #[v,u] w (eG w fun v' _=>v'= .bool (decide (x=y))):=by
 obtain⟨ls,h1,h2,h3⟩:=hx;obtain⟨ms,k1,k2,k3⟩:=hy;have e:decide (decide (x<0)=decide (y<0)∧ls=ms)=decide (x=y):=by
  refine decide_eq_decide.2 ⟨fun ⟨e1,e2⟩=>?_,fun e1=>?_⟩
  ·have e1:=decide_eq_decide.1 e1;rw[e2]at h3;omega
  ·subst e1;obtain⟨_,_,l1⟩:=h1;obtain⟨_,_,l2⟩:=k1;exact⟨rfl,KO l1.lm l2.lm h2 k2 (by omega)⟩
 exact(Nj hS h1 k1).mono fun _ w2 ⟨v2,e1,e2,e3⟩=>⟨v2,e1,e2,by rw[e3,e]⟩
theorem xM{p:Rat}(hS:Old S w)(hx:cS w S v p)(hy:cS w S u q):
  eD PG N.Af #[v,u] w (eG w fun v' _=>v'= .bool (decide (p=q))):=by
 obtain⟨b1,a1,n1,c1,b2,a2,n2,c2,rfl⟩:=hx.shape;obtain⟨b3,a3,n3,c3,b4,a4,n4,c4,rfl⟩:=hy.shape;refine Br (by simp) ?_;refine cD (cO (Φ:=fun _ w' v w2=>v= .bool (decide (p.num=q.num))) (fun O w' r=>D7 (oS hS r) (hx.num.cI fun g hg=>r.cQ.block g (hS g hg)) (hy.num.cI fun g hg=>r.cQ.block g (hS g hg))) ?_);rintro O wa v1 wb r he hb rfl;have hw:=hb;generalize (wa.heap.size,wb.heap.size)::[]=iv at*
 refine dI.mk ?_ ?_<;>intro h
 ·have h:=aI h;refine cD (cE hw (fun _ w' v w2=>v= .bool (decide ((p.den:Int)=q.den))) (fun O w' r=>D7 (oS hS r) (hx.den.cI (kS hw r hS)) (hy.den.cI (kS hw r hS))) ?_);rintro O _ _ _ ON r he hw h_ rfl;intro ρe we re;refine⟨_,rfl,hw.tr re.cQ,?_⟩;have:decide (p=q)=decide ((p.den:Int)=q.den):=decide_eq_decide.2 ⟨fun e=>by rw[e],fun e=>Rat.ext h (by omega)⟩;rw[this];rfl
 ·have h:=aH h;intro ρe we re;refine⟨_,rfl,hw.tr re.cQ,?_⟩;rw[bN (fun e=>h (by rw[e]))];rfl
theorem tj{xs ys:List Rat}(hS:Old S w)(hx:cN w S v xs)(hy:cN w S u ys):
  eD PG N.qL #[v,u] w (eG w fun v' _=>v'= .bool (decide (xs=ys))):=by
 obtain⟨a,c,rfl,hc,hm⟩:=dH.shape hx;obtain⟨b,e,rfl,XB,UE⟩:=dH.shape hy;unfold maxLen at hm UE;refine uo (by simp) ?_;refine dI.mk ?_ ?_<;>intro h
 ·have h:xs.length≠ys.length:=fun he=>by rw[he]at h;simp at h
  intro O w2 r;exact⟨_,rfl,r.cQ,by rw[bN (fun e=>h (by rw[e]))];rfl⟩
 have h:xs.length=ys.length:=by
  have:(xs.length:Int)=ys.length:=by simpa using h
  omega
 refine⟨Nat×World,fun z=>⟨[(0,sV a xs.length c),(1,sV b ys.length e),(5,iZ z.1)],[],0,[],z.2⟩,fun z=>xs.length-z.1,
  fun z=>z.1<=xs.length∧dm w.heap.size w z.2∧xs.take z.1=ys.take z.1,?_,?_⟩
 ·intro O w' r;exact⟨(0,w'),⟨by simp,r.cQ,by simp⟩,Sub.gn [] r⟩
 rintro⟨i,w1⟩ ⟨hi,hw,ht⟩;dsimp only at hi hw ht ⊢;refine dI.mk ?_ ?_<;>intro OI
 ·have OI:i<xs.length:=by simpa using OI
  obtain⟨x,Ps⟩:∃x,xs[i]? =some x:=⟨_,aB OI⟩
  obtain⟨y,To⟩:∃x,ys[i]? =some x:=⟨_,aB (by omega)⟩
  obtain⟨ad2,cs2,rfl,Qc,-,Pa⟩:=dH.load hy To;obtain⟨p2,q2,r2,s2,t2,u2,v2,w2,rfl,Qc⟩:=Qc;obtain⟨ad,cs,rfl,hR,-,hl⟩:=dH.load hx Ps;obtain⟨p1,q1,r1,s1,t1,u1,v1,w1,rfl,hR⟩:=hR;refine cK hτ da [.x 0,.x 1,.x 2,.x 3,.x 4,.x 5,.x 6,.x 7,.x 8,.x 9] (by kernel_rfl) (by kernel_rfl) ?_;refine⟨ad,rfl,by omega,[.bool p1,.slice q1 r1 s1,.bool t1,.slice u1 v1 w1],rfl,rdO hl hw hS,ad2,rfl,by omega,[.bool p2,.slice q2 r2 s2,.bool t2,.slice u2 v2 w2],rfl,rdO Pa hw hS,?_⟩;refine cE hw (fun _ w' v w2=>v= .bool (decide (x=y))) (fun O w' r=>xM (oS hS r) (hR.cI (kS hw r hS)) (Qc.cI (kS hw r hS))) ?_;rintro O _ _ _ ON r he hw h_ rfl;refine dI.mk ?_ ?_<;>intro OJ
  ·have OJ:x≠y:=fun h=>by rw[h]at OJ;simp at OJ
   intro O w2 r;refine⟨_,rfl,hw.tr r.cQ,?_⟩
   rw[bN (fun e=>OJ (by
    rw[e,To]at Ps;injection Ps with Ps
    exact Ps.symm))]
   rfl
  have OJ:x=y:=by simpa using OJ
  subst OJ;have Ss:xs.take (i+1)=ys.take (i+1):=by rw[List.take_add_one,List.take_add_one,ht,Ps,To]
  refine⟨((i+1:Nat):Int),wo,?_⟩;intro ρ3 w3 r3;exact⟨(i+1,w3),⟨OI,hw.tr r3.cQ,Ss⟩,Sub.gn [] r3,by dsimp only;omega⟩
 have OI:i=xs.length:=by
  have:¬i<xs.length:=by simpa using OI
  omega
 subst OI;rw[bG,h,bG]at ht;intro O w2 r;exact⟨_,rfl,hw.tr r.cQ,by rw[bS ht];rfl⟩
theorem cS.four{b b2:Bool}{a:Option Addr}{n c n2 c2:Nat}(h:cS w S (.agg #[.bool b,.slice a n c,.bool b2,.slice a2 n2 c2]) q):Eh w S [.bool b,.slice a n c,.bool b2,.slice a2 n2 c2] (q.num,(q.den:Int)):=
 ⟨b,a,n,c,b2,a2,n2,c2,rfl,h.r⟩
theorem cS.pW{b b2:Bool}{a:Option Addr}{n c n2 c2:Nat}(h:cS w S (.agg #[.bool b,.slice a n c,.bool b2,.slice a2 n2 c2]) q):iB w S [.bool b,.slice a n c,.bool b2,.slice a2 n2 c2] q:=
 ⟨b,a,n,c,b2,a2,n2,c2,rfl,h⟩
theorem Rel.lt(r:Rel H nx iv B w O w'){id t:Nat}{cs:List At}(h:dE H id=some (.box t cs)):(O id).g<w'.heap.size:=(r.low id _ h (r.nn id _ h (by intros;simp) (by simp))).2
end Go.Ex
