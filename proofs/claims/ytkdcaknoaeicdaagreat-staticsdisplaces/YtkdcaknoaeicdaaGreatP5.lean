/- Texts X24 to X51: lemmas, each with its conditions. -/
import Derived.Test.YtkdcaknoaeicdaaGreatP4
namespace Go.Ex
open Go Go.Sx Go.Proofs
end Go.Ex
namespace Go.Sx
open Go Go.Ex Go.Proofs
variable{O:Nat->Sx.dg}
theorem Rel.pz{H:Hp}{nx:Nat}{iv:Iv}{B:Nat}{w w':World}(r:Rel H nx iv B w O w'){id t sz n:Nat}{cs:List At}(h:dB H id=some (.box t cs))(hl:cs.length=n*sz)(hn:n<=maxLen)(h1:∀u∈cs,(u.den O).oneCell'=true):
  iB w' (fun g=>g=(O id).g) sz (.slice (some ⟨(O id).g,0,none⟩) n n) (cs.map (At.den O)) n:=by
 refine⟨hn,by simpa using hl,fun u hu=>?_,_,_,rfl,aF _,fun j u hu=>⟨_,rfl,rfl,?_⟩⟩
 ·obtain⟨x,hx,rfl⟩:=aT.1 hu;exact h1 x hx
 ·have h0:(⟨(O id).g,0,none⟩:Addr).add j=⟨(O id).g,j,none⟩:=by
   cases j with
   |zero=>rfl
   |succ j=>simp[Addr.add]
  rw[h0,cell_of (r.box id t _ h)];exact hu
end Go.Sx
namespace Go.Ex
open Go Go.Sx Go.Proofs
theorem Kl{n:Nat}(h:n<=9223372036854775807):IntKind.i64.wrap (n:Int)=n:=by rw[wrap64]<;>omega
theorem MC{t b:Nat}(h:t<=9223372036854775807):IntKind.i64.wrap ((t:Int).tdiv (b:Int))=((t / b:Nat):Int):=by
 have h1:=Nat.div_le_self t b;rw[Int.tdiv_eq_ediv_of_nonneg (by omega),<-Int.natCast_ediv];exact Kl (by omega)
end Go.Ex
namespace Go.Ex
open Go Go.Sx Go.Proofs
def AB:Value:=.agg #[.bool false,.slice none 0 0,.bool false,.slice none 0 0]
theorem lW{n:Int}(h1: -9223372036854775808<=n)(h2:n<=9223372036854775807):ln n.natAbs<=2:=gQ.2 (by show n.natAbs<4294967296^2;omega)
end Go.Ex
namespace Go.Sx
open Go Go.Ex Go.Proofs
variable{cs:List Value}{O:Nat->Sx.dg}
theorem Rel.ie{H:Hp}{nx:Nat}{iv:Iv}{B:Nat}{w w':World}(r:Rel H nx iv B w O w'){id t m sz:Nat}(h:dB H id=some (.vec t sz cs))(hm:cs.length=m*sz)(Rb:m<=maxLen)(hs:0<sz)(h1:∀u∈cs,u.oneCell'=true):
  iB w' (fun g=>B<=g∧g<w'.heap.size) sz ((At.w id m).den O) cs m:=by
 rcases r.vec id t sz _ h with⟨hn,rfl⟩|⟨hn,spare,hb,hc,Q5⟩
 ·have Sn:m=0:=by
   rcases bI m with h|h
   ·exact h
   ·have:=Nat.mul_pos h hs;simp at hm;omega
  subst Sn;refine⟨Rb,by simp,by simp,none,0,by simp[At.den,hn],aF _,by simp⟩
 ·refine⟨Rb,hm,h1,some ⟨(O id).g,0,none⟩,(O id).cap,by simp[At.den,hn],?_,fun j x hx=>⟨_,rfl,r.low id _ h hn,?_⟩⟩
  ·have h1:(cs++spare).length=cs.length+spare.length:=List.length_append;have h2:m*sz<=(O id).cap*sz:=by omega
   exact bp h2 hs
  ·rw[dQ,cell_of hb,aQ,aL (aD.1 hx).1];exact hx
end Go.Sx
namespace Go.Ex
open Go Go.Sx Go.Proofs
end Go.Ex
namespace Go.Ex
open Go Go.Sx Go.Proofs
variable{qs:List Rat}{xs:List Value}{i:Nat}{O:Nat->Sx.dg}{row:Option Nat}{q:Rat}
def signed:Bool->ByteArray->ByteArray
 |true,s=>⟨#[45]⟩++s
 |false,s=>s
def MZ(w:World)(S:Nat->Prop)(cs:List Value)(q:Rat):Prop:=∃b a n c b2 a2 n2 c2,cs=[.bool b,.slice a n c,.bool b2,.slice a2 n2 c2]∧dS w S (.agg #[.bool b,.slice a n c,.bool b2,.slice a2 n2 c2]) q
def Fr(w:World)(S:Nat->Prop)(css:List (List Value))(qs:List Rat):Prop:=css.length=qs.length∧∀(j:Nat) cs q,css[j]? =some cs->qs[j]? =some q->MZ w S cs q
section
variable{S S':Nat->Prop}{w w2:World}{cs:List Value}{css:List (List Value)}{q:Rat}{qs:List Rat}
end
section
variable{S S':Nat->Prop}{H:Hp}{nx:Nat}{iv iv':Iv}{B:Nat}{w w' w2:World}{O:Nat->Sx.dg}{css:List (List Value)}{qs:List Rat}
end
theorem eH:∀{css:List (List Value)},(∀cs∈css,cs.length=4)->css.flatten.length=css.length*4
 |[],_=>rfl
 |c::r,h=>by
  rw[List.flatten_cons,List.length_append,eH (fun cs hc=>h cs (List.mem_cons_of_mem _ hc)),h c aG,List.length_cons];omega
theorem flat_get:∀{css:List (List Value)} {j:Nat} {cs:List Value},(∀cs∈css,cs.length=4)->css[j]? =some cs->∀k u,cs[k]? =some u->css.flatten[j*4+k]? =some u
 |[],j,cs,_,hj,_,_,_=>by simp at hj
 |c::r,0,cs,h,hj,k,u,hu=>by
  simp at hj;subst hj;rw[List.flatten_cons,aL (by have:=(aD.1 hu).1;omega)];simpa using hu
 |c::r,j+1,cs,h,hj,k,u,hu=>by
  have hc:=h c aG;rw[List.flatten_cons,aM (by omega),hc,show(j+1)*4+k-4=j*4+k by omega];exact flat_get (fun cs hc=>h cs (List.mem_cons_of_mem _ hc)) (by simpa using hj) k u hu
theorem jH:∀{css:List (List Value)} {j:Nat} {cs:List Value},(∀cs∈css,cs.length=4)->j<css.length->css.flatten.take (j*4)++cs++css.flatten.drop (j*4+4)=(css.set j cs).flatten
 |[],j,cs,_,hj=>by simp at hj
 |c::r,0,cs,h,_=>by
  have hc:=h c aG;simp[List.flatten_cons,hc]
 |c::r,j+1,cs,h,hj=>by
  have hc:=h c aG
  rw[List.flatten_cons,show(j+1)*4=c.length+j*4 by omega,List.take_length_add_append,show c.length+j*4+4=c.length+(j*4+4) by omega,List.drop_length_add_append,List.set_cons_succ,List.flatten_cons,
   <-jH (fun cs hc=>h cs (List.mem_cons_of_mem _ hc)) (by simpa using hj),bZ,bZ,bZ]
abbrev Out(B:Nat)(iv:Iv):Nat->Prop:=Cv (fun g=>g<B) B iv
theorem oD{H:Hp}{nx:Nat}{iv:Iv}{B Bc e sz m:Nat}{w w':World}{v:Value}(h:w.ownsRow Bc e sz v m xs)(hc:∀g,v.ownBlock=some g->Out B iv g)(r:Rel H nx iv B w O w'):w'.ownsRow Bc e sz v m xs:=
 ownsRow.cI h fun b hb=>Rel.same r (fun _ h=>h) (hc b hb)
theorem gT{w w1 w2:World}(h:w.grownBy w1 row)(k:eB w.heap.size w1 w2):w.grownBy w2 row:=
 ⟨k.os.trans h.os,k.tape.trans h.tape,k.output.trans h.output,ah h.size k.size,fun b hb hn=>(k.block b hb).trans (h.block b hb hn)⟩
def gu(i:Nat)(f:Nat->Rat->Rat)(qs:List Rat):List Rat:=qs.mapIdx fun j q=>if j<i then f j q else q
theorem sH(f:Nat->Rat->Rat)(qs:List Rat):gu 0 f qs=qs:=by
 apply bM;intro j;simp[gu]
theorem vJ(f:Nat->Rat->Rat)(qs:List Rat):gu qs.length f qs=qs.mapIdx f:=by
 apply bM;intro j;simp only[gu,List.getElem?_mapIdx]
 cases h:qs[j]? with
 |none=>rfl
 |some q=>simp[(aD.1 h).1]
theorem oE{f:Nat->Rat->Rat}(h:qs[i]? =some q):(gu i f qs).set i (f i q)=gu (i+1) f qs:=by
 apply bM;intro j;have hi:=(aD.1 h).1;by_cases Pb:i=j
 ·subst Pb;rw[aW (by simp[gu];exact hi)];simp[gu,List.getElem?_mapIdx,h]
 ·rw[aX Pb];simp only[gu,List.getElem?_mapIdx]
  have:(j<i)↔(j<i+1):=by omega
  simp[this]
theorem Fu{f:Nat->Rat->Rat}(h:qs[i]? =some q)(hf:f i q=q):gu i f qs=gu (i+1) f qs:=by
 rw[<-oE h,hf];apply bM;intro j;have hi:=(aD.1 h).1;by_cases Pb:i=j
 ·subst Pb;rw[aW (by simp[gu];exact hi)];simp[gu,List.getElem?_mapIdx,h]
 ·rw[aX Pb]
theorem zo{f:Nat->Rat->Rat}(h:qs[i]? =some q):(gu i f qs)[i]? =some q:=by
 simp only[gu,List.getElem?_mapIdx,h]
 simp
section
variable{C C' S S':Nat->Prop}{H:Hp}{nx:Nat}{iv iv':Iv}{B:Nat}{w w' w2:World}{O:Nat->Sx.dg}{v:Value}{qs:List Rat}
end
end Go.Ex
namespace Go.Ex
variable{M:List (List Rat)}{s:List (List Rat)×List Nat}{h i n:Nat}
def dD(M:List (List Rat))(i c:Nat):Rat:=(M.getD i []).getD c 0
def iJ(M:List (List Rat))(c:Nat):Nat->Nat->Nat
 |0,k=>k
 |f+1,k=>if dD M k c=0 then iJ M c f (k+1)else k
def fP{α:Type}(d:α)(l:List α)(i j:Nat):List α:=(l.set i (l.getD j d)).set j (l.getD i d)
def rT(p:Rat)(ps:List Rat)(j:Nat)(q:Rat):Rat:=q+p*ps.getD j 0
def dc(M:List (List Rat))(at_ c i:Nat):List (List Rat):=M.mapIdx fun j r=>if j<i∧j≠at_ then r.mapIdx (rT (-(r.getD c 0)) (M.getD at_ []))else r
def scaled(M:List (List Rat))(at_ c:Nat):List (List Rat):=M.set at_ ((M.getD at_ []).map (· *(1 / dD M at_ c)))
def dX(s:List (List Rat)×List Nat)(c:Nat):List (List Rat)×List Nat:=
 if s.2.length<s.1.length then
  let k:=iJ s.1 c (s.1.length-s.2.length) s.2.length
  if k=s.1.length then s else
   let M1:=scaled (fP [] s.1 s.2.length k) s.2.length c
   (dc M1 s.2.length c M1.length,s.2++[c])
 else s
def cM(M:List (List Rat))(cols:Nat):List (List Rat)×List Nat:=(List.range cols).foldl dX (M,[])
theorem j8{α:Type}(d:α)(l:List α)(i j:Nat):(fP d l i j).length=l.length:=by simp[fP]
theorem gj(M:List (List Rat))(a c i:Nat):(dc M a c i).length=M.length:=by simp[dc]
theorem qk(M:List (List Rat))(a c:Nat):(scaled M a c).length=M.length:=by simp[scaled]
theorem nV(s:List (List Rat)×List Nat)(c:Nat):(dX s c).1.length=s.1.length:=by
 unfold dX;split
 ·dsimp only
  split
  ·rfl
  ·dsimp only
   rw[gj,qk,j8]
 ·rfl
theorem yQ(M:List (List Rat))(c:Nat):∀f k,k<=iJ M c f k∧iJ M c f k<=k+f
 |0,k=>⟨aF _,aF _⟩
 |f+1,k=>by
  unfold iJ;split
  ·have:=yQ M c f (k+1);omega
  ·omega
theorem yR(M:List (List Rat))(c:Nat):∀f k,iJ M c f k<k+f->dD M (iJ M c f k) c≠0
 |0,k,h=>by simp[iJ]at h
 |f+1,k,h=>by
  unfold iJ at h ⊢;split
  ·rename_i h0;rw[if_pos h0]at h;exact yR M c f (k+1) (by omega)
  ·rename_i h0;exact h0
theorem FW{c f k:Nat}(h:dD M k c=0):iJ M c (f+1) k=iJ M c f (k+1):=by rw[iJ,if_pos h]
theorem FX{c f k:Nat}(h:dD M k c≠0):iJ M c (f+1) k=k:=by rw[iJ,aK h]
theorem CS(M:List (List Rat))(a c:Nat):dc M a c 0=M:=by
 apply bM;intro j;simp[dc]
theorem rV(M:List (List Rat))(a c i:Nat):(dc M a c i)[a]? =M[a]? :=by
 simp only[dc,List.getElem?_mapIdx]
 cases M[a]? <;>simp
theorem Fk(M:List (List Rat))(a c i j:Nat)(h:i<=j):(dc M a c i)[j]? =M[j]? :=by
 simp only[dc,List.getElem?_mapIdx]
 cases M[j]? with
 |none=>rfl
 |some r=>simp;omega
theorem CT{a c:Nat}{r:List Rat}(h:M[i]? =some r)(OG:i≠a):(dc M a c i).set i (r.mapIdx (rT (-(r.getD c 0)) (M.getD a [])))=dc M a c (i+1):=by
 apply bM;intro j;have hi:=(aD.1 h).1;by_cases Pb:i=j
 ·subst Pb;rw[aW (by rw[gj];exact hi)];simp[dc,List.getElem?_mapIdx,h,OG]
 ·rw[aX Pb];simp only[dc,List.getElem?_mapIdx]
  have:(j<i)↔(j<i+1):=by omega
  simp[this]
theorem CU(M:List (List Rat))(a c:Nat):dc M a c a=dc M a c (a+1):=by
 apply bM;intro j;simp only[dc,List.getElem?_mapIdx]
 have:(j<a∧j≠a)↔(j<a+1∧j≠a):=by omega
 simp[this]
def Ht(M:List (List Rat))(h:Nat):Prop:=∀r∈M,∀q∈r,rl q+1<=h
theorem Ht.at{r:List Rat}(H:Ht M h)(hi:M[i]? =some r):∀q∈r,rl q+1<=h:=H r (aC hi)
theorem Ht.swap{j:Nat}(H:Ht M h)(hi:i<M.length)(hj:j<M.length):Ht (fP [] M i j) h:=by
 intro r hr;have:r∈M:=by
  unfold fP at hr;rcases bJ hr with h1|h1
  ·rcases bJ h1 with h2|h2
   ·exact h2
   ·rw[h2,List.getD,aB hj];exact aY hj
  ·rw[h1,List.getD,aB hi];exact aY hi
 exact H r this
theorem Jm:rl 1=1:=by decide
theorem Mr{q:Rat}(h:q≠0):rl (1 / q)<=rl q+1:=by
 have:=Jg 1 h;rw[Jm]at this;omega
theorem HF{r:List Rat}(H:∀q∈r,rl q+1<=h)(h2:2<=h)(c:Nat):rl (r.getD c 0)+1<=h:=by
 rw[List.getD]
 cases hc:r[c]? with
 |none=>simp;exact ah (by decide) h2
 |some q=>simp;exact H q (aC hc)
theorem BM{j:Nat}(hi:i<M.length)(hj:j<M.length):(fP [] M i j)[i]? =M[j]? :=by
 unfold fP;by_cases h:j=i
 ·subst h;rw[aW (by simpa using hi),List.getD,aB hi];rfl
 ·rw[aX h,aW hi,List.getD,aB hj];rfl
theorem Di{j c:Nat}(hi:i<M.length)(hj:j<M.length):dD (fP [] M i j) i c=dD M j c:=by
 simp only[dD,List.getD,BM hi hj]
def fX(n:Nat)(M:List (List Rat)):Prop:=∀r∈M,r.length=n
theorem fX.set{r:List Rat}(h:fX n M)(hr:r.length=n):fX n (M.set i r):=fun x hx=>by
 rcases bJ hx with h1|h1
 ·exact h x h1
 ·rw[h1];exact hr
theorem fX.getD(h:fX n M)(hi:i<M.length):(M.getD i []).length=n:=by
 rw[List.getD,aB hi];exact h _ (aY hi)
theorem fX.step{c:Nat}(h:fX n s.1):fX n (dX s c).1:=by
 unfold dX;split
 ·rename_i OU;dsimp only
  split
  ·exact h
  ·rename_i hk;have hle:=yQ s.1 c (s.1.length-s.2.length) s.2.length;have hkl:iJ s.1 c (s.1.length-s.2.length) s.2.length<s.1.length:=by omega
   dsimp only
   generalize iJ s.1 c (s.1.length-s.2.length) s.2.length=k at*
   have h1:fX n (fP [] s.1 s.2.length k):=(h.set (h.getD hkl)).set (h.getD OU);have h2:fX n (scaled (fP [] s.1 s.2.length k) s.2.length c):=h1.set (by rw[aJ];exact h1.getD (by rw[j8];exact OU));intro r hr;obtain⟨j,hj⟩:=aU hr;simp only[dc,List.getElem?_mapIdx,Option.map_eq_some_iff]at hj;obtain⟨r0,hr0,hj⟩:=hj;have h3:=h2 r0 (aC hr0);split at hj
   ·subst hj;rw[List.length_mapIdx];exact h3
   ·subst hj;exact h3
 ·exact h
theorem EJ{cols:Nat}(h:fX n M):fX n (cM M cols).1:=by
 have key:∀(l:List Nat) (s:List (List Rat)×List Nat),fX n s.1->fX n (l.foldl dX s).1:=by
  intro l
  induction l with
  |nil=>intro s hs;exact hs
  |cons c r ih=>intro s hs;exact ih _ hs.step
 exact key _ _ h
end Go.Ex
namespace Go.Ex
open Go Go.Sx Go.Proofs
structure Ni(w:World)(S:Nat->Prop)(vm:Value)(rv:List Value)(n:Nat)(M:List (List Rat)):Prop where
 out:w.ownsRow 0 T.row 1 vm rv.length rv
 len:rv.length=M.length
 row:∀(i:Nat) v qs,rv[i]? =some v->M[i]? =some qs->∃css,w.ownsRow 0 T.EN 4 v n css.flatten∧css.length=n∧Fr w S css qs
 FE:∀(i j:Nat) a b g,rv[i]? =some a->rv[j]? =some b->a.ownBlock=some g->b.ownBlock=some g->i=j
 aAY:∀v∈rv,∀g,v.ownBlock=some g->vm.ownBlock≠some g
def Mb(vm:Value)(rv:List Value)(g:Nat):Prop:=vm.ownBlock=some g∨∃v∈rv,v.ownBlock=some g
structure Kept(w w2:World)(X:Nat->Prop):Prop where
 os:w2.os=w.os
 tape:w2.tape=w.tape
 output:w2.output=w.output
 size:w.heap.size<=w2.heap.size
 block:∀k,k<w.heap.size->¬X k->w2.heap[k]? =w.heap[k]?
section
variable{S S' X:Nat->Prop}{H:Hp}{nx n:Nat}{iv iv':Iv}{B:Nat}{w w' w2 w3:World}{O:Nat->Sx.dg}{vm:Value}{rv:List Value}{M:List (List Rat)}
end
end Go.Ex
namespace Go.Sx
open Go Go.Ex Go.Proofs
variable{O:Nat->Sx.dg}{row:Option Nat}
theorem Rel.EZ{H:Hp}{nx:Nat}{iv:Iv}{B:Nat}{w w' w2:World}(r:Rel H nx iv B w O w')(OG:∀g,row=some g->∀id b,dB H id=some b->(O id).nil=false->(O id).g≠g)(h:w'.grownBy w2 row):Rel H nx ((w'.heap.size,w2.heap.size)::iv) B w2 O w2:=
 r.D4 h.size (fun id b hb hn=>h.block _ (r.low id b hb hn).2 fun e=>OG _ e.symm id b hb hn rfl) fun lo hi hm=>by
  rcases List.mem_cons.1 hm with e|hm
  ·injection e with e1 e2;subst e1 e2;exact⟨aF _,fun id b hb hn=>by have:=(r.low id b hb hn).2;omega⟩
  ·exact⟨by have:=r.oe lo hi hm;have:=r.size;have:=h.size;omega,fun id b hb hn=>r.jo lo hi hm id b hb hn⟩
end Go.Sx
namespace Go.Ex
open Go Go.Sx Go.Proofs
end Go.Ex
namespace Go.Ex
open Go Go.Sx Go.Proofs
end Go.Ex
namespace Go.Sx
open Go Go.Ex Go.Proofs
variable{O:Nat->Sx.dg}
theorem Sub.nil{B nx:Nat}{l:Env}{H:Hp}{iv:Iv}{w w':World}{t:yE}(u e sz:Nat)(h9:fL l u=some (sV none 0 0))(Rk:jN nx l)(r:Rel H nx iv B w O w')
  (h:∀ρ1,Rel ((nx,.vec e sz [])::H) (nx+1) iv B w ρ1 w'->Sx.Sub B ((u,.o (.w nx 0))::l) (nx+1) ρ1 w' t):Sx.Sub B l nx O w' t:=by
 have r1:=r.push (.vec e sz []) ⟨0,0,true⟩ (w2:=w') rfl rfl rfl (aF _) (fun _ _=>rfl) (fun h=>by cases h) (.inl ⟨rfl,rfl⟩) trivial;obtain⟨ρ',h1,h2⟩:=h _ r1;refine⟨ρ',h1,fun x v hv=>?_⟩;obtain⟨h3,v0,h4,h5⟩:=h2 x v hv;refine⟨h3,?_⟩;rw[eS]at h4;split at h4
 ·rename_i e;subst e;injection h4 with h4;subst h4;refine⟨_,h9,?_⟩;rw[<-h5];simp[SV.den,At.den,eN]
 ·refine⟨v0,h4,?_⟩;rw[<-h5];exact SV.jW (fun id Oj=>gA id Oj) (Rk.get _ _ h4)
end Go.Sx
namespace Go.Ex
open Go Go.Sx Go.Proofs
structure aAV(w:World)(S:Nat->Prop)(rv:List Value)(n:Nat)(M:List (List Rat))(gm k c g ck:Nat)(q:Rat)(d1:Bool)(e1:Option Addr)(m1 k1:Nat)(d2:Bool)(e2:Option Addr)(m2 k2:Nat):Prop where
 rv:rv[k]? =some (.slice (some ⟨g,0,none⟩) n ck)
 at_:dD M k c=q
 aAZ:dS w S (.agg #[.bool d1,.slice e1 m1 k1,.bool d2,.slice e2 m2 k2]) q
 outer:w.cell? (Addr.add ⟨gm,0,none⟩ (k*1))=some (.slice (some ⟨g,0,none⟩) n ck)
 cells:∀j u,[Value.bool d1,.slice e1 m1 k1,.bool d2,.slice e2 m2 k2][j]? =some u->w.cell? ((Addr.add ⟨g,0,none⟩ (c*4)).add j)=some u
theorem MD{α:Type}{xs:List α}{j:Nat}{v:α}(h:j<xs.length):xs.take (j*1)++[v]++xs.drop (j*1+1)=xs.set j v:=by
 rw[aS,List.set_eq_take_append_cons_drop,if_pos h];simp
end Go.Ex
namespace Go.Ex
open Go Go.Sx Go.Proofs
variable{x:Int×Int}{xs:List (Int×Int)}{M:List (List (Int×Int))}{A:List (List Rat)}{ps pv:List Nat}{cs:List Value}{S:Nat->Prop}{v:Value}{w:World}
def NK(w:World)(S:Nat->Prop)(v:Value)(n:Nat)(qs:List Rat):Prop:=∃css,w.ownsRow 0 T.EN 4 v n css.flatten∧css.length=n∧Fr w S css qs
section
variable{S S' C:Nat->Prop}{H:Hp}{nx n:Nat}{iv iv':Iv}{B:Nat}{w w' w2:World}{O:Nat->Sx.dg}{v:Value}{qs:List Rat}
structure aA0(w:World)(S:Nat->Prop)(B:Nat)(iv:Iv)(v:Value)(n:Nat)(qs:List Rat):Prop where
 row:NK w (fun g=>Cv S B iv g∧v.ownBlock≠some g) v n qs
 new:∀g,v.ownBlock=some g->Cv FF B iv g
def Aq(w:World)(S:Nat->Prop)(cs:List Value)(x:Int×Int):Prop:=∃b a n c b2 a2 n2 c2,cs=[.bool b,.slice a n c,.bool b2,.slice a2 n2 c2]∧iG w S (.agg #[.bool b,.slice a n c,.bool b2,.slice a2 n2 c2]) x.1 x.2
theorem Aq.cI(h:Aq w S cs x)(hk:∀g,S g->w2.heap[g]? =w.heap[g]?):Aq w2 S cs x:=by
 obtain⟨b,a,n,c,b2,a2,n2,c2,h1,h2⟩:=h;exact⟨b,a,n,c,b2,a2,n2,c2,h1,h2.cI hk⟩
theorem Aq.cJ(h:Aq w S cs x)(hk:∀g,S g->S' g):Aq w S' cs x:=by
 obtain⟨b,a,n,c,b2,a2,n2,c2,h1,h2⟩:=h;exact⟨b,a,n,c,b2,a2,n2,c2,h1,h2.cJ hk⟩
def dM{α:Type}(P:World->(Nat->Prop)->List Value->α->Prop)(w:World)(S:Nat->Prop)(v:Value)(xs:List α):Prop:=
 ∃css:List (List Value),iB w S 4 v css.flatten xs.length∧css.length=xs.length∧(∀cs∈css,cs.length=4)∧∀(j:Nat) cs x,css[j]? =some cs->xs[j]? =some x->P w S cs x
abbrev nK:=dM Aq
theorem nK.cI(h:nK w S v xs)(hk:∀g,S g->w2.heap[g]? =w.heap[g]?):nK w2 S v xs:=by
 obtain⟨css,h1,h2,h3,h4⟩:=h;exact⟨css,h1.cI hk,h2,h3,fun j cs x k1 k2=>(h4 j cs x k1 k2).cI hk⟩
theorem nK.cJ(h:nK w S v xs)(hk:∀g,S g->S' g):nK w S' v xs:=by
 obtain⟨css,h1,h2,h3,h4⟩:=h;exact⟨css,h1.cJ hk,h2,h3,fun j cs x k1 k2=>(h4 j cs x k1 k2).cJ hk⟩
theorem dM.shape{α:Type}{P:World->(Nat->Prop)->List Value->α->Prop}{xs:List α}(h:dM P w S v xs):∃a c,v= .slice a xs.length c∧xs.length<=c∧xs.length<=maxLen:=by
 obtain⟨css,⟨h0,_,_,a,c,h1,h2,_⟩,_⟩:=h;exact⟨a,c,h1,h2,h0⟩
theorem dM.load{α:Type}{P:World->(Nat->Prop)->List Value->α->Prop}{xs:List α}{a:Option Addr}{m c j:Nat}{x:α}(h:dM P w S (.slice a m c) xs)(hq:xs[j]? =some x):
  ∃ad cs,a=some ad∧P w S cs x∧cs.length=4∧∀k u,cs[k]? =some u->S ad.block∧w.cell? ((ad.add (j*4)).add k)=some u:=by
 obtain⟨css,⟨h0,h1,h2,a',c',e,h3,h4⟩,hl,Uj,hf⟩:=h;injection e with e1 e2 e3;subst e1;obtain⟨cs,Om⟩:∃cs,css[j]? =some cs:=⟨_,aB (by rw[hl];exact(aD.1 hq).1)⟩
 have hF:=hf j cs x Om hq;have SX:=Uj cs (aC Om);obtain⟨ad,k1,k2,k3⟩:=h4 (j*4+0) _ (flat_get Uj Om 0 _ (aB (show 0<cs.length by omega)));refine⟨ad,cs,k1,hF,SX,fun k u hu=>?_⟩;obtain⟨ad2,m1,m2,m3⟩:=h4 (j*4+k) u (flat_get Uj Om k u hu);rw[k1]at m1;injection m1 with m1;subst m1;refine⟨m2,?_⟩;rw[<-m3];have:(ad.add (j*4)).add k=ad.add (j*4+k):=by
  unfold Addr.add;split<;>split<;>simp_all<;>omega
 rw[this]
def db{α:Type}(P:World->(Nat->Prop)->Value->α->Prop)(w:World)(S:Nat->Prop)(v:Value)(M:List α):Prop:=
 ∃rv,iB w S 1 v rv M.length∧rv.length=M.length∧∀(i:Nat) u x,rv[i]? =some u->M[i]? =some x->P w S u x
theorem db.shape{α:Type}{P:World->(Nat->Prop)->Value->α->Prop}{xs:List α}(h:db P w S v xs):∃a c,v= .slice a xs.length c∧xs.length<=c∧xs.length<=maxLen:=by
 obtain⟨rv,⟨h0,_,_,a,c,h1,h2,_⟩,_⟩:=h;exact⟨a,c,h1,h2,h0⟩
theorem db.load{α:Type}{P:World->(Nat->Prop)->Value->α->Prop}{xs:List α}{a:Option Addr}{m c j:Nat}{x:α}(h:db P w S (.slice a m c) xs)(hq:xs[j]? =some x):
  ∃ad u,a=some ad∧P w S u x∧S ad.block∧w.cell? (ad.add (j*1))=some u:=by
 obtain⟨rv,⟨h0,h1,h2,a',c',e,h3,h4⟩,hl,hf⟩:=h;injection e with e1 e2 e3;subst e1;obtain⟨u,hu⟩:∃u,rv[j]? =some u:=⟨_,aB (by rw[hl];exact(aD.1 hq).1)⟩
 obtain⟨ad,k1,k2,k3⟩:=h4 j u hu;exact⟨ad,u,k1,hf j u x hu hq,k2,by rw[aS];exact k3⟩
abbrev il:=db nK
theorem il.cI(h:il w S v M)(hk:∀g,S g->w2.heap[g]? =w.heap[g]?):il w2 S v M:=by
 obtain⟨rv,h1,h2,h3⟩:=h;exact⟨rv,h1.cI hk,h2,fun i u x k1 k2=>nK.cI (h3 i u x k1 k2) hk⟩
theorem il.cJ(h:il w S v M)(hk:∀g,S g->S' g):il w S' v M:=by
 obtain⟨rv,h1,h2,h3⟩:=h;exact⟨rv,h1.cJ hk,h2,fun i u x k1 k2=>nK.cJ (h3 i u x k1 k2) hk⟩
end
section
variable{S S':Nat->Prop}{H:Hp}{nx:Nat}{iv iv':Iv}{B:Nat}{w w' w2:World}{O:Nat->Sx.dg}{v:Value}{xs:List (Int×Int)}
end
section
variable{S S':Nat->Prop}{H:Hp}{nx:Nat}{iv iv':Iv}{B:Nat}{w w' w2:World}{O:Nat->Sx.dg}{v:Value}{M:List (List (Int×Int))}
theorem il.rel(h:il w (Cv S B iv) v M)(r:Rel H nx iv B w O w')(hS:∀g,S g->g<B):il w' (Cv S B iv) v M:=il.cI h fun _ hg=>Rel.same r hS hg
theorem il.arg(h:il w S v M)(iv:Iv):il w (Cv S w.heap.size iv) v M:=il.cJ h fun _ h=>.inl h
end
section
variable{S S':Nat->Prop}{H:Hp}{nx:Nat}{iv iv':Iv}{B:Nat}{w w' w2:World}{O:Nat->Sx.dg}{v:Value}{M:List (List Rat)}
end
def ek{α:Type}:List (List α)->Nat
 |[]=>0
 |r::_=>r.length
theorem db.Km(h:nK w S v xs):∃a c,v= .slice a xs.length c:=by
 obtain⟨a,c,h,_⟩:=dM.shape h;exact⟨a,c,h⟩
def f0:List Value:=[.bool false,.slice none 0 0,.bool false,.slice none 0 0]
structure aA1(w:World)(S:Nat->Prop)(n i:Nat)(css:List (List Value))(qs:List Rat):Prop where
 len:css.length=n
 four:∀cs∈css,cs.length=4
 one:∀cs∈css,∀u∈cs,u.oneCell'=true
 at_:∀(j:Nat) cs q,j<i->css[j]? =some cs->qs[j]? =some q->MZ w S cs q
section
variable{S S':Nat->Prop}{H:Hp}{nx n i:Nat}{iv iv':Iv}{B:Nat}{w w1 w' w2:World}{O:Nat->Sx.dg}{css:List (List Value)}{qs:List Rat}
end
def gI(x:Int×Int):Rat:=ratio x.1 x.2
structure aAW(w:World)(S:Nat->Prop)(B:Nat)(iv:Iv)(rv:List Value)(n:Nat)(M:List (List Rat)):Prop where
 len:rv.length=M.length
 row:∀(i:Nat) v qs,rv[i]? =some v->M[i]? =some qs->NK w (fun g=>Cv S B iv g∧¬ ∃u∈rv,u.ownBlock=some g) v n qs
 FE:∀(i j:Nat) a b g,rv[i]? =some a->rv[j]? =some b->a.ownBlock=some g->b.ownBlock=some g->i=j
 new:∀v∈rv,∀g,v.ownBlock=some g->Cv FF B iv g
theorem gH(B:Nat):∀g,(fun _:Nat=>False) g->g<B:=fun _ h=>h.elim
theorem Aj{B:Nat}{iv:Iv}{g:Nat}(h:Cv FF B iv g):Cv S B iv g:=h.elim (fun h=>h.elim) .inr
section
variable{S S':Nat->Prop}{H:Hp}{nx n i:Nat}{iv iv':Iv}{B:Nat}{w w1 w' w2:World}{O:Nat->Sx.dg}{rv:List Value}{M:List (List Rat)}
structure aA2(w:World)(S:Nat->Prop)(B:Nat)(iv:Iv)(vm:Value)(n:Nat)(M:List (List Rat)):Prop where
 ex:∃rv,Ni w (fun g=>Cv S B iv g∧¬Mb vm rv g) vm rv n M∧∀g,Mb vm rv g->Cv FF B iv g
end
def dK(w:World)(S:Nat->Prop)(v:Value)(ps:List Nat):Prop:=iB w S 1 v (ps.map fun c:Nat=>.int .i64 (c:Int)) ps.length
theorem dK.cI{w2:World}(h:dK w S v ps)(hk:∀g,S g->w2.heap[g]? =w.heap[g]?):dK w2 S v ps:=iB.cI h hk
theorem dK.cJ{S':Nat->Prop}(h:dK w S v ps)(hk:∀g,S g->S' g):dK w S' v ps:=iB.cJ h hk
section
variable{S S':Nat->Prop}{H:Hp}{nx:Nat}{iv iv':Iv}{B:Nat}{w w' w2:World}{O:Nat->Sx.dg}{v:Value}{ps:List Nat}
theorem dK.rel(h:dK w (Cv S B iv) v ps)(r:Rel H nx iv B w O w')(hS:∀g,S g->g<B):dK w' (Cv S B iv) v ps:=dK.cI h fun _ hg=>Rel.same r hS hg
theorem dK.cG(h:dK w (Cv S B iv) v ps)(r:Rel H nx iv B w O w')(hS:∀g,S g->g<B)(he:Ext w' w2)(hm:∀p,p∈iv->p∈iv'):dK w2 (Cv S B iv') v ps:=
 dK.cJ (dK.cI (dK.rel h r hS) fun g hg=>he.block g (Rel.old r hS g hg)) fun _ hg=>hg.mono hm
theorem dK.dE(h:dK w2 (Nf w' w2) v ps)(hB:B<=w'.heap.size)(hm:(w'.heap.size,w2.heap.size)∈iv):dK w2 (Cv S B iv) v ps:=dK.cJ h fun _ hg=>hg.dE hB hm
end
section
variable{S S':Nat->Prop}{H:Hp}{nx n:Nat}{iv iv':Iv}{B:Nat}{w w' w2:World}{O:Nat->Sx.dg}{v:Value}{qs:List Rat}
end
def gC(A:List (List Rat))(pv:List Nat)(cols c i:Nat):List Rat:=(List.range i).foldl (fun x i=>x.set (pv.getD i 0) (-(dD A i c))) ((List.replicate cols 0).set c 1)
def eP(A:List (List Rat))(pv:List Nat)(cols c:Nat):List (List Rat):=((List.range c).filter fun c=>decide (c∉pv)).map fun c=>gC A pv cols c pv.length
theorem gp(A:List (List Rat))(pv:List Nat)(cols c i:Nat):gC A pv cols c (i+1)=(gC A pv cols c i).set (pv.getD i 0) (-(dD A i c)):=by
 rw[gC,bO,List.foldl_append];rfl
theorem kA(A:List (List Rat))(pv:List Nat)(cols c i:Nat):(gC A pv cols c i).length=cols:=by
 induction i with
 |zero=>simp[gC]
 |succ i ih=>rw[gp,bE,ih]
theorem Ec{cols c:Nat}(h:c∈pv):eP A pv cols (c+1)=eP A pv cols c:=by
 rw[eP,bO,List.filter_append];simp[h,eP]
theorem Ct{cols c:Nat}(h:c∉pv):eP A pv cols (c+1)=eP A pv cols c++[gC A pv cols c pv.length]:=by
 rw[eP,bO,List.filter_append];simp[h,eP]
abbrev fS(M:List (List (Int×Int))):List (List Rat):=M.map fun r=>r.map gI
def fp(A:List (List Rat))(pv:List Nat)(cols i:Nat):List Rat:=(List.range i).foldl (fun x i=>x.set (pv.getD i 0) (dD A i cols)) (List.replicate cols 0)
theorem gR(A:List (List Rat))(pv:List Nat)(cols i:Nat):fp A pv cols (i+1)=(fp A pv cols i).set (pv.getD i 0) (dD A i cols):=by
 rw[fp,bO,List.foldl_append];rfl
structure aAX(w:World)(B:Nat)(iv:Iv)(rv:List Value)(v:Value)(n:Nat)(qs:List Rat):Prop where
 row:NK w (fun g=>(Cv FF B iv g∧¬ ∃u∈rv,u.ownBlock=some g)∧v.ownBlock≠some g) v n qs
 xw:∀g,v.ownBlock=some g->Cv FF B iv g
section
variable{H:Hp}{nx n:Nat}{iv iv':Iv}{B:Nat}{w w' w2:World}{O:Nat->Sx.dg}{v:Value}{qs:List Rat}{rv:List Value}
end
def iM(w:World)(S:Nat->Prop)(cs:List Value)(q:Rat):Prop:=∃b a n c b2 a2 n2 c2,cs=[.bool b,.slice a n c,.bool b2,.slice a2 n2 c2]∧cS w S (.agg #[.bool b,.slice a n c,.bool b2,.slice a2 n2 c2]) q
abbrev cL:=dM iM
abbrev cT:=db cL
section
variable{S S':Nat->Prop}{H:Hp}{nx:Nat}{iv iv':Iv}{B:Nat}{w w' w2:World}{O:Nat->Sx.dg}{v:Value}{qs:List Rat}{cs:List Value}{q:Rat}
theorem iM.cI(h:iM w S cs q)(hk:∀g,S g->w2.heap[g]? =w.heap[g]?):iM w2 S cs q:=by
 obtain⟨b,a,n,c,b2,a2,n2,c2,h1,h2⟩:=h;exact⟨b,a,n,c,b2,a2,n2,c2,h1,h2.cI hk⟩
theorem iM.cJ(h:iM w S cs q)(hk:∀g,S g->S' g):iM w S' cs q:=by
 obtain⟨b,a,n,c,b2,a2,n2,c2,h1,h2⟩:=h;exact⟨b,a,n,c,b2,a2,n2,c2,h1,h2.cJ hk⟩
theorem cL.cI(h:cL w S v qs)(hk:∀g,S g->w2.heap[g]? =w.heap[g]?):cL w2 S v qs:=by
 obtain⟨css,h1,h2,h3,h4⟩:=h;exact⟨css,h1.cI hk,h2,h3,fun j cs x k1 k2=>(h4 j cs x k1 k2).cI hk⟩
theorem cL.cJ(h:cL w S v qs)(hk:∀g,S g->S' g):cL w S' v qs:=by
 obtain⟨css,h1,h2,h3,h4⟩:=h;exact⟨css,h1.cJ hk,h2,h3,fun j cs x k1 k2=>(h4 j cs x k1 k2).cJ hk⟩
theorem cT.cI{M:List (List Rat)}(h:cT w S v M)(hk:∀g,S g->w2.heap[g]? =w.heap[g]?):cT w2 S v M:=by
 obtain⟨rv,h1,h2,h3⟩:=h;exact⟨rv,h1.cI hk,h2,fun i u x k1 k2=>cL.cI (h3 i u x k1 k2) hk⟩
theorem cT.cJ{M:List (List Rat)}(h:cT w S v M)(hk:∀g,S g->S' g):cT w S' v M:=by
 obtain⟨rv,h1,h2,h3⟩:=h;exact⟨rv,h1.cJ hk,h2,fun i u x k1 k2=>cL.cJ (h3 i u x k1 k2) hk⟩
end
section
variable{S S':Nat->Prop}{H:Hp}{nx:Nat}{iv iv':Iv}{B:Nat}{w w' w2:World}{O:Nat->Sx.dg}{v:Value}{qs:List Rat}
theorem cL.rel(h:cL w (Cv S B iv) v qs)(r:Rel H nx iv B w O w')(hS:∀g,S g->g<B):cL w' (Cv S B iv) v qs:=cL.cI h fun _ hg=>Rel.same r hS hg
theorem cL.cG(h:cL w (Cv S B iv) v qs)(r:Rel H nx iv B w O w')(hS:∀g,S g->g<B)(he:Ext w' w2)(hm:∀p,p∈iv->p∈iv'):cL w2 (Cv S B iv') v qs:=
 cL.cJ (cL.cI (cL.rel h r hS) fun g hg=>he.block g (Rel.old r hS g hg)) fun _ hg=>hg.mono hm
theorem cL.dE(h:cL w2 (Nf w' w2) v qs)(hB:B<=w'.heap.size)(hm:(w'.heap.size,w2.heap.size)∈iv):cL w2 (Cv S B iv) v qs:=cL.cJ h fun _ hg=>hg.dE hB hm
theorem cL.out{w0 w1:World}(h:cL w1 (Cv S w0.heap.size iv) v qs)(r:Rel H nx iv w0.heap.size w1 O w')(hS:Old S w0):cL w' (Nw S w0 w') v qs:=
 cL.cJ (cL.rel h r hS) fun _ hg=>Cv.nw hg r
end
section
variable{S S':Nat->Prop}{H:Hp}{nx:Nat}{iv iv':Iv}{B:Nat}{w w' w2:World}{O:Nat->Sx.dg}{v:Value}{M:List (List Rat)}
theorem cT.rel(h:cT w (Cv S B iv) v M)(r:Rel H nx iv B w O w')(hS:∀g,S g->g<B):cT w' (Cv S B iv) v M:=cT.cI h fun _ hg=>Rel.same r hS hg
theorem cT.cG(h:cT w (Cv S B iv) v M)(r:Rel H nx iv B w O w')(hS:∀g,S g->g<B)(he:Ext w' w2)(hm:∀p,p∈iv->p∈iv'):cT w2 (Cv S B iv') v M:=
 cT.cJ (cT.cI (cT.rel h r hS) fun g hg=>he.block g (Rel.old r hS g hg)) fun _ hg=>hg.mono hm
theorem cT.dE(h:cT w2 (Nf w' w2) v M)(hB:B<=w'.heap.size)(hm:(w'.heap.size,w2.heap.size)∈iv):cT w2 (Cv S B iv) v M:=cT.cJ h fun _ hg=>hg.dE hB hm
theorem cT.old(h:cT w2 (Nw (Cv S B iv) w' w2) v M)(hB:B<=w'.heap.size):cT w2 (Cv S B ((w'.heap.size,w2.heap.size)::iv)) v M:=cT.cJ h fun _ hg=>Nw.cv hg hB
end
theorem jD(A:List (List Rat))(pv:List Nat)(cols i:Nat):(fp A pv cols i).length=cols:=by
 induction i with
 |zero=>simp[fp]
 |succ i ih=>rw[gR,bE,ih]
theorem Eb(A:List (List Rat))(pv:List Nat)(cols c:Nat):(eP A pv cols c).length<=c:=by
 unfold eP;rw[aJ];exact ah (List.length_filter_le _ _) (by simp)
end Go.Ex
namespace Go.Ex
variable{ds l:List Nat}
def dP:List Int->Int
 |[]=>0
 |c::r=>c+65536*dP r
def up(k:Nat):Int:=65536^k
theorem CV(k:Nat):up (k+1)=65536*up k:=by rw[up,Int.pow_succ,Int.mul_comm];rfl
theorem Jn(k:Nat):0<up k:=Int.pow_pos (by decide)
theorem AU(a b:List Int):dP (a++b)=dP a+up a.length*dP b:=by
 induction a with
 |nil=>simp[dP,up]
 |cons c r ih=>rw[List.cons_append,dP,ih,dP,List.length_cons,CV,Int.mul_add,<-Int.mul_assoc];omega
theorem Fl(a:List Int):dP (a.map (- ·))= -dP a:=by
 induction a with
 |nil=>rfl
 |cons c r ih=>rw[List.map_cons,dP,ih,dP];omega
def Dg(l:List Nat):Prop:=∀d∈l,d<65536
def l8(l:List Nat):Int:=dP (l.map fun d:Nat=>(d:Int))
theorem yz(h:Dg l):0<=l8 l∧l8 l<up l.length:=by
 induction l with
 |nil=>exact⟨Int.le_refl _,by decide⟩
 |cons d r ih=>
  have h1:=ih fun x hx=>h x (List.mem_cons_of_mem _ hx);have h2:=h d aG;have e:l8 (d::r)=(d:Int)+65536*l8 r:=rfl;rw[e,List.length_cons,CV];omega
def dZ:List Int->Int->List Nat×Int
 |[],k=>([],k)
 |c::r,k=>(((c+k) % 65536).toNat::(dZ r ((c+k) / 65536)).1,(dZ r ((c+k) / 65536)).2)
theorem k9:∀(cs:List Int) (k:Int),dP cs+k=l8 (dZ cs k).1+up cs.length*(dZ cs k).2∧Dg (dZ cs k).1∧(dZ cs k).1.length=cs.length
 |[],k=>⟨by simp[dP,dZ,l8,up],by simp[dZ,Dg],rfl⟩
 |c::r,k=>by
  obtain⟨h1,h2,h3⟩:=k9 r ((c+k) / 65536);have h4:0<=(c+k) % 65536:=Int.emod_nonneg _ (by decide);have h5:(c+k) % 65536<65536:=Int.emod_lt_of_pos _ (by decide);have h6:=Int.mul_ediv_add_emod (c+k) 65536;refine⟨?_,fun d hd=>?_,by simp[dZ,h3]⟩
  ·have e:l8 (dZ (c::r) k).1=(((c+k) % 65536).toNat:Int)+65536*l8 (dZ r ((c+k) / 65536)).1:=rfl;have e2:(dZ (c::r) k).2=(dZ r ((c+k) / 65536)).2:=rfl;rw[e,e2,dP,List.length_cons,CV,Int.mul_assoc];omega
  ·have e:(dZ (c::r) k).1=((c+k) % 65536).toNat::(dZ r ((c+k) / 65536)).1:=rfl;rw[e]at hd;rcases List.mem_cons.1 hd with rfl|hd
   ·omega
   ·exact h2 d hd
theorem CW(cs:List Int)(c k:Int):dZ (cs++[c]) k=((dZ cs k).1++[((c+(dZ cs k).2) % 65536).toNat],(c+(dZ cs k).2) / 65536):=by
 induction cs generalizing k with
 |nil=>rfl
 |cons d r ih=>simp only[List.cons_append,dZ,ih]
theorem kC:∀(cs:List Int) (k:Int),(∀c∈cs,-1152921504606846976<=c∧c<=1152921504606846976)-> -1152921504606846976<=k->k<=1152921504606846976-> -1152921504606846976<=(dZ cs k).2∧(dZ cs k).2<=1152921504606846976
 |[],k,_,h1,h2=>⟨h1,h2⟩
 |c::r,k,h,h1,h2=>by
  have hc:=h c aG;exact kC r _ (fun x hx=>h x (List.mem_cons_of_mem _ hx)) (by omega) (by omega)
def dG(n:Nat):List Nat:=if h:n=0 then []else n % 65536::dG (n / 65536)
termination_by n
decreasing_by omega
theorem kc:dG 0=[]:=by rw[dG];rfl
theorem pF{n:Nat}(h:0<n):dG n=n % 65536::dG (n / 65536):=by
 rw[dG,dif_neg (by omega)]
theorem ke(n:Nat):l8 (dG n)=n∧Dg (dG n):=by
 induction n using Nat.strongRecOn with
 |_ n ih=>
  rcases bI n with h|h
  ·subst h;rw[kc];exact⟨rfl,by simp[Dg]⟩
  ·rw[pF h];obtain⟨h1,h2⟩:=ih (n / 65536) (by omega);refine⟨?_,fun d hd=>?_⟩
   ·have e:l8 (n % 65536::dG (n / 65536))=((n % 65536:Nat):Int)+65536*l8 (dG (n / 65536)):=rfl;rw[e,h1];omega
   ·rcases List.mem_cons.1 hd with rfl|hd
    ·omega
    ·exact h2 d hd
theorem jY{n:Nat}:∀{k:Nat},n<65536^k->(dG n).length<=k
 |0,h=>by
  have:n=0:=by simp at h;exact h
  subst this;rw[kc];simp
 |k+1,h=>by
  rcases bI n with h0|h0
  ·subst h0;rw[kc];simp
  ·rw[pF h0,List.length_cons];have:=jY (n:=n / 65536) (k:=k) (by rw[Nat.pow_succ]at h;exact Nat.div_lt_of_lt_mul (by rw[bW];exact h));omega
def gk:List Nat->List Nat
 |[]=>[]
 |[a]=>[a]
 |a::b::r=>(a+65536*b)::gk r
theorem zA:∀(l:List Nat),Dg l->(val (gk l):Int)=l8 l∧Lm (gk l)∧(gk l).length=(l.length+1) / 2
 |[],_=>⟨rfl,by simp[gk,Lm],rfl⟩
 |[a],h=>by
  have:=h a (by simp);exact⟨by simp[gk,val,l8,dP],fun x hx=>by simp[gk]at hx;omega,by simp[gk]⟩
 |a::b::r,h=>by
  obtain⟨h1,h2,h3⟩:=zA r fun x hx=>h x (List.mem_cons_of_mem _ (List.mem_cons_of_mem _ hx));have ha:=h a (by simp);have hb:=h b (by simp);refine⟨?_,fun x hx=>?_,?_⟩
  ·have e:l8 (a::b::r)=(a:Int)+65536*((b:Int)+65536*l8 r):=rfl;rw[e,<-h1,gk,val];simp only[Int.natCast_add,Int.natCast_mul]
   omega
  ·rw[gk]at hx;rcases List.mem_cons.1 hx with rfl|hx
   ·omega
   ·exact h2 x hx
  ·rw[gk,List.length_cons,h3];simp only[List.length_cons]
   omega
def pk(ds:List Nat)(k:Nat):List Nat:=(List.range k).map fun i=>ds.getD (2*i) 0+65536*ds.getD (2*i+1) 0
theorem xe(ds:List Nat)(k:Nat):pk ds (k+1)=pk ds k++[ds.getD (2*k) 0+65536*ds.getD (2*k+1) 0]:=by simp[pk,bO]
theorem ug(ds:List Nat)(k:Nat):(pk ds k).length=k:=by simp[pk]
theorem Jo:∀(ds:List Nat),pk ds ((ds.length+1) / 2)=gk ds
 |[]=>rfl
 |[a]=>by simp[pk,gk,bO]
 |a::b::r=>by
  have ih:=Jo r;have e:((a::b::r).length+1) / 2=(r.length+1) / 2+1:=by simp only[List.length_cons];omega
  rw[e,gk,<-ih,pk,List.range_succ_eq_map,List.map_cons,List.map_map,pk];congr 1
theorem Jp(h:Dg ds)(k:Nat):Lm (pk ds k):=fun x hx=>by
 obtain⟨i,_,rfl⟩:=aT.1 hx;have key:∀j,ds.getD j 0<65536:=fun j=>by
  rw[List.getD]
  cases hj:ds[j]? with
  |none=>simp
  |some d=>simp;exact h d (aC hj)
 have h1:=key (2*i);have h2:=key (2*i+1);omega
end Go.Ex
namespace Go.Ex
open Go Go.Sx Go.Proofs
variable{cs:List Int}{S:Nat->Prop}{v:Value}{w:World}
def dy(w:World)(S:Nat->Prop)(v:Value)(cs:List Int):Prop:=iB w S 1 v (cs.map (Value.int .i64)) cs.length
theorem dy.cI{w2:World}(h:dy w S v cs)(hk:∀g,S g->w2.heap[g]? =w.heap[g]?):dy w2 S v cs:=iB.cI h hk
theorem dy.cJ{S':Nat->Prop}(h:dy w S v cs)(hk:∀g,S g->S' g):dy w S' v cs:=iB.cJ h hk
theorem dy.load{a:Option Addr}{n c j:Nat}{x:Int}(h:dy w S (.slice a n c) cs)(hx:cs[j]? =some x):∃ad,a=some ad∧S ad.block∧w.cell? (ad.add (j*1))=some (.int .i64 x):=by
 obtain⟨_,_,_,a',c',e,_,h4⟩:=h;injection e with e1 e2 e3;subst e1;obtain⟨ad,k1,k2,k3⟩:=h4 j (.int .i64 x) (by rw[aN,hx];rfl);exact⟨ad,k1,k2,by rw[aS];exact k3⟩
theorem dy.shape(h:dy w S v cs):∃a c,v= .slice a cs.length c∧cs.length<=c:=by
 obtain⟨_,_,_,a',c',e,h3,_⟩:=h;exact⟨a',c',e,h3⟩
def eE(ds:List Nat):List Int:=ds.map fun d:Nat=>(d:Int)
theorem ee(ds:List Nat):(eE ds).length=ds.length:=by simp[eE]
end Go.Ex
namespace Go.Sx
open Go Go.Ex Go.Proofs
variable{cs:List Value}{O:Nat->Sx.dg}
theorem Rel.DK{H:Hp}{nx:Nat}{iv:Iv}{B:Nat}{w w':World}(r:Rel H nx iv B w O w'){id t m sz:Nat}(h:dB H id=some (.vec t sz cs))(hm:cs.length=m*sz)(hs:0<sz):
  w'.ownsRow B t sz ((At.w id m).den O) m cs:=by
 rcases r.vec id t sz _ h with⟨hn,rfl⟩|⟨hn,spare,hb,hc,Q5⟩
 ·have Sn:m=0:=by
   rcases bI m with h|h
   ·exact h
   ·have:=Nat.mul_pos h hs;simp at hm;omega
  subst Sn;have:(At.w id 0).den O= .slice none 0 0:=by simp[At.den,hn]
  rw[this];exact World.ownsRow_nil _ _ _ _
 ·have hv:(At.w id m).den O= .slice (some ⟨(O id).g,0,none⟩) m (O id).cap:=by simp[At.den,hn]
  have h1:(cs++spare).length=cs.length+spare.length:=List.length_append;rw[hv];refine⟨hm,.inr ⟨(O id).g,(O id).cap,_,rfl,(r.low id _ h hn).1,hb,?_,Q5,by simpa using hc,?_⟩⟩
  ·have h2:m*sz<=(O id).cap*sz:=by omega
   exact bp h2 hs
  ·rw[<-hm];simp
end Go.Sx
namespace Go.Ex
open Go Go.Sx Go.Proofs
theorem Ev(n:Nat)(w:World)(hn:n<=9223372036854775807):eD PG N.tW #[.int .i64 n] w (eG w fun v w2=>dy w2 (Nf w w2) v (eE (dG n))):=by
 refine xR (by simp) ?_
 refine⟨Nat×List Nat×World,fun z=>⟨[(0,iZ z.1),(3,.o (.w 0 z.2.1.length))],[(0,.vec T.int 1 ((eE z.2.1).map (Value.int .i64)))],1,[],z.2.2⟩,fun z=>z.1,
  fun z=>eB w.heap.size w z.2.2∧z.1<=n∧z.2.1.length<=n-z.1∧z.2.1++dG z.1=dG n,?_,?_⟩
 ·intro O w' r
  exact⟨(n,[],w'),⟨r.cQ,aF _,by simp,by simp⟩,Sub.nil 3 T.int 1 rfl (by simp[jN,SV.sc,At.sc,fW]) r fun ρ1 r1=>
   Sub.gn [] r1⟩
 rintro⟨k,ds,w1⟩ ⟨hw,hk,hl,hs⟩;dsimp only at hw hk hl hs ⊢;have SM:=ee ds;refine dN.mk ?_ ?_<;>intro h
 ·have h:0<k:=by
   have:(k:Int)>0:=aI h;omega
  refine⟨by decide,((k % 65536:Nat):Int),Kn k 65536,?_⟩;refine .inl ?_;refine⟨by simp[SM],?_,by have h1:=congrArg List.length hs;rw[List.length_append]at h1;have h2:=jY (n:=n) (k:=4) (by omega);unfold maxLen;omega,?_⟩
  ·have h1:=congrArg List.length hs;rw[List.length_append]at h1;have h2:=jY (n:=n) (k:=4) (by omega);omega
  refine⟨by decide,((k / 65536:Nat):Int),MC (by omega),?_⟩;intro ρ3 w3 r3;have hl5:(ds++[k % 65536]).length=ds.length+1:=by simp
  have TC:(eE (ds++[k % 65536])).map (Value.int .i64)=(eE ds).map (Value.int .i64)++[.int .i64 ((k % 65536:Nat):Int)]:=by simp[eE]
  refine⟨(k / 65536,ds++[k % 65536],w3),⟨hw.tr r3.cQ,by dsimp only;omega,by dsimp only;rw[hl5];omega,?_⟩,
   Sub.gn [(0,2)] r3 ⟨by rw[TC];rfl,trivial⟩ ⟨rfl,by dsimp only;rw[hl5];rfl,trivial⟩,by dsimp only;omega⟩
  dsimp only
  rw[<-hs,pF h];simp
 ·have h:k=0:=by
   have:¬(k:Int)>0:=aH h;omega
  subst h;rw[kc,List.append_nil]at hs;subst hs;intro ρe we re;refine⟨_,rfl,hw.tr re.cQ,?_⟩;have:=re.ie (id:=0) (sz:=1) (m:=(dG n).length) rfl (by simp[SM]) (by have h2:=jY (n:=n) (k:=4) (by omega);unfold maxLen;omega) (by decide) (by intro u hu;simp at hu;obtain⟨_,_,rfl⟩:=hu;rfl);unfold dy;rw[SM];exact this.cJ fun g hg=>.inr hg
end Go.Ex
namespace Go.Ex
open Go Go.Sx Go.Proofs
variable{cs:List Int}{S:Nat->Prop}
theorem vR(n:Int):(n.tmod 65536<0->n % 65536=n.tmod 65536+65536)∧(¬n.tmod 65536<0->n % 65536=n.tmod 65536)∧ -65536<n.tmod 65536∧n.tmod 65536<65536:=by
 by_cases h:0<=n
 ·rw[Int.tmod_eq_emod_of_nonneg h];omega
 ·have h1:n.tmod 65536= -((-n) % 65536):=by
   have:n= -(-n):=by omega
   conv=>lhs;rw[this]
   rw[Int.neg_tmod,Int.tmod_eq_emod_of_nonneg (by omega)]
  rw[h1];omega
theorem Bw(n:Int):(n-n % 65536).tdiv 65536=n / 65536:=by
 have h:n-n % 65536=65536*(n / 65536):=by omega
 rw[h,Int.mul_tdiv_cancel_left _ (by decide)]
theorem Bx{w:World}{v:Value}(hS:Old S w)(h:dy w S v cs)(hb:∀c∈cs,-1152921504606846976<=c∧c<=1152921504606846976)(hl:cs.length<=1000000000):
  eD PG N.rA #[v] w (eG w fun v' w2=>∃o,v'= .tuple #[o,.int .i64 (dZ cs 0).2]∧w2.ownsRow w.heap.size T.int 1 o cs.length ((eE (dZ cs 0).1).map (Value.int .i64))):=by
 obtain⟨a,c,rfl,hc⟩:=h.shape;refine vH (by simp) ?_
 refine⟨Nat×World,fun z=>⟨[(0,sV a cs.length c),(4,.o (.w 0 z.1)),(5,.o (.v (.int .i64 (dZ (cs.take z.1) 0).2))),(6,iZ z.1)],[(0,.vec T.int 1 ((eE (dZ (cs.take z.1) 0).1).map (Value.int .i64)))],1,[],z.2⟩,fun z=>cs.length-z.1,
  fun z=>eB w.heap.size w z.2∧z.1<=cs.length,?_,?_⟩
 ·intro O w' r
  exact⟨(0,w'),⟨r.cQ,by simp⟩,Sub.nil 4 T.int 1 rfl (by simp[jN,SV.sc,At.sc,fW]) r fun ρ1 r1=>
   Sub.gn [] r1⟩
 rintro⟨i,w1⟩ ⟨hw,hi⟩;dsimp only at hw hi ⊢;obtain⟨-,hdg,hlen⟩:=k9 (cs.take i) 0;have Ro:((eE (dZ (cs.take i) 0).1).map (Value.int .i64)).length=i:=by rw[aJ,ee,hlen,aV];omega
 obtain⟨hk1,VA⟩:=kC (cs.take i) 0 (fun c hc=>hb c (bc hc)) (by decide) (by decide);have hR:dy w1 S (.slice a cs.length c) cs:=dy.cI h fun g hg=>hw.block g (hS g hg);refine dN.mk ?_ ?_<;>intro h
 ·have h:i<cs.length:=by simpa using h
  obtain⟨x,hx⟩:∃x,cs[i]? =some x:=⟨_,aB h⟩
  obtain⟨QK,QM⟩:=hb x (aC hx);obtain⟨ad,rfl,q1,q2⟩:=hR.load hx;have TP:cs.take (i+1)=cs.take i++[x]:=by rw[List.take_add_one,hx];rfl
  have hsn:=CW (cs.take i) x 0;rw[<-TP]at hsn;generalize (dZ (cs.take i) 0).1=ds at*
  generalize (dZ (cs.take i) 0).2=k at*
  obtain⟨t1,t2,t3,t4⟩:=vR (x+k);have hem1:=Int.emod_nonneg (x+k) (show (65536:Int)≠0 by decide);have hem2:=Int.emod_lt_of_pos (x+k) (show (0:Int)<65536 by decide);refine⟨ad,rfl,by omega,.int .i64 x,fun O w' r=>?_,?_⟩
  ·rw[aE,cH (w:=w1) (w2:=w') (by rw[dH];exact Rel.same (S:=S) r hS (.inl q1))];exact q2
  refine⟨x+k,wo,by decide,(x+k).tmod 65536,rfl,?_⟩;refine dN.mk ?_ ?_<;>intro Qx
  ·have Qx:=t1 (aI Qx);refine⟨(x+k) % 65536,by rw[Qx,wrap64]<;>omega,x+k-(x+k) % 65536,wo,by decide,(x+k) / 65536,by rw[Bw,wrap64]<;>omega,?_⟩;refine .inl ?_;refine⟨by rw[Ro,aS],by omega,by unfold maxLen;omega,((i+1:Nat):Int),wo,?_⟩;intro ρ3 w3 r3;have TC:(eE (dZ (cs.take (i+1)) 0).1).map (Value.int .i64)=(eE ds).map (Value.int .i64)++[.int .i64 ((x+k) % 65536)]:=by
    rw[hsn];simp[eE,Int.toNat_of_nonneg hem1]
   have hk5:(dZ (cs.take (i+1)) 0).2=(x+k) / 65536:=by rw[hsn]
   exact⟨(i+1,w3),⟨hw.tr r3.cQ,by dsimp only;omega⟩,Sub.gn [(0,2)] r3 ⟨by dsimp only;rw[TC];rfl,trivial⟩ ⟨rfl,rfl,by dsimp only;rw[hk5];rfl,rfl,trivial⟩,by dsimp only;omega⟩
  ·have Qx:=t2 (aH Qx);rw[<-Qx];refine⟨x+k-(x+k) % 65536,wo,by decide,(x+k) / 65536,by rw[Bw,wrap64]<;>omega,?_⟩;refine .inl ?_;refine⟨by rw[Ro,aS],by omega,by unfold maxLen;omega,((i+1:Nat):Int),wo,?_⟩;intro ρ3 w3 r3;have TC:(eE (dZ (cs.take (i+1)) 0).1).map (Value.int .i64)=(eE ds).map (Value.int .i64)++[.int .i64 ((x+k) % 65536)]:=by
    rw[hsn];simp[eE,Int.toNat_of_nonneg hem1]
   have hk5:(dZ (cs.take (i+1)) 0).2=(x+k) / 65536:=by rw[hsn]
   exact⟨(i+1,w3),⟨hw.tr r3.cQ,by dsimp only;omega⟩,Sub.gn [(0,2)] r3 ⟨by dsimp only;rw[TC];rfl,trivial⟩ ⟨rfl,rfl,by dsimp only;rw[hk5];rfl,rfl,trivial⟩,by dsimp only;omega⟩
 ·have h:i=cs.length:=by
   have:¬i<cs.length:=by simpa using h
   omega
  subst h;rw[bF]at Ro ⊢;exact rtn hw fun ρe we re=>⟨_,rfl,re.DK (id:=0) rfl (by rw[Ro,aS]) (by decide)⟩
end Go.Ex
namespace Go.Sx
open Go Go.Ex Go.Proofs
variable{ls:List Nat}{O:Nat->Sx.dg}
theorem Rel.Ko{H:Hp}{nx:Nat}{iv:Iv}{B:Nat}{w w':World}(r:Rel H nx iv B w O w'){id t m:Nat}(h:dB H id=some (.vec t 1 (U ls)))(hm:m<=ls.length)(PM:Lm ls)(hle:ls.length<=9223372036854775807):
  dL w' (fun g=>B<=g∧g<w'.heap.size) ((At.w id m).den O) (ls.take m):=by
 have OU:(ls.take m).length=m:=by rw[aV];omega
 rcases r.vec id t 1 _ h with⟨hn,hu⟩|⟨hn,spare,hb,hc,Q5⟩
 ·have hl:ls=[]:=by cases ls with
   |nil=>rfl
   |cons a b=>simp[U]at hu
  subst hl;simp at hm;subst hm;have:(At.w id 0).den O= .slice none 0 0:=by simp[At.den,hn]
  rw[this];exact dL.nil _ _
 ·refine⟨PM.take m,by rw[OU];omega,some ⟨(O id).g,0,none⟩,(O id).cap,by rw[OU];simp[At.den,hn],?_,fun j x hx=>⟨_,rfl,r.low id _ h hn,?_⟩⟩
  ·have h1:(U ls++spare).length=ls.length+spare.length:=by rw[List.length_append,gL]
   rw[OU];omega
  ·rw[List.getElem?_take]at hx;split at hx
   ·rw[dQ,cell_of hb,aQ,aL (by rw[gL];exact(aD.1 hx).1)];exact tt hx
   ·cases hx
end Go.Sx
namespace Go.Ex
open Go Go.Sx Go.Proofs
variable{ds ls:List Nat}{n:Nat}{S:Nat->Prop}
theorem GU(_hn:n<ls.length)(h0:ls[n]? =some 0):dw (ls.take (n+1))=dw (ls.take n):=by
 rw[List.take_add_one,h0];exact kR _
theorem GV{x:Nat}(h0:ls[n]? =some x)(hx:x≠0):dw (ls.take (n+1))=ls.take (n+1):=by
 rw[List.take_add_one,h0];exact nU _ hx
theorem Ew{w:World}{v:Value}(hS:Old S w)(h:dy w S v (eE ds))(hd:Dg ds)(hl:ds.length<=1000000000):
  eD PG N.tV #[v] w (eG w fun v' w2=>∃lv,v'= .agg #[.bool false,lv]∧dL w2 (Nf w w2) lv (dw (gk ds))):=by
 obtain⟨a,c,rfl,hc⟩:=h.shape;rw[ee]at hc h ⊢;refine xQ (by simp) ?_
 refine⟨Nat×World,fun z=>match z.1 with
   |0=>⟨[(0,sV a ds.length c),(2,pP 0 0),(3,pP 1 0),(4,iZ 0)],[(1,.box T.Int [.v (.bool false),.v (.slice none 0 0)]),(0,.box T.Int [.v (.bool false),.v (.slice none 0 0)])],2,[],z.2⟩
   |k+1=>⟨[(0,sV a ds.length c),(2,pP 0 0),(3,pP 1 0),(4,.o (.v (.int .i64 ((2*(k+1):Nat):Int))))],[(2,.vec T.uint32 1 (U (pk ds (k+1)))),(1,.box T.Int [.v (.bool false),.w 2 (k+1)]),(0,.box T.Int [.v (.bool false),.v (.slice none 0 0)])],3,[],z.2⟩,
  fun z=>ds.length-z.1,fun z=>eB w.heap.size w z.2∧2*z.1<=ds.length+1,?_,?_⟩
 ·intro O w' r;exact⟨(0,w'),⟨r.cQ,by simp⟩,Sub.gn [] r⟩
 rintro⟨k,w1⟩ ⟨hw,hi⟩;dsimp only at hw hi;have hR:dy w1 S (.slice a ds.length c) (eE ds):=dy.cI h fun g hg=>hw.block g (hS g hg)
 cases k with
 |zero=>
  refine dN.mk ?_ ?_<;>intro h1
  ·have h1:0<ds.length:=by
    have:=aI h1;omega
   obtain⟨d0,Vt⟩:∃x,ds[0]? =some x:=⟨_,aB h1⟩
   have hd0b:=hd d0 (aC Vt);have Sj:ds.getD (2*0) 0=d0:=by show ds.getD 0 0=d0;rw[List.getD,Vt];rfl
   obtain⟨ad,rfl,q1,q2⟩:=hR.load (j:=0) (x:=(d0:Int)) (by rw[eE,aN,Vt];rfl);refine⟨ad,rfl,by omega,.int .i64 (d0:Int),fun O w' r=>?_,?_⟩
   ·show w'.cell? (ad.add (0*1))=_;rw[cH (w:=w1) (w2:=w') (by rw[dH];exact Rel.same (S:=S) r hS (.inl q1))];exact q2
   refine⟨((0+1:Nat):Int),wo,?_⟩;refine dN.mk ?_ ?_<;>intro h2
   ·have h2:0+1<ds.length:=by
     have:=aI h2;omega
    obtain⟨d1,SL⟩:∃x,ds[0+1]? =some x:=⟨_,aB h2⟩
    have hd1b:=hd d1 (aC SL);have Sk:ds.getD (2*0+1) 0=d1:=by show ds.getD (0+1) 0=d1;rw[List.getD,SL];rfl
    obtain⟨_,Od,q3,q4⟩:=hR.load (j:=0+1) (x:=(d1:Int)) (by rw[eE,aN,SL];rfl);injection Od with Od;subst Od;refine⟨((0+1:Nat):Int),wo,ad,rfl,by omega,.int .i64 (d1:Int),fun O w' r=>?_,?_⟩
    ·show w'.cell? (ad.add ((0+1)*1))=_;rw[cH (w:=w1) (w2:=w') (by rw[dH];exact Rel.same (S:=S) r hS (.inl q3))];exact q4
    refine⟨((65536*d1:Nat):Int),wo,((d0+65536*d1:Nat):Int),wo,?_⟩;have SJ:=xe ds 0;rw[Sj,Sk]at SJ;generalize d0+65536*d1=dd at*
    have hdd:dd<4294967296:=Jp hd (0+1) dd (by rw[SJ];simp);refine⟨(dd:Int),by rw[x7]<;>omega,?_⟩;refine .inl ?_;refine⟨by omega,by unfold maxLen;omega,((2*(0+1):Nat):Int),wo,?_⟩;intro ρ3 w3 r3;have hU:U (pk ds (0+1))=U (pk ds 0)++[.int .u32 (dd:Int)]:=by rw[SJ];simp[U]
    exact⟨(0+1,w3),⟨hw.tr r3.cQ,by dsimp only;omega⟩,Sub.gn [(2,3)] r3 ⟨by dsimp only;rw[hU];rfl,rfl,rfl,trivial⟩,by dsimp only;omega⟩
   ·have h2:0+1=ds.length:=by
     have:=aH h2;omega
    have Sk:ds.getD (2*0+1) 0=0:=by show ds.getD (0+1) 0=0;rw[List.getD,List.getElem?_eq_none (by omega)];rfl
    have SJ:=xe ds 0;rw[Sj,Sk]at SJ;obtain⟨dd,hdde⟩:∃dd,dd=d0:=⟨_,rfl⟩
    rw[<-hdde]at SJ ⊢;have hdd:dd<4294967296:=by omega
    rw[show dd+65536*0=dd by omega]at SJ;refine⟨(dd:Int),by rw[x7]<;>omega,?_⟩;refine .inl ?_;refine⟨by omega,by unfold maxLen;omega,((2*(0+1):Nat):Int),wo,?_⟩;intro ρ3 w3 r3;have hU:U (pk ds (0+1))=U (pk ds 0)++[.int .u32 (dd:Int)]:=by rw[SJ];simp[U]
    exact⟨(0+1,w3),⟨hw.tr r3.cQ,by dsimp only;omega⟩,Sub.gn [(2,3)] r3 ⟨by dsimp only;rw[hU];rfl,rfl,rfl,trivial⟩,by dsimp only;omega⟩
  ·have h1:ds=[]:=by
    have:=aH h1;exact List.eq_nil_of_length_eq_zero (by omega)
   subst h1;refine⟨World,fun z=>⟨[(2,pP 0 0),(3,pP 1 0),(6,iZ 0)],[(1,.box T.Int [.v (.bool false),.v (.slice none 0 0)]),(0,.box T.Int [.v (.bool false),.v (.slice none 0 0)])],2,[],z⟩,fun _=>0,fun z=>eB w.heap.size w z,?_,?_⟩
   ·intro O w' r;exact⟨w',hw.tr r.cQ,Sub.gn [] r⟩
   intro w2 hw;dsimp only at hw ⊢;refine⟨⟨by decide,by decide,by decide⟩,none,0,0,by rfl,by rfl,by rfl,?_⟩;exact rtn hw fun ρe we re=>⟨_,rfl,dL.nil _ _⟩
 |succ k=>
  refine dN.mk ?_ ?_<;>intro h1
  ·have h1:(2*(k+1))<ds.length:=by
    have:=aI h1;omega
   obtain⟨d0,Vt⟩:∃x,ds[(2*(k+1))]? =some x:=⟨_,aB h1⟩
   have hd0b:=hd d0 (aC Vt);have Sj:ds.getD (2*(k+1)) 0=d0:=by show ds.getD (2*(k+1)) 0=d0;rw[List.getD,Vt];rfl
   obtain⟨ad,rfl,q1,q2⟩:=hR.load (j:=(2*(k+1))) (x:=(d0:Int)) (by rw[eE,aN,Vt];rfl);refine⟨ad,rfl,by omega,.int .i64 (d0:Int),fun O w' r=>?_,?_⟩
   ·show w'.cell? (ad.add ((2*(k+1))*1))=_;rw[cH (w:=w1) (w2:=w') (by rw[dH];exact Rel.same (S:=S) r hS (.inl q1))];exact q2
   refine⟨(((2*(k+1))+1:Nat):Int),wo,?_⟩;refine dN.mk ?_ ?_<;>intro h2
   ·have h2:(2*(k+1))+1<ds.length:=by
     have:=aI h2;omega
    obtain⟨d1,SL⟩:∃x,ds[(2*(k+1))+1]? =some x:=⟨_,aB h2⟩
    have hd1b:=hd d1 (aC SL);have Sk:ds.getD (2*(k+1)+1) 0=d1:=by show ds.getD ((2*(k+1))+1) 0=d1;rw[List.getD,SL];rfl
    obtain⟨_,Od,q3,q4⟩:=hR.load (j:=(2*(k+1))+1) (x:=(d1:Int)) (by rw[eE,aN,SL];rfl);injection Od with Od;subst Od;refine⟨(((2*(k+1))+1:Nat):Int),wo,ad,rfl,by omega,.int .i64 (d1:Int),fun O w' r=>?_,?_⟩
    ·show w'.cell? (ad.add (((2*(k+1))+1)*1))=_;rw[cH (w:=w1) (w2:=w') (by rw[dH];exact Rel.same (S:=S) r hS (.inl q3))];exact q4
    refine⟨((65536*d1:Nat):Int),wo,((d0+65536*d1:Nat):Int),wo,?_⟩;have SJ:=xe ds (k+1);rw[Sj,Sk]at SJ;generalize d0+65536*d1=dd at*
    have hdd:dd<4294967296:=Jp hd ((k+1)+1) dd (by rw[SJ];simp);refine⟨(dd:Int),by rw[x7]<;>omega,?_⟩;refine .inl ?_;refine⟨by rw[gL,ug];omega,by omega,by unfold maxLen;omega,((2*((k+1)+1):Nat):Int),wo,?_⟩;intro ρ3 w3 r3;have hU:U (pk ds ((k+1)+1))=U (pk ds (k+1))++[.int .u32 (dd:Int)]:=by rw[SJ];simp[U]
    exact⟨((k+1)+1,w3),⟨hw.tr r3.cQ,by dsimp only;omega⟩,Sub.gn [(2,4)] r3 ⟨by dsimp only;rw[hU];rfl,rfl,rfl,trivial⟩,by dsimp only;omega⟩
   ·have h2:(2*(k+1))+1=ds.length:=by
     have:=aH h2;omega
    have Sk:ds.getD (2*(k+1)+1) 0=0:=by show ds.getD ((2*(k+1))+1) 0=0;rw[List.getD,List.getElem?_eq_none (by omega)];rfl
    have SJ:=xe ds (k+1);rw[Sj,Sk]at SJ;obtain⟨dd,hdde⟩:∃dd,dd=d0:=⟨_,rfl⟩
    rw[<-hdde]at SJ ⊢;have hdd:dd<4294967296:=by omega
    rw[show dd+65536*0=dd by omega]at SJ;refine⟨(dd:Int),by rw[x7]<;>omega,?_⟩;refine .inl ?_;refine⟨by rw[gL,ug];omega,by omega,by unfold maxLen;omega,((2*((k+1)+1):Nat):Int),wo,?_⟩;intro ρ3 w3 r3;have hU:U (pk ds ((k+1)+1))=U (pk ds (k+1))++[.int .u32 (dd:Int)]:=by rw[SJ];simp[U]
    exact⟨((k+1)+1,w3),⟨hw.tr r3.cQ,by dsimp only;omega⟩,Sub.gn [(2,4)] r3 ⟨by dsimp only;rw[hU];rfl,rfl,rfl,trivial⟩,by dsimp only;omega⟩
  ·have h1:ds.length<=2*(k+1):=by
    have:=aH h1;omega
   have hk:k+1=(ds.length+1) / 2:=by omega
   have SJ:pk ds (k+1)=gk ds:=by rw[hk];exact Jo ds
   have hlen:=ug ds (k+1);have PM:=Jp hd (k+1);rw[<-SJ];obtain⟨ls,hls⟩:∃ls,ls=pk ds (k+1):=⟨_,rfl⟩
   rw[<-hls]at hlen PM ⊢
   refine⟨by show(U (pk ds (k+1))).length=_;rw[<-hls,gL,hlen];simp,Nat×World,fun z=>⟨[(2,pP 0 0),(3,pP 1 0),(6,iZ z.1)],[(2,.vec T.uint32 1 (U ls)),(1,.box T.Int [.v (.bool false),.w 2 (k+1)]),(0,.box T.Int [.v (.bool false),.v (.slice none 0 0)])],3,[],z.2⟩,fun z=>z.1,
    fun z=>eB w.heap.size w z.2∧z.1<=k+1∧dw (ls.take z.1)=dw ls,?_,?_⟩
   ·intro O w' r;exact⟨(k+1,w'),⟨hw.tr r.cQ,aF _,by dsimp only;rw[List.take_of_length_le (by omega)]⟩,Sub.gn [] r ⟨by dsimp only;rw[hls];rfl,rfl,rfl,trivial⟩⟩
   rintro⟨n,w2⟩ ⟨hw,hn,htr⟩;dsimp only at hw hn htr ⊢
   cases n with
   |zero=>
    refine⟨by rw[gL,hlen];simp,⟨by omega,by omega⟩,0,by rfl,?_⟩;intro ρe we re;refine⟨_,rfl,hw.tr re.cQ,_,rfl,?_⟩;have:=re.Ko (id:=2) (m:=0) rfl (aO _) PM (by omega);rw[<-htr];exact this.cJ fun g hg=>.inr hg
   |succ n=>
    obtain⟨x,hx⟩:∃x,ls[n]? =some x:=⟨_,aB (by omega)⟩
    refine dN.mk (fun hp=>?_) (fun hp=>absurd (aH hp) (by omega));refine⟨(n:Int),wo,by rw[gL,hlen];simp,by omega,.int .u32 (x:Int),by simpa using tt hx,?_⟩;refine dN.mk ?_ ?_<;>intro h0
    ·have h0:x=0:=by have:=eq_of_beq h0;omega
     subst h0;refine⟨(n:Int),wo,?_⟩;intro ρ3 w3 r3;exact⟨(n,w3),⟨hw.tr r3.cQ,by dsimp only;omega,by dsimp only;rw[<-htr,GU (by omega) hx]⟩,Sub.gn [] r3,by dsimp only;omega⟩
    ·have h0:x≠0:=fun e=>by rw[e]at h0;exact absurd h0 (by decide)
     refine⟨by rw[gL,hlen];simp,⟨by omega,by omega⟩,n+1,by rfl,?_⟩;intro ρe we re;refine⟨_,rfl,hw.tr re.cQ,_,rfl,?_⟩;have:=re.Ko (id:=2) (m:=n+1) rfl (by omega) PM (by omega);rw[<-htr,GV hx h0];exact this.cJ fun g hg=>.inr hg
end Go.Ex
namespace Go.Ex
open Go Go.Sx Go.Proofs
variable{H:Hp}{z:Int}{iv:Iv}{cs:List Int}{b ds ls:List Nat}{xs:List Value}{B i nx:Nat}{S:Nat->Prop}{O:Nat->Sx.dg}{a2:Option Addr}{q:Rat}{u v:Value}{w w':World}
theorem uI{w2:World}{v':Value}(hc:GS iv v)(r:Rel H nx iv B w O w')(Qc:∀g,v'.ownBlock=some g->g<w2.heap.size∧(v.ownBlock=some g∨g=w'.heap.size)):
  ∀lo hi,(lo,hi)∈mP v'->hi<=w2.heap.size∧∀id b,dB H id=some b->(O id).nil=false->¬(lo<=(O id).g∧(O id).g<hi):=fun lo hi hm=>by
 obtain⟨hg,rfl⟩:=qX.1 hm;obtain⟨h1,h2⟩:=Qc _ hg;refine⟨by omega,fun id c hc' hn he=>?_⟩;rcases h2 with h2|h2
 ·exact hc.not r h2 id c hc' hn (by omega)
 ·have:=(r.low id c hc' hn).2;omega
theorem dL.out{w1:World}(h:dL w1 (Cv S w.heap.size iv) v ls)(r:Rel H nx iv w.heap.size w1 O w')(hS:Old S w):dL w' (Nw S w w') v ls:=
 (dL.rel h r hS).cJ fun _ hg=>Cv.nw hg r
theorem HX{B' e sz m:Nat}(h:w.ownsRow B e sz v m xs)(hb:B'<=B):w.ownsRow B' e sz v m xs:=⟨h.1,h.2.imp id fun⟨g,cap,cur,k1,k2,k3⟩=>⟨g,cap,cur,k1,by omega,k3⟩⟩
theorem uJ(a b:List Nat):eE (a++b)=eE a++eE b:=by simp[eE]
theorem qZ{m:Nat}(h:w.ownsRow B T.int 1 v m (cs.map (Value.int .i64)))(hm:m=cs.length)(hl:m<=maxLen):dy w (fun g=>v.ownBlock=some g) v cs:=by
 subst hm;rcases h.2 with⟨rfl,h0⟩|⟨g,cap,cur,rfl,hb,hc,hmc,Q5,Oq,Rl⟩
 ·have:cs=[]:=List.eq_nil_of_length_eq_zero h0;subst this;exact⟨by simp[maxLen],by simp,by simp,none,0,rfl,aF _,by simp⟩
 ·refine⟨hl,h.1,fun u hu=>by simp at hu;obtain⟨_,_,rfl⟩:=hu;rfl,_,cap,rfl,hmc,fun j u hu=>⟨_,rfl,rfl,?_⟩⟩;exact h.cells (g:=g) rfl j u hu
theorem Dg.append{a:List Nat}(ha:Dg a)(hb:Dg b):Dg (a++b):=fun x hx=>(bG.1 hx).elim (ha x) (hb x)
theorem wi(a b:List Nat):l8 (a++b)=l8 a+up a.length*l8 b:=by
 unfold l8;rw[List.map_append,AU,aJ]
theorem AD(hd:Dg ds):Nz (dw (gk ds))∧(val (dw (gk ds)):Int)=l8 ds:=by
 obtain⟨h1,h2,_⟩:=zA ds hd;obtain⟨k1,k2,_⟩:=ef (gk ds);exact⟨k2,by rw[k1,h1]⟩
theorem vS(hS:Old S w)(h:dy w S v cs)(hb:∀c∈cs,-1152921504606846976<=c∧c<=1152921504606846976)(hl:cs.length<=100000000):
  eD PG N.kD #[v] w (eG w fun v' w2=>dJ w2 (Nf w w2) v' (dP cs)):=by
 obtain⟨a,c,rfl,hc⟩:=h.shape;obtain⟨Vu,hdg,SM⟩:=k9 cs 0;obtain⟨hk1,VA⟩:=kC cs 0 hb (by decide) (by decide);rw[Int.add_zero]at Vu;refine vC (by simp) ?_;refine cD (cO (Φ:=fun _ w' v' w2=>∃o,v'= .tuple #[o,.int .i64 (dZ cs 0).2]∧w2.ownsRow w'.heap.size T.int 1 o cs.length ((eE (dZ cs 0).1).map (Value.int .i64))) (fun O w' r=>Bx (oS hS r) (dy.cI h fun g hg=>Rel.same (S:=S) r hS (.inl hg)) hb (by omega)) ?_);rintro O wa v1 wb r he hw ⟨o,rfl,OH⟩;have QC:GS [(wa.heap.size,wb.heap.size)] o:=fun g hg=>⟨_,_,aw.2 rfl,(ownsRow.low OH g hg).1,(ownsRow.low OH g hg).2⟩
 replace OH:=HX OH r.cF;generalize [(wa.heap.size,wb.heap.size)]=iv at*
 generalize hds:(dZ cs 0).1=ds at*
 generalize hk:(dZ cs 0).2=k at*
 obtain⟨ao,co,rfl,hco⟩:=jc OH;refine dN.mk ?_ ?_<;>intro Qx
 ·have Qx:=aI Qx;have hV:dP cs<0:=by
   have h1:=(yz hdg).2;rw[SM]at h1;have h2:=Jn cs.length;have h3:up cs.length*k<=up cs.length*(-1):=Int.mul_le_mul_of_nonneg_left (by omega) (by omega);omega
  obtain⟨UW,Vv,hdl2⟩:=k9 (cs.map (- ·)) 0;have QH:∀c∈cs.map (- ·),-1152921504606846976<=c∧c<=1152921504606846976:=fun c hc=>by
   obtain⟨x,hx,rfl⟩:=aT.1 hc;have:=hb x hx;omega
  obtain⟨hk1',hk2'⟩:=kC (cs.map (- ·)) 0 QH (by decide) (by decide);rw[Int.add_zero,Fl,aJ]at UW;rw[aJ]at hdl2;have SA:0<=(dZ (cs.map (- ·)) 0).2:=by
   have h1:=(yz Vv).2;rw[hdl2]at h1;have h2:=Jn cs.length;apply Decidable.byContradiction;intro h3;have h4:up cs.length*(dZ (cs.map (- ·)) 0).2<=up cs.length*(-1):=Int.mul_le_mul_of_nonneg_left (by omega) (by omega);omega
  refine⟨Nat×World,fun z=>⟨[(0,sV a cs.length c),(2,pP 0 0),(3,sV ao cs.length co),(5,iZ z.1)],[(0,.box T.Int [.v (.bool false),.v (.slice none 0 0)])],1,iv,z.2⟩,fun z=>cs.length-z.1,
   fun z=>z.1<=cs.length∧eB w.heap.size w z.2∧z.2.ownsRow w.heap.size T.int 1 (.slice ao cs.length co) cs.length (((cs.take z.1).map (- ·)++(eE ds).drop z.1).map (Value.int .i64)),?_,?_⟩
  ·intro O w' r;exact⟨(0,w'),⟨by simp,hw.tr r.cQ,by simpa using jM OH QC r⟩,Sub.gn [] r⟩
  rintro⟨i,w1⟩ ⟨hi,hw,OH⟩;dsimp only at hi hw OH ⊢;have hR:dy w1 S (.slice a cs.length c) cs:=dy.cI h fun g hg=>hw.block g (hS g hg);refine dN.mk ?_ ?_<;>intro OF
  ·have OF:i<cs.length:=by simpa using OF
   obtain⟨x,hx⟩:∃x,cs[i]? =some x:=⟨_,aB OF⟩
   obtain⟨QK,QM⟩:=hb x (aC hx);obtain⟨ad,rfl,q1,q2⟩:=hR.load hx;obtain⟨go,hgo⟩:∃g,ao=some ⟨g,0,none⟩:=by
    rcases OH.2 with⟨_,h0⟩|⟨g,cap,cur,e,_⟩
    ·omega
    ·injection e with e;exact⟨g,e⟩
   subst hgo;refine⟨ad,rfl,by omega,.int .i64 x,fun O w' r=>?_,?_⟩
   ·rw[aE,cH (w:=w1) (w2:=w') (by rw[dH];exact Rel.same (S:=S) r hS (.inl q1))];exact q2
   refine⟨-x,wo,⟨go,0,none⟩,rfl,by omega,?_⟩;intro O w' r;have UJ:=jM OH QC r;obtain⟨g',UK,OJ,QV,PX,Oq⟩:=ow (nv:=[.int .i64 (-x)]) UJ rfl OF rfl (by decide);injection UK with UK;injection UK with UK;subst UK;rw[MD (by rw[aJ,List.length_append,aJ,aV,List.length_drop,ee,SM];omega)]at QV;have Od:(⟨go,0,none⟩:Addr).add ((i:Int).toNat*1)=⟨go,i*1,none⟩:=by rw[aE,dQ,aQ]
   have Q6:=fun id b hb hn=>QC.not r (b:=go) rfl id b hb hn;have hgoB:=(ownsRow.low OH go rfl).1;have hw':eB w.heap.size w (setCells w' ⟨go,i*1,none⟩ [.int .i64 (-x)]):=(hw.tr r.cQ).tr (eB.grown PX (fun g hg=>by injection hg with hg;subst hg;exact hgoB) r.cF);have hlist:(((cs.take i).map (- ·)++(eE ds).drop i).map (Value.int .i64)).set i (.int .i64 (-x))=((cs.take (i+1)).map (- ·)++(eE ds).drop (i+1)).map (Value.int .i64):=by
    rw[<-List.map_set];congr 1;have R8:((cs.take i).map (- ·)).length=i:=by rw[aJ,aV];omega
    obtain⟨d,hd⟩:∃d,(eE ds)[i]? =some d:=⟨_,aB (by rw[ee,SM];exact OF)⟩
    have PC:(eE ds).drop i=d::(eE ds).drop (i+1):=by
     rw[List.drop_eq_getElem_cons (by rw[ee,SM];exact OF)];congr 1;have:=aB (l:=eE ds) (i:=i) (by rw[ee,SM];exact OF);rw[hd]at this;injection this with this;exact this.symm
    rw[List.take_add_one,hx,List.map_append,PC,List.set_append_right _ _ (by omega),R8,bK];simp
   refine⟨by rw[Od],fun j hj=>by rw[Od];exact OJ j hj,fun id b hb hn=>by rw[Od];exact Q6 id b hb hn,fun w2 Ow=>?_⟩;have Ow:w2=setCells w' ⟨go,i*1,none⟩ [.int .i64 (-x)]:=by rw[Ow];exact congrArg (fun x=>setCells w' x _) Od
   rw[<-Ow]at QV hw'
   erw [hlist]at QV
   refine⟨((i+1:Nat):Int),wo,?_⟩;intro ρ3 w3 r3;exact⟨(i+1,w3),⟨OF,hw'.tr r3.cQ,jM QV QC r3⟩,Sub.gn [] r3,by dsimp only;omega⟩
  have OF:i=cs.length:=by
   have:¬i<cs.length:=by simpa using OF
   omega
  subst OF;rw[bF,List.drop_of_length_le (by rw[ee,SM];exact aF _),List.append_nil]at OH;refine⟨⟨by omega,by omega,by omega⟩,ao,cs.length,co,EU ao co,by omega,by omega,?_⟩;refine cD (cO (Φ:=fun _ w' v' w2=>∃o,v'= .tuple #[o,.int .i64 (dZ (cs.map (- ·)) 0).2]∧w2.ownsRow w'.heap.size T.int 1 o cs.length ((eE (dZ (cs.map (- ·)) 0).1).map (Value.int .i64))) (fun O w' r=>?_) ?_)
  ·have h8:=jM OH QC r;have h9:=qZ h8 (by rw[aJ]) (by unfold maxLen;omega);have h10:=Bx (fun g hg=>(ownsRow.low h8 g hg).2) h9 QH (by rw[aJ];omega);rw[aJ]at h10;exact h10
  rintro O wc v1 wd r he OR ⟨o2,rfl,QB⟩;have Qb:GS ((wc.heap.size,wd.heap.size)::iv) o2:=fun g hg=>⟨_,_,aG,(ownsRow.low QB g hg).1,(ownsRow.low QB g hg).2⟩
  replace QB:=HX QB r.cF;replace hw:=hw.tr OR;generalize (wc.heap.size,wd.heap.size)::iv=OK at*
  generalize hds2:(dZ (cs.map (- ·)) 0).1=ds2 at*
  generalize hkk2:(dZ (cs.map (- ·)) 0).2=k2 at*
  obtain⟨kn,rfl⟩:∃kn:Nat,k2=kn:=⟨k2.toNat,by omega⟩
  obtain⟨ao2,co2,rfl,hco2⟩:=jc QB;have ds2_len:ds2.length=cs.length:=hdl2;have ds2_dg:Dg ds2:=Vv;refine cD (cO (Φ:=fun _ w' v w2=>dy w2 (Nf w' w2) v (eE (dG kn))) (fun O w' r=>by exact Ev kn w' (by omega)) ?_);rintro O ws vs wt r he hb Vg;have TD:dy wt (Cf w ((ws.heap.size,wt.heap.size)::OK)) vs (eE (dG kn)):=dy.cJ Vg fun g hg=>hg.dE r.cF aG;replace QB:=ownsRow.cI (jM QB Qb r) fun g hg=>he.block g (by have:=(ownsRow.low (jM QB Qb r) g hg).2;exact this);replace Qb:GS ((ws.heap.size,wt.heap.size)::OK) _:=Qb.mono fun p hp=>List.mem_cons_of_mem _ hp;replace hw:=hw.tr hb;generalize (ws.heap.size,wt.heap.size)::OK=oe at*
  obtain⟨asp,csp,rfl,-⟩:=TD.shape;rw[ee]at TD ⊢;have Qd:=jY (n:=kn) (k:=4) (by omega);have hsd:=(ke kn).2
  refine .inr (rN hτ (aF _) (xs:=(eE ds2).map (Value.int .i64)) (news:=(eE (dG kn)).map (Value.int .i64)) (m:=cs.length) (k:=(dG kn).length) (by rfl) (by rfl) (by decide) (by rfl) (by rfl) (fun O w' r=>⟨jM QB Qb r,fun g hg=>Qb.not r hg⟩) (by simp[eE]) (by intro u hu;simp at hu;obtain⟨_,_,rfl⟩:=hu;rfl) (by unfold maxLen;omega) (by omega)
   (fun O w' r=>?_) (fun v' w2=>mP v') (fun O w' v' w2 r Oq Qc=>uI Qb r Qc) (fun O w' v' w2 r h5 h6 h7=>?_))
  ·obtain⟨_,_,_,a2,c2,e2,_,e3⟩:=TD;injection e2 with e4 e5 e6;subst e4 e6
   cases asp with
   |none=>
    have h0:(dG kn).length=0:=by
     rcases bI (dG kn).length with h0|h0
     ·exact h0
     ·obtain⟨ad2,q1,_⟩:=e3 0 _ (aB (show 0<((eE (dG kn)).map (Value.int .i64)).length by simp[eE];exact h0))
      cases q1
    exact .inl ⟨csp,by rw[h0];rfl,h0⟩
   |some ad3=>
    refine .inr ⟨ad3,csp,rfl,fun j u hu=>?_⟩;obtain⟨ad2,q1,q2,q3⟩:=e3 j u hu;injection q1 with q1;subst q1;rw[cH (w:=wt) (w2:=w') (by rw[dH];exact Rel.same r (cC w) q2)];exact q3
  replace hw:eB w.heap.size w w2:=(hw.tr r.cQ).tr (eB.grown h6 (fun g hg=>by
   have:=(ownsRow.low QB g hg).1;omega) r.cF)
  have hcat:(eE ds2).map (Value.int .i64)++(eE (dG kn)).map (Value.int .i64)=(eE (ds2++dG kn)).map (Value.int .i64):=by rw[uJ,List.map_append]
  rw[hcat]at h5;have RQ:cs.length+(dG kn).length=(eE (ds2++dG kn)).length:=by rw[ee,List.length_append,ds2_len]
  have UX:Dg (ds2++dG kn):=ds2_dg.append hsd;have Pn:(ds2++dG kn).length<=1000000000:=by rw[List.length_append,ds2_len];omega
  obtain⟨a3,c3,rfl,-⟩:=jc h5;refine cD (cO (Φ:=fun _ w' v' w2=>∃lv,v'= .agg #[.bool false,lv]∧dL w2 (Nf w' w2) lv (dw (gk (ds2++dG kn)))) (fun O w' r=>?_) ?_)
  ·have h8:=jM h5 (GS.row _) r;have h9:=qZ h8 RQ (by unfold maxLen;omega);have h10:=Ew (w:=w') (fun g hg=>(ownsRow.low h8 g hg).2) h9 UX Pn;exact h10
  rintro O wp v1 wq r he hb ⟨lv,rfl,hL⟩;have Vw:=hL.dE (S:=FF) r.cF (iv:=[(wp.heap.size,wq.heap.size)]) aG;have Vw:dL wq (Cf w ((wp.heap.size,wq.heap.size)::mP (.slice a3 (cs.length+(dG kn).length) c3))) lv (dw (gk (ds2++dG kn))):=hL.cJ fun g hg=>hg.dE r.cF aG;replace hw:=hw.tr hb;generalize (wp.heap.size,wq.heap.size)::mP (.slice a3 (cs.length+(dG kn).length) c3)=ivq at*
  obtain⟨hnz,hvv⟩:=AD UX;obtain⟨a4,n4,c4,rfl⟩:=Vw.shape;have hcv: -dP cs=l8 (ds2++dG kn):=by rw[UW,wi,(ke kn).1,ds2_len]
  obtain⟨pp,hpe,hpp⟩:=Vw.la;injection hpe with hpe1 hpe2 hpe3;subst hpe1 hpe2 hpe3;have hlenpos:0<pp.ls.length:=by
   rw[hpp];rcases bI (dw (gk (ds2++dG kn))).length with h0|h0
   ·rw[List.eq_nil_of_length_eq_zero h0]at hvv;simp[val]at hvv;omega
   ·exact h0
  intro ρe we re;refine⟨_,rfl,hw.tr re.cQ,dw (gk (ds2++dG kn)),⟨_,?_,Vw.out re (cC w)⟩,hnz,?_⟩
  ·rw[bT hV];have:decide ((pp.ls.length:Int)>0)=true:=bT (by omega);rw[<-this];rfl
  ·have:((val (dw (gk (ds2++dG kn))):Nat):Int)= -dP cs:=by rw[hvv,hcv]
   omega
 ·have Qx:=aH Qx;obtain⟨kn,rfl⟩:∃kn:Nat,k=kn:=⟨k.toNat,by omega⟩
  have ds_len:ds.length=cs.length:=SM;have ds_dg:Dg ds:=hdg;refine cD (cO (Φ:=fun _ w' v w2=>dy w2 (Nf w' w2) v (eE (dG kn))) (fun O w' r=>by exact Ev kn w' (by omega)) ?_);rintro O ws vs wt r he hb Vg;have TD:dy wt (Cf w ((ws.heap.size,wt.heap.size)::iv)) vs (eE (dG kn)):=dy.cJ Vg fun g hg=>hg.dE r.cF aG;replace OH:=ownsRow.cI (jM OH QC r) fun g hg=>he.block g (by have:=(ownsRow.low (jM OH QC r) g hg).2;exact this);replace QC:GS ((ws.heap.size,wt.heap.size)::iv) _:=QC.mono fun p hp=>List.mem_cons_of_mem _ hp;replace hw:=hw.tr hb;generalize (ws.heap.size,wt.heap.size)::iv=oe at*
  obtain⟨asp,csp,rfl,-⟩:=TD.shape;rw[ee]at TD ⊢;have Qd:=jY (n:=kn) (k:=4) (by omega);have hsd:=(ke kn).2
  refine .inr (rN hτ (aF _) (xs:=(eE ds).map (Value.int .i64)) (news:=(eE (dG kn)).map (Value.int .i64)) (m:=cs.length) (k:=(dG kn).length) (by rfl) (by rfl) (by decide) (by rfl) (by rfl) (fun O w' r=>⟨jM OH QC r,fun g hg=>QC.not r hg⟩) (by simp[eE]) (by intro u hu;simp at hu;obtain⟨_,_,rfl⟩:=hu;rfl) (by unfold maxLen;omega) (by omega)
   (fun O w' r=>?_) (fun v' w2=>mP v') (fun O w' v' w2 r Oq Qc=>uI QC r Qc) (fun O w' v' w2 r h5 h6 h7=>?_))
  ·obtain⟨_,_,_,a2,c2,e2,_,e3⟩:=TD;injection e2 with e4 e5 e6;subst e4 e6
   cases asp with
   |none=>
    have h0:(dG kn).length=0:=by
     rcases bI (dG kn).length with h0|h0
     ·exact h0
     ·obtain⟨ad2,q1,_⟩:=e3 0 _ (aB (show 0<((eE (dG kn)).map (Value.int .i64)).length by simp[eE];exact h0))
      cases q1
    exact .inl ⟨csp,by rw[h0];rfl,h0⟩
   |some ad3=>
    refine .inr ⟨ad3,csp,rfl,fun j u hu=>?_⟩;obtain⟨ad2,q1,q2,q3⟩:=e3 j u hu;injection q1 with q1;subst q1;rw[cH (w:=wt) (w2:=w') (by rw[dH];exact Rel.same r (cC w) q2)];exact q3
  replace hw:eB w.heap.size w w2:=(hw.tr r.cQ).tr (eB.grown h6 (fun g hg=>by
   have:=(ownsRow.low OH g hg).1;omega) r.cF)
  have hcat:(eE ds).map (Value.int .i64)++(eE (dG kn)).map (Value.int .i64)=(eE (ds++dG kn)).map (Value.int .i64):=by rw[uJ,List.map_append]
  rw[hcat]at h5;have RQ:cs.length+(dG kn).length=(eE (ds++dG kn)).length:=by rw[ee,List.length_append,ds_len]
  have UX:Dg (ds++dG kn):=ds_dg.append hsd;have Pn:(ds++dG kn).length<=1000000000:=by rw[List.length_append,ds_len];omega
  obtain⟨a3,c3,rfl,-⟩:=jc h5;refine cD (cO (Φ:=fun _ w' v' w2=>∃lv,v'= .agg #[.bool false,lv]∧dL w2 (Nf w' w2) lv (dw (gk (ds++dG kn)))) (fun O w' r=>?_) ?_)
  ·have h8:=jM h5 (GS.row _) r;have h9:=qZ h8 RQ (by unfold maxLen;omega);have h10:=Ew (w:=w') (fun g hg=>(ownsRow.low h8 g hg).2) h9 UX Pn;exact h10
  rintro O wp v1 wq r he hb ⟨lv,rfl,hL⟩;have Vw:=hL.dE (S:=FF) r.cF (iv:=[(wp.heap.size,wq.heap.size)]) aG;have Vw:dL wq (Cf w ((wp.heap.size,wq.heap.size)::mP (.slice a3 (cs.length+(dG kn).length) c3))) lv (dw (gk (ds++dG kn))):=hL.cJ fun g hg=>hg.dE r.cF aG;replace hw:=hw.tr hb;generalize (wp.heap.size,wq.heap.size)::mP (.slice a3 (cs.length+(dG kn).length) c3)=ivq at*
  obtain⟨hnz,hvv⟩:=AD UX;obtain⟨a4,n4,c4,rfl⟩:=Vw.shape;intro ρe we re;have hcv:dP cs=l8 (ds++dG kn):=by rw[Vu,wi,(ke kn).1,ds_len]
  refine⟨_,rfl,hw.tr re.cQ,dw (gk (ds++dG kn)),⟨_,?_,Vw.out re (cC w)⟩,hnz,?_⟩
  ·have:¬dP cs<0:=by rw[hcv,<-hvv];omega
   rw[bN this];rfl
  ·rw[hcv,<-hvv];rfl
theorem NL(n:Int):dP [n.tmod 65536,(n.tdiv 65536).tmod 65536,(n.tdiv 65536).tdiv 65536]=n:=by
 simp only[dP]
 have h1:=Int.mul_tdiv_add_tmod n 65536;have h2:=Int.mul_tdiv_add_tmod (n.tdiv 65536) 65536;omega
theorem kZ(n:Int)(w:World)(h1: -9223372036854775808<=n)(h2:n<=9223372036854775807):
  eD PG N.EO #[.int .i64 n] w (eG w fun v w2=>dJ w2 (Nf w w2) v n):=by
 refine ER (by simp) ?_;have b1:=vR n;have b2:=vR (n.tdiv 65536);have e1:=Int.mul_tdiv_add_tmod n 65536;have e2:=Int.mul_tdiv_add_tmod (n.tdiv 65536) 65536;have hsum:=NL n;refine⟨by decide,n.tmod 65536,rfl,by decide,n.tdiv 65536,wo,by decide,_,rfl,by decide,n.tdiv 65536,wo,by decide,(n.tdiv 65536).tdiv 65536,wo,?_⟩;generalize n.tmod 65536=c0 at*
 generalize (n.tdiv 65536).tmod 65536=c1 at*
 generalize (n.tdiv 65536).tdiv 65536=c2 at*
 refine cD (cO (Φ:=fun _ w' v w2=>dJ w2 (Nf w' w2) v n) (fun O w' r=>?_) ?_)
 ·rw[<-hsum];have ha:=r.pz (id:=1) (sz:=1) (n:=3) rfl rfl (by decide) (by intro u hu;simp at hu;rcases hu with rfl|rfl|rfl<;>rfl)
  exact vS (S:=fun g=>g=(O 1).g) (fun g hg=>by rw[hg];exact(r.low 1 _ rfl (r.nn 1 _ rfl (by intros;simp) (by simp))).2) (cs:=[c0,c1,c2]) ha (by
   intro c hc;simp at hc
   rcases hc with rfl|rfl|rfl<;>omega) (by simp)
 rintro O wa v1 wb r he hb hI;have hI:=hI.dE (S:=FF) r.cF (iv:=(wa.heap.size,wb.heap.size)::[]) aG;generalize (wa.heap.size,wb.heap.size)::[]=iv at*
 obtain⟨b,a,m,c,rfl⟩:=hI.shape;intro ρe we re;exact⟨_,rfl,hb.tr re.cQ,hI.out re (cC w)⟩
def jg(z:Int):Value:=if z.natAbs<1073741824 then .tuple #[.int .i64 z,.bool true]else .tuple #[.int .i64 0,.bool false]
theorem j5.Ey(h:j5 w S v z):∃b a ls c,v= .agg #[.bool b,.slice a ls.length c]∧dL w S (.slice a ls.length c) ls∧sg b (val ls)=z:=by
 obtain⟨b,ls,⟨lv,h1,h2⟩,h3⟩:=h;obtain⟨a,c,rfl,_⟩:=h2.sl;exact⟨b,a,ls,c,h1,h2,h3⟩
theorem ME{x:Nat}(h:ls[i]? =some x):wt i*x<=val ls:=by
 have hi:=(aD.1 h).1;have h1:=e8 ls (i+1) hi;rw[de h]at h1;omega
theorem Nv(h:0<i):4294967296<=wt i:=by
 obtain⟨k,rfl⟩:∃k,i=k+1:=⟨i-1,by omega⟩
 have:=yM k;rw[ir];omega
theorem nL(hS:Old S w)(hI:j5 w S v z):
  eD PG N.wN #[v] w (eG w fun v' _=>v'=jg z):=by
 obtain⟨b,a,ls,c,rfl,hL,hz⟩:=hI.Ey;refine z8 (by simp) ?_;have hlen:=hL.le
 refine⟨Nat×World,fun y=>⟨[(1,pP 0 0),(4,.o (.v (.int .i64 (val (ls.take y.1))))),(5,iZ y.1)],[(0,.box T.Int [.v (.bool b),.v (.slice a ls.length c)])],1,[],y.2⟩,fun y=>ls.length-y.1,
  fun y=>y.1<=ls.length∧eB w.heap.size w y.2∧val (ls.take y.1)<1073741824∧(∀j,0<j->j<y.1->ls[j]? =some 0),?_,?_⟩
 ·intro O w' r;exact⟨(0,w'),⟨by simp,r.cQ,by simp[val],by omega⟩,Sub.gn [] r⟩
 rintro⟨i,w1⟩ ⟨hi,hw,hv,h0⟩;dsimp only at hi hw hv h0 ⊢;refine dN.mk ?_ ?_<;>intro OF
 ·have OF:i<ls.length:=by simpa using OF
  obtain⟨a',c',e,_,Oz⟩:=hL.sl;injection e with e1 e2 e3;subst e1 e3;obtain⟨x,hx⟩:∃x,ls[i]? =some x:=⟨_,aB OF⟩
  have Px:=hL.lm x (aC hx);obtain⟨ad,rfl,q1,q2⟩:=Oz i x hx;have QX:∀{H nx iv O w'},Rel H nx iv w.heap.size w1 O w'->w'.cell? (ad.add ((i:Int).toNat*1))=some (.int .u32 x):=fun r=>by
   rw[aE,aS];exact kM hS hw r q1 q2
  have hge:=ME hx;refine dN.mk ?_ ?_<;>intro hp
  ·have hp:0<i:=by
    have:(i:Int)>0:=aI hp;omega
   have hw1:=Nv hp;refine⟨ad,rfl,by omega,.int .u32 x,fun O w' r=>QX r,?_⟩;refine dN.mk ?_ ?_<;>intro OG
   ·have OG:x≠0:=by simpa using OG
    intro ρe we re;refine⟨_,rfl,hw.tr re.cQ,?_⟩;have:¬z.natAbs<1073741824:=by
     have:=Nat.mul_le_mul hw1 (show 1<=x by omega);rw[<-hz,sO];omega
    show _=jg z;rw[jg,aK this];rfl
   ·have OG:x=0:=by simpa using OG
    subst OG;refine⟨ad,rfl,by omega,.int .u32 0,fun O w' r=>QX r,?_⟩;have QS:val (ls.take (i+1))=val (ls.take i):=by rw[de hx];omega
    have RS:val (ls.take (i+1))<1073741824:=by rw[QS];exact hv
    have h02:∀j,0<j->j<i+1->ls[j]? =some 0:=fun j h1 h2=>by
     rcases aP j i with h3|h3
     ·exact h0 j h1 h3
     ·have:j=i:=by omega
      rw[this];exact hx
    refine⟨ad,rfl,by omega,.int .u32 0,fun O w' r=>QX r,((0:Nat):Int),by decide,((val (ls.take (i+1)):Nat):Int),by rw[QS,wrap64]<;>omega,((i+1:Nat):Int),wo,?_⟩;intro ρ3 w3 r3;exact⟨(i+1,w3),⟨OF,hw.tr r3.cQ,RS,h02⟩,Sub.gn [] r3,by dsimp only;omega⟩
  ·have hp:i=0:=by
    have:¬((i:Int)>0):=aH hp;omega
   subst hp;refine⟨ad,rfl,by omega,.int .u32 x,fun O w' r=>QX r,?_⟩;refine dN.mk ?_ ?_<;>intro VX
   ·have VX:=aI VX;intro ρe we re;refine⟨_,rfl,hw.tr re.cQ,?_⟩;have:¬z.natAbs<1073741824:=by
     rw[<-hz,sO];rw[jL]at hge;omega
    show _=jg z;rw[jg,aK this];rfl
   ·have VX:=aH VX;have QS:val (ls.take (0+1))=x:=by rw[de hx];simp[val,jL]
    have RS:val (ls.take (0+1))<1073741824:=by rw[QS];omega
    have h02:∀j,0<j->j<0+1->ls[j]? =some 0:=fun j h1 h2=>by
     omega
    refine⟨ad,rfl,by omega,.int .u32 x,fun O w' r=>QX r,((x:Nat):Int),wo,((val (ls.take (0+1)):Nat):Int),by rw[QS,wrap64]<;>simp[val]<;>omega,((0+1:Nat):Int),wo,?_⟩;intro ρ3 w3 r3;exact⟨(0+1,w3),⟨OF,hw.tr r3.cQ,RS,h02⟩,Sub.gn [] r3,by dsimp only;omega⟩
 ·have OF:i=ls.length:=by
   have:¬i<ls.length:=by simpa using OF
   omega
  subst OF;rw[bF]at hv ⊢;have OU:z.natAbs<1073741824:=by rw[<-hz,sO];exact hv
  cases b with
  |true=>
   refine⟨-(val ls:Int),wo,?_⟩;intro ρe we re;refine⟨_,rfl,hw.tr re.cQ,?_⟩;show _=jg z;rw[jg,if_pos OU,<-hz,KK];rfl
  |false=>
   intro ρe we re;refine⟨_,rfl,hw.tr re.cQ,?_⟩;show _=jg z;rw[jg,if_pos OU,<-hz,NA];rfl
theorem By{a b:Int}(hb:b≠0):a.tdiv (b.sign*(Nat.gcd a.natAbs b.natAbs:Nat))=(Rat.divInt a b).num∧b.tdiv (b.sign*(Nat.gcd a.natAbs b.natAbs:Nat))=((Rat.divInt a b).den:Int):=by
 have hg:0<Nat.gcd a.natAbs b.natAbs:=bm _ (by omega);obtain⟨k,hk⟩:((Nat.gcd a.natAbs b.natAbs:Nat):Int) ∣ a:=by rw[<-Int.natAbs_dvd_natAbs];exact Nat.gcd_dvd_left _ _
 obtain⟨l,hl⟩:((Nat.gcd a.natAbs b.natAbs:Nat):Int) ∣ b:=by rw[<-Int.natAbs_dvd_natAbs];exact Nat.gcd_dvd_right _ _
 have hc:(b.gcd a:Int)=(Nat.gcd a.natAbs b.natAbs:Nat):=by rw[Int.gcd_comm];rfl
 have Vs:b.gcd a=Nat.gcd a.natAbs b.natAbs:=by rw[Int.gcd_comm];rfl
 rw[Rat.num_divInt,Rat.den_divInt,aK hb,hc,Vs];generalize Nat.gcd a.natAbs b.natAbs=g at*
 have hgi:(g:Int)≠0:=by omega
 have hs:b.sign*b.sign=1:=by
  rcases Int.lt_or_gt_of_ne hb with h|h
  ·rw[bf h];rfl
  ·rw[bl h];rfl
 have Ul:b.sign≠0:=fun e=>by rw[e]at hs;simp at hs
 have OG:b.sign*g≠0:=Int.mul_ne_zero Ul hgi;have Pg:((b.natAbs / g:Nat):Int)=b.sign*l:=by
  rw[Int.natCast_ediv,show((b.natAbs:Nat):Int)=b.sign*b by
   rcases Int.lt_or_gt_of_ne hb with h|h
   ·rw[bf h];omega
   ·rw[bl h];omega]
  conv=>lhs;lhs;rhs;rw[hl]
  rw[show b.sign*(↑g*l)= ↑g*(b.sign*l) by rw[<-Int.mul_assoc,<-Int.mul_assoc,Int.mul_comm b.sign]];exact Int.mul_ediv_cancel_left _ hgi
 constructor
 ·rw[show b.sign*a / (g:Int)=b.sign*k by
   conv=>lhs;lhs;rhs;rw[hk]
   rw[show b.sign*(↑g*k)= ↑g*(b.sign*k) by rw[<-Int.mul_assoc,<-Int.mul_assoc,Int.mul_comm b.sign]]
   exact Int.mul_ediv_cancel_left _ hgi]
  conv=>lhs;lhs;rw[hk,show(g:Int)*k=(b.sign*g)*(b.sign*k) by
   rw[show (b.sign* ↑g)*(b.sign*k)=(b.sign*b.sign)*(↑g*k) by simp only[Int.mul_assoc,Int.mul_comm,Int.mul_left_comm],hs,Int.one_mul]]
  exact Int.mul_tdiv_cancel_left _ OG
 ·rw[Pg]
  conv=>lhs;lhs;rw[hl,show(g:Int)*l=(b.sign*g)*(b.sign*l) by
   rw[show (b.sign* ↑g)*(b.sign*l)=(b.sign*b.sign)*(↑g*l) by simp only[Int.mul_assoc,Int.mul_comm,Int.mul_left_comm],hs,Int.one_mul]]
  exact Int.mul_tdiv_cancel_left _ OG
theorem q8(a b:Int)(w:World)(ha:a.natAbs<4611686018427387904)(hb:b.natAbs<4611686018427387904)(hb0:b≠0):
  eD PG N.tQ #[.int .i64 a,.int .i64 b] w (eG w fun v w2=>cS w2 (Nf w w2) v (Rat.divInt a b)):=by
 refine xJ (by simp) ?_;refine⟨-a,wo,-b,wo,?_⟩;conv=>whnf
 rw[show max a (-a)=(a.natAbs:Int) by omega,show max b (-b)=(b.natAbs:Int) by omega]
 refine⟨Nat×Nat×World,fun z=>⟨[(0,iZ a),(1,iZ b),(4,pP 0 0),(5,iZ z.1),(6,iZ z.2.1)],[(0,.box T.Rat [.v (.bool false),.v (.slice none 0 0),.v (.bool false),.v (.slice none 0 0)])],1,[],z.2.2⟩,fun z=>z.2.1,
  fun z=>eB w.heap.size w z.2.2∧Nat.gcd z.1 z.2.1=Nat.gcd a.natAbs b.natAbs∧z.1<4611686018427387904∧z.2.1<4611686018427387904,?_,?_⟩
 ·intro O w' r;exact⟨(a.natAbs,b.natAbs,w'),⟨r.cQ,rfl,ha,hb⟩,Sub.gn [] r⟩
 rintro⟨x,y,w1⟩ ⟨hw,hg,hx,hy⟩;dsimp only at hw hg hx hy ⊢;conv=>whnf
 refine dN.mk ?_ ?_<;>intro h
 ·have h:0<y:=by
   have:(y:Int)>0:=aI h;omega
  refine cN hτ dm [.x 0,.x 1,.x 2,.x 3,.x 4,.x 5] (by kernel_rfl) (by kernel_rfl) ?_;have hm:=bu x h;refine⟨by omega,((x % y:Nat):Int),rfl,?_⟩;intro ρ3 w3 r3;exact⟨(y,x % y,w3),⟨hw.tr r3.cQ,by dsimp only;rw[<-hg,Nat.gcd_comm x y,Nat.gcd_rec y x,Nat.gcd_comm],hy,by dsimp only;omega⟩,Sub.gn [] r3,by dsimp only;omega⟩
 have h:y=0:=by
  have:¬(y:Int)>0:=aH h;omega
 subst h;rw[Nat.gcd_zero_right]at hg;have SF:x≠0:=by rw[hg];exact Nat.pos_iff_ne_zero.1 (bm _ (by omega))
 obtain⟨hn,hd⟩:=By (a:=a) hb0;rw[<-hg]at hn hd;have bn:(Rat.divInt a b).num.natAbs<=a.natAbs:=by rw[<-hn];exact Int.natAbs_tdiv_le_natAbs _ _
 have bd:((Rat.divInt a b).den:Int).natAbs<=b.natAbs:=by rw[<-hd];exact Int.natAbs_tdiv_le_natAbs _ _
 refine dN.mk ?_ ?_<;>intro PB
 ·have PB:=aI PB;rw[bf PB,Int.neg_one_mul]at hn hd;refine⟨-(x:Int),wo,?_⟩;refine cN hτ dm [.x 0,.x 1,.x 2,.x 4,.x 5,.x 6,.x 3,.x 7,.x 8,.x 9] (by kernel_rfl) (by kernel_rfl) ?_;refine⟨by omega,(Rat.divInt a b).num,by rw[hn,wrap64]<;>omega,by omega,((Rat.divInt a b).den:Int),by rw[hd,wrap64]<;>omega,?_⟩;refine cO (Φ:=fun _ w' v w2=>dJ w2 (Nf w' w2) v (Rat.divInt a b).num) (fun O w' r=>kZ _ w' (by omega) (by omega)) ?_;rintro O wa v1 wb r he OR hI;replace hw:=hw.tr OR;have hN:=hI.dE (S:=FF) r.cF (iv:=(wa.heap.size,wb.heap.size)::[]) aG;generalize (wa.heap.size,wb.heap.size)::[]=iv at*
  obtain⟨b1,a1,m1,c1,rfl⟩:=hN.shape;refine cO (Φ:=fun _ w' v w2=>dJ w2 (Nf w' w2) v ((Rat.divInt a b).den:Int)) (fun O w' r=>kZ _ w' (by omega) (by omega)) ?_;rintro O wa v1 PD r he OR hI;replace hw:=hw.tr OR;replace hN:=hN.cG (iv':=(wa.heap.size,PD.heap.size)::iv) r (cC w) he fun x hx=>List.mem_cons_of_mem _ hx;have hD:=hI.dE (S:=FF) r.cF (iv:=(wa.heap.size,PD.heap.size)::iv) aG;generalize (wa.heap.size,PD.heap.size)::iv=OK at*
  obtain⟨b2,a2,m2,c2,rfl⟩:=hD.shape;exact rtn hw fun ρe we re=>(cS.of hN hD).out re (cC w)
 ·have PB:=aH PB;rw[bl (by omega),Int.one_mul]at hn hd;refine cN hτ dm [.x 0,.x 1,.x 2,.x 4,.x 5,.x 6,.x 3,.x 7,.x 8,.x 9] (by kernel_rfl) (by kernel_rfl) ?_;refine⟨by omega,(Rat.divInt a b).num,by rw[hn,wrap64]<;>omega,by omega,((Rat.divInt a b).den:Int),by rw[hd,wrap64]<;>omega,?_⟩;refine cO (Φ:=fun _ w' v w2=>dJ w2 (Nf w' w2) v (Rat.divInt a b).num) (fun O w' r=>kZ _ w' (by omega) (by omega)) ?_;rintro O wa v1 wb r he OR hI;replace hw:=hw.tr OR;have hN:=hI.dE (S:=FF) r.cF (iv:=(wa.heap.size,wb.heap.size)::[]) aG;generalize (wa.heap.size,wb.heap.size)::[]=iv at*
  obtain⟨b1,a1,m1,c1,rfl⟩:=hN.shape;refine cO (Φ:=fun _ w' v w2=>dJ w2 (Nf w' w2) v ((Rat.divInt a b).den:Int)) (fun O w' r=>kZ _ w' (by omega) (by omega)) ?_;rintro O wa v1 PD r he OR hI;replace hw:=hw.tr OR;replace hN:=hN.cG (iv':=(wa.heap.size,PD.heap.size)::iv) r (cC w) he fun x hx=>List.mem_cons_of_mem _ hx;have hD:=hI.dE (S:=FF) r.cF (iv:=(wa.heap.size,PD.heap.size)::iv) aG;generalize (wa.heap.size,PD.heap.size)::iv=OK at*
  obtain⟨b2,a2,m2,c2,rfl⟩:=hD.shape;exact rtn hw fun ρe we re=>(cS.of hN hD).out re (cC w)
theorem uK(h:z.natAbs<1073741824):jg z= .tuple #[.int .i64 z,.bool true]:=if_pos h
theorem DL{x y:Int}(hS:Old S w)(hx:j5 w S v x)(hy:j5 w S u y)(hxs:x.natAbs<1073741824)(hys:y.natAbs<1073741824)(Pe:y≠0):
  eD PG N.rn #[v,u] w (eG w fun v' w2=>cS w2 (Nf w w2) v' (Rat.divInt x y)):=by
 have hw:=bR w;replace hx:=hx.cJ (S':=Cv S w.heap.size []) fun _ h=>.inl h;replace hy:=hy.cJ (S':=Cv S w.heap.size []) fun _ h=>.inl h;obtain⟨bx,ax,lx,cx,rfl⟩:=hx.shape;obtain⟨b2,ay,ly,cy,rfl⟩:=hy.shape;refine rC (by simp) ?_;refine cD (cE hw (fun _ w' v w2=>v= .tuple #[.int .i64 x,.bool true]) (fun O w' r=>(nL (Rel.old r hS) (hx.rel r hS)).mono fun e w2 ⟨v2,e1,e2,e3⟩=>⟨v2,e1,e2,by rw[e3,uK hxs]⟩) ?_);rintro O Pq v1 Pa OM r he hw h_ rfl;replace hx:=hx.cG r hS he (mC h_);replace hy:=hy.cG r hS he (mC h_);refine cD (cE hw (fun _ w' v w2=>v= .tuple #[.int .i64 y,.bool true]) (fun O w' r=>(nL (Rel.old r hS) (hy.rel r hS)).mono fun e w2 ⟨v2,e1,e2,e3⟩=>⟨v2,e1,e2,by rw[e3,uK hys]⟩) ?_);rintro O _ v1 _ OK r he hw h_ rfl;refine cD (cE hw (fun _ w' v w2=>cS w2 (Nf w' w2) v (Rat.divInt x y)) (fun O w' r=>q8 x y w' (by omega) (by omega) Pe) ?_);rintro O _ _ _ iv r he hw h_ hI;have hR:=hI.dE (S:=FF) r.cF (mN h_);obtain⟨b1,a1,m1,c1,b3,a3,m3,c3,rfl⟩:=hR.shape;exact rtn hw fun ρe we re=>hR.out re (cC w)
theorem AE(n:Int):Rat.divInt n 1=(n:Rat):=by
 have:=Rat.num_divInt_den (n:Rat);rw[Rat.num_intCast,Rat.den_intCast]at this;exact this
theorem jI(n:Int)(w:World)(hn:n.natAbs<1073741824):
  eD PG N.pM #[.int .i64 n] w (eG w fun v' w2=>cS w2 (Nf w w2) v' (n:Rat)):=by
 have hw:=bR w;refine p8 (by simp) ?_;refine cD (cO (Φ:=fun _ w' v w2=>dJ w2 (Nf w' w2) v n) (fun O w' r=>kZ _ w' (by omega) (by omega)) ?_);rintro O wa v1 wb r he OR hI;replace hw:=hw.tr OR;have hN:=hI.dE (S:=FF) r.cF (iv:=(wa.heap.size,wb.heap.size)::[]) aG;generalize (wa.heap.size,wb.heap.size)::[]=iv at*
 obtain⟨b1,a1,m1,c1,rfl⟩:=hN.shape;refine cD (cO (Φ:=fun _ w' v w2=>dJ w2 (Nf w' w2) v 1) (fun O w' r=>kZ _ w' (by omega) (by omega)) ?_);rintro O wa v1 PD r he OR hI;replace hw:=hw.tr OR;replace hN:=hN.cG (iv':=(wa.heap.size,PD.heap.size)::iv) r (cC w) he fun x hx=>List.mem_cons_of_mem _ hx;have hD:=hI.dE (S:=FF) r.cF (iv:=(wa.heap.size,PD.heap.size)::iv) aG;generalize (wa.heap.size,PD.heap.size)::iv=OK at*
 obtain⟨b2,a2,m2,c2,rfl⟩:=hD.shape;refine cD (cE hw (fun _ w' v w2=>cS w2 (Nf w' w2) v (Rat.divInt n 1)) (fun O w' r=>DL (Rel.old r (cC w)) (hN.rel r (cC w)).r (hD.rel r (cC w)).r hn (by decide) (by decide)) ?_);rintro O _ _ _ iv r he hw h_ hI;have hR:=hI.dE (S:=FF) r.cF (mN h_);obtain⟨b1,a1,m1,c1,b3,a3,m3,c3,rfl⟩:=hR.shape;rw[AE]at hR;exact rtn hw fun ρe we re=>hR.out re (cC w)
theorem MF{n1 n2:Bool}{ms:List Nat}(hS:Old S w)(hx:uC w S v n1 ls)(hy:uC w S u n2 ms):
  eD PG N.mZ #[v,u] w (eG w fun v' _=>v'= .bool (decide (n1=n2∧ls=ms))):=by
 obtain⟨lv,rfl,h1⟩:=hx;obtain⟨mv,rfl,h2⟩:=hy;obtain⟨a,c,rfl,_,ha⟩:=h1.sl;obtain⟨b,e,rfl,_,hb⟩:=h2.sl;have hle1:=h1.le;have UU:=h2.le;have hw:=bR w;refine vA (by simp) ?_;refine dN.mk ?_ ?_<;>intro hn
 ·have hn:n1≠n2:=fun h=>by rw[h]at hn;simp at hn
  intro O w2 r;exact⟨_,rfl,r.cQ,by rw[bN (fun h=>hn h.1)];rfl⟩
 have hn:n1=n2:=by simpa using hn
 subst hn;refine dN.mk ?_ ?_<;>intro h
 ·have h:ls.length≠ms.length:=fun he=>by rw[he]at h;simp at h
  intro O w2 r;exact⟨_,rfl,r.cQ,by rw[bN (fun e=>h (by rw[e.2]))];rfl⟩
 have h:ls.length=ms.length:=by
  have:(ls.length:Int)=ms.length:=by simpa using h
  omega
 refine⟨Nat×World,fun z=>⟨[(2,pP 0 0),(3,pP 1 0),(5,iZ z.1)],[(1,.box T.Int [.v (.bool n1),.v (.slice b ms.length e)]),(0,.box T.Int [.v (.bool n1),.v (.slice a ls.length c)])],2,[],z.2⟩,fun z=>ls.length-z.1,
  fun z=>z.1<=ls.length∧eB w.heap.size w z.2∧ls.take z.1=ms.take z.1,?_,?_⟩
 ·intro O w' r;exact⟨(0,w'),⟨by simp,r.cQ,by simp⟩,Sub.gn [] r⟩
 rintro⟨i,w1⟩ ⟨hi,hw,ht⟩;dsimp only at hi hw ht ⊢;refine dN.mk ?_ ?_<;>intro OF
 ·have OF:i<ls.length:=by simpa using OF
  obtain⟨x,hx⟩:∃x,ls[i]? =some x:=⟨_,aB OF⟩
  obtain⟨y,hy⟩:∃x,ms[i]? =some x:=⟨_,aB (by omega)⟩
  obtain⟨ad,rfl,q1,q2⟩:=ha i x hx;obtain⟨ad2,rfl,q3,q4⟩:=hb i y hy;have Of:∀{H nx iv O w'},Rel H nx iv w.heap.size w1 O w'->w'.cell? (ad.add ((i:Int).toNat*1))=some (.int .u32 x):=fun r=>by
   rw[aE,aS];exact kM hS hw r q1 q2
  have QY:∀{H nx iv O w'},Rel H nx iv w.heap.size w1 O w'->w'.cell? (ad2.add ((i:Int).toNat*1))=some (.int .u32 y):=fun r=>by
   rw[aE,aS];exact kM hS hw r q3 q4
  refine cN hτ dm [.x 0,.x 1,.x 2,.x 3,.x 4,.x 5,.x 6,.x 7,.x 8,.x 9,.x 10] (by kernel_rfl) (by kernel_rfl) ?_;refine⟨ad,rfl,by omega,.int .u32 x,fun O w' r=>Of r,ad2,rfl,by omega,.int .u32 y,fun O w' r=>QY r,?_⟩;refine dN.mk ?_ ?_<;>intro OG
  ·have OG:x≠y:=fun h=>by rw[h]at OG;simp at OG
   intro O w2 r;refine⟨_,rfl,hw.tr r.cQ,?_⟩
   rw[bN (fun e=>OG (by
    have:=e.2;rw[this,hy]at hx;injection hx with hx
    exact hx.symm))]
   rfl
  have OG:x=y:=by
   have:(x:Int)=y:=by simpa using OG
   omega
  subst OG;have SY:ls.take (i+1)=ms.take (i+1):=by rw[List.take_add_one,List.take_add_one,ht,hx,hy]
  refine⟨((i+1:Nat):Int),wo,?_⟩;intro ρ3 w3 r3;exact⟨(i+1,w3),⟨OF,hw.tr r3.cQ,SY⟩,Sub.gn [] r3,by dsimp only;omega⟩
 have OF:i=ls.length:=by
  have:¬i<ls.length:=by simpa using OF
  omega
 subst OF;rw[bF,h,bF]at ht;intro O w2 r;exact⟨_,rfl,hw.tr r.cQ,by rw[bT ⟨rfl,ht⟩];rfl⟩
theorem I1{a:List Nat}(la:Lm a)(lb:Lm b)(na:Nz a)(nb:Nz b)(h:val a=val b):a=b:=by
 have:a.length=b.length:=by
  rcases bs a.length b.length with h1|h1|h1
  ·have:=iu la nb h1;omega
  ·exact h1
  ·have:=iu lb na h1;omega
 exact val_inj la lb this h
theorem Bz{x y:Int}(hS:Old S w)(hx:dJ w S v x)(hy:dJ w S u y):
  eD PG N.mZ #[v,u] w (eG w fun v' _=>v'= .bool (decide (x=y))):=by
 obtain⟨ls,h1,h2,h3⟩:=hx;obtain⟨ms,k1,k2,k3⟩:=hy;have e:decide (decide (x<0)=decide (y<0)∧ls=ms)=decide (x=y):=by
  refine decide_eq_decide.2 ⟨fun ⟨e1,e2⟩=>?_,fun e1=>?_⟩
  ·have e1:=decide_eq_decide.1 e1;rw[e2]at h3;omega
  ·subst e1;obtain⟨_,_,l1⟩:=h1;obtain⟨_,_,l2⟩:=k1;exact⟨rfl,I1 l1.lm l2.lm h2 k2 (by omega)⟩
 exact(MF hS h1 k1).mono fun _ w2 ⟨v2,e1,e2,e3⟩=>⟨v2,e1,e2,by rw[e3,e]⟩
theorem Ki{p:Rat}(hS:Old S w)(hx:cS w S v p)(hy:cS w S u q):
  eD PG N.zF #[v,u] w (eG w fun v' _=>v'= .bool (decide (p=q))):=by
 obtain⟨b1,a1,n1,c1,b2,a2,n2,c2,rfl⟩:=hx.shape;obtain⟨b3,a3,n3,c3,b4,a4,n4,c4,rfl⟩:=hy.shape;refine AV (by simp) ?_;refine cD (cO (Φ:=fun _ w' v w2=>v= .bool (decide (p.num=q.num))) (fun O w' r=>Bz (oS hS r) (hx.num.cI fun g hg=>r.cQ.block g (hS g hg)) (hy.num.cI fun g hg=>r.cQ.block g (hS g hg))) ?_);rintro O wa v1 wb r he hb rfl;have hw:=hb;generalize (wa.heap.size,wb.heap.size)::[]=iv at*
 refine dN.mk ?_ ?_<;>intro h
 ·have h:=aI h;refine cD (cE hw (fun _ w' v w2=>v= .bool (decide ((p.den:Int)=q.den))) (fun O w' r=>Bz (oS hS r) (hx.den.cI (kS hw r hS)) (hy.den.cI (kS hw r hS))) ?_);rintro O _ _ _ OK r he hw h_ rfl;intro ρe we re;refine⟨_,rfl,hw.tr re.cQ,?_⟩;have:decide (p=q)=decide ((p.den:Int)=q.den):=decide_eq_decide.2 ⟨fun e=>by rw[e],fun e=>Rat.ext h (by omega)⟩;rw[this];rfl
 ·have h:=aH h;intro ρe we re;refine⟨_,rfl,hw.tr re.cQ,?_⟩;rw[bN (fun e=>h (by rw[e]))];rfl
theorem jT{xs ys:List Rat}(hS:Old S w)(hx:cL w S v xs)(hy:cL w S u ys):
  eD PG N.pJ #[v,u] w (eG w fun v' _=>v'= .bool (decide (xs=ys))):=by
 obtain⟨a,c,rfl,hc,hm⟩:=dM.shape hx;obtain⟨b,e,rfl,Vs,Ta⟩:=dM.shape hy;unfold maxLen at hm Ta;refine tZ (by simp) ?_;refine dN.mk ?_ ?_<;>intro h
 ·have h:xs.length≠ys.length:=fun he=>by rw[he]at h;simp at h
  intro O w2 r;exact⟨_,rfl,r.cQ,by rw[bN (fun e=>h (by rw[e]))];rfl⟩
 have h:xs.length=ys.length:=by
  have:(xs.length:Int)=ys.length:=by simpa using h
  omega
 refine⟨Nat×World,fun z=>⟨[(0,sV a xs.length c),(1,sV b ys.length e),(5,iZ z.1)],[],0,[],z.2⟩,fun z=>xs.length-z.1,
  fun z=>z.1<=xs.length∧eB w.heap.size w z.2∧xs.take z.1=ys.take z.1,?_,?_⟩
 ·intro O w' r;exact⟨(0,w'),⟨by simp,r.cQ,by simp⟩,Sub.gn [] r⟩
 rintro⟨i,w1⟩ ⟨hi,hw,ht⟩;dsimp only at hi hw ht ⊢;refine dN.mk ?_ ?_<;>intro OF
 ·have OF:i<xs.length:=by simpa using OF
  obtain⟨x,PZ⟩:∃x,xs[i]? =some x:=⟨_,aB OF⟩
  obtain⟨y,TJ⟩:∃x,ys[i]? =some x:=⟨_,aB (by omega)⟩
  obtain⟨ad2,cs2,rfl,Qs,-,Pn⟩:=dM.load hy TJ;obtain⟨p2,q2,r2,s2,t2,u2,v2,w2,rfl,Qs⟩:=Qs;obtain⟨ad,cs,rfl,hR,-,hl⟩:=dM.load hx PZ;obtain⟨p1,q1,r1,s1,t1,u1,v1,w1,rfl,hR⟩:=hR;refine cN hτ dm [.x 0,.x 1,.x 2,.x 3,.x 4,.x 5,.x 6,.x 7,.x 8,.x 9] (by kernel_rfl) (by kernel_rfl) ?_;refine⟨ad,rfl,by omega,[.bool p1,.slice q1 r1 s1,.bool t1,.slice u1 v1 w1],rfl,rdO hl hw hS,ad2,rfl,by omega,[.bool p2,.slice q2 r2 s2,.bool t2,.slice u2 v2 w2],rfl,rdO Pn hw hS,?_⟩;refine cE hw (fun _ w' v w2=>v= .bool (decide (x=y))) (fun O w' r=>Ki (oS hS r) (hR.cI (kS hw r hS)) (Qs.cI (kS hw r hS))) ?_;rintro O _ _ _ OK r he hw h_ rfl;refine dN.mk ?_ ?_<;>intro OG
  ·have OG:x≠y:=fun h=>by rw[h]at OG;simp at OG
   intro O w2 r;refine⟨_,rfl,hw.tr r.cQ,?_⟩
   rw[bN (fun e=>OG (by
    rw[e,TJ]at PZ;injection PZ with PZ
    exact PZ.symm))]
   rfl
  have OG:x=y:=by simpa using OG
  subst OG;have SY:xs.take (i+1)=ys.take (i+1):=by rw[List.take_add_one,List.take_add_one,ht,PZ,TJ]
  refine⟨((i+1:Nat):Int),wo,?_⟩;intro ρ3 w3 r3;exact⟨(i+1,w3),⟨OF,hw.tr r3.cQ,SY⟩,Sub.gn [] r3,by dsimp only;omega⟩
 have OF:i=xs.length:=by
  have:¬i<xs.length:=by simpa using OF
  omega
 subst OF;rw[bF,h,bF]at ht;intro O w2 r;exact⟨_,rfl,hw.tr r.cQ,by rw[bT ht];rfl⟩
theorem cS.four{b b2:Bool}{a:Option Addr}{n c n2 c2:Nat}(h:cS w S (.agg #[.bool b,.slice a n c,.bool b2,.slice a2 n2 c2]) q):Aq w S [.bool b,.slice a n c,.bool b2,.slice a2 n2 c2] (q.num,(q.den:Int)):=
 ⟨b,a,n,c,b2,a2,n2,c2,rfl,h.r⟩
theorem cS.rD{b b2:Bool}{a:Option Addr}{n c n2 c2:Nat}(h:cS w S (.agg #[.bool b,.slice a n c,.bool b2,.slice a2 n2 c2]) q):iM w S [.bool b,.slice a n c,.bool b2,.slice a2 n2 c2] q:=
 ⟨b,a,n,c,b2,a2,n2,c2,rfl,h⟩
theorem Rel.lt(r:Rel H nx iv B w O w'){id t:Nat}{cs:List At}(h:dB H id=some (.box t cs)):(O id).g<w'.heap.size:=(r.low id _ h (r.nn id _ h (by intros;simp) (by simp))).2
end Go.Ex
