/- A part of the proof: texts X23 to X48. Each tells its conditions in its theorems. -/
import Derived.Test.YtkdcaknoaeicdaaGreatP2
import Derived.Test.YtkdcaknoaeicdaaGreatP3
import Derived.Test.YtkdcaknoaeicdaaGreatP4
namespace Go.Ex
open Go Go.Sx Go.Proofs
variable{xs:List Value}{n sz:Nat}{S:Nat->Prop}{v:Value}{w:World}
def qt(v:Value):Iv:=match v.ownBlock with
 |some g=>[(g,g+1)]
 |none=>[]
theorem BI{lo hi:Nat}:(lo,hi)∈qt v↔v.ownBlock=some lo∧hi=lo+1:=by
 unfold qt
 cases h:v.ownBlock with
 |none=>simp
 |some g=>simp;omega
def FO(iv:Iv)(v:Value):Prop:=∀b,v.ownBlock=some b->∃lo hi,(lo,hi)∈iv∧lo<=b∧b<hi
section
variable{S:Nat->Prop}{H:Hp}{nx:Nat}{iv iv':Iv}{B e sz m:Nat}{w w' w2:World}{O:Nat->Sx.df}{v v':Value}{xs:List Value}
theorem FO.not(h:FO iv v)(r:Rel H nx iv B w O w'){b:Nat}(hb:v.ownBlock=some b):∀id c,dA H id=some c->(O id).nil=false->(O id).g≠b:=fun id c hc hn he=>by
 obtain⟨lo,hi,h1,h2,h3⟩:=h b hb;exact r.kC lo hi h1 id c hc hn (by omega)
theorem ir(h:w.ownsRow B e sz v m xs)(hc:FO iv v)(r:Rel H nx iv B w O w'):w'.ownsRow B e sz v m xs:=
 ownsRow.cG h fun b hb=>r.tk b (ownsRow.low h b hb).2 fun id c hc' hn he=>hc.not r hb id c hc' hn he
theorem FO.row(v:Value):FO (qt v) v:=fun b hb=>⟨b,b+1,BI.2 ⟨hb,rfl⟩,by omega,by omega⟩
theorem FO.mono(h:FO iv v)(k:∀p,p∈iv->p∈iv'):FO iv' v:=fun b hb=>by
 obtain⟨lo,hi,h1,h2⟩:=h b hb;exact⟨lo,hi,k _ h1,h2⟩
theorem jL(h:w.ownsRow B e sz v m xs):∃a c,v= .slice a m c∧m<=c:=by
 rcases h.2 with⟨rfl,rfl⟩|⟨g,cap,cur,rfl,_,_,h1,_⟩
 ·exact⟨none,0,rfl,aG _⟩
 ·exact⟨_,cap,rfl,h1⟩
end
structure ig(w:World)(S:Nat->Prop)(sz:Nat)(v:Value)(xs:List Value)(n:Nat):Prop where
 le:n<=maxLen
 len:xs.length=n*sz
 one:∀u∈xs,u.oneCell'=true
 sl:∃a c,v= .slice a n c∧n<=c∧∀(j:Nat) u,xs[j]? =some u->∃ad,a=some ad∧S ad.block∧w.cell? (ad.add j)=some u
theorem ig.cG{w2:World}(h:ig w S sz v xs n)(hk:∀g,S g->w2.heap[g]? =w.heap[g]?):ig w2 S sz v xs n:=by
 obtain⟨h0,h1,h2,a,c,h3,h4,h5⟩:=h;refine⟨h0,h1,h2,a,c,h3,h4,fun j u hu=>?_⟩;obtain⟨ad,k1,k2,k3⟩:=h5 j u hu;exact⟨ad,k1,k2,by rw[cH (hk _ (by rw[dQ];exact k2))];exact k3⟩
theorem ig.cI{S':Nat->Prop}(h:ig w S sz v xs n)(hk:∀g,S g->S' g):ig w S' sz v xs n:=by
 obtain⟨h0,h1,h2,a,c,h3,h4,h5⟩:=h;refine⟨h0,h1,h2,a,c,h3,h4,fun j u hu=>?_⟩;obtain⟨ad,k1,k2,k3⟩:=h5 j u hu;exact⟨ad,k1,hk _ k2,k3⟩
section
variable{S S':Nat->Prop}{H:Hp}{nx:Nat}{iv iv':Iv}{B:Nat}{w w' w2:World}{O:Nat->Sx.df}{v:Value}{sz n:Nat}{xs:List Value}
end
end Go.Ex
namespace Go.Sx
open Go Go.Ex Go.Proofs
variable{O:Nat->Sx.df}
theorem Rel.pV{H:Hp}{nx:Nat}{iv:Iv}{B:Nat}{w w':World}(r:Rel H nx iv B w O w'){id t sz n:Nat}{cs:List At}(h:dA H id=some (.box t cs))(hl:cs.length=n*sz)(hn:n<=maxLen)(h1:∀u∈cs,(u.den O).oneCell'=true):
  ig w' (fun g=>g=(O id).g) sz (.slice (some ⟨(O id).g,0,none⟩) n n) (cs.map (At.den O)) n:=by
 refine⟨hn,by simpa using hl,fun u hu=>?_,_,_,rfl,aG _,fun j u hu=>⟨_,rfl,rfl,?_⟩⟩
 ·obtain⟨x,hx,rfl⟩:=aT.1 hu;exact h1 x hx
 ·have h0:(⟨(O id).g,0,none⟩:Addr).add j=⟨(O id).g,j,none⟩:=by
   cases j with
   |zero=>rfl
   |succ j=>simp[Addr.add]
  rw[h0,cell_of (r.box id t _ h)];exact hu
end Go.Sx
namespace Go.Ex
open Go Go.Sx Go.Proofs
theorem JE{n:Nat}(h:n<=9223372036854775807):IntKind.i64.wrap (n:Int)=n:=by rw[wrap64]<;>omega
theorem KK{t b:Nat}(h:t<=9223372036854775807):IntKind.i64.wrap ((t:Int).tdiv (b:Int))=((t / b:Nat):Int):=by
 have h1:=Nat.div_le_self t b;rw[Int.tdiv_eq_ediv_of_nonneg (by omega),<-Int.natCast_ediv];exact JE (by omega)
end Go.Ex
namespace Go.Ex
open Go Go.Sx Go.Proofs
def mH:Value:=.agg #[.bool false,.slice none 0 0,.bool false,.slice none 0 0]
theorem ml{n:Int}(h1: -9223372036854775808<=n)(h2:n<=9223372036854775807):ln n.natAbs<=2:=fg.2 (by show n.natAbs<4294967296^2;omega)
end Go.Ex
namespace Go.Sx
open Go Go.Ex Go.Proofs
variable{cs:List Value}{O:Nat->Sx.df}
theorem Rel.iX{H:Hp}{nx:Nat}{iv:Iv}{B:Nat}{w w':World}(r:Rel H nx iv B w O w'){id t m sz:Nat}(h:dA H id=some (.vec t sz cs))(hm:cs.length=m*sz)(hm1:m<=maxLen)(hs:0<sz)(h1:∀u∈cs,u.oneCell'=true):
  ig w' (fun g=>B<=g∧g<w'.heap.size) sz ((At.w id m).den O) cs m:=by
 rcases r.vec id t sz _ h with⟨hn,rfl⟩|⟨hn,spare,hb,hc,hcap⟩
 ·have hm0:m=0:=by
   rcases bJ m with h|h
   ·exact h
   ·have:=Nat.mul_pos h hs;simp at hm;omega
  subst hm0;refine⟨hm1,by simp,by simp,none,0,by simp[At.den,hn],aG _,by simp⟩
 ·refine⟨hm1,hm,h1,some ⟨(O id).g,0,none⟩,(O id).cap,by simp[At.den,hn],?_,fun j x hx=>⟨_,rfl,r.low id _ h hn,?_⟩⟩
  ·have h1:(cs++spare).length=cs.length+spare.length:=List.length_append;have h2:m*sz<=(O id).cap*sz:=by omega
   exact bo h2 hs
  ·rw[dP,cell_of hb,aV,aM (aE.1 hx).1];exact hx
end Go.Sx
namespace Go.Ex
open Go Go.Sx Go.Proofs
end Go.Ex
namespace Go.Ex
open Go Go.Sx Go.Proofs
variable{qs:List Rat}{xs:List Value}{i:Nat}{O:Nat->Sx.df}{q:Rat}
def signed:Bool->ByteArray->ByteArray
 |true,s=>⟨#[45]⟩++s
 |false,s=>s
def Kd(w:World)(S:Nat->Prop)(cs:List Value)(q:Rat):Prop:=∃b a n c b2 a2 n2 c2,cs=[.bool b,.slice a n c,.bool b2,.slice a2 n2 c2]∧dM w S (.agg #[.bool b,.slice a n c,.bool b2,.slice a2 n2 c2]) q
def Fr(w:World)(S:Nat->Prop)(css:List (List Value))(qs:List Rat):Prop:=css.length=qs.length∧∀(j:Nat) cs q,css[j]? =some cs->qs[j]? =some q->Kd w S cs q
section
variable{S S':Nat->Prop}{w w2:World}{cs:List Value}{css:List (List Value)}{q:Rat}{qs:List Rat}
end
section
variable{S S':Nat->Prop}{H:Hp}{nx:Nat}{iv iv':Iv}{B:Nat}{w w' w2:World}{O:Nat->Sx.df}{css:List (List Value)}{qs:List Rat}
end
theorem e9:∀{css:List (List Value)},(∀cs∈css,cs.length=4)->css.flatten.length=css.length*4
 |[],_=>rfl
 |c::r,h=>by
  rw[List.flatten_cons,List.length_append,e9 (fun cs hc=>h cs (aC _ hc)),h c aJ,List.length_cons];omega
theorem flat_get:∀{css:List (List Value)} {j:Nat} {cs:List Value},(∀cs∈css,cs.length=4)->css[j]? =some cs->∀k u,cs[k]? =some u->css.flatten[j*4+k]? =some u
 |[],j,cs,_,hj,_,_,_=>by simp at hj
 |c::r,0,cs,h,hj,k,u,hu=>by
  simp at hj;subst hj;rw[List.flatten_cons,aM (by have:=(aE.1 hu).1;omega)];simpa using hu
 |c::r,j+1,cs,h,hj,k,u,hu=>by
  have hc:=h c aJ;rw[List.flatten_cons,aO (by omega),hc,show(j+1)*4+k-4=j*4+k by omega];exact flat_get (fun cs hc=>h cs (aC _ hc)) (by simpa using hj) k u hu
theorem ie:∀{css:List (List Value)} {j:Nat} {cs:List Value},(∀cs∈css,cs.length=4)->j<css.length->css.flatten.take (j*4)++cs++css.flatten.drop (j*4+4)=(css.set j cs).flatten
 |[],j,cs,_,hj=>by simp at hj
 |c::r,0,cs,h,_=>by
  have hc:=h c aJ;simp[List.flatten_cons,hc]
 |c::r,j+1,cs,h,hj=>by
  have hc:=h c aJ
  rw[List.flatten_cons,show(j+1)*4=c.length+j*4 by omega,List.take_length_add_append,show c.length+j*4+4=c.length+(j*4+4) by omega,List.drop_length_add_append,List.set_cons_succ,List.flatten_cons,
   <-ie (fun cs hc=>h cs (aC _ hc)) (by simpa using hj),bg,bg,bg]
abbrev Out(B:Nat)(iv:Iv):Nat->Prop:=Cv (fun g=>g<B) B iv
theorem nY{H:Hp}{nx:Nat}{iv:Iv}{B Bc e sz m:Nat}{w w':World}{v:Value}(h:w.ownsRow Bc e sz v m xs)(hc:∀g,v.ownBlock=some g->Out B iv g)(r:Rel H nx iv B w O w'):w'.ownsRow Bc e sz v m xs:=
 ownsRow.cG h fun b hb=>Rel.same r (fun _ h=>h) (hc b hb)
theorem fy{w w1 w2:World}{row:Option Nat}(h:w.grownBy w1 row)(k:cV w.heap.size w1 w2):w.grownBy w2 row:=
 ⟨k.os.trans h.os,k.tape.trans h.tape,k.output.trans h.output,a9 h.size k.size,fun b hb hn=>(k.block b hb).trans (h.block b hb hn)⟩
def gS(i:Nat)(f:Nat->Rat->Rat)(qs:List Rat):List Rat:=qs.mapIdx fun j q=>if j<i then f j q else q
theorem rf(f:Nat->Rat->Rat)(qs:List Rat):gS 0 f qs=qs:=by
 apply bK;intro j;simp[gS]
theorem uc(f:Nat->Rat->Rat)(qs:List Rat):gS qs.length f qs=qs.mapIdx f:=by
 apply bK;intro j;simp only[gS,List.getElem?_mapIdx]
 cases h:qs[j]? with
 |none=>rfl
 |some q=>simp[(aE.1 h).1]
theorem nZ{f:Nat->Rat->Rat}(h:qs[i]? =some q):(gS i f qs).set i (f i q)=gS (i+1) f qs:=by
 apply bK;intro j;have hi:=(aE.1 h).1;by_cases hij:i=j
 ·subst hij;rw[aW (by simp[gS];exact hi)];simp[gS,List.getElem?_mapIdx,h]
 ·rw[bA hij];simp only[gS,List.getElem?_mapIdx]
  have:(j<i)↔(j<i+1):=by omega
  simp[this]
theorem Ej{f:Nat->Rat->Rat}(h:qs[i]? =some q)(hf:f i q=q):gS i f qs=gS (i+1) f qs:=by
 rw[<-nZ h,hf];apply bK;intro j;have hi:=(aE.1 h).1;by_cases hij:i=j
 ·subst hij;rw[aW (by simp[gS];exact hi)];simp[gS,List.getElem?_mapIdx,h]
 ·rw[bA hij]
theorem zE{f:Nat->Rat->Rat}(h:qs[i]? =some q):(gS i f qs)[i]? =some q:=by
 simp only[gS,List.getElem?_mapIdx,h]
 simp
section
variable{C C' S S':Nat->Prop}{H:Hp}{nx:Nat}{iv iv':Iv}{B:Nat}{w w' w2:World}{O:Nat->Sx.df}{v:Value}{qs:List Rat}
end
end Go.Ex
namespace Go.Ex
variable{M:List (List Rat)}{s:List (List Rat)×List Nat}{h i n:Nat}
def dG(M:List (List Rat))(i c:Nat):Rat:=(M.getD i []).getD c 0
def gp(M:List (List Rat))(c:Nat):Nat->Nat->Nat
 |0,k=>k
 |f+1,k=>if dG M k c=0 then gp M c f (k+1)else k
def fC{α:Type}(d:α)(l:List α)(i j:Nat):List α:=(l.set i (l.getD j d)).set j (l.getD i d)
def rH(p:Rat)(ps:List Rat)(j:Nat)(q:Rat):Rat:=q+p*ps.getD j 0
def dX(M:List (List Rat))(at_ c i:Nat):List (List Rat):=M.mapIdx fun j r=>if j<i∧j≠at_ then r.mapIdx (rH (-(r.getD c 0)) (M.getD at_ []))else r
def scaled(M:List (List Rat))(at_ c:Nat):List (List Rat):=M.set at_ ((M.getD at_ []).map (· *(1 / dG M at_ c)))
def dW(s:List (List Rat)×List Nat)(c:Nat):List (List Rat)×List Nat:=
 if s.2.length<s.1.length then
  let k:=gp s.1 c (s.1.length-s.2.length) s.2.length
  if k=s.1.length then s else
   let M1:=scaled (fC [] s.1 s.2.length k) s.2.length c
   (dX M1 s.2.length c M1.length,s.2++[c])
 else s
def cN(M:List (List Rat))(cols:Nat):List (List Rat)×List Nat:=(List.range cols).foldl dW (M,[])
theorem jI{α:Type}(d:α)(l:List α)(i j:Nat):(fC d l i j).length=l.length:=by simp[fC]
theorem gM(M:List (List Rat))(a c i:Nat):(dX M a c i).length=M.length:=by simp[dX]
theorem qZ(M:List (List Rat))(a c:Nat):(scaled M a c).length=M.length:=by simp[scaled]
theorem nC(s:List (List Rat)×List Nat)(c:Nat):(dW s c).1.length=s.1.length:=by
 unfold dW;split
 ·dsimp only
  split
  ·rfl
  ·dsimp only
   rw[gM,qZ,jI]
 ·rfl
theorem xg(M:List (List Rat))(c:Nat):∀f k,k<=gp M c f k∧gp M c f k<=k+f
 |0,k=>⟨aG _,aG _⟩
 |f+1,k=>by
  unfold gp;split
  ·have:=xg M c f (k+1);omega
  ·omega
theorem xh(M:List (List Rat))(c:Nat):∀f k,gp M c f k<k+f->dG M (gp M c f k) c≠0
 |0,k,h=>by simp[gp]at h
 |f+1,k,h=>by
  unfold gp at h ⊢;split
  ·rename_i h0;rw[if_pos h0]at h;exact xh M c f (k+1) (by omega)
  ·rename_i h0;exact h0
theorem EX{c f k:Nat}(h:dG M k c=0):gp M c (f+1) k=gp M c f (k+1):=by rw[gp,if_pos h]
theorem EY{c f k:Nat}(h:dG M k c≠0):gp M c (f+1) k=k:=by rw[gp,aK h]
theorem B6(M:List (List Rat))(a c:Nat):dX M a c 0=M:=by
 apply bK;intro j;simp[dX]
theorem rJ(M:List (List Rat))(a c i:Nat):(dX M a c i)[a]? =M[a]? :=by
 simp only[dX,List.getElem?_mapIdx]
 cases M[a]? <;>simp
theorem Ea(M:List (List Rat))(a c i j:Nat)(h:i<=j):(dX M a c i)[j]? =M[j]? :=by
 simp only[dX,List.getElem?_mapIdx]
 cases M[j]? with
 |none=>rfl
 |some r=>simp;omega
theorem B7{a c:Nat}{r:List Rat}(h:M[i]? =some r)(hne:i≠a):(dX M a c i).set i (r.mapIdx (rH (-(r.getD c 0)) (M.getD a [])))=dX M a c (i+1):=by
 apply bK;intro j;have hi:=(aE.1 h).1;by_cases hij:i=j
 ·subst hij;rw[aW (by rw[gM];exact hi)];simp[dX,List.getElem?_mapIdx,h,hne]
 ·rw[bA hij];simp only[dX,List.getElem?_mapIdx]
  have:(j<i)↔(j<i+1):=by omega
  simp[this]
theorem B8(M:List (List Rat))(a c:Nat):dX M a c a=dX M a c (a+1):=by
 apply bK;intro j;simp only[dX,List.getElem?_mapIdx]
 have:(j<a∧j≠a)↔(j<a+1∧j≠a):=by omega
 simp[this]
def Ht(M:List (List Rat))(h:Nat):Prop:=∀r∈M,∀q∈r,rl q+1<=h
theorem Ht.at{r:List Rat}(H:Ht M h)(hi:M[i]? =some r):∀q∈r,rl q+1<=h:=H r (aD hi)
theorem Ht.swap{j:Nat}(H:Ht M h)(hi:i<M.length)(hj:j<M.length):Ht (fC [] M i j) h:=by
 intro r hr;have:r∈M:=by
  unfold fC at hr;rcases bI hr with h1|h1
  ·rcases bI h1 with h2|h2
   ·exact h2
   ·rw[h2,List.getD,aB hj];exact aX hj
  ·rw[h1,List.getD,aB hi];exact aX hi
 exact H r this
theorem IL:rl 1=1:=by decide
theorem LG{q:Rat}(h:q≠0):rl (1 / q)<=rl q+1:=by
 have:=IH 1 h;rw[IL]at this;omega
theorem Fu{r:List Rat}(H:∀q∈r,rl q+1<=h)(h2:2<=h)(c:Nat):rl (r.getD c 0)+1<=h:=by
 rw[List.getD]
 cases hc:r[c]? with
 |none=>simp;exact a9 (by decide) h2
 |some q=>simp;exact H q (aD hc)
theorem A3{j:Nat}(hi:i<M.length)(hj:j<M.length):(fC [] M i j)[i]? =M[j]? :=by
 unfold fC;by_cases h:j=i
 ·subst h;rw[aW (by simpa using hi),List.getD,aB hi];rfl
 ·rw[bA h,aW hi,List.getD,aB hj];rfl
theorem Cu{j c:Nat}(hi:i<M.length)(hj:j<M.length):dG (fC [] M i j) i c=dG M j c:=by
 simp only[dG,List.getD,A3 hi hj]
def fe(n:Nat)(M:List (List Rat)):Prop:=∀r∈M,r.length=n
theorem fe.set{r:List Rat}(h:fe n M)(hr:r.length=n):fe n (M.set i r):=fun x hx=>by
 rcases bI hx with h1|h1
 ·exact h x h1
 ·rw[h1];exact hr
theorem fe.getD(h:fe n M)(hi:i<M.length):(M.getD i []).length=n:=by
 rw[List.getD,aB hi];exact h _ (aX hi)
theorem fe.step{c:Nat}(h:fe n s.1):fe n (dW s c).1:=by
 unfold dW;split
 ·rename_i hlt;dsimp only
  split
  ·exact h
  ·rename_i hk;have hle:=xg s.1 c (s.1.length-s.2.length) s.2.length;have hkl:gp s.1 c (s.1.length-s.2.length) s.2.length<s.1.length:=by omega
   dsimp only
   generalize gp s.1 c (s.1.length-s.2.length) s.2.length=k at*
   have h1:fe n (fC [] s.1 s.2.length k):=(h.set (h.getD hkl)).set (h.getD hlt);have h2:fe n (scaled (fC [] s.1 s.2.length k) s.2.length c):=h1.set (by rw[aL];exact h1.getD (by rw[jI];exact hlt));intro r hr;obtain⟨j,hj⟩:=aS hr;simp only[dX,List.getElem?_mapIdx,Option.map_eq_some_iff]at hj;obtain⟨r0,hr0,hj⟩:=hj;have h3:=h2 r0 (aD hr0);split at hj
   ·subst hj;rw[List.length_mapIdx];exact h3
   ·subst hj;exact h3
 ·exact h
theorem DR{cols:Nat}(h:fe n M):fe n (cN M cols).1:=by
 have key:∀(l:List Nat) (s:List (List Rat)×List Nat),fe n s.1->fe n (l.foldl dW s).1:=by
  intro l
  induction l with
  |nil=>intro s hs;exact hs
  |cons c r ih=>intro s hs;exact ih _ hs.step
 exact key _ _ h
end Go.Ex
namespace Go.Ex
open Go Go.Sx Go.Proofs
structure MD(w:World)(S:Nat->Prop)(vm:Value)(rv:List Value)(n:Nat)(M:List (List Rat)):Prop where
 out:w.ownsRow 0 T.row 1 vm rv.length rv
 len:rv.length=M.length
 row:∀(i:Nat) v qs,rv[i]? =some v->M[i]? =some qs->∃css,w.ownsRow 0 T.DV 4 v n css.flatten∧css.length=n∧Fr w S css qs
 EG:∀(i j:Nat) a b g,rv[i]? =some a->rv[j]? =some b->a.ownBlock=some g->b.ownBlock=some g->i=j
 aAJ:∀v∈rv,∀g,v.ownBlock=some g->vm.ownBlock≠some g
def Mb(vm:Value)(rv:List Value)(g:Nat):Prop:=vm.ownBlock=some g∨∃v∈rv,v.ownBlock=some g
structure Kept(w w2:World)(X:Nat->Prop):Prop where
 os:w2.os=w.os
 tape:w2.tape=w.tape
 output:w2.output=w.output
 size:w.heap.size<=w2.heap.size
 block:∀k,k<w.heap.size->¬X k->w2.heap[k]? =w.heap[k]?
section
variable{S S' X:Nat->Prop}{H:Hp}{nx n:Nat}{iv iv':Iv}{B:Nat}{w w' w2 w3:World}{O:Nat->Sx.df}{vm:Value}{rv:List Value}{M:List (List Rat)}
end
end Go.Ex
namespace Go.Sx
open Go Go.Ex Go.Proofs
variable{O:Nat->Sx.df}
theorem Rel.D8{H:Hp}{nx:Nat}{iv:Iv}{B:Nat}{w w' w2:World}{row:Option Nat}(r:Rel H nx iv B w O w')(hne:∀g,row=some g->∀id b,dA H id=some b->(O id).nil=false->(O id).g≠g)(h:w'.grownBy w2 row):Rel H nx ((w'.heap.size,w2.heap.size)::iv) B w2 O w2:=
 r.Cg h.size (fun id b hb hn=>h.block _ (r.low id b hb hn).2 fun e=>hne _ e.symm id b hb hn rfl) fun lo hi hm=>by
  rcases List.mem_cons.1 hm with e|hm
  ·injection e with e1 e2;subst e1 e2;exact⟨aG _,fun id b hb hn=>by have:=(r.low id b hb hn).2;omega⟩
  ·exact⟨by have:=r.qV lo hi hm;have:=r.size;have:=h.size;omega,fun id b hb hn=>r.kC lo hi hm id b hb hn⟩
end Go.Sx
namespace Go.Ex
open Go Go.Sx Go.Proofs
end Go.Ex
namespace Go.Ex
open Go Go.Sx Go.Proofs
end Go.Ex
namespace Go.Sx
open Go Go.Ex Go.Proofs
variable{O:Nat->Sx.df}
theorem Sub.nil{B nx:Nat}{l:Env}{H:Hp}{iv:Iv}{w w':World}{t:AZ}(u e sz:Nat)(h9:fF l u=some (.o (.v (.slice none 0 0))))(hsc:jn nx l)(r:Rel H nx iv B w O w')
  (h:∀ρ1,Rel ((nx,.vec e sz [])::H) (nx+1) iv B w ρ1 w'->Sx.Sub B ((u,.o (.w nx 0))::l) (nx+1) ρ1 w' t):Sx.Sub B l nx O w' t:=by
 have r1:=r.push (.vec e sz []) ⟨0,0,true⟩ (w2:=w') rfl rfl rfl (aG _) (fun _ _=>rfl) (fun h=>by cases h) (.inl ⟨rfl,rfl⟩) trivial;obtain⟨ρ',h1,h2⟩:=h _ r1;refine⟨ρ',h1,fun x v hv=>?_⟩;obtain⟨h3,v0,h4,h5⟩:=h2 x v hv;refine⟨h3,?_⟩;rw[eU]at h4;split at h4
 ·rename_i e;subst e;injection h4 with h4;subst h4;refine⟨_,h9,?_⟩;rw[<-h5];simp[SV.den,At.den,ei]
 ·refine⟨v0,h4,?_⟩;rw[<-h5];exact SV.jY (fun id hid=>gJ id hid) (hsc.get _ _ h4)
end Go.Sx
namespace Go.Ex
open Go Go.Sx Go.Proofs
structure aAG(w:World)(S:Nat->Prop)(rv:List Value)(n:Nat)(M:List (List Rat))(gm k c g ck:Nat)(q:Rat)(d1:Bool)(e1:Option Addr)(m1 k1:Nat)(d2:Bool)(e2:Option Addr)(m2 k2:Nat):Prop where
 rv:rv[k]? =some (.slice (some ⟨g,0,none⟩) n ck)
 at_:dG M k c=q
 aAK:dM w S (.agg #[.bool d1,.slice e1 m1 k1,.bool d2,.slice e2 m2 k2]) q
 outer:w.cell? (Addr.add ⟨gm,0,none⟩ (k*1))=some (.slice (some ⟨g,0,none⟩) n ck)
 cells:∀j u,[Value.bool d1,.slice e1 m1 k1,.bool d2,.slice e2 m2 k2][j]? =some u->w.cell? ((Addr.add ⟨g,0,none⟩ (c*4)).add j)=some u
theorem KL{α:Type}{xs:List α}{j:Nat}{v:α}(h:j<xs.length):xs.take (j*1)++[v]++xs.drop (j*1+1)=xs.set j v:=by
 rw[aU,List.set_eq_take_append_cons_drop,if_pos h];simp
end Go.Ex
namespace Go.Ex
open Go Go.Sx Go.Proofs
variable{x:Int×Int}{xs:List (Int×Int)}{M:List (List (Int×Int))}{A:List (List Rat)}{ps pv:List Nat}{cs:List Value}{S:Nat->Prop}{v:Value}{w:World}
def Lf(w:World)(S:Nat->Prop)(v:Value)(n:Nat)(qs:List Rat):Prop:=∃css,w.ownsRow 0 T.DV 4 v n css.flatten∧css.length=n∧Fr w S css qs
section
variable{S S' C:Nat->Prop}{H:Hp}{nx n:Nat}{iv iv':Iv}{B:Nat}{w w' w2:World}{O:Nat->Sx.df}{v:Value}{qs:List Rat}
structure aAL(w:World)(S:Nat->Prop)(B:Nat)(iv:Iv)(v:Value)(n:Nat)(qs:List Rat):Prop where
 row:Lf w (fun g=>Cv S B iv g∧v.ownBlock≠some g) v n qs
 new:∀g,v.ownBlock=some g->Cv (fun _=>False) B iv g
def AE(w:World)(S:Nat->Prop)(cs:List Value)(x:Int×Int):Prop:=∃b a n c b2 a2 n2 c2,cs=[.bool b,.slice a n c,.bool b2,.slice a2 n2 c2]∧gh w S (.agg #[.bool b,.slice a n c,.bool b2,.slice a2 n2 c2]) x.1 x.2
theorem AE.cG(h:AE w S cs x)(hk:∀g,S g->w2.heap[g]? =w.heap[g]?):AE w2 S cs x:=by
 obtain⟨b,a,n,c,b2,a2,n2,c2,h1,h2⟩:=h;exact⟨b,a,n,c,b2,a2,n2,c2,h1,h2.cG hk⟩
theorem AE.cI(h:AE w S cs x)(hk:∀g,S g->S' g):AE w S' cs x:=by
 obtain⟨b,a,n,c,b2,a2,n2,c2,h1,h2⟩:=h;exact⟨b,a,n,c,b2,a2,n2,c2,h1,h2.cI hk⟩
def dL{α:Type}(P:World->(Nat->Prop)->List Value->α->Prop)(w:World)(S:Nat->Prop)(v:Value)(xs:List α):Prop:=
 ∃css:List (List Value),ig w S 4 v css.flatten xs.length∧css.length=xs.length∧(∀cs∈css,cs.length=4)∧∀(j:Nat) cs x,css[j]? =some cs->xs[j]? =some x->P w S cs x
abbrev jz:=dL AE
theorem jz.cG(h:jz w S v xs)(hk:∀g,S g->w2.heap[g]? =w.heap[g]?):jz w2 S v xs:=by
 obtain⟨css,h1,h2,h3,h4⟩:=h;exact⟨css,h1.cG hk,h2,h3,fun j cs x k1 k2=>(h4 j cs x k1 k2).cG hk⟩
theorem jz.cI(h:jz w S v xs)(hk:∀g,S g->S' g):jz w S' v xs:=by
 obtain⟨css,h1,h2,h3,h4⟩:=h;exact⟨css,h1.cI hk,h2,h3,fun j cs x k1 k2=>(h4 j cs x k1 k2).cI hk⟩
theorem dL.shape{α:Type}{P:World->(Nat->Prop)->List Value->α->Prop}{xs:List α}(h:dL P w S v xs):∃a c,v= .slice a xs.length c∧xs.length<=c∧xs.length<=maxLen:=by
 obtain⟨css,⟨h0,_,_,a,c,h1,h2,_⟩,_⟩:=h;exact⟨a,c,h1,h2,h0⟩
theorem dL.load{α:Type}{P:World->(Nat->Prop)->List Value->α->Prop}{xs:List α}{a:Option Addr}{m c j:Nat}{x:α}(h:dL P w S (.slice a m c) xs)(hq:xs[j]? =some x):
  ∃ad cs,a=some ad∧P w S cs x∧cs.length=4∧∀k u,cs[k]? =some u->S ad.block∧w.cell? ((ad.add (j*4)).add k)=some u:=by
 obtain⟨css,⟨h0,h1,h2,a',c',e,h3,h4⟩,hl,hl4,hf⟩:=h;injection e with e1 e2 e3;subst e1;obtain⟨cs,hcs⟩:∃cs,css[j]? =some cs:=⟨_,aB (by rw[hl];exact(aE.1 hq).1)⟩
 have hF:=hf j cs x hcs hq;have hlc:=hl4 cs (aD hcs);obtain⟨ad,k1,k2,k3⟩:=h4 (j*4+0) _ (flat_get hl4 hcs 0 _ (aB (show 0<cs.length by omega)));refine⟨ad,cs,k1,hF,hlc,fun k u hu=>?_⟩;obtain⟨ad2,m1,m2,m3⟩:=h4 (j*4+k) u (flat_get hl4 hcs k u hu);rw[k1]at m1;injection m1 with m1;subst m1;refine⟨m2,?_⟩;rw[<-m3];have:(ad.add (j*4)).add k=ad.add (j*4+k):=by
  unfold Addr.add;split<;>split<;>simp_all<;>omega
 rw[this]
def de{α:Type}(P:World->(Nat->Prop)->Value->α->Prop)(w:World)(S:Nat->Prop)(v:Value)(M:List α):Prop:=
 ∃rv,ig w S 1 v rv M.length∧rv.length=M.length∧∀(i:Nat) u x,rv[i]? =some u->M[i]? =some x->P w S u x
theorem de.shape{α:Type}{P:World->(Nat->Prop)->Value->α->Prop}{xs:List α}(h:de P w S v xs):∃a c,v= .slice a xs.length c∧xs.length<=c∧xs.length<=maxLen:=by
 obtain⟨rv,⟨h0,_,_,a,c,h1,h2,_⟩,_⟩:=h;exact⟨a,c,h1,h2,h0⟩
theorem de.load{α:Type}{P:World->(Nat->Prop)->Value->α->Prop}{xs:List α}{a:Option Addr}{m c j:Nat}{x:α}(h:de P w S (.slice a m c) xs)(hq:xs[j]? =some x):
  ∃ad u,a=some ad∧P w S u x∧S ad.block∧w.cell? (ad.add (j*1))=some u:=by
 obtain⟨rv,⟨h0,h1,h2,a',c',e,h3,h4⟩,hl,hf⟩:=h;injection e with e1 e2 e3;subst e1;obtain⟨u,hu⟩:∃u,rv[j]? =some u:=⟨_,aB (by rw[hl];exact(aE.1 hq).1)⟩
 obtain⟨ad,k1,k2,k3⟩:=h4 j u hu;exact⟨ad,u,k1,hf j u x hu hq,k2,by rw[aU];exact k3⟩
abbrev jN:=de jz
theorem jN.cG(h:jN w S v M)(hk:∀g,S g->w2.heap[g]? =w.heap[g]?):jN w2 S v M:=by
 obtain⟨rv,h1,h2,h3⟩:=h;exact⟨rv,h1.cG hk,h2,fun i u x k1 k2=>jz.cG (h3 i u x k1 k2) hk⟩
theorem jN.cI(h:jN w S v M)(hk:∀g,S g->S' g):jN w S' v M:=by
 obtain⟨rv,h1,h2,h3⟩:=h;exact⟨rv,h1.cI hk,h2,fun i u x k1 k2=>jz.cI (h3 i u x k1 k2) hk⟩
end
section
variable{S S':Nat->Prop}{H:Hp}{nx:Nat}{iv iv':Iv}{B:Nat}{w w' w2:World}{O:Nat->Sx.df}{v:Value}{xs:List (Int×Int)}
end
section
variable{S S':Nat->Prop}{H:Hp}{nx:Nat}{iv iv':Iv}{B:Nat}{w w' w2:World}{O:Nat->Sx.df}{v:Value}{M:List (List (Int×Int))}
theorem jN.rel(h:jN w (Cv S B iv) v M)(r:Rel H nx iv B w O w')(hS:∀g,S g->g<B):jN w' (Cv S B iv) v M:=jN.cG h fun _ hg=>Rel.same r hS hg
theorem jN.arg(h:jN w S v M)(iv:Iv):jN w (Cv S w.heap.size iv) v M:=jN.cI h fun _ h=>.inl h
end
section
variable{S S':Nat->Prop}{H:Hp}{nx:Nat}{iv iv':Iv}{B:Nat}{w w' w2:World}{O:Nat->Sx.df}{v:Value}{M:List (List Rat)}
end
def gv{α:Type}:List (List α)->Nat
 |[]=>0
 |r::_=>r.length
theorem de.JF(h:jz w S v xs):∃a c,v= .slice a xs.length c:=by
 obtain⟨a,c,h,_⟩:=dL.shape h;exact⟨a,c,h⟩
def f0:List Value:=[.bool false,.slice none 0 0,.bool false,.slice none 0 0]
structure aAM(w:World)(S:Nat->Prop)(n i:Nat)(css:List (List Value))(qs:List Rat):Prop where
 len:css.length=n
 four:∀cs∈css,cs.length=4
 one:∀cs∈css,∀u∈cs,u.oneCell'=true
 at_:∀(j:Nat) cs q,j<i->css[j]? =some cs->qs[j]? =some q->Kd w S cs q
section
variable{S S':Nat->Prop}{H:Hp}{nx n i:Nat}{iv iv':Iv}{B:Nat}{w w1 w' w2:World}{O:Nat->Sx.df}{css:List (List Value)}{qs:List Rat}
end
def JG(x:Int×Int):Rat:=ratio x.1 x.2
structure aAH(w:World)(S:Nat->Prop)(B:Nat)(iv:Iv)(rv:List Value)(n:Nat)(M:List (List Rat)):Prop where
 len:rv.length=M.length
 row:∀(i:Nat) v qs,rv[i]? =some v->M[i]? =some qs->Lf w (fun g=>Cv S B iv g∧¬ ∃u∈rv,u.ownBlock=some g) v n qs
 EG:∀(i j:Nat) a b g,rv[i]? =some a->rv[j]? =some b->a.ownBlock=some g->b.ownBlock=some g->i=j
 new:∀v∈rv,∀g,v.ownBlock=some g->Cv (fun _=>False) B iv g
theorem fz(B:Nat):∀g,(fun _:Nat=>False) g->g<B:=fun _ h=>h.elim
theorem Av{B:Nat}{iv:Iv}{g:Nat}(h:Cv (fun _=>False) B iv g):Cv S B iv g:=h.elim (fun h=>h.elim) .inr
section
variable{S S':Nat->Prop}{H:Hp}{nx n i:Nat}{iv iv':Iv}{B:Nat}{w w1 w' w2:World}{O:Nat->Sx.df}{rv:List Value}{M:List (List Rat)}
structure aAN(w:World)(S:Nat->Prop)(B:Nat)(iv:Iv)(vm:Value)(n:Nat)(M:List (List Rat)):Prop where
 ex:∃rv,MD w (fun g=>Cv S B iv g∧¬Mb vm rv g) vm rv n M∧∀g,Mb vm rv g->Cv (fun _=>False) B iv g
end
def dF(w:World)(S:Nat->Prop)(v:Value)(ps:List Nat):Prop:=ig w S 1 v (ps.map fun c:Nat=>.int .i64 (c:Int)) ps.length
theorem dF.cG{w2:World}(h:dF w S v ps)(hk:∀g,S g->w2.heap[g]? =w.heap[g]?):dF w2 S v ps:=ig.cG h hk
theorem dF.cI{S':Nat->Prop}(h:dF w S v ps)(hk:∀g,S g->S' g):dF w S' v ps:=ig.cI h hk
section
variable{S S':Nat->Prop}{H:Hp}{nx:Nat}{iv iv':Iv}{B:Nat}{w w' w2:World}{O:Nat->Sx.df}{v:Value}{ps:List Nat}
theorem dF.rel(h:dF w (Cv S B iv) v ps)(r:Rel H nx iv B w O w')(hS:∀g,S g->g<B):dF w' (Cv S B iv) v ps:=dF.cG h fun _ hg=>Rel.same r hS hg
theorem dF.cF(h:dF w (Cv S B iv) v ps)(r:Rel H nx iv B w O w')(hS:∀g,S g->g<B)(he:Ext w' w2)(hm:∀p,p∈iv->p∈iv'):dF w2 (Cv S B iv') v ps:=
 dF.cI (dF.cG (dF.rel h r hS) fun g hg=>he.block g (Rel.old r hS g hg)) fun _ hg=>hg.mono hm
theorem dF.c9(h:dF w2 (Nf w' w2) v ps)(hB:B<=w'.heap.size)(hm:(w'.heap.size,w2.heap.size)∈iv):dF w2 (Cv S B iv) v ps:=dF.cI h fun _ hg=>hg.c9 hB hm
end
section
variable{S S':Nat->Prop}{H:Hp}{nx n:Nat}{iv iv':Iv}{B:Nat}{w w' w2:World}{O:Nat->Sx.df}{v:Value}{qs:List Rat}
end
def fK(A:List (List Rat))(pv:List Nat)(cols c i:Nat):List Rat:=(List.range i).foldl (fun x i=>x.set (pv.getD i 0) (-(dG A i c))) ((List.replicate cols 0).set c 1)
def du(A:List (List Rat))(pv:List Nat)(cols c:Nat):List (List Rat):=((List.range c).filter fun c=>decide (c∉pv)).map fun c=>fK A pv cols c pv.length
theorem fq(A:List (List Rat))(pv:List Nat)(cols c i:Nat):fK A pv cols c (i+1)=(fK A pv cols c i).set (pv.getD i 0) (-(dG A i c)):=by
 rw[fK,bN,List.foldl_append];rfl
theorem j4(A:List (List Rat))(pv:List Nat)(cols c i:Nat):(fK A pv cols c i).length=cols:=by
 induction i with
 |zero=>simp[fK]
 |succ i ih=>rw[fq,bY,ih]
theorem vZ{cols c:Nat}(h:c∈pv):du A pv cols (c+1)=du A pv cols c:=by
 rw[du,bN,List.filter_append];simp[h,du]
theorem tV{cols c:Nat}(h:c∉pv):du A pv cols (c+1)=du A pv cols c++[fK A pv cols c pv.length]:=by
 rw[du,bN,List.filter_append];simp[h,du]
abbrev kA(M:List (List (Int×Int))):List (List Rat):=M.map fun r=>r.map JG
def gK(A:List (List Rat))(pv:List Nat)(cols i:Nat):List Rat:=(List.range i).foldl (fun x i=>x.set (pv.getD i 0) (dG A i cols)) (List.replicate cols 0)
theorem gQ(A:List (List Rat))(pv:List Nat)(cols i:Nat):gK A pv cols (i+1)=(gK A pv cols i).set (pv.getD i 0) (dG A i cols):=by
 rw[gK,bN,List.foldl_append];rfl
structure aAI(w:World)(B:Nat)(iv:Iv)(rv:List Value)(v:Value)(n:Nat)(qs:List Rat):Prop where
 row:Lf w (fun g=>(Cv (fun _=>False) B iv g∧¬ ∃u∈rv,u.ownBlock=some g)∧v.ownBlock≠some g) v n qs
 AR:∀g,v.ownBlock=some g->Cv (fun _=>False) B iv g
section
variable{H:Hp}{nx n:Nat}{iv iv':Iv}{B:Nat}{w w' w2:World}{O:Nat->Sx.df}{v:Value}{qs:List Rat}{rv:List Value}
end
def gg(w:World)(S:Nat->Prop)(cs:List Value)(q:Rat):Prop:=∃b a n c b2 a2 n2 c2,cs=[.bool b,.slice a n c,.bool b2,.slice a2 n2 c2]∧cP w S (.agg #[.bool b,.slice a n c,.bool b2,.slice a2 n2 c2]) q
abbrev cO:=dL gg
abbrev cR:=de cO
section
variable{S S':Nat->Prop}{H:Hp}{nx:Nat}{iv iv':Iv}{B:Nat}{w w' w2:World}{O:Nat->Sx.df}{v:Value}{qs:List Rat}{cs:List Value}{q:Rat}
theorem gg.cG(h:gg w S cs q)(hk:∀g,S g->w2.heap[g]? =w.heap[g]?):gg w2 S cs q:=by
 obtain⟨b,a,n,c,b2,a2,n2,c2,h1,h2⟩:=h;exact⟨b,a,n,c,b2,a2,n2,c2,h1,h2.cG hk⟩
theorem gg.cI(h:gg w S cs q)(hk:∀g,S g->S' g):gg w S' cs q:=by
 obtain⟨b,a,n,c,b2,a2,n2,c2,h1,h2⟩:=h;exact⟨b,a,n,c,b2,a2,n2,c2,h1,h2.cI hk⟩
theorem cO.cG(h:cO w S v qs)(hk:∀g,S g->w2.heap[g]? =w.heap[g]?):cO w2 S v qs:=by
 obtain⟨css,h1,h2,h3,h4⟩:=h;exact⟨css,h1.cG hk,h2,h3,fun j cs x k1 k2=>(h4 j cs x k1 k2).cG hk⟩
theorem cO.cI(h:cO w S v qs)(hk:∀g,S g->S' g):cO w S' v qs:=by
 obtain⟨css,h1,h2,h3,h4⟩:=h;exact⟨css,h1.cI hk,h2,h3,fun j cs x k1 k2=>(h4 j cs x k1 k2).cI hk⟩
theorem cR.cG{M:List (List Rat)}(h:cR w S v M)(hk:∀g,S g->w2.heap[g]? =w.heap[g]?):cR w2 S v M:=by
 obtain⟨rv,h1,h2,h3⟩:=h;exact⟨rv,h1.cG hk,h2,fun i u x k1 k2=>cO.cG (h3 i u x k1 k2) hk⟩
theorem cR.cI{M:List (List Rat)}(h:cR w S v M)(hk:∀g,S g->S' g):cR w S' v M:=by
 obtain⟨rv,h1,h2,h3⟩:=h;exact⟨rv,h1.cI hk,h2,fun i u x k1 k2=>cO.cI (h3 i u x k1 k2) hk⟩
end
section
variable{S S':Nat->Prop}{H:Hp}{nx:Nat}{iv iv':Iv}{B:Nat}{w w' w2:World}{O:Nat->Sx.df}{v:Value}{qs:List Rat}
theorem cO.rel(h:cO w (Cv S B iv) v qs)(r:Rel H nx iv B w O w')(hS:∀g,S g->g<B):cO w' (Cv S B iv) v qs:=cO.cG h fun _ hg=>Rel.same r hS hg
theorem cO.cF(h:cO w (Cv S B iv) v qs)(r:Rel H nx iv B w O w')(hS:∀g,S g->g<B)(he:Ext w' w2)(hm:∀p,p∈iv->p∈iv'):cO w2 (Cv S B iv') v qs:=
 cO.cI (cO.cG (cO.rel h r hS) fun g hg=>he.block g (Rel.old r hS g hg)) fun _ hg=>hg.mono hm
theorem cO.c9(h:cO w2 (Nf w' w2) v qs)(hB:B<=w'.heap.size)(hm:(w'.heap.size,w2.heap.size)∈iv):cO w2 (Cv S B iv) v qs:=cO.cI h fun _ hg=>hg.c9 hB hm
theorem cO.out{w0 w1:World}(h:cO w1 (Cv S w0.heap.size iv) v qs)(r:Rel H nx iv w0.heap.size w1 O w')(hS:Old S w0):cO w' (Nw S w0 w') v qs:=
 cO.cI (cO.rel h r hS) fun _ hg=>Cv.nw hg r
end
section
variable{S S':Nat->Prop}{H:Hp}{nx:Nat}{iv iv':Iv}{B:Nat}{w w' w2:World}{O:Nat->Sx.df}{v:Value}{M:List (List Rat)}
theorem cR.rel(h:cR w (Cv S B iv) v M)(r:Rel H nx iv B w O w')(hS:∀g,S g->g<B):cR w' (Cv S B iv) v M:=cR.cG h fun _ hg=>Rel.same r hS hg
theorem cR.cF(h:cR w (Cv S B iv) v M)(r:Rel H nx iv B w O w')(hS:∀g,S g->g<B)(he:Ext w' w2)(hm:∀p,p∈iv->p∈iv'):cR w2 (Cv S B iv') v M:=
 cR.cI (cR.cG (cR.rel h r hS) fun g hg=>he.block g (Rel.old r hS g hg)) fun _ hg=>hg.mono hm
theorem cR.c9(h:cR w2 (Nf w' w2) v M)(hB:B<=w'.heap.size)(hm:(w'.heap.size,w2.heap.size)∈iv):cR w2 (Cv S B iv) v M:=cR.cI h fun _ hg=>hg.c9 hB hm
theorem cR.old(h:cR w2 (Nw (Cv S B iv) w' w2) v M)(hB:B<=w'.heap.size):cR w2 (Cv S B ((w'.heap.size,w2.heap.size)::iv)) v M:=cR.cI h fun _ hg=>Nw.cv hg hB
end
theorem j5(A:List (List Rat))(pv:List Nat)(cols i:Nat):(gK A pv cols i).length=cols:=by
 induction i with
 |zero=>simp[gK]
 |succ i ih=>rw[gQ,bY,ih]
theorem D9(A:List (List Rat))(pv:List Nat)(cols c:Nat):(du A pv cols c).length<=c:=by
 unfold du;rw[aL];exact a9 (List.length_filter_le _ _) (by simp)
end Go.Ex
namespace Go.Ex
variable{ds l:List Nat}
def dJ:List Int->Int
 |[]=>0
 |c::r=>c+65536*dJ r
def up(k:Nat):Int:=65536^k
theorem B9(k:Nat):up (k+1)=65536*up k:=by rw[up,Int.pow_succ,Int.mul_comm];rfl
theorem IM(k:Nat):0<up k:=Int.pow_pos (by decide)
theorem zh(a b:List Int):dJ (a++b)=dJ a+up a.length*dJ b:=by
 induction a with
 |nil=>simp[dJ,up]
 |cons c r ih=>rw[List.cons_append,dJ,ih,dJ,List.length_cons,B9,Int.mul_add,<-Int.mul_assoc];omega
theorem Eb(a:List Int):dJ (a.map (- ·))= -dJ a:=by
 induction a with
 |nil=>rfl
 |cons c r ih=>rw[List.map_cons,dJ,ih,dJ];omega
def Dg(l:List Nat):Prop:=∀d∈l,d<65536
def lF(l:List Nat):Int:=dJ (l.map fun d:Nat=>(d:Int))
theorem yT(h:Dg l):0<=lF l∧lF l<up l.length:=by
 induction l with
 |nil=>exact⟨Int.le_refl _,by decide⟩
 |cons d r ih=>
  have h1:=ih fun x hx=>h x (aC _ hx);have h2:=h d aJ;have e:lF (d::r)=(d:Int)+65536*lF r:=rfl;rw[e,List.length_cons,B9];omega
def dT:List Int->Int->List Nat×Int
 |[],k=>([],k)
 |c::r,k=>(((c+k) % 65536).toNat::(dT r ((c+k) / 65536)).1,(dT r ((c+k) / 65536)).2)
theorem kG:∀(cs:List Int) (k:Int),dJ cs+k=lF (dT cs k).1+up cs.length*(dT cs k).2∧Dg (dT cs k).1∧(dT cs k).1.length=cs.length
 |[],k=>⟨by simp[dJ,dT,lF,up],by simp[dT,Dg],rfl⟩
 |c::r,k=>by
  obtain⟨h1,h2,h3⟩:=kG r ((c+k) / 65536);have h4:0<=(c+k) % 65536:=Int.emod_nonneg _ (by decide);have h5:(c+k) % 65536<65536:=Int.emod_lt_of_pos _ (by decide);have h6:=Int.mul_ediv_add_emod (c+k) 65536;refine⟨?_,fun d hd=>?_,by simp[dT,h3]⟩
  ·have e:lF (dT (c::r) k).1=(((c+k) % 65536).toNat:Int)+65536*lF (dT r ((c+k) / 65536)).1:=rfl;have e2:(dT (c::r) k).2=(dT r ((c+k) / 65536)).2:=rfl;rw[e,e2,dJ,List.length_cons,B9,Int.mul_assoc];omega
  ·have e:(dT (c::r) k).1=((c+k) % 65536).toNat::(dT r ((c+k) / 65536)).1:=rfl;rw[e]at hd;rcases List.mem_cons.1 hd with rfl|hd
   ·omega
   ·exact h2 d hd
theorem Ba(cs:List Int)(c k:Int):dT (cs++[c]) k=((dT cs k).1++[((c+(dT cs k).2) % 65536).toNat],(c+(dT cs k).2) / 65536):=by
 induction cs generalizing k with
 |nil=>rfl
 |cons d r ih=>simp only[List.cons_append,dT,ih]
theorem j9:∀(cs:List Int) (k:Int),(∀c∈cs,-1152921504606846976<=c∧c<=1152921504606846976)-> -1152921504606846976<=k->k<=1152921504606846976-> -1152921504606846976<=(dT cs k).2∧(dT cs k).2<=1152921504606846976
 |[],k,_,h1,h2=>⟨h1,h2⟩
 |c::r,k,h,h1,h2=>by
  have hc:=h c aJ;exact j9 r _ (fun x hx=>h x (aC _ hx)) (by omega) (by omega)
def dB(n:Nat):List Nat:=if h:n=0 then []else n % 65536::dB (n / 65536)
termination_by n
decreasing_by omega
theorem kH:dB 0=[]:=by rw[dB];rfl
theorem oh{n:Nat}(h:0<n):dB n=n % 65536::dB (n / 65536):=by
 rw[dB,dif_neg (by omega)]
theorem kI(n:Nat):lF (dB n)=n∧Dg (dB n):=by
 induction n using Nat.strongRecOn with
 |_ n ih=>
  rcases bJ n with h|h
  ·subst h;rw[kH];exact⟨rfl,by simp[Dg]⟩
  ·rw[oh h];obtain⟨h1,h2⟩:=ih (n / 65536) (by omega);refine⟨?_,fun d hd=>?_⟩
   ·have e:lF (n % 65536::dB (n / 65536))=((n % 65536:Nat):Int)+65536*lF (dB (n / 65536)):=rfl;rw[e,h1];omega
   ·rcases List.mem_cons.1 hd with rfl|hd
    ·omega
    ·exact h2 d hd
theorem jA{n:Nat}:∀{k:Nat},n<65536^k->(dB n).length<=k
 |0,h=>by
  have:n=0:=by simp at h;exact h
  subst this;rw[kH];simp
 |k+1,h=>by
  rcases bJ n with h0|h0
  ·subst h0;rw[kH];simp
  ·rw[oh h0,List.length_cons];have:=jA (n:=n / 65536) (k:=k) (by rw[Nat.pow_succ]at h;exact Nat.div_lt_of_lt_mul (by rw[bT];exact h));omega
def gN:List Nat->List Nat
 |[]=>[]
 |[a]=>[a]
 |a::b::r=>(a+65536*b)::gN r
theorem yU:∀(l:List Nat),Dg l->(val (gN l):Int)=lF l∧Lm (gN l)∧(gN l).length=(l.length+1) / 2
 |[],_=>⟨rfl,by simp[gN,Lm],rfl⟩
 |[a],h=>by
  have:=h a (by simp);exact⟨by simp[gN,val,lF,dJ],fun x hx=>by simp[gN]at hx;omega,by simp[gN]⟩
 |a::b::r,h=>by
  obtain⟨h1,h2,h3⟩:=yU r fun x hx=>h x (aC _ (aC _ hx));have ha:=h a (by simp);have hb:=h b (by simp);refine⟨?_,fun x hx=>?_,?_⟩
  ·have e:lF (a::b::r)=(a:Int)+65536*((b:Int)+65536*lF r):=rfl;rw[e,<-h1,gN,val];simp only[Int.natCast_add,Int.natCast_mul]
   omega
  ·rw[gN]at hx;rcases List.mem_cons.1 hx with rfl|hx
   ·omega
   ·exact h2 x hx
  ·rw[gN,List.length_cons,h3];simp only[List.length_cons]
   omega
def pk(ds:List Nat)(k:Nat):List Nat:=(List.range k).map fun i=>ds.getD (2*i) 0+65536*ds.getD (2*i+1) 0
theorem xE(ds:List Nat)(k:Nat):pk ds (k+1)=pk ds k++[ds.getD (2*k) 0+65536*ds.getD (2*k+1) 0]:=by simp[pk,bN]
theorem uH(ds:List Nat)(k:Nat):(pk ds k).length=k:=by simp[pk]
theorem IN:∀(ds:List Nat),pk ds ((ds.length+1) / 2)=gN ds
 |[]=>rfl
 |[a]=>by simp[pk,gN,bN]
 |a::b::r=>by
  have ih:=IN r;have e:((a::b::r).length+1) / 2=(r.length+1) / 2+1:=by simp only[List.length_cons];omega
  rw[e,gN,<-ih,pk,List.range_succ_eq_map,List.map_cons,List.map_map,pk];congr 1
theorem IP(h:Dg ds)(k:Nat):Lm (pk ds k):=fun x hx=>by
 obtain⟨i,_,rfl⟩:=aT.1 hx;have key:∀j,ds.getD j 0<65536:=fun j=>by
  rw[List.getD]
  cases hj:ds[j]? with
  |none=>simp
  |some d=>simp;exact h d (aD hj)
 have h1:=key (2*i);have h2:=key (2*i+1);omega
end Go.Ex
namespace Go.Ex
open Go Go.Sx Go.Proofs
variable{cs:List Int}{S:Nat->Prop}{v:Value}{w:World}
def di(w:World)(S:Nat->Prop)(v:Value)(cs:List Int):Prop:=ig w S 1 v (cs.map (Value.int .i64)) cs.length
theorem di.cG{w2:World}(h:di w S v cs)(hk:∀g,S g->w2.heap[g]? =w.heap[g]?):di w2 S v cs:=ig.cG h hk
theorem di.cI{S':Nat->Prop}(h:di w S v cs)(hk:∀g,S g->S' g):di w S' v cs:=ig.cI h hk
theorem di.load{a:Option Addr}{n c j:Nat}{x:Int}(h:di w S (.slice a n c) cs)(hx:cs[j]? =some x):∃ad,a=some ad∧S ad.block∧w.cell? (ad.add (j*1))=some (.int .i64 x):=by
 obtain⟨_,_,_,a',c',e,_,h4⟩:=h;injection e with e1 e2 e3;subst e1;obtain⟨ad,k1,k2,k3⟩:=h4 j (.int .i64 x) (by rw[aN,hx];rfl);exact⟨ad,k1,k2,by rw[aU];exact k3⟩
theorem di.shape(h:di w S v cs):∃a c,v= .slice a cs.length c∧cs.length<=c:=by
 obtain⟨_,_,_,a',c',e,h3,_⟩:=h;exact⟨a',c',e,h3⟩
def dy(ds:List Nat):List Int:=ds.map fun d:Nat=>(d:Int)
theorem eY(ds:List Nat):(dy ds).length=ds.length:=by simp[dy]
end Go.Ex
namespace Go.Sx
open Go Go.Ex Go.Proofs
variable{cs:List Value}{O:Nat->Sx.df}
theorem Rel.CV{H:Hp}{nx:Nat}{iv:Iv}{B:Nat}{w w':World}(r:Rel H nx iv B w O w'){id t m sz:Nat}(h:dA H id=some (.vec t sz cs))(hm:cs.length=m*sz)(hs:0<sz):
  w'.ownsRow B t sz ((At.w id m).den O) m cs:=by
 rcases r.vec id t sz _ h with⟨hn,rfl⟩|⟨hn,spare,hb,hc,hcap⟩
 ·have hm0:m=0:=by
   rcases bJ m with h|h
   ·exact h
   ·have:=Nat.mul_pos h hs;simp at hm;omega
  subst hm0;have:(At.w id 0).den O= .slice none 0 0:=by simp[At.den,hn]
  rw[this];exact World.ownsRow_nil _ _ _ _
 ·have hv:(At.w id m).den O= .slice (some ⟨(O id).g,0,none⟩) m (O id).cap:=by simp[At.den,hn]
  have h1:(cs++spare).length=cs.length+spare.length:=List.length_append;rw[hv];refine⟨hm,.inr ⟨(O id).g,(O id).cap,_,rfl,(r.low id _ h hn).1,hb,?_,hcap,by simpa using hc,?_⟩⟩
  ·have h2:m*sz<=(O id).cap*sz:=by omega
   exact bo h2 hs
  ·rw[<-hm];simp
end Go.Sx
namespace Go.Ex
open Go Go.Sx Go.Proofs
theorem Dx(n:Nat)(w:World)(hn:n<=9223372036854775807):dm PG N.sw #[.int .i64 n] w (eB w fun v w2=>di w2 (Nf w w2) v (dy (dB n))):=by
 refine wT (by simp) ?_
 refine⟨Nat×List Nat×World,fun z=>⟨[(0,.o (.v (.int .i64 z.1))),(3,.o (.w 0 z.2.1.length))],[(0,.vec T.int 1 ((dy z.2.1).map (Value.int .i64)))],1,[],z.2.2⟩,fun z=>z.1,
  fun z=>cV w.heap.size w z.2.2∧z.1<=n∧z.2.1.length<=n-z.1∧z.2.1++dB z.1=dB n,?_,?_⟩
 ·intro O w' r
  exact⟨(n,[],w'),⟨r.cM,aG _,by simp,by simp⟩,Sub.nil 3 T.int 1 rfl (by simp[jn,SV.sc,At.sc,fW]) r fun ρ1 r1=>
   Sub.gn [] r1⟩
 rintro⟨k,ds,w1⟩ ⟨hw,hk,hl,hs⟩;dsimp only at hw hk hl hs ⊢;have hdl:=eY ds;refine dI.mk (fun h=>?_) (fun h=>?_)
 ·have h:0<k:=by
   have:(k:Int)>0:=aI h;omega
  refine⟨by decide,((k % 65536:Nat):Int),JH k 65536,?_⟩;refine .inl ?_;refine⟨by simp[hdl],?_,by have h1:=congrArg List.length hs;rw[List.length_append]at h1;have h2:=jA (n:=n) (k:=4) (by omega);unfold maxLen;omega,?_⟩
  ·have h1:=congrArg List.length hs;rw[List.length_append]at h1;have h2:=jA (n:=n) (k:=4) (by omega);omega
  refine⟨by decide,((k / 65536:Nat):Int),KK (by omega),?_⟩;intro ρ3 w3 r3;have hl5:(ds++[k % 65536]).length=ds.length+1:=by simp
  have hm5:(dy (ds++[k % 65536])).map (Value.int .i64)=(dy ds).map (Value.int .i64)++[.int .i64 ((k % 65536:Nat):Int)]:=by simp[dy]
  refine⟨(k / 65536,ds++[k % 65536],w3),⟨hw.tr r3.cM,by dsimp only;omega,by dsimp only;rw[hl5];omega,?_⟩,
   Sub.gn [(0,2)] r3 ⟨by rw[hm5];rfl,trivial⟩ ⟨rfl,by dsimp only;rw[hl5];rfl,trivial⟩,by dsimp only;omega⟩
  dsimp only
  rw[<-hs,oh h];simp
 ·have h:k=0:=by
   have:¬(k:Int)>0:=aH h;omega
  subst h;rw[kH,List.append_nil]at hs;subst hs;intro ρe we re;refine⟨_,rfl,hw.tr re.cM,?_⟩;have:=re.iX (id:=0) (sz:=1) (m:=(dB n).length) rfl (by simp[hdl]) (by have h2:=jA (n:=n) (k:=4) (by omega);unfold maxLen;omega) (by decide) (by intro u hu;simp at hu;obtain⟨_,_,rfl⟩:=hu;rfl);unfold di;rw[hdl];exact this.cI fun g hg=>.inr hg
end Go.Ex
namespace Go.Ex
open Go Go.Sx Go.Proofs
variable{cs:List Int}{S:Nat->Prop}
theorem uj(n:Int):(n.tmod 65536<0->n % 65536=n.tmod 65536+65536)∧(¬n.tmod 65536<0->n % 65536=n.tmod 65536)∧ -65536<n.tmod 65536∧n.tmod 65536<65536:=by
 by_cases h:0<=n
 ·rw[Int.tmod_eq_emod_of_nonneg h];omega
 ·have h1:n.tmod 65536= -((-n) % 65536):=by
   have:n= -(-n):=by omega
   conv=>lhs;rw[this]
   rw[Int.neg_tmod,Int.tmod_eq_emod_of_nonneg (by omega)]
  rw[h1];omega
theorem BK(n:Int):(n-n % 65536).tdiv 65536=n / 65536:=by
 have h:n-n % 65536=65536*(n / 65536):=by omega
 rw[h,Int.mul_tdiv_cancel_left _ (by decide)]
theorem BL{w:World}{v:Value}(hS:Old S w)(h:di w S v cs)(hb:∀c∈cs,-1152921504606846976<=c∧c<=1152921504606846976)(hl:cs.length<=1000000000):
  dm PG N.qk #[v] w (eB w fun v' w2=>∃o,v'= .tuple #[o,.int .i64 (dT cs 0).2]∧w2.ownsRow w.heap.size T.int 1 o cs.length ((dy (dT cs 0).1).map (Value.int .i64))):=by
 obtain⟨a,c,rfl,hc⟩:=h.shape;refine u9 (by simp) ?_
 refine⟨Nat×World,fun z=>⟨[(0,.o (.v (.slice a cs.length c))),(4,.o (.w 0 z.1)),(5,.o (.v (.int .i64 (dT (cs.take z.1) 0).2))),(6,.o (.v (.int .i64 z.1)))],[(0,.vec T.int 1 ((dy (dT (cs.take z.1) 0).1).map (Value.int .i64)))],1,[],z.2⟩,fun z=>cs.length-z.1,
  fun z=>cV w.heap.size w z.2∧z.1<=cs.length,?_,?_⟩
 ·intro O w' r
  exact⟨(0,w'),⟨r.cM,by simp⟩,Sub.nil 4 T.int 1 rfl (by simp[jn,SV.sc,At.sc,fW]) r fun ρ1 r1=>
   Sub.gn [] r1⟩
 rintro⟨i,w1⟩ ⟨hw,hi⟩;dsimp only at hw hi ⊢;obtain⟨-,hdg,hlen⟩:=kG (cs.take i) 0;have hln:((dy (dT (cs.take i) 0).1).map (Value.int .i64)).length=i:=by rw[aL,eY,hlen,aY];omega
 obtain⟨hk1,hk2⟩:=j9 (cs.take i) 0 (fun c hc=>hb c (List.mem_of_mem_take hc)) (by decide) (by decide);have hR:di w1 S (.slice a cs.length c) cs:=di.cG h fun g hg=>hw.block g (hS g hg);refine dI.mk (fun h=>?_) (fun h=>?_)
 ·have h:i<cs.length:=by simpa using h
  obtain⟨x,hx⟩:∃x,cs[i]? =some x:=⟨_,aB h⟩
  obtain⟨hx1,hx2⟩:=hb x (aD hx);obtain⟨ad,rfl,q1,q2⟩:=hR.load hx;have htk:cs.take (i+1)=cs.take i++[x]:=by rw[List.take_add_one,hx];rfl
  have hsn:=Ba (cs.take i) x 0;rw[<-htk]at hsn;generalize (dT (cs.take i) 0).1=ds at*
  generalize (dT (cs.take i) 0).2=k at*
  obtain⟨t1,t2,t3,t4⟩:=uj (x+k);have hem1:=Int.emod_nonneg (x+k) (show (65536:Int)≠0 by decide);have hem2:=Int.emod_lt_of_pos (x+k) (show (0:Int)<65536 by decide);refine⟨ad,rfl,by omega,.int .i64 x,fun O w' r=>?_,?_⟩
  ·rw[aF,cH (w:=w1) (w2:=w') (by rw[dQ];exact Rel.same (S:=S) r hS (.inl q1))];exact q2
  refine⟨x+k,wo,by decide,(x+k).tmod 65536,rfl,?_⟩;refine dI.mk (fun hneg=>?_) (fun hneg=>?_)
  ·have hneg:=t1 (aI hneg);refine⟨(x+k) % 65536,by rw[hneg,wrap64]<;>omega,x+k-(x+k) % 65536,wo,by decide,(x+k) / 65536,by rw[BK,wrap64]<;>omega,?_⟩;refine .inl ?_;refine⟨by rw[hln,aU],by omega,by unfold maxLen;omega,((i+1:Nat):Int),wo,?_⟩;intro ρ3 w3 r3;have hm5:(dy (dT (cs.take (i+1)) 0).1).map (Value.int .i64)=(dy ds).map (Value.int .i64)++[.int .i64 ((x+k) % 65536)]:=by
    rw[hsn];simp[dy,Int.toNat_of_nonneg hem1]
   have hk5:(dT (cs.take (i+1)) 0).2=(x+k) / 65536:=by rw[hsn]
   exact⟨(i+1,w3),⟨hw.tr r3.cM,by dsimp only;omega⟩,Sub.gn [(0,2)] r3 ⟨by dsimp only;rw[hm5];rfl,trivial⟩ ⟨rfl,rfl,by dsimp only;rw[hk5];rfl,rfl,trivial⟩,by dsimp only;omega⟩
  ·have hneg:=t2 (aH hneg);rw[<-hneg];refine⟨x+k-(x+k) % 65536,wo,by decide,(x+k) / 65536,by rw[BK,wrap64]<;>omega,?_⟩;refine .inl ?_;refine⟨by rw[hln,aU],by omega,by unfold maxLen;omega,((i+1:Nat):Int),wo,?_⟩;intro ρ3 w3 r3;have hm5:(dy (dT (cs.take (i+1)) 0).1).map (Value.int .i64)=(dy ds).map (Value.int .i64)++[.int .i64 ((x+k) % 65536)]:=by
    rw[hsn];simp[dy,Int.toNat_of_nonneg hem1]
   have hk5:(dT (cs.take (i+1)) 0).2=(x+k) / 65536:=by rw[hsn]
   exact⟨(i+1,w3),⟨hw.tr r3.cM,by dsimp only;omega⟩,Sub.gn [(0,2)] r3 ⟨by dsimp only;rw[hm5];rfl,trivial⟩ ⟨rfl,rfl,by dsimp only;rw[hk5];rfl,rfl,trivial⟩,by dsimp only;omega⟩
 ·have h:i=cs.length:=by
   have:¬i<cs.length:=by simpa using h
   omega
  subst h;rw[bE]at hln ⊢;intro ρe we re;exact⟨_,rfl,hw.tr re.cM,_,rfl,re.CV (id:=0) rfl (by rw[hln,aU]) (by decide)⟩
end Go.Ex
namespace Go.Sx
open Go Go.Ex Go.Proofs
variable{ls:List Nat}{O:Nat->Sx.df}
theorem Rel.JI{H:Hp}{nx:Nat}{iv:Iv}{B:Nat}{w w':World}(r:Rel H nx iv B w O w'){id t m:Nat}(h:dA H id=some (.vec t 1 (U ls)))(hm:m<=ls.length)(hlm:Lm ls)(hle:ls.length<=9223372036854775807):
  dH w' (fun g=>B<=g∧g<w'.heap.size) ((At.w id m).den O) (ls.take m):=by
 have hlt:(ls.take m).length=m:=by rw[aY];omega
 rcases r.vec id t 1 _ h with⟨hn,hu⟩|⟨hn,spare,hb,hc,hcap⟩
 ·have hl:ls=[]:=by cases ls with
   |nil=>rfl
   |cons a b=>simp[U]at hu
  subst hl;simp at hm;subst hm;have:(At.w id 0).den O= .slice none 0 0:=by simp[At.den,hn]
  rw[this];exact dH.nil _ _
 ·refine⟨hlm.take m,by rw[hlt];omega,some ⟨(O id).g,0,none⟩,(O id).cap,by rw[hlt];simp[At.den,hn],?_,fun j x hx=>⟨_,rfl,r.low id _ h hn,?_⟩⟩
  ·have h1:(U ls++spare).length=ls.length+spare.length:=by rw[List.length_append,fk]
   rw[hlt];omega
  ·rw[List.getElem?_take]at hx;split at hx
   ·rw[dP,cell_of hb,aV,aM (by rw[fk];exact(aE.1 hx).1)];exact tP hx
   ·cases hx
end Go.Sx
namespace Go.Ex
open Go Go.Sx Go.Proofs
variable{ds ls:List Nat}{n:Nat}{S:Nat->Prop}
theorem FP(_hn:n<ls.length)(h0:ls[n]? =some 0):dg (ls.take (n+1))=dg (ls.take n):=by
 rw[List.take_add_one,h0];exact jo _
theorem FQ{x:Nat}(h0:ls[n]? =some x)(hx:x≠0):dg (ls.take (n+1))=ls.take (n+1):=by
 rw[List.take_add_one,h0];exact nB _ hx
theorem Dy{w:World}{v:Value}(hS:Old S w)(h:di w S v (dy ds))(hd:Dg ds)(hl:ds.length<=1000000000):
  dm PG N.ss #[v] w (eB w fun v' w2=>∃lv,v'= .agg #[.bool false,lv]∧dH w2 (Nf w w2) lv (dg (gN ds))):=by
 obtain⟨a,c,rfl,hc⟩:=h.shape;rw[eY]at hc h ⊢;refine wS (by simp) ?_
 refine⟨Nat×World,fun z=>match z.1 with
   |0=>⟨[(0,.o (.v (.slice a ds.length c))),(2,.o (.p 0 0)),(3,.o (.p 1 0)),(4,.o (.v (.int .i64 0)))],[(1,.box T.Int [.v (.bool false),.v (.slice none 0 0)]),(0,.box T.Int [.v (.bool false),.v (.slice none 0 0)])],2,[],z.2⟩
   |k+1=>⟨[(0,.o (.v (.slice a ds.length c))),(2,.o (.p 0 0)),(3,.o (.p 1 0)),(4,.o (.v (.int .i64 ((2*(k+1):Nat):Int))))],[(2,.vec T.uint32 1 (U (pk ds (k+1)))),(1,.box T.Int [.v (.bool false),.w 2 (k+1)]),(0,.box T.Int [.v (.bool false),.v (.slice none 0 0)])],3,[],z.2⟩,
  fun z=>ds.length-z.1,fun z=>cV w.heap.size w z.2∧2*z.1<=ds.length+1,?_,?_⟩
 ·intro O w' r;exact⟨(0,w'),⟨r.cM,by simp⟩,Sub.gn [] r⟩
 rintro⟨k,w1⟩ ⟨hw,hi⟩;dsimp only at hw hi;have hR:di w1 S (.slice a ds.length c) (dy ds):=di.cG h fun g hg=>hw.block g (hS g hg)
 cases k with
 |zero=>
  refine dI.mk (fun h1=>?_) (fun h1=>?_)
  ·have h1:0<ds.length:=by
    have:=aI h1;omega
   obtain⟨d0,hd0⟩:∃x,ds[0]? =some x:=⟨_,aB h1⟩
   have hd0b:=hd d0 (aD hd0);have hg0:ds.getD (2*0) 0=d0:=by show ds.getD 0 0=d0;rw[List.getD,hd0];rfl
   obtain⟨ad,rfl,q1,q2⟩:=hR.load (j:=0) (x:=(d0:Int)) (by rw[dy,aN,hd0];rfl);refine⟨ad,rfl,by omega,.int .i64 (d0:Int),fun O w' r=>?_,?_⟩
   ·show w'.cell? (ad.add (0*1))=_;rw[cH (w:=w1) (w2:=w') (by rw[dQ];exact Rel.same (S:=S) r hS (.inl q1))];exact q2
   refine⟨((0+1:Nat):Int),wo,?_⟩;refine dI.mk (fun h2=>?_) (fun h2=>?_)
   ·have h2:0+1<ds.length:=by
     have:=aI h2;omega
    obtain⟨d1,hd1⟩:∃x,ds[0+1]? =some x:=⟨_,aB h2⟩
    have hd1b:=hd d1 (aD hd1);have hg1:ds.getD (2*0+1) 0=d1:=by show ds.getD (0+1) 0=d1;rw[List.getD,hd1];rfl
    obtain⟨_,had,q3,q4⟩:=hR.load (j:=0+1) (x:=(d1:Int)) (by rw[dy,aN,hd1];rfl);injection had with had;subst had;refine⟨((0+1:Nat):Int),wo,ad,rfl,by omega,.int .i64 (d1:Int),fun O w' r=>?_,?_⟩
    ·show w'.cell? (ad.add ((0+1)*1))=_;rw[cH (w:=w1) (w2:=w') (by rw[dQ];exact Rel.same (S:=S) r hS (.inl q3))];exact q4
    refine⟨((65536*d1:Nat):Int),wo,((d0+65536*d1:Nat):Int),wo,?_⟩;have hpk:=xE ds 0;rw[hg0,hg1]at hpk;generalize d0+65536*d1=dd at*
    have hdd:dd<4294967296:=IP hd (0+1) dd (by rw[hpk];simp);refine⟨(dd:Int),by rw[wv]<;>omega,?_⟩;refine .inl ?_;refine⟨by omega,by unfold maxLen;omega,((2*(0+1):Nat):Int),wo,?_⟩;intro ρ3 w3 r3;have hU:U (pk ds (0+1))=U (pk ds 0)++[.int .u32 (dd:Int)]:=by rw[hpk];simp[U]
    exact⟨(0+1,w3),⟨hw.tr r3.cM,by dsimp only;omega⟩,Sub.gn [(2,3)] r3 ⟨by dsimp only;rw[hU];rfl,rfl,rfl,trivial⟩,by dsimp only;omega⟩
   ·have h2:0+1=ds.length:=by
     have:=aH h2;omega
    have hg1:ds.getD (2*0+1) 0=0:=by show ds.getD (0+1) 0=0;rw[List.getD,List.getElem?_eq_none (by omega)];rfl
    have hpk:=xE ds 0;rw[hg0,hg1]at hpk;obtain⟨dd,hdde⟩:∃dd,dd=d0:=⟨_,rfl⟩
    rw[<-hdde]at hpk ⊢;have hdd:dd<4294967296:=by omega
    rw[show dd+65536*0=dd by omega]at hpk;refine⟨(dd:Int),by rw[wv]<;>omega,?_⟩;refine .inl ?_;refine⟨by omega,by unfold maxLen;omega,((2*(0+1):Nat):Int),wo,?_⟩;intro ρ3 w3 r3;have hU:U (pk ds (0+1))=U (pk ds 0)++[.int .u32 (dd:Int)]:=by rw[hpk];simp[U]
    exact⟨(0+1,w3),⟨hw.tr r3.cM,by dsimp only;omega⟩,Sub.gn [(2,3)] r3 ⟨by dsimp only;rw[hU];rfl,rfl,rfl,trivial⟩,by dsimp only;omega⟩
  ·have h1:ds=[]:=by
    have:=aH h1;exact List.eq_nil_of_length_eq_zero (by omega)
   subst h1;refine⟨World,fun z=>⟨[(2,.o (.p 0 0)),(3,.o (.p 1 0)),(6,.o (.v (.int .i64 0)))],[(1,.box T.Int [.v (.bool false),.v (.slice none 0 0)]),(0,.box T.Int [.v (.bool false),.v (.slice none 0 0)])],2,[],z⟩,fun _=>0,fun z=>cV w.heap.size w z,?_,?_⟩
   ·intro O w' r;exact⟨w',hw.tr r.cM,Sub.gn [] r⟩
   intro w2 hw;dsimp only at hw ⊢;refine⟨⟨by decide,by decide,by decide⟩,none,0,0,by rfl,by rfl,by rfl,?_⟩;intro ρe we re;exact⟨_,rfl,hw.tr re.cM,_,rfl,dH.nil _ _⟩
 |succ k=>
  refine dI.mk (fun h1=>?_) (fun h1=>?_)
  ·have h1:(2*(k+1))<ds.length:=by
    have:=aI h1;omega
   obtain⟨d0,hd0⟩:∃x,ds[(2*(k+1))]? =some x:=⟨_,aB h1⟩
   have hd0b:=hd d0 (aD hd0);have hg0:ds.getD (2*(k+1)) 0=d0:=by show ds.getD (2*(k+1)) 0=d0;rw[List.getD,hd0];rfl
   obtain⟨ad,rfl,q1,q2⟩:=hR.load (j:=(2*(k+1))) (x:=(d0:Int)) (by rw[dy,aN,hd0];rfl);refine⟨ad,rfl,by omega,.int .i64 (d0:Int),fun O w' r=>?_,?_⟩
   ·show w'.cell? (ad.add ((2*(k+1))*1))=_;rw[cH (w:=w1) (w2:=w') (by rw[dQ];exact Rel.same (S:=S) r hS (.inl q1))];exact q2
   refine⟨(((2*(k+1))+1:Nat):Int),wo,?_⟩;refine dI.mk (fun h2=>?_) (fun h2=>?_)
   ·have h2:(2*(k+1))+1<ds.length:=by
     have:=aI h2;omega
    obtain⟨d1,hd1⟩:∃x,ds[(2*(k+1))+1]? =some x:=⟨_,aB h2⟩
    have hd1b:=hd d1 (aD hd1);have hg1:ds.getD (2*(k+1)+1) 0=d1:=by show ds.getD ((2*(k+1))+1) 0=d1;rw[List.getD,hd1];rfl
    obtain⟨_,had,q3,q4⟩:=hR.load (j:=(2*(k+1))+1) (x:=(d1:Int)) (by rw[dy,aN,hd1];rfl);injection had with had;subst had;refine⟨(((2*(k+1))+1:Nat):Int),wo,ad,rfl,by omega,.int .i64 (d1:Int),fun O w' r=>?_,?_⟩
    ·show w'.cell? (ad.add (((2*(k+1))+1)*1))=_;rw[cH (w:=w1) (w2:=w') (by rw[dQ];exact Rel.same (S:=S) r hS (.inl q3))];exact q4
    refine⟨((65536*d1:Nat):Int),wo,((d0+65536*d1:Nat):Int),wo,?_⟩;have hpk:=xE ds (k+1);rw[hg0,hg1]at hpk;generalize d0+65536*d1=dd at*
    have hdd:dd<4294967296:=IP hd ((k+1)+1) dd (by rw[hpk];simp);refine⟨(dd:Int),by rw[wv]<;>omega,?_⟩;refine .inl ?_;refine⟨by rw[fk,uH];omega,by omega,by unfold maxLen;omega,((2*((k+1)+1):Nat):Int),wo,?_⟩;intro ρ3 w3 r3;have hU:U (pk ds ((k+1)+1))=U (pk ds (k+1))++[.int .u32 (dd:Int)]:=by rw[hpk];simp[U]
    exact⟨((k+1)+1,w3),⟨hw.tr r3.cM,by dsimp only;omega⟩,Sub.gn [(2,4)] r3 ⟨by dsimp only;rw[hU];rfl,rfl,rfl,trivial⟩,by dsimp only;omega⟩
   ·have h2:(2*(k+1))+1=ds.length:=by
     have:=aH h2;omega
    have hg1:ds.getD (2*(k+1)+1) 0=0:=by show ds.getD ((2*(k+1))+1) 0=0;rw[List.getD,List.getElem?_eq_none (by omega)];rfl
    have hpk:=xE ds (k+1);rw[hg0,hg1]at hpk;obtain⟨dd,hdde⟩:∃dd,dd=d0:=⟨_,rfl⟩
    rw[<-hdde]at hpk ⊢;have hdd:dd<4294967296:=by omega
    rw[show dd+65536*0=dd by omega]at hpk;refine⟨(dd:Int),by rw[wv]<;>omega,?_⟩;refine .inl ?_;refine⟨by rw[fk,uH];omega,by omega,by unfold maxLen;omega,((2*((k+1)+1):Nat):Int),wo,?_⟩;intro ρ3 w3 r3;have hU:U (pk ds ((k+1)+1))=U (pk ds (k+1))++[.int .u32 (dd:Int)]:=by rw[hpk];simp[U]
    exact⟨((k+1)+1,w3),⟨hw.tr r3.cM,by dsimp only;omega⟩,Sub.gn [(2,4)] r3 ⟨by dsimp only;rw[hU];rfl,rfl,rfl,trivial⟩,by dsimp only;omega⟩
  ·have h1:ds.length<=2*(k+1):=by
    have:=aH h1;omega
   have hk:k+1=(ds.length+1) / 2:=by omega
   have hpk:pk ds (k+1)=gN ds:=by rw[hk];exact IN ds
   have hlen:=uH ds (k+1);have hlm:=IP hd (k+1);rw[<-hpk];obtain⟨ls,hls⟩:∃ls,ls=pk ds (k+1):=⟨_,rfl⟩
   rw[<-hls]at hlen hlm ⊢
   refine⟨by show(U (pk ds (k+1))).length=_;rw[<-hls,fk,hlen];simp,Nat×World,fun z=>⟨[(2,.o (.p 0 0)),(3,.o (.p 1 0)),(6,.o (.v (.int .i64 z.1)))],[(2,.vec T.uint32 1 (U ls)),(1,.box T.Int [.v (.bool false),.w 2 (k+1)]),(0,.box T.Int [.v (.bool false),.v (.slice none 0 0)])],3,[],z.2⟩,fun z=>z.1,
    fun z=>cV w.heap.size w z.2∧z.1<=k+1∧dg (ls.take z.1)=dg ls,?_,?_⟩
   ·intro O w' r;exact⟨(k+1,w'),⟨hw.tr r.cM,aG _,by dsimp only;rw[List.take_of_length_le (by omega)]⟩,Sub.gn [] r ⟨by dsimp only;rw[hls];rfl,rfl,rfl,trivial⟩⟩
   rintro⟨n,w2⟩ ⟨hw,hn,htr⟩;dsimp only at hw hn htr ⊢
   cases n with
   |zero=>
    refine⟨by rw[fk,hlen];simp,⟨by omega,by omega⟩,0,by rfl,?_⟩;intro ρe we re;refine⟨_,rfl,hw.tr re.cM,_,rfl,?_⟩;have:=re.JI (id:=2) (m:=0) rfl (aP _) hlm (by omega);rw[<-htr];exact this.cI fun g hg=>.inr hg
   |succ n=>
    obtain⟨x,hx⟩:∃x,ls[n]? =some x:=⟨_,aB (by omega)⟩
    refine dI.mk (fun hp=>?_) (fun hp=>absurd (aH hp) (by omega));refine⟨(n:Int),wo,by rw[fk,hlen];simp,by omega,.int .u32 (x:Int),by simpa using tP hx,?_⟩;refine dI.mk (fun h0=>?_) (fun h0=>?_)
    ·have h0:x=0:=by have:=eq_of_beq h0;omega
     subst h0;refine⟨(n:Int),wo,?_⟩;intro ρ3 w3 r3;exact⟨(n,w3),⟨hw.tr r3.cM,by dsimp only;omega,by dsimp only;rw[<-htr,FP (by omega) hx]⟩,Sub.gn [] r3,by dsimp only;omega⟩
    ·have h0:x≠0:=fun e=>by rw[e]at h0;exact absurd h0 (by decide)
     refine⟨by rw[fk,hlen];simp,⟨by omega,by omega⟩,n+1,by rfl,?_⟩;intro ρe we re;refine⟨_,rfl,hw.tr re.cM,_,rfl,?_⟩;have:=re.JI (id:=2) (m:=n+1) rfl (by omega) hlm (by omega);rw[<-htr,FQ hx h0];exact this.cI fun g hg=>.inr hg
end Go.Ex
namespace Go.Ex
open Go Go.Sx Go.Proofs
variable{H:Hp}{z:Int}{iv:Iv}{cs:List Int}{ds ls:List Nat}{xs:List Value}{B i nx:Nat}{S:Nat->Prop}{O:Nat->Sx.df}{v:Value}{w:World}
theorem td{w' w2:World}{v':Value}(hc:FO iv v)(r:Rel H nx iv B w O w')(hob:∀g,v'.ownBlock=some g->g<w2.heap.size∧(v.ownBlock=some g∨g=w'.heap.size)):
  ∀lo hi,(lo,hi)∈qt v'->hi<=w2.heap.size∧∀id b,dA H id=some b->(O id).nil=false->¬(lo<=(O id).g∧(O id).g<hi):=fun lo hi hm=>by
 obtain⟨hg,rfl⟩:=BI.1 hm;obtain⟨h1,h2⟩:=hob _ hg;refine⟨by omega,fun id c hc' hn he=>?_⟩;rcases h2 with h2|h2
 ·exact hc.not r h2 id c hc' hn (by omega)
 ·have:=(r.low id c hc' hn).2;omega
theorem dH.out{w1 w':World}(h:dH w1 (Cv S w.heap.size iv) v ls)(r:Rel H nx iv w.heap.size w1 O w')(hS:Old S w):dH w' (Nw S w w') v ls:=
 (dH.rel h r hS).cI fun _ hg=>Cv.nw hg r
theorem GJ{B' e sz m:Nat}(h:w.ownsRow B e sz v m xs)(hb:B'<=B):w.ownsRow B' e sz v m xs:=⟨h.1,h.2.imp id fun⟨g,cap,cur,k1,k2,k3⟩=>⟨g,cap,cur,k1,by omega,k3⟩⟩
theorem te(a b:List Nat):dy (a++b)=dy a++dy b:=by simp[dy]
theorem qJ{m:Nat}(h:w.ownsRow B T.int 1 v m (cs.map (Value.int .i64)))(hm:m=cs.length)(hl:m<=maxLen):di w (fun g=>v.ownBlock=some g) v cs:=by
 subst hm;rcases h.2 with⟨rfl,h0⟩|⟨g,cap,cur,rfl,hb,hc,hmc,hcap,hsz,htake⟩
 ·have:cs=[]:=List.eq_nil_of_length_eq_zero h0;subst this;exact⟨by simp[maxLen],by simp,by simp,none,0,rfl,aG _,by simp⟩
 ·refine⟨hl,h.1,fun u hu=>by simp at hu;obtain⟨_,_,rfl⟩:=hu;rfl,_,cap,rfl,hmc,fun j u hu=>⟨_,rfl,rfl,?_⟩⟩;exact h.cells (g:=g) rfl j u hu
theorem Dg.append{a b:List Nat}(ha:Dg a)(hb:Dg b):Dg (a++b):=fun x hx=>(bQ.1 hx).elim (ha x) (hb x)
theorem ve(a b:List Nat):lF (a++b)=lF a+up a.length*lF b:=by
 unfold lF;rw[List.map_append,zh,aL]
theorem zT(hd:Dg ds):Nz (dg (gN ds))∧(val (dg (gN ds)):Int)=lF ds:=by
 obtain⟨h1,h2,_⟩:=yU ds hd;obtain⟨k1,k2,_⟩:=e8 (gN ds);exact⟨k2,by rw[k1,h1]⟩
theorem uo(hS:Old S w)(h:di w S v cs)(hb:∀c∈cs,-1152921504606846976<=c∧c<=1152921504606846976)(hl:cs.length<=100000000):
  dm PG N.ja #[v] w (eB w fun v' w2=>dC w2 (Nf w w2) v' (dJ cs)):=by
 obtain⟨a,c,rfl,hc⟩:=h.shape;obtain⟨hspec,hdg,hdl⟩:=kG cs 0;obtain⟨hk1,hk2⟩:=j9 cs 0 hb (by decide) (by decide);rw[Int.add_zero]at hspec;refine uV (by simp) ?_;refine cC (cL (Φ:=fun _ w' v' w2=>∃o,v'= .tuple #[o,.int .i64 (dT cs 0).2]∧w2.ownsRow w'.heap.size T.int 1 o cs.length ((dy (dT cs 0).1).map (Value.int .i64))) (fun O w' r=>BL (oS hS r) (di.cG h fun g hg=>Rel.same (S:=S) r hS (.inl hg)) hb (by omega)) ?_);rintro O wa v1 wb r he hw ⟨o,rfl,hrow⟩;have hrowc:FO [(wa.heap.size,wb.heap.size)] o:=fun g hg=>⟨_,_,bD.2 rfl,(ownsRow.low hrow g hg).1,(ownsRow.low hrow g hg).2⟩
 replace hrow:=GJ hrow r.cD;generalize [(wa.heap.size,wb.heap.size)]=iv at*
 generalize hds:(dT cs 0).1=ds at*
 generalize hk:(dT cs 0).2=k at*
 obtain⟨ao,co,rfl,hco⟩:=jL hrow;refine dI.mk (fun hneg=>?_) (fun hneg=>?_)
 ·have hneg:=aI hneg;have hV:dJ cs<0:=by
   have h1:=(yT hdg).2;rw[hdl]at h1;have h2:=IM cs.length;have h3:up cs.length*k<=up cs.length*(-1):=Int.mul_le_mul_of_nonneg_left (by omega) (by omega);omega
  obtain⟨hspec2,hdg2',hdl2⟩:=kG (cs.map (- ·)) 0;have hb2:∀c∈cs.map (- ·),-1152921504606846976<=c∧c<=1152921504606846976:=fun c hc=>by
   obtain⟨x,hx,rfl⟩:=aT.1 hc;have:=hb x hx;omega
  obtain⟨hk1',hk2'⟩:=j9 (cs.map (- ·)) 0 hb2 (by decide) (by decide);rw[Int.add_zero,Eb,aL]at hspec2;rw[aL]at hdl2;have hk0:0<=(dT (cs.map (- ·)) 0).2:=by
   have h1:=(yT hdg2').2;rw[hdl2]at h1;have h2:=IM cs.length;apply Decidable.byContradiction;intro h3;have h4:up cs.length*(dT (cs.map (- ·)) 0).2<=up cs.length*(-1):=Int.mul_le_mul_of_nonneg_left (by omega) (by omega);omega
  refine⟨Nat×World,fun z=>⟨[(0,.o (.v (.slice a cs.length c))),(2,.o (.p 0 0)),(3,.o (.v (.slice ao cs.length co))),(5,.o (.v (.int .i64 z.1)))],[(0,.box T.Int [.v (.bool false),.v (.slice none 0 0)])],1,iv,z.2⟩,fun z=>cs.length-z.1,
   fun z=>z.1<=cs.length∧cV w.heap.size w z.2∧z.2.ownsRow w.heap.size T.int 1 (.slice ao cs.length co) cs.length (((cs.take z.1).map (- ·)++(dy ds).drop z.1).map (Value.int .i64)),?_,?_⟩
  ·intro O w' r;exact⟨(0,w'),⟨by simp,hw.tr r.cM,by simpa using ir hrow hrowc r⟩,Sub.gn [] r⟩
  rintro⟨i,w1⟩ ⟨hi,hw,hrow⟩;dsimp only at hi hw hrow ⊢;have hR:di w1 S (.slice a cs.length c) cs:=di.cG h fun g hg=>hw.block g (hS g hg);refine dI.mk (fun hib=>?_) (fun hib=>?_)
  ·have hib:i<cs.length:=by simpa using hib
   obtain⟨x,hx⟩:∃x,cs[i]? =some x:=⟨_,aB hib⟩
   obtain⟨hx1,hx2⟩:=hb x (aD hx);obtain⟨ad,rfl,q1,q2⟩:=hR.load hx;obtain⟨go,hgo⟩:∃g,ao=some ⟨g,0,none⟩:=by
    rcases hrow.2 with⟨_,h0⟩|⟨g,cap,cur,e,_⟩
    ·omega
    ·injection e with e;exact⟨g,e⟩
   subst hgo;refine⟨ad,rfl,by omega,.int .i64 x,fun O w' r=>?_,?_⟩
   ·rw[aF,cH (w:=w1) (w2:=w') (by rw[dQ];exact Rel.same (S:=S) r hS (.inl q1))];exact q2
   refine⟨-x,wo,⟨go,0,none⟩,rfl,by omega,?_⟩;intro O w' r;have hrow3:=ir hrow hrowc r;obtain⟨g',hg',hok,hst,hgr,hsz⟩:=oY (nv:=[.int .i64 (-x)]) hrow3 rfl hib rfl (by decide);injection hg' with hg';injection hg' with hg';subst hg';rw[KL (by rw[aL,List.length_append,aL,aY,List.length_drop,eY,hdl];omega)]at hst;have had:(⟨go,0,none⟩:Addr).add ((i:Int).toNat*1)=⟨go,i*1,none⟩:=by rw[aF,dP,aV]
   have hnot:=fun id b hb hn=>hrowc.not r (b:=go) rfl id b hb hn;have hgoB:=(ownsRow.low hrow go rfl).1;have hw':cV w.heap.size w (setCells w' ⟨go,i*1,none⟩ [.int .i64 (-x)]):=(hw.tr r.cM).tr (cV.grown hgr (fun g hg=>by injection hg with hg;subst hg;exact hgoB) r.cD);have hlist:(((cs.take i).map (- ·)++(dy ds).drop i).map (Value.int .i64)).set i (.int .i64 (-x))=((cs.take (i+1)).map (- ·)++(dy ds).drop (i+1)).map (Value.int .i64):=by
    rw[<-List.map_set];congr 1;have hl1:((cs.take i).map (- ·)).length=i:=by rw[aL,aY];omega
    obtain⟨d,hd⟩:∃d,(dy ds)[i]? =some d:=⟨_,aB (by rw[eY,hdl];exact hib)⟩
    have hd2:(dy ds).drop i=d::(dy ds).drop (i+1):=by
     rw[List.drop_eq_getElem_cons (by rw[eY,hdl];exact hib)];congr 1;have:=aB (l:=dy ds) (i:=i) (by rw[eY,hdl];exact hib);rw[hd]at this;injection this with this;exact this.symm
    rw[List.take_add_one,hx,List.map_append,hd2,List.set_append_right _ _ (by omega),hl1,bM];simp
   refine⟨by rw[had],fun j hj=>by rw[had];exact hok j hj,fun id b hb hn=>by rw[had];exact hnot id b hb hn,fun w2 hw2=>?_⟩;have hw2:w2=setCells w' ⟨go,i*1,none⟩ [.int .i64 (-x)]:=by rw[hw2];exact congrArg (fun x=>setCells w' x _) had
   rw[<-hw2]at hst hw'
   erw [hlist]at hst
   refine⟨((i+1:Nat):Int),wo,?_⟩;intro ρ3 w3 r3;exact⟨(i+1,w3),⟨hib,hw'.tr r3.cM,ir hst hrowc r3⟩,Sub.gn [] r3,by dsimp only;omega⟩
  have hib:i=cs.length:=by
   have:¬i<cs.length:=by simpa using hib
   omega
  subst hib;rw[bE,List.drop_of_length_le (by rw[eY,hdl];exact aG _),List.append_nil]at hrow;refine⟨⟨by omega,by omega,by omega⟩,ao,cs.length,co,D3 ao co,by omega,by omega,?_⟩;refine cC (cL (Φ:=fun _ w' v' w2=>∃o,v'= .tuple #[o,.int .i64 (dT (cs.map (- ·)) 0).2]∧w2.ownsRow w'.heap.size T.int 1 o cs.length ((dy (dT (cs.map (- ·)) 0).1).map (Value.int .i64))) (fun O w' r=>?_) ?_)
  ·have h8:=ir hrow hrowc r;have h9:=qJ h8 (by rw[aL]) (by unfold maxLen;omega);have h10:=BL (fun g hg=>(ownsRow.low h8 g hg).2) h9 hb2 (by rw[aL];omega);rw[aL]at h10;exact h10
  rintro O wc v1 wd r he hbb ⟨o2,rfl,hrow2⟩;have hrow2c:FO ((wc.heap.size,wd.heap.size)::iv) o2:=fun g hg=>⟨_,_,aJ,(ownsRow.low hrow2 g hg).1,(ownsRow.low hrow2 g hg).2⟩
  replace hrow2:=GJ hrow2 r.cD;replace hw:=hw.tr hbb;generalize (wc.heap.size,wd.heap.size)::iv=iv2 at*
  generalize hds2:(dT (cs.map (- ·)) 0).1=ds2 at*
  generalize hkk2:(dT (cs.map (- ·)) 0).2=k2 at*
  obtain⟨kn,rfl⟩:∃kn:Nat,k2=kn:=⟨k2.toNat,by omega⟩
  obtain⟨ao2,co2,rfl,hco2⟩:=jL hrow2;have ds2_len:ds2.length=cs.length:=hdl2;have ds2_dg:Dg ds2:=hdg2';refine cC (cL (Φ:=fun _ w' v w2=>di w2 (Nf w' w2) v (dy (dB kn))) (fun O w' r=>by exact Dx kn w' (by omega)) ?_);rintro O ws vs wt r he hb hsp;have hspN:di wt (Cf w ((ws.heap.size,wt.heap.size)::iv2)) vs (dy (dB kn)):=di.cI hsp fun g hg=>hg.c9 r.cD aJ;replace hrow2:=ownsRow.cG (ir hrow2 hrow2c r) fun g hg=>he.block g (by have:=(ownsRow.low (ir hrow2 hrow2c r) g hg).2;exact this);replace hrow2c:FO ((ws.heap.size,wt.heap.size)::iv2) _:=hrow2c.mono fun p hp=>aC _ hp;replace hw:=hw.tr hb;generalize (ws.heap.size,wt.heap.size)::iv2=qV at*
  obtain⟨asp,csp,rfl,-⟩:=hspN.shape;rw[eY]at hspN ⊢;have hsl:=jA (n:=kn) (k:=4) (by omega);have hsd:=(kI kn).2
  refine .inr (xV hτ (aG _) (xs:=(dy ds2).map (Value.int .i64)) (news:=(dy (dB kn)).map (Value.int .i64)) (m:=cs.length) (k:=(dB kn).length) (by rfl) (by rfl) (by decide) (by rfl) (by rfl) (fun O w' r=>⟨ir hrow2 hrow2c r,fun g hg=>hrow2c.not r hg⟩) (by simp[dy]) (by intro u hu;simp at hu;obtain⟨_,_,rfl⟩:=hu;rfl) (by unfold maxLen;omega) (by omega)
   (fun O w' r=>?_) (fun v' w2=>qt v') (fun O w' v' w2 r hsz hob=>td hrow2c r hob) (fun O w' v' w2 r h5 h6 h7=>?_))
  ·obtain⟨_,_,_,a2,c2,e2,_,e3⟩:=hspN;injection e2 with e4 e5 e6;subst e4 e6
   cases asp with
   |none=>
    have h0:(dB kn).length=0:=by
     rcases bJ (dB kn).length with h0|h0
     ·exact h0
     ·obtain⟨ad2,q1,_⟩:=e3 0 _ (aB (show 0<((dy (dB kn)).map (Value.int .i64)).length by simp[dy];exact h0))
      cases q1
    exact .inl ⟨csp,by rw[h0];rfl,h0⟩
   |some ad3=>
    refine .inr ⟨ad3,csp,rfl,fun j u hu=>?_⟩;obtain⟨ad2,q1,q2,q3⟩:=e3 j u hu;injection q1 with q1;subst q1;rw[cH (w:=wt) (w2:=w') (by rw[dQ];exact Rel.same r (cB w) q2)];exact q3
  replace hw:cV w.heap.size w w2:=(hw.tr r.cM).tr (cV.grown h6 (fun g hg=>by
   have:=(ownsRow.low hrow2 g hg).1;omega) r.cD)
  have hcat:(dy ds2).map (Value.int .i64)++(dy (dB kn)).map (Value.int .i64)=(dy (ds2++dB kn)).map (Value.int .i64):=by rw[te,List.map_append]
  rw[hcat]at h5;have hnl:cs.length+(dB kn).length=(dy (ds2++dB kn)).length:=by rw[eY,List.length_append,ds2_len]
  have hdg2:Dg (ds2++dB kn):=ds2_dg.append hsd;have hl2:(ds2++dB kn).length<=1000000000:=by rw[List.length_append,ds2_len];omega
  obtain⟨a3,c3,rfl,-⟩:=jL h5;refine cC (cL (Φ:=fun _ w' v' w2=>∃lv,v'= .agg #[.bool false,lv]∧dH w2 (Nf w' w2) lv (dg (gN (ds2++dB kn)))) (fun O w' r=>?_) ?_)
  ·have h8:=ir h5 (FO.row _) r;have h9:=qJ h8 hnl (by unfold maxLen;omega);have h10:=Dy (w:=w') (fun g hg=>(ownsRow.low h8 g hg).2) h9 hdg2 hl2;exact h10
  rintro O wp v1 wq r he hb ⟨lv,rfl,hL⟩;have hLN:=hL.c9 (S:=fun _=>False) r.cD (iv:=[(wp.heap.size,wq.heap.size)]) aJ;have hLN:dH wq (Cf w ((wp.heap.size,wq.heap.size)::qt (.slice a3 (cs.length+(dB kn).length) c3))) lv (dg (gN (ds2++dB kn))):=hL.cI fun g hg=>hg.c9 r.cD aJ;replace hw:=hw.tr hb;generalize (wp.heap.size,wq.heap.size)::qt (.slice a3 (cs.length+(dB kn).length) c3)=ivq at*
  obtain⟨hnz,hvv⟩:=zT hdg2;obtain⟨a4,n4,c4,rfl⟩:=hLN.shape;have hcv: -dJ cs=lF (ds2++dB kn):=by rw[hspec2,ve,(kI kn).1,ds2_len]
  obtain⟨pp,hpe,hpp⟩:=hLN.la;injection hpe with hpe1 hpe2 hpe3;subst hpe1 hpe2 hpe3;have hlenpos:0<pp.ls.length:=by
   rw[hpp];rcases bJ (dg (gN (ds2++dB kn))).length with h0|h0
   ·rw[List.eq_nil_of_length_eq_zero h0]at hvv;simp[val]at hvv;omega
   ·exact h0
  intro ρe we re;refine⟨_,rfl,hw.tr re.cM,dg (gN (ds2++dB kn)),⟨_,?_,hLN.out re (cB w)⟩,hnz,?_⟩
  ·rw[bR hV];have:decide ((pp.ls.length:Int)>0)=true:=bR (by omega);rw[<-this];rfl
  ·have:((val (dg (gN (ds2++dB kn))):Nat):Int)= -dJ cs:=by rw[hvv,hcv]
   omega
 ·have hneg:=aH hneg;obtain⟨kn,rfl⟩:∃kn:Nat,k=kn:=⟨k.toNat,by omega⟩
  have ds_len:ds.length=cs.length:=hdl;have ds_dg:Dg ds:=hdg;refine cC (cL (Φ:=fun _ w' v w2=>di w2 (Nf w' w2) v (dy (dB kn))) (fun O w' r=>by exact Dx kn w' (by omega)) ?_);rintro O ws vs wt r he hb hsp;have hspN:di wt (Cf w ((ws.heap.size,wt.heap.size)::iv)) vs (dy (dB kn)):=di.cI hsp fun g hg=>hg.c9 r.cD aJ;replace hrow:=ownsRow.cG (ir hrow hrowc r) fun g hg=>he.block g (by have:=(ownsRow.low (ir hrow hrowc r) g hg).2;exact this);replace hrowc:FO ((ws.heap.size,wt.heap.size)::iv) _:=hrowc.mono fun p hp=>aC _ hp;replace hw:=hw.tr hb;generalize (ws.heap.size,wt.heap.size)::iv=qV at*
  obtain⟨asp,csp,rfl,-⟩:=hspN.shape;rw[eY]at hspN ⊢;have hsl:=jA (n:=kn) (k:=4) (by omega);have hsd:=(kI kn).2
  refine .inr (xV hτ (aG _) (xs:=(dy ds).map (Value.int .i64)) (news:=(dy (dB kn)).map (Value.int .i64)) (m:=cs.length) (k:=(dB kn).length) (by rfl) (by rfl) (by decide) (by rfl) (by rfl) (fun O w' r=>⟨ir hrow hrowc r,fun g hg=>hrowc.not r hg⟩) (by simp[dy]) (by intro u hu;simp at hu;obtain⟨_,_,rfl⟩:=hu;rfl) (by unfold maxLen;omega) (by omega)
   (fun O w' r=>?_) (fun v' w2=>qt v') (fun O w' v' w2 r hsz hob=>td hrowc r hob) (fun O w' v' w2 r h5 h6 h7=>?_))
  ·obtain⟨_,_,_,a2,c2,e2,_,e3⟩:=hspN;injection e2 with e4 e5 e6;subst e4 e6
   cases asp with
   |none=>
    have h0:(dB kn).length=0:=by
     rcases bJ (dB kn).length with h0|h0
     ·exact h0
     ·obtain⟨ad2,q1,_⟩:=e3 0 _ (aB (show 0<((dy (dB kn)).map (Value.int .i64)).length by simp[dy];exact h0))
      cases q1
    exact .inl ⟨csp,by rw[h0];rfl,h0⟩
   |some ad3=>
    refine .inr ⟨ad3,csp,rfl,fun j u hu=>?_⟩;obtain⟨ad2,q1,q2,q3⟩:=e3 j u hu;injection q1 with q1;subst q1;rw[cH (w:=wt) (w2:=w') (by rw[dQ];exact Rel.same r (cB w) q2)];exact q3
  replace hw:cV w.heap.size w w2:=(hw.tr r.cM).tr (cV.grown h6 (fun g hg=>by
   have:=(ownsRow.low hrow g hg).1;omega) r.cD)
  have hcat:(dy ds).map (Value.int .i64)++(dy (dB kn)).map (Value.int .i64)=(dy (ds++dB kn)).map (Value.int .i64):=by rw[te,List.map_append]
  rw[hcat]at h5;have hnl:cs.length+(dB kn).length=(dy (ds++dB kn)).length:=by rw[eY,List.length_append,ds_len]
  have hdg2:Dg (ds++dB kn):=ds_dg.append hsd;have hl2:(ds++dB kn).length<=1000000000:=by rw[List.length_append,ds_len];omega
  obtain⟨a3,c3,rfl,-⟩:=jL h5;refine cC (cL (Φ:=fun _ w' v' w2=>∃lv,v'= .agg #[.bool false,lv]∧dH w2 (Nf w' w2) lv (dg (gN (ds++dB kn)))) (fun O w' r=>?_) ?_)
  ·have h8:=ir h5 (FO.row _) r;have h9:=qJ h8 hnl (by unfold maxLen;omega);have h10:=Dy (w:=w') (fun g hg=>(ownsRow.low h8 g hg).2) h9 hdg2 hl2;exact h10
  rintro O wp v1 wq r he hb ⟨lv,rfl,hL⟩;have hLN:=hL.c9 (S:=fun _=>False) r.cD (iv:=[(wp.heap.size,wq.heap.size)]) aJ;have hLN:dH wq (Cf w ((wp.heap.size,wq.heap.size)::qt (.slice a3 (cs.length+(dB kn).length) c3))) lv (dg (gN (ds++dB kn))):=hL.cI fun g hg=>hg.c9 r.cD aJ;replace hw:=hw.tr hb;generalize (wp.heap.size,wq.heap.size)::qt (.slice a3 (cs.length+(dB kn).length) c3)=ivq at*
  obtain⟨hnz,hvv⟩:=zT hdg2;obtain⟨a4,n4,c4,rfl⟩:=hLN.shape;intro ρe we re;have hcv:dJ cs=lF (ds++dB kn):=by rw[hspec,ve,(kI kn).1,ds_len]
  refine⟨_,rfl,hw.tr re.cM,dg (gN (ds++dB kn)),⟨_,?_,hLN.out re (cB w)⟩,hnz,?_⟩
  ·have:¬dJ cs<0:=by rw[hcv,<-hvv];omega
   rw[bF this];rfl
  ·rw[hcv,<-hvv];rfl
theorem Lg(n:Int):dJ [n.tmod 65536,(n.tdiv 65536).tmod 65536,(n.tdiv 65536).tdiv 65536]=n:=by
 simp only[dJ]
 have h1:=Int.mul_tdiv_add_tmod n 65536;have h2:=Int.mul_tdiv_add_tmod (n.tdiv 65536) 65536;omega
theorem kB(n:Int)(w:World)(h1: -9223372036854775808<=n)(h2:n<=9223372036854775807):
  dm PG N.DW #[.int .i64 n] w (eB w fun v w2=>dC w2 (Nf w w2) v n):=by
 refine DY (by simp) ?_;have b1:=uj n;have b2:=uj (n.tdiv 65536);have e1:=Int.mul_tdiv_add_tmod n 65536;have e2:=Int.mul_tdiv_add_tmod (n.tdiv 65536) 65536;have hsum:=Lg n;refine⟨by decide,n.tmod 65536,rfl,by decide,n.tdiv 65536,wo,by decide,_,rfl,by decide,n.tdiv 65536,wo,by decide,(n.tdiv 65536).tdiv 65536,wo,?_⟩;generalize n.tmod 65536=c0 at*
 generalize (n.tdiv 65536).tmod 65536=c1 at*
 generalize (n.tdiv 65536).tdiv 65536=c2 at*
 refine cC (cL (Φ:=fun _ w' v w2=>dC w2 (Nf w' w2) v n) (fun O w' r=>?_) ?_)
 ·rw[<-hsum];have ha:=r.pV (id:=1) (sz:=1) (n:=3) rfl rfl (by decide) (by intro u hu;simp at hu;rcases hu with rfl|rfl|rfl<;>rfl)
  exact uo (S:=fun g=>g=(O 1).g) (fun g hg=>by rw[hg];exact(r.low 1 _ rfl (r.nn 1 _ rfl (by intros;simp) (by simp))).2) (cs:=[c0,c1,c2]) ha (by
   intro c hc;simp at hc
   rcases hc with rfl|rfl|rfl<;>omega) (by simp)
 rintro O wa v1 wb r he hb hI;have hI:=hI.c9 (S:=fun _=>False) r.cD (iv:=(wa.heap.size,wb.heap.size)::[]) aJ;generalize (wa.heap.size,wb.heap.size)::[]=iv at*
 obtain⟨b,a,m,c,rfl⟩:=hI.shape;intro ρe we re;exact⟨_,rfl,hb.tr re.cM,hI.out re (cB w)⟩
def jR(z:Int):Value:=if z.natAbs<1073741824 then .tuple #[.int .i64 z,.bool true]else .tuple #[.int .i64 0,.bool false]
theorem jF.Dz(h:jF w S v z):∃b a ls c,v= .agg #[.bool b,.slice a ls.length c]∧dH w S (.slice a ls.length c) ls∧sg b (val ls)=z:=by
 obtain⟨b,ls,⟨lv,h1,h2⟩,h3⟩:=h;obtain⟨a,c,rfl,_⟩:=h2.sl;exact⟨b,a,ls,c,h1,h2,h3⟩
theorem KM{x:Nat}(h:ls[i]? =some x):wt i*x<=val ls:=by
 have hi:=(aE.1 h).1;have h1:=eV ls (i+1) hi;rw[dY h]at h1;omega
theorem MP(h:0<i):4294967296<=wt i:=by
 obtain⟨k,rfl⟩:∃k,i=k+1:=⟨i-1,by omega⟩
 have:=xc k;rw[iL];omega
theorem mm(hS:Old S w)(hI:jF w S v z):
  dm PG N.vQ #[v] w (eB w fun v' _=>v'=jR z):=by
 obtain⟨b,a,ls,c,rfl,hL,hz⟩:=hI.Dz;refine yt (by simp) ?_;have hlen:=hL.le
 refine⟨Nat×World,fun y=>⟨[(1,.o (.p 0 0)),(4,.o (.v (.int .i64 (val (ls.take y.1))))),(5,.o (.v (.int .i64 y.1)))],[(0,.box T.Int [.v (.bool b),.v (.slice a ls.length c)])],1,[],y.2⟩,fun y=>ls.length-y.1,
  fun y=>y.1<=ls.length∧cV w.heap.size w y.2∧val (ls.take y.1)<1073741824∧(∀j,0<j->j<y.1->ls[j]? =some 0),?_,?_⟩
 ·intro O w' r;exact⟨(0,w'),⟨by simp,r.cM,by simp[val],by omega⟩,Sub.gn [] r⟩
 rintro⟨i,w1⟩ ⟨hi,hw,hv,h0⟩;dsimp only at hi hw hv h0 ⊢;refine dI.mk (fun hib=>?_) (fun hib=>?_)
 ·have hib:i<ls.length:=by simpa using hib
  obtain⟨a',c',e,_,hcell⟩:=hL.sl;injection e with e1 e2 e3;subst e1 e3;obtain⟨x,hx⟩:∃x,ls[i]? =some x:=⟨_,aB hib⟩
  have hx32:=hL.lm x (aD hx);obtain⟨ad,rfl,q1,q2⟩:=hcell i x hx;have hld:∀{H nx iv O w'},Rel H nx iv w.heap.size w1 O w'->w'.cell? (ad.add ((i:Int).toNat*1))=some (.int .u32 x):=fun r=>by
   rw[aF,aU];exact jX hS hw r q1 q2
  have hge:=KM hx;refine dI.mk (fun hp=>?_) (fun hp=>?_)
  ·have hp:0<i:=by
    have:(i:Int)>0:=aI hp;omega
   have hw1:=MP hp;refine⟨ad,rfl,by omega,.int .u32 x,fun O w' r=>hld r,?_⟩;refine dI.mk (fun hne=>?_) (fun hne=>?_)
   ·have hne:x≠0:=by simpa using hne
    intro ρe we re;refine⟨_,rfl,hw.tr re.cM,?_⟩;have:¬z.natAbs<1073741824:=by
     have:=Nat.mul_le_mul hw1 (show 1<=x by omega);rw[<-hz,rz];omega
    show _=jR z;rw[jR,aK this];rfl
   ·have hne:x=0:=by simpa using hne
    subst hne;refine⟨ad,rfl,by omega,.int .u32 0,fun O w' r=>hld r,?_⟩;have hnx:val (ls.take (i+1))=val (ls.take i):=by rw[dY hx];omega
    have hv2:val (ls.take (i+1))<1073741824:=by rw[hnx];exact hv
    have h02:∀j,0<j->j<i+1->ls[j]? =some 0:=fun j h1 h2=>by
     rcases aQ j i with h3|h3
     ·exact h0 j h1 h3
     ·have:j=i:=by omega
      rw[this];exact hx
    refine⟨ad,rfl,by omega,.int .u32 0,fun O w' r=>hld r,((0:Nat):Int),by decide,((val (ls.take (i+1)):Nat):Int),by rw[hnx,wrap64]<;>omega,((i+1:Nat):Int),wo,?_⟩;intro ρ3 w3 r3;exact⟨(i+1,w3),⟨hib,hw.tr r3.cM,hv2,h02⟩,Sub.gn [] r3,by dsimp only;omega⟩
  ·have hp:i=0:=by
    have:¬((i:Int)>0):=aH hp;omega
   subst hp;refine⟨ad,rfl,by omega,.int .u32 x,fun O w' r=>hld r,?_⟩;refine dI.mk (fun hbig=>?_) (fun hbig=>?_)
   ·have hbig:=aI hbig;intro ρe we re;refine⟨_,rfl,hw.tr re.cM,?_⟩;have:¬z.natAbs<1073741824:=by
     rw[<-hz,rz];rw[im]at hge;omega
    show _=jR z;rw[jR,aK this];rfl
   ·have hbig:=aH hbig;have hnx:val (ls.take (0+1))=x:=by rw[dY hx];simp[val,im]
    have hv2:val (ls.take (0+1))<1073741824:=by rw[hnx];omega
    have h02:∀j,0<j->j<0+1->ls[j]? =some 0:=fun j h1 h2=>by
     omega
    refine⟨ad,rfl,by omega,.int .u32 x,fun O w' r=>hld r,((x:Nat):Int),wo,((val (ls.take (0+1)):Nat):Int),by rw[hnx,wrap64]<;>simp[val]<;>omega,((0+1:Nat):Int),wo,?_⟩;intro ρ3 w3 r3;exact⟨(0+1,w3),⟨hib,hw.tr r3.cM,hv2,h02⟩,Sub.gn [] r3,by dsimp only;omega⟩
 ·have hib:i=ls.length:=by
   have:¬i<ls.length:=by simpa using hib
   omega
  subst hib;rw[bE]at hv ⊢;have hlt:z.natAbs<1073741824:=by rw[<-hz,rz];exact hv
  cases b with
  |true=>
   refine⟨-(val ls:Int),wo,?_⟩;intro ρe we re;refine⟨_,rfl,hw.tr re.cM,?_⟩;show _=jR z;rw[jR,if_pos hlt,<-hz,Ii];rfl
  |false=>
   intro ρe we re;refine⟨_,rfl,hw.tr re.cM,?_⟩;show _=jR z;rw[jR,if_pos hlt,<-hz,LR];rfl
theorem BM{a b:Int}(hb:b≠0):a.tdiv (b.sign*(Nat.gcd a.natAbs b.natAbs:Nat))=(Rat.divInt a b).num∧b.tdiv (b.sign*(Nat.gcd a.natAbs b.natAbs:Nat))=((Rat.divInt a b).den:Int):=by
 have hg:0<Nat.gcd a.natAbs b.natAbs:=bj _ (by omega);obtain⟨k,hk⟩:((Nat.gcd a.natAbs b.natAbs:Nat):Int) ∣ a:=by rw[<-Int.natAbs_dvd_natAbs];exact Nat.gcd_dvd_left _ _
 obtain⟨l,hl⟩:((Nat.gcd a.natAbs b.natAbs:Nat):Int) ∣ b:=by rw[<-Int.natAbs_dvd_natAbs];exact Nat.gcd_dvd_right _ _
 have hc:(b.gcd a:Int)=(Nat.gcd a.natAbs b.natAbs:Nat):=by rw[Int.gcd_comm];rfl
 have hc2:b.gcd a=Nat.gcd a.natAbs b.natAbs:=by rw[Int.gcd_comm];rfl
 rw[Rat.num_divInt,Rat.den_divInt,aK hb,hc,hc2];generalize Nat.gcd a.natAbs b.natAbs=g at*
 have hgi:(g:Int)≠0:=by omega
 have hs:b.sign*b.sign=1:=by
  rcases Int.lt_or_gt_of_ne hb with h|h
  ·rw[bZ h];rfl
  ·rw[b9 h];rfl
 have hs0:b.sign≠0:=fun e=>by rw[e]at hs;simp at hs
 have hne:b.sign*g≠0:=Int.mul_ne_zero hs0 hgi;have hab:((b.natAbs / g:Nat):Int)=b.sign*l:=by
  rw[Int.natCast_ediv,show((b.natAbs:Nat):Int)=b.sign*b by
   rcases Int.lt_or_gt_of_ne hb with h|h
   ·rw[bZ h];omega
   ·rw[b9 h];omega]
  conv=>lhs;lhs;rhs;rw[hl]
  rw[show b.sign*(↑g*l)= ↑g*(b.sign*l) by rw[<-Int.mul_assoc,<-Int.mul_assoc,Int.mul_comm b.sign]];exact Int.mul_ediv_cancel_left _ hgi
 constructor
 ·rw[show b.sign*a / (g:Int)=b.sign*k by
   conv=>lhs;lhs;rhs;rw[hk]
   rw[show b.sign*(↑g*k)= ↑g*(b.sign*k) by rw[<-Int.mul_assoc,<-Int.mul_assoc,Int.mul_comm b.sign]]
   exact Int.mul_ediv_cancel_left _ hgi]
  conv=>lhs;lhs;rw[hk,show(g:Int)*k=(b.sign*g)*(b.sign*k) by
   rw[show (b.sign* ↑g)*(b.sign*k)=(b.sign*b.sign)*(↑g*k) by simp only[Int.mul_assoc,Int.mul_comm,Int.mul_left_comm],hs,Int.one_mul]]
  exact Int.mul_tdiv_cancel_left _ hne
 ·rw[hab]
  conv=>lhs;lhs;rw[hl,show(g:Int)*l=(b.sign*g)*(b.sign*l) by
   rw[show (b.sign* ↑g)*(b.sign*l)=(b.sign*b.sign)*(↑g*l) by simp only[Int.mul_assoc,Int.mul_comm,Int.mul_left_comm],hs,Int.one_mul]]
  exact Int.mul_tdiv_cancel_left _ hne
theorem qK(a b:Int)(w:World)(ha:a.natAbs<4611686018427387904)(hb:b.natAbs<4611686018427387904)(hb0:b≠0):
  dm PG N.si #[.int .i64 a,.int .i64 b] w (eB w fun v w2=>cP w2 (Nf w w2) v (Rat.divInt a b)):=by
 refine wL (by simp) ?_;refine⟨-a,wo,-b,wo,?_⟩;conv=>whnf
 rw[show max a (-a)=(a.natAbs:Int) by omega,show max b (-b)=(b.natAbs:Int) by omega]
 refine⟨Nat×Nat×World,fun z=>⟨[(0,.o (.v (.int .i64 a))),(1,.o (.v (.int .i64 b))),(4,.o (.p 0 0)),(5,.o (.v (.int .i64 z.1))),(6,.o (.v (.int .i64 z.2.1)))],[(0,.box T.Rat [.v (.bool false),.v (.slice none 0 0),.v (.bool false),.v (.slice none 0 0)])],1,[],z.2.2⟩,fun z=>z.2.1,
  fun z=>cV w.heap.size w z.2.2∧Nat.gcd z.1 z.2.1=Nat.gcd a.natAbs b.natAbs∧z.1<4611686018427387904∧z.2.1<4611686018427387904,?_,?_⟩
 ·intro O w' r;exact⟨(a.natAbs,b.natAbs,w'),⟨r.cM,rfl,ha,hb⟩,Sub.gn [] r⟩
 rintro⟨x,y,w1⟩ ⟨hw,hg,hx,hy⟩;dsimp only at hw hg hx hy ⊢;conv=>whnf
 refine dI.mk (fun h=>?_) (fun h=>?_)
 ·have h:0<y:=by
   have:(y:Int)>0:=aI h;omega
  refine cJ hτ db [.x 0,.x 1,.x 2,.x 3,.x 4,.x 5] (by kernel_rfl) (by kernel_rfl) ?_;have hm:=bs x h;refine⟨by omega,((x % y:Nat):Int),rfl,?_⟩;intro ρ3 w3 r3;exact⟨(y,x % y,w3),⟨hw.tr r3.cM,by dsimp only;rw[<-hg,Nat.gcd_comm x y,Nat.gcd_rec y x,Nat.gcd_comm],hy,by dsimp only;omega⟩,Sub.gn [] r3,by dsimp only;omega⟩
 have h:y=0:=by
  have:¬(y:Int)>0:=aH h;omega
 subst h;rw[Nat.gcd_zero_right]at hg;have hx0:x≠0:=by rw[hg];exact Nat.pos_iff_ne_zero.1 (bj _ (by omega))
 obtain⟨hn,hd⟩:=BM (a:=a) hb0;rw[<-hg]at hn hd;have bn:(Rat.divInt a b).num.natAbs<=a.natAbs:=by rw[<-hn];exact Int.natAbs_tdiv_le_natAbs _ _
 have bd:((Rat.divInt a b).den:Int).natAbs<=b.natAbs:=by rw[<-hd];exact Int.natAbs_tdiv_le_natAbs _ _
 refine dI.mk (fun hb1=>?_) (fun hb1=>?_)
 ·have hb1:=aI hb1;rw[bZ hb1,Int.neg_one_mul]at hn hd;refine⟨-(x:Int),wo,?_⟩;refine cJ hτ db [.x 0,.x 1,.x 2,.x 4,.x 5,.x 6,.x 3,.x 7,.x 8,.x 9] (by kernel_rfl) (by kernel_rfl) ?_;refine⟨by omega,(Rat.divInt a b).num,by rw[hn,wrap64]<;>omega,by omega,((Rat.divInt a b).den:Int),by rw[hd,wrap64]<;>omega,?_⟩;refine cL (Φ:=fun _ w' v w2=>dC w2 (Nf w' w2) v (Rat.divInt a b).num) (fun O w' r=>kB _ w' (by omega) (by omega)) ?_;rintro O wa v1 wb r he hbb hI;replace hw:=hw.tr hbb;have hN:=hI.c9 (S:=fun _=>False) r.cD (iv:=(wa.heap.size,wb.heap.size)::[]) aJ;generalize (wa.heap.size,wb.heap.size)::[]=iv at*
  obtain⟨b1,a1,m1,c1,rfl⟩:=hN.shape;refine cL (Φ:=fun _ w' v w2=>dC w2 (Nf w' w2) v ((Rat.divInt a b).den:Int)) (fun O w' r=>kB _ w' (by omega) (by omega)) ?_;rintro O wa v1 wb2 r he hbb hI;replace hw:=hw.tr hbb;replace hN:=hN.cF (iv':=(wa.heap.size,wb2.heap.size)::iv) r (cB w) he fun x hx=>aC _ hx;have hD:=hI.c9 (S:=fun _=>False) r.cD (iv:=(wa.heap.size,wb2.heap.size)::iv) aJ;generalize (wa.heap.size,wb2.heap.size)::iv=iv2 at*
  obtain⟨b2,a2,m2,c2,rfl⟩:=hD.shape;intro ρe we re;exact⟨_,rfl,hw.tr re.cM,(cP.of hN hD).out re (cB w)⟩
 ·have hb1:=aH hb1;rw[b9 (by omega),Int.one_mul]at hn hd;refine cJ hτ db [.x 0,.x 1,.x 2,.x 4,.x 5,.x 6,.x 3,.x 7,.x 8,.x 9] (by kernel_rfl) (by kernel_rfl) ?_;refine⟨by omega,(Rat.divInt a b).num,by rw[hn,wrap64]<;>omega,by omega,((Rat.divInt a b).den:Int),by rw[hd,wrap64]<;>omega,?_⟩;refine cL (Φ:=fun _ w' v w2=>dC w2 (Nf w' w2) v (Rat.divInt a b).num) (fun O w' r=>kB _ w' (by omega) (by omega)) ?_;rintro O wa v1 wb r he hbb hI;replace hw:=hw.tr hbb;have hN:=hI.c9 (S:=fun _=>False) r.cD (iv:=(wa.heap.size,wb.heap.size)::[]) aJ;generalize (wa.heap.size,wb.heap.size)::[]=iv at*
  obtain⟨b1,a1,m1,c1,rfl⟩:=hN.shape;refine cL (Φ:=fun _ w' v w2=>dC w2 (Nf w' w2) v ((Rat.divInt a b).den:Int)) (fun O w' r=>kB _ w' (by omega) (by omega)) ?_;rintro O wa v1 wb2 r he hbb hI;replace hw:=hw.tr hbb;replace hN:=hN.cF (iv':=(wa.heap.size,wb2.heap.size)::iv) r (cB w) he fun x hx=>aC _ hx;have hD:=hI.c9 (S:=fun _=>False) r.cD (iv:=(wa.heap.size,wb2.heap.size)::iv) aJ;generalize (wa.heap.size,wb2.heap.size)::iv=iv2 at*
  obtain⟨b2,a2,m2,c2,rfl⟩:=hD.shape;intro ρe we re;exact⟨_,rfl,hw.tr re.cM,(cP.of hN hD).out re (cB w)⟩
theorem tf(h:z.natAbs<1073741824):jR z= .tuple #[.int .i64 z,.bool true]:=if_pos h
theorem CW{u:Value}{x y:Int}(hS:Old S w)(hx:jF w S v x)(hy:jF w S u y)(hxs:x.natAbs<1073741824)(hys:y.natAbs<1073741824)(hy0:y≠0):
  dm PG N.rU #[v,u] w (eB w fun v' w2=>cP w2 (Nf w w2) v' (Rat.divInt x y)):=by
 have hw:cV w.heap.size w w:=cV.refl;replace hx:=hx.cI (S':=Cv S w.heap.size []) fun _ h=>.inl h;replace hy:=hy.cI (S':=Cv S w.heap.size []) fun _ h=>.inl h;obtain⟨bx,ax,lx,cx,rfl⟩:=hx.shape;obtain⟨b2,ay,ly,cy,rfl⟩:=hy.shape;refine qn (by simp) ?_;refine cC (cE hw (fun _ w' v w2=>v= .tuple #[.int .i64 x,.bool true]) (fun O w' r=>(mm (Rel.old r hS) (hx.rel r hS)).mono fun e w2 ⟨v2,e1,e2,e3⟩=>⟨v2,e1,e2,by rw[e3,tf hxs]⟩) ?_);rintro O wa1 v1 wb1 iv1 r he hw h_ rfl;replace hx:=hx.cF r hS he (mC h_);replace hy:=hy.cF r hS he (mC h_);refine cC (cE hw (fun _ w' v w2=>v= .tuple #[.int .i64 y,.bool true]) (fun O w' r=>(mm (Rel.old r hS) (hy.rel r hS)).mono fun e w2 ⟨v2,e1,e2,e3⟩=>⟨v2,e1,e2,by rw[e3,tf hys]⟩) ?_);rintro O wa1 v1 wb1 iv2 r he hw h_ rfl;refine cC (cE hw (fun _ w' v w2=>cP w2 (Nf w' w2) v (Rat.divInt x y)) (fun O w' r=>qK x y w' (by omega) (by omega) hy0) ?_);rintro O wa v1 wb iv r he hw h_ hI;have hR:=hI.c9 (S:=fun _=>False) r.cD (mN h_);obtain⟨b1,a1,m1,c1,b3,a3,m3,c3,rfl⟩:=hR.shape;intro ρe we re;exact⟨_,rfl,hw.tr re.cM,hR.out re (cB w)⟩
theorem zU(n:Int):Rat.divInt n 1=(n:Rat):=by
 have:=Rat.num_divInt_den (n:Rat);rw[Rat.num_intCast,Rat.den_intCast]at this;exact this
theorem pU(n:Int)(w:World)(hn:n.natAbs<1073741824):
  dm PG N.ow #[.int .i64 n] w (eB w fun v' w2=>cP w2 (Nf w w2) v' (n:Rat)):=by
 have hw:cV w.heap.size w w:=cV.refl;refine pG (by simp) ?_;refine cC (cL (Φ:=fun _ w' v w2=>dC w2 (Nf w' w2) v n) (fun O w' r=>kB _ w' (by omega) (by omega)) ?_);rintro O wa v1 wb r he hbb hI;replace hw:=hw.tr hbb;have hN:=hI.c9 (S:=fun _=>False) r.cD (iv:=(wa.heap.size,wb.heap.size)::[]) aJ;generalize (wa.heap.size,wb.heap.size)::[]=iv at*
 obtain⟨b1,a1,m1,c1,rfl⟩:=hN.shape;refine cC (cL (Φ:=fun _ w' v w2=>dC w2 (Nf w' w2) v 1) (fun O w' r=>kB _ w' (by omega) (by omega)) ?_);rintro O wa v1 wb2 r he hbb hI;replace hw:=hw.tr hbb;replace hN:=hN.cF (iv':=(wa.heap.size,wb2.heap.size)::iv) r (cB w) he fun x hx=>aC _ hx;have hD:=hI.c9 (S:=fun _=>False) r.cD (iv:=(wa.heap.size,wb2.heap.size)::iv) aJ;generalize (wa.heap.size,wb2.heap.size)::iv=iv2 at*
 obtain⟨b2,a2,m2,c2,rfl⟩:=hD.shape;refine cC (cE hw (fun _ w' v w2=>cP w2 (Nf w' w2) v (Rat.divInt n 1)) (fun O w' r=>CW (Rel.old r (cB w)) (hN.rel r (cB w)).r (hD.rel r (cB w)).r hn (by decide) (by decide)) ?_);rintro O wa v1 wb iv r he hw h_ hI;have hR:=hI.c9 (S:=fun _=>False) r.cD (mN h_);obtain⟨b1,a1,m1,c1,b3,a3,m3,c3,rfl⟩:=hR.shape;rw[zU]at hR;intro ρe we re;exact⟨_,rfl,hw.tr re.cM,hR.out re (cB w)⟩
end Go.Ex
