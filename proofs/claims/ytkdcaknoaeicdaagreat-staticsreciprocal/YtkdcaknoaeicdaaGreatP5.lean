/- A part of the proof: texts X23 to X51. Each tells its conditions in its theorems. -/
import Derived.Test.YtkdcaknoaeicdaaGreatP2
import Derived.Test.YtkdcaknoaeicdaaGreatP3
import Derived.Test.YtkdcaknoaeicdaaGreatP4
namespace Go.Ex
open Go Go.Sx Go.Proofs
variable{xs:List Value}{n sz:Nat}{S:Nat->Prop}{v:Value}{w:World}
def qA(v:Value):Iv:=match v.ownBlock with
 |some g=>[(g,g+1)]
 |none=>[]
theorem AK{lo hi:Nat}:(lo,hi)∈qA v↔v.ownBlock=some lo∧hi=lo+1:=by
 unfold qA
 cases h:v.ownBlock with
 |none=>simp
 |some g=>simp;omega
def Dz(iv:Iv)(v:Value):Prop:=∀b,v.ownBlock=some b->∃lo hi,(lo,hi)∈iv∧lo<=b∧b<hi
section
variable{S:Nat->Prop}{H:Hp}{nx:Nat}{iv iv':Iv}{B e sz m:Nat}{w w' w2:World}{O:Nat->Sx.dS}{v v':Value}{xs:List Value}
theorem Dz.not(h:Dz iv v)(r:Rel H nx iv B w O w'){b:Nat}(hb:v.ownBlock=some b):∀id c,cX H id=some c->(O id).nil=false->(O id).g≠b:=fun id c hc hn he=>by
 obtain⟨lo,hi,h1,h2,h3⟩:=h b hb;exact r.jn lo hi h1 id c hc hn (by omega)
theorem iS(h:w.ownsRow B e sz v m xs)(hc:Dz iv v)(r:Rel H nx iv B w O w'):w'.ownsRow B e sz v m xs:=
 ownsRow.cB h fun b hb=>r.sh b (ownsRow.low h b hb).2 fun id c hc' hn he=>hc.not r hb id c hc' hn he
theorem Dz.row(v:Value):Dz (qA v) v:=fun b hb=>⟨b,b+1,AK.2 ⟨hb,rfl⟩,by omega,by omega⟩
theorem Dz.mono(h:Dz iv v)(k:∀p,p∈iv->p∈iv'):Dz iv' v:=fun b hb=>by
 obtain⟨lo,hi,h1,h2⟩:=h b hb;exact⟨lo,hi,k _ h1,h2⟩
theorem j7(h:w.ownsRow B e sz v m xs):∃a c,v= .slice a m c∧m<=c:=by
 rcases h.2 with⟨rfl,rfl⟩|⟨g,cap,cur,rfl,_,_,h1,_⟩
 ·exact⟨none,0,rfl,aE _⟩
 ·exact⟨_,cap,rfl,h1⟩
end
structure jH(w:World)(S:Nat->Prop)(sz:Nat)(v:Value)(xs:List Value)(n:Nat):Prop where
 le:n<=maxLen
 len:xs.length=n*sz
 one:∀u∈xs,u.oneCell'=true
 sl:∃a c,v= .slice a n c∧n<=c∧∀(j:Nat) u,xs[j]? =some u->∃ad,a=some ad∧S ad.block∧w.cell? (ad.add j)=some u
theorem jH.cB{w2:World}(h:jH w S sz v xs n)(hk:∀g,S g->w2.heap[g]? =w.heap[g]?):jH w2 S sz v xs n:=by
 obtain⟨h0,h1,h2,a,c,h3,h4,h5⟩:=h;refine⟨h0,h1,h2,a,c,h3,h4,fun j u hu=>?_⟩;obtain⟨ad,k1,k2,k3⟩:=h5 j u hu;exact⟨ad,k1,k2,by rw[cJ (hk _ (by rw[eA];exact k2))];exact k3⟩
theorem jH.cC{S':Nat->Prop}(h:jH w S sz v xs n)(hk:∀g,S g->S' g):jH w S' sz v xs n:=by
 obtain⟨h0,h1,h2,a,c,h3,h4,h5⟩:=h;refine⟨h0,h1,h2,a,c,h3,h4,fun j u hu=>?_⟩;obtain⟨ad,k1,k2,k3⟩:=h5 j u hu;exact⟨ad,k1,hk _ k2,k3⟩
section
variable{S S':Nat->Prop}{H:Hp}{nx:Nat}{iv iv':Iv}{B:Nat}{w w' w2:World}{O:Nat->Sx.dS}{v:Value}{sz n:Nat}{xs:List Value}
end
end Go.Ex
namespace Go.Sx
open Go Go.Ex Go.Proofs
variable{O:Nat->Sx.dS}
theorem Rel.oe{H:Hp}{nx:Nat}{iv:Iv}{B:Nat}{w w':World}(r:Rel H nx iv B w O w'){id t sz n:Nat}{cs:List At}(h:cX H id=some (.box t cs))(hl:cs.length=n*sz)(hn:n<=maxLen)(h1:∀u∈cs,(u.den O).oneCell'=true):
  jH w' (fun g=>g=(O id).g) sz (.slice (some ⟨(O id).g,0,none⟩) n n) (cs.map (At.den O)) n:=by
 refine⟨hn,by simpa using hl,fun u hu=>?_,_,_,rfl,aE _,fun j u hu=>⟨_,rfl,rfl,?_⟩⟩
 ·obtain⟨x,hx,rfl⟩:=aR.1 hu;exact h1 x hx
 ·have h0:(⟨(O id).g,0,none⟩:Addr).add j=⟨(O id).g,j,none⟩:=by
   cases j with
   |zero=>rfl
   |succ j=>simp[Addr.add]
  rw[h0,cell_of (r.box id t _ h)];exact hu
end Go.Sx
namespace Go.Ex
open Go Go.Sx Go.Proofs
theorem Hc{n:Nat}(h:n<=9223372036854775807):IntKind.i64.wrap (n:Int)=n:=by rw[wrap64]<;>omega
theorem Ij{t b:Nat}(h:t<=9223372036854775807):IntKind.i64.wrap ((t:Int).tdiv (b:Int))=((t / b:Nat):Int):=by
 have h1:=Nat.div_le_self t b;rw[Int.tdiv_eq_ediv_of_nonneg (by omega),<-Int.natCast_ediv];exact Hc (by omega)
end Go.Ex
namespace Go.Ex
open Go Go.Sx Go.Proofs
def tv:Value:=.agg #[.bool false,.slice none 0 0,.bool false,.slice none 0 0]
theorem mK{n:Int}(h1: -9223372036854775808<=n)(h2:n<=9223372036854775807):ln n.natAbs<=2:=fb.2 (by show n.natAbs<4294967296^2;omega)
end Go.Ex
namespace Go.Sx
open Go Go.Ex Go.Proofs
variable{cs:List Value}{O:Nat->Sx.dS}
theorem Rel.k6{H:Hp}{nx:Nat}{iv:Iv}{B:Nat}{w w':World}(r:Rel H nx iv B w O w'){id t m sz:Nat}(h:cX H id=some (.vec t sz cs))(hm:cs.length=m*sz)(hm1:m<=maxLen)(hs:0<sz)(h1:∀u∈cs,u.oneCell'=true):
  jH w' (fun g=>B<=g∧g<w'.heap.size) sz ((At.w id m).den O) cs m:=by
 rcases r.vec id t sz _ h with⟨hn,rfl⟩|⟨hn,spare,hb,hc,hcap⟩
 ·have hm0:m=0:=by
   rcases bH m with h|h
   ·exact h
   ·have:=Nat.mul_pos h hs;simp at hm;omega
  subst hm0;refine⟨hm1,by simp,by simp,none,0,by simp[At.den,hn],aE _,by simp⟩
 ·refine⟨hm1,hm,h1,some ⟨(O id).g,0,none⟩,(O id).cap,by simp[At.den,hn],?_,fun j x hx=>⟨_,rfl,r.low id _ h hn,?_⟩⟩
  ·have h1:(cs++spare).length=cs.length+spare.length:=List.length_append;have h2:m*sz<=(O id).cap*sz:=by omega
   exact Nat.le_of_mul_le_mul_right h2 hs
  ·rw[dH,cell_of hb,aS,aK (aC.1 hx).1];exact hx
end Go.Sx
namespace Go.Ex
open Go Go.Sx Go.Proofs
end Go.Ex
namespace Go.Ex
open Go Go.Sx Go.Proofs
variable{qs:List Rat}{xs:List Value}{i:Nat}{O:Nat->Sx.dS}{q:Rat}
def signed:Bool->ByteArray->ByteArray
 |true,s=>⟨#[45]⟩++s
 |false,s=>s
def JK(w:World)(S:Nat->Prop)(cs:List Value)(q:Rat):Prop:=∃b a n c b2 a2 n2 c2,cs=[.bool b,.slice a n c,.bool b2,.slice a2 n2 c2]∧dC w S (.agg #[.bool b,.slice a n c,.bool b2,.slice a2 n2 c2]) q
def Fr(w:World)(S:Nat->Prop)(css:List (List Value))(qs:List Rat):Prop:=css.length=qs.length∧∀(j:Nat) cs q,css[j]? =some cs->qs[j]? =some q->JK w S cs q
section
variable{S S':Nat->Prop}{w w2:World}{cs:List Value}{css:List (List Value)}{q:Rat}{qs:List Rat}
end
section
variable{S S':Nat->Prop}{H:Hp}{nx:Nat}{iv iv':Iv}{B:Nat}{w w' w2:World}{O:Nat->Sx.dS}{css:List (List Value)}{qs:List Rat}
end
theorem fg:∀{css:List (List Value)},(∀cs∈css,cs.length=4)->css.flatten.length=css.length*4
 |[],_=>rfl
 |c::r,h=>by
  rw[List.flatten_cons,List.length_append,fg (fun cs hc=>h cs (aB _ hc)),h c aH,List.length_cons];omega
theorem flat_get:∀{css:List (List Value)} {j:Nat} {cs:List Value},(∀cs∈css,cs.length=4)->css[j]? =some cs->∀k u,cs[k]? =some u->css.flatten[j*4+k]? =some u
 |[],j,cs,_,hj,_,_,_=>by simp at hj
 |c::r,0,cs,h,hj,k,u,hu=>by
  simp at hj;subst hj;rw[List.flatten_cons,aK (by have:=(aC.1 hu).1;omega)];simpa using hu
 |c::r,j+1,cs,h,hj,k,u,hu=>by
  have hc:=h c aH;rw[List.flatten_cons,aN (by omega),hc,show(j+1)*4+k-4=j*4+k by omega];exact flat_get (fun cs hc=>h cs (aB _ hc)) (by simpa using hj) k u hu
theorem j6:∀{css:List (List Value)} {j:Nat} {cs:List Value},(∀cs∈css,cs.length=4)->j<css.length->css.flatten.take (j*4)++cs++css.flatten.drop (j*4+4)=(css.set j cs).flatten
 |[],j,cs,_,hj=>by simp at hj
 |c::r,0,cs,h,_=>by
  have hc:=h c aH;simp[List.flatten_cons,hc]
 |c::r,j+1,cs,h,hj=>by
  have hc:=h c aH
  rw[List.flatten_cons,show(j+1)*4=c.length+j*4 by omega,List.take_length_add_append,show c.length+j*4+4=c.length+(j*4+4) by omega,List.drop_length_add_append,List.set_cons_succ,List.flatten_cons,
   <-j6 (fun cs hc=>h cs (aB _ hc)) (by simpa using hj),bX,bX,bX]
abbrev Out(B:Nat)(iv:Iv):Nat->Prop:=Cv (fun g=>g<B) B iv
theorem mz{H:Hp}{nx:Nat}{iv:Iv}{B Bc e sz m:Nat}{w w':World}{v:Value}(h:w.ownsRow Bc e sz v m xs)(hc:∀g,v.ownBlock=some g->Out B iv g)(r:Rel H nx iv B w O w'):w'.ownsRow Bc e sz v m xs:=
 ownsRow.cB h fun b hb=>Rel.same r (fun _ h=>h) (hc b hb)
theorem fh{w w1 w2:World}{row:Option Nat}(h:w.grownBy w1 row)(k:cR w.heap.size w1 w2):w.grownBy w2 row:=
 ⟨k.os.trans h.os,k.tape.trans h.tape,k.output.trans h.output,ai h.size k.size,fun b hb hn=>(k.block b hb).trans (h.block b hb hn)⟩
def gH(i:Nat)(f:Nat->Rat->Rat)(qs:List Rat):List Rat:=qs.mapIdx fun j q=>if j<i then f j q else q
theorem qe(f:Nat->Rat->Rat)(qs:List Rat):gH 0 f qs=qs:=by
 apply bU;intro j;simp[gH]
theorem th(f:Nat->Rat->Rat)(qs:List Rat):gH qs.length f qs=qs.mapIdx f:=by
 apply bU;intro j;simp only[gH,List.getElem?_mapIdx]
 cases h:qs[j]? with
 |none=>rfl
 |some q=>simp[(aC.1 h).1]
theorem nA{f:Nat->Rat->Rat}(h:qs[i]? =some q):(gH i f qs).set i (f i q)=gH (i+1) f qs:=by
 apply bU;intro j;have hi:=(aC.1 h).1;by_cases hij:i=j
 ·subst hij;rw[aU (by simp[gH];exact hi)];simp[gH,List.getElem?_mapIdx,h]
 ·rw[aZ hij];simp only[gH,List.getElem?_mapIdx]
  have:(j<i)↔(j<i+1):=by omega
  simp[this]
theorem Da{f:Nat->Rat->Rat}(h:qs[i]? =some q)(hf:f i q=q):gH i f qs=gH (i+1) f qs:=by
 rw[<-nA h,hf];apply bU;intro j;have hi:=(aC.1 h).1;by_cases hij:i=j
 ·subst hij;rw[aU (by simp[gH];exact hi)];simp[gH,List.getElem?_mapIdx,h]
 ·rw[aZ hij]
theorem yI{f:Nat->Rat->Rat}(h:qs[i]? =some q):(gH i f qs)[i]? =some q:=by
 simp only[gH,List.getElem?_mapIdx,h]
 simp
section
variable{C C' S S':Nat->Prop}{H:Hp}{nx:Nat}{iv iv':Iv}{B:Nat}{w w' w2:World}{O:Nat->Sx.dS}{v:Value}{qs:List Rat}
end
end Go.Ex
namespace Go.Ex
variable{M:List (List Rat)}{s:List (List Rat)×List Nat}{r:List Rat}{i n:Nat}
def cY(M:List (List Rat))(i c:Nat):Rat:=(M.getD i []).getD c 0
def gX(M:List (List Rat))(c:Nat):Nat->Nat->Nat
 |0,k=>k
 |f+1,k=>if cY M k c=0 then gX M c f (k+1)else k
def jA{α:Type}(d:α)(l:List α)(i j:Nat):List α:=(l.set i (l.getD j d)).set j (l.getD i d)
def wi(p:Rat)(ps:List Rat)(j:Nat)(q:Rat):Rat:=q+p*ps.getD j 0
def gY(M:List (List Rat))(at_ c i:Nat):List (List Rat):=M.mapIdx fun j r=>if j<i∧j≠at_ then r.mapIdx (wi (-(r.getD c 0)) (M.getD at_ []))else r
def scaled(M:List (List Rat))(at_ c:Nat):List (List Rat):=M.set at_ ((M.getD at_ []).map (· *(1 / cY M at_ c)))
def dV(s:List (List Rat)×List Nat)(c:Nat):List (List Rat)×List Nat:=
 if s.2.length<s.1.length then
  let k:=gX s.1 c (s.1.length-s.2.length) s.2.length
  if k=s.1.length then s else
   let M1:=scaled (jA [] s.1 s.2.length k) s.2.length c
   (gY M1 s.2.length c M1.length,s.2++[c])
 else s
def cH(M:List (List Rat))(cols:Nat):List (List Rat)×List Nat:=(List.range cols).foldl dV (M,[])
theorem js{α:Type}(d:α)(l:List α)(i j:Nat):(jA d l i j).length=l.length:=by simp[jA]
theorem x4(M:List (List Rat))(a c i:Nat):(gY M a c i).length=M.length:=by simp[gY]
theorem pY(M:List (List Rat))(a c:Nat):(scaled M a c).length=M.length:=by simp[scaled]
theorem mY(s:List (List Rat)×List Nat)(c:Nat):(dV s c).1.length=s.1.length:=by
 unfold dV;split
 ·dsimp only
  split
  ·rfl
  ·dsimp only
   rw[x4,pY,js]
 ·rfl
theorem wZ(M:List (List Rat))(c:Nat):∀f k,k<=gX M c f k∧gX M c f k<=k+f
 |0,k=>⟨aE _,aE _⟩
 |f+1,k=>by
  unfold gX;split
  ·have:=wZ M c f (k+1);omega
  ·omega
theorem wh(M:List (List Rat))(c:Nat):∀f k,gX M c f k<k+f->cY M (gX M c f k) c≠0
 |0,k,h=>by simp[gX]at h
 |f+1,k,h=>by
  unfold gX at h ⊢;split
  ·rename_i h0;rw[if_pos h0]at h;exact wh M c f (k+1) (by omega)
  ·rename_i h0;exact h0
theorem DH{c f k:Nat}(h:cY M k c=0):gX M c (f+1) k=gX M c f (k+1):=by rw[gX,if_pos h]
theorem DK{c f k:Nat}(h:cY M k c≠0):gX M c (f+1) k=k:=by rw[gX,aI h]
theorem DL(M:List (List Rat))(a c i:Nat):(gY M a c i)[a]? =M[a]? :=by
 simp only[gY,List.getElem?_mapIdx]
 cases M[a]? <;>simp
def Ht(M:List (List Rat))(h:Nat):Prop:=∀r∈M,∀q∈r,rl q+1<=h
theorem Ee{h:Nat}(H:∀q∈r,rl q+1<=h)(h2:2<=h)(c:Nat):rl (r.getD c 0)+1<=h:=by
 rw[List.getD]
 cases hc:r[c]? with
 |none=>simp;exact ai (by decide) h2
 |some q=>simp;exact H q (aD hc)
theorem zV{j:Nat}(hi:i<M.length)(hj:j<M.length):(jA [] M i j)[i]? =M[j]? :=by
 unfold jA;by_cases h:j=i
 ·subst h;rw[aU (by simpa using hi),List.getD,aA hi];rfl
 ·rw[aZ h,aU hi,List.getD,aA hj];rfl
theorem GW{j c:Nat}(hi:i<M.length)(hj:j<M.length):cY (jA [] M i j) i c=cY M j c:=by
 simp only[cY,List.getD,zV hi hj]
def fZ(n:Nat)(M:List (List Rat)):Prop:=∀r∈M,r.length=n
theorem fZ.set(h:fZ n M)(hr:r.length=n):fZ n (M.set i r):=fun x hx=>by
 rcases bS hx with h1|h1
 ·exact h x h1
 ·rw[h1];exact hr
theorem fZ.getD(h:fZ n M)(hi:i<M.length):(M.getD i []).length=n:=by
 rw[List.getD,aA hi];exact h _ (aX hi)
theorem fZ.step{c:Nat}(h:fZ n s.1):fZ n (dV s c).1:=by
 unfold dV;split
 ·rename_i hlt;dsimp only
  split
  ·exact h
  ·rename_i hk;have hle:=wZ s.1 c (s.1.length-s.2.length) s.2.length;have hkl:gX s.1 c (s.1.length-s.2.length) s.2.length<s.1.length:=by omega
   dsimp only
   generalize gX s.1 c (s.1.length-s.2.length) s.2.length=k at*
   have h1:fZ n (jA [] s.1 s.2.length k):=(h.set (h.getD hkl)).set (h.getD hlt);have h2:fZ n (scaled (jA [] s.1 s.2.length k) s.2.length c):=h1.set (by rw[aL];exact h1.getD (by rw[js];exact hlt));intro r hr;obtain⟨j,hj⟩:=aT hr;simp only[gY,List.getElem?_mapIdx,Option.map_eq_some_iff]at hj;obtain⟨r0,hr0,hj⟩:=hj;have h3:=h2 r0 (aD hr0);split at hj
   ·subst hj;rw[List.length_mapIdx];exact h3
   ·subst hj;exact h3
 ·exact h
end Go.Ex
namespace Go.Ex
open Go Go.Sx Go.Proofs
structure KK(w:World)(S:Nat->Prop)(vm:Value)(rv:List Value)(n:Nat)(M:List (List Rat)):Prop where
 out:w.ownsRow 0 T.row 1 vm rv.length rv
 len:rv.length=M.length
 row:∀(i:Nat) v qs,rv[i]? =some v->M[i]? =some qs->∃css,w.ownsRow 0 T.CR 4 v n css.flatten∧css.length=n∧Fr w S css qs
 Co:∀(i j:Nat) a b g,rv[i]? =some a->rv[j]? =some b->a.ownBlock=some g->b.ownBlock=some g->i=j
 aAM:∀v∈rv,∀g,v.ownBlock=some g->vm.ownBlock≠some g
def Mb(vm:Value)(rv:List Value)(g:Nat):Prop:=vm.ownBlock=some g∨∃v∈rv,v.ownBlock=some g
structure Kept(w w2:World)(X:Nat->Prop):Prop where
 os:w2.os=w.os
 tape:w2.tape=w.tape
 output:w2.output=w.output
 size:w.heap.size<=w2.heap.size
 block:∀k,k<w.heap.size->¬X k->w2.heap[k]? =w.heap[k]?
section
variable{S S' X:Nat->Prop}{H:Hp}{nx n:Nat}{iv iv':Iv}{B:Nat}{w w' w2 w3:World}{O:Nat->Sx.dS}{vm:Value}{rv:List Value}{M:List (List Rat)}
end
end Go.Ex
namespace Go.Sx
open Go Go.Ex Go.Proofs
variable{O:Nat->Sx.dS}
theorem Rel.C2{H:Hp}{nx:Nat}{iv:Iv}{B:Nat}{w w' w2:World}{row:Option Nat}(r:Rel H nx iv B w O w')(hne:∀g,row=some g->∀id b,cX H id=some b->(O id).nil=false->(O id).g≠g)(h:w'.grownBy w2 row):Rel H nx ((w'.heap.size,w2.heap.size)::iv) B w2 O w2:=
 r.B8 h.size (fun id b hb hn=>h.block _ (r.low id b hb hn).2 fun e=>hne _ e.symm id b hb hn rfl) fun lo hi hm=>by
  rcases List.mem_cons.1 hm with e|hm
  ·injection e with e1 e2;subst e1 e2;exact⟨aE _,fun id b hb hn=>by have:=(r.low id b hb hn).2;omega⟩
  ·exact⟨by have:=r.qp lo hi hm;have:=r.size;have:=h.size;omega,fun id b hb hn=>r.jn lo hi hm id b hb hn⟩
end Go.Sx
namespace Go.Ex
open Go Go.Sx Go.Proofs
end Go.Ex
namespace Go.Ex
open Go Go.Sx Go.Proofs
end Go.Ex
namespace Go.Sx
open Go Go.Ex Go.Proofs
variable{O:Nat->Sx.dS}
theorem Sub.nil{B nx:Nat}{l:Env}{H:Hp}{iv:Iv}{w w':World}{t:Bd}(u e sz:Nat)(h9:ew l u=some (.o (.v (.slice none 0 0))))(hsc:kl nx l)(r:Rel H nx iv B w O w')
  (h:∀ρ1,Rel ((nx,.vec e sz [])::H) (nx+1) iv B w ρ1 w'->Sx.Sub B ((u,.o (.w nx 0))::l) (nx+1) ρ1 w' t):Sx.Sub B l nx O w' t:=by
 have r1:=r.push (.vec e sz []) ⟨0,0,true⟩ (w2:=w') rfl rfl rfl (aE _) (fun _ _=>rfl) (fun h=>by cases h) (.inl ⟨rfl,rfl⟩) trivial;obtain⟨ρ',h1,h2⟩:=h _ r1;refine⟨ρ',h1,fun x v hv=>?_⟩;obtain⟨h3,v0,h4,h5⟩:=h2 x v hv;refine⟨h3,?_⟩;rw[eJ]at h4;split at h4
 ·rename_i e;subst e;injection h4 with h4;subst h4;refine⟨_,h9,?_⟩;rw[<-h5];simp[SV.den,At.den,eV]
 ·refine⟨v0,h4,?_⟩;rw[<-h5];exact SV.jL (fun id hid=>gB id hid) (hsc.get _ _ h4)
end Go.Sx
namespace Go.Ex
open Go Go.Sx Go.Proofs
structure aAH(w:World)(S:Nat->Prop)(rv:List Value)(n:Nat)(M:List (List Rat))(gm k c g ck:Nat)(q:Rat)(d1:Bool)(e1:Option Addr)(m1 k1:Nat)(d2:Bool)(e2:Option Addr)(m2 k2:Nat):Prop where
 rv:rv[k]? =some (.slice (some ⟨g,0,none⟩) n ck)
 at_:cY M k c=q
 aAN:dC w S (.agg #[.bool d1,.slice e1 m1 k1,.bool d2,.slice e2 m2 k2]) q
 outer:w.cell? (Addr.add ⟨gm,0,none⟩ (k*1))=some (.slice (some ⟨g,0,none⟩) n ck)
 cells:∀j u,[Value.bool d1,.slice e1 m1 k1,.bool d2,.slice e2 m2 k2][j]? =some u->w.cell? ((Addr.add ⟨g,0,none⟩ (c*4)).add j)=some u
theorem Ik{α:Type}{xs:List α}{j:Nat}{v:α}(h:j<xs.length):xs.take (j*1)++[v]++xs.drop (j*1+1)=xs.set j v:=by
 rw[aV,List.set_eq_take_append_cons_drop,if_pos h];simp
end Go.Ex
namespace Go.Ex
open Go Go.Sx Go.Proofs
variable{A M:List (List Rat)}{ps pv:List Nat}{S:Nat->Prop}{v:Value}{w:World}
def Jl(w:World)(S:Nat->Prop)(v:Value)(n:Nat)(qs:List Rat):Prop:=∃css,w.ownsRow 0 T.CR 4 v n css.flatten∧css.length=n∧Fr w S css qs
section
variable{S S' C:Nat->Prop}{H:Hp}{nx n:Nat}{iv iv':Iv}{B:Nat}{w w' w2:World}{O:Nat->Sx.dS}{v:Value}{qs:List Rat}
structure aAO(w:World)(S:Nat->Prop)(B:Nat)(iv:Iv)(v:Value)(n:Nat)(qs:List Rat):Prop where
 row:Jl w (fun g=>Cv S B iv g∧v.ownBlock≠some g) v n qs
 new:∀g,v.ownBlock=some g->Cv (fun _=>False) B iv g
def Kl(w:World)(S:Nat->Prop)(cs:List Value)(x:Int×Int):Prop:=∃b a n c b2 a2 n2 c2,cs=[.bool b,.slice a n c,.bool b2,.slice a2 n2 c2]∧gW w S (.agg #[.bool b,.slice a n c,.bool b2,.slice a2 n2 c2]) x.1 x.2
def dY{α:Type}(P:World->(Nat->Prop)->List Value->α->Prop)(w:World)(S:Nat->Prop)(v:Value)(xs:List α):Prop:=
 ∃css:List (List Value),jH w S 4 v css.flatten xs.length∧css.length=xs.length∧(∀cs∈css,cs.length=4)∧∀(j:Nat) cs x,css[j]? =some cs->xs[j]? =some x->P w S cs x
theorem dY.shape{α:Type}{P:World->(Nat->Prop)->List Value->α->Prop}{xs:List α}(h:dY P w S v xs):∃a c,v= .slice a xs.length c∧xs.length<=c∧xs.length<=maxLen:=by
 obtain⟨css,⟨h0,_,_,a,c,h1,h2,_⟩,_⟩:=h;exact⟨a,c,h1,h2,h0⟩
theorem dY.load{α:Type}{P:World->(Nat->Prop)->List Value->α->Prop}{xs:List α}{a:Option Addr}{m c j:Nat}{x:α}(h:dY P w S (.slice a m c) xs)(hq:xs[j]? =some x):
  ∃ad cs,a=some ad∧P w S cs x∧cs.length=4∧∀k u,cs[k]? =some u->S ad.block∧w.cell? ((ad.add (j*4)).add k)=some u:=by
 obtain⟨css,⟨h0,h1,h2,a',c',e,h3,h4⟩,hl,hl4,hf⟩:=h;injection e with e1 e2 e3;subst e1;obtain⟨cs,hcs⟩:∃cs,css[j]? =some cs:=⟨_,aA (by rw[hl];exact(aC.1 hq).1)⟩
 have hF:=hf j cs x hcs hq;have hlc:=hl4 cs (aD hcs);obtain⟨ad,k1,k2,k3⟩:=h4 (j*4+0) _ (flat_get hl4 hcs 0 _ (aA (show 0<cs.length by omega)));refine⟨ad,cs,k1,hF,hlc,fun k u hu=>?_⟩;obtain⟨ad2,m1,m2,m3⟩:=h4 (j*4+k) u (flat_get hl4 hcs k u hu);rw[k1]at m1;injection m1 with m1;subst m1;refine⟨m2,?_⟩;rw[<-m3];have:(ad.add (j*4)).add k=ad.add (j*4+k):=by
  unfold Addr.add;split<;>split<;>simp_all<;>omega
 rw[this]
def e8{α:Type}(P:World->(Nat->Prop)->Value->α->Prop)(w:World)(S:Nat->Prop)(v:Value)(M:List α):Prop:=
 ∃rv,jH w S 1 v rv M.length∧rv.length=M.length∧∀(i:Nat) u x,rv[i]? =some u->M[i]? =some x->P w S u x
theorem e8.shape{α:Type}{P:World->(Nat->Prop)->Value->α->Prop}{xs:List α}(h:e8 P w S v xs):∃a c,v= .slice a xs.length c∧xs.length<=c∧xs.length<=maxLen:=by
 obtain⟨rv,⟨h0,_,_,a,c,h1,h2,_⟩,_⟩:=h;exact⟨a,c,h1,h2,h0⟩
theorem e8.load{α:Type}{P:World->(Nat->Prop)->Value->α->Prop}{xs:List α}{a:Option Addr}{m c j:Nat}{x:α}(h:e8 P w S (.slice a m c) xs)(hq:xs[j]? =some x):
  ∃ad u,a=some ad∧P w S u x∧S ad.block∧w.cell? (ad.add (j*1))=some u:=by
 obtain⟨rv,⟨h0,h1,h2,a',c',e,h3,h4⟩,hl,hf⟩:=h;injection e with e1 e2 e3;subst e1;obtain⟨u,hu⟩:∃u,rv[j]? =some u:=⟨_,aA (by rw[hl];exact(aC.1 hq).1)⟩
 obtain⟨ad,k1,k2,k3⟩:=h4 j u hu;exact⟨ad,u,k1,hf j u x hu hq,k2,by rw[aV];exact k3⟩
end
section
variable{S S':Nat->Prop}{H:Hp}{nx:Nat}{iv iv':Iv}{B:Nat}{w w' w2:World}{O:Nat->Sx.dS}{v:Value}{xs:List (Int×Int)}
end
section
variable{S S':Nat->Prop}{H:Hp}{nx:Nat}{iv iv':Iv}{B:Nat}{w w' w2:World}{O:Nat->Sx.dS}{v:Value}{M:List (List (Int×Int))}
end
section
variable{S S':Nat->Prop}{H:Hp}{nx:Nat}{iv iv':Iv}{B:Nat}{w w' w2:World}{O:Nat->Sx.dS}{v:Value}{M:List (List Rat)}
end
def f0:List Value:=[.bool false,.slice none 0 0,.bool false,.slice none 0 0]
structure aAP(w:World)(S:Nat->Prop)(n i:Nat)(css:List (List Value))(qs:List Rat):Prop where
 len:css.length=n
 four:∀cs∈css,cs.length=4
 one:∀cs∈css,∀u∈cs,u.oneCell'=true
 at_:∀(j:Nat) cs q,j<i->css[j]? =some cs->qs[j]? =some q->JK w S cs q
section
variable{S S':Nat->Prop}{H:Hp}{nx n i:Nat}{iv iv':Iv}{B:Nat}{w w1 w' w2:World}{O:Nat->Sx.dS}{css:List (List Value)}{qs:List Rat}
end
structure aAI(w:World)(S:Nat->Prop)(B:Nat)(iv:Iv)(rv:List Value)(n:Nat)(M:List (List Rat)):Prop where
 len:rv.length=M.length
 row:∀(i:Nat) v qs,rv[i]? =some v->M[i]? =some qs->Jl w (fun g=>Cv S B iv g∧¬ ∃u∈rv,u.ownBlock=some g) v n qs
 Co:∀(i j:Nat) a b g,rv[i]? =some a->rv[j]? =some b->a.ownBlock=some g->b.ownBlock=some g->i=j
 new:∀v∈rv,∀g,v.ownBlock=some g->Cv (fun _=>False) B iv g
theorem gb(B:Nat):∀g,(fun _:Nat=>False) g->g<B:=fun _ h=>h.elim
theorem Hy{B:Nat}{iv:Iv}{g:Nat}(h:Cv (fun _=>False) B iv g):Cv S B iv g:=h.elim (fun h=>h.elim) .inr
section
variable{S S':Nat->Prop}{H:Hp}{nx n i:Nat}{iv iv':Iv}{B:Nat}{w w1 w' w2:World}{O:Nat->Sx.dS}{rv:List Value}{M:List (List Rat)}
structure aAQ(w:World)(S:Nat->Prop)(B:Nat)(iv:Iv)(vm:Value)(n:Nat)(M:List (List Rat)):Prop where
 ex:∃rv,KK w (fun g=>Cv S B iv g∧¬Mb vm rv g) vm rv n M∧∀g,Mb vm rv g->Cv (fun _=>False) B iv g
end
def dI(w:World)(S:Nat->Prop)(v:Value)(ps:List Nat):Prop:=jH w S 1 v (ps.map fun c:Nat=>.int .i64 (c:Int)) ps.length
theorem dI.cB{w2:World}(h:dI w S v ps)(hk:∀g,S g->w2.heap[g]? =w.heap[g]?):dI w2 S v ps:=jH.cB h hk
theorem dI.cC{S':Nat->Prop}(h:dI w S v ps)(hk:∀g,S g->S' g):dI w S' v ps:=jH.cC h hk
section
variable{S S':Nat->Prop}{H:Hp}{nx:Nat}{iv iv':Iv}{B:Nat}{w w' w2:World}{O:Nat->Sx.dS}{v:Value}{ps:List Nat}
theorem dI.rel(h:dI w (Cv S B iv) v ps)(r:Rel H nx iv B w O w')(hS:∀g,S g->g<B):dI w' (Cv S B iv) v ps:=dI.cB h fun _ hg=>Rel.same r hS hg
theorem dI.cd(h:dI w2 (Nf w' w2) v ps)(hB:B<=w'.heap.size)(hm:(w'.heap.size,w2.heap.size)∈iv):dI w2 (Cv S B iv) v ps:=dI.cC h fun _ hg=>hg.cd hB hm
end
section
variable{S S':Nat->Prop}{H:Hp}{nx n:Nat}{iv iv':Iv}{B:Nat}{w w' w2:World}{O:Nat->Sx.dS}{v:Value}{qs:List Rat}
end
def fN(A:List (List Rat))(pv:List Nat)(cols c i:Nat):List Rat:=(List.range i).foldl (fun x i=>x.set (pv.getD i 0) (-(cY A i c))) ((List.replicate cols 0).set c 1)
def eB(A:List (List Rat))(pv:List Nat)(cols c:Nat):List (List Rat):=((List.range c).filter fun c=>decide (c∉pv)).map fun c=>fN A pv cols c pv.length
theorem gE(A:List (List Rat))(pv:List Nat)(cols c i:Nat):fN A pv cols c (i+1)=(fN A pv cols c i).set (pv.getD i 0) (-(cY A i c)):=by
 rw[fN,bR,List.foldl_append];rfl
theorem jU(A:List (List Rat))(pv:List Nat)(cols c i:Nat):(fN A pv cols c i).length=cols:=by
 induction i with
 |zero=>simp[fN]
 |succ i ih=>rw[gE,bB,ih]
theorem C5{cols c:Nat}(h:c∈pv):eB A pv cols (c+1)=eB A pv cols c:=by
 rw[eB,bR,List.filter_append];simp[h,eB]
theorem Az{cols c:Nat}(h:c∉pv):eB A pv cols (c+1)=eB A pv cols c++[fN A pv cols c pv.length]:=by
 rw[eB,bR,List.filter_append];simp[h,eB]
def gC(A:List (List Rat))(pv:List Nat)(cols i:Nat):List Rat:=(List.range i).foldl (fun x i=>x.set (pv.getD i 0) (cY A i cols)) (List.replicate cols 0)
theorem gF(A:List (List Rat))(pv:List Nat)(cols i:Nat):gC A pv cols (i+1)=(gC A pv cols i).set (pv.getD i 0) (cY A i cols):=by
 rw[gC,bR,List.foldl_append];rfl
structure aAJ(w:World)(B:Nat)(iv:Iv)(rv:List Value)(v:Value)(n:Nat)(qs:List Rat):Prop where
 row:Jl w (fun g=>(Cv (fun _=>False) B iv g∧¬ ∃u∈rv,u.ownBlock=some g)∧v.ownBlock≠some g) v n qs
 zK:∀g,v.ownBlock=some g->Cv (fun _=>False) B iv g
section
variable{H:Hp}{nx n:Nat}{iv iv':Iv}{B:Nat}{w w' w2:World}{O:Nat->Sx.dS}{v:Value}{qs:List Rat}{rv:List Value}
end
def jD(w:World)(S:Nat->Prop)(cs:List Value)(q:Rat):Prop:=∃b a n c b2 a2 n2 c2,cs=[.bool b,.slice a n c,.bool b2,.slice a2 n2 c2]∧cM w S (.agg #[.bool b,.slice a n c,.bool b2,.slice a2 n2 c2]) q
abbrev cD:=dY jD
abbrev cO:=e8 cD
section
variable{S S':Nat->Prop}{H:Hp}{nx:Nat}{iv iv':Iv}{B:Nat}{w w' w2:World}{O:Nat->Sx.dS}{v:Value}{qs:List Rat}{cs:List Value}{q:Rat}
theorem jD.cB(h:jD w S cs q)(hk:∀g,S g->w2.heap[g]? =w.heap[g]?):jD w2 S cs q:=by
 obtain⟨b,a,n,c,b2,a2,n2,c2,h1,h2⟩:=h;exact⟨b,a,n,c,b2,a2,n2,c2,h1,h2.cB hk⟩
theorem jD.cC(h:jD w S cs q)(hk:∀g,S g->S' g):jD w S' cs q:=by
 obtain⟨b,a,n,c,b2,a2,n2,c2,h1,h2⟩:=h;exact⟨b,a,n,c,b2,a2,n2,c2,h1,h2.cC hk⟩
theorem cD.cB(h:cD w S v qs)(hk:∀g,S g->w2.heap[g]? =w.heap[g]?):cD w2 S v qs:=by
 obtain⟨css,h1,h2,h3,h4⟩:=h;exact⟨css,h1.cB hk,h2,h3,fun j cs x k1 k2=>(h4 j cs x k1 k2).cB hk⟩
theorem cD.cC(h:cD w S v qs)(hk:∀g,S g->S' g):cD w S' v qs:=by
 obtain⟨css,h1,h2,h3,h4⟩:=h;exact⟨css,h1.cC hk,h2,h3,fun j cs x k1 k2=>(h4 j cs x k1 k2).cC hk⟩
theorem cO.cB(h:cO w S v M)(hk:∀g,S g->w2.heap[g]? =w.heap[g]?):cO w2 S v M:=by
 obtain⟨rv,h1,h2,h3⟩:=h;exact⟨rv,h1.cB hk,h2,fun i u x k1 k2=>cD.cB (h3 i u x k1 k2) hk⟩
theorem cO.cC(h:cO w S v M)(hk:∀g,S g->S' g):cO w S' v M:=by
 obtain⟨rv,h1,h2,h3⟩:=h;exact⟨rv,h1.cC hk,h2,fun i u x k1 k2=>cD.cC (h3 i u x k1 k2) hk⟩
end
section
variable{S S':Nat->Prop}{H:Hp}{nx:Nat}{iv iv':Iv}{B:Nat}{w w' w2:World}{O:Nat->Sx.dS}{v:Value}{qs:List Rat}
theorem cD.rel(h:cD w (Cv S B iv) v qs)(r:Rel H nx iv B w O w')(hS:∀g,S g->g<B):cD w' (Cv S B iv) v qs:=cD.cB h fun _ hg=>Rel.same r hS hg
theorem cD.bz(h:cD w (Cv S B iv) v qs)(r:Rel H nx iv B w O w')(hS:∀g,S g->g<B)(he:Ext w' w2)(hm:∀p,p∈iv->p∈iv'):cD w2 (Cv S B iv') v qs:=
 cD.cC (cD.cB (cD.rel h r hS) fun g hg=>he.block g (Rel.old r hS g hg)) fun _ hg=>hg.mono hm
theorem cD.cd(h:cD w2 (Nf w' w2) v qs)(hB:B<=w'.heap.size)(hm:(w'.heap.size,w2.heap.size)∈iv):cD w2 (Cv S B iv) v qs:=cD.cC h fun _ hg=>hg.cd hB hm
theorem cD.out{w0 w1:World}(h:cD w1 (Cv S w0.heap.size iv) v qs)(r:Rel H nx iv w0.heap.size w1 O w')(hS:Old S w0):cD w' (Nw S w0 w') v qs:=
 cD.cC (cD.rel h r hS) fun _ hg=>Cv.nw hg r
end
section
variable{S S':Nat->Prop}{H:Hp}{nx:Nat}{iv iv':Iv}{B:Nat}{w w' w2:World}{O:Nat->Sx.dS}{v:Value}{M:List (List Rat)}
theorem cO.rel(h:cO w (Cv S B iv) v M)(r:Rel H nx iv B w O w')(hS:∀g,S g->g<B):cO w' (Cv S B iv) v M:=cO.cB h fun _ hg=>Rel.same r hS hg
theorem cO.bz(h:cO w (Cv S B iv) v M)(r:Rel H nx iv B w O w')(hS:∀g,S g->g<B)(he:Ext w' w2)(hm:∀p,p∈iv->p∈iv'):cO w2 (Cv S B iv') v M:=
 cO.cC (cO.cB (cO.rel h r hS) fun g hg=>he.block g (Rel.old r hS g hg)) fun _ hg=>hg.mono hm
theorem cO.cd(h:cO w2 (Nf w' w2) v M)(hB:B<=w'.heap.size)(hm:(w'.heap.size,w2.heap.size)∈iv):cO w2 (Cv S B iv) v M:=cO.cC h fun _ hg=>hg.cd hB hm
theorem cO.old(h:cO w2 (Nw (Cv S B iv) w' w2) v M)(hB:B<=w'.heap.size):cO w2 (Cv S B ((w'.heap.size,w2.heap.size)::iv)) v M:=cO.cC h fun _ hg=>Nw.cv hg hB
end
theorem jV(A:List (List Rat))(pv:List Nat)(cols i:Nat):(gC A pv cols i).length=cols:=by
 induction i with
 |zero=>simp[gC]
 |succ i ih=>rw[gF,bB,ih]
theorem C4(A:List (List Rat))(pv:List Nat)(cols c:Nat):(eB A pv cols c).length<=c:=by
 unfold eB;rw[aL];exact ai (List.length_filter_le _ _) (by simp)
end Go.Ex
namespace Go.Ex
variable{ds l:List Nat}
def dA:List Int->Int
 |[]=>0
 |c::r=>c+65536*dA r
def up(k:Nat):Int:=65536^k
theorem A7(k:Nat):up (k+1)=65536*up k:=by rw[up,Int.pow_succ,Int.mul_comm];rfl
theorem Gy(k:Nat):0<up k:=Int.pow_pos (by decide)
theorem yi(a b:List Int):dA (a++b)=dA a+up a.length*dA b:=by
 induction a with
 |nil=>simp[dA,up]
 |cons c r ih=>rw[List.cons_append,dA,ih,dA,List.length_cons,A7,Int.mul_add,<-Int.mul_assoc];omega
theorem D2(a:List Int):dA (a.map (- ·))= -dA a:=by
 induction a with
 |nil=>rfl
 |cons c r ih=>rw[List.map_cons,dA,ih,dA];omega
def Dg(l:List Nat):Prop:=∀d∈l,d<65536
def kj(l:List Nat):Int:=dA (l.map fun d:Nat=>(d:Int))
theorem x5(h:Dg l):0<=kj l∧kj l<up l.length:=by
 induction l with
 |nil=>exact⟨Int.le_refl _,by decide⟩
 |cons d r ih=>
  have h1:=ih fun x hx=>h x (aB _ hx);have h2:=h d aH;have e:kj (d::r)=(d:Int)+65536*kj r:=rfl;rw[e,List.length_cons,A7];omega
def dG:List Int->Int->List Nat×Int
 |[],k=>([],k)
 |c::r,k=>(((c+k) % 65536).toNat::(dG r ((c+k) / 65536)).1,(dG r ((c+k) / 65536)).2)
theorem ju:∀(cs:List Int) (k:Int),dA cs+k=kj (dG cs k).1+up cs.length*(dG cs k).2∧Dg (dG cs k).1∧(dG cs k).1.length=cs.length
 |[],k=>⟨by simp[dA,dG,kj,up],by simp[dG,Dg],rfl⟩
 |c::r,k=>by
  obtain⟨h1,h2,h3⟩:=ju r ((c+k) / 65536);have h4:0<=(c+k) % 65536:=Int.emod_nonneg _ (by decide);have h5:(c+k) % 65536<65536:=Int.emod_lt_of_pos _ (by decide);have h6:=Int.mul_ediv_add_emod (c+k) 65536;refine⟨?_,fun d hd=>?_,by simp[dG,h3]⟩
  ·have e:kj (dG (c::r) k).1=(((c+k) % 65536).toNat:Int)+65536*kj (dG r ((c+k) / 65536)).1:=rfl;have e2:(dG (c::r) k).2=(dG r ((c+k) / 65536)).2:=rfl;rw[e,e2,dA,List.length_cons,A7,Int.mul_assoc];omega
  ·have e:(dG (c::r) k).1=((c+k) % 65536).toNat::(dG r ((c+k) / 65536)).1:=rfl;rw[e]at hd;rcases List.mem_cons.1 hd with rfl|hd
   ·omega
   ·exact h2 d hd
theorem A8(cs:List Int)(c k:Int):dG (cs++[c]) k=((dG cs k).1++[((c+(dG cs k).2) % 65536).toNat],(c+(dG cs k).2) / 65536):=by
 induction cs generalizing k with
 |nil=>rfl
 |cons d r ih=>simp only[List.cons_append,dG,ih]
theorem jX:∀(cs:List Int) (k:Int),(∀c∈cs,-1152921504606846976<=c∧c<=1152921504606846976)-> -1152921504606846976<=k->k<=1152921504606846976-> -1152921504606846976<=(dG cs k).2∧(dG cs k).2<=1152921504606846976
 |[],k,_,h1,h2=>⟨h1,h2⟩
 |c::r,k,h,h1,h2=>by
  have hc:=h c aH;exact jX r _ (fun x hx=>h x (aB _ hx)) (by omega) (by omega)
def cW(n:Nat):List Nat:=if h:n=0 then []else n % 65536::cW (n / 65536)
termination_by n
decreasing_by omega
theorem jv:cW 0=[]:=by rw[cW];rfl
theorem oD{n:Nat}(h:0<n):cW n=n % 65536::cW (n / 65536):=by
 rw[cW,dif_neg (by omega)]
theorem jw(n:Nat):kj (cW n)=n∧Dg (cW n):=by
 induction n using Nat.strongRecOn with
 |_ n ih=>
  rcases bH n with h|h
  ·subst h;rw[jv];exact⟨rfl,by simp[Dg]⟩
  ·rw[oD h];obtain⟨h1,h2⟩:=ih (n / 65536) (by omega);refine⟨?_,fun d hd=>?_⟩
   ·have e:kj (n % 65536::cW (n / 65536))=((n % 65536:Nat):Int)+65536*kj (cW (n / 65536)):=rfl;rw[e,h1];omega
   ·rcases List.mem_cons.1 hd with rfl|hd
    ·omega
    ·exact h2 d hd
theorem ie{n:Nat}:∀{k:Nat},n<65536^k->(cW n).length<=k
 |0,h=>by
  have:n=0:=by simp at h;exact h
  subst this;rw[jv];simp
 |k+1,h=>by
  rcases bH n with h0|h0
  ·subst h0;rw[jv];simp
  ·rw[oD h0,List.length_cons];have:=ie (n:=n / 65536) (k:=k) (by rw[Nat.pow_succ]at h;exact Nat.div_lt_of_lt_mul (by rw[bM];exact h));omega
def gD:List Nat->List Nat
 |[]=>[]
 |[a]=>[a]
 |a::b::r=>(a+65536*b)::gD r
theorem x6:∀(l:List Nat),Dg l->(val (gD l):Int)=kj l∧Lm (gD l)∧(gD l).length=(l.length+1) / 2
 |[],_=>⟨rfl,by simp[gD,Lm],rfl⟩
 |[a],h=>by
  have:=h a (by simp);exact⟨by simp[gD,val,kj,dA],fun x hx=>by simp[gD]at hx;omega,by simp[gD]⟩
 |a::b::r,h=>by
  obtain⟨h1,h2,h3⟩:=x6 r fun x hx=>h x (aB _ (aB _ hx));have ha:=h a (by simp);have hb:=h b (by simp);refine⟨?_,fun x hx=>?_,?_⟩
  ·have e:kj (a::b::r)=(a:Int)+65536*((b:Int)+65536*kj r):=rfl;rw[e,<-h1,gD,val];simp only[Int.natCast_add,Int.natCast_mul]
   omega
  ·rw[gD]at hx;rcases List.mem_cons.1 hx with rfl|hx
   ·omega
   ·exact h2 x hx
  ·rw[gD,List.length_cons,h3];simp only[List.length_cons]
   omega
def pk(ds:List Nat)(k:Nat):List Nat:=(List.range k).map fun i=>ds.getD (2*i) 0+65536*ds.getD (2*i+1) 0
theorem vo(ds:List Nat)(k:Nat):pk ds (k+1)=pk ds k++[ds.getD (2*k) 0+65536*ds.getD (2*k+1) 0]:=by simp[pk,bR]
theorem tN(ds:List Nat)(k:Nat):(pk ds k).length=k:=by simp[pk]
theorem Gz:∀(ds:List Nat),pk ds ((ds.length+1) / 2)=gD ds
 |[]=>rfl
 |[a]=>by simp[pk,gD,bR]
 |a::b::r=>by
  have ih:=Gz r;have e:((a::b::r).length+1) / 2=(r.length+1) / 2+1:=by simp only[List.length_cons];omega
  rw[e,gD,<-ih,pk,List.range_succ_eq_map,List.map_cons,List.map_map,pk];congr 1
theorem HA(h:Dg ds)(k:Nat):Lm (pk ds k):=fun x hx=>by
 obtain⟨i,_,rfl⟩:=aR.1 hx;have key:∀j,ds.getD j 0<65536:=fun j=>by
  rw[List.getD]
  cases hj:ds[j]? with
  |none=>simp
  |some d=>simp;exact h d (aD hj)
 have h1:=key (2*i);have h2:=key (2*i+1);omega
end Go.Ex
namespace Go.Ex
open Go Go.Sx Go.Proofs
variable{cs:List Int}{S:Nat->Prop}{v:Value}{w:World}
def dR(w:World)(S:Nat->Prop)(v:Value)(cs:List Int):Prop:=jH w S 1 v (cs.map (Value.int .i64)) cs.length
theorem dR.cB{w2:World}(h:dR w S v cs)(hk:∀g,S g->w2.heap[g]? =w.heap[g]?):dR w2 S v cs:=jH.cB h hk
theorem dR.cC{S':Nat->Prop}(h:dR w S v cs)(hk:∀g,S g->S' g):dR w S' v cs:=jH.cC h hk
theorem dR.load{a:Option Addr}{n c j:Nat}{x:Int}(h:dR w S (.slice a n c) cs)(hx:cs[j]? =some x):∃ad,a=some ad∧S ad.block∧w.cell? (ad.add (j*1))=some (.int .i64 x):=by
 obtain⟨_,_,_,a',c',e,_,h4⟩:=h;injection e with e1 e2 e3;subst e1;obtain⟨ad,k1,k2,k3⟩:=h4 j (.int .i64 x) (by rw[aM,hx];rfl);exact⟨ad,k1,k2,by rw[aV];exact k3⟩
theorem dR.shape(h:dR w S v cs):∃a c,v= .slice a cs.length c∧cs.length<=c:=by
 obtain⟨_,_,_,a',c',e,h3,_⟩:=h;exact⟨a',c',e,h3⟩
def db(ds:List Nat):List Int:=ds.map fun d:Nat=>(d:Int)
theorem eO(ds:List Nat):(db ds).length=ds.length:=by simp[db]
end Go.Ex
namespace Go.Sx
open Go Go.Ex Go.Proofs
variable{cs:List Value}{O:Nat->Sx.dS}
theorem Rel.BP{H:Hp}{nx:Nat}{iv:Iv}{B:Nat}{w w':World}(r:Rel H nx iv B w O w'){id t m sz:Nat}(h:cX H id=some (.vec t sz cs))(hm:cs.length=m*sz)(hs:0<sz):
  w'.ownsRow B t sz ((At.w id m).den O) m cs:=by
 rcases r.vec id t sz _ h with⟨hn,rfl⟩|⟨hn,spare,hb,hc,hcap⟩
 ·have hm0:m=0:=by
   rcases bH m with h|h
   ·exact h
   ·have:=Nat.mul_pos h hs;simp at hm;omega
  subst hm0;have:(At.w id 0).den O= .slice none 0 0:=by simp[At.den,hn]
  rw[this];exact World.ownsRow_nil _ _ _ _
 ·have hv:(At.w id m).den O= .slice (some ⟨(O id).g,0,none⟩) m (O id).cap:=by simp[At.den,hn]
  have h1:(cs++spare).length=cs.length+spare.length:=List.length_append;rw[hv];refine⟨hm,.inr ⟨(O id).g,(O id).cap,_,rfl,(r.low id _ h hn).1,hb,?_,hcap,by simpa using hc,?_⟩⟩
  ·have h2:m*sz<=(O id).cap*sz:=by omega
   exact Nat.le_of_mul_le_mul_right h2 hs
  ·rw[<-hm];simp
end Go.Sx
namespace Go.Ex
open Go Go.Sx Go.Proofs
theorem Ch(n:Nat)(w:World)(hn:n<=9223372036854775807):di PG N.rz #[.int .i64 n] w (dw w fun v w2=>dR w2 (Nf w w2) v (db (cW n))):=by
 refine vM (by simp) ?_
 refine⟨Nat×List Nat×World,fun z=>⟨[(0,.o (.v (.int .i64 z.1))),(3,.o (.w 0 z.2.1.length))],[(0,.vec T.int 1 ((db z.2.1).map (Value.int .i64)))],1,[],z.2.2⟩,fun z=>z.1,
  fun z=>cR w.heap.size w z.2.2∧z.1<=n∧z.2.1.length<=n-z.1∧z.2.1++cW z.1=cW n,?_,?_⟩
 ·intro O w' r
  exact⟨(n,[],w'),⟨r.cI,aE _,by simp,by simp⟩,Sub.nil 3 T.int 1 rfl (by simp[kl,SV.sc,At.sc,gP]) r fun ρ1 r1=>
   Sub.gn [] r1⟩
 rintro⟨k,ds,w1⟩ ⟨hw,hk,hl,hs⟩;dsimp only at hw hk hl hs ⊢;have hdl:=eO ds;refine dF.mk (fun h=>?_) (fun h=>?_)
 ·have h:0<k:=by
   have:(k:Int)>0:=aG h;omega
  refine⟨by decide,((k % 65536:Nat):Int),Hd k 65536,?_⟩;refine .inl ?_;refine⟨by simp[hdl],?_,by have h1:=congrArg List.length hs;rw[List.length_append]at h1;have h2:=ie (n:=n) (k:=4) (by omega);unfold maxLen;omega,?_⟩
  ·have h1:=congrArg List.length hs;rw[List.length_append]at h1;have h2:=ie (n:=n) (k:=4) (by omega);omega
  refine⟨by decide,((k / 65536:Nat):Int),Ij (by omega),?_⟩;intro ρ3 w3 r3;have hl5:(ds++[k % 65536]).length=ds.length+1:=by simp
  have hm5:(db (ds++[k % 65536])).map (Value.int .i64)=(db ds).map (Value.int .i64)++[.int .i64 ((k % 65536:Nat):Int)]:=by simp[db]
  refine⟨(k / 65536,ds++[k % 65536],w3),⟨hw.tr r3.cI,by dsimp only;omega,by dsimp only;rw[hl5];omega,?_⟩,
   Sub.gn [(0,2)] r3 ⟨by rw[hm5];rfl,trivial⟩ ⟨rfl,by dsimp only;rw[hl5];rfl,trivial⟩,by dsimp only;omega⟩
  dsimp only
  rw[<-hs,oD h];simp
 ·have h:k=0:=by
   have:¬(k:Int)>0:=aF h;omega
  subst h;rw[jv,List.append_nil]at hs;subst hs;intro ρe we re;refine⟨_,rfl,hw.tr re.cI,?_⟩;have:=re.k6 (id:=0) (sz:=1) (m:=(cW n).length) rfl (by simp[hdl]) (by have h2:=ie (n:=n) (k:=4) (by omega);unfold maxLen;omega) (by decide) (by intro u hu;simp at hu;obtain⟨_,_,rfl⟩:=hu;rfl);unfold dR;rw[hdl];exact this.cC fun g hg=>.inr hg
end Go.Ex
namespace Go.Ex
open Go Go.Sx Go.Proofs
variable{cs:List Int}{S:Nat->Prop}
theorem tx(n:Int):(n.tmod 65536<0->n % 65536=n.tmod 65536+65536)∧(¬n.tmod 65536<0->n % 65536=n.tmod 65536)∧ -65536<n.tmod 65536∧n.tmod 65536<65536:=by
 by_cases h:0<=n
 ·rw[Int.tmod_eq_emod_of_nonneg h];omega
 ·have h1:n.tmod 65536= -((-n) % 65536):=by
   have:n= -(-n):=by omega
   conv=>lhs;rw[this]
   rw[Int.neg_tmod,Int.tmod_eq_emod_of_nonneg (by omega)]
  rw[h1];omega
theorem AN(n:Int):(n-n % 65536).tdiv 65536=n / 65536:=by
 have h:n-n % 65536=65536*(n / 65536):=by omega
 rw[h,Int.mul_tdiv_cancel_left _ (by decide)]
theorem AO{w:World}{v:Value}(hS:Old S w)(h:dR w S v cs)(hb:∀c∈cs,-1152921504606846976<=c∧c<=1152921504606846976)(hl:cs.length<=1000000000):
  di PG N.po #[v] w (dw w fun v' w2=>∃o,v'= .tuple #[o,.int .i64 (dG cs 0).2]∧w2.ownsRow w.heap.size T.int 1 o cs.length ((db (dG cs 0).1).map (Value.int .i64))):=by
 obtain⟨a,c,rfl,hc⟩:=h.shape;refine te (by simp) ?_
 refine⟨Nat×World,fun z=>⟨[(0,.o (.v (.slice a cs.length c))),(4,.o (.w 0 z.1)),(5,.o (.v (.int .i64 (dG (cs.take z.1) 0).2))),(6,.o (.v (.int .i64 z.1)))],[(0,.vec T.int 1 ((db (dG (cs.take z.1) 0).1).map (Value.int .i64)))],1,[],z.2⟩,fun z=>cs.length-z.1,
  fun z=>cR w.heap.size w z.2∧z.1<=cs.length,?_,?_⟩
 ·intro O w' r
  exact⟨(0,w'),⟨r.cI,by simp⟩,Sub.nil 4 T.int 1 rfl (by simp[kl,SV.sc,At.sc,gP]) r fun ρ1 r1=>
   Sub.gn [] r1⟩
 rintro⟨i,w1⟩ ⟨hw,hi⟩;dsimp only at hw hi ⊢;obtain⟨-,hdg,hlen⟩:=ju (cs.take i) 0;have hln:((db (dG (cs.take i) 0).1).map (Value.int .i64)).length=i:=by rw[aL,eO,hlen,aW];omega
 obtain⟨hk1,hk2⟩:=jX (cs.take i) 0 (fun c hc=>hb c (List.mem_of_mem_take hc)) (by decide) (by decide);have hR:dR w1 S (.slice a cs.length c) cs:=dR.cB h fun g hg=>hw.block g (hS g hg);refine dF.mk (fun h=>?_) (fun h=>?_)
 ·have h:i<cs.length:=by simpa using h
  obtain⟨x,hx⟩:∃x,cs[i]? =some x:=⟨_,aA h⟩
  obtain⟨hx1,hx2⟩:=hb x (aD hx);obtain⟨ad,rfl,q1,q2⟩:=hR.load hx;have htk:cs.take (i+1)=cs.take i++[x]:=by rw[List.take_add_one,hx];rfl
  have hsn:=A8 (cs.take i) x 0;rw[<-htk]at hsn;generalize (dG (cs.take i) 0).1=ds at*
  generalize (dG (cs.take i) 0).2=k at*
  obtain⟨t1,t2,t3,t4⟩:=tx (x+k);have hem1:=Int.emod_nonneg (x+k) (show (65536:Int)≠0 by decide);have hem2:=Int.emod_lt_of_pos (x+k) (show (0:Int)<65536 by decide);refine⟨ad,rfl,by omega,.int .i64 x,fun O w' r=>?_,?_⟩
  ·rw[aJ,cJ (w:=w1) (w2:=w') (by rw[eA];exact Rel.same (S:=S) r hS (.inl q1))];exact q2
  refine⟨x+k,wo,by decide,(x+k).tmod 65536,rfl,?_⟩;refine dF.mk (fun hneg=>?_) (fun hneg=>?_)
  ·have hneg:=t1 (aG hneg);refine⟨(x+k) % 65536,by rw[hneg,wrap64]<;>omega,x+k-(x+k) % 65536,wo,by decide,(x+k) / 65536,by rw[AN,wrap64]<;>omega,?_⟩;refine .inl ?_;refine⟨by rw[hln,aV],by omega,by unfold maxLen;omega,((i+1:Nat):Int),wo,?_⟩;intro ρ3 w3 r3;have hm5:(db (dG (cs.take (i+1)) 0).1).map (Value.int .i64)=(db ds).map (Value.int .i64)++[.int .i64 ((x+k) % 65536)]:=by
    rw[hsn];simp[db,Int.toNat_of_nonneg hem1]
   have hk5:(dG (cs.take (i+1)) 0).2=(x+k) / 65536:=by rw[hsn]
   exact⟨(i+1,w3),⟨hw.tr r3.cI,by dsimp only;omega⟩,Sub.gn [(0,2)] r3 ⟨by dsimp only;rw[hm5];rfl,trivial⟩ ⟨rfl,rfl,by dsimp only;rw[hk5];rfl,rfl,trivial⟩,by dsimp only;omega⟩
  ·have hneg:=t2 (aF hneg);rw[<-hneg];refine⟨x+k-(x+k) % 65536,wo,by decide,(x+k) / 65536,by rw[AN,wrap64]<;>omega,?_⟩;refine .inl ?_;refine⟨by rw[hln,aV],by omega,by unfold maxLen;omega,((i+1:Nat):Int),wo,?_⟩;intro ρ3 w3 r3;have hm5:(db (dG (cs.take (i+1)) 0).1).map (Value.int .i64)=(db ds).map (Value.int .i64)++[.int .i64 ((x+k) % 65536)]:=by
    rw[hsn];simp[db,Int.toNat_of_nonneg hem1]
   have hk5:(dG (cs.take (i+1)) 0).2=(x+k) / 65536:=by rw[hsn]
   exact⟨(i+1,w3),⟨hw.tr r3.cI,by dsimp only;omega⟩,Sub.gn [(0,2)] r3 ⟨by dsimp only;rw[hm5];rfl,trivial⟩ ⟨rfl,rfl,by dsimp only;rw[hk5];rfl,rfl,trivial⟩,by dsimp only;omega⟩
 ·have h:i=cs.length:=by
   have:¬i<cs.length:=by simpa using h
   omega
  subst h;rw[bC]at hln ⊢;intro ρe we re;exact⟨_,rfl,hw.tr re.cI,_,rfl,re.BP (id:=0) rfl (by rw[hln,aV]) (by decide)⟩
end Go.Ex
namespace Go.Sx
open Go Go.Ex Go.Proofs
variable{ls:List Nat}{O:Nat->Sx.dS}
theorem Rel.He{H:Hp}{nx:Nat}{iv:Iv}{B:Nat}{w w':World}(r:Rel H nx iv B w O w'){id t m:Nat}(h:cX H id=some (.vec t 1 (U ls)))(hm:m<=ls.length)(hlm:Lm ls)(hle:ls.length<=9223372036854775807):
  cw w' (fun g=>B<=g∧g<w'.heap.size) ((At.w id m).den O) (ls.take m):=by
 have hlt:(ls.take m).length=m:=by rw[aW];omega
 rcases r.vec id t 1 _ h with⟨hn,hu⟩|⟨hn,spare,hb,hc,hcap⟩
 ·have hl:ls=[]:=by cases ls with
   |nil=>rfl
   |cons a b=>simp[U]at hu
  subst hl;simp at hm;subst hm;have:(At.w id 0).den O= .slice none 0 0:=by simp[At.den,hn]
  rw[this];exact cw.nil _ _
 ·refine⟨hlm.take m,by rw[hlt];omega,some ⟨(O id).g,0,none⟩,(O id).cap,by rw[hlt];simp[At.den,hn],?_,fun j x hx=>⟨_,rfl,r.low id _ h hn,?_⟩⟩
  ·have h1:(U ls++spare).length=ls.length+spare.length:=by rw[List.length_append,fU]
   rw[hlt];omega
  ·rw[List.getElem?_take]at hx;split at hx
   ·rw[dH,cell_of hb,aS,aK (by rw[fU];exact(aC.1 hx).1)];exact sN hx
   ·cases hx
end Go.Sx
namespace Go.Ex
open Go Go.Sx Go.Proofs
variable{ds ls:List Nat}{n:Nat}{S:Nat->Prop}
theorem EA(_hn:n<ls.length)(h0:ls[n]? =some 0):dO (ls.take (n+1))=dO (ls.take n):=by
 rw[List.take_add_one,h0];exact jc _
theorem EB{x:Nat}(h0:ls[n]? =some x)(hx:x≠0):dO (ls.take (n+1))=ls.take (n+1):=by
 rw[List.take_add_one,h0];exact mX _ hx
theorem Ci{w:World}{v:Value}(hS:Old S w)(h:dR w S v (db ds))(hd:Dg ds)(hl:ds.length<=1000000000):
  di PG N.ry #[v] w (dw w fun v' w2=>∃lv,v'= .agg #[.bool false,lv]∧cw w2 (Nf w w2) lv (dO (gD ds))):=by
 obtain⟨a,c,rfl,hc⟩:=h.shape;rw[eO]at hc h ⊢;refine vL (by simp) ?_
 refine⟨Nat×World,fun z=>match z.1 with
   |0=>⟨[(0,.o (.v (.slice a ds.length c))),(2,.o (.p 0 0)),(3,.o (.p 1 0)),(4,.o (.v (.int .i64 0)))],[(1,.box T.Int [.v (.bool false),.v (.slice none 0 0)]),(0,.box T.Int [.v (.bool false),.v (.slice none 0 0)])],2,[],z.2⟩
   |k+1=>⟨[(0,.o (.v (.slice a ds.length c))),(2,.o (.p 0 0)),(3,.o (.p 1 0)),(4,.o (.v (.int .i64 ((2*(k+1):Nat):Int))))],[(2,.vec T.uint32 1 (U (pk ds (k+1)))),(1,.box T.Int [.v (.bool false),.w 2 (k+1)]),(0,.box T.Int [.v (.bool false),.v (.slice none 0 0)])],3,[],z.2⟩,
  fun z=>ds.length-z.1,fun z=>cR w.heap.size w z.2∧2*z.1<=ds.length+1,?_,?_⟩
 ·intro O w' r;exact⟨(0,w'),⟨r.cI,by simp⟩,Sub.gn [] r⟩
 rintro⟨k,w1⟩ ⟨hw,hi⟩;dsimp only at hw hi;have hR:dR w1 S (.slice a ds.length c) (db ds):=dR.cB h fun g hg=>hw.block g (hS g hg)
 cases k with
 |zero=>
  refine dF.mk (fun h1=>?_) (fun h1=>?_)
  ·have h1:0<ds.length:=by
    have:=aG h1;omega
   obtain⟨d0,hd0⟩:∃x,ds[0]? =some x:=⟨_,aA h1⟩
   have hd0b:=hd d0 (aD hd0);have hg0:ds.getD (2*0) 0=d0:=by show ds.getD 0 0=d0;rw[List.getD,hd0];rfl
   obtain⟨ad,rfl,q1,q2⟩:=hR.load (j:=0) (x:=(d0:Int)) (by rw[db,aM,hd0];rfl);refine⟨ad,rfl,by omega,.int .i64 (d0:Int),fun O w' r=>?_,?_⟩
   ·show w'.cell? (ad.add (0*1))=_;rw[cJ (w:=w1) (w2:=w') (by rw[eA];exact Rel.same (S:=S) r hS (.inl q1))];exact q2
   refine⟨((0+1:Nat):Int),wo,?_⟩;refine dF.mk (fun h2=>?_) (fun h2=>?_)
   ·have h2:0+1<ds.length:=by
     have:=aG h2;omega
    obtain⟨d1,hd1⟩:∃x,ds[0+1]? =some x:=⟨_,aA h2⟩
    have hd1b:=hd d1 (aD hd1);have hg1:ds.getD (2*0+1) 0=d1:=by show ds.getD (0+1) 0=d1;rw[List.getD,hd1];rfl
    obtain⟨_,had,q3,q4⟩:=hR.load (j:=0+1) (x:=(d1:Int)) (by rw[db,aM,hd1];rfl);injection had with had;subst had;refine⟨((0+1:Nat):Int),wo,ad,rfl,by omega,.int .i64 (d1:Int),fun O w' r=>?_,?_⟩
    ·show w'.cell? (ad.add ((0+1)*1))=_;rw[cJ (w:=w1) (w2:=w') (by rw[eA];exact Rel.same (S:=S) r hS (.inl q3))];exact q4
    refine⟨((65536*d1:Nat):Int),wo,((d0+65536*d1:Nat):Int),wo,?_⟩;have hpk:=vo ds 0;rw[hg0,hg1]at hpk;generalize d0+65536*d1=dd at*
    have hdd:dd<4294967296:=HA hd (0+1) dd (by rw[hpk];simp);refine⟨(dd:Int),by rw[vW]<;>omega,?_⟩;refine .inl ?_;refine⟨by omega,by unfold maxLen;omega,((2*(0+1):Nat):Int),wo,?_⟩;intro ρ3 w3 r3;have hU:U (pk ds (0+1))=U (pk ds 0)++[.int .u32 (dd:Int)]:=by rw[hpk];simp[U]
    exact⟨(0+1,w3),⟨hw.tr r3.cI,by dsimp only;omega⟩,Sub.gn [(2,3)] r3 ⟨by dsimp only;rw[hU];rfl,rfl,rfl,trivial⟩,by dsimp only;omega⟩
   ·have h2:0+1=ds.length:=by
     have:=aF h2;omega
    have hg1:ds.getD (2*0+1) 0=0:=by show ds.getD (0+1) 0=0;rw[List.getD,List.getElem?_eq_none (by omega)];rfl
    have hpk:=vo ds 0;rw[hg0,hg1]at hpk;obtain⟨dd,hdde⟩:∃dd,dd=d0:=⟨_,rfl⟩
    rw[<-hdde]at hpk ⊢;have hdd:dd<4294967296:=by omega
    rw[show dd+65536*0=dd by omega]at hpk;refine⟨(dd:Int),by rw[vW]<;>omega,?_⟩;refine .inl ?_;refine⟨by omega,by unfold maxLen;omega,((2*(0+1):Nat):Int),wo,?_⟩;intro ρ3 w3 r3;have hU:U (pk ds (0+1))=U (pk ds 0)++[.int .u32 (dd:Int)]:=by rw[hpk];simp[U]
    exact⟨(0+1,w3),⟨hw.tr r3.cI,by dsimp only;omega⟩,Sub.gn [(2,3)] r3 ⟨by dsimp only;rw[hU];rfl,rfl,rfl,trivial⟩,by dsimp only;omega⟩
  ·have h1:ds=[]:=by
    have:=aF h1;exact List.eq_nil_of_length_eq_zero (by omega)
   subst h1;refine⟨World,fun z=>⟨[(2,.o (.p 0 0)),(3,.o (.p 1 0)),(6,.o (.v (.int .i64 0)))],[(1,.box T.Int [.v (.bool false),.v (.slice none 0 0)]),(0,.box T.Int [.v (.bool false),.v (.slice none 0 0)])],2,[],z⟩,fun _=>0,fun z=>cR w.heap.size w z,?_,?_⟩
   ·intro O w' r;exact⟨w',hw.tr r.cI,Sub.gn [] r⟩
   intro w2 hw;dsimp only at hw ⊢;refine⟨⟨by decide,by decide,by decide⟩,none,0,0,by rfl,by rfl,by rfl,?_⟩;intro ρe we re;exact⟨_,rfl,hw.tr re.cI,_,rfl,cw.nil _ _⟩
 |succ k=>
  refine dF.mk (fun h1=>?_) (fun h1=>?_)
  ·have h1:(2*(k+1))<ds.length:=by
    have:=aG h1;omega
   obtain⟨d0,hd0⟩:∃x,ds[(2*(k+1))]? =some x:=⟨_,aA h1⟩
   have hd0b:=hd d0 (aD hd0);have hg0:ds.getD (2*(k+1)) 0=d0:=by show ds.getD (2*(k+1)) 0=d0;rw[List.getD,hd0];rfl
   obtain⟨ad,rfl,q1,q2⟩:=hR.load (j:=(2*(k+1))) (x:=(d0:Int)) (by rw[db,aM,hd0];rfl);refine⟨ad,rfl,by omega,.int .i64 (d0:Int),fun O w' r=>?_,?_⟩
   ·show w'.cell? (ad.add ((2*(k+1))*1))=_;rw[cJ (w:=w1) (w2:=w') (by rw[eA];exact Rel.same (S:=S) r hS (.inl q1))];exact q2
   refine⟨(((2*(k+1))+1:Nat):Int),wo,?_⟩;refine dF.mk (fun h2=>?_) (fun h2=>?_)
   ·have h2:(2*(k+1))+1<ds.length:=by
     have:=aG h2;omega
    obtain⟨d1,hd1⟩:∃x,ds[(2*(k+1))+1]? =some x:=⟨_,aA h2⟩
    have hd1b:=hd d1 (aD hd1);have hg1:ds.getD (2*(k+1)+1) 0=d1:=by show ds.getD ((2*(k+1))+1) 0=d1;rw[List.getD,hd1];rfl
    obtain⟨_,had,q3,q4⟩:=hR.load (j:=(2*(k+1))+1) (x:=(d1:Int)) (by rw[db,aM,hd1];rfl);injection had with had;subst had;refine⟨(((2*(k+1))+1:Nat):Int),wo,ad,rfl,by omega,.int .i64 (d1:Int),fun O w' r=>?_,?_⟩
    ·show w'.cell? (ad.add (((2*(k+1))+1)*1))=_;rw[cJ (w:=w1) (w2:=w') (by rw[eA];exact Rel.same (S:=S) r hS (.inl q3))];exact q4
    refine⟨((65536*d1:Nat):Int),wo,((d0+65536*d1:Nat):Int),wo,?_⟩;have hpk:=vo ds (k+1);rw[hg0,hg1]at hpk;generalize d0+65536*d1=dd at*
    have hdd:dd<4294967296:=HA hd ((k+1)+1) dd (by rw[hpk];simp);refine⟨(dd:Int),by rw[vW]<;>omega,?_⟩;refine .inl ?_;refine⟨by rw[fU,tN];omega,by omega,by unfold maxLen;omega,((2*((k+1)+1):Nat):Int),wo,?_⟩;intro ρ3 w3 r3;have hU:U (pk ds ((k+1)+1))=U (pk ds (k+1))++[.int .u32 (dd:Int)]:=by rw[hpk];simp[U]
    exact⟨((k+1)+1,w3),⟨hw.tr r3.cI,by dsimp only;omega⟩,Sub.gn [(2,4)] r3 ⟨by dsimp only;rw[hU];rfl,rfl,rfl,trivial⟩,by dsimp only;omega⟩
   ·have h2:(2*(k+1))+1=ds.length:=by
     have:=aF h2;omega
    have hg1:ds.getD (2*(k+1)+1) 0=0:=by show ds.getD ((2*(k+1))+1) 0=0;rw[List.getD,List.getElem?_eq_none (by omega)];rfl
    have hpk:=vo ds (k+1);rw[hg0,hg1]at hpk;obtain⟨dd,hdde⟩:∃dd,dd=d0:=⟨_,rfl⟩
    rw[<-hdde]at hpk ⊢;have hdd:dd<4294967296:=by omega
    rw[show dd+65536*0=dd by omega]at hpk;refine⟨(dd:Int),by rw[vW]<;>omega,?_⟩;refine .inl ?_;refine⟨by rw[fU,tN];omega,by omega,by unfold maxLen;omega,((2*((k+1)+1):Nat):Int),wo,?_⟩;intro ρ3 w3 r3;have hU:U (pk ds ((k+1)+1))=U (pk ds (k+1))++[.int .u32 (dd:Int)]:=by rw[hpk];simp[U]
    exact⟨((k+1)+1,w3),⟨hw.tr r3.cI,by dsimp only;omega⟩,Sub.gn [(2,4)] r3 ⟨by dsimp only;rw[hU];rfl,rfl,rfl,trivial⟩,by dsimp only;omega⟩
  ·have h1:ds.length<=2*(k+1):=by
    have:=aF h1;omega
   have hk:k+1=(ds.length+1) / 2:=by omega
   have hpk:pk ds (k+1)=gD ds:=by rw[hk];exact Gz ds
   have hlen:=tN ds (k+1);have hlm:=HA hd (k+1);rw[<-hpk];obtain⟨ls,hls⟩:∃ls,ls=pk ds (k+1):=⟨_,rfl⟩
   rw[<-hls]at hlen hlm ⊢
   refine⟨by show(U (pk ds (k+1))).length=_;rw[<-hls,fU,hlen];simp,Nat×World,fun z=>⟨[(2,.o (.p 0 0)),(3,.o (.p 1 0)),(6,.o (.v (.int .i64 z.1)))],[(2,.vec T.uint32 1 (U ls)),(1,.box T.Int [.v (.bool false),.w 2 (k+1)]),(0,.box T.Int [.v (.bool false),.v (.slice none 0 0)])],3,[],z.2⟩,fun z=>z.1,
    fun z=>cR w.heap.size w z.2∧z.1<=k+1∧dO (ls.take z.1)=dO ls,?_,?_⟩
   ·intro O w' r;exact⟨(k+1,w'),⟨hw.tr r.cI,aE _,by dsimp only;rw[List.take_of_length_le (by omega)]⟩,Sub.gn [] r ⟨by dsimp only;rw[hls];rfl,rfl,rfl,trivial⟩⟩
   rintro⟨n,w2⟩ ⟨hw,hn,htr⟩;dsimp only at hw hn htr ⊢
   cases n with
   |zero=>
    refine⟨by rw[fU,hlen];simp,⟨by omega,by omega⟩,0,by rfl,?_⟩;intro ρe we re;refine⟨_,rfl,hw.tr re.cI,_,rfl,?_⟩;have:=re.He (id:=2) (m:=0) rfl (aP _) hlm (by omega);rw[<-htr];exact this.cC fun g hg=>.inr hg
   |succ n=>
    obtain⟨x,hx⟩:∃x,ls[n]? =some x:=⟨_,aA (by omega)⟩
    refine dF.mk (fun hp=>?_) (fun hp=>absurd (aF hp) (by omega));refine⟨(n:Int),wo,by rw[fU,hlen];simp,by omega,.int .u32 (x:Int),by simpa using sN hx,?_⟩;refine dF.mk (fun h0=>?_) (fun h0=>?_)
    ·have h0:x=0:=by have:=eq_of_beq h0;omega
     subst h0;refine⟨(n:Int),wo,?_⟩;intro ρ3 w3 r3;exact⟨(n,w3),⟨hw.tr r3.cI,by dsimp only;omega,by dsimp only;rw[<-htr,EA (by omega) hx]⟩,Sub.gn [] r3,by dsimp only;omega⟩
    ·have h0:x≠0:=fun e=>by rw[e]at h0;exact absurd h0 (by decide)
     refine⟨by rw[fU,hlen];simp,⟨by omega,by omega⟩,n+1,by rfl,?_⟩;intro ρe we re;refine⟨_,rfl,hw.tr re.cI,_,rfl,?_⟩;have:=re.He (id:=2) (m:=n+1) rfl (by omega) hlm (by omega);rw[<-htr,EB hx h0];exact this.cC fun g hg=>.inr hg
end Go.Ex
namespace Go.Ex
open Go Go.Sx Go.Proofs
variable{H:Hp}{z:Int}{iv:Iv}{cs:List Int}{b ds ls:List Nat}{xs:List Value}{B i nx:Nat}{S:Nat->Prop}{O:Nat->Sx.dS}{q:Rat}{u v:Value}{w w':World}
theorem sZ{w2:World}{v':Value}(hc:Dz iv v)(r:Rel H nx iv B w O w')(hob:∀g,v'.ownBlock=some g->g<w2.heap.size∧(v.ownBlock=some g∨g=w'.heap.size)):
  ∀lo hi,(lo,hi)∈qA v'->hi<=w2.heap.size∧∀id b,cX H id=some b->(O id).nil=false->¬(lo<=(O id).g∧(O id).g<hi):=fun lo hi hm=>by
 obtain⟨hg,rfl⟩:=AK.1 hm;obtain⟨h1,h2⟩:=hob _ hg;refine⟨by omega,fun id c hc' hn he=>?_⟩;rcases h2 with h2|h2
 ·exact hc.not r h2 id c hc' hn (by omega)
 ·have:=(r.low id c hc' hn).2;omega
theorem cw.out{w1:World}(h:cw w1 (Cv S w.heap.size iv) v ls)(r:Rel H nx iv w.heap.size w1 O w')(hS:Old S w):cw w' (Nw S w w') v ls:=
 (cw.rel h r hS).cC fun _ hg=>Cv.nw hg r
theorem Et{B' e sz m:Nat}(h:w.ownsRow B e sz v m xs)(hb:B'<=B):w.ownsRow B' e sz v m xs:=⟨h.1,h.2.imp id fun⟨g,cap,cur,k1,k2,k3⟩=>⟨g,cap,cur,k1,by omega,k3⟩⟩
theorem s8(a b:List Nat):db (a++b)=db a++db b:=by simp[db]
theorem pK{m:Nat}(h:w.ownsRow B T.int 1 v m (cs.map (Value.int .i64)))(hm:m=cs.length)(hl:m<=maxLen):dR w (fun g=>v.ownBlock=some g) v cs:=by
 subst hm;rcases h.2 with⟨rfl,h0⟩|⟨g,cap,cur,rfl,hb,hc,hmc,hcap,hsz,htake⟩
 ·have:cs=[]:=List.eq_nil_of_length_eq_zero h0;subst this;exact⟨by simp[maxLen],by simp,by simp,none,0,rfl,aE _,by simp⟩
 ·refine⟨hl,h.1,fun u hu=>by simp at hu;obtain⟨_,_,rfl⟩:=hu;rfl,_,cap,rfl,hmc,fun j u hu=>⟨_,rfl,rfl,?_⟩⟩;exact h.cells (g:=g) rfl j u hu
theorem Dg.append{a:List Nat}(ha:Dg a)(hb:Dg b):Dg (a++b):=fun x hx=>(bN.1 hx).elim (ha x) (hb x)
theorem uf(a b:List Nat):kj (a++b)=kj a+up a.length*kj b:=by
 unfold kj;rw[List.map_append,yi,aL]
theorem yV(hd:Dg ds):Nz (dO (gD ds))∧(val (dO (gD ds)):Int)=kj ds:=by
 obtain⟨h1,h2,_⟩:=x6 ds hd;obtain⟨k1,k2,_⟩:=eQ (gD ds);exact⟨k2,by rw[k1,h1]⟩
theorem tz(hS:Old S w)(h:dR w S v cs)(hb:∀c∈cs,-1152921504606846976<=c∧c<=1152921504606846976)(hl:cs.length<=100000000):
  di PG N.jY #[v] w (dw w fun v' w2=>cZ w2 (Nf w w2) v' (dA cs)):=by
 obtain⟨a,c,rfl,hc⟩:=h.shape;obtain⟨hspec,hdg,hdl⟩:=ju cs 0;obtain⟨hk1,hk2⟩:=jX cs 0 hb (by decide) (by decide);rw[Int.add_zero]at hspec;refine ta (by simp) ?_;refine bw (cG (Φ:=fun _ w' v' w2=>∃o,v'= .tuple #[o,.int .i64 (dG cs 0).2]∧w2.ownsRow w'.heap.size T.int 1 o cs.length ((db (dG cs 0).1).map (Value.int .i64))) (fun O w' r=>AO (oS hS r) (dR.cB h fun g hg=>Rel.same (S:=S) r hS (.inl hg)) hb (by omega)) ?_);rintro O wa v1 wb r he hw ⟨o,rfl,hrow⟩;have hrowc:Dz [(wa.heap.size,wb.heap.size)] o:=fun g hg=>⟨_,_,bD.2 rfl,(ownsRow.low hrow g hg).1,(ownsRow.low hrow g hg).2⟩
 replace hrow:=Et hrow r.bu;generalize [(wa.heap.size,wb.heap.size)]=iv at*
 generalize hds:(dG cs 0).1=ds at*
 generalize hk:(dG cs 0).2=k at*
 obtain⟨ao,co,rfl,hco⟩:=j7 hrow;refine dF.mk (fun hneg=>?_) (fun hneg=>?_)
 ·have hneg:=aG hneg;have hV:dA cs<0:=by
   have h1:=(x5 hdg).2;rw[hdl]at h1;have h2:=Gy cs.length;have h3:up cs.length*k<=up cs.length*(-1):=Int.mul_le_mul_of_nonneg_left (by omega) (by omega);omega
  obtain⟨hspec2,hdg2',hdl2⟩:=ju (cs.map (- ·)) 0;have hb2:∀c∈cs.map (- ·),-1152921504606846976<=c∧c<=1152921504606846976:=fun c hc=>by
   obtain⟨x,hx,rfl⟩:=aR.1 hc;have:=hb x hx;omega
  obtain⟨hk1',hk2'⟩:=jX (cs.map (- ·)) 0 hb2 (by decide) (by decide);rw[Int.add_zero,D2,aL]at hspec2;rw[aL]at hdl2;have hk0:0<=(dG (cs.map (- ·)) 0).2:=by
   have h1:=(x5 hdg2').2;rw[hdl2]at h1;have h2:=Gy cs.length;apply Decidable.byContradiction;intro h3;have h4:up cs.length*(dG (cs.map (- ·)) 0).2<=up cs.length*(-1):=Int.mul_le_mul_of_nonneg_left (by omega) (by omega);omega
  refine⟨Nat×World,fun z=>⟨[(0,.o (.v (.slice a cs.length c))),(2,.o (.p 0 0)),(3,.o (.v (.slice ao cs.length co))),(5,.o (.v (.int .i64 z.1)))],[(0,.box T.Int [.v (.bool false),.v (.slice none 0 0)])],1,iv,z.2⟩,fun z=>cs.length-z.1,
   fun z=>z.1<=cs.length∧cR w.heap.size w z.2∧z.2.ownsRow w.heap.size T.int 1 (.slice ao cs.length co) cs.length (((cs.take z.1).map (- ·)++(db ds).drop z.1).map (Value.int .i64)),?_,?_⟩
  ·intro O w' r;exact⟨(0,w'),⟨by simp,hw.tr r.cI,by simpa using iS hrow hrowc r⟩,Sub.gn [] r⟩
  rintro⟨i,w1⟩ ⟨hi,hw,hrow⟩;dsimp only at hi hw hrow ⊢;have hR:dR w1 S (.slice a cs.length c) cs:=dR.cB h fun g hg=>hw.block g (hS g hg);refine dF.mk (fun hib=>?_) (fun hib=>?_)
  ·have hib:i<cs.length:=by simpa using hib
   obtain⟨x,hx⟩:∃x,cs[i]? =some x:=⟨_,aA hib⟩
   obtain⟨hx1,hx2⟩:=hb x (aD hx);obtain⟨ad,rfl,q1,q2⟩:=hR.load hx;obtain⟨go,hgo⟩:∃g,ao=some ⟨g,0,none⟩:=by
    rcases hrow.2 with⟨_,h0⟩|⟨g,cap,cur,e,_⟩
    ·omega
    ·injection e with e;exact⟨g,e⟩
   subst hgo;refine⟨ad,rfl,by omega,.int .i64 x,fun O w' r=>?_,?_⟩
   ·rw[aJ,cJ (w:=w1) (w2:=w') (by rw[eA];exact Rel.same (S:=S) r hS (.inl q1))];exact q2
   refine⟨-x,wo,⟨go,0,none⟩,rfl,by omega,?_⟩;intro O w' r;have hrow3:=iS hrow hrowc r;obtain⟨g',hg',hok,hst,hgr,hsz⟩:=nh (nv:=[.int .i64 (-x)]) hrow3 rfl hib rfl (by decide);injection hg' with hg';injection hg' with hg';subst hg';rw[Ik (by rw[aL,List.length_append,aL,aW,List.length_drop,eO,hdl];omega)]at hst;have had:(⟨go,0,none⟩:Addr).add ((i:Int).toNat*1)=⟨go,i*1,none⟩:=by rw[aJ,dH,aS]
   have hnot:=fun id b hb hn=>hrowc.not r (b:=go) rfl id b hb hn;have hgoB:=(ownsRow.low hrow go rfl).1;have hw':cR w.heap.size w (setCells w' ⟨go,i*1,none⟩ [.int .i64 (-x)]):=(hw.tr r.cI).tr (cR.grown hgr (fun g hg=>by injection hg with hg;subst hg;exact hgoB) r.bu);have hlist:(((cs.take i).map (- ·)++(db ds).drop i).map (Value.int .i64)).set i (.int .i64 (-x))=((cs.take (i+1)).map (- ·)++(db ds).drop (i+1)).map (Value.int .i64):=by
    rw[<-List.map_set];congr 1;have hl1:((cs.take i).map (- ·)).length=i:=by rw[aL,aW];omega
    obtain⟨d,hd⟩:∃d,(db ds)[i]? =some d:=⟨_,aA (by rw[eO,hdl];exact hib)⟩
    have hd2:(db ds).drop i=d::(db ds).drop (i+1):=by
     rw[List.drop_eq_getElem_cons (by rw[eO,hdl];exact hib)];congr 1;have:=aA (l:=db ds) (i:=i) (by rw[eO,hdl];exact hib);rw[hd]at this;injection this with this;exact this.symm
    rw[List.take_add_one,hx,List.map_append,hd2,List.set_append_right _ _ (by omega),hl1,bI];simp
   refine⟨by rw[had],fun j hj=>by rw[had];exact hok j hj,fun id b hb hn=>by rw[had];exact hnot id b hb hn,fun w2 hw2=>?_⟩;have hw2:w2=setCells w' ⟨go,i*1,none⟩ [.int .i64 (-x)]:=by rw[hw2];exact congrArg (fun x=>setCells w' x _) had
   rw[<-hw2]at hst hw'
   erw [hlist]at hst
   refine⟨((i+1:Nat):Int),wo,?_⟩;intro ρ3 w3 r3;exact⟨(i+1,w3),⟨hib,hw'.tr r3.cI,iS hst hrowc r3⟩,Sub.gn [] r3,by dsimp only;omega⟩
  have hib:i=cs.length:=by
   have:¬i<cs.length:=by simpa using hib
   omega
  subst hib;rw[bC,List.drop_of_length_le (by rw[eO,hdl];exact aE _),List.append_nil]at hrow;refine⟨⟨by omega,by omega,by omega⟩,ao,cs.length,co,CX ao co,by omega,by omega,?_⟩;refine bw (cG (Φ:=fun _ w' v' w2=>∃o,v'= .tuple #[o,.int .i64 (dG (cs.map (- ·)) 0).2]∧w2.ownsRow w'.heap.size T.int 1 o cs.length ((db (dG (cs.map (- ·)) 0).1).map (Value.int .i64))) (fun O w' r=>?_) ?_)
  ·have h8:=iS hrow hrowc r;have h9:=pK h8 (by rw[aL]) (by unfold maxLen;omega);have h10:=AO (fun g hg=>(ownsRow.low h8 g hg).2) h9 hb2 (by rw[aL];omega);rw[aL]at h10;exact h10
  rintro O wc v1 wd r he hbb ⟨o2,rfl,hrow2⟩;have hrow2c:Dz ((wc.heap.size,wd.heap.size)::iv) o2:=fun g hg=>⟨_,_,aH,(ownsRow.low hrow2 g hg).1,(ownsRow.low hrow2 g hg).2⟩
  replace hrow2:=Et hrow2 r.bu;replace hw:=hw.tr hbb;generalize (wc.heap.size,wd.heap.size)::iv=iv2 at*
  generalize hds2:(dG (cs.map (- ·)) 0).1=ds2 at*
  generalize hkk2:(dG (cs.map (- ·)) 0).2=k2 at*
  obtain⟨kn,rfl⟩:∃kn:Nat,k2=kn:=⟨k2.toNat,by omega⟩
  obtain⟨ao2,co2,rfl,hco2⟩:=j7 hrow2;have ds2_len:ds2.length=cs.length:=hdl2;have ds2_dg:Dg ds2:=hdg2';refine bw (cG (Φ:=fun _ w' v w2=>dR w2 (Nf w' w2) v (db (cW kn))) (fun O w' r=>by exact Ch kn w' (by omega)) ?_);rintro O ws vs wt r he hb hsp;have hspN:dR wt (Cf w ((ws.heap.size,wt.heap.size)::iv2)) vs (db (cW kn)):=dR.cC hsp fun g hg=>hg.cd r.bu aH;replace hrow2:=ownsRow.cB (iS hrow2 hrow2c r) fun g hg=>he.block g (by have:=(ownsRow.low (iS hrow2 hrow2c r) g hg).2;exact this);replace hrow2c:Dz ((ws.heap.size,wt.heap.size)::iv2) _:=hrow2c.mono fun p hp=>aB _ hp;replace hw:=hw.tr hb;generalize (ws.heap.size,wt.heap.size)::iv2=qp at*
  obtain⟨asp,csp,rfl,-⟩:=hspN.shape;rw[eO]at hspN ⊢;have hsl:=ie (n:=kn) (k:=4) (by omega);have hsd:=(jw kn).2
  refine .inr (wO hτ (aE _) (xs:=(db ds2).map (Value.int .i64)) (news:=(db (cW kn)).map (Value.int .i64)) (m:=cs.length) (k:=(cW kn).length) (by rfl) (by rfl) (by decide) (by rfl) (by rfl) (fun O w' r=>⟨iS hrow2 hrow2c r,fun g hg=>hrow2c.not r hg⟩) (by simp[db]) (by intro u hu;simp at hu;obtain⟨_,_,rfl⟩:=hu;rfl) (by unfold maxLen;omega) (by omega)
   (fun O w' r=>?_) (fun v' w2=>qA v') (fun O w' v' w2 r hsz hob=>sZ hrow2c r hob) (fun O w' v' w2 r h5 h6 h7=>?_))
  ·obtain⟨_,_,_,a2,c2,e2,_,e3⟩:=hspN;injection e2 with e4 e5 e6;subst e4 e6
   cases asp with
   |none=>
    have h0:(cW kn).length=0:=by
     rcases bH (cW kn).length with h0|h0
     ·exact h0
     ·obtain⟨ad2,q1,_⟩:=e3 0 _ (aA (show 0<((db (cW kn)).map (Value.int .i64)).length by simp[db];exact h0))
      cases q1
    exact .inl ⟨csp,by rw[h0];rfl,h0⟩
   |some ad3=>
    refine .inr ⟨ad3,csp,rfl,fun j u hu=>?_⟩;obtain⟨ad2,q1,q2,q3⟩:=e3 j u hu;injection q1 with q1;subst q1;rw[cJ (w:=wt) (w2:=w') (by rw[eA];exact Rel.same r (bs w) q2)];exact q3
  replace hw:cR w.heap.size w w2:=(hw.tr r.cI).tr (cR.grown h6 (fun g hg=>by
   have:=(ownsRow.low hrow2 g hg).1;omega) r.bu)
  have hcat:(db ds2).map (Value.int .i64)++(db (cW kn)).map (Value.int .i64)=(db (ds2++cW kn)).map (Value.int .i64):=by rw[s8,List.map_append]
  rw[hcat]at h5;have hnl:cs.length+(cW kn).length=(db (ds2++cW kn)).length:=by rw[eO,List.length_append,ds2_len]
  have hdg2:Dg (ds2++cW kn):=ds2_dg.append hsd;have hl2:(ds2++cW kn).length<=1000000000:=by rw[List.length_append,ds2_len];omega
  obtain⟨a3,c3,rfl,-⟩:=j7 h5;refine bw (cG (Φ:=fun _ w' v' w2=>∃lv,v'= .agg #[.bool false,lv]∧cw w2 (Nf w' w2) lv (dO (gD (ds2++cW kn)))) (fun O w' r=>?_) ?_)
  ·have h8:=iS h5 (Dz.row _) r;have h9:=pK h8 hnl (by unfold maxLen;omega);have h10:=Ci (w:=w') (fun g hg=>(ownsRow.low h8 g hg).2) h9 hdg2 hl2;exact h10
  rintro O wp v1 wq r he hb ⟨lv,rfl,hL⟩;have hLN:=hL.cd (S:=fun _=>False) r.bu (iv:=[(wp.heap.size,wq.heap.size)]) aH;have hLN:cw wq (Cf w ((wp.heap.size,wq.heap.size)::qA (.slice a3 (cs.length+(cW kn).length) c3))) lv (dO (gD (ds2++cW kn))):=hL.cC fun g hg=>hg.cd r.bu aH;replace hw:=hw.tr hb;generalize (wp.heap.size,wq.heap.size)::qA (.slice a3 (cs.length+(cW kn).length) c3)=ivq at*
  obtain⟨hnz,hvv⟩:=yV hdg2;obtain⟨a4,n4,c4,rfl⟩:=hLN.shape;have hcv: -dA cs=kj (ds2++cW kn):=by rw[hspec2,uf,(jw kn).1,ds2_len]
  obtain⟨pp,hpe,hpp⟩:=hLN.la;injection hpe with hpe1 hpe2 hpe3;subst hpe1 hpe2 hpe3;have hlenpos:0<pp.ls.length:=by
   rw[hpp];rcases bH (dO (gD (ds2++cW kn))).length with h0|h0
   ·rw[List.eq_nil_of_length_eq_zero h0]at hvv;simp[val]at hvv;omega
   ·exact h0
  intro ρe we re;refine⟨_,rfl,hw.tr re.cI,dO (gD (ds2++cW kn)),⟨_,?_,hLN.out re (bs w)⟩,hnz,?_⟩
  ·rw[bT hV];have:decide ((pp.ls.length:Int)>0)=true:=bT (by omega);rw[<-this];rfl
  ·have:((val (dO (gD (ds2++cW kn))):Nat):Int)= -dA cs:=by rw[hvv,hcv]
   omega
 ·have hneg:=aF hneg;obtain⟨kn,rfl⟩:∃kn:Nat,k=kn:=⟨k.toNat,by omega⟩
  have ds_len:ds.length=cs.length:=hdl;have ds_dg:Dg ds:=hdg;refine bw (cG (Φ:=fun _ w' v w2=>dR w2 (Nf w' w2) v (db (cW kn))) (fun O w' r=>by exact Ch kn w' (by omega)) ?_);rintro O ws vs wt r he hb hsp;have hspN:dR wt (Cf w ((ws.heap.size,wt.heap.size)::iv)) vs (db (cW kn)):=dR.cC hsp fun g hg=>hg.cd r.bu aH;replace hrow:=ownsRow.cB (iS hrow hrowc r) fun g hg=>he.block g (by have:=(ownsRow.low (iS hrow hrowc r) g hg).2;exact this);replace hrowc:Dz ((ws.heap.size,wt.heap.size)::iv) _:=hrowc.mono fun p hp=>aB _ hp;replace hw:=hw.tr hb;generalize (ws.heap.size,wt.heap.size)::iv=qp at*
  obtain⟨asp,csp,rfl,-⟩:=hspN.shape;rw[eO]at hspN ⊢;have hsl:=ie (n:=kn) (k:=4) (by omega);have hsd:=(jw kn).2
  refine .inr (wO hτ (aE _) (xs:=(db ds).map (Value.int .i64)) (news:=(db (cW kn)).map (Value.int .i64)) (m:=cs.length) (k:=(cW kn).length) (by rfl) (by rfl) (by decide) (by rfl) (by rfl) (fun O w' r=>⟨iS hrow hrowc r,fun g hg=>hrowc.not r hg⟩) (by simp[db]) (by intro u hu;simp at hu;obtain⟨_,_,rfl⟩:=hu;rfl) (by unfold maxLen;omega) (by omega)
   (fun O w' r=>?_) (fun v' w2=>qA v') (fun O w' v' w2 r hsz hob=>sZ hrowc r hob) (fun O w' v' w2 r h5 h6 h7=>?_))
  ·obtain⟨_,_,_,a2,c2,e2,_,e3⟩:=hspN;injection e2 with e4 e5 e6;subst e4 e6
   cases asp with
   |none=>
    have h0:(cW kn).length=0:=by
     rcases bH (cW kn).length with h0|h0
     ·exact h0
     ·obtain⟨ad2,q1,_⟩:=e3 0 _ (aA (show 0<((db (cW kn)).map (Value.int .i64)).length by simp[db];exact h0))
      cases q1
    exact .inl ⟨csp,by rw[h0];rfl,h0⟩
   |some ad3=>
    refine .inr ⟨ad3,csp,rfl,fun j u hu=>?_⟩;obtain⟨ad2,q1,q2,q3⟩:=e3 j u hu;injection q1 with q1;subst q1;rw[cJ (w:=wt) (w2:=w') (by rw[eA];exact Rel.same r (bs w) q2)];exact q3
  replace hw:cR w.heap.size w w2:=(hw.tr r.cI).tr (cR.grown h6 (fun g hg=>by
   have:=(ownsRow.low hrow g hg).1;omega) r.bu)
  have hcat:(db ds).map (Value.int .i64)++(db (cW kn)).map (Value.int .i64)=(db (ds++cW kn)).map (Value.int .i64):=by rw[s8,List.map_append]
  rw[hcat]at h5;have hnl:cs.length+(cW kn).length=(db (ds++cW kn)).length:=by rw[eO,List.length_append,ds_len]
  have hdg2:Dg (ds++cW kn):=ds_dg.append hsd;have hl2:(ds++cW kn).length<=1000000000:=by rw[List.length_append,ds_len];omega
  obtain⟨a3,c3,rfl,-⟩:=j7 h5;refine bw (cG (Φ:=fun _ w' v' w2=>∃lv,v'= .agg #[.bool false,lv]∧cw w2 (Nf w' w2) lv (dO (gD (ds++cW kn)))) (fun O w' r=>?_) ?_)
  ·have h8:=iS h5 (Dz.row _) r;have h9:=pK h8 hnl (by unfold maxLen;omega);have h10:=Ci (w:=w') (fun g hg=>(ownsRow.low h8 g hg).2) h9 hdg2 hl2;exact h10
  rintro O wp v1 wq r he hb ⟨lv,rfl,hL⟩;have hLN:=hL.cd (S:=fun _=>False) r.bu (iv:=[(wp.heap.size,wq.heap.size)]) aH;have hLN:cw wq (Cf w ((wp.heap.size,wq.heap.size)::qA (.slice a3 (cs.length+(cW kn).length) c3))) lv (dO (gD (ds++cW kn))):=hL.cC fun g hg=>hg.cd r.bu aH;replace hw:=hw.tr hb;generalize (wp.heap.size,wq.heap.size)::qA (.slice a3 (cs.length+(cW kn).length) c3)=ivq at*
  obtain⟨hnz,hvv⟩:=yV hdg2;obtain⟨a4,n4,c4,rfl⟩:=hLN.shape;intro ρe we re;have hcv:dA cs=kj (ds++cW kn):=by rw[hspec,uf,(jw kn).1,ds_len]
  refine⟨_,rfl,hw.tr re.cI,dO (gD (ds++cW kn)),⟨_,?_,hLN.out re (bs w)⟩,hnz,?_⟩
  ·have:¬dA cs<0:=by rw[hcv,<-hvv];omega
   rw[bF this];rfl
  ·rw[hcv,<-hvv];rfl
theorem Jm(n:Int):dA [n.tmod 65536,(n.tdiv 65536).tmod 65536,(n.tdiv 65536).tdiv 65536]=n:=by
 simp only[dA]
 have h1:=Int.mul_tdiv_add_tmod n 65536;have h2:=Int.mul_tdiv_add_tmod (n.tdiv 65536) 65536;omega
theorem jm(n:Int)(w:World)(h1: -9223372036854775808<=n)(h2:n<=9223372036854775807):
  di PG N.CS #[.int .i64 n] w (dw w fun v w2=>cZ w2 (Nf w w2) v n):=by
 refine CU (by simp) ?_;have b1:=tx n;have b2:=tx (n.tdiv 65536);have e1:=Int.mul_tdiv_add_tmod n 65536;have e2:=Int.mul_tdiv_add_tmod (n.tdiv 65536) 65536;have hsum:=Jm n;refine⟨by decide,n.tmod 65536,rfl,by decide,n.tdiv 65536,wo,by decide,_,rfl,by decide,n.tdiv 65536,wo,by decide,(n.tdiv 65536).tdiv 65536,wo,?_⟩;generalize n.tmod 65536=c0 at*
 generalize (n.tdiv 65536).tmod 65536=c1 at*
 generalize (n.tdiv 65536).tdiv 65536=c2 at*
 refine bw (cG (Φ:=fun _ w' v w2=>cZ w2 (Nf w' w2) v n) (fun O w' r=>?_) ?_)
 ·rw[<-hsum];have ha:=r.oe (id:=1) (sz:=1) (n:=3) rfl rfl (by decide) (by intro u hu;simp at hu;rcases hu with rfl|rfl|rfl<;>rfl)
  exact tz (S:=fun g=>g=(O 1).g) (fun g hg=>by rw[hg];exact(r.low 1 _ rfl (r.nn 1 _ rfl (by intros;simp) (by simp))).2) (cs:=[c0,c1,c2]) ha (by
   intro c hc;simp at hc
   rcases hc with rfl|rfl|rfl<;>omega) (by simp)
 rintro O wa v1 wb r he hb hI;have hI:=hI.cd (S:=fun _=>False) r.bu (iv:=(wa.heap.size,wb.heap.size)::[]) aH;generalize (wa.heap.size,wb.heap.size)::[]=iv at*
 obtain⟨b,a,m,c,rfl⟩:=hI.shape;intro ρe we re;exact⟨_,rfl,hb.tr re.cI,hI.out re (bs w)⟩
def jF(z:Int):Value:=if z.natAbs<1073741824 then .tuple #[.int .i64 z,.bool true]else .tuple #[.int .i64 0,.bool false]
theorem ix.Cj(h:ix w S v z):∃b a ls c,v= .agg #[.bool b,.slice a ls.length c]∧cw w S (.slice a ls.length c) ls∧sg b (val ls)=z:=by
 obtain⟨b,ls,⟨lv,h1,h2⟩,h3⟩:=h;obtain⟨a,c,rfl,_⟩:=h2.sl;exact⟨b,a,ls,c,h1,h2,h3⟩
theorem Il{x:Nat}(h:ls[i]? =some x):wt i*x<=val ls:=by
 have hi:=(aC.1 h).1;have h1:=eK ls (i+1) hi;rw[dJ h]at h1;omega
theorem K0(h:0<i):4294967296<=wt i:=by
 obtain⟨k,rfl⟩:∃k,i=k+1:=⟨i-1,by omega⟩
 have:=wY k;rw[gz];omega
theorem mL(hS:Old S w)(hI:ix w S v z):
  di PG N.uY #[v] w (dw w fun v' _=>v'=jF z):=by
 obtain⟨b,a,ls,c,rfl,hL,hz⟩:=hI.Cj;refine xy (by simp) ?_;have hlen:=hL.le
 refine⟨Nat×World,fun y=>⟨[(1,.o (.p 0 0)),(4,.o (.v (.int .i64 (val (ls.take y.1))))),(5,.o (.v (.int .i64 y.1)))],[(0,.box T.Int [.v (.bool b),.v (.slice a ls.length c)])],1,[],y.2⟩,fun y=>ls.length-y.1,
  fun y=>y.1<=ls.length∧cR w.heap.size w y.2∧val (ls.take y.1)<1073741824∧(∀j,0<j->j<y.1->ls[j]? =some 0),?_,?_⟩
 ·intro O w' r;exact⟨(0,w'),⟨by simp,r.cI,by simp[val],by omega⟩,Sub.gn [] r⟩
 rintro⟨i,w1⟩ ⟨hi,hw,hv,h0⟩;dsimp only at hi hw hv h0 ⊢;refine dF.mk (fun hib=>?_) (fun hib=>?_)
 ·have hib:i<ls.length:=by simpa using hib
  obtain⟨a',c',e,_,hcell⟩:=hL.sl;injection e with e1 e2 e3;subst e1 e3;obtain⟨x,hx⟩:∃x,ls[i]? =some x:=⟨_,aA hib⟩
  have hx32:=hL.lm x (aD hx);obtain⟨ad,rfl,q1,q2⟩:=hcell i x hx;have hld:∀{H nx iv O w'},Rel H nx iv w.heap.size w1 O w'->w'.cell? (ad.add ((i:Int).toNat*1))=some (.int .u32 x):=fun r=>by
   rw[aJ,aV];exact jk hS hw r q1 q2
  have hge:=Il hx;refine dF.mk (fun hp=>?_) (fun hp=>?_)
  ·have hp:0<i:=by
    have:(i:Int)>0:=aG hp;omega
   have hw1:=K0 hp;refine⟨ad,rfl,by omega,.int .u32 x,fun O w' r=>hld r,?_⟩;refine dF.mk (fun hne=>?_) (fun hne=>?_)
   ·have hne:x≠0:=by simpa using hne
    intro ρe we re;refine⟨_,rfl,hw.tr re.cI,?_⟩;have:¬z.natAbs<1073741824:=by
     have:=Nat.mul_le_mul hw1 (show 1<=x by omega);rw[<-hz,qm];omega
    show _=jF z;rw[jF,aI this];rfl
   ·have hne:x=0:=by simpa using hne
    subst hne;refine⟨ad,rfl,by omega,.int .u32 0,fun O w' r=>hld r,?_⟩;have hnx:val (ls.take (i+1))=val (ls.take i):=by rw[dJ hx];omega
    have hv2:val (ls.take (i+1))<1073741824:=by rw[hnx];exact hv
    have h02:∀j,0<j->j<i+1->ls[j]? =some 0:=fun j h1 h2=>by
     rcases aO j i with h3|h3
     ·exact h0 j h1 h3
     ·have:j=i:=by omega
      rw[this];exact hx
    refine⟨ad,rfl,by omega,.int .u32 0,fun O w' r=>hld r,((0:Nat):Int),by decide,((val (ls.take (i+1)):Nat):Int),by rw[hnx,wrap64]<;>omega,((i+1:Nat):Int),wo,?_⟩;intro ρ3 w3 r3;exact⟨(i+1,w3),⟨hib,hw.tr r3.cI,hv2,h02⟩,Sub.gn [] r3,by dsimp only;omega⟩
  ·have hp:i=0:=by
    have:¬((i:Int)>0):=aF hp;omega
   subst hp;refine⟨ad,rfl,by omega,.int .u32 x,fun O w' r=>hld r,?_⟩;refine dF.mk (fun hbig=>?_) (fun hbig=>?_)
   ·have hbig:=aG hbig;intro ρe we re;refine⟨_,rfl,hw.tr re.cI,?_⟩;have:¬z.natAbs<1073741824:=by
     rw[<-hz,qm];rw[iR]at hge;omega
    show _=jF z;rw[jF,aI this];rfl
   ·have hbig:=aF hbig;have hnx:val (ls.take (0+1))=x:=by rw[dJ hx];simp[val,iR]
    have hv2:val (ls.take (0+1))<1073741824:=by rw[hnx];omega
    have h02:∀j,0<j->j<0+1->ls[j]? =some 0:=fun j h1 h2=>by
     omega
    refine⟨ad,rfl,by omega,.int .u32 x,fun O w' r=>hld r,((x:Nat):Int),wo,((val (ls.take (0+1)):Nat):Int),by rw[hnx,wrap64]<;>simp[val]<;>omega,((0+1:Nat):Int),wo,?_⟩;intro ρ3 w3 r3;exact⟨(0+1,w3),⟨hib,hw.tr r3.cI,hv2,h02⟩,Sub.gn [] r3,by dsimp only;omega⟩
 ·have hib:i=ls.length:=by
   have:¬i<ls.length:=by simpa using hib
   omega
  subst hib;rw[bC]at hv ⊢;have hlt:z.natAbs<1073741824:=by rw[<-hz,qm];exact hv
  cases b with
  |true=>
   refine⟨-(val ls:Int),wo,?_⟩;intro ρe we re;refine⟨_,rfl,hw.tr re.cI,?_⟩;show _=jF z;rw[jF,if_pos hlt,<-hz,HX];rfl
  |false=>
   intro ρe we re;refine⟨_,rfl,hw.tr re.cI,?_⟩;show _=jF z;rw[jF,if_pos hlt,<-hz,Jg];rfl
theorem AP{a b:Int}(hb:b≠0):a.tdiv (b.sign*(Nat.gcd a.natAbs b.natAbs:Nat))=(Rat.divInt a b).num∧b.tdiv (b.sign*(Nat.gcd a.natAbs b.natAbs:Nat))=((Rat.divInt a b).den:Int):=by
 have hg:0<Nat.gcd a.natAbs b.natAbs:=bf _ (by omega);obtain⟨k,hk⟩:((Nat.gcd a.natAbs b.natAbs:Nat):Int) ∣ a:=by rw[<-Int.natAbs_dvd_natAbs];exact Nat.gcd_dvd_left _ _
 obtain⟨l,hl⟩:((Nat.gcd a.natAbs b.natAbs:Nat):Int) ∣ b:=by rw[<-Int.natAbs_dvd_natAbs];exact Nat.gcd_dvd_right _ _
 have hc:(b.gcd a:Int)=(Nat.gcd a.natAbs b.natAbs:Nat):=by rw[Int.gcd_comm];rfl
 have hc2:b.gcd a=Nat.gcd a.natAbs b.natAbs:=by rw[Int.gcd_comm];rfl
 rw[Rat.num_divInt,Rat.den_divInt,aI hb,hc,hc2];generalize Nat.gcd a.natAbs b.natAbs=g at*
 have hgi:(g:Int)≠0:=by omega
 have hs:b.sign*b.sign=1:=by
  rcases Int.lt_or_gt_of_ne hb with h|h
  ·rw[bY h];rfl
  ·rw[bc h];rfl
 have hs0:b.sign≠0:=fun e=>by rw[e]at hs;simp at hs
 have hne:b.sign*g≠0:=Int.mul_ne_zero hs0 hgi;have hab:((b.natAbs / g:Nat):Int)=b.sign*l:=by
  rw[Int.natCast_ediv,show((b.natAbs:Nat):Int)=b.sign*b by
   rcases Int.lt_or_gt_of_ne hb with h|h
   ·rw[bY h];omega
   ·rw[bc h];omega]
  conv=>lhs;lhs;rhs;rw[hl]
  rw[show b.sign*(↑g*l)= ↑g*(b.sign*l) by rw[<-Int.mul_assoc,<-Int.mul_assoc,Int.mul_comm b.sign]];exact Int.mul_ediv_cancel_left _ hgi
 constructor
 ·rw[show b.sign*a / (g:Int)=b.sign*k by
   conv=>lhs;lhs;rhs;rw[hk]
   rw[show b.sign*(↑g*k)= ↑g*(b.sign*k) by rw[<-Int.mul_assoc,<-Int.mul_assoc,Int.mul_comm b.sign]]
   exact Int.mul_ediv_cancel_left _ hgi]
  conv=>lhs;lhs;rw[hk,show(g:Int)*k=(b.sign*g)*(b.sign*k) by
   rw[show (b.sign* ↑g)*(b.sign*k)=(b.sign*b.sign)*(↑g*k) by simp only[Int.mul_assoc,Int.mul_comm,Int.mul_left_comm],hs,Int.one_mul]]
  exact Int.mul_tdiv_cancel_left _ hne
 ·rw[hab]
  conv=>lhs;lhs;rw[hl,show(g:Int)*l=(b.sign*g)*(b.sign*l) by
   rw[show (b.sign* ↑g)*(b.sign*l)=(b.sign*b.sign)*(↑g*l) by simp only[Int.mul_assoc,Int.mul_comm,Int.mul_left_comm],hs,Int.one_mul]]
  exact Int.mul_tdiv_cancel_left _ hne
theorem pL(a b:Int)(w:World)(ha:a.natAbs<4611686018427387904)(hb:b.natAbs<4611686018427387904)(hb0:b≠0):
  di PG N.rf #[.int .i64 a,.int .i64 b] w (dw w fun v w2=>cM w2 (Nf w w2) v (Rat.divInt a b)):=by
 refine vE (by simp) ?_;refine⟨-a,wo,-b,wo,?_⟩;conv=>whnf
 rw[show max a (-a)=(a.natAbs:Int) by omega,show max b (-b)=(b.natAbs:Int) by omega]
 refine⟨Nat×Nat×World,fun z=>⟨[(0,.o (.v (.int .i64 a))),(1,.o (.v (.int .i64 b))),(4,.o (.p 0 0)),(5,.o (.v (.int .i64 z.1))),(6,.o (.v (.int .i64 z.2.1)))],[(0,.box T.Rat [.v (.bool false),.v (.slice none 0 0),.v (.bool false),.v (.slice none 0 0)])],1,[],z.2.2⟩,fun z=>z.2.1,
  fun z=>cR w.heap.size w z.2.2∧Nat.gcd z.1 z.2.1=Nat.gcd a.natAbs b.natAbs∧z.1<4611686018427387904∧z.2.1<4611686018427387904,?_,?_⟩
 ·intro O w' r;exact⟨(a.natAbs,b.natAbs,w'),⟨r.cI,rfl,ha,hb⟩,Sub.gn [] r⟩
 rintro⟨x,y,w1⟩ ⟨hw,hg,hx,hy⟩;dsimp only at hw hg hx hy ⊢;conv=>whnf
 refine dF.mk (fun h=>?_) (fun h=>?_)
 ·have h:0<y:=by
   have:(y:Int)>0:=aG h;omega
  refine cF hτ dc [.x 0,.x 1,.x 2,.x 3,.x 4,.x 5] (by kernel_rfl) (by kernel_rfl) ?_;have hm:=bm x h;refine⟨by omega,((x % y:Nat):Int),rfl,?_⟩;intro ρ3 w3 r3;exact⟨(y,x % y,w3),⟨hw.tr r3.cI,by dsimp only;rw[<-hg,Nat.gcd_comm x y,Nat.gcd_rec y x,Nat.gcd_comm],hy,by dsimp only;omega⟩,Sub.gn [] r3,by dsimp only;omega⟩
 have h:y=0:=by
  have:¬(y:Int)>0:=aF h;omega
 subst h;rw[Nat.gcd_zero_right]at hg;have hx0:x≠0:=by rw[hg];exact Nat.pos_iff_ne_zero.1 (bf _ (by omega))
 obtain⟨hn,hd⟩:=AP (a:=a) hb0;rw[<-hg]at hn hd;have bn:(Rat.divInt a b).num.natAbs<=a.natAbs:=by rw[<-hn];exact Int.natAbs_tdiv_le_natAbs _ _
 have bd:((Rat.divInt a b).den:Int).natAbs<=b.natAbs:=by rw[<-hd];exact Int.natAbs_tdiv_le_natAbs _ _
 refine dF.mk (fun hb1=>?_) (fun hb1=>?_)
 ·have hb1:=aG hb1;rw[bY hb1,Int.neg_one_mul]at hn hd;refine⟨-(x:Int),wo,?_⟩;refine cF hτ dc [.x 0,.x 1,.x 2,.x 4,.x 5,.x 6,.x 3,.x 7,.x 8,.x 9] (by kernel_rfl) (by kernel_rfl) ?_;refine⟨by omega,(Rat.divInt a b).num,by rw[hn,wrap64]<;>omega,by omega,((Rat.divInt a b).den:Int),by rw[hd,wrap64]<;>omega,?_⟩;refine cG (Φ:=fun _ w' v w2=>cZ w2 (Nf w' w2) v (Rat.divInt a b).num) (fun O w' r=>jm _ w' (by omega) (by omega)) ?_;rintro O wa v1 wb r he hbb hI;replace hw:=hw.tr hbb;have hN:=hI.cd (S:=fun _=>False) r.bu (iv:=(wa.heap.size,wb.heap.size)::[]) aH;generalize (wa.heap.size,wb.heap.size)::[]=iv at*
  obtain⟨b1,a1,m1,c1,rfl⟩:=hN.shape;refine cG (Φ:=fun _ w' v w2=>cZ w2 (Nf w' w2) v ((Rat.divInt a b).den:Int)) (fun O w' r=>jm _ w' (by omega) (by omega)) ?_;rintro O wa v1 wb2 r he hbb hI;replace hw:=hw.tr hbb;replace hN:=hN.bz (iv':=(wa.heap.size,wb2.heap.size)::iv) r (bs w) he fun x hx=>aB _ hx;have hD:=hI.cd (S:=fun _=>False) r.bu (iv:=(wa.heap.size,wb2.heap.size)::iv) aH;generalize (wa.heap.size,wb2.heap.size)::iv=iv2 at*
  obtain⟨b2,a2,m2,c2,rfl⟩:=hD.shape;intro ρe we re;exact⟨_,rfl,hw.tr re.cI,(cM.of hN hD).out re (bs w)⟩
 ·have hb1:=aF hb1;rw[bc (by omega),Int.one_mul]at hn hd;refine cF hτ dc [.x 0,.x 1,.x 2,.x 4,.x 5,.x 6,.x 3,.x 7,.x 8,.x 9] (by kernel_rfl) (by kernel_rfl) ?_;refine⟨by omega,(Rat.divInt a b).num,by rw[hn,wrap64]<;>omega,by omega,((Rat.divInt a b).den:Int),by rw[hd,wrap64]<;>omega,?_⟩;refine cG (Φ:=fun _ w' v w2=>cZ w2 (Nf w' w2) v (Rat.divInt a b).num) (fun O w' r=>jm _ w' (by omega) (by omega)) ?_;rintro O wa v1 wb r he hbb hI;replace hw:=hw.tr hbb;have hN:=hI.cd (S:=fun _=>False) r.bu (iv:=(wa.heap.size,wb.heap.size)::[]) aH;generalize (wa.heap.size,wb.heap.size)::[]=iv at*
  obtain⟨b1,a1,m1,c1,rfl⟩:=hN.shape;refine cG (Φ:=fun _ w' v w2=>cZ w2 (Nf w' w2) v ((Rat.divInt a b).den:Int)) (fun O w' r=>jm _ w' (by omega) (by omega)) ?_;rintro O wa v1 wb2 r he hbb hI;replace hw:=hw.tr hbb;replace hN:=hN.bz (iv':=(wa.heap.size,wb2.heap.size)::iv) r (bs w) he fun x hx=>aB _ hx;have hD:=hI.cd (S:=fun _=>False) r.bu (iv:=(wa.heap.size,wb2.heap.size)::iv) aH;generalize (wa.heap.size,wb2.heap.size)::iv=iv2 at*
  obtain⟨b2,a2,m2,c2,rfl⟩:=hD.shape;intro ρe we re;exact⟨_,rfl,hw.tr re.cI,(cM.of hN hD).out re (bs w)⟩
theorem s9(h:z.natAbs<1073741824):jF z= .tuple #[.int .i64 z,.bool true]:=if_pos h
theorem BQ{x y:Int}(hS:Old S w)(hx:ix w S v x)(hy:ix w S u y)(hxs:x.natAbs<1073741824)(hys:y.natAbs<1073741824)(hy0:y≠0):
  di PG N.qV #[v,u] w (dw w fun v' w2=>cM w2 (Nf w w2) v' (Rat.divInt x y)):=by
 have hw:cR w.heap.size w w:=cR.refl;replace hx:=hx.cC (S':=Cv S w.heap.size []) fun _ h=>.inl h;replace hy:=hy.cC (S':=Cv S w.heap.size []) fun _ h=>.inl h;obtain⟨bx,ax,lx,cx,rfl⟩:=hx.shape;obtain⟨b2,ay,ly,cy,rfl⟩:=hy.shape;refine pr (by simp) ?_;refine bw (cE hw (fun _ w' v w2=>v= .tuple #[.int .i64 x,.bool true]) (fun O w' r=>(mL (Rel.old r hS) (hx.rel r hS)).mono fun e w2 ⟨v2,e1,e2,e3⟩=>⟨v2,e1,e2,by rw[e3,s9 hxs]⟩) ?_);rintro O wa1 v1 wb1 iv1 r he hw h_ rfl;replace hx:=hx.bz r hS he (mC h_);replace hy:=hy.bz r hS he (mC h_);refine bw (cE hw (fun _ w' v w2=>v= .tuple #[.int .i64 y,.bool true]) (fun O w' r=>(mL (Rel.old r hS) (hy.rel r hS)).mono fun e w2 ⟨v2,e1,e2,e3⟩=>⟨v2,e1,e2,by rw[e3,s9 hys]⟩) ?_);rintro O wa1 v1 wb1 iv2 r he hw h_ rfl;refine bw (cE hw (fun _ w' v w2=>cM w2 (Nf w' w2) v (Rat.divInt x y)) (fun O w' r=>pL x y w' (by omega) (by omega) hy0) ?_);rintro O wa v1 wb iv r he hw h_ hI;have hR:=hI.cd (S:=fun _=>False) r.bu (mN h_);obtain⟨b1,a1,m1,c1,b3,a3,m3,c3,rfl⟩:=hR.shape;intro ρe we re;exact⟨_,rfl,hw.tr re.cI,hR.out re (bs w)⟩
theorem yW(n:Int):Rat.divInt n 1=(n:Rat):=by
 have:=Rat.num_divInt_den (n:Rat);rw[Rat.num_intCast,Rat.den_intCast]at this;exact this
theorem sU(n:Int)(w:World)(hn:n.natAbs<1073741824):
  di PG N.oJ #[.int .i64 n] w (dw w fun v' w2=>cM w2 (Nf w w2) v' (n:Rat)):=by
 have hw:cR w.heap.size w w:=cR.refl;refine oU (by simp) ?_;refine bw (cG (Φ:=fun _ w' v w2=>cZ w2 (Nf w' w2) v n) (fun O w' r=>jm _ w' (by omega) (by omega)) ?_);rintro O wa v1 wb r he hbb hI;replace hw:=hw.tr hbb;have hN:=hI.cd (S:=fun _=>False) r.bu (iv:=(wa.heap.size,wb.heap.size)::[]) aH;generalize (wa.heap.size,wb.heap.size)::[]=iv at*
 obtain⟨b1,a1,m1,c1,rfl⟩:=hN.shape;refine bw (cG (Φ:=fun _ w' v w2=>cZ w2 (Nf w' w2) v 1) (fun O w' r=>jm _ w' (by omega) (by omega)) ?_);rintro O wa v1 wb2 r he hbb hI;replace hw:=hw.tr hbb;replace hN:=hN.bz (iv':=(wa.heap.size,wb2.heap.size)::iv) r (bs w) he fun x hx=>aB _ hx;have hD:=hI.cd (S:=fun _=>False) r.bu (iv:=(wa.heap.size,wb2.heap.size)::iv) aH;generalize (wa.heap.size,wb2.heap.size)::iv=iv2 at*
 obtain⟨b2,a2,m2,c2,rfl⟩:=hD.shape;refine bw (cE hw (fun _ w' v w2=>cM w2 (Nf w' w2) v (Rat.divInt n 1)) (fun O w' r=>BQ (Rel.old r (bs w)) (hN.rel r (bs w)).r (hD.rel r (bs w)).r hn (by decide) (by decide)) ?_);rintro O wa v1 wb iv r he hw h_ hI;have hR:=hI.cd (S:=fun _=>False) r.bu (mN h_);obtain⟨b1,a1,m1,c1,b3,a3,m3,c3,rfl⟩:=hR.shape;rw[yW]at hR;intro ρe we re;exact⟨_,rfl,hw.tr re.cI,hR.out re (bs w)⟩
theorem Im{n1 n2:Bool}{ms:List Nat}(hS:Old S w)(hx:sV w S v n1 ls)(hy:sV w S u n2 ms):
  di PG N.lY #[v,u] w (dw w fun v' _=>v'= .bool (decide (n1=n2∧ls=ms))):=by
 obtain⟨lv,rfl,h1⟩:=hx;obtain⟨mv,rfl,h2⟩:=hy;obtain⟨a,c,rfl,_,ha⟩:=h1.sl;obtain⟨b,e,rfl,_,hb⟩:=h2.sl;have hle1:=h1.le;have hle2:=h2.le;have hw:cR w.heap.size w w:=cR.refl;refine tY (by simp) ?_;refine dF.mk (fun hn=>?_) (fun hn=>?_)
 ·have hn:n1≠n2:=fun h=>by rw[h]at hn;simp at hn
  intro O w2 r;exact⟨_,rfl,r.cI,by rw[bF (fun h=>hn h.1)];rfl⟩
 have hn:n1=n2:=by simpa using hn
 subst hn;refine dF.mk (fun h=>?_) (fun h=>?_)
 ·have h:ls.length≠ms.length:=fun he=>by rw[he]at h;simp at h
  intro O w2 r;exact⟨_,rfl,r.cI,by rw[bF (fun e=>h (by rw[e.2]))];rfl⟩
 have h:ls.length=ms.length:=by
  have:(ls.length:Int)=ms.length:=by simpa using h
  omega
 refine⟨Nat×World,fun z=>⟨[(2,.o (.p 0 0)),(3,.o (.p 1 0)),(5,.o (.v (.int .i64 z.1)))],[(1,.box T.Int [.v (.bool n1),.v (.slice b ms.length e)]),(0,.box T.Int [.v (.bool n1),.v (.slice a ls.length c)])],2,[],z.2⟩,fun z=>ls.length-z.1,
  fun z=>z.1<=ls.length∧cR w.heap.size w z.2∧ls.take z.1=ms.take z.1,?_,?_⟩
 ·intro O w' r;exact⟨(0,w'),⟨by simp,r.cI,by simp⟩,Sub.gn [] r⟩
 rintro⟨i,w1⟩ ⟨hi,hw,ht⟩;dsimp only at hi hw ht ⊢;refine dF.mk (fun hib=>?_) (fun hib=>?_)
 ·have hib:i<ls.length:=by simpa using hib
  obtain⟨x,hx⟩:∃x,ls[i]? =some x:=⟨_,aA hib⟩
  obtain⟨y,hy⟩:∃x,ms[i]? =some x:=⟨_,aA (by omega)⟩
  obtain⟨ad,rfl,q1,q2⟩:=ha i x hx;obtain⟨ad2,rfl,q3,q4⟩:=hb i y hy;have hlx:∀{H nx iv O w'},Rel H nx iv w.heap.size w1 O w'->w'.cell? (ad.add ((i:Int).toNat*1))=some (.int .u32 x):=fun r=>by
   rw[aJ,aV];exact jk hS hw r q1 q2
  have hly:∀{H nx iv O w'},Rel H nx iv w.heap.size w1 O w'->w'.cell? (ad2.add ((i:Int).toNat*1))=some (.int .u32 y):=fun r=>by
   rw[aJ,aV];exact jk hS hw r q3 q4
  refine cF hτ dc [.x 0,.x 1,.x 2,.x 3,.x 4,.x 5,.x 6,.x 7,.x 8,.x 9,.x 10] (by kernel_rfl) (by kernel_rfl) ?_;refine⟨ad,rfl,by omega,.int .u32 x,fun O w' r=>hlx r,ad2,rfl,by omega,.int .u32 y,fun O w' r=>hly r,?_⟩;refine dF.mk (fun hne=>?_) (fun hne=>?_)
  ·have hne:x≠y:=fun h=>by rw[h]at hne;simp at hne
   intro O w2 r;refine⟨_,rfl,hw.tr r.cI,?_⟩
   rw[bF (fun e=>hne (by
    have:=e.2;rw[this,hy]at hx;injection hx with hx
    exact hx.symm))]
   rfl
  have hne:x=y:=by
   have:(x:Int)=y:=by simpa using hne
   omega
  subst hne;have ht2:ls.take (i+1)=ms.take (i+1):=by rw[List.take_add_one,List.take_add_one,ht,hx,hy]
  refine⟨((i+1:Nat):Int),wo,?_⟩;intro ρ3 w3 r3;exact⟨(i+1,w3),⟨hib,hw.tr r3.cI,ht2⟩,Sub.gn [] r3,by dsimp only;omega⟩
 have hib:i=ls.length:=by
  have:¬i<ls.length:=by simpa using hib
  omega
 subst hib;rw[bC,h,bC]at ht;intro O w2 r;exact⟨_,rfl,hw.tr r.cI,by rw[bT ⟨rfl,ht⟩];rfl⟩
theorem Fp{a:List Nat}(la:Lm a)(lb:Lm b)(na:Nz a)(nb:Nz b)(h:val a=val b):a=b:=by
 have:a.length=b.length:=by
  rcases bl a.length b.length with h1|h1|h1
  ·have:=hJ la nb h1;omega
  ·exact h1
  ·have:=hJ lb na h1;omega
 exact val_inj la lb this h
theorem AQ{x y:Int}(hS:Old S w)(hx:cZ w S v x)(hy:cZ w S u y):
  di PG N.lY #[v,u] w (dw w fun v' _=>v'= .bool (decide (x=y))):=by
 obtain⟨ls,h1,h2,h3⟩:=hx;obtain⟨ms,k1,k2,k3⟩:=hy;have e:decide (decide (x<0)=decide (y<0)∧ls=ms)=decide (x=y):=by
  refine decide_eq_decide.2 ⟨fun ⟨e1,e2⟩=>?_,fun e1=>?_⟩
  ·have e1:=decide_eq_decide.1 e1;rw[e2]at h3;omega
  ·subst e1;obtain⟨_,_,l1⟩:=h1;obtain⟨_,_,l2⟩:=k1;exact⟨rfl,Fp l1.lm l2.lm h2 k2 (by omega)⟩
 exact(Im hS h1 k1).mono fun _ w2 ⟨v2,e1,e2,e3⟩=>⟨v2,e1,e2,by rw[e3,e]⟩
theorem H8{p:Rat}(hS:Old S w)(hx:cM w S v p)(hy:cM w S u q):
  di PG N.xb #[v,u] w (dw w fun v' _=>v'= .bool (decide (p=q))):=by
 obtain⟨b1,a1,n1,c1,b2,a2,n2,c2,rfl⟩:=hx.shape;obtain⟨b3,a3,n3,c3,b4,a4,n4,c4,rfl⟩:=hy.shape;refine yj (by simp) ?_;refine bw (cG (Φ:=fun _ w' v w2=>v= .bool (decide (p.num=q.num))) (fun O w' r=>AQ (oS hS r) (hx.num.cB fun g hg=>r.cI.block g (hS g hg)) (hy.num.cB fun g hg=>r.cI.block g (hS g hg))) ?_);rintro O wa v1 wb r he hb rfl;have hw:=hb;generalize (wa.heap.size,wb.heap.size)::[]=iv at*
 refine dF.mk (fun h=>?_) (fun h=>?_)
 ·have h:=aG h;refine bw (cE hw (fun _ w' v w2=>v= .bool (decide ((p.den:Int)=q.den))) (fun O w' r=>AQ (oS hS r) (hx.den.cB (kS hw r hS)) (hy.den.cB (kS hw r hS))) ?_);rintro O wa v1 wb2 iv2 r he hw h_ rfl;intro ρe we re;refine⟨_,rfl,hw.tr re.cI,?_⟩;have:decide (p=q)=decide ((p.den:Int)=q.den):=decide_eq_decide.2 ⟨fun e=>by rw[e],fun e=>Rat.ext h (by omega)⟩;rw[this];rfl
 ·have h:=aF h;intro ρe we re;refine⟨_,rfl,hw.tr re.cI,?_⟩;rw[bF (fun e=>h (by rw[e]))];rfl
theorem yU{xs ys:List Rat}(hS:Old S w)(hx:cD w S v xs)(hy:cD w S u ys):
  di PG N.oG #[v,u] w (dw w fun v' _=>v'= .bool (decide (xs=ys))):=by
 obtain⟨a,c,rfl,hc,hm⟩:=dY.shape hx;obtain⟨b,e,rfl,hc2,hm2⟩:=dY.shape hy;unfold maxLen at hm hm2;refine sB (by simp) ?_;refine dF.mk (fun h=>?_) (fun h=>?_)
 ·have h:xs.length≠ys.length:=fun he=>by rw[he]at h;simp at h
  intro O w2 r;exact⟨_,rfl,r.cI,by rw[bF (fun e=>h (by rw[e]))];rfl⟩
 have h:xs.length=ys.length:=by
  have:(xs.length:Int)=ys.length:=by simpa using h
  omega
 refine⟨Nat×World,fun z=>⟨[(0,.o (.v (.slice a xs.length c))),(1,.o (.v (.slice b ys.length e))),(5,.o (.v (.int .i64 z.1)))],[],0,[],z.2⟩,fun z=>xs.length-z.1,
  fun z=>z.1<=xs.length∧cR w.heap.size w z.2∧xs.take z.1=ys.take z.1,?_,?_⟩
 ·intro O w' r;exact⟨(0,w'),⟨by simp,r.cI,by simp⟩,Sub.gn [] r⟩
 rintro⟨i,w1⟩ ⟨hi,hw,ht⟩;dsimp only at hi hw ht ⊢;refine dF.mk (fun hib=>?_) (fun hib=>?_)
 ·have hib:i<xs.length:=by simpa using hib
  obtain⟨x,hxi⟩:∃x,xs[i]? =some x:=⟨_,aA hib⟩
  obtain⟨y,hyi⟩:∃x,ys[i]? =some x:=⟨_,aA (by omega)⟩
  obtain⟨ad2,cs2,rfl,hR2,-,hl2⟩:=dY.load hy hyi;obtain⟨p2,q2,r2,s2,t2,u2,v2,w2,rfl,hR2⟩:=hR2;obtain⟨ad,cs,rfl,hR,-,hl⟩:=dY.load hx hxi;obtain⟨p1,q1,r1,s1,t1,u1,v1,w1,rfl,hR⟩:=hR;refine cF hτ dc [.x 0,.x 1,.x 2,.x 3,.x 4,.x 5,.x 6,.x 7,.x 8,.x 9] (by kernel_rfl) (by kernel_rfl) ?_;refine⟨ad,rfl,by omega,[.bool p1,.slice q1 r1 s1,.bool t1,.slice u1 v1 w1],rfl,rdO hl hw hS,ad2,rfl,by omega,[.bool p2,.slice q2 r2 s2,.bool t2,.slice u2 v2 w2],rfl,rdO hl2 hw hS,?_⟩;refine cE hw (fun _ w' v w2=>v= .bool (decide (x=y))) (fun O w' r=>H8 (oS hS r) (hR.cB (kS hw r hS)) (hR2.cB (kS hw r hS))) ?_;rintro O wa v1 wb iv2 r he hw h_ rfl;refine dF.mk (fun hne=>?_) (fun hne=>?_)
  ·have hne:x≠y:=fun h=>by rw[h]at hne;simp at hne
   intro O w2 r;refine⟨_,rfl,hw.tr r.cI,?_⟩
   rw[bF (fun e=>hne (by
    rw[e,hyi]at hxi;injection hxi with hxi
    exact hxi.symm))]
   rfl
  have hne:x=y:=by simpa using hne
  subst hne;have ht2:xs.take (i+1)=ys.take (i+1):=by rw[List.take_add_one,List.take_add_one,ht,hxi,hyi]
  refine⟨((i+1:Nat):Int),wo,?_⟩;intro ρ3 w3 r3;exact⟨(i+1,w3),⟨hib,hw.tr r3.cI,ht2⟩,Sub.gn [] r3,by dsimp only;omega⟩
 have hib:i=xs.length:=by
  have:¬i<xs.length:=by simpa using hib
  omega
 subst hib;rw[bC,h,bC]at ht;intro O w2 r;exact⟨_,rfl,hw.tr r.cI,by rw[bT ht];rfl⟩
theorem cM.zt{b b2:Bool}{a a2:Option Addr}{n c n2 c2:Nat}(h:cM w S (.agg #[.bool b,.slice a n c,.bool b2,.slice a2 n2 c2]) q):jD w S [.bool b,.slice a n c,.bool b2,.slice a2 n2 c2] q:=
 ⟨b,a,n,c,b2,a2,n2,c2,rfl,h⟩
theorem Rel.lt(r:Rel H nx iv B w O w'){id t:Nat}{cs:List At}(h:cX H id=some (.box t cs)):(O id).g<w'.heap.size:=(r.low id _ h (r.nn id _ h (by intros;simp) (by simp))).2
end Go.Ex
