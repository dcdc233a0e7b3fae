/- A part of the proof: texts X23 to X51. Each tells its conditions in its theorems. -/
import Derived.Test.YtkdcaknoaeicdaaGreatP2
import Derived.Test.YtkdcaknoaeicdaaGreatP3
import Derived.Test.YtkdcaknoaeicdaaGreatP4
namespace Go.Ex
open Go Go.Sx Go.Proofs
variable{xs:List Value}{n sz:Nat}{S:Nat->Prop}{v:Value}{w:World}
def qO(v:Value):Iv:=match v.ownBlock with
 |some g=>[(g,g+1)]
 |none=>[]
theorem A2{lo hi:Nat}:(lo,hi)∈qO v↔v.ownBlock=some lo∧hi=lo+1:=by
 unfold qO
 cases h:v.ownBlock with
 |none=>simp
 |some g=>simp;omega
def EN(iv:Iv)(v:Value):Prop:=∀b,v.ownBlock=some b->∃lo hi,(lo,hi)∈iv∧lo<=b∧b<hi
section
variable{S:Nat->Prop}{H:Hp}{nx:Nat}{iv iv':Iv}{B e sz m:Nat}{w w' w2:World}{O:Nat->Sx.dU}{v v':Value}{xs:List Value}
theorem EN.not(h:EN iv v)(r:Rel H nx iv B w O w'){b:Nat}(hb:v.ownBlock=some b):∀id c,cY H id=some c->(O id).nil=false->(O id).g≠b:=fun id c hc hn he=>by
 obtain⟨lo,hi,h1,h2,h3⟩:=h b hb;exact r.jy lo hi h1 id c hc hn (by omega)
theorem il(h:w.ownsRow B e sz v m xs)(hc:EN iv v)(r:Rel H nx iv B w O w'):w'.ownsRow B e sz v m xs:=
 ownsRow.cB h fun b hb=>r.sw b (ownsRow.low h b hb).2 fun id c hc' hn he=>hc.not r hb id c hc' hn he
theorem EN.row(v:Value):EN (qO v) v:=fun b hb=>⟨b,b+1,A2.2 ⟨hb,rfl⟩,by omega,by omega⟩
theorem EN.mono(h:EN iv v)(k:∀p,p∈iv->p∈iv'):EN iv' v:=fun b hb=>by
 obtain⟨lo,hi,h1,h2⟩:=h b hb;exact⟨lo,hi,k _ h1,h2⟩
theorem jh(h:w.ownsRow B e sz v m xs):∃a c,v= .slice a m c∧m<=c:=by
 rcases h.2 with⟨rfl,rfl⟩|⟨g,cap,cur,rfl,_,_,h1,_⟩
 ·exact⟨none,0,rfl,aE _⟩
 ·exact⟨_,cap,rfl,h1⟩
end
structure jN(w:World)(S:Nat->Prop)(sz:Nat)(v:Value)(xs:List Value)(n:Nat):Prop where
 le:n<=maxLen
 len:xs.length=n*sz
 one:∀u∈xs,u.oneCell'=true
 sl:∃a c,v= .slice a n c∧n<=c∧∀(j:Nat) u,xs[j]? =some u->∃ad,a=some ad∧S ad.block∧w.cell? (ad.add j)=some u
theorem jN.cB{w2:World}(h:jN w S sz v xs n)(hk:∀g,S g->w2.heap[g]? =w.heap[g]?):jN w2 S sz v xs n:=by
 obtain⟨h0,h1,h2,a,c,h3,h4,h5⟩:=h;refine⟨h0,h1,h2,a,c,h3,h4,fun j u hu=>?_⟩;obtain⟨ad,k1,k2,k3⟩:=h5 j u hu;exact⟨ad,k1,k2,by rw[cJ (hk _ (by rw[dq];exact k2))];exact k3⟩
theorem jN.cC{S':Nat->Prop}(h:jN w S sz v xs n)(hk:∀g,S g->S' g):jN w S' sz v xs n:=by
 obtain⟨h0,h1,h2,a,c,h3,h4,h5⟩:=h;refine⟨h0,h1,h2,a,c,h3,h4,fun j u hu=>?_⟩;obtain⟨ad,k1,k2,k3⟩:=h5 j u hu;exact⟨ad,k1,hk _ k2,k3⟩
section
variable{S S':Nat->Prop}{H:Hp}{nx:Nat}{iv iv':Iv}{B:Nat}{w w' w2:World}{O:Nat->Sx.dU}{v:Value}{sz n:Nat}{xs:List Value}
end
end Go.Ex
namespace Go.Sx
open Go Go.Ex Go.Proofs
variable{O:Nat->Sx.dU}
theorem Rel.lj{H:Hp}{nx:Nat}{iv:Iv}{B:Nat}{w w':World}(r:Rel H nx iv B w O w'){id t sz n:Nat}{cs:List At}(h:cY H id=some (.box t cs))(hl:cs.length=n*sz)(hn:n<=maxLen)(h1:∀u∈cs,(u.den O).oneCell'=true):
  jN w' (fun g=>g=(O id).g) sz (.slice (some ⟨(O id).g,0,none⟩) n n) (cs.map (At.den O)) n:=by
 refine⟨hn,by simpa using hl,fun u hu=>?_,_,_,rfl,aE _,fun j u hu=>⟨_,rfl,rfl,?_⟩⟩
 ·obtain⟨x,hx,rfl⟩:=aS.1 hu;exact h1 x hx
 ·have h0:(⟨(O id).g,0,none⟩:Addr).add j=⟨(O id).g,j,none⟩:=by
   cases j with
   |zero=>rfl
   |succ j=>simp[Addr.add]
  rw[h0,cell_of (r.box id t _ h)];exact hu
end Go.Sx
namespace Go.Ex
open Go Go.Sx Go.Proofs
theorem IJ{n:Nat}(h:n<=9223372036854775807):IntKind.i64.wrap (n:Int)=n:=by rw[wrap64]<;>omega
theorem JU{t b:Nat}(h:t<=9223372036854775807):IntKind.i64.wrap ((t:Int).tdiv (b:Int))=((t / b:Nat):Int):=by
 have h1:=Nat.div_le_self t b;rw[Int.tdiv_eq_ediv_of_nonneg (by omega),<-Int.natCast_ediv];exact IJ (by omega)
end Go.Ex
namespace Go.Ex
open Go Go.Sx Go.Proofs
def BZ:Value:=.agg #[.bool false,.slice none 0 0,.bool false,.slice none 0 0]
theorem mU{n:Int}(h1: -9223372036854775808<=n)(h2:n<=9223372036854775807):ln n.natAbs<=2:=fo.2 (by show n.natAbs<4294967296^2;omega)
end Go.Ex
namespace Go.Sx
open Go Go.Ex Go.Proofs
variable{cs:List Value}{O:Nat->Sx.dU}
theorem Rel.jq{H:Hp}{nx:Nat}{iv:Iv}{B:Nat}{w w':World}(r:Rel H nx iv B w O w'){id t m sz:Nat}(h:cY H id=some (.vec t sz cs))(hm:cs.length=m*sz)(hm1:m<=maxLen)(hs:0<sz)(h1:∀u∈cs,u.oneCell'=true):
  jN w' (fun g=>B<=g∧g<w'.heap.size) sz ((At.w id m).den O) cs m:=by
 rcases r.vec id t sz _ h with⟨hn,rfl⟩|⟨hn,spare,hb,hc,hcap⟩
 ·have hm0:m=0:=by
   rcases bJ m with h|h
   ·exact h
   ·have:=Nat.mul_pos h hs;simp at hm;omega
  subst hm0;refine⟨hm1,by simp,by simp,none,0,by simp[At.den,hn],aE _,by simp⟩
 ·refine⟨hm1,hm,h1,some ⟨(O id).g,0,none⟩,(O id).cap,by simp[At.den,hn],?_,fun j x hx=>⟨_,rfl,r.low id _ h hn,?_⟩⟩
  ·have h1:(cs++spare).length=cs.length+spare.length:=List.length_append;have h2:m*sz<=(O id).cap*sz:=by omega
   exact Nat.le_of_mul_le_mul_right h2 hs
  ·rw[dN,cell_of hb,aU,aK (aC.1 hx).1];exact hx
end Go.Sx
namespace Go.Ex
open Go Go.Sx Go.Proofs
end Go.Ex
namespace Go.Ex
open Go Go.Sx Go.Proofs
variable{qs:List Rat}{xs:List Value}{i:Nat}{O:Nat->Sx.dU}{q:Rat}
def signed:Bool->ByteArray->ByteArray
 |true,s=>⟨#[45]⟩++s
 |false,s=>s
def Jj(w:World)(S:Nat->Prop)(cs:List Value)(q:Rat):Prop:=∃b a n c b2 a2 n2 c2,cs=[.bool b,.slice a n c,.bool b2,.slice a2 n2 c2]∧dI w S (.agg #[.bool b,.slice a n c,.bool b2,.slice a2 n2 c2]) q
def Fr(w:World)(S:Nat->Prop)(css:List (List Value))(qs:List Rat):Prop:=css.length=qs.length∧∀(j:Nat) cs q,css[j]? =some cs->qs[j]? =some q->Jj w S cs q
section
variable{S S':Nat->Prop}{w w2:World}{cs:List Value}{css:List (List Value)}{q:Rat}{qs:List Rat}
end
section
variable{S S':Nat->Prop}{H:Hp}{nx:Nat}{iv iv':Iv}{B:Nat}{w w' w2:World}{O:Nat->Sx.dU}{css:List (List Value)}{qs:List Rat}
end
theorem fu:∀{css:List (List Value)},(∀cs∈css,cs.length=4)->css.flatten.length=css.length*4
 |[],_=>rfl
 |c::r,h=>by
  rw[List.flatten_cons,List.length_append,fu (fun cs hc=>h cs (aB _ hc)),h c aI,List.length_cons];omega
theorem flat_get:∀{css:List (List Value)} {j:Nat} {cs:List Value},(∀cs∈css,cs.length=4)->css[j]? =some cs->∀k u,cs[k]? =some u->css.flatten[j*4+k]? =some u
 |[],j,cs,_,hj,_,_,_=>by simp at hj
 |c::r,0,cs,h,hj,k,u,hu=>by
  simp at hj;subst hj;rw[List.flatten_cons,aK (by have:=(aC.1 hu).1;omega)];simpa using hu
 |c::r,j+1,cs,h,hj,k,u,hu=>by
  have hc:=h c aI;rw[List.flatten_cons,aN (by omega),hc,show(j+1)*4+k-4=j*4+k by omega];exact flat_get (fun cs hc=>h cs (aB _ hc)) (by simpa using hj) k u hu
theorem jg:∀{css:List (List Value)} {j:Nat} {cs:List Value},(∀cs∈css,cs.length=4)->j<css.length->css.flatten.take (j*4)++cs++css.flatten.drop (j*4+4)=(css.set j cs).flatten
 |[],j,cs,_,hj=>by simp at hj
 |c::r,0,cs,h,_=>by
  have hc:=h c aI;simp[List.flatten_cons,hc]
 |c::r,j+1,cs,h,hj=>by
  have hc:=h c aI
  rw[List.flatten_cons,show(j+1)*4=c.length+j*4 by omega,List.take_length_add_append,show c.length+j*4+4=c.length+(j*4+4) by omega,List.drop_length_add_append,List.set_cons_succ,List.flatten_cons,
   <-jg (fun cs hc=>h cs (aB _ hc)) (by simpa using hj),bX,bX,bX]
abbrev Out(B:Nat)(iv:Iv):Nat->Prop:=Cv (fun g=>g<B) B iv
theorem nM{H:Hp}{nx:Nat}{iv:Iv}{B Bc e sz m:Nat}{w w':World}{v:Value}(h:w.ownsRow Bc e sz v m xs)(hc:∀g,v.ownBlock=some g->Out B iv g)(r:Rel H nx iv B w O w'):w'.ownsRow Bc e sz v m xs:=
 ownsRow.cB h fun b hb=>Rel.same r (fun _ h=>h) (hc b hb)
theorem fw{w w1 w2:World}{row:Option Nat}(h:w.grownBy w1 row)(k:cQ w.heap.size w1 w2):w.grownBy w2 row:=
 ⟨k.os.trans h.os,k.tape.trans h.tape,k.output.trans h.output,ah h.size k.size,fun b hb hn=>(k.block b hb).trans (h.block b hb hn)⟩
def gQ(i:Nat)(f:Nat->Rat->Rat)(qs:List Rat):List Rat:=qs.mapIdx fun j q=>if j<i then f j q else q
theorem qu(f:Nat->Rat->Rat)(qs:List Rat):gQ 0 f qs=qs:=by
 apply bO;intro j;simp[gQ]
theorem tx(f:Nat->Rat->Rat)(qs:List Rat):gQ qs.length f qs=qs.mapIdx f:=by
 apply bO;intro j;simp only[gQ,List.getElem?_mapIdx]
 cases h:qs[j]? with
 |none=>rfl
 |some q=>simp[(aC.1 h).1]
theorem nN{f:Nat->Rat->Rat}(h:qs[i]? =some q):(gQ i f qs).set i (f i q)=gQ (i+1) f qs:=by
 apply bO;intro j;have hi:=(aC.1 h).1;by_cases hij:i=j
 ·subst hij;rw[aT (by simp[gQ];exact hi)];simp[gQ,List.getElem?_mapIdx,h]
 ·rw[aw hij];simp only[gQ,List.getElem?_mapIdx]
  have:(j<i)↔(j<i+1):=by omega
  simp[this]
theorem Dr{f:Nat->Rat->Rat}(h:qs[i]? =some q)(hf:f i q=q):gQ i f qs=gQ (i+1) f qs:=by
 rw[<-nN h,hf];apply bO;intro j;have hi:=(aC.1 h).1;by_cases hij:i=j
 ·subst hij;rw[aT (by simp[gQ];exact hi)];simp[gQ,List.getElem?_mapIdx,h]
 ·rw[aw hij]
theorem ya{f:Nat->Rat->Rat}(h:qs[i]? =some q):(gQ i f qs)[i]? =some q:=by
 simp only[gQ,List.getElem?_mapIdx,h]
 simp
section
variable{C C' S S':Nat->Prop}{H:Hp}{nx:Nat}{iv iv':Iv}{B:Nat}{w w' w2:World}{O:Nat->Sx.dU}{v:Value}{qs:List Rat}
end
end Go.Ex
namespace Go.Ex
variable{M:List (List Rat)}{s:List (List Rat)×List Nat}{r:List Rat}{i n:Nat}
def cd(M:List (List Rat))(i c:Nat):Rat:=(M.getD i []).getD c 0
def gk(M:List (List Rat))(c:Nat):Nat->Nat->Nat
 |0,k=>k
 |f+1,k=>if cd M k c=0 then gk M c f (k+1)else k
def jK{α:Type}(d:α)(l:List α)(i j:Nat):List α:=(l.set i (l.getD j d)).set j (l.getD i d)
def xA(p:Rat)(ps:List Rat)(j:Nat)(q:Rat):Rat:=q+p*ps.getD j 0
def gl(M:List (List Rat))(at_ c i:Nat):List (List Rat):=M.mapIdx fun j r=>if j<i∧j≠at_ then r.mapIdx (xA (-(r.getD c 0)) (M.getD at_ []))else r
def scaled(M:List (List Rat))(at_ c:Nat):List (List Rat):=M.set at_ ((M.getD at_ []).map (· *(1 / cd M at_ c)))
def db(s:List (List Rat)×List Nat)(c:Nat):List (List Rat)×List Nat:=
 if s.2.length<s.1.length then
  let k:=gk s.1 c (s.1.length-s.2.length) s.2.length
  if k=s.1.length then s else
   let M1:=scaled (jK [] s.1 s.2.length k) s.2.length c
   (gl M1 s.2.length c M1.length,s.2++[c])
 else s
def cG(M:List (List Rat))(cols:Nat):List (List Rat)×List Nat:=(List.range cols).foldl db (M,[])
theorem kC{α:Type}(d:α)(l:List α)(i j:Nat):(jK d l i j).length=l.length:=by simp[jK]
theorem xm(M:List (List Rat))(a c i:Nat):(gl M a c i).length=M.length:=by simp[gl]
theorem pt(M:List (List Rat))(a c:Nat):(scaled M a c).length=M.length:=by simp[scaled]
theorem mm(s:List (List Rat)×List Nat)(c:Nat):(db s c).1.length=s.1.length:=by
 unfold db;split
 ·dsimp only
  split
  ·rfl
  ·dsimp only
   rw[xm,pt,kC]
 ·rfl
theorem wy(M:List (List Rat))(c:Nat):∀f k,k<=gk M c f k∧gk M c f k<=k+f
 |0,k=>⟨aE _,aE _⟩
 |f+1,k=>by
  unfold gk;split
  ·have:=wy M c f (k+1);omega
  ·omega
theorem wz(M:List (List Rat))(c:Nat):∀f k,gk M c f k<k+f->cd M (gk M c f k) c≠0
 |0,k,h=>by simp[gk]at h
 |f+1,k,h=>by
  unfold gk at h ⊢;split
  ·rename_i h0;rw[if_pos h0]at h;exact wz M c f (k+1) (by omega)
  ·rename_i h0;exact h0
theorem DW{c f k:Nat}(h:cd M k c=0):gk M c (f+1) k=gk M c f (k+1):=by rw[gk,if_pos h]
theorem DZ{c f k:Nat}(h:cd M k c≠0):gk M c (f+1) k=k:=by rw[gk,aF h]
theorem D2(M:List (List Rat))(a c i:Nat):(gl M a c i)[a]? =M[a]? :=by
 simp only[gl,List.getElem?_mapIdx]
 cases M[a]? <;>simp
def Ht(M:List (List Rat))(h:Nat):Prop:=∀r∈M,∀q∈r,rl q+1<=h
theorem Ew{h:Nat}(H:∀q∈r,rl q+1<=h)(h2:2<=h)(c:Nat):rl (r.getD c 0)+1<=h:=by
 rw[List.getD]
 cases hc:r[c]? with
 |none=>simp;exact ah (by decide) h2
 |some q=>simp;exact H q (aD hc)
theorem zp{j:Nat}(hi:i<M.length)(hj:j<M.length):(jK [] M i j)[i]? =M[j]? :=by
 unfold jK;by_cases h:j=i
 ·subst h;rw[aT (by simpa using hi),List.getD,aA hi];rfl
 ·rw[aw h,aT hi,List.getD,aA hj];rfl
theorem Gl{j c:Nat}(hi:i<M.length)(hj:j<M.length):cd (jK [] M i j) i c=cd M j c:=by
 simp only[cd,List.getD,zp hi hj]
def fp(n:Nat)(M:List (List Rat)):Prop:=∀r∈M,r.length=n
theorem fp.set(h:fp n M)(hr:r.length=n):fp n (M.set i r):=fun x hx=>by
 rcases bU hx with h1|h1
 ·exact h x h1
 ·rw[h1];exact hr
theorem fp.getD(h:fp n M)(hi:i<M.length):(M.getD i []).length=n:=by
 rw[List.getD,aA hi];exact h _ (aV hi)
theorem fp.step{c:Nat}(h:fp n s.1):fp n (db s c).1:=by
 unfold db;split
 ·rename_i hlt;dsimp only
  split
  ·exact h
  ·rename_i hk;have hle:=wy s.1 c (s.1.length-s.2.length) s.2.length;have hkl:gk s.1 c (s.1.length-s.2.length) s.2.length<s.1.length:=by omega
   dsimp only
   generalize gk s.1 c (s.1.length-s.2.length) s.2.length=k at*
   have h1:fp n (jK [] s.1 s.2.length k):=(h.set (h.getD hkl)).set (h.getD hlt);have h2:fp n (scaled (jK [] s.1 s.2.length k) s.2.length c):=h1.set (by rw[aL];exact h1.getD (by rw[kC];exact hlt));intro r hr;obtain⟨j,hj⟩:=aR hr;simp only[gl,List.getElem?_mapIdx,Option.map_eq_some_iff]at hj;obtain⟨r0,hr0,hj⟩:=hj;have h3:=h2 r0 (aD hr0);split at hj
   ·subst hj;rw[List.length_mapIdx];exact h3
   ·subst hj;exact h3
 ·exact h
end Go.Ex
namespace Go.Ex
open Go Go.Sx Go.Proofs
structure Kp(w:World)(S:Nat->Prop)(vm:Value)(rv:List Value)(n:Nat)(M:List (List Rat)):Prop where
 out:w.ownsRow 0 T.row 1 vm rv.length rv
 len:rv.length=M.length
 row:∀(i:Nat) v qs,rv[i]? =some v->M[i]? =some qs->∃css,w.ownsRow 0 T.C3 4 v n css.flatten∧css.length=n∧Fr w S css qs
 DF:∀(i j:Nat) a b g,rv[i]? =some a->rv[j]? =some b->a.ownBlock=some g->b.ownBlock=some g->i=j
 aAM:∀v∈rv,∀g,v.ownBlock=some g->vm.ownBlock≠some g
def Mb(vm:Value)(rv:List Value)(g:Nat):Prop:=vm.ownBlock=some g∨∃v∈rv,v.ownBlock=some g
structure Kept(w w2:World)(X:Nat->Prop):Prop where
 os:w2.os=w.os
 tape:w2.tape=w.tape
 output:w2.output=w.output
 size:w.heap.size<=w2.heap.size
 block:∀k,k<w.heap.size->¬X k->w2.heap[k]? =w.heap[k]?
section
variable{S S' X:Nat->Prop}{H:Hp}{nx n:Nat}{iv iv':Iv}{B:Nat}{w w' w2 w3:World}{O:Nat->Sx.dU}{vm:Value}{rv:List Value}{M:List (List Rat)}
end
end Go.Ex
namespace Go.Sx
open Go Go.Ex Go.Proofs
variable{O:Nat->Sx.dU}
theorem Rel.Ce{H:Hp}{nx:Nat}{iv:Iv}{B:Nat}{w w' w2:World}{row:Option Nat}(r:Rel H nx iv B w O w')(hne:∀g,row=some g->∀id b,cY H id=some b->(O id).nil=false->(O id).g≠g)(h:w'.grownBy w2 row):Rel H nx ((w'.heap.size,w2.heap.size)::iv) B w2 O w2:=
 r.Bj h.size (fun id b hb hn=>h.block _ (r.low id b hb hn).2 fun e=>hne _ e.symm id b hb hn rfl) fun lo hi hm=>by
  rcases List.mem_cons.1 hm with e|hm
  ·injection e with e1 e2;subst e1 e2;exact⟨aE _,fun id b hb hn=>by have:=(r.low id b hb hn).2;omega⟩
  ·exact⟨by have:=r.rG lo hi hm;have:=r.size;have:=h.size;omega,fun id b hb hn=>r.jy lo hi hm id b hb hn⟩
end Go.Sx
namespace Go.Ex
open Go Go.Sx Go.Proofs
end Go.Ex
namespace Go.Ex
open Go Go.Sx Go.Proofs
end Go.Ex
namespace Go.Sx
open Go Go.Ex Go.Proofs
variable{O:Nat->Sx.dU}
theorem Sub.nil{B nx:Nat}{l:Env}{H:Hp}{iv:Iv}{w w':World}{t:zl}(u e sz:Nat)(h9:fF l u=some (.o (.v (.slice none 0 0))))(hsc:ko nx l)(r:Rel H nx iv B w O w')
  (h:∀ρ1,Rel ((nx,.vec e sz [])::H) (nx+1) iv B w ρ1 w'->Sx.Sub B ((u,.o (.w nx 0))::l) (nx+1) ρ1 w' t):Sx.Sub B l nx O w' t:=by
 have r1:=r.push (.vec e sz []) ⟨0,0,true⟩ (w2:=w') rfl rfl rfl (aE _) (fun _ _=>rfl) (fun h=>by cases h) (.inl ⟨rfl,rfl⟩) trivial;obtain⟨ρ',h1,h2⟩:=h _ r1;refine⟨ρ',h1,fun x v hv=>?_⟩;obtain⟨h3,v0,h4,h5⟩:=h2 x v hv;refine⟨h3,?_⟩;rw[eQ]at h4;split at h4
 ·rename_i e;subst e;injection h4 with h4;subst h4;refine⟨_,h9,?_⟩;rw[<-h5];simp[SV.den,At.den,e8]
 ·refine⟨v0,h4,?_⟩;rw[<-h5];exact SV.jX (fun id hid=>gI id hid) (hsc.get _ _ h4)
end Go.Sx
namespace Go.Ex
open Go Go.Sx Go.Proofs
structure aAH(w:World)(S:Nat->Prop)(rv:List Value)(n:Nat)(M:List (List Rat))(gm k c g ck:Nat)(q:Rat)(d1:Bool)(e1:Option Addr)(m1 k1:Nat)(d2:Bool)(e2:Option Addr)(m2 k2:Nat):Prop where
 rv:rv[k]? =some (.slice (some ⟨g,0,none⟩) n ck)
 at_:cd M k c=q
 aAN:dI w S (.agg #[.bool d1,.slice e1 m1 k1,.bool d2,.slice e2 m2 k2]) q
 outer:w.cell? (Addr.add ⟨gm,0,none⟩ (k*1))=some (.slice (some ⟨g,0,none⟩) n ck)
 cells:∀j u,[Value.bool d1,.slice e1 m1 k1,.bool d2,.slice e2 m2 k2][j]? =some u->w.cell? ((Addr.add ⟨g,0,none⟩ (c*4)).add j)=some u
theorem JV{α:Type}{xs:List α}{j:Nat}{v:α}(h:j<xs.length):xs.take (j*1)++[v]++xs.drop (j*1+1)=xs.set j v:=by
 rw[ai,List.set_eq_take_append_cons_drop,if_pos h];simp
end Go.Ex
namespace Go.Ex
open Go Go.Sx Go.Proofs
variable{A M:List (List Rat)}{ps pv:List Nat}{S:Nat->Prop}{v:Value}{w:World}
def K0(w:World)(S:Nat->Prop)(v:Value)(n:Nat)(qs:List Rat):Prop:=∃css,w.ownsRow 0 T.C3 4 v n css.flatten∧css.length=n∧Fr w S css qs
section
variable{S S' C:Nat->Prop}{H:Hp}{nx n:Nat}{iv iv':Iv}{B:Nat}{w w' w2:World}{O:Nat->Sx.dU}{v:Value}{qs:List Rat}
structure aAO(w:World)(S:Nat->Prop)(B:Nat)(iv:Iv)(v:Value)(n:Nat)(qs:List Rat):Prop where
 row:K0 w (fun g=>Cv S B iv g∧v.ownBlock≠some g) v n qs
 new:∀g,v.ownBlock=some g->Cv (fun _=>False) B iv g
def L0(w:World)(S:Nat->Prop)(cs:List Value)(x:Int×Int):Prop:=∃b a n c b2 a2 n2 c2,cs=[.bool b,.slice a n c,.bool b2,.slice a2 n2 c2]∧gb w S (.agg #[.bool b,.slice a n c,.bool b2,.slice a2 n2 c2]) x.1 x.2
def dZ{α:Type}(P:World->(Nat->Prop)->List Value->α->Prop)(w:World)(S:Nat->Prop)(v:Value)(xs:List α):Prop:=
 ∃css:List (List Value),jN w S 4 v css.flatten xs.length∧css.length=xs.length∧(∀cs∈css,cs.length=4)∧∀(j:Nat) cs x,css[j]? =some cs->xs[j]? =some x->P w S cs x
theorem dZ.shape{α:Type}{P:World->(Nat->Prop)->List Value->α->Prop}{xs:List α}(h:dZ P w S v xs):∃a c,v= .slice a xs.length c∧xs.length<=c∧xs.length<=maxLen:=by
 obtain⟨css,⟨h0,_,_,a,c,h1,h2,_⟩,_⟩:=h;exact⟨a,c,h1,h2,h0⟩
theorem dZ.load{α:Type}{P:World->(Nat->Prop)->List Value->α->Prop}{xs:List α}{a:Option Addr}{m c j:Nat}{x:α}(h:dZ P w S (.slice a m c) xs)(hq:xs[j]? =some x):
  ∃ad cs,a=some ad∧P w S cs x∧cs.length=4∧∀k u,cs[k]? =some u->S ad.block∧w.cell? ((ad.add (j*4)).add k)=some u:=by
 obtain⟨css,⟨h0,h1,h2,a',c',e,h3,h4⟩,hl,hl4,hf⟩:=h;injection e with e1 e2 e3;subst e1;obtain⟨cs,hcs⟩:∃cs,css[j]? =some cs:=⟨_,aA (by rw[hl];exact(aC.1 hq).1)⟩
 have hF:=hf j cs x hcs hq;have hlc:=hl4 cs (aD hcs);obtain⟨ad,k1,k2,k3⟩:=h4 (j*4+0) _ (flat_get hl4 hcs 0 _ (aA (show 0<cs.length by omega)));refine⟨ad,cs,k1,hF,hlc,fun k u hu=>?_⟩;obtain⟨ad2,m1,m2,m3⟩:=h4 (j*4+k) u (flat_get hl4 hcs k u hu);rw[k1]at m1;injection m1 with m1;subst m1;refine⟨m2,?_⟩;rw[<-m3];have:(ad.add (j*4)).add k=ad.add (j*4+k):=by
  unfold Addr.add;split<;>split<;>simp_all<;>omega
 rw[this]
def eP{α:Type}(P:World->(Nat->Prop)->Value->α->Prop)(w:World)(S:Nat->Prop)(v:Value)(M:List α):Prop:=
 ∃rv,jN w S 1 v rv M.length∧rv.length=M.length∧∀(i:Nat) u x,rv[i]? =some u->M[i]? =some x->P w S u x
theorem eP.shape{α:Type}{P:World->(Nat->Prop)->Value->α->Prop}{xs:List α}(h:eP P w S v xs):∃a c,v= .slice a xs.length c∧xs.length<=c∧xs.length<=maxLen:=by
 obtain⟨rv,⟨h0,_,_,a,c,h1,h2,_⟩,_⟩:=h;exact⟨a,c,h1,h2,h0⟩
theorem eP.load{α:Type}{P:World->(Nat->Prop)->Value->α->Prop}{xs:List α}{a:Option Addr}{m c j:Nat}{x:α}(h:eP P w S (.slice a m c) xs)(hq:xs[j]? =some x):
  ∃ad u,a=some ad∧P w S u x∧S ad.block∧w.cell? (ad.add (j*1))=some u:=by
 obtain⟨rv,⟨h0,h1,h2,a',c',e,h3,h4⟩,hl,hf⟩:=h;injection e with e1 e2 e3;subst e1;obtain⟨u,hu⟩:∃u,rv[j]? =some u:=⟨_,aA (by rw[hl];exact(aC.1 hq).1)⟩
 obtain⟨ad,k1,k2,k3⟩:=h4 j u hu;exact⟨ad,u,k1,hf j u x hu hq,k2,by rw[ai];exact k3⟩
end
section
variable{S S':Nat->Prop}{H:Hp}{nx:Nat}{iv iv':Iv}{B:Nat}{w w' w2:World}{O:Nat->Sx.dU}{v:Value}{xs:List (Int×Int)}
end
section
variable{S S':Nat->Prop}{H:Hp}{nx:Nat}{iv iv':Iv}{B:Nat}{w w' w2:World}{O:Nat->Sx.dU}{v:Value}{M:List (List (Int×Int))}
end
section
variable{S S':Nat->Prop}{H:Hp}{nx:Nat}{iv iv':Iv}{B:Nat}{w w' w2:World}{O:Nat->Sx.dU}{v:Value}{M:List (List Rat)}
end
def f0:List Value:=[.bool false,.slice none 0 0,.bool false,.slice none 0 0]
structure aAP(w:World)(S:Nat->Prop)(n i:Nat)(css:List (List Value))(qs:List Rat):Prop where
 len:css.length=n
 four:∀cs∈css,cs.length=4
 one:∀cs∈css,∀u∈cs,u.oneCell'=true
 at_:∀(j:Nat) cs q,j<i->css[j]? =some cs->qs[j]? =some q->Jj w S cs q
section
variable{S S':Nat->Prop}{H:Hp}{nx n i:Nat}{iv iv':Iv}{B:Nat}{w w1 w' w2:World}{O:Nat->Sx.dU}{css:List (List Value)}{qs:List Rat}
end
structure aAI(w:World)(S:Nat->Prop)(B:Nat)(iv:Iv)(rv:List Value)(n:Nat)(M:List (List Rat)):Prop where
 len:rv.length=M.length
 row:∀(i:Nat) v qs,rv[i]? =some v->M[i]? =some qs->K0 w (fun g=>Cv S B iv g∧¬ ∃u∈rv,u.ownBlock=some g) v n qs
 DF:∀(i j:Nat) a b g,rv[i]? =some a->rv[j]? =some b->a.ownBlock=some g->b.ownBlock=some g->i=j
 new:∀v∈rv,∀g,v.ownBlock=some g->Cv (fun _=>False) B iv g
theorem gu(B:Nat):∀g,(fun _:Nat=>False) g->g<B:=fun _ h=>h.elim
theorem Ia{B:Nat}{iv:Iv}{g:Nat}(h:Cv (fun _=>False) B iv g):Cv S B iv g:=h.elim (fun h=>h.elim) .inr
section
variable{S S':Nat->Prop}{H:Hp}{nx n i:Nat}{iv iv':Iv}{B:Nat}{w w1 w' w2:World}{O:Nat->Sx.dU}{rv:List Value}{M:List (List Rat)}
structure aAQ(w:World)(S:Nat->Prop)(B:Nat)(iv:Iv)(vm:Value)(n:Nat)(M:List (List Rat)):Prop where
 ex:∃rv,Kp w (fun g=>Cv S B iv g∧¬Mb vm rv g) vm rv n M∧∀g,Mb vm rv g->Cv (fun _=>False) B iv g
end
def dO(w:World)(S:Nat->Prop)(v:Value)(ps:List Nat):Prop:=jN w S 1 v (ps.map fun c:Nat=>.int .i64 (c:Int)) ps.length
theorem dO.cB{w2:World}(h:dO w S v ps)(hk:∀g,S g->w2.heap[g]? =w.heap[g]?):dO w2 S v ps:=jN.cB h hk
theorem dO.cC{S':Nat->Prop}(h:dO w S v ps)(hk:∀g,S g->S' g):dO w S' v ps:=jN.cC h hk
section
variable{S S':Nat->Prop}{H:Hp}{nx:Nat}{iv iv':Iv}{B:Nat}{w w' w2:World}{O:Nat->Sx.dU}{v:Value}{ps:List Nat}
theorem dO.rel(h:dO w (Cv S B iv) v ps)(r:Rel H nx iv B w O w')(hS:∀g,S g->g<B):dO w' (Cv S B iv) v ps:=dO.cB h fun _ hg=>Rel.same r hS hg
theorem dO.dB(h:dO w2 (Nf w' w2) v ps)(hB:B<=w'.heap.size)(hm:(w'.heap.size,w2.heap.size)∈iv):dO w2 (Cv S B iv) v ps:=dO.cC h fun _ hg=>hg.dB hB hm
end
section
variable{S S':Nat->Prop}{H:Hp}{nx n:Nat}{iv iv':Iv}{B:Nat}{w w' w2:World}{O:Nat->Sx.dU}{v:Value}{qs:List Rat}
end
def fZ(A:List (List Rat))(pv:List Nat)(cols c i:Nat):List Rat:=(List.range i).foldl (fun x i=>x.set (pv.getD i 0) (-(cd A i c))) ((List.replicate cols 0).set c 1)
def eE(A:List (List Rat))(pv:List Nat)(cols c:Nat):List (List Rat):=((List.range c).filter fun c=>decide (c∉pv)).map fun c=>fZ A pv cols c pv.length
theorem gN(A:List (List Rat))(pv:List Nat)(cols c i:Nat):fZ A pv cols c (i+1)=(fZ A pv cols c i).set (pv.getD i 0) (-(cd A i c)):=by
 rw[fZ,bT,List.foldl_append];rfl
theorem j4(A:List (List Rat))(pv:List Nat)(cols c i:Nat):(fZ A pv cols c i).length=cols:=by
 induction i with
 |zero=>simp[fZ]
 |succ i ih=>rw[gN,b9,ih]
theorem Ci{cols c:Nat}(h:c∈pv):eE A pv cols (c+1)=eE A pv cols c:=by
 rw[eE,bT,List.filter_append];simp[h,eE]
theorem BM{cols c:Nat}(h:c∉pv):eE A pv cols (c+1)=eE A pv cols c++[fZ A pv cols c pv.length]:=by
 rw[eE,bT,List.filter_append];simp[h,eE]
def gJ(A:List (List Rat))(pv:List Nat)(cols i:Nat):List Rat:=(List.range i).foldl (fun x i=>x.set (pv.getD i 0) (cd A i cols)) (List.replicate cols 0)
theorem gO(A:List (List Rat))(pv:List Nat)(cols i:Nat):gJ A pv cols (i+1)=(gJ A pv cols i).set (pv.getD i 0) (cd A i cols):=by
 rw[gJ,bT,List.foldl_append];rfl
structure aAJ(w:World)(B:Nat)(iv:Iv)(rv:List Value)(v:Value)(n:Nat)(qs:List Rat):Prop where
 row:K0 w (fun g=>(Cv (fun _=>False) B iv g∧¬ ∃u∈rv,u.ownBlock=some g)∧v.ownBlock≠some g) v n qs
 z7:∀g,v.ownBlock=some g->Cv (fun _=>False) B iv g
section
variable{H:Hp}{nx n:Nat}{iv iv':Iv}{B:Nat}{w w' w2:World}{O:Nat->Sx.dU}{v:Value}{qs:List Rat}{rv:List Value}
end
def iT(w:World)(S:Nat->Prop)(cs:List Value)(q:Rat):Prop:=∃b a n c b2 a2 n2 c2,cs=[.bool b,.slice a n c,.bool b2,.slice a2 n2 c2]∧cP w S (.agg #[.bool b,.slice a n c,.bool b2,.slice a2 n2 c2]) q
abbrev cF:=dZ iT
abbrev cO:=eP cF
section
variable{S S':Nat->Prop}{H:Hp}{nx:Nat}{iv iv':Iv}{B:Nat}{w w' w2:World}{O:Nat->Sx.dU}{v:Value}{qs:List Rat}{cs:List Value}{q:Rat}
theorem iT.cB(h:iT w S cs q)(hk:∀g,S g->w2.heap[g]? =w.heap[g]?):iT w2 S cs q:=by
 obtain⟨b,a,n,c,b2,a2,n2,c2,h1,h2⟩:=h;exact⟨b,a,n,c,b2,a2,n2,c2,h1,h2.cB hk⟩
theorem iT.cC(h:iT w S cs q)(hk:∀g,S g->S' g):iT w S' cs q:=by
 obtain⟨b,a,n,c,b2,a2,n2,c2,h1,h2⟩:=h;exact⟨b,a,n,c,b2,a2,n2,c2,h1,h2.cC hk⟩
theorem cF.cB(h:cF w S v qs)(hk:∀g,S g->w2.heap[g]? =w.heap[g]?):cF w2 S v qs:=by
 obtain⟨css,h1,h2,h3,h4⟩:=h;exact⟨css,h1.cB hk,h2,h3,fun j cs x k1 k2=>(h4 j cs x k1 k2).cB hk⟩
theorem cF.cC(h:cF w S v qs)(hk:∀g,S g->S' g):cF w S' v qs:=by
 obtain⟨css,h1,h2,h3,h4⟩:=h;exact⟨css,h1.cC hk,h2,h3,fun j cs x k1 k2=>(h4 j cs x k1 k2).cC hk⟩
theorem cO.cB(h:cO w S v M)(hk:∀g,S g->w2.heap[g]? =w.heap[g]?):cO w2 S v M:=by
 obtain⟨rv,h1,h2,h3⟩:=h;exact⟨rv,h1.cB hk,h2,fun i u x k1 k2=>cF.cB (h3 i u x k1 k2) hk⟩
theorem cO.cC(h:cO w S v M)(hk:∀g,S g->S' g):cO w S' v M:=by
 obtain⟨rv,h1,h2,h3⟩:=h;exact⟨rv,h1.cC hk,h2,fun i u x k1 k2=>cF.cC (h3 i u x k1 k2) hk⟩
end
section
variable{S S':Nat->Prop}{H:Hp}{nx:Nat}{iv iv':Iv}{B:Nat}{w w' w2:World}{O:Nat->Sx.dU}{v:Value}{qs:List Rat}
theorem cF.rel(h:cF w (Cv S B iv) v qs)(r:Rel H nx iv B w O w')(hS:∀g,S g->g<B):cF w' (Cv S B iv) v qs:=cF.cB h fun _ hg=>Rel.same r hS hg
theorem cF.bz(h:cF w (Cv S B iv) v qs)(r:Rel H nx iv B w O w')(hS:∀g,S g->g<B)(he:Ext w' w2)(hm:∀p,p∈iv->p∈iv'):cF w2 (Cv S B iv') v qs:=
 cF.cC (cF.cB (cF.rel h r hS) fun g hg=>he.block g (Rel.old r hS g hg)) fun _ hg=>hg.mono hm
theorem cF.dB(h:cF w2 (Nf w' w2) v qs)(hB:B<=w'.heap.size)(hm:(w'.heap.size,w2.heap.size)∈iv):cF w2 (Cv S B iv) v qs:=cF.cC h fun _ hg=>hg.dB hB hm
theorem cF.out{w0 w1:World}(h:cF w1 (Cv S w0.heap.size iv) v qs)(r:Rel H nx iv w0.heap.size w1 O w')(hS:Old S w0):cF w' (Nw S w0 w') v qs:=
 cF.cC (cF.rel h r hS) fun _ hg=>Cv.nw hg r
end
section
variable{S S':Nat->Prop}{H:Hp}{nx:Nat}{iv iv':Iv}{B:Nat}{w w' w2:World}{O:Nat->Sx.dU}{v:Value}{M:List (List Rat)}
theorem cO.rel(h:cO w (Cv S B iv) v M)(r:Rel H nx iv B w O w')(hS:∀g,S g->g<B):cO w' (Cv S B iv) v M:=cO.cB h fun _ hg=>Rel.same r hS hg
theorem cO.bz(h:cO w (Cv S B iv) v M)(r:Rel H nx iv B w O w')(hS:∀g,S g->g<B)(he:Ext w' w2)(hm:∀p,p∈iv->p∈iv'):cO w2 (Cv S B iv') v M:=
 cO.cC (cO.cB (cO.rel h r hS) fun g hg=>he.block g (Rel.old r hS g hg)) fun _ hg=>hg.mono hm
theorem cO.dB(h:cO w2 (Nf w' w2) v M)(hB:B<=w'.heap.size)(hm:(w'.heap.size,w2.heap.size)∈iv):cO w2 (Cv S B iv) v M:=cO.cC h fun _ hg=>hg.dB hB hm
theorem cO.old(h:cO w2 (Nw (Cv S B iv) w' w2) v M)(hB:B<=w'.heap.size):cO w2 (Cv S B ((w'.heap.size,w2.heap.size)::iv)) v M:=cO.cC h fun _ hg=>Nw.cv hg hB
end
theorem j5(A:List (List Rat))(pv:List Nat)(cols i:Nat):(gJ A pv cols i).length=cols:=by
 induction i with
 |zero=>simp[gJ]
 |succ i ih=>rw[gO,b9,ih]
theorem Ch(A:List (List Rat))(pv:List Nat)(cols c:Nat):(eE A pv cols c).length<=c:=by
 unfold eE;rw[aL];exact ah (List.length_filter_le _ _) (by simp)
end Go.Ex
namespace Go.Ex
variable{ds l:List Nat}
def dD:List Int->Int
 |[]=>0
 |c::r=>c+65536*dD r
def up(k:Nat):Int:=65536^k
theorem Ap(k:Nat):up (k+1)=65536*up k:=by rw[up,Int.pow_succ,Int.mul_comm];rfl
theorem HZ(k:Nat):0<up k:=Int.pow_pos (by decide)
theorem zB(a b:List Int):dD (a++b)=dD a+up a.length*dD b:=by
 induction a with
 |nil=>simp[dD,up]
 |cons c r ih=>rw[List.cons_append,dD,ih,dD,List.length_cons,Ap,Int.mul_add,<-Int.mul_assoc];omega
theorem Dj(a:List Int):dD (a.map (- ·))= -dD a:=by
 induction a with
 |nil=>rfl
 |cons c r ih=>rw[List.map_cons,dD,ih,dD];omega
def Dg(l:List Nat):Prop:=∀d∈l,d<65536
def ku(l:List Nat):Int:=dD (l.map fun d:Nat=>(d:Int))
theorem xn(h:Dg l):0<=ku l∧ku l<up l.length:=by
 induction l with
 |nil=>exact⟨Int.le_refl _,by decide⟩
 |cons d r ih=>
  have h1:=ih fun x hx=>h x (aB _ hx);have h2:=h d aI;have e:ku (d::r)=(d:Int)+65536*ku r:=rfl;rw[e,List.length_cons,Ap];omega
def dM:List Int->Int->List Nat×Int
 |[],k=>([],k)
 |c::r,k=>(((c+k) % 65536).toNat::(dM r ((c+k) / 65536)).1,(dM r ((c+k) / 65536)).2)
theorem kE:∀(cs:List Int) (k:Int),dD cs+k=ku (dM cs k).1+up cs.length*(dM cs k).2∧Dg (dM cs k).1∧(dM cs k).1.length=cs.length
 |[],k=>⟨by simp[dD,dM,ku,up],by simp[dM,Dg],rfl⟩
 |c::r,k=>by
  obtain⟨h1,h2,h3⟩:=kE r ((c+k) / 65536);have h4:0<=(c+k) % 65536:=Int.emod_nonneg _ (by decide);have h5:(c+k) % 65536<65536:=Int.emod_lt_of_pos _ (by decide);have h6:=Int.mul_ediv_add_emod (c+k) 65536;refine⟨?_,fun d hd=>?_,by simp[dM,h3]⟩
  ·have e:ku (dM (c::r) k).1=(((c+k) % 65536).toNat:Int)+65536*ku (dM r ((c+k) / 65536)).1:=rfl;have e2:(dM (c::r) k).2=(dM r ((c+k) / 65536)).2:=rfl;rw[e,e2,dD,List.length_cons,Ap,Int.mul_assoc];omega
  ·have e:(dM (c::r) k).1=((c+k) % 65536).toNat::(dM r ((c+k) / 65536)).1:=rfl;rw[e]at hd;rcases List.mem_cons.1 hd with rfl|hd
   ·omega
   ·exact h2 d hd
theorem Aq(cs:List Int)(c k:Int):dM (cs++[c]) k=((dM cs k).1++[((c+(dM cs k).2) % 65536).toNat],(c+(dM cs k).2) / 65536):=by
 induction cs generalizing k with
 |nil=>rfl
 |cons d r ih=>simp only[List.cons_append,dM,ih]
theorem j7:∀(cs:List Int) (k:Int),(∀c∈cs,-1152921504606846976<=c∧c<=1152921504606846976)-> -1152921504606846976<=k->k<=1152921504606846976-> -1152921504606846976<=(dM cs k).2∧(dM cs k).2<=1152921504606846976
 |[],k,_,h1,h2=>⟨h1,h2⟩
 |c::r,k,h,h1,h2=>by
  have hc:=h c aI;exact j7 r _ (fun x hx=>h x (aB _ hx)) (by omega) (by omega)
def cW(n:Nat):List Nat:=if h:n=0 then []else n % 65536::cW (n / 65536)
termination_by n
decreasing_by omega
theorem kF:cW 0=[]:=by rw[cW];rfl
theorem oR{n:Nat}(h:0<n):cW n=n % 65536::cW (n / 65536):=by
 rw[cW,dif_neg (by omega)]
theorem kG(n:Nat):ku (cW n)=n∧Dg (cW n):=by
 induction n using Nat.strongRecOn with
 |_ n ih=>
  rcases bJ n with h|h
  ·subst h;rw[kF];exact⟨rfl,by simp[Dg]⟩
  ·rw[oR h];obtain⟨h1,h2⟩:=ih (n / 65536) (by omega);refine⟨?_,fun d hd=>?_⟩
   ·have e:ku (n % 65536::cW (n / 65536))=((n % 65536:Nat):Int)+65536*ku (cW (n / 65536)):=rfl;rw[e,h1];omega
   ·rcases List.mem_cons.1 hd with rfl|hd
    ·omega
    ·exact h2 d hd
theorem jA{n:Nat}:∀{k:Nat},n<65536^k->(cW n).length<=k
 |0,h=>by
  have:n=0:=by simp at h;exact h
  subst this;rw[kF];simp
 |k+1,h=>by
  rcases bJ n with h0|h0
  ·subst h0;rw[kF];simp
  ·rw[oR h0,List.length_cons];have:=jA (n:=n / 65536) (k:=k) (by rw[Nat.pow_succ]at h;exact Nat.div_lt_of_lt_mul (by rw[bN];exact h));omega
def gK:List Nat->List Nat
 |[]=>[]
 |[a]=>[a]
 |a::b::r=>(a+65536*b)::gK r
theorem xo:∀(l:List Nat),Dg l->(val (gK l):Int)=ku l∧Lm (gK l)∧(gK l).length=(l.length+1) / 2
 |[],_=>⟨rfl,by simp[gK,Lm],rfl⟩
 |[a],h=>by
  have:=h a (by simp);exact⟨by simp[gK,val,ku,dD],fun x hx=>by simp[gK]at hx;omega,by simp[gK]⟩
 |a::b::r,h=>by
  obtain⟨h1,h2,h3⟩:=xo r fun x hx=>h x (aB _ (aB _ hx));have ha:=h a (by simp);have hb:=h b (by simp);refine⟨?_,fun x hx=>?_,?_⟩
  ·have e:ku (a::b::r)=(a:Int)+65536*((b:Int)+65536*ku r):=rfl;rw[e,<-h1,gK,val];simp only[Int.natCast_add,Int.natCast_mul]
   omega
  ·rw[gK]at hx;rcases List.mem_cons.1 hx with rfl|hx
   ·omega
   ·exact h2 x hx
  ·rw[gK,List.length_cons,h3];simp only[List.length_cons]
   omega
def pk(ds:List Nat)(k:Nat):List Nat:=(List.range k).map fun i=>ds.getD (2*i) 0+65536*ds.getD (2*i+1) 0
theorem wG(ds:List Nat)(k:Nat):pk ds (k+1)=pk ds k++[ds.getD (2*k) 0+65536*ds.getD (2*k+1) 0]:=by simp[pk,bT]
theorem tY(ds:List Nat)(k:Nat):(pk ds k).length=k:=by simp[pk]
theorem H0:∀(ds:List Nat),pk ds ((ds.length+1) / 2)=gK ds
 |[]=>rfl
 |[a]=>by simp[pk,gK,bT]
 |a::b::r=>by
  have ih:=H0 r;have e:((a::b::r).length+1) / 2=(r.length+1) / 2+1:=by simp only[List.length_cons];omega
  rw[e,gK,<-ih,pk,List.range_succ_eq_map,List.map_cons,List.map_map,pk];congr 1
theorem H2(h:Dg ds)(k:Nat):Lm (pk ds k):=fun x hx=>by
 obtain⟨i,_,rfl⟩:=aS.1 hx;have key:∀j,ds.getD j 0<65536:=fun j=>by
  rw[List.getD]
  cases hj:ds[j]? with
  |none=>simp
  |some d=>simp;exact h d (aD hj)
 have h1:=key (2*i);have h2:=key (2*i+1);omega
end Go.Ex
namespace Go.Ex
open Go Go.Sx Go.Proofs
variable{cs:List Int}{S:Nat->Prop}{v:Value}{w:World}
def dW(w:World)(S:Nat->Prop)(v:Value)(cs:List Int):Prop:=jN w S 1 v (cs.map (Value.int .i64)) cs.length
theorem dW.cB{w2:World}(h:dW w S v cs)(hk:∀g,S g->w2.heap[g]? =w.heap[g]?):dW w2 S v cs:=jN.cB h hk
theorem dW.cC{S':Nat->Prop}(h:dW w S v cs)(hk:∀g,S g->S' g):dW w S' v cs:=jN.cC h hk
theorem dW.load{a:Option Addr}{n c j:Nat}{x:Int}(h:dW w S (.slice a n c) cs)(hx:cs[j]? =some x):∃ad,a=some ad∧S ad.block∧w.cell? (ad.add (j*1))=some (.int .i64 x):=by
 obtain⟨_,_,_,a',c',e,_,h4⟩:=h;injection e with e1 e2 e3;subst e1;obtain⟨ad,k1,k2,k3⟩:=h4 j (.int .i64 x) (by rw[aM,hx];rfl);exact⟨ad,k1,k2,by rw[ai];exact k3⟩
theorem dW.shape(h:dW w S v cs):∃a c,v= .slice a cs.length c∧cs.length<=c:=by
 obtain⟨_,_,_,a',c',e,h3,_⟩:=h;exact⟨a',c',e,h3⟩
def dg(ds:List Nat):List Int:=ds.map fun d:Nat=>(d:Int)
theorem eV(ds:List Nat):(dg ds).length=ds.length:=by simp[dg]
end Go.Ex
namespace Go.Sx
open Go Go.Ex Go.Proofs
variable{cs:List Value}{O:Nat->Sx.dU}
theorem Rel.B1{H:Hp}{nx:Nat}{iv:Iv}{B:Nat}{w w':World}(r:Rel H nx iv B w O w'){id t m sz:Nat}(h:cY H id=some (.vec t sz cs))(hm:cs.length=m*sz)(hs:0<sz):
  w'.ownsRow B t sz ((At.w id m).den O) m cs:=by
 rcases r.vec id t sz _ h with⟨hn,rfl⟩|⟨hn,spare,hb,hc,hcap⟩
 ·have hm0:m=0:=by
   rcases bJ m with h|h
   ·exact h
   ·have:=Nat.mul_pos h hs;simp at hm;omega
  subst hm0;have:(At.w id 0).den O= .slice none 0 0:=by simp[At.den,hn]
  rw[this];exact World.ownsRow_nil _ _ _ _
 ·have hv:(At.w id m).den O= .slice (some ⟨(O id).g,0,none⟩) m (O id).cap:=by simp[At.den,hn]
  have h1:(cs++spare).length=cs.length+spare.length:=List.length_append;rw[hv];refine⟨hm,.inr ⟨(O id).g,(O id).cap,_,rfl,(r.low id _ h hn).1,hb,?_,hcap,by simpa using hc,?_⟩⟩
  ·have h2:m*sz<=(O id).cap*sz:=by omega
   exact Nat.le_of_mul_le_mul_right h2 hs
  ·rw[<-hm];simp
end Go.Sx
namespace Go.Ex
open Go Go.Sx Go.Proofs
theorem Cy(n:Nat)(w:World)(hn:n<=9223372036854775807):du PG N.sM #[.int .i64 n] w (eD w fun v w2=>dW w2 (Nf w w2) v (dg (cW n))):=by
 refine vU (by simp) ?_
 refine⟨Nat×List Nat×World,fun z=>⟨[(0,.o (.v (.int .i64 z.1))),(3,.o (.w 0 z.2.1.length))],[(0,.vec T.int 1 ((dg z.2.1).map (Value.int .i64)))],1,[],z.2.2⟩,fun z=>z.1,
  fun z=>cQ w.heap.size w z.2.2∧z.1<=n∧z.2.1.length<=n-z.1∧z.2.1++cW z.1=cW n,?_,?_⟩
 ·intro O w' r
  exact⟨(n,[],w'),⟨r.cI,aE _,by simp,by simp⟩,Sub.nil 3 T.int 1 rfl (by simp[ko,SV.sc,At.sc,gM]) r fun ρ1 r1=>
   Sub.gn [] r1⟩
 rintro⟨k,ds,w1⟩ ⟨hw,hk,hl,hs⟩;dsimp only at hw hk hl hs ⊢;have hdl:=eV ds;refine dH.mk (fun h=>?_) (fun h=>?_)
 ·have h:0<k:=by
   have:(k:Int)>0:=aH h;omega
  refine⟨by decide,((k % 65536:Nat):Int),IK k 65536,?_⟩;refine .inl ?_;refine⟨by simp[hdl],?_,by have h1:=congrArg List.length hs;rw[List.length_append]at h1;have h2:=jA (n:=n) (k:=4) (by omega);unfold maxLen;omega,?_⟩
  ·have h1:=congrArg List.length hs;rw[List.length_append]at h1;have h2:=jA (n:=n) (k:=4) (by omega);omega
  refine⟨by decide,((k / 65536:Nat):Int),JU (by omega),?_⟩;intro ρ3 w3 r3;have hl5:(ds++[k % 65536]).length=ds.length+1:=by simp
  have hm5:(dg (ds++[k % 65536])).map (Value.int .i64)=(dg ds).map (Value.int .i64)++[.int .i64 ((k % 65536:Nat):Int)]:=by simp[dg]
  refine⟨(k / 65536,ds++[k % 65536],w3),⟨hw.tr r3.cI,by dsimp only;omega,by dsimp only;rw[hl5];omega,?_⟩,
   Sub.gn [(0,2)] r3 ⟨by rw[hm5];rfl,trivial⟩ ⟨rfl,by dsimp only;rw[hl5];rfl,trivial⟩,by dsimp only;omega⟩
  dsimp only
  rw[<-hs,oR h];simp
 ·have h:k=0:=by
   have:¬(k:Int)>0:=aG h;omega
  subst h;rw[kF,List.append_nil]at hs;subst hs;intro ρe we re;refine⟨_,rfl,hw.tr re.cI,?_⟩;have:=re.jq (id:=0) (sz:=1) (m:=(cW n).length) rfl (by simp[hdl]) (by have h2:=jA (n:=n) (k:=4) (by omega);unfold maxLen;omega) (by decide) (by intro u hu;simp at hu;obtain⟨_,_,rfl⟩:=hu;rfl);unfold dW;rw[hdl];exact this.cC fun g hg=>.inr hg
end Go.Ex
namespace Go.Ex
open Go Go.Sx Go.Proofs
variable{cs:List Int}{S:Nat->Prop}
theorem uF(n:Int):(n.tmod 65536<0->n % 65536=n.tmod 65536+65536)∧(¬n.tmod 65536<0->n % 65536=n.tmod 65536)∧ -65536<n.tmod 65536∧n.tmod 65536<65536:=by
 by_cases h:0<=n
 ·rw[Int.tmod_eq_emod_of_nonneg h];omega
 ·have h1:n.tmod 65536= -((-n) % 65536):=by
   have:n= -(-n):=by omega
   conv=>lhs;rw[this]
   rw[Int.neg_tmod,Int.tmod_eq_emod_of_nonneg (by omega)]
  rw[h1];omega
theorem A4(n:Int):(n-n % 65536).tdiv 65536=n / 65536:=by
 have h:n-n % 65536=65536*(n / 65536):=by omega
 rw[h,Int.mul_tdiv_cancel_left _ (by decide)]
theorem A5{w:World}{v:Value}(hS:Old S w)(h:dW w S v cs)(hb:∀c∈cs,-1152921504606846976<=c∧c<=1152921504606846976)(hl:cs.length<=1000000000):
  du PG N.qH #[v] w (eD w fun v' w2=>∃o,v'= .tuple #[o,.int .i64 (dM cs 0).2]∧w2.ownsRow w.heap.size T.int 1 o cs.length ((dg (dM cs 0).1).map (Value.int .i64))):=by
 obtain⟨a,c,rfl,hc⟩:=h.shape;refine tv (by simp) ?_
 refine⟨Nat×World,fun z=>⟨[(0,.o (.v (.slice a cs.length c))),(4,.o (.w 0 z.1)),(5,.o (.v (.int .i64 (dM (cs.take z.1) 0).2))),(6,.o (.v (.int .i64 z.1)))],[(0,.vec T.int 1 ((dg (dM (cs.take z.1) 0).1).map (Value.int .i64)))],1,[],z.2⟩,fun z=>cs.length-z.1,
  fun z=>cQ w.heap.size w z.2∧z.1<=cs.length,?_,?_⟩
 ·intro O w' r
  exact⟨(0,w'),⟨r.cI,by simp⟩,Sub.nil 4 T.int 1 rfl (by simp[ko,SV.sc,At.sc,gM]) r fun ρ1 r1=>
   Sub.gn [] r1⟩
 rintro⟨i,w1⟩ ⟨hw,hi⟩;dsimp only at hw hi ⊢;obtain⟨-,hdg,hlen⟩:=kE (cs.take i) 0;have hln:((dg (dM (cs.take i) 0).1).map (Value.int .i64)).length=i:=by rw[aL,eV,hlen,aW];omega
 obtain⟨hk1,hk2⟩:=j7 (cs.take i) 0 (fun c hc=>hb c (List.mem_of_mem_take hc)) (by decide) (by decide);have hR:dW w1 S (.slice a cs.length c) cs:=dW.cB h fun g hg=>hw.block g (hS g hg);refine dH.mk (fun h=>?_) (fun h=>?_)
 ·have h:i<cs.length:=by simpa using h
  obtain⟨x,hx⟩:∃x,cs[i]? =some x:=⟨_,aA h⟩
  obtain⟨hx1,hx2⟩:=hb x (aD hx);obtain⟨ad,rfl,q1,q2⟩:=hR.load hx;have htk:cs.take (i+1)=cs.take i++[x]:=by rw[List.take_add_one,hx];rfl
  have hsn:=Aq (cs.take i) x 0;rw[<-htk]at hsn;generalize (dM (cs.take i) 0).1=ds at*
  generalize (dM (cs.take i) 0).2=k at*
  obtain⟨t1,t2,t3,t4⟩:=uF (x+k);have hem1:=Int.emod_nonneg (x+k) (show (65536:Int)≠0 by decide);have hem2:=Int.emod_lt_of_pos (x+k) (show (0:Int)<65536 by decide);refine⟨ad,rfl,by omega,.int .i64 x,fun O w' r=>?_,?_⟩
  ·rw[aJ,cJ (w:=w1) (w2:=w') (by rw[dq];exact Rel.same (S:=S) r hS (.inl q1))];exact q2
  refine⟨x+k,wo,by decide,(x+k).tmod 65536,rfl,?_⟩;refine dH.mk (fun hneg=>?_) (fun hneg=>?_)
  ·have hneg:=t1 (aH hneg);refine⟨(x+k) % 65536,by rw[hneg,wrap64]<;>omega,x+k-(x+k) % 65536,wo,by decide,(x+k) / 65536,by rw[A4,wrap64]<;>omega,?_⟩;refine .inl ?_;refine⟨by rw[hln,ai],by omega,by unfold maxLen;omega,((i+1:Nat):Int),wo,?_⟩;intro ρ3 w3 r3;have hm5:(dg (dM (cs.take (i+1)) 0).1).map (Value.int .i64)=(dg ds).map (Value.int .i64)++[.int .i64 ((x+k) % 65536)]:=by
    rw[hsn];simp[dg,Int.toNat_of_nonneg hem1]
   have hk5:(dM (cs.take (i+1)) 0).2=(x+k) / 65536:=by rw[hsn]
   exact⟨(i+1,w3),⟨hw.tr r3.cI,by dsimp only;omega⟩,Sub.gn [(0,2)] r3 ⟨by dsimp only;rw[hm5];rfl,trivial⟩ ⟨rfl,rfl,by dsimp only;rw[hk5];rfl,rfl,trivial⟩,by dsimp only;omega⟩
  ·have hneg:=t2 (aG hneg);rw[<-hneg];refine⟨x+k-(x+k) % 65536,wo,by decide,(x+k) / 65536,by rw[A4,wrap64]<;>omega,?_⟩;refine .inl ?_;refine⟨by rw[hln,ai],by omega,by unfold maxLen;omega,((i+1:Nat):Int),wo,?_⟩;intro ρ3 w3 r3;have hm5:(dg (dM (cs.take (i+1)) 0).1).map (Value.int .i64)=(dg ds).map (Value.int .i64)++[.int .i64 ((x+k) % 65536)]:=by
    rw[hsn];simp[dg,Int.toNat_of_nonneg hem1]
   have hk5:(dM (cs.take (i+1)) 0).2=(x+k) / 65536:=by rw[hsn]
   exact⟨(i+1,w3),⟨hw.tr r3.cI,by dsimp only;omega⟩,Sub.gn [(0,2)] r3 ⟨by dsimp only;rw[hm5];rfl,trivial⟩ ⟨rfl,rfl,by dsimp only;rw[hk5];rfl,rfl,trivial⟩,by dsimp only;omega⟩
 ·have h:i=cs.length:=by
   have:¬i<cs.length:=by simpa using h
   omega
  subst h;rw[bF]at hln ⊢;intro ρe we re;exact⟨_,rfl,hw.tr re.cI,_,rfl,re.B1 (id:=0) rfl (by rw[hln,ai]) (by decide)⟩
end Go.Ex
namespace Go.Sx
open Go Go.Ex Go.Proofs
variable{ls:List Nat}{O:Nat->Sx.dU}
theorem Rel.IL{H:Hp}{nx:Nat}{iv:Iv}{B:Nat}{w w':World}(r:Rel H nx iv B w O w'){id t m:Nat}(h:cY H id=some (.vec t 1 (U ls)))(hm:m<=ls.length)(hlm:Lm ls)(hle:ls.length<=9223372036854775807):
  dA w' (fun g=>B<=g∧g<w'.heap.size) ((At.w id m).den O) (ls.take m):=by
 have hlt:(ls.take m).length=m:=by rw[aW];omega
 rcases r.vec id t 1 _ h with⟨hn,hu⟩|⟨hn,spare,hb,hc,hcap⟩
 ·have hl:ls=[]:=by cases ls with
   |nil=>rfl
   |cons a b=>simp[U]at hu
  subst hl;simp at hm;subst hm;have:(At.w id 0).den O= .slice none 0 0:=by simp[At.den,hn]
  rw[this];exact dA.nil _ _
 ·refine⟨hlm.take m,by rw[hlt];omega,some ⟨(O id).g,0,none⟩,(O id).cap,by rw[hlt];simp[At.den,hn],?_,fun j x hx=>⟨_,rfl,r.low id _ h hn,?_⟩⟩
  ·have h1:(U ls++spare).length=ls.length+spare.length:=by rw[List.length_append,fg]
   rw[hlt];omega
  ·rw[List.getElem?_take]at hx;split at hx
   ·rw[dN,cell_of hb,aU,aK (by rw[fg];exact(aC.1 hx).1)];exact s0 hx
   ·cases hx
end Go.Sx
namespace Go.Ex
open Go Go.Sx Go.Proofs
variable{ds ls:List Nat}{n:Nat}{S:Nat->Prop}
theorem EO(_hn:n<ls.length)(h0:ls[n]? =some 0):dT (ls.take (n+1))=dT (ls.take n):=by
 rw[List.take_add_one,h0];exact jm _
theorem EP{x:Nat}(h0:ls[n]? =some x)(hx:x≠0):dT (ls.take (n+1))=ls.take (n+1):=by
 rw[List.take_add_one,h0];exact ml _ hx
theorem Cz{w:World}{v:Value}(hS:Old S w)(h:dW w S v (dg ds))(hd:Dg ds)(hl:ds.length<=1000000000):
  du PG N.sL #[v] w (eD w fun v' w2=>∃lv,v'= .agg #[.bool false,lv]∧dA w2 (Nf w w2) lv (dT (gK ds))):=by
 obtain⟨a,c,rfl,hc⟩:=h.shape;rw[eV]at hc h ⊢;refine vT (by simp) ?_
 refine⟨Nat×World,fun z=>match z.1 with
   |0=>⟨[(0,.o (.v (.slice a ds.length c))),(2,.o (.p 0 0)),(3,.o (.p 1 0)),(4,.o (.v (.int .i64 0)))],[(1,.box T.Int [.v (.bool false),.v (.slice none 0 0)]),(0,.box T.Int [.v (.bool false),.v (.slice none 0 0)])],2,[],z.2⟩
   |k+1=>⟨[(0,.o (.v (.slice a ds.length c))),(2,.o (.p 0 0)),(3,.o (.p 1 0)),(4,.o (.v (.int .i64 ((2*(k+1):Nat):Int))))],[(2,.vec T.uint32 1 (U (pk ds (k+1)))),(1,.box T.Int [.v (.bool false),.w 2 (k+1)]),(0,.box T.Int [.v (.bool false),.v (.slice none 0 0)])],3,[],z.2⟩,
  fun z=>ds.length-z.1,fun z=>cQ w.heap.size w z.2∧2*z.1<=ds.length+1,?_,?_⟩
 ·intro O w' r;exact⟨(0,w'),⟨r.cI,by simp⟩,Sub.gn [] r⟩
 rintro⟨k,w1⟩ ⟨hw,hi⟩;dsimp only at hw hi;have hR:dW w1 S (.slice a ds.length c) (dg ds):=dW.cB h fun g hg=>hw.block g (hS g hg)
 cases k with
 |zero=>
  refine dH.mk (fun h1=>?_) (fun h1=>?_)
  ·have h1:0<ds.length:=by
    have:=aH h1;omega
   obtain⟨d0,hd0⟩:∃x,ds[0]? =some x:=⟨_,aA h1⟩
   have hd0b:=hd d0 (aD hd0);have hg0:ds.getD (2*0) 0=d0:=by show ds.getD 0 0=d0;rw[List.getD,hd0];rfl
   obtain⟨ad,rfl,q1,q2⟩:=hR.load (j:=0) (x:=(d0:Int)) (by rw[dg,aM,hd0];rfl);refine⟨ad,rfl,by omega,.int .i64 (d0:Int),fun O w' r=>?_,?_⟩
   ·show w'.cell? (ad.add (0*1))=_;rw[cJ (w:=w1) (w2:=w') (by rw[dq];exact Rel.same (S:=S) r hS (.inl q1))];exact q2
   refine⟨((0+1:Nat):Int),wo,?_⟩;refine dH.mk (fun h2=>?_) (fun h2=>?_)
   ·have h2:0+1<ds.length:=by
     have:=aH h2;omega
    obtain⟨d1,hd1⟩:∃x,ds[0+1]? =some x:=⟨_,aA h2⟩
    have hd1b:=hd d1 (aD hd1);have hg1:ds.getD (2*0+1) 0=d1:=by show ds.getD (0+1) 0=d1;rw[List.getD,hd1];rfl
    obtain⟨_,had,q3,q4⟩:=hR.load (j:=0+1) (x:=(d1:Int)) (by rw[dg,aM,hd1];rfl);injection had with had;subst had;refine⟨((0+1:Nat):Int),wo,ad,rfl,by omega,.int .i64 (d1:Int),fun O w' r=>?_,?_⟩
    ·show w'.cell? (ad.add ((0+1)*1))=_;rw[cJ (w:=w1) (w2:=w') (by rw[dq];exact Rel.same (S:=S) r hS (.inl q3))];exact q4
    refine⟨((65536*d1:Nat):Int),wo,((d0+65536*d1:Nat):Int),wo,?_⟩;have hpk:=wG ds 0;rw[hg0,hg1]at hpk;generalize d0+65536*d1=dd at*
    have hdd:dd<4294967296:=H2 hd (0+1) dd (by rw[hpk];simp);refine⟨(dd:Int),by rw[vw]<;>omega,?_⟩;refine .inl ?_;refine⟨by omega,by unfold maxLen;omega,((2*(0+1):Nat):Int),wo,?_⟩;intro ρ3 w3 r3;have hU:U (pk ds (0+1))=U (pk ds 0)++[.int .u32 (dd:Int)]:=by rw[hpk];simp[U]
    exact⟨(0+1,w3),⟨hw.tr r3.cI,by dsimp only;omega⟩,Sub.gn [(2,3)] r3 ⟨by dsimp only;rw[hU];rfl,rfl,rfl,trivial⟩,by dsimp only;omega⟩
   ·have h2:0+1=ds.length:=by
     have:=aG h2;omega
    have hg1:ds.getD (2*0+1) 0=0:=by show ds.getD (0+1) 0=0;rw[List.getD,List.getElem?_eq_none (by omega)];rfl
    have hpk:=wG ds 0;rw[hg0,hg1]at hpk;obtain⟨dd,hdde⟩:∃dd,dd=d0:=⟨_,rfl⟩
    rw[<-hdde]at hpk ⊢;have hdd:dd<4294967296:=by omega
    rw[show dd+65536*0=dd by omega]at hpk;refine⟨(dd:Int),by rw[vw]<;>omega,?_⟩;refine .inl ?_;refine⟨by omega,by unfold maxLen;omega,((2*(0+1):Nat):Int),wo,?_⟩;intro ρ3 w3 r3;have hU:U (pk ds (0+1))=U (pk ds 0)++[.int .u32 (dd:Int)]:=by rw[hpk];simp[U]
    exact⟨(0+1,w3),⟨hw.tr r3.cI,by dsimp only;omega⟩,Sub.gn [(2,3)] r3 ⟨by dsimp only;rw[hU];rfl,rfl,rfl,trivial⟩,by dsimp only;omega⟩
  ·have h1:ds=[]:=by
    have:=aG h1;exact List.eq_nil_of_length_eq_zero (by omega)
   subst h1;refine⟨World,fun z=>⟨[(2,.o (.p 0 0)),(3,.o (.p 1 0)),(6,.o (.v (.int .i64 0)))],[(1,.box T.Int [.v (.bool false),.v (.slice none 0 0)]),(0,.box T.Int [.v (.bool false),.v (.slice none 0 0)])],2,[],z⟩,fun _=>0,fun z=>cQ w.heap.size w z,?_,?_⟩
   ·intro O w' r;exact⟨w',hw.tr r.cI,Sub.gn [] r⟩
   intro w2 hw;dsimp only at hw ⊢;refine⟨⟨by decide,by decide,by decide⟩,none,0,0,by rfl,by rfl,by rfl,?_⟩;intro ρe we re;exact⟨_,rfl,hw.tr re.cI,_,rfl,dA.nil _ _⟩
 |succ k=>
  refine dH.mk (fun h1=>?_) (fun h1=>?_)
  ·have h1:(2*(k+1))<ds.length:=by
    have:=aH h1;omega
   obtain⟨d0,hd0⟩:∃x,ds[(2*(k+1))]? =some x:=⟨_,aA h1⟩
   have hd0b:=hd d0 (aD hd0);have hg0:ds.getD (2*(k+1)) 0=d0:=by show ds.getD (2*(k+1)) 0=d0;rw[List.getD,hd0];rfl
   obtain⟨ad,rfl,q1,q2⟩:=hR.load (j:=(2*(k+1))) (x:=(d0:Int)) (by rw[dg,aM,hd0];rfl);refine⟨ad,rfl,by omega,.int .i64 (d0:Int),fun O w' r=>?_,?_⟩
   ·show w'.cell? (ad.add ((2*(k+1))*1))=_;rw[cJ (w:=w1) (w2:=w') (by rw[dq];exact Rel.same (S:=S) r hS (.inl q1))];exact q2
   refine⟨(((2*(k+1))+1:Nat):Int),wo,?_⟩;refine dH.mk (fun h2=>?_) (fun h2=>?_)
   ·have h2:(2*(k+1))+1<ds.length:=by
     have:=aH h2;omega
    obtain⟨d1,hd1⟩:∃x,ds[(2*(k+1))+1]? =some x:=⟨_,aA h2⟩
    have hd1b:=hd d1 (aD hd1);have hg1:ds.getD (2*(k+1)+1) 0=d1:=by show ds.getD ((2*(k+1))+1) 0=d1;rw[List.getD,hd1];rfl
    obtain⟨_,had,q3,q4⟩:=hR.load (j:=(2*(k+1))+1) (x:=(d1:Int)) (by rw[dg,aM,hd1];rfl);injection had with had;subst had;refine⟨(((2*(k+1))+1:Nat):Int),wo,ad,rfl,by omega,.int .i64 (d1:Int),fun O w' r=>?_,?_⟩
    ·show w'.cell? (ad.add (((2*(k+1))+1)*1))=_;rw[cJ (w:=w1) (w2:=w') (by rw[dq];exact Rel.same (S:=S) r hS (.inl q3))];exact q4
    refine⟨((65536*d1:Nat):Int),wo,((d0+65536*d1:Nat):Int),wo,?_⟩;have hpk:=wG ds (k+1);rw[hg0,hg1]at hpk;generalize d0+65536*d1=dd at*
    have hdd:dd<4294967296:=H2 hd ((k+1)+1) dd (by rw[hpk];simp);refine⟨(dd:Int),by rw[vw]<;>omega,?_⟩;refine .inl ?_;refine⟨by rw[fg,tY];omega,by omega,by unfold maxLen;omega,((2*((k+1)+1):Nat):Int),wo,?_⟩;intro ρ3 w3 r3;have hU:U (pk ds ((k+1)+1))=U (pk ds (k+1))++[.int .u32 (dd:Int)]:=by rw[hpk];simp[U]
    exact⟨((k+1)+1,w3),⟨hw.tr r3.cI,by dsimp only;omega⟩,Sub.gn [(2,4)] r3 ⟨by dsimp only;rw[hU];rfl,rfl,rfl,trivial⟩,by dsimp only;omega⟩
   ·have h2:(2*(k+1))+1=ds.length:=by
     have:=aG h2;omega
    have hg1:ds.getD (2*(k+1)+1) 0=0:=by show ds.getD ((2*(k+1))+1) 0=0;rw[List.getD,List.getElem?_eq_none (by omega)];rfl
    have hpk:=wG ds (k+1);rw[hg0,hg1]at hpk;obtain⟨dd,hdde⟩:∃dd,dd=d0:=⟨_,rfl⟩
    rw[<-hdde]at hpk ⊢;have hdd:dd<4294967296:=by omega
    rw[show dd+65536*0=dd by omega]at hpk;refine⟨(dd:Int),by rw[vw]<;>omega,?_⟩;refine .inl ?_;refine⟨by rw[fg,tY];omega,by omega,by unfold maxLen;omega,((2*((k+1)+1):Nat):Int),wo,?_⟩;intro ρ3 w3 r3;have hU:U (pk ds ((k+1)+1))=U (pk ds (k+1))++[.int .u32 (dd:Int)]:=by rw[hpk];simp[U]
    exact⟨((k+1)+1,w3),⟨hw.tr r3.cI,by dsimp only;omega⟩,Sub.gn [(2,4)] r3 ⟨by dsimp only;rw[hU];rfl,rfl,rfl,trivial⟩,by dsimp only;omega⟩
  ·have h1:ds.length<=2*(k+1):=by
    have:=aG h1;omega
   have hk:k+1=(ds.length+1) / 2:=by omega
   have hpk:pk ds (k+1)=gK ds:=by rw[hk];exact H0 ds
   have hlen:=tY ds (k+1);have hlm:=H2 hd (k+1);rw[<-hpk];obtain⟨ls,hls⟩:∃ls,ls=pk ds (k+1):=⟨_,rfl⟩
   rw[<-hls]at hlen hlm ⊢
   refine⟨by show(U (pk ds (k+1))).length=_;rw[<-hls,fg,hlen];simp,Nat×World,fun z=>⟨[(2,.o (.p 0 0)),(3,.o (.p 1 0)),(6,.o (.v (.int .i64 z.1)))],[(2,.vec T.uint32 1 (U ls)),(1,.box T.Int [.v (.bool false),.w 2 (k+1)]),(0,.box T.Int [.v (.bool false),.v (.slice none 0 0)])],3,[],z.2⟩,fun z=>z.1,
    fun z=>cQ w.heap.size w z.2∧z.1<=k+1∧dT (ls.take z.1)=dT ls,?_,?_⟩
   ·intro O w' r;exact⟨(k+1,w'),⟨hw.tr r.cI,aE _,by dsimp only;rw[List.take_of_length_le (by omega)]⟩,Sub.gn [] r ⟨by dsimp only;rw[hls];rfl,rfl,rfl,trivial⟩⟩
   rintro⟨n,w2⟩ ⟨hw,hn,htr⟩;dsimp only at hw hn htr ⊢
   cases n with
   |zero=>
    refine⟨by rw[fg,hlen];simp,⟨by omega,by omega⟩,0,by rfl,?_⟩;intro ρe we re;refine⟨_,rfl,hw.tr re.cI,_,rfl,?_⟩;have:=re.IL (id:=2) (m:=0) rfl (aP _) hlm (by omega);rw[<-htr];exact this.cC fun g hg=>.inr hg
   |succ n=>
    obtain⟨x,hx⟩:∃x,ls[n]? =some x:=⟨_,aA (by omega)⟩
    refine dH.mk (fun hp=>?_) (fun hp=>absurd (aG hp) (by omega));refine⟨(n:Int),wo,by rw[fg,hlen];simp,by omega,.int .u32 (x:Int),by simpa using s0 hx,?_⟩;refine dH.mk (fun h0=>?_) (fun h0=>?_)
    ·have h0:x=0:=by have:=eq_of_beq h0;omega
     subst h0;refine⟨(n:Int),wo,?_⟩;intro ρ3 w3 r3;exact⟨(n,w3),⟨hw.tr r3.cI,by dsimp only;omega,by dsimp only;rw[<-htr,EO (by omega) hx]⟩,Sub.gn [] r3,by dsimp only;omega⟩
    ·have h0:x≠0:=fun e=>by rw[e]at h0;exact absurd h0 (by decide)
     refine⟨by rw[fg,hlen];simp,⟨by omega,by omega⟩,n+1,by rfl,?_⟩;intro ρe we re;refine⟨_,rfl,hw.tr re.cI,_,rfl,?_⟩;have:=re.IL (id:=2) (m:=n+1) rfl (by omega) hlm (by omega);rw[<-htr,EP hx h0];exact this.cC fun g hg=>.inr hg
end Go.Ex
namespace Go.Ex
open Go Go.Sx Go.Proofs
variable{H:Hp}{z:Int}{iv:Iv}{cs:List Int}{b ds ls:List Nat}{xs:List Value}{B i nx:Nat}{S:Nat->Prop}{O:Nat->Sx.dU}{q:Rat}{u v:Value}{w w':World}
theorem si{w2:World}{v':Value}(hc:EN iv v)(r:Rel H nx iv B w O w')(hob:∀g,v'.ownBlock=some g->g<w2.heap.size∧(v.ownBlock=some g∨g=w'.heap.size)):
  ∀lo hi,(lo,hi)∈qO v'->hi<=w2.heap.size∧∀id b,cY H id=some b->(O id).nil=false->¬(lo<=(O id).g∧(O id).g<hi):=fun lo hi hm=>by
 obtain⟨hg,rfl⟩:=A2.1 hm;obtain⟨h1,h2⟩:=hob _ hg;refine⟨by omega,fun id c hc' hn he=>?_⟩;rcases h2 with h2|h2
 ·exact hc.not r h2 id c hc' hn (by omega)
 ·have:=(r.low id c hc' hn).2;omega
theorem dA.out{w1:World}(h:dA w1 (Cv S w.heap.size iv) v ls)(r:Rel H nx iv w.heap.size w1 O w')(hS:Old S w):dA w' (Nw S w w') v ls:=
 (dA.rel h r hS).cC fun _ hg=>Cv.nw hg r
theorem FO{B' e sz m:Nat}(h:w.ownsRow B e sz v m xs)(hb:B'<=B):w.ownsRow B' e sz v m xs:=⟨h.1,h.2.imp id fun⟨g,cap,cur,k1,k2,k3⟩=>⟨g,cap,cur,k1,by omega,k3⟩⟩
theorem sj(a b:List Nat):dg (a++b)=dg a++dg b:=by simp[dg]
theorem pY{m:Nat}(h:w.ownsRow B T.int 1 v m (cs.map (Value.int .i64)))(hm:m=cs.length)(hl:m<=maxLen):dW w (fun g=>v.ownBlock=some g) v cs:=by
 subst hm;rcases h.2 with⟨rfl,h0⟩|⟨g,cap,cur,rfl,hb,hc,hmc,hcap,hsz,htake⟩
 ·have:cs=[]:=List.eq_nil_of_length_eq_zero h0;subst this;exact⟨by simp[maxLen],by simp,by simp,none,0,rfl,aE _,by simp⟩
 ·refine⟨hl,h.1,fun u hu=>by simp at hu;obtain⟨_,_,rfl⟩:=hu;rfl,_,cap,rfl,hmc,fun j u hu=>⟨_,rfl,rfl,?_⟩⟩;exact h.cells (g:=g) rfl j u hu
theorem Dg.append{a:List Nat}(ha:Dg a)(hb:Dg b):Dg (a++b):=fun x hx=>(bK.1 hx).elim (ha x) (hb x)
theorem uu(a b:List Nat):ku (a++b)=ku a+up a.length*ku b:=by
 unfold ku;rw[List.map_append,zB,aL]
theorem yl(hd:Dg ds):Nz (dT (gK ds))∧(val (dT (gK ds)):Int)=ku ds:=by
 obtain⟨h1,h2,_⟩:=xo ds hd;obtain⟨k1,k2,_⟩:=eW (gK ds);exact⟨k2,by rw[k1,h1]⟩
theorem uG(hS:Old S w)(h:dW w S v cs)(hb:∀c∈cs,-1152921504606846976<=c∧c<=1152921504606846976)(hl:cs.length<=100000000):
  du PG N.j8 #[v] w (eD w fun v' w2=>cw w2 (Nf w w2) v' (dD cs)):=by
 obtain⟨a,c,rfl,hc⟩:=h.shape;obtain⟨hspec,hdg,hdl⟩:=kE cs 0;obtain⟨hk1,hk2⟩:=j7 cs 0 hb (by decide) (by decide);rw[Int.add_zero]at hspec;refine tq (by simp) ?_;refine bu (cH (Φ:=fun _ w' v' w2=>∃o,v'= .tuple #[o,.int .i64 (dM cs 0).2]∧w2.ownsRow w'.heap.size T.int 1 o cs.length ((dg (dM cs 0).1).map (Value.int .i64))) (fun O w' r=>A5 (oS hS r) (dW.cB h fun g hg=>Rel.same (S:=S) r hS (.inl hg)) hb (by omega)) ?_);rintro O wa v1 wb r he hw ⟨o,rfl,hrow⟩;have hrowc:EN [(wa.heap.size,wb.heap.size)] o:=fun g hg=>⟨_,_,bD.2 rfl,(ownsRow.low hrow g hg).1,(ownsRow.low hrow g hg).2⟩
 replace hrow:=FO hrow r.bw;generalize [(wa.heap.size,wb.heap.size)]=iv at*
 generalize hds:(dM cs 0).1=ds at*
 generalize hk:(dM cs 0).2=k at*
 obtain⟨ao,co,rfl,hco⟩:=jh hrow;refine dH.mk (fun hneg=>?_) (fun hneg=>?_)
 ·have hneg:=aH hneg;have hV:dD cs<0:=by
   have h1:=(xn hdg).2;rw[hdl]at h1;have h2:=HZ cs.length;have h3:up cs.length*k<=up cs.length*(-1):=Int.mul_le_mul_of_nonneg_left (by omega) (by omega);omega
  obtain⟨hspec2,hdg2',hdl2⟩:=kE (cs.map (- ·)) 0;have hb2:∀c∈cs.map (- ·),-1152921504606846976<=c∧c<=1152921504606846976:=fun c hc=>by
   obtain⟨x,hx,rfl⟩:=aS.1 hc;have:=hb x hx;omega
  obtain⟨hk1',hk2'⟩:=j7 (cs.map (- ·)) 0 hb2 (by decide) (by decide);rw[Int.add_zero,Dj,aL]at hspec2;rw[aL]at hdl2;have hk0:0<=(dM (cs.map (- ·)) 0).2:=by
   have h1:=(xn hdg2').2;rw[hdl2]at h1;have h2:=HZ cs.length;apply Decidable.byContradiction;intro h3;have h4:up cs.length*(dM (cs.map (- ·)) 0).2<=up cs.length*(-1):=Int.mul_le_mul_of_nonneg_left (by omega) (by omega);omega
  refine⟨Nat×World,fun z=>⟨[(0,.o (.v (.slice a cs.length c))),(2,.o (.p 0 0)),(3,.o (.v (.slice ao cs.length co))),(5,.o (.v (.int .i64 z.1)))],[(0,.box T.Int [.v (.bool false),.v (.slice none 0 0)])],1,iv,z.2⟩,fun z=>cs.length-z.1,
   fun z=>z.1<=cs.length∧cQ w.heap.size w z.2∧z.2.ownsRow w.heap.size T.int 1 (.slice ao cs.length co) cs.length (((cs.take z.1).map (- ·)++(dg ds).drop z.1).map (Value.int .i64)),?_,?_⟩
  ·intro O w' r;exact⟨(0,w'),⟨by simp,hw.tr r.cI,by simpa using il hrow hrowc r⟩,Sub.gn [] r⟩
  rintro⟨i,w1⟩ ⟨hi,hw,hrow⟩;dsimp only at hi hw hrow ⊢;have hR:dW w1 S (.slice a cs.length c) cs:=dW.cB h fun g hg=>hw.block g (hS g hg);refine dH.mk (fun hib=>?_) (fun hib=>?_)
  ·have hib:i<cs.length:=by simpa using hib
   obtain⟨x,hx⟩:∃x,cs[i]? =some x:=⟨_,aA hib⟩
   obtain⟨hx1,hx2⟩:=hb x (aD hx);obtain⟨ad,rfl,q1,q2⟩:=hR.load hx;obtain⟨go,hgo⟩:∃g,ao=some ⟨g,0,none⟩:=by
    rcases hrow.2 with⟨_,h0⟩|⟨g,cap,cur,e,_⟩
    ·omega
    ·injection e with e;exact⟨g,e⟩
   subst hgo;refine⟨ad,rfl,by omega,.int .i64 x,fun O w' r=>?_,?_⟩
   ·rw[aJ,cJ (w:=w1) (w2:=w') (by rw[dq];exact Rel.same (S:=S) r hS (.inl q1))];exact q2
   refine⟨-x,wo,⟨go,0,none⟩,rfl,by omega,?_⟩;intro O w' r;have hrow3:=il hrow hrowc r;obtain⟨g',hg',hok,hst,hgr,hsz⟩:=oI (nv:=[.int .i64 (-x)]) hrow3 rfl hib rfl (by decide);injection hg' with hg';injection hg' with hg';subst hg';rw[JV (by rw[aL,List.length_append,aL,aW,List.length_drop,eV,hdl];omega)]at hst;have had:(⟨go,0,none⟩:Addr).add ((i:Int).toNat*1)=⟨go,i*1,none⟩:=by rw[aJ,dN,aU]
   have hnot:=fun id b hb hn=>hrowc.not r (b:=go) rfl id b hb hn;have hgoB:=(ownsRow.low hrow go rfl).1;have hw':cQ w.heap.size w (setCells w' ⟨go,i*1,none⟩ [.int .i64 (-x)]):=(hw.tr r.cI).tr (cQ.grown hgr (fun g hg=>by injection hg with hg;subst hg;exact hgoB) r.bw);have hlist:(((cs.take i).map (- ·)++(dg ds).drop i).map (Value.int .i64)).set i (.int .i64 (-x))=((cs.take (i+1)).map (- ·)++(dg ds).drop (i+1)).map (Value.int .i64):=by
    rw[<-List.map_set];congr 1;have hl1:((cs.take i).map (- ·)).length=i:=by rw[aL,aW];omega
    obtain⟨d,hd⟩:∃d,(dg ds)[i]? =some d:=⟨_,aA (by rw[eV,hdl];exact hib)⟩
    have hd2:(dg ds).drop i=d::(dg ds).drop (i+1):=by
     rw[List.drop_eq_getElem_cons (by rw[eV,hdl];exact hib)];congr 1;have:=aA (l:=dg ds) (i:=i) (by rw[eV,hdl];exact hib);rw[hd]at this;injection this with this;exact this.symm
    rw[List.take_add_one,hx,List.map_append,hd2,List.set_append_right _ _ (by omega),hl1,bH];simp
   refine⟨by rw[had],fun j hj=>by rw[had];exact hok j hj,fun id b hb hn=>by rw[had];exact hnot id b hb hn,fun w2 hw2=>?_⟩;have hw2:w2=setCells w' ⟨go,i*1,none⟩ [.int .i64 (-x)]:=by rw[hw2];exact congrArg (fun x=>setCells w' x _) had
   rw[<-hw2]at hst hw'
   erw [hlist]at hst
   refine⟨((i+1:Nat):Int),wo,?_⟩;intro ρ3 w3 r3;exact⟨(i+1,w3),⟨hib,hw'.tr r3.cI,il hst hrowc r3⟩,Sub.gn [] r3,by dsimp only;omega⟩
  have hib:i=cs.length:=by
   have:¬i<cs.length:=by simpa using hib
   omega
  subst hib;rw[bF,List.drop_of_length_le (by rw[eV,hdl];exact aE _),List.append_nil]at hrow;refine⟨⟨by omega,by omega,by omega⟩,ao,cs.length,co,C9 ao co,by omega,by omega,?_⟩;refine bu (cH (Φ:=fun _ w' v' w2=>∃o,v'= .tuple #[o,.int .i64 (dM (cs.map (- ·)) 0).2]∧w2.ownsRow w'.heap.size T.int 1 o cs.length ((dg (dM (cs.map (- ·)) 0).1).map (Value.int .i64))) (fun O w' r=>?_) ?_)
  ·have h8:=il hrow hrowc r;have h9:=pY h8 (by rw[aL]) (by unfold maxLen;omega);have h10:=A5 (fun g hg=>(ownsRow.low h8 g hg).2) h9 hb2 (by rw[aL];omega);rw[aL]at h10;exact h10
  rintro O wc v1 wd r he hbb ⟨o2,rfl,hrow2⟩;have hrow2c:EN ((wc.heap.size,wd.heap.size)::iv) o2:=fun g hg=>⟨_,_,aI,(ownsRow.low hrow2 g hg).1,(ownsRow.low hrow2 g hg).2⟩
  replace hrow2:=FO hrow2 r.bw;replace hw:=hw.tr hbb;generalize (wc.heap.size,wd.heap.size)::iv=iv2 at*
  generalize hds2:(dM (cs.map (- ·)) 0).1=ds2 at*
  generalize hkk2:(dM (cs.map (- ·)) 0).2=k2 at*
  obtain⟨kn,rfl⟩:∃kn:Nat,k2=kn:=⟨k2.toNat,by omega⟩
  obtain⟨ao2,co2,rfl,hco2⟩:=jh hrow2;have ds2_len:ds2.length=cs.length:=hdl2;have ds2_dg:Dg ds2:=hdg2';refine bu (cH (Φ:=fun _ w' v w2=>dW w2 (Nf w' w2) v (dg (cW kn))) (fun O w' r=>by exact Cy kn w' (by omega)) ?_);rintro O ws vs wt r he hb hsp;have hspN:dW wt (Cf w ((ws.heap.size,wt.heap.size)::iv2)) vs (dg (cW kn)):=dW.cC hsp fun g hg=>hg.dB r.bw aI;replace hrow2:=ownsRow.cB (il hrow2 hrow2c r) fun g hg=>he.block g (by have:=(ownsRow.low (il hrow2 hrow2c r) g hg).2;exact this);replace hrow2c:EN ((ws.heap.size,wt.heap.size)::iv2) _:=hrow2c.mono fun p hp=>aB _ hp;replace hw:=hw.tr hb;generalize (ws.heap.size,wt.heap.size)::iv2=rG at*
  obtain⟨asp,csp,rfl,-⟩:=hspN.shape;rw[eV]at hspN ⊢;have hsl:=jA (n:=kn) (k:=4) (by omega);have hsd:=(kG kn).2
  refine .inr (wY hτ (aE _) (xs:=(dg ds2).map (Value.int .i64)) (news:=(dg (cW kn)).map (Value.int .i64)) (m:=cs.length) (k:=(cW kn).length) (by rfl) (by rfl) (by decide) (by rfl) (by rfl) (fun O w' r=>⟨il hrow2 hrow2c r,fun g hg=>hrow2c.not r hg⟩) (by simp[dg]) (by intro u hu;simp at hu;obtain⟨_,_,rfl⟩:=hu;rfl) (by unfold maxLen;omega) (by omega)
   (fun O w' r=>?_) (fun v' w2=>qO v') (fun O w' v' w2 r hsz hob=>si hrow2c r hob) (fun O w' v' w2 r h5 h6 h7=>?_))
  ·obtain⟨_,_,_,a2,c2,e2,_,e3⟩:=hspN;injection e2 with e4 e5 e6;subst e4 e6
   cases asp with
   |none=>
    have h0:(cW kn).length=0:=by
     rcases bJ (cW kn).length with h0|h0
     ·exact h0
     ·obtain⟨ad2,q1,_⟩:=e3 0 _ (aA (show 0<((dg (cW kn)).map (Value.int .i64)).length by simp[dg];exact h0))
      cases q1
    exact .inl ⟨csp,by rw[h0];rfl,h0⟩
   |some ad3=>
    refine .inr ⟨ad3,csp,rfl,fun j u hu=>?_⟩;obtain⟨ad2,q1,q2,q3⟩:=e3 j u hu;injection q1 with q1;subst q1;rw[cJ (w:=wt) (w2:=w') (by rw[dq];exact Rel.same r (bs w) q2)];exact q3
  replace hw:cQ w.heap.size w w2:=(hw.tr r.cI).tr (cQ.grown h6 (fun g hg=>by
   have:=(ownsRow.low hrow2 g hg).1;omega) r.bw)
  have hcat:(dg ds2).map (Value.int .i64)++(dg (cW kn)).map (Value.int .i64)=(dg (ds2++cW kn)).map (Value.int .i64):=by rw[sj,List.map_append]
  rw[hcat]at h5;have hnl:cs.length+(cW kn).length=(dg (ds2++cW kn)).length:=by rw[eV,List.length_append,ds2_len]
  have hdg2:Dg (ds2++cW kn):=ds2_dg.append hsd;have hl2:(ds2++cW kn).length<=1000000000:=by rw[List.length_append,ds2_len];omega
  obtain⟨a3,c3,rfl,-⟩:=jh h5;refine bu (cH (Φ:=fun _ w' v' w2=>∃lv,v'= .agg #[.bool false,lv]∧dA w2 (Nf w' w2) lv (dT (gK (ds2++cW kn)))) (fun O w' r=>?_) ?_)
  ·have h8:=il h5 (EN.row _) r;have h9:=pY h8 hnl (by unfold maxLen;omega);have h10:=Cz (w:=w') (fun g hg=>(ownsRow.low h8 g hg).2) h9 hdg2 hl2;exact h10
  rintro O wp v1 wq r he hb ⟨lv,rfl,hL⟩;have hLN:=hL.dB (S:=fun _=>False) r.bw (iv:=[(wp.heap.size,wq.heap.size)]) aI;have hLN:dA wq (Cf w ((wp.heap.size,wq.heap.size)::qO (.slice a3 (cs.length+(cW kn).length) c3))) lv (dT (gK (ds2++cW kn))):=hL.cC fun g hg=>hg.dB r.bw aI;replace hw:=hw.tr hb;generalize (wp.heap.size,wq.heap.size)::qO (.slice a3 (cs.length+(cW kn).length) c3)=ivq at*
  obtain⟨hnz,hvv⟩:=yl hdg2;obtain⟨a4,n4,c4,rfl⟩:=hLN.shape;have hcv: -dD cs=ku (ds2++cW kn):=by rw[hspec2,uu,(kG kn).1,ds2_len]
  obtain⟨pp,hpe,hpp⟩:=hLN.la;injection hpe with hpe1 hpe2 hpe3;subst hpe1 hpe2 hpe3;have hlenpos:0<pp.ls.length:=by
   rw[hpp];rcases bJ (dT (gK (ds2++cW kn))).length with h0|h0
   ·rw[List.eq_nil_of_length_eq_zero h0]at hvv;simp[val]at hvv;omega
   ·exact h0
  intro ρe we re;refine⟨_,rfl,hw.tr re.cI,dT (gK (ds2++cW kn)),⟨_,?_,hLN.out re (bs w)⟩,hnz,?_⟩
  ·rw[bR hV];have:decide ((pp.ls.length:Int)>0)=true:=bR (by omega);rw[<-this];rfl
  ·have:((val (dT (gK (ds2++cW kn))):Nat):Int)= -dD cs:=by rw[hvv,hcv]
   omega
 ·have hneg:=aG hneg;obtain⟨kn,rfl⟩:∃kn:Nat,k=kn:=⟨k.toNat,by omega⟩
  have ds_len:ds.length=cs.length:=hdl;have ds_dg:Dg ds:=hdg;refine bu (cH (Φ:=fun _ w' v w2=>dW w2 (Nf w' w2) v (dg (cW kn))) (fun O w' r=>by exact Cy kn w' (by omega)) ?_);rintro O ws vs wt r he hb hsp;have hspN:dW wt (Cf w ((ws.heap.size,wt.heap.size)::iv)) vs (dg (cW kn)):=dW.cC hsp fun g hg=>hg.dB r.bw aI;replace hrow:=ownsRow.cB (il hrow hrowc r) fun g hg=>he.block g (by have:=(ownsRow.low (il hrow hrowc r) g hg).2;exact this);replace hrowc:EN ((ws.heap.size,wt.heap.size)::iv) _:=hrowc.mono fun p hp=>aB _ hp;replace hw:=hw.tr hb;generalize (ws.heap.size,wt.heap.size)::iv=rG at*
  obtain⟨asp,csp,rfl,-⟩:=hspN.shape;rw[eV]at hspN ⊢;have hsl:=jA (n:=kn) (k:=4) (by omega);have hsd:=(kG kn).2
  refine .inr (wY hτ (aE _) (xs:=(dg ds).map (Value.int .i64)) (news:=(dg (cW kn)).map (Value.int .i64)) (m:=cs.length) (k:=(cW kn).length) (by rfl) (by rfl) (by decide) (by rfl) (by rfl) (fun O w' r=>⟨il hrow hrowc r,fun g hg=>hrowc.not r hg⟩) (by simp[dg]) (by intro u hu;simp at hu;obtain⟨_,_,rfl⟩:=hu;rfl) (by unfold maxLen;omega) (by omega)
   (fun O w' r=>?_) (fun v' w2=>qO v') (fun O w' v' w2 r hsz hob=>si hrowc r hob) (fun O w' v' w2 r h5 h6 h7=>?_))
  ·obtain⟨_,_,_,a2,c2,e2,_,e3⟩:=hspN;injection e2 with e4 e5 e6;subst e4 e6
   cases asp with
   |none=>
    have h0:(cW kn).length=0:=by
     rcases bJ (cW kn).length with h0|h0
     ·exact h0
     ·obtain⟨ad2,q1,_⟩:=e3 0 _ (aA (show 0<((dg (cW kn)).map (Value.int .i64)).length by simp[dg];exact h0))
      cases q1
    exact .inl ⟨csp,by rw[h0];rfl,h0⟩
   |some ad3=>
    refine .inr ⟨ad3,csp,rfl,fun j u hu=>?_⟩;obtain⟨ad2,q1,q2,q3⟩:=e3 j u hu;injection q1 with q1;subst q1;rw[cJ (w:=wt) (w2:=w') (by rw[dq];exact Rel.same r (bs w) q2)];exact q3
  replace hw:cQ w.heap.size w w2:=(hw.tr r.cI).tr (cQ.grown h6 (fun g hg=>by
   have:=(ownsRow.low hrow g hg).1;omega) r.bw)
  have hcat:(dg ds).map (Value.int .i64)++(dg (cW kn)).map (Value.int .i64)=(dg (ds++cW kn)).map (Value.int .i64):=by rw[sj,List.map_append]
  rw[hcat]at h5;have hnl:cs.length+(cW kn).length=(dg (ds++cW kn)).length:=by rw[eV,List.length_append,ds_len]
  have hdg2:Dg (ds++cW kn):=ds_dg.append hsd;have hl2:(ds++cW kn).length<=1000000000:=by rw[List.length_append,ds_len];omega
  obtain⟨a3,c3,rfl,-⟩:=jh h5;refine bu (cH (Φ:=fun _ w' v' w2=>∃lv,v'= .agg #[.bool false,lv]∧dA w2 (Nf w' w2) lv (dT (gK (ds++cW kn)))) (fun O w' r=>?_) ?_)
  ·have h8:=il h5 (EN.row _) r;have h9:=pY h8 hnl (by unfold maxLen;omega);have h10:=Cz (w:=w') (fun g hg=>(ownsRow.low h8 g hg).2) h9 hdg2 hl2;exact h10
  rintro O wp v1 wq r he hb ⟨lv,rfl,hL⟩;have hLN:=hL.dB (S:=fun _=>False) r.bw (iv:=[(wp.heap.size,wq.heap.size)]) aI;have hLN:dA wq (Cf w ((wp.heap.size,wq.heap.size)::qO (.slice a3 (cs.length+(cW kn).length) c3))) lv (dT (gK (ds++cW kn))):=hL.cC fun g hg=>hg.dB r.bw aI;replace hw:=hw.tr hb;generalize (wp.heap.size,wq.heap.size)::qO (.slice a3 (cs.length+(cW kn).length) c3)=ivq at*
  obtain⟨hnz,hvv⟩:=yl hdg2;obtain⟨a4,n4,c4,rfl⟩:=hLN.shape;intro ρe we re;have hcv:dD cs=ku (ds++cW kn):=by rw[hspec,uu,(kG kn).1,ds_len]
  refine⟨_,rfl,hw.tr re.cI,dT (gK (ds++cW kn)),⟨_,?_,hLN.out re (bs w)⟩,hnz,?_⟩
  ·have:¬dD cs<0:=by rw[hcv,<-hvv];omega
   rw[bG this];rfl
  ·rw[hcv,<-hvv];rfl
theorem K1(n:Int):dD [n.tmod 65536,(n.tdiv 65536).tmod 65536,(n.tdiv 65536).tdiv 65536]=n:=by
 simp only[dD]
 have h1:=Int.mul_tdiv_add_tmod n 65536;have h2:=Int.mul_tdiv_add_tmod (n.tdiv 65536) 65536;omega
theorem lX(n:Int)(w:World)(h1: -9223372036854775808<=n)(h2:n<=9223372036854775807):
  du PG N.C4 #[.int .i64 n] w (eD w fun v w2=>cw w2 (Nf w w2) v n):=by
 refine C6 (by simp) ?_;have b1:=uF n;have b2:=uF (n.tdiv 65536);have e1:=Int.mul_tdiv_add_tmod n 65536;have e2:=Int.mul_tdiv_add_tmod (n.tdiv 65536) 65536;have hsum:=K1 n;refine⟨by decide,n.tmod 65536,rfl,by decide,n.tdiv 65536,wo,by decide,_,rfl,by decide,n.tdiv 65536,wo,by decide,(n.tdiv 65536).tdiv 65536,wo,?_⟩;generalize n.tmod 65536=c0 at*
 generalize (n.tdiv 65536).tmod 65536=c1 at*
 generalize (n.tdiv 65536).tdiv 65536=c2 at*
 refine bu (cH (Φ:=fun _ w' v w2=>cw w2 (Nf w' w2) v n) (fun O w' r=>?_) ?_)
 ·rw[<-hsum];have ha:=r.lj (id:=1) (sz:=1) (n:=3) rfl rfl (by decide) (by intro u hu;simp at hu;rcases hu with rfl|rfl|rfl<;>rfl)
  exact uG (S:=fun g=>g=(O 1).g) (fun g hg=>by rw[hg];exact(r.low 1 _ rfl (r.nn 1 _ rfl (by intros;simp) (by simp))).2) (cs:=[c0,c1,c2]) ha (by
   intro c hc;simp at hc
   rcases hc with rfl|rfl|rfl<;>omega) (by simp)
 rintro O wa v1 wb r he hb hI;have hI:=hI.dB (S:=fun _=>False) r.bw (iv:=(wa.heap.size,wb.heap.size)::[]) aI;generalize (wa.heap.size,wb.heap.size)::[]=iv at*
 obtain⟨b,a,m,c,rfl⟩:=hI.shape;intro ρe we re;exact⟨_,rfl,hb.tr re.cI,hI.out re (bs w)⟩
def jQ(z:Int):Value:=if z.natAbs<1073741824 then .tuple #[.int .i64 z,.bool true]else .tuple #[.int .i64 0,.bool false]
theorem jH.DA(h:jH w S v z):∃b a ls c,v= .agg #[.bool b,.slice a ls.length c]∧dA w S (.slice a ls.length c) ls∧sg b (val ls)=z:=by
 obtain⟨b,ls,⟨lv,h1,h2⟩,h3⟩:=h;obtain⟨a,c,rfl,_⟩:=h2.sl;exact⟨b,a,ls,c,h1,h2,h3⟩
theorem JW{x:Nat}(h:ls[i]? =some x):wt i*x<=val ls:=by
 have hi:=(aC.1 h).1;have h1:=eR ls (i+1) hi;rw[dP h]at h1;omega
theorem LC(h:0<i):4294967296<=wt i:=by
 obtain⟨k,rfl⟩:∃k,i=k+1:=⟨i-1,by omega⟩
 have:=wx k;rw[iI];omega
theorem mW(hS:Old S w)(hI:jH w S v z):
  du PG N.uc #[v] w (eD w fun v' _=>v'=jQ z):=by
 obtain⟨b,a,ls,c,rfl,hL,hz⟩:=hI.DA;refine yR (by simp) ?_;have hlen:=hL.le
 refine⟨Nat×World,fun y=>⟨[(1,.o (.p 0 0)),(4,.o (.v (.int .i64 (val (ls.take y.1))))),(5,.o (.v (.int .i64 y.1)))],[(0,.box T.Int [.v (.bool b),.v (.slice a ls.length c)])],1,[],y.2⟩,fun y=>ls.length-y.1,
  fun y=>y.1<=ls.length∧cQ w.heap.size w y.2∧val (ls.take y.1)<1073741824∧(∀j,0<j->j<y.1->ls[j]? =some 0),?_,?_⟩
 ·intro O w' r;exact⟨(0,w'),⟨by simp,r.cI,by simp[val],by omega⟩,Sub.gn [] r⟩
 rintro⟨i,w1⟩ ⟨hi,hw,hv,h0⟩;dsimp only at hi hw hv h0 ⊢;refine dH.mk (fun hib=>?_) (fun hib=>?_)
 ·have hib:i<ls.length:=by simpa using hib
  obtain⟨a',c',e,_,hcell⟩:=hL.sl;injection e with e1 e2 e3;subst e1 e3;obtain⟨x,hx⟩:∃x,ls[i]? =some x:=⟨_,aA hib⟩
  have hx32:=hL.lm x (aD hx);obtain⟨ad,rfl,q1,q2⟩:=hcell i x hx;have hld:∀{H nx iv O w'},Rel H nx iv w.heap.size w1 O w'->w'.cell? (ad.add ((i:Int).toNat*1))=some (.int .u32 x):=fun r=>by
   rw[aJ,ai];exact jw hS hw r q1 q2
  have hge:=JW hx;refine dH.mk (fun hp=>?_) (fun hp=>?_)
  ·have hp:0<i:=by
    have:(i:Int)>0:=aH hp;omega
   have hw1:=LC hp;refine⟨ad,rfl,by omega,.int .u32 x,fun O w' r=>hld r,?_⟩;refine dH.mk (fun hne=>?_) (fun hne=>?_)
   ·have hne:x≠0:=by simpa using hne
    intro ρe we re;refine⟨_,rfl,hw.tr re.cI,?_⟩;have:¬z.natAbs<1073741824:=by
     have:=Nat.mul_le_mul hw1 (show 1<=x by omega);rw[<-hz,rD];omega
    show _=jQ z;rw[jQ,aF this];rfl
   ·have hne:x=0:=by simpa using hne
    subst hne;refine⟨ad,rfl,by omega,.int .u32 0,fun O w' r=>hld r,?_⟩;have hnx:val (ls.take (i+1))=val (ls.take i):=by rw[dP hx];omega
    have hv2:val (ls.take (i+1))<1073741824:=by rw[hnx];exact hv
    have h02:∀j,0<j->j<i+1->ls[j]? =some 0:=fun j h1 h2=>by
     rcases aO j i with h3|h3
     ·exact h0 j h1 h3
     ·have:j=i:=by omega
      rw[this];exact hx
    refine⟨ad,rfl,by omega,.int .u32 0,fun O w' r=>hld r,((0:Nat):Int),by decide,((val (ls.take (i+1)):Nat):Int),by rw[hnx,wrap64]<;>omega,((i+1:Nat):Int),wo,?_⟩;intro ρ3 w3 r3;exact⟨(i+1,w3),⟨hib,hw.tr r3.cI,hv2,h02⟩,Sub.gn [] r3,by dsimp only;omega⟩
  ·have hp:i=0:=by
    have:¬((i:Int)>0):=aG hp;omega
   subst hp;refine⟨ad,rfl,by omega,.int .u32 x,fun O w' r=>hld r,?_⟩;refine dH.mk (fun hbig=>?_) (fun hbig=>?_)
   ·have hbig:=aH hbig;intro ρe we re;refine⟨_,rfl,hw.tr re.cI,?_⟩;have:¬z.natAbs<1073741824:=by
     rw[<-hz,rD];rw[ij]at hge;omega
    show _=jQ z;rw[jQ,aF this];rfl
   ·have hbig:=aG hbig;have hnx:val (ls.take (0+1))=x:=by rw[dP hx];simp[val,ij]
    have hv2:val (ls.take (0+1))<1073741824:=by rw[hnx];omega
    have h02:∀j,0<j->j<0+1->ls[j]? =some 0:=fun j h1 h2=>by
     omega
    refine⟨ad,rfl,by omega,.int .u32 x,fun O w' r=>hld r,((x:Nat):Int),wo,((val (ls.take (0+1)):Nat):Int),by rw[hnx,wrap64]<;>simp[val]<;>omega,((0+1:Nat):Int),wo,?_⟩;intro ρ3 w3 r3;exact⟨(0+1,w3),⟨hib,hw.tr r3.cI,hv2,h02⟩,Sub.gn [] r3,by dsimp only;omega⟩
 ·have hib:i=ls.length:=by
   have:¬i<ls.length:=by simpa using hib
   omega
  subst hib;rw[bF]at hv ⊢;have hlt:z.natAbs<1073741824:=by rw[<-hz,rD];exact hv
  cases b with
  |true=>
   refine⟨-(val ls:Int),wo,?_⟩;intro ρe we re;refine⟨_,rfl,hw.tr re.cI,?_⟩;show _=jQ z;rw[jQ,if_pos hlt,<-hz,Hq];rfl
  |false=>
   intro ρe we re;refine⟨_,rfl,hw.tr re.cI,?_⟩;show _=jQ z;rw[jQ,if_pos hlt,<-hz,KU];rfl
theorem A6{a b:Int}(hb:b≠0):a.tdiv (b.sign*(Nat.gcd a.natAbs b.natAbs:Nat))=(Rat.divInt a b).num∧b.tdiv (b.sign*(Nat.gcd a.natAbs b.natAbs:Nat))=((Rat.divInt a b).den:Int):=by
 have hg:0<Nat.gcd a.natAbs b.natAbs:=bg _ (by omega);obtain⟨k,hk⟩:((Nat.gcd a.natAbs b.natAbs:Nat):Int) ∣ a:=by rw[<-Int.natAbs_dvd_natAbs];exact Nat.gcd_dvd_left _ _
 obtain⟨l,hl⟩:((Nat.gcd a.natAbs b.natAbs:Nat):Int) ∣ b:=by rw[<-Int.natAbs_dvd_natAbs];exact Nat.gcd_dvd_right _ _
 have hc:(b.gcd a:Int)=(Nat.gcd a.natAbs b.natAbs:Nat):=by rw[Int.gcd_comm];rfl
 have hc2:b.gcd a=Nat.gcd a.natAbs b.natAbs:=by rw[Int.gcd_comm];rfl
 rw[Rat.num_divInt,Rat.den_divInt,aF hb,hc,hc2];generalize Nat.gcd a.natAbs b.natAbs=g at*
 have hgi:(g:Int)≠0:=by omega
 have hs:b.sign*b.sign=1:=by
  rcases Int.lt_or_gt_of_ne hb with h|h
  ·rw[bY h];rfl
  ·rw[bf h];rfl
 have hs0:b.sign≠0:=fun e=>by rw[e]at hs;simp at hs
 have hne:b.sign*g≠0:=Int.mul_ne_zero hs0 hgi;have hab:((b.natAbs / g:Nat):Int)=b.sign*l:=by
  rw[Int.natCast_ediv,show((b.natAbs:Nat):Int)=b.sign*b by
   rcases Int.lt_or_gt_of_ne hb with h|h
   ·rw[bY h];omega
   ·rw[bf h];omega]
  conv=>lhs;lhs;rhs;rw[hl]
  rw[show b.sign*(↑g*l)= ↑g*(b.sign*l) by rw[<-Int.mul_assoc,<-Int.mul_assoc,Int.mul_comm b.sign]];exact Int.mul_ediv_cancel_left _ hgi
 constructor
 ·rw[show b.sign*a / (g:Int)=b.sign*k by
   conv=>lhs;lhs;rhs;rw[hk]
   rw[show b.sign*(↑g*k)= ↑g*(b.sign*k) by rw[<-Int.mul_assoc,<-Int.mul_assoc,Int.mul_comm b.sign]]
   exact Int.mul_ediv_cancel_left _ hgi]
  conv=>lhs;lhs;rw[hk,show(g:Int)*k=(b.sign*g)*(b.sign*k) by
   rw[show (b.sign* ↑g)*(b.sign*k)=(b.sign*b.sign)*(↑g*k) by simp only[Int.mul_assoc,Int.mul_comm,Int.mul_left_comm],hs,Int.one_mul]]
  exact Int.mul_tdiv_cancel_left _ hne
 ·rw[hab]
  conv=>lhs;lhs;rw[hl,show(g:Int)*l=(b.sign*g)*(b.sign*l) by
   rw[show (b.sign* ↑g)*(b.sign*l)=(b.sign*b.sign)*(↑g*l) by simp only[Int.mul_assoc,Int.mul_comm,Int.mul_left_comm],hs,Int.one_mul]]
  exact Int.mul_tdiv_cancel_left _ hne
theorem pZ(a b:Int)(w:World)(ha:a.natAbs<4611686018427387904)(hb:b.natAbs<4611686018427387904)(hb0:b≠0):
  du PG N.sG #[.int .i64 a,.int .i64 b] w (eD w fun v w2=>cP w2 (Nf w w2) v (Rat.divInt a b)):=by
 refine vM (by simp) ?_;refine⟨-a,wo,-b,wo,?_⟩;conv=>whnf
 rw[show max a (-a)=(a.natAbs:Int) by omega,show max b (-b)=(b.natAbs:Int) by omega]
 refine⟨Nat×Nat×World,fun z=>⟨[(0,.o (.v (.int .i64 a))),(1,.o (.v (.int .i64 b))),(4,.o (.p 0 0)),(5,.o (.v (.int .i64 z.1))),(6,.o (.v (.int .i64 z.2.1)))],[(0,.box T.Rat [.v (.bool false),.v (.slice none 0 0),.v (.bool false),.v (.slice none 0 0)])],1,[],z.2.2⟩,fun z=>z.2.1,
  fun z=>cQ w.heap.size w z.2.2∧Nat.gcd z.1 z.2.1=Nat.gcd a.natAbs b.natAbs∧z.1<4611686018427387904∧z.2.1<4611686018427387904,?_,?_⟩
 ·intro O w' r;exact⟨(a.natAbs,b.natAbs,w'),⟨r.cI,rfl,ha,hb⟩,Sub.gn [] r⟩
 rintro⟨x,y,w1⟩ ⟨hw,hg,hx,hy⟩;dsimp only at hw hg hx hy ⊢;conv=>whnf
 refine dH.mk (fun h=>?_) (fun h=>?_)
 ·have h:0<y:=by
   have:(y:Int)>0:=aH h;omega
  refine cD hτ df [.x 0,.x 1,.x 2,.x 3,.x 4,.x 5] (by kernel_rfl) (by kernel_rfl) ?_;have hm:=bo x h;refine⟨by omega,((x % y:Nat):Int),rfl,?_⟩;intro ρ3 w3 r3;exact⟨(y,x % y,w3),⟨hw.tr r3.cI,by dsimp only;rw[<-hg,Nat.gcd_comm x y,Nat.gcd_rec y x,Nat.gcd_comm],hy,by dsimp only;omega⟩,Sub.gn [] r3,by dsimp only;omega⟩
 have h:y=0:=by
  have:¬(y:Int)>0:=aG h;omega
 subst h;rw[Nat.gcd_zero_right]at hg;have hx0:x≠0:=by rw[hg];exact Nat.pos_iff_ne_zero.1 (bg _ (by omega))
 obtain⟨hn,hd⟩:=A6 (a:=a) hb0;rw[<-hg]at hn hd;have bn:(Rat.divInt a b).num.natAbs<=a.natAbs:=by rw[<-hn];exact Int.natAbs_tdiv_le_natAbs _ _
 have bd:((Rat.divInt a b).den:Int).natAbs<=b.natAbs:=by rw[<-hd];exact Int.natAbs_tdiv_le_natAbs _ _
 refine dH.mk (fun hb1=>?_) (fun hb1=>?_)
 ·have hb1:=aH hb1;rw[bY hb1,Int.neg_one_mul]at hn hd;refine⟨-(x:Int),wo,?_⟩;refine cD hτ df [.x 0,.x 1,.x 2,.x 4,.x 5,.x 6,.x 3,.x 7,.x 8,.x 9] (by kernel_rfl) (by kernel_rfl) ?_;refine⟨by omega,(Rat.divInt a b).num,by rw[hn,wrap64]<;>omega,by omega,((Rat.divInt a b).den:Int),by rw[hd,wrap64]<;>omega,?_⟩;refine cH (Φ:=fun _ w' v w2=>cw w2 (Nf w' w2) v (Rat.divInt a b).num) (fun O w' r=>lX _ w' (by omega) (by omega)) ?_;rintro O wa v1 wb r he hbb hI;replace hw:=hw.tr hbb;have hN:=hI.dB (S:=fun _=>False) r.bw (iv:=(wa.heap.size,wb.heap.size)::[]) aI;generalize (wa.heap.size,wb.heap.size)::[]=iv at*
  obtain⟨b1,a1,m1,c1,rfl⟩:=hN.shape;refine cH (Φ:=fun _ w' v w2=>cw w2 (Nf w' w2) v ((Rat.divInt a b).den:Int)) (fun O w' r=>lX _ w' (by omega) (by omega)) ?_;rintro O wa v1 wb2 r he hbb hI;replace hw:=hw.tr hbb;replace hN:=hN.bz (iv':=(wa.heap.size,wb2.heap.size)::iv) r (bs w) he fun x hx=>aB _ hx;have hD:=hI.dB (S:=fun _=>False) r.bw (iv:=(wa.heap.size,wb2.heap.size)::iv) aI;generalize (wa.heap.size,wb2.heap.size)::iv=iv2 at*
  obtain⟨b2,a2,m2,c2,rfl⟩:=hD.shape;intro ρe we re;exact⟨_,rfl,hw.tr re.cI,(cP.of hN hD).out re (bs w)⟩
 ·have hb1:=aG hb1;rw[bf (by omega),Int.one_mul]at hn hd;refine cD hτ df [.x 0,.x 1,.x 2,.x 4,.x 5,.x 6,.x 3,.x 7,.x 8,.x 9] (by kernel_rfl) (by kernel_rfl) ?_;refine⟨by omega,(Rat.divInt a b).num,by rw[hn,wrap64]<;>omega,by omega,((Rat.divInt a b).den:Int),by rw[hd,wrap64]<;>omega,?_⟩;refine cH (Φ:=fun _ w' v w2=>cw w2 (Nf w' w2) v (Rat.divInt a b).num) (fun O w' r=>lX _ w' (by omega) (by omega)) ?_;rintro O wa v1 wb r he hbb hI;replace hw:=hw.tr hbb;have hN:=hI.dB (S:=fun _=>False) r.bw (iv:=(wa.heap.size,wb.heap.size)::[]) aI;generalize (wa.heap.size,wb.heap.size)::[]=iv at*
  obtain⟨b1,a1,m1,c1,rfl⟩:=hN.shape;refine cH (Φ:=fun _ w' v w2=>cw w2 (Nf w' w2) v ((Rat.divInt a b).den:Int)) (fun O w' r=>lX _ w' (by omega) (by omega)) ?_;rintro O wa v1 wb2 r he hbb hI;replace hw:=hw.tr hbb;replace hN:=hN.bz (iv':=(wa.heap.size,wb2.heap.size)::iv) r (bs w) he fun x hx=>aB _ hx;have hD:=hI.dB (S:=fun _=>False) r.bw (iv:=(wa.heap.size,wb2.heap.size)::iv) aI;generalize (wa.heap.size,wb2.heap.size)::iv=iv2 at*
  obtain⟨b2,a2,m2,c2,rfl⟩:=hD.shape;intro ρe we re;exact⟨_,rfl,hw.tr re.cI,(cP.of hN hD).out re (bs w)⟩
theorem sk(h:z.natAbs<1073741824):jQ z= .tuple #[.int .i64 z,.bool true]:=if_pos h
theorem B2{x y:Int}(hS:Old S w)(hx:jH w S v x)(hy:jH w S u y)(hxs:x.natAbs<1073741824)(hys:y.natAbs<1073741824)(hy0:y≠0):
  du PG N.qj #[v,u] w (eD w fun v' w2=>cP w2 (Nf w w2) v' (Rat.divInt x y)):=by
 have hw:cQ w.heap.size w w:=cQ.refl;replace hx:=hx.cC (S':=Cv S w.heap.size []) fun _ h=>.inl h;replace hy:=hy.cC (S':=Cv S w.heap.size []) fun _ h=>.inl h;obtain⟨bx,ax,lx,cx,rfl⟩:=hx.shape;obtain⟨b2,ay,ly,cy,rfl⟩:=hy.shape;refine qJ (by simp) ?_;refine bu (cE hw (fun _ w' v w2=>v= .tuple #[.int .i64 x,.bool true]) (fun O w' r=>(mW (Rel.old r hS) (hx.rel r hS)).mono fun e w2 ⟨v2,e1,e2,e3⟩=>⟨v2,e1,e2,by rw[e3,sk hxs]⟩) ?_);rintro O wa1 v1 wb1 iv1 r he hw h_ rfl;replace hx:=hx.bz r hS he (mC h_);replace hy:=hy.bz r hS he (mC h_);refine bu (cE hw (fun _ w' v w2=>v= .tuple #[.int .i64 y,.bool true]) (fun O w' r=>(mW (Rel.old r hS) (hy.rel r hS)).mono fun e w2 ⟨v2,e1,e2,e3⟩=>⟨v2,e1,e2,by rw[e3,sk hys]⟩) ?_);rintro O wa1 v1 wb1 iv2 r he hw h_ rfl;refine bu (cE hw (fun _ w' v w2=>cP w2 (Nf w' w2) v (Rat.divInt x y)) (fun O w' r=>pZ x y w' (by omega) (by omega) hy0) ?_);rintro O wa v1 wb iv r he hw h_ hI;have hR:=hI.dB (S:=fun _=>False) r.bw (mN h_);obtain⟨b1,a1,m1,c1,b3,a3,m3,c3,rfl⟩:=hR.shape;intro ρe we re;exact⟨_,rfl,hw.tr re.cI,hR.out re (bs w)⟩
theorem ER(n:Int):Rat.divInt n 1=(n:Rat):=by
 have:=Rat.num_divInt_den (n:Rat);rw[Rat.num_intCast,Rat.den_intCast]at this;exact this
theorem oz(n:Int)(w:World)(hn:n.natAbs<1073741824):
  du PG N.uZ #[.int .i64 n] w (eD w fun v' w2=>cP w2 (Nf w w2) v' (n:Rat)):=by
 have hw:cQ w.heap.size w w:=cQ.refl;refine yK (by simp) ?_;refine bu (cH (Φ:=fun _ w' v w2=>cw w2 (Nf w' w2) v n) (fun O w' r=>lX _ w' (by omega) (by omega)) ?_);rintro O wa v1 wb r he hbb hI;replace hw:=hw.tr hbb;have hN:=hI.dB (S:=fun _=>False) r.bw (iv:=(wa.heap.size,wb.heap.size)::[]) aI;generalize (wa.heap.size,wb.heap.size)::[]=iv at*
 obtain⟨b1,a1,m1,c1,rfl⟩:=hN.shape;refine bu (cH (Φ:=fun _ w' v w2=>cw w2 (Nf w' w2) v 1) (fun O w' r=>lX _ w' (by omega) (by omega)) ?_);rintro O wa v1 wb2 r he hbb hI;replace hw:=hw.tr hbb;replace hN:=hN.bz (iv':=(wa.heap.size,wb2.heap.size)::iv) r (bs w) he fun x hx=>aB _ hx;have hD:=hI.dB (S:=fun _=>False) r.bw (iv:=(wa.heap.size,wb2.heap.size)::iv) aI;generalize (wa.heap.size,wb2.heap.size)::iv=iv2 at*
 obtain⟨b2,a2,m2,c2,rfl⟩:=hD.shape;refine bu (cE hw (fun _ w' v w2=>cP w2 (Nf w' w2) v (Rat.divInt n 1)) (fun O w' r=>B2 (Rel.old r (bs w)) (hN.rel r (bs w)).r (hD.rel r (bs w)).r hn (by decide) (by decide)) ?_);rintro O wa v1 wb iv r he hw h_ hI;have hR:=hI.dB (S:=fun _=>False) r.bw (mN h_);obtain⟨b1,a1,m1,c1,b3,a3,m3,c3,rfl⟩:=hR.shape;rw[ER]at hR;intro ρe we re;exact⟨_,rfl,hw.tr re.cI,hR.out re (bs w)⟩
theorem JX{n1 n2:Bool}{ms:List Nat}(hS:Old S w)(hx:sd w S v n1 ls)(hy:sd w S u n2 ms):
  du PG N.lf #[v,u] w (eD w fun v' _=>v'= .bool (decide (n1=n2∧ls=ms))):=by
 obtain⟨lv,rfl,h1⟩:=hx;obtain⟨mv,rfl,h2⟩:=hy;obtain⟨a,c,rfl,_,ha⟩:=h1.sl;obtain⟨b,e,rfl,_,hb⟩:=h2.sl;have hle1:=h1.le;have hle2:=h2.le;have hw:cQ w.heap.size w w:=cQ.refl;refine tn (by simp) ?_;refine dH.mk (fun hn=>?_) (fun hn=>?_)
 ·have hn:n1≠n2:=fun h=>by rw[h]at hn;simp at hn
  intro O w2 r;exact⟨_,rfl,r.cI,by rw[bG (fun h=>hn h.1)];rfl⟩
 have hn:n1=n2:=by simpa using hn
 subst hn;refine dH.mk (fun h=>?_) (fun h=>?_)
 ·have h:ls.length≠ms.length:=fun he=>by rw[he]at h;simp at h
  intro O w2 r;exact⟨_,rfl,r.cI,by rw[bG (fun e=>h (by rw[e.2]))];rfl⟩
 have h:ls.length=ms.length:=by
  have:(ls.length:Int)=ms.length:=by simpa using h
  omega
 refine⟨Nat×World,fun z=>⟨[(2,.o (.p 0 0)),(3,.o (.p 1 0)),(5,.o (.v (.int .i64 z.1)))],[(1,.box T.Int [.v (.bool n1),.v (.slice b ms.length e)]),(0,.box T.Int [.v (.bool n1),.v (.slice a ls.length c)])],2,[],z.2⟩,fun z=>ls.length-z.1,
  fun z=>z.1<=ls.length∧cQ w.heap.size w z.2∧ls.take z.1=ms.take z.1,?_,?_⟩
 ·intro O w' r;exact⟨(0,w'),⟨by simp,r.cI,by simp⟩,Sub.gn [] r⟩
 rintro⟨i,w1⟩ ⟨hi,hw,ht⟩;dsimp only at hi hw ht ⊢;refine dH.mk (fun hib=>?_) (fun hib=>?_)
 ·have hib:i<ls.length:=by simpa using hib
  obtain⟨x,hx⟩:∃x,ls[i]? =some x:=⟨_,aA hib⟩
  obtain⟨y,hy⟩:∃x,ms[i]? =some x:=⟨_,aA (by omega)⟩
  obtain⟨ad,rfl,q1,q2⟩:=ha i x hx;obtain⟨ad2,rfl,q3,q4⟩:=hb i y hy;have hlx:∀{H nx iv O w'},Rel H nx iv w.heap.size w1 O w'->w'.cell? (ad.add ((i:Int).toNat*1))=some (.int .u32 x):=fun r=>by
   rw[aJ,ai];exact jw hS hw r q1 q2
  have hly:∀{H nx iv O w'},Rel H nx iv w.heap.size w1 O w'->w'.cell? (ad2.add ((i:Int).toNat*1))=some (.int .u32 y):=fun r=>by
   rw[aJ,ai];exact jw hS hw r q3 q4
  refine cD hτ df [.x 0,.x 1,.x 2,.x 3,.x 4,.x 5,.x 6,.x 7,.x 8,.x 9,.x 10] (by kernel_rfl) (by kernel_rfl) ?_;refine⟨ad,rfl,by omega,.int .u32 x,fun O w' r=>hlx r,ad2,rfl,by omega,.int .u32 y,fun O w' r=>hly r,?_⟩;refine dH.mk (fun hne=>?_) (fun hne=>?_)
  ·have hne:x≠y:=fun h=>by rw[h]at hne;simp at hne
   intro O w2 r;refine⟨_,rfl,hw.tr r.cI,?_⟩
   rw[bG (fun e=>hne (by
    have:=e.2;rw[this,hy]at hx;injection hx with hx
    exact hx.symm))]
   rfl
  have hne:x=y:=by
   have:(x:Int)=y:=by simpa using hne
   omega
  subst hne;have ht2:ls.take (i+1)=ms.take (i+1):=by rw[List.take_add_one,List.take_add_one,ht,hx,hy]
  refine⟨((i+1:Nat):Int),wo,?_⟩;intro ρ3 w3 r3;exact⟨(i+1,w3),⟨hib,hw.tr r3.cI,ht2⟩,Sub.gn [] r3,by dsimp only;omega⟩
 have hib:i=ls.length:=by
  have:¬i<ls.length:=by simpa using hib
  omega
 subst hib;rw[bF,h,bF]at ht;intro O w2 r;exact⟨_,rfl,hw.tr r.cI,by rw[bR ⟨rfl,ht⟩];rfl⟩
theorem GQ{a:List Nat}(la:Lm a)(lb:Lm b)(na:Nz a)(nb:Nz b)(h:val a=val b):a=b:=by
 have:a.length=b.length:=by
  rcases bm a.length b.length with h1|h1|h1
  ·have:=iJ la nb h1;omega
  ·exact h1
  ·have:=iJ lb na h1;omega
 exact val_inj la lb this h
theorem A7{x y:Int}(hS:Old S w)(hx:cw w S v x)(hy:cw w S u y):
  du PG N.lf #[v,u] w (eD w fun v' _=>v'= .bool (decide (x=y))):=by
 obtain⟨ls,h1,h2,h3⟩:=hx;obtain⟨ms,k1,k2,k3⟩:=hy;have e:decide (decide (x<0)=decide (y<0)∧ls=ms)=decide (x=y):=by
  refine decide_eq_decide.2 ⟨fun ⟨e1,e2⟩=>?_,fun e1=>?_⟩
  ·have e1:=decide_eq_decide.1 e1;rw[e2]at h3;omega
  ·subst e1;obtain⟨_,_,l1⟩:=h1;obtain⟨_,_,l2⟩:=k1;exact⟨rfl,GQ l1.lm l2.lm h2 k2 (by omega)⟩
 exact(JX hS h1 k1).mono fun _ w2 ⟨v2,e1,e2,e3⟩=>⟨v2,e1,e2,by rw[e3,e]⟩
theorem IG{p:Rat}(hS:Old S w)(hx:cP w S v p)(hy:cP w S u q):
  du PG N.xw #[v,u] w (eD w fun v' _=>v'= .bool (decide (p=q))):=by
 obtain⟨b1,a1,n1,c1,b2,a2,n2,c2,rfl⟩:=hx.shape;obtain⟨b3,a3,n3,c3,b4,a4,n4,c4,rfl⟩:=hy.shape;refine zC (by simp) ?_;refine bu (cH (Φ:=fun _ w' v w2=>v= .bool (decide (p.num=q.num))) (fun O w' r=>A7 (oS hS r) (hx.num.cB fun g hg=>r.cI.block g (hS g hg)) (hy.num.cB fun g hg=>r.cI.block g (hS g hg))) ?_);rintro O wa v1 wb r he hb rfl;have hw:=hb;generalize (wa.heap.size,wb.heap.size)::[]=iv at*
 refine dH.mk (fun h=>?_) (fun h=>?_)
 ·have h:=aH h;refine bu (cE hw (fun _ w' v w2=>v= .bool (decide ((p.den:Int)=q.den))) (fun O w' r=>A7 (oS hS r) (hx.den.cB (kS hw r hS)) (hy.den.cB (kS hw r hS))) ?_);rintro O wa v1 wb2 iv2 r he hw h_ rfl;intro ρe we re;refine⟨_,rfl,hw.tr re.cI,?_⟩;have:decide (p=q)=decide ((p.den:Int)=q.den):=decide_eq_decide.2 ⟨fun e=>by rw[e],fun e=>Rat.ext h (by omega)⟩;rw[this];rfl
 ·have h:=aG h;intro ρe we re;refine⟨_,rfl,hw.tr re.cI,?_⟩;rw[bG (fun e=>h (by rw[e]))];rfl
theorem rE{xs ys:List Rat}(hS:Old S w)(hx:cF w S v xs)(hy:cF w S u ys):
  du PG N.oV #[v,u] w (eD w fun v' _=>v'= .bool (decide (xs=ys))):=by
 obtain⟨a,c,rfl,hc,hm⟩:=dZ.shape hx;obtain⟨b,e,rfl,hc2,hm2⟩:=dZ.shape hy;unfold maxLen at hm hm2;refine sO (by simp) ?_;refine dH.mk (fun h=>?_) (fun h=>?_)
 ·have h:xs.length≠ys.length:=fun he=>by rw[he]at h;simp at h
  intro O w2 r;exact⟨_,rfl,r.cI,by rw[bG (fun e=>h (by rw[e]))];rfl⟩
 have h:xs.length=ys.length:=by
  have:(xs.length:Int)=ys.length:=by simpa using h
  omega
 refine⟨Nat×World,fun z=>⟨[(0,.o (.v (.slice a xs.length c))),(1,.o (.v (.slice b ys.length e))),(5,.o (.v (.int .i64 z.1)))],[],0,[],z.2⟩,fun z=>xs.length-z.1,
  fun z=>z.1<=xs.length∧cQ w.heap.size w z.2∧xs.take z.1=ys.take z.1,?_,?_⟩
 ·intro O w' r;exact⟨(0,w'),⟨by simp,r.cI,by simp⟩,Sub.gn [] r⟩
 rintro⟨i,w1⟩ ⟨hi,hw,ht⟩;dsimp only at hi hw ht ⊢;refine dH.mk (fun hib=>?_) (fun hib=>?_)
 ·have hib:i<xs.length:=by simpa using hib
  obtain⟨x,hxi⟩:∃x,xs[i]? =some x:=⟨_,aA hib⟩
  obtain⟨y,hyi⟩:∃x,ys[i]? =some x:=⟨_,aA (by omega)⟩
  obtain⟨ad2,cs2,rfl,hR2,-,hl2⟩:=dZ.load hy hyi;obtain⟨p2,q2,r2,s2,t2,u2,v2,w2,rfl,hR2⟩:=hR2;obtain⟨ad,cs,rfl,hR,-,hl⟩:=dZ.load hx hxi;obtain⟨p1,q1,r1,s1,t1,u1,v1,w1,rfl,hR⟩:=hR;refine cD hτ df [.x 0,.x 1,.x 2,.x 3,.x 4,.x 5,.x 6,.x 7,.x 8,.x 9] (by kernel_rfl) (by kernel_rfl) ?_;refine⟨ad,rfl,by omega,[.bool p1,.slice q1 r1 s1,.bool t1,.slice u1 v1 w1],rfl,rdO hl hw hS,ad2,rfl,by omega,[.bool p2,.slice q2 r2 s2,.bool t2,.slice u2 v2 w2],rfl,rdO hl2 hw hS,?_⟩;refine cE hw (fun _ w' v w2=>v= .bool (decide (x=y))) (fun O w' r=>IG (oS hS r) (hR.cB (kS hw r hS)) (hR2.cB (kS hw r hS))) ?_;rintro O wa v1 wb iv2 r he hw h_ rfl;refine dH.mk (fun hne=>?_) (fun hne=>?_)
  ·have hne:x≠y:=fun h=>by rw[h]at hne;simp at hne
   intro O w2 r;refine⟨_,rfl,hw.tr r.cI,?_⟩
   rw[bG (fun e=>hne (by
    rw[e,hyi]at hxi;injection hxi with hxi
    exact hxi.symm))]
   rfl
  have hne:x=y:=by simpa using hne
  subst hne;have ht2:xs.take (i+1)=ys.take (i+1):=by rw[List.take_add_one,List.take_add_one,ht,hxi,hyi]
  refine⟨((i+1:Nat):Int),wo,?_⟩;intro ρ3 w3 r3;exact⟨(i+1,w3),⟨hib,hw.tr r3.cI,ht2⟩,Sub.gn [] r3,by dsimp only;omega⟩
 have hib:i=xs.length:=by
  have:¬i<xs.length:=by simpa using hib
  omega
 subst hib;rw[bF,h,bF]at ht;intro O w2 r;exact⟨_,rfl,hw.tr r.cI,by rw[bR ht];rfl⟩
theorem cP.s5{b b2:Bool}{a a2:Option Addr}{n c n2 c2:Nat}(h:cP w S (.agg #[.bool b,.slice a n c,.bool b2,.slice a2 n2 c2]) q):iT w S [.bool b,.slice a n c,.bool b2,.slice a2 n2 c2] q:=
 ⟨b,a,n,c,b2,a2,n2,c2,rfl,h⟩
theorem Rel.lt(r:Rel H nx iv B w O w'){id t:Nat}{cs:List At}(h:cY H id=some (.box t cs)):(O id).g<w'.heap.size:=(r.low id _ h (r.nn id _ h (by intros;simp) (by simp))).2
end Go.Ex
