/- Texts X24 to X52b: lemmas, each with its conditions. -/
import Derived.Test.YtgkpbdkechfgmaaGreatP4
namespace Go.Ex
open Go Go.Sx Go.Proofs
end Go.Ex
namespace Go.Sx
open Go Go.Ex Go.Proofs
variable{O:Nat->Sx.cd}
theorem Rel.sX{H:Hp}{nx:Nat}{iv:Iv}{B:Nat}{w J:World}(r:Rel H nx iv B w O J){id t sz n:Nat}{G:List At}(h:cO H id=some (.box t G))(hl:G.length=n*sz)(A:n<=maxLen)(V:∀u∈G,(u.den O).oneCell'=true):
  gi J (fun g=>g=(O id).g) sz (.slice (some ⟨(O id).g,0,none⟩) n n) (G.map (At.den O)) n:=by
 refine⟨A,by simpa using hl,fun u hu=>?_,_,_,rfl,aE _,fun j u hu=>⟨_,rfl,rfl,?_⟩⟩
 ·obtain⟨x,F,rfl⟩:=aT.1 hu;exact V x F
 ·have h0:(⟨(O id).g,0,none⟩:Addr).add j=⟨(O id).g,j,none⟩:=by
   cases j with
   |zero=>rfl
   |succ j=>simp[Addr.add]
  rw[h0,cell_of (r.box id t _ h)];exact hu
end Go.Sx
namespace Go.Ex
open Go Go.Sx Go.Proofs
theorem HB{n:Nat}(h:n<=9223372036854775807):IntKind.i64.wrap (n:Int)=n:=by rw[wrap64]<;>omega
theorem IH{t b:Nat}(h:t<=9223372036854775807):IntKind.i64.wrap ((t:Int).tdiv (b:Int))=((t / b:Nat):Int):=by
 have V:=Nat.div_le_self t b;rw[Int.tdiv_eq_ediv_of_nonneg (by omega),<-Int.natCast_ediv];exact HB (by omega)
end Go.Ex
namespace Go.Ex
open Go Go.Sx Go.Proofs
def HC:Value:=.agg #[.bool false,.slice none 0 0,.bool false,.slice none 0 0]
theorem HD{n:Int}(V: -9223372036854775808<=n)(I:n<=9223372036854775807):ln n.natAbs<=2:=fc.2 (by show n.natAbs<4294967296^2;omega)
end Go.Ex
namespace Go.Sx
open Go Go.Ex Go.Proofs
variable{G:List Value}{O:Nat->Sx.cd}
theorem Rel.lB{H:Hp}{nx:Nat}{iv:Iv}{B:Nat}{w J:World}(r:Rel H nx iv B w O J){id t m sz:Nat}(h:cO H id=some (.vec t sz G))(hm:G.length=m*sz)(Ov:m<=maxLen)(hs:0<sz)(V:∀u∈G,u.oneCell'=true):
  gi J (fun g=>B<=g/\g<J.heap.size) sz ((At.w id m).den O) G m:=by
 rcases r.vec id t sz _ h with⟨A,rfl⟩|⟨A,spare,hb,hc,Md⟩
 ·have QM:m=0:=by
   rcases bF m with h|h
   ·exact h
   ·have:=Nat.mul_pos h hs;simp at hm;omega
  subst QM;refine⟨Ov,by simp,by simp,none,0,by simp[At.den,A],aE _,by simp⟩
 ·refine⟨Ov,hm,V,some ⟨(O id).g,0,none⟩,(O id).cap,by simp[At.den,A],?_,fun j x F=>⟨_,rfl,r.low id _ h A,?_⟩⟩
  ·have V:(G++spare).length=G.length+spare.length:=List.length_append;have I:m*sz<=(O id).cap*sz:=by omega
   exact Nat.le_of_mul_le_mul_right I hs
  ·rw[cZ,cell_of hb,aU,aJ (aC.1 F).1];exact F
end Go.Sx
namespace Go.Ex
open Go Go.Sx Go.Proofs
end Go.Ex
namespace Go.Ex
open Go Go.Sx Go.Proofs
variable{qs:List Rat}{xs:List Value}{i:Nat}{O:Nat->Sx.cd}{row:Option Nat}{q:Rat}
def signed:Bool->ByteArray->ByteArray
 |true,s=>⟨#[45]⟩++s
 |false,s=>s
def I9(w:World)(S:Nat->Prop)(G:List Value)(q:Rat):Prop:=∃b a n c b2 a2 n2 c2,G=[.bool b,.slice a n c,.bool b2,.slice a2 n2 c2]/\cV w S (.agg #[.bool b,.slice a n c,.bool b2,.slice a2 n2 c2]) q
def Fr(w:World)(S:Nat->Prop)(U:List (List Value))(qs:List Rat):Prop:=U.length=qs.length/\∀(j:Nat) G q,U[j]? =some G->qs[j]? =some q->I9 w S G q
section
variable{S S':Nat->Prop}{w Y:World}{G:List Value}{U:List (List Value)}{q:Rat}{qs:List Rat}
end
section
variable{S S':Nat->Prop}{H:Hp}{nx:Nat}{iv E:Iv}{B:Nat}{w J Y:World}{O:Nat->Sx.cd}{U:List (List Value)}{qs:List Rat}
end
theorem gD:∀{U:List (List Value)},(∀G∈U,G.length=4)->U.flatten.length=U.length*4
 |[],_=>rfl
 |c::r,h=>by
  rw[List.flatten_cons,List.length_append,gD (fun G hc=>h G (aB _ hc)),h c aH,bL];omega
theorem flat_get:∀{U:List (List Value)} {j:Nat} {G:List Value},(∀G∈U,G.length=4)->U[j]? =some G->∀k u,G[k]? =some u->U.flatten[j*4+k]? =some u
 |[],j,G,_,hj,_,_,_=>by simp at hj
 |c::r,0,G,h,hj,k,u,hu=>by
  simp at hj;subst hj;rw[List.flatten_cons,aJ (by have:=(aC.1 hu).1;omega)];simpa using hu
 |c::r,j+1,G,h,hj,k,u,hu=>by
  have hc:=h c aH;rw[List.flatten_cons,aN (by omega),hc,show(j+1)*4+k-4=j*4+k by omega];exact flat_get (fun G hc=>h G (aB _ hc)) (by simpa using hj) k u hu
theorem jU:∀{U:List (List Value)} {j:Nat} {G:List Value},(∀G∈U,G.length=4)->j<U.length->U.flatten.take (j*4)++G++U.flatten.drop (j*4+4)=(U.set j G).flatten
 |[],j,G,_,hj=>by simp at hj
 |c::r,0,G,h,_=>by
  have hc:=h c aH;simp[List.flatten_cons,hc]
 |c::r,j+1,G,h,hj=>by
  have hc:=h c aH
  rw[List.flatten_cons,show(j+1)*4=c.length+j*4 by omega,List.take_length_add_append,show c.length+j*4+4=c.length+(j*4+4) by omega,List.drop_length_add_append,List.set_cons_succ,List.flatten_cons,
   <-jU (fun G hc=>h G (aB _ hc)) (by simpa using hj),bP,bP,bP]
abbrev Out(B:Nat)(iv:Iv):Nat->Prop:=Cv (fun g=>g<B) B iv
theorem ma{H:Hp}{nx:Nat}{iv:Iv}{B Bc e sz m:Nat}{w J:World}{v:Value}(h:w.ownsRow Bc e sz v m xs)(hc:∀g,v.ownBlock=some g->Out B iv g)(r:Rel H nx iv B w O J):J.ownsRow Bc e sz v m xs:=
 ownsRow.br h fun b hb=>Rel.same r (fun _ h=>h) (hc b hb)
theorem fR{w w1 Y:World}(h:w.grownBy w1 row)(k:dO w.heap.size w1 Y):w.grownBy Y row:=
 ⟨k.os.trans h.os,k.tape.trans h.tape,k.output.trans h.output,a9 h.size k.size,fun b hb A=>(k.block b hb).trans (h.block b hb A)⟩
def fq(i:Nat)(f:Nat->Rat->Rat)(qs:List Rat):List Rat:=qs.mapIdx fun j q=>if j<i then f j q else q
theorem qA(f:Nat->Rat->Rat)(qs:List Rat):fq 0 f qs=qs:=by
 apply bJ;intro j;simp[fq]
theorem sP(f:Nat->Rat->Rat)(qs:List Rat):fq qs.length f qs=qs.mapIdx f:=by
 apply bJ;intro j;simp only[fq,List.getElem?_mapIdx]
 cases h:qs[j]? with
 |none=>rfl
 |some q=>simp[(aC.1 h).1]
theorem mb{f:Nat->Rat->Rat}(h:qs[i]? =some q):(fq i f qs).set i (f i q)=fq (i+1) f qs:=by
 apply bJ;intro j;have N:=(aC.1 h).1;by_cases Lt:i=j
 ·subst Lt;rw[aR (by simp[fq];exact N)];simp[fq,List.getElem?_mapIdx,h]
 ·rw[aY Lt];simp only[fq,List.getElem?_mapIdx]
  have:(j<i)↔(j<i+1):=by omega
  simp[this]
theorem CX{f:Nat->Rat->Rat}(h:qs[i]? =some q)(hf:f i q=q):fq i f qs=fq (i+1) f qs:=by
 rw[<-mb h,hf];apply bJ;intro j;have N:=(aC.1 h).1;by_cases Lt:i=j
 ·subst Lt;rw[aR (by simp[fq];exact N)];simp[fq,List.getElem?_mapIdx,h]
 ·rw[aY Lt]
theorem wW{f:Nat->Rat->Rat}(h:qs[i]? =some q):(fq i f qs)[i]? =some q:=by
 simp only[fq,List.getElem?_mapIdx,h]
 simp
section
variable{C C' S S':Nat->Prop}{H:Hp}{nx:Nat}{iv E:Iv}{B:Nat}{w J Y:World}{O:Nat->Sx.cd}{v:Value}{qs:List Rat}
end
end Go.Ex
namespace Go.Ex
variable{M:List (List Rat)}{s:List (List Rat)×List Nat}{r:List Rat}{i n:Nat}
def cT(M:List (List Rat))(i c:Nat):Rat:=(M.getD i []).getD c 0
def gN(M:List (List Rat))(c:Nat):Nat->Nat->Nat
 |0,k=>k
 |f+1,k=>if cT M k c=0 then gN M c f (k+1)else k
def iq{α:Type}(d:α)(l:List α)(i j:Nat):List α:=(l.set i (l.getD j d)).set j (l.getD i d)
def ue(p:Rat)(ps:List Rat)(j:Nat)(q:Rat):Rat:=q+p*ps.getD j 0
def gO(M:List (List Rat))(at_ c i:Nat):List (List Rat):=M.mapIdx fun j r=>if j<i/\j≠at_ then r.mapIdx (ue (-(r.getD c 0)) (M.getD at_ []))else r
def scaled(M:List (List Rat))(at_ c:Nat):List (List Rat):=M.set at_ ((M.getD at_ []).map (· *(1 / cT M at_ c)))
def dH(s:List (List Rat)×List Nat)(c:Nat):List (List Rat)×List Nat:=
 if s.2.length<s.1.length then
  let k:=gN s.1 c (s.1.length-s.2.length) s.2.length
  if k=s.1.length then s else
   let M1:=scaled (iq [] s.1 s.2.length k) s.2.length c
   (gO M1 s.2.length c M1.length,s.2++[c])
 else s
def cB(M:List (List Rat))(cols:Nat):List (List Rat)×List Nat:=(List.range cols).foldl dH (M,[])
theorem je{α:Type}(d:α)(l:List α)(i j:Nat):(iq d l i j).length=l.length:=by simp[iq]
theorem v7(M:List (List Rat))(a c i:Nat):(gO M a c i).length=M.length:=by simp[gO]
theorem pC(M:List (List Rat))(a c:Nat):(scaled M a c).length=M.length:=by simp[scaled]
theorem mE(s:List (List Rat)×List Nat)(c:Nat):(dH s c).1.length=s.1.length:=by
 unfold dH;split
 ·dsimp only
  split
  ·rfl
  ·dsimp only
   rw[v7,pC,je]
 ·rfl
theorem uc(M:List (List Rat))(c:Nat):∀f k,k<=gN M c f k/\gN M c f k<=k+f
 |0,k=>⟨aE _,aE _⟩
 |f+1,k=>by
  unfold gN;split
  ·have:=uc M c f (k+1);omega
  ·omega
theorem ud(M:List (List Rat))(c:Nat):∀f k,gN M c f k<k+f->cT M (gN M c f k) c≠0
 |0,k,h=>by simp[gN]at h
 |f+1,k,h=>by
  unfold gN at h ⊢;split
  ·rename_i h0;rw[if_pos h0]at h;exact ud M c f (k+1) (by omega)
  ·rename_i h0;exact h0
theorem By{c f k:Nat}(h:cT M k c=0):gN M c (f+1) k=gN M c f (k+1):=by rw[gN,if_pos h]
theorem CB{c f k:Nat}(h:cT M k c≠0):gN M c (f+1) k=k:=by rw[gN,aF h]
theorem CC(M:List (List Rat))(a c i:Nat):(gO M a c i)[a]? =M[a]? :=by
 simp only[gO,List.getElem?_mapIdx]
 cases M[a]? <;>simp
def Ht(M:List (List Rat))(h:Nat):Prop:=∀r∈M,∀q∈r,rl q+1<=h
theorem D6{h:Nat}(H:∀q∈r,rl q+1<=h)(I:2<=h)(c:Nat):rl (r.getD c 0)+1<=h:=by
 rw[List.getD]
 cases hc:r[c]? with
 |none=>simp;exact a9 (by decide) I
 |some q=>simp;exact H q (aD hc)
theorem yB{j:Nat}(N:i<M.length)(hj:j<M.length):(iq [] M i j)[i]? =M[j]? :=by
 unfold iq;by_cases h:j=i
 ·subst h;rw[aR (by simpa using N),List.getD,aA N];rfl
 ·rw[aY h,aR N,List.getD,aA hj];rfl
theorem FU{j c:Nat}(N:i<M.length)(hj:j<M.length):cT (iq [] M i j) i c=cT M j c:=by
 simp only[cT,List.getD,yB N hj]
def gH(n:Nat)(M:List (List Rat)):Prop:=∀r∈M,r.length=n
theorem gH.set(h:gH n M)(hr:r.length=n):gH n (M.set i r):=fun x F=>by
 rcases bB F with V|V
 ·exact h x V
 ·rw[V];exact hr
theorem gH.getD(h:gH n M)(N:i<M.length):(M.getD i []).length=n:=by
 rw[List.getD,aA N];exact h _ (aV N)
theorem gH.step{c:Nat}(h:gH n s.1):gH n (dH s c).1:=by
 unfold dH;split
 ·rename_i LG;dsimp only
  split
  ·exact h
  ·rename_i W;have hle:=uc s.1 c (s.1.length-s.2.length) s.2.length;have Qi:gN s.1 c (s.1.length-s.2.length) s.2.length<s.1.length:=by omega
   dsimp only
   generalize gN s.1 c (s.1.length-s.2.length) s.2.length=k at*
   have V:gH n (iq [] s.1 s.2.length k):=(h.set (h.getD Qi)).set (h.getD LG);have I:gH n (scaled (iq [] s.1 s.2.length k) s.2.length c):=V.set (by rw[aK];exact V.getD (by rw[je];exact LG));intro r hr;obtain⟨j,hj⟩:=aQ hr;simp only[gO,List.getElem?_mapIdx,Option.map_eq_some_iff]at hj;obtain⟨r0,hr0,hj⟩:=hj;have K:=I r0 (aD hr0);split at hj
   ·subst hj;rw[List.length_mapIdx];exact K
   ·subst hj;exact K
 ·exact h
end Go.Ex
namespace Go.Ex
open Go Go.Sx Go.Proofs
structure Jn(w:World)(S:Nat->Prop)(vm:Value)(rv:List Value)(n:Nat)(M:List (List Rat)):Prop where
 out:w.ownsRow 0 T.row 1 vm rv.length rv
 len:rv.length=M.length
 row:∀(i:Nat) v qs,rv[i]? =some v->M[i]? =some qs->∃U,w.ownsRow 0 T.BB 4 v n U.flatten/\U.length=n/\Fr w S U qs
 wX:∀(i j:Nat) a b g,rv[i]? =some a->rv[j]? =some b->a.ownBlock=some g->b.ownBlock=some g->i=j
 aAL:∀v∈rv,∀g,v.ownBlock=some g->vm.ownBlock≠some g
def Mb(vm:Value)(rv:List Value)(g:Nat):Prop:=vm.ownBlock=some g\/∃v∈rv,v.ownBlock=some g
structure Kept(w Y:World)(F9:Nat->Prop):Prop where
 os:Y.os=w.os
 tape:Y.tape=w.tape
 output:Y.output=w.output
 size:w.heap.size<=Y.heap.size
 block:∀k,k<w.heap.size->¬F9 k->Y.heap[k]? =w.heap[k]?
section
variable{S S' F9:Nat->Prop}{H:Hp}{nx n:Nat}{iv E:Iv}{B:Nat}{w J Y w3:World}{O:Nat->Sx.cd}{vm:Value}{rv:List Value}{M:List (List Rat)}
end
end Go.Ex
namespace Go.Sx
open Go Go.Ex Go.Proofs
variable{O:Nat->Sx.cd}{row:Option Nat}
theorem Rel.BM{H:Hp}{nx:Nat}{iv:Iv}{B:Nat}{w J Y:World}(r:Rel H nx iv B w O J)(Kq:∀g,row=some g->∀id b,cO H id=some b->(O id).nil=false->(O id).g≠g)(h:J.grownBy Y row):Rel H nx ((J.heap.size,Y.heap.size)::iv) B Y O Y:=
 r.AK h.size (fun id b hb A=>h.block _ (r.low id b hb A).2 fun e=>Kq _ e.symm id b hb A rfl) fun lo N hm=>by
  rcases List.mem_cons.1 hm with e|hm
  ·injection e with e1 e2;subst e1 e2;exact⟨aE _,fun id b hb A=>by have:=(r.low id b hb A).2;omega⟩
  ·exact⟨by have:=r.oR lo N hm;have:=r.size;have:=h.size;omega,fun id b hb A=>r.ie lo N hm id b hb A⟩
end Go.Sx
namespace Go.Ex
open Go Go.Sx Go.Proofs
end Go.Ex
namespace Go.Ex
open Go Go.Sx Go.Proofs
end Go.Ex
namespace Go.Sx
open Go Go.Ex Go.Proofs
variable{O:Nat->Sx.cd}
theorem Sub.nil{B nx:Nat}{l:Env}{H:Hp}{iv:Iv}{w J:World}{t:uY}(u e sz:Nat)(h9:eX l u=some (sV none 0 0))(Nq:lj nx l)(r:Rel H nx iv B w O J)
  (h:∀If,Rel ((nx,.vec e sz [])::H) (nx+1) iv B w If J->Sx.Sub B ((u,.o (.w nx 0))::l) (nx+1) If J t):Sx.Sub B l nx O J t:=by
 have r1:=r.push (.vec e sz []) ⟨0,0,true⟩ (Y:=J) rfl rfl rfl (aE _) (fun _ _=>rfl) (fun h=>by cases h) (.inl ⟨rfl,rfl⟩) trivial;obtain⟨GE,V,I⟩:=h _ r1;refine⟨GE,V,fun x v hv=>?_⟩;obtain⟨K,v0,h4,h5⟩:=I x v hv;refine⟨K,?_⟩;rw[dm]at h4;split at h4
 ·rename_i e;subst e;injection h4 with h4;subst h4;refine⟨_,h9,?_⟩;rw[<-h5];simp[SV.den,At.den,dM]
 ·refine⟨v0,h4,?_⟩;rw[<-h5];exact SV.iQ (fun id LK=>ew id LK) (Nq.get _ _ h4)
end Go.Sx
namespace Go.Ex
open Go Go.Sx Go.Proofs
structure aAH(w:World)(S:Nat->Prop)(rv:List Value)(n:Nat)(M:List (List Rat))(gm k c g ck:Nat)(q:Rat)(d1:Bool)(e1:Option Addr)(m1 k1:Nat)(d2:Bool)(e2:Option Addr)(m2 k2:Nat):Prop where
 rv:rv[k]? =some (.slice (some ⟨g,0,none⟩) n ck)
 at_:cT M k c=q
 aAM:cV w S (.agg #[.bool d1,.slice e1 m1 k1,.bool d2,.slice e2 m2 k2]) q
 outer:w.cell? (Addr.add ⟨gm,0,none⟩ (k*1))=some (.slice (some ⟨g,0,none⟩) n ck)
 cells:∀j u,[Value.bool d1,.slice e1 m1 k1,.bool d2,.slice e2 m2 k2][j]? =some u->w.cell? ((Addr.add ⟨g,0,none⟩ (c*4)).add j)=some u
theorem II{α:Type}{xs:List α}{j:Nat}{v:α}(h:j<xs.length):xs.take (j*1)++[v]++xs.drop (j*1+1)=xs.set j v:=by
 rw[az,List.set_eq_take_append_cons_drop,if_pos h];simp
end Go.Ex
namespace Go.Ex
open Go Go.Sx Go.Proofs
variable{FS M:List (List Rat)}{ps pv:List Nat}{S:Nat->Prop}{v:Value}{w:World}
def JS(w:World)(S:Nat->Prop)(v:Value)(n:Nat)(qs:List Rat):Prop:=∃U,w.ownsRow 0 T.BB 4 v n U.flatten/\U.length=n/\Fr w S U qs
section
variable{S S' C:Nat->Prop}{H:Hp}{nx n:Nat}{iv E:Iv}{B:Nat}{w J Y:World}{O:Nat->Sx.cd}{v:Value}{qs:List Rat}
structure aAN(w:World)(S:Nat->Prop)(B:Nat)(iv:Iv)(v:Value)(n:Nat)(qs:List Rat):Prop where
 row:JS w (fun g=>Cv S B iv g/\v.ownBlock≠some g) v n qs
 new:∀g,v.ownBlock=some g->Cv FF B iv g
def KY(w:World)(S:Nat->Prop)(G:List Value)(x:Int×Int):Prop:=∃b a n c b2 a2 n2 c2,G=[.bool b,.slice a n c,.bool b2,.slice a2 n2 c2]/\gK w S (.agg #[.bool b,.slice a n c,.bool b2,.slice a2 n2 c2]) x.1 x.2
def eE{α:Type}(P:World->(Nat->Prop)->List Value->α->Prop)(w:World)(S:Nat->Prop)(v:Value)(xs:List α):Prop:=
 ∃U:List (List Value),gi w S 4 v U.flatten xs.length/\U.length=xs.length/\(∀G∈U,G.length=4)/\∀(j:Nat) G x,U[j]? =some G->xs[j]? =some x->P w S G x
theorem eE.shape{α:Type}{P:World->(Nat->Prop)->List Value->α->Prop}{xs:List α}(h:eE P w S v xs):∃a c,v= .slice a xs.length c/\xs.length<=c/\xs.length<=maxLen:=by
 obtain⟨U,⟨h0,_,_,a,c,V,I,_⟩,_⟩:=h;exact⟨a,c,V,I,h0⟩
theorem eE.load{α:Type}{P:World->(Nat->Prop)->List Value->α->Prop}{xs:List α}{a:Option Addr}{m c j:Nat}{x:α}(h:eE P w S (.slice a m c) xs)(hq:xs[j]? =some x):
  ∃ad G,a=some ad/\P w S G x/\G.length=4/\∀k u,G[k]? =some u->S ad.block/\w.cell? ((ad.add (j*4)).add k)=some u:=by
 obtain⟨U,⟨h0,V,I,a',c',e,K,h4⟩,hl,hl4,hf⟩:=h;injection e with e1 e2 e3;subst e1;obtain⟨G,Le⟩:∃G,U[j]? =some G:=⟨_,aA (by rw[hl];exact(aC.1 hq).1)⟩
 have hF:=hf j G x Le hq;have OS:=hl4 G (aD Le);obtain⟨ad,k1,k2,k3⟩:=h4 (j*4+0) _ (flat_get hl4 Le 0 _ (aA (show 0<G.length by omega)));refine⟨ad,G,k1,hF,OS,fun k u hu=>?_⟩;obtain⟨ad2,m1,m2,m3⟩:=h4 (j*4+k) u (flat_get hl4 Le k u hu);rw[k1]at m1;injection m1 with m1;subst m1;refine⟨m2,?_⟩;rw[<-m3];have:(ad.add (j*4)).add k=ad.add (j*4+k):=by
  unfold Addr.add;split<;>split<;>simp_all<;>omega
 rw[this]
def dZ{α:Type}(P:World->(Nat->Prop)->Value->α->Prop)(w:World)(S:Nat->Prop)(v:Value)(M:List α):Prop:=
 ∃rv,gi w S 1 v rv M.length/\rv.length=M.length/\∀(i:Nat) u x,rv[i]? =some u->M[i]? =some x->P w S u x
theorem dZ.shape{α:Type}{P:World->(Nat->Prop)->Value->α->Prop}{xs:List α}(h:dZ P w S v xs):∃a c,v= .slice a xs.length c/\xs.length<=c/\xs.length<=maxLen:=by
 obtain⟨rv,⟨h0,_,_,a,c,V,I,_⟩,_⟩:=h;exact⟨a,c,V,I,h0⟩
theorem dZ.load{α:Type}{P:World->(Nat->Prop)->Value->α->Prop}{xs:List α}{a:Option Addr}{m c j:Nat}{x:α}(h:dZ P w S (.slice a m c) xs)(hq:xs[j]? =some x):
  ∃ad u,a=some ad/\P w S u x/\S ad.block/\w.cell? (ad.add (j*1))=some u:=by
 obtain⟨rv,⟨h0,V,I,a',c',e,K,h4⟩,hl,hf⟩:=h;injection e with e1 e2 e3;subst e1;obtain⟨u,hu⟩:∃u,rv[j]? =some u:=⟨_,aA (by rw[hl];exact(aC.1 hq).1)⟩
 obtain⟨ad,k1,k2,k3⟩:=h4 j u hu;exact⟨ad,u,k1,hf j u x hu hq,k2,by rw[az];exact k3⟩
end
section
variable{S S':Nat->Prop}{H:Hp}{nx:Nat}{iv E:Iv}{B:Nat}{w J Y:World}{O:Nat->Sx.cd}{v:Value}{xs:List (Int×Int)}
end
section
variable{S S':Nat->Prop}{H:Hp}{nx:Nat}{iv E:Iv}{B:Nat}{w J Y:World}{O:Nat->Sx.cd}{v:Value}{M:List (List (Int×Int))}
end
section
variable{S S':Nat->Prop}{H:Hp}{nx:Nat}{iv E:Iv}{B:Nat}{w J Y:World}{O:Nat->Sx.cd}{v:Value}{M:List (List Rat)}
end
def f0:List Value:=[.bool false,.slice none 0 0,.bool false,.slice none 0 0]
structure aAO(w:World)(S:Nat->Prop)(n i:Nat)(U:List (List Value))(qs:List Rat):Prop where
 len:U.length=n
 four:∀G∈U,G.length=4
 one:∀G∈U,∀u∈G,u.oneCell'=true
 at_:∀(j:Nat) G q,j<i->U[j]? =some G->qs[j]? =some q->I9 w S G q
section
variable{S S':Nat->Prop}{H:Hp}{nx n i:Nat}{iv E:Iv}{B:Nat}{w w1 J Y:World}{O:Nat->Sx.cd}{U:List (List Value)}{qs:List Rat}
end
structure aAI(w:World)(S:Nat->Prop)(B:Nat)(iv:Iv)(rv:List Value)(n:Nat)(M:List (List Rat)):Prop where
 len:rv.length=M.length
 row:∀(i:Nat) v qs,rv[i]? =some v->M[i]? =some qs->JS w (fun g=>Cv S B iv g/\¬ ∃u∈rv,u.ownBlock=some g) v n qs
 wX:∀(i j:Nat) a b g,rv[i]? =some a->rv[j]? =some b->a.ownBlock=some g->b.ownBlock=some g->i=j
 new:∀v∈rv,∀g,v.ownBlock=some g->Cv FF B iv g
theorem iC(B:Nat):∀g,(fun _:Nat=>False) g->g<B:=fun _ h=>h.elim
theorem Hr{B:Nat}{iv:Iv}{g:Nat}(h:Cv FF B iv g):Cv S B iv g:=h.elim (fun h=>h.elim) .inr
section
variable{S S':Nat->Prop}{H:Hp}{nx n i:Nat}{iv E:Iv}{B:Nat}{w w1 J Y:World}{O:Nat->Sx.cd}{rv:List Value}{M:List (List Rat)}
structure aAP(w:World)(S:Nat->Prop)(B:Nat)(iv:Iv)(vm:Value)(n:Nat)(M:List (List Rat)):Prop where
 ex:∃rv,Jn w (fun g=>Cv S B iv g/\¬Mb vm rv g) vm rv n M/\∀g,Mb vm rv g->Cv FF B iv g
end
def dE(w:World)(S:Nat->Prop)(v:Value)(ps:List Nat):Prop:=gi w S 1 v (ps.map fun c:Nat=>.int .i64 (c:Int)) ps.length
theorem dE.br{Y:World}(h:dE w S v ps)(W:∀g,S g->Y.heap[g]? =w.heap[g]?):dE Y S v ps:=gi.br h W
theorem dE.bw{S':Nat->Prop}(h:dE w S v ps)(W:∀g,S g->S' g):dE w S' v ps:=gi.bw h W
section
variable{S S':Nat->Prop}{H:Hp}{nx:Nat}{iv E:Iv}{B:Nat}{w J Y:World}{O:Nat->Sx.cd}{v:Value}{ps:List Nat}
theorem dE.rel(h:dE w (Cv S B iv) v ps)(r:Rel H nx iv B w O J)(X:∀g,S g->g<B):dE J (Cv S B iv) v ps:=dE.br h fun _ R=>Rel.same r X R
theorem dE.df(h:dE Y (Nf J Y) v ps)(hB:B<=J.heap.size)(hm:(J.heap.size,Y.heap.size)∈iv):dE Y (Cv S B iv) v ps:=dE.bw h fun _ R=>R.df hB hm
end
section
variable{S S':Nat->Prop}{H:Hp}{nx n:Nat}{iv E:Iv}{B:Nat}{w J Y:World}{O:Nat->Sx.cd}{v:Value}{qs:List Rat}
end
def fC(FS:List (List Rat))(pv:List Nat)(cols c i:Nat):List Rat:=(List.range i).foldl (fun x i=>x.set (pv.getD i 0) (-(cT FS i c))) ((List.replicate cols 0).set c 1)
def dX(FS:List (List Rat))(pv:List Nat)(cols c:Nat):List (List Rat):=((List.range c).filter fun c=>decide (c∉pv)).map fun c=>fC FS pv cols c pv.length
theorem fm(FS:List (List Rat))(pv:List Nat)(cols c i:Nat):fC FS pv cols c (i+1)=(fC FS pv cols c i).set (pv.getD i 0) (-(cT FS i c)):=by
 rw[fC,bc,List.foldl_append];rfl
theorem jG(FS:List (List Rat))(pv:List Nat)(cols c i:Nat):(fC FS pv cols c i).length=cols:=by
 induction i with
 |zero=>simp[fC]
 |succ i ih=>rw[fm,bH,ih]
theorem BO{cols c:Nat}(h:c∈pv):dX FS pv cols (c+1)=dX FS pv cols c:=by
 rw[dX,bc,List.filter_append];simp[h,dX]
theorem z5{cols c:Nat}(h:c∉pv):dX FS pv cols (c+1)=dX FS pv cols c++[fC FS pv cols c pv.length]:=by
 rw[dX,bc,List.filter_append];simp[h,dX]
def fh(FS:List (List Rat))(pv:List Nat)(cols i:Nat):List Rat:=(List.range i).foldl (fun x i=>x.set (pv.getD i 0) (cT FS i cols)) (List.replicate cols 0)
theorem fo(FS:List (List Rat))(pv:List Nat)(cols i:Nat):fh FS pv cols (i+1)=(fh FS pv cols i).set (pv.getD i 0) (cT FS i cols):=by
 rw[fh,bc,List.foldl_append];rfl
structure aAJ(w:World)(B:Nat)(iv:Iv)(rv:List Value)(v:Value)(n:Nat)(qs:List Rat):Prop where
 row:JS w (fun g=>(Cv FF B iv g/\¬ ∃u∈rv,u.ownBlock=some g)/\v.ownBlock≠some g) v n qs
 xo:∀g,v.ownBlock=some g->Cv FF B iv g
section
variable{H:Hp}{nx n:Nat}{iv E:Iv}{B:Nat}{w J Y:World}{O:Nat->Sx.cd}{v:Value}{qs:List Rat}{rv:List Value}
end
def iB(w:World)(S:Nat->Prop)(G:List Value)(q:Rat):Prop:=∃b a n c b2 a2 n2 c2,G=[.bool b,.slice a n c,.bool b2,.slice a2 n2 c2]/\cI w S (.agg #[.bool b,.slice a n c,.bool b2,.slice a2 n2 c2]) q
abbrev cF:=eE iB
abbrev cQ:=dZ cF
section
variable{S S':Nat->Prop}{H:Hp}{nx:Nat}{iv E:Iv}{B:Nat}{w J Y:World}{O:Nat->Sx.cd}{v:Value}{qs:List Rat}{G:List Value}{q:Rat}
theorem iB.br(h:iB w S G q)(W:∀g,S g->Y.heap[g]? =w.heap[g]?):iB Y S G q:=by
 obtain⟨b,a,n,c,b2,a2,n2,c2,V,I⟩:=h;exact⟨b,a,n,c,b2,a2,n2,c2,V,I.br W⟩
theorem iB.bw(h:iB w S G q)(W:∀g,S g->S' g):iB w S' G q:=by
 obtain⟨b,a,n,c,b2,a2,n2,c2,V,I⟩:=h;exact⟨b,a,n,c,b2,a2,n2,c2,V,I.bw W⟩
theorem cF.br(h:cF w S v qs)(W:∀g,S g->Y.heap[g]? =w.heap[g]?):cF Y S v qs:=by
 obtain⟨U,V,I,K,h4⟩:=h;exact⟨U,V.br W,I,K,fun j G x k1 k2=>(h4 j G x k1 k2).br W⟩
theorem cF.bw(h:cF w S v qs)(W:∀g,S g->S' g):cF w S' v qs:=by
 obtain⟨U,V,I,K,h4⟩:=h;exact⟨U,V.bw W,I,K,fun j G x k1 k2=>(h4 j G x k1 k2).bw W⟩
theorem cQ.br(h:cQ w S v M)(W:∀g,S g->Y.heap[g]? =w.heap[g]?):cQ Y S v M:=by
 obtain⟨rv,V,I,K⟩:=h;exact⟨rv,V.br W,I,fun i u x k1 k2=>cF.br (K i u x k1 k2) W⟩
theorem cQ.bw(h:cQ w S v M)(W:∀g,S g->S' g):cQ w S' v M:=by
 obtain⟨rv,V,I,K⟩:=h;exact⟨rv,V.bw W,I,fun i u x k1 k2=>cF.bw (K i u x k1 k2) W⟩
end
section
variable{S S':Nat->Prop}{H:Hp}{nx:Nat}{iv E:Iv}{B:Nat}{w J Y:World}{O:Nat->Sx.cd}{v:Value}{qs:List Rat}
theorem cF.rel(h:cF w (Cv S B iv) v qs)(r:Rel H nx iv B w O J)(X:∀g,S g->g<B):cF J (Cv S B iv) v qs:=cF.br h fun _ R=>Rel.same r X R
theorem cF.bu(h:cF w (Cv S B iv) v qs)(r:Rel H nx iv B w O J)(X:∀g,S g->g<B)(Z:Ext J Y)(hm:∀p,p∈iv->p∈E):cF Y (Cv S B E) v qs:=
 cF.bw (cF.br (cF.rel h r X) fun g R=>Z.block g (Rel.old r X g R)) fun _ R=>R.mono hm
theorem cF.df(h:cF Y (Nf J Y) v qs)(hB:B<=J.heap.size)(hm:(J.heap.size,Y.heap.size)∈iv):cF Y (Cv S B iv) v qs:=cF.bw h fun _ R=>R.df hB hm
theorem cF.out{w0 w1:World}(h:cF w1 (Cv S w0.heap.size iv) v qs)(r:Rel H nx iv w0.heap.size w1 O J)(X:Old S w0):cF J (Nw S w0 J) v qs:=
 cF.bw (cF.rel h r X) fun _ R=>Cv.nw R r
end
section
variable{S S':Nat->Prop}{H:Hp}{nx:Nat}{iv E:Iv}{B:Nat}{w J Y:World}{O:Nat->Sx.cd}{v:Value}{M:List (List Rat)}
theorem cQ.rel(h:cQ w (Cv S B iv) v M)(r:Rel H nx iv B w O J)(X:∀g,S g->g<B):cQ J (Cv S B iv) v M:=cQ.br h fun _ R=>Rel.same r X R
theorem cQ.bu(h:cQ w (Cv S B iv) v M)(r:Rel H nx iv B w O J)(X:∀g,S g->g<B)(Z:Ext J Y)(hm:∀p,p∈iv->p∈E):cQ Y (Cv S B E) v M:=
 cQ.bw (cQ.br (cQ.rel h r X) fun g R=>Z.block g (Rel.old r X g R)) fun _ R=>R.mono hm
theorem cQ.df(h:cQ Y (Nf J Y) v M)(hB:B<=J.heap.size)(hm:(J.heap.size,Y.heap.size)∈iv):cQ Y (Cv S B iv) v M:=cQ.bw h fun _ R=>R.df hB hm
theorem cQ.old(h:cQ Y (Nw (Cv S B iv) J Y) v M)(hB:B<=J.heap.size):cQ Y (Cv S B ((J.heap.size,Y.heap.size)::iv)) v M:=cQ.bw h fun _ R=>Nw.cv R hB
end
theorem jH(FS:List (List Rat))(pv:List Nat)(cols i:Nat):(fh FS pv cols i).length=cols:=by
 induction i with
 |zero=>simp[fh]
 |succ i ih=>rw[fo,bH,ih]
theorem BN(FS:List (List Rat))(pv:List Nat)(cols c:Nat):(dX FS pv cols c).length<=c:=by
 unfold dX;rw[aK];exact a9 (List.length_filter_le _ _) (by simp)
end Go.Ex
namespace Go.Ex
variable{ds l:List Nat}
def ek:List Int->Int
 |[]=>0
 |c::r=>c+65536*ek r
def up(k:Nat):Int:=65536^k
theorem zI(k:Nat):up (k+1)=65536*up k:=by rw[up,Int.pow_succ,Int.mul_comm];rfl
theorem GJ(k:Nat):0<up k:=Int.pow_pos (by decide)
theorem xV(a b:List Int):ek (a++b)=ek a+up a.length*ek b:=by
 induction a with
 |nil=>simp[ek,up]
 |cons c r ih=>rw[List.cons_append,ek,ih,ek,bL,zI,Int.mul_add,<-Int.mul_assoc];omega
theorem CV(a:List Int):ek (a.map (- ·))= -ek a:=by
 induction a with
 |nil=>rfl
 |cons c r ih=>rw[List.map_cons,ek,ih,ek];omega
def Dg(l:List Nat):Prop:=∀d∈l,d<65536
def kU(l:List Nat):Int:=ek (l.map fun d:Nat=>(d:Int))
theorem ve(h:Dg l):0<=kU l/\kU l<up l.length:=by
 induction l with
 |nil=>exact⟨Int.le_refl _,by decide⟩
 |cons d r ih=>
  have V:=ih fun x F=>h x (aB _ F);have I:=h d aH;have e:kU (d::r)=(d:Int)+65536*kU r:=rfl;rw[e,bL,zI];omega
def cY:List Int->Int->List Nat×Int
 |[],k=>([],k)
 |c::r,k=>(((c+k) % 65536).toNat::(cY r ((c+k) / 65536)).1,(cY r ((c+k) / 65536)).2)
theorem jh:∀(G:List Int) (k:Int),ek G+k=kU (cY G k).1+up G.length*(cY G k).2/\Dg (cY G k).1/\(cY G k).1.length=G.length
 |[],k=>⟨by simp[ek,cY,kU,up],by simp[cY,Dg],rfl⟩
 |c::r,k=>by
  obtain⟨V,I,K⟩:=jh r ((c+k) / 65536);have h4:0<=(c+k) % 65536:=Int.emod_nonneg _ (by decide);have h5:(c+k) % 65536<65536:=Int.emod_lt_of_pos _ (by decide);have h6:=Int.mul_ediv_add_emod (c+k) 65536;refine⟨?_,fun d hd=>?_,by simp[cY,K]⟩
  ·have e:kU (cY (c::r) k).1=(((c+k) % 65536).toNat:Int)+65536*kU (cY r ((c+k) / 65536)).1:=rfl;have e2:(cY (c::r) k).2=(cY r ((c+k) / 65536)).2:=rfl;rw[e,e2,ek,bL,zI,Int.mul_assoc];omega
  ·have e:(cY (c::r) k).1=((c+k) % 65536).toNat::(cY r ((c+k) / 65536)).1:=rfl;rw[e]at hd;rcases List.mem_cons.1 hd with rfl|hd
   ·omega
   ·exact I d hd
theorem zJ(G:List Int)(c k:Int):cY (G++[c]) k=((cY G k).1++[((c+(cY G k).2) % 65536).toNat],(c+(cY G k).2) / 65536):=by
 induction G generalizing k with
 |nil=>rfl
 |cons d r ih=>simp only[List.cons_append,cY,ih]
theorem jK:∀(G:List Int) (k:Int),(∀c∈G,-1152921504606846976<=c/\c<=1152921504606846976)-> -1152921504606846976<=k->k<=1152921504606846976-> -1152921504606846976<=(cY G k).2/\(cY G k).2<=1152921504606846976
 |[],k,_,V,I=>⟨V,I⟩
 |c::r,k,h,V,I=>by
  have hc:=h c aH;exact jK r _ (fun x F=>h x (aB _ F)) (by omega) (by omega)
def cP(n:Nat):List Nat:=if h:n=0 then []else n % 65536::cP (n / 65536)
termination_by n
decreasing_by omega
theorem ji:cP 0=[]:=by rw[cP];rfl
theorem nX{n:Nat}(h:0<n):cP n=n % 65536::cP (n / 65536):=by
 rw[cP,dif_neg (by omega)]
theorem jk(n:Nat):kU (cP n)=n/\Dg (cP n):=by
 induction n using Nat.strongRecOn with
 |_ n ih=>
  rcases bF n with h|h
  ·subst h;rw[ji];exact⟨rfl,by simp[Dg]⟩
  ·rw[nX h];obtain⟨V,I⟩:=ih (n / 65536) (by omega);refine⟨?_,fun d hd=>?_⟩
   ·have e:kU (n % 65536::cP (n / 65536))=((n % 65536:Nat):Int)+65536*kU (cP (n / 65536)):=rfl;rw[e,V];omega
   ·rcases List.mem_cons.1 hd with rfl|hd
    ·omega
    ·exact I d hd
theorem iS{n:Nat}:∀{k:Nat},n<65536^k->(cP n).length<=k
 |0,h=>by
  have:n=0:=by simp at h;exact h
  subst this;rw[ji];simp
 |k+1,h=>by
  rcases bF n with h0|h0
  ·subst h0;rw[ji];simp
  ·rw[nX h0,bL];have:=iS (n:=n / 65536) (k:=k) (by rw[Nat.pow_succ]at h;exact Nat.div_lt_of_lt_mul (by rw[bO];exact h));omega
def fk:List Nat->List Nat
 |[]=>[]
 |[a]=>[a]
 |a::b::r=>(a+65536*b)::fk r
theorem vo:∀(l:List Nat),Dg l->(val (fk l):Int)=kU l/\Lm (fk l)/\(fk l).length=(l.length+1) / 2
 |[],_=>⟨rfl,by simp[fk,Lm],rfl⟩
 |[a],h=>by
  have:=h a (by simp);exact⟨by simp[fk,val,kU,ek],fun x F=>by simp[fk]at F;omega,by simp[fk]⟩
 |a::b::r,h=>by
  obtain⟨V,I,K⟩:=vo r fun x F=>h x (aB _ (aB _ F));have ha:=h a (by simp);have hb:=h b (by simp);refine⟨?_,fun x F=>?_,?_⟩
  ·have e:kU (a::b::r)=(a:Int)+65536*((b:Int)+65536*kU r):=rfl;rw[e,<-V,fk,val];simp only[Int.natCast_add,Int.natCast_mul]
   omega
  ·rw[fk]at F;rcases List.mem_cons.1 F with rfl|F
   ·omega
   ·exact I x F
  ·rw[fk,bL,K];simp only[bL]
   omega
def pk(ds:List Nat)(k:Nat):List Nat:=(List.range k).map fun i=>ds.getD (2*i) 0+65536*ds.getD (2*i+1) 0
theorem uH(ds:List Nat)(k:Nat):pk ds (k+1)=pk ds k++[ds.getD (2*k) 0+65536*ds.getD (2*k+1) 0]:=by simp[pk,bc]
theorem sB(ds:List Nat)(k:Nat):(pk ds k).length=k:=by simp[pk]
theorem GK:∀(ds:List Nat),pk ds ((ds.length+1) / 2)=fk ds
 |[]=>rfl
 |[a]=>by simp[pk,fk,bc]
 |a::b::r=>by
  have ih:=GK r;have e:((a::b::r).length+1) / 2=(r.length+1) / 2+1:=by simp only[bL];omega
  rw[e,fk,<-ih,pk,List.range_succ_eq_map,List.map_cons,List.map_map,pk];congr 1
theorem GL(h:Dg ds)(k:Nat):Lm (pk ds k):=fun x F=>by
 obtain⟨i,_,rfl⟩:=aT.1 F;have key:∀j,ds.getD j 0<65536:=fun j=>by
  rw[List.getD]
  cases hj:ds[j]? with
  |none=>simp
  |some d=>simp;exact h d (aD hj)
 have V:=key (2*i);have I:=key (2*i+1);omega
end Go.Ex
namespace Go.Ex
open Go Go.Sx Go.Proofs
variable{G:List Int}{S:Nat->Prop}{v:Value}{w:World}
def fT(w:World)(S:Nat->Prop)(v:Value)(G:List Int):Prop:=gi w S 1 v (G.map (Value.int .i64)) G.length
theorem fT.br{Y:World}(h:fT w S v G)(W:∀g,S g->Y.heap[g]? =w.heap[g]?):fT Y S v G:=gi.br h W
theorem fT.bw{S':Nat->Prop}(h:fT w S v G)(W:∀g,S g->S' g):fT w S' v G:=gi.bw h W
theorem fT.load{a:Option Addr}{n c j:Nat}{x:Int}(h:fT w S (.slice a n c) G)(F:G[j]? =some x):∃ad,a=some ad/\S ad.block/\w.cell? (ad.add (j*1))=some (.int .i64 x):=by
 obtain⟨_,_,_,a',c',e,_,h4⟩:=h;injection e with e1 e2 e3;subst e1;obtain⟨ad,k1,k2,k3⟩:=h4 j (.int .i64 x) (by rw[aM,F];rfl);exact⟨ad,k1,k2,by rw[az];exact k3⟩
theorem fT.shape(h:fT w S v G):∃a c,v= .slice a G.length c/\G.length<=c:=by
 obtain⟨_,_,_,a',c',e,K,_⟩:=h;exact⟨a',c',e,K⟩
def dG(ds:List Nat):List Int:=ds.map fun d:Nat=>(d:Int)
theorem dy(ds:List Nat):(dG ds).length=ds.length:=by simp[dG]
end Go.Ex
namespace Go.Sx
open Go Go.Ex Go.Proofs
variable{G:List Value}{O:Nat->Sx.cd}
theorem Rel.JT{H:Hp}{nx:Nat}{iv:Iv}{B:Nat}{w J:World}(r:Rel H nx iv B w O J){id t m sz:Nat}(h:cO H id=some (.vec t sz G))(hm:G.length=m*sz)(hs:0<sz):
  J.ownsRow B t sz ((At.w id m).den O) m G:=by
 rcases r.vec id t sz _ h with⟨A,rfl⟩|⟨A,spare,hb,hc,Md⟩
 ·have QM:m=0:=by
   rcases bF m with h|h
   ·exact h
   ·have:=Nat.mul_pos h hs;simp at hm;omega
  subst QM;have:(At.w id 0).den O= .slice none 0 0:=by simp[At.den,A]
  rw[this];exact World.ownsRow_nil _ _ _ _
 ·have hv:(At.w id m).den O= .slice (some ⟨(O id).g,0,none⟩) m (O id).cap:=by simp[At.den,A]
  have V:(G++spare).length=G.length+spare.length:=List.length_append;rw[hv];refine⟨hm,.inr ⟨(O id).g,(O id).cap,_,rfl,(r.low id _ h A).1,hb,?_,Md,by simpa using hc,?_⟩⟩
  ·have I:m*sz<=(O id).cap*sz:=by omega
   exact Nat.le_of_mul_le_mul_right I hs
  ·rw[<-hm];simp
end Go.Sx
namespace Go.Ex
open Go Go.Sx Go.Proofs
theorem B7(n:Nat)(w:World)(A:n<=9223372036854775807):eF PG F'.qk #[.int .i64 n] w (eM w fun v Y=>fT Y (Nf w Y) v (dG (cP n))):=by
 refine tf (by simp) ?_
 refine⟨Nat×List Nat×World,fun z=>⟨[(0,iZ z.1),(3,.o (.w 0 z.2.1.length))],[(0,.vec T.int 1 ((dG z.2.1).map (Value.int .i64)))],1,[],z.2.2⟩,fun z=>z.1,
  fun z=>dO w.heap.size w z.2.2/\z.1<=n/\z.2.1.length<=n-z.1/\z.2.1++cP z.1=cP n,?_,?_⟩
 ·intro O J r
  exact⟨(n,[],J),⟨r.cG,aE _,by simp,by simp⟩,Sub.nil 3 T.int 1 rfl (by simp[lj,SV.sc,At.sc,ij]) r fun If r1=>
   Sub.gn [] r1⟩
 rintro⟨k,ds,w1⟩ ⟨L,W,hl,hs⟩;dsimp only at L W hl hs ⊢;have Oj:=dy ds;refine ct.mk ?_ ?_<;>intro h
 ·have h:0<k:=by
   have:(k:Int)>0:=aL h;omega
  refine⟨by decide,((k % 65536:Nat):Int),HE k 65536,?_⟩;refine .inl ?_;refine⟨by simp[Oj],?_,by have V:=congrArg List.length hs;rw[List.length_append]at V;have I:=iS (n:=n) (k:=4) (by omega);unfold maxLen;omega,?_⟩
  ·have V:=congrArg List.length hs;rw[List.length_append]at V;have I:=iS (n:=n) (k:=4) (by omega);omega
  refine⟨by decide,((k / 65536:Nat):Int),IH (by omega),?_⟩;intro In w3 D;have hl5:(ds++[k % 65536]).length=ds.length+1:=by simp
  have hm5:(dG (ds++[k % 65536])).map (Value.int .i64)=(dG ds).map (Value.int .i64)++[.int .i64 ((k % 65536:Nat):Int)]:=by simp[dG]
  refine⟨(k / 65536,ds++[k % 65536],w3),⟨L.tr D.cG,by dsimp only;omega,by dsimp only;rw[hl5];omega,?_⟩,
   Sub.gn [(0,2)] D ⟨by rw[hm5];rfl,trivial⟩ ⟨rfl,by dsimp only;rw[hl5];rfl,trivial⟩,by dsimp only;omega⟩
  dsimp only
  rw[<-hs,nX h];simp
 ·have h:k=0:=by
   have:¬(k:Int)>0:=aI h;omega
  subst h;rw[ji,List.append_nil]at hs;subst hs;intro I' we re;refine⟨_,rfl,L.tr re.cG,?_⟩;have:=re.lB (id:=0) (sz:=1) (m:=(cP n).length) rfl (by simp[Oj]) (by have I:=iS (n:=n) (k:=4) (by omega);unfold maxLen;omega) (by decide) (by intro u hu;simp at hu;obtain⟨_,_,rfl⟩:=hu;rfl);unfold fT;rw[Oj];exact this.bw fun g R=>.inr R
end Go.Ex
namespace Go.Ex
open Go Go.Sx Go.Proofs
variable{G:List Int}{S:Nat->Prop}
theorem sY(n:Int):(n.tmod 65536<0->n % 65536=n.tmod 65536+65536)/\(¬n.tmod 65536<0->n % 65536=n.tmod 65536)/\ -65536<n.tmod 65536/\n.tmod 65536<65536:=by
 by_cases h:0<=n
 ·rw[Int.tmod_eq_emod_of_nonneg h];omega
 ·have V:n.tmod 65536= -((-n) % 65536):=by
   have:n= -(-n):=by omega
   conv=>lhs;rw[this]
   rw[Int.neg_tmod,Int.tmod_eq_emod_of_nonneg (by omega)]
  rw[V];omega
theorem ym(n:Int):(n-n % 65536).tdiv 65536=n / 65536:=by
 have h:n-n % 65536=65536*(n / 65536):=by omega
 rw[h,Int.mul_tdiv_cancel_left _ (by decide)]
theorem yn{w:World}{v:Value}(X:Old S w)(h:fT w S v G)(hb:∀c∈G,-1152921504606846976<=c/\c<=1152921504606846976)(hl:G.length<=1000000000):
  eF PG F'.pJ #[v] w (eM w fun v' Y=>∃o,v'= .tuple #[o,.int .i64 (cY G 0).2]/\Y.ownsRow w.heap.size T.int 1 o G.length ((dG (cY G 0).1).map (Value.int .i64))):=by
 obtain⟨a,c,rfl,hc⟩:=h.shape;refine sN (by simp) ?_
 refine⟨Nat×World,fun z=>⟨[(0,sV a G.length c),(4,.o (.w 0 z.1)),(5,.o (.v (.int .i64 (cY (G.take z.1) 0).2))),(6,iZ z.1)],[(0,.vec T.int 1 ((dG (cY (G.take z.1) 0).1).map (Value.int .i64)))],1,[],z.2⟩,fun z=>G.length-z.1,
  fun z=>dO w.heap.size w z.2/\z.1<=G.length,?_,?_⟩
 ·intro O J r
  exact⟨(0,J),⟨r.cG,by simp⟩,Sub.nil 4 T.int 1 rfl (by simp[lj,SV.sc,At.sc,ij]) r fun If r1=>
   Sub.gn [] r1⟩
 rintro⟨i,w1⟩ ⟨L,N⟩;dsimp only at L N ⊢;obtain⟨-,hdg,hlen⟩:=jh (G.take i) 0;have QO:((dG (cY (G.take i) 0).1).map (Value.int .i64)).length=i:=by rw[aK,dy,hlen,ah];omega
 obtain⟨hk1,Qy⟩:=jK (G.take i) 0 (fun c hc=>hb c (List.mem_of_mem_take hc)) (by decide) (by decide);have hR:fT w1 S (.slice a G.length c) G:=fT.br h fun g R=>L.block g (X g R);refine ct.mk ?_ ?_<;>intro h
 ·have h:i<G.length:=by simpa using h
  obtain⟨x,F⟩:∃x,G[i]? =some x:=⟨_,aA h⟩
  obtain⟨QK,Pk⟩:=hb x (aD F);obtain⟨ad,rfl,q1,q2⟩:=hR.load F;have htk:G.take (i+1)=G.take i++[x]:=by rw[List.take_add_one,F];rfl
  have Pr:=zJ (G.take i) x 0;rw[<-htk]at Pr;generalize (cY (G.take i) 0).1=ds at*
  generalize (cY (G.take i) 0).2=k at*
  obtain⟨t1,t2,t3,t4⟩:=sY (x+k);have hem1:=Int.emod_nonneg (x+k) (show (65536:Int)≠0 by decide);have hem2:=Int.emod_lt_of_pos (x+k) (show (0:Int)<65536 by decide);refine⟨ad,rfl,by omega,.int .i64 x,fun O J r=>?_,?_⟩
  ·rw[aG,cA (w:=w1) (Y:=J) (by rw[dP];exact Rel.same (S:=S) r X (.inl q1))];exact q2
  refine⟨x+k,wo,by decide,(x+k).tmod 65536,rfl,?_⟩;refine ct.mk ?_ ?_<;>intro MK
  ·have MK:=t1 (aL MK);refine⟨(x+k) % 65536,by rw[MK,wrap64]<;>omega,x+k-(x+k) % 65536,wo,by decide,(x+k) / 65536,by rw[ym,wrap64]<;>omega,?_⟩;refine .inl ?_;refine⟨by rw[QO,az],by omega,by unfold maxLen;omega,((i+1:Nat):Int),wo,?_⟩;intro In w3 D;have hm5:(dG (cY (G.take (i+1)) 0).1).map (Value.int .i64)=(dG ds).map (Value.int .i64)++[.int .i64 ((x+k) % 65536)]:=by
    rw[Pr];simp[dG,Int.toNat_of_nonneg hem1]
   have hk5:(cY (G.take (i+1)) 0).2=(x+k) / 65536:=by rw[Pr]
   exact⟨(i+1,w3),⟨L.tr D.cG,by dsimp only;omega⟩,Sub.gn [(0,2)] D ⟨by dsimp only;rw[hm5];rfl,trivial⟩ ⟨rfl,rfl,by dsimp only;rw[hk5];rfl,rfl,trivial⟩,by dsimp only;omega⟩
  ·have MK:=t2 (aI MK);rw[<-MK];refine⟨x+k-(x+k) % 65536,wo,by decide,(x+k) / 65536,by rw[ym,wrap64]<;>omega,?_⟩;refine .inl ?_;refine⟨by rw[QO,az],by omega,by unfold maxLen;omega,((i+1:Nat):Int),wo,?_⟩;intro In w3 D;have hm5:(dG (cY (G.take (i+1)) 0).1).map (Value.int .i64)=(dG ds).map (Value.int .i64)++[.int .i64 ((x+k) % 65536)]:=by
    rw[Pr];simp[dG,Int.toNat_of_nonneg hem1]
   have hk5:(cY (G.take (i+1)) 0).2=(x+k) / 65536:=by rw[Pr]
   exact⟨(i+1,w3),⟨L.tr D.cG,by dsimp only;omega⟩,Sub.gn [(0,2)] D ⟨by dsimp only;rw[hm5];rfl,trivial⟩ ⟨rfl,rfl,by dsimp only;rw[hk5];rfl,rfl,trivial⟩,by dsimp only;omega⟩
 ·have h:i=G.length:=by
   have:¬i<G.length:=by simpa using h
   omega
  subst h;rw[bQ]at QO ⊢;exact rtn L fun I' we re=>⟨_,rfl,re.JT (id:=0) rfl (by rw[QO,az]) (by decide)⟩
end Go.Ex
namespace Go.Sx
open Go Go.Ex Go.Proofs
variable{ls:List Nat}{O:Nat->Sx.cd}
theorem Rel.HF{H:Hp}{nx:Nat}{iv:Iv}{B:Nat}{w J:World}(r:Rel H nx iv B w O J){id t m:Nat}(h:cO H id=some (.vec t 1 (EQ ls)))(hm:m<=ls.length)(Lp:Lm ls)(hle:ls.length<=9223372036854775807):
  cR J (fun g=>B<=g/\g<J.heap.size) ((At.w id m).den O) (ls.take m):=by
 have LG:(ls.take m).length=m:=by rw[ah];omega
 rcases r.vec id t 1 _ h with⟨A,hu⟩|⟨A,spare,hb,hc,Md⟩
 ·have hl:ls=[]:=by cases ls with
   |nil=>rfl
   |cons a b=>simp[EQ]at hu
  subst hl;simp at hm;subst hm;have:(At.w id 0).den O= .slice none 0 0:=by simp[At.den,A]
  rw[this];exact cR.nil _ _
 ·refine⟨Lp.take m,by rw[LG];omega,some ⟨(O id).g,0,none⟩,(O id).cap,by rw[LG];simp[At.den,A],?_,fun j x F=>⟨_,rfl,r.low id _ h A,?_⟩⟩
  ·have V:(EQ ls++spare).length=ls.length+spare.length:=by rw[List.length_append,fK]
   rw[LG];omega
  ·rw[List.getElem?_take]at F;split at F
   ·rw[cZ,cell_of hb,aU,aJ (by rw[fK];exact(aC.1 F).1)];exact qy F
   ·cases F
end Go.Sx
namespace Go.Ex
open Go Go.Sx Go.Proofs
variable{ds ls:List Nat}{n:Nat}{S:Nat->Prop}
theorem Cu(_hn:n<ls.length)(h0:ls[n]? =some 0):dA (ls.take (n+1))=dA (ls.take n):=by
 rw[List.take_add_one,h0];exact j1 _
theorem Cw{x:Nat}(h0:ls[n]? =some x)(F:x≠0):dA (ls.take (n+1))=ls.take (n+1):=by
 rw[List.take_add_one,h0];exact mD _ F
theorem B8{w:World}{v:Value}(X:Old S w)(h:fT w S v (dG ds))(hd:Dg ds)(hl:ds.length<=1000000000):
  eF PG F'.qj #[v] w (eM w fun v' Y=>∃lv,v'= .agg #[.bool false,lv]/\cR Y (Nf w Y) lv (dA (fk ds))):=by
 obtain⟨a,c,rfl,hc⟩:=h.shape;rw[dy]at hc h ⊢;refine te (by simp) ?_
 refine⟨Nat×World,fun z=>match z.1 with
   |0=>⟨[(0,sV a ds.length c),(2,pP 0 0),(3,pP 1 0),(4,iZ 0)],[(1,.box T.Int [.v (.bool false),.v (.slice none 0 0)]),(0,.box T.Int [.v (.bool false),.v (.slice none 0 0)])],2,[],z.2⟩
   |k+1=>⟨[(0,sV a ds.length c),(2,pP 0 0),(3,pP 1 0),(4,.o (.v (.int .i64 ((2*(k+1):Nat):Int))))],[(2,.vec T.uint32 1 (EQ (pk ds (k+1)))),(1,.box T.Int [.v (.bool false),.w 2 (k+1)]),(0,.box T.Int [.v (.bool false),.v (.slice none 0 0)])],3,[],z.2⟩,
  fun z=>ds.length-z.1,fun z=>dO w.heap.size w z.2/\2*z.1<=ds.length+1,?_,?_⟩
 ·intro O J r;exact⟨(0,J),⟨r.cG,by simp⟩,Sub.gn [] r⟩
 rintro⟨k,w1⟩ ⟨L,N⟩;dsimp only at L N;have hR:fT w1 S (.slice a ds.length c) (dG ds):=fT.br h fun g R=>L.block g (X g R)
 cases k with
 |zero=>
  refine ct.mk ?_ ?_<;>intro V
  ·have V:0<ds.length:=by
    have:=aL V;omega
   obtain⟨d0,PI⟩:∃x,ds[0]? =some x:=⟨_,aA V⟩
   have hd0b:=hd d0 (aD PI);have OH:ds.getD (2*0) 0=d0:=by show ds.getD 0 0=d0;rw[List.getD,PI];rfl
   obtain⟨ad,rfl,q1,q2⟩:=hR.load (j:=0) (x:=(d0:Int)) (by rw[dG,aM,PI];rfl);refine⟨ad,rfl,by omega,.int .i64 (d0:Int),fun O J r=>?_,?_⟩
   ·show J.cell? (ad.add (0*1))=_;rw[cA (w:=w1) (Y:=J) (by rw[dP];exact Rel.same (S:=S) r X (.inl q1))];exact q2
   refine⟨((0+1:Nat):Int),wo,?_⟩;refine ct.mk ?_ ?_<;>intro I
   ·have I:0+1<ds.length:=by
     have:=aL I;omega
    obtain⟨d1,OP⟩:∃x,ds[0+1]? =some x:=⟨_,aA I⟩
    have hd1b:=hd d1 (aD OP);have On:ds.getD (2*0+1) 0=d1:=by show ds.getD (0+1) 0=d1;rw[List.getD,OP];rfl
    obtain⟨_,LH,q3,q4⟩:=hR.load (j:=0+1) (x:=(d1:Int)) (by rw[dG,aM,OP];rfl);injection LH with LH;subst LH;refine⟨((0+1:Nat):Int),wo,ad,rfl,by omega,.int .i64 (d1:Int),fun O J r=>?_,?_⟩
    ·show J.cell? (ad.add ((0+1)*1))=_;rw[cA (w:=w1) (Y:=J) (by rw[dP];exact Rel.same (S:=S) r X (.inl q3))];exact q4
    refine⟨((65536*d1:Nat):Int),wo,((d0+65536*d1:Nat):Int),wo,?_⟩;have OI:=uH ds 0;rw[OH,On]at OI;generalize d0+65536*d1=dd at*
    have Q6:dd<4294967296:=GL hd (0+1) dd (by rw[OI];simp);refine⟨(dd:Int),by rw[tu]<;>omega,?_⟩;refine .inl ?_;refine⟨by omega,by unfold maxLen;omega,((2*(0+1):Nat):Int),wo,?_⟩;intro In w3 D;have hU:EQ (pk ds (0+1))=EQ (pk ds 0)++[.int .u32 (dd:Int)]:=by rw[OI];simp[EQ]
    exact⟨(0+1,w3),⟨L.tr D.cG,by dsimp only;omega⟩,Sub.gn [(2,3)] D ⟨by dsimp only;rw[hU];rfl,rfl,rfl,trivial⟩,by dsimp only;omega⟩
   ·have I:0+1=ds.length:=by
     have:=aI I;omega
    have On:ds.getD (2*0+1) 0=0:=by show ds.getD (0+1) 0=0;rw[List.getD,List.getElem?_eq_none (by omega)];rfl
    have OI:=uH ds 0;rw[OH,On]at OI;obtain⟨dd,hdde⟩:∃dd,dd=d0:=⟨_,rfl⟩
    rw[<-hdde]at OI ⊢;have Q6:dd<4294967296:=by omega
    rw[show dd+65536*0=dd by omega]at OI;refine⟨(dd:Int),by rw[tu]<;>omega,?_⟩;refine .inl ?_;refine⟨by omega,by unfold maxLen;omega,((2*(0+1):Nat):Int),wo,?_⟩;intro In w3 D;have hU:EQ (pk ds (0+1))=EQ (pk ds 0)++[.int .u32 (dd:Int)]:=by rw[OI];simp[EQ]
    exact⟨(0+1,w3),⟨L.tr D.cG,by dsimp only;omega⟩,Sub.gn [(2,3)] D ⟨by dsimp only;rw[hU];rfl,rfl,rfl,trivial⟩,by dsimp only;omega⟩
  ·have V:ds=[]:=by
    have:=aI V;exact List.eq_nil_of_length_eq_zero (by omega)
   subst V;refine⟨World,fun z=>⟨[(2,pP 0 0),(3,pP 1 0),(6,iZ 0)],[(1,.box T.Int [.v (.bool false),.v (.slice none 0 0)]),(0,.box T.Int [.v (.bool false),.v (.slice none 0 0)])],2,[],z⟩,fun _=>0,fun z=>dO w.heap.size w z,?_,?_⟩
   ·intro O J r;exact⟨J,L.tr r.cG,Sub.gn [] r⟩
   intro Y L;dsimp only at L ⊢;refine⟨⟨by decide,by decide,by decide⟩,none,0,0,by rfl,by rfl,by rfl,?_⟩;exact rtn L fun I' we re=>⟨_,rfl,cR.nil _ _⟩
 |succ k=>
  refine ct.mk ?_ ?_<;>intro V
  ·have V:(2*(k+1))<ds.length:=by
    have:=aL V;omega
   obtain⟨d0,PI⟩:∃x,ds[(2*(k+1))]? =some x:=⟨_,aA V⟩
   have hd0b:=hd d0 (aD PI);have OH:ds.getD (2*(k+1)) 0=d0:=by show ds.getD (2*(k+1)) 0=d0;rw[List.getD,PI];rfl
   obtain⟨ad,rfl,q1,q2⟩:=hR.load (j:=(2*(k+1))) (x:=(d0:Int)) (by rw[dG,aM,PI];rfl);refine⟨ad,rfl,by omega,.int .i64 (d0:Int),fun O J r=>?_,?_⟩
   ·show J.cell? (ad.add ((2*(k+1))*1))=_;rw[cA (w:=w1) (Y:=J) (by rw[dP];exact Rel.same (S:=S) r X (.inl q1))];exact q2
   refine⟨(((2*(k+1))+1:Nat):Int),wo,?_⟩;refine ct.mk ?_ ?_<;>intro I
   ·have I:(2*(k+1))+1<ds.length:=by
     have:=aL I;omega
    obtain⟨d1,OP⟩:∃x,ds[(2*(k+1))+1]? =some x:=⟨_,aA I⟩
    have hd1b:=hd d1 (aD OP);have On:ds.getD (2*(k+1)+1) 0=d1:=by show ds.getD ((2*(k+1))+1) 0=d1;rw[List.getD,OP];rfl
    obtain⟨_,LH,q3,q4⟩:=hR.load (j:=(2*(k+1))+1) (x:=(d1:Int)) (by rw[dG,aM,OP];rfl);injection LH with LH;subst LH;refine⟨(((2*(k+1))+1:Nat):Int),wo,ad,rfl,by omega,.int .i64 (d1:Int),fun O J r=>?_,?_⟩
    ·show J.cell? (ad.add (((2*(k+1))+1)*1))=_;rw[cA (w:=w1) (Y:=J) (by rw[dP];exact Rel.same (S:=S) r X (.inl q3))];exact q4
    refine⟨((65536*d1:Nat):Int),wo,((d0+65536*d1:Nat):Int),wo,?_⟩;have OI:=uH ds (k+1);rw[OH,On]at OI;generalize d0+65536*d1=dd at*
    have Q6:dd<4294967296:=GL hd ((k+1)+1) dd (by rw[OI];simp);refine⟨(dd:Int),by rw[tu]<;>omega,?_⟩;refine .inl ?_;refine⟨by rw[fK,sB];omega,by omega,by unfold maxLen;omega,((2*((k+1)+1):Nat):Int),wo,?_⟩;intro In w3 D;have hU:EQ (pk ds ((k+1)+1))=EQ (pk ds (k+1))++[.int .u32 (dd:Int)]:=by rw[OI];simp[EQ]
    exact⟨((k+1)+1,w3),⟨L.tr D.cG,by dsimp only;omega⟩,Sub.gn [(2,4)] D ⟨by dsimp only;rw[hU];rfl,rfl,rfl,trivial⟩,by dsimp only;omega⟩
   ·have I:(2*(k+1))+1=ds.length:=by
     have:=aI I;omega
    have On:ds.getD (2*(k+1)+1) 0=0:=by show ds.getD ((2*(k+1))+1) 0=0;rw[List.getD,List.getElem?_eq_none (by omega)];rfl
    have OI:=uH ds (k+1);rw[OH,On]at OI;obtain⟨dd,hdde⟩:∃dd,dd=d0:=⟨_,rfl⟩
    rw[<-hdde]at OI ⊢;have Q6:dd<4294967296:=by omega
    rw[show dd+65536*0=dd by omega]at OI;refine⟨(dd:Int),by rw[tu]<;>omega,?_⟩;refine .inl ?_;refine⟨by rw[fK,sB];omega,by omega,by unfold maxLen;omega,((2*((k+1)+1):Nat):Int),wo,?_⟩;intro In w3 D;have hU:EQ (pk ds ((k+1)+1))=EQ (pk ds (k+1))++[.int .u32 (dd:Int)]:=by rw[OI];simp[EQ]
    exact⟨((k+1)+1,w3),⟨L.tr D.cG,by dsimp only;omega⟩,Sub.gn [(2,4)] D ⟨by dsimp only;rw[hU];rfl,rfl,rfl,trivial⟩,by dsimp only;omega⟩
  ·have V:ds.length<=2*(k+1):=by
    have:=aI V;omega
   have W:k+1=(ds.length+1) / 2:=by omega
   have OI:pk ds (k+1)=fk ds:=by rw[W];exact GK ds
   have hlen:=sB ds (k+1);have Lp:=GL hd (k+1);rw[<-OI];obtain⟨ls,hls⟩:∃ls,ls=pk ds (k+1):=⟨_,rfl⟩
   rw[<-hls]at hlen Lp ⊢
   refine⟨by show(EQ (pk ds (k+1))).length=_;rw[<-hls,fK,hlen];simp,Nat×World,fun z=>⟨[(2,pP 0 0),(3,pP 1 0),(6,iZ z.1)],[(2,.vec T.uint32 1 (EQ ls)),(1,.box T.Int [.v (.bool false),.w 2 (k+1)]),(0,.box T.Int [.v (.bool false),.v (.slice none 0 0)])],3,[],z.2⟩,fun z=>z.1,
    fun z=>dO w.heap.size w z.2/\z.1<=k+1/\dA (ls.take z.1)=dA ls,?_,?_⟩
   ·intro O J r;exact⟨(k+1,J),⟨L.tr r.cG,aE _,by dsimp only;rw[List.take_of_length_le (by omega)]⟩,Sub.gn [] r ⟨by dsimp only;rw[hls];rfl,rfl,rfl,trivial⟩⟩
   rintro⟨n,Y⟩ ⟨L,A,htr⟩;dsimp only at L A htr ⊢
   cases n with
   |zero=>
    refine⟨by rw[fK,hlen];simp,⟨by omega,by omega⟩,0,by rfl,?_⟩;intro I' we re;refine⟨_,rfl,L.tr re.cG,_,rfl,?_⟩;have:=re.HF (id:=2) (m:=0) rfl (aP _) Lp (by omega);rw[<-htr];exact this.bw fun g R=>.inr R
   |succ n=>
    obtain⟨x,F⟩:∃x,ls[n]? =some x:=⟨_,aA (by omega)⟩
    refine ct.mk (fun hp=>?_) (fun hp=>absurd (aI hp) (by omega));refine⟨(n:Int),wo,by rw[fK,hlen];simp,by omega,.int .u32 (x:Int),by simpa using qy F,?_⟩;refine ct.mk ?_ ?_<;>intro h0
    ·have h0:x=0:=by have:=eq_of_beq h0;omega
     subst h0;refine⟨(n:Int),wo,?_⟩;intro In w3 D;exact⟨(n,w3),⟨L.tr D.cG,by dsimp only;omega,by dsimp only;rw[<-htr,Cu (by omega) F]⟩,Sub.gn [] D,by dsimp only;omega⟩
    ·have h0:x≠0:=fun e=>by rw[e]at h0;exact absurd h0 (by decide)
     refine⟨by rw[fK,hlen];simp,⟨by omega,by omega⟩,n+1,by rfl,?_⟩;intro I' we re;refine⟨_,rfl,L.tr re.cG,_,rfl,?_⟩;have:=re.HF (id:=2) (m:=n+1) rfl (by omega) Lp (by omega);rw[<-htr,Cw F h0];exact this.bw fun g R=>.inr R
end Go.Ex
namespace Go.Ex
open Go Go.Sx Go.Proofs
variable{H:Hp}{z:Int}{iv:Iv}{G:List Int}{b ds ls:List Nat}{xs:List Value}{B i nx:Nat}{S:Nat->Prop}{O:Nat->Sx.cd}{q:Rat}{u v:Value}{w J:World}
theorem rJ{Y:World}{v':Value}(hc:Ct iv v)(r:Rel H nx iv B w O J)(M7:∀g,v'.ownBlock=some g->g<Y.heap.size/\(v.ownBlock=some g\/g=J.heap.size)):
  ∀lo N,(lo,N)∈jY v'->N<=Y.heap.size/\∀id b,cO H id=some b->(O id).nil=false->¬(lo<=(O id).g/\(O id).g<N):=fun lo N hm=>by
 obtain⟨R,rfl⟩:=og.1 hm;obtain⟨V,I⟩:=M7 _ R;refine⟨by omega,fun id c hc' A Z=>?_⟩;rcases I with I|I
 ·exact hc.not r I id c hc' A (by omega)
 ·have:=(r.low id c hc' A).2;omega
theorem cR.out{w1:World}(h:cR w1 (Cv S w.heap.size iv) v ls)(r:Rel H nx iv w.heap.size w1 O J)(X:Old S w):cR J (Nw S w J) v ls:=
 (cR.rel h r X).bw fun _ R=>Cv.nw R r
theorem Dq{B' e sz m:Nat}(h:w.ownsRow B e sz v m xs)(hb:B'<=B):w.ownsRow B' e sz v m xs:=⟨h.1,h.2.imp id fun⟨g,cap,cur,k1,k2,k3⟩=>⟨g,cap,cur,k1,by omega,k3⟩⟩
theorem rK(a b:List Nat):dG (a++b)=dG a++dG b:=by simp[dG]
theorem zp{m:Nat}(h:w.ownsRow B T.int 1 v m (G.map (Value.int .i64)))(hm:m=G.length)(hl:m<=maxLen):fT w (fun g=>v.ownBlock=some g) v G:=by
 subst hm;rcases h.2 with⟨rfl,h0⟩|⟨g,cap,cur,rfl,hb,hc,Ph,Md,LL,Nr⟩
 ·have:G=[]:=List.eq_nil_of_length_eq_zero h0;subst this;exact⟨by simp[maxLen],by simp,by simp,none,0,rfl,aE _,by simp⟩
 ·refine⟨hl,h.1,fun u hu=>by simp at hu;obtain⟨_,_,rfl⟩:=hu;rfl,_,cap,rfl,Ph,fun j u hu=>⟨_,rfl,rfl,?_⟩⟩;exact h.cells (g:=g) rfl j u hu
theorem Dg.append{a:List Nat}(ha:Dg a)(hb:Dg b):Dg (a++b):=fun x F=>(bG.1 F).elim (ha x) (hb x)
theorem tN(a b:List Nat):kU (a++b)=kU a+up a.length*kU b:=by
 unfold kU;rw[List.map_append,xV,aK]
theorem xI(hd:Dg ds):Nz (dA (fk ds))/\(val (dA (fk ds)):Int)=kU ds:=by
 obtain⟨V,I,_⟩:=vo ds hd;obtain⟨k1,k2,_⟩:=eA (fk ds);exact⟨k2,by rw[k1,V]⟩
theorem El(X:Old S w)(h:fT w S v G)(hb:∀c∈G,-1152921504606846976<=c/\c<=1152921504606846976)(hl:G.length<=100000000):
  eF PG F'.pI #[v] w (eM w fun v' Y=>fb Y (Nf w Y) v' (ek G)):=by
 obtain⟨a,c,rfl,hc⟩:=h.shape;obtain⟨SJ,hdg,Oj⟩:=jh G 0;obtain⟨hk1,Qy⟩:=jK G 0 hb (by decide) (by decide);rw[Int.add_zero]at SJ;refine sM (by simp) ?_;refine bp (bz (Id:=fun _ J v' Y=>∃o,v'= .tuple #[o,.int .i64 (cY G 0).2]/\Y.ownsRow J.heap.size T.int 1 o G.length ((dG (cY G 0).1).map (Value.int .i64))) (fun O J r=>yn (oS X r) (fT.br h fun g R=>Rel.same (S:=S) r X (.inl R)) hb (by omega)) ?_);rintro O wa v1 wb r Z L ⟨o,rfl,Kr⟩;have MI:Ct [(wa.heap.size,wb.heap.size)] o:=fun g R=>⟨_,_,bK.2 rfl,(ownsRow.low Kr g R).1,(ownsRow.low Kr g R).2⟩
 replace Kr:=Dq Kr r.bs;generalize [(wa.heap.size,wb.heap.size)]=iv at*
 generalize hds:(cY G 0).1=ds at*
 generalize W:(cY G 0).2=k at*
 obtain⟨ao,co,rfl,hco⟩:=fQ Kr;refine ct.mk ?_ ?_<;>intro MK
 ·have MK:=aL MK;have hV:ek G<0:=by
   have V:=(ve hdg).2;rw[Oj]at V;have I:=GJ G.length;have K:up G.length*k<=up G.length*(-1):=Int.mul_le_mul_of_nonneg_left (by omega) (by omega);omega
  obtain⟨Q7,SK,hdl2⟩:=jh (G.map (- ·)) 0;have Mn:∀c∈G.map (- ·),-1152921504606846976<=c/\c<=1152921504606846976:=fun c hc=>by
   obtain⟨x,F,rfl⟩:=aT.1 hc;have:=hb x F;omega
  obtain⟨hk1',hk2'⟩:=jK (G.map (- ·)) 0 Mn (by decide) (by decide);rw[Int.add_zero,CV,aK]at Q7;rw[aK]at hdl2;have Qz:0<=(cY (G.map (- ·)) 0).2:=by
   have V:=(ve SK).2;rw[hdl2]at V;have I:=GJ G.length;apply Decidable.byContradiction;intro K;have h4:up G.length*(cY (G.map (- ·)) 0).2<=up G.length*(-1):=Int.mul_le_mul_of_nonneg_left (by omega) (by omega);omega
  refine⟨Nat×World,fun z=>⟨[(0,sV a G.length c),(2,pP 0 0),(3,sV ao G.length co),(5,iZ z.1)],[(0,.box T.Int [.v (.bool false),.v (.slice none 0 0)])],1,iv,z.2⟩,fun z=>G.length-z.1,
   fun z=>z.1<=G.length/\dO w.heap.size w z.2/\z.2.ownsRow w.heap.size T.int 1 (.slice ao G.length co) G.length (((G.take z.1).map (- ·)++(dG ds).drop z.1).map (Value.int .i64)),?_,?_⟩
  ·intro O J r;exact⟨(0,J),⟨by simp,L.tr r.cG,by simpa using iH Kr MI r⟩,Sub.gn [] r⟩
  rintro⟨i,w1⟩ ⟨N,L,Kr⟩;dsimp only at N L Kr ⊢;have hR:fT w1 S (.slice a G.length c) G:=fT.br h fun g R=>L.block g (X g R);refine ct.mk ?_ ?_<;>intro Kp
  ·have Kp:i<G.length:=by simpa using Kp
   obtain⟨x,F⟩:∃x,G[i]? =some x:=⟨_,aA Kp⟩
   obtain⟨QK,Pk⟩:=hb x (aD F);obtain⟨ad,rfl,q1,q2⟩:=hR.load F;obtain⟨go,hgo⟩:∃g,ao=some ⟨g,0,none⟩:=by
    rcases Kr.2 with⟨_,h0⟩|⟨g,cap,cur,e,_⟩
    ·omega
    ·injection e with e;exact⟨g,e⟩
   subst hgo;refine⟨ad,rfl,by omega,.int .i64 x,fun O J r=>?_,?_⟩
   ·rw[aG,cA (w:=w1) (Y:=J) (by rw[dP];exact Rel.same (S:=S) r X (.inl q1))];exact q2
   refine⟨-x,wo,⟨go,0,none⟩,rfl,by omega,?_⟩;intro O J r;have QQ:=iH Kr MI r;obtain⟨g',QR,Kt,MG,Ll,LL⟩:=nM (nv:=[.int .i64 (-x)]) QQ rfl Kp rfl (by decide);injection QR with QR;injection QR with QR;subst QR;rw[II (by rw[aK,List.length_append,aK,ah,List.length_drop,dy,Oj];omega)]at MG;have LH:(⟨go,0,none⟩:Addr).add ((i:Int).toNat*1)=⟨go,i*1,none⟩:=by rw[aG,cZ,aU]
   have Me:=fun id b hb A=>MI.not r (b:=go) rfl id b hb A;have hgoB:=(ownsRow.low Kr go rfl).1;have hw':dO w.heap.size w (setCells J ⟨go,i*1,none⟩ [.int .i64 (-x)]):=(L.tr r.cG).tr (dO.grown Ll (fun g R=>by injection R with R;subst R;exact hgoB) r.bs);have hlist:(((G.take i).map (- ·)++(dG ds).drop i).map (Value.int .i64)).set i (.int .i64 (-x))=((G.take (i+1)).map (- ·)++(dG ds).drop (i+1)).map (Value.int .i64):=by
    rw[<-List.map_set];congr 1;have NG:((G.take i).map (- ·)).length=i:=by rw[aK,ah];omega
    obtain⟨d,hd⟩:∃d,(dG ds)[i]? =some d:=⟨_,aA (by rw[dy,Oj];exact Kp)⟩
    have LZ:(dG ds).drop i=d::(dG ds).drop (i+1):=by
     rw[List.drop_eq_getElem_cons (by rw[dy,Oj];exact Kp)];congr 1;have:=aA (l:=dG ds) (i:=i) (by rw[dy,Oj];exact Kp);rw[hd]at this;injection this with this;exact this.symm
    rw[List.take_add_one,F,List.map_append,LZ,List.set_append_right _ _ (by omega),NG,bC];simp
   refine⟨by rw[LH],fun j hj=>by rw[LH];exact Kt j hj,fun id b hb A=>by rw[LH];exact Me id b hb A,fun Y Ln=>?_⟩;have Ln:Y=setCells J ⟨go,i*1,none⟩ [.int .i64 (-x)]:=by rw[Ln];exact congrArg (fun x=>setCells J x _) LH
   rw[<-Ln]at MG hw'
   erw [hlist]at MG
   refine⟨((i+1:Nat):Int),wo,?_⟩;intro In w3 D;exact⟨(i+1,w3),⟨Kp,hw'.tr D.cG,iH MG MI D⟩,Sub.gn [] D,by dsimp only;omega⟩
  have Kp:i=G.length:=by
   have:¬i<G.length:=by simpa using Kp
   omega
  subst Kp;rw[bQ,List.drop_of_length_le (by rw[dy,Oj];exact aE _),List.append_nil]at Kr;refine⟨⟨by omega,by omega,by omega⟩,ao,G.length,co,BF ao co,by omega,by omega,?_⟩;refine bp (bz (Id:=fun _ J v' Y=>∃o,v'= .tuple #[o,.int .i64 (cY (G.map (- ·)) 0).2]/\Y.ownsRow J.heap.size T.int 1 o G.length ((dG (cY (G.map (- ·)) 0).1).map (Value.int .i64))) (fun O J r=>?_) ?_)
  ·have h8:=iH Kr MI r;have h9:=zp h8 (by rw[aK]) (by unfold maxLen;omega);have h10:=yn (fun g R=>(ownsRow.low h8 g R).2) h9 Mn (by rw[aK];omega);rw[aK]at h10;exact h10
  rintro O wc v1 wd r Z M0 ⟨o2,rfl,MH⟩;have Mm:Ct ((wc.heap.size,wd.heap.size)::iv) o2:=fun g R=>⟨_,_,aH,(ownsRow.low MH g R).1,(ownsRow.low MH g R).2⟩
  replace MH:=Dq MH r.bs;replace L:=L.tr M0;generalize (wc.heap.size,wd.heap.size)::iv=Kx at*
  generalize hds2:(cY (G.map (- ·)) 0).1=ds2 at*
  generalize hkk2:(cY (G.map (- ·)) 0).2=k2 at*
  obtain⟨kn,rfl⟩:∃kn:Nat,k2=kn:=⟨k2.toNat,by omega⟩
  obtain⟨ao2,co2,rfl,hco2⟩:=fQ MH;have ds2_len:ds2.length=G.length:=hdl2;have ds2_dg:Dg ds2:=SK;refine bp (bz (Id:=fun _ J v Y=>fT Y (Nf J Y) v (dG (cP kn))) (fun O J r=>by exact B7 kn J (by omega)) ?_);rintro O ws vs wt r Z hb Rk;have PN:fT wt (Cf w ((ws.heap.size,wt.heap.size)::Kx)) vs (dG (cP kn)):=fT.bw Rk fun g R=>R.df r.bs aH;replace MH:=ownsRow.br (iH MH Mm r) fun g R=>Z.block g (by have:=(ownsRow.low (iH MH Mm r) g R).2;exact this);replace Mm:Ct ((ws.heap.size,wt.heap.size)::Kx) _:=Mm.mono fun p hp=>aB _ hp;replace L:=L.tr hb;generalize (ws.heap.size,wt.heap.size)::Kx=oR at*
  obtain⟨asp,csp,rfl,-⟩:=PN.shape;rw[dy]at PN ⊢;have NT:=iS (n:=kn) (k:=4) (by omega);have hsd:=(jk kn).2
  refine .inr (lk hτ (aE _) (xs:=(dG ds2).map (Value.int .i64)) (news:=(dG (cP kn)).map (Value.int .i64)) (m:=G.length) (k:=(cP kn).length) (by rfl) (by rfl) (by decide) (by rfl) (by rfl) (fun O J r=>⟨iH MH Mm r,fun g R=>Mm.not r R⟩) (by simp[dG]) (by intro u hu;simp at hu;obtain⟨_,_,rfl⟩:=hu;rfl) (by unfold maxLen;omega) (by omega)
   (fun O J r=>?_) (fun v' Y=>jY v') (fun O J v' Y r LL M7=>rJ Mm r M7) (fun O J v' Y r h5 h6 h7=>?_))
  ·obtain⟨_,_,_,a2,c2,e2,_,e3⟩:=PN;injection e2 with e4 e5 e6;subst e4 e6
   cases asp with
   |none=>
    have h0:(cP kn).length=0:=by
     rcases bF (cP kn).length with h0|h0
     ·exact h0
     ·obtain⟨ad2,q1,_⟩:=e3 0 _ (aA (show 0<((dG (cP kn)).map (Value.int .i64)).length by simp[dG];exact h0))
      cases q1
    exact .inl ⟨csp,by rw[h0];rfl,h0⟩
   |some ad3=>
    refine .inr ⟨ad3,csp,rfl,fun j u hu=>?_⟩;obtain⟨ad2,q1,q2,q3⟩:=e3 j u hu;injection q1 with q1;subst q1;rw[cA (w:=wt) (Y:=J) (by rw[dP];exact Rel.same r (bo w) q2)];exact q3
  replace L:dO w.heap.size w Y:=(L.tr r.cG).tr (dO.grown h6 (fun g R=>by
   have:=(ownsRow.low MH g R).1;omega) r.bs)
  have hcat:(dG ds2).map (Value.int .i64)++(dG (cP kn)).map (Value.int .i64)=(dG (ds2++cP kn)).map (Value.int .i64):=by rw[rK,List.map_append]
  rw[hcat]at h5;have NO:G.length+(cP kn).length=(dG (ds2++cP kn)).length:=by rw[dy,List.length_append,ds2_len]
  have Q8:Dg (ds2++cP kn):=ds2_dg.append hsd;have MP:(ds2++cP kn).length<=1000000000:=by rw[List.length_append,ds2_len];omega
  obtain⟨a3,c3,rfl,-⟩:=fQ h5;refine bp (bz (Id:=fun _ J v' Y=>∃lv,v'= .agg #[.bool false,lv]/\cR Y (Nf J Y) lv (dA (fk (ds2++cP kn)))) (fun O J r=>?_) ?_)
  ·have h8:=iH h5 (Ct.row _) r;have h9:=zp h8 NO (by unfold maxLen;omega);have h10:=B8 (w:=J) (fun g R=>(ownsRow.low h8 g R).2) h9 Q8 MP;exact h10
  rintro O wp v1 wq r Z hb ⟨lv,rfl,hL⟩;have SL:=hL.df (S:=FF) r.bs (iv:=[(wp.heap.size,wq.heap.size)]) aH;have SL:cR wq (Cf w ((wp.heap.size,wq.heap.size)::jY (.slice a3 (G.length+(cP kn).length) c3))) lv (dA (fk (ds2++cP kn))):=hL.bw fun g R=>R.df r.bs aH;replace L:=L.tr hb;generalize (wp.heap.size,wq.heap.size)::jY (.slice a3 (G.length+(cP kn).length) c3)=ivq at*
  obtain⟨hnz,hvv⟩:=xI Q8;obtain⟨a4,n4,c4,rfl⟩:=SL.shape;have hcv: -ek G=kU (ds2++cP kn):=by rw[Q7,tN,(jk kn).1,ds2_len]
  obtain⟨pp,hpe,hpp⟩:=SL.la;injection hpe with hpe1 hpe2 hpe3;subst hpe1 hpe2 hpe3;have hlenpos:0<pp.ls.length:=by
   rw[hpp];rcases bF (dA (fk (ds2++cP kn))).length with h0|h0
   ·rw[List.eq_nil_of_length_eq_zero h0]at hvv;simp[val]at hvv;omega
   ·exact h0
  intro I' we re;refine⟨_,rfl,L.tr re.cG,dA (fk (ds2++cP kn)),⟨_,?_,SL.out re (bo w)⟩,hnz,?_⟩
  ·rw[bY hV];have:decide ((pp.ls.length:Int)>0)=true:=bY (by omega);rw[<-this];rfl
  ·have:((val (dA (fk (ds2++cP kn))):Nat):Int)= -ek G:=by rw[hvv,hcv]
   omega
 ·have MK:=aI MK;obtain⟨kn,rfl⟩:∃kn:Nat,k=kn:=⟨k.toNat,by omega⟩
  have ds_len:ds.length=G.length:=Oj;have ds_dg:Dg ds:=hdg;refine bp (bz (Id:=fun _ J v Y=>fT Y (Nf J Y) v (dG (cP kn))) (fun O J r=>by exact B7 kn J (by omega)) ?_);rintro O ws vs wt r Z hb Rk;have PN:fT wt (Cf w ((ws.heap.size,wt.heap.size)::iv)) vs (dG (cP kn)):=fT.bw Rk fun g R=>R.df r.bs aH;replace Kr:=ownsRow.br (iH Kr MI r) fun g R=>Z.block g (by have:=(ownsRow.low (iH Kr MI r) g R).2;exact this);replace MI:Ct ((ws.heap.size,wt.heap.size)::iv) _:=MI.mono fun p hp=>aB _ hp;replace L:=L.tr hb;generalize (ws.heap.size,wt.heap.size)::iv=oR at*
  obtain⟨asp,csp,rfl,-⟩:=PN.shape;rw[dy]at PN ⊢;have NT:=iS (n:=kn) (k:=4) (by omega);have hsd:=(jk kn).2
  refine .inr (lk hτ (aE _) (xs:=(dG ds).map (Value.int .i64)) (news:=(dG (cP kn)).map (Value.int .i64)) (m:=G.length) (k:=(cP kn).length) (by rfl) (by rfl) (by decide) (by rfl) (by rfl) (fun O J r=>⟨iH Kr MI r,fun g R=>MI.not r R⟩) (by simp[dG]) (by intro u hu;simp at hu;obtain⟨_,_,rfl⟩:=hu;rfl) (by unfold maxLen;omega) (by omega)
   (fun O J r=>?_) (fun v' Y=>jY v') (fun O J v' Y r LL M7=>rJ MI r M7) (fun O J v' Y r h5 h6 h7=>?_))
  ·obtain⟨_,_,_,a2,c2,e2,_,e3⟩:=PN;injection e2 with e4 e5 e6;subst e4 e6
   cases asp with
   |none=>
    have h0:(cP kn).length=0:=by
     rcases bF (cP kn).length with h0|h0
     ·exact h0
     ·obtain⟨ad2,q1,_⟩:=e3 0 _ (aA (show 0<((dG (cP kn)).map (Value.int .i64)).length by simp[dG];exact h0))
      cases q1
    exact .inl ⟨csp,by rw[h0];rfl,h0⟩
   |some ad3=>
    refine .inr ⟨ad3,csp,rfl,fun j u hu=>?_⟩;obtain⟨ad2,q1,q2,q3⟩:=e3 j u hu;injection q1 with q1;subst q1;rw[cA (w:=wt) (Y:=J) (by rw[dP];exact Rel.same r (bo w) q2)];exact q3
  replace L:dO w.heap.size w Y:=(L.tr r.cG).tr (dO.grown h6 (fun g R=>by
   have:=(ownsRow.low Kr g R).1;omega) r.bs)
  have hcat:(dG ds).map (Value.int .i64)++(dG (cP kn)).map (Value.int .i64)=(dG (ds++cP kn)).map (Value.int .i64):=by rw[rK,List.map_append]
  rw[hcat]at h5;have NO:G.length+(cP kn).length=(dG (ds++cP kn)).length:=by rw[dy,List.length_append,ds_len]
  have Q8:Dg (ds++cP kn):=ds_dg.append hsd;have MP:(ds++cP kn).length<=1000000000:=by rw[List.length_append,ds_len];omega
  obtain⟨a3,c3,rfl,-⟩:=fQ h5;refine bp (bz (Id:=fun _ J v' Y=>∃lv,v'= .agg #[.bool false,lv]/\cR Y (Nf J Y) lv (dA (fk (ds++cP kn)))) (fun O J r=>?_) ?_)
  ·have h8:=iH h5 (Ct.row _) r;have h9:=zp h8 NO (by unfold maxLen;omega);have h10:=B8 (w:=J) (fun g R=>(ownsRow.low h8 g R).2) h9 Q8 MP;exact h10
  rintro O wp v1 wq r Z hb ⟨lv,rfl,hL⟩;have SL:=hL.df (S:=FF) r.bs (iv:=[(wp.heap.size,wq.heap.size)]) aH;have SL:cR wq (Cf w ((wp.heap.size,wq.heap.size)::jY (.slice a3 (G.length+(cP kn).length) c3))) lv (dA (fk (ds++cP kn))):=hL.bw fun g R=>R.df r.bs aH;replace L:=L.tr hb;generalize (wp.heap.size,wq.heap.size)::jY (.slice a3 (G.length+(cP kn).length) c3)=ivq at*
  obtain⟨hnz,hvv⟩:=xI Q8;obtain⟨a4,n4,c4,rfl⟩:=SL.shape;intro I' we re;have hcv:ek G=kU (ds++cP kn):=by rw[SJ,tN,(jk kn).1,ds_len]
  refine⟨_,rfl,L.tr re.cG,dA (fk (ds++cP kn)),⟨_,?_,SL.out re (bo w)⟩,hnz,?_⟩
  ·have:¬ek G<0:=by rw[hcv,<-hvv];omega
   rw[bI this];rfl
  ·rw[hcv,<-hvv];rfl
theorem JU(n:Int):ek [n.tmod 65536,(n.tdiv 65536).tmod 65536,(n.tdiv 65536).tdiv 65536]=n:=by
 simp only[ek]
 have V:=Int.mul_tdiv_add_tmod n 65536;have I:=Int.mul_tdiv_add_tmod (n.tdiv 65536) 65536;omega
theorem yo(n:Int)(w:World)(V: -9223372036854775808<=n)(I:n<=9223372036854775807):
  eF PG F'.BC #[.int .i64 n] w (eM w fun v Y=>fb Y (Nf w Y) v n):=by
 refine BD (by simp) ?_;have b1:=sY n;have b2:=sY (n.tdiv 65536);have e1:=Int.mul_tdiv_add_tmod n 65536;have e2:=Int.mul_tdiv_add_tmod (n.tdiv 65536) 65536;have hsum:=JU n;refine⟨by decide,n.tmod 65536,rfl,by decide,n.tdiv 65536,wo,by decide,_,rfl,by decide,n.tdiv 65536,wo,by decide,(n.tdiv 65536).tdiv 65536,wo,?_⟩;generalize n.tmod 65536=c0 at*
 generalize (n.tdiv 65536).tmod 65536=c1 at*
 generalize (n.tdiv 65536).tdiv 65536=c2 at*
 refine bp (bz (Id:=fun _ J v Y=>fb Y (Nf J Y) v n) (fun O J r=>?_) ?_)
 ·rw[<-hsum];have ha:=r.sX (id:=1) (sz:=1) (n:=3) rfl rfl (by decide) (by intro u hu;simp at hu;rcases hu with rfl|rfl|rfl<;>rfl)
  exact El (S:=fun g=>g=(O 1).g) (fun g R=>by rw[R];exact(r.low 1 _ rfl (r.nn 1 _ rfl (by intros;simp) (by simp))).2) (G:=[c0,c1,c2]) ha (by
   intro c hc;simp at hc
   rcases hc with rfl|rfl|rfl<;>omega) (by simp)
 rintro O wa v1 wb r Z hb hI;have hI:=hI.df (S:=FF) r.bs (iv:=(wa.heap.size,wb.heap.size)::[]) aH;generalize (wa.heap.size,wb.heap.size)::[]=iv at*
 obtain⟨b,a,m,c,rfl⟩:=hI.shape;intro I' we re;exact⟨_,rfl,hb.tr re.cG,hI.out re (bo w)⟩
def lF(z:Int):Value:=if z.natAbs<1073741824 then .tuple #[.int .i64 z,.bool true]else .tuple #[.int .i64 0,.bool false]
theorem ic.B9(h:ic w S v z):∃b a ls c,v= .agg #[.bool b,.slice a ls.length c]/\cR w S (.slice a ls.length c) ls/\sg b (val ls)=z:=by
 obtain⟨b,ls,⟨lv,V,I⟩,K⟩:=h;obtain⟨a,c,rfl,_⟩:=I.sl;exact⟨b,a,ls,c,V,I,K⟩
theorem IJ{x:Nat}(h:ls[i]? =some x):wt i*x<=val ls:=by
 have N:=(aC.1 h).1;have V:=dq ls (i+1) N;rw[c9 h]at V;omega
theorem Ju(h:0<i):4294967296<=wt i:=by
 obtain⟨k,rfl⟩:∃k,i=k+1:=⟨i-1,by omega⟩
 have:=ua k;rw[g8];omega
theorem Ba(X:Old S w)(hI:ic w S v z):
  eF PG F'.tJ #[v] w (eM w fun v' _=>v'=lF z):=by
 obtain⟨b,a,ls,c,rfl,hL,hz⟩:=hI.B9;refine wS (by simp) ?_;have hlen:=hL.le
 refine⟨Nat×World,fun y=>⟨[(1,pP 0 0),(4,.o (.v (.int .i64 (val (ls.take y.1))))),(5,iZ y.1)],[(0,.box T.Int [.v (.bool b),.v (.slice a ls.length c)])],1,[],y.2⟩,fun y=>ls.length-y.1,
  fun y=>y.1<=ls.length/\dO w.heap.size w y.2/\val (ls.take y.1)<1073741824/\(∀j,0<j->j<y.1->ls[j]? =some 0),?_,?_⟩
 ·intro O J r;exact⟨(0,J),⟨by simp,r.cG,by simp[val],by omega⟩,Sub.gn [] r⟩
 rintro⟨i,w1⟩ ⟨N,L,hv,h0⟩;dsimp only at N L hv h0 ⊢;refine ct.mk ?_ ?_<;>intro Kp
 ·have Kp:i<ls.length:=by simpa using Kp
  obtain⟨a',c',e,_,La⟩:=hL.sl;injection e with e1 e2 e3;subst e1 e3;obtain⟨x,F⟩:∃x,ls[i]? =some x:=⟨_,aA Kp⟩
  have MR:=hL.lm x (aD F);obtain⟨ad,rfl,q1,q2⟩:=La i x F;have Ni:∀{H nx iv O J},Rel H nx iv w.heap.size w1 O J->J.cell? (ad.add ((i:Int).toNat*1))=some (.int .u32 x):=fun r=>by
   rw[aG,az];exact lV X L r q1 q2
  have Mc:=IJ F;refine ct.mk ?_ ?_<;>intro hp
  ·have hp:0<i:=by
    have:(i:Int)>0:=aL hp;omega
   have hw1:=Ju hp;refine⟨ad,rfl,by omega,.int .u32 x,fun O J r=>Ni r,?_⟩;refine ct.mk ?_ ?_<;>intro Kq
   ·have Kq:x≠0:=by simpa using Kq
    intro I' we re;refine⟨_,rfl,L.tr re.cG,?_⟩;have:¬z.natAbs<1073741824:=by
     have:=Nat.mul_le_mul hw1 (show 1<=x by omega);rw[<-hz,sQ];omega
    show _=lF z;rw[lF,aF this];rfl
   ·have Kq:x=0:=by simpa using Kq
    subst Kq;refine⟨ad,rfl,by omega,.int .u32 0,fun O J r=>Ni r,?_⟩;have MA:val (ls.take (i+1))=val (ls.take i):=by rw[c9 F];omega
    have Nb:val (ls.take (i+1))<1073741824:=by rw[MA];exact hv
    have h02:∀j,0<j->j<i+1->ls[j]? =some 0:=fun j V I=>by
     rcases aO j i with K|K
     ·exact h0 j V K
     ·have:j=i:=by omega
      rw[this];exact F
    refine⟨ad,rfl,by omega,.int .u32 0,fun O J r=>Ni r,((0:Nat):Int),by decide,((val (ls.take (i+1)):Nat):Int),by rw[MA,wrap64]<;>omega,((i+1:Nat):Int),wo,?_⟩;intro In w3 D;exact⟨(i+1,w3),⟨Kp,L.tr D.cG,Nb,h02⟩,Sub.gn [] D,by dsimp only;omega⟩
  ·have hp:i=0:=by
    have:¬((i:Int)>0):=aI hp;omega
   subst hp;refine⟨ad,rfl,by omega,.int .u32 x,fun O J r=>Ni r,?_⟩;refine ct.mk ?_ ?_<;>intro Ra
   ·have Ra:=aL Ra;intro I' we re;refine⟨_,rfl,L.tr re.cG,?_⟩;have:¬z.natAbs<1073741824:=by
     rw[<-hz,sQ];rw[iG]at Mc;omega
    show _=lF z;rw[lF,aF this];rfl
   ·have Ra:=aI Ra;have MA:val (ls.take (0+1))=x:=by rw[c9 F];simp[val,iG]
    have Nb:val (ls.take (0+1))<1073741824:=by rw[MA];omega
    have h02:∀j,0<j->j<0+1->ls[j]? =some 0:=fun j V I=>by
     omega
    refine⟨ad,rfl,by omega,.int .u32 x,fun O J r=>Ni r,((x:Nat):Int),wo,((val (ls.take (0+1)):Nat):Int),by rw[MA,wrap64]<;>simp[val]<;>omega,((0+1:Nat):Int),wo,?_⟩;intro In w3 D;exact⟨(0+1,w3),⟨Kp,L.tr D.cG,Nb,h02⟩,Sub.gn [] D,by dsimp only;omega⟩
 ·have Kp:i=ls.length:=by
   have:¬i<ls.length:=by simpa using Kp
   omega
  subst Kp;rw[bQ]at hv ⊢;have LG:z.natAbs<1073741824:=by rw[<-hz,sQ];exact hv
  cases b with
  |true=>
   refine⟨-(val ls:Int),wo,?_⟩;intro I' we re;refine⟨_,rfl,L.tr re.cG,?_⟩;show _=lF z;rw[lF,if_pos LG,<-hz,Hy];rfl
  |false=>
   intro I' we re;refine⟨_,rfl,L.tr re.cG,?_⟩;show _=lF z;rw[lF,if_pos LG,<-hz,JN];rfl
theorem Em{a b:Int}(hb:b≠0):a.tdiv (b.sign*(Nat.gcd a.natAbs b.natAbs:Nat))=(Rat.divInt a b).num/\b.tdiv (b.sign*(Nat.gcd a.natAbs b.natAbs:Nat))=((Rat.divInt a b).den:Int):=by
 have R:0<Nat.gcd a.natAbs b.natAbs:=Nat.gcd_pos_of_pos_right _ (by omega);obtain⟨k,W⟩:((Nat.gcd a.natAbs b.natAbs:Nat):Int) ∣ a:=by rw[<-Int.natAbs_dvd_natAbs];exact Nat.gcd_dvd_left _ _
 obtain⟨l,hl⟩:((Nat.gcd a.natAbs b.natAbs:Nat):Int) ∣ b:=by rw[<-Int.natAbs_dvd_natAbs];exact Nat.gcd_dvd_right _ _
 have hc:(b.gcd a:Int)=(Nat.gcd a.natAbs b.natAbs:Nat):=by rw[Int.gcd_comm];rfl
 have Qo:b.gcd a=Nat.gcd a.natAbs b.natAbs:=by rw[Int.gcd_comm];rfl
 rw[Rat.num_divInt,Rat.den_divInt,aF hb,hc,Qo];generalize Nat.gcd a.natAbs b.natAbs=g at*
 have hgi:(g:Int)≠0:=by omega
 have hs:b.sign*b.sign=1:=by
  rcases Int.lt_or_gt_of_ne hb with h|h
  ·rw[bU h];rfl
  ·rw[ba h];rfl
 have hs0:b.sign≠0:=fun e=>by rw[e]at hs;simp at hs
 have Kq:b.sign*g≠0:=Int.mul_ne_zero hs0 hgi;have M8:((b.natAbs / g:Nat):Int)=b.sign*l:=by
  rw[Int.natCast_ediv,show((b.natAbs:Nat):Int)=b.sign*b by
   rcases Int.lt_or_gt_of_ne hb with h|h
   ·rw[bU h];omega
   ·rw[ba h];omega]
  conv=>lhs;lhs;rhs;rw[hl]
  rw[show b.sign*(↑g*l)= ↑g*(b.sign*l) by rw[<-Int.mul_assoc,<-Int.mul_assoc,Int.mul_comm b.sign]];exact Int.mul_ediv_cancel_left _ hgi
 constructor
 ·rw[show b.sign*a / (g:Int)=b.sign*k by
   conv=>lhs;lhs;rhs;rw[W]
   rw[show b.sign*(↑g*k)= ↑g*(b.sign*k) by rw[<-Int.mul_assoc,<-Int.mul_assoc,Int.mul_comm b.sign]]
   exact Int.mul_ediv_cancel_left _ hgi]
  conv=>lhs;lhs;rw[W,show(g:Int)*k=(b.sign*g)*(b.sign*k) by
   rw[show (b.sign* ↑g)*(b.sign*k)=(b.sign*b.sign)*(↑g*k) by simp only[Int.mul_assoc,Int.mul_comm,Int.mul_left_comm],hs,Int.one_mul]]
  exact Int.mul_tdiv_cancel_left _ Kq
 ·rw[M8]
  conv=>lhs;lhs;rw[hl,show(g:Int)*l=(b.sign*g)*(b.sign*l) by
   rw[show (b.sign* ↑g)*(b.sign*l)=(b.sign*b.sign)*(↑g*l) by simp only[Int.mul_assoc,Int.mul_comm,Int.mul_left_comm],hs,Int.one_mul]]
  exact Int.mul_tdiv_cancel_left _ Kq
theorem En(a b:Int)(w:World)(ha:a.natAbs<4611686018427387904)(hb:b.natAbs<4611686018427387904)(Qg:b≠0):
  eF PG F'.qh #[.int .i64 a,.int .i64 b] w (eM w fun v Y=>cI Y (Nf w Y) v (Rat.divInt a b)):=by
 refine ta (by simp) ?_;refine⟨-a,wo,-b,wo,?_⟩;conv=>whnf
 rw[show max a (-a)=(a.natAbs:Int) by omega,show max b (-b)=(b.natAbs:Int) by omega]
 refine⟨Nat×Nat×World,fun z=>⟨[(0,iZ a),(1,iZ b),(4,pP 0 0),(5,iZ z.1),(6,iZ z.2.1)],[(0,.box T.Rat [.v (.bool false),.v (.slice none 0 0),.v (.bool false),.v (.slice none 0 0)])],1,[],z.2.2⟩,fun z=>z.2.1,
  fun z=>dO w.heap.size w z.2.2/\Nat.gcd z.1 z.2.1=Nat.gcd a.natAbs b.natAbs/\z.1<4611686018427387904/\z.2.1<4611686018427387904,?_,?_⟩
 ·intro O J r;exact⟨(a.natAbs,b.natAbs,J),⟨r.cG,rfl,ha,hb⟩,Sub.gn [] r⟩
 rintro⟨x,y,w1⟩ ⟨L,R,F,hy⟩;dsimp only at L R F hy ⊢;conv=>whnf
 refine ct.mk ?_ ?_<;>intro h
 ·have h:0<y:=by
   have:(y:Int)>0:=aL h;omega
  refine cC hτ eG [.x 0,.x 1,.x 2,.x 3,.x 4,.x 5] (by kernel_rfl) (by kernel_rfl) ?_;have hm:=bl x h;refine⟨by omega,((x % y:Nat):Int),rfl,?_⟩;intro In w3 D;exact⟨(y,x % y,w3),⟨L.tr D.cG,by dsimp only;rw[<-R,Nat.gcd_comm x y,Nat.gcd_rec y x,Nat.gcd_comm],hy,by dsimp only;omega⟩,Sub.gn [] D,by dsimp only;omega⟩
 have h:y=0:=by
  have:¬(y:Int)>0:=aI h;omega
 subst h;rw[Nat.gcd_zero_right]at R;have hx0:x≠0:=by rw[R];exact Nat.pos_iff_ne_zero.1 (Nat.gcd_pos_of_pos_right _ (by omega))
 obtain⟨A,hd⟩:=Em (a:=a) Qg;rw[<-R]at A hd;have bn:(Rat.divInt a b).num.natAbs<=a.natAbs:=by rw[<-A];exact Int.natAbs_tdiv_le_natAbs _ _
 have bd:((Rat.divInt a b).den:Int).natAbs<=b.natAbs:=by rw[<-hd];exact Int.natAbs_tdiv_le_natAbs _ _
 refine ct.mk ?_ ?_<;>intro LF
 ·have LF:=aL LF;rw[bU LF,Int.neg_one_mul]at A hd;refine⟨-(x:Int),wo,?_⟩;refine cC hτ eG [.x 0,.x 1,.x 2,.x 4,.x 5,.x 6,.x 3,.x 7,.x 8,.x 9] (by kernel_rfl) (by kernel_rfl) ?_;refine⟨by omega,(Rat.divInt a b).num,by rw[A,wrap64]<;>omega,by omega,((Rat.divInt a b).den:Int),by rw[hd,wrap64]<;>omega,?_⟩;refine bz (Id:=fun _ J v Y=>fb Y (Nf J Y) v (Rat.divInt a b).num) (fun O J r=>yo _ J (by omega) (by omega)) ?_;rintro O wa v1 wb r Z M0 hI;replace L:=L.tr M0;have hN:=hI.df (S:=FF) r.bs (iv:=(wa.heap.size,wb.heap.size)::[]) aH;generalize (wa.heap.size,wb.heap.size)::[]=iv at*
  obtain⟨b1,a1,m1,c1,rfl⟩:=hN.shape;refine bz (Id:=fun _ J v Y=>fb Y (Nf J Y) v ((Rat.divInt a b).den:Int)) (fun O J r=>yo _ J (by omega) (by omega)) ?_;rintro O wa v1 MF r Z M0 hI;replace L:=L.tr M0;replace hN:=hN.bu (E:=(wa.heap.size,MF.heap.size)::iv) r (bo w) Z fun x F=>aB _ F;have hD:=hI.df (S:=FF) r.bs (iv:=(wa.heap.size,MF.heap.size)::iv) aH;generalize (wa.heap.size,MF.heap.size)::iv=Kx at*
  obtain⟨b2,a2,m2,c2,rfl⟩:=hD.shape;exact rtn L fun I' we re=>(cI.of hN hD).out re (bo w)
 ·have LF:=aI LF;rw[ba (by omega),Int.one_mul]at A hd;refine cC hτ eG [.x 0,.x 1,.x 2,.x 4,.x 5,.x 6,.x 3,.x 7,.x 8,.x 9] (by kernel_rfl) (by kernel_rfl) ?_;refine⟨by omega,(Rat.divInt a b).num,by rw[A,wrap64]<;>omega,by omega,((Rat.divInt a b).den:Int),by rw[hd,wrap64]<;>omega,?_⟩;refine bz (Id:=fun _ J v Y=>fb Y (Nf J Y) v (Rat.divInt a b).num) (fun O J r=>yo _ J (by omega) (by omega)) ?_;rintro O wa v1 wb r Z M0 hI;replace L:=L.tr M0;have hN:=hI.df (S:=FF) r.bs (iv:=(wa.heap.size,wb.heap.size)::[]) aH;generalize (wa.heap.size,wb.heap.size)::[]=iv at*
  obtain⟨b1,a1,m1,c1,rfl⟩:=hN.shape;refine bz (Id:=fun _ J v Y=>fb Y (Nf J Y) v ((Rat.divInt a b).den:Int)) (fun O J r=>yo _ J (by omega) (by omega)) ?_;rintro O wa v1 MF r Z M0 hI;replace L:=L.tr M0;replace hN:=hN.bu (E:=(wa.heap.size,MF.heap.size)::iv) r (bo w) Z fun x F=>aB _ F;have hD:=hI.df (S:=FF) r.bs (iv:=(wa.heap.size,MF.heap.size)::iv) aH;generalize (wa.heap.size,MF.heap.size)::iv=Kx at*
  obtain⟨b2,a2,m2,c2,rfl⟩:=hD.shape;exact rtn L fun I' we re=>(cI.of hN hD).out re (bo w)
theorem rL(h:z.natAbs<1073741824):lF z= .tuple #[.int .i64 z,.bool true]:=if_pos h
theorem zq{x y:Int}(X:Old S w)(F:ic w S v x)(hy:ic w S u y)(hxs:x.natAbs<1073741824)(hys:y.natAbs<1073741824)(Nt:y≠0):
  eF PG F'.vz #[v,u] w (eM w fun v' Y=>cI Y (Nf w Y) v' (Rat.divInt x y)):=by
 have L:=bR w;replace F:=F.bw (S':=Cv S w.heap.size []) fun _ h=>.inl h;replace hy:=hy.bw (S':=Cv S w.heap.size []) fun _ h=>.inl h;obtain⟨bx,ax,lx,cx,rfl⟩:=F.shape;obtain⟨b2,ay,ly,cy,rfl⟩:=hy.shape;refine xY (by simp) ?_;refine bp (cE L (fun _ J v Y=>v= .tuple #[.int .i64 x,.bool true]) (fun O J r=>(Ba (Rel.old r X) (F.rel r X)).mono fun e Y ⟨v2,e1,e2,e3⟩=>⟨v2,e1,e2,by rw[e3,rL hxs]⟩) ?_);rintro O M5 v1 MS LC r Z L h_ rfl;replace F:=F.bu r X Z (mC h_);replace hy:=hy.bu r X Z (mC h_);refine bp (cE L (fun _ J v Y=>v= .tuple #[.int .i64 y,.bool true]) (fun O J r=>(Ba (Rel.old r X) (hy.rel r X)).mono fun e Y ⟨v2,e1,e2,e3⟩=>⟨v2,e1,e2,by rw[e3,rL hys]⟩) ?_);rintro O _ v1 _ Kx r Z L h_ rfl;refine bp (cE L (fun _ J v Y=>cI Y (Nf J Y) v (Rat.divInt x y)) (fun O J r=>En x y J (by omega) (by omega) Nt) ?_);rintro O _ _ _ iv r Z L h_ hI;have hR:=hI.df (S:=FF) r.bs (mN h_);obtain⟨b1,a1,m1,c1,b3,a3,m3,c3,rfl⟩:=hR.shape;exact rtn L fun I' we re=>hR.out re (bo w)
theorem Cx(n:Int):Rat.divInt n 1=(n:Rat):=by
 have:=Rat.num_divInt_den (n:Rat);rw[Rat.num_intCast,Rat.den_intCast]at this;exact this
theorem xH(n:Int)(w:World)(A:n.natAbs<1073741824):
  eF PG F'.sx #[.int .i64 n] w (eM w fun v' Y=>cI Y (Nf w Y) v' (n:Rat)):=by
 have L:=bR w;refine wH (by simp) ?_;refine bp (bz (Id:=fun _ J v Y=>fb Y (Nf J Y) v n) (fun O J r=>yo _ J (by omega) (by omega)) ?_);rintro O wa v1 wb r Z M0 hI;replace L:=L.tr M0;have hN:=hI.df (S:=FF) r.bs (iv:=(wa.heap.size,wb.heap.size)::[]) aH;generalize (wa.heap.size,wb.heap.size)::[]=iv at*
 obtain⟨b1,a1,m1,c1,rfl⟩:=hN.shape;refine bp (bz (Id:=fun _ J v Y=>fb Y (Nf J Y) v 1) (fun O J r=>yo _ J (by omega) (by omega)) ?_);rintro O wa v1 MF r Z M0 hI;replace L:=L.tr M0;replace hN:=hN.bu (E:=(wa.heap.size,MF.heap.size)::iv) r (bo w) Z fun x F=>aB _ F;have hD:=hI.df (S:=FF) r.bs (iv:=(wa.heap.size,MF.heap.size)::iv) aH;generalize (wa.heap.size,MF.heap.size)::iv=Kx at*
 obtain⟨b2,a2,m2,c2,rfl⟩:=hD.shape;refine bp (cE L (fun _ J v Y=>cI Y (Nf J Y) v (Rat.divInt n 1)) (fun O J r=>zq (Rel.old r (bo w)) (hN.rel r (bo w)).r (hD.rel r (bo w)).r A (by decide) (by decide)) ?_);rintro O _ _ _ iv r Z L h_ hI;have hR:=hI.df (S:=FF) r.bs (mN h_);obtain⟨b1,a1,m1,c1,b3,a3,m3,c3,rfl⟩:=hR.shape;rw[Cx]at hR;exact rtn L fun I' we re=>hR.out re (bo w)
theorem IK{n1 n2:Bool}{ms:List Nat}(X:Old S w)(F:sR w S v n1 ls)(hy:sR w S u n2 ms):
  eF PG F'.lA #[v,u] w (eM w fun v' _=>v'= .bool (decide (n1=n2/\ls=ms))):=by
 obtain⟨lv,rfl,V⟩:=F;obtain⟨mv,rfl,I⟩:=hy;obtain⟨a,c,rfl,_,ha⟩:=V.sl;obtain⟨b,e,rfl,_,hb⟩:=I.sl;have hle1:=V.le;have hle2:=I.le;have L:=bR w;refine sK (by simp) ?_;refine ct.mk ?_ ?_<;>intro A
 ·have A:n1≠n2:=fun h=>by rw[h]at A;simp at A
  intro O Y r;exact⟨_,rfl,r.cG,by rw[bI (fun h=>A h.1)];rfl⟩
 have A:n1=n2:=by simpa using A
 subst A;refine ct.mk ?_ ?_<;>intro h
 ·have h:ls.length≠ms.length:=fun Z=>by rw[Z]at h;simp at h
  intro O Y r;exact⟨_,rfl,r.cG,by rw[bI (fun e=>h (by rw[e.2]))];rfl⟩
 have h:ls.length=ms.length:=by
  have:(ls.length:Int)=ms.length:=by simpa using h
  omega
 refine⟨Nat×World,fun z=>⟨[(2,pP 0 0),(3,pP 1 0),(5,iZ z.1)],[(1,.box T.Int [.v (.bool n1),.v (.slice b ms.length e)]),(0,.box T.Int [.v (.bool n1),.v (.slice a ls.length c)])],2,[],z.2⟩,fun z=>ls.length-z.1,
  fun z=>z.1<=ls.length/\dO w.heap.size w z.2/\ls.take z.1=ms.take z.1,?_,?_⟩
 ·intro O J r;exact⟨(0,J),⟨by simp,r.cG,by simp⟩,Sub.gn [] r⟩
 rintro⟨i,w1⟩ ⟨N,L,ht⟩;dsimp only at N L ht ⊢;refine ct.mk ?_ ?_<;>intro Kp
 ·have Kp:i<ls.length:=by simpa using Kp
  obtain⟨x,F⟩:∃x,ls[i]? =some x:=⟨_,aA Kp⟩
  obtain⟨y,hy⟩:∃x,ms[i]? =some x:=⟨_,aA (by omega)⟩
  obtain⟨ad,rfl,q1,q2⟩:=ha i x F;obtain⟨ad2,rfl,q3,q4⟩:=hb i y hy;have Lw:∀{H nx iv O J},Rel H nx iv w.heap.size w1 O J->J.cell? (ad.add ((i:Int).toNat*1))=some (.int .u32 x):=fun r=>by
   rw[aG,az];exact lV X L r q1 q2
  have NQ:∀{H nx iv O J},Rel H nx iv w.heap.size w1 O J->J.cell? (ad2.add ((i:Int).toNat*1))=some (.int .u32 y):=fun r=>by
   rw[aG,az];exact lV X L r q3 q4
  refine cC hτ eG [.x 0,.x 1,.x 2,.x 3,.x 4,.x 5,.x 6,.x 7,.x 8,.x 9,.x 10] (by kernel_rfl) (by kernel_rfl) ?_;refine⟨ad,rfl,by omega,.int .u32 x,fun O J r=>Lw r,ad2,rfl,by omega,.int .u32 y,fun O J r=>NQ r,?_⟩;refine ct.mk ?_ ?_<;>intro Kq
  ·have Kq:x≠y:=fun h=>by rw[h]at Kq;simp at Kq
   intro O Y r;refine⟨_,rfl,L.tr r.cG,?_⟩
   rw[bI (fun e=>Kq (by
    have:=e.2;rw[this,hy]at F;injection F with F
    exact F.symm))]
   rfl
  have Kq:x=y:=by
   have:(x:Int)=y:=by simpa using Kq
   omega
  subst Kq;have Ou:ls.take (i+1)=ms.take (i+1):=by rw[List.take_add_one,List.take_add_one,ht,F,hy]
  refine⟨((i+1:Nat):Int),wo,?_⟩;intro In w3 D;exact⟨(i+1,w3),⟨Kp,L.tr D.cG,Ou⟩,Sub.gn [] D,by dsimp only;omega⟩
 have Kp:i=ls.length:=by
  have:¬i<ls.length:=by simpa using Kp
  omega
 subst Kp;rw[bQ,h,bQ]at ht;intro O Y r;exact⟨_,rfl,L.tr r.cG,by rw[bY ⟨rfl,ht⟩];rfl⟩
theorem Eo{a:List Nat}(la:Lm a)(lb:Lm b)(na:Nz a)(nb:Nz b)(h:val a=val b):a=b:=by
 have:a.length=b.length:=by
  rcases Nat.lt_trichotomy a.length b.length with V|V|V
  ·have:=g9 la nb V;omega
  ·exact V
  ·have:=g9 lb na V;omega
 exact val_inj la lb this h
theorem yp{x y:Int}(X:Old S w)(F:fb w S v x)(hy:fb w S u y):
  eF PG F'.lA #[v,u] w (eM w fun v' _=>v'= .bool (decide (x=y))):=by
 obtain⟨ls,V,I,K⟩:=F;obtain⟨ms,k1,k2,k3⟩:=hy;have e:decide (decide (x<0)=decide (y<0)/\ls=ms)=decide (x=y):=by
  refine decide_eq_decide.2 ⟨fun ⟨e1,e2⟩=>?_,fun e1=>?_⟩
  ·have e1:=decide_eq_decide.1 e1;rw[e2]at K;omega
  ·subst e1;obtain⟨_,_,l1⟩:=V;obtain⟨_,_,l2⟩:=k1;exact⟨rfl,Eo l1.lm l2.lm I k2 (by omega)⟩
 exact(IK X V k1).mono fun _ Y ⟨v2,e1,e2,e3⟩=>⟨v2,e1,e2,by rw[e3,e]⟩
theorem Gz{p:Rat}(X:Old S w)(F:cI w S v p)(hy:cI w S u q):
  eF PG F'.vv #[v,u] w (eM w fun v' _=>v'= .bool (decide (p=q))):=by
 obtain⟨b1,a1,n1,c1,b2,a2,n2,c2,rfl⟩:=F.shape;obtain⟨b3,a3,n3,c3,b4,a4,n4,c4,rfl⟩:=hy.shape;refine xX (by simp) ?_;refine bp (bz (Id:=fun _ J v Y=>v= .bool (decide (p.num=q.num))) (fun O J r=>yp (oS X r) (F.num.br fun g R=>r.cG.block g (X g R)) (hy.num.br fun g R=>r.cG.block g (X g R))) ?_);rintro O wa v1 wb r Z hb rfl;have L:=hb;generalize (wa.heap.size,wb.heap.size)::[]=iv at*
 refine ct.mk ?_ ?_<;>intro h
 ·have h:=aL h;refine bp (cE L (fun _ J v Y=>v= .bool (decide ((p.den:Int)=q.den))) (fun O J r=>yp (oS X r) (F.den.br (kS L r X)) (hy.den.br (kS L r X))) ?_);rintro O _ _ _ Kx r Z L h_ rfl;intro I' we re;refine⟨_,rfl,L.tr re.cG,?_⟩;have:decide (p=q)=decide ((p.den:Int)=q.den):=decide_eq_decide.2 ⟨fun e=>by rw[e],fun e=>Rat.ext h (by omega)⟩;rw[this];rfl
 ·have h:=aI h;intro I' we re;refine⟨_,rfl,L.tr re.cG,?_⟩;rw[bI (fun e=>h (by rw[e]))];rfl
theorem cI.yT{b b2:Bool}{a a2:Option Addr}{n c n2 c2:Nat}(h:cI w S (.agg #[.bool b,.slice a n c,.bool b2,.slice a2 n2 c2]) q):iB w S [.bool b,.slice a n c,.bool b2,.slice a2 n2 c2] q:=
 ⟨b,a,n,c,b2,a2,n2,c2,rfl,h⟩
theorem Rel.lt(r:Rel H nx iv B w O J){id t:Nat}{G:List At}(h:cO H id=some (.box t G)):(O id).g<J.heap.size:=(r.low id _ h (r.nn id _ h (by intros;simp) (by simp))).2
end Go.Ex
namespace Go.Ex
end Go.Ex
namespace Go.Ex
open Go Go.Sx Go.Proofs
variable{ls:List Nat}
theorem HG{k:Nat}(h:Lm ls)(hl:ls.length<=k):ln (val ls)<=k:=fc.2 (Nat.lt_of_lt_of_le (mB h) (yA hl))
end Go.Ex
