/- Texts X30 to X52b: lemmas, each with its conditions. -/
import Derived.Test.YtgkpbdkechfgmaaGreatP4
namespace Go.Ex
open Go Go.Sx Go.Proofs
variable{qs:List Rat}{xs:List Value}{i:Nat}{O:Nat->Sx.da}{row:Option Nat}{q:Rat}
def Lq(w:World)(S:Nat->Prop)(L:List Value)(q:Rat):Prop:=∃b a n c b2 a2 n2 c2,L=(rC b a n c b2 a2 n2 c2)/\dM w S (.agg #[.bool b,.slice a n c,.bool b2,.slice a2 n2 c2]) q
def Fr(w:World)(S:Nat->Prop)(W:List (List Value))(qs:List Rat):Prop:=W.length=qs.length/\∀(j:Nat) L q,W[j]? =some L->qs[j]? =some q->Lq w S L q
section
variable{S S':Nat->Prop}{w I:World}{L:List Value}{W:List (List Value)}{q:Rat}{qs:List Rat}
end
section
variable{S S':Nat->Prop}{H:Hp}{nx:Nat}{iv K:Iv}{B:Nat}{w J I:World}{O:Nat->Sx.da}{W:List (List Value)}{qs:List Rat}
end
theorem gW:∀{W:List (List Value)},(∀L∈W,L.length=4)->W.flatten.length=W.length*4
 |[],_=>rfl
 |c::r,h=>by
  rw[List.flatten_cons,aL,gW (fun L hc=>h L (aA _ hc)),h c aI,bO];omega
theorem flat_get:∀{W:List (List Value)} {j:Nat} {L:List Value},(∀L∈W,L.length=4)->W[j]? =some L->∀k u,L[k]? =some u->W.flatten[j*4+k]? =some u
 |[],j,L,_,hj,_,_,_=>by simp at hj
 |c::r,0,L,h,hj,k,u,hu=>by
  simp at hj;subst hj;rw[List.flatten_cons,aK (by have:=(aD.1 hu).1;omega)];simpa using hu
 |c::r,j+1,L,h,hj,k,u,hu=>by
  have hc:=h c aI;rw[List.flatten_cons,aQ be,hc,show(j+1)*4+k-4=j*4+k by omega];exact flat_get (fun L hc=>h L (aA _ hc)) (by simpa using hj) k u hu
theorem jr:∀{W:List (List Value)} {j:Nat} {L:List Value},(∀L∈W,L.length=4)->j<W.length->W.flatten.take (j*4)++L++W.flatten.drop (j*4+4)=(W.set j L).flatten
 |[],j,L,_,hj=>by simp at hj
 |c::r,0,L,h,_=>by
  have hc:=h c aI;simp[List.flatten_cons,hc]
 |c::r,j+1,L,h,hj=>by
  have hc:=h c aI
  rw[List.flatten_cons,show(j+1)*4=c.length+j*4 by omega,List.take_length_add_append,show c.length+j*4+4=c.length+(j*4+4) by omega,List.drop_length_add_append,List.set_cons_succ,List.flatten_cons,
   <-jr (fun L hc=>h L (aA _ hc)) (by simpa using hj),bI,bI,bI]
abbrev Out(B:Nat)(iv:Iv):Nat->Prop:=Cv (fun g=>g<B) B iv
theorem ni{H:Hp}{nx:Nat}{iv:Iv}{B Bc e sz m:Nat}{w J:World}{v:Value}(h:w.ownsRow Bc e sz v m xs)(hc:∀g,v.ownBlock=some g->Out B iv g)(r:Rel H nx iv B w O J):J.ownsRow Bc e sz v m xs:=
 ownsRow.cK h fun b hb=>rls r (fun _ h=>h) (hc b hb)
theorem gG{w w1 I:World}(h:w.grownBy w1 row)(k:jv w.heap.size w1 I):w.grownBy I row:=
 ⟨k.os.trans h.os,k.tape.trans h.tape,k.output.trans h.output,bB h.size k.size,fun b hb Z=>(k.block b hb).trans (h.block b hb Z)⟩
def g9(i:Nat)(f:Nat->Rat->Rat)(qs:List Rat):List Rat:=qs.mapIdx fun j q=>if j<i then f j q else q
theorem sA(f:Nat->Rat->Rat)(qs:List Rat):g9 0 f qs=qs:=by
 apply bY;intro j;simp[g9]
theorem uu(f:Nat->Rat->Rat)(qs:List Rat):g9 qs.length f qs=qs.mapIdx f:=by
 apply bY;intro j;simp only[g9,List.getElem?_mapIdx]
 cases h:qs[j]? with
 |none=>rfl
 |some q=>simp[(aD.1 h).1]
theorem nk{f:Nat->Rat->Rat}(h:qs[i]? =some q):(g9 i f qs).set i (f i q)=g9 (i+1) f qs:=by
 apply bY;intro j;have D:=(aD.1 h).1;by_cases PR:i=j
 .subst PR;rw[aW (by simp[g9];exact D)];simp[g9,List.getElem?_mapIdx,h]
 .rw[bC PR];simp only[g9,List.getElem?_mapIdx]
  have:(j<i)↔(j<i+1):=by omega
  simp[this]
theorem FJ{f:Nat->Rat->Rat}(h:qs[i]? =some q)(hf:f i q=q):g9 i f qs=g9 (i+1) f qs:=by
 rw[<-nk h,hf];apply bY;intro j;have D:=(aD.1 h).1;by_cases PR:i=j
 .subst PR;rw[aW (by simp[g9];exact D)];simp[g9,List.getElem?_mapIdx,h]
 .rw[bC PR]
theorem zP{f:Nat->Rat->Rat}(h:qs[i]? =some q):(g9 i f qs)[i]? =some q:=by
 simp only[g9,List.getElem?_mapIdx,h]
 simp
section
variable{C C' S S':Nat->Prop}{H:Hp}{nx:Nat}{iv K:Iv}{B:Nat}{w J I:World}{O:Nat->Sx.da}{v:Value}{qs:List Rat}
end
end Go.Ex
namespace Go.Ex
variable{M:List (List Rat)}{s:List (List Rat)×List Nat}{r:List Rat}{i:Nat}
def dB(M:List (List Rat))(i c:Nat):Rat:=(M.getD i []).getD c 0
def iD(M:List (List Rat))(c:Nat):Nat->Nat->Nat
 |0,k=>k
 |f+1,k=>if dB M k c=0 then iD M c f (k+1)else k
def jU{α:Type}(d:α)(l:List α)(i j:Nat):List α:=(l.set i (l.getD j d)).set j (l.getD i d)
def xp(p:Rat)(ps:List Rat)(j:Nat)(q:Rat):Rat:=q+p*ps.getD j 0
def iE(M:List (List Rat))(at_ c i:Nat):List (List Rat):=M.mapIdx fun j r=>if j<i/\j≠at_ then r.mapIdx (xp (-(r.getD c 0)) (M.getD at_ []))else r
def scaled(M:List (List Rat))(at_ c:Nat):List (List Rat):=M.set at_ ((M.getD at_ []).map (· *(1 / dB M at_ c)))
def dh(s:List (List Rat)×List Nat)(c:Nat):List (List Rat)×List Nat:=
 if s.2.length<s.1.length then
  let k:=iD s.1 c (s.1.length-s.2.length) s.2.length
  if k=s.1.length then s else
   let M1:=scaled (jU [] s.1 s.2.length k) s.2.length c
   (iE M1 s.2.length c M1.length,s.2++[c])
 else s
def cL(M:List (List Rat))(cols:Nat):List (List Rat)×List Nat:=(List.range cols).foldl dh (M,[])
theorem kN{α:Type}(d:α)(l:List α)(i j:Nat):(jU d l i j).length=l.length:=by simp[jU]
theorem y9(M:List (List Rat))(a c i:Nat):(iE M a c i).length=M.length:=by simp[iE]
theorem qf(M:List (List Rat))(a c:Nat):(scaled M a c).length=M.length:=by simp[scaled]
theorem nI(s:List (List Rat)×List Nat)(c:Nat):(dh s c).1.length=s.1.length:=by
 unfold dh;split
 .dsimp only
  split
  .rfl
  .dsimp only
   rw[y9,qf,kN]
 .rfl
theorem xn(M:List (List Rat))(c:Nat):∀f k,k<=iD M c f k/\iD M c f k<=k+f
 |0,k=>⟨aN _,aN _⟩
 |f+1,k=>by
  unfold iD;split
  .have:=xn M c f (k+1);omega
  .omega
theorem xo(M:List (List Rat))(c:Nat):∀f k,iD M c f k<k+f->dB M (iD M c f k) c≠0
 |0,k,h=>by simp[iD]at h
 |f+1,k,h=>by
  unfold iD at h ⊢;split
  .rename_i h0;rw[aH h0]at h;exact xo M c f (k+1) be
  .rename_i h0;exact h0
theorem Ei{c f k:Nat}(h:dB M k c=0):iD M c (f+1) k=iD M c f (k+1):=by rw[iD,aH h]
theorem El{c f k:Nat}(h:dB M k c≠0):iD M c (f+1) k=k:=by rw[iD,aF h]
theorem Em(M:List (List Rat))(a c i:Nat):(iE M a c i)[a]? =M[a]? :=by
 simp only[iE,List.getElem?_mapIdx]
 cases M[a]? <;>simp
def Ht(M:List (List Rat))(h:Nat):Prop:=∀r∈M,∀q∈r,rl q+1<=h
theorem Gc{h:Nat}(H:∀q∈r,rl q+1<=h)(X:2<=h)(c:Nat):rl (r.getD c 0)+1<=h:=by
 rw[List.getD]
 cases hc:r[c]? with
 |none=>simp;exact bB bi X
 |some q=>simp;exact H q (aG hc)
theorem Am{j:Nat}(D:i<M.length)(hj:j<M.length):(jU [] M i j)[i]? =M[j]? :=by
 unfold jU;by_cases h:j=i
 .subst h;rw[aW (by simpa using D),List.getD,aB D];rfl
 .rw[bC h,aW D,List.getD,aB hj];rfl
theorem I2{j c:Nat}(D:i<M.length)(hj:j<M.length):dB (jU [] M i j) i c=dB M j c:=by
 simp only[dB,List.getD,Am D hj]
def gD(n:Nat)(M:List (List Rat)):Prop:=∀r∈M,r.length=n
theorem gD.set{n:Nat}(h:gD n M)(hr:r.length=n):gD n (M.set i r):=fun x G=>by
 rcases b9 G with Y|Y
 .exact h x Y
 .rw[Y];exact hr
theorem gD.getD{n:Nat}(h:gD n M)(D:i<M.length):(M.getD i []).length=n:=by
 rw[List.getD,aB D];exact h _ (a9 D)
theorem gD.step{n c:Nat}(h:gD n s.1):gD n (dh s c).1:=by
 unfold dh;split
 .rename_i OT;dsimp only
  split
  .exact h
  .rename_i E;have hle:=xn s.1 c (s.1.length-s.2.length) s.2.length;have hkl:iD s.1 c (s.1.length-s.2.length) s.2.length<s.1.length:=by omega
   dsimp only
   generalize iD s.1 c (s.1.length-s.2.length) s.2.length=k at*
   have Y:gD n (jU [] s.1 s.2.length k):=(h.set (h.getD hkl)).set (h.getD OT);have X:gD n (scaled (jU [] s.1 s.2.length k) s.2.length c):=Y.set (by rw[aM];exact Y.getD (by rw[kN];exact OT));intro r hr;obtain⟨j,hj⟩:=aT hr;simp only[iE,List.getElem?_mapIdx,Option.map_eq_some_iff]at hj;obtain⟨r0,hr0,hj⟩:=hj;have N:=X r0 (aG hr0);split at hj
   .subst hj;rw[List.length_mapIdx];exact N
   .subst hj;exact N
 .exact h
end Go.Ex
namespace Go.Ex
open Go Go.Sx Go.Proofs
structure NA(w:World)(S:Nat->Prop)(vm:Value)(rv:List Value)(n:Nat)(M:List (List Rat)):Prop where
 out:w.ownsRow 0 T.row 1 vm rv.length rv
 len:rv.length=M.length
 row:∀(i:Nat) v qs,rv[i]? =some v->M[i]? =some qs->∃W,w.ownsRow 0 T.De 4 v n W.flatten/\W.length=n/\Fr w S W qs
 ES:∀(i j:Nat) a b g,rv[i]? =some a->rv[j]? =some b->a.ownBlock=some g->b.ownBlock=some g->i=j
 aAN:∀v∈rv,∀g,v.ownBlock=some g->vm.ownBlock≠some g
def Mb(vm:Value)(rv:List Value)(g:Nat):Prop:=vm.ownBlock=some g\/∃v∈rv,v.ownBlock=some g
structure Kept(w I:World)(C8:Nat->Prop):Prop where
 os:I.os=w.os
 tape:I.tape=w.tape
 output:I.output=w.output
 size:w.heap.size<=I.heap.size
 block:∀k,k<w.heap.size->¬C8 k->I.heap[k]? =w.heap[k]?
section
variable{S S' C8:Nat->Prop}{H:Hp}{nx n:Nat}{iv K:Iv}{B:Nat}{w J I w3:World}{O:Nat->Sx.da}{vm:Value}{rv:List Value}{M:List (List Rat)}
end
end Go.Ex
namespace Go.Sx
open Go Go.Ex Go.Proofs
section
variable{O:Nat->Sx.da}{row:Option Nat}
theorem Rel.Ds{H:Hp}{nx:Nat}{iv:Iv}{B:Nat}{w J I:World}(r:Rel H nx iv B w O J)(OB:∀g,row=some g->∀id b,cw H id=some b->(O id).nil=false->(O id).g≠g)(h:J.grownBy I row):Rel H nx ((J.heap.size,I.heap.size)::iv) B I O I:=
 r.Cz h.size (fun id b hb Z=>h.block _ (r.low id b hb Z).2 fun e=>OB _ e.symm id b hb Z rfl) fun lo D hm=>by
  rcases List.mem_cons.1 hm with e|hm
  .injection e with e1 e2;subst e1 e2;exact⟨lr,fun id b hb Z=>by have:=(r.low id b hb Z).2;omega⟩
  .exact⟨by have:=r.sN lo D hm;have:=r.size;have:=h.size;omega,fun id b hb Z=>r.kI lo D hm id b hb Z⟩
end
variable{O:Nat->Sx.da}
theorem Sub.nil{B nx:Nat}{l:Env}{H:Hp}{iv:Iv}{w J:World}{t:Ai}(u e sz:Nat)(h9:fO l u=some (sV none 0 0))(Re:kL nx l)(r:Rel H nx iv B w O J)
  (h:∀Id,Rel ((nx,.vec e sz [])::H) (nx+1) iv B w Id J->Sx.Sub B ((u,.o (.w nx 0))::l) (nx+1) Id J t):Sx.Sub B l nx O J t:=by
 have r1:=r.push (.vec e sz []) ⟨0,0,true⟩ (I:=J) rfl rfl rfl lr (fun _ _=>rfl) (fun h=>by cases h) (.inl ⟨rfl,rfl⟩) trivial;obtain⟨G8,Y,X⟩:=h _ r1;refine⟨G8,Y,fun x v hv=>?_⟩;obtain⟨N,v0,h4,h5⟩:=X x v hv;refine⟨N,?_⟩;rw[eW]at h4;split at h4
 .rename_i e;subst e;injection h4 with h4;subst h4;refine⟨_,h9,?_⟩;rw[<-h5];simp[SV.den,At.den,eh]
 .refine⟨v0,h4,?_⟩;rw[<-h5];exact SV.j6 (fun id Oh=>gS id Oh) (Re.get _ _ h4)
end Go.Sx
namespace Go.Ex
open Go Go.Sx Go.Proofs
structure aAJ(w:World)(S:Nat->Prop)(rv:List Value)(n:Nat)(M:List (List Rat))(gm k c g ck:Nat)(q:Rat)(d1:Bool)(e1:Option Addr)(m1 k1:Nat)(d2:Bool)(e2:Option Addr)(m2 k2:Nat):Prop where
 rv:rv[k]? =some (.slice (some ⟨g,0,none⟩) n ck)
 at_:dB M k c=q
 aAO:dM w S (.agg #[.bool d1,.slice e1 m1 k1,.bool d2,.slice e2 m2 k2]) q
 outer:w.cell? (Addr.add ⟨gm,0,none⟩ (k*1))=some (.slice (some ⟨g,0,none⟩) n ck)
 cells:∀j u,[Value.bool d1,.slice e1 m1 k1,.bool d2,.slice e2 m2 k2][j]? =some u->w.cell? ((Addr.add ⟨g,0,none⟩ (c*4)).add j)=some u
theorem LN{α:Type}{xs:List α}{j:Nat}{v:α}(h:j<xs.length):xs.take (j*1)++[v]++xs.drop (j*1+1)=xs.set j v:=by
 rw[aw,List.set_eq_take_append_cons_drop,aH h];simp
variable{F8 M:List (List Rat)}{ps pv:List Nat}{S:Nat->Prop}{v:Value}{w:World}
def Ma(w:World)(S:Nat->Prop)(v:Value)(n:Nat)(qs:List Rat):Prop:=∃W,w.ownsRow 0 T.De 4 v n W.flatten/\W.length=n/\Fr w S W qs
section
variable{S S' C:Nat->Prop}{H:Hp}{nx n:Nat}{iv K:Iv}{B:Nat}{w J I:World}{O:Nat->Sx.da}{v:Value}{qs:List Rat}
structure aAP(w:World)(S:Nat->Prop)(B:Nat)(iv:Iv)(v:Value)(n:Nat)(qs:List Rat):Prop where
 row:Ma w (fun g=>Cv S B iv g/\v.ownBlock≠some g) v n qs
 new:∀g,v.ownBlock=some g->Cv FF B iv g
def Nl(w:World)(S:Nat->Prop)(L:List Value)(x:Int×Int):Prop:=∃b a n c b2 a2 n2 c2,L=(rC b a n c b2 a2 n2 c2)/\iC w S (.agg #[.bool b,.slice a n c,.bool b2,.slice a2 n2 c2]) x.1 x.2
def eM{α:Type}(P:World->(Nat->Prop)->List Value->α->Prop)(w:World)(S:Nat->Prop)(v:Value)(xs:List α):Prop:=
 ∃W:List (List Value),jW w S 4 v W.flatten xs.length/\W.length=xs.length/\(∀L∈W,L.length=4)/\∀(j:Nat) L x,W[j]? =some L->xs[j]? =some x->P w S L x
theorem eM.shape{α:Type}{P:World->(Nat->Prop)->List Value->α->Prop}{xs:List α}(h:eM P w S v xs):∃a c,v= .slice a xs.length c/\xs.length<=c/\xs.length<=maxLen:=by
 obtain⟨W,⟨h0,_,_,a,c,Y,X,_⟩,_⟩:=h;exact⟨a,c,Y,X,h0⟩
theorem eM.load{α:Type}{P:World->(Nat->Prop)->List Value->α->Prop}{xs:List α}{a:Option Addr}{m c j:Nat}{x:α}(h:eM P w S (.slice a m c) xs)(hq:xs[j]? =some x):
  ∃ad L,a=some ad/\P w S L x/\L.length=4/\∀k u,L[k]? =some u->S ad.block/\w.cell? ((ad.add (j*4)).add k)=some u:=by
 obtain⟨W,⟨h0,Y,X,a',c',e,N,h4⟩,hl,hl4,hf⟩:=h;injection e with e1 e2 e3;subst e1;obtain⟨L,Of⟩:∃L,W[j]? =some L:=⟨_,aB (by rw[hl];exact(aD.1 hq).1)⟩
 have hF:=hf j L x Of hq;have SN:=hl4 L (aG Of);obtain⟨ad,k1,k2,k3⟩:=h4 (j*4+0) _ (flat_get hl4 Of 0 _ (aB (show 0<L.length by omega)));refine⟨ad,L,k1,hF,SN,fun k u hu=>?_⟩;obtain⟨ad2,m1,m2,m3⟩:=h4 (j*4+k) u (flat_get hl4 Of k u hu);rw[k1]at m1;injection m1 with m1;subst m1;refine⟨m2,?_⟩;rw[<-m3];have:(ad.add (j*4)).add k=ad.add (j*4+k):=by
  unfold Addr.add;split<;>split<;>simp_all<;>omega
 rw[this]
def eH{α:Type}(P:World->(Nat->Prop)->Value->α->Prop)(w:World)(S:Nat->Prop)(v:Value)(M:List α):Prop:=
 ∃rv,jW w S 1 v rv M.length/\rv.length=M.length/\∀(i:Nat) u x,rv[i]? =some u->M[i]? =some x->P w S u x
theorem eH.shape{α:Type}{P:World->(Nat->Prop)->Value->α->Prop}{xs:List α}(h:eH P w S v xs):∃a c,v= .slice a xs.length c/\xs.length<=c/\xs.length<=maxLen:=by
 obtain⟨rv,⟨h0,_,_,a,c,Y,X,_⟩,_⟩:=h;exact⟨a,c,Y,X,h0⟩
theorem eH.load{α:Type}{P:World->(Nat->Prop)->Value->α->Prop}{xs:List α}{a:Option Addr}{m c j:Nat}{x:α}(h:eH P w S (.slice a m c) xs)(hq:xs[j]? =some x):
  ∃ad u,a=some ad/\P w S u x/\S ad.block/\w.cell? (ad.add (j*1))=some u:=by
 obtain⟨rv,⟨h0,Y,X,a',c',e,N,h4⟩,hl,hf⟩:=h;injection e with e1 e2 e3;subst e1;obtain⟨u,hu⟩:∃u,rv[j]? =some u:=⟨_,aB (by rw[hl];exact(aD.1 hq).1)⟩
 obtain⟨ad,k1,k2,k3⟩:=h4 j u hu;exact⟨ad,u,k1,hf j u x hu hq,k2,by rw[aw];exact k3⟩
end
section
variable{S S':Nat->Prop}{H:Hp}{nx:Nat}{iv K:Iv}{B:Nat}{w J I:World}{O:Nat->Sx.da}{v:Value}{xs:List (Int×Int)}
end
section
variable{S S':Nat->Prop}{H:Hp}{nx:Nat}{iv K:Iv}{B:Nat}{w J I:World}{O:Nat->Sx.da}{v:Value}{M:List (List (Int×Int))}
end
section
variable{S S':Nat->Prop}{H:Hp}{nx:Nat}{iv K:Iv}{B:Nat}{w J I:World}{O:Nat->Sx.da}{v:Value}{M:List (List Rat)}
end
def f0:List Value:=[.bool false,nls,.bool false,nls]
structure aAQ(w:World)(S:Nat->Prop)(n i:Nat)(W:List (List Value))(qs:List Rat):Prop where
 len:W.length=n
 four:∀L∈W,L.length=4
 one:∀L∈W,∀u∈L,u.oneCell'=true
 at_:∀(j:Nat) L q,j<i->W[j]? =some L->qs[j]? =some q->Lq w S L q
section
variable{S S':Nat->Prop}{H:Hp}{nx n i:Nat}{iv K:Iv}{B:Nat}{w w1 J I:World}{O:Nat->Sx.da}{W:List (List Value)}{qs:List Rat}
end
structure aAK(w:World)(S:Nat->Prop)(B:Nat)(iv:Iv)(rv:List Value)(n:Nat)(M:List (List Rat)):Prop where
 len:rv.length=M.length
 row:∀(i:Nat) v qs,rv[i]? =some v->M[i]? =some qs->Ma w (fun g=>Cv S B iv g/\¬ ∃u∈rv,u.ownBlock=some g) v n qs
 ES:∀(i j:Nat) a b g,rv[i]? =some a->rv[j]? =some b->a.ownBlock=some g->b.ownBlock=some g->i=j
 new:∀v∈rv,∀g,v.ownBlock=some g->Cv FF B iv g
theorem iH(B:Nat):∀g,(fun _:Nat=>False) g->g<B:=fun _ h=>h.elim
theorem KW{B:Nat}{iv:Iv}{g:Nat}(h:Cv FF B iv g):Cv S B iv g:=h.elim (fun h=>h.elim) .inr
section
variable{S S':Nat->Prop}{H:Hp}{nx n i:Nat}{iv K:Iv}{B:Nat}{w w1 J I:World}{O:Nat->Sx.da}{rv:List Value}{M:List (List Rat)}
structure aAR(w:World)(S:Nat->Prop)(B:Nat)(iv:Iv)(vm:Value)(n:Nat)(M:List (List Rat)):Prop where
 ex:∃rv,NA w (fun g=>Cv S B iv g/\¬Mb vm rv g) vm rv n M/\∀g,Mb vm rv g->Cv FF B iv g
end
def dT(w:World)(S:Nat->Prop)(v:Value)(ps:List Nat):Prop:=jW w S 1 v (ps.map fun c:Nat=>iV (c:Int)) ps.length
theorem dT.cK{I:World}(h:dT w S v ps)(E:∀g,S g->I.heap[g]? =w.heap[g]?):dT I S v ps:=jW.cK h E
theorem dT.cF{S':Nat->Prop}(h:dT w S v ps)(E:∀g,S g->S' g):dT w S' v ps:=jW.cF h E
section
variable{S S':Nat->Prop}{H:Hp}{nx:Nat}{iv K:Iv}{B:Nat}{w J I:World}{O:Nat->Sx.da}{v:Value}{ps:List Nat}
theorem dT.rel(h:dT w (Cv S B iv) v ps)(r:Rel H nx iv B w O J)(U:∀g,S g->g<B):dT J (Cv S B iv) v ps:=dT.cK h fun _ F=>rls r U F
theorem dT.iR(h:dT I (Nf J I) v ps)(hB:B<=J.heap.size)(hm:(J.heap.size,I.heap.size)∈iv):dT I (Cv S B iv) v ps:=dT.cF h fun _ F=>F.iR hB hm
end
section
variable{S S':Nat->Prop}{H:Hp}{nx n:Nat}{iv K:Iv}{B:Nat}{w J I:World}{O:Nat->Sx.da}{v:Value}{qs:List Rat}
end
def ff(F8:List (List Rat))(pv:List Nat)(cols c i:Nat):List Rat:=(List.range i).foldl (fun x i=>x.set (pv.getD i 0) (-(dB F8 i c))) ((List.replicate cols 0).set c 1)
def eK(F8:List (List Rat))(pv:List Nat)(cols c:Nat):List (List Rat):=((List.range c).filter fun c=>decide (c∉pv)).map fun c=>ff F8 pv cols c pv.length
theorem gY(F8:List (List Rat))(pv:List Nat)(cols c i:Nat):ff F8 pv cols c (i+1)=(ff F8 pv cols c i).set (pv.getD i 0) (-(dB F8 i c)):=by
 rw[ff,bZ,List.foldl_append];rfl
theorem jc(F8:List (List Rat))(pv:List Nat)(cols c i:Nat):(ff F8 pv cols c i).length=cols:=by
 induction i with
 |zero=>simp[ff]
 |succ i ih=>rw[gY,bm,ih]
theorem Dv{cols c:Nat}(h:c∈pv):eK F8 pv cols (c+1)=eK F8 pv cols c:=by
 rw[eK,bZ,List.filter_append];simp[h,eK]
theorem CK{cols c:Nat}(h:c∉pv):eK F8 pv cols (c+1)=eK F8 pv cols c++[ff F8 pv cols c pv.length]:=by
 rw[eK,bZ,List.filter_append];simp[h,eK]
def gT(F8:List (List Rat))(pv:List Nat)(cols i:Nat):List Rat:=(List.range i).foldl (fun x i=>x.set (pv.getD i 0) (dB F8 i cols)) (List.replicate cols 0)
theorem gZ(F8:List (List Rat))(pv:List Nat)(cols i:Nat):gT F8 pv cols (i+1)=(gT F8 pv cols i).set (pv.getD i 0) (dB F8 i cols):=by
 rw[gT,bZ,List.foldl_append];rfl
structure aAL(w:World)(B:Nat)(iv:Iv)(rv:List Value)(v:Value)(n:Nat)(qs:List Rat):Prop where
 row:Ma w (fun g=>(Cv FF B iv g/\¬ ∃u∈rv,u.ownBlock=some g)/\v.ownBlock≠some g) v n qs
 Aa:∀g,v.ownBlock=some g->Cv FF B iv g
section
variable{H:Hp}{nx n:Nat}{iv K:Iv}{B:Nat}{w J I:World}{O:Nat->Sx.da}{v:Value}{qs:List Rat}{rv:List Value}
end
def jV(w:World)(S:Nat->Prop)(L:List Value)(q:Rat):Prop:=∃b a n c b2 a2 n2 c2,L=(rC b a n c b2 a2 n2 c2)/\cY w S (.agg #[.bool b,.slice a n c,.bool b2,.slice a2 n2 c2]) q
abbrev cP:=eM jV
abbrev cT:=eH cP
section
variable{S S':Nat->Prop}{H:Hp}{nx:Nat}{iv K:Iv}{B:Nat}{w J I:World}{O:Nat->Sx.da}{v:Value}{qs:List Rat}{L:List Value}{q:Rat}
theorem jV.cK(h:jV w S L q)(E:∀g,S g->I.heap[g]? =w.heap[g]?):jV I S L q:=by
 obtain⟨b,a,n,c,b2,a2,n2,c2,Y,X⟩:=h;exact⟨b,a,n,c,b2,a2,n2,c2,Y,X.cK E⟩
theorem jV.cF(h:jV w S L q)(E:∀g,S g->S' g):jV w S' L q:=by
 obtain⟨b,a,n,c,b2,a2,n2,c2,Y,X⟩:=h;exact⟨b,a,n,c,b2,a2,n2,c2,Y,X.cF E⟩
theorem cP.cK(h:cP w S v qs)(E:∀g,S g->I.heap[g]? =w.heap[g]?):cP I S v qs:=by
 obtain⟨W,Y,X,N,h4⟩:=h;exact⟨W,Y.cK E,X,N,fun j L x k1 k2=>(h4 j L x k1 k2).cK E⟩
theorem cP.cF(h:cP w S v qs)(E:∀g,S g->S' g):cP w S' v qs:=by
 obtain⟨W,Y,X,N,h4⟩:=h;exact⟨W,Y.cF E,X,N,fun j L x k1 k2=>(h4 j L x k1 k2).cF E⟩
theorem cT.cK(h:cT w S v M)(E:∀g,S g->I.heap[g]? =w.heap[g]?):cT I S v M:=by
 obtain⟨rv,Y,X,N⟩:=h;exact⟨rv,Y.cK E,X,fun i u x k1 k2=>cP.cK (N i u x k1 k2) E⟩
theorem cT.cF(h:cT w S v M)(E:∀g,S g->S' g):cT w S' v M:=by
 obtain⟨rv,Y,X,N⟩:=h;exact⟨rv,Y.cF E,X,fun i u x k1 k2=>cP.cF (N i u x k1 k2) E⟩
end
section
variable{S S':Nat->Prop}{H:Hp}{nx:Nat}{iv K:Iv}{B:Nat}{w J I:World}{O:Nat->Sx.da}{v:Value}{qs:List Rat}
theorem cP.rel(h:cP w (Cv S B iv) v qs)(r:Rel H nx iv B w O J)(U:∀g,S g->g<B):cP J (Cv S B iv) v qs:=cP.cK h fun _ F=>rls r U F
theorem cP.cH(h:cP w (Cv S B iv) v qs)(r:Rel H nx iv B w O J)(U:∀g,S g->g<B)(R:Ext J I)(hm:∀p,p∈iv->p∈K):cP I (Cv S B K) v qs:=
 cP.cF (cP.cK (cP.rel h r U) fun g F=>R.block g (rlo r U g F)) fun _ F=>F.mono hm
theorem cP.iR(h:cP I (Nf J I) v qs)(hB:B<=J.heap.size)(hm:(J.heap.size,I.heap.size)∈iv):cP I (Cv S B iv) v qs:=cP.cF h fun _ F=>F.iR hB hm
theorem cP.out{w0 w1:World}(h:cP w1 (Cv S w0.heap.size iv) v qs)(r:Rel H nx iv w0.heap.size w1 O J)(U:Old S w0):cP J (Nw S w0 J) v qs:=
 cP.cF (cP.rel h r U) fun _ F=>Cv.nw F r
end
section
variable{S S':Nat->Prop}{H:Hp}{nx:Nat}{iv K:Iv}{B:Nat}{w J I:World}{O:Nat->Sx.da}{v:Value}{M:List (List Rat)}
theorem cT.rel(h:cT w (Cv S B iv) v M)(r:Rel H nx iv B w O J)(U:∀g,S g->g<B):cT J (Cv S B iv) v M:=cT.cK h fun _ F=>rls r U F
theorem cT.cH(h:cT w (Cv S B iv) v M)(r:Rel H nx iv B w O J)(U:∀g,S g->g<B)(R:Ext J I)(hm:∀p,p∈iv->p∈K):cT I (Cv S B K) v M:=
 cT.cF (cT.cK (cT.rel h r U) fun g F=>R.block g (rlo r U g F)) fun _ F=>F.mono hm
theorem cT.iR(h:cT I (Nf J I) v M)(hB:B<=J.heap.size)(hm:(J.heap.size,I.heap.size)∈iv):cT I (Cv S B iv) v M:=cT.cF h fun _ F=>F.iR hB hm
theorem cT.old(h:cT I (Nw (Cv S B iv) J I) v M)(hB:B<=J.heap.size):cT I (Cv S B ((J.heap.size,I.heap.size)::iv)) v M:=cT.cF h fun _ F=>Nw.cv F hB
end
theorem jd(F8:List (List Rat))(pv:List Nat)(cols i:Nat):(gT F8 pv cols i).length=cols:=by
 induction i with
 |zero=>simp[gT]
 |succ i ih=>rw[gZ,bm,ih]
theorem Du(F8:List (List Rat))(pv:List Nat)(cols c:Nat):(eK F8 pv cols c).length<=c:=by
 unfold eK;rw[aM];exact bB (List.length_filter_le _ _) bv
end Go.Ex
namespace Go.Ex
variable{ds:List Nat}
def dI:List Int->Int
 |[]=>0
 |c::r=>c+65536*dI r
def up(k:Nat):Int:=65536^k
theorem Bp(k:Nat):up (k+1)=65536*up k:=by rw[up,Int.pow_succ,Int.mul_comm];rfl
theorem JJ(k:Nat):0<up k:=Int.pow_pos bi
theorem zu(a b:List Int):dI (a++b)=dI a+up a.length*dI b:=by
 induction a with
 |nil=>simp[dI,up]
 |cons c r ih=>rw[List.cons_append,dI,ih,dI,bO,Bp,Int.mul_add,<-Int.mul_assoc];omega
theorem FB(a:List Int):dI (a.map (- ·))= -dI a:=by
 induction a with
 |nil=>rfl
 |cons c r ih=>rw[List.map_cons,dI,ih,dI];omega
def Dg(l:List Nat):Prop:=∀d∈l,d<65536
def lL(l:List Nat):Int:=dI (l.map fun d:Nat=>(d:Int))
theorem ya{l:List Nat}(h:Dg l):0<=lL l/\lL l<up l.length:=by
 induction l with
 |nil=>exact⟨Int.le_refl _,bi⟩
 |cons d r ih=>
  have Y:=ih fun x G=>h x (aA _ G);have X:=h d aI;have e:lL (d::r)=(d:Int)+65536*lL r:=rfl;rw[e,bO,Bp];omega
def dQ:List Int->Int->List Nat×Int
 |[],k=>([],k)
 |c::r,k=>(((c+k) % 65536).toNat::(dQ r ((c+k) / 65536)).1,(dQ r ((c+k) / 65536)).2)
theorem kP:∀(L:List Int) (k:Int),dI L+k=lL (dQ L k).1+up L.length*(dQ L k).2/\Dg (dQ L k).1/\(dQ L k).1.length=L.length
 |[],k=>⟨by simp[dI,dQ,lL,up],by simp[dQ,Dg],rfl⟩
 |c::r,k=>by
  obtain⟨Y,X,N⟩:=kP r ((c+k) / 65536);have h4:0<=(c+k) % 65536:=Int.emod_nonneg _ bi;have h5:(c+k) % 65536<65536:=Int.emod_lt_of_pos _ bi;have h6:=Int.mul_ediv_add_emod (c+k) 65536;refine⟨?_,fun d hd=>?_,by simp[dQ,N]⟩
  .have e:lL (dQ (c::r) k).1=(((c+k) % 65536).toNat:Int)+65536*lL (dQ r ((c+k) / 65536)).1:=rfl;have e2:(dQ (c::r) k).2=(dQ r ((c+k) / 65536)).2:=rfl;rw[e,e2,dI,bO,Bp,Int.mul_assoc];omega
  .have e:(dQ (c::r) k).1=((c+k) % 65536).toNat::(dQ r ((c+k) / 65536)).1:=rfl;rw[e]at hd;rcases List.mem_cons.1 hd with rfl|hd
   .omega
   .exact X d hd
theorem Br(L:List Int)(c k:Int):dQ (L++[c]) k=((dQ L k).1++[((c+(dQ L k).2) % 65536).toNat],(c+(dQ L k).2) / 65536):=by
 induction L generalizing k with
 |nil=>rfl
 |cons d r ih=>simp only[List.cons_append,dQ,ih]
theorem jf:∀(L:List Int) (k:Int),(∀c∈L,-1152921504606846976<=c/\c<=1152921504606846976)-> -1152921504606846976<=k->k<=1152921504606846976-> -1152921504606846976<=(dQ L k).2/\(dQ L k).2<=1152921504606846976
 |[],k,_,Y,X=>⟨Y,X⟩
 |c::r,k,h,Y,X=>by
  have hc:=h c aI;exact jf r _ (fun x G=>h x (aA _ G)) be be
def c9(n:Nat):List Nat:=if h:n=0 then []else n % 65536::c9 (n / 65536)
termination_by n
decreasing_by omega
theorem kQ:c9 0=[]:=by rw[c9];rfl
theorem oz{n:Nat}(h:0<n):c9 n=n % 65536::c9 (n / 65536):=by
 rw[c9,dif_neg be]
theorem kR(n:Nat):lL (c9 n)=n/\Dg (c9 n):=by
 induction n using Nat.strongRecOn with
 |_ n ih=>
  rcases bN n with h|h
  .subst h;rw[kQ];exact⟨rfl,by simp[Dg]⟩
  .rw[oz h];obtain⟨Y,X⟩:=ih (n / 65536) be;refine⟨?_,fun d hd=>?_⟩
   .have e:lL (n % 65536::c9 (n / 65536))=((n % 65536:Nat):Int)+65536*lL (c9 (n / 65536)):=rfl;rw[e,Y];omega
   .rcases List.mem_cons.1 hd with rfl|hd
    .omega
    .exact X d hd
theorem jL{n:Nat}:∀{k:Nat},n<65536^k->(c9 n).length<=k
 |0,h=>by
  have:n=0:=by simp at h;exact h
  subst this;rw[kQ];simp
 |k+1,h=>by
  rcases bN n with h0|h0
  .subst h0;rw[kQ];simp
  .rw[oz h0,bO];have:=jL (n:=n / 65536) (k:=k) (by rw[Nat.pow_succ]at h;exact Nat.div_lt_of_lt_mul (by rw[bU];exact h));omega
def gU:List Nat->List Nat
 |[]=>[]
 |[a]=>[a]
 |a::b::r=>(a+65536*b)::gU r
theorem yb:∀(l:List Nat),Dg l->(val (gU l):Int)=lL l/\Lm (gU l)/\(gU l).length=(l.length+1) / 2
 |[],_=>⟨rfl,by simp[gU,Lm],rfl⟩
 |[a],h=>by
  have:=h a bv;exact⟨by simp[gU,val,lL,dI],fun x G=>by simp[gU]at G;omega,by simp[gU]⟩
 |a::b::r,h=>by
  obtain⟨Y,X,N⟩:=yb r fun x G=>h x (aA _ (aA _ G));have ha:=h a bv;have hb:=h b bv;refine⟨?_,fun x G=>?_,?_⟩
  .have e:lL (a::b::r)=(a:Int)+65536*((b:Int)+65536*lL r):=rfl;rw[e,<-Y,gU,val];simp only[Int.natCast_add,Int.natCast_mul]
   omega
  .rw[gU]at G;rcases List.mem_cons.1 G with rfl|G
   .omega
   .exact X x G
  .rw[gU,bO,N];simp only[bO]
   omega
def pk(ds:List Nat)(k:Nat):List Nat:=(List.range k).map fun i=>ds.getD (2*i) 0+65536*ds.getD (2*i+1) 0
theorem xQ(ds:List Nat)(k:Nat):pk ds (k+1)=pk ds k++[ds.getD (2*k) 0+65536*ds.getD (2*k+1) 0]:=by simp[pk,bZ]
theorem uY(ds:List Nat)(k:Nat):(pk ds k).length=k:=by simp[pk]
theorem JK:∀(ds:List Nat),pk ds ((ds.length+1) / 2)=gU ds
 |[]=>rfl
 |[a]=>by simp[pk,gU,bZ]
 |a::b::r=>by
  have ih:=JK r;have e:((a::b::r).length+1) / 2=(r.length+1) / 2+1:=by simp only[bO];omega
  rw[e,gU,<-ih,pk,List.range_succ_eq_map,List.map_cons,List.map_map,pk];congr 1
theorem JL(h:Dg ds)(k:Nat):Lm (pk ds k):=fun x G=>by
 obtain⟨i,_,rfl⟩:=aV.1 G;have key:∀j,ds.getD j 0<65536:=fun j=>by
  rw[List.getD]
  cases hj:ds[j]? with
  |none=>simp
  |some d=>simp;exact h d (aG hj)
 have Y:=key (2*i);have X:=key (2*i+1);omega
end Go.Ex
namespace Go.Ex
open Go Go.Sx Go.Proofs
variable{L:List Int}{S:Nat->Prop}{v:Value}{w:World}
def de(w:World)(S:Nat->Prop)(v:Value)(L:List Int):Prop:=jW w S 1 v (L.map (Value.int .i64)) L.length
theorem de.cK{I:World}(h:de w S v L)(E:∀g,S g->I.heap[g]? =w.heap[g]?):de I S v L:=jW.cK h E
theorem de.cF{S':Nat->Prop}(h:de w S v L)(E:∀g,S g->S' g):de w S' v L:=jW.cF h E
theorem de.load{a:Option Addr}{n c j:Nat}{x:Int}(h:de w S (.slice a n c) L)(G:L[j]? =some x):∃ad,a=some ad/\S ad.block/\w.cell? (ad.add (j*1))=some (iV x):=by
 obtain⟨_,_,_,a',c',e,_,h4⟩:=h;injection e with e1 e2 e3;subst e1;obtain⟨ad,k1,k2,k3⟩:=h4 j (iV x) (by rw[aO,G];rfl);exact⟨ad,k1,k2,by rw[aw];exact k3⟩
theorem de.shape(h:de w S v L):∃a c,v= .slice a L.length c/\L.length<=c:=by
 obtain⟨_,_,_,a',c',e,N,_⟩:=h;exact⟨a',c',e,N⟩
def du(ds:List Nat):List Int:=ds.map fun d:Nat=>(d:Int)
theorem e9(ds:List Nat):(du ds).length=ds.length:=by simp[du]
end Go.Ex
namespace Go.Sx
open Go Go.Ex Go.Proofs
variable{L:List Value}{O:Nat->Sx.da}
theorem Rel.Cc{H:Hp}{nx:Nat}{iv:Iv}{B:Nat}{w J:World}(r:Rel H nx iv B w O J){id t m sz:Nat}(h:cw H id=some (.vec t sz L))(hm:L.length=m*sz)(hs:0<sz):
  J.ownsRow B t sz ((At.w id m).den O) m L:=by
 rcases r.vec id t sz _ h with⟨Z,rfl⟩|⟨Z,spare,hb,hc,QF⟩
 .have TZ:m=0:=by
   rcases bN m with h|h
   .exact h
   .have:=Nat.mul_pos h hs;simp at hm;omega
  subst TZ;have:(At.w id 0).den O=nls:=by simp[At.den,Z]
  rw[this];exact World.ownsRow_nil _ _ _ _
 .have hv:(At.w id m).den O= .slice (some ⟨(O id).g,0,none⟩) m (O id).cap:=by simp[At.den,Z]
  have Y:(L++spare).length=L.length+spare.length:=aL;rw[hv];refine⟨hm,.inr ⟨(O id).g,(O id).cap,_,rfl,(r.low id _ h Z).1,hb,?_,QF,by simpa using hc,?_⟩⟩
  .have X:m*sz<=(O id).cap*sz:=by omega
   exact Nat.le_of_mul_le_mul_right X hs
  .rw[<-hm];simp
end Go.Sx
namespace Go.Ex
open Go Go.Sx Go.Proofs
theorem EK(n:Nat)(w:World)(Z:n<=9223372036854775807):eC PG Fn.tO #[iV n] w (eI w fun v I=>de I (Nf w I) v (du (c9 n))):=by
 refine wz bv ?_
 refine⟨Nat×List Nat×World,fun z=>⟨[(0,iZ z.1),(3,.o (.w 0 z.2.1.length))],[(0,.vec T.int 1 ((du z.2.1).map (Value.int .i64)))],1,[],z.2.2⟩,fun z=>z.1,
  fun z=>Bq w z.2.2/\z.1<=n/\z.2.1.length<=n-z.1/\z.2.1++c9 z.1=c9 n,?_,?_⟩
 .intro O J r
  exact⟨(n,[],J),⟨r.cN,lr,bv,bv⟩,Sub.nil 3 T.int 1 rfl (by simp[kL,SV.sc,At.sc,fp]) r fun Id r1=>
   sbgn [] r1⟩
 rintro⟨k,ds,w1⟩ ⟨V,E,hl,hs⟩;dsimp only at V E hl hs ⊢;have Rz:=e9 ds;apply bS<;>intro h
 .have h:0<k:=by
   have:(k:Int)>0:=aE h;omega
  refine⟨bi,((k % 65536:Nat):Int),KB k 65536,?_⟩;refine .inl ?_;refine⟨by simp[Rz],?_,by have Y:=congrArg List.length hs;rw[aL]at Y;have X:=jL (n:=n) (k:=4) be;unfold maxLen;omega,?_⟩
  .have Y:=congrArg List.length hs;rw[aL]at Y;have X:=jL (n:=n) (k:=4) be;omega
  refine⟨bi,((k / 65536:Nat):Int),LM be,?_⟩;intro IR w3 A;have hl5:(ds++[k % 65536]).length=ds.length+1:=by simp
  have S8:(du (ds++[k % 65536])).map (Value.int .i64)=(du ds).map (Value.int .i64)++[iV ((k % 65536:Nat):Int)]:=by simp[du]
  refine⟨(k / 65536,ds++[k % 65536],w3),⟨V.tr A.cN,by dsimp only;omega,by dsimp only;rw[hl5];omega,?_⟩,
   sbgn [(0,2)] A ⟨by rw[S8];rfl,trivial⟩ ⟨rfl,by dsimp only;rw[hl5];rfl,trivial⟩,by dsimp only;omega⟩
  dsimp only
  rw[<-hs,oz h];simp
 .have h:k=0:=by
   have:¬(k:Int)>0:=aC h;omega
  subst h;rw[kQ,List.append_nil]at hs;subst hs;intro GT we re;refine⟨_,rfl,V.tr re.cN,?_⟩;have:=re.iq (id:=0) (sz:=1) (m:=(c9 n).length) rfl (by simp[Rz]) (by have X:=jL (n:=n) (k:=4) be;unfold maxLen;omega) bi (by intro u hu;simp at hu;obtain⟨_,_,rfl⟩:=hu;rfl);unfold de;rw[Rz];exact this.cF fun g F=>.inr F
variable{L:List Int}{S:Nat->Prop}
theorem vB(n:Int):(n.tmod 65536<0->n % 65536=n.tmod 65536+65536)/\(¬n.tmod 65536<0->n % 65536=n.tmod 65536)/\ -65536<n.tmod 65536/\n.tmod 65536<65536:=by
 by_cases h:0<=n
 .rw[Int.tmod_eq_emod_of_nonneg h];omega
 .have Y:n.tmod 65536= -((-n) % 65536):=by
   have:n= -(-n):=by omega
   conv=>lhs;rw[this]
   rw[Int.neg_tmod,Int.tmod_eq_emod_of_nonneg be]
  rw[Y];omega
theorem BY(n:Int):(n-n % 65536).tdiv 65536=n / 65536:=by
 have h:n-n % 65536=65536*(n / 65536):=by omega
 rw[h,Int.mul_tdiv_cancel_left _ bi]
theorem BZ{w:World}{v:Value}(U:Old S w)(h:de w S v L)(hb:∀c∈L,-1152921504606846976<=c/\c<=1152921504606846976)(hl:L.length<=1000000000):
  eC PG Fn.qq #[v] w (eI w fun v' I=>∃o,v'= .tuple #[o,iV (dQ L 0).2]/\I.ownsRow w.heap.size T.int 1 o L.length ((du (dQ L 0).1).map (Value.int .i64))):=by
 obtain⟨a,c,rfl,hc⟩:=h.shape;refine uo bv ?_
 refine⟨Nat×World,fun z=>⟨[(0,sV a L.length c),(4,.o (.w 0 z.1)),(5,.o (.v (iV (dQ (L.take z.1) 0).2))),(6,iZ z.1)],[(0,.vec T.int 1 ((du (dQ (L.take z.1) 0).1).map (Value.int .i64)))],1,[],z.2⟩,fun z=>L.length-z.1,
  fun z=>Bq w z.2/\z.1<=L.length,?_,?_⟩
 .intro O J r
  exact⟨(0,J),⟨r.cN,bv⟩,Sub.nil 4 T.int 1 rfl (by simp[kL,SV.sc,At.sc,fp]) r fun Id r1=>
   sbgn [] r1⟩
 rintro⟨i,w1⟩ ⟨V,D⟩;dsimp only at V D ⊢;obtain⟨-,hdg,hlen⟩:=kP (L.take i) 0;have R4:((du (dQ (L.take i) 0).1).map (Value.int .i64)).length=i:=by rw[aM,e9,hlen,aZ];omega
 obtain⟨hk1,US⟩:=jf (L.take i) 0 (fun c hc=>hb c (List.mem_of_mem_take hc)) bi bi;have hR:de w1 S (.slice a L.length c) L:=de.cK h fun g F=>V.block g (U g F);apply bS<;>intro h
 .have h:=dL h;obtain⟨x,G⟩:=gO L i;obtain⟨Qe,QH⟩:=hb x (aG G);obtain⟨ad,rfl,q1,q2⟩:=hR.load G;have TO:L.take (i+1)=L.take i++[x]:=by rw[aY,G];rfl
  have RB:=Br (L.take i) x 0;rw[<-TO]at RB;generalize (dQ (L.take i) 0).1=ds at*
  generalize (dQ (L.take i) 0).2=k at*
  obtain⟨t1,t2,t3,t4⟩:=vB (x+k);have hem1:=Int.emod_nonneg (x+k) (show (65536:Int)≠0 by decide);have hem2:=Int.emod_lt_of_pos (x+k) (show (0:Int)<65536 by decide);refine⟨ad,rfl,be,iV x,fun O J r=>?_,?_⟩
  .rw[aJ,cO (w:=w1) (I:=J) (by rw[eV];exact rls (S:=S) r U (.inl q1))];exact q2
  refine⟨x+k,wo,bi,(x+k).tmod 65536,rfl,?_⟩;apply bS<;>intro Q3
  .have Q3:=t1 (aE Q3);refine⟨(x+k) % 65536,by rw[Q3,wrap64]<;>omega,x+k-(x+k) % 65536,wo,bi,(x+k) / 65536,by rw[BY,wrap64]<;>omega,?_⟩;refine .inl ?_;refine⟨by rw[R4,aw],be,mx,((i+1:Nat):Int),wo,?_⟩;intro IR w3 A;have S8:(du (dQ (L.take (i+1)) 0).1).map (Value.int .i64)=(du ds).map (Value.int .i64)++[iV ((x+k) % 65536)]:=by
    rw[RB];simp[du,Int.toNat_of_nonneg hem1]
   have hk5:(dQ (L.take (i+1)) 0).2=(x+k) / 65536:=by rw[RB]
   exact⟨(i+1,w3),⟨V.tr A.cN,by dsimp only;omega⟩,sbgn [(0,2)] A ⟨by dsimp only;rw[S8];rfl,trivial⟩ ⟨rfl,rfl,by dsimp only;rw[hk5];rfl,rfl,trivial⟩,by dsimp only;omega⟩
  .have Q3:=t2 (aC Q3);rw[<-Q3];refine⟨x+k-(x+k) % 65536,wo,bi,(x+k) / 65536,by rw[BY,wrap64]<;>omega,?_⟩;refine .inl ?_;refine⟨by rw[R4,aw],be,mx,((i+1:Nat):Int),wo,?_⟩;intro IR w3 A;have S8:(du (dQ (L.take (i+1)) 0).1).map (Value.int .i64)=(du ds).map (Value.int .i64)++[iV ((x+k) % 65536)]:=by
    rw[RB];simp[du,Int.toNat_of_nonneg hem1]
   have hk5:(dQ (L.take (i+1)) 0).2=(x+k) / 65536:=by rw[RB]
   exact⟨(i+1,w3),⟨V.tr A.cN,by dsimp only;omega⟩,sbgn [(0,2)] A ⟨by dsimp only;rw[S8];rfl,trivial⟩ ⟨rfl,rfl,by dsimp only;rw[hk5];rfl,rfl,trivial⟩,by dsimp only;omega⟩
 .have h:i=L.length:=by
   have:¬i<L.length:=by simpa using h
   omega
  subst h;rw[bG]at R4 ⊢;exact rtn V fun GT we re=>⟨_,rfl,re.Cc (id:=0) rfl (by rw[R4,aw]) bi⟩
end Go.Ex
namespace Go.Sx
open Go Go.Ex Go.Proofs
variable{ls:List Nat}{O:Nat->Sx.da}
theorem Rel.KC{H:Hp}{nx:Nat}{iv:Iv}{B:Nat}{w J:World}(r:Rel H nx iv B w O J){id t m:Nat}(h:cw H id=some (.vec t 1 (E8 ls)))(hm:m<=ls.length)(Ou:Lm ls)(hle:ls.length<=9223372036854775807):
  dF J (fun g=>B<=g/\g<J.heap.size) ((At.w id m).den O) (ls.take m):=by
 have OT:(ls.take m).length=m:=by rw[aZ];omega
 rcases r.vec id t 1 _ h with⟨Z,hu⟩|⟨Z,spare,hb,hc,QF⟩
 .have hl:ls=[]:=by cases ls with
   |nil=>rfl
   |cons a b=>simp[E8]at hu
  subst hl;simp at hm;subst hm;have:(At.w id 0).den O=nls:=by simp[At.den,Z]
  rw[this];exact dF.nil _ _
 .refine⟨Ou.take m,by rw[OT];omega,some ⟨(O id).g,0,none⟩,(O id).cap,by rw[OT];simp[At.den,Z],?_,fun j x G=>⟨_,rfl,r.low id _ h Z,?_⟩⟩
  .have Y:(E8 ls++spare).length=ls.length+spare.length:=by rw[aL,fy]
   rw[OT];omega
  .rw[List.getElem?_take]at G;split at G
   .rw[dS,cell_of hb,aX,aK (by rw[fy];exact(aD.1 G).1)];exact ta G
   .cases G
end Go.Sx
namespace Go.Ex
open Go Go.Sx Go.Proofs
section
variable{ds ls:List Nat}{S:Nat->Prop}
theorem Fk{n:Nat}(_hn:n<ls.length)(h0:ls[n]? =some 0):db (ls.take (n+1))=db (ls.take n):=by
 rw[aY,h0];exact jw _
theorem Fl{n x:Nat}(h0:ls[n]? =some x)(G:x≠0):db (ls.take (n+1))=ls.take (n+1):=by
 rw[aY,h0];exact nH _ G
theorem EL{w:World}{v:Value}(U:Old S w)(h:de w S v (du ds))(hd:Dg ds)(hl:ds.length<=1000000000):
  eC PG Fn.tN #[v] w (eI w fun v' I=>∃lv,v'= .agg #[.bool false,lv]/\dF I (Nf w I) lv (db (gU ds))):=by
 obtain⟨a,c,rfl,hc⟩:=h.shape;rw[e9]at hc h ⊢;refine wy bv ?_
 refine⟨Nat×World,fun z=>match z.1 with
   |0=>⟨[(0,sV a ds.length c),(2,pP 0 0),(3,pP 1 0),(4,iZ 0)],[(1,.box T.Int [.v (.bool false),.v nls]),(0,.box T.Int [.v (.bool false),.v nls])],2,[],z.2⟩
   |k+1=>⟨[(0,sV a ds.length c),(2,pP 0 0),(3,pP 1 0),(4,.o (.v (iV ((2*(k+1):Nat):Int))))],[(2,.vec T.uint32 1 (E8 (pk ds (k+1)))),(1,.box T.Int [.v (.bool false),.w 2 (k+1)]),(0,.box T.Int [.v (.bool false),.v nls])],3,[],z.2⟩,
  fun z=>ds.length-z.1,fun z=>Bq w z.2/\2*z.1<=ds.length+1,?_,?_⟩
 .intro O J r;exact⟨(0,J),⟨r.cN,bv⟩,sbgn [] r⟩
 rintro⟨k,w1⟩ ⟨V,D⟩;dsimp only at V D;have hR:de w1 S (.slice a ds.length c) (du ds):=de.cK h fun g F=>V.block g (U g F)
 cases k with
 |zero=>
  apply bS<;>intro Y
  .have Y:0<ds.length:=by
    have:=aE Y;omega
   obtain⟨d0,QU⟩:=gO ds 0;have hd0b:=hd d0 (aG QU);have SJ:ds.getD (2*0) 0=d0:=by show ds.getD 0 0=d0;rw[List.getD,QU];rfl
   obtain⟨ad,rfl,q1,q2⟩:=hR.load (j:=0) (x:=(d0:Int)) (by rw[du,aO,QU];rfl);refine⟨ad,rfl,be,iV (d0:Int),fun O J r=>?_,?_⟩
   .show J.cell? (ad.add (0*1))=_;rw[cO (w:=w1) (I:=J) (by rw[eV];exact rls (S:=S) r U (.inl q1))];exact q2
   refine inc 0 ?_;apply bS<;>intro X
   .have X:0+1<ds.length:=by
     have:=aE X;omega
    obtain⟨d1,Rg⟩:=gO ds (0+1);have hd1b:=hd d1 (aG Rg);have SK:ds.getD (2*0+1) 0=d1:=by show ds.getD (0+1) 0=d1;rw[List.getD,Rg];rfl
    obtain⟨_,OX,q3,q4⟩:=hR.load (j:=0+1) (x:=(d1:Int)) (by rw[du,aO,Rg];rfl);injection OX with OX;subst OX;refine⟨((0+1:Nat):Int),wo,ad,rfl,be,iV (d1:Int),fun O J r=>?_,?_⟩
    .show J.cell? (ad.add ((0+1)*1))=_;rw[cO (w:=w1) (I:=J) (by rw[eV];exact rls (S:=S) r U (.inl q3))];exact q4
    refine⟨((65536*d1:Nat):Int),wo,((d0+65536*d1:Nat):Int),wo,?_⟩;have Rb:=xQ ds 0;rw[SJ,SK]at Rb;generalize d0+65536*d1=dd at*
    have hdd:dd<4294967296:=JL hd (0+1) dd (by rw[Rb];simp);refine⟨(dd:Int),by rw[xJ]<;>omega,?_⟩;refine .inl ?_;refine⟨be,mx,((2*(0+1):Nat):Int),wo,?_⟩;intro IR w3 A;have hU:E8 (pk ds (0+1))=E8 (pk ds 0)++[.int .u32 (dd:Int)]:=by rw[Rb];simp[E8]
    exact⟨(0+1,w3),⟨V.tr A.cN,by dsimp only;omega⟩,sbgn [(2,3)] A ⟨by dsimp only;rw[hU];rfl,rfl,rfl,trivial⟩,by dsimp only;omega⟩
   .have X:0+1=ds.length:=by
     have:=aC X;omega
    have SK:ds.getD (2*0+1) 0=0:=by show ds.getD (0+1) 0=0;rw[List.getD,List.getElem?_eq_none be];rfl
    have Rb:=xQ ds 0;rw[SJ,SK]at Rb;obtain⟨dd,hdde⟩:∃dd,dd=d0:=⟨_,rfl⟩
    rw[<-hdde]at Rb ⊢;have hdd:dd<4294967296:=by omega
    rw[show dd+65536*0=dd by omega]at Rb;refine⟨(dd:Int),by rw[xJ]<;>omega,?_⟩;refine .inl ?_;refine⟨be,mx,((2*(0+1):Nat):Int),wo,?_⟩;intro IR w3 A;have hU:E8 (pk ds (0+1))=E8 (pk ds 0)++[.int .u32 (dd:Int)]:=by rw[Rb];simp[E8]
    exact⟨(0+1,w3),⟨V.tr A.cN,by dsimp only;omega⟩,sbgn [(2,3)] A ⟨by dsimp only;rw[hU];rfl,rfl,rfl,trivial⟩,by dsimp only;omega⟩
  .have Y:ds=[]:=by
    have:=aC Y;exact List.eq_nil_of_length_eq_zero be
   subst Y;refine⟨World,fun z=>⟨[(2,pP 0 0),(3,pP 1 0),(6,iZ 0)],[(1,.box T.Int [.v (.bool false),.v nls]),(0,.box T.Int [.v (.bool false),.v nls])],2,[],z⟩,fun _=>0,fun z=>Bq w z,?_,?_⟩
   .intro O J r;exact⟨J,V.tr r.cN,sbgn [] r⟩
   intro I V;dsimp only at V ⊢;refine⟨⟨bi,bi,bi⟩,none,0,0,cs,cs,cs,?_⟩;exact rtn V fun GT we re=>⟨_,rfl,dF.nil _ _⟩
 |succ k=>
  apply bS<;>intro Y
  .have Y:(2*(k+1))<ds.length:=by
    have:=aE Y;omega
   obtain⟨d0,QU⟩:=gO ds ((2*(k+1)));have hd0b:=hd d0 (aG QU);have SJ:ds.getD (2*(k+1)) 0=d0:=by show ds.getD (2*(k+1)) 0=d0;rw[List.getD,QU];rfl
   obtain⟨ad,rfl,q1,q2⟩:=hR.load (j:=(2*(k+1))) (x:=(d0:Int)) (by rw[du,aO,QU];rfl);refine⟨ad,rfl,be,iV (d0:Int),fun O J r=>?_,?_⟩
   .show J.cell? (ad.add ((2*(k+1))*1))=_;rw[cO (w:=w1) (I:=J) (by rw[eV];exact rls (S:=S) r U (.inl q1))];exact q2
   refine⟨(((2*(k+1))+1:Nat):Int),wo,?_⟩;apply bS<;>intro X
   .have X:(2*(k+1))+1<ds.length:=by
     have:=aE X;omega
    obtain⟨d1,Rg⟩:=gO ds ((2*(k+1))+1);have hd1b:=hd d1 (aG Rg);have SK:ds.getD (2*(k+1)+1) 0=d1:=by show ds.getD ((2*(k+1))+1) 0=d1;rw[List.getD,Rg];rfl
    obtain⟨_,OX,q3,q4⟩:=hR.load (j:=(2*(k+1))+1) (x:=(d1:Int)) (by rw[du,aO,Rg];rfl);injection OX with OX;subst OX;refine⟨(((2*(k+1))+1:Nat):Int),wo,ad,rfl,be,iV (d1:Int),fun O J r=>?_,?_⟩
    .show J.cell? (ad.add (((2*(k+1))+1)*1))=_;rw[cO (w:=w1) (I:=J) (by rw[eV];exact rls (S:=S) r U (.inl q3))];exact q4
    refine⟨((65536*d1:Nat):Int),wo,((d0+65536*d1:Nat):Int),wo,?_⟩;have Rb:=xQ ds (k+1);rw[SJ,SK]at Rb;generalize d0+65536*d1=dd at*
    have hdd:dd<4294967296:=JL hd ((k+1)+1) dd (by rw[Rb];simp);refine⟨(dd:Int),by rw[xJ]<;>omega,?_⟩;refine .inl ?_;refine⟨by rw[fy,uY];omega,be,mx,((2*((k+1)+1):Nat):Int),wo,?_⟩;intro IR w3 A;have hU:E8 (pk ds ((k+1)+1))=E8 (pk ds (k+1))++[.int .u32 (dd:Int)]:=by rw[Rb];simp[E8]
    exact⟨((k+1)+1,w3),⟨V.tr A.cN,by dsimp only;omega⟩,sbgn [(2,4)] A ⟨by dsimp only;rw[hU];rfl,rfl,rfl,trivial⟩,by dsimp only;omega⟩
   .have X:(2*(k+1))+1=ds.length:=by
     have:=aC X;omega
    have SK:ds.getD (2*(k+1)+1) 0=0:=by show ds.getD ((2*(k+1))+1) 0=0;rw[List.getD,List.getElem?_eq_none be];rfl
    have Rb:=xQ ds (k+1);rw[SJ,SK]at Rb;obtain⟨dd,hdde⟩:∃dd,dd=d0:=⟨_,rfl⟩
    rw[<-hdde]at Rb ⊢;have hdd:dd<4294967296:=by omega
    rw[show dd+65536*0=dd by omega]at Rb;refine⟨(dd:Int),by rw[xJ]<;>omega,?_⟩;refine .inl ?_;refine⟨by rw[fy,uY];omega,be,mx,((2*((k+1)+1):Nat):Int),wo,?_⟩;intro IR w3 A;have hU:E8 (pk ds ((k+1)+1))=E8 (pk ds (k+1))++[.int .u32 (dd:Int)]:=by rw[Rb];simp[E8]
    exact⟨((k+1)+1,w3),⟨V.tr A.cN,by dsimp only;omega⟩,sbgn [(2,4)] A ⟨by dsimp only;rw[hU];rfl,rfl,rfl,trivial⟩,by dsimp only;omega⟩
  .have Y:ds.length<=2*(k+1):=by
    have:=aC Y;omega
   have E:k+1=(ds.length+1) / 2:=by omega
   have Rb:pk ds (k+1)=gU ds:=by rw[E];exact JK ds
   have hlen:=uY ds (k+1);have Ou:=JL hd (k+1);rw[<-Rb];obtain⟨ls,hls⟩:∃ls,ls=pk ds (k+1):=⟨_,rfl⟩
   rw[<-hls]at hlen Ou ⊢
   refine⟨by show(E8 (pk ds (k+1))).length=_;rw[<-hls,fy,hlen];simp,Nat×World,fun z=>⟨[(2,pP 0 0),(3,pP 1 0),(6,iZ z.1)],[(2,.vec T.uint32 1 (E8 ls)),(1,.box T.Int [.v (.bool false),.w 2 (k+1)]),(0,.box T.Int [.v (.bool false),.v nls])],3,[],z.2⟩,fun z=>z.1,
    fun z=>Bq w z.2/\z.1<=k+1/\db (ls.take z.1)=db ls,?_,?_⟩
   .intro O J r;exact⟨(k+1,J),⟨V.tr r.cN,lr,by dsimp only;rw[List.take_of_length_le be]⟩,sbgn [] r ⟨by dsimp only;rw[hls];rfl,rfl,rfl,trivial⟩⟩
   rintro⟨n,I⟩ ⟨V,Z,htr⟩;dsimp only at V Z htr ⊢
   cases n with
   |zero=>
    refine⟨by rw[fy,hlen];simp,⟨be,be⟩,0,cs,?_⟩;intro GT we re;refine⟨_,rfl,V.tr re.cN,_,rfl,?_⟩;have:=re.KC (id:=2) (m:=0) rfl (aP _) Ou be;rw[<-htr];exact this.cF fun g F=>.inr F
   |succ n=>
    obtain⟨x,G⟩:=gO ls n;refine vF.mk (fun hp=>?_) (fun hp=>absurd (aC hp) be);refine⟨(n:Int),wo,by rw[fy,hlen];simp,be,.int .u32 (x:Int),by simpa using ta G,?_⟩;apply bS<;>intro h0
    .have h0:x=0:=by have:=eq_of_beq h0;omega
     subst h0;refine⟨(n:Int),wo,?_⟩;intro IR w3 A;exact⟨(n,w3),⟨V.tr A.cN,by dsimp only;omega,by dsimp only;rw[<-htr,Fk be G]⟩,sbgn [] A,by dsimp only;omega⟩
    .have h0:x≠0:=fun e=>by rw[e]at h0;exact absurd h0 bi
     refine⟨by rw[fy,hlen];simp,⟨be,be⟩,n+1,cs,?_⟩;intro GT we re;refine⟨_,rfl,V.tr re.cN,_,rfl,?_⟩;have:=re.KC (id:=2) (m:=n+1) rfl be Ou be;rw[<-htr,Fl G h0];exact this.cF fun g F=>.inr F
end
variable{H:Hp}{z:Int}{iv:Iv}{L:List Int}{b ds ls:List Nat}{xs:List Value}{B i nx:Nat}{S:Nat->Prop}{O:Nat->Sx.da}{q:Rat}{u v:Value}{w J:World}
theorem tu{I:World}{v':Value}(hc:Fj iv v)(r:Rel H nx iv B w O J)(Qb:∀g,v'.ownBlock=some g->g<I.heap.size/\(v.ownBlock=some g\/g=J.heap.size)):
  ∀lo D,(lo,D)∈rB v'->D<=I.heap.size/\∀id b,cw H id=some b->(O id).nil=false->¬(lo<=(O id).g/\(O id).g<D):=fun lo D hm=>by
 obtain⟨F,rfl⟩:=BV.1 hm;obtain⟨Y,X⟩:=Qb _ F;refine⟨be,fun id c hc' Z R=>?_⟩;rcases X with X|X
 .exact hc.not r X id c hc' Z be
 .have:=(r.low id c hc' Z).2;omega
theorem dF.out{w1:World}(h:dF w1 (Cv S w.heap.size iv) v ls)(r:Rel H nx iv w.heap.size w1 O J)(U:Old S w):dF J (Nw S w J) v ls:=
 (dF.rel h r U).cF fun _ F=>Cv.nw F r
theorem Gx{B' e sz m:Nat}(h:w.ownsRow B e sz v m xs)(hb:B'<=B):w.ownsRow B' e sz v m xs:=⟨h.1,h.2.imp id fun⟨g,cap,cur,k1,k2,k3⟩=>⟨g,cap,cur,k1,be,k3⟩⟩
theorem tv(a b:List Nat):du (a++b)=du a++du b:=by simp[du]
theorem qV{m:Nat}(h:w.ownsRow B T.int 1 v m (L.map (Value.int .i64)))(hm:m=L.length)(hl:m<=maxLen):de w (fun g=>v.ownBlock=some g) v L:=by
 subst hm;rcases h.2 with⟨rfl,h0⟩|⟨g,cap,cur,rfl,hb,hc,UP,QF,Oj,RQ⟩
 .have:L=[]:=List.eq_nil_of_length_eq_zero h0;subst this;exact⟨by simp[maxLen],bv,bv,none,0,rfl,lr,bv⟩
 .refine⟨hl,h.1,fun u hu=>by simp at hu;obtain⟨_,_,rfl⟩:=hu;rfl,_,cap,rfl,UP,fun j u hu=>⟨_,rfl,rfl,?_⟩⟩;exact h.cells (g:=g) rfl j u hu
theorem Dg.append{a:List Nat}(ha:Dg a)(hb:Dg b):Dg (a++b):=fun x G=>(bV.1 G).elim (ha x) (hb x)
theorem wJ(a b:List Nat):lL (a++b)=lL a+up a.length*lL b:=by
 unfold lL;rw[aU,zu,aM]
theorem z8(hd:Dg ds):Nz (db (gU ds))/\(val (db (gU ds)):Int)=lL ds:=by
 obtain⟨Y,X,_⟩:=yb ds hd;obtain⟨k1,k2,_⟩:=ec (gU ds);exact⟨k2,by rw[k1,Y]⟩
theorem vC(U:Old S w)(h:de w S v L)(hb:∀c∈L,-1152921504606846976<=c/\c<=1152921504606846976)(hl:L.length<=100000000):
  eC PG Fn.jg #[v] w (eI w fun v' I=>dK I (Nf w I) v' (dI L)):=by
 obtain⟨a,c,rfl,hc⟩:=h.shape;obtain⟨VM,hdg,Rz⟩:=kP L 0;obtain⟨hk1,US⟩:=jf L 0 hb bi bi;rw[Int.add_zero]at VM;refine uj bv ?_;refine cD (cM (If:=fun _ J v' I=>∃o,v'= .tuple #[o,iV (dQ L 0).2]/\I.ownsRow J.heap.size T.int 1 o L.length ((du (dQ L 0).1).map (Value.int .i64))) (fun O J r=>BZ (oS U r) (de.cK h fun g F=>rls (S:=S) r U (.inl F)) hb be) ?_);rintro O wa v1 wb r R V ⟨o,rfl,OD⟩;have Pj:Fj [(wa.heap.size,wb.heap.size)] o:=fun g F=>⟨_,_,bJ.2 rfl,(ownsRow.low OD g F).1,(ownsRow.low OD g F).2⟩
 replace OD:=Gx OD r.cR;generalize [(wa.heap.size,wb.heap.size)]=iv at*
 generalize hds:(dQ L 0).1=ds at*
 generalize E:(dQ L 0).2=k at*
 obtain⟨ao,co,rfl,hco⟩:=js OD;apply bS<;>intro Q3
 .have Q3:=aE Q3;have hV:dI L<0:=by
   have Y:=(ya hdg).2;rw[Rz]at Y;have X:=JJ L.length;have N:up L.length*k<=up L.length*(-1):=Int.mul_le_mul_of_nonneg_left be be;omega
  obtain⟨Ts,VN,hdl2⟩:=kP (L.map (- ·)) 0;have QP:∀c∈L.map (- ·),-1152921504606846976<=c/\c<=1152921504606846976:=fun c hc=>by
   obtain⟨x,G,rfl⟩:=aV.1 hc;have:=hb x G;omega
  obtain⟨hk1',hk2'⟩:=jf (L.map (- ·)) 0 QP bi bi;rw[Int.add_zero,FB,aM]at Ts;rw[aM]at hdl2;have SM:0<=(dQ (L.map (- ·)) 0).2:=by
   have Y:=(ya VN).2;rw[hdl2]at Y;have X:=JJ L.length;apply Decidable.byContradiction;intro N;have h4:up L.length*(dQ (L.map (- ·)) 0).2<=up L.length*(-1):=Int.mul_le_mul_of_nonneg_left be be;omega
  refine⟨Nat×World,fun z=>⟨[(0,sV a L.length c),(2,pP 0 0),(3,sV ao L.length co),(5,iZ z.1)],[(0,.box T.Int [.v (.bool false),.v nls])],1,iv,z.2⟩,fun z=>L.length-z.1,
   fun z=>z.1<=L.length/\Bq w z.2/\z.2.ownsRow w.heap.size T.int 1 (.slice ao L.length co) L.length (((L.take z.1).map (- ·)++(du ds).drop z.1).map (Value.int .i64)),?_,?_⟩
  .intro O J r;exact⟨(0,J),⟨bv,V.tr r.cN,by simpa using jD OD Pj r⟩,sbgn [] r⟩
  rintro⟨i,w1⟩ ⟨D,V,OD⟩;dsimp only at D V OD ⊢;have hR:de w1 S (.slice a L.length c) L:=de.cK h fun g F=>V.block g (U g F);apply bS<;>intro Ny
  .have Ny:=dL Ny;obtain⟨x,G⟩:=gO L i;obtain⟨Qe,QH⟩:=hb x (aG G);obtain⟨ad,rfl,q1,q2⟩:=hR.load G;obtain⟨go,hgo⟩:∃g,ao=some ⟨g,0,none⟩:=by
    rcases OD.2 with⟨_,h0⟩|⟨g,cap,cur,e,_⟩
    .omega
    .injection e with e;exact⟨g,e⟩
   subst hgo;refine⟨ad,rfl,be,iV x,fun O J r=>?_,?_⟩
   .rw[aJ,cO (w:=w1) (I:=J) (by rw[eV];exact rls (S:=S) r U (.inl q1))];exact q2
   refine⟨-x,wo,⟨go,0,none⟩,rfl,be,?_⟩;intro O J r;have Tb:=jD OD Pj r;obtain⟨g',Tc,OE,QA,PK,Oj⟩:=om (nv:=[iV (-x)]) Tb rfl Ny rfl bi;injection Tc with Tc;injection Tc with Tc;subst Tc;rw[LN (by rw[aM,aL,aM,aZ,List.length_drop,e9,Rz];omega)]at QA;have OX:(⟨go,0,none⟩:Addr).add ((i:Int).toNat*1)=⟨go,i*1,none⟩:=by rw[aJ,dS,aX]
   have QG:=fun id b hb Z=>Pj.not r (b:=go) rfl id b hb Z;have hgoB:=(ownsRow.low OD go rfl).1;have hw':Bq w (setCells J ⟨go,i*1,none⟩ [iV (-x)]):=(V.tr r.cN).tr (jv.grown PK (fun g F=>by injection F with F;subst F;exact hgoB) r.cR);have hlist:(((L.take i).map (- ·)++(du ds).drop i).map (Value.int .i64)).set i (iV (-x))=((L.take (i+1)).map (- ·)++(du ds).drop (i+1)).map (Value.int .i64):=by
    rw[<-List.map_set];congr 1;have Qt:((L.take i).map (- ·)).length=i:=by rw[aM,aZ];omega
    obtain⟨d,hd⟩:∃d,(du ds)[i]? =some d:=⟨_,aB (by rw[e9,Rz];exact Ny)⟩
    have Ot:(du ds).drop i=d::(du ds).drop (i+1):=by
     rw[List.drop_eq_getElem_cons (by rw[e9,Rz];exact Ny)];congr 1;have:=aB (l:=du ds) (i:=i) (by rw[e9,Rz];exact Ny);rw[hd]at this;injection this with this;exact this.symm
    rw[aY,G,aU,Ot,List.set_append_right _ _ be,Qt,bP];simp
   refine⟨by rw[OX],fun j hj=>by rw[OX];exact OE j hj,fun id b hb Z=>by rw[OX];exact QG id b hb Z,fun I PA=>?_⟩;have PA:I=setCells J ⟨go,i*1,none⟩ [iV (-x)]:=by rw[PA];exact congrArg (fun x=>setCells J x _) OX
   rw[<-PA]at QA hw'
   erw [hlist]at QA
   refine inc i ?_;intro IR w3 A;exact⟨(i+1,w3),⟨Ny,hw'.tr A.cN,jD QA Pj A⟩,sbgn [] A,dec Ny⟩
  have Ny:i=L.length:=by
   have:¬i<L.length:=by simpa using Ny
   omega
  subst Ny;rw[bG,List.drop_of_length_le (by rw[e9,Rz];exact aN _),List.append_nil]at OD;refine⟨⟨be,be,be⟩,ao,L.length,co,Dm ao co,be,be,?_⟩;refine cD (cM (If:=fun _ J v' I=>∃o,v'= .tuple #[o,iV (dQ (L.map (- ·)) 0).2]/\I.ownsRow J.heap.size T.int 1 o L.length ((du (dQ (L.map (- ·)) 0).1).map (Value.int .i64))) (fun O J r=>?_) ?_)
  .have h8:=jD OD Pj r;have h9:=qV h8 (by rw[aM]) mx;have h10:=BZ (fun g F=>(ownsRow.low h8 g F).2) h9 QP (by rw[aM];omega);rw[aM]at h10;exact h10
  rintro O wc v1 wd r R OO ⟨o2,rfl,Pf⟩;have QO:Fj ((wc.heap.size,wd.heap.size)::iv) o2:=fun g F=>⟨_,_,aI,(ownsRow.low Pf g F).1,(ownsRow.low Pf g F).2⟩
  replace Pf:=Gx Pf r.cR;replace V:=V.tr OO;generalize (wc.heap.size,wd.heap.size)::iv=OH at*
  generalize hds2:(dQ (L.map (- ·)) 0).1=ds2 at*
  generalize hkk2:(dQ (L.map (- ·)) 0).2=k2 at*
  obtain⟨kn,rfl⟩:∃kn:Nat,k2=kn:=⟨k2.toNat,be⟩
  obtain⟨ao2,co2,rfl,hco2⟩:=js Pf;have ds2_len:ds2.length=L.length:=hdl2;have ds2_dg:Dg ds2:=VN;refine cD (cM (If:=fun _ J v I=>de I (Nf J I) v (du (c9 kn))) (fun O J r=>by exact EK kn J be) ?_);rintro O ws vs wt r R hb hsp;have S9:de wt (Cf w ((ws.heap.size,wt.heap.size)::OH)) vs (du (c9 kn)):=de.cF hsp fun g F=>F.iR r.cR aI;replace Pf:=ownsRow.cK (jD Pf QO r) fun g F=>R.block g (by have:=(ownsRow.low (jD Pf QO r) g F).2;exact this);replace QO:Fj ((ws.heap.size,wt.heap.size)::OH) _:=QO.mono fun p hp=>aA _ hp;replace V:=V.tr hb;generalize (ws.heap.size,wt.heap.size)::OH=sN at*
  obtain⟨asp,csp,rfl,-⟩:=S9.shape;rw[e9]at S9 ⊢;have RZ:=jL (n:=kn) (k:=4) be;have hsd:=(kR kn).2
  refine .inr (xb hτ lr (xs:=(du ds2).map (Value.int .i64)) (news:=(du (c9 kn)).map (Value.int .i64)) (m:=L.length) (k:=(c9 kn).length) cs cs bi cs cs (fun O J r=>⟨jD Pf QO r,fun g F=>QO.not r F⟩) (by simp[du]) (by intro u hu;simp at hu;obtain⟨_,_,rfl⟩:=hu;rfl) mx be
   (fun O J r=>?_) (fun v' I=>rB v') (fun O J v' I r Oj Qb=>tu QO r Qb) (fun O J v' I r h5 h6 h7=>?_))
  .obtain⟨_,_,_,a2,c2,e2,_,e3⟩:=S9;injection e2 with e4 e5 e6;subst e4 e6
   cases asp with
   |none=>
    have h0:(c9 kn).length=0:=by
     rcases bN (c9 kn).length with h0|h0
     .exact h0
     .obtain⟨ad2,q1,_⟩:=e3 0 _ (aB (show 0<((du (c9 kn)).map (Value.int .i64)).length by simp[du];exact h0))
      cases q1
    exact .inl ⟨csp,by rw[h0];rfl,h0⟩
   |some ad3=>
    refine .inr ⟨ad3,csp,rfl,fun j u hu=>?_⟩;obtain⟨ad2,q1,q2,q3⟩:=e3 j u hu;injection q1 with q1;subst q1;rw[cO (w:=wt) (I:=J) (by rw[eV];exact rls r oF q2)];exact q3
  replace V:Bq w I:=(V.tr r.cN).tr (jv.grown h6 (fun g F=>by
   have:=(ownsRow.low Pf g F).1;omega) r.cR)
  have hcat:(du ds2).map (Value.int .i64)++(du (c9 kn)).map (Value.int .i64)=(du (ds2++c9 kn)).map (Value.int .i64):=by rw[tv,aU]
  rw[hcat]at h5;have Qn:L.length+(c9 kn).length=(du (ds2++c9 kn)).length:=by rw[e9,aL,ds2_len]
  have Tt:Dg (ds2++c9 kn):=ds2_dg.append hsd;have Ps:(ds2++c9 kn).length<=1000000000:=by rw[aL,ds2_len];omega
  obtain⟨a3,c3,rfl,-⟩:=js h5;refine cD (cM (If:=fun _ J v' I=>∃lv,v'= .agg #[.bool false,lv]/\dF I (Nf J I) lv (db (gU (ds2++c9 kn)))) (fun O J r=>?_) ?_)
  .have h8:=jD h5 (Fj.row _) r;have h9:=qV h8 Qn mx;have h10:=EL (w:=J) (fun g F=>(ownsRow.low h8 g F).2) h9 Tt Ps;exact h10
  rintro O wp v1 wq r R hb ⟨lv,rfl,hL⟩;have VO:=hL.iR (S:=FF) r.cR (iv:=[(wp.heap.size,wq.heap.size)]) aI;have VO:dF wq (Cf w ((wp.heap.size,wq.heap.size)::rB (.slice a3 (L.length+(c9 kn).length) c3))) lv (db (gU (ds2++c9 kn))):=hL.cF fun g F=>F.iR r.cR aI;replace V:=V.tr hb;generalize (wp.heap.size,wq.heap.size)::rB (.slice a3 (L.length+(c9 kn).length) c3)=ivq at*
  obtain⟨hnz,hvv⟩:=z8 Tt;obtain⟨a4,n4,c4,rfl⟩:=VO.shape;have hcv: -dI L=lL (ds2++c9 kn):=by rw[Ts,wJ,(kR kn).1,ds2_len]
  obtain⟨pp,Px,hpp⟩:=VO.la;injection Px with hpe1 hpe2 hpe3;subst hpe1 hpe2 hpe3;have hlenpos:0<pp.ls.length:=by
   rw[hpp];rcases bN (db (gU (ds2++c9 kn))).length with h0|h0
   .rw[List.eq_nil_of_length_eq_zero h0]at hvv;simp[val]at hvv;omega
   .exact h0
  intro GT we re;refine⟨_,rfl,V.tr re.cN,db (gU (ds2++c9 kn)),⟨_,?_,VO.out re oF⟩,hnz,?_⟩
  .rw[bc hV];have:decide ((pp.ls.length:Int)>0)=true:=bc be;rw[<-this];rfl
  .have:((val (db (gU (ds2++c9 kn))):Nat):Int)= -dI L:=by rw[hvv,hcv]
   omega
 .have Q3:=aC Q3;obtain⟨kn,rfl⟩:∃kn:Nat,k=kn:=⟨k.toNat,be⟩
  have ds_len:ds.length=L.length:=Rz;have ds_dg:Dg ds:=hdg;refine cD (cM (If:=fun _ J v I=>de I (Nf J I) v (du (c9 kn))) (fun O J r=>by exact EK kn J be) ?_);rintro O ws vs wt r R hb hsp;have S9:de wt (Cf w ((ws.heap.size,wt.heap.size)::iv)) vs (du (c9 kn)):=de.cF hsp fun g F=>F.iR r.cR aI;replace OD:=ownsRow.cK (jD OD Pj r) fun g F=>R.block g (by have:=(ownsRow.low (jD OD Pj r) g F).2;exact this);replace Pj:Fj ((ws.heap.size,wt.heap.size)::iv) _:=Pj.mono fun p hp=>aA _ hp;replace V:=V.tr hb;generalize (ws.heap.size,wt.heap.size)::iv=sN at*
  obtain⟨asp,csp,rfl,-⟩:=S9.shape;rw[e9]at S9 ⊢;have RZ:=jL (n:=kn) (k:=4) be;have hsd:=(kR kn).2
  refine .inr (xb hτ lr (xs:=(du ds).map (Value.int .i64)) (news:=(du (c9 kn)).map (Value.int .i64)) (m:=L.length) (k:=(c9 kn).length) cs cs bi cs cs (fun O J r=>⟨jD OD Pj r,fun g F=>Pj.not r F⟩) (by simp[du]) (by intro u hu;simp at hu;obtain⟨_,_,rfl⟩:=hu;rfl) mx be
   (fun O J r=>?_) (fun v' I=>rB v') (fun O J v' I r Oj Qb=>tu Pj r Qb) (fun O J v' I r h5 h6 h7=>?_))
  .obtain⟨_,_,_,a2,c2,e2,_,e3⟩:=S9;injection e2 with e4 e5 e6;subst e4 e6
   cases asp with
   |none=>
    have h0:(c9 kn).length=0:=by
     rcases bN (c9 kn).length with h0|h0
     .exact h0
     .obtain⟨ad2,q1,_⟩:=e3 0 _ (aB (show 0<((du (c9 kn)).map (Value.int .i64)).length by simp[du];exact h0))
      cases q1
    exact .inl ⟨csp,by rw[h0];rfl,h0⟩
   |some ad3=>
    refine .inr ⟨ad3,csp,rfl,fun j u hu=>?_⟩;obtain⟨ad2,q1,q2,q3⟩:=e3 j u hu;injection q1 with q1;subst q1;rw[cO (w:=wt) (I:=J) (by rw[eV];exact rls r oF q2)];exact q3
  replace V:Bq w I:=(V.tr r.cN).tr (jv.grown h6 (fun g F=>by
   have:=(ownsRow.low OD g F).1;omega) r.cR)
  have hcat:(du ds).map (Value.int .i64)++(du (c9 kn)).map (Value.int .i64)=(du (ds++c9 kn)).map (Value.int .i64):=by rw[tv,aU]
  rw[hcat]at h5;have Qn:L.length+(c9 kn).length=(du (ds++c9 kn)).length:=by rw[e9,aL,ds_len]
  have Tt:Dg (ds++c9 kn):=ds_dg.append hsd;have Ps:(ds++c9 kn).length<=1000000000:=by rw[aL,ds_len];omega
  obtain⟨a3,c3,rfl,-⟩:=js h5;refine cD (cM (If:=fun _ J v' I=>∃lv,v'= .agg #[.bool false,lv]/\dF I (Nf J I) lv (db (gU (ds++c9 kn)))) (fun O J r=>?_) ?_)
  .have h8:=jD h5 (Fj.row _) r;have h9:=qV h8 Qn mx;have h10:=EL (w:=J) (fun g F=>(ownsRow.low h8 g F).2) h9 Tt Ps;exact h10
  rintro O wp v1 wq r R hb ⟨lv,rfl,hL⟩;have VO:=hL.iR (S:=FF) r.cR (iv:=[(wp.heap.size,wq.heap.size)]) aI;have VO:dF wq (Cf w ((wp.heap.size,wq.heap.size)::rB (.slice a3 (L.length+(c9 kn).length) c3))) lv (db (gU (ds++c9 kn))):=hL.cF fun g F=>F.iR r.cR aI;replace V:=V.tr hb;generalize (wp.heap.size,wq.heap.size)::rB (.slice a3 (L.length+(c9 kn).length) c3)=ivq at*
  obtain⟨hnz,hvv⟩:=z8 Tt;obtain⟨a4,n4,c4,rfl⟩:=VO.shape;intro GT we re;have hcv:dI L=lL (ds++c9 kn):=by rw[VM,wJ,(kR kn).1,ds_len]
  refine⟨_,rfl,V.tr re.cN,db (gU (ds++c9 kn)),⟨_,?_,VO.out re oF⟩,hnz,?_⟩
  .have:¬dI L<0:=by rw[hcv,<-hvv];omega
   rw[bL this];rfl
  .rw[hcv,<-hvv];rfl
theorem Mc(n:Int):dI [n.tmod 65536,(n.tdiv 65536).tmod 65536,(n.tdiv 65536).tdiv 65536]=n:=by
 simp only[dI]
 have Y:=Int.mul_tdiv_add_tmod n 65536;have X:=Int.mul_tdiv_add_tmod (n.tdiv 65536) 65536;omega
theorem mq(n:Int)(w:World)(Y: -9223372036854775808<=n)(X:n<=9223372036854775807):
  eC PG Fn.Df #[iV n] w (eI w fun v I=>dK I (Nf w I) v n):=by
 refine Di bv ?_;have b1:=vB n;have b2:=vB (n.tdiv 65536);have e1:=Int.mul_tdiv_add_tmod n 65536;have e2:=Int.mul_tdiv_add_tmod (n.tdiv 65536) 65536;have hsum:=Mc n;refine⟨bi,n.tmod 65536,rfl,bi,n.tdiv 65536,wo,bi,_,rfl,bi,n.tdiv 65536,wo,bi,(n.tdiv 65536).tdiv 65536,wo,?_⟩;generalize n.tmod 65536=c0 at*
 generalize (n.tdiv 65536).tmod 65536=c1 at*
 generalize (n.tdiv 65536).tdiv 65536=c2 at*
 refine cD (cM (If:=fun _ J v I=>dK I (Nf J I) v n) (fun O J r=>?_) ?_)
 .rw[<-hsum];have ha:=r.mO (id:=1) (sz:=1) (n:=3) rfl rfl bi (by intro u hu;simp at hu;rcases hu with rfl|rfl|rfl<;>rfl)
  exact vC (S:=fun g=>g=(O 1).g) (fun g F=>by rw[F];exact(r.low 1 _ rfl (r.nn 1 _ rfl (by intros;simp) bv)).2) (L:=[c0,c1,c2]) ha (by
   intro c hc;simp at hc
   rcases hc with rfl|rfl|rfl<;>omega) bv
 rintro O wa v1 wb r R hb hI;have hI:=hI.iR (S:=FF) r.cR (iv:=(wa.heap.size,wb.heap.size)::[]) aI;generalize (wa.heap.size,wb.heap.size)::[]=iv at*
 obtain⟨b,a,m,c,rfl⟩:=hI.shape;intro GT we re;exact⟨_,rfl,hb.tr re.cN,hI.out re oF⟩
def jz(z:Int):Value:=if z.natAbs<1073741824 then .tuple #[iV z,.bool true]else .tuple #[iV 0,.bool false]
theorem jR.EM(h:jR w S v z):∃b a ls c,v= .agg #[.bool b,.slice a ls.length c]/\dF w S (.slice a ls.length c) ls/\sg b (val ls)=z:=by
 obtain⟨b,ls,⟨lv,Y,X⟩,N⟩:=h;obtain⟨a,c,rfl,_⟩:=X.sl;exact⟨b,a,ls,c,Y,X,N⟩
theorem LO{x:Nat}(h:ls[i]? =some x):wt i*x<=val ls:=by
 have D:=(aD.1 h).1;have Y:=eX ls (i+1) D;rw[dU h]at Y;omega
theorem NN(h:0<i):4294967296<=wt i:=by
 obtain⟨k,rfl⟩:∃k,i=k+1:=⟨i-1,be⟩
 have:=xm k;rw[iW];omega
theorem tw(U:Old S w)(hI:jR w S v z):
  eC PG Fn.wE #[v] w (eI w fun v' _=>v'=jz z):=by
 obtain⟨b,a,ls,c,rfl,hL,hz⟩:=hI.EM;refine zL bv ?_;have hlen:=hL.le
 refine⟨Nat×World,fun y=>⟨[(1,pP 0 0),(4,.o (.v (iV (val (ls.take y.1))))),(5,iZ y.1)],[(0,.box T.Int [.v (.bool b),.v (.slice a ls.length c)])],1,[],y.2⟩,fun y=>ls.length-y.1,
  fun y=>y.1<=ls.length/\Bq w y.2/\val (ls.take y.1)<1073741824/\(∀j,0<j->j<y.1->ls[j]? =some 0),?_,?_⟩
 .intro O J r;exact⟨(0,J),⟨bv,r.cN,by simp[val],be⟩,sbgn [] r⟩
 rintro⟨i,w1⟩ ⟨D,V,hv,h0⟩;dsimp only at D V hv h0 ⊢;apply bS<;>intro Ny
 .have Ny:=dL Ny;obtain⟨a',c',e,_,Oz⟩:=hL.sl;injection e with e1 e2 e3;subst e1 e3;obtain⟨x,G⟩:=gO ls i;have Pe:=hL.lm x (aG G);obtain⟨ad,rfl,q1,q2⟩:=Oz i x G;have RE:∀{H nx iv O J},Rel H nx iv w.heap.size w1 O J->J.cell? (ad.add ((i:Int).toNat*1))=some (.int .u32 x):=fun r=>by
   rw[aJ,aw];exact kF U V r q1 q2
  have OC:=LO G;apply bS<;>intro hp
  .have hp:0<i:=by
    have:(i:Int)>0:=aE hp;omega
   have hw1:=NN hp;refine⟨ad,rfl,be,.int .u32 x,fun O J r=>RE r,?_⟩;apply bS<;>intro OB
   .have OB:x≠0:=by simpa using OB
    intro GT we re;refine⟨_,rfl,V.tr re.cN,?_⟩;have:¬z.natAbs<1073741824:=by
     have:=Nat.mul_le_mul hw1 (show 1<=x by omega);rw[<-hz,sI];omega
    show _=jz z;rw[jz,aF this];rfl
   .have OB:x=0:=by simpa using OB
    subst OB;refine⟨ad,rfl,be,.int .u32 0,fun O J r=>RE r,?_⟩;have PI:val (ls.take (i+1))=val (ls.take i):=by rw[dU G];omega
    have Qq:val (ls.take (i+1))<1073741824:=by rw[PI];exact hv
    have h02:∀j,0<j->j<i+1->ls[j]? =some 0:=fun j Y X=>by
     rcases aR j i with N|N
     .exact h0 j Y N
     .have:j=i:=by omega
      rw[this];exact G
    refine⟨ad,rfl,be,.int .u32 0,fun O J r=>RE r,((0:Nat):Int),bi,((val (ls.take (i+1)):Nat):Int),by rw[PI,wrap64]<;>omega,((i+1:Nat):Int),wo,?_⟩;intro IR w3 A;exact⟨(i+1,w3),⟨Ny,V.tr A.cN,Qq,h02⟩,sbgn [] A,dec Ny⟩
  .have hp:i=0:=by
    have:¬((i:Int)>0):=aC hp;omega
   subst hp;refine⟨ad,rfl,be,.int .u32 x,fun O J r=>RE r,?_⟩;apply bS<;>intro Uo
   .have Uo:=aE Uo;intro GT we re;refine⟨_,rfl,V.tr re.cN,?_⟩;have:¬z.natAbs<1073741824:=by
     rw[<-hz,sI];rw[jC]at OC;omega
    show _=jz z;rw[jz,aF this];rfl
   .have Uo:=aC Uo;have PI:val (ls.take (0+1))=x:=by rw[dU G];simp[val,jC]
    have Qq:val (ls.take (0+1))<1073741824:=by rw[PI];omega
    have h02:∀j,0<j->j<0+1->ls[j]? =some 0:=fun j Y X=>by
     omega
    refine⟨ad,rfl,be,.int .u32 x,fun O J r=>RE r,((x:Nat):Int),wo,((val (ls.take (0+1)):Nat):Int),by rw[PI,wrap64]<;>simp[val]<;>omega,((0+1:Nat):Int),wo,?_⟩;intro IR w3 A;exact⟨(0+1,w3),⟨Ny,V.tr A.cN,Qq,h02⟩,sbgn [] A,by dsimp only;omega⟩
 .have Ny:i=ls.length:=by
   have:¬i<ls.length:=by simpa using Ny
   omega
  subst Ny;rw[bG]at hv ⊢;have OT:z.natAbs<1073741824:=by rw[<-hz,sI];exact hv
  cases b with
  |true=>
   refine⟨-(val ls:Int),wo,?_⟩;intro GT we re;refine⟨_,rfl,V.tr re.cN,?_⟩;show _=jz z;rw[jz,aH OT,<-hz,Jj];rfl
  |false=>
   intro GT we re;refine⟨_,rfl,V.tr re.cN,?_⟩;show _=jz z;rw[jz,aH OT,<-hz,M3];rfl
theorem B1{a b:Int}(hb:b≠0):a.tdiv (b.sign*(Nat.gcd a.natAbs b.natAbs:Nat))=(Rat.divInt a b).num/\b.tdiv (b.sign*(Nat.gcd a.natAbs b.natAbs:Nat))=((Rat.divInt a b).den:Int):=by
 have F:0<Nat.gcd a.natAbs b.natAbs:=bq _ be;obtain⟨k,E⟩:((Nat.gcd a.natAbs b.natAbs:Nat):Int) ∣ a:=by rw[<-Int.natAbs_dvd_natAbs];exact Nat.gcd_dvd_left _ _
 obtain⟨l,hl⟩:((Nat.gcd a.natAbs b.natAbs:Nat):Int) ∣ b:=by rw[<-Int.natAbs_dvd_natAbs];exact Nat.gcd_dvd_right _ _
 have hc:(b.gcd a:Int)=(Nat.gcd a.natAbs b.natAbs:Nat):=by rw[Int.gcd_comm];rfl
 have RU:b.gcd a=Nat.gcd a.natAbs b.natAbs:=by rw[Int.gcd_comm];rfl
 rw[Rat.num_divInt,Rat.den_divInt,aF hb,hc,RU];generalize Nat.gcd a.natAbs b.natAbs=g at*
 have hgi:(g:Int)≠0:=by omega
 have hs:b.sign*b.sign=1:=by
  rcases Int.lt_or_gt_of_ne hb with h|h
  .rw[bj h];rfl
  .rw[bp h];rfl
 have hs0:b.sign≠0:=fun e=>by rw[e]at hs;simp at hs
 have OB:b.sign*g≠0:=Int.mul_ne_zero hs0 hgi;have QB:((b.natAbs / g:Nat):Int)=b.sign*l:=by
  rw[Int.natCast_ediv,show((b.natAbs:Nat):Int)=b.sign*b by
   rcases Int.lt_or_gt_of_ne hb with h|h
   .rw[bj h];omega
   .rw[bp h];omega]
  conv=>lhs;lhs;rhs;rw[hl]
  rw[show b.sign*(↑g*l)= ↑g*(b.sign*l) by rw[<-Int.mul_assoc,<-Int.mul_assoc,Int.mul_comm b.sign]];exact Int.mul_ediv_cancel_left _ hgi
 constructor
 .rw[show b.sign*a / (g:Int)=b.sign*k by
   conv=>lhs;lhs;rhs;rw[E]
   rw[show b.sign*(↑g*k)= ↑g*(b.sign*k) by rw[<-Int.mul_assoc,<-Int.mul_assoc,Int.mul_comm b.sign]]
   exact Int.mul_ediv_cancel_left _ hgi]
  conv=>lhs;lhs;rw[E,show(g:Int)*k=(b.sign*g)*(b.sign*k) by
   rw[show (b.sign* ↑g)*(b.sign*k)=(b.sign*b.sign)*(↑g*k) by simp only[Int.mul_assoc,Int.mul_comm,Int.mul_left_comm],hs,Int.one_mul]]
  exact Int.mul_tdiv_cancel_left _ OB
 .rw[QB]
  conv=>lhs;lhs;rw[hl,show(g:Int)*l=(b.sign*g)*(b.sign*l) by
   rw[show (b.sign* ↑g)*(b.sign*l)=(b.sign*b.sign)*(↑g*l) by simp only[Int.mul_assoc,Int.mul_comm,Int.mul_left_comm],hs,Int.one_mul]]
  exact Int.mul_tdiv_cancel_left _ OB
theorem B2(a b:Int)(w:World)(ha:a.natAbs<4611686018427387904)(hb:b.natAbs<4611686018427387904)(hb0:b≠0):
  eC PG Fn.tI #[iV a,iV b] w (eI w fun v I=>cY I (Nf w I) v (Rat.divInt a b)):=by
 refine wi bv ?_;refine⟨-a,wo,-b,wo,?_⟩;conv=>whnf
 rw[show max a (-a)=(a.natAbs:Int) by omega,show max b (-b)=(b.natAbs:Int) by omega]
 refine⟨Nat×Nat×World,fun z=>⟨[(0,iZ a),(1,iZ b),(4,pP 0 0),(5,iZ z.1),(6,iZ z.2.1)],[(0,.box T.Rat [.v (.bool false),.v nls,.v (.bool false),.v nls])],1,[],z.2.2⟩,fun z=>z.2.1,
  fun z=>Bq w z.2.2/\Nat.gcd z.1 z.2.1=Nat.gcd a.natAbs b.natAbs/\z.1<4611686018427387904/\z.2.1<4611686018427387904,?_,?_⟩
 .intro O J r;exact⟨(a.natAbs,b.natAbs,J),⟨r.cN,rfl,ha,hb⟩,sbgn [] r⟩
 rintro⟨x,y,w1⟩ ⟨V,F,G,hy⟩;dsimp only at V F G hy ⊢;conv=>whnf
 apply bS<;>intro h
 .have h:0<y:=by
   have:(y:Int)>0:=aE h;omega
  refine dP (idO 6) ?_;have hm:=bz x h;refine⟨be,((x % y:Nat):Int),rfl,?_⟩;intro IR w3 A;exact⟨(y,x % y,w3),⟨V.tr A.cN,by dsimp only;rw[<-F,Nat.gcd_comm x y,Nat.gcd_rec y x,Nat.gcd_comm],hy,by dsimp only;omega⟩,sbgn [] A,by dsimp only;omega⟩
 have h:y=0:=by
  have:¬(y:Int)>0:=aC h;omega
 subst h;rw[Nat.gcd_zero_right]at F;have hx0:x≠0:=by rw[F];exact Nat.pos_iff_ne_zero.1 (bq _ be)
 obtain⟨Z,hd⟩:=B1 (a:=a) hb0;rw[<-F]at Z hd;have bn:(Rat.divInt a b).num.natAbs<=a.natAbs:=by rw[<-Z];exact Int.natAbs_tdiv_le_natAbs _ _
 have bd:((Rat.divInt a b).den:Int).natAbs<=b.natAbs:=by rw[<-hd];exact Int.natAbs_tdiv_le_natAbs _ _
 apply bS<;>intro Om
 .have Om:=aE Om;rw[bj Om,Int.neg_one_mul]at Z hd;refine⟨-(x:Int),wo,?_⟩;refine dP [.x 0,.x 1,.x 2,.x 4,.x 5,.x 6,.x 3,.x 7,.x 8,.x 9] ?_;refine⟨be,(Rat.divInt a b).num,by rw[Z,wrap64]<;>omega,be,((Rat.divInt a b).den:Int),by rw[hd,wrap64]<;>omega,?_⟩;refine cM (If:=fun _ J v I=>dK I (Nf J I) v (Rat.divInt a b).num) (fun O J r=>mq _ J be be) ?_;rintro O wa v1 wb r R OO hI;replace V:=V.tr OO;have hN:=hI.iR (S:=FF) r.cR (iv:=(wa.heap.size,wb.heap.size)::[]) aI;generalize (wa.heap.size,wb.heap.size)::[]=iv at*
  obtain⟨b1,a1,m1,c1,rfl⟩:=hN.shape;refine cM (If:=fun _ J v I=>dK I (Nf J I) v ((Rat.divInt a b).den:Int)) (fun O J r=>mq _ J be be) ?_;rintro O wa v1 PO r R OO hI;replace V:=V.tr OO;replace hN:=hN.cH (K:=(wa.heap.size,PO.heap.size)::iv) r oF R fun x G=>aA _ G;have hD:=hI.iR (S:=FF) r.cR (iv:=(wa.heap.size,PO.heap.size)::iv) aI;generalize (wa.heap.size,PO.heap.size)::iv=OH at*
  obtain⟨b2,a2,m2,c2,rfl⟩:=hD.shape;exact rtn V fun GT we re=>(cY.of hN hD).out re oF
 .have Om:=aC Om;rw[bp be,Int.one_mul]at Z hd;refine dP [.x 0,.x 1,.x 2,.x 4,.x 5,.x 6,.x 3,.x 7,.x 8,.x 9] ?_;refine⟨be,(Rat.divInt a b).num,by rw[Z,wrap64]<;>omega,be,((Rat.divInt a b).den:Int),by rw[hd,wrap64]<;>omega,?_⟩;refine cM (If:=fun _ J v I=>dK I (Nf J I) v (Rat.divInt a b).num) (fun O J r=>mq _ J be be) ?_;rintro O wa v1 wb r R OO hI;replace V:=V.tr OO;have hN:=hI.iR (S:=FF) r.cR (iv:=(wa.heap.size,wb.heap.size)::[]) aI;generalize (wa.heap.size,wb.heap.size)::[]=iv at*
  obtain⟨b1,a1,m1,c1,rfl⟩:=hN.shape;refine cM (If:=fun _ J v I=>dK I (Nf J I) v ((Rat.divInt a b).den:Int)) (fun O J r=>mq _ J be be) ?_;rintro O wa v1 PO r R OO hI;replace V:=V.tr OO;replace hN:=hN.cH (K:=(wa.heap.size,PO.heap.size)::iv) r oF R fun x G=>aA _ G;have hD:=hI.iR (S:=FF) r.cR (iv:=(wa.heap.size,PO.heap.size)::iv) aI;generalize (wa.heap.size,PO.heap.size)::iv=OH at*
  obtain⟨b2,a2,m2,c2,rfl⟩:=hD.shape;exact rtn V fun GT we re=>(cY.of hN hD).out re oF
theorem tx(h:z.natAbs<1073741824):jz z= .tuple #[iV z,.bool true]:=aH h
theorem Cd{x y:Int}(U:Old S w)(G:jR w S v x)(hy:jR w S u y)(hxs:x.natAbs<1073741824)(hys:y.natAbs<1073741824)(PL:y≠0):
  eC PG Fn.rY #[v,u] w (eI w fun v' I=>cY I (Nf w I) v' (Rat.divInt x y)):=by
 have V:=bR w;replace G:=G.cF (S':=Cv S w.heap.size []) fun _ h=>.inl h;replace hy:=hy.cF (S':=Cv S w.heap.size []) fun _ h=>.inl h;obtain⟨bx,ax,lx,cx,rfl⟩:=G.shape;obtain⟨b2,ay,ly,cy,rfl⟩:=hy.shape;refine qu bv ?_;refine cD (cE V (pE (.tuple #[iV x,.bool true])) (fun O J r=>(tw (rlo r U) (G.rel r U)).mono fun e I ⟨v2,e1,e2,e3⟩=>⟨v2,e1,e2,by rw[e3,tx hxs]⟩) ?_);rintro O Ph v1 Pa OK r R V h_ rfl;replace G:=G.cH r U R (mC h_);replace hy:=hy.cH r U R (mC h_);refine cD (cE V (pE (.tuple #[iV y,.bool true])) (fun O J r=>(tw (rlo r U) (hy.rel r U)).mono fun e I ⟨v2,e1,e2,e3⟩=>⟨v2,e1,e2,by rw[e3,tx hys]⟩) ?_);rintro O _ v1 _ OH r R V h_ rfl;refine cD (cE V (pR cY (Rat.divInt x y)) (fun O J r=>B2 x y J be be PL) ?_);rintro O _ _ _ iv r R V h_ hI;have hR:=hI.cF (nw r h_);obtain⟨b1,a1,m1,c1,b3,a3,m3,c3,rfl⟩:=hR.shape;exact rtn V fun GT we re=>hR.out re oF
theorem Fm(n:Int):Rat.divInt n 1=(n:Rat):=by
 have:=Rat.num_divInt_den (n:Rat);rw[Rat.num_intCast,Rat.den_intCast]at this;exact this
theorem zU(n:Int)(w:World)(Z:n.natAbs<1073741824):
  eC PG Fn.vX #[iV n] w (eI w fun v' I=>cY I (Nf w I) v' (n:Rat)):=by
 have V:=bR w;refine yw bv ?_;refine cD (cM (If:=fun _ J v I=>dK I (Nf J I) v n) (fun O J r=>mq _ J be be) ?_);rintro O wa v1 wb r R OO hI;replace V:=V.tr OO;have hN:=hI.iR (S:=FF) r.cR (iv:=(wa.heap.size,wb.heap.size)::[]) aI;generalize (wa.heap.size,wb.heap.size)::[]=iv at*
 obtain⟨b1,a1,m1,c1,rfl⟩:=hN.shape;refine cD (cM (If:=fun _ J v I=>dK I (Nf J I) v 1) (fun O J r=>mq _ J be be) ?_);rintro O wa v1 PO r R OO hI;replace V:=V.tr OO;replace hN:=hN.cH (K:=(wa.heap.size,PO.heap.size)::iv) r oF R fun x G=>aA _ G;have hD:=hI.iR (S:=FF) r.cR (iv:=(wa.heap.size,PO.heap.size)::iv) aI;generalize (wa.heap.size,PO.heap.size)::iv=OH at*
 obtain⟨b2,a2,m2,c2,rfl⟩:=hD.shape;refine cD (cE V (pR cY (Rat.divInt n 1)) (fun O J r=>Cd (rlo r oF) (hN.rel r oF).r (hD.rel r oF).r Z bi bi) ?_);rintro O _ _ _ iv r R V h_ hI;have hR:=hI.cF (nw r h_);obtain⟨b1,a1,m1,c1,b3,a3,m3,c3,rfl⟩:=hR.shape;rw[Fm]at hR;exact rtn V fun GT we re=>hR.out re oF
theorem LP{n1 n2:Bool}{ms:List Nat}(U:Old S w)(G:tm w S v n1 ls)(hy:tm w S u n2 ms):
  eC PG Fn.mK #[v,u] w (eI w fun v' _=>v'= .bool (decide (n1=n2/\ls=ms))):=by
 obtain⟨lv,rfl,Y⟩:=G;obtain⟨mv,rfl,X⟩:=hy;obtain⟨a,c,rfl,_,ha⟩:=Y.sl;obtain⟨b,e,rfl,_,hb⟩:=X.sl;have hle1:=Y.le;have To:=X.le;have V:=bR w;refine ug bv ?_;apply bS<;>intro Z
 .have Z:n1≠n2:=fun h=>by rw[h]at Z;simp at Z
  intro O I r;exact⟨_,rfl,r.cN,by rw[bL (fun h=>Z h.1)];rfl⟩
 have Z:n1=n2:=by simpa using Z
 subst Z;apply bS<;>intro h
 .have h:ls.length≠ms.length:=fun R=>by rw[R]at h;simp at h
  intro O I r;exact⟨_,rfl,r.cN,by rw[bL (fun e=>h (by rw[e.2]))];rfl⟩
 have h:ls.length=ms.length:=by
  have:(ls.length:Int)=ms.length:=by simpa using h
  omega
 refine⟨Nat×World,fun z=>⟨[(2,pP 0 0),(3,pP 1 0),(5,iZ z.1)],[(1,.box T.Int [.v (.bool n1),.v (.slice b ms.length e)]),(0,.box T.Int [.v (.bool n1),.v (.slice a ls.length c)])],2,[],z.2⟩,fun z=>ls.length-z.1,
  fun z=>z.1<=ls.length/\Bq w z.2/\ls.take z.1=ms.take z.1,?_,?_⟩
 .intro O J r;exact⟨(0,J),⟨bv,r.cN,bv⟩,sbgn [] r⟩
 rintro⟨i,w1⟩ ⟨D,V,ht⟩;dsimp only at D V ht ⊢;apply bS<;>intro Ny
 .have Ny:=dL Ny;obtain⟨x,G⟩:=gO ls i;obtain⟨y,hy⟩:=gO ms i;obtain⟨ad,rfl,q1,q2⟩:=ha i x G;obtain⟨ad2,rfl,q3,q4⟩:=hb i y hy;have OZ:∀{H nx iv O J},Rel H nx iv w.heap.size w1 O J->J.cell? (ad.add ((i:Int).toNat*1))=some (.int .u32 x):=fun r=>by
   rw[aJ,aw];exact kF U V r q1 q2
  have PS:∀{H nx iv O J},Rel H nx iv w.heap.size w1 O J->J.cell? (ad2.add ((i:Int).toNat*1))=some (.int .u32 y):=fun r=>by
   rw[aJ,aw];exact kF U V r q3 q4
  refine dP (idO 11) ?_;refine⟨ad,rfl,be,.int .u32 x,fun O J r=>OZ r,ad2,rfl,be,.int .u32 y,fun O J r=>PS r,?_⟩;apply bS<;>intro OB
  .have OB:x≠y:=fun h=>by rw[h]at OB;simp at OB
   intro O I r;refine⟨_,rfl,V.tr r.cN,?_⟩
   rw[bL (fun e=>OB (by
    have:=e.2;rw[this,hy]at G;injection G with G
    exact G.symm))]
   rfl
  have OB:x=y:=by
   have:(x:Int)=y:=by simpa using OB
   omega
  subst OB;have RS:ls.take (i+1)=ms.take (i+1):=by rw[aY,aY,ht,G,hy]
  refine inc i ?_;intro IR w3 A;exact⟨(i+1,w3),⟨Ny,V.tr A.cN,RS⟩,sbgn [] A,dec Ny⟩
 have Ny:i=ls.length:=by
  have:¬i<ls.length:=by simpa using Ny
  omega
 subst Ny;rw[bG,h,bG]at ht;intro O I r;exact⟨_,rfl,V.tr r.cN,by rw[bc ⟨rfl,ht⟩];rfl⟩
theorem Hx{a:List Nat}(la:Lm a)(lb:Lm b)(na:Nz a)(nb:Nz b)(h:val a=val b):a=b:=by
 have:a.length=b.length:=by
  rcases bw a.length b.length with Y|Y|Y
  .have:=iX la nb Y;omega
  .exact Y
  .have:=iX lb na Y;omega
 exact val_inj la lb this h
theorem B3{x y:Int}(U:Old S w)(G:dK w S v x)(hy:dK w S u y):
  eC PG Fn.mK #[v,u] w (eI w fun v' _=>v'= .bool (decide (x=y))):=by
 obtain⟨ls,Y,X,N⟩:=G;obtain⟨ms,k1,k2,k3⟩:=hy;have e:decide (decide (x<0)=decide (y<0)/\ls=ms)=decide (x=y):=by
  refine decide_eq_decide.2 ⟨fun ⟨e1,e2⟩=>?_,fun e1=>?_⟩
  .have e1:=decide_eq_decide.1 e1;rw[e2]at N;omega
  .subst e1;obtain⟨_,_,l1⟩:=Y;obtain⟨_,_,l2⟩:=k1;exact⟨rfl,Hx l1.lm l2.lm X k2 be⟩
 exact(LP U Y k1).mono fun _ I ⟨v2,e1,e2,e3⟩=>⟨v2,e1,e2,by rw[e3,e]⟩
theorem Jw{p:Rat}(U:Old S w)(G:cY w S v p)(hy:cY w S u q):
  eC PG Fn.yg #[v,u] w (eI w fun v' _=>v'= .bool (decide (p=q))):=by
 obtain⟨b1,a1,n1,c1,b2,a2,n2,c2,rfl⟩:=G.shape;obtain⟨b3,a3,n3,c3,b4,a4,n4,c4,rfl⟩:=hy.shape;refine zy bv ?_;refine cD (cM (If:=fun _ J v I=>v= .bool (decide (p.num=q.num))) (fun O J r=>B3 (oS U r) (G.num.cK fun g F=>r.cN.block g (U g F)) (hy.num.cK fun g F=>r.cN.block g (U g F))) ?_);rintro O wa v1 wb r R hb rfl;have V:=hb;generalize (wa.heap.size,wb.heap.size)::[]=iv at*
 apply bS<;>intro h
 .have h:=aE h;refine cD (cE V (pE (.bool (decide ((p.den:Int)=q.den)))) (fun O J r=>B3 (oS U r) (G.den.cK (kS V r U)) (hy.den.cK (kS V r U))) ?_);rintro O _ _ _ OH r R V h_ rfl;intro GT we re;refine⟨_,rfl,V.tr re.cN,?_⟩;have:decide (p=q)=decide ((p.den:Int)=q.den):=decide_eq_decide.2 ⟨fun e=>by rw[e],fun e=>Rat.ext h be⟩;rw[this];rfl
 .have h:=aC h;intro GT we re;refine⟨_,rfl,V.tr re.cN,?_⟩;rw[bL (fun e=>h (by rw[e]))];rfl
theorem zZ{xs ys:List Rat}(U:Old S w)(G:cP w S v xs)(hy:cP w S u ys):
  eC PG Fn.pG #[v,u] w (eI w fun v' _=>v'= .bool (decide (xs=ys))):=by
 obtain⟨a,c,rfl,hc,hm⟩:=eM.shape G;obtain⟨b,e,rfl,RU,VH⟩:=eM.shape hy;unfold maxLen at hm VH;refine tR bv ?_;apply bS<;>intro h
 .have h:xs.length≠ys.length:=fun R=>by rw[R]at h;simp at h
  intro O I r;exact⟨_,rfl,r.cN,by rw[bL (fun e=>h (by rw[e]))];rfl⟩
 have h:xs.length=ys.length:=by
  have:(xs.length:Int)=ys.length:=by simpa using h
  omega
 refine⟨Nat×World,fun z=>⟨[(0,sV a xs.length c),(1,sV b ys.length e),(5,iZ z.1)],[],0,[],z.2⟩,fun z=>xs.length-z.1,
  fun z=>z.1<=xs.length/\Bq w z.2/\xs.take z.1=ys.take z.1,?_,?_⟩
 .intro O J r;exact⟨(0,J),⟨bv,r.cN,bv⟩,sbgn [] r⟩
 rintro⟨i,w1⟩ ⟨D,V,ht⟩;dsimp only at D V ht ⊢;apply bS<;>intro Ny
 .have Ny:=dL Ny;obtain⟨x,PN⟩:=gO xs i;obtain⟨y,UB⟩:=gO ys i;obtain⟨ad2,cs2,rfl,QZ,-,Ps⟩:=eM.load hy UB;obtain⟨p2,q2,r2,s2,t2,u2,v2,I,rfl,QZ⟩:=QZ;obtain⟨ad,L,rfl,hR,-,hl⟩:=eM.load G PN;obtain⟨p1,q1,r1,s1,t1,u1,v1,w1,rfl,hR⟩:=hR;refine dP (idO 10) ?_;refine⟨ad,rfl,be,rC p1 q1 r1 s1 t1 u1 v1 w1,rfl,rdO hl V U,ad2,rfl,be,rC p2 q2 r2 s2 t2 u2 v2 I,rfl,rdO Ps V U,?_⟩;refine cE V (pE (.bool (decide (x=y)))) (fun O J r=>Jw (oS U r) (hR.cK (kS V r U)) (QZ.cK (kS V r U))) ?_;rintro O _ _ _ OH r R V h_ rfl;apply bS<;>intro OB
  .have OB:x≠y:=fun h=>by rw[h]at OB;simp at OB
   intro O I r;refine⟨_,rfl,V.tr r.cN,?_⟩
   rw[bL (fun e=>OB (by
    rw[e,UB]at PN;injection PN with PN
    exact PN.symm))]
   rfl
  have OB:x=y:=by simpa using OB
  subst OB;have RS:xs.take (i+1)=ys.take (i+1):=by rw[aY,aY,ht,PN,UB]
  refine inc i ?_;intro IR w3 A;exact⟨(i+1,w3),⟨Ny,V.tr A.cN,RS⟩,sbgn [] A,dec Ny⟩
 have Ny:i=xs.length:=by
  have:¬i<xs.length:=by simpa using Ny
  omega
 subst Ny;rw[bG,h,bG]at ht;intro O I r;exact⟨_,rfl,V.tr r.cN,by rw[bc ht];rfl⟩
theorem cY.BF{b b2:Bool}{a a2:Option Addr}{n c n2 c2:Nat}(h:cY w S (.agg #[.bool b,.slice a n c,.bool b2,.slice a2 n2 c2]) q):jV w S (rC b a n c b2 a2 n2 c2) q:=
 ⟨b,a,n,c,b2,a2,n2,c2,rfl,h⟩
theorem Rel.lt(r:Rel H nx iv B w O J){id t:Nat}{L:List At}(h:cw H id=some (.box t L)):(O id).g<J.heap.size:=(r.low id _ h (r.nn id _ h (by intros;simp) bv)).2
end Go.Ex
namespace Go.Ex
variable{L:List Int}{ls:List Nat}{i:Nat}
def fT(f:Nat->Int):Nat->Int
 |0=>0
 |n+1=>f 0+65536*fT (fun i=>f (i+1)) n
theorem yc(f:Nat->Int)(n:Nat):dI ((List.range n).map f)=fT f n:=by
 induction n generalizing f with
 |zero=>rfl
 |succ n ih=>
  rw[List.range_succ_eq_map,List.map_cons,List.map_map,dI,fT,<-ih];rfl
theorem yd(f g:Nat->Int)(n:Nat):fT (fun i=>f i+g i) n=fT f n+fT g n:=by
 induction n generalizing f g with
 |zero=>rfl
 |succ n ih=>simp only[fT,ih];omega
theorem FC(k:Int)(f:Nat->Int)(n:Nat):fT (fun i=>k*f i) n=k*fT f n:=by
 induction n generalizing f with
 |zero=>simp[fT]
 |succ n ih=>simp only[fT,ih,Int.mul_add];rw[Int.mul_left_comm]
theorem vU{f:Nat->Int}{n:Nat}(h:∀i,i<n->f i=0):fT f n=0:=by
 induction n generalizing f with
 |zero=>rfl
 |succ n ih=>rw[fT,h 0 be,ih fun i D=>h (i+1) be];rfl
theorem pA(a:List Int)(n:Nat)(h:a.length<=n):fT (fun i=>a.getD i 0) n=dI a:=by
 induction a generalizing n with
 |nil=>exact vU fun i _=>by simp
 |cons c r ih=>
  obtain⟨m,rfl⟩:∃m,n=m+1:=⟨n-1,by simp at h;omega⟩
  have e:=ih m (by simpa using h);rw[fT,dI,<-e];simp[List.getD]
def iF(a b:List Int)(i:Nat):Nat->Int
 |0=>0
 |k+1=>iF a b i k+a.getD k 0*(if k<=i then b.getD (i-k) 0 else 0)
def fh(a b:List Int)(i:Nat):Int:=iF a b i (i+1)
theorem H9(b:List Int)(i k:Nat):iF [] b i k=0:=by
 induction k with
 |zero=>rfl
 |succ k ih=>rw[iF,ih];simp
theorem FD(c:Int)(r b:List Int)(i k:Nat):iF (c::r) b (i+1) (k+1)=c*b.getD (i+1) 0+iF r b i k:=by
 induction k with
 |zero=>simp[iF]
 |succ k ih=>
  rw[iF,ih,iF];have e:(c::r).getD (k+1) 0=r.getD k 0:=by simp[List.getD]
  rw[e];have e2:(if k+1<=i+1 then b.getD (i+1-(k+1)) 0 else 0)=(if k<=i then b.getD (i-k) 0 else 0):=by
   by_cases h:k<=i
   .rw[aH h,aH be,show i+1-(k+1)=i-k by omega]
   .rw[aF h,aF be]
  rw[e2,Int.add_assoc]
theorem Da(c:Int)(r b:List Int)(i:Nat):fh (c::r) b (i+1)=c*b.getD (i+1) 0+fh r b i:=FD c r b i (i+1)
theorem Db(c:Int)(r b:List Int):fh (c::r) b 0=c*b.getD 0 0:=by simp[fh,iF]
theorem JM(a b:List Int)(n:Nat)(h:a.length+b.length<=n+1):fT (fh a b) n=dI a*dI b:=by
 induction a generalizing n with
 |nil=>
  rw[show fh [] b=fun _=>(0:Int)from funext fun i=>H9 b i _,vU fun _ _=>rfl];simp[dI]
 |cons c r ih=>
  cases n with
  |zero=>
   have hb:b=[]:=List.eq_nil_of_length_eq_zero (by simp at h;omega);subst hb;simp[fT,dI]
  |succ m=>
   have e1:fT (fh (c::r) b) (m+1)=fT (fun i=>c*b.getD i 0) (m+1)+65536*fT (fh r b) m:=by
    have e2:fT (fun i=>fh (c::r) b (i+1)) m=fT (fun i=>c*b.getD (i+1) 0) m+fT (fh r b) m:=by
     rw[<-yd];congr 1
     funext i
     exact Da c r b i
    rw[fT,fT,e2,Db,Int.mul_add];omega
   have h':r.length+b.length<=m+1:=by simp at h;omega
   rw[e1,ih m h',FC,pA b (m+1) be,dI,Int.add_mul,Int.mul_assoc]
theorem FE(a b:List Int)(i k k0:Nat)(h0:∀j,j<k0->b.length<=i-j)(E:k0<=i+1)(h:k<=k0):iF a b i k=0:=by
 induction k with
 |zero=>rfl
 |succ k ih=>
  rw[iF,ih be,aH be];have:b.getD (i-k) 0=0:=by rw[List.getD,List.getElem?_eq_none (h0 k be)];rfl
  rw[this];simp
theorem FG(a b:List Int)(i k m:Nat)(h:a.length<=k):iF a b i (k+m)=iF a b i k:=by
 induction m with
 |zero=>rfl
 |succ m ih=>
  rw[<-Nat.add_assoc,iF,ih];have:a.getD (k+m) 0=0:=by rw[List.getD,List.getElem?_eq_none be];rfl
  rw[this];simp
theorem lX{a b:List Int}(ha:∀x∈a,-65535<=x/\x<=65535)(hb:∀x∈b,-65535<=x/\x<=65535)(k:Nat):(iF a b i k).natAbs<=4294836225*k:=by
 have key:∀(l:List Int) (j:Nat),(∀x∈l,-65535<=x/\x<=65535)->(l.getD j 0).natAbs<=65535:=fun l j h=>by
  rw[List.getD]
  cases hj:l[j]? with
  |none=>simp
  |some d=>have:=h d (aG hj);simp;omega
 induction k with
 |zero=>simp[iF]
 |succ k ih=>
  rw[iF];have Y:=key a k ha;have X:(if k<=i then b.getD (i-k) 0 else 0).natAbs<=65535:=by
   split
   .exact key b _ hb
   .simp
  have N:=Nat.mul_le_mul Y X;rw[<-Int.natAbs_mul]at N;generalize a.getD k 0*(if k<=i then b.getD (i-k) 0 else 0)=p at*
  omega
def di(s:Int):List Nat->List Int
 |[]=>[]
 |l::r=>s*((l % 65536:Nat):Int)::s*((l / 65536:Nat):Int)::di s r
theorem Bt(s:Int)(ls:List Nat):dI (di s ls)=s*(val ls:Int):=by
 induction ls with
 |nil=>simp[di,dI,val]
 |cons l r ih=>
  rw[di,dI,dI,ih,val];have e1:((l+4294967296*val r:Nat):Int)=((l % 65536:Nat):Int)+65536*((l / 65536:Nat):Int)+4294967296*((val r:Nat):Int):=by omega
  rw[e1,Int.mul_add,Int.mul_add,Int.mul_add];rw[Int.mul_left_comm 65536 s,Int.mul_left_comm s 65536,Int.mul_left_comm s 4294967296];omega
theorem oH(s:Int)(a b:List Nat):di s (a++b)=di s a++di s b:=by
 induction a with
 |nil=>rfl
 |cons l r ih=>simp[di,ih]
theorem gp(s:Int)(ls:List Nat):(di s ls).length=2*ls.length:=by
 induction ls with
 |nil=>rfl
 |cons l r ih=>simp[di,ih];omega
theorem ye{s:Int}(hs:s=1\/s= -1)(h:Lm ls):∀c∈di s ls,-65535<=c/\c<=65535:=by
 induction ls with
 |nil=>intro c hc;cases hc
 |cons l r ih=>
  have hl:=h l aI;intro c hc;rw[di]at hc;rcases List.mem_cons.1 hc with rfl|hc
  .rcases hs with rfl|rfl<;>omega
  rcases List.mem_cons.1 hc with rfl|hc
  .rcases hs with rfl|rfl<;>omega
  .exact ih (fun x G=>h x (aA _ G)) c hc
theorem wR(h:Lm ls):∀c∈di 1 ls,0<=c/\c<=65535:=fun c hc=>by
 induction ls with
 |nil=>cases hc
 |cons l r ih=>
  have hl:=h l aI;rw[di]at hc;rcases List.mem_cons.1 hc with rfl|hc
  .omega
  rcases List.mem_cons.1 hc with rfl|hc
  .omega
  .exact ih (fun x G=>h x (aA _ G)) hc
theorem Dc{c:Int}(h:L[i]? =some c):dI (L.drop i)=c+65536*dI (L.drop (i+1)):=by
 rw[List.drop_eq_getElem_cons (aD.1 h).1,dI];have:=(aD.1 h).2;rw[this]
end Go.Ex
namespace Go.Ex
open Go Go.Sx Go.Proofs
variable{ls:List Nat}{S:Nat->Prop}
theorem KD{k:Nat}(h:Lm ls)(hl:ls.length<=k):ln (val ls)<=k:=gC.2 (Nat.lt_of_lt_of_le (nG h) (Al hl))
theorem Cv.false{B:Nat}{iv:Iv}{g:Nat}(h:Cv FF B iv g):Cv S B iv g:=h.elim (fun h=>h.elim) .inr
end Go.Ex
