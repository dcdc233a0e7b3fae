/- Texts X78 to X131: lemmas, each with its conditions. -/
import Derived.Test.YtgkpbdkechfgmaaGreatP6
namespace Go.Ex
open Go Go.Sx Go.Proofs
variable{L:List Value}{j:Nat}{S:Nat->Prop}{a a1 a2:Option Addr}{q:Rat}
theorem jV.len{w:World}(h:jV w S L q):L.length=4:=by obtain⟨_,_,_,_,_,_,_,_,rfl,_⟩:=h;rfl
def Fc(w:World)(S:Nat->Prop)(W:List (List Value))(qs:List Rat):Prop:=W.length=qs.length/\∀(j:Nat) L q,W[j]? =some L->qs[j]? =some q->jV w S L q
section
variable{S S':Nat->Prop}{w I:World}{L:List Value}{W:List (List Value)}{q:Rat}{qs:List Rat}
theorem Fc.cK(h:Fc w S W qs)(E:∀g,S g->I.heap[g]? =w.heap[g]?):Fc I S W qs:=⟨h.1,fun j L q Y X=>(h.2 j L q Y X).cK E⟩
theorem Fc.cF(h:Fc w S W qs)(E:∀g,S g->S' g):Fc w S' W qs:=⟨h.1,fun j L q Y X=>(h.2 j L q Y X).cF E⟩
theorem Fc.AK(h:Fc w S W qs):∀L∈W,L.length=4:=fun L hc=>by
 obtain⟨j,hj⟩:=aT hc;have hl:=(aD.1 hj).1;exact(h.2 j L _ hj (aB (by rw[<-h.1];exact hl))).len
theorem Fc.one(h:Fc w S W qs):∀u∈W.flatten,u.oneCell'=true:=fun u hu=>by
 obtain⟨L,hc,hu⟩:=List.mem_flatten.1 hu;obtain⟨j,hj⟩:=aT hc;have hl:=(aD.1 hj).1;obtain⟨_,_,_,_,_,_,_,_,rfl,_⟩:=h.2 j L _ hj (aB (by rw[<-h.1];exact hl));simp at hu;rcases hu with rfl|rfl|rfl|rfl<;>rfl
theorem Fc.set(h:Fc w S W qs)(hq:jV w S L q):Fc w S (W.set j L) (qs.set j q):=by
 refine⟨by simp[h.1],fun i c p Y X=>?_⟩;by_cases PR:j=i
 .subst PR;have hl:=(aD.1 Y).1;rw[aW (by simpa using hl)]at Y;rw[aW (by have:=h.1;simp at hl;omega)]at X;injection Y with Y;injection X with X;subst Y X;exact hq
 .rw[bC PR]at Y X;exact h.2 i c p Y X
end
def fz(w:World)(C S:Nat->Prop)(v:Value)(qs:List Rat):Prop:=∃W,jW w C 4 v W.flatten qs.length/\Fc w S W qs
section
variable{C C' S S':Nat->Prop}{H:Hp}{nx:Nat}{iv K:Iv}{B:Nat}{w J I:World}{O:Nat->Sx.da}{v:Value}{qs:List Rat}
theorem fz.cK(h:fz w C S v qs)(E:∀g,C g\/S g->I.heap[g]? =w.heap[g]?):fz I C S v qs:=by
 obtain⟨W,Y,X⟩:=h;exact⟨W,Y.cK fun g F=>E g (.inl F),X.cK fun g F=>E g (.inr F)⟩
theorem fz.cF(h:fz w C S v qs)(E:∀g,C g->C' g)(US:∀g,S g->S' g):fz w C' S' v qs:=by
 obtain⟨W,Y,X⟩:=h;exact⟨W,Y.cF E,X.cF US⟩
end
def iG(w:World)(S:Nat->Prop)(v:Value)(n:Nat)(qs:List Rat):Prop:=∃W,w.ownsRow 0 T.Rat 4 v n W.flatten/\W.length=n/\Fc w S W qs
section
variable{S S' C:Nat->Prop}{H:Hp}{nx n:Nat}{iv K:Iv}{B:Nat}{w J I:World}{O:Nat->Sx.da}{v:Value}{qs:List Rat}
theorem iG.cK(h:iG w S v n qs)(E:∀g,S g\/v.ownBlock=some g->I.heap[g]? =w.heap[g]?):iG I S v n qs:=by
 obtain⟨W,Y,X,N⟩:=h;exact⟨W,ownsRow.cK Y fun g F=>E g (.inr F),X,N.cK fun g F=>E g (.inl F)⟩
theorem iG.cF(h:iG w S v n qs)(E:∀g,S g->S' g):iG w S' v n qs:=by
 obtain⟨W,Y,X,N⟩:=h;exact⟨W,Y,X,N.cF E⟩
theorem iG.len(h:iG w S v n qs):qs.length=n:=by
 obtain⟨W,Y,X,N⟩:=h;rw[<-N.1,X]
theorem iG.form(h:iG w S v n qs):∃a c,v= .slice a n c/\n<=c:=by
 obtain⟨W,Y,X,N⟩:=h;exact js Y
theorem iG.le(h:iG w S v n qs):n<=maxLen:=by
 obtain⟨W,Y,X,N⟩:=h;rcases Y.2 with⟨_,h0⟩|⟨_,_,_,_,_,_,Y,X,_⟩
 .omega
 .omega
theorem iG.read(h:iG w S v n qs):fz w (fun g=>v.ownBlock=some g) S v qs:=by
 have hl:=h.len;have Z:=h.le;obtain⟨W,Y,X,N⟩:=h;refine⟨W,?_,N⟩;rw[hl];rcases Y.2 with⟨rfl,rfl⟩|⟨g,cap,cur,rfl,hb,hc,UP,QF,Oj,RQ⟩
 .refine⟨Z,Y.1,N.one,none,0,rfl,lr,fun j u hu=>?_⟩;have:=Y.1;rw[Nat.zero_mul]at this;rw[List.eq_nil_of_length_eq_zero this]at hu
  cases hu
 .refine⟨Z,Y.1,N.one,_,cap,rfl,UP,fun j u hu=>⟨_,rfl,rfl,?_⟩⟩;exact Y.cells (g:=g) rfl j u hu
theorem iG.store{c n1 c1 n2 c2:Nat}{b b2:Bool}(h:iG w S (.slice a n c) n qs)(hj:j<n)(hf:cY w S (.agg #[.bool b,.slice a1 n1 c1,.bool b2,.slice a2 n2 c2]) q)(hoff:∀g,(Value.slice a n c).ownBlock=some g->¬S g)(U:Old S w):
  ∃g,a=some ⟨g,0,none⟩/\((⟨g,0,none⟩:Addr).add ((j:Int).toNat*4)).spot=none/\((⟨g,0,none⟩:Addr).add ((j:Int).toNat*4)).block=g/\
   (∀k,k<4->(w.cell? (((⟨g,0,none⟩:Addr).add ((j:Int).toNat*4)).add k)).isSome=true/\w.frozen? (((⟨g,0,none⟩:Addr).add ((j:Int).toNat*4)).add k)=false)/\
   ∀I,I=setCells w ((⟨g,0,none⟩:Addr).add ((j:Int).toNat*4)) (rC b a1 n1 c1 b2 a2 n2 c2)->iG I S (.slice a n c) n (qs.set j q)/\w.grownBy I (some g)/\I.heap.size=w.heap.size:=by
 obtain⟨W,Y,X,N⟩:=h;obtain⟨g,rfl,OE,QA,PK,Oj⟩:=om (nv:=rC b a1 n1 c1 b2 a2 n2 c2) Y rfl hj rfl bi;have OX:(⟨g,0,none⟩:Addr).add ((j:Int).toNat*4)=⟨g,j*4,none⟩:=by rw[aJ,dS,aX]
 refine⟨g,rfl,by rw[OX],by rw[OX],fun k E=>by rw[OX];exact OE k E,fun I PA=>?_⟩;rw[OX]at PA;subst PA;have Td:=jr (L:=rC b a1 n1 c1 b2 a2 n2 c2) N.AK (show j<W.length by omega);rw[Td]at QA;have QD:∀x,S x->(setCells w ⟨g,j*4,none⟩ (rC b a1 n1 c1 b2 a2 n2 c2)).heap[x]? =w.heap[x]? :=fun x G=>
  PK.block x (U x G) fun e=>hoff g rfl (by injection e with e;rw[<-e];exact G)
 exact⟨⟨_,QA,by simpa using X,(N.cK QD).set (hf.cK QD).BF⟩,PK,Oj⟩
structure eA(w:World)(S:Nat->Prop)(B:Nat)(iv:Iv)(v:Value)(n:Nat)(qs:List Rat):Prop where
 row:iG w (fun g=>Cv S B iv g/\v.ownBlock≠some g) v n qs
 new:∀g,v.ownBlock=some g->Cv FF B iv g
theorem eA.cK(h:eA w S B iv v n qs)(E:∀g,Cv S B iv g->I.heap[g]? =w.heap[g]?):eA I S B iv v n qs:=
 ⟨h.row.cK fun g F=>E g (F.elim (fun h=>h.1) fun F=>(h.new g F).elim (fun h=>h.elim) .inr),h.new⟩
theorem eA.rel(h:eA w S B iv v n qs)(r:Rel H nx iv B w O J)(U:∀g,S g->g<B):eA J S B iv v n qs:=h.cK fun _ F=>rls r U F
theorem eA.cH(h:eA w S B iv v n qs)(r:Rel H nx iv B w O J)(U:∀g,S g->g<B)(R:Ext J I)(hm:∀p,p∈iv->p∈K):eA I S B K v n qs:=
 have X:=(h.rel r U).cK fun g F=>R.block g (rlo r U g F)
 ⟨X.row.cF fun _ F=>⟨F.1.mono hm,F.2⟩,fun g F=>(X.new g F).mono hm⟩
theorem eA.iR(h:eA I FF J.heap.size [(J.heap.size,I.heap.size)] v n qs)(hB:B<=J.heap.size)(hm:(J.heap.size,I.heap.size)∈iv):eA I S B iv v n qs:=by
 have key:∀g {C8:Nat->Prop},Cv FF J.heap.size [(J.heap.size,I.heap.size)] g->Cv C8 B iv g:=fun g C8 F=>by
  rcases F with F|⟨Y,lo,D,X,N,h4⟩
  .exact F.elim
  .simp at X;obtain⟨rfl,rfl⟩:=X;exact .inr ⟨be,_,_,hm,N,h4⟩
 exact⟨h.row.cF fun g F=>⟨key g F.1,F.2⟩,fun g F=>key g (h.new g F)⟩
theorem eA.read(h:eA w S B iv v n qs):fz w (Cv S B iv) (Cv S B iv) v qs:=
 h.row.read.cF (fun g F=>(h.new g F).elim (fun h=>h.elim) .inr) fun _ F=>F.1
end
section
variable{S S':Nat->Prop}{H:Hp}{nx n:Nat}{iv K:Iv}{B:Nat}{w J I:World}{O:Nat->Sx.da}{v:Value}{qs:List Rat}
theorem eA.store{c n1 c1 n2 c2:Nat}{b b2:Bool}(h:eA J S B iv (.slice a n c) n qs)(hj:j<n)(hf:cY J (fun g=>Cv S B iv g/\(Value.slice a n c).ownBlock≠some g) (.agg #[.bool b,.slice a1 n1 c1,.bool b2,.slice a2 n2 c2]) q)
  (r:Rel H nx iv B w O J) (U:∀g,S g->g<B):
  ∃g,a=some ⟨g,0,none⟩/\((⟨g,0,none⟩:Addr).add ((j:Int).toNat*4)).spot=none/\
   (∀k,k<4->(J.cell? (((⟨g,0,none⟩:Addr).add ((j:Int).toNat*4)).add k)).isSome=true/\J.frozen? (((⟨g,0,none⟩:Addr).add ((j:Int).toNat*4)).add k)=false)/\
   (∀id b,cw H id=some b->(O id).nil=false->(O id).g≠((⟨g,0,none⟩:Addr).add ((j:Int).toNat*4)).block)/\Cv FF B iv g/\
   ∀I,I=setCells J ((⟨g,0,none⟩:Addr).add ((j:Int).toNat*4)) (rC b a1 n1 c1 b2 a2 n2 c2)->eA I S B iv (.slice a n c) n (qs.set j q)/\J.grownBy I (some g)/\I.heap.size=J.heap.size:=by
 obtain⟨g,rfl,Y,X,N,h4⟩:=h.row.store hj hf (fun g F G=>G.2 F) (fun x G=>rlo r U x G.1);refine⟨g,rfl,Y,N,fun id b hb Z=>by rw[X];exact Rel.not r U (KW (h.new g rfl)) id b hb Z,h.new g rfl,fun I PA=>?_⟩;obtain⟨k1,k2,k3⟩:=h4 I PA;exact⟨⟨k1,h.new⟩,k2,k3⟩
end
end Go.Ex
namespace Go.Sx
open Go Go.Ex Go.Proofs
variable{L:List Value}{O:Nat->Sx.da}
theorem Sub.sD{B:Nat}{l tl:Env}{nx:Nat}{H tH:Hp}{iv:Iv}{w J:World}{id t n c:Nat}{e:TypeId}(r:Rel H nx iv B w O J)(Oh:cw H id=some (.arr e L))(ht:fO l t=some (.o (.s id 0 n c)))
  (hs:wN H tH) (ho:DB id tH=true) (Y:Cy l tl) (X:kL nx tl):
  Sub B l nx O J ⟨(t,.o (.v (.slice (some ⟨(O id).g,0,none⟩) n c)))::tl,tH,nx,((O id).g,(O id).g+1)::iv,J⟩:=by
 refine⟨O,r.free Oh bv (r.fits Oh).1 hs ho,fun u v hv=>?_⟩;rw[eW]at hv;split at hv
 .rename_i e;subst e;injection hv with hv;subst hv;exact⟨trivial,_,ht,rfl⟩
 .exact⟨X.get u v hv,v,Y.get u v hv,rfl⟩
end Go.Sx
namespace Go.Ex
open Go Go.Sx Go.Proofs
def dg(w:World)(S:Nat->Prop)(rv:List Value)(F':List (List Rat)):Prop:=rv.length=F'.length/\(∀u∈rv,u.oneCell'=true)/\∀(i:Nat) u r,rv[i]? =some u->F'[i]? =some r->cP w S u r
section
variable{S S':Nat->Prop}{H:Hp}{nx:Nat}{iv K:Iv}{B:Nat}{w J I:World}{O:Nat->Sx.da}{rv:List Value}{F':List (List Rat)}
theorem dg.cK(h:dg w S rv F')(E:∀g,S g->I.heap[g]? =w.heap[g]?):dg I S rv F':=⟨h.1,h.2.1,fun i u x Y X=>cP.cK (h.2.2 i u x Y X) E⟩
theorem dg.cF(h:dg w S rv F')(E:∀g,S g->S' g):dg w S' rv F':=⟨h.1,h.2.1,fun i u x Y X=>cP.cF (h.2.2 i u x Y X) E⟩
theorem dg.rel(h:dg w (Cv S B iv) rv F')(r:Rel H nx iv B w O J)(U:∀g,S g->g<B):dg J (Cv S B iv) rv F':=h.cK fun _ F=>rls r U F
theorem dg.push{u:Value}{x:List Rat}(h:dg w S rv F')(hu:u.oneCell'=true)(G:cP w S u x):dg w S (rv++[u]) (F'++[x]):=by
 refine⟨by simp[h.1],fun v hv=>?_,fun i v y Y X=>?_⟩
 .rcases bV.1 hv with hv|hv
  .exact h.2.1 v hv
  .simp at hv;subst hv;exact hu
 .rcases aR i rv.length with D|D
  .rw[aK D]at Y;rw[aK (by rw[<-h.1];exact D)]at X;exact h.2.2 i v y Y X
  .have Qu:i=rv.length:=by have:=(aD.1 Y).1;simp at this;omega
   subst Qu;rw[aQ lr,bP]at Y;rw[h.1,aQ lr,bP]at X;simp at Y X;subst Y X;exact G
end
end Go.Ex
namespace Go.Ex
theorem I1(s:List (List Rat)×List Nat)(c:Nat):(dh s c).2=s.2\/(dh s c).2=s.2++[c]:=by
 unfold dh;split
 .dsimp only
  split
  .exact .inl rfl
  .exact .inr rfl
 .exact .inl rfl
theorem gg(M:List (List Rat)):∀c:Nat,(∀p∈((List.range c).foldl dh (M,[])).2,p<c)/\(((List.range c).foldl dh (M,[])).2).Pairwise (· < ·)/\((List.range c).filter fun j=>decide (j∉((List.range c).foldl dh (M,[])).2)).length+((List.range c).foldl dh (M,[])).2.length=c:=by
 intro c
 induction c with
 |zero=>simp
 |succ c ih=>
  rw[bZ,List.foldl_append,List.foldl_cons,List.foldl_nil];generalize (List.range c).foldl dh (M,[])=s at*
  obtain⟨Y,X,N⟩:=ih;have hc:c∉s.2:=fun h=>by have:=Y c h;omega
  rcases I1 s c with e|e
  .rw[e];refine⟨fun p hp=>by have:=Y p hp;omega,X,?_⟩;rw[List.filter_append,aL];simp only[List.filter_cons,hc,not_false_eq_true,decide_true,if_true,List.filter_nil,aS]
   omega
  .rw[e];refine⟨fun p hp=>?_,?_,?_⟩
   .rcases bV.1 hp with hp|hp
    .have:=Y p hp;omega
    .simp at hp;omega
   .rw[List.pairwise_append];exact⟨X,bv,fun a ha b hb=>by simp at hb;subst hb;exact Y a ha⟩
   .rw[List.filter_append,aL];have:(List.range c).filter (fun j=>decide (j∉s.2++[c]))=(List.range c).filter (fun j=>decide (j∉s.2)):=List.filter_congr fun j hj=>by
     have:=List.mem_range.1 hj;have OB:j≠c:=by omega
     simp[OB]
    have h0:(([c]:List Nat).filter fun j=>decide (j∉s.2++[c])).length=0:=by simp
    rw[this,aL,aS,h0];omega
end Go.Ex
namespace Go.Ex
open Go Go.Sx Go.Proofs
variable{L:List Value}{O:Nat->Sx.da}
section
variable{S S':Nat->Prop}{H:Hp}{nx:Nat}{iv K:Iv}{B:Nat}{w J I:World}{O:Nat->Sx.da}{v:Value}{M:List (List (Int×Int))}
end
def fC(xs ys:List Rat):Nat->Rat
 |0=>0
 |i+1=>fC xs ys i+xs.getD i 0*ys.getD i 0
theorem zN{xs ys:List Rat}{h:Nat}(G:∀q∈xs,rl q+1<=h)(hy:∀q∈ys,rl q+1<=h)(X:2<=h):∀i:Nat,rl (fC xs ys i)<=2*h*i+2
 |0=>by rw[fC];exact bB (by decide:rl 0<=2) be
 |i+1=>by
  have N:=zN G hy X i;have h4:=oy (fC xs ys i) (xs.getD i 0*ys.getD i 0);have h5:=jy (xs.getD i 0) (ys.getD i 0);have h6:=Gc G X i;have h7:=Gc hy X i;rw[fC,bW];omega
section
variable{S S':Nat->Prop}{H:Hp}{nx:Nat}{iv K:Iv}{B:Nat}{w J I:World}{O:Nat->Sx.da}{v:Value}{qs:List Rat}
end
section
variable{S S':Nat->Prop}{H:Hp}{nx:Nat}{iv K:Iv}{B:Nat}{w J I:World}{O:Nat->Sx.da}{v:Value}{M:List (List Rat)}
end
section
variable{S S':Nat->Prop}{H:Hp}{nx:Nat}{iv K:Iv}{B:Nat}{w J I:World}{O:Nat->Sx.da}{v:List Value}{M:List (List Rat)}
end
inductive Tp where
 |nil
 |x (i:Nat) (t:Tp)
 |two (i:Nat) (t:Tp) (j:Nat) (u:Tp)
 |sD (id:Nat) (t:Tp)
section
variable{P:Program}{τ:mS}{ops:Array Oper}{B n nx:Nat}{l:Env}{H:Hp}{iv:Iv}{w J:World}{O:Nat->Sx.da}{a:Act}
end
theorem tc{l tl:Env}{nx t id n:Nat}(Z:(O id).nil=false)(ht:fO l t=some (.o (.w id n)))(Y:Cy l tl)(X:kL nx tl):∀u v,fO ((t,.o (.v (.slice (some ⟨(O id).g,0,none⟩) n (O id).cap)))::tl) u=some v->v.sc nx/\∃v',fO l u=some v'/\v'.den O=v.den O:=fun u v hv=>by
 rw[eW]at hv;split at hv
 .rename_i e;subst e;injection hv with hv;subst hv;exact⟨trivial,_,ht,by simp[SV.den,At.den,Z]⟩
 .exact⟨X.get u v hv,v,Y.get u v hv,rfl⟩
theorem Kx{H:Hp}{nx:Nat}{iv:Iv}{B:Nat}{w J:World}(r:Rel H nx iv B w O J){id t m sz:Nat}(h:cw H id=some (.vec t sz L))(hm:L.length=m*sz)(SB:m<=maxLen)(hs:0<sz)(h0:0<m)(Y:∀u∈L,u.oneCell'=true):
  (O id).nil=false/\B<=(O id).g/\jW J (fun g=>g=(O id).g) sz (.slice (some ⟨(O id).g,0,none⟩) m (O id).cap) L m:=by
 rcases r.vec id t sz _ h with⟨Z,rfl⟩|⟨Z,spare,hb,hc,QF⟩
 .have:=Nat.mul_pos h0 hs;simp at hm;omega
 .refine⟨Z,(r.low id _ h Z).1,SB,hm,Y,some ⟨(O id).g,0,none⟩,(O id).cap,rfl,?_,fun j x G=>⟨_,rfl,rfl,?_⟩⟩
  .have Y:(L++spare).length=L.length+spare.length:=aL;have X:m*sz<=(O id).cap*sz:=by omega
   exact Nat.le_of_mul_le_mul_right X hs
  .rw[dS,cell_of hb,aX,aK (aD.1 G).1];exact G
end Go.Ex
namespace Go.Ex
variable{s:List (List Rat)×List Nat}{r:List Rat}
theorem eD(M:List (List Rat))(cols:Nat):(cL M cols).1.length=M.length:=by
 have key:∀(l:List Nat) (s:List (List Rat)×List Nat),(l.foldl dh s).1.length=s.1.length:=by
  intro l
  induction l with
  |nil=>exact fun s=>rfl
  |cons c l ih=>exact fun s=>by rw[List.foldl_cons,ih,nI]
 exact key _ _
theorem rP{M:List (List Rat)}{c:Nat}:∀f k j,k<=j->j<iD M c f k->dB M j c=0
 |0,k,j,Y,X=>by simp only[iD]at X;omega
 |f+1,k,j,Y,X=>by
  unfold iD at X;split at X
  .rename_i h0;rcases aR k j with h|h
   .exact rP f (k+1) j h X
   .rw[show j=k by omega];exact h0
  .omega
theorem jK(c:Nat)(hle:s.2.length<=s.1.length):(dh s c=s/\∀j,s.2.length<=j->j<s.1.length->dB s.1 j c=0)\/
  ∃k,s.2.length<=k/\k<s.1.length/\dB s.1 k c≠0/\dh s c=(iE (scaled (jU [] s.1 s.2.length k) s.2.length c) s.2.length c s.1.length,s.2++[c]):=by
 have Y:=xn s.1 c (s.1.length-s.2.length) s.2.length;by_cases E:iD s.1 c (s.1.length-s.2.length) s.2.length=s.1.length
 .exact .inl ⟨Ej (.inr E),fun j hj hl=>rP (s.1.length-s.2.length) s.2.length j hj be⟩
 .exact .inr ⟨_,Y.1,be,xo s.1 c _ _ be,Ek Y.1 be (fun j X N=>rP _ _ j X N) (xo s.1 c _ _ be)⟩
theorem uM{p:Rat}{s:List Rat}{c:Nat}(h:c<r.length):(r.mapIdx (xp p s)).getD c 0=r.getD c 0+p*s.getD c 0:=by
 simp only[List.getD,List.getElem?_mapIdx,aB h]
 rfl
theorem xq{k:Rat}{c:Nat}:(r.map (· *k)).getD c 0=r.getD c 0*k:=by
 simp only[List.getD,aO]
 cases r[c]? with
 |none=>exact(bH k).symm
 |some q=>rfl
theorem kc{c k n:Nat}(hl:gD n s.1)(Y:s.2.length<=k)(X:k<s.1.length)(N:dB s.1 k c≠0)(e:dh s c=(iE (scaled (jU [] s.1 s.2.length k) s.2.length c) s.2.length c s.1.length,s.2++[c])):
  (∀t,dB (dh s c).1 s.2.length t=dB s.1 k t*(1 / dB s.1 k c))/\
  ∀j,j<s.1.length->j≠s.2.length->∀t,t<n->dB (dh s c).1 j t=dB s.1 (if j=k then s.2.length else j) t+ -(dB s.1 (if j=k then s.2.length else j) c)*(dB s.1 k t*(1 / dB s.1 k c)):=by
 have hp:s.2.length<s.1.length:=by omega
 have hsw:dB (jU [] s.1 s.2.length k) s.2.length c=dB s.1 k c:=I2 hp X;have Sr:(scaled (jU [] s.1 s.2.length k) s.2.length c).getD s.2.length []=(s.1.getD k []).map (· *(1 / dB s.1 k c)):=by
  unfold scaled;rw[hsw,List.getD,aW (by rw[kN];exact hp)];simp only[Option.getD_some]
  congr 1;rw[List.getD,List.getD,Am hp X]
 have OD:∀j,j<s.1.length->j≠s.2.length->(scaled (jU [] s.1 s.2.length k) s.2.length c)[j]? =some (s.1.getD (if j=k then s.2.length else j) []):=fun j hj OB=>by
  unfold scaled;rw[bC (Ne.symm OB)];unfold jU;by_cases RR:j=k
  .subst RR;rw[aW (by simpa using hj),aH rfl]
  .rw[bC (Ne.symm RR),bC (Ne.symm OB),aF RR,List.getD,aB hj];rfl
 have hgp:(iE (scaled (jU [] s.1 s.2.length k) s.2.length c) s.2.length c s.1.length).getD s.2.length []=(s.1.getD k []).map (· *(1 / dB s.1 k c)):=by
  rw[<-Sr];simp only[List.getD,Em]
 rw[e];refine⟨fun t=>?_,fun j hj OB t ht=>?_⟩
 .show((iE (scaled (jU [] s.1 s.2.length k) s.2.length c) s.2.length c s.1.length).getD s.2.length []).getD t 0=_;rw[hgp,xq];rfl
 .have hgj:(iE (scaled (jU [] s.1 s.2.length k) s.2.length c) s.2.length c s.1.length).getD j []=(s.1.getD (if j=k then s.2.length else j) []).mapIdx (xp (-((s.1.getD (if j=k then s.2.length else j) []).getD c 0)) ((s.1.getD k []).map (· *(1 / dB s.1 k c)))):=by
   simp only[List.getD,iE,List.getElem?_mapIdx,OD j hj OB,Option.map_some,Option.getD_some]
   rw[aH ⟨hj,OB⟩];exact congrArg (fun P=>(s.1.getD (if j=k then s.2.length else j) []).mapIdx (xp (-((s.1.getD (if j=k then s.2.length else j) []).getD c 0)) P)) Sr
  show((iE (scaled (jU [] s.1 s.2.length k) s.2.length c) s.2.length c s.1.length).getD j []).getD t 0=_;rw[hgj,uM (by rw[hl.getD (by split<;>omega)];exact ht),xq];rfl
theorem s4{x:Rat}(h:x≠0):x*(1 / x)=1:=by rw[bo,cA,Rat.mul_inv_cancel x h]
def Mh(n c:Nat)(s:List (List Rat)×List Nat):Prop:=gD n s.1/\s.2.length<=s.1.length/\(∀j t,s.2.length<=j->j<s.1.length->t<c->dB s.1 j t=0)/\(∀p∈s.2,p<c)/\
 ∀i j,i<s.2.length->j<s.1.length->dB s.1 j (s.2.getD i 0)=if j=i then 1 else 0
theorem Mh.step{n c:Nat}(h:Mh n c s)(hc:c<n):Mh n (c+1) (dh s c):=by
 obtain⟨hl,hle,hz,Qw,hu⟩:=h;rcases jK c hle with⟨e,h0⟩|⟨k,Y,X,N,e⟩
 .rw[e];refine⟨hl,hle,fun j t hj Sb ht=>?_,fun p hp=>by have:=Qw p hp;omega,hu⟩;rcases aR t c with h|h
  .exact hz j t hj Sb h
  .rw[show t=c by omega];exact h0 j hj Sb
 .obtain⟨r1,r2⟩:=kc hl Y X N e;have hlen:(dh s c).1.length=s.1.length:=nI s c;have e2:(dh s c).2=s.2++[c]:=by rw[e]
  have e3:(dh s c).2.length=s.2.length+1:=by rw[e2];simp
  have Qd:∀j,j<s.1.length->j≠s.2.length->dB (dh s c).1 j c=0:=fun j hj OB=>by
   rw[r2 j hj OB c hc,s4 N,Rat.mul_one,Rat.add_neg_cancel]
  refine⟨hl.step,by rw[e3,hlen];omega,fun j t hj Sb ht=>?_,fun p hp=>?_,fun i j D hj=>?_⟩
  .rw[e3]at hj;rw[hlen]at Sb;rcases aR t c with h|h
   .rw[r2 j Sb be t be,hz k t Y X h,hz (if j=k then s.2.length else j) t (by split<;>omega) (by split<;>omega) h,bH,bD,Rat.zero_add]
   .rw[show t=c by omega];exact Qd j Sb be
  .rw[e2]at hp;rcases bV.1 hp with hp|hp
   .have:=Qw p hp;omega
   .rw[bJ.1 hp];omega
  .rw[e3]at D;rw[hlen]at hj;rcases aR i s.2.length with h|h
   .have F:(dh s c).2.getD i 0=s.2.getD i 0:=by rw[e2,List.getD,aK h,<-List.getD]
    have hpm:s.2.getD i 0<c:=Qw _ (by rw[List.getD,aB h];exact a9 h);have SM:dB s.1 k (s.2.getD i 0)=0:=hz k _ Y X hpm;rw[F];by_cases hjp:j=s.2.length
    .rw[hjp,r1,SM,bH,aF be]
    .rw[r2 j hj hjp _ be,SM,bH,bD,bg];by_cases RR:j=k
     .rw[aH RR,hu i _ h be,aF be,aF be]
     .rw[aF RR,hu i j h hj]
   .have F:(dh s c).2.getD i 0=c:=by rw[e2,List.getD,aQ h,show i-s.2.length=0 by omega];rfl
    rw[F];by_cases hjp:j=s.2.length
    .rw[hjp,r1,s4 N,aH be]
    .rw[Qd j hj hjp,aF be]
theorem dZ{M:List (List Rat)}{n:Nat}(hl:gD n M):∀cols,cols<=n->Mh n cols (cL M cols)
 |0,_=>⟨hl,aP _,fun _ _ _ _ h=>be,fun p hp=>(by cases hp),fun _ _ h=>(by cases h)⟩
 |c+1,h=>by
  have ih:=dZ hl c be;unfold cL at ih ⊢;rw[bZ,List.foldl_append];exact ih.step be
section
variable{M:List (List Rat)}{b:List Rat}{n:Nat}
def df(M:List (List Rat))(b:List Rat):List (List Rat):=M.mapIdx fun i r=>r++[b.getD i 0]
theorem iL(hl:gD n M):gD (n+1) (df M b):=fun r hr=>by
 obtain⟨i,D⟩:=aT hr;unfold df at D;rw[List.getElem?_mapIdx]at D
 cases G:M[i]? with
 |none=>rw[G]at D;cases D
 |some x=>
  rw[G]at D;injection D with D;subst D;rw[aL,hl x (aG G)];rfl
theorem eN:(df M b).length=M.length:=by simp[df]
end
end Go.Ex
namespace Go.Ex
open Go Go.Sx Go.Proofs
variable{L:List Value}
section
variable{S:Nat->Prop}{H:Hp}{nx:Nat}{iv K:Iv}{B:Nat}{w J I:World}{O:Nat->Sx.da}{W:List (List Value)}{qs:List Rat}
theorem Fc.rel(h:Fc w (Cv S B iv) W qs)(r:Rel H nx iv B w O J)(U:∀g,S g->g<B):Fc J (Cv S B iv) W qs:=h.cK fun _ F=>rls r U F
theorem Fc.cH(h:Fc w (Cv S B iv) W qs)(r:Rel H nx iv B w O J)(U:∀g,S g->g<B)(R:Ext J I)(hm:∀p,p∈iv->p∈K):Fc I (Cv S B K) W qs:=
 ((h.rel r U).cK fun g F=>R.block g (rlo r U g F)).cF fun _ F=>F.mono hm
theorem Fc.push{q:Rat}(h:Fc w S W qs)(hc:jV w S L q):Fc w S (W++[L]) (qs++[q]):=by
 refine⟨by simp[h.1],fun j x p Y X=>?_⟩;rcases aR j W.length with D|D
 .rw[aK D]at Y;rw[aK (by rw[<-h.1];exact D)]at X;exact h.2 j x p Y X
 .have Qu:j=W.length:=by have:=(aD.1 Y).1;simp at this;omega
  subst Qu;rw[aQ lr,bP]at Y;rw[h.1,aQ lr,bP]at X;simp at Y X;subst Y X;exact hc
end
section
variable{S S':Nat->Prop}{H:Hp}{nx:Nat}{iv K:Iv}{B:Nat}{w J I:World}{O:Nat->Sx.da}{v:Value}{b:List (Int×Int)}
end
section
variable{S:Nat->Prop}{w:World}{v u:Value}{M:List (List (Int×Int))}{b:List (Int×Int)}
end
end Go.Ex
namespace Go.Ex
variable{pv:List Nat}{l r:List Rat}{j:Nat}
def j7:List Nat->(Nat->Rat)->Rat
 |[],_=>0
 |t::l,g=>g t+j7 l g
theorem xr{g h:Nat->Rat}:∀{l:List Nat},(∀t∈l,g t=h t)->j7 l g=j7 l h
 |[],_=>rfl
 |t::l,e=>by show g t+_=h t+_;rw[e t aI,xr fun s hs=>e s (aA _ hs)]
theorem An{g:Nat->Rat}:∀{l:List Nat},(∀t∈l,g t=0)->j7 l g=0
 |[],_=>rfl
 |t::l,e=>by show g t+_=0;rw[e t aI,An fun s hs=>e s (aA _ hs),bg]
theorem vL(g:Nat->Rat):∀l k:List Nat,j7 (l++k) g=j7 l g+j7 k g
 |[],k=>(Rat.zero_add _).symm
 |t::l,k=>by show g t+j7 (l++k) g=g t+j7 l g+j7 k g;rw[vL g l k,Rat.add_assoc]
theorem DM(g:Nat->Rat):∀l:List Nat,j7 l (fun t=> -g t)= -j7 l g
 |[]=>rfl
 |t::l=>by show -g t+j7 l _= -(g t+j7 l g);rw[DM g l,Rat.neg_add]
theorem vM(p:Nat->Bool)(g:Nat->Rat):∀l:List Nat,j7 l g=j7 (l.filter p) g+j7 (l.filter fun t=> !p t) g
 |[]=>(bg 0).symm
 |t::l=>by
  show g t+j7 l g=_;rw[vM p g l,List.filter_cons,List.filter_cons]
  cases p t with
  |true=>show _=g t+_+_;rw[Rat.add_assoc];rfl
  |false=>
   show _=j7 (l.filter p) g+(g t+_)
   rw[<-Rat.add_assoc,Rat.add_comm (g t),Rat.add_assoc]
theorem xt{g:Nat->Rat}{s:Nat}:∀{l:List Nat},l.Nodup->s∈l->(∀t∈l,t≠s->g t=0)->j7 l g=g s
 |[],_,hm,_=>by cases hm
 |t::l,Z,hm,h=>by
  show g t+j7 l g=g s;have Qx:=List.nodup_cons.1 Z;rcases List.mem_cons.1 hm with rfl|hm
  .rw[An fun u hu=>h u (aA _ hu) fun e=>Qx.1 (e▸hu),bg]
  .rw[h t aI (fun e=>Qx.1 (e▸hm)),Rat.zero_add,xt Qx.2 hm fun u hu=>h u (aA _ hu)]
theorem xu{i t:Nat}{v:Rat}:(l.set i v).getD t 0=if i=t/\i<l.length then v else l.getD t 0:=by
 simp only[List.getD,List.getElem?_set]
 by_cases h:i=t
 .subst h;by_cases hl:i<l.length
  .simp[hl]
  .simp[hl]
 .simp[h]
theorem xw{D':Nat->List Rat}{pv:List Nat}{f:Nat->Rat}(hF:∀i,D' (i+1)=(D' i).set (pv.getD i 0) (f i)){t:Nat}(ht:t∉pv):∀i,i<=pv.length->(D' i).getD t 0=(D' 0).getD t 0
 |0,_=>rfl
 |i+1,h=>by
  rw[hF,xu,aF fun e=>ht (by rw[<-e.1,List.getD,aB be];exact a9 _)];exact xw hF ht i be
theorem I4(hp:pv.Pairwise (· < ·)){i:Nat}(PR:j<i)(D:i<pv.length):pv.getD j 0<pv.getD i 0:=by
 rw[List.getD,List.getD,aB D,aB be];exact List.pairwise_iff_getElem.1 hp j i _ _ PR
theorem nJ{D':Nat->List Rat}{pv:List Nat}{f:Nat->Rat}{n:Nat}(hF:∀i,D' (i+1)=(D' i).set (pv.getD i 0) (f i))(hl:∀i,(D' i).length=n)(hp:pv.Pairwise (· < ·))(Z:∀p∈pv,p<n){j:Nat}:∀i,i<=pv.length->j<i->(D' i).getD (pv.getD j 0) 0=f j
 |0,_,h=>by omega
 |i+1,h,hj=>by
  rw[hF,xu];rcases aR j i with Y|Y
  .have:=I4 hp Y be;rw[aF be];exact nJ hF hl hp Z i be Y
  .have e:j=i:=by omega
   subst e;have hm:pv.getD j 0<(D' j).length:=by rw[hl];exact Z _ (by rw[List.getD,aB be];exact a9 _)
   rw[aH ⟨rfl,hm⟩]
abbrev il(pv:List Nat)(n:Nat):List Nat:=(List.range n).filter fun c=>decide (c∉pv)
section
variable{M:List (List Rat)}{x:List Rat}{n:Nat}
end
structure Diff(F8:List (List Rat))(pv:List Nat)(n:Nat)(x:List Rat):Prop where
 up:pv.Pairwise (· < ·)
 lt:∀p∈pv,p<n
 le:pv.length<=F8.length
 unit:∀i j,i<pv.length->j<F8.length->dB F8 j (pv.getD i 0)=if j=i then 1 else 0
 sum:∀j,j<F8.length->j7 (List.range n) (fun t=>dB F8 j t*x.getD t 0)=dB F8 j n
section
variable{F8:List (List Rat)}{pv:List Nat}{n:Nat}{x:List Rat}
theorem rQ{t:Nat}(h:t∈pv):∃j,j<pv.length/\pv.getD j 0=t:=by
 obtain⟨j,hj,rfl⟩:=List.mem_iff_getElem.1 h;exact⟨j,hj,by rw[List.getD,aB hj];rfl⟩
theorem ou{c t:Nat}(ht:t∉pv)(hc:c<n):(ff F8 pv n c pv.length).getD t 0=if t=c then 1 else 0:=by
 rw[xw (D':=ff F8 pv n c) (fun i=>gY F8 pv n c i) ht _ (aN _)];show((List.replicate n (0:Rat)).set c 1).getD t 0=_;rw[xu,bK];by_cases h:c=t
 .rw[aH ⟨h,hc⟩,aH h.symm]
 .rw[aF (fun e=>h e.1),aF (fun e=>h e.symm)];simp only[List.getD,List.getElem?_replicate]
  split<;>rfl
theorem Diff.Nx(h:Diff F8 pv n x){c:Nat}(hj:j<pv.length):(ff F8 pv n c pv.length).getD (pv.getD j 0) 0= -(dB F8 j c):=
 nJ (D':=ff F8 pv n c) (f:=fun i=> -(dB F8 i c)) (fun i=>gY F8 pv n c i) (jc F8 pv n c) h.up h.lt _ (aN _) hj
theorem s5{t:Nat}(ht:t∉pv):(gT F8 pv n pv.length).getD t 0=0:=by
 rw[xw (D':=gT F8 pv n) (fun i=>gZ F8 pv n i) ht _ (aN _)];show(List.replicate n (0:Rat)).getD t 0=0;simp only[List.getD,List.getElem?_replicate]
 split<;>rfl
theorem Diff.Nr(h:Diff F8 pv n x)(hj:j<pv.length):(gT F8 pv n pv.length).getD (pv.getD j 0) 0=dB F8 j n:=
 nJ (D':=gT F8 pv n) (f:=fun i=>dB F8 i n) (fun i=>gZ F8 pv n i) (jd F8 pv n) h.up h.lt _ (aN _) hj
theorem rR:(il pv n).Nodup:=List.Pairwise.filter _ List.nodup_range
theorem ke{c:Nat}:c∈il pv n↔c<n/\c∉pv:=by
 unfold il;rw[List.mem_filter,List.mem_range,decide_eq_true_eq]
theorem Diff.rest(h:Diff F8 pv n x){t:Nat}(ht:t<n):x.getD t 0+(gT F8 pv n pv.length).getD t 0* -1=j7 (il pv n) fun c=>x.getD c 0*(ff F8 pv n c pv.length).getD t 0:=by
 by_cases hp:t∈pv
 .obtain⟨j,hj,rfl⟩:=rQ hp;have hs:=h.sum j (Nat.lt_of_lt_of_le hj h.le);rw[vM (fun c=>decide (c∉pv)),xt (s:=pv.getD j 0) (l:=(List.range n).filter fun t=> !decide (t∉pv)) (List.Pairwise.filter _ List.nodup_range) (List.mem_filter.2 ⟨List.mem_range.2 ht,by rw[bL fun e=>e hp];rfl⟩) (fun s hs OB=>?_),h.unit j j hj (Nat.lt_of_lt_of_le hj h.le),aH rfl,cA]at hs
  .rw[h.Nr hj,xr (h:=fun c=> -(dB F8 j c*x.getD c 0)) fun c hc=>by rw[h.Nx hj,Rat.mul_neg,bs],DM,<-hs];generalize x.getD (pv.getD j 0) 0=q;generalize j7 _ _=s;rw[Rat.mul_neg,Rat.mul_one,Rat.neg_add,<-Rat.add_assoc,Rat.add_comm q,Rat.add_assoc,Rat.add_neg_cancel,bg]
  .have PY:s∈pv:=by simpa using(List.mem_filter.1 hs).2
   obtain⟨i,D,rfl⟩:=rQ PY;rw[h.unit i j D (Nat.lt_of_lt_of_le hj h.le),aF (fun e=>OB (by rw[e])),bH]
 .rw[s5 hp,bH,bg,xt (s:=t) rR (ke.2 ⟨ht,hp⟩) fun c hc OB=>by rw[ou hp (ke.1 hc).1,aF (Ne.symm OB),bD],ou hp ht,aH rfl,Rat.mul_one]
theorem ov{k:Nat}(E:k<(il pv n).length):(il pv n).getD k 0∈il pv n:=by rw[List.getD,aB E];exact a9 E
theorem nK{k:Nat}(h:(eK F8 pv n n)[k]? =some r):k<(il pv n).length/\r=ff F8 pv n ((il pv n).getD k 0) pv.length:=by
 unfold eK at h;rw[aO]at h;obtain⟨c,hc,rfl⟩:=Option.map_eq_some_iff.1 h;refine⟨(aD.1 hc).1,?_⟩;rw[List.getD,hc];rfl
theorem I5{i k:Nat}(D:i<(il pv n).length)(E:k<(il pv n).length)(e:(il pv n).getD i 0=(il pv n).getD k 0):i=k:=by
 rw[List.getD,List.getD,aB D,aB E]at e;rcases bw i k with h|h|h
 .exact absurd e (List.pairwise_iff_getElem.1 rR i k D E h)
 .exact h
 .exact absurd e.symm (List.pairwise_iff_getElem.1 rR k i E D h)
theorem xx{k i:Nat}{s:List Rat}(hr:(eK F8 pv n n)[k]? =some r)(hs:(eK F8 pv n n)[i]? =some s):s.getD ((il pv n).getD k 0) 0=if i=k then 1 else 0:=by
 obtain⟨E,-⟩:=nK hr;obtain⟨D,rfl⟩:=nK hs;have hm:=ke.1 (ov E);rw[ou hm.2 (ke.1 (ov D)).1];by_cases h:i=k
 .rw[h,aH rfl,aH rfl]
 .rw[aF (fun e=>h (I5 D E e.symm)),aF h]
end
end Go.Ex
namespace Go.Ex
open Go Go.Sx Go.Proofs
variable{S:Nat->Prop}{q:Rat}{v:Value}{w:World}
theorem fP.zero:fP w S (.agg #[.bool false,nls,.bool false,nls]) 0:=
 ⟨_,_,_,_,0,0,rfl,⟨false,[],⟨_,rfl,dF.nil _ _⟩,rfl,aP _⟩,⟨false,[],⟨_,rfl,dF.nil _ _⟩,rfl,aP _⟩,bi⟩
section
variable{S:Nat->Prop}{w:World}{v u:Value}{M:List (List (Int×Int))}{x:List Rat}
end
theorem pf(q:Rat):rs (q-0)=rs q:=by rw[show q-0=q by grind]
theorem lA(n:Int)(w:World)(h1n: -9223372036854775808<=n)(h2n:n<=9223372036854775807):eC PG Fn.qi #[iV n] w (eI w fun v' I=>cY I (Nf w I) v' (n:Rat)):=by
 have V:=bR w;refine ua bv ?_;refine cD (cE V (pR cY ((n:Rat))) (fun O J r=>FH n J h1n h2n) ?_);rintro O _ _ _ OK r R V h_ Z;have hd:=Z.cF (nw r h_);obtain⟨A0,A1,A2,A3,A4,A5,A6,A7,rfl⟩:=hd.shape;exact rtn V fun GT we re=>hd.out re oF
theorem qR(U:Old S w)(hq:fP w S v q):eC PG Fn.tD #[v] w (eI w fun v' _=>∃d,v'= .bool d/\(d=true↔q=0)):=by
 have V:=bR w;obtain⟨f0,f1,f2,f3,f4,f5,f6,f7,rfl⟩:=hq.shape;refine wX bv ?_;refine cD (cE V (pE (iV (rs q))) (fun O J r=>(FI (oS U r) (hq.v.cK (kS V r U)) (fP.zero (S:=S)).v).mono fun _ _ ⟨v2,e1,e2,e3⟩=>⟨v2,e1,e2,by rw[e3,pf]⟩) ?_);rintro O _ _ _ OK r R V h_ rfl;intro GT we re;refine⟨_,rfl,V.tr re.cN,_,rfl,?_⟩;rw[beq_iff_eq];exact Gl
theorem MU{u:Value}{p:Rat}(U:Old S w)(hp:fP w S v p)(hq:fP w S u q)(h0:q≠0):eC PG Fn.vv #[v,u] w (eI w fun v' I=>cY I (Nf w I) v' (p / q)):=by
 have V:=bR w;obtain⟨f0,f1,f2,f3,f4,f5,f6,f7,rfl⟩:=hp.shape;obtain⟨g0,g1,g2,g3,g4,g5,g6,g7,rfl⟩:=hq.shape;refine zF bv ?_;refine cD (cE V (fun _ J v I=>∃r,v= .tuple #[r,iV 0]/\cY I (Nf J I) r (p / q)) (fun O J r=>(MV (oS U r) (hp.v.cK (kS V r U)) (hq.v.cK (kS V r U))).mono fun _ _ ⟨v2,e1,e2,e3⟩=>⟨v2,e1,e2,e3.elim (fun h=>absurd h.1 h0) fun h=>h.2⟩) ?_);rintro O _ _ _ OK r R V h_ ⟨q1,rfl,k1⟩;have hd:=k1.cF (nw r h_);obtain⟨s1_0a,s1_0b,s1_0c,s1_0d,s1_0e,s1_0f,s1_0g,s1_0h,rfl⟩:=hd.shape;exact rtn V fun GT we re=>hd.out re oF
theorem JV(U:Old S w)(hq:fP w S v q):eC PG Fn.wC #[v] w (eI w fun v' I=>cY I (Nf w I) v' (-q)):=by
 have V:=bR w;obtain⟨f0,f1,f2,f3,f4,f5,f6,f7,rfl⟩:=hq.shape;refine zJ bv ?_;refine cD (cE V (pR cY (-q)) (fun O J r=>(JW (oS U r) (fP.zero (S:=S)).v (hq.v.cK (kS V r U))).mono fun _ _ ⟨v2,e1,e2,e3⟩=>⟨v2,e1,e2,by rwa [show (0:Rat)-q= -q by grind]at e3⟩) ?_);rintro O _ _ _ OK r R V h_ Z;have hd:=Z.cF (nw r h_);obtain⟨A0,A1,A2,A3,A4,A5,A6,A7,rfl⟩:=hd.shape;exact rtn V fun GT we re=>hd.out re oF
theorem JX{u:Value}{xs ys:List Rat}{h:Nat}(U:Old S w)(G:eL w S v xs)(hy:eL w S u ys)(hl:xs.length<=ys.length)(hqx:∀q∈xs,rl q+1<=h)(hqy:∀q∈ys,rl q+1<=h)(X:2<=h)(hb:2*h*xs.length<=90000):
  eC PG Fn.vq #[v,u] w (eI w fun v' I=>cY I (Nf w I) v' (fC xs ys xs.length)):=by
 have V:=bR w;obtain⟨ax,cx,rfl,hcx,hmx⟩:=eM.shape G;obtain⟨ay,cy,rfl,hcy,-⟩:=eM.shape hy;unfold maxLen at hmx;refine zE bv ?_;refine cD (cE V (pR cY (((0:Int):Rat))) (fun O J r=>lA 0 J bi bi) ?_);rintro O _ _ _ OK r R V h_ Z;have hd:=Z.cF (nw r h_);obtain⟨A0,A1,A2,A3,A4,A5,A6,A7,rfl⟩:=hd.shape;rw[show ((0:Int):Rat)=fC xs ys 0 from rfl]at hd
 refine⟨Nat×(Bool×Bool)×(Option Addr×Option Addr)×(Nat×Nat×Nat×Nat)×World×Iv,fun z=>⟨[(1,sV ay ys.length cy),(4,pP 0 0),(5,pP 1 0),(9,sV ax xs.length cx),(10,iZ xs.length),(11,iN z.1)],[(1,.box T.Rat [.v (.bool z.2.1.1),.v (.slice z.2.2.1.1 z.2.2.2.1.1 z.2.2.2.1.2.1),.v (.bool z.2.1.2),.v (.slice z.2.2.1.2 z.2.2.2.1.2.2.1 z.2.2.2.1.2.2.2)]),(0,.box T.Rat [.v (.bool false),.v nls,.v (.bool false),.v nls])],2,z.2.2.2.2.2,z.2.2.2.2.1⟩,fun z=>xs.length-z.1,
  fun z=>z.1<=xs.length/\Bq w z.2.2.2.2.1/\cY z.2.2.2.2.1 (Cf w z.2.2.2.2.2) (.agg #[.bool z.2.1.1,.slice z.2.2.1.1 z.2.2.2.1.1 z.2.2.2.1.2.1,.bool z.2.1.2,.slice z.2.2.1.2 z.2.2.2.1.2.2.1 z.2.2.2.1.2.2.2]) (fC xs ys z.1),?_,?_⟩
 .intro O J r;exact⟨(0,(A0,A4),(A1,A5),(A2,A3,A6,A7),J,OK),⟨bv,V.tr r.cN,hd.rel r oF⟩,sbgn [] r⟩
 rintro⟨i,⟨p0,p4⟩,⟨p1,p5⟩,⟨p2,p3,p6,p7⟩,w1,iv⟩ ⟨D,V,hd⟩;dsimp only at D V hd ⊢;apply bS<;>intro Ny
 .have Ny:=dL Ny;have hs:=zN hqx hqy X i;have PY:2*h*i<=2*h*xs.length:=bh _ D;have hs3:2*h*1<=2*h*xs.length:=bh _ be;obtain⟨x,PN⟩:=gO xs i;obtain⟨y,UB⟩:=gO ys i;have hx3:=hqx x (aG PN);have hy3:=hqy y (aG UB);have QH:xs.getD i 0=x:=by rw[List.getD,PN];rfl
  have SD:ys.getD i 0=y:=by rw[List.getD,UB];rfl
  have hm:=jy x y;obtain⟨adx,csx,Od,TJ,-,OZ⟩:=eM.load G PN;obtain⟨ady,csy,RF,SQ,-,PS⟩:=eM.load hy UB;obtain⟨f0,f1,f2,f3,f4,f5,f6,f7,rfl,TJ⟩:=TJ;obtain⟨q0,q1,q2,q3,q4,q5,q6,q7,rfl,SQ⟩:=SQ;refine⟨adx,Od,be,rC f0 f1 f2 f3 f4 f5 f6 f7,rfl,rdO OZ V U,?_⟩;refine cD (cE V (fun _ J v I=>∃d,v= .bool d/\(d=true↔x=0)) (fun O J r=>qR (oS U r) (TJ.cK (kS V r U))) ?_);rintro O _ _ _ OH r R V h_ ⟨d1,rfl,OG⟩;replace hd:=hd.cH r oF R (mC h_)
  cases d1
  .refine⟨ady,RF,be,rC q0 q1 q2 q3 q4 q5 q6 q7,rfl,rdO PS V U,?_⟩;refine cD (cE V (fun _ J v I=>∃d,v= .bool d/\(d=true↔y=0)) (fun O J r=>qR (oS U r) (SQ.cK (kS V r U))) ?_);rintro O _ _ _ OW r R V h_ ⟨d2,rfl,OQ⟩;replace hd:=hd.cH r oF R (mC h_)
   cases d2
   .refine dP (idO 9) ?_;refine⟨ady,RF,be,rC q0 q1 q2 q3 q4 q5 q6 q7,rfl,rdO PS V U,?_⟩;refine cE V (pR cY (x*y)) (fun O J r=>zO (oS U r) (TJ.v.cK (kS V r U)) (SQ.v.cK (kS V r U))) ?_;rintro O _ _ _ Ow r R V h_ Z;replace hd:=hd.cH r oF R (mC h_);have hp:=Z.cF (nw r h_);obtain⟨C0,C1,C2,C3,C4,C5,C6,C7,rfl⟩:=hp.shape;refine cE V (pR cY (fC xs ys i+x*y)) (fun O J r=>JY (rlo r oF) ((hd.rel r oF).v be) ((hp.rel r oF).v be)) ?_;rintro O _ _ _ Qg r R V h_ Z;have Ot:=Z.cF (nw r h_);obtain⟨E0,E1,E2,E3,E4,E5,E6,E7,rfl⟩:=Ot.shape;rw[show fC xs ys i+x*y=fC xs ys (i+1) by rw[fC,QH,SD]]at Ot;refine inc i ?_;intro IR w3 A;exact⟨(i+1,(E0,E4),(E1,E5),(E2,E3,E6,E7),w3,_),⟨Ny,V.tr A.cN,Ot.rel A oF⟩,sbgn [] A,dec Ny⟩
   .have PL:y=0:=OQ.1 rfl;rw[show fC xs ys i=fC xs ys (i+1) by rw[fC,QH,SD,PL,bD,bg]]at hd;refine inc i ?_;intro IR w3 A;exact⟨(i+1,(p0,p4),(p1,p5),(p2,p3,p6,p7),w3,_),⟨Ny,V.tr A.cN,hd.rel A oF⟩,sbgn [] A,dec Ny⟩
  .have hx0:x=0:=OG.1 rfl;rw[show fC xs ys i=fC xs ys (i+1) by rw[fC,QH,SD,hx0,bH,bg]]at hd;refine inc i ?_;intro IR w3 A;exact⟨(i+1,(p0,p4),(p1,p5),(p2,p3,p6,p7),w3,_),⟨Ny,V.tr A.cN,hd.rel A oF⟩,sbgn [] A,dec Ny⟩
 have Ny:=dE D Ny;subst Ny;exact rtn V fun GT we re=>hd.out re oF
end Go.Ex
namespace Go.Ex
abbrev Mx:=Nat->Nat->Rat
def skip(k j:Nat):Nat:=if j<k then j else j+1
def rS(k:Nat):Rat:=if k % 2=1 then -1 else 1
def cW(f:Nat->Rat):Nat->Rat
 |0=>0
 |n+1=>cW f n+f n
def fV:Nat->Mx->Rat
 |0,_=>1
 |n+1,m=>cW (fun k=>rS k*(m 0 k*fV n fun i j=>m (i+1) (skip k j))) (n+1)
theorem cG{f g:Nat->Rat}:∀{n:Nat},(∀k,k<n->f k=g k)->cW f n=cW g n
 |0,_=>rfl
 |n+1,h=>by rw[cW,cW,cG fun k E=>h k be,h n be]
theorem dX:∀(n:Nat),cW (fun _=>0) n=0
 |0=>rfl
 |n+1=>by rw[cW,dX n,bg]
theorem fg(f g:Nat->Rat):∀(n:Nat),cW (fun k=>f k+g k) n=cW f n+cW g n
 |0=>(bg 0).symm
 |n+1=>by rw[cW,cW,cW,fg f g n];grind
theorem eY(p:Rat)(f:Nat->Rat):∀(n:Nat),cW (fun k=>p*f k) n=p*cW f n
 |0=>(bD p).symm
 |n+1=>by rw[cW,cW,eY p f n];grind
theorem mX(f:Nat->Rat)(n:Nat):cW (fun k=> -f k) n= -cW f n:=by
 have h:=eY (-1) f n;rw[show (-1:Rat)*cW f n= -cW f n by grind]at h;rw[<-h];exact cG fun k _=>by grind
theorem xy(f:Nat->Rat):∀(n:Nat),cW f (n+1)=f 0+cW (fun k=>f (k+1)) n
 |0=>by show 0+f 0=f 0+0;grind
 |n+1=>by rw[cW,xy f n,cW];grind
theorem GD{k j n:Nat}(h:j<n):skip k j<n+1:=by unfold skip;split<;>omega
theorem HS{k l:Nat}(h:k<=l)(j:Nat):skip k (skip l j)=skip (l+1) (skip k j):=by
 unfold skip;grind
theorem iM:∀{n:Nat} {m m':Mx},(∀i j,i<n->j<n->m i j=m' i j)->fV n m=fV n m'
 |0,_,_,_=>rfl
 |n+1,m,m',h=>by
  unfold fV;refine cG fun k E=>?_;rw[h 0 k be E,iM fun i j D hj=>h (i+1) (skip k j) be (GD hj)]
def gR(m:Mx)(r:Nat)(u:Nat->Rat):Mx:=fun i j=>if i=r then u j else m i j
theorem uN(m:Mx)(r k:Nat)(u:Nat->Rat):(fun i j=>gR m (r+1) u (i+1) (skip k j))=gR (fun i j=>m (i+1) (skip k j)) r fun j=>u (skip k j):=by
 funext i j
 unfold gR;by_cases h:i=r
 .rw[aH h,aH be]
 .rw[aF h,aF be]
theorem mY(p:Rat):∀(n r:Nat) (m:Mx),r<n->∀(u v:Nat->Rat),fV n (gR m r fun j=>u j+p*v j)=fV n (gR m r u)+p*fV n (gR m r v)
 |0,_,_,h,_,_=>by omega
 |n+1,0,m,_,u,v=>by
  unfold fV;rw[<-eY,<-fg];refine cG fun k _=>?_;have e:∀x:Nat->Rat,(fun i j=>gR m 0 x (i+1) (skip k j))=fun i j=>m (i+1) (skip k j):=fun x=>by
   funext i j;unfold gR;rw[aF be]
  rw[e,e,e];unfold gR;rw[aH rfl,aH rfl,aH rfl];grind
 |n+1,r+1,m,h,u,v=>by
  unfold fV;rw[<-eY,<-fg];refine cG fun k _=>?_;rw[uN,uN,uN,mY p n r _ be (fun j=>u (skip k j)) fun j=>v (skip k j)];have e:∀x:Nat->Rat,gR m (r+1) x 0 k=m 0 k:=fun x=>by unfold gR;rw[aF be]
  rw[e,e,e];grind
theorem xz{D':Nat->Nat->Rat}:∀{n:Nat},(∀k l,k<=l->l<n->D' k l+D' (l+1) k=0)->cW (fun k=>cW (D' k) n) (n+1)=0
 |0,_=>by show 0+0=(0:Rat);grind
 |n+1,h=>by
  have ih:=xz (D':=D') (n:=n) fun k l Y X=>h k l Y be;have N:cW (fun k=>D' k n+D' (n+1) k) (n+1)=0:=by
   rw[cG (g:=fun _=>0) fun k E=>h k n be be,dX]
  rw[fg]at N;rw[cW];have h4:cW (fun k=>cW (D' k) (n+1)) (n+1)=cW (fun k=>cW (D' k) n) (n+1)+cW (fun k=>D' k n) (n+1):=by
   rw[<-fg];rfl
  rw[h4,ih,Rat.zero_add];exact N
def kY(a b i:Nat):Nat:=if i=a then b else if i=b then a else i
theorem HT(r i:Nat):kY (r+1) (r+2) (i+1)=kY r (r+1) i+1:=by
 unfold kY;by_cases h:i=r
 .rw[aH be,aH h]
 .rw[aF be,aF h];by_cases X:i=r+1
  .rw[aH be,aH X]
  .rw[aF be,aF X]
theorem I6(k:Nat):rS (k+1)= -rS k:=by
 unfold rS;by_cases h:k % 2=1
 .rw[aH h,aF be];grind
 .rw[aF h,aH be]
theorem DN(n:Nat)(m:Mx):fV (n+2) m=cW (fun k=>cW (fun l=>rS k*rS l*(m 0 k*m 1 (skip k l))*fV n fun i j=>m (i+2) (skip k (skip l j))) (n+1)) (n+2):=by
 rw[fV];refine cG fun k _=>?_;rw[fV,<-eY,<-eY];refine cG fun l _=>?_;grind
theorem yA:∀(n r:Nat) (m:Mx),r+1<n->fV n (fun i j=>m (kY r (r+1) i) j)= -fV n m
 |0,_,_,h=>by omega
 |1,_,_,h=>by omega
 |n+2,0,m,_=>by
  rw[DN,DN,<-mX];have key:cW (fun k=>cW (fun l=>rS k*rS l*(m 1 k*m 0 (skip k l))*(fV n fun i j=>m (i+2) (skip k (skip l j)))+rS k*rS l*(m 0 k*m 1 (skip k l))*fV n fun i j=>m (i+2) (skip k (skip l j))) (n+1)) (n+2)=0:=by
   refine xz fun k l Y X=>?_;have e1:skip k l=l+1:=by unfold skip;rw[aF be]
   have e2:skip (l+1) k=k:=by unfold skip;rw[aH be]
   have e3:(fun i j=>m (i+2) (skip (l+1) (skip k j)))=fun i j=>m (i+2) (skip k (skip l j)):=by
    funext i j;rw[HS Y]
   rw[e1,e2,e3,I6];grind
  have h4:cW (fun k=>cW (fun l=>rS k*rS l*(m 1 k*m 0 (skip k l))*(fV n fun i j=>m (i+2) (skip k (skip l j)))+rS k*rS l*(m 0 k*m 1 (skip k l))*fV n fun i j=>m (i+2) (skip k (skip l j))) (n+1)) (n+2)=
    cW (fun k=>cW (fun l=>rS k*rS l*(m 1 k*m 0 (skip k l))*fV n fun i j=>m (i+2) (skip k (skip l j))) (n+1)) (n+2)+cW (fun k=>cW (fun l=>rS k*rS l*(m 0 k*m 1 (skip k l))*fV n fun i j=>m (i+2) (skip k (skip l j))) (n+1)) (n+2):=by
   rw[<-fg];exact cG fun k _=>fg _ _ _
  rw[h4]at key;have h5:cW (fun k=> -cW (fun l=>rS k*rS l*(m 0 k*m 1 (skip k l))*fV n fun i j=>m (i+2) (skip k (skip l j))) (n+1)) (n+2)= -cW (fun k=>cW (fun l=>rS k*rS l*(m 0 k*m 1 (skip k l))*fV n fun i j=>m (i+2) (skip k (skip l j))) (n+1)) (n+2):=mX _ _;rw[h5];have h6:cW (fun k=>cW (fun l=>rS k*rS l*(m (kY 0 1 0) k*m (kY 0 1 1) (skip k l))*fV n fun i j=>m (kY 0 1 (i+2)) (skip k (skip l j))) (n+1)) (n+2)=cW (fun k=>cW (fun l=>rS k*rS l*(m 1 k*m 0 (skip k l))*fV n fun i j=>m (i+2) (skip k (skip l j))) (n+1)) (n+2):=by
   refine cG fun k _=>cG fun l _=>?_;have e:∀i,kY 0 1 (i+2)=i+2:=fun i=>by unfold kY;rw[aF be,aF be]
   simp only[e]
   rfl
  rw[show (0:Nat)+1=1 from rfl,h6];grind
 |n+2,r+1,m,h=>by
  rw[fV,fV,<-mX];refine cG fun k _=>?_;have e:(fun i j=>m (kY (r+1) (r+1+1) (i+1)) (skip k j))=fun i j=>m (kY r (r+1) i+1) (skip k j):=by
   funext i j
   rw[show r+1+1=r+2 from rfl,HT]
  have ih:fV (n+1) (fun i j=>m (kY r (r+1) i+1) (skip k j))= -fV (n+1) fun i j=>m (i+1) (skip k j):=yA (n+1) r (fun i j=>m (i+1) (skip k j)) be;rw[e,ih];rw[show kY (r+1) (r+1+1) 0=0 by unfold kY;rw[aF be,aF be]];grind
theorem nL:∀(k n:Nat) (m:Mx),k+1<n->(∀j,j<n->m 0 j=m (k+1) j)->fV n m=0
 |0,n,m,h,R=>by
  have Y:=yA n 0 m h;rw[iM (m':=m) fun i j D hj=>?_]at Y
  .grind
  .unfold kY;by_cases h0:i=0
   .rw[aH h0,h0];exact(R j hj).symm
   .rw[aF h0];by_cases X:i=1
    .rw[aH X,X];exact R j hj
    .rw[aF X]
 |k+1,n,m,h,R=>by
  have Y:=yA n (k+1) m h;rw[nL k n _ be fun j hj=>?_]at Y
  .grind
  .rw[show kY (k+1) (k+1+1) 0=0 by unfold kY;rw[aF be,aF be],show kY (k+1) (k+1+1) (k+1)=k+1+1 by unfold kY;rw[aH rfl]];exact R j hj
theorem DO(m:Mx)(r:Nat):gR m r (m r)=m:=by
 funext i j
 unfold gR;by_cases h:i=r
 .rw[aH h,h]
 .rw[aF h]
theorem HU{n k:Nat}{m:Mx}(h:k+1<n):fV n (fun i j=>m (kY 0 (k+1) i) j)= -fV n m:=by
 have z:∀u:Nat->Rat,fV n (gR (gR m 0 u) (k+1) u)=0:=fun u=>nL k n _ h fun j _=>by
  unfold gR;rw[aF be,aH rfl,aH rfl]
 have cm:∀u v:Nat->Rat,gR (gR m 0 u) (k+1) v=gR (gR m (k+1) v) 0 u:=fun u v=>by
  funext i j;unfold gR
  by_cases Y:i=k+1
  .rw[aH Y,aF be,aH Y]
  .rw[aF Y,aF Y]
 have l1:∀u v x:Nat->Rat,fV n (gR (gR m 0 u) (k+1) fun j=>v j+1*x j)=fV n (gR (gR m 0 u) (k+1) v)+1*fV n (gR (gR m 0 u) (k+1) x):=fun u v x=>mY 1 n (k+1) _ h v x;have l2:∀u v x:Nat->Rat,fV n (gR (gR m 0 fun j=>v j+1*x j) (k+1) u)=fV n (gR (gR m 0 v) (k+1) u)+1*fV n (gR (gR m 0 x) (k+1) u):=fun u v x=>by
  rw[cm,cm,cm];exact mY 1 n 0 _ be v x
 have Y:=z fun j=>m 0 j+1*m (k+1) j;rw[l1,l2,l2,z,z]at Y;have e1:gR (gR m 0 (m 0)) (k+1) (m (k+1))=m:=by rw[DO,DO]
 have e2:gR (gR m 0 (m (k+1))) (k+1) (m 0)=fun i j=>m (kY 0 (k+1) i) j:=by
  funext i j;unfold gR kY
  by_cases Y:i=k+1
  .rw[aH Y,aF be,aH Y]
  .rw[aF Y];by_cases h0:i=0
   .rw[aH h0,aH h0]
   .rw[aF h0,aF h0,aF Y]
 rw[e1,e2]at Y;grind
theorem kZ(f:Nat->Rat)(p:Rat)(n:Nat):cW (fun k=>f k*p) n=cW f n*p:=by
 rw[bs,<-eY];exact cG fun k _=>bs ..
theorem s6(f g:Nat->Rat):∀(n:Nat),cW (fun k=>f k-g k) n=cW f n-cW g n
 |0=>by show(0:Rat)=0-0;grind
 |n+1=>by rw[cW,cW,cW,s6 f g n];grind
theorem e7{f:Nat->Rat}{i:Nat}:∀{n:Nat},i<n->(∀k,k<n->k≠i->f k=0)->cW f n=f i
 |0,h,_=>by omega
 |n+1,h,hz=>by
  rw[cW];rcases aR i n with Y|Y
  .rw[e7 Y fun k E OB=>hz k be OB,hz n be be,bg]
  .obtain rfl:i=n:=by omega
   rw[cG (g:=fun _=>0) fun k E=>hz k be be,dX,Rat.zero_add]
theorem sq_nonneg(x:Rat):0<=x*x:=by
 rcases Rat.le_total (a:=0) (b:=x)with h|h
 .exact Rat.mul_nonneg h h
 .have:=Rat.mul_nonneg (show 0<= -x by grind) (show 0<= -x by grind);grind
end Go.Ex
namespace Go.Ex
open Go Go.Sx Go.Proofs
variable{q:Rat}
abbrev NT(gm E9:Nat):Value:=.slice (some ⟨gm,0,none⟩) E9 E9
def Lm'(S:Nat->Prop)(B:Nat)(iv:Iv)(gm E9:Nat)(rv:List Value)(g:Nat):Prop:=Cv S B iv g/\¬Mb (NT gm E9) rv g
structure Nc(w:World)(S:Nat->Prop)(B:Nat)(iv:Iv)(gm E9 n:Nat)(rv:List Value)(M:List (List Rat)):Prop where
 mat:NA w (Lm' S B iv gm E9 rv) (NT gm E9) rv n M
 Aa:∀g,Mb (NT gm E9) rv g->Cv FF B iv g
 rows:rv.length=E9
section
variable{S S':Nat->Prop}{H:Hp}{nx gm E9 n:Nat}{iv K:Iv}{B:Nat}{w J I:World}{O:Nat->Sx.da}{rv:List Value}{M:List (List Rat)}
structure aAH(w:World)(S:Nat->Prop)(B:Nat)(iv:Iv)(gm E9 n:Nat)(rv:List Value)(M:List (List Rat))(i:Nat)(vb:Value):Prop where
 out:w.ownsRow 0 T.row 1 (NT gm E9) E9 (rv.set i vb)
 was:∃w0,Nc w0 S B iv gm E9 n rv M/\∀g,Cv S B iv g->g≠gm->w.heap[g]? =w0.heap[g]?
end
section
variable{S:Nat->Prop}{H:Hp}{nx gm E9:Nat}{iv K:Iv}{B:Nat}{w J I:World}{O:Nat->Sx.da}{rv:List Value}{W:List (List Value)}{qs:List Rat}
end
section
variable{S:Nat->Prop}{H:Hp}{nx:Nat}{iv0:Iv}{B:Nat}{w J I:World}{O:Nat->Sx.da}{v:Value}{xs:List Rat}
end
theorem lD:rs q<0↔q<0:=by rw[rs,Int.sign_neg_iff,<-Int.not_le,Rat.num_nonneg,Rat.not_le]
theorem nt:0<rs q↔0<q:=by
 have h:=lD (q:= -q);rw[MD]at h;constructor
 .intro k;have:=h.1 be;grind
 .intro k;have:=h.2 (by grind);omega
end Go.Ex
namespace Go.Ex
variable{Fd M:List (List Rat)}{s:List (List Rat)×List Nat}{r:Nat}{p q:Nat->Nat}{u v:Nat->Rat}
theorem mZ(f:Nat->Nat->Rat)(m:Nat):∀n,cW (fun i=>cW (f i) m) n=cW (fun j=>cW (fun i=>f i j) n) m
 |0=>(dX m).symm
 |n+1=>by
  show cW (fun i=>cW (f i) m) n+cW (f n) m=cW (fun j=>cW (fun i=>f i j) n+f n j) m;rw[fg,mZ f m n]
theorem rT(x y:List Rat):∀n,fC x y n=cW (fun t=>x.getD t 0*y.getD t 0) n
 |0=>rfl
 |n+1=>by rw[fC,rT x y n];rfl
theorem vN{f:Nat->Rat}:∀{n:Nat},(∀k,k<n->0<=f k)->0<=cW f n
 |0,_=>Rat.le_refl
 |n+1,h=>by
  have Y:=vN (n:=n) fun k E=>h k be;have X:=h n be;show 0<=cW f n+f n;grind
theorem vO{f:Nat->Rat}:∀{n:Nat},(∀k,k<n->0<=f k)->cW f n<=0->∀k,k<n->f k=0
 |0,_,_,k,E=>by omega
 |n+1,h,h0,k,E=>by
  have Y:=vN (n:=n) fun k E=>h k be;have X:=h n be;have N:cW f n+f n<=0:=h0;rcases aR k n with h4|h4
  .exact vO (fun k E=>h k be) (by grind) k h4
  .rw[show k=n by omega];grind
def Bg(m:Mx)(n w:Nat):Prop:=∀x:Nat->Rat,(∀t,t<w->cW (fun i=>x i*m i t) n=0)->∀i,i<n->x i=0
theorem I7(f:Nat->Rat){n a b:Nat}(ha:a<n)(hb:b<n):cW (fun i=>f (kY a b i)) n=cW f n:=by
 have Y:cW (fun i=>(if i=a then f b-f a else 0)+(if i=b then f a-f b else 0)) n=0:=by
  rw[fg,e7 ha fun k _ OB=>aF OB,e7 hb fun k _ OB=>aF OB,aH rfl,aH rfl];grind
 have X:cW (fun i=>f (kY a b i)) n-cW f n=0:=by
  rw[<-s6,<-Y];refine cG fun k _=>?_;unfold kY;by_cases N:k=a
  .subst N;rw[aH rfl,aH rfl];by_cases h4:k=b
   .subst h4;rw[aH rfl];grind
   .rw[aF h4];grind
  .rw[aF N,aF N];by_cases h4:k=b
   .subst h4;rw[aH rfl,aH rfl];grind
   .rw[aF h4,aF h4];grind
 grind
theorem Bh(a b i:Nat):kY a b (kY a b i)=i:=by
 unfold kY;by_cases Y:i=a
 .rw[aH Y];by_cases X:b=a
  .rw[aH X];omega
  .rw[aF X,aH rfl];omega
 .rw[aF Y];by_cases X:i=b
  .rw[aH X,aH rfl];omega
  .rw[aF X,aF Y,aF X]
theorem ME{a b i n:Nat}(ha:a<n)(hb:b<n)(D:i<n):kY a b i<n:=by unfold kY;split<;>(try split)<;>omega
theorem Bg.kY{m:Mx}{n w a b:Nat}(h:Bg m n w)(ha:a<n)(hb:b<n):Bg (fun i t=>m (kY a b i) t) n w:=fun x G i D=>by
 have Y:=h (fun i=>x (Go.Ex.kY a b i)) (fun t ht=>by
  rw[<-G t ht,<-I7 (fun i=>x i*m (Go.Ex.kY a b i) t) ha hb]
  exact cG fun k _=>by simp only[Bh]) (Go.Ex.kY a b i) (ME ha hb D)
 simp only[Bh]at Y;exact Y
section
variable{m m':Mx}{n w p:Nat}{κ:Rat}{q:Nat->Rat}
def lP(p:Nat)(q x:Nat->Rat)(n:Nat):Rat:=cW (fun j=>if j=p then 0 else x j*q j) n
theorem GF(hp:p<n)(Y:∀t,t<w->m' p t=κ*m p t)(X:∀j t,j<n->j≠p->t<w->m' j t=m j t+q j*m' p t)(x:Nat->Rat){t:Nat}(ht:t<w):
  cW (fun j=>x j*m' j t) n=cW (fun j=>(if j=p then κ*(x p+lP p q x n)else x j)*m j t) n:=by
 have N:cW (fun j=>x j*m' j t) n-cW (fun j=>(if j=p then κ*(x p+lP p q x n)else x j)*m j t) n=0:=by
  rw[<-s6];have h4:∀j,j<n->x j*m' j t-(if j=p then κ*(x p+lP p q x n)else x j)*m j t=(if j=p then 0 else x j*q j)*(κ*m p t)+(if j=p then -(lP p q x n*(κ*m p t))else 0):=fun j hj=>by
   by_cases h5:j=p
   .subst h5;rw[aH rfl,aH rfl,aH rfl,Y t ht];grind
   .rw[aF h5,aF h5,aF h5,X j t hj h5 ht,Y t ht];grind
  rw[cG h4,fg,kZ,e7 hp fun k _ OB=>aF OB,aH rfl];unfold lP;grind
 grind
theorem Bg.mix(D:Bg m n w)(hκ:κ≠0)(hp:p<n)(Y:∀t,t<w->m' p t=κ*m p t)(X:∀j t,j<n->j≠p->t<w->m' j t=m j t+q j*m' p t):Bg m' n w:=fun x G=>by
 have N:=D _ fun t ht=>(GF hp Y X x ht).symm.trans (G t ht);have h4:∀j,j<n->j≠p->x j=0:=fun j hj OB=>by have:=N j hj;rwa [aF OB]at this
 have h5:lP p q x n=0:=by
  unfold lP;rw[cG (g:=fun _=>0) fun j hj=>?_,dX];by_cases h6:j=p
  .rw[aH h6]
  .rw[aF h6,h4 j hj h6,bH]
 have h6:=N p hp;rw[aH rfl,h5,bg]at h6;intro i D;by_cases h7:i=p
 .rw[h7];exact(Rat.mul_eq_zero.1 h6).resolve_left hκ
 .exact h4 i D h7
theorem Bg.Mp(D:Bg m' n w)(hκ:κ≠0)(hp:p<n)(Y:∀t,t<w->m' p t=κ*m p t)(X:∀j t,j<n->j≠p->t<w->m' j t=m j t+q j*m' p t):Bg m n w:=fun y hy=>by
 have E:κ*κ⁻¹=1:=Rat.mul_inv_cancel _ hκ;have N:=D (fun j=>if j=p then y p*κ⁻¹-lP p q y n else y j) fun t ht=>by
  rw[GF hp Y X _ ht,<-hy t ht];refine cG fun j hj=>?_;have h5:lP p q (fun j=>if j=p then y p*κ⁻¹-lP p q y n else y j) n=lP p q y n:=by
   unfold lP;refine cG fun i _=>?_;by_cases h6:i=p
   .rw[aH h6,aH h6]
   .rw[aF h6,aF h6];simp only[aF h6]
  rw[h5,aH rfl];by_cases h6:j=p
  .rw[aH h6,h6];grind
  .rw[aF h6,aF h6]
 have h4:∀j,j<n->j≠p->y j=0:=fun j hj OB=>by have:=N j hj;rwa [aF OB]at this
 have h5:lP p q y n=0:=by
  unfold lP;rw[cG (g:=fun _=>0) fun j hj=>?_,dX];by_cases h6:j=p
  .rw[aH h6]
  .rw[aF h6,h4 j hj h6,bH]
 have h6:=N p hp;rw[aH rfl,h5]at h6;intro i D;by_cases h7:i=p
 .rw[h7];grind
 .exact h4 i D h7
end
theorem Bg.congr{m m':Mx}{n w:Nat}(h:Bg m n w)(e:∀i t,i<n->t<w->m' i t=m i t):Bg m' n w:=fun x G=>h x fun t ht=>by
 rw[<-G t ht];exact cG fun i D=>by rw[e i t D ht]
theorem I8{c w:Nat}(hl:gD w s.1)(hle:s.2.length<=s.1.length):Bg (dB (dh s c).1) s.1.length w↔Bg (dB s.1) s.1.length w:=by
 rcases jK c hle with⟨e,-⟩|⟨k,Y,X,N,e⟩
 .rw[e]
 .obtain⟨r1,r2⟩:=kc hl Y X N e;have hp:s.2.length<s.1.length:=by omega
  have hs:kY s.2.length k s.2.length=k:=by unfold kY;rw[aH rfl]
  have hκ:(1 / dB s.1 k c)≠0:=fun e=>by have:=s4 N;rw[e,bD]at this;exact absurd this bi
  have q1:∀t,t<w->dB (dh s c).1 s.2.length t=(1 / dB s.1 k c)*(fun i t=>dB s.1 (kY s.2.length k i) t) s.2.length t:=fun t _=>by
   simp only[hs]
   rw[r1,bs]
  have q2:∀j t,j<s.1.length->j≠s.2.length->t<w->dB (dh s c).1 j t=(fun i t=>dB s.1 (kY s.2.length k i) t) j t+(fun j=> -(dB s.1 (kY s.2.length k j) c)) j*dB (dh s c).1 s.2.length t:=fun j t hj OB ht=>by
   rw[r2 j hj OB t ht,r1];have:kY s.2.length k j=if j=k then s.2.length else j:=by unfold kY;rw[aF OB]
   simp only[this]
  constructor
  .intro h;have h4:=(Bg.Mp h hκ hp q1 q2).kY hp X;exact h4.congr fun i t _ _=>by simp only[Bh]
  .intro h;exact Bg.mix (h.kY hp X) hκ hp q1 q2
theorem vP{M:List (List Rat)}{w:Nat}(hl:gD w M):∀cols,cols<=w->(Bg (dB (cL M cols).1) M.length w↔Bg (dB M) M.length w)
 |0,_=>Iff.rfl
 |c+1,h=>by
  have ih:=vP hl c be;have hr:=dZ hl c be;have Y:=eD M c;rw[<-ih];have X:=I8 (c:=c) hr.1 hr.2.1;rw[Y]at X;rw[<-X];unfold cL;rw[bZ,List.foldl_append];exact Iff.rfl
def dw(Fd:Mx)(r n:Nat)(v:Nat->Rat):Prop:=∃c:Nat->Rat,∀t,t<n->v t=cW (fun i=>c i*Fd i t) r
structure Rf(Fd:Mx)(p:Nat->Nat)(r n:Nat):Prop where
 lt:∀i,i<r->p i<n
 mono:∀i j,i<j->j<r->p i<p j
 unit:∀i j,i<r->j<r->Fd j (p i)=if j=i then 1 else 0
 lead:∀i t,i<r->t<p i->Fd i t=0
section
variable{Fd D':Mx}{p q:Nat->Nat}{r s n:Nat}{v:Nat->Rat}
theorem Rf.coeff(h:Rf Fd p r n)(hv:dw Fd r n v):∀t,t<n->v t=cW (fun i=>v (p i)*Fd i t) r:=by
 obtain⟨c,hc⟩:=hv;intro t ht;rw[hc t ht];refine cG fun i D=>?_;rw[hc (p i) (h.lt i D),e7 D fun k E OB=>by rw[h.unit i k D E,aF OB,bD],h.unit i i D D,aH rfl,Rat.mul_one]
theorem Rf.Ke(h:Rf Fd p r n)(hv:dw Fd r n v){t:Nat}(ht:t<n)(h0:v t≠0)(hz:∀k,k<t->v k=0):∃i,i<r/\p i=t:=by
 refine Decidable.byContradiction fun Qm=>h0 ?_;rw[h.coeff hv t ht,cG (g:=fun _=>0) fun i D=>?_,dX];rcases bw (p i) t with Y|Y|Y
 .rw[hz _ Y,bH]
 .exact absurd ⟨i,D,Y⟩ Qm
 .rw[h.lead i t D Y,bD]
theorem Rf.LY(h:Rf Fd p r n)(k:Rf D' q s n)(hE:∀i,i<r->dw D' s n (Fd i)){i:Nat}(D:i<r):∃j,j<s/\q j=p i:=
 k.Ke (hE i D) (h.lt i D) (by rw[h.unit i i D D,aH rfl];decide) fun t ht=>h.lead i t D ht
theorem Rf.I9(h:Rf Fd p r n)(k:Rf D' q s n)(hE:∀i,i<r->dw D' s n (Fd i))(hF:∀j,j<s->dw Fd r n (D' j)):∀i,i<r->i<s/\p i=q i:=by
 intro i
 induction i using Nat.strongRecOn with
 |ind i ih=>
  intro D;obtain⟨j,hj,e1⟩:=h.LY k hE D;have Ol:i<=j:=by
   refine Nat.le_of_not_lt fun OT=>?_;have Y:=(ih j OT be).2;have X:=h.mono j i OT D;omega
  have his:i<s:=by omega
  refine⟨his,?_⟩;obtain⟨l,hl,e2⟩:=k.LY h hF his;have hli:i<=l:=by
   refine Nat.le_of_not_lt fun OT=>?_;have Y:=(ih l OT hl).2;have X:=k.mono l i OT his;omega
  have N:q i<=q j:=by
   rcases aR i j with h4|h4
   .exact Nat.le_of_lt (k.mono i j h4 hj)
   .rw[show i=j by omega];exact aN _
  have h5:p i<=p l:=by
   rcases aR i l with h4|h4
   .exact Nat.le_of_lt (h.mono i l h4 hl)
   .rw[show i=l by omega];exact aN _
  omega
theorem Rf.one(h:Rf Fd p r n)(k:Rf D' q s n)(hE:∀i,i<r->dw D' s n (Fd i))(hF:∀j,j<s->dw Fd r n (D' j)):r=s/\(∀i,i<r->p i=q i)/\∀i t,i<r->t<n->Fd i t=D' i t:=by
 have Y:=h.I9 k hE hF;have X:=k.I9 h hF hE;have Ux:r=s:=by
  rcases bw r s with N|N|N
  .have:=(X r N).1;omega
  .exact N
  .have:=(Y s N).1;omega
 refine⟨Ux,fun i D=>(Y i D).2,fun i t D ht=>?_⟩;rw[k.coeff (hE i D) t ht,e7 (i:=i) be fun j hj OB=>by rw[<-(Y j be).2,h.unit j i be D,aF (Ne.symm OB),bH],<-(Y i D).2,h.unit i i D D,aH rfl,cA]
end
theorem dw.row{Fd:Mx}{n i:Nat}(D:i<r):dw Fd r n (Fd i):=⟨fun k=>if k=i then 1 else 0,fun t _=>by
 rw[e7 D fun k _ OB=>by simp only[aF OB,bH]]
 simp only[aH,cA]⟩
theorem dw.add{Fd:Mx}{n:Nat}(h:dw Fd r n u)(k:dw Fd r n v)(x:Rat):dw Fd r n fun t=>u t+x*v t:=by
 obtain⟨c,hc⟩:=h;obtain⟨d,hd⟩:=k;refine⟨fun i=>c i+x*d i,fun t ht=>?_⟩;show u t+x*v t=cW (fun i=>(c i+x*d i)*Fd i t) r;rw[hc t ht,hd t ht,<-eY,<-fg];exact cG fun i _=>by grind
theorem dw.mul{Fd:Mx}{n:Nat}(h:dw Fd r n u)(x:Rat):dw Fd r n fun t=>u t*x:=by
 obtain⟨c,hc⟩:=h;refine⟨fun i=>c i*x,fun t ht=>?_⟩;show u t*x=cW (fun i=>(c i*x)*Fd i t) r;rw[hc t ht,<-kZ];exact cG fun i _=>by grind
theorem dw.congr{Fd:Mx}{n:Nat}(h:dw Fd r n u)(e:∀t,t<n->v t=u t):dw Fd r n v:=by
 obtain⟨c,hc⟩:=h;exact⟨c,fun t ht=>by rw[e t ht,hc t ht]⟩
theorem dw.trans{Fd D':Mx}{s n:Nat}(h:dw Fd r n v)(k:∀i,i<r->dw D' s n (Fd i)):dw D' s n v:=by
 obtain⟨c,hc⟩:=h;have key:∀m,m<=r->dw D' s n fun t=>cW (fun i=>c i*Fd i t) m:=by
  intro m
  induction m with
  |zero=>intro _;exact⟨fun _=>0,fun t _=>by rw[cG (g:=fun _=>0) fun i _=>bH _,dX];rfl⟩
  |succ m ih=>
   intro hm;exact(ih be).add (k m be) (c m)
 exact(key r (aN _)).congr fun t ht=>hc t ht
def Ia(s:List (List Rat)×List Nat):Prop:=(∀i j,i<j->j<s.2.length->s.2.getD i 0<s.2.getD j 0)/\∀i t,i<s.2.length->t<s.2.getD i 0->dB s.1 i t=0
theorem Ia.step{n c:Nat}(h:Ia s)(hr:Mh n c s)(hc:c<n):Ia (dh s c):=by
 obtain⟨hl,hle,hz,Qw,hu⟩:=hr;rcases jK c hle with⟨e,-⟩|⟨k,Y,X,N,e⟩
 .rw[e];exact h
 .obtain⟨r1,r2⟩:=kc hl Y X N e;have e2:(dh s c).2=s.2++[c]:=by rw[e]
  have hold:∀i,i<s.2.length->(dh s c).2.getD i 0=s.2.getD i 0:=fun i D=>by rw[e2,List.getD,aK D,<-List.getD]
  have So:(dh s c).2.getD s.2.length 0=c:=by rw[e2,List.getD,aQ (aN _),bP];rfl
  have OT:∀i,i<s.2.length->s.2.getD i 0<c:=fun i D=>Qw _ (by rw[List.getD,aB D];exact a9 _);have hlen:(dh s c).2.length=s.2.length+1:=by rw[e2];simp
  refine⟨fun i j PR hj=>?_,fun i t D ht=>?_⟩
  .rw[hlen]at hj;rcases aR j s.2.length with h4|h4
   .rw[hold i be,hold j h4];exact h.1 i j PR h4
   .rw[show j=s.2.length by omega,So,hold i be];exact OT i be
  .rw[hlen]at D;rcases aR i s.2.length with h4|h4
   .rw[hold i h4]at ht;have h5:=OT i h4;rw[r2 i be be t be,hz k t Y X be,aF be,h.2 i t h4 ht,bH,bD,Rat.zero_add]
   .rw[show i=s.2.length by omega]at ht ⊢;rw[So]at ht;rw[r1,hz k t Y X ht,bH]
theorem s7{M:List (List Rat)}{n:Nat}(hl:gD n M):∀cols,cols<=n->Ia (cL M cols)
 |0,_=>⟨fun _ _ _ h=>(by cases h),fun _ _ h=>(by cases h)⟩
 |c+1,h=>by
  have ih:=s7 hl c be;have hr:=dZ hl c be;unfold cL at ih hr ⊢;rw[bZ,List.foldl_append];exact ih.step hr be
theorem yB{n:Nat}(hl:gD n M):Rf (dB (cL M n).1) (fun i=>(cL M n).2.getD i 0) (cL M n).2.length n:=by
 obtain⟨Y,X,N,h4,h5⟩:=dZ hl n (aN _);obtain⟨k1,k2⟩:=s7 hl n (aN _);refine⟨fun i D=>h4 _ (by rw[List.getD,aB D];exact a9 _),k1,fun i j D hj=>h5 i j D be,k2⟩
theorem Kf{c n:Nat}(hl:gD n s.1)(hle:s.2.length<=s.1.length):(∀j,j<s.1.length->dw (dB s.1) s.1.length n (dB (dh s c).1 j))/\∀j,j<s.1.length->dw (dB (dh s c).1) s.1.length n (dB s.1 j):=by
 rcases jK c hle with⟨e,-⟩|⟨k,Y,X,N,e⟩
 .rw[e];exact⟨fun j hj=>dw.row hj,fun j hj=>dw.row hj⟩
 .obtain⟨r1,r2⟩:=kc hl Y X N e;have hp:s.2.length<s.1.length:=by omega
  have a1:dw (dB s.1) s.1.length n (dB (dh s c).1 s.2.length):=((dw.row X).mul (1 / dB s.1 k c)).congr fun t _=>r1 t;have b1:dw (dB (dh s c).1) s.1.length n (dB s.1 k):=((dw.row hp).mul (dB s.1 k c)).congr fun t _=>by rw[r1,Rat.mul_assoc,bs (1 / _),s4 N,Rat.mul_one]
  refine⟨fun j hj=>?_,fun j hj=>?_⟩
  .by_cases h4:j=s.2.length
   .rw[h4];exact a1
   .exact((dw.row (show (if j=k then s.2.length else j)<s.1.length by split<;>omega)).add (dw.row X) (-(dB s.1 (if j=k then s.2.length else j) c)*(1 / dB s.1 k c))).congr fun t ht=>by rw[r2 j hj h4 t ht];grind
  .by_cases h4:j=k
   .rw[h4];exact b1
   .obtain⟨i,D,OB,PR⟩:∃i,i<s.1.length/\i≠s.2.length/\(if i=k then s.2.length else i)=j:=by
     by_cases h5:j=s.2.length
     .exact⟨k,X,fun e6=>h4 (h5.trans e6.symm),by rw[aH rfl,h5]⟩
     .exact⟨j,hj,h5,aF h4⟩
    refine((dw.row D).add (dw.row hp) (dB s.1 j c)).congr fun t ht=>?_;rw[r2 i D OB t ht,PR,r1];grind
theorem jF{M:List (List Rat)}{n:Nat}(hl:gD n M):∀cols,cols<=n->(∀j,j<M.length->dw (dB M) M.length n (dB (cL M cols).1 j))/\∀j,j<M.length->dw (dB (cL M cols).1) M.length n (dB M j)
 |0,_=>⟨fun j hj=>dw.row hj,fun j hj=>dw.row hj⟩
 |c+1,h=>by
  obtain⟨i1,i2⟩:=jF hl c be;have hr:=dZ hl c be;have Y:=eD M c;have X:=Kf (c:=c) hr.1 hr.2.1;rw[Y]at X;have e:(cL M (c+1))=dh (cL M c) c:=by unfold cL;rw[bZ,List.foldl_append];rfl
  rw[e];exact⟨fun j hj=>(X.1 j hj).trans i1,fun j hj=>(i2 j hj).trans X.2⟩
theorem dw.cut{Fd:Mx}{m n:Nat}(h:dw Fd m n v)(hz:∀i t,r<=i->i<m->t<n->Fd i t=0):dw Fd r n v:=by
 refine h.trans fun i D=>?_;rcases aR i r with Y|Y
 .exact dw.row Y
 .exact⟨fun _=>0,fun t ht=>by rw[hz i t Y D ht,cG (g:=fun _=>0) fun k _=>bH _,dX]⟩
theorem DP{n:Nat}{D':Mx}(hl:gD n M)(k:Rf D' q r n)(Y:∀i,i<r->dw (dB M) M.length n (D' i))(X:∀j,j<M.length->dw D' r n (dB M j)):
  (cL M n).2.length=r/\(∀i,i<r->(cL M n).2.getD i 0=q i)/\∀i t,i<r->t<n->dB (cL M n).1 i t=D' i t:=by
 obtain⟨a1,a2⟩:=jF hl n (aN _);obtain⟨-,hle,hz,-,-⟩:=dZ hl n (aN _);rw[eD]at hle hz;have h:=yB hl;obtain⟨e1,e2,e3⟩:=h.one k (fun i D=>(a1 i be).trans X) fun j hj=>((Y j hj).trans a2).cut fun i t D hm ht=>hz i t D hm ht;exact⟨e1,fun i D=>e2 i be,fun i t D ht=>e3 i t be ht⟩
structure Ru(Fd:Mx)(p:Nat->Nat)(r n:Nat):Prop where
 lt:∀i,i<r->p i<n
 inj:∀i j,i<r->j<r->p i=p j->i=j
 unit:∀i j,i<r->j<r->Fd j (p i)=if j=i then 1 else 0
 lead:∀i t,i<r->t<p i->Fd i t=0
def lK(Fd:Mx)(p:Nat->Nat)(r:Nat)(v:Nat->Rat)(k t:Nat):Rat:=v t-cW (fun i=>if p i<k then v (p i)*Fd i t else 0) r
theorem Ic(Fd:Mx)(p:Nat->Nat)(r:Nat)(v:Nat->Rat)(t:Nat):lK Fd p r v 0 t=v t:=by
 unfold lK;rw[cG (g:=fun _=>0) fun i _=>aF be,dX];grind
section
variable{Fd:Mx}{p:Nat->Nat}{r n:Nat}{v:Nat->Rat}
theorem Ie{k t:Nat}(h:∀i,i<r->p i≠k):lK Fd p r v (k+1) t=lK Fd p r v k t:=by
 unfold lK;rw[cG fun i D=>?_];have:=h i D;by_cases Y:p i<k
 .rw[aH Y,aH be]
 .rw[aF Y,aF be]
theorem MF(h:Ru Fd p r n){i:Nat}(D:i<r):lK Fd p r v (p i) (p i)=v (p i):=by
 unfold lK;rw[cG (g:=fun _=>0) fun j hj=>?_,dX]
 .grind
 .by_cases Y:p j<p i
  .rw[aH Y,h.unit i j D hj,aF (fun e=>by rw[e]at Y;omega),bD]
  .rw[aF Y]
theorem Ig(h:Ru Fd p r n){i t:Nat}(D:i<r):lK Fd p r v (p i+1) t=lK Fd p r v (p i) t+ -(lK Fd p r v (p i) (p i))*Fd i t:=by
 rw[MF h D];unfold lK;have e:cW (fun j=>if p j<p i+1 then v (p j)*Fd j t else 0) r=cW (fun j=>(if p j<p i then v (p j)*Fd j t else 0)+(if j=i then v (p i)*Fd i t else 0)) r:=by
  refine cG fun j hj=>?_;by_cases Y:j=i
  .subst Y;rw[aH be,aF be,aH rfl,Rat.zero_add]
  .have X:p j≠p i:=fun e=>Y (h.inj j i hj D e);rw[aF Y,bg];by_cases N:p j<p i
   .rw[aH N,aH be]
   .rw[aF N,aF be]
 rw[e,fg,e7 D fun k _ OB=>aF OB,aH rfl];grind
theorem GG(h:Ru Fd p r n){i:Nat}(D:i<r):lK Fd p r v n (p i)=0:=by
 unfold lK;rw[e7 D fun k E OB=>?_,aH (h.lt i D),h.unit i i D D,aH rfl]
 .grind
 .rw[aH (h.lt k E),h.unit i k D E,aF OB,bD]
end
def kA(Fd:Mx)(r:Nat)(u:Nat->Rat)(k:Nat):Mx:=fun i t=>if i=r then u t / u k else Fd i t+ -(Fd i k)*(u t / u k)
theorem Ru.push{Fd:Mx}{n k:Nat}(h:Ru Fd p r n)(E:k<n)(hu:∀i,i<r->u (p i)=0)(h0:u k≠0)(hz:∀t,t<k->u t=0):
  Ru (kA Fd r u k) (fun i=>if i=r then k else p i) (r+1) n:=by
 have OB:∀i,i<r->p i≠k:=fun i D e=>h0 (e▸hu i D);have Qd:u k / u k=1:=by rw[bo,Rat.mul_inv_cancel _ h0]
 have OM:∀i,i<r->u (p i) / u k=0:=fun i D=>by rw[hu i D,bo,bH]
 refine⟨fun i D=>?_,fun i j D hj e=>?_,fun i j D hj=>?_,fun i t D ht=>?_⟩
 .split
  .exact E
  .exact h.lt i be
 .by_cases Y:i=r
  .by_cases X:j=r
   .omega
   .rw[aH Y,aF X]at e;exact absurd e.symm (OB j be)
  .by_cases X:j=r
   .rw[aF Y,aH X]at e;exact absurd e (OB i be)
   .rw[aF Y,aF X]at e;exact h.inj i j be be e
 .unfold kA;by_cases Y:i=r
  .rw[aH Y];by_cases X:j=r
   .rw[aH X,aH be,Qd]
   .rw[aF X,aF be,Qd];grind
  .rw[aF Y];by_cases X:j=r
   .rw[aH X,aF be,OM i be]
   .rw[aF X,OM i be,bD,bg];exact h.unit i j be be
 .unfold kA;by_cases Y:i=r
  .rw[aH Y]at ht;rw[aH Y,hz t ht,bo,bH]
  .rw[aF Y]at ht;rw[aF Y,h.lead i t be ht,Rat.zero_add];rcases aR t k with X|X
   .rw[hz t X,bo,bH,bD]
   .rw[h.lead i k be be];grind
def j2(Fd:Mx)(r:Nat)(v:Nat->Rat):Mx:=fun i t=>if i=r then v t else Fd i t
section
variable{Fd:Mx}{p:Nat->Nat}{r n k:Nat}{u v:Nat->Rat}
theorem HV(i:Nat)(D:i<r):dw (j2 Fd r v) (r+1) n (Fd i):=(dw.row (show i<r+1 by omega)).congr fun t _=>by unfold j2;rw[aF be]
theorem MG(hu:∀t,t<n->u t=lK Fd p r v n t)(hl:∀i,i<r->p i<n):dw (j2 Fd r v) (r+1) n u:=by
 refine⟨fun i=>if i=r then 1 else -(v (p i)),fun t ht=>?_⟩;rw[hu t ht];show lK Fd p r v n t=cW (fun i=>(if i=r then 1 else -(v (p i)))*j2 Fd r v i t) r+(if r=r then 1 else -(v (p r)))*j2 Fd r v r t;rw[aH rfl,cG (g:=fun i=> -(v (p i)*Fd i t)) fun i D=>by unfold j2;rw[aF be,aF be,Rat.neg_mul],mX];unfold lK j2;rw[aH rfl,cG (g:=fun i=>v (p i)*Fd i t) fun i D=>aH (hl i D)];grind
theorem Ih(hu:dw (j2 Fd r v) (r+1) n u):∀i,i<r+1->dw (j2 Fd r v) (r+1) n (kA Fd r u k i):=fun i D=>by
 by_cases Y:i=r
 .exact(hu.mul (1 / u k)).congr fun t _=>by unfold kA;rw[aH Y,bo,bo,cA]
 .exact((HV i be).add hu (-(Fd i k)*(1 / u k))).congr fun t _=>by unfold kA;rw[aF Y,bo,bo];grind
theorem GH(h0:u k≠0):dw (kA Fd r u k) (r+1) n u:=((dw.row (show r<r+1 by omega)).mul (u k)).congr fun t _=>by
 unfold kA;rw[aH rfl,Rat.div_mul_cancel h0]
theorem qK(h0:u k≠0)(i:Nat)(D:i<r):dw (kA Fd r u k) (r+1) n (Fd i):=((dw.row (show i<r+1 by omega)).add (GH h0) (Fd i k / u k)).congr fun t _=>by
 unfold kA;rw[aF be,bo,bo];grind
theorem Ao(h0:u k≠0)(hu:∀t,t<n->u t=lK Fd p r v n t)(hl:∀i,i<r->p i<n):dw (kA Fd r u k) (r+1) n v:=by
 have Y:dw (j2 Fd r u) (r+1) n v:=by
  refine⟨fun i=>if i=r then 1 else v (p i),fun t ht=>?_⟩;show v t=cW (fun i=>(if i=r then 1 else v (p i))*j2 Fd r u i t) r+(if r=r then 1 else v (p r))*j2 Fd r u r t;rw[aH rfl,cG (g:=fun i=>v (p i)*Fd i t) fun i D=>by unfold j2;rw[aF be,aF be]];unfold j2;rw[aH rfl,hu t ht];unfold lK;rw[cG (g:=fun i=>v (p i)*Fd i t) fun i D=>aH (hl i D)];grind
 refine Y.trans fun i D=>?_;by_cases X:i=r
 .exact(GH h0).congr fun t _=>by unfold j2;rw[aH X]
 .exact(qK h0 i be).congr fun t _=>by unfold j2;rw[aF X]
end
def lQ(row uC:List Rat)(by_:Rat):List Rat:=row.mapIdx (xp (-by_) uC)
theorem s8(row uC:List Rat)(b:Rat):(lQ row uC b).length=row.length:=List.length_mapIdx
theorem yC(row uC:List Rat):lQ row uC 0=row:=by
 refine bY fun j=>?_;rw[lQ,List.getElem?_mapIdx]
 cases row[j]? with
 |none=>rfl
 |some q=>exact congrArg some (by rw[xp,Rat.neg_zero,bH,bg])
def oG(row:List Rat):Nat->Nat->Nat
 |0,k=>k
 |f+1,k=>if row.getD k 0=0 then oG row f (k+1)else k
def s9(row:List Rat)(cols:Nat):Nat:=oG row cols 0
theorem Ij{row:List Rat}{k:Nat}:∀(f j:Nat),(∀i,j<=i->i<j+k->row.getD i 0=0)->k<=f->(k<f->row.getD (j+k) 0≠0)->oG row f j=j+k:=by
 induction k with
 |zero=>
  intro f j _ _ h
  cases f with
  |zero=>rfl
  |succ f=>rw[oG,aF (by have:=h be;rwa [cC]at this)];rfl
 |succ k ih=>
  intro f j h0 hf h
  cases f with
  |zero=>omega
  |succ f=>
   rw[oG,aH (h0 j (aN _) be),ih f (j+1) (fun i Y X=>h0 i be be) be (fun Y=>by rw[Nat.add_assoc,Nat.add_comm 1 k];exact h be)];omega
theorem GI{row:List Rat}{cols k:Nat}(h0:∀i,i<k->row.getD i 0=0)(E:k<=cols)(h:k<cols->row.getD k 0≠0):s9 row cols=k:=by
 rw[s9,Ij (k:=k) cols 0 (fun i _ X=>h0 i be) E (fun Y=>by rw[aX];exact h Y),aX]
abbrev wQ:=List (List Rat)×List (Option Nat)×List Nat
def fW(Fd:List (List Rat))(at_:List (Option Nat))(row:List Rat):Nat->List Rat
 |0=>row
 |k+1=>match at_.getD k none with
  |some j=>lQ (fW Fd at_ row k) (Fd.getD j []) ((fW Fd at_ row k).getD k 0)
  |none=>fW Fd at_ row k
theorem gh(Fd:List (List Rat))(at_:List (Option Nat))(row:List Rat):∀k,(fW Fd at_ row k).length=row.length
 |0=>rfl
 |k+1=>by
  rw[fW];split
  .rw[s8,gh Fd at_ row k]
  .exact gh Fd at_ row k
def fq(Fd:List (List Rat))(u:List Rat)(p i:Nat):List (List Rat):=Fd.mapIdx fun j r=>if j<i then lQ r u (r.getD p 0)else r
def je(cols:Nat)(s:wQ)(i:Nat)(row:List Rat):wQ:=
 let r:=fW s.1 s.2.1 row cols
 let p:=s9 r cols
 if p=cols then s else
  let u:=r.map (· / r.getD p 0)
  (fq s.1 u p s.1.length++[u],s.2.1.set p (some s.1.length),s.2.2++[i])
def g8(M:List (List Rat))(cols:Nat):Nat->wQ
 |0=>([],List.replicate cols none,[])
 |i+1=>je cols (g8 M cols i) i (M.getD i [])
def cZ(s:wQ):Nat->List (List Rat)×List Nat×List Nat
 |0=>([],[],[])
 |k+1=>match s.2.1.getD k none with
  |some r=>((cZ s k).1++[s.1.getD r []],(cZ s k).2.1++[k],(cZ s k).2.2++[s.2.2.getD r 0])
  |none=>cZ s k
def dJ(M:List (List Rat))(cols:Nat):List (List Rat)×List Nat×List Nat:=cZ (g8 M cols M.length) cols
structure sd(n cols i:Nat)(s:wQ):Prop where
 len:gD n s.1
 at_:s.2.1.length=cols
 uC:s.2.2.length=s.1.length
 lt:∀(k r:Nat),s.2.1[k]? =some (some r)->r<s.1.length
 le:s.1.length<=i
 fr:∀j∈s.2.2,j<i
theorem fZ(Fd:List (List Rat))(u:List Rat)(p i:Nat):(fq Fd u p i).length=Fd.length:=List.length_mapIdx
theorem En(Fd:List (List Rat))(u:List Rat)(p:Nat):fq Fd u p 0=Fd:=by
 refine bY fun j=>?_;rw[fq,List.getElem?_mapIdx]
 cases Fd[j]? <;>rfl
theorem DR{u:List Rat}{p i:Nat}{r:List Rat}(h:Fd[i]? =some r):(fq Fd u p i)[i]? =some r:=by
 rw[fq,List.getElem?_mapIdx,h];exact congrArg some (aF (Nat.lt_irrefl i))
theorem yD{u:List Rat}{p i:Nat}{r:List Rat}(h:Fd[i]? =some r):fq Fd u p (i+1)=(fq Fd u p i).set i (lQ r u (r.getD p 0)):=by
 refine bY fun j=>?_;have D:=(aD.1 h).1;by_cases hj:i=j
 .subst hj;rw[aW (by rw[fZ];exact D),fq,List.getElem?_mapIdx,h];exact congrArg some (aH (cB i))
 .rw[bC hj,fq,fq,List.getElem?_mapIdx,List.getElem?_mapIdx]
  cases Fd[j]? with
  |none=>rfl
  |some r=>
   have e:(j<i+1)↔(j<i):=by omega
   simp only[Option.map_some,e]
theorem HY{u:List Rat}{p i n:Nat}(h:gD n Fd):gD n (fq Fd u p i):=fun r hr=>by
 obtain⟨j,hj⟩:=aT hr;rw[fq,List.getElem?_mapIdx]at hj
 cases hE:Fd[j]? with
 |none=>rw[hE]at hj;cases hj
 |some x=>
  rw[hE]at hj;have G:=h x (aG hE);simp only[Option.map_some,Option.some.injEq]at hj;subst hj;split
  .rw[s8];exact G
  .exact G
theorem sd.start(n cols:Nat):sd n cols 0 ([],List.replicate cols none,[]):=
 ⟨(fun r hr=>by cases hr),bK ..,rfl,(fun (k r:Nat) h=>by rw[List.getElem?_replicate]at h;split at h<;>cases h),aN _,fun j hj=>by cases hj⟩
theorem sd.step{n cols i:Nat}{s:wQ}(h:sd n cols i s){row:List Rat}(hr:row.length=n):sd n cols (i+1) (je cols s i row):=by
 unfold je;dsimp only
 split
 .exact⟨h.len,h.at_,h.uC,h.lt,Nat.le_succ_of_le h.le,fun j hj=>Nat.lt_succ_of_lt (h.fr j hj)⟩
 .refine⟨fun r hm=>?_,by simp[h.at_],by simp[h.uC,fZ],fun k r E=>?_,?_,fun j hj=>?_⟩
  .rcases bV.1 hm with hm|hm
   .exact HY h.len r hm
   .rw[bJ]at hm;subst hm;rw[aM,gh,hr]
  .dsimp only at E ⊢;rw[aL,fZ,aS];rw[List.getElem?_set]at E;split at E
   .split at E
    .injection E with E;injection E with E;omega
    .cases E
   .have:=h.lt k r E;omega
  .dsimp only
   rw[aL,fZ,aS];have:=h.le;omega
  .rcases bV.1 hj with hj|hj
   .exact Nat.lt_succ_of_lt (h.fr j hj)
   .rw[bJ]at hj;omega
theorem yE{M:List (List Rat)}{n:Nat}(cols:Nat)(hM:gD n M):∀i,i<=M.length->sd n cols i (g8 M cols i)
 |0,_=>sd.start n cols
 |i+1,D=>by
  have hm:=aB (l:=M) (show i<M.length by omega);refine(yE cols hM i be).step ?_;rw[List.getD,hm];exact hM _ (aG hm)
structure fc where
 nodes:List (Int×Int×Int)
 bars:List (Int×Int×Rat)
 cV:List (Int×Int×Rat)
def fc.cols(f:fc):Nat:=f.bars.length+f.cV.length
def fc.node(f:fc)(n:Int):Int×Int×Int:=f.nodes.getD n.toNat (0,0,0)
def yF(f:fc)(b:Int×Int×Rat):List Int:=[(f.node b.2.1).1-(f.node b.1).1,(f.node b.2.1).2.1-(f.node b.1).2.1,(f.node b.2.1).2.2-(f.node b.1).2.2]
def yG(M:List (List Int))(r c:Nat)(d:Int):List (List Int):=M.set r ((M.getD r []).set c ((M.getD r []).getD c 0+d))
def putAt(M:List (List Int))(r c:Nat)(d:Int):List (List Int):=M.set r ((M.getD r []).set c d)
def fX(f:fc)(M:List (List Int))(i:Nat):Nat->List (List Int)
 |0=>M
 |k+1=>
  let b:=f.bars.getD i (0,0,0)
  let d:=(yF f b).getD k 0
  yG (yG (fX f M i k) (3*b.1+k).toNat i d) (3*b.2.1+k).toNat i (-d)
def e8(f:fc):Nat->List (List Int)
 |0=>List.replicate (3*f.nodes.length) (List.replicate f.cols 0)
 |i+1=>fX f (e8 f i) i 3
def fE(f:fc):Nat->List (List Int)
 |0=>e8 f f.bars.length
 |i+1=>
  let s:=f.cV.getD i (0,0,0)
  putAt (fE f i) (3*s.1+s.2.1).toNat (f.bars.length+i) 1
def jG(f:fc):List (List Int):=fE f f.cV.length
def dx(l:List Int):List Rat:=l.map fun(n:Int)=>(n:Rat)
def cQ(f:fc):List (List Rat):=(jG f).map dx
def eS(M:List (List Rat))(cols:Nat):List (List Rat):=(List.range cols).map fun k=>M.map fun r=>r.getD k 0
abbrev Ld:=Int×Int×Int×Int
def GJ(s:List Int)(r:Nat)(d:Int):List Int:=s.set r (s.getD r 0+d)
def dV(l:List Rat)(b:Rat):List Rat:=l.map (· *b)
def fD(a b:List Rat):List Rat:=a.mapIdx fun i x=>x*b.getD i 0
def dC(f:fc):List Rat:=f.bars.map (·.2.2)++f.cV.map (·.2.2)
def j3(M:List (List Rat))(b:List Rat):List (List Rat):=M.mapIdx fun i r=>r++[b.getD i 0]
def kO(M:List (List Rat))(cols:Nat):List (List Rat):=eK (dJ M cols).1 (dJ M cols).2.1 cols cols
def nM(M:List (List Rat))(b:List Rat)(cols:Nat):Option (List Rat):=
 let e:=dJ (j3 M b) (cols+1)
 if cols∈e.2.1 then none else some (gT e.1 e.2.1 cols e.2.1.length)
def eO(st:List (List Rat))(fl:List Rat):List (List Rat):=st.map fun s=>st.map fun r=>fC (fD s fl) r s.length
def gL(st:List (List Rat))(fl x:List Rat):List Rat:=st.map fun s=> -(fC (fD s fl) x s.length)
def kf(st:List (List Rat))(c x:List Rat):Nat->List Rat
 |0=>x
 |i+1=>(kf st c x i).mapIdx fun k q=>q+c.getD i 0*(st.getD i []).getD k 0
def fJ:fc:=⟨[(0,0,0),(0,0,4),(3,0,0)],[(0,2,1),(1,2,1)],[(0,0,0),(0,1,0),(0,2,0),(1,0,0),(1,1,0),(1,2,0),(2,1,0)]⟩
end Go.Ex
namespace Go.Ex
open Go Go.Sx Go.Proofs
variable{xs:List Rat}{L:List Value}{C S:Nat->Prop}{a:Option Addr}{q:Rat}{v:Value}{w:World}
structure fk(w:World)(S:Nat->Prop)(n i:Nat)(W:List (List Value))(qs:List Rat):Prop where
 len:W.length=n
 four:∀L∈W,L.length=4
 one:∀L∈W,∀u∈L,u.oneCell'=true
 at_:∀(j:Nat) L q,j<i->W[j]? =some L->qs[j]? =some q->jV w S L q
section
variable{S S':Nat->Prop}{H:Hp}{nx n i:Nat}{iv K:Iv}{B:Nat}{w w1 J I:World}{O:Nat->Sx.da}{W:List (List Value)}{qs:List Rat}
theorem fk.cK(h:fk w S n i W qs)(E:∀g,S g->I.heap[g]? =w.heap[g]?):fk I S n i W qs:=⟨h.len,h.four,h.one,fun j L q hj Y X=>(h.at_ j L q hj Y X).cK E⟩
theorem fk.cF(h:fk w S n i W qs)(E:∀g,S g->S' g):fk w S' n i W qs:=⟨h.len,h.four,h.one,fun j L q hj Y X=>(h.at_ j L q hj Y X).cF E⟩
theorem fk.rel(h:fk w (Cv S B iv) n i W qs)(r:Rel H nx iv B w O J)(U:∀g,S g->g<B):fk J (Cv S B iv) n i W qs:=h.cK fun _ F=>rls r U F
theorem fk.cH(h:fk w (Cv S B iv) n i W qs)(r:Rel H nx iv B w O J)(U:∀g,S g->g<B)(R:Ext J I)(hm:∀p,p∈iv->p∈K):fk I (Cv S B K) n i W qs:=
 ((h.rel r U).cK fun g F=>R.block g (rlo r U g F)).cF fun _ F=>F.mono hm
theorem fk.start(w:World)(S:Nat->Prop)(n:Nat)(qs:List Rat):fk w S n 0 (List.replicate n f0) qs:=
 ⟨bv,fun L hc=>by rw[List.eq_of_mem_replicate hc];rfl,fun L hc u hu=>by rw[List.eq_of_mem_replicate hc]at hu;simp[f0]at hu;rcases hu with rfl|rfl|rfl|rfl<;>rfl,fun j L q hj=>be⟩
theorem fk.next{b b2:Bool}{a2:Option Addr}{m c m2 c2:Nat}(h:fk w S n i W qs)(D:i<n)(hq:qs[i]? =some q)(hf:cY w S (.agg #[.bool b,.slice a m c,.bool b2,.slice a2 m2 c2]) q):
  fk w S n (i+1) (W.set i (rC b a m c b2 a2 m2 c2)) qs:=by
 refine⟨by simp[h.len],fun L hc=>?_,fun L hc u hu=>?_,fun j L p hj Y X=>?_⟩
 .rcases b9 hc with hc|rfl
  .exact h.four L hc
  .rfl
 .rcases b9 hc with hc|rfl
  .exact h.one L hc u hu
  .simp at hu;rcases hu with rfl|rfl|rfl|rfl<;>rfl
 .by_cases PR:i=j
  .subst PR;rw[aW (by rw[h.len];exact D)]at Y;rw[hq]at X;injection Y with Y;injection X with X;subst Y X;exact hf.BF
  .rw[bC PR]at Y;exact h.at_ j L p be Y X
theorem fk.flat(h:fk w S n i W qs):W.flatten.length=n*4:=by rw[gW h.four,h.len]
theorem fk.done{w0:World}(h:fk w1 (Cf w0 iv) n n W qs)(hl:qs.length=n)(Z:n<=maxLen)(r:Rel H nx iv w0.heap.size w1 O J){id:Nat}(hH:cw H id=some (.arr T.Rat W.flatten))(Ok:(O id).nil=false):
  eA J FF w0.heap.size [(w0.heap.size,J.heap.size)] (.slice (some ⟨(O id).g,0,none⟩) n n) n qs:=by
 have X:=h.rel r (MW w0);have Ov:=r.low id _ hH Ok;refine⟨⟨W,⟨h.flat,.inr ⟨(O id).g,n,W.flatten.toArray,rfl,aP _,r.arr id _ _ hH,lr,Z,by simpa using h.flat,?_⟩⟩,h.len,?_⟩,fun g F=>?_⟩
 .rw[<-h.flat];exact bG
 .refine⟨by rw[h.len,hl],fun j L q N h4=>?_⟩;refine(X.at_ j L q (by rw[<-hl];exact(aD.1 h4).1) N h4).cF fun g F=>⟨?_,fun e=>?_⟩
  .rcases F with F|⟨k1,lo,D,k2,k3,k4⟩
   .exact F.elim
   .exact .inr ⟨k1,_,_,bJ.2 rfl,k1,by have:=r.sN lo D k2;have:=r.size;omega⟩
  .injection e with e;exact Rel.not r (MW w0) F id _ hH Ok e
 .injection F with F;subst F;exact .inr ⟨Ov.1,_,_,bJ.2 rfl,Ov.1,Ov.2⟩
theorem fz.c(h:fz w S S v qs):cP w S v qs:=by
 obtain⟨W,Y,X⟩:=h;exact⟨W,Y,X.1,X.AK,X.2⟩
theorem eA.c(h:eA w S B iv v n qs):cP w (Cv S B iv) v qs:=h.read.c
theorem cP.rc(h:cP w S v qs):fz w S S v qs:=by
 obtain⟨W,Y,X,N,h4⟩:=h;exact⟨W,Y,X,h4⟩
theorem fz.rel(h:fz w (Cv C B iv) (Cv S B iv) v qs)(r:Rel H nx iv B w O J)(hC:∀g,C g->g<B)(U:∀g,S g->g<B):fz J (Cv C B iv) (Cv S B iv) v qs:=
 h.cK fun _ F=>F.elim (rls r hC) (rls r U)
theorem fz.cH(h:fz w (Cv C B iv) (Cv S B iv) v qs)(r:Rel H nx iv B w O J)(hC:∀g,C g->g<B)(U:∀g,S g->g<B)(R:Ext J I)(hm:∀p,p∈iv->p∈K):fz I (Cv C B K) (Cv S B K) v qs:=
 ((h.rel r hC U).cK fun g F=>R.block g (F.elim (rlo r hC g) (rlo r U g))).cF (fun _ F=>F.mono hm) (fun _ F=>F.mono hm)
theorem fz.arg(h:fz w C S v qs)(iv:Iv):fz w (Cv C w.heap.size iv) (Cv S w.heap.size iv) v qs:=h.cF (fun _ h=>.inl h) (fun _ h=>.inl h)
theorem fz.shape(h:fz w C S v qs):∃a c,v= .slice a qs.length c/\qs.length<=c/\qs.length<=maxLen:=by
 obtain⟨W,⟨h0,_,_,a,c,Y,X,_⟩,_⟩:=h;exact⟨a,c,Y,X,h0⟩
theorem fz.load{n c j:Nat}(h:fz w C S (.slice a n c) qs)(hq:qs[j]? =some q):
  ∃ad L,a=some ad/\jV w S L q/\∀k u,L[k]? =some u->C ad.block/\w.cell? ((ad.add (j*4)).add k)=some u:=by
 obtain⟨W,⟨h0,Y,X,a',c',e,N,h4⟩,hf⟩:=h;injection e with e1 e2 e3;subst e1;obtain⟨L,Of⟩:∃L,W[j]? =some L:=⟨_,aB (by rw[hf.1];exact(aD.1 hq).1)⟩
 have hF:=hf.2 j L q Of hq;have hl:=hF.len;obtain⟨ad,k1,k2,k3⟩:=h4 (j*4+0) _ (flat_get hf.AK Of 0 _ (aB (show 0<L.length by omega)));refine⟨ad,L,k1,hF,fun k u hu=>?_⟩;obtain⟨ad2,m1,m2,m3⟩:=h4 (j*4+k) u (flat_get hf.AK Of k u hu);rw[k1]at m1;injection m1 with m1;subst m1;refine⟨m2,?_⟩;rw[<-m3];have:(ad.add (j*4)).add k=ad.add (j*4+k):=by
  unfold Addr.add;split<;>split<;>simp_all<;>omega
 rw[this]
theorem Dn{j:Nat}{c:Nat}(h:w.ownsRow 0 T.Rat 4 (.slice a n c) n W.flatten)(hf:Fc w S W qs)(hj:W[j]? =some L):
  ∃g,a=some ⟨g,0,none⟩/\∀k u,L[k]? =some u->w.cell? ((Addr.add ⟨g,0,none⟩ (j*4)).add k)=some u:=by
 rcases h.2 with⟨Y,h0⟩|⟨g,cap,cur,Qq,_⟩
 .have:=h.1;rw[gW hf.AK]at this;have:=(aD.1 hj).1;omega
 .injection Qq with Y X N;subst Y;refine⟨g,rfl,fun k u hu=>?_⟩;have:=h.cells (g:=g) rfl (j*4+k) u (flat_get hf.AK hj k u hu);rw[dS,dS];rw[dS]at this;rw[Nat.add_assoc];exact this
end
theorem Dp(n:Nat)(w:World)(Z:n<=1000000):eC PG Fn.qp #[iV n] w (eI w fun v' I=>eA I FF w.heap.size [(w.heap.size,I.heap.size)] v' n (List.replicate n 0)):=by
 have V:=bR w;refine ui bv ?_
 refine⟨n,n,rfl,rfl,lr,be,be,Nat×List (List Value)×Iv×World,fun z=>⟨[(3,.o (.s 0 0 n n)),(8,iZ n),(9,iN z.1)],[(0,.arr T.Rat z.2.1.flatten)],1,z.2.2.1,z.2.2.2⟩,fun z=>n-z.1,
  fun z=>z.1<=n/\Bq w z.2.2.2/\fk z.2.2.2 (Cf w z.2.2.1) (n) z.1 z.2.1 (List.replicate n 0),?_,?_⟩
 .intro O J r;exact⟨(0,List.replicate (n) f0,_,J),⟨bv,V.tr r.cN,fk.start _ _ _ _⟩,sbgn [] r⟩
 rintro⟨i,W,iv,w1⟩ ⟨D,V,hF⟩;dsimp only at D V hF ⊢;apply bS<;>intro h
 .have h:=dL h;refine cD (cE V (pR cY (((0:Int):Rat))) (fun O J r=>lA 0 J bi bi) ?_);rintro O _ _ _ OK r R V h_ Z;replace hF:=hF.cH r oF R (mC h_);have hd:=Z.cF (nw r h_);obtain⟨A0,A1,A2,A3,A4,A5,A6,A7,rfl⟩:=hd.shape;have OP:=hF.next h (q:=_) (by simp[h]) hd
  refine⟨be,by have:=hF.flat;omega,(W.set i (rC A0 A1 A2 A3 A4 A5 A6 A7)).flatten,?_,?_⟩
  .have:=jr (L:=rC A0 A1 A2 A3 A4 A5 A6 A7) hF.four (show i<W.length by rw[hF.len];exact h);rw[<-this];simp
  refine inc i ?_;intro IR w3 A;exact⟨(i+1,W.set i (rC A0 A1 A2 A3 A4 A5 A6 A7),_,w3),⟨h,V.tr A.cN,OP.rel A oF⟩,sbgn [] A,dec h⟩
 have h:=dE D h;subst h;exact rtn V fun GT we re=>hF.done bv mx re (id:=0) rfl (re.nn 0 _ rfl (by intros;simp) bv)
theorem BG{u:Value}{b:Rat}(U:Old S w)(G:eL w S v xs)(hb:fP w S u b)(Z:xs.length<=1000000):
  eC PG Fn.pJ #[v,u] w (eI w fun v' I=>eA I FF w.heap.size [(w.heap.size,I.heap.size)] v' xs.length (dV xs b)):=by
 have V:=bR w;obtain⟨ax,cx,rfl,hcx,hmx⟩:=eM.shape G;obtain⟨g0,g1,g2,g3,g4,g5,g6,g7,rfl⟩:=hb.shape;have Oy:rl b<=100000:=hb.rl;refine tU bv ?_
 refine⟨xs.length,xs.length,rfl,rfl,lr,be,be,Nat×List (List Value)×Iv×World,fun z=>⟨[(3,pP 0 0),(5,.o (.s 1 0 xs.length xs.length)),(11,sV ax xs.length cx),(12,iZ xs.length),(13,iN z.1)],[(0,.box T.Rat [.v (.bool g0),.v (.slice g1 g2 g3),.v (.bool g4),.v (.slice g5 g6 g7)]),(1,.arr T.Rat z.2.1.flatten)],2,z.2.2.1,z.2.2.2⟩,fun z=>xs.length-z.1,
  fun z=>z.1<=xs.length/\Bq w z.2.2.2/\fk z.2.2.2 (Cf w z.2.2.1) (xs.length) z.1 z.2.1 (dV xs b),?_,?_⟩
 .intro O J r;exact⟨(0,List.replicate (xs.length) f0,_,J),⟨bv,V.tr r.cN,fk.start _ _ _ _⟩,sbgn [] r⟩
 rintro⟨i,W,iv,w1⟩ ⟨D,V,hF⟩;dsimp only at D V hF ⊢;apply bS<;>intro h
 .have h:=dL h;obtain⟨x,PN⟩:=gO xs i;obtain⟨adx,csx,Od,TJ,-,OZ⟩:=eM.load G PN;obtain⟨f0,f1,f2,f3,f4,f5,f6,f7,rfl,TJ⟩:=TJ;refine⟨adx,Od,be,rC f0 f1 f2 f3 f4 f5 f6 f7,rfl,rdO OZ V U,?_⟩;refine cD (cE V (pR cY (x*b)) (fun O J r=>zO (oS U r) (TJ.v.cK (kS V r U)) (hb.v.cK (kS V r U))) ?_);rintro O _ _ _ OK r R V h_ Z;replace hF:=hF.cH r oF R (mC h_);have hd:=Z.cF (nw r h_);obtain⟨A0,A1,A2,A3,A4,A5,A6,A7,rfl⟩:=hd.shape;have OP:=hF.next h (q:=_) (by rw[dV,aO,PN];rfl) hd
  refine⟨be,by have:=hF.flat;omega,(W.set i (rC A0 A1 A2 A3 A4 A5 A6 A7)).flatten,?_,?_⟩
  .have:=jr (L:=rC A0 A1 A2 A3 A4 A5 A6 A7) hF.four (show i<W.length by rw[hF.len];exact h);rw[<-this];simp
  refine inc i ?_;intro IR w3 A;exact⟨(i+1,W.set i (rC A0 A1 A2 A3 A4 A5 A6 A7),_,w3),⟨h,V.tr A.cN,OP.rel A oF⟩,sbgn [] A,dec h⟩
 have h:=dE D h;subst h;exact rtn V fun GT we re=>hF.done (by simp[dV]) mx re (id:=1) rfl (re.nn 1 _ rfl (by intros;simp) bv)
theorem Gm{u:Value}{ys:List Rat}(U:Old S w)(G:eL w S v xs)(hy:eL w S u ys)(hl:xs.length<=ys.length)(Z:xs.length<=1000000):
  eC PG Fn.tG #[v,u] w (eI w fun v' I=>eA I FF w.heap.size [(w.heap.size,I.heap.size)] v' xs.length (fD xs ys)):=by
 have V:=bR w;obtain⟨ax,cx,rfl,hcx,hmx⟩:=eM.shape G;obtain⟨ay,cy,rfl,hcy,hmy⟩:=eM.shape hy;refine wh bv ?_
 refine⟨xs.length,xs.length,rfl,rfl,lr,be,be,Nat×List (List Value)×Iv×World,fun z=>⟨[(0,sV ax xs.length cx),(1,sV ay ys.length cy),(5,.o (.s 0 0 xs.length xs.length)),(11,iZ xs.length),(12,iN z.1)],[(0,.arr T.Rat z.2.1.flatten)],1,z.2.2.1,z.2.2.2⟩,fun z=>xs.length-z.1,
  fun z=>z.1<=xs.length/\Bq w z.2.2.2/\fk z.2.2.2 (Cf w z.2.2.1) (xs.length) z.1 z.2.1 (fD xs ys),?_,?_⟩
 .intro O J r;exact⟨(0,List.replicate (xs.length) f0,_,J),⟨bv,V.tr r.cN,fk.start _ _ _ _⟩,sbgn [] r⟩
 rintro⟨i,W,iv,w1⟩ ⟨D,V,hF⟩;dsimp only at D V hF ⊢;apply bS<;>intro h
 .have h:=dL h;obtain⟨x,PN⟩:=gO xs i;obtain⟨y,UB⟩:=gO ys i;obtain⟨adx,csx,Od,TJ,-,OZ⟩:=eM.load G PN;obtain⟨f0,f1,f2,f3,f4,f5,f6,f7,rfl,TJ⟩:=TJ;obtain⟨ady,csy,RF,SQ,-,PS⟩:=eM.load hy UB;obtain⟨q0,q1,q2,q3,q4,q5,q6,q7,rfl,SQ⟩:=SQ;refine dP (idO 13) ?_;refine⟨adx,Od,be,rC f0 f1 f2 f3 f4 f5 f6 f7,rfl,rdO OZ V U,ady,RF,be,rC q0 q1 q2 q3 q4 q5 q6 q7,rfl,rdO PS V U,?_⟩;refine cE V (pR cY (x*y)) (fun O J r=>zO (oS U r) (TJ.v.cK (kS V r U)) (SQ.v.cK (kS V r U))) ?_;rintro O _ _ _ OK r R V h_ Z;replace hF:=hF.cH r oF R (mC h_);have hd:=Z.cF (nw r h_);obtain⟨A0,A1,A2,A3,A4,A5,A6,A7,rfl⟩:=hd.shape;have OP:=hF.next h (q:=_) (by rw[fD,List.getElem?_mapIdx,PN,List.getD,UB];rfl) hd
  refine⟨be,by have:=hF.flat;omega,(W.set i (rC A0 A1 A2 A3 A4 A5 A6 A7)).flatten,?_,?_⟩
  .have:=jr (L:=rC A0 A1 A2 A3 A4 A5 A6 A7) hF.four (show i<W.length by rw[hF.len];exact h);rw[<-this];simp
  refine inc i ?_;intro IR w3 A;exact⟨(i+1,W.set i (rC A0 A1 A2 A3 A4 A5 A6 A7),_,w3),⟨h,V.tr A.cN,OP.rel A oF⟩,sbgn [] A,dec h⟩
 have h:=dE D h;subst h;exact rtn V fun GT we re=>hF.done (by simp[fD]) mx re (id:=0) rfl (re.nn 0 _ rfl (by intros;simp) bv)
end Go.Ex
