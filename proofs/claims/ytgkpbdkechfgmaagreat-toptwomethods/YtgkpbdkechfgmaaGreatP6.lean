/- Texts X37 to X46: lemmas, each with its conditions. -/
import Derived.Test.YtgkpbdkechfgmaaGreatP5
namespace Go.Ex
open Go Go.Sx Go.Proofs
variable{xs:List (Int×Int)}{M:List (List (Int×Int))}{F9:List (List Rat)}{parts:List (Value×List Value×Nat)}{ps pv:List Nat}{qs:List Rat}{cols n x:Nat}{C S:Nat->Prop}{q:Rat}{v vm:Value}{w:World}
def eY(x:Int×Int):Rat:=ratio x.1 x.2
def Few(xs:List (Int×Int)):Prop:=∀x∈xs,ln x.1.natAbs<=10000000000/\ln x.2.natAbs<=10000000000
theorem Mr(X:Old S w)(h:eV w S v xs)(hf:Few xs)(R:xs.length<=1000000):
  eI PG F'.uV #[v] w (eO w fun v' V=>kI V FF w.heap.size [(w.heap.size,V.heap.size)] v' xs.length (xs.map eY)):=by
 replace h:=eV.arg h [];obtain⟨a,c,rfl,hc,-⟩:=dV.shape h;refine yS (by simp) ?_;conv=>whnf
 refine⟨xs.length,xs.length,rfl,rfl,Nat.le_refl _,by omega,by omega,?_⟩;conv=>whnf
 refine⟨Nat×List (List Value)×Iv×World,fun z=>⟨[(3,.o (.s 0 0 xs.length xs.length)),(9,sV a xs.length c),(10,iZ xs.length),(11,iZ z.1)],[(0,.arr T.eB z.2.1.flatten)],1,z.2.2.1,z.2.2.2⟩,fun z=>xs.length-z.1,
  fun z=>z.1<=xs.length/\dw w.heap.size w z.2.2.2/\eV z.2.2.2 (Cv S w.heap.size z.2.2.1) (.slice a xs.length c) xs/\ko z.2.2.2 (Cf w z.2.2.1) xs.length z.1 z.2.1 (xs.map eY),?_,?_⟩
 ·intro O J r;exact⟨(0,List.replicate xs.length f0,[],J),⟨by simp,r.cU,eV.rel h r X,ko.start _ _ _ _⟩,Sub.gn [] r⟩
 clear h;rintro⟨i,Z,iv,w1⟩ ⟨A,I,hX,hF⟩;dsimp only at A I hX hF ⊢;conv=>whnf
 refine dQ.mk ?_ ?_<;>intro h
 ·have h:i<xs.length:=by simpa using h
  obtain⟨x,F⟩:∃x,xs[i]? =some x:=⟨_,aA h⟩
  obtain⟨ad,W,rfl,hR,-,hl⟩:=dV.load hX F;obtain⟨b3,a3,n3,c3,b4,a4,n4,c4,rfl,hR⟩:=hR;obtain⟨f1,f2⟩:=hf x (aC F);conv=>whnf
  refine⟨ad,rfl,by omega,?_⟩;conv=>whnf
  refine⟨[.bool b3,.slice a3 n3 c3,.bool b4,.slice a4 n4 c4],rfl,fun O J r j u hu=>?_,?_⟩
  ·obtain⟨k1,k2⟩:=hl j u hu;have:=Rel.same r X k1;rw[aE,cL (w:=w1) (V:=J) (by rw[dF,dF];exact this)];exact k2
  conv=>whnf
  refine cJ (cO (If:=fun _ J v V=>cd V (Nf J V) v (eY x)) (fun O J r=>jd (Rel.old r X) (hR.rel r X) (by omega) (by omega)) ?_);rintro O wa v1 wb r U hb hO;have Q4:=hO.dK (S:=FF) r.cI (iv:=(wa.heap.size,wb.heap.size)::iv) aF;replace hF:=hF.cM (K:=(wa.heap.size,wb.heap.size)::iv) r (cH w) U fun x F=>aB _ F;replace hX:=eV.cM (K:=(wa.heap.size,wb.heap.size)::iv) hX r X U fun x F=>aB _ F;replace I:=I.tr hb;clear r U hb hO hl hR;generalize (wa.heap.size,wb.heap.size)::iv=Od at*
  obtain⟨b1,a1,n1,c1,b2,a2,n2,c2,rfl⟩:=Q4.shape;have Ou:=hF.next h (q:=eY x) (by rw[aL,F];rfl) Q4
  conv=>whnf
  refine⟨by omega,?_⟩;conv=>whnf
  refine⟨by have:=hF.flat;omega,(Z.set i [.bool b1,.slice a1 n1 c1,.bool b2,.slice a2 n2 c2]).flatten,?_,?_⟩
  ·have:=iI (W:=[.bool b1,.slice a1 n1 c1,.bool b2,.slice a2 n2 c2]) hF.four (show i<Z.length by rw[hF.len];exact h);rw[<-this];simp
  conv=>whnf
  refine⟨((i+1:Nat):Int),wo,?_⟩;conv=>whnf
  intro GT w3 E;exact⟨(i+1,Z.set i [.bool b1,.slice a1 n1 c1,.bool b2,.slice a2 n2 c2],Od,w3),⟨h,I.tr E.cU,eV.rel hX E X,Ou.rel E (cH w)⟩,Sub.gn [] E,by dsimp only;omega⟩
 ·have h:i=xs.length:=by
   have:¬i<xs.length:=by simpa using h
   omega
  subst h;conv=>whnf
  exact rtn I fun IR we re=>hF.done (by simp) (by unfold maxLen;omega) re (id:=0) rfl (re.nn 0 _ rfl (by intros;simp) (by simp))
structure iQ(w:World)(S:Nat->Prop)(B:Nat)(iv:Iv)(rv:List Value)(n:Nat)(M:List (List Rat)):Prop where
 len:rv.length=M.length
 row:∀(i:Nat) v qs,rv[i]? =some v->M[i]? =some qs->jy w (fun g=>Cv S B iv g/\¬ ∃u∈rv,u.ownBlock=some g) v n qs
 uw:∀(i j:Nat) a b g,rv[i]? =some a->rv[j]? =some b->a.ownBlock=some g->b.ownBlock=some g->i=j
 new:∀v∈rv,∀g,v.ownBlock=some g->Cv FF B iv g
theorem gY(B:Nat):∀g,(fun _:Nat=>False) g->g<B:=fun _ h=>h.elim
theorem Er{B:Nat}{iv:Iv}{g:Nat}(h:Cv FF B iv g):Cv S B iv g:=h.elim (fun h=>h.elim) .inr
section
variable{S S':Nat->Prop}{H:Hp}{nx n i:Nat}{iv K:Iv}{B:Nat}{w w1 J V:World}{O:Nat->Sx.dq}{rv:List Value}{M:List (List Rat)}
theorem iQ.cK(h:iQ w S B iv rv n M)(D:∀g,Cv S B iv g->V.heap[g]? =w.heap[g]?):iQ V S B iv rv n M:=
 ⟨h.len,fun i v qs L G=>(h.row i v qs L G).cK fun g Y=>D g (Y.elim (fun h=>h.1) fun Y=>Er (h.new v (aC L) g Y)),h.uw,h.new⟩
theorem iQ.rel(h:iQ w S B iv rv n M)(r:Rel H nx iv B w O J)(X:∀g,S g->g<B):iQ J S B iv rv n M:=h.cK fun _ Y=>Rel.same r X Y
theorem iQ.cM(h:iQ w S B iv rv n M)(r:Rel H nx iv B w O J)(X:∀g,S g->g<B)(U:Ext J V)(hm:∀p,p∈iv->p∈K):iQ V S B K rv n M:=
 have G:=(h.rel r X).cK fun g Y=>U.block g (Rel.old r X g Y)
 ⟨G.len,fun i v qs k1 k2=>(G.row i v qs k1 k2).cN fun _ Y=>⟨Y.1.mono hm,Y.2⟩,G.uw,fun v hv g Y=>(G.new v hv g Y).mono hm⟩
theorem iQ.nil(w:World)(S:Nat->Prop)(B:Nat)(iv:Iv)(n:Nat):iQ w S B iv [] n []:=⟨rfl,by simp,by simp,by simp⟩
theorem iQ.snoc(h:iQ w S B iv rv n M)(r:Rel H nx iv B w O J)(X:∀g,S g->g<B)(U:Ext J V)(hv:jy V (fun g=>Cv S B ((J.heap.size,V.heap.size)::iv) g/\v.ownBlock≠some g/\¬ ∃u∈rv,u.ownBlock=some g) v n qs)
  (SD:∀g,v.ownBlock=some g->J.heap.size<=g/\g<V.heap.size):iQ V S B ((J.heap.size,V.heap.size)::iv) (rv++[v]) n (M++[qs]):=by
 have hold:∀g,Cv S B iv g->g<J.heap.size:=Rel.old r X;have G:=h.cM (K:=(J.heap.size,V.heap.size)::iv) r X U fun x F=>aB _ F;have Xf:∀g,Cv S B iv g->v.ownBlock≠some g:=fun g Y e=>by have:=hold g Y;have:=(SD g e).1;omega
 refine⟨by simp[h.len],fun i u ps N h4=>?_,fun i j a b g N h4 h5 h6=>?_,fun u hu g Y=>?_⟩
 ·rcases aO i rv.length with A|A
  ·rw[aI A]at N;rw[aI (by rw[<-h.len];exact A)]at h4;have h5:=((h.rel r X).cK (V:=V) fun g Y=>U.block g (hold g Y)).row i u ps N h4;refine h5.cN fun g Y=>⟨Y.1.mono fun x F=>aB _ F,fun⟨x,F,e⟩=>?_⟩
   rcases bB.1 F with F|F
   ·exact Y.2 ⟨x,F,e⟩
   ·simp at F;subst F;exact Xf g Y.1 e
  ·rw[aM A]at N;rw[aM (by rw[<-h.len];exact A)]at h4;have h0:i-rv.length=0:=by
    have:=(aD.1 N).1;simp at this;omega
   rw[h0]at N;rw[<-h.len,h0]at h4;simp at N h4;subst N h4;refine hv.cN fun g Y=>⟨Y.1,fun⟨x,F,e⟩=>?_⟩
   rcases bB.1 F with F|F
   ·exact Y.2.2 ⟨x,F,e⟩
   ·simp at F;subst F;exact Y.2.1 e
 ·have key:∀(i:Nat) a,(rv++[v])[i]? =some a->rv[i]? =some a\/(i=rv.length/\a=v):=fun i a ha=>by
   rcases aO i rv.length with A|A
   ·rw[aI A]at ha;exact .inl ha
   ·rw[aM A]at ha;have:=(aD.1 ha).1;simp at this;rw[this]at ha;simp at ha;exact .inr ⟨by omega,ha.symm⟩
  have hvn:∀(i:Nat) a,rv[i]? =some a->a.ownBlock=some g->v.ownBlock≠some g:=fun i a ha e=>Xf g (Er (h.new a (aC ha) g e));rcases key i a N with k1|⟨k1,rfl⟩<;>rcases key j b h4 with k2|⟨k2,rfl⟩
  ·exact h.uw i j a b g k1 k2 h5 h6
  ·exact absurd h6 (hvn i a k1 h5)
  ·exact absurd h5 (hvn j b k2 h6)
  ·omega
 ·rcases bB.1 hu with hu|hu
  ·exact(h.new u hu g Y).mono fun x F=>aB _ F
  ·simp at hu;subst hu;have:=SD g Y;exact .inr ⟨by have:=r.cI;omega,_,_,aF,this.1,this.2⟩
theorem iQ.aBL(h:iQ w S B iv rv n M)(r:Rel H nx iv B w O J)(X:∀g,S g->g<B)(U:Ext J V)(F:kI V FF J.heap.size [(J.heap.size,V.heap.size)] v n qs):
  iQ V S B ((J.heap.size,V.heap.size)::iv) (rv++[v]) n (M++[qs]):=by
 have key:∀g,Cv FF J.heap.size [(J.heap.size,V.heap.size)] g->J.heap.size<=g/\g<V.heap.size:=fun g Y=>by
  rcases Y with Y|⟨L,lo,A,G,N,h4⟩
  ·exact Y.elim
  ·simp at G;obtain⟨rfl,rfl⟩:=G;exact⟨N,h4⟩
 refine h.snoc r X U (F.row.cN fun g Y=>?_) fun g Y=>key g (F.new g Y);have:=key g Y.1;refine⟨.inr ⟨by have:=r.cI;omega,_,_,aF,this.1,this.2⟩,Y.2,fun⟨u,hu,e⟩=>?_⟩;have:=Rel.old r (gY B) g (h.new u hu g e);omega
theorem iQ.mat(h:iQ w S B iv rv n M)(r:Rel H nx iv B w O J)(X:∀g,S g->g<B){id:Nat}(hH:dG H id=some (.arr T.row rv))(PA:(O id).nil=false)(hR:rv.length<=maxLen)(_h1:∀u∈rv,u.oneCell'=true):
  iq J (fun g=>Cv S B iv g/\¬Mb (.slice (some ⟨(O id).g,0,none⟩) rv.length rv.length) rv g) (.slice (some ⟨(O id).g,0,none⟩) rv.length rv.length) rv n M:=by
 have G:=h.rel r X;have Pa:∀g,Cv S B iv g->(O id).g≠g:=fun g Y=>Rel.not r X Y id _ hH PA;refine⟨⟨by simp,.inr ⟨(O id).g,rv.length,rv.toArray,rfl,aQ _,r.arr id _ _ hH,Nat.le_refl _,hR,by simp,by simp⟩⟩,h.len,fun i v qs N h4=>?_,h.uw,fun v hv g Y e=>?_⟩
 ·refine(G.row i v qs N h4).cN fun g Y=>⟨Y.1,fun hm=>?_⟩
  rcases hm with hm|hm
  ·injection hm with hm;exact Pa g Y.1 hm
  ·exact Y.2 hm
 ·injection e with e;exact Pa g (Er (h.new v hv g Y)) e
structure Hq(w:World)(S:Nat->Prop)(B:Nat)(iv:Iv)(vm:Value)(n:Nat)(M:List (List Rat)):Prop where
 ex:∃rv,iq w (fun g=>Cv S B iv g/\¬Mb vm rv g) vm rv n M/\∀g,Mb vm rv g->Cv FF B iv g
theorem Hq.dK(h:Hq V FF J.heap.size [(J.heap.size,V.heap.size)] vm n M)(hB:B<=J.heap.size)(hm:(J.heap.size,V.heap.size)∈iv):Hq V S B iv vm n M:=by
 have key:∀g {Do:Nat->Prop},Cv FF J.heap.size [(J.heap.size,V.heap.size)] g->Cv Do B iv g:=fun g Do Y=>by
  rcases Y with Y|⟨L,lo,A,G,N,h4⟩
  ·exact Y.elim
  ·simp at G;obtain⟨rfl,rfl⟩:=G;exact .inr ⟨by omega,_,_,hm,N,h4⟩
 obtain⟨rv,L,G⟩:=h.ex;exact⟨rv,L.cN fun g Y=>⟨key g Y.1,Y.2⟩,fun g Y=>key g (G g Y)⟩
theorem iq.one(h:iq w S vm rv n M):∀u∈rv,u.oneCell'=true:=fun u hu=>by
 obtain⟨i,A⟩:=aN hu;have hl:=(aD.1 A).1;obtain⟨Z,L,_⟩:=h.row i u _ A (aA (by rw[<-h.len];exact hl));obtain⟨a,c,rfl,_⟩:=fF L;rfl
theorem iq.read(h:iq w S vm rv n M):fh w (fun g=>S g\/Mb vm rv g) vm M:=by
 refine⟨rv,?_,h.len,fun i u qs L G=>?_⟩
 ·have hl:=h.len;rw[<-hl];rcases h.out.2 with⟨rfl,h0⟩|⟨g,cap,cur,rfl,hb,hc,VO,Q2,PN,RU⟩
  ·have:rv=[]:=List.eq_nil_of_length_eq_zero h0;subst this;exact⟨by simp[maxLen],by simp,by simp,none,0,rfl,Nat.le_refl _,by simp⟩
  ·refine⟨by omega,h.out.1,h.one,_,cap,rfl,VO,fun j u hu=>⟨_,rfl,.inr (.inl rfl),?_⟩⟩;exact h.out.cells (g:=g) rfl j u hu
 ·have N:jy w S u n qs:=h.row i u qs L G;exact N.read.cN (fun g Y=>.inr (.inr ⟨u,aC L,Y⟩)) fun g Y=>.inl Y
theorem Hq.read(h:Hq w S B iv vm n M):fh w (Cv S B iv) vm M:=by
 obtain⟨rv,L,G⟩:=h.ex;exact fh.cN L.read fun g Y=>Y.elim (fun h=>h.1) fun Y=>Er (G g Y)
end
theorem Mg(X:Old S w)(h:eL w S v M)(hf:∀r∈M,Few r)(Oa:∀r∈M,r.length=n)(R:n<=1000000)(hR:M.length<=1000000):
  eI PG F'.uP #[v] w (eO w fun v' V=>Hq V FF w.heap.size [(w.heap.size,V.heap.size)] v' n (M.map (·.map eY))):=by
 replace h:=eL.arg h [];obtain⟨a,c,rfl,hc,-⟩:=dC.shape h;refine yL (by simp) ?_;conv=>whnf
 refine⟨M.length,M.length,rfl,rfl,Nat.le_refl _,by omega,by omega,?_⟩;conv=>whnf
 refine⟨List Value×Iv×World,fun z=>⟨[(3,.o (.s 0 0 M.length M.length)),(9,sV a M.length c),(10,iZ M.length),(11,iZ z.1.length)],[(0,.arr T.row (z.1++List.replicate (M.length-z.1.length) (.slice none 0 0)))],1,z.2.1,z.2.2⟩,fun z=>M.length-z.1.length,
  fun z=>z.1.length<=M.length/\dw w.heap.size w z.2.2/\eL z.2.2 (Cv S w.heap.size z.2.1) (.slice a M.length c) M/\iQ z.2.2 FF w.heap.size z.2.1 z.1 n ((M.take z.1.length).map (·.map eY))/\∀u∈z.1,u.oneCell'=true,?_,?_⟩
 ·intro O J r;exact⟨([],[],J),⟨by simp,r.cU,eL.rel h r X,by simpa using iQ.nil _ _ _ _ _,by simp⟩,Sub.gn [] r⟩
 clear h;rintro⟨rv,iv,w1⟩ ⟨A,I,hX,hF,h1c⟩;dsimp only at A I hX hF h1c ⊢;conv=>whnf
 refine dQ.mk ?_ ?_<;>intro h
 ·have h:rv.length<M.length:=by simpa using h
  obtain⟨x,F⟩:∃x,M[rv.length]? =some x:=⟨_,aA h⟩
  obtain⟨ad,u,rfl,US,R6,QV⟩:=dC.load hX F;obtain⟨a2,c2,rfl⟩:=dC.BR US;have QJ:=Oa x (aC F);conv=>whnf
  refine⟨ad,rfl,by omega,?_⟩;conv=>whnf
  refine⟨.slice a2 x.length c2,fun O J r=>?_,?_⟩
  ·have:=Rel.same r X R6;rw[aE,cL (w:=w1) (V:=J) (by rw[dF];exact this)];exact QV
  conv=>whnf
  refine cJ (cO (If:=fun _ J v V=>kI V FF J.heap.size [(J.heap.size,V.heap.size)] v n (x.map eY)) (fun O J r=>by rw[<-QJ];exact Mr (Rel.old r X) (eV.rel US r X) (hf x (aC F)) (by omega)) ?_);rintro O wa v1 wb r U hb hO;have TC:=hF.aBL r (cH w) U hO;replace hX:=eL.cM (K:=(wa.heap.size,wb.heap.size)::iv) hX r X U fun x F=>aB _ F;replace I:=I.tr hb;obtain⟨a3,c3,rfl,-⟩:=hO.row.form;clear r U hb hO US hF R6 QV;generalize (wa.heap.size,wb.heap.size)::iv=Od at*
  conv=>whnf
  refine⟨by omega,?_⟩;conv=>whnf
  refine⟨by simp;omega,(rv++[.slice a3 n c3])++List.replicate (M.length-(rv.length+1)) (.slice none 0 0),?_,?_⟩
  ·have h5:M.length-rv.length=(M.length-(rv.length+1))+1:=by omega
   simp[h5,List.replicate_succ]
  conv=>whnf
  refine⟨((rv.length+1:Nat):Int),wo,?_⟩;conv=>whnf
  intro GT w3 E;have QU:(rv++[Value.slice a3 n c3]).length=rv.length+1:=by simp
  refine⟨(rv++[.slice a3 n c3],Od,w3),⟨by dsimp only;rw[QU];exact h,I.tr E.cU,eL.rel hX E X,?_,?_⟩,Sub.gn [] E ⟨by dsimp only;rw[QU];rfl,trivial⟩ ⟨rfl,rfl,rfl,by dsimp only;rw[QU];rfl,trivial⟩,by dsimp only;rw[QU];omega⟩
  ·dsimp only
   rw[QU,List.take_add_one,F,List.map_append];exact TC.rel E (cH w)
  ·intro u hu;rcases bB.1 hu with hu|hu
   ·exact h1c u hu
   ·simp at hu;subst hu;rfl
 ·have h:rv.length=M.length:=by
   have:¬rv.length<M.length:=by simpa using h
   omega
  rw[h,bA]at hF;rw[h,bJ,List.replicate_zero,List.append_nil];conv=>whnf
  intro IR we re;refine⟨_,rfl,I.tr re.cU,?_⟩;have PA:=re.nn 0 _ rfl (by intros;simp) (by simp);have hm:=hF.mat re (cH w) (id:=0) rfl PA (by unfold maxLen;omega) h1c;rw[h]at hm;have key:∀g,Cf w iv g->Cf w [(w.heap.size,we.heap.size)] g:=fun g Y=>by
   rcases Y with Y|⟨L,lo,A,G,N,h4⟩
   ·exact Y.elim
   ·exact .inr ⟨L,_,_,bD.2 rfl,L,by have:=re.oJ lo A G;have:=re.size;omega⟩
  have Og:=re.low 0 _ rfl PA;refine⟨rv,hm.cN fun g Y=>⟨key g Y.1,Y.2⟩,fun g Y=>?_⟩;rcases Y with Y|⟨u,hu,Y⟩
  ·injection Y with Y;subst Y;exact .inr ⟨Og.1,_,_,bD.2 rfl,Og.1,Og.2⟩
  ·exact key g (hF.new u hu g Y)
abbrev aBM:=yr
theorem OH(n:Nat)(w:World)(R:n<=1000000000000):
  eI PG F'.fS #[.slice none 0 0,.int .i64 n] w (eO w fun v' V=>V.ownsRow w.heap.size T.eB 4 v' 0 []):=by
 refine iE (by simp) ?_;conv=>whnf
 refine IN (e:=T.eB) aBM (by rfl) (fun O w1 r=>?_);have hb:=r.cU;clear r;conv=>whnf
 refine⟨0,rfl,?_⟩;conv=>whnf
 refine⟨(n:Int),by show IntKind.wrap .i64 ((n:Int)-0)=_;rw[wrap64]<;>omega,?_⟩;conv=>whnf
 refine dQ.mk ?_ ?_<;>intro h
 ·have h:0<n:=by have:=aK h;omega
  conv=>whnf
  refine IN (e:=T.eB) aBM (by rfl) (fun O V r=>?_);replace hb:=hb.tr r.cU;clear r;conv=>whnf
  refine⟨⟨by omega,by omega,by omega⟩,none,0,0,by rfl,by omega,by omega,?_⟩;conv=>whnf
  refine JU hτ (Bc:=w.heap.size) (Nat.le_refl _) (by rfl) (by rfl) ((hτ T.int _ rfl).i1 rfl) (by decide) (by rfl) (by rfl) h (by unfold maxLen;omega) (by omega) (fun O w3 w4 c r hc Oa Y hs=>?_);have S9:dw w.heap.size w w4:=(hb.tr r.cU).tr (dw.grown Y (fun g Y=>by cases Y) (by have:=r.base;have:=r.size;omega));have hw3:=(hb.tr r.cU).size;clear r;generalize w3.heap.size=g0 at*
  conv=>whnf
  refine⟨⟨by omega,by omega,by omega⟩,some ⟨g0,0,none⟩,0,c,by split<;>rfl,by omega,by omega,?_⟩;conv=>whnf
  intro In w5 r5
  exact⟨_,rfl,S9.tr r5.cU,gq Oa (fun b hb=>by
   have hb:g0=b:=by injection hb
   exact⟨g0,g0+1,by simp[hs],by omega,by omega⟩) r5⟩
 ·conv=>whnf
  intro In w5 r5;exact⟨_,rfl,hb.tr r5.cU,World.ownsRow_nil _ _ _ _⟩
theorem KV(X:Old S w)(h:ie w S 1 v (parts.map (·.1)) parts.length)(hp:∀p∈parts,ie w S 4 p.1 p.2.1 p.2.2)(hN:oG parts<=1000000000000):
  eI PG F'.eQ #[v] w (eO w fun v' V=>V.ownsRow w.heap.size T.eB 4 v' (oG parts) (parts.flatMap (·.2.1))):=by
 obtain⟨RM,-,-,a,c,rfl,Tl,PT⟩:=h;have hle:∀k,oG (parts.take k)<=oG parts:=fun k=>by
  conv=>rhs;rw[<-List.take_append_drop k parts,xp]
  omega
 have Ou:∀(i:Nat) p,parts[i]? =some p->oG (parts.take (i+1))=oG (parts.take i)+p.2.2:=fun i p hp=>by
  rw[List.take_add_one,hp,xp];simp[oG]
 have hnextx:∀(i:Nat) p,parts[i]? =some p->(parts.take (i+1)).flatMap (·.2.1)=(parts.take i).flatMap (·.2.1)++p.2.1:=fun i p hp=>by
  rw[List.take_add_one,hp];simp
 have Rj:∀(i:Nat) p,parts[i]? =some p->∃ad an ac,a=some ad/\S ad.block/\w.cell? (ad.add i)=some (.slice an p.2.2 ac)/\p.1= .slice an p.2.2 ac:=fun i p A=>by
  obtain⟨ad,L,G,N⟩:=PT i p.1 (by rw[aL,A];rfl);obtain⟨_,_,_,an,ac,h4,_⟩:=hp p (aC A);exact⟨ad,an,ac,L,G,by rw[N,h4],h4⟩
 unfold maxLen at RM;refine gl (by simp) ?_;conv=>whnf
 refine⟨Nat×World,fun z=>⟨[(0,sV a parts.length c),(3,.o (.v (.int .i64 (oG (parts.take z.1):Nat)))),(9,sV a parts.length c),(10,iZ parts.length),(11,iZ z.1)],[],0,[],z.2⟩,
  fun z=>parts.length-z.1,fun z=>z.1<=parts.length/\dw w.heap.size w z.2,?_,?_⟩
 ·intro O J r;exact⟨(0,J),⟨by simp,r.cU⟩,Sub.gn [] r⟩
 ·rintro⟨i,w1⟩ ⟨A,I⟩;dsimp only at A I ⊢;conv=>whnf
  refine dQ.mk ?_ ?_<;>intro h
  ·have h:i<parts.length:=by simpa using h
   obtain⟨p,Sq⟩:∃p,parts[i]? =some p:=⟨_,aA h⟩
   obtain⟨ad,an,ac,L,G,N,h4⟩:=Rj i p Sq;have Ps:=Ou i p Sq;have Qm:=hle (i+1);conv=>whnf
   refine⟨ad,L,by omega,?_⟩;conv=>whnf
   refine⟨.slice an p.2.2 ac,fun O J r=>by simpa using j0 X I r G N,?_⟩;conv=>whnf
   refine⟨((oG (parts.take (i+1)):Nat):Int),wo,?_⟩;conv=>whnf
   refine⟨((i+1:Nat):Int),wo,?_⟩;conv=>whnf
   intro GT w3 E;exact⟨(i+1,w3),⟨h,I.tr E.cU⟩,Sub.gn [] E,by simp;omega⟩
  ·have h:i=parts.length:=by
    have:¬i<parts.length:=by simpa using h
    omega
   subst h;clear A;rw[bA];conv=>whnf
   refine cJ (cO (If:=fun _ J v V=>V.ownsRow J.heap.size T.eB 4 v 0 []) (fun O J r=>OH _ J (by omega)) ?_);rintro O wa v1 wb r U hb Oa;have PN:=r.cI;have hes:=U.size;have hcov:BQ [(wa.heap.size,wb.heap.size)] v1:=fun b hb=>⟨_,_,bD.2 rfl,(ownsRow.low Oa b hb).1,(ownsRow.low Oa b hb).2⟩
   replace Oa:wb.ownsRow w.heap.size T.eB 4 v1 0 []:=⟨Oa.1,Oa.2.imp id fun⟨g,cap,cur,k1,k2,k3⟩=>⟨g,cap,cur,k1,by omega,k3⟩⟩
   replace I:=I.tr hb;clear r U;obtain⟨a1,c1,rfl,-⟩:=fF Oa;conv=>whnf
   refine⟨Nat×Value×World,fun z=>⟨[(0,sV a parts.length c),(6,.o (.v z.2.1)),(25,sV a parts.length c),(26,iZ parts.length),(27,iZ z.1)],[],0,mL z.2.1,z.2.2⟩,
    fun z=>parts.length-z.1,fun z=>z.1<=parts.length/\dw w.heap.size w z.2.2/\z.2.2.ownsRow w.heap.size T.eB 4 z.2.1 (oG (parts.take z.1)) ((parts.take z.1).flatMap (·.2.1)),?_,?_⟩
   ·intro O J r;exact⟨(0,.slice a1 0 c1,J),⟨by simp,I.tr r.cU,by simpa [oG]using gq Oa hcov r⟩,Sub.aB6 [] r trivial ⟨rfl,rfl,rfl,rfl,rfl,trivial⟩ (by simp[NR]) (by simp[jw,SV.sc,At.sc]) (by rfl) hcov.iv⟩
   ·rintro⟨i,v1,w1⟩ ⟨A,I,Oa⟩;dsimp only at A I Oa ⊢;obtain⟨a1,c1,rfl,-⟩:=fF Oa;conv=>whnf
    refine dQ.mk ?_ ?_<;>intro h
    ·have h:i<parts.length:=by simpa using h
     obtain⟨p,Sq⟩:∃p,parts[i]? =some p:=⟨_,aA h⟩
     obtain⟨ad,an,ac,L,G,N,h4⟩:=Rj i p Sq;have Ps:=Ou i p Sq;have Qm:=hle (i+1);have hpR:=hp p (aC Sq);conv=>whnf
     refine⟨ad,L,by omega,?_⟩;conv=>whnf
     refine⟨.slice an p.2.2 ac,fun O J r=>by simpa using j0 X I r G N,?_⟩;conv=>whnf
     refine .inr (sZ hτ (Nat.le_refl _) (xs:=(parts.take i).flatMap (·.2.1)) (news:=p.2.1) (m:=oG (parts.take i)) (k:=p.2.2) (by rfl) (by rfl) (by decide) (by rfl) (by rfl) (fun O J r=>⟨gq Oa (BQ.row _) r,fun g Y=>(BQ.row _).not r Y⟩) hpR.len hpR.one (by unfold maxLen;omega) (by omega)
      (fun O J r=>?_) (fun v' V=>mL v') (fun O J v' V r PN RN=>Gg r PN RN) (fun O J v' V r h5 h6 h7=>?_))
     ·obtain⟨_,QJ,_,a2,c2,h5,_,h6⟩:=hpR;rw[h4]at h5;injection h5 with h7 h8 h9;subst h7 h9
      cases an with
      |none=>
       refine .inl ⟨ac,?_,?_⟩
       ·have:p.2.2=0:=by
         rcases bK p.2.2 with h0|h0
         ·exact h0
         ·obtain⟨ad2,k1,_⟩:=h6 0 _ (aA (show 0<p.2.1.length by omega))
          cases k1
        rw[<-this];rfl
       ·rcases bK p.2.2 with h0|h0
        ·exact h0
        ·obtain⟨ad2,k1,_⟩:=h6 0 _ (aA (show 0<p.2.1.length by omega))
         cases k1
      |some ad3=>
       refine .inr ⟨ad3,ac,rfl,fun j u hu=>?_⟩;obtain⟨ad2,k1,k2,k3⟩:=h6 j u hu;injection k1 with k1;subst k1;exact j0 X I r k2 k3
     ·have Q5:dw w.heap.size w V:=(I.tr r.cU).tr (dw.grown h6 (fun g Y=>(ownsRow.low Oa g Y).1) (by have:=r.size;have:=I.size;omega));rw[<-Ps,<-hnextx i p Sq]at h5;obtain⟨a3,c3,rfl,-⟩:=fF h5;conv=>whnf
      refine⟨(i+1:Nat),wo,?_⟩;conv=>whnf
      intro GT w3 E
      exact⟨(i+1,.slice a3 (oG (parts.take (i+1))) c3,w3),⟨h,Q5.tr E.cU,gq h5 (BQ.row _) E⟩,
       Sub.gn [] E,by simp;omega⟩
    ·have h:i=parts.length:=by
      have:¬i<parts.length:=by simpa using h
      omega
     subst h;rw[bA]at Oa ⊢;conv=>whnf
     intro In w5 r5;exact⟨_,rfl,I.tr r5.cU,gq Oa (BQ.row _) r5⟩
def dO(w:World)(S:Nat->Prop)(v:Value)(ps:List Nat):Prop:=ie w S 1 v (ps.map fun c:Nat=>.int .i64 (c:Int)) ps.length
theorem OI(X:Old S w)(h:dO w S v ps)(hl:ps.length<=1000000):
  eI PG F'.jO #[v,.int .i64 x] w (eO w fun v' _=>∃i:Int,v'= .int .i64 i/\(0<=i↔x∈ps)):=by
 obtain⟨h0,L,G,a,c,rfl,hc,PT⟩:=h;refine kg (by simp) ?_;conv=>whnf
 refine⟨Nat×World,fun z=>⟨[(0,sV a ps.length c),(1,iZ x),(7,iZ ps.length),(8,iZ z.1)],[],0,[],z.2⟩,fun z=>ps.length-z.1,
  fun z=>z.1<=ps.length/\dw w.heap.size w z.2/\∀(j:Nat) y,j<z.1->ps[j]? =some y->y≠x,?_,?_⟩
 ·intro O J r;exact⟨(0,J),⟨by simp,r.cU,by simp⟩,Sub.gn [] r⟩
 rintro⟨i,w1⟩ ⟨A,I,Oe⟩;dsimp only at A I Oe ⊢;conv=>whnf
 refine dQ.mk ?_ ?_<;>intro h
 ·have h:i<ps.length:=by simpa using h
  obtain⟨y,hy⟩:∃y,ps[i]? =some y:=⟨_,aA h⟩
  obtain⟨ad,rfl,k1,k2⟩:=PT i (.int .i64 (y:Int)) (by rw[aL,hy];rfl);conv=>whnf
  refine⟨ad,rfl,by omega,?_⟩;conv=>whnf
  refine⟨.int .i64 (y:Int),fun O J r=>by simpa using j0 X I r k1 k2,?_⟩;conv=>whnf
  refine dQ.mk ?_ ?_<;>intro U
  ·have U:x=y:=by have:=eq_of_beq U;omega
   conv=>whnf
   exact rtn I fun IR we re=>⟨_,rfl,⟨fun _=>by rw[U];exact aC hy,fun _=>by omega⟩⟩
  ·have U:x≠y:=fun e=>by rw[e]at U;simp at U
   conv=>whnf
   refine⟨((i+1:Nat):Int),wo,?_⟩;conv=>whnf
   intro GT w3 E;refine⟨(i+1,w3),⟨h,I.tr E.cU,fun j z hj hz=>?_⟩,Sub.gn [] E,by dsimp only;omega⟩;by_cases Ph:j=i
   ·subst Ph;rw[hy]at hz;injection hz with hz;rw[<-hz];exact Ne.symm U
   ·exact Oe j z (by dsimp only at hj;omega) hz
 ·have h:i=ps.length:=by
   have:¬i<ps.length:=by simpa using h
   omega
  conv=>whnf
  intro IR we re;refine⟨_,rfl,I.tr re.cU,-1,rfl,⟨fun h=>by omega,fun hm=>?_⟩⟩;obtain⟨j,hj⟩:=aN hm;exact absurd rfl (Oe j x (by rw[h];exact(aD.1 hj).1) hj)
theorem dO.cK{V:World}(h:dO w S v ps)(D:∀g,S g->V.heap[g]? =w.heap[g]?):dO V S v ps:=ie.cK h D
theorem dO.cN{S':Nat->Prop}(h:dO w S v ps)(D:∀g,S g->S' g):dO w S' v ps:=ie.cN h D
section
variable{S S':Nat->Prop}{H:Hp}{nx:Nat}{iv K:Iv}{B:Nat}{w J V:World}{O:Nat->Sx.dq}{v:Value}{ps:List Nat}
theorem dO.rel(h:dO w (Cv S B iv) v ps)(r:Rel H nx iv B w O J)(X:∀g,S g->g<B):dO J (Cv S B iv) v ps:=dO.cK h fun _ Y=>Rel.same r X Y
theorem dO.dK(h:dO V (Nf J V) v ps)(hB:B<=J.heap.size)(hm:(J.heap.size,V.heap.size)∈iv):dO V (Cv S B iv) v ps:=dO.cN h fun _ Y=>Y.dK hB hm
theorem dO.arg(h:dO w S v ps)(iv:Iv):dO w (Cv S w.heap.size iv) v ps:=dO.cN h fun _ h=>.inl h
end
theorem Hv(X:Old S w)(h:dO w S v ps)(hl:ps.length<=1000000):
  eI PG F'.iP #[v,.int .i64 x] w (eO w fun v' _=>v'= .bool (decide (x∈ps))):=by
 replace h:=dO.arg h [];have hsh:=ie.shape h;obtain⟨a,m,c,rfl⟩:=hsh;refine kD (by simp) ?_;conv=>whnf
 refine cJ (cO (If:=fun _ _ v _=>∃i:Int,v= .int .i64 i/\(0<=i↔x∈ps)) (fun O J r=>OI (Rel.old r X) (dO.rel h r X) hl) ?_);rintro O wa v1 wb r U I ⟨i,rfl,A⟩;clear r U;conv=>whnf
 exact rtn I fun IR we re=>congrArg Value.bool (decide_eq_decide.2 A)
section
variable{S S':Nat->Prop}{H:Hp}{nx n:Nat}{iv K:Iv}{B:Nat}{w J V:World}{O:Nat->Sx.dq}{v:Value}{qs:List Rat}
theorem kI.store{a a1 a2:Option Addr}{c j n1 c1 n2 c2:Nat}{b b2:Bool}(h:kI J S B iv (.slice a n c) n qs)(hj:j<n)(hf:cd J (fun g=>Cv S B iv g/\(Value.slice a n c).ownBlock≠some g) (.agg #[.bool b,.slice a1 n1 c1,.bool b2,.slice a2 n2 c2]) q)
  (r:Rel H nx iv B w O J) (X:∀g,S g->g<B):
  ∃g,a=some ⟨g,0,none⟩/\((⟨g,0,none⟩:Addr).add ((j:Int).toNat*4)).spot=none/\
   (∀k,k<4->(J.cell? (((⟨g,0,none⟩:Addr).add ((j:Int).toNat*4)).add k)).isSome=true/\J.frozen? (((⟨g,0,none⟩:Addr).add ((j:Int).toNat*4)).add k)=false)/\
   (∀id b,dG H id=some b->(O id).nil=false->(O id).g≠((⟨g,0,none⟩:Addr).add ((j:Int).toNat*4)).block)/\Cv FF B iv g/\
   ∀V,V=setCells J ((⟨g,0,none⟩:Addr).add ((j:Int).toNat*4)) [.bool b,.slice a1 n1 c1,.bool b2,.slice a2 n2 c2]->kI V S B iv (.slice a n c) n (qs.set j q)/\J.grownBy V (some g)/\V.heap.size=J.heap.size:=by
 obtain⟨g,rfl,L,G,N,h4⟩:=h.row.store hj hf (fun g Y F=>F.2 Y) (fun x F=>Rel.old r X x F.1);refine⟨g,rfl,L,N,fun id b hb R=>by rw[G];exact Rel.not r X (Er (h.new g rfl)) id b hb R,h.new g rfl,fun V PE=>?_⟩;obtain⟨k1,k2,k3⟩:=h4 V PE;exact⟨⟨k1,h.new⟩,k2,k3⟩
theorem cd.apart{u:Value}(h:cd V (Nw S J V) u q)(F:∀g,v.ownBlock=some g->g<J.heap.size/\¬S g)(hB:B<=J.heap.size)(X:∀g,S g->S' g):cd V (fun g=>Cv S' B ((J.heap.size,V.heap.size)::iv) g/\v.ownBlock≠some g) u q:=
 h.cN fun g Y=>by
  rcases Y with Y|Y
  ·exact⟨.inl (X g Y),fun e=>(F g e).2 Y⟩
  ·exact⟨.inr ⟨by omega,_,_,aF,Y.1,Y.2⟩,fun e=>by have:=(F g e).1;omega⟩
end
def fp(F9:List (List Rat))(pv:List Nat)(cols c i:Nat):List Rat:=(List.range i).foldl (fun x i=>x.set (pv.getD i 0) (-(dD F9 i c))) ((List.replicate cols 0).set c 1)
def dM(F9:List (List Rat))(pv:List Nat)(cols c:Nat):List (List Rat):=((List.range c).filter fun c=>decide (c∉pv)).map fun c=>fp F9 pv cols c pv.length
theorem gI(F9:List (List Rat))(pv:List Nat)(cols c i:Nat):fp F9 pv cols c (i+1)=(fp F9 pv cols c i).set (pv.getD i 0) (-(dD F9 i c)):=by
 rw[fp,bO,List.foldl_append];rfl
theorem j6(F9:List (List Rat))(pv:List Nat)(cols c i:Nat):(fp F9 pv cols c i).length=cols:=by
 induction i with
 |zero=>simp[fp]
 |succ i ih=>rw[gI,bL,ih]
theorem qo{c:Nat}(h:c∈pv):dM F9 pv cols (c+1)=dM F9 pv cols c:=by
 rw[dM,bO,List.filter_append];simp[h,dM]
theorem pA{c:Nat}(h:c∉pv):dM F9 pv cols (c+1)=dM F9 pv cols c++[fp F9 pv cols c pv.length]:=by
 rw[dM,bO,List.filter_append];simp[h,dM]
theorem dC.rowOf(h:fU w S S v qs):∃a c,v= .slice a qs.length c:=by
 obtain⟨a,c,h,_⟩:=h.shape;exact⟨a,c,h⟩
theorem Mi{vp:Value}(X:Old S w)(hA:fh w S vm F9)(hp:dO w S vp pv)(Oa:∀r∈F9,r.length=n)(hcn:cols<=n)(R:n<=1000000)(hR:F9.length<=1000000)(Pv:pv.length<=F9.length)(Qv:∀p∈pv,p<cols):
  eI PG F'.uX #[vm,vp,.int .i64 cols] w (eO w fun v V=>fh V (Nw S w V) v (dM F9 pv cols cols)):=by
 obtain⟨am,cm,rfl,So,-⟩:=dC.shape hA;have hps:=hp;obtain⟨-,-,-,ap,cp,rfl,hcp,-⟩:=hps;refine yU (by simp) ?_;conv=>whnf
 refine⟨Nat×List Value×Iv×World,fun z=>⟨[(0,sV am F9.length cm),(1,sV ap pv.length cp),(2,iZ cols),(7,.o (.w 0 z.2.1.length)),(12,iZ cols),(13,iZ z.1)],[(0,.vec T.row 1 z.2.1)],1,z.2.2.1,z.2.2.2⟩,fun z=>cols-z.1,
  fun z=>z.1<=cols/\dw w.heap.size w z.2.2.2/\z.2.1.length=(dM F9 pv cols z.1).length/\z.2.1.length<=z.1/\(∀(i:Nat) u qs,z.2.1[i]? =some u->(dM F9 pv cols z.1)[i]? =some qs->fU z.2.2.2 (Cv S w.heap.size z.2.2.1) (Cv S w.heap.size z.2.2.1) u qs),?_,?_⟩
 ·intro O J r
  exact⟨(0,[],[],J),⟨by simp,r.cU,by simp[dM],by simp,by simp⟩,Sub.nil 7 T.row 1 rfl (by simp[jw,SV.sc,At.sc,fW]) r fun Id r1=>
   Sub.gn [] r1⟩
 rintro⟨c,rv,iv,w1⟩ ⟨hc,I,Po,hrc,hK⟩;dsimp only at hc I Po hrc hK ⊢;have hAw:∀{V},dw w.heap.size w V->fh V S (.slice am F9.length cm) F9:=fun hb=>fh.cK hA fun g Y=>hb.block g (X g Y);have hpw:∀{V},dw w.heap.size w V->dO V S (.slice ap pv.length cp) pv:=fun hb=>dO.cK hp fun g Y=>hb.block g (X g Y);conv=>whnf
 refine dQ.mk ?_ ?_<;>intro h
 ·have h:c<cols:=by simpa using h
  conv=>whnf
  refine cJ (cO (If:=fun _ _ v _=>v= .bool (decide (c∈pv))) (fun O J r=>Hv (oS X r) (hpw (I.tr r.cU)) (by omega)) ?_);rintro O wa v1 wb r U hb rfl;replace I:=I.tr hb;replace hK:∀(i:Nat) u qs,rv[i]? =some u->(dM F9 pv cols c)[i]? =some qs->fU wb (Cv S w.heap.size ((wa.heap.size,wb.heap.size)::iv)) (Cv S w.heap.size ((wa.heap.size,wb.heap.size)::iv)) u qs:=
   fun i u qs L G=>(hK i u qs L G).cM r X X U fun x F=>aB _ F
  clear r U hb;generalize (wa.heap.size,wb.heap.size)::iv=Od at*
  conv=>whnf
  refine dQ.mk ?_ ?_<;>intro hm
  ·have hm:c∈pv:=aK hm;conv=>whnf
   refine⟨((c+1:Nat):Int),wo,?_⟩;conv=>whnf
   intro GT w3 E
   refine⟨(c+1,rv,Od,w3),⟨h,I.tr E.cU,by dsimp only;rw[qo hm];exact Po,by dsimp only;omega,fun i u qs L G=>?_⟩,
    Sub.gn [] E,by dsimp only;omega⟩
   rw[qo hm]at G;exact(hK i u qs L G).rel E X X
  ·have hm:c∉pv:=aG hm;conv=>whnf
   refine cJ (cO (If:=fun _ J v V=>kI V FF J.heap.size [(J.heap.size,V.heap.size)] v cols (List.replicate cols 0)) (fun O J r=>Eh cols J (by omega)) ?_);rintro O wa v1 wb' r U hb F;have hX:=F.dK (S:=S) (iv:=(wa.heap.size,wb'.heap.size)::Od) r.cI aF;have RZ:∀g,v1.ownBlock=some g->wa.heap.size<=g:=fun g Y=>by
    rcases F.new g Y with h|⟨h,_⟩
    ·exact h.elim
    ·exact h
   have RI:∀g,v1.ownBlock=some g->¬Cv S w.heap.size Od g:=fun g Y h=>by
    have:=Rel.old r X g h;have:=RZ g Y;omega
   replace I:=I.tr hb;replace hK:∀(i:Nat) u qs,rv[i]? =some u->(dM F9 pv cols c)[i]? =some qs->fU wb' (Cv S w.heap.size Od) (Cv S w.heap.size Od) u qs:=
    fun i u qs L G=>((hK i u qs L G).rel r X X).cK fun g Y=>U.block g (Y.elim (Rel.old r X g) (Rel.old r X g))
   have Oc:∀p,p∈Od->p∈(wa.heap.size,wb'.heap.size)::Od:=fun p hp=>aB _ hp;have hxB:∀g,v1.ownBlock=some g->w.heap.size<=g:=fun g Y=>by have:=RZ g Y;have:=r.cI;omega
   clear r U hb F RZ;generalize (wa.heap.size,wb'.heap.size)::Od=Oq at*
   obtain⟨ax,cx,rfl,-⟩:=hX.row.form;conv=>whnf
   refine cJ (cO (If:=fun _ J v V=>cd V (Nf J V) v ((1:Int):Rat)) (fun O J r=>rX 1 J (by decide) (by decide)) ?_);rintro O wa v1 wb r U hb hO;have Q4:cd wb (fun g=>Cv S w.heap.size ((wa.heap.size,wb.heap.size)::Oq) g/\(Value.slice ax cols cx).ownBlock≠some g) v1 ((1:Int):Rat):=
    hO.apart (fun g Y=>⟨Rel.old r X g (Er (hX.new g Y)),fun h=>h⟩) r.cI fun g Y=>Y.elim
   replace hX:=hX.cM (K:=(wa.heap.size,wb.heap.size)::Oq) r X U fun x F=>aB _ F;replace hK:∀(i:Nat) u qs,rv[i]? =some u->(dM F9 pv cols c)[i]? =some qs->fU wb (Cv S w.heap.size Od) (Cv S w.heap.size Od) u qs:=
    fun i u qs L G=>(hK i u qs L G).cK fun g Y=>by
     have Y:Cv S w.heap.size Oq g:=(Y.elim id id).mono Oc;rw[U.block g (Rel.old r X g Y),Rel.same r X Y]
   replace I:=I.tr hb;replace Oc:∀p,p∈Od->p∈(wa.heap.size,wb.heap.size)::Oq:=fun p hp=>aB _ (Oc p hp);clear r U hb hO;generalize (wa.heap.size,wb.heap.size)::Oq=Ox at*
   obtain⟨b1,a1,n1,c1,b2,a2,n2,c2,rfl⟩:=Q4.shape;have PZ:(((1:Int):Rat))=1:=rfl;rw[PZ]at Q4;conv=>whnf
   have Qe:∃g,ax=some ⟨g,0,none⟩:=by
    obtain⟨Z,ho,_⟩:=hX.row;rcases ho.2 with⟨_,h0⟩|⟨g,cap,cur,e,_⟩
    ·omega
    ·injection e with e;exact⟨g,e⟩
   obtain⟨gx,rfl⟩:=Qe;refine⟨⟨gx,0,none⟩,rfl,by omega,?_⟩;conv=>whnf
   intro O J r;obtain⟨_,Qe,L,G,N,h4,h5⟩:=(hX.rel r X).store h (cd.cK Q4 fun g Y=>Rel.same r X Y.1) r X;injection Qe with Qe;injection Qe with Qe;subst Qe;replace I:=I.tr r.cU;replace hK:∀(i:Nat) u qs,rv[i]? =some u->(dM F9 pv cols c)[i]? =some qs->fU J (Cv S w.heap.size Od) (Cv S w.heap.size Od) u qs:=
    fun i u qs L G=>(hK i u qs L G).cK fun g Y=>Rel.same r X ((Y.elim id id).mono Oc)
   have hold:∀g,Cv S w.heap.size Ox g->g<J.heap.size:=Rel.old r X;clear r hX Q4;refine⟨L,G,N,fun V PE=>?_⟩;obtain⟨hX,PC,-⟩:=h5 V PE;replace I:dw w.heap.size w V:=I.tr (dw.grown PC (fun g Y=>by injection Y with Y;subst Y;exact hxB gx rfl) (by have:=I.size;omega));replace hK:∀(i:Nat) u qs,rv[i]? =some u->(dM F9 pv cols c)[i]? =some qs->fU V (Cv S w.heap.size Od) (Cv S w.heap.size Od) u qs:=
    fun i u qs L G=>(hK i u qs L G).cK fun g Y=>PC.block g (hold g ((Y.elim id id).mono Oc)) fun e=>by
     injection e with e;subst e;exact RI _ rfl (Y.elim id id)
   clear L G N h4 h5 PE PC hold;conv=>whnf
   refine⟨Nat×Iv×World,fun z=>⟨[(0,sV am F9.length cm),(1,sV ap pv.length cp),(2,iZ cols),(7,.o (.w 0 rv.length)),(8,iZ c),(9,.o (.v (.slice (some ⟨gx,0,none⟩) cols cx))),(12,iZ cols),(13,iZ c),
     (25,sV ap pv.length cp),(26,iZ pv.length),(27,iZ z.1)],[(0,.vec T.row 1 rv)],1,z.2.1,z.2.2⟩,fun z=>pv.length-z.1,
    fun z=>z.1<=pv.length/\dw w.heap.size w z.2.2/\(∀p,p∈Od->p∈z.2.1)/\kI z.2.2 S w.heap.size z.2.1 (.slice (some ⟨gx,0,none⟩) cols cx) cols (fp F9 pv cols c z.1)/\
     ∀(i:Nat) u qs,rv[i]? =some u->(dM F9 pv cols c)[i]? =some qs->fU z.2.2 (Cv S w.heap.size Od) (Cv S w.heap.size Od) u qs,?_,?_⟩
   ·intro O J r
    exact⟨(0,Ox,J),⟨by simp,I.tr r.cU,Oc,hX.rel r X,fun i u qs L G=>(hK i u qs L G).cK fun g Y=>Rel.same r X ((Y.elim id id).mono Oc)⟩,
     Sub.gn [] r⟩
   clear hX hK Oc;rintro⟨i,PX,w5⟩ ⟨A,I,Oc,hX,hK⟩;dsimp only at A I Oc hX hK ⊢;conv=>whnf
   refine dQ.mk ?_ ?_<;>intro Rz
   ·have Rz:i<pv.length:=by simpa using Rz
    obtain⟨p,Sq⟩:∃p,pv[i]? =some p:=⟨_,aA Rz⟩
    have hpd:pv.getD i 0=p:=by rw[List.getD,Sq];rfl
    have Vt:=Qv p (aC Sq);obtain⟨ra,UD⟩:∃r,F9[i]? =some r:=⟨_,aA (by omega)⟩
    have XG:=Oa ra (aC UD);have hp5:=hpw I;have hA5:=hAw I;obtain⟨_,_,_,_,_,hpe,_,SJ⟩:=hp5;injection hpe with Vu hpe2 Vv;subst Vu Vv;obtain⟨adp,rfl,kp1,kp2⟩:=SJ i (.int .i64 (p:Int)) (by rw[aL,Sq];rfl);obtain⟨adm,um,rfl,Pj,km1,km2⟩:=dC.load hA5 UD;obtain⟨au,cu,hue⟩:=dC.rowOf Pj;rw[XG]at hue;subst hue;obtain⟨q,hq⟩:∃q,ra[c]? =some q:=⟨_,aA (by omega)⟩
    have QH:dD F9 i c=q:=by
     have:F9.getD i []=ra:=by rw[List.getD,UD];rfl
     rw[dD,this,List.getD,hq];rfl
    obtain⟨adq,W,rfl,hF,hl⟩:=Pj.load hq;obtain⟨b3,a3,n3,c3,b4,a4,n4,c4,rfl,hF⟩:=hF;have hSame:∀{O J},Rel [(0,.vec T.row 1 rv)] 1 PX w.heap.size w5 O J->∀{g},S g->J.heap[g]? =w5.heap[g]? :=fun r g Y=>Rel.same (S:=S) r X (.inl Y);conv=>whnf
    refine⟨adp,rfl,by omega,?_⟩;conv=>whnf
    refine⟨.int .i64 (p:Int),fun O J r=>?_,?_⟩
    ·rw[aE,aV,cL (w:=w5) (V:=J) (by rw[dF];exact Rel.same (S:=S) r X (.inl kp1))];exact kp2
    conv=>whnf
    refine⟨adm,rfl,by omega,?_⟩;conv=>whnf
    refine⟨.slice (some adq) n cu,fun O J r=>?_,?_⟩
    ·rw[aE,cL (w:=w5) (V:=J) (by rw[dF];exact Rel.same (S:=S) r X (.inl km1))];exact km2
    conv=>whnf
    refine⟨adq,rfl,by omega,?_⟩;conv=>whnf
    refine⟨[.bool b3,.slice a3 n3 c3,.bool b4,.slice a4 n4 c4],rfl,fun O J r j u hu=>?_,?_⟩
    ·obtain⟨k1,k2⟩:=hl j u hu;rw[aE,cL (w:=w5) (V:=J) (by rw[dF,dF];exact Rel.same (S:=S) r X (.inl k1))];exact k2
    conv=>whnf
    refine cJ (cO (If:=fun _ J v V=>cd V (Nw S J V) v (-q)) (fun O J r=>BK (oS X r) (hF.cK fun g Y=>Rel.same (S:=S) r X (.inl Y))) ?_);rintro O wa v1 wb r U hb hO;have Q4:cd wb (fun g=>Cv S w.heap.size ((wa.heap.size,wb.heap.size)::PX) g/\(Value.slice (some ⟨gx,0,none⟩) cols cx).ownBlock≠some g) v1 (-q):=
     hO.apart (fun g Y=>⟨Rel.old r X g (Er (hX.new g Y)),fun h=>by have:=X g h;have:=hxB g Y;omega⟩) r.cI fun g Y=>Y
    replace hX:=(hX.cM (K:=(wa.heap.size,wb.heap.size)::PX) r X U fun x F=>aB _ F)
    replace hK:∀(i:Nat) u qs,rv[i]? =some u->(dM F9 pv cols c)[i]? =some qs->fU wb (Cv S w.heap.size Od) (Cv S w.heap.size Od) u qs:=
     fun i u qs L G=>(hK i u qs L G).cK fun g Y=>by
      have Y:Cv S w.heap.size PX g:=(Y.elim id id).mono Oc;rw[U.block g (Rel.old r X g Y),Rel.same r X Y]
    replace I:=I.tr hb;replace Oc:∀p,p∈Od->p∈(wa.heap.size,wb.heap.size)::PX:=fun p hp=>aB _ (Oc p hp);clear r U hb hO hF hl Pj hA5 hSame kp1 kp2 km1 km2 SJ;generalize (wa.heap.size,wb.heap.size)::PX=Q8 at*
    obtain⟨b1,a1,n1,c1,b2,a2,n2,c2,rfl⟩:=Q4.shape;conv=>whnf
    refine⟨⟨gx,0,none⟩,rfl,by omega,?_⟩;conv=>whnf
    intro O J r;obtain⟨_,Qe,L,G,N,h4,h5⟩:=(hX.rel r X).store Vt (cd.cK Q4 fun g Y=>Rel.same r X Y.1) r X;injection Qe with Qe;injection Qe with Qe;subst Qe;replace I:=I.tr r.cU;replace hK:∀(i:Nat) u qs,rv[i]? =some u->(dM F9 pv cols c)[i]? =some qs->fU J (Cv S w.heap.size Od) (Cv S w.heap.size Od) u qs:=
     fun i u qs L G=>(hK i u qs L G).cK fun g Y=>Rel.same r X ((Y.elim id id).mono Oc)
    have hold:∀g,Cv S w.heap.size Q8 g->g<J.heap.size:=Rel.old r X;clear r hX Q4;refine⟨L,G,N,fun V PE=>?_⟩;obtain⟨hX,PC,-⟩:=h5 V PE;replace I:dw w.heap.size w V:=I.tr (dw.grown PC (fun g Y=>by injection Y with Y;subst Y;exact hxB gx rfl) (by have:=I.size;omega));replace hK:∀(i:Nat) u qs,rv[i]? =some u->(dM F9 pv cols c)[i]? =some qs->fU V (Cv S w.heap.size Od) (Cv S w.heap.size Od) u qs:=
     fun i u qs L G=>(hK i u qs L G).cK fun g Y=>PC.block g (hold g ((Y.elim id id).mono Oc)) fun e=>by
      injection e with e;subst e;exact RI _ rfl (Y.elim id id)
    clear L G N h4 h5 PE PC hold;rw[<-QH,<-hpd,<-gI]at hX;conv=>whnf
    refine⟨((i+1:Nat):Int),wo,?_⟩;conv=>whnf
    intro GT w3 E
    exact⟨(i+1,Q8,w3),⟨Rz,I.tr E.cU,Oc,hX.rel E X,fun i u qs L G=>(hK i u qs L G).cK fun g Y=>Rel.same E X ((Y.elim id id).mono Oc)⟩,
     Sub.gn [] E,by dsimp only;omega⟩
   ·have Rz:i=pv.length:=by
     have:¬i<pv.length:=by simpa using Rz
     omega
    subst Rz;have hxR:=hX.read;conv=>whnf
    refine .inl ?_;conv=>whnf
    refine⟨by simp,by omega,by unfold maxLen;omega,?_⟩;conv=>whnf
    refine⟨((c+1:Nat):Int),wo,?_⟩;conv=>whnf
    intro GT w3 E;have WO:(rv++[Value.slice (some ⟨gx,0,none⟩) cols cx]).length=rv.length+1:=by simp
    refine⟨(c+1,rv++[.slice (some ⟨gx,0,none⟩) cols cx],PX,w3),⟨h,I.tr E.cU,by dsimp only;rw[pA hm,WO,Po];simp,by dsimp only;rw[WO];omega,fun i u qs L G=>?_⟩,
     Sub.gn [(0,2)] E (hE:=⟨rfl,rfl,rfl,by dsimp only;rw[WO];rfl,rfl,rfl,trivial⟩),by dsimp only;omega⟩
    rw[pA hm]at G;dsimp only at L G ⊢;rcases aO i rv.length with hil|hil
    ·rw[aI hil]at L;rw[aI (by rw[<-Po];exact hil)]at G;exact((hK i u qs L G).cN (fun g Y=>Y.mono Oc) fun g Y=>Y.mono Oc).rel E X X
    ·have h0:i=rv.length:=by
      have:=(aD.1 L).1;rw[WO]at this;omega
     subst h0;rw[aM (Nat.le_refl _),bJ]at L;rw[Po,aM (Nat.le_refl _),bJ]at G;simp at L G;subst L G;exact hxR.rel E X X
 ·have h:c=cols:=by
   have:¬c<cols:=by simpa using h
   omega
  subst h;conv=>whnf
  intro IR we re;refine⟨_,rfl,I.tr re.cU,?_⟩
  have hv:=re.iK (id:=0) (sz:=1) (m:=rv.length) rfl (by simp) (by unfold maxLen;omega) (by decide) (fun u hu=>by
   obtain⟨i,A⟩:=aN hu;obtain⟨a,cc,e⟩:=dC.rowOf (hK i u _ A (aA (by rw[<-Po];exact(aD.1 A).1)));rw[e]
   rfl)
  refine⟨rv,?_,Po,fun i u qs L G=>?_⟩
  ·rw[<-Po];exact hv.cN fun g Y=>.inr Y
  ·exact((hK i u qs L G).rel re X X).cN (fun g Y=>Cv.nw Y re) fun g Y=>Cv.nw Y re
theorem fU.from{a:Option Addr}{c k:Nat}(h:fU w C S (.slice a n c) qs)(D:k<=n):
  fU w C S (.slice (if (c:Int)=(k:Int)then a else a.map (·.add (k*4))) (n-k) (c-k)) (qs.drop k):=by
 obtain⟨Z,⟨h0,L,G,a',c',e,N,h4⟩,hf⟩:=h;injection e with e1 e2 e3;subst e1 e2 e3;have hd:(Z.drop k).flatten=Z.flatten.drop (k*4):=by
  have:=ef (Z:=Z.take k) (fun W hc=>hf.mR W (List.mem_of_mem_take hc));conv=>rhs;rw[<-List.take_append_drop k Z,List.flatten_append]
  have hl:(Z.take k).length=k:=by rw[aX,hf.1];omega
  rw[hl]at this;rw[<-this,List.drop_left]
 refine⟨Z.drop k,⟨?_,?_,?_,_,c-k,by rw[List.length_drop],by simp;omega,fun j u hu=>?_⟩,?_,fun j W q hc hq=>?_⟩
 ·simp;omega
 ·rw[hd,List.length_drop,L,List.length_drop,Nat.sub_mul]
 ·intro u hu;rw[hd]at hu;exact G u (List.mem_of_mem_drop hu)
 ·rw[hd,bj]at hu;obtain⟨ad,k1,k2,k3⟩:=h4 (k*4+j) u hu;have Ow:=(aD.1 hu).1;subst k1;rw[aH (by omega)];refine⟨ad.add (k*4),rfl,by rw[dF];exact k2,?_⟩;rw[<-k3];have:(ad.add (k*4)).add j=ad.add (k*4+j):=by
   unfold Addr.add;split<;>split<;>simp_all<;>omega
  rw[this]
 ·rw[List.length_drop,List.length_drop,hf.1]
 ·rw[bj]at hc hq;exact hf.2 _ W q hc hq
theorem Mh(hC:Old C w)(X:Old S w)(h:fU w C S v qs)(R:0<qs.length)(hl:qs.length<=1000000):
  eI PG F'.fP #[v] w (eO w fun v' V=>jy V S v' qs.length qs/\(∀g,v'.ownBlock=some g->w.heap.size<=g/\g<V.heap.size)):=by
 obtain⟨a,c,rfl,hc,hm⟩:=h.shape;obtain⟨Z,⟨h0,L,G,a',c',e,N,h4⟩,hf⟩:=h;injection e with e1 e2 e3;subst e1 e3;have Pu:Z.length=qs.length:=hf.1;obtain⟨ad,rfl⟩:∃ad,a=some ad:=by
  obtain⟨ad,k1,_⟩:=h4 0 _ (aA (show 0<Z.flatten.length by omega));exact⟨ad,k1⟩
 refine iC (by simp) ?_;conv=>whnf
 refine⟨false,fun O w1 o1 o2=>by simp[eqGuard,SV.den,At.den,nV (P:=PG) w1 T.row T.eB (some ad) qs.length c 0 0 yr],?_⟩;conv=>whnf
 refine .inl ?_;conv=>whnf
 refine⟨Z.flatten,L,G,fun O w1 r h0=>⟨ad,rfl,fun j u hu=>?_⟩,?_⟩
 ·obtain⟨ad2,k1,k2,k3⟩:=h4 j u hu;injection k1 with k1;subst k1;exact j0 hC dw.refl r k2 k3
 conv=>whnf
 refine⟨rfl,by omega,by unfold maxLen;omega,?_⟩;conv=>whnf
 intro GT w3 E;refine⟨_,rfl,E.cU,?_⟩;have XH:Fr w3 S Z qs:=hf.cK fun g Y=>E.cU.block g (X g Y);rcases E.vec 1 T.eB 4 Z.flatten rfl with⟨PA,hemp⟩|⟨PA,spare,hb,hcp,Q2⟩
 ·rw[hemp]at L;simp at L;omega
 have Og:=E.low 1 _ rfl PA;have Vy:((At.w 1 (0+qs.length)).den GT)= .slice (some ⟨(GT 1).g,0,none⟩) qs.length (GT 1).cap:=by simp[At.den,PA]
 show jy w3 S ((At.w 1 (0+qs.length)).den GT) qs.length qs/\∀g,((At.w 1 (0+qs.length)).den GT).ownBlock=some g->_;rw[Vy];have hls:(Z.flatten++spare).length=Z.flatten.length+spare.length:=List.length_append;refine⟨⟨Z,⟨L,.inr ⟨(GT 1).g,(GT 1).cap,(Z.flatten++spare).toArray,rfl,aQ _,hb,by omega,Q2,by simpa using hcp,?_⟩⟩,Pu,XH⟩,fun g Y=>?_⟩
 ·rw[<-L];simp
 ·injection Y with Y;subst Y;exact Og
end Go.Ex
namespace Go.Sx
open Go Go.Ex Go.Proofs
variable{Do:Nat->Prop}{O:Nat->Sx.dq}
theorem Rel.Hr{H1 H2:Hp}{nx:Nat}{iv:Iv}{B:Nat}{w J V:World}{t id:Nat}{W cs':List Value}(r:Rel H1 nx iv B w O J)(L:dG H1 id=some (.arr t W))(G:dG H2 id=some (.arr t cs'))(ho:∀j,j≠id->dG H2 j=dG H1 j)
  (k:Kept J V Do) (hX:∀g,Do g->g=(O id).g\/∀j b,dG H1 j=some b->(O j).nil=false->(O j).g≠g) (hb:V.heap[(O id).g]? =some (.cells cs'.toArray t (0,0))):Rel H2 nx ((J.heap.size,V.heap.size)::iv) B V O V:=by
 have PA:(O id).nil=false:=(r.fits L).1;have get:∀j b,dG H2 j=some b->∃b1,dG H1 j=some b1/\(j≠id->b1=b)/\(b≠ .dead->b1≠ .dead):=fun j b h=>by
  by_cases hj:j=id
  ·subst hj;exact⟨_,L,fun h=>absurd rfl h,fun _=>by simp⟩
  ·rw[ho j hj]at h;exact⟨b,h,fun _=>rfl,fun h=>h⟩
 refine Rel.mk' rfl rfl rfl (Nat.le_refl _) (by have:=r.base;have:=r.size;have:=k.size;omega) (fun lo A hm=>?_) (fun j b h=>?_) (fun j b h=>?_) (fun j b h=>?_) (fun i j b b' A hj di dj ni nj e=>?_) (fun j b h R=>?_) (fun _ _ _=>rfl) (fun lo A hm j b h R hc=>?_)
 ·rcases List.mem_cons.1 hm with e|hm
  ·injection e with e1 e2;omega
  ·have:=r.oJ lo A hm;have:=r.size;have:=k.size;omega
 ·obtain⟨b1,N,_⟩:=get j b h;exact r.keys j b1 N
 ·by_cases hj:j=id
  ·subst hj;rw[G]at h;injection h with h;subst h;exact⟨PA,hb⟩
  ·rw[ho j hj]at h;refine jz.gg (r.fits h) (fun _ _=>rfl) (r.scopd h) fun R hd=>?_;refine k.block _ (r.low j b h R).2 fun F=>?_;rcases hX _ F with e|e
   ·exact hj (r.inj j id b _ h L hd (by simp) R PA e)
   ·exact e j b h R rfl
 ·by_cases hj:j=id
  ·subst hj;rw[G]at h;injection h with h;subst h;trivial
  ·rw[ho j hj]at h;exact r.scopd h
 ·obtain⟨b1,N,_,h4⟩:=get i b A;obtain⟨b2,h5,_,h6⟩:=get j b' hj;exact r.inj i j b1 b2 N h5 (h4 di) (h6 dj) ni nj e
 ·obtain⟨b1,N,_⟩:=get j b h;have:=r.low j b1 N R;have:=k.size;omega
 ·obtain⟨b1,N,_⟩:=get j b h;have hl:=r.low j b1 N R;rcases List.mem_cons.1 hm with e|hm
  ·injection e with e1 e2;omega
  ·exact r.je lo A hm j b1 N R hc
end Go.Sx
namespace Go.Ex
open Go Go.Sx Go.Proofs
end Go.Ex
namespace Go.Ex
open Go Go.Sx Go.Proofs
variable{F9 M:List (List Rat)}{b l qs r:List Rat}{rv:List Value}{h i n:Nat}{S:Nat->Prop}{O:Nat->Sx.dq}{q:Rat}{P:Rat->Prop}{u v:Value}{w:World}
abbrev ju(M:List (List (Int×Int))):List (List Rat):=M.map fun r=>r.map eY
def pM(EQ i:Nat):List Rat:=(List.replicate EQ 0).set i 1
def gO(M:List (List Rat))(b:List Rat):List (List Rat):=M.mapIdx fun i r=>r++b.getD i 0::pM M.length i
def fE(F9:List (List Rat))(pv:List Nat)(cols i:Nat):List Rat:=(List.range i).foldl (fun x i=>x.set (pv.getD i 0) (dD F9 i cols)) (List.replicate cols 0)
theorem gJ(F9:List (List Rat))(pv:List Nat)(cols i:Nat):fE F9 pv cols (i+1)=(fE F9 pv cols i).set (pv.getD i 0) (dD F9 i cols):=by
 rw[fE,bO,List.foldl_append];rfl
theorem mc(M:List (List Rat))(b:List Rat):(gO M b).length=M.length:=by simp[gO]
theorem Ih(h:M[i]? =some r):(gO M b)[i]? =some (r++b.getD i 0::pM M.length i):=by simp[gO,h]
theorem kI.lim{H:Hp}{nx:Nat}{iv:Iv}{B:Nat}{J V:World}(F:kI V FF J.heap.size [(J.heap.size,V.heap.size)] v n qs)(r:Rel H nx iv B w O J)(Ui:∀u∈rv,∀g,u.ownBlock=some g->Cv S B iv g)(X:∀g,S g->g<B):
  jy V (fun g=>(Cv FF B ((J.heap.size,V.heap.size)::iv) g/\¬ ∃u∈rv,u.ownBlock=some g)/\v.ownBlock≠some g) v n qs/\∀g,v.ownBlock=some g->Cv FF B ((J.heap.size,V.heap.size)::iv) g/\J.heap.size<=g:=by
 have key:∀g,Cv FF J.heap.size [(J.heap.size,V.heap.size)] g->J.heap.size<=g/\g<V.heap.size:=fun g Y=>by
  rcases Y with Y|⟨L,lo,A,G,N,h4⟩
  ·exact Y.elim
  ·simp at G;obtain⟨rfl,rfl⟩:=G;exact⟨N,h4⟩
 have hB:=r.cI;have RO:∀g,J.heap.size<=g/\g<V.heap.size->Cv FF B ((J.heap.size,V.heap.size)::iv) g:=fun g Y=>.inr ⟨by omega,_,_,aF,Y.1,Y.2⟩;refine⟨F.row.cN fun g Y=>⟨⟨RO g (key g Y.1),fun⟨u,hu,e⟩=>?_⟩,Y.2⟩,fun g Y=>⟨RO g (key g (F.new g Y)),(key g (F.new g Y)).1⟩⟩;have:=Rel.old r X g (Ui u hu g e);have:=(key g Y.1).1;omega
structure rA(w:World)(B:Nat)(iv:Iv)(rv:List Value)(v:Value)(n:Nat)(qs:List Rat):Prop where
 row:jy w (fun g=>(Cv FF B iv g/\¬ ∃u∈rv,u.ownBlock=some g)/\v.ownBlock≠some g) v n qs
 vR:∀g,v.ownBlock=some g->Cv FF B iv g
section
variable{H:Hp}{nx n:Nat}{iv K:Iv}{B:Nat}{w J V:World}{O:Nat->Sx.dq}{v:Value}{qs:List Rat}{rv:List Value}
theorem rA.cK(h:rA w B iv rv v n qs)(D:∀g,Cv FF B iv g->V.heap[g]? =w.heap[g]?):rA V B iv rv v n qs:=
 ⟨h.row.cK fun g Y=>D g (Y.elim (fun h=>h.1.1) (h.vR g)),h.vR⟩
theorem rA.rel(h:rA w B iv rv v n qs)(r:Rel H nx iv B w O J):rA J B iv rv v n qs:=h.cK fun _ Y=>Rel.same r (gY B) Y
theorem rA.cM(h:rA w B iv rv v n qs)(r:Rel H nx iv B w O J)(U:Ext J V)(hm:∀p,p∈iv->p∈K):rA V B K rv v n qs:=
 have G:=(h.rel r).cK fun g Y=>U.block g (Rel.old r (gY B) g Y)
 ⟨G.row.cN fun _ Y=>⟨⟨Y.1.1.mono hm,Y.1.2⟩,Y.2⟩,fun g Y=>(G.vR g Y).mono hm⟩
theorem cd.lim(h:cd V (Nf J V) u q)(r:Rel H nx iv B w O J)(Ui:∀u∈rv,∀g,u.ownBlock=some g->Cv FF B iv g):
  cd V (fun g=>Cv FF B ((J.heap.size,V.heap.size)::iv) g/\¬ ∃u∈rv,u.ownBlock=some g) u q:=
 h.cN fun g Y=>by
  rcases Y with Y|Y
  ·exact Y.elim
  ·refine⟨.inr ⟨by have:=r.cI;omega,_,_,aF,Y.1,Y.2⟩,fun⟨u,hu,e⟩=>?_⟩;have:=Rel.old r (gY B) g (Ui u hu g e);omega
end
theorem KM{C:Nat->Prop}{va x:Value}{g2:Nat}{b b2:Bool}{a a2:Option Addr}{m c m2 c2:Nat}{rs xs:List Rat}(hC:Old C w)(X:Old S w)
  (ha:ie w C 1 va [u,.slice (some ⟨g2,0,none⟩) 1 1,x] 3) (hb:ie w C 4 (.slice (some ⟨g2,0,none⟩) 1 1) [.bool b,.slice a m c,.bool b2,.slice a2 m2 c2] 1) (hr:fU w C S u rs) (F:fU w C S x xs)
  (hq:cd w S (.agg #[.bool b,.slice a m c,.bool b2,.slice a2 m2 c2]) q) (hl:rs.length+1+xs.length<=1000000):
  eI PG F'.eQ #[va] w (eO w fun v V=>jy V S v (rs.length+1+xs.length) (rs++q::xs)/\∀g,v.ownBlock=some g->w.heap.size<=g/\g<V.heap.size):=by
 obtain⟨c1,s1,f1⟩:=hr;obtain⟨c2',s2,f2⟩:=F;refine(KV (parts:=[(u,c1.flatten,rs.length),(.slice (some ⟨g2,0,none⟩) 1 1,[.bool b,.slice a m c,.bool b2,.slice a2 m2 c2],1),(x,c2'.flatten,xs.length)]) hC ha ?_ (by simp[oG];omega)).mono fun e V ⟨v,e1,e2,e3⟩=>⟨v,e1,e2,?_,fun g Y=>?_⟩
 ·intro p hp;simp only[List.mem_cons,List.not_mem_nil,or_false]at hp;rcases hp with rfl|rfl|rfl
  ·exact s1
  ·exact hb
  ·exact s2
 ·have R:oG [(u,c1.flatten,rs.length),(Value.slice (some ⟨g2,0,none⟩) 1 1,[Value.bool b,.slice a m c,.bool b2,.slice a2 m2 c2],1),(x,c2'.flatten,xs.length)]=rs.length+1+xs.length:=by simp[oG];omega
  rw[R]at e3;have PL:List.flatMap (fun x=>x.2.1) [(u,c1.flatten,rs.length),(Value.slice (some ⟨g2,0,none⟩) 1 1,[Value.bool b,.slice a m c,.bool b2,.slice a2 m2 c2],1),(x,c2'.flatten,xs.length)]=(c1++[Value.bool b,.slice a m c,.bool b2,.slice a2 m2 c2]::c2').flatten:=by simp
  rw[PL]at e3;refine⟨_,⟨e3.1,e3.2.imp id fun⟨g,cap,cur,k1,_,k3⟩=>⟨g,cap,cur,k1,aQ _,k3⟩⟩,by simp[f1.1,f2.1];omega,?_⟩;have D:∀g,S g->V.heap[g]? =w.heap[g]? :=fun g Y=>e2.block g (X g Y);refine⟨by simp[f1.1,f2.1],fun j W p L G=>?_⟩;rcases cC j c1.length with hj|hj|hj
  ·rw[aI hj]at L;rw[aI (by rw[<-f1.1];exact hj)]at G;exact(f1.2 j W p L G).cK D
  ·subst hj;rw[aM (Nat.le_refl _),bJ]at L;rw[f1.1,aM (Nat.le_refl _),bJ]at G;simp at L G;subst L G;exact(hq.cK D).four
  ·rw[aM (by omega)]at L;rw[aM (by rw[<-f1.1];omega),<-f1.1]at G;obtain⟨k,Sp⟩:∃k,j-c1.length=k+1:=⟨j-c1.length-1,by omega⟩
   rw[Sp]at L G;simp at L G;exact(f2.2 k W p L G).cK D
 ·have:=ownsRow.low e3 g Y;exact this
def jD(w:World)(S:Nat->Prop)(W:List Value)(q:Rat):Prop:=∃b a n c b2 a2 n2 c2,W=[.bool b,.slice a n c,.bool b2,.slice a2 n2 c2]/\dA w S (.agg #[.bool b,.slice a n c,.bool b2,.slice a2 n2 c2]) q
abbrev cS:=dV jD
abbrev cV:=dC cS
section
variable{S S':Nat->Prop}{H:Hp}{nx:Nat}{iv K:Iv}{B:Nat}{w J V:World}{O:Nat->Sx.dq}{v:Value}{qs:List Rat}{W:List Value}{q:Rat}
theorem jD.cK(h:jD w S W q)(D:∀g,S g->V.heap[g]? =w.heap[g]?):jD V S W q:=by
 obtain⟨b,a,n,c,b2,a2,n2,c2,L,G⟩:=h;exact⟨b,a,n,c,b2,a2,n2,c2,L,G.cK D⟩
theorem jD.cN(h:jD w S W q)(D:∀g,S g->S' g):jD w S' W q:=by
 obtain⟨b,a,n,c,b2,a2,n2,c2,L,G⟩:=h;exact⟨b,a,n,c,b2,a2,n2,c2,L,G.cN D⟩
theorem cS.cK(h:cS w S v qs)(D:∀g,S g->V.heap[g]? =w.heap[g]?):cS V S v qs:=by
 obtain⟨Z,L,G,N,h4⟩:=h;exact⟨Z,L.cK D,G,N,fun j W x k1 k2=>(h4 j W x k1 k2).cK D⟩
theorem cS.cN(h:cS w S v qs)(D:∀g,S g->S' g):cS w S' v qs:=by
 obtain⟨Z,L,G,N,h4⟩:=h;exact⟨Z,L.cN D,G,N,fun j W x k1 k2=>(h4 j W x k1 k2).cN D⟩
theorem cV.cK(h:cV w S v M)(D:∀g,S g->V.heap[g]? =w.heap[g]?):cV V S v M:=by
 obtain⟨rv,L,G,N⟩:=h;exact⟨rv,L.cK D,G,fun i u x k1 k2=>cS.cK (N i u x k1 k2) D⟩
theorem cV.cN(h:cV w S v M)(D:∀g,S g->S' g):cV w S' v M:=by
 obtain⟨rv,L,G,N⟩:=h;exact⟨rv,L.cN D,G,fun i u x k1 k2=>cS.cN (N i u x k1 k2) D⟩
end
section
variable{S S':Nat->Prop}{H:Hp}{nx:Nat}{iv K:Iv}{B:Nat}{w J V:World}{O:Nat->Sx.dq}{v:Value}{qs:List Rat}
theorem cS.rel(h:cS w (Cv S B iv) v qs)(r:Rel H nx iv B w O J)(X:∀g,S g->g<B):cS J (Cv S B iv) v qs:=cS.cK h fun _ Y=>Rel.same r X Y
theorem cS.cM(h:cS w (Cv S B iv) v qs)(r:Rel H nx iv B w O J)(X:∀g,S g->g<B)(U:Ext J V)(hm:∀p,p∈iv->p∈K):cS V (Cv S B K) v qs:=
 cS.cN (cS.cK (cS.rel h r X) fun g Y=>U.block g (Rel.old r X g Y)) fun _ Y=>Y.mono hm
theorem cS.dK(h:cS V (Nf J V) v qs)(hB:B<=J.heap.size)(hm:(J.heap.size,V.heap.size)∈iv):cS V (Cv S B iv) v qs:=cS.cN h fun _ Y=>Y.dK hB hm
theorem cS.out{w0 w1:World}(h:cS w1 (Cv S w0.heap.size iv) v qs)(r:Rel H nx iv w0.heap.size w1 O J)(X:Old S w0):cS J (Nw S w0 J) v qs:=
 cS.cN (cS.rel h r X) fun _ Y=>Cv.nw Y r
end
section
variable{S S':Nat->Prop}{H:Hp}{nx:Nat}{iv K:Iv}{B:Nat}{w J V:World}{O:Nat->Sx.dq}{v:Value}{M:List (List Rat)}
theorem cV.rel(h:cV w (Cv S B iv) v M)(r:Rel H nx iv B w O J)(X:∀g,S g->g<B):cV J (Cv S B iv) v M:=cV.cK h fun _ Y=>Rel.same r X Y
theorem cV.cM(h:cV w (Cv S B iv) v M)(r:Rel H nx iv B w O J)(X:∀g,S g->g<B)(U:Ext J V)(hm:∀p,p∈iv->p∈K):cV V (Cv S B K) v M:=
 cV.cN (cV.cK (cV.rel h r X) fun g Y=>U.block g (Rel.old r X g Y)) fun _ Y=>Y.mono hm
theorem cV.dK(h:cV V (Nf J V) v M)(hB:B<=J.heap.size)(hm:(J.heap.size,V.heap.size)∈iv):cV V (Cv S B iv) v M:=cV.cN h fun _ Y=>Y.dK hB hm
theorem cV.old(h:cV V (Nw (Cv S B iv) J V) v M)(hB:B<=J.heap.size):cV V (Cv S B ((J.heap.size,V.heap.size)::iv)) v M:=cV.cN h fun _ Y=>Nw.cv Y hB
theorem cV.out{w0 w1:World}(h:cV w1 (Cv S w0.heap.size iv) v M)(r:Rel H nx iv w0.heap.size w1 O J)(X:Old S w0):cV J (Nw S w0 J) v M:=
 cV.cN (cV.rel h r X) fun _ Y=>Cv.nw Y r
end
theorem wv(X:Old S w)(h:fU w S S v qs)(hl:qs.length<=1000000)(hq:∀q∈qs,rl q<=10000000000):
  eI PG F'.qR #[v] w (eO w fun v' V=>cS V (Nf w V) v' qs):=by
 obtain⟨a,c,rfl,hc,-⟩:=h.shape;refine uf (by simp) ?_;conv=>whnf
 refine⟨List (List Value)×Iv×World,fun z=>⟨[(3,.o (.w 0 z.1.length)),(6,sV a qs.length c),(7,iZ qs.length),(8,iZ z.1.length)],[(0,.vec T.Rat 4 z.1.flatten)],1,z.2.1,z.2.2⟩,fun z=>qs.length-z.1.length,
  fun z=>z.1.length<=qs.length/\dw w.heap.size w z.2.2/\(∀W∈z.1,W.length=4)/\(∀W∈z.1,∀u∈W,u.oneCell'=true)/\∀(j:Nat) W q,z.1[j]? =some W->qs[j]? =some q->jD z.2.2 (Cf w z.2.1) W q,?_,?_⟩
 ·intro O J r
  exact⟨([],[],J),⟨by simp,r.cU,by simp,by simp,by simp⟩,Sub.nil 3 T.Rat 4 rfl (by simp[jw,SV.sc,At.sc,fW]) r fun Id r1=>
   Sub.gn [] r1⟩
 rintro⟨Z,iv,w1⟩ ⟨A,I,h4,L,QH⟩;dsimp only at A I h4 L QH ⊢;have PL:=ef h4;have hR:fU w1 S S (.slice a qs.length c) qs:=h.cK fun g Y=>I.block g (Y.elim (X g) (X g));conv=>whnf
 refine dQ.mk ?_ ?_<;>intro hb
 ·have hb:Z.length<qs.length:=by simpa using hb
  obtain⟨q,SA⟩:∃q,qs[Z.length]? =some q:=⟨_,aA hb⟩
  obtain⟨ad,W,rfl,hF,QV⟩:=hR.load SA;obtain⟨b3,a3,n3,c3,b4,a4,n4,c4,rfl,hF⟩:=hF;have Po:=hq q (aC SA);conv=>whnf
  refine⟨ad,rfl,by omega,?_⟩;conv=>whnf
  refine⟨[.bool b3,.slice a3 n3 c3,.bool b4,.slice a4 n4 c4],rfl,fun O J r i x F=>?_,?_⟩
  ·obtain⟨k1,k2⟩:=QV i x F;rw[aE,cL (w:=w1) (V:=J) (by rw[dF,dF];exact Rel.same (S:=S) r X (.inl k1))];exact k2
  conv=>whnf
  refine cJ (cO (If:=fun _ J v V=>dA V (Nf J V) v q) (fun O J r=>rW (oS X r) (cd.cK hF fun g Y=>Rel.same (S:=S) r X (.inl Y)) (by omega)) ?_);rintro O wa v1 wb r U Q5 hO;have Q4:=hO.dK (S:=FF) r.cI (iv:=(wa.heap.size,wb.heap.size)::iv) aF;replace QH:∀(j:Nat) W q,Z[j]? =some W->qs[j]? =some q->jD wb (Cf w ((wa.heap.size,wb.heap.size)::iv)) W q:=fun j W q k1 k2=>
   ((QH j W q k1 k2).cK fun g Y=>by exact(U.block g (Rel.old r (cH w) g Y)).trans (Rel.same r (cH w) Y)).cN fun g Y=>Y.cons
  replace I:=I.tr Q5;clear r U Q5 hO hR hF QV;generalize (wa.heap.size,wb.heap.size)::iv=Od at*
  obtain⟨b5,a5,n5,c5,b6,a6,n6,c6,rfl⟩:=Q4.shape;conv=>whnf
  refine .inl ?_;conv=>whnf
  refine⟨PL,by omega,by unfold maxLen;omega,?_⟩;conv=>whnf
  refine⟨((Z.length+1:Nat):Int),wo,?_⟩;conv=>whnf
  intro GT w3 E;have QU:(Z++[[Value.bool b5,.slice a5 n5 c5,.bool b6,.slice a6 n6 c6]]).length=Z.length+1:=by simp
  have XH:(Z++[[Value.bool b5,.slice a5 n5 c5,.bool b6,.slice a6 n6 c6]]).flatten=Z.flatten++[Value.bool b5,.slice a5 n5 c5,.bool b6,.slice a6 n6 c6]:=by simp
  refine⟨(Z++[[.bool b5,.slice a5 n5 c5,.bool b6,.slice a6 n6 c6]],Od,w3),⟨by dsimp only;rw[QU];exact hb,I.tr E.cU,fun W hc=>?_,fun W hc u hu=>?_,fun j W p k1 k2=>?_⟩,
   Sub.gn [(0,3)] E ⟨by dsimp only;rw[XH];rfl,trivial⟩ ⟨by dsimp only;rw[QU];rfl,rfl,rfl,by dsimp only;rw[QU];rfl,trivial⟩,by dsimp only;rw[QU];omega⟩
  ·rcases bB.1 hc with hc|hc
   ·exact h4 W hc
   ·simp at hc;subst hc;rfl
  ·rcases bB.1 hc with hc|hc
   ·exact L W hc u hu
   ·simp at hc;subst hc;simp at hu;rcases hu with rfl|rfl|rfl|rfl<;>rfl
  ·rcases aO j Z.length with hj|hj
   ·rw[aI hj]at k1;exact(QH j W p k1 k2).cK fun g Y=>Rel.same E (cH w) Y
   ·have VT:j=Z.length:=by have:=(aD.1 k1).1;rw[QU]at this;omega
    subst VT;rw[aM (Nat.le_refl _),bJ]at k1;simp at k1;rw[SA]at k2;injection k2 with k2;subst k1 k2;exact⟨b5,a5,n5,c5,b6,a6,n6,c6,rfl,Q4.rel E (cH w)⟩
 ·have hb:Z.length=qs.length:=by
   have:¬Z.length<qs.length:=by simpa using hb
   omega
  conv=>whnf
  intro IR we re;refine⟨_,rfl,I.tr re.cU,Z,?_,hb,h4,fun j W q k1 k2=>((QH j W q k1 k2).cK fun g Y=>Rel.same re (cH w) Y).cN fun g Y=>Cv.nw Y re⟩
  have:=re.iK (id:=0) (sz:=4) (m:=Z.length) rfl PL (by unfold maxLen;omega) (by decide) (fun u hu=>by
   obtain⟨W,hc,hu⟩:=List.mem_flatten.1 hu
   exact L W hc u hu)
  rw[<-hb];exact this.cN fun g Y=>.inr Y
theorem OE(X:Old S w)(h:fh w S v M)(hl:M.length<=1000000)(R:n<=1000000)(Oa:∀r∈M,r.length=n)(hq:∀r∈M,∀q∈r,rl q<=10000000000):
  eI PG F'.xb #[v] w (eO w fun v' V=>cV V (Nf w V) v' M):=by
 obtain⟨a,c,rfl,hc,-⟩:=dC.shape h;refine Am (by simp) ?_;conv=>whnf
 refine⟨List Value×Iv×World,fun z=>⟨[(3,.o (.w 0 z.1.length)),(6,sV a M.length c),(7,iZ M.length),(8,iZ z.1.length)],[(0,.vec T.iB 1 z.1)],1,z.2.1,z.2.2⟩,fun z=>M.length-z.1.length,
  fun z=>z.1.length<=M.length/\dw w.heap.size w z.2.2/\(∀u∈z.1,u.oneCell'=true)/\∀(j:Nat) u qs,z.1[j]? =some u->M[j]? =some qs->cS z.2.2 (Cf w z.2.1) u qs,?_,?_⟩
 ·intro O J r
  exact⟨([],[],J),⟨by simp,r.cU,by simp,by simp⟩,Sub.nil 3 T.iB 1 rfl (by simp[jw,SV.sc,At.sc,fW]) r fun Id r1=>
   Sub.gn [] r1⟩
 rintro⟨rv,iv,w1⟩ ⟨A,I,L,QH⟩;dsimp only at A I L QH ⊢;have hR:fh w1 S (.slice a M.length c) M:=fh.cK h fun g Y=>I.block g (X g Y);conv=>whnf
 refine dQ.mk ?_ ?_<;>intro hb
 ·have hb:rv.length<M.length:=by simpa using hb
  obtain⟨qs,SA⟩:∃q,M[rv.length]? =some q:=⟨_,aA hb⟩
  obtain⟨ad,u,rfl,QY,k1,k2⟩:=dC.load hR SA;obtain⟨au,cu,rfl⟩:=dC.rowOf QY;have SZ:=Oa qs (aC SA);conv=>whnf
  refine⟨ad,rfl,by omega,?_⟩;conv=>whnf
  refine⟨.slice au qs.length cu,fun O J r=>?_,?_⟩
  ·rw[aE,cL (w:=w1) (V:=J) (by rw[dF];exact Rel.same (S:=S) r X (.inl k1))];exact k2
  conv=>whnf
  refine cJ (cO (If:=fun _ J v V=>cS V (Nf J V) v qs) (fun O J r=>wv (oS X r) (QY.cK fun g Y=>Rel.same (S:=S) r X (.inl (Y.elim id id))) (by omega) (hq qs (aC SA))) ?_);rintro O wa v1 wb r U Q5 hO;have Q4:=cS.dK (S:=FF) hO r.cI (iv:=(wa.heap.size,wb.heap.size)::iv) aF;replace QH:∀(j:Nat) u qs,rv[j]? =some u->M[j]? =some qs->cS wb (Cf w ((wa.heap.size,wb.heap.size)::iv)) u qs:=fun j u qs k1 k2=>
   cS.cN (cS.cK (QH j u qs k1 k2) fun g Y=>(U.block g (Rel.old r (cH w) g Y)).trans (Rel.same r (cH w) Y)) fun g Y=>Y.cons
  replace I:=I.tr Q5;clear r U Q5 hO hR QY k1 k2;generalize (wa.heap.size,wb.heap.size)::iv=Od at*
  obtain⟨a5,c5,rfl,-,-⟩:=dV.shape Q4;conv=>whnf
  refine .inl ?_;conv=>whnf
  refine⟨by simp,by omega,by unfold maxLen;omega,?_⟩;conv=>whnf
  refine⟨((rv.length+1:Nat):Int),wo,?_⟩;conv=>whnf
  intro GT w3 E;have QU:(rv++[Value.slice a5 qs.length c5]).length=rv.length+1:=by simp
  refine⟨(rv++[.slice a5 qs.length c5],Od,w3),⟨by dsimp only;rw[QU];exact hb,I.tr E.cU,fun u hu=>?_,fun j u p k1 k2=>?_⟩,
   Sub.gn [(0,2)] E (hE:=⟨by dsimp only;rw[QU];rfl,rfl,rfl,by dsimp only;rw[QU];rfl,trivial⟩),by dsimp only;rw[QU];omega⟩
  ·rcases bB.1 hu with hu|hu
   ·exact L u hu
   ·simp at hu;subst hu;rfl
  ·rcases aO j rv.length with hj|hj
   ·rw[aI hj]at k1;exact cS.cK (QH j u p k1 k2) fun g Y=>Rel.same E (cH w) Y
   ·have VT:j=rv.length:=by have:=(aD.1 k1).1;rw[QU]at this;omega
    subst VT;rw[aM (Nat.le_refl _),bJ]at k1;simp at k1;rw[SA]at k2;injection k2 with k2;subst k1 k2;exact cS.rel Q4 E (cH w)
 ·have hb:rv.length=M.length:=by
   have:¬rv.length<M.length:=by simpa using hb
   omega
  conv=>whnf
  intro IR we re;refine⟨_,rfl,I.tr re.cU,rv,?_,hb,fun j u qs k1 k2=>cS.cN (cS.cK (QH j u qs k1 k2) fun g Y=>Rel.same re (cH w) Y) fun g Y=>Cv.nw Y re⟩;have:=re.iK (id:=0) (sz:=1) (m:=rv.length) rfl (by simp) (by unfold maxLen;omega) (by decide) L;rw[<-hb];exact this.cN fun g Y=>.inr Y
theorem oF(w:World)(t e:TypeId)(a:Option Addr)(n c n' c':Nat)(h:PG.underlying t=some (.slice e)):
  (binOp .neq t (.slice a n c) (.slice none n' c')).run PG w= .ok (.bool a.isSome) w:=by
 have:∀d,(Op.equalIn (d+1) t (.slice a n c) (.slice none n' c')).run PG w= .ok a.isNone w:=fun d=>by cases a<;>simp[Op.equalIn,run_underlying h]
 simp only[binOp]
 cases a<;>simp[Op.equal,Op.maxDepth,this 9999]
theorem aAo(h:∀x∈l,P x)(hq:P q):∀x∈l.set i q,P x:=fun x F=>by
 rcases bC F with L|L
 ·exact h x L
 ·rw[L];exact hq
theorem Hu(H:Ht F9 h)(G:2<=h)(i c:Nat):rl (dD F9 i c)+1<=h:=by
 unfold dD
 cases hA:F9[i]? with
 |none=>
  have:F9.getD i []=[]:=by rw[List.getD,hA];rfl
  rw[this];show rl 0+1<=h;exact aW (by decide) G
 |some r=>
  have:F9.getD i []=r:=by rw[List.getD,hA];rfl
  rw[this];exact ma (H.at hA) G c
theorem KN(H:Ht F9 h)(G:2<=h)(pv:List Nat)(cols i:Nat):∀x∈fE F9 pv cols i,rl x+1<=h:=by
 induction i with
 |zero=>intro x F;simp[fE]at F;rw[F.2];exact aW (by decide) G
 |succ i ih=>rw[gJ];exact aAo ih (Hu H G _ _)
theorem j7(F9:List (List Rat))(pv:List Nat)(cols i:Nat):(fE F9 pv cols i).length=cols:=by
 induction i with
 |zero=>simp[fE]
 |succ i ih=>rw[gJ,bL,ih]
theorem KW(H:Ht F9 h)(G:2<=h)(pv:List Nat)(cols c i:Nat):∀x∈fp F9 pv cols c i,rl x+1<=h:=by
 induction i with
 |zero=>
  unfold fp;refine aAo (fun x F=>?_) (aW (by decide) G);rw[bI F];exact aW (by decide) G
 |succ i ih=>rw[gI];exact aAo ih (by rw[lh];exact Hu H G _ _)
theorem Gf(H:Ht F9 h)(G:2<=h)(pv:List Nat)(cols c:Nat):∀r∈dM F9 pv cols c,r.length=cols/\∀x∈r,rl x+1<=h:=fun r hr=>by
 unfold dM at hr;obtain⟨c',_,rfl⟩:=aU.1 hr;exact⟨j6 _ _ _ _ _,KW H G _ _ _ _⟩
theorem xk(F9:List (List Rat))(pv:List Nat)(cols c:Nat):(dM F9 pv cols c).length<=c:=by
 unfold dM;rw[aJ];exact aW (List.length_filter_le _ _) (by simp)
def BO(M:List (List (Int×Int)))(b:List (Int×Int)):Nat:=if sB M≠0 then sB M else if b.length≠M.length then 11 else 0
def aAm(M:List (List (Int×Int)))(b:List (Int×Int))(w V:World)(s:Value):Prop:=∃F9 pv,(F9,pv)=cQ (gO (ju M) (b.map eY)) (db M)/\
 ((∃j vp,pv.length<=j/\j<M.length/\dD F9 j (db M)≠0/\(∀k,pv.length<=k->k<j->dD F9 k (db M)=0)/\s= .agg #[.int .i64 1,.slice none 0 0,.slice none 0 0,vp]/\
   cS V (Nf w V) vp (((F9.getD j []).drop (db M+1)).map (· *(1 / dD F9 j (db M)))))\/
  (∃vx vk,(∀k,pv.length<=k->k<M.length->dD F9 k (db M)=0)/\s= .agg #[.int .i64 0,vx,vk,.slice none 0 0]/\cS V (Nf w V) vx (fE F9 pv (db M) pv.length)/\
   cV V (Nf w V) vk (dM F9 pv (db M) (db M))))
end Go.Ex
namespace Go.Ex
variable{ds l:List Nat}
def dU:List Int->Int
 |[]=>0
 |c::r=>c+65536*dU r
def up(k:Nat):Int:=65536^k
theorem Dl(k:Nat):up (k+1)=65536*up k:=by rw[up,Int.pow_succ,Int.mul_comm];rfl
theorem Lu(k:Nat):0<up k:=Int.pow_pos (by decide)
theorem B9(a b:List Int):dU (a++b)=dU a+up a.length*dU b:=by
 induction a with
 |nil=>simp[dU,up]
 |cons c r ih=>rw[List.cons_append,dU,ih,dU,List.length_cons,Dl,Int.mul_add,<-Int.mul_assoc];omega
theorem HX(a:List Int):dU (a.map (- ·))= -dU a:=by
 induction a with
 |nil=>rfl
 |cons c r ih=>rw[List.map_cons,dU,ih,dU];omega
def Dg(l:List Nat):Prop:=∀d∈l,d<65536
def mQ(l:List Nat):Int:=dU (l.map fun d:Nat=>(d:Int))
theorem AI(h:Dg l):0<=mQ l/\mQ l<up l.length:=by
 induction l with
 |nil=>exact⟨Int.le_refl _,by decide⟩
 |cons d r ih=>
  have L:=ih fun x F=>h x (aB _ F);have G:=h d aF;have e:mQ (d::r)=(d:Int)+65536*mQ r:=rfl;rw[e,List.length_cons,Dl];omega
def de:List Int->Int->List Nat×Int
 |[],k=>([],k)
 |c::r,k=>(((c+k) % 65536).toNat::(de r ((c+k) / 65536)).1,(de r ((c+k) / 65536)).2)
theorem lE:∀(W:List Int) (k:Int),dU W+k=mQ (de W k).1+up W.length*(de W k).2/\Dg (de W k).1/\(de W k).1.length=W.length
 |[],k=>⟨by simp[dU,de,mQ,up],by simp[de,Dg],rfl⟩
 |c::r,k=>by
  obtain⟨L,G,N⟩:=lE r ((c+k) / 65536);have h4:0<=(c+k) % 65536:=Int.emod_nonneg _ (by decide);have h5:(c+k) % 65536<65536:=Int.emod_lt_of_pos _ (by decide);have h6:=Int.mul_ediv_add_emod (c+k) 65536;refine⟨?_,fun d hd=>?_,by simp[de,N]⟩
  ·have e:mQ (de (c::r) k).1=(((c+k) % 65536).toNat:Int)+65536*mQ (de r ((c+k) / 65536)).1:=rfl;have e2:(de (c::r) k).2=(de r ((c+k) / 65536)).2:=rfl;rw[e,e2,dU,List.length_cons,Dl,Int.mul_assoc];omega
  ·have e:(de (c::r) k).1=((c+k) % 65536).toNat::(de r ((c+k) / 65536)).1:=rfl;rw[e]at hd;rcases List.mem_cons.1 hd with rfl|hd
   ·omega
   ·exact G d hd
theorem Dm(W:List Int)(c k:Int):de (W++[c]) k=((de W k).1++[((c+(de W k).2) % 65536).toNat],(c+(de W k).2) / 65536):=by
 induction W generalizing k with
 |nil=>rfl
 |cons d r ih=>simp only[List.cons_append,de,ih]
theorem kY:∀(W:List Int) (k:Int),(∀c∈W,-1152921504606846976<=c/\c<=1152921504606846976)-> -1152921504606846976<=k->k<=1152921504606846976-> -1152921504606846976<=(de W k).2/\(de W k).2<=1152921504606846976
 |[],k,_,L,G=>⟨L,G⟩
 |c::r,k,h,L,G=>by
  have hc:=h c aF;exact kY r _ (fun x F=>h x (aB _ F)) (by omega) (by omega)
def dP(n:Nat):List Nat:=if h:n=0 then []else n % 65536::dP (n / 65536)
termination_by n
decreasing_by omega
theorem lF:dP 0=[]:=by rw[dP];rfl
theorem qF{n:Nat}(h:0<n):dP n=n % 65536::dP (n / 65536):=by
 rw[dP,dif_neg (by omega)]
theorem lG(n:Nat):mQ (dP n)=n/\Dg (dP n):=by
 induction n using Nat.strongRecOn with
 |_ n ih=>
  rcases bK n with h|h
  ·subst h;rw[lF];exact⟨rfl,by simp[Dg]⟩
  ·rw[qF h];obtain⟨L,G⟩:=ih (n / 65536) (by omega);refine⟨?_,fun d hd=>?_⟩
   ·have e:mQ (n % 65536::dP (n / 65536))=((n % 65536:Nat):Int)+65536*mQ (dP (n / 65536)):=rfl;rw[e,L];omega
   ·rcases List.mem_cons.1 hd with rfl|hd
    ·omega
    ·exact G d hd
theorem jq{n:Nat}:∀{k:Nat},n<65536^k->(dP n).length<=k
 |0,h=>by
  have:n=0:=by simp at h;exact h
  subst this;rw[lF];simp
 |k+1,h=>by
  rcases bK n with h0|h0
  ·subst h0;rw[lF];simp
  ·rw[qF h0,List.length_cons];have:=jq (n:=n / 65536) (k:=k) (by rw[Nat.pow_succ]at h;exact Nat.div_lt_of_lt_mul (by rw[bT];exact h));omega
def iH:List Nat->List Nat
 |[]=>[]
 |[a]=>[a]
 |a::b::r=>(a+65536*b)::iH r
theorem AJ:∀(l:List Nat),Dg l->(val (iH l):Int)=mQ l/\Lm (iH l)/\(iH l).length=(l.length+1) / 2
 |[],_=>⟨rfl,by simp[iH,Lm],rfl⟩
 |[a],h=>by
  have:=h a (by simp);exact⟨by simp[iH,val,mQ,dU],fun x F=>by simp[iH]at F;omega,by simp[iH]⟩
 |a::b::r,h=>by
  obtain⟨L,G,N⟩:=AJ r fun x F=>h x (aB _ (aB _ F));have ha:=h a (by simp);have hb:=h b (by simp);refine⟨?_,fun x F=>?_,?_⟩
  ·have e:mQ (a::b::r)=(a:Int)+65536*((b:Int)+65536*mQ r):=rfl;rw[e,<-L,iH,val];simp only[Int.natCast_add,Int.natCast_mul]
   omega
  ·rw[iH]at F;rcases List.mem_cons.1 F with rfl|F
   ·omega
   ·exact G x F
  ·rw[iH,List.length_cons,N];simp only[List.length_cons]
   omega
def pk(ds:List Nat)(k:Nat):List Nat:=(List.range k).map fun i=>ds.getD (2*i) 0+65536*ds.getD (2*i+1) 0
theorem ym(ds:List Nat)(k:Nat):pk ds (k+1)=pk ds k++[ds.getD (2*k) 0+65536*ds.getD (2*k+1) 0]:=by simp[pk,bO]
theorem wF(ds:List Nat)(k:Nat):(pk ds k).length=k:=by simp[pk]
theorem Lv:∀(ds:List Nat),pk ds ((ds.length+1) / 2)=iH ds
 |[]=>rfl
 |[a]=>by simp[pk,iH,bO]
 |a::b::r=>by
  have ih:=Lv r;have e:((a::b::r).length+1) / 2=(r.length+1) / 2+1:=by simp only[List.length_cons];omega
  rw[e,iH,<-ih,pk,List.range_succ_eq_map,List.map_cons,List.map_map,pk];congr 1
theorem Lw(h:Dg ds)(k:Nat):Lm (pk ds k):=fun x F=>by
 obtain⟨i,_,rfl⟩:=aU.1 F;have key:∀j,ds.getD j 0<65536:=fun j=>by
  rw[List.getD]
  cases hj:ds[j]? with
  |none=>simp
  |some d=>simp;exact h d (aC hj)
 have L:=key (2*i);have G:=key (2*i+1);omega
end Go.Ex
namespace Go.Ex
open Go Go.Sx Go.Proofs
variable{W:List Int}{S:Nat->Prop}{v:Value}{w:World}
def eF(w:World)(S:Nat->Prop)(v:Value)(W:List Int):Prop:=ie w S 1 v (W.map (Value.int .i64)) W.length
theorem eF.cK{V:World}(h:eF w S v W)(D:∀g,S g->V.heap[g]? =w.heap[g]?):eF V S v W:=ie.cK h D
theorem eF.cN{S':Nat->Prop}(h:eF w S v W)(D:∀g,S g->S' g):eF w S' v W:=ie.cN h D
theorem eF.load{a:Option Addr}{n c j:Nat}{x:Int}(h:eF w S (.slice a n c) W)(F:W[j]? =some x):∃ad,a=some ad/\S ad.block/\w.cell? (ad.add (j*1))=some (.int .i64 x):=by
 obtain⟨_,_,_,a',c',e,_,h4⟩:=h;injection e with e1 e2 e3;subst e1;obtain⟨ad,k1,k2,k3⟩:=h4 j (.int .i64 x) (by rw[aL,F];rfl);exact⟨ad,k1,k2,by rw[aV];exact k3⟩
theorem eF.shape(h:eF w S v W):∃a c,v= .slice a W.length c/\W.length<=c:=by
 obtain⟨_,_,_,a',c',e,N,_⟩:=h;exact⟨a',c',e,N⟩
def eM(ds:List Nat):List Int:=ds.map fun d:Nat=>(d:Int)
theorem fI(ds:List Nat):(eM ds).length=ds.length:=by simp[eM]
end Go.Ex
namespace Go.Sx
open Go Go.Ex Go.Proofs
variable{W:List Value}{O:Nat->Sx.dq}
theorem Rel.Ek{H:Hp}{nx:Nat}{iv:Iv}{B:Nat}{w J:World}(r:Rel H nx iv B w O J){id t m sz:Nat}(h:dG H id=some (.vec t sz W))(hm:W.length=m*sz)(hs:0<sz):
  J.ownsRow B t sz ((At.w id m).den O) m W:=by
 rcases r.vec id t sz _ h with⟨R,rfl⟩|⟨R,spare,hb,hc,Q2⟩
 ·have Uf:m=0:=by
   rcases bK m with h|h
   ·exact h
   ·have:=Nat.mul_pos h hs;simp at hm;omega
  subst Uf;have:(At.w id 0).den O= .slice none 0 0:=by simp[At.den,R]
  rw[this];exact World.ownsRow_nil _ _ _ _
 ·have hv:(At.w id m).den O= .slice (some ⟨(O id).g,0,none⟩) m (O id).cap:=by simp[At.den,R]
  have L:(W++spare).length=W.length+spare.length:=List.length_append;rw[hv];refine⟨hm,.inr ⟨(O id).g,(O id).cap,_,rfl,(r.low id _ h R).1,hb,?_,Q2,by simpa using hc,?_⟩⟩
  ·have G:m*sz<=(O id).cap*sz:=by omega
   exact cA G hs
  ·rw[<-hm];simp
end Go.Sx
namespace Go.Ex
open Go Go.Sx Go.Proofs
theorem Gj(n:Nat)(w:World)(R:n<=9223372036854775807):eI PG F'.u5 #[.int .i64 n] w (eO w fun v V=>eF V (Nf w V) v (eM (dP n))):=by
 refine yY (by simp) ?_
 refine⟨Nat×List Nat×World,fun z=>⟨[(0,iZ z.1),(3,.o (.w 0 z.2.1.length))],[(0,.vec T.int 1 ((eM z.2.1).map (Value.int .i64)))],1,[],z.2.2⟩,fun z=>z.1,
  fun z=>dw w.heap.size w z.2.2/\z.1<=n/\z.2.1.length<=n-z.1/\z.2.1++dP z.1=dP n,?_,?_⟩
 ·intro O J r
  exact⟨(n,[],J),⟨r.cU,Nat.le_refl _,by simp,by simp⟩,Sub.nil 3 T.int 1 rfl (by simp[jw,SV.sc,At.sc,fW]) r fun Id r1=>
   Sub.gn [] r1⟩
 rintro⟨k,ds,w1⟩ ⟨I,D,hl,hs⟩;dsimp only at I D hl hs ⊢;have Sc:=fI ds;refine dQ.mk ?_ ?_<;>intro h
 ·have h:0<k:=by
   have:(k:Int)>0:=aK h;omega
  refine⟨by decide,((k % 65536:Nat):Int),Ms k 65536,?_⟩;refine .inl ?_;refine⟨by simp[Sc],?_,by have L:=congrArg List.length hs;rw[List.length_append]at L;have G:=jq (n:=n) (k:=4) (by omega);unfold maxLen;omega,?_⟩
  ·have L:=congrArg List.length hs;rw[List.length_append]at L;have G:=jq (n:=n) (k:=4) (by omega);omega
  refine⟨by decide,((k / 65536:Nat):Int),OF (by omega),?_⟩;intro GT w3 E;have WO:(ds++[k % 65536]).length=ds.length+1:=by simp
  have TW:(eM (ds++[k % 65536])).map (Value.int .i64)=(eM ds).map (Value.int .i64)++[.int .i64 ((k % 65536:Nat):Int)]:=by simp[eM]
  refine⟨(k / 65536,ds++[k % 65536],w3),⟨I.tr E.cU,by dsimp only;omega,by dsimp only;rw[WO];omega,?_⟩,
   Sub.gn [(0,2)] E ⟨by rw[TW];rfl,trivial⟩ ⟨rfl,by dsimp only;rw[WO];rfl,trivial⟩,by dsimp only;omega⟩
  dsimp only
  rw[<-hs,qF h];simp
 ·have h:k=0:=by
   have:¬(k:Int)>0:=aG h;omega
  subst h;rw[lF,List.append_nil]at hs;subst hs;intro IR we re;refine⟨_,rfl,I.tr re.cU,?_⟩;have:=re.iK (id:=0) (sz:=1) (m:=(dP n).length) rfl (by simp[Sc]) (by have G:=jq (n:=n) (k:=4) (by omega);unfold maxLen;omega) (by decide) (by intro u hu;simp at hu;obtain⟨_,_,rfl⟩:=hu;rfl);unfold eF;rw[Sc];exact this.cN fun g Y=>.inr Y
end Go.Ex
namespace Go.Ex
open Go Go.Sx Go.Proofs
variable{W:List Int}{S:Nat->Prop}
theorem wz(n:Int):(n.tmod 65536<0->n % 65536=n.tmod 65536+65536)/\(¬n.tmod 65536<0->n % 65536=n.tmod 65536)/\ -65536<n.tmod 65536/\n.tmod 65536<65536:=by
 by_cases h:0<=n
 ·rw[Int.tmod_eq_emod_of_nonneg h];omega
 ·have L:n.tmod 65536= -((-n) % 65536):=by
   have:n= -(-n):=by omega
   conv=>lhs;rw[this]
   rw[Int.neg_tmod,Int.tmod_eq_emod_of_nonneg (by omega)]
  rw[L];omega
theorem DN(n:Int):(n-n % 65536).tdiv 65536=n / 65536:=by
 have h:n-n % 65536=65536*(n / 65536):=by omega
 rw[h,Int.mul_tdiv_cancel_left _ (by decide)]
theorem DO{w:World}{v:Value}(X:Old S w)(h:eF w S v W)(hb:∀c∈W,-1152921504606846976<=c/\c<=1152921504606846976)(hl:W.length<=1000000000):
  eI PG F'.sO #[v] w (eO w fun v' V=>∃o,v'= .tuple #[o,.int .i64 (de W 0).2]/\V.ownsRow w.heap.size T.int 1 o W.length ((eM (de W 0).1).map (Value.int .i64))):=by
 obtain⟨a,c,rfl,hc⟩:=h.shape;refine wT (by simp) ?_
 refine⟨Nat×World,fun z=>⟨[(0,sV a W.length c),(4,.o (.w 0 z.1)),(5,.o (.v (.int .i64 (de (W.take z.1) 0).2))),(6,iZ z.1)],[(0,.vec T.int 1 ((eM (de (W.take z.1) 0).1).map (Value.int .i64)))],1,[],z.2⟩,fun z=>W.length-z.1,
  fun z=>dw w.heap.size w z.2/\z.1<=W.length,?_,?_⟩
 ·intro O J r
  exact⟨(0,J),⟨r.cU,by simp⟩,Sub.nil 4 T.int 1 rfl (by simp[jw,SV.sc,At.sc,fW]) r fun Id r1=>
   Sub.gn [] r1⟩
 rintro⟨i,w1⟩ ⟨I,A⟩;dsimp only at I A ⊢;obtain⟨-,hdg,hlen⟩:=lE (W.take i) 0;have Sr:((eM (de (W.take i) 0).1).map (Value.int .i64)).length=i:=by rw[aJ,fI,hlen,aX];omega
 obtain⟨hk1,Sp⟩:=kY (W.take i) 0 (fun c hc=>hb c (List.mem_of_mem_take hc)) (by decide) (by decide);have hR:eF w1 S (.slice a W.length c) W:=eF.cK h fun g Y=>I.block g (X g Y);refine dQ.mk ?_ ?_<;>intro h
 ·have h:i<W.length:=by simpa using h
  obtain⟨x,F⟩:∃x,W[i]? =some x:=⟨_,aA h⟩
  obtain⟨SS,RP⟩:=hb x (aC F);obtain⟨ad,rfl,q1,q2⟩:=hR.load F;have UU:W.take (i+1)=W.take i++[x]:=by rw[List.take_add_one,F];rfl
  have hsn:=Dm (W.take i) x 0;rw[<-UU]at hsn;generalize (de (W.take i) 0).1=ds at*
  generalize (de (W.take i) 0).2=k at*
  obtain⟨t1,t2,t3,t4⟩:=wz (x+k);have hem1:=Int.emod_nonneg (x+k) (show (65536:Int)≠0 by decide);have hem2:=Int.emod_lt_of_pos (x+k) (show (0:Int)<65536 by decide);refine⟨ad,rfl,by omega,.int .i64 x,fun O J r=>?_,?_⟩
  ·rw[aE,cL (w:=w1) (V:=J) (by rw[dF];exact Rel.same (S:=S) r X (.inl q1))];exact q2
  refine⟨x+k,wo,by decide,(x+k).tmod 65536,rfl,?_⟩;refine dQ.mk ?_ ?_<;>intro RC
  ·have RC:=t1 (aK RC);refine⟨(x+k) % 65536,by rw[RC,wrap64]<;>omega,x+k-(x+k) % 65536,wo,by decide,(x+k) / 65536,by rw[DN,wrap64]<;>omega,?_⟩;refine .inl ?_;refine⟨by rw[Sr,aV],by omega,by unfold maxLen;omega,((i+1:Nat):Int),wo,?_⟩;intro GT w3 E;have TW:(eM (de (W.take (i+1)) 0).1).map (Value.int .i64)=(eM ds).map (Value.int .i64)++[.int .i64 ((x+k) % 65536)]:=by
    rw[hsn];simp[eM,Int.toNat_of_nonneg hem1]
   have hk5:(de (W.take (i+1)) 0).2=(x+k) / 65536:=by rw[hsn]
   exact⟨(i+1,w3),⟨I.tr E.cU,by dsimp only;omega⟩,Sub.gn [(0,2)] E ⟨by dsimp only;rw[TW];rfl,trivial⟩ ⟨rfl,rfl,by dsimp only;rw[hk5];rfl,rfl,trivial⟩,by dsimp only;omega⟩
  ·have RC:=t2 (aG RC);rw[<-RC];refine⟨x+k-(x+k) % 65536,wo,by decide,(x+k) / 65536,by rw[DN,wrap64]<;>omega,?_⟩;refine .inl ?_;refine⟨by rw[Sr,aV],by omega,by unfold maxLen;omega,((i+1:Nat):Int),wo,?_⟩;intro GT w3 E;have TW:(eM (de (W.take (i+1)) 0).1).map (Value.int .i64)=(eM ds).map (Value.int .i64)++[.int .i64 ((x+k) % 65536)]:=by
    rw[hsn];simp[eM,Int.toNat_of_nonneg hem1]
   have hk5:(de (W.take (i+1)) 0).2=(x+k) / 65536:=by rw[hsn]
   exact⟨(i+1,w3),⟨I.tr E.cU,by dsimp only;omega⟩,Sub.gn [(0,2)] E ⟨by dsimp only;rw[TW];rfl,trivial⟩ ⟨rfl,rfl,by dsimp only;rw[hk5];rfl,rfl,trivial⟩,by dsimp only;omega⟩
 ·have h:i=W.length:=by
   have:¬i<W.length:=by simpa using h
   omega
  subst h;rw[bA]at Sr ⊢;exact rtn I fun IR we re=>⟨_,rfl,re.Ek (id:=0) rfl (by rw[Sr,aV]) (by decide)⟩
end Go.Ex
namespace Go.Sx
open Go Go.Ex Go.Proofs
variable{ls:List Nat}{O:Nat->Sx.dq}
theorem Rel.Mt{H:Hp}{nx:Nat}{iv:Iv}{B:Nat}{w J:World}(r:Rel H nx iv B w O J){id t m:Nat}(h:dG H id=some (.vec t 1 (E8 ls)))(hm:m<=ls.length)(QG:Lm ls)(hle:ls.length<=9223372036854775807):
  dT J (fun g=>B<=g/\g<J.heap.size) ((At.w id m).den O) (ls.take m):=by
 have Ow:(ls.take m).length=m:=by rw[aX];omega
 rcases r.vec id t 1 _ h with⟨R,hu⟩|⟨R,spare,hb,hc,Q2⟩
 ·have hl:ls=[]:=by cases ls with
   |nil=>rfl
   |cons a b=>simp[E8]at hu
  subst hl;simp at hm;subst hm;have:(At.w id 0).den O= .slice none 0 0:=by simp[At.den,R]
  rw[this];exact dT.nil _ _
 ·refine⟨QG.take m,by rw[Ow];omega,some ⟨(O id).g,0,none⟩,(O id).cap,by rw[Ow];simp[At.den,R],?_,fun j x F=>⟨_,rfl,r.low id _ h R,?_⟩⟩
  ·have L:(E8 ls++spare).length=ls.length+spare.length:=by rw[List.length_append,gW]
   rw[Ow];omega
  ·rw[List.getElem?_take]at F;split at F
   ·rw[dL,cell_of hb,aT,aI (by rw[gW];exact(aD.1 F).1)];exact uo F
   ·cases F
end Go.Sx
namespace Go.Ex
open Go Go.Sx Go.Proofs
variable{ds ls:List Nat}{n:Nat}{S:Nat->Prop}
theorem Hw(_hn:n<ls.length)(h0:ls[n]? =some 0):eC (ls.take (n+1))=eC (ls.take n):=by
 rw[List.take_add_one,h0];exact kk _
theorem Hx{x:Nat}(h0:ls[n]? =some x)(F:x≠0):eC (ls.take (n+1))=ls.take (n+1):=by
 rw[List.take_add_one,h0];exact oV _ F
theorem Gk{w:World}{v:Value}(X:Old S w)(h:eF w S v (eM ds))(hd:Dg ds)(hl:ds.length<=1000000000):
  eI PG F'.uZ #[v] w (eO w fun v' V=>∃lv,v'= .agg #[.bool false,lv]/\dT V (Nf w V) lv (eC (iH ds))):=by
 obtain⟨a,c,rfl,hc⟩:=h.shape;rw[fI]at hc h ⊢;refine yX (by simp) ?_
 refine⟨Nat×World,fun z=>match z.1 with
   |0=>⟨[(0,sV a ds.length c),(2,pP 0 0),(3,pP 1 0),(4,iZ 0)],[(1,.box T.Int [.v (.bool false),.v (.slice none 0 0)]),(0,.box T.Int [.v (.bool false),.v (.slice none 0 0)])],2,[],z.2⟩
   |k+1=>⟨[(0,sV a ds.length c),(2,pP 0 0),(3,pP 1 0),(4,.o (.v (.int .i64 ((2*(k+1):Nat):Int))))],[(2,.vec T.uint32 1 (E8 (pk ds (k+1)))),(1,.box T.Int [.v (.bool false),.w 2 (k+1)]),(0,.box T.Int [.v (.bool false),.v (.slice none 0 0)])],3,[],z.2⟩,
  fun z=>ds.length-z.1,fun z=>dw w.heap.size w z.2/\2*z.1<=ds.length+1,?_,?_⟩
 ·intro O J r;exact⟨(0,J),⟨r.cU,by simp⟩,Sub.gn [] r⟩
 rintro⟨k,w1⟩ ⟨I,A⟩;dsimp only at I A;have hR:eF w1 S (.slice a ds.length c) (eM ds):=eF.cK h fun g Y=>I.block g (X g Y)
 cases k with
 |zero=>
  refine dQ.mk ?_ ?_<;>intro L
  ·have L:0<ds.length:=by
    have:=aK L;omega
   obtain⟨d0,UR⟩:∃x,ds[0]? =some x:=⟨_,aA L⟩
   have hd0b:=hd d0 (aC UR);have Th:ds.getD (2*0) 0=d0:=by show ds.getD 0 0=d0;rw[List.getD,UR];rfl
   obtain⟨ad,rfl,q1,q2⟩:=hR.load (j:=0) (x:=(d0:Int)) (by rw[eM,aL,UR];rfl);refine⟨ad,rfl,by omega,.int .i64 (d0:Int),fun O J r=>?_,?_⟩
   ·show J.cell? (ad.add (0*1))=_;rw[cL (w:=w1) (V:=J) (by rw[dF];exact Rel.same (S:=S) r X (.inl q1))];exact q2
   refine⟨((0+1:Nat):Int),wo,?_⟩;refine dQ.mk ?_ ?_<;>intro G
   ·have G:0+1<ds.length:=by
     have:=aK G;omega
    obtain⟨d1,SL⟩:∃x,ds[0+1]? =some x:=⟨_,aA G⟩
    have hd1b:=hd d1 (aC SL);have Tk:ds.getD (2*0+1) 0=d1:=by show ds.getD (0+1) 0=d1;rw[List.getD,SL];rfl
    obtain⟨_,PI,q3,q4⟩:=hR.load (j:=0+1) (x:=(d1:Int)) (by rw[eM,aL,SL];rfl);injection PI with PI;subst PI;refine⟨((0+1:Nat):Int),wo,ad,rfl,by omega,.int .i64 (d1:Int),fun O J r=>?_,?_⟩
    ·show J.cell? (ad.add ((0+1)*1))=_;rw[cL (w:=w1) (V:=J) (by rw[dF];exact Rel.same (S:=S) r X (.inl q3))];exact q4
    refine⟨((65536*d1:Nat):Int),wo,((d0+65536*d1:Nat):Int),wo,?_⟩;have S5:=ym ds 0;rw[Th,Tk]at S5;generalize d0+65536*d1=dd at*
    have hdd:dd<4294967296:=Lw hd (0+1) dd (by rw[S5];simp);refine⟨(dd:Int),by rw[ye]<;>omega,?_⟩;refine .inl ?_;refine⟨by omega,by unfold maxLen;omega,((2*(0+1):Nat):Int),wo,?_⟩;intro GT w3 E;have hU:E8 (pk ds (0+1))=E8 (pk ds 0)++[.int .u32 (dd:Int)]:=by rw[S5];simp[E8]
    exact⟨(0+1,w3),⟨I.tr E.cU,by dsimp only;omega⟩,Sub.gn [(2,3)] E ⟨by dsimp only;rw[hU];rfl,rfl,rfl,trivial⟩,by dsimp only;omega⟩
   ·have G:0+1=ds.length:=by
     have:=aG G;omega
    have Tk:ds.getD (2*0+1) 0=0:=by show ds.getD (0+1) 0=0;rw[List.getD,List.getElem?_eq_none (by omega)];rfl
    have S5:=ym ds 0;rw[Th,Tk]at S5;obtain⟨dd,hdde⟩:∃dd,dd=d0:=⟨_,rfl⟩
    rw[<-hdde]at S5 ⊢;have hdd:dd<4294967296:=by omega
    rw[show dd+65536*0=dd by omega]at S5;refine⟨(dd:Int),by rw[ye]<;>omega,?_⟩;refine .inl ?_;refine⟨by omega,by unfold maxLen;omega,((2*(0+1):Nat):Int),wo,?_⟩;intro GT w3 E;have hU:E8 (pk ds (0+1))=E8 (pk ds 0)++[.int .u32 (dd:Int)]:=by rw[S5];simp[E8]
    exact⟨(0+1,w3),⟨I.tr E.cU,by dsimp only;omega⟩,Sub.gn [(2,3)] E ⟨by dsimp only;rw[hU];rfl,rfl,rfl,trivial⟩,by dsimp only;omega⟩
  ·have L:ds=[]:=by
    have:=aG L;exact List.eq_nil_of_length_eq_zero (by omega)
   subst L;refine⟨World,fun z=>⟨[(2,pP 0 0),(3,pP 1 0),(6,iZ 0)],[(1,.box T.Int [.v (.bool false),.v (.slice none 0 0)]),(0,.box T.Int [.v (.bool false),.v (.slice none 0 0)])],2,[],z⟩,fun _=>0,fun z=>dw w.heap.size w z,?_,?_⟩
   ·intro O J r;exact⟨J,I.tr r.cU,Sub.gn [] r⟩
   intro V I;dsimp only at I ⊢;refine⟨⟨by decide,by decide,by decide⟩,none,0,0,by rfl,by rfl,by rfl,?_⟩;exact rtn I fun IR we re=>⟨_,rfl,dT.nil _ _⟩
 |succ k=>
  refine dQ.mk ?_ ?_<;>intro L
  ·have L:(2*(k+1))<ds.length:=by
    have:=aK L;omega
   obtain⟨d0,UR⟩:∃x,ds[(2*(k+1))]? =some x:=⟨_,aA L⟩
   have hd0b:=hd d0 (aC UR);have Th:ds.getD (2*(k+1)) 0=d0:=by show ds.getD (2*(k+1)) 0=d0;rw[List.getD,UR];rfl
   obtain⟨ad,rfl,q1,q2⟩:=hR.load (j:=(2*(k+1))) (x:=(d0:Int)) (by rw[eM,aL,UR];rfl);refine⟨ad,rfl,by omega,.int .i64 (d0:Int),fun O J r=>?_,?_⟩
   ·show J.cell? (ad.add ((2*(k+1))*1))=_;rw[cL (w:=w1) (V:=J) (by rw[dF];exact Rel.same (S:=S) r X (.inl q1))];exact q2
   refine⟨(((2*(k+1))+1:Nat):Int),wo,?_⟩;refine dQ.mk ?_ ?_<;>intro G
   ·have G:(2*(k+1))+1<ds.length:=by
     have:=aK G;omega
    obtain⟨d1,SL⟩:∃x,ds[(2*(k+1))+1]? =some x:=⟨_,aA G⟩
    have hd1b:=hd d1 (aC SL);have Tk:ds.getD (2*(k+1)+1) 0=d1:=by show ds.getD ((2*(k+1))+1) 0=d1;rw[List.getD,SL];rfl
    obtain⟨_,PI,q3,q4⟩:=hR.load (j:=(2*(k+1))+1) (x:=(d1:Int)) (by rw[eM,aL,SL];rfl);injection PI with PI;subst PI;refine⟨(((2*(k+1))+1:Nat):Int),wo,ad,rfl,by omega,.int .i64 (d1:Int),fun O J r=>?_,?_⟩
    ·show J.cell? (ad.add (((2*(k+1))+1)*1))=_;rw[cL (w:=w1) (V:=J) (by rw[dF];exact Rel.same (S:=S) r X (.inl q3))];exact q4
    refine⟨((65536*d1:Nat):Int),wo,((d0+65536*d1:Nat):Int),wo,?_⟩;have S5:=ym ds (k+1);rw[Th,Tk]at S5;generalize d0+65536*d1=dd at*
    have hdd:dd<4294967296:=Lw hd ((k+1)+1) dd (by rw[S5];simp);refine⟨(dd:Int),by rw[ye]<;>omega,?_⟩;refine .inl ?_;refine⟨by rw[gW,wF];omega,by omega,by unfold maxLen;omega,((2*((k+1)+1):Nat):Int),wo,?_⟩;intro GT w3 E;have hU:E8 (pk ds ((k+1)+1))=E8 (pk ds (k+1))++[.int .u32 (dd:Int)]:=by rw[S5];simp[E8]
    exact⟨((k+1)+1,w3),⟨I.tr E.cU,by dsimp only;omega⟩,Sub.gn [(2,4)] E ⟨by dsimp only;rw[hU];rfl,rfl,rfl,trivial⟩,by dsimp only;omega⟩
   ·have G:(2*(k+1))+1=ds.length:=by
     have:=aG G;omega
    have Tk:ds.getD (2*(k+1)+1) 0=0:=by show ds.getD ((2*(k+1))+1) 0=0;rw[List.getD,List.getElem?_eq_none (by omega)];rfl
    have S5:=ym ds (k+1);rw[Th,Tk]at S5;obtain⟨dd,hdde⟩:∃dd,dd=d0:=⟨_,rfl⟩
    rw[<-hdde]at S5 ⊢;have hdd:dd<4294967296:=by omega
    rw[show dd+65536*0=dd by omega]at S5;refine⟨(dd:Int),by rw[ye]<;>omega,?_⟩;refine .inl ?_;refine⟨by rw[gW,wF];omega,by omega,by unfold maxLen;omega,((2*((k+1)+1):Nat):Int),wo,?_⟩;intro GT w3 E;have hU:E8 (pk ds ((k+1)+1))=E8 (pk ds (k+1))++[.int .u32 (dd:Int)]:=by rw[S5];simp[E8]
    exact⟨((k+1)+1,w3),⟨I.tr E.cU,by dsimp only;omega⟩,Sub.gn [(2,4)] E ⟨by dsimp only;rw[hU];rfl,rfl,rfl,trivial⟩,by dsimp only;omega⟩
  ·have L:ds.length<=2*(k+1):=by
    have:=aG L;omega
   have D:k+1=(ds.length+1) / 2:=by omega
   have S5:pk ds (k+1)=iH ds:=by rw[D];exact Lv ds
   have hlen:=wF ds (k+1);have QG:=Lw hd (k+1);rw[<-S5];obtain⟨ls,hls⟩:∃ls,ls=pk ds (k+1):=⟨_,rfl⟩
   rw[<-hls]at hlen QG ⊢
   refine⟨by show(E8 (pk ds (k+1))).length=_;rw[<-hls,gW,hlen];simp,Nat×World,fun z=>⟨[(2,pP 0 0),(3,pP 1 0),(6,iZ z.1)],[(2,.vec T.uint32 1 (E8 ls)),(1,.box T.Int [.v (.bool false),.w 2 (k+1)]),(0,.box T.Int [.v (.bool false),.v (.slice none 0 0)])],3,[],z.2⟩,fun z=>z.1,
    fun z=>dw w.heap.size w z.2/\z.1<=k+1/\eC (ls.take z.1)=eC ls,?_,?_⟩
   ·intro O J r;exact⟨(k+1,J),⟨I.tr r.cU,Nat.le_refl _,by dsimp only;rw[List.take_of_length_le (by omega)]⟩,Sub.gn [] r ⟨by dsimp only;rw[hls];rfl,rfl,rfl,trivial⟩⟩
   rintro⟨n,V⟩ ⟨I,R,htr⟩;dsimp only at I R htr ⊢
   cases n with
   |zero=>
    refine⟨by rw[gW,hlen];simp,⟨by omega,by omega⟩,0,by rfl,?_⟩;intro IR we re;refine⟨_,rfl,I.tr re.cU,_,rfl,?_⟩;have:=re.Mt (id:=2) (m:=0) rfl (aQ _) QG (by omega);rw[<-htr];exact this.cN fun g Y=>.inr Y
   |succ n=>
    obtain⟨x,F⟩:∃x,ls[n]? =some x:=⟨_,aA (by omega)⟩
    refine dQ.mk (fun hp=>?_) (fun hp=>absurd (aG hp) (by omega));refine⟨(n:Int),wo,by rw[gW,hlen];simp,by omega,.int .u32 (x:Int),by simpa using uo F,?_⟩;refine dQ.mk ?_ ?_<;>intro h0
    ·have h0:x=0:=by have:=eq_of_beq h0;omega
     subst h0;refine⟨(n:Int),wo,?_⟩;intro GT w3 E;exact⟨(n,w3),⟨I.tr E.cU,by dsimp only;omega,by dsimp only;rw[<-htr,Hw (by omega) F]⟩,Sub.gn [] E,by dsimp only;omega⟩
    ·have h0:x≠0:=fun e=>by rw[e]at h0;exact absurd h0 (by decide)
     refine⟨by rw[gW,hlen];simp,⟨by omega,by omega⟩,n+1,by rfl,?_⟩;intro IR we re;refine⟨_,rfl,I.tr re.cU,_,rfl,?_⟩;have:=re.Mt (id:=2) (m:=n+1) rfl (by omega) QG (by omega);rw[<-htr,Hx F h0];exact this.cN fun g Y=>.inr Y
end Go.Ex
