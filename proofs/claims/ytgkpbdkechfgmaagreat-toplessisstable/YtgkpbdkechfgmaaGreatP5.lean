/- Texts X24 to X45: lemmas, each with its conditions. -/
import Derived.Test.YtgkpbdkechfgmaaGreatP4
namespace Go.Ex
open Go Go.Sx Go.Proofs
end Go.Ex
namespace Go.Sx
open Go Go.Ex Go.Proofs
variable{O:Nat->Sx.dL}
theorem Rel.DG{H:Hp}{nx:Nat}{iv:Iv}{B:Nat}{w J:World}(r:Rel H nx iv B w O J){id t sz n:Nat}{U:List At}(h:cV H id=some (.box t U))(hl:U.length=n*sz)(Z:n<=maxLen)(I:∀u∈U,(u.den O).oneCell'=true):
  iu J (fun g=>g=(O id).g) sz (.slice (some ⟨(O id).g,0,none⟩) n n) (U.map (At.den O)) n:=by
 refine⟨Z,by simpa using hl,fun u hu=>?_,_,_,rfl,Nat.le_refl _,fun j u hu=>⟨_,rfl,rfl,?_⟩⟩
 ·obtain⟨x,L,rfl⟩:=aR.1 hu;exact I x L
 ·have h0:(⟨(O id).g,0,none⟩:Addr).add j=⟨(O id).g,j,none⟩:=by
   cases j with
   |zero=>rfl
   |succ j=>simp[Addr.add]
  rw[h0,cell_of (r.box id t _ h)];exact hu
end Go.Sx
namespace Go.Ex
open Go Go.Sx Go.Proofs
end Go.Ex
namespace Go.Sx
open Go Go.Ex Go.Proofs
variable{U:List Value}{O:Nat->Sx.dL}
theorem Rel.AD{H:Hp}{nx:Nat}{iv:Iv}{B:Nat}{w J:World}(r:Rel H nx iv B w O J){id t sz n:Nat}(h:cV H id=some (.arr t U))(hl:U.length=n*sz)(Z:n<=maxLen)(I:∀u∈U,u.oneCell'=true):
  iu J (fun g=>g=(O id).g) sz (.slice (some ⟨(O id).g,0,none⟩) n n) U n:=by
 refine⟨Z,hl,I,_,_,rfl,Nat.le_refl _,fun j u hu=>⟨_,rfl,rfl,?_⟩⟩;have h0:(⟨(O id).g,0,none⟩:Addr).add j=⟨(O id).g,j,none⟩:=by
  cases j with
  |zero=>rfl
  |succ j=>simp[Addr.add]
 rw[h0,cell_of (r.arr id t _ h)];exact hu
end Go.Sx
namespace Go.Ex
open Go Go.Sx Go.Proofs
theorem LI{n:Nat}(h:n<=9223372036854775807):IntKind.i64.wrap (n:Int)=n:=by rw[wrap64]<;>omega
theorem M7{t b:Nat}(h:t<=9223372036854775807):IntKind.i64.wrap ((t:Int).tdiv (b:Int))=((t / b:Nat):Int):=by
 have I:=Nat.div_le_self t b;rw[Int.tdiv_eq_ediv_of_nonneg (by omega),<-Int.natCast_ediv];exact LI (by omega)
end Go.Ex
namespace Go.Ex
open Go Go.Sx Go.Proofs
def Gf:Value:=.agg #[.bool false,.slice none 0 0,.bool false,.slice none 0 0]
theorem uU{n:Int}(I: -9223372036854775808<=n)(X:n<=9223372036854775807):ln n.natAbs<=2:=gD.2 (by show n.natAbs<4294967296^2;omega)
end Go.Ex
namespace Go.Sx
open Go Go.Ex Go.Proofs
variable{U:List Value}{O:Nat->Sx.dL}
theorem Rel.kQ{H:Hp}{nx:Nat}{iv:Iv}{B:Nat}{w J:World}(r:Rel H nx iv B w O J){id t m sz:Nat}(h:cV H id=some (.vec t sz U))(hm:U.length=m*sz)(Sh:m<=maxLen)(hs:0<sz)(I:∀u∈U,u.oneCell'=true):
  iu J (fun g=>B<=g/\g<J.heap.size) sz ((At.w id m).den O) U m:=by
 rcases r.vec id t sz _ h with⟨Z,rfl⟩|⟨Z,spare,hb,hc,QF⟩
 ·have Ut:m=0:=by
   rcases bJ m with h|h
   ·exact h
   ·have:=Nat.mul_pos h hs;simp at hm;omega
  subst Ut;refine⟨Sh,by simp,by simp,none,0,by simp[At.den,Z],Nat.le_refl _,by simp⟩
 ·refine⟨Sh,hm,I,some ⟨(O id).g,0,none⟩,(O id).cap,by simp[At.den,Z],?_,fun j x L=>⟨_,rfl,r.low id _ h Z,?_⟩⟩
  ·have I:(U++spare).length=U.length+spare.length:=List.length_append;have X:m*sz<=(O id).cap*sz:=by omega
   exact Nat.le_of_mul_le_mul_right X hs
  ·rw[dA,cell_of hb,aV,aJ (aD.1 L).1];exact L
end Go.Sx
namespace Go.Ex
open Go Go.Sx Go.Proofs
end Go.Ex
namespace Go.Ex
open Go Go.Sx Go.Proofs
variable{A:List (List Value)}{qs:List Rat}{U xs:List Value}{i j n:Nat}{C S:Nat->Prop}{O:Nat->Sx.dL}{row:Option Nat}{q:Rat}{v:Value}{w:World}
def signed:Bool->ByteArray->ByteArray
 |true,s=>⟨#[45]⟩++s
 |false,s=>s
def mP(w:World)(S:Nat->Prop)(U:List Value)(q:Rat):Prop:=∃b a n c b2 a2 n2 c2,U=[.bool b,.slice a n c,.bool b2,.slice a2 n2 c2]/\cP w S (.agg #[.bool b,.slice a n c,.bool b2,.slice a2 n2 c2]) q
def Fr(w:World)(S:Nat->Prop)(A:List (List Value))(qs:List Rat):Prop:=A.length=qs.length/\∀(j:Nat) U q,A[j]? =some U->qs[j]? =some q->mP w S U q
section
variable{S S':Nat->Prop}{w V:World}{U:List Value}{A:List (List Value)}{q:Rat}{qs:List Rat}
theorem mP.cC(h:mP w S U q)(R:∀g,S g->V.heap[g]? =w.heap[g]?):mP V S U q:=by
 obtain⟨b,a,n,c,b2,a2,n2,c2,I,X⟩:=h;exact⟨b,a,n,c,b2,a2,n2,c2,I,X.cC R⟩
theorem mP.cF(h:mP w S U q)(R:∀g,S g->S' g):mP w S' U q:=by
 obtain⟨b,a,n,c,b2,a2,n2,c2,I,X⟩:=h;exact⟨b,a,n,c,b2,a2,n2,c2,I,X.cF R⟩
theorem mP.len(h:mP w S U q):U.length=4:=by obtain⟨_,_,_,_,_,_,_,_,rfl,_⟩:=h;rfl
theorem cP.four{b b2:Bool}{a a2:Option Addr}{c n2 c2:Nat}(h:cP w S (.agg #[.bool b,.slice a n c,.bool b2,.slice a2 n2 c2]) q):mP w S [.bool b,.slice a n c,.bool b2,.slice a2 n2 c2] q:=⟨_,_,_,_,_,_,_,_,rfl,h⟩
theorem Fr.cC(h:Fr w S A qs)(R:∀g,S g->V.heap[g]? =w.heap[g]?):Fr V S A qs:=⟨h.1,fun j U q I X=>(h.2 j U q I X).cC R⟩
theorem Fr.cF(h:Fr w S A qs)(R:∀g,S g->S' g):Fr w S' A qs:=⟨h.1,fun j U q I X=>(h.2 j U q I X).cF R⟩
theorem Fr.nH(h:Fr w S A qs):∀U∈A,U.length=4:=fun U hc=>by
 obtain⟨j,hj⟩:=aQ hc;have hl:=(aD.1 hj).1;exact(h.2 j U _ hj (aB (by rw[<-h.1];exact hl))).len
theorem Fr.one(h:Fr w S A qs):∀u∈A.flatten,u.oneCell'=true:=fun u hu=>by
 obtain⟨U,hc,hu⟩:=List.mem_flatten.1 hu;obtain⟨j,hj⟩:=aQ hc;have hl:=(aD.1 hj).1;obtain⟨_,_,_,_,_,_,_,_,rfl,_⟩:=h.2 j U _ hj (aB (by rw[<-h.1];exact hl));simp at hu;rcases hu with rfl|rfl|rfl|rfl<;>rfl
theorem Fr.set(h:Fr w S A qs)(hq:mP w S U q):Fr w S (A.set j U) (qs.set j q):=by
 refine⟨by simp[h.1],fun i c p I X=>?_⟩;by_cases PH:j=i
 ·subst PH;have hl:=(aD.1 I).1;rw[aO (by simpa using hl)]at I;rw[aO (by have:=h.1;simp at hl;omega)]at X;injection I with I;injection X with X;subst I X;exact hq
 ·rw[aT PH]at I X;exact h.2 i c p I X
end
section
variable{S S':Nat->Prop}{H:Hp}{nx:Nat}{iv E:Iv}{B:Nat}{w J V:World}{O:Nat->Sx.dL}{A:List (List Value)}{qs:List Rat}
theorem Fr.rel(h:Fr w (Cv S B iv) A qs)(r:Rel H nx iv B w O J)(F:∀g,S g->g<B):Fr J (Cv S B iv) A qs:=h.cC fun _ G=>Rel.same r F G
theorem Fr.cD(h:Fr w (Cv S B iv) A qs)(r:Rel H nx iv B w O J)(F:∀g,S g->g<B)(W:Ext J V)(hm:∀p,p∈iv->p∈E):Fr V (Cv S B E) A qs:=
 ((h.rel r F).cC fun g G=>W.block g (Rel.old r F g G)).cF fun _ G=>G.mono hm
theorem Fr.arg(h:Fr w S A qs)(iv:Iv):Fr w (Cv S w.heap.size iv) A qs:=h.cF fun _ h=>.inl h
end
theorem eo:∀{A:List (List Value)},(∀U∈A,U.length=4)->A.flatten.length=A.length*4
 |[],_=>rfl
 |c::r,h=>by
  rw[List.flatten_cons,List.length_append,eo (fun U hc=>h U (aC _ hc)),h c aG,List.length_cons];omega
theorem flat_get:∀{A:List (List Value)} {j:Nat} {U:List Value},(∀U∈A,U.length=4)->A[j]? =some U->∀k u,U[k]? =some u->A.flatten[j*4+k]? =some u
 |[],j,U,_,hj,_,_,_=>by simp at hj
 |c::r,0,U,h,hj,k,u,hu=>by
  simp at hj;subst hj;rw[List.flatten_cons,aJ (by have:=(aD.1 hu).1;omega)];simpa using hu
 |c::r,j+1,U,h,hj,k,u,hu=>by
  have hc:=h c aG;rw[List.flatten_cons,aN (by omega),hc,show(j+1)*4+k-4=j*4+k by omega];exact flat_get (fun U hc=>h U (aC _ hc)) (by simpa using hj) k u hu
theorem jI:∀{A:List (List Value)} {j:Nat} {U:List Value},(∀U∈A,U.length=4)->j<A.length->A.flatten.take (j*4)++U++A.flatten.drop (j*4+4)=(A.set j U).flatten
 |[],j,U,_,hj=>by simp at hj
 |c::r,0,U,h,_=>by
  have hc:=h c aG;simp[List.flatten_cons,hc]
 |c::r,j+1,U,h,hj=>by
  have hc:=h c aG
  rw[List.flatten_cons,show(j+1)*4=c.length+j*4 by omega,List.take_length_add_append,show c.length+j*4+4=c.length+(j*4+4) by omega,List.drop_length_add_append,List.set_cons_succ,List.flatten_cons,
   <-jI (fun U hc=>h U (aC _ hc)) (by simpa using hj),bf,bf,bf]
abbrev Out(B:Nat)(iv:Iv):Nat->Prop:=Cv (fun g=>g<B) B iv
theorem gg{H:Hp}{nx:Nat}{iv:Iv}{B Bc e sz m:Nat}{J:World}(h:w.ownsRow Bc e sz v m xs)(hc:∀g,v.ownBlock=some g->Out B iv g)(r:Rel H nx iv B w O J):J.ownsRow Bc e sz v m xs:=
 ownsRow.cC h fun b hb=>Rel.same r (fun _ h=>h) (hc b hb)
theorem AG{a:Option Addr}{c:Nat}(h:w.ownsRow 0 T.dK 4 (.slice a n c) n A.flatten)(hf:Fr w S A qs)(hj:A[j]? =some U):
  ∃g,a=some ⟨g,0,none⟩/\∀k u,U[k]? =some u->w.cell? ((Addr.add ⟨g,0,none⟩ (j*4)).add k)=some u:=by
 rcases h.2 with⟨I,h0⟩|⟨g,cap,cur,RJ,_⟩
 ·have:=h.1;rw[eo hf.nH]at this;have:=(aD.1 hj).1;omega
 ·injection RJ with I X N;subst I;refine⟨g,rfl,fun k u hu=>?_⟩;have:=h.cells (g:=g) rfl (j*4+k) u (flat_get hf.nH hj k u hu);rw[dA,dA];rw[dA]at this;rw[Nat.add_assoc];exact this
theorem M8:PG.underlying T.row=some (.slice T.dK):=(hτ T.row _ rfl).i4 rfl
theorem dW{w1 V:World}(h:w.grownBy w1 row)(k:dT w.heap.size w1 V):w.grownBy V row:=
 ⟨k.os.trans h.os,k.tape.trans h.tape,k.output.trans h.output,aW h.size k.size,fun b hb Z=>(k.block b hb).trans (h.block b hb Z)⟩
def gb(i:Nat)(f:Nat->Rat->Rat)(qs:List Rat):List Rat:=qs.mapIdx fun j q=>if j<i then f j q else q
theorem oP(f:Nat->Rat->Rat)(qs:List Rat):gb 0 f qs=qs:=by
 apply bG;intro j;simp[gb]
theorem qq(f:Nat->Rat->Rat)(qs:List Rat):gb qs.length f qs=qs.mapIdx f:=by
 apply bG;intro j;simp only[gb,List.getElem?_mapIdx]
 cases h:qs[j]? with
 |none=>rfl
 |some q=>simp[(aD.1 h).1]
theorem lO{f:Nat->Rat->Rat}(h:qs[i]? =some q):(gb i f qs).set i (f i q)=gb (i+1) f qs:=by
 apply bG;intro j;have D:=(aD.1 h).1;by_cases PH:i=j
 ·subst PH;rw[aO (by simp[gb];exact D)];simp[gb,List.getElem?_mapIdx,h]
 ·rw[aT PH];simp only[gb,List.getElem?_mapIdx]
  have:(j<i)↔(j<i+1):=by omega
  simp[this]
theorem zn{f:Nat->Rat->Rat}(h:qs[i]? =some q)(hf:f i q=q):gb i f qs=gb (i+1) f qs:=by
 rw[<-lO h,hf];apply bG;intro j;have D:=(aD.1 h).1;by_cases PH:i=j
 ·subst PH;rw[aO (by simp[gb];exact D)];simp[gb,List.getElem?_mapIdx,h]
 ·rw[aT PH]
theorem uL{f:Nat->Rat->Rat}(h:qs[i]? =some q):(gb i f qs)[i]? =some q:=by
 simp only[gb,List.getElem?_mapIdx,h]
 simp
def gj(w:World)(C S:Nat->Prop)(v:Value)(qs:List Rat):Prop:=∃A,iu w C 4 v A.flatten qs.length/\Fr w S A qs
section
variable{C C' S S':Nat->Prop}{H:Hp}{nx:Nat}{iv E:Iv}{B:Nat}{w J V:World}{O:Nat->Sx.dL}{v:Value}{qs:List Rat}
theorem gj.cC(h:gj w C S v qs)(R:∀g,C g\/S g->V.heap[g]? =w.heap[g]?):gj V C S v qs:=by
 obtain⟨A,I,X⟩:=h;exact⟨A,I.cC fun g G=>R g (.inl G),X.cC fun g G=>R g (.inr G)⟩
theorem gj.cF(h:gj w C S v qs)(R:∀g,C g->C' g)(UX:∀g,S g->S' g):gj w C' S' v qs:=by
 obtain⟨A,I,X⟩:=h;exact⟨A,I.cF R,X.cF UX⟩
theorem gj.rel(h:gj w (Cv C B iv) (Cv S B iv) v qs)(r:Rel H nx iv B w O J)(hC:∀g,C g->g<B)(F:∀g,S g->g<B):gj J (Cv C B iv) (Cv S B iv) v qs:=
 h.cC fun _ G=>G.elim (Rel.same r hC) (Rel.same r F)
theorem gj.cD(h:gj w (Cv C B iv) (Cv S B iv) v qs)(r:Rel H nx iv B w O J)(hC:∀g,C g->g<B)(F:∀g,S g->g<B)(W:Ext J V)(hm:∀p,p∈iv->p∈E):gj V (Cv C B E) (Cv S B E) v qs:=
 ((h.rel r hC F).cC fun g G=>W.block g (G.elim (Rel.old r hC g) (Rel.old r F g))).cF (fun _ G=>G.mono hm) (fun _ G=>G.mono hm)
theorem gj.arg(h:gj w C S v qs)(iv:Iv):gj w (Cv C w.heap.size iv) (Cv S w.heap.size iv) v qs:=h.cF (fun _ h=>.inl h) (fun _ h=>.inl h)
end
theorem gj.shape(h:gj w C S v qs):∃a c,v= .slice a qs.length c/\qs.length<=c/\qs.length<=maxLen:=by
 obtain⟨A,⟨h0,_,_,a,c,I,X,_⟩,_⟩:=h;exact⟨a,c,I,X,h0⟩
theorem gj.load{a:Option Addr}{c:Nat}(h:gj w C S (.slice a n c) qs)(hq:qs[j]? =some q):
  ∃ad U,a=some ad/\mP w S U q/\∀k u,U[k]? =some u->C ad.block/\w.cell? ((ad.add (j*4)).add k)=some u:=by
 obtain⟨A,⟨h0,I,X,a',c',e,N,h4⟩,hf⟩:=h;injection e with e1 e2 e3;subst e1;obtain⟨U,Ok⟩:∃U,A[j]? =some U:=⟨_,aB (by rw[hf.1];exact(aD.1 hq).1)⟩
 have hF:=hf.2 j U q Ok hq;have hl:=hF.len;obtain⟨ad,k1,k2,k3⟩:=h4 (j*4+0) _ (flat_get hf.nH Ok 0 _ (aB (show 0<U.length by omega)));refine⟨ad,U,k1,hF,fun k u hu=>?_⟩;obtain⟨ad2,m1,m2,m3⟩:=h4 (j*4+k) u (flat_get hf.nH Ok k u hu);rw[k1]at m1;injection m1 with m1;subst m1;refine⟨m2,?_⟩;rw[<-m3];have:(ad.add (j*4)).add k=ad.add (j*4+k):=by
  unfold Addr.add;split<;>split<;>simp_all<;>omega
 rw[this]
def qP(p:Rat)(ps:List Rat)(j:Nat)(q:Rat):Rat:=q+p*ps.getD j 0
theorem Ez(ps qs:List Rat):qs.mapIdx (qP 0 ps)=qs:=by
 apply bG;intro j;rw[List.getElem?_mapIdx]
 cases qs[j]? with
 |none=>rfl
 |some q=>exact congrArg some (by rw[qP,bC,bD])
theorem Eb{vby vs:Value}{ps:List Rat}{p:Rat}(hC:Old C w)(F:Old S w)(OR:w.ownsRow 0 T.dK 4 v n A.flatten)(Pb:Fr w S A qs)(PZ:A.length=n)(Oq:cP w S vby p)
  (hs:gj w C S vs ps) (Pj:ps.length=n) (hdis:∀g,v.ownBlock=some g->¬S g) (Tt:∀g,v.ownBlock=some g->¬C g) (hq:∀q∈qs,rl q<=2000000000) (hps:∀q∈ps,rl q<=2000000000) (hb:rl p<=2000000000):
  dx PG F'.me #[v,vby,vs] w (fun e V=>e= .returned (.tuple #[])/\w.grownBy V v.ownBlock/\∃css',V.ownsRow 0 T.dK 4 v n css'.flatten/\css'.length=n/\Fr V (Nw S w V) css' (qs.mapIdx (qP p ps))):=by
 have Od:∀g,v.ownBlock=some g->g<w.heap.size:=fun g G=>(ownsRow.low OR g G).2;have PL:∀iv g,v.ownBlock=some g->Out w.heap.size iv g:=fun iv g G=>.inl (Od g G);have Uu:∀iv g,v.ownBlock=some g->¬Cv S w.heap.size iv g:=fun iv g G h=>by
  rcases h with h|⟨h,_⟩
  ·exact hdis g G h
  ·have:=Od g G;omega
 have Uv:∀iv g,v.ownBlock=some g->¬Cv C w.heap.size iv g:=fun iv g G h=>by
  rcases h with h|⟨h,_⟩
  ·exact Tt g G h
  ·have:=Od g G;omega
 have SB:qs.length=n:=by rw[<-Pb.1,PZ]
 obtain⟨a,c,rfl,Ti⟩:=ig OR;obtain⟨b1,a1,n1,c1,b2,a2,n2,c2,rfl⟩:=Oq.shape;obtain⟨asl,cs0,rfl,Rg,UZ⟩:=hs.shape;rw[Pj]at Rg UZ hs ⊢;unfold maxLen at UZ;replace Pb:=Pb.arg [];replace Oq:=Oq.arg [];replace hs:=hs.arg [];refine vP (by simp) ?_;conv=>whnf
 refine cB (cG (Id:=fun _ _ v _=>v= .int .i64 (rs p)) (fun O J r=>qp (Rel.old r F) (Oq.rel r F)) ?_);rintro O wa v1 wb r W QL rfl;replace Oq:=Oq.cD (E:=(wa.heap.size,wb.heap.size)::[]) r F W fun x L=>aC _ L;replace Pb:=Pb.cD (E:=(wa.heap.size,wb.heap.size)::[]) r F W fun x L=>aC _ L;replace hs:=hs.cD (E:=(wa.heap.size,wb.heap.size)::[]) r hC F W fun x L=>aC _ L;have Pc:wb.ownsRow 0 T.dK 4 (.slice a n c) n A.flatten:=ownsRow.cC (gg OR (PL []) r) fun b hb=>W.block b (by have:=Od b hb;have:=r.bz;omega);have G:w.grownBy wb (Value.slice a n c).ownBlock:=qG QL;clear r W QL OR;generalize (wa.heap.size,wb.heap.size)::[]=iv at*
 conv=>whnf
 refine dB.mk ?_ ?_<;>intro h0
 ·have h0:p=0:=by
   have:rs p=0:=eq_of_beq h0;exact Rat.num_eq_zero.1 (bu.1 this)
  conv=>whnf
  intro If w5 r5;refine⟨rfl,dW G r5.cL,A,gg Pc (PL iv) r5,PZ,?_⟩;have:=(Pb.rel r5 F).cF (S':=Nw S w w5) fun g G=>Cv.nw G r5;rw[h0,Ez];exact this
 clear h0;conv=>whnf
 refine⟨Nat×List (List Value)×Iv×World,fun z=>⟨[(0,sV a n c),(4,pP 0 0),(11,sV asl n cs0),(12,iZ n),(13,iZ z.1)],
   [(0,.box T.dK [.v (.bool b1),.v (.slice a1 n1 c1),.v (.bool b2),.v (.slice a2 n2 c2)])],1,z.2.2.1,z.2.2.2⟩,fun z=>n-z.1,
  fun z=>z.1<=n/\w.grownBy z.2.2.2 (Value.slice a n c).ownBlock/\z.2.2.2.ownsRow 0 T.dK 4 (.slice a n c) n z.2.1.flatten/\z.2.1.length=n/\Fr z.2.2.2 (Cv S w.heap.size z.2.2.1) z.2.1 (gb z.1 (qP p ps) qs)/\
   cP z.2.2.2 (Cv S w.heap.size z.2.2.1) (.agg #[.bool b1,.slice a1 n1 c1,.bool b2,.slice a2 n2 c2]) p/\gj z.2.2.2 (Cv C w.heap.size z.2.2.1) (Cv S w.heap.size z.2.2.1) (.slice asl n cs0) ps,?_,?_⟩
 ·intro O J r
  refine⟨(0,A,iv,J),⟨by simp,dW G r.cL,gg Pc (PL iv) r,PZ,by rw[oP];exact Pb.rel r F,Oq.rel r F,hs.rel r hC F⟩,
   Sub.gn [] r⟩
 clear Pc Pb Oq PZ hs G;rintro⟨i,A,iv,w1⟩ ⟨D,G,OR,PZ,Pb,Oq,hs⟩;dsimp only at D G OR PZ Pb Oq hs ⊢;conv=>whnf
 refine dB.mk ?_ ?_<;>intro h
 ·have h:i<n:=by simpa using h
  obtain⟨U,Ok⟩:∃U,A[i]? =some U:=⟨_,aB (by omega)⟩
  obtain⟨q,WB⟩:∃q,qs[i]? =some q:=⟨_,aB (by omega)⟩
  obtain⟨f,TG⟩:∃f,ps[i]? =some f:=⟨_,aB (by omega)⟩
  have hF:=Pb.2 i U q Ok (uL WB);have TW:qP p ps i q=q+p*f:=by simp[qP,List.getD,TG]
  obtain⟨d1,e1,m1,k1,d2,e2,m2,k2,rfl,hF⟩:=hF;have hrlq:=hq q (aE WB);have hrlf:=hps f (aE TG);obtain⟨ad,fcs,Om,Tv,Ot⟩:=hs.load TG;obtain⟨f1,g1,o1,u1,f2,g2,o2,u2,rfl,Tv⟩:=Tv;conv=>whnf
  refine⟨ad,Om,by omega,?_⟩;conv=>whnf
  refine⟨[.bool f1,.slice g1 o1 u1,.bool f2,.slice g2 o2 u2],rfl,fun O J r j x L=>?_,?_⟩
  ·have Q6:=hs.rel r hC F;obtain⟨k2',k3⟩:=Ot j x L;have:=Rel.same r hC k2';rw[aF,cJ (w:=w1) (V:=J) (by rw[c9,c9];exact this)];exact k3
  conv=>whnf
  refine cB (cG (Id:=fun _ _ v _=>v= .int .i64 (rs f)) (fun O J r=>qp (Rel.old r F) (Tv.rel r F)) ?_);rintro O wa v1 wb r W QL rfl;replace Oq:=Oq.cD (E:=(wa.heap.size,wb.heap.size)::iv) r F W fun x L=>aC _ L;replace Pb:=Pb.cD (E:=(wa.heap.size,wb.heap.size)::iv) r F W fun x L=>aC _ L;replace hs:=hs.cD (E:=(wa.heap.size,wb.heap.size)::iv) r hC F W fun x L=>aC _ L;replace Tv:=Tv.cD (E:=(wa.heap.size,wb.heap.size)::iv) r F W fun x L=>aC _ L;replace hF:=hF.cD (E:=(wa.heap.size,wb.heap.size)::iv) r F W fun x L=>aC _ L;replace OR:wb.ownsRow 0 T.dK 4 (.slice a n c) n A.flatten:=ownsRow.cC (gg OR (PL iv) r) fun b hb=>W.block b (by have:=Od b hb;have:=r.bz;omega);replace G:w.grownBy wb _:=dW G QL;clear r W QL Ot;generalize (wa.heap.size,wb.heap.size)::iv=OU at*
  conv=>whnf
  refine dB.mk ?_ ?_<;>intro hz
  ·conv=>whnf
   refine cI hτ dN [.x 0,.x 1,.x 2,.x 3,.x 4,.x 5,.x 6,.x 7,.x 8,.x 9,.x 10,.x 11] (by kernel_rfl) (by kernel_rfl) ?_;conv=>whnf
   obtain⟨g,rfl,Oo⟩:=AG OR Pb Ok;refine⟨⟨g,0,none⟩,rfl,by omega,?_⟩;conv=>whnf
   refine⟨[.bool d1,.slice e1 m1 k1,.bool d2,.slice e2 m2 k2],rfl,fun O J r j x L=>?_,?_⟩
   ·have:=AG (gg OR (PL OU) r) (Pb.rel r F) Ok;obtain⟨g',I,X⟩:=this;injection I with I;rw[<-I]at X;exact X j x L
   conv=>whnf
   have QT:=hJ p f;refine cG (Id:=fun _ J v V=>cP V (Nf J V) v (p*f)) (fun O J r=>qF (Rel.old r F) (Oq.rel r F) (Tv.rel r F) (by omega) (by omega)) ?_;rintro O wa v1 wb r W QL hP;have hPN:=hP.dD (S:=S) r.bz (iv:=(wa.heap.size,wb.heap.size)::OU) aG;replace Oq:=Oq.cD (E:=(wa.heap.size,wb.heap.size)::OU) r F W fun x L=>aC _ L;replace Pb:=Pb.cD (E:=(wa.heap.size,wb.heap.size)::OU) r F W fun x L=>aC _ L;replace hs:=hs.cD (E:=(wa.heap.size,wb.heap.size)::OU) r hC F W fun x L=>aC _ L;replace hF:=hF.cD (E:=(wa.heap.size,wb.heap.size)::OU) r F W fun x L=>aC _ L;replace OR:wb.ownsRow 0 T.dK 4 (.slice (some ⟨g,0,none⟩) n c) n A.flatten:=ownsRow.cC (gg OR (PL OU) r) fun b hb=>W.block b (by have:=Od b hb;have:=r.bz;omega);replace G:w.grownBy wb _:=dW G QL;clear r W QL hP Tv Oo;generalize (wa.heap.size,wb.heap.size)::OU=Oi at*
   obtain⟨b5,a5,n5,c5,b6,a6,n6,c6,rfl⟩:=hPN.shape;conv=>whnf
   refine cG (Id:=fun _ J v V=>cP V (Nf J V) v (q+p*f)) (fun O J r=>DD (Rel.old r F) (hF.rel r F) (hPN.rel r F) (by omega) (by omega)) ?_;rintro O wc v2 wd r W QL hQ;have Wf:=hQ.dD (S:=S) r.bz (iv:=(wc.heap.size,wd.heap.size)::Oi) aG;replace Oq:=Oq.cD (E:=(wc.heap.size,wd.heap.size)::Oi) r F W fun x L=>aC _ L;replace Pb:=Pb.cD (E:=(wc.heap.size,wd.heap.size)::Oi) r F W fun x L=>aC _ L;replace hs:=hs.cD (E:=(wc.heap.size,wd.heap.size)::Oi) r hC F W fun x L=>aC _ L;replace OR:wd.ownsRow 0 T.dK 4 (.slice (some ⟨g,0,none⟩) n c) n A.flatten:=ownsRow.cC (gg OR (PL Oi) r) fun b hb=>W.block b (by have:=Od b hb;have:=r.bz;omega);replace G:w.grownBy wd _:=dW G QL;clear r W QL hQ hPN hF;generalize (wc.heap.size,wd.heap.size)::Oi=Ow at*
   obtain⟨b7,a7,n7,c7,b8,a8,n8,c8,rfl⟩:=Wf.shape;rw[<-TW]at Wf;conv=>whnf
   refine⟨⟨g,0,none⟩,rfl,by omega,?_⟩;conv=>whnf
   intro O J r;have SC:=gg OR (PL Ow) r;have hF5:=(Wf.rel r F).four;obtain⟨g',R6,OV,QA,Oc,Oj⟩:=kA (nv:=[.bool b7,.slice a7 n7 c7,.bool b8,.slice a8 n8 c8]) SC rfl h rfl (by decide);injection R6 with R6;injection R6 with R6;subst R6;have Si:=jI (U:=[.bool b7,.slice a7 n7 c7,.bool b8,.slice a8 n8 c8]) Pb.nH (show i<A.length by omega);rw[Si]at QA;have Pe:∀x,Cv S w.heap.size Ow x->(setCells J ⟨g,i*4,none⟩ [.bool b7,.slice a7 n7 c7,.bool b8,.slice a8 n8 c8]).heap[x]? =J.heap[x]? :=fun x L=>
    Oc.block x (Rel.old r F x L) fun e=>Uu Ow g rfl (by injection e with e;rw[<-e];exact L)
   have Pa:(⟨g,0,none⟩:Addr).add ((i:Int).toNat*4)=⟨g,i*4,none⟩:=by rw[aF,dA,aV]
   have hF6:=((Pb.rel r F).cC Pe).set (j:=i) (hF5.cC Pe);rw[lO (f:=qP p ps) WB]at hF6;have Uw:=(Oq.rel r F).cC Pe;have SN:∀x,Cv C w.heap.size Ow x->(setCells J ⟨g,i*4,none⟩ [.bool b7,.slice a7 n7 c7,.bool b8,.slice a8 n8 c8]).heap[x]? =J.heap[x]? :=fun x L=>
    Oc.block x (Rel.old r hC x L) fun e=>Uv Ow g rfl (by injection e with e;rw[<-e];exact L)
   have hs6:=(hs.rel r hC F).cC fun x L=>L.elim (SN x) (Pe x);clear SN;replace G:w.grownBy (setCells J ⟨g,i*4,none⟩ [.bool b7,.slice a7 n7 c7,.bool b8,.slice a8 n8 c8]) (some g):=fg (dW G r.cL) Oc;have Px:=fun id b hb Z=>Rel.not r (fun _ h=>h) (PL Ow g rfl) id b hb Z;clear r Pb Oq Wf OR SC hF5 Pe Si Oc hs;refine⟨by rw[Pa],fun k R=>by rw[Pa];exact OV k R,fun id b hb Z=>by rw[Pa];exact Px id b hb Z,fun V PR=>?_⟩;have PR:V=setCells J ⟨g,i*4,none⟩ [.bool b7,.slice a7 n7 c7,.bool b8,.slice a8 n8 c8]:=by rw[PR];exact congrArg (fun x=>setCells J x _) Pa
   rw[<-PR]at hF6 Uw QA G Oj hs6;clear PR OV Px;conv=>whnf
   refine⟨((i+1:Nat):Int),wo,?_⟩;conv=>whnf
   intro IR w3 K
   exact⟨(i+1,A.set i [.bool b7,.slice a7 n7 c7,.bool b8,.slice a8 n8 c8],Ow,w3),⟨h,dW G K.cL,gg QA (PL Ow) K,by simpa using PZ,hF6.rel K F,Uw.rel K F,hs6.rel K hC F⟩,
    Sub.gn [] K,by dsimp only;omega⟩
  ·have hf0:f=0:=by
    have:rs f=0:=by
     have I:(rs f==0)=true:=by simpa using hz
     exact eq_of_beq I
    exact Rat.num_eq_zero.1 (bu.1 this)
   have RY:qP p ps i q=q:=by rw[TW,hf0,az,bD]
   conv=>whnf
   refine⟨((i+1:Nat):Int),wo,?_⟩;conv=>whnf
   intro IR w3 K
   exact⟨(i+1,A,OU,w3),⟨h,dW G K.cL,gg OR (PL OU) K,PZ,by rw[<-zn WB RY];exact Pb.rel K F,Oq.rel K F,hs.rel K hC F⟩,
    Sub.gn [] K,by dsimp only;omega⟩
 ·have h:i=n:=by
   have:¬i<n:=by simpa using h
   omega
  subst h;conv=>whnf
  intro If w5 r5;refine⟨rfl,dW G r5.cL,A,gg OR (PL iv) r5,PZ,?_⟩;have:=(Pb.rel r5 F).cF (S':=Nw S w w5) fun g G=>Cv.nw G r5
  rwa [<-SB,qq]at this
end Go.Ex
namespace Go.Ex
variable{M:List (List Rat)}{s:List (List Rat)×List Nat}{h i n:Nat}
def cW(M:List (List Rat))(i c:Nat):Rat:=(M.getD i []).getD c 0
def iO(M:List (List Rat))(c:Nat):Nat->Nat->Nat
 |0,k=>k
 |f+1,k=>if cW M k c=0 then iO M c f (k+1)else k
def fV{α:Type}(d:α)(l:List α)(i j:Nat):List α:=(l.set i (l.getD j d)).set j (l.getD i d)
def rE(p:Rat)(ps:List Rat)(j:Nat)(q:Rat):Rat:=q+p*ps.getD j 0
def iP(M:List (List Rat))(at_ c i:Nat):List (List Rat):=M.mapIdx fun j r=>if j<i/\j≠at_ then r.mapIdx (rE (-(r.getD c 0)) (M.getD at_ []))else r
def scaled(M:List (List Rat))(at_ c:Nat):List (List Rat):=M.set at_ ((M.getD at_ []).map (· *(1 / cW M at_ c)))
def dg(s:List (List Rat)×List Nat)(c:Nat):List (List Rat)×List Nat:=
 if s.2.length<s.1.length then
  let k:=iO s.1 c (s.1.length-s.2.length) s.2.length
  if k=s.1.length then s else
   let M1:=scaled (fV [] s.1 s.2.length k) s.2.length c
   (iP M1 s.2.length c M1.length,s.2++[c])
 else s
def cK(M:List (List Rat))(cols:Nat):List (List Rat)×List Nat:=(List.range cols).foldl dg (M,[])
theorem j8{α:Type}(d:α)(l:List α)(i j:Nat):(fV d l i j).length=l.length:=by simp[fV]
theorem zB(M:List (List Rat))(a c i:Nat):(iP M a c i).length=M.length:=by simp[iP]
theorem rO(M:List (List Rat))(a c:Nat):(scaled M a c).length=M.length:=by simp[scaled]
theorem n9(s:List (List Rat)×List Nat)(c:Nat):(dg s c).1.length=s.1.length:=by
 unfold dg;split
 ·dsimp only
  split
  ·rfl
  ·dsimp only
   rw[zB,rO,j8]
 ·rfl
theorem yO(M:List (List Rat))(c:Nat):∀f k,k<=iO M c f k/\iO M c f k<=k+f
 |0,k=>⟨Nat.le_refl _,Nat.le_refl _⟩
 |f+1,k=>by
  unfold iO;split
  ·have:=yO M c f (k+1);omega
  ·omega
theorem yP(M:List (List Rat))(c:Nat):∀f k,iO M c f k<k+f->cW M (iO M c f k) c≠0
 |0,k,h=>by simp[iO]at h
 |f+1,k,h=>by
  unfold iO at h ⊢;split
  ·rename_i h0;rw[if_pos h0]at h;exact yP M c f (k+1) (by omega)
  ·rename_i h0;exact h0
theorem Fa{c f k:Nat}(h:cW M k c=0):iO M c (f+1) k=iO M c f (k+1):=by rw[iO,if_pos h]
theorem Ff{c f k:Nat}(h:cW M k c≠0):iO M c (f+1) k=k:=by rw[iO,aI h]
theorem Fg(M:List (List Rat))(a c i:Nat):(iP M a c i)[a]? =M[a]? :=by
 simp only[iP,List.getElem?_mapIdx]
 cases M[a]? <;>simp
def Ht(M:List (List Rat))(h:Nat):Prop:=∀r∈M,∀q∈r,rl q+1<=h
theorem Ht.mono{h':Nat}(H:Ht M h)(k:h<=h'):Ht M h':=fun r hr q hq=>aW (H r hr q hq) k
theorem Ht.at{r:List Rat}(H:Ht M h)(D:M[i]? =some r):∀q∈r,rl q+1<=h:=H r (aE D)
theorem Ht.swap{j:Nat}(H:Ht M h)(D:i<M.length)(hj:j<M.length):Ht (fV [] M i j) h:=by
 intro r hr;have:r∈M:=by
  unfold fV at hr;rcases a9 hr with I|I
  ·rcases a9 I with X|X
   ·exact X
   ·rw[X,List.getD,aB hj];exact aX hj
  ·rw[I,List.getD,aB D];exact aX D
 exact H r this
theorem GA:rl 1=1:=by decide
theorem NZ{q:Rat}(h:q≠0):rl (1 / q)<=rl q+1:=by
 have:=pN 1 h;rw[GA]at this;omega
theorem nk{r:List Rat}(H:∀q∈r,rl q+1<=h)(X:2<=h)(c:Nat):rl (r.getD c 0)+1<=h:=by
 rw[List.getD]
 cases hc:r[c]? with
 |none=>simp;exact aW (by decide) X
 |some q=>simp;exact H q (aE hc)
theorem BJ{j:Nat}(D:i<M.length)(hj:j<M.length):(fV [] M i j)[i]? =M[j]? :=by
 unfold fV;by_cases h:j=i
 ·subst h;rw[aO (by simpa using D),List.getD,aB D];rfl
 ·rw[aT h,aO D,List.getD,aB hj];rfl
theorem Dj{j c:Nat}(D:i<M.length)(hj:j<M.length):cW (fV [] M i j) i c=cW M j c:=by
 simp only[cW,List.getD,BJ D hj]
def gh(n:Nat)(M:List (List Rat)):Prop:=∀r∈M,r.length=n
theorem gh.set{r:List Rat}(h:gh n M)(hr:r.length=n):gh n (M.set i r):=fun x L=>by
 rcases a9 L with I|I
 ·exact h x I
 ·rw[I];exact hr
theorem gh.getD(h:gh n M)(D:i<M.length):(M.getD i []).length=n:=by
 rw[List.getD,aB D];exact h _ (aX D)
theorem gh.step{c:Nat}(h:gh n s.1):gh n (dg s c).1:=by
 unfold dg;split
 ·rename_i Ou;dsimp only
  split
  ·exact h
  ·rename_i R;have hle:=yO s.1 c (s.1.length-s.2.length) s.2.length;have hkl:iO s.1 c (s.1.length-s.2.length) s.2.length<s.1.length:=by omega
   dsimp only
   generalize iO s.1 c (s.1.length-s.2.length) s.2.length=k at*
   have I:gh n (fV [] s.1 s.2.length k):=(h.set (h.getD hkl)).set (h.getD Ou);have X:gh n (scaled (fV [] s.1 s.2.length k) s.2.length c):=I.set (by rw[aL];exact I.getD (by rw[j8];exact Ou));intro r hr;obtain⟨j,hj⟩:=aQ hr;simp only[iP,List.getElem?_mapIdx,Option.map_eq_some_iff]at hj;obtain⟨r0,hr0,hj⟩:=hj;have N:=X r0 (aE hr0);split at hj
   ·subst hj;rw[List.length_mapIdx];exact N
   ·subst hj;exact N
 ·exact h
end Go.Ex
namespace Go.Ex
open Go Go.Sx Go.Proofs
variable{qs':List Rat}{i:Nat}
structure lM(w:World)(S:Nat->Prop)(vm:Value)(rv:List Value)(n:Nat)(M:List (List Rat)):Prop where
 out:w.ownsRow 0 T.row 1 vm rv.length rv
 len:rv.length=M.length
 row:∀(i:Nat) v qs,rv[i]? =some v->M[i]? =some qs->∃A,w.ownsRow 0 T.dK 4 v n A.flatten/\A.length=n/\Fr w S A qs
 rW:∀(i j:Nat) a b g,rv[i]? =some a->rv[j]? =some b->a.ownBlock=some g->b.ownBlock=some g->i=j
 Iz:∀v∈rv,∀g,v.ownBlock=some g->vm.ownBlock≠some g
def Mb(vm:Value)(rv:List Value)(g:Nat):Prop:=vm.ownBlock=some g\/∃v∈rv,v.ownBlock=some g
structure Kept(w V:World)(C9:Nat->Prop):Prop where
 os:V.os=w.os
 tape:V.tape=w.tape
 output:V.output=w.output
 size:w.heap.size<=V.heap.size
 block:∀k,k<w.heap.size->¬C9 k->V.heap[k]? =w.heap[k]?
section
variable{S S' C9:Nat->Prop}{H:Hp}{nx n:Nat}{iv E:Iv}{B:Nat}{w J V w3:World}{O:Nat->Sx.dL}{vm:Value}{rv:List Value}{M:List (List Rat)}
theorem lM.cC(h:lM w S vm rv n M)(R:∀g,S g\/Mb vm rv g->V.heap[g]? =w.heap[g]?):lM V S vm rv n M:=by
 refine⟨ownsRow.cC h.out fun g G=>R g (.inr (.inl G)),h.len,fun i v qs I X=>?_,h.rW,h.Iz⟩;obtain⟨A,N,h4,h5⟩:=h.row i v qs I X;exact⟨A,ownsRow.cC N fun g G=>R g (.inr (.inr ⟨v,aE I,G⟩)),h4,h5.cC fun g G=>R g (.inl G)⟩
theorem lM.cF(h:lM w S vm rv n M)(R:∀g,S g->S' g):lM w S' vm rv n M:=
 ⟨h.out,h.len,fun i v qs I X=>(h.row i v qs I X).imp fun _ h=>⟨h.1,h.2.1,h.2.2.cF R⟩,h.rW,h.Iz⟩
theorem lM.low(h:lM w S vm rv n M):∀g,Mb vm rv g->g<w.heap.size:=fun g G=>by
 rcases G with G|⟨v,hv,G⟩
 ·exact(ownsRow.low h.out g G).2
 ·obtain⟨i,D⟩:=aQ hv;have hl:=(aD.1 D).1;obtain⟨A,I,_⟩:=h.row i v _ D (aB (by rw[<-h.len];exact hl));exact(ownsRow.low I g G).2
theorem lM.setRow(h:lM w S vm rv n M)(F:Old S w)(VL:∀g,S g->¬Mb vm rv g){v:Value}(hv:rv[i]? =some v)(G:w.grownBy V v.ownBlock)(hSS:∀g,S g->S' g)
  (OR:∃A,V.ownsRow 0 T.dK 4 v n A.flatten/\A.length=n/\Fr V S' A qs'):lM V S' vm rv n (M.set i qs'):=by
 have Od:=h.low;have QY:∀g,g<w.heap.size->v.ownBlock≠some g->V.heap[g]? =w.heap[g]? :=fun g I X=>G.block g I (Ne.symm X);refine⟨ownsRow.cC h.out fun g Wj=>QY g (Od g (.inl Wj)) (fun e=>h.Iz v (aE hv) g e Wj),by rw[h.len];simp,fun j u qs I X=>?_,h.rW,h.Iz⟩;by_cases PH:i=j
 ·subst PH;rw[hv]at I;injection I with I;subst I;have hl:=(aD.1 hv).1;rw[aO (by rw[<-h.len];exact hl)]at X;injection X with X;subst X;exact OR
 ·rw[aT PH]at X;obtain⟨A,N,h4,h5⟩:=h.row j u qs I X;refine⟨A,ownsRow.cC N fun g hgu=>QY g (ownsRow.low N g hgu).2 (fun e=>PH (h.rW i j v u g hv I e hgu)),h4,(h5.cC fun g hgs=>?_).cF hSS⟩;exact QY g (F g hgs) fun e=>VL g hgs (.inr ⟨v,aE hv,e⟩)
theorem lM.swap(h:lM w S vm rv n M)(VL:∀g,S g->¬Mb vm rv g){j:Nat}{a b:Value}(D:rv[i]? =some a)(hj:rv[j]? =some b)(PL:V.ownsRow 0 T.row 1 vm rv.length ((rv.set i b).set j a))(QY:∀g,S g\/Mb vm rv g->vm.ownBlock≠some g->V.heap[g]? =w.heap[g]?):
  lM V S vm ((rv.set i b).set j a) n (fV [] M i j):=by
 have Sq:=(aD.1 D).1;have Rw:=(aD.1 hj).1;have QZ:M.getD i []=M[i]'(by rw[<-h.len];exact Sq):=by rw[List.getD,aB (by rw[<-h.len];exact Sq)];rfl
 have hmj:M.getD j []=M[j]'(by rw[<-h.len];exact Rw):=by rw[List.getD,aB (by rw[<-h.len];exact Rw)];rfl
 have key:∀k v qs,((rv.set i b).set j a)[k]? =some v->(fV [] M i j)[k]? =some qs->∃k',rv[k']? =some v/\M[k']? =some qs/\k'=(if k=j then i else if k=i then j else k):=by
  intro k v qs I X;unfold fV at X;rw[QZ,hmj]at X;by_cases TD:j=k
  ·subst TD;rw[aO (by simp;exact Rw)]at I;rw[aO (by simp;rw[<-h.len];exact Rw)]at X;injection I with I;injection X with X;subst I X;exact⟨i,D,aB _,by simp⟩
  ·rw[aT TD]at I X;by_cases VU:i=k
   ·subst VU;rw[aO Sq]at I;rw[aO (by rw[<-h.len];exact Sq)]at X;injection I with I;injection X with X;subst I X;exact⟨j,hj,aB _,by rw[aI (Ne.symm TD),if_pos rfl]⟩
   ·rw[aT VU]at I X;exact⟨k,I,X,by rw[aI (Ne.symm TD),aI (Ne.symm VU)]⟩
 have hlen:((rv.set i b).set j a).length=rv.length:=by simp
 have Wp:(fV [] M i j).length=rv.length:=by rw[j8,h.len]
 have keyv:∀k v,((rv.set i b).set j a)[k]? =some v->∃k',rv[k']? =some v/\k'=(if k=j then i else if k=i then j else k):=fun k v I=>by
  have hl:=(aD.1 I).1;obtain⟨k',X,_,N⟩:=key k v _ I (aB (by rw[Wp,<-hlen];exact hl));exact⟨k',X,N⟩
 refine⟨by rw[hlen];exact PL,by rw[hlen,Wp],fun k v qs I X=>?_,fun k1 k2 v1 v2 g I X e1 e2=>?_,fun v hv g hgv=>?_⟩
 ·obtain⟨k',N,h4,_⟩:=key k v qs I X;obtain⟨A,h5,h6,h7⟩:=h.row k' v qs N h4;have hvm:=h.Iz v (aE N);exact⟨A,ownsRow.cC h5 fun g hgu=>QY g (.inr (.inr ⟨v,aE N,hgu⟩)) (hvm g hgu),h6,h7.cC fun g hgs=>QY g (.inl hgs) fun e=>VL g hgs (.inl e)⟩
 ·obtain⟨k3,N,h4⟩:=keyv k1 v1 I;obtain⟨k5,h5,h6⟩:=keyv k2 v2 X;have:=h.rW k3 k5 v1 v2 g N h5 e1 e2;split at h4<;>split at h6<;>(try split at h4)<;>(try split at h6)<;>omega
 ·obtain⟨k,R⟩:=aQ hv;obtain⟨k',N,_⟩:=keyv k v R;exact h.Iz v (aE N) g hgv
theorem Mb.swap{j:Nat}{a b:Value}(D:rv[i]? =some a)(hj:rv[j]? =some b){g:Nat}:Mb vm ((rv.set i b).set j a) g↔Mb vm rv g:=by
 have Sq:=(aD.1 D).1;have Rw:=(aD.1 hj).1;unfold Mb;refine or_congr Iff.rfl ⟨fun ⟨v,hv,h⟩=>⟨v,?_,h⟩,fun⟨v,hv,h⟩=>⟨v,?_,h⟩⟩
 ·rcases a9 hv with I|I
  ·rcases a9 I with X|X
   ·exact X
   ·rw[X];exact aE hj
  ·rw[I];exact aE D
 ·obtain⟨k,R⟩:=aQ hv;by_cases TD:k=j
  ·subst TD;rw[hj]at R;injection R with R;subst R;by_cases hik:i=k
   ·subst hik;rw[D]at hj;injection hj with hj;subst hj;exact aE (i:=i) (by rw[aO (by simp;exact Sq)])
   ·exact aE (i:=i) (by rw[aT (Ne.symm hik),aO Sq])
  ·by_cases VU:k=i
   ·subst VU;rw[D]at R;injection R with R;subst R;exact aE (i:=j) (by rw[aO (by simp;exact Rw)])
   ·exact aE (i:=k) (by rw[aT (Ne.symm TD),aT (Ne.symm VU)];exact R)
end
end Go.Ex
namespace Go.Sx
open Go Go.Ex Go.Proofs
variable{O:Nat->Sx.dL}{row:Option Nat}
theorem Rel.nJ{H:Hp}{nx:Nat}{iv:Iv}{B:Nat}{w J V:World}(r:Rel H nx iv B w O J)(OS:∀g,row=some g->∀id b,cV H id=some b->(O id).nil=false->(O id).g≠g)(h:J.grownBy V row):Rel H nx ((J.heap.size,V.heap.size)::iv) B V O V:=
 r.D5 h.size (fun id b hb Z=>h.block _ (r.low id b hb Z).2 fun e=>OS _ e.symm id b hb Z rfl) fun lo D hm=>by
  rcases List.mem_cons.1 hm with e|hm
  ·injection e with e1 e2;subst e1 e2;exact⟨Nat.le_refl _,fun id b hb Z=>by have:=(r.low id b hb Z).2;omega⟩
  ·exact⟨by have:=r.qW lo D hm;have:=r.size;have:=h.size;omega,fun id b hb Z=>r.ji lo D hm id b hb Z⟩
end Go.Sx
namespace Go.Ex
open Go Go.Sx Go.Proofs
end Go.Ex
namespace Go.Ex
open Go Go.Sx Go.Proofs
end Go.Ex
namespace Go.Sx
open Go Go.Ex Go.Proofs
variable{O:Nat->Sx.dL}
theorem Sub.nil{B nx:Nat}{l:Env}{H:Hp}{iv:Iv}{w J:World}{t:vt}(u e sz:Nat)(h9:fR l u=some (sV none 0 0))(Rg:l5 nx l)(r:Rel H nx iv B w O J)
  (h:∀In,Rel ((nx,.vec e sz [])::H) (nx+1) iv B w In J->Sx.Sub B ((u,.o (.w nx 0))::l) (nx+1) In J t):Sx.Sub B l nx O J t:=by
 have r1:=r.push (.vec e sz []) ⟨0,0,true⟩ (V:=J) rfl rfl rfl (Nat.le_refl _) (fun _ _=>rfl) (fun h=>by cases h) (.inl ⟨rfl,rfl⟩) trivial;obtain⟨G8,I,X⟩:=h _ r1;refine⟨G8,I,fun x v hv=>?_⟩;obtain⟨N,v0,h4,h5⟩:=X x v hv;refine⟨N,?_⟩;rw[eW]at h4;split at h4
 ·rename_i e;subst e;injection h4 with h4;subst h4;refine⟨_,h9,?_⟩;rw[<-h5];simp[SV.den,At.den,dw]
 ·refine⟨v0,h4,?_⟩;rw[<-h5];exact SV.jU (fun id Oy=>fm id Oy) (Rg.get _ _ h4)
end Go.Sx
namespace Go.Ex
open Go Go.Sx Go.Proofs
variable{M:List (List Rat)}{qs:List Rat}{rv:List Value}{n:Nat}{S:Nat->Prop}{am:Option Addr}{v:Value}{w:World}
structure Mm(w:World)(S:Nat->Prop)(rv:List Value)(n:Nat)(M:List (List Rat))(gm k c g ck:Nat)(q:Rat)(d1:Bool)(e1:Option Addr)(m1 k1:Nat)(d2:Bool)(e2:Option Addr)(m2 k2:Nat):Prop where
 rv:rv[k]? =some (.slice (some ⟨g,0,none⟩) n ck)
 at_:cW M k c=q
 zg:cP w S (.agg #[.bool d1,.slice e1 m1 k1,.bool d2,.slice e2 m2 k2]) q
 outer:w.cell? (Addr.add ⟨gm,0,none⟩ (k*1))=some (.slice (some ⟨g,0,none⟩) n ck)
 cells:∀j u,[Value.bool d1,.slice e1 m1 k1,.bool d2,.slice e2 m2 k2][j]? =some u->w.cell? ((Addr.add ⟨g,0,none⟩ (c*4)).add j)=some u
theorem lM.outer{FS cm:Nat}{k:Nat}(h:lM w S (.slice am FS cm) rv n M)(R:rv[k]? =some v):
  ∃gm,am=some ⟨gm,0,none⟩/\w.cell? (Addr.add ⟨gm,0,none⟩ (k*1))=some v:=by
 rcases h.out.2 with⟨I,h0⟩|⟨gm,cap,cur,e,_⟩
 ·have:=(aD.1 R).1;omega
 ·injection e with e1 e2 e3;refine⟨gm,e1,?_⟩;have:=h.out.cells (g:=gm) (by rw[e1];rfl) k v R;rw[aY];exact this
theorem lM.elem{FS cm:Nat}(h:lM w S (.slice am FS cm) rv n M){k c:Nat}(R:k<rv.length)(hc:c<n):
  ∃gm g ck q d1 e1 m1 k1 d2 e2 m2 k2,am=some ⟨gm,0,none⟩/\Mm w S rv n M gm k c g ck q d1 e1 m1 k1 d2 e2 m2 k2:=by
 obtain⟨v,hv⟩:∃v,rv[k]? =some v:=⟨_,aB R⟩
 obtain⟨qs,hqs⟩:∃qs,M[k]? =some qs:=⟨_,aB (by rw[<-h.len];exact R)⟩
 obtain⟨A,OR,PZ,Pb⟩:=h.row k v qs hv hqs;obtain⟨a,ck,rfl,_⟩:=ig OR;obtain⟨U,Ok⟩:∃U,A[c]? =some U:=⟨_,aB (by omega)⟩
 obtain⟨q,hq⟩:∃q,qs[c]? =some q:=⟨_,aB (by rw[<-Pb.1];omega)⟩
 obtain⟨g,rfl,Oo⟩:=AG OR Pb Ok;obtain⟨d1,e1,m1,k1,d2,e2,m2,k2,rfl,hF⟩:=Pb.2 c U q Ok hq;obtain⟨gm,rfl,ho⟩:=h.outer hv;exact⟨gm,g,ck,q,d1,e1,m1,k1,d2,e2,m2,k2,rfl,hv,by simp[cW,List.getD,hqs,hq],hF,ho,Oo⟩
theorem Ch{α:Type}{xs:List α}{j:Nat}{v:α}(h:j<xs.length):xs.take (j*1)++[v]++xs.drop (j*1+1)=xs.set j v:=by
 rw[aY,List.set_eq_take_append_cons_drop,if_pos h];simp
theorem lM.aAT{vm:Value}(h:lM w S vm rv n M){k:Nat}(hv:rv[k]? =some v)(hq:M[k]? =some qs)(Z:n<=maxLen):
  gj w (fun g=>v.ownBlock=some g) S v qs/\qs.length=n:=by
 obtain⟨A,I,X,N⟩:=h.row k v qs hv hq;have hl:qs.length=n:=by rw[<-N.1,X]
 refine⟨⟨A,?_,N⟩,hl⟩;rw[hl];rcases I.2 with⟨rfl,rfl⟩|⟨g,cap,cur,rfl,hb,hc,Vl,QF,Oj,RK⟩
 ·refine⟨Z,I.1,N.one,none,0,rfl,Nat.le_refl _,fun j u hu=>?_⟩;have:=I.1;rw[Nat.zero_mul]at this;rw[List.eq_nil_of_length_eq_zero this]at hu
  cases hu
 ·refine⟨Z,I.1,N.one,_,cap,rfl,Vl,fun j u hu=>⟨_,rfl,rfl,?_⟩⟩;exact I.cells (g:=g) rfl j u hu
end Go.Ex
namespace Go.Ex
open Go Go.Sx Go.Proofs
variable{x:Int×Int}{xs:List (Int×Int)}{M:List (List (Int×Int))}{F8:List (List Rat)}{ps pv:List Nat}{qs:List Rat}{U:List Value}{id:Nat}{C S:Nat->Prop}{q:Rat}{v:Value}{w w0:World}
def l9(w:World)(S:Nat->Prop)(v:Value)(n:Nat)(qs:List Rat):Prop:=∃A,w.ownsRow 0 T.dK 4 v n A.flatten/\A.length=n/\Fr w S A qs
section
variable{S S' C:Nat->Prop}{H:Hp}{nx n:Nat}{iv E:Iv}{B:Nat}{w J V:World}{O:Nat->Sx.dL}{v:Value}{qs:List Rat}
theorem l9.cC(h:l9 w S v n qs)(R:∀g,S g\/v.ownBlock=some g->V.heap[g]? =w.heap[g]?):l9 V S v n qs:=by
 obtain⟨A,I,X,N⟩:=h;exact⟨A,ownsRow.cC I fun g G=>R g (.inr G),X,N.cC fun g G=>R g (.inl G)⟩
theorem l9.cF(h:l9 w S v n qs)(R:∀g,S g->S' g):l9 w S' v n qs:=by
 obtain⟨A,I,X,N⟩:=h;exact⟨A,I,X,N.cF R⟩
theorem l9.len(h:l9 w S v n qs):qs.length=n:=by
 obtain⟨A,I,X,N⟩:=h;rw[<-N.1,X]
theorem l9.form(h:l9 w S v n qs):∃a c,v= .slice a n c/\n<=c:=by
 obtain⟨A,I,X,N⟩:=h;exact ig I
theorem l9.le(h:l9 w S v n qs):n<=maxLen:=by
 obtain⟨A,I,X,N⟩:=h;rcases I.2 with⟨_,h0⟩|⟨_,_,_,_,_,_,I,X,_⟩
 ·omega
 ·omega
theorem l9.read(h:l9 w S v n qs):gj w (fun g=>v.ownBlock=some g) S v qs:=by
 have hl:=h.len;have Z:=h.le;obtain⟨A,I,X,N⟩:=h;refine⟨A,?_,N⟩;rw[hl];rcases I.2 with⟨rfl,rfl⟩|⟨g,cap,cur,rfl,hb,hc,Vl,QF,Oj,RK⟩
 ·refine⟨Z,I.1,N.one,none,0,rfl,Nat.le_refl _,fun j u hu=>?_⟩;have:=I.1;rw[Nat.zero_mul]at this;rw[List.eq_nil_of_length_eq_zero this]at hu
  cases hu
 ·refine⟨Z,I.1,N.one,_,cap,rfl,Vl,fun j u hu=>⟨_,rfl,rfl,?_⟩⟩;exact I.cells (g:=g) rfl j u hu
structure DH(w:World)(S:Nat->Prop)(B:Nat)(iv:Iv)(v:Value)(n:Nat)(qs:List Rat):Prop where
 row:l9 w (fun g=>Cv S B iv g/\v.ownBlock≠some g) v n qs
 new:∀g,v.ownBlock=some g->Cv FF B iv g
theorem DH.dD(h:DH V FF J.heap.size [(J.heap.size,V.heap.size)] v n qs)(hB:B<=J.heap.size)(hm:(J.heap.size,V.heap.size)∈iv):DH V S B iv v n qs:=by
 have key:∀g {C9:Nat->Prop},Cv FF J.heap.size [(J.heap.size,V.heap.size)] g->Cv C9 B iv g:=fun g C9 G=>by
  rcases G with G|⟨I,lo,D,X,N,h4⟩
  ·exact G.elim
  ·simp at X;obtain⟨rfl,rfl⟩:=X;exact .inr ⟨by omega,_,_,hm,N,h4⟩
 exact⟨h.row.cF fun g G=>⟨key g G.1,G.2⟩,fun g G=>key g (h.new g G)⟩
theorem DH.read(h:DH w S B iv v n qs):gj w (Cv S B iv) (Cv S B iv) v qs:=
 h.row.read.cF (fun g G=>(h.new g G).elim (fun h=>h.elim) .inr) fun _ G=>G.1
def ve(w:World)(S:Nat->Prop)(U:List Value)(x:Int×Int):Prop:=∃b a n c b2 a2 n2 c2,U=[.bool b,.slice a n c,.bool b2,.slice a2 n2 c2]/\iD w S (.agg #[.bool b,.slice a n c,.bool b2,.slice a2 n2 c2]) x.1 x.2
theorem ve.cC(h:ve w S U x)(R:∀g,S g->V.heap[g]? =w.heap[g]?):ve V S U x:=by
 obtain⟨b,a,n,c,b2,a2,n2,c2,I,X⟩:=h;exact⟨b,a,n,c,b2,a2,n2,c2,I,X.cC R⟩
theorem ve.cF(h:ve w S U x)(R:∀g,S g->S' g):ve w S' U x:=by
 obtain⟨b,a,n,c,b2,a2,n2,c2,I,X⟩:=h;exact⟨b,a,n,c,b2,a2,n2,c2,I,X.cF R⟩
def eD{α:Type}(P:World->(Nat->Prop)->List Value->α->Prop)(w:World)(S:Nat->Prop)(v:Value)(xs:List α):Prop:=
 ∃A:List (List Value),iu w S 4 v A.flatten xs.length/\A.length=xs.length/\(∀U∈A,U.length=4)/\∀(j:Nat) U x,A[j]? =some U->xs[j]? =some x->P w S U x
abbrev fO:=eD ve
theorem fO.cC(h:fO w S v xs)(R:∀g,S g->V.heap[g]? =w.heap[g]?):fO V S v xs:=by
 obtain⟨A,I,X,N,h4⟩:=h;exact⟨A,I.cC R,X,N,fun j U x k1 k2=>(h4 j U x k1 k2).cC R⟩
theorem fO.cF(h:fO w S v xs)(R:∀g,S g->S' g):fO w S' v xs:=by
 obtain⟨A,I,X,N,h4⟩:=h;exact⟨A,I.cF R,X,N,fun j U x k1 k2=>(h4 j U x k1 k2).cF R⟩
theorem eD.shape{α:Type}{P:World->(Nat->Prop)->List Value->α->Prop}{xs:List α}(h:eD P w S v xs):∃a c,v= .slice a xs.length c/\xs.length<=c/\xs.length<=maxLen:=by
 obtain⟨A,⟨h0,_,_,a,c,I,X,_⟩,_⟩:=h;exact⟨a,c,I,X,h0⟩
theorem eD.load{α:Type}{P:World->(Nat->Prop)->List Value->α->Prop}{xs:List α}{a:Option Addr}{m c j:Nat}{x:α}(h:eD P w S (.slice a m c) xs)(hq:xs[j]? =some x):
  ∃ad U,a=some ad/\P w S U x/\U.length=4/\∀k u,U[k]? =some u->S ad.block/\w.cell? ((ad.add (j*4)).add k)=some u:=by
 obtain⟨A,⟨h0,I,X,a',c',e,N,h4⟩,hl,VZ,hf⟩:=h;injection e with e1 e2 e3;subst e1;obtain⟨U,Ok⟩:∃U,A[j]? =some U:=⟨_,aB (by rw[hl];exact(aD.1 hq).1)⟩
 have hF:=hf j U x Ok hq;have TJ:=VZ U (aE Ok);obtain⟨ad,k1,k2,k3⟩:=h4 (j*4+0) _ (flat_get VZ Ok 0 _ (aB (show 0<U.length by omega)));refine⟨ad,U,k1,hF,TJ,fun k u hu=>?_⟩;obtain⟨ad2,m1,m2,m3⟩:=h4 (j*4+k) u (flat_get VZ Ok k u hu);rw[k1]at m1;injection m1 with m1;subst m1;refine⟨m2,?_⟩;rw[<-m3];have:(ad.add (j*4)).add k=ad.add (j*4+k):=by
  unfold Addr.add;split<;>split<;>simp_all<;>omega
 rw[this]
def dG{α:Type}(P:World->(Nat->Prop)->Value->α->Prop)(w:World)(S:Nat->Prop)(v:Value)(M:List α):Prop:=
 ∃rv,iu w S 1 v rv M.length/\rv.length=M.length/\∀(i:Nat) u x,rv[i]? =some u->M[i]? =some x->P w S u x
theorem dG.shape{α:Type}{P:World->(Nat->Prop)->Value->α->Prop}{xs:List α}(h:dG P w S v xs):∃a c,v= .slice a xs.length c/\xs.length<=c/\xs.length<=maxLen:=by
 obtain⟨rv,⟨h0,_,_,a,c,I,X,_⟩,_⟩:=h;exact⟨a,c,I,X,h0⟩
theorem dG.load{α:Type}{P:World->(Nat->Prop)->Value->α->Prop}{xs:List α}{a:Option Addr}{m c j:Nat}{x:α}(h:dG P w S (.slice a m c) xs)(hq:xs[j]? =some x):
  ∃ad u,a=some ad/\P w S u x/\S ad.block/\w.cell? (ad.add (j*1))=some u:=by
 obtain⟨rv,⟨h0,I,X,a',c',e,N,h4⟩,hl,hf⟩:=h;injection e with e1 e2 e3;subst e1;obtain⟨u,hu⟩:∃u,rv[j]? =some u:=⟨_,aB (by rw[hl];exact(aD.1 hq).1)⟩
 obtain⟨ad,k1,k2,k3⟩:=h4 j u hu;exact⟨ad,u,k1,hf j u x hu hq,k2,by rw[aY];exact k3⟩
abbrev ee:=dG fO
theorem ee.cC(h:ee w S v M)(R:∀g,S g->V.heap[g]? =w.heap[g]?):ee V S v M:=by
 obtain⟨rv,I,X,N⟩:=h;exact⟨rv,I.cC R,X,fun i u x k1 k2=>fO.cC (N i u x k1 k2) R⟩
theorem ee.cF(h:ee w S v M)(R:∀g,S g->S' g):ee w S' v M:=by
 obtain⟨rv,I,X,N⟩:=h;exact⟨rv,I.cF R,X,fun i u x k1 k2=>fO.cF (N i u x k1 k2) R⟩
abbrev uH:=dG (fun w S v qs=>gj w S S v qs)
theorem uH.cC{M:List (List Rat)}(h:uH w S v M)(R:∀g,S g->V.heap[g]? =w.heap[g]?):uH V S v M:=by
 obtain⟨rv,I,X,N⟩:=h;exact⟨rv,I.cC R,X,fun i u x k1 k2=>(N i u x k1 k2).cC fun g G=>R g (G.elim id id)⟩
theorem uH.cF{M:List (List Rat)}(h:uH w S v M)(R:∀g,S g->S' g):uH w S' v M:=by
 obtain⟨rv,I,X,N⟩:=h;exact⟨rv,I.cF R,X,fun i u x k1 k2=>(N i u x k1 k2).cF R R⟩
end
section
variable{S S':Nat->Prop}{H:Hp}{nx:Nat}{iv E:Iv}{B:Nat}{w J V:World}{O:Nat->Sx.dL}{v:Value}{xs:List (Int×Int)}
theorem fO.rel(h:fO w (Cv S B iv) v xs)(r:Rel H nx iv B w O J)(F:∀g,S g->g<B):fO J (Cv S B iv) v xs:=fO.cC h fun _ G=>Rel.same r F G
theorem fO.cD(h:fO w (Cv S B iv) v xs)(r:Rel H nx iv B w O J)(F:∀g,S g->g<B)(W:Ext J V)(hm:∀p,p∈iv->p∈E):fO V (Cv S B E) v xs:=
 fO.cF (fO.cC (fO.rel h r F) fun g G=>W.block g (Rel.old r F g G)) fun _ G=>G.mono hm
theorem fO.arg(h:fO w S v xs)(iv:Iv):fO w (Cv S w.heap.size iv) v xs:=fO.cF h fun _ h=>.inl h
end
section
variable{S S':Nat->Prop}{H:Hp}{nx:Nat}{iv E:Iv}{B:Nat}{w J V:World}{O:Nat->Sx.dL}{v:Value}{M:List (List (Int×Int))}
theorem ee.rel(h:ee w (Cv S B iv) v M)(r:Rel H nx iv B w O J)(F:∀g,S g->g<B):ee J (Cv S B iv) v M:=ee.cC h fun _ G=>Rel.same r F G
theorem ee.cD(h:ee w (Cv S B iv) v M)(r:Rel H nx iv B w O J)(F:∀g,S g->g<B)(W:Ext J V)(hm:∀p,p∈iv->p∈E):ee V (Cv S B E) v M:=
 ee.cF (ee.cC (ee.rel h r F) fun g G=>W.block g (Rel.old r F g G)) fun _ G=>G.mono hm
theorem ee.arg(h:ee w S v M)(iv:Iv):ee w (Cv S w.heap.size iv) v M:=ee.cF h fun _ h=>.inl h
end
section
variable{S S':Nat->Prop}{H:Hp}{nx:Nat}{iv E:Iv}{B:Nat}{w J V:World}{O:Nat->Sx.dL}{v:Value}{M:List (List Rat)}
end
def iS{α:Type}:List (List α)->Nat
 |[]=>0
 |r::_=>r.length
def sZ{α:Type}(M:List (List α)):Nat:=if ∀r∈M,r.length=iS M then(if 60<M.length\/60<iS M then 8 else 0)else 11
theorem dG.AH(h:fO w S v xs):∃a c,v= .slice a xs.length c:=by
 obtain⟨a,c,h,_⟩:=eD.shape h;exact⟨a,c,h⟩
theorem vT(F:Old S w)(h:ee w S v M):dx PG F'.rS #[v] w (eH w fun v' _=>v'= .int .i64 (iS M)):=by
 have Z:=h;obtain⟨a,c,rfl,hc,hm⟩:=dG.shape h;refine vO (by simp) ?_
 cases M with
 |nil=>
  conv=>whnf
  intro GT we re;exact⟨_,rfl,re.cL,rfl⟩
 |cons r t=>
  obtain⟨ad,u,rfl,hu,I,X⟩:=dG.load h (j:=0) (x:=r) rfl;obtain⟨a2,c2,rfl⟩:=dG.AH hu;conv=>whnf
  refine⟨ad,rfl,⟨by omega,by simp⟩,?_⟩;conv=>whnf
  refine⟨.slice a2 r.length c2,fun O J r'=>by simpa using jl F dT.refl r' I (by simpa using X),?_⟩;conv=>whnf
  intro GT we re;exact⟨_,rfl,re.cL,rfl⟩
theorem Aj(F:Old S w)(h:ee w S v M):dx PG F'.mK #[v] w (eH w fun v' _=>v'= .int .i64 (sZ M)):=by
 replace h:=ee.arg h [];obtain⟨a,c,rfl,hc,hm⟩:=dG.shape h;unfold maxLen at hm;refine qA (by simp) ?_;conv=>whnf
 refine⟨Nat×Iv×World,fun z=>⟨[(0,sV a M.length c),(5,sV a M.length c),(6,iZ M.length),(7,iZ z.1)],[],0,z.2.1,z.2.2⟩,fun z=>M.length-z.1,
  fun z=>z.1<=M.length/\dT w.heap.size w z.2.2/\ee z.2.2 (Cv S w.heap.size z.2.1) (.slice a M.length c) M/\∀(j:Nat) r,j<z.1->M[j]? =some r->r.length=iS M,?_,?_⟩
 ·intro O J r;exact⟨(0,[],J),⟨by simp,r.cL,ee.rel h r F,by simp⟩,Sub.gn [] r⟩
 clear h;rintro⟨i,iv,w1⟩ ⟨D,Y,hM,OR⟩;dsimp only at D Y hM OR ⊢;conv=>whnf
 refine dB.mk ?_ ?_<;>intro h
 ·have h:i<M.length:=by simpa using h
  obtain⟨r,hr⟩:∃r,M[i]? =some r:=⟨_,aB h⟩
  obtain⟨ad,u,rfl,hu,I,X⟩:=dG.load hM hr;obtain⟨a2,c2,rfl⟩:=dG.AH hu;conv=>whnf
  refine⟨ad,rfl,by omega,?_⟩;conv=>whnf
  refine⟨.slice a2 r.length c2,fun O J r'=>?_,?_⟩
  ·have N:=Rel.same r' F I;rw[aF,cJ (w:=w1) (V:=J) (by rw[c9];exact N)];exact X
  conv=>whnf
  refine cB (cG (Id:=fun _ _ v _=>v= .int .i64 (iS M)) (fun O J r=>vT (Rel.old r F) (ee.rel hM r F)) ?_);rintro O wa v1 wb r' W hb rfl;replace Y:=Y.tr hb;replace hM:=ee.cD (E:=(wa.heap.size,wb.heap.size)::iv) hM r' F W fun x L=>aC _ L;clear r' W hb;generalize (wa.heap.size,wb.heap.size)::iv=OU at*
  conv=>whnf
  refine dB.mk ?_ ?_<;>intro OS
  ·have OS:r.length≠iS M:=fun e=>by rw[e]at OS;simp at OS
   conv=>whnf
   intro GT we re;refine⟨_,rfl,Y.tr re.cL,?_⟩;unfold sZ;rw[aI (fun Qd=>OS (Qd r (aE hr)))];rfl
  ·have heq:r.length=iS M:=by
    have h4:((r.length:Int)==(iS M:Int))=true:=by simpa using OS
    have:=eq_of_beq h4;omega
   conv=>whnf
   refine⟨((i+1:Nat):Int),wo,?_⟩;conv=>whnf
   intro IR w3 K;refine⟨(i+1,OU,w3),⟨h,Y.tr K.cL,ee.rel hM K F,fun j r' hj hr'=>?_⟩,Sub.gn [] K,by dsimp only;omega⟩;by_cases PM:j=i
   ·subst PM;rw[hr]at hr';injection hr' with hr';rw[<-hr'];exact heq
   ·exact OR j r' (by dsimp only at hj;omega) hr'
 ·have h:i=M.length:=by
   have:¬i<M.length:=by simpa using h
   omega
  have Qd:∀r∈M,r.length=iS M:=fun r hr=>by
   obtain⟨j,hj⟩:=aQ hr;exact OR j r (by rw[h];exact(aD.1 hj).1) hj
  have PV:sZ M=if 60<M.length\/60<iS M then 8 else 0:=by unfold sZ;rw[if_pos Qd]
  conv=>whnf
  refine dB.mk ?_ ?_<;>intro hl
  ·have hl:60<M.length:=by
    have:(M.length:Int)>60:=aK hl;omega
   conv=>whnf
   exact rtn Y fun GT we re=>by rw[PV,if_pos (.inl hl)];rfl
  ·have hl:¬60<M.length:=by
    have:¬(M.length:Int)>60:=aH hl;omega
   conv=>whnf
   refine cB (cG (Id:=fun _ _ v _=>v= .int .i64 (iS M)) (fun O J r=>vT (Rel.old r F) (ee.rel hM r F)) ?_);rintro O wa v1 wb r' W hb rfl;replace Y:=Y.tr hb;clear r' W hb;conv=>whnf
   refine dB.mk ?_ ?_<;>intro Ps
   ·have Ps:60<iS M:=by
     have:(iS M:Int)>60:=aK Ps;omega
    conv=>whnf
    exact rtn Y fun GT we re=>by rw[PV,if_pos (.inr Ps)];rfl
   ·have Ps:¬60<iS M:=by
     have:¬(iS M:Int)>60:=aH Ps;omega
    conv=>whnf
    exact rtn Y fun GT we re=>by rw[PV,aI (by omega)];rfl
def f0:List Value:=[.bool false,.slice none 0 0,.bool false,.slice none 0 0]
structure lY(w:World)(S:Nat->Prop)(n i:Nat)(A:List (List Value))(qs:List Rat):Prop where
 len:A.length=n
 four:∀U∈A,U.length=4
 one:∀U∈A,∀u∈U,u.oneCell'=true
 at_:∀(j:Nat) U q,j<i->A[j]? =some U->qs[j]? =some q->mP w S U q
section
variable{S S':Nat->Prop}{H:Hp}{nx n i:Nat}{iv E:Iv}{B:Nat}{w w1 J V:World}{O:Nat->Sx.dL}{A:List (List Value)}{qs:List Rat}
theorem lY.cC(h:lY w S n i A qs)(R:∀g,S g->V.heap[g]? =w.heap[g]?):lY V S n i A qs:=⟨h.len,h.four,h.one,fun j U q hj I X=>(h.at_ j U q hj I X).cC R⟩
theorem lY.cF(h:lY w S n i A qs)(R:∀g,S g->S' g):lY w S' n i A qs:=⟨h.len,h.four,h.one,fun j U q hj I X=>(h.at_ j U q hj I X).cF R⟩
theorem lY.rel(h:lY w (Cv S B iv) n i A qs)(r:Rel H nx iv B w O J)(F:∀g,S g->g<B):lY J (Cv S B iv) n i A qs:=h.cC fun _ G=>Rel.same r F G
theorem lY.cD(h:lY w (Cv S B iv) n i A qs)(r:Rel H nx iv B w O J)(F:∀g,S g->g<B)(W:Ext J V)(hm:∀p,p∈iv->p∈E):lY V (Cv S B E) n i A qs:=
 ((h.rel r F).cC fun g G=>W.block g (Rel.old r F g G)).cF fun _ G=>G.mono hm
theorem lY.start(w:World)(S:Nat->Prop)(n:Nat)(qs:List Rat):lY w S n 0 (List.replicate n f0) qs:=
 ⟨by simp,fun U hc=>by rw[b9 hc];rfl,fun U hc u hu=>by rw[b9 hc]at hu;simp[f0]at hu;rcases hu with rfl|rfl|rfl|rfl<;>rfl,fun j U q hj=>by omega⟩
theorem lY.next{b b2:Bool}{a a2:Option Addr}{m c m2 c2:Nat}(h:lY w S n i A qs)(D:i<n)(hq:qs[i]? =some q)(hf:cP w S (.agg #[.bool b,.slice a m c,.bool b2,.slice a2 m2 c2]) q):
  lY w S n (i+1) (A.set i [.bool b,.slice a m c,.bool b2,.slice a2 m2 c2]) qs:=by
 refine⟨by simp[h.len],fun U hc=>?_,fun U hc u hu=>?_,fun j U p hj I X=>?_⟩
 ·rcases a9 hc with hc|rfl
  ·exact h.four U hc
  ·rfl
 ·rcases a9 hc with hc|rfl
  ·exact h.one U hc u hu
  ·simp at hu;rcases hu with rfl|rfl|rfl|rfl<;>rfl
 ·by_cases PH:i=j
  ·subst PH;rw[aO (by rw[h.len];exact D)]at I;rw[hq]at X;injection I with I;injection X with X;subst I X;exact hf.four
  ·rw[aT PH]at I;exact h.at_ j U p (by omega) I X
theorem lY.flat(h:lY w S n i A qs):A.flatten.length=n*4:=by rw[eo h.four,h.len]
theorem lY.done(h:lY w1 (Cf w0 iv) n n A qs)(hl:qs.length=n)(Z:n<=maxLen)(r:Rel H nx iv w0.heap.size w1 O J)(hH:cV H id=some (.arr T.dK A.flatten))(Oe:(O id).nil=false):
  DH J FF w0.heap.size [(w0.heap.size,J.heap.size)] (.slice (some ⟨(O id).g,0,none⟩) n n) n qs:=by
 have X:=h.rel r (bw w0);have Od:=r.low id _ hH Oe;refine⟨⟨A,⟨h.flat,.inr ⟨(O id).g,n,A.flatten.toArray,rfl,aS _,r.arr id _ _ hH,Nat.le_refl _,Z,by simpa using h.flat,?_⟩⟩,h.len,?_⟩,fun g G=>?_⟩
 ·rw[<-h.flat];exact bH
 ·refine⟨by rw[h.len,hl],fun j U q N h4=>?_⟩;refine(X.at_ j U q (by rw[<-hl];exact(aD.1 h4).1) N h4).cF fun g G=>⟨?_,fun e=>?_⟩
  ·rcases G with G|⟨k1,lo,D,k2,k3,k4⟩
   ·exact G.elim
   ·exact .inr ⟨k1,_,_,bF.2 rfl,k1,by have:=r.qW lo D k2;have:=r.size;omega⟩
  ·injection e with e;exact Rel.not r (bw w0) G id _ hH Oe e
 ·injection G with G;subst G;exact .inr ⟨Od.1,_,_,bF.2 rfl,Od.1,Od.2⟩
end
def qQ(x:Int×Int):Rat:=ratio x.1 x.2
def Few(xs:List (Int×Int)):Prop:=∀x∈xs,ln x.1.natAbs<=10000000000/\ln x.2.natAbs<=10000000000
theorem LJ(F:Old S w)(h:fO w S v xs)(hf:Few xs)(Z:xs.length<=1000000):
  dx PG F'.th #[v] w (eH w fun v' V=>DH V FF w.heap.size [(w.heap.size,V.heap.size)] v' xs.length (xs.map qQ)):=by
 replace h:=fO.arg h [];obtain⟨a,c,rfl,hc,-⟩:=eD.shape h;refine xL (by simp) ?_;conv=>whnf
 refine⟨xs.length,xs.length,rfl,rfl,Nat.le_refl _,by omega,by omega,?_⟩;conv=>whnf
 refine⟨Nat×List (List Value)×Iv×World,fun z=>⟨[(3,.o (.s 0 0 xs.length xs.length)),(9,sV a xs.length c),(10,iZ xs.length),(11,iZ z.1)],[(0,.arr T.dK z.2.1.flatten)],1,z.2.2.1,z.2.2.2⟩,fun z=>xs.length-z.1,
  fun z=>z.1<=xs.length/\dT w.heap.size w z.2.2.2/\fO z.2.2.2 (Cv S w.heap.size z.2.2.1) (.slice a xs.length c) xs/\lY z.2.2.2 (Cf w z.2.2.1) xs.length z.1 z.2.1 (xs.map qQ),?_,?_⟩
 ·intro O J r;exact⟨(0,List.replicate xs.length f0,[],J),⟨by simp,r.cL,fO.rel h r F,lY.start _ _ _ _⟩,Sub.gn [] r⟩
 clear h;rintro⟨i,A,iv,w1⟩ ⟨D,Y,hX,hF⟩;dsimp only at D Y hX hF ⊢;conv=>whnf
 refine dB.mk ?_ ?_<;>intro h
 ·have h:i<xs.length:=by simpa using h
  obtain⟨x,L⟩:∃x,xs[i]? =some x:=⟨_,aB h⟩
  obtain⟨ad,U,rfl,hR,-,hl⟩:=eD.load hX L;obtain⟨b3,a3,n3,c3,b4,a4,n4,c4,rfl,hR⟩:=hR;obtain⟨f1,f2⟩:=hf x (aE L);conv=>whnf
  refine⟨ad,rfl,by omega,?_⟩;conv=>whnf
  refine⟨[.bool b3,.slice a3 n3 c3,.bool b4,.slice a4 n4 c4],rfl,fun O J r j u hu=>?_,?_⟩
  ·obtain⟨k1,k2⟩:=hl j u hu;have:=Rel.same r F k1;rw[aF,cJ (w:=w1) (V:=J) (by rw[c9,c9];exact this)];exact k2
  conv=>whnf
  refine cB (cG (Id:=fun _ J v V=>cP V (Nf J V) v (qQ x)) (fun O J r=>je (Rel.old r F) (hR.rel r F) (by omega) (by omega)) ?_);rintro O wa v1 wb r W hb hO;have hON:=hO.dD (S:=FF) r.bz (iv:=(wa.heap.size,wb.heap.size)::iv) aG;replace hF:=hF.cD (E:=(wa.heap.size,wb.heap.size)::iv) r (bw w) W fun x L=>aC _ L;replace hX:=fO.cD (E:=(wa.heap.size,wb.heap.size)::iv) hX r F W fun x L=>aC _ L;replace Y:=Y.tr hb;clear r W hb hO hl hR;generalize (wa.heap.size,wb.heap.size)::iv=OU at*
  obtain⟨b1,a1,n1,c1,b2,a2,n2,c2,rfl⟩:=hON.shape;have Oh:=hF.next h (q:=qQ x) (by rw[aM,L];rfl) hON
  conv=>whnf
  refine⟨by omega,?_⟩;conv=>whnf
  refine⟨by have:=hF.flat;omega,(A.set i [.bool b1,.slice a1 n1 c1,.bool b2,.slice a2 n2 c2]).flatten,?_,?_⟩
  ·have:=jI (U:=[.bool b1,.slice a1 n1 c1,.bool b2,.slice a2 n2 c2]) hF.four (show i<A.length by rw[hF.len];exact h);rw[<-this];simp
  conv=>whnf
  refine⟨((i+1:Nat):Int),wo,?_⟩;conv=>whnf
  intro IR w3 K;exact⟨(i+1,A.set i [.bool b1,.slice a1 n1 c1,.bool b2,.slice a2 n2 c2],OU,w3),⟨h,Y.tr K.cL,fO.rel hX K F,Oh.rel K (bw w)⟩,Sub.gn [] K,by dsimp only;omega⟩
 ·have h:i=xs.length:=by
   have:¬i<xs.length:=by simpa using h
   omega
  subst h;conv=>whnf
  exact rtn Y fun GT we re=>hF.done (by simp) (by unfold maxLen;omega) re (id:=0) rfl (re.nn 0 _ rfl (by intros;simp) (by simp))
structure iR(w:World)(S:Nat->Prop)(B:Nat)(iv:Iv)(rv:List Value)(n:Nat)(M:List (List Rat)):Prop where
 len:rv.length=M.length
 row:∀(i:Nat) v qs,rv[i]? =some v->M[i]? =some qs->l9 w (fun g=>Cv S B iv g/\¬ ∃u∈rv,u.ownBlock=some g) v n qs
 rW:∀(i j:Nat) a b g,rv[i]? =some a->rv[j]? =some b->a.ownBlock=some g->b.ownBlock=some g->i=j
 new:∀v∈rv,∀g,v.ownBlock=some g->Cv FF B iv g
theorem eI(B:Nat):∀g,(fun _:Nat=>False) g->g<B:=fun _ h=>h.elim
theorem Cg{B:Nat}{iv:Iv}{g:Nat}(h:Cv FF B iv g):Cv S B iv g:=h.elim (fun h=>h.elim) .inr
section
variable{S S':Nat->Prop}{H:Hp}{nx n i:Nat}{iv E:Iv}{B:Nat}{w w1 J V:World}{O:Nat->Sx.dL}{rv:List Value}{M:List (List Rat)}
theorem iR.cC(h:iR w S B iv rv n M)(R:∀g,Cv S B iv g->V.heap[g]? =w.heap[g]?):iR V S B iv rv n M:=
 ⟨h.len,fun i v qs I X=>(h.row i v qs I X).cC fun g G=>R g (G.elim (fun h=>h.1) fun G=>Cg (h.new v (aE I) g G)),h.rW,h.new⟩
theorem iR.rel(h:iR w S B iv rv n M)(r:Rel H nx iv B w O J)(F:∀g,S g->g<B):iR J S B iv rv n M:=h.cC fun _ G=>Rel.same r F G
theorem iR.cD(h:iR w S B iv rv n M)(r:Rel H nx iv B w O J)(F:∀g,S g->g<B)(W:Ext J V)(hm:∀p,p∈iv->p∈E):iR V S B E rv n M:=
 have X:=(h.rel r F).cC fun g G=>W.block g (Rel.old r F g G)
 ⟨X.len,fun i v qs k1 k2=>(X.row i v qs k1 k2).cF fun _ G=>⟨G.1.mono hm,G.2⟩,X.rW,fun v hv g G=>(X.new v hv g G).mono hm⟩
theorem iR.nil(w:World)(S:Nat->Prop)(B:Nat)(iv:Iv)(n:Nat):iR w S B iv [] n []:=⟨rfl,by simp,by simp,by simp⟩
theorem iR.snoc(h:iR w S B iv rv n M)(r:Rel H nx iv B w O J)(F:∀g,S g->g<B)(W:Ext J V)(hv:l9 V (fun g=>Cv S B ((J.heap.size,V.heap.size)::iv) g/\v.ownBlock≠some g/\¬ ∃u∈rv,u.ownBlock=some g) v n qs)
  (Q5:∀g,v.ownBlock=some g->J.heap.size<=g/\g<V.heap.size):iR V S B ((J.heap.size,V.heap.size)::iv) (rv++[v]) n (M++[qs]):=by
 have hold:∀g,Cv S B iv g->g<J.heap.size:=Rel.old r F;have X:=h.cD (E:=(J.heap.size,V.heap.size)::iv) r F W fun x L=>aC _ L;have Wq:∀g,Cv S B iv g->v.ownBlock≠some g:=fun g G e=>by have:=hold g G;have:=(Q5 g e).1;omega
 refine⟨by simp[h.len],fun i u ps N h4=>?_,fun i j a b g N h4 h5 h6=>?_,fun u hu g G=>?_⟩
 ·rcases aP i rv.length with D|D
  ·rw[aJ D]at N;rw[aJ (by rw[<-h.len];exact D)]at h4;have h5:=((h.rel r F).cC (V:=V) fun g G=>W.block g (hold g G)).row i u ps N h4;refine h5.cF fun g G=>⟨G.1.mono fun x L=>aC _ L,fun⟨x,L,e⟩=>?_⟩
   rcases List.mem_append.1 L with L|L
   ·exact G.2 ⟨x,L,e⟩
   ·simp at L;subst L;exact Wq g G.1 e
  ·rw[aN D]at N;rw[aN (by rw[<-h.len];exact D)]at h4;have h0:i-rv.length=0:=by
    have:=(aD.1 N).1;simp at this;omega
   rw[h0]at N;rw[<-h.len,h0]at h4;simp at N h4;subst N h4;refine hv.cF fun g G=>⟨G.1,fun⟨x,L,e⟩=>?_⟩
   rcases List.mem_append.1 L with L|L
   ·exact G.2.2 ⟨x,L,e⟩
   ·simp at L;subst L;exact G.2.1 e
 ·have key:∀(i:Nat) a,(rv++[v])[i]? =some a->rv[i]? =some a\/(i=rv.length/\a=v):=fun i a ha=>by
   rcases aP i rv.length with D|D
   ·rw[aJ D]at ha;exact .inl ha
   ·rw[aN D]at ha;have:=(aD.1 ha).1;simp at this;rw[this]at ha;simp at ha;exact .inr ⟨by omega,ha.symm⟩
  have hvn:∀(i:Nat) a,rv[i]? =some a->a.ownBlock=some g->v.ownBlock≠some g:=fun i a ha e=>Wq g (Cg (h.new a (aE ha) g e));rcases key i a N with k1|⟨k1,rfl⟩<;>rcases key j b h4 with k2|⟨k2,rfl⟩
  ·exact h.rW i j a b g k1 k2 h5 h6
  ·exact absurd h6 (hvn i a k1 h5)
  ·exact absurd h5 (hvn j b k2 h6)
  ·omega
 ·rcases List.mem_append.1 hu with hu|hu
  ·exact(h.new u hu g G).mono fun x L=>aC _ L
  ·simp at hu;subst hu;have:=Q5 g G;exact .inr ⟨by have:=r.bz;omega,_,_,aG,this.1,this.2⟩
theorem iR.I6(h:iR w S B iv rv n M)(r:Rel H nx iv B w O J)(F:∀g,S g->g<B)(hH:cV H id=some (.arr T.row rv))(Oe:(O id).nil=false)(hR:rv.length<=maxLen)(_h1:∀u∈rv,u.oneCell'=true):
  lM J (fun g=>Cv S B iv g/\¬Mb (.slice (some ⟨(O id).g,0,none⟩) rv.length rv.length) rv g) (.slice (some ⟨(O id).g,0,none⟩) rv.length rv.length) rv n M:=by
 have X:=h.rel r F;have Px:∀g,Cv S B iv g->(O id).g≠g:=fun g G=>Rel.not r F G id _ hH Oe;refine⟨⟨by simp,.inr ⟨(O id).g,rv.length,rv.toArray,rfl,aS _,r.arr id _ _ hH,Nat.le_refl _,hR,by simp,by simp⟩⟩,h.len,fun i v qs N h4=>?_,h.rW,fun v hv g G e=>?_⟩
 ·refine(X.row i v qs N h4).cF fun g G=>⟨G.1,fun hm=>?_⟩
  rcases hm with hm|hm
  ·injection hm with hm;exact Px g G.1 hm
  ·exact G.2 hm
 ·injection e with e;exact Px g (Cg (h.new v hv g G)) e
structure aAa(w:World)(S:Nat->Prop)(B:Nat)(iv:Iv)(vm:Value)(n:Nat)(M:List (List Rat)):Prop where
 ex:∃rv,lM w (fun g=>Cv S B iv g/\¬Mb vm rv g) vm rv n M/\∀g,Mb vm rv g->Cv FF B iv g
end
def dS(w:World)(S:Nat->Prop)(v:Value)(ps:List Nat):Prop:=iu w S 1 v (ps.map fun c:Nat=>.int .i64 (c:Int)) ps.length
theorem dS.cC{V:World}(h:dS w S v ps)(R:∀g,S g->V.heap[g]? =w.heap[g]?):dS V S v ps:=iu.cC h R
theorem dS.cF{S':Nat->Prop}(h:dS w S v ps)(R:∀g,S g->S' g):dS w S' v ps:=iu.cF h R
section
variable{S S':Nat->Prop}{H:Hp}{nx:Nat}{iv E:Iv}{B:Nat}{w J V:World}{O:Nat->Sx.dL}{v:Value}{ps:List Nat}
theorem dS.rel(h:dS w (Cv S B iv) v ps)(r:Rel H nx iv B w O J)(F:∀g,S g->g<B):dS J (Cv S B iv) v ps:=dS.cC h fun _ G=>Rel.same r F G
theorem dS.dD(h:dS V (Nf J V) v ps)(hB:B<=J.heap.size)(hm:(J.heap.size,V.heap.size)∈iv):dS V (Cv S B iv) v ps:=dS.cF h fun _ G=>G.dD hB hm
end
section
variable{S S':Nat->Prop}{H:Hp}{nx n:Nat}{iv E:Iv}{B:Nat}{w J V:World}{O:Nat->Sx.dL}{v:Value}{qs:List Rat}
end
def fq(F8:List (List Rat))(pv:List Nat)(cols c i:Nat):List Rat:=(List.range i).foldl (fun x i=>x.set (pv.getD i 0) (-(cW F8 i c))) ((List.replicate cols 0).set c 1)
def eL(F8:List (List Rat))(pv:List Nat)(cols c:Nat):List (List Rat):=((List.range c).filter fun c=>decide (c∉pv)).map fun c=>fq F8 pv cols c pv.length
theorem gl(F8:List (List Rat))(pv:List Nat)(cols c i:Nat):fq F8 pv cols c (i+1)=(fq F8 pv cols c i).set (pv.getD i 0) (-(cW F8 i c)):=by
 rw[fq,bW,List.foldl_append];rfl
theorem ju(F8:List (List Rat))(pv:List Nat)(cols c i:Nat):(fq F8 pv cols c i).length=cols:=by
 induction i with
 |zero=>simp[fq]
 |succ i ih=>rw[gl,bX,ih]
theorem Ej{cols c:Nat}(h:c∈pv):eL F8 pv cols (c+1)=eL F8 pv cols c:=by
 rw[eL,bW,List.filter_append];simp[h,eL]
theorem Cp{cols c:Nat}(h:c∉pv):eL F8 pv cols (c+1)=eL F8 pv cols c++[fq F8 pv cols c pv.length]:=by
 rw[eL,bW,List.filter_append];simp[h,eL]
theorem dG.rowOf(h:gj w S S v qs):∃a c,v= .slice a qs.length c:=by
 obtain⟨a,c,h,_⟩:=h.shape;exact⟨a,c,h⟩
theorem gj.from{a:Option Addr}{n c k:Nat}(h:gj w C S (.slice a n c) qs)(R:k<=n):
  gj w C S (.slice (if (c:Int)=(k:Int)then a else a.map (·.add (k*4))) (n-k) (c-k)) (qs.drop k):=by
 obtain⟨A,⟨h0,I,X,a',c',e,N,h4⟩,hf⟩:=h;injection e with e1 e2 e3;subst e1 e2 e3;have hd:(A.drop k).flatten=A.flatten.drop (k*4):=by
  have:=eo (A:=A.take k) (fun U hc=>hf.nH U (bS hc));conv=>rhs;rw[<-List.take_append_drop k A,List.flatten_append]
  have hl:(A.take k).length=k:=by rw[aZ,hf.1];omega
  rw[hl]at this;rw[<-this,List.drop_left]
 refine⟨A.drop k,⟨?_,?_,?_,_,c-k,by rw[List.length_drop],by simp;omega,fun j u hu=>?_⟩,?_,fun j U q hc hq=>?_⟩
 ·simp;omega
 ·rw[hd,List.length_drop,I,List.length_drop,Nat.sub_mul]
 ·intro u hu;rw[hd]at hu;exact X u (List.mem_of_mem_drop hu)
 ·rw[hd,List.getElem?_drop]at hu;obtain⟨ad,k1,k2,k3⟩:=h4 (k*4+j) u hu;have Ou:=(aD.1 hu).1;subst k1;rw[aI (by omega)];refine⟨ad.add (k*4),rfl,by rw[c9];exact k2,?_⟩;rw[<-k3];have:(ad.add (k*4)).add j=ad.add (k*4+j):=by
   unfold Addr.add;split<;>split<;>simp_all<;>omega
  rw[this]
 ·rw[List.length_drop,List.length_drop,hf.1]
 ·rw[List.getElem?_drop]at hc hq;exact hf.2 _ U q hc hq
theorem Ec(hC:Old C w)(F:Old S w)(h:gj w C S v qs)(Z:0<qs.length)(hl:qs.length<=1000000):
  dx PG F'.fC #[v] w (eH w fun v' V=>l9 V S v' qs.length qs/\(∀g,v'.ownBlock=some g->w.heap.size<=g/\g<V.heap.size)):=by
 obtain⟨a,c,rfl,hc,hm⟩:=h.shape;obtain⟨A,⟨h0,I,X,a',c',e,N,h4⟩,hf⟩:=h;injection e with e1 e2 e3;subst e1 e3;have PZ:A.length=qs.length:=hf.1;obtain⟨ad,rfl⟩:∃ad,a=some ad:=by
  obtain⟨ad,k1,_⟩:=h4 0 _ (aB (show 0<A.flatten.length by omega));exact⟨ad,k1⟩
 refine gS (by simp) ?_;conv=>whnf
 refine⟨false,fun O w1 o1 o2=>by simp[eqGuard,SV.den,At.den,mu (P:=PG) w1 T.row T.dK (some ad) qs.length c 0 0 M8],?_⟩;conv=>whnf
 refine .inl ?_;conv=>whnf
 refine⟨A.flatten,I,X,fun O w1 r h0=>⟨ad,rfl,fun j u hu=>?_⟩,?_⟩
 ·obtain⟨ad2,k1,k2,k3⟩:=h4 j u hu;injection k1 with k1;subst k1;exact jl hC dT.refl r k2 k3
 conv=>whnf
 refine⟨rfl,by omega,by unfold maxLen;omega,?_⟩;conv=>whnf
 intro IR w3 K;refine⟨_,rfl,K.cL,?_⟩;have hf3:Fr w3 S A qs:=hf.cC fun g G=>K.cL.block g (F g G);rcases K.vec 1 T.dK 4 A.flatten rfl with⟨Oe,hemp⟩|⟨Oe,spare,hb,hcp,QF⟩
 ·rw[hemp]at I;simp at I;omega
 have Od:=K.low 1 _ rfl Oe;have TT:((At.w 1 (0+qs.length)).den IR)= .slice (some ⟨(IR 1).g,0,none⟩) qs.length (IR 1).cap:=by simp[At.den,Oe]
 show l9 w3 S ((At.w 1 (0+qs.length)).den IR) qs.length qs/\∀g,((At.w 1 (0+qs.length)).den IR).ownBlock=some g->_;rw[TT];have hls:(A.flatten++spare).length=A.flatten.length+spare.length:=List.length_append;refine⟨⟨A,⟨I,.inr ⟨(IR 1).g,(IR 1).cap,(A.flatten++spare).toArray,rfl,aS _,hb,by omega,QF,by simpa using hcp,?_⟩⟩,PZ,hf3⟩,fun g G=>?_⟩
 ·rw[<-I];simp
 ·injection G with G;subst G;exact Od
abbrev kX(M:List (List (Int×Int))):List (List Rat):=M.map fun r=>r.map qQ
def gW(F8:List (List Rat))(pv:List Nat)(cols i:Nat):List Rat:=(List.range i).foldl (fun x i=>x.set (pv.getD i 0) (cW F8 i cols)) (List.replicate cols 0)
theorem gp(F8:List (List Rat))(pv:List Nat)(cols i:Nat):gW F8 pv cols (i+1)=(gW F8 pv cols i).set (pv.getD i 0) (cW F8 i cols):=by
 rw[gW,bW,List.foldl_append];rfl
structure aA8(w:World)(B:Nat)(iv:Iv)(rv:List Value)(v:Value)(n:Nat)(qs:List Rat):Prop where
 row:l9 w (fun g=>(Cv FF B iv g/\¬ ∃u∈rv,u.ownBlock=some g)/\v.ownBlock≠some g) v n qs
 oz:∀g,v.ownBlock=some g->Cv FF B iv g
section
variable{H:Hp}{nx n:Nat}{iv E:Iv}{B:Nat}{w J V:World}{O:Nat->Sx.dL}{v:Value}{qs:List Rat}{rv:List Value}
theorem cP.lim{u:Value}(h:cP V (Nf J V) u q)(r:Rel H nx iv B w O J)(OX:∀u∈rv,∀g,u.ownBlock=some g->Cv FF B iv g):
  cP V (fun g=>Cv FF B ((J.heap.size,V.heap.size)::iv) g/\¬ ∃u∈rv,u.ownBlock=some g) u q:=
 h.cF fun g G=>by
  rcases G with G|G
  ·exact G.elim
  ·refine⟨.inr ⟨by have:=r.bz;omega,_,_,aG,G.1,G.2⟩,fun⟨u,hu,e⟩=>?_⟩;have:=Rel.old r (eI B) g (OX u hu g e);omega
end
def jA(w:World)(S:Nat->Prop)(U:List Value)(q:Rat):Prop:=∃b a n c b2 a2 n2 c2,U=[.bool b,.slice a n c,.bool b2,.slice a2 n2 c2]/\cN w S (.agg #[.bool b,.slice a n c,.bool b2,.slice a2 n2 c2]) q
abbrev cS:=eD jA
abbrev cT:=dG cS
section
variable{S S':Nat->Prop}{H:Hp}{nx:Nat}{iv E:Iv}{B:Nat}{w J V:World}{O:Nat->Sx.dL}{v:Value}{qs:List Rat}{U:List Value}{q:Rat}
theorem jA.cC(h:jA w S U q)(R:∀g,S g->V.heap[g]? =w.heap[g]?):jA V S U q:=by
 obtain⟨b,a,n,c,b2,a2,n2,c2,I,X⟩:=h;exact⟨b,a,n,c,b2,a2,n2,c2,I,X.cC R⟩
theorem jA.cF(h:jA w S U q)(R:∀g,S g->S' g):jA w S' U q:=by
 obtain⟨b,a,n,c,b2,a2,n2,c2,I,X⟩:=h;exact⟨b,a,n,c,b2,a2,n2,c2,I,X.cF R⟩
theorem cS.cC(h:cS w S v qs)(R:∀g,S g->V.heap[g]? =w.heap[g]?):cS V S v qs:=by
 obtain⟨A,I,X,N,h4⟩:=h;exact⟨A,I.cC R,X,N,fun j U x k1 k2=>(h4 j U x k1 k2).cC R⟩
theorem cS.cF(h:cS w S v qs)(R:∀g,S g->S' g):cS w S' v qs:=by
 obtain⟨A,I,X,N,h4⟩:=h;exact⟨A,I.cF R,X,N,fun j U x k1 k2=>(h4 j U x k1 k2).cF R⟩
theorem cT.cC{M:List (List Rat)}(h:cT w S v M)(R:∀g,S g->V.heap[g]? =w.heap[g]?):cT V S v M:=by
 obtain⟨rv,I,X,N⟩:=h;exact⟨rv,I.cC R,X,fun i u x k1 k2=>cS.cC (N i u x k1 k2) R⟩
theorem cT.cF{M:List (List Rat)}(h:cT w S v M)(R:∀g,S g->S' g):cT w S' v M:=by
 obtain⟨rv,I,X,N⟩:=h;exact⟨rv,I.cF R,X,fun i u x k1 k2=>cS.cF (N i u x k1 k2) R⟩
end
section
variable{S S':Nat->Prop}{H:Hp}{nx:Nat}{iv E:Iv}{B:Nat}{w J V:World}{O:Nat->Sx.dL}{v:Value}{qs:List Rat}
theorem cS.rel(h:cS w (Cv S B iv) v qs)(r:Rel H nx iv B w O J)(F:∀g,S g->g<B):cS J (Cv S B iv) v qs:=cS.cC h fun _ G=>Rel.same r F G
theorem cS.cD(h:cS w (Cv S B iv) v qs)(r:Rel H nx iv B w O J)(F:∀g,S g->g<B)(W:Ext J V)(hm:∀p,p∈iv->p∈E):cS V (Cv S B E) v qs:=
 cS.cF (cS.cC (cS.rel h r F) fun g G=>W.block g (Rel.old r F g G)) fun _ G=>G.mono hm
theorem cS.dD(h:cS V (Nf J V) v qs)(hB:B<=J.heap.size)(hm:(J.heap.size,V.heap.size)∈iv):cS V (Cv S B iv) v qs:=cS.cF h fun _ G=>G.dD hB hm
theorem cS.out{w1:World}(h:cS w1 (Cv S w0.heap.size iv) v qs)(r:Rel H nx iv w0.heap.size w1 O J)(F:Old S w0):cS J (Nw S w0 J) v qs:=
 cS.cF (cS.rel h r F) fun _ G=>Cv.nw G r
end
section
variable{S S':Nat->Prop}{H:Hp}{nx:Nat}{iv E:Iv}{B:Nat}{w J V:World}{O:Nat->Sx.dL}{v:Value}{M:List (List Rat)}
theorem cT.rel(h:cT w (Cv S B iv) v M)(r:Rel H nx iv B w O J)(F:∀g,S g->g<B):cT J (Cv S B iv) v M:=cT.cC h fun _ G=>Rel.same r F G
theorem cT.cD(h:cT w (Cv S B iv) v M)(r:Rel H nx iv B w O J)(F:∀g,S g->g<B)(W:Ext J V)(hm:∀p,p∈iv->p∈E):cT V (Cv S B E) v M:=
 cT.cF (cT.cC (cT.rel h r F) fun g G=>W.block g (Rel.old r F g G)) fun _ G=>G.mono hm
theorem cT.dD(h:cT V (Nf J V) v M)(hB:B<=J.heap.size)(hm:(J.heap.size,V.heap.size)∈iv):cT V (Cv S B iv) v M:=cT.cF h fun _ G=>G.dD hB hm
theorem cT.old(h:cT V (Nw (Cv S B iv) J V) v M)(hB:B<=J.heap.size):cT V (Cv S B ((J.heap.size,V.heap.size)::iv)) v M:=cT.cF h fun _ G=>Nw.cv G hB
theorem cT.out{w1:World}(h:cT w1 (Cv S w0.heap.size iv) v M)(r:Rel H nx iv w0.heap.size w1 O J)(F:Old S w0):cT J (Nw S w0 J) v M:=
 cT.cF (cT.rel h r F) fun _ G=>Cv.nw G r
end
theorem jv(F8:List (List Rat))(pv:List Nat)(cols i:Nat):(gW F8 pv cols i).length=cols:=by
 induction i with
 |zero=>simp[gW]
 |succ i ih=>rw[gp,bX,ih]
theorem Ei(F8:List (List Rat))(pv:List Nat)(cols c:Nat):(eL F8 pv cols c).length<=c:=by
 unfold eL;rw[aL];exact aW (List.length_filter_le _ _) (by simp)
end Go.Ex
namespace Go.Ex
variable{ds l:List Nat}
def dC:List Int->Int
 |[]=>0
 |c::r=>c+65536*dC r
def up(k:Nat):Int:=65536^k
theorem CN(k:Nat):up (k+1)=65536*up k:=by rw[up,Int.pow_succ,Int.mul_comm];rfl
theorem KM(k:Nat):0<up k:=Int.pow_pos (by decide)
theorem AW(a b:List Int):dC (a++b)=dC a+up a.length*dC b:=by
 induction a with
 |nil=>simp[dC,up]
 |cons c r ih=>rw[List.cons_append,dC,ih,dC,List.length_cons,CN,Int.mul_add,<-Int.mul_assoc];omega
theorem GB(a:List Int):dC (a.map (- ·))= -dC a:=by
 induction a with
 |nil=>rfl
 |cons c r ih=>rw[List.map_cons,dC,ih,dC];omega
def Dg(l:List Nat):Prop:=∀d∈l,d<65536
def l8(l:List Nat):Int:=dC (l.map fun d:Nat=>(d:Int))
theorem zC(h:Dg l):0<=l8 l/\l8 l<up l.length:=by
 induction l with
 |nil=>exact⟨Int.le_refl _,by decide⟩
 |cons d r ih=>
  have I:=ih fun x L=>h x (aC _ L);have X:=h d aG;have e:l8 (d::r)=(d:Int)+65536*l8 r:=rfl;rw[e,List.length_cons,CN];omega
def dH:List Int->Int->List Nat×Int
 |[],k=>([],k)
 |c::r,k=>(((c+k) % 65536).toNat::(dH r ((c+k) / 65536)).1,(dH r ((c+k) / 65536)).2)
theorem kf:∀(U:List Int) (k:Int),dC U+k=l8 (dH U k).1+up U.length*(dH U k).2/\Dg (dH U k).1/\(dH U k).1.length=U.length
 |[],k=>⟨by simp[dC,dH,l8,up],by simp[dH,Dg],rfl⟩
 |c::r,k=>by
  obtain⟨I,X,N⟩:=kf r ((c+k) / 65536);have h4:0<=(c+k) % 65536:=Int.emod_nonneg _ (by decide);have h5:(c+k) % 65536<65536:=Int.emod_lt_of_pos _ (by decide);have h6:=Int.mul_ediv_add_emod (c+k) 65536;refine⟨?_,fun d hd=>?_,by simp[dH,N]⟩
  ·have e:l8 (dH (c::r) k).1=(((c+k) % 65536).toNat:Int)+65536*l8 (dH r ((c+k) / 65536)).1:=rfl;have e2:(dH (c::r) k).2=(dH r ((c+k) / 65536)).2:=rfl;rw[e,e2,dC,List.length_cons,CN,Int.mul_assoc];omega
  ·have e:(dH (c::r) k).1=((c+k) % 65536).toNat::(dH r ((c+k) / 65536)).1:=rfl;rw[e]at hd;rcases List.mem_cons.1 hd with rfl|hd
   ·omega
   ·exact X d hd
theorem CO(U:List Int)(c k:Int):dH (U++[c]) k=((dH U k).1++[((c+(dH U k).2) % 65536).toNat],(c+(dH U k).2) / 65536):=by
 induction U generalizing k with
 |nil=>rfl
 |cons d r ih=>simp only[List.cons_append,dH,ih]
theorem jy:∀(U:List Int) (k:Int),(∀c∈U,-1152921504606846976<=c/\c<=1152921504606846976)-> -1152921504606846976<=k->k<=1152921504606846976-> -1152921504606846976<=(dH U k).2/\(dH U k).2<=1152921504606846976
 |[],k,_,I,X=>⟨I,X⟩
 |c::r,k,h,I,X=>by
  have hc:=h c aG;exact jy r _ (fun x L=>h x (aC _ L)) (by omega) (by omega)
def ct(n:Nat):List Nat:=if h:n=0 then []else n % 65536::ct (n / 65536)
termination_by n
decreasing_by omega
theorem kg:ct 0=[]:=by rw[ct];rfl
theorem pS{n:Nat}(h:0<n):ct n=n % 65536::ct (n / 65536):=by
 rw[ct,dif_neg (by omega)]
theorem kh(n:Nat):l8 (ct n)=n/\Dg (ct n):=by
 induction n using Nat.strongRecOn with
 |_ n ih=>
  rcases bJ n with h|h
  ·subst h;rw[kg];exact⟨rfl,by simp[Dg]⟩
  ·rw[pS h];obtain⟨I,X⟩:=ih (n / 65536) (by omega);refine⟨?_,fun d hd=>?_⟩
   ·have e:l8 (n % 65536::ct (n / 65536))=((n % 65536:Nat):Int)+65536*l8 (ct (n / 65536)):=rfl;rw[e,I];omega
   ·rcases List.mem_cons.1 hd with rfl|hd
    ·omega
    ·exact X d hd
theorem jY{n:Nat}:∀{k:Nat},n<65536^k->(ct n).length<=k
 |0,h=>by
  have:n=0:=by simp at h;exact h
  subst this;rw[kg];simp
 |k+1,h=>by
  rcases bJ n with h0|h0
  ·subst h0;rw[kg];simp
  ·rw[pS h0,List.length_cons];have:=jY (n:=n / 65536) (k:=k) (by rw[Nat.pow_succ]at h;exact Nat.div_lt_of_lt_mul (by rw[bL];exact h));omega
def gZ:List Nat->List Nat
 |[]=>[]
 |[a]=>[a]
 |a::b::r=>(a+65536*b)::gZ r
theorem zD:∀(l:List Nat),Dg l->(val (gZ l):Int)=l8 l/\Lm (gZ l)/\(gZ l).length=(l.length+1) / 2
 |[],_=>⟨rfl,by simp[gZ,Lm],rfl⟩
 |[a],h=>by
  have:=h a (by simp);exact⟨by simp[gZ,val,l8,dC],fun x L=>by simp[gZ]at L;omega,by simp[gZ]⟩
 |a::b::r,h=>by
  obtain⟨I,X,N⟩:=zD r fun x L=>h x (aC _ (aC _ L));have ha:=h a (by simp);have hb:=h b (by simp);refine⟨?_,fun x L=>?_,?_⟩
  ·have e:l8 (a::b::r)=(a:Int)+65536*((b:Int)+65536*l8 r):=rfl;rw[e,<-I,gZ,val];simp only[Int.natCast_add,Int.natCast_mul]
   omega
  ·rw[gZ]at L;rcases List.mem_cons.1 L with rfl|L
   ·omega
   ·exact X x L
  ·rw[gZ,List.length_cons,N];simp only[List.length_cons]
   omega
def pk(ds:List Nat)(k:Nat):List Nat:=(List.range k).map fun i=>ds.getD (2*i) 0+65536*ds.getD (2*i+1) 0
theorem xk(ds:List Nat)(k:Nat):pk ds (k+1)=pk ds k++[ds.getD (2*k) 0+65536*ds.getD (2*k+1) 0]:=by simp[pk,bW]
theorem vC(ds:List Nat)(k:Nat):(pk ds k).length=k:=by simp[pk]
theorem KN:∀(ds:List Nat),pk ds ((ds.length+1) / 2)=gZ ds
 |[]=>rfl
 |[a]=>by simp[pk,gZ,bW]
 |a::b::r=>by
  have ih:=KN r;have e:((a::b::r).length+1) / 2=(r.length+1) / 2+1:=by simp only[List.length_cons];omega
  rw[e,gZ,<-ih,pk,List.range_succ_eq_map,List.map_cons,List.map_map,pk];congr 1
theorem KO(h:Dg ds)(k:Nat):Lm (pk ds k):=fun x L=>by
 obtain⟨i,_,rfl⟩:=aR.1 L;have key:∀j,ds.getD j 0<65536:=fun j=>by
  rw[List.getD]
  cases hj:ds[j]? with
  |none=>simp
  |some d=>simp;exact h d (aE hj)
 have I:=key (2*i);have X:=key (2*i+1);omega
end Go.Ex
namespace Go.Ex
open Go Go.Sx Go.Proofs
variable{U:List Int}{S:Nat->Prop}{v:Value}{w:World}
def dR(w:World)(S:Nat->Prop)(v:Value)(U:List Int):Prop:=iu w S 1 v (U.map (Value.int .i64)) U.length
theorem dR.cC{V:World}(h:dR w S v U)(R:∀g,S g->V.heap[g]? =w.heap[g]?):dR V S v U:=iu.cC h R
theorem dR.cF{S':Nat->Prop}(h:dR w S v U)(R:∀g,S g->S' g):dR w S' v U:=iu.cF h R
theorem dR.load{a:Option Addr}{n c j:Nat}{x:Int}(h:dR w S (.slice a n c) U)(L:U[j]? =some x):∃ad,a=some ad/\S ad.block/\w.cell? (ad.add (j*1))=some (.int .i64 x):=by
 obtain⟨_,_,_,a',c',e,_,h4⟩:=h;injection e with e1 e2 e3;subst e1;obtain⟨ad,k1,k2,k3⟩:=h4 j (.int .i64 x) (by rw[aM,L];rfl);exact⟨ad,k1,k2,by rw[aY];exact k3⟩
theorem dR.shape(h:dR w S v U):∃a c,v= .slice a U.length c/\U.length<=c:=by
 obtain⟨_,_,_,a',c',e,N,_⟩:=h;exact⟨a',c',e,N⟩
def dZ(ds:List Nat):List Int:=ds.map fun d:Nat=>(d:Int)
theorem ec(ds:List Nat):(dZ ds).length=ds.length:=by simp[dZ]
end Go.Ex
namespace Go.Sx
open Go Go.Ex Go.Proofs
variable{U:List Value}{O:Nat->Sx.dL}
theorem Rel.DI{H:Hp}{nx:Nat}{iv:Iv}{B:Nat}{w J:World}(r:Rel H nx iv B w O J){id t m sz:Nat}(h:cV H id=some (.vec t sz U))(hm:U.length=m*sz)(hs:0<sz):
  J.ownsRow B t sz ((At.w id m).den O) m U:=by
 rcases r.vec id t sz _ h with⟨Z,rfl⟩|⟨Z,spare,hb,hc,QF⟩
 ·have Ut:m=0:=by
   rcases bJ m with h|h
   ·exact h
   ·have:=Nat.mul_pos h hs;simp at hm;omega
  subst Ut;have:(At.w id 0).den O= .slice none 0 0:=by simp[At.den,Z]
  rw[this];exact World.ownsRow_nil _ _ _ _
 ·have hv:(At.w id m).den O= .slice (some ⟨(O id).g,0,none⟩) m (O id).cap:=by simp[At.den,Z]
  have I:(U++spare).length=U.length+spare.length:=List.length_append;rw[hv];refine⟨hm,.inr ⟨(O id).g,(O id).cap,_,rfl,(r.low id _ h Z).1,hb,?_,QF,by simpa using hc,?_⟩⟩
  ·have X:m*sz<=(O id).cap*sz:=by omega
   exact Nat.le_of_mul_le_mul_right X hs
  ·rw[<-hm];simp
end Go.Sx
namespace Go.Ex
open Go Go.Sx Go.Proofs
theorem FA(n:Nat)(w:World)(Z:n<=9223372036854775807):dx PG F'.tn #[.int .i64 n] w (eH w fun v V=>dR V (Nf w V) v (dZ (ct n))):=by
 refine xP (by simp) ?_
 refine⟨Nat×List Nat×World,fun z=>⟨[(0,iZ z.1),(3,.o (.w 0 z.2.1.length))],[(0,.vec T.int 1 ((dZ z.2.1).map (Value.int .i64)))],1,[],z.2.2⟩,fun z=>z.1,
  fun z=>dT w.heap.size w z.2.2/\z.1<=n/\z.2.1.length<=n-z.1/\z.2.1++ct z.1=ct n,?_,?_⟩
 ·intro O J r
  exact⟨(n,[],J),⟨r.cL,Nat.le_refl _,by simp,by simp⟩,Sub.nil 3 T.int 1 rfl (by simp[l5,SV.sc,At.sc,iW]) r fun In r1=>
   Sub.gn [] r1⟩
 rintro⟨k,ds,w1⟩ ⟨Y,R,hl,hs⟩;dsimp only at Y R hl hs ⊢;have Rq:=ec ds;refine dB.mk ?_ ?_<;>intro h
 ·have h:0<k:=by
   have:(k:Int)>0:=aK h;omega
  refine⟨by decide,((k % 65536:Nat):Int),LK k 65536,?_⟩;refine .inl ?_;refine⟨by simp[Rq],?_,by have I:=congrArg List.length hs;rw[List.length_append]at I;have X:=jY (n:=n) (k:=4) (by omega);unfold maxLen;omega,?_⟩
  ·have I:=congrArg List.length hs;rw[List.length_append]at I;have X:=jY (n:=n) (k:=4) (by omega);omega
  refine⟨by decide,((k / 65536:Nat):Int),M7 (by omega),?_⟩;intro IR w3 K;have hl5:(ds++[k % 65536]).length=ds.length+1:=by simp
  have Td:(dZ (ds++[k % 65536])).map (Value.int .i64)=(dZ ds).map (Value.int .i64)++[.int .i64 ((k % 65536:Nat):Int)]:=by simp[dZ]
  refine⟨(k / 65536,ds++[k % 65536],w3),⟨Y.tr K.cL,by dsimp only;omega,by dsimp only;rw[hl5];omega,?_⟩,
   Sub.gn [(0,2)] K ⟨by rw[Td];rfl,trivial⟩ ⟨rfl,by dsimp only;rw[hl5];rfl,trivial⟩,by dsimp only;omega⟩
  dsimp only
  rw[<-hs,pS h];simp
 ·have h:k=0:=by
   have:¬(k:Int)>0:=aH h;omega
  subst h;rw[kg,List.append_nil]at hs;subst hs;intro GT we re;refine⟨_,rfl,Y.tr re.cL,?_⟩;have:=re.kQ (id:=0) (sz:=1) (m:=(ct n).length) rfl (by simp[Rq]) (by have X:=jY (n:=n) (k:=4) (by omega);unfold maxLen;omega) (by decide) (by intro u hu;simp at hu;obtain⟨_,_,rfl⟩:=hu;rfl);unfold dR;rw[Rq];exact this.cF fun g G=>.inr G
end Go.Ex
