/- Texts X39 to X43: lemmas, each with its conditions. -/
import Derived.Test.YtbffinhkognefaaGreatDoorP6
namespace Go.Ex
open Go Go.Sx Go.Proofs
variable{Fn:List (List Rat)}{parts:List (Value×List Value×Nat)}{ps pv:List Nat}{qs:List Rat}{c cols x:Nat}{C S:Nat->Prop}{a:Option Addr}{q:Rat}{v:Value}{w:World}
abbrev aBN:=te
theorem Ob(n:Nat)(w:World)(U:n<=1000000000000):
  eL PG FS.fW #[nls,iV n] w (eY w fun v' F=>F.ownsRow w.heap.size T.dO 4 v' 0 []):=by
 refine iW ce ?_;conv=>whnf
 refine zX (e:=T.dO) aBN d8 (fun O w1 r=>?_);have A:=r.cj;clear r;conv=>whnf
 refine⟨0,rfl,?_⟩;conv=>whnf
 refine⟨(n:Int),by show IntKind.wrap .i64 ((n:Int)-0)=_;rw[wrap64]<;>omega,?_⟩;conv=>whnf
 apply bS<;>intro h
 .have h:0<n:=by have:=aJ h;omega
  conv=>whnf
  refine zX (e:=T.dO) aBN d8 (fun O F r=>?_);replace A:=A.tr r.cj;clear r;conv=>whnf
  refine⟨⟨be,be,be⟩,none,0,0,d8,be,be,?_⟩;conv=>whnf
  refine DD hτ (Bc:=w.heap.size) lr d8 d8 ((hτ T.int _ rfl).i1 rfl) bv d8 d8 h mx be (fun O w3 w4 c r hc Pm V hs=>?_);have Rd:Bq w w4:=(A.tr r.cj).tr (Bel.grown V (fun g V=>by cases V) (by have:=r.base;have:=r.size;omega));have hw3:=(A.tr r.cj).size;clear r;generalize w3.heap.size=g0 at*
  conv=>whnf
  refine⟨⟨be,be,be⟩,some ⟨g0,0,none⟩,0,c,by split<;>rfl,be,be,?_⟩;conv=>whnf
  intro Id w5 r5
  exact⟨_,rfl,Rd.tr r5.cj,fh Pm (fun b A=>by
   have A:g0=b:=by injection A
   exact⟨g0,g0+1,by simp[hs],be,be⟩) r5⟩
 .conv=>whnf
  intro Id w5 r5;exact⟨_,rfl,A.tr r5.cj,World.ownsRow_nil _ _ _ _⟩
theorem Ky(W:Old S w)(h:fe w S 1 v (parts.map (·.1)) parts.length)(hp:∀p∈parts,fe w S 4 p.1 p.2.1 p.2.2)(hN:jT parts<=1000000000000):
  eL PG FS.e8 #[v] w (eY w fun v' F=>F.ownsRow w.heap.size T.dO 4 v' (jT parts) (parts.flatMap (·.2.1))):=by
 obtain⟨VH,-,-,a,c,rfl,VI,QA⟩:=h;have hle:∀k,jT (parts.take k)<=jT parts:=fun k=>by
  conv=>rhs;rw[<-List.take_append_drop k parts,o9]
  omega
 have RC:∀(i:Nat) p,parts[i]? =some p->jT (parts.take (i+1))=jT (parts.take i)+p.2.2:=fun i p hp=>by
  rw[bM,hp,o9];simp[jT]
 have WD:∀(i:Nat) p,parts[i]? =some p->(parts.take (i+1)).flatMap (·.2.1)=(parts.take i).flatMap (·.2.1)++p.2.1:=fun i p hp=>by
  rw[bM,hp];simp
 have SJ:∀(i:Nat) p,parts[i]? =some p->∃ad an ac,a=some ad/\S ad.block/\w.cell? (ad.add i)=some (.slice an p.2.2 ac)/\p.1= .slice an p.2.2 ac:=fun i p N=>by
  obtain⟨ad,Y,I,h3⟩:=QA i p.1 (by rw[aU,N];rfl);obtain⟨_,_,_,an,ac,h4,_⟩:=hp p (aG N);exact⟨ad,an,ac,Y,I,by rw[h3,h4],h4⟩
 unfold maxLen at VH;refine iJ ce ?_;conv=>whnf
 refine⟨Nat×World,fun z=>⟨[(0,sV a parts.length c),(3,.o (.v (iV (jT (parts.take z.1):Nat)))),(9,sV a parts.length c),(10,iZ parts.length),(11,iZ z.1)],[],0,[],z.2⟩,
  fun z=>parts.length-z.1,fun z=>z.1<=parts.length/\Bq w z.2,?_,?_⟩
 .intro O J r;exact⟨(0,J),⟨ce,r.cj⟩,sbgn [] r⟩
 .rintro⟨i,w1⟩ ⟨N,G⟩;dsimp only at N G ⊢;conv=>whnf
  apply bS<;>intro h
  .have h:=dL h;obtain⟨p,Si⟩:=gO parts i;obtain⟨ad,an,ac,Y,I,h3,h4⟩:=SJ i p Si;have XS:=RC i p Si;have TO:=hle (i+1);conv=>whnf
   refine⟨ad,Y,be,?_⟩;conv=>whnf
   refine⟨.slice an p.2.2 ac,fun O J r=>by simpa using gN W G r I h3,?_⟩;conv=>whnf
   refine⟨((jT (parts.take (i+1)):Nat):Int),wo,?_⟩;conv=>whnf
   refine inc i ?_;conv=>whnf
   intro I8 w3 r3;exact⟨(i+1,w3),⟨h,G.tr r3.cj⟩,sbgn [] r3,by simp;omega⟩
  .have h:i=parts.length:=by
    have:¬i<parts.length:=by simpa using h
    omega
   subst h;clear N;rw[bK];conv=>whnf
   refine cW (cU (GT:=fun _ J v F=>F.ownsRow J.heap.size T.dO 4 v 0 []) (fun O J r=>Ob _ J be) ?_);rintro O wa v1 wb r L A Pm;have QK:=r.cZ;have hes:=L.size;have Xz:xL [(wa.heap.size,wb.heap.size)] v1:=fun b A=>⟨_,_,aX.2 rfl,(ownsRow.low Pm b A).1,(ownsRow.low Pm b A).2⟩
   replace Pm:wb.ownsRow w.heap.size T.dO 4 v1 0 []:=⟨Pm.1,Pm.2.imp id fun⟨g,cap,cur,k1,k2,k3⟩=>⟨g,cap,cur,k1,be,k3⟩⟩
   replace G:=G.tr A;clear r L;obtain⟨a1,c1,rfl,-⟩:=ef Pm;conv=>whnf
   refine⟨Nat×Value×World,fun z=>⟨[(0,sV a parts.length c),(6,.o (.v z.2.1)),(25,sV a parts.length c),(26,iZ parts.length),(27,iZ z.1)],[],0,en z.2.1,z.2.2⟩,
    fun z=>parts.length-z.1,fun z=>z.1<=parts.length/\Bq w z.2.2/\z.2.2.ownsRow w.heap.size T.dO 4 z.2.1 (jT (parts.take z.1)) ((parts.take z.1).flatMap (·.2.1)),?_,?_⟩
   .intro O J r;exact⟨(0,.slice a1 0 c1,J),⟨ce,G.tr r.cj,by simpa [jT]using fh Pm Xz r⟩,Sub.aAq [] r trivial ⟨rfl,rfl,rfl,rfl,rfl,trivial⟩ (by simp[DA]) (by simp[jn,SV.sc,At.sc]) d8 Xz.iv⟩
   .rintro⟨i,v1,w1⟩ ⟨N,G,Pm⟩;dsimp only at N G Pm ⊢;obtain⟨a1,c1,rfl,-⟩:=ef Pm;conv=>whnf
    apply bS<;>intro h
    .have h:=dL h;obtain⟨p,Si⟩:=gO parts i;obtain⟨ad,an,ac,Y,I,h3,h4⟩:=SJ i p Si;have XS:=RC i p Si;have TO:=hle (i+1);have hpR:=hp p (aG Si);conv=>whnf
     refine⟨ad,Y,be,?_⟩;conv=>whnf
     refine⟨.slice an p.2.2 ac,fun O J r=>by simpa using gN W G r I h3,?_⟩;conv=>whnf
     refine .inr (iP hτ lr (xs:=(parts.take i).flatMap (·.2.1)) (news:=p.2.1) (m:=jT (parts.take i)) (k:=p.2.2) d8 d8 bv d8 d8 (fun O J r=>⟨fh Pm (xL.row _) r,fun g V=>(xL.row _).not r V⟩) hpR.len hpR.one mx be
      (fun O J r=>?_) (fun v' F=>en v') (fun O J v' F r QK S0=>ye r QK S0) (fun O J v' F r h5 h6 h7=>?_))
     .obtain⟨_,SS,_,a2,c2,h5,_,h6⟩:=hpR;rw[h4]at h5;injection h5 with h7 h8 h9;subst h7 h9
      cases an with
      |none=>
       refine .inl ⟨ac,?_,?_⟩
       .have:p.2.2=0:=by
         rcases bH p.2.2 with h0|h0
         .exact h0
         .obtain⟨ad2,k1,_⟩:=h6 0 _ (aE (show 0<p.2.1.length by omega))
          cases k1
        rw[<-this];rfl
       .rcases bH p.2.2 with h0|h0
        .exact h0
        .obtain⟨ad2,k1,_⟩:=h6 0 _ (aE (show 0<p.2.1.length by omega))
         cases k1
      |some ad3=>
       refine .inr ⟨ad3,ac,rfl,fun j u hu=>?_⟩;obtain⟨ad2,k1,k2,k3⟩:=h6 j u hu;injection k1 with k1;subst k1;exact gN W G r k2 k3
     .have Q2:Bq w F:=(G.tr r.cj).tr (Bel.grown h6 (fun g V=>(ownsRow.low Pm g V).1) (by have:=r.size;have:=G.size;omega));rw[<-XS,<-WD i p Si]at h5;obtain⟨a3,c3,rfl,-⟩:=ef h5;conv=>whnf
      refine⟨(i+1:Nat),wo,?_⟩;conv=>whnf
      intro I8 w3 r3
      exact⟨(i+1,.slice a3 (jT (parts.take (i+1))) c3,w3),⟨h,Q2.tr r3.cj,fh h5 (xL.row _) r3⟩,
       sbgn [] r3,by simp;omega⟩
    .have h:i=parts.length:=by
      have:¬i<parts.length:=by simpa using h
      omega
     subst h;rw[bK]at Pm ⊢;conv=>whnf
     intro Id w5 r5;exact⟨_,rfl,G.tr r5.cj,fh Pm (xL.row _) r5⟩
def eD(w:World)(S:Nat->Prop)(v:Value)(ps:List Nat):Prop:=fe w S 1 v (ps.map fun c:Nat=>iV (c:Int)) ps.length
theorem Oc(W:Old S w)(h:eD w S v ps)(hl:ps.length<=1000000):
  eL PG FS.gk #[v,iV x] w (eY w fun v' _=>∃i:Int,v'=iV i/\(0<=i↔x∈ps)):=by
 obtain⟨h0,Y,I,a,c,rfl,hc,QA⟩:=h;refine iu ce ?_;conv=>whnf
 refine⟨Nat×World,fun z=>⟨[(0,sV a ps.length c),(1,iZ x),(7,iZ ps.length),(8,iZ z.1)],[],0,[],z.2⟩,fun z=>ps.length-z.1,
  fun z=>z.1<=ps.length/\Bq w z.2/\∀(j:Nat) y,j<z.1->ps[j]? =some y->y≠x,?_,?_⟩
 .intro O J r;exact⟨(0,J),⟨ce,r.cj,ce⟩,sbgn [] r⟩
 rintro⟨i,w1⟩ ⟨N,G,Po⟩;dsimp only at N G Po ⊢;conv=>whnf
 apply bS<;>intro h
 .have h:=dL h;obtain⟨y,hy⟩:=gO ps i;obtain⟨ad,rfl,k1,k2⟩:=QA i (iV (y:Int)) (by rw[aU,hy];rfl);conv=>whnf
  refine⟨ad,rfl,be,?_⟩;conv=>whnf
  refine⟨iV (y:Int),fun O J r=>by simpa using gN W G r k1 k2,?_⟩;conv=>whnf
  apply bS<;>intro L
  .have L:x=y:=by have:=eq_of_beq L;omega
   conv=>whnf
   exact rtn G fun GE we re=>⟨_,rfl,⟨fun _=>by rw[L];exact aG hy,fun _=>be⟩⟩
  .have L:x≠y:=fun e=>by rw[e]at L;simp at L
   conv=>whnf
   refine inc i ?_;conv=>whnf
   intro I8 w3 r3;refine⟨(i+1,w3),⟨h,G.tr r3.cj,fun j z hj hz=>?_⟩,sbgn [] r3,by dsimp only;omega⟩;by_cases Q1:j=i
   .subst Q1;rw[hy]at hz;injection hz with hz;rw[<-hz];exact Ne.symm L
   .exact Po j z (by dsimp only at hj;omega) hz
 .have h:i=ps.length:=by
   have:¬i<ps.length:=by simpa using h
   omega
  conv=>whnf
  intro GE we re;refine⟨_,rfl,G.tr re.cj,-1,rfl,⟨fun h=>be,fun hm=>?_⟩⟩;obtain⟨j,hj⟩:=az hm;exact absurd rfl (Po j x (by rw[h];exact(aH.1 hj).1) hj)
theorem eD.cX{F:World}(h:eD w S v ps)(R:∀g,S g->F.heap[g]? =w.heap[g]?):eD F S v ps:=fe.cX h R
theorem eD.cV{S':Nat->Prop}(h:eD w S v ps)(R:∀g,S g->S' g):eD w S' v ps:=fe.cV h R
section
variable{S S':Nat->Prop}{H:Hp}{nx:Nat}{iv K:Iv}{B:Nat}{w J F:World}{O:Nat->Sx.eH}{v:Value}{ps:List Nat}
theorem eD.rel(h:eD w (Cv S B iv) v ps)(r:Rel H nx iv B w O J)(W:∀g,S g->g<B):eD J (Cv S B iv) v ps:=eD.cX h fun _ V=>rls r W V
theorem eD.cS(h:eD w (Cv S B iv) v ps)(r:Rel H nx iv B w O J)(W:∀g,S g->g<B)(L:Ext J F)(hm:∀p,p∈iv->p∈K):eD F (Cv S B K) v ps:=
 eD.cV (eD.cX (eD.rel h r W) fun g V=>L.block g (rlo r W g V)) fun _ V=>V.mono hm
theorem eD.ep(h:eD F (Nf J F) v ps)(hB:B<=J.heap.size)(hm:(J.heap.size,F.heap.size)∈iv):eD F (Cv S B iv) v ps:=eD.cV h fun _ V=>V.ep hB hm
theorem eD.arg(h:eD w S v ps)(iv:Iv):eD w (Cv S w.heap.size iv) v ps:=eD.cV h fun _ h=>.inl h
end
theorem IV(W:Old S w)(h:eD w S v ps)(hl:ps.length<=1000000):
  eL PG FS.ir #[v,iV x] w (eY w fun v' _=>v'= .bool (decide (x∈ps))):=by
 replace h:=eD.arg h [];have hsh:=fe.shape h;obtain⟨a,m,c,rfl⟩:=hsh;refine ko ce ?_;conv=>whnf
 refine cW (cU (GT:=fun _ _ v _=>∃i:Int,v=iV i/\(0<=i↔x∈ps)) (fun O J r=>Oc (rlo r W) (eD.rel h r W) hl) ?_);rintro O wa v1 wb r L G ⟨i,rfl,N⟩;clear r L;conv=>whnf
 exact rtn G fun GE we re=>congrArg Value.bool (decide_eq_decide.2 N)
section
variable{S S':Nat->Prop}{H:Hp}{nx n:Nat}{iv K:Iv}{B:Nat}{w J F:World}{O:Nat->Sx.eH}{v:Value}{qs:List Rat}
theorem eu.store{a1 a2:Option Addr}{j n1 c1 n2 c2:Nat}{b b2:Bool}(h:eu J S B iv (.slice a n c) n qs)(hj:j<n)(hf:cz J (fun g=>Cv S B iv g/\(Value.slice a n c).ownBlock≠some g) (.agg #[.bool b,.slice a1 n1 c1,.bool b2,.slice a2 n2 c2]) q)
  (r:Rel H nx iv B w O J) (W:∀g,S g->g<B):
  ∃g,a=some ⟨g,0,none⟩/\((⟨g,0,none⟩:Addr).add ((j:Int).toNat*4)).spot=none/\
   (∀k,k<4->(J.cell? (((⟨g,0,none⟩:Addr).add ((j:Int).toNat*4)).add k)).isSome=true/\J.frozen? (((⟨g,0,none⟩:Addr).add ((j:Int).toNat*4)).add k)=false)/\
   (∀id b,dV H id=some b->(O id).nil=false->(O id).g≠((⟨g,0,none⟩:Addr).add ((j:Int).toNat*4)).block)/\Cv FF B iv g/\
   ∀F,F=setCells J ((⟨g,0,none⟩:Addr).add ((j:Int).toNat*4)) (rC b a1 n1 c1 b2 a2 n2 c2)->eu F S B iv (.slice a n c) n (qs.set j q)/\J.grownBy F (some g)/\F.heap.size=J.heap.size:=by
 obtain⟨g,rfl,Y,I,h3,h4⟩:=h.row.store hj hf (fun g V E=>E.2 V) (fun x E=>rlo r W x E.1);refine⟨g,rfl,Y,h3,fun id b A U=>by rw[I];exact Rel.not r W (qj (h.new g rfl)) id b A U,h.new g rfl,fun F RT=>?_⟩;obtain⟨k1,k2,k3⟩:=h4 F RT;exact⟨⟨k1,h.new⟩,k2,k3⟩
theorem cz.apart{u:Value}(h:cz F (Nw S J F) u q)(E:∀g,v.ownBlock=some g->g<J.heap.size/\¬S g)(hB:B<=J.heap.size)(W:∀g,S g->S' g):cz F (fun g=>Cv S' B ((J.heap.size,F.heap.size)::iv) g/\v.ownBlock≠some g) u q:=
 h.cV fun g V=>by
  rcases V with V|V
  .exact⟨.inl (W g V),fun e=>(E g e).2 V⟩
  .exact⟨.inr ⟨be,_,_,aF,V.1,V.2⟩,fun e=>by have:=(E g e).1;omega⟩
end
def kG(Fn:List (List Rat))(pv:List Nat)(cols c i:Nat):List Rat:=(List.range i).foldl (fun x i=>x.set (pv.getD i 0) (-(dU Fn i c))) ((List.replicate cols 0).set c 1)
def dz(Fn:List (List Rat))(pv:List Nat)(cols c:Nat):List (List Rat):=((List.range c).filter fun c=>decide (c∉pv)).map fun c=>kG Fn pv cols c pv.length
theorem ll(Fn:List (List Rat))(pv:List Nat)(cols c i:Nat):kG Fn pv cols c (i+1)=(kG Fn pv cols c i).set (pv.getD i 0) (-(dU Fn i c)):=by
 rw[kG,bz,List.foldl_append];rfl
theorem uE(Fn:List (List Rat))(pv:List Nat)(cols c i:Nat):(kG Fn pv cols c i).length=cols:=by
 induction i with
 |zero=>simp[kG]
 |succ i ih=>rw[ll,bW,ih]
theorem yi(h:c∈pv):dz Fn pv cols (c+1)=dz Fn pv cols c:=by
 rw[dz,bz,List.filter_append];simp[h,dz]
theorem xE(h:c∉pv):dz Fn pv cols (c+1)=dz Fn pv cols c++[kG Fn pv cols c pv.length]:=by
 rw[dz,bz,List.filter_append];simp[h,dz]
theorem dH.rowOf(h:eF w S S v qs):∃a c,v= .slice a qs.length c:=by
 obtain⟨a,c,h,_⟩:=h.shape;exact⟨a,c,h⟩
theorem NG{vm vp:Value}{n:Nat}(W:Old S w)(hA:fR w S vm Fn)(hp:eD w S vp pv)(Pm:∀r∈Fn,r.length=n)(Wg:cols<=n)(U:n<=1000000)(hR:Fn.length<=1000000)(QQ:pv.length<=Fn.length)(Ty:∀p∈pv,p<cols):
  eL PG FS.wV #[vm,vp,iV cols] w (eY w fun v F=>fR F (Nw S w F) v (dz Fn pv cols cols)):=by
 obtain⟨am,cm,rfl,SF,-⟩:=dH.shape hA;have hps:=hp;obtain⟨-,-,-,ap,cp,rfl,hcp,-⟩:=hps;refine zJ ce ?_
 refine⟨Nat×List Value×Iv×World,fun z=>⟨[(0,sV am Fn.length cm),(1,sV ap pv.length cp),(2,iZ cols),(7,.o (.w 0 z.2.1.length)),(12,iZ cols),(13,iZ z.1)],[(0,.vec T.row 1 z.2.1)],1,z.2.2.1,z.2.2.2⟩,fun z=>cols-z.1,
  fun z=>z.1<=cols/\Bq w z.2.2.2/\z.2.1.length=(dz Fn pv cols z.1).length/\z.2.1.length<=z.1/\(∀(i:Nat) u qs,z.2.1[i]? =some u->(dz Fn pv cols z.1)[i]? =some qs->eF z.2.2.2 (Cv S w.heap.size z.2.2.1) (Cv S w.heap.size z.2.2.1) u qs),?_,?_⟩
 .intro O J r
  exact⟨(0,[],[],J),⟨ce,r.cj,by simp[dz],ce,ce⟩,Sub.nil 7 T.row 1 rfl (by simp[jn,SV.sc,At.sc,fu]) r fun I9 r1=>
   sbgn [] r1⟩
 rintro⟨c,rv,iv,w1⟩ ⟨hc,G,QO,hrc,hK⟩;dsimp only at hc G QO hrc hK ⊢;have hAw:∀{F},Bq w F->fR F S (.slice am Fn.length cm) Fn:=fun A=>fR.cX hA fun g V=>A.block g (W g V);have Zs:∀{F},Bq w F->eD F S (.slice ap pv.length cp) pv:=fun A=>eD.cX hp fun g V=>A.block g (W g V);apply bS<;>intro h
 .have h:=dL h;refine cW (cU (GT:=fun _ _ v _=>v= .bool (decide (c∈pv))) (fun O J r=>IV (oS W r) (Zs (G.tr r.cj)) be) ?_);rintro O wa v1 wb r L A rfl;replace G:=G.tr A;replace hK:∀(i:Nat) u qs,rv[i]? =some u->(dz Fn pv cols c)[i]? =some qs->eF wb (Cv S w.heap.size ((wa.heap.size,wb.heap.size)::iv)) (Cv S w.heap.size ((wa.heap.size,wb.heap.size)::iv)) u qs:=
   fun i u qs Y I=>(hK i u qs Y I).cS r W W L fun x E=>aD _ E
  clear r L A;generalize (wa.heap.size,wb.heap.size)::iv=iv2 at*
  apply bS<;>intro hm
  .have hm:c∈pv:=aJ hm;refine inc c ?_;intro I8 w3 r3
   refine⟨(c+1,rv,iv2,w3),⟨h,G.tr r3.cj,by dsimp only;rw[yi hm];exact QO,by dsimp only;omega,fun i u qs Y I=>?_⟩,
    sbgn [] r3,by dsimp only;omega⟩
   rw[yi hm]at I;exact(hK i u qs Y I).rel r3 W W
  .have hm:c∉pv:=aL hm;refine cW (cU (GT:=fun _ J v F=>eu F FF J.heap.size [(J.heap.size,F.heap.size)] v cols (List.replicate cols 0)) (fun O J r=>jh cols J be) ?_);rintro O wa v1 wb' r L A E;have hX:=E.ep (S:=S) (iv:=(wa.heap.size,wb'.heap.size)::iv2) r.cZ aF;have SW:∀g,v1.ownBlock=some g->wa.heap.size<=g:=fun g V=>by
    rcases E.new g V with h|⟨h,_⟩
    .exact h.elim
    .exact h
   have TY:∀g,v1.ownBlock=some g->¬Cv S w.heap.size iv2 g:=fun g V h=>by
    have:=rlo r W g h;have:=SW g V;omega
   replace G:=G.tr A;replace hK:∀(i:Nat) u qs,rv[i]? =some u->(dz Fn pv cols c)[i]? =some qs->eF wb' (Cv S w.heap.size iv2) (Cv S w.heap.size iv2) u qs:=
    fun i u qs Y I=>((hK i u qs Y I).rel r W W).cX fun g V=>L.block g (V.elim (rlo r W g) (rlo r W g))
   have Pn:∀p,p∈iv2->p∈(wa.heap.size,wb'.heap.size)::iv2:=fun p hp=>aD _ hp;have Yo:∀g,v1.ownBlock=some g->w.heap.size<=g:=fun g V=>by have:=SW g V;have:=r.cZ;omega
   clear r L A E SW;generalize (wa.heap.size,wb'.heap.size)::iv2=Pu at*
   obtain⟨ax,cx,rfl,-⟩:=hX.row.form;refine cW (cU (GT:=fun _ J v F=>cz F (Nf J F) v ((1:Int):Rat)) (fun O J r=>iX 1 J bv bv) ?_);rintro O wa v1 wb r L A hO;have Qh:cz wb (fun g=>Cv S w.heap.size ((wa.heap.size,wb.heap.size)::Pu) g/\(Value.slice ax cols cx).ownBlock≠some g) v1 ((1:Int):Rat):=
    hO.apart (fun g V=>⟨rlo r W g (qj (hX.new g V)),fun h=>h⟩) r.cZ fun g V=>V.elim
   replace hX:=hX.cS (K:=(wa.heap.size,wb.heap.size)::Pu) r W L fun x E=>aD _ E;replace hK:∀(i:Nat) u qs,rv[i]? =some u->(dz Fn pv cols c)[i]? =some qs->eF wb (Cv S w.heap.size iv2) (Cv S w.heap.size iv2) u qs:=
    fun i u qs Y I=>(hK i u qs Y I).cX fun g V=>by
     have V:Cv S w.heap.size Pu g:=(V.elim id id).mono Pn;rw[L.block g (rlo r W g V),rls r W V]
   replace G:=G.tr A;replace Pn:∀p,p∈iv2->p∈(wa.heap.size,wb.heap.size)::Pu:=fun p hp=>aD _ (Pn p hp);clear r L A hO;generalize (wa.heap.size,wb.heap.size)::Pu=QD at*
   obtain⟨b1,a1,n1,c1,b2,a2,n2,c2,rfl⟩:=Qh.shape;have SG:(((1:Int):Rat))=1:=rfl;rw[SG]at Qh;have QY:∃g,ax=some ⟨g,0,none⟩:=by
    obtain⟨Z,ho,_⟩:=hX.row;rcases ho.2 with⟨_,h0⟩|⟨g,cap,cur,e,_⟩
    .omega
    .injection e with e;exact⟨g,e⟩
   obtain⟨gx,rfl⟩:=QY;refine⟨⟨gx,0,none⟩,rfl,be,?_⟩;intro O J r;obtain⟨_,QY,Y,I,h3,h4,h5⟩:=(hX.rel r W).store h (cz.cX Qh fun g V=>rls r W V.1) r W;injection QY with QY;injection QY with QY;subst QY;replace G:=G.tr r.cj;replace hK:∀(i:Nat) u qs,rv[i]? =some u->(dz Fn pv cols c)[i]? =some qs->eF J (Cv S w.heap.size iv2) (Cv S w.heap.size iv2) u qs:=
    fun i u qs Y I=>(hK i u qs Y I).cX fun g V=>rls r W ((V.elim id id).mono Pn)
   have hold:∀g,Cv S w.heap.size QD g->g<J.heap.size:=rlo r W;clear r hX Qh;refine⟨Y,I,h3,fun F RT=>?_⟩;obtain⟨hX,QW,-⟩:=h5 F RT;replace G:Bq w F:=G.tr (Bel.grown QW (fun g V=>by injection V with V;subst V;exact Yo gx rfl) (by have:=G.size;omega));replace hK:∀(i:Nat) u qs,rv[i]? =some u->(dz Fn pv cols c)[i]? =some qs->eF F (Cv S w.heap.size iv2) (Cv S w.heap.size iv2) u qs:=
    fun i u qs Y I=>(hK i u qs Y I).cX fun g V=>QW.block g (hold g ((V.elim id id).mono Pn)) fun e=>by
     injection e with e;subst e;exact TY _ rfl (V.elim id id)
   clear Y I h3 h4 h5 RT QW hold
   refine⟨Nat×Iv×World,fun z=>⟨[(0,sV am Fn.length cm),(1,sV ap pv.length cp),(2,iZ cols),(7,.o (.w 0 rv.length)),(8,iZ c),(9,.o (.v (.slice (some ⟨gx,0,none⟩) cols cx))),(12,iZ cols),(13,iZ c),
     (25,sV ap pv.length cp),(26,iZ pv.length),(27,iZ z.1)],[(0,.vec T.row 1 rv)],1,z.2.1,z.2.2⟩,fun z=>pv.length-z.1,
    fun z=>z.1<=pv.length/\Bq w z.2.2/\(∀p,p∈iv2->p∈z.2.1)/\eu z.2.2 S w.heap.size z.2.1 (.slice (some ⟨gx,0,none⟩) cols cx) cols (kG Fn pv cols c z.1)/\
     ∀(i:Nat) u qs,rv[i]? =some u->(dz Fn pv cols c)[i]? =some qs->eF z.2.2 (Cv S w.heap.size iv2) (Cv S w.heap.size iv2) u qs,?_,?_⟩
   .intro O J r
    exact⟨(0,QD,J),⟨ce,G.tr r.cj,Pn,hX.rel r W,fun i u qs Y I=>(hK i u qs Y I).cX fun g V=>rls r W ((V.elim id id).mono Pn)⟩,
     sbgn [] r⟩
   clear hX hK Pn;rintro⟨i,QH,w5⟩ ⟨N,G,Pn,hX,hK⟩;dsimp only at N G Pn hX hK ⊢;apply bS<;>intro Qv
   .have Qv:=dL Qv;obtain⟨p,Si⟩:=gO pv i;have hpd:pv.getD i 0=p:=by rw[List.getD,Si];rfl
    have Vl:=Ty p (aG Si);obtain⟨ra,Sn⟩:=gO Fn i;have UH:=Pm ra (aG Sn);have hp5:=Zs G;have hA5:=hAw G;obtain⟨_,_,_,_,_,Xp,_,Sp⟩:=hp5;injection Xp with WK ZS WL;subst WK WL;obtain⟨adp,rfl,kp1,kp2⟩:=Sp i (iV (p:Int)) (by rw[aU,Si];rfl);obtain⟨adm,um,rfl,S7,km1,km2⟩:=dH.load hA5 Sn;obtain⟨au,cu,hue⟩:=dH.rowOf S7;rw[UH]at hue;subst hue;obtain⟨q,hq⟩:=gO ra c;have RG:dU Fn i c=q:=by
     have:Fn.getD i []=ra:=by rw[List.getD,Sn];rfl
     rw[dU,this,List.getD,hq];rfl
    obtain⟨adq,cs,rfl,hF,hl⟩:=S7.load hq;obtain⟨b3,a3,n3,c3,b4,a4,n4,c4,rfl,hF⟩:=hF;have hSame:∀{O J},Rel [(0,.vec T.row 1 rv)] 1 QH w.heap.size w5 O J->∀{g},S g->J.heap[g]? =w5.heap[g]? :=fun r g V=>rls (S:=S) r W (.inl V);refine⟨adp,rfl,be,iV (p:Int),fun O J r=>?_,?_⟩
    .rw[aK,av,cd (w:=w5) (F:=J) (by rw[df];exact rls (S:=S) r W (.inl kp1))];exact kp2
    refine⟨adm,rfl,be,.slice (some adq) n cu,fun O J r=>?_,?_⟩
    .rw[aK,cd (w:=w5) (F:=J) (by rw[df];exact rls (S:=S) r W (.inl km1))];exact km2
    refine⟨adq,rfl,be,rC b3 a3 n3 c3 b4 a4 n4 c4,rfl,fun O J r j u hu=>?_,?_⟩
    .obtain⟨k1,k2⟩:=hl j u hu;rw[aK,cd (w:=w5) (F:=J) (by rw[df,df];exact rls (S:=S) r W (.inl k1))];exact k2
    refine cW (cU (GT:=fun _ J v F=>cz F (Nw S J F) v (-q)) (fun O J r=>mH (oS W r) (hF.cX fun g V=>rls (S:=S) r W (.inl V))) ?_);rintro O wa v1 wb r L A hO;have Qh:cz wb (fun g=>Cv S w.heap.size ((wa.heap.size,wb.heap.size)::QH) g/\(Value.slice (some ⟨gx,0,none⟩) cols cx).ownBlock≠some g) v1 (-q):=
     hO.apart (fun g V=>⟨rlo r W g (qj (hX.new g V)),fun h=>by have:=W g h;have:=Yo g V;omega⟩) r.cZ fun g V=>V
    replace hX:=(hX.cS (K:=(wa.heap.size,wb.heap.size)::QH) r W L fun x E=>aD _ E)
    replace hK:∀(i:Nat) u qs,rv[i]? =some u->(dz Fn pv cols c)[i]? =some qs->eF wb (Cv S w.heap.size iv2) (Cv S w.heap.size iv2) u qs:=
     fun i u qs Y I=>(hK i u qs Y I).cX fun g V=>by
      have V:Cv S w.heap.size QH g:=(V.elim id id).mono Pn;rw[L.block g (rlo r W g V),rls r W V]
    replace G:=G.tr A;replace Pn:∀p,p∈iv2->p∈(wa.heap.size,wb.heap.size)::QH:=fun p hp=>aD _ (Pn p hp);clear r L A hO hF hl S7 hA5 hSame kp1 kp2 km1 km2 Sp;generalize (wa.heap.size,wb.heap.size)::QH=Qe at*
    obtain⟨b1,a1,n1,c1,b2,a2,n2,c2,rfl⟩:=Qh.shape;refine⟨⟨gx,0,none⟩,rfl,be,?_⟩;intro O J r;obtain⟨_,QY,Y,I,h3,h4,h5⟩:=(hX.rel r W).store Vl (cz.cX Qh fun g V=>rls r W V.1) r W;injection QY with QY;injection QY with QY;subst QY;replace G:=G.tr r.cj;replace hK:∀(i:Nat) u qs,rv[i]? =some u->(dz Fn pv cols c)[i]? =some qs->eF J (Cv S w.heap.size iv2) (Cv S w.heap.size iv2) u qs:=
     fun i u qs Y I=>(hK i u qs Y I).cX fun g V=>rls r W ((V.elim id id).mono Pn)
    have hold:∀g,Cv S w.heap.size Qe g->g<J.heap.size:=rlo r W;clear r hX Qh;refine⟨Y,I,h3,fun F RT=>?_⟩;obtain⟨hX,QW,-⟩:=h5 F RT;replace G:Bq w F:=G.tr (Bel.grown QW (fun g V=>by injection V with V;subst V;exact Yo gx rfl) (by have:=G.size;omega));replace hK:∀(i:Nat) u qs,rv[i]? =some u->(dz Fn pv cols c)[i]? =some qs->eF F (Cv S w.heap.size iv2) (Cv S w.heap.size iv2) u qs:=
     fun i u qs Y I=>(hK i u qs Y I).cX fun g V=>QW.block g (hold g ((V.elim id id).mono Pn)) fun e=>by
      injection e with e;subst e;exact TY _ rfl (V.elim id id)
    clear Y I h3 h4 h5 RT QW hold;rw[<-RG,<-hpd,<-ll]at hX;refine inc i ?_;intro I8 w3 r3
    exact⟨(i+1,Qe,w3),⟨Qv,G.tr r3.cj,Pn,hX.rel r3 W,fun i u qs Y I=>(hK i u qs Y I).cX fun g V=>rls r3 W ((V.elim id id).mono Pn)⟩,
     sbgn [] r3,by dsimp only;omega⟩
   .have Qv:i=pv.length:=by
     have:¬i<pv.length:=by simpa using Qv
     omega
    subst Qv;have hxR:=hX.read;refine .inl ?_;refine⟨ce,be,mx,((c+1:Nat):Int),wo,?_⟩;intro I8 w3 r3;have XY:(rv++[Value.slice (some ⟨gx,0,none⟩) cols cx]).length=rv.length+1:=by simp
    refine⟨(c+1,rv++[.slice (some ⟨gx,0,none⟩) cols cx],QH,w3),⟨h,G.tr r3.cj,by dsimp only;rw[xE hm,XY,QO];simp,by dsimp only;rw[XY];omega,fun i u qs Y I=>?_⟩,
     sbgn [(0,2)] r3 (hE:=⟨rfl,rfl,rfl,by dsimp only;rw[XY];rfl,rfl,rfl,trivial⟩),by dsimp only;omega⟩
    rw[xE hm]at I;dsimp only at Y I ⊢;rcases aW i rv.length with XB|XB
    .rw[aN XB]at Y;rw[aN (by rw[<-QO];exact XB)]at I;exact((hK i u qs Y I).cV (fun g V=>V.mono Pn) fun g V=>V.mono Pn).rel r3 W W
    .have h0:i=rv.length:=by
      have:=(aH.1 Y).1;rw[XY]at this;omega
     subst h0;rw[aP lr,bY]at Y;rw[QO,aP lr,bY]at I;simp at Y I;subst Y I;exact hxR.rel r3 W W
 .have h:c=cols:=by
   have:¬c<cols:=by simpa using h
   omega
  subst h;intro GE we re;refine⟨_,rfl,G.tr re.cj,?_⟩
  have hv:=re.ku (id:=0) (sz:=1) (m:=rv.length) rfl ce mx bv (fun u hu=>by
   obtain⟨i,N⟩:=az hu;obtain⟨a,cc,e⟩:=dH.rowOf (hK i u _ N (aE (by rw[<-QO];exact(aH.1 N).1)));rw[e]
   rfl)
  refine⟨rv,?_,QO,fun i u qs Y I=>?_⟩
  .rw[<-QO];exact hv.cV fun g V=>.inr V
  .exact((hK i u qs Y I).rel re W W).cV (fun g V=>Cv.nw V re) fun g V=>Cv.nw V re
theorem eF.from{n k:Nat}(h:eF w C S (.slice a n c) qs)(R:k<=n):
  eF w C S (.slice (if (c:Int)=(k:Int)then a else a.map (·.add (k*4))) (n-k) (c-k)) (qs.drop k):=by
 obtain⟨Z,⟨h0,Y,I,a',c',e,h3,h4⟩,hf⟩:=h;injection e with e1 e2 e3;subst e1 e2 e3;have hd:(Z.drop k).flatten=Z.flatten.drop (k*4):=by
  have:=fN (Z:=Z.take k) (fun cs hc=>hf.oy cs (List.mem_of_mem_take hc));conv=>rhs;rw[<-List.take_append_drop k Z,List.flatten_append]
  have hl:(Z.take k).length=k:=by rw[bN,hf.1];omega
  rw[hl]at this;rw[<-this,List.drop_left]
 refine⟨Z.drop k,⟨?_,?_,?_,_,c-k,by rw[List.length_drop],by simp;omega,fun j u hu=>?_⟩,?_,fun j cs q hc hq=>?_⟩
 .simp;omega
 .rw[hd,List.length_drop,Y,List.length_drop,Nat.sub_mul]
 .intro u hu;rw[hd]at hu;exact I u (List.mem_of_mem_drop hu)
 .rw[hd,cF]at hu;obtain⟨ad,k1,k2,k3⟩:=h4 (k*4+j) u hu;have QZ:=(aH.1 hu).1;subst k1;rw[aI be];refine⟨ad.add (k*4),rfl,by rw[df];exact k2,?_⟩;rw[<-k3];have:(ad.add (k*4)).add j=ad.add (k*4+j):=by
   unfold Addr.add;split<;>split<;>simp_all<;>omega
  rw[this]
 .rw[List.length_drop,List.length_drop,hf.1]
 .rw[cF]at hc hq;exact hf.2 _ cs q hc hq
theorem NH(hC:Old C w)(W:Old S w)(h:eF w C S v qs)(U:0<qs.length)(hl:qs.length<=1000000):
  eL PG FS.fS #[v] w (eY w fun v' F=>gw F S v' qs.length qs/\(∀g,v'.ownBlock=some g->w.heap.size<=g/\g<F.heap.size)):=by
 obtain⟨a,c,rfl,hc,hm⟩:=h.shape;obtain⟨Z,⟨h0,Y,I,a',c',e,h3,h4⟩,hf⟩:=h;injection e with e1 e2 e3;subst e1 e3;have Qg:Z.length=qs.length:=hf.1;obtain⟨ad,rfl⟩:∃ad,a=some ad:=by
  obtain⟨ad,k1,_⟩:=h4 0 _ (aE (show 0<Z.flatten.length by omega));exact⟨ad,k1⟩
 refine iR ce ?_;conv=>whnf
 refine⟨false,fun O w1 o1 o2=>by simp[eqGuard,SV.den,At.den,pG (P:=PG) w1 T.row T.dO (some ad) qs.length c 0 0 te],?_⟩;conv=>whnf
 refine .inl ?_;conv=>whnf
 refine⟨Z.flatten,Y,I,fun O w1 r h0=>⟨ad,rfl,fun j u hu=>?_⟩,?_⟩
 .obtain⟨ad2,k1,k2,k3⟩:=h4 j u hu;injection k1 with k1;subst k1;exact gN hC Bel.refl r k2 k3
 conv=>whnf
 refine⟨rfl,be,mx,?_⟩;conv=>whnf
 intro I8 w3 r3;refine⟨_,rfl,r3.cj,?_⟩;have ZT:Fr w3 S Z qs:=hf.cX fun g V=>r3.cj.block g (W g V);rcases r3.vec 1 T.dO 4 Z.flatten rfl with⟨QF,hemp⟩|⟨QF,spare,A,hcp,RO⟩
 .rw[hemp]at Y;simp at Y;omega
 have Pq:=r3.low 1 _ rfl QF;have SH:((At.w 1 (0+qs.length)).den I8)= .slice (some ⟨(I8 1).g,0,none⟩) qs.length (I8 1).cap:=by simp[At.den,QF]
 show gw w3 S ((At.w 1 (0+qs.length)).den I8) qs.length qs/\∀g,((At.w 1 (0+qs.length)).den I8).ownBlock=some g->_;rw[SH];have hls:(Z.flatten++spare).length=Z.flatten.length+spare.length:=aV;refine⟨⟨Z,⟨Y,.inr ⟨(I8 1).g,(I8 1).cap,(Z.flatten++spare).toArray,rfl,ae _,A,be,RO,by simpa using hcp,?_⟩⟩,Qg,ZT⟩,fun g V=>?_⟩
 .rw[<-Y];simp
 .injection V with V;subst V;exact Pq
end Go.Ex
namespace Go.Sx
open Go Go.Ex Go.Proofs
variable{X:Nat->Prop}{O:Nat->Sx.eH}
theorem Rel.IW{H1 H2:Hp}{nx:Nat}{iv:Iv}{B:Nat}{w J F:World}{t id:Nat}{cs cs':List Value}(r:Rel H1 nx iv B w O J)(Y:dV H1 id=some (.arr t cs))(I:dV H2 id=some (.arr t cs'))(ho:∀j,j≠id->dV H2 j=dV H1 j)
  (k:Kept J F X) (hX:∀g,X g->g=(O id).g\/∀j b,dV H1 j=some b->(O j).nil=false->(O j).g≠g) (A:F.heap[(O id).g]? =some (.cells cs'.toArray t (0,0))):Rel H2 nx ((J.heap.size,F.heap.size)::iv) B F O F:=by
 have QF:(O id).nil=false:=(r.fits Y).1;have get:∀j b,dV H2 j=some b->∃b1,dV H1 j=some b1/\(j≠id->b1=b)/\(b≠ .dead->b1≠ .dead):=fun j b h=>by
  by_cases hj:j=id
  .subst hj;exact⟨_,Y,fun h=>absurd rfl h,fun _=>ce⟩
  .rw[ho j hj]at h;exact⟨b,h,fun _=>rfl,fun h=>h⟩
 refine Rel.mk' rfl rfl rfl lr (by have:=r.base;have:=r.size;have:=k.size;omega) (fun lo N hm=>?_) (fun j b h=>?_) (fun j b h=>?_) (fun j b h=>?_) (fun i j b b' N hj di dj ni nj e=>?_) (fun j b h U=>?_) (fun _ _ _=>rfl) (fun lo N hm j b h U hc=>?_)
 .rcases List.mem_cons.1 hm with e|hm
  .injection e with e1 e2;omega
  .have:=r.oc lo N hm;have:=r.size;have:=k.size;omega
 .obtain⟨b1,h3,_⟩:=get j b h;exact r.keys j b1 h3
 .by_cases hj:j=id
  .subst hj;rw[I]at h;injection h with h;subst h;exact⟨QF,A⟩
  .rw[ho j hj]at h;refine ja.iY (r.fits h) (fun _ _=>rfl) (r.scopd h) fun U hd=>?_;refine k.block _ (r.low j b h U).2 fun E=>?_;rcases hX _ E with e|e
   .exact hj (r.inj j id b _ h Y hd ce U QF e)
   .exact e j b h U rfl
 .by_cases hj:j=id
  .subst hj;rw[I]at h;injection h with h;subst h;trivial
  .rw[ho j hj]at h;exact r.scopd h
 .obtain⟨b1,h3,_,h4⟩:=get i b N;obtain⟨b2,h5,_,h6⟩:=get j b' hj;exact r.inj i j b1 b2 h3 h5 (h4 di) (h6 dj) ni nj e
 .obtain⟨b1,h3,_⟩:=get j b h;have:=r.low j b1 h3 U;have:=k.size;omega
 .obtain⟨b1,h3,_⟩:=get j b h;have hl:=r.low j b1 h3 U;rcases List.mem_cons.1 hm with e|hm
  .injection e with e1 e2;omega
  .exact r.jU lo N hm j b1 h3 U hc
end Go.Sx
namespace Go.Ex
open Go Go.Sx Go.Proofs
variable{b:List (Int×Int)}{M:List (List Rat)}{qs r:List Rat}{rv:List Value}{n:Nat}{S:Nat->Prop}{O:Nat->Sx.eH}{q:Rat}{u v:Value}{w:World}
abbrev dT(M:List (List (Int×Int))):List (List Rat):=M.map fun r=>r.map dD
def xF(F9 i:Nat):List Rat:=(List.replicate F9 0).set i 1
def pB(M:List (List Rat))(b:List Rat):List (List Rat):=M.mapIdx fun i r=>r++b.getD i 0::xF M.length i
def iD(Fn:List (List Rat))(pv:List Nat)(cols i:Nat):List Rat:=(List.range i).foldl (fun x i=>x.set (pv.getD i 0) (dU Fn i cols)) (List.replicate cols 0)
theorem kO(Fn:List (List Rat))(pv:List Nat)(cols i:Nat):iD Fn pv cols (i+1)=(iD Fn pv cols i).set (pv.getD i 0) (dU Fn i cols):=by
 rw[iD,bz,List.foldl_append];rfl
theorem yj(M:List (List Rat))(b:List Rat):(pB M b).length=M.length:=by simp[pB]
theorem Od{b:List Rat}{i:Nat}(h:M[i]? =some r):(pB M b)[i]? =some (r++b.getD i 0::xF M.length i):=by simp[pB,h]
theorem eu.HY{H:Hp}{nx:Nat}{iv:Iv}{B:Nat}{J F:World}(E:eu F FF J.heap.size [(J.heap.size,F.heap.size)] v n qs)(r:Rel H nx iv B w O J)(Ve:∀u∈rv,∀g,u.ownBlock=some g->Cv S B iv g)(W:∀g,S g->g<B):
  gw F (fun g=>(Cv FF B ((J.heap.size,F.heap.size)::iv) g/\¬ ∃u∈rv,u.ownBlock=some g)/\v.ownBlock≠some g) v n qs/\∀g,v.ownBlock=some g->Cv FF B ((J.heap.size,F.heap.size)::iv) g/\J.heap.size<=g:=by
 have key:∀g,Cv FF J.heap.size [(J.heap.size,F.heap.size)] g->J.heap.size<=g/\g<F.heap.size:=fun g V=>by
  rcases V with V|⟨Y,lo,N,I,h3,h4⟩
  .exact V.elim
  .simp at I;obtain⟨rfl,rfl⟩:=I;exact⟨h3,h4⟩
 have hB:=r.cZ;have VL:∀g,J.heap.size<=g/\g<F.heap.size->Cv FF B ((J.heap.size,F.heap.size)::iv) g:=fun g V=>.inr ⟨be,_,_,aF,V.1,V.2⟩;refine⟨E.row.cV fun g V=>⟨⟨VL g (key g V.1),fun⟨u,hu,e⟩=>?_⟩,V.2⟩,fun g V=>⟨VL g (key g (E.new g V)),(key g (E.new g V)).1⟩⟩;have:=rlo r W g (Ve u hu g e);have:=(key g V.1).1;omega
structure tI(w:World)(B:Nat)(iv:Iv)(rv:List Value)(v:Value)(n:Nat)(qs:List Rat):Prop where
 row:gw w (fun g=>(Cv FF B iv g/\¬ ∃u∈rv,u.ownBlock=some g)/\v.ownBlock≠some g) v n qs
 kz:∀g,v.ownBlock=some g->Cv FF B iv g
section
variable{H:Hp}{nx n:Nat}{iv K:Iv}{B:Nat}{w J F:World}{O:Nat->Sx.eH}{v:Value}{qs:List Rat}{rv:List Value}
theorem tI.cX(h:tI w B iv rv v n qs)(R:∀g,Cv FF B iv g->F.heap[g]? =w.heap[g]?):tI F B iv rv v n qs:=
 ⟨h.row.cX fun g V=>R g (V.elim (fun h=>h.1.1) (h.kz g)),h.kz⟩
theorem tI.rel(h:tI w B iv rv v n qs)(r:Rel H nx iv B w O J):tI J B iv rv v n qs:=h.cX fun _ V=>rls r (iw B) V
theorem tI.cS(h:tI w B iv rv v n qs)(r:Rel H nx iv B w O J)(L:Ext J F)(hm:∀p,p∈iv->p∈K):tI F B K rv v n qs:=
 have I:=(h.rel r).cX fun g V=>L.block g (rlo r (iw B) g V)
 ⟨I.row.cV fun _ V=>⟨⟨V.1.1.mono hm,V.1.2⟩,V.2⟩,fun g V=>(I.kz g V).mono hm⟩
theorem cz.HY(h:cz F (Nf J F) u q)(r:Rel H nx iv B w O J)(Ve:∀u∈rv,∀g,u.ownBlock=some g->Cv FF B iv g):
  cz F (fun g=>Cv FF B ((J.heap.size,F.heap.size)::iv) g/\¬ ∃u∈rv,u.ownBlock=some g) u q:=
 h.cV fun g V=>by
  rcases V with V|V
  .exact V.elim
  .refine⟨.inr ⟨by have:=r.cZ;omega,_,_,aF,V.1,V.2⟩,fun⟨u,hu,e⟩=>?_⟩;have:=rlo r (iw B) g (Ve u hu g e);omega
end
theorem Kz{C:Nat->Prop}{va x:Value}{g2:Nat}{b b2:Bool}{a a2:Option Addr}{m c m2 c2:Nat}{rs xs:List Rat}(hC:Old C w)(W:Old S w)
  (ha:fe w C 1 va [u,.slice (some ⟨g2,0,none⟩) 1 1,x] 3) (A:fe w C 4 (.slice (some ⟨g2,0,none⟩) 1 1) (rC b a m c b2 a2 m2 c2) 1) (hr:eF w C S u rs) (E:eF w C S x xs)
  (hq:cz w S (.agg #[.bool b,.slice a m c,.bool b2,.slice a2 m2 c2]) q) (hl:rs.length+1+xs.length<=1000000):
  eL PG FS.e8 #[va] w (eY w fun v F=>gw F S v (rs.length+1+xs.length) (rs++q::xs)/\∀g,v.ownBlock=some g->w.heap.size<=g/\g<F.heap.size):=by
 obtain⟨c1,s1,f1⟩:=hr;obtain⟨c2',s2,f2⟩:=E;refine(Ky (parts:=[(u,c1.flatten,rs.length),(.slice (some ⟨g2,0,none⟩) 1 1,rC b a m c b2 a2 m2 c2,1),(x,c2'.flatten,xs.length)]) hC ha ?_ (by simp[jT];omega)).mono fun e F ⟨v,e1,e2,e3⟩=>⟨v,e1,e2,?_,fun g V=>?_⟩
 .intro p hp;simp only[List.mem_cons,List.not_mem_nil,or_false]at hp;rcases hp with rfl|rfl|rfl
  .exact s1
  .exact A
  .exact s2
 .have U:jT [(u,c1.flatten,rs.length),(Value.slice (some ⟨g2,0,none⟩) 1 1,[Value.bool b,.slice a m c,.bool b2,.slice a2 m2 c2],1),(x,c2'.flatten,xs.length)]=rs.length+1+xs.length:=by simp[jT];omega
  rw[U]at e3;have Qp:List.flatMap (fun x=>x.2.1) [(u,c1.flatten,rs.length),(Value.slice (some ⟨g2,0,none⟩) 1 1,[Value.bool b,.slice a m c,.bool b2,.slice a2 m2 c2],1),(x,c2'.flatten,xs.length)]=(c1++[Value.bool b,.slice a m c,.bool b2,.slice a2 m2 c2]::c2').flatten:=by simp
  rw[Qp]at e3;refine⟨_,⟨e3.1,e3.2.imp id fun⟨g,cap,cur,k1,_,k3⟩=>⟨g,cap,cur,k1,ae _,k3⟩⟩,by simp[f1.1,f2.1];omega,?_⟩;have R:∀g,S g->F.heap[g]? =w.heap[g]? :=fun g V=>e2.block g (W g V);refine⟨by simp[f1.1,f2.1],fun j cs p Y I=>?_⟩;rcases cP j c1.length with hj|hj|hj
  .rw[aN hj]at Y;rw[aN (by rw[<-f1.1];exact hj)]at I;exact(f1.2 j cs p Y I).cX R
  .subst hj;rw[aP lr,bY]at Y;rw[f1.1,aP lr,bY]at I;simp at Y I;subst Y I;exact(hq.cX R).four
  .rw[aP be]at Y;rw[aP (by rw[<-f1.1];omega),<-f1.1]at I;obtain⟨k,Tm⟩:∃k,j-c1.length=k+1:=⟨j-c1.length-1,be⟩
   rw[Tm]at Y I;simp at Y I;exact(f2.2 k cs p Y I).cX R
 .have:=ownsRow.low e3 g V;exact this
theorem Oe{M:List (List (Int×Int))}{h0:Nat}(W:Old S w)(h:dR w S v M)(hu:dK w S u b)(hf:∀r∈M,vN r)(WZ:vN b)(Pm:∀r∈M,r.length=dM M)(Pw:b.length=M.length)
  (U:dM M<=1000) (hR:M.length<=1000) (TX:Ht (pB (dT M) (b.map dD)) h0) (I:2<=h0) (TH:4^M.length*h0<=500000000):
  eL PG FS.yY #[v,u] w (eY w fun v' F=>∃Fn pv,(Fn,pv)=dG (pB (dT M) (b.map dD)) (dM M)/\
   ((∃j vp,pv.length<=j/\j<M.length/\dU Fn j (dM M)≠0/\(∀k,pv.length<=k->k<j->dU Fn k (dM M)=0)/\v'= .agg #[vp,nls,nls]/\(∃a n c,vp= .slice (some a) n c)/\
     eF F (Nf w F) (Nf w F) vp (((Fn.getD j []).drop (dM M+1)).map (· *(1 / dU Fn j (dM M)))))\/
    (∃vx vk,(∀k,pv.length<=k->k<M.length->dU Fn k (dM M)=0)/\v'= .agg #[nls,vx,vk]/\eF F (Nf w F) (Nf w F) vx (iD Fn pv (dM M) pv.length)/\
     fR F (Nf w F) vk (dz Fn pv (dM M) (dM M))))):=by
 replace h:=dR.arg h [];replace hu:=dK.arg hu [];obtain⟨am,cm,rfl,SF,-⟩:=dH.shape h;obtain⟨ab,cb,rfl,RK,-⟩:=dN.shape hu;obtain⟨cols,TZ⟩:∃c,c=dM M:=⟨_,rfl⟩
 rw[<-TZ]at Pm U ⊢;refine BS ce ?_;conv=>whnf
 refine cW (cU (GT:=fun _ _ v _=>v=iV cols) (fun O J r=>by rw[TZ];exact tf (rlo r W) (dR.rel h r W)) ?_);rintro O wa v1 wb r L G rfl;replace h:=dR.cS (K:=(wa.heap.size,wb.heap.size)::[]) h r W L fun x E=>aD _ E;replace hu:=dK.cS (K:=(wa.heap.size,wb.heap.size)::[]) hu r W L fun x E=>aD _ E;clear r L;generalize (wa.heap.size,wb.heap.size)::[]=iv at*
 conv=>whnf
 refine⟨M.length,M.length,rfl,rfl,lr,be,be,?_⟩;conv=>whnf
 refine cW (cU (GT:=fun _ J v F=>xA F FF J.heap.size [(J.heap.size,F.heap.size)] v cols (dT M)) (fun O J r=>Gm (rlo r W) (dR.rel h r W) hf Pm be be) ?_);rintro O wc v1 wd r L A hX;have Ub:=(hX.ep (S:=FF) (iv:=(wc.heap.size,wd.heap.size)::iv) r.cZ aF).read;replace h:=dR.cS (K:=(wc.heap.size,wd.heap.size)::iv) h r W L fun x E=>aD _ E;replace hu:=dK.cS (K:=(wc.heap.size,wd.heap.size)::iv) hu r W L fun x E=>aD _ E;replace G:=G.tr A;clear r L A hX;generalize (wc.heap.size,wd.heap.size)::iv=ivM at*
 obtain⟨at_,ct,rfl,hct,-⟩:=dH.shape Ub;rw[aO]at hct Ub ⊢;conv=>whnf
 refine⟨List Value×Iv×World,fun z=>⟨[(0,sV am M.length cm),(1,sV ab b.length cb),(4,pP 0 0),(5,iZ cols),(6,.o (.s 1 0 M.length M.length)),(23,sV at_ M.length ct),(24,iZ M.length),(25,iZ z.1.length)],
   [(1,.arr T.row (z.1++List.replicate (M.length-z.1.length) nls)),(0,.box T.solved [.v nls,.v nls,.v nls])],2,z.2.1,z.2.2⟩,fun z=>M.length-z.1.length,
  fun z=>z.1.length<=M.length/\Bq w z.2.2/\(∀p,p∈ivM->p∈z.2.1)/\dR z.2.2 (Cv S w.heap.size ivM) (.slice am M.length cm) M/\dK z.2.2 (Cv S w.heap.size ivM) (.slice ab b.length cb) b/\
   fR z.2.2 (Cf w ivM) (.slice at_ M.length ct) (dT M)/\
   ix z.2.2 FF w.heap.size z.2.1 z.1 (cols+1+M.length) ((pB (dT M) (b.map dD)).take z.1.length)/\(∀u∈z.1,u.oneCell'=true)/\(∀u∈z.1,∀g,u.ownBlock=some g->¬Cf w ivM g),?_,?_⟩
 .intro O J r
  exact⟨([],ivM,J),⟨ce,G.tr r.cj,fun p hp=>hp,dR.rel h r W,dK.rel hu r W,fR.rel Ub r oF,by simpa using ix.nil _ _ _ _ _,ce,ce⟩,
   sbgn [] r⟩
 clear h hu Ub G;rintro⟨rv,Pv,w1⟩ ⟨QO,G,Pn,h,hu,Ub,QI,h1c,ZU⟩;dsimp only at QO G Pn h hu Ub QI h1c ZU ⊢;have hlA:(pB (dT M) (b.map dD)).length=M.length:=by rw[yj,aO]
 conv=>whnf
 apply bS<;>intro N
 .have N:rv.length<M.length:=by simpa using N
  obtain⟨mr,hmr⟩:=gO M rv.length;obtain⟨bx,VO⟩:=gO b rv.length;have hmrl:=Pm mr (aG hmr);obtain⟨ad,ur,rfl,TL,kt1,kt2⟩:=dH.load Ub (j:=rv.length) (x:=mr.map dD) (by rw[aU,hmr];rfl);obtain⟨au,cu,hue⟩:=dH.rowOf TL;rw[aO,hmrl]at hue;subst hue;have Pp:∀{H nx iv O wx J},(∀p,p∈ivM->p∈iv)->Rel H nx iv w.heap.size wx O J->∀{X:Nat->Prop},(∀g,X g->g<w.heap.size)->∀g,Cv X w.heap.size ivM g->J.heap[g]? =wx.heap[g]? :=by
   intro H nx iv O wx J hm r X hX g V;exact rls r hX (V.mono hm)
  conv=>whnf
  refine⟨ad,rfl,be,?_⟩;conv=>whnf
  refine⟨.slice au cols cu,fun O J r=>?_,?_⟩
  .rw[aK,cd (w:=w1) (F:=J) (by rw[df];exact Pp Pn r oF _ kt1)];exact kt2
  conv=>whnf
  refine cW (cU (GT:=fun _ J v F=>eu F FF J.heap.size [(J.heap.size,F.heap.size)] v M.length (List.replicate M.length 0)) (fun O J r=>jh M.length J be) ?_);rintro O wa vx wb r L A E;have hU0:=E.HY (rv:=rv) r (fun u hu g V=>qj (QI.new u hu g V)) oF;have hU:tI wb w.heap.size ((wa.heap.size,wb.heap.size)::Pv) rv vx M.length (List.replicate M.length 0):=⟨hU0.1,fun g V=>(hU0.2 g V).1⟩
  have hold1:∀g,Cf w ivM g->g<wa.heap.size:=fun g V=>rlo r oF g (V.mono Pn);have hgxr:∀g,vx.ownBlock=some g->∀u∈rv,u.ownBlock≠some g:=fun g V u hu e=>by have:=rlo r oF g (QI.new u hu g e);have:=(hU0.2 g V).2;omega
  have YV:∀g,vx.ownBlock=some g->¬Cf w ivM g:=fun g V h=>by have:=hold1 g h;have:=(hU0.2 g V).2;omega
  replace h:=dR.cX h fun g V=>by rw[L.block g (rlo r W g (V.mono Pn)),Pp Pn r W g V]
  replace hu:=dK.cX hu fun g V=>by rw[L.block g (rlo r W g (V.mono Pn)),Pp Pn r W g V]
  replace Ub:=fR.cX Ub fun g V=>by rw[L.block g (rlo r oF g (V.mono Pn)),Pp Pn r oF g V]
  replace TL:=TL.cX fun g V=>by rw[L.block g (rlo r oF g ((V.elim id id).mono Pn)),Pp Pn r oF g (V.elim id id)]
  have hvx1:∀g,vx.ownBlock=some g->¬Cf w Pv g:=fun g V h=>by have:=rlo r oF g h;have:=(hU0.2 g V).2;omega
  replace QI:=QI.cX fun g V=>by rw[L.block g (rlo r oF g V),rls r oF V]
  have Qy:∀p,p∈Pv->p∈(wa.heap.size,wb.heap.size)::Pv:=fun p hp=>aD _ hp;replace G:=G.tr A;replace Pn:∀p,p∈ivM->p∈(wa.heap.size,wb.heap.size)::Pv:=fun p hp=>aD _ (Pn p hp);clear r L A E hU0 hold1;generalize (wa.heap.size,wb.heap.size)::Pv=iv2 at*
  obtain⟨ax,cx,rfl,-⟩:=hU.row.form;conv=>whnf
  refine cW (cU (GT:=fun _ J v F=>cz F (Nf J F) v ((1:Int):Rat)) (fun O J r=>iX 1 J bv bv) ?_);rintro O wa v1 wb r L A hO;have Qh:=(hO.HY (rv:=rv) r fun u hu g V=>(QI.new u hu g V).mono Qy)
  have ZV:cz wb (fun g=>(Cf w ((wa.heap.size,wb.heap.size)::iv2) g/\¬ ∃u∈rv,u.ownBlock=some g)/\(Value.slice ax M.length cx).ownBlock≠some g) v1 ((1:Int):Rat):=by
   have Y:=hO.apart (S':=fun _=>False) (iv:=iv2) (v:=Value.slice ax M.length cx) (fun g V=>⟨rlo r oF g (hU.kz g V),fun h=>h⟩) r.cZ fun g V=>V;obtain⟨nv,dv,h3,h4,h5⟩:=Qh;obtain⟨nv',dv',h3',h4',h5'⟩:=hO;rw[h3]at h3';injection h3' with h3';simp at h3';obtain⟨rfl,rfl⟩:=h3';have Sr:∀g,Nf wa wb g->((Cf w ((wa.heap.size,wb.heap.size)::iv2) g/\¬ ∃u∈rv,u.ownBlock=some g)/\(Value.slice ax M.length cx).ownBlock≠some g):=fun g V=>by
    rcases V with V|V
    .exact V.elim
    .refine⟨⟨.inr ⟨by have:=r.cZ;omega,_,_,aF,V.1,V.2⟩,fun⟨u,hu,e⟩=>?_⟩,fun e=>?_⟩
     .have:=rlo r oF g ((QI.new u hu g e).mono Qy);omega
     .have:=rlo r oF g (hU.kz g e);omega
   exact⟨nv,dv,h3,h4'.cV Sr,h5'.cV Sr⟩
  replace h:=dR.cX h fun g V=>by rw[L.block g (rlo r W g (V.mono Pn)),Pp Pn r W g V]
  replace hu:=dK.cX hu fun g V=>by rw[L.block g (rlo r W g (V.mono Pn)),Pp Pn r W g V]
  replace Ub:=fR.cX Ub fun g V=>by rw[L.block g (rlo r oF g (V.mono Pn)),Pp Pn r oF g V]
  replace TL:=TL.cX fun g V=>by rw[L.block g (rlo r oF g ((V.elim id id).mono Pn)),Pp Pn r oF g (V.elim id id)]
  replace QI:=QI.cX fun g V=>by rw[L.block g (rlo r oF g (V.mono Qy)),rls r oF (V.mono Qy)]
  replace Qy:∀p,p∈Pv->p∈(wa.heap.size,wb.heap.size)::iv2:=fun p hp=>aD _ (Qy p hp);replace hU:=hU.cS (K:=(wa.heap.size,wb.heap.size)::iv2) r L fun x E=>aD _ E;replace G:=G.tr A;replace Pn:∀p,p∈ivM->p∈(wa.heap.size,wb.heap.size)::iv2:=fun p hp=>aD _ (Pn p hp);clear r L A hO Qh;generalize (wa.heap.size,wb.heap.size)::iv2=Pu at*
  obtain⟨b1,a1,n1,c1,b2,a2,n2,c2,rfl⟩:=ZV.shape;have SG:(((1:Int):Rat))=1:=rfl;rw[SG]at ZV;conv=>whnf
  have QY:∃g,ax=some ⟨g,0,none⟩:=by
   obtain⟨Z,ho,_⟩:=hU.row;rcases ho.2 with⟨_,h0⟩|⟨g,cap,cur,e,_⟩
   .omega
   .injection e with e;exact⟨g,e⟩
  obtain⟨gx,rfl⟩:=QY;refine⟨⟨gx,0,none⟩,rfl,be,?_⟩;conv=>whnf
  intro O J r;have hUr:=hU.rel r;obtain⟨g',QY,k1,k2,k3,k4⟩:=hUr.row.store N (cz.cX ZV fun g V=>rls r oF V.1.1) (fun g V E=>E.2 V) (fun x E=>rlo r oF x E.1.1);injection QY with QY;injection QY with QY;subst QY;have ZW:=hU.kz gx rfl;have Qk:=fun id b A U=>Rel.not r oF ZW id b A U;have Uq:∀{X:Nat->Prop},(∀g,X g->g<w.heap.size)->∀g,Cv X w.heap.size Pu g->g<J.heap.size:=by
   intro X hX g V;exact rlo r hX g V
  replace h:=dR.cX h fun g V=>Pp Pn r W g V;replace hu:=dK.cX hu fun g V=>Pp Pn r W g V;replace Ub:=fR.cX Ub fun g V=>Pp Pn r oF g V;replace TL:=TL.cX fun g V=>Pp Pn r oF g (V.elim id id);replace QI:=QI.cX fun g V=>rls r oF (V.mono Qy);replace G:=G.tr r.cj;have hgxB:w.heap.size<=gx:=by
   rcases ZW with h|⟨h,_⟩
   .exact h.elim
   .exact h
  have hgxrv:∀u∈rv,u.ownBlock≠some gx:=hgxr gx rfl;clear r hUr hU ZV;refine⟨k1,k3,fun id b A U=>by rw[k2];exact Qk id b A U,fun F RT=>?_⟩;obtain⟨hU1,QW,-⟩:=k4 F RT;have hU:tI F w.heap.size Pu rv (.slice (some ⟨gx,0,none⟩) M.length cx) M.length (xF M.length rv.length):=⟨hU1,fun g V=>by injection V with V;subst V;exact ZW⟩
  have Vu:∀g,g<J.heap.size->g≠gx->F.heap[g]? =J.heap[g]? :=fun g V Po=>QW.block g V fun e=>by injection e with e;exact Po e
  replace h:=dR.cX h fun g V=>Vu g (Uq W g (V.mono Pn)) fun e=>by
   subst e;rcases V with V|⟨q1,lo,Rc,q2,q3⟩
   .have:=W g V;omega
   .exact YV g rfl (.inr ⟨q1,lo,Rc,q2,q3⟩)
  replace hu:=dK.cX hu fun g V=>Vu g (Uq W g (V.mono Pn)) fun e=>by
   subst e;rcases V with V|⟨q1,lo,Rc,q2,q3⟩
   .have:=W g V;omega
   .exact YV g rfl (.inr ⟨q1,lo,Rc,q2,q3⟩)
  replace Ub:=fR.cX Ub fun g V=>Vu g (Uq oF g (V.mono Pn)) fun e=>by subst e;exact YV g rfl V
  replace TL:=TL.cX fun g V=>Vu g (Uq oF g ((V.elim id id).mono Pn)) fun e=>by subst e;exact YV g rfl (V.elim id id)
  replace QI:=QI.cX fun g V=>Vu g (Uq oF g (V.mono Qy)) fun e=>by subst e;exact hvx1 g rfl V
  replace G:Bq w F:=G.tr (Bel.grown QW (fun g V=>by injection V with V;subst V;exact hgxB) (by have:=G.size;omega));clear k1 k2 k3 k4 hU1 QW Vu Qk RT Uq;obtain⟨adb,csb,rfl,hRb,-,VS⟩:=dN.load hu VO;obtain⟨b3,a3,n3,c3,b4,a4,n4,c4,rfl,hRb⟩:=hRb;obtain⟨fb1,fb2⟩:=WZ bx (aG VO);conv=>whnf
  refine⟨adb,rfl,be,?_⟩;conv=>whnf
  refine⟨rC b3 a3 n3 c3 b4 a4 n4 c4,rfl,fun O J r j x E=>?_,?_⟩
  .obtain⟨q1,q2⟩:=VS j x E;rw[aK,cd (w:=F) (F:=J) (by rw[df,df];exact Pp Pn r W _ q1)];exact q2
  conv=>whnf
  refine cW (cU (GT:=fun _ J v F=>cz F (Nf J F) v (dD bx)) (fun O J r=>zd (rlo r W) (ky.cX (ky.cV hRb fun g V=>V.mono Pn) fun g V=>rls r W V) be be) ?_);rintro O wa v1 R4 r L A hO;have hQ:=(hO.HY (rv:=rv) r fun u hu g V=>(QI.new u hu g V).mono Qy)
  replace h:=dR.cX h fun g V=>by rw[L.block g (rlo r W g (V.mono Pn)),Pp Pn r W g V]
  replace hu:=dK.cX hu fun g V=>by rw[L.block g (rlo r W g (V.mono Pn)),Pp Pn r W g V]
  replace Ub:=fR.cX Ub fun g V=>by rw[L.block g (rlo r oF g (V.mono Pn)),Pp Pn r oF g V]
  replace TL:=TL.cX fun g V=>by rw[L.block g (rlo r oF g ((V.elim id id).mono Pn)),Pp Pn r oF g (V.elim id id)]
  replace QI:=QI.cX fun g V=>by rw[L.block g (rlo r oF g (V.mono Qy)),rls r oF (V.mono Qy)]
  replace hU:=hU.cS (K:=(wa.heap.size,R4.heap.size)::Pu) r L fun x E=>aD _ E;replace G:=G.tr A;replace Pn:∀p,p∈ivM->p∈(wa.heap.size,R4.heap.size)::Pu:=fun p hp=>aD _ (Pn p hp);replace Qy:∀p,p∈Pv->p∈(wa.heap.size,R4.heap.size)::Pu:=fun p hp=>aD _ (Qy p hp);clear r L A hO hRb VS ZW;generalize (wa.heap.size,R4.heap.size)::Pu=QD at*
  obtain⟨b5,a5,n5,c5,b6,a6,n6,c6,rfl⟩:=hQ.shape;conv=>whnf
  have ZD:(mr.map dD).length=cols:=by rw[aO,hmrl]
  have hlu:(xF M.length rv.length).length=M.length:=by simp[xF]
  refine cW (cU (GT:=fun _ J v F=>gw F (fun g=>Cf w QD g/\¬ ∃u∈rv,u.ownBlock=some g) v (cols+1+M.length) (mr.map dD++dD bx::xF M.length rv.length)/\∀g,v.ownBlock=some g->J.heap.size<=g/\g<F.heap.size) (fun O J r=>?_) ?_)
  .have WU:=r.kJ (id:=3) (sz:=1) (n:=3) rfl rfl bv (by intro u hu;simp at hu;rcases hu with rfl|rfl|rfl<;>rfl);have Q2:=r.kJ (id:=2) (sz:=4) (n:=1) rfl rfl bv (by intro u hu;simp at hu;rcases hu with rfl|rfl|rfl|rfl<;>rfl);have hlow3:=r.low 3 _ rfl (r.nn 3 _ rfl (by intros;simp) ce);have hlow2:=r.low 2 _ rfl (r.nn 2 _ rfl (by intros;simp) ce);have hUr:=hU.rel r;have:=Kz (C:=fun g=>Cf w QD g\/g=(O 2).g\/g=(O 3).g) (S:=fun g=>Cf w QD g/\¬ ∃u∈rv,u.ownBlock=some g)
    (w:=J) (rs:=mr.map dD) (xs:=xF M.length rv.length) (q:=dD bx) (u:=.slice au cols cu) (x:=.slice (some ⟨gx,0,none⟩) M.length cx)
    (fun g V=>by rcases V with V|rfl|rfl;exact rlo r oF g V;exact hlow2.2;exact hlow3.2) (fun g V=>rlo r oF g V.1)
    (WU.cV fun g V=>.inr (.inr V)) (Q2.cV fun g V=>.inr (.inl V))
    ((TL.cX fun g V=>Pp Pn r oF g (V.elim id id)).cV (fun g V=>.inl (V.mono Pn)) fun g V=>⟨V.mono Pn,fun⟨u,hu,e⟩=>ZU u hu g e V⟩)
    (hUr.row.read.cV (fun g V=>.inl (hUr.kz g V)) fun g V=>V.1) (cz.cX hQ fun g V=>rls r oF V.1) (by rw[ZD,hlu];omega)
   rw[ZD,hlu]at this;exact this
  rintro O wa vn wb r L A ⟨YW,Q7⟩;have hB:=r.cZ;have Qs:ix wb FF w.heap.size ((wa.heap.size,wb.heap.size)::QD) (rv++[vn]) (cols+1+M.length) ((pB (dT M) (b.map dD)).take (rv.length+1)):=by
   have h4:ix wb FF w.heap.size QD rv (cols+1+M.length) ((pB (dT M) (b.map dD)).take rv.length):=
    ⟨QI.len,fun i v qs Y I=>((QI.row i v qs Y I).cX fun g V=>by
      have V:Cf w Pv g:=V.elim (fun h=>h.1) fun V=>QI.new v (aG Y) g V
      rw[L.block g (rlo r oF g (V.mono Qy)),rls r oF (V.mono Qy)]).cV fun g V=>⟨V.1.mono Qy,V.2⟩,QI.HZ,fun v hv g V=>(QI.new v hv g V).mono Qy⟩
   have h5:ix R4 FF w.heap.size QD rv (cols+1+M.length) ((pB (dT M) (b.map dD)).take rv.length):=
    ⟨QI.len,fun i v qs Y I=>(QI.row i v qs Y I).cV fun g V=>⟨V.1.mono Qy,V.2⟩,QI.HZ,fun v hv g V=>(QI.new v hv g V).mono Qy⟩
   have h6:=h5.snoc r oF L (YW.cV fun g V=>⟨V.1.mono fun p hp=>aD _ hp,fun e=>by have:=rlo r oF g V.1;have:=(Q7 g e).1;omega,V.2⟩) Q7;have h7:(pB (dT M) (b.map dD)).take (rv.length+1)=(pB (dT M) (b.map dD)).take rv.length++[mr.map dD++dD bx::xF M.length rv.length]:=by
    rw[bM,Od (r:=mr.map dD) (by rw[aU,hmr];rfl)];have:(b.map dD).getD rv.length 0=dD bx:=by rw[List.getD,aU,VO];rfl
    rw[this,aO];rfl
   rw[h7];exact h6
  have hvnM:∀g,vn.ownBlock=some g->¬Cf w ivM g:=fun g V hm=>by
   have:=rlo r oF g (hm.mono Pn);have:=(Q7 g V).1;omega
  replace h:=dR.cX h fun g V=>by rw[L.block g (rlo r W g (V.mono Pn)),Pp Pn r W g V]
  replace hu:=dK.cX hu fun g V=>by rw[L.block g (rlo r W g (V.mono Pn)),Pp Pn r W g V]
  replace Ub:=fR.cX Ub fun g V=>by rw[L.block g (rlo r oF g (V.mono Pn)),Pp Pn r oF g V]
  replace G:=G.tr A;replace Pn:∀p,p∈ivM->p∈(wa.heap.size,wb.heap.size)::QD:=fun p hp=>aD _ (Pn p hp);obtain⟨an,cn,rfl,-⟩:=YW.form;clear r L A TL QI hU hQ YW Q7 hB hvx1 hgxr hgxrv YV;generalize (wa.heap.size,wb.heap.size)::QD=QH at*
  conv=>whnf
  refine⟨be,?_⟩;conv=>whnf
  refine⟨by simp;omega,(rv++[.slice an (cols+1+M.length) cn])++List.replicate (M.length-(rv.length+1)) nls,?_,?_⟩
  .have h5:M.length-rv.length=(M.length-(rv.length+1))+1:=by omega
   simp[h5,List.replicate_succ]
  conv=>whnf
  refine⟨((rv.length+1:Nat):Int),wo,?_⟩;conv=>whnf
  intro I8 w3 r3;have RQ:(rv++[Value.slice an (cols+1+M.length) cn]).length=rv.length+1:=by simp
  refine⟨(rv++[.slice an (cols+1+M.length) cn],QH,w3),⟨by dsimp only;rw[RQ];exact N,G.tr r3.cj,Pn,dR.cX h fun g V=>rls r3 W (V.mono Pn),dK.cX hu fun g V=>rls r3 W (V.mono Pn),fR.cX Ub fun g V=>rls r3 oF (V.mono Pn),?_,?_,?_⟩,
   sbgn [] r3 ⟨by dsimp only;rw[RQ];rfl,rfl,trivial⟩ ⟨rfl,rfl,rfl,rfl,rfl,rfl,rfl,by dsimp only;rw[RQ];rfl,trivial⟩,by dsimp only;rw[RQ];omega⟩
  .dsimp only
   rw[RQ];exact Qs.rel r3 oF
  .intro u hu;rcases bB.1 hu with hu|hu
   .exact h1c u hu
   .simp at hu;subst hu;rfl
  .intro u hu g V;rcases bB.1 hu with hu|hu
   .exact ZU u hu g V
   .simp at hu;subst hu;exact hvnM g V
 .have N:rv.length=M.length:=by
   have:¬rv.length<M.length:=by simpa using N
   omega
  rw[N,show M.length-M.length=0 by omega,List.replicate_zero,List.append_nil];rw[N,<-hlA,bK]at QI;clear h hu Ub ZU Pn hf WZ Pw SF RK hct;conv=>whnf
  obtain⟨Ul,QQ,Ty,hAh⟩:=lz (cols:=cols) TX I;rw[hlA]at QI Ul QQ;refine⟨fun O J r=>?_⟩;have YX:=r.nn 1 _ rfl (by intros;simp) ce;have hm:=QI.mat r oF (id:=1) rfl YX mx h1c;rw[N]at hm;refine(NF (fun g V=>rlo r oF g V.1) hm (fun g V=>V.2) be be (show cols<=cols+1+M.length by omega) TX I (by rw[hlA];exact TH)).mono fun e F L=>?_;obtain⟨vp,rv',rfl,hK,UY,Tj,hP⟩:=L;obtain⟨Fn,pv,hApv⟩:∃Fn pv,(Fn,pv)=dG (pB (dT M) (b.map dD)) cols:=⟨_,_,rfl⟩
  rw[<-hApv]at Ul QQ Ty hAh UY hP;dsimp only at Ul QQ Ty hAh UY hP;have Wj:rv'.length=M.length:=by rw[UY.len,Ul]
  have RA:F.heap[(O 1).g]? =some (.cells rv'.toArray T.row (0,0)):=by
   rcases UY.out.2 with⟨Y,_⟩|⟨g,cap,cur,e,_,V,_,_,QK,VX⟩
   .cases Y
   .injection e with e1 e2 e3;injection e1 with e1;injection e1 with e1;subst e1 e3;rw[V,<-VX,Wj,av,bX (by simp;omega)]
  have hIn:∀g,Mb (.slice (some ⟨(O 1).g,0,none⟩) M.length M.length) rv g->g=(O 1).g\/Cf w Pv g:=fun g V=>by
   rcases V with V|⟨x,E,V⟩
   .injection V with V;exact .inl V.symm
   .exact .inr (QI.new x E g V)
  refine⟨vp,[(1,.arr T.row rv'),(0,.box T.solved [.v nls,.v nls,.v nls])],(J.heap.size,F.heap.size)::Pv,rfl,
   r.IW (id:=1) rfl rfl (fun j hj=>by simp[de,Ne.symm hj]) hK (fun g V=>(hIn g V).imp id fun hc=>fun j c hj U=>Rel.not r oF hc j c hj U) RA,?_⟩
  have hB:=r.cZ;have hT:∀g,Nw (fun g=>Cf w Pv g/\¬Mb (.slice (some ⟨(O 1).g,0,none⟩) M.length M.length) rv g) J F g->Cf w ((J.heap.size,F.heap.size)::Pv) g:=fun g V=>by
   rcases V with V|V
   .exact V.1.mono fun p hp=>aD _ hp
   .exact .inr ⟨be,_,_,aF,V.1,V.2⟩
  have S8:∀(j:Nat) x qs,rv'[j]? =some x->Fn[j]? =some qs->eF F (Cf w ((J.heap.size,F.heap.size)::Pv)) (Cf w ((J.heap.size,F.heap.size)::Pv)) x qs/\qs.length=cols+1+M.length:=fun j x qs Y I=>by
   have h3:gw F _ x (cols+1+M.length) qs:=UY.row j x qs Y I;refine⟨h3.read.cV (fun g V=>?_) hT,h3.len⟩;have hxm:=aG Y;rcases hIn g ((Tj g).1 (.inr ⟨x,hxm,V⟩))with e|hc
   .subst e;exact absurd rfl (UY.Gk x hxm _ V)
   .exact hc.mono fun p hp=>aD _ hp
  have S9:eD F (Cf w ((J.heap.size,F.heap.size)::Pv)) vp pv:=fe.cV hP fun g V=>by
   rcases V with V|V
   .exact V.elim
   .exact .inr ⟨be,_,_,aF,V.1,V.2⟩
  replace G:Bq w F:=(G.tr r.cj).tr ⟨hK.os,hK.tape,hK.output,hK.size,fun k R=>hK.block k (by have:=r.cZ;omega) fun E=>by
   rcases hIn k E with e|hc
   .have:=(r.low 1 _ rfl YX).1;omega
   .rcases hc with hc|⟨hc,_⟩
    .exact hc
    .omega⟩
  clear hm hK UY Tj hP RA hIn hT QI h1c QO hB YX r;generalize (J.heap.size,F.heap.size)::Pv=iv2 at*
  obtain⟨apv,cpv,rfl,hcpv⟩:∃a c,vp= .slice a pv.length c/\pv.length<=c:=by
   obtain⟨-,-,-,a,c,e,Y,-⟩:=S9;exact⟨a,c,e,Y⟩
  have XI:Ht Fn 500000000:=hAh.mono (aR (Nat.mul_le_mul_right _ (Nat.pow_le_pow_right bv QQ)) TH);clear hAh TX TH;conv=>whnf
  refine⟨⟨be,be,be⟩,(if M.length=pv.length then 0 else pv.length),M.length-pv.length,M.length-pv.length,?_,be,be,?_⟩
  .split<;>split<;>omega
  have Rx:pv.length<M.length->(if M.length=pv.length then 0 else pv.length)=pv.length:=fun h=>by rw[aI be]
  generalize (if M.length=pv.length then 0 else pv.length)=off at*
  conv=>whnf
  refine⟨Nat×Iv×World,fun z=>⟨[(4,pP 0 0),(5,iZ cols),(6,.o (.s 1 0 M.length M.length)),(10,sV apv pv.length cpv),(57,.o (.s 1 off (M.length-pv.length) (M.length-pv.length))),(58,iN (M.length-pv.length)),(59,iZ z.1)],
    [(1,.arr T.row rv'),(0,.box T.solved [.v nls,.v nls,.v nls])],2,z.2.1,z.2.2⟩,fun z=>M.length-pv.length-z.1,
   fun z=>z.1<=M.length-pv.length/\Bq w z.2.2/\(∀p,p∈iv2->p∈z.2.1)/\eD z.2.2 (Cf w iv2) (.slice apv pv.length cpv) pv/\
    (∀(j:Nat) x qs,rv'[j]? =some x->Fn[j]? =some qs->eF z.2.2 (Cf w iv2) (Cf w iv2) x qs/\qs.length=cols+1+M.length)/\(∀k,pv.length<=k->k<pv.length+z.1->dU Fn k cols=0),?_,?_⟩
  .intro O J r
   exact⟨(0,iv2,J),⟨ce,G.tr r.cj,fun p hp=>hp,eD.rel S9 r oF,fun j x qs Y I=>⟨(S8 j x qs Y I).1.rel r oF oF,(S8 j x qs Y I).2⟩,fun k Y I=>by dsimp only at I;omega⟩,
    sbgn [] r⟩
  clear G S8 S9;rintro⟨j,Pu,w3⟩ ⟨hj,G,Pn,S9,S8,hz⟩;dsimp only at hj G Pn S9 S8 hz ⊢;have Pp:∀{H nx iv O wx J},(∀p,p∈iv2->p∈iv)->Rel H nx iv w.heap.size wx O J->∀g,Cf w iv2 g->J.heap[g]? =wx.heap[g]? :=by
   intro H nx iv O wx J hm r g V;exact rls r oF (V.mono hm)
  conv=>whnf
  apply bS<;>intro Wh
  .have Wh:j<M.length-pv.length:=by
    have:=aJ Wh;omega
   have Rx:=Rx be;subst Rx;obtain⟨xr,hxr⟩:=gO rv' (pv.length+j);obtain⟨qs,Ym⟩:=gO Fn (pv.length+j);obtain⟨TL,VC⟩:=S8 _ xr qs hxr Ym;obtain⟨axr,cxr,hxe,hxc,-⟩:=TL.shape;rw[VC]at hxe hxc;subst hxe;obtain⟨q,hq⟩:=gO qs cols;have RG:dU Fn (pv.length+j) cols=q:=by
    have:Fn.getD (pv.length+j) []=qs:=by rw[List.getD,Ym];rfl
    rw[dU,this,List.getD,hq];rfl
   obtain⟨adq,cs,rfl,hF,hl⟩:=TL.load hq;obtain⟨b3,a3,n3,c3,b4,a4,n4,c4,rfl,hF⟩:=hF;conv=>whnf
   refine⟨be,?_⟩;conv=>whnf
   refine⟨.slice (some adq) (cols+1+M.length) cxr,by simpa using hxr,?_⟩;conv=>whnf
   refine⟨adq,rfl,be,?_⟩;conv=>whnf
   refine⟨rC b3 a3 n3 c3 b4 a4 n4 c4,rfl,fun O J r i x E=>?_,?_⟩
   .obtain⟨k1,k2⟩:=hl i x E;rw[aK,cd (w:=w3) (F:=J) (by rw[df,df];exact Pp Pn r _ k1)];exact k2
   conv=>whnf
   refine cW (cU (GT:=fun _ _ v _=>v=iV (rs q)) (fun O J r=>jE (fun g V=>rlo r oF g (V.mono Pn)) (cz.cX hF fun g V=>Pp Pn r g V)) ?_);rintro O wa v1 wb r L A rfl;have Pt:∀g,Cf w iv2 g->wb.heap[g]? =w3.heap[g]? :=fun g V=>by rw[L.block g (rlo r oF g (V.mono Pn)),Pp Pn r g V]
   replace S9:=eD.cX S9 Pt;replace S8:∀(j:Nat) x qs,rv'[j]? =some x->Fn[j]? =some qs->eF wb (Cf w iv2) (Cf w iv2) x qs/\qs.length=cols+1+M.length:=fun j x qs Y I=>⟨(S8 j x qs Y I).1.cX fun g V=>Pt g (V.elim id id),(S8 j x qs Y I).2⟩
   replace hF:=cz.cX hF Pt;replace TL:=TL.cX fun g V=>Pt g (V.elim id id)
   replace hl:∀k u,[Value.bool b3,.slice a3 n3 c3,.bool b4,.slice a4 n4 c4][k]? =some u->Cf w iv2 adq.block/\wb.cell? ((adq.add (cols*4)).add k)=some u:=fun k u hu=>⟨(hl k u hu).1,by
    rw[cd (w:=w3) (F:=wb) (by rw[df,df];exact Pt _ (hl k u hu).1)]
    exact(hl k u hu).2⟩
   replace G:=G.tr A;replace Pn:∀p,p∈iv2->p∈(wa.heap.size,wb.heap.size)::Pu:=fun p hp=>aD _ (Pn p hp);clear r L A Pt;generalize (wa.heap.size,wb.heap.size)::Pu=QD at*
   conv=>whnf
   apply bS<;>intro h0
   .have h0:q≠0:=fun e=>by rw[e]at h0;exact absurd h0 bv
    have hqsd:Fn.getD (pv.length+j) []=qs:=by rw[List.getD,Ym];rfl
    have hqA:=XI.at Ym;have hrlq:=hqA q (aG hq);have SJ:=TL.from (k:=cols+1) be;have S5:(qs.drop (cols+1)).length=M.length:=by rw[List.length_drop,VC];omega
    rw[show cols+1+M.length-(cols+1)=M.length by omega]at SJ;conv=>whnf
    refine inc cols ?_;conv=>whnf
    refine⟨⟨be,be,be⟩,(if (cxr:Int)=((cols+1:Nat):Int)then some adq else(some adq).map (·.add ((cols+1)*4))),M.length,cxr-(cols+1),rfl,be,be,?_⟩;generalize (if (cxr:Int)=((cols+1:Nat):Int)then some adq else(some adq).map (·.add ((cols+1)*4)))=adp at*
    conv=>whnf
    refine cW (cU (GT:=fun _ J v F=>gw F (Cf w iv2) v M.length (qs.drop (cols+1))/\∀g,v.ownBlock=some g->J.heap.size<=g/\g<F.heap.size) (fun O J r=>?_) ?_)
    .have:=NH (w:=J) (fun g V=>rlo r oF g (V.mono Pn)) (fun g V=>rlo r oF g (V.mono Pn)) (SJ.cX fun g V=>Pp Pn r g (V.elim id id)) (by rw[S5];omega) (by rw[S5];omega);rw[S5]at this;exact this
    rintro O wa v1 wb' r L A ⟨hP,hpb⟩;have hpT:∀g,v1.ownBlock=some g->¬Cf w iv2 g:=fun g V h=>by have:=rlo r oF g (h.mono Pn);have:=(hpb g V).1;omega
    have Xf:∀g,v1.ownBlock=some g->Cf w ((wa.heap.size,wb'.heap.size)::QD) g:=fun g V=>.inr ⟨by have:=(hpb g V).1;have:=r.cZ;omega,_,_,aF,(hpb g V).1,(hpb g V).2⟩;have Pt:∀g,Cf w iv2 g->wb'.heap[g]? =wb.heap[g]? :=fun g V=>by rw[L.block g (rlo r oF g (V.mono Pn)),Pp Pn r g V]
    replace hF:=cz.cX hF Pt
    replace hl:∀k u,[Value.bool b3,.slice a3 n3 c3,.bool b4,.slice a4 n4 c4][k]? =some u->Cf w iv2 adq.block/\wb'.cell? ((adq.add (cols*4)).add k)=some u:=fun k u hu=>⟨(hl k u hu).1,by
     rw[cd (w:=wb) (F:=wb') (by rw[df,df];exact Pt _ (hl k u hu).1)]
     exact(hl k u hu).2⟩
    replace G:=G.tr A;replace Pn:∀p,p∈iv2->p∈(wa.heap.size,wb'.heap.size)::QD:=fun p hp=>aD _ (Pn p hp);clear r L A Pt SJ TL S9 S8 hpb;generalize (wa.heap.size,wb'.heap.size)::QD=QH at*
    obtain⟨ap',cp',rfl,-⟩:=hP.form;conv=>whnf
    refine dP [.x 0,.x 2,.x 3,.x 4,.x 5,.x 1,.x 6,.x 7] ?_;conv=>whnf
    refine⟨adq,rfl,be,?_⟩;conv=>whnf
    refine⟨rC b3 a3 n3 c3 b4 a4 n4 c4,rfl,fun O J r i x E=>?_,?_⟩
    .obtain⟨k1,k2⟩:=hl i x E;rw[aK,cd (w:=wb') (F:=J) (by rw[df,df];exact Pp Pn r _ k1)];exact k2
    conv=>whnf
    refine cU (GT:=fun _ J v F=>cz F (Nf J F) v (((1:Int):Rat))) (fun O J r=>iX 1 J bv bv) ?_;rintro O wa v1 wc r L Pw hO;have Qh:=hO.ep (S:=FF) r.cZ (iv:=(wa.heap.size,wc.heap.size)::QH) aF;have Pt:∀g,Cf w QH g->wc.heap[g]? =wb'.heap[g]? :=fun g V=>by rw[L.block g (rlo r oF g V),rls r oF V]
    replace hF:=cz.cX hF fun g V=>Pt g (V.mono Pn);replace hP:=hP.cX fun g V=>Pt g (V.elim (fun h=>h.mono Pn) (Xf g));replace G:=G.tr Pw;replace Pn:∀p,p∈iv2->p∈(wa.heap.size,wc.heap.size)::QH:=fun p hp=>aD _ (Pn p hp);replace Xf:∀g,(Value.slice ap' M.length cp').ownBlock=some g->Cf w ((wa.heap.size,wc.heap.size)::QH) g:=fun g V=>(Xf g V).cons;clear r L Pw hO hl Pt;generalize (wa.heap.size,wc.heap.size)::QH=Qe at*
    obtain⟨b5,a5,n5,c5,b6,a6,n6,c6,rfl⟩:=Qh.shape;have SG:(((1:Int):Rat))=1:=rfl;rw[SG]at Qh;conv=>whnf
    refine cU (GT:=fun _ J v F=>cz F (Nf J F) v (1 / q)) (fun O J r=>JX (rlo r oF) (Qh.rel r oF) (cz.cV (cz.cX hF fun g V=>Pp Pn r g V) fun g V=>V.mono Pn) bv be h0) ?_;rintro O wa v1 wd r L Pw hO;have hQN:=hO.ep (S:=FF) r.cZ (iv:=(wa.heap.size,wd.heap.size)::Qe) aF;have hQp:∀g,Nf wa wd g->(Value.slice ap' M.length cp').ownBlock≠some g:=fun g V e=>by
     rcases V with V|V
     .exact V.elim
     .have:=rlo r oF g (Xf g e);omega
    have hQ2:cz wd (fun g=>Cf w ((wa.heap.size,wd.heap.size)::Qe) g/\(Value.slice ap' M.length cp').ownBlock≠some g) v1 (1 / q):=hO.cV fun g V=>⟨V.ep r.cZ aF,hQp g V⟩
    have Pt:∀g,Cf w Qe g->wd.heap[g]? =wc.heap[g]? :=fun g V=>by rw[L.block g (rlo r oF g V),rls r oF V]
    replace hP:=hP.cX fun g V=>Pt g (V.elim (fun h=>h.mono Pn) (Xf g));replace G:=G.tr Pw;replace Pn:∀p,p∈iv2->p∈(wa.heap.size,wd.heap.size)::Qe:=fun p hp=>aD _ (Pn p hp);replace Xf:∀g,(Value.slice ap' M.length cp').ownBlock=some g->Cf w ((wa.heap.size,wd.heap.size)::Qe) g:=fun g V=>(Xf g V).cons;clear r L Pw hO hF Qh Pt hQp;generalize (wa.heap.size,wd.heap.size)::Qe=RS at*
    obtain⟨b7,a7,n7,c7,b8,a8,n8,c8,rfl⟩:=hQN.shape;have hinv:=uj h0;conv=>whnf
    refine⟨fun O J r=>?_⟩;have hPr:=(hP.cX (F:=J) fun g V=>rls r oF (V.elim (fun h=>h.mono Pn) (Xf g))).cV (S':=fun g=>Cf w RS g/\(Value.slice ap' M.length cp').ownBlock≠some g) fun g V=>⟨V.mono Pn,fun e=>hpT g e V⟩
    obtain⟨Z,RP,S6,Wi⟩:=hPr;refine(wz (fun g V=>rlo r oF g V.1) RP Wi S6 (cz.cX hQ2 fun g V=>rls r oF V.1) (fun x E Qa=>Qa.2 E) (fun x E=>by have:=hqA x (List.mem_of_mem_drop E);omega) be).mono fun e w4 L=>?_;obtain⟨rfl,QW,css',Xd,hr5,Xe⟩:=L;have hP2:gw w4 (Nw (fun g=>Cf w RS g/\(Value.slice ap' M.length cp').ownBlock≠some g) J w4) (.slice ap' M.length cp') M.length ((qs.drop (cols+1)).map (· *(1 / q))):=⟨css',Xd,hr5,Xe⟩
    refine⟨.tuple #[],_,(J.heap.size,w4.heap.size)::RS,rfl,r.xD (fun x E=>Rel.not r oF (Xf x E)) QW,?_⟩;have hP3:eF w4 (Cf w ((J.heap.size,w4.heap.size)::RS)) (Cf w ((J.heap.size,w4.heap.size)::RS)) (.slice ap' M.length cp') ((qs.drop (cols+1)).map (· *(1 / q))):=
     hP2.read.cV (fun g V=>(Xf g V).cons) fun g V=>by
      rcases V with V|V
      .exact V.1.cons
      .exact .inr ⟨by have:=r.cZ;omega,_,_,aF,V.1,V.2⟩
    have QG:Bq w w4:=(G.tr r.cj).tr (Bel.grown QW (fun g V=>by
     rcases Xf g V with h|⟨h,_⟩
     .exact h.elim
     .exact h) r.cZ)
    have hsome:∃a,ap'=some a:=by
     rcases Xd.2 with⟨_,h9⟩|⟨g,cap,cur,e,_⟩
     .omega
     .injection e with e;exact⟨_,e⟩
    obtain⟨ag,rfl⟩:=hsome;clear hP hQN hQ2 RP Wi Xd Xe QW hP2 r G hpT Xf Pn;generalize (J.heap.size,w4.heap.size)::RS=Sw at*
    conv=>whnf
    intro GE we re;refine⟨_,rfl,QG.tr re.cj,Fn,pv,hApv,.inl ⟨pv.length+j,_,be,be,by rw[RG];exact h0,fun k Y I=>hz k Y I,rfl,⟨ag,_,_,rfl⟩,?_⟩⟩;rw[hqsd,RG];exact(hP3.rel re oF oF).cV (fun g V=>Cv.nw V re) fun g V=>Cv.nw V re
   .have h0:q=0:=by
     have Y:(rs q==0)=true:=by simpa using h0
     exact Rat.num_eq_zero.1 (bo.1 (eq_of_beq Y))
    conv=>whnf
    refine inc j ?_;conv=>whnf
    intro I8 w5 r3
    refine⟨(j+1,QD,w5),⟨Wh,G.tr r3.cj,Pn,eD.cX S9 fun g V=>Pp Pn r3 g V,fun j x qs Y I=>⟨(S8 j x qs Y I).1.cX fun g V=>Pp Pn r3 g (V.elim id id),(S8 j x qs Y I).2⟩,fun k Y I=>?_⟩,
     sbgn [] r3,by dsimp only;omega⟩
    by_cases R:k=pv.length+j
    .rw[R,RG,h0]
    .exact hz k Y (by dsimp only at I;omega)
  .have Wh:j=M.length-pv.length:=by
    have:=aL Wh;omega
   have Ro:∀k,pv.length<=k->k<M.length->dU Fn k cols=0:=fun k Y I=>hz k Y be;clear hz Rx;conv=>whnf
   refine cW (cU (GT:=fun _ J v F=>eu F FF J.heap.size [(J.heap.size,F.heap.size)] v cols (List.replicate cols 0)) (fun O J r=>jh cols J be) ?_);rintro O wa vx wb r L A E;have hX:=E.ep (S:=FF) (iv:=(wa.heap.size,wb.heap.size)::Pu) r.cZ aF;have TY:∀g,vx.ownBlock=some g->¬Cf w iv2 g:=fun g V h=>by
    have h3:=rlo r oF g (h.mono Pn);rcases E.new g V with h4|⟨h4,_⟩
    .exact h4
    .omega
   have Pt:∀g,Cf w iv2 g->wb.heap[g]? =w3.heap[g]? :=fun g V=>by rw[L.block g (rlo r oF g (V.mono Pn)),Pp Pn r g V]
   replace S9:=eD.cX S9 Pt;replace S8:∀(j:Nat) x qs,rv'[j]? =some x->Fn[j]? =some qs->eF wb (Cf w iv2) (Cf w iv2) x qs/\qs.length=cols+1+M.length:=fun j x qs Y I=>⟨(S8 j x qs Y I).1.cX fun g V=>Pt g (V.elim id id),(S8 j x qs Y I).2⟩
   have Yo:∀g,vx.ownBlock=some g->w.heap.size<=g:=fun g V=>by
    rcases hX.new g V with h4|⟨h4,_⟩
    .exact h4.elim
    .exact h4
   replace G:=G.tr A;replace Pn:∀p,p∈iv2->p∈(wa.heap.size,wb.heap.size)::Pu:=fun p hp=>aD _ (Pn p hp);clear r L A E Pt;generalize (wa.heap.size,wb.heap.size)::Pu=QD at*
   obtain⟨ax,cx,rfl,-⟩:=hX.row.form;conv=>whnf
   refine⟨Nat×Iv×World,fun z=>⟨[(4,pP 0 0),(5,iZ cols),(6,.o (.s 1 0 M.length M.length)),(10,sV apv pv.length cpv),(14,sV ax cols cx),(87,sV apv pv.length cpv),(88,iZ pv.length),(89,iZ z.1)],
     [(1,.arr T.row rv'),(0,.box T.solved [.v nls,.v nls,.v nls])],2,z.2.1,z.2.2⟩,fun z=>pv.length-z.1,
    fun z=>z.1<=pv.length/\Bq w z.2.2/\(∀p,p∈iv2->p∈z.2.1)/\eD z.2.2 (Cf w iv2) (.slice apv pv.length cpv) pv/\
     (∀(j:Nat) x qs,rv'[j]? =some x->Fn[j]? =some qs->eF z.2.2 (Cf w iv2) (Cf w iv2) x qs/\qs.length=cols+1+M.length)/\
     eu z.2.2 FF w.heap.size z.2.1 (.slice ax cols cx) cols (iD Fn pv cols z.1),?_,?_⟩
   .intro O J r
    exact⟨(0,QD,J),⟨ce,G.tr r.cj,Pn,eD.cX S9 fun g V=>Pp Pn r g V,fun j x qs Y I=>⟨(S8 j x qs Y I).1.cX fun g V=>Pp Pn r g (V.elim id id),(S8 j x qs Y I).2⟩,hX.rel r oF⟩,
     sbgn [] r⟩
   clear G Pn S9 S8 hX;rintro⟨i,QH,w5⟩ ⟨hi5,G,Pn,S9,S8,hX⟩;dsimp only at hi5 G Pn S9 S8 hX ⊢;conv=>whnf
   apply bS<;>intro Pk
   .have Pk:=dL Pk;obtain⟨p,Si⟩:=gO pv i;have hpd:pv.getD i 0=p:=by rw[List.getD,Si];rfl
    have Vl:=Ty p (aG Si);obtain⟨_,_,_,_,_,Xp,_,Sp⟩:=id S9;injection Xp with WK ZS WL;subst WK WL;obtain⟨adp,rfl,kp1,kp2⟩:=Sp i (iV (p:Int)) (by rw[aU,Si];rfl);obtain⟨xr,hxr⟩:=gO rv' i;obtain⟨qs,Ym⟩:=gO Fn i;obtain⟨TL,VC⟩:=S8 _ xr qs hxr Ym;obtain⟨axr,cxr,hxe,hxc,-⟩:=TL.shape;rw[VC]at hxe hxc;subst hxe;obtain⟨q,hq⟩:=gO qs cols;have RG:dU Fn i cols=q:=by
     have:Fn.getD i []=qs:=by rw[List.getD,Ym];rfl
     rw[dU,this,List.getD,hq];rfl
    obtain⟨adq,cs,rfl,hF,hl⟩:=TL.load hq;obtain⟨b3,a3,n3,c3,b4,a4,n4,c4,rfl,hF⟩:=hF;conv=>whnf
    refine⟨adp,rfl,be,?_⟩;conv=>whnf
    refine⟨iV (p:Int),fun O J r=>?_,?_⟩
    .rw[aK,av,cd (w:=w5) (F:=J) (by rw[df];exact Pp Pn r _ kp1)];exact kp2
    conv=>whnf
    refine⟨be,?_⟩;conv=>whnf
    refine⟨.slice (some adq) (cols+1+M.length) cxr,by simpa using hxr,?_⟩;conv=>whnf
    refine⟨adq,rfl,be,?_⟩;conv=>whnf
    refine⟨rC b3 a3 n3 c3 b4 a4 n4 c4,rfl,fun O J r i x E=>?_,?_⟩
    .obtain⟨k1,k2⟩:=hl i x E;rw[aK,cd (w:=w5) (F:=J) (by rw[df,df];exact Pp Pn r _ k1)];exact k2
    conv=>whnf
    have QY:∃g,ax=some ⟨g,0,none⟩:=by
     obtain⟨Z,ho,_⟩:=hX.row;rcases ho.2 with⟨_,h0⟩|⟨g,cap,cur,e,_⟩
     .omega
     .injection e with e;exact⟨g,e⟩
    obtain⟨gx,rfl⟩:=QY;refine⟨⟨gx,0,none⟩,rfl,be,?_⟩;conv=>whnf
    intro O J r;obtain⟨_,QY,Y,I,h3,h4,h5⟩:=(hX.rel r oF).store Vl (cz.cV (cz.cX hF fun g V=>Pp Pn r g V) fun g V=>⟨V.mono Pn,fun e=>TY g e V⟩) r oF;injection QY with QY;injection QY with QY;subst QY;have Pt:∀g,Cf w iv2 g->J.heap[g]? =w5.heap[g]? :=fun g V=>Pp Pn r g V;replace S9:=eD.cX S9 Pt;replace S8:∀(j:Nat) x qs,rv'[j]? =some x->Fn[j]? =some qs->eF J (Cf w iv2) (Cf w iv2) x qs/\qs.length=cols+1+M.length:=fun j x qs Y I=>⟨(S8 j x qs Y I).1.cX fun g V=>Pt g (V.elim id id),(S8 j x qs Y I).2⟩
    have hold:∀g,Cf w QH g->g<J.heap.size:=rlo r oF;replace G:=G.tr r.cj;clear r hX TL hF hl Pt kp1 kp2 Sp;refine⟨Y,I,h3,fun F RT=>?_⟩;obtain⟨hX,QW,-⟩:=h5 F RT;replace G:Bq w F:=G.tr (Bel.grown QW (fun g V=>by injection V with V;subst V;exact Yo gx rfl) (by have:=G.size;omega));have Pt:∀g,Cf w iv2 g->F.heap[g]? =J.heap[g]? :=fun g V=>QW.block g (hold g (V.mono Pn)) fun e=>by injection e with e;subst e;exact TY _ rfl V
    replace S9:=eD.cX S9 Pt;replace S8:∀(j:Nat) x qs,rv'[j]? =some x->Fn[j]? =some qs->eF F (Cf w iv2) (Cf w iv2) x qs/\qs.length=cols+1+M.length:=fun j x qs Y I=>⟨(S8 j x qs Y I).1.cX fun g V=>Pt g (V.elim id id),(S8 j x qs Y I).2⟩
    clear Y I h3 h4 h5 RT QW hold Pt;rw[<-RG,<-hpd,<-kO]at hX;conv=>whnf
    refine inc i ?_;conv=>whnf
    intro I8 w6 r3
    exact⟨(i+1,QH,w6),⟨Pk,G.tr r3.cj,Pn,eD.cX S9 fun g V=>Pp Pn r3 g V,fun j x qs Y I=>⟨(S8 j x qs Y I).1.cX fun g V=>Pp Pn r3 g (V.elim id id),(S8 j x qs Y I).2⟩,hX.rel r3 oF⟩,
     sbgn [] r3,by dsimp only;omega⟩
   .have Pk:i=pv.length:=by
     have:¬i<pv.length:=by simpa using Pk
     omega
    subst Pk;have hxR:=hX.read;clear hX;conv=>whnf
    refine gU (GT:=fun O J v F=>fR F (Nw (fun g=>Cf w iv2 g\/g=(O 1).g) J F) v (dz Fn pv cols cols)) (H':=[(0,.box T.solved [.v nls,.v nls,.v nls])]) 1 rfl ce ⟨rfl,trivial⟩ rfl (fun O J r=>r.nn 1 _ rfl (by intros;simp) ce) (fun O J r=>?_) ?_
    .have Pq:=r.low 1 _ rfl (r.nn 1 _ rfl (by intros;simp) ce)
     have ha:=r.IC (id:=1) (sz:=1) (n:=M.length) rfl (by rw[Wj,av]) mx (fun u hu=>by
      obtain⟨i,N⟩:=az hu;obtain⟨a,cc,e,_⟩:=((S8 i u _ N (aE (by rw[Ul,<-Wj];exact(aH.1 N).1))).1).shape;rw[e]
      rfl)
     refine NG (n:=cols+1+M.length) (fun g V=>?_) (⟨rv',?_,by rw[Wj,Ul],fun i x qs Y I=>?_⟩:fR J _ _ Fn) (eD.cV (eD.cX S9 fun g V=>Pp Pn r g V) fun g V=>.inl V) (fun rr XW=>?_) be be be be Ty
     .rcases V with V|rfl
      .exact rlo r oF g (V.mono Pn)
      .exact Pq.2
     .rw[Ul];exact ha.cV fun g V=>.inr V
     .exact((S8 i x qs Y I).1.cX fun g V=>Pp Pn r g (V.elim id id)).cV (fun g V=>.inl V) fun g V=>.inl V
     .obtain⟨i,N⟩:=az XW;have XB:=(aH.1 N).1;exact(S8 i rv'[i] rr (aE be) N).2
    rintro O wa vk wb r L A hkR;have Pq:=r.low 1 _ rfl (r.nn 1 _ rfl (by intros;simp) ce);have Tm:fR wb (Cf w (((O 1).g,(O 1).g+1)::(wa.heap.size,wb.heap.size)::QH)) vk (dz Fn pv cols cols):=fR.cV hkR fun g V=>by
     rcases V with(V|rfl)|V
     .exact(V.mono Pn).cons.cons
     .exact .inr ⟨Pq.1,_,_,aF,be,be⟩
     .exact .inr ⟨by have:=r.cZ;omega,_,_,aD _ aF,V.1,V.2⟩
    have Qa:eF wb (Cf w (((O 1).g,(O 1).g+1)::(wa.heap.size,wb.heap.size)::QH)) (Cf w (((O 1).g,(O 1).g+1)::(wa.heap.size,wb.heap.size)::QH)) (.slice ax cols cx) (iD Fn pv cols pv.length):=
     (hxR.cX fun g V=>by rw[L.block g (rlo r oF g (V.elim id id)),rls r oF (V.elim id id)]).cV (fun g V=>V.cons.cons) fun g V=>V.cons.cons
    replace G:=G.tr A;clear r L A hkR hxR S8 S9 Pq;generalize ((O 1).g,(O 1).g+1)::(wa.heap.size,wb.heap.size)::QH=Qe at*
    obtain⟨ak,ck,rfl,-⟩:=dH.shape Tm;conv=>whnf
    exact rtn G fun GE we re=>⟨Fn,pv,hApv,.inr ⟨_,_,Ro,rfl,(Qa.rel re oF oF).cV (fun g V=>Cv.nw V re) (fun g V=>Cv.nw V re),fR.out Tm re oF⟩⟩
def j6(w:World)(S:Nat->Prop)(cs:List Value)(q:Rat):Prop:=∃b a n c b2 a2 n2 c2,cs=(rC b a n c b2 a2 n2 c2)/\dI w S (.agg #[.bool b,.slice a n c,.bool b2,.slice a2 n2 c2]) q
abbrev cg:=dN j6
abbrev db:=dH cg
section
variable{S S':Nat->Prop}{H:Hp}{nx:Nat}{iv K:Iv}{B:Nat}{w J F:World}{O:Nat->Sx.eH}{v:Value}{qs:List Rat}{cs:List Value}{q:Rat}
theorem j6.cX(h:j6 w S cs q)(R:∀g,S g->F.heap[g]? =w.heap[g]?):j6 F S cs q:=by
 obtain⟨b,a,n,c,b2,a2,n2,c2,Y,I⟩:=h;exact⟨b,a,n,c,b2,a2,n2,c2,Y,I.cX R⟩
theorem j6.cV(h:j6 w S cs q)(R:∀g,S g->S' g):j6 w S' cs q:=by
 obtain⟨b,a,n,c,b2,a2,n2,c2,Y,I⟩:=h;exact⟨b,a,n,c,b2,a2,n2,c2,Y,I.cV R⟩
theorem cg.cX(h:cg w S v qs)(R:∀g,S g->F.heap[g]? =w.heap[g]?):cg F S v qs:=by
 obtain⟨Z,Y,I,h3,h4⟩:=h;exact⟨Z,Y.cX R,I,h3,fun j cs x k1 k2=>(h4 j cs x k1 k2).cX R⟩
theorem cg.cV(h:cg w S v qs)(R:∀g,S g->S' g):cg w S' v qs:=by
 obtain⟨Z,Y,I,h3,h4⟩:=h;exact⟨Z,Y.cV R,I,h3,fun j cs x k1 k2=>(h4 j cs x k1 k2).cV R⟩
theorem db.cX(h:db w S v M)(R:∀g,S g->F.heap[g]? =w.heap[g]?):db F S v M:=by
 obtain⟨rv,Y,I,h3⟩:=h;exact⟨rv,Y.cX R,I,fun i u x k1 k2=>cg.cX (h3 i u x k1 k2) R⟩
theorem db.cV(h:db w S v M)(R:∀g,S g->S' g):db w S' v M:=by
 obtain⟨rv,Y,I,h3⟩:=h;exact⟨rv,Y.cV R,I,fun i u x k1 k2=>cg.cV (h3 i u x k1 k2) R⟩
end
section
variable{S S':Nat->Prop}{H:Hp}{nx:Nat}{iv K:Iv}{B:Nat}{w J F:World}{O:Nat->Sx.eH}{v:Value}{qs:List Rat}
theorem cg.rel(h:cg w (Cv S B iv) v qs)(r:Rel H nx iv B w O J)(W:∀g,S g->g<B):cg J (Cv S B iv) v qs:=cg.cX h fun _ V=>rls r W V
theorem cg.cS(h:cg w (Cv S B iv) v qs)(r:Rel H nx iv B w O J)(W:∀g,S g->g<B)(L:Ext J F)(hm:∀p,p∈iv->p∈K):cg F (Cv S B K) v qs:=
 cg.cV (cg.cX (cg.rel h r W) fun g V=>L.block g (rlo r W g V)) fun _ V=>V.mono hm
theorem cg.ep(h:cg F (Nf J F) v qs)(hB:B<=J.heap.size)(hm:(J.heap.size,F.heap.size)∈iv):cg F (Cv S B iv) v qs:=cg.cV h fun _ V=>V.ep hB hm
theorem cg.out{w0 w1:World}(h:cg w1 (Cv S w0.heap.size iv) v qs)(r:Rel H nx iv w0.heap.size w1 O J)(W:Old S w0):cg J (Nw S w0 J) v qs:=
 cg.cV (cg.rel h r W) fun _ V=>Cv.nw V r
end
section
variable{S S':Nat->Prop}{H:Hp}{nx:Nat}{iv K:Iv}{B:Nat}{w J F:World}{O:Nat->Sx.eH}{v:Value}{M:List (List Rat)}
theorem db.rel(h:db w (Cv S B iv) v M)(r:Rel H nx iv B w O J)(W:∀g,S g->g<B):db J (Cv S B iv) v M:=db.cX h fun _ V=>rls r W V
theorem db.cS(h:db w (Cv S B iv) v M)(r:Rel H nx iv B w O J)(W:∀g,S g->g<B)(L:Ext J F)(hm:∀p,p∈iv->p∈K):db F (Cv S B K) v M:=
 db.cV (db.cX (db.rel h r W) fun g V=>L.block g (rlo r W g V)) fun _ V=>V.mono hm
theorem db.ep(h:db F (Nf J F) v M)(hB:B<=J.heap.size)(hm:(J.heap.size,F.heap.size)∈iv):db F (Cv S B iv) v M:=db.cV h fun _ V=>V.ep hB hm
theorem db.out{w0 w1:World}(h:db w1 (Cv S w0.heap.size iv) v M)(r:Rel H nx iv w0.heap.size w1 O J)(W:Old S w0):db J (Nw S w0 J) v M:=
 db.cV (db.rel h r W) fun _ V=>Cv.nw V r
end
theorem kZ(W:Old S w)(h:eF w S S v qs)(hl:qs.length<=1000000)(hq:∀q∈qs,rl q<=10000000000):
  eL PG FS.sP #[v] w (eY w fun v' F=>cg F (Nf w F) v' qs):=by
 obtain⟨a,c,rfl,hc,-⟩:=h.shape;refine wi ce ?_;conv=>whnf
 refine⟨List (List Value)×Iv×World,fun z=>⟨[(3,.o (.w 0 z.1.length)),(6,sV a qs.length c),(7,iZ qs.length),(8,iZ z.1.length)],[(0,.vec T.Rat 4 z.1.flatten)],1,z.2.1,z.2.2⟩,fun z=>qs.length-z.1.length,
  fun z=>z.1.length<=qs.length/\Bq w z.2.2/\(∀cs∈z.1,cs.length=4)/\(∀cs∈z.1,∀u∈cs,u.oneCell'=true)/\∀(j:Nat) cs q,z.1[j]? =some cs->qs[j]? =some q->j6 z.2.2 (Cf w z.2.1) cs q,?_,?_⟩
 .intro O J r
  exact⟨([],[],J),⟨ce,r.cj,ce,ce,ce⟩,Sub.nil 3 T.Rat 4 rfl (by simp[jn,SV.sc,At.sc,fu]) r fun I9 r1=>
   sbgn [] r1⟩
 rintro⟨Z,iv,w1⟩ ⟨N,G,h4,Y,RG⟩;dsimp only at N G h4 Y RG ⊢;have Qp:=fN h4;have hR:eF w1 S S (.slice a qs.length c) qs:=h.cX fun g V=>G.block g (V.elim (W g) (W g));conv=>whnf
 apply bS<;>intro A
 .have A:Z.length<qs.length:=by simpa using A
  obtain⟨q,VG⟩:=gO qs Z.length;obtain⟨ad,cs,rfl,hF,Qu⟩:=hR.load VG;obtain⟨b3,a3,n3,c3,b4,a4,n4,c4,rfl,hF⟩:=hF;have QO:=hq q (aG VG);conv=>whnf
  refine⟨ad,rfl,be,?_⟩;conv=>whnf
  refine⟨rC b3 a3 n3 c3 b4 a4 n4 c4,rfl,fun O J r i x E=>?_,?_⟩
  .obtain⟨k1,k2⟩:=Qu i x E;rw[aK,cd (w:=w1) (F:=J) (by rw[df,df];exact rls (S:=S) r W (.inl k1))];exact k2
  conv=>whnf
  refine cW (cU (GT:=fun _ J v F=>dI F (Nf J F) v q) (fun O J r=>zc (oS W r) (cz.cX hF fun g V=>rls (S:=S) r W (.inl V)) be) ?_);rintro O wa v1 wb r L Q2 hO;have Qh:=hO.ep (S:=FF) r.cZ (iv:=(wa.heap.size,wb.heap.size)::iv) aF;replace RG:∀(j:Nat) cs q,Z[j]? =some cs->qs[j]? =some q->j6 wb (Cf w ((wa.heap.size,wb.heap.size)::iv)) cs q:=fun j cs q k1 k2=>
   ((RG j cs q k1 k2).cX fun g V=>by exact(L.block g (rlo r oF g V)).trans (rls r oF V)).cV fun g V=>V.cons
  replace G:=G.tr Q2;clear r L Q2 hO hR hF Qu;generalize (wa.heap.size,wb.heap.size)::iv=iv2 at*
  obtain⟨b5,a5,n5,c5,b6,a6,n6,c6,rfl⟩:=Qh.shape;conv=>whnf
  refine .inl ?_;conv=>whnf
  refine⟨Qp,be,mx,?_⟩;conv=>whnf
  refine⟨((Z.length+1:Nat):Int),wo,?_⟩;conv=>whnf
  intro I8 w3 r3;have RQ:(Z++[[Value.bool b5,.slice a5 n5 c5,.bool b6,.slice a6 n6 c6]]).length=Z.length+1:=by simp
  have ZT:(Z++[[Value.bool b5,.slice a5 n5 c5,.bool b6,.slice a6 n6 c6]]).flatten=Z.flatten++[Value.bool b5,.slice a5 n5 c5,.bool b6,.slice a6 n6 c6]:=by simp
  refine⟨(Z++[rC b5 a5 n5 c5 b6 a6 n6 c6],iv2,w3),⟨by dsimp only;rw[RQ];exact A,G.tr r3.cj,fun cs hc=>?_,fun cs hc u hu=>?_,fun j cs p k1 k2=>?_⟩,
   sbgn [(0,3)] r3 ⟨by dsimp only;rw[ZT];rfl,trivial⟩ ⟨by dsimp only;rw[RQ];rfl,rfl,rfl,by dsimp only;rw[RQ];rfl,trivial⟩,by dsimp only;rw[RQ];omega⟩
  .rcases bB.1 hc with hc|hc
   .exact h4 cs hc
   .simp at hc;subst hc;rfl
  .rcases bB.1 hc with hc|hc
   .exact Y cs hc u hu
   .simp at hc;subst hc;simp at hu;rcases hu with rfl|rfl|rfl|rfl<;>rfl
  .rcases aW j Z.length with hj|hj
   .rw[aN hj]at k1;exact(RG j cs p k1 k2).cX fun g V=>rls r3 oF V
   .have Yp:j=Z.length:=by have:=(aH.1 k1).1;rw[RQ]at this;omega
    subst Yp;rw[aP lr,bY]at k1;simp at k1;rw[VG]at k2;injection k2 with k2;subst k1 k2;exact⟨b5,a5,n5,c5,b6,a6,n6,c6,rfl,Qh.rel r3 oF⟩
 .have A:Z.length=qs.length:=by
   have:¬Z.length<qs.length:=by simpa using A
   omega
  conv=>whnf
  intro GE we re;refine⟨_,rfl,G.tr re.cj,Z,?_,A,h4,fun j cs q k1 k2=>((RG j cs q k1 k2).cX fun g V=>rls re oF V).cV fun g V=>Cv.nw V re⟩
  have:=re.ku (id:=0) (sz:=4) (m:=Z.length) rfl Qp mx bv (fun u hu=>by
   obtain⟨cs,hc,hu⟩:=List.mem_flatten.1 hu
   exact Y cs hc u hu)
  rw[<-A];exact this.cV fun g V=>.inr V
theorem Of(W:Old S w)(h:fR w S v M)(hl:M.length<=1000000)(U:n<=1000000)(Pm:∀r∈M,r.length=n)(hq:∀r∈M,∀q∈r,rl q<=10000000000):
  eL PG FS.yZ #[v] w (eY w fun v' F=>db F (Nf w F) v' M):=by
 obtain⟨a,c,rfl,hc,-⟩:=dH.shape h;refine BT ce ?_;conv=>whnf
 refine⟨List Value×Iv×World,fun z=>⟨[(3,.o (.w 0 z.1.length)),(6,sV a M.length c),(7,iZ M.length),(8,iZ z.1.length)],[(0,.vec T.lM 1 z.1)],1,z.2.1,z.2.2⟩,fun z=>M.length-z.1.length,
  fun z=>z.1.length<=M.length/\Bq w z.2.2/\(∀u∈z.1,u.oneCell'=true)/\∀(j:Nat) u qs,z.1[j]? =some u->M[j]? =some qs->cg z.2.2 (Cf w z.2.1) u qs,?_,?_⟩
 .intro O J r
  exact⟨([],[],J),⟨ce,r.cj,ce,ce⟩,Sub.nil 3 T.lM 1 rfl (by simp[jn,SV.sc,At.sc,fu]) r fun I9 r1=>
   sbgn [] r1⟩
 rintro⟨rv,iv,w1⟩ ⟨N,G,Y,RG⟩;dsimp only at N G Y RG ⊢;have hR:fR w1 S (.slice a M.length c) M:=fR.cX h fun g V=>G.block g (W g V);conv=>whnf
 apply bS<;>intro A
 .have A:rv.length<M.length:=by simpa using A
  obtain⟨qs,VG⟩:=gO M rv.length;obtain⟨ad,u,rfl,TL,k1,k2⟩:=dH.load hR VG;obtain⟨au,cu,rfl⟩:=dH.rowOf TL;have VC:=Pm qs (aG VG);conv=>whnf
  refine⟨ad,rfl,be,?_⟩;conv=>whnf
  refine⟨.slice au qs.length cu,fun O J r=>?_,?_⟩
  .rw[aK,cd (w:=w1) (F:=J) (by rw[df];exact rls (S:=S) r W (.inl k1))];exact k2
  conv=>whnf
  refine cW (cU (GT:=fun _ J v F=>cg F (Nf J F) v qs) (fun O J r=>kZ (oS W r) (TL.cX fun g V=>rls (S:=S) r W (.inl (V.elim id id))) be (hq qs (aG VG))) ?_);rintro O wa v1 wb r L Q2 hO;have Qh:=cg.ep (S:=FF) hO r.cZ (iv:=(wa.heap.size,wb.heap.size)::iv) aF;replace RG:∀(j:Nat) u qs,rv[j]? =some u->M[j]? =some qs->cg wb (Cf w ((wa.heap.size,wb.heap.size)::iv)) u qs:=fun j u qs k1 k2=>
   cg.cV (cg.cX (RG j u qs k1 k2) fun g V=>(L.block g (rlo r oF g V)).trans (rls r oF V)) fun g V=>V.cons
  replace G:=G.tr Q2;clear r L Q2 hO hR TL k1 k2;generalize (wa.heap.size,wb.heap.size)::iv=iv2 at*
  obtain⟨a5,c5,rfl,-,-⟩:=dN.shape Qh;conv=>whnf
  refine .inl ?_;conv=>whnf
  refine⟨ce,be,mx,?_⟩;conv=>whnf
  refine⟨((rv.length+1:Nat):Int),wo,?_⟩;conv=>whnf
  intro I8 w3 r3;have RQ:(rv++[Value.slice a5 qs.length c5]).length=rv.length+1:=by simp
  refine⟨(rv++[.slice a5 qs.length c5],iv2,w3),⟨by dsimp only;rw[RQ];exact A,G.tr r3.cj,fun u hu=>?_,fun j u p k1 k2=>?_⟩,
   sbgn [(0,2)] r3 (hE:=⟨by dsimp only;rw[RQ];rfl,rfl,rfl,by dsimp only;rw[RQ];rfl,trivial⟩),by dsimp only;rw[RQ];omega⟩
  .rcases bB.1 hu with hu|hu
   .exact Y u hu
   .simp at hu;subst hu;rfl
  .rcases aW j rv.length with hj|hj
   .rw[aN hj]at k1;exact cg.cX (RG j u p k1 k2) fun g V=>rls r3 oF V
   .have Yp:j=rv.length:=by have:=(aH.1 k1).1;rw[RQ]at this;omega
    subst Yp;rw[aP lr,bY]at k1;simp at k1;rw[VG]at k2;injection k2 with k2;subst k1 k2;exact cg.rel Qh r3 oF
 .have A:rv.length=M.length:=by
   have:¬rv.length<M.length:=by simpa using A
   omega
  conv=>whnf
  intro GE we re;refine⟨_,rfl,G.tr re.cj,rv,?_,A,fun j u qs k1 k2=>cg.cV (cg.cX (RG j u qs k1 k2) fun g V=>rls re oF V) fun g V=>Cv.nw V re⟩;have:=re.ku (id:=0) (sz:=1) (m:=rv.length) rfl ce mx bv Y;rw[<-A];exact this.cV fun g V=>.inr V
end Go.Ex
