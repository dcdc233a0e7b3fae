/- Texts X39 to X43: lemmas, each with its conditions. -/
import Derived.Test.YtbffinhkognefaaGreatDoorP6
namespace Go.Ex
open Go Go.Sx Go.Proofs
variable{F':List (List Rat)}{parts:List (Value×List Value×Nat)}{ps pv:List Nat}{qs:List Rat}{c cols x:Nat}{C S:Nat->Prop}{a:Option Addr}{q:Rat}{v:Value}{w:World}
abbrev Mi:=rR
theorem KN(n:Nat)(w:World)(U:n<=1000000000000):
  eD PG Fd.ep #[nls,iV n] w (eL w fun v' F=>F.ownsRow w.heap.size T.cw 4 v' 0 []):=by
 refine gR ce ?_;conv=>whnf
 refine wR (e:=T.cw) Mi d5 (fun O w1 r=>?_);have N:=r.cV;clear r;conv=>whnf
 refine⟨0,rfl,?_⟩;conv=>whnf
 refine⟨(n:Int),by show IntKind.wrap .i64 ((n:Int)-0)=_;rw[wrap64]<;>omega,?_⟩;conv=>whnf
 apply bS<;>intro h
 .have h:0<n:=by have:=aI h;omega
  conv=>whnf
  refine wR (e:=T.cw) Mi d5 (fun O F r=>?_);replace N:=N.tr r.cV;clear r;conv=>whnf
  refine⟨⟨be,be,be⟩,none,0,0,d5,be,be,?_⟩;conv=>whnf
  refine zg hτ (Bc:=w.heap.size) lr d5 d5 ((hτ T.int _ rfl).i1 rfl) bv d5 d5 h mx be (fun O w3 w4 c r hc OI V hs=>?_);have Pj:Bq w w4:=(N.tr r.cV).tr (Bel.grown V (fun g V=>by cases V) (by have:=r.base;have:=r.size;omega));have hw3:=(N.tr r.cV).size;clear r;generalize w3.heap.size=g0 at*
  conv=>whnf
  refine⟨⟨be,be,be⟩,some ⟨g0,0,none⟩,0,c,by split<;>rfl,be,be,?_⟩;conv=>whnf
  intro In w5 r5
  exact⟨_,rfl,Pj.tr r5.cV,fD OI (fun b N=>by
   have N:g0=b:=by injection N
   exact⟨g0,g0+1,by simp[hs],be,be⟩) r5⟩
 .conv=>whnf
  intro In w5 r5;exact⟨_,rfl,N.tr r5.cV,World.ownsRow_nil _ _ _ _⟩
theorem HM(L:Old S w)(h:fy w S 1 v (parts.map (·.1)) parts.length)(hp:∀p∈parts,fy w S 4 p.1 p.2.1 p.2.2)(hN:iQ parts<=1000000000000):
  eD PG Fd.eH #[v] w (eL w fun v' F=>F.ownsRow w.heap.size T.cw 4 v' (iQ parts) (parts.flatMap (·.2.1))):=by
 obtain⟨TS,-,-,a,c,rfl,So,OY⟩:=h;have hle:∀k,iQ (parts.take k)<=iQ parts:=fun k=>by
  conv=>rhs;rw[<-List.take_append_drop k parts,mh]
  omega
 have Qa:∀(i:Nat) p,parts[i]? =some p->iQ (parts.take (i+1))=iQ (parts.take i)+p.2.2:=fun i p hp=>by
  rw[bE,hp,mh];simp[iQ]
 have Ts:∀(i:Nat) p,parts[i]? =some p->(parts.take (i+1)).flatMap (·.2.1)=(parts.take i).flatMap (·.2.1)++p.2.1:=fun i p hp=>by
  rw[bE,hp];simp
 have Q9:∀(i:Nat) p,parts[i]? =some p->∃ad an ac,a=some ad/\S ad.block/\w.cell? (ad.add i)=some (.slice an p.2.2 ac)/\p.1= .slice an p.2.2 ac:=fun i p R=>by
  obtain⟨ad,W,I,h3⟩:=OY i p.1 (by rw[aS,R];rfl);obtain⟨_,_,_,an,ac,h4,_⟩:=hp p (aG R);exact⟨ad,an,ac,W,I,by rw[h3,h4],h4⟩
 unfold maxLen at TS;refine gJ ce ?_;conv=>whnf
 refine⟨Nat×World,fun z=>⟨[(0,sV a parts.length c),(3,.o (.v (iV (iQ (parts.take z.1):Nat)))),(9,sV a parts.length c),(10,iZ parts.length),(11,iZ z.1)],[],0,[],z.2⟩,
  fun z=>parts.length-z.1,fun z=>z.1<=parts.length/\Bq w z.2,?_,?_⟩
 .intro O J r;exact⟨(0,J),⟨ce,r.cV⟩,sbgn [] r⟩
 .rintro⟨i,w1⟩ ⟨R,Y⟩;dsimp only at R Y ⊢;conv=>whnf
  apply bS<;>intro h
  .have h:=dL h;obtain⟨p,Ro⟩:=gO parts i;obtain⟨ad,an,ac,W,I,h3,h4⟩:=Q9 i p Ro;have Uu:=Qa i p Ro;have R9:=hle (i+1);conv=>whnf
   refine⟨ad,W,be,?_⟩;conv=>whnf
   refine⟨.slice an p.2.2 ac,fun O J r=>by simpa using fY L Y r I h3,?_⟩;conv=>whnf
   refine⟨((iQ (parts.take (i+1)):Nat):Int),wo,?_⟩;conv=>whnf
   refine inc i ?_;conv=>whnf
   intro IR w3 r3;exact⟨(i+1,w3),⟨h,Y.tr r3.cV⟩,sbgn [] r3,by simp;omega⟩
  .have h:i=parts.length:=by
    have:¬i<parts.length:=by simpa using h
    omega
   subst h;clear R;rw[bF];conv=>whnf
   refine cM (cN (I9:=fun _ J v F=>F.ownsRow J.heap.size T.cw 4 v 0 []) (fun O J r=>KN _ J be) ?_);rintro O wa v1 wb r G N OI;have Od:=r.cR;have hes:=G.size;have Vc:tt [(wa.heap.size,wb.heap.size)] v1:=fun b N=>⟨_,_,bW.2 rfl,(ownsRow.low OI b N).1,(ownsRow.low OI b N).2⟩
   replace OI:wb.ownsRow w.heap.size T.cw 4 v1 0 []:=⟨OI.1,OI.2.imp id fun⟨g,cap,cur,k1,k2,k3⟩=>⟨g,cap,cur,k1,be,k3⟩⟩
   replace Y:=Y.tr N;clear r G;obtain⟨a1,c1,rfl,-⟩:=eK OI;conv=>whnf
   refine⟨Nat×Value×World,fun z=>⟨[(0,sV a parts.length c),(6,.o (.v z.2.1)),(25,sV a parts.length c),(26,iZ parts.length),(27,iZ z.1)],[],0,e8 z.2.1,z.2.2⟩,
    fun z=>parts.length-z.1,fun z=>z.1<=parts.length/\Bq w z.2.2/\z.2.2.ownsRow w.heap.size T.cw 4 z.2.1 (iQ (parts.take z.1)) ((parts.take z.1).flatMap (·.2.1)),?_,?_⟩
   .intro O J r;exact⟨(0,.slice a1 0 c1,J),⟨ce,Y.tr r.cV,by simpa [iQ]using fD OI Vc r⟩,Sub.MS [] r trivial ⟨rfl,rfl,rfl,rfl,rfl,trivial⟩ (by simp[zc]) (by simp[ka,SV.sc,At.sc]) d5 Vc.iv⟩
   .rintro⟨i,v1,w1⟩ ⟨R,Y,OI⟩;dsimp only at R Y OI ⊢;obtain⟨a1,c1,rfl,-⟩:=eK OI;conv=>whnf
    apply bS<;>intro h
    .have h:=dL h;obtain⟨p,Ro⟩:=gO parts i;obtain⟨ad,an,ac,W,I,h3,h4⟩:=Q9 i p Ro;have Uu:=Qa i p Ro;have R9:=hle (i+1);have hpR:=hp p (aG Ro);conv=>whnf
     refine⟨ad,W,be,?_⟩;conv=>whnf
     refine⟨.slice an p.2.2 ac,fun O J r=>by simpa using fY L Y r I h3,?_⟩;conv=>whnf
     refine .inr (gp hτ lr (xs:=(parts.take i).flatMap (·.2.1)) (news:=p.2.1) (m:=iQ (parts.take i)) (k:=p.2.2) d5 d5 bv d5 d5 (fun O J r=>⟨fD OI (tt.row _) r,fun g V=>(tt.row _).not r V⟩) hpR.len hpR.one mx be
      (fun O J r=>?_) (fun v' F=>e8 v') (fun O J v' F r Od Qu=>vO r Od Qu) (fun O J v' F r h5 h6 h7=>?_))
     .obtain⟨_,Ra,_,a2,c2,h5,_,h6⟩:=hpR;rw[h4]at h5;injection h5 with h7 h8 h9;subst h7 h9
      cases an with
      |none=>
       refine .inl ⟨ac,?_,?_⟩
       .have:p.2.2=0:=by
         rcases bB p.2.2 with h0|h0
         .exact h0
         .obtain⟨ad2,k1,_⟩:=h6 0 _ (aE (show 0<p.2.1.length by omega))
          cases k1
        rw[<-this];rfl
       .rcases bB p.2.2 with h0|h0
        .exact h0
        .obtain⟨ad2,k1,_⟩:=h6 0 _ (aE (show 0<p.2.1.length by omega))
         cases k1
      |some ad3=>
       refine .inr ⟨ad3,ac,rfl,fun j u hu=>?_⟩;obtain⟨ad2,k1,k2,k3⟩:=h6 j u hu;injection k1 with k1;subst k1;exact fY L Y r k2 k3
     .have PD:Bq w F:=(Y.tr r.cV).tr (Bel.grown h6 (fun g V=>(ownsRow.low OI g V).1) (by have:=r.size;have:=Y.size;omega));rw[<-Uu,<-Ts i p Ro]at h5;obtain⟨a3,c3,rfl,-⟩:=eK h5;conv=>whnf
      refine⟨(i+1:Nat),wo,?_⟩;conv=>whnf
      intro IR w3 r3
      exact⟨(i+1,.slice a3 (iQ (parts.take (i+1))) c3,w3),⟨h,PD.tr r3.cV,fD h5 (tt.row _) r3⟩,
       sbgn [] r3,by simp;omega⟩
    .have h:i=parts.length:=by
      have:¬i<parts.length:=by simpa using h
      omega
     subst h;rw[bF]at OI ⊢;conv=>whnf
     intro In w5 r5;exact⟨_,rfl,Y.tr r5.cV,fD OI (tt.row _) r5⟩
def fF(w:World)(S:Nat->Prop)(v:Value)(ps:List Nat):Prop:=fy w S 1 v (ps.map fun c:Nat=>iV (c:Int)) ps.length
theorem KO(L:Old S w)(h:fF w S v ps)(hl:ps.length<=1000000):
  eD PG Fd.fm #[v,iV x] w (eL w fun v' _=>∃i:Int,v'=iV i/\(0<=i↔x∈ps)):=by
 obtain⟨h0,W,I,a,c,rfl,hc,OY⟩:=h;refine gj ce ?_;conv=>whnf
 refine⟨Nat×World,fun z=>⟨[(0,sV a ps.length c),(1,iZ x),(7,iZ ps.length),(8,iZ z.1)],[],0,[],z.2⟩,fun z=>ps.length-z.1,
  fun z=>z.1<=ps.length/\Bq w z.2/\∀(j:Nat) y,j<z.1->ps[j]? =some y->y≠x,?_,?_⟩
 .intro O J r;exact⟨(0,J),⟨ce,r.cV,ce⟩,sbgn [] r⟩
 rintro⟨i,w1⟩ ⟨R,Y,OL⟩;dsimp only at R Y OL ⊢;conv=>whnf
 apply bS<;>intro h
 .have h:=dL h;obtain⟨y,hy⟩:=gO ps i;obtain⟨ad,rfl,k1,k2⟩:=OY i (iV (y:Int)) (by rw[aS,hy];rfl);conv=>whnf
  refine⟨ad,rfl,be,?_⟩;conv=>whnf
  refine⟨iV (y:Int),fun O J r=>by simpa using fY L Y r k1 k2,?_⟩;conv=>whnf
  apply bS<;>intro G
  .have G:x=y:=by have:=eq_of_beq G;omega
   conv=>whnf
   exact rtn Y fun I8 we re=>⟨_,rfl,⟨fun _=>by rw[G];exact aG hy,fun _=>be⟩⟩
  .have G:x≠y:=fun e=>by rw[e]at G;simp at G
   conv=>whnf
   refine inc i ?_;conv=>whnf
   intro IR w3 r3;refine⟨(i+1,w3),⟨h,Y.tr r3.cV,fun j z hj hz=>?_⟩,sbgn [] r3,by dsimp only;omega⟩;by_cases Ov:j=i
   .subst Ov;rw[hy]at hz;injection hz with hz;rw[<-hz];exact Ne.symm G
   .exact OL j z (by dsimp only at hj;omega) hz
 .have h:i=ps.length:=by
   have:¬i<ps.length:=by simpa using h
   omega
  conv=>whnf
  intro I8 we re;refine⟨_,rfl,Y.tr re.cV,-1,rfl,⟨fun h=>be,fun hm=>?_⟩⟩;obtain⟨j,hj⟩:=aY hm;exact absurd rfl (OL j x (by rw[h];exact(aH.1 hj).1) hj)
theorem fF.cP{F:World}(h:fF w S v ps)(Z:∀g,S g->F.heap[g]? =w.heap[g]?):fF F S v ps:=fy.cP h Z
theorem fF.cO{S':Nat->Prop}(h:fF w S v ps)(Z:∀g,S g->S' g):fF w S' v ps:=fy.cO h Z
section
variable{S S':Nat->Prop}{H:Hp}{nx:Nat}{iv K:Iv}{B:Nat}{w J F:World}{O:Nat->Sx.dc}{v:Value}{ps:List Nat}
theorem fF.rel(h:fF w (Cv S B iv) v ps)(r:Rel H nx iv B w O J)(L:∀g,S g->g<B):fF J (Cv S B iv) v ps:=fF.cP h fun _ V=>rls r L V
theorem fF.arg(h:fF w S v ps)(iv:Iv):fF w (Cv S w.heap.size iv) v ps:=fF.cO h fun _ h=>.inl h
end
theorem Ef(L:Old S w)(h:fF w S v ps)(hl:ps.length<=1000000):
  eD PG Fd.gh #[v,iV x] w (eL w fun v' _=>v'= .bool (decide (x∈ps))):=by
 replace h:=fF.arg h [];have hsh:=fy.shape h;obtain⟨a,m,c,rfl⟩:=hsh;refine jh ce ?_;conv=>whnf
 refine cM (cN (I9:=fun _ _ v _=>∃i:Int,v=iV i/\(0<=i↔x∈ps)) (fun O J r=>KO (rlo r L) (fF.rel h r L) hl) ?_);rintro O wa v1 wb r G Y ⟨i,rfl,R⟩;clear r G;conv=>whnf
 exact rtn Y fun I8 we re=>congrArg Value.bool (decide_eq_decide.2 R)
section
variable{S S':Nat->Prop}{H:Hp}{nx n:Nat}{iv K:Iv}{B:Nat}{w J F:World}{O:Nat->Sx.dc}{v:Value}{qs:List Rat}
theorem fM.store{a1 a2:Option Addr}{j n1 c1 n2 c2:Nat}{b b2:Bool}(h:fM J S B iv (.slice a n c) n qs)(hj:j<n)(hf:cY J (fun g=>Cv S B iv g/\(Value.slice a n c).ownBlock≠some g) (.agg #[.bool b,.slice a1 n1 c1,.bool b2,.slice a2 n2 c2]) q)
  (r:Rel H nx iv B w O J) (L:∀g,S g->g<B):
  ∃g,a=some ⟨g,0,none⟩/\((⟨g,0,none⟩:Addr).add ((j:Int).toNat*4)).spot=none/\
   (∀k,k<4->(J.cell? (((⟨g,0,none⟩:Addr).add ((j:Int).toNat*4)).add k)).isSome=true/\J.frozen? (((⟨g,0,none⟩:Addr).add ((j:Int).toNat*4)).add k)=false)/\
   (∀id b,dF H id=some b->(O id).nil=false->(O id).g≠((⟨g,0,none⟩:Addr).add ((j:Int).toNat*4)).block)/\Cv FF B iv g/\
   ∀F,F=setCells J ((⟨g,0,none⟩:Addr).add ((j:Int).toNat*4)) (rC b a1 n1 c1 b2 a2 n2 c2)->fM F S B iv (.slice a n c) n (qs.set j q)/\J.grownBy F (some g)/\F.heap.size=J.heap.size:=by
 obtain⟨g,rfl,W,I,h3,h4⟩:=h.row.store hj hf (fun g V E=>E.2 V) (fun x E=>rlo r L x E.1);refine⟨g,rfl,W,h3,fun id b N U=>by rw[I];exact Rel.not r L (D3 (h.new g rfl)) id b N U,h.new g rfl,fun F Q3=>?_⟩;obtain⟨k1,k2,k3⟩:=h4 F Q3;exact⟨⟨k1,h.new⟩,k2,k3⟩
theorem cY.apart{u:Value}(h:cY F (Nw S J F) u q)(E:∀g,v.ownBlock=some g->g<J.heap.size/\¬S g)(hB:B<=J.heap.size)(L:∀g,S g->S' g):cY F (fun g=>Cv S' B ((J.heap.size,F.heap.size)::iv) g/\v.ownBlock≠some g) u q:=
 h.cO fun g V=>by
  rcases V with V|V
  .exact⟨.inl (L g V),fun e=>(E g e).2 V⟩
  .exact⟨.inr ⟨be,_,_,aF,V.1,V.2⟩,fun e=>by have:=(E g e).1;omega⟩
end
def nD(F':List (List Rat))(pv:List Nat)(cols c i:Nat):List Rat:=(List.range i).foldl (fun x i=>x.set (pv.getD i 0) (-(dZ F' i c))) ((List.replicate cols 0).set c 1)
def da(F':List (List Rat))(pv:List Nat)(cols c:Nat):List (List Rat):=((List.range c).filter fun c=>decide (c∉pv)).map fun c=>nD F' pv cols c pv.length
theorem qu(F':List (List Rat))(pv:List Nat)(cols c i:Nat):nD F' pv cols c (i+1)=(nD F' pv cols c i).set (pv.getD i 0) (-(dZ F' i c)):=by
 rw[nD,bw,List.foldl_append];rfl
theorem zW(F':List (List Rat))(pv:List Nat)(cols c i:Nat):(nD F' pv cols c i).length=cols:=by
 induction i with
 |zero=>simp[nD]
 |succ i ih=>rw[qu,bM,ih]
theorem vU(h:c∈pv):da F' pv cols (c+1)=da F' pv cols c:=by
 rw[da,bw,List.filter_append];simp[h,da]
theorem te(h:c∉pv):da F' pv cols (c+1)=da F' pv cols c++[nD F' pv cols c pv.length]:=by
 rw[da,bw,List.filter_append];simp[h,da]
theorem dD.rowOf(h:dm w S S v qs):∃a c,v= .slice a qs.length c:=by
 obtain⟨a,c,h,_⟩:=h.shape;exact⟨a,c,h⟩
theorem Iz{vm vp:Value}{n:Nat}(L:Old S w)(hA:fK w S vm F')(hp:fF w S vp pv)(OI:∀r∈F',r.length=n)(TL:cols<=n)(U:n<=1000000)(hR:F'.length<=1000000)(Oq:pv.length<=F'.length)(Xk:∀p∈pv,p<cols):
  eD PG Fd.tK #[vm,vp,iV cols] w (eL w fun v F=>fK F (Nw S w F) v (da F' pv cols cols)):=by
 obtain⟨am,cm,rfl,Rd,-⟩:=dD.shape hA;have hps:=hp;obtain⟨-,-,-,ap,cp,rfl,hcp,-⟩:=hps;refine wH ce ?_
 refine⟨Nat×List Value×Iv×World,fun z=>⟨[(0,sV am F'.length cm),(1,sV ap pv.length cp),(2,iZ cols),(7,.o (.w 0 z.2.1.length)),(12,iZ cols),(13,iZ z.1)],[(0,.vec T.row 1 z.2.1)],1,z.2.2.1,z.2.2.2⟩,fun z=>cols-z.1,
  fun z=>z.1<=cols/\Bq w z.2.2.2/\z.2.1.length=(da F' pv cols z.1).length/\z.2.1.length<=z.1/\(∀(i:Nat) u qs,z.2.1[i]? =some u->(da F' pv cols z.1)[i]? =some qs->dm z.2.2.2 (Cv S w.heap.size z.2.2.1) (Cv S w.heap.size z.2.2.1) u qs),?_,?_⟩
 .intro O J r
  exact⟨(0,[],[],J),⟨ce,r.cV,by simp[da],ce,ce⟩,Sub.nil 7 T.row 1 rfl (by simp[ka,SV.sc,At.sc,gW]) r fun Id r1=>
   sbgn [] r1⟩
 rintro⟨c,rv,iv,w1⟩ ⟨hc,Y,QG,hrc,hK⟩;dsimp only at hc Y QG hrc hK ⊢;have hAw:∀{F},Bq w F->fK F S (.slice am F'.length cm) F':=fun N=>fK.cP hA fun g V=>N.block g (L g V);have hpw:∀{F},Bq w F->fF F S (.slice ap pv.length cp) pv:=fun N=>fF.cP hp fun g V=>N.block g (L g V);apply bS<;>intro h
 .have h:=dL h;refine cM (cN (I9:=fun _ _ v _=>v= .bool (decide (c∈pv))) (fun O J r=>Ef (oS L r) (hpw (Y.tr r.cV)) be) ?_);rintro O wa v1 wb r G N rfl;replace Y:=Y.tr N;replace hK:∀(i:Nat) u qs,rv[i]? =some u->(da F' pv cols c)[i]? =some qs->dm wb (Cv S w.heap.size ((wa.heap.size,wb.heap.size)::iv)) (Cv S w.heap.size ((wa.heap.size,wb.heap.size)::iv)) u qs:=
   fun i u qs W I=>(hK i u qs W I).cL r L L G fun x E=>aD _ E
  clear r G N;generalize (wa.heap.size,wb.heap.size)::iv=iv2 at*
  apply bS<;>intro hm
  .have hm:c∈pv:=aI hm;refine inc c ?_;intro IR w3 r3
   refine⟨(c+1,rv,iv2,w3),⟨h,Y.tr r3.cV,by dsimp only;rw[vU hm];exact QG,by dsimp only;omega,fun i u qs W I=>?_⟩,
    sbgn [] r3,by dsimp only;omega⟩
   rw[vU hm]at I;exact(hK i u qs W I).rel r3 L L
  .have hm:c∉pv:=aL hm;refine cM (cN (I9:=fun _ J v F=>fM F FF J.heap.size [(J.heap.size,F.heap.size)] v cols (List.replicate cols 0)) (fun O J r=>mi cols J be) ?_);rintro O wa v1 wb' r G N E;have hX:=E.eX (S:=S) (iv:=(wa.heap.size,wb'.heap.size)::iv2) r.cR aF;have Qe:∀g,v1.ownBlock=some g->wa.heap.size<=g:=fun g V=>by
    rcases E.new g V with h|⟨h,_⟩
    .exact h.elim
    .exact h
   have hxo:∀g,v1.ownBlock=some g->¬Cv S w.heap.size iv2 g:=fun g V h=>by
    have:=rlo r L g h;have:=Qe g V;omega
   replace Y:=Y.tr N;replace hK:∀(i:Nat) u qs,rv[i]? =some u->(da F' pv cols c)[i]? =some qs->dm wb' (Cv S w.heap.size iv2) (Cv S w.heap.size iv2) u qs:=
    fun i u qs W I=>((hK i u qs W I).rel r L L).cP fun g V=>G.block g (V.elim (rlo r L g) (rlo r L g))
   have OK:∀p,p∈iv2->p∈(wa.heap.size,wb'.heap.size)::iv2:=fun p hp=>aD _ hp;have hxB:∀g,v1.ownBlock=some g->w.heap.size<=g:=fun g V=>by have:=Qe g V;have:=r.cR;omega
   clear r G N E Qe;generalize (wa.heap.size,wb'.heap.size)::iv2=OR at*
   obtain⟨ax,cx,rfl,-⟩:=hX.row.form;refine cM (cN (I9:=fun _ J v F=>cY F (Nf J F) v ((1:Int):Rat)) (fun O J r=>iD 1 J bv bv) ?_);rintro O wa v1 wb r G N hO;have Pw:cY wb (fun g=>Cv S w.heap.size ((wa.heap.size,wb.heap.size)::OR) g/\(Value.slice ax cols cx).ownBlock≠some g) v1 ((1:Int):Rat):=
    hO.apart (fun g V=>⟨rlo r L g (D3 (hX.new g V)),fun h=>h⟩) r.cR fun g V=>V.elim
   replace hX:=hX.cL (K:=(wa.heap.size,wb.heap.size)::OR) r L G fun x E=>aD _ E;replace hK:∀(i:Nat) u qs,rv[i]? =some u->(da F' pv cols c)[i]? =some qs->dm wb (Cv S w.heap.size iv2) (Cv S w.heap.size iv2) u qs:=
    fun i u qs W I=>(hK i u qs W I).cP fun g V=>by
     have V:Cv S w.heap.size OR g:=(V.elim id id).mono OK;rw[G.block g (rlo r L g V),rls r L V]
   replace Y:=Y.tr N;replace OK:∀p,p∈iv2->p∈(wa.heap.size,wb.heap.size)::OR:=fun p hp=>aD _ (OK p hp);clear r G N hO;generalize (wa.heap.size,wb.heap.size)::OR=Ob at*
   obtain⟨b1,a1,n1,c1,b2,a2,n2,c2,rfl⟩:=Pw.shape;have RQ:(((1:Int):Rat))=1:=rfl;rw[RQ]at Pw;have PC:∃g,ax=some ⟨g,0,none⟩:=by
    obtain⟨M,ho,_⟩:=hX.row;rcases ho.2 with⟨_,h0⟩|⟨g,cap,cur,e,_⟩
    .omega
    .injection e with e;exact⟨g,e⟩
   obtain⟨gx,rfl⟩:=PC;refine⟨⟨gx,0,none⟩,rfl,be,?_⟩;intro O J r;obtain⟨_,PC,W,I,h3,h4,h5⟩:=(hX.rel r L).store h (cY.cP Pw fun g V=>rls r L V.1) r L;injection PC with PC;injection PC with PC;subst PC;replace Y:=Y.tr r.cV;replace hK:∀(i:Nat) u qs,rv[i]? =some u->(da F' pv cols c)[i]? =some qs->dm J (Cv S w.heap.size iv2) (Cv S w.heap.size iv2) u qs:=
    fun i u qs W I=>(hK i u qs W I).cP fun g V=>rls r L ((V.elim id id).mono OK)
   have hold:∀g,Cv S w.heap.size Ob g->g<J.heap.size:=rlo r L;clear r hX Pw;refine⟨W,I,h3,fun F Q3=>?_⟩;obtain⟨hX,PY,-⟩:=h5 F Q3;replace Y:Bq w F:=Y.tr (Bel.grown PY (fun g V=>by injection V with V;subst V;exact hxB gx rfl) (by have:=Y.size;omega));replace hK:∀(i:Nat) u qs,rv[i]? =some u->(da F' pv cols c)[i]? =some qs->dm F (Cv S w.heap.size iv2) (Cv S w.heap.size iv2) u qs:=
    fun i u qs W I=>(hK i u qs W I).cP fun g V=>PY.block g (hold g ((V.elim id id).mono OK)) fun e=>by
     injection e with e;subst e;exact hxo _ rfl (V.elim id id)
   clear W I h3 h4 h5 Q3 PY hold
   refine⟨Nat×Iv×World,fun z=>⟨[(0,sV am F'.length cm),(1,sV ap pv.length cp),(2,iZ cols),(7,.o (.w 0 rv.length)),(8,iZ c),(9,.o (.v (.slice (some ⟨gx,0,none⟩) cols cx))),(12,iZ cols),(13,iZ c),
     (25,sV ap pv.length cp),(26,iZ pv.length),(27,iZ z.1)],[(0,.vec T.row 1 rv)],1,z.2.1,z.2.2⟩,fun z=>pv.length-z.1,
    fun z=>z.1<=pv.length/\Bq w z.2.2/\(∀p,p∈iv2->p∈z.2.1)/\fM z.2.2 S w.heap.size z.2.1 (.slice (some ⟨gx,0,none⟩) cols cx) cols (nD F' pv cols c z.1)/\
     ∀(i:Nat) u qs,rv[i]? =some u->(da F' pv cols c)[i]? =some qs->dm z.2.2 (Cv S w.heap.size iv2) (Cv S w.heap.size iv2) u qs,?_,?_⟩
   .intro O J r
    exact⟨(0,Ob,J),⟨ce,Y.tr r.cV,OK,hX.rel r L,fun i u qs W I=>(hK i u qs W I).cP fun g V=>rls r L ((V.elim id id).mono OK)⟩,
     sbgn [] r⟩
   clear hX hK OK;rintro⟨i,Of,w5⟩ ⟨R,Y,OK,hX,hK⟩;dsimp only at R Y OK hX hK ⊢;apply bS<;>intro QR
   .have QR:=dL QR;obtain⟨p,Ro⟩:=gO pv i;have hpd:pv.getD i 0=p:=by rw[List.getD,Ro];rfl
    have WB:=Xk p (aG Ro);obtain⟨ra,UA⟩:=gO F' i;have XB:=OI ra (aG UA);have hp5:=hpw Y;have hA5:=hAw Y;obtain⟨_,_,_,_,_,Wd,_,Rw⟩:=hp5;injection Wd with WC hpe2 WD;subst WC WD;obtain⟨adp,rfl,kp1,kp2⟩:=Rw i (iV (p:Int)) (by rw[aS,Ro];rfl);obtain⟨adm,um,rfl,Wq,km1,km2⟩:=dD.load hA5 UA;obtain⟨au,cu,hue⟩:=dD.rowOf Wq;rw[XB]at hue;subst hue;obtain⟨q,hq⟩:=gO ra c;have RE:dZ F' i c=q:=by
     have:F'.getD i []=ra:=by rw[List.getD,UA];rfl
     rw[dZ,this,List.getD,hq];rfl
    obtain⟨adq,cs,rfl,hF,hl⟩:=Wq.load hq;obtain⟨b3,a3,n3,c3,b4,a4,n4,c4,rfl,hF⟩:=hF;have hSame:∀{O J},Rel [(0,.vec T.row 1 rv)] 1 Of w.heap.size w5 O J->∀{g},S g->J.heap[g]? =w5.heap[g]? :=fun r g V=>rls (S:=S) r L (.inl V);refine⟨adp,rfl,be,iV (p:Int),fun O J r=>?_,?_⟩
    .rw[aN,bC,cg (w:=w5) (F:=J) (by rw[eQ];exact rls (S:=S) r L (.inl kp1))];exact kp2
    refine⟨adm,rfl,be,.slice (some adq) n cu,fun O J r=>?_,?_⟩
    .rw[aN,cg (w:=w5) (F:=J) (by rw[eQ];exact rls (S:=S) r L (.inl km1))];exact km2
    refine⟨adq,rfl,be,rC b3 a3 n3 c3 b4 a4 n4 c4,rfl,fun O J r j u hu=>?_,?_⟩
    .obtain⟨k1,k2⟩:=hl j u hu;rw[aN,cg (w:=w5) (F:=J) (by rw[eQ,eQ];exact rls (S:=S) r L (.inl k1))];exact k2
    refine cM (cN (I9:=fun _ J v F=>cY F (Nw S J F) v (-q)) (fun O J r=>kV (oS L r) (hF.cP fun g V=>rls (S:=S) r L (.inl V))) ?_);rintro O wa v1 wb r G N hO;have Pw:cY wb (fun g=>Cv S w.heap.size ((wa.heap.size,wb.heap.size)::Of) g/\(Value.slice (some ⟨gx,0,none⟩) cols cx).ownBlock≠some g) v1 (-q):=
     hO.apart (fun g V=>⟨rlo r L g (D3 (hX.new g V)),fun h=>by have:=L g h;have:=hxB g V;omega⟩) r.cR fun g V=>V
    replace hX:=(hX.cL (K:=(wa.heap.size,wb.heap.size)::Of) r L G fun x E=>aD _ E)
    replace hK:∀(i:Nat) u qs,rv[i]? =some u->(da F' pv cols c)[i]? =some qs->dm wb (Cv S w.heap.size iv2) (Cv S w.heap.size iv2) u qs:=
     fun i u qs W I=>(hK i u qs W I).cP fun g V=>by
      have V:Cv S w.heap.size Of g:=(V.elim id id).mono OK;rw[G.block g (rlo r L g V),rls r L V]
    replace Y:=Y.tr N;replace OK:∀p,p∈iv2->p∈(wa.heap.size,wb.heap.size)::Of:=fun p hp=>aD _ (OK p hp);clear r G N hO hF hl Wq hA5 hSame kp1 kp2 km1 km2 Rw;generalize (wa.heap.size,wb.heap.size)::Of=PL at*
    obtain⟨b1,a1,n1,c1,b2,a2,n2,c2,rfl⟩:=Pw.shape;refine⟨⟨gx,0,none⟩,rfl,be,?_⟩;intro O J r;obtain⟨_,PC,W,I,h3,h4,h5⟩:=(hX.rel r L).store WB (cY.cP Pw fun g V=>rls r L V.1) r L;injection PC with PC;injection PC with PC;subst PC;replace Y:=Y.tr r.cV;replace hK:∀(i:Nat) u qs,rv[i]? =some u->(da F' pv cols c)[i]? =some qs->dm J (Cv S w.heap.size iv2) (Cv S w.heap.size iv2) u qs:=
     fun i u qs W I=>(hK i u qs W I).cP fun g V=>rls r L ((V.elim id id).mono OK)
    have hold:∀g,Cv S w.heap.size PL g->g<J.heap.size:=rlo r L;clear r hX Pw;refine⟨W,I,h3,fun F Q3=>?_⟩;obtain⟨hX,PY,-⟩:=h5 F Q3;replace Y:Bq w F:=Y.tr (Bel.grown PY (fun g V=>by injection V with V;subst V;exact hxB gx rfl) (by have:=Y.size;omega));replace hK:∀(i:Nat) u qs,rv[i]? =some u->(da F' pv cols c)[i]? =some qs->dm F (Cv S w.heap.size iv2) (Cv S w.heap.size iv2) u qs:=
     fun i u qs W I=>(hK i u qs W I).cP fun g V=>PY.block g (hold g ((V.elim id id).mono OK)) fun e=>by
      injection e with e;subst e;exact hxo _ rfl (V.elim id id)
    clear W I h3 h4 h5 Q3 PY hold;rw[<-RE,<-hpd,<-qu]at hX;refine inc i ?_;intro IR w3 r3
    exact⟨(i+1,PL,w3),⟨QR,Y.tr r3.cV,OK,hX.rel r3 L,fun i u qs W I=>(hK i u qs W I).cP fun g V=>rls r3 L ((V.elim id id).mono OK)⟩,
     sbgn [] r3,by dsimp only;omega⟩
   .have QR:i=pv.length:=by
     have:¬i<pv.length:=by simpa using QR
     omega
    subst QR;have hxR:=hX.read;refine .inl ?_;refine⟨ce,be,mx,((c+1:Nat):Int),wo,?_⟩;intro IR w3 r3;have VD:(rv++[Value.slice (some ⟨gx,0,none⟩) cols cx]).length=rv.length+1:=by simp
    refine⟨(c+1,rv++[.slice (some ⟨gx,0,none⟩) cols cx],Of,w3),⟨h,Y.tr r3.cV,by dsimp only;rw[te hm,VD,QG];simp,by dsimp only;rw[VD];omega,fun i u qs W I=>?_⟩,
     sbgn [(0,2)] r3 (hE:=⟨rfl,rfl,rfl,by dsimp only;rw[VD];rfl,rfl,rfl,trivial⟩),by dsimp only;omega⟩
    rw[te hm]at I;dsimp only at W I ⊢;rcases az i rv.length with Uk|Uk
    .rw[aQ Uk]at W;rw[aQ (by rw[<-QG];exact Uk)]at I;exact((hK i u qs W I).cO (fun g V=>V.mono OK) fun g V=>V.mono OK).rel r3 L L
    .have h0:i=rv.length:=by
      have:=(aH.1 W).1;rw[VD]at this;omega
     subst h0;rw[aW lr,bj]at W;rw[QG,aW lr,bj]at I;simp at W I;subst W I;exact hxR.rel r3 L L
 .have h:c=cols:=by
   have:¬c<cols:=by simpa using h
   omega
  subst h;intro I8 we re;refine⟨_,rfl,Y.tr re.cV,?_⟩
  have hv:=re.oo (id:=0) (sz:=1) (m:=rv.length) rfl ce mx bv (fun u hu=>by
   obtain⟨i,R⟩:=aY hu;obtain⟨a,cc,e⟩:=dD.rowOf (hK i u _ R (aE (by rw[<-QG];exact(aH.1 R).1)));rw[e]
   rfl)
  refine⟨rv,?_,QG,fun i u qs W I=>?_⟩
  .rw[<-QG];exact hv.cO fun g V=>.inr V
  .exact((hK i u qs W I).rel re L L).cO (fun g V=>Cv.nw V re) fun g V=>Cv.nw V re
theorem dm.from{n k:Nat}(h:dm w C S (.slice a n c) qs)(Z:k<=n):
  dm w C S (.slice (if (c:Int)=(k:Int)then a else a.map (·.add (k*4))) (n-k) (c-k)) (qs.drop k):=by
 obtain⟨M,⟨h0,W,I,a',c',e,h3,h4⟩,hf⟩:=h;injection e with e1 e2 e3;subst e1 e2 e3;have hd:(M.drop k).flatten=M.flatten.drop (k*4):=by
  have:=gZ (M:=M.take k) (fun cs hc=>hf.rj cs (List.mem_of_mem_take hc));conv=>rhs;rw[<-List.take_append_drop k M,List.flatten_append]
  have hl:(M.take k).length=k:=by rw[bL,hf.1];omega
  rw[hl]at this;rw[<-this,List.drop_left]
 refine⟨M.drop k,⟨?_,?_,?_,_,c-k,by rw[List.length_drop],by simp;omega,fun j u hu=>?_⟩,?_,fun j cs q hc hq=>?_⟩
 .simp;omega
 .rw[hd,List.length_drop,W,List.length_drop,Nat.sub_mul]
 .intro u hu;rw[hd]at hu;exact I u (List.mem_of_mem_drop hu)
 .rw[hd,bo]at hu;obtain⟨ad,k1,k2,k3⟩:=h4 (k*4+j) u hu;have Oo:=(aH.1 hu).1;subst k1;rw[aK be];refine⟨ad.add (k*4),rfl,by rw[eQ];exact k2,?_⟩;rw[<-k3];have:(ad.add (k*4)).add j=ad.add (k*4+j):=by
   unfold Addr.add;split<;>split<;>simp_all<;>omega
  rw[this]
 .rw[List.length_drop,List.length_drop,hf.1]
 .rw[bo]at hc hq;exact hf.2 _ cs q hc hq
theorem JA(hC:Old C w)(L:Old S w)(h:dm w C S v qs)(U:0<qs.length)(hl:qs.length<=1000000):
  eD PG Fd.ee #[v] w (eL w fun v' F=>gA F S v' qs.length qs/\(∀g,v'.ownBlock=some g->w.heap.size<=g/\g<F.heap.size)):=by
 obtain⟨a,c,rfl,hc,hm⟩:=h.shape;obtain⟨M,⟨h0,W,I,a',c',e,h3,h4⟩,hf⟩:=h;injection e with e1 e2 e3;subst e1 e3;have QM:M.length=qs.length:=hf.1;obtain⟨ad,rfl⟩:∃ad,a=some ad:=by
  obtain⟨ad,k1,_⟩:=h4 0 _ (aE (show 0<M.flatten.length by omega));exact⟨ad,k1⟩
 refine gQ ce ?_;conv=>whnf
 refine⟨false,fun O w1 o1 o2=>by simp[eqGuard,SV.den,At.den,nI (P:=PG) w1 T.row T.cw (some ad) qs.length c 0 0 rR],?_⟩;conv=>whnf
 refine .inl ?_;conv=>whnf
 refine⟨M.flatten,W,I,fun O w1 r h0=>⟨ad,rfl,fun j u hu=>?_⟩,?_⟩
 .obtain⟨ad2,k1,k2,k3⟩:=h4 j u hu;injection k1 with k1;subst k1;exact fY hC Bel.refl r k2 k3
 conv=>whnf
 refine⟨rfl,be,mx,?_⟩;conv=>whnf
 intro IR w3 r3;refine⟨_,rfl,r3.cV,?_⟩;have hf3:Fr w3 S M qs:=hf.cP fun g V=>r3.cV.block g (L g V);rcases r3.vec 1 T.cw 4 M.flatten rfl with⟨OW,hemp⟩|⟨OW,spare,N,hcp,Pu⟩
 .rw[hemp]at W;simp at W;omega
 have ON:=r3.low 1 _ rfl OW;have Qj:((At.w 1 (0+qs.length)).den IR)= .slice (some ⟨(IR 1).g,0,none⟩) qs.length (IR 1).cap:=by simp[At.den,OW]
 show gA w3 S ((At.w 1 (0+qs.length)).den IR) qs.length qs/\∀g,((At.w 1 (0+qs.length)).den IR).ownBlock=some g->_;rw[Qj];have hls:(M.flatten++spare).length=M.flatten.length+spare.length:=aU;refine⟨⟨M,⟨W,.inr ⟨(IR 1).g,(IR 1).cap,(M.flatten++spare).toArray,rfl,bA _,N,be,Pu,by simpa using hcp,?_⟩⟩,QM,hf3⟩,fun g V=>?_⟩
 .rw[<-W];simp
 .injection V with V;subst V;exact ON
end Go.Ex
namespace Go.Sx
open Go Go.Ex Go.Proofs
variable{X:Nat->Prop}{O:Nat->Sx.dc}
theorem Rel.Eg{H1 H2:Hp}{nx:Nat}{iv:Iv}{B:Nat}{w J F:World}{t id:Nat}{cs cs':List Value}(r:Rel H1 nx iv B w O J)(W:dF H1 id=some (.arr t cs))(I:dF H2 id=some (.arr t cs'))(ho:∀j,j≠id->dF H2 j=dF H1 j)
  (k:Kept J F X) (hX:∀g,X g->g=(O id).g\/∀j b,dF H1 j=some b->(O j).nil=false->(O j).g≠g) (N:F.heap[(O id).g]? =some (.cells cs'.toArray t (0,0))):Rel H2 nx ((J.heap.size,F.heap.size)::iv) B F O F:=by
 have OW:(O id).nil=false:=(r.fits W).1;have get:∀j b,dF H2 j=some b->∃b1,dF H1 j=some b1/\(j≠id->b1=b)/\(b≠ .dead->b1≠ .dead):=fun j b h=>by
  by_cases hj:j=id
  .subst hj;exact⟨_,W,fun h=>absurd rfl h,fun _=>ce⟩
  .rw[ho j hj]at h;exact⟨b,h,fun _=>rfl,fun h=>h⟩
 refine Rel.mk' rfl rfl rfl lr (by have:=r.base;have:=r.size;have:=k.size;omega) (fun lo R hm=>?_) (fun j b h=>?_) (fun j b h=>?_) (fun j b h=>?_) (fun i j b b' R hj di dj ni nj e=>?_) (fun j b h U=>?_) (fun _ _ _=>rfl) (fun lo R hm j b h U hc=>?_)
 .rcases List.mem_cons.1 hm with e|hm
  .injection e with e1 e2;omega
  .have:=r.nG lo R hm;have:=r.size;have:=k.size;omega
 .obtain⟨b1,h3,_⟩:=get j b h;exact r.keys j b1 h3
 .by_cases hj:j=id
  .subst hj;rw[I]at h;injection h with h;subst h;exact⟨OW,N⟩
  .rw[ho j hj]at h;refine jL.gV (r.fits h) (fun _ _=>rfl) (r.scopd h) fun U hd=>?_;refine k.block _ (r.low j b h U).2 fun E=>?_;rcases hX _ E with e|e
   .exact hj (r.inj j id b _ h W hd ce U OW e)
   .exact e j b h U rfl
 .by_cases hj:j=id
  .subst hj;rw[I]at h;injection h with h;subst h;trivial
  .rw[ho j hj]at h;exact r.scopd h
 .obtain⟨b1,h3,_,h4⟩:=get i b R;obtain⟨b2,h5,_,h6⟩:=get j b' hj;exact r.inj i j b1 b2 h3 h5 (h4 di) (h6 dj) ni nj e
 .obtain⟨b1,h3,_⟩:=get j b h;have:=r.low j b1 h3 U;have:=k.size;omega
 .obtain⟨b1,h3,_⟩:=get j b h;have hl:=r.low j b1 h3 U;rcases List.mem_cons.1 hm with e|hm
  .injection e with e1 e2;omega
  .exact r.ix lo R hm j b1 h3 U hc
end Go.Sx
namespace Go.Ex
open Go Go.Sx Go.Proofs
variable{b:List (Int×Int)}{G8:List (List Rat)}{qs r:List Rat}{rv:List Value}{n:Nat}{S:Nat->Prop}{O:Nat->Sx.dc}{q:Rat}{u v:Value}{w:World}
abbrev de(G8:List (List (Int×Int))):List (List Rat):=G8.map fun r=>r.map cU
def tf(FS i:Nat):List Rat:=(List.replicate FS 0).set i 1
def nE(G8:List (List Rat))(b:List Rat):List (List Rat):=G8.mapIdx fun i r=>r++b.getD i 0::tf G8.length i
def jZ(F':List (List Rat))(pv:List Nat)(cols i:Nat):List Rat:=(List.range i).foldl (fun x i=>x.set (pv.getD i 0) (dZ F' i cols)) (List.replicate cols 0)
theorem qw(F':List (List Rat))(pv:List Nat)(cols i:Nat):jZ F' pv cols (i+1)=(jZ F' pv cols i).set (pv.getD i 0) (dZ F' i cols):=by
 rw[jZ,bw,List.foldl_append];rfl
theorem vV(G8:List (List Rat))(b:List Rat):(nE G8 b).length=G8.length:=by simp[nE]
theorem KP{b:List Rat}{i:Nat}(h:G8[i]? =some r):(nE G8 b)[i]? =some (r++b.getD i 0::tf G8.length i):=by simp[nE,h]
theorem fM.DZ{H:Hp}{nx:Nat}{iv:Iv}{B:Nat}{J F:World}(E:fM F FF J.heap.size [(J.heap.size,F.heap.size)] v n qs)(r:Rel H nx iv B w O J)(TG:∀u∈rv,∀g,u.ownBlock=some g->Cv S B iv g)(L:∀g,S g->g<B):
  gA F (fun g=>(Cv FF B ((J.heap.size,F.heap.size)::iv) g/\¬ ∃u∈rv,u.ownBlock=some g)/\v.ownBlock≠some g) v n qs/\∀g,v.ownBlock=some g->Cv FF B ((J.heap.size,F.heap.size)::iv) g/\J.heap.size<=g:=by
 have key:∀g,Cv FF J.heap.size [(J.heap.size,F.heap.size)] g->J.heap.size<=g/\g<F.heap.size:=fun g V=>by
  rcases V with V|⟨W,lo,R,I,h3,h4⟩
  .exact V.elim
  .simp at I;obtain⟨rfl,rfl⟩:=I;exact⟨h3,h4⟩
 have hB:=r.cR;have UI:∀g,J.heap.size<=g/\g<F.heap.size->Cv FF B ((J.heap.size,F.heap.size)::iv) g:=fun g V=>.inr ⟨be,_,_,aF,V.1,V.2⟩;refine⟨E.row.cO fun g V=>⟨⟨UI g (key g V.1),fun⟨u,hu,e⟩=>?_⟩,V.2⟩,fun g V=>⟨UI g (key g (E.new g V)),(key g (E.new g V)).1⟩⟩;have:=rlo r L g (TG u hu g e);have:=(key g V.1).1;omega
structure qz(w:World)(B:Nat)(iv:Iv)(rv:List Value)(v:Value)(n:Nat)(qs:List Rat):Prop where
 row:gA w (fun g=>(Cv FF B iv g/\¬ ∃u∈rv,u.ownBlock=some g)/\v.ownBlock≠some g) v n qs
 kL:∀g,v.ownBlock=some g->Cv FF B iv g
section
variable{H:Hp}{nx n:Nat}{iv K:Iv}{B:Nat}{w J F:World}{O:Nat->Sx.dc}{v:Value}{qs:List Rat}{rv:List Value}
theorem qz.cP(h:qz w B iv rv v n qs)(Z:∀g,Cv FF B iv g->F.heap[g]? =w.heap[g]?):qz F B iv rv v n qs:=
 ⟨h.row.cP fun g V=>Z g (V.elim (fun h=>h.1.1) (h.kL g)),h.kL⟩
theorem qz.rel(h:qz w B iv rv v n qs)(r:Rel H nx iv B w O J):qz J B iv rv v n qs:=h.cP fun _ V=>rls r (kW B) V
theorem qz.cL(h:qz w B iv rv v n qs)(r:Rel H nx iv B w O J)(G:Ext J F)(hm:∀p,p∈iv->p∈K):qz F B K rv v n qs:=
 have I:=(h.rel r).cP fun g V=>G.block g (rlo r (kW B) g V)
 ⟨I.row.cO fun _ V=>⟨⟨V.1.1.mono hm,V.1.2⟩,V.2⟩,fun g V=>(I.kL g V).mono hm⟩
theorem cY.DZ(h:cY F (Nf J F) u q)(r:Rel H nx iv B w O J)(TG:∀u∈rv,∀g,u.ownBlock=some g->Cv FF B iv g):
  cY F (fun g=>Cv FF B ((J.heap.size,F.heap.size)::iv) g/\¬ ∃u∈rv,u.ownBlock=some g) u q:=
 h.cO fun g V=>by
  rcases V with V|V
  .exact V.elim
  .refine⟨.inr ⟨by have:=r.cR;omega,_,_,aF,V.1,V.2⟩,fun⟨u,hu,e⟩=>?_⟩;have:=rlo r (kW B) g (TG u hu g e);omega
end
theorem HN{C:Nat->Prop}{va x:Value}{g2:Nat}{b b2:Bool}{a a2:Option Addr}{m c m2 c2:Nat}{rs xs:List Rat}(hC:Old C w)(L:Old S w)
  (ha:fy w C 1 va [u,.slice (some ⟨g2,0,none⟩) 1 1,x] 3) (N:fy w C 4 (.slice (some ⟨g2,0,none⟩) 1 1) (rC b a m c b2 a2 m2 c2) 1) (hr:dm w C S u rs) (E:dm w C S x xs)
  (hq:cY w S (.agg #[.bool b,.slice a m c,.bool b2,.slice a2 m2 c2]) q) (hl:rs.length+1+xs.length<=1000000):
  eD PG Fd.eH #[va] w (eL w fun v F=>gA F S v (rs.length+1+xs.length) (rs++q::xs)/\∀g,v.ownBlock=some g->w.heap.size<=g/\g<F.heap.size):=by
 obtain⟨c1,s1,f1⟩:=hr;obtain⟨c2',s2,f2⟩:=E;refine(HM (parts:=[(u,c1.flatten,rs.length),(.slice (some ⟨g2,0,none⟩) 1 1,rC b a m c b2 a2 m2 c2,1),(x,c2'.flatten,xs.length)]) hC ha ?_ (by simp[iQ];omega)).mono fun e F ⟨v,e1,e2,e3⟩=>⟨v,e1,e2,?_,fun g V=>?_⟩
 .intro p hp;simp only[List.mem_cons,List.not_mem_nil,or_false]at hp;rcases hp with rfl|rfl|rfl
  .exact s1
  .exact N
  .exact s2
 .have U:iQ [(u,c1.flatten,rs.length),(Value.slice (some ⟨g2,0,none⟩) 1 1,[Value.bool b,.slice a m c,.bool b2,.slice a2 m2 c2],1),(x,c2'.flatten,xs.length)]=rs.length+1+xs.length:=by simp[iQ];omega
  rw[U]at e3;have Pt:List.flatMap (fun x=>x.2.1) [(u,c1.flatten,rs.length),(Value.slice (some ⟨g2,0,none⟩) 1 1,[Value.bool b,.slice a m c,.bool b2,.slice a2 m2 c2],1),(x,c2'.flatten,xs.length)]=(c1++[Value.bool b,.slice a m c,.bool b2,.slice a2 m2 c2]::c2').flatten:=by simp
  rw[Pt]at e3;refine⟨_,⟨e3.1,e3.2.imp id fun⟨g,cap,cur,k1,_,k3⟩=>⟨g,cap,cur,k1,bA _,k3⟩⟩,by simp[f1.1,f2.1];omega,?_⟩;have Z:∀g,S g->F.heap[g]? =w.heap[g]? :=fun g V=>e2.block g (L g V);refine⟨by simp[f1.1,f2.1],fun j cs p W I=>?_⟩;rcases Nat.lt_trichotomy j c1.length with hj|hj|hj
  .rw[aQ hj]at W;rw[aQ (by rw[<-f1.1];exact hj)]at I;exact(f1.2 j cs p W I).cP Z
  .subst hj;rw[aW lr,bj]at W;rw[f1.1,aW lr,bj]at I;simp at W I;subst W I;exact(hq.cP Z).four
  .rw[aW be]at W;rw[aW (by rw[<-f1.1];omega),<-f1.1]at I;obtain⟨k,SL⟩:∃k,j-c1.length=k+1:=⟨j-c1.length-1,be⟩
   rw[SL]at W I;simp at W I;exact(f2.2 k cs p W I).cP Z
 .have:=ownsRow.low e3 g V;exact this
theorem KQ{G8:List (List (Int×Int))}{h0:Nat}(L:Old S w)(h:dK w S v G8)(hu:dB w S u b)(hf:∀r∈G8,wm r)(Xb:wm b)(OI:∀r∈G8,r.length=dH G8)(OQ:b.length=G8.length)
  (U:dH G8<=1000) (hR:G8.length<=1000) (Xh:Ht (nE (de G8) (b.map cU)) h0) (I:2<=h0) (TR:4^G8.length*h0<=500000000):
  eD PG Fd.vJ #[v,u] w (eL w fun v' F=>∃F' pv,(F',pv)=gT (nE (de G8) (b.map cU)) (dH G8)/\
   ((∃j vp,pv.length<=j/\j<G8.length/\dZ F' j (dH G8)≠0/\(∀k,pv.length<=k->k<j->dZ F' k (dH G8)=0)/\v'= .agg #[vp,nls,nls]/\(∃a n c,vp= .slice (some a) n c)/\
     dm F (Nf w F) (Nf w F) vp (((F'.getD j []).drop (dH G8+1)).map (· *(1 / dZ F' j (dH G8)))))\/
    (∃vx vk,(∀k,pv.length<=k->k<G8.length->dZ F' k (dH G8)=0)/\v'= .agg #[nls,vx,vk]/\dm F (Nf w F) (Nf w F) vx (jZ F' pv (dH G8) pv.length)/\
     fK F (Nf w F) vk (da F' pv (dH G8) (dH G8))))):=by
 replace h:=dK.arg h [];replace hu:=dB.arg hu [];obtain⟨am,cm,rfl,Rd,-⟩:=dD.shape h;obtain⟨ab,cb,rfl,Pv,-⟩:=dU.shape hu;obtain⟨cols,Rv⟩:∃c,c=dH G8:=⟨_,rfl⟩
 rw[<-Rv]at OI U ⊢;refine yK ce ?_;conv=>whnf
 refine cM (cN (I9:=fun _ _ v _=>v=iV cols) (fun O J r=>by rw[Rv];exact rS (rlo r L) (dK.rel h r L)) ?_);rintro O wa v1 wb r G Y rfl;replace h:=dK.cL (K:=(wa.heap.size,wb.heap.size)::[]) h r L G fun x E=>aD _ E;replace hu:=dB.cL (K:=(wa.heap.size,wb.heap.size)::[]) hu r L G fun x E=>aD _ E;clear r G;generalize (wa.heap.size,wb.heap.size)::[]=iv at*
 conv=>whnf
 refine⟨G8.length,G8.length,rfl,rfl,lr,be,be,?_⟩;conv=>whnf
 refine cM (cN (I9:=fun _ J v F=>tZ F FF J.heap.size [(J.heap.size,F.heap.size)] v cols (de G8)) (fun O J r=>DC (rlo r L) (dK.rel h r L) hf OI be be) ?_);rintro O wc v1 wd r G N hX;have SW:=(hX.eX (S:=FF) (iv:=(wc.heap.size,wd.heap.size)::iv) r.cR aF).read;replace h:=dK.cL (K:=(wc.heap.size,wd.heap.size)::iv) h r L G fun x E=>aD _ E;replace hu:=dB.cL (K:=(wc.heap.size,wd.heap.size)::iv) hu r L G fun x E=>aD _ E;replace Y:=Y.tr N;clear r G N hX;generalize (wc.heap.size,wd.heap.size)::iv=ivM at*
 obtain⟨at_,ct,rfl,hct,-⟩:=dD.shape SW;rw[aJ]at hct SW ⊢;conv=>whnf
 refine⟨List Value×Iv×World,fun z=>⟨[(0,sV am G8.length cm),(1,sV ab b.length cb),(4,pP 0 0),(5,iZ cols),(6,.o (.s 1 0 G8.length G8.length)),(23,sV at_ G8.length ct),(24,iZ G8.length),(25,iZ z.1.length)],
   [(1,.arr T.row (z.1++List.replicate (G8.length-z.1.length) nls)),(0,.box T.solved [.v nls,.v nls,.v nls])],2,z.2.1,z.2.2⟩,fun z=>G8.length-z.1.length,
  fun z=>z.1.length<=G8.length/\Bq w z.2.2/\(∀p,p∈ivM->p∈z.2.1)/\dK z.2.2 (Cv S w.heap.size ivM) (.slice am G8.length cm) G8/\dB z.2.2 (Cv S w.heap.size ivM) (.slice ab b.length cb) b/\
   fK z.2.2 (Cf w ivM) (.slice at_ G8.length ct) (de G8)/\
   gl z.2.2 FF w.heap.size z.2.1 z.1 (cols+1+G8.length) ((nE (de G8) (b.map cU)).take z.1.length)/\(∀u∈z.1,u.oneCell'=true)/\(∀u∈z.1,∀g,u.ownBlock=some g->¬Cf w ivM g),?_,?_⟩
 .intro O J r
  exact⟨([],ivM,J),⟨ce,Y.tr r.cV,fun p hp=>hp,dK.rel h r L,dB.rel hu r L,fK.rel SW r oF,by simpa using gl.nil _ _ _ _ _,ce,ce⟩,
   sbgn [] r⟩
 clear h hu SW Y;rintro⟨rv,OS,w1⟩ ⟨QG,Y,OK,h,hu,SW,Oa,h1c,XC⟩;dsimp only at QG Y OK h hu SW Oa h1c XC ⊢;have hlA:(nE (de G8) (b.map cU)).length=G8.length:=by rw[vV,aJ]
 conv=>whnf
 apply bS<;>intro R
 .have R:rv.length<G8.length:=by simpa using R
  obtain⟨mr,hmr⟩:=gO G8 rv.length;obtain⟨bx,TY⟩:=gO b rv.length;have hmrl:=OI mr (aG hmr);obtain⟨ad,ur,rfl,RO,kt1,kt2⟩:=dD.load SW (j:=rv.length) (x:=mr.map cU) (by rw[aS,hmr];rfl);obtain⟨au,cu,hue⟩:=dD.rowOf RO;rw[aJ,hmrl]at hue;subst hue;have OM:∀{H nx iv O wx J},(∀p,p∈ivM->p∈iv)->Rel H nx iv w.heap.size wx O J->∀{X:Nat->Prop},(∀g,X g->g<w.heap.size)->∀g,Cv X w.heap.size ivM g->J.heap[g]? =wx.heap[g]? :=by
   intro H nx iv O wx J hm r X hX g V;exact rls r hX (V.mono hm)
  conv=>whnf
  refine⟨ad,rfl,be,?_⟩;conv=>whnf
  refine⟨.slice au cols cu,fun O J r=>?_,?_⟩
  .rw[aN,cg (w:=w1) (F:=J) (by rw[eQ];exact OM OK r oF _ kt1)];exact kt2
  conv=>whnf
  refine cM (cN (I9:=fun _ J v F=>fM F FF J.heap.size [(J.heap.size,F.heap.size)] v G8.length (List.replicate G8.length 0)) (fun O J r=>mi G8.length J be) ?_);rintro O wa vx wb r G N E;have hU0:=E.DZ (rv:=rv) r (fun u hu g V=>D3 (Oa.new u hu g V)) oF;have hU:qz wb w.heap.size ((wa.heap.size,wb.heap.size)::OS) rv vx G8.length (List.replicate G8.length 0):=⟨hU0.1,fun g V=>(hU0.2 g V).1⟩
  have Xl:∀g,Cf w ivM g->g<wa.heap.size:=fun g V=>rlo r oF g (V.mono OK);have hgxr:∀g,vx.ownBlock=some g->∀u∈rv,u.ownBlock≠some g:=fun g V u hu e=>by have:=rlo r oF g (Oa.new u hu g e);have:=(hU0.2 g V).2;omega
  have WE:∀g,vx.ownBlock=some g->¬Cf w ivM g:=fun g V h=>by have:=Xl g h;have:=(hU0.2 g V).2;omega
  replace h:=dK.cP h fun g V=>by rw[G.block g (rlo r L g (V.mono OK)),OM OK r L g V]
  replace hu:=dB.cP hu fun g V=>by rw[G.block g (rlo r L g (V.mono OK)),OM OK r L g V]
  replace SW:=fK.cP SW fun g V=>by rw[G.block g (rlo r oF g (V.mono OK)),OM OK r oF g V]
  replace RO:=RO.cP fun g V=>by rw[G.block g (rlo r oF g ((V.elim id id).mono OK)),OM OK r oF g (V.elim id id)]
  have hvx1:∀g,vx.ownBlock=some g->¬Cf w OS g:=fun g V h=>by have:=rlo r oF g h;have:=(hU0.2 g V).2;omega
  replace Oa:=Oa.cP fun g V=>by rw[G.block g (rlo r oF g V),rls r oF V]
  have PO:∀p,p∈OS->p∈(wa.heap.size,wb.heap.size)::OS:=fun p hp=>aD _ hp;replace Y:=Y.tr N;replace OK:∀p,p∈ivM->p∈(wa.heap.size,wb.heap.size)::OS:=fun p hp=>aD _ (OK p hp);clear r G N E hU0 Xl;generalize (wa.heap.size,wb.heap.size)::OS=iv2 at*
  obtain⟨ax,cx,rfl,-⟩:=hU.row.form;conv=>whnf
  refine cM (cN (I9:=fun _ J v F=>cY F (Nf J F) v ((1:Int):Rat)) (fun O J r=>iD 1 J bv bv) ?_);rintro O wa v1 wb r G N hO;have Pw:=(hO.DZ (rv:=rv) r fun u hu g V=>(Oa.new u hu g V).mono PO)
  have XD:cY wb (fun g=>(Cf w ((wa.heap.size,wb.heap.size)::iv2) g/\¬ ∃u∈rv,u.ownBlock=some g)/\(Value.slice ax G8.length cx).ownBlock≠some g) v1 ((1:Int):Rat):=by
   have W:=hO.apart (S':=fun _=>False) (iv:=iv2) (v:=Value.slice ax G8.length cx) (fun g V=>⟨rlo r oF g (hU.kL g V),fun h=>h⟩) r.cR fun g V=>V;obtain⟨nv,dv,h3,h4,h5⟩:=Pw;obtain⟨nv',dv',h3',h4',h5'⟩:=hO;rw[h3]at h3';injection h3' with h3';simp at h3';obtain⟨rfl,rfl⟩:=h3';have RJ:∀g,Nf wa wb g->((Cf w ((wa.heap.size,wb.heap.size)::iv2) g/\¬ ∃u∈rv,u.ownBlock=some g)/\(Value.slice ax G8.length cx).ownBlock≠some g):=fun g V=>by
    rcases V with V|V
    .exact V.elim
    .refine⟨⟨.inr ⟨by have:=r.cR;omega,_,_,aF,V.1,V.2⟩,fun⟨u,hu,e⟩=>?_⟩,fun e=>?_⟩
     .have:=rlo r oF g ((Oa.new u hu g e).mono PO);omega
     .have:=rlo r oF g (hU.kL g e);omega
   exact⟨nv,dv,h3,h4'.cO RJ,h5'.cO RJ⟩
  replace h:=dK.cP h fun g V=>by rw[G.block g (rlo r L g (V.mono OK)),OM OK r L g V]
  replace hu:=dB.cP hu fun g V=>by rw[G.block g (rlo r L g (V.mono OK)),OM OK r L g V]
  replace SW:=fK.cP SW fun g V=>by rw[G.block g (rlo r oF g (V.mono OK)),OM OK r oF g V]
  replace RO:=RO.cP fun g V=>by rw[G.block g (rlo r oF g ((V.elim id id).mono OK)),OM OK r oF g (V.elim id id)]
  replace Oa:=Oa.cP fun g V=>by rw[G.block g (rlo r oF g (V.mono PO)),rls r oF (V.mono PO)]
  replace PO:∀p,p∈OS->p∈(wa.heap.size,wb.heap.size)::iv2:=fun p hp=>aD _ (PO p hp);replace hU:=hU.cL (K:=(wa.heap.size,wb.heap.size)::iv2) r G fun x E=>aD _ E;replace Y:=Y.tr N;replace OK:∀p,p∈ivM->p∈(wa.heap.size,wb.heap.size)::iv2:=fun p hp=>aD _ (OK p hp);clear r G N hO Pw;generalize (wa.heap.size,wb.heap.size)::iv2=OR at*
  obtain⟨b1,a1,n1,c1,b2,a2,n2,c2,rfl⟩:=XD.shape;have RQ:(((1:Int):Rat))=1:=rfl;rw[RQ]at XD;conv=>whnf
  have PC:∃g,ax=some ⟨g,0,none⟩:=by
   obtain⟨M,ho,_⟩:=hU.row;rcases ho.2 with⟨_,h0⟩|⟨g,cap,cur,e,_⟩
   .omega
   .injection e with e;exact⟨g,e⟩
  obtain⟨gx,rfl⟩:=PC;refine⟨⟨gx,0,none⟩,rfl,be,?_⟩;conv=>whnf
  intro O J r;have hUr:=hU.rel r;obtain⟨g',PC,k1,k2,k3,k4⟩:=hUr.row.store R (cY.cP XD fun g V=>rls r oF V.1.1) (fun g V E=>E.2 V) (fun x E=>rlo r oF x E.1.1);injection PC with PC;injection PC with PC;subst PC;have XE:=hU.kL gx rfl;have PF:=fun id b N U=>Rel.not r oF XE id b N U;have S8:∀{X:Nat->Prop},(∀g,X g->g<w.heap.size)->∀g,Cv X w.heap.size OR g->g<J.heap.size:=by
   intro X hX g V;exact rlo r hX g V
  replace h:=dK.cP h fun g V=>OM OK r L g V;replace hu:=dB.cP hu fun g V=>OM OK r L g V;replace SW:=fK.cP SW fun g V=>OM OK r oF g V;replace RO:=RO.cP fun g V=>OM OK r oF g (V.elim id id);replace Oa:=Oa.cP fun g V=>rls r oF (V.mono PO);replace Y:=Y.tr r.cV;have hgxB:w.heap.size<=gx:=by
   rcases XE with h|⟨h,_⟩
   .exact h.elim
   .exact h
  have hgxrv:∀u∈rv,u.ownBlock≠some gx:=hgxr gx rfl;clear r hUr hU XD;refine⟨k1,k3,fun id b N U=>by rw[k2];exact PF id b N U,fun F Q3=>?_⟩;obtain⟨hU1,PY,-⟩:=k4 F Q3;have hU:qz F w.heap.size OR rv (.slice (some ⟨gx,0,none⟩) G8.length cx) G8.length (tf G8.length rv.length):=⟨hU1,fun g V=>by injection V with V;subst V;exact XE⟩
  have Xm:∀g,g<J.heap.size->g≠gx->F.heap[g]? =J.heap[g]? :=fun g V OL=>PY.block g V fun e=>by injection e with e;exact OL e
  replace h:=dK.cP h fun g V=>Xm g (S8 L g (V.mono OK)) fun e=>by
   subst e;rcases V with V|⟨q1,lo,QL,q2,q3⟩
   .have:=L g V;omega
   .exact WE g rfl (.inr ⟨q1,lo,QL,q2,q3⟩)
  replace hu:=dB.cP hu fun g V=>Xm g (S8 L g (V.mono OK)) fun e=>by
   subst e;rcases V with V|⟨q1,lo,QL,q2,q3⟩
   .have:=L g V;omega
   .exact WE g rfl (.inr ⟨q1,lo,QL,q2,q3⟩)
  replace SW:=fK.cP SW fun g V=>Xm g (S8 oF g (V.mono OK)) fun e=>by subst e;exact WE g rfl V
  replace RO:=RO.cP fun g V=>Xm g (S8 oF g ((V.elim id id).mono OK)) fun e=>by subst e;exact WE g rfl (V.elim id id)
  replace Oa:=Oa.cP fun g V=>Xm g (S8 oF g (V.mono PO)) fun e=>by subst e;exact hvx1 g rfl V
  replace Y:Bq w F:=Y.tr (Bel.grown PY (fun g V=>by injection V with V;subst V;exact hgxB) (by have:=Y.size;omega));clear k1 k2 k3 k4 hU1 PY Xm PF Q3 S8;obtain⟨adb,csb,rfl,hRb,-,Vd⟩:=dU.load hu TY;obtain⟨b3,a3,n3,c3,b4,a4,n4,c4,rfl,hRb⟩:=hRb;obtain⟨fb1,fb2⟩:=Xb bx (aG TY);conv=>whnf
  refine⟨adb,rfl,be,?_⟩;conv=>whnf
  refine⟨rC b3 a3 n3 c3 b4 a4 n4 c4,rfl,fun O J r j x E=>?_,?_⟩
  .obtain⟨q1,q2⟩:=Vd j x E;rw[aN,cg (w:=F) (F:=J) (by rw[eQ,eQ];exact OM OK r L _ q1)];exact q2
  conv=>whnf
  refine cM (cN (I9:=fun _ J v F=>cY F (Nf J F) v (cU bx)) (fun O J r=>BT (rlo r L) (kU.cP (kU.cO hRb fun g V=>V.mono OK) fun g V=>rls r L V) be be) ?_);rintro O wa v1 QA r G N hO;have hQ:=(hO.DZ (rv:=rv) r fun u hu g V=>(Oa.new u hu g V).mono PO)
  replace h:=dK.cP h fun g V=>by rw[G.block g (rlo r L g (V.mono OK)),OM OK r L g V]
  replace hu:=dB.cP hu fun g V=>by rw[G.block g (rlo r L g (V.mono OK)),OM OK r L g V]
  replace SW:=fK.cP SW fun g V=>by rw[G.block g (rlo r oF g (V.mono OK)),OM OK r oF g V]
  replace RO:=RO.cP fun g V=>by rw[G.block g (rlo r oF g ((V.elim id id).mono OK)),OM OK r oF g (V.elim id id)]
  replace Oa:=Oa.cP fun g V=>by rw[G.block g (rlo r oF g (V.mono PO)),rls r oF (V.mono PO)]
  replace hU:=hU.cL (K:=(wa.heap.size,QA.heap.size)::OR) r G fun x E=>aD _ E;replace Y:=Y.tr N;replace OK:∀p,p∈ivM->p∈(wa.heap.size,QA.heap.size)::OR:=fun p hp=>aD _ (OK p hp);replace PO:∀p,p∈OS->p∈(wa.heap.size,QA.heap.size)::OR:=fun p hp=>aD _ (PO p hp);clear r G N hO hRb Vd XE;generalize (wa.heap.size,QA.heap.size)::OR=Ob at*
  obtain⟨b5,a5,n5,c5,b6,a6,n6,c6,rfl⟩:=hQ.shape;conv=>whnf
  have Wh:(mr.map cU).length=cols:=by rw[aJ,hmrl]
  have hlu:(tf G8.length rv.length).length=G8.length:=by simp[tf]
  refine cM (cN (I9:=fun _ J v F=>gA F (fun g=>Cf w Ob g/\¬ ∃u∈rv,u.ownBlock=some g) v (cols+1+G8.length) (mr.map cU++cU bx::tf G8.length rv.length)/\∀g,v.ownBlock=some g->J.heap.size<=g/\g<F.heap.size) (fun O J r=>?_) ?_)
  .have UU:=r.kh (id:=3) (sz:=1) (n:=3) rfl rfl bv (by intro u hu;simp at hu;rcases hu with rfl|rfl|rfl<;>rfl);have PD:=r.kh (id:=2) (sz:=4) (n:=1) rfl rfl bv (by intro u hu;simp at hu;rcases hu with rfl|rfl|rfl|rfl<;>rfl);have hlow3:=r.low 3 _ rfl (r.nn 3 _ rfl (by intros;simp) ce);have hlow2:=r.low 2 _ rfl (r.nn 2 _ rfl (by intros;simp) ce);have hUr:=hU.rel r;have:=HN (C:=fun g=>Cf w Ob g\/g=(O 2).g\/g=(O 3).g) (S:=fun g=>Cf w Ob g/\¬ ∃u∈rv,u.ownBlock=some g)
    (w:=J) (rs:=mr.map cU) (xs:=tf G8.length rv.length) (q:=cU bx) (u:=.slice au cols cu) (x:=.slice (some ⟨gx,0,none⟩) G8.length cx)
    (fun g V=>by rcases V with V|rfl|rfl;exact rlo r oF g V;exact hlow2.2;exact hlow3.2) (fun g V=>rlo r oF g V.1)
    (UU.cO fun g V=>.inr (.inr V)) (PD.cO fun g V=>.inr (.inl V))
    ((RO.cP fun g V=>OM OK r oF g (V.elim id id)).cO (fun g V=>.inl (V.mono OK)) fun g V=>⟨V.mono OK,fun⟨u,hu,e⟩=>XC u hu g e V⟩)
    (hUr.row.read.cO (fun g V=>.inl (hUr.kL g V)) fun g V=>V.1) (cY.cP hQ fun g V=>rls r oF V.1) (by rw[Wh,hlu];omega)
   rw[Wh,hlu]at this;exact this
  rintro O wa vn wb r G N ⟨WG,Ox⟩;have hB:=r.cR;have Sl:gl wb FF w.heap.size ((wa.heap.size,wb.heap.size)::Ob) (rv++[vn]) (cols+1+G8.length) ((nE (de G8) (b.map cU)).take (rv.length+1)):=by
   have h4:gl wb FF w.heap.size Ob rv (cols+1+G8.length) ((nE (de G8) (b.map cU)).take rv.length):=
    ⟨Oa.len,fun i v qs W I=>((Oa.row i v qs W I).cP fun g V=>by
      have V:Cf w OS g:=V.elim (fun h=>h.1) fun V=>Oa.new v (aG W) g V
      rw[G.block g (rlo r oF g (V.mono PO)),rls r oF (V.mono PO)]).cO fun g V=>⟨V.1.mono PO,V.2⟩,Oa.D4,fun v hv g V=>(Oa.new v hv g V).mono PO⟩
   have h5:gl QA FF w.heap.size Ob rv (cols+1+G8.length) ((nE (de G8) (b.map cU)).take rv.length):=
    ⟨Oa.len,fun i v qs W I=>(Oa.row i v qs W I).cO fun g V=>⟨V.1.mono PO,V.2⟩,Oa.D4,fun v hv g V=>(Oa.new v hv g V).mono PO⟩
   have h6:=h5.snoc r oF G (WG.cO fun g V=>⟨V.1.mono fun p hp=>aD _ hp,fun e=>by have:=rlo r oF g V.1;have:=(Ox g e).1;omega,V.2⟩) Ox;have h7:(nE (de G8) (b.map cU)).take (rv.length+1)=(nE (de G8) (b.map cU)).take rv.length++[mr.map cU++cU bx::tf G8.length rv.length]:=by
    rw[bE,KP (r:=mr.map cU) (by rw[aS,hmr];rfl)];have:(b.map cU).getD rv.length 0=cU bx:=by rw[List.getD,aS,TY];rfl
    rw[this,aJ];rfl
   rw[h7];exact h6
  have hvnM:∀g,vn.ownBlock=some g->¬Cf w ivM g:=fun g V hm=>by
   have:=rlo r oF g (hm.mono OK);have:=(Ox g V).1;omega
  replace h:=dK.cP h fun g V=>by rw[G.block g (rlo r L g (V.mono OK)),OM OK r L g V]
  replace hu:=dB.cP hu fun g V=>by rw[G.block g (rlo r L g (V.mono OK)),OM OK r L g V]
  replace SW:=fK.cP SW fun g V=>by rw[G.block g (rlo r oF g (V.mono OK)),OM OK r oF g V]
  replace Y:=Y.tr N;replace OK:∀p,p∈ivM->p∈(wa.heap.size,wb.heap.size)::Ob:=fun p hp=>aD _ (OK p hp);obtain⟨an,cn,rfl,-⟩:=WG.form;clear r G N RO Oa hU hQ WG Ox hB hvx1 hgxr hgxrv WE;generalize (wa.heap.size,wb.heap.size)::Ob=Of at*
  conv=>whnf
  refine⟨be,?_⟩;conv=>whnf
  refine⟨by simp;omega,(rv++[.slice an (cols+1+G8.length) cn])++List.replicate (G8.length-(rv.length+1)) nls,?_,?_⟩
  .have h5:G8.length-rv.length=(G8.length-(rv.length+1))+1:=by omega
   simp[h5,List.replicate_succ]
  conv=>whnf
  refine⟨((rv.length+1:Nat):Int),wo,?_⟩;conv=>whnf
  intro IR w3 r3;have R4:(rv++[Value.slice an (cols+1+G8.length) cn]).length=rv.length+1:=by simp
  refine⟨(rv++[.slice an (cols+1+G8.length) cn],Of,w3),⟨by dsimp only;rw[R4];exact R,Y.tr r3.cV,OK,dK.cP h fun g V=>rls r3 L (V.mono OK),dB.cP hu fun g V=>rls r3 L (V.mono OK),fK.cP SW fun g V=>rls r3 oF (V.mono OK),?_,?_,?_⟩,
   sbgn [] r3 ⟨by dsimp only;rw[R4];rfl,rfl,trivial⟩ ⟨rfl,rfl,rfl,rfl,rfl,rfl,rfl,by dsimp only;rw[R4];rfl,trivial⟩,by dsimp only;rw[R4];omega⟩
  .dsimp only
   rw[R4];exact Sl.rel r3 oF
  .intro u hu;rcases bY.1 hu with hu|hu
   .exact h1c u hu
   .simp at hu;subst hu;rfl
  .intro u hu g V;rcases bY.1 hu with hu|hu
   .exact XC u hu g V
   .simp at hu;subst hu;exact hvnM g V
 .have R:rv.length=G8.length:=by
   have:¬rv.length<G8.length:=by simpa using R
   omega
  rw[R,show G8.length-G8.length=0 by omega,List.replicate_zero,List.append_nil];rw[R,<-hlA,bF]at Oa;clear h hu SW XC OK hf Xb OQ Rd Pv hct;conv=>whnf
  obtain⟨SQ,Oq,Xk,hAh⟩:=uv (cols:=cols) Xh I;rw[hlA]at Oa SQ Oq;refine⟨fun O J r=>?_⟩;have WH:=r.nn 1 _ rfl (by intros;simp) ce;have hm:=Oa.NI r oF (id:=1) rfl WH mx h1c;rw[R]at hm;refine(Iy (fun g V=>rlo r oF g V.1) hm (fun g V=>V.2) be be (show cols<=cols+1+G8.length by omega) Xh I (by rw[hlA];exact TR)).mono fun e F G=>?_;obtain⟨vp,rv',rfl,hK,Te,R7,hP⟩:=G;obtain⟨F',pv,hApv⟩:∃F' pv,(F',pv)=gT (nE (de G8) (b.map cU)) cols:=⟨_,_,rfl⟩
  rw[<-hApv]at SQ Oq Xk hAh Te hP;dsimp only at SQ Oq Xk hAh Te hP;have UR:rv'.length=G8.length:=by rw[Te.len,SQ]
  have PS:F.heap[(O 1).g]? =some (.cells rv'.toArray T.row (0,0)):=by
   rcases Te.out.2 with⟨W,_⟩|⟨g,cap,cur,e,_,V,_,_,Od,Su⟩
   .cases W
   .injection e with e1 e2 e3;injection e1 with e1;injection e1 with e1;subst e1 e3;rw[V,<-Su,UR,bC,bU (by simp;omega)]
  have hIn:∀g,Mb (.slice (some ⟨(O 1).g,0,none⟩) G8.length G8.length) rv g->g=(O 1).g\/Cf w OS g:=fun g V=>by
   rcases V with V|⟨x,E,V⟩
   .injection V with V;exact .inl V.symm
   .exact .inr (Oa.new x E g V)
  refine⟨vp,[(1,.arr T.row rv'),(0,.box T.solved [.v nls,.v nls,.v nls])],(J.heap.size,F.heap.size)::OS,rfl,
   r.Eg (id:=1) rfl rfl (fun j hj=>by simp[dN,Ne.symm hj]) hK (fun g V=>(hIn g V).imp id fun hc=>fun j c hj U=>Rel.not r oF hc j c hj U) PS,?_⟩
  have hB:=r.cR;have hT:∀g,Nw (fun g=>Cf w OS g/\¬Mb (.slice (some ⟨(O 1).g,0,none⟩) G8.length G8.length) rv g) J F g->Cf w ((J.heap.size,F.heap.size)::OS) g:=fun g V=>by
   rcases V with V|V
   .exact V.1.mono fun p hp=>aD _ hp
   .exact .inr ⟨be,_,_,aF,V.1,V.2⟩
  have Ql:∀(j:Nat) x qs,rv'[j]? =some x->F'[j]? =some qs->dm F (Cf w ((J.heap.size,F.heap.size)::OS)) (Cf w ((J.heap.size,F.heap.size)::OS)) x qs/\qs.length=cols+1+G8.length:=fun j x qs W I=>by
   have h3:gA F _ x (cols+1+G8.length) qs:=Te.row j x qs W I;refine⟨h3.read.cO (fun g V=>?_) hT,h3.len⟩;have hxm:=aG W;rcases hIn g ((R7 g).1 (.inr ⟨x,hxm,V⟩))with e|hc
   .subst e;exact absurd rfl (Te.DA x hxm _ V)
   .exact hc.mono fun p hp=>aD _ hp
  have Qo:fF F (Cf w ((J.heap.size,F.heap.size)::OS)) vp pv:=fy.cO hP fun g V=>by
   rcases V with V|V
   .exact V.elim
   .exact .inr ⟨be,_,_,aF,V.1,V.2⟩
  replace Y:Bq w F:=(Y.tr r.cV).tr ⟨hK.os,hK.tape,hK.output,hK.size,fun k Z=>hK.block k (by have:=r.cR;omega) fun E=>by
   rcases hIn k E with e|hc
   .have:=(r.low 1 _ rfl WH).1;omega
   .rcases hc with hc|⟨hc,_⟩
    .exact hc
    .omega⟩
  clear hm hK Te R7 hP PS hIn hT Oa h1c QG hB WH r;generalize (J.heap.size,F.heap.size)::OS=iv2 at*
  obtain⟨apv,cpv,rfl,hcpv⟩:∃a c,vp= .slice a pv.length c/\pv.length<=c:=by
   obtain⟨-,-,-,a,c,e,W,-⟩:=Qo;exact⟨a,c,e,W⟩
  have Up:Ht F' 500000000:=hAh.mono (aP (Nat.mul_le_mul_right _ (Nat.pow_le_pow_right bv Oq)) TR);clear hAh Xh TR;conv=>whnf
  refine⟨⟨be,be,be⟩,(if G8.length=pv.length then 0 else pv.length),G8.length-pv.length,G8.length-pv.length,?_,be,be,?_⟩
  .split<;>split<;>omega
  have Qk:pv.length<G8.length->(if G8.length=pv.length then 0 else pv.length)=pv.length:=fun h=>by rw[aK be]
  generalize (if G8.length=pv.length then 0 else pv.length)=off at*
  conv=>whnf
  refine⟨Nat×Iv×World,fun z=>⟨[(4,pP 0 0),(5,iZ cols),(6,.o (.s 1 0 G8.length G8.length)),(10,sV apv pv.length cpv),(57,.o (.s 1 off (G8.length-pv.length) (G8.length-pv.length))),(58,iN (G8.length-pv.length)),(59,iZ z.1)],
    [(1,.arr T.row rv'),(0,.box T.solved [.v nls,.v nls,.v nls])],2,z.2.1,z.2.2⟩,fun z=>G8.length-pv.length-z.1,
   fun z=>z.1<=G8.length-pv.length/\Bq w z.2.2/\(∀p,p∈iv2->p∈z.2.1)/\fF z.2.2 (Cf w iv2) (.slice apv pv.length cpv) pv/\
    (∀(j:Nat) x qs,rv'[j]? =some x->F'[j]? =some qs->dm z.2.2 (Cf w iv2) (Cf w iv2) x qs/\qs.length=cols+1+G8.length)/\(∀k,pv.length<=k->k<pv.length+z.1->dZ F' k cols=0),?_,?_⟩
  .intro O J r
   exact⟨(0,iv2,J),⟨ce,Y.tr r.cV,fun p hp=>hp,fF.rel Qo r oF,fun j x qs W I=>⟨(Ql j x qs W I).1.rel r oF oF,(Ql j x qs W I).2⟩,fun k W I=>by dsimp only at I;omega⟩,
    sbgn [] r⟩
  clear Y Ql Qo;rintro⟨j,OR,w3⟩ ⟨hj,Y,OK,Qo,Ql,hz⟩;dsimp only at hj Y OK Qo Ql hz ⊢;have OM:∀{H nx iv O wx J},(∀p,p∈iv2->p∈iv)->Rel H nx iv w.heap.size wx O J->∀g,Cf w iv2 g->J.heap[g]? =wx.heap[g]? :=by
   intro H nx iv O wx J hm r g V;exact rls r oF (V.mono hm)
  conv=>whnf
  apply bS<;>intro R8
  .have R8:j<G8.length-pv.length:=by
    have:=aI R8;omega
   have Qk:=Qk be;subst Qk;obtain⟨xr,hxr⟩:=gO rv' (pv.length+j);obtain⟨qs,WU⟩:=gO F' (pv.length+j);obtain⟨RO,To⟩:=Ql _ xr qs hxr WU;obtain⟨axr,cxr,hxe,hxc,-⟩:=RO.shape;rw[To]at hxe hxc;subst hxe;obtain⟨q,hq⟩:=gO qs cols;have RE:dZ F' (pv.length+j) cols=q:=by
    have:F'.getD (pv.length+j) []=qs:=by rw[List.getD,WU];rfl
    rw[dZ,this,List.getD,hq];rfl
   obtain⟨adq,cs,rfl,hF,hl⟩:=RO.load hq;obtain⟨b3,a3,n3,c3,b4,a4,n4,c4,rfl,hF⟩:=hF;conv=>whnf
   refine⟨be,?_⟩;conv=>whnf
   refine⟨.slice (some adq) (cols+1+G8.length) cxr,by simpa using hxr,?_⟩;conv=>whnf
   refine⟨adq,rfl,be,?_⟩;conv=>whnf
   refine⟨rC b3 a3 n3 c3 b4 a4 n4 c4,rfl,fun O J r i x E=>?_,?_⟩
   .obtain⟨k1,k2⟩:=hl i x E;rw[aN,cg (w:=w3) (F:=J) (by rw[eQ,eQ];exact OM OK r _ k1)];exact k2
   conv=>whnf
   refine cM (cN (I9:=fun _ _ v _=>v=iV (rs q)) (fun O J r=>lM (fun g V=>rlo r oF g (V.mono OK)) (cY.cP hF fun g V=>OM OK r g V)) ?_);rintro O wa v1 wb r G N rfl;have OP:∀g,Cf w iv2 g->wb.heap[g]? =w3.heap[g]? :=fun g V=>by rw[G.block g (rlo r oF g (V.mono OK)),OM OK r g V]
   replace Qo:=fF.cP Qo OP;replace Ql:∀(j:Nat) x qs,rv'[j]? =some x->F'[j]? =some qs->dm wb (Cf w iv2) (Cf w iv2) x qs/\qs.length=cols+1+G8.length:=fun j x qs W I=>⟨(Ql j x qs W I).1.cP fun g V=>OP g (V.elim id id),(Ql j x qs W I).2⟩
   replace hF:=cY.cP hF OP;replace RO:=RO.cP fun g V=>OP g (V.elim id id)
   replace hl:∀k u,[Value.bool b3,.slice a3 n3 c3,.bool b4,.slice a4 n4 c4][k]? =some u->Cf w iv2 adq.block/\wb.cell? ((adq.add (cols*4)).add k)=some u:=fun k u hu=>⟨(hl k u hu).1,by
    rw[cg (w:=w3) (F:=wb) (by rw[eQ,eQ];exact OP _ (hl k u hu).1)]
    exact(hl k u hu).2⟩
   replace Y:=Y.tr N;replace OK:∀p,p∈iv2->p∈(wa.heap.size,wb.heap.size)::OR:=fun p hp=>aD _ (OK p hp);clear r G N OP;generalize (wa.heap.size,wb.heap.size)::OR=Ob at*
   conv=>whnf
   apply bS<;>intro h0
   .have h0:q≠0:=fun e=>by rw[e]at h0;exact absurd h0 bv
    have hqsd:F'.getD (pv.length+j) []=qs:=by rw[List.getD,WU];rfl
    have hqA:=Up.at WU;have hrlq:=hqA q (aG hq);have Q9:=RO.from (k:=cols+1) be;have SC:(qs.drop (cols+1)).length=G8.length:=by rw[List.length_drop,To];omega
    rw[show cols+1+G8.length-(cols+1)=G8.length by omega]at Q9;conv=>whnf
    refine inc cols ?_;conv=>whnf
    refine⟨⟨be,be,be⟩,(if (cxr:Int)=((cols+1:Nat):Int)then some adq else(some adq).map (·.add ((cols+1)*4))),G8.length,cxr-(cols+1),rfl,be,be,?_⟩;generalize (if (cxr:Int)=((cols+1:Nat):Int)then some adq else(some adq).map (·.add ((cols+1)*4)))=adp at*
    conv=>whnf
    refine cM (cN (I9:=fun _ J v F=>gA F (Cf w iv2) v G8.length (qs.drop (cols+1))/\∀g,v.ownBlock=some g->J.heap.size<=g/\g<F.heap.size) (fun O J r=>?_) ?_)
    .have:=JA (w:=J) (fun g V=>rlo r oF g (V.mono OK)) (fun g V=>rlo r oF g (V.mono OK)) (Q9.cP fun g V=>OM OK r g (V.elim id id)) (by rw[SC];omega) (by rw[SC];omega);rw[SC]at this;exact this
    rintro O wa v1 wb' r G N ⟨hP,hpb⟩;have hpT:∀g,v1.ownBlock=some g->¬Cf w iv2 g:=fun g V h=>by have:=rlo r oF g (h.mono OK);have:=(hpb g V).1;omega
    have VI:∀g,v1.ownBlock=some g->Cf w ((wa.heap.size,wb'.heap.size)::Ob) g:=fun g V=>.inr ⟨by have:=(hpb g V).1;have:=r.cR;omega,_,_,aF,(hpb g V).1,(hpb g V).2⟩;have OP:∀g,Cf w iv2 g->wb'.heap[g]? =wb.heap[g]? :=fun g V=>by rw[G.block g (rlo r oF g (V.mono OK)),OM OK r g V]
    replace hF:=cY.cP hF OP
    replace hl:∀k u,[Value.bool b3,.slice a3 n3 c3,.bool b4,.slice a4 n4 c4][k]? =some u->Cf w iv2 adq.block/\wb'.cell? ((adq.add (cols*4)).add k)=some u:=fun k u hu=>⟨(hl k u hu).1,by
     rw[cg (w:=wb) (F:=wb') (by rw[eQ,eQ];exact OP _ (hl k u hu).1)]
     exact(hl k u hu).2⟩
    replace Y:=Y.tr N;replace OK:∀p,p∈iv2->p∈(wa.heap.size,wb'.heap.size)::Ob:=fun p hp=>aD _ (OK p hp);clear r G N OP Q9 RO Qo Ql hpb;generalize (wa.heap.size,wb'.heap.size)::Ob=Of at*
    obtain⟨ap',cp',rfl,-⟩:=hP.form;conv=>whnf
    refine dP [.x 0,.x 2,.x 3,.x 4,.x 5,.x 1,.x 6,.x 7] ?_;conv=>whnf
    refine⟨adq,rfl,be,?_⟩;conv=>whnf
    refine⟨rC b3 a3 n3 c3 b4 a4 n4 c4,rfl,fun O J r i x E=>?_,?_⟩
    .obtain⟨k1,k2⟩:=hl i x E;rw[aN,cg (w:=wb') (F:=J) (by rw[eQ,eQ];exact OM OK r _ k1)];exact k2
    conv=>whnf
    refine cN (I9:=fun _ J v F=>cY F (Nf J F) v (((1:Int):Rat))) (fun O J r=>iD 1 J bv bv) ?_;rintro O wa v1 wc r G OQ hO;have Pw:=hO.eX (S:=FF) r.cR (iv:=(wa.heap.size,wc.heap.size)::Of) aF;have OP:∀g,Cf w Of g->wc.heap[g]? =wb'.heap[g]? :=fun g V=>by rw[G.block g (rlo r oF g V),rls r oF V]
    replace hF:=cY.cP hF fun g V=>OP g (V.mono OK);replace hP:=hP.cP fun g V=>OP g (V.elim (fun h=>h.mono OK) (VI g));replace Y:=Y.tr OQ;replace OK:∀p,p∈iv2->p∈(wa.heap.size,wc.heap.size)::Of:=fun p hp=>aD _ (OK p hp);replace VI:∀g,(Value.slice ap' G8.length cp').ownBlock=some g->Cf w ((wa.heap.size,wc.heap.size)::Of) g:=fun g V=>(VI g V).cons;clear r G OQ hO hl OP;generalize (wa.heap.size,wc.heap.size)::Of=PL at*
    obtain⟨b5,a5,n5,c5,b6,a6,n6,c6,rfl⟩:=Pw.shape;have RQ:(((1:Int):Rat))=1:=rfl;rw[RQ]at Pw;conv=>whnf
    refine cN (I9:=fun _ J v F=>cY F (Nf J F) v (1 / q)) (fun O J r=>Fg (rlo r oF) (Pw.rel r oF) (cY.cO (cY.cP hF fun g V=>OM OK r g V) fun g V=>V.mono OK) bv be h0) ?_;rintro O wa v1 wd r G OQ hO;have hQN:=hO.eX (S:=FF) r.cR (iv:=(wa.heap.size,wd.heap.size)::PL) aF;have hQp:∀g,Nf wa wd g->(Value.slice ap' G8.length cp').ownBlock≠some g:=fun g V e=>by
     rcases V with V|V
     .exact V.elim
     .have:=rlo r oF g (VI g e);omega
    have hQ2:cY wd (fun g=>Cf w ((wa.heap.size,wd.heap.size)::PL) g/\(Value.slice ap' G8.length cp').ownBlock≠some g) v1 (1 / q):=hO.cO fun g V=>⟨V.eX r.cR aF,hQp g V⟩
    have OP:∀g,Cf w PL g->wd.heap[g]? =wc.heap[g]? :=fun g V=>by rw[G.block g (rlo r oF g V),rls r oF V]
    replace hP:=hP.cP fun g V=>OP g (V.elim (fun h=>h.mono OK) (VI g));replace Y:=Y.tr OQ;replace OK:∀p,p∈iv2->p∈(wa.heap.size,wd.heap.size)::PL:=fun p hp=>aD _ (OK p hp);replace VI:∀g,(Value.slice ap' G8.length cp').ownBlock=some g->Cf w ((wa.heap.size,wd.heap.size)::PL) g:=fun g V=>(VI g V).cons;clear r G OQ hO hF Pw OP hQp;generalize (wa.heap.size,wd.heap.size)::PL=QB at*
    obtain⟨b7,a7,n7,c7,b8,a8,n8,c8,rfl⟩:=hQN.shape;have hinv:=uD h0;conv=>whnf
    refine⟨fun O J r=>?_⟩;have hPr:=(hP.cP (F:=J) fun g V=>rls r oF (V.elim (fun h=>h.mono OK) (VI g))).cO (S':=fun g=>Cf w QB g/\(Value.slice ap' G8.length cp').ownBlock≠some g) fun g V=>⟨V.mono OK,fun e=>hpT g e V⟩
    obtain⟨M,Ps,Qw,Vz⟩:=hPr;refine(tX (fun g V=>rlo r oF g V.1) Ps Vz Qw (cY.cP hQ2 fun g V=>rls r oF V.1) (fun x E Pe=>Pe.2 E) (fun x E=>by have:=hqA x (List.mem_of_mem_drop E);omega) be).mono fun e w4 G=>?_;obtain⟨rfl,PY,css',Wz,hr5,Xi⟩:=G;have UQ:gA w4 (Nw (fun g=>Cf w QB g/\(Value.slice ap' G8.length cp').ownBlock≠some g) J w4) (.slice ap' G8.length cp') G8.length ((qs.drop (cols+1)).map (· *(1 / q))):=⟨css',Wz,hr5,Xi⟩
    refine⟨.tuple #[],_,(J.heap.size,w4.heap.size)::QB,rfl,r.yn (fun x E=>Rel.not r oF (VI x E)) PY,?_⟩;have hP3:dm w4 (Cf w ((J.heap.size,w4.heap.size)::QB)) (Cf w ((J.heap.size,w4.heap.size)::QB)) (.slice ap' G8.length cp') ((qs.drop (cols+1)).map (· *(1 / q))):=
     UQ.read.cO (fun g V=>(VI g V).cons) fun g V=>by
      rcases V with V|V
      .exact V.1.cons
      .exact .inr ⟨by have:=r.cR;omega,_,_,aF,V.1,V.2⟩
    have OZ:Bq w w4:=(Y.tr r.cV).tr (Bel.grown PY (fun g V=>by
     rcases VI g V with h|⟨h,_⟩
     .exact h.elim
     .exact h) r.cR)
    have hsome:∃a,ap'=some a:=by
     rcases Wz.2 with⟨_,h9⟩|⟨g,cap,cur,e,_⟩
     .omega
     .injection e with e;exact⟨_,e⟩
    obtain⟨ag,rfl⟩:=hsome;clear hP hQN hQ2 Ps Vz Wz Xi PY UQ r Y hpT VI OK;generalize (J.heap.size,w4.heap.size)::QB=RT at*
    conv=>whnf
    intro I8 we re;refine⟨_,rfl,OZ.tr re.cV,F',pv,hApv,.inl ⟨pv.length+j,_,be,be,by rw[RE];exact h0,fun k W I=>hz k W I,rfl,⟨ag,_,_,rfl⟩,?_⟩⟩;rw[hqsd,RE];exact(hP3.rel re oF oF).cO (fun g V=>Cv.nw V re) fun g V=>Cv.nw V re
   .have h0:q=0:=by
     have W:(rs q==0)=true:=by simpa using h0
     exact Rat.num_eq_zero.1 (bX.1 (eq_of_beq W))
    conv=>whnf
    refine inc j ?_;conv=>whnf
    intro IR w5 r3
    refine⟨(j+1,Ob,w5),⟨R8,Y.tr r3.cV,OK,fF.cP Qo fun g V=>OM OK r3 g V,fun j x qs W I=>⟨(Ql j x qs W I).1.cP fun g V=>OM OK r3 g (V.elim id id),(Ql j x qs W I).2⟩,fun k W I=>?_⟩,
     sbgn [] r3,by dsimp only;omega⟩
    by_cases Z:k=pv.length+j
    .rw[Z,RE,h0]
    .exact hz k W (by dsimp only at I;omega)
  .have R8:j=G8.length-pv.length:=by
    have:=aL R8;omega
   have Sf:∀k,pv.length<=k->k<G8.length->dZ F' k cols=0:=fun k W I=>hz k W be;clear hz Qk;conv=>whnf
   refine cM (cN (I9:=fun _ J v F=>fM F FF J.heap.size [(J.heap.size,F.heap.size)] v cols (List.replicate cols 0)) (fun O J r=>mi cols J be) ?_);rintro O wa vx wb r G N E;have hX:=E.eX (S:=FF) (iv:=(wa.heap.size,wb.heap.size)::OR) r.cR aF;have hxo:∀g,vx.ownBlock=some g->¬Cf w iv2 g:=fun g V h=>by
    have h3:=rlo r oF g (h.mono OK);rcases E.new g V with h4|⟨h4,_⟩
    .exact h4
    .omega
   have OP:∀g,Cf w iv2 g->wb.heap[g]? =w3.heap[g]? :=fun g V=>by rw[G.block g (rlo r oF g (V.mono OK)),OM OK r g V]
   replace Qo:=fF.cP Qo OP;replace Ql:∀(j:Nat) x qs,rv'[j]? =some x->F'[j]? =some qs->dm wb (Cf w iv2) (Cf w iv2) x qs/\qs.length=cols+1+G8.length:=fun j x qs W I=>⟨(Ql j x qs W I).1.cP fun g V=>OP g (V.elim id id),(Ql j x qs W I).2⟩
   have hxB:∀g,vx.ownBlock=some g->w.heap.size<=g:=fun g V=>by
    rcases hX.new g V with h4|⟨h4,_⟩
    .exact h4.elim
    .exact h4
   replace Y:=Y.tr N;replace OK:∀p,p∈iv2->p∈(wa.heap.size,wb.heap.size)::OR:=fun p hp=>aD _ (OK p hp);clear r G N E OP;generalize (wa.heap.size,wb.heap.size)::OR=Ob at*
   obtain⟨ax,cx,rfl,-⟩:=hX.row.form;conv=>whnf
   refine⟨Nat×Iv×World,fun z=>⟨[(4,pP 0 0),(5,iZ cols),(6,.o (.s 1 0 G8.length G8.length)),(10,sV apv pv.length cpv),(14,sV ax cols cx),(87,sV apv pv.length cpv),(88,iZ pv.length),(89,iZ z.1)],
     [(1,.arr T.row rv'),(0,.box T.solved [.v nls,.v nls,.v nls])],2,z.2.1,z.2.2⟩,fun z=>pv.length-z.1,
    fun z=>z.1<=pv.length/\Bq w z.2.2/\(∀p,p∈iv2->p∈z.2.1)/\fF z.2.2 (Cf w iv2) (.slice apv pv.length cpv) pv/\
     (∀(j:Nat) x qs,rv'[j]? =some x->F'[j]? =some qs->dm z.2.2 (Cf w iv2) (Cf w iv2) x qs/\qs.length=cols+1+G8.length)/\
     fM z.2.2 FF w.heap.size z.2.1 (.slice ax cols cx) cols (jZ F' pv cols z.1),?_,?_⟩
   .intro O J r
    exact⟨(0,Ob,J),⟨ce,Y.tr r.cV,OK,fF.cP Qo fun g V=>OM OK r g V,fun j x qs W I=>⟨(Ql j x qs W I).1.cP fun g V=>OM OK r g (V.elim id id),(Ql j x qs W I).2⟩,hX.rel r oF⟩,
     sbgn [] r⟩
   clear Y OK Qo Ql hX;rintro⟨i,Of,w5⟩ ⟨hi5,Y,OK,Qo,Ql,hX⟩;dsimp only at hi5 Y OK Qo Ql hX ⊢;conv=>whnf
   apply bS<;>intro OJ
   .have OJ:=dL OJ;obtain⟨p,Ro⟩:=gO pv i;have hpd:pv.getD i 0=p:=by rw[List.getD,Ro];rfl
    have WB:=Xk p (aG Ro);obtain⟨_,_,_,_,_,Wd,_,Rw⟩:=id Qo;injection Wd with WC hpe2 WD;subst WC WD;obtain⟨adp,rfl,kp1,kp2⟩:=Rw i (iV (p:Int)) (by rw[aS,Ro];rfl);obtain⟨xr,hxr⟩:=gO rv' i;obtain⟨qs,WU⟩:=gO F' i;obtain⟨RO,To⟩:=Ql _ xr qs hxr WU;obtain⟨axr,cxr,hxe,hxc,-⟩:=RO.shape;rw[To]at hxe hxc;subst hxe;obtain⟨q,hq⟩:=gO qs cols;have RE:dZ F' i cols=q:=by
     have:F'.getD i []=qs:=by rw[List.getD,WU];rfl
     rw[dZ,this,List.getD,hq];rfl
    obtain⟨adq,cs,rfl,hF,hl⟩:=RO.load hq;obtain⟨b3,a3,n3,c3,b4,a4,n4,c4,rfl,hF⟩:=hF;conv=>whnf
    refine⟨adp,rfl,be,?_⟩;conv=>whnf
    refine⟨iV (p:Int),fun O J r=>?_,?_⟩
    .rw[aN,bC,cg (w:=w5) (F:=J) (by rw[eQ];exact OM OK r _ kp1)];exact kp2
    conv=>whnf
    refine⟨be,?_⟩;conv=>whnf
    refine⟨.slice (some adq) (cols+1+G8.length) cxr,by simpa using hxr,?_⟩;conv=>whnf
    refine⟨adq,rfl,be,?_⟩;conv=>whnf
    refine⟨rC b3 a3 n3 c3 b4 a4 n4 c4,rfl,fun O J r i x E=>?_,?_⟩
    .obtain⟨k1,k2⟩:=hl i x E;rw[aN,cg (w:=w5) (F:=J) (by rw[eQ,eQ];exact OM OK r _ k1)];exact k2
    conv=>whnf
    have PC:∃g,ax=some ⟨g,0,none⟩:=by
     obtain⟨M,ho,_⟩:=hX.row;rcases ho.2 with⟨_,h0⟩|⟨g,cap,cur,e,_⟩
     .omega
     .injection e with e;exact⟨g,e⟩
    obtain⟨gx,rfl⟩:=PC;refine⟨⟨gx,0,none⟩,rfl,be,?_⟩;conv=>whnf
    intro O J r;obtain⟨_,PC,W,I,h3,h4,h5⟩:=(hX.rel r oF).store WB (cY.cO (cY.cP hF fun g V=>OM OK r g V) fun g V=>⟨V.mono OK,fun e=>hxo g e V⟩) r oF;injection PC with PC;injection PC with PC;subst PC;have OP:∀g,Cf w iv2 g->J.heap[g]? =w5.heap[g]? :=fun g V=>OM OK r g V;replace Qo:=fF.cP Qo OP;replace Ql:∀(j:Nat) x qs,rv'[j]? =some x->F'[j]? =some qs->dm J (Cf w iv2) (Cf w iv2) x qs/\qs.length=cols+1+G8.length:=fun j x qs W I=>⟨(Ql j x qs W I).1.cP fun g V=>OP g (V.elim id id),(Ql j x qs W I).2⟩
    have hold:∀g,Cf w Of g->g<J.heap.size:=rlo r oF;replace Y:=Y.tr r.cV;clear r hX RO hF hl OP kp1 kp2 Rw;refine⟨W,I,h3,fun F Q3=>?_⟩;obtain⟨hX,PY,-⟩:=h5 F Q3;replace Y:Bq w F:=Y.tr (Bel.grown PY (fun g V=>by injection V with V;subst V;exact hxB gx rfl) (by have:=Y.size;omega));have OP:∀g,Cf w iv2 g->F.heap[g]? =J.heap[g]? :=fun g V=>PY.block g (hold g (V.mono OK)) fun e=>by injection e with e;subst e;exact hxo _ rfl V
    replace Qo:=fF.cP Qo OP;replace Ql:∀(j:Nat) x qs,rv'[j]? =some x->F'[j]? =some qs->dm F (Cf w iv2) (Cf w iv2) x qs/\qs.length=cols+1+G8.length:=fun j x qs W I=>⟨(Ql j x qs W I).1.cP fun g V=>OP g (V.elim id id),(Ql j x qs W I).2⟩
    clear W I h3 h4 h5 Q3 PY hold OP;rw[<-RE,<-hpd,<-qw]at hX;conv=>whnf
    refine inc i ?_;conv=>whnf
    intro IR w6 r3
    exact⟨(i+1,Of,w6),⟨OJ,Y.tr r3.cV,OK,fF.cP Qo fun g V=>OM OK r3 g V,fun j x qs W I=>⟨(Ql j x qs W I).1.cP fun g V=>OM OK r3 g (V.elim id id),(Ql j x qs W I).2⟩,hX.rel r3 oF⟩,
     sbgn [] r3,by dsimp only;omega⟩
   .have OJ:i=pv.length:=by
     have:¬i<pv.length:=by simpa using OJ
     omega
    subst OJ;have hxR:=hX.read;clear hX;conv=>whnf
    refine fg (I9:=fun O J v F=>fK F (Nw (fun g=>Cf w iv2 g\/g=(O 1).g) J F) v (da F' pv cols cols)) (H':=[(0,.box T.solved [.v nls,.v nls,.v nls])]) 1 rfl ce ⟨rfl,trivial⟩ rfl (fun O J r=>r.nn 1 _ rfl (by intros;simp) ce) (fun O J r=>?_) ?_
    .have ON:=r.low 1 _ rfl (r.nn 1 _ rfl (by intros;simp) ce)
     have ha:=r.IW (id:=1) (sz:=1) (n:=G8.length) rfl (by rw[UR,bC]) mx (fun u hu=>by
      obtain⟨i,R⟩:=aY hu;obtain⟨a,cc,e,_⟩:=((Ql i u _ R (aE (by rw[SQ,<-UR];exact(aH.1 R).1))).1).shape;rw[e]
      rfl)
     refine Iz (n:=cols+1+G8.length) (fun g V=>?_) (⟨rv',?_,by rw[UR,SQ],fun i x qs W I=>?_⟩:fK J _ _ F') (fF.cO (fF.cP Qo fun g V=>OM OK r g V) fun g V=>.inl V) (fun rr VB=>?_) be be be be Xk
     .rcases V with V|rfl
      .exact rlo r oF g (V.mono OK)
      .exact ON.2
     .rw[SQ];exact ha.cO fun g V=>.inr V
     .exact((Ql i x qs W I).1.cP fun g V=>OM OK r g (V.elim id id)).cO (fun g V=>.inl V) fun g V=>.inl V
     .obtain⟨i,R⟩:=aY VB;have Uk:=(aH.1 R).1;exact(Ql i rv'[i] rr (aE be) R).2
    rintro O wa vk wb r G N hkR;have ON:=r.low 1 _ rfl (r.nn 1 _ rfl (by intros;simp) ce);have SL:fK wb (Cf w (((O 1).g,(O 1).g+1)::(wa.heap.size,wb.heap.size)::Of)) vk (da F' pv cols cols):=fK.cO hkR fun g V=>by
     rcases V with(V|rfl)|V
     .exact(V.mono OK).cons.cons
     .exact .inr ⟨ON.1,_,_,aF,be,be⟩
     .exact .inr ⟨by have:=r.cR;omega,_,_,aD _ aF,V.1,V.2⟩
    have Pe:dm wb (Cf w (((O 1).g,(O 1).g+1)::(wa.heap.size,wb.heap.size)::Of)) (Cf w (((O 1).g,(O 1).g+1)::(wa.heap.size,wb.heap.size)::Of)) (.slice ax cols cx) (jZ F' pv cols pv.length):=
     (hxR.cP fun g V=>by rw[G.block g (rlo r oF g (V.elim id id)),rls r oF (V.elim id id)]).cO (fun g V=>V.cons.cons) fun g V=>V.cons.cons
    replace Y:=Y.tr N;clear r G N hkR hxR Ql Qo ON;generalize ((O 1).g,(O 1).g+1)::(wa.heap.size,wb.heap.size)::Of=PL at*
    obtain⟨ak,ck,rfl,-⟩:=dD.shape SL;conv=>whnf
    exact rtn Y fun I8 we re=>⟨F',pv,hApv,.inr ⟨_,_,Sf,rfl,(Pe.rel re oF oF).cO (fun g V=>Cv.nw V re) (fun g V=>Cv.nw V re),fK.out SL re oF⟩⟩
def lE(w:World)(S:Nat->Prop)(cs:List Value)(q:Rat):Prop:=∃b a n c b2 a2 n2 c2,cs=(rC b a n c b2 a2 n2 c2)/\cZ w S (.agg #[.bool b,.slice a n c,.bool b2,.slice a2 n2 c2]) q
abbrev cS:=dU lE
abbrev dC:=dD cS
section
variable{S S':Nat->Prop}{H:Hp}{nx:Nat}{iv K:Iv}{B:Nat}{w J F:World}{O:Nat->Sx.dc}{v:Value}{qs:List Rat}{cs:List Value}{q:Rat}
theorem lE.cP(h:lE w S cs q)(Z:∀g,S g->F.heap[g]? =w.heap[g]?):lE F S cs q:=by
 obtain⟨b,a,n,c,b2,a2,n2,c2,W,I⟩:=h;exact⟨b,a,n,c,b2,a2,n2,c2,W,I.cP Z⟩
theorem lE.cO(h:lE w S cs q)(Z:∀g,S g->S' g):lE w S' cs q:=by
 obtain⟨b,a,n,c,b2,a2,n2,c2,W,I⟩:=h;exact⟨b,a,n,c,b2,a2,n2,c2,W,I.cO Z⟩
theorem cS.cP(h:cS w S v qs)(Z:∀g,S g->F.heap[g]? =w.heap[g]?):cS F S v qs:=by
 obtain⟨M,W,I,h3,h4⟩:=h;exact⟨M,W.cP Z,I,h3,fun j cs x k1 k2=>(h4 j cs x k1 k2).cP Z⟩
theorem cS.cO(h:cS w S v qs)(Z:∀g,S g->S' g):cS w S' v qs:=by
 obtain⟨M,W,I,h3,h4⟩:=h;exact⟨M,W.cO Z,I,h3,fun j cs x k1 k2=>(h4 j cs x k1 k2).cO Z⟩
theorem dC.cP(h:dC w S v G8)(Z:∀g,S g->F.heap[g]? =w.heap[g]?):dC F S v G8:=by
 obtain⟨rv,W,I,h3⟩:=h;exact⟨rv,W.cP Z,I,fun i u x k1 k2=>cS.cP (h3 i u x k1 k2) Z⟩
theorem dC.cO(h:dC w S v G8)(Z:∀g,S g->S' g):dC w S' v G8:=by
 obtain⟨rv,W,I,h3⟩:=h;exact⟨rv,W.cO Z,I,fun i u x k1 k2=>cS.cO (h3 i u x k1 k2) Z⟩
end
section
variable{S S':Nat->Prop}{H:Hp}{nx:Nat}{iv K:Iv}{B:Nat}{w J F:World}{O:Nat->Sx.dc}{v:Value}{qs:List Rat}
theorem cS.rel(h:cS w (Cv S B iv) v qs)(r:Rel H nx iv B w O J)(L:∀g,S g->g<B):cS J (Cv S B iv) v qs:=cS.cP h fun _ V=>rls r L V
theorem cS.cL(h:cS w (Cv S B iv) v qs)(r:Rel H nx iv B w O J)(L:∀g,S g->g<B)(G:Ext J F)(hm:∀p,p∈iv->p∈K):cS F (Cv S B K) v qs:=
 cS.cO (cS.cP (cS.rel h r L) fun g V=>G.block g (rlo r L g V)) fun _ V=>V.mono hm
theorem cS.eX(h:cS F (Nf J F) v qs)(hB:B<=J.heap.size)(hm:(J.heap.size,F.heap.size)∈iv):cS F (Cv S B iv) v qs:=cS.cO h fun _ V=>V.eX hB hm
theorem cS.out{w0 w1:World}(h:cS w1 (Cv S w0.heap.size iv) v qs)(r:Rel H nx iv w0.heap.size w1 O J)(L:Old S w0):cS J (Nw S w0 J) v qs:=
 cS.cO (cS.rel h r L) fun _ V=>Cv.nw V r
end
section
variable{S S':Nat->Prop}{H:Hp}{nx:Nat}{iv K:Iv}{B:Nat}{w J F:World}{O:Nat->Sx.dc}{v:Value}{G8:List (List Rat)}
theorem dC.rel(h:dC w (Cv S B iv) v G8)(r:Rel H nx iv B w O J)(L:∀g,S g->g<B):dC J (Cv S B iv) v G8:=dC.cP h fun _ V=>rls r L V
theorem dC.cL(h:dC w (Cv S B iv) v G8)(r:Rel H nx iv B w O J)(L:∀g,S g->g<B)(G:Ext J F)(hm:∀p,p∈iv->p∈K):dC F (Cv S B K) v G8:=
 dC.cO (dC.cP (dC.rel h r L) fun g V=>G.block g (rlo r L g V)) fun _ V=>V.mono hm
theorem dC.eX(h:dC F (Nf J F) v G8)(hB:B<=J.heap.size)(hm:(J.heap.size,F.heap.size)∈iv):dC F (Cv S B iv) v G8:=dC.cO h fun _ V=>V.eX hB hm
theorem dC.out{w0 w1:World}(h:dC w1 (Cv S w0.heap.size iv) v G8)(r:Rel H nx iv w0.heap.size w1 O J)(L:Old S w0):dC J (Nw S w0 J) v G8:=
 dC.cO (dC.rel h r L) fun _ V=>Cv.nw V r
end
theorem j8(L:Old S w)(h:dm w S S v qs)(hl:qs.length<=1000000)(hq:∀q∈qs,rl q<=10000000000):
  eD PG Fd.qK #[v] w (eL w fun v' F=>cS F (Nf w F) v' qs):=by
 obtain⟨a,c,rfl,hc,-⟩:=h.shape;refine tR ce ?_;conv=>whnf
 refine⟨List (List Value)×Iv×World,fun z=>⟨[(3,.o (.w 0 z.1.length)),(6,sV a qs.length c),(7,iZ qs.length),(8,iZ z.1.length)],[(0,.vec T.Rat 4 z.1.flatten)],1,z.2.1,z.2.2⟩,fun z=>qs.length-z.1.length,
  fun z=>z.1.length<=qs.length/\Bq w z.2.2/\(∀cs∈z.1,cs.length=4)/\(∀cs∈z.1,∀u∈cs,u.oneCell'=true)/\∀(j:Nat) cs q,z.1[j]? =some cs->qs[j]? =some q->lE z.2.2 (Cf w z.2.1) cs q,?_,?_⟩
 .intro O J r
  exact⟨([],[],J),⟨ce,r.cV,ce,ce,ce⟩,Sub.nil 3 T.Rat 4 rfl (by simp[ka,SV.sc,At.sc,gW]) r fun Id r1=>
   sbgn [] r1⟩
 rintro⟨M,iv,w1⟩ ⟨R,Y,h4,W,RE⟩;dsimp only at R Y h4 W RE ⊢;have Pt:=gZ h4;have hR:dm w1 S S (.slice a qs.length c) qs:=h.cP fun g V=>Y.block g (V.elim (L g) (L g));conv=>whnf
 apply bS<;>intro N
 .have N:M.length<qs.length:=by simpa using N
  obtain⟨q,Sn⟩:=gO qs M.length;obtain⟨ad,cs,rfl,hF,Ph⟩:=hR.load Sn;obtain⟨b3,a3,n3,c3,b4,a4,n4,c4,rfl,hF⟩:=hF;have QG:=hq q (aG Sn);conv=>whnf
  refine⟨ad,rfl,be,?_⟩;conv=>whnf
  refine⟨rC b3 a3 n3 c3 b4 a4 n4 c4,rfl,fun O J r i x E=>?_,?_⟩
  .obtain⟨k1,k2⟩:=Ph i x E;rw[aN,cg (w:=w1) (F:=J) (by rw[eQ,eQ];exact rls (S:=S) r L (.inl k1))];exact k2
  conv=>whnf
  refine cM (cN (I9:=fun _ J v F=>cZ F (Nf J F) v q) (fun O J r=>wk (oS L r) (cY.cP hF fun g V=>rls (S:=S) r L (.inl V)) be) ?_);rintro O wa v1 wb r G PD hO;have Pw:=hO.eX (S:=FF) r.cR (iv:=(wa.heap.size,wb.heap.size)::iv) aF;replace RE:∀(j:Nat) cs q,M[j]? =some cs->qs[j]? =some q->lE wb (Cf w ((wa.heap.size,wb.heap.size)::iv)) cs q:=fun j cs q k1 k2=>
   ((RE j cs q k1 k2).cP fun g V=>by exact(G.block g (rlo r oF g V)).trans (rls r oF V)).cO fun g V=>V.cons
  replace Y:=Y.tr PD;clear r G PD hO hR hF Ph;generalize (wa.heap.size,wb.heap.size)::iv=iv2 at*
  obtain⟨b5,a5,n5,c5,b6,a6,n6,c6,rfl⟩:=Pw.shape;conv=>whnf
  refine .inl ?_;conv=>whnf
  refine⟨Pt,be,mx,?_⟩;conv=>whnf
  refine⟨((M.length+1:Nat):Int),wo,?_⟩;conv=>whnf
  intro IR w3 r3;have R4:(M++[[Value.bool b5,.slice a5 n5 c5,.bool b6,.slice a6 n6 c6]]).length=M.length+1:=by simp
  have hf3:(M++[[Value.bool b5,.slice a5 n5 c5,.bool b6,.slice a6 n6 c6]]).flatten=M.flatten++[Value.bool b5,.slice a5 n5 c5,.bool b6,.slice a6 n6 c6]:=by simp
  refine⟨(M++[rC b5 a5 n5 c5 b6 a6 n6 c6],iv2,w3),⟨by dsimp only;rw[R4];exact N,Y.tr r3.cV,fun cs hc=>?_,fun cs hc u hu=>?_,fun j cs p k1 k2=>?_⟩,
   sbgn [(0,3)] r3 ⟨by dsimp only;rw[hf3];rfl,trivial⟩ ⟨by dsimp only;rw[R4];rfl,rfl,rfl,by dsimp only;rw[R4];rfl,trivial⟩,by dsimp only;rw[R4];omega⟩
  .rcases bY.1 hc with hc|hc
   .exact h4 cs hc
   .simp at hc;subst hc;rfl
  .rcases bY.1 hc with hc|hc
   .exact W cs hc u hu
   .simp at hc;subst hc;simp at hu;rcases hu with rfl|rfl|rfl|rfl<;>rfl
  .rcases az j M.length with hj|hj
   .rw[aQ hj]at k1;exact(RE j cs p k1 k2).cP fun g V=>rls r3 oF V
   .have hj0:j=M.length:=by have:=(aH.1 k1).1;rw[R4]at this;omega
    subst hj0;rw[aW lr,bj]at k1;simp at k1;rw[Sn]at k2;injection k2 with k2;subst k1 k2;exact⟨b5,a5,n5,c5,b6,a6,n6,c6,rfl,Pw.rel r3 oF⟩
 .have N:M.length=qs.length:=by
   have:¬M.length<qs.length:=by simpa using N
   omega
  conv=>whnf
  intro I8 we re;refine⟨_,rfl,Y.tr re.cV,M,?_,N,h4,fun j cs q k1 k2=>((RE j cs q k1 k2).cP fun g V=>rls re oF V).cO fun g V=>Cv.nw V re⟩
  have:=re.oo (id:=0) (sz:=4) (m:=M.length) rfl Pt mx bv (fun u hu=>by
   obtain⟨cs,hc,hu⟩:=List.mem_flatten.1 hu
   exact W cs hc u hu)
  rw[<-N];exact this.cO fun g V=>.inr V
theorem KR(L:Old S w)(h:fK w S v G8)(hl:G8.length<=1000000)(U:n<=1000000)(OI:∀r∈G8,r.length=n)(hq:∀r∈G8,∀q∈r,rl q<=10000000000):
  eD PG Fd.vK #[v] w (eL w fun v' F=>dC F (Nf w F) v' G8):=by
 obtain⟨a,c,rfl,hc,-⟩:=dD.shape h;refine yL ce ?_;conv=>whnf
 refine⟨List Value×Iv×World,fun z=>⟨[(3,.o (.w 0 z.1.length)),(6,sV a G8.length c),(7,iZ G8.length),(8,iZ z.1.length)],[(0,.vec T.BF 1 z.1)],1,z.2.1,z.2.2⟩,fun z=>G8.length-z.1.length,
  fun z=>z.1.length<=G8.length/\Bq w z.2.2/\(∀u∈z.1,u.oneCell'=true)/\∀(j:Nat) u qs,z.1[j]? =some u->G8[j]? =some qs->cS z.2.2 (Cf w z.2.1) u qs,?_,?_⟩
 .intro O J r
  exact⟨([],[],J),⟨ce,r.cV,ce,ce⟩,Sub.nil 3 T.BF 1 rfl (by simp[ka,SV.sc,At.sc,gW]) r fun Id r1=>
   sbgn [] r1⟩
 rintro⟨rv,iv,w1⟩ ⟨R,Y,W,RE⟩;dsimp only at R Y W RE ⊢;have hR:fK w1 S (.slice a G8.length c) G8:=fK.cP h fun g V=>Y.block g (L g V);conv=>whnf
 apply bS<;>intro N
 .have N:rv.length<G8.length:=by simpa using N
  obtain⟨qs,Sn⟩:=gO G8 rv.length;obtain⟨ad,u,rfl,RO,k1,k2⟩:=dD.load hR Sn;obtain⟨au,cu,rfl⟩:=dD.rowOf RO;have To:=OI qs (aG Sn);conv=>whnf
  refine⟨ad,rfl,be,?_⟩;conv=>whnf
  refine⟨.slice au qs.length cu,fun O J r=>?_,?_⟩
  .rw[aN,cg (w:=w1) (F:=J) (by rw[eQ];exact rls (S:=S) r L (.inl k1))];exact k2
  conv=>whnf
  refine cM (cN (I9:=fun _ J v F=>cS F (Nf J F) v qs) (fun O J r=>j8 (oS L r) (RO.cP fun g V=>rls (S:=S) r L (.inl (V.elim id id))) be (hq qs (aG Sn))) ?_);rintro O wa v1 wb r G PD hO;have Pw:=cS.eX (S:=FF) hO r.cR (iv:=(wa.heap.size,wb.heap.size)::iv) aF;replace RE:∀(j:Nat) u qs,rv[j]? =some u->G8[j]? =some qs->cS wb (Cf w ((wa.heap.size,wb.heap.size)::iv)) u qs:=fun j u qs k1 k2=>
   cS.cO (cS.cP (RE j u qs k1 k2) fun g V=>(G.block g (rlo r oF g V)).trans (rls r oF V)) fun g V=>V.cons
  replace Y:=Y.tr PD;clear r G PD hO hR RO k1 k2;generalize (wa.heap.size,wb.heap.size)::iv=iv2 at*
  obtain⟨a5,c5,rfl,-,-⟩:=dU.shape Pw;conv=>whnf
  refine .inl ?_;conv=>whnf
  refine⟨ce,be,mx,?_⟩;conv=>whnf
  refine⟨((rv.length+1:Nat):Int),wo,?_⟩;conv=>whnf
  intro IR w3 r3;have R4:(rv++[Value.slice a5 qs.length c5]).length=rv.length+1:=by simp
  refine⟨(rv++[.slice a5 qs.length c5],iv2,w3),⟨by dsimp only;rw[R4];exact N,Y.tr r3.cV,fun u hu=>?_,fun j u p k1 k2=>?_⟩,
   sbgn [(0,2)] r3 (hE:=⟨by dsimp only;rw[R4];rfl,rfl,rfl,by dsimp only;rw[R4];rfl,trivial⟩),by dsimp only;rw[R4];omega⟩
  .rcases bY.1 hu with hu|hu
   .exact W u hu
   .simp at hu;subst hu;rfl
  .rcases az j rv.length with hj|hj
   .rw[aQ hj]at k1;exact cS.cP (RE j u p k1 k2) fun g V=>rls r3 oF V
   .have hj0:j=rv.length:=by have:=(aH.1 k1).1;rw[R4]at this;omega
    subst hj0;rw[aW lr,bj]at k1;simp at k1;rw[Sn]at k2;injection k2 with k2;subst k1 k2;exact cS.rel Pw r3 oF
 .have N:rv.length=G8.length:=by
   have:¬rv.length<G8.length:=by simpa using N
   omega
  conv=>whnf
  intro I8 we re;refine⟨_,rfl,Y.tr re.cV,rv,?_,N,fun j u qs k1 k2=>cS.cO (cS.cP (RE j u qs k1 k2) fun g V=>rls re oF V) fun g V=>Cv.nw V re⟩;have:=re.oo (id:=0) (sz:=1) (m:=rv.length) rfl ce mx bv W;rw[<-N];exact this.cO fun g V=>.inr V
end Go.Ex
