/- Texts X58 to X74: lemmas, each with its conditions. -/
import Derived.Test.YtgkpbdkechfgmaaGreatP6
namespace Go.Ex
open Go Go.Sx Go.Proofs
variable{b:Bool}{x z:Int}{Z:List Int}{ls:List Nat}{k n:Nat}{S:Nat->Prop}{lv:Value}{w:World}
def EO(Z:List Int)(n:Nat)(z:Int):Prop:=dg Z=z/\Z.length<=n/\(∀c∈Z,-65535<=c/\c<=65535)/\(0<=z->∀c∈Z,0<=c)
theorem EP(s:Int)(h:val ls=0):∀c∈eX s ls,c=0:=fun c hc=>by
 induction ls with
 |nil=>cases hc
 |cons l r ih=>
  have h:l+4294967296*val r=0:=h;have I:l=0:=by omega
  have G:val r=0:=by omega
  subst I;rw[eX]at hc;rcases List.mem_cons.1 hc with rfl|hc
  .simp
  rcases List.mem_cons.1 hc with rfl|hc
  .simp
  .exact ih G hc
theorem gG.JP{v:Value}(h:gG w S v k z):∃b a ls c,v= .agg #[.bool b,.slice a ls.length c]/\dc w S (.slice a ls.length c) ls/\sg b (val ls)=z/\ls.length<=k:=by
 obtain⟨b,ls,⟨lv,rfl,hl⟩,hz,K⟩:=h;obtain⟨a,c,rfl,_⟩:=hl.sl;exact⟨b,a,ls,c,rfl,hl,hz,K⟩
theorem gG.ln{v:Value}(h:gG w S v k z):ln z.natAbs<=k:=by
 obtain⟨b,a,ls,c,_,hl,hz,K⟩:=h.JP;rw[<-hz,vg];exact aBR hl.lm K
theorem gG.neg(h:gG w S (.agg #[.bool b,lv]) k z):gG w S (.agg #[.bool (!b),lv]) k (-z):=by
 obtain⟨b,ls,⟨lv,e,hl⟩,hz,K⟩:=h;simp only[Value.agg.injEq,Array.mk.injEq,List.cons.injEq,Value.bool.injEq,and_true]at e;obtain⟨rfl,rfl⟩:=e;refine⟨_,ls,⟨_,rfl,hl⟩,?_,K⟩;rw[<-hz]
 cases b<;>simp[sg]
theorem gG.abs(h:gG w S (.agg #[.bool b,lv]) k z):gG w S (.agg #[.bool false,lv]) k (z.natAbs:Int):=by
 obtain⟨b,ls,⟨lv,e,hl⟩,hz,K⟩:=h;simp only[Value.agg.injEq,Array.mk.injEq,List.cons.injEq,Value.bool.injEq,and_true]at e;obtain⟨rfl,rfl⟩:=e;exact⟨_,ls,⟨_,rfl,hl⟩,by rw[<-hz,vg];rfl,K⟩
theorem te{v:Value}(F:Old S w)(h:gG w S v k z)(K:k<=40000000):
  eH PG GT.o6 #[v] w (eR w fun v' Y=>∃Z,eS Y (Nf w Y) v' Z/\EO Z (2*k) z):=by
 obtain⟨b,ls,D,hz,hl⟩:=h;have QO:Lm ls:=by obtain⟨_,_,h⟩:=D;exact h.lm
 refine(Kx F D be).mono fun _ Y ⟨v2,e1,e2,e3⟩=>⟨v2,e1,e2,_,e3,by rw[GV,aCR,hz],by rw[jN];omega,Ca (aDP b) QO,fun h0=>?_⟩
 cases b with
 |false=>exact fun c hc=>(AQ QO c hc).1
 |true=>
  rw[aAj]at hz;exact fun c hc=>by rw[EP _ (show val ls=0 by omega) c hc];decide
theorem Ky{v:Value}(F:Old S w)(h:eS w S v Z)(hb:EO Z n z)(W:n<=100000000):
  eH PG GT.lT #[v] w (eR w fun v' Y=>db Y (Nf w Y) v' z):=by
 have:=zQ F h (fun c hc=>by have:=hb.2.2.1 c hc;omega) (by have:=hb.2.1;omega);rw[hb.1]at this;exact this
theorem aBY{v:Value}(F:Old S w)(U:gG w S v k x)(K:k<=40000000):
  eH PG GT.FD #[v] w (eR w fun v' Y=>db Y (Nf w Y) v' x):=by
 have V:=bR w;replace U:=U.cP (S':=Cv S w.heap.size []) fun _ h=>.inl h;obtain⟨b1,a1,n1,c1,rfl⟩:=U.shape;refine Gb bv ?_;refine cQ (cE V (fun _ J v Y=>∃Z,eS Y (Nf J Y) v Z/\EO Z (2*k) (x)) (fun O J r=>te (rlo r F) (U.rel r F) be) ?_);rintro O _ _ _ PA r L V E ⟨Z,k1,bcs⟩;have hc:=k1.cP (nw r E);obtain⟨acs,ccs,rfl,lcs⟩:=hc.shape;refine cQ (cE V (pR db (x)) (fun O J r=>Ky (rlo r oF) (hc.rel r oF) bcs be) ?_);rintro O _ _ _ Oy r L V E W;have hC:=W.cP (nw r E);obtain⟨A0,A1,A2,A3,rfl⟩:=hC.shape;exact rtn V fun J8 we re=>hC.out re oF
theorem nR{v:Value}(F:Old S w)(U:gG w S v k x)(K:k<=40000000):
  eH PG GT.zz #[v] w (eR w fun v' Y=>db Y (Nf w Y) v' (-x)):=by
 have V:=bR w;replace U:=U.cP (S':=Cv S w.heap.size []) fun _ h=>.inl h;obtain⟨b1,a1,n1,c1,rfl⟩:=U.shape;replace U:=U.neg;refine DH bv ?_;refine cQ (cE V (pR db (-x)) (fun O J r=>aBY (rlo r F) (U.rel r F) K) ?_);rintro O _ _ _ PA r L V E W;have hC:=W.cP (nw r E);obtain⟨A0,A1,A2,A3,rfl⟩:=hC.shape;exact rtn V fun J8 we re=>hC.out re oF
theorem BP{v:Value}(F:Old S w)(U:gG w S v k x)(K:k<=40000000):
  eH PG GT.Ck #[v] w (eR w fun v' Y=>db Y (Nf w Y) v' ((x.natAbs:Int))):=by
 have V:=bR w;replace U:=U.cP (S':=Cv S w.heap.size []) fun _ h=>.inl h;obtain⟨b1,a1,n1,c1,rfl⟩:=U.shape;replace U:=U.abs;refine Dx bv ?_;refine cQ (cE V (pR db ((x.natAbs:Int))) (fun O J r=>aBY (rlo r F) (U.rel r F) K) ?_);rintro O _ _ _ PA r L V E W;have hC:=W.cP (nw r E);obtain⟨A0,A1,A2,A3,rfl⟩:=hC.shape;exact rtn V fun J8 we re=>hC.out re oF
theorem aCd{v:Value}{i:Nat}(F:Old S w)(h:eS w S v Z):
  eH PG GT.I4 #[v,iV i] w (eR w fun v' _=>v'=iV (Z.getD i 0)):=by
 obtain⟨a,c,rfl,hc⟩:=h.shape;refine I7 bv ?_;apply bS<;>intro D
 .have D:=dL D;obtain⟨x,U⟩:=gO Z i;obtain⟨ad,rfl,q1,q2⟩:=h.load U;refine⟨ad,rfl,be,iV x,fun O J r=>?_,?_⟩
  .rw[aF];exact kg F ju.refl r q1 q2
  intro O Y r;exact⟨_,rfl,r.cZ,by rw[List.getD,U];rfl⟩
 .have D:Z.length<=i:=by
   have:¬i<Z.length:=by simpa using D
   omega
  intro O Y r;exact⟨_,rfl,r.cZ,by rw[List.getD,List.getElem?_eq_none D];rfl⟩
theorem val_zero(h:∀x∈ls,x=0):val ls=0:=by
 induction ls with
 |nil=>rfl
 |cons l r ih=>rw[val,h l aH,ih fun x U=>h x (aB _ U)]
theorem aCS{x:Nat}(h:x∈ls)(U:x≠0):0<val ls:=by
 induction ls with
 |nil=>cases h
 |cons l r ih=>
  rw[val];rcases List.mem_cons.1 h with rfl|h
  .omega
  .have:=ih h;omega
theorem iK{v:Value}(F:Old S w)(U:kX w S v x):
  eH PG GT.Ch #[v] w (eR w fun v' _=>v'=iV x.sign):=by
 obtain⟨b,ls,⟨lv,rfl,I⟩,hz⟩:=U;obtain⟨a,c,rfl,_,ha⟩:=I.sl;have hle1:=I.le;refine Dv bv ?_
 refine⟨Nat×World,fun z=>⟨[(1,pP 0 0),(3,iZ z.1)],[(0,.box T.Int [.v (.bool b),.v (.slice a ls.length c)])],1,[],z.2⟩,fun z=>ls.length-z.1,
  fun z=>z.1<=ls.length/\Bq w z.2/\∀x∈ls.take z.1,x=0,?_,?_⟩
 .intro O J r;exact⟨(0,J),⟨bv,r.cZ,bv⟩,sbgn [] r⟩
 rintro⟨i,w1⟩ ⟨D,V,ht⟩;dsimp only at D V ht ⊢;apply bS<;>intro Ou
 .have Ou:=dL Ou;obtain⟨y,hy⟩:=gO ls i;obtain⟨ad,rfl,q1,q2⟩:=ha i y hy;refine⟨ad,rfl,be,.int .u32 y,fun O J r=>by rw[aF,aZ];exact kg F V r q1 q2,?_⟩;apply bS<;>intro Ox
  .have Ox:y≠0:=fun h=>by rw[h]at Ox;simp at Ox
   have hp:=aCS (aC hy) Ox
   cases b with
   |true=>
    rw[aAj]at hz;intro O Y r;exact⟨_,rfl,V.tr r.cZ,by rw[cD be];rfl⟩
   |false=>
    rw[aDH]at hz;intro O Y r;exact⟨_,rfl,V.tr r.cZ,by rw[cG be];rfl⟩
  have Ox:y=0:=by simpa using Ox
  subst Ox;have TR:∀x∈ls.take (i+1),x=0:=fun x U=>by
   rw[bB,hy]at U;rcases bG.1 U with U|U
   .exact ht x U
   .simpa using U
  refine inc i ?_;intro I' w3 R;exact⟨(i+1,w3),⟨Ou,V.tr R.cZ,TR⟩,sbgn [] R,dec Ou⟩
 have Ou:i=ls.length:=by
  have:¬i<ls.length:=by simpa using Ou
  omega
 subst Ou;rw[bN]at ht;intro O Y r;refine⟨_,rfl,V.tr r.cZ,?_⟩;rw[<-hz,val_zero ht]
 cases b<;>rfl
theorem EO.at(h:EO Z n z)(i:Nat): -65535<=Z.getD i 0/\Z.getD i 0<=65535:=by
 rw[List.getD]
 cases hj:Z[i]? with
 |none=>simp
 |some d=>exact h.2.2.1 d (aC hj)
end Go.Ex
namespace Go.Sx
open Go Go.Ex Go.Proofs
variable{Z:List Int}{O:Nat->Sx.eG}
theorem Rel.aCT{H:Hp}{nx:Nat}{iv:Iv}{B:Nat}{w J:World}(r:Rel H nx iv B w O J){id m:Nat}(h:dU H id=some (.vec T.int 1 (Z.map (Value.int .i64))))(hm:m=Z.length)(hl:m<=maxLen):
  ∃S',Old S' J/\eS J S' ((SV.o (.w id m)).den O) Z:=by
 have Ov:=r.HJ (m:=m) h (by rw[aL,hm,aZ]) bi;exact⟨_,fun g X=>(ownsRow.low Ov g X).2,tc Ov hm hl⟩
end Go.Sx
namespace Go.Ex
open Go Go.Sx Go.Proofs
section
variable{x y:Int}{Z:List Int}{k:Nat}{S:Nat->Prop}{O:Nat->Sx.eG}{u:Value}{w:World}
theorem oc{H:Hp}{nx:Nat}{iv:Iv}{B:Nat}{J:World}(r:Rel H nx iv B w O J){id m:Nat}{z:Int}(h:dU H id=some (.vec T.int 1 (Z.map (Value.int .i64))))(hm:m=Z.length)(hl:m<=100000000)
  (hb:∀c∈Z,-1152921504606846976<=c/\c<=1152921504606846976) (hz:dg Z=z):eH PG GT.lT #[(SV.o (.w id m)).den O] J (eR J fun v' Y=>db Y (Nf J Y) v' z):=by
 subst hz;obtain⟨S',I,G⟩:=r.aCT h hm mx;exact zQ I G hb be
theorem D9{v:Value}{l:Nat}(F:Old S w)(U:gG w S v k x)(hy:gG w S u l y)(K:k<=10000000)(hl:l<=10000000):
  eH PG GT.FA #[v,u] w (eR w fun v' Y=>db Y (Nf w Y) v' (x+y)):=by
 have V:=bR w;replace U:=U.cP (S':=Cv S w.heap.size []) fun _ h=>.inl h;replace hy:=hy.cP (S':=Cv S w.heap.size []) fun _ h=>.inl h;obtain⟨b1,a1,n1,c1,rfl⟩:=U.shape;obtain⟨b2,a2,n2,c2,rfl⟩:=hy.shape;refine G8 bv ?_;refine dP [.x 0,.x 2,.x 1,.x 3,.x 4,.x 5] ?_;refine cE V (fun _ J v Y=>∃Z,eS Y (Nf J Y) v Z/\EO Z (2*k) (x)) (fun O J r=>te (rlo r F) (U.rel r F) be) ?_;rintro O _ _ _ PA r L V E ⟨ca,k1,bca⟩;replace hy:=hy.cS r F L (mC E);have QE:=k1.cP (nw r E);obtain⟨aca,cca,rfl,lca⟩:=QE.shape;refine cE V (fun _ J v Y=>∃Z,eS Y (Nf J Y) v Z/\EO Z (2*l) (y)) (fun O J r=>te (rlo r F) (hy.rel r F) be) ?_;rintro O _ _ _ Oy r L V E ⟨cb,k1,bcb⟩;replace QE:=QE.cS r oF L (mC E);have Pk:=k1.cP (nw r E);obtain⟨acb,ccb,rfl,lcb⟩:=Pk.shape
 refine⟨Nat×World×Iv,fun z=>⟨[(4,pP 2 0),(5,sV aca ca.length cca),(6,sV acb cb.length ccb),(7,.o (.w 3 z.1)),(8,iZ z.1)],[(3,.vec T.int 1 (((List.range z.1).map fun j=>ca.getD j 0+cb.getD j 0).map (Value.int .i64))),(2,.box T.Int [.v (.bool false),.v nls])],4,z.2.2,z.2.1⟩,fun z=>max ca.length cb.length-z.1,
  fun z=>z.1<=max ca.length cb.length/\Bq w z.2.1/\eS z.2.1 (Cf w z.2.2) (.slice aca ca.length cca) ca/\eS z.2.1 (Cf w z.2.2) (.slice acb cb.length ccb) cb,?_,?_⟩
 .intro O J r
  exact⟨(0,J,Oy),⟨bv,V.tr r.cZ,QE.rel r oF,Pk.rel r oF⟩,Sub.nil 7 T.int 1 rfl (by simp[kK,SV.sc,At.sc,fc]) r fun In r1=>
   sbgn [] r1⟩
 rintro⟨i,w1,iv⟩ ⟨D,V,QE,Pk⟩;dsimp only at D V QE Pk ⊢;have l1:=bca.2.1;have l2:=bcb.2.1;apply bS<;>intro Ou
 .have Ou:i<max ca.length cb.length:=by
   have:=aK Ou;omega
  have q1:=bca.at i;have q2:=bcb.at i;refine cQ (cE V (pE (iV (ca.getD i 0))) (fun O J r=>aCd (rlo r oF) (QE.rel r oF)) ?_);rintro O QD v3 QC PH r L V E rfl;replace QE:=QE.cS r oF L (mC E);replace Pk:=Pk.cS r oF L (mC E);refine cQ (cE V (pE (iV (cb.getD i 0))) (fun O J r=>aCd (rlo r oF) (Pk.rel r oF)) ?_);rintro O _ _ _ PV r L V E rfl;replace QE:=QE.cS r oF L (mC E);replace Pk:=Pk.cS r oF L (mC E);refine⟨ca.getD i 0+cb.getD i 0,wo,?_⟩;refine .inl ?_;refine⟨bv,be,mx,((i+1:Nat):Int),wo,?_⟩;intro I' w3 R;have VH:((List.range (i+1)).map fun j=>ca.getD j 0+cb.getD j 0).map (Value.int .i64)=((List.range i).map fun j=>ca.getD j 0+cb.getD j 0).map (Value.int .i64)++[iV (ca.getD i 0+cb.getD i 0)]:=by
   rw[bU,a9,a9];rfl
  exact⟨(i+1,w3,_),⟨Ou,V.tr R.cZ,QE.rel R oF,Pk.rel R oF⟩,sbgn [(3,5)] R ⟨by dsimp only;rw[VH];rfl,rfl,trivial⟩,dec Ou⟩
 have Ou:i=max ca.length cb.length:=by
  have:=aG Ou;omega
 generalize PT:((List.range i).map fun j=>ca.getD j 0+cb.getD j 0)=Z;have hz:dg Z=x+y:=by
  rw[<-PT,CY,CZ,ry ca i be,ry cb i be,bca.1,bcb.1]
 have hlen:i=Z.length:=by rw[<-PT];simp
 have Pm:∀c∈Z,-1152921504606846976<=c/\c<=1152921504606846976:=fun c hc=>by
  rw[<-PT]at hc;obtain⟨j,_,rfl⟩:=aV.1 hc;have:=bca.at j;have:=bcb.at j;omega
 refine cQ (cE V (pR db (x+y)) (fun O J r=>oc r rfl hlen be Pm hz) ?_);rintro O _ _ _ PH r L V E W;have hC:=W.cP (nw r E);obtain⟨A0,A1,A2,A3,rfl⟩:=hC.shape;exact rtn V fun J8 we re=>hC.out re oF
theorem HL{v:Value}{l:Nat}(F:Old S w)(U:gG w S v k x)(hy:gG w S u l y)(K:k<=10000000)(hl:l<=10000000):
  eH PG GT.Cl #[v,u] w (eR w fun v' Y=>db Y (Nf w Y) v' (x-y)):=by
 have RL:=hy.ln;have V:=bR w;replace U:=U.cP (S':=Cv S w.heap.size []) fun _ h=>.inl h;replace hy:=hy.cP (S':=Cv S w.heap.size []) fun _ h=>.inl h;obtain⟨b1,a1,n1,c1,rfl⟩:=U.shape;obtain⟨b2,a2,n2,c2,rfl⟩:=hy.shape;refine Dy bv ?_;refine dP (idO 5) ?_;refine cE V (pR db (-y)) (fun O J r=>nR (rlo r F) (hy.rel r F) be) ?_;rintro O _ _ _ PA r L V E W;replace U:=U.cS r F L (mC E);have hm:=W.cP (nw r E);obtain⟨A0,A1,A2,A3,rfl⟩:=hm.shape;refine cE V (pR db (x-y)) (fun O J r=>?_) ?_
 .have h:=D9 (rlo r F) (U.rel r F) (((hm.rel r oF).l (k:=l) (by rw[cO];exact RL)).cP fun g X=>Cv.false X) K hl;rw[<-Int.sub_eq_add_neg]at h;exact h
 rintro O _ _ _ Oy r L V E W;have hC:=W.cP (nw r E);obtain⟨C0,C1,C2,C3,rfl⟩:=hC.shape;exact rtn V fun J8 we re=>hC.out re oF
theorem Nr{v:Value}{l:Nat}(F:Old S w)(U:gG w S v k x)(hy:gG w S u l y)(K:k<=10000000)(hl:l<=10000000):
  eH PG GT.xO #[v,u] w (eR w fun v' _=>v'=iV (x-y).sign):=by
 have V:=bR w;replace U:=U.cP (S':=Cv S w.heap.size []) fun _ h=>.inl h;replace hy:=hy.cP (S':=Cv S w.heap.size []) fun _ h=>.inl h;obtain⟨b1,a1,n1,c1,rfl⟩:=U.shape;obtain⟨b2,a2,n2,c2,rfl⟩:=hy.shape;refine Ak bv ?_;refine cQ (cE V (pR db (x-y)) (fun O J r=>HL (rlo r F) (U.rel r F) (hy.rel r F) K hl) ?_);rintro O _ _ _ PA r L V E W;have hd:=W.cP (nw r E);obtain⟨A0,A1,A2,A3,rfl⟩:=hd.shape;refine cQ (cE V (pE (iV (x-y).sign)) (fun O J r=>iK (rlo r oF) (hd.rel r oF).r) ?_);rintro O _ _ _ Oy r L V E rfl;exact rtn V fun J8 we re=>rfl
end
variable{S:Nat->Prop}
theorem Ns{x y:Int}(U: -65535<=x/\x<=65535)(hy: -65535<=y/\y<=65535):(x*y).natAbs<=4294836225:=by
 rw[Int.natAbs_mul];exact Nat.mul_le_mul (show x.natAbs<=65535 by omega) (show y.natAbs<=65535 by omega)
theorem Fh{a b:List Int}{i k:Nat}(K:k<=i+1)(h:i<k\/a.length<=k):jX a b i k=gp a b i:=by
 rcases h with h|h
 .rw[gp,show i+1=k by omega]
 .obtain⟨m,hm⟩:∃m,i+1=k+m:=⟨i+1-k,be⟩
  rw[gp,hm,KH a b i k m h]
theorem jK{w:World}{v u:Value}{k l:Nat}{x y:Int}(F:Old S w)(U:gG w S v k x)(hy:gG w S u l y)(K:k<=10000000)(hl:l<=10000000):
  eH PG GT.Ci #[v,u] w (eR w fun v' Y=>db Y (Nf w Y) v' (x*y)):=by
 have V:=bR w;replace U:=U.cP (S':=Cv S w.heap.size []) fun _ h=>.inl h;replace hy:=hy.cP (S':=Cv S w.heap.size []) fun _ h=>.inl h;obtain⟨b1,a1,n1,c1,rfl⟩:=U.shape;obtain⟨b2,a2,n2,c2,rfl⟩:=hy.shape;refine Dw bv ?_;refine dP [.x 0,.x 2,.x 1,.x 3,.x 4,.x 5] ?_;refine cE V (fun _ J v Y=>∃Z,eS Y (Nf J Y) v Z/\EO Z (2*k) (x)) (fun O J r=>te (rlo r F) (U.rel r F) be) ?_;rintro O _ _ _ PA r L V E ⟨ca,k1,bca⟩;replace hy:=hy.cS r F L (mC E);have QE:=k1.cP (nw r E);obtain⟨aca,cca,rfl,lca⟩:=QE.shape;refine cE V (fun _ J v Y=>∃Z,eS Y (Nf J Y) v Z/\EO Z (2*l) (y)) (fun O J r=>te (rlo r F) (hy.rel r F) be) ?_;rintro O _ _ _ Oy r L V E ⟨cb,k1,bcb⟩;replace QE:=QE.cS r oF L (mC E);have Pk:=k1.cP (nw r E);obtain⟨acb,ccb,rfl,lcb⟩:=Pk.shape;have l1:=bca.2.1;have l2:=bcb.2.1
 refine⟨Nat×World,fun z=>⟨[(4,pP 2 0),(5,sV aca ca.length cca),(6,sV acb cb.length ccb),(7,.o (.w 3 z.1)),(8,iN z.1)],[(3,.vec T.int 1 (((List.range z.1).map (gp ca cb)).map (Value.int .i64))),(2,.box T.Int [.v (.bool false),.v nls])],4,Oy,z.2⟩,fun z=>ca.length+cb.length-z.1,
  fun z=>(z.1+1<=ca.length+cb.length\/z.1=0)/\Bq w z.2/\eS z.2 (Cf w Oy) (.slice aca ca.length cca) ca/\eS z.2 (Cf w Oy) (.slice acb cb.length ccb) cb,?_,?_⟩
 .intro O J r
  exact⟨(0,J),⟨bv,V.tr r.cZ,QE.rel r oF,Pk.rel r oF⟩,Sub.nil 7 T.int 1 rfl (by simp[kK,SV.sc,At.sc,fc]) r fun In r1=>
   sbgn [] r1⟩
 rintro⟨i,w1⟩ ⟨D,V,QE,Pk⟩;dsimp only at D V QE Pk ⊢;refine⟨((i+1:Nat):Int),wo,((ca.length+cb.length:Nat):Int),wo,?_⟩;apply bS<;>intro Ou
 .have Ou:i+1<ca.length+cb.length:=by
   have:=aK Ou;omega
  refine⟨(i:Int)-cb.length,wo,(i:Int)-cb.length+1,wo,?_⟩;conv=>whnf
  rw[show max 0 ((i:Int)-cb.length+1)=((i+1-cb.length:Nat):Int) by omega];obtain⟨k0,Sc⟩:∃k0,k0=i+1-cb.length:=⟨_,rfl⟩
  rw[<-Sc]
  refine⟨Nat×World,fun z=>⟨[(4,pP 2 0),(5,sV aca ca.length cca),(6,sV acb cb.length ccb),(7,.o (.w 3 i)),(8,iN i),(9,.o (.v (iV (jX ca cb i z.1)))),(10,iN z.1)],[(3,.vec T.int 1 (((List.range i).map (gp ca cb)).map (Value.int .i64))),(2,.box T.Int [.v (.bool false),.v nls])],4,Oy,z.2⟩,fun z=>i+1-z.1,
   fun z=>k0<=z.1/\z.1<=i+1/\Bq w z.2/\eS z.2 (Cf w Oy) (.slice aca ca.length cca) ca/\eS z.2 (Cf w Oy) (.slice acb cb.length ccb) cb,?_,?_⟩
  .intro O J r;refine⟨(k0,J),⟨bv,by dsimp only;omega,V.tr r.cZ,QE.rel r oF,Pk.rel r oF⟩,sbgn [] r (hE:=⟨rfl,rfl,rfl,rfl,rfl,?_,rfl,trivial⟩)⟩;dsimp only
   rw[KG ca cb i k0 k0 (fun j hj=>be) be lr];rfl
  rintro⟨j,Y⟩ ⟨hj0,hj1,V,QE,Pk⟩;dsimp only at hj0 hj1 V QE Pk ⊢;conv=>whnf
  apply bS<;>intro QL
  .have QL:j<=i:=by
    have:=aK QL;omega
   apply bS<;>intro hja
   .have hja:j<ca.length:=by
     have:=aK hja;omega
    obtain⟨p,hp⟩:=gO ca j;obtain⟨q,hq⟩:=gO cb (i-j);obtain⟨ad,rfl,q1,q2⟩:=QE.load hp;obtain⟨ad2,rfl,q3,q4⟩:=Pk.load hq;have e1:ca.getD j 0=p:=by rw[List.getD,hp];rfl
    have e2:cb.getD (i-j) 0=q:=by rw[List.getD,hq];rfl
    have e3:jX ca cb i (j+1)=jX ca cb i j+p*q:=by rw[jX,e1,aM QL,e2]
    have m1:=bca.at j;have m2:=bcb.at (i-j);rw[e1]at m1;rw[e2]at m2;have m3:=Ns m1 m2;have m4:=nk (a:=ca) (b:=cb) (i:=i) bca.2.2.1 bcb.2.2.1 j;refine dP (idO 14) ?_;refine⟨ad,rfl,be,iV p,fun O J r=>?_,?_⟩
    .rw[aF,cV (w:=Y) (Y:=J) (by rw[dO];exact rls (S:=FF) r oF q1)];exact q2
    refine⟨((i-j:Nat):Int),wo,ad2,rfl,be,iV q,fun O J r=>?_,?_⟩
    .rw[aF,cV (w:=Y) (Y:=J) (by rw[dO];exact rls (S:=FF) r oF q3)];exact q4
    refine⟨p*q,wo,jX ca cb i (j+1),by rw[e3,wrap64]<;>omega,((j+1:Nat):Int),wo,?_⟩;intro I' w3 R;exact⟨(j+1,w3),⟨by dsimp only;omega,by dsimp only;omega,V.tr R.cZ,QE.rel R oF,Pk.rel R oF⟩,sbgn [] R,by dsimp only;omega⟩
   have hja:ca.length<=j:=by
    have:=aG hja;omega
   rw[Fh hj1 (.inr hja)];have m4:=nk (a:=ca) (b:=cb) (i:=i) bca.2.2.1 bcb.2.2.1 (i+1);refine .inl ?_;refine⟨bv,be,mx,((i+1:Nat):Int),wo,?_⟩;intro I' w3 R;have VH:((List.range (i+1)).map (gp ca cb)).map (Value.int .i64)=((List.range i).map (gp ca cb)).map (Value.int .i64)++[iV (gp ca cb i)]:=by
    rw[bU,a9,a9];rfl
   exact⟨(i+1,w3),⟨.inl Ou,V.tr R.cZ,QE.rel R oF,Pk.rel R oF⟩,sbgn [(3,5)] R ⟨by dsimp only;rw[VH];rfl,rfl,trivial⟩,by dsimp only;omega⟩
  have QL:i<j:=by
   have:=aG QL;omega
  rw[Fh hj1 (.inl QL)];have m4:=nk (a:=ca) (b:=cb) (i:=i) bca.2.2.1 bcb.2.2.1 (i+1);refine .inl ?_;refine⟨bv,be,mx,((i+1:Nat):Int),wo,?_⟩;intro I' w3 R;have VH:((List.range (i+1)).map (gp ca cb)).map (Value.int .i64)=((List.range i).map (gp ca cb)).map (Value.int .i64)++[iV (gp ca cb i)]:=by
   rw[bU,a9,a9];rfl
  exact⟨(i+1,w3),⟨.inl Ou,V.tr R.cZ,QE.rel R oF,Pk.rel R oF⟩,sbgn [(3,5)] R ⟨by dsimp only;rw[VH];rfl,rfl,trivial⟩,by dsimp only;omega⟩
 have Ou:ca.length+cb.length<=i+1:=by
  have:=aG Ou;omega
 generalize PT:((List.range i).map (gp ca cb))=Z;have hz:dg Z=x*y:=by
  rw[<-PT,CY,aAU ca cb i Ou,bca.1,bcb.1]
 have hlen:i=Z.length:=by rw[<-PT];simp
 have Pm:∀c∈Z,-1152921504606846976<=c/\c<=1152921504606846976:=fun c hc=>by
  rw[<-PT]at hc;obtain⟨j,hj,rfl⟩:=aV.1 hc;have hj:=List.mem_range.1 hj;have:=nk (a:=ca) (b:=cb) (i:=j) bca.2.2.1 bcb.2.2.1 (j+1);rw[gp];omega
 refine cQ (cE V (pR db (x*y)) (fun O J r=>oc r rfl hlen be Pm hz) ?_);rintro O _ _ _ PH r L V E W;have hC:=W.cP (nw r E);obtain⟨A0,A1,A2,A3,rfl⟩:=hC.shape;exact rtn V fun J8 we re=>hC.out re oF
end Go.Ex
namespace Go.Ex
theorem M5{b r r2 q C8 n c:Int}(h:C8=b*q+r)(hr:r*65536+c=b*n+r2):c+65536*C8=b*(n+65536*q)+r2:=by
 rw[h,Int.mul_add,Int.mul_add,Int.mul_left_comm b 65536 q];omega
theorem OO{x y Q Fn:Int}(hy:y≠0)(h:(x.natAbs:Int)=(y.natAbs:Int)*Q+Fn)(h0:0<=Fn)(I:Fn<(y.natAbs:Int)):
  (if x<0/\0<Fn then(if (x<0)↔(y<0)then(Q+1)else -(Q+1))else(if (x<0)↔(y<0)then Q else -Q))=x / y/\(if x<0/\0<Fn then(y.natAbs:Int)-Fn else Fn)=x % y:=by
 have key:∀q r:Int,r+y*q=x->0<=r->r<(y.natAbs:Int)->q=x / y/\r=x % y:=by
  intro q r e1 e2 e3;have m:x % y=r:=by
   rw[<-e1,Int.add_mul_emod_self_left];rcases Int.lt_or_lt_of_ne hy with h|h
   .rw[<-Int.emod_neg,Int.emod_eq_of_lt e2 be]
   .exact Int.emod_eq_of_lt e2 be
  have d:=Int.mul_ediv_add_emod x y;rw[m]at d;exact⟨(Int.eq_of_mul_eq_mul_left hy be),m.symm⟩
 by_cases U:x<0
 .have ex:(x.natAbs:Int)= -x:=by omega
  by_cases hy':y<0
  .have ey:(y.natAbs:Int)= -y:=by omega
   rw[ex,ey,Int.neg_mul]at h;by_cases hR:0<Fn
   .rw[aM (show x<0/\0<Fn from⟨U,hR⟩),aM (show x<0/\0<Fn from⟨U,hR⟩),aM (show (x<0)↔(y<0) by simp[U,hy'])];exact key _ _ (by rw[Int.mul_add,Int.mul_one];omega) be be
   .rw[aJ (show ¬(x<0/\0<Fn) by omega),aJ (show ¬(x<0/\0<Fn) by omega),aM (show (x<0)↔(y<0) by simp[U,hy'])];exact key _ _ be h0 I
  .have ey:(y.natAbs:Int)=y:=by omega
   rw[ex,ey]at h;have W:¬((x<0)↔(y<0)):=by simp[U,hy']
   by_cases hR:0<Fn
   .rw[aM (show x<0/\0<Fn from⟨U,hR⟩),aM (show x<0/\0<Fn from⟨U,hR⟩),aJ W];exact key _ _ (by rw[Int.mul_neg,Int.mul_add,Int.mul_one];omega) be be
   .rw[aJ (show ¬(x<0/\0<Fn) by omega),aJ (show ¬(x<0/\0<Fn) by omega),aJ W];exact key _ _ (by rw[Int.mul_neg];omega) h0 I
 .have ex:(x.natAbs:Int)=x:=by omega
  rw[aJ (show ¬(x<0/\0<Fn) by omega),aJ (show ¬(x<0/\0<Fn) by omega)];by_cases hy':y<0
  .have ey:(y.natAbs:Int)= -y:=by omega
   rw[ex,ey,Int.neg_mul]at h;rw[aJ (show ¬((x<0)↔(y<0)) by simp[U,hy'])];exact key _ _ (by rw[Int.mul_neg];omega) h0 I
  .have ey:(y.natAbs:Int)=y:=by omega
   rw[ex,ey]at h;rw[aM (show (x<0)↔(y<0) by simp[U,hy'])];exact key _ _ be h0 I
theorem gh(z:Int):(z<0/\z.sign= -1)\/(z=0/\z.sign=0)\/(0<z/\z.sign=1):=by
 rcases Int.lt_trichotomy z 0 with h|h|h
 .exact .inl ⟨h,cD h⟩
 .exact .inr (.inl ⟨h,by rw[h];rfl⟩)
 .exact .inr (.inr ⟨h,cG h⟩)
end Go.Ex
namespace Go.Ex
open Go Go.Sx Go.Proofs
variable{x y:Int}{M:List (List Rat)}{Q:List Int}{k:Nat}{S:Nat->Prop}{a:Option Addr}{p q:Rat}{u:Value}{w:World}
def aB0:Value:=.agg #[.bool false,nls]
theorem db.nil(w:World)(S:Nat->Prop):db w S (.agg #[.bool false,nls]) 0:=⟨[],⟨_,rfl,dc.nil _ _⟩,fun x h=>by simp at h,rfl⟩
theorem aDz(h:∀c∈Q,0<=c/\c<=65535):0<=dg Q:=by
 induction Q with
 |nil=>exact Int.le_refl _
 |cons c r ih=>
  have I:=h c aH;have G:=ih fun x U=>h x (aB _ U);rw[dg];omega
theorem Da{n:Int}(h:0<=n)(G:n<4294967296):ln n.natAbs<=1:=gg.2 (by show n.natAbs<4294967296^1;omega)
theorem Nt{v:Value}{l:Nat}(F:Old S w)(U:gG w S v k x)(hy:gG w S u l y)(K:k<=1000000)(hl:l<=1000000):
  eH PG GT.qK #[v,u] w (eR w fun v' Y=>(y=0/\v'= .tuple #[aB0,aB0,iV 9])\/(y≠0/\∃q r,v'= .tuple #[q,r,iV 0]/\db Y (Nf w Y) q (x / y)/\db Y (Nf w Y) r (x % y))):=by
 have V:=bR w;replace U:=U.cP (S':=Cv S w.heap.size []) fun _ h=>.inl h;replace hy:=hy.cP (S':=Cv S w.heap.size []) fun _ h=>.inl h;obtain⟨b1,a1,n1,c1,rfl⟩:=U.shape;obtain⟨b2,a2,n2,c2,rfl⟩:=hy.shape;refine Af bv ?_;have RL:=hy.ln;refine cQ (cE V (pE (iV y.sign)) (fun O J r=>iK (rlo r F) (hy.rel r F).r) ?_);rintro O _ _ _ PA r L V E rfl;replace U:=U.cS r F L (mC E);replace hy:=hy.cS r F L (mC E);apply bS<;>intro Q8
 .have Q8:y=0:=by rcases gh y with h|h|h<;>simp[h]at Q8 ⊢
  exact rtn V fun J8 we re=>.inl ⟨Q8,rfl⟩
 have Q8:y≠0:=fun e=>by rw[e]at Q8;simp at Q8
 refine dP [.x 0,.x 3,.p 5,.x 1,.x 2,.x 4,.x 5,.x 6,.x 7] ?_;refine cE V (pR db ((x.natAbs:Int))) (fun O J r=>BP (rlo r F) (U.rel r F) be) ?_;rintro O _ _ _ Oy r L V E W;replace U:=U.cS r F L (mC E);replace hy:=hy.cS r F L (mC E);have hsx:=W.cP (nw r E);obtain⟨A0,A1,A2,A3,rfl⟩:=hsx.shape;have Pq:=U.ln;refine cE V (fun _ J v Y=>∃Z,eS Y (Nf J Y) v Z/\EO Z (2*k) ((x.natAbs:Int))) (fun O J r=>te (rlo r oF) ((hsx.rel r oF).l (k:=k) (by rw[Int.natAbs_natCast];exact Pq)) be) ?_;rintro O _ _ _ PH r L V E ⟨ca,k1,bca⟩;replace U:=U.cS r F L (mC E);replace hy:=hy.cS r F L (mC E);have QE:=k1.cP (nw r E);obtain⟨aca,cca,rfl,lca⟩:=QE.shape;refine cE V (pR db ((y.natAbs:Int))) (fun O J r=>BP (rlo r F) (hy.rel r F) be) ?_;rintro O _ _ _ PV r L V E W;replace U:=U.cS r F L (mC E);replace hy:=hy.cS r F L (mC E);replace QE:=QE.cS r oF L (mC E);have PO:=W.cP (nw r E);obtain⟨C0,C1,C2,C3,rfl⟩:=PO.shape;generalize hB:(y.natAbs:Int)=B at*
 have l1:=bca.2.1;have hB0:0<B:=by omega
 have lB:ln B.natAbs<=l:=by rw[<-hB,Int.natAbs_natCast];exact RL
 refine⟨(ca.length:Int)-1,wo,Nat×List Int×Int×(Bool×Option Addr×Nat×Nat)×World×Iv,fun z=>⟨[(2,pP 0 0),(3,pP 1 0),(4,pP 2 0),(5,pP 3 0),(6,iZ 0),(7,sV aca ca.length cca),(8,pP 4 0),(9,.o (.w 6 z.2.1.length)),(10,pP 5 0),(11,.o (.v (iV ((z.1:Int)-1))))],[(6,.vec T.int 1 (z.2.1.map (Value.int .i64))),(5,.box T.Int [.v (.bool z.2.2.2.1.1),.v (.slice z.2.2.2.1.2.1 z.2.2.2.1.2.2.1 z.2.2.2.1.2.2.2)]),(4,.box T.Int [.v (.bool C0),.v (.slice C1 C2 C3)]),(3,.box T.Int [.v (.bool false),.v nls]),(2,.box T.Int [.v (.bool false),.v nls]),(1,.box T.Int [.v (.bool b2),.v (.slice a2 n2 c2)]),(0,.box T.Int [.v (.bool b1),.v (.slice a1 n1 c1)])],7,z.2.2.2.2.2,z.2.2.2.2.1⟩,fun z=>z.1,
  fun z=>z.1<=ca.length/\z.2.1.length+z.1=ca.length/\(∀c∈z.2.1,0<=c/\c<=65535)/\dg (ca.drop z.1)=B*dg z.2.1+z.2.2.1/\0<=z.2.2.1/\z.2.2.1<B/\Bq w z.2.2.2.2.1/\gG z.2.2.2.2.1 (Cv S w.heap.size z.2.2.2.2.2) (.agg #[.bool b1,.slice a1 n1 c1]) k x/\gG z.2.2.2.2.1 (Cv S w.heap.size z.2.2.2.2.2) (.agg #[.bool b2,.slice a2 n2 c2]) l y/\eS z.2.2.2.2.1 (Cf w z.2.2.2.2.2) (.slice aca ca.length cca) ca/\db z.2.2.2.2.1 (Cf w z.2.2.2.2.2) (.agg #[.bool C0,.slice C1 C2 C3]) B/\db z.2.2.2.2.1 (Cf w z.2.2.2.2.2) (.agg #[.bool z.2.2.2.1.1,.slice z.2.2.2.1.2.1 z.2.2.2.1.2.2.1 z.2.2.2.1.2.2.2]) z.2.2.1,?_,?_⟩
 .intro O J r
  exact⟨(ca.length,[],0,(false,none,0,0),J,PV),⟨lr,bv,bv,by simp[dg],Int.le_refl _,hB0,V.tr r.cZ,U.rel r F,hy.rel r F,QE.rel r oF,PO.rel r oF,db.nil _ _⟩,Sub.nil 9 T.int 1 rfl (by simp[kK,SV.sc,At.sc]) r fun In r1=>
   sbgn [] r1⟩
 rintro⟨j,Q,Fn,⟨br,ar,nr,cr⟩,w1,iv⟩ ⟨hj,hQ,hd,hv,hR0,Vc,V,U,hy,QE,PO,hr⟩;dsimp only at hj hQ hd hv hR0 Vc V U hy QE PO hr ⊢;apply bS<;>intro Ou
 .obtain⟨i,rfl⟩:∃i,j=i+1:=⟨j-1,by have:(j:Int)-1≥0:=aK Ou;omega⟩
  rw[show ((i+1:Nat):Int)-1=(i:Int) by omega];obtain⟨d,Rh⟩:=gO ca i;have Yq:=bca.2.2.1 d (aC Rh);have Pc:=bca.2.2.2 be d (aC Rh);have lR:ln Fn.natAbs<=l:=aX (fq be) lB;have lU:ln (65536:Int).natAbs<=1:=by decide
  have m1:=dR Fn 65536;have m2:=Da (n:=d) Pc be;have m3:=j9 (Fn*65536) d;refine dP [.x 0,.x 3,.x 4,.x 5,.x 6,.x 1,.x 2,.x 7,.x 8,.x 9] ?_;obtain⟨ad,ha0,q1,q2⟩:=QE.load Rh;refine⟨ad,ha0,be,iV d,fun O J r=>?_,?_⟩
  .rw[aF,cV (w:=w1) (Y:=J) (by rw[dO];exact rls (S:=FF) r oF q1)];exact q2
  refine cE V (pR db (65536)) (fun O J r=>mO _ J bi bi) ?_;rintro O SZ v5 SP Qk r L V E W;replace U:=U.cS r F L (mC E);replace hy:=hy.cS r F L (mC E);replace QE:=QE.cS r oF L (mC E);replace PO:=PO.cS r oF L (mC E);replace hr:=hr.cS r oF L (mC E);have hu:=W.cP (nw r E);obtain⟨F0,F1,F2,F3,rfl⟩:=hu.shape;refine cE V (pR db (Fn*65536)) (fun O J r=>jK (rlo r oF) ((hr.rel r oF).l (k:=1000001) be) ((hu.rel r oF).l (k:=1000001) be) be be) ?_;rintro O Rv v6 Rk RM r L V E W;replace U:=U.cS r F L (mC E);replace hy:=hy.cS r F L (mC E);replace QE:=QE.cS r oF L (mC E);replace PO:=PO.cS r oF L (mC E);have hp:=W.cP (nw r E);obtain⟨J0,J1,J2,J3,rfl⟩:=hp.shape;refine cE V (pR db (d)) (fun O J r=>mO _ J be be) ?_;rintro O Ta v7 Tb Rj r L V E W;replace U:=U.cS r F L (mC E);replace hy:=hy.cS r F L (mC E);replace QE:=QE.cS r oF L (mC E);replace PO:=PO.cS r oF L (mC E);replace hp:=hp.cS r oF L (mC E);have YG:=W.cP (nw r E);obtain⟨K0,K1,K2,K3,rfl⟩:=YG.shape;refine cE V (pR db (Fn*65536+d)) (fun O J r=>D9 (rlo r oF) ((hp.rel r oF).l (k:=1000002) be) ((YG.rel r oF).l (k:=1000002) be) be be) ?_;rintro O Sv v8 TN R5 r L V E W;replace U:=U.cS r F L (mC E);replace hy:=hy.cS r F L (mC E);replace QE:=QE.cS r oF L (mC E);replace PO:=PO.cS r oF L (mC E);have hr:=W.cP (nw r E);obtain⟨N0,N1,N2,N3,rfl⟩:=hr.shape;generalize Q5:Fn*65536+d=R2 at*
  have hR20:0<=R2:=by omega
  have hR21:R2<65536*B:=by omega
  refine⟨Nat×Nat×Nat×World×Iv,fun z=>⟨[(2,pP 0 0),(3,pP 1 0),(4,pP 2 0),(5,pP 3 0),(6,iZ 0),(7,sV aca ca.length cca),(8,pP 4 0),(9,.o (.w 6 Q.length)),(10,pP 5 0),(11,.o (.v (iV ((i:Int))))),(12,iN z.1),(13,iN z.2.2.1)],[(6,.vec T.int 1 (Q.map (Value.int .i64))),(5,.box T.Int [.v (.bool N0),.v (.slice N1 N2 N3)]),(4,.box T.Int [.v (.bool C0),.v (.slice C1 C2 C3)]),(3,.box T.Int [.v (.bool false),.v nls]),(2,.box T.Int [.v (.bool false),.v nls]),(1,.box T.Int [.v (.bool b2),.v (.slice a2 n2 c2)]),(0,.box T.Int [.v (.bool b1),.v (.slice a1 n1 c1)])],7,z.2.2.2.2,z.2.2.2.1⟩,fun z=>z.2.1,
   fun z=>z.2.2.1=2^z.2.1 / 2/\z.1+2^z.2.1<=65536/\((z.1:Nat):Int)*B<=R2/\R2<((z.1+2^z.2.1:Nat):Int)*B/\Bq w z.2.2.2.1/\gG z.2.2.2.1 (Cv S w.heap.size z.2.2.2.2) (.agg #[.bool b1,.slice a1 n1 c1]) k x/\gG z.2.2.2.1 (Cv S w.heap.size z.2.2.2.2) (.agg #[.bool b2,.slice a2 n2 c2]) l y/\eS z.2.2.2.1 (Cf w z.2.2.2.2) (.slice aca ca.length cca) ca/\db z.2.2.2.1 (Cf w z.2.2.2.2) (.agg #[.bool C0,.slice C1 C2 C3]) B/\db z.2.2.2.1 (Cf w z.2.2.2.2) (.agg #[.bool N0,.slice N1 N2 N3]) R2,?_,?_⟩
  .intro O J r
   exact⟨(0,16,32768,J,R5),⟨by show 32768=2^16 / 2;decide,by show 0+2^16<=65536;decide,by dsimp only;omega,by dsimp only;rw[show ((0+2^16:Nat):Int)=65536 from rfl];exact hR21,V.tr r.cZ,U.rel r F,hy.rel r F,QE.rel r oF,PO.rel r oF,hr.rel r oF⟩,
    sbgn [] r⟩
  rintro⟨n,e,bit,w5,iv⟩ ⟨hn0,UZ,R7,XV,V,U,hy,QE,PO,hr⟩;dsimp only at hn0 UZ R7 XV V U hy QE PO hr ⊢;apply bS<;>intro Vt
  .have Vt:0<2^e / 2:=by have:((bit:Nat):Int)>0:=aK Vt;omega
   obtain⟨f,rfl⟩:∃f,e=f+1:=by
    cases e with
    |zero=>exact absurd Vt bi
    |succ f=>exact⟨f,rfl⟩
   have e1:2^(f+1)=2*2^f:=by rw[Nat.pow_succ];omega
   have e2:2^(f+1) / 2=2^f:=by omega
   obtain rfl:bit=2^f:=by omega
   rw[e1]at UZ XV;have hp0:=cK f;generalize hp:2^f=p at*
   have m4:=Da (n:=((n+p:Nat):Int)) be be;have m5:=dR B ((n+p:Nat):Int);have m6:ln R2.natAbs<=l+1:=by
    refine aX (fq (b:=((65536:Int)*B).natAbs) be) ?_;have:=dR 65536 B;omega
   refine dP [.x 0,.x 1,.x 2,.x 3,.x 6,.x 4,.x 5,.x 7,.x 8] ?_;refine⟨((n+p:Nat):Int),wo,?_⟩;refine cE V (pR db (((n+p:Nat):Int))) (fun O J r=>mO _ J be be) ?_;rintro O Rc v9 Rl RZ r L V E W;replace U:=U.cS r F L (mC E);replace hy:=hy.cS r F L (mC E);replace QE:=QE.cS r oF L (mC E);replace PO:=PO.cS r oF L (mC E);replace hr:=hr.cS r oF L (mC E);have hu:=W.cP (nw r E);obtain⟨O0,O1,O2,O3,rfl⟩:=hu.shape;refine cE V (pR db (B*((n+p:Nat):Int))) (fun O J r=>jK (rlo r oF) ((PO.rel r oF).l (k:=1000001) be) ((hu.rel r oF).l (k:=1000001) be) be be) ?_;rintro O Sj v10 Sk Qc r L V E W;replace U:=U.cS r F L (mC E);replace hy:=hy.cS r F L (mC E);replace QE:=QE.cS r oF L (mC E);replace PO:=PO.cS r oF L (mC E);replace hr:=hr.cS r oF L (mC E);have Qa:=W.cP (nw r E);obtain⟨P0,P1,P2,P3,rfl⟩:=Qa.shape;refine cE V (pE (iV (B*((n+p:Nat):Int)-R2).sign)) (fun O J r=>Nr (rlo r oF) ((Qa.rel r oF).l (k:=1000001) be) ((hr.rel r oF).l (k:=1000001) be) be be) ?_;rintro O Q9 v11 Qi Pp r L V E rfl;replace U:=U.cS r F L (mC E);replace hy:=hy.cS r F L (mC E);replace QE:=QE.cS r oF L (mC E);replace PO:=PO.cS r oF L (mC E);replace hr:=hr.cS r oF L (mC E);have hs:=gh (B*((n+p:Nat):Int)-R2);apply bS<;>intro hle
   .have hle:=aK hle;have Wy:((n+p:Nat):Int)*B<=R2:=by rw[Int.mul_comm];omega
    refine⟨((n+p:Nat):Int),wo,bi,((2^f / 2:Nat):Int),by rw[hp,show((p:Nat):Int).tdiv 2=((p / 2:Nat):Int)from rfl,wrap64]<;>omega,?_⟩;intro I' w3 R;exact⟨(n+p,f,2^f / 2,w3,_),⟨rfl,by dsimp only;omega,Wy,by dsimp only;rw[hp,show n+p+p=n+2*p by omega];exact XV,V.tr R.cZ,U.rel R F,hy.rel R F,QE.rel R oF,PO.rel R oF,hr.rel R oF⟩,sbgn [] R,by dsimp only;omega⟩
   have hle:=aG hle;have Wy:R2<((n+p:Nat):Int)*B:=by rw[Int.mul_comm];omega
   refine⟨bi,((2^f / 2:Nat):Int),by rw[hp,show((p:Nat):Int).tdiv 2=((p / 2:Nat):Int)from rfl,wrap64]<;>omega,?_⟩;intro I' w3 R;exact⟨(n,f,2^f / 2,w3,_),⟨rfl,by dsimp only;omega,R7,by dsimp only;rw[hp];exact Wy,V.tr R.cZ,U.rel R F,hy.rel R F,QE.rel R oF,PO.rel R oF,hr.rel R oF⟩,sbgn [] R,by dsimp only;omega⟩
  have Vt:¬0<2^e / 2:=by have:¬((bit:Nat):Int)>0:=aG Vt;omega
  obtain rfl:e=0:=by
   cases e with
   |zero=>rfl
   |succ f=>exact absurd (show 0<2^(f+1) / 2 by rw[Nat.pow_succ];have:=cK f;omega) Vt
  rw[show n+2^0=n+1 from rfl]at UZ XV;rw[Int.natCast_add,Int.add_mul]at XV;rw[Int.mul_comm]at R7;rw[Int.mul_comm]at XV;have m4:=Da (n:=((n:Nat):Int)) be be;have m5:=dR B ((n:Nat):Int);have m6:ln R2.natAbs<=l+1:=by
   refine aX (fq (b:=((65536:Int)*B).natAbs) be) ?_;have:=dR 65536 B;omega
  refine dP (idO 7) ?_;refine cE V (pR db (((n:Nat):Int))) (fun O J r=>mO _ J be be) ?_;rintro O Rc v9 Rl RZ r L V E W;replace U:=U.cS r F L (mC E);replace hy:=hy.cS r F L (mC E);replace QE:=QE.cS r oF L (mC E);replace PO:=PO.cS r oF L (mC E);replace hr:=hr.cS r oF L (mC E);have hu:=W.cP (nw r E);obtain⟨O0,O1,O2,O3,rfl⟩:=hu.shape;refine cE V (pR db (B*((n:Nat):Int))) (fun O J r=>jK (rlo r oF) ((PO.rel r oF).l (k:=1000001) be) ((hu.rel r oF).l (k:=1000001) be) be be) ?_;rintro O Sj v10 Sk Qc r L V E W;replace U:=U.cS r F L (mC E);replace hy:=hy.cS r F L (mC E);replace QE:=QE.cS r oF L (mC E);replace PO:=PO.cS r oF L (mC E);replace hr:=hr.cS r oF L (mC E);have Qa:=W.cP (nw r E);obtain⟨P0,P1,P2,P3,rfl⟩:=Qa.shape;refine cE V (pR db (R2-B*((n:Nat):Int))) (fun O J r=>HL (rlo r oF) ((hr.rel r oF).l (k:=1000002) be) ((Qa.rel r oF).l (k:=1000002) be) be be) ?_;rintro O Q9 v11 Qi Pp r L V E W;replace U:=U.cS r F L (mC E);replace hy:=hy.cS r F L (mC E);replace QE:=QE.cS r oF L (mC E);replace PO:=PO.cS r oF L (mC E);have hr3:=W.cP (nw r E);obtain⟨T0,T1,T2,T3,rfl⟩:=hr3.shape;generalize hR3:R2-B*((n:Nat):Int)=R3 at*
  refine .inl ?_;refine⟨by rw[aL,aZ],fun u hu=>by obtain⟨_,_,rfl⟩:=aV.1 hu;rfl,rfl,be,mx,(i:Int)-1,wo,?_⟩;intro I' w3 R;have SN:dg (ca.drop i)=B*dg (((n:Nat):Int)::Q)+R3:=by
   rw[I1 Rh,dg];exact M5 hv (by rw[<-hR3,<-Q5];omega)
  exact⟨(i,((n:Nat):Int)::Q,R3,(T0,T1,T2,T3),w3,_),⟨by dsimp only;omega,by dsimp only;rw[List.length_cons];omega,fun c hc=>by
    rcases List.mem_cons.1 hc with rfl|hc
    .omega
    .exact hd c hc,SN,by dsimp only;omega,by dsimp only;omega,V.tr R.cZ,U.rel R F,hy.rel R F,QE.rel R oF,PO.rel R oF,hr3.rel R oF⟩,
   sbgn [(6,8)] R (hE:=⟨rfl,rfl,rfl,rfl,rfl,rfl,rfl,by dsimp only;rw[show (((n:Nat):Int)::Q).length=1+Q.length by rw[List.length_cons,Nat.add_comm]];rfl,rfl,rfl,trivial⟩),by dsimp only;omega⟩
 obtain rfl:j=0:=by have:¬(j:Int)-1≥0:=aG Ou;omega
 rw[List.drop_zero,bca.1]at hv;rw[<-hB]at hv Vc;have key:=OO Q8 hv hR0 Vc;rw[hB]at key hv Vc;have lq:ln (dg Q).natAbs<=k+1:=by
  have I:=aDz hd;have G:1*dg Q<=B*dg Q:=Int.mul_le_mul_of_nonneg_right be I;exact aX (fq (b:=x.natAbs) be) be
 have lR:ln Fn.natAbs<=l:=aX (fq be) lB;have sx:=gh x;have sy:=gh y;have sr:=gh Fn;refine cQ (cE V (pR db (dg Q)) (fun O J r=>oc r rfl rfl be (fun c hc=>by have:=hd c hc;omega) rfl) ?_);rintro O _ _ _ Qk r L V E W;replace U:=U.cS r F L (mC E);replace hy:=hy.cS r F L (mC E);replace PO:=PO.cS r oF L (mC E);replace hr:=hr.cS r oF L (mC E);have hq:=W.cP (nw r E);obtain⟨F0,F1,F2,F3,rfl⟩:=hq.shape;refine cQ (cE V (pE (iV x.sign)) (fun O J r=>iK (rlo r F) (U.rel r F).r) ?_);rintro O _ _ _ RM r L V E rfl;replace U:=U.cS r F L (mC E);replace hy:=hy.cS r F L (mC E);replace PO:=PO.cS r oF L (mC E);replace hr:=hr.cS r oF L (mC E);replace hq:=hq.cS r oF L (mC E);apply bS<;>intro hxs
 .have hxs:=aK hxs;refine cQ (cE V (pE (iV Fn.sign)) (fun O J r=>iK (rlo r oF) (hr.rel r oF).r) ?_);rintro O Ta v7 Tb Rj r L V E rfl;replace U:=U.cS r F L (mC E);replace hy:=hy.cS r F L (mC E);replace PO:=PO.cS r oF L (mC E);replace hr:=hr.cS r oF L (mC E);replace hq:=hq.cS r oF L (mC E);apply bS<;>intro XX
  .have XX:=aK XX;rw[aM (show x<0/\0<Fn by omega),aM (show x<0/\0<Fn by omega)]at key;have m7:=j9 (dg Q) 1;have m8:ln (1:Int).natAbs<=1:=by decide
   have m9:ln (B-Fn).natAbs<=l:=aX (fq be) lB;refine dP [.x 0,.x 3,.x 4,.x 1,.x 2,.x 5,.x 6,.x 7] ?_;refine cE V (pR db (1)) (fun O J r=>mO _ J be be) ?_;rintro O Sv v8 TN R5 r L V E W;replace U:=U.cS r F L (mC E);replace hy:=hy.cS r F L (mC E);replace PO:=PO.cS r oF L (mC E);replace hr:=hr.cS r oF L (mC E);replace hq:=hq.cS r oF L (mC E);have hu:=W.cP (nw r E);obtain⟨N0,N1,N2,N3,rfl⟩:=hu.shape;refine cE V (pR db (dg Q+1)) (fun O J r=>D9 (rlo r oF) ((hq.rel r oF).l (k:=1000003) be) ((hu.rel r oF).l (k:=1000003) be) be be) ?_;rintro O Rc v9 Rl RZ r L V E W;replace U:=U.cS r F L (mC E);replace hy:=hy.cS r F L (mC E);replace PO:=PO.cS r oF L (mC E);replace hr:=hr.cS r oF L (mC E);have Qn:=W.cP (nw r E);obtain⟨O0,O1,O2,O3,rfl⟩:=Qn.shape;refine cE V (pR db (B-Fn)) (fun O J r=>HL (rlo r oF) ((PO.rel r oF).l (k:=1000003) be) ((hr.rel r oF).l (k:=1000003) be) be be) ?_;rintro O Sj v10 Sk Qc r L V E W;replace U:=U.cS r F L (mC E);replace hy:=hy.cS r F L (mC E);replace Qn:=Qn.cS r oF L (mC E);have Sr:=W.cP (nw r E);obtain⟨P0,P1,P2,P3,rfl⟩:=Sr.shape;refine dP [.x 0,.x 3,.x 1,.x 2,.x 4,.x 5,.x 6] ?_;refine cE V (pE (iV x.sign)) (fun O J r=>iK (rlo r F) (U.rel r F).r) ?_;rintro O _ _ _ Pp r L V E rfl;replace hy:=hy.cS r F L (mC E);replace Qn:=Qn.cS r oF L (mC E);replace Sr:=Sr.cS r oF L (mC E);refine cE V (pE (iV y.sign)) (fun O J r=>iK (rlo r F) (hy.rel r F).r) ?_;rintro O _ _ _ Wb r L V E rfl;replace Qn:=Qn.cS r oF L (mC E);replace Sr:=Sr.cS r oF L (mC E);apply bS<;>intro Ox
   .have W:¬((x<0)↔(y<0)):=fun e=>by
     have e2:decide (x.sign<0)=decide (y.sign<0):=decide_eq_decide.2 be;rw[e2]at Ox;simp at Ox
    rw[aJ W]at key;refine cQ (cE V (pR db (-(dg Q+1))) (fun O J r=>nR (rlo r oF) ((Qn.rel r oF).l (k:=1000003) be) be) ?_);rintro O _ _ _ Sf r L V E W;replace Sr:=Sr.cS r oF L (mC E);have UK:=W.cP (nw r E);obtain⟨U0,U1,U2,U3,rfl⟩:=UK.shape;refine j3 hτ vC (.two 0 (.two 1 (.one 2 (.one 3 (.one 4 .nil))) 2 (.one 1 (.one 3 (.one 4 .nil)))) 1 (.one 0 (.one 2 (.one 3 (.one 4 .nil))))) d9 ?_;refine⟨?_,?_⟩
    .refine⟨?_,?_⟩
     .exact rtn V fun J8 we re=>.inr ⟨Q8,_,_,rfl,key.1▸UK.out re oF,key.2▸Sr.out re oF⟩
     .exact rtn V fun J8 we re=>.inr ⟨Q8,_,_,rfl,key.1▸UK.out re oF,key.2▸Sr.out re oF⟩
    .exact rtn V fun J8 we re=>.inr ⟨Q8,_,_,rfl,key.1▸UK.out re oF,key.2▸Sr.out re oF⟩
   have W:(x<0)↔(y<0):=by
    have e2:decide (x.sign<0)=decide (y.sign<0):=by simpa using Ox
    have:=decide_eq_decide.1 e2;omega
   rw[aM W]at key;refine j3 hτ vC (.two 0 (.two 1 (.one 2 (.one 3 (.one 4 .nil))) 2 (.one 1 (.one 3 (.one 4 .nil)))) 1 (.one 0 (.one 2 (.one 3 (.one 4 .nil))))) d9 ?_;refine⟨?_,?_⟩
   .refine⟨?_,?_⟩
    .exact rtn V fun J8 we re=>.inr ⟨Q8,_,_,rfl,key.1▸Qn.out re oF,key.2▸Sr.out re oF⟩
    .exact rtn V fun J8 we re=>.inr ⟨Q8,_,_,rfl,key.1▸Qn.out re oF,key.2▸Sr.out re oF⟩
   .exact rtn V fun J8 we re=>.inr ⟨Q8,_,_,rfl,key.1▸Qn.out re oF,key.2▸Sr.out re oF⟩
  have XX:=aG XX;rw[aJ (show ¬(x<0/\0<Fn) by omega),aJ (show ¬(x<0/\0<Fn) by omega)]at key;refine dP [.x 0,.x 3,.x 1,.x 2,.x 4,.x 5,.x 6] ?_;refine cE V (pE (iV x.sign)) (fun O J r=>iK (rlo r F) (U.rel r F).r) ?_;rintro O Sv v8 TN R5 r L V E rfl;replace hy:=hy.cS r F L (mC E);replace PO:=PO.cS r oF L (mC E);replace hr:=hr.cS r oF L (mC E);replace hq:=hq.cS r oF L (mC E);refine cE V (pE (iV y.sign)) (fun O J r=>iK (rlo r F) (hy.rel r F).r) ?_;rintro O Rc v9 Rl RZ r L V E rfl;replace PO:=PO.cS r oF L (mC E);replace hr:=hr.cS r oF L (mC E);replace hq:=hq.cS r oF L (mC E);apply bS<;>intro Ox
  .have W:¬((x<0)↔(y<0)):=fun e=>by
    have e2:decide (x.sign<0)=decide (y.sign<0):=decide_eq_decide.2 be;rw[e2]at Ox;simp at Ox
   rw[aJ W]at key;refine cQ (cE V (pR db (-(dg Q))) (fun O J r=>nR (rlo r oF) ((hq.rel r oF).l (k:=1000003) be) be) ?_);rintro O _ _ _ Qc r L V E W;replace PO:=PO.cS r oF L (mC E);replace hr:=hr.cS r oF L (mC E);have UK:=W.cP (nw r E);obtain⟨P0,P1,P2,P3,rfl⟩:=UK.shape;refine j3 hτ vC (.two 0 (.two 1 (.one 2 (.one 3 (.one 4 .nil))) 2 (.one 1 (.one 3 (.one 4 .nil)))) 1 (.one 0 (.one 2 (.one 3 (.one 4 .nil))))) d9 ?_;refine⟨?_,?_⟩
   .refine⟨?_,?_⟩
    .exact rtn V fun J8 we re=>.inr ⟨Q8,_,_,rfl,key.1▸UK.out re oF,key.2▸hr.out re oF⟩
    .exact rtn V fun J8 we re=>.inr ⟨Q8,_,_,rfl,key.1▸UK.out re oF,key.2▸hr.out re oF⟩
   .exact rtn V fun J8 we re=>.inr ⟨Q8,_,_,rfl,key.1▸UK.out re oF,key.2▸hr.out re oF⟩
  have W:(x<0)↔(y<0):=by
   have e2:decide (x.sign<0)=decide (y.sign<0):=by simpa using Ox
   have:=decide_eq_decide.1 e2;omega
  rw[aM W]at key;refine j3 hτ vC (.two 0 (.two 1 (.one 2 (.one 3 (.one 4 .nil))) 2 (.one 1 (.one 3 (.one 4 .nil)))) 1 (.one 0 (.one 2 (.one 3 (.one 4 .nil))))) d9 ?_;refine⟨?_,?_⟩
  .refine⟨?_,?_⟩
   .exact rtn V fun J8 we re=>.inr ⟨Q8,_,_,rfl,key.1▸hq.out re oF,key.2▸hr.out re oF⟩
   .exact rtn V fun J8 we re=>.inr ⟨Q8,_,_,rfl,key.1▸hq.out re oF,key.2▸hr.out re oF⟩
  .exact rtn V fun J8 we re=>.inr ⟨Q8,_,_,rfl,key.1▸hq.out re oF,key.2▸hr.out re oF⟩
 have hxs:=aG hxs;rw[aJ (show ¬(x<0/\0<Fn) by omega),aJ (show ¬(x<0/\0<Fn) by omega)]at key;refine dP [.x 0,.x 3,.x 1,.x 2,.x 4,.x 5,.x 6] ?_;refine cE V (pE (iV x.sign)) (fun O J r=>iK (rlo r F) (U.rel r F).r) ?_;rintro O _ _ _ Rj r L V E rfl;replace hy:=hy.cS r F L (mC E);replace PO:=PO.cS r oF L (mC E);replace hr:=hr.cS r oF L (mC E);replace hq:=hq.cS r oF L (mC E);refine cE V (pE (iV y.sign)) (fun O J r=>iK (rlo r F) (hy.rel r F).r) ?_;rintro O _ _ _ R5 r L V E rfl;replace PO:=PO.cS r oF L (mC E);replace hr:=hr.cS r oF L (mC E);replace hq:=hq.cS r oF L (mC E);apply bS<;>intro Ox
 .have W:¬((x<0)↔(y<0)):=fun e=>by
   have e2:decide (x.sign<0)=decide (y.sign<0):=decide_eq_decide.2 be;rw[e2]at Ox;simp at Ox
  rw[aJ W]at key;refine cQ (cE V (pR db (-(dg Q))) (fun O J r=>nR (rlo r oF) ((hq.rel r oF).l (k:=1000003) be) be) ?_);rintro O _ _ _ RZ r L V E W;replace PO:=PO.cS r oF L (mC E);replace hr:=hr.cS r oF L (mC E);have UK:=W.cP (nw r E);obtain⟨O0,O1,O2,O3,rfl⟩:=UK.shape;refine j3 hτ vC (.two 0 (.two 1 (.one 2 (.one 3 (.one 4 .nil))) 2 (.one 1 (.one 3 (.one 4 .nil)))) 1 (.one 0 (.one 2 (.one 3 (.one 4 .nil))))) d9 ?_;refine⟨?_,?_⟩
  .refine⟨?_,?_⟩
   .exact rtn V fun J8 we re=>.inr ⟨Q8,_,_,rfl,key.1▸UK.out re oF,key.2▸hr.out re oF⟩
   .exact rtn V fun J8 we re=>.inr ⟨Q8,_,_,rfl,key.1▸UK.out re oF,key.2▸hr.out re oF⟩
  .exact rtn V fun J8 we re=>.inr ⟨Q8,_,_,rfl,key.1▸UK.out re oF,key.2▸hr.out re oF⟩
 have W:(x<0)↔(y<0):=by
  have e2:decide (x.sign<0)=decide (y.sign<0):=by simpa using Ox
  have:=decide_eq_decide.1 e2;omega
 rw[aM W]at key;refine j3 hτ vC (.two 0 (.two 1 (.one 2 (.one 3 (.one 4 .nil))) 2 (.one 1 (.one 3 (.one 4 .nil)))) 1 (.one 0 (.one 2 (.one 3 (.one 4 .nil))))) d9 ?_;refine⟨?_,?_⟩
 .refine⟨?_,?_⟩
  .exact rtn V fun J8 we re=>.inr ⟨Q8,_,_,rfl,key.1▸hq.out re oF,key.2▸hr.out re oF⟩
  .exact rtn V fun J8 we re=>.inr ⟨Q8,_,_,rfl,key.1▸hq.out re oF,key.2▸hr.out re oF⟩
 .exact rtn V fun J8 we re=>.inr ⟨Q8,_,_,rfl,key.1▸hq.out re oF,key.2▸hr.out re oF⟩
theorem jq{v:Value}{l:Nat}(F:Old S w)(U:gG w S v k x)(hy:gG w S u l y)(K:k<=1000000)(hl:l<=1000000)(h0:y≠0):
  eH PG GT.qK #[v,u] w (eR w fun v' Y=>∃q r,v'= .tuple #[q,r,iV 0]/\db Y (Nf w Y) q (x / y)/\db Y (Nf w Y) r (x % y)):=
 (Nt F U hy K hl).mono fun _ _ ⟨v2,e1,e2,e3⟩=>⟨v2,e1,e2,e3.elim (fun h=>absurd h.1 h0) fun h=>h.2⟩
theorem aDQ(x:Nat){y:Nat}(h:y≠0):ln (Nat.gcd x y)<=ln y:=fq (Nat.le_of_dvd be (Nat.gcd_dvd_right x y))
theorem LB{a b:Int}(hb:b≠0):a / (b.sign*(Nat.gcd a.natAbs b.natAbs:Nat))=(Rat.divInt a b).num/\b / (b.sign*(Nat.gcd a.natAbs b.natAbs:Nat))=((Rat.divInt a b).den:Int):=by
 obtain⟨I,G⟩:=Ff (a:=a) hb;have d1:((Nat.gcd a.natAbs b.natAbs:Nat):Int) ∣ a:=Int.ofNat_dvd_left.2 (Nat.gcd_dvd_left _ _);have d2:((Nat.gcd a.natAbs b.natAbs:Nat):Int) ∣ b:=Int.ofNat_dvd_left.2 (Nat.gcd_dvd_right _ _);have sg:b.sign=1\/b.sign= -1:=by rcases gh b with h|h|h<;>omega
 have key:∀c:Int,((Nat.gcd a.natAbs b.natAbs:Nat):Int) ∣ c->b.sign*(Nat.gcd a.natAbs b.natAbs:Nat) ∣ c:=fun c hc=>by
  rcases sg with h|h<;>rw[h]
  .rw[Int.one_mul];exact hc
  .rw[Int.neg_one_mul];exact Int.neg_dvd.2 hc
 rw[<-I,<-G,Int.tdiv_eq_ediv_of_dvd (key a d1),Int.tdiv_eq_ediv_of_dvd (key b d2)];exact⟨rfl,rfl⟩
theorem Fi{v:Value}{l:Nat}(F:Old S w)(U:gG w S v k x)(hy:gG w S u l y)(K:k<=1000000)(hl:l<=1000000):
  eH PG GT.xK #[v,u] w (eR w fun v' Y=>db Y (Nf w Y) v' ((Nat.gcd x.natAbs y.natAbs:Nat):Int)):=by
 have V:=bR w;replace U:=U.cP (S':=Cv S w.heap.size []) fun _ h=>.inl h;replace hy:=hy.cP (S':=Cv S w.heap.size []) fun _ h=>.inl h;obtain⟨b1,a1,n1,c1,rfl⟩:=U.shape;obtain⟨b2,a2,n2,c2,rfl⟩:=hy.shape;refine Ae bv ?_;have Pq:=U.ln;have RL:=hy.ln;refine dP [.x 0,.x 2,.x 1,.x 3,.x 4,.x 5] ?_;refine cE V (pR db ((x.natAbs:Int))) (fun O J r=>BP (rlo r F) (U.rel r F) be) ?_;rintro O _ _ _ PA r L V E W;clear U;replace hy:=hy.cS r F L (mC E);have ha:=W.cP (nw r E);clear r;obtain⟨A0,A1,A2,A3,rfl⟩:=ha.shape;refine cE V (pR db ((y.natAbs:Int))) (fun O J r=>BP (rlo r F) (hy.rel r F) be) ?_;rintro O _ _ _ Oy r L V E W;clear hy;replace ha:=ha.cS r oF L (mC E);have hc:=W.cP (nw r E);clear r;obtain⟨C0,C1,C2,C3,rfl⟩:=hc.shape
 refine⟨Nat×Nat×(Bool×Option Addr×Nat×Nat)×(Bool×Option Addr×Nat×Nat)×World×Iv,fun z=>⟨[(2,pP 0 0),(3,pP 1 0),(4,pP 2 0)],[(2,.box T.Int [.v (.bool false),.v nls]),(1,.box T.Int [.v (.bool z.2.2.2.1.1),.v (.slice z.2.2.2.1.2.1 z.2.2.2.1.2.2.1 z.2.2.2.1.2.2.2)]),(0,.box T.Int [.v (.bool z.2.2.1.1),.v (.slice z.2.2.1.2.1 z.2.2.1.2.2.1 z.2.2.1.2.2.2)])],3,z.2.2.2.2.2,z.2.2.2.2.1⟩,fun z=>z.2.1,
  fun z=>Nat.gcd z.1 z.2.1=Nat.gcd x.natAbs y.natAbs/\ln z.1<=1000000/\ln z.2.1<=1000000/\Bq w z.2.2.2.2.1/\db z.2.2.2.2.1 (Cf w z.2.2.2.2.2) (.agg #[.bool z.2.2.1.1,.slice z.2.2.1.2.1 z.2.2.1.2.2.1 z.2.2.1.2.2.2]) (z.1:Int)/\db z.2.2.2.2.1 (Cf w z.2.2.2.2.2) (.agg #[.bool z.2.2.2.1.1,.slice z.2.2.2.1.2.1 z.2.2.2.1.2.2.1 z.2.2.2.1.2.2.2]) (z.2.1:Int),?_,?_⟩
 .intro O J r
  exact⟨(x.natAbs,y.natAbs,(A0,A1,A2,A3),(C0,C1,C2,C3),J,Oy),⟨rfl,by dsimp only;omega,by dsimp only;omega,V.tr r.cZ,ha.rel r oF,hc.rel r oF⟩,
   sbgn [] r⟩
 clear V ha hc;rintro⟨a,b,⟨ba,aa,na,ca⟩,⟨bb,ab,nb,cb⟩,w1,iv⟩ ⟨X,Qs,PW,V,ha,hc⟩;dsimp only at X Qs PW V ha hc ⊢;refine cQ (cE V (pE (iV (b:Int).sign)) (fun O J r=>iK (rlo r oF) (hc.rel r oF).r) ?_);rintro O _ _ _ PH r L V E rfl;replace ha:=ha.cS r oF L (mC E);replace hc:=hc.cS r oF L (mC E);clear r;have sb:=gh (b:Int);apply bS<;>intro h
 .have h:=aK h;have hb0:0<b:=by omega
  have hm:=cN a hb0;have QO:ln (a % b)<=1000000:=aX (fq be) PW;refine cQ (cE V (fun _ J v Y=>∃q r,v= .tuple #[q,r,iV 0]/\db Y (Nf J Y) q ((a:Int) / b)/\db Y (Nf J Y) r ((a:Int) % b)) (fun O J r=>jq (rlo r oF) ((ha.rel r oF).l (k:=1000000) Qs) ((hc.rel r oF).l (k:=1000000) PW) be be be) ?_);rintro O _ _ _ PV r L V E ⟨q,rr,rfl,k1,k2⟩;clear ha;replace hc:=hc.cS r oF L (mC E);have hq:=k1.cP (nw r E);have hr:=k2.cP (nw r E);clear r;obtain⟨s4_0a,s4_0b,s4_0c,s4_0d,rfl⟩:=hq.shape;obtain⟨s4_1a,s4_1b,s4_1c,s4_1d,rfl⟩:=hr.shape;clear k1 k2 hq;refine j3 hτ vC (.two 0 (.two 1 (.one 2 (.one 3 .nil)) 2 (.one 1 (.one 3 .nil))) 1 (.one 0 (.one 2 (.one 3 .nil)))) d9 ?_;refine⟨?_,?_⟩
  .conv=>whnf
   refine⟨?_,?_⟩
   .conv=>whnf
    intro I' w3 R;exact⟨(b,a % b,(bb,ab,nb,cb),(s4_1a,s4_1b,s4_1c,s4_1d),w3,_),⟨by dsimp only;rw[<-X,Nat.gcd_comm a b,Nat.gcd_rec b a,Nat.gcd_comm],PW,QO,V.tr R.cZ,hc.rel R oF,hr.rel R oF⟩,sbgn [] R,hm⟩
   .conv=>whnf
    intro I' w3 R;exact⟨(b,a % b,(bb,ab,nb,cb),(s4_1a,s4_1b,s4_1c,s4_1d),w3,_),⟨by dsimp only;rw[<-X,Nat.gcd_comm a b,Nat.gcd_rec b a,Nat.gcd_comm],PW,QO,V.tr R.cZ,hc.rel R oF,hr.rel R oF⟩,sbgn [] R,hm⟩
  .conv=>whnf
   intro I' w3 R;exact⟨(b,a % b,(bb,ab,nb,cb),(s4_1a,s4_1b,s4_1c,s4_1d),w3,_),⟨by dsimp only;rw[<-X,Nat.gcd_comm a b,Nat.gcd_rec b a,Nat.gcd_comm],PW,QO,V.tr R.cZ,hc.rel R oF,hr.rel R oF⟩,sbgn [] R,hm⟩
 have h:=aG h;obtain rfl:b=0:=by omega
 rw[Nat.gcd_zero_right]at X;subst X;clear hc;exact rtn V fun J8 we re=>ha.out re oF
theorem lY{v:Value}{l:Nat}(F:Old S w)(U:gG w S v k x)(hy:gG w S u l y)(K:k<=1000000)(hl:l<=1000000)(Q8:y≠0):
  eH PG GT.vF #[v,u] w (eR w fun v' Y=>cY Y (Nf w Y) v' (Rat.divInt x y)):=by
 have V:=bR w;replace U:=U.cP (S':=Cv S w.heap.size []) fun _ h=>.inl h;replace hy:=hy.cP (S':=Cv S w.heap.size []) fun _ h=>.inl h;obtain⟨b1,a1,n1,c1,rfl⟩:=U.shape;obtain⟨b2,a2,n2,c2,rfl⟩:=hy.shape;refine uO bv ?_;have Pq:=U.ln;have RL:=hy.ln;have hlg:=aDQ x.natAbs (y:=y.natAbs) be;obtain⟨W,hd⟩:=LB (a:=x) Q8;have sy:=gh y
 refine cQ (cE V (fun _ J v Y=>∃n p,v= .tuple #[iV n,.bool p]/\(p=true->n=x/\x.natAbs<1073741824)) (fun O J r=>(pW (rlo r F) (U.rel r F).r).mono fun e Y ⟨v2,e1,e2,e3⟩=>⟨v2,e1,e2,by
   rw[e3,km];split
   .exact⟨_,_,rfl,fun _=>⟨rfl,‹_›⟩⟩
   .exact⟨_,_,rfl,fun h=>by cases h⟩⟩) ?_)
 rintro O _ _ _ PA r L V E ⟨nx,px,rfl,qx⟩;replace U:=U.cS r F L (mC E);replace hy:=hy.cS r F L (mC E);clear r
 refine cQ (cE V (fun _ J v Y=>∃n p,v= .tuple #[iV n,.bool p]/\(p=true->n=y/\y.natAbs<1073741824)) (fun O J r=>(pW (rlo r F) (hy.rel r F).r).mono fun e Y ⟨v2,e1,e2,e3⟩=>⟨v2,e1,e2,by
   rw[e3,km];split
   .exact⟨_,_,rfl,fun _=>⟨rfl,‹_›⟩⟩
   .exact⟨_,_,rfl,fun h=>by cases h⟩⟩) ?_)
 rintro O _ _ _ Oy r L V E ⟨ny,py,rfl,qy⟩;replace U:=U.cS r F L (mC E);replace hy:=hy.cS r F L (mC E);clear r;apply bS<;>intro I
 .obtain⟨e1,hxs⟩:=qx I;replace e1:=e1.symm;subst e1;apply bS<;>intro G
  .obtain⟨e2,hys⟩:=qy G;replace e2:=e2.symm;subst e2;clear U hy;refine cQ (cE V (pR cY (Rat.divInt x y)) (fun O J r=>td x y J be be Q8) ?_);rintro O QD v3 QC PH r L V E W;have hR:=W.cP (nw r E);clear r W;obtain⟨A0,A1,A2,A3,A4,A5,A6,A7,rfl⟩:=hR.shape;exact rtn V fun J8 we re=>hR.out re oF
  refine cQ (cE V (pR db (((Nat.gcd x.natAbs y.natAbs:Nat):Int))) (fun O J r=>Fi (rlo r F) (U.rel r F) (hy.rel r F) K hl) ?_);rintro O QD v3 QC PH r L V E W;replace U:=U.cS r F L (mC E);replace hy:=hy.cS r F L (mC E);have X:=W.cP (nw r E);clear r W;obtain⟨A0,A1,A2,A3,rfl⟩:=X.shape;refine cQ (cE V (pE (iV y.sign)) (fun O J r=>iK (rlo r F) (hy.rel r F).r) ?_);rintro O RF v4 Qw PV r L V E rfl;replace U:=U.cS r F L (mC E);replace hy:=hy.cS r F L (mC E);replace X:=X.cS r oF L (mC E);clear r;have hgp:0<Nat.gcd x.natAbs y.natAbs:=cJ _ be;generalize Nat.gcd x.natAbs y.natAbs=g at*
  apply bS<;>intro hs
  .have hs:=aK hs;rw[show y.sign= -1 by omega,Int.neg_one_mul]at W hd;refine cQ (cE V (pR db (-(g:Int))) (fun O J r=>nR (rlo r oF) ((X.rel r oF).l (k:=1000000) (by rw[Int.natAbs_natCast];omega)) be) ?_);rintro O SZ v5 SP Qk r L V E W;replace U:=U.cS r F L (mC E);replace hy:=hy.cS r F L (mC E);clear X;have S3:=W.cP (nw r E);clear r W;obtain⟨C0,C1,C2,C3,rfl⟩:=S3.shape;refine cQ (cE V (fun _ J v Y=>∃q r,v= .tuple #[q,r,iV 0]/\db Y (Nf J Y) q (Rat.divInt x y).num/\db Y (Nf J Y) r (x % (-(g:Int)))) (fun O J r=>W▸jq (rlo r F) (U.rel r F) ((((S3.rel r oF).l (k:=1000000) (by rw[cO,Int.natAbs_natCast];omega))).cP fun g X=>Cv.false X) K be be) ?_);rintro O Rv v6 Rk RM r L V E ⟨q,rr,rfl,k1,k2⟩;clear U;replace hy:=hy.cS r F L (mC E);replace S3:=S3.cS r oF L (mC E);have hq:=k1.cP (nw r E);have hr:=k2.cP (nw r E);clear r;obtain⟨s6_0a,s6_0b,s6_0c,s6_0d,rfl⟩:=hq.shape;obtain⟨s6_1a,s6_1b,s6_1c,s6_1d,rfl⟩:=hr.shape;clear k1 k2 hr;refine cQ (cE V (fun _ J v Y=>∃q r,v= .tuple #[q,r,iV 0]/\db Y (Nf J Y) q ((Rat.divInt x y).den:Int)/\db Y (Nf J Y) r (y % (-(g:Int)))) (fun O J r=>hd▸jq (rlo r F) (hy.rel r F) ((((S3.rel r oF).l (k:=1000000) (by rw[cO,Int.natAbs_natCast];omega))).cP fun g X=>Cv.false X) hl be be) ?_);rintro O Ta v7 Tb Rj r L V E ⟨q,rr,rfl,k1,k2⟩;clear hy;clear S3;replace hq:=hq.cS r oF L (mC E);have Qn:=k1.cP (nw r E);have hr:=k2.cP (nw r E);clear r;obtain⟨s7_0a,s7_0b,s7_0c,s7_0d,rfl⟩:=Qn.shape;obtain⟨s7_1a,s7_1b,s7_1c,s7_1d,rfl⟩:=hr.shape;clear k1 k2 hr;exact rtn V fun J8 we re=>(cY.of hq Qn).out re oF
  have hs:=aG hs;rw[show y.sign=1 by omega,Int.one_mul]at W hd;refine cQ (cE V (fun _ J v Y=>∃q r,v= .tuple #[q,r,iV 0]/\db Y (Nf J Y) q (Rat.divInt x y).num/\db Y (Nf J Y) r (x % ((g:Int)))) (fun O J r=>W▸jq (rlo r F) (U.rel r F) ((((X.rel r oF).l (k:=1000000) (by rw[Int.natAbs_natCast];omega))).cP fun g X=>Cv.false X) K be be) ?_);rintro O SZ v5 SP Qk r L V E ⟨q,rr,rfl,k1,k2⟩;clear U;replace hy:=hy.cS r F L (mC E);replace X:=X.cS r oF L (mC E);have hq:=k1.cP (nw r E);have hr:=k2.cP (nw r E);clear r;obtain⟨s5_0a,s5_0b,s5_0c,s5_0d,rfl⟩:=hq.shape;obtain⟨s5_1a,s5_1b,s5_1c,s5_1d,rfl⟩:=hr.shape;clear k1 k2 hr;refine cQ (cE V (fun _ J v Y=>∃q r,v= .tuple #[q,r,iV 0]/\db Y (Nf J Y) q ((Rat.divInt x y).den:Int)/\db Y (Nf J Y) r (y % ((g:Int)))) (fun O J r=>hd▸jq (rlo r F) (hy.rel r F) ((((X.rel r oF).l (k:=1000000) (by rw[Int.natAbs_natCast];omega))).cP fun g X=>Cv.false X) hl be be) ?_);rintro O Rv v6 Rk RM r L V E ⟨q,rr,rfl,k1,k2⟩;clear hy;clear X;replace hq:=hq.cS r oF L (mC E);have Qn:=k1.cP (nw r E);have hr:=k2.cP (nw r E);clear r;obtain⟨s6_0a,s6_0b,s6_0c,s6_0d,rfl⟩:=Qn.shape;obtain⟨s6_1a,s6_1b,s6_1c,s6_1d,rfl⟩:=hr.shape;clear k1 k2 hr;exact rtn V fun J8 we re=>(cY.of hq Qn).out re oF
 refine cQ (cE V (pR db (((Nat.gcd x.natAbs y.natAbs:Nat):Int))) (fun O J r=>Fi (rlo r F) (U.rel r F) (hy.rel r F) K hl) ?_);rintro O _ _ _ PH r L V E W;replace U:=U.cS r F L (mC E);replace hy:=hy.cS r F L (mC E);have X:=W.cP (nw r E);clear r W;obtain⟨A0,A1,A2,A3,rfl⟩:=X.shape;refine cQ (cE V (pE (iV y.sign)) (fun O J r=>iK (rlo r F) (hy.rel r F).r) ?_);rintro O _ _ _ PV r L V E rfl;replace U:=U.cS r F L (mC E);replace hy:=hy.cS r F L (mC E);replace X:=X.cS r oF L (mC E);clear r;have hgp:0<Nat.gcd x.natAbs y.natAbs:=cJ _ be;generalize Nat.gcd x.natAbs y.natAbs=g at*
 apply bS<;>intro hs
 .have hs:=aK hs;rw[show y.sign= -1 by omega,Int.neg_one_mul]at W hd;refine cQ (cE V (pR db (-(g:Int))) (fun O J r=>nR (rlo r oF) ((X.rel r oF).l (k:=1000000) (by rw[Int.natAbs_natCast];omega)) be) ?_);rintro O SZ v5 SP Qk r L V E W;replace U:=U.cS r F L (mC E);replace hy:=hy.cS r F L (mC E);clear X;have S3:=W.cP (nw r E);clear r W;obtain⟨C0,C1,C2,C3,rfl⟩:=S3.shape;refine cQ (cE V (fun _ J v Y=>∃q r,v= .tuple #[q,r,iV 0]/\db Y (Nf J Y) q (Rat.divInt x y).num/\db Y (Nf J Y) r (x % (-(g:Int)))) (fun O J r=>W▸jq (rlo r F) (U.rel r F) ((((S3.rel r oF).l (k:=1000000) (by rw[cO,Int.natAbs_natCast];omega))).cP fun g X=>Cv.false X) K be be) ?_);rintro O Rv v6 Rk RM r L V E ⟨q,rr,rfl,k1,k2⟩;clear U;replace hy:=hy.cS r F L (mC E);replace S3:=S3.cS r oF L (mC E);have hq:=k1.cP (nw r E);have hr:=k2.cP (nw r E);clear r;obtain⟨s6_0a,s6_0b,s6_0c,s6_0d,rfl⟩:=hq.shape;obtain⟨s6_1a,s6_1b,s6_1c,s6_1d,rfl⟩:=hr.shape;clear k1 k2 hr;refine cQ (cE V (fun _ J v Y=>∃q r,v= .tuple #[q,r,iV 0]/\db Y (Nf J Y) q ((Rat.divInt x y).den:Int)/\db Y (Nf J Y) r (y % (-(g:Int)))) (fun O J r=>hd▸jq (rlo r F) (hy.rel r F) ((((S3.rel r oF).l (k:=1000000) (by rw[cO,Int.natAbs_natCast];omega))).cP fun g X=>Cv.false X) hl be be) ?_);rintro O _ _ _ Rj r L V E ⟨q,rr,rfl,k1,k2⟩;clear hy;clear S3;replace hq:=hq.cS r oF L (mC E);have Qn:=k1.cP (nw r E);have hr:=k2.cP (nw r E);clear r;obtain⟨s7_0a,s7_0b,s7_0c,s7_0d,rfl⟩:=Qn.shape;obtain⟨s7_1a,s7_1b,s7_1c,s7_1d,rfl⟩:=hr.shape;clear k1 k2 hr;exact rtn V fun J8 we re=>(cY.of hq Qn).out re oF
 have hs:=aG hs;rw[show y.sign=1 by omega,Int.one_mul]at W hd;refine cQ (cE V (fun _ J v Y=>∃q r,v= .tuple #[q,r,iV 0]/\db Y (Nf J Y) q (Rat.divInt x y).num/\db Y (Nf J Y) r (x % ((g:Int)))) (fun O J r=>W▸jq (rlo r F) (U.rel r F) ((((X.rel r oF).l (k:=1000000) (by rw[Int.natAbs_natCast];omega))).cP fun g X=>Cv.false X) K be be) ?_);rintro O _ _ _ Qk r L V E ⟨q,rr,rfl,k1,k2⟩;clear U;replace hy:=hy.cS r F L (mC E);replace X:=X.cS r oF L (mC E);have hq:=k1.cP (nw r E);have hr:=k2.cP (nw r E);clear r;obtain⟨s5_0a,s5_0b,s5_0c,s5_0d,rfl⟩:=hq.shape;obtain⟨s5_1a,s5_1b,s5_1c,s5_1d,rfl⟩:=hr.shape;clear k1 k2 hr;refine cQ (cE V (fun _ J v Y=>∃q r,v= .tuple #[q,r,iV 0]/\db Y (Nf J Y) q ((Rat.divInt x y).den:Int)/\db Y (Nf J Y) r (y % ((g:Int)))) (fun O J r=>hd▸jq (rlo r F) (hy.rel r F) ((((X.rel r oF).l (k:=1000000) (by rw[Int.natAbs_natCast];omega))).cP fun g X=>Cv.false X) hl be be) ?_);rintro O _ _ _ RM r L V E ⟨q,rr,rfl,k1,k2⟩;clear hy;clear X;replace hq:=hq.cS r oF L (mC E);have Qn:=k1.cP (nw r E);have hr:=k2.cP (nw r E);clear r;obtain⟨s6_0a,s6_0b,s6_0c,s6_0d,rfl⟩:=Qn.shape;obtain⟨s6_1a,s6_1b,s6_1c,s6_1d,rfl⟩:=hr.shape;clear k1 k2 hr;exact rtn V fun J8 we re=>(cY.of hq Qn).out re oF
def e9(w:World)(S:Nat->Prop)(v:Value)(q:Rat):Prop:=∃b1 l1 b2 l2 a b,v= .agg #[.bool b1,l1,.bool b2,l2]/\gG w S (.agg #[.bool b1,l1]) 100000 a/\gG w S (.agg #[.bool b2,l2]) 100000 b/\ratio a b=q
theorem e9.cR{Y:World}{v:Value}(h:e9 w S v q)(K:∀g,S g->Y.heap[g]? =w.heap[g]?):e9 Y S v q:=by
 obtain⟨b1,l1,b2,l2,a,b,I,G,h3,h4⟩:=h;exact⟨b1,l1,b2,l2,a,b,I,G.cR K,h3.cR K,h4⟩
theorem e9.cP{S':Nat->Prop}{v:Value}(h:e9 w S v q)(K:∀g,S g->S' g):e9 w S' v q:=by
 obtain⟨b1,l1,b2,l2,a,b,I,G,h3,h4⟩:=h;exact⟨b1,l1,b2,l2,a,b,I,G.cP K,h3.cP K,h4⟩
theorem e9.r{v:Value}(h:e9 w S v q):∃a b,jP w S v a b/\ratio a b=q:=by
 obtain⟨b1,l1,b2,l2,a,b,rfl,G,h3,h4⟩:=h;exact⟨a,b,⟨b1,l1,b2,l2,rfl,G.r,h3.r⟩,h4⟩
theorem e9.v{v:Value}(h:e9 w S v q):tB w S v q:=by
 obtain⟨b1,l1,b2,l2,a,b,rfl,G,h3,h4⟩:=h;exact⟨a,b,⟨b1,l1,b2,l2,rfl,G.r,h3.r⟩,h4,G.ln,h3.ln⟩
theorem e9.shape{v:Value}(h:e9 w S v q):∃b a n c b2 a2 n2 c2,v= .agg #[.bool b,.slice a n c,.bool b2,.slice a2 n2 c2]:=h.v.shape
theorem e9.rl{v:Value}(h:e9 w S v q):rl q<=100000:=by
 obtain⟨b1,l1,b2,l2,a,b,rfl,G,h3,rfl⟩:=h;have:=jM a b;have:=G.ln;have:=h3.ln;omega
theorem cY.l{v:Value}(h:cY w S v q)(hl:rl q<=100000):e9 w S v q:=by
 obtain⟨b1,l1,b2,l2,I,G,h3⟩:=h;exact⟨b1,l1,b2,l2,_,_,I,G.l (aX (gI q) hl),h3.l (aX (fU q) hl),qi q⟩
theorem aB1(a b:Int):rs (ratio a b)=if b.sign<0 then -a.sign else a.sign:=by
 have sb:=gh b;rw[ratio];split
 .rw[aJ be,rs,wk bi]
 .split
  .rw[show Rat.divInt a b=Rat.divInt (-a) (-b)from(Rat.neg_divInt_neg a b).symm,rs,wk be,Int.sign_neg]
  .rw[rs,wk be]
theorem kU{a c:Int}:(a.natAbs<1073741824)->(c.natAbs<1073741824)->(a*c).natAbs<=1152921502459363329:=fun I G=>by
 rw[Int.natAbs_mul];exact Nat.mul_le_mul (show a.natAbs<=1073741823 by omega) (show c.natAbs<=1073741823 by omega)
section
variable{S S':Nat->Prop}{H:Hp}{nx:Nat}{iv N:Iv}{B:Nat}{w J Y:World}{O:Nat->Sx.eG}{v:Value}{q:Rat}
theorem e9.rel(h:e9 w (Cv S B iv) v q)(r:Rel H nx iv B w O J)(F:∀g,S g->g<B):e9 J (Cv S B iv) v q:=h.cR fun _ X=>rls r F X
theorem e9.cS(h:e9 w (Cv S B iv) v q)(r:Rel H nx iv B w O J)(F:∀g,S g->g<B)(L:Ext J Y)(hm:∀p,p∈iv->p∈N):e9 Y (Cv S B N) v q:=
 ((h.rel r F).cR fun g X=>L.block g (rlo r F g X)).cP fun _ X=>X.mono hm
theorem e9.arg(h:e9 w S v q)(iv:Iv):e9 w (Cv S w.heap.size iv) v q:=h.cP fun _ h=>.inl h
end
theorem vh{v:Value}{a b:Int}(F:Old S w)(hp:jP w S v a b):
  eH PG GT.kf #[v] w (eR w fun v' _=>v'=iV (rs (ratio a b))):=by
 have V:=bR w;obtain⟨b1,l1,b2,l2,rfl,ha,QX⟩:=hp;obtain⟨_,a1,n1,c1,e1⟩:=ha.shape;obtain⟨_,a2,n2,c2,e2⟩:=QX.shape;simp only[Value.agg.injEq,Array.mk.injEq,List.cons.injEq,and_true]at e1 e2;obtain⟨_,rfl⟩:=e1;obtain⟨_,rfl⟩:=e2;replace ha:=ha.cP (S':=Cv S w.heap.size []) fun _ h=>.inl h;replace QX:=QX.cP (S':=Cv S w.heap.size []) fun _ h=>.inl h;have hr:=aB1 a b;have sa:=gh a;refine AS bv ?_;refine cQ (cE V (pE (iV b.sign)) (fun O J r=>iK (rlo r F) (QX.rel r F)) ?_);rintro O _ _ _ PA r L V E rfl;replace ha:=ha.cS r F L (mC E);apply bS<;>intro h
 .have h:=aK h;rw[aM h]at hr;refine cQ (cE V (pE (iV a.sign)) (fun O J r=>iK (rlo r F) (ha.rel r F)) ?_);rintro O Qb v2 Px Oy r L V E rfl;refine⟨-a.sign,wo,?_⟩;exact rtn V fun J8 we re=>by rw[hr];rfl
 have h:=aG h;rw[aJ h]at hr;refine cQ (cE V (pE (iV a.sign)) (fun O J r=>iK (rlo r F) (ha.rel r F)) ?_);rintro O _ _ _ Oy r L V E rfl;exact rtn V fun J8 we re=>by rw[hr];rfl
theorem zF{v:Value}(F:Old S w)(hp:cY w S v p):eH PG GT.kf #[v] w (eR w fun v' _=>v'=iV (rs p)):=by
 have:=vh F hp.r;rw[qi]at this;exact this
theorem vo{v:Value}(F:Old S w)(hp:e9 w S v p):eH PG GT.kf #[v] w (eR w fun v' _=>v'=iV (rs p)):=by
 obtain⟨a,b,I,rfl⟩:=hp.r;exact vh F I
theorem iF{v:Value}(F:Old S w)(hp:e9 w S v p):
  eH PG GT.xD #[v] w (eR w fun v' Y=>cY Y (Nf w Y) v' p):=by
 have V:=bR w;obtain⟨b1,l1,b2,l2,a,b,rfl,ha,QX,rfl⟩:=hp;obtain⟨_,a1,n1,c1,e1⟩:=ha.shape;obtain⟨_,a2,n2,c2,e2⟩:=QX.shape;simp only[Value.agg.injEq,Array.mk.injEq,List.cons.injEq,and_true]at e1 e2;obtain⟨_,rfl⟩:=e1;obtain⟨_,rfl⟩:=e2;replace ha:=ha.cP (S':=Cv S w.heap.size []) fun _ h=>.inl h;replace QX:=QX.cP (S':=Cv S w.heap.size []) fun _ h=>.inl h;have sb:=gh b;refine AX bv ?_;refine cQ (cU (J9:=fun _ J v Y=>v=iV b.sign) (fun O J r=>iK (rlo r F) (QX.rel r F).r) ?_);rintro O Pw v1 Pa r L hb rfl;replace V:=V.tr hb;replace ha:=ha.cS (N:=(Pw.heap.size,Pa.heap.size)::[]) r F L fun x U=>aB _ U;replace QX:=QX.cS (N:=(Pw.heap.size,Pa.heap.size)::[]) r F L fun x U=>aB _ U;generalize (Pw.heap.size,Pa.heap.size)::[]=PA at*
 apply bS<;>intro h
 .have h:b.sign=0:=by simpa using h
  obtain rfl:b=0:=by omega
  rw[show ratio a 0=Rat.divInt a 1 from aM rfl];refine dP (idO 5) ?_;refine cU (J9:=fun _ J v Y=>db Y (Nf J Y) v (1)) (fun O J r=>mO _ J bi bi) ?_;rintro O Qb v2 Px r L hb W;replace V:=V.tr hb;replace ha:=ha.cS (N:=(Qb.heap.size,Px.heap.size)::PA) r F L fun x U=>aB _ U;replace QX:=QX.cS (N:=(Qb.heap.size,Px.heap.size)::PA) r F L fun x U=>aB _ U;have I:=W.iR (S:=FF) r.dA (iv:=(Qb.heap.size,Px.heap.size)::PA) aH;generalize (Qb.heap.size,Px.heap.size)::PA=Oy at*
  obtain⟨A0,A1,A2,A3,rfl⟩:=I.shape;refine cU (J9:=fun _ J v Y=>cY Y (Nf J Y) v (Rat.divInt a 1)) (fun O J r=>lY (rlo r F) (ha.rel r F) (((I.rel r oF).l (k:=1) bi).cP fun g X=>Cv.false X) be be bi) ?_;rintro O QD v3 QC r L hb W;replace V:=V.tr hb;replace ha:=ha.cS (N:=(QD.heap.size,QC.heap.size)::Oy) r F L fun x U=>aB _ U;replace QX:=QX.cS (N:=(QD.heap.size,QC.heap.size)::Oy) r F L fun x U=>aB _ U;replace I:=I.cS (N:=(QD.heap.size,QC.heap.size)::Oy) r oF L fun x U=>aB _ U;have hR:=W.iR (S:=FF) r.dA (iv:=(QD.heap.size,QC.heap.size)::Oy) aH;generalize (QD.heap.size,QC.heap.size)::Oy=PH at*
  obtain⟨C0,C1,C2,C3,C4,C5,C6,C7,rfl⟩:=hR.shape;exact rtn V fun J8 we re=>hR.out re oF
 have h:b.sign≠0:=by simpa using h
 have hb0:b≠0:=by omega
 rw[show ratio a b=Rat.divInt a b from aJ hb0];refine cQ (cU (J9:=fun _ J v Y=>cY Y (Nf J Y) v (Rat.divInt a b)) (fun O J r=>lY (rlo r F) (ha.rel r F) (QX.rel r F) be be hb0) ?_);rintro O Qb v2 Px r L hb W;replace V:=V.tr hb;replace ha:=ha.cS (N:=(Qb.heap.size,Px.heap.size)::PA) r F L fun x U=>aB _ U;replace QX:=QX.cS (N:=(Qb.heap.size,Px.heap.size)::PA) r F L fun x U=>aB _ U;have hR:=W.iR (S:=FF) r.dA (iv:=(Qb.heap.size,Px.heap.size)::PA) aH;generalize (Qb.heap.size,Px.heap.size)::PA=Oy at*
 obtain⟨A0,A1,A2,A3,A4,A5,A6,A7,rfl⟩:=hR.shape;exact rtn V fun J8 we re=>hR.out re oF
theorem BQ{v:Value}(F:Old S w)(hp:e9 w S v p):
  eH PG GT.AA #[v] w (eR w fun v' _=>∃n d ok,v'= .tuple #[iV n,iV d,.bool ok]/\(ok=true->d≠0/\n.natAbs<1073741824/\d.natAbs<1073741824/\Rat.divInt n d=p)):=by
 have V:=bR w;obtain⟨b1,l1,b2,l2,a,b,rfl,ha,QX,rfl⟩:=hp;obtain⟨_,a1,n1,c1,e1⟩:=ha.shape;obtain⟨_,a2,n2,c2,e2⟩:=QX.shape;simp only[Value.agg.injEq,Array.mk.injEq,List.cons.injEq,and_true]at e1 e2;obtain⟨_,rfl⟩:=e1;obtain⟨_,rfl⟩:=e2;replace ha:=ha.cP (S':=Cv S w.heap.size []) fun _ h=>.inl h;replace QX:=QX.cP (S':=Cv S w.heap.size []) fun _ h=>.inl h;refine DI bv ?_
 refine cQ (cU (J9:=fun _ J v Y=>∃n p,v= .tuple #[iV n,.bool p]/\(p=true->n=a/\a.natAbs<1073741824)) (fun O J r=>(pW (rlo r F) (ha.rel r F).r).mono fun e Y ⟨v2,e1,e2,e3⟩=>⟨v2,e1,e2,by
   rw[e3,km];split
   .exact⟨_,_,rfl,fun _=>⟨rfl,‹_›⟩⟩
   .exact⟨_,_,rfl,fun h=>by cases h⟩⟩) ?_)
 rintro O Pw v1 Pa r L hb ⟨na,pa,rfl,qa⟩;replace V:=V.tr hb;replace ha:=ha.cS (N:=(Pw.heap.size,Pa.heap.size)::[]) r F L fun x U=>aB _ U;replace QX:=QX.cS (N:=(Pw.heap.size,Pa.heap.size)::[]) r F L fun x U=>aB _ U;generalize (Pw.heap.size,Pa.heap.size)::[]=PA at*
 refine cQ (cU (J9:=fun _ J v Y=>∃n p,v= .tuple #[iV n,.bool p]/\(p=true->n=b/\b.natAbs<1073741824)) (fun O J r=>(pW (rlo r F) (QX.rel r F).r).mono fun e Y ⟨v2,e1,e2,e3⟩=>⟨v2,e1,e2,by
   rw[e3,km];split
   .exact⟨_,_,rfl,fun _=>⟨rfl,‹_›⟩⟩
   .exact⟨_,_,rfl,fun h=>by cases h⟩⟩) ?_)
 rintro O Qb v2 Px r L hb ⟨nb,pb,rfl,qb⟩;replace V:=V.tr hb;replace ha:=ha.cS (N:=(Qb.heap.size,Px.heap.size)::PA) r F L fun x U=>aB _ U;replace QX:=QX.cS (N:=(Qb.heap.size,Px.heap.size)::PA) r F L fun x U=>aB _ U;generalize (Qb.heap.size,Px.heap.size)::PA=Oy at*
 apply bS<;>intro h
 .have h:nb=0:=by simpa using h
  apply bS<;>intro I
  .intro J8 we re
   exact⟨_,rfl,V.tr re.cZ,⟨na,1,pb,rfl,fun G=>by
     obtain⟨rfl,U⟩:=qa I;obtain⟨rfl,hy⟩:=qb G;rw[h]
     exact⟨bi,U,bi,(aM rfl).symm⟩⟩⟩
  exact rtn V fun J8 we re=>⟨na,1,false,rfl,fun G=>by cases G⟩
 have h:nb≠0:=by simpa using h
 apply bS<;>intro I
 .intro J8 we re
  exact⟨_,rfl,V.tr re.cZ,⟨na,nb,pb,rfl,fun G=>by
    obtain⟨rfl,U⟩:=qa I;obtain⟨rfl,hy⟩:=qb G
    exact⟨h,U,hy,(aJ h).symm⟩⟩⟩
 exact rtn V fun J8 we re=>⟨na,nb,false,rfl,fun G=>by cases G⟩
theorem vR{v:Value}(F:Old S w)(hp:e9 w S v p)(hq:e9 w S u q):
  eH PG GT.Ey #[v,u] w (eR w fun v' Y=>cY Y (Nf w Y) v' (p+q)):=by
 have V:=bR w;replace hp:=hp.cP (S':=Cv S w.heap.size []) fun _ h=>.inl h;replace hq:=hq.cP (S':=Cv S w.heap.size []) fun _ h=>.inl h;obtain⟨b1,a1,n1,c1,b2,a2,n2,c2,rfl⟩:=hp.shape;obtain⟨b3,a3,n3,c3,b4,a4,n4,c4,rfl⟩:=hq.shape;refine G5 bv ?_;have r1:=hp.rl;have r2:=hq.rl;have u1:=gI p;have u2:=fU p;have u3:=gI q;have u4:=fU q;refine cQ (cE V (fun _ J v Y=>∃n d ok,v= .tuple #[iV n,iV d,.bool ok]/\(ok=true->d≠0/\n.natAbs<1073741824/\d.natAbs<1073741824/\Rat.divInt n d=p)) (fun O J r=>BQ (rlo r F) (hp.rel r F)) ?_);rintro O _ _ _ PA r L V E ⟨a,b,k1,rfl,g1⟩;replace hp:=hp.cS r F L (mC E);replace hq:=hq.cS r F L (mC E);refine cQ (cE V (fun _ J v Y=>∃n d ok,v= .tuple #[iV n,iV d,.bool ok]/\(ok=true->d≠0/\n.natAbs<1073741824/\d.natAbs<1073741824/\Rat.divInt n d=q)) (fun O J r=>BQ (rlo r F) (hq.rel r F)) ?_);rintro O _ _ _ Oy r L V E ⟨c,d,k2,rfl,g2⟩;replace hp:=hp.cS r F L (mC E);replace hq:=hq.cS r F L (mC E);apply bS<;>intro I
 .apply bS<;>intro G
  .obtain⟨g3,g4,g5,g6⟩:=g1 I;obtain⟨g7,g8,g9,g10⟩:=g2 G;have i1:=kU g4 g9;have i2:=kU g8 g5;have i3:=kU g5 g9;have i4:=kU g4 g8;refine⟨a*d,wo,c*b,wo,a*d+c*b,wo,b*d,wo,?_⟩;have e:=Rat.divInt_add_divInt a c g3 g7;rw[g6,g10]at e;refine cQ (cE V (pR cY (p+q)) (fun O J r=>e▸td (a*d+c*b) (b*d) J be be (lJ g3 g7)) ?_);rintro O QD v3 QC PH r L V E W;have hR:=W.cP (nw r E);obtain⟨A0,A1,A2,A3,A4,A5,A6,A7,rfl⟩:=hR.shape;exact rtn V fun J8 we re=>hR.out re oF
  refine dP [.x 0,.x 2,.x 1,.x 3,.x 4,.x 5] ?_;refine cE V (pR cY (p)) (fun O J r=>iF (rlo r F) (hp.rel r F)) ?_;rintro O QD v3 QC PH r L V E W;replace hq:=hq.cS r F L (mC E);have hX:=W.cP (nw r E);obtain⟨A0,A1,A2,A3,A4,A5,A6,A7,rfl⟩:=hX.shape;refine cE V (pR cY (q)) (fun O J r=>iF (rlo r F) (hq.rel r F)) ?_;rintro O RF v4 Qw PV r L V E W;replace hX:=hX.cS r oF L (mC E);have hY:=W.cP (nw r E);obtain⟨C0,C1,C2,C3,C4,C5,C6,C7,rfl⟩:=hY.shape;have RQ:=hX.num;have Qx:=hX.den;have RR:=hY.num;have RS:=hY.den;have m0:=dR p.num q.den;have m1:=dR q.num p.den;have m2:=dR (p.den:Int) q.den;have m3:=j9 (p.num*q.den) (q.num*p.den);have m4:=dR p.num q.num;refine dP [.x 0,.x 1,.x 2,.x 3,.x 5,.x 6,.x 7,.x 8,.x 11,.x 12,.x 13,.x 14,.x 4,.x 9,.x 10,.x 15,.x 16,.x 17] ?_;refine cE V (pR db (p.num*(q.den:Int))) (fun O J r=>jK (rlo r oF) ((RQ.rel r oF).l (k:=100000) be) ((RS.rel r oF).l (k:=100000) be) be be) ?_;rintro O SZ v5 SP Qk r L V E W;replace RQ:=RQ.cS r oF L (mC E);replace Qx:=Qx.cS r oF L (mC E);replace RR:=RR.cS r oF L (mC E);replace RS:=RS.cS r oF L (mC E);have hA:=W.cP (nw r E);obtain⟨F0,F1,F2,F3,rfl⟩:=hA.shape;refine cE V (pR db (q.num*(p.den:Int))) (fun O J r=>jK (rlo r oF) ((RR.rel r oF).l (k:=100000) be) ((Qx.rel r oF).l (k:=100000) be) be be) ?_;rintro O Rv v6 Rk RM r L V E W;replace RQ:=RQ.cS r oF L (mC E);replace Qx:=Qx.cS r oF L (mC E);replace RR:=RR.cS r oF L (mC E);replace RS:=RS.cS r oF L (mC E);replace hA:=hA.cS r oF L (mC E);have hB:=W.cP (nw r E);obtain⟨J0,J1,J2,J3,rfl⟩:=hB.shape;refine cE V (pR db (p.num*(q.den:Int)+q.num*(p.den:Int))) (fun O J r=>D9 (rlo r oF) ((hA.rel r oF).l (k:=200000) be) ((hB.rel r oF).l (k:=200000) be) be be) ?_;rintro O Ta v7 Tb Rj r L V E W;replace RQ:=RQ.cS r oF L (mC E);replace Qx:=Qx.cS r oF L (mC E);replace RR:=RR.cS r oF L (mC E);replace RS:=RS.cS r oF L (mC E);have hN:=W.cP (nw r E);obtain⟨K0,K1,K2,K3,rfl⟩:=hN.shape;refine cE V (pR db ((p.den:Int)*(q.den:Int))) (fun O J r=>jK (rlo r oF) ((Qx.rel r oF).l (k:=100000) be) ((RS.rel r oF).l (k:=100000) be) be be) ?_;rintro O Sv v8 TN R5 r L V E W;replace RQ:=RQ.cS r oF L (mC E);replace Qx:=Qx.cS r oF L (mC E);replace RR:=RR.cS r oF L (mC E);replace RS:=RS.cS r oF L (mC E);replace hN:=hN.cS r oF L (mC E);have hD:=W.cP (nw r E);obtain⟨N0,N1,N2,N3,rfl⟩:=hD.shape;refine cE V (pR cY (p+q)) (fun O J r=>(wj p q)▸lY (rlo r oF) ((hN.rel r oF).l (k:=200001) be) ((hD.rel r oF).l (k:=200001) be) be be (lJ (gn p) (gn q))) ?_;rintro O Rc v9 Rl RZ r L V E W;have hR:=W.cP (nw r E);obtain⟨O0,O1,O2,O3,O4,O5,O6,O7,rfl⟩:=hR.shape;exact rtn V fun J8 we re=>hR.out re oF
 refine dP [.x 0,.x 2,.x 1,.x 3,.x 4,.x 5] ?_;refine cE V (pR cY (p)) (fun O J r=>iF (rlo r F) (hp.rel r F)) ?_;rintro O _ _ _ PH r L V E W;replace hq:=hq.cS r F L (mC E);have hX:=W.cP (nw r E);obtain⟨A0,A1,A2,A3,A4,A5,A6,A7,rfl⟩:=hX.shape;refine cE V (pR cY (q)) (fun O J r=>iF (rlo r F) (hq.rel r F)) ?_;rintro O _ _ _ PV r L V E W;replace hX:=hX.cS r oF L (mC E);have hY:=W.cP (nw r E);obtain⟨C0,C1,C2,C3,C4,C5,C6,C7,rfl⟩:=hY.shape;have RQ:=hX.num;have Qx:=hX.den;have RR:=hY.num;have RS:=hY.den;have m0:=dR p.num q.den;have m1:=dR q.num p.den;have m2:=dR (p.den:Int) q.den;have m3:=j9 (p.num*q.den) (q.num*p.den);have m4:=dR p.num q.num;refine dP [.x 0,.x 1,.x 2,.x 3,.x 5,.x 6,.x 7,.x 8,.x 11,.x 12,.x 13,.x 14,.x 4,.x 9,.x 10,.x 15,.x 16,.x 17] ?_;refine cE V (pR db (p.num*(q.den:Int))) (fun O J r=>jK (rlo r oF) ((RQ.rel r oF).l (k:=100000) be) ((RS.rel r oF).l (k:=100000) be) be be) ?_;rintro O _ _ _ Qk r L V E W;replace RQ:=RQ.cS r oF L (mC E);replace Qx:=Qx.cS r oF L (mC E);replace RR:=RR.cS r oF L (mC E);replace RS:=RS.cS r oF L (mC E);have hA:=W.cP (nw r E);obtain⟨F0,F1,F2,F3,rfl⟩:=hA.shape;refine cE V (pR db (q.num*(p.den:Int))) (fun O J r=>jK (rlo r oF) ((RR.rel r oF).l (k:=100000) be) ((Qx.rel r oF).l (k:=100000) be) be be) ?_;rintro O _ _ _ RM r L V E W;replace RQ:=RQ.cS r oF L (mC E);replace Qx:=Qx.cS r oF L (mC E);replace RR:=RR.cS r oF L (mC E);replace RS:=RS.cS r oF L (mC E);replace hA:=hA.cS r oF L (mC E);have hB:=W.cP (nw r E);obtain⟨J0,J1,J2,J3,rfl⟩:=hB.shape;refine cE V (pR db (p.num*(q.den:Int)+q.num*(p.den:Int))) (fun O J r=>D9 (rlo r oF) ((hA.rel r oF).l (k:=200000) be) ((hB.rel r oF).l (k:=200000) be) be be) ?_;rintro O _ _ _ Rj r L V E W;replace RQ:=RQ.cS r oF L (mC E);replace Qx:=Qx.cS r oF L (mC E);replace RR:=RR.cS r oF L (mC E);replace RS:=RS.cS r oF L (mC E);have hN:=W.cP (nw r E);obtain⟨K0,K1,K2,K3,rfl⟩:=hN.shape;refine cE V (pR db ((p.den:Int)*(q.den:Int))) (fun O J r=>jK (rlo r oF) ((Qx.rel r oF).l (k:=100000) be) ((RS.rel r oF).l (k:=100000) be) be be) ?_;rintro O _ _ _ R5 r L V E W;replace RQ:=RQ.cS r oF L (mC E);replace Qx:=Qx.cS r oF L (mC E);replace RR:=RR.cS r oF L (mC E);replace RS:=RS.cS r oF L (mC E);replace hN:=hN.cS r oF L (mC E);have hD:=W.cP (nw r E);obtain⟨N0,N1,N2,N3,rfl⟩:=hD.shape;refine cE V (pR cY (p+q)) (fun O J r=>(wj p q)▸lY (rlo r oF) ((hN.rel r oF).l (k:=200001) be) ((hD.rel r oF).l (k:=200001) be) be be (lJ (gn p) (gn q))) ?_;rintro O _ _ _ RZ r L V E W;have hR:=W.cP (nw r E);obtain⟨O0,O1,O2,O3,O4,O5,O6,O7,rfl⟩:=hR.shape;exact rtn V fun J8 we re=>hR.out re oF
theorem vO{v:Value}(F:Old S w)(hp:e9 w S v p)(hq:e9 w S u q):
  eH PG GT.Ev #[v,u] w (eR w fun v' Y=>cY Y (Nf w Y) v' (p*q)):=by
 have V:=bR w;replace hp:=hp.cP (S':=Cv S w.heap.size []) fun _ h=>.inl h;replace hq:=hq.cP (S':=Cv S w.heap.size []) fun _ h=>.inl h;obtain⟨b1,a1,n1,c1,b2,a2,n2,c2,rfl⟩:=hp.shape;obtain⟨b3,a3,n3,c3,b4,a4,n4,c4,rfl⟩:=hq.shape;refine G2 bv ?_;have r1:=hp.rl;have r2:=hq.rl;have u1:=gI p;have u2:=fU p;have u3:=gI q;have u4:=fU q;refine cQ (cE V (fun _ J v Y=>∃n d ok,v= .tuple #[iV n,iV d,.bool ok]/\(ok=true->d≠0/\n.natAbs<1073741824/\d.natAbs<1073741824/\Rat.divInt n d=p)) (fun O J r=>BQ (rlo r F) (hp.rel r F)) ?_);rintro O _ _ _ PA r L V E ⟨a,b,k1,rfl,g1⟩;replace hp:=hp.cS r F L (mC E);replace hq:=hq.cS r F L (mC E);refine cQ (cE V (fun _ J v Y=>∃n d ok,v= .tuple #[iV n,iV d,.bool ok]/\(ok=true->d≠0/\n.natAbs<1073741824/\d.natAbs<1073741824/\Rat.divInt n d=q)) (fun O J r=>BQ (rlo r F) (hq.rel r F)) ?_);rintro O _ _ _ Oy r L V E ⟨c,d,k2,rfl,g2⟩;replace hp:=hp.cS r F L (mC E);replace hq:=hq.cS r F L (mC E);apply bS<;>intro I
 .apply bS<;>intro G
  .obtain⟨g3,g4,g5,g6⟩:=g1 I;obtain⟨g7,g8,g9,g10⟩:=g2 G;have i1:=kU g4 g9;have i2:=kU g8 g5;have i3:=kU g5 g9;have i4:=kU g4 g8;refine⟨a*c,wo,b*d,wo,?_⟩;have e:=Rat.divInt_mul_divInt a c (d₁:=b) (d₂:=d);rw[g6,g10]at e;refine cQ (cE V (pR cY (p*q)) (fun O J r=>e▸td (a*c) (b*d) J be be (lJ g3 g7)) ?_);rintro O QD v3 QC PH r L V E W;have hR:=W.cP (nw r E);obtain⟨A0,A1,A2,A3,A4,A5,A6,A7,rfl⟩:=hR.shape;exact rtn V fun J8 we re=>hR.out re oF
  refine dP [.x 0,.x 2,.x 1,.x 3,.x 4,.x 5] ?_;refine cE V (pR cY (p)) (fun O J r=>iF (rlo r F) (hp.rel r F)) ?_;rintro O QD v3 QC PH r L V E W;replace hq:=hq.cS r F L (mC E);have hX:=W.cP (nw r E);obtain⟨A0,A1,A2,A3,A4,A5,A6,A7,rfl⟩:=hX.shape;refine cE V (pR cY (q)) (fun O J r=>iF (rlo r F) (hq.rel r F)) ?_;rintro O RF v4 Qw PV r L V E W;replace hX:=hX.cS r oF L (mC E);have hY:=W.cP (nw r E);obtain⟨C0,C1,C2,C3,C4,C5,C6,C7,rfl⟩:=hY.shape;have RQ:=hX.num;have Qx:=hX.den;have RR:=hY.num;have RS:=hY.den;have m0:=dR p.num q.den;have m1:=dR q.num p.den;have m2:=dR (p.den:Int) q.den;have m3:=j9 (p.num*q.den) (q.num*p.den);have m4:=dR p.num q.num;refine dP [.x 0,.x 1,.x 2,.x 3,.x 5,.x 6,.x 7,.x 8,.x 4,.x 9,.x 10,.x 11] ?_;refine cE V (pR db (p.num*q.num)) (fun O J r=>jK (rlo r oF) ((RQ.rel r oF).l (k:=100000) be) ((RR.rel r oF).l (k:=100000) be) be be) ?_;rintro O SZ v5 SP Qk r L V E W;replace RQ:=RQ.cS r oF L (mC E);replace Qx:=Qx.cS r oF L (mC E);replace RR:=RR.cS r oF L (mC E);replace RS:=RS.cS r oF L (mC E);have hN:=W.cP (nw r E);obtain⟨F0,F1,F2,F3,rfl⟩:=hN.shape;refine cE V (pR db ((p.den:Int)*(q.den:Int))) (fun O J r=>jK (rlo r oF) ((Qx.rel r oF).l (k:=100000) be) ((RS.rel r oF).l (k:=100000) be) be be) ?_;rintro O Rv v6 Rk RM r L V E W;replace RQ:=RQ.cS r oF L (mC E);replace Qx:=Qx.cS r oF L (mC E);replace RR:=RR.cS r oF L (mC E);replace RS:=RS.cS r oF L (mC E);replace hN:=hN.cS r oF L (mC E);have hD:=W.cP (nw r E);obtain⟨J0,J1,J2,J3,rfl⟩:=hD.shape;refine cE V (pR cY (p*q)) (fun O J r=>(BC p q)▸lY (rlo r oF) ((hN.rel r oF).l (k:=200001) be) ((hD.rel r oF).l (k:=200001) be) be be (lJ (gn p) (gn q))) ?_;rintro O Ta v7 Tb Rj r L V E W;have hR:=W.cP (nw r E);obtain⟨K0,K1,K2,K3,K4,K5,K6,K7,rfl⟩:=hR.shape;exact rtn V fun J8 we re=>hR.out re oF
 refine dP [.x 0,.x 2,.x 1,.x 3,.x 4,.x 5] ?_;refine cE V (pR cY (p)) (fun O J r=>iF (rlo r F) (hp.rel r F)) ?_;rintro O _ _ _ PH r L V E W;replace hq:=hq.cS r F L (mC E);have hX:=W.cP (nw r E);obtain⟨A0,A1,A2,A3,A4,A5,A6,A7,rfl⟩:=hX.shape;refine cE V (pR cY (q)) (fun O J r=>iF (rlo r F) (hq.rel r F)) ?_;rintro O _ _ _ PV r L V E W;replace hX:=hX.cS r oF L (mC E);have hY:=W.cP (nw r E);obtain⟨C0,C1,C2,C3,C4,C5,C6,C7,rfl⟩:=hY.shape;have RQ:=hX.num;have Qx:=hX.den;have RR:=hY.num;have RS:=hY.den;have m0:=dR p.num q.den;have m1:=dR q.num p.den;have m2:=dR (p.den:Int) q.den;have m3:=j9 (p.num*q.den) (q.num*p.den);have m4:=dR p.num q.num;refine dP [.x 0,.x 1,.x 2,.x 3,.x 5,.x 6,.x 7,.x 8,.x 4,.x 9,.x 10,.x 11] ?_;refine cE V (pR db (p.num*q.num)) (fun O J r=>jK (rlo r oF) ((RQ.rel r oF).l (k:=100000) be) ((RR.rel r oF).l (k:=100000) be) be be) ?_;rintro O _ _ _ Qk r L V E W;replace RQ:=RQ.cS r oF L (mC E);replace Qx:=Qx.cS r oF L (mC E);replace RR:=RR.cS r oF L (mC E);replace RS:=RS.cS r oF L (mC E);have hN:=W.cP (nw r E);obtain⟨F0,F1,F2,F3,rfl⟩:=hN.shape;refine cE V (pR db ((p.den:Int)*(q.den:Int))) (fun O J r=>jK (rlo r oF) ((Qx.rel r oF).l (k:=100000) be) ((RS.rel r oF).l (k:=100000) be) be be) ?_;rintro O _ _ _ RM r L V E W;replace RQ:=RQ.cS r oF L (mC E);replace Qx:=Qx.cS r oF L (mC E);replace RR:=RR.cS r oF L (mC E);replace RS:=RS.cS r oF L (mC E);replace hN:=hN.cS r oF L (mC E);have hD:=W.cP (nw r E);obtain⟨J0,J1,J2,J3,rfl⟩:=hD.shape;refine cE V (pR cY (p*q)) (fun O J r=>(BC p q)▸lY (rlo r oF) ((hN.rel r oF).l (k:=200001) be) ((hD.rel r oF).l (k:=200001) be) be be (lJ (gn p) (gn q))) ?_;rintro O _ _ _ Rj r L V E W;have hR:=W.cP (nw r E);obtain⟨K0,K1,K2,K3,K4,K5,K6,K7,rfl⟩:=hR.shape;exact rtn V fun J8 we re=>hR.out re oF
theorem KL{v:Value}(F:Old S w)(hp:e9 w S v p):
  eH PG GT.Eu #[v] w (eR w fun v' Y=>cY Y (Nf w Y) v' (-p)):=by
 have V:=bR w;replace hp:=hp.cP (S':=Cv S w.heap.size []) fun _ h=>.inl h;obtain⟨b1,a1,n1,c1,b2,a2,n2,c2,rfl⟩:=hp.shape;refine G0 bv ?_;have r1:=hp.rl;have u1:=gI p;have u2:=fU p;refine cQ (cE V (pR cY (p)) (fun O J r=>iF (rlo r F) (hp.rel r F)) ?_);rintro O _ _ _ PA r L V E W;have hX:=W.cP (nw r E);obtain⟨A0,A1,A2,A3,A4,A5,A6,A7,rfl⟩:=hX.shape;have RQ:=hX.num;have Qx:=hX.den;refine dP [.x 0,.x 1,.x 3,.x 4,.x 2,.x 5,.x 6] ?_;refine cE V (pR db (-p.num)) (fun O J r=>nR (rlo r oF) ((RQ.rel r oF).l (k:=100000) be) be) ?_;rintro O _ _ _ Oy r L V E W;replace Qx:=Qx.cS r oF L (mC E);have hN:=W.cP (nw r E);obtain⟨C0,C1,C2,C3,rfl⟩:=hN.shape;refine cE V (pR cY (-p)) (fun O J r=>show eH _ _ _ _ (eR _ fun v Y=>cY Y _ v (-p))from(show Rat.divInt (-p.num) p.den= -p by rw[<-Rat.neg_divInt,Rat.num_divInt_den])▸lY (rlo r oF) ((hN.rel r oF).l (k:=100000) (by rw[cO];omega)) ((Qx.rel r oF).l (k:=100000) be) be be (gn p)) ?_;rintro O _ _ _ PH r L V E W;have hR:=W.cP (nw r E);obtain⟨F0,F1,F2,F3,F4,F5,F6,F7,rfl⟩:=hR.shape;exact rtn V fun J8 we re=>hR.out re oF
theorem Ku{v:Value}(F:Old S w)(hp:e9 w S v p)(hq:e9 w S u q):
  eH PG GT.Ez #[v,u] w (eR w fun v' Y=>cY Y (Nf w Y) v' (p-q)):=by
 have V:=bR w;replace hp:=hp.cP (S':=Cv S w.heap.size []) fun _ h=>.inl h;replace hq:=hq.cP (S':=Cv S w.heap.size []) fun _ h=>.inl h;obtain⟨b1,a1,n1,c1,b2,a2,n2,c2,rfl⟩:=hp.shape;obtain⟨b3,a3,n3,c3,b4,a4,n4,c4,rfl⟩:=hq.shape;refine G6 bv ?_;have r1:=hp.rl;have r2:=hq.rl;have u1:=jE q;refine dP (idO 5) ?_;refine cE V (pR cY (-q)) (fun O J r=>KL (rlo r F) (hq.rel r F)) ?_;rintro O _ _ _ PA r L V E W;replace hp:=hp.cS r F L (mC E);have hN:=W.cP (nw r E);obtain⟨A0,A1,A2,A3,A4,A5,A6,A7,rfl⟩:=hN.shape;refine cE V (pR cY (p-q)) (fun O J r=>(Rat.sub_eq_add_neg p q)▸vR (rlo r F) (hp.rel r F) (((hN.rel r oF).l be).cP fun g X=>Cv.false X)) ?_;rintro O _ _ _ Oy r L V E W;have hR:=W.cP (nw r E);obtain⟨C0,C1,C2,C3,C4,C5,C6,C7,rfl⟩:=hR.shape;exact rtn V fun J8 we re=>hR.out re oF
theorem aDC{v:Value}(F:Old S w)(hp:e9 w S v p)(hq:e9 w S u q):
  eH PG GT.Et #[v,u] w (eR w fun v' _=>v'=iV (rs (p-q))):=by
 have V:=bR w;replace hp:=hp.cP (S':=Cv S w.heap.size []) fun _ h=>.inl h;replace hq:=hq.cP (S':=Cv S w.heap.size []) fun _ h=>.inl h;obtain⟨b1,a1,n1,c1,b2,a2,n2,c2,rfl⟩:=hp.shape;obtain⟨b3,a3,n3,c3,b4,a4,n4,c4,rfl⟩:=hq.shape;refine GZ bv ?_;refine cQ (cE V (pR cY (p-q)) (fun O J r=>Ku (rlo r F) (hp.rel r F) (hq.rel r F)) ?_);rintro O _ _ _ PA r L V E W;have hR:=W.cP (nw r E);obtain⟨A0,A1,A2,A3,A4,A5,A6,A7,rfl⟩:=hR.shape;refine cQ (cE V (pE (iV (rs (p-q)))) (fun O J r=>zF (rlo r oF) (hR.rel r oF)) ?_);rintro O _ _ _ Oy r L V E rfl;exact rtn V fun J8 we re=>rfl
theorem aDR{v:Value}(F:Old S w)(hp:e9 w S v p)(hq:e9 w S u q):
  eH PG GT.yj #[v,u] w (eR w fun v' Y=>(q=0/\v'= .tuple #[D4,iV 9])\/(q≠0/\∃r,v'= .tuple #[r,iV 0]/\cY Y (Nf w Y) r (p / q))):=by
 have V:=bR w;replace hp:=hp.cP (S':=Cv S w.heap.size []) fun _ h=>.inl h;replace hq:=hq.cP (S':=Cv S w.heap.size []) fun _ h=>.inl h;obtain⟨b1,a1,n1,c1,b2,a2,n2,c2,rfl⟩:=hp.shape;obtain⟨b3,a3,n3,c3,b4,a4,n4,c4,rfl⟩:=hq.shape;refine Ga bv ?_;have r1:=hp.rl;have r2:=hq.rl;have u1:=gI p;have u2:=fU p;have u3:=gI q;have u4:=fU q;have m0:=dR p.num q.den;have m1:=dR (p.den:Int) q.num;refine dP [.x 0,.x 2,.x 1,.x 3,.x 4,.x 5] ?_;refine cE V (pR cY (p)) (fun O J r=>iF (rlo r F) (hp.rel r F)) ?_;rintro O _ _ _ PA r L V E W;replace hq:=hq.cS r F L (mC E);have hX:=W.cP (nw r E);obtain⟨A0,A1,A2,A3,A4,A5,A6,A7,rfl⟩:=hX.shape;refine cE V (pR cY (q)) (fun O J r=>iF (rlo r F) (hq.rel r F)) ?_;rintro O _ _ _ Oy r L V E W;replace hX:=hX.cS r oF L (mC E);have hY:=W.cP (nw r E);obtain⟨C0,C1,C2,C3,C4,C5,C6,C7,rfl⟩:=hY.shape;refine cQ (cE V (pE (iV (rs q))) (fun O J r=>zF (rlo r oF) (hY.rel r oF)) ?_);rintro O _ _ _ PH r L V E rfl;replace hX:=hX.cS r oF L (mC E);replace hY:=hY.cS r oF L (mC E);apply bS<;>intro h
 .have h:rs q=0:=by simpa using h
  exact rtn V fun J8 we re=>.inl ⟨lV.1 h,rfl⟩
 have h:q≠0:=fun e=>by rw[e]at h;exact absurd h bi
 have hqn:q.num≠0:=fun e=>h (Rat.num_eq_zero.1 e);have RQ:=hX.num;have Qx:=hX.den;have RR:=hY.num;have RS:=hY.den;refine dP [.x 0,.x 1,.x 2,.x 3,.x 5,.x 6,.x 7,.x 8,.x 4,.x 9,.x 10,.x 11,.x 12] ?_;refine cE V (pR db (p.num*(q.den:Int))) (fun O J r=>jK (rlo r oF) ((RQ.rel r oF).l (k:=100000) be) ((RS.rel r oF).l (k:=100000) be) be be) ?_;rintro O _ _ _ PV r L V E W;replace Qx:=Qx.cS r oF L (mC E);replace RR:=RR.cS r oF L (mC E);have hN:=W.cP (nw r E);obtain⟨F0,F1,F2,F3,rfl⟩:=hN.shape;refine cE V (pR db ((p.den:Int)*q.num)) (fun O J r=>jK (rlo r oF) ((Qx.rel r oF).l (k:=100000) be) ((RR.rel r oF).l (k:=100000) be) be be) ?_;rintro O _ _ _ Qk r L V E W;replace hN:=hN.cS r oF L (mC E);have hD:=W.cP (nw r E);obtain⟨J0,J1,J2,J3,rfl⟩:=hD.shape;refine cE V (pR cY (p / q)) (fun O J r=>(GG p q)▸lY (rlo r oF) ((hN.rel r oF).l (k:=200001) be) ((hD.rel r oF).l (k:=200001) be) be be (lJ (gn p) hqn)) ?_;rintro O _ _ _ RM r L V E W;have hR:=W.cP (nw r E);obtain⟨K0,K1,K2,K3,K4,K5,K6,K7,rfl⟩:=hR.shape;exact rtn V fun J8 we re=>.inr ⟨h,_,rfl,hR.out re oF⟩
theorem oK(n:Int)(w:World)(h1n: -9223372036854775808<=n)(h2n:n<=9223372036854775807):
  eH PG GT.sE #[iV n] w (eR w fun v' Y=>cY Y (Nf w Y) v' (n:Rat)):=by
 have V:=bR w;have ha:=nN h1n h2n;refine sQ bv ?_;refine cQ (cE V (pR db (n)) (fun O J r=>mO n J h1n h2n) ?_);rintro O _ _ _ PA r L V E W;have hA:=W.cP (nw r E);obtain⟨A0,A1,A2,A3,rfl⟩:=hA.shape;refine cQ (cE V (pR db (1)) (fun O J r=>mO 1 J bi bi) ?_);rintro O _ _ _ Oy r L V E W;replace hA:=hA.cS r oF L (mC E);have hB:=W.cP (nw r E);obtain⟨C0,C1,C2,C3,rfl⟩:=hB.shape;refine cQ (cE V (pR cY ((n:Rat))) (fun O J r=>(D7 n)▸lY (rlo r oF) ((hA.rel r oF).l (k:=2) be) ((hB.rel r oF).l (k:=2) bi) be be bi) ?_);rintro O _ _ _ PH r L V E W;have hR:=W.cP (nw r E);obtain⟨F0,F1,F2,F3,F4,F5,F6,F7,rfl⟩:=hR.shape;exact rtn V fun J8 we re=>hR.out re oF
theorem aBC(a b:Int)(w:World)(h1a: -9223372036854775808<=a)(h2a:a<=9223372036854775807)(h1b: -9223372036854775808<=b)(h2b:b<=9223372036854775807):
  eH PG GT.zp #[iV a,iV b] w (eR w fun v' Y=>(b=0/\v'= .tuple #[D4,iV 9])\/(b≠0/\∃q,v'= .tuple #[q,iV 0]/\cY Y (Nf w Y) q (Rat.divInt a b))):=by
 have V:=bR w;have ha:=nN h1a h2a;have QX:=nN h1b h2b;refine DA bv ?_;apply bS<;>intro h
 .have h:b=0:=by simpa using h
  exact rtn V fun J8 we re=>.inl ⟨h,rfl⟩
 have h:b≠0:=by simpa using h
 refine cQ (cE V (pR db (a)) (fun O J r=>mO a J h1a h2a) ?_);rintro O _ _ _ PA r L V E W;have hA:=W.cP (nw r E);obtain⟨A0,A1,A2,A3,rfl⟩:=hA.shape;refine cQ (cE V (pR db (b)) (fun O J r=>mO b J h1b h2b) ?_);rintro O _ _ _ Oy r L V E W;replace hA:=hA.cS r oF L (mC E);have hB:=W.cP (nw r E);obtain⟨C0,C1,C2,C3,rfl⟩:=hB.shape;refine cQ (cE V (pR cY (Rat.divInt a b)) (fun O J r=>lY (rlo r oF) ((hA.rel r oF).l (k:=2) be) ((hB.rel r oF).l (k:=2) be) be be h) ?_);rintro O _ _ _ PH r L V E W;have hR:=W.cP (nw r E);obtain⟨F0,F1,F2,F3,F4,F5,F6,F7,rfl⟩:=hR.shape;exact rtn V fun J8 we re=>.inr ⟨h,_,rfl,hR.out re oF⟩
section
variable{S S':Nat->Prop}{H:Hp}{nx:Nat}{iv N:Iv}{B:Nat}{w J Y:World}{O:Nat->Sx.eG}{v:Value}{a:Int}{b:Int}
end
theorem kX.short{b:Bool}{n c:Nat}{z:Int}(h:kX w S (.agg #[.bool b,.slice a n c]) z)(K:n<=k):gG w S (.agg #[.bool b,.slice a n c]) k z:=by
 obtain⟨b2,ls,⟨lv,e1,h3⟩,G⟩:=h;obtain⟨a2,c2,e2,_⟩:=h3.sl;subst e2;simp only[Value.agg.injEq,Array.mk.injEq,List.cons.injEq,Value.bool.injEq,Value.slice.injEq,and_true]at e1;obtain⟨rfl,rfl,e3,rfl⟩:=e1;exact⟨_,ls,⟨_,by rw[e3],h3⟩,G,be⟩
def mI(w:World)(S:Nat->Prop)(Z:List Value)(q:Rat):Prop:=∃b a n c b2 a2 n2 c2,Z=(rC b a n c b2 a2 n2 c2)/\e9 w S (.agg #[.bool b,.slice a n c,.bool b2,.slice a2 n2 c2]) q
abbrev dK:=dT mI
abbrev fT:=dI dK
section
variable{S S':Nat->Prop}{H:Hp}{nx:Nat}{iv N:Iv}{B:Nat}{w J Y:World}{O:Nat->Sx.eG}{v:Value}{qs:List Rat}{Z:List Value}{q:Rat}
theorem mI.cR(h:mI w S Z q)(K:∀g,S g->Y.heap[g]? =w.heap[g]?):mI Y S Z q:=by
 obtain⟨b,a,n,c,b2,a2,n2,c2,I,G⟩:=h;exact⟨b,a,n,c,b2,a2,n2,c2,I,G.cR K⟩
theorem mI.cP(h:mI w S Z q)(K:∀g,S g->S' g):mI w S' Z q:=by
 obtain⟨b,a,n,c,b2,a2,n2,c2,I,G⟩:=h;exact⟨b,a,n,c,b2,a2,n2,c2,I,G.cP K⟩
theorem dK.cR(h:dK w S v qs)(K:∀g,S g->Y.heap[g]? =w.heap[g]?):dK Y S v qs:=by
 obtain⟨A,I,G,h3,h4⟩:=h;exact⟨A,I.cR K,G,h3,fun j Z x k1 k2=>(h4 j Z x k1 k2).cR K⟩
theorem dK.cP(h:dK w S v qs)(K:∀g,S g->S' g):dK w S' v qs:=by
 obtain⟨A,I,G,h3,h4⟩:=h;exact⟨A,I.cP K,G,h3,fun j Z x k1 k2=>(h4 j Z x k1 k2).cP K⟩
theorem fT.cR(h:fT w S v M)(K:∀g,S g->Y.heap[g]? =w.heap[g]?):fT Y S v M:=by
 obtain⟨rv,I,G,h3⟩:=h;exact⟨rv,I.cR K,G,fun i u x k1 k2=>dK.cR (h3 i u x k1 k2) K⟩
theorem fT.cP(h:fT w S v M)(K:∀g,S g->S' g):fT w S' v M:=by
 obtain⟨rv,I,G,h3⟩:=h;exact⟨rv,I.cP K,G,fun i u x k1 k2=>dK.cP (h3 i u x k1 k2) K⟩
end
section
variable{S S':Nat->Prop}{H:Hp}{nx:Nat}{iv N:Iv}{B:Nat}{w J Y:World}{O:Nat->Sx.eG}{v:Value}{qs:List Rat}
theorem dK.rel(h:dK w (Cv S B iv) v qs)(r:Rel H nx iv B w O J)(F:∀g,S g->g<B):dK J (Cv S B iv) v qs:=dK.cR h fun _ X=>rls r F X
theorem dK.cS(h:dK w (Cv S B iv) v qs)(r:Rel H nx iv B w O J)(F:∀g,S g->g<B)(L:Ext J Y)(hm:∀p,p∈iv->p∈N):dK Y (Cv S B N) v qs:=
 dK.cP (dK.cR (dK.rel h r F) fun g X=>L.block g (rlo r F g X)) fun _ X=>X.mono hm
theorem dK.out{w0 w1:World}(h:dK w1 (Cv S w0.heap.size iv) v qs)(r:Rel H nx iv w0.heap.size w1 O J)(F:Old S w0):dK J (Nw S w0 J) v qs:=
 dK.cP (dK.rel h r F) fun _ X=>Cv.nw X r
end
section
variable{S S':Nat->Prop}{H:Hp}{nx:Nat}{iv N:Iv}{B:Nat}{w J Y:World}{O:Nat->Sx.eG}{v:Value}{M:List (List Rat)}
theorem fT.rel(h:fT w (Cv S B iv) v M)(r:Rel H nx iv B w O J)(F:∀g,S g->g<B):fT J (Cv S B iv) v M:=fT.cR h fun _ X=>rls r F X
theorem fT.cS(h:fT w (Cv S B iv) v M)(r:Rel H nx iv B w O J)(F:∀g,S g->g<B)(L:Ext J Y)(hm:∀p,p∈iv->p∈N):fT Y (Cv S B N) v M:=
 fT.cP (fT.cR (fT.rel h r F) fun g X=>L.block g (rlo r F g X)) fun _ X=>X.mono hm
theorem fT.old(h:fT Y (Nw (Cv S B iv) J Y) v M)(hB:B<=J.heap.size):fT Y (Cv S B ((J.heap.size,Y.heap.size)::iv)) v M:=fT.cP h fun _ X=>Nw.cv X hB
theorem fT.arg(h:fT w S v M)(iv:Iv):fT w (Cv S w.heap.size iv) v M:=fT.cP h fun _ h=>.inl h
end
end Go.Ex
