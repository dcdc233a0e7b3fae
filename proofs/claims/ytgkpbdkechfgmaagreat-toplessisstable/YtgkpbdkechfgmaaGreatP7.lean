/- Texts X59 to X74: lemmas, each with its conditions. -/
import Derived.Test.YtgkpbdkechfgmaaGreatP6
namespace Go.Ex
open Go Go.Sx Go.Proofs
variable{U:List Int}
theorem Ao.at{n:Nat}{z:Int}(h:Ao U n z)(i:Nat): -65535<=U.getD i 0/\U.getD i 0<=65535:=by
 rw[List.getD]
 cases hj:U[i]? with
 |none=>simp
 |some d=>exact h.2.2.1 d (aE hj)
end Go.Ex
namespace Go.Sx
open Go Go.Ex Go.Proofs
variable{U:List Int}{O:Nat->Sx.dL}
theorem Rel.Me{H:Hp}{nx:Nat}{iv:Iv}{B:Nat}{w J:World}(r:Rel H nx iv B w O J){id m:Nat}(h:cV H id=some (.vec T.int 1 (U.map (Value.int .i64))))(hm:m=U.length)(hl:m<=maxLen):
  ∃S',Old S' J/\dR J S' ((SV.o (.w id m)).den O) U:=by
 have OR:=r.DI (m:=m) h (by rw[aL,hm,aY]) (by decide);exact⟨_,fun g G=>(ownsRow.low OR g G).2,qv OR hm hl⟩
end Go.Sx
namespace Go.Ex
open Go Go.Sx Go.Proofs
variable{x y:Int}{U:List Int}{k:Nat}{S:Nat->Prop}{O:Nat->Sx.dL}{u:Value}{w:World}
theorem mj{H:Hp}{nx:Nat}{iv:Iv}{B:Nat}{J:World}(r:Rel H nx iv B w O J){id m:Nat}{z:Int}(h:cV H id=some (.vec T.int 1 (U.map (Value.int .i64))))(hm:m=U.length)(hl:m<=100000000)
  (hb:∀c∈U,-1152921504606846976<=c/\c<=1152921504606846976) (hz:dC U=z):dx PG F'.jz #[(SV.o (.w id m)).den O] J (eH J fun v' V=>cu V (Nf J V) v' z):=by
 subst hz;obtain⟨S',I,X⟩:=r.Me h hm (by unfold maxLen;omega);exact vh I X hb (by omega)
theorem AK{v:Value}{l:Nat}(F:Old S w)(L:fQ w S v k x)(hy:fQ w S u l y)(R:k<=10000000)(hl:l<=10000000):
  dx PG F'.B3 #[v,u] w (eH w fun v' V=>cu V (Nf w V) v' (x+y)):=by
 have Y:=bR w;replace L:=L.cF (S':=Cv S w.heap.size []) fun _ h=>.inl h;replace hy:=hy.cF (S':=Cv S w.heap.size []) fun _ h=>.inl h;obtain⟨b1,a1,n1,c1,rfl⟩:=L.shape;obtain⟨b2,a2,n2,c2,rfl⟩:=hy.shape;refine Cb (by simp) ?_;refine cI hτ dN [.x 0,.x 2,.x 1,.x 3,.x 4,.x 5] (by kernel_rfl) (by kernel_rfl) ?_;refine cE Y (fun _ J v V=>∃U,dR V (Nf J V) v U/\Ao U (2*k) (x)) (fun O J r=>qz (Rel.old r F) (L.rel r F) (by omega)) ?_;rintro O _ _ _ OZ r W Y h_ ⟨ca,k1,bca⟩;replace hy:=hy.cD r F W (mC h_);have PF:=k1.dD (S:=FF) r.bz (mN h_);obtain⟨aca,cca,rfl,lca⟩:=PF.shape;refine cE Y (fun _ J v V=>∃U,dR V (Nf J V) v U/\Ao U (2*l) (y)) (fun O J r=>qz (Rel.old r F) (hy.rel r F) (by omega)) ?_;rintro O _ _ _ OU r W Y h_ ⟨cb,k1,bcb⟩;replace PF:=PF.cD r (bw w) W (mC h_);have PB:=k1.dD (S:=FF) r.bz (mN h_);obtain⟨acb,ccb,rfl,lcb⟩:=PB.shape
 refine⟨Nat×World×Iv,fun z=>⟨[(4,pP 2 0),(5,sV aca ca.length cca),(6,sV acb cb.length ccb),(7,.o (.w 3 z.1)),(8,iZ z.1)],[(3,.vec T.int 1 (((List.range z.1).map fun j=>ca.getD j 0+cb.getD j 0).map (Value.int .i64))),(2,.box T.Int [.v (.bool false),.v (.slice none 0 0)])],4,z.2.2,z.2.1⟩,fun z=>max ca.length cb.length-z.1,
  fun z=>z.1<=max ca.length cb.length/\dT w.heap.size w z.2.1/\dR z.2.1 (Cf w z.2.2) (.slice aca ca.length cca) ca/\dR z.2.1 (Cf w z.2.2) (.slice acb cb.length ccb) cb,?_,?_⟩
 ·intro O J r
  exact⟨(0,J,OU),⟨by simp,Y.tr r.cL,PF.rel r (bw w),PB.rel r (bw w)⟩,Sub.nil 7 T.int 1 rfl (by simp[l5,SV.sc,At.sc,iW]) r fun In r1=>
   Sub.gn [] r1⟩
 rintro⟨i,w1,iv⟩ ⟨D,Y,PF,PB⟩;dsimp only at D Y PF PB ⊢;have l1:=bca.2.1;have l2:=bcb.2.1;refine dB.mk ?_ ?_<;>intro OQ
 ·have OQ:i<max ca.length cb.length:=by
   have:=aK OQ;omega
  have q1:=bca.at i;have q2:=bcb.at i;refine cB (cE Y (fun _ J v V=>v= .int .i64 (ca.getD i 0)) (fun O J r=>Mz (Rel.old r (bw w)) (PF.rel r (bw w))) ?_);rintro O PY v3 PX Oi r W Y h_ rfl;replace PF:=PF.cD r (bw w) W (mC h_);replace PB:=PB.cD r (bw w) W (mC h_);refine cB (cE Y (fun _ J v V=>v= .int .i64 (cb.getD i 0)) (fun O J r=>Mz (Rel.old r (bw w)) (PB.rel r (bw w))) ?_);rintro O _ _ _ Ow r W Y h_ rfl;replace PF:=PF.cD r (bw w) W (mC h_);replace PB:=PB.cD r (bw w) W (mC h_);refine⟨ca.getD i 0+cb.getD i 0,wo,?_⟩;refine .inl ?_;refine⟨by simp,by omega,by unfold maxLen;omega,((i+1:Nat):Int),wo,?_⟩;intro IR w3 K;have Td:((List.range (i+1)).map fun j=>ca.getD j 0+cb.getD j 0).map (Value.int .i64)=((List.range i).map fun j=>ca.getD j 0+cb.getD j 0).map (Value.int .i64)++[.int .i64 (ca.getD i 0+cb.getD i 0)]:=by
   rw[bW,List.map_append,List.map_append];rfl
  exact⟨(i+1,w3,_),⟨OQ,Y.tr K.cL,PF.rel K (bw w),PB.rel K (bw w)⟩,Sub.gn [(3,5)] K ⟨by dsimp only;rw[Td];rfl,rfl,trivial⟩,by dsimp only;omega⟩
 have OQ:i=max ca.length cb.length:=by
  have:=aH OQ;omega
 generalize Ok:((List.range i).map fun j=>ca.getD j 0+cb.getD j 0)=U;have hz:dC U=x+y:=by
  rw[<-Ok,zF,zG,pT ca i (by omega),pT cb i (by omega),bca.1,bcb.1]
 have hlen:i=U.length:=by rw[<-Ok];simp
 have Pf:∀c∈U,-1152921504606846976<=c/\c<=1152921504606846976:=fun c hc=>by
  rw[<-Ok]at hc;obtain⟨j,_,rfl⟩:=aR.1 hc;have:=bca.at j;have:=bcb.at j;omega
 refine cB (cE Y (fun _ J v V=>cu V (Nf J V) v (x+y)) (fun O J r=>mj r rfl hlen (by omega) Pf hz) ?_);rintro O _ _ _ Oi r W Y h_ Z;have hC:=Z.dD (S:=FF) r.bz (mN h_);obtain⟨A0,A1,A2,A3,rfl⟩:=hC.shape;exact rtn Y fun GT we re=>hC.out re (bw w)
theorem DK{v:Value}{l:Nat}(F:Old S w)(L:fQ w S v k x)(hy:fQ w S u l y)(R:k<=10000000)(hl:l<=10000000):
  dx PG F'.zO #[v,u] w (eH w fun v' V=>cu V (Nf w V) v' (x-y)):=by
 have Q3:=hy.ln;have Y:=bR w;replace L:=L.cF (S':=Cv S w.heap.size []) fun _ h=>.inl h;replace hy:=hy.cF (S':=Cv S w.heap.size []) fun _ h=>.inl h;obtain⟨b1,a1,n1,c1,rfl⟩:=L.shape;obtain⟨b2,a2,n2,c2,rfl⟩:=hy.shape;refine Ae (by simp) ?_;refine cI hτ dN [.x 0,.x 1,.x 2,.x 3,.x 4] (by kernel_rfl) (by kernel_rfl) ?_;refine cE Y (fun _ J v V=>cu V (Nf J V) v (-y)) (fun O J r=>nN (Rel.old r F) (hy.rel r F) (by omega)) ?_;rintro O _ _ _ OZ r W Y h_ Z;replace L:=L.cD r F W (mC h_);have hm:=Z.dD (S:=FF) r.bz (mN h_);obtain⟨A0,A1,A2,A3,rfl⟩:=hm.shape;refine cE Y (fun _ J v V=>cu V (Nf J V) v (x-y)) (fun O J r=>?_) ?_
 ·have h:=AK (Rel.old r F) (L.rel r F) (((hm.rel r (bw w)).l (k:=l) (by rw[Int.natAbs_neg];exact Q3)).cF fun g G=>Cv.false G) R hl;rw[<-Int.sub_eq_add_neg]at h;exact h
 rintro O _ _ _ OU r W Y h_ Z;have hC:=Z.dD (S:=FF) r.bz (mN h_);obtain⟨C0,C1,C2,C3,rfl⟩:=hC.shape;exact rtn Y fun GT we re=>hC.out re (bw w)
theorem JC{v:Value}{l:Nat}(F:Old S w)(L:fQ w S v k x)(hy:fQ w S u l y)(R:k<=10000000)(hl:l<=10000000):
  dx PG F'.tj #[v,u] w (eH w fun v' _=>v'= .int .i64 (x-y).sign):=by
 have Y:=bR w;replace L:=L.cF (S':=Cv S w.heap.size []) fun _ h=>.inl h;replace hy:=hy.cF (S':=Cv S w.heap.size []) fun _ h=>.inl h;obtain⟨b1,a1,n1,c1,rfl⟩:=L.shape;obtain⟨b2,a2,n2,c2,rfl⟩:=hy.shape;refine xN (by simp) ?_;refine cB (cE Y (fun _ J v V=>cu V (Nf J V) v (x-y)) (fun O J r=>DK (Rel.old r F) (L.rel r F) (hy.rel r F) R hl) ?_);rintro O _ _ _ OZ r W Y h_ Z;have hd:=Z.dD (S:=FF) r.bz (mN h_);obtain⟨A0,A1,A2,A3,rfl⟩:=hd.shape;refine cB (cE Y (fun _ J v V=>v= .int .i64 (x-y).sign) (fun O J r=>gN (Rel.old r (bw w)) (hd.rel r (bw w)).r) ?_);rintro O _ _ _ OU r W Y h_ rfl;exact rtn Y fun GT we re=>rfl
end Go.Ex
namespace Go.Ex
open Go Go.Sx Go.Proofs
variable{S:Nat->Prop}
theorem JD{x y:Int}(L: -65535<=x/\x<=65535)(hy: -65535<=y/\y<=65535):(x*y).natAbs<=4294836225:=by
 rw[Int.natAbs_mul];exact Nat.mul_le_mul (show x.natAbs<=65535 by omega) (show y.natAbs<=65535 by omega)
theorem Bu{a b:List Int}{i k:Nat}(R:k<=i+1)(h:i<k\/a.length<=k):iQ a b i k=fw a b i:=by
 rcases h with h|h
 ·rw[fw,show i+1=k by omega]
 ·obtain⟨m,hm⟩:∃m,i+1=k+m:=⟨i+1-k,by omega⟩
  rw[fw,hm,GH a b i k m h]
theorem iw{w:World}{v u:Value}{k l:Nat}{x y:Int}(F:Old S w)(L:fQ w S v k x)(hy:fQ w S u l y)(R:k<=10000000)(hl:l<=10000000):
  dx PG F'.zL #[v,u] w (eH w fun v' V=>cu V (Nf w V) v' (x*y)):=by
 have Y:=bR w;replace L:=L.cF (S':=Cv S w.heap.size []) fun _ h=>.inl h;replace hy:=hy.cF (S':=Cv S w.heap.size []) fun _ h=>.inl h;obtain⟨b1,a1,n1,c1,rfl⟩:=L.shape;obtain⟨b2,a2,n2,c2,rfl⟩:=hy.shape;refine Ac (by simp) ?_;refine cI hτ dN [.x 0,.x 2,.x 1,.x 3,.x 4,.x 5] (by kernel_rfl) (by kernel_rfl) ?_;refine cE Y (fun _ J v V=>∃U,dR V (Nf J V) v U/\Ao U (2*k) (x)) (fun O J r=>qz (Rel.old r F) (L.rel r F) (by omega)) ?_;rintro O _ _ _ OZ r W Y h_ ⟨ca,k1,bca⟩;replace hy:=hy.cD r F W (mC h_);have PF:=k1.dD (S:=FF) r.bz (mN h_);obtain⟨aca,cca,rfl,lca⟩:=PF.shape;refine cE Y (fun _ J v V=>∃U,dR V (Nf J V) v U/\Ao U (2*l) (y)) (fun O J r=>qz (Rel.old r F) (hy.rel r F) (by omega)) ?_;rintro O _ _ _ OU r W Y h_ ⟨cb,k1,bcb⟩;replace PF:=PF.cD r (bw w) W (mC h_);have PB:=k1.dD (S:=FF) r.bz (mN h_);obtain⟨acb,ccb,rfl,lcb⟩:=PB.shape;have l1:=bca.2.1;have l2:=bcb.2.1
 refine⟨Nat×World,fun z=>⟨[(4,pP 2 0),(5,sV aca ca.length cca),(6,sV acb cb.length ccb),(7,.o (.w 3 z.1)),(8,iN z.1)],[(3,.vec T.int 1 (((List.range z.1).map (fw ca cb)).map (Value.int .i64))),(2,.box T.Int [.v (.bool false),.v (.slice none 0 0)])],4,OU,z.2⟩,fun z=>ca.length+cb.length-z.1,
  fun z=>(z.1+1<=ca.length+cb.length\/z.1=0)/\dT w.heap.size w z.2/\dR z.2 (Cf w OU) (.slice aca ca.length cca) ca/\dR z.2 (Cf w OU) (.slice acb cb.length ccb) cb,?_,?_⟩
 ·intro O J r
  exact⟨(0,J),⟨by simp,Y.tr r.cL,PF.rel r (bw w),PB.rel r (bw w)⟩,Sub.nil 7 T.int 1 rfl (by simp[l5,SV.sc,At.sc,iW]) r fun In r1=>
   Sub.gn [] r1⟩
 rintro⟨i,w1⟩ ⟨D,Y,PF,PB⟩;dsimp only at D Y PF PB ⊢;refine⟨((i+1:Nat):Int),wo,((ca.length+cb.length:Nat):Int),wo,?_⟩;refine dB.mk ?_ ?_<;>intro OQ
 ·have OQ:i+1<ca.length+cb.length:=by
   have:=aK OQ;omega
  refine⟨(i:Int)-cb.length,wo,(i:Int)-cb.length+1,wo,?_⟩;conv=>whnf
  rw[show max 0 ((i:Int)-cb.length+1)=((i+1-cb.length:Nat):Int) by omega];obtain⟨k0,Um⟩:∃k0,k0=i+1-cb.length:=⟨_,rfl⟩
  rw[<-Um]
  refine⟨Nat×World,fun z=>⟨[(4,pP 2 0),(5,sV aca ca.length cca),(6,sV acb cb.length ccb),(7,.o (.w 3 i)),(8,iN i),(9,.o (.v (.int .i64 (iQ ca cb i z.1)))),(10,iN z.1)],[(3,.vec T.int 1 (((List.range i).map (fw ca cb)).map (Value.int .i64))),(2,.box T.Int [.v (.bool false),.v (.slice none 0 0)])],4,OU,z.2⟩,fun z=>i+1-z.1,
   fun z=>k0<=z.1/\z.1<=i+1/\dT w.heap.size w z.2/\dR z.2 (Cf w OU) (.slice aca ca.length cca) ca/\dR z.2 (Cf w OU) (.slice acb cb.length ccb) cb,?_,?_⟩
  ·intro O J r;refine⟨(k0,J),⟨by simp,by dsimp only;omega,Y.tr r.cL,PF.rel r (bw w),PB.rel r (bw w)⟩,Sub.gn [] r (hE:=⟨rfl,rfl,rfl,rfl,rfl,?_,rfl,trivial⟩)⟩;dsimp only
   rw[GG ca cb i k0 k0 (fun j hj=>by omega) (by omega) (Nat.le_refl _)];rfl
  rintro⟨j,V⟩ ⟨hj0,hj1,Y,PF,PB⟩;dsimp only at hj0 hj1 Y PF PB ⊢;conv=>whnf
  refine dB.mk ?_ ?_<;>intro PM
  ·have PM:j<=i:=by
    have:=aK PM;omega
   refine dB.mk ?_ ?_<;>intro hja
   ·have hja:j<ca.length:=by
     have:=aK hja;omega
    obtain⟨p,hp⟩:∃p,ca[j]? =some p:=⟨_,aB hja⟩
    obtain⟨q,hq⟩:∃q,cb[i-j]? =some q:=⟨_,aB (by omega)⟩
    obtain⟨ad,rfl,q1,q2⟩:=PF.load hp;obtain⟨ad2,rfl,q3,q4⟩:=PB.load hq;have e1:ca.getD j 0=p:=by rw[List.getD,hp];rfl
    have e2:cb.getD (i-j) 0=q:=by rw[List.getD,hq];rfl
    have e3:iQ ca cb i (j+1)=iQ ca cb i j+p*q:=by rw[iQ,e1,if_pos PM,e2]
    have m1:=bca.at j;have m2:=bcb.at (i-j);rw[e1]at m1;rw[e2]at m2;have m3:=JD m1 m2;have m4:=mA (a:=ca) (b:=cb) (i:=i) bca.2.2.1 bcb.2.2.1 j;refine cI hτ dN [.x 0,.x 1,.x 2,.x 3,.x 4,.x 5,.x 6,.x 7,.x 8,.x 9,.x 10,.x 11,.x 12,.x 13] (by kernel_rfl) (by kernel_rfl) ?_;refine⟨ad,rfl,by omega,.int .i64 p,fun O J r=>?_,?_⟩
    ·rw[aF,cJ (w:=V) (V:=J) (by rw[c9];exact Rel.same (S:=FF) r (bw w) q1)];exact q2
    refine⟨((i-j:Nat):Int),wo,ad2,rfl,by omega,.int .i64 q,fun O J r=>?_,?_⟩
    ·rw[aF,cJ (w:=V) (V:=J) (by rw[c9];exact Rel.same (S:=FF) r (bw w) q3)];exact q4
    refine⟨p*q,wo,iQ ca cb i (j+1),by rw[e3,wrap64]<;>omega,((j+1:Nat):Int),wo,?_⟩;intro IR w3 K;exact⟨(j+1,w3),⟨by dsimp only;omega,by dsimp only;omega,Y.tr K.cL,PF.rel K (bw w),PB.rel K (bw w)⟩,Sub.gn [] K,by dsimp only;omega⟩
   have hja:ca.length<=j:=by
    have:=aH hja;omega
   rw[Bu hj1 (.inr hja)];have m4:=mA (a:=ca) (b:=cb) (i:=i) bca.2.2.1 bcb.2.2.1 (i+1);refine .inl ?_;refine⟨by simp,by omega,by unfold maxLen;omega,((i+1:Nat):Int),wo,?_⟩;intro IR w3 K;have Td:((List.range (i+1)).map (fw ca cb)).map (Value.int .i64)=((List.range i).map (fw ca cb)).map (Value.int .i64)++[.int .i64 (fw ca cb i)]:=by
    rw[bW,List.map_append,List.map_append];rfl
   exact⟨(i+1,w3),⟨.inl OQ,Y.tr K.cL,PF.rel K (bw w),PB.rel K (bw w)⟩,Sub.gn [(3,5)] K ⟨by dsimp only;rw[Td];rfl,rfl,trivial⟩,by dsimp only;omega⟩
  have PM:i<j:=by
   have:=aH PM;omega
  rw[Bu hj1 (.inl PM)];have m4:=mA (a:=ca) (b:=cb) (i:=i) bca.2.2.1 bcb.2.2.1 (i+1);refine .inl ?_;refine⟨by simp,by omega,by unfold maxLen;omega,((i+1:Nat):Int),wo,?_⟩;intro IR w3 K;have Td:((List.range (i+1)).map (fw ca cb)).map (Value.int .i64)=((List.range i).map (fw ca cb)).map (Value.int .i64)++[.int .i64 (fw ca cb i)]:=by
   rw[bW,List.map_append,List.map_append];rfl
  exact⟨(i+1,w3),⟨.inl OQ,Y.tr K.cL,PF.rel K (bw w),PB.rel K (bw w)⟩,Sub.gn [(3,5)] K ⟨by dsimp only;rw[Td];rfl,rfl,trivial⟩,by dsimp only;omega⟩
 have OQ:ca.length+cb.length<=i+1:=by
  have:=aH OQ;omega
 generalize Ok:((List.range i).map (fw ca cb))=U;have hz:dC U=x*y:=by
  rw[<-Ok,zF,KV ca cb i OQ,bca.1,bcb.1]
 have hlen:i=U.length:=by rw[<-Ok];simp
 have Pf:∀c∈U,-1152921504606846976<=c/\c<=1152921504606846976:=fun c hc=>by
  rw[<-Ok]at hc;obtain⟨j,hj,rfl⟩:=aR.1 hc;have hj:=List.mem_range.1 hj;have:=mA (a:=ca) (b:=cb) (i:=j) bca.2.2.1 bcb.2.2.1 (j+1);rw[fw];omega
 refine cB (cE Y (fun _ J v V=>cu V (Nf J V) v (x*y)) (fun O J r=>mj r rfl hlen (by omega) Pf hz) ?_);rintro O _ _ _ Oi r W Y h_ Z;have hC:=Z.dD (S:=FF) r.bz (mN h_);obtain⟨A0,A1,A2,A3,rfl⟩:=hC.shape;exact rtn Y fun GT we re=>hC.out re (bw w)
end Go.Ex
namespace Go.Ex
theorem IE{b r r2 q C9 n c:Int}(h:C9=b*q+r)(hr:r*65536+c=b*n+r2):c+65536*C9=b*(n+65536*q)+r2:=by
 rw[h,Int.mul_add,Int.mul_add,Int.mul_left_comm b 65536 q];omega
theorem Jd{x y Q FS:Int}(hy:y≠0)(h:(x.natAbs:Int)=(y.natAbs:Int)*Q+FS)(h0:0<=FS)(I:FS<(y.natAbs:Int)):
  (if x<0/\0<FS then(if (x<0)↔(y<0)then(Q+1)else -(Q+1))else(if (x<0)↔(y<0)then Q else -Q))=x / y/\(if x<0/\0<FS then(y.natAbs:Int)-FS else FS)=x % y:=by
 have key:∀q r:Int,r+y*q=x->0<=r->r<(y.natAbs:Int)->q=x / y/\r=x % y:=by
  intro q r e1 e2 e3;have m:x % y=r:=by
   rw[<-e1,Int.add_mul_emod_self_left];rcases Int.lt_or_lt_of_ne hy with h|h
   ·rw[<-Int.emod_neg,Int.emod_eq_of_lt e2 (by omega)]
   ·exact Int.emod_eq_of_lt e2 (by omega)
  have d:=Int.mul_ediv_add_emod x y;rw[m]at d;exact⟨(Int.eq_of_mul_eq_mul_left hy (by omega)),m.symm⟩
 by_cases L:x<0
 ·have ex:(x.natAbs:Int)= -x:=by omega
  by_cases hy':y<0
  ·have ey:(y.natAbs:Int)= -y:=by omega
   rw[ex,ey,Int.neg_mul]at h;by_cases hR:0<FS
   ·rw[if_pos (show x<0/\0<FS from⟨L,hR⟩),if_pos (show x<0/\0<FS from⟨L,hR⟩),if_pos (show (x<0)↔(y<0) by simp[L,hy'])];exact key _ _ (by rw[Int.mul_add,Int.mul_one];omega) (by omega) (by omega)
   ·rw[aI (show ¬(x<0/\0<FS) by omega),aI (show ¬(x<0/\0<FS) by omega),if_pos (show (x<0)↔(y<0) by simp[L,hy'])];exact key _ _ (by omega) h0 I
  ·have ey:(y.natAbs:Int)=y:=by omega
   rw[ex,ey]at h;have Z:¬((x<0)↔(y<0)):=by simp[L,hy']
   by_cases hR:0<FS
   ·rw[if_pos (show x<0/\0<FS from⟨L,hR⟩),if_pos (show x<0/\0<FS from⟨L,hR⟩),aI Z];exact key _ _ (by rw[Int.mul_neg,Int.mul_add,Int.mul_one];omega) (by omega) (by omega)
   ·rw[aI (show ¬(x<0/\0<FS) by omega),aI (show ¬(x<0/\0<FS) by omega),aI Z];exact key _ _ (by rw[Int.mul_neg];omega) h0 I
 ·have ex:(x.natAbs:Int)=x:=by omega
  rw[aI (show ¬(x<0/\0<FS) by omega),aI (show ¬(x<0/\0<FS) by omega)];by_cases hy':y<0
  ·have ey:(y.natAbs:Int)= -y:=by omega
   rw[ex,ey,Int.neg_mul]at h;rw[aI (show ¬((x<0)↔(y<0)) by simp[L,hy'])];exact key _ _ (by rw[Int.mul_neg];omega) h0 I
  ·have ey:(y.natAbs:Int)=y:=by omega
   rw[ex,ey]at h;rw[if_pos (show (x<0)↔(y<0) by simp[L,hy'])];exact key _ _ (by omega) h0 I
theorem fo(z:Int):(z<0/\z.sign= -1)\/(z=0/\z.sign=0)\/(0<z/\z.sign=1):=by
 rcases Int.lt_trichotomy z 0 with h|h|h
 ·exact .inl ⟨h,bg h⟩
 ·exact .inr (.inl ⟨h,by rw[h];rfl⟩)
 ·exact .inr (.inr ⟨h,bh h⟩)
end Go.Ex
namespace Go.Ex
open Go Go.Sx Go.Proofs
variable{x y:Int}{Q:List Int}{k:Nat}{S:Nat->Prop}{a:Option Addr}{p q:Rat}{u:Value}{w:World}
def LW:Value:=.agg #[.bool false,.slice none 0 0]
theorem cu.nil(w:World)(S:Nat->Prop):cu w S (.agg #[.bool false,.slice none 0 0]) 0:=⟨[],⟨_,rfl,cz.nil _ _⟩,fun x h=>by simp at h,rfl⟩
theorem aA2(h:∀c∈Q,0<=c/\c<=65535):0<=dC Q:=by
 induction Q with
 |nil=>exact Int.le_refl _
 |cons c r ih=>
  have I:=h c aG;have X:=ih fun x L=>h x (aC _ L);rw[dC];omega
theorem AM{n:Int}(h:0<=n)(X:n<4294967296):ln n.natAbs<=1:=gD.2 (by show n.natAbs<4294967296^1;omega)
theorem JE{v:Value}{l:Nat}(F:Old S w)(L:fQ w S v k x)(hy:fQ w S u l y)(R:k<=1000000)(hl:l<=1000000):
  dx PG F'.oC #[v,u] w (eH w fun v' V=>(y=0/\v'= .tuple #[LW,LW,.int .i64 9])\/(y≠0/\∃q r,v'= .tuple #[q,r,.int .i64 0]/\cu V (Nf w V) q (x / y)/\cu V (Nf w V) r (x % y))):=by
 have Y:=bR w;replace L:=L.cF (S':=Cv S w.heap.size []) fun _ h=>.inl h;replace hy:=hy.cF (S':=Cv S w.heap.size []) fun _ h=>.inl h;obtain⟨b1,a1,n1,c1,rfl⟩:=L.shape;obtain⟨b2,a2,n2,c2,rfl⟩:=hy.shape;refine xJ (by simp) ?_;have Q3:=hy.ln;refine cB (cE Y (fun _ J v V=>v= .int .i64 y.sign) (fun O J r=>gN (Rel.old r F) (hy.rel r F).r) ?_);rintro O _ _ _ OZ r W Y h_ rfl;replace L:=L.cD r F W (mC h_);replace hy:=hy.cD r F W (mC h_);refine dB.mk ?_ ?_<;>intro Ph
 ·have Ph:y=0:=by rcases fo y with h|h|h<;>simp[h]at Ph ⊢
  exact rtn Y fun GT we re=>.inl ⟨Ph,rfl⟩
 have Ph:y≠0:=fun e=>by rw[e]at Ph;simp at Ph
 refine cI hτ dN [.x 0,.x 3,.p 5,.x 1,.x 2,.x 4,.x 5,.x 6,.x 7] (by kernel_rfl) (by kernel_rfl) ?_;refine cE Y (fun _ J v V=>cu V (Nf J V) v ((x.natAbs:Int))) (fun O J r=>xq (Rel.old r F) (L.rel r F) (by omega)) ?_;rintro O _ _ _ OU r W Y h_ Z;replace L:=L.cD r F W (mC h_);replace hy:=hy.cD r F W (mC h_);have hsx:=Z.dD (S:=FF) r.bz (mN h_);obtain⟨A0,A1,A2,A3,rfl⟩:=hsx.shape;have Pt:=L.ln;refine cE Y (fun _ J v V=>∃U,dR V (Nf J V) v U/\Ao U (2*k) ((x.natAbs:Int))) (fun O J r=>qz (Rel.old r (bw w)) ((hsx.rel r (bw w)).l (k:=k) (by rw[Int.natAbs_natCast];exact Pt)) (by omega)) ?_;rintro O _ _ _ Oi r W Y h_ ⟨ca,k1,bca⟩;replace L:=L.cD r F W (mC h_);replace hy:=hy.cD r F W (mC h_);have PF:=k1.dD (S:=FF) r.bz (mN h_);obtain⟨aca,cca,rfl,lca⟩:=PF.shape;refine cE Y (fun _ J v V=>cu V (Nf J V) v ((y.natAbs:Int))) (fun O J r=>xq (Rel.old r F) (hy.rel r F) (by omega)) ?_;rintro O _ _ _ Ow r W Y h_ Z;replace L:=L.cD r F W (mC h_);replace hy:=hy.cD r F W (mC h_);replace PF:=PF.cD r (bw w) W (mC h_);have Og:=Z.dD (S:=FF) r.bz (mN h_);obtain⟨C0,C1,C2,C3,rfl⟩:=Og.shape;generalize hB:(y.natAbs:Int)=B at*
 have l1:=bca.2.1;have hB0:0<B:=by omega
 have lB:ln B.natAbs<=l:=by rw[<-hB,Int.natAbs_natCast];exact Q3
 refine⟨(ca.length:Int)-1,wo,Nat×List Int×Int×(Bool×Option Addr×Nat×Nat)×World×Iv,fun z=>⟨[(2,pP 0 0),(3,pP 1 0),(4,pP 2 0),(5,pP 3 0),(6,iZ 0),(7,sV aca ca.length cca),(8,pP 4 0),(9,.o (.w 6 z.2.1.length)),(10,pP 5 0),(11,.o (.v (.int .i64 ((z.1:Int)-1))))],[(6,.vec T.int 1 (z.2.1.map (Value.int .i64))),(5,.box T.Int [.v (.bool z.2.2.2.1.1),.v (.slice z.2.2.2.1.2.1 z.2.2.2.1.2.2.1 z.2.2.2.1.2.2.2)]),(4,.box T.Int [.v (.bool C0),.v (.slice C1 C2 C3)]),(3,.box T.Int [.v (.bool false),.v (.slice none 0 0)]),(2,.box T.Int [.v (.bool false),.v (.slice none 0 0)]),(1,.box T.Int [.v (.bool b2),.v (.slice a2 n2 c2)]),(0,.box T.Int [.v (.bool b1),.v (.slice a1 n1 c1)])],7,z.2.2.2.2.2,z.2.2.2.2.1⟩,fun z=>z.1,
  fun z=>z.1<=ca.length/\z.2.1.length+z.1=ca.length/\(∀c∈z.2.1,0<=c/\c<=65535)/\dC (ca.drop z.1)=B*dC z.2.1+z.2.2.1/\0<=z.2.2.1/\z.2.2.1<B/\dT w.heap.size w z.2.2.2.2.1/\fQ z.2.2.2.2.1 (Cv S w.heap.size z.2.2.2.2.2) (.agg #[.bool b1,.slice a1 n1 c1]) k x/\fQ z.2.2.2.2.1 (Cv S w.heap.size z.2.2.2.2.2) (.agg #[.bool b2,.slice a2 n2 c2]) l y/\dR z.2.2.2.2.1 (Cf w z.2.2.2.2.2) (.slice aca ca.length cca) ca/\cu z.2.2.2.2.1 (Cf w z.2.2.2.2.2) (.agg #[.bool C0,.slice C1 C2 C3]) B/\cu z.2.2.2.2.1 (Cf w z.2.2.2.2.2) (.agg #[.bool z.2.2.2.1.1,.slice z.2.2.2.1.2.1 z.2.2.2.1.2.2.1 z.2.2.2.1.2.2.2]) z.2.2.1,?_,?_⟩
 ·intro O J r
  exact⟨(ca.length,[],0,(false,none,0,0),J,Ow),⟨Nat.le_refl _,by simp,by simp,by simp[dC],Int.le_refl _,hB0,Y.tr r.cL,L.rel r F,hy.rel r F,PF.rel r (bw w),Og.rel r (bw w),cu.nil _ _⟩,Sub.nil 9 T.int 1 rfl (by simp[l5,SV.sc,At.sc]) r fun In r1=>
   Sub.gn [] r1⟩
 rintro⟨j,Q,FS,⟨br,ar,nr,cr⟩,w1,iv⟩ ⟨hj,hQ,hd,hv,hR0,VW,Y,L,hy,PF,Og,hr⟩;dsimp only at hj hQ hd hv hR0 VW Y L hy PF Og hr ⊢;refine dB.mk ?_ ?_<;>intro OQ
 ·obtain⟨i,rfl⟩:∃i,j=i+1:=⟨j-1,by have:(j:Int)-1≥0:=aK OQ;omega⟩
  rw[show ((i+1:Nat):Int)-1=(i:Int) by omega];obtain⟨d,RO⟩:∃d,ca[i]? =some d:=⟨_,aB (by omega)⟩
  have TC:=bca.2.2.1 d (aE RO);have PN:=bca.2.2.2 (by omega) d (aE RO);have lR:ln FS.natAbs<=l:=aW (fI (by omega)) lB;have lU:ln (65536:Int).natAbs<=1:=by decide
  have m1:=cX FS 65536;have m2:=AM (n:=d) PN (by omega);have m3:=ia (FS*65536) d;refine cI hτ dN [.x 0,.x 3,.x 4,.x 5,.x 6,.x 1,.x 2,.x 7,.x 8,.x 9] (by kernel_rfl) (by kernel_rfl) ?_;obtain⟨ad,ha0,q1,q2⟩:=PF.load RO;refine⟨ad,ha0,by omega,.int .i64 d,fun O J r=>?_,?_⟩
  ·rw[aF,cJ (w:=w1) (V:=J) (by rw[c9];exact Rel.same (S:=FF) r (bw w) q1)];exact q2
  refine cE Y (fun _ J v V=>cu V (Nf J V) v (65536)) (fun O J r=>oe _ J (by decide) (by decide)) ?_;rintro O SZ v5 Sm QO r W Y h_ Z;replace L:=L.cD r F W (mC h_);replace hy:=hy.cD r F W (mC h_);replace PF:=PF.cD r (bw w) W (mC h_);replace Og:=Og.cD r (bw w) W (mC h_);replace hr:=hr.cD r (bw w) W (mC h_);have hu:=Z.dD (S:=FF) r.bz (mN h_);obtain⟨E0,E1,E2,E3,rfl⟩:=hu.shape;refine cE Y (fun _ J v V=>cu V (Nf J V) v (FS*65536)) (fun O J r=>iw (Rel.old r (bw w)) ((hr.rel r (bw w)).l (k:=1000001) (by omega)) ((hu.rel r (bw w)).l (k:=1000001) (by omega)) (by omega) (by omega)) ?_;rintro O R7 v6 Rj R8 r W Y h_ Z;replace L:=L.cD r F W (mC h_);replace hy:=hy.cD r F W (mC h_);replace PF:=PF.cD r (bw w) W (mC h_);replace Og:=Og.cD r (bw w) W (mC h_);have hp:=Z.dD (S:=FF) r.bz (mN h_);obtain⟨F0,F1,F2,F3,rfl⟩:=hp.shape;refine cE Y (fun _ J v V=>cu V (Nf J V) v (d)) (fun O J r=>oe _ J (by omega) (by omega)) ?_;rintro O Ty v7 Tz Ra r W Y h_ Z;replace L:=L.cD r F W (mC h_);replace hy:=hy.cD r F W (mC h_);replace PF:=PF.cD r (bw w) W (mC h_);replace Og:=Og.cD r (bw w) W (mC h_);replace hp:=hp.cD r (bw w) W (mC h_);have hdd:=Z.dD (S:=FF) r.bz (mN h_);obtain⟨G0,G1,G2,G3,rfl⟩:=hdd.shape;refine cE Y (fun _ J v V=>cu V (Nf J V) v (FS*65536+d)) (fun O J r=>AK (Rel.old r (bw w)) ((hp.rel r (bw w)).l (k:=1000002) (by omega)) ((hdd.rel r (bw w)).l (k:=1000002) (by omega)) (by omega) (by omega)) ?_;rintro O SE v8 SP SF r W Y h_ Z;replace L:=L.cD r F W (mC h_);replace hy:=hy.cD r F W (mC h_);replace PF:=PF.cD r (bw w) W (mC h_);replace Og:=Og.cD r (bw w) W (mC h_);have hr:=Z.dD (S:=FF) r.bz (mN h_);obtain⟨J0,J1,J2,J3,rfl⟩:=hr.shape;generalize RL:FS*65536+d=R2 at*
  have hR20:0<=R2:=by omega
  have hR21:R2<65536*B:=by omega
  refine⟨Nat×Nat×Nat×World×Iv,fun z=>⟨[(2,pP 0 0),(3,pP 1 0),(4,pP 2 0),(5,pP 3 0),(6,iZ 0),(7,sV aca ca.length cca),(8,pP 4 0),(9,.o (.w 6 Q.length)),(10,pP 5 0),(11,.o (.v (.int .i64 ((i:Int))))),(12,iN z.1),(13,iN z.2.2.1)],[(6,.vec T.int 1 (Q.map (Value.int .i64))),(5,.box T.Int [.v (.bool J0),.v (.slice J1 J2 J3)]),(4,.box T.Int [.v (.bool C0),.v (.slice C1 C2 C3)]),(3,.box T.Int [.v (.bool false),.v (.slice none 0 0)]),(2,.box T.Int [.v (.bool false),.v (.slice none 0 0)]),(1,.box T.Int [.v (.bool b2),.v (.slice a2 n2 c2)]),(0,.box T.Int [.v (.bool b1),.v (.slice a1 n1 c1)])],7,z.2.2.2.2,z.2.2.2.1⟩,fun z=>z.2.1,
   fun z=>z.2.2.1=2^z.2.1 / 2/\z.1+2^z.2.1<=65536/\((z.1:Nat):Int)*B<=R2/\R2<((z.1+2^z.2.1:Nat):Int)*B/\dT w.heap.size w z.2.2.2.1/\fQ z.2.2.2.1 (Cv S w.heap.size z.2.2.2.2) (.agg #[.bool b1,.slice a1 n1 c1]) k x/\fQ z.2.2.2.1 (Cv S w.heap.size z.2.2.2.2) (.agg #[.bool b2,.slice a2 n2 c2]) l y/\dR z.2.2.2.1 (Cf w z.2.2.2.2) (.slice aca ca.length cca) ca/\cu z.2.2.2.1 (Cf w z.2.2.2.2) (.agg #[.bool C0,.slice C1 C2 C3]) B/\cu z.2.2.2.1 (Cf w z.2.2.2.2) (.agg #[.bool J0,.slice J1 J2 J3]) R2,?_,?_⟩
  ·intro O J r
   exact⟨(0,16,32768,J,SF),⟨by show 32768=2^16 / 2;decide,by show 0+2^16<=65536;decide,by dsimp only;omega,by dsimp only;rw[show ((0+2^16:Nat):Int)=65536 from rfl];exact hR21,Y.tr r.cL,L.rel r F,hy.rel r F,PF.rel r (bw w),Og.rel r (bw w),hr.rel r (bw w)⟩,
    Sub.gn [] r⟩
  rintro⟨n,e,bit,w5,iv⟩ ⟨hn0,S2,Qf,Vk,Y,L,hy,PF,Og,hr⟩;dsimp only at hn0 S2 Qf Vk Y L hy PF Og hr ⊢;refine dB.mk ?_ ?_<;>intro UW
  ·have UW:0<2^e / 2:=by have:((bit:Nat):Int)>0:=aK UW;omega
   obtain⟨f,rfl⟩:∃f,e=f+1:=by
    cases e with
    |zero=>exact absurd UW (by decide)
    |succ f=>exact⟨f,rfl⟩
   have e1:2^(f+1)=2*2^f:=by rw[Nat.pow_succ];omega
   have e2:2^(f+1) / 2=2^f:=by omega
   obtain rfl:bit=2^f:=by omega
   rw[e1]at S2 Vk;have hp0:=bo f;generalize hp:2^f=p at*
   have m4:=AM (n:=((n+p:Nat):Int)) (by omega) (by omega);have m5:=cX B ((n+p:Nat):Int);have m6:ln R2.natAbs<=l+1:=by
    refine aW (fI (b:=((65536:Int)*B).natAbs) (by omega)) ?_;have:=cX 65536 B;omega
   refine cI hτ dN [.x 0,.x 1,.x 2,.x 3,.x 6,.x 4,.x 5,.x 7,.x 8] (by kernel_rfl) (by kernel_rfl) ?_;refine⟨((n+p:Nat):Int),wo,?_⟩;refine cE Y (fun _ J v V=>cu V (Nf J V) v (((n+p:Nat):Int))) (fun O J r=>oe _ J (by omega) (by omega)) ?_;rintro O R9 v9 Rk RW r W Y h_ Z;replace L:=L.cD r F W (mC h_);replace hy:=hy.cD r F W (mC h_);replace PF:=PF.cD r (bw w) W (mC h_);replace Og:=Og.cD r (bw w) W (mC h_);replace hr:=hr.cD r (bw w) W (mC h_);have hu:=Z.dD (S:=FF) r.bz (mN h_);obtain⟨K0,K1,K2,K3,rfl⟩:=hu.shape;refine cE Y (fun _ J v V=>cu V (Nf J V) v (B*((n+p:Nat):Int))) (fun O J r=>iw (Rel.old r (bw w)) ((Og.rel r (bw w)).l (k:=1000001) (by omega)) ((hu.rel r (bw w)).l (k:=1000001) (by omega)) (by omega) (by omega)) ?_;rintro O Rb v10 Rc Qj r W Y h_ Z;replace L:=L.cD r F W (mC h_);replace hy:=hy.cD r F W (mC h_);replace PF:=PF.cD r (bw w) W (mC h_);replace Og:=Og.cD r (bw w) W (mC h_);replace hr:=hr.cD r (bw w) W (mC h_);have QR:=Z.dD (S:=FF) r.bz (mN h_);obtain⟨N0,N1,N2,N3,rfl⟩:=QR.shape;refine cE Y (fun _ J v V=>v= .int .i64 (B*((n+p:Nat):Int)-R2).sign) (fun O J r=>JC (Rel.old r (bw w)) ((QR.rel r (bw w)).l (k:=1000001) (by omega)) ((hr.rel r (bw w)).l (k:=1000001) (by omega)) (by omega) (by omega)) ?_;rintro O QJ v11 QQ PD r W Y h_ rfl;replace L:=L.cD r F W (mC h_);replace hy:=hy.cD r F W (mC h_);replace PF:=PF.cD r (bw w) W (mC h_);replace Og:=Og.cD r (bw w) W (mC h_);replace hr:=hr.cD r (bw w) W (mC h_);have hs:=fo (B*((n+p:Nat):Int)-R2);refine dB.mk ?_ ?_<;>intro hle
   ·have hle:=aK hle;have VK:((n+p:Nat):Int)*B<=R2:=by rw[Int.mul_comm];omega
    refine⟨((n+p:Nat):Int),wo,by decide,((2^f / 2:Nat):Int),by rw[hp,show((p:Nat):Int).tdiv 2=((p / 2:Nat):Int)from rfl,wrap64]<;>omega,?_⟩;intro IR w3 K;exact⟨(n+p,f,2^f / 2,w3,_),⟨rfl,by dsimp only;omega,VK,by dsimp only;rw[hp,show n+p+p=n+2*p by omega];exact Vk,Y.tr K.cL,L.rel K F,hy.rel K F,PF.rel K (bw w),Og.rel K (bw w),hr.rel K (bw w)⟩,Sub.gn [] K,by dsimp only;omega⟩
   have hle:=aH hle;have VK:R2<((n+p:Nat):Int)*B:=by rw[Int.mul_comm];omega
   refine⟨by decide,((2^f / 2:Nat):Int),by rw[hp,show((p:Nat):Int).tdiv 2=((p / 2:Nat):Int)from rfl,wrap64]<;>omega,?_⟩;intro IR w3 K;exact⟨(n,f,2^f / 2,w3,_),⟨rfl,by dsimp only;omega,Qf,by dsimp only;rw[hp];exact VK,Y.tr K.cL,L.rel K F,hy.rel K F,PF.rel K (bw w),Og.rel K (bw w),hr.rel K (bw w)⟩,Sub.gn [] K,by dsimp only;omega⟩
  have UW:¬0<2^e / 2:=by have:¬((bit:Nat):Int)>0:=aH UW;omega
  obtain rfl:e=0:=by
   cases e with
   |zero=>rfl
   |succ f=>exact absurd (show 0<2^(f+1) / 2 by rw[Nat.pow_succ];have:=bo f;omega) UW
  rw[show n+2^0=n+1 from rfl]at S2 Vk;rw[Int.natCast_add,Int.add_mul]at Vk;rw[Int.mul_comm]at Qf;rw[Int.mul_comm]at Vk;have m4:=AM (n:=((n:Nat):Int)) (by omega) (by omega);have m5:=cX B ((n:Nat):Int);have m6:ln R2.natAbs<=l+1:=by
   refine aW (fI (b:=((65536:Int)*B).natAbs) (by omega)) ?_;have:=cX 65536 B;omega
  refine cI hτ dN [.x 0,.x 1,.x 2,.x 3,.x 4,.x 5,.x 6] (by kernel_rfl) (by kernel_rfl) ?_;refine cE Y (fun _ J v V=>cu V (Nf J V) v (((n:Nat):Int))) (fun O J r=>oe _ J (by omega) (by omega)) ?_;rintro O R9 v9 Rk RW r W Y h_ Z;replace L:=L.cD r F W (mC h_);replace hy:=hy.cD r F W (mC h_);replace PF:=PF.cD r (bw w) W (mC h_);replace Og:=Og.cD r (bw w) W (mC h_);replace hr:=hr.cD r (bw w) W (mC h_);have hu:=Z.dD (S:=FF) r.bz (mN h_);obtain⟨K0,K1,K2,K3,rfl⟩:=hu.shape;refine cE Y (fun _ J v V=>cu V (Nf J V) v (B*((n:Nat):Int))) (fun O J r=>iw (Rel.old r (bw w)) ((Og.rel r (bw w)).l (k:=1000001) (by omega)) ((hu.rel r (bw w)).l (k:=1000001) (by omega)) (by omega) (by omega)) ?_;rintro O Rb v10 Rc Qj r W Y h_ Z;replace L:=L.cD r F W (mC h_);replace hy:=hy.cD r F W (mC h_);replace PF:=PF.cD r (bw w) W (mC h_);replace Og:=Og.cD r (bw w) W (mC h_);replace hr:=hr.cD r (bw w) W (mC h_);have QR:=Z.dD (S:=FF) r.bz (mN h_);obtain⟨N0,N1,N2,N3,rfl⟩:=QR.shape;refine cE Y (fun _ J v V=>cu V (Nf J V) v (R2-B*((n:Nat):Int))) (fun O J r=>DK (Rel.old r (bw w)) ((hr.rel r (bw w)).l (k:=1000002) (by omega)) ((QR.rel r (bw w)).l (k:=1000002) (by omega)) (by omega) (by omega)) ?_;rintro O QJ v11 QQ PD r W Y h_ Z;replace L:=L.cD r F W (mC h_);replace hy:=hy.cD r F W (mC h_);replace PF:=PF.cD r (bw w) W (mC h_);replace Og:=Og.cD r (bw w) W (mC h_);have hr3:=Z.dD (S:=FF) r.bz (mN h_);obtain⟨O0,O1,O2,O3,rfl⟩:=hr3.shape;generalize hR3:R2-B*((n:Nat):Int)=R3 at*
  refine .inl ?_;refine⟨by rw[aL,aY],fun u hu=>by obtain⟨_,_,rfl⟩:=aR.1 hu;rfl,rfl,by omega,by unfold maxLen;omega,(i:Int)-1,wo,?_⟩;intro IR w3 K;have RJ:dC (ca.drop i)=B*dC (((n:Nat):Int)::Q)+R3:=by
   rw[EU RO,dC];exact IE hv (by rw[<-hR3,<-RL];omega)
  exact⟨(i,((n:Nat):Int)::Q,R3,(O0,O1,O2,O3),w3,_),⟨by dsimp only;omega,by dsimp only;rw[List.length_cons];omega,fun c hc=>by
    rcases List.mem_cons.1 hc with rfl|hc
    ·omega
    ·exact hd c hc,RJ,by dsimp only;omega,by dsimp only;omega,Y.tr K.cL,L.rel K F,hy.rel K F,PF.rel K (bw w),Og.rel K (bw w),hr3.rel K (bw w)⟩,
   Sub.gn [(6,8)] K (hE:=⟨rfl,rfl,rfl,rfl,rfl,rfl,rfl,by dsimp only;rw[show (((n:Nat):Int)::Q).length=1+Q.length by rw[List.length_cons,Nat.add_comm]];rfl,rfl,rfl,trivial⟩),by dsimp only;omega⟩
 obtain rfl:j=0:=by have:¬(j:Int)-1≥0:=aH OQ;omega
 rw[List.drop_zero,bca.1]at hv;rw[<-hB]at hv VW;have key:=Jd Ph hv hR0 VW;rw[hB]at key hv VW;have lq:ln (dC Q).natAbs<=k+1:=by
  have I:=aA2 hd;have X:1*dC Q<=B*dC Q:=Int.mul_le_mul_of_nonneg_right (by omega) I;exact aW (fI (b:=x.natAbs) (by omega)) (by omega)
 have lR:ln FS.natAbs<=l:=aW (fI (by omega)) lB;have sx:=fo x;have sy:=fo y;have sr:=fo FS;refine cB (cE Y (fun _ J v V=>cu V (Nf J V) v (dC Q)) (fun O J r=>mj r rfl rfl (by omega) (fun c hc=>by have:=hd c hc;omega) rfl) ?_);rintro O _ _ _ QO r W Y h_ Z;replace L:=L.cD r F W (mC h_);replace hy:=hy.cD r F W (mC h_);replace Og:=Og.cD r (bw w) W (mC h_);replace hr:=hr.cD r (bw w) W (mC h_);have hq:=Z.dD (S:=FF) r.bz (mN h_);obtain⟨E0,E1,E2,E3,rfl⟩:=hq.shape;refine cB (cE Y (fun _ J v V=>v= .int .i64 x.sign) (fun O J r=>gN (Rel.old r F) (L.rel r F).r) ?_);rintro O _ _ _ R8 r W Y h_ rfl;replace L:=L.cD r F W (mC h_);replace hy:=hy.cD r F W (mC h_);replace Og:=Og.cD r (bw w) W (mC h_);replace hr:=hr.cD r (bw w) W (mC h_);replace hq:=hq.cD r (bw w) W (mC h_);refine dB.mk ?_ ?_<;>intro hxs
 ·have hxs:=aK hxs;refine cB (cE Y (fun _ J v V=>v= .int .i64 FS.sign) (fun O J r=>gN (Rel.old r (bw w)) (hr.rel r (bw w)).r) ?_);rintro O Ty v7 Tz Ra r W Y h_ rfl;replace L:=L.cD r F W (mC h_);replace hy:=hy.cD r F W (mC h_);replace Og:=Og.cD r (bw w) W (mC h_);replace hr:=hr.cD r (bw w) W (mC h_);replace hq:=hq.cD r (bw w) W (mC h_);refine dB.mk ?_ ?_<;>intro Vn
  ·have Vn:=aK Vn;rw[if_pos (show x<0/\0<FS by omega),if_pos (show x<0/\0<FS by omega)]at key;have m7:=ia (dC Q) 1;have m8:ln (1:Int).natAbs<=1:=by decide
   have m9:ln (B-FS).natAbs<=l:=aW (fI (by omega)) lB;refine cI hτ dN [.x 0,.x 3,.x 4,.x 1,.x 2,.x 5,.x 6,.x 7] (by kernel_rfl) (by kernel_rfl) ?_;refine cE Y (fun _ J v V=>cu V (Nf J V) v (1)) (fun O J r=>oe _ J (by omega) (by omega)) ?_;rintro O SE v8 SP SF r W Y h_ Z;replace L:=L.cD r F W (mC h_);replace hy:=hy.cD r F W (mC h_);replace Og:=Og.cD r (bw w) W (mC h_);replace hr:=hr.cD r (bw w) W (mC h_);replace hq:=hq.cD r (bw w) W (mC h_);have hu:=Z.dD (S:=FF) r.bz (mN h_);obtain⟨J0,J1,J2,J3,rfl⟩:=hu.shape;refine cE Y (fun _ J v V=>cu V (Nf J V) v (dC Q+1)) (fun O J r=>AK (Rel.old r (bw w)) ((hq.rel r (bw w)).l (k:=1000003) (by omega)) ((hu.rel r (bw w)).l (k:=1000003) (by omega)) (by omega) (by omega)) ?_;rintro O R9 v9 Rk RW r W Y h_ Z;replace L:=L.cD r F W (mC h_);replace hy:=hy.cD r F W (mC h_);replace Og:=Og.cD r (bw w) W (mC h_);replace hr:=hr.cD r (bw w) W (mC h_);have Q2:=Z.dD (S:=FF) r.bz (mN h_);obtain⟨K0,K1,K2,K3,rfl⟩:=Q2.shape;refine cE Y (fun _ J v V=>cu V (Nf J V) v (B-FS)) (fun O J r=>DK (Rel.old r (bw w)) ((Og.rel r (bw w)).l (k:=1000003) (by omega)) ((hr.rel r (bw w)).l (k:=1000003) (by omega)) (by omega) (by omega)) ?_;rintro O Rb v10 Rc Qj r W Y h_ Z;replace L:=L.cD r F W (mC h_);replace hy:=hy.cD r F W (mC h_);replace Q2:=Q2.cD r (bw w) W (mC h_);have S8:=Z.dD (S:=FF) r.bz (mN h_);obtain⟨N0,N1,N2,N3,rfl⟩:=S8.shape;refine cI hτ dN [.x 0,.x 3,.x 1,.x 2,.x 4,.x 5,.x 6] (by kernel_rfl) (by kernel_rfl) ?_;refine cE Y (fun _ J v V=>v= .int .i64 x.sign) (fun O J r=>gN (Rel.old r F) (L.rel r F).r) ?_;rintro O _ _ _ PD r W Y h_ rfl;replace hy:=hy.cD r F W (mC h_);replace Q2:=Q2.cD r (bw w) W (mC h_);replace S8:=S8.cD r (bw w) W (mC h_);refine cE Y (fun _ J v V=>v= .int .i64 y.sign) (fun O J r=>gN (Rel.old r F) (hy.rel r F).r) ?_;rintro O _ _ _ Vv r W Y h_ rfl;replace Q2:=Q2.cD r (bw w) W (mC h_);replace S8:=S8.cD r (bw w) W (mC h_);refine dB.mk ?_ ?_<;>intro OS
   ·have Z:¬((x<0)↔(y<0)):=fun e=>by
     have e2:decide (x.sign<0)=decide (y.sign<0):=decide_eq_decide.2 (by omega);rw[e2]at OS;simp at OS
    rw[aI Z]at key;refine cB (cE Y (fun _ J v V=>cu V (Nf J V) v (-(dC Q+1))) (fun O J r=>nN (Rel.old r (bw w)) ((Q2.rel r (bw w)).l (k:=1000003) (by omega)) (by omega)) ?_);rintro O _ _ _ TU r W Y h_ Z;replace S8:=S8.cD r (bw w) W (mC h_);have Sg:=Z.dD (S:=FF) r.bz (mN h_);obtain⟨P0,P1,P2,P3,rfl⟩:=Sg.shape;refine iX hτ dN (.two 0 (.two 1 (.one 2 (.one 3 (.one 4 .nil))) 2 (.one 1 (.one 3 (.one 4 .nil)))) 1 (.one 0 (.one 2 (.one 3 (.one 4 .nil))))) (by kernel_rfl) ?_;refine⟨?_,?_⟩
    ·refine⟨?_,?_⟩
     ·exact rtn Y fun GT we re=>.inr ⟨Ph,_,_,rfl,key.1▸Sg.out re (bw w),key.2▸S8.out re (bw w)⟩
     ·exact rtn Y fun GT we re=>.inr ⟨Ph,_,_,rfl,key.1▸Sg.out re (bw w),key.2▸S8.out re (bw w)⟩
    ·exact rtn Y fun GT we re=>.inr ⟨Ph,_,_,rfl,key.1▸Sg.out re (bw w),key.2▸S8.out re (bw w)⟩
   have Z:(x<0)↔(y<0):=by
    have e2:decide (x.sign<0)=decide (y.sign<0):=by simpa using OS
    have:=decide_eq_decide.1 e2;omega
   rw[if_pos Z]at key;refine iX hτ dN (.two 0 (.two 1 (.one 2 (.one 3 (.one 4 .nil))) 2 (.one 1 (.one 3 (.one 4 .nil)))) 1 (.one 0 (.one 2 (.one 3 (.one 4 .nil))))) (by kernel_rfl) ?_;refine⟨?_,?_⟩
   ·refine⟨?_,?_⟩
    ·exact rtn Y fun GT we re=>.inr ⟨Ph,_,_,rfl,key.1▸Q2.out re (bw w),key.2▸S8.out re (bw w)⟩
    ·exact rtn Y fun GT we re=>.inr ⟨Ph,_,_,rfl,key.1▸Q2.out re (bw w),key.2▸S8.out re (bw w)⟩
   ·exact rtn Y fun GT we re=>.inr ⟨Ph,_,_,rfl,key.1▸Q2.out re (bw w),key.2▸S8.out re (bw w)⟩
  have Vn:=aH Vn;rw[aI (show ¬(x<0/\0<FS) by omega),aI (show ¬(x<0/\0<FS) by omega)]at key;refine cI hτ dN [.x 0,.x 3,.x 1,.x 2,.x 4,.x 5,.x 6] (by kernel_rfl) (by kernel_rfl) ?_;refine cE Y (fun _ J v V=>v= .int .i64 x.sign) (fun O J r=>gN (Rel.old r F) (L.rel r F).r) ?_;rintro O SE v8 SP SF r W Y h_ rfl;replace hy:=hy.cD r F W (mC h_);replace Og:=Og.cD r (bw w) W (mC h_);replace hr:=hr.cD r (bw w) W (mC h_);replace hq:=hq.cD r (bw w) W (mC h_);refine cE Y (fun _ J v V=>v= .int .i64 y.sign) (fun O J r=>gN (Rel.old r F) (hy.rel r F).r) ?_;rintro O R9 v9 Rk RW r W Y h_ rfl;replace Og:=Og.cD r (bw w) W (mC h_);replace hr:=hr.cD r (bw w) W (mC h_);replace hq:=hq.cD r (bw w) W (mC h_);refine dB.mk ?_ ?_<;>intro OS
  ·have Z:¬((x<0)↔(y<0)):=fun e=>by
    have e2:decide (x.sign<0)=decide (y.sign<0):=decide_eq_decide.2 (by omega);rw[e2]at OS;simp at OS
   rw[aI Z]at key;refine cB (cE Y (fun _ J v V=>cu V (Nf J V) v (-(dC Q))) (fun O J r=>nN (Rel.old r (bw w)) ((hq.rel r (bw w)).l (k:=1000003) (by omega)) (by omega)) ?_);rintro O _ _ _ Qj r W Y h_ Z;replace Og:=Og.cD r (bw w) W (mC h_);replace hr:=hr.cD r (bw w) W (mC h_);have Sg:=Z.dD (S:=FF) r.bz (mN h_);obtain⟨N0,N1,N2,N3,rfl⟩:=Sg.shape;refine iX hτ dN (.two 0 (.two 1 (.one 2 (.one 3 (.one 4 .nil))) 2 (.one 1 (.one 3 (.one 4 .nil)))) 1 (.one 0 (.one 2 (.one 3 (.one 4 .nil))))) (by kernel_rfl) ?_;refine⟨?_,?_⟩
   ·refine⟨?_,?_⟩
    ·exact rtn Y fun GT we re=>.inr ⟨Ph,_,_,rfl,key.1▸Sg.out re (bw w),key.2▸hr.out re (bw w)⟩
    ·exact rtn Y fun GT we re=>.inr ⟨Ph,_,_,rfl,key.1▸Sg.out re (bw w),key.2▸hr.out re (bw w)⟩
   ·exact rtn Y fun GT we re=>.inr ⟨Ph,_,_,rfl,key.1▸Sg.out re (bw w),key.2▸hr.out re (bw w)⟩
  have Z:(x<0)↔(y<0):=by
   have e2:decide (x.sign<0)=decide (y.sign<0):=by simpa using OS
   have:=decide_eq_decide.1 e2;omega
  rw[if_pos Z]at key;refine iX hτ dN (.two 0 (.two 1 (.one 2 (.one 3 (.one 4 .nil))) 2 (.one 1 (.one 3 (.one 4 .nil)))) 1 (.one 0 (.one 2 (.one 3 (.one 4 .nil))))) (by kernel_rfl) ?_;refine⟨?_,?_⟩
  ·refine⟨?_,?_⟩
   ·exact rtn Y fun GT we re=>.inr ⟨Ph,_,_,rfl,key.1▸hq.out re (bw w),key.2▸hr.out re (bw w)⟩
   ·exact rtn Y fun GT we re=>.inr ⟨Ph,_,_,rfl,key.1▸hq.out re (bw w),key.2▸hr.out re (bw w)⟩
  ·exact rtn Y fun GT we re=>.inr ⟨Ph,_,_,rfl,key.1▸hq.out re (bw w),key.2▸hr.out re (bw w)⟩
 have hxs:=aH hxs;rw[aI (show ¬(x<0/\0<FS) by omega),aI (show ¬(x<0/\0<FS) by omega)]at key;refine cI hτ dN [.x 0,.x 3,.x 1,.x 2,.x 4,.x 5,.x 6] (by kernel_rfl) (by kernel_rfl) ?_;refine cE Y (fun _ J v V=>v= .int .i64 x.sign) (fun O J r=>gN (Rel.old r F) (L.rel r F).r) ?_;rintro O _ _ _ Ra r W Y h_ rfl;replace hy:=hy.cD r F W (mC h_);replace Og:=Og.cD r (bw w) W (mC h_);replace hr:=hr.cD r (bw w) W (mC h_);replace hq:=hq.cD r (bw w) W (mC h_);refine cE Y (fun _ J v V=>v= .int .i64 y.sign) (fun O J r=>gN (Rel.old r F) (hy.rel r F).r) ?_;rintro O _ _ _ SF r W Y h_ rfl;replace Og:=Og.cD r (bw w) W (mC h_);replace hr:=hr.cD r (bw w) W (mC h_);replace hq:=hq.cD r (bw w) W (mC h_);refine dB.mk ?_ ?_<;>intro OS
 ·have Z:¬((x<0)↔(y<0)):=fun e=>by
   have e2:decide (x.sign<0)=decide (y.sign<0):=decide_eq_decide.2 (by omega);rw[e2]at OS;simp at OS
  rw[aI Z]at key;refine cB (cE Y (fun _ J v V=>cu V (Nf J V) v (-(dC Q))) (fun O J r=>nN (Rel.old r (bw w)) ((hq.rel r (bw w)).l (k:=1000003) (by omega)) (by omega)) ?_);rintro O _ _ _ RW r W Y h_ Z;replace Og:=Og.cD r (bw w) W (mC h_);replace hr:=hr.cD r (bw w) W (mC h_);have Sg:=Z.dD (S:=FF) r.bz (mN h_);obtain⟨K0,K1,K2,K3,rfl⟩:=Sg.shape;refine iX hτ dN (.two 0 (.two 1 (.one 2 (.one 3 (.one 4 .nil))) 2 (.one 1 (.one 3 (.one 4 .nil)))) 1 (.one 0 (.one 2 (.one 3 (.one 4 .nil))))) (by kernel_rfl) ?_;refine⟨?_,?_⟩
  ·refine⟨?_,?_⟩
   ·exact rtn Y fun GT we re=>.inr ⟨Ph,_,_,rfl,key.1▸Sg.out re (bw w),key.2▸hr.out re (bw w)⟩
   ·exact rtn Y fun GT we re=>.inr ⟨Ph,_,_,rfl,key.1▸Sg.out re (bw w),key.2▸hr.out re (bw w)⟩
  ·exact rtn Y fun GT we re=>.inr ⟨Ph,_,_,rfl,key.1▸Sg.out re (bw w),key.2▸hr.out re (bw w)⟩
 have Z:(x<0)↔(y<0):=by
  have e2:decide (x.sign<0)=decide (y.sign<0):=by simpa using OS
  have:=decide_eq_decide.1 e2;omega
 rw[if_pos Z]at key;refine iX hτ dN (.two 0 (.two 1 (.one 2 (.one 3 (.one 4 .nil))) 2 (.one 1 (.one 3 (.one 4 .nil)))) 1 (.one 0 (.one 2 (.one 3 (.one 4 .nil))))) (by kernel_rfl) ?_;refine⟨?_,?_⟩
 ·refine⟨?_,?_⟩
  ·exact rtn Y fun GT we re=>.inr ⟨Ph,_,_,rfl,key.1▸hq.out re (bw w),key.2▸hr.out re (bw w)⟩
  ·exact rtn Y fun GT we re=>.inr ⟨Ph,_,_,rfl,key.1▸hq.out re (bw w),key.2▸hr.out re (bw w)⟩
 ·exact rtn Y fun GT we re=>.inr ⟨Ph,_,_,rfl,key.1▸hq.out re (bw w),key.2▸hr.out re (bw w)⟩
theorem ix{v:Value}{l:Nat}(F:Old S w)(L:fQ w S v k x)(hy:fQ w S u l y)(R:k<=1000000)(hl:l<=1000000)(h0:y≠0):
  dx PG F'.oC #[v,u] w (eH w fun v' V=>∃q r,v'= .tuple #[q,r,.int .i64 0]/\cu V (Nf w V) q (x / y)/\cu V (Nf w V) r (x % y)):=
 (JE F L hy R hl).mono fun _ _ ⟨v2,e1,e2,e3⟩=>⟨v2,e1,e2,e3.elim (fun h=>absurd h.1 h0) fun h=>h.2⟩
theorem Nq(x:Nat){y:Nat}(h:y≠0):ln (Nat.gcd x y)<=ln y:=fI (Nat.le_of_dvd (by omega) (Nat.gcd_dvd_right x y))
theorem Gn{a b:Int}(hb:b≠0):a / (b.sign*(Nat.gcd a.natAbs b.natAbs:Nat))=(Rat.divInt a b).num/\b / (b.sign*(Nat.gcd a.natAbs b.natAbs:Nat))=((Rat.divInt a b).den:Int):=by
 obtain⟨I,X⟩:=Br (a:=a) hb;have d1:((Nat.gcd a.natAbs b.natAbs:Nat):Int) ∣ a:=Int.ofNat_dvd_left.2 (Nat.gcd_dvd_left _ _);have d2:((Nat.gcd a.natAbs b.natAbs:Nat):Int) ∣ b:=Int.ofNat_dvd_left.2 (Nat.gcd_dvd_right _ _);have sg:b.sign=1\/b.sign= -1:=by rcases fo b with h|h|h<;>omega
 have key:∀c:Int,((Nat.gcd a.natAbs b.natAbs:Nat):Int) ∣ c->b.sign*(Nat.gcd a.natAbs b.natAbs:Nat) ∣ c:=fun c hc=>by
  rcases sg with h|h<;>rw[h]
  ·rw[Int.one_mul];exact hc
  ·rw[Int.neg_one_mul];exact Int.neg_dvd.2 hc
 rw[<-I,<-X,Int.tdiv_eq_ediv_of_dvd (key a d1),Int.tdiv_eq_ediv_of_dvd (key b d2)];exact⟨rfl,rfl⟩
theorem Bv{v:Value}{l:Nat}(F:Old S w)(L:fQ w S v k x)(hy:fQ w S u l y)(R:k<=1000000)(hl:l<=1000000):
  dx PG F'.te #[v,u] w (eH w fun v' V=>cu V (Nf w V) v' ((Nat.gcd x.natAbs y.natAbs:Nat):Int)):=by
 have Y:=bR w;replace L:=L.cF (S':=Cv S w.heap.size []) fun _ h=>.inl h;replace hy:=hy.cF (S':=Cv S w.heap.size []) fun _ h=>.inl h;obtain⟨b1,a1,n1,c1,rfl⟩:=L.shape;obtain⟨b2,a2,n2,c2,rfl⟩:=hy.shape;refine xI (by simp) ?_;have Pt:=L.ln;have Q3:=hy.ln;refine cI hτ dN [.x 0,.x 2,.x 1,.x 3,.x 4,.x 5] (by kernel_rfl) (by kernel_rfl) ?_;refine cE Y (fun _ J v V=>cu V (Nf J V) v ((x.natAbs:Int))) (fun O J r=>xq (Rel.old r F) (L.rel r F) (by omega)) ?_;rintro O _ _ _ OZ r W Y h_ Z;clear L;replace hy:=hy.cD r F W (mC h_);have ha:=Z.dD (S:=FF) r.bz (mN h_);clear r;obtain⟨A0,A1,A2,A3,rfl⟩:=ha.shape;refine cE Y (fun _ J v V=>cu V (Nf J V) v ((y.natAbs:Int))) (fun O J r=>xq (Rel.old r F) (hy.rel r F) (by omega)) ?_;rintro O _ _ _ OU r W Y h_ Z;clear hy;replace ha:=ha.cD r (bw w) W (mC h_);have hc:=Z.dD (S:=FF) r.bz (mN h_);clear r;obtain⟨C0,C1,C2,C3,rfl⟩:=hc.shape
 refine⟨Nat×Nat×(Bool×Option Addr×Nat×Nat)×(Bool×Option Addr×Nat×Nat)×World×Iv,fun z=>⟨[(2,pP 0 0),(3,pP 1 0),(4,pP 2 0)],[(2,.box T.Int [.v (.bool false),.v (.slice none 0 0)]),(1,.box T.Int [.v (.bool z.2.2.2.1.1),.v (.slice z.2.2.2.1.2.1 z.2.2.2.1.2.2.1 z.2.2.2.1.2.2.2)]),(0,.box T.Int [.v (.bool z.2.2.1.1),.v (.slice z.2.2.1.2.1 z.2.2.1.2.2.1 z.2.2.1.2.2.2)])],3,z.2.2.2.2.2,z.2.2.2.2.1⟩,fun z=>z.2.1,
  fun z=>Nat.gcd z.1 z.2.1=Nat.gcd x.natAbs y.natAbs/\ln z.1<=1000000/\ln z.2.1<=1000000/\dT w.heap.size w z.2.2.2.2.1/\cu z.2.2.2.2.1 (Cf w z.2.2.2.2.2) (.agg #[.bool z.2.2.1.1,.slice z.2.2.1.2.1 z.2.2.1.2.2.1 z.2.2.1.2.2.2]) (z.1:Int)/\cu z.2.2.2.2.1 (Cf w z.2.2.2.2.2) (.agg #[.bool z.2.2.2.1.1,.slice z.2.2.2.1.2.1 z.2.2.2.1.2.2.1 z.2.2.2.1.2.2.2]) (z.2.1:Int),?_,?_⟩
 ·intro O J r
  exact⟨(x.natAbs,y.natAbs,(A0,A1,A2,A3),(C0,C1,C2,C3),J,OU),⟨rfl,by dsimp only;omega,by dsimp only;omega,Y.tr r.cL,ha.rel r (bw w),hc.rel r (bw w)⟩,
   Sub.gn [] r⟩
 clear Y ha hc;rintro⟨a,b,⟨ba,aa,na,ca⟩,⟨bb,ab,nb,cb⟩,w1,iv⟩ ⟨G,RG,Pn,Y,ha,hc⟩;dsimp only at G RG Pn Y ha hc ⊢;refine cB (cE Y (fun _ J v V=>v= .int .i64 (b:Int).sign) (fun O J r=>gN (Rel.old r (bw w)) (hc.rel r (bw w)).r) ?_);rintro O _ _ _ Oi r W Y h_ rfl;replace ha:=ha.cD r (bw w) W (mC h_);replace hc:=hc.cD r (bw w) W (mC h_);clear r;have sb:=fo (b:Int);refine dB.mk ?_ ?_<;>intro h
 ·have h:=aK h;have hb0:0<b:=by omega
  have hm:=bq a hb0;have PO:ln (a % b)<=1000000:=aW (fI (by omega)) Pn;refine cB (cE Y (fun _ J v V=>∃q r,v= .tuple #[q,r,.int .i64 0]/\cu V (Nf J V) q ((a:Int) / b)/\cu V (Nf J V) r ((a:Int) % b)) (fun O J r=>ix (Rel.old r (bw w)) ((ha.rel r (bw w)).l (k:=1000000) RG) ((hc.rel r (bw w)).l (k:=1000000) Pn) (by omega) (by omega) (by omega)) ?_);rintro O _ _ _ Ow r W Y h_ ⟨q,rr,rfl,k1,k2⟩;clear ha;replace hc:=hc.cD r (bw w) W (mC h_);have hq:=k1.dD (S:=FF) r.bz (mN h_);have hr:=k2.dD (S:=FF) r.bz (mN h_);clear r;obtain⟨s4_0a,s4_0b,s4_0c,s4_0d,rfl⟩:=hq.shape;obtain⟨s4_1a,s4_1b,s4_1c,s4_1d,rfl⟩:=hr.shape;clear k1 k2 hq;refine iX hτ dN (.two 0 (.two 1 (.one 2 (.one 3 .nil)) 2 (.one 1 (.one 3 .nil))) 1 (.one 0 (.one 2 (.one 3 .nil)))) (by kernel_rfl) ?_;refine⟨?_,?_⟩
  ·conv=>whnf
   refine⟨?_,?_⟩
   ·conv=>whnf
    intro IR w3 K;exact⟨(b,a % b,(bb,ab,nb,cb),(s4_1a,s4_1b,s4_1c,s4_1d),w3,_),⟨by dsimp only;rw[<-G,Nat.gcd_comm a b,Nat.gcd_rec b a,Nat.gcd_comm],Pn,PO,Y.tr K.cL,hc.rel K (bw w),hr.rel K (bw w)⟩,Sub.gn [] K,hm⟩
   ·conv=>whnf
    intro IR w3 K;exact⟨(b,a % b,(bb,ab,nb,cb),(s4_1a,s4_1b,s4_1c,s4_1d),w3,_),⟨by dsimp only;rw[<-G,Nat.gcd_comm a b,Nat.gcd_rec b a,Nat.gcd_comm],Pn,PO,Y.tr K.cL,hc.rel K (bw w),hr.rel K (bw w)⟩,Sub.gn [] K,hm⟩
  ·conv=>whnf
   intro IR w3 K;exact⟨(b,a % b,(bb,ab,nb,cb),(s4_1a,s4_1b,s4_1c,s4_1d),w3,_),⟨by dsimp only;rw[<-G,Nat.gcd_comm a b,Nat.gcd_rec b a,Nat.gcd_comm],Pn,PO,Y.tr K.cL,hc.rel K (bw w),hr.rel K (bw w)⟩,Sub.gn [] K,hm⟩
 have h:=aH h;obtain rfl:b=0:=by omega
 rw[Nat.gcd_zero_right]at G;subst G;clear hc;exact rtn Y fun GT we re=>ha.out re (bw w)
theorem rA{v:Value}{l:Nat}(F:Old S w)(L:fQ w S v k x)(hy:fQ w S u l y)(R:k<=1000000)(hl:l<=1000000)(Ph:y≠0):
  dx PG F'.sR #[v,u] w (eH w fun v' V=>cN V (Nf w V) v' (Rat.divInt x y)):=by
 have Y:=bR w;replace L:=L.cF (S':=Cv S w.heap.size []) fun _ h=>.inl h;replace hy:=hy.cF (S':=Cv S w.heap.size []) fun _ h=>.inl h;obtain⟨b1,a1,n1,c1,rfl⟩:=L.shape;obtain⟨b2,a2,n2,c2,rfl⟩:=hy.shape;refine rV (by simp) ?_;have Pt:=L.ln;have Q3:=hy.ln;have hlg:=Nq x.natAbs (y:=y.natAbs) (by omega);obtain⟨Z,hd⟩:=Gn (a:=x) Ph;have sy:=fo y
 refine cB (cE Y (fun _ J v V=>∃n p,v= .tuple #[.int .i64 n,.bool p]/\(p=true->n=x/\x.natAbs<1073741824)) (fun O J r=>(nM (Rel.old r F) (L.rel r F).r).mono fun e V ⟨v2,e1,e2,e3⟩=>⟨v2,e1,e2,by
   rw[e3,jg];split
   ·exact⟨_,_,rfl,fun _=>⟨rfl,‹_›⟩⟩
   ·exact⟨_,_,rfl,fun h=>by cases h⟩⟩) ?_)
 rintro O _ _ _ OZ r W Y h_ ⟨nx,px,rfl,qx⟩;replace L:=L.cD r F W (mC h_);replace hy:=hy.cD r F W (mC h_);clear r
 refine cB (cE Y (fun _ J v V=>∃n p,v= .tuple #[.int .i64 n,.bool p]/\(p=true->n=y/\y.natAbs<1073741824)) (fun O J r=>(nM (Rel.old r F) (hy.rel r F).r).mono fun e V ⟨v2,e1,e2,e3⟩=>⟨v2,e1,e2,by
   rw[e3,jg];split
   ·exact⟨_,_,rfl,fun _=>⟨rfl,‹_›⟩⟩
   ·exact⟨_,_,rfl,fun h=>by cases h⟩⟩) ?_)
 rintro O _ _ _ OU r W Y h_ ⟨ny,py,rfl,qy⟩;replace L:=L.cD r F W (mC h_);replace hy:=hy.cD r F W (mC h_);clear r;refine dB.mk ?_ ?_<;>intro I
 ·obtain⟨e1,hxs⟩:=qx I;replace e1:=e1.symm;subst e1;refine dB.mk ?_ ?_<;>intro X
  ·obtain⟨e2,hys⟩:=qy X;replace e2:=e2.symm;subst e2;clear L hy;refine cB (cE Y (fun _ J v V=>cN V (Nf J V) v (Rat.divInt x y)) (fun O J r=>qw x y J (by omega) (by omega) Ph) ?_);rintro O PY v3 PX Oi r W Y h_ Z;have hR:=Z.dD (S:=FF) r.bz (mN h_);clear r Z;obtain⟨A0,A1,A2,A3,A4,A5,A6,A7,rfl⟩:=hR.shape;exact rtn Y fun GT we re=>hR.out re (bw w)
  refine cB (cE Y (fun _ J v V=>cu V (Nf J V) v (((Nat.gcd x.natAbs y.natAbs:Nat):Int))) (fun O J r=>Bv (Rel.old r F) (L.rel r F) (hy.rel r F) R hl) ?_);rintro O PY v3 PX Oi r W Y h_ Z;replace L:=L.cD r F W (mC h_);replace hy:=hy.cD r F W (mC h_);have G:=Z.dD (S:=FF) r.bz (mN h_);clear r Z;obtain⟨A0,A1,A2,A3,rfl⟩:=G.shape;refine cB (cE Y (fun _ J v V=>v= .int .i64 y.sign) (fun O J r=>gN (Rel.old r F) (hy.rel r F).r) ?_);rintro O Qw v4 Q9 Ow r W Y h_ rfl;replace L:=L.cD r F W (mC h_);replace hy:=hy.cD r F W (mC h_);replace G:=G.cD r (bw w) W (mC h_);clear r;have hgp:0<Nat.gcd x.natAbs y.natAbs:=bl _ (by omega);generalize Nat.gcd x.natAbs y.natAbs=g at*
  refine dB.mk ?_ ?_<;>intro hs
  ·have hs:=aK hs;rw[show y.sign= -1 by omega,Int.neg_one_mul]at Z hd;refine cB (cE Y (fun _ J v V=>cu V (Nf J V) v (-(g:Int))) (fun O J r=>nN (Rel.old r (bw w)) ((G.rel r (bw w)).l (k:=1000000) (by rw[Int.natAbs_natCast];omega)) (by omega)) ?_);rintro O SZ v5 Sm QO r W Y h_ Z;replace L:=L.cD r F W (mC h_);replace hy:=hy.cD r F W (mC h_);clear G;have Rl:=Z.dD (S:=FF) r.bz (mN h_);clear r Z;obtain⟨C0,C1,C2,C3,rfl⟩:=Rl.shape;refine cB (cE Y (fun _ J v V=>∃q r,v= .tuple #[q,r,.int .i64 0]/\cu V (Nf J V) q (Rat.divInt x y).num/\cu V (Nf J V) r (x % (-(g:Int)))) (fun O J r=>Z▸ix (Rel.old r F) (L.rel r F) ((((Rl.rel r (bw w)).l (k:=1000000) (by rw[Int.natAbs_neg,Int.natAbs_natCast];omega))).cF fun g G=>Cv.false G) R (by omega) (by omega)) ?_);rintro O R7 v6 Rj R8 r W Y h_ ⟨q,rr,rfl,k1,k2⟩;clear L;replace hy:=hy.cD r F W (mC h_);replace Rl:=Rl.cD r (bw w) W (mC h_);have hq:=k1.dD (S:=FF) r.bz (mN h_);have hr:=k2.dD (S:=FF) r.bz (mN h_);clear r;obtain⟨s6_0a,s6_0b,s6_0c,s6_0d,rfl⟩:=hq.shape;obtain⟨s6_1a,s6_1b,s6_1c,s6_1d,rfl⟩:=hr.shape;clear k1 k2 hr;refine cB (cE Y (fun _ J v V=>∃q r,v= .tuple #[q,r,.int .i64 0]/\cu V (Nf J V) q ((Rat.divInt x y).den:Int)/\cu V (Nf J V) r (y % (-(g:Int)))) (fun O J r=>hd▸ix (Rel.old r F) (hy.rel r F) ((((Rl.rel r (bw w)).l (k:=1000000) (by rw[Int.natAbs_neg,Int.natAbs_natCast];omega))).cF fun g G=>Cv.false G) hl (by omega) (by omega)) ?_);rintro O Ty v7 Tz Ra r W Y h_ ⟨q,rr,rfl,k1,k2⟩;clear hy;clear Rl;replace hq:=hq.cD r (bw w) W (mC h_);have Q2:=k1.dD (S:=FF) r.bz (mN h_);have hr:=k2.dD (S:=FF) r.bz (mN h_);clear r;obtain⟨s7_0a,s7_0b,s7_0c,s7_0d,rfl⟩:=Q2.shape;obtain⟨s7_1a,s7_1b,s7_1c,s7_1d,rfl⟩:=hr.shape;clear k1 k2 hr;exact rtn Y fun GT we re=>(cN.of hq Q2).out re (bw w)
  have hs:=aH hs;rw[show y.sign=1 by omega,Int.one_mul]at Z hd;refine cB (cE Y (fun _ J v V=>∃q r,v= .tuple #[q,r,.int .i64 0]/\cu V (Nf J V) q (Rat.divInt x y).num/\cu V (Nf J V) r (x % ((g:Int)))) (fun O J r=>Z▸ix (Rel.old r F) (L.rel r F) ((((G.rel r (bw w)).l (k:=1000000) (by rw[Int.natAbs_natCast];omega))).cF fun g G=>Cv.false G) R (by omega) (by omega)) ?_);rintro O SZ v5 Sm QO r W Y h_ ⟨q,rr,rfl,k1,k2⟩;clear L;replace hy:=hy.cD r F W (mC h_);replace G:=G.cD r (bw w) W (mC h_);have hq:=k1.dD (S:=FF) r.bz (mN h_);have hr:=k2.dD (S:=FF) r.bz (mN h_);clear r;obtain⟨s5_0a,s5_0b,s5_0c,s5_0d,rfl⟩:=hq.shape;obtain⟨s5_1a,s5_1b,s5_1c,s5_1d,rfl⟩:=hr.shape;clear k1 k2 hr;refine cB (cE Y (fun _ J v V=>∃q r,v= .tuple #[q,r,.int .i64 0]/\cu V (Nf J V) q ((Rat.divInt x y).den:Int)/\cu V (Nf J V) r (y % ((g:Int)))) (fun O J r=>hd▸ix (Rel.old r F) (hy.rel r F) ((((G.rel r (bw w)).l (k:=1000000) (by rw[Int.natAbs_natCast];omega))).cF fun g G=>Cv.false G) hl (by omega) (by omega)) ?_);rintro O R7 v6 Rj R8 r W Y h_ ⟨q,rr,rfl,k1,k2⟩;clear hy;clear G;replace hq:=hq.cD r (bw w) W (mC h_);have Q2:=k1.dD (S:=FF) r.bz (mN h_);have hr:=k2.dD (S:=FF) r.bz (mN h_);clear r;obtain⟨s6_0a,s6_0b,s6_0c,s6_0d,rfl⟩:=Q2.shape;obtain⟨s6_1a,s6_1b,s6_1c,s6_1d,rfl⟩:=hr.shape;clear k1 k2 hr;exact rtn Y fun GT we re=>(cN.of hq Q2).out re (bw w)
 refine cB (cE Y (fun _ J v V=>cu V (Nf J V) v (((Nat.gcd x.natAbs y.natAbs:Nat):Int))) (fun O J r=>Bv (Rel.old r F) (L.rel r F) (hy.rel r F) R hl) ?_);rintro O _ _ _ Oi r W Y h_ Z;replace L:=L.cD r F W (mC h_);replace hy:=hy.cD r F W (mC h_);have G:=Z.dD (S:=FF) r.bz (mN h_);clear r Z;obtain⟨A0,A1,A2,A3,rfl⟩:=G.shape;refine cB (cE Y (fun _ J v V=>v= .int .i64 y.sign) (fun O J r=>gN (Rel.old r F) (hy.rel r F).r) ?_);rintro O _ _ _ Ow r W Y h_ rfl;replace L:=L.cD r F W (mC h_);replace hy:=hy.cD r F W (mC h_);replace G:=G.cD r (bw w) W (mC h_);clear r;have hgp:0<Nat.gcd x.natAbs y.natAbs:=bl _ (by omega);generalize Nat.gcd x.natAbs y.natAbs=g at*
 refine dB.mk ?_ ?_<;>intro hs
 ·have hs:=aK hs;rw[show y.sign= -1 by omega,Int.neg_one_mul]at Z hd;refine cB (cE Y (fun _ J v V=>cu V (Nf J V) v (-(g:Int))) (fun O J r=>nN (Rel.old r (bw w)) ((G.rel r (bw w)).l (k:=1000000) (by rw[Int.natAbs_natCast];omega)) (by omega)) ?_);rintro O SZ v5 Sm QO r W Y h_ Z;replace L:=L.cD r F W (mC h_);replace hy:=hy.cD r F W (mC h_);clear G;have Rl:=Z.dD (S:=FF) r.bz (mN h_);clear r Z;obtain⟨C0,C1,C2,C3,rfl⟩:=Rl.shape;refine cB (cE Y (fun _ J v V=>∃q r,v= .tuple #[q,r,.int .i64 0]/\cu V (Nf J V) q (Rat.divInt x y).num/\cu V (Nf J V) r (x % (-(g:Int)))) (fun O J r=>Z▸ix (Rel.old r F) (L.rel r F) ((((Rl.rel r (bw w)).l (k:=1000000) (by rw[Int.natAbs_neg,Int.natAbs_natCast];omega))).cF fun g G=>Cv.false G) R (by omega) (by omega)) ?_);rintro O R7 v6 Rj R8 r W Y h_ ⟨q,rr,rfl,k1,k2⟩;clear L;replace hy:=hy.cD r F W (mC h_);replace Rl:=Rl.cD r (bw w) W (mC h_);have hq:=k1.dD (S:=FF) r.bz (mN h_);have hr:=k2.dD (S:=FF) r.bz (mN h_);clear r;obtain⟨s6_0a,s6_0b,s6_0c,s6_0d,rfl⟩:=hq.shape;obtain⟨s6_1a,s6_1b,s6_1c,s6_1d,rfl⟩:=hr.shape;clear k1 k2 hr;refine cB (cE Y (fun _ J v V=>∃q r,v= .tuple #[q,r,.int .i64 0]/\cu V (Nf J V) q ((Rat.divInt x y).den:Int)/\cu V (Nf J V) r (y % (-(g:Int)))) (fun O J r=>hd▸ix (Rel.old r F) (hy.rel r F) ((((Rl.rel r (bw w)).l (k:=1000000) (by rw[Int.natAbs_neg,Int.natAbs_natCast];omega))).cF fun g G=>Cv.false G) hl (by omega) (by omega)) ?_);rintro O _ _ _ Ra r W Y h_ ⟨q,rr,rfl,k1,k2⟩;clear hy;clear Rl;replace hq:=hq.cD r (bw w) W (mC h_);have Q2:=k1.dD (S:=FF) r.bz (mN h_);have hr:=k2.dD (S:=FF) r.bz (mN h_);clear r;obtain⟨s7_0a,s7_0b,s7_0c,s7_0d,rfl⟩:=Q2.shape;obtain⟨s7_1a,s7_1b,s7_1c,s7_1d,rfl⟩:=hr.shape;clear k1 k2 hr;exact rtn Y fun GT we re=>(cN.of hq Q2).out re (bw w)
 have hs:=aH hs;rw[show y.sign=1 by omega,Int.one_mul]at Z hd;refine cB (cE Y (fun _ J v V=>∃q r,v= .tuple #[q,r,.int .i64 0]/\cu V (Nf J V) q (Rat.divInt x y).num/\cu V (Nf J V) r (x % ((g:Int)))) (fun O J r=>Z▸ix (Rel.old r F) (L.rel r F) ((((G.rel r (bw w)).l (k:=1000000) (by rw[Int.natAbs_natCast];omega))).cF fun g G=>Cv.false G) R (by omega) (by omega)) ?_);rintro O _ _ _ QO r W Y h_ ⟨q,rr,rfl,k1,k2⟩;clear L;replace hy:=hy.cD r F W (mC h_);replace G:=G.cD r (bw w) W (mC h_);have hq:=k1.dD (S:=FF) r.bz (mN h_);have hr:=k2.dD (S:=FF) r.bz (mN h_);clear r;obtain⟨s5_0a,s5_0b,s5_0c,s5_0d,rfl⟩:=hq.shape;obtain⟨s5_1a,s5_1b,s5_1c,s5_1d,rfl⟩:=hr.shape;clear k1 k2 hr;refine cB (cE Y (fun _ J v V=>∃q r,v= .tuple #[q,r,.int .i64 0]/\cu V (Nf J V) q ((Rat.divInt x y).den:Int)/\cu V (Nf J V) r (y % ((g:Int)))) (fun O J r=>hd▸ix (Rel.old r F) (hy.rel r F) ((((G.rel r (bw w)).l (k:=1000000) (by rw[Int.natAbs_natCast];omega))).cF fun g G=>Cv.false G) hl (by omega) (by omega)) ?_);rintro O _ _ _ R8 r W Y h_ ⟨q,rr,rfl,k1,k2⟩;clear hy;clear G;replace hq:=hq.cD r (bw w) W (mC h_);have Q2:=k1.dD (S:=FF) r.bz (mN h_);have hr:=k2.dD (S:=FF) r.bz (mN h_);clear r;obtain⟨s6_0a,s6_0b,s6_0c,s6_0d,rfl⟩:=Q2.shape;obtain⟨s6_1a,s6_1b,s6_1c,s6_1d,rfl⟩:=hr.shape;clear k1 k2 hr;exact rtn Y fun GT we re=>(cN.of hq Q2).out re (bw w)
def eJ(w:World)(S:Nat->Prop)(v:Value)(q:Rat):Prop:=∃b1 l1 b2 l2 a b,v= .agg #[.bool b1,l1,.bool b2,l2]/\fQ w S (.agg #[.bool b1,l1]) 100000 a/\fQ w S (.agg #[.bool b2,l2]) 100000 b/\ratio a b=q
theorem eJ.cC{V:World}{v:Value}(h:eJ w S v q)(R:∀g,S g->V.heap[g]? =w.heap[g]?):eJ V S v q:=by
 obtain⟨b1,l1,b2,l2,a,b,I,X,N,h4⟩:=h;exact⟨b1,l1,b2,l2,a,b,I,X.cC R,N.cC R,h4⟩
theorem eJ.cF{S':Nat->Prop}{v:Value}(h:eJ w S v q)(R:∀g,S g->S' g):eJ w S' v q:=by
 obtain⟨b1,l1,b2,l2,a,b,I,X,N,h4⟩:=h;exact⟨b1,l1,b2,l2,a,b,I,X.cF R,N.cF R,h4⟩
theorem eJ.r{v:Value}(h:eJ w S v q):∃a b,iD w S v a b/\ratio a b=q:=by
 obtain⟨b1,l1,b2,l2,a,b,rfl,X,N,h4⟩:=h;exact⟨a,b,⟨b1,l1,b2,l2,rfl,X.r,N.r⟩,h4⟩
theorem eJ.v{v:Value}(h:eJ w S v q):qR w S v q:=by
 obtain⟨b1,l1,b2,l2,a,b,rfl,X,N,h4⟩:=h;exact⟨a,b,⟨b1,l1,b2,l2,rfl,X.r,N.r⟩,h4,X.ln,N.ln⟩
theorem eJ.shape{v:Value}(h:eJ w S v q):∃b a n c b2 a2 n2 c2,v= .agg #[.bool b,.slice a n c,.bool b2,.slice a2 n2 c2]:=h.v.shape
theorem eJ.rl{v:Value}(h:eJ w S v q):rl q<=100000:=by
 obtain⟨b1,l1,b2,l2,a,b,rfl,X,N,rfl⟩:=h;have:=gY a b;have:=X.ln;have:=N.ln;omega
theorem cN.l{v:Value}(h:cN w S v q)(hl:rl q<=100000):eJ w S v q:=by
 obtain⟨b1,l1,b2,l2,I,X,N⟩:=h;exact⟨b1,l1,b2,l2,_,_,I,X.l (aW (fu q) hl),N.l (aW (fJ q) hl),sf q⟩
theorem LX(a b:Int):rs (ratio a b)=if b.sign<0 then -a.sign else a.sign:=by
 have sb:=fo b;rw[ratio];split
 ·rw[aI (by omega),rs,tS (by decide)]
 ·split
  ·rw[show Rat.divInt a b=Rat.divInt (-a) (-b)from(Rat.neg_divInt_neg a b).symm,rs,tS (by omega),Int.sign_neg]
  ·rw[rs,tS (by omega)]
theorem j3{a c:Int}:(a.natAbs<1073741824)->(c.natAbs<1073741824)->(a*c).natAbs<=1152921502459363329:=fun I X=>by
 rw[Int.natAbs_mul];exact Nat.mul_le_mul (show a.natAbs<=1073741823 by omega) (show c.natAbs<=1073741823 by omega)
section
variable{S S':Nat->Prop}{H:Hp}{nx:Nat}{iv E:Iv}{B:Nat}{w J V:World}{O:Nat->Sx.dL}{v:Value}{q:Rat}
theorem eJ.rel(h:eJ w (Cv S B iv) v q)(r:Rel H nx iv B w O J)(F:∀g,S g->g<B):eJ J (Cv S B iv) v q:=h.cC fun _ G=>Rel.same r F G
theorem eJ.cD(h:eJ w (Cv S B iv) v q)(r:Rel H nx iv B w O J)(F:∀g,S g->g<B)(W:Ext J V)(hm:∀p,p∈iv->p∈E):eJ V (Cv S B E) v q:=
 ((h.rel r F).cC fun g G=>W.block g (Rel.old r F g G)).cF fun _ G=>G.mono hm
theorem eJ.arg(h:eJ w S v q)(iv:Iv):eJ w (Cv S w.heap.size iv) v q:=h.cF fun _ h=>.inl h
end
theorem zz{v:Value}{a b:Int}(F:Old S w)(hp:iD w S v a b):
  dx PG F'.ki #[v] w (eH w fun v' _=>v'= .int .i64 (rs (ratio a b))):=by
 have Y:=bR w;obtain⟨b1,l1,b2,l2,rfl,ha,Pk⟩:=hp;obtain⟨_,a1,n1,c1,e1⟩:=ha.shape;obtain⟨_,a2,n2,c2,e2⟩:=Pk.shape;simp only[Value.agg.injEq,Array.mk.injEq,List.cons.injEq,and_true]at e1 e2;obtain⟨_,rfl⟩:=e1;obtain⟨_,rfl⟩:=e2;replace ha:=ha.cF (S':=Cv S w.heap.size []) fun _ h=>.inl h;replace Pk:=Pk.cF (S':=Cv S w.heap.size []) fun _ h=>.inl h;have hr:=LX a b;have sa:=fo a;refine wz (by simp) ?_;refine cB (cE Y (fun _ J v V=>v= .int .i64 b.sign) (fun O J r=>gN (Rel.old r F) (Pk.rel r F)) ?_);rintro O _ _ _ OZ r W Y h_ rfl;replace ha:=ha.cD r F W (mC h_);refine dB.mk ?_ ?_<;>intro h
 ·have h:=aK h;rw[if_pos h]at hr;refine cB (cE Y (fun _ J v V=>v= .int .i64 a.sign) (fun O J r=>gN (Rel.old r F) (ha.rel r F)) ?_);rintro O QK v2 PT OU r W Y h_ rfl;refine⟨-a.sign,wo,?_⟩;exact rtn Y fun GT we re=>by rw[hr];rfl
 have h:=aH h;rw[aI h]at hr;refine cB (cE Y (fun _ J v V=>v= .int .i64 a.sign) (fun O J r=>gN (Rel.old r F) (ha.rel r F)) ?_);rintro O _ _ _ OU r W Y h_ rfl;exact rtn Y fun GT we re=>by rw[hr];rfl
theorem Gp{v:Value}(F:Old S w)(hp:eJ w S v p):dx PG F'.ki #[v] w (eH w fun v' _=>v'= .int .i64 (rs p)):=by
 obtain⟨a,b,I,rfl⟩:=hp.r;exact zz F I
theorem iy{v:Value}(F:Old S w)(hp:eJ w S v p):
  dx PG F'.tY #[v] w (eH w fun v' V=>cN V (Nf w V) v' p):=by
 have Y:=bR w;obtain⟨b1,l1,b2,l2,a,b,rfl,ha,Pk,rfl⟩:=hp;obtain⟨_,a1,n1,c1,e1⟩:=ha.shape;obtain⟨_,a2,n2,c2,e2⟩:=Pk.shape;simp only[Value.agg.injEq,Array.mk.injEq,List.cons.injEq,and_true]at e1 e2;obtain⟨_,rfl⟩:=e1;obtain⟨_,rfl⟩:=e2;replace ha:=ha.cF (S':=Cv S w.heap.size []) fun _ h=>.inl h;replace Pk:=Pk.cF (S':=Cv S w.heap.size []) fun _ h=>.inl h;have sb:=fo b;refine xD (by simp) ?_;refine cB (cG (Id:=fun _ J v V=>v= .int .i64 b.sign) (fun O J r=>gN (Rel.old r F) (Pk.rel r F).r) ?_);rintro O PQ v1 PE r W hb rfl;replace Y:=Y.tr hb;replace ha:=ha.cD (E:=(PQ.heap.size,PE.heap.size)::[]) r F W fun x L=>aC _ L;replace Pk:=Pk.cD (E:=(PQ.heap.size,PE.heap.size)::[]) r F W fun x L=>aC _ L;generalize (PQ.heap.size,PE.heap.size)::[]=OZ at*
 refine dB.mk ?_ ?_<;>intro h
 ·have h:b.sign=0:=by simpa using h
  obtain rfl:b=0:=by omega
  rw[show ratio a 0=Rat.divInt a 1 from if_pos rfl];refine cI hτ dN [.x 0,.x 1,.x 2,.x 3,.x 4] (by kernel_rfl) (by kernel_rfl) ?_;refine cG (Id:=fun _ J v V=>cu V (Nf J V) v (1)) (fun O J r=>oe _ J (by decide) (by decide)) ?_;rintro O QK v2 PT r W hb Z;replace Y:=Y.tr hb;replace ha:=ha.cD (E:=(QK.heap.size,PT.heap.size)::OZ) r F W fun x L=>aC _ L;replace Pk:=Pk.cD (E:=(QK.heap.size,PT.heap.size)::OZ) r F W fun x L=>aC _ L;have I:=Z.dD (S:=FF) r.bz (iv:=(QK.heap.size,PT.heap.size)::OZ) aG;generalize (QK.heap.size,PT.heap.size)::OZ=OU at*
  obtain⟨A0,A1,A2,A3,rfl⟩:=I.shape;refine cG (Id:=fun _ J v V=>cN V (Nf J V) v (Rat.divInt a 1)) (fun O J r=>rA (Rel.old r F) (ha.rel r F) (((I.rel r (bw w)).l (k:=1) (by decide)).cF fun g G=>Cv.false G) (by omega) (by omega) (by decide)) ?_;rintro O PY v3 PX r W hb Z;replace Y:=Y.tr hb;replace ha:=ha.cD (E:=(PY.heap.size,PX.heap.size)::OU) r F W fun x L=>aC _ L;replace Pk:=Pk.cD (E:=(PY.heap.size,PX.heap.size)::OU) r F W fun x L=>aC _ L;replace I:=I.cD (E:=(PY.heap.size,PX.heap.size)::OU) r (bw w) W fun x L=>aC _ L;have hR:=Z.dD (S:=FF) r.bz (iv:=(PY.heap.size,PX.heap.size)::OU) aG;generalize (PY.heap.size,PX.heap.size)::OU=Oi at*
  obtain⟨C0,C1,C2,C3,C4,C5,C6,C7,rfl⟩:=hR.shape;exact rtn Y fun GT we re=>hR.out re (bw w)
 have h:b.sign≠0:=by simpa using h
 have hb0:b≠0:=by omega
 rw[show ratio a b=Rat.divInt a b from aI hb0];refine cB (cG (Id:=fun _ J v V=>cN V (Nf J V) v (Rat.divInt a b)) (fun O J r=>rA (Rel.old r F) (ha.rel r F) (Pk.rel r F) (by omega) (by omega) hb0) ?_);rintro O QK v2 PT r W hb Z;replace Y:=Y.tr hb;replace ha:=ha.cD (E:=(QK.heap.size,PT.heap.size)::OZ) r F W fun x L=>aC _ L;replace Pk:=Pk.cD (E:=(QK.heap.size,PT.heap.size)::OZ) r F W fun x L=>aC _ L;have hR:=Z.dD (S:=FF) r.bz (iv:=(QK.heap.size,PT.heap.size)::OZ) aG;generalize (QK.heap.size,PT.heap.size)::OZ=OU at*
 obtain⟨A0,A1,A2,A3,A4,A5,A6,A7,rfl⟩:=hR.shape;exact rtn Y fun GT we re=>hR.out re (bw w)
theorem xr{v:Value}(F:Old S w)(hp:eJ w S v p):
  dx PG F'.wU #[v] w (eH w fun v' _=>∃n d ok,v'= .tuple #[.int .i64 n,.int .i64 d,.bool ok]/\(ok=true->d≠0/\n.natAbs<1073741824/\d.natAbs<1073741824/\Rat.divInt n d=p)):=by
 have Y:=bR w;obtain⟨b1,l1,b2,l2,a,b,rfl,ha,Pk,rfl⟩:=hp;obtain⟨_,a1,n1,c1,e1⟩:=ha.shape;obtain⟨_,a2,n2,c2,e2⟩:=Pk.shape;simp only[Value.agg.injEq,Array.mk.injEq,List.cons.injEq,and_true]at e1 e2;obtain⟨_,rfl⟩:=e1;obtain⟨_,rfl⟩:=e2;replace ha:=ha.cF (S':=Cv S w.heap.size []) fun _ h=>.inl h;replace Pk:=Pk.cF (S':=Cv S w.heap.size []) fun _ h=>.inl h;refine z7 (by simp) ?_
 refine cB (cG (Id:=fun _ J v V=>∃n p,v= .tuple #[.int .i64 n,.bool p]/\(p=true->n=a/\a.natAbs<1073741824)) (fun O J r=>(nM (Rel.old r F) (ha.rel r F).r).mono fun e V ⟨v2,e1,e2,e3⟩=>⟨v2,e1,e2,by
   rw[e3,jg];split
   ·exact⟨_,_,rfl,fun _=>⟨rfl,‹_›⟩⟩
   ·exact⟨_,_,rfl,fun h=>by cases h⟩⟩) ?_)
 rintro O PQ v1 PE r W hb ⟨na,pa,rfl,qa⟩;replace Y:=Y.tr hb;replace ha:=ha.cD (E:=(PQ.heap.size,PE.heap.size)::[]) r F W fun x L=>aC _ L;replace Pk:=Pk.cD (E:=(PQ.heap.size,PE.heap.size)::[]) r F W fun x L=>aC _ L;generalize (PQ.heap.size,PE.heap.size)::[]=OZ at*
 refine cB (cG (Id:=fun _ J v V=>∃n p,v= .tuple #[.int .i64 n,.bool p]/\(p=true->n=b/\b.natAbs<1073741824)) (fun O J r=>(nM (Rel.old r F) (Pk.rel r F).r).mono fun e V ⟨v2,e1,e2,e3⟩=>⟨v2,e1,e2,by
   rw[e3,jg];split
   ·exact⟨_,_,rfl,fun _=>⟨rfl,‹_›⟩⟩
   ·exact⟨_,_,rfl,fun h=>by cases h⟩⟩) ?_)
 rintro O QK v2 PT r W hb ⟨nb,pb,rfl,qb⟩;replace Y:=Y.tr hb;replace ha:=ha.cD (E:=(QK.heap.size,PT.heap.size)::OZ) r F W fun x L=>aC _ L;replace Pk:=Pk.cD (E:=(QK.heap.size,PT.heap.size)::OZ) r F W fun x L=>aC _ L;generalize (QK.heap.size,PT.heap.size)::OZ=OU at*
 refine dB.mk ?_ ?_<;>intro h
 ·have h:nb=0:=by simpa using h
  refine dB.mk ?_ ?_<;>intro I
  ·intro GT we re
   exact⟨_,rfl,Y.tr re.cL,⟨na,1,pb,rfl,fun X=>by
     obtain⟨rfl,L⟩:=qa I;obtain⟨rfl,hy⟩:=qb X;rw[h]
     exact⟨by decide,L,by decide,(if_pos rfl).symm⟩⟩⟩
  exact rtn Y fun GT we re=>⟨na,1,false,rfl,fun X=>by cases X⟩
 have h:nb≠0:=by simpa using h
 refine dB.mk ?_ ?_<;>intro I
 ·intro GT we re
  exact⟨_,rfl,Y.tr re.cL,⟨na,nb,pb,rfl,fun X=>by
    obtain⟨rfl,L⟩:=qa I;obtain⟨rfl,hy⟩:=qb X
    exact⟨h,L,hy,(aI h).symm⟩⟩⟩
 exact rtn Y fun GT we re=>⟨na,nb,false,rfl,fun X=>by cases X⟩
theorem Nr{v:Value}(F:Old S w)(hp:eJ w S v p)(hq:eJ w S u q):
  dx PG F'.B2 #[v,u] w (eH w fun v' V=>cN V (Nf w V) v' (p+q)):=by
 have Y:=bR w;replace hp:=hp.cF (S':=Cv S w.heap.size []) fun _ h=>.inl h;replace hq:=hq.cF (S':=Cv S w.heap.size []) fun _ h=>.inl h;obtain⟨b1,a1,n1,c1,b2,a2,n2,c2,rfl⟩:=hp.shape;obtain⟨b3,a3,n3,c3,b4,a4,n4,c4,rfl⟩:=hq.shape;refine CZ (by simp) ?_;have r1:=hp.rl;have r2:=hq.rl;have u1:=fu p;have u2:=fJ p;have u3:=fu q;have u4:=fJ q;refine cB (cE Y (fun _ J v V=>∃n d ok,v= .tuple #[.int .i64 n,.int .i64 d,.bool ok]/\(ok=true->d≠0/\n.natAbs<1073741824/\d.natAbs<1073741824/\Rat.divInt n d=p)) (fun O J r=>xr (Rel.old r F) (hp.rel r F)) ?_);rintro O _ _ _ OZ r W Y h_ ⟨a,b,k1,rfl,g1⟩;replace hp:=hp.cD r F W (mC h_);replace hq:=hq.cD r F W (mC h_);refine cB (cE Y (fun _ J v V=>∃n d ok,v= .tuple #[.int .i64 n,.int .i64 d,.bool ok]/\(ok=true->d≠0/\n.natAbs<1073741824/\d.natAbs<1073741824/\Rat.divInt n d=q)) (fun O J r=>xr (Rel.old r F) (hq.rel r F)) ?_);rintro O _ _ _ OU r W Y h_ ⟨c,d,k2,rfl,g2⟩;replace hp:=hp.cD r F W (mC h_);replace hq:=hq.cD r F W (mC h_);refine dB.mk ?_ ?_<;>intro I
 ·refine dB.mk ?_ ?_<;>intro X
  ·obtain⟨g3,g4,g5,g6⟩:=g1 I;obtain⟨g7,g8,g9,g10⟩:=g2 X;have i1:=j3 g4 g9;have i2:=j3 g8 g5;have i3:=j3 g5 g9;have i4:=j3 g4 g8;refine⟨a*d,wo,c*b,wo,a*d+c*b,wo,b*d,wo,?_⟩;have e:=Rat.divInt_add_divInt a c g3 g7;rw[g6,g10]at e;refine cB (cE Y (fun _ J v V=>cN V (Nf J V) v (p+q)) (fun O J r=>e▸qw (a*d+c*b) (b*d) J (by omega) (by omega) (kP g3 g7)) ?_);rintro O PY v3 PX Oi r W Y h_ Z;have hR:=Z.dD (S:=FF) r.bz (mN h_);obtain⟨A0,A1,A2,A3,A4,A5,A6,A7,rfl⟩:=hR.shape;exact rtn Y fun GT we re=>hR.out re (bw w)
  refine cI hτ dN [.x 0,.x 2,.x 1,.x 3,.x 4,.x 5] (by kernel_rfl) (by kernel_rfl) ?_;refine cE Y (fun _ J v V=>cN V (Nf J V) v (p)) (fun O J r=>iy (Rel.old r F) (hp.rel r F)) ?_;rintro O PY v3 PX Oi r W Y h_ Z;replace hq:=hq.cD r F W (mC h_);have hX:=Z.dD (S:=FF) r.bz (mN h_);obtain⟨A0,A1,A2,A3,A4,A5,A6,A7,rfl⟩:=hX.shape;refine cE Y (fun _ J v V=>cN V (Nf J V) v (q)) (fun O J r=>iy (Rel.old r F) (hq.rel r F)) ?_;rintro O Qw v4 Q9 Ow r W Y h_ Z;replace hX:=hX.cD r (bw w) W (mC h_);have hY:=Z.dD (S:=FF) r.bz (mN h_);obtain⟨C0,C1,C2,C3,C4,C5,C6,C7,rfl⟩:=hY.shape;have Qm:=hX.num;have Qa:=hX.den;have Qn:=hY.num;have Qb:=hY.den;have m0:=cX p.num q.den;have m1:=cX q.num p.den;have m2:=cX (p.den:Int) q.den;have m3:=ia (p.num*q.den) (q.num*p.den);have m4:=cX p.num q.num;refine cI hτ dN [.x 0,.x 1,.x 2,.x 3,.x 5,.x 6,.x 7,.x 8,.x 11,.x 12,.x 13,.x 14,.x 4,.x 9,.x 10,.x 15,.x 16,.x 17] (by kernel_rfl) (by kernel_rfl) ?_;refine cE Y (fun _ J v V=>cu V (Nf J V) v (p.num*(q.den:Int))) (fun O J r=>iw (Rel.old r (bw w)) ((Qm.rel r (bw w)).l (k:=100000) (by omega)) ((Qb.rel r (bw w)).l (k:=100000) (by omega)) (by omega) (by omega)) ?_;rintro O SZ v5 Sm QO r W Y h_ Z;replace Qm:=Qm.cD r (bw w) W (mC h_);replace Qa:=Qa.cD r (bw w) W (mC h_);replace Qn:=Qn.cD r (bw w) W (mC h_);replace Qb:=Qb.cD r (bw w) W (mC h_);have hA:=Z.dD (S:=FF) r.bz (mN h_);obtain⟨E0,E1,E2,E3,rfl⟩:=hA.shape;refine cE Y (fun _ J v V=>cu V (Nf J V) v (q.num*(p.den:Int))) (fun O J r=>iw (Rel.old r (bw w)) ((Qn.rel r (bw w)).l (k:=100000) (by omega)) ((Qa.rel r (bw w)).l (k:=100000) (by omega)) (by omega) (by omega)) ?_;rintro O R7 v6 Rj R8 r W Y h_ Z;replace Qm:=Qm.cD r (bw w) W (mC h_);replace Qa:=Qa.cD r (bw w) W (mC h_);replace Qn:=Qn.cD r (bw w) W (mC h_);replace Qb:=Qb.cD r (bw w) W (mC h_);replace hA:=hA.cD r (bw w) W (mC h_);have hB:=Z.dD (S:=FF) r.bz (mN h_);obtain⟨F0,F1,F2,F3,rfl⟩:=hB.shape;refine cE Y (fun _ J v V=>cu V (Nf J V) v (p.num*(q.den:Int)+q.num*(p.den:Int))) (fun O J r=>AK (Rel.old r (bw w)) ((hA.rel r (bw w)).l (k:=200000) (by omega)) ((hB.rel r (bw w)).l (k:=200000) (by omega)) (by omega) (by omega)) ?_;rintro O Ty v7 Tz Ra r W Y h_ Z;replace Qm:=Qm.cD r (bw w) W (mC h_);replace Qa:=Qa.cD r (bw w) W (mC h_);replace Qn:=Qn.cD r (bw w) W (mC h_);replace Qb:=Qb.cD r (bw w) W (mC h_);have hN:=Z.dD (S:=FF) r.bz (mN h_);obtain⟨G0,G1,G2,G3,rfl⟩:=hN.shape;refine cE Y (fun _ J v V=>cu V (Nf J V) v ((p.den:Int)*(q.den:Int))) (fun O J r=>iw (Rel.old r (bw w)) ((Qa.rel r (bw w)).l (k:=100000) (by omega)) ((Qb.rel r (bw w)).l (k:=100000) (by omega)) (by omega) (by omega)) ?_;rintro O SE v8 SP SF r W Y h_ Z;replace Qm:=Qm.cD r (bw w) W (mC h_);replace Qa:=Qa.cD r (bw w) W (mC h_);replace Qn:=Qn.cD r (bw w) W (mC h_);replace Qb:=Qb.cD r (bw w) W (mC h_);replace hN:=hN.cD r (bw w) W (mC h_);have hD:=Z.dD (S:=FF) r.bz (mN h_);obtain⟨J0,J1,J2,J3,rfl⟩:=hD.shape;refine cE Y (fun _ J v V=>cN V (Nf J V) v (p+q)) (fun O J r=>(tR p q)▸rA (Rel.old r (bw w)) ((hN.rel r (bw w)).l (k:=200001) (by omega)) ((hD.rel r (bw w)).l (k:=200001) (by omega)) (by omega) (by omega) (kP (gR p) (gR q))) ?_;rintro O R9 v9 Rk RW r W Y h_ Z;have hR:=Z.dD (S:=FF) r.bz (mN h_);obtain⟨K0,K1,K2,K3,K4,K5,K6,K7,rfl⟩:=hR.shape;exact rtn Y fun GT we re=>hR.out re (bw w)
 refine cI hτ dN [.x 0,.x 2,.x 1,.x 3,.x 4,.x 5] (by kernel_rfl) (by kernel_rfl) ?_;refine cE Y (fun _ J v V=>cN V (Nf J V) v (p)) (fun O J r=>iy (Rel.old r F) (hp.rel r F)) ?_;rintro O _ _ _ Oi r W Y h_ Z;replace hq:=hq.cD r F W (mC h_);have hX:=Z.dD (S:=FF) r.bz (mN h_);obtain⟨A0,A1,A2,A3,A4,A5,A6,A7,rfl⟩:=hX.shape;refine cE Y (fun _ J v V=>cN V (Nf J V) v (q)) (fun O J r=>iy (Rel.old r F) (hq.rel r F)) ?_;rintro O _ _ _ Ow r W Y h_ Z;replace hX:=hX.cD r (bw w) W (mC h_);have hY:=Z.dD (S:=FF) r.bz (mN h_);obtain⟨C0,C1,C2,C3,C4,C5,C6,C7,rfl⟩:=hY.shape;have Qm:=hX.num;have Qa:=hX.den;have Qn:=hY.num;have Qb:=hY.den;have m0:=cX p.num q.den;have m1:=cX q.num p.den;have m2:=cX (p.den:Int) q.den;have m3:=ia (p.num*q.den) (q.num*p.den);have m4:=cX p.num q.num;refine cI hτ dN [.x 0,.x 1,.x 2,.x 3,.x 5,.x 6,.x 7,.x 8,.x 11,.x 12,.x 13,.x 14,.x 4,.x 9,.x 10,.x 15,.x 16,.x 17] (by kernel_rfl) (by kernel_rfl) ?_;refine cE Y (fun _ J v V=>cu V (Nf J V) v (p.num*(q.den:Int))) (fun O J r=>iw (Rel.old r (bw w)) ((Qm.rel r (bw w)).l (k:=100000) (by omega)) ((Qb.rel r (bw w)).l (k:=100000) (by omega)) (by omega) (by omega)) ?_;rintro O _ _ _ QO r W Y h_ Z;replace Qm:=Qm.cD r (bw w) W (mC h_);replace Qa:=Qa.cD r (bw w) W (mC h_);replace Qn:=Qn.cD r (bw w) W (mC h_);replace Qb:=Qb.cD r (bw w) W (mC h_);have hA:=Z.dD (S:=FF) r.bz (mN h_);obtain⟨E0,E1,E2,E3,rfl⟩:=hA.shape;refine cE Y (fun _ J v V=>cu V (Nf J V) v (q.num*(p.den:Int))) (fun O J r=>iw (Rel.old r (bw w)) ((Qn.rel r (bw w)).l (k:=100000) (by omega)) ((Qa.rel r (bw w)).l (k:=100000) (by omega)) (by omega) (by omega)) ?_;rintro O _ _ _ R8 r W Y h_ Z;replace Qm:=Qm.cD r (bw w) W (mC h_);replace Qa:=Qa.cD r (bw w) W (mC h_);replace Qn:=Qn.cD r (bw w) W (mC h_);replace Qb:=Qb.cD r (bw w) W (mC h_);replace hA:=hA.cD r (bw w) W (mC h_);have hB:=Z.dD (S:=FF) r.bz (mN h_);obtain⟨F0,F1,F2,F3,rfl⟩:=hB.shape;refine cE Y (fun _ J v V=>cu V (Nf J V) v (p.num*(q.den:Int)+q.num*(p.den:Int))) (fun O J r=>AK (Rel.old r (bw w)) ((hA.rel r (bw w)).l (k:=200000) (by omega)) ((hB.rel r (bw w)).l (k:=200000) (by omega)) (by omega) (by omega)) ?_;rintro O _ _ _ Ra r W Y h_ Z;replace Qm:=Qm.cD r (bw w) W (mC h_);replace Qa:=Qa.cD r (bw w) W (mC h_);replace Qn:=Qn.cD r (bw w) W (mC h_);replace Qb:=Qb.cD r (bw w) W (mC h_);have hN:=Z.dD (S:=FF) r.bz (mN h_);obtain⟨G0,G1,G2,G3,rfl⟩:=hN.shape;refine cE Y (fun _ J v V=>cu V (Nf J V) v ((p.den:Int)*(q.den:Int))) (fun O J r=>iw (Rel.old r (bw w)) ((Qa.rel r (bw w)).l (k:=100000) (by omega)) ((Qb.rel r (bw w)).l (k:=100000) (by omega)) (by omega) (by omega)) ?_;rintro O _ _ _ SF r W Y h_ Z;replace Qm:=Qm.cD r (bw w) W (mC h_);replace Qa:=Qa.cD r (bw w) W (mC h_);replace Qn:=Qn.cD r (bw w) W (mC h_);replace Qb:=Qb.cD r (bw w) W (mC h_);replace hN:=hN.cD r (bw w) W (mC h_);have hD:=Z.dD (S:=FF) r.bz (mN h_);obtain⟨J0,J1,J2,J3,rfl⟩:=hD.shape;refine cE Y (fun _ J v V=>cN V (Nf J V) v (p+q)) (fun O J r=>(tR p q)▸rA (Rel.old r (bw w)) ((hN.rel r (bw w)).l (k:=200001) (by omega)) ((hD.rel r (bw w)).l (k:=200001) (by omega)) (by omega) (by omega) (kP (gR p) (gR q))) ?_;rintro O _ _ _ RW r W Y h_ Z;have hR:=Z.dD (S:=FF) r.bz (mN h_);obtain⟨K0,K1,K2,K3,K4,K5,K6,K7,rfl⟩:=hR.shape;exact rtn Y fun GT we re=>hR.out re (bw w)
theorem LY{v:Value}(F:Old S w)(hp:eJ w S v p)(hq:eJ w S u q):
  dx PG F'.B1 #[v,u] w (eH w fun v' V=>cN V (Nf w V) v' (p*q)):=by
 have Y:=bR w;replace hp:=hp.cF (S':=Cv S w.heap.size []) fun _ h=>.inl h;replace hq:=hq.cF (S':=Cv S w.heap.size []) fun _ h=>.inl h;obtain⟨b1,a1,n1,c1,b2,a2,n2,c2,rfl⟩:=hp.shape;obtain⟨b3,a3,n3,c3,b4,a4,n4,c4,rfl⟩:=hq.shape;refine CX (by simp) ?_;have r1:=hp.rl;have r2:=hq.rl;have u1:=fu p;have u2:=fJ p;have u3:=fu q;have u4:=fJ q;refine cB (cE Y (fun _ J v V=>∃n d ok,v= .tuple #[.int .i64 n,.int .i64 d,.bool ok]/\(ok=true->d≠0/\n.natAbs<1073741824/\d.natAbs<1073741824/\Rat.divInt n d=p)) (fun O J r=>xr (Rel.old r F) (hp.rel r F)) ?_);rintro O _ _ _ OZ r W Y h_ ⟨a,b,k1,rfl,g1⟩;replace hp:=hp.cD r F W (mC h_);replace hq:=hq.cD r F W (mC h_);refine cB (cE Y (fun _ J v V=>∃n d ok,v= .tuple #[.int .i64 n,.int .i64 d,.bool ok]/\(ok=true->d≠0/\n.natAbs<1073741824/\d.natAbs<1073741824/\Rat.divInt n d=q)) (fun O J r=>xr (Rel.old r F) (hq.rel r F)) ?_);rintro O _ _ _ OU r W Y h_ ⟨c,d,k2,rfl,g2⟩;replace hp:=hp.cD r F W (mC h_);replace hq:=hq.cD r F W (mC h_);refine dB.mk ?_ ?_<;>intro I
 ·refine dB.mk ?_ ?_<;>intro X
  ·obtain⟨g3,g4,g5,g6⟩:=g1 I;obtain⟨g7,g8,g9,g10⟩:=g2 X;have i1:=j3 g4 g9;have i2:=j3 g8 g5;have i3:=j3 g5 g9;have i4:=j3 g4 g8;refine⟨a*c,wo,b*d,wo,?_⟩;have e:=Rat.divInt_mul_divInt a c (d₁:=b) (d₂:=d);rw[g6,g10]at e;refine cB (cE Y (fun _ J v V=>cN V (Nf J V) v (p*q)) (fun O J r=>e▸qw (a*c) (b*d) J (by omega) (by omega) (kP g3 g7)) ?_);rintro O PY v3 PX Oi r W Y h_ Z;have hR:=Z.dD (S:=FF) r.bz (mN h_);obtain⟨A0,A1,A2,A3,A4,A5,A6,A7,rfl⟩:=hR.shape;exact rtn Y fun GT we re=>hR.out re (bw w)
  refine cI hτ dN [.x 0,.x 2,.x 1,.x 3,.x 4,.x 5] (by kernel_rfl) (by kernel_rfl) ?_;refine cE Y (fun _ J v V=>cN V (Nf J V) v (p)) (fun O J r=>iy (Rel.old r F) (hp.rel r F)) ?_;rintro O PY v3 PX Oi r W Y h_ Z;replace hq:=hq.cD r F W (mC h_);have hX:=Z.dD (S:=FF) r.bz (mN h_);obtain⟨A0,A1,A2,A3,A4,A5,A6,A7,rfl⟩:=hX.shape;refine cE Y (fun _ J v V=>cN V (Nf J V) v (q)) (fun O J r=>iy (Rel.old r F) (hq.rel r F)) ?_;rintro O Qw v4 Q9 Ow r W Y h_ Z;replace hX:=hX.cD r (bw w) W (mC h_);have hY:=Z.dD (S:=FF) r.bz (mN h_);obtain⟨C0,C1,C2,C3,C4,C5,C6,C7,rfl⟩:=hY.shape;have Qm:=hX.num;have Qa:=hX.den;have Qn:=hY.num;have Qb:=hY.den;have m0:=cX p.num q.den;have m1:=cX q.num p.den;have m2:=cX (p.den:Int) q.den;have m3:=ia (p.num*q.den) (q.num*p.den);have m4:=cX p.num q.num;refine cI hτ dN [.x 0,.x 1,.x 2,.x 3,.x 5,.x 6,.x 7,.x 8,.x 4,.x 9,.x 10,.x 11] (by kernel_rfl) (by kernel_rfl) ?_;refine cE Y (fun _ J v V=>cu V (Nf J V) v (p.num*q.num)) (fun O J r=>iw (Rel.old r (bw w)) ((Qm.rel r (bw w)).l (k:=100000) (by omega)) ((Qn.rel r (bw w)).l (k:=100000) (by omega)) (by omega) (by omega)) ?_;rintro O SZ v5 Sm QO r W Y h_ Z;replace Qm:=Qm.cD r (bw w) W (mC h_);replace Qa:=Qa.cD r (bw w) W (mC h_);replace Qn:=Qn.cD r (bw w) W (mC h_);replace Qb:=Qb.cD r (bw w) W (mC h_);have hN:=Z.dD (S:=FF) r.bz (mN h_);obtain⟨E0,E1,E2,E3,rfl⟩:=hN.shape;refine cE Y (fun _ J v V=>cu V (Nf J V) v ((p.den:Int)*(q.den:Int))) (fun O J r=>iw (Rel.old r (bw w)) ((Qa.rel r (bw w)).l (k:=100000) (by omega)) ((Qb.rel r (bw w)).l (k:=100000) (by omega)) (by omega) (by omega)) ?_;rintro O R7 v6 Rj R8 r W Y h_ Z;replace Qm:=Qm.cD r (bw w) W (mC h_);replace Qa:=Qa.cD r (bw w) W (mC h_);replace Qn:=Qn.cD r (bw w) W (mC h_);replace Qb:=Qb.cD r (bw w) W (mC h_);replace hN:=hN.cD r (bw w) W (mC h_);have hD:=Z.dD (S:=FF) r.bz (mN h_);obtain⟨F0,F1,F2,F3,rfl⟩:=hD.shape;refine cE Y (fun _ J v V=>cN V (Nf J V) v (p*q)) (fun O J r=>(xf p q)▸rA (Rel.old r (bw w)) ((hN.rel r (bw w)).l (k:=200001) (by omega)) ((hD.rel r (bw w)).l (k:=200001) (by omega)) (by omega) (by omega) (kP (gR p) (gR q))) ?_;rintro O Ty v7 Tz Ra r W Y h_ Z;have hR:=Z.dD (S:=FF) r.bz (mN h_);obtain⟨G0,G1,G2,G3,G4,G5,G6,G7,rfl⟩:=hR.shape;exact rtn Y fun GT we re=>hR.out re (bw w)
 refine cI hτ dN [.x 0,.x 2,.x 1,.x 3,.x 4,.x 5] (by kernel_rfl) (by kernel_rfl) ?_;refine cE Y (fun _ J v V=>cN V (Nf J V) v (p)) (fun O J r=>iy (Rel.old r F) (hp.rel r F)) ?_;rintro O _ _ _ Oi r W Y h_ Z;replace hq:=hq.cD r F W (mC h_);have hX:=Z.dD (S:=FF) r.bz (mN h_);obtain⟨A0,A1,A2,A3,A4,A5,A6,A7,rfl⟩:=hX.shape;refine cE Y (fun _ J v V=>cN V (Nf J V) v (q)) (fun O J r=>iy (Rel.old r F) (hq.rel r F)) ?_;rintro O _ _ _ Ow r W Y h_ Z;replace hX:=hX.cD r (bw w) W (mC h_);have hY:=Z.dD (S:=FF) r.bz (mN h_);obtain⟨C0,C1,C2,C3,C4,C5,C6,C7,rfl⟩:=hY.shape;have Qm:=hX.num;have Qa:=hX.den;have Qn:=hY.num;have Qb:=hY.den;have m0:=cX p.num q.den;have m1:=cX q.num p.den;have m2:=cX (p.den:Int) q.den;have m3:=ia (p.num*q.den) (q.num*p.den);have m4:=cX p.num q.num;refine cI hτ dN [.x 0,.x 1,.x 2,.x 3,.x 5,.x 6,.x 7,.x 8,.x 4,.x 9,.x 10,.x 11] (by kernel_rfl) (by kernel_rfl) ?_;refine cE Y (fun _ J v V=>cu V (Nf J V) v (p.num*q.num)) (fun O J r=>iw (Rel.old r (bw w)) ((Qm.rel r (bw w)).l (k:=100000) (by omega)) ((Qn.rel r (bw w)).l (k:=100000) (by omega)) (by omega) (by omega)) ?_;rintro O _ _ _ QO r W Y h_ Z;replace Qm:=Qm.cD r (bw w) W (mC h_);replace Qa:=Qa.cD r (bw w) W (mC h_);replace Qn:=Qn.cD r (bw w) W (mC h_);replace Qb:=Qb.cD r (bw w) W (mC h_);have hN:=Z.dD (S:=FF) r.bz (mN h_);obtain⟨E0,E1,E2,E3,rfl⟩:=hN.shape;refine cE Y (fun _ J v V=>cu V (Nf J V) v ((p.den:Int)*(q.den:Int))) (fun O J r=>iw (Rel.old r (bw w)) ((Qa.rel r (bw w)).l (k:=100000) (by omega)) ((Qb.rel r (bw w)).l (k:=100000) (by omega)) (by omega) (by omega)) ?_;rintro O _ _ _ R8 r W Y h_ Z;replace Qm:=Qm.cD r (bw w) W (mC h_);replace Qa:=Qa.cD r (bw w) W (mC h_);replace Qn:=Qn.cD r (bw w) W (mC h_);replace Qb:=Qb.cD r (bw w) W (mC h_);replace hN:=hN.cD r (bw w) W (mC h_);have hD:=Z.dD (S:=FF) r.bz (mN h_);obtain⟨F0,F1,F2,F3,rfl⟩:=hD.shape;refine cE Y (fun _ J v V=>cN V (Nf J V) v (p*q)) (fun O J r=>(xf p q)▸rA (Rel.old r (bw w)) ((hN.rel r (bw w)).l (k:=200001) (by omega)) ((hD.rel r (bw w)).l (k:=200001) (by omega)) (by omega) (by omega) (kP (gR p) (gR q))) ?_;rintro O _ _ _ Ra r W Y h_ Z;have hR:=Z.dD (S:=FF) r.bz (mN h_);obtain⟨G0,G1,G2,G3,G4,G5,G6,G7,rfl⟩:=hR.shape;exact rtn Y fun GT we re=>hR.out re (bw w)
section
variable{S S':Nat->Prop}{H:Hp}{nx:Nat}{iv E:Iv}{B:Nat}{w J V:World}{O:Nat->Sx.dL}{v:Value}{a:Int}{b:Int}
end
theorem j5.short{b:Bool}{n c:Nat}{z:Int}(h:j5 w S (.agg #[.bool b,.slice a n c]) z)(R:n<=k):fQ w S (.agg #[.bool b,.slice a n c]) k z:=by
 obtain⟨b2,ls,⟨lv,e1,N⟩,X⟩:=h;obtain⟨a2,c2,e2,_⟩:=N.sl;subst e2;simp only[Value.agg.injEq,Array.mk.injEq,List.cons.injEq,Value.bool.injEq,Value.slice.injEq,and_true]at e1;obtain⟨rfl,rfl,e3,rfl⟩:=e1;exact⟨_,ls,⟨_,by rw[e3],N⟩,X,by omega⟩
def kZ(w:World)(S:Nat->Prop)(U:List Value)(q:Rat):Prop:=∃b a n c b2 a2 n2 c2,U=[.bool b,.slice a n c,.bool b2,.slice a2 n2 c2]/\eJ w S (.agg #[.bool b,.slice a n c,.bool b2,.slice a2 n2 c2]) q
abbrev dM:=eD kZ
section
variable{S S':Nat->Prop}{H:Hp}{nx:Nat}{iv E:Iv}{B:Nat}{w J V:World}{O:Nat->Sx.dL}{v:Value}{qs:List Rat}{U:List Value}{q:Rat}
theorem kZ.cC(h:kZ w S U q)(R:∀g,S g->V.heap[g]? =w.heap[g]?):kZ V S U q:=by
 obtain⟨b,a,n,c,b2,a2,n2,c2,I,X⟩:=h;exact⟨b,a,n,c,b2,a2,n2,c2,I,X.cC R⟩
theorem kZ.cF(h:kZ w S U q)(R:∀g,S g->S' g):kZ w S' U q:=by
 obtain⟨b,a,n,c,b2,a2,n2,c2,I,X⟩:=h;exact⟨b,a,n,c,b2,a2,n2,c2,I,X.cF R⟩
theorem dM.cC(h:dM w S v qs)(R:∀g,S g->V.heap[g]? =w.heap[g]?):dM V S v qs:=by
 obtain⟨A,I,X,N,h4⟩:=h;exact⟨A,I.cC R,X,N,fun j U x k1 k2=>(h4 j U x k1 k2).cC R⟩
theorem dM.cF(h:dM w S v qs)(R:∀g,S g->S' g):dM w S' v qs:=by
 obtain⟨A,I,X,N,h4⟩:=h;exact⟨A,I.cF R,X,N,fun j U x k1 k2=>(h4 j U x k1 k2).cF R⟩
end
section
variable{S S':Nat->Prop}{H:Hp}{nx:Nat}{iv E:Iv}{B:Nat}{w J V:World}{O:Nat->Sx.dL}{v:Value}{qs:List Rat}
theorem dM.rel(h:dM w (Cv S B iv) v qs)(r:Rel H nx iv B w O J)(F:∀g,S g->g<B):dM J (Cv S B iv) v qs:=dM.cC h fun _ G=>Rel.same r F G
theorem dM.cD(h:dM w (Cv S B iv) v qs)(r:Rel H nx iv B w O J)(F:∀g,S g->g<B)(W:Ext J V)(hm:∀p,p∈iv->p∈E):dM V (Cv S B E) v qs:=
 dM.cF (dM.cC (dM.rel h r F) fun g G=>W.block g (Rel.old r F g G)) fun _ G=>G.mono hm
end
section
variable{S S':Nat->Prop}{H:Hp}{nx:Nat}{iv E:Iv}{B:Nat}{w J V:World}{O:Nat->Sx.dL}{v:Value}{M:List (List Rat)}
end
end Go.Ex
