/- A part of the proof: texts X59 to X62. Each tells its conditions in its theorems. -/
import Derived.Test.YtkdcaknoaeicdaaGreatP6
namespace Go.Ex
open Go Go.Sx Go.Proofs
theorem yg.at{cs:List Int}{n:Nat}{z:Int}(h:yg cs n z)(i:Nat): -65535<=cs.getD i 0∧cs.getD i 0<=65535:=by
 rw[List.getD]
 cases hj:cs[i]? with
 |none=>simp
 |some d=>exact h.2.2.1 d (aF hj)
end Go.Ex
namespace Go.Sx
open Go Go.Ex Go.Proofs
theorem Rel.Hh{H:Hp}{nx:Nat}{iv:Iv}{B:Nat}{w w':World}{ρ:Nat->Sx.dc}(r:Rel H nx iv B w ρ w'){id m:Nat}{cs:List Int}(h:dA H id=some (.vec T.int 1 (cs.map (Value.int .i64))))(hm:m=cs.length)(hl:m<=maxLen):
  ∃S',Old S' w'∧da w' S' ((SV.o (.w id m)).den ρ) cs:=by
 have hrow:=r.Ak (m:=m) h (by rw[aM,hm,aR]) (by decide);exact⟨_,fun g hg=>(ownsRow.low hrow g hg).2,o6 hrow hm hl⟩
end Go.Sx
namespace Go.Ex
open Go Go.Sx Go.Proofs
theorem ku{H:Hp}{nx:Nat}{iv:Iv}{B:Nat}{w w':World}{ρ:Nat->Sx.dc}(r:Rel H nx iv B w ρ w'){id m:Nat}{cs:List Int}{z:Int}(h:dA H id=some (.vec T.int 1 (cs.map (Value.int .i64))))(hm:m=cs.length)(hl:m<=100000000)
  (hb:∀c∈cs,-1152921504606846976<=c∧c<=1152921504606846976) (hz:dH cs=z):dh PG N.jN #[(SV.o (.w id m)).den ρ] w' (dw w' fun v' w2=>dC w2 (Nw (fun _=>False) w' w2) v' z):=by
 subst hz;obtain⟨S',h1,h2⟩:=r.Hh h hm (by unfold maxLen;omega);exact tQ h1 h2 hb (by omega)
theorem yE{S:Nat->Prop}{w:World}{v u:Value}{k l:Nat}{x y:Int}(hS:Old S w)(hx:ed w S v k x)(hy:ed w S u l y)(hk:k<=10000000)(hl:l<=10000000):
  dh PG N.zN #[v,u] w (dw w fun v' w2=>dC w2 (Nw (fun _=>False) w w2) v' (x+y)):=by
 have hw:cN w.heap.size w w:=cN.refl;replace hx:=hx.cG (S':=Cv S w.heap.size []) fun _ h=>.inl h;replace hy:=hy.cG (S':=Cv S w.heap.size []) fun _ h=>.inl h;obtain⟨b1,a1,n1,c1,rfl⟩:=hx.shape;obtain⟨b2,a2,n2,c2,rfl⟩:=hy.shape;refine AR (by simp) ?_;conv=>whnf
 refine cF hτ dV [.x 0,.x 2,.x 1,.x 3,.x 4,.x 5] (by kernel_rfl) (by kernel_rfl) ?_;conv=>whnf
 refine cE hw (Φ:=fun _ w' v w2=>∃cs,da w2 (Nw (fun _=>False) w' w2) v cs∧yg cs (2*k) (x)) (fun ρ w' r=>o8 (Rel.old r hS) (hx.rel r hS) (by omega)) ?_;rintro ρ wa1 v1 wb1 iv1 r he hw h_ ⟨ca,k1,bca⟩;clear hx;replace hy:=hy.cB r hS he (mC h_);have hca:=k1.cw (S:=fun _=>False) r.bu (mN h_);clear r;clear k1;obtain⟨aca,cca,rfl,lca⟩:=hca.shape;conv=>whnf
 refine cE hw (Φ:=fun _ w' v w2=>∃cs,da w2 (Nw (fun _=>False) w' w2) v cs∧yg cs (2*l) (y)) (fun ρ w' r=>o8 (Rel.old r hS) (hy.rel r hS) (by omega)) ?_;rintro ρ wa2 v2 wb2 iv2 r he hw h_ ⟨cb,k1,bcb⟩;clear hy;replace hca:=hca.cB r (bs w) he (mC h_);have hcb:=k1.cw (S:=fun _=>False) r.bu (mN h_);clear r;clear k1;obtain⟨acb,ccb,rfl,lcb⟩:=hcb.shape;conv=>whnf
 refine⟨Nat×World×Iv,fun z=>⟨[(4,.o (.p 2 0)),(5,.o (.v (.slice aca ca.length cca))),(6,.o (.v (.slice acb cb.length ccb))),(7,.o (.w 3 z.1)),(8,.o (.v (.int .i64 z.1)))],[(3,.vec T.int 1 (((List.range z.1).map fun j=>ca.getD j 0+cb.getD j 0).map (Value.int .i64))),(2,.box T.Int [.v (.bool false),.v (.slice none 0 0)])],4,z.2.2,z.2.1⟩,fun z=>max ca.length cb.length-z.1,
  fun z=>z.1<=max ca.length cb.length∧cN w.heap.size w z.2.1∧da z.2.1 (Cv (fun _=>False) w.heap.size z.2.2) (.slice aca ca.length cca) ca∧da z.2.1 (Cv (fun _=>False) w.heap.size z.2.2) (.slice acb cb.length ccb) cb,?_,?_⟩
 ·intro ρ w' r
  exact⟨(0,w',iv2),⟨by simp,hw.tr r.cC,hca.rel r (bs w),hcb.rel r (bs w)⟩,Sub.nil 7 T.int 1 rfl (by simp[cV,SV.sc,At.sc,cQ]) r fun ρ1 r1=>
   Sub.gen [] r1 ⟨rfl,rfl,trivial⟩ ⟨rfl,rfl,rfl,rfl,rfl,trivial⟩ (by simp[dG,cW.scopd,At.sc]) (by simp[cV,SV.sc,At.sc]) (by rfl) (fun lo hi h=>h)⟩
 clear hw hca hcb;rintro⟨i,w1,iv⟩ ⟨hi,hw,hca,hcb⟩;dsimp only at hi hw hca hcb ⊢;have l1:=bca.2.1;have l2:=bcb.2.1;conv=>whnf
 refine dE.mk (fun hib=>?_) (fun hib=>?_)
 ·have hib:i<max ca.length cb.length:=by
   have:=aI hib;omega
  conv=>whnf
  have q1:=bca.at i;have q2:=bcb.at i;refine bz (cE hw (Φ:=fun _ w' v w2=>v= .int .i64 (ca.getD i 0)) (fun ρ w' r=>ID (Rel.old r (bs w)) (hca.rel r (bs w))) ?_);rintro ρ wa3 v3 wb3 iv3 r he hw h_ rfl;replace hca:=hca.cB r (bs w) he (mC h_);replace hcb:=hcb.cB r (bs w) he (mC h_);clear r;conv=>whnf
  refine bz (cE hw (Φ:=fun _ w' v w2=>v= .int .i64 (cb.getD i 0)) (fun ρ w' r=>ID (Rel.old r (bs w)) (hcb.rel r (bs w))) ?_);rintro ρ wa4 v4 wb4 iv4 r he hw h_ rfl;replace hca:=hca.cB r (bs w) he (mC h_);replace hcb:=hcb.cB r (bs w) he (mC h_);clear r;conv=>whnf
  refine⟨ca.getD i 0+cb.getD i 0,by rw[wrap64]<;>omega,?_⟩;conv=>whnf
  refine .inl ?_;conv=>whnf
  refine⟨by simp,by omega,by unfold maxLen;omega,?_⟩;conv=>whnf
  refine⟨((i+1:Nat):Int),by rw[wrap64]<;>omega,?_⟩;conv=>whnf
  intro ρ3 w3 r3;have hm5:((List.range (i+1)).map fun j=>ca.getD j 0+cb.getD j 0).map (Value.int .i64)=((List.range i).map fun j=>ca.getD j 0+cb.getD j 0).map (Value.int .i64)++[.int .i64 (ca.getD i 0+cb.getD i 0)]:=by
   rw[bH,List.map_append,List.map_append];rfl
  exact⟨(i+1,w3,_),⟨hib,hw.tr r3.cC,hca.rel r3 (bs w),hcb.rel r3 (bs w)⟩,Sub.gen [(3,5)] r3 ⟨by dsimp only;rw[hm5];rfl,rfl,trivial⟩ ⟨rfl,rfl,rfl,rfl,rfl,trivial⟩ (by simp[dG,cW.scopd,At.sc]) (by simp[cV,SV.sc,At.sc]) (by rfl) (fun lo hi h=>h),by dsimp only;omega⟩
 have hib:i=max ca.length cb.length:=by
  have:=aH hib;omega
 clear hca hcb;conv=>whnf
 generalize hcs:((List.range i).map fun j=>ca.getD j 0+cb.getD j 0)=cs;have hz:dH cs=x+y:=by
  rw[<-hcs,wv,wx,nL ca i (by omega),nL cb i (by omega),bca.1,bcb.1]
 have hlen:i=cs.length:=by rw[<-hcs];simp
 have hbd:∀c∈cs,-1152921504606846976<=c∧c<=1152921504606846976:=fun c hc=>by
  rw[<-hcs]at hc;obtain⟨j,_,rfl⟩:=aU.1 hc;have:=bca.at j;have:=bcb.at j;omega
 refine bz (cE hw (Φ:=fun _ w' v w2=>dC w2 (Nw (fun _=>False) w' w2) v (x+y)) (fun ρ w' r=>ku r rfl hlen (by omega) hbd hz) ?_);rintro ρ wa3 v3 wb3 iv3 r he hw h_ hn;have hC:=hn.cw (S:=fun _=>False) r.bu (mN h_);clear r;obtain⟨s3_0,s3_1,s3_2,s3_3,rfl⟩:=hC.shape;conv=>whnf
 intro ρe we re;exact⟨_,rfl,hw.tr re.cC,hC.out re (bs w)⟩
theorem Am{S:Nat->Prop}{w:World}{v u:Value}{k l:Nat}{x y:Int}(hS:Old S w)(hx:ed w S v k x)(hy:ed w S u l y)(hk:k<=10000000)(hl:l<=10000000):
  dh PG N.xF #[v,u] w (dw w fun v' w2=>dC w2 (Nw (fun _=>False) w w2) v' (x-y)):=by
 have hly:=hy.ln;have hw:cN w.heap.size w w:=cN.refl;replace hx:=hx.cG (S':=Cv S w.heap.size []) fun _ h=>.inl h;replace hy:=hy.cG (S':=Cv S w.heap.size []) fun _ h=>.inl h;obtain⟨b1,a1,n1,c1,rfl⟩:=hx.shape;obtain⟨b2,a2,n2,c2,rfl⟩:=hy.shape;refine y5 (by simp) ?_;conv=>whnf
 refine cF hτ dV [.x 0,.x 1,.x 2,.x 3,.x 4] (by kernel_rfl) (by kernel_rfl) ?_;conv=>whnf
 refine cE hw (Φ:=fun _ w' v w2=>dC w2 (Nw (fun _=>False) w' w2) v (-y)) (fun ρ w' r=>kE (Rel.old r hS) (hy.rel r hS) (by omega)) ?_;rintro ρ wa1 v1 wb1 iv1 r he hw h_ hn;replace hx:=hx.cB r hS he (mC h_);clear hy;have hm:=hn.cw (S:=fun _=>False) r.bu (mN h_);clear r;obtain⟨s1_0,s1_1,s1_2,s1_3,rfl⟩:=hm.shape;conv=>whnf
 refine cE hw (Φ:=fun _ w' v w2=>dC w2 (Nw (fun _=>False) w' w2) v (x-y)) (fun ρ w' r=>?_) ?_
 ·have h:=yE (Rel.old r hS) (hx.rel r hS) (((hm.rel r (bs w)).l (k:=l) (by rw[bp];exact hly)).cG fun g hg=>Cv.false hg) hk hl;rw[<-Int.sub_eq_add_neg]at h;exact h
 rintro ρ wa2 v2 wb2 iv2 r he hw h_ hn;clear hx;clear hm;have hC:=hn.cw (S:=fun _=>False) r.bu (mN h_);clear r;obtain⟨s2_0,s2_1,s2_2,s2_3,rfl⟩:=hC.shape;conv=>whnf
 intro ρe we re;exact⟨_,rfl,hw.tr re.cC,hC.out re (bs w)⟩
theorem Eu{S:Nat->Prop}{w:World}{v u:Value}{k l:Nat}{x y:Int}(hS:Old S w)(hx:ed w S v k x)(hy:ed w S u l y)(hk:k<=10000000)(hl:l<=10000000):
  dh PG N.rK #[v,u] w (dw w fun v' _=>v'= .int .i64 (x-y).sign):=by
 have hw:cN w.heap.size w w:=cN.refl;replace hx:=hx.cG (S':=Cv S w.heap.size []) fun _ h=>.inl h;replace hy:=hy.cG (S':=Cv S w.heap.size []) fun _ h=>.inl h;obtain⟨b1,a1,n1,c1,rfl⟩:=hx.shape;obtain⟨b2,a2,n2,c2,rfl⟩:=hy.shape;refine ud (by simp) ?_;conv=>whnf
 refine bz (cE hw (Φ:=fun _ w' v w2=>dC w2 (Nw (fun _=>False) w' w2) v (x-y)) (fun ρ w' r=>Am (Rel.old r hS) (hx.rel r hS) (hy.rel r hS) hk hl) ?_);rintro ρ wa1 v1 wb1 iv1 r he hw h_ hn;clear hx;clear hy;have hd:=hn.cw (S:=fun _=>False) r.bu (mN h_);clear r;obtain⟨s1_0,s1_1,s1_2,s1_3,rfl⟩:=hd.shape;conv=>whnf
 refine bz (cE hw (Φ:=fun _ w' v w2=>v= .int .i64 (x-y).sign) (fun ρ w' r=>fc (Rel.old r (bs w)) (hd.rel r (bs w)).r) ?_);rintro ρ wa2 v2 wb2 iv2 r he hw h_ rfl;clear hd;clear r;conv=>whnf
 intro ρe we re;exact⟨_,rfl,hw.tr re.cC,rfl⟩
end Go.Ex
namespace Go.Ex
open Go Go.Sx Go.Proofs
theorem Ev{x y:Int}(hx: -65535<=x∧x<=65535)(hy: -65535<=y∧y<=65535):(x*y).natAbs<=4294836225:=by
 rw[Int.natAbs_mul];exact Nat.mul_le_mul (show x.natAbs<=65535 by omega) (show y.natAbs<=65535 by omega)
theorem zl{a b:List Int}{i k:Nat}(hk:k<=i+1)(h:i<k∨a.length<=k):gT a b i k=fP a b i:=by
 rcases h with h|h
 ·rw[fP,show i+1=k by omega]
 ·obtain⟨m,hm⟩:∃m,i+1=k+m:=⟨i+1-k,by omega⟩
  rw[fP,hm,Ch a b i k m h]
theorem gJ{S:Nat->Prop}{w:World}{v u:Value}{k l:Nat}{x y:Int}(hS:Old S w)(hx:ed w S v k x)(hy:ed w S u l y)(hk:k<=10000000)(hl:l<=10000000):
  dh PG N.xE #[v,u] w (dw w fun v' w2=>dC w2 (Nw (fun _=>False) w w2) v' (x*y)):=by
 have hw:cN w.heap.size w w:=cN.refl;replace hx:=hx.cG (S':=Cv S w.heap.size []) fun _ h=>.inl h;replace hy:=hy.cG (S':=Cv S w.heap.size []) fun _ h=>.inl h;obtain⟨b1,a1,n1,c1,rfl⟩:=hx.shape;obtain⟨b2,a2,n2,c2,rfl⟩:=hy.shape;refine yY (by simp) ?_;conv=>whnf
 refine cF hτ dV [.x 0,.x 2,.x 1,.x 3,.x 4,.x 5] (by kernel_rfl) (by kernel_rfl) ?_;conv=>whnf
 refine cE hw (Φ:=fun _ w' v w2=>∃cs,da w2 (Nw (fun _=>False) w' w2) v cs∧yg cs (2*k) (x)) (fun ρ w' r=>o8 (Rel.old r hS) (hx.rel r hS) (by omega)) ?_;rintro ρ wa1 v1 wb1 iv1 r he hw h_ ⟨ca,k1,bca⟩;clear hx;replace hy:=hy.cB r hS he (mC h_);have hca:=k1.cw (S:=fun _=>False) r.bu (mN h_);clear r;clear k1;obtain⟨aca,cca,rfl,lca⟩:=hca.shape;conv=>whnf
 refine cE hw (Φ:=fun _ w' v w2=>∃cs,da w2 (Nw (fun _=>False) w' w2) v cs∧yg cs (2*l) (y)) (fun ρ w' r=>o8 (Rel.old r hS) (hy.rel r hS) (by omega)) ?_;rintro ρ wa2 v2 wb2 iv2 r he hw h_ ⟨cb,k1,bcb⟩;clear hy;replace hca:=hca.cB r (bs w) he (mC h_);have hcb:=k1.cw (S:=fun _=>False) r.bu (mN h_);clear r;clear k1;obtain⟨acb,ccb,rfl,lcb⟩:=hcb.shape;conv=>whnf
 have l1:=bca.2.1;have l2:=bcb.2.1
 refine⟨Nat×World,fun z=>⟨[(4,.o (.p 2 0)),(5,.o (.v (.slice aca ca.length cca))),(6,.o (.v (.slice acb cb.length ccb))),(7,.o (.w 3 z.1)),(8,.o (.v (.int .i64 ((z.1:Nat):Int))))],[(3,.vec T.int 1 (((List.range z.1).map (fP ca cb)).map (Value.int .i64))),(2,.box T.Int [.v (.bool false),.v (.slice none 0 0)])],4,iv2,z.2⟩,fun z=>ca.length+cb.length-z.1,
  fun z=>(z.1+1<=ca.length+cb.length∨z.1=0)∧cN w.heap.size w z.2∧da z.2 (Cv (fun _=>False) w.heap.size iv2) (.slice aca ca.length cca) ca∧da z.2 (Cv (fun _=>False) w.heap.size iv2) (.slice acb cb.length ccb) cb,?_,?_⟩
 ·intro ρ w' r
  exact⟨(0,w'),⟨by simp,hw.tr r.cC,hca.rel r (bs w),hcb.rel r (bs w)⟩,Sub.nil 7 T.int 1 rfl (by simp[cV,SV.sc,At.sc,cQ]) r fun ρ1 r1=>
   Sub.gen [] r1 ⟨rfl,rfl,trivial⟩ ⟨rfl,rfl,rfl,rfl,rfl,trivial⟩ (by simp[dG,cW.scopd,At.sc]) (by simp[cV,SV.sc,At.sc]) (by rfl) (fun lo hi h=>h)⟩
 clear hw hca hcb;rintro⟨i,w1⟩ ⟨hi,hw,hca,hcb⟩;dsimp only at hi hw hca hcb ⊢;conv=>whnf
 refine⟨((i+1:Nat):Int),by rw[wrap64]<;>omega,?_⟩;conv=>whnf
 refine⟨((ca.length+cb.length:Nat):Int),by rw[wrap64]<;>omega,?_⟩;conv=>whnf
 refine dE.mk (fun hib=>?_) (fun hib=>?_)
 ·have hib:i+1<ca.length+cb.length:=by
   have:=aI hib;omega
  conv=>whnf
  refine⟨(i:Int)-cb.length,by rw[wrap64]<;>omega,?_⟩;conv=>whnf
  refine⟨(i:Int)-cb.length+1,by rw[wrap64]<;>omega,?_⟩;conv=>whnf
  rw[show max 0 ((i:Int)-cb.length+1)=((i+1-cb.length:Nat):Int) by omega];obtain⟨k0,hk0⟩:∃k0,k0=i+1-cb.length:=⟨_,rfl⟩
  rw[<-hk0]
  refine⟨Nat×World,fun z=>⟨[(4,.o (.p 2 0)),(5,.o (.v (.slice aca ca.length cca))),(6,.o (.v (.slice acb cb.length ccb))),(7,.o (.w 3 i)),(8,.o (.v (.int .i64 ((i:Nat):Int)))),(9,.o (.v (.int .i64 (gT ca cb i z.1)))),(10,.o (.v (.int .i64 ((z.1:Nat):Int))))],[(3,.vec T.int 1 (((List.range i).map (fP ca cb)).map (Value.int .i64))),(2,.box T.Int [.v (.bool false),.v (.slice none 0 0)])],4,iv2,z.2⟩,fun z=>i+1-z.1,
   fun z=>k0<=z.1∧z.1<=i+1∧cN w.heap.size w z.2∧da z.2 (Cv (fun _=>False) w.heap.size iv2) (.slice aca ca.length cca) ca∧da z.2 (Cv (fun _=>False) w.heap.size iv2) (.slice acb cb.length ccb) cb,?_,?_⟩
  ·intro ρ w' r;refine⟨(k0,w'),⟨by simp,by dsimp only;omega,hw.tr r.cC,hca.rel r (bs w),hcb.rel r (bs w)⟩,Sub.gen [] r ⟨rfl,rfl,trivial⟩ ⟨rfl,rfl,rfl,rfl,rfl,?_,rfl,trivial⟩ (by simp[dG,cW.scopd,At.sc]) (by simp[cV,SV.sc,At.sc]) (by rfl) (fun lo hi h=>h)⟩;dsimp only
   rw[Cg ca cb i k0 k0 (fun j hj=>by omega) (by omega) (aG _)];rfl
  clear hw hca hcb;rintro⟨j,w2⟩ ⟨hj0,hj1,hw,hca,hcb⟩;dsimp only at hj0 hj1 hw hca hcb ⊢;conv=>whnf
  refine dE.mk (fun hji=>?_) (fun hji=>?_)
  ·have hji:j<=i:=by
    have:=aI hji;omega
   conv=>whnf
   refine dE.mk (fun hja=>?_) (fun hja=>?_)
   ·have hja:j<ca.length:=by
     have:=aI hja;omega
    obtain⟨p,hp⟩:∃p,ca[j]? =some p:=⟨_,aB hja⟩
    obtain⟨q,hq⟩:∃q,cb[i-j]? =some q:=⟨_,aB (by omega)⟩
    obtain⟨ad,rfl,q1,q2⟩:=hca.load hp;obtain⟨ad2,rfl,q3,q4⟩:=hcb.load hq;have e1:ca.getD j 0=p:=by rw[List.getD,hp];rfl
    have e2:cb.getD (i-j) 0=q:=by rw[List.getD,hq];rfl
    have e3:gT ca cb i (j+1)=gT ca cb i j+p*q:=by rw[gT,e1,if_pos hji,e2]
    have m1:=bca.at j;have m2:=bcb.at (i-j);rw[e1]at m1;rw[e2]at m2;have m3:=Ev m1 m2;have m4:=kS (a:=ca) (b:=cb) (i:=i) bca.2.2.1 bcb.2.2.1 j;conv=>whnf
    refine cF hτ dV [.x 0,.x 1,.x 2,.x 3,.x 4,.x 5,.x 6,.x 7,.x 8,.x 9,.x 10,.x 11,.x 12,.x 13] (by kernel_rfl) (by kernel_rfl) ?_;conv=>whnf
    refine⟨ad,rfl,⟨by omega,by omega⟩,?_⟩;conv=>whnf
    refine⟨.int .i64 p,fun ρ w' r=>?_,?_⟩
    ·rw[aC,bw (w:=w2) (w2:=w') (by rw[cL];exact Rel.same (S:=fun _=>False) r (bs w) q1)];exact q2
    conv=>whnf
    refine⟨((i-j:Nat):Int),by rw[wrap64]<;>omega,?_⟩;conv=>whnf
    refine⟨ad2,rfl,⟨by omega,by omega⟩,?_⟩;conv=>whnf
    refine⟨.int .i64 q,fun ρ w' r=>?_,?_⟩
    ·rw[aC,bw (w:=w2) (w2:=w') (by rw[cL];exact Rel.same (S:=fun _=>False) r (bs w) q3)];exact q4
    conv=>whnf
    refine⟨p*q,by rw[wrap64]<;>omega,?_⟩;conv=>whnf
    refine⟨gT ca cb i (j+1),by rw[e3,wrap64]<;>omega,?_⟩;conv=>whnf
    refine⟨((j+1:Nat):Int),by rw[wrap64]<;>omega,?_⟩;conv=>whnf
    intro ρ3 w3 r3;exact⟨(j+1,w3),⟨by dsimp only;omega,by dsimp only;omega,hw.tr r3.cC,hca.rel r3 (bs w),hcb.rel r3 (bs w)⟩,Sub.gen [] r3 ⟨rfl,rfl,trivial⟩ ⟨rfl,rfl,rfl,rfl,rfl,rfl,rfl,trivial⟩ (by simp[dG,cW.scopd,At.sc]) (by simp[cV,SV.sc,At.sc]) (by rfl) (fun lo hi h=>h),by dsimp only;omega⟩
   have hja:ca.length<=j:=by
    have:=aH hja;omega
   rw[zl hj1 (.inr hja)];have m4:=kS (a:=ca) (b:=cb) (i:=i) bca.2.2.1 bcb.2.2.1 (i+1);conv=>whnf
   refine .inl ?_;conv=>whnf
   refine⟨by simp,by omega,by unfold maxLen;omega,?_⟩;conv=>whnf
   refine⟨((i+1:Nat):Int),by rw[wrap64]<;>omega,?_⟩;conv=>whnf
   intro ρ3 w3 r3;have hm5:((List.range (i+1)).map (fP ca cb)).map (Value.int .i64)=((List.range i).map (fP ca cb)).map (Value.int .i64)++[.int .i64 (fP ca cb i)]:=by
    rw[bH,List.map_append,List.map_append];rfl
   exact⟨(i+1,w3),⟨.inl hib,hw.tr r3.cC,hca.rel r3 (bs w),hcb.rel r3 (bs w)⟩,Sub.gen [(3,5)] r3 ⟨by dsimp only;rw[hm5];rfl,rfl,trivial⟩ ⟨rfl,rfl,rfl,rfl,rfl,trivial⟩ (by simp[dG,cW.scopd,At.sc]) (by simp[cV,SV.sc,At.sc]) (by rfl) (fun lo hi h=>h),by dsimp only;omega⟩
  have hji:i<j:=by
   have:=aH hji;omega
  rw[zl hj1 (.inl hji)];have m4:=kS (a:=ca) (b:=cb) (i:=i) bca.2.2.1 bcb.2.2.1 (i+1);conv=>whnf
  refine .inl ?_;conv=>whnf
  refine⟨by simp,by omega,by unfold maxLen;omega,?_⟩;conv=>whnf
  refine⟨((i+1:Nat):Int),by rw[wrap64]<;>omega,?_⟩;conv=>whnf
  intro ρ3 w3 r3;have hm5:((List.range (i+1)).map (fP ca cb)).map (Value.int .i64)=((List.range i).map (fP ca cb)).map (Value.int .i64)++[.int .i64 (fP ca cb i)]:=by
   rw[bH,List.map_append,List.map_append];rfl
  exact⟨(i+1,w3),⟨.inl hib,hw.tr r3.cC,hca.rel r3 (bs w),hcb.rel r3 (bs w)⟩,Sub.gen [(3,5)] r3 ⟨by dsimp only;rw[hm5];rfl,rfl,trivial⟩ ⟨rfl,rfl,rfl,rfl,rfl,trivial⟩ (by simp[dG,cW.scopd,At.sc]) (by simp[cV,SV.sc,At.sc]) (by rfl) (fun lo hi h=>h),by dsimp only;omega⟩
 have hib:ca.length+cb.length<=i+1:=by
  have:=aH hib;omega
 clear hca hcb;conv=>whnf
 generalize hcs:((List.range i).map (fP ca cb))=cs;have hz:dH cs=x*y:=by
  rw[<-hcs,wv,Fw ca cb i hib,bca.1,bcb.1]
 have hlen:i=cs.length:=by rw[<-hcs];simp
 have hbd:∀c∈cs,-1152921504606846976<=c∧c<=1152921504606846976:=fun c hc=>by
  rw[<-hcs]at hc;obtain⟨j,hj,rfl⟩:=aU.1 hc;have hj:=List.mem_range.1 hj;have:=kS (a:=ca) (b:=cb) (i:=j) bca.2.2.1 bcb.2.2.1 (j+1);rw[fP];omega
 refine bz (cE hw (Φ:=fun _ w' v w2=>dC w2 (Nw (fun _=>False) w' w2) v (x*y)) (fun ρ w' r=>ku r rfl hlen (by omega) hbd hz) ?_);rintro ρ wa3 v3 wb3 iv3 r he hw h_ hn;have hC:=hn.cw (S:=fun _=>False) r.bu (mN h_);clear r;obtain⟨s3_0,s3_1,s3_2,s3_3,rfl⟩:=hC.shape;conv=>whnf
 intro ρe we re;exact⟨_,rfl,hw.tr re.cC,hC.out re (bs w)⟩
end Go.Ex
namespace Go.Ex
theorem EO{b r r2 q X n c:Int}(h:X=b*q+r)(hr:r*65536+c=b*n+r2):c+65536*X=b*(n+65536*q)+r2:=by
 rw[h,Int.mul_add,Int.mul_add,Int.mul_left_comm b 65536 q];omega
theorem FW{x y Q R:Int}(hy:y≠0)(h:(x.natAbs:Int)=(y.natAbs:Int)*Q+R)(h0:0<=R)(h1:R<(y.natAbs:Int)):
  (if x<0∧0<R then(if (x<0)↔(y<0)then(Q+1)else -(Q+1))else(if (x<0)↔(y<0)then Q else -Q))=x / y∧(if x<0∧0<R then(y.natAbs:Int)-R else R)=x % y:=by
 have key:∀q r:Int,r+y*q=x->0<=r->r<(y.natAbs:Int)->q=x / y∧r=x % y:=by
  intro q r e1 e2 e3;have m:x % y=r:=by
   rw[<-e1,Int.add_mul_emod_self_left];rcases Int.lt_or_lt_of_ne hy with h|h
   ·rw[<-Int.emod_neg,Int.emod_eq_of_lt e2 (by omega)]
   ·exact Int.emod_eq_of_lt e2 (by omega)
  have d:=Int.mul_ediv_add_emod x y;rw[m]at d;exact⟨(Int.eq_of_mul_eq_mul_left hy (by omega)),m.symm⟩
 by_cases hx:x<0
 ·have ex:(x.natAbs:Int)= -x:=by omega
  by_cases hy':y<0
  ·have ey:(y.natAbs:Int)= -y:=by omega
   rw[ex,ey,Int.neg_mul]at h;by_cases hR:0<R
   ·rw[if_pos (show x<0∧0<R from⟨hx,hR⟩),if_pos (show x<0∧0<R from⟨hx,hR⟩),if_pos (show (x<0)↔(y<0) by simp[hx,hy'])];exact key _ _ (by rw[Int.mul_add,Int.mul_one];omega) (by omega) (by omega)
   ·rw[aK (show ¬(x<0∧0<R) by omega),aK (show ¬(x<0∧0<R) by omega),if_pos (show (x<0)↔(y<0) by simp[hx,hy'])];exact key _ _ (by omega) h0 h1
  ·have ey:(y.natAbs:Int)=y:=by omega
   rw[ex,ey]at h;have hn:¬((x<0)↔(y<0)):=by simp[hx,hy']
   by_cases hR:0<R
   ·rw[if_pos (show x<0∧0<R from⟨hx,hR⟩),if_pos (show x<0∧0<R from⟨hx,hR⟩),aK hn];exact key _ _ (by rw[Int.mul_neg,Int.mul_add,Int.mul_one];omega) (by omega) (by omega)
   ·rw[aK (show ¬(x<0∧0<R) by omega),aK (show ¬(x<0∧0<R) by omega),aK hn];exact key _ _ (by rw[Int.mul_neg];omega) h0 h1
 ·have ex:(x.natAbs:Int)=x:=by omega
  rw[aK (show ¬(x<0∧0<R) by omega),aK (show ¬(x<0∧0<R) by omega)];by_cases hy':y<0
  ·have ey:(y.natAbs:Int)= -y:=by omega
   rw[ex,ey,Int.neg_mul]at h;rw[aK (show ¬((x<0)↔(y<0)) by simp[hx,hy'])];exact key _ _ (by rw[Int.mul_neg];omega) h0 h1
  ·have ey:(y.natAbs:Int)=y:=by omega
   rw[ex,ey]at h;rw[if_pos (show (x<0)↔(y<0) by simp[hx,hy'])];exact key _ _ (by omega) h0 h1
theorem fM(z:Int):(z<0∧z.sign= -1)∨(z=0∧z.sign=0)∨(0<z∧z.sign=1):=by
 rcases Int.lt_trichotomy z 0 with h|h|h
 ·exact .inl ⟨h,bX h⟩
 ·exact .inr (.inl ⟨h,by rw[h];rfl⟩)
 ·exact .inr (.inr ⟨h,b9 h⟩)
end Go.Ex
namespace Go.Ex
open Go Go.Sx Go.Proofs
def Gq:Value:=.agg #[.bool false,.slice none 0 0]
theorem dC.nil(w:World)(S:Nat->Prop):dC w S (.agg #[.bool false,.slice none 0 0]) 0:=⟨[],⟨_,rfl,dF.nil _ _⟩,fun x h=>by simp at h,rfl⟩
theorem Jm{Q:List Int}(h:∀c∈Q,0<=c∧c<=65535):0<=dH Q:=by
 induction Q with
 |nil=>exact Int.le_refl _
 |cons c r ih=>
  have h1:=h c aJ;have h2:=ih fun x hx=>h x (aD _ hx);rw[dH];omega
theorem yF{n:Int}(h:0<=n)(h2:n<4294967296):ln n.natAbs<=1:=iA.2 (by show n.natAbs<4294967296^1;omega)
theorem Ew{S:Nat->Prop}{w:World}{v u:Value}{k l:Nat}{x y:Int}(hS:Old S w)(hx:ed w S v k x)(hy:ed w S u l y)(hk:k<=1000000)(hl:l<=1000000):
  dh PG N.mF #[v,u] w (dw w fun v' w2=>(y=0∧v'= .tuple #[Gq,Gq,.int .i64 9])∨(y≠0∧∃q r,v'= .tuple #[q,r,.int .i64 0]∧dC w2 (Nw (fun _=>False) w w2) q (x / y)∧dC w2 (Nw (fun _=>False) w w2) r (x % y))):=by
 have hw:cN w.heap.size w w:=cN.refl;replace hx:=hx.cG (S':=Cv S w.heap.size []) fun _ h=>.inl h;replace hy:=hy.cG (S':=Cv S w.heap.size []) fun _ h=>.inl h;obtain⟨b1,a1,n1,c1,rfl⟩:=hx.shape;obtain⟨b2,a2,n2,c2,rfl⟩:=hy.shape;refine uf (by simp) ?_;conv=>whnf
 have hly:=hy.ln;refine bz (cE hw (Φ:=fun _ w' v w2=>v= .int .i64 y.sign) (fun ρ w' r=>fc (Rel.old r hS) (hy.rel r hS).r) ?_);rintro ρ wa1 v1 wb1 iv1 r he hw h_ rfl;replace hx:=hx.cB r hS he (mC h_);replace hy:=hy.cB r hS he (mC h_);clear r;conv=>whnf
 refine dE.mk (fun hy0=>?_) (fun hy0=>?_)
 ·have hy0:y=0:=by rcases fM y with h|h|h<;>simp[h]at hy0 ⊢
  conv=>whnf
  intro ρe we re;exact⟨_,rfl,hw.tr re.cC,.inl ⟨hy0,rfl⟩⟩
 have hy0:y≠0:=fun e=>by rw[e]at hy0;simp at hy0
 conv=>whnf
 refine cF hτ dV [.x 0,.x 3,.p 5,.x 1,.x 2,.x 4,.x 5,.x 6,.x 7] (by kernel_rfl) (by kernel_rfl) ?_;conv=>whnf
 refine cE hw (Φ:=fun _ w' v w2=>dC w2 (Nw (fun _=>False) w' w2) v ((x.natAbs:Int))) (fun ρ w' r=>vR (Rel.old r hS) (hx.rel r hS) (by omega)) ?_;rintro ρ wa2 v2 wb2 iv2 r he hw h_ hn;replace hx:=hx.cB r hS he (mC h_);replace hy:=hy.cB r hS he (mC h_);have hsx:=hn.cw (S:=fun _=>False) r.bu (mN h_);clear r;obtain⟨s2_0,s2_1,s2_2,s2_3,rfl⟩:=hsx.shape;conv=>whnf
 have hlx:=hx.ln;refine cE hw (Φ:=fun _ w' v w2=>∃cs,da w2 (Nw (fun _=>False) w' w2) v cs∧yg cs (2*k) ((x.natAbs:Int))) (fun ρ w' r=>o8 (Rel.old r (bs w)) ((hsx.rel r (bs w)).l (k:=k) (by rw[Int.natAbs_natCast];exact hlx)) (by omega)) ?_;rintro ρ wa3 v3 wb3 iv3 r he hw h_ ⟨ca,k1,bca⟩;replace hx:=hx.cB r hS he (mC h_);replace hy:=hy.cB r hS he (mC h_);clear hsx;have hca:=k1.cw (S:=fun _=>False) r.bu (mN h_);clear r;clear k1;obtain⟨aca,cca,rfl,lca⟩:=hca.shape;conv=>whnf
 refine cE hw (Φ:=fun _ w' v w2=>dC w2 (Nw (fun _=>False) w' w2) v ((y.natAbs:Int))) (fun ρ w' r=>vR (Rel.old r hS) (hy.rel r hS) (by omega)) ?_;rintro ρ wa4 v4 wb4 iv4 r he hw h_ hn;replace hx:=hx.cB r hS he (mC h_);replace hy:=hy.cB r hS he (mC h_);replace hca:=hca.cB r (bs w) he (mC h_);have hbb:=hn.cw (S:=fun _=>False) r.bu (mN h_);clear r;obtain⟨s4_0,s4_1,s4_2,s4_3,rfl⟩:=hbb.shape;conv=>whnf
 generalize hB:(y.natAbs:Int)=B at*
 have l1:=bca.2.1;have hB0:0<B:=by omega
 have lB:ln B.natAbs<=l:=by rw[<-hB,Int.natAbs_natCast];exact hly
 conv=>whnf
 refine⟨(ca.length:Int)-1,by rw[wrap64]<;>omega,?_⟩;conv=>whnf
 refine⟨Nat×List Int×Int×(Bool×Option Addr×Nat×Nat)×World×Iv,fun z=>⟨[(2,.o (.p 0 0)),(3,.o (.p 1 0)),(4,.o (.p 2 0)),(5,.o (.p 3 0)),(6,.o (.v (.int .i64 0))),(7,.o (.v (.slice aca ca.length cca))),(8,.o (.p 4 0)),(9,.o (.w 6 z.2.1.length)),(10,.o (.p 5 0)),(11,.o (.v (.int .i64 ((z.1:Int)-1))))],[(6,.vec T.int 1 (z.2.1.map (Value.int .i64))),(5,.box T.Int [.v (.bool z.2.2.2.1.1),.v (.slice z.2.2.2.1.2.1 z.2.2.2.1.2.2.1 z.2.2.2.1.2.2.2)]),(4,.box T.Int [.v (.bool s4_0),.v (.slice s4_1 s4_2 s4_3)]),(3,.box T.Int [.v (.bool false),.v (.slice none 0 0)]),(2,.box T.Int [.v (.bool false),.v (.slice none 0 0)]),(1,.box T.Int [.v (.bool b2),.v (.slice a2 n2 c2)]),(0,.box T.Int [.v (.bool b1),.v (.slice a1 n1 c1)])],7,z.2.2.2.2.2,z.2.2.2.2.1⟩,fun z=>z.1,
  fun z=>z.1<=ca.length∧z.2.1.length+z.1=ca.length∧(∀c∈z.2.1,0<=c∧c<=65535)∧dH (ca.drop z.1)=B*dH z.2.1+z.2.2.1∧0<=z.2.2.1∧z.2.2.1<B∧cN w.heap.size w z.2.2.2.2.1∧ed z.2.2.2.2.1 (Cv S w.heap.size z.2.2.2.2.2) (.agg #[.bool b1,.slice a1 n1 c1]) k x∧ed z.2.2.2.2.1 (Cv S w.heap.size z.2.2.2.2.2) (.agg #[.bool b2,.slice a2 n2 c2]) l y∧da z.2.2.2.2.1 (Cv (fun _=>False) w.heap.size z.2.2.2.2.2) (.slice aca ca.length cca) ca∧dC z.2.2.2.2.1 (Cv (fun _=>False) w.heap.size z.2.2.2.2.2) (.agg #[.bool s4_0,.slice s4_1 s4_2 s4_3]) B∧dC z.2.2.2.2.1 (Cv (fun _=>False) w.heap.size z.2.2.2.2.2) (.agg #[.bool z.2.2.2.1.1,.slice z.2.2.2.1.2.1 z.2.2.2.1.2.2.1 z.2.2.2.1.2.2.2]) z.2.2.1,?_,?_⟩
 ·intro ρ w' r
  exact⟨(ca.length,[],0,(false,none,0,0),w',iv4),⟨aG _,by simp,by simp,by simp[dH],Int.le_refl _,hB0,hw.tr r.cC,hx.rel r hS,hy.rel r hS,hca.rel r (bs w),hbb.rel r (bs w),dC.nil _ _⟩,Sub.nil 9 T.int 1 rfl (by simp[cV,SV.sc,At.sc]) r fun ρ1 r1=>
   Sub.gen [] r1 ⟨rfl,rfl,rfl,rfl,rfl,rfl,rfl,trivial⟩ ⟨rfl,rfl,rfl,rfl,rfl,rfl,rfl,rfl,rfl,rfl,trivial⟩ (by simp[dG,cW.scopd,At.sc]) (by simp[cV,SV.sc,At.sc]) (by rfl) (fun lo hi h=>h)⟩
 clear hw hca hbb hx hy;rintro⟨j,Q,R,⟨br,ar,nr,cr⟩,w1,iv⟩ ⟨hj,hQ,hd,hv,hR0,hR1,hw,hx,hy,hca,hbb,hr⟩;dsimp only at hj hQ hd hv hR0 hR1 hw hx hy hca hbb hr ⊢;conv=>whnf
 refine dE.mk (fun hib=>?_) (fun hib=>?_)
 ·obtain⟨i,rfl⟩:∃i,j=i+1:=⟨j-1,by have:(j:Int)-1≥0:=aI hib;omega⟩
  rw[show ((i+1:Nat):Int)-1=(i:Int) by omega];obtain⟨d,hd1⟩:∃d,ca[i]? =some d:=⟨_,aB (by omega)⟩
  have hd0:=bca.2.2.1 d (aF hd1);have hd2:=bca.2.2.2 (by omega) d (aF hd1);have lR:ln R.natAbs<=l:=bB (eW (by omega)) lB;have lU:ln (65536:Int).natAbs<=1:=by decide
  have m1:=cS R 65536;have m2:=yF (n:=d) hd2 (by omega);have m3:=gi (R*65536) d;conv=>whnf
  refine cF hτ dV [.x 0,.x 3,.x 4,.x 5,.x 6,.x 1,.x 2,.x 7,.x 8,.x 9] (by kernel_rfl) (by kernel_rfl) ?_;conv=>whnf
  obtain⟨ad,ha0,q1,q2⟩:=hca.load hd1;refine⟨ad,ha0,⟨by omega,by omega⟩,?_⟩;conv=>whnf
  refine⟨.int .i64 d,fun ρ w' r=>?_,?_⟩
  ·rw[aC,bw (w:=w1) (w2:=w') (by rw[cL];exact Rel.same (S:=fun _=>False) r (bs w) q1)];exact q2
  clear q1 q2 ha0;conv=>whnf
  refine cE hw (Φ:=fun _ w' v w2=>dC w2 (Nw (fun _=>False) w' w2) v (65536)) (fun ρ w' r=>j6 _ w' (by decide) (by decide)) ?_;rintro ρ wa5 v5 wb5 iv5 r he hw h_ hn;replace hx:=hx.cB r hS he (mC h_);replace hy:=hy.cB r hS he (mC h_);replace hca:=hca.cB r (bs w) he (mC h_);replace hbb:=hbb.cB r (bs w) he (mC h_);replace hr:=hr.cB r (bs w) he (mC h_);have hu:=hn.cw (S:=fun _=>False) r.bu (mN h_);clear r;obtain⟨s5_0,s5_1,s5_2,s5_3,rfl⟩:=hu.shape;conv=>whnf
  refine cE hw (Φ:=fun _ w' v w2=>dC w2 (Nw (fun _=>False) w' w2) v (R*65536)) (fun ρ w' r=>gJ (Rel.old r (bs w)) ((hr.rel r (bs w)).l (k:=1000001) (by omega)) ((hu.rel r (bs w)).l (k:=1000001) (by omega)) (by omega) (by omega)) ?_;rintro ρ wa6 v6 wb6 iv6 r he hw h_ hn;replace hx:=hx.cB r hS he (mC h_);replace hy:=hy.cB r hS he (mC h_);replace hca:=hca.cB r (bs w) he (mC h_);replace hbb:=hbb.cB r (bs w) he (mC h_);clear hr;clear hu;have hp:=hn.cw (S:=fun _=>False) r.bu (mN h_);clear r;obtain⟨s6_0,s6_1,s6_2,s6_3,rfl⟩:=hp.shape;conv=>whnf
  refine cE hw (Φ:=fun _ w' v w2=>dC w2 (Nw (fun _=>False) w' w2) v (d)) (fun ρ w' r=>j6 _ w' (by omega) (by omega)) ?_;rintro ρ wa7 v7 wb7 iv7 r he hw h_ hn;replace hx:=hx.cB r hS he (mC h_);replace hy:=hy.cB r hS he (mC h_);replace hca:=hca.cB r (bs w) he (mC h_);replace hbb:=hbb.cB r (bs w) he (mC h_);replace hp:=hp.cB r (bs w) he (mC h_);have hdd:=hn.cw (S:=fun _=>False) r.bu (mN h_);clear r;obtain⟨s7_0,s7_1,s7_2,s7_3,rfl⟩:=hdd.shape;conv=>whnf
  refine cE hw (Φ:=fun _ w' v w2=>dC w2 (Nw (fun _=>False) w' w2) v (R*65536+d)) (fun ρ w' r=>yE (Rel.old r (bs w)) ((hp.rel r (bs w)).l (k:=1000002) (by omega)) ((hdd.rel r (bs w)).l (k:=1000002) (by omega)) (by omega) (by omega)) ?_;rintro ρ wa8 v8 wb8 iv8 r he hw h_ hn;replace hx:=hx.cB r hS he (mC h_);replace hy:=hy.cB r hS he (mC h_);replace hca:=hca.cB r (bs w) he (mC h_);replace hbb:=hbb.cB r (bs w) he (mC h_);clear hp;clear hdd;have hr:=hn.cw (S:=fun _=>False) r.bu (mN h_);clear r;obtain⟨s8_0,s8_1,s8_2,s8_3,rfl⟩:=hr.shape;conv=>whnf
  generalize hR2:R*65536+d=R2 at*
  have hR20:0<=R2:=by omega
  have hR21:R2<65536*B:=by omega
  refine⟨Nat×Nat×Nat×World×Iv,fun z=>⟨[(2,.o (.p 0 0)),(3,.o (.p 1 0)),(4,.o (.p 2 0)),(5,.o (.p 3 0)),(6,.o (.v (.int .i64 0))),(7,.o (.v (.slice aca ca.length cca))),(8,.o (.p 4 0)),(9,.o (.w 6 Q.length)),(10,.o (.p 5 0)),(11,.o (.v (.int .i64 ((i:Int))))),(12,.o (.v (.int .i64 ((z.1:Nat):Int)))),(13,.o (.v (.int .i64 ((z.2.2.1:Nat):Int))))],[(6,.vec T.int 1 (Q.map (Value.int .i64))),(5,.box T.Int [.v (.bool s8_0),.v (.slice s8_1 s8_2 s8_3)]),(4,.box T.Int [.v (.bool s4_0),.v (.slice s4_1 s4_2 s4_3)]),(3,.box T.Int [.v (.bool false),.v (.slice none 0 0)]),(2,.box T.Int [.v (.bool false),.v (.slice none 0 0)]),(1,.box T.Int [.v (.bool b2),.v (.slice a2 n2 c2)]),(0,.box T.Int [.v (.bool b1),.v (.slice a1 n1 c1)])],7,z.2.2.2.2,z.2.2.2.1⟩,fun z=>z.2.1,
   fun z=>z.2.2.1=2^z.2.1 / 2∧z.1+2^z.2.1<=65536∧((z.1:Nat):Int)*B<=R2∧R2<((z.1+2^z.2.1:Nat):Int)*B∧cN w.heap.size w z.2.2.2.1∧ed z.2.2.2.1 (Cv S w.heap.size z.2.2.2.2) (.agg #[.bool b1,.slice a1 n1 c1]) k x∧ed z.2.2.2.1 (Cv S w.heap.size z.2.2.2.2) (.agg #[.bool b2,.slice a2 n2 c2]) l y∧da z.2.2.2.1 (Cv (fun _=>False) w.heap.size z.2.2.2.2) (.slice aca ca.length cca) ca∧dC z.2.2.2.1 (Cv (fun _=>False) w.heap.size z.2.2.2.2) (.agg #[.bool s4_0,.slice s4_1 s4_2 s4_3]) B∧dC z.2.2.2.1 (Cv (fun _=>False) w.heap.size z.2.2.2.2) (.agg #[.bool s8_0,.slice s8_1 s8_2 s8_3]) R2,?_,?_⟩
  ·intro ρ w' r
   exact⟨(0,16,32768,w',iv8),⟨by show 32768=2^16 / 2;decide,by show 0+2^16<=65536;decide,by dsimp only;omega,by dsimp only;rw[show ((0+2^16:Nat):Int)=65536 from rfl];exact hR21,hw.tr r.cC,hx.rel r hS,hy.rel r hS,hca.rel r (bs w),hbb.rel r (bs w),hr.rel r (bs w)⟩,
    Sub.gen [] r ⟨rfl,rfl,rfl,rfl,rfl,rfl,rfl,trivial⟩ ⟨rfl,rfl,rfl,rfl,rfl,rfl,rfl,rfl,rfl,rfl,rfl,rfl,trivial⟩ (by simp[dG,cW.scopd,At.sc]) (by simp[cV,SV.sc,At.sc]) (by rfl) (fun lo hi h=>h)⟩
  clear hw hca hbb hx hy hr;rintro⟨n,e,bit,w5,iv⟩ ⟨hn0,hn1,hn2,hn3,hw,hx,hy,hca,hbb,hr⟩;dsimp only at hn0 hn1 hn2 hn3 hw hx hy hca hbb hr ⊢;conv=>whnf
  refine dE.mk (fun hbit=>?_) (fun hbit=>?_)
  ·have hbit:0<2^e / 2:=by have:((bit:Nat):Int)>0:=aI hbit;omega
   obtain⟨f,rfl⟩:∃f,e=f+1:=by
    cases e with
    |zero=>exact absurd hbit (by decide)
    |succ f=>exact⟨f,rfl⟩
   have e1:2^(f+1)=2*2^f:=by rw[Nat.pow_succ];omega
   have e2:2^(f+1) / 2=2^f:=by omega
   obtain rfl:bit=2^f:=by omega
   clear hn0;rw[e1]at hn1 hn3;clear hbit e2;have hp0:=bg f;generalize hp:2^f=p at*
   have m4:=yF (n:=((n+p:Nat):Int)) (by omega) (by omega);have m5:=cS B ((n+p:Nat):Int);have m6:ln R2.natAbs<=l+1:=by
    refine bB (eW (b:=((65536:Int)*B).natAbs) (by omega)) ?_;have:=cS 65536 B;omega
   conv=>whnf
   refine cF hτ dV [.x 0,.x 1,.x 2,.x 3,.x 6,.x 4,.x 5,.x 7,.x 8] (by kernel_rfl) (by kernel_rfl) ?_;conv=>whnf
   refine⟨((n+p:Nat):Int),by rw[wrap64]<;>omega,?_⟩;conv=>whnf
   refine cE hw (Φ:=fun _ w' v w2=>dC w2 (Nw (fun _=>False) w' w2) v (((n+p:Nat):Int))) (fun ρ w' r=>j6 _ w' (by omega) (by omega)) ?_;rintro ρ wa9 v9 wb9 iv9 r he hw h_ hn;replace hx:=hx.cB r hS he (mC h_);replace hy:=hy.cB r hS he (mC h_);replace hca:=hca.cB r (bs w) he (mC h_);replace hbb:=hbb.cB r (bs w) he (mC h_);replace hr:=hr.cB r (bs w) he (mC h_);have hu:=hn.cw (S:=fun _=>False) r.bu (mN h_);clear r;obtain⟨s9_0,s9_1,s9_2,s9_3,rfl⟩:=hu.shape;conv=>whnf
   refine cE hw (Φ:=fun _ w' v w2=>dC w2 (Nw (fun _=>False) w' w2) v (B*((n+p:Nat):Int))) (fun ρ w' r=>gJ (Rel.old r (bs w)) ((hbb.rel r (bs w)).l (k:=1000001) (by omega)) ((hu.rel r (bs w)).l (k:=1000001) (by omega)) (by omega) (by omega)) ?_;rintro ρ wa10 v10 wb10 iv10 r he hw h_ hn;replace hx:=hx.cB r hS he (mC h_);replace hy:=hy.cB r hS he (mC h_);replace hca:=hca.cB r (bs w) he (mC h_);replace hbb:=hbb.cB r (bs w) he (mC h_);replace hr:=hr.cB r (bs w) he (mC h_);clear hu;have hp2:=hn.cw (S:=fun _=>False) r.bu (mN h_);clear r;obtain⟨s10_0,s10_1,s10_2,s10_3,rfl⟩:=hp2.shape;conv=>whnf
   refine cE hw (Φ:=fun _ w' v w2=>v= .int .i64 (B*((n+p:Nat):Int)-R2).sign) (fun ρ w' r=>Eu (Rel.old r (bs w)) ((hp2.rel r (bs w)).l (k:=1000001) (by omega)) ((hr.rel r (bs w)).l (k:=1000001) (by omega)) (by omega) (by omega)) ?_;rintro ρ wa11 v11 wb11 iv11 r he hw h_ rfl;replace hx:=hx.cB r hS he (mC h_);replace hy:=hy.cB r hS he (mC h_);replace hca:=hca.cB r (bs w) he (mC h_);replace hbb:=hbb.cB r (bs w) he (mC h_);replace hr:=hr.cB r (bs w) he (mC h_);clear hp2;clear r;conv=>whnf
   have hs:=fM (B*((n+p:Nat):Int)-R2);refine dE.mk (fun hle=>?_) (fun hle=>?_)
   ·have hle:=aI hle;have hle2:((n+p:Nat):Int)*B<=R2:=by rw[Int.mul_comm];omega
    conv=>whnf
    refine⟨((n+p:Nat):Int),by rw[wrap64]<;>omega,?_⟩;conv=>whnf
    refine⟨by decide,((2^f / 2:Nat):Int),by rw[hp,show((p:Nat):Int).tdiv 2=((p / 2:Nat):Int)from rfl,wrap64]<;>omega,?_⟩;conv=>whnf
    intro ρ3 w3 r3;exact⟨(n+p,f,2^f / 2,w3,_),⟨rfl,by dsimp only;omega,hle2,by dsimp only;rw[hp,show n+p+p=n+2*p by omega];exact hn3,hw.tr r3.cC,hx.rel r3 hS,hy.rel r3 hS,hca.rel r3 (bs w),hbb.rel r3 (bs w),hr.rel r3 (bs w)⟩,Sub.gen [] r3 ⟨rfl,rfl,rfl,rfl,rfl,rfl,rfl,trivial⟩ ⟨rfl,rfl,rfl,rfl,rfl,rfl,rfl,rfl,rfl,rfl,rfl,rfl,trivial⟩ (by simp[dG,cW.scopd,At.sc]) (by simp[cV,SV.sc,At.sc]) (by rfl) (fun lo hi h=>h),by dsimp only;omega⟩
   have hle:=aH hle;have hle2:R2<((n+p:Nat):Int)*B:=by rw[Int.mul_comm];omega
   conv=>whnf
   refine⟨by decide,((2^f / 2:Nat):Int),by rw[hp,show((p:Nat):Int).tdiv 2=((p / 2:Nat):Int)from rfl,wrap64]<;>omega,?_⟩;conv=>whnf
   intro ρ3 w3 r3;exact⟨(n,f,2^f / 2,w3,_),⟨rfl,by dsimp only;omega,hn2,by dsimp only;rw[hp];exact hle2,hw.tr r3.cC,hx.rel r3 hS,hy.rel r3 hS,hca.rel r3 (bs w),hbb.rel r3 (bs w),hr.rel r3 (bs w)⟩,Sub.gen [] r3 ⟨rfl,rfl,rfl,rfl,rfl,rfl,rfl,trivial⟩ ⟨rfl,rfl,rfl,rfl,rfl,rfl,rfl,rfl,rfl,rfl,rfl,rfl,trivial⟩ (by simp[dG,cW.scopd,At.sc]) (by simp[cV,SV.sc,At.sc]) (by rfl) (fun lo hi h=>h),by dsimp only;omega⟩
  have hbit:¬0<2^e / 2:=by have:¬((bit:Nat):Int)>0:=aH hbit;omega
  obtain rfl:e=0:=by
   cases e with
   |zero=>rfl
   |succ f=>exact absurd (show 0<2^(f+1) / 2 by rw[Nat.pow_succ];have:=bg f;omega) hbit
  rw[show n+2^0=n+1 from rfl]at hn1 hn3;clear hbit;rw[Int.natCast_add,Int.add_mul]at hn3;rw[Int.mul_comm]at hn2;rw[Int.mul_comm]at hn3;have m4:=yF (n:=((n:Nat):Int)) (by omega) (by omega);have m5:=cS B ((n:Nat):Int);have m6:ln R2.natAbs<=l+1:=by
   refine bB (eW (b:=((65536:Int)*B).natAbs) (by omega)) ?_;have:=cS 65536 B;omega
  conv=>whnf
  refine cF hτ dV [.x 0,.x 1,.x 2,.x 3,.x 4,.x 5,.x 6] (by kernel_rfl) (by kernel_rfl) ?_;conv=>whnf
  refine cE hw (Φ:=fun _ w' v w2=>dC w2 (Nw (fun _=>False) w' w2) v (((n:Nat):Int))) (fun ρ w' r=>j6 _ w' (by omega) (by omega)) ?_;rintro ρ wa9 v9 wb9 iv9 r he hw h_ hn;replace hx:=hx.cB r hS he (mC h_);replace hy:=hy.cB r hS he (mC h_);replace hca:=hca.cB r (bs w) he (mC h_);replace hbb:=hbb.cB r (bs w) he (mC h_);replace hr:=hr.cB r (bs w) he (mC h_);have hu:=hn.cw (S:=fun _=>False) r.bu (mN h_);clear r;obtain⟨s9_0,s9_1,s9_2,s9_3,rfl⟩:=hu.shape;conv=>whnf
  refine cE hw (Φ:=fun _ w' v w2=>dC w2 (Nw (fun _=>False) w' w2) v (B*((n:Nat):Int))) (fun ρ w' r=>gJ (Rel.old r (bs w)) ((hbb.rel r (bs w)).l (k:=1000001) (by omega)) ((hu.rel r (bs w)).l (k:=1000001) (by omega)) (by omega) (by omega)) ?_;rintro ρ wa10 v10 wb10 iv10 r he hw h_ hn;replace hx:=hx.cB r hS he (mC h_);replace hy:=hy.cB r hS he (mC h_);replace hca:=hca.cB r (bs w) he (mC h_);replace hbb:=hbb.cB r (bs w) he (mC h_);replace hr:=hr.cB r (bs w) he (mC h_);clear hu;have hp2:=hn.cw (S:=fun _=>False) r.bu (mN h_);clear r;obtain⟨s10_0,s10_1,s10_2,s10_3,rfl⟩:=hp2.shape;conv=>whnf
  refine cE hw (Φ:=fun _ w' v w2=>dC w2 (Nw (fun _=>False) w' w2) v (R2-B*((n:Nat):Int))) (fun ρ w' r=>Am (Rel.old r (bs w)) ((hr.rel r (bs w)).l (k:=1000002) (by omega)) ((hp2.rel r (bs w)).l (k:=1000002) (by omega)) (by omega) (by omega)) ?_;rintro ρ wa11 v11 wb11 iv11 r he hw h_ hn;replace hx:=hx.cB r hS he (mC h_);replace hy:=hy.cB r hS he (mC h_);replace hca:=hca.cB r (bs w) he (mC h_);replace hbb:=hbb.cB r (bs w) he (mC h_);clear hr;clear hp2;have hr3:=hn.cw (S:=fun _=>False) r.bu (mN h_);clear r;obtain⟨s11_0,s11_1,s11_2,s11_3,rfl⟩:=hr3.shape;conv=>whnf
  generalize hR3:R2-B*((n:Nat):Int)=R3 at*
  refine .inl ?_;conv=>whnf
  refine⟨by rw[aM,aR],fun u hu=>by obtain⟨_,_,rfl⟩:=aU.1 hu;rfl,?_⟩;conv=>whnf
  refine⟨rfl,by omega,by unfold maxLen;omega,?_⟩;conv=>whnf
  refine⟨(i:Int)-1,by rw[wrap64]<;>omega,?_⟩;conv=>whnf
  intro ρ3 w3 r3;have hv2:dH (ca.drop i)=B*dH (((n:Nat):Int)::Q)+R3:=by
   rw[Bb hd1,dH];exact EO hv (by rw[<-hR3,<-hR2];omega)
  exact⟨(i,((n:Nat):Int)::Q,R3,(s11_0,s11_1,s11_2,s11_3),w3,_),⟨by dsimp only;omega,by dsimp only;rw[List.length_cons];omega,fun c hc=>by
    rcases List.mem_cons.1 hc with rfl|hc
    ·omega
    ·exact hd c hc,hv2,by dsimp only;omega,by dsimp only;omega,hw.tr r3.cC,hx.rel r3 hS,hy.rel r3 hS,hca.rel r3 (bs w),hbb.rel r3 (bs w),hr3.rel r3 (bs w)⟩,
   Sub.gen [(6,8)] r3 ⟨rfl,rfl,rfl,rfl,rfl,rfl,rfl,trivial⟩ ⟨rfl,rfl,rfl,rfl,rfl,rfl,rfl,by dsimp only;rw[show (((n:Nat):Int)::Q).length=1+Q.length by rw[List.length_cons,Nat.add_comm]];rfl,rfl,rfl,trivial⟩ (by simp[dG,cW.scopd,At.sc]) (by simp[cV,SV.sc,At.sc]) (by rfl) (fun lo hi h=>h),by dsimp only;omega⟩
 obtain rfl:j=0:=by have:¬(j:Int)-1≥0:=aH hib;omega
 rw[List.drop_zero,bca.1]at hv;rw[<-hB]at hv hR1;have key:=FW hy0 hv hR0 hR1;rw[hB]at key hv hR1;have lq:ln (dH Q).natAbs<=k+1:=by
  have h1:=Jm hd;have h2:1*dH Q<=B*dH Q:=Int.mul_le_mul_of_nonneg_right (by omega) h1;exact bB (eW (b:=x.natAbs) (by omega)) (by omega)
 have lR:ln R.natAbs<=l:=bB (eW (by omega)) lB;have sx:=fM x;have sy:=fM y;have sr:=fM R;clear hca;conv=>whnf
 refine bz (cE hw (Φ:=fun _ w' v w2=>dC w2 (Nw (fun _=>False) w' w2) v (dH Q)) (fun ρ w' r=>ku r rfl rfl (by omega) (fun c hc=>by have:=hd c hc;omega) rfl) ?_);rintro ρ wa5 v5 wb5 iv5 r he hw h_ hn;replace hx:=hx.cB r hS he (mC h_);replace hy:=hy.cB r hS he (mC h_);replace hbb:=hbb.cB r (bs w) he (mC h_);replace hr:=hr.cB r (bs w) he (mC h_);have hq:=hn.cw (S:=fun _=>False) r.bu (mN h_);clear r;obtain⟨s5_0,s5_1,s5_2,s5_3,rfl⟩:=hq.shape;conv=>whnf
 refine bz (cE hw (Φ:=fun _ w' v w2=>v= .int .i64 x.sign) (fun ρ w' r=>fc (Rel.old r hS) (hx.rel r hS).r) ?_);rintro ρ wa6 v6 wb6 iv6 r he hw h_ rfl;replace hx:=hx.cB r hS he (mC h_);replace hy:=hy.cB r hS he (mC h_);replace hbb:=hbb.cB r (bs w) he (mC h_);replace hr:=hr.cB r (bs w) he (mC h_);replace hq:=hq.cB r (bs w) he (mC h_);clear r;conv=>whnf
 refine dE.mk (fun hxs=>?_) (fun hxs=>?_)
 ·have hxs:=aI hxs;conv=>whnf
  refine bz (cE hw (Φ:=fun _ w' v w2=>v= .int .i64 R.sign) (fun ρ w' r=>fc (Rel.old r (bs w)) (hr.rel r (bs w)).r) ?_);rintro ρ wa7 v7 wb7 iv7 r he hw h_ rfl;replace hx:=hx.cB r hS he (mC h_);replace hy:=hy.cB r hS he (mC h_);replace hbb:=hbb.cB r (bs w) he (mC h_);replace hr:=hr.cB r (bs w) he (mC h_);replace hq:=hq.cB r (bs w) he (mC h_);clear r;conv=>whnf
  refine dE.mk (fun hrs=>?_) (fun hrs=>?_)
  ·have hrs:=aI hrs;rw[if_pos (show x<0∧0<R by omega),if_pos (show x<0∧0<R by omega)]at key;have m7:=gi (dH Q) 1;have m8:ln (1:Int).natAbs<=1:=by decide
   have m9:ln (B-R).natAbs<=l:=bB (eW (by omega)) lB;conv=>whnf
   refine cF hτ dV [.x 0,.x 3,.x 4,.x 1,.x 2,.x 5,.x 6,.x 7] (by kernel_rfl) (by kernel_rfl) ?_;conv=>whnf
   refine cE hw (Φ:=fun _ w' v w2=>dC w2 (Nw (fun _=>False) w' w2) v (1)) (fun ρ w' r=>j6 _ w' (by omega) (by omega)) ?_;rintro ρ wa8 v8 wb8 iv8 r he hw h_ hn;replace hx:=hx.cB r hS he (mC h_);replace hy:=hy.cB r hS he (mC h_);replace hbb:=hbb.cB r (bs w) he (mC h_);replace hr:=hr.cB r (bs w) he (mC h_);replace hq:=hq.cB r (bs w) he (mC h_);have hu:=hn.cw (S:=fun _=>False) r.bu (mN h_);clear r;obtain⟨s8_0,s8_1,s8_2,s8_3,rfl⟩:=hu.shape;conv=>whnf
   refine cE hw (Φ:=fun _ w' v w2=>dC w2 (Nw (fun _=>False) w' w2) v (dH Q+1)) (fun ρ w' r=>yE (Rel.old r (bs w)) ((hq.rel r (bs w)).l (k:=1000003) (by omega)) ((hu.rel r (bs w)).l (k:=1000003) (by omega)) (by omega) (by omega)) ?_;rintro ρ wa9 v9 wb9 iv9 r he hw h_ hn;replace hx:=hx.cB r hS he (mC h_);replace hy:=hy.cB r hS he (mC h_);replace hbb:=hbb.cB r (bs w) he (mC h_);replace hr:=hr.cB r (bs w) he (mC h_);clear hq;clear hu;have hq2:=hn.cw (S:=fun _=>False) r.bu (mN h_);clear r;obtain⟨s9_0,s9_1,s9_2,s9_3,rfl⟩:=hq2.shape;conv=>whnf
   refine cE hw (Φ:=fun _ w' v w2=>dC w2 (Nw (fun _=>False) w' w2) v (B-R)) (fun ρ w' r=>Am (Rel.old r (bs w)) ((hbb.rel r (bs w)).l (k:=1000003) (by omega)) ((hr.rel r (bs w)).l (k:=1000003) (by omega)) (by omega) (by omega)) ?_;rintro ρ wa10 v10 wb10 iv10 r he hw h_ hn;replace hx:=hx.cB r hS he (mC h_);replace hy:=hy.cB r hS he (mC h_);clear hbb;clear hr;replace hq2:=hq2.cB r (bs w) he (mC h_);have hr2:=hn.cw (S:=fun _=>False) r.bu (mN h_);clear r;obtain⟨s10_0,s10_1,s10_2,s10_3,rfl⟩:=hr2.shape;conv=>whnf
   refine cF hτ dV [.x 0,.x 3,.x 1,.x 2,.x 4,.x 5,.x 6] (by kernel_rfl) (by kernel_rfl) ?_;conv=>whnf
   refine cE hw (Φ:=fun _ w' v w2=>v= .int .i64 x.sign) (fun ρ w' r=>fc (Rel.old r hS) (hx.rel r hS).r) ?_;rintro ρ wa11 v11 wb11 iv11 r he hw h_ rfl;clear hx;replace hy:=hy.cB r hS he (mC h_);replace hq2:=hq2.cB r (bs w) he (mC h_);replace hr2:=hr2.cB r (bs w) he (mC h_);clear r;conv=>whnf
   refine cE hw (Φ:=fun _ w' v w2=>v= .int .i64 y.sign) (fun ρ w' r=>fc (Rel.old r hS) (hy.rel r hS).r) ?_;rintro ρ wa12 v12 wb12 iv12 r he hw h_ rfl;clear hy;replace hq2:=hq2.cB r (bs w) he (mC h_);replace hr2:=hr2.cB r (bs w) he (mC h_);clear r;conv=>whnf
   refine dE.mk (fun hne=>?_) (fun hne=>?_)
   ·have hn:¬((x<0)↔(y<0)):=fun e=>by
     have e2:decide (x.sign<0)=decide (y.sign<0):=decide_eq_decide.2 (by omega);rw[e2]at hne;simp at hne
    rw[aK hn]at key;conv=>whnf
    refine bz (cE hw (Φ:=fun _ w' v w2=>dC w2 (Nw (fun _=>False) w' w2) v (-(dH Q+1))) (fun ρ w' r=>kE (Rel.old r (bs w)) ((hq2.rel r (bs w)).l (k:=1000003) (by omega)) (by omega)) ?_);rintro ρ wa13 v13 wb13 iv13 r he hw h_ hn;clear hq2;replace hr2:=hr2.cB r (bs w) he (mC h_);have hq3:=hn.cw (S:=fun _=>False) r.bu (mN h_);clear r hn;obtain⟨s13_0,s13_1,s13_2,s13_3,rfl⟩:=hq3.shape;conv=>whnf
    refine gZ hτ dV (.two 0 (.two 1 (.one 2 (.one 3 (.one 4 .nil))) 2 (.one 1 (.one 3 (.one 4 .nil)))) 1 (.one 0 (.one 2 (.one 3 (.one 4 .nil))))) (by kernel_rfl) ?_;conv=>whnf
    refine⟨?_,?_⟩
    ·conv=>whnf
     refine⟨?_,?_⟩
     ·conv=>whnf
      intro ρe we re;exact⟨_,rfl,hw.tr re.cC,.inr ⟨hy0,_,_,rfl,key.1▸hq3.out re (bs w),key.2▸hr2.out re (bs w)⟩⟩
     ·conv=>whnf
      intro ρe we re;exact⟨_,rfl,hw.tr re.cC,.inr ⟨hy0,_,_,rfl,key.1▸hq3.out re (bs w),key.2▸hr2.out re (bs w)⟩⟩
    ·conv=>whnf
     intro ρe we re;exact⟨_,rfl,hw.tr re.cC,.inr ⟨hy0,_,_,rfl,key.1▸hq3.out re (bs w),key.2▸hr2.out re (bs w)⟩⟩
   have hn:(x<0)↔(y<0):=by
    have e2:decide (x.sign<0)=decide (y.sign<0):=by simpa using hne
    have:=decide_eq_decide.1 e2;omega
   rw[if_pos hn]at key;conv=>whnf
   refine gZ hτ dV (.two 0 (.two 1 (.one 2 (.one 3 (.one 4 .nil))) 2 (.one 1 (.one 3 (.one 4 .nil)))) 1 (.one 0 (.one 2 (.one 3 (.one 4 .nil))))) (by kernel_rfl) ?_;conv=>whnf
   refine⟨?_,?_⟩
   ·conv=>whnf
    refine⟨?_,?_⟩
    ·conv=>whnf
     intro ρe we re;exact⟨_,rfl,hw.tr re.cC,.inr ⟨hy0,_,_,rfl,key.1▸hq2.out re (bs w),key.2▸hr2.out re (bs w)⟩⟩
    ·conv=>whnf
     intro ρe we re;exact⟨_,rfl,hw.tr re.cC,.inr ⟨hy0,_,_,rfl,key.1▸hq2.out re (bs w),key.2▸hr2.out re (bs w)⟩⟩
   ·conv=>whnf
    intro ρe we re;exact⟨_,rfl,hw.tr re.cC,.inr ⟨hy0,_,_,rfl,key.1▸hq2.out re (bs w),key.2▸hr2.out re (bs w)⟩⟩
  have hrs:=aH hrs;rw[aK (show ¬(x<0∧0<R) by omega),aK (show ¬(x<0∧0<R) by omega)]at key;conv=>whnf
  refine cF hτ dV [.x 0,.x 3,.x 1,.x 2,.x 4,.x 5,.x 6] (by kernel_rfl) (by kernel_rfl) ?_;conv=>whnf
  refine cE hw (Φ:=fun _ w' v w2=>v= .int .i64 x.sign) (fun ρ w' r=>fc (Rel.old r hS) (hx.rel r hS).r) ?_;rintro ρ wa8 v8 wb8 iv8 r he hw h_ rfl;clear hx;replace hy:=hy.cB r hS he (mC h_);replace hbb:=hbb.cB r (bs w) he (mC h_);replace hr:=hr.cB r (bs w) he (mC h_);replace hq:=hq.cB r (bs w) he (mC h_);clear r;conv=>whnf
  refine cE hw (Φ:=fun _ w' v w2=>v= .int .i64 y.sign) (fun ρ w' r=>fc (Rel.old r hS) (hy.rel r hS).r) ?_;rintro ρ wa9 v9 wb9 iv9 r he hw h_ rfl;clear hy;replace hbb:=hbb.cB r (bs w) he (mC h_);replace hr:=hr.cB r (bs w) he (mC h_);replace hq:=hq.cB r (bs w) he (mC h_);clear r;conv=>whnf
  refine dE.mk (fun hne=>?_) (fun hne=>?_)
  ·have hn:¬((x<0)↔(y<0)):=fun e=>by
    have e2:decide (x.sign<0)=decide (y.sign<0):=decide_eq_decide.2 (by omega);rw[e2]at hne;simp at hne
   rw[aK hn]at key;conv=>whnf
   refine bz (cE hw (Φ:=fun _ w' v w2=>dC w2 (Nw (fun _=>False) w' w2) v (-(dH Q))) (fun ρ w' r=>kE (Rel.old r (bs w)) ((hq.rel r (bs w)).l (k:=1000003) (by omega)) (by omega)) ?_);rintro ρ wa10 v10 wb10 iv10 r he hw h_ hn;replace hbb:=hbb.cB r (bs w) he (mC h_);replace hr:=hr.cB r (bs w) he (mC h_);clear hq;have hq3:=hn.cw (S:=fun _=>False) r.bu (mN h_);clear r hn;obtain⟨s10_0,s10_1,s10_2,s10_3,rfl⟩:=hq3.shape;conv=>whnf
   refine gZ hτ dV (.two 0 (.two 1 (.one 2 (.one 3 (.one 4 .nil))) 2 (.one 1 (.one 3 (.one 4 .nil)))) 1 (.one 0 (.one 2 (.one 3 (.one 4 .nil))))) (by kernel_rfl) ?_;conv=>whnf
   refine⟨?_,?_⟩
   ·conv=>whnf
    refine⟨?_,?_⟩
    ·conv=>whnf
     intro ρe we re;exact⟨_,rfl,hw.tr re.cC,.inr ⟨hy0,_,_,rfl,key.1▸hq3.out re (bs w),key.2▸hr.out re (bs w)⟩⟩
    ·conv=>whnf
     intro ρe we re;exact⟨_,rfl,hw.tr re.cC,.inr ⟨hy0,_,_,rfl,key.1▸hq3.out re (bs w),key.2▸hr.out re (bs w)⟩⟩
   ·conv=>whnf
    intro ρe we re;exact⟨_,rfl,hw.tr re.cC,.inr ⟨hy0,_,_,rfl,key.1▸hq3.out re (bs w),key.2▸hr.out re (bs w)⟩⟩
  have hn:(x<0)↔(y<0):=by
   have e2:decide (x.sign<0)=decide (y.sign<0):=by simpa using hne
   have:=decide_eq_decide.1 e2;omega
  rw[if_pos hn]at key;conv=>whnf
  refine gZ hτ dV (.two 0 (.two 1 (.one 2 (.one 3 (.one 4 .nil))) 2 (.one 1 (.one 3 (.one 4 .nil)))) 1 (.one 0 (.one 2 (.one 3 (.one 4 .nil))))) (by kernel_rfl) ?_;conv=>whnf
  refine⟨?_,?_⟩
  ·conv=>whnf
   refine⟨?_,?_⟩
   ·conv=>whnf
    intro ρe we re;exact⟨_,rfl,hw.tr re.cC,.inr ⟨hy0,_,_,rfl,key.1▸hq.out re (bs w),key.2▸hr.out re (bs w)⟩⟩
   ·conv=>whnf
    intro ρe we re;exact⟨_,rfl,hw.tr re.cC,.inr ⟨hy0,_,_,rfl,key.1▸hq.out re (bs w),key.2▸hr.out re (bs w)⟩⟩
  ·conv=>whnf
   intro ρe we re;exact⟨_,rfl,hw.tr re.cC,.inr ⟨hy0,_,_,rfl,key.1▸hq.out re (bs w),key.2▸hr.out re (bs w)⟩⟩
 have hxs:=aH hxs;rw[aK (show ¬(x<0∧0<R) by omega),aK (show ¬(x<0∧0<R) by omega)]at key;conv=>whnf
 refine cF hτ dV [.x 0,.x 3,.x 1,.x 2,.x 4,.x 5,.x 6] (by kernel_rfl) (by kernel_rfl) ?_;conv=>whnf
 refine cE hw (Φ:=fun _ w' v w2=>v= .int .i64 x.sign) (fun ρ w' r=>fc (Rel.old r hS) (hx.rel r hS).r) ?_;rintro ρ wa7 v7 wb7 iv7 r he hw h_ rfl;clear hx;replace hy:=hy.cB r hS he (mC h_);replace hbb:=hbb.cB r (bs w) he (mC h_);replace hr:=hr.cB r (bs w) he (mC h_);replace hq:=hq.cB r (bs w) he (mC h_);clear r;conv=>whnf
 refine cE hw (Φ:=fun _ w' v w2=>v= .int .i64 y.sign) (fun ρ w' r=>fc (Rel.old r hS) (hy.rel r hS).r) ?_;rintro ρ wa8 v8 wb8 iv8 r he hw h_ rfl;clear hy;replace hbb:=hbb.cB r (bs w) he (mC h_);replace hr:=hr.cB r (bs w) he (mC h_);replace hq:=hq.cB r (bs w) he (mC h_);clear r;conv=>whnf
 refine dE.mk (fun hne=>?_) (fun hne=>?_)
 ·have hn:¬((x<0)↔(y<0)):=fun e=>by
   have e2:decide (x.sign<0)=decide (y.sign<0):=decide_eq_decide.2 (by omega);rw[e2]at hne;simp at hne
  rw[aK hn]at key;conv=>whnf
  refine bz (cE hw (Φ:=fun _ w' v w2=>dC w2 (Nw (fun _=>False) w' w2) v (-(dH Q))) (fun ρ w' r=>kE (Rel.old r (bs w)) ((hq.rel r (bs w)).l (k:=1000003) (by omega)) (by omega)) ?_);rintro ρ wa9 v9 wb9 iv9 r he hw h_ hn;replace hbb:=hbb.cB r (bs w) he (mC h_);replace hr:=hr.cB r (bs w) he (mC h_);clear hq;have hq3:=hn.cw (S:=fun _=>False) r.bu (mN h_);clear r hn;obtain⟨s9_0,s9_1,s9_2,s9_3,rfl⟩:=hq3.shape;conv=>whnf
  refine gZ hτ dV (.two 0 (.two 1 (.one 2 (.one 3 (.one 4 .nil))) 2 (.one 1 (.one 3 (.one 4 .nil)))) 1 (.one 0 (.one 2 (.one 3 (.one 4 .nil))))) (by kernel_rfl) ?_;conv=>whnf
  refine⟨?_,?_⟩
  ·conv=>whnf
   refine⟨?_,?_⟩
   ·conv=>whnf
    intro ρe we re;exact⟨_,rfl,hw.tr re.cC,.inr ⟨hy0,_,_,rfl,key.1▸hq3.out re (bs w),key.2▸hr.out re (bs w)⟩⟩
   ·conv=>whnf
    intro ρe we re;exact⟨_,rfl,hw.tr re.cC,.inr ⟨hy0,_,_,rfl,key.1▸hq3.out re (bs w),key.2▸hr.out re (bs w)⟩⟩
  ·conv=>whnf
   intro ρe we re;exact⟨_,rfl,hw.tr re.cC,.inr ⟨hy0,_,_,rfl,key.1▸hq3.out re (bs w),key.2▸hr.out re (bs w)⟩⟩
 have hn:(x<0)↔(y<0):=by
  have e2:decide (x.sign<0)=decide (y.sign<0):=by simpa using hne
  have:=decide_eq_decide.1 e2;omega
 rw[if_pos hn]at key;conv=>whnf
 refine gZ hτ dV (.two 0 (.two 1 (.one 2 (.one 3 (.one 4 .nil))) 2 (.one 1 (.one 3 (.one 4 .nil)))) 1 (.one 0 (.one 2 (.one 3 (.one 4 .nil))))) (by kernel_rfl) ?_;conv=>whnf
 refine⟨?_,?_⟩
 ·conv=>whnf
  refine⟨?_,?_⟩
  ·conv=>whnf
   intro ρe we re;exact⟨_,rfl,hw.tr re.cC,.inr ⟨hy0,_,_,rfl,key.1▸hq.out re (bs w),key.2▸hr.out re (bs w)⟩⟩
  ·conv=>whnf
   intro ρe we re;exact⟨_,rfl,hw.tr re.cC,.inr ⟨hy0,_,_,rfl,key.1▸hq.out re (bs w),key.2▸hr.out re (bs w)⟩⟩
 ·conv=>whnf
  intro ρe we re;exact⟨_,rfl,hw.tr re.cC,.inr ⟨hy0,_,_,rfl,key.1▸hq.out re (bs w),key.2▸hr.out re (bs w)⟩⟩
theorem hJ{S:Nat->Prop}{w:World}{v u:Value}{k l:Nat}{x y:Int}(hS:Old S w)(hx:ed w S v k x)(hy:ed w S u l y)(hk:k<=1000000)(hl:l<=1000000)(h0:y≠0):
  dh PG N.mF #[v,u] w (dw w fun v' w2=>∃q r,v'= .tuple #[q,r,.int .i64 0]∧dC w2 (Nw (fun _=>False) w w2) q (x / y)∧dC w2 (Nw (fun _=>False) w w2) r (x % y)):=
 (Ew hS hx hy hk hl).mono fun _ _ ⟨v2,e1,e2,e3⟩=>⟨v2,e1,e2,e3.elim (fun h=>absurd h.1 h0) fun h=>h.2⟩
theorem Iy(x:Nat){y:Nat}(h:y≠0):ln (Nat.gcd x y)<=ln y:=eW (Nat.le_of_dvd (by omega) (Nat.gcd_dvd_right x y))
theorem DR{a b:Int}(hb:b≠0):a / (b.sign*(Nat.gcd a.natAbs b.natAbs:Nat))=(Rat.divInt a b).num∧b / (b.sign*(Nat.gcd a.natAbs b.natAbs:Nat))=((Rat.divInt a b).den:Int):=by
 obtain⟨h1,h2⟩:=zj (a:=a) hb;have d1:((Nat.gcd a.natAbs b.natAbs:Nat):Int) ∣ a:=Int.ofNat_dvd_left.2 (Nat.gcd_dvd_left _ _);have d2:((Nat.gcd a.natAbs b.natAbs:Nat):Int) ∣ b:=Int.ofNat_dvd_left.2 (Nat.gcd_dvd_right _ _);have sg:b.sign=1∨b.sign= -1:=by rcases fM b with h|h|h<;>omega
 have key:∀c:Int,((Nat.gcd a.natAbs b.natAbs:Nat):Int) ∣ c->b.sign*(Nat.gcd a.natAbs b.natAbs:Nat) ∣ c:=fun c hc=>by
  rcases sg with h|h<;>rw[h]
  ·rw[Int.one_mul];exact hc
  ·rw[Int.neg_one_mul];exact Int.neg_dvd.2 hc
 rw[<-h1,<-h2,Int.tdiv_eq_ediv_of_dvd (key a d1),Int.tdiv_eq_ediv_of_dvd (key b d2)];exact⟨rfl,rfl⟩
theorem zm{S:Nat->Prop}{w:World}{v u:Value}{k l:Nat}{x y:Int}(hS:Old S w)(hx:ed w S v k x)(hy:ed w S u l y)(hk:k<=1000000)(hl:l<=1000000):
  dh PG N.rL #[v,u] w (dw w fun v' w2=>dC w2 (Nw (fun _=>False) w w2) v' ((Nat.gcd x.natAbs y.natAbs:Nat):Int)):=by
 have hw:cN w.heap.size w w:=cN.refl;replace hx:=hx.cG (S':=Cv S w.heap.size []) fun _ h=>.inl h;replace hy:=hy.cG (S':=Cv S w.heap.size []) fun _ h=>.inl h;obtain⟨b1,a1,n1,c1,rfl⟩:=hx.shape;obtain⟨b2,a2,n2,c2,rfl⟩:=hy.shape;refine ue (by simp) ?_;conv=>whnf
 have hlx:=hx.ln;have hly:=hy.ln;refine cF hτ dV [.x 0,.x 2,.x 1,.x 3,.x 4,.x 5] (by kernel_rfl) (by kernel_rfl) ?_;conv=>whnf
 refine cE hw (Φ:=fun _ w' v w2=>dC w2 (Nw (fun _=>False) w' w2) v ((x.natAbs:Int))) (fun ρ w' r=>vR (Rel.old r hS) (hx.rel r hS) (by omega)) ?_;rintro ρ wa1 v1 wb1 iv1 r he hw h_ hn;clear hx;replace hy:=hy.cB r hS he (mC h_);have ha:=hn.cw (S:=fun _=>False) r.bu (mN h_);clear r;obtain⟨s1_0,s1_1,s1_2,s1_3,rfl⟩:=ha.shape;conv=>whnf
 refine cE hw (Φ:=fun _ w' v w2=>dC w2 (Nw (fun _=>False) w' w2) v ((y.natAbs:Int))) (fun ρ w' r=>vR (Rel.old r hS) (hy.rel r hS) (by omega)) ?_;rintro ρ wa2 v2 wb2 iv2 r he hw h_ hn;clear hy;replace ha:=ha.cB r (bs w) he (mC h_);have hc:=hn.cw (S:=fun _=>False) r.bu (mN h_);clear r;obtain⟨s2_0,s2_1,s2_2,s2_3,rfl⟩:=hc.shape;conv=>whnf
 refine⟨Nat×Nat×(Bool×Option Addr×Nat×Nat)×(Bool×Option Addr×Nat×Nat)×World×Iv,fun z=>⟨[(2,.o (.p 0 0)),(3,.o (.p 1 0)),(4,.o (.p 2 0))],[(2,.box T.Int [.v (.bool false),.v (.slice none 0 0)]),(1,.box T.Int [.v (.bool z.2.2.2.1.1),.v (.slice z.2.2.2.1.2.1 z.2.2.2.1.2.2.1 z.2.2.2.1.2.2.2)]),(0,.box T.Int [.v (.bool z.2.2.1.1),.v (.slice z.2.2.1.2.1 z.2.2.1.2.2.1 z.2.2.1.2.2.2)])],3,z.2.2.2.2.2,z.2.2.2.2.1⟩,fun z=>z.2.1,
  fun z=>Nat.gcd z.1 z.2.1=Nat.gcd x.natAbs y.natAbs∧ln z.1<=1000000∧ln z.2.1<=1000000∧cN w.heap.size w z.2.2.2.2.1∧dC z.2.2.2.2.1 (Cv (fun _=>False) w.heap.size z.2.2.2.2.2) (.agg #[.bool z.2.2.1.1,.slice z.2.2.1.2.1 z.2.2.1.2.2.1 z.2.2.1.2.2.2]) (z.1:Int)∧dC z.2.2.2.2.1 (Cv (fun _=>False) w.heap.size z.2.2.2.2.2) (.agg #[.bool z.2.2.2.1.1,.slice z.2.2.2.1.2.1 z.2.2.2.1.2.2.1 z.2.2.2.1.2.2.2]) (z.2.1:Int),?_,?_⟩
 ·intro ρ w' r
  exact⟨(x.natAbs,y.natAbs,(s1_0,s1_1,s1_2,s1_3),(s2_0,s2_1,s2_2,s2_3),w',iv2),⟨rfl,by dsimp only;omega,by dsimp only;omega,hw.tr r.cC,ha.rel r (bs w),hc.rel r (bs w)⟩,
   Sub.gen [] r ⟨rfl,rfl,rfl,trivial⟩ ⟨rfl,rfl,rfl,trivial⟩ (by simp[dG,cW.scopd,At.sc]) (by simp[cV,SV.sc,At.sc]) (by rfl) (fun lo hi h=>h)⟩
 clear hw ha hc;rintro⟨a,b,⟨ba,aa,na,ca⟩,⟨bb,ab,nb,cb⟩,w1,iv⟩ ⟨hg,hla,hlb,hw,ha,hc⟩;dsimp only at hg hla hlb hw ha hc ⊢;conv=>whnf
 refine bz (cE hw (Φ:=fun _ w' v w2=>v= .int .i64 (b:Int).sign) (fun ρ w' r=>fc (Rel.old r (bs w)) (hc.rel r (bs w)).r) ?_);rintro ρ wa3 v3 wb3 iv3 r he hw h_ rfl;replace ha:=ha.cB r (bs w) he (mC h_);replace hc:=hc.cB r (bs w) he (mC h_);clear r;conv=>whnf
 have sb:=fM (b:Int);refine dE.mk (fun h=>?_) (fun h=>?_)
 ·have h:=aI h;have hb0:0<b:=by omega
  have hm:=bm a hb0;have hlm:ln (a % b)<=1000000:=bB (eW (by omega)) hlb;conv=>whnf
  refine bz (cE hw (Φ:=fun _ w' v w2=>∃q r,v= .tuple #[q,r,.int .i64 0]∧dC w2 (Nw (fun _=>False) w' w2) q ((a:Int) / b)∧dC w2 (Nw (fun _=>False) w' w2) r ((a:Int) % b)) (fun ρ w' r=>hJ (Rel.old r (bs w)) ((ha.rel r (bs w)).l (k:=1000000) hla) ((hc.rel r (bs w)).l (k:=1000000) hlb) (by omega) (by omega) (by omega)) ?_);rintro ρ wa4 v4 wb4 iv4 r he hw h_ ⟨q,rr,rfl,k1,k2⟩;clear ha;replace hc:=hc.cB r (bs w) he (mC h_);have hq:=k1.cw (S:=fun _=>False) r.bu (mN h_);have hr:=k2.cw (S:=fun _=>False) r.bu (mN h_);clear r;obtain⟨s4_0a,s4_0b,s4_0c,s4_0d,rfl⟩:=hq.shape;obtain⟨s4_1a,s4_1b,s4_1c,s4_1d,rfl⟩:=hr.shape;clear k1 k2 hq;conv=>whnf
  refine gZ hτ dV (.two 0 (.two 1 (.one 2 (.one 3 .nil)) 2 (.one 1 (.one 3 .nil))) 1 (.one 0 (.one 2 (.one 3 .nil)))) (by kernel_rfl) ?_;conv=>whnf
  refine⟨?_,?_⟩
  ·conv=>whnf
   refine⟨?_,?_⟩
   ·conv=>whnf
    intro ρ3 w3 r3;exact⟨(b,a % b,(bb,ab,nb,cb),(s4_1a,s4_1b,s4_1c,s4_1d),w3,_),⟨by dsimp only;rw[<-hg,Nat.gcd_comm a b,Nat.gcd_rec b a,Nat.gcd_comm],hlb,hlm,hw.tr r3.cC,hc.rel r3 (bs w),hr.rel r3 (bs w)⟩,Sub.gen [] r3 ⟨rfl,rfl,rfl,trivial⟩ ⟨rfl,rfl,rfl,trivial⟩ (by simp[dG,cW.scopd,At.sc]) (by simp[cV,SV.sc,At.sc]) (by rfl) (fun lo hi h=>h),hm⟩
   ·conv=>whnf
    intro ρ3 w3 r3;exact⟨(b,a % b,(bb,ab,nb,cb),(s4_1a,s4_1b,s4_1c,s4_1d),w3,_),⟨by dsimp only;rw[<-hg,Nat.gcd_comm a b,Nat.gcd_rec b a,Nat.gcd_comm],hlb,hlm,hw.tr r3.cC,hc.rel r3 (bs w),hr.rel r3 (bs w)⟩,Sub.gen [] r3 ⟨rfl,rfl,rfl,trivial⟩ ⟨rfl,rfl,rfl,trivial⟩ (by simp[dG,cW.scopd,At.sc]) (by simp[cV,SV.sc,At.sc]) (by rfl) (fun lo hi h=>h),hm⟩
  ·conv=>whnf
   intro ρ3 w3 r3;exact⟨(b,a % b,(bb,ab,nb,cb),(s4_1a,s4_1b,s4_1c,s4_1d),w3,_),⟨by dsimp only;rw[<-hg,Nat.gcd_comm a b,Nat.gcd_rec b a,Nat.gcd_comm],hlb,hlm,hw.tr r3.cC,hc.rel r3 (bs w),hr.rel r3 (bs w)⟩,Sub.gen [] r3 ⟨rfl,rfl,rfl,trivial⟩ ⟨rfl,rfl,rfl,trivial⟩ (by simp[dG,cW.scopd,At.sc]) (by simp[cV,SV.sc,At.sc]) (by rfl) (fun lo hi h=>h),hm⟩
 have h:=aH h;obtain rfl:b=0:=by omega
 rw[Nat.gcd_zero_right]at hg;subst hg;clear hc;conv=>whnf
 intro ρe we re;exact⟨_,rfl,hw.tr re.cC,ha.out re (bs w)⟩
theorem jO{S:Nat->Prop}{w:World}{v u:Value}{k l:Nat}{x y:Int}(hS:Old S w)(hx:ed w S v k x)(hy:ed w S u l y)(hk:k<=1000000)(hl:l<=1000000)(hy0:y≠0):
  dh PG N.po #[v,u] w (dw w fun v' w2=>cR w2 (Nw (fun _=>False) w w2) v' (Rat.divInt x y)):=by
 have hw:cN w.heap.size w w:=cN.refl;replace hx:=hx.cG (S':=Cv S w.heap.size []) fun _ h=>.inl h;replace hy:=hy.cG (S':=Cv S w.heap.size []) fun _ h=>.inl h;obtain⟨b1,a1,n1,c1,rfl⟩:=hx.shape;obtain⟨b2,a2,n2,c2,rfl⟩:=hy.shape;refine pJ (by simp) ?_;conv=>whnf
 have hlx:=hx.ln;have hly:=hy.ln;have hlg:=Iy x.natAbs (y:=y.natAbs) (by omega);obtain⟨hn,hd⟩:=DR (a:=x) hy0;have sy:=fM y
 refine bz (cE hw (Φ:=fun _ w' v w2=>∃n p,v= .tuple #[.int .i64 n,.bool p]∧(p=true->n=x∧x.natAbs<1073741824)) (fun ρ w' r=>(l0 (Rel.old r hS) (hx.rel r hS).r).mono fun e w2 ⟨v2,e1,e2,e3⟩=>⟨v2,e1,e2,by
   rw[e3,iz];split
   ·exact⟨_,_,rfl,fun _=>⟨rfl,‹_›⟩⟩
   ·exact⟨_,_,rfl,fun h=>by cases h⟩⟩) ?_)
 rintro ρ wa1 v1 wb1 iv1 r he hw h_ ⟨nx,px,rfl,qx⟩;replace hx:=hx.cB r hS he (mC h_);replace hy:=hy.cB r hS he (mC h_);clear r;conv=>whnf
 refine bz (cE hw (Φ:=fun _ w' v w2=>∃n p,v= .tuple #[.int .i64 n,.bool p]∧(p=true->n=y∧y.natAbs<1073741824)) (fun ρ w' r=>(l0 (Rel.old r hS) (hy.rel r hS).r).mono fun e w2 ⟨v2,e1,e2,e3⟩=>⟨v2,e1,e2,by
   rw[e3,iz];split
   ·exact⟨_,_,rfl,fun _=>⟨rfl,‹_›⟩⟩
   ·exact⟨_,_,rfl,fun h=>by cases h⟩⟩) ?_)
 rintro ρ wa2 v2 wb2 iv2 r he hw h_ ⟨ny,py,rfl,qy⟩;replace hx:=hx.cB r hS he (mC h_);replace hy:=hy.cB r hS he (mC h_);clear r;conv=>whnf
 refine dE.mk (fun h1=>?_) (fun h1=>?_)
 ·obtain⟨e1,hxs⟩:=qx h1;replace e1:=e1.symm;subst e1;conv=>whnf
  refine dE.mk (fun h2=>?_) (fun h2=>?_)
  ·obtain⟨e2,hys⟩:=qy h2;replace e2:=e2.symm;subst e2;clear hx hy;conv=>whnf
   refine bz (cE hw (Φ:=fun _ w' v w2=>cR w2 (Nw (fun _=>False) w' w2) v (Rat.divInt x y)) (fun ρ w' r=>o7 x y w' (by omega) (by omega) hy0) ?_);rintro ρ wa3 v3 wb3 iv3 r he hw h_ hn;have hR:=hn.cw (S:=fun _=>False) r.bu (mN h_);clear r hn;obtain⟨s3_0,s3_1,s3_2,s3_3,s3_4,s3_5,s3_6,s3_7,rfl⟩:=hR.shape;conv=>whnf
   intro ρe we re;exact⟨_,rfl,hw.tr re.cC,hR.out re (bs w)⟩
  conv=>whnf
  refine bz (cE hw (Φ:=fun _ w' v w2=>dC w2 (Nw (fun _=>False) w' w2) v (((Nat.gcd x.natAbs y.natAbs:Nat):Int))) (fun ρ w' r=>zm (Rel.old r hS) (hx.rel r hS) (hy.rel r hS) hk hl) ?_);rintro ρ wa3 v3 wb3 iv3 r he hw h_ hn;replace hx:=hx.cB r hS he (mC h_);replace hy:=hy.cB r hS he (mC h_);have hg:=hn.cw (S:=fun _=>False) r.bu (mN h_);clear r hn;obtain⟨s3_0,s3_1,s3_2,s3_3,rfl⟩:=hg.shape;conv=>whnf
  refine bz (cE hw (Φ:=fun _ w' v w2=>v= .int .i64 y.sign) (fun ρ w' r=>fc (Rel.old r hS) (hy.rel r hS).r) ?_);rintro ρ wa4 v4 wb4 iv4 r he hw h_ rfl;replace hx:=hx.cB r hS he (mC h_);replace hy:=hy.cB r hS he (mC h_);replace hg:=hg.cB r (bs w) he (mC h_);clear r;conv=>whnf
  have hgp:0<Nat.gcd x.natAbs y.natAbs:=bf _ (by omega);generalize Nat.gcd x.natAbs y.natAbs=g at*
  refine dE.mk (fun hs=>?_) (fun hs=>?_)
  ·have hs:=aI hs;rw[show y.sign= -1 by omega,Int.neg_one_mul]at hn hd;conv=>whnf
   refine bz (cE hw (Φ:=fun _ w' v w2=>dC w2 (Nw (fun _=>False) w' w2) v (-(g:Int))) (fun ρ w' r=>kE (Rel.old r (bs w)) ((hg.rel r (bs w)).l (k:=1000000) (by rw[Int.natAbs_natCast];omega)) (by omega)) ?_);rintro ρ wa5 v5 wb5 iv5 r he hw h_ hn;replace hx:=hx.cB r hS he (mC h_);replace hy:=hy.cB r hS he (mC h_);clear hg;have hg2:=hn.cw (S:=fun _=>False) r.bu (mN h_);clear r hn;obtain⟨s5_0,s5_1,s5_2,s5_3,rfl⟩:=hg2.shape;conv=>whnf
   refine bz (cE hw (Φ:=fun _ w' v w2=>∃q r,v= .tuple #[q,r,.int .i64 0]∧dC w2 (Nw (fun _=>False) w' w2) q (Rat.divInt x y).num∧dC w2 (Nw (fun _=>False) w' w2) r (x % (-(g:Int)))) (fun ρ w' r=>hn▸hJ (Rel.old r hS) (hx.rel r hS) ((((hg2.rel r (bs w)).l (k:=1000000) (by rw[bp,Int.natAbs_natCast];omega))).cG fun g hg=>Cv.false hg) hk (by omega) (by omega)) ?_);rintro ρ wa6 v6 wb6 iv6 r he hw h_ ⟨q,rr,rfl,k1,k2⟩;clear hx;replace hy:=hy.cB r hS he (mC h_);replace hg2:=hg2.cB r (bs w) he (mC h_);have hq:=k1.cw (S:=fun _=>False) r.bu (mN h_);have hr:=k2.cw (S:=fun _=>False) r.bu (mN h_);clear r;obtain⟨s6_0a,s6_0b,s6_0c,s6_0d,rfl⟩:=hq.shape;obtain⟨s6_1a,s6_1b,s6_1c,s6_1d,rfl⟩:=hr.shape;clear k1 k2 hr;conv=>whnf
   refine bz (cE hw (Φ:=fun _ w' v w2=>∃q r,v= .tuple #[q,r,.int .i64 0]∧dC w2 (Nw (fun _=>False) w' w2) q ((Rat.divInt x y).den:Int)∧dC w2 (Nw (fun _=>False) w' w2) r (y % (-(g:Int)))) (fun ρ w' r=>hd▸hJ (Rel.old r hS) (hy.rel r hS) ((((hg2.rel r (bs w)).l (k:=1000000) (by rw[bp,Int.natAbs_natCast];omega))).cG fun g hg=>Cv.false hg) hl (by omega) (by omega)) ?_);rintro ρ wa7 v7 wb7 iv7 r he hw h_ ⟨q,rr,rfl,k1,k2⟩;clear hy;clear hg2;replace hq:=hq.cB r (bs w) he (mC h_);have hq2:=k1.cw (S:=fun _=>False) r.bu (mN h_);have hr:=k2.cw (S:=fun _=>False) r.bu (mN h_);clear r;obtain⟨s7_0a,s7_0b,s7_0c,s7_0d,rfl⟩:=hq2.shape;obtain⟨s7_1a,s7_1b,s7_1c,s7_1d,rfl⟩:=hr.shape;clear k1 k2 hr;conv=>whnf
   intro ρe we re;exact⟨_,rfl,hw.tr re.cC,(cR.of hq hq2).out re (bs w)⟩
  have hs:=aH hs;rw[show y.sign=1 by omega,Int.one_mul]at hn hd;conv=>whnf
  refine bz (cE hw (Φ:=fun _ w' v w2=>∃q r,v= .tuple #[q,r,.int .i64 0]∧dC w2 (Nw (fun _=>False) w' w2) q (Rat.divInt x y).num∧dC w2 (Nw (fun _=>False) w' w2) r (x % ((g:Int)))) (fun ρ w' r=>hn▸hJ (Rel.old r hS) (hx.rel r hS) ((((hg.rel r (bs w)).l (k:=1000000) (by rw[Int.natAbs_natCast];omega))).cG fun g hg=>Cv.false hg) hk (by omega) (by omega)) ?_);rintro ρ wa5 v5 wb5 iv5 r he hw h_ ⟨q,rr,rfl,k1,k2⟩;clear hx;replace hy:=hy.cB r hS he (mC h_);replace hg:=hg.cB r (bs w) he (mC h_);have hq:=k1.cw (S:=fun _=>False) r.bu (mN h_);have hr:=k2.cw (S:=fun _=>False) r.bu (mN h_);clear r;obtain⟨s5_0a,s5_0b,s5_0c,s5_0d,rfl⟩:=hq.shape;obtain⟨s5_1a,s5_1b,s5_1c,s5_1d,rfl⟩:=hr.shape;clear k1 k2 hr;conv=>whnf
  refine bz (cE hw (Φ:=fun _ w' v w2=>∃q r,v= .tuple #[q,r,.int .i64 0]∧dC w2 (Nw (fun _=>False) w' w2) q ((Rat.divInt x y).den:Int)∧dC w2 (Nw (fun _=>False) w' w2) r (y % ((g:Int)))) (fun ρ w' r=>hd▸hJ (Rel.old r hS) (hy.rel r hS) ((((hg.rel r (bs w)).l (k:=1000000) (by rw[Int.natAbs_natCast];omega))).cG fun g hg=>Cv.false hg) hl (by omega) (by omega)) ?_);rintro ρ wa6 v6 wb6 iv6 r he hw h_ ⟨q,rr,rfl,k1,k2⟩;clear hy;clear hg;replace hq:=hq.cB r (bs w) he (mC h_);have hq2:=k1.cw (S:=fun _=>False) r.bu (mN h_);have hr:=k2.cw (S:=fun _=>False) r.bu (mN h_);clear r;obtain⟨s6_0a,s6_0b,s6_0c,s6_0d,rfl⟩:=hq2.shape;obtain⟨s6_1a,s6_1b,s6_1c,s6_1d,rfl⟩:=hr.shape;clear k1 k2 hr;conv=>whnf
  intro ρe we re;exact⟨_,rfl,hw.tr re.cC,(cR.of hq hq2).out re (bs w)⟩
 conv=>whnf
 refine bz (cE hw (Φ:=fun _ w' v w2=>dC w2 (Nw (fun _=>False) w' w2) v (((Nat.gcd x.natAbs y.natAbs:Nat):Int))) (fun ρ w' r=>zm (Rel.old r hS) (hx.rel r hS) (hy.rel r hS) hk hl) ?_);rintro ρ wa3 v3 wb3 iv3 r he hw h_ hn;replace hx:=hx.cB r hS he (mC h_);replace hy:=hy.cB r hS he (mC h_);have hg:=hn.cw (S:=fun _=>False) r.bu (mN h_);clear r hn;obtain⟨s3_0,s3_1,s3_2,s3_3,rfl⟩:=hg.shape;conv=>whnf
 refine bz (cE hw (Φ:=fun _ w' v w2=>v= .int .i64 y.sign) (fun ρ w' r=>fc (Rel.old r hS) (hy.rel r hS).r) ?_);rintro ρ wa4 v4 wb4 iv4 r he hw h_ rfl;replace hx:=hx.cB r hS he (mC h_);replace hy:=hy.cB r hS he (mC h_);replace hg:=hg.cB r (bs w) he (mC h_);clear r;conv=>whnf
 have hgp:0<Nat.gcd x.natAbs y.natAbs:=bf _ (by omega);generalize Nat.gcd x.natAbs y.natAbs=g at*
 refine dE.mk (fun hs=>?_) (fun hs=>?_)
 ·have hs:=aI hs;rw[show y.sign= -1 by omega,Int.neg_one_mul]at hn hd;conv=>whnf
  refine bz (cE hw (Φ:=fun _ w' v w2=>dC w2 (Nw (fun _=>False) w' w2) v (-(g:Int))) (fun ρ w' r=>kE (Rel.old r (bs w)) ((hg.rel r (bs w)).l (k:=1000000) (by rw[Int.natAbs_natCast];omega)) (by omega)) ?_);rintro ρ wa5 v5 wb5 iv5 r he hw h_ hn;replace hx:=hx.cB r hS he (mC h_);replace hy:=hy.cB r hS he (mC h_);clear hg;have hg2:=hn.cw (S:=fun _=>False) r.bu (mN h_);clear r hn;obtain⟨s5_0,s5_1,s5_2,s5_3,rfl⟩:=hg2.shape;conv=>whnf
  refine bz (cE hw (Φ:=fun _ w' v w2=>∃q r,v= .tuple #[q,r,.int .i64 0]∧dC w2 (Nw (fun _=>False) w' w2) q (Rat.divInt x y).num∧dC w2 (Nw (fun _=>False) w' w2) r (x % (-(g:Int)))) (fun ρ w' r=>hn▸hJ (Rel.old r hS) (hx.rel r hS) ((((hg2.rel r (bs w)).l (k:=1000000) (by rw[bp,Int.natAbs_natCast];omega))).cG fun g hg=>Cv.false hg) hk (by omega) (by omega)) ?_);rintro ρ wa6 v6 wb6 iv6 r he hw h_ ⟨q,rr,rfl,k1,k2⟩;clear hx;replace hy:=hy.cB r hS he (mC h_);replace hg2:=hg2.cB r (bs w) he (mC h_);have hq:=k1.cw (S:=fun _=>False) r.bu (mN h_);have hr:=k2.cw (S:=fun _=>False) r.bu (mN h_);clear r;obtain⟨s6_0a,s6_0b,s6_0c,s6_0d,rfl⟩:=hq.shape;obtain⟨s6_1a,s6_1b,s6_1c,s6_1d,rfl⟩:=hr.shape;clear k1 k2 hr;conv=>whnf
  refine bz (cE hw (Φ:=fun _ w' v w2=>∃q r,v= .tuple #[q,r,.int .i64 0]∧dC w2 (Nw (fun _=>False) w' w2) q ((Rat.divInt x y).den:Int)∧dC w2 (Nw (fun _=>False) w' w2) r (y % (-(g:Int)))) (fun ρ w' r=>hd▸hJ (Rel.old r hS) (hy.rel r hS) ((((hg2.rel r (bs w)).l (k:=1000000) (by rw[bp,Int.natAbs_natCast];omega))).cG fun g hg=>Cv.false hg) hl (by omega) (by omega)) ?_);rintro ρ wa7 v7 wb7 iv7 r he hw h_ ⟨q,rr,rfl,k1,k2⟩;clear hy;clear hg2;replace hq:=hq.cB r (bs w) he (mC h_);have hq2:=k1.cw (S:=fun _=>False) r.bu (mN h_);have hr:=k2.cw (S:=fun _=>False) r.bu (mN h_);clear r;obtain⟨s7_0a,s7_0b,s7_0c,s7_0d,rfl⟩:=hq2.shape;obtain⟨s7_1a,s7_1b,s7_1c,s7_1d,rfl⟩:=hr.shape;clear k1 k2 hr;conv=>whnf
  intro ρe we re;exact⟨_,rfl,hw.tr re.cC,(cR.of hq hq2).out re (bs w)⟩
 have hs:=aH hs;rw[show y.sign=1 by omega,Int.one_mul]at hn hd;conv=>whnf
 refine bz (cE hw (Φ:=fun _ w' v w2=>∃q r,v= .tuple #[q,r,.int .i64 0]∧dC w2 (Nw (fun _=>False) w' w2) q (Rat.divInt x y).num∧dC w2 (Nw (fun _=>False) w' w2) r (x % ((g:Int)))) (fun ρ w' r=>hn▸hJ (Rel.old r hS) (hx.rel r hS) ((((hg.rel r (bs w)).l (k:=1000000) (by rw[Int.natAbs_natCast];omega))).cG fun g hg=>Cv.false hg) hk (by omega) (by omega)) ?_);rintro ρ wa5 v5 wb5 iv5 r he hw h_ ⟨q,rr,rfl,k1,k2⟩;clear hx;replace hy:=hy.cB r hS he (mC h_);replace hg:=hg.cB r (bs w) he (mC h_);have hq:=k1.cw (S:=fun _=>False) r.bu (mN h_);have hr:=k2.cw (S:=fun _=>False) r.bu (mN h_);clear r;obtain⟨s5_0a,s5_0b,s5_0c,s5_0d,rfl⟩:=hq.shape;obtain⟨s5_1a,s5_1b,s5_1c,s5_1d,rfl⟩:=hr.shape;clear k1 k2 hr;conv=>whnf
 refine bz (cE hw (Φ:=fun _ w' v w2=>∃q r,v= .tuple #[q,r,.int .i64 0]∧dC w2 (Nw (fun _=>False) w' w2) q ((Rat.divInt x y).den:Int)∧dC w2 (Nw (fun _=>False) w' w2) r (y % ((g:Int)))) (fun ρ w' r=>hd▸hJ (Rel.old r hS) (hy.rel r hS) ((((hg.rel r (bs w)).l (k:=1000000) (by rw[Int.natAbs_natCast];omega))).cG fun g hg=>Cv.false hg) hl (by omega) (by omega)) ?_);rintro ρ wa6 v6 wb6 iv6 r he hw h_ ⟨q,rr,rfl,k1,k2⟩;clear hy;clear hg;replace hq:=hq.cB r (bs w) he (mC h_);have hq2:=k1.cw (S:=fun _=>False) r.bu (mN h_);have hr:=k2.cw (S:=fun _=>False) r.bu (mN h_);clear r;obtain⟨s6_0a,s6_0b,s6_0c,s6_0d,rfl⟩:=hq2.shape;obtain⟨s6_1a,s6_1b,s6_1c,s6_1d,rfl⟩:=hr.shape;clear k1 k2 hr;conv=>whnf
 intro ρe we re;exact⟨_,rfl,hw.tr re.cC,(cR.of hq hq2).out re (bs w)⟩
end Go.Ex
