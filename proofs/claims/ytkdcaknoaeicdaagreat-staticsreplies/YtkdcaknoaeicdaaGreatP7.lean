/- A part of the proof: texts X61 to X74. Each tells its conditions in its theorems. -/
import Derived.Test.YtkdcaknoaeicdaaGreatP6
namespace Go.Ex
open Go Go.Sx Go.Proofs
def EL:Value:=.agg #[.bool false,.slice none 0 0]
theorem cU.nil(w:World)(S:Nat->Prop):cU w S (.agg #[.bool false,.slice none 0 0]) 0:=⟨[],⟨_,rfl,cV.nil _ _⟩,fun x h=>by simp at h,rfl⟩
theorem Gs{Q:List Int}(h:∀c∈Q,0<=c∧c<=65535):0<=cX Q:=by
 induction Q with
 |nil=>exact Int.le_refl _
 |cons c r ih=>
  have h1:=h c aH;have h2:=ih fun x hx=>h x (aC _ hx);rw[cX];omega
theorem vc{n:Int}(h:0<=n)(h2:n<4294967296):ln n.natAbs<=1:=gM.2 (by show n.natAbs<4294967296^1;omega)
theorem Cj{S:Nat->Prop}{w:World}{v u:Value}{k l:Nat}{x y:Int}(hS:Old S w)(hx:eN w S v k x)(hy:eN w S u l y)(hk:k<=1000000)(hl:l<=1000000):
  dQ PG N.lC #[v,u] w (dU w fun v' w2=>(y=0∧v'= .tuple #[EL,EL,.int .i64 9])∨(y≠0∧∃q r,v'= .tuple #[q,r,.int .i64 0]∧cU w2 (Nw (fun _=>False) w w2) q (x / y)∧cU w2 (Nw (fun _=>False) w w2) r (x % y))):=by
 have hw:cF w.heap.size w w:=cF.refl;replace hx:=hx.bz (S':=Cv S w.heap.size []) fun _ h=>.inl h;replace hy:=hy.bz (S':=Cv S w.heap.size []) fun _ h=>.inl h;obtain⟨b1,a1,n1,c1,rfl⟩:=hx.shape;obtain⟨b2,a2,n2,c2,rfl⟩:=hy.shape;refine ss (by simp) ?_;conv=>whnf
 have hly:=hy.ln;refine bp (cE hw (Φ:=fun _ w' v w2=>v= .int .i64 y.sign) (fun ρ w' r=>fE (Rel.old r hS) (hy.rel r hS).r) ?_);rintro ρ wa1 v1 wb1 iv1 r he hw h_ rfl;replace hx:=hx.bq r hS he (mC h_);replace hy:=hy.bq r hS he (mC h_);clear r;conv=>whnf
 refine cW.mk (fun hy0=>?_) (fun hy0=>?_)
 ·have hy0:y=0:=by rcases ee y with h|h|h<;>simp[h]at hy0 ⊢
  conv=>whnf
  intro ρe we re;exact⟨_,rfl,hw.tr re.bs,.inl ⟨hy0,rfl⟩⟩
 have hy0:y≠0:=fun e=>by rw[e]at hy0;simp at hy0
 conv=>whnf
 refine bw hτ dH [.x 0,.x 3,.p 5,.x 1,.x 2,.x 4,.x 5,.x 6,.x 7] (by kernel_rfl) (by kernel_rfl) ?_;conv=>whnf
 refine cE hw (Φ:=fun _ w' v w2=>cU w2 (Nw (fun _=>False) w' w2) v ((x.natAbs:Int))) (fun ρ w' r=>te (Rel.old r hS) (hx.rel r hS) (by omega)) ?_;rintro ρ wa2 v2 wb2 iv2 r he hw h_ hn;replace hx:=hx.bq r hS he (mC h_);replace hy:=hy.bq r hS he (mC h_);have hsx:=hn.cQ (S:=fun _=>False) r.bm (mN h_);clear r;obtain⟨s2_0,s2_1,s2_2,s2_3,rfl⟩:=hsx.shape;conv=>whnf
 have hlx:=hx.ln;refine cE hw (Φ:=fun _ w' v w2=>∃cs,dJ w2 (Nw (fun _=>False) w' w2) v cs∧wV cs (2*k) ((x.natAbs:Int))) (fun ρ w' r=>nY (Rel.old r (bl w)) ((hsx.rel r (bl w)).l (k:=k) (by rw[Int.natAbs_natCast];exact hlx)) (by omega)) ?_;rintro ρ wa3 v3 wb3 iv3 r he hw h_ ⟨ca,k1,bca⟩;replace hx:=hx.bq r hS he (mC h_);replace hy:=hy.bq r hS he (mC h_);clear hsx;have hca:=k1.cQ (S:=fun _=>False) r.bm (mN h_);clear r;clear k1;obtain⟨aca,cca,rfl,lca⟩:=hca.shape;conv=>whnf
 refine cE hw (Φ:=fun _ w' v w2=>cU w2 (Nw (fun _=>False) w' w2) v ((y.natAbs:Int))) (fun ρ w' r=>te (Rel.old r hS) (hy.rel r hS) (by omega)) ?_;rintro ρ wa4 v4 wb4 iv4 r he hw h_ hn;replace hx:=hx.bq r hS he (mC h_);replace hy:=hy.bq r hS he (mC h_);replace hca:=hca.bq r (bl w) he (mC h_);have hbb:=hn.cQ (S:=fun _=>False) r.bm (mN h_);clear r;obtain⟨s4_0,s4_1,s4_2,s4_3,rfl⟩:=hbb.shape;conv=>whnf
 generalize hB:(y.natAbs:Int)=B at*
 have l1:=bca.2.1;have hB0:0<B:=by omega
 have lB:ln B.natAbs<=l:=by rw[<-hB,Int.natAbs_natCast];exact hly
 conv=>whnf
 refine⟨(ca.length:Int)-1,by rw[wrap64]<;>omega,?_⟩;conv=>whnf
 refine⟨Nat×List Int×Int×(Bool×Option Addr×Nat×Nat)×World×Iv,fun z=>⟨[(2,.o (.p 0 0)),(3,.o (.p 1 0)),(4,.o (.p 2 0)),(5,.o (.p 3 0)),(6,.o (.v (.int .i64 0))),(7,.o (.v (.slice aca ca.length cca))),(8,.o (.p 4 0)),(9,.o (.w 6 z.2.1.length)),(10,.o (.p 5 0)),(11,.o (.v (.int .i64 ((z.1:Int)-1))))],[(6,.vec T.int 1 (z.2.1.map (Value.int .i64))),(5,.box T.Int [.v (.bool z.2.2.2.1.1),.v (.slice z.2.2.2.1.2.1 z.2.2.2.1.2.2.1 z.2.2.2.1.2.2.2)]),(4,.box T.Int [.v (.bool s4_0),.v (.slice s4_1 s4_2 s4_3)]),(3,.box T.Int [.v (.bool false),.v (.slice none 0 0)]),(2,.box T.Int [.v (.bool false),.v (.slice none 0 0)]),(1,.box T.Int [.v (.bool b2),.v (.slice a2 n2 c2)]),(0,.box T.Int [.v (.bool b1),.v (.slice a1 n1 c1)])],7,z.2.2.2.2.2,z.2.2.2.2.1⟩,fun z=>z.1,
  fun z=>z.1<=ca.length∧z.2.1.length+z.1=ca.length∧(∀c∈z.2.1,0<=c∧c<=65535)∧cX (ca.drop z.1)=B*cX z.2.1+z.2.2.1∧0<=z.2.2.1∧z.2.2.1<B∧cF w.heap.size w z.2.2.2.2.1∧eN z.2.2.2.2.1 (Cv S w.heap.size z.2.2.2.2.2) (.agg #[.bool b1,.slice a1 n1 c1]) k x∧eN z.2.2.2.2.1 (Cv S w.heap.size z.2.2.2.2.2) (.agg #[.bool b2,.slice a2 n2 c2]) l y∧dJ z.2.2.2.2.1 (Cv (fun _=>False) w.heap.size z.2.2.2.2.2) (.slice aca ca.length cca) ca∧cU z.2.2.2.2.1 (Cv (fun _=>False) w.heap.size z.2.2.2.2.2) (.agg #[.bool s4_0,.slice s4_1 s4_2 s4_3]) B∧cU z.2.2.2.2.1 (Cv (fun _=>False) w.heap.size z.2.2.2.2.2) (.agg #[.bool z.2.2.2.1.1,.slice z.2.2.2.1.2.1 z.2.2.2.1.2.2.1 z.2.2.2.1.2.2.2]) z.2.2.1,?_,?_⟩
 ·intro ρ w' r
  exact⟨(ca.length,[],0,(false,none,0,0),w',iv4),⟨aI _,by simp,by simp,by simp[cX],Int.le_refl _,hB0,hw.tr r.bs,hx.rel r hS,hy.rel r hS,hca.rel r (bl w),hbb.rel r (bl w),cU.nil _ _⟩,Sub.nil 9 T.int 1 rfl (by simp[cO,SV.sc,At.sc]) r fun ρ1 r1=>
   Sub.gen [] r1 ⟨rfl,rfl,rfl,rfl,rfl,rfl,rfl,trivial⟩ ⟨rfl,rfl,rfl,rfl,rfl,rfl,rfl,rfl,rfl,rfl,trivial⟩ (by simp[cY,cN.scopd,At.sc]) (by simp[cO,SV.sc,At.sc]) (by rfl) (fun lo hi h=>h)⟩
 clear hw hca hbb hx hy;rintro⟨j,Q,R,⟨br,ar,nr,cr⟩,w1,iv⟩ ⟨hj,hQ,hd,hv,hR0,hR1,hw,hx,hy,hca,hbb,hr⟩;dsimp only at hj hQ hd hv hR0 hR1 hw hx hy hca hbb hr ⊢;conv=>whnf
 refine cW.mk (fun hib=>?_) (fun hib=>?_)
 ·obtain⟨i,rfl⟩:∃i,j=i+1:=⟨j-1,by have:(j:Int)-1≥0:=aG hib;omega⟩
  rw[show ((i+1:Nat):Int)-1=(i:Int) by omega];obtain⟨d,hd1⟩:∃d,ca[i]? =some d:=⟨_,aA (by omega)⟩
  have hd0:=bca.2.2.1 d (aD hd1);have hd2:=bca.2.2.2 (by omega) d (aD hd1);have lR:ln R.natAbs<=l:=bH (fJ (by omega)) lB;have lU:ln (65536:Int).natAbs<=1:=by decide
  have m1:=cL R 65536;have m2:=vc (n:=d) hd2 (by omega);have m3:=fx (R*65536) d;conv=>whnf
  refine bw hτ dH [.x 0,.x 3,.x 4,.x 5,.x 6,.x 1,.x 2,.x 7,.x 8,.x 9] (by kernel_rfl) (by kernel_rfl) ?_;conv=>whnf
  obtain⟨ad,ha0,q1,q2⟩:=hca.load hd1;refine⟨ad,ha0,⟨by omega,by omega⟩,?_⟩;conv=>whnf
  refine⟨.int .i64 d,fun ρ w' r=>?_,?_⟩
  ·rw[aB,bo (w:=w1) (w2:=w') (by rw[cC];exact Rel.same (S:=fun _=>False) r (bl w) q1)];exact q2
  clear q1 q2 ha0;conv=>whnf
  refine cE hw (Φ:=fun _ w' v w2=>cU w2 (Nw (fun _=>False) w' w2) v (65536)) (fun ρ w' r=>il _ w' (by decide) (by decide)) ?_;rintro ρ wa5 v5 wb5 iv5 r he hw h_ hn;replace hx:=hx.bq r hS he (mC h_);replace hy:=hy.bq r hS he (mC h_);replace hca:=hca.bq r (bl w) he (mC h_);replace hbb:=hbb.bq r (bl w) he (mC h_);replace hr:=hr.bq r (bl w) he (mC h_);have hu:=hn.cQ (S:=fun _=>False) r.bm (mN h_);clear r;obtain⟨s5_0,s5_1,s5_2,s5_3,rfl⟩:=hu.shape;conv=>whnf
  refine cE hw (Φ:=fun _ w' v w2=>cU w2 (Nw (fun _=>False) w' w2) v (R*65536)) (fun ρ w' r=>gH (Rel.old r (bl w)) ((hr.rel r (bl w)).l (k:=1000001) (by omega)) ((hu.rel r (bl w)).l (k:=1000001) (by omega)) (by omega) (by omega)) ?_;rintro ρ wa6 v6 wb6 iv6 r he hw h_ hn;replace hx:=hx.bq r hS he (mC h_);replace hy:=hy.bq r hS he (mC h_);replace hca:=hca.bq r (bl w) he (mC h_);replace hbb:=hbb.bq r (bl w) he (mC h_);clear hr;clear hu;have hp:=hn.cQ (S:=fun _=>False) r.bm (mN h_);clear r;obtain⟨s6_0,s6_1,s6_2,s6_3,rfl⟩:=hp.shape;conv=>whnf
  refine cE hw (Φ:=fun _ w' v w2=>cU w2 (Nw (fun _=>False) w' w2) v (d)) (fun ρ w' r=>il _ w' (by omega) (by omega)) ?_;rintro ρ wa7 v7 wb7 iv7 r he hw h_ hn;replace hx:=hx.bq r hS he (mC h_);replace hy:=hy.bq r hS he (mC h_);replace hca:=hca.bq r (bl w) he (mC h_);replace hbb:=hbb.bq r (bl w) he (mC h_);replace hp:=hp.bq r (bl w) he (mC h_);have hdd:=hn.cQ (S:=fun _=>False) r.bm (mN h_);clear r;obtain⟨s7_0,s7_1,s7_2,s7_3,rfl⟩:=hdd.shape;conv=>whnf
  refine cE hw (Φ:=fun _ w' v w2=>cU w2 (Nw (fun _=>False) w' w2) v (R*65536+d)) (fun ρ w' r=>vZ (Rel.old r (bl w)) ((hp.rel r (bl w)).l (k:=1000002) (by omega)) ((hdd.rel r (bl w)).l (k:=1000002) (by omega)) (by omega) (by omega)) ?_;rintro ρ wa8 v8 wb8 iv8 r he hw h_ hn;replace hx:=hx.bq r hS he (mC h_);replace hy:=hy.bq r hS he (mC h_);replace hca:=hca.bq r (bl w) he (mC h_);replace hbb:=hbb.bq r (bl w) he (mC h_);clear hp;clear hdd;have hr:=hn.cQ (S:=fun _=>False) r.bm (mN h_);clear r;obtain⟨s8_0,s8_1,s8_2,s8_3,rfl⟩:=hr.shape;conv=>whnf
  generalize hR2:R*65536+d=R2 at*
  have hR20:0<=R2:=by omega
  have hR21:R2<65536*B:=by omega
  refine⟨Nat×Nat×Nat×World×Iv,fun z=>⟨[(2,.o (.p 0 0)),(3,.o (.p 1 0)),(4,.o (.p 2 0)),(5,.o (.p 3 0)),(6,.o (.v (.int .i64 0))),(7,.o (.v (.slice aca ca.length cca))),(8,.o (.p 4 0)),(9,.o (.w 6 Q.length)),(10,.o (.p 5 0)),(11,.o (.v (.int .i64 ((i:Int))))),(12,.o (.v (.int .i64 ((z.1:Nat):Int)))),(13,.o (.v (.int .i64 ((z.2.2.1:Nat):Int))))],[(6,.vec T.int 1 (Q.map (Value.int .i64))),(5,.box T.Int [.v (.bool s8_0),.v (.slice s8_1 s8_2 s8_3)]),(4,.box T.Int [.v (.bool s4_0),.v (.slice s4_1 s4_2 s4_3)]),(3,.box T.Int [.v (.bool false),.v (.slice none 0 0)]),(2,.box T.Int [.v (.bool false),.v (.slice none 0 0)]),(1,.box T.Int [.v (.bool b2),.v (.slice a2 n2 c2)]),(0,.box T.Int [.v (.bool b1),.v (.slice a1 n1 c1)])],7,z.2.2.2.2,z.2.2.2.1⟩,fun z=>z.2.1,
   fun z=>z.2.2.1=2^z.2.1 / 2∧z.1+2^z.2.1<=65536∧((z.1:Nat):Int)*B<=R2∧R2<((z.1+2^z.2.1:Nat):Int)*B∧cF w.heap.size w z.2.2.2.1∧eN z.2.2.2.1 (Cv S w.heap.size z.2.2.2.2) (.agg #[.bool b1,.slice a1 n1 c1]) k x∧eN z.2.2.2.1 (Cv S w.heap.size z.2.2.2.2) (.agg #[.bool b2,.slice a2 n2 c2]) l y∧dJ z.2.2.2.1 (Cv (fun _=>False) w.heap.size z.2.2.2.2) (.slice aca ca.length cca) ca∧cU z.2.2.2.1 (Cv (fun _=>False) w.heap.size z.2.2.2.2) (.agg #[.bool s4_0,.slice s4_1 s4_2 s4_3]) B∧cU z.2.2.2.1 (Cv (fun _=>False) w.heap.size z.2.2.2.2) (.agg #[.bool s8_0,.slice s8_1 s8_2 s8_3]) R2,?_,?_⟩
  ·intro ρ w' r
   exact⟨(0,16,32768,w',iv8),⟨by show 32768=2^16 / 2;decide,by show 0+2^16<=65536;decide,by dsimp only;omega,by dsimp only;rw[show ((0+2^16:Nat):Int)=65536 from rfl];exact hR21,hw.tr r.bs,hx.rel r hS,hy.rel r hS,hca.rel r (bl w),hbb.rel r (bl w),hr.rel r (bl w)⟩,
    Sub.gen [] r ⟨rfl,rfl,rfl,rfl,rfl,rfl,rfl,trivial⟩ ⟨rfl,rfl,rfl,rfl,rfl,rfl,rfl,rfl,rfl,rfl,rfl,rfl,trivial⟩ (by simp[cY,cN.scopd,At.sc]) (by simp[cO,SV.sc,At.sc]) (by rfl) (fun lo hi h=>h)⟩
  clear hw hca hbb hx hy hr;rintro⟨n,e,bit,w5,iv⟩ ⟨hn0,hn1,hn2,hn3,hw,hx,hy,hca,hbb,hr⟩;dsimp only at hn0 hn1 hn2 hn3 hw hx hy hca hbb hr ⊢;conv=>whnf
  refine cW.mk (fun hbit=>?_) (fun hbit=>?_)
  ·have hbit:0<2^e / 2:=by have:((bit:Nat):Int)>0:=aG hbit;omega
   obtain⟨f,rfl⟩:∃f,e=f+1:=by
    cases e with
    |zero=>exact absurd hbit (by decide)
    |succ f=>exact⟨f,rfl⟩
   have e1:2^(f+1)=2*2^f:=by rw[Nat.pow_succ];omega
   have e2:2^(f+1) / 2=2^f:=by omega
   obtain rfl:bit=2^f:=by omega
   clear hn0;rw[e1]at hn1 hn3;clear hbit e2;have hp0:=bY f;generalize hp:2^f=p at*
   have m4:=vc (n:=((n+p:Nat):Int)) (by omega) (by omega);have m5:=cL B ((n+p:Nat):Int);have m6:ln R2.natAbs<=l+1:=by
    refine bH (fJ (b:=((65536:Int)*B).natAbs) (by omega)) ?_;have:=cL 65536 B;omega
   conv=>whnf
   refine bw hτ dH [.x 0,.x 1,.x 2,.x 3,.x 6,.x 4,.x 5,.x 7,.x 8] (by kernel_rfl) (by kernel_rfl) ?_;conv=>whnf
   refine⟨((n+p:Nat):Int),by rw[wrap64]<;>omega,?_⟩;conv=>whnf
   refine cE hw (Φ:=fun _ w' v w2=>cU w2 (Nw (fun _=>False) w' w2) v (((n+p:Nat):Int))) (fun ρ w' r=>il _ w' (by omega) (by omega)) ?_;rintro ρ wa9 v9 wb9 iv9 r he hw h_ hn;replace hx:=hx.bq r hS he (mC h_);replace hy:=hy.bq r hS he (mC h_);replace hca:=hca.bq r (bl w) he (mC h_);replace hbb:=hbb.bq r (bl w) he (mC h_);replace hr:=hr.bq r (bl w) he (mC h_);have hu:=hn.cQ (S:=fun _=>False) r.bm (mN h_);clear r;obtain⟨s9_0,s9_1,s9_2,s9_3,rfl⟩:=hu.shape;conv=>whnf
   refine cE hw (Φ:=fun _ w' v w2=>cU w2 (Nw (fun _=>False) w' w2) v (B*((n+p:Nat):Int))) (fun ρ w' r=>gH (Rel.old r (bl w)) ((hbb.rel r (bl w)).l (k:=1000001) (by omega)) ((hu.rel r (bl w)).l (k:=1000001) (by omega)) (by omega) (by omega)) ?_;rintro ρ wa10 v10 wb10 iv10 r he hw h_ hn;replace hx:=hx.bq r hS he (mC h_);replace hy:=hy.bq r hS he (mC h_);replace hca:=hca.bq r (bl w) he (mC h_);replace hbb:=hbb.bq r (bl w) he (mC h_);replace hr:=hr.bq r (bl w) he (mC h_);clear hu;have hp2:=hn.cQ (S:=fun _=>False) r.bm (mN h_);clear r;obtain⟨s10_0,s10_1,s10_2,s10_3,rfl⟩:=hp2.shape;conv=>whnf
   refine cE hw (Φ:=fun _ w' v w2=>v= .int .i64 (B*((n+p:Nat):Int)-R2).sign) (fun ρ w' r=>Ch (Rel.old r (bl w)) ((hp2.rel r (bl w)).l (k:=1000001) (by omega)) ((hr.rel r (bl w)).l (k:=1000001) (by omega)) (by omega) (by omega)) ?_;rintro ρ wa11 v11 wb11 iv11 r he hw h_ rfl;replace hx:=hx.bq r hS he (mC h_);replace hy:=hy.bq r hS he (mC h_);replace hca:=hca.bq r (bl w) he (mC h_);replace hbb:=hbb.bq r (bl w) he (mC h_);replace hr:=hr.bq r (bl w) he (mC h_);clear hp2;clear r;conv=>whnf
   have hs:=ee (B*((n+p:Nat):Int)-R2);refine cW.mk (fun hle=>?_) (fun hle=>?_)
   ·have hle:=aG hle;have hle2:((n+p:Nat):Int)*B<=R2:=by rw[Int.mul_comm];omega
    conv=>whnf
    refine⟨((n+p:Nat):Int),by rw[wrap64]<;>omega,?_⟩;conv=>whnf
    refine⟨by decide,((2^f / 2:Nat):Int),by rw[hp,show((p:Nat):Int).tdiv 2=((p / 2:Nat):Int)from rfl,wrap64]<;>omega,?_⟩;conv=>whnf
    intro ρ3 w3 r3;exact⟨(n+p,f,2^f / 2,w3,_),⟨rfl,by dsimp only;omega,hle2,by dsimp only;rw[hp,show n+p+p=n+2*p by omega];exact hn3,hw.tr r3.bs,hx.rel r3 hS,hy.rel r3 hS,hca.rel r3 (bl w),hbb.rel r3 (bl w),hr.rel r3 (bl w)⟩,Sub.gen [] r3 ⟨rfl,rfl,rfl,rfl,rfl,rfl,rfl,trivial⟩ ⟨rfl,rfl,rfl,rfl,rfl,rfl,rfl,rfl,rfl,rfl,rfl,rfl,trivial⟩ (by simp[cY,cN.scopd,At.sc]) (by simp[cO,SV.sc,At.sc]) (by rfl) (fun lo hi h=>h),by dsimp only;omega⟩
   have hle:=aF hle;have hle2:R2<((n+p:Nat):Int)*B:=by rw[Int.mul_comm];omega
   conv=>whnf
   refine⟨by decide,((2^f / 2:Nat):Int),by rw[hp,show((p:Nat):Int).tdiv 2=((p / 2:Nat):Int)from rfl,wrap64]<;>omega,?_⟩;conv=>whnf
   intro ρ3 w3 r3;exact⟨(n,f,2^f / 2,w3,_),⟨rfl,by dsimp only;omega,hn2,by dsimp only;rw[hp];exact hle2,hw.tr r3.bs,hx.rel r3 hS,hy.rel r3 hS,hca.rel r3 (bl w),hbb.rel r3 (bl w),hr.rel r3 (bl w)⟩,Sub.gen [] r3 ⟨rfl,rfl,rfl,rfl,rfl,rfl,rfl,trivial⟩ ⟨rfl,rfl,rfl,rfl,rfl,rfl,rfl,rfl,rfl,rfl,rfl,rfl,trivial⟩ (by simp[cY,cN.scopd,At.sc]) (by simp[cO,SV.sc,At.sc]) (by rfl) (fun lo hi h=>h),by dsimp only;omega⟩
  have hbit:¬0<2^e / 2:=by have:¬((bit:Nat):Int)>0:=aF hbit;omega
  obtain rfl:e=0:=by
   cases e with
   |zero=>rfl
   |succ f=>exact absurd (show 0<2^(f+1) / 2 by rw[Nat.pow_succ];have:=bY f;omega) hbit
  rw[show n+2^0=n+1 from rfl]at hn1 hn3;clear hbit;rw[Int.natCast_add,Int.add_mul]at hn3;rw[Int.mul_comm]at hn2;rw[Int.mul_comm]at hn3;have m4:=vc (n:=((n:Nat):Int)) (by omega) (by omega);have m5:=cL B ((n:Nat):Int);have m6:ln R2.natAbs<=l+1:=by
   refine bH (fJ (b:=((65536:Int)*B).natAbs) (by omega)) ?_;have:=cL 65536 B;omega
  conv=>whnf
  refine bw hτ dH [.x 0,.x 1,.x 2,.x 3,.x 4,.x 5,.x 6] (by kernel_rfl) (by kernel_rfl) ?_;conv=>whnf
  refine cE hw (Φ:=fun _ w' v w2=>cU w2 (Nw (fun _=>False) w' w2) v (((n:Nat):Int))) (fun ρ w' r=>il _ w' (by omega) (by omega)) ?_;rintro ρ wa9 v9 wb9 iv9 r he hw h_ hn;replace hx:=hx.bq r hS he (mC h_);replace hy:=hy.bq r hS he (mC h_);replace hca:=hca.bq r (bl w) he (mC h_);replace hbb:=hbb.bq r (bl w) he (mC h_);replace hr:=hr.bq r (bl w) he (mC h_);have hu:=hn.cQ (S:=fun _=>False) r.bm (mN h_);clear r;obtain⟨s9_0,s9_1,s9_2,s9_3,rfl⟩:=hu.shape;conv=>whnf
  refine cE hw (Φ:=fun _ w' v w2=>cU w2 (Nw (fun _=>False) w' w2) v (B*((n:Nat):Int))) (fun ρ w' r=>gH (Rel.old r (bl w)) ((hbb.rel r (bl w)).l (k:=1000001) (by omega)) ((hu.rel r (bl w)).l (k:=1000001) (by omega)) (by omega) (by omega)) ?_;rintro ρ wa10 v10 wb10 iv10 r he hw h_ hn;replace hx:=hx.bq r hS he (mC h_);replace hy:=hy.bq r hS he (mC h_);replace hca:=hca.bq r (bl w) he (mC h_);replace hbb:=hbb.bq r (bl w) he (mC h_);replace hr:=hr.bq r (bl w) he (mC h_);clear hu;have hp2:=hn.cQ (S:=fun _=>False) r.bm (mN h_);clear r;obtain⟨s10_0,s10_1,s10_2,s10_3,rfl⟩:=hp2.shape;conv=>whnf
  refine cE hw (Φ:=fun _ w' v w2=>cU w2 (Nw (fun _=>False) w' w2) v (R2-B*((n:Nat):Int))) (fun ρ w' r=>yj (Rel.old r (bl w)) ((hr.rel r (bl w)).l (k:=1000002) (by omega)) ((hp2.rel r (bl w)).l (k:=1000002) (by omega)) (by omega) (by omega)) ?_;rintro ρ wa11 v11 wb11 iv11 r he hw h_ hn;replace hx:=hx.bq r hS he (mC h_);replace hy:=hy.bq r hS he (mC h_);replace hca:=hca.bq r (bl w) he (mC h_);replace hbb:=hbb.bq r (bl w) he (mC h_);clear hr;clear hp2;have hr3:=hn.cQ (S:=fun _=>False) r.bm (mN h_);clear r;obtain⟨s11_0,s11_1,s11_2,s11_3,rfl⟩:=hr3.shape;conv=>whnf
  generalize hR3:R2-B*((n:Nat):Int)=R3 at*
  refine .inl ?_;conv=>whnf
  refine⟨by rw[aK,aR],fun u hu=>by obtain⟨_,_,rfl⟩:=aS.1 hu;rfl,?_⟩;conv=>whnf
  refine⟨rfl,by omega,by unfold maxLen;omega,?_⟩;conv=>whnf
  refine⟨(i:Int)-1,by rw[wrap64]<;>omega,?_⟩;conv=>whnf
  intro ρ3 w3 r3;have hv2:cX (ca.drop i)=B*cX (((n:Nat):Int)::Q)+R3:=by
   rw[z7 hd1,cX];exact CJ hv (by rw[<-hR3,<-hR2];omega)
  exact⟨(i,((n:Nat):Int)::Q,R3,(s11_0,s11_1,s11_2,s11_3),w3,_),⟨by dsimp only;omega,by dsimp only;rw[List.length_cons];omega,fun c hc=>by
    rcases List.mem_cons.1 hc with rfl|hc
    ·omega
    ·exact hd c hc,hv2,by dsimp only;omega,by dsimp only;omega,hw.tr r3.bs,hx.rel r3 hS,hy.rel r3 hS,hca.rel r3 (bl w),hbb.rel r3 (bl w),hr3.rel r3 (bl w)⟩,
   Sub.gen [(6,8)] r3 ⟨rfl,rfl,rfl,rfl,rfl,rfl,rfl,trivial⟩ ⟨rfl,rfl,rfl,rfl,rfl,rfl,rfl,by dsimp only;rw[show (((n:Nat):Int)::Q).length=1+Q.length by rw[List.length_cons,Nat.add_comm]];rfl,rfl,rfl,trivial⟩ (by simp[cY,cN.scopd,At.sc]) (by simp[cO,SV.sc,At.sc]) (by rfl) (fun lo hi h=>h),by dsimp only;omega⟩
 obtain rfl:j=0:=by have:¬(j:Int)-1≥0:=aF hib;omega
 rw[List.drop_zero,bca.1]at hv;rw[<-hB]at hv hR1;have key:=DH hy0 hv hR0 hR1;rw[hB]at key hv hR1;have lq:ln (cX Q).natAbs<=k+1:=by
  have h1:=Gs hd;have h2:1*cX Q<=B*cX Q:=Int.mul_le_mul_of_nonneg_right (by omega) h1;exact bH (fJ (b:=x.natAbs) (by omega)) (by omega)
 have lR:ln R.natAbs<=l:=bH (fJ (by omega)) lB;have sx:=ee x;have sy:=ee y;have sr:=ee R;clear hca;conv=>whnf
 refine bp (cE hw (Φ:=fun _ w' v w2=>cU w2 (Nw (fun _=>False) w' w2) v (cX Q)) (fun ρ w' r=>kF r rfl rfl (by omega) (fun c hc=>by have:=hd c hc;omega) rfl) ?_);rintro ρ wa5 v5 wb5 iv5 r he hw h_ hn;replace hx:=hx.bq r hS he (mC h_);replace hy:=hy.bq r hS he (mC h_);replace hbb:=hbb.bq r (bl w) he (mC h_);replace hr:=hr.bq r (bl w) he (mC h_);have hq:=hn.cQ (S:=fun _=>False) r.bm (mN h_);clear r;obtain⟨s5_0,s5_1,s5_2,s5_3,rfl⟩:=hq.shape;conv=>whnf
 refine bp (cE hw (Φ:=fun _ w' v w2=>v= .int .i64 x.sign) (fun ρ w' r=>fE (Rel.old r hS) (hx.rel r hS).r) ?_);rintro ρ wa6 v6 wb6 iv6 r he hw h_ rfl;replace hx:=hx.bq r hS he (mC h_);replace hy:=hy.bq r hS he (mC h_);replace hbb:=hbb.bq r (bl w) he (mC h_);replace hr:=hr.bq r (bl w) he (mC h_);replace hq:=hq.bq r (bl w) he (mC h_);clear r;conv=>whnf
 refine cW.mk (fun hxs=>?_) (fun hxs=>?_)
 ·have hxs:=aG hxs;conv=>whnf
  refine bp (cE hw (Φ:=fun _ w' v w2=>v= .int .i64 R.sign) (fun ρ w' r=>fE (Rel.old r (bl w)) (hr.rel r (bl w)).r) ?_);rintro ρ wa7 v7 wb7 iv7 r he hw h_ rfl;replace hx:=hx.bq r hS he (mC h_);replace hy:=hy.bq r hS he (mC h_);replace hbb:=hbb.bq r (bl w) he (mC h_);replace hr:=hr.bq r (bl w) he (mC h_);replace hq:=hq.bq r (bl w) he (mC h_);clear r;conv=>whnf
  refine cW.mk (fun hrs=>?_) (fun hrs=>?_)
  ·have hrs:=aG hrs;rw[aQ (show x<0∧0<R by omega),aQ (show x<0∧0<R by omega)]at key;have m7:=fx (cX Q) 1;have m8:ln (1:Int).natAbs<=1:=by decide
   have m9:ln (B-R).natAbs<=l:=bH (fJ (by omega)) lB;conv=>whnf
   refine bw hτ dH [.x 0,.x 3,.x 4,.x 1,.x 2,.x 5,.x 6,.x 7] (by kernel_rfl) (by kernel_rfl) ?_;conv=>whnf
   refine cE hw (Φ:=fun _ w' v w2=>cU w2 (Nw (fun _=>False) w' w2) v (1)) (fun ρ w' r=>il _ w' (by omega) (by omega)) ?_;rintro ρ wa8 v8 wb8 iv8 r he hw h_ hn;replace hx:=hx.bq r hS he (mC h_);replace hy:=hy.bq r hS he (mC h_);replace hbb:=hbb.bq r (bl w) he (mC h_);replace hr:=hr.bq r (bl w) he (mC h_);replace hq:=hq.bq r (bl w) he (mC h_);have hu:=hn.cQ (S:=fun _=>False) r.bm (mN h_);clear r;obtain⟨s8_0,s8_1,s8_2,s8_3,rfl⟩:=hu.shape;conv=>whnf
   refine cE hw (Φ:=fun _ w' v w2=>cU w2 (Nw (fun _=>False) w' w2) v (cX Q+1)) (fun ρ w' r=>vZ (Rel.old r (bl w)) ((hq.rel r (bl w)).l (k:=1000003) (by omega)) ((hu.rel r (bl w)).l (k:=1000003) (by omega)) (by omega) (by omega)) ?_;rintro ρ wa9 v9 wb9 iv9 r he hw h_ hn;replace hx:=hx.bq r hS he (mC h_);replace hy:=hy.bq r hS he (mC h_);replace hbb:=hbb.bq r (bl w) he (mC h_);replace hr:=hr.bq r (bl w) he (mC h_);clear hq;clear hu;have hq2:=hn.cQ (S:=fun _=>False) r.bm (mN h_);clear r;obtain⟨s9_0,s9_1,s9_2,s9_3,rfl⟩:=hq2.shape;conv=>whnf
   refine cE hw (Φ:=fun _ w' v w2=>cU w2 (Nw (fun _=>False) w' w2) v (B-R)) (fun ρ w' r=>yj (Rel.old r (bl w)) ((hbb.rel r (bl w)).l (k:=1000003) (by omega)) ((hr.rel r (bl w)).l (k:=1000003) (by omega)) (by omega) (by omega)) ?_;rintro ρ wa10 v10 wb10 iv10 r he hw h_ hn;replace hx:=hx.bq r hS he (mC h_);replace hy:=hy.bq r hS he (mC h_);clear hbb;clear hr;replace hq2:=hq2.bq r (bl w) he (mC h_);have hr2:=hn.cQ (S:=fun _=>False) r.bm (mN h_);clear r;obtain⟨s10_0,s10_1,s10_2,s10_3,rfl⟩:=hr2.shape;conv=>whnf
   refine bw hτ dH [.x 0,.x 3,.x 1,.x 2,.x 4,.x 5,.x 6] (by kernel_rfl) (by kernel_rfl) ?_;conv=>whnf
   refine cE hw (Φ:=fun _ w' v w2=>v= .int .i64 x.sign) (fun ρ w' r=>fE (Rel.old r hS) (hx.rel r hS).r) ?_;rintro ρ wa11 v11 wb11 iv11 r he hw h_ rfl;clear hx;replace hy:=hy.bq r hS he (mC h_);replace hq2:=hq2.bq r (bl w) he (mC h_);replace hr2:=hr2.bq r (bl w) he (mC h_);clear r;conv=>whnf
   refine cE hw (Φ:=fun _ w' v w2=>v= .int .i64 y.sign) (fun ρ w' r=>fE (Rel.old r hS) (hy.rel r hS).r) ?_;rintro ρ wa12 v12 wb12 iv12 r he hw h_ rfl;clear hy;replace hq2:=hq2.bq r (bl w) he (mC h_);replace hr2:=hr2.bq r (bl w) he (mC h_);clear r;conv=>whnf
   refine cW.mk (fun hne=>?_) (fun hne=>?_)
   ·have hn:¬((x<0)↔(y<0)):=fun e=>by
     have e2:decide (x.sign<0)=decide (y.sign<0):=decide_eq_decide.2 (by omega);rw[e2]at hne;simp at hne
    rw[aL hn]at key;conv=>whnf
    refine bp (cE hw (Φ:=fun _ w' v w2=>cU w2 (Nw (fun _=>False) w' w2) v (-(cX Q+1))) (fun ρ w' r=>j4 (Rel.old r (bl w)) ((hq2.rel r (bl w)).l (k:=1000003) (by omega)) (by omega)) ?_);rintro ρ wa13 v13 wb13 iv13 r he hw h_ hn;clear hq2;replace hr2:=hr2.bq r (bl w) he (mC h_);have hq3:=hn.cQ (S:=fun _=>False) r.bm (mN h_);clear r hn;obtain⟨s13_0,s13_1,s13_2,s13_3,rfl⟩:=hq3.shape;conv=>whnf
    refine fq hτ dH (.two 0 (.two 1 (.one 2 (.one 3 (.one 4 .nil))) 2 (.one 1 (.one 3 (.one 4 .nil)))) 1 (.one 0 (.one 2 (.one 3 (.one 4 .nil))))) (by kernel_rfl) ?_;conv=>whnf
    refine⟨?_,?_⟩
    ·conv=>whnf
     refine⟨?_,?_⟩
     ·conv=>whnf
      intro ρe we re;exact⟨_,rfl,hw.tr re.bs,.inr ⟨hy0,_,_,rfl,key.1▸hq3.out re (bl w),key.2▸hr2.out re (bl w)⟩⟩
     ·conv=>whnf
      intro ρe we re;exact⟨_,rfl,hw.tr re.bs,.inr ⟨hy0,_,_,rfl,key.1▸hq3.out re (bl w),key.2▸hr2.out re (bl w)⟩⟩
    ·conv=>whnf
     intro ρe we re;exact⟨_,rfl,hw.tr re.bs,.inr ⟨hy0,_,_,rfl,key.1▸hq3.out re (bl w),key.2▸hr2.out re (bl w)⟩⟩
   have hn:(x<0)↔(y<0):=by
    have e2:decide (x.sign<0)=decide (y.sign<0):=by simpa using hne
    have:=decide_eq_decide.1 e2;omega
   rw[aQ hn]at key;conv=>whnf
   refine fq hτ dH (.two 0 (.two 1 (.one 2 (.one 3 (.one 4 .nil))) 2 (.one 1 (.one 3 (.one 4 .nil)))) 1 (.one 0 (.one 2 (.one 3 (.one 4 .nil))))) (by kernel_rfl) ?_;conv=>whnf
   refine⟨?_,?_⟩
   ·conv=>whnf
    refine⟨?_,?_⟩
    ·conv=>whnf
     intro ρe we re;exact⟨_,rfl,hw.tr re.bs,.inr ⟨hy0,_,_,rfl,key.1▸hq2.out re (bl w),key.2▸hr2.out re (bl w)⟩⟩
    ·conv=>whnf
     intro ρe we re;exact⟨_,rfl,hw.tr re.bs,.inr ⟨hy0,_,_,rfl,key.1▸hq2.out re (bl w),key.2▸hr2.out re (bl w)⟩⟩
   ·conv=>whnf
    intro ρe we re;exact⟨_,rfl,hw.tr re.bs,.inr ⟨hy0,_,_,rfl,key.1▸hq2.out re (bl w),key.2▸hr2.out re (bl w)⟩⟩
  have hrs:=aF hrs;rw[aL (show ¬(x<0∧0<R) by omega),aL (show ¬(x<0∧0<R) by omega)]at key;conv=>whnf
  refine bw hτ dH [.x 0,.x 3,.x 1,.x 2,.x 4,.x 5,.x 6] (by kernel_rfl) (by kernel_rfl) ?_;conv=>whnf
  refine cE hw (Φ:=fun _ w' v w2=>v= .int .i64 x.sign) (fun ρ w' r=>fE (Rel.old r hS) (hx.rel r hS).r) ?_;rintro ρ wa8 v8 wb8 iv8 r he hw h_ rfl;clear hx;replace hy:=hy.bq r hS he (mC h_);replace hbb:=hbb.bq r (bl w) he (mC h_);replace hr:=hr.bq r (bl w) he (mC h_);replace hq:=hq.bq r (bl w) he (mC h_);clear r;conv=>whnf
  refine cE hw (Φ:=fun _ w' v w2=>v= .int .i64 y.sign) (fun ρ w' r=>fE (Rel.old r hS) (hy.rel r hS).r) ?_;rintro ρ wa9 v9 wb9 iv9 r he hw h_ rfl;clear hy;replace hbb:=hbb.bq r (bl w) he (mC h_);replace hr:=hr.bq r (bl w) he (mC h_);replace hq:=hq.bq r (bl w) he (mC h_);clear r;conv=>whnf
  refine cW.mk (fun hne=>?_) (fun hne=>?_)
  ·have hn:¬((x<0)↔(y<0)):=fun e=>by
    have e2:decide (x.sign<0)=decide (y.sign<0):=decide_eq_decide.2 (by omega);rw[e2]at hne;simp at hne
   rw[aL hn]at key;conv=>whnf
   refine bp (cE hw (Φ:=fun _ w' v w2=>cU w2 (Nw (fun _=>False) w' w2) v (-(cX Q))) (fun ρ w' r=>j4 (Rel.old r (bl w)) ((hq.rel r (bl w)).l (k:=1000003) (by omega)) (by omega)) ?_);rintro ρ wa10 v10 wb10 iv10 r he hw h_ hn;replace hbb:=hbb.bq r (bl w) he (mC h_);replace hr:=hr.bq r (bl w) he (mC h_);clear hq;have hq3:=hn.cQ (S:=fun _=>False) r.bm (mN h_);clear r hn;obtain⟨s10_0,s10_1,s10_2,s10_3,rfl⟩:=hq3.shape;conv=>whnf
   refine fq hτ dH (.two 0 (.two 1 (.one 2 (.one 3 (.one 4 .nil))) 2 (.one 1 (.one 3 (.one 4 .nil)))) 1 (.one 0 (.one 2 (.one 3 (.one 4 .nil))))) (by kernel_rfl) ?_;conv=>whnf
   refine⟨?_,?_⟩
   ·conv=>whnf
    refine⟨?_,?_⟩
    ·conv=>whnf
     intro ρe we re;exact⟨_,rfl,hw.tr re.bs,.inr ⟨hy0,_,_,rfl,key.1▸hq3.out re (bl w),key.2▸hr.out re (bl w)⟩⟩
    ·conv=>whnf
     intro ρe we re;exact⟨_,rfl,hw.tr re.bs,.inr ⟨hy0,_,_,rfl,key.1▸hq3.out re (bl w),key.2▸hr.out re (bl w)⟩⟩
   ·conv=>whnf
    intro ρe we re;exact⟨_,rfl,hw.tr re.bs,.inr ⟨hy0,_,_,rfl,key.1▸hq3.out re (bl w),key.2▸hr.out re (bl w)⟩⟩
  have hn:(x<0)↔(y<0):=by
   have e2:decide (x.sign<0)=decide (y.sign<0):=by simpa using hne
   have:=decide_eq_decide.1 e2;omega
  rw[aQ hn]at key;conv=>whnf
  refine fq hτ dH (.two 0 (.two 1 (.one 2 (.one 3 (.one 4 .nil))) 2 (.one 1 (.one 3 (.one 4 .nil)))) 1 (.one 0 (.one 2 (.one 3 (.one 4 .nil))))) (by kernel_rfl) ?_;conv=>whnf
  refine⟨?_,?_⟩
  ·conv=>whnf
   refine⟨?_,?_⟩
   ·conv=>whnf
    intro ρe we re;exact⟨_,rfl,hw.tr re.bs,.inr ⟨hy0,_,_,rfl,key.1▸hq.out re (bl w),key.2▸hr.out re (bl w)⟩⟩
   ·conv=>whnf
    intro ρe we re;exact⟨_,rfl,hw.tr re.bs,.inr ⟨hy0,_,_,rfl,key.1▸hq.out re (bl w),key.2▸hr.out re (bl w)⟩⟩
  ·conv=>whnf
   intro ρe we re;exact⟨_,rfl,hw.tr re.bs,.inr ⟨hy0,_,_,rfl,key.1▸hq.out re (bl w),key.2▸hr.out re (bl w)⟩⟩
 have hxs:=aF hxs;rw[aL (show ¬(x<0∧0<R) by omega),aL (show ¬(x<0∧0<R) by omega)]at key;conv=>whnf
 refine bw hτ dH [.x 0,.x 3,.x 1,.x 2,.x 4,.x 5,.x 6] (by kernel_rfl) (by kernel_rfl) ?_;conv=>whnf
 refine cE hw (Φ:=fun _ w' v w2=>v= .int .i64 x.sign) (fun ρ w' r=>fE (Rel.old r hS) (hx.rel r hS).r) ?_;rintro ρ wa7 v7 wb7 iv7 r he hw h_ rfl;clear hx;replace hy:=hy.bq r hS he (mC h_);replace hbb:=hbb.bq r (bl w) he (mC h_);replace hr:=hr.bq r (bl w) he (mC h_);replace hq:=hq.bq r (bl w) he (mC h_);clear r;conv=>whnf
 refine cE hw (Φ:=fun _ w' v w2=>v= .int .i64 y.sign) (fun ρ w' r=>fE (Rel.old r hS) (hy.rel r hS).r) ?_;rintro ρ wa8 v8 wb8 iv8 r he hw h_ rfl;clear hy;replace hbb:=hbb.bq r (bl w) he (mC h_);replace hr:=hr.bq r (bl w) he (mC h_);replace hq:=hq.bq r (bl w) he (mC h_);clear r;conv=>whnf
 refine cW.mk (fun hne=>?_) (fun hne=>?_)
 ·have hn:¬((x<0)↔(y<0)):=fun e=>by
   have e2:decide (x.sign<0)=decide (y.sign<0):=decide_eq_decide.2 (by omega);rw[e2]at hne;simp at hne
  rw[aL hn]at key;conv=>whnf
  refine bp (cE hw (Φ:=fun _ w' v w2=>cU w2 (Nw (fun _=>False) w' w2) v (-(cX Q))) (fun ρ w' r=>j4 (Rel.old r (bl w)) ((hq.rel r (bl w)).l (k:=1000003) (by omega)) (by omega)) ?_);rintro ρ wa9 v9 wb9 iv9 r he hw h_ hn;replace hbb:=hbb.bq r (bl w) he (mC h_);replace hr:=hr.bq r (bl w) he (mC h_);clear hq;have hq3:=hn.cQ (S:=fun _=>False) r.bm (mN h_);clear r hn;obtain⟨s9_0,s9_1,s9_2,s9_3,rfl⟩:=hq3.shape;conv=>whnf
  refine fq hτ dH (.two 0 (.two 1 (.one 2 (.one 3 (.one 4 .nil))) 2 (.one 1 (.one 3 (.one 4 .nil)))) 1 (.one 0 (.one 2 (.one 3 (.one 4 .nil))))) (by kernel_rfl) ?_;conv=>whnf
  refine⟨?_,?_⟩
  ·conv=>whnf
   refine⟨?_,?_⟩
   ·conv=>whnf
    intro ρe we re;exact⟨_,rfl,hw.tr re.bs,.inr ⟨hy0,_,_,rfl,key.1▸hq3.out re (bl w),key.2▸hr.out re (bl w)⟩⟩
   ·conv=>whnf
    intro ρe we re;exact⟨_,rfl,hw.tr re.bs,.inr ⟨hy0,_,_,rfl,key.1▸hq3.out re (bl w),key.2▸hr.out re (bl w)⟩⟩
  ·conv=>whnf
   intro ρe we re;exact⟨_,rfl,hw.tr re.bs,.inr ⟨hy0,_,_,rfl,key.1▸hq3.out re (bl w),key.2▸hr.out re (bl w)⟩⟩
 have hn:(x<0)↔(y<0):=by
  have e2:decide (x.sign<0)=decide (y.sign<0):=by simpa using hne
  have:=decide_eq_decide.1 e2;omega
 rw[aQ hn]at key;conv=>whnf
 refine fq hτ dH (.two 0 (.two 1 (.one 2 (.one 3 (.one 4 .nil))) 2 (.one 1 (.one 3 (.one 4 .nil)))) 1 (.one 0 (.one 2 (.one 3 (.one 4 .nil))))) (by kernel_rfl) ?_;conv=>whnf
 refine⟨?_,?_⟩
 ·conv=>whnf
  refine⟨?_,?_⟩
  ·conv=>whnf
   intro ρe we re;exact⟨_,rfl,hw.tr re.bs,.inr ⟨hy0,_,_,rfl,key.1▸hq.out re (bl w),key.2▸hr.out re (bl w)⟩⟩
  ·conv=>whnf
   intro ρe we re;exact⟨_,rfl,hw.tr re.bs,.inr ⟨hy0,_,_,rfl,key.1▸hq.out re (bl w),key.2▸hr.out re (bl w)⟩⟩
 ·conv=>whnf
  intro ρe we re;exact⟨_,rfl,hw.tr re.bs,.inr ⟨hy0,_,_,rfl,key.1▸hq.out re (bl w),key.2▸hr.out re (bl w)⟩⟩
theorem gI{S:Nat->Prop}{w:World}{v u:Value}{k l:Nat}{x y:Int}(hS:Old S w)(hx:eN w S v k x)(hy:eN w S u l y)(hk:k<=1000000)(hl:l<=1000000)(h0:y≠0):
  dQ PG N.lC #[v,u] w (dU w fun v' w2=>∃q r,v'= .tuple #[q,r,.int .i64 0]∧cU w2 (Nw (fun _=>False) w w2) q (x / y)∧cU w2 (Nw (fun _=>False) w w2) r (x % y)):=
 (Cj hS hx hy hk hl).mono fun _ _ ⟨v2,e1,e2,e3⟩=>⟨v2,e1,e2,e3.elim (fun h=>absurd h.1 h0) fun h=>h.2⟩
theorem Fy(x:Nat){y:Nat}(h:y≠0):ln (Nat.gcd x y)<=ln y:=fJ (Nat.le_of_dvd (by omega) (Nat.gcd_dvd_right x y))
theorem BP{a b:Int}(hb:b≠0):a / (b.sign*(Nat.gcd a.natAbs b.natAbs:Nat))=(Rat.divInt a b).num∧b / (b.sign*(Nat.gcd a.natAbs b.natAbs:Nat))=((Rat.divInt a b).den:Int):=by
 obtain⟨h1,h2⟩:=xd (a:=a) hb;have d1:((Nat.gcd a.natAbs b.natAbs:Nat):Int) ∣ a:=Int.ofNat_dvd_left.2 (Nat.gcd_dvd_left _ _);have d2:((Nat.gcd a.natAbs b.natAbs:Nat):Int) ∣ b:=Int.ofNat_dvd_left.2 (Nat.gcd_dvd_right _ _);have sg:b.sign=1∨b.sign= -1:=by rcases ee b with h|h|h<;>omega
 have key:∀c:Int,((Nat.gcd a.natAbs b.natAbs:Nat):Int) ∣ c->b.sign*(Nat.gcd a.natAbs b.natAbs:Nat) ∣ c:=fun c hc=>by
  rcases sg with h|h<;>rw[h]
  ·rw[Int.one_mul];exact hc
  ·rw[Int.neg_one_mul];exact Int.neg_dvd.2 hc
 rw[<-h1,<-h2,Int.tdiv_eq_ediv_of_dvd (key a d1),Int.tdiv_eq_ediv_of_dvd (key b d2)];exact⟨rfl,rfl⟩
theorem xg{S:Nat->Prop}{w:World}{v u:Value}{k l:Nat}{x y:Int}(hS:Old S w)(hx:eN w S v k x)(hy:eN w S u l y)(hk:k<=1000000)(hl:l<=1000000):
  dQ PG N.pt #[v,u] w (dU w fun v' w2=>cU w2 (Nw (fun _=>False) w w2) v' ((Nat.gcd x.natAbs y.natAbs:Nat):Int)):=by
 have hw:cF w.heap.size w w:=cF.refl;replace hx:=hx.bz (S':=Cv S w.heap.size []) fun _ h=>.inl h;replace hy:=hy.bz (S':=Cv S w.heap.size []) fun _ h=>.inl h;obtain⟨b1,a1,n1,c1,rfl⟩:=hx.shape;obtain⟨b2,a2,n2,c2,rfl⟩:=hy.shape;refine so (by simp) ?_;conv=>whnf
 have hlx:=hx.ln;have hly:=hy.ln;refine bw hτ dH [.x 0,.x 2,.x 1,.x 3,.x 4,.x 5] (by kernel_rfl) (by kernel_rfl) ?_;conv=>whnf
 refine cE hw (Φ:=fun _ w' v w2=>cU w2 (Nw (fun _=>False) w' w2) v ((x.natAbs:Int))) (fun ρ w' r=>te (Rel.old r hS) (hx.rel r hS) (by omega)) ?_;rintro ρ wa1 v1 wb1 iv1 r he hw h_ hn;clear hx;replace hy:=hy.bq r hS he (mC h_);have ha:=hn.cQ (S:=fun _=>False) r.bm (mN h_);clear r;obtain⟨s1_0,s1_1,s1_2,s1_3,rfl⟩:=ha.shape;conv=>whnf
 refine cE hw (Φ:=fun _ w' v w2=>cU w2 (Nw (fun _=>False) w' w2) v ((y.natAbs:Int))) (fun ρ w' r=>te (Rel.old r hS) (hy.rel r hS) (by omega)) ?_;rintro ρ wa2 v2 wb2 iv2 r he hw h_ hn;clear hy;replace ha:=ha.bq r (bl w) he (mC h_);have hc:=hn.cQ (S:=fun _=>False) r.bm (mN h_);clear r;obtain⟨s2_0,s2_1,s2_2,s2_3,rfl⟩:=hc.shape;conv=>whnf
 refine⟨Nat×Nat×(Bool×Option Addr×Nat×Nat)×(Bool×Option Addr×Nat×Nat)×World×Iv,fun z=>⟨[(2,.o (.p 0 0)),(3,.o (.p 1 0)),(4,.o (.p 2 0))],[(2,.box T.Int [.v (.bool false),.v (.slice none 0 0)]),(1,.box T.Int [.v (.bool z.2.2.2.1.1),.v (.slice z.2.2.2.1.2.1 z.2.2.2.1.2.2.1 z.2.2.2.1.2.2.2)]),(0,.box T.Int [.v (.bool z.2.2.1.1),.v (.slice z.2.2.1.2.1 z.2.2.1.2.2.1 z.2.2.1.2.2.2)])],3,z.2.2.2.2.2,z.2.2.2.2.1⟩,fun z=>z.2.1,
  fun z=>Nat.gcd z.1 z.2.1=Nat.gcd x.natAbs y.natAbs∧ln z.1<=1000000∧ln z.2.1<=1000000∧cF w.heap.size w z.2.2.2.2.1∧cU z.2.2.2.2.1 (Cv (fun _=>False) w.heap.size z.2.2.2.2.2) (.agg #[.bool z.2.2.1.1,.slice z.2.2.1.2.1 z.2.2.1.2.2.1 z.2.2.1.2.2.2]) (z.1:Int)∧cU z.2.2.2.2.1 (Cv (fun _=>False) w.heap.size z.2.2.2.2.2) (.agg #[.bool z.2.2.2.1.1,.slice z.2.2.2.1.2.1 z.2.2.2.1.2.2.1 z.2.2.2.1.2.2.2]) (z.2.1:Int),?_,?_⟩
 ·intro ρ w' r
  exact⟨(x.natAbs,y.natAbs,(s1_0,s1_1,s1_2,s1_3),(s2_0,s2_1,s2_2,s2_3),w',iv2),⟨rfl,by dsimp only;omega,by dsimp only;omega,hw.tr r.bs,ha.rel r (bl w),hc.rel r (bl w)⟩,
   Sub.gen [] r ⟨rfl,rfl,rfl,trivial⟩ ⟨rfl,rfl,rfl,trivial⟩ (by simp[cY,cN.scopd,At.sc]) (by simp[cO,SV.sc,At.sc]) (by rfl) (fun lo hi h=>h)⟩
 clear hw ha hc;rintro⟨a,b,⟨ba,aa,na,ca⟩,⟨bb,ab,nb,cb⟩,w1,iv⟩ ⟨hg,hla,hlb,hw,ha,hc⟩;dsimp only at hg hla hlb hw ha hc ⊢;conv=>whnf
 refine bp (cE hw (Φ:=fun _ w' v w2=>v= .int .i64 (b:Int).sign) (fun ρ w' r=>fE (Rel.old r (bl w)) (hc.rel r (bl w)).r) ?_);rintro ρ wa3 v3 wb3 iv3 r he hw h_ rfl;replace ha:=ha.bq r (bl w) he (mC h_);replace hc:=hc.bq r (bl w) he (mC h_);clear r;conv=>whnf
 have sb:=ee (b:Int);refine cW.mk (fun h=>?_) (fun h=>?_)
 ·have h:=aG h;have hb0:0<b:=by omega
  have hm:=bc a hb0;have hlm:ln (a % b)<=1000000:=bH (fJ (by omega)) hlb;conv=>whnf
  refine bp (cE hw (Φ:=fun _ w' v w2=>∃q r,v= .tuple #[q,r,.int .i64 0]∧cU w2 (Nw (fun _=>False) w' w2) q ((a:Int) / b)∧cU w2 (Nw (fun _=>False) w' w2) r ((a:Int) % b)) (fun ρ w' r=>gI (Rel.old r (bl w)) ((ha.rel r (bl w)).l (k:=1000000) hla) ((hc.rel r (bl w)).l (k:=1000000) hlb) (by omega) (by omega) (by omega)) ?_);rintro ρ wa4 v4 wb4 iv4 r he hw h_ ⟨q,rr,rfl,k1,k2⟩;clear ha;replace hc:=hc.bq r (bl w) he (mC h_);have hq:=k1.cQ (S:=fun _=>False) r.bm (mN h_);have hr:=k2.cQ (S:=fun _=>False) r.bm (mN h_);clear r;obtain⟨s4_0a,s4_0b,s4_0c,s4_0d,rfl⟩:=hq.shape;obtain⟨s4_1a,s4_1b,s4_1c,s4_1d,rfl⟩:=hr.shape;clear k1 k2 hq;conv=>whnf
  refine fq hτ dH (.two 0 (.two 1 (.one 2 (.one 3 .nil)) 2 (.one 1 (.one 3 .nil))) 1 (.one 0 (.one 2 (.one 3 .nil)))) (by kernel_rfl) ?_;conv=>whnf
  refine⟨?_,?_⟩
  ·conv=>whnf
   refine⟨?_,?_⟩
   ·conv=>whnf
    intro ρ3 w3 r3;exact⟨(b,a % b,(bb,ab,nb,cb),(s4_1a,s4_1b,s4_1c,s4_1d),w3,_),⟨by dsimp only;rw[<-hg,Nat.gcd_comm a b,Nat.gcd_rec b a,Nat.gcd_comm],hlb,hlm,hw.tr r3.bs,hc.rel r3 (bl w),hr.rel r3 (bl w)⟩,Sub.gen [] r3 ⟨rfl,rfl,rfl,trivial⟩ ⟨rfl,rfl,rfl,trivial⟩ (by simp[cY,cN.scopd,At.sc]) (by simp[cO,SV.sc,At.sc]) (by rfl) (fun lo hi h=>h),hm⟩
   ·conv=>whnf
    intro ρ3 w3 r3;exact⟨(b,a % b,(bb,ab,nb,cb),(s4_1a,s4_1b,s4_1c,s4_1d),w3,_),⟨by dsimp only;rw[<-hg,Nat.gcd_comm a b,Nat.gcd_rec b a,Nat.gcd_comm],hlb,hlm,hw.tr r3.bs,hc.rel r3 (bl w),hr.rel r3 (bl w)⟩,Sub.gen [] r3 ⟨rfl,rfl,rfl,trivial⟩ ⟨rfl,rfl,rfl,trivial⟩ (by simp[cY,cN.scopd,At.sc]) (by simp[cO,SV.sc,At.sc]) (by rfl) (fun lo hi h=>h),hm⟩
  ·conv=>whnf
   intro ρ3 w3 r3;exact⟨(b,a % b,(bb,ab,nb,cb),(s4_1a,s4_1b,s4_1c,s4_1d),w3,_),⟨by dsimp only;rw[<-hg,Nat.gcd_comm a b,Nat.gcd_rec b a,Nat.gcd_comm],hlb,hlm,hw.tr r3.bs,hc.rel r3 (bl w),hr.rel r3 (bl w)⟩,Sub.gen [] r3 ⟨rfl,rfl,rfl,trivial⟩ ⟨rfl,rfl,rfl,trivial⟩ (by simp[cY,cN.scopd,At.sc]) (by simp[cO,SV.sc,At.sc]) (by rfl) (fun lo hi h=>h),hm⟩
 have h:=aF h;obtain rfl:b=0:=by omega
 rw[Nat.gcd_zero_right]at hg;subst hg;clear hc;conv=>whnf
 intro ρe we re;exact⟨_,rfl,hw.tr re.bs,ha.out re (bl w)⟩
theorem jD{S:Nat->Prop}{w:World}{v u:Value}{k l:Nat}{x y:Int}(hS:Old S w)(hx:eN w S v k x)(hy:eN w S u l y)(hk:k<=1000000)(hl:l<=1000000)(hy0:y≠0):
  dQ PG N.od #[v,u] w (dU w fun v' w2=>cH w2 (Nw (fun _=>False) w w2) v' (Rat.divInt x y)):=by
 have hw:cF w.heap.size w w:=cF.refl;replace hx:=hx.bz (S':=Cv S w.heap.size []) fun _ h=>.inl h;replace hy:=hy.bz (S':=Cv S w.heap.size []) fun _ h=>.inl h;obtain⟨b1,a1,n1,c1,rfl⟩:=hx.shape;obtain⟨b2,a2,n2,c2,rfl⟩:=hy.shape;refine oK (by simp) ?_;conv=>whnf
 have hlx:=hx.ln;have hly:=hy.ln;have hlg:=Fy x.natAbs (y:=y.natAbs) (by omega);obtain⟨hn,hd⟩:=BP (a:=x) hy0;have sy:=ee y
 refine bp (cE hw (Φ:=fun _ w' v w2=>∃n p,v= .tuple #[.int .i64 n,.bool p]∧(p=true->n=x∧x.natAbs<1073741824)) (fun ρ w' r=>(kh (Rel.old r hS) (hx.rel r hS).r).mono fun e w2 ⟨v2,e1,e2,e3⟩=>⟨v2,e1,e2,by
   rw[e3,gu];split
   ·exact⟨_,_,rfl,fun _=>⟨rfl,‹_›⟩⟩
   ·exact⟨_,_,rfl,fun h=>by cases h⟩⟩) ?_)
 rintro ρ wa1 v1 wb1 iv1 r he hw h_ ⟨nx,px,rfl,qx⟩;replace hx:=hx.bq r hS he (mC h_);replace hy:=hy.bq r hS he (mC h_);clear r;conv=>whnf
 refine bp (cE hw (Φ:=fun _ w' v w2=>∃n p,v= .tuple #[.int .i64 n,.bool p]∧(p=true->n=y∧y.natAbs<1073741824)) (fun ρ w' r=>(kh (Rel.old r hS) (hy.rel r hS).r).mono fun e w2 ⟨v2,e1,e2,e3⟩=>⟨v2,e1,e2,by
   rw[e3,gu];split
   ·exact⟨_,_,rfl,fun _=>⟨rfl,‹_›⟩⟩
   ·exact⟨_,_,rfl,fun h=>by cases h⟩⟩) ?_)
 rintro ρ wa2 v2 wb2 iv2 r he hw h_ ⟨ny,py,rfl,qy⟩;replace hx:=hx.bq r hS he (mC h_);replace hy:=hy.bq r hS he (mC h_);clear r;conv=>whnf
 refine cW.mk (fun h1=>?_) (fun h1=>?_)
 ·obtain⟨e1,hxs⟩:=qx h1;replace e1:=e1.symm;subst e1;conv=>whnf
  refine cW.mk (fun h2=>?_) (fun h2=>?_)
  ·obtain⟨e2,hys⟩:=qy h2;replace e2:=e2.symm;subst e2;clear hx hy;conv=>whnf
   refine bp (cE hw (Φ:=fun _ w' v w2=>cH w2 (Nw (fun _=>False) w' w2) v (Rat.divInt x y)) (fun ρ w' r=>nX x y w' (by omega) (by omega) hy0) ?_);rintro ρ wa3 v3 wb3 iv3 r he hw h_ hn;have hR:=hn.cQ (S:=fun _=>False) r.bm (mN h_);clear r hn;obtain⟨s3_0,s3_1,s3_2,s3_3,s3_4,s3_5,s3_6,s3_7,rfl⟩:=hR.shape;conv=>whnf
   intro ρe we re;exact⟨_,rfl,hw.tr re.bs,hR.out re (bl w)⟩
  conv=>whnf
  refine bp (cE hw (Φ:=fun _ w' v w2=>cU w2 (Nw (fun _=>False) w' w2) v (((Nat.gcd x.natAbs y.natAbs:Nat):Int))) (fun ρ w' r=>xg (Rel.old r hS) (hx.rel r hS) (hy.rel r hS) hk hl) ?_);rintro ρ wa3 v3 wb3 iv3 r he hw h_ hn;replace hx:=hx.bq r hS he (mC h_);replace hy:=hy.bq r hS he (mC h_);have hg:=hn.cQ (S:=fun _=>False) r.bm (mN h_);clear r hn;obtain⟨s3_0,s3_1,s3_2,s3_3,rfl⟩:=hg.shape;conv=>whnf
  refine bp (cE hw (Φ:=fun _ w' v w2=>v= .int .i64 y.sign) (fun ρ w' r=>fE (Rel.old r hS) (hy.rel r hS).r) ?_);rintro ρ wa4 v4 wb4 iv4 r he hw h_ rfl;replace hx:=hx.bq r hS he (mC h_);replace hy:=hy.bq r hS he (mC h_);replace hg:=hg.bq r (bl w) he (mC h_);clear r;conv=>whnf
  have hgp:0<Nat.gcd x.natAbs y.natAbs:=bX _ (by omega);generalize Nat.gcd x.natAbs y.natAbs=g at*
  refine cW.mk (fun hs=>?_) (fun hs=>?_)
  ·have hs:=aG hs;rw[show y.sign= -1 by omega,Int.neg_one_mul]at hn hd;conv=>whnf
   refine bp (cE hw (Φ:=fun _ w' v w2=>cU w2 (Nw (fun _=>False) w' w2) v (-(g:Int))) (fun ρ w' r=>j4 (Rel.old r (bl w)) ((hg.rel r (bl w)).l (k:=1000000) (by rw[Int.natAbs_natCast];omega)) (by omega)) ?_);rintro ρ wa5 v5 wb5 iv5 r he hw h_ hn;replace hx:=hx.bq r hS he (mC h_);replace hy:=hy.bq r hS he (mC h_);clear hg;have hg2:=hn.cQ (S:=fun _=>False) r.bm (mN h_);clear r hn;obtain⟨s5_0,s5_1,s5_2,s5_3,rfl⟩:=hg2.shape;conv=>whnf
   refine bp (cE hw (Φ:=fun _ w' v w2=>∃q r,v= .tuple #[q,r,.int .i64 0]∧cU w2 (Nw (fun _=>False) w' w2) q (Rat.divInt x y).num∧cU w2 (Nw (fun _=>False) w' w2) r (x % (-(g:Int)))) (fun ρ w' r=>hn▸gI (Rel.old r hS) (hx.rel r hS) ((((hg2.rel r (bl w)).l (k:=1000000) (by rw[bh,Int.natAbs_natCast];omega))).bz fun g hg=>Cv.false hg) hk (by omega) (by omega)) ?_);rintro ρ wa6 v6 wb6 iv6 r he hw h_ ⟨q,rr,rfl,k1,k2⟩;clear hx;replace hy:=hy.bq r hS he (mC h_);replace hg2:=hg2.bq r (bl w) he (mC h_);have hq:=k1.cQ (S:=fun _=>False) r.bm (mN h_);have hr:=k2.cQ (S:=fun _=>False) r.bm (mN h_);clear r;obtain⟨s6_0a,s6_0b,s6_0c,s6_0d,rfl⟩:=hq.shape;obtain⟨s6_1a,s6_1b,s6_1c,s6_1d,rfl⟩:=hr.shape;clear k1 k2 hr;conv=>whnf
   refine bp (cE hw (Φ:=fun _ w' v w2=>∃q r,v= .tuple #[q,r,.int .i64 0]∧cU w2 (Nw (fun _=>False) w' w2) q ((Rat.divInt x y).den:Int)∧cU w2 (Nw (fun _=>False) w' w2) r (y % (-(g:Int)))) (fun ρ w' r=>hd▸gI (Rel.old r hS) (hy.rel r hS) ((((hg2.rel r (bl w)).l (k:=1000000) (by rw[bh,Int.natAbs_natCast];omega))).bz fun g hg=>Cv.false hg) hl (by omega) (by omega)) ?_);rintro ρ wa7 v7 wb7 iv7 r he hw h_ ⟨q,rr,rfl,k1,k2⟩;clear hy;clear hg2;replace hq:=hq.bq r (bl w) he (mC h_);have hq2:=k1.cQ (S:=fun _=>False) r.bm (mN h_);have hr:=k2.cQ (S:=fun _=>False) r.bm (mN h_);clear r;obtain⟨s7_0a,s7_0b,s7_0c,s7_0d,rfl⟩:=hq2.shape;obtain⟨s7_1a,s7_1b,s7_1c,s7_1d,rfl⟩:=hr.shape;clear k1 k2 hr;conv=>whnf
   intro ρe we re;exact⟨_,rfl,hw.tr re.bs,(cH.of hq hq2).out re (bl w)⟩
  have hs:=aF hs;rw[show y.sign=1 by omega,Int.one_mul]at hn hd;conv=>whnf
  refine bp (cE hw (Φ:=fun _ w' v w2=>∃q r,v= .tuple #[q,r,.int .i64 0]∧cU w2 (Nw (fun _=>False) w' w2) q (Rat.divInt x y).num∧cU w2 (Nw (fun _=>False) w' w2) r (x % ((g:Int)))) (fun ρ w' r=>hn▸gI (Rel.old r hS) (hx.rel r hS) ((((hg.rel r (bl w)).l (k:=1000000) (by rw[Int.natAbs_natCast];omega))).bz fun g hg=>Cv.false hg) hk (by omega) (by omega)) ?_);rintro ρ wa5 v5 wb5 iv5 r he hw h_ ⟨q,rr,rfl,k1,k2⟩;clear hx;replace hy:=hy.bq r hS he (mC h_);replace hg:=hg.bq r (bl w) he (mC h_);have hq:=k1.cQ (S:=fun _=>False) r.bm (mN h_);have hr:=k2.cQ (S:=fun _=>False) r.bm (mN h_);clear r;obtain⟨s5_0a,s5_0b,s5_0c,s5_0d,rfl⟩:=hq.shape;obtain⟨s5_1a,s5_1b,s5_1c,s5_1d,rfl⟩:=hr.shape;clear k1 k2 hr;conv=>whnf
  refine bp (cE hw (Φ:=fun _ w' v w2=>∃q r,v= .tuple #[q,r,.int .i64 0]∧cU w2 (Nw (fun _=>False) w' w2) q ((Rat.divInt x y).den:Int)∧cU w2 (Nw (fun _=>False) w' w2) r (y % ((g:Int)))) (fun ρ w' r=>hd▸gI (Rel.old r hS) (hy.rel r hS) ((((hg.rel r (bl w)).l (k:=1000000) (by rw[Int.natAbs_natCast];omega))).bz fun g hg=>Cv.false hg) hl (by omega) (by omega)) ?_);rintro ρ wa6 v6 wb6 iv6 r he hw h_ ⟨q,rr,rfl,k1,k2⟩;clear hy;clear hg;replace hq:=hq.bq r (bl w) he (mC h_);have hq2:=k1.cQ (S:=fun _=>False) r.bm (mN h_);have hr:=k2.cQ (S:=fun _=>False) r.bm (mN h_);clear r;obtain⟨s6_0a,s6_0b,s6_0c,s6_0d,rfl⟩:=hq2.shape;obtain⟨s6_1a,s6_1b,s6_1c,s6_1d,rfl⟩:=hr.shape;clear k1 k2 hr;conv=>whnf
  intro ρe we re;exact⟨_,rfl,hw.tr re.bs,(cH.of hq hq2).out re (bl w)⟩
 conv=>whnf
 refine bp (cE hw (Φ:=fun _ w' v w2=>cU w2 (Nw (fun _=>False) w' w2) v (((Nat.gcd x.natAbs y.natAbs:Nat):Int))) (fun ρ w' r=>xg (Rel.old r hS) (hx.rel r hS) (hy.rel r hS) hk hl) ?_);rintro ρ wa3 v3 wb3 iv3 r he hw h_ hn;replace hx:=hx.bq r hS he (mC h_);replace hy:=hy.bq r hS he (mC h_);have hg:=hn.cQ (S:=fun _=>False) r.bm (mN h_);clear r hn;obtain⟨s3_0,s3_1,s3_2,s3_3,rfl⟩:=hg.shape;conv=>whnf
 refine bp (cE hw (Φ:=fun _ w' v w2=>v= .int .i64 y.sign) (fun ρ w' r=>fE (Rel.old r hS) (hy.rel r hS).r) ?_);rintro ρ wa4 v4 wb4 iv4 r he hw h_ rfl;replace hx:=hx.bq r hS he (mC h_);replace hy:=hy.bq r hS he (mC h_);replace hg:=hg.bq r (bl w) he (mC h_);clear r;conv=>whnf
 have hgp:0<Nat.gcd x.natAbs y.natAbs:=bX _ (by omega);generalize Nat.gcd x.natAbs y.natAbs=g at*
 refine cW.mk (fun hs=>?_) (fun hs=>?_)
 ·have hs:=aG hs;rw[show y.sign= -1 by omega,Int.neg_one_mul]at hn hd;conv=>whnf
  refine bp (cE hw (Φ:=fun _ w' v w2=>cU w2 (Nw (fun _=>False) w' w2) v (-(g:Int))) (fun ρ w' r=>j4 (Rel.old r (bl w)) ((hg.rel r (bl w)).l (k:=1000000) (by rw[Int.natAbs_natCast];omega)) (by omega)) ?_);rintro ρ wa5 v5 wb5 iv5 r he hw h_ hn;replace hx:=hx.bq r hS he (mC h_);replace hy:=hy.bq r hS he (mC h_);clear hg;have hg2:=hn.cQ (S:=fun _=>False) r.bm (mN h_);clear r hn;obtain⟨s5_0,s5_1,s5_2,s5_3,rfl⟩:=hg2.shape;conv=>whnf
  refine bp (cE hw (Φ:=fun _ w' v w2=>∃q r,v= .tuple #[q,r,.int .i64 0]∧cU w2 (Nw (fun _=>False) w' w2) q (Rat.divInt x y).num∧cU w2 (Nw (fun _=>False) w' w2) r (x % (-(g:Int)))) (fun ρ w' r=>hn▸gI (Rel.old r hS) (hx.rel r hS) ((((hg2.rel r (bl w)).l (k:=1000000) (by rw[bh,Int.natAbs_natCast];omega))).bz fun g hg=>Cv.false hg) hk (by omega) (by omega)) ?_);rintro ρ wa6 v6 wb6 iv6 r he hw h_ ⟨q,rr,rfl,k1,k2⟩;clear hx;replace hy:=hy.bq r hS he (mC h_);replace hg2:=hg2.bq r (bl w) he (mC h_);have hq:=k1.cQ (S:=fun _=>False) r.bm (mN h_);have hr:=k2.cQ (S:=fun _=>False) r.bm (mN h_);clear r;obtain⟨s6_0a,s6_0b,s6_0c,s6_0d,rfl⟩:=hq.shape;obtain⟨s6_1a,s6_1b,s6_1c,s6_1d,rfl⟩:=hr.shape;clear k1 k2 hr;conv=>whnf
  refine bp (cE hw (Φ:=fun _ w' v w2=>∃q r,v= .tuple #[q,r,.int .i64 0]∧cU w2 (Nw (fun _=>False) w' w2) q ((Rat.divInt x y).den:Int)∧cU w2 (Nw (fun _=>False) w' w2) r (y % (-(g:Int)))) (fun ρ w' r=>hd▸gI (Rel.old r hS) (hy.rel r hS) ((((hg2.rel r (bl w)).l (k:=1000000) (by rw[bh,Int.natAbs_natCast];omega))).bz fun g hg=>Cv.false hg) hl (by omega) (by omega)) ?_);rintro ρ wa7 v7 wb7 iv7 r he hw h_ ⟨q,rr,rfl,k1,k2⟩;clear hy;clear hg2;replace hq:=hq.bq r (bl w) he (mC h_);have hq2:=k1.cQ (S:=fun _=>False) r.bm (mN h_);have hr:=k2.cQ (S:=fun _=>False) r.bm (mN h_);clear r;obtain⟨s7_0a,s7_0b,s7_0c,s7_0d,rfl⟩:=hq2.shape;obtain⟨s7_1a,s7_1b,s7_1c,s7_1d,rfl⟩:=hr.shape;clear k1 k2 hr;conv=>whnf
  intro ρe we re;exact⟨_,rfl,hw.tr re.bs,(cH.of hq hq2).out re (bl w)⟩
 have hs:=aF hs;rw[show y.sign=1 by omega,Int.one_mul]at hn hd;conv=>whnf
 refine bp (cE hw (Φ:=fun _ w' v w2=>∃q r,v= .tuple #[q,r,.int .i64 0]∧cU w2 (Nw (fun _=>False) w' w2) q (Rat.divInt x y).num∧cU w2 (Nw (fun _=>False) w' w2) r (x % ((g:Int)))) (fun ρ w' r=>hn▸gI (Rel.old r hS) (hx.rel r hS) ((((hg.rel r (bl w)).l (k:=1000000) (by rw[Int.natAbs_natCast];omega))).bz fun g hg=>Cv.false hg) hk (by omega) (by omega)) ?_);rintro ρ wa5 v5 wb5 iv5 r he hw h_ ⟨q,rr,rfl,k1,k2⟩;clear hx;replace hy:=hy.bq r hS he (mC h_);replace hg:=hg.bq r (bl w) he (mC h_);have hq:=k1.cQ (S:=fun _=>False) r.bm (mN h_);have hr:=k2.cQ (S:=fun _=>False) r.bm (mN h_);clear r;obtain⟨s5_0a,s5_0b,s5_0c,s5_0d,rfl⟩:=hq.shape;obtain⟨s5_1a,s5_1b,s5_1c,s5_1d,rfl⟩:=hr.shape;clear k1 k2 hr;conv=>whnf
 refine bp (cE hw (Φ:=fun _ w' v w2=>∃q r,v= .tuple #[q,r,.int .i64 0]∧cU w2 (Nw (fun _=>False) w' w2) q ((Rat.divInt x y).den:Int)∧cU w2 (Nw (fun _=>False) w' w2) r (y % ((g:Int)))) (fun ρ w' r=>hd▸gI (Rel.old r hS) (hy.rel r hS) ((((hg.rel r (bl w)).l (k:=1000000) (by rw[Int.natAbs_natCast];omega))).bz fun g hg=>Cv.false hg) hl (by omega) (by omega)) ?_);rintro ρ wa6 v6 wb6 iv6 r he hw h_ ⟨q,rr,rfl,k1,k2⟩;clear hy;clear hg;replace hq:=hq.bq r (bl w) he (mC h_);have hq2:=k1.cQ (S:=fun _=>False) r.bm (mN h_);have hr:=k2.cQ (S:=fun _=>False) r.bm (mN h_);clear r;obtain⟨s6_0a,s6_0b,s6_0c,s6_0d,rfl⟩:=hq2.shape;obtain⟨s6_1a,s6_1b,s6_1c,s6_1d,rfl⟩:=hr.shape;clear k1 k2 hr;conv=>whnf
 intro ρe we re;exact⟨_,rfl,hw.tr re.bs,(cH.of hq hq2).out re (bl w)⟩
def dc(w:World)(S:Nat->Prop)(v:Value)(q:Rat):Prop:=∃b1 l1 b2 l2 a b,v= .agg #[.bool b1,l1,.bool b2,l2]∧eN w S (.agg #[.bool b1,l1]) 100000 a∧eN w S (.agg #[.bool b2,l2]) 100000 b∧ratio a b=q
theorem dc.bu{S:Nat->Prop}{w w2:World}{v:Value}{q:Rat}(h:dc w S v q)(hk:∀g,S g->w2.heap[g]? =w.heap[g]?):dc w2 S v q:=by
 obtain⟨b1,l1,b2,l2,a,b,h1,h2,h3,h4⟩:=h;exact⟨b1,l1,b2,l2,a,b,h1,h2.bu hk,h3.bu hk,h4⟩
theorem dc.bz{S S':Nat->Prop}{w:World}{v:Value}{q:Rat}(h:dc w S v q)(hk:∀g,S g->S' g):dc w S' v q:=by
 obtain⟨b1,l1,b2,l2,a,b,h1,h2,h3,h4⟩:=h;exact⟨b1,l1,b2,l2,a,b,h1,h2.bz hk,h3.bz hk,h4⟩
theorem dc.r{S:Nat->Prop}{w:World}{v:Value}{q:Rat}(h:dc w S v q):∃a b,fb w S v a b∧ratio a b=q:=by
 obtain⟨b1,l1,b2,l2,a,b,rfl,h2,h3,h4⟩:=h;exact⟨a,b,⟨b1,l1,b2,l2,rfl,h2.r,h3.r⟩,h4⟩
theorem dc.v{S:Nat->Prop}{w:World}{v:Value}{q:Rat}(h:dc w S v q):nF w S v q:=by
 obtain⟨b1,l1,b2,l2,a,b,rfl,h2,h3,h4⟩:=h;exact⟨a,b,⟨b1,l1,b2,l2,rfl,h2.r,h3.r⟩,h4,h2.ln,h3.ln⟩
theorem dc.shape{S:Nat->Prop}{w:World}{v:Value}{q:Rat}(h:dc w S v q):∃b a n c b2 a2 n2 c2,v= .agg #[.bool b,.slice a n c,.bool b2,.slice a2 n2 c2]:=h.v.shape
theorem dc.rl{S:Nat->Prop}{w:World}{v:Value}{q:Rat}(h:dc w S v q):rl q<=100000:=by
 obtain⟨b1,l1,b2,l2,a,b,rfl,h2,h3,rfl⟩:=h;have:=fY a b;have:=h2.ln;have:=h3.ln;omega
theorem cH.l{S:Nat->Prop}{w:World}{v:Value}{q:Rat}(h:cH w S v q)(hl:rl q<=100000):dc w S v q:=by
 obtain⟨b1,l1,b2,l2,h1,h2,h3⟩:=h;exact⟨b1,l1,b2,l2,_,_,h1,h2.l (bH (eo q) hl),h3.l (bH (eF q) hl),pE q⟩
theorem EM(a b:Int):rs (ratio a b)=if b.sign<0 then -a.sign else a.sign:=by
 have sb:=ee b;rw[ratio];split
 ·rw[aL (by omega),rs,pZ (by decide)]
 ·split
  ·rw[show Rat.divInt a b=Rat.divInt (-a) (-b)from(Rat.neg_divInt_neg a b).symm,rs,pZ (by omega),Int.sign_neg]
  ·rw[rs,pZ (by omega)]
theorem gf{a c:Int}:(a.natAbs<1073741824)->(c.natAbs<1073741824)->(a*c).natAbs<=1152921502459363329:=fun h1 h2=>by
 rw[Int.natAbs_mul];exact Nat.mul_le_mul (show a.natAbs<=1073741823 by omega) (show c.natAbs<=1073741823 by omega)
section
variable{S S':Nat->Prop}{H:Hp}{nx:Nat}{iv iv':Iv}{B:Nat}{w w' w2:World}{ρ:Nat->Sx.dN}{v:Value}{q:Rat}
theorem dc.rel(h:dc w (Cv S B iv) v q)(r:Rel H nx iv B w ρ w')(hS:∀g,S g->g<B):dc w' (Cv S B iv) v q:=h.bu fun _ hg=>Rel.same r hS hg
theorem dc.bq(h:dc w (Cv S B iv) v q)(r:Rel H nx iv B w ρ w')(hS:∀g,S g->g<B)(he:Ext w' w2)(hm:∀p,p∈iv->p∈iv'):dc w2 (Cv S B iv') v q:=
 ((h.rel r hS).bu fun g hg=>he.block g (Rel.old r hS g hg)).bz fun _ hg=>hg.mono hm
theorem dc.arg(h:dc w S v q)(iv:Iv):dc w (Cv S w.heap.size iv) v q:=h.bz fun _ h=>.inl h
end
theorem pD{S:Nat->Prop}{w:World}{v:Value}{a b:Int}(hS:Old S w)(hp:fb w S v a b):
  dQ PG N.gl #[v] w (dU w fun v' _=>v'= .int .i64 (rs (ratio a b))):=by
 have hw:cF w.heap.size w w:=cF.refl;obtain⟨b1,l1,b2,l2,rfl,ha,hb'⟩:=hp;obtain⟨_,a1,n1,c1,e1⟩:=ha.shape;obtain⟨_,a2,n2,c2,e2⟩:=hb'.shape;simp only[Value.agg.injEq,Array.mk.injEq,List.cons.injEq,and_true]at e1 e2;obtain⟨_,rfl⟩:=e1;obtain⟨_,rfl⟩:=e2;replace ha:=ha.bz (S':=Cv S w.heap.size []) fun _ h=>.inl h;replace hb':=hb'.bz (S':=Cv S w.heap.size []) fun _ h=>.inl h;have hr:=EM a b;have sa:=ee a;refine s5 (by simp) ?_;conv=>whnf
 refine bp (cA (Φ:=fun _ w' v w2=>v= .int .i64 b.sign) (fun ρ w' r=>fE (Rel.old r hS) (hb'.rel r hS)) ?_);rintro ρ wa1 v1 wb1 r he hb rfl;replace hw:=hw.tr hb;replace ha:=ha.bq (iv':=(wa1.heap.size,wb1.heap.size)::[]) r hS he fun x hx=>aC _ hx;clear hb';clear r he hb;generalize (wa1.heap.size,wb1.heap.size)::[]=iv1 at*
 conv=>whnf
 refine cW.mk (fun h=>?_) (fun h=>?_)
 ·have h:=aG h;rw[aQ h]at hr;conv=>whnf
  refine bp (cE hw (Φ:=fun _ w' v w2=>v= .int .i64 a.sign) (fun ρ w' r=>fE (Rel.old r hS) (ha.rel r hS)) ?_);rintro ρ wa2 v2 wb2 iv2 r he hw h_ rfl;clear ha;clear r he;conv=>whnf
  refine⟨-a.sign,by rw[wrap64]<;>omega,?_⟩;conv=>whnf
  intro ρe we re;exact⟨_,rfl,hw.tr re.bs,by rw[hr];rfl⟩
 have h:=aF h;rw[aL h]at hr;conv=>whnf
 refine bp (cE hw (Φ:=fun _ w' v w2=>v= .int .i64 a.sign) (fun ρ w' r=>fE (Rel.old r hS) (ha.rel r hS)) ?_);rintro ρ wa2 v2 wb2 iv2 r he hw h_ rfl;clear ha;clear r he;conv=>whnf
 intro ρe we re;exact⟨_,rfl,hw.tr re.bs,by rw[hr];rfl⟩
theorem Ck{S:Nat->Prop}{w:World}{v:Value}{p:Rat}(hS:Old S w)(hp:cH w S v p):dQ PG N.gl #[v] w (dU w fun v' _=>v'= .int .i64 (rs p)):=by
 have:=pD hS hp.r;rw[pE]at this;exact this
theorem BQ{S:Nat->Prop}{w:World}{v:Value}{p:Rat}(hS:Old S w)(hp:dc w S v p):dQ PG N.gl #[v] w (dU w fun v' _=>v'= .int .i64 (rs p)):=by
 obtain⟨a,b,h1,rfl⟩:=hp.r;exact pD hS h1
theorem fg{S:Nat->Prop}{w:World}{v:Value}{p:Rat}(hS:Old S w)(hp:dc w S v p):
  dQ PG N.ph #[v] w (dU w fun v' w2=>cH w2 (Nw (fun _=>False) w w2) v' p):=by
 have hw:cF w.heap.size w w:=cF.refl;obtain⟨b1,l1,b2,l2,a,b,rfl,ha,hb',rfl⟩:=hp;obtain⟨_,a1,n1,c1,e1⟩:=ha.shape;obtain⟨_,a2,n2,c2,e2⟩:=hb'.shape;simp only[Value.agg.injEq,Array.mk.injEq,List.cons.injEq,and_true]at e1 e2;obtain⟨_,rfl⟩:=e1;obtain⟨_,rfl⟩:=e2;replace ha:=ha.bz (S':=Cv S w.heap.size []) fun _ h=>.inl h;replace hb':=hb'.bz (S':=Cv S w.heap.size []) fun _ h=>.inl h;have sb:=ee b;refine sf (by simp) ?_;conv=>whnf
 refine bp (cA (Φ:=fun _ w' v w2=>v= .int .i64 b.sign) (fun ρ w' r=>fE (Rel.old r hS) (hb'.rel r hS).r) ?_);rintro ρ wa1 v1 wb1 r he hb rfl;replace hw:=hw.tr hb;replace ha:=ha.bq (iv':=(wa1.heap.size,wb1.heap.size)::[]) r hS he fun x hx=>aC _ hx;replace hb':=hb'.bq (iv':=(wa1.heap.size,wb1.heap.size)::[]) r hS he fun x hx=>aC _ hx;clear r he hb;generalize (wa1.heap.size,wb1.heap.size)::[]=iv1 at*
 conv=>whnf
 refine cW.mk (fun h=>?_) (fun h=>?_)
 ·have h:b.sign=0:=by simpa using h
  obtain rfl:b=0:=by omega
  rw[show ratio a 0=Rat.divInt a 1 from aQ rfl];conv=>whnf
  refine bw hτ dH [.x 0,.x 1,.x 2,.x 3,.x 4] (by kernel_rfl) (by kernel_rfl) ?_;conv=>whnf
  refine cA (Φ:=fun _ w' v w2=>cU w2 (Nw (fun _=>False) w' w2) v (1)) (fun ρ w' r=>il _ w' (by decide) (by decide)) ?_;rintro ρ wa2 v2 wb2 r he hb hn;replace hw:=hw.tr hb;replace ha:=ha.bq (iv':=(wa2.heap.size,wb2.heap.size)::iv1) r hS he fun x hx=>aC _ hx;replace hb':=hb'.bq (iv':=(wa2.heap.size,wb2.heap.size)::iv1) r hS he fun x hx=>aC _ hx;have h1:=hn.cQ (S:=fun _=>False) r.bm (iv:=(wa2.heap.size,wb2.heap.size)::iv1) aH;clear r he hb hn;generalize (wa2.heap.size,wb2.heap.size)::iv1=iv2 at*
  obtain⟨s2_0,s2_1,s2_2,s2_3,rfl⟩:=h1.shape;conv=>whnf
  refine cA (Φ:=fun _ w' v w2=>cH w2 (Nw (fun _=>False) w' w2) v (Rat.divInt a 1)) (fun ρ w' r=>jD (Rel.old r hS) (ha.rel r hS) (((h1.rel r (bl w)).l (k:=1) (by decide)).bz fun g hg=>Cv.false hg) (by omega) (by omega) (by decide)) ?_;rintro ρ wa3 v3 wb3 r he hb hn;replace hw:=hw.tr hb;replace ha:=ha.bq (iv':=(wa3.heap.size,wb3.heap.size)::iv2) r hS he fun x hx=>aC _ hx;replace hb':=hb'.bq (iv':=(wa3.heap.size,wb3.heap.size)::iv2) r hS he fun x hx=>aC _ hx;replace h1:=h1.bq (iv':=(wa3.heap.size,wb3.heap.size)::iv2) r (bl w) he fun x hx=>aC _ hx;have hR:=hn.cQ (S:=fun _=>False) r.bm (iv:=(wa3.heap.size,wb3.heap.size)::iv2) aH;clear r he hb hn;generalize (wa3.heap.size,wb3.heap.size)::iv2=iv3 at*
  obtain⟨s3_0,s3_1,s3_2,s3_3,s3_4,s3_5,s3_6,s3_7,rfl⟩:=hR.shape;conv=>whnf
  intro ρe we re;exact⟨_,rfl,hw.tr re.bs,hR.out re (bl w)⟩
 have h:b.sign≠0:=by simpa using h
 have hb0:b≠0:=by omega
 rw[show ratio a b=Rat.divInt a b from aL hb0];conv=>whnf
 refine bp (cA (Φ:=fun _ w' v w2=>cH w2 (Nw (fun _=>False) w' w2) v (Rat.divInt a b)) (fun ρ w' r=>jD (Rel.old r hS) (ha.rel r hS) (hb'.rel r hS) (by omega) (by omega) hb0) ?_);rintro ρ wa2 v2 wb2 r he hb hn;replace hw:=hw.tr hb;replace ha:=ha.bq (iv':=(wa2.heap.size,wb2.heap.size)::iv1) r hS he fun x hx=>aC _ hx;replace hb':=hb'.bq (iv':=(wa2.heap.size,wb2.heap.size)::iv1) r hS he fun x hx=>aC _ hx;have hR:=hn.cQ (S:=fun _=>False) r.bm (iv:=(wa2.heap.size,wb2.heap.size)::iv1) aH;clear r he hb hn;generalize (wa2.heap.size,wb2.heap.size)::iv1=iv2 at*
 obtain⟨s2_0,s2_1,s2_2,s2_3,s2_4,s2_5,s2_6,s2_7,rfl⟩:=hR.shape;conv=>whnf
 intro ρe we re;exact⟨_,rfl,hw.tr re.bs,hR.out re (bl w)⟩
theorem tf{S:Nat->Prop}{w:World}{v:Value}{p:Rat}(hS:Old S w)(hp:dc w S v p):
  dQ PG N.sE #[v] w (dU w fun v' _=>∃n d ok,v'= .tuple #[.int .i64 n,.int .i64 d,.bool ok]∧(ok=true->d≠0∧n.natAbs<1073741824∧d.natAbs<1073741824∧Rat.divInt n d=p)):=by
 have hw:cF w.heap.size w w:=cF.refl;obtain⟨b1,l1,b2,l2,a,b,rfl,ha,hb',rfl⟩:=hp;obtain⟨_,a1,n1,c1,e1⟩:=ha.shape;obtain⟨_,a2,n2,c2,e2⟩:=hb'.shape;simp only[Value.agg.injEq,Array.mk.injEq,List.cons.injEq,and_true]at e1 e2;obtain⟨_,rfl⟩:=e1;obtain⟨_,rfl⟩:=e2;replace ha:=ha.bz (S':=Cv S w.heap.size []) fun _ h=>.inl h;replace hb':=hb'.bz (S':=Cv S w.heap.size []) fun _ h=>.inl h;refine uq (by simp) ?_;conv=>whnf
 refine bp (cA (Φ:=fun _ w' v w2=>∃n p,v= .tuple #[.int .i64 n,.bool p]∧(p=true->n=a∧a.natAbs<1073741824)) (fun ρ w' r=>(kh (Rel.old r hS) (ha.rel r hS).r).mono fun e w2 ⟨v2,e1,e2,e3⟩=>⟨v2,e1,e2,by
   rw[e3,gu];split
   ·exact⟨_,_,rfl,fun _=>⟨rfl,‹_›⟩⟩
   ·exact⟨_,_,rfl,fun h=>by cases h⟩⟩) ?_)
 rintro ρ wa1 v1 wb1 r he hb ⟨na,pa,rfl,qa⟩;replace hw:=hw.tr hb;replace ha:=ha.bq (iv':=(wa1.heap.size,wb1.heap.size)::[]) r hS he fun x hx=>aC _ hx;replace hb':=hb'.bq (iv':=(wa1.heap.size,wb1.heap.size)::[]) r hS he fun x hx=>aC _ hx;clear r he hb;generalize (wa1.heap.size,wb1.heap.size)::[]=iv1 at*
 conv=>whnf
 refine bp (cA (Φ:=fun _ w' v w2=>∃n p,v= .tuple #[.int .i64 n,.bool p]∧(p=true->n=b∧b.natAbs<1073741824)) (fun ρ w' r=>(kh (Rel.old r hS) (hb'.rel r hS).r).mono fun e w2 ⟨v2,e1,e2,e3⟩=>⟨v2,e1,e2,by
   rw[e3,gu];split
   ·exact⟨_,_,rfl,fun _=>⟨rfl,‹_›⟩⟩
   ·exact⟨_,_,rfl,fun h=>by cases h⟩⟩) ?_)
 rintro ρ wa2 v2 wb2 r he hb ⟨nb,pb,rfl,qb⟩;replace hw:=hw.tr hb;replace ha:=ha.bq (iv':=(wa2.heap.size,wb2.heap.size)::iv1) r hS he fun x hx=>aC _ hx;replace hb':=hb'.bq (iv':=(wa2.heap.size,wb2.heap.size)::iv1) r hS he fun x hx=>aC _ hx;clear r he hb;generalize (wa2.heap.size,wb2.heap.size)::iv1=iv2 at*
 conv=>whnf
 refine cW.mk (fun h=>?_) (fun h=>?_)
 ·have h:nb=0:=by simpa using h
  conv=>whnf
  refine cW.mk (fun h1=>?_) (fun h1=>?_)
  ·conv=>whnf
   intro ρe we re
   exact⟨_,rfl,hw.tr re.bs,⟨na,1,pb,rfl,fun h2=>by
     obtain⟨rfl,hx⟩:=qa h1;obtain⟨rfl,hy⟩:=qb h2;rw[h]
     exact⟨by decide,hx,by decide,(aQ rfl).symm⟩⟩⟩
  conv=>whnf
  intro ρe we re;exact⟨_,rfl,hw.tr re.bs,⟨na,1,false,rfl,fun h2=>by cases h2⟩⟩
 have h:nb≠0:=by simpa using h
 conv=>whnf
 refine cW.mk (fun h1=>?_) (fun h1=>?_)
 ·conv=>whnf
  intro ρe we re
  exact⟨_,rfl,hw.tr re.bs,⟨na,nb,pb,rfl,fun h2=>by
    obtain⟨rfl,hx⟩:=qa h1;obtain⟨rfl,hy⟩:=qb h2
    exact⟨h,hx,hy,(aL h).symm⟩⟩⟩
 conv=>whnf
 intro ρe we re;exact⟨_,rfl,hw.tr re.bs,⟨na,nb,false,rfl,fun h2=>by cases h2⟩⟩
theorem BR{S:Nat->Prop}{w:World}{v u:Value}{p q:Rat}(hS:Old S w)(hp:dc w S v p)(hq:dc w S u q):
  dQ PG N.xJ #[v,u] w (dU w fun v' w2=>cH w2 (Nw (fun _=>False) w w2) v' (p+q)):=by
 have hw:cF w.heap.size w w:=cF.refl;replace hp:=hp.bz (S':=Cv S w.heap.size []) fun _ h=>.inl h;replace hq:=hq.bz (S':=Cv S w.heap.size []) fun _ h=>.inl h;obtain⟨b1,a1,n1,c1,b2,a2,n2,c2,rfl⟩:=hp.shape;obtain⟨b3,a3,n3,c3,b4,a4,n4,c4,rfl⟩:=hq.shape;refine yB (by simp) ?_;conv=>whnf
 have r1:=hp.rl;have r2:=hq.rl;have u1:=eo p;have u2:=eF p;have u3:=eo q;have u4:=eF q;refine bp (cE hw (Φ:=fun _ w' v w2=>∃n d ok,v= .tuple #[.int .i64 n,.int .i64 d,.bool ok]∧(ok=true->d≠0∧n.natAbs<1073741824∧d.natAbs<1073741824∧Rat.divInt n d=p)) (fun ρ w' r=>tf (Rel.old r hS) (hp.rel r hS)) ?_);rintro ρ wa1 v1 wb1 iv1 r he hw h_ ⟨a,b,k1,rfl,g1⟩;replace hp:=hp.bq r hS he (mC h_);replace hq:=hq.bq r hS he (mC h_);clear r;conv=>whnf
 refine bp (cE hw (Φ:=fun _ w' v w2=>∃n d ok,v= .tuple #[.int .i64 n,.int .i64 d,.bool ok]∧(ok=true->d≠0∧n.natAbs<1073741824∧d.natAbs<1073741824∧Rat.divInt n d=q)) (fun ρ w' r=>tf (Rel.old r hS) (hq.rel r hS)) ?_);rintro ρ wa2 v2 wb2 iv2 r he hw h_ ⟨c,d,k2,rfl,g2⟩;replace hp:=hp.bq r hS he (mC h_);replace hq:=hq.bq r hS he (mC h_);clear r;conv=>whnf
 refine cW.mk (fun h1=>?_) (fun h1=>?_)
 ·conv=>whnf
  refine cW.mk (fun h2=>?_) (fun h2=>?_)
  ·obtain⟨g3,g4,g5,g6⟩:=g1 h1;obtain⟨g7,g8,g9,g10⟩:=g2 h2;have i1:=gf g4 g9;have i2:=gf g8 g5;have i3:=gf g5 g9;have i4:=gf g4 g8;clear hp hq;conv=>whnf
   refine⟨a*d,by rw[wrap64]<;>omega,?_⟩;conv=>whnf
   refine⟨c*b,by rw[wrap64]<;>omega,?_⟩;conv=>whnf
   refine⟨a*d+c*b,by rw[wrap64]<;>omega,?_⟩;conv=>whnf
   refine⟨b*d,by rw[wrap64]<;>omega,?_⟩;conv=>whnf
   have e:=Rat.divInt_add_divInt a c g3 g7;rw[g6,g10]at e;refine bp (cE hw (Φ:=fun _ w' v w2=>cH w2 (Nw (fun _=>False) w' w2) v (p+q)) (fun ρ w' r=>e▸nX (a*d+c*b) (b*d) w' (by omega) (by omega) (iV g3 g7)) ?_);rintro ρ wa3 v3 wb3 iv3 r he hw h_ hn;have hR:=hn.cQ (S:=fun _=>False) r.bm (mN h_);clear r;obtain⟨s3_0,s3_1,s3_2,s3_3,s3_4,s3_5,s3_6,s3_7,rfl⟩:=hR.shape;conv=>whnf
   intro ρe we re;exact⟨_,rfl,hw.tr re.bs,hR.out re (bl w)⟩
  conv=>whnf
  refine bw hτ dH [.x 0,.x 2,.x 1,.x 3,.x 4,.x 5] (by kernel_rfl) (by kernel_rfl) ?_;conv=>whnf
  refine cE hw (Φ:=fun _ w' v w2=>cH w2 (Nw (fun _=>False) w' w2) v (p)) (fun ρ w' r=>fg (Rel.old r hS) (hp.rel r hS)) ?_;rintro ρ wa3 v3 wb3 iv3 r he hw h_ hn;clear hp;replace hq:=hq.bq r hS he (mC h_);have hX:=hn.cQ (S:=fun _=>False) r.bm (mN h_);clear r;obtain⟨s3_0,s3_1,s3_2,s3_3,s3_4,s3_5,s3_6,s3_7,rfl⟩:=hX.shape;conv=>whnf
  refine cE hw (Φ:=fun _ w' v w2=>cH w2 (Nw (fun _=>False) w' w2) v (q)) (fun ρ w' r=>fg (Rel.old r hS) (hq.rel r hS)) ?_;rintro ρ wa4 v4 wb4 iv4 r he hw h_ hn;clear hq;replace hX:=hX.bq r (bl w) he (mC h_);have hY:=hn.cQ (S:=fun _=>False) r.bm (mN h_);clear r;obtain⟨s4_0,s4_1,s4_2,s4_3,s4_4,s4_5,s4_6,s4_7,rfl⟩:=hY.shape;conv=>whnf
  have hXn:=hX.num;have hXd:=hX.den;clear hX;have hYn:=hY.num;have hYd:=hY.den;clear hY;have m0:=cL p.num q.den;have m1:=cL q.num p.den;have m2:=cL (p.den:Int) q.den;have m3:=fx (p.num*q.den) (q.num*p.den);have m4:=cL p.num q.num;refine bw hτ dH [.x 0,.x 1,.x 2,.x 3,.x 5,.x 6,.x 7,.x 8,.x 11,.x 12,.x 13,.x 14,.x 4,.x 9,.x 10,.x 15,.x 16,.x 17] (by kernel_rfl) (by kernel_rfl) ?_;conv=>whnf
  refine cE hw (Φ:=fun _ w' v w2=>cU w2 (Nw (fun _=>False) w' w2) v (p.num*(q.den:Int))) (fun ρ w' r=>gH (Rel.old r (bl w)) ((hXn.rel r (bl w)).l (k:=100000) (by omega)) ((hYd.rel r (bl w)).l (k:=100000) (by omega)) (by omega) (by omega)) ?_;rintro ρ wa5 v5 wb5 iv5 r he hw h_ hn;replace hXn:=hXn.bq r (bl w) he (mC h_);replace hXd:=hXd.bq r (bl w) he (mC h_);replace hYn:=hYn.bq r (bl w) he (mC h_);replace hYd:=hYd.bq r (bl w) he (mC h_);have hA:=hn.cQ (S:=fun _=>False) r.bm (mN h_);clear r;obtain⟨s5_0,s5_1,s5_2,s5_3,rfl⟩:=hA.shape;conv=>whnf
  refine cE hw (Φ:=fun _ w' v w2=>cU w2 (Nw (fun _=>False) w' w2) v (q.num*(p.den:Int))) (fun ρ w' r=>gH (Rel.old r (bl w)) ((hYn.rel r (bl w)).l (k:=100000) (by omega)) ((hXd.rel r (bl w)).l (k:=100000) (by omega)) (by omega) (by omega)) ?_;rintro ρ wa6 v6 wb6 iv6 r he hw h_ hn;replace hXn:=hXn.bq r (bl w) he (mC h_);replace hXd:=hXd.bq r (bl w) he (mC h_);replace hYn:=hYn.bq r (bl w) he (mC h_);replace hYd:=hYd.bq r (bl w) he (mC h_);replace hA:=hA.bq r (bl w) he (mC h_);have hB:=hn.cQ (S:=fun _=>False) r.bm (mN h_);clear r;obtain⟨s6_0,s6_1,s6_2,s6_3,rfl⟩:=hB.shape;conv=>whnf
  refine cE hw (Φ:=fun _ w' v w2=>cU w2 (Nw (fun _=>False) w' w2) v (p.num*(q.den:Int)+q.num*(p.den:Int))) (fun ρ w' r=>vZ (Rel.old r (bl w)) ((hA.rel r (bl w)).l (k:=200000) (by omega)) ((hB.rel r (bl w)).l (k:=200000) (by omega)) (by omega) (by omega)) ?_;rintro ρ wa7 v7 wb7 iv7 r he hw h_ hn;replace hXn:=hXn.bq r (bl w) he (mC h_);replace hXd:=hXd.bq r (bl w) he (mC h_);replace hYn:=hYn.bq r (bl w) he (mC h_);replace hYd:=hYd.bq r (bl w) he (mC h_);clear hA;clear hB;have hN:=hn.cQ (S:=fun _=>False) r.bm (mN h_);clear r;obtain⟨s7_0,s7_1,s7_2,s7_3,rfl⟩:=hN.shape;conv=>whnf
  refine cE hw (Φ:=fun _ w' v w2=>cU w2 (Nw (fun _=>False) w' w2) v ((p.den:Int)*(q.den:Int))) (fun ρ w' r=>gH (Rel.old r (bl w)) ((hXd.rel r (bl w)).l (k:=100000) (by omega)) ((hYd.rel r (bl w)).l (k:=100000) (by omega)) (by omega) (by omega)) ?_;rintro ρ wa8 v8 wb8 iv8 r he hw h_ hn;replace hXn:=hXn.bq r (bl w) he (mC h_);replace hXd:=hXd.bq r (bl w) he (mC h_);replace hYn:=hYn.bq r (bl w) he (mC h_);replace hYd:=hYd.bq r (bl w) he (mC h_);replace hN:=hN.bq r (bl w) he (mC h_);have hD:=hn.cQ (S:=fun _=>False) r.bm (mN h_);clear r;obtain⟨s8_0,s8_1,s8_2,s8_3,rfl⟩:=hD.shape;conv=>whnf
  refine cE hw (Φ:=fun _ w' v w2=>cH w2 (Nw (fun _=>False) w' w2) v (p+q)) (fun ρ w' r=>(pY p q)▸jD (Rel.old r (bl w)) ((hN.rel r (bl w)).l (k:=200001) (by omega)) ((hD.rel r (bl w)).l (k:=200001) (by omega)) (by omega) (by omega) (iV (ep p) (ep q))) ?_;rintro ρ wa9 v9 wb9 iv9 r he hw h_ hn;clear hXn;clear hXd;clear hYn;clear hYd;clear hN;clear hD;have hR:=hn.cQ (S:=fun _=>False) r.bm (mN h_);clear r;obtain⟨s9_0,s9_1,s9_2,s9_3,s9_4,s9_5,s9_6,s9_7,rfl⟩:=hR.shape;conv=>whnf
  intro ρe we re;exact⟨_,rfl,hw.tr re.bs,hR.out re (bl w)⟩
 conv=>whnf
 refine bw hτ dH [.x 0,.x 2,.x 1,.x 3,.x 4,.x 5] (by kernel_rfl) (by kernel_rfl) ?_;conv=>whnf
 refine cE hw (Φ:=fun _ w' v w2=>cH w2 (Nw (fun _=>False) w' w2) v (p)) (fun ρ w' r=>fg (Rel.old r hS) (hp.rel r hS)) ?_;rintro ρ wa3 v3 wb3 iv3 r he hw h_ hn;clear hp;replace hq:=hq.bq r hS he (mC h_);have hX:=hn.cQ (S:=fun _=>False) r.bm (mN h_);clear r;obtain⟨s3_0,s3_1,s3_2,s3_3,s3_4,s3_5,s3_6,s3_7,rfl⟩:=hX.shape;conv=>whnf
 refine cE hw (Φ:=fun _ w' v w2=>cH w2 (Nw (fun _=>False) w' w2) v (q)) (fun ρ w' r=>fg (Rel.old r hS) (hq.rel r hS)) ?_;rintro ρ wa4 v4 wb4 iv4 r he hw h_ hn;clear hq;replace hX:=hX.bq r (bl w) he (mC h_);have hY:=hn.cQ (S:=fun _=>False) r.bm (mN h_);clear r;obtain⟨s4_0,s4_1,s4_2,s4_3,s4_4,s4_5,s4_6,s4_7,rfl⟩:=hY.shape;conv=>whnf
 have hXn:=hX.num;have hXd:=hX.den;clear hX;have hYn:=hY.num;have hYd:=hY.den;clear hY;have m0:=cL p.num q.den;have m1:=cL q.num p.den;have m2:=cL (p.den:Int) q.den;have m3:=fx (p.num*q.den) (q.num*p.den);have m4:=cL p.num q.num;refine bw hτ dH [.x 0,.x 1,.x 2,.x 3,.x 5,.x 6,.x 7,.x 8,.x 11,.x 12,.x 13,.x 14,.x 4,.x 9,.x 10,.x 15,.x 16,.x 17] (by kernel_rfl) (by kernel_rfl) ?_;conv=>whnf
 refine cE hw (Φ:=fun _ w' v w2=>cU w2 (Nw (fun _=>False) w' w2) v (p.num*(q.den:Int))) (fun ρ w' r=>gH (Rel.old r (bl w)) ((hXn.rel r (bl w)).l (k:=100000) (by omega)) ((hYd.rel r (bl w)).l (k:=100000) (by omega)) (by omega) (by omega)) ?_;rintro ρ wa5 v5 wb5 iv5 r he hw h_ hn;replace hXn:=hXn.bq r (bl w) he (mC h_);replace hXd:=hXd.bq r (bl w) he (mC h_);replace hYn:=hYn.bq r (bl w) he (mC h_);replace hYd:=hYd.bq r (bl w) he (mC h_);have hA:=hn.cQ (S:=fun _=>False) r.bm (mN h_);clear r;obtain⟨s5_0,s5_1,s5_2,s5_3,rfl⟩:=hA.shape;conv=>whnf
 refine cE hw (Φ:=fun _ w' v w2=>cU w2 (Nw (fun _=>False) w' w2) v (q.num*(p.den:Int))) (fun ρ w' r=>gH (Rel.old r (bl w)) ((hYn.rel r (bl w)).l (k:=100000) (by omega)) ((hXd.rel r (bl w)).l (k:=100000) (by omega)) (by omega) (by omega)) ?_;rintro ρ wa6 v6 wb6 iv6 r he hw h_ hn;replace hXn:=hXn.bq r (bl w) he (mC h_);replace hXd:=hXd.bq r (bl w) he (mC h_);replace hYn:=hYn.bq r (bl w) he (mC h_);replace hYd:=hYd.bq r (bl w) he (mC h_);replace hA:=hA.bq r (bl w) he (mC h_);have hB:=hn.cQ (S:=fun _=>False) r.bm (mN h_);clear r;obtain⟨s6_0,s6_1,s6_2,s6_3,rfl⟩:=hB.shape;conv=>whnf
 refine cE hw (Φ:=fun _ w' v w2=>cU w2 (Nw (fun _=>False) w' w2) v (p.num*(q.den:Int)+q.num*(p.den:Int))) (fun ρ w' r=>vZ (Rel.old r (bl w)) ((hA.rel r (bl w)).l (k:=200000) (by omega)) ((hB.rel r (bl w)).l (k:=200000) (by omega)) (by omega) (by omega)) ?_;rintro ρ wa7 v7 wb7 iv7 r he hw h_ hn;replace hXn:=hXn.bq r (bl w) he (mC h_);replace hXd:=hXd.bq r (bl w) he (mC h_);replace hYn:=hYn.bq r (bl w) he (mC h_);replace hYd:=hYd.bq r (bl w) he (mC h_);clear hA;clear hB;have hN:=hn.cQ (S:=fun _=>False) r.bm (mN h_);clear r;obtain⟨s7_0,s7_1,s7_2,s7_3,rfl⟩:=hN.shape;conv=>whnf
 refine cE hw (Φ:=fun _ w' v w2=>cU w2 (Nw (fun _=>False) w' w2) v ((p.den:Int)*(q.den:Int))) (fun ρ w' r=>gH (Rel.old r (bl w)) ((hXd.rel r (bl w)).l (k:=100000) (by omega)) ((hYd.rel r (bl w)).l (k:=100000) (by omega)) (by omega) (by omega)) ?_;rintro ρ wa8 v8 wb8 iv8 r he hw h_ hn;replace hXn:=hXn.bq r (bl w) he (mC h_);replace hXd:=hXd.bq r (bl w) he (mC h_);replace hYn:=hYn.bq r (bl w) he (mC h_);replace hYd:=hYd.bq r (bl w) he (mC h_);replace hN:=hN.bq r (bl w) he (mC h_);have hD:=hn.cQ (S:=fun _=>False) r.bm (mN h_);clear r;obtain⟨s8_0,s8_1,s8_2,s8_3,rfl⟩:=hD.shape;conv=>whnf
 refine cE hw (Φ:=fun _ w' v w2=>cH w2 (Nw (fun _=>False) w' w2) v (p+q)) (fun ρ w' r=>(pY p q)▸jD (Rel.old r (bl w)) ((hN.rel r (bl w)).l (k:=200001) (by omega)) ((hD.rel r (bl w)).l (k:=200001) (by omega)) (by omega) (by omega) (iV (ep p) (ep q))) ?_;rintro ρ wa9 v9 wb9 iv9 r he hw h_ hn;clear hXn;clear hXd;clear hYn;clear hYd;clear hN;clear hD;have hR:=hn.cQ (S:=fun _=>False) r.bm (mN h_);clear r;obtain⟨s9_0,s9_1,s9_2,s9_3,s9_4,s9_5,s9_6,s9_7,rfl⟩:=hR.shape;conv=>whnf
 intro ρe we re;exact⟨_,rfl,hw.tr re.bs,hR.out re (bl w)⟩
theorem BS{S:Nat->Prop}{w:World}{v u:Value}{p q:Rat}(hS:Old S w)(hp:dc w S v p)(hq:dc w S u q):
  dQ PG N.xK #[v,u] w (dU w fun v' w2=>cH w2 (Nw (fun _=>False) w w2) v' (p*q)):=by
 have hw:cF w.heap.size w w:=cF.refl;replace hp:=hp.bz (S':=Cv S w.heap.size []) fun _ h=>.inl h;replace hq:=hq.bz (S':=Cv S w.heap.size []) fun _ h=>.inl h;obtain⟨b1,a1,n1,c1,b2,a2,n2,c2,rfl⟩:=hp.shape;obtain⟨b3,a3,n3,c3,b4,a4,n4,c4,rfl⟩:=hq.shape;refine yC (by simp) ?_;conv=>whnf
 have r1:=hp.rl;have r2:=hq.rl;have u1:=eo p;have u2:=eF p;have u3:=eo q;have u4:=eF q;refine bp (cE hw (Φ:=fun _ w' v w2=>∃n d ok,v= .tuple #[.int .i64 n,.int .i64 d,.bool ok]∧(ok=true->d≠0∧n.natAbs<1073741824∧d.natAbs<1073741824∧Rat.divInt n d=p)) (fun ρ w' r=>tf (Rel.old r hS) (hp.rel r hS)) ?_);rintro ρ wa1 v1 wb1 iv1 r he hw h_ ⟨a,b,k1,rfl,g1⟩;replace hp:=hp.bq r hS he (mC h_);replace hq:=hq.bq r hS he (mC h_);clear r;conv=>whnf
 refine bp (cE hw (Φ:=fun _ w' v w2=>∃n d ok,v= .tuple #[.int .i64 n,.int .i64 d,.bool ok]∧(ok=true->d≠0∧n.natAbs<1073741824∧d.natAbs<1073741824∧Rat.divInt n d=q)) (fun ρ w' r=>tf (Rel.old r hS) (hq.rel r hS)) ?_);rintro ρ wa2 v2 wb2 iv2 r he hw h_ ⟨c,d,k2,rfl,g2⟩;replace hp:=hp.bq r hS he (mC h_);replace hq:=hq.bq r hS he (mC h_);clear r;conv=>whnf
 refine cW.mk (fun h1=>?_) (fun h1=>?_)
 ·conv=>whnf
  refine cW.mk (fun h2=>?_) (fun h2=>?_)
  ·obtain⟨g3,g4,g5,g6⟩:=g1 h1;obtain⟨g7,g8,g9,g10⟩:=g2 h2;have i1:=gf g4 g9;have i2:=gf g8 g5;have i3:=gf g5 g9;have i4:=gf g4 g8;clear hp hq;conv=>whnf
   refine⟨a*c,by rw[wrap64]<;>omega,?_⟩;conv=>whnf
   refine⟨b*d,by rw[wrap64]<;>omega,?_⟩;conv=>whnf
   have e:=Rat.divInt_mul_divInt a c (d₁:=b) (d₂:=d);rw[g6,g10]at e;refine bp (cE hw (Φ:=fun _ w' v w2=>cH w2 (Nw (fun _=>False) w' w2) v (p*q)) (fun ρ w' r=>e▸nX (a*c) (b*d) w' (by omega) (by omega) (iV g3 g7)) ?_);rintro ρ wa3 v3 wb3 iv3 r he hw h_ hn;have hR:=hn.cQ (S:=fun _=>False) r.bm (mN h_);clear r;obtain⟨s3_0,s3_1,s3_2,s3_3,s3_4,s3_5,s3_6,s3_7,rfl⟩:=hR.shape;conv=>whnf
   intro ρe we re;exact⟨_,rfl,hw.tr re.bs,hR.out re (bl w)⟩
  conv=>whnf
  refine bw hτ dH [.x 0,.x 2,.x 1,.x 3,.x 4,.x 5] (by kernel_rfl) (by kernel_rfl) ?_;conv=>whnf
  refine cE hw (Φ:=fun _ w' v w2=>cH w2 (Nw (fun _=>False) w' w2) v (p)) (fun ρ w' r=>fg (Rel.old r hS) (hp.rel r hS)) ?_;rintro ρ wa3 v3 wb3 iv3 r he hw h_ hn;clear hp;replace hq:=hq.bq r hS he (mC h_);have hX:=hn.cQ (S:=fun _=>False) r.bm (mN h_);clear r;obtain⟨s3_0,s3_1,s3_2,s3_3,s3_4,s3_5,s3_6,s3_7,rfl⟩:=hX.shape;conv=>whnf
  refine cE hw (Φ:=fun _ w' v w2=>cH w2 (Nw (fun _=>False) w' w2) v (q)) (fun ρ w' r=>fg (Rel.old r hS) (hq.rel r hS)) ?_;rintro ρ wa4 v4 wb4 iv4 r he hw h_ hn;clear hq;replace hX:=hX.bq r (bl w) he (mC h_);have hY:=hn.cQ (S:=fun _=>False) r.bm (mN h_);clear r;obtain⟨s4_0,s4_1,s4_2,s4_3,s4_4,s4_5,s4_6,s4_7,rfl⟩:=hY.shape;conv=>whnf
  have hXn:=hX.num;have hXd:=hX.den;clear hX;have hYn:=hY.num;have hYd:=hY.den;clear hY;have m0:=cL p.num q.den;have m1:=cL q.num p.den;have m2:=cL (p.den:Int) q.den;have m3:=fx (p.num*q.den) (q.num*p.den);have m4:=cL p.num q.num;refine bw hτ dH [.x 0,.x 1,.x 2,.x 3,.x 5,.x 6,.x 7,.x 8,.x 4,.x 9,.x 10,.x 11] (by kernel_rfl) (by kernel_rfl) ?_;conv=>whnf
  refine cE hw (Φ:=fun _ w' v w2=>cU w2 (Nw (fun _=>False) w' w2) v (p.num*q.num)) (fun ρ w' r=>gH (Rel.old r (bl w)) ((hXn.rel r (bl w)).l (k:=100000) (by omega)) ((hYn.rel r (bl w)).l (k:=100000) (by omega)) (by omega) (by omega)) ?_;rintro ρ wa5 v5 wb5 iv5 r he hw h_ hn;replace hXn:=hXn.bq r (bl w) he (mC h_);replace hXd:=hXd.bq r (bl w) he (mC h_);replace hYn:=hYn.bq r (bl w) he (mC h_);replace hYd:=hYd.bq r (bl w) he (mC h_);have hN:=hn.cQ (S:=fun _=>False) r.bm (mN h_);clear r;obtain⟨s5_0,s5_1,s5_2,s5_3,rfl⟩:=hN.shape;conv=>whnf
  refine cE hw (Φ:=fun _ w' v w2=>cU w2 (Nw (fun _=>False) w' w2) v ((p.den:Int)*(q.den:Int))) (fun ρ w' r=>gH (Rel.old r (bl w)) ((hXd.rel r (bl w)).l (k:=100000) (by omega)) ((hYd.rel r (bl w)).l (k:=100000) (by omega)) (by omega) (by omega)) ?_;rintro ρ wa6 v6 wb6 iv6 r he hw h_ hn;replace hXn:=hXn.bq r (bl w) he (mC h_);replace hXd:=hXd.bq r (bl w) he (mC h_);replace hYn:=hYn.bq r (bl w) he (mC h_);replace hYd:=hYd.bq r (bl w) he (mC h_);replace hN:=hN.bq r (bl w) he (mC h_);have hD:=hn.cQ (S:=fun _=>False) r.bm (mN h_);clear r;obtain⟨s6_0,s6_1,s6_2,s6_3,rfl⟩:=hD.shape;conv=>whnf
  refine cE hw (Φ:=fun _ w' v w2=>cH w2 (Nw (fun _=>False) w' w2) v (p*q)) (fun ρ w' r=>(tW p q)▸jD (Rel.old r (bl w)) ((hN.rel r (bl w)).l (k:=200001) (by omega)) ((hD.rel r (bl w)).l (k:=200001) (by omega)) (by omega) (by omega) (iV (ep p) (ep q))) ?_;rintro ρ wa7 v7 wb7 iv7 r he hw h_ hn;clear hXn;clear hXd;clear hYn;clear hYd;clear hN;clear hD;have hR:=hn.cQ (S:=fun _=>False) r.bm (mN h_);clear r;obtain⟨s7_0,s7_1,s7_2,s7_3,s7_4,s7_5,s7_6,s7_7,rfl⟩:=hR.shape;conv=>whnf
  intro ρe we re;exact⟨_,rfl,hw.tr re.bs,hR.out re (bl w)⟩
 conv=>whnf
 refine bw hτ dH [.x 0,.x 2,.x 1,.x 3,.x 4,.x 5] (by kernel_rfl) (by kernel_rfl) ?_;conv=>whnf
 refine cE hw (Φ:=fun _ w' v w2=>cH w2 (Nw (fun _=>False) w' w2) v (p)) (fun ρ w' r=>fg (Rel.old r hS) (hp.rel r hS)) ?_;rintro ρ wa3 v3 wb3 iv3 r he hw h_ hn;clear hp;replace hq:=hq.bq r hS he (mC h_);have hX:=hn.cQ (S:=fun _=>False) r.bm (mN h_);clear r;obtain⟨s3_0,s3_1,s3_2,s3_3,s3_4,s3_5,s3_6,s3_7,rfl⟩:=hX.shape;conv=>whnf
 refine cE hw (Φ:=fun _ w' v w2=>cH w2 (Nw (fun _=>False) w' w2) v (q)) (fun ρ w' r=>fg (Rel.old r hS) (hq.rel r hS)) ?_;rintro ρ wa4 v4 wb4 iv4 r he hw h_ hn;clear hq;replace hX:=hX.bq r (bl w) he (mC h_);have hY:=hn.cQ (S:=fun _=>False) r.bm (mN h_);clear r;obtain⟨s4_0,s4_1,s4_2,s4_3,s4_4,s4_5,s4_6,s4_7,rfl⟩:=hY.shape;conv=>whnf
 have hXn:=hX.num;have hXd:=hX.den;clear hX;have hYn:=hY.num;have hYd:=hY.den;clear hY;have m0:=cL p.num q.den;have m1:=cL q.num p.den;have m2:=cL (p.den:Int) q.den;have m3:=fx (p.num*q.den) (q.num*p.den);have m4:=cL p.num q.num;refine bw hτ dH [.x 0,.x 1,.x 2,.x 3,.x 5,.x 6,.x 7,.x 8,.x 4,.x 9,.x 10,.x 11] (by kernel_rfl) (by kernel_rfl) ?_;conv=>whnf
 refine cE hw (Φ:=fun _ w' v w2=>cU w2 (Nw (fun _=>False) w' w2) v (p.num*q.num)) (fun ρ w' r=>gH (Rel.old r (bl w)) ((hXn.rel r (bl w)).l (k:=100000) (by omega)) ((hYn.rel r (bl w)).l (k:=100000) (by omega)) (by omega) (by omega)) ?_;rintro ρ wa5 v5 wb5 iv5 r he hw h_ hn;replace hXn:=hXn.bq r (bl w) he (mC h_);replace hXd:=hXd.bq r (bl w) he (mC h_);replace hYn:=hYn.bq r (bl w) he (mC h_);replace hYd:=hYd.bq r (bl w) he (mC h_);have hN:=hn.cQ (S:=fun _=>False) r.bm (mN h_);clear r;obtain⟨s5_0,s5_1,s5_2,s5_3,rfl⟩:=hN.shape;conv=>whnf
 refine cE hw (Φ:=fun _ w' v w2=>cU w2 (Nw (fun _=>False) w' w2) v ((p.den:Int)*(q.den:Int))) (fun ρ w' r=>gH (Rel.old r (bl w)) ((hXd.rel r (bl w)).l (k:=100000) (by omega)) ((hYd.rel r (bl w)).l (k:=100000) (by omega)) (by omega) (by omega)) ?_;rintro ρ wa6 v6 wb6 iv6 r he hw h_ hn;replace hXn:=hXn.bq r (bl w) he (mC h_);replace hXd:=hXd.bq r (bl w) he (mC h_);replace hYn:=hYn.bq r (bl w) he (mC h_);replace hYd:=hYd.bq r (bl w) he (mC h_);replace hN:=hN.bq r (bl w) he (mC h_);have hD:=hn.cQ (S:=fun _=>False) r.bm (mN h_);clear r;obtain⟨s6_0,s6_1,s6_2,s6_3,rfl⟩:=hD.shape;conv=>whnf
 refine cE hw (Φ:=fun _ w' v w2=>cH w2 (Nw (fun _=>False) w' w2) v (p*q)) (fun ρ w' r=>(tW p q)▸jD (Rel.old r (bl w)) ((hN.rel r (bl w)).l (k:=200001) (by omega)) ((hD.rel r (bl w)).l (k:=200001) (by omega)) (by omega) (by omega) (iV (ep p) (ep q))) ?_;rintro ρ wa7 v7 wb7 iv7 r he hw h_ hn;clear hXn;clear hXd;clear hYn;clear hYd;clear hN;clear hD;have hR:=hn.cQ (S:=fun _=>False) r.bm (mN h_);clear r;obtain⟨s7_0,s7_1,s7_2,s7_3,s7_4,s7_5,s7_6,s7_7,rfl⟩:=hR.shape;conv=>whnf
 intro ρe we re;exact⟨_,rfl,hw.tr re.bs,hR.out re (bl w)⟩
theorem Dt{S:Nat->Prop}{w:World}{v:Value}{p:Rat}(hS:Old S w)(hp:dc w S v p):
  dQ PG N.xN #[v] w (dU w fun v' w2=>cH w2 (Nw (fun _=>False) w w2) v' (-p)):=by
 have hw:cF w.heap.size w w:=cF.refl;replace hp:=hp.bz (S':=Cv S w.heap.size []) fun _ h=>.inl h;obtain⟨b1,a1,n1,c1,b2,a2,n2,c2,rfl⟩:=hp.shape;refine yI (by simp) ?_;conv=>whnf
 have r1:=hp.rl;have u1:=eo p;have u2:=eF p;refine bp (cE hw (Φ:=fun _ w' v w2=>cH w2 (Nw (fun _=>False) w' w2) v (p)) (fun ρ w' r=>fg (Rel.old r hS) (hp.rel r hS)) ?_);rintro ρ wa1 v1 wb1 iv1 r he hw h_ hn;clear hp;have hX:=hn.cQ (S:=fun _=>False) r.bm (mN h_);clear r;obtain⟨s1_0,s1_1,s1_2,s1_3,s1_4,s1_5,s1_6,s1_7,rfl⟩:=hX.shape;conv=>whnf
 have hXn:=hX.num;have hXd:=hX.den;clear hX;refine bw hτ dH [.x 0,.x 1,.x 3,.x 4,.x 2,.x 5,.x 6] (by kernel_rfl) (by kernel_rfl) ?_;conv=>whnf
 refine cE hw (Φ:=fun _ w' v w2=>cU w2 (Nw (fun _=>False) w' w2) v (-p.num)) (fun ρ w' r=>j4 (Rel.old r (bl w)) ((hXn.rel r (bl w)).l (k:=100000) (by omega)) (by omega)) ?_;rintro ρ wa2 v2 wb2 iv2 r he hw h_ hn;clear hXn;replace hXd:=hXd.bq r (bl w) he (mC h_);have hN:=hn.cQ (S:=fun _=>False) r.bm (mN h_);clear r;obtain⟨s2_0,s2_1,s2_2,s2_3,rfl⟩:=hN.shape;conv=>whnf
 refine cE hw (Φ:=fun _ w' v w2=>cH w2 (Nw (fun _=>False) w' w2) v (-p)) (fun ρ w' r=>show dQ _ _ _ _ (dU _ fun v w2=>cH w2 _ v (-p))from(show Rat.divInt (-p.num) p.den= -p by rw[<-Rat.neg_divInt,Rat.num_divInt_den])▸jD (Rel.old r (bl w)) ((hN.rel r (bl w)).l (k:=100000) (by rw[bh];omega)) ((hXd.rel r (bl w)).l (k:=100000) (by omega)) (by omega) (by omega) (ep p)) ?_;rintro ρ wa3 v3 wb3 iv3 r he hw h_ hn;clear hXd;clear hN;have hR:=hn.cQ (S:=fun _=>False) r.bm (mN h_);clear r;obtain⟨s3_0,s3_1,s3_2,s3_3,s3_4,s3_5,s3_6,s3_7,rfl⟩:=hR.shape;conv=>whnf
 intro ρe we re;exact⟨_,rfl,hw.tr re.bs,hR.out re (bl w)⟩
theorem Fz{S:Nat->Prop}{w:World}{v u:Value}{p q:Rat}(hS:Old S w)(hp:dc w S v p)(hq:dc w S u q):
  dQ PG N.xL #[v,u] w (dU w fun v' w2=>cH w2 (Nw (fun _=>False) w w2) v' (p-q)):=by
 have hw:cF w.heap.size w w:=cF.refl;replace hp:=hp.bz (S':=Cv S w.heap.size []) fun _ h=>.inl h;replace hq:=hq.bz (S':=Cv S w.heap.size []) fun _ h=>.inl h;obtain⟨b1,a1,n1,c1,b2,a2,n2,c2,rfl⟩:=hp.shape;obtain⟨b3,a3,n3,c3,b4,a4,n4,c4,rfl⟩:=hq.shape;refine yD (by simp) ?_;conv=>whnf
 have r1:=hp.rl;have r2:=hq.rl;have u1:=kA q;refine bw hτ dH [.x 0,.x 1,.x 2,.x 3,.x 4] (by kernel_rfl) (by kernel_rfl) ?_;conv=>whnf
 refine cE hw (Φ:=fun _ w' v w2=>cH w2 (Nw (fun _=>False) w' w2) v (-q)) (fun ρ w' r=>Dt (Rel.old r hS) (hq.rel r hS)) ?_;rintro ρ wa1 v1 wb1 iv1 r he hw h_ hn;replace hp:=hp.bq r hS he (mC h_);clear hq;have hN:=hn.cQ (S:=fun _=>False) r.bm (mN h_);clear r;obtain⟨s1_0,s1_1,s1_2,s1_3,s1_4,s1_5,s1_6,s1_7,rfl⟩:=hN.shape;conv=>whnf
 refine cE hw (Φ:=fun _ w' v w2=>cH w2 (Nw (fun _=>False) w' w2) v (p-q)) (fun ρ w' r=>(Rat.sub_eq_add_neg p q)▸BR (Rel.old r hS) (hp.rel r hS) (((hN.rel r (bl w)).l (by omega)).bz fun g hg=>Cv.false hg)) ?_;rintro ρ wa2 v2 wb2 iv2 r he hw h_ hn;clear hp;clear hN;have hR:=hn.cQ (S:=fun _=>False) r.bm (mN h_);clear r;obtain⟨s2_0,s2_1,s2_2,s2_3,s2_4,s2_5,s2_6,s2_7,rfl⟩:=hR.shape;conv=>whnf
 intro ρe we re;exact⟨_,rfl,hw.tr re.bs,hR.out re (bl w)⟩
theorem Dr{S:Nat->Prop}{w:World}{v u:Value}{p q:Rat}(hS:Old S w)(hp:dc w S v p)(hq:dc w S u q):
  dQ PG N.xH #[v,u] w (dU w fun v' _=>v'= .int .i64 (rs (p-q))):=by
 have hw:cF w.heap.size w w:=cF.refl;replace hp:=hp.bz (S':=Cv S w.heap.size []) fun _ h=>.inl h;replace hq:=hq.bz (S':=Cv S w.heap.size []) fun _ h=>.inl h;obtain⟨b1,a1,n1,c1,b2,a2,n2,c2,rfl⟩:=hp.shape;obtain⟨b3,a3,n3,c3,b4,a4,n4,c4,rfl⟩:=hq.shape;refine xz (by simp) ?_;conv=>whnf
 refine bp (cE hw (Φ:=fun _ w' v w2=>cH w2 (Nw (fun _=>False) w' w2) v (p-q)) (fun ρ w' r=>Fz (Rel.old r hS) (hp.rel r hS) (hq.rel r hS)) ?_);rintro ρ wa1 v1 wb1 iv1 r he hw h_ hn;clear hp;clear hq;have hR:=hn.cQ (S:=fun _=>False) r.bm (mN h_);clear r;obtain⟨s1_0,s1_1,s1_2,s1_3,s1_4,s1_5,s1_6,s1_7,rfl⟩:=hR.shape;conv=>whnf
 refine bp (cE hw (Φ:=fun _ w' v w2=>v= .int .i64 (rs (p-q))) (fun ρ w' r=>Ck (Rel.old r (bl w)) (hR.rel r (bl w))) ?_);rintro ρ wa2 v2 wb2 iv2 r he hw h_ rfl;clear hR;clear r;conv=>whnf
 intro ρe we re;exact⟨_,rfl,hw.tr re.bs,rfl⟩
theorem AS(n:Int)(w:World)(h1n: -9223372036854775808<=n)(h2n:n<=9223372036854775807):
  dQ PG N.mY #[.int .i64 n] w (dU w fun v' w2=>cH w2 (Nw (fun _=>False) w w2) v' (n:Rat)):=by
 have hw:cF w.heap.size w w:=cF.refl;have ha:=j2 h1n h2n;refine mj (by simp) ?_;conv=>whnf
 refine bp (cE hw (Φ:=fun _ w' v w2=>cU w2 (Nw (fun _=>False) w' w2) v (n)) (fun ρ w' r=>il n w' h1n h2n) ?_);rintro ρ wa1 v1 wb1 iv1 r he hw h_ hn;have hA:=hn.cQ (S:=fun _=>False) r.bm (mN h_);clear r;obtain⟨s1_0,s1_1,s1_2,s1_3,rfl⟩:=hA.shape;conv=>whnf
 refine bp (cE hw (Φ:=fun _ w' v w2=>cU w2 (Nw (fun _=>False) w' w2) v (1)) (fun ρ w' r=>il 1 w' (by decide) (by decide)) ?_);rintro ρ wa2 v2 wb2 iv2 r he hw h_ hn;replace hA:=hA.bq r (bl w) he (mC h_);have hB:=hn.cQ (S:=fun _=>False) r.bm (mN h_);clear r;obtain⟨s2_0,s2_1,s2_2,s2_3,rfl⟩:=hB.shape;conv=>whnf
 refine bp (cE hw (Φ:=fun _ w' v w2=>cH w2 (Nw (fun _=>False) w' w2) v ((n:Rat))) (fun ρ w' r=>(vX n)▸jD (Rel.old r (bl w)) ((hA.rel r (bl w)).l (k:=2) (by omega)) ((hB.rel r (bl w)).l (k:=2) (by decide)) (by omega) (by omega) (by decide)) ?_);rintro ρ wa3 v3 wb3 iv3 r he hw h_ hn;clear hA;clear hB;have hR:=hn.cQ (S:=fun _=>False) r.bm (mN h_);clear r;obtain⟨s3_0,s3_1,s3_2,s3_3,s3_4,s3_5,s3_6,s3_7,rfl⟩:=hR.shape;conv=>whnf
 intro ρe we re;exact⟨_,rfl,hw.tr re.bs,hR.out re (bl w)⟩
theorem Df(a b:Int)(w:World)(h1a: -9223372036854775808<=a)(h2a:a<=9223372036854775807)(h1b: -9223372036854775808<=b)(h2b:b<=9223372036854775807):
  dQ PG N.sA #[.int .i64 a,.int .i64 b] w (dU w fun v' w2=>(b=0∧v'= .tuple #[yg,.int .i64 9])∨(b≠0∧∃q,v'= .tuple #[q,.int .i64 0]∧cH w2 (Nw (fun _=>False) w w2) q (Rat.divInt a b))):=by
 have hw:cF w.heap.size w w:=cF.refl;have ha:=j2 h1a h2a;have hb':=j2 h1b h2b;refine ui (by simp) ?_;conv=>whnf
 refine cW.mk (fun h=>?_) (fun h=>?_)
 ·have h:b=0:=by simpa using h
  conv=>whnf
  intro ρe we re;exact⟨_,rfl,hw.tr re.bs,.inl ⟨h,rfl⟩⟩
 have h:b≠0:=by simpa using h
 conv=>whnf
 refine bp (cE hw (Φ:=fun _ w' v w2=>cU w2 (Nw (fun _=>False) w' w2) v (a)) (fun ρ w' r=>il a w' h1a h2a) ?_);rintro ρ wa1 v1 wb1 iv1 r he hw h_ hn;have hA:=hn.cQ (S:=fun _=>False) r.bm (mN h_);clear r;obtain⟨s1_0,s1_1,s1_2,s1_3,rfl⟩:=hA.shape;conv=>whnf
 refine bp (cE hw (Φ:=fun _ w' v w2=>cU w2 (Nw (fun _=>False) w' w2) v (b)) (fun ρ w' r=>il b w' h1b h2b) ?_);rintro ρ wa2 v2 wb2 iv2 r he hw h_ hn;replace hA:=hA.bq r (bl w) he (mC h_);have hB:=hn.cQ (S:=fun _=>False) r.bm (mN h_);clear r;obtain⟨s2_0,s2_1,s2_2,s2_3,rfl⟩:=hB.shape;conv=>whnf
 refine bp (cE hw (Φ:=fun _ w' v w2=>cH w2 (Nw (fun _=>False) w' w2) v (Rat.divInt a b)) (fun ρ w' r=>jD (Rel.old r (bl w)) ((hA.rel r (bl w)).l (k:=2) (by omega)) ((hB.rel r (bl w)).l (k:=2) (by omega)) (by omega) (by omega) h) ?_);rintro ρ wa3 v3 wb3 iv3 r he hw h_ hn;clear hA;clear hB;have hR:=hn.cQ (S:=fun _=>False) r.bm (mN h_);clear r;obtain⟨s3_0,s3_1,s3_2,s3_3,s3_4,s3_5,s3_6,s3_7,rfl⟩:=hR.shape;conv=>whnf
 intro ρe we re;exact⟨_,rfl,hw.tr re.bs,.inr ⟨h,_,rfl,hR.out re (bl w)⟩⟩
section
variable{S S':Nat->Prop}{H:Hp}{nx:Nat}{iv iv':Iv}{B:Nat}{w w' w2:World}{ρ:Nat->Sx.dN}{v:Value}{a:Int}{b:Int}
end
theorem gg.short{S:Nat->Prop}{w:World}{b:Bool}{a:Option Addr}{n c k:Nat}{z:Int}(h:gg w S (.agg #[.bool b,.slice a n c]) z)(hk:n<=k):eN w S (.agg #[.bool b,.slice a n c]) k z:=by
 obtain⟨b2,ls,⟨lv,e1,h3⟩,h2⟩:=h;obtain⟨a2,c2,e2,_⟩:=h3.sl;subst e2;simp only[Value.agg.injEq,Array.mk.injEq,List.cons.injEq,Value.bool.injEq,Value.slice.injEq,and_true]at e1;obtain⟨rfl,rfl,e3,rfl⟩:=e1;exact⟨_,ls,⟨_,by rw[e3],h3⟩,h2,by omega⟩
def jW(w:World)(S:Nat->Prop)(cs:List Value)(q:Rat):Prop:=∃b a n c b2 a2 n2 c2,cs=[.bool b,.slice a n c,.bool b2,.slice a2 n2 c2]∧dc w S (.agg #[.bool b,.slice a n c,.bool b2,.slice a2 n2 c2]) q
abbrev cS:=cd jW
abbrev vV:=dS cS
section
variable{S S':Nat->Prop}{H:Hp}{nx:Nat}{iv iv':Iv}{B:Nat}{w w' w2:World}{ρ:Nat->Sx.dN}{v:Value}{qs:List Rat}{cs:List Value}{q:Rat}
theorem jW.bu(h:jW w S cs q)(hk:∀g,S g->w2.heap[g]? =w.heap[g]?):jW w2 S cs q:=by
 obtain⟨b,a,n,c,b2,a2,n2,c2,h1,h2⟩:=h;exact⟨b,a,n,c,b2,a2,n2,c2,h1,h2.bu hk⟩
theorem jW.bz(h:jW w S cs q)(hk:∀g,S g->S' g):jW w S' cs q:=by
 obtain⟨b,a,n,c,b2,a2,n2,c2,h1,h2⟩:=h;exact⟨b,a,n,c,b2,a2,n2,c2,h1,h2.bz hk⟩
theorem cS.bu(h:cS w S v qs)(hk:∀g,S g->w2.heap[g]? =w.heap[g]?):cS w2 S v qs:=by
 obtain⟨css,h1,h2,h3,h4⟩:=h;exact⟨css,h1.bu hk,h2,h3,fun j cs x k1 k2=>(h4 j cs x k1 k2).bu hk⟩
theorem cS.bz(h:cS w S v qs)(hk:∀g,S g->S' g):cS w S' v qs:=by
 obtain⟨css,h1,h2,h3,h4⟩:=h;exact⟨css,h1.bz hk,h2,h3,fun j cs x k1 k2=>(h4 j cs x k1 k2).bz hk⟩
theorem vV.bz{M:List (List Rat)}(h:vV w S v M)(hk:∀g,S g->S' g):vV w S' v M:=by
 obtain⟨rv,h1,h2,h3⟩:=h;exact⟨rv,h1.bz hk,h2,fun i u x k1 k2=>cS.bz (h3 i u x k1 k2) hk⟩
end
section
variable{S S':Nat->Prop}{H:Hp}{nx:Nat}{iv iv':Iv}{B:Nat}{w w' w2:World}{ρ:Nat->Sx.dN}{v:Value}{qs:List Rat}
theorem cS.rel(h:cS w (Cv S B iv) v qs)(r:Rel H nx iv B w ρ w')(hS:∀g,S g->g<B):cS w' (Cv S B iv) v qs:=cS.bu h fun _ hg=>Rel.same r hS hg
theorem cS.old(h:cS w2 (Nw (Cv S B iv) w' w2) v qs)(hB:B<=w'.heap.size):cS w2 (Cv S B ((w'.heap.size,w2.heap.size)::iv)) v qs:=cS.bz h fun _ hg=>Nw.cv hg hB
end
section
variable{S S':Nat->Prop}{H:Hp}{nx:Nat}{iv iv':Iv}{B:Nat}{w w' w2:World}{ρ:Nat->Sx.dN}{v:Value}{M:List (List Rat)}
end
end Go.Ex
