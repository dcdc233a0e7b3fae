/- A part of the proof: texts X61 to X63. Each tells its conditions in its theorems. -/
import Derived.Test.YtkdcaknoaeicdaaGreatP7
/- The reference's integers: Divide. Printed by program. No condition but sizes. -/
namespace Go.Ex
open Go Go.Sx Go.Proofs

def intNil:Value:=.agg #[.bool false,.slice none 0 0]
theorem IntC.nil(w:World)(S:Nat→Prop):IntC w S (.agg #[.bool false,.slice none 0 0]) 0:=⟨[],⟨_,rfl,Limbs.nil _ _⟩,fun x h=>by simp at h,rfl⟩
theorem ColQ{Q:List Int}(h:∀c∈Q,0≤c∧c≤65535):0≤colval Q:=by
 induction Q with
 |nil=>exact Int.le_refl _
 |cons c r ih=>
  have h1:=h c List.mem_cons_self
  have h2:=ih fun x hx=>h x (List.mem_cons_of_mem _ hx)
  rw[colval]
  omega
theorem ln_digit{n:Int}(h:0≤n)(h2:n<4294967296):ln n.natAbs≤1:=ln_le.2 (by show n.natAbs<4294967296^1;omega)
theorem rDivide_c{S:Nat→Prop}{w:World}{v u:Value}{k l:Nat}{x y:Int}(hS:Old S w)(hx:IntL w S v k x)(hy:IntL w S u l y)(hk:k≤1000000)(hl:l≤1000000):
  Con PG N.ref01_Divide #[v,u] w (Ret w fun v' w2=>(y=0∧v'= .tuple #[intNil,intNil,.int .i64 9])∨(y≠0∧∃q r,v'= .tuple #[q,r,.int .i64 0]∧IntC w2 (Nw (fun _=>False) w w2) q (x / y)∧IntC w2 (Nw (fun _=>False) w w2) r (x % y))):=by
 have hw:Bel w.heap.size w w:=Bel.refl
 replace hx:=hx.weak (S':=Cv S w.heap.size []) fun _ h=>.inl h
 replace hy:=hy.weak (S':=Cv S w.heap.size []) fun _ h=>.inl h
 obtain⟨b1,a1,n1,c1,rfl⟩:=hx.shape
 obtain⟨b2,a2,n2,c2,rfl⟩:=hy.shape
 refine in_ref01_Divide (by simp) ?_
 conv=>whnf
 have hly:=hy.ln
 refine callE_S (cE hw (Φ:=fun _ w' v w2=>v= .int .i64 y.sign) (fun ρ w' r=>rSign_c (Rel.old r hS) (hy.rel r hS).r) ?_)
 rintro ρ wa1 v1 wb1 iv1 r he hw h_ rfl
 replace hx:=hx.past r hS he (mC h_)
 replace hy:=hy.past r hS he (mC h_)
 clear r
 conv=>whnf
 refine BrS.mk (fun hy0=>?_) (fun hy0=>?_)
 ·have hy0:y=0:=by rcases sign_cases y with h|h|h<;>simp[h]at hy0 ⊢
  conv=>whnf
  intro ρe we re
  exact⟨_,rfl,hw.tr re.bel,.inl ⟨hy0,rfl⟩⟩
 have hy0:y≠0:=fun e=>by rw[e]at hy0;simp at hy0
 conv=>whnf
 refine drawn_of_pi hτ hmix [.x 0,.x 3,.p 5,.x 1,.x 2,.x 4,.x 5,.x 6,.x 7] (by kernel_rfl) (by kernel_rfl) ?_
 conv=>whnf
 refine cE hw (Φ:=fun _ w' v w2=>IntC w2 (Nw (fun _=>False) w' w2) v ((x.natAbs:Int))) (fun ρ w' r=>rSize_c (Rel.old r hS) (hx.rel r hS) (by omega)) ?_
 rintro ρ wa2 v2 wb2 iv2 r he hw h_ hn
 replace hx:=hx.past r hS he (mC h_)
 replace hy:=hy.past r hS he (mC h_)
 have hsx:=hn.got (S:=fun _=>False) r.baseLe (mN h_)
 clear r
 obtain⟨s2_0,s2_1,s2_2,s2_3,rfl⟩:=hsx.shape
 conv=>whnf
 have hlx:=hx.ln
 refine cE hw (Φ:=fun _ w' v w2=>∃cs,ColsR w2 (Nw (fun _=>False) w' w2) v cs∧ColB cs (2*k) ((x.natAbs:Int))) (fun ρ w' r=>rcols_c (Rel.old r (oldF w)) ((hsx.rel r (oldF w)).l (k:=k) (by rw[Int.natAbs_natCast];exact hlx)) (by omega)) ?_
 rintro ρ wa3 v3 wb3 iv3 r he hw h_ ⟨ca,k1,bca⟩
 replace hx:=hx.past r hS he (mC h_)
 replace hy:=hy.past r hS he (mC h_)
 clear hsx
 have hca:=k1.got (S:=fun _=>False) r.baseLe (mN h_)
 clear r
 clear k1
 obtain⟨aca,cca,rfl,lca⟩:=hca.shape
 conv=>whnf
 refine cE hw (Φ:=fun _ w' v w2=>IntC w2 (Nw (fun _=>False) w' w2) v ((y.natAbs:Int))) (fun ρ w' r=>rSize_c (Rel.old r hS) (hy.rel r hS) (by omega)) ?_
 rintro ρ wa4 v4 wb4 iv4 r he hw h_ hn
 replace hx:=hx.past r hS he (mC h_)
 replace hy:=hy.past r hS he (mC h_)
 replace hca:=hca.past r (oldF w) he (mC h_)
 have hbb:=hn.got (S:=fun _=>False) r.baseLe (mN h_)
 clear r
 obtain⟨s4_0,s4_1,s4_2,s4_3,rfl⟩:=hbb.shape
 conv=>whnf
 generalize hB:(y.natAbs:Int)=B at*
 have l1:=bca.2.1
 have hB0:0<B:=by omega
 have lB:ln B.natAbs≤l:=by rw[←hB,Int.natAbs_natCast];exact hly
 conv=>whnf
 refine⟨(ca.length:Int)-1,by rw[wrap64]<;>omega,?_⟩
 conv=>whnf
 refine⟨Nat×List Int×Int×(Bool×Option Addr×Nat×Nat)×World×Iv,fun z=>⟨[(2,.o (.p 0 0)),(3,.o (.p 1 0)),(4,.o (.p 2 0)),(5,.o (.p 3 0)),(6,.o (.v (.int .i64 0))),(7,.o (.v (.slice aca ca.length cca))),(8,.o (.p 4 0)),(9,.o (.w 6 z.2.1.length)),(10,.o (.p 5 0)),(11,.o (.v (.int .i64 ((z.1:Int)-1))))],[(6,.vec T.int 1 (z.2.1.map (Value.int .i64))),(5,.box T.Int [.v (.bool z.2.2.2.1.1),.v (.slice z.2.2.2.1.2.1 z.2.2.2.1.2.2.1 z.2.2.2.1.2.2.2)]),(4,.box T.Int [.v (.bool s4_0),.v (.slice s4_1 s4_2 s4_3)]),(3,.box T.Int [.v (.bool false),.v (.slice none 0 0)]),(2,.box T.Int [.v (.bool false),.v (.slice none 0 0)]),(1,.box T.Int [.v (.bool b2),.v (.slice a2 n2 c2)]),(0,.box T.Int [.v (.bool b1),.v (.slice a1 n1 c1)])],7,z.2.2.2.2.2,z.2.2.2.2.1⟩,fun z=>z.1,
  fun z=>z.1≤ca.length∧z.2.1.length+z.1=ca.length∧(∀c∈z.2.1,0≤c∧c≤65535)∧colval (ca.drop z.1)=B*colval z.2.1+z.2.2.1∧0≤z.2.2.1∧z.2.2.1<B∧Bel w.heap.size w z.2.2.2.2.1∧IntL z.2.2.2.2.1 (Cv S w.heap.size z.2.2.2.2.2) (.agg #[.bool b1,.slice a1 n1 c1]) k x∧IntL z.2.2.2.2.1 (Cv S w.heap.size z.2.2.2.2.2) (.agg #[.bool b2,.slice a2 n2 c2]) l y∧ColsR z.2.2.2.2.1 (Cv (fun _=>False) w.heap.size z.2.2.2.2.2) (.slice aca ca.length cca) ca∧IntC z.2.2.2.2.1 (Cv (fun _=>False) w.heap.size z.2.2.2.2.2) (.agg #[.bool s4_0,.slice s4_1 s4_2 s4_3]) B∧IntC z.2.2.2.2.1 (Cv (fun _=>False) w.heap.size z.2.2.2.2.2) (.agg #[.bool z.2.2.2.1.1,.slice z.2.2.2.1.2.1 z.2.2.2.1.2.2.1 z.2.2.2.1.2.2.2]) z.2.2.1,?_,?_⟩
 ·intro ρ w' r
  exact⟨(ca.length,[],0,(false,none,0,0),w',iv4),⟨Nat.le_refl _,by simp,by simp,by simp[colval],Int.le_refl _,hB0,hw.tr r.bel,hx.rel r hS,hy.rel r hS,hca.rel r (oldF w),hbb.rel r (oldF w),IntC.nil _ _⟩,Sub.nil 9 T.int 1 rfl (by simp[ScE,SV.sc,At.sc]) r fun ρ1 r1=>
   Sub.gen [] r1 ⟨rfl,rfl,rfl,rfl,rfl,rfl,rfl,trivial⟩ ⟨rfl,rfl,rfl,rfl,rfl,rfl,rfl,rfl,rfl,rfl,trivial⟩ (by simp[ScH,Blk.scopd,At.sc]) (by simp[ScE,SV.sc,At.sc]) (by rfl) (fun lo hi h=>h)⟩
 clear hw hca hbb hx hy
 rintro⟨j,Q,R,⟨br,ar,nr,cr⟩,w1,iv⟩ ⟨hj,hQ,hd,hv,hR0,hR1,hw,hx,hy,hca,hbb,hr⟩
 dsimp only at hj hQ hd hv hR0 hR1 hw hx hy hca hbb hr ⊢
 conv=>whnf
 refine BrS.mk (fun hib=>?_) (fun hib=>?_)
 ·obtain⟨i,rfl⟩:∃i,j=i+1:=⟨j-1,by have:(j:Int)-1≥0:=of_decide_eq_true hib;omega⟩
  rw[show ((i+1:Nat):Int)-1=(i:Int) by omega]
  obtain⟨d,hd1⟩:∃d,ca[i]? =some d:=⟨_,List.getElem?_eq_getElem (by omega)⟩
  have hd0:=bca.2.2.1 d (List.mem_of_getElem? hd1)
  have hd2:=bca.2.2.2 (by omega) d (List.mem_of_getElem? hd1)
  have lR:ln R.natAbs≤l:=Nat.le_trans (ln_mono (by omega)) lB
  have lU:ln (65536:Int).natAbs≤1:=by decide
  have m1:=ln_mul_abs R 65536
  have m2:=ln_digit (n:=d) hd2 (by omega)
  have m3:=ln_add_int (R*65536) d
  conv=>whnf
  refine drawn_of_pi hτ hmix [.x 0,.x 3,.x 4,.x 5,.x 6,.x 1,.x 2,.x 7,.x 8,.x 9] (by kernel_rfl) (by kernel_rfl) ?_
  conv=>whnf
  obtain⟨ad,ha0,q1,q2⟩:=hca.load hd1
  refine⟨ad,ha0,⟨by omega,by omega⟩,?_⟩
  conv=>whnf
  refine⟨.int .i64 d,fun ρ w' r=>?_,?_⟩
  ·rw[Int.toNat_natCast,cell_of_heap (w:=w1) (w2:=w') (by rw[addB];exact Rel.same (S:=fun _=>False) r (oldF w) q1)]
   exact q2
  clear q1 q2 ha0
  conv=>whnf
  refine cE hw (Φ:=fun _ w' v w2=>IntC w2 (Nw (fun _=>False) w' w2) v (65536)) (fun ρ w' r=>rOf_c _ w' (by decide) (by decide)) ?_
  rintro ρ wa5 v5 wb5 iv5 r he hw h_ hn
  replace hx:=hx.past r hS he (mC h_)
  replace hy:=hy.past r hS he (mC h_)
  replace hca:=hca.past r (oldF w) he (mC h_)
  replace hbb:=hbb.past r (oldF w) he (mC h_)
  replace hr:=hr.past r (oldF w) he (mC h_)
  have hu:=hn.got (S:=fun _=>False) r.baseLe (mN h_)
  clear r
  obtain⟨s5_0,s5_1,s5_2,s5_3,rfl⟩:=hu.shape
  conv=>whnf
  refine cE hw (Φ:=fun _ w' v w2=>IntC w2 (Nw (fun _=>False) w' w2) v (R*65536)) (fun ρ w' r=>rProd_c (Rel.old r (oldF w)) ((hr.rel r (oldF w)).l (k:=1000001) (by omega)) ((hu.rel r (oldF w)).l (k:=1000001) (by omega)) (by omega) (by omega)) ?_
  rintro ρ wa6 v6 wb6 iv6 r he hw h_ hn
  replace hx:=hx.past r hS he (mC h_)
  replace hy:=hy.past r hS he (mC h_)
  replace hca:=hca.past r (oldF w) he (mC h_)
  replace hbb:=hbb.past r (oldF w) he (mC h_)
  clear hr
  clear hu
  have hp:=hn.got (S:=fun _=>False) r.baseLe (mN h_)
  clear r
  obtain⟨s6_0,s6_1,s6_2,s6_3,rfl⟩:=hp.shape
  conv=>whnf
  refine cE hw (Φ:=fun _ w' v w2=>IntC w2 (Nw (fun _=>False) w' w2) v (d)) (fun ρ w' r=>rOf_c _ w' (by omega) (by omega)) ?_
  rintro ρ wa7 v7 wb7 iv7 r he hw h_ hn
  replace hx:=hx.past r hS he (mC h_)
  replace hy:=hy.past r hS he (mC h_)
  replace hca:=hca.past r (oldF w) he (mC h_)
  replace hbb:=hbb.past r (oldF w) he (mC h_)
  replace hp:=hp.past r (oldF w) he (mC h_)
  have hdd:=hn.got (S:=fun _=>False) r.baseLe (mN h_)
  clear r
  obtain⟨s7_0,s7_1,s7_2,s7_3,rfl⟩:=hdd.shape
  conv=>whnf
  refine cE hw (Φ:=fun _ w' v w2=>IntC w2 (Nw (fun _=>False) w' w2) v (R*65536+d)) (fun ρ w' r=>rSum_c (Rel.old r (oldF w)) ((hp.rel r (oldF w)).l (k:=1000002) (by omega)) ((hdd.rel r (oldF w)).l (k:=1000002) (by omega)) (by omega) (by omega)) ?_
  rintro ρ wa8 v8 wb8 iv8 r he hw h_ hn
  replace hx:=hx.past r hS he (mC h_)
  replace hy:=hy.past r hS he (mC h_)
  replace hca:=hca.past r (oldF w) he (mC h_)
  replace hbb:=hbb.past r (oldF w) he (mC h_)
  clear hp
  clear hdd
  have hr:=hn.got (S:=fun _=>False) r.baseLe (mN h_)
  clear r
  obtain⟨s8_0,s8_1,s8_2,s8_3,rfl⟩:=hr.shape
  conv=>whnf
  generalize hR2:R*65536+d=R2 at*
  have hR20:0≤R2:=by omega
  have hR21:R2<65536*B:=by omega
  refine⟨Nat×Nat×Nat×World×Iv,fun z=>⟨[(2,.o (.p 0 0)),(3,.o (.p 1 0)),(4,.o (.p 2 0)),(5,.o (.p 3 0)),(6,.o (.v (.int .i64 0))),(7,.o (.v (.slice aca ca.length cca))),(8,.o (.p 4 0)),(9,.o (.w 6 Q.length)),(10,.o (.p 5 0)),(11,.o (.v (.int .i64 ((i:Int))))),(12,.o (.v (.int .i64 ((z.1:Nat):Int)))),(13,.o (.v (.int .i64 ((z.2.2.1:Nat):Int))))],[(6,.vec T.int 1 (Q.map (Value.int .i64))),(5,.box T.Int [.v (.bool s8_0),.v (.slice s8_1 s8_2 s8_3)]),(4,.box T.Int [.v (.bool s4_0),.v (.slice s4_1 s4_2 s4_3)]),(3,.box T.Int [.v (.bool false),.v (.slice none 0 0)]),(2,.box T.Int [.v (.bool false),.v (.slice none 0 0)]),(1,.box T.Int [.v (.bool b2),.v (.slice a2 n2 c2)]),(0,.box T.Int [.v (.bool b1),.v (.slice a1 n1 c1)])],7,z.2.2.2.2,z.2.2.2.1⟩,fun z=>z.2.1,
   fun z=>z.2.2.1=2^z.2.1 / 2∧z.1+2^z.2.1≤65536∧((z.1:Nat):Int)*B≤R2∧R2<((z.1+2^z.2.1:Nat):Int)*B∧Bel w.heap.size w z.2.2.2.1∧IntL z.2.2.2.1 (Cv S w.heap.size z.2.2.2.2) (.agg #[.bool b1,.slice a1 n1 c1]) k x∧IntL z.2.2.2.1 (Cv S w.heap.size z.2.2.2.2) (.agg #[.bool b2,.slice a2 n2 c2]) l y∧ColsR z.2.2.2.1 (Cv (fun _=>False) w.heap.size z.2.2.2.2) (.slice aca ca.length cca) ca∧IntC z.2.2.2.1 (Cv (fun _=>False) w.heap.size z.2.2.2.2) (.agg #[.bool s4_0,.slice s4_1 s4_2 s4_3]) B∧IntC z.2.2.2.1 (Cv (fun _=>False) w.heap.size z.2.2.2.2) (.agg #[.bool s8_0,.slice s8_1 s8_2 s8_3]) R2,?_,?_⟩
  ·intro ρ w' r
   exact⟨(0,16,32768,w',iv8),⟨by show 32768=2^16 / 2;decide,by show 0+2^16≤65536;decide,by dsimp only;omega,by dsimp only;rw[show ((0+2^16:Nat):Int)=65536 from rfl];exact hR21,hw.tr r.bel,hx.rel r hS,hy.rel r hS,hca.rel r (oldF w),hbb.rel r (oldF w),hr.rel r (oldF w)⟩,
    Sub.gen [] r ⟨rfl,rfl,rfl,rfl,rfl,rfl,rfl,trivial⟩ ⟨rfl,rfl,rfl,rfl,rfl,rfl,rfl,rfl,rfl,rfl,rfl,rfl,trivial⟩ (by simp[ScH,Blk.scopd,At.sc]) (by simp[ScE,SV.sc,At.sc]) (by rfl) (fun lo hi h=>h)⟩
  clear hw hca hbb hx hy hr
  rintro⟨n,e,bit,w5,iv⟩ ⟨hn0,hn1,hn2,hn3,hw,hx,hy,hca,hbb,hr⟩
  dsimp only at hn0 hn1 hn2 hn3 hw hx hy hca hbb hr ⊢
  conv=>whnf
  refine BrS.mk (fun hbit=>?_) (fun hbit=>?_)
  ·have hbit:0<2^e / 2:=by have:((bit:Nat):Int)>0:=of_decide_eq_true hbit;omega
   obtain⟨f,rfl⟩:∃f,e=f+1:=by
    cases e with
    |zero=>exact absurd hbit (by decide)
    |succ f=>exact⟨f,rfl⟩
   have e1:2^(f+1)=2*2^f:=by rw[Nat.pow_succ];omega
   have e2:2^(f+1) / 2=2^f:=by omega
   obtain rfl:bit=2^f:=by omega
   clear hn0
   rw[e1]at hn1 hn3
   clear hbit e2
   have hp0:=Nat.two_pow_pos f
   generalize hp:2^f=p at*
   have m4:=ln_digit (n:=((n+p:Nat):Int)) (by omega) (by omega)
   have m5:=ln_mul_abs B ((n+p:Nat):Int)
   have m6:ln R2.natAbs≤l+1:=by
    refine Nat.le_trans (ln_mono (b:=((65536:Int)*B).natAbs) (by omega)) ?_
    have:=ln_mul_abs 65536 B
    omega
   conv=>whnf
   refine drawn_of_pi hτ hmix [.x 0,.x 1,.x 2,.x 3,.x 6,.x 4,.x 5,.x 7,.x 8] (by kernel_rfl) (by kernel_rfl) ?_
   conv=>whnf
   refine⟨((n+p:Nat):Int),by rw[wrap64]<;>omega,?_⟩
   conv=>whnf
   refine cE hw (Φ:=fun _ w' v w2=>IntC w2 (Nw (fun _=>False) w' w2) v (((n+p:Nat):Int))) (fun ρ w' r=>rOf_c _ w' (by omega) (by omega)) ?_
   rintro ρ wa9 v9 wb9 iv9 r he hw h_ hn
   replace hx:=hx.past r hS he (mC h_)
   replace hy:=hy.past r hS he (mC h_)
   replace hca:=hca.past r (oldF w) he (mC h_)
   replace hbb:=hbb.past r (oldF w) he (mC h_)
   replace hr:=hr.past r (oldF w) he (mC h_)
   have hu:=hn.got (S:=fun _=>False) r.baseLe (mN h_)
   clear r
   obtain⟨s9_0,s9_1,s9_2,s9_3,rfl⟩:=hu.shape
   conv=>whnf
   refine cE hw (Φ:=fun _ w' v w2=>IntC w2 (Nw (fun _=>False) w' w2) v (B*((n+p:Nat):Int))) (fun ρ w' r=>rProd_c (Rel.old r (oldF w)) ((hbb.rel r (oldF w)).l (k:=1000001) (by omega)) ((hu.rel r (oldF w)).l (k:=1000001) (by omega)) (by omega) (by omega)) ?_
   rintro ρ wa10 v10 wb10 iv10 r he hw h_ hn
   replace hx:=hx.past r hS he (mC h_)
   replace hy:=hy.past r hS he (mC h_)
   replace hca:=hca.past r (oldF w) he (mC h_)
   replace hbb:=hbb.past r (oldF w) he (mC h_)
   replace hr:=hr.past r (oldF w) he (mC h_)
   clear hu
   have hp2:=hn.got (S:=fun _=>False) r.baseLe (mN h_)
   clear r
   obtain⟨s10_0,s10_1,s10_2,s10_3,rfl⟩:=hp2.shape
   conv=>whnf
   refine cE hw (Φ:=fun _ w' v w2=>v= .int .i64 (B*((n+p:Nat):Int)-R2).sign) (fun ρ w' r=>rCmpInt_c (Rel.old r (oldF w)) ((hp2.rel r (oldF w)).l (k:=1000001) (by omega)) ((hr.rel r (oldF w)).l (k:=1000001) (by omega)) (by omega) (by omega)) ?_
   rintro ρ wa11 v11 wb11 iv11 r he hw h_ rfl
   replace hx:=hx.past r hS he (mC h_)
   replace hy:=hy.past r hS he (mC h_)
   replace hca:=hca.past r (oldF w) he (mC h_)
   replace hbb:=hbb.past r (oldF w) he (mC h_)
   replace hr:=hr.past r (oldF w) he (mC h_)
   clear hp2
   clear r
   conv=>whnf
   have hs:=sign_cases (B*((n+p:Nat):Int)-R2)
   refine BrS.mk (fun hle=>?_) (fun hle=>?_)
   ·have hle:=of_decide_eq_true hle
    have hle2:((n+p:Nat):Int)*B≤R2:=by rw[Int.mul_comm];omega
    conv=>whnf
    refine⟨((n+p:Nat):Int),by rw[wrap64]<;>omega,?_⟩
    conv=>whnf
    refine⟨by decide,((2^f / 2:Nat):Int),by rw[hp,show((p:Nat):Int).tdiv 2=((p / 2:Nat):Int)from rfl,wrap64]<;>omega,?_⟩
    conv=>whnf
    intro ρ3 w3 r3
    exact⟨(n+p,f,2^f / 2,w3,_),⟨rfl,by dsimp only;omega,hle2,by dsimp only;rw[hp,show n+p+p=n+2*p by omega];exact hn3,hw.tr r3.bel,hx.rel r3 hS,hy.rel r3 hS,hca.rel r3 (oldF w),hbb.rel r3 (oldF w),hr.rel r3 (oldF w)⟩,Sub.gen [] r3 ⟨rfl,rfl,rfl,rfl,rfl,rfl,rfl,trivial⟩ ⟨rfl,rfl,rfl,rfl,rfl,rfl,rfl,rfl,rfl,rfl,rfl,rfl,trivial⟩ (by simp[ScH,Blk.scopd,At.sc]) (by simp[ScE,SV.sc,At.sc]) (by rfl) (fun lo hi h=>h),by dsimp only;omega⟩
   have hle:=of_decide_eq_false hle
   have hle2:R2<((n+p:Nat):Int)*B:=by rw[Int.mul_comm];omega
   conv=>whnf
   refine⟨by decide,((2^f / 2:Nat):Int),by rw[hp,show((p:Nat):Int).tdiv 2=((p / 2:Nat):Int)from rfl,wrap64]<;>omega,?_⟩
   conv=>whnf
   intro ρ3 w3 r3
   exact⟨(n,f,2^f / 2,w3,_),⟨rfl,by dsimp only;omega,hn2,by dsimp only;rw[hp];exact hle2,hw.tr r3.bel,hx.rel r3 hS,hy.rel r3 hS,hca.rel r3 (oldF w),hbb.rel r3 (oldF w),hr.rel r3 (oldF w)⟩,Sub.gen [] r3 ⟨rfl,rfl,rfl,rfl,rfl,rfl,rfl,trivial⟩ ⟨rfl,rfl,rfl,rfl,rfl,rfl,rfl,rfl,rfl,rfl,rfl,rfl,trivial⟩ (by simp[ScH,Blk.scopd,At.sc]) (by simp[ScE,SV.sc,At.sc]) (by rfl) (fun lo hi h=>h),by dsimp only;omega⟩
  have hbit:¬0<2^e / 2:=by have:¬((bit:Nat):Int)>0:=of_decide_eq_false hbit;omega
  obtain rfl:e=0:=by
   cases e with
   |zero=>rfl
   |succ f=>exact absurd (show 0<2^(f+1) / 2 by rw[Nat.pow_succ];have:=Nat.two_pow_pos f;omega) hbit
  rw[show n+2^0=n+1 from rfl]at hn1 hn3
  clear hbit
  rw[Int.natCast_add,Int.add_mul]at hn3
  rw[Int.mul_comm]at hn2
  rw[Int.mul_comm]at hn3
  have m4:=ln_digit (n:=((n:Nat):Int)) (by omega) (by omega)
  have m5:=ln_mul_abs B ((n:Nat):Int)
  have m6:ln R2.natAbs≤l+1:=by
   refine Nat.le_trans (ln_mono (b:=((65536:Int)*B).natAbs) (by omega)) ?_
   have:=ln_mul_abs 65536 B
   omega
  conv=>whnf
  refine drawn_of_pi hτ hmix [.x 0,.x 1,.x 2,.x 3,.x 4,.x 5,.x 6] (by kernel_rfl) (by kernel_rfl) ?_
  conv=>whnf
  refine cE hw (Φ:=fun _ w' v w2=>IntC w2 (Nw (fun _=>False) w' w2) v (((n:Nat):Int))) (fun ρ w' r=>rOf_c _ w' (by omega) (by omega)) ?_
  rintro ρ wa9 v9 wb9 iv9 r he hw h_ hn
  replace hx:=hx.past r hS he (mC h_)
  replace hy:=hy.past r hS he (mC h_)
  replace hca:=hca.past r (oldF w) he (mC h_)
  replace hbb:=hbb.past r (oldF w) he (mC h_)
  replace hr:=hr.past r (oldF w) he (mC h_)
  have hu:=hn.got (S:=fun _=>False) r.baseLe (mN h_)
  clear r
  obtain⟨s9_0,s9_1,s9_2,s9_3,rfl⟩:=hu.shape
  conv=>whnf
  refine cE hw (Φ:=fun _ w' v w2=>IntC w2 (Nw (fun _=>False) w' w2) v (B*((n:Nat):Int))) (fun ρ w' r=>rProd_c (Rel.old r (oldF w)) ((hbb.rel r (oldF w)).l (k:=1000001) (by omega)) ((hu.rel r (oldF w)).l (k:=1000001) (by omega)) (by omega) (by omega)) ?_
  rintro ρ wa10 v10 wb10 iv10 r he hw h_ hn
  replace hx:=hx.past r hS he (mC h_)
  replace hy:=hy.past r hS he (mC h_)
  replace hca:=hca.past r (oldF w) he (mC h_)
  replace hbb:=hbb.past r (oldF w) he (mC h_)
  replace hr:=hr.past r (oldF w) he (mC h_)
  clear hu
  have hp2:=hn.got (S:=fun _=>False) r.baseLe (mN h_)
  clear r
  obtain⟨s10_0,s10_1,s10_2,s10_3,rfl⟩:=hp2.shape
  conv=>whnf
  refine cE hw (Φ:=fun _ w' v w2=>IntC w2 (Nw (fun _=>False) w' w2) v (R2-B*((n:Nat):Int))) (fun ρ w' r=>rDiff_c (Rel.old r (oldF w)) ((hr.rel r (oldF w)).l (k:=1000002) (by omega)) ((hp2.rel r (oldF w)).l (k:=1000002) (by omega)) (by omega) (by omega)) ?_
  rintro ρ wa11 v11 wb11 iv11 r he hw h_ hn
  replace hx:=hx.past r hS he (mC h_)
  replace hy:=hy.past r hS he (mC h_)
  replace hca:=hca.past r (oldF w) he (mC h_)
  replace hbb:=hbb.past r (oldF w) he (mC h_)
  clear hr
  clear hp2
  have hr3:=hn.got (S:=fun _=>False) r.baseLe (mN h_)
  clear r
  obtain⟨s11_0,s11_1,s11_2,s11_3,rfl⟩:=hr3.shape
  conv=>whnf
  generalize hR3:R2-B*((n:Nat):Int)=R3 at*
  refine .inl ?_
  conv=>whnf
  refine⟨by rw[List.length_map,Nat.mul_one],fun u hu=>by obtain⟨_,_,rfl⟩:=List.mem_map.1 hu;rfl,?_⟩
  conv=>whnf
  refine⟨rfl,by omega,by unfold maxLen;omega,?_⟩
  conv=>whnf
  refine⟨(i:Int)-1,by rw[wrap64]<;>omega,?_⟩
  conv=>whnf
  intro ρ3 w3 r3
  have hv2:colval (ca.drop i)=B*colval (((n:Nat):Int)::Q)+R3:=by
   rw[colval_drop hd1,colval]
   exact rdiv_step hv (by rw[←hR3,←hR2];omega)
  exact⟨(i,((n:Nat):Int)::Q,R3,(s11_0,s11_1,s11_2,s11_3),w3,_),⟨by dsimp only;omega,by dsimp only;rw[List.length_cons];omega,fun c hc=>by
    rcases List.mem_cons.1 hc with rfl|hc
    ·omega
    ·exact hd c hc,hv2,by dsimp only;omega,by dsimp only;omega,hw.tr r3.bel,hx.rel r3 hS,hy.rel r3 hS,hca.rel r3 (oldF w),hbb.rel r3 (oldF w),hr3.rel r3 (oldF w)⟩,
   Sub.gen [(6,8)] r3 ⟨rfl,rfl,rfl,rfl,rfl,rfl,rfl,trivial⟩ ⟨rfl,rfl,rfl,rfl,rfl,rfl,rfl,by dsimp only;rw[show (((n:Nat):Int)::Q).length=1+Q.length by rw[List.length_cons,Nat.add_comm]];rfl,rfl,rfl,trivial⟩ (by simp[ScH,Blk.scopd,At.sc]) (by simp[ScE,SV.sc,At.sc]) (by rfl) (fun lo hi h=>h),by dsimp only;omega⟩
 obtain rfl:j=0:=by have:¬(j:Int)-1≥0:=of_decide_eq_false hib;omega
 rw[List.drop_zero,bca.1]at hv
 rw[←hB]at hv hR1
 have key:=div_sign hy0 hv hR0 hR1
 rw[hB]at key hv hR1
 have lq:ln (colval Q).natAbs≤k+1:=by
  have h1:=ColQ hd
  have h2:1*colval Q≤B*colval Q:=Int.mul_le_mul_of_nonneg_right (by omega) h1
  exact Nat.le_trans (ln_mono (b:=x.natAbs) (by omega)) (by omega)
 have lR:ln R.natAbs≤l:=Nat.le_trans (ln_mono (by omega)) lB
 have sx:=sign_cases x
 have sy:=sign_cases y
 have sr:=sign_cases R
 clear hca
 conv=>whnf
 refine callE_S (cE hw (Φ:=fun _ w' v w2=>IntC w2 (Nw (fun _=>False) w' w2) v (colval Q)) (fun ρ w' r=>rsettledOwn_c r rfl rfl (by omega) (fun c hc=>by have:=hd c hc;omega) rfl) ?_)
 rintro ρ wa5 v5 wb5 iv5 r he hw h_ hn
 replace hx:=hx.past r hS he (mC h_)
 replace hy:=hy.past r hS he (mC h_)
 replace hbb:=hbb.past r (oldF w) he (mC h_)
 replace hr:=hr.past r (oldF w) he (mC h_)
 have hq:=hn.got (S:=fun _=>False) r.baseLe (mN h_)
 clear r
 obtain⟨s5_0,s5_1,s5_2,s5_3,rfl⟩:=hq.shape
 conv=>whnf
 refine callE_S (cE hw (Φ:=fun _ w' v w2=>v= .int .i64 x.sign) (fun ρ w' r=>rSign_c (Rel.old r hS) (hx.rel r hS).r) ?_)
 rintro ρ wa6 v6 wb6 iv6 r he hw h_ rfl
 replace hx:=hx.past r hS he (mC h_)
 replace hy:=hy.past r hS he (mC h_)
 replace hbb:=hbb.past r (oldF w) he (mC h_)
 replace hr:=hr.past r (oldF w) he (mC h_)
 replace hq:=hq.past r (oldF w) he (mC h_)
 clear r
 conv=>whnf
 refine BrS.mk (fun hxs=>?_) (fun hxs=>?_)
 ·have hxs:=of_decide_eq_true hxs
  conv=>whnf
  refine callE_S (cE hw (Φ:=fun _ w' v w2=>v= .int .i64 R.sign) (fun ρ w' r=>rSign_c (Rel.old r (oldF w)) (hr.rel r (oldF w)).r) ?_)
  rintro ρ wa7 v7 wb7 iv7 r he hw h_ rfl
  replace hx:=hx.past r hS he (mC h_)
  replace hy:=hy.past r hS he (mC h_)
  replace hbb:=hbb.past r (oldF w) he (mC h_)
  replace hr:=hr.past r (oldF w) he (mC h_)
  replace hq:=hq.past r (oldF w) he (mC h_)
  clear r
  conv=>whnf
  refine BrS.mk (fun hrs=>?_) (fun hrs=>?_)
  ·have hrs:=of_decide_eq_true hrs
   rw[if_pos (show x<0∧0<R by omega),if_pos (show x<0∧0<R by omega)]at key
   have m7:=ln_add_int (colval Q) 1
   have m8:ln (1:Int).natAbs≤1:=by decide
   have m9:ln (B-R).natAbs≤l:=Nat.le_trans (ln_mono (by omega)) lB
   conv=>whnf
   refine drawn_of_pi hτ hmix [.x 0,.x 3,.x 4,.x 1,.x 2,.x 5,.x 6,.x 7] (by kernel_rfl) (by kernel_rfl) ?_
   conv=>whnf
   refine cE hw (Φ:=fun _ w' v w2=>IntC w2 (Nw (fun _=>False) w' w2) v (1)) (fun ρ w' r=>rOf_c _ w' (by omega) (by omega)) ?_
   rintro ρ wa8 v8 wb8 iv8 r he hw h_ hn
   replace hx:=hx.past r hS he (mC h_)
   replace hy:=hy.past r hS he (mC h_)
   replace hbb:=hbb.past r (oldF w) he (mC h_)
   replace hr:=hr.past r (oldF w) he (mC h_)
   replace hq:=hq.past r (oldF w) he (mC h_)
   have hu:=hn.got (S:=fun _=>False) r.baseLe (mN h_)
   clear r
   obtain⟨s8_0,s8_1,s8_2,s8_3,rfl⟩:=hu.shape
   conv=>whnf
   refine cE hw (Φ:=fun _ w' v w2=>IntC w2 (Nw (fun _=>False) w' w2) v (colval Q+1)) (fun ρ w' r=>rSum_c (Rel.old r (oldF w)) ((hq.rel r (oldF w)).l (k:=1000003) (by omega)) ((hu.rel r (oldF w)).l (k:=1000003) (by omega)) (by omega) (by omega)) ?_
   rintro ρ wa9 v9 wb9 iv9 r he hw h_ hn
   replace hx:=hx.past r hS he (mC h_)
   replace hy:=hy.past r hS he (mC h_)
   replace hbb:=hbb.past r (oldF w) he (mC h_)
   replace hr:=hr.past r (oldF w) he (mC h_)
   clear hq
   clear hu
   have hq2:=hn.got (S:=fun _=>False) r.baseLe (mN h_)
   clear r
   obtain⟨s9_0,s9_1,s9_2,s9_3,rfl⟩:=hq2.shape
   conv=>whnf
   refine cE hw (Φ:=fun _ w' v w2=>IntC w2 (Nw (fun _=>False) w' w2) v (B-R)) (fun ρ w' r=>rDiff_c (Rel.old r (oldF w)) ((hbb.rel r (oldF w)).l (k:=1000003) (by omega)) ((hr.rel r (oldF w)).l (k:=1000003) (by omega)) (by omega) (by omega)) ?_
   rintro ρ wa10 v10 wb10 iv10 r he hw h_ hn
   replace hx:=hx.past r hS he (mC h_)
   replace hy:=hy.past r hS he (mC h_)
   clear hbb
   clear hr
   replace hq2:=hq2.past r (oldF w) he (mC h_)
   have hr2:=hn.got (S:=fun _=>False) r.baseLe (mN h_)
   clear r
   obtain⟨s10_0,s10_1,s10_2,s10_3,rfl⟩:=hr2.shape
   conv=>whnf
   refine drawn_of_pi hτ hmix [.x 0,.x 3,.x 1,.x 2,.x 4,.x 5,.x 6] (by kernel_rfl) (by kernel_rfl) ?_
   conv=>whnf
   refine cE hw (Φ:=fun _ w' v w2=>v= .int .i64 x.sign) (fun ρ w' r=>rSign_c (Rel.old r hS) (hx.rel r hS).r) ?_
   rintro ρ wa11 v11 wb11 iv11 r he hw h_ rfl
   clear hx
   replace hy:=hy.past r hS he (mC h_)
   replace hq2:=hq2.past r (oldF w) he (mC h_)
   replace hr2:=hr2.past r (oldF w) he (mC h_)
   clear r
   conv=>whnf
   refine cE hw (Φ:=fun _ w' v w2=>v= .int .i64 y.sign) (fun ρ w' r=>rSign_c (Rel.old r hS) (hy.rel r hS).r) ?_
   rintro ρ wa12 v12 wb12 iv12 r he hw h_ rfl
   clear hy
   replace hq2:=hq2.past r (oldF w) he (mC h_)
   replace hr2:=hr2.past r (oldF w) he (mC h_)
   clear r
   conv=>whnf
   refine BrS.mk (fun hne=>?_) (fun hne=>?_)
   ·have hn:¬((x<0)↔(y<0)):=fun e=>by
     have e2:decide (x.sign<0)=decide (y.sign<0):=decide_eq_decide.2 (by omega)
     rw[e2]at hne
     simp at hne
    rw[if_neg hn]at key
    conv=>whnf
    refine callE_S (cE hw (Φ:=fun _ w' v w2=>IntC w2 (Nw (fun _=>False) w' w2) v (-(colval Q+1))) (fun ρ w' r=>rMinus_c (Rel.old r (oldF w)) ((hq2.rel r (oldF w)).l (k:=1000003) (by omega)) (by omega)) ?_)
    rintro ρ wa13 v13 wb13 iv13 r he hw h_ hn
    clear hq2
    replace hr2:=hr2.past r (oldF w) he (mC h_)
    have hq3:=hn.got (S:=fun _=>False) r.baseLe (mN h_)
    clear r hn
    obtain⟨s13_0,s13_1,s13_2,s13_3,rfl⟩:=hq3.shape
    conv=>whnf
    refine drawn_of_tr hτ hmix (.two 0 (.two 1 (.one 2 (.one 3 (.one 4 .nil))) 2 (.one 1 (.one 3 (.one 4 .nil)))) 1 (.one 0 (.one 2 (.one 3 (.one 4 .nil))))) (by kernel_rfl) ?_
    conv=>whnf
    refine⟨?_,?_⟩
    ·conv=>whnf
     refine⟨?_,?_⟩
     ·conv=>whnf
      intro ρe we re
      exact⟨_,rfl,hw.tr re.bel,.inr ⟨hy0,_,_,rfl,key.1▸hq3.out re (oldF w),key.2▸hr2.out re (oldF w)⟩⟩
     ·conv=>whnf
      intro ρe we re
      exact⟨_,rfl,hw.tr re.bel,.inr ⟨hy0,_,_,rfl,key.1▸hq3.out re (oldF w),key.2▸hr2.out re (oldF w)⟩⟩
    ·conv=>whnf
     intro ρe we re
     exact⟨_,rfl,hw.tr re.bel,.inr ⟨hy0,_,_,rfl,key.1▸hq3.out re (oldF w),key.2▸hr2.out re (oldF w)⟩⟩
   have hn:(x<0)↔(y<0):=by
    have e2:decide (x.sign<0)=decide (y.sign<0):=by simpa using hne
    have:=decide_eq_decide.1 e2
    omega
   rw[if_pos hn]at key
   conv=>whnf
   refine drawn_of_tr hτ hmix (.two 0 (.two 1 (.one 2 (.one 3 (.one 4 .nil))) 2 (.one 1 (.one 3 (.one 4 .nil)))) 1 (.one 0 (.one 2 (.one 3 (.one 4 .nil))))) (by kernel_rfl) ?_
   conv=>whnf
   refine⟨?_,?_⟩
   ·conv=>whnf
    refine⟨?_,?_⟩
    ·conv=>whnf
     intro ρe we re
     exact⟨_,rfl,hw.tr re.bel,.inr ⟨hy0,_,_,rfl,key.1▸hq2.out re (oldF w),key.2▸hr2.out re (oldF w)⟩⟩
    ·conv=>whnf
     intro ρe we re
     exact⟨_,rfl,hw.tr re.bel,.inr ⟨hy0,_,_,rfl,key.1▸hq2.out re (oldF w),key.2▸hr2.out re (oldF w)⟩⟩
   ·conv=>whnf
    intro ρe we re
    exact⟨_,rfl,hw.tr re.bel,.inr ⟨hy0,_,_,rfl,key.1▸hq2.out re (oldF w),key.2▸hr2.out re (oldF w)⟩⟩
  have hrs:=of_decide_eq_false hrs
  rw[if_neg (show ¬(x<0∧0<R) by omega),if_neg (show ¬(x<0∧0<R) by omega)]at key
  conv=>whnf
  refine drawn_of_pi hτ hmix [.x 0,.x 3,.x 1,.x 2,.x 4,.x 5,.x 6] (by kernel_rfl) (by kernel_rfl) ?_
  conv=>whnf
  refine cE hw (Φ:=fun _ w' v w2=>v= .int .i64 x.sign) (fun ρ w' r=>rSign_c (Rel.old r hS) (hx.rel r hS).r) ?_
  rintro ρ wa8 v8 wb8 iv8 r he hw h_ rfl
  clear hx
  replace hy:=hy.past r hS he (mC h_)
  replace hbb:=hbb.past r (oldF w) he (mC h_)
  replace hr:=hr.past r (oldF w) he (mC h_)
  replace hq:=hq.past r (oldF w) he (mC h_)
  clear r
  conv=>whnf
  refine cE hw (Φ:=fun _ w' v w2=>v= .int .i64 y.sign) (fun ρ w' r=>rSign_c (Rel.old r hS) (hy.rel r hS).r) ?_
  rintro ρ wa9 v9 wb9 iv9 r he hw h_ rfl
  clear hy
  replace hbb:=hbb.past r (oldF w) he (mC h_)
  replace hr:=hr.past r (oldF w) he (mC h_)
  replace hq:=hq.past r (oldF w) he (mC h_)
  clear r
  conv=>whnf
  refine BrS.mk (fun hne=>?_) (fun hne=>?_)
  ·have hn:¬((x<0)↔(y<0)):=fun e=>by
    have e2:decide (x.sign<0)=decide (y.sign<0):=decide_eq_decide.2 (by omega)
    rw[e2]at hne
    simp at hne
   rw[if_neg hn]at key
   conv=>whnf
   refine callE_S (cE hw (Φ:=fun _ w' v w2=>IntC w2 (Nw (fun _=>False) w' w2) v (-(colval Q))) (fun ρ w' r=>rMinus_c (Rel.old r (oldF w)) ((hq.rel r (oldF w)).l (k:=1000003) (by omega)) (by omega)) ?_)
   rintro ρ wa10 v10 wb10 iv10 r he hw h_ hn
   replace hbb:=hbb.past r (oldF w) he (mC h_)
   replace hr:=hr.past r (oldF w) he (mC h_)
   clear hq
   have hq3:=hn.got (S:=fun _=>False) r.baseLe (mN h_)
   clear r hn
   obtain⟨s10_0,s10_1,s10_2,s10_3,rfl⟩:=hq3.shape
   conv=>whnf
   refine drawn_of_tr hτ hmix (.two 0 (.two 1 (.one 2 (.one 3 (.one 4 .nil))) 2 (.one 1 (.one 3 (.one 4 .nil)))) 1 (.one 0 (.one 2 (.one 3 (.one 4 .nil))))) (by kernel_rfl) ?_
   conv=>whnf
   refine⟨?_,?_⟩
   ·conv=>whnf
    refine⟨?_,?_⟩
    ·conv=>whnf
     intro ρe we re
     exact⟨_,rfl,hw.tr re.bel,.inr ⟨hy0,_,_,rfl,key.1▸hq3.out re (oldF w),key.2▸hr.out re (oldF w)⟩⟩
    ·conv=>whnf
     intro ρe we re
     exact⟨_,rfl,hw.tr re.bel,.inr ⟨hy0,_,_,rfl,key.1▸hq3.out re (oldF w),key.2▸hr.out re (oldF w)⟩⟩
   ·conv=>whnf
    intro ρe we re
    exact⟨_,rfl,hw.tr re.bel,.inr ⟨hy0,_,_,rfl,key.1▸hq3.out re (oldF w),key.2▸hr.out re (oldF w)⟩⟩
  have hn:(x<0)↔(y<0):=by
   have e2:decide (x.sign<0)=decide (y.sign<0):=by simpa using hne
   have:=decide_eq_decide.1 e2
   omega
  rw[if_pos hn]at key
  conv=>whnf
  refine drawn_of_tr hτ hmix (.two 0 (.two 1 (.one 2 (.one 3 (.one 4 .nil))) 2 (.one 1 (.one 3 (.one 4 .nil)))) 1 (.one 0 (.one 2 (.one 3 (.one 4 .nil))))) (by kernel_rfl) ?_
  conv=>whnf
  refine⟨?_,?_⟩
  ·conv=>whnf
   refine⟨?_,?_⟩
   ·conv=>whnf
    intro ρe we re
    exact⟨_,rfl,hw.tr re.bel,.inr ⟨hy0,_,_,rfl,key.1▸hq.out re (oldF w),key.2▸hr.out re (oldF w)⟩⟩
   ·conv=>whnf
    intro ρe we re
    exact⟨_,rfl,hw.tr re.bel,.inr ⟨hy0,_,_,rfl,key.1▸hq.out re (oldF w),key.2▸hr.out re (oldF w)⟩⟩
  ·conv=>whnf
   intro ρe we re
   exact⟨_,rfl,hw.tr re.bel,.inr ⟨hy0,_,_,rfl,key.1▸hq.out re (oldF w),key.2▸hr.out re (oldF w)⟩⟩
 have hxs:=of_decide_eq_false hxs
 rw[if_neg (show ¬(x<0∧0<R) by omega),if_neg (show ¬(x<0∧0<R) by omega)]at key
 conv=>whnf
 refine drawn_of_pi hτ hmix [.x 0,.x 3,.x 1,.x 2,.x 4,.x 5,.x 6] (by kernel_rfl) (by kernel_rfl) ?_
 conv=>whnf
 refine cE hw (Φ:=fun _ w' v w2=>v= .int .i64 x.sign) (fun ρ w' r=>rSign_c (Rel.old r hS) (hx.rel r hS).r) ?_
 rintro ρ wa7 v7 wb7 iv7 r he hw h_ rfl
 clear hx
 replace hy:=hy.past r hS he (mC h_)
 replace hbb:=hbb.past r (oldF w) he (mC h_)
 replace hr:=hr.past r (oldF w) he (mC h_)
 replace hq:=hq.past r (oldF w) he (mC h_)
 clear r
 conv=>whnf
 refine cE hw (Φ:=fun _ w' v w2=>v= .int .i64 y.sign) (fun ρ w' r=>rSign_c (Rel.old r hS) (hy.rel r hS).r) ?_
 rintro ρ wa8 v8 wb8 iv8 r he hw h_ rfl
 clear hy
 replace hbb:=hbb.past r (oldF w) he (mC h_)
 replace hr:=hr.past r (oldF w) he (mC h_)
 replace hq:=hq.past r (oldF w) he (mC h_)
 clear r
 conv=>whnf
 refine BrS.mk (fun hne=>?_) (fun hne=>?_)
 ·have hn:¬((x<0)↔(y<0)):=fun e=>by
   have e2:decide (x.sign<0)=decide (y.sign<0):=decide_eq_decide.2 (by omega)
   rw[e2]at hne
   simp at hne
  rw[if_neg hn]at key
  conv=>whnf
  refine callE_S (cE hw (Φ:=fun _ w' v w2=>IntC w2 (Nw (fun _=>False) w' w2) v (-(colval Q))) (fun ρ w' r=>rMinus_c (Rel.old r (oldF w)) ((hq.rel r (oldF w)).l (k:=1000003) (by omega)) (by omega)) ?_)
  rintro ρ wa9 v9 wb9 iv9 r he hw h_ hn
  replace hbb:=hbb.past r (oldF w) he (mC h_)
  replace hr:=hr.past r (oldF w) he (mC h_)
  clear hq
  have hq3:=hn.got (S:=fun _=>False) r.baseLe (mN h_)
  clear r hn
  obtain⟨s9_0,s9_1,s9_2,s9_3,rfl⟩:=hq3.shape
  conv=>whnf
  refine drawn_of_tr hτ hmix (.two 0 (.two 1 (.one 2 (.one 3 (.one 4 .nil))) 2 (.one 1 (.one 3 (.one 4 .nil)))) 1 (.one 0 (.one 2 (.one 3 (.one 4 .nil))))) (by kernel_rfl) ?_
  conv=>whnf
  refine⟨?_,?_⟩
  ·conv=>whnf
   refine⟨?_,?_⟩
   ·conv=>whnf
    intro ρe we re
    exact⟨_,rfl,hw.tr re.bel,.inr ⟨hy0,_,_,rfl,key.1▸hq3.out re (oldF w),key.2▸hr.out re (oldF w)⟩⟩
   ·conv=>whnf
    intro ρe we re
    exact⟨_,rfl,hw.tr re.bel,.inr ⟨hy0,_,_,rfl,key.1▸hq3.out re (oldF w),key.2▸hr.out re (oldF w)⟩⟩
  ·conv=>whnf
   intro ρe we re
   exact⟨_,rfl,hw.tr re.bel,.inr ⟨hy0,_,_,rfl,key.1▸hq3.out re (oldF w),key.2▸hr.out re (oldF w)⟩⟩
 have hn:(x<0)↔(y<0):=by
  have e2:decide (x.sign<0)=decide (y.sign<0):=by simpa using hne
  have:=decide_eq_decide.1 e2
  omega
 rw[if_pos hn]at key
 conv=>whnf
 refine drawn_of_tr hτ hmix (.two 0 (.two 1 (.one 2 (.one 3 (.one 4 .nil))) 2 (.one 1 (.one 3 (.one 4 .nil)))) 1 (.one 0 (.one 2 (.one 3 (.one 4 .nil))))) (by kernel_rfl) ?_
 conv=>whnf
 refine⟨?_,?_⟩
 ·conv=>whnf
  refine⟨?_,?_⟩
  ·conv=>whnf
   intro ρe we re
   exact⟨_,rfl,hw.tr re.bel,.inr ⟨hy0,_,_,rfl,key.1▸hq.out re (oldF w),key.2▸hr.out re (oldF w)⟩⟩
  ·conv=>whnf
   intro ρe we re
   exact⟨_,rfl,hw.tr re.bel,.inr ⟨hy0,_,_,rfl,key.1▸hq.out re (oldF w),key.2▸hr.out re (oldF w)⟩⟩
 ·conv=>whnf
  intro ρe we re
  exact⟨_,rfl,hw.tr re.bel,.inr ⟨hy0,_,_,rfl,key.1▸hq.out re (oldF w),key.2▸hr.out re (oldF w)⟩⟩
end Go.Ex

/- The reference's integers and fractions: Common, Over. Printed by program. No condition but sizes. -/
namespace Go.Ex
open Go Go.Sx Go.Proofs

theorem rDivNon_c{S:Nat→Prop}{w:World}{v u:Value}{k l:Nat}{x y:Int}(hS:Old S w)(hx:IntL w S v k x)(hy:IntL w S u l y)(hk:k≤1000000)(hl:l≤1000000)(h0:y≠0):
  Con PG N.ref01_Divide #[v,u] w (Ret w fun v' w2=>∃q r,v'= .tuple #[q,r,.int .i64 0]∧IntC w2 (Nw (fun _=>False) w w2) q (x / y)∧IntC w2 (Nw (fun _=>False) w w2) r (x % y)):=
 (rDivide_c hS hx hy hk hl).mono fun _ _ ⟨v2,e1,e2,e3⟩=>⟨v2,e1,e2,e3.elim (fun h=>absurd h.1 h0) fun h=>h.2⟩
theorem ln_gcd(x:Nat){y:Nat}(h:y≠0):ln (Nat.gcd x y)≤ln y:=ln_mono (Nat.le_of_dvd (by omega) (Nat.gcd_dvd_right x y))
theorem low_ratio2{a b:Int}(hb:b≠0):a / (b.sign*(Nat.gcd a.natAbs b.natAbs:Nat))=(Rat.divInt a b).num∧b / (b.sign*(Nat.gcd a.natAbs b.natAbs:Nat))=((Rat.divInt a b).den:Int):=by
 obtain⟨h1,h2⟩:=low_ratio (a:=a) hb
 have d1:((Nat.gcd a.natAbs b.natAbs:Nat):Int) ∣ a:=Int.ofNat_dvd_left.2 (Nat.gcd_dvd_left _ _)
 have d2:((Nat.gcd a.natAbs b.natAbs:Nat):Int) ∣ b:=Int.ofNat_dvd_left.2 (Nat.gcd_dvd_right _ _)
 have sg:b.sign=1∨b.sign= -1:=by rcases sign_cases b with h|h|h<;>omega
 have key:∀c:Int,((Nat.gcd a.natAbs b.natAbs:Nat):Int) ∣ c→b.sign*(Nat.gcd a.natAbs b.natAbs:Nat) ∣ c:=fun c hc=>by
  rcases sg with h|h<;>rw[h]
  ·rw[Int.one_mul];exact hc
  ·rw[Int.neg_one_mul];exact Int.neg_dvd.2 hc
 rw[←h1,←h2,Int.tdiv_eq_ediv_of_dvd (key a d1),Int.tdiv_eq_ediv_of_dvd (key b d2)]
 exact⟨rfl,rfl⟩
theorem rCommon_c{S:Nat→Prop}{w:World}{v u:Value}{k l:Nat}{x y:Int}(hS:Old S w)(hx:IntL w S v k x)(hy:IntL w S u l y)(hk:k≤1000000)(hl:l≤1000000):
  Con PG N.ref01_Common #[v,u] w (Ret w fun v' w2=>IntC w2 (Nw (fun _=>False) w w2) v' ((Nat.gcd x.natAbs y.natAbs:Nat):Int)):=by
 have hw:Bel w.heap.size w w:=Bel.refl
 replace hx:=hx.weak (S':=Cv S w.heap.size []) fun _ h=>.inl h
 replace hy:=hy.weak (S':=Cv S w.heap.size []) fun _ h=>.inl h
 obtain⟨b1,a1,n1,c1,rfl⟩:=hx.shape
 obtain⟨b2,a2,n2,c2,rfl⟩:=hy.shape
 refine in_ref01_Common (by simp) ?_
 conv=>whnf
 have hlx:=hx.ln
 have hly:=hy.ln
 refine drawn_of_pi hτ hmix [.x 0,.x 2,.x 1,.x 3,.x 4,.x 5] (by kernel_rfl) (by kernel_rfl) ?_
 conv=>whnf
 refine cE hw (Φ:=fun _ w' v w2=>IntC w2 (Nw (fun _=>False) w' w2) v ((x.natAbs:Int))) (fun ρ w' r=>rSize_c (Rel.old r hS) (hx.rel r hS) (by omega)) ?_
 rintro ρ wa1 v1 wb1 iv1 r he hw h_ hn
 clear hx
 replace hy:=hy.past r hS he (mC h_)
 have ha:=hn.got (S:=fun _=>False) r.baseLe (mN h_)
 clear r
 obtain⟨s1_0,s1_1,s1_2,s1_3,rfl⟩:=ha.shape
 conv=>whnf
 refine cE hw (Φ:=fun _ w' v w2=>IntC w2 (Nw (fun _=>False) w' w2) v ((y.natAbs:Int))) (fun ρ w' r=>rSize_c (Rel.old r hS) (hy.rel r hS) (by omega)) ?_
 rintro ρ wa2 v2 wb2 iv2 r he hw h_ hn
 clear hy
 replace ha:=ha.past r (oldF w) he (mC h_)
 have hc:=hn.got (S:=fun _=>False) r.baseLe (mN h_)
 clear r
 obtain⟨s2_0,s2_1,s2_2,s2_3,rfl⟩:=hc.shape
 conv=>whnf
 refine⟨Nat×Nat×(Bool×Option Addr×Nat×Nat)×(Bool×Option Addr×Nat×Nat)×World×Iv,fun z=>⟨[(2,.o (.p 0 0)),(3,.o (.p 1 0)),(4,.o (.p 2 0))],[(2,.box T.Int [.v (.bool false),.v (.slice none 0 0)]),(1,.box T.Int [.v (.bool z.2.2.2.1.1),.v (.slice z.2.2.2.1.2.1 z.2.2.2.1.2.2.1 z.2.2.2.1.2.2.2)]),(0,.box T.Int [.v (.bool z.2.2.1.1),.v (.slice z.2.2.1.2.1 z.2.2.1.2.2.1 z.2.2.1.2.2.2)])],3,z.2.2.2.2.2,z.2.2.2.2.1⟩,fun z=>z.2.1,
  fun z=>Nat.gcd z.1 z.2.1=Nat.gcd x.natAbs y.natAbs∧ln z.1≤1000000∧ln z.2.1≤1000000∧Bel w.heap.size w z.2.2.2.2.1∧IntC z.2.2.2.2.1 (Cv (fun _=>False) w.heap.size z.2.2.2.2.2) (.agg #[.bool z.2.2.1.1,.slice z.2.2.1.2.1 z.2.2.1.2.2.1 z.2.2.1.2.2.2]) (z.1:Int)∧IntC z.2.2.2.2.1 (Cv (fun _=>False) w.heap.size z.2.2.2.2.2) (.agg #[.bool z.2.2.2.1.1,.slice z.2.2.2.1.2.1 z.2.2.2.1.2.2.1 z.2.2.2.1.2.2.2]) (z.2.1:Int),?_,?_⟩
 ·intro ρ w' r
  exact⟨(x.natAbs,y.natAbs,(s1_0,s1_1,s1_2,s1_3),(s2_0,s2_1,s2_2,s2_3),w',iv2),⟨rfl,by dsimp only;omega,by dsimp only;omega,hw.tr r.bel,ha.rel r (oldF w),hc.rel r (oldF w)⟩,
   Sub.gen [] r ⟨rfl,rfl,rfl,trivial⟩ ⟨rfl,rfl,rfl,trivial⟩ (by simp[ScH,Blk.scopd,At.sc]) (by simp[ScE,SV.sc,At.sc]) (by rfl) (fun lo hi h=>h)⟩
 clear hw ha hc
 rintro⟨a,b,⟨ba,aa,na,ca⟩,⟨bb,ab,nb,cb⟩,w1,iv⟩ ⟨hg,hla,hlb,hw,ha,hc⟩
 dsimp only at hg hla hlb hw ha hc ⊢
 conv=>whnf
 refine callE_S (cE hw (Φ:=fun _ w' v w2=>v= .int .i64 (b:Int).sign) (fun ρ w' r=>rSign_c (Rel.old r (oldF w)) (hc.rel r (oldF w)).r) ?_)
 rintro ρ wa3 v3 wb3 iv3 r he hw h_ rfl
 replace ha:=ha.past r (oldF w) he (mC h_)
 replace hc:=hc.past r (oldF w) he (mC h_)
 clear r
 conv=>whnf
 have sb:=sign_cases (b:Int)
 refine BrS.mk (fun h=>?_) (fun h=>?_)
 ·have h:=of_decide_eq_true h
  have hb0:0<b:=by omega
  have hm:=Nat.mod_lt a hb0
  have hlm:ln (a % b)≤1000000:=Nat.le_trans (ln_mono (by omega)) hlb
  conv=>whnf
  refine callE_S (cE hw (Φ:=fun _ w' v w2=>∃q r,v= .tuple #[q,r,.int .i64 0]∧IntC w2 (Nw (fun _=>False) w' w2) q ((a:Int) / b)∧IntC w2 (Nw (fun _=>False) w' w2) r ((a:Int) % b)) (fun ρ w' r=>rDivNon_c (Rel.old r (oldF w)) ((ha.rel r (oldF w)).l (k:=1000000) hla) ((hc.rel r (oldF w)).l (k:=1000000) hlb) (by omega) (by omega) (by omega)) ?_)
  rintro ρ wa4 v4 wb4 iv4 r he hw h_ ⟨q,rr,rfl,k1,k2⟩
  clear ha
  replace hc:=hc.past r (oldF w) he (mC h_)
  have hq:=k1.got (S:=fun _=>False) r.baseLe (mN h_)
  have hr:=k2.got (S:=fun _=>False) r.baseLe (mN h_)
  clear r
  obtain⟨s4_0a,s4_0b,s4_0c,s4_0d,rfl⟩:=hq.shape
  obtain⟨s4_1a,s4_1b,s4_1c,s4_1d,rfl⟩:=hr.shape
  clear k1 k2 hq
  conv=>whnf
  refine drawn_of_tr hτ hmix (.two 0 (.two 1 (.one 2 (.one 3 .nil)) 2 (.one 1 (.one 3 .nil))) 1 (.one 0 (.one 2 (.one 3 .nil)))) (by kernel_rfl) ?_
  conv=>whnf
  refine⟨?_,?_⟩
  ·conv=>whnf
   refine⟨?_,?_⟩
   ·conv=>whnf
    intro ρ3 w3 r3
    exact⟨(b,a % b,(bb,ab,nb,cb),(s4_1a,s4_1b,s4_1c,s4_1d),w3,_),⟨by dsimp only;rw[←hg,Nat.gcd_comm a b,Nat.gcd_rec b a,Nat.gcd_comm],hlb,hlm,hw.tr r3.bel,hc.rel r3 (oldF w),hr.rel r3 (oldF w)⟩,Sub.gen [] r3 ⟨rfl,rfl,rfl,trivial⟩ ⟨rfl,rfl,rfl,trivial⟩ (by simp[ScH,Blk.scopd,At.sc]) (by simp[ScE,SV.sc,At.sc]) (by rfl) (fun lo hi h=>h),hm⟩
   ·conv=>whnf
    intro ρ3 w3 r3
    exact⟨(b,a % b,(bb,ab,nb,cb),(s4_1a,s4_1b,s4_1c,s4_1d),w3,_),⟨by dsimp only;rw[←hg,Nat.gcd_comm a b,Nat.gcd_rec b a,Nat.gcd_comm],hlb,hlm,hw.tr r3.bel,hc.rel r3 (oldF w),hr.rel r3 (oldF w)⟩,Sub.gen [] r3 ⟨rfl,rfl,rfl,trivial⟩ ⟨rfl,rfl,rfl,trivial⟩ (by simp[ScH,Blk.scopd,At.sc]) (by simp[ScE,SV.sc,At.sc]) (by rfl) (fun lo hi h=>h),hm⟩
  ·conv=>whnf
   intro ρ3 w3 r3
   exact⟨(b,a % b,(bb,ab,nb,cb),(s4_1a,s4_1b,s4_1c,s4_1d),w3,_),⟨by dsimp only;rw[←hg,Nat.gcd_comm a b,Nat.gcd_rec b a,Nat.gcd_comm],hlb,hlm,hw.tr r3.bel,hc.rel r3 (oldF w),hr.rel r3 (oldF w)⟩,Sub.gen [] r3 ⟨rfl,rfl,rfl,trivial⟩ ⟨rfl,rfl,rfl,trivial⟩ (by simp[ScH,Blk.scopd,At.sc]) (by simp[ScE,SV.sc,At.sc]) (by rfl) (fun lo hi h=>h),hm⟩
 have h:=of_decide_eq_false h
 obtain rfl:b=0:=by omega
 rw[Nat.gcd_zero_right]at hg
 subst hg
 clear hc
 conv=>whnf
 intro ρe we re
 exact⟨_,rfl,hw.tr re.bel,ha.out re (oldF w)⟩
theorem rOver_c{S:Nat→Prop}{w:World}{v u:Value}{k l:Nat}{x y:Int}(hS:Old S w)(hx:IntL w S v k x)(hy:IntL w S u l y)(hk:k≤1000000)(hl:l≤1000000)(hy0:y≠0):
  Con PG N.ref01_Over #[v,u] w (Ret w fun v' w2=>RatC w2 (Nw (fun _=>False) w w2) v' (Rat.divInt x y)):=by
 have hw:Bel w.heap.size w w:=Bel.refl
 replace hx:=hx.weak (S':=Cv S w.heap.size []) fun _ h=>.inl h
 replace hy:=hy.weak (S':=Cv S w.heap.size []) fun _ h=>.inl h
 obtain⟨b1,a1,n1,c1,rfl⟩:=hx.shape
 obtain⟨b2,a2,n2,c2,rfl⟩:=hy.shape
 refine in_ref01_Over (by simp) ?_
 conv=>whnf
 have hlx:=hx.ln
 have hly:=hy.ln
 have hlg:=ln_gcd x.natAbs (y:=y.natAbs) (by omega)
 obtain⟨hn,hd⟩:=low_ratio2 (a:=x) hy0
 have sy:=sign_cases y
 refine callE_S (cE hw (Φ:=fun _ w' v w2=>∃n p,v= .tuple #[.int .i64 n,.bool p]∧(p=true→n=x∧x.natAbs<1073741824)) (fun ρ w' r=>(rshort_c (Rel.old r hS) (hx.rel r hS).r).mono fun e w2 ⟨v2,e1,e2,e3⟩=>⟨v2,e1,e2,by
   rw[e3,shortV]
   split
   ·exact⟨_,_,rfl,fun _=>⟨rfl,‹_›⟩⟩
   ·exact⟨_,_,rfl,fun h=>by cases h⟩⟩) ?_)
 rintro ρ wa1 v1 wb1 iv1 r he hw h_ ⟨nx,px,rfl,qx⟩
 replace hx:=hx.past r hS he (mC h_)
 replace hy:=hy.past r hS he (mC h_)
 clear r
 conv=>whnf
 refine callE_S (cE hw (Φ:=fun _ w' v w2=>∃n p,v= .tuple #[.int .i64 n,.bool p]∧(p=true→n=y∧y.natAbs<1073741824)) (fun ρ w' r=>(rshort_c (Rel.old r hS) (hy.rel r hS).r).mono fun e w2 ⟨v2,e1,e2,e3⟩=>⟨v2,e1,e2,by
   rw[e3,shortV]
   split
   ·exact⟨_,_,rfl,fun _=>⟨rfl,‹_›⟩⟩
   ·exact⟨_,_,rfl,fun h=>by cases h⟩⟩) ?_)
 rintro ρ wa2 v2 wb2 iv2 r he hw h_ ⟨ny,py,rfl,qy⟩
 replace hx:=hx.past r hS he (mC h_)
 replace hy:=hy.past r hS he (mC h_)
 clear r
 conv=>whnf
 refine BrS.mk (fun h1=>?_) (fun h1=>?_)
 ·obtain⟨e1,hxs⟩:=qx h1
  replace e1:=e1.symm
  subst e1
  conv=>whnf
  refine BrS.mk (fun h2=>?_) (fun h2=>?_)
  ·obtain⟨e2,hys⟩:=qy h2
   replace e2:=e2.symm
   subst e2
   clear hx hy
   conv=>whnf
   refine callE_S (cE hw (Φ:=fun _ w' v w2=>RatC w2 (Nw (fun _=>False) w' w2) v (Rat.divInt x y)) (fun ρ w' r=>rlowest_c x y w' (by omega) (by omega) hy0) ?_)
   rintro ρ wa3 v3 wb3 iv3 r he hw h_ hn
   have hR:=hn.got (S:=fun _=>False) r.baseLe (mN h_)
   clear r hn
   obtain⟨s3_0,s3_1,s3_2,s3_3,s3_4,s3_5,s3_6,s3_7,rfl⟩:=hR.shape
   conv=>whnf
   intro ρe we re
   exact⟨_,rfl,hw.tr re.bel,hR.out re (oldF w)⟩
  conv=>whnf
  refine callE_S (cE hw (Φ:=fun _ w' v w2=>IntC w2 (Nw (fun _=>False) w' w2) v (((Nat.gcd x.natAbs y.natAbs:Nat):Int))) (fun ρ w' r=>rCommon_c (Rel.old r hS) (hx.rel r hS) (hy.rel r hS) hk hl) ?_)
  rintro ρ wa3 v3 wb3 iv3 r he hw h_ hn
  replace hx:=hx.past r hS he (mC h_)
  replace hy:=hy.past r hS he (mC h_)
  have hg:=hn.got (S:=fun _=>False) r.baseLe (mN h_)
  clear r hn
  obtain⟨s3_0,s3_1,s3_2,s3_3,rfl⟩:=hg.shape
  conv=>whnf
  refine callE_S (cE hw (Φ:=fun _ w' v w2=>v= .int .i64 y.sign) (fun ρ w' r=>rSign_c (Rel.old r hS) (hy.rel r hS).r) ?_)
  rintro ρ wa4 v4 wb4 iv4 r he hw h_ rfl
  replace hx:=hx.past r hS he (mC h_)
  replace hy:=hy.past r hS he (mC h_)
  replace hg:=hg.past r (oldF w) he (mC h_)
  clear r
  conv=>whnf
  have hgp:0<Nat.gcd x.natAbs y.natAbs:=Nat.gcd_pos_of_pos_right _ (by omega)
  generalize Nat.gcd x.natAbs y.natAbs=g at*
  refine BrS.mk (fun hs=>?_) (fun hs=>?_)
  ·have hs:=of_decide_eq_true hs
   rw[show y.sign= -1 by omega,Int.neg_one_mul]at hn hd
   conv=>whnf
   refine callE_S (cE hw (Φ:=fun _ w' v w2=>IntC w2 (Nw (fun _=>False) w' w2) v (-(g:Int))) (fun ρ w' r=>rMinus_c (Rel.old r (oldF w)) ((hg.rel r (oldF w)).l (k:=1000000) (by rw[Int.natAbs_natCast];omega)) (by omega)) ?_)
   rintro ρ wa5 v5 wb5 iv5 r he hw h_ hn
   replace hx:=hx.past r hS he (mC h_)
   replace hy:=hy.past r hS he (mC h_)
   clear hg
   have hg2:=hn.got (S:=fun _=>False) r.baseLe (mN h_)
   clear r hn
   obtain⟨s5_0,s5_1,s5_2,s5_3,rfl⟩:=hg2.shape
   conv=>whnf
   refine callE_S (cE hw (Φ:=fun _ w' v w2=>∃q r,v= .tuple #[q,r,.int .i64 0]∧IntC w2 (Nw (fun _=>False) w' w2) q (Rat.divInt x y).num∧IntC w2 (Nw (fun _=>False) w' w2) r (x % (-(g:Int)))) (fun ρ w' r=>hn▸rDivNon_c (Rel.old r hS) (hx.rel r hS) ((((hg2.rel r (oldF w)).l (k:=1000000) (by rw[Int.natAbs_neg,Int.natAbs_natCast];omega))).weak fun g hg=>Cv.false hg) hk (by omega) (by omega)) ?_)
   rintro ρ wa6 v6 wb6 iv6 r he hw h_ ⟨q,rr,rfl,k1,k2⟩
   clear hx
   replace hy:=hy.past r hS he (mC h_)
   replace hg2:=hg2.past r (oldF w) he (mC h_)
   have hq:=k1.got (S:=fun _=>False) r.baseLe (mN h_)
   have hr:=k2.got (S:=fun _=>False) r.baseLe (mN h_)
   clear r
   obtain⟨s6_0a,s6_0b,s6_0c,s6_0d,rfl⟩:=hq.shape
   obtain⟨s6_1a,s6_1b,s6_1c,s6_1d,rfl⟩:=hr.shape
   clear k1 k2 hr
   conv=>whnf
   refine callE_S (cE hw (Φ:=fun _ w' v w2=>∃q r,v= .tuple #[q,r,.int .i64 0]∧IntC w2 (Nw (fun _=>False) w' w2) q ((Rat.divInt x y).den:Int)∧IntC w2 (Nw (fun _=>False) w' w2) r (y % (-(g:Int)))) (fun ρ w' r=>hd▸rDivNon_c (Rel.old r hS) (hy.rel r hS) ((((hg2.rel r (oldF w)).l (k:=1000000) (by rw[Int.natAbs_neg,Int.natAbs_natCast];omega))).weak fun g hg=>Cv.false hg) hl (by omega) (by omega)) ?_)
   rintro ρ wa7 v7 wb7 iv7 r he hw h_ ⟨q,rr,rfl,k1,k2⟩
   clear hy
   clear hg2
   replace hq:=hq.past r (oldF w) he (mC h_)
   have hq2:=k1.got (S:=fun _=>False) r.baseLe (mN h_)
   have hr:=k2.got (S:=fun _=>False) r.baseLe (mN h_)
   clear r
   obtain⟨s7_0a,s7_0b,s7_0c,s7_0d,rfl⟩:=hq2.shape
   obtain⟨s7_1a,s7_1b,s7_1c,s7_1d,rfl⟩:=hr.shape
   clear k1 k2 hr
   conv=>whnf
   intro ρe we re
   exact⟨_,rfl,hw.tr re.bel,(RatC.of hq hq2).out re (oldF w)⟩
  have hs:=of_decide_eq_false hs
  rw[show y.sign=1 by omega,Int.one_mul]at hn hd
  conv=>whnf
  refine callE_S (cE hw (Φ:=fun _ w' v w2=>∃q r,v= .tuple #[q,r,.int .i64 0]∧IntC w2 (Nw (fun _=>False) w' w2) q (Rat.divInt x y).num∧IntC w2 (Nw (fun _=>False) w' w2) r (x % ((g:Int)))) (fun ρ w' r=>hn▸rDivNon_c (Rel.old r hS) (hx.rel r hS) ((((hg.rel r (oldF w)).l (k:=1000000) (by rw[Int.natAbs_natCast];omega))).weak fun g hg=>Cv.false hg) hk (by omega) (by omega)) ?_)
  rintro ρ wa5 v5 wb5 iv5 r he hw h_ ⟨q,rr,rfl,k1,k2⟩
  clear hx
  replace hy:=hy.past r hS he (mC h_)
  replace hg:=hg.past r (oldF w) he (mC h_)
  have hq:=k1.got (S:=fun _=>False) r.baseLe (mN h_)
  have hr:=k2.got (S:=fun _=>False) r.baseLe (mN h_)
  clear r
  obtain⟨s5_0a,s5_0b,s5_0c,s5_0d,rfl⟩:=hq.shape
  obtain⟨s5_1a,s5_1b,s5_1c,s5_1d,rfl⟩:=hr.shape
  clear k1 k2 hr
  conv=>whnf
  refine callE_S (cE hw (Φ:=fun _ w' v w2=>∃q r,v= .tuple #[q,r,.int .i64 0]∧IntC w2 (Nw (fun _=>False) w' w2) q ((Rat.divInt x y).den:Int)∧IntC w2 (Nw (fun _=>False) w' w2) r (y % ((g:Int)))) (fun ρ w' r=>hd▸rDivNon_c (Rel.old r hS) (hy.rel r hS) ((((hg.rel r (oldF w)).l (k:=1000000) (by rw[Int.natAbs_natCast];omega))).weak fun g hg=>Cv.false hg) hl (by omega) (by omega)) ?_)
  rintro ρ wa6 v6 wb6 iv6 r he hw h_ ⟨q,rr,rfl,k1,k2⟩
  clear hy
  clear hg
  replace hq:=hq.past r (oldF w) he (mC h_)
  have hq2:=k1.got (S:=fun _=>False) r.baseLe (mN h_)
  have hr:=k2.got (S:=fun _=>False) r.baseLe (mN h_)
  clear r
  obtain⟨s6_0a,s6_0b,s6_0c,s6_0d,rfl⟩:=hq2.shape
  obtain⟨s6_1a,s6_1b,s6_1c,s6_1d,rfl⟩:=hr.shape
  clear k1 k2 hr
  conv=>whnf
  intro ρe we re
  exact⟨_,rfl,hw.tr re.bel,(RatC.of hq hq2).out re (oldF w)⟩
 conv=>whnf
 refine callE_S (cE hw (Φ:=fun _ w' v w2=>IntC w2 (Nw (fun _=>False) w' w2) v (((Nat.gcd x.natAbs y.natAbs:Nat):Int))) (fun ρ w' r=>rCommon_c (Rel.old r hS) (hx.rel r hS) (hy.rel r hS) hk hl) ?_)
 rintro ρ wa3 v3 wb3 iv3 r he hw h_ hn
 replace hx:=hx.past r hS he (mC h_)
 replace hy:=hy.past r hS he (mC h_)
 have hg:=hn.got (S:=fun _=>False) r.baseLe (mN h_)
 clear r hn
 obtain⟨s3_0,s3_1,s3_2,s3_3,rfl⟩:=hg.shape
 conv=>whnf
 refine callE_S (cE hw (Φ:=fun _ w' v w2=>v= .int .i64 y.sign) (fun ρ w' r=>rSign_c (Rel.old r hS) (hy.rel r hS).r) ?_)
 rintro ρ wa4 v4 wb4 iv4 r he hw h_ rfl
 replace hx:=hx.past r hS he (mC h_)
 replace hy:=hy.past r hS he (mC h_)
 replace hg:=hg.past r (oldF w) he (mC h_)
 clear r
 conv=>whnf
 have hgp:0<Nat.gcd x.natAbs y.natAbs:=Nat.gcd_pos_of_pos_right _ (by omega)
 generalize Nat.gcd x.natAbs y.natAbs=g at*
 refine BrS.mk (fun hs=>?_) (fun hs=>?_)
 ·have hs:=of_decide_eq_true hs
  rw[show y.sign= -1 by omega,Int.neg_one_mul]at hn hd
  conv=>whnf
  refine callE_S (cE hw (Φ:=fun _ w' v w2=>IntC w2 (Nw (fun _=>False) w' w2) v (-(g:Int))) (fun ρ w' r=>rMinus_c (Rel.old r (oldF w)) ((hg.rel r (oldF w)).l (k:=1000000) (by rw[Int.natAbs_natCast];omega)) (by omega)) ?_)
  rintro ρ wa5 v5 wb5 iv5 r he hw h_ hn
  replace hx:=hx.past r hS he (mC h_)
  replace hy:=hy.past r hS he (mC h_)
  clear hg
  have hg2:=hn.got (S:=fun _=>False) r.baseLe (mN h_)
  clear r hn
  obtain⟨s5_0,s5_1,s5_2,s5_3,rfl⟩:=hg2.shape
  conv=>whnf
  refine callE_S (cE hw (Φ:=fun _ w' v w2=>∃q r,v= .tuple #[q,r,.int .i64 0]∧IntC w2 (Nw (fun _=>False) w' w2) q (Rat.divInt x y).num∧IntC w2 (Nw (fun _=>False) w' w2) r (x % (-(g:Int)))) (fun ρ w' r=>hn▸rDivNon_c (Rel.old r hS) (hx.rel r hS) ((((hg2.rel r (oldF w)).l (k:=1000000) (by rw[Int.natAbs_neg,Int.natAbs_natCast];omega))).weak fun g hg=>Cv.false hg) hk (by omega) (by omega)) ?_)
  rintro ρ wa6 v6 wb6 iv6 r he hw h_ ⟨q,rr,rfl,k1,k2⟩
  clear hx
  replace hy:=hy.past r hS he (mC h_)
  replace hg2:=hg2.past r (oldF w) he (mC h_)
  have hq:=k1.got (S:=fun _=>False) r.baseLe (mN h_)
  have hr:=k2.got (S:=fun _=>False) r.baseLe (mN h_)
  clear r
  obtain⟨s6_0a,s6_0b,s6_0c,s6_0d,rfl⟩:=hq.shape
  obtain⟨s6_1a,s6_1b,s6_1c,s6_1d,rfl⟩:=hr.shape
  clear k1 k2 hr
  conv=>whnf
  refine callE_S (cE hw (Φ:=fun _ w' v w2=>∃q r,v= .tuple #[q,r,.int .i64 0]∧IntC w2 (Nw (fun _=>False) w' w2) q ((Rat.divInt x y).den:Int)∧IntC w2 (Nw (fun _=>False) w' w2) r (y % (-(g:Int)))) (fun ρ w' r=>hd▸rDivNon_c (Rel.old r hS) (hy.rel r hS) ((((hg2.rel r (oldF w)).l (k:=1000000) (by rw[Int.natAbs_neg,Int.natAbs_natCast];omega))).weak fun g hg=>Cv.false hg) hl (by omega) (by omega)) ?_)
  rintro ρ wa7 v7 wb7 iv7 r he hw h_ ⟨q,rr,rfl,k1,k2⟩
  clear hy
  clear hg2
  replace hq:=hq.past r (oldF w) he (mC h_)
  have hq2:=k1.got (S:=fun _=>False) r.baseLe (mN h_)
  have hr:=k2.got (S:=fun _=>False) r.baseLe (mN h_)
  clear r
  obtain⟨s7_0a,s7_0b,s7_0c,s7_0d,rfl⟩:=hq2.shape
  obtain⟨s7_1a,s7_1b,s7_1c,s7_1d,rfl⟩:=hr.shape
  clear k1 k2 hr
  conv=>whnf
  intro ρe we re
  exact⟨_,rfl,hw.tr re.bel,(RatC.of hq hq2).out re (oldF w)⟩
 have hs:=of_decide_eq_false hs
 rw[show y.sign=1 by omega,Int.one_mul]at hn hd
 conv=>whnf
 refine callE_S (cE hw (Φ:=fun _ w' v w2=>∃q r,v= .tuple #[q,r,.int .i64 0]∧IntC w2 (Nw (fun _=>False) w' w2) q (Rat.divInt x y).num∧IntC w2 (Nw (fun _=>False) w' w2) r (x % ((g:Int)))) (fun ρ w' r=>hn▸rDivNon_c (Rel.old r hS) (hx.rel r hS) ((((hg.rel r (oldF w)).l (k:=1000000) (by rw[Int.natAbs_natCast];omega))).weak fun g hg=>Cv.false hg) hk (by omega) (by omega)) ?_)
 rintro ρ wa5 v5 wb5 iv5 r he hw h_ ⟨q,rr,rfl,k1,k2⟩
 clear hx
 replace hy:=hy.past r hS he (mC h_)
 replace hg:=hg.past r (oldF w) he (mC h_)
 have hq:=k1.got (S:=fun _=>False) r.baseLe (mN h_)
 have hr:=k2.got (S:=fun _=>False) r.baseLe (mN h_)
 clear r
 obtain⟨s5_0a,s5_0b,s5_0c,s5_0d,rfl⟩:=hq.shape
 obtain⟨s5_1a,s5_1b,s5_1c,s5_1d,rfl⟩:=hr.shape
 clear k1 k2 hr
 conv=>whnf
 refine callE_S (cE hw (Φ:=fun _ w' v w2=>∃q r,v= .tuple #[q,r,.int .i64 0]∧IntC w2 (Nw (fun _=>False) w' w2) q ((Rat.divInt x y).den:Int)∧IntC w2 (Nw (fun _=>False) w' w2) r (y % ((g:Int)))) (fun ρ w' r=>hd▸rDivNon_c (Rel.old r hS) (hy.rel r hS) ((((hg.rel r (oldF w)).l (k:=1000000) (by rw[Int.natAbs_natCast];omega))).weak fun g hg=>Cv.false hg) hl (by omega) (by omega)) ?_)
 rintro ρ wa6 v6 wb6 iv6 r he hw h_ ⟨q,rr,rfl,k1,k2⟩
 clear hy
 clear hg
 replace hq:=hq.past r (oldF w) he (mC h_)
 have hq2:=k1.got (S:=fun _=>False) r.baseLe (mN h_)
 have hr:=k2.got (S:=fun _=>False) r.baseLe (mN h_)
 clear r
 obtain⟨s6_0a,s6_0b,s6_0c,s6_0d,rfl⟩:=hq2.shape
 obtain⟨s6_1a,s6_1b,s6_1c,s6_1d,rfl⟩:=hr.shape
 clear k1 k2 hr
 conv=>whnf
 intro ρe we re
 exact⟨_,rfl,hw.tr re.bel,(RatC.of hq hq2).out re (oldF w)⟩
end Go.Ex

/- The reference's fractions: quick, Normal, Add, Neg, Sub, Mul, SignOf, Quo, Cmp, Floor, Whole, Ratio. Printed by program. No condition but sizes. -/
namespace Go.Ex
open Go Go.Sx Go.Proofs

/-- a fraction of the api by its value; its parts have few limbs -/
def RatL(w:World)(S:Nat→Prop)(v:Value)(q:Rat):Prop:=∃b1 l1 b2 l2 a b,v= .agg #[.bool b1,l1,.bool b2,l2]∧IntL w S (.agg #[.bool b1,l1]) 100000 a∧IntL w S (.agg #[.bool b2,l2]) 100000 b∧ratio a b=q
theorem RatL.keep{S:Nat→Prop}{w w2:World}{v:Value}{q:Rat}(h:RatL w S v q)(hk:∀g,S g→w2.heap[g]? =w.heap[g]?):RatL w2 S v q:=by
 obtain⟨b1,l1,b2,l2,a,b,h1,h2,h3,h4⟩:=h;exact⟨b1,l1,b2,l2,a,b,h1,h2.keep hk,h3.keep hk,h4⟩
theorem RatL.weak{S S':Nat→Prop}{w:World}{v:Value}{q:Rat}(h:RatL w S v q)(hk:∀g,S g→S' g):RatL w S' v q:=by
 obtain⟨b1,l1,b2,l2,a,b,h1,h2,h3,h4⟩:=h;exact⟨b1,l1,b2,l2,a,b,h1,h2.weak hk,h3.weak hk,h4⟩
theorem RatL.v{S:Nat→Prop}{w:World}{v:Value}{q:Rat}(h:RatL w S v q):RatV w S v q:=by
 obtain⟨b1,l1,b2,l2,a,b,rfl,h2,h3,h4⟩:=h;exact⟨a,b,⟨b1,l1,b2,l2,rfl,h2.r,h3.r⟩,h4,h2.ln,h3.ln⟩
theorem RatL.shape{S:Nat→Prop}{w:World}{v:Value}{q:Rat}(h:RatL w S v q):∃b a n c b2 a2 n2 c2,v= .agg #[.bool b,.slice a n c,.bool b2,.slice a2 n2 c2]:=h.v.shape
theorem RatL.rl{S:Nat→Prop}{w:World}{v:Value}{q:Rat}(h:RatL w S v q):rl q≤100000:=by
 obtain⟨b1,l1,b2,l2,a,b,rfl,h2,h3,rfl⟩:=h
 have:=rl_ratio a b
 have:=h2.ln
 have:=h3.ln
 omega
theorem RatC.l{S:Nat→Prop}{w:World}{v:Value}{q:Rat}(h:RatC w S v q)(hl:rl q≤100000):RatL w S v q:=by
 obtain⟨b1,l1,b2,l2,h1,h2,h3⟩:=h
 exact⟨b1,l1,b2,l2,_,_,h1,h2.l (Nat.le_trans (rl_num q) hl),h3.l (Nat.le_trans (rl_den' q) hl),ratio_self q⟩
theorem rs_ratio(a b:Int):rs (ratio a b)=if b.sign<0 then -a.sign else a.sign:=by
 have sb:=sign_cases b
 rw[ratio]
 split
 ·rw[if_neg (by omega),rs,sign_div (by decide)]
 ·split
  ·rw[show Rat.divInt a b=Rat.divInt (-a) (-b)from(Rat.neg_divInt_neg a b).symm,rs,sign_div (by omega),Int.sign_neg]
  ·rw[rs,sign_div (by omega)]
theorem divInt_sq{a c:Int}:(a.natAbs<1073741824)→(c.natAbs<1073741824)→(a*c).natAbs≤1152921502459363329:=fun h1 h2=>by
 rw[Int.natAbs_mul]
 exact Nat.mul_le_mul (show a.natAbs≤1073741823 by omega) (show c.natAbs≤1073741823 by omega)
section
variable{S S':Nat→Prop}{H:Hp}{nx:Nat}{iv iv':Iv}{B:Nat}{w w' w2:World}{ρ:Nat→Sx.Val}{v:Value}{q:Rat}
theorem RatL.rel(h:RatL w (Cv S B iv) v q)(r:Rel H nx iv B w ρ w')(hS:∀g,S g→g<B):RatL w' (Cv S B iv) v q:=h.keep fun _ hg=>Rel.same r hS hg
theorem RatL.past(h:RatL w (Cv S B iv) v q)(r:Rel H nx iv B w ρ w')(hS:∀g,S g→g<B)(he:Ext w' w2)(hm:∀p,p∈iv→p∈iv'):RatL w2 (Cv S B iv') v q:=
 ((h.rel r hS).keep fun g hg=>he.block g (Rel.old r hS g hg)).weak fun _ hg=>hg.mono hm
theorem RatL.arg(h:RatL w S v q)(iv:Iv):RatL w (Cv S w.heap.size iv) v q:=h.weak fun _ h=>.inl h
end

theorem rSignOfR_c{S:Nat→Prop}{w:World}{v:Value}{a b:Int}(hS:Old S w)(hp:RatR w S v a b):
  Con PG N.ref01_SignOf #[v] w (Ret w fun v' _=>v'= .int .i64 (rs (ratio a b))):=by
 have hw:Bel w.heap.size w w:=Bel.refl
 obtain⟨b1,l1,b2,l2,rfl,ha,hb'⟩:=hp
 obtain⟨_,a1,n1,c1,e1⟩:=ha.shape
 obtain⟨_,a2,n2,c2,e2⟩:=hb'.shape
 simp only[Value.agg.injEq,Array.mk.injEq,List.cons.injEq,and_true]at e1 e2
 obtain⟨_,rfl⟩:=e1
 obtain⟨_,rfl⟩:=e2
 replace ha:=ha.weak (S':=Cv S w.heap.size []) fun _ h=>.inl h
 replace hb':=hb'.weak (S':=Cv S w.heap.size []) fun _ h=>.inl h
 have hr:=rs_ratio a b
 have sa:=sign_cases a
 refine in_ref01_SignOf (by simp) ?_
 conv=>whnf
 refine callE_S (callE_con (Φ:=fun _ w' v w2=>v= .int .i64 b.sign) (fun ρ w' r=>rSign_c (Rel.old r hS) (hb'.rel r hS)) ?_)
 rintro ρ wa1 v1 wb1 r he hb rfl
 replace hw:=hw.tr hb
 replace ha:=ha.past (iv':=(wa1.heap.size,wb1.heap.size)::[]) r hS he fun x hx=>List.mem_cons_of_mem _ hx
 clear hb'
 clear r he hb
 generalize (wa1.heap.size,wb1.heap.size)::[]=iv1 at*
 conv=>whnf
 refine BrS.mk (fun h=>?_) (fun h=>?_)
 ·have h:=of_decide_eq_true h
  rw[if_pos h]at hr
  conv=>whnf
  refine callE_S (cE hw (Φ:=fun _ w' v w2=>v= .int .i64 a.sign) (fun ρ w' r=>rSign_c (Rel.old r hS) (ha.rel r hS)) ?_)
  rintro ρ wa2 v2 wb2 iv2 r he hw h_ rfl
  clear ha
  clear r he
  conv=>whnf
  refine⟨-a.sign,by rw[wrap64]<;>omega,?_⟩
  conv=>whnf
  intro ρe we re
  exact⟨_,rfl,hw.tr re.bel,by rw[hr];rfl⟩
 have h:=of_decide_eq_false h
 rw[if_neg h]at hr
 conv=>whnf
 refine callE_S (cE hw (Φ:=fun _ w' v w2=>v= .int .i64 a.sign) (fun ρ w' r=>rSign_c (Rel.old r hS) (ha.rel r hS)) ?_)
 rintro ρ wa2 v2 wb2 iv2 r he hw h_ rfl
 clear ha
 clear r he
 conv=>whnf
 intro ρe we re
 exact⟨_,rfl,hw.tr re.bel,by rw[hr];rfl⟩

theorem rSignOf_c{S:Nat→Prop}{w:World}{v:Value}{p:Rat}(hS:Old S w)(hp:RatC w S v p):Con PG N.ref01_SignOf #[v] w (Ret w fun v' _=>v'= .int .i64 (rs p)):=by
 have:=rSignOfR_c hS hp.r
 rw[ratio_self]at this
 exact this
theorem rNormal_c{S:Nat→Prop}{w:World}{v:Value}{p:Rat}(hS:Old S w)(hp:RatL w S v p):
  Con PG N.ref01_Normal #[v] w (Ret w fun v' w2=>RatC w2 (Nw (fun _=>False) w w2) v' p):=by
 have hw:Bel w.heap.size w w:=Bel.refl
 obtain⟨b1,l1,b2,l2,a,b,rfl,ha,hb',rfl⟩:=hp
 obtain⟨_,a1,n1,c1,e1⟩:=ha.shape
 obtain⟨_,a2,n2,c2,e2⟩:=hb'.shape
 simp only[Value.agg.injEq,Array.mk.injEq,List.cons.injEq,and_true]at e1 e2
 obtain⟨_,rfl⟩:=e1
 obtain⟨_,rfl⟩:=e2
 replace ha:=ha.weak (S':=Cv S w.heap.size []) fun _ h=>.inl h
 replace hb':=hb'.weak (S':=Cv S w.heap.size []) fun _ h=>.inl h
 have sb:=sign_cases b
 refine in_ref01_Normal (by simp) ?_
 conv=>whnf
 refine callE_S (callE_con (Φ:=fun _ w' v w2=>v= .int .i64 b.sign) (fun ρ w' r=>rSign_c (Rel.old r hS) (hb'.rel r hS).r) ?_)
 rintro ρ wa1 v1 wb1 r he hb rfl
 replace hw:=hw.tr hb
 replace ha:=ha.past (iv':=(wa1.heap.size,wb1.heap.size)::[]) r hS he fun x hx=>List.mem_cons_of_mem _ hx
 replace hb':=hb'.past (iv':=(wa1.heap.size,wb1.heap.size)::[]) r hS he fun x hx=>List.mem_cons_of_mem _ hx
 clear r he hb
 generalize (wa1.heap.size,wb1.heap.size)::[]=iv1 at*
 conv=>whnf
 refine BrS.mk (fun h=>?_) (fun h=>?_)
 ·have h:b.sign=0:=by simpa using h
  obtain rfl:b=0:=by omega
  rw[show ratio a 0=Rat.divInt a 1 from if_pos rfl]
  conv=>whnf
  refine drawn_of_pi hτ hmix [.x 0,.x 1,.x 2,.x 3,.x 4] (by kernel_rfl) (by kernel_rfl) ?_
  conv=>whnf
  refine callE_con (Φ:=fun _ w' v w2=>IntC w2 (Nw (fun _=>False) w' w2) v (1)) (fun ρ w' r=>rOf_c _ w' (by decide) (by decide)) ?_
  rintro ρ wa2 v2 wb2 r he hb hn
  replace hw:=hw.tr hb
  replace ha:=ha.past (iv':=(wa2.heap.size,wb2.heap.size)::iv1) r hS he fun x hx=>List.mem_cons_of_mem _ hx
  replace hb':=hb'.past (iv':=(wa2.heap.size,wb2.heap.size)::iv1) r hS he fun x hx=>List.mem_cons_of_mem _ hx
  have h1:=hn.got (S:=fun _=>False) r.baseLe (iv:=(wa2.heap.size,wb2.heap.size)::iv1) List.mem_cons_self
  clear r he hb hn
  generalize (wa2.heap.size,wb2.heap.size)::iv1=iv2 at*
  obtain⟨s2_0,s2_1,s2_2,s2_3,rfl⟩:=h1.shape
  conv=>whnf
  refine callE_con (Φ:=fun _ w' v w2=>RatC w2 (Nw (fun _=>False) w' w2) v (Rat.divInt a 1)) (fun ρ w' r=>rOver_c (Rel.old r hS) (ha.rel r hS) (((h1.rel r (oldF w)).l (k:=1) (by decide)).weak fun g hg=>Cv.false hg) (by omega) (by omega) (by decide)) ?_
  rintro ρ wa3 v3 wb3 r he hb hn
  replace hw:=hw.tr hb
  replace ha:=ha.past (iv':=(wa3.heap.size,wb3.heap.size)::iv2) r hS he fun x hx=>List.mem_cons_of_mem _ hx
  replace hb':=hb'.past (iv':=(wa3.heap.size,wb3.heap.size)::iv2) r hS he fun x hx=>List.mem_cons_of_mem _ hx
  replace h1:=h1.past (iv':=(wa3.heap.size,wb3.heap.size)::iv2) r (oldF w) he fun x hx=>List.mem_cons_of_mem _ hx
  have hR:=hn.got (S:=fun _=>False) r.baseLe (iv:=(wa3.heap.size,wb3.heap.size)::iv2) List.mem_cons_self
  clear r he hb hn
  generalize (wa3.heap.size,wb3.heap.size)::iv2=iv3 at*
  obtain⟨s3_0,s3_1,s3_2,s3_3,s3_4,s3_5,s3_6,s3_7,rfl⟩:=hR.shape
  conv=>whnf
  intro ρe we re
  exact⟨_,rfl,hw.tr re.bel,hR.out re (oldF w)⟩
 have h:b.sign≠0:=by simpa using h
 have hb0:b≠0:=by omega
 rw[show ratio a b=Rat.divInt a b from if_neg hb0]
 conv=>whnf
 refine callE_S (callE_con (Φ:=fun _ w' v w2=>RatC w2 (Nw (fun _=>False) w' w2) v (Rat.divInt a b)) (fun ρ w' r=>rOver_c (Rel.old r hS) (ha.rel r hS) (hb'.rel r hS) (by omega) (by omega) hb0) ?_)
 rintro ρ wa2 v2 wb2 r he hb hn
 replace hw:=hw.tr hb
 replace ha:=ha.past (iv':=(wa2.heap.size,wb2.heap.size)::iv1) r hS he fun x hx=>List.mem_cons_of_mem _ hx
 replace hb':=hb'.past (iv':=(wa2.heap.size,wb2.heap.size)::iv1) r hS he fun x hx=>List.mem_cons_of_mem _ hx
 have hR:=hn.got (S:=fun _=>False) r.baseLe (iv:=(wa2.heap.size,wb2.heap.size)::iv1) List.mem_cons_self
 clear r he hb hn
 generalize (wa2.heap.size,wb2.heap.size)::iv1=iv2 at*
 obtain⟨s2_0,s2_1,s2_2,s2_3,s2_4,s2_5,s2_6,s2_7,rfl⟩:=hR.shape
 conv=>whnf
 intro ρe we re
 exact⟨_,rfl,hw.tr re.bel,hR.out re (oldF w)⟩

theorem quick_c{S:Nat→Prop}{w:World}{v:Value}{p:Rat}(hS:Old S w)(hp:RatL w S v p):
  Con PG N.ref01_quick #[v] w (Ret w fun v' _=>∃n d ok,v'= .tuple #[.int .i64 n,.int .i64 d,.bool ok]∧(ok=true→d≠0∧n.natAbs<1073741824∧d.natAbs<1073741824∧Rat.divInt n d=p)):=by
 have hw:Bel w.heap.size w w:=Bel.refl
 obtain⟨b1,l1,b2,l2,a,b,rfl,ha,hb',rfl⟩:=hp
 obtain⟨_,a1,n1,c1,e1⟩:=ha.shape
 obtain⟨_,a2,n2,c2,e2⟩:=hb'.shape
 simp only[Value.agg.injEq,Array.mk.injEq,List.cons.injEq,and_true]at e1 e2
 obtain⟨_,rfl⟩:=e1
 obtain⟨_,rfl⟩:=e2
 replace ha:=ha.weak (S':=Cv S w.heap.size []) fun _ h=>.inl h
 replace hb':=hb'.weak (S':=Cv S w.heap.size []) fun _ h=>.inl h
 refine in_ref01_quick (by simp) ?_
 conv=>whnf
 refine callE_S (callE_con (Φ:=fun _ w' v w2=>∃n p,v= .tuple #[.int .i64 n,.bool p]∧(p=true→n=a∧a.natAbs<1073741824)) (fun ρ w' r=>(rshort_c (Rel.old r hS) (ha.rel r hS).r).mono fun e w2 ⟨v2,e1,e2,e3⟩=>⟨v2,e1,e2,by
   rw[e3,shortV]
   split
   ·exact⟨_,_,rfl,fun _=>⟨rfl,‹_›⟩⟩
   ·exact⟨_,_,rfl,fun h=>by cases h⟩⟩) ?_)
 rintro ρ wa1 v1 wb1 r he hb ⟨na,pa,rfl,qa⟩
 replace hw:=hw.tr hb
 replace ha:=ha.past (iv':=(wa1.heap.size,wb1.heap.size)::[]) r hS he fun x hx=>List.mem_cons_of_mem _ hx
 replace hb':=hb'.past (iv':=(wa1.heap.size,wb1.heap.size)::[]) r hS he fun x hx=>List.mem_cons_of_mem _ hx
 clear r he hb
 generalize (wa1.heap.size,wb1.heap.size)::[]=iv1 at*
 conv=>whnf
 refine callE_S (callE_con (Φ:=fun _ w' v w2=>∃n p,v= .tuple #[.int .i64 n,.bool p]∧(p=true→n=b∧b.natAbs<1073741824)) (fun ρ w' r=>(rshort_c (Rel.old r hS) (hb'.rel r hS).r).mono fun e w2 ⟨v2,e1,e2,e3⟩=>⟨v2,e1,e2,by
   rw[e3,shortV]
   split
   ·exact⟨_,_,rfl,fun _=>⟨rfl,‹_›⟩⟩
   ·exact⟨_,_,rfl,fun h=>by cases h⟩⟩) ?_)
 rintro ρ wa2 v2 wb2 r he hb ⟨nb,pb,rfl,qb⟩
 replace hw:=hw.tr hb
 replace ha:=ha.past (iv':=(wa2.heap.size,wb2.heap.size)::iv1) r hS he fun x hx=>List.mem_cons_of_mem _ hx
 replace hb':=hb'.past (iv':=(wa2.heap.size,wb2.heap.size)::iv1) r hS he fun x hx=>List.mem_cons_of_mem _ hx
 clear r he hb
 generalize (wa2.heap.size,wb2.heap.size)::iv1=iv2 at*
 conv=>whnf
 refine BrS.mk (fun h=>?_) (fun h=>?_)
 ·have h:nb=0:=by simpa using h
  conv=>whnf
  refine BrS.mk (fun h1=>?_) (fun h1=>?_)
  ·conv=>whnf
   intro ρe we re
   exact⟨_,rfl,hw.tr re.bel,⟨na,1,pb,rfl,fun h2=>by
     obtain⟨rfl,hx⟩:=qa h1
     obtain⟨rfl,hy⟩:=qb h2
     rw[h]
     exact⟨by decide,hx,by decide,(if_pos rfl).symm⟩⟩⟩
  conv=>whnf
  intro ρe we re
  exact⟨_,rfl,hw.tr re.bel,⟨na,1,false,rfl,fun h2=>by cases h2⟩⟩
 have h:nb≠0:=by simpa using h
 conv=>whnf
 refine BrS.mk (fun h1=>?_) (fun h1=>?_)
 ·conv=>whnf
  intro ρe we re
  exact⟨_,rfl,hw.tr re.bel,⟨na,nb,pb,rfl,fun h2=>by
    obtain⟨rfl,hx⟩:=qa h1
    obtain⟨rfl,hy⟩:=qb h2
    exact⟨h,hx,hy,(if_neg h).symm⟩⟩⟩
 conv=>whnf
 intro ρe we re
 exact⟨_,rfl,hw.tr re.bel,⟨na,nb,false,rfl,fun h2=>by cases h2⟩⟩

theorem rAdd_c{S:Nat→Prop}{w:World}{v u:Value}{p q:Rat}(hS:Old S w)(hp:RatL w S v p)(hq:RatL w S u q):
  Con PG N.ref01_Add #[v,u] w (Ret w fun v' w2=>RatC w2 (Nw (fun _=>False) w w2) v' (p+q)):=by
 have hw:Bel w.heap.size w w:=Bel.refl
 replace hp:=hp.weak (S':=Cv S w.heap.size []) fun _ h=>.inl h
 replace hq:=hq.weak (S':=Cv S w.heap.size []) fun _ h=>.inl h
 obtain⟨b1,a1,n1,c1,b2,a2,n2,c2,rfl⟩:=hp.shape
 obtain⟨b3,a3,n3,c3,b4,a4,n4,c4,rfl⟩:=hq.shape
 refine in_ref01_Add (by simp) ?_
 conv=>whnf
 have r1:=hp.rl
 have r2:=hq.rl
 have u1:=rl_num p
 have u2:=rl_den' p
 have u3:=rl_num q
 have u4:=rl_den' q
 refine callE_S (cE hw (Φ:=fun _ w' v w2=>∃n d ok,v= .tuple #[.int .i64 n,.int .i64 d,.bool ok]∧(ok=true→d≠0∧n.natAbs<1073741824∧d.natAbs<1073741824∧Rat.divInt n d=p)) (fun ρ w' r=>quick_c (Rel.old r hS) (hp.rel r hS)) ?_)
 rintro ρ wa1 v1 wb1 iv1 r he hw h_ ⟨a,b,k1,rfl,g1⟩
 replace hp:=hp.past r hS he (mC h_)
 replace hq:=hq.past r hS he (mC h_)
 clear r
 conv=>whnf
 refine callE_S (cE hw (Φ:=fun _ w' v w2=>∃n d ok,v= .tuple #[.int .i64 n,.int .i64 d,.bool ok]∧(ok=true→d≠0∧n.natAbs<1073741824∧d.natAbs<1073741824∧Rat.divInt n d=q)) (fun ρ w' r=>quick_c (Rel.old r hS) (hq.rel r hS)) ?_)
 rintro ρ wa2 v2 wb2 iv2 r he hw h_ ⟨c,d,k2,rfl,g2⟩
 replace hp:=hp.past r hS he (mC h_)
 replace hq:=hq.past r hS he (mC h_)
 clear r
 conv=>whnf
 refine BrS.mk (fun h1=>?_) (fun h1=>?_)
 ·conv=>whnf
  refine BrS.mk (fun h2=>?_) (fun h2=>?_)
  ·obtain⟨g3,g4,g5,g6⟩:=g1 h1
   obtain⟨g7,g8,g9,g10⟩:=g2 h2
   have i1:=divInt_sq g4 g9
   have i2:=divInt_sq g8 g5
   have i3:=divInt_sq g5 g9
   have i4:=divInt_sq g4 g8
   clear hp hq
   conv=>whnf
   refine⟨a*d,by rw[wrap64]<;>omega,?_⟩
   conv=>whnf
   refine⟨c*b,by rw[wrap64]<;>omega,?_⟩
   conv=>whnf
   refine⟨a*d+c*b,by rw[wrap64]<;>omega,?_⟩
   conv=>whnf
   refine⟨b*d,by rw[wrap64]<;>omega,?_⟩
   conv=>whnf
   have e:=Rat.divInt_add_divInt a c g3 g7
   rw[g6,g10]at e
   refine callE_S (cE hw (Φ:=fun _ w' v w2=>RatC w2 (Nw (fun _=>False) w' w2) v (p+q)) (fun ρ w' r=>e▸rlowest_c (a*d+c*b) (b*d) w' (by omega) (by omega) (mul_ne g3 g7)) ?_)
   rintro ρ wa3 v3 wb3 iv3 r he hw h_ hn
   have hR:=hn.got (S:=fun _=>False) r.baseLe (mN h_)
   clear r
   obtain⟨s3_0,s3_1,s3_2,s3_3,s3_4,s3_5,s3_6,s3_7,rfl⟩:=hR.shape
   conv=>whnf
   intro ρe we re
   exact⟨_,rfl,hw.tr re.bel,hR.out re (oldF w)⟩
  conv=>whnf
  refine drawn_of_pi hτ hmix [.x 0,.x 2,.x 1,.x 3,.x 4,.x 5] (by kernel_rfl) (by kernel_rfl) ?_
  conv=>whnf
  refine cE hw (Φ:=fun _ w' v w2=>RatC w2 (Nw (fun _=>False) w' w2) v (p)) (fun ρ w' r=>rNormal_c (Rel.old r hS) (hp.rel r hS)) ?_
  rintro ρ wa3 v3 wb3 iv3 r he hw h_ hn
  clear hp
  replace hq:=hq.past r hS he (mC h_)
  have hX:=hn.got (S:=fun _=>False) r.baseLe (mN h_)
  clear r
  obtain⟨s3_0,s3_1,s3_2,s3_3,s3_4,s3_5,s3_6,s3_7,rfl⟩:=hX.shape
  conv=>whnf
  refine cE hw (Φ:=fun _ w' v w2=>RatC w2 (Nw (fun _=>False) w' w2) v (q)) (fun ρ w' r=>rNormal_c (Rel.old r hS) (hq.rel r hS)) ?_
  rintro ρ wa4 v4 wb4 iv4 r he hw h_ hn
  clear hq
  replace hX:=hX.past r (oldF w) he (mC h_)
  have hY:=hn.got (S:=fun _=>False) r.baseLe (mN h_)
  clear r
  obtain⟨s4_0,s4_1,s4_2,s4_3,s4_4,s4_5,s4_6,s4_7,rfl⟩:=hY.shape
  conv=>whnf
  have hXn:=hX.num
  have hXd:=hX.den
  clear hX
  have hYn:=hY.num
  have hYd:=hY.den
  clear hY
  have m0:=ln_mul_abs p.num q.den
  have m1:=ln_mul_abs q.num p.den
  have m2:=ln_mul_abs (p.den:Int) q.den
  have m3:=ln_add_int (p.num*q.den) (q.num*p.den)
  have m4:=ln_mul_abs p.num q.num
  refine drawn_of_pi hτ hmix [.x 0,.x 1,.x 2,.x 3,.x 5,.x 6,.x 7,.x 8,.x 11,.x 12,.x 13,.x 14,.x 4,.x 9,.x 10,.x 15,.x 16,.x 17] (by kernel_rfl) (by kernel_rfl) ?_
  conv=>whnf
  refine cE hw (Φ:=fun _ w' v w2=>IntC w2 (Nw (fun _=>False) w' w2) v (p.num*(q.den:Int))) (fun ρ w' r=>rProd_c (Rel.old r (oldF w)) ((hXn.rel r (oldF w)).l (k:=100000) (by omega)) ((hYd.rel r (oldF w)).l (k:=100000) (by omega)) (by omega) (by omega)) ?_
  rintro ρ wa5 v5 wb5 iv5 r he hw h_ hn
  replace hXn:=hXn.past r (oldF w) he (mC h_)
  replace hXd:=hXd.past r (oldF w) he (mC h_)
  replace hYn:=hYn.past r (oldF w) he (mC h_)
  replace hYd:=hYd.past r (oldF w) he (mC h_)
  have hA:=hn.got (S:=fun _=>False) r.baseLe (mN h_)
  clear r
  obtain⟨s5_0,s5_1,s5_2,s5_3,rfl⟩:=hA.shape
  conv=>whnf
  refine cE hw (Φ:=fun _ w' v w2=>IntC w2 (Nw (fun _=>False) w' w2) v (q.num*(p.den:Int))) (fun ρ w' r=>rProd_c (Rel.old r (oldF w)) ((hYn.rel r (oldF w)).l (k:=100000) (by omega)) ((hXd.rel r (oldF w)).l (k:=100000) (by omega)) (by omega) (by omega)) ?_
  rintro ρ wa6 v6 wb6 iv6 r he hw h_ hn
  replace hXn:=hXn.past r (oldF w) he (mC h_)
  replace hXd:=hXd.past r (oldF w) he (mC h_)
  replace hYn:=hYn.past r (oldF w) he (mC h_)
  replace hYd:=hYd.past r (oldF w) he (mC h_)
  replace hA:=hA.past r (oldF w) he (mC h_)
  have hB:=hn.got (S:=fun _=>False) r.baseLe (mN h_)
  clear r
  obtain⟨s6_0,s6_1,s6_2,s6_3,rfl⟩:=hB.shape
  conv=>whnf
  refine cE hw (Φ:=fun _ w' v w2=>IntC w2 (Nw (fun _=>False) w' w2) v (p.num*(q.den:Int)+q.num*(p.den:Int))) (fun ρ w' r=>rSum_c (Rel.old r (oldF w)) ((hA.rel r (oldF w)).l (k:=200000) (by omega)) ((hB.rel r (oldF w)).l (k:=200000) (by omega)) (by omega) (by omega)) ?_
  rintro ρ wa7 v7 wb7 iv7 r he hw h_ hn
  replace hXn:=hXn.past r (oldF w) he (mC h_)
  replace hXd:=hXd.past r (oldF w) he (mC h_)
  replace hYn:=hYn.past r (oldF w) he (mC h_)
  replace hYd:=hYd.past r (oldF w) he (mC h_)
  clear hA
  clear hB
  have hN:=hn.got (S:=fun _=>False) r.baseLe (mN h_)
  clear r
  obtain⟨s7_0,s7_1,s7_2,s7_3,rfl⟩:=hN.shape
  conv=>whnf
  refine cE hw (Φ:=fun _ w' v w2=>IntC w2 (Nw (fun _=>False) w' w2) v ((p.den:Int)*(q.den:Int))) (fun ρ w' r=>rProd_c (Rel.old r (oldF w)) ((hXd.rel r (oldF w)).l (k:=100000) (by omega)) ((hYd.rel r (oldF w)).l (k:=100000) (by omega)) (by omega) (by omega)) ?_
  rintro ρ wa8 v8 wb8 iv8 r he hw h_ hn
  replace hXn:=hXn.past r (oldF w) he (mC h_)
  replace hXd:=hXd.past r (oldF w) he (mC h_)
  replace hYn:=hYn.past r (oldF w) he (mC h_)
  replace hYd:=hYd.past r (oldF w) he (mC h_)
  replace hN:=hN.past r (oldF w) he (mC h_)
  have hD:=hn.got (S:=fun _=>False) r.baseLe (mN h_)
  clear r
  obtain⟨s8_0,s8_1,s8_2,s8_3,rfl⟩:=hD.shape
  conv=>whnf
  refine cE hw (Φ:=fun _ w' v w2=>RatC w2 (Nw (fun _=>False) w' w2) v (p+q)) (fun ρ w' r=>(rat_add p q)▸rOver_c (Rel.old r (oldF w)) ((hN.rel r (oldF w)).l (k:=200001) (by omega)) ((hD.rel r (oldF w)).l (k:=200001) (by omega)) (by omega) (by omega) (mul_ne (den_ne p) (den_ne q))) ?_
  rintro ρ wa9 v9 wb9 iv9 r he hw h_ hn
  clear hXn
  clear hXd
  clear hYn
  clear hYd
  clear hN
  clear hD
  have hR:=hn.got (S:=fun _=>False) r.baseLe (mN h_)
  clear r
  obtain⟨s9_0,s9_1,s9_2,s9_3,s9_4,s9_5,s9_6,s9_7,rfl⟩:=hR.shape
  conv=>whnf
  intro ρe we re
  exact⟨_,rfl,hw.tr re.bel,hR.out re (oldF w)⟩
 conv=>whnf
 refine drawn_of_pi hτ hmix [.x 0,.x 2,.x 1,.x 3,.x 4,.x 5] (by kernel_rfl) (by kernel_rfl) ?_
 conv=>whnf
 refine cE hw (Φ:=fun _ w' v w2=>RatC w2 (Nw (fun _=>False) w' w2) v (p)) (fun ρ w' r=>rNormal_c (Rel.old r hS) (hp.rel r hS)) ?_
 rintro ρ wa3 v3 wb3 iv3 r he hw h_ hn
 clear hp
 replace hq:=hq.past r hS he (mC h_)
 have hX:=hn.got (S:=fun _=>False) r.baseLe (mN h_)
 clear r
 obtain⟨s3_0,s3_1,s3_2,s3_3,s3_4,s3_5,s3_6,s3_7,rfl⟩:=hX.shape
 conv=>whnf
 refine cE hw (Φ:=fun _ w' v w2=>RatC w2 (Nw (fun _=>False) w' w2) v (q)) (fun ρ w' r=>rNormal_c (Rel.old r hS) (hq.rel r hS)) ?_
 rintro ρ wa4 v4 wb4 iv4 r he hw h_ hn
 clear hq
 replace hX:=hX.past r (oldF w) he (mC h_)
 have hY:=hn.got (S:=fun _=>False) r.baseLe (mN h_)
 clear r
 obtain⟨s4_0,s4_1,s4_2,s4_3,s4_4,s4_5,s4_6,s4_7,rfl⟩:=hY.shape
 conv=>whnf
 have hXn:=hX.num
 have hXd:=hX.den
 clear hX
 have hYn:=hY.num
 have hYd:=hY.den
 clear hY
 have m0:=ln_mul_abs p.num q.den
 have m1:=ln_mul_abs q.num p.den
 have m2:=ln_mul_abs (p.den:Int) q.den
 have m3:=ln_add_int (p.num*q.den) (q.num*p.den)
 have m4:=ln_mul_abs p.num q.num
 refine drawn_of_pi hτ hmix [.x 0,.x 1,.x 2,.x 3,.x 5,.x 6,.x 7,.x 8,.x 11,.x 12,.x 13,.x 14,.x 4,.x 9,.x 10,.x 15,.x 16,.x 17] (by kernel_rfl) (by kernel_rfl) ?_
 conv=>whnf
 refine cE hw (Φ:=fun _ w' v w2=>IntC w2 (Nw (fun _=>False) w' w2) v (p.num*(q.den:Int))) (fun ρ w' r=>rProd_c (Rel.old r (oldF w)) ((hXn.rel r (oldF w)).l (k:=100000) (by omega)) ((hYd.rel r (oldF w)).l (k:=100000) (by omega)) (by omega) (by omega)) ?_
 rintro ρ wa5 v5 wb5 iv5 r he hw h_ hn
 replace hXn:=hXn.past r (oldF w) he (mC h_)
 replace hXd:=hXd.past r (oldF w) he (mC h_)
 replace hYn:=hYn.past r (oldF w) he (mC h_)
 replace hYd:=hYd.past r (oldF w) he (mC h_)
 have hA:=hn.got (S:=fun _=>False) r.baseLe (mN h_)
 clear r
 obtain⟨s5_0,s5_1,s5_2,s5_3,rfl⟩:=hA.shape
 conv=>whnf
 refine cE hw (Φ:=fun _ w' v w2=>IntC w2 (Nw (fun _=>False) w' w2) v (q.num*(p.den:Int))) (fun ρ w' r=>rProd_c (Rel.old r (oldF w)) ((hYn.rel r (oldF w)).l (k:=100000) (by omega)) ((hXd.rel r (oldF w)).l (k:=100000) (by omega)) (by omega) (by omega)) ?_
 rintro ρ wa6 v6 wb6 iv6 r he hw h_ hn
 replace hXn:=hXn.past r (oldF w) he (mC h_)
 replace hXd:=hXd.past r (oldF w) he (mC h_)
 replace hYn:=hYn.past r (oldF w) he (mC h_)
 replace hYd:=hYd.past r (oldF w) he (mC h_)
 replace hA:=hA.past r (oldF w) he (mC h_)
 have hB:=hn.got (S:=fun _=>False) r.baseLe (mN h_)
 clear r
 obtain⟨s6_0,s6_1,s6_2,s6_3,rfl⟩:=hB.shape
 conv=>whnf
 refine cE hw (Φ:=fun _ w' v w2=>IntC w2 (Nw (fun _=>False) w' w2) v (p.num*(q.den:Int)+q.num*(p.den:Int))) (fun ρ w' r=>rSum_c (Rel.old r (oldF w)) ((hA.rel r (oldF w)).l (k:=200000) (by omega)) ((hB.rel r (oldF w)).l (k:=200000) (by omega)) (by omega) (by omega)) ?_
 rintro ρ wa7 v7 wb7 iv7 r he hw h_ hn
 replace hXn:=hXn.past r (oldF w) he (mC h_)
 replace hXd:=hXd.past r (oldF w) he (mC h_)
 replace hYn:=hYn.past r (oldF w) he (mC h_)
 replace hYd:=hYd.past r (oldF w) he (mC h_)
 clear hA
 clear hB
 have hN:=hn.got (S:=fun _=>False) r.baseLe (mN h_)
 clear r
 obtain⟨s7_0,s7_1,s7_2,s7_3,rfl⟩:=hN.shape
 conv=>whnf
 refine cE hw (Φ:=fun _ w' v w2=>IntC w2 (Nw (fun _=>False) w' w2) v ((p.den:Int)*(q.den:Int))) (fun ρ w' r=>rProd_c (Rel.old r (oldF w)) ((hXd.rel r (oldF w)).l (k:=100000) (by omega)) ((hYd.rel r (oldF w)).l (k:=100000) (by omega)) (by omega) (by omega)) ?_
 rintro ρ wa8 v8 wb8 iv8 r he hw h_ hn
 replace hXn:=hXn.past r (oldF w) he (mC h_)
 replace hXd:=hXd.past r (oldF w) he (mC h_)
 replace hYn:=hYn.past r (oldF w) he (mC h_)
 replace hYd:=hYd.past r (oldF w) he (mC h_)
 replace hN:=hN.past r (oldF w) he (mC h_)
 have hD:=hn.got (S:=fun _=>False) r.baseLe (mN h_)
 clear r
 obtain⟨s8_0,s8_1,s8_2,s8_3,rfl⟩:=hD.shape
 conv=>whnf
 refine cE hw (Φ:=fun _ w' v w2=>RatC w2 (Nw (fun _=>False) w' w2) v (p+q)) (fun ρ w' r=>(rat_add p q)▸rOver_c (Rel.old r (oldF w)) ((hN.rel r (oldF w)).l (k:=200001) (by omega)) ((hD.rel r (oldF w)).l (k:=200001) (by omega)) (by omega) (by omega) (mul_ne (den_ne p) (den_ne q))) ?_
 rintro ρ wa9 v9 wb9 iv9 r he hw h_ hn
 clear hXn
 clear hXd
 clear hYn
 clear hYd
 clear hN
 clear hD
 have hR:=hn.got (S:=fun _=>False) r.baseLe (mN h_)
 clear r
 obtain⟨s9_0,s9_1,s9_2,s9_3,s9_4,s9_5,s9_6,s9_7,rfl⟩:=hR.shape
 conv=>whnf
 intro ρe we re
 exact⟨_,rfl,hw.tr re.bel,hR.out re (oldF w)⟩

theorem rMul_c{S:Nat→Prop}{w:World}{v u:Value}{p q:Rat}(hS:Old S w)(hp:RatL w S v p)(hq:RatL w S u q):
  Con PG N.ref01_Mul #[v,u] w (Ret w fun v' w2=>RatC w2 (Nw (fun _=>False) w w2) v' (p*q)):=by
 have hw:Bel w.heap.size w w:=Bel.refl
 replace hp:=hp.weak (S':=Cv S w.heap.size []) fun _ h=>.inl h
 replace hq:=hq.weak (S':=Cv S w.heap.size []) fun _ h=>.inl h
 obtain⟨b1,a1,n1,c1,b2,a2,n2,c2,rfl⟩:=hp.shape
 obtain⟨b3,a3,n3,c3,b4,a4,n4,c4,rfl⟩:=hq.shape
 refine in_ref01_Mul (by simp) ?_
 conv=>whnf
 have r1:=hp.rl
 have r2:=hq.rl
 have u1:=rl_num p
 have u2:=rl_den' p
 have u3:=rl_num q
 have u4:=rl_den' q
 refine callE_S (cE hw (Φ:=fun _ w' v w2=>∃n d ok,v= .tuple #[.int .i64 n,.int .i64 d,.bool ok]∧(ok=true→d≠0∧n.natAbs<1073741824∧d.natAbs<1073741824∧Rat.divInt n d=p)) (fun ρ w' r=>quick_c (Rel.old r hS) (hp.rel r hS)) ?_)
 rintro ρ wa1 v1 wb1 iv1 r he hw h_ ⟨a,b,k1,rfl,g1⟩
 replace hp:=hp.past r hS he (mC h_)
 replace hq:=hq.past r hS he (mC h_)
 clear r
 conv=>whnf
 refine callE_S (cE hw (Φ:=fun _ w' v w2=>∃n d ok,v= .tuple #[.int .i64 n,.int .i64 d,.bool ok]∧(ok=true→d≠0∧n.natAbs<1073741824∧d.natAbs<1073741824∧Rat.divInt n d=q)) (fun ρ w' r=>quick_c (Rel.old r hS) (hq.rel r hS)) ?_)
 rintro ρ wa2 v2 wb2 iv2 r he hw h_ ⟨c,d,k2,rfl,g2⟩
 replace hp:=hp.past r hS he (mC h_)
 replace hq:=hq.past r hS he (mC h_)
 clear r
 conv=>whnf
 refine BrS.mk (fun h1=>?_) (fun h1=>?_)
 ·conv=>whnf
  refine BrS.mk (fun h2=>?_) (fun h2=>?_)
  ·obtain⟨g3,g4,g5,g6⟩:=g1 h1
   obtain⟨g7,g8,g9,g10⟩:=g2 h2
   have i1:=divInt_sq g4 g9
   have i2:=divInt_sq g8 g5
   have i3:=divInt_sq g5 g9
   have i4:=divInt_sq g4 g8
   clear hp hq
   conv=>whnf
   refine⟨a*c,by rw[wrap64]<;>omega,?_⟩
   conv=>whnf
   refine⟨b*d,by rw[wrap64]<;>omega,?_⟩
   conv=>whnf
   have e:=Rat.divInt_mul_divInt a c (d₁:=b) (d₂:=d)
   rw[g6,g10]at e
   refine callE_S (cE hw (Φ:=fun _ w' v w2=>RatC w2 (Nw (fun _=>False) w' w2) v (p*q)) (fun ρ w' r=>e▸rlowest_c (a*c) (b*d) w' (by omega) (by omega) (mul_ne g3 g7)) ?_)
   rintro ρ wa3 v3 wb3 iv3 r he hw h_ hn
   have hR:=hn.got (S:=fun _=>False) r.baseLe (mN h_)
   clear r
   obtain⟨s3_0,s3_1,s3_2,s3_3,s3_4,s3_5,s3_6,s3_7,rfl⟩:=hR.shape
   conv=>whnf
   intro ρe we re
   exact⟨_,rfl,hw.tr re.bel,hR.out re (oldF w)⟩
  conv=>whnf
  refine drawn_of_pi hτ hmix [.x 0,.x 2,.x 1,.x 3,.x 4,.x 5] (by kernel_rfl) (by kernel_rfl) ?_
  conv=>whnf
  refine cE hw (Φ:=fun _ w' v w2=>RatC w2 (Nw (fun _=>False) w' w2) v (p)) (fun ρ w' r=>rNormal_c (Rel.old r hS) (hp.rel r hS)) ?_
  rintro ρ wa3 v3 wb3 iv3 r he hw h_ hn
  clear hp
  replace hq:=hq.past r hS he (mC h_)
  have hX:=hn.got (S:=fun _=>False) r.baseLe (mN h_)
  clear r
  obtain⟨s3_0,s3_1,s3_2,s3_3,s3_4,s3_5,s3_6,s3_7,rfl⟩:=hX.shape
  conv=>whnf
  refine cE hw (Φ:=fun _ w' v w2=>RatC w2 (Nw (fun _=>False) w' w2) v (q)) (fun ρ w' r=>rNormal_c (Rel.old r hS) (hq.rel r hS)) ?_
  rintro ρ wa4 v4 wb4 iv4 r he hw h_ hn
  clear hq
  replace hX:=hX.past r (oldF w) he (mC h_)
  have hY:=hn.got (S:=fun _=>False) r.baseLe (mN h_)
  clear r
  obtain⟨s4_0,s4_1,s4_2,s4_3,s4_4,s4_5,s4_6,s4_7,rfl⟩:=hY.shape
  conv=>whnf
  have hXn:=hX.num
  have hXd:=hX.den
  clear hX
  have hYn:=hY.num
  have hYd:=hY.den
  clear hY
  have m0:=ln_mul_abs p.num q.den
  have m1:=ln_mul_abs q.num p.den
  have m2:=ln_mul_abs (p.den:Int) q.den
  have m3:=ln_add_int (p.num*q.den) (q.num*p.den)
  have m4:=ln_mul_abs p.num q.num
  refine drawn_of_pi hτ hmix [.x 0,.x 1,.x 2,.x 3,.x 5,.x 6,.x 7,.x 8,.x 4,.x 9,.x 10,.x 11] (by kernel_rfl) (by kernel_rfl) ?_
  conv=>whnf
  refine cE hw (Φ:=fun _ w' v w2=>IntC w2 (Nw (fun _=>False) w' w2) v (p.num*q.num)) (fun ρ w' r=>rProd_c (Rel.old r (oldF w)) ((hXn.rel r (oldF w)).l (k:=100000) (by omega)) ((hYn.rel r (oldF w)).l (k:=100000) (by omega)) (by omega) (by omega)) ?_
  rintro ρ wa5 v5 wb5 iv5 r he hw h_ hn
  replace hXn:=hXn.past r (oldF w) he (mC h_)
  replace hXd:=hXd.past r (oldF w) he (mC h_)
  replace hYn:=hYn.past r (oldF w) he (mC h_)
  replace hYd:=hYd.past r (oldF w) he (mC h_)
  have hN:=hn.got (S:=fun _=>False) r.baseLe (mN h_)
  clear r
  obtain⟨s5_0,s5_1,s5_2,s5_3,rfl⟩:=hN.shape
  conv=>whnf
  refine cE hw (Φ:=fun _ w' v w2=>IntC w2 (Nw (fun _=>False) w' w2) v ((p.den:Int)*(q.den:Int))) (fun ρ w' r=>rProd_c (Rel.old r (oldF w)) ((hXd.rel r (oldF w)).l (k:=100000) (by omega)) ((hYd.rel r (oldF w)).l (k:=100000) (by omega)) (by omega) (by omega)) ?_
  rintro ρ wa6 v6 wb6 iv6 r he hw h_ hn
  replace hXn:=hXn.past r (oldF w) he (mC h_)
  replace hXd:=hXd.past r (oldF w) he (mC h_)
  replace hYn:=hYn.past r (oldF w) he (mC h_)
  replace hYd:=hYd.past r (oldF w) he (mC h_)
  replace hN:=hN.past r (oldF w) he (mC h_)
  have hD:=hn.got (S:=fun _=>False) r.baseLe (mN h_)
  clear r
  obtain⟨s6_0,s6_1,s6_2,s6_3,rfl⟩:=hD.shape
  conv=>whnf
  refine cE hw (Φ:=fun _ w' v w2=>RatC w2 (Nw (fun _=>False) w' w2) v (p*q)) (fun ρ w' r=>(rat_mul p q)▸rOver_c (Rel.old r (oldF w)) ((hN.rel r (oldF w)).l (k:=200001) (by omega)) ((hD.rel r (oldF w)).l (k:=200001) (by omega)) (by omega) (by omega) (mul_ne (den_ne p) (den_ne q))) ?_
  rintro ρ wa7 v7 wb7 iv7 r he hw h_ hn
  clear hXn
  clear hXd
  clear hYn
  clear hYd
  clear hN
  clear hD
  have hR:=hn.got (S:=fun _=>False) r.baseLe (mN h_)
  clear r
  obtain⟨s7_0,s7_1,s7_2,s7_3,s7_4,s7_5,s7_6,s7_7,rfl⟩:=hR.shape
  conv=>whnf
  intro ρe we re
  exact⟨_,rfl,hw.tr re.bel,hR.out re (oldF w)⟩
 conv=>whnf
 refine drawn_of_pi hτ hmix [.x 0,.x 2,.x 1,.x 3,.x 4,.x 5] (by kernel_rfl) (by kernel_rfl) ?_
 conv=>whnf
 refine cE hw (Φ:=fun _ w' v w2=>RatC w2 (Nw (fun _=>False) w' w2) v (p)) (fun ρ w' r=>rNormal_c (Rel.old r hS) (hp.rel r hS)) ?_
 rintro ρ wa3 v3 wb3 iv3 r he hw h_ hn
 clear hp
 replace hq:=hq.past r hS he (mC h_)
 have hX:=hn.got (S:=fun _=>False) r.baseLe (mN h_)
 clear r
 obtain⟨s3_0,s3_1,s3_2,s3_3,s3_4,s3_5,s3_6,s3_7,rfl⟩:=hX.shape
 conv=>whnf
 refine cE hw (Φ:=fun _ w' v w2=>RatC w2 (Nw (fun _=>False) w' w2) v (q)) (fun ρ w' r=>rNormal_c (Rel.old r hS) (hq.rel r hS)) ?_
 rintro ρ wa4 v4 wb4 iv4 r he hw h_ hn
 clear hq
 replace hX:=hX.past r (oldF w) he (mC h_)
 have hY:=hn.got (S:=fun _=>False) r.baseLe (mN h_)
 clear r
 obtain⟨s4_0,s4_1,s4_2,s4_3,s4_4,s4_5,s4_6,s4_7,rfl⟩:=hY.shape
 conv=>whnf
 have hXn:=hX.num
 have hXd:=hX.den
 clear hX
 have hYn:=hY.num
 have hYd:=hY.den
 clear hY
 have m0:=ln_mul_abs p.num q.den
 have m1:=ln_mul_abs q.num p.den
 have m2:=ln_mul_abs (p.den:Int) q.den
 have m3:=ln_add_int (p.num*q.den) (q.num*p.den)
 have m4:=ln_mul_abs p.num q.num
 refine drawn_of_pi hτ hmix [.x 0,.x 1,.x 2,.x 3,.x 5,.x 6,.x 7,.x 8,.x 4,.x 9,.x 10,.x 11] (by kernel_rfl) (by kernel_rfl) ?_
 conv=>whnf
 refine cE hw (Φ:=fun _ w' v w2=>IntC w2 (Nw (fun _=>False) w' w2) v (p.num*q.num)) (fun ρ w' r=>rProd_c (Rel.old r (oldF w)) ((hXn.rel r (oldF w)).l (k:=100000) (by omega)) ((hYn.rel r (oldF w)).l (k:=100000) (by omega)) (by omega) (by omega)) ?_
 rintro ρ wa5 v5 wb5 iv5 r he hw h_ hn
 replace hXn:=hXn.past r (oldF w) he (mC h_)
 replace hXd:=hXd.past r (oldF w) he (mC h_)
 replace hYn:=hYn.past r (oldF w) he (mC h_)
 replace hYd:=hYd.past r (oldF w) he (mC h_)
 have hN:=hn.got (S:=fun _=>False) r.baseLe (mN h_)
 clear r
 obtain⟨s5_0,s5_1,s5_2,s5_3,rfl⟩:=hN.shape
 conv=>whnf
 refine cE hw (Φ:=fun _ w' v w2=>IntC w2 (Nw (fun _=>False) w' w2) v ((p.den:Int)*(q.den:Int))) (fun ρ w' r=>rProd_c (Rel.old r (oldF w)) ((hXd.rel r (oldF w)).l (k:=100000) (by omega)) ((hYd.rel r (oldF w)).l (k:=100000) (by omega)) (by omega) (by omega)) ?_
 rintro ρ wa6 v6 wb6 iv6 r he hw h_ hn
 replace hXn:=hXn.past r (oldF w) he (mC h_)
 replace hXd:=hXd.past r (oldF w) he (mC h_)
 replace hYn:=hYn.past r (oldF w) he (mC h_)
 replace hYd:=hYd.past r (oldF w) he (mC h_)
 replace hN:=hN.past r (oldF w) he (mC h_)
 have hD:=hn.got (S:=fun _=>False) r.baseLe (mN h_)
 clear r
 obtain⟨s6_0,s6_1,s6_2,s6_3,rfl⟩:=hD.shape
 conv=>whnf
 refine cE hw (Φ:=fun _ w' v w2=>RatC w2 (Nw (fun _=>False) w' w2) v (p*q)) (fun ρ w' r=>(rat_mul p q)▸rOver_c (Rel.old r (oldF w)) ((hN.rel r (oldF w)).l (k:=200001) (by omega)) ((hD.rel r (oldF w)).l (k:=200001) (by omega)) (by omega) (by omega) (mul_ne (den_ne p) (den_ne q))) ?_
 rintro ρ wa7 v7 wb7 iv7 r he hw h_ hn
 clear hXn
 clear hXd
 clear hYn
 clear hYd
 clear hN
 clear hD
 have hR:=hn.got (S:=fun _=>False) r.baseLe (mN h_)
 clear r
 obtain⟨s7_0,s7_1,s7_2,s7_3,s7_4,s7_5,s7_6,s7_7,rfl⟩:=hR.shape
 conv=>whnf
 intro ρe we re
 exact⟨_,rfl,hw.tr re.bel,hR.out re (oldF w)⟩

theorem rNeg_c{S:Nat→Prop}{w:World}{v:Value}{p:Rat}(hS:Old S w)(hp:RatL w S v p):
  Con PG N.ref01_Neg #[v] w (Ret w fun v' w2=>RatC w2 (Nw (fun _=>False) w w2) v' (-p)):=by
 have hw:Bel w.heap.size w w:=Bel.refl
 replace hp:=hp.weak (S':=Cv S w.heap.size []) fun _ h=>.inl h
 obtain⟨b1,a1,n1,c1,b2,a2,n2,c2,rfl⟩:=hp.shape
 refine in_ref01_Neg (by simp) ?_
 conv=>whnf
 have r1:=hp.rl
 have u1:=rl_num p
 have u2:=rl_den' p
 refine callE_S (cE hw (Φ:=fun _ w' v w2=>RatC w2 (Nw (fun _=>False) w' w2) v (p)) (fun ρ w' r=>rNormal_c (Rel.old r hS) (hp.rel r hS)) ?_)
 rintro ρ wa1 v1 wb1 iv1 r he hw h_ hn
 clear hp
 have hX:=hn.got (S:=fun _=>False) r.baseLe (mN h_)
 clear r
 obtain⟨s1_0,s1_1,s1_2,s1_3,s1_4,s1_5,s1_6,s1_7,rfl⟩:=hX.shape
 conv=>whnf
 have hXn:=hX.num
 have hXd:=hX.den
 clear hX
 refine drawn_of_pi hτ hmix [.x 0,.x 1,.x 3,.x 4,.x 2,.x 5,.x 6] (by kernel_rfl) (by kernel_rfl) ?_
 conv=>whnf
 refine cE hw (Φ:=fun _ w' v w2=>IntC w2 (Nw (fun _=>False) w' w2) v (-p.num)) (fun ρ w' r=>rMinus_c (Rel.old r (oldF w)) ((hXn.rel r (oldF w)).l (k:=100000) (by omega)) (by omega)) ?_
 rintro ρ wa2 v2 wb2 iv2 r he hw h_ hn
 clear hXn
 replace hXd:=hXd.past r (oldF w) he (mC h_)
 have hN:=hn.got (S:=fun _=>False) r.baseLe (mN h_)
 clear r
 obtain⟨s2_0,s2_1,s2_2,s2_3,rfl⟩:=hN.shape
 conv=>whnf
 refine cE hw (Φ:=fun _ w' v w2=>RatC w2 (Nw (fun _=>False) w' w2) v (-p)) (fun ρ w' r=>show Con _ _ _ _ (Ret _ fun v w2=>RatC w2 _ v (-p))from(show Rat.divInt (-p.num) p.den= -p by rw[←Rat.neg_divInt,Rat.num_divInt_den])▸rOver_c (Rel.old r (oldF w)) ((hN.rel r (oldF w)).l (k:=100000) (by rw[Int.natAbs_neg];omega)) ((hXd.rel r (oldF w)).l (k:=100000) (by omega)) (by omega) (by omega) (den_ne p)) ?_
 rintro ρ wa3 v3 wb3 iv3 r he hw h_ hn
 clear hXd
 clear hN
 have hR:=hn.got (S:=fun _=>False) r.baseLe (mN h_)
 clear r
 obtain⟨s3_0,s3_1,s3_2,s3_3,s3_4,s3_5,s3_6,s3_7,rfl⟩:=hR.shape
 conv=>whnf
 intro ρe we re
 exact⟨_,rfl,hw.tr re.bel,hR.out re (oldF w)⟩

theorem rSub_c{S:Nat→Prop}{w:World}{v u:Value}{p q:Rat}(hS:Old S w)(hp:RatL w S v p)(hq:RatL w S u q):
  Con PG N.ref01_Sub #[v,u] w (Ret w fun v' w2=>RatC w2 (Nw (fun _=>False) w w2) v' (p-q)):=by
 have hw:Bel w.heap.size w w:=Bel.refl
 replace hp:=hp.weak (S':=Cv S w.heap.size []) fun _ h=>.inl h
 replace hq:=hq.weak (S':=Cv S w.heap.size []) fun _ h=>.inl h
 obtain⟨b1,a1,n1,c1,b2,a2,n2,c2,rfl⟩:=hp.shape
 obtain⟨b3,a3,n3,c3,b4,a4,n4,c4,rfl⟩:=hq.shape
 refine in_ref01_Sub (by simp) ?_
 conv=>whnf
 have r1:=hp.rl
 have r2:=hq.rl
 have u1:=rl_neg q
 refine drawn_of_pi hτ hmix [.x 0,.x 1,.x 2,.x 3,.x 4] (by kernel_rfl) (by kernel_rfl) ?_
 conv=>whnf
 refine cE hw (Φ:=fun _ w' v w2=>RatC w2 (Nw (fun _=>False) w' w2) v (-q)) (fun ρ w' r=>rNeg_c (Rel.old r hS) (hq.rel r hS)) ?_
 rintro ρ wa1 v1 wb1 iv1 r he hw h_ hn
 replace hp:=hp.past r hS he (mC h_)
 clear hq
 have hN:=hn.got (S:=fun _=>False) r.baseLe (mN h_)
 clear r
 obtain⟨s1_0,s1_1,s1_2,s1_3,s1_4,s1_5,s1_6,s1_7,rfl⟩:=hN.shape
 conv=>whnf
 refine cE hw (Φ:=fun _ w' v w2=>RatC w2 (Nw (fun _=>False) w' w2) v (p-q)) (fun ρ w' r=>(Rat.sub_eq_add_neg p q)▸rAdd_c (Rel.old r hS) (hp.rel r hS) (((hN.rel r (oldF w)).l (by omega)).weak fun g hg=>Cv.false hg)) ?_
 rintro ρ wa2 v2 wb2 iv2 r he hw h_ hn
 clear hp
 clear hN
 have hR:=hn.got (S:=fun _=>False) r.baseLe (mN h_)
 clear r
 obtain⟨s2_0,s2_1,s2_2,s2_3,s2_4,s2_5,s2_6,s2_7,rfl⟩:=hR.shape
 conv=>whnf
 intro ρe we re
 exact⟨_,rfl,hw.tr re.bel,hR.out re (oldF w)⟩

theorem rCmp_c{S:Nat→Prop}{w:World}{v u:Value}{p q:Rat}(hS:Old S w)(hp:RatL w S v p)(hq:RatL w S u q):
  Con PG N.ref01_Cmp #[v,u] w (Ret w fun v' _=>v'= .int .i64 (rs (p-q))):=by
 have hw:Bel w.heap.size w w:=Bel.refl
 replace hp:=hp.weak (S':=Cv S w.heap.size []) fun _ h=>.inl h
 replace hq:=hq.weak (S':=Cv S w.heap.size []) fun _ h=>.inl h
 obtain⟨b1,a1,n1,c1,b2,a2,n2,c2,rfl⟩:=hp.shape
 obtain⟨b3,a3,n3,c3,b4,a4,n4,c4,rfl⟩:=hq.shape
 refine in_ref01_Cmp (by simp) ?_
 conv=>whnf
 refine callE_S (cE hw (Φ:=fun _ w' v w2=>RatC w2 (Nw (fun _=>False) w' w2) v (p-q)) (fun ρ w' r=>rSub_c (Rel.old r hS) (hp.rel r hS) (hq.rel r hS)) ?_)
 rintro ρ wa1 v1 wb1 iv1 r he hw h_ hn
 clear hp
 clear hq
 have hR:=hn.got (S:=fun _=>False) r.baseLe (mN h_)
 clear r
 obtain⟨s1_0,s1_1,s1_2,s1_3,s1_4,s1_5,s1_6,s1_7,rfl⟩:=hR.shape
 conv=>whnf
 refine callE_S (cE hw (Φ:=fun _ w' v w2=>v= .int .i64 (rs (p-q))) (fun ρ w' r=>rSignOf_c (Rel.old r (oldF w)) (hR.rel r (oldF w))) ?_)
 rintro ρ wa2 v2 wb2 iv2 r he hw h_ rfl
 clear hR
 clear r
 conv=>whnf
 intro ρe we re
 exact⟨_,rfl,hw.tr re.bel,rfl⟩

theorem rQuo_c{S:Nat→Prop}{w:World}{v u:Value}{p q:Rat}(hS:Old S w)(hp:RatL w S v p)(hq:RatL w S u q):
  Con PG N.ref01_Quo #[v,u] w (Ret w fun v' w2=>(q=0∧v'= .tuple #[ratNil,.int .i64 9])∨(q≠0∧∃r,v'= .tuple #[r,.int .i64 0]∧RatC w2 (Nw (fun _=>False) w w2) r (p / q))):=by
 have hw:Bel w.heap.size w w:=Bel.refl
 replace hp:=hp.weak (S':=Cv S w.heap.size []) fun _ h=>.inl h
 replace hq:=hq.weak (S':=Cv S w.heap.size []) fun _ h=>.inl h
 obtain⟨b1,a1,n1,c1,b2,a2,n2,c2,rfl⟩:=hp.shape
 obtain⟨b3,a3,n3,c3,b4,a4,n4,c4,rfl⟩:=hq.shape
 refine in_ref01_Quo (by simp) ?_
 conv=>whnf
 have r1:=hp.rl
 have r2:=hq.rl
 have u1:=rl_num p
 have u2:=rl_den' p
 have u3:=rl_num q
 have u4:=rl_den' q
 have m0:=ln_mul_abs p.num q.den
 have m1:=ln_mul_abs (p.den:Int) q.num
 refine drawn_of_pi hτ hmix [.x 0,.x 2,.x 1,.x 3,.x 4,.x 5] (by kernel_rfl) (by kernel_rfl) ?_
 conv=>whnf
 refine cE hw (Φ:=fun _ w' v w2=>RatC w2 (Nw (fun _=>False) w' w2) v (p)) (fun ρ w' r=>rNormal_c (Rel.old r hS) (hp.rel r hS)) ?_
 rintro ρ wa1 v1 wb1 iv1 r he hw h_ hn
 clear hp
 replace hq:=hq.past r hS he (mC h_)
 have hX:=hn.got (S:=fun _=>False) r.baseLe (mN h_)
 clear r
 obtain⟨s1_0,s1_1,s1_2,s1_3,s1_4,s1_5,s1_6,s1_7,rfl⟩:=hX.shape
 conv=>whnf
 refine cE hw (Φ:=fun _ w' v w2=>RatC w2 (Nw (fun _=>False) w' w2) v (q)) (fun ρ w' r=>rNormal_c (Rel.old r hS) (hq.rel r hS)) ?_
 rintro ρ wa2 v2 wb2 iv2 r he hw h_ hn
 clear hq
 replace hX:=hX.past r (oldF w) he (mC h_)
 have hY:=hn.got (S:=fun _=>False) r.baseLe (mN h_)
 clear r
 obtain⟨s2_0,s2_1,s2_2,s2_3,s2_4,s2_5,s2_6,s2_7,rfl⟩:=hY.shape
 conv=>whnf
 refine callE_S (cE hw (Φ:=fun _ w' v w2=>v= .int .i64 (rs q)) (fun ρ w' r=>rSignOf_c (Rel.old r (oldF w)) (hY.rel r (oldF w))) ?_)
 rintro ρ wa3 v3 wb3 iv3 r he hw h_ rfl
 replace hX:=hX.past r (oldF w) he (mC h_)
 replace hY:=hY.past r (oldF w) he (mC h_)
 clear r
 conv=>whnf
 refine BrS.mk (fun h=>?_) (fun h=>?_)
 ·have h:rs q=0:=by simpa using h
  conv=>whnf
  intro ρe we re
  exact⟨_,rfl,hw.tr re.bel,.inl ⟨rs_zero.1 h,rfl⟩⟩
 have h:q≠0:=fun e=>by rw[e]at h;exact absurd h (by decide)
 have hqn:q.num≠0:=fun e=>h (Rat.num_eq_zero.1 e)
 conv=>whnf
 have hXn:=hX.num
 have hXd:=hX.den
 clear hX
 have hYn:=hY.num
 have hYd:=hY.den
 clear hY
 refine drawn_of_pi hτ hmix [.x 0,.x 1,.x 2,.x 3,.x 5,.x 6,.x 7,.x 8,.x 4,.x 9,.x 10,.x 11,.x 12] (by kernel_rfl) (by kernel_rfl) ?_
 conv=>whnf
 refine cE hw (Φ:=fun _ w' v w2=>IntC w2 (Nw (fun _=>False) w' w2) v (p.num*(q.den:Int))) (fun ρ w' r=>rProd_c (Rel.old r (oldF w)) ((hXn.rel r (oldF w)).l (k:=100000) (by omega)) ((hYd.rel r (oldF w)).l (k:=100000) (by omega)) (by omega) (by omega)) ?_
 rintro ρ wa4 v4 wb4 iv4 r he hw h_ hn
 clear hXn
 replace hXd:=hXd.past r (oldF w) he (mC h_)
 replace hYn:=hYn.past r (oldF w) he (mC h_)
 clear hYd
 have hN:=hn.got (S:=fun _=>False) r.baseLe (mN h_)
 clear r
 obtain⟨s4_0,s4_1,s4_2,s4_3,rfl⟩:=hN.shape
 conv=>whnf
 refine cE hw (Φ:=fun _ w' v w2=>IntC w2 (Nw (fun _=>False) w' w2) v ((p.den:Int)*q.num)) (fun ρ w' r=>rProd_c (Rel.old r (oldF w)) ((hXd.rel r (oldF w)).l (k:=100000) (by omega)) ((hYn.rel r (oldF w)).l (k:=100000) (by omega)) (by omega) (by omega)) ?_
 rintro ρ wa5 v5 wb5 iv5 r he hw h_ hn
 clear hXd
 clear hYn
 replace hN:=hN.past r (oldF w) he (mC h_)
 have hD:=hn.got (S:=fun _=>False) r.baseLe (mN h_)
 clear r
 obtain⟨s5_0,s5_1,s5_2,s5_3,rfl⟩:=hD.shape
 conv=>whnf
 refine cE hw (Φ:=fun _ w' v w2=>RatC w2 (Nw (fun _=>False) w' w2) v (p / q)) (fun ρ w' r=>(rat_div p q)▸rOver_c (Rel.old r (oldF w)) ((hN.rel r (oldF w)).l (k:=200001) (by omega)) ((hD.rel r (oldF w)).l (k:=200001) (by omega)) (by omega) (by omega) (mul_ne (den_ne p) hqn)) ?_
 rintro ρ wa6 v6 wb6 iv6 r he hw h_ hn
 clear hN
 clear hD
 have hR:=hn.got (S:=fun _=>False) r.baseLe (mN h_)
 clear r
 obtain⟨s6_0,s6_1,s6_2,s6_3,s6_4,s6_5,s6_6,s6_7,rfl⟩:=hR.shape
 conv=>whnf
 intro ρe we re
 exact⟨_,rfl,hw.tr re.bel,.inr ⟨h,_,rfl,hR.out re (oldF w)⟩⟩

theorem rWholeAll_c(n:Int)(w:World)(h1n: -9223372036854775808≤n)(h2n:n≤9223372036854775807):
  Con PG N.ref01_Whole #[.int .i64 n] w (Ret w fun v' w2=>RatC w2 (Nw (fun _=>False) w w2) v' (n:Rat)):=by
 have hw:Bel w.heap.size w w:=Bel.refl
 have ha:=ln_small h1n h2n
 refine in_ref01_Whole (by simp) ?_
 conv=>whnf
 refine callE_S (cE hw (Φ:=fun _ w' v w2=>IntC w2 (Nw (fun _=>False) w' w2) v (n)) (fun ρ w' r=>rOf_c n w' h1n h2n) ?_)
 rintro ρ wa1 v1 wb1 iv1 r he hw h_ hn
 have hA:=hn.got (S:=fun _=>False) r.baseLe (mN h_)
 clear r
 obtain⟨s1_0,s1_1,s1_2,s1_3,rfl⟩:=hA.shape
 conv=>whnf
 refine callE_S (cE hw (Φ:=fun _ w' v w2=>IntC w2 (Nw (fun _=>False) w' w2) v (1)) (fun ρ w' r=>rOf_c 1 w' (by decide) (by decide)) ?_)
 rintro ρ wa2 v2 wb2 iv2 r he hw h_ hn
 replace hA:=hA.past r (oldF w) he (mC h_)
 have hB:=hn.got (S:=fun _=>False) r.baseLe (mN h_)
 clear r
 obtain⟨s2_0,s2_1,s2_2,s2_3,rfl⟩:=hB.shape
 conv=>whnf
 refine callE_S (cE hw (Φ:=fun _ w' v w2=>RatC w2 (Nw (fun _=>False) w' w2) v ((n:Rat))) (fun ρ w' r=>(divInt_one n)▸rOver_c (Rel.old r (oldF w)) ((hA.rel r (oldF w)).l (k:=2) (by omega)) ((hB.rel r (oldF w)).l (k:=2) (by decide)) (by omega) (by omega) (by decide)) ?_)
 rintro ρ wa3 v3 wb3 iv3 r he hw h_ hn
 clear hA
 clear hB
 have hR:=hn.got (S:=fun _=>False) r.baseLe (mN h_)
 clear r
 obtain⟨s3_0,s3_1,s3_2,s3_3,s3_4,s3_5,s3_6,s3_7,rfl⟩:=hR.shape
 conv=>whnf
 intro ρe we re
 exact⟨_,rfl,hw.tr re.bel,hR.out re (oldF w)⟩

theorem rRatio_c(a b:Int)(w:World)(h1a: -9223372036854775808≤a)(h2a:a≤9223372036854775807)(h1b: -9223372036854775808≤b)(h2b:b≤9223372036854775807):
  Con PG N.ref01_Ratio #[.int .i64 a,.int .i64 b] w (Ret w fun v' w2=>(b=0∧v'= .tuple #[ratNil,.int .i64 9])∨(b≠0∧∃q,v'= .tuple #[q,.int .i64 0]∧RatC w2 (Nw (fun _=>False) w w2) q (Rat.divInt a b))):=by
 have hw:Bel w.heap.size w w:=Bel.refl
 have ha:=ln_small h1a h2a
 have hb':=ln_small h1b h2b
 refine in_ref01_Ratio (by simp) ?_
 conv=>whnf
 refine BrS.mk (fun h=>?_) (fun h=>?_)
 ·have h:b=0:=by simpa using h
  conv=>whnf
  intro ρe we re
  exact⟨_,rfl,hw.tr re.bel,.inl ⟨h,rfl⟩⟩
 have h:b≠0:=by simpa using h
 conv=>whnf
 refine callE_S (cE hw (Φ:=fun _ w' v w2=>IntC w2 (Nw (fun _=>False) w' w2) v (a)) (fun ρ w' r=>rOf_c a w' h1a h2a) ?_)
 rintro ρ wa1 v1 wb1 iv1 r he hw h_ hn
 have hA:=hn.got (S:=fun _=>False) r.baseLe (mN h_)
 clear r
 obtain⟨s1_0,s1_1,s1_2,s1_3,rfl⟩:=hA.shape
 conv=>whnf
 refine callE_S (cE hw (Φ:=fun _ w' v w2=>IntC w2 (Nw (fun _=>False) w' w2) v (b)) (fun ρ w' r=>rOf_c b w' h1b h2b) ?_)
 rintro ρ wa2 v2 wb2 iv2 r he hw h_ hn
 replace hA:=hA.past r (oldF w) he (mC h_)
 have hB:=hn.got (S:=fun _=>False) r.baseLe (mN h_)
 clear r
 obtain⟨s2_0,s2_1,s2_2,s2_3,rfl⟩:=hB.shape
 conv=>whnf
 refine callE_S (cE hw (Φ:=fun _ w' v w2=>RatC w2 (Nw (fun _=>False) w' w2) v (Rat.divInt a b)) (fun ρ w' r=>rOver_c (Rel.old r (oldF w)) ((hA.rel r (oldF w)).l (k:=2) (by omega)) ((hB.rel r (oldF w)).l (k:=2) (by omega)) (by omega) (by omega) h) ?_)
 rintro ρ wa3 v3 wb3 iv3 r he hw h_ hn
 clear hA
 clear hB
 have hR:=hn.got (S:=fun _=>False) r.baseLe (mN h_)
 clear r
 obtain⟨s3_0,s3_1,s3_2,s3_3,s3_4,s3_5,s3_6,s3_7,rfl⟩:=hR.shape
 conv=>whnf
 intro ρe we re
 exact⟨_,rfl,hw.tr re.bel,.inr ⟨h,_,rfl,hR.out re (oldF w)⟩⟩

end Go.Ex
