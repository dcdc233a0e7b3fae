/- A part of the proof: texts X61 to X62. Each tells its conditions in its theorems. -/
import Derived.Test.YtkdcaknoaeicdaaGreatP7
/- The reference's integers: Divide. Printed by program. No condition but sizes. -/
namespace Go.Ex
open Go Go.Sx Go.Proofs

def intNil:Value:=.agg #[.bool false,.slice none 0 0]
theorem IntC.nil(w:World)(S:Nat→Prop):IntC w S (.agg #[.bool false,.slice none 0 0]) 0:=⟨[],⟨_,rfl,Limbs.nil _ _⟩,fun x h=>by simp at h,rfl⟩
theorem ColQ{Q:List Int}(h:∀c∈Q,0≤c∧c≤65535):0≤colval Q:=by
 induction Q with
 |nil=>exact Int.le_refl _
 |cons c r ih=>
  have h1:=h c List.mem_cons_self
  have h2:=ih fun x hx=>h x (List.mem_cons_of_mem _ hx)
  rw[colval]
  omega
theorem ln_digit{n:Int}(h:0≤n)(h2:n<4294967296):ln n.natAbs≤1:=ln_le.2 (by show n.natAbs<4294967296^1;omega)
theorem rDivide_c{S:Nat→Prop}{w:World}{v u:Value}{k l:Nat}{x y:Int}(hS:Old S w)(hx:IntL w S v k x)(hy:IntL w S u l y)(hk:k≤1000000)(hl:l≤1000000):
  Con PG N.ref01_Divide #[v,u] w (Ret w fun v' w2=>(y=0∧v'= .tuple #[intNil,intNil,.int .i64 9])∨(y≠0∧∃q r,v'= .tuple #[q,r,.int .i64 0]∧IntC w2 (Nw (fun _=>False) w w2) q (x / y)∧IntC w2 (Nw (fun _=>False) w w2) r (x % y))):=by
 have hw:Bel w.heap.size w w:=Bel.refl
 replace hx:=hx.weak (S':=Cv S w.heap.size []) fun _ h=>.inl h
 replace hy:=hy.weak (S':=Cv S w.heap.size []) fun _ h=>.inl h
 obtain⟨b1,a1,n1,c1,rfl⟩:=hx.shape
 obtain⟨b2,a2,n2,c2,rfl⟩:=hy.shape
 refine in_ref01_Divide (by simp) ?_
 conv=>whnf
 have hly:=hy.ln
 refine callE_S (callE_con (Φ:=fun _ w' v w2=>v= .int .i64 y.sign) (fun ρ w' r=>rSign_c (Rel.old r hS) (hy.rel r hS).r) ?_)
 rintro ρ wa1 v1 wb1 r he hb rfl
 replace hw:=hw.tr hb
 replace hx:=hx.past (iv':=(wa1.heap.size,wb1.heap.size)::[]) r hS he fun x hx=>List.mem_cons_of_mem _ hx
 replace hy:=hy.past (iv':=(wa1.heap.size,wb1.heap.size)::[]) r hS he fun x hx=>List.mem_cons_of_mem _ hx
 clear r he hb
 generalize (wa1.heap.size,wb1.heap.size)::[]=iv1 at*
 conv=>whnf
 refine BrS.mk (fun hy0=>?_) (fun hy0=>?_)
 ·have hy0:y=0:=by rcases sign_cases y with h|h|h<;>simp[h]at hy0 ⊢
  conv=>whnf
  intro ρe we re
  exact⟨_,rfl,hw.tr re.bel,.inl ⟨hy0,rfl⟩⟩
 have hy0:y≠0:=fun e=>by rw[e]at hy0;simp at hy0
 conv=>whnf
 refine drawn_of_pi hτ hmix [.x 0,.x 3,.p 5,.x 1,.x 2,.x 4,.x 5,.x 6,.x 7] (by kernel_rfl) (by kernel_rfl) ?_
 conv=>whnf
 refine callE_con (Φ:=fun _ w' v w2=>IntC w2 (Nw (fun _=>False) w' w2) v ((x.natAbs:Int))) (fun ρ w' r=>rSize_c (Rel.old r hS) (hx.rel r hS) (by omega)) ?_
 rintro ρ wa2 v2 wb2 r he hb hn
 replace hw:=hw.tr hb
 replace hx:=hx.past (iv':=(wa2.heap.size,wb2.heap.size)::iv1) r hS he fun x hx=>List.mem_cons_of_mem _ hx
 replace hy:=hy.past (iv':=(wa2.heap.size,wb2.heap.size)::iv1) r hS he fun x hx=>List.mem_cons_of_mem _ hx
 have hsx:=hn.got (S:=fun _=>False) r.baseLe (iv:=(wa2.heap.size,wb2.heap.size)::iv1) List.mem_cons_self
 clear r he hb hn
 generalize (wa2.heap.size,wb2.heap.size)::iv1=iv2 at*
 obtain⟨s2_0,s2_1,s2_2,s2_3,rfl⟩:=hsx.shape
 conv=>whnf
 have hlx:=hx.ln
 refine callE_con (Φ:=fun _ w' v w2=>∃cs,ColsR w2 (Nw (fun _=>False) w' w2) v cs∧ColB cs (2*k) ((x.natAbs:Int))) (fun ρ w' r=>rcols_c (Rel.old r (oldF w)) ((hsx.rel r (oldF w)).l (k:=k) (by rw[Int.natAbs_natCast];exact hlx)) (by omega)) ?_
 rintro ρ wa3 v3 wb3 r he hb ⟨ca,k1,bca⟩
 replace hw:=hw.tr hb
 replace hx:=hx.past (iv':=(wa3.heap.size,wb3.heap.size)::iv2) r hS he fun x hx=>List.mem_cons_of_mem _ hx
 replace hy:=hy.past (iv':=(wa3.heap.size,wb3.heap.size)::iv2) r hS he fun x hx=>List.mem_cons_of_mem _ hx
 clear hsx
 have hca:=k1.got (S:=fun _=>False) r.baseLe (iv:=(wa3.heap.size,wb3.heap.size)::iv2) List.mem_cons_self
 clear r he hb
 generalize (wa3.heap.size,wb3.heap.size)::iv2=iv3 at*
 clear k1
 obtain⟨aca,cca,rfl,lca⟩:=hca.shape
 conv=>whnf
 refine callE_con (Φ:=fun _ w' v w2=>IntC w2 (Nw (fun _=>False) w' w2) v ((y.natAbs:Int))) (fun ρ w' r=>rSize_c (Rel.old r hS) (hy.rel r hS) (by omega)) ?_
 rintro ρ wa4 v4 wb4 r he hb hn
 replace hw:=hw.tr hb
 replace hx:=hx.past (iv':=(wa4.heap.size,wb4.heap.size)::iv3) r hS he fun x hx=>List.mem_cons_of_mem _ hx
 replace hy:=hy.past (iv':=(wa4.heap.size,wb4.heap.size)::iv3) r hS he fun x hx=>List.mem_cons_of_mem _ hx
 replace hca:=hca.past (iv':=(wa4.heap.size,wb4.heap.size)::iv3) r (oldF w) he fun x hx=>List.mem_cons_of_mem _ hx
 have hbb:=hn.got (S:=fun _=>False) r.baseLe (iv:=(wa4.heap.size,wb4.heap.size)::iv3) List.mem_cons_self
 clear r he hb hn
 generalize (wa4.heap.size,wb4.heap.size)::iv3=iv4 at*
 obtain⟨s4_0,s4_1,s4_2,s4_3,rfl⟩:=hbb.shape
 conv=>whnf
 generalize hB:(y.natAbs:Int)=B at*
 have l1:=bca.2.1
 have hB0:0<B:=by omega
 have lB:ln B.natAbs≤l:=by rw[←hB,Int.natAbs_natCast];exact hly
 conv=>whnf
 refine⟨(ca.length:Int)-1,by rw[wrap64]<;>omega,?_⟩
 conv=>whnf
 refine⟨Nat×List Int×Int×(Bool×Option Addr×Nat×Nat)×World×Iv,fun z=>⟨[(2,.o (.p 0 0)),(3,.o (.p 1 0)),(4,.o (.p 2 0)),(5,.o (.p 3 0)),(6,.o (.v (.int .i64 0))),(7,.o (.v (.slice aca ca.length cca))),(8,.o (.p 4 0)),(9,.o (.w 6 z.2.1.length)),(10,.o (.p 5 0)),(11,.o (.v (.int .i64 ((z.1:Int)-1))))],[(6,.vec T.int 1 (z.2.1.map (Value.int .i64))),(5,.box T.Int [.v (.bool z.2.2.2.1.1),.v (.slice z.2.2.2.1.2.1 z.2.2.2.1.2.2.1 z.2.2.2.1.2.2.2)]),(4,.box T.Int [.v (.bool s4_0),.v (.slice s4_1 s4_2 s4_3)]),(3,.box T.Int [.v (.bool false),.v (.slice none 0 0)]),(2,.box T.Int [.v (.bool false),.v (.slice none 0 0)]),(1,.box T.Int [.v (.bool b2),.v (.slice a2 n2 c2)]),(0,.box T.Int [.v (.bool b1),.v (.slice a1 n1 c1)])],7,z.2.2.2.2.2,z.2.2.2.2.1⟩,fun z=>z.1,
  fun z=>z.1≤ca.length∧z.2.1.length+z.1=ca.length∧(∀c∈z.2.1,0≤c∧c≤65535)∧colval (ca.drop z.1)=B*colval z.2.1+z.2.2.1∧0≤z.2.2.1∧z.2.2.1<B∧Bel w.heap.size w z.2.2.2.2.1∧IntL z.2.2.2.2.1 (Cv S w.heap.size z.2.2.2.2.2) (.agg #[.bool b1,.slice a1 n1 c1]) k x∧IntL z.2.2.2.2.1 (Cv S w.heap.size z.2.2.2.2.2) (.agg #[.bool b2,.slice a2 n2 c2]) l y∧ColsR z.2.2.2.2.1 (Cv (fun _=>False) w.heap.size z.2.2.2.2.2) (.slice aca ca.length cca) ca∧IntC z.2.2.2.2.1 (Cv (fun _=>False) w.heap.size z.2.2.2.2.2) (.agg #[.bool s4_0,.slice s4_1 s4_2 s4_3]) B∧IntC z.2.2.2.2.1 (Cv (fun _=>False) w.heap.size z.2.2.2.2.2) (.agg #[.bool z.2.2.2.1.1,.slice z.2.2.2.1.2.1 z.2.2.2.1.2.2.1 z.2.2.2.1.2.2.2]) z.2.2.1,?_,?_⟩
 ·intro ρ w' r
  exact⟨(ca.length,[],0,(false,none,0,0),w',iv4),⟨Nat.le_refl _,by simp,by simp,by simp[colval],Int.le_refl _,hB0,hw.tr r.bel,hx.rel r hS,hy.rel r hS,hca.rel r (oldF w),hbb.rel r (oldF w),IntC.nil _ _⟩,Sub.nil 9 T.int 1 rfl (by simp[ScE,SV.sc,At.sc]) r fun ρ1 r1=>
   Sub.gen [] r1 ⟨rfl,rfl,rfl,rfl,rfl,rfl,rfl,trivial⟩ ⟨rfl,rfl,rfl,rfl,rfl,rfl,rfl,rfl,rfl,rfl,trivial⟩ (by simp[ScH,Blk.scopd,At.sc]) (by simp[ScE,SV.sc,At.sc]) (by rfl) (fun lo hi h=>h)⟩
 clear hw hca hbb hx hy
 rintro⟨j,Q,R,⟨br,ar,nr,cr⟩,w1,iv⟩ ⟨hj,hQ,hd,hv,hR0,hR1,hw,hx,hy,hca,hbb,hr⟩
 dsimp only at hj hQ hd hv hR0 hR1 hw hx hy hca hbb hr ⊢
 conv=>whnf
 refine BrS.mk (fun hib=>?_) (fun hib=>?_)
 ·obtain⟨i,rfl⟩:∃i,j=i+1:=⟨j-1,by have:(j:Int)-1≥0:=of_decide_eq_true hib;omega⟩
  rw[show ((i+1:Nat):Int)-1=(i:Int) by omega]
  obtain⟨d,hd1⟩:∃d,ca[i]? =some d:=⟨_,List.getElem?_eq_getElem (by omega)⟩
  have hd0:=bca.2.2.1 d (List.mem_of_getElem? hd1)
  have hd2:=bca.2.2.2 (by omega) d (List.mem_of_getElem? hd1)
  have lR:ln R.natAbs≤l:=Nat.le_trans (ln_mono (by omega)) lB
  have lU:ln (65536:Int).natAbs≤1:=by decide
  have m1:=ln_mul_abs R 65536
  have m2:=ln_digit (n:=d) hd2 (by omega)
  have m3:=ln_add_int (R*65536) d
  conv=>whnf
  refine drawn_of_pi hτ hmix [.x 0,.x 3,.x 4,.x 5,.x 6,.x 1,.x 2,.x 7,.x 8,.x 9] (by kernel_rfl) (by kernel_rfl) ?_
  conv=>whnf
  obtain⟨ad,ha0,q1,q2⟩:=hca.load hd1
  refine⟨ad,ha0,⟨by omega,by omega⟩,?_⟩
  conv=>whnf
  refine⟨.int .i64 d,fun ρ w' r=>?_,?_⟩
  ·rw[Int.toNat_natCast,cell_of_heap (w:=w1) (w2:=w') (by rw[addB];exact Rel.same (S:=fun _=>False) r (oldF w) q1)]
   exact q2
  clear q1 q2 ha0
  conv=>whnf
  refine callE_con (Φ:=fun _ w' v w2=>IntC w2 (Nw (fun _=>False) w' w2) v (65536)) (fun ρ w' r=>rOf_c _ w' (by decide) (by decide)) ?_
  rintro ρ wa5 v5 wb5 r he hb hn
  replace hw:=hw.tr hb
  replace hx:=hx.past (iv':=(wa5.heap.size,wb5.heap.size)::iv) r hS he fun x hx=>List.mem_cons_of_mem _ hx
  replace hy:=hy.past (iv':=(wa5.heap.size,wb5.heap.size)::iv) r hS he fun x hx=>List.mem_cons_of_mem _ hx
  replace hca:=hca.past (iv':=(wa5.heap.size,wb5.heap.size)::iv) r (oldF w) he fun x hx=>List.mem_cons_of_mem _ hx
  replace hbb:=hbb.past (iv':=(wa5.heap.size,wb5.heap.size)::iv) r (oldF w) he fun x hx=>List.mem_cons_of_mem _ hx
  replace hr:=hr.past (iv':=(wa5.heap.size,wb5.heap.size)::iv) r (oldF w) he fun x hx=>List.mem_cons_of_mem _ hx
  have hu:=hn.got (S:=fun _=>False) r.baseLe (iv:=(wa5.heap.size,wb5.heap.size)::iv) List.mem_cons_self
  clear r he hb hn
  generalize (wa5.heap.size,wb5.heap.size)::iv=iv5 at*
  obtain⟨s5_0,s5_1,s5_2,s5_3,rfl⟩:=hu.shape
  conv=>whnf
  refine callE_con (Φ:=fun _ w' v w2=>IntC w2 (Nw (fun _=>False) w' w2) v (R*65536)) (fun ρ w' r=>rProd_c (Rel.old r (oldF w)) ((hr.rel r (oldF w)).l (k:=1000001) (by omega)) ((hu.rel r (oldF w)).l (k:=1000001) (by omega)) (by omega) (by omega)) ?_
  rintro ρ wa6 v6 wb6 r he hb hn
  replace hw:=hw.tr hb
  replace hx:=hx.past (iv':=(wa6.heap.size,wb6.heap.size)::iv5) r hS he fun x hx=>List.mem_cons_of_mem _ hx
  replace hy:=hy.past (iv':=(wa6.heap.size,wb6.heap.size)::iv5) r hS he fun x hx=>List.mem_cons_of_mem _ hx
  replace hca:=hca.past (iv':=(wa6.heap.size,wb6.heap.size)::iv5) r (oldF w) he fun x hx=>List.mem_cons_of_mem _ hx
  replace hbb:=hbb.past (iv':=(wa6.heap.size,wb6.heap.size)::iv5) r (oldF w) he fun x hx=>List.mem_cons_of_mem _ hx
  clear hr
  clear hu
  have hp:=hn.got (S:=fun _=>False) r.baseLe (iv:=(wa6.heap.size,wb6.heap.size)::iv5) List.mem_cons_self
  clear r he hb hn
  generalize (wa6.heap.size,wb6.heap.size)::iv5=iv6 at*
  obtain⟨s6_0,s6_1,s6_2,s6_3,rfl⟩:=hp.shape
  conv=>whnf
  refine callE_con (Φ:=fun _ w' v w2=>IntC w2 (Nw (fun _=>False) w' w2) v (d)) (fun ρ w' r=>rOf_c _ w' (by omega) (by omega)) ?_
  rintro ρ wa7 v7 wb7 r he hb hn
  replace hw:=hw.tr hb
  replace hx:=hx.past (iv':=(wa7.heap.size,wb7.heap.size)::iv6) r hS he fun x hx=>List.mem_cons_of_mem _ hx
  replace hy:=hy.past (iv':=(wa7.heap.size,wb7.heap.size)::iv6) r hS he fun x hx=>List.mem_cons_of_mem _ hx
  replace hca:=hca.past (iv':=(wa7.heap.size,wb7.heap.size)::iv6) r (oldF w) he fun x hx=>List.mem_cons_of_mem _ hx
  replace hbb:=hbb.past (iv':=(wa7.heap.size,wb7.heap.size)::iv6) r (oldF w) he fun x hx=>List.mem_cons_of_mem _ hx
  replace hp:=hp.past (iv':=(wa7.heap.size,wb7.heap.size)::iv6) r (oldF w) he fun x hx=>List.mem_cons_of_mem _ hx
  have hdd:=hn.got (S:=fun _=>False) r.baseLe (iv:=(wa7.heap.size,wb7.heap.size)::iv6) List.mem_cons_self
  clear r he hb hn
  generalize (wa7.heap.size,wb7.heap.size)::iv6=iv7 at*
  obtain⟨s7_0,s7_1,s7_2,s7_3,rfl⟩:=hdd.shape
  conv=>whnf
  refine callE_con (Φ:=fun _ w' v w2=>IntC w2 (Nw (fun _=>False) w' w2) v (R*65536+d)) (fun ρ w' r=>rSum_c (Rel.old r (oldF w)) ((hp.rel r (oldF w)).l (k:=1000002) (by omega)) ((hdd.rel r (oldF w)).l (k:=1000002) (by omega)) (by omega) (by omega)) ?_
  rintro ρ wa8 v8 wb8 r he hb hn
  replace hw:=hw.tr hb
  replace hx:=hx.past (iv':=(wa8.heap.size,wb8.heap.size)::iv7) r hS he fun x hx=>List.mem_cons_of_mem _ hx
  replace hy:=hy.past (iv':=(wa8.heap.size,wb8.heap.size)::iv7) r hS he fun x hx=>List.mem_cons_of_mem _ hx
  replace hca:=hca.past (iv':=(wa8.heap.size,wb8.heap.size)::iv7) r (oldF w) he fun x hx=>List.mem_cons_of_mem _ hx
  replace hbb:=hbb.past (iv':=(wa8.heap.size,wb8.heap.size)::iv7) r (oldF w) he fun x hx=>List.mem_cons_of_mem _ hx
  clear hp
  clear hdd
  have hr:=hn.got (S:=fun _=>False) r.baseLe (iv:=(wa8.heap.size,wb8.heap.size)::iv7) List.mem_cons_self
  clear r he hb hn
  generalize (wa8.heap.size,wb8.heap.size)::iv7=iv8 at*
  obtain⟨s8_0,s8_1,s8_2,s8_3,rfl⟩:=hr.shape
  conv=>whnf
  generalize hR2:R*65536+d=R2 at*
  have hR20:0≤R2:=by omega
  have hR21:R2<65536*B:=by omega
  refine⟨Nat×Nat×Nat×World×Iv,fun z=>⟨[(2,.o (.p 0 0)),(3,.o (.p 1 0)),(4,.o (.p 2 0)),(5,.o (.p 3 0)),(6,.o (.v (.int .i64 0))),(7,.o (.v (.slice aca ca.length cca))),(8,.o (.p 4 0)),(9,.o (.w 6 Q.length)),(10,.o (.p 5 0)),(11,.o (.v (.int .i64 ((i:Int))))),(12,.o (.v (.int .i64 ((z.1:Nat):Int)))),(13,.o (.v (.int .i64 ((z.2.2.1:Nat):Int))))],[(6,.vec T.int 1 (Q.map (Value.int .i64))),(5,.box T.Int [.v (.bool s8_0),.v (.slice s8_1 s8_2 s8_3)]),(4,.box T.Int [.v (.bool s4_0),.v (.slice s4_1 s4_2 s4_3)]),(3,.box T.Int [.v (.bool false),.v (.slice none 0 0)]),(2,.box T.Int [.v (.bool false),.v (.slice none 0 0)]),(1,.box T.Int [.v (.bool b2),.v (.slice a2 n2 c2)]),(0,.box T.Int [.v (.bool b1),.v (.slice a1 n1 c1)])],7,z.2.2.2.2,z.2.2.2.1⟩,fun z=>z.2.1,
   fun z=>z.2.2.1=2^z.2.1 / 2∧z.1+2^z.2.1≤65536∧((z.1:Nat):Int)*B≤R2∧R2<((z.1+2^z.2.1:Nat):Int)*B∧Bel w.heap.size w z.2.2.2.1∧IntL z.2.2.2.1 (Cv S w.heap.size z.2.2.2.2) (.agg #[.bool b1,.slice a1 n1 c1]) k x∧IntL z.2.2.2.1 (Cv S w.heap.size z.2.2.2.2) (.agg #[.bool b2,.slice a2 n2 c2]) l y∧ColsR z.2.2.2.1 (Cv (fun _=>False) w.heap.size z.2.2.2.2) (.slice aca ca.length cca) ca∧IntC z.2.2.2.1 (Cv (fun _=>False) w.heap.size z.2.2.2.2) (.agg #[.bool s4_0,.slice s4_1 s4_2 s4_3]) B∧IntC z.2.2.2.1 (Cv (fun _=>False) w.heap.size z.2.2.2.2) (.agg #[.bool s8_0,.slice s8_1 s8_2 s8_3]) R2,?_,?_⟩
  ·intro ρ w' r
   exact⟨(0,16,32768,w',iv8),⟨by show 32768=2^16 / 2;decide,by show 0+2^16≤65536;decide,by dsimp only;omega,by dsimp only;rw[show ((0+2^16:Nat):Int)=65536 from rfl];exact hR21,hw.tr r.bel,hx.rel r hS,hy.rel r hS,hca.rel r (oldF w),hbb.rel r (oldF w),hr.rel r (oldF w)⟩,
    Sub.gen [] r ⟨rfl,rfl,rfl,rfl,rfl,rfl,rfl,trivial⟩ ⟨rfl,rfl,rfl,rfl,rfl,rfl,rfl,rfl,rfl,rfl,rfl,rfl,trivial⟩ (by simp[ScH,Blk.scopd,At.sc]) (by simp[ScE,SV.sc,At.sc]) (by rfl) (fun lo hi h=>h)⟩
  clear hw hca hbb hx hy hr
  rintro⟨n,e,bit,w5,iv⟩ ⟨hn0,hn1,hn2,hn3,hw,hx,hy,hca,hbb,hr⟩
  dsimp only at hn0 hn1 hn2 hn3 hw hx hy hca hbb hr ⊢
  conv=>whnf
  refine BrS.mk (fun hbit=>?_) (fun hbit=>?_)
  ·have hbit:0<2^e / 2:=by have:((bit:Nat):Int)>0:=of_decide_eq_true hbit;omega
   obtain⟨f,rfl⟩:∃f,e=f+1:=by
    cases e with
    |zero=>exact absurd hbit (by decide)
    |succ f=>exact⟨f,rfl⟩
   have e1:2^(f+1)=2*2^f:=by rw[Nat.pow_succ];omega
   have e2:2^(f+1) / 2=2^f:=by omega
   obtain rfl:bit=2^f:=by omega
   clear hn0
   rw[e1]at hn1 hn3
   clear hbit e2
   have hp0:=Nat.two_pow_pos f
   generalize hp:2^f=p at*
   have m4:=ln_digit (n:=((n+p:Nat):Int)) (by omega) (by omega)
   have m5:=ln_mul_abs B ((n+p:Nat):Int)
   have m6:ln R2.natAbs≤l+1:=by
    refine Nat.le_trans (ln_mono (b:=((65536:Int)*B).natAbs) (by omega)) ?_
    have:=ln_mul_abs 65536 B
    omega
   conv=>whnf
   refine drawn_of_pi hτ hmix [.x 0,.x 1,.x 2,.x 3,.x 6,.x 4,.x 5,.x 7,.x 8] (by kernel_rfl) (by kernel_rfl) ?_
   conv=>whnf
   refine⟨((n+p:Nat):Int),by rw[wrap64]<;>omega,?_⟩
   conv=>whnf
   refine callE_con (Φ:=fun _ w' v w2=>IntC w2 (Nw (fun _=>False) w' w2) v (((n+p:Nat):Int))) (fun ρ w' r=>rOf_c _ w' (by omega) (by omega)) ?_
   rintro ρ wa9 v9 wb9 r he hb hn
   replace hw:=hw.tr hb
   replace hx:=hx.past (iv':=(wa9.heap.size,wb9.heap.size)::iv) r hS he fun x hx=>List.mem_cons_of_mem _ hx
   replace hy:=hy.past (iv':=(wa9.heap.size,wb9.heap.size)::iv) r hS he fun x hx=>List.mem_cons_of_mem _ hx
   replace hca:=hca.past (iv':=(wa9.heap.size,wb9.heap.size)::iv) r (oldF w) he fun x hx=>List.mem_cons_of_mem _ hx
   replace hbb:=hbb.past (iv':=(wa9.heap.size,wb9.heap.size)::iv) r (oldF w) he fun x hx=>List.mem_cons_of_mem _ hx
   replace hr:=hr.past (iv':=(wa9.heap.size,wb9.heap.size)::iv) r (oldF w) he fun x hx=>List.mem_cons_of_mem _ hx
   have hu:=hn.got (S:=fun _=>False) r.baseLe (iv:=(wa9.heap.size,wb9.heap.size)::iv) List.mem_cons_self
   clear r he hb hn
   generalize (wa9.heap.size,wb9.heap.size)::iv=iv9 at*
   obtain⟨s9_0,s9_1,s9_2,s9_3,rfl⟩:=hu.shape
   conv=>whnf
   refine callE_con (Φ:=fun _ w' v w2=>IntC w2 (Nw (fun _=>False) w' w2) v (B*((n+p:Nat):Int))) (fun ρ w' r=>rProd_c (Rel.old r (oldF w)) ((hbb.rel r (oldF w)).l (k:=1000001) (by omega)) ((hu.rel r (oldF w)).l (k:=1000001) (by omega)) (by omega) (by omega)) ?_
   rintro ρ wa10 v10 wb10 r he hb hn
   replace hw:=hw.tr hb
   replace hx:=hx.past (iv':=(wa10.heap.size,wb10.heap.size)::iv9) r hS he fun x hx=>List.mem_cons_of_mem _ hx
   replace hy:=hy.past (iv':=(wa10.heap.size,wb10.heap.size)::iv9) r hS he fun x hx=>List.mem_cons_of_mem _ hx
   replace hca:=hca.past (iv':=(wa10.heap.size,wb10.heap.size)::iv9) r (oldF w) he fun x hx=>List.mem_cons_of_mem _ hx
   replace hbb:=hbb.past (iv':=(wa10.heap.size,wb10.heap.size)::iv9) r (oldF w) he fun x hx=>List.mem_cons_of_mem _ hx
   replace hr:=hr.past (iv':=(wa10.heap.size,wb10.heap.size)::iv9) r (oldF w) he fun x hx=>List.mem_cons_of_mem _ hx
   clear hu
   have hp2:=hn.got (S:=fun _=>False) r.baseLe (iv:=(wa10.heap.size,wb10.heap.size)::iv9) List.mem_cons_self
   clear r he hb hn
   generalize (wa10.heap.size,wb10.heap.size)::iv9=iv10 at*
   obtain⟨s10_0,s10_1,s10_2,s10_3,rfl⟩:=hp2.shape
   conv=>whnf
   refine callE_con (Φ:=fun _ w' v w2=>v= .int .i64 (B*((n+p:Nat):Int)-R2).sign) (fun ρ w' r=>rCmpInt_c (Rel.old r (oldF w)) ((hp2.rel r (oldF w)).l (k:=1000001) (by omega)) ((hr.rel r (oldF w)).l (k:=1000001) (by omega)) (by omega) (by omega)) ?_
   rintro ρ wa11 v11 wb11 r he hb rfl
   replace hw:=hw.tr hb
   replace hx:=hx.past (iv':=(wa11.heap.size,wb11.heap.size)::iv10) r hS he fun x hx=>List.mem_cons_of_mem _ hx
   replace hy:=hy.past (iv':=(wa11.heap.size,wb11.heap.size)::iv10) r hS he fun x hx=>List.mem_cons_of_mem _ hx
   replace hca:=hca.past (iv':=(wa11.heap.size,wb11.heap.size)::iv10) r (oldF w) he fun x hx=>List.mem_cons_of_mem _ hx
   replace hbb:=hbb.past (iv':=(wa11.heap.size,wb11.heap.size)::iv10) r (oldF w) he fun x hx=>List.mem_cons_of_mem _ hx
   replace hr:=hr.past (iv':=(wa11.heap.size,wb11.heap.size)::iv10) r (oldF w) he fun x hx=>List.mem_cons_of_mem _ hx
   clear hp2
   clear r he hb
   generalize (wa11.heap.size,wb11.heap.size)::iv10=iv11 at*
   conv=>whnf
   have hs:=sign_cases (B*((n+p:Nat):Int)-R2)
   refine BrS.mk (fun hle=>?_) (fun hle=>?_)
   ·have hle:=of_decide_eq_true hle
    have hle2:((n+p:Nat):Int)*B≤R2:=by rw[Int.mul_comm];omega
    conv=>whnf
    refine⟨((n+p:Nat):Int),by rw[wrap64]<;>omega,?_⟩
    conv=>whnf
    refine⟨by decide,((2^f / 2:Nat):Int),by rw[hp,show((p:Nat):Int).tdiv 2=((p / 2:Nat):Int)from rfl,wrap64]<;>omega,?_⟩
    conv=>whnf
    intro ρ3 w3 r3
    exact⟨(n+p,f,2^f / 2,w3,_),⟨rfl,by dsimp only;omega,hle2,by dsimp only;rw[hp,show n+p+p=n+2*p by omega];exact hn3,hw.tr r3.bel,hx.rel r3 hS,hy.rel r3 hS,hca.rel r3 (oldF w),hbb.rel r3 (oldF w),hr.rel r3 (oldF w)⟩,Sub.gen [] r3 ⟨rfl,rfl,rfl,rfl,rfl,rfl,rfl,trivial⟩ ⟨rfl,rfl,rfl,rfl,rfl,rfl,rfl,rfl,rfl,rfl,rfl,rfl,trivial⟩ (by simp[ScH,Blk.scopd,At.sc]) (by simp[ScE,SV.sc,At.sc]) (by rfl) (fun lo hi h=>h),by dsimp only;omega⟩
   have hle:=of_decide_eq_false hle
   have hle2:R2<((n+p:Nat):Int)*B:=by rw[Int.mul_comm];omega
   conv=>whnf
   refine⟨by decide,((2^f / 2:Nat):Int),by rw[hp,show((p:Nat):Int).tdiv 2=((p / 2:Nat):Int)from rfl,wrap64]<;>omega,?_⟩
   conv=>whnf
   intro ρ3 w3 r3
   exact⟨(n,f,2^f / 2,w3,_),⟨rfl,by dsimp only;omega,hn2,by dsimp only;rw[hp];exact hle2,hw.tr r3.bel,hx.rel r3 hS,hy.rel r3 hS,hca.rel r3 (oldF w),hbb.rel r3 (oldF w),hr.rel r3 (oldF w)⟩,Sub.gen [] r3 ⟨rfl,rfl,rfl,rfl,rfl,rfl,rfl,trivial⟩ ⟨rfl,rfl,rfl,rfl,rfl,rfl,rfl,rfl,rfl,rfl,rfl,rfl,trivial⟩ (by simp[ScH,Blk.scopd,At.sc]) (by simp[ScE,SV.sc,At.sc]) (by rfl) (fun lo hi h=>h),by dsimp only;omega⟩
  have hbit:¬0<2^e / 2:=by have:¬((bit:Nat):Int)>0:=of_decide_eq_false hbit;omega
  obtain rfl:e=0:=by
   cases e with
   |zero=>rfl
   |succ f=>exact absurd (show 0<2^(f+1) / 2 by rw[Nat.pow_succ];have:=Nat.two_pow_pos f;omega) hbit
  rw[show n+2^0=n+1 from rfl]at hn1 hn3
  clear hbit
  rw[Int.natCast_add,Int.add_mul]at hn3
  rw[Int.mul_comm]at hn2
  rw[Int.mul_comm]at hn3
  have m4:=ln_digit (n:=((n:Nat):Int)) (by omega) (by omega)
  have m5:=ln_mul_abs B ((n:Nat):Int)
  have m6:ln R2.natAbs≤l+1:=by
   refine Nat.le_trans (ln_mono (b:=((65536:Int)*B).natAbs) (by omega)) ?_
   have:=ln_mul_abs 65536 B
   omega
  conv=>whnf
  refine drawn_of_pi hτ hmix [.x 0,.x 1,.x 2,.x 3,.x 4,.x 5,.x 6] (by kernel_rfl) (by kernel_rfl) ?_
  conv=>whnf
  refine callE_con (Φ:=fun _ w' v w2=>IntC w2 (Nw (fun _=>False) w' w2) v (((n:Nat):Int))) (fun ρ w' r=>rOf_c _ w' (by omega) (by omega)) ?_
  rintro ρ wa9 v9 wb9 r he hb hn
  replace hw:=hw.tr hb
  replace hx:=hx.past (iv':=(wa9.heap.size,wb9.heap.size)::iv) r hS he fun x hx=>List.mem_cons_of_mem _ hx
  replace hy:=hy.past (iv':=(wa9.heap.size,wb9.heap.size)::iv) r hS he fun x hx=>List.mem_cons_of_mem _ hx
  replace hca:=hca.past (iv':=(wa9.heap.size,wb9.heap.size)::iv) r (oldF w) he fun x hx=>List.mem_cons_of_mem _ hx
  replace hbb:=hbb.past (iv':=(wa9.heap.size,wb9.heap.size)::iv) r (oldF w) he fun x hx=>List.mem_cons_of_mem _ hx
  replace hr:=hr.past (iv':=(wa9.heap.size,wb9.heap.size)::iv) r (oldF w) he fun x hx=>List.mem_cons_of_mem _ hx
  have hu:=hn.got (S:=fun _=>False) r.baseLe (iv:=(wa9.heap.size,wb9.heap.size)::iv) List.mem_cons_self
  clear r he hb hn
  generalize (wa9.heap.size,wb9.heap.size)::iv=iv9 at*
  obtain⟨s9_0,s9_1,s9_2,s9_3,rfl⟩:=hu.shape
  conv=>whnf
  refine callE_con (Φ:=fun _ w' v w2=>IntC w2 (Nw (fun _=>False) w' w2) v (B*((n:Nat):Int))) (fun ρ w' r=>rProd_c (Rel.old r (oldF w)) ((hbb.rel r (oldF w)).l (k:=1000001) (by omega)) ((hu.rel r (oldF w)).l (k:=1000001) (by omega)) (by omega) (by omega)) ?_
  rintro ρ wa10 v10 wb10 r he hb hn
  replace hw:=hw.tr hb
  replace hx:=hx.past (iv':=(wa10.heap.size,wb10.heap.size)::iv9) r hS he fun x hx=>List.mem_cons_of_mem _ hx
  replace hy:=hy.past (iv':=(wa10.heap.size,wb10.heap.size)::iv9) r hS he fun x hx=>List.mem_cons_of_mem _ hx
  replace hca:=hca.past (iv':=(wa10.heap.size,wb10.heap.size)::iv9) r (oldF w) he fun x hx=>List.mem_cons_of_mem _ hx
  replace hbb:=hbb.past (iv':=(wa10.heap.size,wb10.heap.size)::iv9) r (oldF w) he fun x hx=>List.mem_cons_of_mem _ hx
  replace hr:=hr.past (iv':=(wa10.heap.size,wb10.heap.size)::iv9) r (oldF w) he fun x hx=>List.mem_cons_of_mem _ hx
  clear hu
  have hp2:=hn.got (S:=fun _=>False) r.baseLe (iv:=(wa10.heap.size,wb10.heap.size)::iv9) List.mem_cons_self
  clear r he hb hn
  generalize (wa10.heap.size,wb10.heap.size)::iv9=iv10 at*
  obtain⟨s10_0,s10_1,s10_2,s10_3,rfl⟩:=hp2.shape
  conv=>whnf
  refine callE_con (Φ:=fun _ w' v w2=>IntC w2 (Nw (fun _=>False) w' w2) v (R2-B*((n:Nat):Int))) (fun ρ w' r=>rDiff_c (Rel.old r (oldF w)) ((hr.rel r (oldF w)).l (k:=1000002) (by omega)) ((hp2.rel r (oldF w)).l (k:=1000002) (by omega)) (by omega) (by omega)) ?_
  rintro ρ wa11 v11 wb11 r he hb hn
  replace hw:=hw.tr hb
  replace hx:=hx.past (iv':=(wa11.heap.size,wb11.heap.size)::iv10) r hS he fun x hx=>List.mem_cons_of_mem _ hx
  replace hy:=hy.past (iv':=(wa11.heap.size,wb11.heap.size)::iv10) r hS he fun x hx=>List.mem_cons_of_mem _ hx
  replace hca:=hca.past (iv':=(wa11.heap.size,wb11.heap.size)::iv10) r (oldF w) he fun x hx=>List.mem_cons_of_mem _ hx
  replace hbb:=hbb.past (iv':=(wa11.heap.size,wb11.heap.size)::iv10) r (oldF w) he fun x hx=>List.mem_cons_of_mem _ hx
  clear hr
  clear hp2
  have hr3:=hn.got (S:=fun _=>False) r.baseLe (iv:=(wa11.heap.size,wb11.heap.size)::iv10) List.mem_cons_self
  clear r he hb hn
  generalize (wa11.heap.size,wb11.heap.size)::iv10=iv11 at*
  obtain⟨s11_0,s11_1,s11_2,s11_3,rfl⟩:=hr3.shape
  conv=>whnf
  generalize hR3:R2-B*((n:Nat):Int)=R3 at*
  refine .inl ?_
  conv=>whnf
  refine⟨by rw[List.length_map,Nat.mul_one],fun u hu=>by obtain⟨_,_,rfl⟩:=List.mem_map.1 hu;rfl,?_⟩
  conv=>whnf
  refine⟨rfl,by omega,by unfold maxLen;omega,?_⟩
  conv=>whnf
  refine⟨(i:Int)-1,by rw[wrap64]<;>omega,?_⟩
  conv=>whnf
  intro ρ3 w3 r3
  have hv2:colval (ca.drop i)=B*colval (((n:Nat):Int)::Q)+R3:=by
   rw[colval_drop hd1,colval]
   exact rdiv_step hv (by rw[←hR3,←hR2];omega)
  exact⟨(i,((n:Nat):Int)::Q,R3,(s11_0,s11_1,s11_2,s11_3),w3,_),⟨by dsimp only;omega,by dsimp only;rw[List.length_cons];omega,fun c hc=>by
    rcases List.mem_cons.1 hc with rfl|hc
    ·omega
    ·exact hd c hc,hv2,by dsimp only;omega,by dsimp only;omega,hw.tr r3.bel,hx.rel r3 hS,hy.rel r3 hS,hca.rel r3 (oldF w),hbb.rel r3 (oldF w),hr3.rel r3 (oldF w)⟩,
   Sub.gen [(6,8)] r3 ⟨rfl,rfl,rfl,rfl,rfl,rfl,rfl,trivial⟩ ⟨rfl,rfl,rfl,rfl,rfl,rfl,rfl,by dsimp only;rw[show (((n:Nat):Int)::Q).length=1+Q.length by rw[List.length_cons,Nat.add_comm]];rfl,rfl,rfl,trivial⟩ (by simp[ScH,Blk.scopd,At.sc]) (by simp[ScE,SV.sc,At.sc]) (by rfl) (fun lo hi h=>h),by dsimp only;omega⟩
 obtain rfl:j=0:=by have:¬(j:Int)-1≥0:=of_decide_eq_false hib;omega
 rw[List.drop_zero,bca.1]at hv
 rw[←hB]at hv hR1
 have key:=div_sign hy0 hv hR0 hR1
 rw[hB]at key hv hR1
 have lq:ln (colval Q).natAbs≤k+1:=by
  have h1:=ColQ hd
  have h2:1*colval Q≤B*colval Q:=Int.mul_le_mul_of_nonneg_right (by omega) h1
  exact Nat.le_trans (ln_mono (b:=x.natAbs) (by omega)) (by omega)
 have lR:ln R.natAbs≤l:=Nat.le_trans (ln_mono (by omega)) lB
 have sx:=sign_cases x
 have sy:=sign_cases y
 have sr:=sign_cases R
 clear hca
 conv=>whnf
 refine callE_S (callE_con (Φ:=fun _ w' v w2=>IntC w2 (Nw (fun _=>False) w' w2) v (colval Q)) (fun ρ w' r=>rsettledOwn_c r rfl rfl (by omega) (fun c hc=>by have:=hd c hc;omega) rfl) ?_)
 rintro ρ wa5 v5 wb5 r he hb hn
 replace hw:=hw.tr hb
 replace hx:=hx.past (iv':=(wa5.heap.size,wb5.heap.size)::iv) r hS he fun x hx=>List.mem_cons_of_mem _ hx
 replace hy:=hy.past (iv':=(wa5.heap.size,wb5.heap.size)::iv) r hS he fun x hx=>List.mem_cons_of_mem _ hx
 replace hbb:=hbb.past (iv':=(wa5.heap.size,wb5.heap.size)::iv) r (oldF w) he fun x hx=>List.mem_cons_of_mem _ hx
 replace hr:=hr.past (iv':=(wa5.heap.size,wb5.heap.size)::iv) r (oldF w) he fun x hx=>List.mem_cons_of_mem _ hx
 have hq:=hn.got (S:=fun _=>False) r.baseLe (iv:=(wa5.heap.size,wb5.heap.size)::iv) List.mem_cons_self
 clear r he hb hn
 generalize (wa5.heap.size,wb5.heap.size)::iv=iv5 at*
 obtain⟨s5_0,s5_1,s5_2,s5_3,rfl⟩:=hq.shape
 conv=>whnf
 refine callE_S (callE_con (Φ:=fun _ w' v w2=>v= .int .i64 x.sign) (fun ρ w' r=>rSign_c (Rel.old r hS) (hx.rel r hS).r) ?_)
 rintro ρ wa6 v6 wb6 r he hb rfl
 replace hw:=hw.tr hb
 replace hx:=hx.past (iv':=(wa6.heap.size,wb6.heap.size)::iv5) r hS he fun x hx=>List.mem_cons_of_mem _ hx
 replace hy:=hy.past (iv':=(wa6.heap.size,wb6.heap.size)::iv5) r hS he fun x hx=>List.mem_cons_of_mem _ hx
 replace hbb:=hbb.past (iv':=(wa6.heap.size,wb6.heap.size)::iv5) r (oldF w) he fun x hx=>List.mem_cons_of_mem _ hx
 replace hr:=hr.past (iv':=(wa6.heap.size,wb6.heap.size)::iv5) r (oldF w) he fun x hx=>List.mem_cons_of_mem _ hx
 replace hq:=hq.past (iv':=(wa6.heap.size,wb6.heap.size)::iv5) r (oldF w) he fun x hx=>List.mem_cons_of_mem _ hx
 clear r he hb
 generalize (wa6.heap.size,wb6.heap.size)::iv5=iv6 at*
 conv=>whnf
 refine BrS.mk (fun hxs=>?_) (fun hxs=>?_)
 ·have hxs:=of_decide_eq_true hxs
  conv=>whnf
  refine callE_S (callE_con (Φ:=fun _ w' v w2=>v= .int .i64 R.sign) (fun ρ w' r=>rSign_c (Rel.old r (oldF w)) (hr.rel r (oldF w)).r) ?_)
  rintro ρ wa7 v7 wb7 r he hb rfl
  replace hw:=hw.tr hb
  replace hx:=hx.past (iv':=(wa7.heap.size,wb7.heap.size)::iv6) r hS he fun x hx=>List.mem_cons_of_mem _ hx
  replace hy:=hy.past (iv':=(wa7.heap.size,wb7.heap.size)::iv6) r hS he fun x hx=>List.mem_cons_of_mem _ hx
  replace hbb:=hbb.past (iv':=(wa7.heap.size,wb7.heap.size)::iv6) r (oldF w) he fun x hx=>List.mem_cons_of_mem _ hx
  replace hr:=hr.past (iv':=(wa7.heap.size,wb7.heap.size)::iv6) r (oldF w) he fun x hx=>List.mem_cons_of_mem _ hx
  replace hq:=hq.past (iv':=(wa7.heap.size,wb7.heap.size)::iv6) r (oldF w) he fun x hx=>List.mem_cons_of_mem _ hx
  clear r he hb
  generalize (wa7.heap.size,wb7.heap.size)::iv6=iv7 at*
  conv=>whnf
  refine BrS.mk (fun hrs=>?_) (fun hrs=>?_)
  ·have hrs:=of_decide_eq_true hrs
   rw[if_pos (show x<0∧0<R by omega),if_pos (show x<0∧0<R by omega)]at key
   have m7:=ln_add_int (colval Q) 1
   have m8:ln (1:Int).natAbs≤1:=by decide
   have m9:ln (B-R).natAbs≤l:=Nat.le_trans (ln_mono (by omega)) lB
   conv=>whnf
   refine drawn_of_pi hτ hmix [.x 0,.x 3,.x 4,.x 1,.x 2,.x 5,.x 6,.x 7] (by kernel_rfl) (by kernel_rfl) ?_
   conv=>whnf
   refine callE_con (Φ:=fun _ w' v w2=>IntC w2 (Nw (fun _=>False) w' w2) v (1)) (fun ρ w' r=>rOf_c _ w' (by omega) (by omega)) ?_
   rintro ρ wa8 v8 wb8 r he hb hn
   replace hw:=hw.tr hb
   replace hx:=hx.past (iv':=(wa8.heap.size,wb8.heap.size)::iv7) r hS he fun x hx=>List.mem_cons_of_mem _ hx
   replace hy:=hy.past (iv':=(wa8.heap.size,wb8.heap.size)::iv7) r hS he fun x hx=>List.mem_cons_of_mem _ hx
   replace hbb:=hbb.past (iv':=(wa8.heap.size,wb8.heap.size)::iv7) r (oldF w) he fun x hx=>List.mem_cons_of_mem _ hx
   replace hr:=hr.past (iv':=(wa8.heap.size,wb8.heap.size)::iv7) r (oldF w) he fun x hx=>List.mem_cons_of_mem _ hx
   replace hq:=hq.past (iv':=(wa8.heap.size,wb8.heap.size)::iv7) r (oldF w) he fun x hx=>List.mem_cons_of_mem _ hx
   have hu:=hn.got (S:=fun _=>False) r.baseLe (iv:=(wa8.heap.size,wb8.heap.size)::iv7) List.mem_cons_self
   clear r he hb hn
   generalize (wa8.heap.size,wb8.heap.size)::iv7=iv8 at*
   obtain⟨s8_0,s8_1,s8_2,s8_3,rfl⟩:=hu.shape
   conv=>whnf
   refine callE_con (Φ:=fun _ w' v w2=>IntC w2 (Nw (fun _=>False) w' w2) v (colval Q+1)) (fun ρ w' r=>rSum_c (Rel.old r (oldF w)) ((hq.rel r (oldF w)).l (k:=1000003) (by omega)) ((hu.rel r (oldF w)).l (k:=1000003) (by omega)) (by omega) (by omega)) ?_
   rintro ρ wa9 v9 wb9 r he hb hn
   replace hw:=hw.tr hb
   replace hx:=hx.past (iv':=(wa9.heap.size,wb9.heap.size)::iv8) r hS he fun x hx=>List.mem_cons_of_mem _ hx
   replace hy:=hy.past (iv':=(wa9.heap.size,wb9.heap.size)::iv8) r hS he fun x hx=>List.mem_cons_of_mem _ hx
   replace hbb:=hbb.past (iv':=(wa9.heap.size,wb9.heap.size)::iv8) r (oldF w) he fun x hx=>List.mem_cons_of_mem _ hx
   replace hr:=hr.past (iv':=(wa9.heap.size,wb9.heap.size)::iv8) r (oldF w) he fun x hx=>List.mem_cons_of_mem _ hx
   clear hq
   clear hu
   have hq2:=hn.got (S:=fun _=>False) r.baseLe (iv:=(wa9.heap.size,wb9.heap.size)::iv8) List.mem_cons_self
   clear r he hb hn
   generalize (wa9.heap.size,wb9.heap.size)::iv8=iv9 at*
   obtain⟨s9_0,s9_1,s9_2,s9_3,rfl⟩:=hq2.shape
   conv=>whnf
   refine callE_con (Φ:=fun _ w' v w2=>IntC w2 (Nw (fun _=>False) w' w2) v (B-R)) (fun ρ w' r=>rDiff_c (Rel.old r (oldF w)) ((hbb.rel r (oldF w)).l (k:=1000003) (by omega)) ((hr.rel r (oldF w)).l (k:=1000003) (by omega)) (by omega) (by omega)) ?_
   rintro ρ wa10 v10 wb10 r he hb hn
   replace hw:=hw.tr hb
   replace hx:=hx.past (iv':=(wa10.heap.size,wb10.heap.size)::iv9) r hS he fun x hx=>List.mem_cons_of_mem _ hx
   replace hy:=hy.past (iv':=(wa10.heap.size,wb10.heap.size)::iv9) r hS he fun x hx=>List.mem_cons_of_mem _ hx
   clear hbb
   clear hr
   replace hq2:=hq2.past (iv':=(wa10.heap.size,wb10.heap.size)::iv9) r (oldF w) he fun x hx=>List.mem_cons_of_mem _ hx
   have hr2:=hn.got (S:=fun _=>False) r.baseLe (iv:=(wa10.heap.size,wb10.heap.size)::iv9) List.mem_cons_self
   clear r he hb hn
   generalize (wa10.heap.size,wb10.heap.size)::iv9=iv10 at*
   obtain⟨s10_0,s10_1,s10_2,s10_3,rfl⟩:=hr2.shape
   conv=>whnf
   refine drawn_of_pi hτ hmix [.x 0,.x 3,.x 1,.x 2,.x 4,.x 5,.x 6] (by kernel_rfl) (by kernel_rfl) ?_
   conv=>whnf
   refine callE_con (Φ:=fun _ w' v w2=>v= .int .i64 x.sign) (fun ρ w' r=>rSign_c (Rel.old r hS) (hx.rel r hS).r) ?_
   rintro ρ wa11 v11 wb11 r he hb rfl
   replace hw:=hw.tr hb
   clear hx
   replace hy:=hy.past (iv':=(wa11.heap.size,wb11.heap.size)::iv10) r hS he fun x hx=>List.mem_cons_of_mem _ hx
   replace hq2:=hq2.past (iv':=(wa11.heap.size,wb11.heap.size)::iv10) r (oldF w) he fun x hx=>List.mem_cons_of_mem _ hx
   replace hr2:=hr2.past (iv':=(wa11.heap.size,wb11.heap.size)::iv10) r (oldF w) he fun x hx=>List.mem_cons_of_mem _ hx
   clear r he hb
   generalize (wa11.heap.size,wb11.heap.size)::iv10=iv11 at*
   conv=>whnf
   refine callE_con (Φ:=fun _ w' v w2=>v= .int .i64 y.sign) (fun ρ w' r=>rSign_c (Rel.old r hS) (hy.rel r hS).r) ?_
   rintro ρ wa12 v12 wb12 r he hb rfl
   replace hw:=hw.tr hb
   clear hy
   replace hq2:=hq2.past (iv':=(wa12.heap.size,wb12.heap.size)::iv11) r (oldF w) he fun x hx=>List.mem_cons_of_mem _ hx
   replace hr2:=hr2.past (iv':=(wa12.heap.size,wb12.heap.size)::iv11) r (oldF w) he fun x hx=>List.mem_cons_of_mem _ hx
   clear r he hb
   generalize (wa12.heap.size,wb12.heap.size)::iv11=iv12 at*
   conv=>whnf
   refine BrS.mk (fun hne=>?_) (fun hne=>?_)
   ·have hn:¬((x<0)↔(y<0)):=fun e=>by
     have e2:decide (x.sign<0)=decide (y.sign<0):=decide_eq_decide.2 (by omega)
     rw[e2]at hne
     simp at hne
    rw[if_neg hn]at key
    conv=>whnf
    refine callE_S (callE_con (Φ:=fun _ w' v w2=>IntC w2 (Nw (fun _=>False) w' w2) v (-(colval Q+1))) (fun ρ w' r=>rMinus_c (Rel.old r (oldF w)) ((hq2.rel r (oldF w)).l (k:=1000003) (by omega)) (by omega)) ?_)
    rintro ρ wa13 v13 wb13 r he hb hn
    replace hw:=hw.tr hb
    clear hq2
    replace hr2:=hr2.past (iv':=(wa13.heap.size,wb13.heap.size)::iv12) r (oldF w) he fun x hx=>List.mem_cons_of_mem _ hx
    have hq3:=hn.got (S:=fun _=>False) r.baseLe (iv:=(wa13.heap.size,wb13.heap.size)::iv12) List.mem_cons_self
    clear r he hb hn
    generalize (wa13.heap.size,wb13.heap.size)::iv12=iv13 at*
    obtain⟨s13_0,s13_1,s13_2,s13_3,rfl⟩:=hq3.shape
    conv=>whnf
    refine drawn_of_tr hτ hmix (.two 0 (.two 1 (.one 2 (.one 3 (.one 4 .nil))) 2 (.one 1 (.one 3 (.one 4 .nil)))) 1 (.one 0 (.one 2 (.one 3 (.one 4 .nil))))) (by kernel_rfl) ?_
    conv=>whnf
    refine⟨?_,?_⟩
    ·conv=>whnf
     refine⟨?_,?_⟩
     ·conv=>whnf
      intro ρe we re
      exact⟨_,rfl,hw.tr re.bel,.inr ⟨hy0,_,_,rfl,key.1▸hq3.out re (oldF w),key.2▸hr2.out re (oldF w)⟩⟩
     ·conv=>whnf
      intro ρe we re
      exact⟨_,rfl,hw.tr re.bel,.inr ⟨hy0,_,_,rfl,key.1▸hq3.out re (oldF w),key.2▸hr2.out re (oldF w)⟩⟩
    ·conv=>whnf
     intro ρe we re
     exact⟨_,rfl,hw.tr re.bel,.inr ⟨hy0,_,_,rfl,key.1▸hq3.out re (oldF w),key.2▸hr2.out re (oldF w)⟩⟩
   have hn:(x<0)↔(y<0):=by
    have e2:decide (x.sign<0)=decide (y.sign<0):=by simpa using hne
    have:=decide_eq_decide.1 e2
    omega
   rw[if_pos hn]at key
   conv=>whnf
   refine drawn_of_tr hτ hmix (.two 0 (.two 1 (.one 2 (.one 3 (.one 4 .nil))) 2 (.one 1 (.one 3 (.one 4 .nil)))) 1 (.one 0 (.one 2 (.one 3 (.one 4 .nil))))) (by kernel_rfl) ?_
   conv=>whnf
   refine⟨?_,?_⟩
   ·conv=>whnf
    refine⟨?_,?_⟩
    ·conv=>whnf
     intro ρe we re
     exact⟨_,rfl,hw.tr re.bel,.inr ⟨hy0,_,_,rfl,key.1▸hq2.out re (oldF w),key.2▸hr2.out re (oldF w)⟩⟩
    ·conv=>whnf
     intro ρe we re
     exact⟨_,rfl,hw.tr re.bel,.inr ⟨hy0,_,_,rfl,key.1▸hq2.out re (oldF w),key.2▸hr2.out re (oldF w)⟩⟩
   ·conv=>whnf
    intro ρe we re
    exact⟨_,rfl,hw.tr re.bel,.inr ⟨hy0,_,_,rfl,key.1▸hq2.out re (oldF w),key.2▸hr2.out re (oldF w)⟩⟩
  have hrs:=of_decide_eq_false hrs
  rw[if_neg (show ¬(x<0∧0<R) by omega),if_neg (show ¬(x<0∧0<R) by omega)]at key
  conv=>whnf
  refine drawn_of_pi hτ hmix [.x 0,.x 3,.x 1,.x 2,.x 4,.x 5,.x 6] (by kernel_rfl) (by kernel_rfl) ?_
  conv=>whnf
  refine callE_con (Φ:=fun _ w' v w2=>v= .int .i64 x.sign) (fun ρ w' r=>rSign_c (Rel.old r hS) (hx.rel r hS).r) ?_
  rintro ρ wa8 v8 wb8 r he hb rfl
  replace hw:=hw.tr hb
  clear hx
  replace hy:=hy.past (iv':=(wa8.heap.size,wb8.heap.size)::iv7) r hS he fun x hx=>List.mem_cons_of_mem _ hx
  replace hbb:=hbb.past (iv':=(wa8.heap.size,wb8.heap.size)::iv7) r (oldF w) he fun x hx=>List.mem_cons_of_mem _ hx
  replace hr:=hr.past (iv':=(wa8.heap.size,wb8.heap.size)::iv7) r (oldF w) he fun x hx=>List.mem_cons_of_mem _ hx
  replace hq:=hq.past (iv':=(wa8.heap.size,wb8.heap.size)::iv7) r (oldF w) he fun x hx=>List.mem_cons_of_mem _ hx
  clear r he hb
  generalize (wa8.heap.size,wb8.heap.size)::iv7=iv8 at*
  conv=>whnf
  refine callE_con (Φ:=fun _ w' v w2=>v= .int .i64 y.sign) (fun ρ w' r=>rSign_c (Rel.old r hS) (hy.rel r hS).r) ?_
  rintro ρ wa9 v9 wb9 r he hb rfl
  replace hw:=hw.tr hb
  clear hy
  replace hbb:=hbb.past (iv':=(wa9.heap.size,wb9.heap.size)::iv8) r (oldF w) he fun x hx=>List.mem_cons_of_mem _ hx
  replace hr:=hr.past (iv':=(wa9.heap.size,wb9.heap.size)::iv8) r (oldF w) he fun x hx=>List.mem_cons_of_mem _ hx
  replace hq:=hq.past (iv':=(wa9.heap.size,wb9.heap.size)::iv8) r (oldF w) he fun x hx=>List.mem_cons_of_mem _ hx
  clear r he hb
  generalize (wa9.heap.size,wb9.heap.size)::iv8=iv9 at*
  conv=>whnf
  refine BrS.mk (fun hne=>?_) (fun hne=>?_)
  ·have hn:¬((x<0)↔(y<0)):=fun e=>by
    have e2:decide (x.sign<0)=decide (y.sign<0):=decide_eq_decide.2 (by omega)
    rw[e2]at hne
    simp at hne
   rw[if_neg hn]at key
   conv=>whnf
   refine callE_S (callE_con (Φ:=fun _ w' v w2=>IntC w2 (Nw (fun _=>False) w' w2) v (-(colval Q))) (fun ρ w' r=>rMinus_c (Rel.old r (oldF w)) ((hq.rel r (oldF w)).l (k:=1000003) (by omega)) (by omega)) ?_)
   rintro ρ wa10 v10 wb10 r he hb hn
   replace hw:=hw.tr hb
   replace hbb:=hbb.past (iv':=(wa10.heap.size,wb10.heap.size)::iv9) r (oldF w) he fun x hx=>List.mem_cons_of_mem _ hx
   replace hr:=hr.past (iv':=(wa10.heap.size,wb10.heap.size)::iv9) r (oldF w) he fun x hx=>List.mem_cons_of_mem _ hx
   clear hq
   have hq3:=hn.got (S:=fun _=>False) r.baseLe (iv:=(wa10.heap.size,wb10.heap.size)::iv9) List.mem_cons_self
   clear r he hb hn
   generalize (wa10.heap.size,wb10.heap.size)::iv9=iv10 at*
   obtain⟨s10_0,s10_1,s10_2,s10_3,rfl⟩:=hq3.shape
   conv=>whnf
   refine drawn_of_tr hτ hmix (.two 0 (.two 1 (.one 2 (.one 3 (.one 4 .nil))) 2 (.one 1 (.one 3 (.one 4 .nil)))) 1 (.one 0 (.one 2 (.one 3 (.one 4 .nil))))) (by kernel_rfl) ?_
   conv=>whnf
   refine⟨?_,?_⟩
   ·conv=>whnf
    refine⟨?_,?_⟩
    ·conv=>whnf
     intro ρe we re
     exact⟨_,rfl,hw.tr re.bel,.inr ⟨hy0,_,_,rfl,key.1▸hq3.out re (oldF w),key.2▸hr.out re (oldF w)⟩⟩
    ·conv=>whnf
     intro ρe we re
     exact⟨_,rfl,hw.tr re.bel,.inr ⟨hy0,_,_,rfl,key.1▸hq3.out re (oldF w),key.2▸hr.out re (oldF w)⟩⟩
   ·conv=>whnf
    intro ρe we re
    exact⟨_,rfl,hw.tr re.bel,.inr ⟨hy0,_,_,rfl,key.1▸hq3.out re (oldF w),key.2▸hr.out re (oldF w)⟩⟩
  have hn:(x<0)↔(y<0):=by
   have e2:decide (x.sign<0)=decide (y.sign<0):=by simpa using hne
   have:=decide_eq_decide.1 e2
   omega
  rw[if_pos hn]at key
  conv=>whnf
  refine drawn_of_tr hτ hmix (.two 0 (.two 1 (.one 2 (.one 3 (.one 4 .nil))) 2 (.one 1 (.one 3 (.one 4 .nil)))) 1 (.one 0 (.one 2 (.one 3 (.one 4 .nil))))) (by kernel_rfl) ?_
  conv=>whnf
  refine⟨?_,?_⟩
  ·conv=>whnf
   refine⟨?_,?_⟩
   ·conv=>whnf
    intro ρe we re
    exact⟨_,rfl,hw.tr re.bel,.inr ⟨hy0,_,_,rfl,key.1▸hq.out re (oldF w),key.2▸hr.out re (oldF w)⟩⟩
   ·conv=>whnf
    intro ρe we re
    exact⟨_,rfl,hw.tr re.bel,.inr ⟨hy0,_,_,rfl,key.1▸hq.out re (oldF w),key.2▸hr.out re (oldF w)⟩⟩
  ·conv=>whnf
   intro ρe we re
   exact⟨_,rfl,hw.tr re.bel,.inr ⟨hy0,_,_,rfl,key.1▸hq.out re (oldF w),key.2▸hr.out re (oldF w)⟩⟩
 have hxs:=of_decide_eq_false hxs
 rw[if_neg (show ¬(x<0∧0<R) by omega),if_neg (show ¬(x<0∧0<R) by omega)]at key
 conv=>whnf
 refine drawn_of_pi hτ hmix [.x 0,.x 3,.x 1,.x 2,.x 4,.x 5,.x 6] (by kernel_rfl) (by kernel_rfl) ?_
 conv=>whnf
 refine callE_con (Φ:=fun _ w' v w2=>v= .int .i64 x.sign) (fun ρ w' r=>rSign_c (Rel.old r hS) (hx.rel r hS).r) ?_
 rintro ρ wa7 v7 wb7 r he hb rfl
 replace hw:=hw.tr hb
 clear hx
 replace hy:=hy.past (iv':=(wa7.heap.size,wb7.heap.size)::iv6) r hS he fun x hx=>List.mem_cons_of_mem _ hx
 replace hbb:=hbb.past (iv':=(wa7.heap.size,wb7.heap.size)::iv6) r (oldF w) he fun x hx=>List.mem_cons_of_mem _ hx
 replace hr:=hr.past (iv':=(wa7.heap.size,wb7.heap.size)::iv6) r (oldF w) he fun x hx=>List.mem_cons_of_mem _ hx
 replace hq:=hq.past (iv':=(wa7.heap.size,wb7.heap.size)::iv6) r (oldF w) he fun x hx=>List.mem_cons_of_mem _ hx
 clear r he hb
 generalize (wa7.heap.size,wb7.heap.size)::iv6=iv7 at*
 conv=>whnf
 refine callE_con (Φ:=fun _ w' v w2=>v= .int .i64 y.sign) (fun ρ w' r=>rSign_c (Rel.old r hS) (hy.rel r hS).r) ?_
 rintro ρ wa8 v8 wb8 r he hb rfl
 replace hw:=hw.tr hb
 clear hy
 replace hbb:=hbb.past (iv':=(wa8.heap.size,wb8.heap.size)::iv7) r (oldF w) he fun x hx=>List.mem_cons_of_mem _ hx
 replace hr:=hr.past (iv':=(wa8.heap.size,wb8.heap.size)::iv7) r (oldF w) he fun x hx=>List.mem_cons_of_mem _ hx
 replace hq:=hq.past (iv':=(wa8.heap.size,wb8.heap.size)::iv7) r (oldF w) he fun x hx=>List.mem_cons_of_mem _ hx
 clear r he hb
 generalize (wa8.heap.size,wb8.heap.size)::iv7=iv8 at*
 conv=>whnf
 refine BrS.mk (fun hne=>?_) (fun hne=>?_)
 ·have hn:¬((x<0)↔(y<0)):=fun e=>by
   have e2:decide (x.sign<0)=decide (y.sign<0):=decide_eq_decide.2 (by omega)
   rw[e2]at hne
   simp at hne
  rw[if_neg hn]at key
  conv=>whnf
  refine callE_S (callE_con (Φ:=fun _ w' v w2=>IntC w2 (Nw (fun _=>False) w' w2) v (-(colval Q))) (fun ρ w' r=>rMinus_c (Rel.old r (oldF w)) ((hq.rel r (oldF w)).l (k:=1000003) (by omega)) (by omega)) ?_)
  rintro ρ wa9 v9 wb9 r he hb hn
  replace hw:=hw.tr hb
  replace hbb:=hbb.past (iv':=(wa9.heap.size,wb9.heap.size)::iv8) r (oldF w) he fun x hx=>List.mem_cons_of_mem _ hx
  replace hr:=hr.past (iv':=(wa9.heap.size,wb9.heap.size)::iv8) r (oldF w) he fun x hx=>List.mem_cons_of_mem _ hx
  clear hq
  have hq3:=hn.got (S:=fun _=>False) r.baseLe (iv:=(wa9.heap.size,wb9.heap.size)::iv8) List.mem_cons_self
  clear r he hb hn
  generalize (wa9.heap.size,wb9.heap.size)::iv8=iv9 at*
  obtain⟨s9_0,s9_1,s9_2,s9_3,rfl⟩:=hq3.shape
  conv=>whnf
  refine drawn_of_tr hτ hmix (.two 0 (.two 1 (.one 2 (.one 3 (.one 4 .nil))) 2 (.one 1 (.one 3 (.one 4 .nil)))) 1 (.one 0 (.one 2 (.one 3 (.one 4 .nil))))) (by kernel_rfl) ?_
  conv=>whnf
  refine⟨?_,?_⟩
  ·conv=>whnf
   refine⟨?_,?_⟩
   ·conv=>whnf
    intro ρe we re
    exact⟨_,rfl,hw.tr re.bel,.inr ⟨hy0,_,_,rfl,key.1▸hq3.out re (oldF w),key.2▸hr.out re (oldF w)⟩⟩
   ·conv=>whnf
    intro ρe we re
    exact⟨_,rfl,hw.tr re.bel,.inr ⟨hy0,_,_,rfl,key.1▸hq3.out re (oldF w),key.2▸hr.out re (oldF w)⟩⟩
  ·conv=>whnf
   intro ρe we re
   exact⟨_,rfl,hw.tr re.bel,.inr ⟨hy0,_,_,rfl,key.1▸hq3.out re (oldF w),key.2▸hr.out re (oldF w)⟩⟩
 have hn:(x<0)↔(y<0):=by
  have e2:decide (x.sign<0)=decide (y.sign<0):=by simpa using hne
  have:=decide_eq_decide.1 e2
  omega
 rw[if_pos hn]at key
 conv=>whnf
 refine drawn_of_tr hτ hmix (.two 0 (.two 1 (.one 2 (.one 3 (.one 4 .nil))) 2 (.one 1 (.one 3 (.one 4 .nil)))) 1 (.one 0 (.one 2 (.one 3 (.one 4 .nil))))) (by kernel_rfl) ?_
 conv=>whnf
 refine⟨?_,?_⟩
 ·conv=>whnf
  refine⟨?_,?_⟩
  ·conv=>whnf
   intro ρe we re
   exact⟨_,rfl,hw.tr re.bel,.inr ⟨hy0,_,_,rfl,key.1▸hq.out re (oldF w),key.2▸hr.out re (oldF w)⟩⟩
  ·conv=>whnf
   intro ρe we re
   exact⟨_,rfl,hw.tr re.bel,.inr ⟨hy0,_,_,rfl,key.1▸hq.out re (oldF w),key.2▸hr.out re (oldF w)⟩⟩
 ·conv=>whnf
  intro ρe we re
  exact⟨_,rfl,hw.tr re.bel,.inr ⟨hy0,_,_,rfl,key.1▸hq.out re (oldF w),key.2▸hr.out re (oldF w)⟩⟩
end Go.Ex

/- The reference's integers and fractions: Common, Over. Printed by program. No condition but sizes. -/
namespace Go.Ex
open Go Go.Sx Go.Proofs

theorem rDivNon_c{S:Nat→Prop}{w:World}{v u:Value}{k l:Nat}{x y:Int}(hS:Old S w)(hx:IntL w S v k x)(hy:IntL w S u l y)(hk:k≤1000000)(hl:l≤1000000)(h0:y≠0):
  Con PG N.ref01_Divide #[v,u] w (Ret w fun v' w2=>∃q r,v'= .tuple #[q,r,.int .i64 0]∧IntC w2 (Nw (fun _=>False) w w2) q (x / y)∧IntC w2 (Nw (fun _=>False) w w2) r (x % y)):=
 (rDivide_c hS hx hy hk hl).mono fun _ _ ⟨v2,e1,e2,e3⟩=>⟨v2,e1,e2,e3.elim (fun h=>absurd h.1 h0) fun h=>h.2⟩
theorem ln_gcd(x:Nat){y:Nat}(h:y≠0):ln (Nat.gcd x y)≤ln y:=ln_mono (Nat.le_of_dvd (by omega) (Nat.gcd_dvd_right x y))
theorem low_ratio2{a b:Int}(hb:b≠0):a / (b.sign*(Nat.gcd a.natAbs b.natAbs:Nat))=(Rat.divInt a b).num∧b / (b.sign*(Nat.gcd a.natAbs b.natAbs:Nat))=((Rat.divInt a b).den:Int):=by
 obtain⟨h1,h2⟩:=low_ratio (a:=a) hb
 have d1:((Nat.gcd a.natAbs b.natAbs:Nat):Int) ∣ a:=Int.ofNat_dvd_left.2 (Nat.gcd_dvd_left _ _)
 have d2:((Nat.gcd a.natAbs b.natAbs:Nat):Int) ∣ b:=Int.ofNat_dvd_left.2 (Nat.gcd_dvd_right _ _)
 have sg:b.sign=1∨b.sign= -1:=by rcases sign_cases b with h|h|h<;>omega
 have key:∀c:Int,((Nat.gcd a.natAbs b.natAbs:Nat):Int) ∣ c→b.sign*(Nat.gcd a.natAbs b.natAbs:Nat) ∣ c:=fun c hc=>by
  rcases sg with h|h<;>rw[h]
  ·rw[Int.one_mul];exact hc
  ·rw[Int.neg_one_mul];exact Int.neg_dvd.2 hc
 rw[←h1,←h2,Int.tdiv_eq_ediv_of_dvd (key a d1),Int.tdiv_eq_ediv_of_dvd (key b d2)]
 exact⟨rfl,rfl⟩
theorem rCommon_c{S:Nat→Prop}{w:World}{v u:Value}{k l:Nat}{x y:Int}(hS:Old S w)(hx:IntL w S v k x)(hy:IntL w S u l y)(hk:k≤1000000)(hl:l≤1000000):
  Con PG N.ref01_Common #[v,u] w (Ret w fun v' w2=>IntC w2 (Nw (fun _=>False) w w2) v' ((Nat.gcd x.natAbs y.natAbs:Nat):Int)):=by
 have hw:Bel w.heap.size w w:=Bel.refl
 replace hx:=hx.weak (S':=Cv S w.heap.size []) fun _ h=>.inl h
 replace hy:=hy.weak (S':=Cv S w.heap.size []) fun _ h=>.inl h
 obtain⟨b1,a1,n1,c1,rfl⟩:=hx.shape
 obtain⟨b2,a2,n2,c2,rfl⟩:=hy.shape
 refine in_ref01_Common (by simp) ?_
 conv=>whnf
 have hlx:=hx.ln
 have hly:=hy.ln
 refine drawn_of_pi hτ hmix [.x 0,.x 2,.x 1,.x 3,.x 4,.x 5] (by kernel_rfl) (by kernel_rfl) ?_
 conv=>whnf
 refine callE_con (Φ:=fun _ w' v w2=>IntC w2 (Nw (fun _=>False) w' w2) v ((x.natAbs:Int))) (fun ρ w' r=>rSize_c (Rel.old r hS) (hx.rel r hS) (by omega)) ?_
 rintro ρ wa1 v1 wb1 r he hb hn
 replace hw:=hw.tr hb
 clear hx
 replace hy:=hy.past (iv':=(wa1.heap.size,wb1.heap.size)::[]) r hS he fun x hx=>List.mem_cons_of_mem _ hx
 have ha:=hn.got (S:=fun _=>False) r.baseLe (iv:=(wa1.heap.size,wb1.heap.size)::[]) List.mem_cons_self
 clear r he hb hn
 generalize (wa1.heap.size,wb1.heap.size)::[]=iv1 at*
 obtain⟨s1_0,s1_1,s1_2,s1_3,rfl⟩:=ha.shape
 conv=>whnf
 refine callE_con (Φ:=fun _ w' v w2=>IntC w2 (Nw (fun _=>False) w' w2) v ((y.natAbs:Int))) (fun ρ w' r=>rSize_c (Rel.old r hS) (hy.rel r hS) (by omega)) ?_
 rintro ρ wa2 v2 wb2 r he hb hn
 replace hw:=hw.tr hb
 clear hy
 replace ha:=ha.past (iv':=(wa2.heap.size,wb2.heap.size)::iv1) r (oldF w) he fun x hx=>List.mem_cons_of_mem _ hx
 have hc:=hn.got (S:=fun _=>False) r.baseLe (iv:=(wa2.heap.size,wb2.heap.size)::iv1) List.mem_cons_self
 clear r he hb hn
 generalize (wa2.heap.size,wb2.heap.size)::iv1=iv2 at*
 obtain⟨s2_0,s2_1,s2_2,s2_3,rfl⟩:=hc.shape
 conv=>whnf
 refine⟨Nat×Nat×(Bool×Option Addr×Nat×Nat)×(Bool×Option Addr×Nat×Nat)×World×Iv,fun z=>⟨[(2,.o (.p 0 0)),(3,.o (.p 1 0)),(4,.o (.p 2 0))],[(2,.box T.Int [.v (.bool false),.v (.slice none 0 0)]),(1,.box T.Int [.v (.bool z.2.2.2.1.1),.v (.slice z.2.2.2.1.2.1 z.2.2.2.1.2.2.1 z.2.2.2.1.2.2.2)]),(0,.box T.Int [.v (.bool z.2.2.1.1),.v (.slice z.2.2.1.2.1 z.2.2.1.2.2.1 z.2.2.1.2.2.2)])],3,z.2.2.2.2.2,z.2.2.2.2.1⟩,fun z=>z.2.1,
  fun z=>Nat.gcd z.1 z.2.1=Nat.gcd x.natAbs y.natAbs∧ln z.1≤1000000∧ln z.2.1≤1000000∧Bel w.heap.size w z.2.2.2.2.1∧IntC z.2.2.2.2.1 (Cv (fun _=>False) w.heap.size z.2.2.2.2.2) (.agg #[.bool z.2.2.1.1,.slice z.2.2.1.2.1 z.2.2.1.2.2.1 z.2.2.1.2.2.2]) (z.1:Int)∧IntC z.2.2.2.2.1 (Cv (fun _=>False) w.heap.size z.2.2.2.2.2) (.agg #[.bool z.2.2.2.1.1,.slice z.2.2.2.1.2.1 z.2.2.2.1.2.2.1 z.2.2.2.1.2.2.2]) (z.2.1:Int),?_,?_⟩
 ·intro ρ w' r
  exact⟨(x.natAbs,y.natAbs,(s1_0,s1_1,s1_2,s1_3),(s2_0,s2_1,s2_2,s2_3),w',iv2),⟨rfl,by dsimp only;omega,by dsimp only;omega,hw.tr r.bel,ha.rel r (oldF w),hc.rel r (oldF w)⟩,
   Sub.gen [] r ⟨rfl,rfl,rfl,trivial⟩ ⟨rfl,rfl,rfl,trivial⟩ (by simp[ScH,Blk.scopd,At.sc]) (by simp[ScE,SV.sc,At.sc]) (by rfl) (fun lo hi h=>h)⟩
 clear hw ha hc
 rintro⟨a,b,⟨ba,aa,na,ca⟩,⟨bb,ab,nb,cb⟩,w1,iv⟩ ⟨hg,hla,hlb,hw,ha,hc⟩
 dsimp only at hg hla hlb hw ha hc ⊢
 conv=>whnf
 refine callE_S (callE_con (Φ:=fun _ w' v w2=>v= .int .i64 (b:Int).sign) (fun ρ w' r=>rSign_c (Rel.old r (oldF w)) (hc.rel r (oldF w)).r) ?_)
 rintro ρ wa3 v3 wb3 r he hb rfl
 replace hw:=hw.tr hb
 replace ha:=ha.past (iv':=(wa3.heap.size,wb3.heap.size)::iv) r (oldF w) he fun x hx=>List.mem_cons_of_mem _ hx
 replace hc:=hc.past (iv':=(wa3.heap.size,wb3.heap.size)::iv) r (oldF w) he fun x hx=>List.mem_cons_of_mem _ hx
 clear r he hb
 generalize (wa3.heap.size,wb3.heap.size)::iv=iv3 at*
 conv=>whnf
 have sb:=sign_cases (b:Int)
 refine BrS.mk (fun h=>?_) (fun h=>?_)
 ·have h:=of_decide_eq_true h
  have hb0:0<b:=by omega
  have hm:=Nat.mod_lt a hb0
  have hlm:ln (a % b)≤1000000:=Nat.le_trans (ln_mono (by omega)) hlb
  conv=>whnf
  refine callE_S (callE_con (Φ:=fun _ w' v w2=>∃q r,v= .tuple #[q,r,.int .i64 0]∧IntC w2 (Nw (fun _=>False) w' w2) q ((a:Int) / b)∧IntC w2 (Nw (fun _=>False) w' w2) r ((a:Int) % b)) (fun ρ w' r=>rDivNon_c (Rel.old r (oldF w)) ((ha.rel r (oldF w)).l (k:=1000000) hla) ((hc.rel r (oldF w)).l (k:=1000000) hlb) (by omega) (by omega) (by omega)) ?_)
  rintro ρ wa4 v4 wb4 r he hb ⟨q,rr,rfl,k1,k2⟩
  replace hw:=hw.tr hb
  clear ha
  replace hc:=hc.past (iv':=(wa4.heap.size,wb4.heap.size)::iv3) r (oldF w) he fun x hx=>List.mem_cons_of_mem _ hx
  have hq:=k1.got (S:=fun _=>False) r.baseLe (iv:=(wa4.heap.size,wb4.heap.size)::iv3) List.mem_cons_self
  have hr:=k2.got (S:=fun _=>False) r.baseLe (iv:=(wa4.heap.size,wb4.heap.size)::iv3) List.mem_cons_self
  clear r he hb
  generalize (wa4.heap.size,wb4.heap.size)::iv3=iv4 at*
  obtain⟨s4_0a,s4_0b,s4_0c,s4_0d,rfl⟩:=hq.shape
  obtain⟨s4_1a,s4_1b,s4_1c,s4_1d,rfl⟩:=hr.shape
  clear k1 k2 hq
  conv=>whnf
  refine drawn_of_tr hτ hmix (.two 0 (.two 1 (.one 2 (.one 3 .nil)) 2 (.one 1 (.one 3 .nil))) 1 (.one 0 (.one 2 (.one 3 .nil)))) (by kernel_rfl) ?_
  conv=>whnf
  refine⟨?_,?_⟩
  ·conv=>whnf
   refine⟨?_,?_⟩
   ·conv=>whnf
    intro ρ3 w3 r3
    exact⟨(b,a % b,(bb,ab,nb,cb),(s4_1a,s4_1b,s4_1c,s4_1d),w3,_),⟨by dsimp only;rw[←hg,Nat.gcd_comm a b,Nat.gcd_rec b a,Nat.gcd_comm],hlb,hlm,hw.tr r3.bel,hc.rel r3 (oldF w),hr.rel r3 (oldF w)⟩,Sub.gen [] r3 ⟨rfl,rfl,rfl,trivial⟩ ⟨rfl,rfl,rfl,trivial⟩ (by simp[ScH,Blk.scopd,At.sc]) (by simp[ScE,SV.sc,At.sc]) (by rfl) (fun lo hi h=>h),hm⟩
   ·conv=>whnf
    intro ρ3 w3 r3
    exact⟨(b,a % b,(bb,ab,nb,cb),(s4_1a,s4_1b,s4_1c,s4_1d),w3,_),⟨by dsimp only;rw[←hg,Nat.gcd_comm a b,Nat.gcd_rec b a,Nat.gcd_comm],hlb,hlm,hw.tr r3.bel,hc.rel r3 (oldF w),hr.rel r3 (oldF w)⟩,Sub.gen [] r3 ⟨rfl,rfl,rfl,trivial⟩ ⟨rfl,rfl,rfl,trivial⟩ (by simp[ScH,Blk.scopd,At.sc]) (by simp[ScE,SV.sc,At.sc]) (by rfl) (fun lo hi h=>h),hm⟩
  ·conv=>whnf
   intro ρ3 w3 r3
   exact⟨(b,a % b,(bb,ab,nb,cb),(s4_1a,s4_1b,s4_1c,s4_1d),w3,_),⟨by dsimp only;rw[←hg,Nat.gcd_comm a b,Nat.gcd_rec b a,Nat.gcd_comm],hlb,hlm,hw.tr r3.bel,hc.rel r3 (oldF w),hr.rel r3 (oldF w)⟩,Sub.gen [] r3 ⟨rfl,rfl,rfl,trivial⟩ ⟨rfl,rfl,rfl,trivial⟩ (by simp[ScH,Blk.scopd,At.sc]) (by simp[ScE,SV.sc,At.sc]) (by rfl) (fun lo hi h=>h),hm⟩
 have h:=of_decide_eq_false h
 obtain rfl:b=0:=by omega
 rw[Nat.gcd_zero_right]at hg
 subst hg
 clear hc
 conv=>whnf
 intro ρe we re
 exact⟨_,rfl,hw.tr re.bel,ha.out re (oldF w)⟩
theorem rOver_c{S:Nat→Prop}{w:World}{v u:Value}{k l:Nat}{x y:Int}(hS:Old S w)(hx:IntL w S v k x)(hy:IntL w S u l y)(hk:k≤1000000)(hl:l≤1000000)(hy0:y≠0):
  Con PG N.ref01_Over #[v,u] w (Ret w fun v' w2=>RatC w2 (Nw (fun _=>False) w w2) v' (Rat.divInt x y)):=by
 have hw:Bel w.heap.size w w:=Bel.refl
 replace hx:=hx.weak (S':=Cv S w.heap.size []) fun _ h=>.inl h
 replace hy:=hy.weak (S':=Cv S w.heap.size []) fun _ h=>.inl h
 obtain⟨b1,a1,n1,c1,rfl⟩:=hx.shape
 obtain⟨b2,a2,n2,c2,rfl⟩:=hy.shape
 refine in_ref01_Over (by simp) ?_
 conv=>whnf
 have hlx:=hx.ln
 have hly:=hy.ln
 have hlg:=ln_gcd x.natAbs (y:=y.natAbs) (by omega)
 obtain⟨hn,hd⟩:=low_ratio2 (a:=x) hy0
 have sy:=sign_cases y
 refine callE_S (callE_con (Φ:=fun _ w' v w2=>∃n p,v= .tuple #[.int .i64 n,.bool p]∧(p=true→n=x∧x.natAbs<1073741824)) (fun ρ w' r=>(rshort_c (Rel.old r hS) (hx.rel r hS).r).mono fun e w2 ⟨v2,e1,e2,e3⟩=>⟨v2,e1,e2,by
   rw[e3,shortV]
   split
   ·exact⟨_,_,rfl,fun _=>⟨rfl,‹_›⟩⟩
   ·exact⟨_,_,rfl,fun h=>by cases h⟩⟩) ?_)
 rintro ρ wa1 v1 wb1 r he hb ⟨nx,px,rfl,qx⟩
 replace hw:=hw.tr hb
 replace hx:=hx.past (iv':=(wa1.heap.size,wb1.heap.size)::[]) r hS he fun x hx=>List.mem_cons_of_mem _ hx
 replace hy:=hy.past (iv':=(wa1.heap.size,wb1.heap.size)::[]) r hS he fun x hx=>List.mem_cons_of_mem _ hx
 clear r he hb
 generalize (wa1.heap.size,wb1.heap.size)::[]=iv1 at*
 conv=>whnf
 refine callE_S (callE_con (Φ:=fun _ w' v w2=>∃n p,v= .tuple #[.int .i64 n,.bool p]∧(p=true→n=y∧y.natAbs<1073741824)) (fun ρ w' r=>(rshort_c (Rel.old r hS) (hy.rel r hS).r).mono fun e w2 ⟨v2,e1,e2,e3⟩=>⟨v2,e1,e2,by
   rw[e3,shortV]
   split
   ·exact⟨_,_,rfl,fun _=>⟨rfl,‹_›⟩⟩
   ·exact⟨_,_,rfl,fun h=>by cases h⟩⟩) ?_)
 rintro ρ wa2 v2 wb2 r he hb ⟨ny,py,rfl,qy⟩
 replace hw:=hw.tr hb
 replace hx:=hx.past (iv':=(wa2.heap.size,wb2.heap.size)::iv1) r hS he fun x hx=>List.mem_cons_of_mem _ hx
 replace hy:=hy.past (iv':=(wa2.heap.size,wb2.heap.size)::iv1) r hS he fun x hx=>List.mem_cons_of_mem _ hx
 clear r he hb
 generalize (wa2.heap.size,wb2.heap.size)::iv1=iv2 at*
 conv=>whnf
 refine BrS.mk (fun h1=>?_) (fun h1=>?_)
 ·obtain⟨e1,hxs⟩:=qx h1
  replace e1:=e1.symm
  subst e1
  conv=>whnf
  refine BrS.mk (fun h2=>?_) (fun h2=>?_)
  ·obtain⟨e2,hys⟩:=qy h2
   replace e2:=e2.symm
   subst e2
   clear hx hy
   conv=>whnf
   refine callE_S (callE_con (Φ:=fun _ w' v w2=>RatC w2 (Nw (fun _=>False) w' w2) v (Rat.divInt x y)) (fun ρ w' r=>rlowest_c x y w' (by omega) (by omega) hy0) ?_)
   rintro ρ wa3 v3 wb3 r he hb hn
   replace hw:=hw.tr hb
   have hR:=hn.got (S:=fun _=>False) r.baseLe (iv:=(wa3.heap.size,wb3.heap.size)::iv2) List.mem_cons_self
   clear r he hb hn
   generalize (wa3.heap.size,wb3.heap.size)::iv2=iv3 at*
   obtain⟨s3_0,s3_1,s3_2,s3_3,s3_4,s3_5,s3_6,s3_7,rfl⟩:=hR.shape
   conv=>whnf
   intro ρe we re
   exact⟨_,rfl,hw.tr re.bel,hR.out re (oldF w)⟩
  conv=>whnf
  refine callE_S (callE_con (Φ:=fun _ w' v w2=>IntC w2 (Nw (fun _=>False) w' w2) v (((Nat.gcd x.natAbs y.natAbs:Nat):Int))) (fun ρ w' r=>rCommon_c (Rel.old r hS) (hx.rel r hS) (hy.rel r hS) hk hl) ?_)
  rintro ρ wa3 v3 wb3 r he hb hn
  replace hw:=hw.tr hb
  replace hx:=hx.past (iv':=(wa3.heap.size,wb3.heap.size)::iv2) r hS he fun x hx=>List.mem_cons_of_mem _ hx
  replace hy:=hy.past (iv':=(wa3.heap.size,wb3.heap.size)::iv2) r hS he fun x hx=>List.mem_cons_of_mem _ hx
  have hg:=hn.got (S:=fun _=>False) r.baseLe (iv:=(wa3.heap.size,wb3.heap.size)::iv2) List.mem_cons_self
  clear r he hb hn
  generalize (wa3.heap.size,wb3.heap.size)::iv2=iv3 at*
  obtain⟨s3_0,s3_1,s3_2,s3_3,rfl⟩:=hg.shape
  conv=>whnf
  refine callE_S (callE_con (Φ:=fun _ w' v w2=>v= .int .i64 y.sign) (fun ρ w' r=>rSign_c (Rel.old r hS) (hy.rel r hS).r) ?_)
  rintro ρ wa4 v4 wb4 r he hb rfl
  replace hw:=hw.tr hb
  replace hx:=hx.past (iv':=(wa4.heap.size,wb4.heap.size)::iv3) r hS he fun x hx=>List.mem_cons_of_mem _ hx
  replace hy:=hy.past (iv':=(wa4.heap.size,wb4.heap.size)::iv3) r hS he fun x hx=>List.mem_cons_of_mem _ hx
  replace hg:=hg.past (iv':=(wa4.heap.size,wb4.heap.size)::iv3) r (oldF w) he fun x hx=>List.mem_cons_of_mem _ hx
  clear r he hb
  generalize (wa4.heap.size,wb4.heap.size)::iv3=iv4 at*
  conv=>whnf
  have hgp:0<Nat.gcd x.natAbs y.natAbs:=Nat.gcd_pos_of_pos_right _ (by omega)
  generalize Nat.gcd x.natAbs y.natAbs=g at*
  refine BrS.mk (fun hs=>?_) (fun hs=>?_)
  ·have hs:=of_decide_eq_true hs
   rw[show y.sign= -1 by omega,Int.neg_one_mul]at hn hd
   conv=>whnf
   refine callE_S (callE_con (Φ:=fun _ w' v w2=>IntC w2 (Nw (fun _=>False) w' w2) v (-(g:Int))) (fun ρ w' r=>rMinus_c (Rel.old r (oldF w)) ((hg.rel r (oldF w)).l (k:=1000000) (by rw[Int.natAbs_natCast];omega)) (by omega)) ?_)
   rintro ρ wa5 v5 wb5 r he hb hn
   replace hw:=hw.tr hb
   replace hx:=hx.past (iv':=(wa5.heap.size,wb5.heap.size)::iv4) r hS he fun x hx=>List.mem_cons_of_mem _ hx
   replace hy:=hy.past (iv':=(wa5.heap.size,wb5.heap.size)::iv4) r hS he fun x hx=>List.mem_cons_of_mem _ hx
   clear hg
   have hg2:=hn.got (S:=fun _=>False) r.baseLe (iv:=(wa5.heap.size,wb5.heap.size)::iv4) List.mem_cons_self
   clear r he hb hn
   generalize (wa5.heap.size,wb5.heap.size)::iv4=iv5 at*
   obtain⟨s5_0,s5_1,s5_2,s5_3,rfl⟩:=hg2.shape
   conv=>whnf
   refine callE_S (callE_con (Φ:=fun _ w' v w2=>∃q r,v= .tuple #[q,r,.int .i64 0]∧IntC w2 (Nw (fun _=>False) w' w2) q (Rat.divInt x y).num∧IntC w2 (Nw (fun _=>False) w' w2) r (x % (-(g:Int)))) (fun ρ w' r=>hn▸rDivNon_c (Rel.old r hS) (hx.rel r hS) ((((hg2.rel r (oldF w)).l (k:=1000000) (by rw[Int.natAbs_neg,Int.natAbs_natCast];omega))).weak fun g hg=>Cv.false hg) hk (by omega) (by omega)) ?_)
   rintro ρ wa6 v6 wb6 r he hb ⟨q,rr,rfl,k1,k2⟩
   replace hw:=hw.tr hb
   clear hx
   replace hy:=hy.past (iv':=(wa6.heap.size,wb6.heap.size)::iv5) r hS he fun x hx=>List.mem_cons_of_mem _ hx
   replace hg2:=hg2.past (iv':=(wa6.heap.size,wb6.heap.size)::iv5) r (oldF w) he fun x hx=>List.mem_cons_of_mem _ hx
   have hq:=k1.got (S:=fun _=>False) r.baseLe (iv:=(wa6.heap.size,wb6.heap.size)::iv5) List.mem_cons_self
   have hr:=k2.got (S:=fun _=>False) r.baseLe (iv:=(wa6.heap.size,wb6.heap.size)::iv5) List.mem_cons_self
   clear r he hb
   generalize (wa6.heap.size,wb6.heap.size)::iv5=iv6 at*
   obtain⟨s6_0a,s6_0b,s6_0c,s6_0d,rfl⟩:=hq.shape
   obtain⟨s6_1a,s6_1b,s6_1c,s6_1d,rfl⟩:=hr.shape
   clear k1 k2 hr
   conv=>whnf
   refine callE_S (callE_con (Φ:=fun _ w' v w2=>∃q r,v= .tuple #[q,r,.int .i64 0]∧IntC w2 (Nw (fun _=>False) w' w2) q ((Rat.divInt x y).den:Int)∧IntC w2 (Nw (fun _=>False) w' w2) r (y % (-(g:Int)))) (fun ρ w' r=>hd▸rDivNon_c (Rel.old r hS) (hy.rel r hS) ((((hg2.rel r (oldF w)).l (k:=1000000) (by rw[Int.natAbs_neg,Int.natAbs_natCast];omega))).weak fun g hg=>Cv.false hg) hl (by omega) (by omega)) ?_)
   rintro ρ wa7 v7 wb7 r he hb ⟨q,rr,rfl,k1,k2⟩
   replace hw:=hw.tr hb
   clear hy
   clear hg2
   replace hq:=hq.past (iv':=(wa7.heap.size,wb7.heap.size)::iv6) r (oldF w) he fun x hx=>List.mem_cons_of_mem _ hx
   have hq2:=k1.got (S:=fun _=>False) r.baseLe (iv:=(wa7.heap.size,wb7.heap.size)::iv6) List.mem_cons_self
   have hr:=k2.got (S:=fun _=>False) r.baseLe (iv:=(wa7.heap.size,wb7.heap.size)::iv6) List.mem_cons_self
   clear r he hb
   generalize (wa7.heap.size,wb7.heap.size)::iv6=iv7 at*
   obtain⟨s7_0a,s7_0b,s7_0c,s7_0d,rfl⟩:=hq2.shape
   obtain⟨s7_1a,s7_1b,s7_1c,s7_1d,rfl⟩:=hr.shape
   clear k1 k2 hr
   conv=>whnf
   intro ρe we re
   exact⟨_,rfl,hw.tr re.bel,(RatC.of hq hq2).out re (oldF w)⟩
  have hs:=of_decide_eq_false hs
  rw[show y.sign=1 by omega,Int.one_mul]at hn hd
  conv=>whnf
  refine callE_S (callE_con (Φ:=fun _ w' v w2=>∃q r,v= .tuple #[q,r,.int .i64 0]∧IntC w2 (Nw (fun _=>False) w' w2) q (Rat.divInt x y).num∧IntC w2 (Nw (fun _=>False) w' w2) r (x % ((g:Int)))) (fun ρ w' r=>hn▸rDivNon_c (Rel.old r hS) (hx.rel r hS) ((((hg.rel r (oldF w)).l (k:=1000000) (by rw[Int.natAbs_natCast];omega))).weak fun g hg=>Cv.false hg) hk (by omega) (by omega)) ?_)
  rintro ρ wa5 v5 wb5 r he hb ⟨q,rr,rfl,k1,k2⟩
  replace hw:=hw.tr hb
  clear hx
  replace hy:=hy.past (iv':=(wa5.heap.size,wb5.heap.size)::iv4) r hS he fun x hx=>List.mem_cons_of_mem _ hx
  replace hg:=hg.past (iv':=(wa5.heap.size,wb5.heap.size)::iv4) r (oldF w) he fun x hx=>List.mem_cons_of_mem _ hx
  have hq:=k1.got (S:=fun _=>False) r.baseLe (iv:=(wa5.heap.size,wb5.heap.size)::iv4) List.mem_cons_self
  have hr:=k2.got (S:=fun _=>False) r.baseLe (iv:=(wa5.heap.size,wb5.heap.size)::iv4) List.mem_cons_self
  clear r he hb
  generalize (wa5.heap.size,wb5.heap.size)::iv4=iv5 at*
  obtain⟨s5_0a,s5_0b,s5_0c,s5_0d,rfl⟩:=hq.shape
  obtain⟨s5_1a,s5_1b,s5_1c,s5_1d,rfl⟩:=hr.shape
  clear k1 k2 hr
  conv=>whnf
  refine callE_S (callE_con (Φ:=fun _ w' v w2=>∃q r,v= .tuple #[q,r,.int .i64 0]∧IntC w2 (Nw (fun _=>False) w' w2) q ((Rat.divInt x y).den:Int)∧IntC w2 (Nw (fun _=>False) w' w2) r (y % ((g:Int)))) (fun ρ w' r=>hd▸rDivNon_c (Rel.old r hS) (hy.rel r hS) ((((hg.rel r (oldF w)).l (k:=1000000) (by rw[Int.natAbs_natCast];omega))).weak fun g hg=>Cv.false hg) hl (by omega) (by omega)) ?_)
  rintro ρ wa6 v6 wb6 r he hb ⟨q,rr,rfl,k1,k2⟩
  replace hw:=hw.tr hb
  clear hy
  clear hg
  replace hq:=hq.past (iv':=(wa6.heap.size,wb6.heap.size)::iv5) r (oldF w) he fun x hx=>List.mem_cons_of_mem _ hx
  have hq2:=k1.got (S:=fun _=>False) r.baseLe (iv:=(wa6.heap.size,wb6.heap.size)::iv5) List.mem_cons_self
  have hr:=k2.got (S:=fun _=>False) r.baseLe (iv:=(wa6.heap.size,wb6.heap.size)::iv5) List.mem_cons_self
  clear r he hb
  generalize (wa6.heap.size,wb6.heap.size)::iv5=iv6 at*
  obtain⟨s6_0a,s6_0b,s6_0c,s6_0d,rfl⟩:=hq2.shape
  obtain⟨s6_1a,s6_1b,s6_1c,s6_1d,rfl⟩:=hr.shape
  clear k1 k2 hr
  conv=>whnf
  intro ρe we re
  exact⟨_,rfl,hw.tr re.bel,(RatC.of hq hq2).out re (oldF w)⟩
 conv=>whnf
 refine callE_S (callE_con (Φ:=fun _ w' v w2=>IntC w2 (Nw (fun _=>False) w' w2) v (((Nat.gcd x.natAbs y.natAbs:Nat):Int))) (fun ρ w' r=>rCommon_c (Rel.old r hS) (hx.rel r hS) (hy.rel r hS) hk hl) ?_)
 rintro ρ wa3 v3 wb3 r he hb hn
 replace hw:=hw.tr hb
 replace hx:=hx.past (iv':=(wa3.heap.size,wb3.heap.size)::iv2) r hS he fun x hx=>List.mem_cons_of_mem _ hx
 replace hy:=hy.past (iv':=(wa3.heap.size,wb3.heap.size)::iv2) r hS he fun x hx=>List.mem_cons_of_mem _ hx
 have hg:=hn.got (S:=fun _=>False) r.baseLe (iv:=(wa3.heap.size,wb3.heap.size)::iv2) List.mem_cons_self
 clear r he hb hn
 generalize (wa3.heap.size,wb3.heap.size)::iv2=iv3 at*
 obtain⟨s3_0,s3_1,s3_2,s3_3,rfl⟩:=hg.shape
 conv=>whnf
 refine callE_S (callE_con (Φ:=fun _ w' v w2=>v= .int .i64 y.sign) (fun ρ w' r=>rSign_c (Rel.old r hS) (hy.rel r hS).r) ?_)
 rintro ρ wa4 v4 wb4 r he hb rfl
 replace hw:=hw.tr hb
 replace hx:=hx.past (iv':=(wa4.heap.size,wb4.heap.size)::iv3) r hS he fun x hx=>List.mem_cons_of_mem _ hx
 replace hy:=hy.past (iv':=(wa4.heap.size,wb4.heap.size)::iv3) r hS he fun x hx=>List.mem_cons_of_mem _ hx
 replace hg:=hg.past (iv':=(wa4.heap.size,wb4.heap.size)::iv3) r (oldF w) he fun x hx=>List.mem_cons_of_mem _ hx
 clear r he hb
 generalize (wa4.heap.size,wb4.heap.size)::iv3=iv4 at*
 conv=>whnf
 have hgp:0<Nat.gcd x.natAbs y.natAbs:=Nat.gcd_pos_of_pos_right _ (by omega)
 generalize Nat.gcd x.natAbs y.natAbs=g at*
 refine BrS.mk (fun hs=>?_) (fun hs=>?_)
 ·have hs:=of_decide_eq_true hs
  rw[show y.sign= -1 by omega,Int.neg_one_mul]at hn hd
  conv=>whnf
  refine callE_S (callE_con (Φ:=fun _ w' v w2=>IntC w2 (Nw (fun _=>False) w' w2) v (-(g:Int))) (fun ρ w' r=>rMinus_c (Rel.old r (oldF w)) ((hg.rel r (oldF w)).l (k:=1000000) (by rw[Int.natAbs_natCast];omega)) (by omega)) ?_)
  rintro ρ wa5 v5 wb5 r he hb hn
  replace hw:=hw.tr hb
  replace hx:=hx.past (iv':=(wa5.heap.size,wb5.heap.size)::iv4) r hS he fun x hx=>List.mem_cons_of_mem _ hx
  replace hy:=hy.past (iv':=(wa5.heap.size,wb5.heap.size)::iv4) r hS he fun x hx=>List.mem_cons_of_mem _ hx
  clear hg
  have hg2:=hn.got (S:=fun _=>False) r.baseLe (iv:=(wa5.heap.size,wb5.heap.size)::iv4) List.mem_cons_self
  clear r he hb hn
  generalize (wa5.heap.size,wb5.heap.size)::iv4=iv5 at*
  obtain⟨s5_0,s5_1,s5_2,s5_3,rfl⟩:=hg2.shape
  conv=>whnf
  refine callE_S (callE_con (Φ:=fun _ w' v w2=>∃q r,v= .tuple #[q,r,.int .i64 0]∧IntC w2 (Nw (fun _=>False) w' w2) q (Rat.divInt x y).num∧IntC w2 (Nw (fun _=>False) w' w2) r (x % (-(g:Int)))) (fun ρ w' r=>hn▸rDivNon_c (Rel.old r hS) (hx.rel r hS) ((((hg2.rel r (oldF w)).l (k:=1000000) (by rw[Int.natAbs_neg,Int.natAbs_natCast];omega))).weak fun g hg=>Cv.false hg) hk (by omega) (by omega)) ?_)
  rintro ρ wa6 v6 wb6 r he hb ⟨q,rr,rfl,k1,k2⟩
  replace hw:=hw.tr hb
  clear hx
  replace hy:=hy.past (iv':=(wa6.heap.size,wb6.heap.size)::iv5) r hS he fun x hx=>List.mem_cons_of_mem _ hx
  replace hg2:=hg2.past (iv':=(wa6.heap.size,wb6.heap.size)::iv5) r (oldF w) he fun x hx=>List.mem_cons_of_mem _ hx
  have hq:=k1.got (S:=fun _=>False) r.baseLe (iv:=(wa6.heap.size,wb6.heap.size)::iv5) List.mem_cons_self
  have hr:=k2.got (S:=fun _=>False) r.baseLe (iv:=(wa6.heap.size,wb6.heap.size)::iv5) List.mem_cons_self
  clear r he hb
  generalize (wa6.heap.size,wb6.heap.size)::iv5=iv6 at*
  obtain⟨s6_0a,s6_0b,s6_0c,s6_0d,rfl⟩:=hq.shape
  obtain⟨s6_1a,s6_1b,s6_1c,s6_1d,rfl⟩:=hr.shape
  clear k1 k2 hr
  conv=>whnf
  refine callE_S (callE_con (Φ:=fun _ w' v w2=>∃q r,v= .tuple #[q,r,.int .i64 0]∧IntC w2 (Nw (fun _=>False) w' w2) q ((Rat.divInt x y).den:Int)∧IntC w2 (Nw (fun _=>False) w' w2) r (y % (-(g:Int)))) (fun ρ w' r=>hd▸rDivNon_c (Rel.old r hS) (hy.rel r hS) ((((hg2.rel r (oldF w)).l (k:=1000000) (by rw[Int.natAbs_neg,Int.natAbs_natCast];omega))).weak fun g hg=>Cv.false hg) hl (by omega) (by omega)) ?_)
  rintro ρ wa7 v7 wb7 r he hb ⟨q,rr,rfl,k1,k2⟩
  replace hw:=hw.tr hb
  clear hy
  clear hg2
  replace hq:=hq.past (iv':=(wa7.heap.size,wb7.heap.size)::iv6) r (oldF w) he fun x hx=>List.mem_cons_of_mem _ hx
  have hq2:=k1.got (S:=fun _=>False) r.baseLe (iv:=(wa7.heap.size,wb7.heap.size)::iv6) List.mem_cons_self
  have hr:=k2.got (S:=fun _=>False) r.baseLe (iv:=(wa7.heap.size,wb7.heap.size)::iv6) List.mem_cons_self
  clear r he hb
  generalize (wa7.heap.size,wb7.heap.size)::iv6=iv7 at*
  obtain⟨s7_0a,s7_0b,s7_0c,s7_0d,rfl⟩:=hq2.shape
  obtain⟨s7_1a,s7_1b,s7_1c,s7_1d,rfl⟩:=hr.shape
  clear k1 k2 hr
  conv=>whnf
  intro ρe we re
  exact⟨_,rfl,hw.tr re.bel,(RatC.of hq hq2).out re (oldF w)⟩
 have hs:=of_decide_eq_false hs
 rw[show y.sign=1 by omega,Int.one_mul]at hn hd
 conv=>whnf
 refine callE_S (callE_con (Φ:=fun _ w' v w2=>∃q r,v= .tuple #[q,r,.int .i64 0]∧IntC w2 (Nw (fun _=>False) w' w2) q (Rat.divInt x y).num∧IntC w2 (Nw (fun _=>False) w' w2) r (x % ((g:Int)))) (fun ρ w' r=>hn▸rDivNon_c (Rel.old r hS) (hx.rel r hS) ((((hg.rel r (oldF w)).l (k:=1000000) (by rw[Int.natAbs_natCast];omega))).weak fun g hg=>Cv.false hg) hk (by omega) (by omega)) ?_)
 rintro ρ wa5 v5 wb5 r he hb ⟨q,rr,rfl,k1,k2⟩
 replace hw:=hw.tr hb
 clear hx
 replace hy:=hy.past (iv':=(wa5.heap.size,wb5.heap.size)::iv4) r hS he fun x hx=>List.mem_cons_of_mem _ hx
 replace hg:=hg.past (iv':=(wa5.heap.size,wb5.heap.size)::iv4) r (oldF w) he fun x hx=>List.mem_cons_of_mem _ hx
 have hq:=k1.got (S:=fun _=>False) r.baseLe (iv:=(wa5.heap.size,wb5.heap.size)::iv4) List.mem_cons_self
 have hr:=k2.got (S:=fun _=>False) r.baseLe (iv:=(wa5.heap.size,wb5.heap.size)::iv4) List.mem_cons_self
 clear r he hb
 generalize (wa5.heap.size,wb5.heap.size)::iv4=iv5 at*
 obtain⟨s5_0a,s5_0b,s5_0c,s5_0d,rfl⟩:=hq.shape
 obtain⟨s5_1a,s5_1b,s5_1c,s5_1d,rfl⟩:=hr.shape
 clear k1 k2 hr
 conv=>whnf
 refine callE_S (callE_con (Φ:=fun _ w' v w2=>∃q r,v= .tuple #[q,r,.int .i64 0]∧IntC w2 (Nw (fun _=>False) w' w2) q ((Rat.divInt x y).den:Int)∧IntC w2 (Nw (fun _=>False) w' w2) r (y % ((g:Int)))) (fun ρ w' r=>hd▸rDivNon_c (Rel.old r hS) (hy.rel r hS) ((((hg.rel r (oldF w)).l (k:=1000000) (by rw[Int.natAbs_natCast];omega))).weak fun g hg=>Cv.false hg) hl (by omega) (by omega)) ?_)
 rintro ρ wa6 v6 wb6 r he hb ⟨q,rr,rfl,k1,k2⟩
 replace hw:=hw.tr hb
 clear hy
 clear hg
 replace hq:=hq.past (iv':=(wa6.heap.size,wb6.heap.size)::iv5) r (oldF w) he fun x hx=>List.mem_cons_of_mem _ hx
 have hq2:=k1.got (S:=fun _=>False) r.baseLe (iv:=(wa6.heap.size,wb6.heap.size)::iv5) List.mem_cons_self
 have hr:=k2.got (S:=fun _=>False) r.baseLe (iv:=(wa6.heap.size,wb6.heap.size)::iv5) List.mem_cons_self
 clear r he hb
 generalize (wa6.heap.size,wb6.heap.size)::iv5=iv6 at*
 obtain⟨s6_0a,s6_0b,s6_0c,s6_0d,rfl⟩:=hq2.shape
 obtain⟨s6_1a,s6_1b,s6_1c,s6_1d,rfl⟩:=hr.shape
 clear k1 k2 hr
 conv=>whnf
 intro ρe we re
 exact⟨_,rfl,hw.tr re.bel,(RatC.of hq hq2).out re (oldF w)⟩
end Go.Ex
