/- A part of the proof: texts X51 to X55. Each tells its conditions in its theorems. -/
import Derived.Test.YtneljlhlncjkhaaGreatDoorP5
import Derived.Test.YtneljlhlncjkhaaGreatDoorP7
import Derived.Test.YtneljlhlncjkhaaGreatDoorP9
import Derived.Test.YtneljlhlncjkhaaGreatDoorP10
/- The examples that each law of chapter 1 begins with. Printed by program. No condition. -/
namespace Go.Ex
open Go Go.Sx Go.Proofs

def awM:List (List (Int×Int)):=[[(1,1),(2,1)],[(2,1),(4,1)]]
def awB:List (Int×Int):=[(3,1),(6,1)]
theorem aw_err:errS awM awB=0:=by decide +kernel
theorem aw_red:reduceF (allF (valsM awM) (awB.map ratioP)) (colsM awM)=([[1,2,3,1,0],[0,0,0,-2,1]],[0]):=by decide +kernel
theorem aw_few:(∀r∈awM,Few r)∧Few awB:=by unfold Few;decide +kernel
theorem aw_ht:Ht (allF (valsM awM) (awB.map ratioP)) 2:=by unfold Ht;decide +kernel
theorem aw_x:xvecTo [[1,2,3,1,0],[0,0,0,-2,1]] [0] 2 1=[3,0]:=by decide +kernel
theorem aw_k:kernelTo [[1,2,3,1,0],[0,0,0,-2,1]] [0] 2 2=[[-2,1]]:=by decide +kernel
theorem aw_root{r:Nat}(h:IsRoot (2*100*100:Int).natAbs r):r=141:=by
 have h1:=h.1
 have h2:=h.2
 have e:(2*100*100:Int).natAbs=20000:=by decide
 rw[e]at h1 h2
 rcases Nat.lt_trichotomy r 141 with h3|h3|h3
 ·have:=Nat.mul_le_mul (show r+1≤141 by omega) (show r+1≤141 by omega)
  omega
 ·exact h3
 ·have:=Nat.mul_le_mul (show 142≤r by omega) (show 142≤r by omega)
  omega
theorem aw_txt:txt (ratio (Rat.divInt 141 100).num (Rat.divInt 141 100).den)=⟨#[49,52,49,47,49,48,48]⟩:=by decide +kernel
theorem ln_c{z:Int}(h:z.natAbs<4294967296):ln z.natAbs≤10000000000:=Nat.le_trans (ln_le.2 (show z.natAbs<4294967296^1 by omega)) (by decide)
theorem aw_divide{S:Nat→Prop}{w:World}{v u:Value}(hS:Old S w)(hx:IntR w S v (-7))(hy:IntR w S u 2):
  Con PG N.exact_Divide #[v,u] w (Ret w fun v' w2=>∃q r,v'= .tuple #[q,r,.int .i64 0]∧IntC w2 (Nw (fun _=>False) w w2) q (-4)∧IntC w2 (Nw (fun _=>False) w w2) r 1):=
 (pubDivide_c hS hx hy (ln_c (by decide)) (ln_c (by decide))).mono fun _ w2 ⟨v2,e1,e2,e3⟩=>⟨v2,e1,e2,e3.elim (fun h=>absurd h.1 (by decide)) fun h=>h.2⟩
theorem aw_below(w:World):
  Con PG N.exact_RootBelow #[.int .i64 2,.int .i64 100] w (Ret w fun v' w2=>∃q,v'= .tuple #[q,.int .i64 0]∧RatC w2 (Nw (fun _=>False) w w2) q (Rat.divInt 141 100)):=
 (pubRootBelow_c 2 100 w (by decide) (by decide) (by decide) (by decide)).mono fun _ w2 ⟨v2,e1,e2,e3⟩=>⟨v2,e1,e2,e3.elim (fun h=>absurd h.1 (by decide)) fun⟨_,r,q,h1,h2,h3⟩=>⟨q,h2,by
  rw[aw_root h1]at h3
  exact h3⟩⟩
theorem aw_solve{S:Nat→Prop}{w:World}{v u:Value}(hS:Old S w)(h:RatMR w S v awM)(hu:RatsR w S u awB):
  Con PG N.exact_Solve #[v,u] w (Ret w fun v' w2=>∃vx vk,v'= .tuple #[.agg #[.int .i64 0,vx,vk,.slice none 0 0],.int .i64 0]∧RatsC w2 (Nw (fun _=>False) w w2) vx [3,0]∧RatMC w2 (Nw (fun _=>False) w w2) vk [[-2,1]]):=
 (pubSolve_c (h0:=2) hS h hu fun _=>⟨aw_few.1,aw_few.2,aw_ht,by decide,by decide⟩).mono fun _ w2 ⟨v2,e1,e2,e3⟩=>⟨v2,e1,e2,by
  rcases e3 with h|⟨_,s,rfl,A,pv,hA,h⟩
  ·exact absurd aw_err h.1
  ·rw[aw_red]at hA
   injection hA with hA hp
   subst hA hp
   rcases h with⟨j,vp,h1,h2,h3,_⟩|⟨vx,vk,_,rfl,h2,h3⟩
   ·have:j=1:=by
     have:j<2:=h2
     have:1≤j:=h1
     omega
    subst this
    exact absurd (show at2 [[1,2,3,1,0],[0,0,0,-2,1]] 1 2=0 by decide +kernel) h3
   ·refine⟨vx,vk,rfl,?_,?_⟩
    ·have:=aw_x
     rw[←this]
     exact h2
    ·have:=aw_k
     rw[←this]
     exact h3⟩
theorem aw_format{S:Nat→Prop}{w:World}{v:Value}(hS:Old S w)(h:RatC w S v (Rat.divInt 141 100)):
  Con PG N.exact_Format #[v] w (Ret w fun v' _=>v'= .string ⟨#[49,52,49,47,49,48,48]⟩):=by
 have:=pubFormat_c hS h.r (ln_c (by decide +kernel)) (ln_c (by decide +kernel)) (by decide +kernel) (by decide +kernel)
 rw[aw_txt]at this
 exact this
end Go.Ex
namespace Go.Sx
open Go Go.Ex Go.Proofs
theorem Rel.box2{α:Type}{P:World→(Nat→Prop)→List Value→α→Prop}{S':Nat→Prop}{H:Hp}{nx:Nat}{iv:Iv}{B:Nat}{w w':World}{ρ:Nat→Sx.Val}(r:Rel H nx iv B w ρ w'){id t:Nat}{u0 u1 u2 u3 u4 u5 u6 u7:Value}{x y:α}
  (h:getH H id=some (.box t [.v u0,.v u1,.v u2,.v u3,.v u4,.v u5,.v u6,.v u7])) (h1:∀u∈[u0,u1,u2,u3,u4,u5,u6,u7],u.oneCell'=true) (p1:P w' S' [u0,u1,u2,u3] x) (p2:P w' S' [u4,u5,u6,u7] y) (hg:S' (ρ id).g):
  ListR P w' S' (.slice (some ⟨(ρ id).g,0,none⟩) 2 2) [x,y]:=
 ⟨[[u0,u1,u2,u3],[u4,u5,u6,u7]],(r.boxSeq (sz:=4) (n:=2) h rfl (by simp[maxLen]) (fun u hu=>by
  simp only[List.mem_cons,List.not_mem_nil,or_false]at hu
  rcases hu with rfl|rfl|rfl|rfl|rfl|rfl|rfl|rfl<;>exact h1 _ (by simp[At.den]))).weak (fun g hg'=>by rw[hg'];exact hg),rfl,by simp,fun j cs z k1 k2=>by
  match j with
  |0=>simp at k1 k2;subst k1 k2;exact p1
  |1=>simp at k1 k2;subst k1 k2;exact p2
  |j+2=>simp at k1⟩
end Go.Sx
namespace Go.Ex
open Go Go.Sx Go.Proofs
theorem RatC.four{S:Nat→Prop}{w:World}{b b2:Bool}{a a2:Option Addr}{n c n2 c2:Nat}{q:Rat}(h:RatC w S (.agg #[.bool b,.slice a n c,.bool b2,.slice a2 n2 c2]) q):Rat4 w S [.bool b,.slice a n c,.bool b2,.slice a2 n2 c2] (q.num,(q.den:Int)):=
 ⟨b,a,n,c,b2,a2,n2,c2,rfl,h.r⟩
theorem RatC.fourC{S:Nat→Prop}{w:World}{b b2:Bool}{a a2:Option Addr}{n c n2 c2:Nat}{q:Rat}(h:RatC w S (.agg #[.bool b,.slice a n c,.bool b2,.slice a2 n2 c2]) q):Rat4C w S [.bool b,.slice a n c,.bool b2,.slice a2 n2 c2] q:=
 ⟨b,a,n,c,b2,a2,n2,c2,rfl,h⟩
theorem Rel.lt{H:Hp}{nx:Nat}{iv:Iv}{B:Nat}{w w':World}{ρ:Nat→Sx.Val}(r:Rel H nx iv B w ρ w'){id t:Nat}{cs:List At}(h:getH H id=some (.box t cs)):(ρ id).g<w'.heap.size:=(r.low id _ h (r.nn id _ h (by intros;simp) (by simp))).2
theorem awake_c(w:World):Con PG N.law01_awake #[] w (Ret w fun v' _=>v'= .bool true):=by
 have hw:Bel w.heap.size w w:=Bel.refl
 refine in_law01_awake (by simp) ?_
 conv=>whnf
 refine callE_S (callE_con (Φ:=fun _ w' v w2=>IntC w2 (Nw (fun _=>False) w' w2) v (-7)) (fun ρ w' r=>pubOf_c _ w' (by decide) (by decide)) ?_)
 rintro ρ wa1 v1 wb1 r he hb hn
 replace hw:=hw.tr hb
 have hA:=hn.got (S:=fun _=>False) r.baseLe (iv:=(wa1.heap.size,wb1.heap.size)::[]) List.mem_cons_self
 clear r he hb hn
 generalize (wa1.heap.size,wb1.heap.size)::[]=iv1 at*
 obtain⟨s1_0,s1_1,s1_2,s1_3,rfl⟩:=hA.shape
 conv=>whnf
 refine callE_S (callE_con (Φ:=fun _ w' v w2=>IntC w2 (Nw (fun _=>False) w' w2) v 2) (fun ρ w' r=>pubOf_c _ w' (by decide) (by decide)) ?_)
 rintro ρ wa2 v2 wb2 r he hb hn
 replace hw:=hw.tr hb
 replace hA:=hA.past (iv':=(wa2.heap.size,wb2.heap.size)::iv1) r (oldF w) he fun x hx=>List.mem_cons_of_mem _ hx
 have hB:=hn.got (S:=fun _=>False) r.baseLe (iv:=(wa2.heap.size,wb2.heap.size)::iv1) List.mem_cons_self
 clear r he hb hn
 generalize (wa2.heap.size,wb2.heap.size)::iv1=iv2 at*
 obtain⟨s2_0,s2_1,s2_2,s2_3,rfl⟩:=hB.shape
 conv=>whnf
 refine callE_S (callE_con (Φ:=fun _ w' v w2=>∃q r,v= .tuple #[q,r,.int .i64 0]∧IntC w2 (Nw (fun _=>False) w' w2) q (-4)∧IntC w2 (Nw (fun _=>False) w' w2) r 1) (fun ρ w' r=>aw_divide (Rel.old r (oldF w)) (hA.rel r (oldF w)).r (hB.rel r (oldF w)).r) ?_)
 rintro ρ wa3 v3 wb3 r he hb ⟨q,rr,rfl,k1,k2⟩
 replace hw:=hw.tr hb
 clear hA
 clear hB
 have hq:=k1.got (S:=fun _=>False) r.baseLe (iv:=(wa3.heap.size,wb3.heap.size)::iv2) List.mem_cons_self
 have hr:=k2.got (S:=fun _=>False) r.baseLe (iv:=(wa3.heap.size,wb3.heap.size)::iv2) List.mem_cons_self
 clear r he hb
 generalize (wa3.heap.size,wb3.heap.size)::iv2=iv3 at*
 obtain⟨s3_0a,s3_0b,s3_0c,s3_0d,rfl⟩:=hq.shape
 obtain⟨s3_1a,s3_1b,s3_1c,s3_1d,rfl⟩:=hr.shape
 conv=>whnf
 refine callE_S (callE_con (Φ:=fun _ w' v w2=>∃q,v= .tuple #[q,.int .i64 0]∧RatC w2 (Nw (fun _=>False) w' w2) q (Rat.divInt 141 100)) (fun ρ w' r=>aw_below w') ?_)
 rintro ρ wa4 v4 wb4 r he hb ⟨f,rfl,k1⟩
 replace hw:=hw.tr hb
 replace hq:=hq.past (iv':=(wa4.heap.size,wb4.heap.size)::iv3) r (oldF w) he fun x hx=>List.mem_cons_of_mem _ hx
 replace hr:=hr.past (iv':=(wa4.heap.size,wb4.heap.size)::iv3) r (oldF w) he fun x hx=>List.mem_cons_of_mem _ hx
 have hf:=k1.got (S:=fun _=>False) r.baseLe (iv:=(wa4.heap.size,wb4.heap.size)::iv3) List.mem_cons_self
 clear r he hb
 generalize (wa4.heap.size,wb4.heap.size)::iv3=iv4 at*
 obtain⟨s4_0a,s4_0b,s4_0c,s4_0d,s4_0e,s4_0f,s4_0g,s4_0h,rfl⟩:=hf.shape
 conv=>whnf
 refine callE_S (callE_con (Φ:=fun _ w' v w2=>RatC w2 (Nw (fun _=>False) w' w2) v ((1:Int):Rat)) (fun ρ w' r=>rWhole_c 1 w' (by decide)) ?_)
 rintro ρ wa5 v5 wb5 r he hb hn
 replace hw:=hw.tr hb
 replace hq:=hq.past (iv':=(wa5.heap.size,wb5.heap.size)::iv4) r (oldF w) he fun x hx=>List.mem_cons_of_mem _ hx
 replace hr:=hr.past (iv':=(wa5.heap.size,wb5.heap.size)::iv4) r (oldF w) he fun x hx=>List.mem_cons_of_mem _ hx
 replace hf:=hf.past (iv':=(wa5.heap.size,wb5.heap.size)::iv4) r (oldF w) he fun x hx=>List.mem_cons_of_mem _ hx
 have hx0:=hn.got (S:=fun _=>False) r.baseLe (iv:=(wa5.heap.size,wb5.heap.size)::iv4) List.mem_cons_self
 clear r he hb hn
 generalize (wa5.heap.size,wb5.heap.size)::iv4=iv5 at*
 obtain⟨s5_0,s5_1,s5_2,s5_3,s5_4,s5_5,s5_6,s5_7,rfl⟩:=hx0.shape
 conv=>whnf
 refine callE_S (callE_con (Φ:=fun _ w' v w2=>RatC w2 (Nw (fun _=>False) w' w2) v ((2:Int):Rat)) (fun ρ w' r=>rWhole_c 2 w' (by decide)) ?_)
 rintro ρ wa6 v6 wb6 r he hb hn
 replace hw:=hw.tr hb
 replace hq:=hq.past (iv':=(wa6.heap.size,wb6.heap.size)::iv5) r (oldF w) he fun x hx=>List.mem_cons_of_mem _ hx
 replace hr:=hr.past (iv':=(wa6.heap.size,wb6.heap.size)::iv5) r (oldF w) he fun x hx=>List.mem_cons_of_mem _ hx
 replace hf:=hf.past (iv':=(wa6.heap.size,wb6.heap.size)::iv5) r (oldF w) he fun x hx=>List.mem_cons_of_mem _ hx
 replace hx0:=hx0.past (iv':=(wa6.heap.size,wb6.heap.size)::iv5) r (oldF w) he fun x hx=>List.mem_cons_of_mem _ hx
 have hx1:=hn.got (S:=fun _=>False) r.baseLe (iv:=(wa6.heap.size,wb6.heap.size)::iv5) List.mem_cons_self
 clear r he hb hn
 generalize (wa6.heap.size,wb6.heap.size)::iv5=iv6 at*
 obtain⟨s6_0,s6_1,s6_2,s6_3,s6_4,s6_5,s6_6,s6_7,rfl⟩:=hx1.shape
 conv=>whnf
 refine callE_S (callE_con (Φ:=fun _ w' v w2=>RatC w2 (Nw (fun _=>False) w' w2) v ((2:Int):Rat)) (fun ρ w' r=>rWhole_c 2 w' (by decide)) ?_)
 rintro ρ wa7 v7 wb7 r he hb hn
 replace hw:=hw.tr hb
 replace hq:=hq.past (iv':=(wa7.heap.size,wb7.heap.size)::iv6) r (oldF w) he fun x hx=>List.mem_cons_of_mem _ hx
 replace hr:=hr.past (iv':=(wa7.heap.size,wb7.heap.size)::iv6) r (oldF w) he fun x hx=>List.mem_cons_of_mem _ hx
 replace hf:=hf.past (iv':=(wa7.heap.size,wb7.heap.size)::iv6) r (oldF w) he fun x hx=>List.mem_cons_of_mem _ hx
 replace hx0:=hx0.past (iv':=(wa7.heap.size,wb7.heap.size)::iv6) r (oldF w) he fun x hx=>List.mem_cons_of_mem _ hx
 replace hx1:=hx1.past (iv':=(wa7.heap.size,wb7.heap.size)::iv6) r (oldF w) he fun x hx=>List.mem_cons_of_mem _ hx
 have hx2:=hn.got (S:=fun _=>False) r.baseLe (iv:=(wa7.heap.size,wb7.heap.size)::iv6) List.mem_cons_self
 clear r he hb hn
 generalize (wa7.heap.size,wb7.heap.size)::iv6=iv7 at*
 obtain⟨s7_0,s7_1,s7_2,s7_3,s7_4,s7_5,s7_6,s7_7,rfl⟩:=hx2.shape
 conv=>whnf
 refine callE_S (callE_con (Φ:=fun _ w' v w2=>RatC w2 (Nw (fun _=>False) w' w2) v ((4:Int):Rat)) (fun ρ w' r=>rWhole_c 4 w' (by decide)) ?_)
 rintro ρ wa8 v8 wb8 r he hb hn
 replace hw:=hw.tr hb
 replace hq:=hq.past (iv':=(wa8.heap.size,wb8.heap.size)::iv7) r (oldF w) he fun x hx=>List.mem_cons_of_mem _ hx
 replace hr:=hr.past (iv':=(wa8.heap.size,wb8.heap.size)::iv7) r (oldF w) he fun x hx=>List.mem_cons_of_mem _ hx
 replace hf:=hf.past (iv':=(wa8.heap.size,wb8.heap.size)::iv7) r (oldF w) he fun x hx=>List.mem_cons_of_mem _ hx
 replace hx0:=hx0.past (iv':=(wa8.heap.size,wb8.heap.size)::iv7) r (oldF w) he fun x hx=>List.mem_cons_of_mem _ hx
 replace hx1:=hx1.past (iv':=(wa8.heap.size,wb8.heap.size)::iv7) r (oldF w) he fun x hx=>List.mem_cons_of_mem _ hx
 replace hx2:=hx2.past (iv':=(wa8.heap.size,wb8.heap.size)::iv7) r (oldF w) he fun x hx=>List.mem_cons_of_mem _ hx
 have hx3:=hn.got (S:=fun _=>False) r.baseLe (iv:=(wa8.heap.size,wb8.heap.size)::iv7) List.mem_cons_self
 clear r he hb hn
 generalize (wa8.heap.size,wb8.heap.size)::iv7=iv8 at*
 obtain⟨s8_0,s8_1,s8_2,s8_3,s8_4,s8_5,s8_6,s8_7,rfl⟩:=hx3.shape
 conv=>whnf
 refine callE_S (callE_con (Φ:=fun _ w' v w2=>RatC w2 (Nw (fun _=>False) w' w2) v ((3:Int):Rat)) (fun ρ w' r=>rWhole_c 3 w' (by decide)) ?_)
 rintro ρ wa9 v9 wb9 r he hb hn
 replace hw:=hw.tr hb
 replace hq:=hq.past (iv':=(wa9.heap.size,wb9.heap.size)::iv8) r (oldF w) he fun x hx=>List.mem_cons_of_mem _ hx
 replace hr:=hr.past (iv':=(wa9.heap.size,wb9.heap.size)::iv8) r (oldF w) he fun x hx=>List.mem_cons_of_mem _ hx
 replace hf:=hf.past (iv':=(wa9.heap.size,wb9.heap.size)::iv8) r (oldF w) he fun x hx=>List.mem_cons_of_mem _ hx
 replace hx0:=hx0.past (iv':=(wa9.heap.size,wb9.heap.size)::iv8) r (oldF w) he fun x hx=>List.mem_cons_of_mem _ hx
 replace hx1:=hx1.past (iv':=(wa9.heap.size,wb9.heap.size)::iv8) r (oldF w) he fun x hx=>List.mem_cons_of_mem _ hx
 replace hx2:=hx2.past (iv':=(wa9.heap.size,wb9.heap.size)::iv8) r (oldF w) he fun x hx=>List.mem_cons_of_mem _ hx
 replace hx3:=hx3.past (iv':=(wa9.heap.size,wb9.heap.size)::iv8) r (oldF w) he fun x hx=>List.mem_cons_of_mem _ hx
 have hx4:=hn.got (S:=fun _=>False) r.baseLe (iv:=(wa9.heap.size,wb9.heap.size)::iv8) List.mem_cons_self
 clear r he hb hn
 generalize (wa9.heap.size,wb9.heap.size)::iv8=iv9 at*
 obtain⟨s9_0,s9_1,s9_2,s9_3,s9_4,s9_5,s9_6,s9_7,rfl⟩:=hx4.shape
 conv=>whnf
 refine callE_S (callE_con (Φ:=fun _ w' v w2=>RatC w2 (Nw (fun _=>False) w' w2) v ((6:Int):Rat)) (fun ρ w' r=>rWhole_c 6 w' (by decide)) ?_)
 rintro ρ wa10 v10 wb10 r he hb hn
 replace hw:=hw.tr hb
 replace hq:=hq.past (iv':=(wa10.heap.size,wb10.heap.size)::iv9) r (oldF w) he fun x hx=>List.mem_cons_of_mem _ hx
 replace hr:=hr.past (iv':=(wa10.heap.size,wb10.heap.size)::iv9) r (oldF w) he fun x hx=>List.mem_cons_of_mem _ hx
 replace hf:=hf.past (iv':=(wa10.heap.size,wb10.heap.size)::iv9) r (oldF w) he fun x hx=>List.mem_cons_of_mem _ hx
 replace hx0:=hx0.past (iv':=(wa10.heap.size,wb10.heap.size)::iv9) r (oldF w) he fun x hx=>List.mem_cons_of_mem _ hx
 replace hx1:=hx1.past (iv':=(wa10.heap.size,wb10.heap.size)::iv9) r (oldF w) he fun x hx=>List.mem_cons_of_mem _ hx
 replace hx2:=hx2.past (iv':=(wa10.heap.size,wb10.heap.size)::iv9) r (oldF w) he fun x hx=>List.mem_cons_of_mem _ hx
 replace hx3:=hx3.past (iv':=(wa10.heap.size,wb10.heap.size)::iv9) r (oldF w) he fun x hx=>List.mem_cons_of_mem _ hx
 replace hx4:=hx4.past (iv':=(wa10.heap.size,wb10.heap.size)::iv9) r (oldF w) he fun x hx=>List.mem_cons_of_mem _ hx
 have hx5:=hn.got (S:=fun _=>False) r.baseLe (iv:=(wa10.heap.size,wb10.heap.size)::iv9) List.mem_cons_self
 clear r he hb hn
 generalize (wa10.heap.size,wb10.heap.size)::iv9=iv10 at*
 obtain⟨s10_0,s10_1,s10_2,s10_3,s10_4,s10_5,s10_6,s10_7,rfl⟩:=hx5.shape
 conv=>whnf
 refine callE_S (callE_con (Φ:=fun _ w' v w2=>∃vx vk,v= .tuple #[.agg #[.int .i64 0,vx,vk,.slice none 0 0],.int .i64 0]∧RatsC w2 (Nw (fun _=>False) w' w2) vx [3,0]∧RatMC w2 (Nw (fun _=>False) w' w2) vk [[-2,1]]) (fun ρ w' r=>?_) ?_)
 ·have f0:=(hx0.rel r (oldF w)).four.weak (S':=fun g=>g<w'.heap.size) fun g hg=>Rel.old r (oldF w) g hg
  have f1:=(hx1.rel r (oldF w)).four.weak (S':=fun g=>g<w'.heap.size) fun g hg=>Rel.old r (oldF w) g hg
  have f2:=(hx2.rel r (oldF w)).four.weak (S':=fun g=>g<w'.heap.size) fun g hg=>Rel.old r (oldF w) g hg
  have f3:=(hx3.rel r (oldF w)).four.weak (S':=fun g=>g<w'.heap.size) fun g hg=>Rel.old r (oldF w) g hg
  have f4:=(hx4.rel r (oldF w)).four.weak (S':=fun g=>g<w'.heap.size) fun g hg=>Rel.old r (oldF w) g hg
  have f5:=(hx5.rel r (oldF w)).four.weak (S':=fun g=>g<w'.heap.size) fun g hg=>Rel.old r (oldF w) g hg
  have r0:=r.box2 (id:=3) rfl (by simp[Value.oneCell']) f0 f1 (Rel.lt r rfl)
  have r1:=r.box2 (id:=4) rfl (by simp[Value.oneCell']) f2 f3 (Rel.lt r rfl)
  have r2:=r.box2 (id:=6) rfl (by simp[Value.oneCell']) f4 f5 (Rel.lt r rfl)
  refine aw_solve (S:=fun g=>g<w'.heap.size) (fun g hg=>hg) ?_ r2
  refine⟨[.slice (some ⟨(ρ 3).g,0,none⟩) 2 2,.slice (some ⟨(ρ 4).g,0,none⟩) 2 2],(r.boxSeq (id:=5) (sz:=1) (n:=2) rfl rfl (by simp[maxLen]) (fun u hu=>by simp at hu;rcases hu with rfl|rfl<;>rfl)).weak (fun g hg=>by rw[hg];exact Rel.lt r rfl),rfl,fun i u x k1 k2=>?_⟩
  match i with
  |0=>simp[awM]at k1 k2;subst k1 k2;exact r0
  |1=>simp[awM]at k1 k2;subst k1 k2;exact r1
  |i+2=>simp at k1
 rintro ρ wa11 v11 wb11 r he hb ⟨vx,vk,rfl,k1,k2⟩
 replace hw:=hw.tr hb
 replace hq:=hq.past (iv':=(wa11.heap.size,wb11.heap.size)::iv10) r (oldF w) he fun x hx=>List.mem_cons_of_mem _ hx
 replace hr:=hr.past (iv':=(wa11.heap.size,wb11.heap.size)::iv10) r (oldF w) he fun x hx=>List.mem_cons_of_mem _ hx
 replace hf:=hf.past (iv':=(wa11.heap.size,wb11.heap.size)::iv10) r (oldF w) he fun x hx=>List.mem_cons_of_mem _ hx
 clear hx0
 clear hx1
 clear hx2
 clear hx3
 clear hx4
 clear hx5
 have hsx:=RatsC.got (S:=fun _=>False) k1 r.baseLe (iv:=(wa11.heap.size,wb11.heap.size)::iv10) List.mem_cons_self
 have hsk:=RatMC.got (S:=fun _=>False) k2 r.baseLe (iv:=(wa11.heap.size,wb11.heap.size)::iv10) List.mem_cons_self
 clear r he hb
 generalize (wa11.heap.size,wb11.heap.size)::iv10=iv11 at*
 clear k1 k2
 obtain⟨sx_a,sx_c,rfl,-⟩:=ListR.shape hsx
 obtain⟨sk_a,sk_c,rfl,-⟩:=SlicesR.shape hsk
 conv=>whnf
 refine drawn_of_pi hτ hmix [.x 0,.x 1,.x 2,.x 3,.x 4,.x 5,.x 6,.x 7,.x 8,.x 9,.x 10,.x 11,.x 12,.x 13,.x 14,.x 15,.x 16,.x 17,.x 18,.x 19,.x 20,.x 21,.x 22,.x 23,.x 24,.x 25,.x 26] (by kernel_rfl) (by kernel_rfl) ?_
 conv=>whnf
 refine callE_con (Φ:=fun _ w' v w2=>IntC w2 (Nw (fun _=>False) w' w2) v (-4)) (fun ρ w' r=>rOf_c _ w' (by decide) (by decide)) ?_
 rintro ρ wa12 v12 wb12 r he hb hn
 replace hw:=hw.tr hb
 replace hq:=hq.past (iv':=(wa12.heap.size,wb12.heap.size)::iv11) r (oldF w) he fun x hx=>List.mem_cons_of_mem _ hx
 replace hr:=hr.past (iv':=(wa12.heap.size,wb12.heap.size)::iv11) r (oldF w) he fun x hx=>List.mem_cons_of_mem _ hx
 replace hf:=hf.past (iv':=(wa12.heap.size,wb12.heap.size)::iv11) r (oldF w) he fun x hx=>List.mem_cons_of_mem _ hx
 replace hsx:=RatsC.past (iv':=(wa12.heap.size,wb12.heap.size)::iv11) hsx r (oldF w) he fun x hx=>List.mem_cons_of_mem _ hx
 replace hsk:=RatMC.past (iv':=(wa12.heap.size,wb12.heap.size)::iv11) hsk r (oldF w) he fun x hx=>List.mem_cons_of_mem _ hx
 have h4:=hn.got (S:=fun _=>False) r.baseLe (iv:=(wa12.heap.size,wb12.heap.size)::iv11) List.mem_cons_self
 clear r he hb hn
 generalize (wa12.heap.size,wb12.heap.size)::iv11=iv12 at*
 obtain⟨s12_0,s12_1,s12_2,s12_3,rfl⟩:=h4.shape
 conv=>whnf
 refine callE_con (Φ:=fun _ w' v w2=>v= .bool true) (fun ρ w' r=>sameInt_c (Rel.old r (oldF w)) (hq.rel r (oldF w)) (h4.rel r (oldF w))) ?_
 rintro ρ wa13 v13 wb13 r he hb rfl
 replace hw:=hw.tr hb
 clear hq
 replace hr:=hr.past (iv':=(wa13.heap.size,wb13.heap.size)::iv12) r (oldF w) he fun x hx=>List.mem_cons_of_mem _ hx
 replace hf:=hf.past (iv':=(wa13.heap.size,wb13.heap.size)::iv12) r (oldF w) he fun x hx=>List.mem_cons_of_mem _ hx
 replace hsx:=RatsC.past (iv':=(wa13.heap.size,wb13.heap.size)::iv12) hsx r (oldF w) he fun x hx=>List.mem_cons_of_mem _ hx
 replace hsk:=RatMC.past (iv':=(wa13.heap.size,wb13.heap.size)::iv12) hsk r (oldF w) he fun x hx=>List.mem_cons_of_mem _ hx
 clear h4
 clear r he hb
 generalize (wa13.heap.size,wb13.heap.size)::iv12=iv13 at*
 conv=>whnf
 refine callE_con (Φ:=fun _ w' v w2=>IntC w2 (Nw (fun _=>False) w' w2) v 1) (fun ρ w' r=>rOf_c _ w' (by decide) (by decide)) ?_
 rintro ρ wa14 v14 wb14 r he hb hn
 replace hw:=hw.tr hb
 replace hr:=hr.past (iv':=(wa14.heap.size,wb14.heap.size)::iv13) r (oldF w) he fun x hx=>List.mem_cons_of_mem _ hx
 replace hf:=hf.past (iv':=(wa14.heap.size,wb14.heap.size)::iv13) r (oldF w) he fun x hx=>List.mem_cons_of_mem _ hx
 replace hsx:=RatsC.past (iv':=(wa14.heap.size,wb14.heap.size)::iv13) hsx r (oldF w) he fun x hx=>List.mem_cons_of_mem _ hx
 replace hsk:=RatMC.past (iv':=(wa14.heap.size,wb14.heap.size)::iv13) hsk r (oldF w) he fun x hx=>List.mem_cons_of_mem _ hx
 have h1:=hn.got (S:=fun _=>False) r.baseLe (iv:=(wa14.heap.size,wb14.heap.size)::iv13) List.mem_cons_self
 clear r he hb hn
 generalize (wa14.heap.size,wb14.heap.size)::iv13=iv14 at*
 obtain⟨s14_0,s14_1,s14_2,s14_3,rfl⟩:=h1.shape
 conv=>whnf
 refine callE_con (Φ:=fun _ w' v w2=>v= .bool true) (fun ρ w' r=>sameInt_c (Rel.old r (oldF w)) (hr.rel r (oldF w)) (h1.rel r (oldF w))) ?_
 rintro ρ wa15 v15 wb15 r he hb rfl
 replace hw:=hw.tr hb
 clear hr
 replace hf:=hf.past (iv':=(wa15.heap.size,wb15.heap.size)::iv14) r (oldF w) he fun x hx=>List.mem_cons_of_mem _ hx
 replace hsx:=RatsC.past (iv':=(wa15.heap.size,wb15.heap.size)::iv14) hsx r (oldF w) he fun x hx=>List.mem_cons_of_mem _ hx
 replace hsk:=RatMC.past (iv':=(wa15.heap.size,wb15.heap.size)::iv14) hsk r (oldF w) he fun x hx=>List.mem_cons_of_mem _ hx
 clear h1
 clear r he hb
 generalize (wa15.heap.size,wb15.heap.size)::iv14=iv15 at*
 conv=>whnf
 refine callE_con (Φ:=fun _ w' v w2=>v= .string ⟨#[49,52,49,47,49,48,48]⟩) (fun ρ w' r=>aw_format (Rel.old r (oldF w)) (hf.rel r (oldF w))) ?_
 rintro ρ wa16 v16 wb16 r he hb rfl
 replace hw:=hw.tr hb
 clear hf
 replace hsx:=RatsC.past (iv':=(wa16.heap.size,wb16.heap.size)::iv15) hsx r (oldF w) he fun x hx=>List.mem_cons_of_mem _ hx
 replace hsk:=RatMC.past (iv':=(wa16.heap.size,wb16.heap.size)::iv15) hsk r (oldF w) he fun x hx=>List.mem_cons_of_mem _ hx
 clear r he hb
 generalize (wa16.heap.size,wb16.heap.size)::iv15=iv16 at*
 conv=>whnf
 refine drawn_of_pi hτ hmix [.x 0,.x 1,.x 2,.x 3,.x 4,.x 5,.x 6,.x 7,.x 8,.x 9,.x 10,.x 11,.x 12,.x 13,.x 14,.x 15,.x 16,.x 17,.x 18,.x 19,.x 20] (by kernel_rfl) (by kernel_rfl) ?_
 conv=>whnf
 refine callE_con (Φ:=fun _ w' v w2=>RatC w2 (Nw (fun _=>False) w' w2) v ((3:Int):Rat)) (fun ρ w' r=>rWhole_c 3 w' (by decide)) ?_
 rintro ρ wa17 v17 wb17 r he hb hn
 replace hw:=hw.tr hb
 replace hsx:=RatsC.past (iv':=(wa17.heap.size,wb17.heap.size)::iv16) hsx r (oldF w) he fun x hx=>List.mem_cons_of_mem _ hx
 replace hsk:=RatMC.past (iv':=(wa17.heap.size,wb17.heap.size)::iv16) hsk r (oldF w) he fun x hx=>List.mem_cons_of_mem _ hx
 have hx0:=hn.got (S:=fun _=>False) r.baseLe (iv:=(wa17.heap.size,wb17.heap.size)::iv16) List.mem_cons_self
 clear r he hb hn
 generalize (wa17.heap.size,wb17.heap.size)::iv16=iv17 at*
 obtain⟨s17_0,s17_1,s17_2,s17_3,s17_4,s17_5,s17_6,s17_7,rfl⟩:=hx0.shape
 conv=>whnf
 refine callE_con (Φ:=fun _ w' v w2=>RatC w2 (Nw (fun _=>False) w' w2) v ((0:Int):Rat)) (fun ρ w' r=>rWhole_c 0 w' (by decide)) ?_
 rintro ρ wa18 v18 wb18 r he hb hn
 replace hw:=hw.tr hb
 replace hsx:=RatsC.past (iv':=(wa18.heap.size,wb18.heap.size)::iv17) hsx r (oldF w) he fun x hx=>List.mem_cons_of_mem _ hx
 replace hsk:=RatMC.past (iv':=(wa18.heap.size,wb18.heap.size)::iv17) hsk r (oldF w) he fun x hx=>List.mem_cons_of_mem _ hx
 replace hx0:=hx0.past (iv':=(wa18.heap.size,wb18.heap.size)::iv17) r (oldF w) he fun x hx=>List.mem_cons_of_mem _ hx
 have hx1:=hn.got (S:=fun _=>False) r.baseLe (iv:=(wa18.heap.size,wb18.heap.size)::iv17) List.mem_cons_self
 clear r he hb hn
 generalize (wa18.heap.size,wb18.heap.size)::iv17=iv18 at*
 obtain⟨s18_0,s18_1,s18_2,s18_3,s18_4,s18_5,s18_6,s18_7,rfl⟩:=hx1.shape
 conv=>whnf
 refine callE_con (Φ:=fun _ w' v w2=>v= .bool true) (fun ρ w' r=>?_) ?_
 ·have f0:=(hx0.rel r (oldF w)).fourC.weak (S':=fun g=>g<w'.heap.size) fun g hg=>Rel.old r (oldF w) g hg
  have f1:=(hx1.rel r (oldF w)).fourC.weak (S':=fun g=>g<w'.heap.size) fun g hg=>Rel.old r (oldF w) g hg
  have r0:=r.box2 (id:=8) rfl (by simp[Value.oneCell']) f0 f1 (Rel.lt r rfl)
  exact sameList_c (xs:=[3,0]) (ys:=[3,0]) (fun g hg=>hg) (RatsC.weak (RatsC.rel hsx r (oldF w)) fun g hg=>Rel.old r (oldF w) g hg) r0
 rintro ρ wa19 v19 wb19 r he hb rfl
 replace hw:=hw.tr hb
 clear hsx
 replace hsk:=RatMC.past (iv':=(wa19.heap.size,wb19.heap.size)::iv18) hsk r (oldF w) he fun x hx=>List.mem_cons_of_mem _ hx
 clear hx0
 clear hx1
 clear r he hb
 generalize (wa19.heap.size,wb19.heap.size)::iv18=iv19 at*
 conv=>whnf
 refine callE_con (Φ:=fun _ w' v w2=>RatC w2 (Nw (fun _=>False) w' w2) v ((-2:Int):Rat)) (fun ρ w' r=>rWhole_c (-2) w' (by decide)) ?_
 rintro ρ wa20 v20 wb20 r he hb hn
 replace hw:=hw.tr hb
 replace hsk:=RatMC.past (iv':=(wa20.heap.size,wb20.heap.size)::iv19) hsk r (oldF w) he fun x hx=>List.mem_cons_of_mem _ hx
 have hx0:=hn.got (S:=fun _=>False) r.baseLe (iv:=(wa20.heap.size,wb20.heap.size)::iv19) List.mem_cons_self
 clear r he hb hn
 generalize (wa20.heap.size,wb20.heap.size)::iv19=iv20 at*
 obtain⟨s20_0,s20_1,s20_2,s20_3,s20_4,s20_5,s20_6,s20_7,rfl⟩:=hx0.shape
 conv=>whnf
 refine callE_con (Φ:=fun _ w' v w2=>RatC w2 (Nw (fun _=>False) w' w2) v ((1:Int):Rat)) (fun ρ w' r=>rWhole_c 1 w' (by decide)) ?_
 rintro ρ wa21 v21 wb21 r he hb hn
 replace hw:=hw.tr hb
 replace hsk:=RatMC.past (iv':=(wa21.heap.size,wb21.heap.size)::iv20) hsk r (oldF w) he fun x hx=>List.mem_cons_of_mem _ hx
 replace hx0:=hx0.past (iv':=(wa21.heap.size,wb21.heap.size)::iv20) r (oldF w) he fun x hx=>List.mem_cons_of_mem _ hx
 have hx1:=hn.got (S:=fun _=>False) r.baseLe (iv:=(wa21.heap.size,wb21.heap.size)::iv20) List.mem_cons_self
 clear r he hb hn
 generalize (wa21.heap.size,wb21.heap.size)::iv20=iv21 at*
 obtain⟨s21_0,s21_1,s21_2,s21_3,s21_4,s21_5,s21_6,s21_7,rfl⟩:=hx1.shape
 conv=>whnf
 refine callE_con (Φ:=fun _ w' v w2=>v= .bool true) (fun ρ w' r=>?_) ?_
 ·have f0:=(hx0.rel r (oldF w)).fourC.weak (S':=fun g=>g<w'.heap.size) fun g hg=>Rel.old r (oldF w) g hg
  have f1:=(hx1.rel r (oldF w)).fourC.weak (S':=fun g=>g<w'.heap.size) fun g hg=>Rel.old r (oldF w) g hg
  have r0:=r.box2 (id:=9) rfl (by simp[Value.oneCell']) f0 f1 (Rel.lt r rfl)
  refine sameLists_c (xs:=[[-2,1]]) (ys:=[[-2,1]]) (fun g hg=>hg) (RatMC.weak (RatMC.rel hsk r (oldF w)) fun g hg=>Rel.old r (oldF w) g hg) ?_
  refine⟨[.slice (some ⟨(ρ 9).g,0,none⟩) 2 2],(r.boxSeq (id:=10) (sz:=1) (n:=1) rfl rfl (by simp[maxLen]) (fun u hu=>by simp at hu;subst hu;rfl)).weak (fun g hg=>by rw[hg];exact Rel.lt r rfl),rfl,fun i u x k1 k2=>?_⟩
  match i with
  |0=>simp at k1 k2;subst k1 k2;exact r0
  |i+1=>simp at k1
 rintro ρ wa22 v22 wb22 r he hb rfl
 replace hw:=hw.tr hb
 clear hsk
 clear hx0
 clear hx1
 clear r he hb
 generalize (wa22.heap.size,wb22.heap.size)::iv21=iv22 at*
 conv=>whnf
 intro ρe we re
 exact⟨_,rfl,hw.tr re.bel,rfl⟩
end Go.Ex

/- Sums and products of columns. No condition. -/
namespace Go.Ex

/-- the sum of the first so many columns -/
def colsum(f:Nat→Int):Nat→Int
 |0=>0
 |n+1=>f 0+65536*colsum (fun i=>f (i+1)) n
theorem colsum_map(f:Nat→Int)(n:Nat):colval ((List.range n).map f)=colsum f n:=by
 induction n generalizing f with
 |zero=>rfl
 |succ n ih=>
  rw[List.range_succ_eq_map,List.map_cons,List.map_map,colval,colsum,←ih]
  rfl
theorem colsum_add(f g:Nat→Int)(n:Nat):colsum (fun i=>f i+g i) n=colsum f n+colsum g n:=by
 induction n generalizing f g with
 |zero=>rfl
 |succ n ih=>simp only[colsum,ih];omega
theorem colsum_mul(k:Int)(f:Nat→Int)(n:Nat):colsum (fun i=>k*f i) n=k*colsum f n:=by
 induction n generalizing f with
 |zero=>simp[colsum]
 |succ n ih=>simp only[colsum,ih,Int.mul_add];rw[Int.mul_left_comm]
theorem colsum_zero{f:Nat→Int}{n:Nat}(h:∀i,i<n→f i=0):colsum f n=0:=by
 induction n generalizing f with
 |zero=>rfl
 |succ n ih=>rw[colsum,h 0 (by omega),ih fun i hi=>h (i+1) (by omega)];rfl
theorem colsum_getD(a:List Int)(n:Nat)(h:a.length≤n):colsum (fun i=>a.getD i 0) n=colval a:=by
 induction a generalizing n with
 |nil=>exact colsum_zero fun i _=>by simp
 |cons c r ih=>
  obtain⟨m,rfl⟩:∃m,n=m+1:=⟨n-1,by simp at h;omega⟩
  have e:=ih m (by simpa using h)
  rw[colsum,colval,←e]
  simp[List.getD]
/-- a product's column: the first k parts -/
def cpart(a b:List Int)(i:Nat):Nat→Int
 |0=>0
 |k+1=>cpart a b i k+a.getD k 0*(if k≤i then b.getD (i-k) 0 else 0)
def convAt(a b:List Int)(i:Nat):Int:=cpart a b i (i+1)
theorem cpart_nil(b:List Int)(i k:Nat):cpart [] b i k=0:=by
 induction k with
 |zero=>rfl
 |succ k ih=>rw[cpart,ih];simp
theorem cpart_cons(c:Int)(r b:List Int)(i k:Nat):cpart (c::r) b (i+1) (k+1)=c*b.getD (i+1) 0+cpart r b i k:=by
 induction k with
 |zero=>simp[cpart]
 |succ k ih=>
  rw[cpart,ih,cpart]
  have e:(c::r).getD (k+1) 0=r.getD k 0:=by simp[List.getD]
  rw[e]
  have e2:(if k+1≤i+1 then b.getD (i+1-(k+1)) 0 else 0)=(if k≤i then b.getD (i-k) 0 else 0):=by
   by_cases h:k≤i
   ·rw[if_pos h,if_pos (by omega),show i+1-(k+1)=i-k by omega]
   ·rw[if_neg h,if_neg (by omega)]
  rw[e2,Int.add_assoc]
theorem convAt_cons(c:Int)(r b:List Int)(i:Nat):convAt (c::r) b (i+1)=c*b.getD (i+1) 0+convAt r b i:=cpart_cons c r b i (i+1)
theorem convAt_zero(c:Int)(r b:List Int):convAt (c::r) b 0=c*b.getD 0 0:=by simp[convAt,cpart]
theorem conv_sum(a b:List Int)(n:Nat)(h:a.length+b.length≤n+1):colsum (convAt a b) n=colval a*colval b:=by
 induction a generalizing n with
 |nil=>
  rw[show convAt [] b=fun _=>(0:Int)from funext fun i=>cpart_nil b i _,colsum_zero fun _ _=>rfl]
  simp[colval]
 |cons c r ih=>
  cases n with
  |zero=>
   have hb:b=[]:=List.eq_nil_of_length_eq_zero (by simp at h;omega)
   subst hb
   simp[colsum,colval]
  |succ m=>
   have e1:colsum (convAt (c::r) b) (m+1)=colsum (fun i=>c*b.getD i 0) (m+1)+65536*colsum (convAt r b) m:=by
    have e2:colsum (fun i=>convAt (c::r) b (i+1)) m=colsum (fun i=>c*b.getD (i+1) 0) m+colsum (convAt r b) m:=by
     rw[←colsum_add]
     congr 1
     funext i
     exact convAt_cons c r b i
    rw[colsum,colsum,e2,convAt_zero,Int.mul_add]
    omega
   have h':r.length+b.length≤m+1:=by simp at h;omega
   rw[e1,ih m h',colsum_mul,colsum_getD b (m+1) (by omega),colval,Int.add_mul,Int.mul_assoc]
theorem cpart_skip(a b:List Int)(i k k0:Nat)(h0:∀j,j<k0→b.length≤i-j)(hk:k0≤i+1)(h:k≤k0):cpart a b i k=0:=by
 induction k with
 |zero=>rfl
 |succ k ih=>
  rw[cpart,ih (by omega),if_pos (by omega)]
  have:b.getD (i-k) 0=0:=by rw[List.getD,List.getElem?_eq_none (h0 k (by omega))];rfl
  rw[this];simp
theorem cpart_rest(a b:List Int)(i k m:Nat)(h:a.length≤k):cpart a b i (k+m)=cpart a b i k:=by
 induction m with
 |zero=>rfl
 |succ m ih=>
  rw[←Nat.add_assoc,cpart,ih]
  have:a.getD (k+m) 0=0:=by rw[List.getD,List.getElem?_eq_none (by omega)];rfl
  rw[this];simp
theorem cpart_bound{a b:List Int}{i:Nat}(ha:∀x∈a,-65535≤x∧x≤65535)(hb:∀x∈b,-65535≤x∧x≤65535)(k:Nat):(cpart a b i k).natAbs≤4294836225*k:=by
 have key:∀(l:List Int) (j:Nat),(∀x∈l,-65535≤x∧x≤65535)→(l.getD j 0).natAbs≤65535:=fun l j h=>by
  rw[List.getD]
  cases hj:l[j]? with
  |none=>simp
  |some d=>have:=h d (List.mem_of_getElem? hj);simp;omega
 induction k with
 |zero=>simp[cpart]
 |succ k ih=>
  rw[cpart]
  have h1:=key a k ha
  have h2:(if k≤i then b.getD (i-k) 0 else 0).natAbs≤65535:=by
   split
   ·exact key b _ hb
   ·simp
  have h3:=Nat.mul_le_mul h1 h2
  rw[←Int.natAbs_mul]at h3
  generalize a.getD k 0*(if k≤i then b.getD (i-k) 0 else 0)=p at*
  omega
/-- the columns of limbs, each one with the sign s -/
def limbCols(s:Int):List Nat→List Int
 |[]=>[]
 |l::r=>s*((l % 65536:Nat):Int)::s*((l / 65536:Nat):Int)::limbCols s r
theorem limbCols_val(s:Int)(ls:List Nat):colval (limbCols s ls)=s*(val ls:Int):=by
 induction ls with
 |nil=>simp[limbCols,colval,val]
 |cons l r ih=>
  rw[limbCols,colval,colval,ih,val]
  have e1:((l+4294967296*val r:Nat):Int)=((l % 65536:Nat):Int)+65536*((l / 65536:Nat):Int)+4294967296*((val r:Nat):Int):=by omega
  rw[e1,Int.mul_add,Int.mul_add,Int.mul_add]
  rw[Int.mul_left_comm 65536 s,Int.mul_left_comm s 65536,Int.mul_left_comm s 4294967296]
  omega
theorem limbCols_append(s:Int)(a b:List Nat):limbCols s (a++b)=limbCols s a++limbCols s b:=by
 induction a with
 |nil=>rfl
 |cons l r ih=>simp[limbCols,ih]
theorem limbCols_length(s:Int)(ls:List Nat):(limbCols s ls).length=2*ls.length:=by
 induction ls with
 |nil=>rfl
 |cons l r ih=>simp[limbCols,ih];omega
theorem limbCols_bound{s:Int}(hs:s=1∨s= -1){ls:List Nat}(h:Lm ls):∀c∈limbCols s ls,-65535≤c∧c≤65535:=by
 induction ls with
 |nil=>intro c hc;cases hc
 |cons l r ih=>
  have hl:=h l List.mem_cons_self
  intro c hc
  rw[limbCols]at hc
  rcases List.mem_cons.1 hc with rfl|hc
  ·rcases hs with rfl|rfl<;>omega
  rcases List.mem_cons.1 hc with rfl|hc
  ·rcases hs with rfl|rfl<;>omega
  ·exact ih (fun x hx=>h x (List.mem_cons_of_mem _ hx)) c hc
/-- of a number that is not negative the columns are digits, and the upper ones tell the rest -/
theorem limbCols_digits{ls:List Nat}(h:Lm ls):∀c∈limbCols 1 ls,0≤c∧c≤65535:=fun c hc=>by
 induction ls with
 |nil=>cases hc
 |cons l r ih=>
  have hl:=h l List.mem_cons_self
  rw[limbCols]at hc
  rcases List.mem_cons.1 hc with rfl|hc
  ·omega
  rcases List.mem_cons.1 hc with rfl|hc
  ·omega
  ·exact ih (fun x hx=>h x (List.mem_cons_of_mem _ hx)) hc
theorem colval_drop{cs:List Int}{i:Nat}{c:Int}(h:cs[i]? =some c):colval (cs.drop i)=c+65536*colval (cs.drop (i+1)):=by
 rw[List.drop_eq_getElem_cons (List.getElem?_eq_some_iff.1 h).1,colval]
 have:=(List.getElem?_eq_some_iff.1 h).2
 rw[this]
end Go.Ex

/- Small lemmas on sizes; division for the laws of chapter 1. No condition. -/
namespace Go.Ex
open Go Go.Sx Go.Proofs

theorem ln_limbs{ls:List Nat}{k:Nat}(h:Lm ls)(hl:ls.length≤k):ln (val ls)≤k:=ln_le.2 (Nat.lt_of_lt_of_le (val_lt h) (wt_le hl))
theorem Cv.false{S:Nat→Prop}{B:Nat}{iv:Iv}{g:Nat}(h:Cv (fun _=>False) B iv g):Cv S B iv g:=h.elim (fun h=>h.elim) .inr
end Go.Ex

/- The fractions that package exact exports. Printed by program. No condition but sizes. -/
namespace Go.Ex
open Go Go.Sx Go.Proofs

theorem pubMul_c{S:Nat→Prop}{w:World}{v u:Value}{x1 x2 y1 y2:Int}(hS:Old S w)(hx:RatR w S v x1 x2)(hy:RatR w S u y1 y2)(hl0:ln x1.natAbs≤100000)(hl1:ln x2.natAbs≤100000)(hl2:ln y1.natAbs≤100000)(hl3:ln y2.natAbs≤100000):
  Con PG N.exact_Mul #[v,u] w (Ret w fun v' w2=>RatC w2 (Nw (fun _=>False) w w2) v' ((ratio x1 x2)*(ratio y1 y2))):=by
 have hw:Bel w.heap.size w w:=Bel.refl
 have r1:=rl_ratio x1 x2
 have r2:=rl_ratio y1 y2
 have r3:=rl_add (ratio x1 x2) (ratio y1 y2)
 have r4:=rl_mul (ratio x1 x2) (ratio y1 y2)
 have r5:=rl_neg (ratio y1 y2)
 have r6:=rl_sub (ratio x1 x2) (ratio y1 y2)
 replace hx:=hx.weak (S':=Cv S w.heap.size []) fun _ h=>.inl h
 replace hy:=hy.weak (S':=Cv S w.heap.size []) fun _ h=>.inl h
 obtain⟨b1,a1,n1,c1,b2,a2,n2,c2,rfl⟩:=hx.shape
 obtain⟨b3,a3,n3,c3,b4,a4,n4,c4,rfl⟩:=hy.shape
 refine in_exact_Mul (by simp) ?_
 conv=>whnf
 refine drawn_of_pi hτ hmix [.x 0,.x 2,.x 1,.x 3,.x 4,.x 5,.x 6] (by kernel_rfl) (by kernel_rfl) ?_
 conv=>whnf
 refine callE_con (Φ:=fun _ w' v w2=>FracR w2 (Nw (fun _=>False) w' w2) v ((ratio x1 x2))) (fun ρ w' r=>value_c (Rel.old r hS) (hx.rel r hS) (by omega) (by omega)) ?_
 rintro ρ wa1 v1 wb1 r he hb hn
 replace hw:=hw.tr hb
 clear hx
 replace hy:=hy.past (iv':=(wa1.heap.size,wb1.heap.size)::[]) r hS he fun x hx=>List.mem_cons_of_mem _ hx
 have hX:=hn.got (S:=fun _=>False) r.baseLe (iv:=(wa1.heap.size,wb1.heap.size)::[]) List.mem_cons_self
 clear r he hb hn
 generalize (wa1.heap.size,wb1.heap.size)::[]=iv1 at*
 obtain⟨s1_0,s1_1,s1_2,s1_3,s1_4,s1_5,s1_6,s1_7,rfl⟩:=hX.shape
 conv=>whnf
 refine callE_con (Φ:=fun _ w' v w2=>FracR w2 (Nw (fun _=>False) w' w2) v ((ratio y1 y2))) (fun ρ w' r=>value_c (Rel.old r hS) (hy.rel r hS) (by omega) (by omega)) ?_
 rintro ρ wa2 v2 wb2 r he hb hn
 replace hw:=hw.tr hb
 clear hy
 replace hX:=hX.past (iv':=(wa2.heap.size,wb2.heap.size)::iv1) r (oldF w) he fun x hx=>List.mem_cons_of_mem _ hx
 have hY:=hn.got (S:=fun _=>False) r.baseLe (iv:=(wa2.heap.size,wb2.heap.size)::iv1) List.mem_cons_self
 clear r he hb hn
 generalize (wa2.heap.size,wb2.heap.size)::iv1=iv2 at*
 obtain⟨s2_0,s2_1,s2_2,s2_3,s2_4,s2_5,s2_6,s2_7,rfl⟩:=hY.shape
 conv=>whnf
 refine callE_con (Φ:=fun _ w' v w2=>FracR w2 (Nw (fun _=>False) w' w2) v ((ratio x1 x2)*(ratio y1 y2))) (fun ρ w' r=>ftimes_c (Rel.old r (oldF w)) (hX.rel r (oldF w)) (hY.rel r (oldF w)) (by omega) (by omega)) ?_
 rintro ρ wa3 v3 wb3 r he hb hn
 replace hw:=hw.tr hb
 clear hX
 clear hY
 have hP:=hn.got (S:=fun _=>False) r.baseLe (iv:=(wa3.heap.size,wb3.heap.size)::iv2) List.mem_cons_self
 clear r he hb hn
 generalize (wa3.heap.size,wb3.heap.size)::iv2=iv3 at*
 obtain⟨s3_0,s3_1,s3_2,s3_3,s3_4,s3_5,s3_6,s3_7,rfl⟩:=hP.shape
 conv=>whnf
 refine callE_con (Φ:=fun _ w' v w2=>RatC w2 (Nw (fun _=>False) w' w2) v ((ratio x1 x2)*(ratio y1 y2))) (fun ρ w' r=>fgive_c (Rel.old r (oldF w)) (hP.rel r (oldF w)) (by omega)) ?_
 rintro ρ wa4 v4 wb4 r he hb hn
 replace hw:=hw.tr hb
 clear hP
 have hC:=hn.got (S:=fun _=>False) r.baseLe (iv:=(wa4.heap.size,wb4.heap.size)::iv3) List.mem_cons_self
 clear r he hb hn
 generalize (wa4.heap.size,wb4.heap.size)::iv3=iv4 at*
 obtain⟨s4_0,s4_1,s4_2,s4_3,s4_4,s4_5,s4_6,s4_7,rfl⟩:=hC.shape
 conv=>whnf
 intro ρe we re
 exact⟨_,rfl,hw.tr re.bel,hC.out re (oldF w)⟩

theorem fcmp_c{S:Nat→Prop}{w:World}{v u:Value}{f g:Rat}(hS:Old S w)(hf:FracR w S v f)(hg:FracR w S u g)(hlf:rl f≤10000000000)(hlg:rl g≤10000000000):
  Con PG N.exact_fraction_cmp #[v,u] w (Ret w fun v' w2=>v'= .int .i64 (rs (f-g))):=by
 have hw:Bel w.heap.size w w:=Bel.refl
 have l1:=rl_num f
 have l2:=rl_den' f
 have l3:=rl_num g
 have l4:=rl_den' g
 have m0:=ln_mul_abs f.num g.den
 have m1:=ln_mul_abs g.num f.den
 replace hf:=hf.weak (S':=Cv S w.heap.size []) fun _ h=>.inl h
 replace hg:=hg.weak (S':=Cv S w.heap.size []) fun _ h=>.inl h
 obtain⟨b1,a1,n1,c1,b2,a2,n2,c2,rfl⟩:=hf.shape
 obtain⟨b3,a3,n3,c3,b4,a4,n4,c4,rfl⟩:=hg.shape
 have hfn:=hf.num
 have hfd:=hf.den
 clear hf
 have hgn:=hg.num
 have hgd:=hg.den
 clear hg
 refine in_exact_fraction_cmp (by simp) ?_
 conv=>whnf
 refine drawn_of_pi hτ hmix [.x 0,.x 1,.x 2,.x 3,.x 5,.x 6,.x 7,.x 8,.x 4,.x 9,.x 10,.x 11] (by kernel_rfl) (by kernel_rfl) ?_
 conv=>whnf
 refine callE_con (Φ:=fun _ w' v w2=>NumR w2 (Nw (fun _=>False) w' w2) v (f.num*(g.den:Int))) (fun ρ w' r=>numTimes_c (Rel.old r hS) (hfn.rel r hS) (hgd.rel r hS) (by omega) (by omega)) ?_
 rintro ρ wa1 v1 wb1 r he hb hn
 replace hw:=hw.tr hb
 clear hfn
 replace hfd:=hfd.past (iv':=(wa1.heap.size,wb1.heap.size)::[]) r hS he fun x hx=>List.mem_cons_of_mem _ hx
 replace hgn:=hgn.past (iv':=(wa1.heap.size,wb1.heap.size)::[]) r hS he fun x hx=>List.mem_cons_of_mem _ hx
 clear hgd
 have hA:=hn.got (S:=fun _=>False) r.baseLe (iv:=(wa1.heap.size,wb1.heap.size)::[]) List.mem_cons_self
 clear r he hb hn
 generalize (wa1.heap.size,wb1.heap.size)::[]=iv1 at*
 obtain⟨s1_0,s1_1,s1_2,s1_3,rfl⟩:=hA.shape
 conv=>whnf
 refine callE_con (Φ:=fun _ w' v w2=>NumR w2 (Nw (fun _=>False) w' w2) v (g.num*(f.den:Int))) (fun ρ w' r=>numTimes_c (Rel.old r hS) (hgn.rel r hS) (hfd.rel r hS) (by omega) (by omega)) ?_
 rintro ρ wa2 v2 wb2 r he hb hn
 replace hw:=hw.tr hb
 clear hfd
 clear hgn
 replace hA:=hA.past (iv':=(wa2.heap.size,wb2.heap.size)::iv1) r (oldF w) he fun x hx=>List.mem_cons_of_mem _ hx
 have hB:=hn.got (S:=fun _=>False) r.baseLe (iv:=(wa2.heap.size,wb2.heap.size)::iv1) List.mem_cons_self
 clear r he hb hn
 generalize (wa2.heap.size,wb2.heap.size)::iv1=iv2 at*
 obtain⟨s2_0,s2_1,s2_2,s2_3,rfl⟩:=hB.shape
 conv=>whnf
 refine callE_con (Φ:=fun _ w' v w2=>v= .int .i64 (rs (f-g))) (fun ρ w' r=>(rat_cmp f g)▸numCmp_c (Rel.old r (oldF w)) (hA.rel r (oldF w)) (hB.rel r (oldF w)) (by omega) (by omega)) ?_
 rintro ρ wa3 v3 wb3 r he hb rfl
 replace hw:=hw.tr hb
 clear hA
 clear hB
 clear r he hb
 generalize (wa3.heap.size,wb3.heap.size)::iv2=iv3 at*
 conv=>whnf
 intro ρe we re
 exact⟨_,rfl,hw.tr re.bel,rfl⟩

theorem pubCmp_c{S:Nat→Prop}{w:World}{v u:Value}{x1 x2 y1 y2:Int}(hS:Old S w)(hx:RatR w S v x1 x2)(hy:RatR w S u y1 y2)(hl0:ln x1.natAbs≤100000)(hl1:ln x2.natAbs≤100000)(hl2:ln y1.natAbs≤100000)(hl3:ln y2.natAbs≤100000):
  Con PG N.exact_Cmp #[v,u] w (Ret w fun v' w2=>v'= .int .i64 (rs ((ratio x1 x2)-(ratio y1 y2)))):=by
 have hw:Bel w.heap.size w w:=Bel.refl
 have r1:=rl_ratio x1 x2
 have r2:=rl_ratio y1 y2
 have r3:=rl_add (ratio x1 x2) (ratio y1 y2)
 have r4:=rl_mul (ratio x1 x2) (ratio y1 y2)
 have r5:=rl_neg (ratio y1 y2)
 have r6:=rl_sub (ratio x1 x2) (ratio y1 y2)
 replace hx:=hx.weak (S':=Cv S w.heap.size []) fun _ h=>.inl h
 replace hy:=hy.weak (S':=Cv S w.heap.size []) fun _ h=>.inl h
 obtain⟨b1,a1,n1,c1,b2,a2,n2,c2,rfl⟩:=hx.shape
 obtain⟨b3,a3,n3,c3,b4,a4,n4,c4,rfl⟩:=hy.shape
 refine in_exact_Cmp (by simp) ?_
 conv=>whnf
 refine drawn_of_pi hτ hmix [.x 0,.x 2,.x 1,.x 3,.x 4,.x 5] (by kernel_rfl) (by kernel_rfl) ?_
 conv=>whnf
 refine callE_con (Φ:=fun _ w' v w2=>FracR w2 (Nw (fun _=>False) w' w2) v ((ratio x1 x2))) (fun ρ w' r=>value_c (Rel.old r hS) (hx.rel r hS) (by omega) (by omega)) ?_
 rintro ρ wa1 v1 wb1 r he hb hn
 replace hw:=hw.tr hb
 clear hx
 replace hy:=hy.past (iv':=(wa1.heap.size,wb1.heap.size)::[]) r hS he fun x hx=>List.mem_cons_of_mem _ hx
 have hX:=hn.got (S:=fun _=>False) r.baseLe (iv:=(wa1.heap.size,wb1.heap.size)::[]) List.mem_cons_self
 clear r he hb hn
 generalize (wa1.heap.size,wb1.heap.size)::[]=iv1 at*
 obtain⟨s1_0,s1_1,s1_2,s1_3,s1_4,s1_5,s1_6,s1_7,rfl⟩:=hX.shape
 conv=>whnf
 refine callE_con (Φ:=fun _ w' v w2=>FracR w2 (Nw (fun _=>False) w' w2) v ((ratio y1 y2))) (fun ρ w' r=>value_c (Rel.old r hS) (hy.rel r hS) (by omega) (by omega)) ?_
 rintro ρ wa2 v2 wb2 r he hb hn
 replace hw:=hw.tr hb
 clear hy
 replace hX:=hX.past (iv':=(wa2.heap.size,wb2.heap.size)::iv1) r (oldF w) he fun x hx=>List.mem_cons_of_mem _ hx
 have hY:=hn.got (S:=fun _=>False) r.baseLe (iv:=(wa2.heap.size,wb2.heap.size)::iv1) List.mem_cons_self
 clear r he hb hn
 generalize (wa2.heap.size,wb2.heap.size)::iv1=iv2 at*
 obtain⟨s2_0,s2_1,s2_2,s2_3,s2_4,s2_5,s2_6,s2_7,rfl⟩:=hY.shape
 conv=>whnf
 refine callE_con (Φ:=fun _ w' v w2=>v= .int .i64 (rs ((ratio x1 x2)-(ratio y1 y2)))) (fun ρ w' r=>fcmp_c (Rel.old r (oldF w)) (hX.rel r (oldF w)) (hY.rel r (oldF w)) (by omega) (by omega)) ?_
 rintro ρ wa3 v3 wb3 r he hb rfl
 replace hw:=hw.tr hb
 clear hX
 clear hY
 clear r he hb
 generalize (wa3.heap.size,wb3.heap.size)::iv2=iv3 at*
 conv=>whnf
 intro ρe we re
 exact⟨_,rfl,hw.tr re.bel,rfl⟩

theorem rs_zero{q:Rat}:rs q=0↔q=0:=by rw[rs,Int.sign_eq_zero_iff_zero,Rat.num_eq_zero]
theorem rl_whole{n:Int}(h1: -9223372036854775808≤n)(h2:n≤9223372036854775807):rl (n:Rat)≤2:=by
 have:=ln_small h1 h2
 unfold rl
 rw[Rat.num_intCast,Rat.den_intCast]
 have:ln 1=1:=by decide
 omega
theorem pubWhole_c(n:Int)(w:World)(h1: -9223372036854775808≤n)(h2:n≤9223372036854775807):
  Con PG N.exact_Whole #[.int .i64 n] w (Ret w fun v' w2=>RatC w2 (Nw (fun _=>False) w w2) v' (n:Rat)):=by
 have hw:Bel w.heap.size w w:=Bel.refl
 have hl:=rl_whole h1 h2
 refine in_exact_Whole (by simp) ?_
 conv=>whnf
 refine callE_S (callE_con (Φ:=fun _ w' v w2=>FracR w2 (Nw (fun _=>False) w' w2) v (n)) (fun ρ w' r=>whole_c n w' h1 h2) ?_)
 rintro ρ wa1 v1 wb1 r he hb hn
 replace hw:=hw.tr hb
 have hX:=hn.got (S:=fun _=>False) r.baseLe (iv:=(wa1.heap.size,wb1.heap.size)::[]) List.mem_cons_self
 clear r he hb hn
 generalize (wa1.heap.size,wb1.heap.size)::[]=iv1 at*
 obtain⟨s1_0,s1_1,s1_2,s1_3,s1_4,s1_5,s1_6,s1_7,rfl⟩:=hX.shape
 conv=>whnf
 refine callE_S (callE_con (Φ:=fun _ w' v w2=>RatC w2 (Nw (fun _=>False) w' w2) v (n)) (fun ρ w' r=>fgive_c (Rel.old r (oldF w)) (hX.rel r (oldF w)) (by omega)) ?_)
 rintro ρ wa2 v2 wb2 r he hb hn
 replace hw:=hw.tr hb
 clear hX
 have hC:=hn.got (S:=fun _=>False) r.baseLe (iv:=(wa2.heap.size,wb2.heap.size)::iv1) List.mem_cons_self
 clear r he hb hn
 generalize (wa2.heap.size,wb2.heap.size)::iv1=iv2 at*
 obtain⟨s2_0,s2_1,s2_2,s2_3,s2_4,s2_5,s2_6,s2_7,rfl⟩:=hC.shape
 conv=>whnf
 intro ρe we re
 exact⟨_,rfl,hw.tr re.bel,hC.out re (oldF w)⟩

end Go.Ex

/- brief of the laws of chapter 1; fractions of package exact by their values. Printed by program. No condition but sizes. -/
namespace Go.Ex
open Go Go.Sx Go.Proofs

def rheads:List (Head×Head)→List Value
 |[]=>[]
 |k::r=>.bool k.1.1:: .slice k.1.2.1 k.1.2.2.1 k.1.2.2.2:: .bool k.2.1:: .slice k.2.2.1 k.2.2.2.1 k.2.2.2.2::rheads r
theorem rheads_get:∀{ks:List (Head×Head)} {i:Nat} {k:Head×Head},ks[i]? =some k→(rheads ks)[i*4+1]? =some (.slice k.1.2.1 k.1.2.2.1 k.1.2.2.2)∧(rheads ks)[i*4+3]? =some (.slice k.2.2.1 k.2.2.2.1 k.2.2.2.2)
 |[],i,k,h=>by simp at h
 |k0::r,0,k,h=>by injection h with h;subst h;exact⟨rfl,rfl⟩
 |k0::r,i+1,k,h=>by
  have:=rheads_get (ks:=r) (i:=i) (k:=k) (by simpa using h)
  rw[show (i+1)*4+1=(i*4+1)+4 by omega,show(i+1)*4+3=(i*4+3)+4 by omega]
  exact this
theorem addr_two(ad:Addr)(i j:Nat):(ad.add i).add j=ad.add (i+j):=by
 unfold Addr.add
 split<;>split<;>simp_all<;>omega
theorem brief_c{S:Nat→Prop}{w:World}{v:Value}{ks:List (Head×Head)}(hS:Old S w)(h:SeqR w S 4 v (rheads ks) ks.length):
  Con PG N.law01_brief #[v] w (Ret w fun v' _=>v'= .bool (decide (∀k∈ks,k.1.2.2.1≤3∧k.2.2.2.1≤3))):=by
 obtain⟨h0,h1,h2,a,c,rfl,h3,h4⟩:=h
 unfold maxLen at h0
 refine in_law01_brief (by simp) ?_
 conv=>whnf
 refine⟨Nat×World,fun z=>⟨[(0,.o (.v (.slice a ks.length c))),(3,.o (.v (.int .i64 z.1)))],[],0,[],z.2⟩,fun z=>ks.length-z.1,
  fun z=>z.1≤ks.length∧Bel w.heap.size w z.2∧∀k∈ks.take z.1,k.1.2.2.1≤3∧k.2.2.2.1≤3,?_,?_⟩
 ·intro ρ w' r
  exact⟨(0,w'),⟨by simp,r.bel,by simp⟩,Sub.gen [] r trivial ⟨rfl,rfl,trivial⟩ (by simp[ScH]) (by simp[ScE,SV.sc,At.sc]) (by rfl) (by simp)⟩
 rintro⟨i,w1⟩ ⟨hi,hw,ht⟩
 dsimp only at hi hw ht ⊢
 conv=>whnf
 refine BrS.mk (fun hib=>?_) (fun hib=>?_)
 ·have hib:i<ks.length:=by simpa using hib
  obtain⟨k,hk⟩:∃x,ks[i]? =some x:=⟨_,List.getElem?_eq_getElem hib⟩
  obtain⟨g1,g2⟩:=rheads_get hk
  obtain⟨ad,rfl,q1,q2⟩:=h4 _ _ g1
  obtain⟨ad2,e2,q3,q4⟩:=h4 _ _ g2
  injection e2 with e2
  subst e2
  have hld:∀{H nx iv ρ w'} (j:Nat) (u:Value),w.cell? (ad.add (i*4+j))=some u→Rel H nx iv w.heap.size w1 ρ w'→w'.cell? (ad.add ((i:Int).toNat*4+j))=some u:=fun{H nx iv ρ w'} j u hu r=>by
   rw[Int.toNat_natCast,cell_of_heap (w:=w) (w2:=w') (by rw[addB];exact(hw.tr r.bel).block _ (hS _ q1))]
   exact hu
  conv=>whnf
  refine⟨ad,rfl,⟨by omega,by omega⟩,?_⟩
  conv=>whnf
  refine⟨.slice k.1.2.1 k.1.2.2.1 k.1.2.2.2,fun ρ w' r=>?_,?_⟩
  ·simp only[addr_two];exact hld 1 _ q2 r
  conv=>whnf
  refine BrS.mk (fun hg=>?_) (fun hg=>?_)
  ·have hg:3<k.1.2.2.1:=by
    have:=of_decide_eq_true hg
    omega
   conv=>whnf
   intro ρ w2 r
   refine⟨_,rfl,hw.tr r.bel,?_⟩
   rw[decide_eq_false (fun e=>by have:=(e k (List.mem_of_getElem? hk)).1;omega)]
   rfl
  have hg:k.1.2.2.1≤3:=by
   have:=of_decide_eq_false hg
   omega
  conv=>whnf
  refine⟨ad,rfl,⟨by omega,by omega⟩,?_⟩
  conv=>whnf
  refine⟨.slice k.2.2.1 k.2.2.2.1 k.2.2.2.2,fun ρ w' r=>?_,?_⟩
  ·simp only[addr_two];exact hld 3 _ q4 r
  conv=>whnf
  refine BrS.mk (fun hg2=>?_) (fun hg2=>?_)
  ·have hg2:3<k.2.2.2.1:=by
    have:=of_decide_eq_true hg2
    omega
   conv=>whnf
   intro ρ w2 r
   refine⟨_,rfl,hw.tr r.bel,?_⟩
   rw[decide_eq_false (fun e=>by have:=(e k (List.mem_of_getElem? hk)).2;omega)]
   rfl
  have hg2:k.2.2.2.1≤3:=by
   have:=of_decide_eq_false hg2
   omega
  have ht2:∀k∈ks.take (i+1),k.1.2.2.1≤3∧k.2.2.2.1≤3:=fun k' h'=>by
   rw[List.take_add_one,hk]at h'
   rcases List.mem_append.1 h' with h'|h'
   ·exact ht k' h'
   ·simp at h';rw[h'];exact⟨hg,hg2⟩
  conv=>whnf
  refine⟨((i+1:Nat):Int),by rw[wrap64]<;>omega,?_⟩
  conv=>whnf
  intro ρ3 w3 r3
  exact⟨(i+1,w3),⟨hib,hw.tr r3.bel,ht2⟩,Sub.gen [] r3 trivial ⟨rfl,rfl,trivial⟩ (by simp[ScH]) (by simp[ScE,SV.sc,At.sc]) (by rfl) (by simp),by dsimp only;omega⟩
 have hib:i=ks.length:=by
  have:¬i<ks.length:=by simpa using hib
  omega
 subst hib
 rw[List.take_length]at ht
 conv=>whnf
 intro ρ w2 r
 exact⟨_,rfl,hw.tr r.bel,by rw[decide_eq_true ht];rfl⟩

/-- a fraction of the api by its value; its parts are not too long -/
def RatV(w:World)(S:Nat→Prop)(v:Value)(q:Rat):Prop:=∃a b,RatR w S v a b∧ratio a b=q∧ln a.natAbs≤100000∧ln b.natAbs≤100000
theorem RatV.weak{S S':Nat→Prop}{w:World}{v:Value}{q:Rat}(h:RatV w S v q)(hk:∀g,S g→S' g):RatV w S' v q:=by
 obtain⟨a,b,h1,h2⟩:=h;exact⟨a,b,h1.weak hk,h2⟩
theorem RatV.shape{S:Nat→Prop}{w:World}{v:Value}{q:Rat}(h:RatV w S v q):∃b a n c b2 a2 n2 c2,v= .agg #[.bool b,.slice a n c,.bool b2,.slice a2 n2 c2]:=by
 obtain⟨a,b,h1,_⟩:=h;exact h1.shape
theorem ratio_self(q:Rat):ratio q.num q.den=q:=by rw[ratio,if_neg (den_ne q),Rat.num_divInt_den]
theorem RatC.v{S:Nat→Prop}{w:World}{v:Value}{q:Rat}(h:RatC w S v q)(hl:rl q≤100000):RatV w S v q:=
 ⟨_,_,h.r,ratio_self q,Nat.le_trans (rl_num q) hl,Nat.le_trans (rl_den' q) hl⟩
section
variable{S S':Nat→Prop}{H:Hp}{nx:Nat}{iv iv':Iv}{B:Nat}{w w' w2:World}{ρ:Nat→Sx.Val}{v:Value}{q:Rat}
end

theorem vMul_c{S:Nat→Prop}{w:World}{v u:Value}{p q:Rat}(hS:Old S w)(hp:RatV w S v p)(hq:RatV w S u q):Con PG N.exact_Mul #[v,u] w (Ret w fun v' w2=>RatC w2 (Nw (fun _=>False) w w2) v' (p*q)):=by
 obtain⟨a,b,h1,rfl,h2,h3⟩:=hp
 obtain⟨c,d,k1,rfl,k2,k3⟩:=hq
 exact pubMul_c hS h1 k1 h2 h3 k2 k3
theorem vCmp_c{S:Nat→Prop}{w:World}{v u:Value}{p q:Rat}(hS:Old S w)(hp:RatV w S v p)(hq:RatV w S u q):Con PG N.exact_Cmp #[v,u] w (Ret w fun v' _=>v'= .int .i64 (rs (p-q))):=by
 obtain⟨a,b,h1,rfl,h2,h3⟩:=hp
 obtain⟨c,d,k1,rfl,k2,k3⟩:=hq
 exact pubCmp_c hS h1 k1 h2 h3 k2 k3
end Go.Ex

/- signs of fractions; the floor of a fraction. Plain. -/
namespace Go.Ex
theorem rs_neg(q:Rat):rs (-q)= -rs q:=by rw[rs,rs,Rat.neg_num,Int.sign_neg]
end Go.Ex

/- Elimination: steps of the reference. Plain. -/
namespace Go.Ex
theorem findK_skip{M:List (List Rat)}{c r k R:Nat}(hk:r≤k)(hR:k≤R)(h:∀j,r≤j→j<k→at2 M j c=0):findK M c (R-r) r=findK M c (R-k) k:=by
 induction k with
 |zero=>
  have:r=0:=by omega
  subst this;rfl
 |succ k ih=>
  rcases Nat.lt_or_ge k r with h1|h1
  ·have:r=k+1:=by omega
   subst this;rfl
  ·rw[ih h1 (by omega) fun j h2 h3=>h j h2 (by omega),show R-k=(R-(k+1))+1 by omega,findK_step (h k h1 (by omega))]
theorem stepF_none{s:List (List Rat)×List Nat}{c:Nat}(h:¬s.2.length<s.1.length∨findK s.1 c (s.1.length-s.2.length) s.2.length=s.1.length):stepF s c=s:=by
 unfold stepF
 split
 ·rcases h with h|h
  ·exact absurd ‹_› h
  ·dsimp only;rw[if_pos h]
 ·rfl
theorem stepF_some{s:List (List Rat)×List Nat}{c k:Nat}(hk:s.2.length≤k)(hl:k<s.1.length)(h:∀j,s.2.length≤j→j<k→at2 s.1 j c=0)(hn:at2 s.1 k c≠0):
  stepF s c=(clearTo (scaled (swapL [] s.1 s.2.length k) s.2.length c) s.2.length c s.1.length,s.2++[c]):=by
 have e:findK s.1 c (s.1.length-s.2.length) s.2.length=k:=by
  rw[findK_skip hk (by omega) h,show s.1.length-k=(s.1.length-k-1)+1 by omega,findK_stop hn]
 unfold stepF
 rw[if_pos (by omega)]
 dsimp only
 rw[e,if_neg (by omega),scaled_length,swapL_length]
end Go.Ex

/- Elimination: prefixes of the columns, sums over a row, rows that are cleared. Plain. -/
namespace Go.Ex
theorem getD_take{r:List Rat}{w c:Nat}(h:c<w):(r.take w).getD c 0=r.getD c 0:=by
 simp only[List.getD,List.getElem?_take,if_pos h]
/-- the first columns -/
def tk(w:Nat)(M:List (List Rat)):List (List Rat):=M.map (·.take w)
theorem tk_length(w:Nat)(M:List (List Rat)):(tk w M).length=M.length:=List.length_map ..
theorem tk_getD(w:Nat)(M:List (List Rat))(i:Nat):(tk w M).getD i []=(M.getD i []).take w:=by
 unfold tk
 simp only[List.getD,List.getElem?_map]
 cases M[i]? <;>simp
theorem at2_tk{M:List (List Rat)}{w i c:Nat}(h:c<w):at2 (tk w M) i c=at2 M i c:=by
 unfold at2;rw[tk_getD,getD_take h]
theorem reduceF_length(M:List (List Rat))(cols:Nat):(reduceF M cols).1.length=M.length:=by
 have key:∀(l:List Nat) (s:List (List Rat)×List Nat),(l.foldl stepF s).1.length=s.1.length:=by
  intro l
  induction l with
  |nil=>exact fun s=>rfl
  |cons c l ih=>exact fun s=>by rw[List.foldl_cons,ih,stepF_length]
 exact key _ _
theorem findK_zero{M:List (List Rat)}{c:Nat}:∀f k j,k≤j→j<findK M c f k→at2 M j c=0
 |0,k,j,h1,h2=>by simp only[findK]at h2;omega
 |f+1,k,j,h1,h2=>by
  unfold findK at h2
  split at h2
  ·rename_i h0
   rcases Nat.lt_or_ge k j with h|h
   ·exact findK_zero f (k+1) j h h2
   ·rw[show j=k by omega];exact h0
  ·omega
theorem stepF_cases{s:List (List Rat)×List Nat}(c:Nat)(hle:s.2.length≤s.1.length):(stepF s c=s∧∀j,s.2.length≤j→j<s.1.length→at2 s.1 j c=0)∨
  ∃k,s.2.length≤k∧k<s.1.length∧at2 s.1 k c≠0∧stepF s c=(clearTo (scaled (swapL [] s.1 s.2.length k) s.2.length c) s.2.length c s.1.length,s.2++[c]):=by
 have h1:=findK_le s.1 c (s.1.length-s.2.length) s.2.length
 by_cases hk:findK s.1 c (s.1.length-s.2.length) s.2.length=s.1.length
 ·exact .inl ⟨stepF_none (.inr hk),fun j hj hl=>findK_zero (s.1.length-s.2.length) s.2.length j hj (by omega)⟩
 ·exact .inr ⟨_,h1.1,by omega,findK_ne s.1 c _ _ (by omega),stepF_some h1.1 (by omega) (fun j h2 h3=>findK_zero _ _ j h2 h3) (findK_ne s.1 c _ _ (by omega))⟩
theorem getD_mem{M:List (List Rat)}{i:Nat}(h:i<M.length):M.getD i []∈M:=by
 rw[List.getD,List.getElem?_eq_getElem h];exact List.getElem_mem h
theorem getD_addR{p:Rat}{r s:List Rat}{c:Nat}(h:c<r.length):(r.mapIdx (addR p s)).getD c 0=r.getD c 0+p*s.getD c 0:=by
 simp only[List.getD,List.getElem?_mapIdx,List.getElem?_eq_getElem h]
 rfl
theorem getD_scale{r:List Rat}{k:Rat}{c:Nat}:(r.map (· *k)).getD c 0=r.getD c 0*k:=by
 simp only[List.getD,List.getElem?_map]
 cases r[c]? with
 |none=>exact(Rat.zero_mul k).symm
 |some q=>rfl
/-- a step, row by row -/
theorem stepF_rows{s:List (List Rat)×List Nat}{c k n:Nat}(hl:Len n s.1)(h1:s.2.length≤k)(h2:k<s.1.length)(h3:at2 s.1 k c≠0)(e:stepF s c=(clearTo (scaled (swapL [] s.1 s.2.length k) s.2.length c) s.2.length c s.1.length,s.2++[c])):
  (∀t,at2 (stepF s c).1 s.2.length t=at2 s.1 k t*(1 / at2 s.1 k c))∧
  ∀j,j<s.1.length→j≠s.2.length→∀t,t<n→at2 (stepF s c).1 j t=at2 s.1 (if j=k then s.2.length else j) t+ -(at2 s.1 (if j=k then s.2.length else j) c)*(at2 s.1 k t*(1 / at2 s.1 k c)):=by
 have hp:s.2.length<s.1.length:=by omega
 have hsw:at2 (swapL [] s.1 s.2.length k) s.2.length c=at2 s.1 k c:=at2_swap hp h2
 have hpiv:(scaled (swapL [] s.1 s.2.length k) s.2.length c).getD s.2.length []=(s.1.getD k []).map (· *(1 / at2 s.1 k c)):=by
  unfold scaled
  rw[hsw,List.getD,List.getElem?_set_self (by rw[swapL_length];exact hp)]
  simp only[Option.getD_some]
  congr 1
  rw[List.getD,List.getD,swapL_fst hp h2]
 have hrow:∀j,j<s.1.length→j≠s.2.length→(scaled (swapL [] s.1 s.2.length k) s.2.length c)[j]? =some (s.1.getD (if j=k then s.2.length else j) []):=fun j hj hne=>by
  unfold scaled
  rw[List.getElem?_set_ne (Ne.symm hne)]
  unfold swapL
  by_cases hjk:j=k
  ·subst hjk
   rw[List.getElem?_set_self (by simpa using hj),if_pos rfl]
  ·rw[List.getElem?_set_ne (Ne.symm hjk),List.getElem?_set_ne (Ne.symm hne),if_neg hjk,List.getD,List.getElem?_eq_getElem hj];rfl
 have hgp:(clearTo (scaled (swapL [] s.1 s.2.length k) s.2.length c) s.2.length c s.1.length).getD s.2.length []=(s.1.getD k []).map (· *(1 / at2 s.1 k c)):=by
  rw[←hpiv]
  simp only[List.getD,clearTo_at]
 rw[e]
 refine⟨fun t=>?_,fun j hj hne t ht=>?_⟩
 ·show((clearTo (scaled (swapL [] s.1 s.2.length k) s.2.length c) s.2.length c s.1.length).getD s.2.length []).getD t 0=_
  rw[hgp,getD_scale]
  rfl
 ·have hgj:(clearTo (scaled (swapL [] s.1 s.2.length k) s.2.length c) s.2.length c s.1.length).getD j []=(s.1.getD (if j=k then s.2.length else j) []).mapIdx (addR (-((s.1.getD (if j=k then s.2.length else j) []).getD c 0)) ((s.1.getD k []).map (· *(1 / at2 s.1 k c)))):=by
   simp only[List.getD,clearTo,List.getElem?_mapIdx,hrow j hj hne,Option.map_some,Option.getD_some]
   rw[if_pos ⟨hj,hne⟩]
   exact congrArg (fun P=>(s.1.getD (if j=k then s.2.length else j) []).mapIdx (addR (-((s.1.getD (if j=k then s.2.length else j) []).getD c 0)) P)) hpiv
  show((clearTo (scaled (swapL [] s.1 s.2.length k) s.2.length c) s.2.length c s.1.length).getD j []).getD t 0=_
  rw[hgj,getD_addR (by rw[hl.getD (by split<;>omega)];exact ht),getD_scale]
  rfl
theorem mul_inv1{x:Rat}(h:x≠0):x*(1 / x)=1:=by rw[Rat.div_def,Rat.one_mul,Rat.mul_inv_cancel x h]
/-- rows behind the pivots are 0 in the columns that have been looked at; the pivots' columns are those of a unit -/
def Red(n c:Nat)(s:List (List Rat)×List Nat):Prop:=Len n s.1∧s.2.length≤s.1.length∧(∀j t,s.2.length≤j→j<s.1.length→t<c→at2 s.1 j t=0)∧(∀p∈s.2,p<c)∧
 ∀i j,i<s.2.length→j<s.1.length→at2 s.1 j (s.2.getD i 0)=if j=i then 1 else 0
theorem Red.step{n c:Nat}{s:List (List Rat)×List Nat}(h:Red n c s)(hc:c<n):Red n (c+1) (stepF s c):=by
 obtain⟨hl,hle,hz,hpc,hu⟩:=h
 rcases stepF_cases c hle with⟨e,h0⟩|⟨k,h1,h2,h3,e⟩
 ·rw[e]
  refine⟨hl,hle,fun j t hj hjl ht=>?_,fun p hp=>by have:=hpc p hp;omega,hu⟩
  rcases Nat.lt_or_ge t c with h|h
  ·exact hz j t hj hjl h
  ·rw[show t=c by omega];exact h0 j hj hjl
 ·obtain⟨r1,r2⟩:=stepF_rows hl h1 h2 h3 e
  have hlen:(stepF s c).1.length=s.1.length:=stepF_length s c
  have e2:(stepF s c).2=s.2++[c]:=by rw[e]
  have e3:(stepF s c).2.length=s.2.length+1:=by rw[e2];simp
  have hone:∀j,j<s.1.length→j≠s.2.length→at2 (stepF s c).1 j c=0:=fun j hj hne=>by
   rw[r2 j hj hne c hc,mul_inv1 h3,Rat.mul_one,Rat.add_neg_cancel]
  refine⟨hl.step,by rw[e3,hlen];omega,fun j t hj hjl ht=>?_,fun p hp=>?_,fun i j hi hj=>?_⟩
  ·rw[e3]at hj
   rw[hlen]at hjl
   rcases Nat.lt_or_ge t c with h|h
   ·rw[r2 j hjl (by omega) t (by omega),hz k t h1 h2 h,hz (if j=k then s.2.length else j) t (by split<;>omega) (by split<;>omega) h,Rat.zero_mul,Rat.mul_zero,Rat.zero_add]
   ·rw[show t=c by omega];exact hone j hjl (by omega)
  ·rw[e2]at hp
   rcases List.mem_append.1 hp with hp|hp
   ·have:=hpc p hp;omega
   ·rw[List.mem_singleton.1 hp];omega
  ·rw[e3]at hi
   rw[hlen]at hj
   rcases Nat.lt_or_ge i s.2.length with h|h
   ·have hg:(stepF s c).2.getD i 0=s.2.getD i 0:=by rw[e2,List.getD,List.getElem?_append_left h,←List.getD]
    have hpm:s.2.getD i 0<c:=hpc _ (by rw[List.getD,List.getElem?_eq_getElem h];exact List.getElem_mem h)
    have hk0:at2 s.1 k (s.2.getD i 0)=0:=hz k _ h1 h2 hpm
    rw[hg]
    by_cases hjp:j=s.2.length
    ·rw[hjp,r1,hk0,Rat.zero_mul,if_neg (by omega)]
    ·rw[r2 j hj hjp _ (by omega),hk0,Rat.zero_mul,Rat.mul_zero,Rat.add_zero]
     by_cases hjk:j=k
     ·rw[if_pos hjk,hu i _ h (by omega),if_neg (by omega),if_neg (by omega)]
     ·rw[if_neg hjk,hu i j h hj]
   ·have hg:(stepF s c).2.getD i 0=c:=by rw[e2,List.getD,List.getElem?_append_right h,show i-s.2.length=0 by omega];rfl
    rw[hg]
    by_cases hjp:j=s.2.length
    ·rw[hjp,r1,mul_inv1 h3,if_pos (by omega)]
    ·rw[hone j hj hjp,if_neg (by omega)]
theorem reduceF_red{M:List (List Rat)}{n:Nat}(hl:Len n M):∀cols,cols≤n→Red n cols (reduceF M cols)
 |0,_=>⟨hl,Nat.zero_le _,fun _ _ _ _ h=>by omega,fun p hp=>(by cases hp),fun _ _ h=>(by cases h)⟩
 |c+1,h=>by
  have ih:=reduceF_red hl c (by omega)
  unfold reduceF at ih ⊢
  rw[List.range_succ,List.foldl_append]
  exact ih.step (by omega)
end Go.Ex

/- Determinants by the first row, of functions of two places: rows may be exchanged (the sign turns) and multiples of one row added to another. Plain. -/
namespace Go.Ex
abbrev Mx:=Nat→Nat→Rat
def skip(k j:Nat):Nat:=if j<k then j else j+1
def sgd(k:Nat):Rat:=if k % 2=1 then -1 else 1
def sumR(f:Nat→Rat):Nat→Rat
 |0=>0
 |n+1=>sumR f n+f n
def detF:Nat→Mx→Rat
 |0,_=>1
 |n+1,m=>sumR (fun k=>sgd k*(m 0 k*detF n fun i j=>m (i+1) (skip k j))) (n+1)
theorem sumR_congr{f g:Nat→Rat}:∀{n:Nat},(∀k,k<n→f k=g k)→sumR f n=sumR g n
 |0,_=>rfl
 |n+1,h=>by rw[sumR,sumR,sumR_congr fun k hk=>h k (by omega),h n (by omega)]
theorem sumR_zero:∀(n:Nat),sumR (fun _=>0) n=0
 |0=>rfl
 |n+1=>by rw[sumR,sumR_zero n,Rat.add_zero]
theorem sumR_add(f g:Nat→Rat):∀(n:Nat),sumR (fun k=>f k+g k) n=sumR f n+sumR g n
 |0=>(Rat.add_zero 0).symm
 |n+1=>by rw[sumR,sumR,sumR,sumR_add f g n];grind
theorem sumR_mul(p:Rat)(f:Nat→Rat):∀(n:Nat),sumR (fun k=>p*f k) n=p*sumR f n
 |0=>(Rat.mul_zero p).symm
 |n+1=>by rw[sumR,sumR,sumR_mul p f n];grind
theorem sumR_neg(f:Nat→Rat)(n:Nat):sumR (fun k=> -f k) n= -sumR f n:=by
 have h:=sumR_mul (-1) f n
 rw[show (-1:Rat)*sumR f n= -sumR f n by grind]at h
 rw[←h]
 exact sumR_congr fun k _=>by grind
theorem sumR_first(f:Nat→Rat):∀(n:Nat),sumR f (n+1)=f 0+sumR (fun k=>f (k+1)) n
 |0=>by show 0+f 0=f 0+0;grind
 |n+1=>by rw[sumR,sumR_first f n,sumR];grind
theorem skip_lt{k j n:Nat}(h:j<n):skip k j<n+1:=by unfold skip;split<;>omega
theorem skip_skip{k l:Nat}(h:k≤l)(j:Nat):skip k (skip l j)=skip (l+1) (skip k j):=by
 unfold skip
 grind
theorem detF_congr:∀{n:Nat} {m m':Mx},(∀i j,i<n→j<n→m i j=m' i j)→detF n m=detF n m'
 |0,_,_,_=>rfl
 |n+1,m,m',h=>by
  unfold detF
  refine sumR_congr fun k hk=>?_
  rw[h 0 k (by omega) hk,detF_congr fun i j hi hj=>h (i+1) (skip k j) (by omega) (skip_lt hj)]
/-- a row set anew -/
def upd(m:Mx)(r:Nat)(u:Nat→Rat):Mx:=fun i j=>if i=r then u j else m i j
theorem upd_minor(m:Mx)(r k:Nat)(u:Nat→Rat):(fun i j=>upd m (r+1) u (i+1) (skip k j))=upd (fun i j=>m (i+1) (skip k j)) r fun j=>u (skip k j):=by
 funext i j
 unfold upd
 by_cases h:i=r
 ·rw[if_pos h,if_pos (by omega)]
 ·rw[if_neg h,if_neg (by omega)]
theorem detF_lin(p:Rat):∀(n r:Nat) (m:Mx),r<n→∀(u v:Nat→Rat),detF n (upd m r fun j=>u j+p*v j)=detF n (upd m r u)+p*detF n (upd m r v)
 |0,_,_,h,_,_=>by omega
 |n+1,0,m,_,u,v=>by
  unfold detF
  rw[←sumR_mul,←sumR_add]
  refine sumR_congr fun k _=>?_
  have e:∀x:Nat→Rat,(fun i j=>upd m 0 x (i+1) (skip k j))=fun i j=>m (i+1) (skip k j):=fun x=>by
   funext i j;unfold upd;rw[if_neg (by omega)]
  rw[e,e,e]
  unfold upd
  rw[if_pos rfl,if_pos rfl,if_pos rfl]
  grind
 |n+1,r+1,m,h,u,v=>by
  unfold detF
  rw[←sumR_mul,←sumR_add]
  refine sumR_congr fun k _=>?_
  rw[upd_minor,upd_minor,upd_minor,detF_lin p n r _ (by omega) (fun j=>u (skip k j)) fun j=>v (skip k j)]
  have e:∀x:Nat→Rat,upd m (r+1) x 0 k=m 0 k:=fun x=>by unfold upd;rw[if_neg (by omega)]
  rw[e,e,e]
  grind
/-- a sum over pairs that cancel -/
theorem pairs_zero{F:Nat→Nat→Rat}:∀{n:Nat},(∀k l,k≤l→l<n→F k l+F (l+1) k=0)→sumR (fun k=>sumR (F k) n) (n+1)=0
 |0,_=>by show 0+0=(0:Rat);grind
 |n+1,h=>by
  have ih:=pairs_zero (F:=F) (n:=n) fun k l h1 h2=>h k l h1 (by omega)
  have h3:sumR (fun k=>F k n+F (n+1) k) (n+1)=0:=by
   rw[sumR_congr (g:=fun _=>0) fun k hk=>h k n (by omega) (by omega),sumR_zero]
  rw[sumR_add]at h3
  rw[sumR]
  have h4:sumR (fun k=>sumR (F k) (n+1)) (n+1)=sumR (fun k=>sumR (F k) n) (n+1)+sumR (fun k=>F k n) (n+1):=by
   rw[←sumR_add];rfl
  rw[h4,ih,Rat.zero_add]
  exact h3
def swp(a b i:Nat):Nat:=if i=a then b else if i=b then a else i
theorem swp_minor(r i:Nat):swp (r+1) (r+2) (i+1)=swp r (r+1) i+1:=by
 unfold swp
 by_cases h:i=r
 ·rw[if_pos (by omega),if_pos h]
 ·rw[if_neg (by omega),if_neg h]
  by_cases h2:i=r+1
  ·rw[if_pos (by omega),if_pos h2]
  ·rw[if_neg (by omega),if_neg h2]
theorem sgd_succ(k:Nat):sgd (k+1)= -sgd k:=by
 unfold sgd
 by_cases h:k % 2=1
 ·rw[if_pos h,if_neg (by omega)];grind
 ·rw[if_neg h,if_pos (by omega)]
theorem detF_two(n:Nat)(m:Mx):detF (n+2) m=sumR (fun k=>sumR (fun l=>sgd k*sgd l*(m 0 k*m 1 (skip k l))*detF n fun i j=>m (i+2) (skip k (skip l j))) (n+1)) (n+2):=by
 rw[detF]
 refine sumR_congr fun k _=>?_
 rw[detF,←sumR_mul,←sumR_mul]
 refine sumR_congr fun l _=>?_
 grind
/-- neighbouring rows exchanged -/
theorem detF_adj:∀(n r:Nat) (m:Mx),r+1<n→detF n (fun i j=>m (swp r (r+1) i) j)= -detF n m
 |0,_,_,h=>by omega
 |1,_,_,h=>by omega
 |n+2,0,m,_=>by
  rw[detF_two,detF_two,←sumR_neg]
  have key:sumR (fun k=>sumR (fun l=>sgd k*sgd l*(m 1 k*m 0 (skip k l))*(detF n fun i j=>m (i+2) (skip k (skip l j)))+sgd k*sgd l*(m 0 k*m 1 (skip k l))*detF n fun i j=>m (i+2) (skip k (skip l j))) (n+1)) (n+2)=0:=by
   refine pairs_zero fun k l h1 h2=>?_
   have e1:skip k l=l+1:=by unfold skip;rw[if_neg (by omega)]
   have e2:skip (l+1) k=k:=by unfold skip;rw[if_pos (by omega)]
   have e3:(fun i j=>m (i+2) (skip (l+1) (skip k j)))=fun i j=>m (i+2) (skip k (skip l j)):=by
    funext i j;rw[skip_skip h1]
   rw[e1,e2,e3,sgd_succ]
   grind
  have h4:sumR (fun k=>sumR (fun l=>sgd k*sgd l*(m 1 k*m 0 (skip k l))*(detF n fun i j=>m (i+2) (skip k (skip l j)))+sgd k*sgd l*(m 0 k*m 1 (skip k l))*detF n fun i j=>m (i+2) (skip k (skip l j))) (n+1)) (n+2)=
    sumR (fun k=>sumR (fun l=>sgd k*sgd l*(m 1 k*m 0 (skip k l))*detF n fun i j=>m (i+2) (skip k (skip l j))) (n+1)) (n+2)+sumR (fun k=>sumR (fun l=>sgd k*sgd l*(m 0 k*m 1 (skip k l))*detF n fun i j=>m (i+2) (skip k (skip l j))) (n+1)) (n+2):=by
   rw[←sumR_add]
   exact sumR_congr fun k _=>sumR_add _ _ _
  rw[h4]at key
  have h5:sumR (fun k=> -sumR (fun l=>sgd k*sgd l*(m 0 k*m 1 (skip k l))*detF n fun i j=>m (i+2) (skip k (skip l j))) (n+1)) (n+2)= -sumR (fun k=>sumR (fun l=>sgd k*sgd l*(m 0 k*m 1 (skip k l))*detF n fun i j=>m (i+2) (skip k (skip l j))) (n+1)) (n+2):=sumR_neg _ _
  rw[h5]
  have h6:sumR (fun k=>sumR (fun l=>sgd k*sgd l*(m (swp 0 1 0) k*m (swp 0 1 1) (skip k l))*detF n fun i j=>m (swp 0 1 (i+2)) (skip k (skip l j))) (n+1)) (n+2)=sumR (fun k=>sumR (fun l=>sgd k*sgd l*(m 1 k*m 0 (skip k l))*detF n fun i j=>m (i+2) (skip k (skip l j))) (n+1)) (n+2):=by
   refine sumR_congr fun k _=>sumR_congr fun l _=>?_
   have e:∀i,swp 0 1 (i+2)=i+2:=fun i=>by unfold swp;rw[if_neg (by omega),if_neg (by omega)]
   simp only[e]
   rfl
  rw[show (0:Nat)+1=1 from rfl,h6]
  grind
 |n+2,r+1,m,h=>by
  rw[detF,detF,←sumR_neg]
  refine sumR_congr fun k _=>?_
  have e:(fun i j=>m (swp (r+1) (r+1+1) (i+1)) (skip k j))=fun i j=>m (swp r (r+1) i+1) (skip k j):=by
   funext i j
   rw[show r+1+1=r+2 from rfl,swp_minor]
  have ih:detF (n+1) (fun i j=>m (swp r (r+1) i+1) (skip k j))= -detF (n+1) fun i j=>m (i+1) (skip k j):=detF_adj (n+1) r (fun i j=>m (i+1) (skip k j)) (by omega)
  rw[e,ih]
  rw[show swp (r+1) (r+1+1) 0=0 by unfold swp;rw[if_neg (by omega),if_neg (by omega)]]
  grind
/-- two equal rows -/
theorem detF_twice:∀(k n:Nat) (m:Mx),k+1<n→(∀j,j<n→m 0 j=m (k+1) j)→detF n m=0
 |0,n,m,h,he=>by
  have h1:=detF_adj n 0 m h
  rw[detF_congr (m':=m) fun i j hi hj=>?_]at h1
  ·grind
  ·unfold swp
   by_cases h0:i=0
   ·rw[if_pos h0,h0];exact(he j hj).symm
   ·rw[if_neg h0]
    by_cases h2:i=1
    ·rw[if_pos h2,h2];exact he j hj
    ·rw[if_neg h2]
 |k+1,n,m,h,he=>by
  have h1:=detF_adj n (k+1) m h
  rw[detF_twice k n _ (by omega) fun j hj=>?_]at h1
  ·grind
  ·rw[show swp (k+1) (k+1+1) 0=0 by unfold swp;rw[if_neg (by omega),if_neg (by omega)],show swp (k+1) (k+1+1) (k+1)=k+1+1 by unfold swp;rw[if_pos rfl]]
   exact he j hj
theorem upd_self(m:Mx)(r:Nat):upd m r (m r)=m:=by
 funext i j
 unfold upd
 by_cases h:i=r
 ·rw[if_pos h,h]
 ·rw[if_neg h]
/-- a multiple of the first row added to another -/
theorem detF_addrow{n r:Nat}{m:Mx}(p:Rat)(h:r+1<n):detF n (upd m (r+1) fun j=>m (r+1) j+p*m 0 j)=detF n m:=by
 rw[detF_lin p n (r+1) m h,upd_self,detF_twice r n (upd m (r+1) (m 0)) h fun j _=>?_]
 ·grind
 ·unfold upd;rw[if_neg (by omega),if_pos rfl]
/-- the first row and another exchanged -/
theorem detF_swap{n k:Nat}{m:Mx}(h:k+1<n):detF n (fun i j=>m (swp 0 (k+1) i) j)= -detF n m:=by
 have z:∀u:Nat→Rat,detF n (upd (upd m 0 u) (k+1) u)=0:=fun u=>detF_twice k n _ h fun j _=>by
  unfold upd;rw[if_neg (by omega),if_pos rfl,if_pos rfl]
 have cm:∀u v:Nat→Rat,upd (upd m 0 u) (k+1) v=upd (upd m (k+1) v) 0 u:=fun u v=>by
  funext i j;unfold upd
  by_cases h1:i=k+1
  ·rw[if_pos h1,if_neg (by omega),if_pos h1]
  ·rw[if_neg h1,if_neg h1]
 have l1:∀u v x:Nat→Rat,detF n (upd (upd m 0 u) (k+1) fun j=>v j+1*x j)=detF n (upd (upd m 0 u) (k+1) v)+1*detF n (upd (upd m 0 u) (k+1) x):=fun u v x=>detF_lin 1 n (k+1) _ h v x
 have l2:∀u v x:Nat→Rat,detF n (upd (upd m 0 fun j=>v j+1*x j) (k+1) u)=detF n (upd (upd m 0 v) (k+1) u)+1*detF n (upd (upd m 0 x) (k+1) u):=fun u v x=>by
  rw[cm,cm,cm];exact detF_lin 1 n 0 _ (by omega) v x
 have h1:=z fun j=>m 0 j+1*m (k+1) j
 rw[l1,l2,l2,z,z]at h1
 have e1:upd (upd m 0 (m 0)) (k+1) (m (k+1))=m:=by rw[upd_self,upd_self]
 have e2:upd (upd m 0 (m (k+1))) (k+1) (m 0)=fun i j=>m (swp 0 (k+1) i) j:=by
  funext i j;unfold upd swp
  by_cases h1:i=k+1
  ·rw[if_pos h1,if_neg (by omega),if_pos h1]
  ·rw[if_neg h1]
   by_cases h0:i=0
   ·rw[if_pos h0,if_pos h0]
   ·rw[if_neg h0,if_neg h0,if_neg h1]
 rw[e1,e2]at h1
 grind
theorem detF_col0:∀(n:Nat) (m:Mx),0<n→(∀i,i<n→m i 0=0)→detF n m=0
 |0,_,h,_=>by omega
 |n+1,m,_,h=>by
  rw[detF,sumR_first,h 0 (by omega),sumR_congr (g:=fun _=>0) fun k hk=>?_,sumR_zero]
  ·grind
  ·rw[detF_col0 n _ (by omega) fun i hi=>by
    show m (i+1) (skip (k+1) 0)=0
    rw[show skip (k+1) 0=0 by unfold skip;rw[if_pos (by omega)]]
    exact h (i+1) (by omega)]
   grind
/-- a first column with one number at its head -/
theorem detF_head{n:Nat}{m:Mx}(h:∀i,i<n→m (i+1) 0=0):detF (n+1) m=m 0 0*detF n fun i j=>m (i+1) (j+1):=by
 rw[detF,sumR_first,sumR_congr (g:=fun _=>0) fun k hk=>?_,sumR_zero]
 ·rw[show sgd 0=1 from rfl,show(fun i j=>m (i+1) (skip 0 j))=fun i j=>m (i+1) (j+1)from rfl]
  grind
 ·rw[detF_col0 n _ (by omega) fun i hi=>by
   show m (i+1) (skip (k+1) 0)=0
   rw[show skip (k+1) 0=0 by unfold skip;rw[if_pos (by omega)]]
   exact h i hi]
  grind
/-- multiples of the first row added to the next ones, up to i -/
theorem detF_clear{n:Nat}{m:Mx}(p:Nat→Rat):∀(i:Nat),i<n→detF n (fun r j=>if 0<r∧r≤i then m r j+p r*m 0 j else m r j)=detF n m
 |0,_=>detF_congr fun r j _ _=>if_neg (by omega)
 |i+1,h=>by
  refine Eq.trans ?_ (detF_clear p i (by omega))
  refine Eq.trans (detF_congr fun r j hr hj=>?_) (detF_addrow (r:=i) (p (i+1)) h)
  unfold upd
  grind
end Go.Ex

/- Elimination without exchanges, and determinants. Plain. -/
namespace Go.Ex
/-- the determinant of rows and columns from c on, below n -/
def subD(M:List (List Rat))(c n:Nat):Rat:=detF (n-c) fun i j=>at2 M (c+i) (c+j)
/-- rows behind c, less the multiple of the row c that clears the column c, up to i -/
def elimTo(M:List (List Rat))(c i:Nat):List (List Rat):=M.mapIdx fun j r=>if c<j∧j<i then r.mapIdx (addR (-(r.getD c 0 / at2 M c c)) (M.getD c []))else r
theorem subD_done(M:List (List Rat))(n:Nat):subD M n n=1:=by unfold subD;rw[Nat.sub_self];rfl
theorem elimTo_length(M:List (List Rat))(c i:Nat):(elimTo M c i).length=M.length:=by simp[elimTo]
theorem elimTo_start(M:List (List Rat))(c i:Nat)(h:i≤c+1):elimTo M c i=M:=by
 refine List.ext_getElem? fun j=>?_
 unfold elimTo
 rw[List.getElem?_mapIdx]
 cases M[j]? with
 |none=>rfl
 |some r=>simp only[Option.map_some];rw[if_neg (by omega)]
theorem elimTo_at(M:List (List Rat))(c i j:Nat)(h:j≤c∨i≤j):(elimTo M c i)[j]? =M[j]? :=by
 unfold elimTo
 rw[List.getElem?_mapIdx]
 cases M[j]? with
 |none=>rfl
 |some r=>simp only[Option.map_some];rw[if_neg (by omega)]
theorem elimTo_succ{M:List (List Rat)}{c i:Nat}{r:List Rat}(h:M[i]? =some r)(hc:c<i):(elimTo M c i).set i (r.mapIdx (addR (-(r.getD c 0 / at2 M c c)) (M.getD c [])))=elimTo M c (i+1):=by
 have hl:=(List.getElem?_eq_some_iff.1 h).1
 refine List.ext_getElem? fun j=>?_
 by_cases hij:i=j
 ·subst hij
  rw[List.getElem?_set_self (by rw[elimTo_length];exact hl)]
  unfold elimTo
  rw[List.getElem?_mapIdx,h]
  simp only[Option.map_some]
  rw[if_pos (by omega)]
 ·rw[List.getElem?_set_ne hij]
  unfold elimTo
  rw[List.getElem?_mapIdx,List.getElem?_mapIdx]
  cases M[j]? with
  |none=>rfl
  |some r=>
   simp only[Option.map_some]
   by_cases hj:c<j∧j<i
   ·rw[if_pos hj,if_pos (by omega)]
   ·rw[if_neg hj,if_neg (by omega)]
theorem getD_addR'{p:Rat}{r s:List Rat}{c:Nat}(h:c<r.length):(r.mapIdx (addR p s)).getD c 0=r.getD c 0+p*s.getD c 0:=by
 simp only[List.getD,List.getElem?_mapIdx,List.getElem?_eq_getElem h]
 rfl
theorem elimTo_at2{M:List (List Rat)}{c n i j:Nat}(hl:Len n M)(hi:i<M.length)(hc:c<i)(hj:j<n){k:Nat}(hik:i<k):at2 (elimTo M c k) i j=at2 M i j+ -(at2 M i c / at2 M c c)*at2 M c j:=by
 have h1:M[i]? =some M[i]:=List.getElem?_eq_getElem hi
 have h2:(M[i]).length=n:=hl _ (List.getElem_mem hi)
 show((elimTo M c k).getD i []).getD j 0=_
 have h3:(elimTo M c k).getD i []=(M[i]).mapIdx (addR (-((M[i]).getD c 0 / at2 M c c)) (M.getD c [])):=by
  rw[List.getD,elimTo,List.getElem?_mapIdx,h1]
  simp only[Option.map_some,Option.getD_some]
  rw[if_pos ⟨hc,hik⟩]
 rw[h3,getD_addR' (by omega)]
 have h4:M.getD i []=M[i]:=by rw[List.getD,h1];rfl
 unfold at2
 rw[h4]
theorem elimTo_at2'{M:List (List Rat)}{c i j k:Nat}(h:i≤c∨k≤i):at2 (elimTo M c k) i j=at2 M i j:=by
 unfold at2
 rw[show (elimTo M c k).getD i []=M.getD i [] by simp only[List.getD,elimTo_at M c k i h]]
/-- a step of the elimination -/
theorem subD_elim{M:List (List Rat)}{c n w:Nat}(hl:Len w M)(hw:n≤w)(hn:n≤M.length)(hc:c<n)(h0:at2 M c c≠0){k:Nat}(hk:n≤k):subD M c n=at2 M c c*subD (elimTo M c k) (c+1) n:=by
 obtain⟨d,hd⟩:∃d,n=c+1+d:=⟨n-(c+1),by omega⟩
 subst hd
 unfold subD
 rw[show c+1+d-c=d+1 by omega,show c+1+d-(c+1)=d by omega]
 rw[←detF_clear (fun r=> -(at2 M (c+r) c / at2 M c c)) d (by omega),detF_head fun i hi=>?_]
 ·simp only[Nat.add_zero]
  rw[if_neg (by omega)]
  congr 1
  refine detF_congr fun i j hi hj=>?_
  rw[if_pos (by omega),show c+1+i=c+(i+1) by omega,show c+1+j=c+(j+1) by omega,elimTo_at2 (i:=c+(i+1)) hl (by omega) (by omega) (by omega) (by omega)]
 ·simp only[Nat.add_zero]
  rw[if_pos (by omega),Rat.neg_mul,Rat.div_mul_cancel h0]
  grind
theorem subD_swap{M:List (List Rat)}{c n k:Nat}(hk:c<k)(hn:k<n)(hl:n≤M.length):subD (swapL [] M c k) c n= -subD M c n:=by
 obtain⟨d,hd⟩:∃d,k=c+(d+1):=⟨k-c-1,by omega⟩
 subst hd
 unfold subD
 rw[←detF_swap (k:=d) (by omega)]
 refine detF_congr fun i j hi hj=>?_
 unfold at2
 congr 1
 simp only[List.getD]
 unfold swp swapL
 by_cases h0:i=0
 ·subst h0
  simp only[Nat.add_zero,if_pos]
  rw[List.getElem?_set_ne (by omega),List.getElem?_set_self (by omega),List.getD,List.getElem?_eq_getElem (by omega)]
  rfl
 ·rw[if_neg h0]
  by_cases h1:i=d+1
  ·subst h1
   simp only[Nat.add_zero,if_pos]
   rw[List.getElem?_set_self (by simp;omega),List.getD,List.getElem?_eq_getElem (show c<M.length by omega)]
   rfl
  ·rw[if_neg h1,List.getElem?_set_ne (by omega),List.getElem?_set_ne (by omega)]
theorem subD_zero{M:List (List Rat)}{c n:Nat}(hc:c<n)(h:∀j,c≤j→j<n→at2 M j c=0):subD M c n=0:=
 detF_col0 _ _ (by omega) fun i hi=>h (c+i) (by omega) (by omega)
theorem elimTo_len{M:List (List Rat)}{w c k:Nat}(hl:Len w M):Len w (elimTo M c k):=fun r hr=>by
 obtain⟨i,hi⟩:=List.getElem?_of_mem hr
 unfold elimTo at hi
 rw[List.getElem?_mapIdx]at hi
 cases hx:M[i]? with
 |none=>rw[hx]at hi;cases hi
 |some x=>
  rw[hx]at hi
  injection hi with hi
  subst hi
  have:=hl x (List.mem_of_getElem? hx)
  split
  ·rw[List.length_mapIdx];exact this
  ·exact this
end Go.Ex

/- Elimination without exchanges: sizes, leading minors. Plain. -/
namespace Go.Ex
theorem at2_ht'{M:List (List Rat)}{h:Nat}(H:Ht M h)(h2:2≤h)(i j:Nat):rl (at2 M i j)+1≤h:=by
 show rl ((M.getD i []).getD j 0)+1≤h
 refine rl_getD (fun q hq=>?_) h2 j
 cases hy:M[i]? with
 |none=>rw[show M.getD i []=[] by simp[List.getD,hy]]at hq;cases hq
 |some y=>rw[show M.getD i []=y by simp[List.getD,hy]]at hq;exact H.at hy q hq
theorem Ht.elim{M:List (List Rat)}{h c k:Nat}(H:Ht M h)(h2:2≤h)(h0:at2 M c c≠0):Ht (elimTo M c k) (4*h):=fun r hr q hq=>by
 obtain⟨i,hi⟩:=List.getElem?_of_mem hr
 unfold elimTo at hi
 rw[List.getElem?_mapIdx]at hi
 cases hx:M[i]? with
 |none=>rw[hx]at hi;cases hi
 |some x=>
  rw[hx]at hi
  injection hi with hi
  subst hi
  have hxq:=H.at hx
  have hc:∀j,rl ((M.getD c []).getD j 0)+1≤h:=at2_ht' H h2 c
  split at hq
  ·obtain⟨j,hj⟩:=List.getElem?_of_mem hq
   rw[List.getElem?_mapIdx]at hj
   cases hy:x[j]? with
   |none=>rw[hy]at hj;cases hj
   |some y=>
    rw[hy]at hj
    injection hj with hj
    subst hj
    have h3:=hxq y (List.mem_of_getElem? hy)
    have h4:=hc j
    have h5:=hc c
    have h6:=rl_getD hxq h2 c
    have h7:=rl_div (x.getD c 0) h0
    have h8:=rl_neg (x.getD c 0 / at2 M c c)
    have h9:=rl_mul (-(x.getD c 0 / at2 M c c)) ((M.getD c []).getD j 0)
    have h10:=rl_add y (-(x.getD c 0 / at2 M c c)*(M.getD c []).getD j 0)
    have h11:rl (at2 M c c)+1≤h:=h5
    show rl (y+ -(x.getD c 0 / at2 M c c)*(M.getD c []).getD j 0)+1≤4*h
    omega
  ·have:=hxq q hq;omega
/-- the leading minors -/
def minorsF(M:List (List Rat)):List Rat:=(List.range M.length).map fun k=>subD M 0 (k+1)
theorem minorsF_length(M:List (List Rat)):(minorsF M).length=M.length:=by simp[minorsF]
theorem minorsF_get{M:List (List Rat)}{k:Nat}(h:k<M.length):(minorsF M)[k]? =some (subD M 0 (k+1)):=by
 rw[minorsF,List.getElem?_map,List.getElem?_range h];rfl
theorem subD_congr{M N:List (List Rat)}{c n:Nat}(h:∀i j,c≤i→i<n→c≤j→j<n→at2 M i j=at2 N i j):subD M c n=subD N c n:=
 detF_congr fun i j hi hj=>h (c+i) (c+j) (by omega) (by omega) (by omega) (by omega)
/-- the first n rows, and of them the first n elements -/
theorem subD_prefix{M:List (List Rat)}{n:Nat}:subD (tk n (M.take n)) 0 n=subD M 0 n:=subD_congr fun i j _ hi _ hj=>by
 rw[at2_tk hj]
 unfold at2
 rw[show (M.take n).getD i []=M.getD i [] by simp[List.getD,List.getElem?_take,hi]]
end Go.Ex

/- Positive definite matrices: the form is positive just if the leading minors are; the product of the diagonal is at least the determinant; sums of squares. Plain. -/
namespace Go.Ex
theorem sumR_mulr(f:Nat→Rat)(p:Rat)(n:Nat):sumR (fun k=>f k*p) n=sumR f n*p:=by
 rw[Rat.mul_comm,←sumR_mul];exact sumR_congr fun k _=>Rat.mul_comm ..
theorem sumR_sub(f g:Nat→Rat):∀(n:Nat),sumR (fun k=>f k-g k) n=sumR f n-sumR g n
 |0=>by show(0:Rat)=0-0;grind
 |n+1=>by rw[sumR,sumR,sumR,sumR_sub f g n];grind
theorem sumR_one{f:Nat→Rat}{i:Nat}:∀{n:Nat},i<n→(∀k,k<n→k≠i→f k=0)→sumR f n=f i
 |0,h,_=>by omega
 |n+1,h,hz=>by
  rw[sumR]
  rcases Nat.lt_or_ge i n with h1|h1
  ·rw[sumR_one h1 fun k hk hne=>hz k (by omega) hne,hz n (by omega) (by omega),Rat.add_zero]
  ·obtain rfl:i=n:=by omega
   rw[sumR_congr (g:=fun _=>0) fun k hk=>hz k (by omega) (by omega),sumR_zero,Rat.zero_add]
/-- the form -/
def qf(m:Mx)(x:Nat→Rat)(n:Nat):Rat:=sumR (fun i=>x i*sumR (fun j=>m i j*x j) n) n
def sch(m:Mx):Mx:=fun i j=>m (i+1) (j+1)-m (i+1) 0 / m 0 0*m 0 (j+1)
def Sy(m:Mx)(n:Nat):Prop:=∀i j,i<n→j<n→m i j=m j i
def Po(m:Mx)(n:Nat):Prop:=∀k,k<n→0<detF (k+1) m
def Qp(m:Mx)(n:Nat):Prop:=∀x:Nat→Rat,(∃i,i<n∧x i≠0)→0<qf m x n
theorem det_schur{n:Nat}{m:Mx}(h0:m 0 0≠0):detF (n+1) m=m 0 0*detF n (sch m):=by
 rw[←detF_clear (fun r=> -(m r 0 / m 0 0)) n (by omega),detF_head fun i hi=>?_]
 ·rw[if_neg (by omega)]
  congr 1
  refine detF_congr fun i j hi hj=>?_
  rw[if_pos (by omega)]
  unfold sch
  grind
 ·rw[if_pos (by omega),Rat.neg_mul,Rat.div_mul_cancel h0]
  grind
theorem Sy.sch{m:Mx}{n:Nat}(h:Sy m (n+1)):Sy (sch m) n:=fun i j hi hj=>by
 unfold Go.Ex.sch
 rw[h (i+1) (j+1) (by omega) (by omega),h (i+1) 0 (by omega) (by omega),h (j+1) 0 (by omega) (by omega)]
 rw[Rat.div_def,Rat.div_def]
 grind
theorem qf_schur{m:Mx}{n:Nat}(hs:Sy m (n+1))(h0:m 0 0≠0)(x:Nat→Rat):
  qf m x (n+1)=m 0 0*((x 0+sumR (fun j=>m 0 (j+1)*x (j+1)) n / m 0 0)*(x 0+sumR (fun j=>m 0 (j+1)*x (j+1)) n / m 0 0))+qf (sch m) (fun i=>x (i+1)) n:=by
 obtain⟨T,hT⟩:∃T,T=sumR (fun j=>m 0 (j+1)*x (j+1)) n:=⟨_,rfl⟩
 obtain⟨S,hS⟩:∃S,S=sumR (fun i=>x (i+1)*sumR (fun j=>m (i+1) (j+1)*x (j+1)) n) n:=⟨_,rfl⟩
 have e1:qf m x (n+1)=x 0*(m 0 0*x 0+T)+(x 0*T+S):=by
  unfold qf
  rw[sumR_first,sumR_first,←hT]
  congr 1
  have:sumR (fun k=>x (k+1)*sumR (fun j=>m (k+1) j*x j) (n+1)) n=sumR (fun k=>x 0*(m 0 (k+1)*x (k+1))+x (k+1)*sumR (fun j=>m (k+1) (j+1)*x (j+1)) n) n:=
   sumR_congr fun k hk=>by rw[sumR_first,hs (k+1) 0 (by omega) (by omega)];grind
  rw[this,sumR_add,sumR_mul,←hT,←hS]
 have e2:qf (sch m) (fun i=>x (i+1)) n=S-T*T / m 0 0:=by
  unfold qf
  have:∀k,k<n→x (k+1)*sumR (fun j=>sch m k j*x (j+1)) n=x (k+1)*sumR (fun j=>m (k+1) (j+1)*x (j+1)) n-(m 0 (k+1)*x (k+1))*(T / m 0 0):=fun k hk=>by
   have h3:sumR (fun j=>sch m k j*x (j+1)) n=sumR (fun j=>m (k+1) (j+1)*x (j+1)) n-m (k+1) 0 / m 0 0*T:=by
    rw[hT,←sumR_mul,←sumR_sub]
    exact sumR_congr fun j _=>by unfold sch;grind
   rw[h3,hs (k+1) 0 (by omega) (by omega),Rat.div_def,Rat.div_def]
   grind
  rw[sumR_congr this,sumR_sub,sumR_mulr,←hS,←hT,Rat.div_def,Rat.div_def]
  grind
 rw[e1,e2,←hT]
 have h4:m 0 0*(m 0 0)⁻¹=1:=Rat.mul_inv_cancel _ h0
 rw[Rat.div_def,Rat.div_def]
 grind
theorem sq_nonneg(x:Rat):0≤x*x:=by
 rcases Rat.le_total (a:=0) (b:=x)with h|h
 ·exact Rat.mul_nonneg h h
 ·have:=Rat.mul_nonneg (show 0≤ -x by grind) (show 0≤ -x by grind)
  grind
theorem sq_pos{x:Rat}(h:x≠0):0<x*x:=by
 have h1:=sq_nonneg x
 have h2:x*x≠0:=fun e=>(Rat.mul_eq_zero.1 e).elim h h
 grind
theorem Po.head{m:Mx}{n:Nat}(h:Po m (n+1)):0<m 0 0:=by
 have h1:=h 0 (by omega)
 rw[show detF (0+1) m=m 0 0 by show 0+sgd 0*(m 0 0*1)=m 0 0;rw[show sgd 0=1 from rfl];grind]at h1
 exact h1
theorem Po.sch{m:Mx}{n:Nat}(h:Po m (n+1)):Po (sch m) n:=fun k hk=>by
 have h1:=h (k+1) (by omega)
 have h0:=h.head
 rw[det_schur (by grind)]at h1
 refine Decidable.byContradiction fun h2=>?_
 have:=Rat.mul_nonneg (Rat.le_of_lt h0) (show 0≤ -(detF (k+1) (Go.Ex.sch m)) by grind)
 grind
theorem po_q:∀(n:Nat) (m:Mx),Sy m n→Po m n→Qp m n
 |0,_,_,_,x,⟨i,hi,_⟩=>by omega
 |n+1,m,hs,hp,x,⟨i,hi,hx⟩=>by
  have h0:=hp.head
  have ih:=po_q n (sch m) hs.sch hp.sch
  rw[qf_schur hs (by grind)]
  by_cases hz:∃j,j<n∧x (j+1)≠0
  ·have h1:=ih (fun i=>x (i+1)) hz
   have h2:=Rat.mul_nonneg (Rat.le_of_lt h0) (sq_nonneg (x 0+sumR (fun j=>m 0 (j+1)*x (j+1)) n / m 0 0))
   grind
  ·have hz:∀j,j<n→x (j+1)=0:=fun j hj=>Decidable.byContradiction fun h=>hz ⟨j,hj,h⟩
   have hx0:x 0≠0:=by
    cases i with
    |zero=>exact hx
    |succ i=>exact absurd (hz i (by omega)) hx
   rw[sumR_congr (g:=fun _=>0) fun j hj=>by rw[hz j hj,Rat.mul_zero],sumR_zero]
   have h1:qf (sch m) (fun i=>x (i+1)) n=0:=by
    unfold qf
    rw[sumR_congr (g:=fun _=>0) fun j hj=>by show x (j+1)*_=0;rw[hz j hj,Rat.zero_mul],sumR_zero]
   rw[h1,Rat.div_def,Rat.zero_mul,Rat.add_zero,Rat.add_zero]
   exact Rat.mul_pos h0 (sq_pos hx0)
theorem qf_unit{m:Mx}{n i:Nat}(hi:i<n):qf m (fun j=>if j=i then 1 else 0) n=m i i:=by
 unfold qf
 rw[sumR_one hi fun k _ hne=>by simp only[if_neg hne,Rat.zero_mul],sumR_one hi fun k _ hne=>by simp only[if_neg hne,Rat.mul_zero]]
 simp only[if_pos]
 grind
theorem Qp.diag{m:Mx}{n i:Nat}(h:Qp m n)(hi:i<n):0<m i i:=by
 have:=h (fun j=>if j=i then 1 else 0) ⟨i,hi,by rw[if_pos rfl];decide⟩
 rwa [qf_unit hi]at this
theorem q_po:∀(n:Nat) (m:Mx),Sy m n→Qp m n→Po m n
 |0,_,_,_,k,hk=>by omega
 |n+1,m,hs,hq,k,hk=>by
  have h0:=hq.diag (show 0<n+1 by omega)
  have ih:=q_po n (sch m) hs.sch fun y ⟨i,hi,hy⟩=>by
   have h1:=hq (fun j=>match j with
    |0=> -(sumR (fun j=>m 0 (j+1)*y j) n / m 0 0)
    |j+1=>y j) ⟨i+1,by omega,hy⟩
   rw[qf_schur hs (by grind)]at h1
   simp only[]at h1
   have h2: -(sumR (fun j=>m 0 (j+1)*y j) n / m 0 0)+sumR (fun j=>m 0 (j+1)*y j) n / m 0 0=0:=by grind
   rw[h2]at h1
   have h3:m 0 0*(0*0)=(0:Rat):=by grind
   rw[h3,Rat.zero_add]at h1
   exact h1
  rw[det_schur (by grind)]
  cases k with
  |zero=>show 0<m 0 0*1;rw[Rat.mul_one];exact h0
  |succ k=>exact Rat.mul_pos h0 (ih k (by omega))
def prodR(f:Nat→Rat):Nat→Rat
 |0=>1
 |n+1=>prodR f n*f n
theorem prodR_first(f:Nat→Rat):∀(n:Nat),prodR f (n+1)=f 0*prodR (fun k=>f (k+1)) n
 |0=>by show 1*f 0=f 0*1;grind
 |n+1=>by rw[prodR,prodR_first f n,prodR];grind
theorem prodR_le{f g:Nat→Rat}:∀(n:Nat),(∀k,k<n→0≤f k∧f k≤g k)→0≤prodR f n∧prodR f n≤prodR g n
 |0,_=>⟨by show(0:Rat)≤1;decide,Rat.le_refl⟩
 |n+1,h=>by
  obtain⟨h1,h2⟩:=prodR_le n fun k hk=>h k (by omega)
  obtain⟨h3,h4⟩:=h n (by omega)
  refine⟨Rat.mul_nonneg h1 h3,?_⟩
  show prodR f n*f n≤prodR g n*g n
  have h5:=Rat.mul_le_mul_of_nonneg_right h2 h3
  have h6:=Rat.mul_le_mul_of_nonneg_left h4 (Rat.le_trans h1 h2)
  exact Rat.le_trans h5 h6
/-- Hadamard -/
theorem hadamard:∀(n:Nat) (m:Mx),Sy m n→Po m n→detF n m≤prodR (fun j=>m j j) n
 |0,_,_,_=>Rat.le_refl
 |n+1,m,hs,hp=>by
  have h0:=hp.head
  have hq:=po_q n (sch m) hs.sch hp.sch
  have ih:=hadamard n (sch m) hs.sch hp.sch
  have h1:=(prodR_le (f:=fun j=>sch m j j) (g:=fun j=>m (j+1) (j+1)) n fun k hk=>⟨Rat.le_of_lt (hq.diag hk),by
   unfold sch
   have h3:=hs (k+1) 0 (by omega) (by omega)
   rw[h3,Rat.div_def]
   have h4:=sq_nonneg (m 0 (k+1))
   have h5:=Rat.mul_nonneg h4 (Rat.le_of_lt (Rat.inv_pos.2 h0))
   grind⟩).2
  rw[det_schur (by grind),prodR_first]
  exact Rat.mul_le_mul_of_nonneg_left (Rat.le_trans ih h1) (Rat.le_of_lt h0)
end Go.Ex

/- The reference's integers: columns, Int, Minus, Size, at, Sum, Diff, Sign, CmpInt. Printed by program. No condition but sizes. -/
namespace Go.Ex
open Go Go.Sx Go.Proofs

/-- an integer with at most so many limbs -/
def IntL(w:World)(S:Nat→Prop)(v:Value)(k:Nat)(z:Int):Prop:=∃neg ls,IntV w S v neg ls∧sg neg (val ls)=z∧ls.length≤k
theorem IntL.keep{S:Nat→Prop}{w w2:World}{v:Value}{k:Nat}{z:Int}(h:IntL w S v k z)(hk:∀g,S g→w2.heap[g]? =w.heap[g]?):IntL w2 S v k z:=by
 obtain⟨n,l,h1,h2⟩:=h;exact⟨n,l,h1.keep hk,h2⟩
theorem IntL.weak{S S':Nat→Prop}{w:World}{v:Value}{k:Nat}{z:Int}(h:IntL w S v k z)(hk:∀g,S g→S' g):IntL w S' v k z:=by
 obtain⟨n,l,h1,h2⟩:=h;exact⟨n,l,h1.weak hk,h2⟩
theorem IntL.r{S:Nat→Prop}{w:World}{v:Value}{k:Nat}{z:Int}(h:IntL w S v k z):IntR w S v z:=by
 obtain⟨n,l,h1,h2,_⟩:=h;exact⟨n,l,h1,h2⟩
theorem IntL.up{S:Nat→Prop}{w:World}{v:Value}{k k':Nat}{z:Int}(h:IntL w S v k z)(hk:k≤k'):IntL w S v k' z:=by
 obtain⟨n,l,h1,h2,h3⟩:=h;exact⟨n,l,h1,h2,by omega⟩
theorem IntL.shape{S:Nat→Prop}{w:World}{v:Value}{k:Nat}{z:Int}(h:IntL w S v k z):∃b a n c,v= .agg #[.bool b,.slice a n c]:=h.r.shape
theorem IntC.l{S:Nat→Prop}{w:World}{v:Value}{k:Nat}{z:Int}(h:IntC w S v z)(hk:ln z.natAbs≤k):IntL w S v k z:=by
 obtain⟨l,h1,h2,h3⟩:=h
 obtain⟨_,_,hl⟩:=h1
 have:=length_ln hl.lm h2
 rw[h3]at this
 exact⟨_,l,⟨_,‹_›,hl⟩,by rw[h3,sg_natAbs],by omega⟩
section
variable{S S':Nat→Prop}{H:Hp}{nx:Nat}{iv iv':Iv}{B:Nat}{w w' w2:World}{ρ:Nat→Sx.Val}{v:Value}{k:Nat}{z:Int}
theorem IntL.rel(h:IntL w (Cv S B iv) v k z)(r:Rel H nx iv B w ρ w')(hS:∀g,S g→g<B):IntL w' (Cv S B iv) v k z:=h.keep fun _ hg=>Rel.same r hS hg
theorem IntL.past(h:IntL w (Cv S B iv) v k z)(r:Rel H nx iv B w ρ w')(hS:∀g,S g→g<B)(he:Ext w' w2)(hm:∀p,p∈iv→p∈iv'):IntL w2 (Cv S B iv') v k z:=
 ((h.rel r hS).keep fun g hg=>he.block g (Rel.old r hS g hg)).weak fun _ hg=>hg.mono hm
end
section
variable{S S':Nat→Prop}{H:Hp}{nx:Nat}{iv iv':Iv}{B:Nat}{w w' w2:World}{ρ:Nat→Sx.Val}{v:Value}{cs:List Int}
theorem ColsR.rel(h:ColsR w (Cv S B iv) v cs)(r:Rel H nx iv B w ρ w')(hS:∀g,S g→g<B):ColsR w' (Cv S B iv) v cs:=ColsR.keep h fun _ hg=>Rel.same r hS hg
theorem ColsR.past(h:ColsR w (Cv S B iv) v cs)(r:Rel H nx iv B w ρ w')(hS:∀g,S g→g<B)(he:Ext w' w2)(hm:∀p,p∈iv→p∈iv'):ColsR w2 (Cv S B iv') v cs:=
 (ColsR.keep (h.rel r hS) fun g hg=>he.block g (Rel.old r hS g hg)).weak fun _ hg=>hg.mono hm
theorem ColsR.got(h:ColsR w2 (Nw (fun _=>False) w' w2) v cs)(hB:B≤w'.heap.size)(hm:(w'.heap.size,w2.heap.size)∈iv):ColsR w2 (Cv S B iv) v cs:=ColsR.weak h fun _ hg=>hg.got hB hm
end

def sgn(b:Bool):Int:=if b then -1 else 1
theorem sgn_or(b:Bool):sgn b=1∨sgn b= -1:=by cases b<;>simp[sgn]
theorem sgn_val(b:Bool)(n:Nat):sgn b*(n:Int)=sg b n:=by cases b<;>simp[sgn,sg]
theorem rcolumns_c{S:Nat→Prop}{w:World}{v:Value}{neg:Bool}{ls:List Nat}(hS:Old S w)(h:IntV w S v neg ls)(hl:ls.length≤40000000):
  Con PG N.ref01_columns #[v] w (Ret w fun v' w2=>ColsR w2 (Nw (fun _=>False) w w2) v' (limbCols (sgn neg) ls)):=by
 obtain⟨lv,rfl,hL⟩:=h
 have hlm:=hL.lm
 obtain⟨a,c,rfl,hc,hcell⟩:=hL.sl
 refine in_ref01_columns (by simp) ?_
 conv=>whnf
 cases neg with
 |true=>
  conv=>whnf
  refine⟨Nat×World,fun z=>⟨[(1,.o (.p 0 0)),(3,.o (.v (.int .i64 (-1)))),(4,.o (.w 1 (2*z.1))),(5,.o (.v (.int .i64 z.1)))],[(1,.vec T.int 1 ((limbCols (-1) (ls.take z.1)).map (Value.int .i64))),(0,.box T.Int [.v (.bool true),.v (.slice a ls.length c)])],2,[],z.2⟩,fun z=>ls.length-z.1,
   fun z=>Bel w.heap.size w z.2∧z.1≤ls.length,?_,?_⟩
  ·intro ρ w' r
   exact⟨(0,w'),⟨r.bel,by simp⟩,Sub.nil 4 T.int 1 rfl (by simp[ScE,SV.sc,At.sc,initE]) r fun ρ1 r1=>
    Sub.gen [] r1 ⟨rfl,rfl,trivial⟩ ⟨rfl,rfl,rfl,rfl,trivial⟩ (by simp[ScH,Blk.scopd,At.sc]) (by simp[ScE,SV.sc,At.sc]) (by rfl) (by simp)⟩
  rintro⟨i,w1⟩ ⟨hw,hi⟩
  dsimp only at hw hi ⊢
  have hln:((limbCols (-1) (ls.take i)).map (Value.int .i64)).length=2*i:=by rw[List.length_map,limbCols_length,List.length_take];omega
  conv=>whnf
  refine BrS.mk (fun h=>?_) (fun h=>?_)
  ·have h:i<ls.length:=by simpa using h
   obtain⟨x,hx⟩:∃x,ls[i]? =some x:=⟨_,List.getElem?_eq_getElem h⟩
   have hx32:=hlm x (List.mem_of_getElem? hx)
   obtain⟨ad,rfl,q1,q2⟩:=hcell i x hx
   have htk:limbCols (-1) (ls.take (i+1))=limbCols (-1) (ls.take i)++[(-1)*((x % 65536:Nat):Int),(-1)*((x / 65536:Nat):Int)]:=by rw[List.take_add_one,hx,Option.toList_some,limbCols_append];rfl
   conv=>whnf
   refine⟨ad,rfl,⟨by omega,by omega⟩,?_⟩
   conv=>whnf
   refine⟨.int .u32 x,fun ρ w' r=>?_,?_⟩
   ·rw[Int.toNat_natCast,Nat.mul_one];exact cellS hS hw r q1 q2
   conv=>whnf
   refine⟨(x:Int),by rw[wrap64]<;>omega,?_⟩
   conv=>whnf
   refine⟨by decide,((x % 65536:Nat):Int),rfl,?_⟩
   conv=>whnf
   refine⟨(-1)*((x % 65536:Nat):Int),by rw[wrap64]<;>omega,?_⟩
   conv=>whnf
   refine⟨by decide,((x / 65536:Nat):Int),by rw[show (x:Int).tdiv 65536=((x / 65536:Nat):Int)from rfl,wrap64]<;>omega,?_⟩
   conv=>whnf
   refine⟨(-1)*((x / 65536:Nat):Int),by rw[wrap64]<;>omega,?_⟩
   conv=>whnf
   refine .inl ?_
   conv=>whnf
   refine⟨by rw[hln,Nat.mul_one],by omega,by unfold maxLen;omega,?_⟩
   conv=>whnf
   refine⟨((i+1:Nat):Int),by rw[wrap64]<;>omega,?_⟩
   conv=>whnf
   intro ρ3 w3 r3
   have hm5:(limbCols (-1) (ls.take (i+1))).map (Value.int .i64)=(limbCols (-1) (ls.take i)).map (Value.int .i64)++[.int .i64 ((-1)*((x % 65536:Nat):Int)),.int .i64 ((-1)*((x / 65536:Nat):Int))]:=by
    rw[htk];simp
   exact⟨(i+1,w3),⟨hw.tr r3.bel,by dsimp only;omega⟩,Sub.gen [(1,3)] r3 ⟨by dsimp only;rw[hm5];rfl,rfl,trivial⟩ ⟨rfl,rfl,rfl,rfl,trivial⟩ (by simp[ScH,Blk.scopd,At.sc]) (by simp[ScE,SV.sc,At.sc]) (by rfl) (fun lo hi h=>h),by dsimp only;omega⟩
  have h:i=ls.length:=by
   have:¬i<ls.length:=by simpa using h
   omega
  subst h
  rw[List.take_length]at hln ⊢
  conv=>whnf
  intro ρe we re
  have hrow:=re.vecRow (id:=1) (m:=2*ls.length) rfl (by rw[hln,Nat.mul_one]) (by decide)
  have hcols:=rowCols hrow (by rw[limbCols_length]) (by unfold maxLen;omega)
  refine⟨_,rfl,hw.tr re.bel,ColsR.weak hcols fun g hg=>.inr ?_⟩
  have:=ownsRow.low hrow g hg
  exact this
 |false=>
  conv=>whnf
  refine⟨Nat×World,fun z=>⟨[(1,.o (.p 0 0)),(3,.o (.v (.int .i64 (1)))),(4,.o (.w 1 (2*z.1))),(5,.o (.v (.int .i64 z.1)))],[(1,.vec T.int 1 ((limbCols (1) (ls.take z.1)).map (Value.int .i64))),(0,.box T.Int [.v (.bool false),.v (.slice a ls.length c)])],2,[],z.2⟩,fun z=>ls.length-z.1,
   fun z=>Bel w.heap.size w z.2∧z.1≤ls.length,?_,?_⟩
  ·intro ρ w' r
   exact⟨(0,w'),⟨r.bel,by simp⟩,Sub.nil 4 T.int 1 rfl (by simp[ScE,SV.sc,At.sc,initE]) r fun ρ1 r1=>
    Sub.gen [] r1 ⟨rfl,rfl,trivial⟩ ⟨rfl,rfl,rfl,rfl,trivial⟩ (by simp[ScH,Blk.scopd,At.sc]) (by simp[ScE,SV.sc,At.sc]) (by rfl) (by simp)⟩
  rintro⟨i,w1⟩ ⟨hw,hi⟩
  dsimp only at hw hi ⊢
  have hln:((limbCols (1) (ls.take i)).map (Value.int .i64)).length=2*i:=by rw[List.length_map,limbCols_length,List.length_take];omega
  conv=>whnf
  refine BrS.mk (fun h=>?_) (fun h=>?_)
  ·have h:i<ls.length:=by simpa using h
   obtain⟨x,hx⟩:∃x,ls[i]? =some x:=⟨_,List.getElem?_eq_getElem h⟩
   have hx32:=hlm x (List.mem_of_getElem? hx)
   obtain⟨ad,rfl,q1,q2⟩:=hcell i x hx
   have htk:limbCols (1) (ls.take (i+1))=limbCols (1) (ls.take i)++[(1)*((x % 65536:Nat):Int),(1)*((x / 65536:Nat):Int)]:=by rw[List.take_add_one,hx,Option.toList_some,limbCols_append];rfl
   conv=>whnf
   refine⟨ad,rfl,⟨by omega,by omega⟩,?_⟩
   conv=>whnf
   refine⟨.int .u32 x,fun ρ w' r=>?_,?_⟩
   ·rw[Int.toNat_natCast,Nat.mul_one];exact cellS hS hw r q1 q2
   conv=>whnf
   refine⟨(x:Int),by rw[wrap64]<;>omega,?_⟩
   conv=>whnf
   refine⟨by decide,((x % 65536:Nat):Int),rfl,?_⟩
   conv=>whnf
   refine⟨(1)*((x % 65536:Nat):Int),by rw[wrap64]<;>omega,?_⟩
   conv=>whnf
   refine⟨by decide,((x / 65536:Nat):Int),by rw[show (x:Int).tdiv 65536=((x / 65536:Nat):Int)from rfl,wrap64]<;>omega,?_⟩
   conv=>whnf
   refine⟨(1)*((x / 65536:Nat):Int),by rw[wrap64]<;>omega,?_⟩
   conv=>whnf
   refine .inl ?_
   conv=>whnf
   refine⟨by rw[hln,Nat.mul_one],by omega,by unfold maxLen;omega,?_⟩
   conv=>whnf
   refine⟨((i+1:Nat):Int),by rw[wrap64]<;>omega,?_⟩
   conv=>whnf
   intro ρ3 w3 r3
   have hm5:(limbCols (1) (ls.take (i+1))).map (Value.int .i64)=(limbCols (1) (ls.take i)).map (Value.int .i64)++[.int .i64 ((1)*((x % 65536:Nat):Int)),.int .i64 ((1)*((x / 65536:Nat):Int))]:=by
    rw[htk];simp
   exact⟨(i+1,w3),⟨hw.tr r3.bel,by dsimp only;omega⟩,Sub.gen [(1,3)] r3 ⟨by dsimp only;rw[hm5];rfl,rfl,trivial⟩ ⟨rfl,rfl,rfl,rfl,trivial⟩ (by simp[ScH,Blk.scopd,At.sc]) (by simp[ScE,SV.sc,At.sc]) (by rfl) (fun lo hi h=>h),by dsimp only;omega⟩
  have h:i=ls.length:=by
   have:¬i<ls.length:=by simpa using h
   omega
  subst h
  rw[List.take_length]at hln ⊢
  conv=>whnf
  intro ρe we re
  have hrow:=re.vecRow (id:=1) (m:=2*ls.length) rfl (by rw[hln,Nat.mul_one]) (by decide)
  have hcols:=rowCols hrow (by rw[limbCols_length]) (by unfold maxLen;omega)
  refine⟨_,rfl,hw.tr re.bel,ColsR.weak hcols fun g hg=>.inr ?_⟩
  have:=ownsRow.low hrow g hg
  exact this
end Go.Ex
