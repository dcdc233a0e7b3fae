/- A part of the proof: texts X51 to L11. Each tells its conditions in its theorems. -/
import Derived.Test.YtneljlhlncjkhaaGreatDoorP5
import Derived.Test.YtneljlhlncjkhaaGreatDoorP9
import Derived.Test.YtneljlhlncjkhaaGreatDoorP10
/- The examples that each law of chapter 1 begins with. Printed by program. No condition. -/
namespace Go.Ex
open Go Go.Sx Go.Proofs

def awM:List (List (Int×Int)):=[[(1,1),(2,1)],[(2,1),(4,1)]]
def awB:List (Int×Int):=[(3,1),(6,1)]
theorem aw_err:errS awM awB=0:=by decide +kernel
theorem aw_red:reduceF (allF (valsM awM) (awB.map ratioP)) (colsM awM)=([[1,2,3,1,0],[0,0,0,-2,1]],[0]):=by decide +kernel
theorem aw_few:(∀r∈awM,Few r)∧Few awB:=by unfold Few;decide +kernel
theorem aw_ht:Ht (allF (valsM awM) (awB.map ratioP)) 2:=by unfold Ht;decide +kernel
theorem aw_x:xvecTo [[1,2,3,1,0],[0,0,0,-2,1]] [0] 2 1=[3,0]:=by decide +kernel
theorem aw_k:kernelTo [[1,2,3,1,0],[0,0,0,-2,1]] [0] 2 2=[[-2,1]]:=by decide +kernel
theorem aw_root{r:Nat}(h:IsRoot (2*100*100:Int).natAbs r):r=141:=by
 have h1:=h.1
 have h2:=h.2
 have e:(2*100*100:Int).natAbs=20000:=by decide
 rw[e]at h1 h2
 rcases Nat.lt_trichotomy r 141 with h3|h3|h3
 ·have:=Nat.mul_le_mul (show r+1≤141 by omega) (show r+1≤141 by omega)
  omega
 ·exact h3
 ·have:=Nat.mul_le_mul (show 142≤r by omega) (show 142≤r by omega)
  omega
theorem aw_txt:txt (ratio (Rat.divInt 141 100).num (Rat.divInt 141 100).den)=⟨#[49,52,49,47,49,48,48]⟩:=by decide +kernel
theorem ln_c{z:Int}(h:z.natAbs<4294967296):ln z.natAbs≤10000000000:=Nat.le_trans (ln_le.2 (show z.natAbs<4294967296^1 by omega)) (by decide)
theorem aw_divide{S:Nat→Prop}{w:World}{v u:Value}(hS:Old S w)(hx:IntR w S v (-7))(hy:IntR w S u 2):
  Con PG N.exact_Divide #[v,u] w (Ret w fun v' w2=>∃q r,v'= .tuple #[q,r,.int .i64 0]∧IntC w2 (Nw (fun _=>False) w w2) q (-4)∧IntC w2 (Nw (fun _=>False) w w2) r 1):=
 (pubDivide_c hS hx hy (ln_c (by decide)) (ln_c (by decide))).mono fun _ w2 ⟨v2,e1,e2,e3⟩=>⟨v2,e1,e2,e3.elim (fun h=>absurd h.1 (by decide)) fun h=>h.2⟩
theorem aw_below(w:World):
  Con PG N.exact_RootBelow #[.int .i64 2,.int .i64 100] w (Ret w fun v' w2=>∃q,v'= .tuple #[q,.int .i64 0]∧RatC w2 (Nw (fun _=>False) w w2) q (Rat.divInt 141 100)):=
 (pubRootBelow_c 2 100 w (by decide) (by decide) (by decide) (by decide)).mono fun _ w2 ⟨v2,e1,e2,e3⟩=>⟨v2,e1,e2,e3.elim (fun h=>absurd h.1 (by decide)) fun⟨_,r,q,h1,h2,h3⟩=>⟨q,h2,by
  rw[aw_root h1]at h3
  exact h3⟩⟩
theorem aw_solve{S:Nat→Prop}{w:World}{v u:Value}(hS:Old S w)(h:RatMR w S v awM)(hu:RatsR w S u awB):
  Con PG N.exact_Solve #[v,u] w (Ret w fun v' w2=>∃vx vk,v'= .tuple #[.agg #[.int .i64 0,vx,vk,.slice none 0 0],.int .i64 0]∧RatsC w2 (Nw (fun _=>False) w w2) vx [3,0]∧RatMC w2 (Nw (fun _=>False) w w2) vk [[-2,1]]):=
 (pubSolve_c (h0:=2) hS h hu fun _=>⟨aw_few.1,aw_few.2,aw_ht,by decide,by decide⟩).mono fun _ w2 ⟨v2,e1,e2,e3⟩=>⟨v2,e1,e2,by
  rcases e3 with h|⟨_,s,rfl,A,pv,hA,h⟩
  ·exact absurd aw_err h.1
  ·rw[aw_red]at hA
   injection hA with hA hp
   subst hA hp
   rcases h with⟨j,vp,h1,h2,h3,_⟩|⟨vx,vk,_,rfl,h2,h3⟩
   ·have:j=1:=by
     have:j<2:=h2
     have:1≤j:=h1
     omega
    subst this
    exact absurd (show at2 [[1,2,3,1,0],[0,0,0,-2,1]] 1 2=0 by decide +kernel) h3
   ·refine⟨vx,vk,rfl,?_,?_⟩
    ·have:=aw_x
     rw[←this]
     exact h2
    ·have:=aw_k
     rw[←this]
     exact h3⟩
theorem aw_format{S:Nat→Prop}{w:World}{v:Value}(hS:Old S w)(h:RatC w S v (Rat.divInt 141 100)):
  Con PG N.exact_Format #[v] w (Ret w fun v' _=>v'= .string ⟨#[49,52,49,47,49,48,48]⟩):=by
 have:=pubFormat_c hS h.r (ln_c (by decide +kernel)) (ln_c (by decide +kernel)) (by decide +kernel) (by decide +kernel)
 rw[aw_txt]at this
 exact this
end Go.Ex
namespace Go.Sx
open Go Go.Ex Go.Proofs
theorem Rel.box2{α:Type}{P:World→(Nat→Prop)→List Value→α→Prop}{S':Nat→Prop}{H:Hp}{nx:Nat}{iv:Iv}{B:Nat}{w w':World}{ρ:Nat→Sx.Val}(r:Rel H nx iv B w ρ w'){id t:Nat}{u0 u1 u2 u3 u4 u5 u6 u7:Value}{x y:α}
  (h:getH H id=some (.box t [.v u0,.v u1,.v u2,.v u3,.v u4,.v u5,.v u6,.v u7])) (h1:∀u∈[u0,u1,u2,u3,u4,u5,u6,u7],u.oneCell'=true) (p1:P w' S' [u0,u1,u2,u3] x) (p2:P w' S' [u4,u5,u6,u7] y) (hg:S' (ρ id).g):
  ListR P w' S' (.slice (some ⟨(ρ id).g,0,none⟩) 2 2) [x,y]:=
 ⟨[[u0,u1,u2,u3],[u4,u5,u6,u7]],(r.boxSeq (sz:=4) (n:=2) h rfl (by simp[maxLen]) (fun u hu=>by
  simp only[List.mem_cons,List.not_mem_nil,or_false]at hu
  rcases hu with rfl|rfl|rfl|rfl|rfl|rfl|rfl|rfl<;>exact h1 _ (by simp[At.den]))).weak (fun g hg'=>by rw[hg'];exact hg),rfl,by simp,fun j cs z k1 k2=>by
  match j with
  |0=>simp at k1 k2;subst k1 k2;exact p1
  |1=>simp at k1 k2;subst k1 k2;exact p2
  |j+2=>simp at k1⟩
end Go.Sx
namespace Go.Ex
open Go Go.Sx Go.Proofs
theorem RatC.four{S:Nat→Prop}{w:World}{b b2:Bool}{a a2:Option Addr}{n c n2 c2:Nat}{q:Rat}(h:RatC w S (.agg #[.bool b,.slice a n c,.bool b2,.slice a2 n2 c2]) q):Rat4 w S [.bool b,.slice a n c,.bool b2,.slice a2 n2 c2] (q.num,(q.den:Int)):=
 ⟨b,a,n,c,b2,a2,n2,c2,rfl,h.r⟩
theorem RatC.fourC{S:Nat→Prop}{w:World}{b b2:Bool}{a a2:Option Addr}{n c n2 c2:Nat}{q:Rat}(h:RatC w S (.agg #[.bool b,.slice a n c,.bool b2,.slice a2 n2 c2]) q):Rat4C w S [.bool b,.slice a n c,.bool b2,.slice a2 n2 c2] q:=
 ⟨b,a,n,c,b2,a2,n2,c2,rfl,h⟩
theorem Rel.lt{H:Hp}{nx:Nat}{iv:Iv}{B:Nat}{w w':World}{ρ:Nat→Sx.Val}(r:Rel H nx iv B w ρ w'){id t:Nat}{cs:List At}(h:getH H id=some (.box t cs)):(ρ id).g<w'.heap.size:=(r.low id _ h (r.nn id _ h (by intros;simp) (by simp))).2
theorem awake_c(w:World):Con PG N.law01_awake #[] w (Ret w fun v' _=>v'= .bool true):=by
 have hw:Bel w.heap.size w w:=Bel.refl
 refine in_law01_awake (by simp) ?_
 conv=>whnf
 refine callE_S (callE_con (Φ:=fun _ w' v w2=>IntC w2 (Nw (fun _=>False) w' w2) v (-7)) (fun ρ w' r=>pubOf_c _ w' (by decide) (by decide)) ?_)
 rintro ρ wa1 v1 wb1 r he hb hn
 replace hw:=hw.tr hb
 have hA:=hn.got (S:=fun _=>False) r.baseLe (iv:=(wa1.heap.size,wb1.heap.size)::[]) List.mem_cons_self
 clear r he hb hn
 generalize (wa1.heap.size,wb1.heap.size)::[]=iv1 at*
 obtain⟨s1_0,s1_1,s1_2,s1_3,rfl⟩:=hA.shape
 conv=>whnf
 refine callE_S (callE_con (Φ:=fun _ w' v w2=>IntC w2 (Nw (fun _=>False) w' w2) v 2) (fun ρ w' r=>pubOf_c _ w' (by decide) (by decide)) ?_)
 rintro ρ wa2 v2 wb2 r he hb hn
 replace hw:=hw.tr hb
 replace hA:=hA.past (iv':=(wa2.heap.size,wb2.heap.size)::iv1) r (oldF w) he fun x hx=>List.mem_cons_of_mem _ hx
 have hB:=hn.got (S:=fun _=>False) r.baseLe (iv:=(wa2.heap.size,wb2.heap.size)::iv1) List.mem_cons_self
 clear r he hb hn
 generalize (wa2.heap.size,wb2.heap.size)::iv1=iv2 at*
 obtain⟨s2_0,s2_1,s2_2,s2_3,rfl⟩:=hB.shape
 conv=>whnf
 refine callE_S (callE_con (Φ:=fun _ w' v w2=>∃q r,v= .tuple #[q,r,.int .i64 0]∧IntC w2 (Nw (fun _=>False) w' w2) q (-4)∧IntC w2 (Nw (fun _=>False) w' w2) r 1) (fun ρ w' r=>aw_divide (Rel.old r (oldF w)) (hA.rel r (oldF w)).r (hB.rel r (oldF w)).r) ?_)
 rintro ρ wa3 v3 wb3 r he hb ⟨q,rr,rfl,k1,k2⟩
 replace hw:=hw.tr hb
 clear hA
 clear hB
 have hq:=k1.got (S:=fun _=>False) r.baseLe (iv:=(wa3.heap.size,wb3.heap.size)::iv2) List.mem_cons_self
 have hr:=k2.got (S:=fun _=>False) r.baseLe (iv:=(wa3.heap.size,wb3.heap.size)::iv2) List.mem_cons_self
 clear r he hb
 generalize (wa3.heap.size,wb3.heap.size)::iv2=iv3 at*
 obtain⟨s3_0a,s3_0b,s3_0c,s3_0d,rfl⟩:=hq.shape
 obtain⟨s3_1a,s3_1b,s3_1c,s3_1d,rfl⟩:=hr.shape
 conv=>whnf
 refine callE_S (callE_con (Φ:=fun _ w' v w2=>∃q,v= .tuple #[q,.int .i64 0]∧RatC w2 (Nw (fun _=>False) w' w2) q (Rat.divInt 141 100)) (fun ρ w' r=>aw_below w') ?_)
 rintro ρ wa4 v4 wb4 r he hb ⟨f,rfl,k1⟩
 replace hw:=hw.tr hb
 replace hq:=hq.past (iv':=(wa4.heap.size,wb4.heap.size)::iv3) r (oldF w) he fun x hx=>List.mem_cons_of_mem _ hx
 replace hr:=hr.past (iv':=(wa4.heap.size,wb4.heap.size)::iv3) r (oldF w) he fun x hx=>List.mem_cons_of_mem _ hx
 have hf:=k1.got (S:=fun _=>False) r.baseLe (iv:=(wa4.heap.size,wb4.heap.size)::iv3) List.mem_cons_self
 clear r he hb
 generalize (wa4.heap.size,wb4.heap.size)::iv3=iv4 at*
 obtain⟨s4_0a,s4_0b,s4_0c,s4_0d,s4_0e,s4_0f,s4_0g,s4_0h,rfl⟩:=hf.shape
 conv=>whnf
 refine callE_S (callE_con (Φ:=fun _ w' v w2=>RatC w2 (Nw (fun _=>False) w' w2) v ((1:Int):Rat)) (fun ρ w' r=>rWhole_c 1 w' (by decide)) ?_)
 rintro ρ wa5 v5 wb5 r he hb hn
 replace hw:=hw.tr hb
 replace hq:=hq.past (iv':=(wa5.heap.size,wb5.heap.size)::iv4) r (oldF w) he fun x hx=>List.mem_cons_of_mem _ hx
 replace hr:=hr.past (iv':=(wa5.heap.size,wb5.heap.size)::iv4) r (oldF w) he fun x hx=>List.mem_cons_of_mem _ hx
 replace hf:=hf.past (iv':=(wa5.heap.size,wb5.heap.size)::iv4) r (oldF w) he fun x hx=>List.mem_cons_of_mem _ hx
 have hx0:=hn.got (S:=fun _=>False) r.baseLe (iv:=(wa5.heap.size,wb5.heap.size)::iv4) List.mem_cons_self
 clear r he hb hn
 generalize (wa5.heap.size,wb5.heap.size)::iv4=iv5 at*
 obtain⟨s5_0,s5_1,s5_2,s5_3,s5_4,s5_5,s5_6,s5_7,rfl⟩:=hx0.shape
 conv=>whnf
 refine callE_S (callE_con (Φ:=fun _ w' v w2=>RatC w2 (Nw (fun _=>False) w' w2) v ((2:Int):Rat)) (fun ρ w' r=>rWhole_c 2 w' (by decide)) ?_)
 rintro ρ wa6 v6 wb6 r he hb hn
 replace hw:=hw.tr hb
 replace hq:=hq.past (iv':=(wa6.heap.size,wb6.heap.size)::iv5) r (oldF w) he fun x hx=>List.mem_cons_of_mem _ hx
 replace hr:=hr.past (iv':=(wa6.heap.size,wb6.heap.size)::iv5) r (oldF w) he fun x hx=>List.mem_cons_of_mem _ hx
 replace hf:=hf.past (iv':=(wa6.heap.size,wb6.heap.size)::iv5) r (oldF w) he fun x hx=>List.mem_cons_of_mem _ hx
 replace hx0:=hx0.past (iv':=(wa6.heap.size,wb6.heap.size)::iv5) r (oldF w) he fun x hx=>List.mem_cons_of_mem _ hx
 have hx1:=hn.got (S:=fun _=>False) r.baseLe (iv:=(wa6.heap.size,wb6.heap.size)::iv5) List.mem_cons_self
 clear r he hb hn
 generalize (wa6.heap.size,wb6.heap.size)::iv5=iv6 at*
 obtain⟨s6_0,s6_1,s6_2,s6_3,s6_4,s6_5,s6_6,s6_7,rfl⟩:=hx1.shape
 conv=>whnf
 refine callE_S (callE_con (Φ:=fun _ w' v w2=>RatC w2 (Nw (fun _=>False) w' w2) v ((2:Int):Rat)) (fun ρ w' r=>rWhole_c 2 w' (by decide)) ?_)
 rintro ρ wa7 v7 wb7 r he hb hn
 replace hw:=hw.tr hb
 replace hq:=hq.past (iv':=(wa7.heap.size,wb7.heap.size)::iv6) r (oldF w) he fun x hx=>List.mem_cons_of_mem _ hx
 replace hr:=hr.past (iv':=(wa7.heap.size,wb7.heap.size)::iv6) r (oldF w) he fun x hx=>List.mem_cons_of_mem _ hx
 replace hf:=hf.past (iv':=(wa7.heap.size,wb7.heap.size)::iv6) r (oldF w) he fun x hx=>List.mem_cons_of_mem _ hx
 replace hx0:=hx0.past (iv':=(wa7.heap.size,wb7.heap.size)::iv6) r (oldF w) he fun x hx=>List.mem_cons_of_mem _ hx
 replace hx1:=hx1.past (iv':=(wa7.heap.size,wb7.heap.size)::iv6) r (oldF w) he fun x hx=>List.mem_cons_of_mem _ hx
 have hx2:=hn.got (S:=fun _=>False) r.baseLe (iv:=(wa7.heap.size,wb7.heap.size)::iv6) List.mem_cons_self
 clear r he hb hn
 generalize (wa7.heap.size,wb7.heap.size)::iv6=iv7 at*
 obtain⟨s7_0,s7_1,s7_2,s7_3,s7_4,s7_5,s7_6,s7_7,rfl⟩:=hx2.shape
 conv=>whnf
 refine callE_S (callE_con (Φ:=fun _ w' v w2=>RatC w2 (Nw (fun _=>False) w' w2) v ((4:Int):Rat)) (fun ρ w' r=>rWhole_c 4 w' (by decide)) ?_)
 rintro ρ wa8 v8 wb8 r he hb hn
 replace hw:=hw.tr hb
 replace hq:=hq.past (iv':=(wa8.heap.size,wb8.heap.size)::iv7) r (oldF w) he fun x hx=>List.mem_cons_of_mem _ hx
 replace hr:=hr.past (iv':=(wa8.heap.size,wb8.heap.size)::iv7) r (oldF w) he fun x hx=>List.mem_cons_of_mem _ hx
 replace hf:=hf.past (iv':=(wa8.heap.size,wb8.heap.size)::iv7) r (oldF w) he fun x hx=>List.mem_cons_of_mem _ hx
 replace hx0:=hx0.past (iv':=(wa8.heap.size,wb8.heap.size)::iv7) r (oldF w) he fun x hx=>List.mem_cons_of_mem _ hx
 replace hx1:=hx1.past (iv':=(wa8.heap.size,wb8.heap.size)::iv7) r (oldF w) he fun x hx=>List.mem_cons_of_mem _ hx
 replace hx2:=hx2.past (iv':=(wa8.heap.size,wb8.heap.size)::iv7) r (oldF w) he fun x hx=>List.mem_cons_of_mem _ hx
 have hx3:=hn.got (S:=fun _=>False) r.baseLe (iv:=(wa8.heap.size,wb8.heap.size)::iv7) List.mem_cons_self
 clear r he hb hn
 generalize (wa8.heap.size,wb8.heap.size)::iv7=iv8 at*
 obtain⟨s8_0,s8_1,s8_2,s8_3,s8_4,s8_5,s8_6,s8_7,rfl⟩:=hx3.shape
 conv=>whnf
 refine callE_S (callE_con (Φ:=fun _ w' v w2=>RatC w2 (Nw (fun _=>False) w' w2) v ((3:Int):Rat)) (fun ρ w' r=>rWhole_c 3 w' (by decide)) ?_)
 rintro ρ wa9 v9 wb9 r he hb hn
 replace hw:=hw.tr hb
 replace hq:=hq.past (iv':=(wa9.heap.size,wb9.heap.size)::iv8) r (oldF w) he fun x hx=>List.mem_cons_of_mem _ hx
 replace hr:=hr.past (iv':=(wa9.heap.size,wb9.heap.size)::iv8) r (oldF w) he fun x hx=>List.mem_cons_of_mem _ hx
 replace hf:=hf.past (iv':=(wa9.heap.size,wb9.heap.size)::iv8) r (oldF w) he fun x hx=>List.mem_cons_of_mem _ hx
 replace hx0:=hx0.past (iv':=(wa9.heap.size,wb9.heap.size)::iv8) r (oldF w) he fun x hx=>List.mem_cons_of_mem _ hx
 replace hx1:=hx1.past (iv':=(wa9.heap.size,wb9.heap.size)::iv8) r (oldF w) he fun x hx=>List.mem_cons_of_mem _ hx
 replace hx2:=hx2.past (iv':=(wa9.heap.size,wb9.heap.size)::iv8) r (oldF w) he fun x hx=>List.mem_cons_of_mem _ hx
 replace hx3:=hx3.past (iv':=(wa9.heap.size,wb9.heap.size)::iv8) r (oldF w) he fun x hx=>List.mem_cons_of_mem _ hx
 have hx4:=hn.got (S:=fun _=>False) r.baseLe (iv:=(wa9.heap.size,wb9.heap.size)::iv8) List.mem_cons_self
 clear r he hb hn
 generalize (wa9.heap.size,wb9.heap.size)::iv8=iv9 at*
 obtain⟨s9_0,s9_1,s9_2,s9_3,s9_4,s9_5,s9_6,s9_7,rfl⟩:=hx4.shape
 conv=>whnf
 refine callE_S (callE_con (Φ:=fun _ w' v w2=>RatC w2 (Nw (fun _=>False) w' w2) v ((6:Int):Rat)) (fun ρ w' r=>rWhole_c 6 w' (by decide)) ?_)
 rintro ρ wa10 v10 wb10 r he hb hn
 replace hw:=hw.tr hb
 replace hq:=hq.past (iv':=(wa10.heap.size,wb10.heap.size)::iv9) r (oldF w) he fun x hx=>List.mem_cons_of_mem _ hx
 replace hr:=hr.past (iv':=(wa10.heap.size,wb10.heap.size)::iv9) r (oldF w) he fun x hx=>List.mem_cons_of_mem _ hx
 replace hf:=hf.past (iv':=(wa10.heap.size,wb10.heap.size)::iv9) r (oldF w) he fun x hx=>List.mem_cons_of_mem _ hx
 replace hx0:=hx0.past (iv':=(wa10.heap.size,wb10.heap.size)::iv9) r (oldF w) he fun x hx=>List.mem_cons_of_mem _ hx
 replace hx1:=hx1.past (iv':=(wa10.heap.size,wb10.heap.size)::iv9) r (oldF w) he fun x hx=>List.mem_cons_of_mem _ hx
 replace hx2:=hx2.past (iv':=(wa10.heap.size,wb10.heap.size)::iv9) r (oldF w) he fun x hx=>List.mem_cons_of_mem _ hx
 replace hx3:=hx3.past (iv':=(wa10.heap.size,wb10.heap.size)::iv9) r (oldF w) he fun x hx=>List.mem_cons_of_mem _ hx
 replace hx4:=hx4.past (iv':=(wa10.heap.size,wb10.heap.size)::iv9) r (oldF w) he fun x hx=>List.mem_cons_of_mem _ hx
 have hx5:=hn.got (S:=fun _=>False) r.baseLe (iv:=(wa10.heap.size,wb10.heap.size)::iv9) List.mem_cons_self
 clear r he hb hn
 generalize (wa10.heap.size,wb10.heap.size)::iv9=iv10 at*
 obtain⟨s10_0,s10_1,s10_2,s10_3,s10_4,s10_5,s10_6,s10_7,rfl⟩:=hx5.shape
 conv=>whnf
 refine callE_S (callE_con (Φ:=fun _ w' v w2=>∃vx vk,v= .tuple #[.agg #[.int .i64 0,vx,vk,.slice none 0 0],.int .i64 0]∧RatsC w2 (Nw (fun _=>False) w' w2) vx [3,0]∧RatMC w2 (Nw (fun _=>False) w' w2) vk [[-2,1]]) (fun ρ w' r=>?_) ?_)
 ·have f0:=(hx0.rel r (oldF w)).four.weak (S':=fun g=>g<w'.heap.size) fun g hg=>Rel.old r (oldF w) g hg
  have f1:=(hx1.rel r (oldF w)).four.weak (S':=fun g=>g<w'.heap.size) fun g hg=>Rel.old r (oldF w) g hg
  have f2:=(hx2.rel r (oldF w)).four.weak (S':=fun g=>g<w'.heap.size) fun g hg=>Rel.old r (oldF w) g hg
  have f3:=(hx3.rel r (oldF w)).four.weak (S':=fun g=>g<w'.heap.size) fun g hg=>Rel.old r (oldF w) g hg
  have f4:=(hx4.rel r (oldF w)).four.weak (S':=fun g=>g<w'.heap.size) fun g hg=>Rel.old r (oldF w) g hg
  have f5:=(hx5.rel r (oldF w)).four.weak (S':=fun g=>g<w'.heap.size) fun g hg=>Rel.old r (oldF w) g hg
  have r0:=r.box2 (id:=3) rfl (by simp[Value.oneCell']) f0 f1 (Rel.lt r rfl)
  have r1:=r.box2 (id:=4) rfl (by simp[Value.oneCell']) f2 f3 (Rel.lt r rfl)
  have r2:=r.box2 (id:=6) rfl (by simp[Value.oneCell']) f4 f5 (Rel.lt r rfl)
  refine aw_solve (S:=fun g=>g<w'.heap.size) (fun g hg=>hg) ?_ r2
  refine⟨[.slice (some ⟨(ρ 3).g,0,none⟩) 2 2,.slice (some ⟨(ρ 4).g,0,none⟩) 2 2],(r.boxSeq (id:=5) (sz:=1) (n:=2) rfl rfl (by simp[maxLen]) (fun u hu=>by simp at hu;rcases hu with rfl|rfl<;>rfl)).weak (fun g hg=>by rw[hg];exact Rel.lt r rfl),rfl,fun i u x k1 k2=>?_⟩
  match i with
  |0=>simp[awM]at k1 k2;subst k1 k2;exact r0
  |1=>simp[awM]at k1 k2;subst k1 k2;exact r1
  |i+2=>simp at k1
 rintro ρ wa11 v11 wb11 r he hb ⟨vx,vk,rfl,k1,k2⟩
 replace hw:=hw.tr hb
 replace hq:=hq.past (iv':=(wa11.heap.size,wb11.heap.size)::iv10) r (oldF w) he fun x hx=>List.mem_cons_of_mem _ hx
 replace hr:=hr.past (iv':=(wa11.heap.size,wb11.heap.size)::iv10) r (oldF w) he fun x hx=>List.mem_cons_of_mem _ hx
 replace hf:=hf.past (iv':=(wa11.heap.size,wb11.heap.size)::iv10) r (oldF w) he fun x hx=>List.mem_cons_of_mem _ hx
 clear hx0
 clear hx1
 clear hx2
 clear hx3
 clear hx4
 clear hx5
 have hsx:=RatsC.got (S:=fun _=>False) k1 r.baseLe (iv:=(wa11.heap.size,wb11.heap.size)::iv10) List.mem_cons_self
 have hsk:=RatMC.got (S:=fun _=>False) k2 r.baseLe (iv:=(wa11.heap.size,wb11.heap.size)::iv10) List.mem_cons_self
 clear r he hb
 generalize (wa11.heap.size,wb11.heap.size)::iv10=iv11 at*
 clear k1 k2
 obtain⟨sx_a,sx_c,rfl,-⟩:=ListR.shape hsx
 obtain⟨sk_a,sk_c,rfl,-⟩:=SlicesR.shape hsk
 conv=>whnf
 refine drawn_of_pi hτ hmix [.x 0,.x 1,.x 2,.x 3,.x 4,.x 5,.x 6,.x 7,.x 8,.x 9,.x 10,.x 11,.x 12,.x 13,.x 14,.x 15,.x 16,.x 17,.x 18,.x 19,.x 20,.x 21,.x 22,.x 23,.x 24,.x 25,.x 26] (by kernel_rfl) (by kernel_rfl) ?_
 conv=>whnf
 refine callE_con (Φ:=fun _ w' v w2=>IntC w2 (Nw (fun _=>False) w' w2) v (-4)) (fun ρ w' r=>rOf_c _ w' (by decide) (by decide)) ?_
 rintro ρ wa12 v12 wb12 r he hb hn
 replace hw:=hw.tr hb
 replace hq:=hq.past (iv':=(wa12.heap.size,wb12.heap.size)::iv11) r (oldF w) he fun x hx=>List.mem_cons_of_mem _ hx
 replace hr:=hr.past (iv':=(wa12.heap.size,wb12.heap.size)::iv11) r (oldF w) he fun x hx=>List.mem_cons_of_mem _ hx
 replace hf:=hf.past (iv':=(wa12.heap.size,wb12.heap.size)::iv11) r (oldF w) he fun x hx=>List.mem_cons_of_mem _ hx
 replace hsx:=RatsC.past (iv':=(wa12.heap.size,wb12.heap.size)::iv11) hsx r (oldF w) he fun x hx=>List.mem_cons_of_mem _ hx
 replace hsk:=RatMC.past (iv':=(wa12.heap.size,wb12.heap.size)::iv11) hsk r (oldF w) he fun x hx=>List.mem_cons_of_mem _ hx
 have h4:=hn.got (S:=fun _=>False) r.baseLe (iv:=(wa12.heap.size,wb12.heap.size)::iv11) List.mem_cons_self
 clear r he hb hn
 generalize (wa12.heap.size,wb12.heap.size)::iv11=iv12 at*
 obtain⟨s12_0,s12_1,s12_2,s12_3,rfl⟩:=h4.shape
 conv=>whnf
 refine callE_con (Φ:=fun _ w' v w2=>v= .bool true) (fun ρ w' r=>sameInt_c (Rel.old r (oldF w)) (hq.rel r (oldF w)) (h4.rel r (oldF w))) ?_
 rintro ρ wa13 v13 wb13 r he hb rfl
 replace hw:=hw.tr hb
 clear hq
 replace hr:=hr.past (iv':=(wa13.heap.size,wb13.heap.size)::iv12) r (oldF w) he fun x hx=>List.mem_cons_of_mem _ hx
 replace hf:=hf.past (iv':=(wa13.heap.size,wb13.heap.size)::iv12) r (oldF w) he fun x hx=>List.mem_cons_of_mem _ hx
 replace hsx:=RatsC.past (iv':=(wa13.heap.size,wb13.heap.size)::iv12) hsx r (oldF w) he fun x hx=>List.mem_cons_of_mem _ hx
 replace hsk:=RatMC.past (iv':=(wa13.heap.size,wb13.heap.size)::iv12) hsk r (oldF w) he fun x hx=>List.mem_cons_of_mem _ hx
 clear h4
 clear r he hb
 generalize (wa13.heap.size,wb13.heap.size)::iv12=iv13 at*
 conv=>whnf
 refine callE_con (Φ:=fun _ w' v w2=>IntC w2 (Nw (fun _=>False) w' w2) v 1) (fun ρ w' r=>rOf_c _ w' (by decide) (by decide)) ?_
 rintro ρ wa14 v14 wb14 r he hb hn
 replace hw:=hw.tr hb
 replace hr:=hr.past (iv':=(wa14.heap.size,wb14.heap.size)::iv13) r (oldF w) he fun x hx=>List.mem_cons_of_mem _ hx
 replace hf:=hf.past (iv':=(wa14.heap.size,wb14.heap.size)::iv13) r (oldF w) he fun x hx=>List.mem_cons_of_mem _ hx
 replace hsx:=RatsC.past (iv':=(wa14.heap.size,wb14.heap.size)::iv13) hsx r (oldF w) he fun x hx=>List.mem_cons_of_mem _ hx
 replace hsk:=RatMC.past (iv':=(wa14.heap.size,wb14.heap.size)::iv13) hsk r (oldF w) he fun x hx=>List.mem_cons_of_mem _ hx
 have h1:=hn.got (S:=fun _=>False) r.baseLe (iv:=(wa14.heap.size,wb14.heap.size)::iv13) List.mem_cons_self
 clear r he hb hn
 generalize (wa14.heap.size,wb14.heap.size)::iv13=iv14 at*
 obtain⟨s14_0,s14_1,s14_2,s14_3,rfl⟩:=h1.shape
 conv=>whnf
 refine callE_con (Φ:=fun _ w' v w2=>v= .bool true) (fun ρ w' r=>sameInt_c (Rel.old r (oldF w)) (hr.rel r (oldF w)) (h1.rel r (oldF w))) ?_
 rintro ρ wa15 v15 wb15 r he hb rfl
 replace hw:=hw.tr hb
 clear hr
 replace hf:=hf.past (iv':=(wa15.heap.size,wb15.heap.size)::iv14) r (oldF w) he fun x hx=>List.mem_cons_of_mem _ hx
 replace hsx:=RatsC.past (iv':=(wa15.heap.size,wb15.heap.size)::iv14) hsx r (oldF w) he fun x hx=>List.mem_cons_of_mem _ hx
 replace hsk:=RatMC.past (iv':=(wa15.heap.size,wb15.heap.size)::iv14) hsk r (oldF w) he fun x hx=>List.mem_cons_of_mem _ hx
 clear h1
 clear r he hb
 generalize (wa15.heap.size,wb15.heap.size)::iv14=iv15 at*
 conv=>whnf
 refine callE_con (Φ:=fun _ w' v w2=>v= .string ⟨#[49,52,49,47,49,48,48]⟩) (fun ρ w' r=>aw_format (Rel.old r (oldF w)) (hf.rel r (oldF w))) ?_
 rintro ρ wa16 v16 wb16 r he hb rfl
 replace hw:=hw.tr hb
 clear hf
 replace hsx:=RatsC.past (iv':=(wa16.heap.size,wb16.heap.size)::iv15) hsx r (oldF w) he fun x hx=>List.mem_cons_of_mem _ hx
 replace hsk:=RatMC.past (iv':=(wa16.heap.size,wb16.heap.size)::iv15) hsk r (oldF w) he fun x hx=>List.mem_cons_of_mem _ hx
 clear r he hb
 generalize (wa16.heap.size,wb16.heap.size)::iv15=iv16 at*
 conv=>whnf
 refine drawn_of_pi hτ hmix [.x 0,.x 1,.x 2,.x 3,.x 4,.x 5,.x 6,.x 7,.x 8,.x 9,.x 10,.x 11,.x 12,.x 13,.x 14,.x 15,.x 16,.x 17,.x 18,.x 19,.x 20] (by kernel_rfl) (by kernel_rfl) ?_
 conv=>whnf
 refine callE_con (Φ:=fun _ w' v w2=>RatC w2 (Nw (fun _=>False) w' w2) v ((3:Int):Rat)) (fun ρ w' r=>rWhole_c 3 w' (by decide)) ?_
 rintro ρ wa17 v17 wb17 r he hb hn
 replace hw:=hw.tr hb
 replace hsx:=RatsC.past (iv':=(wa17.heap.size,wb17.heap.size)::iv16) hsx r (oldF w) he fun x hx=>List.mem_cons_of_mem _ hx
 replace hsk:=RatMC.past (iv':=(wa17.heap.size,wb17.heap.size)::iv16) hsk r (oldF w) he fun x hx=>List.mem_cons_of_mem _ hx
 have hx0:=hn.got (S:=fun _=>False) r.baseLe (iv:=(wa17.heap.size,wb17.heap.size)::iv16) List.mem_cons_self
 clear r he hb hn
 generalize (wa17.heap.size,wb17.heap.size)::iv16=iv17 at*
 obtain⟨s17_0,s17_1,s17_2,s17_3,s17_4,s17_5,s17_6,s17_7,rfl⟩:=hx0.shape
 conv=>whnf
 refine callE_con (Φ:=fun _ w' v w2=>RatC w2 (Nw (fun _=>False) w' w2) v ((0:Int):Rat)) (fun ρ w' r=>rWhole_c 0 w' (by decide)) ?_
 rintro ρ wa18 v18 wb18 r he hb hn
 replace hw:=hw.tr hb
 replace hsx:=RatsC.past (iv':=(wa18.heap.size,wb18.heap.size)::iv17) hsx r (oldF w) he fun x hx=>List.mem_cons_of_mem _ hx
 replace hsk:=RatMC.past (iv':=(wa18.heap.size,wb18.heap.size)::iv17) hsk r (oldF w) he fun x hx=>List.mem_cons_of_mem _ hx
 replace hx0:=hx0.past (iv':=(wa18.heap.size,wb18.heap.size)::iv17) r (oldF w) he fun x hx=>List.mem_cons_of_mem _ hx
 have hx1:=hn.got (S:=fun _=>False) r.baseLe (iv:=(wa18.heap.size,wb18.heap.size)::iv17) List.mem_cons_self
 clear r he hb hn
 generalize (wa18.heap.size,wb18.heap.size)::iv17=iv18 at*
 obtain⟨s18_0,s18_1,s18_2,s18_3,s18_4,s18_5,s18_6,s18_7,rfl⟩:=hx1.shape
 conv=>whnf
 refine callE_con (Φ:=fun _ w' v w2=>v= .bool true) (fun ρ w' r=>?_) ?_
 ·have f0:=(hx0.rel r (oldF w)).fourC.weak (S':=fun g=>g<w'.heap.size) fun g hg=>Rel.old r (oldF w) g hg
  have f1:=(hx1.rel r (oldF w)).fourC.weak (S':=fun g=>g<w'.heap.size) fun g hg=>Rel.old r (oldF w) g hg
  have r0:=r.box2 (id:=8) rfl (by simp[Value.oneCell']) f0 f1 (Rel.lt r rfl)
  exact sameList_c (xs:=[3,0]) (ys:=[3,0]) (fun g hg=>hg) (RatsC.weak (RatsC.rel hsx r (oldF w)) fun g hg=>Rel.old r (oldF w) g hg) r0
 rintro ρ wa19 v19 wb19 r he hb rfl
 replace hw:=hw.tr hb
 clear hsx
 replace hsk:=RatMC.past (iv':=(wa19.heap.size,wb19.heap.size)::iv18) hsk r (oldF w) he fun x hx=>List.mem_cons_of_mem _ hx
 clear hx0
 clear hx1
 clear r he hb
 generalize (wa19.heap.size,wb19.heap.size)::iv18=iv19 at*
 conv=>whnf
 refine callE_con (Φ:=fun _ w' v w2=>RatC w2 (Nw (fun _=>False) w' w2) v ((-2:Int):Rat)) (fun ρ w' r=>rWhole_c (-2) w' (by decide)) ?_
 rintro ρ wa20 v20 wb20 r he hb hn
 replace hw:=hw.tr hb
 replace hsk:=RatMC.past (iv':=(wa20.heap.size,wb20.heap.size)::iv19) hsk r (oldF w) he fun x hx=>List.mem_cons_of_mem _ hx
 have hx0:=hn.got (S:=fun _=>False) r.baseLe (iv:=(wa20.heap.size,wb20.heap.size)::iv19) List.mem_cons_self
 clear r he hb hn
 generalize (wa20.heap.size,wb20.heap.size)::iv19=iv20 at*
 obtain⟨s20_0,s20_1,s20_2,s20_3,s20_4,s20_5,s20_6,s20_7,rfl⟩:=hx0.shape
 conv=>whnf
 refine callE_con (Φ:=fun _ w' v w2=>RatC w2 (Nw (fun _=>False) w' w2) v ((1:Int):Rat)) (fun ρ w' r=>rWhole_c 1 w' (by decide)) ?_
 rintro ρ wa21 v21 wb21 r he hb hn
 replace hw:=hw.tr hb
 replace hsk:=RatMC.past (iv':=(wa21.heap.size,wb21.heap.size)::iv20) hsk r (oldF w) he fun x hx=>List.mem_cons_of_mem _ hx
 replace hx0:=hx0.past (iv':=(wa21.heap.size,wb21.heap.size)::iv20) r (oldF w) he fun x hx=>List.mem_cons_of_mem _ hx
 have hx1:=hn.got (S:=fun _=>False) r.baseLe (iv:=(wa21.heap.size,wb21.heap.size)::iv20) List.mem_cons_self
 clear r he hb hn
 generalize (wa21.heap.size,wb21.heap.size)::iv20=iv21 at*
 obtain⟨s21_0,s21_1,s21_2,s21_3,s21_4,s21_5,s21_6,s21_7,rfl⟩:=hx1.shape
 conv=>whnf
 refine callE_con (Φ:=fun _ w' v w2=>v= .bool true) (fun ρ w' r=>?_) ?_
 ·have f0:=(hx0.rel r (oldF w)).fourC.weak (S':=fun g=>g<w'.heap.size) fun g hg=>Rel.old r (oldF w) g hg
  have f1:=(hx1.rel r (oldF w)).fourC.weak (S':=fun g=>g<w'.heap.size) fun g hg=>Rel.old r (oldF w) g hg
  have r0:=r.box2 (id:=9) rfl (by simp[Value.oneCell']) f0 f1 (Rel.lt r rfl)
  refine sameLists_c (xs:=[[-2,1]]) (ys:=[[-2,1]]) (fun g hg=>hg) (RatMC.weak (RatMC.rel hsk r (oldF w)) fun g hg=>Rel.old r (oldF w) g hg) ?_
  refine⟨[.slice (some ⟨(ρ 9).g,0,none⟩) 2 2],(r.boxSeq (id:=10) (sz:=1) (n:=1) rfl rfl (by simp[maxLen]) (fun u hu=>by simp at hu;subst hu;rfl)).weak (fun g hg=>by rw[hg];exact Rel.lt r rfl),rfl,fun i u x k1 k2=>?_⟩
  match i with
  |0=>simp at k1 k2;subst k1 k2;exact r0
  |i+1=>simp at k1
 rintro ρ wa22 v22 wb22 r he hb rfl
 replace hw:=hw.tr hb
 clear hsk
 clear hx0
 clear hx1
 clear r he hb
 generalize (wa22.heap.size,wb22.heap.size)::iv21=iv22 at*
 conv=>whnf
 intro ρe we re
 exact⟨_,rfl,hw.tr re.bel,rfl⟩
end Go.Ex

/- Sums and products of columns. No condition. -/
namespace Go.Ex

/-- the sum of the first so many columns -/
def colsum(f:Nat→Int):Nat→Int
 |0=>0
 |n+1=>f 0+65536*colsum (fun i=>f (i+1)) n
theorem colsum_map(f:Nat→Int)(n:Nat):colval ((List.range n).map f)=colsum f n:=by
 induction n generalizing f with
 |zero=>rfl
 |succ n ih=>
  rw[List.range_succ_eq_map,List.map_cons,List.map_map,colval,colsum,←ih]
  rfl
theorem colsum_add(f g:Nat→Int)(n:Nat):colsum (fun i=>f i+g i) n=colsum f n+colsum g n:=by
 induction n generalizing f g with
 |zero=>rfl
 |succ n ih=>simp only[colsum,ih];omega
theorem colsum_mul(k:Int)(f:Nat→Int)(n:Nat):colsum (fun i=>k*f i) n=k*colsum f n:=by
 induction n generalizing f with
 |zero=>simp[colsum]
 |succ n ih=>simp only[colsum,ih,Int.mul_add];rw[Int.mul_left_comm]
theorem colsum_zero{f:Nat→Int}{n:Nat}(h:∀i,i<n→f i=0):colsum f n=0:=by
 induction n generalizing f with
 |zero=>rfl
 |succ n ih=>rw[colsum,h 0 (by omega),ih fun i hi=>h (i+1) (by omega)];rfl
theorem colsum_getD(a:List Int)(n:Nat)(h:a.length≤n):colsum (fun i=>a.getD i 0) n=colval a:=by
 induction a generalizing n with
 |nil=>exact colsum_zero fun i _=>by simp
 |cons c r ih=>
  obtain⟨m,rfl⟩:∃m,n=m+1:=⟨n-1,by simp at h;omega⟩
  have e:=ih m (by simpa using h)
  rw[colsum,colval,←e]
  simp[List.getD]
/-- a product's column: the first k parts -/
def cpart(a b:List Int)(i:Nat):Nat→Int
 |0=>0
 |k+1=>cpart a b i k+a.getD k 0*(if k≤i then b.getD (i-k) 0 else 0)
def convAt(a b:List Int)(i:Nat):Int:=cpart a b i (i+1)
theorem cpart_nil(b:List Int)(i k:Nat):cpart [] b i k=0:=by
 induction k with
 |zero=>rfl
 |succ k ih=>rw[cpart,ih];simp
theorem cpart_cons(c:Int)(r b:List Int)(i k:Nat):cpart (c::r) b (i+1) (k+1)=c*b.getD (i+1) 0+cpart r b i k:=by
 induction k with
 |zero=>simp[cpart]
 |succ k ih=>
  rw[cpart,ih,cpart]
  have e:(c::r).getD (k+1) 0=r.getD k 0:=by simp[List.getD]
  rw[e]
  have e2:(if k+1≤i+1 then b.getD (i+1-(k+1)) 0 else 0)=(if k≤i then b.getD (i-k) 0 else 0):=by
   by_cases h:k≤i
   ·rw[if_pos h,if_pos (by omega),show i+1-(k+1)=i-k by omega]
   ·rw[if_neg h,if_neg (by omega)]
  rw[e2,Int.add_assoc]
theorem convAt_cons(c:Int)(r b:List Int)(i:Nat):convAt (c::r) b (i+1)=c*b.getD (i+1) 0+convAt r b i:=cpart_cons c r b i (i+1)
theorem convAt_zero(c:Int)(r b:List Int):convAt (c::r) b 0=c*b.getD 0 0:=by simp[convAt,cpart]
theorem conv_sum(a b:List Int)(n:Nat)(h:a.length+b.length≤n+1):colsum (convAt a b) n=colval a*colval b:=by
 induction a generalizing n with
 |nil=>
  rw[show convAt [] b=fun _=>(0:Int)from funext fun i=>cpart_nil b i _,colsum_zero fun _ _=>rfl]
  simp[colval]
 |cons c r ih=>
  cases n with
  |zero=>
   have hb:b=[]:=List.eq_nil_of_length_eq_zero (by simp at h;omega)
   subst hb
   simp[colsum,colval]
  |succ m=>
   have e1:colsum (convAt (c::r) b) (m+1)=colsum (fun i=>c*b.getD i 0) (m+1)+65536*colsum (convAt r b) m:=by
    have e2:colsum (fun i=>convAt (c::r) b (i+1)) m=colsum (fun i=>c*b.getD (i+1) 0) m+colsum (convAt r b) m:=by
     rw[←colsum_add]
     congr 1
     funext i
     exact convAt_cons c r b i
    rw[colsum,colsum,e2,convAt_zero,Int.mul_add]
    omega
   have h':r.length+b.length≤m+1:=by simp at h;omega
   rw[e1,ih m h',colsum_mul,colsum_getD b (m+1) (by omega),colval,Int.add_mul,Int.mul_assoc]
theorem cpart_skip(a b:List Int)(i k k0:Nat)(h0:∀j,j<k0→b.length≤i-j)(hk:k0≤i+1)(h:k≤k0):cpart a b i k=0:=by
 induction k with
 |zero=>rfl
 |succ k ih=>
  rw[cpart,ih (by omega),if_pos (by omega)]
  have:b.getD (i-k) 0=0:=by rw[List.getD,List.getElem?_eq_none (h0 k (by omega))];rfl
  rw[this];simp
theorem cpart_rest(a b:List Int)(i k m:Nat)(h:a.length≤k):cpart a b i (k+m)=cpart a b i k:=by
 induction m with
 |zero=>rfl
 |succ m ih=>
  rw[←Nat.add_assoc,cpart,ih]
  have:a.getD (k+m) 0=0:=by rw[List.getD,List.getElem?_eq_none (by omega)];rfl
  rw[this];simp
theorem cpart_bound{a b:List Int}{i:Nat}(ha:∀x∈a,-65535≤x∧x≤65535)(hb:∀x∈b,-65535≤x∧x≤65535)(k:Nat):(cpart a b i k).natAbs≤4294836225*k:=by
 have key:∀(l:List Int) (j:Nat),(∀x∈l,-65535≤x∧x≤65535)→(l.getD j 0).natAbs≤65535:=fun l j h=>by
  rw[List.getD]
  cases hj:l[j]? with
  |none=>simp
  |some d=>have:=h d (List.mem_of_getElem? hj);simp;omega
 induction k with
 |zero=>simp[cpart]
 |succ k ih=>
  rw[cpart]
  have h1:=key a k ha
  have h2:(if k≤i then b.getD (i-k) 0 else 0).natAbs≤65535:=by
   split
   ·exact key b _ hb
   ·simp
  have h3:=Nat.mul_le_mul h1 h2
  rw[←Int.natAbs_mul]at h3
  generalize a.getD k 0*(if k≤i then b.getD (i-k) 0 else 0)=p at*
  omega
/-- the columns of limbs, each one with the sign s -/
def limbCols(s:Int):List Nat→List Int
 |[]=>[]
 |l::r=>s*((l % 65536:Nat):Int)::s*((l / 65536:Nat):Int)::limbCols s r
theorem limbCols_val(s:Int)(ls:List Nat):colval (limbCols s ls)=s*(val ls:Int):=by
 induction ls with
 |nil=>simp[limbCols,colval,val]
 |cons l r ih=>
  rw[limbCols,colval,colval,ih,val]
  have e1:((l+4294967296*val r:Nat):Int)=((l % 65536:Nat):Int)+65536*((l / 65536:Nat):Int)+4294967296*((val r:Nat):Int):=by omega
  rw[e1,Int.mul_add,Int.mul_add,Int.mul_add]
  rw[Int.mul_left_comm 65536 s,Int.mul_left_comm s 65536,Int.mul_left_comm s 4294967296]
  omega
theorem limbCols_append(s:Int)(a b:List Nat):limbCols s (a++b)=limbCols s a++limbCols s b:=by
 induction a with
 |nil=>rfl
 |cons l r ih=>simp[limbCols,ih]
theorem limbCols_length(s:Int)(ls:List Nat):(limbCols s ls).length=2*ls.length:=by
 induction ls with
 |nil=>rfl
 |cons l r ih=>simp[limbCols,ih];omega
theorem limbCols_bound{s:Int}(hs:s=1∨s= -1){ls:List Nat}(h:Lm ls):∀c∈limbCols s ls,-65535≤c∧c≤65535:=by
 induction ls with
 |nil=>intro c hc;cases hc
 |cons l r ih=>
  have hl:=h l List.mem_cons_self
  intro c hc
  rw[limbCols]at hc
  rcases List.mem_cons.1 hc with rfl|hc
  ·rcases hs with rfl|rfl<;>omega
  rcases List.mem_cons.1 hc with rfl|hc
  ·rcases hs with rfl|rfl<;>omega
  ·exact ih (fun x hx=>h x (List.mem_cons_of_mem _ hx)) c hc
/-- of a number that is not negative the columns are digits, and the upper ones tell the rest -/
theorem limbCols_digits{ls:List Nat}(h:Lm ls):∀c∈limbCols 1 ls,0≤c∧c≤65535:=fun c hc=>by
 induction ls with
 |nil=>cases hc
 |cons l r ih=>
  have hl:=h l List.mem_cons_self
  rw[limbCols]at hc
  rcases List.mem_cons.1 hc with rfl|hc
  ·omega
  rcases List.mem_cons.1 hc with rfl|hc
  ·omega
  ·exact ih (fun x hx=>h x (List.mem_cons_of_mem _ hx)) hc
theorem colval_drop{cs:List Int}{i:Nat}{c:Int}(h:cs[i]? =some c):colval (cs.drop i)=c+65536*colval (cs.drop (i+1)):=by
 rw[List.drop_eq_getElem_cons (List.getElem?_eq_some_iff.1 h).1,colval]
 have:=(List.getElem?_eq_some_iff.1 h).2
 rw[this]
end Go.Ex

/- Small lemmas on sizes; division for the laws of chapter 1. No condition. -/
namespace Go.Ex
open Go Go.Sx Go.Proofs

theorem ln_limbs{ls:List Nat}{k:Nat}(h:Lm ls)(hl:ls.length≤k):ln (val ls)≤k:=ln_le.2 (Nat.lt_of_lt_of_le (val_lt h) (wt_le hl))
theorem Cv.false{S:Nat→Prop}{B:Nat}{iv:Iv}{g:Nat}(h:Cv (fun _=>False) B iv g):Cv S B iv g:=h.elim (fun h=>h.elim) .inr
end Go.Ex

/- The fractions that package exact exports. Printed by program. No condition but sizes. -/
namespace Go.Ex
open Go Go.Sx Go.Proofs

theorem fcmp_c{S:Nat→Prop}{w:World}{v u:Value}{f g:Rat}(hS:Old S w)(hf:FracR w S v f)(hg:FracR w S u g)(hlf:rl f≤10000000000)(hlg:rl g≤10000000000):
  Con PG N.exact_fraction_cmp #[v,u] w (Ret w fun v' w2=>v'= .int .i64 (rs (f-g))):=by
 have hw:Bel w.heap.size w w:=Bel.refl
 have l1:=rl_num f
 have l2:=rl_den' f
 have l3:=rl_num g
 have l4:=rl_den' g
 have m0:=ln_mul_abs f.num g.den
 have m1:=ln_mul_abs g.num f.den
 replace hf:=hf.weak (S':=Cv S w.heap.size []) fun _ h=>.inl h
 replace hg:=hg.weak (S':=Cv S w.heap.size []) fun _ h=>.inl h
 obtain⟨b1,a1,n1,c1,b2,a2,n2,c2,rfl⟩:=hf.shape
 obtain⟨b3,a3,n3,c3,b4,a4,n4,c4,rfl⟩:=hg.shape
 have hfn:=hf.num
 have hfd:=hf.den
 clear hf
 have hgn:=hg.num
 have hgd:=hg.den
 clear hg
 refine in_exact_fraction_cmp (by simp) ?_
 conv=>whnf
 refine drawn_of_pi hτ hmix [.x 0,.x 1,.x 2,.x 3,.x 5,.x 6,.x 7,.x 8,.x 4,.x 9,.x 10,.x 11] (by kernel_rfl) (by kernel_rfl) ?_
 conv=>whnf
 refine callE_con (Φ:=fun _ w' v w2=>NumR w2 (Nw (fun _=>False) w' w2) v (f.num*(g.den:Int))) (fun ρ w' r=>numTimes_c (Rel.old r hS) (hfn.rel r hS) (hgd.rel r hS) (by omega) (by omega)) ?_
 rintro ρ wa1 v1 wb1 r he hb hn
 replace hw:=hw.tr hb
 clear hfn
 replace hfd:=hfd.past (iv':=(wa1.heap.size,wb1.heap.size)::[]) r hS he fun x hx=>List.mem_cons_of_mem _ hx
 replace hgn:=hgn.past (iv':=(wa1.heap.size,wb1.heap.size)::[]) r hS he fun x hx=>List.mem_cons_of_mem _ hx
 clear hgd
 have hA:=hn.got (S:=fun _=>False) r.baseLe (iv:=(wa1.heap.size,wb1.heap.size)::[]) List.mem_cons_self
 clear r he hb hn
 generalize (wa1.heap.size,wb1.heap.size)::[]=iv1 at*
 obtain⟨s1_0,s1_1,s1_2,s1_3,rfl⟩:=hA.shape
 conv=>whnf
 refine callE_con (Φ:=fun _ w' v w2=>NumR w2 (Nw (fun _=>False) w' w2) v (g.num*(f.den:Int))) (fun ρ w' r=>numTimes_c (Rel.old r hS) (hgn.rel r hS) (hfd.rel r hS) (by omega) (by omega)) ?_
 rintro ρ wa2 v2 wb2 r he hb hn
 replace hw:=hw.tr hb
 clear hfd
 clear hgn
 replace hA:=hA.past (iv':=(wa2.heap.size,wb2.heap.size)::iv1) r (oldF w) he fun x hx=>List.mem_cons_of_mem _ hx
 have hB:=hn.got (S:=fun _=>False) r.baseLe (iv:=(wa2.heap.size,wb2.heap.size)::iv1) List.mem_cons_self
 clear r he hb hn
 generalize (wa2.heap.size,wb2.heap.size)::iv1=iv2 at*
 obtain⟨s2_0,s2_1,s2_2,s2_3,rfl⟩:=hB.shape
 conv=>whnf
 refine callE_con (Φ:=fun _ w' v w2=>v= .int .i64 (rs (f-g))) (fun ρ w' r=>(rat_cmp f g)▸numCmp_c (Rel.old r (oldF w)) (hA.rel r (oldF w)) (hB.rel r (oldF w)) (by omega) (by omega)) ?_
 rintro ρ wa3 v3 wb3 r he hb rfl
 replace hw:=hw.tr hb
 clear hA
 clear hB
 clear r he hb
 generalize (wa3.heap.size,wb3.heap.size)::iv2=iv3 at*
 conv=>whnf
 intro ρe we re
 exact⟨_,rfl,hw.tr re.bel,rfl⟩

theorem rs_zero{q:Rat}:rs q=0↔q=0:=by rw[rs,Int.sign_eq_zero_iff_zero,Rat.num_eq_zero]
end Go.Ex

/- brief of the laws of chapter 1; fractions of package exact by their values. Printed by program. No condition but sizes. -/
namespace Go.Ex
open Go Go.Sx Go.Proofs

def rheads:List (Head×Head)→List Value
 |[]=>[]
 |k::r=>.bool k.1.1:: .slice k.1.2.1 k.1.2.2.1 k.1.2.2.2:: .bool k.2.1:: .slice k.2.2.1 k.2.2.2.1 k.2.2.2.2::rheads r
theorem rheads_get:∀{ks:List (Head×Head)} {i:Nat} {k:Head×Head},ks[i]? =some k→(rheads ks)[i*4+1]? =some (.slice k.1.2.1 k.1.2.2.1 k.1.2.2.2)∧(rheads ks)[i*4+3]? =some (.slice k.2.2.1 k.2.2.2.1 k.2.2.2.2)
 |[],i,k,h=>by simp at h
 |k0::r,0,k,h=>by injection h with h;subst h;exact⟨rfl,rfl⟩
 |k0::r,i+1,k,h=>by
  have:=rheads_get (ks:=r) (i:=i) (k:=k) (by simpa using h)
  rw[show (i+1)*4+1=(i*4+1)+4 by omega,show(i+1)*4+3=(i*4+3)+4 by omega]
  exact this
theorem addr_two(ad:Addr)(i j:Nat):(ad.add i).add j=ad.add (i+j):=by
 unfold Addr.add
 split<;>split<;>simp_all<;>omega
theorem brief_c{S:Nat→Prop}{w:World}{v:Value}{ks:List (Head×Head)}(hS:Old S w)(h:SeqR w S 4 v (rheads ks) ks.length):
  Con PG N.law01_brief #[v] w (Ret w fun v' _=>v'= .bool (decide (∀k∈ks,k.1.2.2.1≤3∧k.2.2.2.1≤3))):=by
 obtain⟨h0,h1,h2,a,c,rfl,h3,h4⟩:=h
 unfold maxLen at h0
 refine in_law01_brief (by simp) ?_
 conv=>whnf
 refine⟨Nat×World,fun z=>⟨[(0,.o (.v (.slice a ks.length c))),(3,.o (.v (.int .i64 z.1)))],[],0,[],z.2⟩,fun z=>ks.length-z.1,
  fun z=>z.1≤ks.length∧Bel w.heap.size w z.2∧∀k∈ks.take z.1,k.1.2.2.1≤3∧k.2.2.2.1≤3,?_,?_⟩
 ·intro ρ w' r
  exact⟨(0,w'),⟨by simp,r.bel,by simp⟩,Sub.gen [] r trivial ⟨rfl,rfl,trivial⟩ (by simp[ScH]) (by simp[ScE,SV.sc,At.sc]) (by rfl) (by simp)⟩
 rintro⟨i,w1⟩ ⟨hi,hw,ht⟩
 dsimp only at hi hw ht ⊢
 conv=>whnf
 refine BrS.mk (fun hib=>?_) (fun hib=>?_)
 ·have hib:i<ks.length:=by simpa using hib
  obtain⟨k,hk⟩:∃x,ks[i]? =some x:=⟨_,List.getElem?_eq_getElem hib⟩
  obtain⟨g1,g2⟩:=rheads_get hk
  obtain⟨ad,rfl,q1,q2⟩:=h4 _ _ g1
  obtain⟨ad2,e2,q3,q4⟩:=h4 _ _ g2
  injection e2 with e2
  subst e2
  have hld:∀{H nx iv ρ w'} (j:Nat) (u:Value),w.cell? (ad.add (i*4+j))=some u→Rel H nx iv w.heap.size w1 ρ w'→w'.cell? (ad.add ((i:Int).toNat*4+j))=some u:=fun{H nx iv ρ w'} j u hu r=>by
   rw[Int.toNat_natCast,cell_of_heap (w:=w) (w2:=w') (by rw[addB];exact(hw.tr r.bel).block _ (hS _ q1))]
   exact hu
  conv=>whnf
  refine⟨ad,rfl,⟨by omega,by omega⟩,?_⟩
  conv=>whnf
  refine⟨.slice k.1.2.1 k.1.2.2.1 k.1.2.2.2,fun ρ w' r=>?_,?_⟩
  ·simp only[addr_two];exact hld 1 _ q2 r
  conv=>whnf
  refine BrS.mk (fun hg=>?_) (fun hg=>?_)
  ·have hg:3<k.1.2.2.1:=by
    have:=of_decide_eq_true hg
    omega
   conv=>whnf
   intro ρ w2 r
   refine⟨_,rfl,hw.tr r.bel,?_⟩
   rw[decide_eq_false (fun e=>by have:=(e k (List.mem_of_getElem? hk)).1;omega)]
   rfl
  have hg:k.1.2.2.1≤3:=by
   have:=of_decide_eq_false hg
   omega
  conv=>whnf
  refine⟨ad,rfl,⟨by omega,by omega⟩,?_⟩
  conv=>whnf
  refine⟨.slice k.2.2.1 k.2.2.2.1 k.2.2.2.2,fun ρ w' r=>?_,?_⟩
  ·simp only[addr_two];exact hld 3 _ q4 r
  conv=>whnf
  refine BrS.mk (fun hg2=>?_) (fun hg2=>?_)
  ·have hg2:3<k.2.2.2.1:=by
    have:=of_decide_eq_true hg2
    omega
   conv=>whnf
   intro ρ w2 r
   refine⟨_,rfl,hw.tr r.bel,?_⟩
   rw[decide_eq_false (fun e=>by have:=(e k (List.mem_of_getElem? hk)).2;omega)]
   rfl
  have hg2:k.2.2.2.1≤3:=by
   have:=of_decide_eq_false hg2
   omega
  have ht2:∀k∈ks.take (i+1),k.1.2.2.1≤3∧k.2.2.2.1≤3:=fun k' h'=>by
   rw[List.take_add_one,hk]at h'
   rcases List.mem_append.1 h' with h'|h'
   ·exact ht k' h'
   ·simp at h';rw[h'];exact⟨hg,hg2⟩
  conv=>whnf
  refine⟨((i+1:Nat):Int),by rw[wrap64]<;>omega,?_⟩
  conv=>whnf
  intro ρ3 w3 r3
  exact⟨(i+1,w3),⟨hib,hw.tr r3.bel,ht2⟩,Sub.gen [] r3 trivial ⟨rfl,rfl,trivial⟩ (by simp[ScH]) (by simp[ScE,SV.sc,At.sc]) (by rfl) (by simp),by dsimp only;omega⟩
 have hib:i=ks.length:=by
  have:¬i<ks.length:=by simpa using hib
  omega
 subst hib
 rw[List.take_length]at ht
 conv=>whnf
 intro ρ w2 r
 exact⟨_,rfl,hw.tr r.bel,by rw[decide_eq_true ht];rfl⟩

/-- a fraction of the api by its value; its parts are not too long -/
def RatV(w:World)(S:Nat→Prop)(v:Value)(q:Rat):Prop:=∃a b,RatR w S v a b∧ratio a b=q∧ln a.natAbs≤100000∧ln b.natAbs≤100000
theorem RatV.shape{S:Nat→Prop}{w:World}{v:Value}{q:Rat}(h:RatV w S v q):∃b a n c b2 a2 n2 c2,v= .agg #[.bool b,.slice a n c,.bool b2,.slice a2 n2 c2]:=by
 obtain⟨a,b,h1,_⟩:=h;exact h1.shape
theorem ratio_self(q:Rat):ratio q.num q.den=q:=by rw[ratio,if_neg (den_ne q),Rat.num_divInt_den]
section
variable{S S':Nat→Prop}{H:Hp}{nx:Nat}{iv iv':Iv}{B:Nat}{w w' w2:World}{ρ:Nat→Sx.Val}{v:Value}{q:Rat}
end

end Go.Ex

/- signs of fractions; the floor of a fraction. Plain. -/
namespace Go.Ex
theorem rs_neg(q:Rat):rs (-q)= -rs q:=by rw[rs,rs,Rat.neg_num,Int.sign_neg]
end Go.Ex

/- The reference's integers: columns, Int, Minus, Size, at, Sum, Diff, Sign, CmpInt. Printed by program. No condition but sizes. -/
namespace Go.Ex
open Go Go.Sx Go.Proofs

/-- an integer with at most so many limbs -/
def IntL(w:World)(S:Nat→Prop)(v:Value)(k:Nat)(z:Int):Prop:=∃neg ls,IntV w S v neg ls∧sg neg (val ls)=z∧ls.length≤k
theorem IntL.keep{S:Nat→Prop}{w w2:World}{v:Value}{k:Nat}{z:Int}(h:IntL w S v k z)(hk:∀g,S g→w2.heap[g]? =w.heap[g]?):IntL w2 S v k z:=by
 obtain⟨n,l,h1,h2⟩:=h;exact⟨n,l,h1.keep hk,h2⟩
theorem IntL.weak{S S':Nat→Prop}{w:World}{v:Value}{k:Nat}{z:Int}(h:IntL w S v k z)(hk:∀g,S g→S' g):IntL w S' v k z:=by
 obtain⟨n,l,h1,h2⟩:=h;exact⟨n,l,h1.weak hk,h2⟩
theorem IntL.r{S:Nat→Prop}{w:World}{v:Value}{k:Nat}{z:Int}(h:IntL w S v k z):IntR w S v z:=by
 obtain⟨n,l,h1,h2,_⟩:=h;exact⟨n,l,h1,h2⟩
theorem IntL.up{S:Nat→Prop}{w:World}{v:Value}{k k':Nat}{z:Int}(h:IntL w S v k z)(hk:k≤k'):IntL w S v k' z:=by
 obtain⟨n,l,h1,h2,h3⟩:=h;exact⟨n,l,h1,h2,by omega⟩
theorem IntL.shape{S:Nat→Prop}{w:World}{v:Value}{k:Nat}{z:Int}(h:IntL w S v k z):∃b a n c,v= .agg #[.bool b,.slice a n c]:=h.r.shape
theorem IntC.l{S:Nat→Prop}{w:World}{v:Value}{k:Nat}{z:Int}(h:IntC w S v z)(hk:ln z.natAbs≤k):IntL w S v k z:=by
 obtain⟨l,h1,h2,h3⟩:=h
 obtain⟨_,_,hl⟩:=h1
 have:=length_ln hl.lm h2
 rw[h3]at this
 exact⟨_,l,⟨_,‹_›,hl⟩,by rw[h3,sg_natAbs],by omega⟩
section
variable{S S':Nat→Prop}{H:Hp}{nx:Nat}{iv iv':Iv}{B:Nat}{w w' w2:World}{ρ:Nat→Sx.Val}{v:Value}{k:Nat}{z:Int}
theorem IntL.rel(h:IntL w (Cv S B iv) v k z)(r:Rel H nx iv B w ρ w')(hS:∀g,S g→g<B):IntL w' (Cv S B iv) v k z:=h.keep fun _ hg=>Rel.same r hS hg
theorem IntL.past(h:IntL w (Cv S B iv) v k z)(r:Rel H nx iv B w ρ w')(hS:∀g,S g→g<B)(he:Ext w' w2)(hm:∀p,p∈iv→p∈iv'):IntL w2 (Cv S B iv') v k z:=
 ((h.rel r hS).keep fun g hg=>he.block g (Rel.old r hS g hg)).weak fun _ hg=>hg.mono hm
end
section
variable{S S':Nat→Prop}{H:Hp}{nx:Nat}{iv iv':Iv}{B:Nat}{w w' w2:World}{ρ:Nat→Sx.Val}{v:Value}{cs:List Int}
theorem ColsR.rel(h:ColsR w (Cv S B iv) v cs)(r:Rel H nx iv B w ρ w')(hS:∀g,S g→g<B):ColsR w' (Cv S B iv) v cs:=ColsR.keep h fun _ hg=>Rel.same r hS hg
theorem ColsR.past(h:ColsR w (Cv S B iv) v cs)(r:Rel H nx iv B w ρ w')(hS:∀g,S g→g<B)(he:Ext w' w2)(hm:∀p,p∈iv→p∈iv'):ColsR w2 (Cv S B iv') v cs:=
 (ColsR.keep (h.rel r hS) fun g hg=>he.block g (Rel.old r hS g hg)).weak fun _ hg=>hg.mono hm
theorem ColsR.got(h:ColsR w2 (Nw (fun _=>False) w' w2) v cs)(hB:B≤w'.heap.size)(hm:(w'.heap.size,w2.heap.size)∈iv):ColsR w2 (Cv S B iv) v cs:=ColsR.weak h fun _ hg=>hg.got hB hm
end

def sgn(b:Bool):Int:=if b then -1 else 1
theorem sgn_or(b:Bool):sgn b=1∨sgn b= -1:=by cases b<;>simp[sgn]
theorem sgn_val(b:Bool)(n:Nat):sgn b*(n:Int)=sg b n:=by cases b<;>simp[sgn,sg]
theorem rcolumns_c{S:Nat→Prop}{w:World}{v:Value}{neg:Bool}{ls:List Nat}(hS:Old S w)(h:IntV w S v neg ls)(hl:ls.length≤40000000):
  Con PG N.ref01_columns #[v] w (Ret w fun v' w2=>ColsR w2 (Nw (fun _=>False) w w2) v' (limbCols (sgn neg) ls)):=by
 obtain⟨lv,rfl,hL⟩:=h
 have hlm:=hL.lm
 obtain⟨a,c,rfl,hc,hcell⟩:=hL.sl
 refine in_ref01_columns (by simp) ?_
 conv=>whnf
 cases neg with
 |true=>
  conv=>whnf
  refine⟨Nat×World,fun z=>⟨[(1,.o (.p 0 0)),(3,.o (.v (.int .i64 (-1)))),(4,.o (.w 1 (2*z.1))),(5,.o (.v (.int .i64 z.1)))],[(1,.vec T.int 1 ((limbCols (-1) (ls.take z.1)).map (Value.int .i64))),(0,.box T.Int [.v (.bool true),.v (.slice a ls.length c)])],2,[],z.2⟩,fun z=>ls.length-z.1,
   fun z=>Bel w.heap.size w z.2∧z.1≤ls.length,?_,?_⟩
  ·intro ρ w' r
   exact⟨(0,w'),⟨r.bel,by simp⟩,Sub.nil 4 T.int 1 rfl (by simp[ScE,SV.sc,At.sc,initE]) r fun ρ1 r1=>
    Sub.gen [] r1 ⟨rfl,rfl,trivial⟩ ⟨rfl,rfl,rfl,rfl,trivial⟩ (by simp[ScH,Blk.scopd,At.sc]) (by simp[ScE,SV.sc,At.sc]) (by rfl) (by simp)⟩
  rintro⟨i,w1⟩ ⟨hw,hi⟩
  dsimp only at hw hi ⊢
  have hln:((limbCols (-1) (ls.take i)).map (Value.int .i64)).length=2*i:=by rw[List.length_map,limbCols_length,List.length_take];omega
  conv=>whnf
  refine BrS.mk (fun h=>?_) (fun h=>?_)
  ·have h:i<ls.length:=by simpa using h
   obtain⟨x,hx⟩:∃x,ls[i]? =some x:=⟨_,List.getElem?_eq_getElem h⟩
   have hx32:=hlm x (List.mem_of_getElem? hx)
   obtain⟨ad,rfl,q1,q2⟩:=hcell i x hx
   have htk:limbCols (-1) (ls.take (i+1))=limbCols (-1) (ls.take i)++[(-1)*((x % 65536:Nat):Int),(-1)*((x / 65536:Nat):Int)]:=by rw[List.take_add_one,hx,Option.toList_some,limbCols_append];rfl
   conv=>whnf
   refine⟨ad,rfl,⟨by omega,by omega⟩,?_⟩
   conv=>whnf
   refine⟨.int .u32 x,fun ρ w' r=>?_,?_⟩
   ·rw[Int.toNat_natCast,Nat.mul_one];exact cellS hS hw r q1 q2
   conv=>whnf
   refine⟨(x:Int),by rw[wrap64]<;>omega,?_⟩
   conv=>whnf
   refine⟨by decide,((x % 65536:Nat):Int),rfl,?_⟩
   conv=>whnf
   refine⟨(-1)*((x % 65536:Nat):Int),by rw[wrap64]<;>omega,?_⟩
   conv=>whnf
   refine⟨by decide,((x / 65536:Nat):Int),by rw[show (x:Int).tdiv 65536=((x / 65536:Nat):Int)from rfl,wrap64]<;>omega,?_⟩
   conv=>whnf
   refine⟨(-1)*((x / 65536:Nat):Int),by rw[wrap64]<;>omega,?_⟩
   conv=>whnf
   refine .inl ?_
   conv=>whnf
   refine⟨by rw[hln,Nat.mul_one],by omega,by unfold maxLen;omega,?_⟩
   conv=>whnf
   refine⟨((i+1:Nat):Int),by rw[wrap64]<;>omega,?_⟩
   conv=>whnf
   intro ρ3 w3 r3
   have hm5:(limbCols (-1) (ls.take (i+1))).map (Value.int .i64)=(limbCols (-1) (ls.take i)).map (Value.int .i64)++[.int .i64 ((-1)*((x % 65536:Nat):Int)),.int .i64 ((-1)*((x / 65536:Nat):Int))]:=by
    rw[htk];simp
   exact⟨(i+1,w3),⟨hw.tr r3.bel,by dsimp only;omega⟩,Sub.gen [(1,3)] r3 ⟨by dsimp only;rw[hm5];rfl,rfl,trivial⟩ ⟨rfl,rfl,rfl,rfl,trivial⟩ (by simp[ScH,Blk.scopd,At.sc]) (by simp[ScE,SV.sc,At.sc]) (by rfl) (fun lo hi h=>h),by dsimp only;omega⟩
  have h:i=ls.length:=by
   have:¬i<ls.length:=by simpa using h
   omega
  subst h
  rw[List.take_length]at hln ⊢
  conv=>whnf
  intro ρe we re
  have hrow:=re.vecRow (id:=1) (m:=2*ls.length) rfl (by rw[hln,Nat.mul_one]) (by decide)
  have hcols:=rowCols hrow (by rw[limbCols_length]) (by unfold maxLen;omega)
  refine⟨_,rfl,hw.tr re.bel,ColsR.weak hcols fun g hg=>.inr ?_⟩
  have:=ownsRow.low hrow g hg
  exact this
 |false=>
  conv=>whnf
  refine⟨Nat×World,fun z=>⟨[(1,.o (.p 0 0)),(3,.o (.v (.int .i64 (1)))),(4,.o (.w 1 (2*z.1))),(5,.o (.v (.int .i64 z.1)))],[(1,.vec T.int 1 ((limbCols (1) (ls.take z.1)).map (Value.int .i64))),(0,.box T.Int [.v (.bool false),.v (.slice a ls.length c)])],2,[],z.2⟩,fun z=>ls.length-z.1,
   fun z=>Bel w.heap.size w z.2∧z.1≤ls.length,?_,?_⟩
  ·intro ρ w' r
   exact⟨(0,w'),⟨r.bel,by simp⟩,Sub.nil 4 T.int 1 rfl (by simp[ScE,SV.sc,At.sc,initE]) r fun ρ1 r1=>
    Sub.gen [] r1 ⟨rfl,rfl,trivial⟩ ⟨rfl,rfl,rfl,rfl,trivial⟩ (by simp[ScH,Blk.scopd,At.sc]) (by simp[ScE,SV.sc,At.sc]) (by rfl) (by simp)⟩
  rintro⟨i,w1⟩ ⟨hw,hi⟩
  dsimp only at hw hi ⊢
  have hln:((limbCols (1) (ls.take i)).map (Value.int .i64)).length=2*i:=by rw[List.length_map,limbCols_length,List.length_take];omega
  conv=>whnf
  refine BrS.mk (fun h=>?_) (fun h=>?_)
  ·have h:i<ls.length:=by simpa using h
   obtain⟨x,hx⟩:∃x,ls[i]? =some x:=⟨_,List.getElem?_eq_getElem h⟩
   have hx32:=hlm x (List.mem_of_getElem? hx)
   obtain⟨ad,rfl,q1,q2⟩:=hcell i x hx
   have htk:limbCols (1) (ls.take (i+1))=limbCols (1) (ls.take i)++[(1)*((x % 65536:Nat):Int),(1)*((x / 65536:Nat):Int)]:=by rw[List.take_add_one,hx,Option.toList_some,limbCols_append];rfl
   conv=>whnf
   refine⟨ad,rfl,⟨by omega,by omega⟩,?_⟩
   conv=>whnf
   refine⟨.int .u32 x,fun ρ w' r=>?_,?_⟩
   ·rw[Int.toNat_natCast,Nat.mul_one];exact cellS hS hw r q1 q2
   conv=>whnf
   refine⟨(x:Int),by rw[wrap64]<;>omega,?_⟩
   conv=>whnf
   refine⟨by decide,((x % 65536:Nat):Int),rfl,?_⟩
   conv=>whnf
   refine⟨(1)*((x % 65536:Nat):Int),by rw[wrap64]<;>omega,?_⟩
   conv=>whnf
   refine⟨by decide,((x / 65536:Nat):Int),by rw[show (x:Int).tdiv 65536=((x / 65536:Nat):Int)from rfl,wrap64]<;>omega,?_⟩
   conv=>whnf
   refine⟨(1)*((x / 65536:Nat):Int),by rw[wrap64]<;>omega,?_⟩
   conv=>whnf
   refine .inl ?_
   conv=>whnf
   refine⟨by rw[hln,Nat.mul_one],by omega,by unfold maxLen;omega,?_⟩
   conv=>whnf
   refine⟨((i+1:Nat):Int),by rw[wrap64]<;>omega,?_⟩
   conv=>whnf
   intro ρ3 w3 r3
   have hm5:(limbCols (1) (ls.take (i+1))).map (Value.int .i64)=(limbCols (1) (ls.take i)).map (Value.int .i64)++[.int .i64 ((1)*((x % 65536:Nat):Int)),.int .i64 ((1)*((x / 65536:Nat):Int))]:=by
    rw[htk];simp
   exact⟨(i+1,w3),⟨hw.tr r3.bel,by dsimp only;omega⟩,Sub.gen [(1,3)] r3 ⟨by dsimp only;rw[hm5];rfl,rfl,trivial⟩ ⟨rfl,rfl,rfl,rfl,trivial⟩ (by simp[ScH,Blk.scopd,At.sc]) (by simp[ScE,SV.sc,At.sc]) (by rfl) (fun lo hi h=>h),by dsimp only;omega⟩
  have h:i=ls.length:=by
   have:¬i<ls.length:=by simpa using h
   omega
  subst h
  rw[List.take_length]at hln ⊢
  conv=>whnf
  intro ρe we re
  have hrow:=re.vecRow (id:=1) (m:=2*ls.length) rfl (by rw[hln,Nat.mul_one]) (by decide)
  have hcols:=rowCols hrow (by rw[limbCols_length]) (by unfold maxLen;omega)
  refine⟨_,rfl,hw.tr re.bel,ColsR.weak hcols fun g hg=>.inr ?_⟩
  have:=ownsRow.low hrow g hg
  exact this
end Go.Ex

/- The reference's integers: Int, Minus, Size, at, Sign. Printed by program. No condition but sizes. -/
namespace Go.Ex
open Go Go.Sx Go.Proofs

/-- columns of a number -/
def ColB(cs:List Int)(n:Nat)(z:Int):Prop:=colval cs=z∧cs.length≤n∧(∀c∈cs,-65535≤c∧c≤65535)∧(0≤z→∀c∈cs,0≤c)
theorem limbCols_zero(s:Int){ls:List Nat}(h:val ls=0):∀c∈limbCols s ls,c=0:=fun c hc=>by
 induction ls with
 |nil=>cases hc
 |cons l r ih=>
  have h:l+4294967296*val r=0:=h
  have h1:l=0:=by omega
  have h2:val r=0:=by omega
  subst h1
  rw[limbCols]at hc
  rcases List.mem_cons.1 hc with rfl|hc
  ·simp
  rcases List.mem_cons.1 hc with rfl|hc
  ·simp
  ·exact ih h2 hc
theorem IntL.limbs{S:Nat→Prop}{w:World}{v:Value}{k:Nat}{z:Int}(h:IntL w S v k z):∃b a ls c,v= .agg #[.bool b,.slice a ls.length c]∧Limbs w S (.slice a ls.length c) ls∧sg b (val ls)=z∧ls.length≤k:=by
 obtain⟨b,ls,⟨lv,rfl,hl⟩,hz,hk⟩:=h
 obtain⟨a,c,rfl,_⟩:=hl.sl
 exact⟨b,a,ls,c,rfl,hl,hz,hk⟩
theorem IntL.ln{S:Nat→Prop}{w:World}{v:Value}{k:Nat}{z:Int}(h:IntL w S v k z):ln z.natAbs≤k:=by
 obtain⟨b,a,ls,c,_,hl,hz,hk⟩:=h.limbs
 rw[←hz,sg_abs]
 exact ln_limbs hl.lm hk
theorem IntL.neg{S:Nat→Prop}{w:World}{lv:Value}{b:Bool}{k:Nat}{z:Int}(h:IntL w S (.agg #[.bool b,lv]) k z):IntL w S (.agg #[.bool (!b),lv]) k (-z):=by
 obtain⟨b,ls,⟨lv,e,hl⟩,hz,hk⟩:=h
 simp only[Value.agg.injEq,Array.mk.injEq,List.cons.injEq,Value.bool.injEq,and_true]at e
 obtain⟨rfl,rfl⟩:=e
 refine⟨_,ls,⟨_,rfl,hl⟩,?_,hk⟩
 rw[←hz]
 cases b<;>simp[sg]
theorem IntL.abs{S:Nat→Prop}{w:World}{lv:Value}{b:Bool}{k:Nat}{z:Int}(h:IntL w S (.agg #[.bool b,lv]) k z):IntL w S (.agg #[.bool false,lv]) k (z.natAbs:Int):=by
 obtain⟨b,ls,⟨lv,e,hl⟩,hz,hk⟩:=h
 simp only[Value.agg.injEq,Array.mk.injEq,List.cons.injEq,Value.bool.injEq,and_true]at e
 obtain⟨rfl,rfl⟩:=e
 exact⟨_,ls,⟨_,rfl,hl⟩,by rw[←hz,sg_abs];rfl,hk⟩
theorem rcols_c{S:Nat→Prop}{w:World}{v:Value}{k:Nat}{z:Int}(hS:Old S w)(h:IntL w S v k z)(hk:k≤40000000):
  Con PG N.ref01_columns #[v] w (Ret w fun v' w2=>∃cs,ColsR w2 (Nw (fun _=>False) w w2) v' cs∧ColB cs (2*k) z):=by
 obtain⟨b,ls,hi,hz,hl⟩:=h
 have hlm:Lm ls:=by obtain⟨_,_,h⟩:=hi;exact h.lm
 refine(rcolumns_c hS hi (by omega)).mono fun _ w2 ⟨v2,e1,e2,e3⟩=>⟨v2,e1,e2,_,e3,by rw[limbCols_val,sgn_val,hz],by rw[limbCols_length];omega,limbCols_bound (sgn_or b) hlm,fun h0=>?_⟩
 cases b with
 |false=>exact fun c hc=>(limbCols_digits hlm c hc).1
 |true=>
  rw[sg_t]at hz
  exact fun c hc=>by rw[limbCols_zero _ (show val ls=0 by omega) c hc];decide
theorem rsettled_c{S:Nat→Prop}{w:World}{v:Value}{cs:List Int}{n:Nat}{z:Int}(hS:Old S w)(h:ColsR w S v cs)(hb:ColB cs n z)(hn:n≤100000000):
  Con PG N.ref01_settled #[v] w (Ret w fun v' w2=>IntC w2 (Nw (fun _=>False) w w2) v' z):=by
 have:=settled_c hS h (fun c hc=>by have:=hb.2.2.1 c hc;omega) (by have:=hb.2.1;omega)
 rw[hb.1]at this
 exact this
theorem rInt_c{S:Nat→Prop}{w:World}{v:Value}{k:Nat}{x:Int}(hS:Old S w)(hx:IntL w S v k x)(hk:k≤40000000):
  Con PG N.ref01_Int #[v] w (Ret w fun v' w2=>IntC w2 (Nw (fun _=>False) w w2) v' x):=by
 have hw:Bel w.heap.size w w:=Bel.refl
 replace hx:=hx.weak (S':=Cv S w.heap.size []) fun _ h=>.inl h
 obtain⟨b1,a1,n1,c1,rfl⟩:=hx.shape
 refine in_ref01_Int (by simp) ?_
 conv=>whnf
 refine callE_S (callE_con (Φ:=fun _ w' v w2=>∃cs,ColsR w2 (Nw (fun _=>False) w' w2) v cs∧ColB cs (2*k) (x)) (fun ρ w' r=>rcols_c (Rel.old r hS) (hx.rel r hS) (by omega)) ?_)
 rintro ρ wa1 v1 wb1 r he hb ⟨cs,k1,bcs⟩
 replace hw:=hw.tr hb
 clear hx
 have hc:=k1.got (S:=fun _=>False) r.baseLe (iv:=(wa1.heap.size,wb1.heap.size)::[]) List.mem_cons_self
 clear r he hb
 generalize (wa1.heap.size,wb1.heap.size)::[]=iv1 at*
 clear k1
 obtain⟨acs,ccs,rfl,lcs⟩:=hc.shape
 conv=>whnf
 refine callE_S (callE_con (Φ:=fun _ w' v w2=>IntC w2 (Nw (fun _=>False) w' w2) v (x)) (fun ρ w' r=>rsettled_c (Rel.old r (oldF w)) (hc.rel r (oldF w)) bcs (by omega)) ?_)
 rintro ρ wa2 v2 wb2 r he hb hn
 replace hw:=hw.tr hb
 clear hc
 have hC:=hn.got (S:=fun _=>False) r.baseLe (iv:=(wa2.heap.size,wb2.heap.size)::iv1) List.mem_cons_self
 clear r he hb hn
 generalize (wa2.heap.size,wb2.heap.size)::iv1=iv2 at*
 obtain⟨s2_0,s2_1,s2_2,s2_3,rfl⟩:=hC.shape
 conv=>whnf
 intro ρe we re
 exact⟨_,rfl,hw.tr re.bel,hC.out re (oldF w)⟩
theorem rMinus_c{S:Nat→Prop}{w:World}{v:Value}{k:Nat}{x:Int}(hS:Old S w)(hx:IntL w S v k x)(hk:k≤40000000):
  Con PG N.ref01_Minus #[v] w (Ret w fun v' w2=>IntC w2 (Nw (fun _=>False) w w2) v' (-x)):=by
 have hw:Bel w.heap.size w w:=Bel.refl
 replace hx:=hx.weak (S':=Cv S w.heap.size []) fun _ h=>.inl h
 obtain⟨b1,a1,n1,c1,rfl⟩:=hx.shape
 replace hx:=hx.neg
 refine in_ref01_Minus (by simp) ?_
 conv=>whnf
 refine callE_S (callE_con (Φ:=fun _ w' v w2=>IntC w2 (Nw (fun _=>False) w' w2) v (-x)) (fun ρ w' r=>rInt_c (Rel.old r hS) (hx.rel r hS) hk) ?_)
 rintro ρ wa1 v1 wb1 r he hb hn
 replace hw:=hw.tr hb
 clear hx
 have hC:=hn.got (S:=fun _=>False) r.baseLe (iv:=(wa1.heap.size,wb1.heap.size)::[]) List.mem_cons_self
 clear r he hb hn
 generalize (wa1.heap.size,wb1.heap.size)::[]=iv1 at*
 obtain⟨s1_0,s1_1,s1_2,s1_3,rfl⟩:=hC.shape
 conv=>whnf
 intro ρe we re
 exact⟨_,rfl,hw.tr re.bel,hC.out re (oldF w)⟩
theorem rSize_c{S:Nat→Prop}{w:World}{v:Value}{k:Nat}{x:Int}(hS:Old S w)(hx:IntL w S v k x)(hk:k≤40000000):
  Con PG N.ref01_Size #[v] w (Ret w fun v' w2=>IntC w2 (Nw (fun _=>False) w w2) v' ((x.natAbs:Int))):=by
 have hw:Bel w.heap.size w w:=Bel.refl
 replace hx:=hx.weak (S':=Cv S w.heap.size []) fun _ h=>.inl h
 obtain⟨b1,a1,n1,c1,rfl⟩:=hx.shape
 replace hx:=hx.abs
 refine in_ref01_Size (by simp) ?_
 conv=>whnf
 refine callE_S (callE_con (Φ:=fun _ w' v w2=>IntC w2 (Nw (fun _=>False) w' w2) v ((x.natAbs:Int))) (fun ρ w' r=>rInt_c (Rel.old r hS) (hx.rel r hS) hk) ?_)
 rintro ρ wa1 v1 wb1 r he hb hn
 replace hw:=hw.tr hb
 clear hx
 have hC:=hn.got (S:=fun _=>False) r.baseLe (iv:=(wa1.heap.size,wb1.heap.size)::[]) List.mem_cons_self
 clear r he hb hn
 generalize (wa1.heap.size,wb1.heap.size)::[]=iv1 at*
 obtain⟨s1_0,s1_1,s1_2,s1_3,rfl⟩:=hC.shape
 conv=>whnf
 intro ρe we re
 exact⟨_,rfl,hw.tr re.bel,hC.out re (oldF w)⟩
theorem rat_c{S:Nat→Prop}{w:World}{v:Value}{cs:List Int}{i:Nat}(hS:Old S w)(h:ColsR w S v cs):
  Con PG N.ref01_at #[v,.int .i64 i] w (Ret w fun v' _=>v'= .int .i64 (cs.getD i 0)):=by
 obtain⟨a,c,rfl,hc⟩:=h.shape
 refine in_ref01_at (by simp) ?_
 conv=>whnf
 refine BrS.mk (fun hi=>?_) (fun hi=>?_)
 ·have hi:i<cs.length:=by simpa using hi
  obtain⟨x,hx⟩:∃x,cs[i]? =some x:=⟨_,List.getElem?_eq_getElem hi⟩
  obtain⟨ad,rfl,q1,q2⟩:=h.load hx
  conv=>whnf
  refine⟨ad,rfl,⟨by omega,by omega⟩,?_⟩
  conv=>whnf
  refine⟨.int .i64 x,fun ρ w' r=>?_,?_⟩
  ·rw[Int.toNat_natCast];exact cellS hS Bel.refl r q1 q2
  conv=>whnf
  intro ρ w2 r
  exact⟨_,rfl,r.bel,by rw[List.getD,hx];rfl⟩
 ·have hi:cs.length≤i:=by
   have:¬i<cs.length:=by simpa using hi
   omega
  conv=>whnf
  intro ρ w2 r
  exact⟨_,rfl,r.bel,by rw[List.getD,List.getElem?_eq_none hi];rfl⟩
theorem val_zero{ls:List Nat}(h:∀x∈ls,x=0):val ls=0:=by
 induction ls with
 |nil=>rfl
 |cons l r ih=>rw[val,h l List.mem_cons_self,ih fun x hx=>h x (List.mem_cons_of_mem _ hx)]
theorem val_pos{ls:List Nat}{x:Nat}(h:x∈ls)(hx:x≠0):0<val ls:=by
 induction ls with
 |nil=>cases h
 |cons l r ih=>
  rw[val]
  rcases List.mem_cons.1 h with rfl|h
  ·omega
  ·have:=ih h;omega
theorem rSign_c{S:Nat→Prop}{w:World}{v:Value}{x:Int}(hS:Old S w)(hx:IntR w S v x):
  Con PG N.ref01_Sign #[v] w (Ret w fun v' _=>v'= .int .i64 x.sign):=by
 obtain⟨b,ls,⟨lv,rfl,h1⟩,hz⟩:=hx
 obtain⟨a,c,rfl,_,ha⟩:=h1.sl
 have hle1:=h1.le
 refine in_ref01_Sign (by simp) ?_
 conv=>whnf
 refine⟨Nat×World,fun z=>⟨[(1,.o (.p 0 0)),(3,.o (.v (.int .i64 z.1)))],[(0,.box T.Int [.v (.bool b),.v (.slice a ls.length c)])],1,[],z.2⟩,fun z=>ls.length-z.1,
  fun z=>z.1≤ls.length∧Bel w.heap.size w z.2∧∀x∈ls.take z.1,x=0,?_,?_⟩
 ·intro ρ w' r
  exact⟨(0,w'),⟨by simp,r.bel,by simp⟩,Sub.gen [] r ⟨rfl,trivial⟩ ⟨rfl,rfl,trivial⟩ (by simp[ScH,Blk.scopd,At.sc]) (by simp[ScE,SV.sc,At.sc]) (by rfl) (fun lo hi h=>h)⟩
 rintro⟨i,w1⟩ ⟨hi,hw,ht⟩
 dsimp only at hi hw ht ⊢
 conv=>whnf
 refine BrS.mk (fun hib=>?_) (fun hib=>?_)
 ·have hib:i<ls.length:=by simpa using hib
  obtain⟨y,hy⟩:∃x,ls[i]? =some x:=⟨_,List.getElem?_eq_getElem hib⟩
  obtain⟨ad,rfl,q1,q2⟩:=ha i y hy
  conv=>whnf
  refine⟨ad,rfl,⟨by omega,by omega⟩,?_⟩
  conv=>whnf
  refine⟨.int .u32 y,fun ρ w' r=>by rw[Int.toNat_natCast,Nat.mul_one];exact cellS hS hw r q1 q2,?_⟩
  conv=>whnf
  refine BrS.mk (fun hne=>?_) (fun hne=>?_)
  ·have hne:y≠0:=fun h=>by rw[h]at hne;simp at hne
   have hp:=val_pos (List.mem_of_getElem? hy) hne
   conv=>whnf
   cases b with
   |true=>
    rw[sg_t]at hz
    conv=>whnf
    intro ρ w2 r
    exact⟨_,rfl,hw.tr r.bel,by rw[Int.sign_eq_neg_one_of_neg (by omega)];rfl⟩
   |false=>
    rw[sg_f]at hz
    conv=>whnf
    intro ρ w2 r
    exact⟨_,rfl,hw.tr r.bel,by rw[Int.sign_eq_one_of_pos (by omega)];rfl⟩
  have hne:y=0:=by simpa using hne
  subst hne
  have ht2:∀x∈ls.take (i+1),x=0:=fun x hx=>by
   rw[List.take_add_one,hy]at hx
   rcases List.mem_append.1 hx with hx|hx
   ·exact ht x hx
   ·simpa using hx
  conv=>whnf
  refine⟨((i+1:Nat):Int),by rw[wrap64]<;>omega,?_⟩
  conv=>whnf
  intro ρ3 w3 r3
  exact⟨(i+1,w3),⟨hib,hw.tr r3.bel,ht2⟩,Sub.gen [] r3 ⟨rfl,trivial⟩ ⟨rfl,rfl,trivial⟩ (by simp[ScH,Blk.scopd,At.sc]) (by simp[ScE,SV.sc,At.sc]) (by rfl) (fun lo hi h=>h),by dsimp only;omega⟩
 have hib:i=ls.length:=by
  have:¬i<ls.length:=by simpa using hib
  omega
 subst hib
 rw[List.take_length]at ht
 conv=>whnf
 intro ρ w2 r
 refine⟨_,rfl,hw.tr r.bel,?_⟩
 rw[←hz,val_zero ht]
 cases b<;>rfl
end Go.Ex

/- The reference's integers: Sum, Diff, CmpInt. Printed by program. No condition but sizes. -/
namespace Go.Ex
open Go Go.Sx Go.Proofs

theorem ColB.at{cs:List Int}{n:Nat}{z:Int}(h:ColB cs n z)(i:Nat): -65535≤cs.getD i 0∧cs.getD i 0≤65535:=by
 rw[List.getD]
 cases hj:cs[i]? with
 |none=>simp
 |some d=>exact h.2.2.1 d (List.mem_of_getElem? hj)
end Go.Ex
namespace Go.Sx
open Go Go.Ex Go.Proofs
/-- a row of one's own, given to a function as columns -/
theorem Rel.vecCols{H:Hp}{nx:Nat}{iv:Iv}{B:Nat}{w w':World}{ρ:Nat→Sx.Val}(r:Rel H nx iv B w ρ w'){id m:Nat}{cs:List Int}(h:getH H id=some (.vec T.int 1 (cs.map (Value.int .i64))))(hm:m=cs.length)(hl:m≤maxLen):
  ∃S',Old S' w'∧ColsR w' S' ((SV.o (.w id m)).den ρ) cs:=by
 have hrow:=r.vecRow (m:=m) h (by rw[List.length_map,hm,Nat.mul_one]) (by decide)
 exact⟨_,fun g hg=>(ownsRow.low hrow g hg).2,rowCols hrow hm hl⟩
end Go.Sx
namespace Go.Ex
open Go Go.Sx Go.Proofs
/-- columns that have been settled, as one's own row -/
theorem rsettledOwn_c{H:Hp}{nx:Nat}{iv:Iv}{B:Nat}{w w':World}{ρ:Nat→Sx.Val}(r:Rel H nx iv B w ρ w'){id m:Nat}{cs:List Int}{z:Int}(h:getH H id=some (.vec T.int 1 (cs.map (Value.int .i64))))(hm:m=cs.length)(hl:m≤100000000)
  (hb:∀c∈cs,-1152921504606846976≤c∧c≤1152921504606846976) (hz:colval cs=z):Con PG N.ref01_settled #[(SV.o (.w id m)).den ρ] w' (Ret w' fun v' w2=>IntC w2 (Nw (fun _=>False) w' w2) v' z):=by
 subst hz
 obtain⟨S',h1,h2⟩:=r.vecCols h hm (by unfold maxLen;omega)
 exact settled_c h1 h2 hb (by omega)
theorem rSum_c{S:Nat→Prop}{w:World}{v u:Value}{k l:Nat}{x y:Int}(hS:Old S w)(hx:IntL w S v k x)(hy:IntL w S u l y)(hk:k≤10000000)(hl:l≤10000000):
  Con PG N.ref01_Sum #[v,u] w (Ret w fun v' w2=>IntC w2 (Nw (fun _=>False) w w2) v' (x+y)):=by
 have hw:Bel w.heap.size w w:=Bel.refl
 replace hx:=hx.weak (S':=Cv S w.heap.size []) fun _ h=>.inl h
 replace hy:=hy.weak (S':=Cv S w.heap.size []) fun _ h=>.inl h
 obtain⟨b1,a1,n1,c1,rfl⟩:=hx.shape
 obtain⟨b2,a2,n2,c2,rfl⟩:=hy.shape
 refine in_ref01_Sum (by simp) ?_
 conv=>whnf
 refine drawn_of_pi hτ hmix [.x 0,.x 2,.x 1,.x 3,.x 4,.x 5] (by kernel_rfl) (by kernel_rfl) ?_
 conv=>whnf
 refine callE_con (Φ:=fun _ w' v w2=>∃cs,ColsR w2 (Nw (fun _=>False) w' w2) v cs∧ColB cs (2*k) (x)) (fun ρ w' r=>rcols_c (Rel.old r hS) (hx.rel r hS) (by omega)) ?_
 rintro ρ wa1 v1 wb1 r he hb ⟨ca,k1,bca⟩
 replace hw:=hw.tr hb
 clear hx
 replace hy:=hy.past (iv':=(wa1.heap.size,wb1.heap.size)::[]) r hS he fun x hx=>List.mem_cons_of_mem _ hx
 have hca:=k1.got (S:=fun _=>False) r.baseLe (iv:=(wa1.heap.size,wb1.heap.size)::[]) List.mem_cons_self
 clear r he hb
 generalize (wa1.heap.size,wb1.heap.size)::[]=iv1 at*
 clear k1
 obtain⟨aca,cca,rfl,lca⟩:=hca.shape
 conv=>whnf
 refine callE_con (Φ:=fun _ w' v w2=>∃cs,ColsR w2 (Nw (fun _=>False) w' w2) v cs∧ColB cs (2*l) (y)) (fun ρ w' r=>rcols_c (Rel.old r hS) (hy.rel r hS) (by omega)) ?_
 rintro ρ wa2 v2 wb2 r he hb ⟨cb,k1,bcb⟩
 replace hw:=hw.tr hb
 clear hy
 replace hca:=hca.past (iv':=(wa2.heap.size,wb2.heap.size)::iv1) r (oldF w) he fun x hx=>List.mem_cons_of_mem _ hx
 have hcb:=k1.got (S:=fun _=>False) r.baseLe (iv:=(wa2.heap.size,wb2.heap.size)::iv1) List.mem_cons_self
 clear r he hb
 generalize (wa2.heap.size,wb2.heap.size)::iv1=iv2 at*
 clear k1
 obtain⟨acb,ccb,rfl,lcb⟩:=hcb.shape
 conv=>whnf
 refine⟨Nat×World×Iv,fun z=>⟨[(4,.o (.p 2 0)),(5,.o (.v (.slice aca ca.length cca))),(6,.o (.v (.slice acb cb.length ccb))),(7,.o (.w 3 z.1)),(8,.o (.v (.int .i64 z.1)))],[(3,.vec T.int 1 (((List.range z.1).map fun j=>ca.getD j 0+cb.getD j 0).map (Value.int .i64))),(2,.box T.Int [.v (.bool false),.v (.slice none 0 0)])],4,z.2.2,z.2.1⟩,fun z=>max ca.length cb.length-z.1,
  fun z=>z.1≤max ca.length cb.length∧Bel w.heap.size w z.2.1∧ColsR z.2.1 (Cv (fun _=>False) w.heap.size z.2.2) (.slice aca ca.length cca) ca∧ColsR z.2.1 (Cv (fun _=>False) w.heap.size z.2.2) (.slice acb cb.length ccb) cb,?_,?_⟩
 ·intro ρ w' r
  exact⟨(0,w',iv2),⟨by simp,hw.tr r.bel,hca.rel r (oldF w),hcb.rel r (oldF w)⟩,Sub.nil 7 T.int 1 rfl (by simp[ScE,SV.sc,At.sc,initE]) r fun ρ1 r1=>
   Sub.gen [] r1 ⟨rfl,rfl,trivial⟩ ⟨rfl,rfl,rfl,rfl,rfl,trivial⟩ (by simp[ScH,Blk.scopd,At.sc]) (by simp[ScE,SV.sc,At.sc]) (by rfl) (fun lo hi h=>h)⟩
 clear hw hca hcb
 rintro⟨i,w1,iv⟩ ⟨hi,hw,hca,hcb⟩
 dsimp only at hi hw hca hcb ⊢
 have l1:=bca.2.1
 have l2:=bcb.2.1
 conv=>whnf
 refine BrS.mk (fun hib=>?_) (fun hib=>?_)
 ·have hib:i<max ca.length cb.length:=by
   have:=of_decide_eq_true hib
   omega
  conv=>whnf
  have q1:=bca.at i
  have q2:=bcb.at i
  refine callE_S (callE_con (Φ:=fun _ w' v w2=>v= .int .i64 (ca.getD i 0)) (fun ρ w' r=>rat_c (Rel.old r (oldF w)) (hca.rel r (oldF w))) ?_)
  rintro ρ wa3 v3 wb3 r he hb rfl
  replace hw:=hw.tr hb
  replace hca:=hca.past (iv':=(wa3.heap.size,wb3.heap.size)::iv) r (oldF w) he fun x hx=>List.mem_cons_of_mem _ hx
  replace hcb:=hcb.past (iv':=(wa3.heap.size,wb3.heap.size)::iv) r (oldF w) he fun x hx=>List.mem_cons_of_mem _ hx
  clear r he hb
  generalize (wa3.heap.size,wb3.heap.size)::iv=iv3 at*
  conv=>whnf
  refine callE_S (callE_con (Φ:=fun _ w' v w2=>v= .int .i64 (cb.getD i 0)) (fun ρ w' r=>rat_c (Rel.old r (oldF w)) (hcb.rel r (oldF w))) ?_)
  rintro ρ wa4 v4 wb4 r he hb rfl
  replace hw:=hw.tr hb
  replace hca:=hca.past (iv':=(wa4.heap.size,wb4.heap.size)::iv3) r (oldF w) he fun x hx=>List.mem_cons_of_mem _ hx
  replace hcb:=hcb.past (iv':=(wa4.heap.size,wb4.heap.size)::iv3) r (oldF w) he fun x hx=>List.mem_cons_of_mem _ hx
  clear r he hb
  generalize (wa4.heap.size,wb4.heap.size)::iv3=iv4 at*
  conv=>whnf
  refine⟨ca.getD i 0+cb.getD i 0,by rw[wrap64]<;>omega,?_⟩
  conv=>whnf
  refine .inl ?_
  conv=>whnf
  refine⟨by simp,by omega,by unfold maxLen;omega,?_⟩
  conv=>whnf
  refine⟨((i+1:Nat):Int),by rw[wrap64]<;>omega,?_⟩
  conv=>whnf
  intro ρ3 w3 r3
  have hm5:((List.range (i+1)).map fun j=>ca.getD j 0+cb.getD j 0).map (Value.int .i64)=((List.range i).map fun j=>ca.getD j 0+cb.getD j 0).map (Value.int .i64)++[.int .i64 (ca.getD i 0+cb.getD i 0)]:=by
   rw[List.range_succ,List.map_append,List.map_append];rfl
  exact⟨(i+1,w3,_),⟨hib,hw.tr r3.bel,hca.rel r3 (oldF w),hcb.rel r3 (oldF w)⟩,Sub.gen [(3,5)] r3 ⟨by dsimp only;rw[hm5];rfl,rfl,trivial⟩ ⟨rfl,rfl,rfl,rfl,rfl,trivial⟩ (by simp[ScH,Blk.scopd,At.sc]) (by simp[ScE,SV.sc,At.sc]) (by rfl) (fun lo hi h=>h),by dsimp only;omega⟩
 have hib:i=max ca.length cb.length:=by
  have:=of_decide_eq_false hib
  omega
 clear hca hcb
 conv=>whnf
 generalize hcs:((List.range i).map fun j=>ca.getD j 0+cb.getD j 0)=cs
 have hz:colval cs=x+y:=by
  rw[←hcs,colsum_map,colsum_add,colsum_getD ca i (by omega),colsum_getD cb i (by omega),bca.1,bcb.1]
 have hlen:i=cs.length:=by rw[←hcs];simp
 have hbd:∀c∈cs,-1152921504606846976≤c∧c≤1152921504606846976:=fun c hc=>by
  rw[←hcs]at hc
  obtain⟨j,_,rfl⟩:=List.mem_map.1 hc
  have:=bca.at j
  have:=bcb.at j
  omega
 refine callE_S (callE_con (Φ:=fun _ w' v w2=>IntC w2 (Nw (fun _=>False) w' w2) v (x+y)) (fun ρ w' r=>rsettledOwn_c r rfl hlen (by omega) hbd hz) ?_)
 rintro ρ wa3 v3 wb3 r he hb hn
 replace hw:=hw.tr hb
 have hC:=hn.got (S:=fun _=>False) r.baseLe (iv:=(wa3.heap.size,wb3.heap.size)::iv) List.mem_cons_self
 clear r he hb hn
 generalize (wa3.heap.size,wb3.heap.size)::iv=iv3 at*
 obtain⟨s3_0,s3_1,s3_2,s3_3,rfl⟩:=hC.shape
 conv=>whnf
 intro ρe we re
 exact⟨_,rfl,hw.tr re.bel,hC.out re (oldF w)⟩
theorem rDiff_c{S:Nat→Prop}{w:World}{v u:Value}{k l:Nat}{x y:Int}(hS:Old S w)(hx:IntL w S v k x)(hy:IntL w S u l y)(hk:k≤10000000)(hl:l≤10000000):
  Con PG N.ref01_Diff #[v,u] w (Ret w fun v' w2=>IntC w2 (Nw (fun _=>False) w w2) v' (x-y)):=by
 have hly:=hy.ln
 have hw:Bel w.heap.size w w:=Bel.refl
 replace hx:=hx.weak (S':=Cv S w.heap.size []) fun _ h=>.inl h
 replace hy:=hy.weak (S':=Cv S w.heap.size []) fun _ h=>.inl h
 obtain⟨b1,a1,n1,c1,rfl⟩:=hx.shape
 obtain⟨b2,a2,n2,c2,rfl⟩:=hy.shape
 refine in_ref01_Diff (by simp) ?_
 conv=>whnf
 refine drawn_of_pi hτ hmix [.x 0,.x 1,.x 2,.x 3,.x 4] (by kernel_rfl) (by kernel_rfl) ?_
 conv=>whnf
 refine callE_con (Φ:=fun _ w' v w2=>IntC w2 (Nw (fun _=>False) w' w2) v (-y)) (fun ρ w' r=>rMinus_c (Rel.old r hS) (hy.rel r hS) (by omega)) ?_
 rintro ρ wa1 v1 wb1 r he hb hn
 replace hw:=hw.tr hb
 replace hx:=hx.past (iv':=(wa1.heap.size,wb1.heap.size)::[]) r hS he fun x hx=>List.mem_cons_of_mem _ hx
 clear hy
 have hm:=hn.got (S:=fun _=>False) r.baseLe (iv:=(wa1.heap.size,wb1.heap.size)::[]) List.mem_cons_self
 clear r he hb hn
 generalize (wa1.heap.size,wb1.heap.size)::[]=iv1 at*
 obtain⟨s1_0,s1_1,s1_2,s1_3,rfl⟩:=hm.shape
 conv=>whnf
 refine callE_con (Φ:=fun _ w' v w2=>IntC w2 (Nw (fun _=>False) w' w2) v (x-y)) (fun ρ w' r=>?_) ?_
 ·have h:=rSum_c (Rel.old r hS) (hx.rel r hS) (((hm.rel r (oldF w)).l (k:=l) (by rw[Int.natAbs_neg];exact hly)).weak fun g hg=>Cv.false hg) hk hl
  rw[←Int.sub_eq_add_neg]at h
  exact h
 rintro ρ wa2 v2 wb2 r he hb hn
 replace hw:=hw.tr hb
 clear hx
 clear hm
 have hC:=hn.got (S:=fun _=>False) r.baseLe (iv:=(wa2.heap.size,wb2.heap.size)::iv1) List.mem_cons_self
 clear r he hb hn
 generalize (wa2.heap.size,wb2.heap.size)::iv1=iv2 at*
 obtain⟨s2_0,s2_1,s2_2,s2_3,rfl⟩:=hC.shape
 conv=>whnf
 intro ρe we re
 exact⟨_,rfl,hw.tr re.bel,hC.out re (oldF w)⟩
theorem rCmpInt_c{S:Nat→Prop}{w:World}{v u:Value}{k l:Nat}{x y:Int}(hS:Old S w)(hx:IntL w S v k x)(hy:IntL w S u l y)(hk:k≤10000000)(hl:l≤10000000):
  Con PG N.ref01_CmpInt #[v,u] w (Ret w fun v' _=>v'= .int .i64 (x-y).sign):=by
 have hw:Bel w.heap.size w w:=Bel.refl
 replace hx:=hx.weak (S':=Cv S w.heap.size []) fun _ h=>.inl h
 replace hy:=hy.weak (S':=Cv S w.heap.size []) fun _ h=>.inl h
 obtain⟨b1,a1,n1,c1,rfl⟩:=hx.shape
 obtain⟨b2,a2,n2,c2,rfl⟩:=hy.shape
 refine in_ref01_CmpInt (by simp) ?_
 conv=>whnf
 refine callE_S (callE_con (Φ:=fun _ w' v w2=>IntC w2 (Nw (fun _=>False) w' w2) v (x-y)) (fun ρ w' r=>rDiff_c (Rel.old r hS) (hx.rel r hS) (hy.rel r hS) hk hl) ?_)
 rintro ρ wa1 v1 wb1 r he hb hn
 replace hw:=hw.tr hb
 clear hx
 clear hy
 have hd:=hn.got (S:=fun _=>False) r.baseLe (iv:=(wa1.heap.size,wb1.heap.size)::[]) List.mem_cons_self
 clear r he hb hn
 generalize (wa1.heap.size,wb1.heap.size)::[]=iv1 at*
 obtain⟨s1_0,s1_1,s1_2,s1_3,rfl⟩:=hd.shape
 conv=>whnf
 refine callE_S (callE_con (Φ:=fun _ w' v w2=>v= .int .i64 (x-y).sign) (fun ρ w' r=>rSign_c (Rel.old r (oldF w)) (hd.rel r (oldF w)).r) ?_)
 rintro ρ wa2 v2 wb2 r he hb rfl
 replace hw:=hw.tr hb
 clear hd
 clear r he hb
 generalize (wa2.heap.size,wb2.heap.size)::iv1=iv2 at*
 conv=>whnf
 intro ρe we re
 exact⟨_,rfl,hw.tr re.bel,rfl⟩
end Go.Ex

/- The reference's integers: Prod. Printed by program. No condition but sizes. -/
namespace Go.Ex
open Go Go.Sx Go.Proofs

theorem mul_small{x y:Int}(hx: -65535≤x∧x≤65535)(hy: -65535≤y∧y≤65535):(x*y).natAbs≤4294836225:=by
 rw[Int.natAbs_mul]
 exact Nat.mul_le_mul (show x.natAbs≤65535 by omega) (show y.natAbs≤65535 by omega)
theorem conv_done{a b:List Int}{i k:Nat}(hk:k≤i+1)(h:i<k∨a.length≤k):cpart a b i k=convAt a b i:=by
 rcases h with h|h
 ·rw[convAt,show i+1=k by omega]
 ·obtain⟨m,hm⟩:∃m,i+1=k+m:=⟨i+1-k,by omega⟩
  rw[convAt,hm,cpart_rest a b i k m h]
theorem rProd_c{S:Nat→Prop}{w:World}{v u:Value}{k l:Nat}{x y:Int}(hS:Old S w)(hx:IntL w S v k x)(hy:IntL w S u l y)(hk:k≤10000000)(hl:l≤10000000):
  Con PG N.ref01_Prod #[v,u] w (Ret w fun v' w2=>IntC w2 (Nw (fun _=>False) w w2) v' (x*y)):=by
 have hw:Bel w.heap.size w w:=Bel.refl
 replace hx:=hx.weak (S':=Cv S w.heap.size []) fun _ h=>.inl h
 replace hy:=hy.weak (S':=Cv S w.heap.size []) fun _ h=>.inl h
 obtain⟨b1,a1,n1,c1,rfl⟩:=hx.shape
 obtain⟨b2,a2,n2,c2,rfl⟩:=hy.shape
 refine in_ref01_Prod (by simp) ?_
 conv=>whnf
 refine drawn_of_pi hτ hmix [.x 0,.x 2,.x 1,.x 3,.x 4,.x 5] (by kernel_rfl) (by kernel_rfl) ?_
 conv=>whnf
 refine callE_con (Φ:=fun _ w' v w2=>∃cs,ColsR w2 (Nw (fun _=>False) w' w2) v cs∧ColB cs (2*k) (x)) (fun ρ w' r=>rcols_c (Rel.old r hS) (hx.rel r hS) (by omega)) ?_
 rintro ρ wa1 v1 wb1 r he hb ⟨ca,k1,bca⟩
 replace hw:=hw.tr hb
 clear hx
 replace hy:=hy.past (iv':=(wa1.heap.size,wb1.heap.size)::[]) r hS he fun x hx=>List.mem_cons_of_mem _ hx
 have hca:=k1.got (S:=fun _=>False) r.baseLe (iv:=(wa1.heap.size,wb1.heap.size)::[]) List.mem_cons_self
 clear r he hb
 generalize (wa1.heap.size,wb1.heap.size)::[]=iv1 at*
 clear k1
 obtain⟨aca,cca,rfl,lca⟩:=hca.shape
 conv=>whnf
 refine callE_con (Φ:=fun _ w' v w2=>∃cs,ColsR w2 (Nw (fun _=>False) w' w2) v cs∧ColB cs (2*l) (y)) (fun ρ w' r=>rcols_c (Rel.old r hS) (hy.rel r hS) (by omega)) ?_
 rintro ρ wa2 v2 wb2 r he hb ⟨cb,k1,bcb⟩
 replace hw:=hw.tr hb
 clear hy
 replace hca:=hca.past (iv':=(wa2.heap.size,wb2.heap.size)::iv1) r (oldF w) he fun x hx=>List.mem_cons_of_mem _ hx
 have hcb:=k1.got (S:=fun _=>False) r.baseLe (iv:=(wa2.heap.size,wb2.heap.size)::iv1) List.mem_cons_self
 clear r he hb
 generalize (wa2.heap.size,wb2.heap.size)::iv1=iv2 at*
 clear k1
 obtain⟨acb,ccb,rfl,lcb⟩:=hcb.shape
 conv=>whnf
 have l1:=bca.2.1
 have l2:=bcb.2.1
 refine⟨Nat×World,fun z=>⟨[(4,.o (.p 2 0)),(5,.o (.v (.slice aca ca.length cca))),(6,.o (.v (.slice acb cb.length ccb))),(7,.o (.w 3 z.1)),(8,.o (.v (.int .i64 ((z.1:Nat):Int))))],[(3,.vec T.int 1 (((List.range z.1).map (convAt ca cb)).map (Value.int .i64))),(2,.box T.Int [.v (.bool false),.v (.slice none 0 0)])],4,iv2,z.2⟩,fun z=>ca.length+cb.length-z.1,
  fun z=>(z.1+1≤ca.length+cb.length∨z.1=0)∧Bel w.heap.size w z.2∧ColsR z.2 (Cv (fun _=>False) w.heap.size iv2) (.slice aca ca.length cca) ca∧ColsR z.2 (Cv (fun _=>False) w.heap.size iv2) (.slice acb cb.length ccb) cb,?_,?_⟩
 ·intro ρ w' r
  exact⟨(0,w'),⟨by simp,hw.tr r.bel,hca.rel r (oldF w),hcb.rel r (oldF w)⟩,Sub.nil 7 T.int 1 rfl (by simp[ScE,SV.sc,At.sc,initE]) r fun ρ1 r1=>
   Sub.gen [] r1 ⟨rfl,rfl,trivial⟩ ⟨rfl,rfl,rfl,rfl,rfl,trivial⟩ (by simp[ScH,Blk.scopd,At.sc]) (by simp[ScE,SV.sc,At.sc]) (by rfl) (fun lo hi h=>h)⟩
 clear hw hca hcb
 rintro⟨i,w1⟩ ⟨hi,hw,hca,hcb⟩
 dsimp only at hi hw hca hcb ⊢
 conv=>whnf
 refine⟨((i+1:Nat):Int),by rw[wrap64]<;>omega,?_⟩
 conv=>whnf
 refine⟨((ca.length+cb.length:Nat):Int),by rw[wrap64]<;>omega,?_⟩
 conv=>whnf
 refine BrS.mk (fun hib=>?_) (fun hib=>?_)
 ·have hib:i+1<ca.length+cb.length:=by
   have:=of_decide_eq_true hib
   omega
  conv=>whnf
  refine⟨(i:Int)-cb.length,by rw[wrap64]<;>omega,?_⟩
  conv=>whnf
  refine⟨(i:Int)-cb.length+1,by rw[wrap64]<;>omega,?_⟩
  conv=>whnf
  rw[show max 0 ((i:Int)-cb.length+1)=((i+1-cb.length:Nat):Int) by omega]
  obtain⟨k0,hk0⟩:∃k0,k0=i+1-cb.length:=⟨_,rfl⟩
  rw[←hk0]
  refine⟨Nat×World,fun z=>⟨[(4,.o (.p 2 0)),(5,.o (.v (.slice aca ca.length cca))),(6,.o (.v (.slice acb cb.length ccb))),(7,.o (.w 3 i)),(8,.o (.v (.int .i64 ((i:Nat):Int)))),(9,.o (.v (.int .i64 (cpart ca cb i z.1)))),(10,.o (.v (.int .i64 ((z.1:Nat):Int))))],[(3,.vec T.int 1 (((List.range i).map (convAt ca cb)).map (Value.int .i64))),(2,.box T.Int [.v (.bool false),.v (.slice none 0 0)])],4,iv2,z.2⟩,fun z=>i+1-z.1,
   fun z=>k0≤z.1∧z.1≤i+1∧Bel w.heap.size w z.2∧ColsR z.2 (Cv (fun _=>False) w.heap.size iv2) (.slice aca ca.length cca) ca∧ColsR z.2 (Cv (fun _=>False) w.heap.size iv2) (.slice acb cb.length ccb) cb,?_,?_⟩
  ·intro ρ w' r
   refine⟨(k0,w'),⟨by simp,by dsimp only;omega,hw.tr r.bel,hca.rel r (oldF w),hcb.rel r (oldF w)⟩,Sub.gen [] r ⟨rfl,rfl,trivial⟩ ⟨rfl,rfl,rfl,rfl,rfl,?_,rfl,trivial⟩ (by simp[ScH,Blk.scopd,At.sc]) (by simp[ScE,SV.sc,At.sc]) (by rfl) (fun lo hi h=>h)⟩
   dsimp only
   rw[cpart_skip ca cb i k0 k0 (fun j hj=>by omega) (by omega) (Nat.le_refl _)]
   rfl
  clear hw hca hcb
  rintro⟨j,w2⟩ ⟨hj0,hj1,hw,hca,hcb⟩
  dsimp only at hj0 hj1 hw hca hcb ⊢
  conv=>whnf
  refine BrS.mk (fun hji=>?_) (fun hji=>?_)
  ·have hji:j≤i:=by
    have:=of_decide_eq_true hji
    omega
   conv=>whnf
   refine BrS.mk (fun hja=>?_) (fun hja=>?_)
   ·have hja:j<ca.length:=by
     have:=of_decide_eq_true hja
     omega
    obtain⟨p,hp⟩:∃p,ca[j]? =some p:=⟨_,List.getElem?_eq_getElem hja⟩
    obtain⟨q,hq⟩:∃q,cb[i-j]? =some q:=⟨_,List.getElem?_eq_getElem (by omega)⟩
    obtain⟨ad,rfl,q1,q2⟩:=hca.load hp
    obtain⟨ad2,rfl,q3,q4⟩:=hcb.load hq
    have e1:ca.getD j 0=p:=by rw[List.getD,hp];rfl
    have e2:cb.getD (i-j) 0=q:=by rw[List.getD,hq];rfl
    have e3:cpart ca cb i (j+1)=cpart ca cb i j+p*q:=by rw[cpart,e1,if_pos hji,e2]
    have m1:=bca.at j
    have m2:=bcb.at (i-j)
    rw[e1]at m1
    rw[e2]at m2
    have m3:=mul_small m1 m2
    have m4:=cpart_bound (a:=ca) (b:=cb) (i:=i) bca.2.2.1 bcb.2.2.1 j
    conv=>whnf
    refine drawn_of_pi hτ hmix [.x 0,.x 1,.x 2,.x 3,.x 4,.x 5,.x 6,.x 7,.x 8,.x 9,.x 10,.x 11,.x 12,.x 13] (by kernel_rfl) (by kernel_rfl) ?_
    conv=>whnf
    refine⟨ad,rfl,⟨by omega,by omega⟩,?_⟩
    conv=>whnf
    refine⟨.int .i64 p,fun ρ w' r=>?_,?_⟩
    ·rw[Int.toNat_natCast,cell_of_heap (w:=w2) (w2:=w') (by rw[addB];exact Rel.same (S:=fun _=>False) r (oldF w) q1)]
     exact q2
    conv=>whnf
    refine⟨((i-j:Nat):Int),by rw[wrap64]<;>omega,?_⟩
    conv=>whnf
    refine⟨ad2,rfl,⟨by omega,by omega⟩,?_⟩
    conv=>whnf
    refine⟨.int .i64 q,fun ρ w' r=>?_,?_⟩
    ·rw[Int.toNat_natCast,cell_of_heap (w:=w2) (w2:=w') (by rw[addB];exact Rel.same (S:=fun _=>False) r (oldF w) q3)]
     exact q4
    conv=>whnf
    refine⟨p*q,by rw[wrap64]<;>omega,?_⟩
    conv=>whnf
    refine⟨cpart ca cb i (j+1),by rw[e3,wrap64]<;>omega,?_⟩
    conv=>whnf
    refine⟨((j+1:Nat):Int),by rw[wrap64]<;>omega,?_⟩
    conv=>whnf
    intro ρ3 w3 r3
    exact⟨(j+1,w3),⟨by dsimp only;omega,by dsimp only;omega,hw.tr r3.bel,hca.rel r3 (oldF w),hcb.rel r3 (oldF w)⟩,Sub.gen [] r3 ⟨rfl,rfl,trivial⟩ ⟨rfl,rfl,rfl,rfl,rfl,rfl,rfl,trivial⟩ (by simp[ScH,Blk.scopd,At.sc]) (by simp[ScE,SV.sc,At.sc]) (by rfl) (fun lo hi h=>h),by dsimp only;omega⟩
   have hja:ca.length≤j:=by
    have:=of_decide_eq_false hja
    omega
   rw[conv_done hj1 (.inr hja)]
   have m4:=cpart_bound (a:=ca) (b:=cb) (i:=i) bca.2.2.1 bcb.2.2.1 (i+1)
   conv=>whnf
   refine .inl ?_
   conv=>whnf
   refine⟨by simp,by omega,by unfold maxLen;omega,?_⟩
   conv=>whnf
   refine⟨((i+1:Nat):Int),by rw[wrap64]<;>omega,?_⟩
   conv=>whnf
   intro ρ3 w3 r3
   have hm5:((List.range (i+1)).map (convAt ca cb)).map (Value.int .i64)=((List.range i).map (convAt ca cb)).map (Value.int .i64)++[.int .i64 (convAt ca cb i)]:=by
    rw[List.range_succ,List.map_append,List.map_append];rfl
   exact⟨(i+1,w3),⟨.inl hib,hw.tr r3.bel,hca.rel r3 (oldF w),hcb.rel r3 (oldF w)⟩,Sub.gen [(3,5)] r3 ⟨by dsimp only;rw[hm5];rfl,rfl,trivial⟩ ⟨rfl,rfl,rfl,rfl,rfl,trivial⟩ (by simp[ScH,Blk.scopd,At.sc]) (by simp[ScE,SV.sc,At.sc]) (by rfl) (fun lo hi h=>h),by dsimp only;omega⟩
  have hji:i<j:=by
   have:=of_decide_eq_false hji
   omega
  rw[conv_done hj1 (.inl hji)]
  have m4:=cpart_bound (a:=ca) (b:=cb) (i:=i) bca.2.2.1 bcb.2.2.1 (i+1)
  conv=>whnf
  refine .inl ?_
  conv=>whnf
  refine⟨by simp,by omega,by unfold maxLen;omega,?_⟩
  conv=>whnf
  refine⟨((i+1:Nat):Int),by rw[wrap64]<;>omega,?_⟩
  conv=>whnf
  intro ρ3 w3 r3
  have hm5:((List.range (i+1)).map (convAt ca cb)).map (Value.int .i64)=((List.range i).map (convAt ca cb)).map (Value.int .i64)++[.int .i64 (convAt ca cb i)]:=by
   rw[List.range_succ,List.map_append,List.map_append];rfl
  exact⟨(i+1,w3),⟨.inl hib,hw.tr r3.bel,hca.rel r3 (oldF w),hcb.rel r3 (oldF w)⟩,Sub.gen [(3,5)] r3 ⟨by dsimp only;rw[hm5];rfl,rfl,trivial⟩ ⟨rfl,rfl,rfl,rfl,rfl,trivial⟩ (by simp[ScH,Blk.scopd,At.sc]) (by simp[ScE,SV.sc,At.sc]) (by rfl) (fun lo hi h=>h),by dsimp only;omega⟩
 have hib:ca.length+cb.length≤i+1:=by
  have:=of_decide_eq_false hib
  omega
 clear hca hcb
 conv=>whnf
 generalize hcs:((List.range i).map (convAt ca cb))=cs
 have hz:colval cs=x*y:=by
  rw[←hcs,colsum_map,conv_sum ca cb i hib,bca.1,bcb.1]
 have hlen:i=cs.length:=by rw[←hcs];simp
 have hbd:∀c∈cs,-1152921504606846976≤c∧c≤1152921504606846976:=fun c hc=>by
  rw[←hcs]at hc
  obtain⟨j,hj,rfl⟩:=List.mem_map.1 hc
  have hj:=List.mem_range.1 hj
  have:=cpart_bound (a:=ca) (b:=cb) (i:=j) bca.2.2.1 bcb.2.2.1 (j+1)
  rw[convAt]
  omega
 refine callE_S (callE_con (Φ:=fun _ w' v w2=>IntC w2 (Nw (fun _=>False) w' w2) v (x*y)) (fun ρ w' r=>rsettledOwn_c r rfl hlen (by omega) hbd hz) ?_)
 rintro ρ wa3 v3 wb3 r he hb hn
 replace hw:=hw.tr hb
 have hC:=hn.got (S:=fun _=>False) r.baseLe (iv:=(wa3.heap.size,wb3.heap.size)::iv2) List.mem_cons_self
 clear r he hb hn
 generalize (wa3.heap.size,wb3.heap.size)::iv2=iv3 at*
 obtain⟨s3_0,s3_1,s3_2,s3_3,rfl⟩:=hC.shape
 conv=>whnf
 intro ρe we re
 exact⟨_,rfl,hw.tr re.bel,hC.out re (oldF w)⟩
end Go.Ex

/- Division by bits: the plain laws. -/
namespace Go.Ex
theorem rdiv_step{b r r2 q X n c:Int}(h:X=b*q+r)(hr:r*65536+c=b*n+r2):c+65536*X=b*(n+65536*q)+r2:=by
 rw[h,Int.mul_add,Int.mul_add,Int.mul_left_comm b 65536 q]
 omega
/-- the quotient and the remainder of sizes become those of the numbers -/
theorem div_sign{x y Q R:Int}(hy:y≠0)(h:(x.natAbs:Int)=(y.natAbs:Int)*Q+R)(h0:0≤R)(h1:R<(y.natAbs:Int)):
  (if x<0∧0<R then(if (x<0)↔(y<0)then(Q+1)else -(Q+1))else(if (x<0)↔(y<0)then Q else -Q))=x / y∧(if x<0∧0<R then(y.natAbs:Int)-R else R)=x % y:=by
 have key:∀q r:Int,r+y*q=x→0≤r→r<(y.natAbs:Int)→q=x / y∧r=x % y:=by
  intro q r e1 e2 e3
  have m:x % y=r:=by
   rw[←e1,Int.add_mul_emod_self_left]
   rcases Int.lt_or_lt_of_ne hy with h|h
   ·rw[←Int.emod_neg,Int.emod_eq_of_lt e2 (by omega)]
   ·exact Int.emod_eq_of_lt e2 (by omega)
  have d:=Int.mul_ediv_add_emod x y
  rw[m]at d
  exact⟨(Int.eq_of_mul_eq_mul_left hy (by omega)),m.symm⟩
 by_cases hx:x<0
 ·have ex:(x.natAbs:Int)= -x:=by omega
  by_cases hy':y<0
  ·have ey:(y.natAbs:Int)= -y:=by omega
   rw[ex,ey,Int.neg_mul]at h
   by_cases hR:0<R
   ·rw[if_pos (show x<0∧0<R from⟨hx,hR⟩),if_pos (show x<0∧0<R from⟨hx,hR⟩),if_pos (show (x<0)↔(y<0) by simp[hx,hy'])]
    exact key _ _ (by rw[Int.mul_add,Int.mul_one];omega) (by omega) (by omega)
   ·rw[if_neg (show ¬(x<0∧0<R) by omega),if_neg (show ¬(x<0∧0<R) by omega),if_pos (show (x<0)↔(y<0) by simp[hx,hy'])]
    exact key _ _ (by omega) h0 h1
  ·have ey:(y.natAbs:Int)=y:=by omega
   rw[ex,ey]at h
   have hn:¬((x<0)↔(y<0)):=by simp[hx,hy']
   by_cases hR:0<R
   ·rw[if_pos (show x<0∧0<R from⟨hx,hR⟩),if_pos (show x<0∧0<R from⟨hx,hR⟩),if_neg hn]
    exact key _ _ (by rw[Int.mul_neg,Int.mul_add,Int.mul_one];omega) (by omega) (by omega)
   ·rw[if_neg (show ¬(x<0∧0<R) by omega),if_neg (show ¬(x<0∧0<R) by omega),if_neg hn]
    exact key _ _ (by rw[Int.mul_neg];omega) h0 h1
 ·have ex:(x.natAbs:Int)=x:=by omega
  rw[if_neg (show ¬(x<0∧0<R) by omega),if_neg (show ¬(x<0∧0<R) by omega)]
  by_cases hy':y<0
  ·have ey:(y.natAbs:Int)= -y:=by omega
   rw[ex,ey,Int.neg_mul]at h
   rw[if_neg (show ¬((x<0)↔(y<0)) by simp[hx,hy'])]
   exact key _ _ (by rw[Int.mul_neg];omega) h0 h1
  ·have ey:(y.natAbs:Int)=y:=by omega
   rw[ex,ey]at h
   rw[if_pos (show (x<0)↔(y<0) by simp[hx,hy'])]
   exact key _ _ (by omega) h0 h1
theorem sign_cases(z:Int):(z<0∧z.sign= -1)∨(z=0∧z.sign=0)∨(0<z∧z.sign=1):=by
 rcases Int.lt_trichotomy z 0 with h|h|h
 ·exact .inl ⟨h,Int.sign_eq_neg_one_of_neg h⟩
 ·exact .inr (.inl ⟨h,by rw[h];rfl⟩)
 ·exact .inr (.inr ⟨h,Int.sign_eq_one_of_pos h⟩)
end Go.Ex
