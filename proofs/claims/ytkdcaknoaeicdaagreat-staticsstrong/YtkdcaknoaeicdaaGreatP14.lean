/- A part of the proof: texts X147 to X156. Each tells its conditions in its theorems. -/
import Derived.Test.YtkdcaknoaeicdaaGreatP9
import Derived.Test.YtkdcaknoaeicdaaGreatP13
/- The integer square root, the limit of a force density. Printed by program. No condition but sizes. -/

namespace Go.Ex
open Go Go.Sx Go.Proofs

theorem sq_one{r s n:Nat}(h1:r*r≤n)(h2:n<(r+1)*(r+1))(h3:s*s≤n)(h4:n<(s+1)*(s+1)):r=s:=by
 rcases Nat.lt_trichotomy r s with h|h|h
 ·have:=Nat.mul_le_mul (show r+1≤s from h) (show r+1≤s from h);omega
 ·exact h
 ·have:=Nat.mul_le_mul (show s+1≤r from h) (show s+1≤r from h);omega
theorem sRoot_c(n:Nat)(w:World)(hn:n<4000000004000000001):Con PG N.statics_root #[.int .i64 n] w (Ret w fun v' _=>∃r:Nat,v'= .int .i64 r∧r*r≤n∧n<(r+1)*(r+1)):=by
 have hw:Bel w.heap.size w w:=Bel.refl
 refine in_statics_root (by simp) ?_
 conv=>whnf
 refine⟨Nat×Int×World,fun z=>⟨[(0,.o (.v (.int .i64 n))),(3,.o (.v (.int .i64 ((z.1:Nat):Int)))),(4,.o (.v (.int .i64 z.2.1)))],[],0,[],z.2.2⟩,fun z=>(z.2.1-z.1).toNat,
  fun z=>(z.1:Int)≤z.2.1∧z.2.1≤2000000000∧Bel w.heap.size w z.2.2∧z.1*z.1≤n∧(n:Int)<(z.2.1+1)*(z.2.1+1),?_,?_⟩
 ·intro ρ w' r3
  exact⟨(0,2000000000,w'),⟨by simp,by simp,hw.tr r3.bel,by simp,by dsimp only;omega⟩,Sub.gen [] r3 trivial ⟨rfl,rfl,rfl,trivial⟩ (by simp[ScH,Blk.scopd,At.sc]) (by simp[ScE,SV.sc,At.sc,initE]) (by rfl) (fun lo hi h=>h)⟩
 clear hw
 rintro⟨lo,hi,w1⟩ ⟨hlh,hhi,hw,hlo,hup⟩
 dsimp only at hlh hhi hw hlo hup ⊢
 obtain⟨hi,rfl⟩:=Int.eq_ofNat_of_zero_le (show 0≤hi by omega)
 replace hup:n<(hi+1)*(hi+1):=by
  have h:((hi:Int)+1)*((hi:Int)+1)=(((hi+1)*(hi+1):Nat):Int):=by push_cast;rfl
  rw[h]at hup;omega
 conv=>whnf
 refine BrS.mk (fun hib=>?_) (fun hib=>?_)
 ·have hib:lo<hi:=by have:=of_decide_eq_true hib;omega
  obtain⟨m,hm⟩:∃m,(lo+hi+1) / 2=m:=⟨_,rfl⟩
  have hm1:lo<m:=by omega
  have hm2:m≤hi:=by omega
  have hmm:m*m≤2000000000*2000000000:=Nat.mul_le_mul (by omega) (by omega)
  conv=>whnf
  refine⟨((lo+hi:Nat):Int),by rw[wrap64]<;>omega,?_⟩
  conv=>whnf
  refine⟨((lo+hi+1:Nat):Int),by rw[wrap64]<;>omega,?_⟩
  conv=>whnf
  refine⟨by decide,(m:Int),by rw[show ((lo+hi+1:Nat):Int).tdiv 2=(((lo+hi+1) / 2:Nat):Int)from rfl,hm,wrap64]<;>omega,?_⟩
  conv=>whnf
  refine⟨((m*m:Nat):Int),by rw[wrap64]<;>push_cast<;>first|rfl|omega,?_⟩
  conv=>whnf
  refine BrS.mk (fun hd=>?_) (fun hd=>?_)
  ·have hd:m*m≤n:=by have:=of_decide_eq_true hd;omega
   conv=>whnf
   intro ρ3 w6 r3
   exact⟨(m,hi,w6),⟨by dsimp only;omega,hhi,hw.tr r3.bel,hd,by dsimp only;rw[show ((hi:Int)+1)*((hi:Int)+1)=(((hi+1)*(hi+1):Nat):Int) by push_cast;rfl];omega⟩,Sub.gen [] r3 trivial ⟨rfl,rfl,rfl,trivial⟩ (by simp[ScH,Blk.scopd,At.sc]) (by simp[ScE,SV.sc,At.sc,initE]) (by rfl) (fun lo hi h=>h),by dsimp only;omega⟩
  ·have hd:n<m*m:=by have:=of_decide_eq_false hd;omega
   conv=>whnf
   have hu3:(lo:Int)≤((m-1:Nat):Int):=by omega
   have hu4:((m-1:Nat):Int)≤2000000000:=by omega
   have hu2:(n:Int)<(((m-1:Nat):Int)+1)*(((m-1:Nat):Int)+1):=by rw[show ((m-1:Nat):Int)+1=m by omega];exact_mod_cast hd
   refine⟨((m-1:Nat):Int),by rw[wrap64]<;>omega,?_⟩
   conv=>whnf
   intro ρ3 w6 r3
   exact⟨(lo,((m-1:Nat):Int),w6),⟨hu3,hu4,hw.tr r3.bel,hlo,hu2⟩,Sub.gen [] r3 trivial ⟨rfl,rfl,rfl,trivial⟩ (by simp[ScH,Blk.scopd,At.sc]) (by simp[ScE,SV.sc,At.sc,initE]) (by rfl) (fun lo hi h=>h),by dsimp only;omega⟩
 have hib:lo=hi:=by have:=of_decide_eq_false hib;omega
 subst hib
 conv=>whnf
 intro ρe we re
 exact⟨_,rfl,hw.tr re.bel,_,rfl,hlo,hup⟩
theorem sGood_c(n:Int)(w:World):Con PG N.statics_goodStrength #[.int .i64 n] w (Ret w fun v' _=>∃d,v'= .bool d∧(d=true↔0≤n∧n≤1000000)):=by
 have hw:Bel w.heap.size w w:=Bel.refl
 refine in_statics_goodStrength (by simp) ?_
 conv=>whnf
 refine BrS.mk (fun h1=>?_) (fun h1=>?_)
 ·conv=>whnf
  intro ρe we re
  have h1:=of_decide_eq_true h1
  exact⟨_,rfl,hw.tr re.bel,_,rfl,by rw[decide_eq_true_iff];exact⟨fun h=>⟨h1,h⟩,fun h=>h.2⟩⟩
 ·conv=>whnf
  intro ρe we re
  have h1:=of_decide_eq_false h1
  exact⟨_,rfl,hw.tr re.bel,_,rfl,(fun h=>by cases h),fun h=>absurd h.1 h1⟩
theorem sLimit_c(sq st:Nat)(w:World)(h0:0<sq)(h1:st≤1000000):Con PG N.statics_limit #[.int .i64 sq,.int .i64 st] w (Ret w fun v' w2=>∃r:Nat,r*r≤st*st*1000*1000 / sq∧st*st*1000*1000 / sq<(r+1)*(r+1)∧RatC w2 (Nw (fun _=>False) w w2) v' (Rat.divInt r 1000)):=by
 have hw:Bel w.heap.size w w:=Bel.refl
 have h2:st*st≤1000000*1000000:=Nat.mul_le_mul h1 h1
 have h4:st*st*1000*1000 / sq≤st*st*1000*1000:=Nat.div_le_self _ _
 obtain⟨m,hm⟩:∃m,st*st*1000*1000 / sq=m:=⟨_,rfl⟩
 refine in_statics_limit (by simp) ?_
 conv=>whnf
 refine⟨((st*st:Nat):Int),by rw[wrap64]<;>push_cast<;>first|rfl|omega,?_⟩
 conv=>whnf
 refine⟨((st*st*1000:Nat):Int),by rw[wrap64]<;>omega,?_⟩
 conv=>whnf
 refine⟨((st*st*1000*1000:Nat):Int),by rw[wrap64]<;>omega,?_⟩
 conv=>whnf
 refine⟨by omega,(m:Int),by rw[show ((st*st*1000*1000:Nat):Int).tdiv (sq:Int)=((st*st*1000*1000 / sq:Nat):Int)from rfl,hm,wrap64]<;>omega,?_⟩
 conv=>whnf
 refine callE_S (callE_con (Φ:=fun _ w' v w2=>∃r:Nat,v= .int .i64 r∧r*r≤m∧m<(r+1)*(r+1)) (fun ρ w' r=>sRoot_c m w' (by omega)) ?_)
 rintro ρ wa1 v1 wb1 r he hb ⟨rt,rfl,hr1,hr2⟩
 replace hw:=hw.tr hb
 clear r he hb
 generalize (wa1.heap.size,wb1.heap.size)::[]=iv1 at*
 have hrt:rt≤2000000000:=by
  rcases Nat.lt_or_ge 2000000000 rt with h|h
  ·have:=Nat.mul_le_mul h h;omega
  ·exact h
 conv=>whnf
 refine callE_S (callE_con (Φ:=fun _ w' v w2=>∃r,v= .tuple #[r,.int .i64 0]∧RatC w2 (Nw (fun _=>False) w' w2) r (Rat.divInt rt 1000)) (fun ρ w' r=>(pubRatio_c rt 1000 w' (by omega) (by omega) (by decide) (by decide)).mono fun _ _ ⟨v2,e1,e2,e3⟩=>⟨v2,e1,e2,e3.elim (fun k=>absurd k.1 (by decide)) fun h=>h.2⟩) ?_)
 rintro ρ wa2 v2 wb2 r he hb ⟨q1,rfl,k1⟩
 replace hw:=hw.tr hb
 have hd:=k1.got (S:=fun _=>False) r.baseLe (iv:=(wa2.heap.size,wb2.heap.size)::iv1) List.mem_cons_self
 clear r he hb
 generalize (wa2.heap.size,wb2.heap.size)::iv1=iv2 at*
 obtain⟨s2_0a,s2_0b,s2_0c,s2_0d,s2_0e,s2_0f,s2_0g,s2_0h,rfl⟩:=hd.shape
 clear k1
 conv=>whnf
 intro ρe we re
 exact⟨_,rfl,hw.tr re.bel,rt,hm▸hr1,hm▸hr2,hd.out re (oldF w)⟩
theorem sLimitOk_c(sq st:Nat)(w:World)(h0:0<sq)(h2:sq≤20000000000000)(h1:st≤1000000):Con PG N.statics_Limit #[.int .i64 sq,.int .i64 st] w (Ret w fun v' w2=>∃vr,∃r:Nat,v'= .tuple #[vr,.int .i64 0]∧r*r≤st*st*1000*1000 / sq∧st*st*1000*1000 / sq<(r+1)*(r+1)∧RatC w2 (Nw (fun _=>False) w w2) vr (Rat.divInt r 1000)):=by
 have hw:Bel w.heap.size w w:=Bel.refl
 refine in_statics_Limit (by simp) ?_
 conv=>whnf
 refine BrS.mk (fun k1=>absurd (of_decide_eq_true k1) (by omega)) (fun _=>?_)
 conv=>whnf
 refine BrS.mk (fun k1=>absurd (of_decide_eq_true k1) (by omega)) (fun _=>?_)
 conv=>whnf
 refine callE_S (callE_con (Φ:=fun _ w' v w2=>v= .bool true) (fun ρ w' r=>(sGood_c st w').mono fun _ _ ⟨v2,e1,e2,d,e3,e4⟩=>⟨v2,e1,e2,by rw[e3,e4.2 ⟨by omega,by omega⟩]⟩) ?_)
 rintro ρ wa1 v1 wb1 r he hb rfl
 replace hw:=hw.tr hb
 clear r he hb
 generalize (wa1.heap.size,wb1.heap.size)::[]=iv1 at*
 conv=>whnf
 refine callE_S (callE_con (Φ:=fun _ w' v w2=>∃r:Nat,r*r≤st*st*1000*1000 / sq∧st*st*1000*1000 / sq<(r+1)*(r+1)∧RatC w2 (Nw (fun _=>False) w' w2) v (Rat.divInt r 1000)) (fun ρ w' r=>sLimit_c sq st w' h0 h1) ?_)
 rintro ρ wa2 v2 wb2 r he hb ⟨rt,hr1,hr2,k1⟩
 replace hw:=hw.tr hb
 have hd:=k1.got (S:=fun _=>False) r.baseLe (iv:=(wa2.heap.size,wb2.heap.size)::iv1) List.mem_cons_self
 clear r he hb
 generalize (wa2.heap.size,wb2.heap.size)::iv1=iv2 at*
 obtain⟨s2_0a,s2_0b,s2_0c,s2_0d,s2_0e,s2_0f,s2_0g,s2_0h,rfl⟩:=hd.shape
 clear k1
 conv=>whnf
 intro ρe we re
 exact⟨_,rfl,hw.tr re.bel,_,rt,rfl,hr1,hr2,hd.out re (oldF w)⟩
end Go.Ex

/- The bracket: what it is and what it bears. No condition. -/
namespace Go.Ex
open Go Go.Sx Go.Proofs
def ldsB:List Ld:=[(2,0,0,-12)]
theorem redB_of{M:List (List Rat)}{cols h:Nat}(h1:∀i,i<M.length+1→∀r∈(redTo M cols i).1,∀q∈r,rl q+1≤h)(h2:∀i,i<M.length→∀k,k<cols+1→∀q∈clrTo (redTo M cols i).1 (redTo M cols i).2.1 (M.getD i []) k,rl q+1≤h):RedB M cols h:=
 ⟨fun i hi=>h1 i (by omega),fun i hi k hk=>h2 i hi k (by omega)⟩
def frcB:List Rat:=[-3,3,9,0,0,-9,0,12,0]
def dspB:List Rat:=[0,0,0,0,0,0,-1,0,-3 / 2]
theorem br_err:errFL bracketF ldsB=0:=by decide +kernel
set_option maxRecDepth 100000
theorem br_calm:Calm bracketF 2:=by
 refine⟨errF_ok (errFL_zero br_err).1,by decide,redB_of (by decide +kernel) (by decide +kernel),?_,by decide +kernel,by decide⟩
 unfold Ht
 decide +kernel
theorem br_borne:Borne bracketF ldsB 2 frcB:=⟨errL_ok (errFL_zero br_err).2,redB_of (by decide +kernel) (by decide +kernel),by decide +kernel⟩
theorem br_rank:(reduceS (tabF bracketF) bracketF.cols).1.length=9:=by decide +kernel
theorem br_b3:RedB (wideF (transF (tabF bracketF) bracketF.cols) (scaleF (eachF frcB (flexF bracketF)) (-1))) 10 2:=redB_of (by decide +kernel) (by decide +kernel)
theorem br_u:solveS (transF (tabF bracketF) bracketF.cols) (scaleF (eachF frcB (flexF bracketF)) (-1)) 9=some dspB:=by decide +kernel
end Go.Ex

/- The chapter's bracket as it is made; integers as fractions. Printed by program. No condition. -/
namespace Go.Ex
open Go Go.Sx Go.Proofs

def supC(m:Nat):List Value:=[.int .i64 ((m / 3:Nat):Int),.int .i64 ((m % 3:Nat):Int),.bool false,.slice none 0 0,.bool false,.slice none 0 0]
def supsV(m:Nat):List (List Value):=(List.range m).map supC
theorem supsV_succ{i k:Nat}(hk:k<3):(supsV (3*i+k)).flatten++[.int .i64 (i:Int),.int .i64 (k:Int),.bool false,.slice none 0 0,.bool false,.slice none 0 0]=(supsV (3*i+(k+1))).flatten:=by
 rw[supsV,supsV,←Nat.add_assoc,List.range_succ,List.map_append,List.flatten_append]
 simp only[List.map_cons,List.map_nil,supC,show(3*i+k) / 3=i by omega,show(3*i+k) % 3=k by omega]
 simp
theorem supsV_len(m:Nat):(supsV m).length=m:=by rw[supsV,List.length_map,List.length_range]
theorem supsV_six(m:Nat):∀cs∈supsV m,cs.length=6:=fun cs hc=>by
 obtain⟨j,_,rfl⟩:=List.mem_map.1 hc
 rfl
theorem RatL.zeroV{S:Nat→Prop}{w:World}:RatL w S (.agg #[.bool false,.slice none 0 0,.bool false,.slice none 0 0]) 0:=RatL.zero
theorem bracket_c(w:World):Con PG N.law05_Bracket #[] w (Ret w fun v' w2=>∃vn vb vs,v'= .agg #[vn,vb,vs]∧FrameR w2 (Nw (fun _=>False) w w2) vn vb vs bracketF):=by
 have hw:Bel w.heap.size w w:=Bel.refl
 refine in_law05_Bracket (by simp) ?_
 conv=>whnf
 refine callE_S (callE_con (Φ:=fun _ w' v w2=>RatC w2 (Nw (fun _=>False) w' w2) v ((1:Int):Rat)) (fun ρ w' r=>rWhole_c 1 w' (by decide)) ?_)
 rintro ρ wa1 v1 wb1 r he hb hn
 replace hw:=hw.tr hb
 have hd:=hn.got (S:=fun _=>False) r.baseLe (iv:=(wa1.heap.size,wb1.heap.size)::[]) List.mem_cons_self
 clear r he hb hn
 generalize (wa1.heap.size,wb1.heap.size)::[]=iv1 at*
 obtain⟨s1_0,s1_1,s1_2,s1_3,s1_4,s1_5,s1_6,s1_7,rfl⟩:=hd.shape
 conv=>whnf
 refine⟨Nat×World,fun z=>⟨[(0,.o (.p 0 0)),(2,.o (.p 4 0)),(3,.o (.v (.int .i64 ((z.1:Nat):Int))))],[(5,.vec T.Support 6 (supsV (3*z.1)).flatten),(4,.box T.Frame [.s 2 0 3 3,.s 3 0 2 2,.w 5 (3*z.1)]),(3,.box T.Bar [.v (.int .i64 0),.v (.int .i64 2),.v (.bool s1_0),.v (.slice s1_1 s1_2 s1_3),.v (.bool s1_4),.v (.slice s1_5 s1_6 s1_7),.v (.int .i64 1),.v (.int .i64 2),.v (.bool s1_0),.v (.slice s1_1 s1_2 s1_3),.v (.bool s1_4),.v (.slice s1_5 s1_6 s1_7)]),(2,.box T.Node [.v (.int .i64 0),.v (.int .i64 0),.v (.int .i64 0),.v (.int .i64 0),.v (.int .i64 0),.v (.int .i64 4),.v (.int .i64 3),.v (.int .i64 0),.v (.int .i64 0)]),(0,.box T.Frame [.v (.slice none 0 0),.v (.slice none 0 0),.v (.slice none 0 0)])],6,iv1,z.2⟩,fun z=>2-z.1,
  fun z=>z.1≤2∧Bel w.heap.size w z.2∧RatC z.2 (Cv (fun _=>False) w.heap.size iv1) (.agg #[.bool s1_0,.slice s1_1 s1_2 s1_3,.bool s1_4,.slice s1_5 s1_6 s1_7]) ((1:Int):Rat),?_,?_⟩
 ·intro ρ w' r
  exact⟨(0,w'),⟨Nat.zero_le _,hw.tr r.bel,hd.rel r (oldF w)⟩,Sub.nilB 4 2 T.Support 6 rfl rfl (by simp[ScE,SV.sc,At.sc,initE]) r fun ρ1 r1=>Sub.gen [] r1 ⟨rfl,rfl,rfl,rfl,rfl,trivial⟩ ⟨rfl,rfl,rfl,trivial⟩ (by simp[ScH,Blk.scopd,At.sc]) (by simp[ScE,SV.sc,At.sc,initE]) (by rfl) (fun lo hi h=>h)⟩
 clear hw hd
 rintro⟨i,w1⟩ ⟨hi,hw,hd⟩
 dsimp only at hi hw hd ⊢
 conv=>whnf
 refine BrS.mk (fun hib=>?_) (fun hib=>?_)
 ·have hib:i<2:=by have:=of_decide_eq_true hib;omega
  conv=>whnf
  refine⟨Nat×World,fun z=>⟨[(0,.o (.p 0 0)),(2,.o (.p 4 0)),(3,.o (.v (.int .i64 ((i:Nat):Int)))),(4,.o (.v (.int .i64 ((z.1:Nat):Int))))],[(5,.vec T.Support 6 (supsV (3*i+z.1)).flatten),(4,.box T.Frame [.s 2 0 3 3,.s 3 0 2 2,.w 5 (3*i+z.1)]),(3,.box T.Bar [.v (.int .i64 0),.v (.int .i64 2),.v (.bool s1_0),.v (.slice s1_1 s1_2 s1_3),.v (.bool s1_4),.v (.slice s1_5 s1_6 s1_7),.v (.int .i64 1),.v (.int .i64 2),.v (.bool s1_0),.v (.slice s1_1 s1_2 s1_3),.v (.bool s1_4),.v (.slice s1_5 s1_6 s1_7)]),(2,.box T.Node [.v (.int .i64 0),.v (.int .i64 0),.v (.int .i64 0),.v (.int .i64 0),.v (.int .i64 0),.v (.int .i64 4),.v (.int .i64 3),.v (.int .i64 0),.v (.int .i64 0)]),(0,.box T.Frame [.v (.slice none 0 0),.v (.slice none 0 0),.v (.slice none 0 0)])],6,iv1,z.2⟩,fun z=>3-z.1,
   fun z=>z.1≤3∧Bel w.heap.size w z.2∧RatC z.2 (Cv (fun _=>False) w.heap.size iv1) (.agg #[.bool s1_0,.slice s1_1 s1_2 s1_3,.bool s1_4,.slice s1_5 s1_6 s1_7]) ((1:Int):Rat),?_,?_⟩
  ·intro ρ w' r3
   exact⟨(0,w'),⟨Nat.zero_le _,hw.tr r3.bel,hd.rel r3 (oldF w)⟩,Sub.gen [] r3 ⟨rfl,rfl,rfl,rfl,rfl,trivial⟩ ⟨rfl,rfl,rfl,rfl,trivial⟩ (by simp[ScH,Blk.scopd,At.sc]) (by simp[ScE,SV.sc,At.sc,initE]) (by rfl) (fun lo hi h=>h)⟩
  clear hw hd
  rintro⟨k,w3⟩ ⟨hk,hw,hd⟩
  dsimp only at hk hw hd ⊢
  conv=>whnf
  refine BrS.mk (fun hkb=>?_) (fun hkb=>?_)
  ·have hkb:k<3:=by have:=of_decide_eq_true hkb;omega
   have hs:=supsV_succ (i:=i) hkb
   have hfl:=flatk_len (supsV_six (3*i+k))
   have hsl:=supsV_len (3*i+k)
   conv=>whnf
   refine .inl ?_
   conv=>whnf
   refine⟨by omega,by omega,by unfold maxLen;omega,?_⟩
   conv=>whnf
   refine⟨((k+1:Nat):Int),by rw[wrap64]<;>omega,?_⟩
   conv=>whnf
   intro ρ3 w6 r3
   exact⟨(k+1,w6),⟨hkb,hw.tr r3.bel,hd.rel r3 (oldF w)⟩,Sub.gen [(5,7)] r3 ⟨by dsimp only;rw[←hs];rfl,rfl,rfl,rfl,rfl,trivial⟩ ⟨rfl,rfl,rfl,rfl,trivial⟩ (by simp[ScH,Blk.scopd,At.sc]) (by simp[ScE,SV.sc,At.sc,initE]) (by rfl) (fun lo hi h=>h),by dsimp only;omega⟩
  have hkb:k=3:=by have:=of_decide_eq_false hkb;omega
  subst hkb
  conv=>whnf
  refine⟨((i+1:Nat):Int),by rw[wrap64]<;>omega,?_⟩
  conv=>whnf
  intro ρ3 w6 r3
  exact⟨(i+1,w6),⟨hib,hw.tr r3.bel,hd.rel r3 (oldF w)⟩,Sub.gen [] r3 ⟨rfl,rfl,rfl,rfl,rfl,trivial⟩ ⟨rfl,rfl,rfl,trivial⟩ (by simp[ScH,Blk.scopd,At.sc]) (by simp[ScE,SV.sc,At.sc,initE]) (by rfl) (fun lo hi h=>h),by dsimp only;omega⟩
 have hib:i=2:=by have:=of_decide_eq_false hib;omega
 subst hib
 conv=>whnf
 refine .inl ?_
 conv=>whnf
 refine⟨by decide,by decide,by decide,?_⟩
 conv=>whnf
 intro ρe we re
 have hN:∀{id:Nat} {bk:Blk},getH _ id=some bk→(ρe id).nil=false→Nw (fun _=>False) w we (ρe id).g:=fun h hn=>by
  obtain⟨h1,h2⟩:=re.low _ _ h hn
  exact .inr ⟨h1,h2⟩
 have hR:=hd.out re (oldF w)
 have hL:RatL we (Nw (fun _=>False) w we) (.agg #[.bool s1_0,.slice s1_1 s1_2 s1_3,.bool s1_4,.slice s1_5 s1_6 s1_7]) 1:=hR.l (by decide)
 refine⟨_,rfl,hw.tr re.bel,_,_,_,rfl,?_,?_,?_⟩
 ·refine⟨[[.int .i64 0,.int .i64 0,.int .i64 0],[.int .i64 0,.int .i64 0,.int .i64 4],[.int .i64 3,.int .i64 0,.int .i64 0]],(re.boxSeq (id:=2) (sz:=3) (n:=3) rfl rfl (by decide) (by repeat' first|refine List.forall_mem_cons.2 ⟨rfl,?_⟩|exact fun u hu=>absurd hu List.not_mem_nil)).weak fun g hg=>by subst hg;exact hN (id:=2) rfl (re.nn 2 _ rfl (by intros;simp) (by simp)),rfl,by simp,fun j cs x h1 h2=>?_⟩
  rcases j with _|_|_|j
  ·cases h1;cases h2;rfl
  ·cases h1;cases h2;rfl
  ·cases h1;cases h2;rfl
  ·cases h2
 ·refine⟨[[.int .i64 0,.int .i64 2,.bool s1_0,.slice s1_1 s1_2 s1_3,.bool s1_4,.slice s1_5 s1_6 s1_7],[.int .i64 1,.int .i64 2,.bool s1_0,.slice s1_1 s1_2 s1_3,.bool s1_4,.slice s1_5 s1_6 s1_7]],(re.boxSeq (id:=3) (sz:=6) (n:=2) rfl rfl (by decide) (by repeat' first|refine List.forall_mem_cons.2 ⟨rfl,?_⟩|exact fun u hu=>absurd hu List.not_mem_nil)).weak fun g hg=>by subst hg;exact hN (id:=3) rfl (re.nn 3 _ rfl (by intros;simp) (by simp)),rfl,by simp,fun j cs x h1 h2=>?_⟩
  rcases j with _|_|j
  ·cases h1;cases h2;exact⟨_,_,_,_,_,_,_,_,rfl,hL⟩
  ·cases h1;cases h2;exact⟨_,_,_,_,_,_,_,_,rfl,hL⟩
  ·cases h2
 ·refine⟨supsV 6++[[.int .i64 2,.int .i64 1,.bool false,.slice none 0 0,.bool false,.slice none 0 0]],?_,rfl,by decide,fun j cs x h1 h2=>?_⟩
  ·have h5:=re.vecSeq (id:=7) (sz:=6) (m:=7) rfl (by decide) (by decide) (by decide) (by decide)
   rw[List.flatten_append]
   exact h5.weak fun g hg=>.inr hg
  ·rcases j with _|_|_|_|_|_|_|j
   ·cases h1;cases h2;exact⟨_,_,_,_,_,_,_,_,rfl,RatL.zeroV⟩
   ·cases h1;cases h2;exact⟨_,_,_,_,_,_,_,_,rfl,RatL.zeroV⟩
   ·cases h1;cases h2;exact⟨_,_,_,_,_,_,_,_,rfl,RatL.zeroV⟩
   ·cases h1;cases h2;exact⟨_,_,_,_,_,_,_,_,rfl,RatL.zeroV⟩
   ·cases h1;cases h2;exact⟨_,_,_,_,_,_,_,_,rfl,RatL.zeroV⟩
   ·cases h1;cases h2;exact⟨_,_,_,_,_,_,_,_,rfl,RatL.zeroV⟩
   ·cases h1;cases h2;exact⟨_,_,_,_,_,_,_,_,rfl,RatL.zeroV⟩
   ·cases h2
end Go.Ex

/- Integers as fractions. Printed by program. No condition but sizes. -/
namespace Go.Ex
open Go Go.Sx Go.Proofs

/-- a list of fractions of one's own, which grows -/
structure GrowC(w:World)(S:Nat→Prop)(css:List (List Value))(qs:List Rat):Prop where
 len:css.length=qs.length
 four:∀cs∈css,cs.length=4
 at_:∀(j:Nat) cs q,css[j]? =some cs→qs[j]? =some q→Rat4C w S cs q
section
variable{S S':Nat→Prop}{H:Hp}{nx:Nat}{iv iv':Iv}{B:Nat}{w w' w2:World}{ρ:Nat→Sx.Val}{css:List (List Value)}{qs:List Rat}
theorem GrowC.nil:GrowC w S [] []:=⟨rfl,fun _ h=>(by cases h),fun _ _ _ h=>by cases h⟩
theorem GrowC.keep(h:GrowC w S css qs)(hk:∀g,S g→w2.heap[g]? =w.heap[g]?):GrowC w2 S css qs:=⟨h.len,h.four,fun j cs q h1 h2=>by
 obtain⟨b,a,n,c,b2,a2,n2,c2,e,hr⟩:=h.at_ j cs q h1 h2
 exact⟨b,a,n,c,b2,a2,n2,c2,e,hr.keep hk⟩⟩
theorem GrowC.weak(h:GrowC w S css qs)(hk:∀g,S g→S' g):GrowC w S' css qs:=⟨h.len,h.four,fun j cs q h1 h2=>by
 obtain⟨b,a,n,c,b2,a2,n2,c2,e,hr⟩:=h.at_ j cs q h1 h2
 exact⟨b,a,n,c,b2,a2,n2,c2,e,hr.weak hk⟩⟩
theorem GrowC.rel(h:GrowC w (Cv S B iv) css qs)(r:Rel H nx iv B w ρ w')(hS:∀g,S g→g<B):GrowC w' (Cv S B iv) css qs:=h.keep fun _ hg=>Rel.same r hS hg
theorem GrowC.past(h:GrowC w (Cv S B iv) css qs)(r:Rel H nx iv B w ρ w')(hS:∀g,S g→g<B)(he:Ext w' w2)(hm:∀p,p∈iv→p∈iv'):GrowC w2 (Cv S B iv') css qs:=
 ((h.rel r hS).keep fun g hg=>he.block g (Rel.old r hS g hg)).weak fun _ hg=>hg.mono hm
theorem GrowC.push{cs:List Value}{q:Rat}(h:GrowC w S css qs)(hc:Rat4C w S cs q)(h4:cs.length=4):GrowC w S (css++[cs]) (qs++[q]):=by
 refine⟨by simp[h.len],fun x hx=>?_,fun j x p h1 h2=>?_⟩
 ·rcases List.mem_append.1 hx with hx|hx
  ·exact h.four x hx
  ·rw[List.mem_singleton.1 hx];exact h4
 ·rcases Nat.lt_or_ge j css.length with hi|hi
  ·rw[List.getElem?_append_left hi]at h1
   rw[List.getElem?_append_left (by rw[←h.len];exact hi)]at h2
   exact h.at_ j x p h1 h2
  ·have hi0:j=css.length:=by have:=(List.getElem?_eq_some_iff.1 h1).1;simp at this;omega
   subst hi0
   rw[List.getElem?_append_right (Nat.le_refl _),Nat.sub_self]at h1
   rw[h.len,List.getElem?_append_right (Nat.le_refl _),Nat.sub_self]at h2
   simp at h1 h2
   subst h1 h2
   exact hc
theorem GrowC.give{id:Nat}(h:GrowC w (Cv (fun _=>False) B iv) css qs)(r:Rel H nx iv B w ρ w')(hid:getH H id=some (.vec T.Rat 4 css.flatten))(h0:0<css.length)(hm:css.length≤maxLen):
  RowXc w' (fun _=>False) B [(B,w'.heap.size)] ((SV.o (.w id css.length)).den ρ) css.length qs:=by
 have h2:=h.rel r (oldF' B)
 obtain⟨k1,k2,k3,k4⟩:=vecW r hid rfl h0 hm ⟨h2.len,h2.at_⟩
 have hden:(SV.o (.w id css.length)).den ρ= .slice (some ⟨(ρ id).g,0,none⟩) css.length (ρ id).cap:=by simp[SV.den,At.den,k1]
 rw[hden]
 have key:∀g,Cv (fun _=>False) B iv g→Cv (fun _=>False) B [(B,w'.heap.size)] g:=fun g hg=>
  .inr ⟨hg.elim (fun h=>h.elim) fun h=>h.1,B,w'.heap.size,List.mem_singleton.2 rfl,hg.elim (fun h=>h.elim) fun h=>h.1,Rel.old r (oldF' B) g hg⟩
 refine⟨k4.weak fun g hg=>⟨key g hg,fun e=>?_⟩,fun g hg=>?_⟩
 ·injection e with e
  exact Rel.not r (oldF' B) hg id _ hid k1 e
 ·injection hg with hg
  subst hg
  have:=(r.low id _ hid k1).2
  exact .inr ⟨k2,B,w'.heap.size,List.mem_singleton.2 rfl,k2,this⟩
end
theorem wholes_c{S:Nat→Prop}{w:World}{v:Value}{l:List Int}(hS:Old S w)(hl:ZsR w S v l)(hl0:0<l.length)(hl2:l.length≤1000)(hb:∀z∈l,z.natAbs<1073741824):
  Con PG N.law05_wholes #[v] w (Ret w fun v' w2=>RowXc w2 (fun _=>False) w.heap.size [(w.heap.size,w2.heap.size)] v' l.length (wholesF l)):=by
 have hw:Bel w.heap.size w w:=Bel.refl
 obtain⟨al,cl,rfl,hcl,hml⟩:=hl.shape
 unfold maxLen at hml
 refine in_law05_wholes (by simp) ?_
 conv=>whnf
 refine⟨Nat×List (List Value)×World×Iv,fun z=>⟨[(0,.o (.v (.slice al l.length cl))),(3,.o (.w 0 z.2.1.length)),(4,.o (.v (.int .i64 ((z.1:Nat):Int))))],[(0,.vec T.Rat 4 z.2.1.flatten)],1,z.2.2.2,z.2.2.1⟩,fun z=>l.length-z.1,
  fun z=>z.1≤l.length∧Bel w.heap.size w z.2.2.1∧GrowC z.2.2.1 (Cv (fun _=>False) w.heap.size z.2.2.2) z.2.1 (wholesF (l.take z.1)),?_,?_⟩
 ·intro ρ w' r
  exact⟨(0,[],w',[]),⟨Nat.zero_le _,hw.tr r.bel,GrowC.nil⟩,Sub.nil 3 T.Rat 4 rfl (by simp[ScE,SV.sc,At.sc,initE]) r fun ρ1 r1=>Sub.gen [] r1 ⟨rfl,trivial⟩ ⟨rfl,rfl,rfl,trivial⟩ (by simp[ScH,Blk.scopd,At.sc]) (by simp[ScE,SV.sc,At.sc,initE]) (by rfl) (fun lo hi h=>h)⟩
 clear hw
 rintro⟨i,css,w1,iv⟩ ⟨hi,hw,hG⟩
 dsimp only at hi hw hG ⊢
 have hfl:=flat_len hG.four
 have hcl2:css.length=i:=by rw[hG.len,wholesF,List.length_map,List.length_take];omega
 conv=>whnf
 refine BrS.mk (fun hib=>?_) (fun hib=>?_)
 ·have hib:i<l.length:=by simpa using hib
  obtain⟨z,hz⟩:∃z,l[i]? =some z:=⟨_,List.getElem?_eq_getElem hib⟩
  have hzb:=hb z (List.mem_of_getElem? hz)
  have hnx:wholesF (l.take (i+1))=wholesF (l.take i)++[(z:Rat)]:=by rw[wholesF,List.take_add_one,hz,List.map_append];rfl
  obtain⟨adx,hax,hSx,hlx⟩:=ZsR.at hl hz
  conv=>whnf
  refine⟨adx,hax,⟨by omega,by omega⟩,?_⟩
  conv=>whnf
  refine⟨.int .i64 z,fun ρ w' r=>?_,?_⟩
  ·rw[Int.toNat_natCast,cell_of_heap (w:=w) (w2:=w') (by rw[addB];exact(hw.tr r.bel).block _ (hS _ hSx))]
   exact hlx
  conv=>whnf
  refine callE_S (callE_con (Φ:=fun _ w' v w2=>RatC w2 (Nw (fun _=>False) w' w2) v (z:Rat)) (fun ρ w' r=>rWhole_c z w' (by omega)) ?_)
  rintro ρ wa1 v1 wb1 r he hb hn
  replace hw:=hw.tr hb
  replace hG:=hG.past (iv':=(wa1.heap.size,wb1.heap.size)::iv) r (oldF w) he fun x hx=>List.mem_cons_of_mem _ hx
  have hd:=hn.got (S:=fun _=>False) r.baseLe (iv:=(wa1.heap.size,wb1.heap.size)::iv) List.mem_cons_self
  clear r he hb hn
  generalize (wa1.heap.size,wb1.heap.size)::iv=iv1 at*
  obtain⟨s1_0,s1_1,s1_2,s1_3,s1_4,s1_5,s1_6,s1_7,rfl⟩:=hd.shape
  conv=>whnf
  have hG2:=hG.push (cs:=[.bool s1_0,.slice s1_1 s1_2 s1_3,.bool s1_4,.slice s1_5 s1_6 s1_7]) (q:=(z:Rat)) ⟨_,_,_,_,_,_,_,_,rfl,hd⟩ rfl
  rw[←hnx]at hG2
  have hfl2:css.flatten++([.bool s1_0,.slice s1_1 s1_2 s1_3,.bool s1_4,.slice s1_5 s1_6 s1_7]:List Value)=(css++([[.bool s1_0,.slice s1_1 s1_2 s1_3,.bool s1_4,.slice s1_5 s1_6 s1_7]]:List (List Value))).flatten:=by simp
  refine .inl ?_
  conv=>whnf
  refine⟨by omega,by omega,by unfold maxLen;omega,?_⟩
  conv=>whnf
  refine⟨((i+1:Nat):Int),by rw[wrap64]<;>omega,?_⟩
  conv=>whnf
  intro ρ3 w3 r3
  exact⟨(i+1,css++[[.bool s1_0,.slice s1_1 s1_2 s1_3,.bool s1_4,.slice s1_5 s1_6 s1_7]],w3,_),⟨hib,hw.tr r3.bel,hG2.rel r3 (oldF w)⟩,Sub.gen [(0,2)] r3 ⟨by dsimp only;rw[←hfl2];rfl,trivial⟩ ⟨rfl,by dsimp only;rw[List.length_append,List.length_singleton];rfl,rfl,trivial⟩ (by simp[ScH,Blk.scopd,At.sc]) (by simp[ScE,SV.sc,At.sc,initE]) (by rfl) (fun lo hi h=>h),by dsimp only;omega⟩
 have hib:i=l.length:=Nat.le_antisymm hi (by simpa using hib)
 subst hib
 rw[List.take_length]at hG
 conv=>whnf
 intro ρe we re
 refine⟨_,rfl,hw.tr re.bel,?_⟩
 have h5:=hG.give re (id:=0) rfl (by omega) (by unfold maxLen;omega)
 have h6:css.length=l.length:=hcl2
 rw[←h6]
 exact h5
end Go.Ex

/- The laws of statics are awake. Printed by program. No condition. -/
namespace Go.Ex
open Go Go.Sx Go.Proofs

theorem FrameR.got{w' w2:World}{vn vb vs:Value}{f:Frm}{B:Nat}{iv:Iv}(h:FrameR w2 (Nw (fun _=>False) w' w2) vn vb vs f)(hB:B≤w'.heap.size)(hm:(w'.heap.size,w2.heap.size)∈iv):FrameR w2 (Cv (fun _=>False) B iv) vn vb vs f:=h.weak fun _ hg=>hg.got hB hm
abbrev cntV(a b c:Int):Value:=.agg #[.int .i64 a,.int .i64 b,.int .i64 c]
theorem cnt_eq(p0 p1 p2 q0 q1 q2:Int)(w:World):(Op.equal T.Counting (cntV p0 p1 p2) (cntV q0 q1 q2)).run PG w= .ok (decide (p0=q0∧p1=q1∧p2=q2)) w:=by
 have h:=run_underlying Tryz.underlying68
 simp only[Op.equal,Op.maxDepth]
 unfold Op.equalIn
 have a0:=part_int (cs:= #[Value.int .i64 p0,Value.int .i64 p1,Value.int .i64 p2]) (j:=0) rfl
 have a1:=part_int (cs:= #[Value.int .i64 p0,Value.int .i64 p1,Value.int .i64 p2]) (j:=1) rfl
 have a2:=part_int (cs:= #[Value.int .i64 p0,Value.int .i64 p1,Value.int .i64 p2]) (j:=2) rfl
 have b0:=part_int (cs:= #[Value.int .i64 q0,Value.int .i64 q1,Value.int .i64 q2]) (j:=0) rfl
 have b1:=part_int (cs:= #[Value.int .i64 q0,Value.int .i64 q1,Value.int .i64 q2]) (j:=1) rfl
 have b2:=part_int (cs:= #[Value.int .i64 q0,Value.int .i64 q1,Value.int .i64 q2]) (j:=2) rfl
 simp[h,a0,a1,a2,b0,b1,b2,eq_int 9998]
 by_cases h0:p0=q0
 ·by_cases h1:p1=q1
  ·by_cases h2:p2=q2<;>simp[h0,h1,h2]
  ·simp[h0,h1]
 ·simp[h0]
theorem cnt_eql(p0 p1 p2 q0 q1 q2:Int)(w:World)(o1 o2:Operand):(do eqGuard .eql T.Counting o1 o2 (cntV p0 p1 p2) (cntV q0 q1 q2);binOp .eql T.Counting (cntV p0 p1 p2) (cntV q0 q1 q2)).run PG w= .ok (.bool (decide (p0=q0∧p1=q1∧p2=q2))) w:=by
 have h:=cnt_eq p0 p1 p2 q0 q1 q2 w
 simp[eqGuard,binOp,h]
def dspW:List Int:=[0,0,0,0,0,0,-1,0,0]
def frcW:List Int:=[-3,3,9,0,0,-9,0,12,0]
theorem dsp_set:(wholesF dspW).set 8 (Rat.divInt (-3) 2)=dspB:=by decide +kernel
theorem frc_eq:wholesF frcW=frcB:=by decide +kernel
theorem frc_small:∀q∈frcB,rl q≤100000:=by decide +kernel
theorem eachB_small:∀q∈eachF frcB (flexF bracketF),rl q≤100000:=by decide +kernel
theorem limB:Rat.divInt 2000 1000=((2:Int):Rat):=by decide +kernel
theorem boxZs{H:Hp}{nx:Nat}{iv:Iv}{B:Nat}{w w':World}{ρ:Nat→Sx.Val}(r:Rel H nx iv B w ρ w'){id n:Nat}{l:List Int}(h:getH H id=some (.box T.int (l.map fun z=>At.v (.int .i64 z))))(hn:l.length=n)(hm:n≤maxLen):
  ZsR w' (fun g=>g=(ρ id).g) (.slice (some ⟨(ρ id).g,0,none⟩) n n) l:=by
 subst hn
 have h5:=r.boxSeq (sz:=1) (n:=l.length) h (by simp) hm (fun u hu=>by obtain⟨z,_,rfl⟩:=List.mem_map.1 hu;rfl)
 rw[List.map_map]at h5
 exact h5
set_option maxHeartbeats 1000000 in
theorem awake5_c(w:World):Con PG N.law05_awake #[] w (Ret w fun v' _=>v'= .bool true):=by
 have hw:Bel w.heap.size w w:=Bel.refl
 refine in_law05_awake (by simp) ?_
 conv=>whnf
 refine callE_S (callE_con (Φ:=fun _ w' v w2=>∃vn vb vs,v= .agg #[vn,vb,vs]∧FrameR w2 (Nw (fun _=>False) w' w2) vn vb vs bracketF) (fun ρ w' r=>bracket_c w') ?_)
 rintro ρ wa1 v1 wb1 r he hb ⟨vn1,vb1,vs1,rfl,hn⟩
 replace hw:=hw.tr hb
 have hf:=hn.got r.baseLe (iv:=(wa1.heap.size,wb1.heap.size)::[]) List.mem_cons_self
 clear r he hb
 generalize (wa1.heap.size,wb1.heap.size)::[]=iv1 at*
 clear hn
 obtain⟨an1,cn1,ab1,cb1,aq1,cq1,rfl,rfl,rfl,-,-,-⟩:=hf.shape
 conv=>whnf
 refine callE_S (callE_con (Φ:=fun _ w' v w2=>∃vx,v= .tuple #[vx,.int .i64 0]∧RatsC w2 (Nw (fun _=>False) w' w2) vx frcB) (fun ρ w' r=>sForces1_c (S:=(fun g=>Cv (fun _=>False) w.heap.size iv1 g∨g=(ρ 0).g)) (l:=ldsB) (h:=2) (fun g hg=>hg.elim (Rel.old r (oldF w) g) fun e=>by subst e;exact Rel.lt r (id:=0) rfl) (FrameR.weak (FrameR.rel hf r (oldF w)) fun g hg=>.inl hg) (show LoadsR w' (fun g=>Cv (fun _=>False) w.heap.size iv1 g∨g=(ρ 0).g) (.slice (some ⟨(ρ 0).g,0,none⟩) 1 1) ldsB from⟨[[.int .i64 2,.int .i64 0,.int .i64 0,.int .i64 (-12)]],(r.boxSeq (id:=0) (sz:=4) (n:=1) rfl rfl (by decide) (by repeat' first|refine List.forall_mem_cons.2 ⟨rfl,?_⟩|exact fun u hu=>absurd hu List.not_mem_nil)).weak fun g hg=>.inr hg,rfl,by simp,fun j cs x h1 h2=>by cases j with|zero=>(cases h1;cases h2;rfl)|succ j=>cases h2⟩) br_calm br_borne br_err) ?_)
 rintro ρ wa2 v2 wb2 r he hb ⟨vx1,rfl,hn⟩
 replace hw:=hw.tr hb
 clear hf
 have hx:=RatsC.got (S:=fun _=>False) hn r.baseLe (iv:=(wa2.heap.size,wb2.heap.size)::iv1) List.mem_cons_self
 clear r he hb
 generalize (wa2.heap.size,wb2.heap.size)::iv1=iv2 at*
 clear hn
 obtain⟨ax1,cx1,rfl,-,-⟩:=ListR.shape hx
 conv=>whnf
 refine callE_S (callE_con (Φ:=fun _ w' v w2=>∃vn vb vs,v= .agg #[vn,vb,vs]∧FrameR w2 (Nw (fun _=>False) w' w2) vn vb vs bracketF) (fun ρ w' r=>bracket_c w') ?_)
 rintro ρ wa3 v3 wb3 r he hb ⟨vn2,vb2,vs2,rfl,hn⟩
 replace hw:=hw.tr hb
 replace hx:=RatsC.past (iv':=(wa3.heap.size,wb3.heap.size)::iv2) hx r (oldF w) he fun x hx=>List.mem_cons_of_mem _ hx
 have hf:=hn.got r.baseLe (iv:=(wa3.heap.size,wb3.heap.size)::iv2) List.mem_cons_self
 clear r he hb
 generalize (wa3.heap.size,wb3.heap.size)::iv2=iv3 at*
 clear hn
 obtain⟨an2,cn2,ab2,cb2,aq2,cq2,rfl,rfl,rfl,-,-,-⟩:=hf.shape
 conv=>whnf
 refine callE_S (callE_con (Φ:=fun _ w' v w2=>∃vu vx,v= .tuple #[vu,vx,.int .i64 0]∧RatsC w2 (Nw (fun _=>False) w' w2) vu dspB∧∃a n c,vx= .slice a n c) (fun ρ w' r=>(sDisplace0_c (S:=(fun g=>Cv (fun _=>False) w.heap.size iv3 g∨g=(ρ 0).g)) (l:=ldsB) (h:=2) (fun g hg=>hg.elim (Rel.old r (oldF w) g) fun e=>by subst e;exact Rel.lt r (id:=0) rfl) (FrameR.weak (FrameR.rel hf r (oldF w)) fun g hg=>.inl hg) (show LoadsR w' (fun g=>Cv (fun _=>False) w.heap.size iv3 g∨g=(ρ 0).g) (.slice (some ⟨(ρ 0).g,0,none⟩) 1 1) ldsB from⟨[[.int .i64 2,.int .i64 0,.int .i64 0,.int .i64 (-12)]],(r.boxSeq (id:=0) (sz:=4) (n:=1) rfl rfl (by decide) (by repeat' first|refine List.forall_mem_cons.2 ⟨rfl,?_⟩|exact fun u hu=>absurd hu List.not_mem_nil)).weak fun g hg=>.inr hg,rfl,by simp,fun j cs x h1 h2=>by cases j with|zero=>(cases h1;cases h2;rfl)|succ j=>cases h2⟩) br_calm br_borne br_err br_rank rfl frc_small eachB_small br_b3 br_u).mono fun _ _ ⟨v2,e1,e2,vu,vx,e3,e4,e5⟩=>⟨v2,e1,e2,vu,vx,e3,e4,by obtain⟨a,c,h,_⟩:=ListR.shape e5;exact⟨a,_,c,h⟩⟩) ?_)
 rintro ρ wa4 v4 wb4 r he hb ⟨vu1,_,rfl,hn,ay1,ny1,cy1,rfl⟩
 replace hw:=hw.tr hb
 replace hx:=RatsC.past (iv':=(wa4.heap.size,wb4.heap.size)::iv3) hx r (oldF w) he fun x hx=>List.mem_cons_of_mem _ hx
 clear hf
 have hu:=RatsC.got (S:=fun _=>False) hn r.baseLe (iv:=(wa4.heap.size,wb4.heap.size)::iv3) List.mem_cons_self
 clear r he hb
 generalize (wa4.heap.size,wb4.heap.size)::iv3=iv4 at*
 clear hn
 obtain⟨au1,cu1,rfl,-,-⟩:=ListR.shape hu
 conv=>whnf
 refine callE_S (callE_con (Φ:=fun _ w' v w2=>∃vn vb vs,v= .agg #[vn,vb,vs]∧FrameR w2 (Nw (fun _=>False) w' w2) vn vb vs bracketF) (fun ρ w' r=>bracket_c w') ?_)
 rintro ρ wa5 v5 wb5 r he hb ⟨vn3,vb3,vs3,rfl,hn⟩
 replace hw:=hw.tr hb
 replace hx:=RatsC.past (iv':=(wa5.heap.size,wb5.heap.size)::iv4) hx r (oldF w) he fun x hx=>List.mem_cons_of_mem _ hx
 replace hu:=RatsC.past (iv':=(wa5.heap.size,wb5.heap.size)::iv4) hu r (oldF w) he fun x hx=>List.mem_cons_of_mem _ hx
 have hf:=hn.got r.baseLe (iv:=(wa5.heap.size,wb5.heap.size)::iv4) List.mem_cons_self
 clear r he hb
 generalize (wa5.heap.size,wb5.heap.size)::iv4=iv5 at*
 clear hn
 obtain⟨an3,cn3,ab3,cb3,aq3,cq3,rfl,rfl,rfl,-,-,-⟩:=hf.shape
 conv=>whnf
 refine callE_S (callE_con (Φ:=fun _ w' v w2=>v= .tuple #[cntV 9 0 0,.int .i64 0]) (fun ρ w' r=>(sCount0_c (S:=Cv (fun _=>False) w.heap.size iv5) (h:=2) (Rel.old r (oldF w)) (FrameR.rel hf r (oldF w)) br_calm (errFL_zero br_err).1 (by rw[br_rank];decide)).mono fun _ _ ⟨v2,e1,e2,e3⟩=>⟨v2,e1,e2,by rw[e3,br_rank];rfl⟩) ?_)
 rintro ρ wa6 v6 wb6 r he hb rfl
 replace hw:=hw.tr hb
 replace hx:=RatsC.past (iv':=(wa6.heap.size,wb6.heap.size)::iv5) hx r (oldF w) he fun x hx=>List.mem_cons_of_mem _ hx
 replace hu:=RatsC.past (iv':=(wa6.heap.size,wb6.heap.size)::iv5) hu r (oldF w) he fun x hx=>List.mem_cons_of_mem _ hx
 clear hf
 clear r he hb
 generalize (wa6.heap.size,wb6.heap.size)::iv5=iv6 at*
 conv=>whnf
 refine callE_S (callE_con (Φ:=fun _ w' v w2=>∃vr,v= .tuple #[vr,.int .i64 0]∧RatC w2 (Nw (fun _=>False) w' w2) vr ((2:Int):Rat)) (fun ρ w' r=>(sLimitOk_c 25 10 w' (by decide) (by decide) (by decide)).mono fun _ _ ⟨v2,e1,e2,vr,rt,e3,e4,e5,e6⟩=>⟨v2,e1,e2,vr,e3,by
  have:rt=2000:=sq_one e4 e5 (by decide) (by decide)
  rw[this]at e6
  exact limB▸e6⟩) ?_)
 rintro ρ wa7 v7 wb7 r he hb ⟨vr1,rfl,hn⟩
 replace hw:=hw.tr hb
 replace hx:=RatsC.past (iv':=(wa7.heap.size,wb7.heap.size)::iv6) hx r (oldF w) he fun x hx=>List.mem_cons_of_mem _ hx
 replace hu:=RatsC.past (iv':=(wa7.heap.size,wb7.heap.size)::iv6) hu r (oldF w) he fun x hx=>List.mem_cons_of_mem _ hx
 have hl:=hn.got (S:=fun _=>False) r.baseLe (iv:=(wa7.heap.size,wb7.heap.size)::iv6) List.mem_cons_self
 clear r he hb
 generalize (wa7.heap.size,wb7.heap.size)::iv6=iv7 at*
 obtain⟨s7_0a,s7_0b,s7_0c,s7_0d,s7_0e,s7_0f,s7_0g,s7_0h,rfl⟩:=hl.shape
 clear hn
 conv=>whnf
 refine callE_S (callE_con (Φ:=fun _ w' v w2=>∃q,v= .tuple #[q,.int .i64 0]∧RatC w2 (Nw (fun _=>False) w' w2) q (Rat.divInt (-3) 2)) (fun ρ w' r=>(rRatio_c (-3) 2 w' (by decide) (by decide) (by decide) (by decide)).mono fun _ _ ⟨v2,e1,e2,e3⟩=>⟨v2,e1,e2,e3.elim (fun k=>absurd k.1 (by decide)) fun h=>h.2⟩) ?_)
 rintro ρ wa8 v8 wb8 r he hb ⟨q1,rfl,hn⟩
 replace hw:=hw.tr hb
 replace hx:=RatsC.past (iv':=(wa8.heap.size,wb8.heap.size)::iv7) hx r (oldF w) he fun x hx=>List.mem_cons_of_mem _ hx
 replace hu:=RatsC.past (iv':=(wa8.heap.size,wb8.heap.size)::iv7) hu r (oldF w) he fun x hx=>List.mem_cons_of_mem _ hx
 replace hl:=hl.past (iv':=(wa8.heap.size,wb8.heap.size)::iv7) r (oldF w) he fun x hx=>List.mem_cons_of_mem _ hx
 have hh:=hn.got (S:=fun _=>False) r.baseLe (iv:=(wa8.heap.size,wb8.heap.size)::iv7) List.mem_cons_self
 clear r he hb
 generalize (wa8.heap.size,wb8.heap.size)::iv7=iv8 at*
 obtain⟨s8_0a,s8_0b,s8_0c,s8_0d,s8_0e,s8_0f,s8_0g,s8_0h,rfl⟩:=hh.shape
 clear hn
 conv=>whnf
 refine callE_S (callE_con (Φ:=fun _ w' v w2=>RowXc w2 (fun _=>False) w'.heap.size [(w'.heap.size,w2.heap.size)] v 9 (wholesF dspW)) (fun ρ w' r=>wholes_c (S:=fun g=>g=(ρ 4).g) (fun g hg=>by subst hg;exact Rel.lt r (id:=4) rfl) (boxZs r (id:=4) (n:=9) (l:=dspW) rfl rfl (by decide)) (by decide) (by decide) (by decide)) ?_)
 rintro ρ wa9 v9 wb9 r he hb hn
 replace hw:=hw.tr hb
 replace hx:=RatsC.weak (S':=Bs (fun _=>False) w.heap.size ((wa9.heap.size,wb9.heap.size)::iv8) v9) (RatsC.keep (RatsC.rel hx r (oldF w)) fun g hg=>he.block g (Rel.old r (oldF w) g hg)) fun g hg=>Bs.of r (oldF w) (fun x hx=>List.mem_cons_of_mem _ hx) hn hg
 replace hu:=RatsC.weak (S':=Bs (fun _=>False) w.heap.size ((wa9.heap.size,wb9.heap.size)::iv8) v9) (RatsC.keep (RatsC.rel hu r (oldF w)) fun g hg=>he.block g (Rel.old r (oldF w) g hg)) fun g hg=>Bs.of r (oldF w) (fun x hx=>List.mem_cons_of_mem _ hx) hn hg
 replace hl:=RatC.weak (S':=Bs (fun _=>False) w.heap.size ((wa9.heap.size,wb9.heap.size)::iv8) v9) (RatC.keep (hl.rel r (oldF w)) fun g hg=>he.block g (Rel.old r (oldF w) g hg)) fun g hg=>Bs.of r (oldF w) (fun x hx=>List.mem_cons_of_mem _ hx) hn hg
 replace hh:=RatC.weak (S':=Bs (fun _=>False) w.heap.size ((wa9.heap.size,wb9.heap.size)::iv8) v9) (RatC.keep (hh.rel r (oldF w)) fun g hg=>he.block g (Rel.old r (oldF w) g hg)) fun g hg=>Bs.of r (oldF w) (fun x hx=>List.mem_cons_of_mem _ hx) hn hg
 have hX:=hn.got (S:=fun _=>False) r.baseLe (iv:=(wa9.heap.size,wb9.heap.size)::iv8) List.mem_cons_self
 clear r he hb hn
 generalize (wa9.heap.size,wb9.heap.size)::iv8=iv9 at*
 obtain⟨ax,cx,rfl,hcx⟩:=hX.row.form
 obtain⟨gx,rfl⟩:=hX.at (by decide)
 conv=>whnf
 refine⟨⟨gx,0,none⟩,rfl,⟨by omega,by omega⟩,?_⟩
 conv=>whnf
 intro ρ w' r
 obtain⟨g,hg,h1,h2,h3,h4,h5⟩:=(hX.rel r (oldF w)).store (j:=8) (by decide) (hh.keep (Bs.same r (oldF w))) r (oldF w)
 injection hg with hg
 injection hg with hg
 subst hg
 refine⟨h1,h2,h3,fun w5 hw5=>?_⟩
 obtain⟨k1,k2,k3⟩:=h5 w5 hw5
 rw[dsp_set]at k1
 have hw2:Bel w.heap.size w w5:=(hw.tr r.bel).tr (Bel.grown k2 (fun g e=>by injection e with e;subst e;exact h4.elim (fun h=>h.elim) fun h=>h.1) r.baseLe)
 have hx2:=RatsC.weak (S':=Cv (fun _=>False) w.heap.size iv9) (RatsC.keep hx (Bs.kept r (oldF w) k2 fun g e=>e)) fun g hg=>hg.1
 have hu2:=RatsC.weak (S':=Cv (fun _=>False) w.heap.size iv9) (RatsC.keep hu (Bs.kept r (oldF w) k2 fun g e=>e)) fun g hg=>hg.1
 have hl2:=RatC.weak (S':=Cv (fun _=>False) w.heap.size iv9) (RatC.keep hl (Bs.kept r (oldF w) k2 fun g e=>e)) fun g hg=>hg.1
 have hd2:=k1.c
 clear hX hx hu hl hh hw h1 h2 h3 h4 h5 hw5 k1 k2 k3 r
 have hw:=hw2
 have hx:=hx2
 have hu:=hu2
 have hl:=hl2
 have hd:=hd2
 clear hw2 hx2 hu2 hl2 hd2
 conv=>whnf
 refine drawn_of_pi hτ hmix [.x 0,.x 1,.x 2,.x 3,.x 4,.x 5,.x 6,.x 7,.x 8,.x 9,.x 10,.x 11,.x 12,.x 13,.x 14,.x 15,.x 16,.x 17,.x 18,.x 19,.x 20,.x 21,.x 22,.x 23,.x 24,.x 25,.x 26,.x 27,.x 28,.x 29,.x 30,.x 31,.x 32,.x 33,.x 34,.x 35] (by kernel_rfl) (by kernel_rfl) ?_
 conv=>whnf
 refine callE_con (Φ:=fun _ w' v w2=>RowXc w2 (fun _=>False) w'.heap.size [(w'.heap.size,w2.heap.size)] v 9 (wholesF frcW)) (fun ρ w' r=>wholes_c (S:=fun g=>g=(ρ 5).g) (fun g hg=>by subst hg;exact Rel.lt r (id:=5) rfl) (boxZs r (id:=5) (n:=9) (l:=frcW) rfl rfl (by decide)) (by decide) (by decide) (by decide)) ?_
 rintro ρ wa10 v10 wb10 r he hb hn
 replace hw:=hw.tr hb
 replace hx:=RatsC.past (iv':=(wa10.heap.size,wb10.heap.size)::iv9) hx r (oldF w) he fun x hx=>List.mem_cons_of_mem _ hx
 replace hu:=RatsC.past (iv':=(wa10.heap.size,wb10.heap.size)::iv9) hu r (oldF w) he fun x hx=>List.mem_cons_of_mem _ hx
 replace hl:=hl.past (iv':=(wa10.heap.size,wb10.heap.size)::iv9) r (oldF w) he fun x hx=>List.mem_cons_of_mem _ hx
 replace hd:=RatsC.past (iv':=(wa10.heap.size,wb10.heap.size)::iv9) hd r (oldF w) he fun x hx=>List.mem_cons_of_mem _ hx
 have hX:=hn.got (S:=fun _=>False) r.baseLe (iv:=(wa10.heap.size,wb10.heap.size)::iv9) List.mem_cons_self
 clear r he hb hn
 generalize (wa10.heap.size,wb10.heap.size)::iv9=iv10 at*
 have hv:=hX.c
 rw[frc_eq]at hv
 clear hX
 obtain⟨av,cv,rfl,-,-⟩:=ListR.shape hv
 conv=>whnf
 refine callE_con (Φ:=fun _ w' v w2=>v= .bool true) (fun ρ w' r=>(sameList_c (S:=Cv (fun _=>False) w.heap.size iv10) (Rel.old r (oldF w)) (RatsC.rel hx r (oldF w)) (RatsC.rel hv r (oldF w))).mono fun _ _ ⟨v2,e1,e2,e3⟩=>⟨v2,e1,e2,by rw[e3];exact congrArg _ (decide_eq_true rfl)⟩) ?_
 rintro ρ wa11 v11 wb11 r he hb rfl
 replace hw:=hw.tr hb
 clear hx
 replace hu:=RatsC.past (iv':=(wa11.heap.size,wb11.heap.size)::iv10) hu r (oldF w) he fun x hx=>List.mem_cons_of_mem _ hx
 replace hl:=hl.past (iv':=(wa11.heap.size,wb11.heap.size)::iv10) r (oldF w) he fun x hx=>List.mem_cons_of_mem _ hx
 replace hd:=RatsC.past (iv':=(wa11.heap.size,wb11.heap.size)::iv10) hd r (oldF w) he fun x hx=>List.mem_cons_of_mem _ hx
 clear hv
 clear r he hb
 generalize (wa11.heap.size,wb11.heap.size)::iv10=iv11 at*
 conv=>whnf
 refine callE_con (Φ:=fun _ w' v w2=>v= .bool true) (fun ρ w' r=>(sameList_c (S:=Cv (fun _=>False) w.heap.size iv11) (Rel.old r (oldF w)) (RatsC.rel hu r (oldF w)) (RatsC.rel hd r (oldF w))).mono fun _ _ ⟨v2,e1,e2,e3⟩=>⟨v2,e1,e2,by rw[e3];exact congrArg _ (decide_eq_true rfl)⟩) ?_
 rintro ρ wa12 v12 wb12 r he hb rfl
 replace hw:=hw.tr hb
 clear hu
 replace hl:=hl.past (iv':=(wa12.heap.size,wb12.heap.size)::iv11) r (oldF w) he fun x hx=>List.mem_cons_of_mem _ hx
 clear hd
 clear r he hb
 generalize (wa12.heap.size,wb12.heap.size)::iv11=iv12 at*
 conv=>whnf
 refine⟨true,fun ρ w o1 o2=>cnt_eql 9 0 0 9 0 0 w o1 o2,?_⟩
 conv=>whnf
 refine callE_con (Φ:=fun _ w' v w2=>RatC w2 (Nw (fun _=>False) w' w2) v ((2:Int):Rat)) (fun ρ w' r=>rWhole_c 2 w' (by decide)) ?_
 rintro ρ wa13 v13 wb13 r he hb hn
 replace hw:=hw.tr hb
 replace hl:=hl.past (iv':=(wa13.heap.size,wb13.heap.size)::iv12) r (oldF w) he fun x hx=>List.mem_cons_of_mem _ hx
 have ht:=hn.got (S:=fun _=>False) r.baseLe (iv:=(wa13.heap.size,wb13.heap.size)::iv12) List.mem_cons_self
 clear r he hb hn
 generalize (wa13.heap.size,wb13.heap.size)::iv12=iv13 at*
 obtain⟨s13_0,s13_1,s13_2,s13_3,s13_4,s13_5,s13_6,s13_7,rfl⟩:=ht.shape
 conv=>whnf
 refine callE_con (Φ:=fun _ w' v w2=>v= .bool true) (fun ρ w' r=>(same_c (S:=Cv (fun _=>False) w.heap.size iv13) (Rel.old r (oldF w)) (hl.rel r (oldF w)) (ht.rel r (oldF w))).mono fun _ _ ⟨v2,e1,e2,e3⟩=>⟨v2,e1,e2,by rw[e3];exact congrArg _ (decide_eq_true rfl)⟩) ?_
 rintro ρ wa14 v14 wb14 r he hb rfl
 replace hw:=hw.tr hb
 clear hl
 clear ht
 clear r he hb
 generalize (wa14.heap.size,wb14.heap.size)::iv13=iv14 at*
 conv=>whnf
 intro ρe we re
 exact⟨_,rfl,hw.tr re.bel,rfl⟩
end Go.Ex

/- Lists of fractions with few limbs. Printed by program. No condition but sizes. -/
namespace Go.Ex
open Go Go.Sx Go.Proofs

/-- cells of a fraction; few limbs -/
def Four(cs:List Value):Prop:=∃b a n c b2 a2 n2 c2,cs=[.bool b,.slice a n c,.bool b2,.slice a2 n2 c2]
def Few3(cs:List Value):Prop:=∃b a n c b2 a2 n2 c2,cs=[.bool b,.slice a n c,.bool b2,.slice a2 n2 c2]∧n≤3∧n2≤3
theorem addA(a:Addr)(m n:Nat):(a.add m).add n=a.add (m+n):=by
 unfold Addr.add
 split<;>split<;>simp_all<;>omega
theorem RatR.l3{S:Nat→Prop}{w:World}{b1 b2:Bool}{a1 a2:Option Addr}{n1 n2 c1 c2:Nat}{a b:Int}(h:RatR w S (.agg #[.bool b1,.slice a1 n1 c1,.bool b2,.slice a2 n2 c2]) a b)(hf:Few3 [.bool b1,.slice a1 n1 c1,.bool b2,.slice a2 n2 c2]):
  RatL w S (.agg #[.bool b1,.slice a1 n1 c1,.bool b2,.slice a2 n2 c2]) (ratio a b)∧rl (ratio a b)≤3:=by
 obtain⟨_,_,_,_,_,_,_,_,e,k1,k2⟩:=hf
 simp only[List.cons.injEq,Value.slice.injEq,Value.bool.injEq,and_true]at e
 obtain⟨rfl,⟨rfl,rfl,rfl⟩,rfl,rfl,rfl,rfl⟩:=e
 obtain⟨b1,l1,b2,l2,e,h1,h2⟩:=h
 simp only[Value.agg.injEq,Array.mk.injEq,List.cons.injEq,Value.bool.injEq,and_true]at e
 obtain⟨rfl,rfl,rfl,rfl⟩:=e
 have g1:=h1.short k1
 have g2:=h2.short k2
 have r1:=g1.ln
 have r2:=g2.ln
 have hr:=rl_ratio a b
 refine⟨⟨_,_,_,_,a,b,rfl,?_,?_,rfl⟩,by omega⟩
 ·obtain⟨ng,ls,i1,i2,i3⟩:=g1;exact⟨ng,ls,i1,i2,by omega⟩
 ·obtain⟨ng,ls,i1,i2,i3⟩:=g2;exact⟨ng,ls,i1,i2,by omega⟩
theorem brief_c{S:Nat→Prop}{w:World}{v:Value}{css:List (List Value)}(hS:Old S w)(hq:SeqR w S 4 v css.flatten css.length)(hF:∀cs∈css,Four cs):
  Con PG N.law05_brief #[v] w (Ret w fun v' _=>∃d,v'= .bool d∧(d=true→css.length≤80∧∀cs∈css,Few3 cs)):=by
 have hw:Bel w.heap.size w w:=Bel.refl
 have h4:∀cs∈css,cs.length=4:=fun cs hc=>by obtain⟨_,_,_,_,_,_,_,_,rfl⟩:=hF cs hc;rfl
 have hK:ListK 4 (fun _ _ cs x=>cs=x) w S v css:=⟨css,hq,rfl,h4,fun j cs x h1 h2=>by rw[h1]at h2;injection h2⟩
 obtain⟨a,c,rfl,hc,hm⟩:=hK.shape
 unfold maxLen at hm
 refine in_law05_brief (by simp) ?_
 conv=>whnf
 refine⟨Nat×World,fun z=>⟨[(0,.o (.v (.slice a css.length c))),(3,.o (.v (.int .i64 ((z.1:Nat):Int))))],[],0,[],z.2⟩,fun z=>css.length-z.1,
  fun z=>z.1≤css.length∧Bel w.heap.size w z.2∧∀j cs,j<z.1→css[j]? =some cs→Few3 cs,?_,?_⟩
 ·intro ρ w' r3
  exact⟨(0,w'),⟨Nat.zero_le _,hw.tr r3.bel,fun j cs hj=>absurd hj (Nat.not_lt_zero j)⟩,Sub.gen [] r3 trivial ⟨rfl,rfl,trivial⟩ (by simp[ScH,Blk.scopd,At.sc]) (by simp[ScE,SV.sc,At.sc,initE]) (by rfl) (fun lo hi h=>h)⟩
 clear hw
 rintro⟨i,w1⟩ ⟨hi,hw,hE⟩
 dsimp only at hi hw hE ⊢
 conv=>whnf
 refine BrS.mk (fun hib=>?_) (fun hib=>?_)
 ·have hib:i<css.length:=by simpa using hib
  conv=>whnf
  refine BrS.mk (fun h80=>?_) (fun h80=>?_)
  ·have h80:css.length≤80:=by have:=of_decide_eq_true h80;omega
   obtain⟨cs,hcs⟩:∃cs,css[i]? =some cs:=⟨_,List.getElem?_eq_getElem hib⟩
   obtain⟨g0,g1,g2,g3,g4,g5,g6,g7,rfl⟩:=hF cs (List.mem_of_getElem? hcs)
   obtain⟨adx,cs2,hax,he2,-,hat⟩:=hK.load (by decide) hcs
   subst he2
   conv=>whnf
   refine⟨adx,hax,⟨by omega,by omega⟩,?_⟩
   conv=>whnf
   refine⟨.slice g1 g2 g3,fun ρ w' r=>?_,?_⟩
   ·obtain⟨k1,k2⟩:=hat 1 _ rfl
    rw[Int.toNat_natCast,cell_of_heap (w:=w) (w2:=w') (by simp only[addB];exact(hw.tr r.bel).block _ (hS _ k1))]
    exact k2
   conv=>whnf
   refine BrS.mk (fun k3=>?_) (fun k3=>?_)
   ·conv=>whnf
    intro ρe we re
    exact⟨_,rfl,hw.tr re.bel,_,rfl,fun h=>by cases h⟩
   have k3:=of_decide_eq_false k3
   conv=>whnf
   refine⟨adx,hax,⟨by omega,by omega⟩,?_⟩
   conv=>whnf
   refine⟨.slice g5 g6 g7,fun ρ w' r=>?_,?_⟩
   ·obtain⟨k1,k2⟩:=hat 3 _ rfl
    rw[Int.toNat_natCast,cell_of_heap (w:=w) (w2:=w') (by simp only[addB];exact(hw.tr r.bel).block _ (hS _ k1))]
    exact k2
   conv=>whnf
   refine BrS.mk (fun k4=>?_) (fun k4=>?_)
   ·conv=>whnf
    intro ρe we re
    exact⟨_,rfl,hw.tr re.bel,_,rfl,fun h=>by cases h⟩
   have k4:=of_decide_eq_false k4
   have hE2:∀j cs,j<i+1→css[j]? =some cs→Few3 cs:=fun j cs hj hc=>by
    rcases Nat.lt_or_ge j i with h|h
    ·exact hE j cs h hc
    ·have:j=i:=by omega
     subst this
     rw[hcs]at hc
     injection hc with hc
     subst hc
     exact⟨_,_,_,_,_,_,_,_,rfl,by omega,by omega⟩
   conv=>whnf
   refine⟨((i+1:Nat):Int),by rw[wrap64]<;>omega,?_⟩
   conv=>whnf
   intro ρ3 w6 r3
   exact⟨(i+1,w6),⟨hib,hw.tr r3.bel,hE2⟩,Sub.gen [] r3 trivial ⟨rfl,rfl,trivial⟩ (by simp[ScH,Blk.scopd,At.sc]) (by simp[ScE,SV.sc,At.sc,initE]) (by rfl) (fun lo hi h=>h),by dsimp only;omega⟩
  ·have h80:=of_decide_eq_false h80
   conv=>whnf
   intro ρe we re
   exact⟨_,rfl,hw.tr re.bel,_,rfl,fun h=>by have:=of_decide_eq_true h;omega⟩
 have hib:i=css.length:=Nat.le_antisymm hi (by simpa using hib)
 subst hib
 conv=>whnf
 intro ρe we re
 exact⟨_,rfl,hw.tr re.bel,_,rfl,fun h=>⟨by have:=of_decide_eq_true h;omega,fun cs hc=>by
  obtain⟨j,hj⟩:=List.getElem?_of_mem hc
  exact hE j cs (List.getElem?_eq_some_iff.1 hj).1 hj⟩⟩
/-- a step's cells: two fractions, raw; by values -/
def StepW(w:World)(S:Nat→Prop)(cs:List Value)(p:(Int×Int)×(Int×Int)):Prop:=
 ∃b0 a0 n0 c0 b1 a1 n1 c1 b2 a2 n2 c2 b3 a3 n3 c3,cs=[.bool b0,.slice a0 n0 c0,.bool b1,.slice a1 n1 c1,.bool b2,.slice a2 n2 c2,.bool b3,.slice a3 n3 c3]∧
  RatR w S (.agg #[.bool b0,.slice a0 n0 c0,.bool b1,.slice a1 n1 c1]) p.1.1 p.1.2∧RatR w S (.agg #[.bool b2,.slice a2 n2 c2,.bool b3,.slice a3 n3 c3]) p.2.1 p.2.2
def StepP(w:World)(S:Nat→Prop)(cs:List Value)(q:Rat×Rat):Prop:=
 ∃b0 a0 n0 c0 b1 a1 n1 c1 b2 a2 n2 c2 b3 a3 n3 c3,cs=[.bool b0,.slice a0 n0 c0,.bool b1,.slice a1 n1 c1,.bool b2,.slice a2 n2 c2,.bool b3,.slice a3 n3 c3]∧
  (RatL w S (.agg #[.bool b0,.slice a0 n0 c0,.bool b1,.slice a1 n1 c1]) q.1∧rl q.1≤3)∧(RatL w S (.agg #[.bool b2,.slice a2 n2 c2,.bool b3,.slice a3 n3 c3]) q.2∧rl q.2≤3)
abbrev StepsW:=ListK 8 StepW
abbrev StepsL:=ListK 8 StepP
def stepV(p:(Int×Int)×(Int×Int)):Rat×Rat:=(ratio p.1.1 p.1.2,ratio p.2.1 p.2.2)
theorem StepP.keep{w w2:World}{S:Nat→Prop}{cs:List Value}{p:Rat×Rat}(h:StepP w S cs p)(hk:∀g,S g→w2.heap[g]? =w.heap[g]?):StepP w2 S cs p:=by
 obtain⟨b0,a0,n0,c0,b1,a1,n1,c1,b2,a2,n2,c2,b3,a3,n3,c3,h1,h2,h3⟩:=h
 exact⟨b0,a0,n0,c0,b1,a1,n1,c1,b2,a2,n2,c2,b3,a3,n3,c3,h1,⟨h2.1.keep hk,h2.2⟩,⟨h3.1.keep hk,h3.2⟩⟩
theorem StepsL.keep{w w2:World}{S:Nat→Prop}{v:Value}{l:List (Rat×Rat)}(h:StepsL w S v l)(hk:∀g,S g→w2.heap[g]? =w.heap[g]?):StepsL w2 S v l:=ListK.keep (fun _ _ h=>h.keep hk) h hk
end Go.Ex

/- Tables of steps: their errors, their value at a place, and that it lies between two values. No condition. -/
namespace Go.Ex
theorem between{a b x p q:Rat}(h1:a<x)(h2:x≤b):(p≤q→p≤p+(x-a) / (b-a)*(q-p)∧p+(x-a) / (b-a)*(q-p)≤q)∧(q≤p→q≤p+(x-a) / (b-a)*(q-p)∧p+(x-a) / (b-a)*(q-p)≤p):=by
 have hd:0<b-a:=by grind
 have hi:0≤(b-a)⁻¹:=Rat.le_of_lt (Rat.inv_pos.2 hd)
 obtain⟨t,ht⟩:∃t,(x-a) / (b-a)=t:=⟨_,rfl⟩
 have t0:0≤t:=by rw[←ht,Rat.div_def];exact Rat.mul_nonneg (by grind) hi
 have t1:t≤1:=by
  rw[←ht,Rat.div_def,←Rat.mul_inv_cancel (b-a) (by grind)]
  exact Rat.mul_le_mul_of_nonneg_right (by grind) hi
 rw[ht]
 refine⟨fun h=>?_,fun h=>?_⟩
 ·have k1:0≤t*(q-p):=Rat.mul_nonneg t0 (by grind)
  have k2:t*(q-p)≤1*(q-p):=Rat.mul_le_mul_of_nonneg_right t1 (by grind)
  grind
 ·have k1:0≤t*(p-q):=Rat.mul_nonneg t0 (by grind)
  have k2:t*(p-q)≤1*(p-q):=Rat.mul_le_mul_of_nonneg_right t1 (by grind)
  have k3:t*(q-p)= -(t*(p-q)):=by grind
  grind
end Go.Ex

/- A table's check and value. Printed by program. No condition but sizes. -/
namespace Go.Ex
open Go Go.Sx Go.Proofs

end Go.Ex

/- The reference's check and value of a table. Printed by program. No condition but sizes. -/
namespace Go.Ex
open Go Go.Sx Go.Proofs

end Go.Ex

/- StaticsTables of the laws of chapter 5. Printed by program. No condition. -/
namespace Go.Ex
open Go Go.Sx Go.Proofs

theorem StepW.keep{w w2:World}{S:Nat→Prop}{cs:List Value}{p:(Int×Int)×(Int×Int)}(h:StepW w S cs p)(hk:∀g,S g→w2.heap[g]? =w.heap[g]?):StepW w2 S cs p:=by
 obtain⟨b0,a0,n0,c0,b1,a1,n1,c1,b2,a2,n2,c2,b3,a3,n3,c3,h1,h2,h3⟩:=h
 exact⟨b0,a0,n0,c0,b1,a1,n1,c1,b2,a2,n2,c2,b3,a3,n3,c3,h1,h2.keep hk,h3.keep hk⟩
end Go.Ex

/- The reference's check of a frame and of loads. Printed by program. No condition but sizes. -/
namespace Go.Ex
open Go Go.Sx Go.Proofs

theorem barK_eq(c b:Int×Int×Rat):barK c=barK b↔(c.1=b.1∧c.2.1=b.2.1)∨(c.1=b.2.1∧c.2.1=b.1):=by
 unfold barK
 rw[Prod.mk.injEq]
 omega
theorem supK_eq(c b:Int×Int×Rat):supK c=supK b↔c.1=b.1∧c.2.1=b.2.1:=by
 unfold supK
 rw[Prod.mk.injEq]
section
variable{α β:Type}{L:List α}{K:α→β}{x:β}
theorem key_step{k:Nat}{c:α}(hc:L[k]? =some c)(h:K c≠x)(hE:x∈L.map K↔x∈(L.drop k).map K):x∈L.map K↔x∈(L.drop (k+1)).map K:=by
 rw[hE,List.drop_eq_getElem_cons (List.getElem?_eq_some_iff.1 hc).1,(List.getElem?_eq_some_iff.1 hc).2,List.map_cons,List.mem_cons,or_iff_right fun e=>h e.symm]
theorem key_hit{k:Nat}{c:α}(hc:L[k]? =some c)(h:K c=x):x∈L.map K:=List.mem_map.2 ⟨c,List.mem_of_getElem? hc,h⟩
theorem key_end{k:Nat}(hk:L.length≤k)(hE:x∈L.map K↔x∈(L.drop k).map K):x∉L.map K:=fun h=>by
 have:=hE.1 h
 rw[List.drop_eq_nil_of_le hk]at this
 cases this
end
theorem rIsNode_c(n:Int)(an ab aq:Option Addr)(ln cn nb cb nq cq:Nat)(w:World):Con PG N.ref05_isNode #[.agg #[.slice an ln cn,.slice ab nb cb,.slice aq nq cq],.int .i64 n] w (Ret w fun v' _=>∃d,v'= .bool d∧(d=true↔hasN ln n)):=by
 have hw:Bel w.heap.size w w:=Bel.refl
 refine in_ref05_isNode (by simp) ?_
 conv=>whnf
 refine BrS.mk (fun h1=>?_) (fun h1=>?_)
 ·conv=>whnf
  intro ρe we re
  have h1:=of_decide_eq_true h1
  exact⟨_,rfl,hw.tr re.bel,_,rfl,by rw[decide_eq_true_iff];exact⟨fun h=>⟨h1,h⟩,fun h=>h.2⟩⟩
 ·conv=>whnf
  intro ρe we re
  have h1:=of_decide_eq_false h1
  exact⟨_,rfl,hw.tr re.bel,_,rfl,(fun h=>by cases h),fun h=>absurd h.1 h1⟩
theorem within_c(n lo hi:Int)(w:World):Con PG N.base_Within #[.int .i64 n,.int .i64 lo,.int .i64 hi] w (Ret w fun v' _=>∃d,v'= .bool d∧(d=true↔lo≤n∧n≤hi)):=by
 have hw:Bel w.heap.size w w:=Bel.refl
 refine in_base_Within (by simp) ?_
 conv=>whnf
 refine BrS.mk (fun h1=>?_) (fun h1=>?_)
 ·conv=>whnf
  intro ρe we re
  have h1:=of_decide_eq_true h1
  exact⟨_,rfl,hw.tr re.bel,_,rfl,by rw[decide_eq_true_iff];exact⟨fun h=>⟨h1,h⟩,fun h=>h.2⟩⟩
 ·conv=>whnf
  intro ρe we re
  have h1:=of_decide_eq_false h1
  exact⟨_,rfl,hw.tr re.bel,_,rfl,(fun h=>by cases h),fun h=>absurd h.1 h1⟩
theorem rSignOfF_c{S:Nat→Prop}{w:World}{v:Value}{q:Rat}(hS:Old S w)(hp:RatL w S v q):Con PG N.ref01_SignOf #[v] w (Ret w fun v' _=>v'= .int .i64 (rs q)):=by
 obtain⟨a,b,h1,rfl,_,_⟩:=hp.v
 exact rSignOfR_c hS h1
set_option maxHeartbeats 2000000 in
theorem rCheck_c{S:Nat→Prop}{w:World}{vn vb vs:Value}{f:Frm}(hS:Old S w)(hf:FrameR w S vn vb vs f):Con PG N.ref05_Check #[.agg #[vn,vb,vs]] w (Ret w fun v' _=>v'= .int .i64 (errF f)):=by
 have hw:Bel w.heap.size w w:=Bel.refl
 obtain⟨an,cn,ab,cb,aq,cq,rfl,rfl,rfl,hmn,hmb,hms⟩:=hf.shape
 refine in_ref05_Check (by simp) ?_
 conv=>whnf
 refine BrS.mk (fun h0=>?_) (fun h0=>?_)
 ·have h0:=of_decide_eq_true h0
  conv=>whnf
  intro ρe we re
  exact⟨_,rfl,hw.tr re.bel,by show Value.int .i64 _=_;rw[errF,if_pos (by omega)]⟩
 have h0:=of_decide_eq_false h0
 conv=>whnf
 refine BrS.mk (fun h1=>?_) (fun h1=>?_)
 ·have h1:=of_decide_eq_true h1
  conv=>whnf
  intro ρe we re
  exact⟨_,rfl,hw.tr re.bel,by show Value.int .i64 _=_;rw[errF,if_pos (by omega)]⟩
 have h1:=of_decide_eq_false h1
 conv=>whnf
 refine BrS.mk (fun h2=>?_) (fun h2=>?_)
 ·have h2:=of_decide_eq_true h2
  conv=>whnf
  intro ρe we re
  exact⟨_,rfl,hw.tr re.bel,by show Value.int .i64 _=_;rw[errF,if_pos (by omega)]⟩
 have h2:=of_decide_eq_false h2
 conv=>whnf
 refine⟨Nat×World×Iv,fun z=>⟨[(1,.o (.p 0 0)),(3,.o (.v (.int .i64 ((z.1:Nat):Int))))],[(0,.box T.Frame [.v (.slice an f.nodes.length cn),.v (.slice ab f.bars.length cb),.v (.slice aq f.sups.length cq)])],1,z.2.2,z.2.1⟩,fun z=>f.nodes.length-z.1,
  fun z=>z.1≤f.nodes.length∧Bel w.heap.size w z.2.1∧firstE nodeE [] f.nodes=firstE nodeE (f.nodes.take z.1) (f.nodes.drop z.1),?_,?_⟩
 ·intro ρ w' r3
  exact⟨(0,w',_),⟨Nat.zero_le _,hw.tr r3.bel,rfl⟩,Sub.gen [] r3 ⟨rfl,trivial⟩ ⟨rfl,rfl,trivial⟩ (by simp[ScH,Blk.scopd,At.sc]) (by simp[ScE,SV.sc,At.sc,initE]) (by rfl) (fun lo hi h=>h)⟩
 clear hw
 rintro⟨i,w1,iv⟩ ⟨hi,hw,hE⟩
 dsimp only at hi hw hE ⊢
 conv=>whnf
 refine BrS.mk (fun hib=>?_) (fun hib=>?_)
 ·have hib:i<f.nodes.length:=by simpa using hib
  obtain⟨b,hx⟩:∃b,f.nodes[i]? =some b:=⟨_,List.getElem?_eq_getElem hib⟩
  have hLl:(f.nodes.take i).length=i:=by rw[List.length_take];omega
  obtain⟨adb,cs,hab,hF,-,hlb⟩:=hf.nodes.load (by decide) hx
  have hF:cs=[.int .i64 b.1,.int .i64 b.2.1,.int .i64 b.2.2]:=hF
  subst hF
  conv=>whnf
  refine⟨adb,hab,⟨by omega,by omega⟩,?_⟩
  conv=>whnf
  refine⟨[.int .i64 b.1,.int .i64 b.2.1,.int .i64 b.2.2],rfl,fun ρ w' r j u hu=>?_,?_⟩
  ·obtain⟨k1,k2⟩:=hlb j u hu
   rw[Int.toNat_natCast,cell_of_heap (w:=w) (w2:=w') (by rw[addB,addB];exact(hw.tr r.bel).block _ (hS _ k1))]
   exact k2
  conv=>whnf
  refine callE_S (callE_con (Φ:=fun _ w' v w2=>∃d,v= .bool d∧(d=true↔inB b.1)) (fun ρ w' r=>within_c _ _ _ w') ?_)
  rintro ρ wa1 v1 wb1 r he hb ⟨d0,rfl,hz0⟩
  replace hw:=hw.tr hb
  clear r he hb
  generalize (wa1.heap.size,wb1.heap.size)::iv=iv1 at*
  cases d0
  ·have hz0:¬inB b.1:=fun h=>by have:=hz0.2 h;cases this
   conv=>whnf
   intro ρe we re
   exact⟨_,rfl,hw.tr re.bel,by show Value.int .i64 _=_;rw[errF,if_neg (by omega),if_pos (by rw[hE,firstE_ret hx (show nodeE (f.nodes.take i) b=2 by rw[nodeE,if_neg (fun h=>hz0 h.1)]) (by decide)];decide),hE,firstE_ret hx (show nodeE (f.nodes.take i) b=2 by rw[nodeE,if_neg (fun h=>hz0 h.1)]) (by decide)]⟩
  replace hz0:=hz0.1 rfl
  conv=>whnf
  refine callE_S (callE_con (Φ:=fun _ w' v w2=>∃d,v= .bool d∧(d=true↔inB b.2.1)) (fun ρ w' r=>within_c _ _ _ w') ?_)
  rintro ρ wa2 v2 wb2 r he hb ⟨d1,rfl,hz1⟩
  replace hw:=hw.tr hb
  clear r he hb
  generalize (wa2.heap.size,wb2.heap.size)::iv1=iv2 at*
  cases d1
  ·have hz1:¬inB b.2.1:=fun h=>by have:=hz1.2 h;cases this
   conv=>whnf
   intro ρe we re
   exact⟨_,rfl,hw.tr re.bel,by show Value.int .i64 _=_;rw[errF,if_neg (by omega),if_pos (by rw[hE,firstE_ret hx (show nodeE (f.nodes.take i) b=2 by rw[nodeE,if_neg (fun h=>hz1 h.2.1)]) (by decide)];decide),hE,firstE_ret hx (show nodeE (f.nodes.take i) b=2 by rw[nodeE,if_neg (fun h=>hz1 h.2.1)]) (by decide)]⟩
  replace hz1:=hz1.1 rfl
  conv=>whnf
  refine callE_S (callE_con (Φ:=fun _ w' v w2=>∃d,v= .bool d∧(d=true↔inB b.2.2)) (fun ρ w' r=>within_c _ _ _ w') ?_)
  rintro ρ wa3 v3 wb3 r he hb ⟨d2,rfl,hz2⟩
  replace hw:=hw.tr hb
  clear r he hb
  generalize (wa3.heap.size,wb3.heap.size)::iv2=iv3 at*
  cases d2
  ·have hz2:¬inB b.2.2:=fun h=>by have:=hz2.2 h;cases this
   conv=>whnf
   intro ρe we re
   exact⟨_,rfl,hw.tr re.bel,by show Value.int .i64 _=_;rw[errF,if_neg (by omega),if_pos (by rw[hE,firstE_ret hx (show nodeE (f.nodes.take i) b=2 by rw[nodeE,if_neg (fun h=>hz2 h.2.2)]) (by decide)];decide),hE,firstE_ret hx (show nodeE (f.nodes.take i) b=2 by rw[nodeE,if_neg (fun h=>hz2 h.2.2)]) (by decide)]⟩
  replace hz2:=hz2.1 rfl
  conv=>whnf
  refine⟨Nat×World,fun z=>⟨[(1,.o (.p 0 0)),(3,.o (.v (.int .i64 ((i:Nat):Int)))),(4,.o (.p 1 0)),(5,.o (.v (.int .i64 ((z.1:Nat):Int))))],[(1,.box T.Node [.v (.int .i64 b.1),.v (.int .i64 b.2.1),.v (.int .i64 b.2.2)]),(0,.box T.Frame [.v (.slice an f.nodes.length cn),.v (.slice ab f.bars.length cb),.v (.slice aq f.sups.length cq)])],2,iv3,z.2⟩,fun z=>i-z.1,
   fun z=>z.1≤i∧Bel w.heap.size w z.2∧(b∈(f.nodes.take i).map id↔b∈((f.nodes.take i).drop z.1).map id),?_,?_⟩
  ·intro ρ w' r3
   exact⟨(0,w'),⟨Nat.zero_le _,hw.tr r3.bel,Iff.rfl⟩,Sub.gen [] r3 ⟨rfl,rfl,trivial⟩ ⟨rfl,rfl,rfl,rfl,trivial⟩ (by simp[ScH,Blk.scopd,At.sc]) (by simp[ScE,SV.sc,At.sc,initE]) (by rfl) (fun lo hi h=>h)⟩
  clear hw
  rintro⟨k,w2⟩ ⟨hk,hw,hK⟩
  dsimp only at hk hw hK ⊢
  conv=>whnf
  refine BrS.mk (fun hkb=>?_) (fun hkb=>?_)
  ·have hkb:k<i:=by have:=of_decide_eq_true hkb;omega
   obtain⟨c,hc⟩:∃c,f.nodes[k]? =some c:=⟨_,List.getElem?_eq_getElem (by omega)⟩
   have hcL:(f.nodes.take i)[k]? =some c:=by rw[List.getElem?_take_of_lt hkb];exact hc
   obtain⟨adc,cs2,hac,hF2,-,hlc⟩:=hf.nodes.load (by decide) hc
   have hF2:cs2=[.int .i64 c.1,.int .i64 c.2.1,.int .i64 c.2.2]:=hF2
   subst hF2
   conv=>whnf
   refine drawn_of_pi hτ hmix [.x 0,.x 1,.x 2,.x 3,.x 4,.x 5,.x 6] (by kernel_rfl) (by kernel_rfl) ?_
   conv=>whnf
   refine⟨adc,hac,⟨by omega,by omega⟩,?_⟩
   conv=>whnf
   refine⟨[.int .i64 c.1,.int .i64 c.2.1,.int .i64 c.2.2],rfl,fun ρ w' r j u hu=>?_,?_⟩
   ·obtain⟨k1,k2⟩:=hlc j u hu
    rw[Int.toNat_natCast,cell_of_heap (w:=w) (w2:=w') (by rw[addB,addB];exact(hw.tr r.bel).block _ (hS _ k1))]
    exact k2
   conv=>whnf
   refine⟨decide (c=b),fun ρ w o1 o2=>node_eql c b w o1 o2,?_⟩
   conv=>whnf
   refine BrS.mk (fun hd=>?_) (fun hd=>?_)
   ·have hd:c=b:=of_decide_eq_true hd
    have hin:b∈f.nodes.take i:=by have:=key_hit (K:=id) hcL hd;rwa [List.map_id]at this
    conv=>whnf
    intro ρe we re
    exact⟨_,rfl,hw.tr re.bel,by show Value.int .i64 _=_;rw[errF,if_neg (by omega),if_pos (by rw[hE,firstE_ret hx (show nodeE (f.nodes.take i) b=12 by rw[nodeE,if_pos ⟨hz0,hz1,hz2⟩,if_pos hin]) (by decide)];decide),hE,firstE_ret hx (show nodeE (f.nodes.take i) b=12 by rw[nodeE,if_pos ⟨hz0,hz1,hz2⟩,if_pos hin]) (by decide)]⟩
   have hd:c≠b:=of_decide_eq_false hd
   have hK2:=key_step (K:=id) hcL hd hK
   conv=>whnf
   refine⟨((k+1:Nat):Int),by rw[wrap64]<;>omega,?_⟩
   conv=>whnf
   intro ρ3 w6 r3
   exact⟨(k+1,w6),⟨hkb,hw.tr r3.bel,hK2⟩,Sub.gen [] r3 ⟨rfl,rfl,trivial⟩ ⟨rfl,rfl,rfl,rfl,trivial⟩ (by simp[ScH,Blk.scopd,At.sc]) (by simp[ScE,SV.sc,At.sc,initE]) (by rfl) (fun lo hi h=>h),by dsimp only;omega⟩
  have hkb:k=i:=by have:=of_decide_eq_false hkb;omega
  have hdup:=key_end (by rw[hLl];omega) hK
  rw[List.map_id]at hdup
  conv=>whnf
  rw[firstE_step hx (nodeE_zero.2 ⟨⟨hz0,hz1,hz2⟩,hdup⟩)]at hE
  conv=>whnf
  refine⟨((i+1:Nat):Int),by rw[wrap64]<;>omega,?_⟩
  conv=>whnf
  intro ρ3 w6 r3
  exact⟨(i+1,w6,_),⟨hib,hw.tr r3.bel,hE⟩,Sub.gen [] r3 ⟨rfl,trivial⟩ ⟨rfl,rfl,trivial⟩ (by simp[ScH,Blk.scopd,At.sc]) (by simp[ScE,SV.sc,At.sc,initE]) (by rfl) (fun lo hi h=>h),by dsimp only;omega⟩
 have hib:i=f.nodes.length:=Nat.le_antisymm hi (by simpa using hib)
 rw[firstE_end (by omega)]at hE
 clear hib hi
 conv=>whnf
 refine⟨Nat×World×Iv,fun z=>⟨[(1,.o (.p 0 0)),(6,.o (.v (.int .i64 ((z.1:Nat):Int))))],[(0,.box T.Frame [.v (.slice an f.nodes.length cn),.v (.slice ab f.bars.length cb),.v (.slice aq f.sups.length cq)])],1,z.2.2,z.2.1⟩,fun z=>f.bars.length-z.1,
  fun z=>z.1≤f.bars.length∧Bel w.heap.size w z.2.1∧firstE (barE f.nodes.length) [] f.bars=firstE (barE f.nodes.length) (f.bars.take z.1) (f.bars.drop z.1),?_,?_⟩
 ·intro ρ w' r3
  exact⟨(0,w',_),⟨Nat.zero_le _,hw.tr r3.bel,rfl⟩,Sub.gen [] r3 ⟨rfl,trivial⟩ ⟨rfl,rfl,trivial⟩ (by simp[ScH,Blk.scopd,At.sc]) (by simp[ScE,SV.sc,At.sc,initE]) (by rfl) (fun lo hi h=>h)⟩
 clear hw
 rintro⟨i,w1,iv⟩ ⟨hi,hw,hE2⟩
 dsimp only at hi hw hE2 ⊢
 conv=>whnf
 refine BrS.mk (fun hib=>?_) (fun hib=>?_)
 ·have hib:i<f.bars.length:=by simpa using hib
  obtain⟨b,hx⟩:∃b,f.bars[i]? =some b:=⟨_,List.getElem?_eq_getElem hib⟩
  have hLl:(f.bars.take i).length=i:=by rw[List.length_take];omega
  obtain⟨adb,cs,hab,hF,-,hlb⟩:=hf.bars.load (by decide) hx
  obtain⟨g0,g1,g2,g3,g4,g5,g6,g7,rfl,hF⟩:=hF
  conv=>whnf
  refine⟨adb,hab,⟨by omega,by omega⟩,?_⟩
  conv=>whnf
  refine⟨[.int .i64 b.1,.int .i64 b.2.1,.bool g0,.slice g1 g2 g3,.bool g4,.slice g5 g6 g7],rfl,fun ρ w' r j u hu=>?_,?_⟩
  ·obtain⟨k1,k2⟩:=hlb j u hu
   rw[Int.toNat_natCast,cell_of_heap (w:=w) (w2:=w') (by rw[addB,addB];exact(hw.tr r.bel).block _ (hS _ k1))]
   exact k2
  conv=>whnf
  refine callE_S (callE_con (Φ:=fun _ w' v w2=>∃d,v= .bool d∧(d=true↔hasN f.nodes.length b.1)) (fun ρ w' r=>rIsNode_c _ _ _ _ _ _ _ _ _ _ w') ?_)
  rintro ρ wa1 v1 wb1 r he hb ⟨d0,rfl,hz0⟩
  replace hw:=hw.tr hb
  clear r he hb
  generalize (wa1.heap.size,wb1.heap.size)::iv=iv1 at*
  cases d0
  ·have hz0:¬hasN f.nodes.length b.1:=fun h=>by have:=hz0.2 h;cases this
   conv=>whnf
   intro ρe we re
   exact⟨_,rfl,hw.tr re.bel,by show Value.int .i64 _=_;rw[errF,if_neg (by omega),if_neg (by rw[hE];decide),if_pos (by rw[hE2,firstE_ret hx (show barE f.nodes.length (f.bars.take i) b=6 by rw[barE,if_neg (fun h=>hz0 h.1)]) (by decide)];decide),hE2,firstE_ret hx (show barE f.nodes.length (f.bars.take i) b=6 by rw[barE,if_neg (fun h=>hz0 h.1)]) (by decide)]⟩
  replace hz0:=hz0.1 rfl
  conv=>whnf
  refine callE_S (callE_con (Φ:=fun _ w' v w2=>∃d,v= .bool d∧(d=true↔hasN f.nodes.length b.2.1)) (fun ρ w' r=>rIsNode_c _ _ _ _ _ _ _ _ _ _ w') ?_)
  rintro ρ wa2 v2 wb2 r he hb ⟨d1,rfl,hz1⟩
  replace hw:=hw.tr hb
  clear r he hb
  generalize (wa2.heap.size,wb2.heap.size)::iv1=iv2 at*
  cases d1
  ·have hz1:¬hasN f.nodes.length b.2.1:=fun h=>by have:=hz1.2 h;cases this
   conv=>whnf
   intro ρe we re
   exact⟨_,rfl,hw.tr re.bel,by show Value.int .i64 _=_;rw[errF,if_neg (by omega),if_neg (by rw[hE];decide),if_pos (by rw[hE2,firstE_ret hx (show barE f.nodes.length (f.bars.take i) b=6 by rw[barE,if_neg (fun h=>hz1 h.2)]) (by decide)];decide),hE2,firstE_ret hx (show barE f.nodes.length (f.bars.take i) b=6 by rw[barE,if_neg (fun h=>hz1 h.2)]) (by decide)]⟩
  replace hz1:=hz1.1 rfl
  conv=>whnf
  refine BrS.mk (fun hab2=>?_) (fun hab2=>?_)
  ·have hab2:b.1=b.2.1:=by simpa using hab2
   conv=>whnf
   intro ρe we re
   exact⟨_,rfl,hw.tr re.bel,by show Value.int .i64 _=_;rw[errF,if_neg (by omega),if_neg (by rw[hE];decide),if_pos (by rw[hE2,firstE_ret hx (show barE f.nodes.length (f.bars.take i) b=3 by rw[barE,if_pos ⟨hz0,hz1⟩,if_pos hab2]) (by decide)];decide),hE2,firstE_ret hx (show barE f.nodes.length (f.bars.take i) b=3 by rw[barE,if_pos ⟨hz0,hz1⟩,if_pos hab2]) (by decide)]⟩
  have hab2:b.1≠b.2.1:=by simpa using hab2
  conv=>whnf
  refine⟨Nat×World,fun z=>⟨[(1,.o (.p 0 0)),(6,.o (.v (.int .i64 ((i:Nat):Int)))),(7,.o (.p 1 0)),(8,.o (.v (.int .i64 ((z.1:Nat):Int))))],[(1,.box T.Bar [.v (.int .i64 b.1),.v (.int .i64 b.2.1),.v (.bool g0),.v (.slice g1 g2 g3),.v (.bool g4),.v (.slice g5 g6 g7)]),(0,.box T.Frame [.v (.slice an f.nodes.length cn),.v (.slice ab f.bars.length cb),.v (.slice aq f.sups.length cq)])],2,iv2,z.2⟩,fun z=>i-z.1,
   fun z=>z.1≤i∧Bel w.heap.size w z.2∧(barK b∈(f.bars.take i).map barK↔barK b∈((f.bars.take i).drop z.1).map barK),?_,?_⟩
  ·intro ρ w' r3
   exact⟨(0,w'),⟨Nat.zero_le _,hw.tr r3.bel,Iff.rfl⟩,Sub.gen [] r3 ⟨rfl,rfl,trivial⟩ ⟨rfl,rfl,rfl,rfl,trivial⟩ (by simp[ScH,Blk.scopd,At.sc]) (by simp[ScE,SV.sc,At.sc,initE]) (by rfl) (fun lo hi h=>h)⟩
  clear hw
  rintro⟨k,w2⟩ ⟨hk,hw,hK⟩
  dsimp only at hk hw hK ⊢
  conv=>whnf
  refine BrS.mk (fun hkb=>?_) (fun hkb=>?_)
  ·have hkb:k<i:=by have:=of_decide_eq_true hkb;omega
   obtain⟨c,hc⟩:∃c,f.bars[k]? =some c:=⟨_,List.getElem?_eq_getElem (by omega)⟩
   have hcL:(f.bars.take i)[k]? =some c:=by rw[List.getElem?_take_of_lt hkb];exact hc
   obtain⟨adc,cs2,hac,hF2,-,hlc⟩:=hf.bars.load (by decide) hc
   obtain⟨q0,q1,q2,q3,q4,q5,q6,q7,rfl,-⟩:=hF2
   conv=>whnf
   refine⟨adc,hac,⟨by omega,by omega⟩,?_⟩
   conv=>whnf
   refine⟨[.int .i64 c.1,.int .i64 c.2.1,.bool q0,.slice q1 q2 q3,.bool q4,.slice q5 q6 q7],rfl,fun ρ w' r j u hu=>?_,?_⟩
   ·obtain⟨k1,k2⟩:=hlc j u hu
    rw[Int.toNat_natCast,cell_of_heap (w:=w) (w2:=w') (by rw[addB,addB];exact(hw.tr r.bel).block _ (hS _ k1))]
    exact k2
   conv=>whnf
   refine BrS.mk (fun e1=>?_) (fun e1=>?_)
   ·have e1:(c.1=b.1):=by simpa using e1
    conv=>whnf
    refine BrS.mk (fun e2=>?_) (fun e2=>?_)
    ·have e2:(c.2.1=b.2.1):=by simpa using e2
     have hin:=key_hit (K:=barK) hcL (show barK c=barK b by rw[barK_eq];omega)
     conv=>whnf
     intro ρe we re
     exact⟨_,rfl,hw.tr re.bel,by show Value.int .i64 _=_;rw[errF,if_neg (by omega),if_neg (by rw[hE];decide),if_pos (by rw[hE2,firstE_ret hx (show barE f.nodes.length (f.bars.take i) b=5 by rw[barE,if_pos ⟨hz0,hz1⟩,if_neg hab2,if_pos hin]) (by decide)];decide),hE2,firstE_ret hx (show barE f.nodes.length (f.bars.take i) b=5 by rw[barE,if_pos ⟨hz0,hz1⟩,if_neg hab2,if_pos hin]) (by decide)]⟩
    ·have e2:¬(c.2.1=b.2.1):=by simpa using e2
     conv=>whnf
     refine BrS.mk (fun e3=>?_) (fun e3=>?_)
     ·have e3:(c.1=b.2.1):=by simpa using e3
      conv=>whnf
      refine BrS.mk (fun e4=>?_) (fun e4=>?_)
      ·have e4:(c.2.1=b.1):=by simpa using e4
       have hin:=key_hit (K:=barK) hcL (show barK c=barK b by rw[barK_eq];omega)
       conv=>whnf
       intro ρe we re
       exact⟨_,rfl,hw.tr re.bel,by show Value.int .i64 _=_;rw[errF,if_neg (by omega),if_neg (by rw[hE];decide),if_pos (by rw[hE2,firstE_ret hx (show barE f.nodes.length (f.bars.take i) b=5 by rw[barE,if_pos ⟨hz0,hz1⟩,if_neg hab2,if_pos hin]) (by decide)];decide),hE2,firstE_ret hx (show barE f.nodes.length (f.bars.take i) b=5 by rw[barE,if_pos ⟨hz0,hz1⟩,if_neg hab2,if_pos hin]) (by decide)]⟩
      ·have e4:¬(c.2.1=b.1):=by simpa using e4
       have hK2:=key_step (K:=barK) hcL (show barK c≠barK b by rw[Ne,barK_eq];omega) hK
       conv=>whnf
       refine⟨((k+1:Nat):Int),by rw[wrap64]<;>omega,?_⟩
       conv=>whnf
       intro ρ3 w6 r3
       exact⟨(k+1,w6),⟨hkb,hw.tr r3.bel,hK2⟩,Sub.gen [] r3 ⟨rfl,rfl,trivial⟩ ⟨rfl,rfl,rfl,rfl,trivial⟩ (by simp[ScH,Blk.scopd,At.sc]) (by simp[ScE,SV.sc,At.sc,initE]) (by rfl) (fun lo hi h=>h),by dsimp only;omega⟩
     ·have e3:¬(c.1=b.2.1):=by simpa using e3
      have hK2:=key_step (K:=barK) hcL (show barK c≠barK b by rw[Ne,barK_eq];omega) hK
      conv=>whnf
      refine⟨((k+1:Nat):Int),by rw[wrap64]<;>omega,?_⟩
      conv=>whnf
      intro ρ3 w6 r3
      exact⟨(k+1,w6),⟨hkb,hw.tr r3.bel,hK2⟩,Sub.gen [] r3 ⟨rfl,rfl,trivial⟩ ⟨rfl,rfl,rfl,rfl,trivial⟩ (by simp[ScH,Blk.scopd,At.sc]) (by simp[ScE,SV.sc,At.sc,initE]) (by rfl) (fun lo hi h=>h),by dsimp only;omega⟩
   ·have e1:¬(c.1=b.1):=by simpa using e1
    conv=>whnf
    refine BrS.mk (fun e3=>?_) (fun e3=>?_)
    ·have e3:(c.1=b.2.1):=by simpa using e3
     conv=>whnf
     refine BrS.mk (fun e4=>?_) (fun e4=>?_)
     ·have e4:(c.2.1=b.1):=by simpa using e4
      have hin:=key_hit (K:=barK) hcL (show barK c=barK b by rw[barK_eq];omega)
      conv=>whnf
      intro ρe we re
      exact⟨_,rfl,hw.tr re.bel,by show Value.int .i64 _=_;rw[errF,if_neg (by omega),if_neg (by rw[hE];decide),if_pos (by rw[hE2,firstE_ret hx (show barE f.nodes.length (f.bars.take i) b=5 by rw[barE,if_pos ⟨hz0,hz1⟩,if_neg hab2,if_pos hin]) (by decide)];decide),hE2,firstE_ret hx (show barE f.nodes.length (f.bars.take i) b=5 by rw[barE,if_pos ⟨hz0,hz1⟩,if_neg hab2,if_pos hin]) (by decide)]⟩
     ·have e4:¬(c.2.1=b.1):=by simpa using e4
      have hK2:=key_step (K:=barK) hcL (show barK c≠barK b by rw[Ne,barK_eq];omega) hK
      conv=>whnf
      refine⟨((k+1:Nat):Int),by rw[wrap64]<;>omega,?_⟩
      conv=>whnf
      intro ρ3 w6 r3
      exact⟨(k+1,w6),⟨hkb,hw.tr r3.bel,hK2⟩,Sub.gen [] r3 ⟨rfl,rfl,trivial⟩ ⟨rfl,rfl,rfl,rfl,trivial⟩ (by simp[ScH,Blk.scopd,At.sc]) (by simp[ScE,SV.sc,At.sc,initE]) (by rfl) (fun lo hi h=>h),by dsimp only;omega⟩
    ·have e3:¬(c.1=b.2.1):=by simpa using e3
     have hK2:=key_step (K:=barK) hcL (show barK c≠barK b by rw[Ne,barK_eq];omega) hK
     conv=>whnf
     refine⟨((k+1:Nat):Int),by rw[wrap64]<;>omega,?_⟩
     conv=>whnf
     intro ρ3 w6 r3
     exact⟨(k+1,w6),⟨hkb,hw.tr r3.bel,hK2⟩,Sub.gen [] r3 ⟨rfl,rfl,trivial⟩ ⟨rfl,rfl,rfl,rfl,trivial⟩ (by simp[ScH,Blk.scopd,At.sc]) (by simp[ScE,SV.sc,At.sc,initE]) (by rfl) (fun lo hi h=>h),by dsimp only;omega⟩
  have hkb:k=i:=by have:=of_decide_eq_false hkb;omega
  have hdup:=key_end (by rw[hLl];omega) hK
  conv=>whnf
  refine callE_S (callE_con (Φ:=fun _ w' v w2=>v= .int .i64 (rs b.2.2)) (fun ρ w' r=>(rSignOfF_c (fun g hg=>by have:=hS g hg;have:=r.baseLe;omega) (hF.keep fun g hg=>(hw.tr r.bel).block g (hS g hg)))) ?_)
  rintro ρ wa3 v3 wb3 r he hb rfl
  replace hw:=hw.tr hb
  clear r he hb
  generalize (wa3.heap.size,wb3.heap.size)::iv2=iv3 at*
  obtain⟨cf,hcf⟩:∃c,rs b.2.2=c:=⟨_,rfl⟩
  rw[hcf]
  conv=>whnf
  refine BrS.mk (fun hd2=>?_) (fun hd2=>?_)
  ·have hd2:b.2.2≤0:=by have:=of_decide_eq_true hd2;rw[←Rat.not_lt,←rs_pos_iff];omega
   conv=>whnf
   intro ρe we re
   exact⟨_,rfl,hw.tr re.bel,by show Value.int .i64 _=_;rw[errF,if_neg (by omega),if_neg (by rw[hE];decide),if_pos (by rw[hE2,firstE_ret hx (show barE f.nodes.length (f.bars.take i) b=2 by rw[barE,if_pos ⟨hz0,hz1⟩,if_neg hab2,if_neg hdup,if_pos hd2]) (by decide)];decide),hE2,firstE_ret hx (show barE f.nodes.length (f.bars.take i) b=2 by rw[barE,if_pos ⟨hz0,hz1⟩,if_neg hab2,if_neg hdup,if_pos hd2]) (by decide)]⟩
  have hd2:0<b.2.2:=by have:=of_decide_eq_false hd2;rw[←rs_pos_iff];omega
  rw[firstE_step hx (barE_zero.2 ⟨⟨hz0,hz1⟩,hab2,hdup,hd2⟩)]at hE2
  conv=>whnf
  refine⟨((i+1:Nat):Int),by rw[wrap64]<;>omega,?_⟩
  conv=>whnf
  intro ρ3 w6 r3
  exact⟨(i+1,w6,_),⟨hib,hw.tr r3.bel,hE2⟩,Sub.gen [] r3 ⟨rfl,trivial⟩ ⟨rfl,rfl,trivial⟩ (by simp[ScH,Blk.scopd,At.sc]) (by simp[ScE,SV.sc,At.sc,initE]) (by rfl) (fun lo hi h=>h),by dsimp only;omega⟩
 have hib:i=f.bars.length:=Nat.le_antisymm hi (by simpa using hib)
 rw[firstE_end (by omega)]at hE2
 clear hib hi
 conv=>whnf
 refine⟨Nat×World×Iv,fun z=>⟨[(1,.o (.p 0 0)),(10,.o (.v (.int .i64 ((z.1:Nat):Int))))],[(0,.box T.Frame [.v (.slice an f.nodes.length cn),.v (.slice ab f.bars.length cb),.v (.slice aq f.sups.length cq)])],1,z.2.2,z.2.1⟩,fun z=>f.sups.length-z.1,
  fun z=>z.1≤f.sups.length∧Bel w.heap.size w z.2.1∧firstE (supE f.nodes.length) [] f.sups=firstE (supE f.nodes.length) (f.sups.take z.1) (f.sups.drop z.1),?_,?_⟩
 ·intro ρ w' r3
  exact⟨(0,w',_),⟨Nat.zero_le _,hw.tr r3.bel,rfl⟩,Sub.gen [] r3 ⟨rfl,trivial⟩ ⟨rfl,rfl,trivial⟩ (by simp[ScH,Blk.scopd,At.sc]) (by simp[ScE,SV.sc,At.sc,initE]) (by rfl) (fun lo hi h=>h)⟩
 clear hw
 rintro⟨i,w1,iv⟩ ⟨hi,hw,hE3⟩
 dsimp only at hi hw hE3 ⊢
 conv=>whnf
 refine BrS.mk (fun hib=>?_) (fun hib=>?_)
 ·have hib:i<f.sups.length:=by simpa using hib
  obtain⟨b,hx⟩:∃b,f.sups[i]? =some b:=⟨_,List.getElem?_eq_getElem hib⟩
  have hLl:(f.sups.take i).length=i:=by rw[List.length_take];omega
  obtain⟨adb,cs,hab,hF,-,hlb⟩:=hf.sups.load (by decide) hx
  obtain⟨g0,g1,g2,g3,g4,g5,g6,g7,rfl,hF⟩:=hF
  conv=>whnf
  refine⟨adb,hab,⟨by omega,by omega⟩,?_⟩
  conv=>whnf
  refine⟨[.int .i64 b.1,.int .i64 b.2.1,.bool g0,.slice g1 g2 g3,.bool g4,.slice g5 g6 g7],rfl,fun ρ w' r j u hu=>?_,?_⟩
  ·obtain⟨k1,k2⟩:=hlb j u hu
   rw[Int.toNat_natCast,cell_of_heap (w:=w) (w2:=w') (by rw[addB,addB];exact(hw.tr r.bel).block _ (hS _ k1))]
   exact k2
  conv=>whnf
  refine callE_S (callE_con (Φ:=fun _ w' v w2=>∃d,v= .bool d∧(d=true↔hasN f.nodes.length b.1)) (fun ρ w' r=>rIsNode_c _ _ _ _ _ _ _ _ _ _ w') ?_)
  rintro ρ wa1 v1 wb1 r he hb ⟨d0,rfl,hz0⟩
  replace hw:=hw.tr hb
  clear r he hb
  generalize (wa1.heap.size,wb1.heap.size)::iv=iv1 at*
  cases d0
  ·have hz0:¬hasN f.nodes.length b.1:=fun h=>by have:=hz0.2 h;cases this
   conv=>whnf
   intro ρe we re
   exact⟨_,rfl,hw.tr re.bel,by show Value.int .i64 _=_;rw[errF,if_neg (by omega),if_neg (by rw[hE];decide),if_neg (by rw[hE2];decide),hE3,firstE_ret hx (show supE f.nodes.length (f.sups.take i) b=6 by rw[supE,if_neg hz0]) (by decide)]⟩
  replace hz0:=hz0.1 rfl
  conv=>whnf
  refine callE_S (callE_con (Φ:=fun _ w' v w2=>∃d,v= .bool d∧(d=true↔0≤b.2.1∧b.2.1≤2)) (fun ρ w' r=>within_c _ _ _ w') ?_)
  rintro ρ wa2 v2 wb2 r he hb ⟨d1,rfl,hax⟩
  replace hw:=hw.tr hb
  clear r he hb
  generalize (wa2.heap.size,wb2.heap.size)::iv1=iv2 at*
  cases d1
  ·have hax:¬(0≤b.2.1∧b.2.1≤2):=fun h=>by have:=hax.2 h;cases this
   conv=>whnf
   intro ρe we re
   exact⟨_,rfl,hw.tr re.bel,by show Value.int .i64 _=_;rw[errF,if_neg (by omega),if_neg (by rw[hE];decide),if_neg (by rw[hE2];decide),hE3,firstE_ret hx (show supE f.nodes.length (f.sups.take i) b=2 by rw[supE,if_pos hz0,if_neg hax]) (by decide)]⟩
  replace hax:=hax.1 rfl
  conv=>whnf
  refine⟨Nat×World,fun z=>⟨[(1,.o (.p 0 0)),(10,.o (.v (.int .i64 ((i:Nat):Int)))),(11,.o (.p 1 0)),(12,.o (.v (.int .i64 ((z.1:Nat):Int))))],[(1,.box T.Support [.v (.int .i64 b.1),.v (.int .i64 b.2.1),.v (.bool g0),.v (.slice g1 g2 g3),.v (.bool g4),.v (.slice g5 g6 g7)]),(0,.box T.Frame [.v (.slice an f.nodes.length cn),.v (.slice ab f.bars.length cb),.v (.slice aq f.sups.length cq)])],2,iv2,z.2⟩,fun z=>i-z.1,
   fun z=>z.1≤i∧Bel w.heap.size w z.2∧(supK b∈(f.sups.take i).map supK↔supK b∈((f.sups.take i).drop z.1).map supK),?_,?_⟩
  ·intro ρ w' r3
   exact⟨(0,w'),⟨Nat.zero_le _,hw.tr r3.bel,Iff.rfl⟩,Sub.gen [] r3 ⟨rfl,rfl,trivial⟩ ⟨rfl,rfl,rfl,rfl,trivial⟩ (by simp[ScH,Blk.scopd,At.sc]) (by simp[ScE,SV.sc,At.sc,initE]) (by rfl) (fun lo hi h=>h)⟩
  clear hw
  rintro⟨k,w2⟩ ⟨hk,hw,hK⟩
  dsimp only at hk hw hK ⊢
  conv=>whnf
  refine BrS.mk (fun hkb=>?_) (fun hkb=>?_)
  ·have hkb:k<i:=by have:=of_decide_eq_true hkb;omega
   obtain⟨c,hc⟩:∃c,f.sups[k]? =some c:=⟨_,List.getElem?_eq_getElem (by omega)⟩
   have hcL:(f.sups.take i)[k]? =some c:=by rw[List.getElem?_take_of_lt hkb];exact hc
   obtain⟨adc,cs2,hac,hF2,-,hlc⟩:=hf.sups.load (by decide) hc
   obtain⟨q0,q1,q2,q3,q4,q5,q6,q7,rfl,-⟩:=hF2
   conv=>whnf
   refine drawn_of_pi hτ hmix [.x 0,.x 1,.x 2,.x 3,.x 4,.x 5,.x 6,.x 7,.x 8,.x 9,.x 10,.x 11,.x 12,.x 13,.x 14,.x 15,.x 16,.x 17,.x 18,.x 19] (by kernel_rfl) (by kernel_rfl) ?_
   conv=>whnf
   refine⟨adc,hac,⟨by omega,by omega⟩,?_⟩
   conv=>whnf
   refine⟨.int .i64 c.1,fun ρ w' r=>?_,?_⟩
   ·obtain⟨k1,k2⟩:=hlc 0 _ rfl
    rw[cell_of_heap (w:=w) (w2:=w') (by simp only[addB];exact(hw.tr r.bel).block _ (hS _ k1))]
    simp only[Int.toNat_natCast,addA]at k2 ⊢
    exact k2
   conv=>whnf
   refine BrS.mk (fun e1=>?_) (fun e1=>?_)
   ·have e1:(c.1=b.1):=by simpa using e1
    conv=>whnf
    refine⟨adc,hac,⟨by omega,by omega⟩,?_⟩
    conv=>whnf
    refine⟨.int .i64 c.2.1,fun ρ w' r=>?_,?_⟩
    ·obtain⟨k1,k2⟩:=hlc 1 _ rfl
     rw[cell_of_heap (w:=w) (w2:=w') (by simp only[addB];exact(hw.tr r.bel).block _ (hS _ k1))]
     simp only[Int.toNat_natCast,addA]at k2 ⊢
     exact k2
    conv=>whnf
    refine BrS.mk (fun e2=>?_) (fun e2=>?_)
    ·have e2:(c.2.1=b.2.1):=by simpa using e2
     have hin:=key_hit (K:=supK) hcL (show supK c=supK b by rw[supK_eq];omega)
     conv=>whnf
     intro ρe we re
     exact⟨_,rfl,hw.tr re.bel,by show Value.int .i64 _=_;rw[errF,if_neg (by omega),if_neg (by rw[hE];decide),if_neg (by rw[hE2];decide),hE3,firstE_ret hx (show supE f.nodes.length (f.sups.take i) b=5 by rw[supE,if_pos hz0,if_pos hax,if_pos hin]) (by decide)]⟩
    ·have e2:¬(c.2.1=b.2.1):=by simpa using e2
     have hK2:=key_step (K:=supK) hcL (show supK c≠supK b by rw[Ne,supK_eq];omega) hK
     conv=>whnf
     refine⟨((k+1:Nat):Int),by rw[wrap64]<;>omega,?_⟩
     conv=>whnf
     intro ρ3 w6 r3
     exact⟨(k+1,w6),⟨hkb,hw.tr r3.bel,hK2⟩,Sub.gen [] r3 ⟨rfl,rfl,trivial⟩ ⟨rfl,rfl,rfl,rfl,trivial⟩ (by simp[ScH,Blk.scopd,At.sc]) (by simp[ScE,SV.sc,At.sc,initE]) (by rfl) (fun lo hi h=>h),by dsimp only;omega⟩
   ·have e1:¬(c.1=b.1):=by simpa using e1
    have hK2:=key_step (K:=supK) hcL (show supK c≠supK b by rw[Ne,supK_eq];omega) hK
    conv=>whnf
    refine⟨((k+1:Nat):Int),by rw[wrap64]<;>omega,?_⟩
    conv=>whnf
    intro ρ3 w6 r3
    exact⟨(k+1,w6),⟨hkb,hw.tr r3.bel,hK2⟩,Sub.gen [] r3 ⟨rfl,rfl,trivial⟩ ⟨rfl,rfl,rfl,rfl,trivial⟩ (by simp[ScH,Blk.scopd,At.sc]) (by simp[ScE,SV.sc,At.sc,initE]) (by rfl) (fun lo hi h=>h),by dsimp only;omega⟩
  have hkb:k=i:=by have:=of_decide_eq_false hkb;omega
  have hdup:=key_end (by rw[hLl];omega) hK
  conv=>whnf
  refine callE_S (callE_con (Φ:=fun _ w' v w2=>v= .int .i64 (rs b.2.2)) (fun ρ w' r=>(rSignOfF_c (fun g hg=>by have:=hS g hg;have:=r.baseLe;omega) (hF.keep fun g hg=>(hw.tr r.bel).block g (hS g hg)))) ?_)
  rintro ρ wa3 v3 wb3 r he hb rfl
  replace hw:=hw.tr hb
  clear r he hb
  generalize (wa3.heap.size,wb3.heap.size)::iv2=iv3 at*
  obtain⟨cf,hcf⟩:∃c,rs b.2.2=c:=⟨_,rfl⟩
  rw[hcf]
  conv=>whnf
  refine BrS.mk (fun hd2=>?_) (fun hd2=>?_)
  ·have hd2:b.2.2<0:=by have:=of_decide_eq_true hd2;rw[←rs_neg_iff];omega
   conv=>whnf
   intro ρe we re
   exact⟨_,rfl,hw.tr re.bel,by show Value.int .i64 _=_;rw[errF,if_neg (by omega),if_neg (by rw[hE];decide),if_neg (by rw[hE2];decide),hE3,firstE_ret hx (show supE f.nodes.length (f.sups.take i) b=2 by rw[supE,if_pos hz0,if_pos hax,if_neg hdup,if_pos hd2]) (by decide)]⟩
  have hd2:0≤b.2.2:=by have:=of_decide_eq_false hd2;rw[←Rat.not_lt,←rs_neg_iff];omega
  rw[firstE_step hx (supE_zero.2 ⟨hz0,hax,hdup,hd2⟩)]at hE3
  conv=>whnf
  refine⟨((i+1:Nat):Int),by rw[wrap64]<;>omega,?_⟩
  conv=>whnf
  intro ρ3 w6 r3
  exact⟨(i+1,w6,_),⟨hib,hw.tr r3.bel,hE3⟩,Sub.gen [] r3 ⟨rfl,trivial⟩ ⟨rfl,rfl,trivial⟩ (by simp[ScH,Blk.scopd,At.sc]) (by simp[ScE,SV.sc,At.sc,initE]) (by rfl) (fun lo hi h=>h),by dsimp only;omega⟩
 have hib:i=f.sups.length:=Nat.le_antisymm hi (by simpa using hib)
 rw[firstE_end (by omega)]at hE3
 conv=>whnf
 intro ρe we re
 exact⟨_,rfl,hw.tr re.bel,by show Value.int .i64 _=_;rw[errF,if_neg (by omega),if_neg (by rw[hE];decide),if_neg (by rw[hE2];decide),hE3]⟩
end Go.Ex
