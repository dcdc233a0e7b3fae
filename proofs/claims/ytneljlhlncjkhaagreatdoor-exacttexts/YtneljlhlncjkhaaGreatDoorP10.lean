/- A part of the proof: texts X49 to X58. Each tells its conditions in its theorems. -/
import Derived.Shelf.Strings.Builder1
import Derived.Shelf.Strings.Builder2
import Derived.Shelf.Strings.OnBuilder
import Derived.Shelf.Small.Strs
import Derived.Shelf.Small.Wraps
import Derived.Shelf.Strings.Search1
import Derived.Shelf.Strings.Search2
import Derived.Shelf.Strings.Prefix
import Derived.Test.YtneljlhlncjkhaaGreatDoorP5
import Derived.Test.YtneljlhlncjkhaaGreatDoorP6
import Derived.Test.YtneljlhlncjkhaaGreatDoorP9
/- Sameness of integers, fractions and lists (the reference's). No condition. -/
namespace Go.Ex
open Go Go.Sx Go.Proofs

theorem sameV_c{S:Nat→Prop}{w:World}{v u:Value}{n1 n2:Bool}{ls ms:List Nat}(hS:Old S w)(hx:IntV w S v n1 ls)(hy:IntV w S u n2 ms):
  Con PG N.ref01_SameInt #[v,u] w (Ret w fun v' _=>v'= .bool (decide (n1=n2∧ls=ms))):=by
 obtain⟨lv,rfl,h1⟩:=hx
 obtain⟨mv,rfl,h2⟩:=hy
 obtain⟨a,c,rfl,_,ha⟩:=h1.sl
 obtain⟨b,e,rfl,_,hb⟩:=h2.sl
 have hle1:=h1.le
 have hle2:=h2.le
 have hw:Bel w.heap.size w w:=Bel.refl
 refine in_ref01_SameInt (by simp) ?_
 conv=>whnf
 refine BrS.mk (fun hn=>?_) (fun hn=>?_)
 ·have hn:n1≠n2:=fun h=>by rw[h]at hn;simp at hn
  conv=>whnf
  intro ρ w2 r
  exact⟨_,rfl,r.bel,by rw[decide_eq_false (fun h=>hn h.1)];rfl⟩
 have hn:n1=n2:=by simpa using hn
 subst hn
 conv=>whnf
 refine BrS.mk (fun h=>?_) (fun h=>?_)
 ·have h:ls.length≠ms.length:=fun he=>by rw[he]at h;simp at h
  conv=>whnf
  intro ρ w2 r
  exact⟨_,rfl,r.bel,by rw[decide_eq_false (fun e=>h (by rw[e.2]))];rfl⟩
 have h:ls.length=ms.length:=by
  have:(ls.length:Int)=ms.length:=by simpa using h
  omega
 conv=>whnf
 refine⟨Nat×World,fun z=>⟨[(2,.o (.p 0 0)),(3,.o (.p 1 0)),(5,.o (.v (.int .i64 z.1)))],[(1,.box T.Int [.v (.bool n1),.v (.slice b ms.length e)]),(0,.box T.Int [.v (.bool n1),.v (.slice a ls.length c)])],2,[],z.2⟩,fun z=>ls.length-z.1,
  fun z=>z.1≤ls.length∧Bel w.heap.size w z.2∧ls.take z.1=ms.take z.1,?_,?_⟩
 ·intro ρ w' r
  exact⟨(0,w'),⟨by simp,r.bel,by simp⟩,Sub.gen [] r ⟨rfl,rfl,trivial⟩ ⟨rfl,rfl,rfl,trivial⟩ (by simp[ScH,Blk.scopd,At.sc]) (by simp[ScE,SV.sc,At.sc]) (by rfl) (fun lo hi h=>h)⟩
 rintro⟨i,w1⟩ ⟨hi,hw,ht⟩
 dsimp only at hi hw ht ⊢
 conv=>whnf
 refine BrS.mk (fun hib=>?_) (fun hib=>?_)
 ·have hib:i<ls.length:=by simpa using hib
  obtain⟨x,hx⟩:∃x,ls[i]? =some x:=⟨_,List.getElem?_eq_getElem hib⟩
  obtain⟨y,hy⟩:∃x,ms[i]? =some x:=⟨_,List.getElem?_eq_getElem (by omega)⟩
  obtain⟨ad,rfl,q1,q2⟩:=ha i x hx
  obtain⟨ad2,rfl,q3,q4⟩:=hb i y hy
  have hlx:∀{H nx iv ρ w'},Rel H nx iv w.heap.size w1 ρ w'→w'.cell? (ad.add ((i:Int).toNat*1))=some (.int .u32 x):=fun r=>by
   rw[Int.toNat_natCast,Nat.mul_one];exact cellS hS hw r q1 q2
  have hly:∀{H nx iv ρ w'},Rel H nx iv w.heap.size w1 ρ w'→w'.cell? (ad2.add ((i:Int).toNat*1))=some (.int .u32 y):=fun r=>by
   rw[Int.toNat_natCast,Nat.mul_one];exact cellS hS hw r q3 q4
  conv=>whnf
  refine drawn_of_pi hτ hmix [.x 0,.x 1,.x 2,.x 3,.x 4,.x 5,.x 6,.x 7,.x 8,.x 9,.x 10] (by kernel_rfl) (by kernel_rfl) ?_
  conv=>whnf
  refine⟨ad,rfl,⟨by omega,by omega⟩,?_⟩
  conv=>whnf
  refine⟨.int .u32 x,fun ρ w' r=>hlx r,?_⟩
  conv=>whnf
  refine⟨ad2,rfl,⟨by omega,by omega⟩,?_⟩
  conv=>whnf
  refine⟨.int .u32 y,fun ρ w' r=>hly r,?_⟩
  conv=>whnf
  refine BrS.mk (fun hne=>?_) (fun hne=>?_)
  ·have hne:x≠y:=fun h=>by rw[h]at hne;simp at hne
   conv=>whnf
   intro ρ w2 r
   refine⟨_,rfl,hw.tr r.bel,?_⟩
   rw[decide_eq_false (fun e=>hne (by
    have:=e.2
    rw[this,hy]at hx
    injection hx with hx
    exact hx.symm))]
   rfl
  have hne:x=y:=by
   have:(x:Int)=y:=by simpa using hne
   omega
  subst hne
  have ht2:ls.take (i+1)=ms.take (i+1):=by rw[List.take_add_one,List.take_add_one,ht,hx,hy]
  conv=>whnf
  refine⟨((i+1:Nat):Int),by rw[wrap64]<;>omega,?_⟩
  conv=>whnf
  intro ρ3 w3 r3
  exact⟨(i+1,w3),⟨hib,hw.tr r3.bel,ht2⟩,Sub.gen [] r3 ⟨rfl,rfl,trivial⟩ ⟨rfl,rfl,rfl,trivial⟩ (by simp[ScH,Blk.scopd,At.sc]) (by simp[ScE,SV.sc,At.sc]) (by rfl) (fun lo hi h=>h),by dsimp only;omega⟩
 have hib:i=ls.length:=by
  have:¬i<ls.length:=by simpa using hib
  omega
 subst hib
 rw[List.take_length,h,List.take_length]at ht
 conv=>whnf
 intro ρ w2 r
 exact⟨_,rfl,hw.tr r.bel,by rw[decide_eq_true ⟨rfl,ht⟩];rfl⟩
theorem limbs_inj{a b:List Nat}(la:Lm a)(lb:Lm b)(na:Nz a)(nb:Nz b)(h:val a=val b):a=b:=by
 have:a.length=b.length:=by
  rcases Nat.lt_trichotomy a.length b.length with h1|h1|h1
  ·have:=val_lt_of_length la nb h1;omega
  ·exact h1
  ·have:=val_lt_of_length lb na h1;omega
 exact val_inj la lb this h
theorem sameInt_c{S:Nat→Prop}{w:World}{v u:Value}{x y:Int}(hS:Old S w)(hx:IntC w S v x)(hy:IntC w S u y):
  Con PG N.ref01_SameInt #[v,u] w (Ret w fun v' _=>v'= .bool (decide (x=y))):=by
 obtain⟨ls,h1,h2,h3⟩:=hx
 obtain⟨ms,k1,k2,k3⟩:=hy
 have e:decide (decide (x<0)=decide (y<0)∧ls=ms)=decide (x=y):=by
  refine decide_eq_decide.2 ⟨fun ⟨e1,e2⟩=>?_,fun e1=>?_⟩
  ·have e1:=decide_eq_decide.1 e1
   rw[e2]at h3
   omega
  ·subst e1
   obtain⟨_,_,l1⟩:=h1
   obtain⟨_,_,l2⟩:=k1
   exact⟨rfl,limbs_inj l1.lm l2.lm h2 k2 (by omega)⟩
 exact(sameV_c hS h1 k1).mono fun _ w2 ⟨v2,e1,e2,e3⟩=>⟨v2,e1,e2,by rw[e3,e]⟩
theorem same_c{S:Nat→Prop}{w:World}{v u:Value}{p q:Rat}(hS:Old S w)(hx:RatC w S v p)(hy:RatC w S u q):
  Con PG N.ref01_Same #[v,u] w (Ret w fun v' _=>v'= .bool (decide (p=q))):=by
 obtain⟨b1,a1,n1,c1,b2,a2,n2,c2,rfl⟩:=hx.shape
 obtain⟨b3,a3,n3,c3,b4,a4,n4,c4,rfl⟩:=hy.shape
 refine in_ref01_Same (by simp) ?_
 conv=>whnf
 refine callE_S (callE_con (Φ:=fun _ w' v w2=>v= .bool (decide (p.num=q.num))) (fun ρ w' r=>sameInt_c (fun g hg=>by have:=hS g hg;have:=r.baseLe;omega) (hx.num.keep fun g hg=>r.bel.block g (hS g hg)) (hy.num.keep fun g hg=>r.bel.block g (hS g hg))) ?_)
 rintro ρ wa v1 wb r he hb rfl
 have hw:=hb
 clear r he hb
 generalize (wa.heap.size,wb.heap.size)::[]=iv at*
 conv=>whnf
 refine BrS.mk (fun h=>?_) (fun h=>?_)
 ·have h:=of_decide_eq_true h
  conv=>whnf
  refine callE_S (callE_con (Φ:=fun _ w' v w2=>v= .bool (decide ((p.den:Int)=q.den))) (fun ρ w' r=>sameInt_c (fun g hg=>by have:=hS g hg;have:=r.baseLe;omega) (hx.den.keep fun g hg=>(hw.tr r.bel).block g (hS g hg)) (hy.den.keep fun g hg=>(hw.tr r.bel).block g (hS g hg))) ?_)
  rintro ρ wa v1 wb2 r he hb rfl
  replace hw:=hw.tr hb
  clear r he hb
  generalize (wa.heap.size,wb2.heap.size)::iv=iv2 at*
  conv=>whnf
  intro ρe we re
  refine⟨_,rfl,hw.tr re.bel,?_⟩
  have:decide (p=q)=decide ((p.den:Int)=q.den):=decide_eq_decide.2 ⟨fun e=>by rw[e],fun e=>Rat.ext h (by omega)⟩
  rw[this]
  rfl
 ·have h:=of_decide_eq_false h
  conv=>whnf
  intro ρe we re
  refine⟨_,rfl,hw.tr re.bel,?_⟩
  rw[decide_eq_false (fun e=>h (by rw[e]))]
  rfl
theorem sameList_c{S:Nat→Prop}{w:World}{v u:Value}{xs ys:List Rat}(hS:Old S w)(hx:RatsC w S v xs)(hy:RatsC w S u ys):
  Con PG N.ref01_SameList #[v,u] w (Ret w fun v' _=>v'= .bool (decide (xs=ys))):=by
 obtain⟨a,c,rfl,hc,hm⟩:=ListR.shape hx
 obtain⟨b,e,rfl,hc2,hm2⟩:=ListR.shape hy
 unfold maxLen at hm hm2
 refine in_ref01_SameList (by simp) ?_
 conv=>whnf
 refine BrS.mk (fun h=>?_) (fun h=>?_)
 ·have h:xs.length≠ys.length:=fun he=>by rw[he]at h;simp at h
  conv=>whnf
  intro ρ w2 r
  exact⟨_,rfl,r.bel,by rw[decide_eq_false (fun e=>h (by rw[e]))];rfl⟩
 have h:xs.length=ys.length:=by
  have:(xs.length:Int)=ys.length:=by simpa using h
  omega
 conv=>whnf
 refine⟨Nat×World,fun z=>⟨[(0,.o (.v (.slice a xs.length c))),(1,.o (.v (.slice b ys.length e))),(5,.o (.v (.int .i64 z.1)))],[],0,[],z.2⟩,fun z=>xs.length-z.1,
  fun z=>z.1≤xs.length∧Bel w.heap.size w z.2∧xs.take z.1=ys.take z.1,?_,?_⟩
 ·intro ρ w' r
  exact⟨(0,w'),⟨by simp,r.bel,by simp⟩,Sub.gen [] r trivial ⟨rfl,rfl,rfl,trivial⟩ (by simp[ScH]) (by simp[ScE,SV.sc,At.sc]) (by rfl) (by simp)⟩
 rintro⟨i,w1⟩ ⟨hi,hw,ht⟩
 dsimp only at hi hw ht ⊢
 conv=>whnf
 refine BrS.mk (fun hib=>?_) (fun hib=>?_)
 ·have hib:i<xs.length:=by simpa using hib
  obtain⟨x,hxi⟩:∃x,xs[i]? =some x:=⟨_,List.getElem?_eq_getElem hib⟩
  obtain⟨y,hyi⟩:∃x,ys[i]? =some x:=⟨_,List.getElem?_eq_getElem (by omega)⟩
  obtain⟨ad2,cs2,rfl,hR2,-,hl2⟩:=ListR.load hy hyi
  obtain⟨p2,q2,r2,s2,t2,u2,v2,w2,rfl,hR2⟩:=hR2
  obtain⟨ad,cs,rfl,hR,-,hl⟩:=ListR.load hx hxi
  obtain⟨p1,q1,r1,s1,t1,u1,v1,w1,rfl,hR⟩:=hR
  conv=>whnf
  refine drawn_of_pi hτ hmix [.x 0,.x 1,.x 2,.x 3,.x 4,.x 5,.x 6,.x 7,.x 8,.x 9] (by kernel_rfl) (by kernel_rfl) ?_
  conv=>whnf
  refine⟨ad,rfl,⟨by omega,by omega⟩,?_⟩
  conv=>whnf
  refine⟨[.bool p1,.slice q1 r1 s1,.bool t1,.slice u1 v1 w1],rfl,fun ρ w' r j u hu=>?_,?_⟩
  ·obtain⟨k1,k2⟩:=hl j u hu
   rw[Int.toNat_natCast,cell_of_heap (w:=w) (w2:=w') (by rw[addB,addB];exact(hw.tr r.bel).block _ (hS _ k1))]
   exact k2
  conv=>whnf
  refine⟨ad2,rfl,⟨by omega,by omega⟩,?_⟩
  conv=>whnf
  refine⟨[.bool p2,.slice q2 r2 s2,.bool t2,.slice u2 v2 w2],rfl,fun ρ w' r j u hu=>?_,?_⟩
  ·obtain⟨k1,k2⟩:=hl2 j u hu
   rw[Int.toNat_natCast,cell_of_heap (w:=w) (w2:=w') (by rw[addB,addB];exact(hw.tr r.bel).block _ (hS _ k1))]
   exact k2
  conv=>whnf
  refine callE_con (Φ:=fun _ w' v w2=>v= .bool (decide (x=y))) (fun ρ w' r=>same_c (fun g hg=>by have:=hS g hg;have:=r.baseLe;omega) (hR.keep fun g hg=>(hw.tr r.bel).block g (hS g hg)) (hR2.keep fun g hg=>(hw.tr r.bel).block g (hS g hg))) ?_
  rintro ρ wa v1 wb r he hb rfl
  replace hw:=hw.tr hb
  clear r he hb
  generalize (wa.heap.size,wb.heap.size)::[]=iv2 at*
  conv=>whnf
  refine BrS.mk (fun hne=>?_) (fun hne=>?_)
  ·have hne:x≠y:=fun h=>by rw[h]at hne;simp at hne
   conv=>whnf
   intro ρ w2 r
   refine⟨_,rfl,hw.tr r.bel,?_⟩
   rw[decide_eq_false (fun e=>hne (by
    rw[e,hyi]at hxi
    injection hxi with hxi
    exact hxi.symm))]
   rfl
  have hne:x=y:=by simpa using hne
  subst hne
  have ht2:xs.take (i+1)=ys.take (i+1):=by rw[List.take_add_one,List.take_add_one,ht,hxi,hyi]
  conv=>whnf
  refine⟨((i+1:Nat):Int),by rw[wrap64]<;>omega,?_⟩
  conv=>whnf
  intro ρ3 w3 r3
  exact⟨(i+1,w3),⟨hib,hw.tr r3.bel,ht2⟩,Sub.gen [] r3 trivial ⟨rfl,rfl,rfl,trivial⟩ (by simp[ScH]) (by simp[ScE,SV.sc,At.sc]) (by rfl) (by simp),by dsimp only;omega⟩
 have hib:i=xs.length:=by
  have:¬i<xs.length:=by simpa using hib
  omega
 subst hib
 rw[List.take_length,h,List.take_length]at ht
 conv=>whnf
 intro ρ w2 r
 exact⟨_,rfl,hw.tr r.bel,by rw[decide_eq_true ht];rfl⟩
theorem sameLists_c{S:Nat→Prop}{w:World}{v u:Value}{xs ys:List (List Rat)}(hS:Old S w)(hx:RatMC w S v xs)(hy:RatMC w S u ys):
  Con PG N.ref01_SameLists #[v,u] w (Ret w fun v' _=>v'= .bool (decide (xs=ys))):=by
 obtain⟨a,c,rfl,hc,hm⟩:=SlicesR.shape hx
 obtain⟨b,e,rfl,hc2,hm2⟩:=SlicesR.shape hy
 unfold maxLen at hm hm2
 refine in_ref01_SameLists (by simp) ?_
 conv=>whnf
 refine BrS.mk (fun h=>?_) (fun h=>?_)
 ·have h:xs.length≠ys.length:=fun he=>by rw[he]at h;simp at h
  conv=>whnf
  intro ρ w2 r
  exact⟨_,rfl,r.bel,by rw[decide_eq_false (fun e=>h (by rw[e]))];rfl⟩
 have h:xs.length=ys.length:=by
  have:(xs.length:Int)=ys.length:=by simpa using h
  omega
 conv=>whnf
 refine⟨Nat×World,fun z=>⟨[(0,.o (.v (.slice a xs.length c))),(1,.o (.v (.slice b ys.length e))),(5,.o (.v (.int .i64 z.1)))],[],0,[],z.2⟩,fun z=>xs.length-z.1,
  fun z=>z.1≤xs.length∧Bel w.heap.size w z.2∧xs.take z.1=ys.take z.1,?_,?_⟩
 ·intro ρ w' r
  exact⟨(0,w'),⟨by simp,r.bel,by simp⟩,Sub.gen [] r trivial ⟨rfl,rfl,rfl,trivial⟩ (by simp[ScH]) (by simp[ScE,SV.sc,At.sc]) (by rfl) (by simp)⟩
 rintro⟨i,w1⟩ ⟨hi,hw,ht⟩
 dsimp only at hi hw ht ⊢
 conv=>whnf
 refine BrS.mk (fun hib=>?_) (fun hib=>?_)
 ·have hib:i<xs.length:=by simpa using hib
  obtain⟨x,hxi⟩:∃x,xs[i]? =some x:=⟨_,List.getElem?_eq_getElem hib⟩
  obtain⟨y,hyi⟩:∃x,ys[i]? =some x:=⟨_,List.getElem?_eq_getElem (by omega)⟩
  obtain⟨ad,u1,rfl,hR,k1,l1⟩:=SlicesR.load hx hxi
  obtain⟨ad2,u2,rfl,hR2,k2,l2⟩:=SlicesR.load hy hyi
  obtain⟨p1,q1,rfl,-⟩:=ListR.shape hR
  obtain⟨p2,q2,rfl,-⟩:=ListR.shape hR2
  conv=>whnf
  refine drawn_of_pi hτ hmix [.x 0,.x 1,.x 2,.x 3,.x 4,.x 5,.x 6,.x 7,.x 8,.x 9] (by kernel_rfl) (by kernel_rfl) ?_
  conv=>whnf
  refine⟨ad,rfl,⟨by omega,by omega⟩,?_⟩
  conv=>whnf
  refine⟨.slice p1 x.length q1,fun ρ w' r=>?_,?_⟩
  ·rw[Int.toNat_natCast,cell_of_heap (w:=w) (w2:=w') (by rw[addB];exact(hw.tr r.bel).block _ (hS _ k1))]
   exact l1
  conv=>whnf
  refine⟨ad2,rfl,⟨by omega,by omega⟩,?_⟩
  conv=>whnf
  refine⟨.slice p2 y.length q2,fun ρ w' r=>?_,?_⟩
  ·rw[Int.toNat_natCast,cell_of_heap (w:=w) (w2:=w') (by rw[addB];exact(hw.tr r.bel).block _ (hS _ k2))]
   exact l2
  conv=>whnf
  refine callE_con (Φ:=fun _ w' v w2=>v= .bool (decide (x=y))) (fun ρ w' r=>sameList_c (fun g hg=>by have:=hS g hg;have:=r.baseLe;omega) (RatsC.keep hR fun g hg=>(hw.tr r.bel).block g (hS g hg)) (RatsC.keep hR2 fun g hg=>(hw.tr r.bel).block g (hS g hg))) ?_
  rintro ρ wa v1 wb r he hb rfl
  replace hw:=hw.tr hb
  clear r he hb
  generalize (wa.heap.size,wb.heap.size)::[]=iv2 at*
  conv=>whnf
  refine BrS.mk (fun hne=>?_) (fun hne=>?_)
  ·have hne:x≠y:=fun h=>by rw[h]at hne;simp at hne
   conv=>whnf
   intro ρ w2 r
   refine⟨_,rfl,hw.tr r.bel,?_⟩
   rw[decide_eq_false (fun e=>hne (by
    rw[e,hyi]at hxi
    injection hxi with hxi
    exact hxi.symm))]
   rfl
  have hne:x=y:=by simpa using hne
  subst hne
  have ht2:xs.take (i+1)=ys.take (i+1):=by rw[List.take_add_one,List.take_add_one,ht,hxi,hyi]
  conv=>whnf
  refine⟨((i+1:Nat):Int),by rw[wrap64]<;>omega,?_⟩
  conv=>whnf
  intro ρ3 w3 r3
  exact⟨(i+1,w3),⟨hib,hw.tr r3.bel,ht2⟩,Sub.gen [] r3 trivial ⟨rfl,rfl,rfl,trivial⟩ (by simp[ScH]) (by simp[ScE,SV.sc,At.sc]) (by rfl) (by simp),by dsimp only;omega⟩
 have hib:i=xs.length:=by
  have:¬i<xs.length:=by simpa using hib
  omega
 subst hib
 rw[List.take_length,h,List.take_length]at ht
 conv=>whnf
 intro ρ w2 r
 exact⟨_,rfl,hw.tr r.bel,by rw[decide_eq_true ht];rfl⟩
end Go.Ex

/- short of the laws of chapter 1: lists of integers with few limbs. No condition. -/
namespace Go.Ex
open Go Go.Sx Go.Proofs

abbrev Head:=Bool×Option Addr×Nat×Nat
end Go.Ex

/- The examples that each law of chapter 1 begins with. Printed by program. No condition. -/
namespace Go.Ex
open Go Go.Sx Go.Proofs

def awM:List (List (Int×Int)):=[[(1,1),(2,1)],[(2,1),(4,1)]]
def awB:List (Int×Int):=[(3,1),(6,1)]
theorem aw_err:errS awM awB=0:=by decide +kernel
theorem aw_red:reduceF (allF (valsM awM) (awB.map ratioP)) (colsM awM)=([[1,2,3,1,0],[0,0,0,-2,1]],[0]):=by decide +kernel
theorem aw_few:(∀r∈awM,Few r)∧Few awB:=by unfold Few;decide +kernel
theorem aw_ht:Ht (allF (valsM awM) (awB.map ratioP)) 2:=by unfold Ht;decide +kernel
theorem aw_x:xvecTo [[1,2,3,1,0],[0,0,0,-2,1]] [0] 2 1=[3,0]:=by decide +kernel
theorem aw_k:kernelTo [[1,2,3,1,0],[0,0,0,-2,1]] [0] 2 2=[[-2,1]]:=by decide +kernel
theorem aw_root{r:Nat}(h:IsRoot (2*100*100:Int).natAbs r):r=141:=by
 have h1:=h.1
 have h2:=h.2
 have e:(2*100*100:Int).natAbs=20000:=by decide
 rw[e]at h1 h2
 rcases Nat.lt_trichotomy r 141 with h3|h3|h3
 ·have:=Nat.mul_le_mul (show r+1≤141 by omega) (show r+1≤141 by omega)
  omega
 ·exact h3
 ·have:=Nat.mul_le_mul (show 142≤r by omega) (show 142≤r by omega)
  omega
theorem aw_txt:txt (ratio (Rat.divInt 141 100).num (Rat.divInt 141 100).den)=⟨#[49,52,49,47,49,48,48]⟩:=by decide +kernel
theorem ln_c{z:Int}(h:z.natAbs<4294967296):ln z.natAbs≤10000000000:=Nat.le_trans (ln_le.2 (show z.natAbs<4294967296^1 by omega)) (by decide)
theorem aw_divide{S:Nat→Prop}{w:World}{v u:Value}(hS:Old S w)(hx:IntR w S v (-7))(hy:IntR w S u 2):
  Con PG N.exact_Divide #[v,u] w (Ret w fun v' w2=>∃q r,v'= .tuple #[q,r,.int .i64 0]∧IntC w2 (Nw (fun _=>False) w w2) q (-4)∧IntC w2 (Nw (fun _=>False) w w2) r 1):=
 (pubDivide_c hS hx hy (ln_c (by decide)) (ln_c (by decide))).mono fun _ w2 ⟨v2,e1,e2,e3⟩=>⟨v2,e1,e2,e3.elim (fun h=>absurd h.1 (by decide)) fun h=>h.2⟩
theorem aw_below(w:World):
  Con PG N.exact_RootBelow #[.int .i64 2,.int .i64 100] w (Ret w fun v' w2=>∃q,v'= .tuple #[q,.int .i64 0]∧RatC w2 (Nw (fun _=>False) w w2) q (Rat.divInt 141 100)):=
 (pubRootBelow_c 2 100 w (by decide) (by decide) (by decide) (by decide)).mono fun _ w2 ⟨v2,e1,e2,e3⟩=>⟨v2,e1,e2,e3.elim (fun h=>absurd h.1 (by decide)) fun⟨_,r,q,h1,h2,h3⟩=>⟨q,h2,by
  rw[aw_root h1]at h3
  exact h3⟩⟩
theorem aw_solve{S:Nat→Prop}{w:World}{v u:Value}(hS:Old S w)(h:RatMR w S v awM)(hu:RatsR w S u awB):
  Con PG N.exact_Solve #[v,u] w (Ret w fun v' w2=>∃vx vk,v'= .tuple #[.agg #[.int .i64 0,vx,vk,.slice none 0 0],.int .i64 0]∧RatsC w2 (Nw (fun _=>False) w w2) vx [3,0]∧RatMC w2 (Nw (fun _=>False) w w2) vk [[-2,1]]):=
 (pubSolve_c (h0:=2) hS h hu fun _=>⟨aw_few.1,aw_few.2,aw_ht,by decide,by decide⟩).mono fun _ w2 ⟨v2,e1,e2,e3⟩=>⟨v2,e1,e2,by
  rcases e3 with h|⟨_,s,rfl,A,pv,hA,h⟩
  ·exact absurd aw_err h.1
  ·rw[aw_red]at hA
   injection hA with hA hp
   subst hA hp
   rcases h with⟨j,vp,h1,h2,h3,_⟩|⟨vx,vk,_,rfl,h2,h3⟩
   ·have:j=1:=by
     have:j<2:=h2
     have:1≤j:=h1
     omega
    subst this
    exact absurd (show at2 [[1,2,3,1,0],[0,0,0,-2,1]] 1 2=0 by decide +kernel) h3
   ·refine⟨vx,vk,rfl,?_,?_⟩
    ·have:=aw_x
     rw[←this]
     exact h2
    ·have:=aw_k
     rw[←this]
     exact h3⟩
theorem aw_format{S:Nat→Prop}{w:World}{v:Value}(hS:Old S w)(h:RatC w S v (Rat.divInt 141 100)):
  Con PG N.exact_Format #[v] w (Ret w fun v' _=>v'= .string ⟨#[49,52,49,47,49,48,48]⟩):=by
 have:=pubFormat_c hS h.r (ln_c (by decide +kernel)) (ln_c (by decide +kernel)) (by decide +kernel) (by decide +kernel)
 rw[aw_txt]at this
 exact this
end Go.Ex
namespace Go.Sx
open Go Go.Ex Go.Proofs
theorem Rel.box2{α:Type}{P:World→(Nat→Prop)→List Value→α→Prop}{S':Nat→Prop}{H:Hp}{nx:Nat}{iv:Iv}{B:Nat}{w w':World}{ρ:Nat→Sx.Val}(r:Rel H nx iv B w ρ w'){id t:Nat}{u0 u1 u2 u3 u4 u5 u6 u7:Value}{x y:α}
  (h:getH H id=some (.box t [.v u0,.v u1,.v u2,.v u3,.v u4,.v u5,.v u6,.v u7])) (h1:∀u∈[u0,u1,u2,u3,u4,u5,u6,u7],u.oneCell'=true) (p1:P w' S' [u0,u1,u2,u3] x) (p2:P w' S' [u4,u5,u6,u7] y) (hg:S' (ρ id).g):
  ListR P w' S' (.slice (some ⟨(ρ id).g,0,none⟩) 2 2) [x,y]:=
 ⟨[[u0,u1,u2,u3],[u4,u5,u6,u7]],(r.boxSeq (sz:=4) (n:=2) h rfl (by simp[maxLen]) (fun u hu=>by
  simp only[List.mem_cons,List.not_mem_nil,or_false]at hu
  rcases hu with rfl|rfl|rfl|rfl|rfl|rfl|rfl|rfl<;>exact h1 _ (by simp[At.den]))).weak (fun g hg'=>by rw[hg'];exact hg),rfl,by simp,fun j cs z k1 k2=>by
  match j with
  |0=>simp at k1 k2;subst k1 k2;exact p1
  |1=>simp at k1 k2;subst k1 k2;exact p2
  |j+2=>simp at k1⟩
end Go.Sx
namespace Go.Ex
open Go Go.Sx Go.Proofs
theorem RatC.four{S:Nat→Prop}{w:World}{b b2:Bool}{a a2:Option Addr}{n c n2 c2:Nat}{q:Rat}(h:RatC w S (.agg #[.bool b,.slice a n c,.bool b2,.slice a2 n2 c2]) q):Rat4 w S [.bool b,.slice a n c,.bool b2,.slice a2 n2 c2] (q.num,(q.den:Int)):=
 ⟨b,a,n,c,b2,a2,n2,c2,rfl,h.r⟩
theorem RatC.fourC{S:Nat→Prop}{w:World}{b b2:Bool}{a a2:Option Addr}{n c n2 c2:Nat}{q:Rat}(h:RatC w S (.agg #[.bool b,.slice a n c,.bool b2,.slice a2 n2 c2]) q):Rat4C w S [.bool b,.slice a n c,.bool b2,.slice a2 n2 c2] q:=
 ⟨b,a,n,c,b2,a2,n2,c2,rfl,h⟩
theorem Rel.lt{H:Hp}{nx:Nat}{iv:Iv}{B:Nat}{w w':World}{ρ:Nat→Sx.Val}(r:Rel H nx iv B w ρ w'){id t:Nat}{cs:List At}(h:getH H id=some (.box t cs)):(ρ id).g<w'.heap.size:=(r.low id _ h (r.nn id _ h (by intros;simp) (by simp))).2
theorem awake_c(w:World):Con PG N.law01_awake #[] w (Ret w fun v' _=>v'= .bool true):=by
 have hw:Bel w.heap.size w w:=Bel.refl
 refine in_law01_awake (by simp) ?_
 conv=>whnf
 refine callE_S (callE_con (Φ:=fun _ w' v w2=>IntC w2 (Nw (fun _=>False) w' w2) v (-7)) (fun ρ w' r=>pubOf_c _ w' (by decide) (by decide)) ?_)
 rintro ρ wa1 v1 wb1 r he hb hn
 replace hw:=hw.tr hb
 have hA:=hn.got (S:=fun _=>False) r.baseLe (iv:=(wa1.heap.size,wb1.heap.size)::[]) List.mem_cons_self
 clear r he hb hn
 generalize (wa1.heap.size,wb1.heap.size)::[]=iv1 at*
 obtain⟨s1_0,s1_1,s1_2,s1_3,rfl⟩:=hA.shape
 conv=>whnf
 refine callE_S (callE_con (Φ:=fun _ w' v w2=>IntC w2 (Nw (fun _=>False) w' w2) v 2) (fun ρ w' r=>pubOf_c _ w' (by decide) (by decide)) ?_)
 rintro ρ wa2 v2 wb2 r he hb hn
 replace hw:=hw.tr hb
 replace hA:=hA.past (iv':=(wa2.heap.size,wb2.heap.size)::iv1) r (oldF w) he fun x hx=>List.mem_cons_of_mem _ hx
 have hB:=hn.got (S:=fun _=>False) r.baseLe (iv:=(wa2.heap.size,wb2.heap.size)::iv1) List.mem_cons_self
 clear r he hb hn
 generalize (wa2.heap.size,wb2.heap.size)::iv1=iv2 at*
 obtain⟨s2_0,s2_1,s2_2,s2_3,rfl⟩:=hB.shape
 conv=>whnf
 refine callE_S (callE_con (Φ:=fun _ w' v w2=>∃q r,v= .tuple #[q,r,.int .i64 0]∧IntC w2 (Nw (fun _=>False) w' w2) q (-4)∧IntC w2 (Nw (fun _=>False) w' w2) r 1) (fun ρ w' r=>aw_divide (Rel.old r (oldF w)) (hA.rel r (oldF w)).r (hB.rel r (oldF w)).r) ?_)
 rintro ρ wa3 v3 wb3 r he hb ⟨q,rr,rfl,k1,k2⟩
 replace hw:=hw.tr hb
 clear hA
 clear hB
 have hq:=k1.got (S:=fun _=>False) r.baseLe (iv:=(wa3.heap.size,wb3.heap.size)::iv2) List.mem_cons_self
 have hr:=k2.got (S:=fun _=>False) r.baseLe (iv:=(wa3.heap.size,wb3.heap.size)::iv2) List.mem_cons_self
 clear r he hb
 generalize (wa3.heap.size,wb3.heap.size)::iv2=iv3 at*
 obtain⟨s3_0a,s3_0b,s3_0c,s3_0d,rfl⟩:=hq.shape
 obtain⟨s3_1a,s3_1b,s3_1c,s3_1d,rfl⟩:=hr.shape
 conv=>whnf
 refine callE_S (callE_con (Φ:=fun _ w' v w2=>∃q,v= .tuple #[q,.int .i64 0]∧RatC w2 (Nw (fun _=>False) w' w2) q (Rat.divInt 141 100)) (fun ρ w' r=>aw_below w') ?_)
 rintro ρ wa4 v4 wb4 r he hb ⟨f,rfl,k1⟩
 replace hw:=hw.tr hb
 replace hq:=hq.past (iv':=(wa4.heap.size,wb4.heap.size)::iv3) r (oldF w) he fun x hx=>List.mem_cons_of_mem _ hx
 replace hr:=hr.past (iv':=(wa4.heap.size,wb4.heap.size)::iv3) r (oldF w) he fun x hx=>List.mem_cons_of_mem _ hx
 have hf:=k1.got (S:=fun _=>False) r.baseLe (iv:=(wa4.heap.size,wb4.heap.size)::iv3) List.mem_cons_self
 clear r he hb
 generalize (wa4.heap.size,wb4.heap.size)::iv3=iv4 at*
 obtain⟨s4_0a,s4_0b,s4_0c,s4_0d,s4_0e,s4_0f,s4_0g,s4_0h,rfl⟩:=hf.shape
 conv=>whnf
 refine callE_S (callE_con (Φ:=fun _ w' v w2=>RatC w2 (Nw (fun _=>False) w' w2) v ((1:Int):Rat)) (fun ρ w' r=>rWhole_c 1 w' (by decide)) ?_)
 rintro ρ wa5 v5 wb5 r he hb hn
 replace hw:=hw.tr hb
 replace hq:=hq.past (iv':=(wa5.heap.size,wb5.heap.size)::iv4) r (oldF w) he fun x hx=>List.mem_cons_of_mem _ hx
 replace hr:=hr.past (iv':=(wa5.heap.size,wb5.heap.size)::iv4) r (oldF w) he fun x hx=>List.mem_cons_of_mem _ hx
 replace hf:=hf.past (iv':=(wa5.heap.size,wb5.heap.size)::iv4) r (oldF w) he fun x hx=>List.mem_cons_of_mem _ hx
 have hx0:=hn.got (S:=fun _=>False) r.baseLe (iv:=(wa5.heap.size,wb5.heap.size)::iv4) List.mem_cons_self
 clear r he hb hn
 generalize (wa5.heap.size,wb5.heap.size)::iv4=iv5 at*
 obtain⟨s5_0,s5_1,s5_2,s5_3,s5_4,s5_5,s5_6,s5_7,rfl⟩:=hx0.shape
 conv=>whnf
 refine callE_S (callE_con (Φ:=fun _ w' v w2=>RatC w2 (Nw (fun _=>False) w' w2) v ((2:Int):Rat)) (fun ρ w' r=>rWhole_c 2 w' (by decide)) ?_)
 rintro ρ wa6 v6 wb6 r he hb hn
 replace hw:=hw.tr hb
 replace hq:=hq.past (iv':=(wa6.heap.size,wb6.heap.size)::iv5) r (oldF w) he fun x hx=>List.mem_cons_of_mem _ hx
 replace hr:=hr.past (iv':=(wa6.heap.size,wb6.heap.size)::iv5) r (oldF w) he fun x hx=>List.mem_cons_of_mem _ hx
 replace hf:=hf.past (iv':=(wa6.heap.size,wb6.heap.size)::iv5) r (oldF w) he fun x hx=>List.mem_cons_of_mem _ hx
 replace hx0:=hx0.past (iv':=(wa6.heap.size,wb6.heap.size)::iv5) r (oldF w) he fun x hx=>List.mem_cons_of_mem _ hx
 have hx1:=hn.got (S:=fun _=>False) r.baseLe (iv:=(wa6.heap.size,wb6.heap.size)::iv5) List.mem_cons_self
 clear r he hb hn
 generalize (wa6.heap.size,wb6.heap.size)::iv5=iv6 at*
 obtain⟨s6_0,s6_1,s6_2,s6_3,s6_4,s6_5,s6_6,s6_7,rfl⟩:=hx1.shape
 conv=>whnf
 refine callE_S (callE_con (Φ:=fun _ w' v w2=>RatC w2 (Nw (fun _=>False) w' w2) v ((2:Int):Rat)) (fun ρ w' r=>rWhole_c 2 w' (by decide)) ?_)
 rintro ρ wa7 v7 wb7 r he hb hn
 replace hw:=hw.tr hb
 replace hq:=hq.past (iv':=(wa7.heap.size,wb7.heap.size)::iv6) r (oldF w) he fun x hx=>List.mem_cons_of_mem _ hx
 replace hr:=hr.past (iv':=(wa7.heap.size,wb7.heap.size)::iv6) r (oldF w) he fun x hx=>List.mem_cons_of_mem _ hx
 replace hf:=hf.past (iv':=(wa7.heap.size,wb7.heap.size)::iv6) r (oldF w) he fun x hx=>List.mem_cons_of_mem _ hx
 replace hx0:=hx0.past (iv':=(wa7.heap.size,wb7.heap.size)::iv6) r (oldF w) he fun x hx=>List.mem_cons_of_mem _ hx
 replace hx1:=hx1.past (iv':=(wa7.heap.size,wb7.heap.size)::iv6) r (oldF w) he fun x hx=>List.mem_cons_of_mem _ hx
 have hx2:=hn.got (S:=fun _=>False) r.baseLe (iv:=(wa7.heap.size,wb7.heap.size)::iv6) List.mem_cons_self
 clear r he hb hn
 generalize (wa7.heap.size,wb7.heap.size)::iv6=iv7 at*
 obtain⟨s7_0,s7_1,s7_2,s7_3,s7_4,s7_5,s7_6,s7_7,rfl⟩:=hx2.shape
 conv=>whnf
 refine callE_S (callE_con (Φ:=fun _ w' v w2=>RatC w2 (Nw (fun _=>False) w' w2) v ((4:Int):Rat)) (fun ρ w' r=>rWhole_c 4 w' (by decide)) ?_)
 rintro ρ wa8 v8 wb8 r he hb hn
 replace hw:=hw.tr hb
 replace hq:=hq.past (iv':=(wa8.heap.size,wb8.heap.size)::iv7) r (oldF w) he fun x hx=>List.mem_cons_of_mem _ hx
 replace hr:=hr.past (iv':=(wa8.heap.size,wb8.heap.size)::iv7) r (oldF w) he fun x hx=>List.mem_cons_of_mem _ hx
 replace hf:=hf.past (iv':=(wa8.heap.size,wb8.heap.size)::iv7) r (oldF w) he fun x hx=>List.mem_cons_of_mem _ hx
 replace hx0:=hx0.past (iv':=(wa8.heap.size,wb8.heap.size)::iv7) r (oldF w) he fun x hx=>List.mem_cons_of_mem _ hx
 replace hx1:=hx1.past (iv':=(wa8.heap.size,wb8.heap.size)::iv7) r (oldF w) he fun x hx=>List.mem_cons_of_mem _ hx
 replace hx2:=hx2.past (iv':=(wa8.heap.size,wb8.heap.size)::iv7) r (oldF w) he fun x hx=>List.mem_cons_of_mem _ hx
 have hx3:=hn.got (S:=fun _=>False) r.baseLe (iv:=(wa8.heap.size,wb8.heap.size)::iv7) List.mem_cons_self
 clear r he hb hn
 generalize (wa8.heap.size,wb8.heap.size)::iv7=iv8 at*
 obtain⟨s8_0,s8_1,s8_2,s8_3,s8_4,s8_5,s8_6,s8_7,rfl⟩:=hx3.shape
 conv=>whnf
 refine callE_S (callE_con (Φ:=fun _ w' v w2=>RatC w2 (Nw (fun _=>False) w' w2) v ((3:Int):Rat)) (fun ρ w' r=>rWhole_c 3 w' (by decide)) ?_)
 rintro ρ wa9 v9 wb9 r he hb hn
 replace hw:=hw.tr hb
 replace hq:=hq.past (iv':=(wa9.heap.size,wb9.heap.size)::iv8) r (oldF w) he fun x hx=>List.mem_cons_of_mem _ hx
 replace hr:=hr.past (iv':=(wa9.heap.size,wb9.heap.size)::iv8) r (oldF w) he fun x hx=>List.mem_cons_of_mem _ hx
 replace hf:=hf.past (iv':=(wa9.heap.size,wb9.heap.size)::iv8) r (oldF w) he fun x hx=>List.mem_cons_of_mem _ hx
 replace hx0:=hx0.past (iv':=(wa9.heap.size,wb9.heap.size)::iv8) r (oldF w) he fun x hx=>List.mem_cons_of_mem _ hx
 replace hx1:=hx1.past (iv':=(wa9.heap.size,wb9.heap.size)::iv8) r (oldF w) he fun x hx=>List.mem_cons_of_mem _ hx
 replace hx2:=hx2.past (iv':=(wa9.heap.size,wb9.heap.size)::iv8) r (oldF w) he fun x hx=>List.mem_cons_of_mem _ hx
 replace hx3:=hx3.past (iv':=(wa9.heap.size,wb9.heap.size)::iv8) r (oldF w) he fun x hx=>List.mem_cons_of_mem _ hx
 have hx4:=hn.got (S:=fun _=>False) r.baseLe (iv:=(wa9.heap.size,wb9.heap.size)::iv8) List.mem_cons_self
 clear r he hb hn
 generalize (wa9.heap.size,wb9.heap.size)::iv8=iv9 at*
 obtain⟨s9_0,s9_1,s9_2,s9_3,s9_4,s9_5,s9_6,s9_7,rfl⟩:=hx4.shape
 conv=>whnf
 refine callE_S (callE_con (Φ:=fun _ w' v w2=>RatC w2 (Nw (fun _=>False) w' w2) v ((6:Int):Rat)) (fun ρ w' r=>rWhole_c 6 w' (by decide)) ?_)
 rintro ρ wa10 v10 wb10 r he hb hn
 replace hw:=hw.tr hb
 replace hq:=hq.past (iv':=(wa10.heap.size,wb10.heap.size)::iv9) r (oldF w) he fun x hx=>List.mem_cons_of_mem _ hx
 replace hr:=hr.past (iv':=(wa10.heap.size,wb10.heap.size)::iv9) r (oldF w) he fun x hx=>List.mem_cons_of_mem _ hx
 replace hf:=hf.past (iv':=(wa10.heap.size,wb10.heap.size)::iv9) r (oldF w) he fun x hx=>List.mem_cons_of_mem _ hx
 replace hx0:=hx0.past (iv':=(wa10.heap.size,wb10.heap.size)::iv9) r (oldF w) he fun x hx=>List.mem_cons_of_mem _ hx
 replace hx1:=hx1.past (iv':=(wa10.heap.size,wb10.heap.size)::iv9) r (oldF w) he fun x hx=>List.mem_cons_of_mem _ hx
 replace hx2:=hx2.past (iv':=(wa10.heap.size,wb10.heap.size)::iv9) r (oldF w) he fun x hx=>List.mem_cons_of_mem _ hx
 replace hx3:=hx3.past (iv':=(wa10.heap.size,wb10.heap.size)::iv9) r (oldF w) he fun x hx=>List.mem_cons_of_mem _ hx
 replace hx4:=hx4.past (iv':=(wa10.heap.size,wb10.heap.size)::iv9) r (oldF w) he fun x hx=>List.mem_cons_of_mem _ hx
 have hx5:=hn.got (S:=fun _=>False) r.baseLe (iv:=(wa10.heap.size,wb10.heap.size)::iv9) List.mem_cons_self
 clear r he hb hn
 generalize (wa10.heap.size,wb10.heap.size)::iv9=iv10 at*
 obtain⟨s10_0,s10_1,s10_2,s10_3,s10_4,s10_5,s10_6,s10_7,rfl⟩:=hx5.shape
 conv=>whnf
 refine callE_S (callE_con (Φ:=fun _ w' v w2=>∃vx vk,v= .tuple #[.agg #[.int .i64 0,vx,vk,.slice none 0 0],.int .i64 0]∧RatsC w2 (Nw (fun _=>False) w' w2) vx [3,0]∧RatMC w2 (Nw (fun _=>False) w' w2) vk [[-2,1]]) (fun ρ w' r=>?_) ?_)
 ·have f0:=(hx0.rel r (oldF w)).four.weak (S':=fun g=>g<w'.heap.size) fun g hg=>Rel.old r (oldF w) g hg
  have f1:=(hx1.rel r (oldF w)).four.weak (S':=fun g=>g<w'.heap.size) fun g hg=>Rel.old r (oldF w) g hg
  have f2:=(hx2.rel r (oldF w)).four.weak (S':=fun g=>g<w'.heap.size) fun g hg=>Rel.old r (oldF w) g hg
  have f3:=(hx3.rel r (oldF w)).four.weak (S':=fun g=>g<w'.heap.size) fun g hg=>Rel.old r (oldF w) g hg
  have f4:=(hx4.rel r (oldF w)).four.weak (S':=fun g=>g<w'.heap.size) fun g hg=>Rel.old r (oldF w) g hg
  have f5:=(hx5.rel r (oldF w)).four.weak (S':=fun g=>g<w'.heap.size) fun g hg=>Rel.old r (oldF w) g hg
  have r0:=r.box2 (id:=3) rfl (by simp[Value.oneCell']) f0 f1 (Rel.lt r rfl)
  have r1:=r.box2 (id:=4) rfl (by simp[Value.oneCell']) f2 f3 (Rel.lt r rfl)
  have r2:=r.box2 (id:=6) rfl (by simp[Value.oneCell']) f4 f5 (Rel.lt r rfl)
  refine aw_solve (S:=fun g=>g<w'.heap.size) (fun g hg=>hg) ?_ r2
  refine⟨[.slice (some ⟨(ρ 3).g,0,none⟩) 2 2,.slice (some ⟨(ρ 4).g,0,none⟩) 2 2],(r.boxSeq (id:=5) (sz:=1) (n:=2) rfl rfl (by simp[maxLen]) (fun u hu=>by simp at hu;rcases hu with rfl|rfl<;>rfl)).weak (fun g hg=>by rw[hg];exact Rel.lt r rfl),rfl,fun i u x k1 k2=>?_⟩
  match i with
  |0=>simp[awM]at k1 k2;subst k1 k2;exact r0
  |1=>simp[awM]at k1 k2;subst k1 k2;exact r1
  |i+2=>simp at k1
 rintro ρ wa11 v11 wb11 r he hb ⟨vx,vk,rfl,k1,k2⟩
 replace hw:=hw.tr hb
 replace hq:=hq.past (iv':=(wa11.heap.size,wb11.heap.size)::iv10) r (oldF w) he fun x hx=>List.mem_cons_of_mem _ hx
 replace hr:=hr.past (iv':=(wa11.heap.size,wb11.heap.size)::iv10) r (oldF w) he fun x hx=>List.mem_cons_of_mem _ hx
 replace hf:=hf.past (iv':=(wa11.heap.size,wb11.heap.size)::iv10) r (oldF w) he fun x hx=>List.mem_cons_of_mem _ hx
 clear hx0
 clear hx1
 clear hx2
 clear hx3
 clear hx4
 clear hx5
 have hsx:=RatsC.got (S:=fun _=>False) k1 r.baseLe (iv:=(wa11.heap.size,wb11.heap.size)::iv10) List.mem_cons_self
 have hsk:=RatMC.got (S:=fun _=>False) k2 r.baseLe (iv:=(wa11.heap.size,wb11.heap.size)::iv10) List.mem_cons_self
 clear r he hb
 generalize (wa11.heap.size,wb11.heap.size)::iv10=iv11 at*
 clear k1 k2
 obtain⟨sx_a,sx_c,rfl,-⟩:=ListR.shape hsx
 obtain⟨sk_a,sk_c,rfl,-⟩:=SlicesR.shape hsk
 conv=>whnf
 refine drawn_of_pi hτ hmix [.x 0,.x 1,.x 2,.x 3,.x 4,.x 5,.x 6,.x 7,.x 8,.x 9,.x 10,.x 11,.x 12,.x 13,.x 14,.x 15,.x 16,.x 17,.x 18,.x 19,.x 20,.x 21,.x 22,.x 23,.x 24,.x 25,.x 26] (by kernel_rfl) (by kernel_rfl) ?_
 conv=>whnf
 refine callE_con (Φ:=fun _ w' v w2=>IntC w2 (Nw (fun _=>False) w' w2) v (-4)) (fun ρ w' r=>rOf_c _ w' (by decide) (by decide)) ?_
 rintro ρ wa12 v12 wb12 r he hb hn
 replace hw:=hw.tr hb
 replace hq:=hq.past (iv':=(wa12.heap.size,wb12.heap.size)::iv11) r (oldF w) he fun x hx=>List.mem_cons_of_mem _ hx
 replace hr:=hr.past (iv':=(wa12.heap.size,wb12.heap.size)::iv11) r (oldF w) he fun x hx=>List.mem_cons_of_mem _ hx
 replace hf:=hf.past (iv':=(wa12.heap.size,wb12.heap.size)::iv11) r (oldF w) he fun x hx=>List.mem_cons_of_mem _ hx
 replace hsx:=RatsC.past (iv':=(wa12.heap.size,wb12.heap.size)::iv11) hsx r (oldF w) he fun x hx=>List.mem_cons_of_mem _ hx
 replace hsk:=RatMC.past (iv':=(wa12.heap.size,wb12.heap.size)::iv11) hsk r (oldF w) he fun x hx=>List.mem_cons_of_mem _ hx
 have h4:=hn.got (S:=fun _=>False) r.baseLe (iv:=(wa12.heap.size,wb12.heap.size)::iv11) List.mem_cons_self
 clear r he hb hn
 generalize (wa12.heap.size,wb12.heap.size)::iv11=iv12 at*
 obtain⟨s12_0,s12_1,s12_2,s12_3,rfl⟩:=h4.shape
 conv=>whnf
 refine callE_con (Φ:=fun _ w' v w2=>v= .bool true) (fun ρ w' r=>sameInt_c (Rel.old r (oldF w)) (hq.rel r (oldF w)) (h4.rel r (oldF w))) ?_
 rintro ρ wa13 v13 wb13 r he hb rfl
 replace hw:=hw.tr hb
 clear hq
 replace hr:=hr.past (iv':=(wa13.heap.size,wb13.heap.size)::iv12) r (oldF w) he fun x hx=>List.mem_cons_of_mem _ hx
 replace hf:=hf.past (iv':=(wa13.heap.size,wb13.heap.size)::iv12) r (oldF w) he fun x hx=>List.mem_cons_of_mem _ hx
 replace hsx:=RatsC.past (iv':=(wa13.heap.size,wb13.heap.size)::iv12) hsx r (oldF w) he fun x hx=>List.mem_cons_of_mem _ hx
 replace hsk:=RatMC.past (iv':=(wa13.heap.size,wb13.heap.size)::iv12) hsk r (oldF w) he fun x hx=>List.mem_cons_of_mem _ hx
 clear h4
 clear r he hb
 generalize (wa13.heap.size,wb13.heap.size)::iv12=iv13 at*
 conv=>whnf
 refine callE_con (Φ:=fun _ w' v w2=>IntC w2 (Nw (fun _=>False) w' w2) v 1) (fun ρ w' r=>rOf_c _ w' (by decide) (by decide)) ?_
 rintro ρ wa14 v14 wb14 r he hb hn
 replace hw:=hw.tr hb
 replace hr:=hr.past (iv':=(wa14.heap.size,wb14.heap.size)::iv13) r (oldF w) he fun x hx=>List.mem_cons_of_mem _ hx
 replace hf:=hf.past (iv':=(wa14.heap.size,wb14.heap.size)::iv13) r (oldF w) he fun x hx=>List.mem_cons_of_mem _ hx
 replace hsx:=RatsC.past (iv':=(wa14.heap.size,wb14.heap.size)::iv13) hsx r (oldF w) he fun x hx=>List.mem_cons_of_mem _ hx
 replace hsk:=RatMC.past (iv':=(wa14.heap.size,wb14.heap.size)::iv13) hsk r (oldF w) he fun x hx=>List.mem_cons_of_mem _ hx
 have h1:=hn.got (S:=fun _=>False) r.baseLe (iv:=(wa14.heap.size,wb14.heap.size)::iv13) List.mem_cons_self
 clear r he hb hn
 generalize (wa14.heap.size,wb14.heap.size)::iv13=iv14 at*
 obtain⟨s14_0,s14_1,s14_2,s14_3,rfl⟩:=h1.shape
 conv=>whnf
 refine callE_con (Φ:=fun _ w' v w2=>v= .bool true) (fun ρ w' r=>sameInt_c (Rel.old r (oldF w)) (hr.rel r (oldF w)) (h1.rel r (oldF w))) ?_
 rintro ρ wa15 v15 wb15 r he hb rfl
 replace hw:=hw.tr hb
 clear hr
 replace hf:=hf.past (iv':=(wa15.heap.size,wb15.heap.size)::iv14) r (oldF w) he fun x hx=>List.mem_cons_of_mem _ hx
 replace hsx:=RatsC.past (iv':=(wa15.heap.size,wb15.heap.size)::iv14) hsx r (oldF w) he fun x hx=>List.mem_cons_of_mem _ hx
 replace hsk:=RatMC.past (iv':=(wa15.heap.size,wb15.heap.size)::iv14) hsk r (oldF w) he fun x hx=>List.mem_cons_of_mem _ hx
 clear h1
 clear r he hb
 generalize (wa15.heap.size,wb15.heap.size)::iv14=iv15 at*
 conv=>whnf
 refine callE_con (Φ:=fun _ w' v w2=>v= .string ⟨#[49,52,49,47,49,48,48]⟩) (fun ρ w' r=>aw_format (Rel.old r (oldF w)) (hf.rel r (oldF w))) ?_
 rintro ρ wa16 v16 wb16 r he hb rfl
 replace hw:=hw.tr hb
 clear hf
 replace hsx:=RatsC.past (iv':=(wa16.heap.size,wb16.heap.size)::iv15) hsx r (oldF w) he fun x hx=>List.mem_cons_of_mem _ hx
 replace hsk:=RatMC.past (iv':=(wa16.heap.size,wb16.heap.size)::iv15) hsk r (oldF w) he fun x hx=>List.mem_cons_of_mem _ hx
 clear r he hb
 generalize (wa16.heap.size,wb16.heap.size)::iv15=iv16 at*
 conv=>whnf
 refine drawn_of_pi hτ hmix [.x 0,.x 1,.x 2,.x 3,.x 4,.x 5,.x 6,.x 7,.x 8,.x 9,.x 10,.x 11,.x 12,.x 13,.x 14,.x 15,.x 16,.x 17,.x 18,.x 19,.x 20] (by kernel_rfl) (by kernel_rfl) ?_
 conv=>whnf
 refine callE_con (Φ:=fun _ w' v w2=>RatC w2 (Nw (fun _=>False) w' w2) v ((3:Int):Rat)) (fun ρ w' r=>rWhole_c 3 w' (by decide)) ?_
 rintro ρ wa17 v17 wb17 r he hb hn
 replace hw:=hw.tr hb
 replace hsx:=RatsC.past (iv':=(wa17.heap.size,wb17.heap.size)::iv16) hsx r (oldF w) he fun x hx=>List.mem_cons_of_mem _ hx
 replace hsk:=RatMC.past (iv':=(wa17.heap.size,wb17.heap.size)::iv16) hsk r (oldF w) he fun x hx=>List.mem_cons_of_mem _ hx
 have hx0:=hn.got (S:=fun _=>False) r.baseLe (iv:=(wa17.heap.size,wb17.heap.size)::iv16) List.mem_cons_self
 clear r he hb hn
 generalize (wa17.heap.size,wb17.heap.size)::iv16=iv17 at*
 obtain⟨s17_0,s17_1,s17_2,s17_3,s17_4,s17_5,s17_6,s17_7,rfl⟩:=hx0.shape
 conv=>whnf
 refine callE_con (Φ:=fun _ w' v w2=>RatC w2 (Nw (fun _=>False) w' w2) v ((0:Int):Rat)) (fun ρ w' r=>rWhole_c 0 w' (by decide)) ?_
 rintro ρ wa18 v18 wb18 r he hb hn
 replace hw:=hw.tr hb
 replace hsx:=RatsC.past (iv':=(wa18.heap.size,wb18.heap.size)::iv17) hsx r (oldF w) he fun x hx=>List.mem_cons_of_mem _ hx
 replace hsk:=RatMC.past (iv':=(wa18.heap.size,wb18.heap.size)::iv17) hsk r (oldF w) he fun x hx=>List.mem_cons_of_mem _ hx
 replace hx0:=hx0.past (iv':=(wa18.heap.size,wb18.heap.size)::iv17) r (oldF w) he fun x hx=>List.mem_cons_of_mem _ hx
 have hx1:=hn.got (S:=fun _=>False) r.baseLe (iv:=(wa18.heap.size,wb18.heap.size)::iv17) List.mem_cons_self
 clear r he hb hn
 generalize (wa18.heap.size,wb18.heap.size)::iv17=iv18 at*
 obtain⟨s18_0,s18_1,s18_2,s18_3,s18_4,s18_5,s18_6,s18_7,rfl⟩:=hx1.shape
 conv=>whnf
 refine callE_con (Φ:=fun _ w' v w2=>v= .bool true) (fun ρ w' r=>?_) ?_
 ·have f0:=(hx0.rel r (oldF w)).fourC.weak (S':=fun g=>g<w'.heap.size) fun g hg=>Rel.old r (oldF w) g hg
  have f1:=(hx1.rel r (oldF w)).fourC.weak (S':=fun g=>g<w'.heap.size) fun g hg=>Rel.old r (oldF w) g hg
  have r0:=r.box2 (id:=8) rfl (by simp[Value.oneCell']) f0 f1 (Rel.lt r rfl)
  exact sameList_c (xs:=[3,0]) (ys:=[3,0]) (fun g hg=>hg) (RatsC.weak (RatsC.rel hsx r (oldF w)) fun g hg=>Rel.old r (oldF w) g hg) r0
 rintro ρ wa19 v19 wb19 r he hb rfl
 replace hw:=hw.tr hb
 clear hsx
 replace hsk:=RatMC.past (iv':=(wa19.heap.size,wb19.heap.size)::iv18) hsk r (oldF w) he fun x hx=>List.mem_cons_of_mem _ hx
 clear hx0
 clear hx1
 clear r he hb
 generalize (wa19.heap.size,wb19.heap.size)::iv18=iv19 at*
 conv=>whnf
 refine callE_con (Φ:=fun _ w' v w2=>RatC w2 (Nw (fun _=>False) w' w2) v ((-2:Int):Rat)) (fun ρ w' r=>rWhole_c (-2) w' (by decide)) ?_
 rintro ρ wa20 v20 wb20 r he hb hn
 replace hw:=hw.tr hb
 replace hsk:=RatMC.past (iv':=(wa20.heap.size,wb20.heap.size)::iv19) hsk r (oldF w) he fun x hx=>List.mem_cons_of_mem _ hx
 have hx0:=hn.got (S:=fun _=>False) r.baseLe (iv:=(wa20.heap.size,wb20.heap.size)::iv19) List.mem_cons_self
 clear r he hb hn
 generalize (wa20.heap.size,wb20.heap.size)::iv19=iv20 at*
 obtain⟨s20_0,s20_1,s20_2,s20_3,s20_4,s20_5,s20_6,s20_7,rfl⟩:=hx0.shape
 conv=>whnf
 refine callE_con (Φ:=fun _ w' v w2=>RatC w2 (Nw (fun _=>False) w' w2) v ((1:Int):Rat)) (fun ρ w' r=>rWhole_c 1 w' (by decide)) ?_
 rintro ρ wa21 v21 wb21 r he hb hn
 replace hw:=hw.tr hb
 replace hsk:=RatMC.past (iv':=(wa21.heap.size,wb21.heap.size)::iv20) hsk r (oldF w) he fun x hx=>List.mem_cons_of_mem _ hx
 replace hx0:=hx0.past (iv':=(wa21.heap.size,wb21.heap.size)::iv20) r (oldF w) he fun x hx=>List.mem_cons_of_mem _ hx
 have hx1:=hn.got (S:=fun _=>False) r.baseLe (iv:=(wa21.heap.size,wb21.heap.size)::iv20) List.mem_cons_self
 clear r he hb hn
 generalize (wa21.heap.size,wb21.heap.size)::iv20=iv21 at*
 obtain⟨s21_0,s21_1,s21_2,s21_3,s21_4,s21_5,s21_6,s21_7,rfl⟩:=hx1.shape
 conv=>whnf
 refine callE_con (Φ:=fun _ w' v w2=>v= .bool true) (fun ρ w' r=>?_) ?_
 ·have f0:=(hx0.rel r (oldF w)).fourC.weak (S':=fun g=>g<w'.heap.size) fun g hg=>Rel.old r (oldF w) g hg
  have f1:=(hx1.rel r (oldF w)).fourC.weak (S':=fun g=>g<w'.heap.size) fun g hg=>Rel.old r (oldF w) g hg
  have r0:=r.box2 (id:=9) rfl (by simp[Value.oneCell']) f0 f1 (Rel.lt r rfl)
  refine sameLists_c (xs:=[[-2,1]]) (ys:=[[-2,1]]) (fun g hg=>hg) (RatMC.weak (RatMC.rel hsk r (oldF w)) fun g hg=>Rel.old r (oldF w) g hg) ?_
  refine⟨[.slice (some ⟨(ρ 9).g,0,none⟩) 2 2],(r.boxSeq (id:=10) (sz:=1) (n:=1) rfl rfl (by simp[maxLen]) (fun u hu=>by simp at hu;subst hu;rfl)).weak (fun g hg=>by rw[hg];exact Rel.lt r rfl),rfl,fun i u x k1 k2=>?_⟩
  match i with
  |0=>simp at k1 k2;subst k1 k2;exact r0
  |i+1=>simp at k1
 rintro ρ wa22 v22 wb22 r he hb rfl
 replace hw:=hw.tr hb
 clear hsk
 clear hx0
 clear hx1
 clear r he hb
 generalize (wa22.heap.size,wb22.heap.size)::iv21=iv22 at*
 conv=>whnf
 intro ρe we re
 exact⟨_,rfl,hw.tr re.bel,rfl⟩
end Go.Ex

/- Sums and products of columns. No condition. -/
namespace Go.Ex

/-- the sum of the first so many columns -/
def colsum(f:Nat→Int):Nat→Int
 |0=>0
 |n+1=>f 0+65536*colsum (fun i=>f (i+1)) n
theorem colsum_map(f:Nat→Int)(n:Nat):colval ((List.range n).map f)=colsum f n:=by
 induction n generalizing f with
 |zero=>rfl
 |succ n ih=>
  rw[List.range_succ_eq_map,List.map_cons,List.map_map,colval,colsum,←ih]
  rfl
theorem colsum_add(f g:Nat→Int)(n:Nat):colsum (fun i=>f i+g i) n=colsum f n+colsum g n:=by
 induction n generalizing f g with
 |zero=>rfl
 |succ n ih=>simp only[colsum,ih];omega
theorem colsum_mul(k:Int)(f:Nat→Int)(n:Nat):colsum (fun i=>k*f i) n=k*colsum f n:=by
 induction n generalizing f with
 |zero=>simp[colsum]
 |succ n ih=>simp only[colsum,ih,Int.mul_add];rw[Int.mul_left_comm]
theorem colsum_zero{f:Nat→Int}{n:Nat}(h:∀i,i<n→f i=0):colsum f n=0:=by
 induction n generalizing f with
 |zero=>rfl
 |succ n ih=>rw[colsum,h 0 (by omega),ih fun i hi=>h (i+1) (by omega)];rfl
theorem colsum_getD(a:List Int)(n:Nat)(h:a.length≤n):colsum (fun i=>a.getD i 0) n=colval a:=by
 induction a generalizing n with
 |nil=>exact colsum_zero fun i _=>by simp
 |cons c r ih=>
  obtain⟨m,rfl⟩:∃m,n=m+1:=⟨n-1,by simp at h;omega⟩
  have e:=ih m (by simpa using h)
  rw[colsum,colval,←e]
  simp[List.getD]
/-- a product's column: the first k parts -/
def cpart(a b:List Int)(i:Nat):Nat→Int
 |0=>0
 |k+1=>cpart a b i k+a.getD k 0*(if k≤i then b.getD (i-k) 0 else 0)
def convAt(a b:List Int)(i:Nat):Int:=cpart a b i (i+1)
theorem cpart_nil(b:List Int)(i k:Nat):cpart [] b i k=0:=by
 induction k with
 |zero=>rfl
 |succ k ih=>rw[cpart,ih];simp
theorem cpart_cons(c:Int)(r b:List Int)(i k:Nat):cpart (c::r) b (i+1) (k+1)=c*b.getD (i+1) 0+cpart r b i k:=by
 induction k with
 |zero=>simp[cpart]
 |succ k ih=>
  rw[cpart,ih,cpart]
  have e:(c::r).getD (k+1) 0=r.getD k 0:=by simp[List.getD]
  rw[e]
  have e2:(if k+1≤i+1 then b.getD (i+1-(k+1)) 0 else 0)=(if k≤i then b.getD (i-k) 0 else 0):=by
   by_cases h:k≤i
   ·rw[if_pos h,if_pos (by omega),show i+1-(k+1)=i-k by omega]
   ·rw[if_neg h,if_neg (by omega)]
  rw[e2,Int.add_assoc]
theorem convAt_cons(c:Int)(r b:List Int)(i:Nat):convAt (c::r) b (i+1)=c*b.getD (i+1) 0+convAt r b i:=cpart_cons c r b i (i+1)
theorem convAt_zero(c:Int)(r b:List Int):convAt (c::r) b 0=c*b.getD 0 0:=by simp[convAt,cpart]
theorem conv_sum(a b:List Int)(n:Nat)(h:a.length+b.length≤n+1):colsum (convAt a b) n=colval a*colval b:=by
 induction a generalizing n with
 |nil=>
  rw[show convAt [] b=fun _=>(0:Int)from funext fun i=>cpart_nil b i _,colsum_zero fun _ _=>rfl]
  simp[colval]
 |cons c r ih=>
  cases n with
  |zero=>
   have hb:b=[]:=List.eq_nil_of_length_eq_zero (by simp at h;omega)
   subst hb
   simp[colsum,colval]
  |succ m=>
   have e1:colsum (convAt (c::r) b) (m+1)=colsum (fun i=>c*b.getD i 0) (m+1)+65536*colsum (convAt r b) m:=by
    have e2:colsum (fun i=>convAt (c::r) b (i+1)) m=colsum (fun i=>c*b.getD (i+1) 0) m+colsum (convAt r b) m:=by
     rw[←colsum_add]
     congr 1
     funext i
     exact convAt_cons c r b i
    rw[colsum,colsum,e2,convAt_zero,Int.mul_add]
    omega
   have h':r.length+b.length≤m+1:=by simp at h;omega
   rw[e1,ih m h',colsum_mul,colsum_getD b (m+1) (by omega),colval,Int.add_mul,Int.mul_assoc]
theorem cpart_skip(a b:List Int)(i k k0:Nat)(h0:∀j,j<k0→b.length≤i-j)(hk:k0≤i+1)(h:k≤k0):cpart a b i k=0:=by
 induction k with
 |zero=>rfl
 |succ k ih=>
  rw[cpart,ih (by omega),if_pos (by omega)]
  have:b.getD (i-k) 0=0:=by rw[List.getD,List.getElem?_eq_none (h0 k (by omega))];rfl
  rw[this];simp
theorem cpart_rest(a b:List Int)(i k m:Nat)(h:a.length≤k):cpart a b i (k+m)=cpart a b i k:=by
 induction m with
 |zero=>rfl
 |succ m ih=>
  rw[←Nat.add_assoc,cpart,ih]
  have:a.getD (k+m) 0=0:=by rw[List.getD,List.getElem?_eq_none (by omega)];rfl
  rw[this];simp
theorem cpart_bound{a b:List Int}{i:Nat}(ha:∀x∈a,-65535≤x∧x≤65535)(hb:∀x∈b,-65535≤x∧x≤65535)(k:Nat):(cpart a b i k).natAbs≤4294836225*k:=by
 have key:∀(l:List Int) (j:Nat),(∀x∈l,-65535≤x∧x≤65535)→(l.getD j 0).natAbs≤65535:=fun l j h=>by
  rw[List.getD]
  cases hj:l[j]? with
  |none=>simp
  |some d=>have:=h d (List.mem_of_getElem? hj);simp;omega
 induction k with
 |zero=>simp[cpart]
 |succ k ih=>
  rw[cpart]
  have h1:=key a k ha
  have h2:(if k≤i then b.getD (i-k) 0 else 0).natAbs≤65535:=by
   split
   ·exact key b _ hb
   ·simp
  have h3:=Nat.mul_le_mul h1 h2
  rw[←Int.natAbs_mul]at h3
  generalize a.getD k 0*(if k≤i then b.getD (i-k) 0 else 0)=p at*
  omega
/-- the columns of limbs, each one with the sign s -/
def limbCols(s:Int):List Nat→List Int
 |[]=>[]
 |l::r=>s*((l % 65536:Nat):Int)::s*((l / 65536:Nat):Int)::limbCols s r
theorem limbCols_val(s:Int)(ls:List Nat):colval (limbCols s ls)=s*(val ls:Int):=by
 induction ls with
 |nil=>simp[limbCols,colval,val]
 |cons l r ih=>
  rw[limbCols,colval,colval,ih,val]
  have e1:((l+4294967296*val r:Nat):Int)=((l % 65536:Nat):Int)+65536*((l / 65536:Nat):Int)+4294967296*((val r:Nat):Int):=by omega
  rw[e1,Int.mul_add,Int.mul_add,Int.mul_add]
  rw[Int.mul_left_comm 65536 s,Int.mul_left_comm s 65536,Int.mul_left_comm s 4294967296]
  omega
theorem limbCols_append(s:Int)(a b:List Nat):limbCols s (a++b)=limbCols s a++limbCols s b:=by
 induction a with
 |nil=>rfl
 |cons l r ih=>simp[limbCols,ih]
theorem limbCols_length(s:Int)(ls:List Nat):(limbCols s ls).length=2*ls.length:=by
 induction ls with
 |nil=>rfl
 |cons l r ih=>simp[limbCols,ih];omega
theorem limbCols_bound{s:Int}(hs:s=1∨s= -1){ls:List Nat}(h:Lm ls):∀c∈limbCols s ls,-65535≤c∧c≤65535:=by
 induction ls with
 |nil=>intro c hc;cases hc
 |cons l r ih=>
  have hl:=h l List.mem_cons_self
  intro c hc
  rw[limbCols]at hc
  rcases List.mem_cons.1 hc with rfl|hc
  ·rcases hs with rfl|rfl<;>omega
  rcases List.mem_cons.1 hc with rfl|hc
  ·rcases hs with rfl|rfl<;>omega
  ·exact ih (fun x hx=>h x (List.mem_cons_of_mem _ hx)) c hc
/-- of a number that is not negative the columns are digits, and the upper ones tell the rest -/
theorem limbCols_digits{ls:List Nat}(h:Lm ls):∀c∈limbCols 1 ls,0≤c∧c≤65535:=fun c hc=>by
 induction ls with
 |nil=>cases hc
 |cons l r ih=>
  have hl:=h l List.mem_cons_self
  rw[limbCols]at hc
  rcases List.mem_cons.1 hc with rfl|hc
  ·omega
  rcases List.mem_cons.1 hc with rfl|hc
  ·omega
  ·exact ih (fun x hx=>h x (List.mem_cons_of_mem _ hx)) hc
theorem colval_drop{cs:List Int}{i:Nat}{c:Int}(h:cs[i]? =some c):colval (cs.drop i)=c+65536*colval (cs.drop (i+1)):=by
 rw[List.drop_eq_getElem_cons (List.getElem?_eq_some_iff.1 h).1,colval]
 have:=(List.getElem?_eq_some_iff.1 h).2
 rw[this]
end Go.Ex

/- Small lemmas on sizes; division for the laws of chapter 1. No condition. -/
namespace Go.Ex
open Go Go.Sx Go.Proofs

theorem ln_limbs{ls:List Nat}{k:Nat}(h:Lm ls)(hl:ls.length≤k):ln (val ls)≤k:=ln_le.2 (Nat.lt_of_lt_of_le (val_lt h) (wt_le hl))
theorem Cv.false{S:Nat→Prop}{B:Nat}{iv:Iv}{g:Nat}(h:Cv (fun _=>False) B iv g):Cv S B iv g:=h.elim (fun h=>h.elim) .inr
end Go.Ex

/- The fractions that package exact exports. Printed by program. No condition but sizes. -/
namespace Go.Ex
open Go Go.Sx Go.Proofs

theorem pubNormal_c{S:Nat→Prop}{w:World}{v:Value}{x1 x2:Int}(hS:Old S w)(hx:RatR w S v x1 x2)(hl0:ln x1.natAbs≤100000)(hl1:ln x2.natAbs≤100000):
  Con PG N.exact_Normal #[v] w (Ret w fun v' w2=>RatC w2 (Nw (fun _=>False) w w2) v' (ratio x1 x2)):=by
 have hw:Bel w.heap.size w w:=Bel.refl
 have r1:=rl_ratio x1 x2
 replace hx:=hx.weak (S':=Cv S w.heap.size []) fun _ h=>.inl h
 obtain⟨b1,a1,n1,c1,b2,a2,n2,c2,rfl⟩:=hx.shape
 refine in_exact_Normal (by simp) ?_
 conv=>whnf
 refine callE_S (callE_con (Φ:=fun _ w' v w2=>FracR w2 (Nw (fun _=>False) w' w2) v ((ratio x1 x2))) (fun ρ w' r=>value_c (Rel.old r hS) (hx.rel r hS) (by omega) (by omega)) ?_)
 rintro ρ wa1 v1 wb1 r he hb hn
 replace hw:=hw.tr hb
 clear hx
 have hX:=hn.got (S:=fun _=>False) r.baseLe (iv:=(wa1.heap.size,wb1.heap.size)::[]) List.mem_cons_self
 clear r he hb hn
 generalize (wa1.heap.size,wb1.heap.size)::[]=iv1 at*
 obtain⟨s1_0,s1_1,s1_2,s1_3,s1_4,s1_5,s1_6,s1_7,rfl⟩:=hX.shape
 conv=>whnf
 refine callE_S (callE_con (Φ:=fun _ w' v w2=>RatC w2 (Nw (fun _=>False) w' w2) v ((ratio x1 x2))) (fun ρ w' r=>fgive_c (Rel.old r (oldF w)) (hX.rel r (oldF w)) (by omega)) ?_)
 rintro ρ wa2 v2 wb2 r he hb hn
 replace hw:=hw.tr hb
 clear hX
 have hC:=hn.got (S:=fun _=>False) r.baseLe (iv:=(wa2.heap.size,wb2.heap.size)::iv1) List.mem_cons_self
 clear r he hb hn
 generalize (wa2.heap.size,wb2.heap.size)::iv1=iv2 at*
 obtain⟨s2_0,s2_1,s2_2,s2_3,s2_4,s2_5,s2_6,s2_7,rfl⟩:=hC.shape
 conv=>whnf
 intro ρe we re
 exact⟨_,rfl,hw.tr re.bel,hC.out re (oldF w)⟩

end Go.Ex

/- brief of the laws of chapter 1; fractions of package exact by their values. Printed by program. No condition but sizes. -/
namespace Go.Ex
open Go Go.Sx Go.Proofs

def rheads:List (Head×Head)→List Value
 |[]=>[]
 |k::r=>.bool k.1.1:: .slice k.1.2.1 k.1.2.2.1 k.1.2.2.2:: .bool k.2.1:: .slice k.2.2.1 k.2.2.2.1 k.2.2.2.2::rheads r
theorem rheads_get:∀{ks:List (Head×Head)} {i:Nat} {k:Head×Head},ks[i]? =some k→(rheads ks)[i*4+1]? =some (.slice k.1.2.1 k.1.2.2.1 k.1.2.2.2)∧(rheads ks)[i*4+3]? =some (.slice k.2.2.1 k.2.2.2.1 k.2.2.2.2)
 |[],i,k,h=>by simp at h
 |k0::r,0,k,h=>by injection h with h;subst h;exact⟨rfl,rfl⟩
 |k0::r,i+1,k,h=>by
  have:=rheads_get (ks:=r) (i:=i) (k:=k) (by simpa using h)
  rw[show (i+1)*4+1=(i*4+1)+4 by omega,show(i+1)*4+3=(i*4+3)+4 by omega]
  exact this
theorem addr_two(ad:Addr)(i j:Nat):(ad.add i).add j=ad.add (i+j):=by
 unfold Addr.add
 split<;>split<;>simp_all<;>omega
theorem brief_c{S:Nat→Prop}{w:World}{v:Value}{ks:List (Head×Head)}(hS:Old S w)(h:SeqR w S 4 v (rheads ks) ks.length):
  Con PG N.law01_brief #[v] w (Ret w fun v' _=>v'= .bool (decide (∀k∈ks,k.1.2.2.1≤3∧k.2.2.2.1≤3))):=by
 obtain⟨h0,h1,h2,a,c,rfl,h3,h4⟩:=h
 unfold maxLen at h0
 refine in_law01_brief (by simp) ?_
 conv=>whnf
 refine⟨Nat×World,fun z=>⟨[(0,.o (.v (.slice a ks.length c))),(3,.o (.v (.int .i64 z.1)))],[],0,[],z.2⟩,fun z=>ks.length-z.1,
  fun z=>z.1≤ks.length∧Bel w.heap.size w z.2∧∀k∈ks.take z.1,k.1.2.2.1≤3∧k.2.2.2.1≤3,?_,?_⟩
 ·intro ρ w' r
  exact⟨(0,w'),⟨by simp,r.bel,by simp⟩,Sub.gen [] r trivial ⟨rfl,rfl,trivial⟩ (by simp[ScH]) (by simp[ScE,SV.sc,At.sc]) (by rfl) (by simp)⟩
 rintro⟨i,w1⟩ ⟨hi,hw,ht⟩
 dsimp only at hi hw ht ⊢
 conv=>whnf
 refine BrS.mk (fun hib=>?_) (fun hib=>?_)
 ·have hib:i<ks.length:=by simpa using hib
  obtain⟨k,hk⟩:∃x,ks[i]? =some x:=⟨_,List.getElem?_eq_getElem hib⟩
  obtain⟨g1,g2⟩:=rheads_get hk
  obtain⟨ad,rfl,q1,q2⟩:=h4 _ _ g1
  obtain⟨ad2,e2,q3,q4⟩:=h4 _ _ g2
  injection e2 with e2
  subst e2
  have hld:∀{H nx iv ρ w'} (j:Nat) (u:Value),w.cell? (ad.add (i*4+j))=some u→Rel H nx iv w.heap.size w1 ρ w'→w'.cell? (ad.add ((i:Int).toNat*4+j))=some u:=fun{H nx iv ρ w'} j u hu r=>by
   rw[Int.toNat_natCast,cell_of_heap (w:=w) (w2:=w') (by rw[addB];exact(hw.tr r.bel).block _ (hS _ q1))]
   exact hu
  conv=>whnf
  refine⟨ad,rfl,⟨by omega,by omega⟩,?_⟩
  conv=>whnf
  refine⟨.slice k.1.2.1 k.1.2.2.1 k.1.2.2.2,fun ρ w' r=>?_,?_⟩
  ·simp only[addr_two];exact hld 1 _ q2 r
  conv=>whnf
  refine BrS.mk (fun hg=>?_) (fun hg=>?_)
  ·have hg:3<k.1.2.2.1:=by
    have:=of_decide_eq_true hg
    omega
   conv=>whnf
   intro ρ w2 r
   refine⟨_,rfl,hw.tr r.bel,?_⟩
   rw[decide_eq_false (fun e=>by have:=(e k (List.mem_of_getElem? hk)).1;omega)]
   rfl
  have hg:k.1.2.2.1≤3:=by
   have:=of_decide_eq_false hg
   omega
  conv=>whnf
  refine⟨ad,rfl,⟨by omega,by omega⟩,?_⟩
  conv=>whnf
  refine⟨.slice k.2.2.1 k.2.2.2.1 k.2.2.2.2,fun ρ w' r=>?_,?_⟩
  ·simp only[addr_two];exact hld 3 _ q4 r
  conv=>whnf
  refine BrS.mk (fun hg2=>?_) (fun hg2=>?_)
  ·have hg2:3<k.2.2.2.1:=by
    have:=of_decide_eq_true hg2
    omega
   conv=>whnf
   intro ρ w2 r
   refine⟨_,rfl,hw.tr r.bel,?_⟩
   rw[decide_eq_false (fun e=>by have:=(e k (List.mem_of_getElem? hk)).2;omega)]
   rfl
  have hg2:k.2.2.2.1≤3:=by
   have:=of_decide_eq_false hg2
   omega
  have ht2:∀k∈ks.take (i+1),k.1.2.2.1≤3∧k.2.2.2.1≤3:=fun k' h'=>by
   rw[List.take_add_one,hk]at h'
   rcases List.mem_append.1 h' with h'|h'
   ·exact ht k' h'
   ·simp at h';rw[h'];exact⟨hg,hg2⟩
  conv=>whnf
  refine⟨((i+1:Nat):Int),by rw[wrap64]<;>omega,?_⟩
  conv=>whnf
  intro ρ3 w3 r3
  exact⟨(i+1,w3),⟨hib,hw.tr r3.bel,ht2⟩,Sub.gen [] r3 trivial ⟨rfl,rfl,trivial⟩ (by simp[ScH]) (by simp[ScE,SV.sc,At.sc]) (by rfl) (by simp),by dsimp only;omega⟩
 have hib:i=ks.length:=by
  have:¬i<ks.length:=by simpa using hib
  omega
 subst hib
 rw[List.take_length]at ht
 conv=>whnf
 intro ρ w2 r
 exact⟨_,rfl,hw.tr r.bel,by rw[decide_eq_true ht];rfl⟩

/-- a fraction of the api by its value; its parts are not too long -/
def RatV(w:World)(S:Nat→Prop)(v:Value)(q:Rat):Prop:=∃a b,RatR w S v a b∧ratio a b=q∧ln a.natAbs≤100000∧ln b.natAbs≤100000
theorem RatV.shape{S:Nat→Prop}{w:World}{v:Value}{q:Rat}(h:RatV w S v q):∃b a n c b2 a2 n2 c2,v= .agg #[.bool b,.slice a n c,.bool b2,.slice a2 n2 c2]:=by
 obtain⟨a,b,h1,_⟩:=h;exact h1.shape
theorem ratio_self(q:Rat):ratio q.num q.den=q:=by rw[ratio,if_neg (den_ne q),Rat.num_divInt_den]
section
variable{S S':Nat→Prop}{H:Hp}{nx:Nat}{iv iv':Iv}{B:Nat}{w w' w2:World}{ρ:Nat→Sx.Val}{v:Value}{q:Rat}
end

theorem vNormal_c{S:Nat→Prop}{w:World}{v:Value}{p:Rat}(hS:Old S w)(hp:RatV w S v p):Con PG N.exact_Normal #[v] w (Ret w fun v' w2=>RatC w2 (Nw (fun _=>False) w w2) v' p):=by
 obtain⟨a,b,h1,rfl,h2,h3⟩:=hp
 exact pubNormal_c hS h1 h2 h3
end Go.Ex

/- signs of fractions; the floor of a fraction. Plain. -/
namespace Go.Ex
end Go.Ex

/- Decimal digits: what is written and read again. Plain. -/
namespace Go.Ex
/-- the digits of a natural number -/
def dec(n:Nat):List Nat:=if h:n<10 then [48+n]else dec (n / 10)++[48+n % 10]
termination_by n
decreasing_by omega
theorem dec_small{n:Nat}(h:n<10):dec n=[48+n]:=by rw[dec,dif_pos h]
theorem dec_step{n:Nat}(h:¬n<10):dec n=dec (n / 10)++[48+n % 10]:=by rw[dec,dif_neg h]
/-- the number that digits tell -/
def vald(ds:List Nat):Nat:=ds.foldl (fun v d=>v*10+(d-48)) 0
theorem vald_snoc(ds:List Nat)(d:Nat):vald (ds++[d])=vald ds*10+(d-48):=by unfold vald;rw[List.foldl_append];rfl
def Digs(ds:List Nat):Prop:=∀d∈ds,48≤d∧d≤57
theorem Digs.append{a b:List Nat}(ha:Digs a)(hb:Digs b):Digs (a++b):=fun d hd=>(List.mem_append.1 hd).elim (ha d) (hb d)
theorem dec_digs(n:Nat):Digs (dec n):=by
 induction n using Nat.strongRecOn with
 |ind n ih=>
  by_cases h:n<10
  ·rw[dec_small h];intro d hd;rw[List.mem_singleton.1 hd];omega
  ·rw[dec_step h]
   refine(ih _ (by omega)).append fun d hd=>?_
   rw[List.mem_singleton.1 hd];omega
theorem vald_dec(n:Nat):vald (dec n)=n:=by
 induction n using Nat.strongRecOn with
 |ind n ih=>
  by_cases h:n<10
  ·rw[dec_small h];show 0*10+(48+n-48)=n;omega
  ·rw[dec_step h,vald_snoc,ih _ (by omega)];omega
theorem dec_ne(n:Nat):dec n≠[]:=by
 by_cases h:n<10
 ·rw[dec_small h];simp
 ·rw[dec_step h];simp
theorem dropWhile_append'{p:Nat→Bool}:∀{a b:List Nat},(a++b).dropWhile p=if a.dropWhile p=[]then b.dropWhile p else a.dropWhile p++b
 |[],b=>by simp
 |x::a,b=>by
  rw[List.cons_append,List.dropWhile_cons,List.dropWhile_cons]
  split
  ·exact dropWhile_append'
  ·rw[if_neg (by simp)];rfl
/-- zeros in front cut off -/
theorem strip_dec:∀{n:Nat} {ds:List Nat},ds.length=n→Digs ds→ds.dropWhile (· ==48)=if vald ds=0 then []else dec (vald ds)
 |0,ds,hl,_=>by rw[List.eq_nil_of_length_eq_zero hl];rfl
 |n+1,ds,hl,hd=>by
  obtain⟨a,d,rfl⟩:∃a d,ds=a++[d]:=⟨ds.dropLast,ds.getLast (fun e=>by rw[e]at hl;cases hl),(List.dropLast_concat_getLast _).symm⟩
  have hda:=hd d (by simp)
  have ih:=strip_dec (n:=n) (ds:=a) (by simp at hl;omega) fun x hx=>hd x (List.mem_append_left _ hx)
  rw[dropWhile_append',ih,vald_snoc]
  by_cases h0:vald a=0
  ·rw[if_pos h0,if_pos rfl,h0]
   by_cases h1:d=48
   ·subst h1;rfl
   ·rw[if_neg (by omega),dec_small (by omega)]
    have:([d]:List Nat).dropWhile (· ==48)=[d]:=by simp[h1]
    rw[this]
    congr 1;omega
  ·rw[if_neg h0,if_neg (dec_ne _),if_neg (by omega),dec_step (n:=vald a*10+(d-48)) (by omega)]
   rw[show (vald a*10+(d-48)) / 10=vald a by omega]
   congr 2;omega
/-- nine digits a piece -/
def chunks(n:Nat):List (List Nat):=if h:n=0 then []else chunks (n / 1000000000)++[nine (n % 1000000000)]
termination_by n
decreasing_by omega
theorem chunks_zero:chunks 0=[]:=by rw[chunks,dif_pos rfl]
theorem chunks_pos{n:Nat}(h:n≠0):chunks n=chunks (n / 1000000000)++[nine (n % 1000000000)]:=by rw[chunks,dif_neg h]
theorem nine_digs(n:Nat):Digs (nine n):=fun d hd=>by
 simp only[nine,List.mem_map]at hd
 obtain⟨j,_,rfl⟩:=hd
 omega
theorem vald_nine(ds:List Nat){n:Nat}(h:n<1000000000):vald (ds++nine n)=vald ds*1000000000+n:=by
 have e:nine n=[48+n / 100000000 % 10,48+n / 10000000 % 10,48+n / 1000000 % 10,48+n / 100000 % 10,48+n / 10000 % 10,48+n / 1000 % 10,48+n / 100 % 10,48+n / 10 % 10,48+n % 10]:=by
  simp[nine,List.range_succ]
 rw[e]
 unfold vald
 rw[List.foldl_append]
 generalize List.foldl (fun v d=>v*10+(d-48)) 0 ds=v
 simp only[List.foldl_cons,List.foldl_nil,Nat.add_sub_cancel_left]
 omega
theorem chunks_val(n:Nat):vald (chunks n).flatten=n∧Digs (chunks n).flatten:=by
 induction n using Nat.strongRecOn with
 |ind n ih=>
  by_cases h:n=0
  ·subst h;rw[chunks_zero];exact⟨rfl,fun d hd=>by cases hd⟩
  ·obtain⟨h1,h2⟩:=ih (n / 1000000000) (by omega)
   rw[chunks_pos h,List.flatten_append,List.flatten_cons,List.flatten_nil,List.append_nil]
   exact⟨by rw[vald_nine _ (by omega),h1];omega,h2.append (nine_digs _)⟩
theorem chunks_dec(n:Nat):(chunks n).flatten.dropWhile (· ==48)=if n=0 then []else dec n:=by
 obtain⟨h1,h2⟩:=chunks_val n
 rw[strip_dec rfl h2,h1]
end Go.Ex

/- Contracts off the library's shelf, laid at the program: strings.Join, CutPrefix, Index at one byte. No condition but sizes. Written by program. -/
namespace Go.Ex
open Go Go.Sx Go.Proofs Go.Shelf Go.RowKit
def sh_lays156_ren:Go.Shelf.Ren:=⟨fun|156=>172|165=>193|166=>194|169=>195|240=>204|241=>205|276=>208|277=>209|n=>n,fun|31=>201|9=>9|3=>3|4=>4|0=>0|20=>20|72=>225|76=>228|70=>223|37=>203|75=>227|127=>239|164=>241|5=>5|80=>126|n=>n,fun|n=>n⟩
theorem sh_lays156:Go.Proofs.Lays.n156 Tryz.prog sh_lays156_ren:={
 mixed:=by kernel_rfl
 f156:=Tryz.func172.trans (congrArg some (by kernel_rfl))
 f165:=Tryz.func193.trans (congrArg some (by kernel_rfl))
 f166:=Tryz.func194.trans (congrArg some (by kernel_rfl))
 f169:=Tryz.func195.trans (congrArg some (by kernel_rfl))
 f240:=Tryz.func204.trans (congrArg some (by kernel_rfl))
 f241:=Tryz.func205.trans (congrArg some (by kernel_rfl))
 f276:=Tryz.func208.trans (congrArg some (by kernel_rfl))
 f277:=Tryz.func209.trans (congrArg some (by kernel_rfl))
 t0:=Tryz.underlying0
 a0:=Tryz.isAgg0
 z0:=Tryz.sizeOf0
 v0:=Tryz.zeroValue0
 t3:=Tryz.underlying3
 a3:=Tryz.isAgg3
 z3:=Tryz.sizeOf3
 v3:=Tryz.zeroValue3
 t4:=Tryz.underlying4
 a4:=Tryz.isAgg4
 z4:=Tryz.sizeOf4
 v4:=Tryz.zeroValue4
 t9:=Tryz.underlying9
 a9:=Tryz.isAgg9
 z9:=Tryz.sizeOf9
 v9:=Tryz.zeroValue9
 t20:=Tryz.underlying20
 a20:=Tryz.isAgg20
 z20:=Tryz.sizeOf20
 v20:=Tryz.zeroValue20
 t31:=Tryz.underlying201
 a31:=Tryz.isAgg201
 z31:=Tryz.sizeOf201
 v31:=Tryz.zeroValue201
 t37:=Tryz.underlying203
 a37:=Tryz.isAgg203
 z37:=Tryz.sizeOf203
 v37:=Tryz.zeroValue203
 t70:=Tryz.underlying223
 a70:=Tryz.isAgg223
 z70:=Tryz.sizeOf223
 v70:=Tryz.zeroValue223
 t72:=Tryz.underlying225
 a72:=Tryz.isAgg225
 z72:=Tryz.sizeOf225
 v72:=Tryz.zeroValue225
 t75:=Tryz.underlying227
 a75:=Tryz.isAgg227
 z75:=Tryz.sizeOf227
 v75:=Tryz.zeroValue227
 t76:=Tryz.underlying228
 a76:=Tryz.isAgg228
 z76:=Tryz.sizeOf228
 v76:=Tryz.zeroValue228
 t127:=Tryz.underlying239
 a127:=Tryz.isAgg239
 z127:=Tryz.sizeOf239
 v127:=Tryz.zeroValue239
 t164:=Tryz.underlying241
 a164:=Tryz.isAgg241
 z164:=Tryz.sizeOf241
 v164:=Tryz.zeroValue241}
theorem sh_Builder_Extra_156:Builder.Extra Tryz.prog sh_lays156_ren:={
 sizeBuilder:=by kernel_rfl
 liesBuilder:=by kernel_rfl
 t5:=Tryz.underlying5
 a5:=Tryz.isAgg5
 z5:=Tryz.sizeOf5
 v5:=Tryz.zeroValue5
 infoByte:=by kernel_rfl
 cellsByte:=by kernel_rfl
 sizeByte:=by kernel_rfl
 neB5:=by decide}
open Go.RowKit in
open Go.RowKit in
theorem sh_strings_Join(bk o c:Nat)(xs:List ByteArray)(sep:ByteArray)(w:World)(hcells:∀(j:Nat) x,xs[j]? =some x→w.cell? ⟨bk,o+j,none⟩=some (.string x))(hbk:bk<w.heap.size)(hN:xs.length≤140737488355328)(hcap:xs.length≤c)(hlen:(Lib.join (xs.map (·.data.toList)) sep.data.toList).length≤140737488355328):
  Calls Tryz.prog 172 #[.slice (some ⟨bk,o,none⟩) xs.length c,.string sep] w fun e w'=>e= .returned (.string ⟨(Lib.join (xs.map (·.data.toList)) sep.data.toList).toArray⟩)∧Below w.heap.size w w':=Any.strings_Join sh_lays156 sh_Builder_Extra_156 bk o c xs sep w hcells hbk hN hcap hlen
def sh_lays103_ren:Go.Shelf.Ren:=⟨fun|103=>81|210=>128|206=>164|n=>n,fun|9=>9|4=>4|24=>118|3=>3|n=>n,fun|n=>n⟩
theorem sh_lays103:Go.Proofs.Lays.n103 Tryz.prog sh_lays103_ren:={
 mixed:=by kernel_rfl
 f103:=Tryz.func81.trans (congrArg some (by kernel_rfl))
 f206:=Tryz.func164.trans (congrArg some (by kernel_rfl))
 f210:=Tryz.func128.trans (congrArg some (by kernel_rfl))
 t3:=Tryz.underlying3
 a3:=Tryz.isAgg3
 z3:=Tryz.sizeOf3
 v3:=Tryz.zeroValue3
 t4:=Tryz.underlying4
 a4:=Tryz.isAgg4
 z4:=Tryz.sizeOf4
 v4:=Tryz.zeroValue4
 t9:=Tryz.underlying9
 a9:=Tryz.isAgg9
 z9:=Tryz.sizeOf9
 v9:=Tryz.zeroValue9
 t24:=Tryz.underlying118
 a24:=Tryz.isAgg118
 z24:=Tryz.sizeOf118
 v24:=Tryz.zeroValue118}
open Go.RowKit in
theorem sh_strings_CutPrefix(s p:ByteArray)(w:World):
  Calls Tryz.prog 81 #[.string s,.string p] w fun e w'=>e= .returned (.tuple #[.string ⟨(Lib.trimPrefix s.data.toList p.data.toList).toArray⟩,.bool (Lib.hasPrefix s.data.toList p.data.toList)])∧w'=w:=Any.strings_CutPrefix sh_lays103 s p w
def sh_lays219_ren:Go.Shelf.Ren:=⟨fun|219=>165|217=>183|225=>184|224=>185|267=>186|266=>199|314=>200|n=>n,fun|9=>9|3=>3|4=>4|5=>5|46=>182|146=>195|51=>124|n=>n,fun|1=>0|n=>n⟩
theorem sh_lays219:Go.Proofs.Lays.n219 Tryz.prog sh_lays219_ren:={
 mixed:=by kernel_rfl
 f217:=Tryz.func183.trans (congrArg some (by kernel_rfl))
 f219:=Tryz.func165.trans (congrArg some (by kernel_rfl))
 f224:=Tryz.func185.trans (congrArg some (by kernel_rfl))
 f225:=Tryz.func184.trans (congrArg some (by kernel_rfl))
 f266:=Tryz.func199.trans (congrArg some (by kernel_rfl))
 f267:=Tryz.func186.trans (congrArg some (by kernel_rfl))
 f314:=Tryz.func200.trans (congrArg some (by kernel_rfl))
 t3:=Tryz.underlying3
 a3:=Tryz.isAgg3
 z3:=Tryz.sizeOf3
 v3:=Tryz.zeroValue3
 t4:=Tryz.underlying4
 a4:=Tryz.isAgg4
 z4:=Tryz.sizeOf4
 v4:=Tryz.zeroValue4
 t5:=Tryz.underlying5
 a5:=Tryz.isAgg5
 z5:=Tryz.sizeOf5
 v5:=Tryz.zeroValue5
 t9:=Tryz.underlying9
 a9:=Tryz.isAgg9
 z9:=Tryz.sizeOf9
 v9:=Tryz.zeroValue9
 t46:=Tryz.underlying182
 a46:=Tryz.isAgg182
 z46:=Tryz.sizeOf182
 v46:=Tryz.zeroValue182
 t51:=Tryz.underlying124
 a51:=Tryz.isAgg124
 z51:=Tryz.sizeOf124
 v51:=Tryz.zeroValue124
 t146:=Tryz.underlying195
 a146:=Tryz.isAgg195
 z146:=Tryz.sizeOf195
 v146:=Tryz.zeroValue195
 g1:=by kernel_rfl}
open Go.RowKit Go.Lib in
theorem sh_stringslite_Index_one(s:ByteArray)(c:UInt8)(w:World):
  Calls Tryz.prog 165 #[.string s,.string ⟨#[c]⟩] w fun e w'=>e= .returned (.int .i64 (Lib.indexByte s.data.toList c))∧w'=w:=Any.stringslite_Index_one sh_lays219 s c w

theorem join_flat:∀(xs:List (List UInt8)),Lib.join xs []=xs.flatten
 |[]=>rfl
 |[x]=>by simp[Lib.join,List.intercalate]
 |x::y::r=>by
  have ih:=join_flat (y::r)
  unfold Lib.join List.intercalate at ih ⊢
  rw[List.intersperse_cons_cons,List.flatten_cons,List.flatten_cons,ih]
  simp
theorem join_s{bk o c:Nat}{xs:List (List Nat)}{w:World}(hcells:∀(j:Nat) x,xs[j]? =some x→w.cell? ⟨bk,o+j,none⟩=some (.string (strOf x)))(hbk:bk<w.heap.size)(hN:xs.length≤140737488355328)(hcap:xs.length≤c)(hlen:xs.flatten.length≤140737488355328):
  Con PG N.strings_Join #[.slice (some ⟨bk,o,none⟩) xs.length c,.string ⟨#[]⟩] w (Ret w fun v _=>v= .string (strOf xs.flatten)):=by
 have e:Lib.join ((xs.map strOf).map (·.data.toList)) (⟨#[]⟩:ByteArray).data.toList=xs.flatten.map UInt8.ofNat:=by
  show Lib.join _ []=_
  rw[join_flat,List.map_map,List.map_flatten]
  congr 1
  exact List.map_congr_left fun x _=>by show(strOf x).data.toList=_;rw[strOf_data]
 have h:=sh_strings_Join bk o c (xs.map strOf) ⟨#[]⟩ w (fun j x hx=>by
  rw[List.getElem?_map]at hx
  obtain⟨y,hy,rfl⟩:=Option.map_eq_some_iff.1 hx
  exact hcells j y hy) hbk (by rw[List.length_map];exact hN) (by rw[List.length_map];exact hcap) (by rw[e,List.length_map];exact hlen)
 rw[List.length_map]at h
 refine⟨enters_of Tryz.func172 (by rfl) (by rfl),h.mono fun en w2 ⟨h1,h2⟩=>⟨_,h1,h2,?_⟩⟩
 rw[e,←strOf_data]
theorem cutPrefix_s(bs:List Nat)(w:World)(hb:∀b∈bs,b<256):Con PG N.strings_CutPrefix #[.string (strOf bs),.string ⟨#[45]⟩] w (Ret w fun v _=>v= .tuple #[.string (strOf (if bs.head? =some 45 then bs.tail else bs)),.bool (decide (bs.head? =some 45))]):=by
 refine⟨enters_of Tryz.func81 (by rfl) (by rfl),(sh_strings_CutPrefix (strOf bs) ⟨#[45]⟩ w).mono fun en w2 ⟨h1,h2⟩=>⟨_,h1,h2▸Below.refl _ _,?_⟩⟩
 have hp:Lib.hasPrefix (strOf bs).data.toList [45]=decide (bs.head? =some 45):=by
  rw[strOf_data]
  cases bs with
  |nil=>rfl
  |cons b r=>
   have:=hb b List.mem_cons_self
   show(45==UInt8.ofNat b&&_)=_
   have e:(45==UInt8.ofNat b)=decide (b=45):=by
    by_cases h:b=45
    ·subst h;rfl
    ·rw[decide_eq_false h,beq_eq_false_iff_ne]
     intro k
     have:=congrArg UInt8.toNat k
     simp at this
     omega
   rw[e]
   simp
 show Value.tuple #[.string ⟨(Lib.trimPrefix (strOf bs).data.toList [45]).toArray⟩,.bool (Lib.hasPrefix (strOf bs).data.toList [45])]=_
 unfold Lib.trimPrefix
 rw[hp]
 by_cases h:bs.head? =some 45
 ·rw[decide_eq_true h,if_pos rfl,if_pos h,strOf_data]
  have:(⟨(List.drop 1 (bs.map UInt8.ofNat)).toArray⟩:ByteArray)=strOf bs.tail:=by
   apply ByteArray.ext
   rw[strOf_data]
   cases bs<;>rfl
  rw[←this]
  rfl
 ·rw[decide_eq_false h,if_neg (by decide),if_neg h]
/-- where the byte 47 first stands, or -1 -/
def slashAt(bs:List Nat):Int:=if 47∈bs then(bs.findIdx (· ==47):Int)else -1
theorem indexByte_slash:∀(bs:List Nat),(∀b∈bs,b<256)→Lib.indexByte (bs.map UInt8.ofNat) 47=slashAt bs
 |[],_=>rfl
 |b::r,hb=>by
  have ih:=indexByte_slash r fun x hx=>hb x (List.mem_cons_of_mem _ hx)
  have:=hb b List.mem_cons_self
  rw[List.map_cons]
  unfold Lib.indexByte
  rw[ih]
  unfold slashAt
  by_cases h:b=47
  ·subst h;rfl
  ·have e:(UInt8.ofNat b==47)=false:=by
    rw[beq_eq_false_iff_ne]
    intro k
    have:=congrArg UInt8.toNat k
    simp at this
    omega
   rw[e]
   by_cases h2:47∈r
   ·rw[if_pos h2,if_pos (List.mem_cons_of_mem _ h2),List.findIdx_cons]
    have e2:(b==47)=false:=by simpa using h
    rw[e2]
    have e3:((List.findIdx (fun x=>x==47) r:Int)== -1)=false:=by rw[beq_eq_false_iff_ne];omega
    simp[e3]
   ·have h3:47∉b::r:=fun hm=>(List.mem_cons.1 hm).elim (fun k=>h k.symm) h2
    rw[if_neg h2,if_neg h3];rfl
theorem index1_s(bs:List Nat)(w:World)(hb:∀b∈bs,b<256):Con PG N.stringslite_Index #[.string (strOf bs),.string ⟨#[47]⟩] w (Ret w fun v _=>v= .int .i64 (slashAt bs)):=by
 refine⟨enters_of Tryz.func165 (by rfl) (by rfl),(sh_stringslite_Index_one (strOf bs) 47 w).mono fun en w2 ⟨h1,h2⟩=>⟨_,h1,h2▸Below.refl _ _,?_⟩⟩
 rw[strOf_data]
 show Value.int .i64 (Lib.indexByte (bs.map UInt8.ofNat) 47)=_
 rw[indexByte_slash bs hb]
end Go.Ex

/- The reference's integers: columns, Int, Minus, Size, at, Sum, Diff, Sign, CmpInt. Printed by program. No condition but sizes. -/
namespace Go.Ex
open Go Go.Sx Go.Proofs

/-- an integer with at most so many limbs -/
def IntL(w:World)(S:Nat→Prop)(v:Value)(k:Nat)(z:Int):Prop:=∃neg ls,IntV w S v neg ls∧sg neg (val ls)=z∧ls.length≤k
theorem IntL.keep{S:Nat→Prop}{w w2:World}{v:Value}{k:Nat}{z:Int}(h:IntL w S v k z)(hk:∀g,S g→w2.heap[g]? =w.heap[g]?):IntL w2 S v k z:=by
 obtain⟨n,l,h1,h2⟩:=h;exact⟨n,l,h1.keep hk,h2⟩
theorem IntL.weak{S S':Nat→Prop}{w:World}{v:Value}{k:Nat}{z:Int}(h:IntL w S v k z)(hk:∀g,S g→S' g):IntL w S' v k z:=by
 obtain⟨n,l,h1,h2⟩:=h;exact⟨n,l,h1.weak hk,h2⟩
theorem IntL.r{S:Nat→Prop}{w:World}{v:Value}{k:Nat}{z:Int}(h:IntL w S v k z):IntR w S v z:=by
 obtain⟨n,l,h1,h2,_⟩:=h;exact⟨n,l,h1,h2⟩
theorem IntL.up{S:Nat→Prop}{w:World}{v:Value}{k k':Nat}{z:Int}(h:IntL w S v k z)(hk:k≤k'):IntL w S v k' z:=by
 obtain⟨n,l,h1,h2,h3⟩:=h;exact⟨n,l,h1,h2,by omega⟩
theorem IntL.shape{S:Nat→Prop}{w:World}{v:Value}{k:Nat}{z:Int}(h:IntL w S v k z):∃b a n c,v= .agg #[.bool b,.slice a n c]:=h.r.shape
theorem IntC.l{S:Nat→Prop}{w:World}{v:Value}{k:Nat}{z:Int}(h:IntC w S v z)(hk:ln z.natAbs≤k):IntL w S v k z:=by
 obtain⟨l,h1,h2,h3⟩:=h
 obtain⟨_,_,hl⟩:=h1
 have:=length_ln hl.lm h2
 rw[h3]at this
 exact⟨_,l,⟨_,‹_›,hl⟩,by rw[h3,sg_natAbs],by omega⟩
section
variable{S S':Nat→Prop}{H:Hp}{nx:Nat}{iv iv':Iv}{B:Nat}{w w' w2:World}{ρ:Nat→Sx.Val}{v:Value}{k:Nat}{z:Int}
theorem IntL.rel(h:IntL w (Cv S B iv) v k z)(r:Rel H nx iv B w ρ w')(hS:∀g,S g→g<B):IntL w' (Cv S B iv) v k z:=h.keep fun _ hg=>Rel.same r hS hg
theorem IntL.past(h:IntL w (Cv S B iv) v k z)(r:Rel H nx iv B w ρ w')(hS:∀g,S g→g<B)(he:Ext w' w2)(hm:∀p,p∈iv→p∈iv'):IntL w2 (Cv S B iv') v k z:=
 ((h.rel r hS).keep fun g hg=>he.block g (Rel.old r hS g hg)).weak fun _ hg=>hg.mono hm
end
section
variable{S S':Nat→Prop}{H:Hp}{nx:Nat}{iv iv':Iv}{B:Nat}{w w' w2:World}{ρ:Nat→Sx.Val}{v:Value}{cs:List Int}
theorem ColsR.rel(h:ColsR w (Cv S B iv) v cs)(r:Rel H nx iv B w ρ w')(hS:∀g,S g→g<B):ColsR w' (Cv S B iv) v cs:=ColsR.keep h fun _ hg=>Rel.same r hS hg
theorem ColsR.past(h:ColsR w (Cv S B iv) v cs)(r:Rel H nx iv B w ρ w')(hS:∀g,S g→g<B)(he:Ext w' w2)(hm:∀p,p∈iv→p∈iv'):ColsR w2 (Cv S B iv') v cs:=
 (ColsR.keep (h.rel r hS) fun g hg=>he.block g (Rel.old r hS g hg)).weak fun _ hg=>hg.mono hm
theorem ColsR.got(h:ColsR w2 (Nw (fun _=>False) w' w2) v cs)(hB:B≤w'.heap.size)(hm:(w'.heap.size,w2.heap.size)∈iv):ColsR w2 (Cv S B iv) v cs:=ColsR.weak h fun _ hg=>hg.got hB hm
end

def sgn(b:Bool):Int:=if b then -1 else 1
theorem sgn_or(b:Bool):sgn b=1∨sgn b= -1:=by cases b<;>simp[sgn]
theorem sgn_val(b:Bool)(n:Nat):sgn b*(n:Int)=sg b n:=by cases b<;>simp[sgn,sg]
theorem rcolumns_c{S:Nat→Prop}{w:World}{v:Value}{neg:Bool}{ls:List Nat}(hS:Old S w)(h:IntV w S v neg ls)(hl:ls.length≤40000000):
  Con PG N.ref01_columns #[v] w (Ret w fun v' w2=>ColsR w2 (Nw (fun _=>False) w w2) v' (limbCols (sgn neg) ls)):=by
 obtain⟨lv,rfl,hL⟩:=h
 have hlm:=hL.lm
 obtain⟨a,c,rfl,hc,hcell⟩:=hL.sl
 refine in_ref01_columns (by simp) ?_
 conv=>whnf
 cases neg with
 |true=>
  conv=>whnf
  refine⟨Nat×World,fun z=>⟨[(1,.o (.p 0 0)),(3,.o (.v (.int .i64 (-1)))),(4,.o (.w 1 (2*z.1))),(5,.o (.v (.int .i64 z.1)))],[(1,.vec T.int 1 ((limbCols (-1) (ls.take z.1)).map (Value.int .i64))),(0,.box T.Int [.v (.bool true),.v (.slice a ls.length c)])],2,[],z.2⟩,fun z=>ls.length-z.1,
   fun z=>Bel w.heap.size w z.2∧z.1≤ls.length,?_,?_⟩
  ·intro ρ w' r
   exact⟨(0,w'),⟨r.bel,by simp⟩,Sub.nil 4 T.int 1 rfl (by simp[ScE,SV.sc,At.sc,initE]) r fun ρ1 r1=>
    Sub.gen [] r1 ⟨rfl,rfl,trivial⟩ ⟨rfl,rfl,rfl,rfl,trivial⟩ (by simp[ScH,Blk.scopd,At.sc]) (by simp[ScE,SV.sc,At.sc]) (by rfl) (by simp)⟩
  rintro⟨i,w1⟩ ⟨hw,hi⟩
  dsimp only at hw hi ⊢
  have hln:((limbCols (-1) (ls.take i)).map (Value.int .i64)).length=2*i:=by rw[List.length_map,limbCols_length,List.length_take];omega
  conv=>whnf
  refine BrS.mk (fun h=>?_) (fun h=>?_)
  ·have h:i<ls.length:=by simpa using h
   obtain⟨x,hx⟩:∃x,ls[i]? =some x:=⟨_,List.getElem?_eq_getElem h⟩
   have hx32:=hlm x (List.mem_of_getElem? hx)
   obtain⟨ad,rfl,q1,q2⟩:=hcell i x hx
   have htk:limbCols (-1) (ls.take (i+1))=limbCols (-1) (ls.take i)++[(-1)*((x % 65536:Nat):Int),(-1)*((x / 65536:Nat):Int)]:=by rw[List.take_add_one,hx,Option.toList_some,limbCols_append];rfl
   conv=>whnf
   refine⟨ad,rfl,⟨by omega,by omega⟩,?_⟩
   conv=>whnf
   refine⟨.int .u32 x,fun ρ w' r=>?_,?_⟩
   ·rw[Int.toNat_natCast,Nat.mul_one];exact cellS hS hw r q1 q2
   conv=>whnf
   refine⟨(x:Int),by rw[wrap64]<;>omega,?_⟩
   conv=>whnf
   refine⟨by decide,((x % 65536:Nat):Int),rfl,?_⟩
   conv=>whnf
   refine⟨(-1)*((x % 65536:Nat):Int),by rw[wrap64]<;>omega,?_⟩
   conv=>whnf
   refine⟨by decide,((x / 65536:Nat):Int),by rw[show (x:Int).tdiv 65536=((x / 65536:Nat):Int)from rfl,wrap64]<;>omega,?_⟩
   conv=>whnf
   refine⟨(-1)*((x / 65536:Nat):Int),by rw[wrap64]<;>omega,?_⟩
   conv=>whnf
   refine .inl ?_
   conv=>whnf
   refine⟨by rw[hln,Nat.mul_one],by omega,by unfold maxLen;omega,?_⟩
   conv=>whnf
   refine⟨((i+1:Nat):Int),by rw[wrap64]<;>omega,?_⟩
   conv=>whnf
   intro ρ3 w3 r3
   have hm5:(limbCols (-1) (ls.take (i+1))).map (Value.int .i64)=(limbCols (-1) (ls.take i)).map (Value.int .i64)++[.int .i64 ((-1)*((x % 65536:Nat):Int)),.int .i64 ((-1)*((x / 65536:Nat):Int))]:=by
    rw[htk];simp
   exact⟨(i+1,w3),⟨hw.tr r3.bel,by dsimp only;omega⟩,Sub.gen [(1,3)] r3 ⟨by dsimp only;rw[hm5];rfl,rfl,trivial⟩ ⟨rfl,rfl,rfl,rfl,trivial⟩ (by simp[ScH,Blk.scopd,At.sc]) (by simp[ScE,SV.sc,At.sc]) (by rfl) (fun lo hi h=>h),by dsimp only;omega⟩
  have h:i=ls.length:=by
   have:¬i<ls.length:=by simpa using h
   omega
  subst h
  rw[List.take_length]at hln ⊢
  conv=>whnf
  intro ρe we re
  have hrow:=re.vecRow (id:=1) (m:=2*ls.length) rfl (by rw[hln,Nat.mul_one]) (by decide)
  have hcols:=rowCols hrow (by rw[limbCols_length]) (by unfold maxLen;omega)
  refine⟨_,rfl,hw.tr re.bel,ColsR.weak hcols fun g hg=>.inr ?_⟩
  have:=ownsRow.low hrow g hg
  exact this
 |false=>
  conv=>whnf
  refine⟨Nat×World,fun z=>⟨[(1,.o (.p 0 0)),(3,.o (.v (.int .i64 (1)))),(4,.o (.w 1 (2*z.1))),(5,.o (.v (.int .i64 z.1)))],[(1,.vec T.int 1 ((limbCols (1) (ls.take z.1)).map (Value.int .i64))),(0,.box T.Int [.v (.bool false),.v (.slice a ls.length c)])],2,[],z.2⟩,fun z=>ls.length-z.1,
   fun z=>Bel w.heap.size w z.2∧z.1≤ls.length,?_,?_⟩
  ·intro ρ w' r
   exact⟨(0,w'),⟨r.bel,by simp⟩,Sub.nil 4 T.int 1 rfl (by simp[ScE,SV.sc,At.sc,initE]) r fun ρ1 r1=>
    Sub.gen [] r1 ⟨rfl,rfl,trivial⟩ ⟨rfl,rfl,rfl,rfl,trivial⟩ (by simp[ScH,Blk.scopd,At.sc]) (by simp[ScE,SV.sc,At.sc]) (by rfl) (by simp)⟩
  rintro⟨i,w1⟩ ⟨hw,hi⟩
  dsimp only at hw hi ⊢
  have hln:((limbCols (1) (ls.take i)).map (Value.int .i64)).length=2*i:=by rw[List.length_map,limbCols_length,List.length_take];omega
  conv=>whnf
  refine BrS.mk (fun h=>?_) (fun h=>?_)
  ·have h:i<ls.length:=by simpa using h
   obtain⟨x,hx⟩:∃x,ls[i]? =some x:=⟨_,List.getElem?_eq_getElem h⟩
   have hx32:=hlm x (List.mem_of_getElem? hx)
   obtain⟨ad,rfl,q1,q2⟩:=hcell i x hx
   have htk:limbCols (1) (ls.take (i+1))=limbCols (1) (ls.take i)++[(1)*((x % 65536:Nat):Int),(1)*((x / 65536:Nat):Int)]:=by rw[List.take_add_one,hx,Option.toList_some,limbCols_append];rfl
   conv=>whnf
   refine⟨ad,rfl,⟨by omega,by omega⟩,?_⟩
   conv=>whnf
   refine⟨.int .u32 x,fun ρ w' r=>?_,?_⟩
   ·rw[Int.toNat_natCast,Nat.mul_one];exact cellS hS hw r q1 q2
   conv=>whnf
   refine⟨(x:Int),by rw[wrap64]<;>omega,?_⟩
   conv=>whnf
   refine⟨by decide,((x % 65536:Nat):Int),rfl,?_⟩
   conv=>whnf
   refine⟨(1)*((x % 65536:Nat):Int),by rw[wrap64]<;>omega,?_⟩
   conv=>whnf
   refine⟨by decide,((x / 65536:Nat):Int),by rw[show (x:Int).tdiv 65536=((x / 65536:Nat):Int)from rfl,wrap64]<;>omega,?_⟩
   conv=>whnf
   refine⟨(1)*((x / 65536:Nat):Int),by rw[wrap64]<;>omega,?_⟩
   conv=>whnf
   refine .inl ?_
   conv=>whnf
   refine⟨by rw[hln,Nat.mul_one],by omega,by unfold maxLen;omega,?_⟩
   conv=>whnf
   refine⟨((i+1:Nat):Int),by rw[wrap64]<;>omega,?_⟩
   conv=>whnf
   intro ρ3 w3 r3
   have hm5:(limbCols (1) (ls.take (i+1))).map (Value.int .i64)=(limbCols (1) (ls.take i)).map (Value.int .i64)++[.int .i64 ((1)*((x % 65536:Nat):Int)),.int .i64 ((1)*((x / 65536:Nat):Int))]:=by
    rw[htk];simp
   exact⟨(i+1,w3),⟨hw.tr r3.bel,by dsimp only;omega⟩,Sub.gen [(1,3)] r3 ⟨by dsimp only;rw[hm5];rfl,rfl,trivial⟩ ⟨rfl,rfl,rfl,rfl,trivial⟩ (by simp[ScH,Blk.scopd,At.sc]) (by simp[ScE,SV.sc,At.sc]) (by rfl) (fun lo hi h=>h),by dsimp only;omega⟩
  have h:i=ls.length:=by
   have:¬i<ls.length:=by simpa using h
   omega
  subst h
  rw[List.take_length]at hln ⊢
  conv=>whnf
  intro ρe we re
  have hrow:=re.vecRow (id:=1) (m:=2*ls.length) rfl (by rw[hln,Nat.mul_one]) (by decide)
  have hcols:=rowCols hrow (by rw[limbCols_length]) (by unfold maxLen;omega)
  refine⟨_,rfl,hw.tr re.bel,ColsR.weak hcols fun g hg=>.inr ?_⟩
  have:=ownsRow.low hrow g hg
  exact this
end Go.Ex

/- The reference's integers: Int, Minus, Size, at, Sign. Printed by program. No condition but sizes. -/
namespace Go.Ex
open Go Go.Sx Go.Proofs

/-- columns of a number -/
def ColB(cs:List Int)(n:Nat)(z:Int):Prop:=colval cs=z∧cs.length≤n∧(∀c∈cs,-65535≤c∧c≤65535)∧(0≤z→∀c∈cs,0≤c)
theorem limbCols_zero(s:Int){ls:List Nat}(h:val ls=0):∀c∈limbCols s ls,c=0:=fun c hc=>by
 induction ls with
 |nil=>cases hc
 |cons l r ih=>
  have h:l+4294967296*val r=0:=h
  have h1:l=0:=by omega
  have h2:val r=0:=by omega
  subst h1
  rw[limbCols]at hc
  rcases List.mem_cons.1 hc with rfl|hc
  ·simp
  rcases List.mem_cons.1 hc with rfl|hc
  ·simp
  ·exact ih h2 hc
theorem IntL.limbs{S:Nat→Prop}{w:World}{v:Value}{k:Nat}{z:Int}(h:IntL w S v k z):∃b a ls c,v= .agg #[.bool b,.slice a ls.length c]∧Limbs w S (.slice a ls.length c) ls∧sg b (val ls)=z∧ls.length≤k:=by
 obtain⟨b,ls,⟨lv,rfl,hl⟩,hz,hk⟩:=h
 obtain⟨a,c,rfl,_⟩:=hl.sl
 exact⟨b,a,ls,c,rfl,hl,hz,hk⟩
theorem IntL.ln{S:Nat→Prop}{w:World}{v:Value}{k:Nat}{z:Int}(h:IntL w S v k z):ln z.natAbs≤k:=by
 obtain⟨b,a,ls,c,_,hl,hz,hk⟩:=h.limbs
 rw[←hz,sg_abs]
 exact ln_limbs hl.lm hk
theorem IntL.neg{S:Nat→Prop}{w:World}{lv:Value}{b:Bool}{k:Nat}{z:Int}(h:IntL w S (.agg #[.bool b,lv]) k z):IntL w S (.agg #[.bool (!b),lv]) k (-z):=by
 obtain⟨b,ls,⟨lv,e,hl⟩,hz,hk⟩:=h
 simp only[Value.agg.injEq,Array.mk.injEq,List.cons.injEq,Value.bool.injEq,and_true]at e
 obtain⟨rfl,rfl⟩:=e
 refine⟨_,ls,⟨_,rfl,hl⟩,?_,hk⟩
 rw[←hz]
 cases b<;>simp[sg]
theorem IntL.abs{S:Nat→Prop}{w:World}{lv:Value}{b:Bool}{k:Nat}{z:Int}(h:IntL w S (.agg #[.bool b,lv]) k z):IntL w S (.agg #[.bool false,lv]) k (z.natAbs:Int):=by
 obtain⟨b,ls,⟨lv,e,hl⟩,hz,hk⟩:=h
 simp only[Value.agg.injEq,Array.mk.injEq,List.cons.injEq,Value.bool.injEq,and_true]at e
 obtain⟨rfl,rfl⟩:=e
 exact⟨_,ls,⟨_,rfl,hl⟩,by rw[←hz,sg_abs];rfl,hk⟩
theorem rcols_c{S:Nat→Prop}{w:World}{v:Value}{k:Nat}{z:Int}(hS:Old S w)(h:IntL w S v k z)(hk:k≤40000000):
  Con PG N.ref01_columns #[v] w (Ret w fun v' w2=>∃cs,ColsR w2 (Nw (fun _=>False) w w2) v' cs∧ColB cs (2*k) z):=by
 obtain⟨b,ls,hi,hz,hl⟩:=h
 have hlm:Lm ls:=by obtain⟨_,_,h⟩:=hi;exact h.lm
 refine(rcolumns_c hS hi (by omega)).mono fun _ w2 ⟨v2,e1,e2,e3⟩=>⟨v2,e1,e2,_,e3,by rw[limbCols_val,sgn_val,hz],by rw[limbCols_length];omega,limbCols_bound (sgn_or b) hlm,fun h0=>?_⟩
 cases b with
 |false=>exact fun c hc=>(limbCols_digits hlm c hc).1
 |true=>
  rw[sg_t]at hz
  exact fun c hc=>by rw[limbCols_zero _ (show val ls=0 by omega) c hc];decide
theorem rsettled_c{S:Nat→Prop}{w:World}{v:Value}{cs:List Int}{n:Nat}{z:Int}(hS:Old S w)(h:ColsR w S v cs)(hb:ColB cs n z)(hn:n≤100000000):
  Con PG N.ref01_settled #[v] w (Ret w fun v' w2=>IntC w2 (Nw (fun _=>False) w w2) v' z):=by
 have:=settled_c hS h (fun c hc=>by have:=hb.2.2.1 c hc;omega) (by have:=hb.2.1;omega)
 rw[hb.1]at this
 exact this
theorem rInt_c{S:Nat→Prop}{w:World}{v:Value}{k:Nat}{x:Int}(hS:Old S w)(hx:IntL w S v k x)(hk:k≤40000000):
  Con PG N.ref01_Int #[v] w (Ret w fun v' w2=>IntC w2 (Nw (fun _=>False) w w2) v' x):=by
 have hw:Bel w.heap.size w w:=Bel.refl
 replace hx:=hx.weak (S':=Cv S w.heap.size []) fun _ h=>.inl h
 obtain⟨b1,a1,n1,c1,rfl⟩:=hx.shape
 refine in_ref01_Int (by simp) ?_
 conv=>whnf
 refine callE_S (callE_con (Φ:=fun _ w' v w2=>∃cs,ColsR w2 (Nw (fun _=>False) w' w2) v cs∧ColB cs (2*k) (x)) (fun ρ w' r=>rcols_c (Rel.old r hS) (hx.rel r hS) (by omega)) ?_)
 rintro ρ wa1 v1 wb1 r he hb ⟨cs,k1,bcs⟩
 replace hw:=hw.tr hb
 clear hx
 have hc:=k1.got (S:=fun _=>False) r.baseLe (iv:=(wa1.heap.size,wb1.heap.size)::[]) List.mem_cons_self
 clear r he hb
 generalize (wa1.heap.size,wb1.heap.size)::[]=iv1 at*
 clear k1
 obtain⟨acs,ccs,rfl,lcs⟩:=hc.shape
 conv=>whnf
 refine callE_S (callE_con (Φ:=fun _ w' v w2=>IntC w2 (Nw (fun _=>False) w' w2) v (x)) (fun ρ w' r=>rsettled_c (Rel.old r (oldF w)) (hc.rel r (oldF w)) bcs (by omega)) ?_)
 rintro ρ wa2 v2 wb2 r he hb hn
 replace hw:=hw.tr hb
 clear hc
 have hC:=hn.got (S:=fun _=>False) r.baseLe (iv:=(wa2.heap.size,wb2.heap.size)::iv1) List.mem_cons_self
 clear r he hb hn
 generalize (wa2.heap.size,wb2.heap.size)::iv1=iv2 at*
 obtain⟨s2_0,s2_1,s2_2,s2_3,rfl⟩:=hC.shape
 conv=>whnf
 intro ρe we re
 exact⟨_,rfl,hw.tr re.bel,hC.out re (oldF w)⟩
theorem rMinus_c{S:Nat→Prop}{w:World}{v:Value}{k:Nat}{x:Int}(hS:Old S w)(hx:IntL w S v k x)(hk:k≤40000000):
  Con PG N.ref01_Minus #[v] w (Ret w fun v' w2=>IntC w2 (Nw (fun _=>False) w w2) v' (-x)):=by
 have hw:Bel w.heap.size w w:=Bel.refl
 replace hx:=hx.weak (S':=Cv S w.heap.size []) fun _ h=>.inl h
 obtain⟨b1,a1,n1,c1,rfl⟩:=hx.shape
 replace hx:=hx.neg
 refine in_ref01_Minus (by simp) ?_
 conv=>whnf
 refine callE_S (callE_con (Φ:=fun _ w' v w2=>IntC w2 (Nw (fun _=>False) w' w2) v (-x)) (fun ρ w' r=>rInt_c (Rel.old r hS) (hx.rel r hS) hk) ?_)
 rintro ρ wa1 v1 wb1 r he hb hn
 replace hw:=hw.tr hb
 clear hx
 have hC:=hn.got (S:=fun _=>False) r.baseLe (iv:=(wa1.heap.size,wb1.heap.size)::[]) List.mem_cons_self
 clear r he hb hn
 generalize (wa1.heap.size,wb1.heap.size)::[]=iv1 at*
 obtain⟨s1_0,s1_1,s1_2,s1_3,rfl⟩:=hC.shape
 conv=>whnf
 intro ρe we re
 exact⟨_,rfl,hw.tr re.bel,hC.out re (oldF w)⟩
theorem rSize_c{S:Nat→Prop}{w:World}{v:Value}{k:Nat}{x:Int}(hS:Old S w)(hx:IntL w S v k x)(hk:k≤40000000):
  Con PG N.ref01_Size #[v] w (Ret w fun v' w2=>IntC w2 (Nw (fun _=>False) w w2) v' ((x.natAbs:Int))):=by
 have hw:Bel w.heap.size w w:=Bel.refl
 replace hx:=hx.weak (S':=Cv S w.heap.size []) fun _ h=>.inl h
 obtain⟨b1,a1,n1,c1,rfl⟩:=hx.shape
 replace hx:=hx.abs
 refine in_ref01_Size (by simp) ?_
 conv=>whnf
 refine callE_S (callE_con (Φ:=fun _ w' v w2=>IntC w2 (Nw (fun _=>False) w' w2) v ((x.natAbs:Int))) (fun ρ w' r=>rInt_c (Rel.old r hS) (hx.rel r hS) hk) ?_)
 rintro ρ wa1 v1 wb1 r he hb hn
 replace hw:=hw.tr hb
 clear hx
 have hC:=hn.got (S:=fun _=>False) r.baseLe (iv:=(wa1.heap.size,wb1.heap.size)::[]) List.mem_cons_self
 clear r he hb hn
 generalize (wa1.heap.size,wb1.heap.size)::[]=iv1 at*
 obtain⟨s1_0,s1_1,s1_2,s1_3,rfl⟩:=hC.shape
 conv=>whnf
 intro ρe we re
 exact⟨_,rfl,hw.tr re.bel,hC.out re (oldF w)⟩
theorem rat_c{S:Nat→Prop}{w:World}{v:Value}{cs:List Int}{i:Nat}(hS:Old S w)(h:ColsR w S v cs):
  Con PG N.ref01_at #[v,.int .i64 i] w (Ret w fun v' _=>v'= .int .i64 (cs.getD i 0)):=by
 obtain⟨a,c,rfl,hc⟩:=h.shape
 refine in_ref01_at (by simp) ?_
 conv=>whnf
 refine BrS.mk (fun hi=>?_) (fun hi=>?_)
 ·have hi:i<cs.length:=by simpa using hi
  obtain⟨x,hx⟩:∃x,cs[i]? =some x:=⟨_,List.getElem?_eq_getElem hi⟩
  obtain⟨ad,rfl,q1,q2⟩:=h.load hx
  conv=>whnf
  refine⟨ad,rfl,⟨by omega,by omega⟩,?_⟩
  conv=>whnf
  refine⟨.int .i64 x,fun ρ w' r=>?_,?_⟩
  ·rw[Int.toNat_natCast];exact cellS hS Bel.refl r q1 q2
  conv=>whnf
  intro ρ w2 r
  exact⟨_,rfl,r.bel,by rw[List.getD,hx];rfl⟩
 ·have hi:cs.length≤i:=by
   have:¬i<cs.length:=by simpa using hi
   omega
  conv=>whnf
  intro ρ w2 r
  exact⟨_,rfl,r.bel,by rw[List.getD,List.getElem?_eq_none hi];rfl⟩
theorem val_zero{ls:List Nat}(h:∀x∈ls,x=0):val ls=0:=by
 induction ls with
 |nil=>rfl
 |cons l r ih=>rw[val,h l List.mem_cons_self,ih fun x hx=>h x (List.mem_cons_of_mem _ hx)]
theorem val_pos{ls:List Nat}{x:Nat}(h:x∈ls)(hx:x≠0):0<val ls:=by
 induction ls with
 |nil=>cases h
 |cons l r ih=>
  rw[val]
  rcases List.mem_cons.1 h with rfl|h
  ·omega
  ·have:=ih h;omega
theorem rSign_c{S:Nat→Prop}{w:World}{v:Value}{x:Int}(hS:Old S w)(hx:IntR w S v x):
  Con PG N.ref01_Sign #[v] w (Ret w fun v' _=>v'= .int .i64 x.sign):=by
 obtain⟨b,ls,⟨lv,rfl,h1⟩,hz⟩:=hx
 obtain⟨a,c,rfl,_,ha⟩:=h1.sl
 have hle1:=h1.le
 refine in_ref01_Sign (by simp) ?_
 conv=>whnf
 refine⟨Nat×World,fun z=>⟨[(1,.o (.p 0 0)),(3,.o (.v (.int .i64 z.1)))],[(0,.box T.Int [.v (.bool b),.v (.slice a ls.length c)])],1,[],z.2⟩,fun z=>ls.length-z.1,
  fun z=>z.1≤ls.length∧Bel w.heap.size w z.2∧∀x∈ls.take z.1,x=0,?_,?_⟩
 ·intro ρ w' r
  exact⟨(0,w'),⟨by simp,r.bel,by simp⟩,Sub.gen [] r ⟨rfl,trivial⟩ ⟨rfl,rfl,trivial⟩ (by simp[ScH,Blk.scopd,At.sc]) (by simp[ScE,SV.sc,At.sc]) (by rfl) (fun lo hi h=>h)⟩
 rintro⟨i,w1⟩ ⟨hi,hw,ht⟩
 dsimp only at hi hw ht ⊢
 conv=>whnf
 refine BrS.mk (fun hib=>?_) (fun hib=>?_)
 ·have hib:i<ls.length:=by simpa using hib
  obtain⟨y,hy⟩:∃x,ls[i]? =some x:=⟨_,List.getElem?_eq_getElem hib⟩
  obtain⟨ad,rfl,q1,q2⟩:=ha i y hy
  conv=>whnf
  refine⟨ad,rfl,⟨by omega,by omega⟩,?_⟩
  conv=>whnf
  refine⟨.int .u32 y,fun ρ w' r=>by rw[Int.toNat_natCast,Nat.mul_one];exact cellS hS hw r q1 q2,?_⟩
  conv=>whnf
  refine BrS.mk (fun hne=>?_) (fun hne=>?_)
  ·have hne:y≠0:=fun h=>by rw[h]at hne;simp at hne
   have hp:=val_pos (List.mem_of_getElem? hy) hne
   conv=>whnf
   cases b with
   |true=>
    rw[sg_t]at hz
    conv=>whnf
    intro ρ w2 r
    exact⟨_,rfl,hw.tr r.bel,by rw[Int.sign_eq_neg_one_of_neg (by omega)];rfl⟩
   |false=>
    rw[sg_f]at hz
    conv=>whnf
    intro ρ w2 r
    exact⟨_,rfl,hw.tr r.bel,by rw[Int.sign_eq_one_of_pos (by omega)];rfl⟩
  have hne:y=0:=by simpa using hne
  subst hne
  have ht2:∀x∈ls.take (i+1),x=0:=fun x hx=>by
   rw[List.take_add_one,hy]at hx
   rcases List.mem_append.1 hx with hx|hx
   ·exact ht x hx
   ·simpa using hx
  conv=>whnf
  refine⟨((i+1:Nat):Int),by rw[wrap64]<;>omega,?_⟩
  conv=>whnf
  intro ρ3 w3 r3
  exact⟨(i+1,w3),⟨hib,hw.tr r3.bel,ht2⟩,Sub.gen [] r3 ⟨rfl,trivial⟩ ⟨rfl,rfl,trivial⟩ (by simp[ScH,Blk.scopd,At.sc]) (by simp[ScE,SV.sc,At.sc]) (by rfl) (fun lo hi h=>h),by dsimp only;omega⟩
 have hib:i=ls.length:=by
  have:¬i<ls.length:=by simpa using hib
  omega
 subst hib
 rw[List.take_length]at ht
 conv=>whnf
 intro ρ w2 r
 refine⟨_,rfl,hw.tr r.bel,?_⟩
 rw[←hz,val_zero ht]
 cases b<;>rfl
end Go.Ex
