/- A part of the proof: texts X104 to X107. Each tells its conditions in its theorems. -/
import Derived.Test.YtneljlhlncjkhaaGreatDoorP13
import Derived.Test.YtneljlhlncjkhaaGreatDoorP14
/- Det of the reference, by the first row. Printed by program. No condition but sizes. -/
namespace Go.Ex
open Go Go.Sx Go.Proofs

/-- a row that is held raw and grows; its elements' limbs lie in S -/
def RawL(w:World)(S:Nat→Prop)(B:Nat)(v:Value)(xs:List Rat):Prop:=∃css:List (List Value),css.length=xs.length∧(∀cs∈css,cs.length=4)∧w.ownsRow B T.Rat 4 v xs.length css.flatten∧(∀u∈css.flatten,u.oneCell'=true)∧∀(j:Nat) cs q,css[j]? =some cs→xs[j]? =some q→Rat4L w S cs q
section
variable{S:Nat→Prop}{H:Hp}{nx:Nat}{iv0:Iv}{B:Nat}{w w' w2:World}{ρ:Nat→Sx.Val}{v:Value}{xs:List Rat}
theorem RawL.nil:RawL w S B (.slice none 0 0) []:=⟨[],rfl,by simp,⟨rfl,.inl ⟨rfl,rfl⟩⟩,by simp,by simp⟩
theorem RawL.shape(h:RawL w S B v xs):∃a c,v= .slice a xs.length c:=by
 obtain⟨css,h1,h2,h3,-⟩:=h
 obtain⟨a,c,h,_⟩:=row_form h3
 exact⟨a,c,h⟩
theorem RawL.le(h:RawL w S B v xs):xs.length≤maxLen:=by
 obtain⟨css,h1,h2,h3,-⟩:=h
 rcases h3.2 with⟨_,h0⟩|⟨_,_,_,_,_,_,h1,h2,_⟩
 ·omega
 ·omega
theorem RawL.rel(h:RawL w S B v xs)(r:Rel H nx (rowIv v++iv0) B w ρ w')(hS:∀g,S g→g<B):RawL w' S B v xs:=by
 obtain⟨css,h1,h2,h3,h4,h5⟩:=h
 exact⟨css,h1,h2,rowKeep h3 ((Cvr.row v).mono fun p hp=>List.mem_append_left _ hp) r,h4,fun j cs q k1 k2=>(h5 j cs q k1 k2).keep fun g hg=>r.bel.block g (hS g hg)⟩
theorem rowIv_app{v':Value}(r:Rel H nx (rowIv v++iv0) B w ρ w')(hsz:w'.heap.size≤w2.heap.size)(hob:∀g,v'.ownBlock=some g→g<w2.heap.size∧(v.ownBlock=some g∨g=w'.heap.size)):
  ∀lo hi,(lo,hi)∈rowIv v'++iv0→hi≤w2.heap.size∧∀id b,getH H id=some b→(ρ id).nil=false→¬(lo≤(ρ id).g∧(ρ id).g<hi):=fun lo hi hm=>by
 rcases List.mem_append.1 hm with hm|hm
 ·obtain⟨hg,rfl⟩:=rowIv_mem.1 hm
  obtain⟨h1,h2⟩:=hob _ hg
  refine⟨by omega,fun id c hc hn he=>?_⟩
  rcases h2 with h2|h2
  ·exact((Cvr.row v).mono fun p hp=>List.mem_append_left _ hp).not r h2 id c hc hn (by omega)
  ·have:=(r.low id c hc hn).2;omega
 ·have hm2:=List.mem_append_right (rowIv v) hm
  exact⟨by have:=r.ivs lo hi hm2;have:=r.size;omega,fun id b hb hn=>r.prot lo hi hm2 id b hb hn⟩
theorem RawL.read(h:RawL w S B v xs):RatsL w (Cv S B (rowIv v++iv0)) v xs:=by
 have hle:=h.le
 obtain⟨css,h1,h2,h3,h4,h5⟩:=h
 have hfl:=flat_len h2
 refine⟨css,?_,h1,h2,fun j cs q k1 k2=>(h5 j cs q k1 k2).weak fun _ hg=>.inl hg⟩
 rcases h3.2 with⟨rfl,h0⟩|⟨g,cap,cur,rfl,hb,hc,hmc,hcap,hsz,htake⟩
 ·refine⟨hle,by rw[hfl,h1],h4,none,0,by rw[h0],by omega,fun j u hu=>?_⟩
  have h6:css=[]:=List.eq_nil_of_length_eq_zero (by omega)
  rw[h6]at hu
  cases hu
 ·refine⟨hle,by rw[hfl,h1],h4,_,cap,rfl,hmc,fun j u hu=>⟨_,rfl,.inr ⟨hb,g,g+1,List.mem_append_left _ (rowIv_mem.2 ⟨rfl,rfl⟩),Nat.le_refl _,Nat.lt_succ_self _⟩,?_⟩⟩
  exact h3.cells (g:=g) rfl j u hu
end
/-- the k-th minor of the first row -/
def minorL(M:List (List Rat))(n k i:Nat):List (List Rat):=(List.range i).map fun r=>(List.range n).map fun j=>at2 M (r+1) (skip k j)
def rowTo(M:List (List Rat))(r k c:Nat):List Rat:=(List.range (if c≤k then c else c-1)).map fun j=>at2 M r (skip k j)
theorem rowTo_len(M:List (List Rat))(r k c:Nat):(rowTo M r k c).length=if c≤k then c else c-1:=by simp[rowTo]
theorem rowTo_skip{M:List (List Rat)}{r k:Nat}:rowTo M r k (k+1)=rowTo M r k k:=by
 unfold rowTo
 rw[if_neg (by omega),if_pos (Nat.le_refl _),Nat.add_sub_cancel]
theorem rowTo_succ{M:List (List Rat)}{r k c:Nat}(h:c≠k):rowTo M r k (c+1)=rowTo M r k c++[at2 M r c]:=by
 unfold rowTo
 rcases Nat.lt_or_ge c k with h1|h1
 ·rw[if_pos (by omega),if_pos (by omega),List.range_succ,List.map_append]
  simp[skip,h1]
 ·obtain⟨d,rfl⟩:∃d,c=d+1:=⟨c-1,by omega⟩
  rw[if_neg (by omega),if_neg (by omega),Nat.add_sub_cancel,Nat.add_sub_cancel,List.range_succ,List.map_append]
  simp[skip,show ¬d<k by omega]
theorem rowTo_all{M:List (List Rat)}{n r k:Nat}(h:k<n+1):rowTo M r k (n+1)=(List.range n).map fun j=>at2 M r (skip k j):=by
 unfold rowTo;rw[if_neg (by omega),Nat.add_sub_cancel]
theorem minorL_len(M:List (List Rat))(n k i:Nat):(minorL M n k i).length=i:=by simp[minorL]
theorem minorL_succ{M:List (List Rat)}{n k i:Nat}:minorL M n k (i+1)=minorL M n k i++[(List.range n).map fun j=>at2 M (i+1) (skip k j)]:=by
 unfold minorL;rw[List.range_succ,List.map_append];rfl
theorem minorL_at{M:List (List Rat)}{n k i j:Nat}(hi:i<n)(hj:j<n):at2 (minorL M n k n) i j=at2 M (i+1) (skip k j):=by
 unfold at2 minorL
 simp[List.getD,List.getElem?_range hi,List.getElem?_range hj]
 rfl
theorem minorL_row{M:List (List Rat)}{n k i:Nat}:∀r∈minorL M n k i,r.length=n:=fun r hr=>by
 obtain⟨x,_,rfl⟩:=List.mem_map.1 hr
 simp
theorem minorL_ht{M:List (List Rat)}{n k i h:Nat}(H:Ht M h)(h2:2≤h):Ht (minorL M n k i) h:=fun r hr q hq=>by
 obtain⟨x,_,rfl⟩:=List.mem_map.1 hr
 obtain⟨j,_,rfl⟩:=List.mem_map.1 hq
 exact at2_ht' H h2 _ _
/-- how long a determinant is -/
def detB(h:Nat):Nat→Nat
 |0=>2
 |n+1=>(n+1)*(h+detB h n+2)+2
theorem detB_le(h n:Nat):h+detB h n+4≤detB h (n+1):=by
 show _≤(n+1)*(h+detB h n+2)+2
 have:=Nat.mul_le_mul_right (h+detB h n+2) (show 1≤n+1 by omega)
 omega
theorem rl_sumR{f:Nat→Rat}{b:Nat}:∀n,(∀k,k<n→rl (f k)≤b)→rl (sumR f n)≤n*(b+1)+2
 |0,_=>by show rl 0≤_;exact Nat.le_trans (by decide:rl 0≤2) (Nat.le_add_left ..)
 |n+1,h=>by
  have h1:=rl_sumR n fun k hk=>h k (by omega)
  have h2:=h n (by omega)
  have h3:=rl_add (sumR f n) (f n)
  show rl (sumR f n+f n)≤_
  rw[Nat.add_mul,Nat.one_mul]
  omega
theorem rl_sgd(k:Nat)(x:Rat):rl (sgd k*x)=rl x:=by
 unfold sgd
 split
 ·rw[show (-1:Rat)*x= -x by grind,rl_neg]
 ·rw[Rat.one_mul]
theorem rl_detF{h:Nat}(h2:2≤h):∀(n:Nat) (m:Mx),(∀i j,i<n→j<n→rl (m i j)+1≤h)→rl (detF n m)≤detB h n
 |0,_,_=>by show rl 1≤2;decide
 |n+1,m,H=>by
  unfold detF detB
  refine Nat.le_trans (rl_sumR (b:=h+detB h n) _ fun k hk=>?_) ?_
  ·have h3:=rl_detF h2 n (fun i j=>m (i+1) (skip k j)) fun i j hi hj=>H _ _ (by omega) (skip_lt hj)
   have h4:=H 0 k (by omega) hk
   have h5:=rl_mul (m 0 k) (detF n fun i j=>m (i+1) (skip k j))
   rw[rl_sgd]
   omega
  ·exact Nat.add_le_add_right (Nat.mul_le_mul_left _ (by omega)) 2
theorem detB_mono{h:Nat}{n m:Nat}(hm:n≤m):detB h n≤detB h m:=by
 induction hm with
 |refl=>exact Nat.le_refl _
 | @step m _ ih=>exact Nat.le_trans ih (by have:=detB_le h m;show detB h m≤detB h (m+1);omega)
theorem rDet_c{h:Nat}(h2:2≤h):∀(n:Nat) {S:Nat→Prop} {w:World} {vm:Value} {M:List (List Rat)},Old S w→RatML w S vm M→n≤M.length→(∀r∈M,n≤r.length)→Ht M h→n≤1000→detB h n≤90000→
  Con PG N.ref01_Det #[vm,.int .i64 ((n:Nat):Int)] w (Ret w fun v' w2=>RatC w2 (Nw (fun _=>False) w w2) v' (detF n (at2 M)))
 |0,S,w,vm,M,_,_,_,_,_,_,_=>by
  have hw:Bel w.heap.size w w:=Bel.refl
  refine in_ref01_Det (by simp) ?_
  conv=>whnf
  refine callE_S (callE_con (Φ:=fun _ w' v w2=>RatC w2 (Nw (fun _=>False) w' w2) v (((1:Int):Rat))) (fun ρ w' r=>rWholeAll_c 1 w' (by decide) (by decide)) ?_)
  rintro ρ wa1 v1 wb1 r he hb hn
  replace hw:=hw.tr hb
  have hd:=hn.got (S:=fun _=>False) r.baseLe (iv:=(wa1.heap.size,wb1.heap.size)::[]) List.mem_cons_self
  clear r he hb hn
  generalize (wa1.heap.size,wb1.heap.size)::[]=iv1 at*
  obtain⟨s1_0,s1_1,s1_2,s1_3,s1_4,s1_5,s1_6,s1_7,rfl⟩:=hd.shape
  conv=>whnf
  intro ρe we re
  exact⟨_,rfl,hw.tr re.bel,by have h:=hd.out re (oldF w);rw[show ((1:Int):Rat)=1 by decide]at h;exact h⟩
 |n+1,S,w,vm,M,hS,hM0,hnM,hrow,hht,hn1,hBd=>by
  have hw:Bel w.heap.size w w:=Bel.refl
  obtain⟨am,cm,rfl,hcm,hmm⟩:=SlicesR.shape hM0
  unfold maxLen at hmm
  have hB1:=detB_le h n
  refine in_ref01_Det (by simp) ?_
  conv=>whnf
  refine callE_S (callE_con (Φ:=fun _ w' v w2=>RatC w2 (Nw (fun _=>False) w' w2) v (((0:Int):Rat))) (fun ρ w' r=>rWholeAll_c 0 w' (by decide) (by decide)) ?_)
  rintro ρ wa1 v1 wb1 r he hb hn
  replace hw:=hw.tr hb
  have hd:=hn.got (S:=fun _=>False) r.baseLe (iv:=(wa1.heap.size,wb1.heap.size)::[]) List.mem_cons_self
  clear r he hb hn
  generalize (wa1.heap.size,wb1.heap.size)::[]=iv1 at*
  obtain⟨s1_0,s1_1,s1_2,s1_3,s1_4,s1_5,s1_6,s1_7,rfl⟩:=hd.shape
  conv=>whnf
  rw[show ((0:Int):Rat)=sumR (fun k=>sgd k*(at2 M 0 k*detF n fun i j=>at2 M (i+1) (skip k j))) 0 by rfl]at hd
  have hfk:∀k,k<n+1→rl ((fun k=>sgd k*(at2 M 0 k*detF n fun i j=>at2 M (i+1) (skip k j))) k)≤h+detB h n:=fun k hk=>by
   have h3:=rl_detF h2 n (fun i j=>at2 M (i+1) (skip k j)) fun i j hi hj=>at2_ht' hht h2 _ _
   have h4:=at2_ht' hht h2 0 k
   have h5:=rl_mul (at2 M 0 k) (detF n fun i j=>at2 M (i+1) (skip k j))
   dsimp only
   rw[rl_sgd]
   omega
  refine⟨Nat×((Bool×Bool)×(Option Addr×Option Addr)×(Nat×Nat×Nat×Nat))×World×Iv,fun z=>⟨[(0,.o (.v (.slice am M.length cm))),(1,.o (.v (.int .i64 ((n+1:Nat):Int)))),(4,.o (.p 0 0)),(5,.o (.p 1 0)),(6,.o (.v (.int .i64 ((z.1:Nat):Int))))],[(1,.box T.Rat [.v (.bool z.2.1.1.1),.v (.slice z.2.1.2.1.1 z.2.1.2.2.1 z.2.1.2.2.2.1),.v (.bool z.2.1.1.2),.v (.slice z.2.1.2.1.2 z.2.1.2.2.2.2.1 z.2.1.2.2.2.2.2)]),(0,.box T.Rat [.v (.bool false),.v (.slice none 0 0),.v (.bool false),.v (.slice none 0 0)])],2,z.2.2.2,z.2.2.1⟩,fun z=>n+1-z.1,
   fun z=>z.1≤n+1∧Bel w.heap.size w z.2.2.1∧RatC z.2.2.1 (Cv (fun _=>False) w.heap.size z.2.2.2) (.agg #[.bool z.2.1.1.1,.slice z.2.1.2.1.1 z.2.1.2.2.1 z.2.1.2.2.2.1,.bool z.2.1.1.2,.slice z.2.1.2.1.2 z.2.1.2.2.2.2.1 z.2.1.2.2.2.2.2]) (sumR (fun k=>sgd k*(at2 M 0 k*detF n fun i j=>at2 M (i+1) (skip k j))) z.1),?_,?_⟩
  ·intro ρ w' r
   exact⟨(0,((s1_0,s1_4),(s1_1,s1_5),(s1_2,s1_3,s1_6,s1_7)),w',iv1),⟨Nat.zero_le _,hw.tr r.bel,hd.rel r (oldF w)⟩,Sub.gen [] r ⟨rfl,rfl,trivial⟩ ⟨rfl,rfl,rfl,rfl,rfl,trivial⟩ (by simp[ScH,Blk.scopd,At.sc]) (by simp[ScE,SV.sc,At.sc]) (by rfl) (fun lo hi h=>h)⟩
  clear hw hd
  rintro⟨k,⟨⟨p0,p4⟩,⟨p1,p5⟩,⟨p2,p3,p6,p7⟩⟩,w1,iv⟩ ⟨hk,hw,hd⟩
  dsimp only at hk hw hd ⊢
  conv=>whnf
  refine BrS.mk (fun hkb=>?_) (fun hkb=>?_)
  ·have hkb:k<n+1:=by have:(k:Int)<((n+1:Nat):Int):=of_decide_eq_true hkb;omega
   conv=>whnf
   refine⟨Nat×List Value×World×Iv,fun z=>⟨[(0,.o (.v (.slice am M.length cm))),(1,.o (.v (.int .i64 ((n+1:Nat):Int)))),(4,.o (.p 0 0)),(5,.o (.p 1 0)),(6,.o (.v (.int .i64 ((k:Nat):Int)))),(7,.o (.w 2 z.2.1.length)),(8,.o (.v (.int .i64 ((z.1+1:Nat):Int))))],[(2,.vec T.LRat 1 z.2.1),(1,.box T.Rat [.v (.bool p0),.v (.slice p1 p2 p3),.v (.bool p4),.v (.slice p5 p6 p7)]),(0,.box T.Rat [.v (.bool false),.v (.slice none 0 0),.v (.bool false),.v (.slice none 0 0)])],3,z.2.2.2,z.2.2.1⟩,fun z=>n-z.1,
    fun z=>z.1≤n∧Bel w.heap.size w z.2.2.1∧RatC z.2.2.1 (Cv (fun _=>False) w.heap.size z.2.2.2) (.agg #[.bool p0,.slice p1 p2 p3,.bool p4,.slice p5 p6 p7]) (sumR (fun k=>sgd k*(at2 M 0 k*detF n fun i j=>at2 M (i+1) (skip k j))) k)∧RowsV z.2.2.1 (Cv S w.heap.size z.2.2.2) z.2.1 (minorL M n k z.1),?_,?_⟩
   ·intro ρ w' r
    exact⟨(0,[],w',iv),⟨Nat.zero_le _,hw.tr r.bel,hd.rel r (oldF w),by simp[RowsV,minorL]⟩,Sub.nil 7 T.LRat 1 rfl (by simp[ScE,SV.sc,At.sc,initE]) r fun ρ1 r1=>
     Sub.gen [] r1 ⟨rfl,rfl,rfl,trivial⟩ ⟨rfl,rfl,rfl,rfl,rfl,rfl,rfl,trivial⟩ (by simp[ScH,Blk.scopd,At.sc]) (by simp[ScE,SV.sc,At.sc]) (by rfl) (fun lo hi h=>h)⟩
   clear hw hd
   rintro⟨i,rv,w1,iv⟩ ⟨hi,hw,hd,hR⟩
   dsimp only at hi hw hd hR ⊢
   have hrl:rv.length=i:=by rw[hR.1,minorL_len]
   conv=>whnf
   refine BrS.mk (fun hib=>?_) (fun hib=>?_)
   ·have hib:i<n:=by have:((i+1:Nat):Int)<((n+1:Nat):Int):=of_decide_eq_true hib;omega
    conv=>whnf
    refine⟨Nat×Value×World,fun z=>⟨[(0,.o (.v (.slice am M.length cm))),(1,.o (.v (.int .i64 ((n+1:Nat):Int)))),(4,.o (.p 0 0)),(5,.o (.p 1 0)),(6,.o (.v (.int .i64 ((k:Nat):Int)))),(7,.o (.w 2 rv.length)),(8,.o (.v (.int .i64 ((i+1:Nat):Int)))),(9,.o (.v z.2.1)),(10,.o (.v (.int .i64 ((z.1:Nat):Int))))],[(2,.vec T.LRat 1 rv),(1,.box T.Rat [.v (.bool p0),.v (.slice p1 p2 p3),.v (.bool p4),.v (.slice p5 p6 p7)]),(0,.box T.Rat [.v (.bool false),.v (.slice none 0 0),.v (.bool false),.v (.slice none 0 0)])],3,rowIv z.2.1++iv,z.2.2⟩,fun z=>n+1-z.1,
     fun z=>z.1≤n+1∧Bel w.heap.size w z.2.2∧RatC z.2.2 (Cv (fun _=>False) w.heap.size iv) (.agg #[.bool p0,.slice p1 p2 p3,.bool p4,.slice p5 p6 p7]) (sumR (fun k=>sgd k*(at2 M 0 k*detF n fun i j=>at2 M (i+1) (skip k j))) k)∧RowsV z.2.2 (Cv S w.heap.size iv) rv (minorL M n k i)∧RawL z.2.2 S w.heap.size z.2.1 (rowTo M (i+1) k z.1)∧∀g,z.2.1.ownBlock=some g→¬Cv S w.heap.size iv g,?_,?_⟩
    ·intro ρ w' r
     exact⟨(0,.slice none 0 0,w'),⟨Nat.zero_le _,hw.tr r.bel,hd.rel r (oldF w),hR.rel r hS,RawL.nil,fun g hg=>(by cases hg)⟩,Sub.gen [] r ⟨rfl,rfl,rfl,trivial⟩ ⟨rfl,rfl,rfl,rfl,rfl,rfl,rfl,rfl,rfl,trivial⟩ (by simp[ScH,Blk.scopd,At.sc]) (by simp[ScE,SV.sc,At.sc]) (by rfl) (fun lo hi h=>h)⟩
    clear hw hd hR
    rintro⟨c,v,w1⟩ ⟨hc,hw,hd,hR,hL,hoff⟩
    dsimp only at hc hw hd hR hL hoff ⊢
    have hsub:∀p,p∈iv→p∈rowIv v++iv:=fun p hp=>List.mem_append_right _ hp
    have hlen:=rowTo_len M (i+1) k c
    have hll:(rowTo M (i+1) k c).length≤n+1:=by rw[hlen];split<;>omega
    obtain⟨av,cv,rfl⟩:=hL.shape
    conv=>whnf
    refine BrS.mk (fun hcb=>?_) (fun hcb=>?_)
    ·have hcb:c<n+1:=by have:(c:Int)<((n+1:Nat):Int):=of_decide_eq_true hcb;omega
     conv=>whnf
     refine BrS.mk (fun hck=>?_) (fun hck=>?_)
     ·have hck:c≠k:=fun e=>by rw[e]at hck;simp at hck
      obtain⟨ra,hra⟩:∃r,M[i+1]? =some r:=⟨_,List.getElem?_eq_getElem (by omega)⟩
      have hral:=hrow ra (List.mem_of_getElem? hra)
      obtain⟨q,hq⟩:∃q,ra[c]? =some q:=⟨_,List.getElem?_eq_getElem (by omega)⟩
      have hat:at2 M (i+1) c=q:=by unfold at2;simp[List.getD,hra,hq]
      obtain⟨adm,um,ham,hRm,km1,km2⟩:=SlicesR.load hM0 hra
      obtain⟨au,cu,rfl,hcu,-⟩:=ListR.shape hRm
      obtain⟨adq,csq,haq,hF,_,hl⟩:=ListR.load hRm hq
      have hF4:=hF
      obtain⟨f0,f1,f2,f3,f4,f5,f6,f7,rfl,-⟩:=hF
      conv=>whnf
      refine⟨adm,ham,⟨by omega,by omega⟩,?_⟩
      conv=>whnf
      refine⟨.slice au ra.length cu,fun ρ w' r=>?_,?_⟩
      ·rw[show (((i+1:Nat):Int)).toNat=i+1 from rfl,cell_of_heap (w:=w) (w2:=w') (by rw[addB];exact(hw.tr r.bel).block _ (hS _ km1))]
       exact km2
      conv=>whnf
      refine⟨adq,haq,⟨by omega,by omega⟩,?_⟩
      conv=>whnf
      refine⟨[.bool f0,.slice f1 f2 f3,.bool f4,.slice f5 f6 f7],rfl,fun ρ w' r j u hu=>?_,?_⟩
      ·obtain⟨k1,k2⟩:=hl j u hu
       rw[Int.toNat_natCast,cell_of_heap (w:=w) (w2:=w') (by rw[addB,addB];exact(hw.tr r.bel).block _ (hS _ k1))]
       exact k2
      conv=>whnf
      obtain⟨css,hl1,hl2,hl3,hl4,hl5⟩:=hL
      have hfl:=flat_len hl2
      refine .inr (opS_append hτ (Nat.le_refl _) (xs:=css.flatten) (news:=[.bool f0,.slice f1 f2 f3,.bool f4,.slice f5 f6 f7]) (m:=(rowTo M (i+1) k c).length) (k:=1) (by rfl) (by rfl) (by decide) (by rfl) (by rfl) (fun ρ w' r=>⟨rowKeep hl3 ((Cvr.row _).mono fun p hp=>List.mem_append_left _ hp) r,fun g hg=>((Cvr.row _).mono fun p hp=>List.mem_append_left _ hp).not r hg⟩) rfl (by intro u hu;simp at hu;rcases hu with rfl|rfl|rfl|rfl<;>rfl) (by unfold maxLen;omega) (by omega)
       (fun ρ w' r=>.inr ?_) (fun v' w2=>rowIv v'++iv) (fun ρ w' v' w2 r hsz hob=>rowIv_app r hsz hob) (fun ρ w' v' w2 r h5 h6 h7=>?_))
      ·have hb:=r.boxSeq (id:=3) (sz:=4) (n:=1) rfl rfl (by decide) (by intro u hu;simp at hu;rcases hu with rfl|rfl|rfl|rfl<;>rfl)
       obtain⟨_,_,_,a2,c2,e,_,h6⟩:=hb
       injection e with e1 e2 e3
       subst e1 e3
       refine⟨_,_,rfl,fun j u hu=>?_⟩
       obtain⟨ad2,k1,_,k3⟩:=h6 j u hu
       injection k1 with k1
       subst k1
       exact k3
      ·have hown:∀g,(Value.slice av (rowTo M (i+1) k c).length cv).ownBlock=some g→w.heap.size≤g:=fun g hg=>(ownsRow.low hl3 g hg).1
       have hkeep:∀g,Cv S w.heap.size iv g→w2.heap[g]? =w1.heap[g]? :=fun g hg=>by
        have hg2:Cv S w.heap.size (rowIv (Value.slice av (rowTo M (i+1) k c).length cv)++iv) g:=hg.mono hsub
        rw[h6.block g (Rel.old r hS g hg2) fun e=>hoff g e.symm hg,Rel.same r hS hg2]
       have hw2:Bel w.heap.size w w2:=(hw.tr r.bel).tr (Bel.grown h6 hown r.baseLe)
       replace hd:=hd.keep fun g hg=>hkeep g (cvF hg)
       have hR2:RowsV w2 (Cv S w.heap.size iv) rv (minorL M n k i):=⟨hR.1,hR.2.1,fun j u x k1 k2=>RatsL.keep (hR.2.2 j u x k1 k2) hkeep⟩
       have hoff2:∀g,v'.ownBlock=some g→¬Cv S w.heap.size iv g:=fun g hg hc2=>by
        rcases h7 with h7|h7
        ·exact hoff g (h7▸hg) hc2
        ·rw[h7]at hg
         injection hg with hg
         have:=Rel.old r hS g (hc2.mono hsub)
         omega
       have hL2:RawL w2 S w.heap.size v' (rowTo M (i+1) k (c+1)):=by
        rw[rowTo_succ hck,hat]
        refine⟨css++[[.bool f0,.slice f1 f2 f3,.bool f4,.slice f5 f6 f7]],by simp[hl1],fun cs hcs=>?_,?_,fun u hu=>?_,fun j cs p k1 k2=>?_⟩
        ·rcases List.mem_append.1 hcs with h|h
         ·exact hl2 cs h
         ·rw[List.mem_singleton.1 h];rfl
        ·rw[List.length_append,List.flatten_append]
         simpa using h5
        ·rw[List.flatten_append]at hu
         rcases List.mem_append.1 hu with h|h
         ·exact hl4 u h
         ·simp at h;rcases h with rfl|rfl|rfl|rfl<;>rfl
        ·rcases Nat.lt_or_ge j css.length with hj|hj
         ·rw[List.getElem?_append_left hj]at k1
          rw[List.getElem?_append_left (by rw[←hl1];exact hj)]at k2
          exact(hl5 j cs p k1 k2).keep fun g hg=>by rw[hw2.block g (hS g hg),hw.block g (hS g hg)]
         ·rw[List.getElem?_append_right hj]at k1
          rw[List.getElem?_append_right (by rw[←hl1];exact hj),←hl1]at k2
          have:j-css.length=0:=by have:=(List.getElem?_eq_some_iff.1 k1).1;simp at this;omega
          rw[this]at k1 k2
          injection k1 with k1;injection k2 with k2
          subst k1 k2
          exact hF4.keep fun g hg=>hw2.block g (hS g hg)
       obtain⟨a3,c3,rfl⟩:=hL2.shape
       clear h5 h6 h7 r hR hoff hw hown hkeep hl1 hl2 hl3 hl4 hl5 hfl
       conv=>whnf
       refine⟨((c+1:Nat):Int),by rw[wrap64]<;>omega,?_⟩
       conv=>whnf
       intro ρ3 w3 r3
       exact⟨(c+1,.slice a3 (rowTo M (i+1) k (c+1)).length c3,w3),⟨hcb,hw2.tr r3.bel,hd.keep fun g hg=>Rel.same r3 (oldF w) (hg.mono fun p hp=>List.mem_append_right _ hp),⟨hR2.1,hR2.2.1,fun j u x k1 k2=>RatsL.keep (hR2.2.2 j u x k1 k2) fun g hg=>Rel.same r3 hS (hg.mono fun p hp=>List.mem_append_right _ hp)⟩,hL2.rel r3 hS,hoff2⟩,
        Sub.gen [] r3 ⟨rfl,rfl,rfl,trivial⟩ ⟨rfl,rfl,rfl,rfl,rfl,rfl,rfl,rfl,rfl,trivial⟩ (by simp[ScH,Blk.scopd,At.sc]) (by simp[ScE,SV.sc,At.sc]) (by rfl) (fun lo hi h=>h),by dsimp only;omega⟩
     have hck:c=k:=by
      have h4:((c:Int)==(k:Int))=true:=by simpa using hck
      have:=eq_of_beq h4
      omega
     conv=>whnf
     refine⟨((c+1:Nat):Int),by rw[wrap64]<;>omega,?_⟩
     conv=>whnf
     intro ρ3 w3 r3
     exact⟨(c+1,(Value.slice av (rowTo M (i+1) k c).length cv),w3),⟨hcb,hw.tr r3.bel,hd.keep fun g hg=>Rel.same r3 (oldF w) (hg.mono hsub),⟨hR.1,hR.2.1,fun j u x k1 k2=>RatsL.keep (hR.2.2 j u x k1 k2) fun g hg=>Rel.same r3 hS (hg.mono hsub)⟩,by have e:rowTo M (i+1) k (c+1)=rowTo M (i+1) k c:=(by rw[hck,rowTo_skip]);dsimp only;rw[e];exact hL.rel r3 hS,hoff⟩,
      Sub.gen [] r3 ⟨rfl,rfl,rfl,trivial⟩ ⟨rfl,rfl,rfl,rfl,rfl,rfl,rfl,rfl,rfl,trivial⟩ (by simp[ScH,Blk.scopd,At.sc]) (by simp[ScE,SV.sc,At.sc]) (by rfl) (fun lo hi h=>h),by dsimp only;omega⟩
    have hcb:c=n+1:=by have:¬(c:Int)<((n+1:Nat):Int):=of_decide_eq_false hcb;omega
    rw[hcb,rowTo_all hkb]at hL hoff hsub hlen hll ⊢
    have hrow2:RatsL w1 (Cv S w.heap.size (rowIv (.slice av ((List.range n).map fun j=>at2 M (i+1) (skip k j)).length cv)++iv)) (.slice av ((List.range n).map fun j=>at2 M (i+1) (skip k j)).length cv) ((List.range n).map fun j=>at2 M (i+1) (skip k j)):=hL.read
    replace hR:RowsV w1 (Cv S w.heap.size (rowIv (.slice av ((List.range n).map fun j=>at2 M (i+1) (skip k j)).length cv)++iv)) (rv++[.slice av ((List.range n).map fun j=>at2 M (i+1) (skip k j)).length cv]) (minorL M n k (i+1)):=by
     rw[minorL_succ]
     exact(hR.weak fun g hg=>hg.mono hsub).push rfl hrow2
    replace hd:=hd.weak (S':=Cv (fun _=>False) w.heap.size (rowIv (.slice av ((List.range n).map fun j=>at2 M (i+1) (skip k j)).length cv)++iv)) fun g hg=>hg.mono hsub
    clear hrow2 hL hoff hsub
    generalize rowIv (.slice av ((List.range n).map fun j=>at2 M (i+1) (skip k j)).length cv)++iv=iv2 at*
    conv=>whnf
    refine .inl ?_
    conv=>whnf
    refine⟨by omega,by omega,by unfold maxLen;omega,?_⟩
    conv=>whnf
    refine⟨((i+1+1:Nat):Int),by rw[wrap64]<;>omega,?_⟩
    conv=>whnf
    intro ρ3 w3 r3
    exact⟨(i+1,rv++[.slice av ((List.range n).map fun j=>at2 M (i+1) (skip k j)).length cv],w3,iv2),⟨hib,hw.tr r3.bel,hd.rel r3 (oldF w),hR.rel r3 hS⟩,
     Sub.gen [(2,4)] r3 ⟨rfl,rfl,rfl,trivial⟩ ⟨rfl,rfl,rfl,rfl,rfl,by dsimp only;rw[List.length_append,List.length_singleton];rfl,rfl,trivial⟩ (by simp[ScH,Blk.scopd,At.sc]) (by simp[ScE,SV.sc,At.sc]) (by rfl) (fun lo hi h=>h),by dsimp only;omega⟩
   have hib:i=n:=by have:¬((i+1:Nat):Int)<((n+1:Nat):Int):=of_decide_eq_false hib;omega
   rw[hib]at hR hrl
   clear hi hib
   obtain⟨ra,hra⟩:∃r,M[0]? =some r:=⟨_,List.getElem?_eq_getElem (by omega)⟩
   have hral:=hrow ra (List.mem_of_getElem? hra)
   obtain⟨q,hq⟩:∃q,ra[k]? =some q:=⟨_,List.getElem?_eq_getElem (by omega)⟩
   have hat:at2 M 0 k=q:=by unfold at2;simp[List.getD,hra,hq]
   have hql:=hht.at hra q (List.mem_of_getElem? hq)
   have hdl:=rl_detF h2 n (fun i j=>at2 M (i+1) (skip k j)) fun i j hi hj=>at2_ht' hht h2 _ _
   have hml:=rl_mul q (detF n fun i j=>at2 M (i+1) (skip k j))
   have hsl:=rl_sumR (b:=h+detB h n) k fun j hj=>hfk j (by omega)
   have hsl2:=Nat.mul_le_mul_right (h+detB h n+1) (show k≤n by omega)
   have hsl3:n*(h+detB h n+1)+(h+detB h n+1)≤detB h (n+1):=by
    show _≤(n+1)*(h+detB h n+2)+2
    have:=Nat.mul_le_mul_left n (show h+detB h n+1≤h+detB h n+2 by omega)
    rw[Nat.add_mul,Nat.one_mul]
    omega
   obtain⟨adm,um,ham,hRm,km1,km2⟩:=SlicesR.load hM0 hra
   obtain⟨au,cu,rfl,hcu,-⟩:=ListR.shape hRm
   obtain⟨adq,csq,haq,hF,_,hl⟩:=ListR.load hRm hq
   obtain⟨f0,f1,f2,f3,f4,f5,f6,f7,rfl,hF⟩:=hF
   conv=>whnf
   refine drawn_of_pi hτ hmix [.x 0,.x 1,.x 2,.x 3,.x 4,.x 5,.x 6,.x 7,.x 8,.p 11,.x 9,.x 10,.x 11,.x 12] (by kernel_rfl) (by kernel_rfl) ?_
   conv=>whnf
   refine⟨adm,ham,⟨by omega,by omega⟩,?_⟩
   conv=>whnf
   refine⟨.slice au ra.length cu,fun ρ w' r=>?_,?_⟩
   ·rw[show ((0:Int)).toNat=0 from rfl,cell_of_heap (w:=w) (w2:=w') (by rw[addB];exact(hw.tr r.bel).block _ (hS _ km1))]
    exact km2
   conv=>whnf
   refine⟨adq,haq,⟨by omega,by omega⟩,?_⟩
   conv=>whnf
   refine⟨[.bool f0,.slice f1 f2 f3,.bool f4,.slice f5 f6 f7],rfl,fun ρ w' r j u hu=>?_,?_⟩
   ·obtain⟨k1,k2⟩:=hl j u hu
    rw[Int.toNat_natCast,cell_of_heap (w:=w) (w2:=w') (by rw[addB,addB];exact(hw.tr r.bel).block _ (hS _ k1))]
    exact k2
   conv=>whnf
   refine⟨((n:Nat):Int),by rw[wrap64]<;>omega,?_⟩
   conv=>whnf
   refine callE_con (Φ:=fun _ w' v w2=>RatC w2 (Nw (fun _=>False) w' w2) v (detF n fun i j=>at2 M (i+1) (skip k j))) (fun ρ w' r=>?_) ?_
   ·have h5:=r.vecSeq (id:=2) (sz:=1) (m:=rv.length) rfl (by simp) (by unfold maxLen;omega) (by decide) hR.2.1
    have hRr:=hR.rel r hS
    have hK:RatML w' (fun g=>g<w'.heap.size) ((At.w 2 rv.length).den ρ) (minorL M n k n):=⟨rv,by rw[minorL_len,←hrl];exact h5.weak fun g hg=>hg.2,by rw[minorL_len];exact hrl,fun i u x k1 k2=>RatsL.weak (hRr.2.2 i u x k1 k2) fun g hg=>Rel.old r hS g hg⟩
    have:=rDet_c h2 n (fun g hg=>hg) hK (by rw[minorL_len];exact Nat.le_refl _) (fun r hr=>by rw[minorL_row r hr];exact Nat.le_refl _) (minorL_ht hht h2) (by omega) (by omega)
    rw[detF_congr (fun i j hi hj=>minorL_at hi hj)]at this
    exact this
   rintro ρ wa11 v11 wb11 r he hb hn
   replace hw:=hw.tr hb
   replace hd:=hd.past (iv':=(wa11.heap.size,wb11.heap.size)::iv) r (oldF w) he fun x hx=>List.mem_cons_of_mem _ hx
   have hx:=hn.got (S:=fun _=>False) r.baseLe (iv:=(wa11.heap.size,wb11.heap.size)::iv) List.mem_cons_self
   clear r he hb hn
   generalize (wa11.heap.size,wb11.heap.size)::iv=iv11 at*
   obtain⟨s11_0,s11_1,s11_2,s11_3,s11_4,s11_5,s11_6,s11_7,rfl⟩:=hx.shape
   clear hR hrl
   conv=>whnf
   refine callE_con (Φ:=fun _ w' v w2=>RatC w2 (Nw (fun _=>False) w' w2) v (q*detF n fun i j=>at2 M (i+1) (skip k j))) (fun ρ w' r=>rMul_c (Rel.old r hS) (RatL.weak (RatL.keep hF (fun g hg=>(hw.tr r.bel).block g (hS g hg))) fun _ hg=>(.inl hg:Cv S w.heap.size _ _)) (RatC.l (RatC.weak (RatC.rel hx r (oldF w)) fun _ hg=>(cvF hg:Cv S w.heap.size _ _)) (by omega))) ?_
   rintro ρ wa12 v12 wb12 r he hb hn
   replace hw:=hw.tr hb
   replace hd:=hd.past (iv':=(wa12.heap.size,wb12.heap.size)::iv11) r (oldF w) he fun x hx=>List.mem_cons_of_mem _ hx
   clear hx
   have hp:=hn.got (S:=fun _=>False) r.baseLe (iv:=(wa12.heap.size,wb12.heap.size)::iv11) List.mem_cons_self
   clear r he hb hn
   generalize (wa12.heap.size,wb12.heap.size)::iv11=iv12 at*
   obtain⟨s12_0,s12_1,s12_2,s12_3,s12_4,s12_5,s12_6,s12_7,rfl⟩:=hp.shape
   conv=>whnf
   refine⟨by decide,((k % 2:Nat):Int),rfl,?_⟩
   conv=>whnf
   refine BrS.mk (fun hp2=>?_) (fun hp2=>?_)
   ·have hp2:k % 2=1:=by
     have:=eq_of_beq hp2
     omega
    conv=>whnf
    refine callE_S (callE_con (Φ:=fun _ w' v w2=>RatC w2 (Nw (fun _=>False) w' w2) v (-(q*detF n fun i j=>at2 M (i+1) (skip k j)))) (fun ρ w' r=>rNeg_c (Rel.old r (oldF w)) (RatC.l (hp.rel r (oldF w)) (by omega))) ?_)
    rintro ρ wa13 v13 wb13 r he hb hn
    replace hw:=hw.tr hb
    replace hd:=hd.past (iv':=(wa13.heap.size,wb13.heap.size)::iv12) r (oldF w) he fun x hx=>List.mem_cons_of_mem _ hx
    clear hp
    have hp9:=hn.got (S:=fun _=>False) r.baseLe (iv:=(wa13.heap.size,wb13.heap.size)::iv12) List.mem_cons_self
    clear r he hb hn
    generalize (wa13.heap.size,wb13.heap.size)::iv12=iv13 at*
    obtain⟨s13_0,s13_1,s13_2,s13_3,s13_4,s13_5,s13_6,s13_7,rfl⟩:=hp9.shape
    conv=>whnf
    refine callE_S (callE_con (Φ:=fun _ w' v w2=>RatC w2 (Nw (fun _=>False) w' w2) v (sumR (fun k=>sgd k*(at2 M 0 k*detF n fun i j=>at2 M (i+1) (skip k j))) k+ -(q*detF n fun i j=>at2 M (i+1) (skip k j)))) (fun ρ w' r=>rAdd_c (Rel.old r (oldF w)) (RatC.l (hd.rel r (oldF w)) (by omega)) (RatC.l (hp9.rel r (oldF w)) (by first|omega|(rw [rl_neg];omega)))) ?_)
    rintro ρ wa14 v14 wb14 r he hb hn
    replace hw:=hw.tr hb
    clear hd
    clear hp9
    have hd2:=hn.got (S:=fun _=>False) r.baseLe (iv:=(wa14.heap.size,wb14.heap.size)::iv13) List.mem_cons_self
    clear r he hb hn
    generalize (wa14.heap.size,wb14.heap.size)::iv13=iv14 at*
    obtain⟨s14_0,s14_1,s14_2,s14_3,s14_4,s14_5,s14_6,s14_7,rfl⟩:=hd2.shape
    conv=>whnf
    rw[show sumR (fun k=>sgd k*(at2 M 0 k*detF n fun i j=>at2 M (i+1) (skip k j))) k+ -(q*detF n fun i j=>at2 M (i+1) (skip k j))=sumR (fun k=>sgd k*(at2 M 0 k*detF n fun i j=>at2 M (i+1) (skip k j))) (k+1) by
     show _=sumR (fun k=>sgd k*(at2 M 0 k*detF n fun i j=>at2 M (i+1) (skip k j))) k+sgd k*(at2 M 0 k*detF n fun i j=>at2 M (i+1) (skip k j))
     rw[hat];unfold sgd;rw[if_pos hp2];first|rw[Rat.one_mul]|rw[Rat.neg_mul,Rat.one_mul]]at hd2
    refine⟨((k+1:Nat):Int),by rw[wrap64]<;>omega,?_⟩
    conv=>whnf
    intro ρ3 w3 r3
    exact⟨(k+1,((s14_0,s14_4),(s14_1,s14_5),(s14_2,s14_3,s14_6,s14_7)),w3,_),⟨hkb,hw.tr r3.bel,hd2.rel r3 (oldF w)⟩,Sub.gen [] r3 ⟨rfl,rfl,trivial⟩ ⟨rfl,rfl,rfl,rfl,rfl,trivial⟩ (by simp[ScH,Blk.scopd,At.sc]) (by simp[ScE,SV.sc,At.sc]) (by rfl) (fun lo hi h=>h),by dsimp only;omega⟩
   have hp2:¬k % 2=1:=fun e=>by rw[e]at hp2;simp at hp2
   conv=>whnf
   refine callE_S (callE_con (Φ:=fun _ w' v w2=>RatC w2 (Nw (fun _=>False) w' w2) v (sumR (fun k=>sgd k*(at2 M 0 k*detF n fun i j=>at2 M (i+1) (skip k j))) k+(q*detF n fun i j=>at2 M (i+1) (skip k j)))) (fun ρ w' r=>rAdd_c (Rel.old r (oldF w)) (RatC.l (hd.rel r (oldF w)) (by omega)) (RatC.l (hp.rel r (oldF w)) (by first|omega|(rw [rl_neg];omega)))) ?_)
   rintro ρ wa13 v13 wb13 r he hb hn
   replace hw:=hw.tr hb
   clear hd
   clear hp
   have hd2:=hn.got (S:=fun _=>False) r.baseLe (iv:=(wa13.heap.size,wb13.heap.size)::iv12) List.mem_cons_self
   clear r he hb hn
   generalize (wa13.heap.size,wb13.heap.size)::iv12=iv13 at*
   obtain⟨s13_0,s13_1,s13_2,s13_3,s13_4,s13_5,s13_6,s13_7,rfl⟩:=hd2.shape
   conv=>whnf
   rw[show sumR (fun k=>sgd k*(at2 M 0 k*detF n fun i j=>at2 M (i+1) (skip k j))) k+(q*detF n fun i j=>at2 M (i+1) (skip k j))=sumR (fun k=>sgd k*(at2 M 0 k*detF n fun i j=>at2 M (i+1) (skip k j))) (k+1) by
    show _=sumR (fun k=>sgd k*(at2 M 0 k*detF n fun i j=>at2 M (i+1) (skip k j))) k+sgd k*(at2 M 0 k*detF n fun i j=>at2 M (i+1) (skip k j))
    rw[hat];unfold sgd;rw[if_neg hp2];first|rw[Rat.one_mul]|rw[Rat.neg_mul,Rat.one_mul]]at hd2
   refine⟨((k+1:Nat):Int),by rw[wrap64]<;>omega,?_⟩
   conv=>whnf
   intro ρ3 w3 r3
   exact⟨(k+1,((s13_0,s13_4),(s13_1,s13_5),(s13_2,s13_3,s13_6,s13_7)),w3,_),⟨hkb,hw.tr r3.bel,hd2.rel r3 (oldF w)⟩,Sub.gen [] r3 ⟨rfl,rfl,trivial⟩ ⟨rfl,rfl,rfl,rfl,rfl,trivial⟩ (by simp[ScH,Blk.scopd,At.sc]) (by simp[ScE,SV.sc,At.sc]) (by rfl) (fun lo hi h=>h),by dsimp only;omega⟩
  have hkb:k=n+1:=by have:¬(k:Int)<((n+1:Nat):Int):=of_decide_eq_false hkb;omega
  rw[hkb]at hd
  conv=>whnf
  intro ρe we re
  exact⟨_,rfl,hw.tr re.bel,hd.out re (oldF w)⟩
end Go.Ex

/- Certificates of linear programs of package exact: CheckOptimum. Printed by program. No condition but sizes. -/
namespace Go.Ex
open Go Go.Sx Go.Proofs

theorem rs_neg_iff{q:Rat}:rs q<0↔q<0:=by rw[rs,Int.sign_neg_iff,←Int.not_le,Rat.num_nonneg,Rat.not_le]
theorem rs_pos_iff{q:Rat}:0<rs q↔0<q:=by
 have h:=rs_neg_iff (q:= -q)
 rw[rs_neg]at h
 constructor
 ·intro k;have:=h.1 (by omega);grind
 ·intro k;have:=h.2 (by grind);omega
end Go.Ex

/- CheckOptimum of package exact. Printed by program. No condition but sizes. -/
namespace Go.Ex
open Go Go.Sx Go.Proofs

end Go.Ex

/- Minors and Definite, of package exact and of the reference. Printed by program. No condition but sizes. -/
namespace Go.Ex
open Go Go.Sx Go.Proofs

theorem subD_at2(M:List (List Rat))(n:Nat):subD M 0 n=detF n (at2 M):=by
 unfold subD
 rw[Nat.sub_zero]
 exact detF_congr fun i j _ _=>by rw[Nat.zero_add,Nat.zero_add]
/-- the error of a matrix that has to be square -/
def errQ{α:Type}(M:List (List α)):Nat:=if errM M≠0 then errM M else if colsM M≠M.length then 11 else 0
theorem errQ_zero{α:Type}{M:List (List α)}(h:errQ M=0):errM M=0∧colsM M=M.length:=by
 unfold errQ at h
 split at h
 ·rename_i h3;exact absurd h h3
 ·split at h
  ·cases h
  ·rename_i h3 h4;exact⟨by omega,by omega⟩
/-- symmetric, with positive leading minors -/
def DefF(M:List (List Rat)):Prop:=(∀i k,i<M.length→k<i→at2 M i k=at2 M k i)∧∀q∈minorsF M,0<q
theorem rl_minorsF{M:List (List Rat)}{h:Nat}(H:Ht M h)(h2:2≤h):∀q∈minorsF M,rl q≤detB h M.length:=fun q hq=>by
 obtain⟨k,hk,rfl⟩:=List.mem_map.1 hq
 rw[subD_at2]
 exact Nat.le_trans (rl_detF h2 (k+1) _ fun i j _ _=>at2_ht' H h2 _ _) (detB_mono (List.mem_range.1 hk))
theorem xCheckSquare_c{S:Nat→Prop}{w:World}{v:Value}{M:List (List (Int×Int))}(hS:Old S w)(h:RatMR w S v M):Con PG N.exact_checkSquare #[v] w (Ret w fun v' _=>v'= .int .i64 (errQ M)):=by
 have hw:Bel w.heap.size w w:=Bel.refl
 obtain⟨am,cm,rfl,hcm,hmm⟩:=SlicesR.shape h
 unfold maxLen at hmm
 refine in_exact_checkSquare (by simp) ?_
 conv=>whnf
 refine callE_S (callE_con (Φ:=fun _ w' v w2=>v= .int .i64 (errM M)) (fun ρ w' r=>checkMatrix_c (fun g hg=>by have:=hS g hg;have:=r.baseLe;omega) (RatMR.keep h (fun g hg=>(hw.tr r.bel).block g (hS g hg)))) ?_)
 rintro ρ wa1 v1 wb1 r he hb rfl
 replace hw:=hw.tr hb
 clear r he hb
 generalize (wa1.heap.size,wb1.heap.size)::[]=iv1 at*
 conv=>whnf
 refine BrS.mk (fun he=>?_) (fun he=>?_)
 ·have he:errM M≠0:=fun e=>by rw[e]at he;simp at he
  conv=>whnf
  intro ρe we re
  exact⟨_,rfl,hw.tr re.bel,by unfold errQ;rw[if_pos he];rfl⟩
 have he:(errM M:Nat)=0:=by
  have h4:(((errM M:Nat):Int)==(0:Int))=true:=by simpa using he
  have:=eq_of_beq h4
  omega
 conv=>whnf
 refine callE_S (callE_con (Φ:=fun _ w' v w2=>v= .int .i64 (colsM M)) (fun ρ w' r=>columns_c (fun g hg=>by have:=hS g hg;have:=r.baseLe;omega) (RatMR.keep h (fun g hg=>(hw.tr r.bel).block g (hS g hg)))) ?_)
 rintro ρ wa2 v2 wb2 r he hb rfl
 replace hw:=hw.tr hb
 clear r he hb
 generalize (wa2.heap.size,wb2.heap.size)::iv1=iv2 at*
 conv=>whnf
 refine BrS.mk (fun hl=>?_) (fun hl=>?_)
 ·have hl:colsM M≠M.length:=fun e=>by rw[e]at hl;simp at hl
  conv=>whnf
  intro ρe we re
  exact⟨_,rfl,hw.tr re.bel,by unfold errQ;rw[if_neg (by omega),if_pos hl];rfl⟩
 have hl:(colsM M:Nat)=(M.length:Nat):=by
  have h4:(((colsM M:Nat):Int)==((M.length:Nat):Int))=true:=by simpa using hl
  have:=eq_of_beq h4
  omega
 conv=>whnf
 intro ρe we re
 exact⟨_,rfl,hw.tr re.bel,by unfold errQ;rw[if_neg (by omega),if_neg (by omega)];rfl⟩
theorem rCheckSquare_c{S:Nat→Prop}{w:World}{v:Value}{M:List (List (Int×Int))}(hS:Old S w)(h:RatMR w S v M):Con PG N.ref01_CheckSquare #[v] w (Ret w fun v' _=>v'= .int .i64 (errQ M)):=by
 have hw:Bel w.heap.size w w:=Bel.refl
 obtain⟨am,cm,rfl,hcm,hmm⟩:=SlicesR.shape h
 unfold maxLen at hmm
 refine in_ref01_CheckSquare (by simp) ?_
 conv=>whnf
 refine callE_S (callE_con (Φ:=fun _ w' v w2=>v= .int .i64 (errM M)) (fun ρ w' r=>rCheckMatrix_c (fun g hg=>by have:=hS g hg;have:=r.baseLe;omega) (RatMR.keep h (fun g hg=>(hw.tr r.bel).block g (hS g hg)))) ?_)
 rintro ρ wa1 v1 wb1 r he hb rfl
 replace hw:=hw.tr hb
 clear r he hb
 generalize (wa1.heap.size,wb1.heap.size)::[]=iv1 at*
 conv=>whnf
 refine BrS.mk (fun he=>?_) (fun he=>?_)
 ·have he:errM M≠0:=fun e=>by rw[e]at he;simp at he
  conv=>whnf
  intro ρe we re
  exact⟨_,rfl,hw.tr re.bel,by unfold errQ;rw[if_pos he];rfl⟩
 have he:(errM M:Nat)=0:=by
  have h4:(((errM M:Nat):Int)==(0:Int))=true:=by simpa using he
  have:=eq_of_beq h4
  omega
 conv=>whnf
 refine callE_S (callE_con (Φ:=fun _ w' v w2=>v= .int .i64 (colsM M)) (fun ρ w' r=>rColumns_c (fun g hg=>by have:=hS g hg;have:=r.baseLe;omega) (RatMR.keep h (fun g hg=>(hw.tr r.bel).block g (hS g hg)))) ?_)
 rintro ρ wa2 v2 wb2 r he hb rfl
 replace hw:=hw.tr hb
 clear r he hb
 generalize (wa2.heap.size,wb2.heap.size)::iv1=iv2 at*
 conv=>whnf
 refine BrS.mk (fun hl=>?_) (fun hl=>?_)
 ·have hl:colsM M≠M.length:=fun e=>by rw[e]at hl;simp at hl
  conv=>whnf
  intro ρe we re
  exact⟨_,rfl,hw.tr re.bel,by unfold errQ;rw[if_neg (by omega),if_pos hl];rfl⟩
 have hl:(colsM M:Nat)=(M.length:Nat):=by
  have h4:(((colsM M:Nat):Int)==((M.length:Nat):Int))=true:=by simpa using hl
  have:=eq_of_beq h4
  omega
 conv=>whnf
 intro ρe we re
 exact⟨_,rfl,hw.tr re.bel,by unfold errQ;rw[if_neg (by omega),if_neg (by omega)];rfl⟩
theorem neg1_c{S:Nat→Prop}{w:World}{v:Value}{f:Rat}(hS:Old S w)(hf:FracR w S v f):
  Con PG N.exact_Definite_1 #[v] w (Ret w fun v' _=>v'= .bool (decide (f≤0))):=by
 have hw:Bel w.heap.size w w:=Bel.refl
 obtain⟨b1,a1,n1,c1,b2,a2,n2,c2,rfl⟩:=hf.shape
 refine in_exact_Definite_1 (by simp) ?_
 conv=>whnf
 refine callE_S (callE_con (Φ:=fun _ w' v w2=>v= .int .i64 (rs f)) (fun ρ w' r=>fsign_c (fun g hg=>by have:=hS g hg;have:=r.baseLe;omega) (hf.keep fun g hg=>(hw.tr r.bel).block g (hS g hg))) ?_)
 rintro ρ wa1 v1 wb1 r he hb rfl
 replace hw:=hw.tr hb
 clear r he hb
 generalize (wa1.heap.size,wb1.heap.size)::[]=iv1 at*
 conv=>whnf
 intro ρe we re
 exact⟨_,rfl,hw.tr re.bel,by rw[show decide (f≤0)=decide (rs f≤0)from Bool.eq_iff_iff.2 (by rw[decide_eq_true_eq,decide_eq_true_eq,←Rat.not_lt,←Int.not_lt,rs_pos_iff])];rfl⟩
theorem indexNeg_c{S:Nat→Prop}{w:World}{v:Value}{xs:List Rat}(hS:Old S w)(hx:RowR w S S v xs):
  Con PG N.slices_IndexFunc_of_exact_row_exact_fraction_of #[v,fnV N.exact_Definite_1] w (Ret w fun v' _=>∃z:Int,v'= .int .i64 z∧ -1≤z∧z≤9223372036854775807∧(0≤z↔∃x∈xs,x≤0)):=by
 have hw:Bel w.heap.size w w:=Bel.refl
 obtain⟨ax,cx,rfl,hcx,hmx⟩:=hx.shape
 unfold maxLen at hmx
 refine in_slices_IndexFunc_of_exact_row_exact_fraction_of (by simp) ?_
 conv=>whnf
 refine⟨Nat×World×Iv,fun z=>⟨[(0,.o (.v (.slice ax xs.length cx))),(1,.o (.v (fnV N.exact_Definite_1))),(7,.o (.v (.int .i64 xs.length))),(8,.o (.v (.int .i64 ((z.1:Nat):Int))))],[],0,z.2.2,z.2.1⟩,fun z=>xs.length-z.1,
  fun z=>z.1≤xs.length∧Bel w.heap.size w z.2.1∧∀j x,j<z.1→xs[j]? =some x→¬x≤0,?_,?_⟩
 ·intro ρ w' r
  exact⟨(0,w',[]),⟨by simp,r.bel,by simp⟩,Sub.gen [] r trivial ⟨rfl,rfl,rfl,rfl,trivial⟩ (by simp[ScH]) (by simp[ScE,SV.sc,At.sc]) (by rfl) (by simp)⟩
 clear hw
 rintro⟨i,w1,iv⟩ ⟨hi,hw,ht⟩
 dsimp only at hi hw ht ⊢
 conv=>whnf
 refine BrS.mk (fun hib=>?_) (fun hib=>?_)
 ·have hib:i<xs.length:=by simpa using hib
  obtain⟨x,hxi⟩:∃x,xs[i]? =some x:=⟨_,List.getElem?_eq_getElem hib⟩
  obtain⟨adx,csx,hax,hFx,hlx⟩:=hx.load hxi
  obtain⟨p0,p1,p2,p3,p4,p5,p6,p7,rfl,hFx⟩:=hFx
  conv=>whnf
  refine⟨adx,hax,⟨by omega,by omega⟩,?_⟩
  conv=>whnf
  refine⟨[.bool p0,.slice p1 p2 p3,.bool p4,.slice p5 p6 p7],rfl,fun ρ w' r j u hu=>?_,?_⟩
  ·obtain⟨k1,k2⟩:=hlx j u hu
   rw[Int.toNat_natCast,cell_of_heap (w:=w) (w2:=w') (by rw[addB,addB];exact(hw.tr r.bel).block _ (hS _ k1))]
   exact k2
  conv=>whnf
  refine callE_S (callE_con (Φ:=fun _ w' v w2=>v= .bool (decide (x≤0))) (fun ρ w' r=>neg1_c (fun g hg=>by have:=hS g hg;have:=r.baseLe;omega) (hFx.keep fun g hg=>(hw.tr r.bel).block g (hS g hg))) ?_)
  rintro ρ wa1 v1 wb1 r he hb rfl
  replace hw:=hw.tr hb
  clear r he hb
  generalize (wa1.heap.size,wb1.heap.size)::iv=iv1 at*
  conv=>whnf
  refine BrS.mk (fun he=>?_) (fun he=>?_)
  ·have he1:x≤0:=of_decide_eq_true he
   conv=>whnf
   intro ρe we re
   exact⟨_,rfl,hw.tr re.bel,⟨_,rfl,by omega,by omega,iff_of_true (by omega) ⟨x,List.mem_of_getElem? hxi,he1⟩⟩⟩
  have he1:¬x≤0:=of_decide_eq_false he
  conv=>whnf
  refine⟨((i+1:Nat):Int),by rw[wrap64]<;>omega,?_⟩
  conv=>whnf
  intro ρ3 w3 r3
  refine⟨(i+1,w3,_),⟨hib,hw.tr r3.bel,fun j y hj hy=>?_⟩,Sub.gen [] r3 trivial ⟨rfl,rfl,rfl,rfl,trivial⟩ (by simp[ScH]) (by simp[ScE,SV.sc,At.sc]) (by rfl) (fun lo hi h=>h),by dsimp only;omega⟩
  rcases Nat.lt_or_ge j i with h|h
  ·exact ht j y h hy
  obtain rfl:j=i:=by dsimp only at hj;omega
  rw[hxi]at hy
  injection hy with hy
  rw[←hy];exact he1
 have hib:i=xs.length:=Nat.le_antisymm hi (by simpa using hib)
 conv=>whnf
 intro ρe we re
 exact⟨_,rfl,hw.tr re.bel,⟨_,rfl,by omega,by omega,iff_of_false (by omega) fun⟨x,hm,h0⟩=>by
   obtain⟨j,hj⟩:=List.getElem?_of_mem hm
   have hjl:j<xs.length:=(List.getElem?_eq_some_iff.1 hj).1
   exact ht j x (by omega) hj h0⟩⟩
theorem containsNeg_c{S:Nat→Prop}{w:World}{v:Value}{xs:List Rat}(hS:Old S w)(hx:RowR w S S v xs):
  Con PG N.slices_ContainsFunc_of_exact_row_exact_fraction_of #[v,fnV N.exact_Definite_1] w (Ret w fun v' _=>v'= .bool (decide (∃x∈xs,x≤0))):=by
 have hw:Bel w.heap.size w w:=Bel.refl
 have hx0:=hx
 obtain⟨ax,cx,rfl,hcx,-⟩:=hx0.shape
 refine in_slices_ContainsFunc_of_exact_row_exact_fraction_of (by simp) ?_
 conv=>whnf
 refine callE_S (callE_con (Φ:=fun _ w' v w2=>∃z:Int,v= .int .i64 z∧ -1≤z∧z≤9223372036854775807∧(0≤z↔∃x∈xs,x≤0)) (fun ρ w' r=>indexNeg_c (fun g hg=>by have:=hS g hg;have:=r.baseLe;omega) (hx.keep fun g hg=>(hw.tr r.bel).block g (hS g (hg.elim id id)))) ?_)
 rintro ρ wa1 v1 wb1 r he hb ⟨z,rfl,hz1,hz2,hz⟩
 replace hw:=hw.tr hb
 clear r he hb
 generalize (wa1.heap.size,wb1.heap.size)::[]=iv1 at*
 conv=>whnf
 intro ρe we re
 exact⟨_,rfl,hw.tr re.bel,by rw[show decide (∃x∈xs,x≤0)=decide (z≥0)from Bool.eq_iff_iff.2 (by rw[decide_eq_true_eq,decide_eq_true_eq];exact hz.symm)];rfl⟩
theorem pubMinors_c{S:Nat→Prop}{w:World}{v:Value}{M:List (List (Int×Int))}{h0:Nat}(hS:Old S w)(h:RatMR w S v M)(hf:errQ M=0→(∀r∈M,Few r)∧Ht (valsM M) h0∧2≤h0∧4^M.length*h0≤500000000∧detB h0 M.length≤1000000000):
  Con PG N.exact_Minors #[v] w (Ret w fun v' w2=>(errQ M≠0∧v'= .tuple #[.slice none 0 0,.int .i64 (errQ M)])∨(errQ M=0∧∃l,v'= .tuple #[l,.int .i64 0]∧RatsC w2 (Nw (fun _=>False) w w2) l (minorsF (valsM M)))):=by
 have hw:Bel w.heap.size w w:=Bel.refl
 obtain⟨am,cm,rfl,hcm,hmm⟩:=SlicesR.shape h
 refine in_exact_Minors (by simp) ?_
 conv=>whnf
 refine callE_S (callE_con (Φ:=fun _ w' v w2=>v= .int .i64 ((errQ M:Nat):Int)) (fun ρ w' r=>xCheckSquare_c (fun g hg=>by have:=hS g hg;have:=r.baseLe;omega) (RatMR.keep h (fun g hg=>(hw.tr r.bel).block g (hS g hg)))) ?_)
 rintro ρ wa1 v1 wb1 r he hb rfl
 replace hw:=hw.tr hb
 clear r he hb
 generalize (wa1.heap.size,wb1.heap.size)::[]=iv1 at*
 conv=>whnf
 refine BrS.mk (fun he=>?_) (fun he=>?_)
 ·have he:errQ M≠0:=fun e=>by rw[e]at he;simp at he
  conv=>whnf
  intro ρe we re
  exact⟨_,rfl,hw.tr re.bel,.inl ⟨he,rfl⟩⟩
 have he:(errQ M:Nat)=0:=by
  have h4:(((errQ M:Nat):Int)==(0:Int))=true:=by simpa using he
  have:=eq_of_beq h4
  omega
 obtain⟨hfM,hht,h2,hbd,hB⟩:=hf he
 obtain⟨hE,hsq⟩:=errQ_zero he
 obtain⟨hrow,hRl,hcl⟩:=errM_zero hE
 have hAl:(valsM M).length=M.length:=by simp[valsM]
 have hrowA:∀r∈valsM M,r.length=(valsM M).length:=fun r hr=>by
  obtain⟨x,hx,rfl⟩:=List.mem_map.1 hr
  rw[List.length_map,hAl,hrow x hx,hsq]
 conv=>whnf
 refine callE_S (callE_con (Φ:=fun _ w' v w2=>MatG w2 (Nw (fun _=>False) w' w2) v (valsM M)) (fun ρ w' r=>matrixG_c (fun g hg=>by have:=hS g hg;have:=r.baseLe;omega) (RatMR.keep h (fun g hg=>(hw.tr r.bel).block g (hS g hg))) hfM (fun r hr=>by rw[hrow r hr];omega) (by omega)) ?_)
 rintro ρ wa2 v2 wb2 r he hb hn
 replace hw:=hw.tr hb
 have gA:=hn.got (S:=fun _=>False) r.baseLe (iv:=(wa2.heap.size,wb2.heap.size)::iv1) List.mem_cons_self
 clear r he hb hn
 generalize (wa2.heap.size,wb2.heap.size)::iv1=iv2 at*
 obtain⟨aA,cA,rfl⟩:=gA.shape
 conv=>whnf
 refine callE_S (callE_con (Φ:=fun _ w' v w2=>RowG w2 (Nw (fun _=>False) w' w2) v (minorsF (valsM M))) (fun ρ w' r=>minors_c (h:=h0) (Rel.old r (oldF w)) (gA.rel r (oldF w)) hrowA (by omega) hht h2 (by rw[hAl];exact hbd)) ?_)
 rintro ρ wa3 v3 wb3 r he hb hn
 replace hw:=hw.tr hb
 clear gA
 have gm:=hn.got (S:=fun _=>False) r.baseLe (iv:=(wa3.heap.size,wb3.heap.size)::iv2) List.mem_cons_self
 clear r he hb hn
 generalize (wa3.heap.size,wb3.heap.size)::iv2=iv3 at*
 obtain⟨ag,cg,rfl⟩:=gm.shape
 conv=>whnf
 refine callE_S (callE_con (Φ:=fun _ w' v w2=>RatsC w2 (Nw (fun _=>False) w' w2) v (minorsF (valsM M))) (fun ρ w' r=>rowGive_c (Rel.old r (oldF w)) (gm.rel r (oldF w)) (by rw[minorsF_length];omega) (fun q hq=>by have:=rl_minorsF hht h2 q hq;rw[hAl]at this;omega)) ?_)
 rintro ρ wa4 v4 wb4 r he hb hn
 replace hw:=hw.tr hb
 clear gm
 have hR:=RatsC.got (S:=fun _=>False) hn r.baseLe (iv:=(wa4.heap.size,wb4.heap.size)::iv3) List.mem_cons_self
 clear r he hb
 generalize (wa4.heap.size,wb4.heap.size)::iv3=iv4 at*
 clear hn
 obtain⟨a1,c1,rfl,-,-⟩:=ListR.shape hR
 conv=>whnf
 intro ρe we re
 exact⟨_,rfl,hw.tr re.bel,.inr ⟨he,_,rfl,RatsC.out hR re (oldF w)⟩⟩
theorem pubDefinite_c{S:Nat→Prop}{w:World}{v:Value}{M:List (List (Int×Int))}{h0:Nat}(hS:Old S w)(h:RatMR w S v M)(hf:errQ M=0→(∀r∈M,Few r)∧Ht (valsM M) h0∧2≤h0∧4^M.length*h0≤500000000)(h0b:h0≤1000000000):
  Con PG N.exact_Definite #[v] w (Ret w fun v' _=>(errQ M≠0∧v'= .tuple #[.bool false,.int .i64 (errQ M)])∨(errQ M=0∧∃d,v'= .tuple #[.bool d,.int .i64 0]∧(d=true→DefF (valsM M))∧(DefF (valsM M)→d=true))):=by
 have hw:Bel w.heap.size w w:=Bel.refl
 obtain⟨am,cm,rfl,hcm,hmm⟩:=SlicesR.shape h
 refine in_exact_Definite (by simp) ?_
 conv=>whnf
 refine callE_S (callE_con (Φ:=fun _ w' v w2=>v= .int .i64 ((errQ M:Nat):Int)) (fun ρ w' r=>xCheckSquare_c (fun g hg=>by have:=hS g hg;have:=r.baseLe;omega) (RatMR.keep h (fun g hg=>(hw.tr r.bel).block g (hS g hg)))) ?_)
 rintro ρ wa1 v1 wb1 r he hb rfl
 replace hw:=hw.tr hb
 clear r he hb
 generalize (wa1.heap.size,wb1.heap.size)::[]=iv1 at*
 conv=>whnf
 refine BrS.mk (fun he=>?_) (fun he=>?_)
 ·have he:errQ M≠0:=fun e=>by rw[e]at he;simp at he
  conv=>whnf
  intro ρe we re
  exact⟨_,rfl,hw.tr re.bel,.inl ⟨he,rfl⟩⟩
 have he:(errQ M:Nat)=0:=by
  have h4:(((errQ M:Nat):Int)==(0:Int))=true:=by simpa using he
  have:=eq_of_beq h4
  omega
 obtain⟨hfM,hht,h2,hbd⟩:=hf he
 obtain⟨hE,hsq⟩:=errQ_zero he
 obtain⟨hrow,hRl,hcl⟩:=errM_zero hE
 have hAl:(valsM M).length=M.length:=by simp[valsM]
 have hrowA:∀r∈valsM M,r.length=(valsM M).length:=fun r hr=>by
  obtain⟨x,hx,rfl⟩:=List.mem_map.1 hr
  rw[List.length_map,hAl,hrow x hx,hsq]
 conv=>whnf
 refine callE_S (callE_con (Φ:=fun _ w' v w2=>MatG w2 (Nw (fun _=>False) w' w2) v (valsM M)) (fun ρ w' r=>matrixG_c (fun g hg=>by have:=hS g hg;have:=r.baseLe;omega) (RatMR.keep h (fun g hg=>(hw.tr r.bel).block g (hS g hg))) hfM (fun r hr=>by rw[hrow r hr];omega) (by omega)) ?_)
 rintro ρ wa2 v2 wb2 r he hb hn
 replace hw:=hw.tr hb
 have gA:=hn.got (S:=fun _=>False) r.baseLe (iv:=(wa2.heap.size,wb2.heap.size)::iv1) List.mem_cons_self
 clear r he hb hn
 generalize (wa2.heap.size,wb2.heap.size)::iv1=iv2 at*
 obtain⟨aA,cA,rfl⟩:=gA.shape
 rw[hAl]at gA hrowA ⊢
 clear hf h hfM
 generalize valsM M=A at*
 generalize M.length=R at*
 conv=>whnf
 refine⟨Nat×World×Iv,fun z=>⟨[(5,.o (.v (.slice aA R cA))),(16,.o (.v (.int .i64 R))),(17,.o (.v (.int .i64 ((z.1:Nat):Int))))],[],0,z.2.2,z.2.1⟩,fun z=>R-z.1,
  fun z=>z.1≤R∧Bel w.heap.size w z.2.1∧MatG z.2.1 (Cv (fun _=>False) w.heap.size z.2.2) (.slice aA R cA) A∧∀i k,i<z.1→k<i→at2 A i k=at2 A k i,?_,?_⟩
 ·intro ρ w' r
  exact⟨(0,w',_),⟨Nat.zero_le _,hw.tr r.bel,gA.rel r (oldF w),fun i k hi=>by dsimp only at hi;omega⟩,Sub.gen [] r trivial ⟨rfl,rfl,rfl,trivial⟩ (by simp[ScH]) (by simp[ScE,SV.sc,At.sc]) (by rfl) (fun lo hi h=>h)⟩
 clear hw gA
 rintro⟨i,w1,iv⟩ ⟨hi,hw,gA,hs⟩
 dsimp only at hi hw gA hs ⊢
 conv=>whnf
 refine BrS.mk (fun hib=>?_) (fun hib=>?_)
 ·have hib:i<R:=by simpa using hib
  conv=>whnf
  refine⟨Nat×World×Iv,fun z=>⟨[(5,.o (.v (.slice aA R cA))),(16,.o (.v (.int .i64 R))),(17,.o (.v (.int .i64 ((i:Nat):Int)))),(6,.o (.v (.int .i64 ((i:Nat):Int)))),(20,.o (.v (.int .i64 ((i:Nat):Int)))),(21,.o (.v (.int .i64 ((z.1:Nat):Int))))],[],0,z.2.2,z.2.1⟩,fun z=>i-z.1,
   fun z=>z.1≤i∧Bel w.heap.size w z.2.1∧MatG z.2.1 (Cv (fun _=>False) w.heap.size z.2.2) (.slice aA R cA) A∧∀k,k<z.1→at2 A i k=at2 A k i,?_,?_⟩
  ·intro ρ w' r
   exact⟨(0,w',_),⟨Nat.zero_le _,hw.tr r.bel,gA.rel r (oldF w),fun k hk=>by dsimp only at hk;omega⟩,Sub.gen [] r trivial ⟨rfl,rfl,rfl,rfl,rfl,rfl,trivial⟩ (by simp[ScH]) (by simp[ScE,SV.sc,At.sc]) (by rfl) (fun lo hi h=>h)⟩
  clear hw gA
  rintro⟨k,w1,iv⟩ ⟨hk,hw,gA,ht⟩
  dsimp only at hk hw gA ht ⊢
  conv=>whnf
  refine BrS.mk (fun hkb=>?_) (fun hkb=>?_)
  ·have hkb:k<i:=by simpa using hkb
   obtain⟨rd,hrd⟩:∃r,A[i]? =some r:=⟨_,List.getElem?_eq_getElem (by omega)⟩
   have hld:=hrowA rd (List.mem_of_getElem? hrd)
   obtain⟨qd,hqd⟩:∃q,rd[k]? =some q:=⟨_,List.getElem?_eq_getElem (by omega)⟩
   have hed:at2 A i k=qd:=by unfold at2;simp[List.getD,hrd,hqd]
   obtain⟨add,ud,had,hRd,k1d,k2d⟩:=SlicesR.load (show MatR _ _ _ _ from gA) hrd
   obtain⟨aud,cud,rfl⟩:=SlicesR.rowOf hRd
   obtain⟨aed,csd,haed,hFd,hled⟩:=hRd.load hqd
   obtain⟨d0,d1,d2,d3,d4,d5,d6,d7,rfl,hFd⟩:=hFd
   obtain⟨re,hre⟩:∃r,A[k]? =some r:=⟨_,List.getElem?_eq_getElem (by omega)⟩
   have hle:=hrowA re (List.mem_of_getElem? hre)
   obtain⟨qe,hqe⟩:∃q,re[i]? =some q:=⟨_,List.getElem?_eq_getElem (by omega)⟩
   have hee:at2 A k i=qe:=by unfold at2;simp[List.getD,hre,hqe]
   obtain⟨ade,ue,hae,hRe,k1e,k2e⟩:=SlicesR.load (show MatR _ _ _ _ from gA) hre
   obtain⟨aue,cue,rfl⟩:=SlicesR.rowOf hRe
   obtain⟨aee,cse,haee,hFe,hlee⟩:=hRe.load hqe
   obtain⟨e0,e1,e2,e3,e4,e5,e6,e7,rfl,hFe⟩:=hFe
   have hqd2:=hht.at hrd qd (List.mem_of_getElem? hqd)
   have hqe2:=hht.at hre qe (List.mem_of_getElem? hqe)
   conv=>whnf
   refine drawn_of_pi hτ hmix [.x 0,.x 1,.x 2,.x 3,.x 4,.x 5,.x 6,.x 7,.x 8,.x 9,.x 10,.x 11,.x 12,.x 13,.x 14,.x 15] (by kernel_rfl) (by kernel_rfl) ?_
   conv=>whnf
   refine⟨add,had,⟨by omega,by omega⟩,?_⟩
   conv=>whnf
   refine⟨.slice aud rd.length cud,fun ρ w' r=>?_,?_⟩
   ·rw[Int.toNat_natCast,cell_of_heap (w:=w1) (w2:=w') (by rw[addB];exact Rel.same r (oldF w) k1d)]
    exact k2d
   conv=>whnf
   refine⟨aed,haed,⟨by omega,by omega⟩,?_⟩
   conv=>whnf
   refine⟨[.bool d0,.slice d1 d2 d3,.bool d4,.slice d5 d6 d7],rfl,fun ρ w' r j u hu=>?_,?_⟩
   ·obtain⟨z1,z2⟩:=hled j u hu
    rw[Int.toNat_natCast,cell_of_heap (w:=w1) (w2:=w') (by rw[addB,addB];exact Rel.same r (oldF w) z1)]
    exact z2
   conv=>whnf
   refine⟨ade,hae,⟨by omega,by omega⟩,?_⟩
   conv=>whnf
   refine⟨.slice aue re.length cue,fun ρ w' r=>?_,?_⟩
   ·rw[Int.toNat_natCast,cell_of_heap (w:=w1) (w2:=w') (by rw[addB];exact Rel.same r (oldF w) k1e)]
    exact k2e
   conv=>whnf
   refine⟨aee,haee,⟨by omega,by omega⟩,?_⟩
   conv=>whnf
   refine⟨[.bool e0,.slice e1 e2 e3,.bool e4,.slice e5 e6 e7],rfl,fun ρ w' r j u hu=>?_,?_⟩
   ·obtain⟨z1,z2⟩:=hlee j u hu
    rw[Int.toNat_natCast,cell_of_heap (w:=w1) (w2:=w') (by rw[addB,addB];exact Rel.same r (oldF w) z1)]
    exact z2
   conv=>whnf
   refine callE_con (Φ:=fun _ w' v w2=>v= .int .i64 (rs (qd-qe))) (fun ρ w' r=>fcmp_c (Rel.old r (oldF w)) (hFd.rel r (oldF w)) (hFe.rel r (oldF w)) (by have:=h0b;omega) (by have:=h0b;omega)) ?_
   rintro ρ wa11 v11 wb11 r he hb rfl
   replace hw:=hw.tr hb
   replace gA:=gA.past (iv':=(wa11.heap.size,wb11.heap.size)::iv) r (oldF w) he fun x hx=>List.mem_cons_of_mem _ hx
   clear r he hb
   generalize (wa11.heap.size,wb11.heap.size)::iv=iv11 at*
   conv=>whnf
   clear hRd hRe hFd hFe hled hlee k1d k1e k2d k2e
   refine BrS.mk (fun hc=>?_) (fun hc=>?_)
   ·have hc:qd≠qe:=fun e=>by rw[rs_eq.2 e]at hc;simp at hc
    conv=>whnf
    intro ρe we re
    exact⟨_,rfl,hw.tr re.bel,.inr ⟨he,false,rfl,fun h=>(by cases h),fun h=>absurd (by rw[←hed,←hee];exact h.1 i k (by omega) hkb) hc⟩⟩
   have hc:qd=qe:=rs_eq.1 (by simpa using hc)
   conv=>whnf
   refine⟨((k+1:Nat):Int),by rw[wrap64]<;>omega,?_⟩
   conv=>whnf
   intro ρ3 w3 r3
   refine⟨(k+1,w3,_),⟨hkb,hw.tr r3.bel,gA.rel r3 (oldF w),fun j hj=>?_⟩,Sub.gen [] r3 trivial ⟨rfl,rfl,rfl,rfl,rfl,rfl,trivial⟩ (by simp[ScH]) (by simp[ScE,SV.sc,At.sc]) (by rfl) (fun lo hi h=>h),by dsimp only;omega⟩
   rcases Nat.lt_or_ge j k with h1|h1
   ·exact ht j h1
   ·rw[show j=k by dsimp only at hj;omega,hed,hee,hc]
  have hkb:k=i:=Nat.le_antisymm hk (by simpa using hkb)
  conv=>whnf
  refine⟨((i+1:Nat):Int),by rw[wrap64]<;>omega,?_⟩
  conv=>whnf
  intro ρ3 w3 r3
  refine⟨(i+1,w3,_),⟨hib,hw.tr r3.bel,gA.rel r3 (oldF w),fun i2 k2 h1 h2=>?_⟩,Sub.gen [] r3 trivial ⟨rfl,rfl,rfl,trivial⟩ (by simp[ScH]) (by simp[ScE,SV.sc,At.sc]) (by rfl) (fun lo hi h=>h),by dsimp only;omega⟩
  rcases Nat.lt_or_ge i2 i with h3|h3
  ·exact hs i2 k2 h3 h2
  ·obtain rfl:i2=i:=by dsimp only at h1;omega
   exact ht k2 (by omega)
 have hib:i=R:=Nat.le_antisymm hi (by simpa using hib)
 subst hib
 conv=>whnf
 refine callE_S (callE_con (Φ:=fun _ w' v w2=>RowG w2 (Nw (fun _=>False) w' w2) v (minorsF A)) (fun ρ w' r=>minors_c (h:=h0) (Rel.old r (oldF w)) (gA.rel r (oldF w)) (fun r hr=>(hrowA r hr).trans hAl.symm) (by omega) hht h2 (by rw[hAl];exact hbd)) ?_)
 rintro ρ wa21 v21 wb21 r he hb hn
 replace hw:=hw.tr hb
 clear gA
 have gm:=hn.got (S:=fun _=>False) r.baseLe (iv:=(wa21.heap.size,wb21.heap.size)::iv) List.mem_cons_self
 clear r he hb hn
 generalize (wa21.heap.size,wb21.heap.size)::iv=iv21 at*
 obtain⟨ag,cg,rfl⟩:=gm.shape
 conv=>whnf
 refine callE_S (callE_con (Φ:=fun _ w' v w2=>v= .bool (decide (∃x∈minorsF A,x≤0))) (fun ρ w' r=>containsNeg_c (Rel.old r (oldF w)) (gm.rel r (oldF w))) ?_)
 rintro ρ wa22 v22 wb22 r he hb rfl
 replace hw:=hw.tr hb
 clear gm
 clear r he hb
 generalize (wa22.heap.size,wb22.heap.size)::iv21=iv22 at*
 conv=>whnf
 intro ρe we re
 exact⟨_,rfl,hw.tr re.bel,.inr ⟨he,_,rfl,fun h=>⟨fun i k hi hk=>hs i k (by omega) hk,fun q hq=>Rat.not_le.1 fun h0=>by rw[decide_eq_true (⟨q,hq,h0⟩:∃x∈minorsF A,x≤0)]at h;cases h⟩,fun h=>by rw[decide_eq_false (fun ⟨q,hq,h0⟩=>absurd (h.2 q hq) (Rat.not_lt.2 h0):¬ ∃x∈minorsF A,x≤0)];rfl⟩⟩
end Go.Ex

/- Basic of the reference: the basic solution of a system. Printed by program. No condition but sizes. -/
namespace Go.Ex
open Go Go.Sx Go.Proofs

end Go.Ex

/- Dot, Before and IsContradiction of the reference. Printed by program. No condition but sizes. -/
namespace Go.Ex
open Go Go.Sx Go.Proofs

section
variable{S:Nat→Prop}{H:Hp}{nx:Nat}{iv iv':Iv}{B:Nat}{w w' w2:World}{ρ:Nat→Sx.Val}{css:List (List Value)}{qs:List Rat}
theorem Fc.rel(h:Fc w (Cv S B iv) css qs)(r:Rel H nx iv B w ρ w')(hS:∀g,S g→g<B):Fc w' (Cv S B iv) css qs:=h.keep fun _ hg=>Rel.same r hS hg
theorem Fc.past(h:Fc w (Cv S B iv) css qs)(r:Rel H nx iv B w ρ w')(hS:∀g,S g→g<B)(he:Ext w' w2)(hm:∀p,p∈iv→p∈iv'):Fc w2 (Cv S B iv') css qs:=
 ((h.rel r hS).keep fun g hg=>he.block g (Rel.old r hS g hg)).weak fun _ hg=>hg.mono hm
theorem Fc.push{cs:List Value}{q:Rat}(h:Fc w S css qs)(hc:Rat4C w S cs q):Fc w S (css++[cs]) (qs++[q]):=by
 refine⟨by simp[h.1],fun j x p h1 h2=>?_⟩
 rcases Nat.lt_or_ge j css.length with hi|hi
 ·rw[List.getElem?_append_left hi]at h1
  rw[List.getElem?_append_left (by rw[←h.1];exact hi)]at h2
  exact h.2 j x p h1 h2
 ·have hi0:j=css.length:=by have:=(List.getElem?_eq_some_iff.1 h1).1;simp at this;omega
  subst hi0
  rw[List.getElem?_append_right (Nat.le_refl _),Nat.sub_self]at h1
  rw[h.1,List.getElem?_append_right (Nat.le_refl _),Nat.sub_self]at h2
  simp at h1 h2
  subst h1 h2
  exact hc
end
end Go.Ex

/- Solve, CheckSolution, Basic and IsContradiction at the sizes of the laws. Printed by program. No condition but sizes. -/
namespace Go.Ex
open Go Go.Sx Go.Proofs

section
variable{S S':Nat→Prop}{H:Hp}{nx:Nat}{iv iv':Iv}{B:Nat}{w w' w2:World}{ρ:Nat→Sx.Val}{v:Value}{b:List (Int×Int)}
end

/-- numerators and denominators -/
def pairs(qs:List Rat):List (Int×Int):=qs.map fun q=>(q.num,(q.den:Int))
section
variable{S:Nat→Prop}{w:World}{v u:Value}{M:List (List (Int×Int))}{b:List (Int×Int)}
end
end Go.Ex

/- CheckSolution of the reference, at the sizes of the laws. Printed by program. No condition but sizes. -/
namespace Go.Ex
open Go Go.Sx Go.Proofs

end Go.Ex

/- The law ExactAccepts. Printed by program. No condition but sizes. -/
namespace Go.Ex
open Go Go.Sx Go.Proofs

/-- Small and brief, called in a later world -/
theorem smallW_c{S:Nat→Prop}{w w':World}{v:Value}{M:List (List (Int×Int))}(hS:Old S w')(hk:∀g,S g→w'.heap[g]? =w.heap[g]?)(h:RatMR w S v M):
  Con PG N.law01_Small #[v] w' (Ret w' fun v' _=>∃d,v'= .bool d∧(d=true→SmallM w S v M)):=
 (smallM_c hS (RatMR.keep h hk)).mono fun _ _ ⟨v2,e1,e2,d,e3,e4⟩=>⟨v2,e1,e2,d,e3,fun hd=>(e4 hd).keep fun g hg=>(hk g hg).symm⟩
section
variable{S:Nat→Prop}{w:World}{v u vx vk vp:Value}{z:Int}{M K:List (List (Int×Int))}{b X P:List (Int×Int)}
end
end Go.Ex

/- Minors and Definite of the reference; the law ExactMinors. Printed by program. No condition but sizes. -/
namespace Go.Ex
open Go Go.Sx Go.Proofs

theorem rMinors_c{S:Nat→Prop}{w:World}{vm:Value}{M:List (List Rat)}{h:Nat}(hS:Old S w)(hM:RatML w S vm M)(hrow:∀r∈M,r.length=M.length)(hR:M.length≤1000)(hht:Ht M h)(h2:2≤h)(hBd:detB h M.length≤90000):
  Con PG N.ref01_Minors #[vm] w (Ret w fun v' w2=>RatsC w2 (Nw (fun _=>False) w w2) v' (minorsF M)):=by
 have hw:Bel w.heap.size w w:=Bel.refl
 obtain⟨am,cm,rfl,hcm,hmm⟩:=SlicesR.shape hM
 obtain⟨R,hRe⟩:∃R,R=M.length:=⟨_,rfl⟩
 have hmf:=minorsF_length M
 rw[←hRe]at hcm hmm hrow hR hBd hM hmf ⊢
 unfold maxLen at hmm
 refine in_ref01_Minors (by simp) ?_
 conv=>whnf
 refine⟨Nat×List (List Value)×World×Iv,fun z=>⟨[(0,.o (.v (.slice am R cm))),(3,.o (.w 0 z.2.1.length)),(4,.o (.v (.int .i64 ((z.1+1:Nat):Int))))],[(0,.vec T.Rat 4 z.2.1.flatten)],1,z.2.2.2,z.2.2.1⟩,fun z=>R-z.1,
  fun z=>z.1≤R∧Bel w.heap.size w z.2.2.1∧Fc z.2.2.1 (Cv (fun _=>False) w.heap.size z.2.2.2) z.2.1 ((minorsF M).take z.1),?_,?_⟩
 ·intro ρ w' r
  exact⟨(0,[],w',[]),⟨Nat.zero_le _,hw.tr r.bel,by simp[Fc]⟩,Sub.nil 3 T.Rat 4 rfl (by simp[ScE,SV.sc,At.sc,initE]) r fun ρ1 r1=>
   Sub.gen [] r1 ⟨rfl,trivial⟩ ⟨rfl,rfl,rfl,trivial⟩ (by simp[ScH,Blk.scopd,At.sc]) (by simp[ScE,SV.sc,At.sc]) (by rfl) (fun lo hi h=>h)⟩
 clear hw
 rintro⟨k,css,w1,iv⟩ ⟨hk,hw,hC⟩
 dsimp only at hk hw hC ⊢
 have hcl:css.length=k:=by rw[hC.1,List.length_take];omega
 have hfl:=flat_len hC.len4
 conv=>whnf
 refine BrS.mk (fun hkb=>?_) (fun hkb=>?_)
 ·have hkb:k<R:=by have:((k+1:Nat):Int)≤(R:Int):=of_decide_eq_true hkb;omega
  conv=>whnf
  refine callE_S (callE_con (Φ:=fun _ w' v w2=>RatC w2 (Nw (fun _=>False) w' w2) v (detF (k+1) (at2 M))) (fun ρ w' r=>rDet_c h2 (k+1) (fun g hg=>by have:=hS g hg;have:=r.baseLe;omega) (RatML.keep hM (fun g hg=>(hw.tr r.bel).block g (hS g hg))) (by omega) (fun r hr=>by rw[hrow r hr];omega) hht (by omega) (Nat.le_trans (detB_mono (by omega)) hBd)) ?_)
  rintro ρ wa1 v1 wb1 r he hb hn
  replace hw:=hw.tr hb
  replace hC:=hC.past (iv':=(wa1.heap.size,wb1.heap.size)::iv) r (oldF w) he fun x hx=>List.mem_cons_of_mem _ hx
  have hd:=hn.got (S:=fun _=>False) r.baseLe (iv:=(wa1.heap.size,wb1.heap.size)::iv) List.mem_cons_self
  clear r he hb hn
  generalize (wa1.heap.size,wb1.heap.size)::iv=iv1 at*
  obtain⟨s1_0,s1_1,s1_2,s1_3,s1_4,s1_5,s1_6,s1_7,rfl⟩:=hd.shape
  conv=>whnf
  have hC2:Fc wb1 (Cv (fun _=>False) w.heap.size iv1) (css++[[.bool s1_0,.slice s1_1 s1_2 s1_3,.bool s1_4,.slice s1_5 s1_6 s1_7]]) ((minorsF M).take (k+1)):=by
   rw[List.take_add_one,minorsF_get (by omega),subD_at2]
   exact hC.push hd.fourC
  have hfl2:css.flatten++([.bool s1_0,.slice s1_1 s1_2 s1_3,.bool s1_4,.slice s1_5 s1_6 s1_7]:List Value)=(css++([[.bool s1_0,.slice s1_1 s1_2 s1_3,.bool s1_4,.slice s1_5 s1_6 s1_7]]:List (List Value))).flatten:=by simp
  clear hC hd
  refine .inl ?_
  conv=>whnf
  refine⟨by omega,by omega,by unfold maxLen;omega,?_⟩
  conv=>whnf
  refine⟨((k+1+1:Nat):Int),by rw[wrap64]<;>omega,?_⟩
  conv=>whnf
  intro ρ3 w3 r3
  exact⟨(k+1,css++[[.bool s1_0,.slice s1_1 s1_2 s1_3,.bool s1_4,.slice s1_5 s1_6 s1_7]],w3,_),⟨hkb,hw.tr r3.bel,hC2.rel r3 (oldF w)⟩,Sub.gen [(0,2)] r3 ⟨by dsimp only;rw[←hfl2];rfl,trivial⟩ ⟨rfl,by dsimp only;rw[List.length_append,List.length_singleton];rfl,rfl,trivial⟩ (by simp[ScH,Blk.scopd,At.sc]) (by simp[ScE,SV.sc,At.sc]) (by rfl) (fun lo hi h=>h),by dsimp only;omega⟩
 have hkb:k=R:=by have:¬((k+1:Nat):Int)≤(R:Int):=of_decide_eq_false hkb;omega
 conv=>whnf
 intro ρe we re
 refine⟨_,rfl,hw.tr re.bel,?_⟩
 rw[List.take_of_length_le (by omega)]at hC
 have h5:=re.vecSeq (id:=0) (sz:=4) (m:=css.length) rfl hfl (by unfold maxLen;omega) (by decide) hC.one
 have h6:=hC.rel re (oldF w)
 refine⟨css,?_,h6.1,h6.len4,fun j cs q k1 k2=>(h6.2 j cs q k1 k2).weak fun _ hg=>Cv.nw hg re⟩
 rw[←hC.1]
 exact h5.weak fun g hg=>.inr hg
theorem rDefinite_c{S:Nat→Prop}{w:World}{vm:Value}{M:List (List Rat)}{h:Nat}(hS:Old S w)(hM:RatML w S vm M)(hrow:∀r∈M,r.length=M.length)(hR:M.length≤1000)(hht:Ht M h)(h2:2≤h)(hBd:detB h M.length≤90000):
  Con PG N.ref01_Definite #[vm] w (Ret w fun v' _=>∃d,v'= .bool d∧(d=true→DefF M)∧(DefF M→d=true)):=by
 have hw:Bel w.heap.size w w:=Bel.refl
 obtain⟨am,cm,rfl,hcm,hmm⟩:=SlicesR.shape hM
 have hM1:=hM
 have hrow1:=hrow
 obtain⟨R,hRe⟩:∃R,R=M.length:=⟨_,rfl⟩
 have hmf:=minorsF_length M
 rw[←hRe]at hcm hmm hrow hM hmf ⊢
 unfold maxLen at hmm
 refine in_ref01_Definite (by simp) ?_
 conv=>whnf
 refine⟨Nat×World×Iv,fun z=>⟨[(0,.o (.v (.slice am R cm))),(3,.o (.v (.int .i64 ((z.1:Nat):Int))))],[],0,z.2.2,z.2.1⟩,fun z=>R-z.1,
  fun z=>z.1≤R∧Bel w.heap.size w z.2.1∧∀i k,i<z.1→k<i→at2 M i k=at2 M k i,?_,?_⟩
 ·intro ρ w' r
  exact⟨(0,w',[]),⟨Nat.zero_le _,hw.tr r.bel,fun i k hi=>by dsimp only at hi;omega⟩,Sub.gen [] r trivial ⟨rfl,rfl,trivial⟩ (by simp[ScH]) (by simp[ScE,SV.sc,At.sc]) (by rfl) (fun lo hi h=>h)⟩
 clear hw
 rintro⟨i,w1,iv⟩ ⟨hi,hw,hs⟩
 dsimp only at hi hw hs ⊢
 conv=>whnf
 refine BrS.mk (fun hib=>?_) (fun hib=>?_)
 ·have hib:i<R:=by simpa using hib
  conv=>whnf
  refine⟨Nat×World×Iv,fun z=>⟨[(0,.o (.v (.slice am R cm))),(3,.o (.v (.int .i64 ((i:Nat):Int)))),(4,.o (.v (.int .i64 ((z.1:Nat):Int))))],[],0,z.2.2,z.2.1⟩,fun z=>i-z.1,
   fun z=>z.1≤i∧Bel w.heap.size w z.2.1∧∀k,k<z.1→at2 M i k=at2 M k i,?_,?_⟩
  ·intro ρ w' r
   exact⟨(0,w',_),⟨Nat.zero_le _,hw.tr r.bel,fun k hk=>by dsimp only at hk;omega⟩,Sub.gen [] r trivial ⟨rfl,rfl,rfl,trivial⟩ (by simp[ScH]) (by simp[ScE,SV.sc,At.sc]) (by rfl) (fun lo hi h=>h)⟩
  clear hw
  rintro⟨k,w1,iv⟩ ⟨hk,hw,ht⟩
  dsimp only at hk hw ht ⊢
  conv=>whnf
  refine BrS.mk (fun hkb=>?_) (fun hkb=>?_)
  ·have hkb:k<i:=by simpa using hkb
   obtain⟨rd,hrd⟩:∃r,M[i]? =some r:=⟨_,List.getElem?_eq_getElem (by omega)⟩
   have hld:=hrow rd (List.mem_of_getElem? hrd)
   obtain⟨qd,hqd⟩:∃q,rd[k]? =some q:=⟨_,List.getElem?_eq_getElem (by omega)⟩
   have hed:at2 M i k=qd:=by unfold at2;simp[List.getD,hrd,hqd]
   obtain⟨add,ud,had,hRd,k1d,k2d⟩:=SlicesR.load hM hrd
   obtain⟨aud,cud,rfl,-,-⟩:=ListR.shape hRd
   obtain⟨aed,csd,haed,hFd,-,hled⟩:=ListR.load hRd hqd
   obtain⟨d0,d1,d2,d3,d4,d5,d6,d7,rfl,hFd⟩:=hFd
   obtain⟨re,hre⟩:∃r,M[k]? =some r:=⟨_,List.getElem?_eq_getElem (by omega)⟩
   have hle:=hrow re (List.mem_of_getElem? hre)
   obtain⟨qe,hqe⟩:∃q,re[i]? =some q:=⟨_,List.getElem?_eq_getElem (by omega)⟩
   have hee:at2 M k i=qe:=by unfold at2;simp[List.getD,hre,hqe]
   obtain⟨ade,ue,hae,hRe,k1e,k2e⟩:=SlicesR.load hM hre
   obtain⟨aue,cue,rfl,-,-⟩:=ListR.shape hRe
   obtain⟨aee,cse,haee,hFe,-,hlee⟩:=ListR.load hRe hqe
   obtain⟨e0,e1,e2,e3,e4,e5,e6,e7,rfl,hFe⟩:=hFe
   conv=>whnf
   refine drawn_of_pi hτ hmix [.x 0,.x 1,.x 2,.x 3,.x 4,.x 5,.x 6,.x 7,.x 8,.x 9,.x 10,.x 11,.x 12,.x 13,.x 14,.x 15] (by kernel_rfl) (by kernel_rfl) ?_
   conv=>whnf
   refine⟨add,had,⟨by omega,by omega⟩,?_⟩
   conv=>whnf
   refine⟨.slice aud rd.length cud,fun ρ w' r=>?_,?_⟩
   ·rw[Int.toNat_natCast,cell_of_heap (w:=w) (w2:=w') (by rw[addB];exact(hw.tr r.bel).block _<|hS _<|k1d)]
    exact k2d
   conv=>whnf
   refine⟨aed,haed,⟨by omega,by omega⟩,?_⟩
   conv=>whnf
   refine⟨[.bool d0,.slice d1 d2 d3,.bool d4,.slice d5 d6 d7],rfl,fun ρ w' r j u hu=>?_,?_⟩
   ·obtain⟨z1,z2⟩:=hled j u hu
    rw[Int.toNat_natCast,cell_of_heap (w:=w) (w2:=w') (by rw[addB,addB];exact(hw.tr r.bel).block _<|hS _<|z1)]
    exact z2
   conv=>whnf
   refine⟨ade,hae,⟨by omega,by omega⟩,?_⟩
   conv=>whnf
   refine⟨.slice aue re.length cue,fun ρ w' r=>?_,?_⟩
   ·rw[Int.toNat_natCast,cell_of_heap (w:=w) (w2:=w') (by rw[addB];exact(hw.tr r.bel).block _<|hS _<|k1e)]
    exact k2e
   conv=>whnf
   refine⟨aee,haee,⟨by omega,by omega⟩,?_⟩
   conv=>whnf
   refine⟨[.bool e0,.slice e1 e2 e3,.bool e4,.slice e5 e6 e7],rfl,fun ρ w' r j u hu=>?_,?_⟩
   ·obtain⟨z1,z2⟩:=hlee j u hu
    rw[Int.toNat_natCast,cell_of_heap (w:=w) (w2:=w') (by rw[addB,addB];exact(hw.tr r.bel).block _<|hS _<|z1)]
    exact z2
   conv=>whnf
   refine callE_con (Φ:=fun _ w' v w2=>v= .int .i64 (rs (qd-qe))) (fun ρ w' r=>rCmp_c (fun g hg=>by have:=hS g hg;have:=r.baseLe;omega) (hFd.keep (fun g hg=>(hw.tr r.bel).block g (hS g hg))) (hFe.keep (fun g hg=>(hw.tr r.bel).block g (hS g hg)))) ?_
   rintro ρ wa11 v11 wb11 r he hb rfl
   replace hw:=hw.tr hb
   clear r he hb
   generalize (wa11.heap.size,wb11.heap.size)::iv=iv11 at*
   conv=>whnf
   clear hRd hRe hFd hFe hled hlee k1d k1e k2d k2e
   refine BrS.mk (fun hc=>?_) (fun hc=>?_)
   ·have hc:qd≠qe:=fun e=>by rw[rs_eq.2 e]at hc;simp at hc
    conv=>whnf
    intro ρe we re
    exact⟨_,rfl,hw.tr re.bel,false,rfl,fun h=>(by cases h),fun h=>absurd (by rw[←hed,←hee];exact h.1 i k (by omega) hkb) hc⟩
   have hc:qd=qe:=rs_eq.1 (by simpa using hc)
   conv=>whnf
   refine⟨((k+1:Nat):Int),by rw[wrap64]<;>omega,?_⟩
   conv=>whnf
   intro ρ3 w3 r3
   refine⟨(k+1,w3,_),⟨hkb,hw.tr r3.bel,fun j hj=>?_⟩,Sub.gen [] r3 trivial ⟨rfl,rfl,rfl,trivial⟩ (by simp[ScH]) (by simp[ScE,SV.sc,At.sc]) (by rfl) (fun lo hi h=>h),by dsimp only;omega⟩
   rcases Nat.lt_or_ge j k with h1|h1
   ·exact ht j h1
   ·rw[show j=k by dsimp only at hj;omega,hed,hee,hc]
  have hkb:k=i:=Nat.le_antisymm hk (by simpa using hkb)
  conv=>whnf
  refine⟨((i+1:Nat):Int),by rw[wrap64]<;>omega,?_⟩
  conv=>whnf
  intro ρ3 w3 r3
  refine⟨(i+1,w3,_),⟨hib,hw.tr r3.bel,fun i2 k2 h1 h2=>?_⟩,Sub.gen [] r3 trivial ⟨rfl,rfl,trivial⟩ (by simp[ScH]) (by simp[ScE,SV.sc,At.sc]) (by rfl) (fun lo hi h=>h),by dsimp only;omega⟩
  rcases Nat.lt_or_ge i2 i with h3|h3
  ·exact hs i2 k2 h3 h2
  ·obtain rfl:i2=i:=by dsimp only at h1;omega
   exact ht k2 (by omega)
 have hib:i=R:=Nat.le_antisymm hi (by simpa using hib)
 conv=>whnf
 refine callE_S (callE_con (Φ:=fun _ w' v w2=>RatsC w2 (Nw (fun _=>False) w' w2) v (minorsF M)) (fun ρ w' r=>rMinors_c (fun g hg=>by have:=hS g hg;have:=r.baseLe;omega) (RatML.keep hM (fun g hg=>(hw.tr r.bel).block g (hS g hg))) hrow1 hR hht h2 hBd) ?_)
 rintro ρ wa21 v21 wb21 r he hb hn
 replace hw:=hw.tr hb
 have hR2:=RatsC.got (S:=fun _=>False) hn r.baseLe (iv:=(wa21.heap.size,wb21.heap.size)::iv) List.mem_cons_self
 clear r he hb
 generalize (wa21.heap.size,wb21.heap.size)::iv=iv21 at*
 clear hn
 obtain⟨a1,c1,rfl,-,-⟩:=ListR.shape hR2
 rw[hmf]at hR2 ⊢
 conv=>whnf
 refine⟨Nat×World×Iv,fun z=>⟨[(5,.o (.v (.slice a1 R c1))),(6,.o (.v (.int .i64 ((z.1:Nat):Int))))],[],0,z.2.2,z.2.1⟩,fun z=>R-z.1,
  fun z=>z.1≤R∧Bel w.heap.size w z.2.1∧RatsC z.2.1 (Cv (fun _=>False) w.heap.size z.2.2) (.slice a1 R c1) (minorsF M)∧∀j q,j<z.1→(minorsF M)[j]? =some q→0<q,?_,?_⟩
 ·intro ρ w' r
  exact⟨(0,w',_),⟨Nat.zero_le _,hw.tr r.bel,RatsC.rel hR2 r (oldF w),fun j q hj=>by dsimp only at hj;omega⟩,Sub.gen [] r trivial ⟨rfl,rfl,trivial⟩ (by simp[ScH]) (by simp[ScE,SV.sc,At.sc]) (by rfl) (fun lo hi h=>h)⟩
 clear hw hR2
 rintro⟨k,w2,iv⟩ ⟨hk,hw,hR2,hp⟩
 dsimp only at hk hw hR2 hp ⊢
 conv=>whnf
 refine BrS.mk (fun hkb=>?_) (fun hkb=>?_)
 ·have hkb:k<R:=by simpa using hkb
  obtain⟨q,hq⟩:∃q,(minorsF M)[k]? =some q:=⟨_,List.getElem?_eq_getElem (by omega)⟩
  obtain⟨ad1,cs1,ha1,hF1,_,hl1⟩:=ListR.load hR2 hq
  obtain⟨f0,f1,f2,f3,f4,f5,f6,f7,rfl,hF1⟩:=hF1
  conv=>whnf
  refine⟨ad1,ha1,⟨by omega,by omega⟩,?_⟩
  conv=>whnf
  refine⟨[.bool f0,.slice f1 f2 f3,.bool f4,.slice f5 f6 f7],rfl,fun ρ w' r j u hu=>?_,?_⟩
  ·obtain⟨z1,z2⟩:=hl1 j u hu
   rw[Int.toNat_natCast,cell_of_heap (w:=w2) (w2:=w') (by rw[addB,addB];exact Rel.same r (oldF w) z1)]
   exact z2
  conv=>whnf
  refine callE_S (callE_con (Φ:=fun _ w' v w2=>v= .int .i64 (rs q)) (fun ρ w' r=>rSignOf_c (Rel.old r (oldF w)) (hF1.rel r (oldF w))) ?_)
  rintro ρ wa22 v22 wb22 r he hb rfl
  replace hw:=hw.tr hb
  replace hR2:=RatsC.past (iv':=(wa22.heap.size,wb22.heap.size)::iv) hR2 r (oldF w) he fun x hx=>List.mem_cons_of_mem _ hx
  clear r he hb
  generalize (wa22.heap.size,wb22.heap.size)::iv=iv22 at*
  conv=>whnf
  clear hF1 hl1
  refine BrS.mk (fun hc=>?_) (fun hc=>?_)
  ·have hc:¬0<q:=fun e=>by have h1:=rs_pos_iff.2 e;have h2:rs q≤0:=of_decide_eq_true hc;omega
   conv=>whnf
   intro ρe we re
   exact⟨_,rfl,hw.tr re.bel,false,rfl,fun h=>(by cases h),fun h=>absurd (h.2 q (List.mem_of_getElem? hq)) hc⟩
  have hc:0<q:=rs_pos_iff.1 (by have h2:¬rs q≤0:=of_decide_eq_false hc;omega)
  conv=>whnf
  refine⟨((k+1:Nat):Int),by rw[wrap64]<;>omega,?_⟩
  conv=>whnf
  intro ρ3 w3 r3
  refine⟨(k+1,w3,_),⟨hkb,hw.tr r3.bel,RatsC.rel hR2 r3 (oldF w),fun j p hj hjp=>?_⟩,Sub.gen [] r3 trivial ⟨rfl,rfl,trivial⟩ (by simp[ScH]) (by simp[ScE,SV.sc,At.sc]) (by rfl) (fun lo hi h=>h),by dsimp only;omega⟩
  rcases Nat.lt_or_ge j k with h1|h1
  ·exact hp j p h1 hjp
  ·obtain rfl:j=k:=by dsimp only at hj;omega
   rw[hq]at hjp
   injection hjp with hjp
   exact hjp▸hc
 have hkb:k=R:=Nat.le_antisymm hk (by simpa using hkb)
 conv=>whnf
 intro ρe we re
 exact⟨_,rfl,hw.tr re.bel,true,rfl,fun _=>⟨fun i k hi hk=>hs i k (by omega) hk,fun q hq=>by
   obtain⟨j,hj⟩:=List.getElem?_of_mem hq
   have hjl:=(List.getElem?_eq_some_iff.1 hj).1
   exact hp j q (by omega) hj⟩,fun _=>rfl⟩
theorem exactMinors_c{S:Nat→Prop}{w:World}{v:Value}{M:List (List (Int×Int))}(hS:Old S w)(h:RatMR w S v M):Con PG N.law01_ExactMinors #[v] w (Ret w fun v' _=>v'= .bool true):=by
 have hw:Bel w.heap.size w w:=Bel.refl
 obtain⟨am,cm,rfl,hcm,hmm⟩:=SlicesR.shape h
 refine in_law01_ExactMinors (by simp) ?_
 conv=>whnf
 refine callE_S (callE_con (Φ:=fun _ w' v w2=>∃d,v= .bool d∧(d=true→SmallM w S (.slice am M.length cm) M)) (fun ρ w' r=>smallW_c (fun g hg=>by have:=hS g hg;have:=r.baseLe;omega) (fun g hg=>(hw.tr r.bel).block g (hS g hg)) h) ?_)
 rintro ρ wa1 v1 wb1 r he hb ⟨d,rfl,hd⟩
 replace hw:=hw.tr hb
 clear r he hb
 generalize (wa1.heap.size,wb1.heap.size)::[]=iv1 at*
 conv=>whnf
 cases d with
 |false=>
  conv=>whnf
  refine callE_S (callE_con (Φ:=fun _ w' v w2=>v= .bool true) (fun ρ w' r=>awake_c w') ?_)
  rintro ρ wa2 v2 wb2 r he hb rfl
  replace hw:=hw.tr hb
  clear r he hb
  generalize (wa2.heap.size,wb2.heap.size)::iv1=iv2 at*
  conv=>whnf
  intro ρe we re
  exact⟨_,rfl,hw.tr re.bel,rfl⟩
 |true=>
  have hM:=hd rfl
  clear hd
  have hsz:errQ M=0→(∀r∈M,Few r)∧Ht (valsM M) 4∧2≤4∧4^M.length*4≤500000000∧M.length≤5:=fun e=>by
   obtain⟨h1,h2⟩:=errQ_zero e
   obtain⟨k1,k2,k3,k4,-⟩:=hM.sizes h1
   exact⟨hM.2.2.2.2,k4,by decide,Nat.le_trans (Nat.mul_le_mul_right 4 (Nat.pow_le_pow_right (by decide) k2)) (by decide),k2⟩
  conv=>whnf
  by_cases he:errQ M=0
  ·obtain⟨z1,z2,z3,z4,z5⟩:=hsz he
   have hdb:detB 4 M.length≤3000:=Nat.le_trans (detB_mono z5) (by decide)
   obtain⟨hE,hsq⟩:=errQ_zero he
   obtain⟨hrow,-,-⟩:=errM_zero hE
   have hAl:(valsM M).length=M.length:=by simp[valsM]
   have hrowA:∀r∈valsM M,r.length=(valsM M).length:=fun r hr=>by
    obtain⟨x,hx,rfl⟩:=List.mem_map.1 hr
    rw[List.length_map,hAl,hrow x hx,hsq]
   refine callE_S (callE_con (Φ:=fun _ w' v w2=>∃l,v= .tuple #[l,.int .i64 0]∧RatsC w2 (Nw (fun _=>False) w' w2) l (minorsF (valsM M))) (fun ρ w' r=>(pubMinors_c (h0:=4) (fun g hg=>by have:=hS g hg;have:=r.baseLe;omega) (RatMR.keep h (fun g hg=>(hw.tr r.bel).block g (hS g hg))) (fun _=>⟨z1,z2,z3,z4,by omega⟩)).mono fun e w3 ⟨v2,x1,x2,x3⟩=>⟨v2,x1,x2,(x3.resolve_left fun k=>k.1 he).2⟩) ?_)
   rintro ρ wa2 v2 wb2 r he hb ⟨l,rfl,hn⟩
   replace hw:=hw.tr hb
   have hl:=RatsC.got (S:=fun _=>False) hn r.baseLe (iv:=(wa2.heap.size,wb2.heap.size)::iv1) List.mem_cons_self
   clear r he hb
   generalize (wa2.heap.size,wb2.heap.size)::iv1=iv2 at*
   clear hn
   obtain⟨a1,c1,rfl,-,-⟩:=ListR.shape hl
   rw[minorsF_length,hAl]at hl ⊢
   conv=>whnf
   refine callE_S (callE_con (Φ:=fun _ w' v w2=>∃d,v= .tuple #[.bool d,.int .i64 0]∧(d=true→DefF (valsM M))∧(DefF (valsM M)→d=true)) (fun ρ w' r=>(pubDefinite_c (h0:=4) (fun g hg=>by have:=hS g hg;have:=r.baseLe;omega) (RatMR.keep h (fun g hg=>(hw.tr r.bel).block g (hS g hg))) (fun _=>⟨z1,z2,z3,z4⟩) (by decide)).mono fun e w3 ⟨v2,x1,x2,x3⟩=>⟨v2,x1,x2,(x3.resolve_left fun k=>k.1 he).2⟩) ?_)
   rintro ρ wa3 v3 wb3 r he hb ⟨d1,rfl,hd1,hd2⟩
   replace hw:=hw.tr hb
   replace hl:=RatsC.past (iv':=(wa3.heap.size,wb3.heap.size)::iv2) hl r (oldF w) he fun x hx=>List.mem_cons_of_mem _ hx
   clear r he hb
   generalize (wa3.heap.size,wb3.heap.size)::iv2=iv3 at*
   conv=>whnf
   refine callE_S (callE_con (Φ:=fun _ w' v w2=>v= .int .i64 0) (fun ρ w' r=>(show ((errQ M:Nat):Int)=0 by rw[he];rfl)▸rCheckSquare_c (fun g hg=>by have:=hS g hg;have:=r.baseLe;omega) (RatMR.keep h (fun g hg=>(hw.tr r.bel).block g (hS g hg)))) ?_)
   rintro ρ wa4 v4 wb4 r he hb rfl
   replace hw:=hw.tr hb
   replace hl:=RatsC.past (iv':=(wa4.heap.size,wb4.heap.size)::iv3) hl r (oldF w) he fun x hx=>List.mem_cons_of_mem _ hx
   clear r he hb
   generalize (wa4.heap.size,wb4.heap.size)::iv3=iv4 at*
   conv=>whnf
   refine callE_S (callE_con (Φ:=fun _ w' v w2=>RatsC w2 (Nw (fun _=>False) w' w2) v (minorsF (valsM M))) (fun ρ w' r=>rMinors_c (h:=4) (fun g hg=>by have:=hS g hg;have:=r.baseLe;omega) (RatML.keep hM.2.2.1 (fun g hg=>(hw.tr r.bel).block g (hS g hg))) hrowA (by omega) z2 (by decide) (by rw[hAl];omega)) ?_)
   rintro ρ wa5 v5 wb5 r he hb hn
   replace hw:=hw.tr hb
   replace hl:=RatsC.past (iv':=(wa5.heap.size,wb5.heap.size)::iv4) hl r (oldF w) he fun x hx=>List.mem_cons_of_mem _ hx
   have hl2:=RatsC.got (S:=fun _=>False) hn r.baseLe (iv:=(wa5.heap.size,wb5.heap.size)::iv4) List.mem_cons_self
   clear r he hb
   generalize (wa5.heap.size,wb5.heap.size)::iv4=iv5 at*
   clear hn
   obtain⟨a2,c2,rfl,-,-⟩:=ListR.shape hl2
   rw[minorsF_length,hAl]at hl2 ⊢
   conv=>whnf
   refine callE_S (callE_con (Φ:=fun _ w' v w2=>v= .bool true) (fun ρ w' r=>(show decide (minorsF (valsM M)=minorsF (valsM M))=true from decide_eq_true rfl)▸sameList_c (Rel.old r (oldF w)) (RatsC.rel hl r (oldF w)) (RatsC.rel hl2 r (oldF w))) ?_)
   rintro ρ wa6 v6 wb6 r he hb rfl
   replace hw:=hw.tr hb
   clear hl
   clear hl2
   clear r he hb
   generalize (wa6.heap.size,wb6.heap.size)::iv5=iv6 at*
   conv=>whnf
   refine callE_S (callE_con (Φ:=fun _ w' v w2=>∃d,v= .bool d∧(d=true→DefF (valsM M))∧(DefF (valsM M)→d=true)) (fun ρ w' r=>rDefinite_c (h:=4) (fun g hg=>by have:=hS g hg;have:=r.baseLe;omega) (RatML.keep hM.2.2.1 (fun g hg=>(hw.tr r.bel).block g (hS g hg))) hrowA (by omega) z2 (by decide) (by rw[hAl];omega)) ?_)
   rintro ρ wa7 v7 wb7 r he hb ⟨d2,rfl,hd3,hd4⟩
   replace hw:=hw.tr hb
   clear r he hb
   generalize (wa7.heap.size,wb7.heap.size)::iv6=iv7 at*
   obtain rfl:d2=d1:=by
    cases d1<;>cases d2
    ·rfl
    ·exact(hd2 (hd3 rfl)).symm▸rfl
    ·exact(hd4 (hd1 rfl)).symm▸rfl
    ·rfl
   clear hd1 hd2 hd3 hd4
   conv=>whnf
   refine BrS.mk (fun _=>?_) (fun hne=>by cases d2<;>simp at hne)
   conv=>whnf
   refine callE_S (callE_con (Φ:=fun _ w' v w2=>v= .bool true) (fun ρ w' r=>awake_c w') ?_)
   rintro ρ wa8 v8 wb8 r he hb rfl
   replace hw:=hw.tr hb
   clear r he hb
   generalize (wa8.heap.size,wb8.heap.size)::iv7=iv8 at*
   conv=>whnf
   intro ρe we re
   exact⟨_,rfl,hw.tr re.bel,rfl⟩
  refine callE_S (callE_con (Φ:=fun _ w' v w2=>v= .tuple #[.slice none 0 0,.int .i64 (errQ M)]) (fun ρ w' r=>(pubMinors_c (h0:=4) (fun g hg=>by have:=hS g hg;have:=r.baseLe;omega) (RatMR.keep h (fun g hg=>(hw.tr r.bel).block g (hS g hg))) (fun e=>absurd e he)).mono fun e w3 ⟨v2,x1,x2,x3⟩=>⟨v2,x1,x2,(x3.resolve_right fun k=>he k.1).2⟩) ?_)
  rintro ρ wa31 v31 wb31 r he hb rfl
  replace hw:=hw.tr hb
  clear r he hb
  generalize (wa31.heap.size,wb31.heap.size)::iv1=iv31 at*
  conv=>whnf
  refine callE_S (callE_con (Φ:=fun _ w' v w2=>v= .tuple #[.bool false,.int .i64 (errQ M)]) (fun ρ w' r=>(pubDefinite_c (h0:=4) (fun g hg=>by have:=hS g hg;have:=r.baseLe;omega) (RatMR.keep h (fun g hg=>(hw.tr r.bel).block g (hS g hg))) (fun e=>absurd e he) (by decide)).mono fun e w3 ⟨v2,x1,x2,x3⟩=>⟨v2,x1,x2,(x3.resolve_right fun k=>he k.1).2⟩) ?_)
  rintro ρ wa32 v32 wb32 r he hb rfl
  replace hw:=hw.tr hb
  clear r he hb
  generalize (wa32.heap.size,wb32.heap.size)::iv31=iv32 at*
  conv=>whnf
  refine callE_S (callE_con (Φ:=fun _ w' v w2=>v= .int .i64 (errQ M)) (fun ρ w' r=>rCheckSquare_c (fun g hg=>by have:=hS g hg;have:=r.baseLe;omega) (RatMR.keep h (fun g hg=>(hw.tr r.bel).block g (hS g hg)))) ?_)
  rintro ρ wa33 v33 wb33 r he hb rfl
  replace hw:=hw.tr hb
  clear r he hb
  generalize (wa33.heap.size,wb33.heap.size)::iv32=iv33 at*
  conv=>whnf
  refine BrS.mk (fun _=>?_) (fun hne=>absurd (Int.ofNat.inj (show ((errQ M:Nat):Int)=((0:Nat):Int) by simpa using hne)) he)
  conv=>whnf
  refine BrS.mk (fun _=>?_) (fun hne=>by simp at hne)
  conv=>whnf
  refine BrS.mk (fun _=>?_) (fun hne=>by simp at hne)
  conv=>whnf
  refine callE_S (callE_con (Φ:=fun _ w' v w2=>v= .bool true) (fun ρ w' r=>awake_c w') ?_)
  rintro ρ wa34 v34 wb34 r he hb rfl
  replace hw:=hw.tr hb
  clear r he hb
  generalize (wa34.heap.size,wb34.heap.size)::iv33=iv34 at*
  conv=>whnf
  intro ρe we re
  exact⟨_,rfl,hw.tr re.bel,rfl⟩
end Go.Ex
