/- A part of the proof: texts X118 to X119. Each tells its conditions in its theorems. -/
import Derived.Test.YtneljlhlncjkhaaGreatDoorP12
import Derived.Test.YtneljlhlncjkhaaGreatDoorP13
/- Parse of the reference. Printed by program. No condition but sizes. -/
namespace Go.Ex
open Go Go.Sx Go.Proofs

theorem cut_at:∀{bs:List Nat} {i:Nat},(∀j,j<i→bs[j]? ≠some 47)→bs[i]? =some 47→bs.take i=cutA bs∧bs.drop (i+1)=cutB bs∧47∈bs
 |[],i,_,h=>by simp at h
 |b::r,0,_,h=>by
  have hb:b=47:=by simpa using h
  subst hb
  exact⟨rfl,rfl,List.mem_cons_self⟩
 |b::r,i+1,hn,h=>by
  have hb:(b != 47)=true:=by
   have h1:b≠47:=fun e=>hn 0 (by omega) (by rw[e];rfl)
   simpa using h1
  obtain⟨h1,h2,h3⟩:=cut_at (bs:=r) (i:=i) (fun j hj=>by have:=hn (j+1) (by omega);simpa using this) (by simpa using h)
  unfold cutA cutB at*
  rw[List.takeWhile_cons,List.dropWhile_cons,if_pos hb,if_pos hb,List.take_succ_cons,List.drop_succ_cons,h1,h2]
  exact⟨rfl,rfl,List.mem_cons_of_mem _ h3⟩
theorem readZ_dec(n:Nat):readZ (dec n)=(n:Int):=by
 obtain⟨d,r,h1,h2,h3⟩:=dec_head n
 have h4:¬(dec n).head? =some 45:=by rw[h1];simp;omega
 unfold readZ
 rw[if_neg h4,(dec_digs n).filter,vald_dec]
def headL(q:Rat):List Nat:=(if q.num<0 then [45]else [])++dec q.num.natAbs
theorem readZ_head(q:Rat):readZ (headL q)=q.num:=by
 unfold headL
 by_cases h:q.num<0
 ·rw[if_pos h]
  show readZ (45::dec q.num.natAbs)=_
  unfold readZ
  rw[if_pos (by rfl),List.filter_cons,if_neg (by decide),(dec_digs _).filter,vald_dec]
  omega
 ·rw[if_neg h,List.nil_append,readZ_dec];omega
theorem headL_no(q:Rat):47∉headL q:=fun hm=>by
 rcases List.mem_append.1 hm with hm|hm
 ·split at hm
  ·simp at hm
  ·cases hm
 ·exact(dec_digs _).no47 hm
theorem txtL_head'(q:Rat):txtL q=headL q++(if q.den=1 then []else 47::dec q.den):=by unfold txtL headL;rw[List.append_assoc]
theorem ln_readZ{bs:List Nat}(h:bs.length≤900):ln (readZ bs).natAbs≤100:=by
 have h1:(readZ bs).natAbs=vald (bs.filter dg):=by unfold readZ;split<;>omega
 rw[h1]
 exact ln_vald (filter_digs _) (Nat.le_trans (List.length_filter_le ..) h)
/-- what the reference makes of a text -/
def refQ(bs:List Nat):Rat:=if 47∈bs then ratio (readZ (cutA bs)) (readZ (cutB bs))else ratio (readZ bs) 1
theorem refQ_txt(q:Rat):refQ (txtL q)=q:=by
 unfold refQ
 by_cases h:q.den=1
 ·rw[txtL_head',if_pos h,List.append_nil,if_neg (headL_no q),readZ_head]
  have:=ratio_self q
  rwa [h]at this
 ·rw[txtL_head',if_neg h]
  obtain⟨h1,h2⟩:=cutA_app (headL_no q) (dec q.den)
  rw[if_pos (List.mem_append_right _ List.mem_cons_self),h1,h2,readZ_head,readZ_dec]
  exact ratio_self q
theorem ln_refQ{bs:List Nat}(h:bs.length≤900):ln (refQ bs).num.natAbs≤100∧ln (refQ bs).den≤100:=by
 have key:∀a b:Int,ln a.natAbs≤100→ln b.natAbs≤100→ln (ratio a b).num.natAbs≤100∧ln (ratio a b).den≤100:=fun a b h1 h2=>by
  have h3:=rl_ratio a b
  have h4:ln (ratio a b).num.natAbs≤rl (ratio a b):=Nat.le_max_left _ _
  have h5:ln (ratio a b).den≤rl (ratio a b):=Nat.le_max_right _ _
  omega
 have hA:(cutA bs).length≤bs.length:=List.Sublist.length_le (List.takeWhile_sublist _)
 have hB:(cutB bs).length≤bs.length:=by
  have:=List.Sublist.length_le (List.dropWhile_sublist (l:=bs) (fun b=>b != 47))
  unfold cutB
  rw[List.length_tail]
  omega
 unfold refQ
 split
 ·exact key _ _ (ln_readZ (by omega)) (ln_readZ (by omega))
 ·exact key _ _ (ln_readZ h) (by decide)
theorem rParse_c(bs:List Nat)(w:World)(hb:∀b∈bs,b<256)(hl:bs.length≤900):
  Con PG N.ref01_Parse #[.string (strOf bs)] w (Ret w fun v' w2=>ParseP bs w2 (Nw (fun _=>False) w w2) v'):=by
 have hw:Bel w.heap.size w w:=Bel.refl
 obtain⟨hf1,hf2⟩:=ln_refQ hl
 refine in_ref01_Parse (by simp) ?_
 conv=>whnf
 rw[strOf_size]
 refine BrS.mk (fun h8=>?_) (fun h8=>?_)
 ·have h8:800<bs.length:=by have:(bs.length:Int)>800:=of_decide_eq_true h8;omega
  conv=>whnf
  intro ρe we re
  exact⟨_,rfl,hw.tr re.bel,.inl ⟨h8,rfl⟩⟩
 have h8:bs.length≤800:=by have:¬(bs.length:Int)>800:=of_decide_eq_false h8;omega
 conv=>whnf
 refine⟨Nat×World,fun z=>⟨[(0,.o (.v (.string (strOf bs)))),(2,.o (.p 0 0)),(4,.o (.v (.int .i64 ((bs.length:Nat):Int)))),(5,.o (.v (.int .i64 ((z.1:Nat):Int))))],[(0,.box T.Rat [.v (.bool false),.v (.slice none 0 0),.v (.bool false),.v (.slice none 0 0)])],1,[],z.2⟩,fun z=>bs.length-z.1,
  fun z=>z.1≤bs.length∧Bel w.heap.size w z.2∧∀j,j<z.1→bs[j]? ≠some 47,?_,?_⟩
 ·intro ρ w' r
  exact⟨(0,w'),⟨Nat.zero_le _,hw.tr r.bel,fun j hj=>by dsimp only at hj;omega⟩,Sub.gen [] r ⟨rfl,trivial⟩ ⟨rfl,rfl,by rw[←strOf_size];rfl,rfl,trivial⟩ (by simp[ScH,Blk.scopd,At.sc]) (by simp[ScE,SV.sc,At.sc]) (by rfl) (fun lo hi h=>h)⟩
 clear hw
 rintro⟨i,w1⟩ ⟨hi,hw,hno⟩
 dsimp only at hi hw hno ⊢
 conv=>whnf
 rw[strOf_size]
 refine BrS.mk (fun hib=>?_) (fun hib=>?_)
 ·have hib:i<bs.length:=by have:(i:Int)<(bs.length:Int):=of_decide_eq_true hib;omega
  obtain⟨b,hbi⟩:∃b,bs[i]? =some b:=⟨_,List.getElem?_eq_getElem hib⟩
  have hb6:=hb b (List.mem_of_getElem? hbi)
  have hgt:(strOf bs)[((i:Nat):Int).toNat]? =some (UInt8.ofNat b):=by rw[Int.toNat_natCast];exact strOf_get hbi
  conv=>whnf
  refine opS_index und_str (by rfl) (by rfl) (Int.natCast_nonneg i) hgt (fun ρ w2 r2=>?_)
  rw[u8n hb6]
  replace hw:=hw.tr r2.bel
  clear r2
  conv=>whnf
  refine BrS.mk (fun h1=>?_) (fun h1=>?_)
  ·have h1:b=47:=by have:=eq_of_beq h1;omega
   rw[h1]at hbi
   obtain⟨k1,k2,k3⟩:=cut_at hno hbi
   have hA1:∀b∈cutA bs,b<256:=fun b h=>hb b ((List.takeWhile_sublist _).subset h)
   have hB1:∀b∈cutB bs,b<256:=fun b h=>hb b ((List.dropWhile_sublist _).subset (List.mem_of_mem_tail h))
   have hA2:(cutA bs).length≤bs.length:=List.Sublist.length_le (List.takeWhile_sublist _)
   have hB2:(cutB bs).length≤bs.length:=by rw[←k2,List.length_drop];omega
   have hrq:refQ bs=ratio (readZ (cutA bs)) (readZ (cutB bs)):=if_pos k3
   conv=>whnf
   refine⟨⟨by omega,by omega,by rw[strOf_size];omega⟩,?_⟩
   have e1:(strOf bs).extract 0 i=strOf (cutA bs):=by rw[strOf_part,List.drop_zero,Nat.sub_zero,k1]
   conv=>whnf
   refine callE_S (callE_con (Φ:=fun _ w' v w2=>IntC w2 (Nw (fun _=>False) w' w2) v (readZ (cutA bs))) (fun ρ w' r=>by have h9:=rRead_c (cutA bs) w' hA1 (by omega);rw[←e1]at h9;exact h9) ?_)
   rintro ρ wa1 v1 wb1 r he hb hn
   replace hw:=hw.tr hb
   have hx:=hn.got (S:=fun _=>False) r.baseLe (iv:=(wa1.heap.size,wb1.heap.size)::[]) List.mem_cons_self
   clear r he hb hn
   generalize (wa1.heap.size,wb1.heap.size)::[]=iv1 at*
   obtain⟨s1_0,s1_1,s1_2,s1_3,rfl⟩:=hx.shape
   conv=>whnf
   refine callE_S (callE_con (Φ:=fun _ w' v w2=>IntC w2 (Nw (fun _=>False) w' w2) v 1) (fun ρ w' r=>rOf_c 1 w' (by decide) (by decide)) ?_)
   rintro ρ wa2 v2 wb2 r he hb hn
   replace hw:=hw.tr hb
   replace hx:=hx.past (iv':=(wa2.heap.size,wb2.heap.size)::iv1) r (oldF w) he fun x hx=>List.mem_cons_of_mem _ hx
   have ho:=hn.got (S:=fun _=>False) r.baseLe (iv:=(wa2.heap.size,wb2.heap.size)::iv1) List.mem_cons_self
   clear r he hb hn
   generalize (wa2.heap.size,wb2.heap.size)::iv1=iv2 at*
   obtain⟨s2_0,s2_1,s2_2,s2_3,rfl⟩:=ho.shape
   conv=>whnf
   rw[strOf_size]
   refine BrS.mk (fun _=>?_) (fun hne=>absurd (show (i:Int)<(bs.length:Int) by omega) (of_decide_eq_false hne))
   conv=>whnf
   refine⟨((i+1:Nat):Int),by rw[wrap64]<;>omega,?_⟩
   conv=>whnf
   refine⟨⟨by omega,by rw[strOf_size];omega,by omega⟩,?_⟩
   have e2:(strOf bs).extract (i+1) (strOf bs).size=strOf (cutB bs):=by rw[strOf_part,strOf_size,k2,List.take_of_length_le (by rw[←k2,List.length_drop];omega)]
   conv=>whnf
   refine callE_S (callE_con (Φ:=fun _ w' v w2=>IntC w2 (Nw (fun _=>False) w' w2) v (readZ (cutB bs))) (fun ρ w' r=>by have h9:=rRead_c (cutB bs) w' hB1 (by omega);rw[←e2]at h9;exact h9) ?_)
   rintro ρ wa3 v3 wb3 r he hb hn
   replace hw:=hw.tr hb
   replace hx:=hx.past (iv':=(wa3.heap.size,wb3.heap.size)::iv2) r (oldF w) he fun x hx=>List.mem_cons_of_mem _ hx
   clear ho
   have hy:=hn.got (S:=fun _=>False) r.baseLe (iv:=(wa3.heap.size,wb3.heap.size)::iv2) List.mem_cons_self
   clear r he hb hn
   generalize (wa3.heap.size,wb3.heap.size)::iv2=iv3 at*
   obtain⟨s3_0,s3_1,s3_2,s3_3,rfl⟩:=hy.shape
   conv=>whnf
   have hV:∀{w9:World} {S9:Nat→Prop} {c0 c4:Bool} {c1 c5:Option Addr} {c2 c3 c6 c7:Nat},IntC w9 S9 (.agg #[.bool c0,.slice c1 c2 c3]) (readZ (cutA bs))→IntC w9 S9 (.agg #[.bool c4,.slice c5 c6 c7]) (readZ (cutB bs))→RatL w9 S9 (.agg #[.bool c0,.slice c1 c2 c3,.bool c4,.slice c5 c6 c7]) (refQ bs):=fun h1 h2=>⟨_,_,_,_,_,_,rfl,h1.l (Nat.le_trans (ln_readZ (by omega)) (by decide)),h2.l (Nat.le_trans (ln_readZ (by omega)) (by decide)),hrq.symm⟩
   refine callE_S (callE_con (Φ:=fun _ w' v w2=>RatC w2 (Nw (fun _=>False) w' w2) v (refQ bs)) (fun ρ w' r=>rNormal_c (Rel.old r (oldF w)) (hV (hx.rel r (oldF w)) (hy.rel r (oldF w)))) ?_)
   rintro ρ wa4 v4 wb4 r he hb hn
   replace hw:=hw.tr hb
   clear hx
   clear hy
   have hq:=hn.got (S:=fun _=>False) r.baseLe (iv:=(wa4.heap.size,wb4.heap.size)::iv3) List.mem_cons_self
   clear r he hb hn
   generalize (wa4.heap.size,wb4.heap.size)::iv3=iv4 at*
   obtain⟨s4_0,s4_1,s4_2,s4_3,s4_4,s4_5,s4_6,s4_7,rfl⟩:=hq.shape
   conv=>whnf
   refine callE_S (callE_con (Φ:=fun _ w' v w2=>v= .string (txtG (refQ bs))) (fun ρ w' r=>rFormat_c (Rel.old r (oldF w)) (RatC.l (hq.rel r (oldF w)) (by have:rl (refQ bs)≤100:=Nat.max_le.2 ⟨hf1,hf2⟩;omega)) hf1 hf2) ?_)
   rintro ρ wa5 v5 wb5 r he hb rfl
   replace hw:=hw.tr hb
   replace hq:=hq.past (iv':=(wa5.heap.size,wb5.heap.size)::iv4) r (oldF w) he fun x hx=>List.mem_cons_of_mem _ hx
   clear r he hb
   generalize (wa5.heap.size,wb5.heap.size)::iv4=iv5 at*
   conv=>whnf
   refine BrS.mk (fun hc=>?_) (fun hc=>?_)
   ·have hne:∀q,bs≠txtL q:=fun q e=>by
     have e2:refQ bs=q:=by rw[e];exact refQ_txt q
     rw[e2,←strOf_txtL,←e]at hc
     simp at hc
    conv=>whnf
    intro ρe we re
    exact⟨_,rfl,hw.tr re.bel,.inr (.inr ⟨h8,hne,rfl⟩)⟩
   have he:bs=txtL (refQ bs):=strOf_inj hb (txtL_lt _) (by
    rw[strOf_txtL]
    apply ByteArray.ext
    apply Array.ext'
    have h9:((txtG (refQ bs)).data.toList==(strOf bs).data.toList)=true:=by simpa using hc
    exact(eq_of_beq h9).symm)
   conv=>whnf
   intro ρe we re
   exact⟨_,rfl,hw.tr re.bel,.inr (.inl ⟨h8,refQ bs,_,he,rfl,hq.out re (oldF w)⟩)⟩
  have h1:b≠47:=fun e=>by rw[e]at h1;exact absurd h1 (by decide)
  conv=>whnf
  refine⟨((i+1:Nat):Int),by rw[wrap64]<;>omega,?_⟩
  conv=>whnf
  intro ρ3 w3 r3
  refine⟨(i+1,w3),⟨hib,hw.tr r3.bel,fun j hj=>?_⟩,Sub.gen [] r3 ⟨rfl,trivial⟩ ⟨rfl,rfl,rfl,rfl,trivial⟩ (by simp[ScH,Blk.scopd,At.sc]) (by simp[ScE,SV.sc,At.sc]) (by rfl) (fun lo hi h=>h),by dsimp only;omega⟩
  rcases Nat.lt_or_ge j i with h2|h2
  ·exact hno j h2
  ·rw[show j=i by dsimp only at hj;omega,hbi]
   exact fun e=>h1 (Option.some.inj e)
 have hib:i=bs.length:=by have:¬(i:Int)<(bs.length:Int):=of_decide_eq_false hib;omega
 have hm:47∉bs:=fun h=>by
  obtain⟨j,hj⟩:=List.getElem?_of_mem h
  exact hno j (by rw[hib];exact(List.getElem?_eq_some_iff.1 hj).1) hj
 have hrq:refQ bs=ratio (readZ bs) 1:=if_neg hm
 clear hno
 conv=>whnf
 refine⟨⟨by omega,by omega,by rw[strOf_size];omega⟩,?_⟩
 have e1:(strOf bs).extract 0 bs.length=strOf bs:=by rw[strOf_part,List.drop_zero,Nat.sub_zero,List.take_of_length_le (Nat.le_refl _)]
 conv=>whnf
 refine callE_S (callE_con (Φ:=fun _ w' v w2=>IntC w2 (Nw (fun _=>False) w' w2) v (readZ bs)) (fun ρ w' r=>by have h9:=rRead_c bs w' hb (by omega);rw[←e1]at h9;exact h9) ?_)
 rintro ρ wa1 v1 wb1 r he hb hn
 replace hw:=hw.tr hb
 have hx:=hn.got (S:=fun _=>False) r.baseLe (iv:=(wa1.heap.size,wb1.heap.size)::[]) List.mem_cons_self
 clear r he hb hn
 generalize (wa1.heap.size,wb1.heap.size)::[]=iv1 at*
 obtain⟨s1_0,s1_1,s1_2,s1_3,rfl⟩:=hx.shape
 conv=>whnf
 refine callE_S (callE_con (Φ:=fun _ w' v w2=>IntC w2 (Nw (fun _=>False) w' w2) v 1) (fun ρ w' r=>rOf_c 1 w' (by decide) (by decide)) ?_)
 rintro ρ wa2 v2 wb2 r he hb hn
 replace hw:=hw.tr hb
 replace hx:=hx.past (iv':=(wa2.heap.size,wb2.heap.size)::iv1) r (oldF w) he fun x hx=>List.mem_cons_of_mem _ hx
 have hy:=hn.got (S:=fun _=>False) r.baseLe (iv:=(wa2.heap.size,wb2.heap.size)::iv1) List.mem_cons_self
 clear r he hb hn
 generalize (wa2.heap.size,wb2.heap.size)::iv1=iv2 at*
 obtain⟨s2_0,s2_1,s2_2,s2_3,rfl⟩:=hy.shape
 conv=>whnf
 rw[strOf_size]
 refine BrS.mk (fun hne=>absurd (of_decide_eq_true hne) (by omega)) (fun _=>?_)
 conv=>whnf
 have hV:∀{w9:World} {S9:Nat→Prop} {c0 c4:Bool} {c1 c5:Option Addr} {c2 c3 c6 c7:Nat},IntC w9 S9 (.agg #[.bool c0,.slice c1 c2 c3]) (readZ bs)→IntC w9 S9 (.agg #[.bool c4,.slice c5 c6 c7]) 1→RatL w9 S9 (.agg #[.bool c0,.slice c1 c2 c3,.bool c4,.slice c5 c6 c7]) (refQ bs):=fun h1 h2=>⟨_,_,_,_,_,_,rfl,h1.l (Nat.le_trans (ln_readZ (by omega)) (by decide)),h2.l (by decide),hrq.symm⟩
 refine callE_S (callE_con (Φ:=fun _ w' v w2=>RatC w2 (Nw (fun _=>False) w' w2) v (refQ bs)) (fun ρ w' r=>rNormal_c (Rel.old r (oldF w)) (hV (hx.rel r (oldF w)) (hy.rel r (oldF w)))) ?_)
 rintro ρ wa3 v3 wb3 r he hb hn
 replace hw:=hw.tr hb
 clear hx
 clear hy
 have hq:=hn.got (S:=fun _=>False) r.baseLe (iv:=(wa3.heap.size,wb3.heap.size)::iv2) List.mem_cons_self
 clear r he hb hn
 generalize (wa3.heap.size,wb3.heap.size)::iv2=iv3 at*
 obtain⟨s3_0,s3_1,s3_2,s3_3,s3_4,s3_5,s3_6,s3_7,rfl⟩:=hq.shape
 conv=>whnf
 refine callE_S (callE_con (Φ:=fun _ w' v w2=>v= .string (txtG (refQ bs))) (fun ρ w' r=>rFormat_c (Rel.old r (oldF w)) (RatC.l (hq.rel r (oldF w)) (by have:rl (refQ bs)≤100:=Nat.max_le.2 ⟨hf1,hf2⟩;omega)) hf1 hf2) ?_)
 rintro ρ wa4 v4 wb4 r he hb rfl
 replace hw:=hw.tr hb
 replace hq:=hq.past (iv':=(wa4.heap.size,wb4.heap.size)::iv3) r (oldF w) he fun x hx=>List.mem_cons_of_mem _ hx
 clear r he hb
 generalize (wa4.heap.size,wb4.heap.size)::iv3=iv4 at*
 conv=>whnf
 refine BrS.mk (fun hc=>?_) (fun hc=>?_)
 ·have hne:∀q,bs≠txtL q:=fun q e=>by
   have e2:refQ bs=q:=by rw[e];exact refQ_txt q
   rw[e2,←strOf_txtL,←e]at hc
   simp at hc
  conv=>whnf
  intro ρe we re
  exact⟨_,rfl,hw.tr re.bel,.inr (.inr ⟨h8,hne,rfl⟩)⟩
 have he:bs=txtL (refQ bs):=strOf_inj hb (txtL_lt _) (by
  rw[strOf_txtL]
  apply ByteArray.ext
  apply Array.ext'
  have h9:((txtG (refQ bs)).data.toList==(strOf bs).data.toList)=true:=by simpa using hc
  exact(eq_of_beq h9).symm)
 conv=>whnf
 intro ρe we re
 exact⟨_,rfl,hw.tr re.bel,.inr (.inl ⟨h8,refQ bs,_,he,rfl,hq.out re (oldF w)⟩)⟩
end Go.Ex

/- The law ExactTexts. Printed by program. No condition but sizes. -/
namespace Go.Ex
open Go Go.Sx Go.Proofs

theorem bytes_of(s:ByteArray):∃bs,s=strOf bs∧∀b∈bs,b<256:=by
 refine⟨s.data.toList.map UInt8.toNat,?_,fun b hb=>?_⟩
 ·apply ByteArray.ext
  apply Array.ext'
  rw[strOf_data,List.map_map]
  exact((List.map_congr_left fun x _=>by simp).trans (List.map_id _)).symm
 ·obtain⟨x,_,rfl⟩:=List.mem_map.1 hb
  exact x.toNat_lt
theorem decK_len{n k:Nat}(h:ln n≤k):(dec n).length≤18*k+1:=by
 have h1:=chunks_ln h
 have h2:=flat9 (chunks_lens n)
 by_cases h0:n=0
 ·rw[h0,dec_small (by decide)];simp
 ·have h3:=chunks_dec n
  rw[if_neg h0]at h3
  rw[←h3]
  have:=List.Sublist.length_le (List.dropWhile_sublist (l:=(chunks n).flatten) (· ==48))
  omega
theorem txtL_len{q:Rat}(h:rl q≤3):(txtL q).length≤200:=by
 have h1:=decK_len (n:=q.num.natAbs) (k:=3) (Nat.le_trans (Nat.le_max_left _ _) h)
 have h2:=decK_len (n:=q.den) (k:=3) (Nat.le_trans (Nat.le_max_right _ _) h)
 unfold txtL
 rw[List.length_append,List.length_append]
 have h3:(if q.num<0 then [45]else([]:List Nat)).length≤1:=by split<;>simp
 have h4:(if q.den=1 then []else 47::dec q.den).length≤56:=by split<;>simp;omega
 omega
theorem txtL_inj{p q:Rat}(h:txtL p=txtL q):p=q:=by rw[←refQ_txt p,h,refQ_txt]
theorem vFormatG_c{S:Nat→Prop}{w:World}{v:Value}{p:Rat}(hS:Old S w)(hp:RatV w S v p)(h:rl p≤3):Con PG N.exact_Format #[v] w (Ret w fun v' _=>v'= .string (txtG p)):=by
 obtain⟨a,b,h1,rfl,h2,h3⟩:=hp
 exact pubFormatG_c hS h1 (by omega) (by omega) (Nat.le_trans (Nat.le_max_left _ _) (Nat.le_trans h (by decide))) (Nat.le_trans (Nat.le_max_right _ _) (Nat.le_trans h (by decide)))
/-- what a text is read as: two integers and an error -/
def ParseT(bs:List Nat)(a b e:Int):Prop:=
 (800<bs.length∧a=0∧b=0∧e=8)∨(bs.length≤800∧∃q,bs=txtL q∧a=q.num∧b=q.den∧e=0)∨(bs.length≤800∧(∀q,bs≠txtL q)∧a=0∧b=0∧e=7)
theorem ParseT.one{bs:List Nat}{a b e a' b' e':Int}(h:ParseT bs a b e)(k:ParseT bs a' b' e'):a'=a∧b'=b∧e'=e:=by
 rcases h with⟨h0,h1,h2,h3⟩|⟨h0,q,hq,h1,h2,h3⟩|⟨h0,hq,h1,h2,h3⟩<;>rcases k with⟨k0,k1,k2,k3⟩|⟨k0,p,hp,k1,k2,k3⟩|⟨k0,hp,k1,k2,k3⟩
 ·exact⟨by omega,by omega,by omega⟩
 ·omega
 ·omega
 ·omega
 ·have:p=q:=txtL_inj (hp.symm.trans hq)
  subst this
  exact⟨by omega,by omega,by omega⟩
 ·exact absurd hq (hp q)
 ·omega
 ·exact absurd hp (hq p)
 ·exact⟨by omega,by omega,by omega⟩
theorem ParseP.t{bs:List Nat}{w2:World}{N:Nat→Prop}{v:Value}(h:ParseP bs w2 N v):∃v1 a b e,v= .tuple #[v1,.int .i64 e]∧RatD w2 N v1 a b∧ParseT bs a b e:=by
 rcases h with⟨h0,rfl⟩|⟨h0,q,v1,hq,rfl,h1⟩|⟨h0,hq,rfl⟩
 ·exact⟨_,0,0,8,rfl,RatD.nil _ _,.inl ⟨h0,rfl,rfl,rfl⟩⟩
 ·exact⟨_,_,_,0,rfl,h1.d,.inr (.inl ⟨h0,q,hq,rfl,rfl,rfl⟩)⟩
 ·exact⟨_,0,0,7,rfl,RatD.nil _ _,.inr (.inr ⟨h0,hq,rfl,rfl,rfl⟩)⟩
theorem sameTD_c{S:Nat→Prop}{w:World}{v u:Value}{a b:Int}(hS:Old S w)(hx:RatD w S v a b)(hy:RatD w S u a b):Con PG N.ref01_Same #[v,u] w (Ret w fun v' _=>v'= .bool true):=by
 have h:=sameD_c hS hx hy
 rwa [decide_eq_true ⟨rfl,rfl⟩]at h
theorem exactTexts_c{S:Nat→Prop}{w:World}{v:Value}{xa xb:Int}(hS:Old S w)(hx:RatR w S v xa xb)(s:ByteArray):Con PG N.law01_ExactTexts #[v,.string s] w (Ret w fun v' _=>v'= .bool true):=by
 have hw:Bel w.heap.size w w:=Bel.refl
 obtain⟨bs,rfl,hb⟩:=bytes_of s
 obtain⟨b01,a01,n01,c01,b02,a02,n02,c02,rfl⟩:=hx.shape
 refine in_law01_ExactTexts (by simp) ?_
 replace hx:=hx.weak (S':=Cv S w.heap.size []) fun _ h=>.inl h
 conv=>whnf
 refine callE_S (callE_con (Φ:=fun _ w' v w2=>∃d,v= .bool d∧(d=true→(n01≤3∧n02≤3))) (fun ρ w' r=>?_) ?_)
 ·have hb:=r.boxSeq (id:=1) (sz:=4) (n:=1) rfl rfl (by decide) (by intro u hu;simp at hu;rcases hu with rfl|rfl|rfl|rfl<;>rfl)
  refine(brief_c (S:=fun g=>g<w'.heap.size) (ks:=[((b01,a01,n01,c01),(b02,a02,n02,c02))]) (fun g hg=>hg) (hb.weak fun g hg=>by rw[hg];exact Rel.lt r rfl)).mono fun _ w2 ⟨v2,e1,e2,e3⟩=>⟨v2,e1,e2,_,e3,fun h=>?_⟩
  have h:=of_decide_eq_true h
  exact h ((b01,a01,n01,c01),(b02,a02,n02,c02)) (by simp)
 rintro ρ wa1 v1 wb1 r he hb ⟨d,rfl,hd⟩
 replace hw:=hw.tr hb
 replace hx:=hx.past (iv':=(wa1.heap.size,wb1.heap.size)::[]) r hS he fun x hx=>List.mem_cons_of_mem _ hx
 clear r he hb
 generalize (wa1.heap.size,wb1.heap.size)::[]=iv1 at*
 conv=>whnf
 cases d with
 |false=>
  conv=>whnf
  refine callE_S (callE_con (Φ:=fun _ w' v w2=>v= .bool true) (fun ρ w' r=>awake_c w') ?_)
  rintro ρ wa2 v2 wb2 r he hb rfl
  replace hw:=hw.tr hb
  replace hx:=hx.past (iv':=(wa2.heap.size,wb2.heap.size)::iv1) r hS he fun x hx=>List.mem_cons_of_mem _ hx
  clear r he hb
  generalize (wa2.heap.size,wb2.heap.size)::iv1=iv2 at*
  conv=>whnf
  intro ρe we re
  exact⟨_,rfl,hw.tr re.bel,rfl⟩
 |true=>
  obtain⟨g1,g2⟩:=hd rfl
  clear hd
  obtain⟨hx,hr⟩:=hx.shortL g1 g2
  clear g1 g2
  generalize ratio xa xb=x at hx hr
  conv=>whnf
  rw[strOf_size]
  refine BrS.mk (fun h1=>?_) (fun h1=>?_)
  ·have h1:100<bs.length:=by have:(bs.length:Int)>100:=of_decide_eq_true h1;omega
   conv=>whnf
   refine BrS.mk (fun h2=>?_) (fun h2=>?_)
   ·conv=>whnf
    refine callE_S (callE_con (Φ:=fun _ w' v w2=>v= .bool true) (fun ρ w' r=>awake_c w') ?_)
    rintro ρ wa2 v2 wb2 r he hb rfl
    replace hw:=hw.tr hb
    replace hx:=hx.past (iv':=(wa2.heap.size,wb2.heap.size)::iv1) r hS he fun x hx=>List.mem_cons_of_mem _ hx
    clear r he hb
    generalize (wa2.heap.size,wb2.heap.size)::iv1=iv2 at*
    conv=>whnf
    intro ρe we re
    exact⟨_,rfl,hw.tr re.bel,rfl⟩
   conv=>whnf
   refine BrS.mk (fun h3=>?_) (fun h3=>?_)
   ·conv=>whnf
    refine callE_S (callE_con (Φ:=fun _ w' v w2=>v= .bool true) (fun ρ w' r=>awake_c w') ?_)
    rintro ρ wa2 v2 wb2 r he hb rfl
    replace hw:=hw.tr hb
    replace hx:=hx.past (iv':=(wa2.heap.size,wb2.heap.size)::iv1) r hS he fun x hx=>List.mem_cons_of_mem _ hx
    clear r he hb
    generalize (wa2.heap.size,wb2.heap.size)::iv1=iv2 at*
    conv=>whnf
    intro ρe we re
    exact⟨_,rfl,hw.tr re.bel,rfl⟩
   have h3:bs.length≤900:=by first|(have:¬(bs.length:Int)>900:=of_decide_eq_false h3;omega)|(rw [strOf_size]at h3;have:¬(bs.length:Int)>900:=of_decide_eq_false h3;omega)
   conv=>whnf
   refine callE_S (callE_con (Φ:=fun _ w' v w2=>∃v1 a b e,v= .tuple #[v1,.int .i64 e]∧RatD w2 (Nw (fun _=>False) w' w2) v1 a b∧ParseT bs a b e) (fun ρ w' r=>(parse_c bs w' hb (by omega)).mono fun e w3 ⟨v2,x1,x2,x3⟩=>⟨v2,x1,x2,x3.t⟩) ?_)
   rintro ρ wa2 v2 wb2 r he hb ⟨vy,ay9,by9,ey,rfl,hy0,hty⟩
   replace hw:=hw.tr hb
   replace hx:=hx.past (iv':=(wa2.heap.size,wb2.heap.size)::iv1) r hS he fun x hx=>List.mem_cons_of_mem _ hx
   have hy:=RatD.got (S:=fun _=>False) hy0 r.baseLe (iv:=(wa2.heap.size,wb2.heap.size)::iv1) List.mem_cons_self
   clear r he hb
   generalize (wa2.heap.size,wb2.heap.size)::iv1=iv2 at*
   clear hy0
   obtain⟨yy0,yy1,yy2,yy3,yy4,yy5,yy6,yy7,rfl⟩:=hy.shape
   conv=>whnf
   refine callE_S (callE_con (Φ:=fun _ w' v w2=>∃v1 a b e,v= .tuple #[v1,.int .i64 e]∧RatD w2 (Nw (fun _=>False) w' w2) v1 a b∧ParseT bs a b e) (fun ρ w' r=>(rParse_c bs w' hb (by omega)).mono fun e w3 ⟨v2,x1,x2,x3⟩=>⟨v2,x1,x2,x3.t⟩) ?_)
   rintro ρ wa3 v3 wb3 r he hb ⟨vz,az9,bz9,ez,rfl,hz0,htz⟩
   replace hw:=hw.tr hb
   replace hx:=hx.past (iv':=(wa3.heap.size,wb3.heap.size)::iv2) r hS he fun x hx=>List.mem_cons_of_mem _ hx
   replace hy:=hy.past (iv':=(wa3.heap.size,wb3.heap.size)::iv2) r (oldF w) he fun x hx=>List.mem_cons_of_mem _ hx
   have hz:=RatD.got (S:=fun _=>False) hz0 r.baseLe (iv:=(wa3.heap.size,wb3.heap.size)::iv2) List.mem_cons_self
   clear r he hb
   generalize (wa3.heap.size,wb3.heap.size)::iv2=iv3 at*
   clear hz0
   obtain⟨rfl,rfl,rfl⟩:=hty.one htz
   clear htz hty
   obtain⟨zz0,zz1,zz2,zz3,zz4,zz5,zz6,zz7,rfl⟩:=hz.shape
   conv=>whnf
   refine callE_S (callE_con (Φ:=fun _ w' v w2=>v= .string (txtG x)) (fun ρ w' r=>vFormatG_c (Rel.old r hS) (hx.rel r hS).v hr) ?_)
   rintro ρ wa4 v4 wb4 r he hb rfl
   replace hw:=hw.tr hb
   replace hx:=hx.past (iv':=(wa4.heap.size,wb4.heap.size)::iv3) r hS he fun x hx=>List.mem_cons_of_mem _ hx
   replace hy:=hy.past (iv':=(wa4.heap.size,wb4.heap.size)::iv3) r (oldF w) he fun x hx=>List.mem_cons_of_mem _ hx
   replace hz:=hz.past (iv':=(wa4.heap.size,wb4.heap.size)::iv3) r (oldF w) he fun x hx=>List.mem_cons_of_mem _ hx
   clear r he hb
   generalize (wa4.heap.size,wb4.heap.size)::iv3=iv4 at*
   rw[←strOf_txtL x]
   have hlx:=txtL_len hr
   conv=>whnf
   refine callE_S (callE_con (Φ:=fun _ w' v w2=>∃v1,v= .tuple #[v1,.int .i64 0]∧RatC w2 (Nw (fun _=>False) w' w2) v1 x) (fun ρ w' r=>(parse_c (txtL x) w' (txtL_lt x) (by omega)).mono fun e w3 ⟨v2,x1,x2,x3⟩=>⟨v2,x1,x2,by
     rcases x3 with⟨h0,-⟩|⟨-,q,v1,hq,h1,h2⟩|⟨-,hq,-⟩
     ·omega
     ·exact⟨v1,h1,txtL_inj hq▸h2⟩
     ·exact absurd rfl (hq x)⟩) ?_)
   rintro ρ wa5 v5 wb5 r he hb ⟨vk,rfl,hk0⟩
   replace hw:=hw.tr hb
   replace hx:=hx.past (iv':=(wa5.heap.size,wb5.heap.size)::iv4) r hS he fun x hx=>List.mem_cons_of_mem _ hx
   replace hy:=hy.past (iv':=(wa5.heap.size,wb5.heap.size)::iv4) r (oldF w) he fun x hx=>List.mem_cons_of_mem _ hx
   replace hz:=hz.past (iv':=(wa5.heap.size,wb5.heap.size)::iv4) r (oldF w) he fun x hx=>List.mem_cons_of_mem _ hx
   have hk:=RatC.got (S:=fun _=>False) hk0 r.baseLe (iv:=(wa5.heap.size,wb5.heap.size)::iv4) List.mem_cons_self
   clear r he hb
   generalize (wa5.heap.size,wb5.heap.size)::iv4=iv5 at*
   clear hk0
   obtain⟨kk0,kk1,kk2,kk3,kk4,kk5,kk6,kk7,rfl⟩:=hk.shape
   conv=>whnf
   refine drawn_of_pi hτ hmix [.x 0,.x 1,.x 2,.x 3,.x 4,.x 5,.x 6,.x 7,.x 8,.x 9,.x 10,.x 11,.x 12,.x 13,.x 14,.x 15,.x 16,.x 17,.x 18,.x 19,.x 20,.x 21,.x 22,.x 23,.x 24,.x 25,.x 26,.x 27] (by kernel_rfl) (by kernel_rfl) ?_
   conv=>whnf
   refine callE_con (Φ:=fun _ w' v w2=>v= .string (txtG x)) (fun ρ w' r=>rFormat_c (Rel.old r hS) (hx.rel r hS) (Nat.le_trans (Nat.le_max_left _ _) (Nat.le_trans hr (by decide))) (Nat.le_trans (Nat.le_max_right _ _) (Nat.le_trans hr (by decide)))) ?_
   rintro ρ wa6 v6 wb6 r he hb rfl
   replace hw:=hw.tr hb
   replace hx:=hx.past (iv':=(wa6.heap.size,wb6.heap.size)::iv5) r hS he fun x hx=>List.mem_cons_of_mem _ hx
   replace hy:=hy.past (iv':=(wa6.heap.size,wb6.heap.size)::iv5) r (oldF w) he fun x hx=>List.mem_cons_of_mem _ hx
   replace hz:=hz.past (iv':=(wa6.heap.size,wb6.heap.size)::iv5) r (oldF w) he fun x hx=>List.mem_cons_of_mem _ hx
   replace hk:=hk.past (iv':=(wa6.heap.size,wb6.heap.size)::iv5) r (oldF w) he fun x hx=>List.mem_cons_of_mem _ hx
   clear r he hb
   generalize (wa6.heap.size,wb6.heap.size)::iv5=iv6 at*
   rw[←strOf_txtL x]
   conv=>whnf
   refine BrS.mk (fun _=>?_) (fun hne=>by simp at hne)
   conv=>whnf
   refine callE_con (Φ:=fun _ w' v w2=>v= .bool true) (fun ρ w' r=>sameTD_c (Rel.old r (oldF w)) (hy.rel r (oldF w)) (hz.rel r (oldF w))) ?_
   rintro ρ wa7 v7 wb7 r he hb rfl
   replace hw:=hw.tr hb
   replace hx:=hx.past (iv':=(wa7.heap.size,wb7.heap.size)::iv6) r hS he fun x hx=>List.mem_cons_of_mem _ hx
   clear hy
   clear hz
   replace hk:=hk.past (iv':=(wa7.heap.size,wb7.heap.size)::iv6) r (oldF w) he fun x hx=>List.mem_cons_of_mem _ hx
   clear r he hb
   generalize (wa7.heap.size,wb7.heap.size)::iv6=iv7 at*
   conv=>whnf
   refine BrS.mk (fun _=>?_) (fun hne=>by simp at hne)
   conv=>whnf
   refine callE_con (Φ:=fun _ w' v w2=>RatC w2 (Nw (fun _=>False) w' w2) v x) (fun ρ w' r=>vNormal_c (Rel.old r hS) (hx.rel r hS).v) ?_
   rintro ρ wa8 v8 wb8 r he hb hn
   replace hw:=hw.tr hb
   replace hx:=hx.past (iv':=(wa8.heap.size,wb8.heap.size)::iv7) r hS he fun x hx=>List.mem_cons_of_mem _ hx
   replace hk:=hk.past (iv':=(wa8.heap.size,wb8.heap.size)::iv7) r (oldF w) he fun x hx=>List.mem_cons_of_mem _ hx
   have hm:=hn.got (S:=fun _=>False) r.baseLe (iv:=(wa8.heap.size,wb8.heap.size)::iv7) List.mem_cons_self
   clear r he hb hn
   generalize (wa8.heap.size,wb8.heap.size)::iv7=iv8 at*
   obtain⟨s8_0,s8_1,s8_2,s8_3,s8_4,s8_5,s8_6,s8_7,rfl⟩:=hm.shape
   conv=>whnf
   refine callE_con (Φ:=fun _ w' v w2=>v= .bool true) (fun ρ w' r=>(show decide (x=x)=true from decide_eq_true rfl)▸same_c (Rel.old r (oldF w)) (hk.rel r (oldF w)) (hm.rel r (oldF w))) ?_
   rintro ρ wa9 v9 wb9 r he hb rfl
   replace hw:=hw.tr hb
   clear hx
   clear hk
   clear hm
   clear r he hb
   generalize (wa9.heap.size,wb9.heap.size)::iv8=iv9 at*
   conv=>whnf
   refine callE_con (Φ:=fun _ w' v w2=>v= .bool true) (fun ρ w' r=>awake_c w') ?_
   rintro ρ wa10 v10 wb10 r he hb rfl
   replace hw:=hw.tr hb
   clear r he hb
   generalize (wa10.heap.size,wb10.heap.size)::iv9=iv10 at*
   conv=>whnf
   intro ρe we re
   exact⟨_,rfl,hw.tr re.bel,rfl⟩
  conv=>whnf
  refine BrS.mk (fun h3=>?_) (fun h3=>?_)
  ·conv=>whnf
   refine callE_S (callE_con (Φ:=fun _ w' v w2=>v= .bool true) (fun ρ w' r=>awake_c w') ?_)
   rintro ρ wa2 v2 wb2 r he hb rfl
   replace hw:=hw.tr hb
   replace hx:=hx.past (iv':=(wa2.heap.size,wb2.heap.size)::iv1) r hS he fun x hx=>List.mem_cons_of_mem _ hx
   clear r he hb
   generalize (wa2.heap.size,wb2.heap.size)::iv1=iv2 at*
   conv=>whnf
   intro ρe we re
   exact⟨_,rfl,hw.tr re.bel,rfl⟩
  have h3:bs.length≤900:=by first|(have:¬(bs.length:Int)>900:=of_decide_eq_false h3;omega)|(rw [strOf_size]at h3;have:¬(bs.length:Int)>900:=of_decide_eq_false h3;omega)
  conv=>whnf
  refine callE_S (callE_con (Φ:=fun _ w' v w2=>∃v1 a b e,v= .tuple #[v1,.int .i64 e]∧RatD w2 (Nw (fun _=>False) w' w2) v1 a b∧ParseT bs a b e) (fun ρ w' r=>(parse_c bs w' hb (by omega)).mono fun e w3 ⟨v2,x1,x2,x3⟩=>⟨v2,x1,x2,x3.t⟩) ?_)
  rintro ρ wa2 v2 wb2 r he hb ⟨vy,ay9,by9,ey,rfl,hy0,hty⟩
  replace hw:=hw.tr hb
  replace hx:=hx.past (iv':=(wa2.heap.size,wb2.heap.size)::iv1) r hS he fun x hx=>List.mem_cons_of_mem _ hx
  have hy:=RatD.got (S:=fun _=>False) hy0 r.baseLe (iv:=(wa2.heap.size,wb2.heap.size)::iv1) List.mem_cons_self
  clear r he hb
  generalize (wa2.heap.size,wb2.heap.size)::iv1=iv2 at*
  clear hy0
  obtain⟨yy0,yy1,yy2,yy3,yy4,yy5,yy6,yy7,rfl⟩:=hy.shape
  conv=>whnf
  refine callE_S (callE_con (Φ:=fun _ w' v w2=>∃v1 a b e,v= .tuple #[v1,.int .i64 e]∧RatD w2 (Nw (fun _=>False) w' w2) v1 a b∧ParseT bs a b e) (fun ρ w' r=>(rParse_c bs w' hb (by omega)).mono fun e w3 ⟨v2,x1,x2,x3⟩=>⟨v2,x1,x2,x3.t⟩) ?_)
  rintro ρ wa3 v3 wb3 r he hb ⟨vz,az9,bz9,ez,rfl,hz0,htz⟩
  replace hw:=hw.tr hb
  replace hx:=hx.past (iv':=(wa3.heap.size,wb3.heap.size)::iv2) r hS he fun x hx=>List.mem_cons_of_mem _ hx
  replace hy:=hy.past (iv':=(wa3.heap.size,wb3.heap.size)::iv2) r (oldF w) he fun x hx=>List.mem_cons_of_mem _ hx
  have hz:=RatD.got (S:=fun _=>False) hz0 r.baseLe (iv:=(wa3.heap.size,wb3.heap.size)::iv2) List.mem_cons_self
  clear r he hb
  generalize (wa3.heap.size,wb3.heap.size)::iv2=iv3 at*
  clear hz0
  obtain⟨rfl,rfl,rfl⟩:=hty.one htz
  clear htz hty
  obtain⟨zz0,zz1,zz2,zz3,zz4,zz5,zz6,zz7,rfl⟩:=hz.shape
  conv=>whnf
  refine callE_S (callE_con (Φ:=fun _ w' v w2=>v= .string (txtG x)) (fun ρ w' r=>vFormatG_c (Rel.old r hS) (hx.rel r hS).v hr) ?_)
  rintro ρ wa4 v4 wb4 r he hb rfl
  replace hw:=hw.tr hb
  replace hx:=hx.past (iv':=(wa4.heap.size,wb4.heap.size)::iv3) r hS he fun x hx=>List.mem_cons_of_mem _ hx
  replace hy:=hy.past (iv':=(wa4.heap.size,wb4.heap.size)::iv3) r (oldF w) he fun x hx=>List.mem_cons_of_mem _ hx
  replace hz:=hz.past (iv':=(wa4.heap.size,wb4.heap.size)::iv3) r (oldF w) he fun x hx=>List.mem_cons_of_mem _ hx
  clear r he hb
  generalize (wa4.heap.size,wb4.heap.size)::iv3=iv4 at*
  rw[←strOf_txtL x]
  have hlx:=txtL_len hr
  conv=>whnf
  refine callE_S (callE_con (Φ:=fun _ w' v w2=>∃v1,v= .tuple #[v1,.int .i64 0]∧RatC w2 (Nw (fun _=>False) w' w2) v1 x) (fun ρ w' r=>(parse_c (txtL x) w' (txtL_lt x) (by omega)).mono fun e w3 ⟨v2,x1,x2,x3⟩=>⟨v2,x1,x2,by
    rcases x3 with⟨h0,-⟩|⟨-,q,v1,hq,h1,h2⟩|⟨-,hq,-⟩
    ·omega
    ·exact⟨v1,h1,txtL_inj hq▸h2⟩
    ·exact absurd rfl (hq x)⟩) ?_)
  rintro ρ wa5 v5 wb5 r he hb ⟨vk,rfl,hk0⟩
  replace hw:=hw.tr hb
  replace hx:=hx.past (iv':=(wa5.heap.size,wb5.heap.size)::iv4) r hS he fun x hx=>List.mem_cons_of_mem _ hx
  replace hy:=hy.past (iv':=(wa5.heap.size,wb5.heap.size)::iv4) r (oldF w) he fun x hx=>List.mem_cons_of_mem _ hx
  replace hz:=hz.past (iv':=(wa5.heap.size,wb5.heap.size)::iv4) r (oldF w) he fun x hx=>List.mem_cons_of_mem _ hx
  have hk:=RatC.got (S:=fun _=>False) hk0 r.baseLe (iv:=(wa5.heap.size,wb5.heap.size)::iv4) List.mem_cons_self
  clear r he hb
  generalize (wa5.heap.size,wb5.heap.size)::iv4=iv5 at*
  clear hk0
  obtain⟨kk0,kk1,kk2,kk3,kk4,kk5,kk6,kk7,rfl⟩:=hk.shape
  conv=>whnf
  refine drawn_of_pi hτ hmix [.x 0,.x 1,.x 2,.x 3,.x 4,.x 5,.x 6,.x 7,.x 8,.x 9,.x 10,.x 11,.x 12,.x 13,.x 14,.x 15,.x 16,.x 17,.x 18,.x 19,.x 20,.x 21,.x 22,.x 23,.x 24,.x 25,.x 26,.x 27] (by kernel_rfl) (by kernel_rfl) ?_
  conv=>whnf
  refine callE_con (Φ:=fun _ w' v w2=>v= .string (txtG x)) (fun ρ w' r=>rFormat_c (Rel.old r hS) (hx.rel r hS) (Nat.le_trans (Nat.le_max_left _ _) (Nat.le_trans hr (by decide))) (Nat.le_trans (Nat.le_max_right _ _) (Nat.le_trans hr (by decide)))) ?_
  rintro ρ wa6 v6 wb6 r he hb rfl
  replace hw:=hw.tr hb
  replace hx:=hx.past (iv':=(wa6.heap.size,wb6.heap.size)::iv5) r hS he fun x hx=>List.mem_cons_of_mem _ hx
  replace hy:=hy.past (iv':=(wa6.heap.size,wb6.heap.size)::iv5) r (oldF w) he fun x hx=>List.mem_cons_of_mem _ hx
  replace hz:=hz.past (iv':=(wa6.heap.size,wb6.heap.size)::iv5) r (oldF w) he fun x hx=>List.mem_cons_of_mem _ hx
  replace hk:=hk.past (iv':=(wa6.heap.size,wb6.heap.size)::iv5) r (oldF w) he fun x hx=>List.mem_cons_of_mem _ hx
  clear r he hb
  generalize (wa6.heap.size,wb6.heap.size)::iv5=iv6 at*
  rw[←strOf_txtL x]
  conv=>whnf
  refine BrS.mk (fun _=>?_) (fun hne=>by simp at hne)
  conv=>whnf
  refine callE_con (Φ:=fun _ w' v w2=>v= .bool true) (fun ρ w' r=>sameTD_c (Rel.old r (oldF w)) (hy.rel r (oldF w)) (hz.rel r (oldF w))) ?_
  rintro ρ wa7 v7 wb7 r he hb rfl
  replace hw:=hw.tr hb
  replace hx:=hx.past (iv':=(wa7.heap.size,wb7.heap.size)::iv6) r hS he fun x hx=>List.mem_cons_of_mem _ hx
  clear hy
  clear hz
  replace hk:=hk.past (iv':=(wa7.heap.size,wb7.heap.size)::iv6) r (oldF w) he fun x hx=>List.mem_cons_of_mem _ hx
  clear r he hb
  generalize (wa7.heap.size,wb7.heap.size)::iv6=iv7 at*
  conv=>whnf
  refine BrS.mk (fun _=>?_) (fun hne=>by simp at hne)
  conv=>whnf
  refine callE_con (Φ:=fun _ w' v w2=>RatC w2 (Nw (fun _=>False) w' w2) v x) (fun ρ w' r=>vNormal_c (Rel.old r hS) (hx.rel r hS).v) ?_
  rintro ρ wa8 v8 wb8 r he hb hn
  replace hw:=hw.tr hb
  replace hx:=hx.past (iv':=(wa8.heap.size,wb8.heap.size)::iv7) r hS he fun x hx=>List.mem_cons_of_mem _ hx
  replace hk:=hk.past (iv':=(wa8.heap.size,wb8.heap.size)::iv7) r (oldF w) he fun x hx=>List.mem_cons_of_mem _ hx
  have hm:=hn.got (S:=fun _=>False) r.baseLe (iv:=(wa8.heap.size,wb8.heap.size)::iv7) List.mem_cons_self
  clear r he hb hn
  generalize (wa8.heap.size,wb8.heap.size)::iv7=iv8 at*
  obtain⟨s8_0,s8_1,s8_2,s8_3,s8_4,s8_5,s8_6,s8_7,rfl⟩:=hm.shape
  conv=>whnf
  refine callE_con (Φ:=fun _ w' v w2=>v= .bool true) (fun ρ w' r=>(show decide (x=x)=true from decide_eq_true rfl)▸same_c (Rel.old r (oldF w)) (hk.rel r (oldF w)) (hm.rel r (oldF w))) ?_
  rintro ρ wa9 v9 wb9 r he hb rfl
  replace hw:=hw.tr hb
  clear hx
  clear hk
  clear hm
  clear r he hb
  generalize (wa9.heap.size,wb9.heap.size)::iv8=iv9 at*
  conv=>whnf
  refine callE_con (Φ:=fun _ w' v w2=>v= .bool true) (fun ρ w' r=>awake_c w') ?_
  rintro ρ wa10 v10 wb10 r he hb rfl
  replace hw:=hw.tr hb
  clear r he hb
  generalize (wa10.heap.size,wb10.heap.size)::iv9=iv10 at*
  conv=>whnf
  intro ρe we re
  exact⟨_,rfl,hw.tr re.bel,rfl⟩
end Go.Ex
