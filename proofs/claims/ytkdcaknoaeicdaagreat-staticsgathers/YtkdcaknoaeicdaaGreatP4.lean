/- A part of the proof: texts X9 to L4. Each tells its conditions in its theorems. -/
import Derived.Test.YtkdcaknoaeicdaaGreatP3
/- The division by one limb of package exact. No condition. -/
namespace Go.Ex
open Go Go.Sx Go.Proofs

theorem short_step{out ls:List Nat}{k by_ rest x d t:Nat}(hx:ls[k]? =some x)(hd:out[k]? =some d)(ht:t=rest*4294967296+x)
  (hv:val (ls.drop (k+1))=by_*val (out.drop (k+1))+rest):val (ls.drop k)=by_*val ((out.set k (t / by_)).drop k)+t % by_:=by
 have hi:=(List.getElem?_eq_some_iff.1 hd).1
 have h1:(out.set k (t / by_))[k]? =some (t / by_):=by rw[List.getElem?_set_self hi]
 rw[val_drop h1,List.drop_set_of_lt (show k<k+1 by omega),val_drop hx,hv,Nat.mul_add,Nat.mul_add]
 have h2:=Nat.div_add_mod t by_
 rw[Nat.mul_left_comm by_]
 omega

theorem quo64n{t b:Nat}(h:t<18446744073709551616):IntKind.u64.wrap ((t:Int).tdiv (b:Int))=((t / b:Nat):Int):=by
 have h1:=Nat.div_le_self t b
 rw[Int.tdiv_eq_ediv_of_nonneg (by omega),←Int.natCast_ediv]
 exact wrapU64n (by omega)
theorem rem64n(t b:Nat):(t:Int).tmod (b:Int)=((t % b:Nat):Int):=by
 rw[Int.tmod_eq_emod_of_nonneg (by omega),←Int.natCast_emod]

theorem short_c{S:Nat→Prop}{w:World}{v:Value}{ls:List Nat}{b:Nat}(hS:Old S w)(h:Limbs w S v ls)(hl:ls.length≤1000000000000)(hb:0<b)(hb2:b<4294967296):
  Con PG N.exact_nat_short #[v,.int .u32 b] w (Ret w fun v' w2=>∃q,v'= .tuple #[q,.int .u32 ((val ls % b:Nat):Int)]∧NatR w2 (Nw (fun _=>False) w w2) q (val ls / b)):=by
 obtain⟨x,rfl,rfl⟩:=h.la
 refine in_exact_nat_short (by simp) ?_
 conv=>whnf
 refine⟨x.ls.length,x.ls.length,rfl,rfl,Nat.le_refl _,by omega,by omega,?_⟩
 conv=>whnf
 refine⟨(x.ls.length:Int)-1,by rw[wrap64]<;>omega,?_⟩
 conv=>whnf
 refine⟨Nat×Nat×List Nat×World,fun z=>⟨[(0,.o (.v (.slice x.a x.ls.length x.c))),(1,.o (.v (.int .u32 b))),(4,.o (.v (.slice none 0 0))),(5,.o (.v (.int .u32 0))),(6,.o (.s 0 0 x.ls.length x.ls.length)),(7,.o (.v (.int .u64 z.2.1))),(8,.o (.v (.int .i64 ((z.1:Int)-1))))],
   [(0,.arr T.uint32 (U z.2.2.1))],1,[],z.2.2.2⟩,fun z=>z.1,
  fun z=>z.1≤x.ls.length∧Bel w.heap.size w z.2.2.2∧z.2.2.1.length=x.ls.length∧Lm z.2.2.1∧z.2.1<b∧val (x.ls.drop z.1)=b*val (z.2.2.1.drop z.1)+z.2.1,?_,?_⟩
 ·intro ρ w' r
  rw[U_zero]at r
  exact⟨(x.ls.length,0,List.replicate x.ls.length 0,w'),⟨by simp,r.bel,by simp,Lm.replicate _,by simpa using hb,by simp[val]⟩,Sub.gen [] r ⟨rfl,trivial⟩ ⟨rfl,rfl,rfl,rfl,rfl,rfl,rfl,trivial⟩ (by simp[ScH,Blk.scopd]) (by simp[ScE,SV.sc,At.sc]) (by rfl) (by simp)⟩
 ·rintro⟨k,rest,out,w1⟩ ⟨hi,hw,hol,hlm1,hr,hv⟩
  dsimp only at hi hw hol hlm1 hr hv ⊢
  conv=>whnf
  refine BrS.mk (fun h=>?_) (fun h=>?_)
  ·have h:(k:Int)-1≥0:=of_decide_eq_true h
   obtain⟨k,rfl⟩:∃q,k=q+1:=⟨k-1,by omega⟩
   rw[show ((k+1:Nat):Int)-1=(k:Int) by omega]
   obtain⟨a,hxi⟩:∃q,x.ls[k]? =some q:=⟨_,List.getElem?_eq_getElem (by omega)⟩
   obtain⟨ad,had,hload⟩:=x.load hS hw hxi
   have hx32:=x.lm.at hxi
   obtain⟨d,hd⟩:∃q,out[k]? =some q:=⟨_,List.getElem?_eq_getElem (by omega)⟩
   conv=>whnf
   refine⟨by decide,((rest*2^32:Nat):Int),shl64n (k:=32) (by decide) (by omega),?_⟩
   conv=>whnf
   refine⟨ad,had,⟨by omega,by omega⟩,?_⟩
   conv=>whnf
   refine⟨.int .u32 a,hload _ _ _,?_⟩
   conv=>whnf
   refine⟨(a:Int),wrapU64n (by omega),?_⟩
   conv=>whnf
   have hor:rest*2^32 ||| a=rest*4294967296+a:=by
    rw[Nat.or_comm,Nat.mul_comm,or_add (k:=32) hx32];omega
   refine⟨((rest*4294967296+a:Nat):Int),by rw[or64u (by omega) (by omega),hor],?_⟩
   conv=>whnf
   generalize ht:rest*4294967296+a=t
   have ht64:t<18446744073709551616:=by omega
   refine drawn_of_pi hτ hmix [.x 0,.x 1,.x 2,.x 3,.x 4,.x 5,.x 6,.x 7,.x 8,.x 9,.x 10,.x 11,.x 12,.x 13] (by kernel_rfl) (by kernel_rfl) ?_
   conv=>whnf
   refine⟨(b:Int),wrapU64n (by omega),?_⟩
   conv=>whnf
   refine⟨by omega,((t / b:Nat):Int),quo64n ht64,?_⟩
   have hq:t / b<4294967296:=by
    rw[Nat.div_lt_iff_lt_mul hb]
    have:=Nat.mul_le_mul_right 4294967296 hr
    rw[Nat.succ_eq_add_one,Nat.add_mul]at this
    omega
   have hm:t % b<b:=Nat.mod_lt _ hb
   have hstep:=short_step hxi hd ht.symm hv
   have hw32:IntKind.u32.wrap ((t / b:Nat):Int)=((t / b:Nat):Int):=by rw[wrapU32n,Nat.mod_eq_of_lt hq]
   have hrem:=rem64n t b
   generalize t / b=q at*
   generalize t % b=m at*
   conv=>whnf
   refine⟨(q:Int),hw32,?_⟩
   conv=>whnf
   refine⟨(b:Int),wrapU64n (by omega),?_⟩
   conv=>whnf
   refine⟨by omega,(m:Int),hrem,?_⟩
   conv=>whnf
   refine⟨⟨by omega,by omega⟩,?_⟩
   conv=>whnf
   refine⟨by rw[U_len];omega,U (out.set k q),U_store out k _ (by omega) (by simp),?_⟩
   conv=>whnf
   refine⟨(k:Int)-1,by rw[wrap64]<;>omega,?_⟩
   conv=>whnf
   intro ρ3 w3 r3
   exact⟨(k,m,out.set k q,w3),⟨by dsimp only;omega,hw.tr r3.bel,by simp[hol],hlm1.set hq,hm,hstep⟩,
    Sub.gen [] r3 ⟨rfl,trivial⟩ ⟨rfl,rfl,rfl,rfl,rfl,rfl,rfl,trivial⟩ (by simp[ScH,Blk.scopd]) (by simp[ScE,SV.sc,At.sc]) (by rfl) (by simp),by dsimp only;omega⟩
  ·have hk0:k=0:=by
    have:¬(k:Int)-1≥0:=of_decide_eq_false h
    omega
   subst hk0
   rw[List.drop_zero,List.drop_zero]at hv
   have hdm:val x.ls / b=val out∧val x.ls % b=rest:=by
    rw[hv]
    exact⟨by rw[Nat.mul_add_div hb,Nat.div_eq_of_lt hr,Nat.add_zero],by rw[Nat.mul_add_mod,Nat.mod_eq_of_lt hr]⟩
   rw[hdm.1,hdm.2]
   conv=>whnf
   refine callE_free (Φ:=fun ρ _ v w2=>Limbs w2 (fun g=>g=(ρ 0).g) v (trimL out)) (H':=[]) 0 rfl (by simp) trivial rfl (fun ρ w' r=>r.nn 0 _ rfl (by intros;simp) (by simp)) (fun ρ w' r=>?_) ?_
   ·have hL:=r.ownLimbs (id:=0) rfl hlm1 (by omega)
    rw[hol]at hL
    exact trimmed_c (fun g hg=>by rw[hg];exact(r.low 0 _ rfl (r.nn 0 _ rfl (by intros;simp) (by simp))).2) hL
   rintro ρ w' v w2 r he hb hL
   replace hw:=hw.tr hb
   have hlow:=r.low 0 _ rfl (r.nn 0 _ rfl (by intros;simp) (by simp))
   generalize (ρ 0).g=g at*
   have hs:=he.size
   clear r he hb
   conv=>whnf
   refine⟨(rest:Int),by rw[wrapU32n,Nat.mod_eq_of_lt (by omega)],?_⟩
   conv=>whnf
   intro ρ3 w3 r3
   refine⟨_,rfl,hw.tr r3.bel,v,rfl,trimL out,?_,(trimL_spec out).2.1,(trimL_spec out).1⟩
   refine(hL.keep fun k hk=>?_).weak fun k hk=>.inr ?_
   ·rw[hk]
    exact r3.nilBy.block g (by omega) (by simp)
   ·rw[hk]
    have:=r3.size
    omega
end Go.Ex

/- Bits of a limb; clones. No condition. -/
namespace Go.Ex
open Go Go.Sx Go.Proofs

def blen(n:Nat):Nat:=if n=0 then 0 else n.log2+1
theorem log2_div{x k:Nat}(h:2^k≤x):x.log2=(x / 2^k).log2+k:=by
 have hp:=Nat.two_pow_pos k
 have hy:x / 2^k≠0:=by have:=Nat.div_pos h hp;omega
 have h1:=Nat.log2_self_le hy
 have h2:=@Nat.lt_log2_self (x / 2^k)
 rw[Nat.log2_eq_iff (by omega)]
 refine⟨?_,?_⟩
 ·rw[Nat.pow_add];exact(Nat.le_div_iff_mul_le hp).1 h1
 ·rw[show (x / 2^k).log2+k+1=(x / 2^k).log2+1+k by omega,Nat.pow_add];exact(Nat.div_lt_iff_lt_mul hp).1 h2
theorem blen_div{x k:Nat}(h:2^k≤x):blen x=k+blen (x / 2^k):=by
 have hp:=Nat.two_pow_pos k
 have hy:x / 2^k≠0:=by have:=Nat.div_pos h hp;omega
 rw[blen,blen,if_neg hy,if_neg (by omega),log2_div h]
 omega
theorem wrapU8n{n:Nat}(h:n<256):IntKind.u8.wrap (n:Int)=(n:Int):=by
 show((n:Int) % 256)=_
 omega
theorem blen_u8{n:Nat}(h:n<256):(UInt8.ofNat (blen n)).toNat=blen n:=by
 have:∀n,n<256→(UInt8.ofNat (blen n)).toNat=blen n:=by decide +kernel
 exact this n h

theorem len32_tail{x:Nat}(h:x<256):blen x≤8:=by
 have:∀n,n<256→blen n≤8:=by decide +kernel
 exact this x h

theorem tab_c(n:Nat)(h:n<256):(⟨#[0,1,2,2,3,3,3,3,4,4,4,4,4,4,4,4,5,5,5,5,5,5,5,5,5,5,5,5,5,5,5,5,6,6,6,6,6,6,6,6,6,6,6,6,6,6,6,6,6,6,6,6,6,6,6,6,6,6,6,6,6,6,6,6,7,7,7,7,7,7,7,7,7,7,7,7,7,7,7,7,7,7,7,7,7,7,7,7,7,7,7,7,7,7,7,7,7,7,7,7,7,7,7,7,7,7,7,7,7,7,7,7,7,7,7,7,7,7,7,7,7,7,7,7,7,7,7,7,8,8,8,8,8,8,8,8,8,8,8,8,8,8,8,8,8,8,8,8,8,8,8,8,8,8,8,8,8,8,8,8,8,8,8,8,8,8,8,8,8,8,8,8,8,8,8,8,8,8,8,8,8,8,8,8,8,8,8,8,8,8,8,8,8,8,8,8,8,8,8,8,8,8,8,8,8,8,8,8,8,8,8,8,8,8,8,8,8,8,8,8,8,8,8,8,8,8,8,8,8,8,8,8,8,8,8,8,8,8,8,8,8,8,8,8,8,8,8,8,8,8,8,8,8,8,8,8]⟩:ByteArray)[((n:Nat):Int).toNat]? =some (UInt8.ofNat (blen n)):=by
 have:∀n,n<256→(⟨#[0,1,2,2,3,3,3,3,4,4,4,4,4,4,4,4,5,5,5,5,5,5,5,5,5,5,5,5,5,5,5,5,6,6,6,6,6,6,6,6,6,6,6,6,6,6,6,6,6,6,6,6,6,6,6,6,6,6,6,6,6,6,6,6,7,7,7,7,7,7,7,7,7,7,7,7,7,7,7,7,7,7,7,7,7,7,7,7,7,7,7,7,7,7,7,7,7,7,7,7,7,7,7,7,7,7,7,7,7,7,7,7,7,7,7,7,7,7,7,7,7,7,7,7,7,7,7,7,8,8,8,8,8,8,8,8,8,8,8,8,8,8,8,8,8,8,8,8,8,8,8,8,8,8,8,8,8,8,8,8,8,8,8,8,8,8,8,8,8,8,8,8,8,8,8,8,8,8,8,8,8,8,8,8,8,8,8,8,8,8,8,8,8,8,8,8,8,8,8,8,8,8,8,8,8,8,8,8,8,8,8,8,8,8,8,8,8,8,8,8,8,8,8,8,8,8,8,8,8,8,8,8,8,8,8,8,8,8,8,8,8,8,8,8,8,8,8,8,8,8,8,8,8,8,8,8]⟩:ByteArray)[n]? =some (UInt8.ofNat (blen n)):=by decide +kernel
 exact this n h

theorem len32_c(x:Nat)(w:World)(hx:x<4294967296):Con PG N.bits_Len32 #[.int .u32 x] w (Ret w fun v _=>v= .int .i64 (blen x)):=by
 refine in_bits_Len32 (by simp) ?_
 conv=>whnf
 refine BrS.mk (fun h=>?_) (fun h=>?_)
 ·have h:65536≤x:=by have:=of_decide_eq_true h;omega
  conv=>whnf
  refine⟨by decide,((x / 2^16:Nat):Int),fdiv_shr32 16 (by decide),?_⟩
  have hb:=blen_div (k:=16) h
  have hy:x / 2^16<65536:=by omega
  rw[hb]
  generalize x / 2^16=y at*
  conv=>whnf
  refine BrS.mk (fun h2=>?_) (fun h2=>?_)
  ·have h2:256≤y:=by have:=of_decide_eq_true h2;omega
   conv=>whnf
   refine⟨by decide,((y / 2^8:Nat):Int),fdiv_shr32 8 (by decide),?_⟩
   have hb2:=blen_div (k:=8) h2
   have hz:y / 2^8<256:=by omega
   rw[hb2]
   generalize y / 2^8=z at*
   conv=>whnf
   refine⟨24,by decide,?_⟩
   conv=>whnf
   refine⟨(z:Int),wrapU8n hz,?_⟩
   conv=>whnf
   refine opS_index (b:=UInt8.ofNat (blen z)) ((hτ _ _ rfl).i3 rfl) rfl rfl (by omega) (tab_c z hz) (fun ρ1 w1 r1=>?_)
   rw[blen_u8 hz]
   have ht:=len32_tail hz
   conv=>whnf
   refine⟨(blen z:Int),by rw[wrap64]<;>omega,?_⟩
   conv=>whnf
   refine⟨((24+blen z:Nat):Int),by rw[wrap64]<;>omega,?_⟩
   conv=>whnf
   intro ρ3 w3 r3
   exact⟨_,rfl,r1.bel.tr r3.bel,by rw[←Nat.add_assoc];rfl⟩
  ·have hy:y<256:=by have:=of_decide_eq_false h2;omega
   conv=>whnf
   refine⟨(y:Int),wrapU8n hy,?_⟩
   conv=>whnf
   refine opS_index (b:=UInt8.ofNat (blen y)) ((hτ _ _ rfl).i3 rfl) rfl rfl (by omega) (tab_c y hy) (fun ρ1 w1 r1=>?_)
   rw[blen_u8 hy]
   have ht:=len32_tail hy
   conv=>whnf
   refine⟨(blen y:Int),by rw[wrap64]<;>omega,?_⟩
   conv=>whnf
   refine⟨((16+blen y:Nat):Int),by rw[wrap64]<;>omega,?_⟩
   conv=>whnf
   intro ρ3 w3 r3
   exact⟨_,rfl,r1.bel.tr r3.bel,by rfl⟩
 ·have h:x<65536:=by have:=of_decide_eq_false h;omega
  conv=>whnf
  refine BrS.mk (fun h2=>?_) (fun h2=>?_)
  ·have h2:256≤x:=by have:=of_decide_eq_true h2;omega
   conv=>whnf
   refine⟨by decide,((x / 2^8:Nat):Int),fdiv_shr32 8 (by decide),?_⟩
   have hb2:=blen_div (k:=8) h2
   have hz:x / 2^8<256:=by omega
   rw[hb2]
   generalize x / 2^8=z at*
   conv=>whnf
   refine⟨8,by decide,?_⟩
   conv=>whnf
   refine⟨(z:Int),wrapU8n hz,?_⟩
   conv=>whnf
   refine opS_index (b:=UInt8.ofNat (blen z)) ((hτ _ _ rfl).i3 rfl) rfl rfl (by omega) (tab_c z hz) (fun ρ1 w1 r1=>?_)
   rw[blen_u8 hz]
   have ht:=len32_tail hz
   conv=>whnf
   refine⟨(blen z:Int),by rw[wrap64]<;>omega,?_⟩
   conv=>whnf
   refine⟨((8+blen z:Nat):Int),by rw[wrap64]<;>omega,?_⟩
   conv=>whnf
   intro ρ3 w3 r3
   exact⟨_,rfl,r1.bel.tr r3.bel,by rfl⟩
  ·have hx:x<256:=by have:=of_decide_eq_false h2;omega
   conv=>whnf
   refine⟨(x:Int),wrapU8n hx,?_⟩
   conv=>whnf
   refine opS_index (b:=UInt8.ofNat (blen x)) ((hτ _ _ rfl).i3 rfl) rfl rfl (by omega) (tab_c x hx) (fun ρ1 w1 r1=>?_)
   rw[blen_u8 hx]
   have ht:=len32_tail hx
   conv=>whnf
   refine⟨(blen x:Int),by rw[wrap64]<;>omega,?_⟩
   conv=>whnf
   refine⟨((0+blen x:Nat):Int),by rw[wrap64]<;>omega,?_⟩
   conv=>whnf
   intro ρ3 w3 r3
   exact⟨_,rfl,r1.bel.tr r3.bel,by rw[Nat.zero_add];rfl⟩

theorem blen_le{x k:Nat}:blen x≤k↔x<2^k:=by
 unfold blen
 by_cases h:x=0
 ·rw[if_pos h,h]
  exact⟨fun _=>Nat.two_pow_pos k,fun _=>Nat.zero_le _⟩
 ·rw[if_neg h]
  constructor
  ·intro h1
   exact(Nat.log2_lt h).1 (by omega)
  ·intro h1
   have:=(Nat.log2_lt h).2 h1
   omega
theorem lz32_c(x:Nat)(w:World)(hx:x<4294967296):Con PG N.bits_LeadingZeros32 #[.int .u32 x] w (Ret w fun v _=>v= .int .i64 ((32-blen x:Nat):Int)):=by
 refine in_bits_LeadingZeros32 (by simp) ?_
 conv=>whnf
 refine callE_S (callE_con (Φ:=fun _ _ v _=>v= .int .i64 (blen x)) (fun ρ w' r=>len32_c x w' hx) ?_)
 rintro ρ w' v w2 r he hb rfl
 have h32:blen x≤32:=blen_le.2 hx
 conv=>whnf
 refine⟨((32-blen x:Nat):Int),by rw[wrap64]<;>omega,?_⟩
 conv=>whnf
 intro ρ3 w3 r3
 exact⟨_,rfl,hb.tr r3.bel,rfl⟩

end Go.Ex
namespace Go.Sx
open Go Go.Ex Go.Proofs
/-- a growing list of one's own, seen as limbs -/
theorem Rel.vecLimbs{H:Hp}{nx:Nat}{iv:Iv}{B:Nat}{w w':World}{ρ:Nat→Sx.Val}(r:Rel H nx iv B w ρ w'){id t m:Nat}{ls:List Nat}(h:getH H id=some (.vec t 1 (U ls)))(hm:m=ls.length)(hlm:Lm ls)(hle:ls.length≤9223372036854775807):
  Limbs w' (fun g=>B≤g∧g<w'.heap.size) ((At.w id m).den ρ) ls:=by
 subst hm
 rcases r.vec id t 1 _ h with⟨hn,hu⟩|⟨hn,spare,hb,hc,hcap⟩
 ·have hl:ls=[]:=by cases ls with
   |nil=>rfl
   |cons a b=>simp[U]at hu
  subst hl
  have:(At.w id ([]:List Nat).length).den ρ= .slice none 0 0:=by simp[At.den,hn]
  rw[this]
  exact Limbs.nil _ _
 ·refine⟨hlm,hle,some ⟨(ρ id).g,0,none⟩,(ρ id).cap,by simp[At.den,hn],?_,fun j x hx=>⟨_,rfl,r.low id _ h hn,?_⟩⟩
  ·have h1:(U ls++spare).length=ls.length+spare.length:=by rw[List.length_append,U_len]
   omega
  ·rw[addr_add,cell_of hb,Nat.zero_add,List.getElem?_append_left (by rw[U_len];exact(List.getElem?_eq_some_iff.1 hx).1)]
   exact U_get hx
end Go.Sx
namespace Go.Ex
open Go Go.Sx Go.Proofs

theorem und_nat:PG.underlying T.nat=some (.slice T.uint32):=by
 have h:=(hτ T.nat _ rfl).i4 rfl
 exact h

theorem clone_c{S:Nat→Prop}{w:World}{v:Value}{ls:List Nat}(hS:Old S w)(h:Limbs w S v ls)(hl:ls.length≤1000000000000):
  Con PG N.slices_Clone_of_exact_nat_uint32_of #[v] w (Ret w fun v' w2=>Limbs w2 (Nw (fun _=>False) w w2) v' ls):=by
 obtain⟨x,rfl,rfl⟩:=h.la
 refine in_slices_Clone_of_exact_nat_uint32_of (by simp) ?_
 conv=>whnf
 refine⟨x.a.isNone,fun ρ w1 o1 o2=>by simp[eqGuard,SV.den,At.den,run_eql_nilslice (P:=PG) w1 T.nat T.uint32 x.a x.ls.length x.c 0 0 und_nat],?_⟩
 conv=>whnf
 refine BrS.mk (fun h=>?_) (fun h=>?_)
 ·conv=>whnf
  intro ρ3 w3 r3
  have hn:x.ls=[]:=by
   cases hx:x.ls with
   |nil=>rfl
   |cons u r=>
    obtain⟨ad,h1,_⟩:=x.cell 0 u (by rw[hx];rfl)
    rw[h1]at h
    simp at h
  exact⟨_,rfl,r3.bel,by rw[hn];exact Limbs.nil _ _⟩
 ·conv=>whnf
  refine .inl ?_
  conv=>whnf
  refine⟨U x.ls,by rw[U_len,Nat.mul_one],fun u hu=>by simp only[U,List.mem_map]at hu;obtain⟨n,_,rfl⟩:=hu;rfl,fun ρ w1 r h0=>?_,?_⟩
  ·obtain⟨u,hu⟩:∃q,x.ls[0]? =some q:=⟨_,List.getElem?_eq_getElem h0⟩
   obtain⟨ad,had,_⟩:=x.cell 0 u hu
   refine⟨ad,had,fun j u hu=>?_⟩
   simp only[U,List.getElem?_map,Option.map_eq_some_iff]at hu
   obtain⟨n,hn,rfl⟩:=hu
   obtain⟨ad2,had2,hs,hc⟩:=x.cell j n hn
   rw[had]at had2
   injection had2 with had2
   subst had2
   exact cellS hS Bel.refl r hs hc
  conv=>whnf
  refine⟨rfl,by omega,by unfold maxLen;omega,?_⟩
  conv=>whnf
  intro ρ3 w3 r3
  exact⟨_,rfl,r3.bel,(r3.vecLimbs (id:=1) rfl (Nat.zero_add _) x.lm x.le).weak fun g hg=>.inr hg⟩
end Go.Ex

/- The step of the division of package exact: a multiple is taken away. No condition. -/
namespace Go.Ex
open Go Go.Sx Go.Proofs

end Go.Ex
namespace Go.Sx
open Go Go.Ex Go.Proofs
theorem Rel.baseLe{H:Hp}{nx:Nat}{iv:Iv}{B:Nat}{w w':World}{ρ:Nat→Sx.Val}(r:Rel H nx iv B w ρ w'):B≤w'.heap.size:=by have:=r.base;have:=r.size;omega
end Go.Sx
namespace Go.Ex
open Go Go.Sx Go.Proofs
end Go.Ex
namespace Go.Sx
open Go Go.Ex Go.Proofs
/-- a list in a box of one's own that a call is handed -/
theorem Rel.boxLimbs{H:Hp}{nx:Nat}{iv:Iv}{B:Nat}{w w':World}{ρ:Nat→Sx.Val}{ls:List Nat}(r:Rel H nx iv B w ρ w'){id t:Nat}(h:getH H id=some (.box t ((U ls).map At.v)))(hlm:Lm ls)(hle:ls.length≤9223372036854775807):
  Limbs w' (fun g=>g=(ρ id).g) (.slice (some ⟨(ρ id).g,0,none⟩) ls.length ls.length) ls:=by
 refine⟨hlm,hle,_,_,rfl,Nat.le_refl _,fun j x hx=>⟨_,rfl,rfl,?_⟩⟩
 have h0:(⟨(ρ id).g,0,none⟩:Addr).add j=⟨(ρ id).g,j,none⟩:=by
  cases j with
  |zero=>rfl
  |succ j=>simp[Addr.add]
 rw[h0,cell_of (r.box id t _ h),map_v_den]
 exact U_get hx
end Go.Sx
namespace Go.Ex
open Go Go.Sx Go.Proofs
section
variable{S:Nat→Prop}{H:Hp}{nx:Nat}{iv iv':Iv}{B:Nat}{w w' w2:World}{ρ:Nat→Sx.Val}{v:Value}{n:Nat}{ls:List Nat}
/-- what a call hands back, held by the caller -/
theorem Nw.got{g:Nat}(h:Nw (fun _=>False) w' w2 g)(hB:B≤w'.heap.size)(hm:(w'.heap.size,w2.heap.size)∈iv):Cv S B iv g:=by
 rcases h with h|h
 ·cases h
 ·exact .inr ⟨by omega,_,_,hm,h.1,h.2⟩
theorem NatR.got(h:NatR w2 (Nw (fun _=>False) w' w2) v n)(hB:B≤w'.heap.size)(hm:(w'.heap.size,w2.heap.size)∈iv):NatR w2 (Cv S B iv) v n:=h.weak fun _ hg=>hg.got hB hm
theorem Limbs.got(h:Limbs w2 (Nw (fun _=>False) w' w2) v ls)(hB:B≤w'.heap.size)(hm:(w'.heap.size,w2.heap.size)∈iv):Limbs w2 (Cv S B iv) v ls:=h.weak fun _ hg=>hg.got hB hm
/-- what is held, seen in a call -/
theorem NatR.rel(h:NatR w (Cv S B iv) v n)(r:Rel H nx iv B w ρ w')(hS:∀g,S g→g<B):NatR w' (Cv S B iv) v n:=h.keep fun _ hg=>Rel.same r hS hg
/-- .. and behind it -/
theorem NatR.past(h:NatR w (Cv S B iv) v n)(r:Rel H nx iv B w ρ w')(hS:∀g,S g→g<B)(he:Ext w' w2)(hm:∀p,p∈iv→p∈iv'):NatR w2 (Cv S B iv') v n:=
 ((h.rel r hS).keep fun g hg=>he.block g (Rel.old r hS g hg)).weak fun _ hg=>hg.mono hm
theorem Limbs.trimmed(h:Limbs w S v (trimL ls)):NatR w S v (val ls):=⟨_,h,(trimL_spec ls).2.1,(trimL_spec ls).1⟩
end

/-- a part of a row -/
theorem rowPart{w:World}{g k m c:Nat}{rs:List Nat}(hg:w.heap[g]? =some (.cells (U rs).toArray T.uint32 (0,0)))(hlm:Lm rs)(h:k+m≤rs.length)(hc:m≤c)(hl:rs.length≤1000000000000):
  Limbs w (fun x=>x=g) (.slice (some ⟨g,k,none⟩) m c) ((rs.drop k).take m):=by
 have hlen:((rs.drop k).take m).length=m:=by simp;omega
 refine⟨(hlm.drop k).take m,by omega,some ⟨g,k,none⟩,c,by rw[hlen],by omega,fun j x hx=>⟨_,rfl,rfl,?_⟩⟩
 have hj:j<m:=by have:=(List.getElem?_eq_some_iff.1 hx).1;omega
 rw[List.getElem?_take_of_lt hj,List.getElem?_drop]at hx
 rw[addr_add,cell_of hg]
 exact U_get hx
theorem sliceAd{g k c:Nat}(h:k<c):(if (c:Int)=(k:Int)then some (⟨g,0,none⟩:Addr)else(some (⟨g,0,none⟩:Addr)).map fun x=>x.add ((k:Int).toNat*1))=some ⟨g,k,none⟩:=by
 rw[if_neg (by omega),Option.map_some,Int.toNat_natCast,Nat.mul_one,addr_add,Nat.zero_add]
theorem grownBy_trans{a b c:World}{row:Option Nat}(h:a.grownBy b row)(k:b.grownBy c row):a.grownBy c row:=
 ⟨k.os.trans h.os,k.tape.trans h.tape,k.output.trans h.output,Nat.le_trans h.size k.size,fun j hj hne=>(k.block j (by have:=h.size;omega) hne).trans (h.block j hj hne)⟩
theorem grownBy_bel{a b:World}{row:Option Nat}(h:Bel a.heap.size a b):a.grownBy b row:=⟨h.os,h.tape,h.output,h.size,fun j hj _=>h.block j hj⟩
theorem U_clear(rs:List Nat)(k m:Nat):(U rs).take k++List.replicate m (Value.int .u32 0)++(U rs).drop (k+m)=U (rs.take k++List.replicate m 0++rs.drop (k+m)):=by
 simp[U]
theorem U_copy(rs ds:List Nat)(k:Nat):(U rs).take k++U ds++(U rs).drop (k+(U ds).length)=U (rs.take k++ds++rs.drop (k+ds.length)):=by
 simp[U]
/-- what is left is written over what was there -/
theorem over_part{rs ds:List Nat}{k m:Nat}(hk:k+m≤rs.length)(hd:ds.length≤m){r1 r2:List Nat}(h1:r1=rs.take k++List.replicate m 0++rs.drop (k+m))(h2:r2=r1.take k++ds++r1.drop (k+ds.length)):
  r2=rs.take k++(ds++List.replicate (m-ds.length) 0)++rs.drop (k+m):=by
 have hkl:(rs.take k).length=k:=by simp;omega
 have h3:r1.take k=rs.take k:=by rw[h1,List.append_assoc,List.take_append_of_le_length (by omega),List.take_of_length_le (by omega)]
 have h4:r1.drop (k+ds.length)=List.replicate (m-ds.length) 0++rs.drop (k+m):=by
  rw[h1,List.append_assoc,List.drop_append,hkl,List.drop_of_length_le (by omega),List.nil_append,Nat.add_sub_cancel_left,List.drop_append_of_le_length (by simpa using hd),List.drop_replicate]
 rw[h2,h3,h4]
 simp
theorem over_spec{rs ds r2:List Nat}{k m:Nat}(hk:k+m≤rs.length)(hd:ds.length≤m)(hlm:Lm rs)(hld:Lm ds)(h:r2=rs.take k++(ds++List.replicate (m-ds.length) 0)++rs.drop (k+m)):
  r2.length=rs.length∧Lm r2∧r2.take k=rs.take k∧r2.drop (k+m)=rs.drop (k+m)∧val ((r2.drop k).take m)=val ds:=by
 have hkl:(rs.take k).length=k:=by simp;omega
 have hdl:(ds++List.replicate (m-ds.length) 0).length=m:=by simp;omega
 have hd1:r2.drop k=(ds++List.replicate (m-ds.length) 0)++rs.drop (k+m):=by
  rw[h,List.append_assoc,List.drop_append,hkl,List.drop_of_length_le (by omega),List.nil_append,Nat.sub_self,List.drop_zero]
 refine⟨by rw[h,List.length_append,List.length_append,hkl,hdl];simp;omega,?_,?_,?_,?_⟩
 ·rw[h];exact((hlm.take k).append (hld.append (Lm.replicate _))).append (hlm.drop _)
 ·rw[h,List.append_assoc,List.take_append_of_le_length (by omega),List.take_of_length_le (by omega)]
 ·rw[←List.drop_drop,hd1,List.drop_append,hdl,List.drop_of_length_le (by omega),List.nil_append,Nat.sub_self,List.drop_zero]
 ·rw[hd1,List.take_append_of_le_length (by omega),List.take_of_length_le (by omega),val_append,val_replicate]
  simp

theorem take_c{S:Nat→Prop}{w:World}{vd:Value}{D g k q:Nat}{rs:List Nat}(hS:Old S w)(hgS:¬S g)(hd:NatR w S vd D)(hg:w.heap[g]? =some (.cells (U rs).toArray T.uint32 (0,0)))(hlm:Lm rs)
  (hk:k+ln D+1≤rs.length) (hl:rs.length≤1000000000000) (hq:q<4294967296):
  Con PG N.exact_nat_take #[.slice (some ⟨g,0,none⟩) rs.length rs.length,vd,.int .i64 k,.int .u64 q] w (fun e w2=>
   (val ((rs.drop k).take (ln D+1))<q*D∧e= .returned (.bool false)∧Bel w.heap.size w w2)∨
   (q*D≤val ((rs.drop k).take (ln D+1))∧e= .returned (.bool true)∧w.grownBy w2 (some g)∧∃rs',rs'.length=rs.length∧Lm rs'∧rs'.take k=rs.take k∧rs'.drop (k+ln D+1)=rs.drop (k+ln D+1)∧
    val ((rs'.drop k).take (ln D+1))=val ((rs.drop k).take (ln D+1))-q*D∧w2.heap[g]? =some (.cells (U rs').toArray T.uint32 (0,0)))):=by
 have hgB:=heap_lt hg
 have hnD:=hd
 obtain⟨p,rfl,hp1,hp2⟩:=hd.la
 have hpl:=length_ln p.lm hp2
 rw[hp1]at hpl
 generalize hn:ln D=n at*
 have hSB:=hS
 refine in_exact_nat_take (by simp) ?_
 conv=>whnf
 refine⟨(q:Int),by rw[wrapU32n,Nat.mod_eq_of_lt hq],?_⟩
 conv=>whnf
 refine callE_free (Φ:=fun ρ _ v w2=>Limbs w2 (fun g=>g=(ρ 0).g) v (trimL [q])) (H':=[]) 0 rfl (by simp) trivial rfl (fun ρ w' r=>r.nn 0 _ rfl (by intros;simp) (by simp)) (fun ρ w' r=>?_) ?_
 ·have hL:=r.boxLimbs (id:=0) (ls:=[q]) rfl (by intro x hx;simp at hx;omega) (by simp)
  exact trimmed_c (fun g hg=>by rw[hg];exact(r.low 0 _ rfl (r.nn 0 _ rfl (by intros;simp) (by simp))).2) hL
 rintro ρ w1 v1 w2 r he hw hL
 have hlow:=r.low 0 _ rfl (r.nn 0 _ rfl (by intros;simp) (by simp))
 have hs:=he.size
 generalize (ρ 0).g=g0 at*
 have hqN:NatR w2 (Cv S w.heap.size [(g0,g0+1),(w1.heap.size,w2.heap.size)]) v1 q:=by
  have:=hL.trimmed
  simp only[val,Nat.mul_zero,Nat.add_zero]at this
  exact this.weak fun k hk=>.inr ⟨by omega,g0,g0+1,by simp,by omega,by omega⟩
 have hdN:NatR w2 (Cv S w.heap.size [(g0,g0+1),(w1.heap.size,w2.heap.size)]) (.slice p.a p.ls.length p.c) D:=
  (hnD.keep fun g hg=>hw.block g (hS g hg)).weak fun _ hg=>.inl hg
 clear hL r he
 generalize [(g0,g0+1),(w1.heap.size,w2.heap.size)]=iv at*
 conv=>whnf
 refine callE_S (cE hw (Φ:=fun _ w' v w2=>NatR w2 (Nw (fun _=>False) w' w2) v (q*D)) (fun ρ w' r=>times_c (Rel.old r hS) (hqN.rel r hS) (hdN.rel r hS) (Nat.le_trans (ln_le.2 (show q<wt 1 from hq)) (by decide)) (by omega)) ?_)
 rintro ρ w3 v2 w4 iv r he hw h_ hm
 have hmN:=hm.got (S:=S) r.baseLe (mN h_)
 clear hqN hdN r he hs hlow
 conv=>whnf
 refine⟨((k+n:Nat):Int),by rw[wrap64]<;>omega,?_⟩
 conv=>whnf
 refine⟨((k+n+1:Nat):Int),by rw[wrap64]<;>omega,?_⟩
 conv=>whnf
 refine⟨⟨by omega,by omega,by omega⟩,some ⟨g,k,none⟩,n+1,rs.length-k,sliceAd (by omega),by omega,by omega,?_⟩
 conv=>whnf
 have hplen:((rs.drop k).take (n+1)).length=n+1:=by simp;omega
 have hplm:Lm ((rs.drop k).take (n+1)):=(hlm.drop k).take _
 generalize hpart:(rs.drop k).take (n+1)=part at*
 refine callE_S (cE hw (Φ:=fun _ w' v w2=>Limbs w2 (Nw (fun _=>False) w' w2) v part) (fun ρ w' r=>?_) ?_)
 ·have h1:=rowPart (k:=k) (m:=n+1) (c:=rs.length-k) (w:=w') (by rw[(hw.tr r.bel).block g hgB];exact hg) hlm (by omega) (by omega) hl
  rw[hpart]at h1
  exact clone_c (fun x hx=>by rw[hx];have:=(hw.tr r.bel).size;omega) h1 (by omega)
 rintro ρ w5 v3 w6 iv r he hw h_ hL
 have hpL:=hL.got (S:=S) r.baseLe (mN h_)
 replace hmN:=hmN.past r hS he (mC h_)
 clear hL r he
 conv=>whnf
 refine callE_S (callE_con (Φ:=fun _ w' v w2=>Limbs w2 (Cv S w.heap.size iv) v (trimL part)) (fun ρ w' r=>trimmed_c (Rel.old r hS) (Limbs.rel hpL r hS)) ?_)
 rintro ρ w7 v4 w8 r he hb hL
 replace hw:=hw.tr hb
 have hpN:=hL.trimmed.weak (S':=Cv S w.heap.size ((w7.heap.size,w8.heap.size)::iv)) fun _ hg=>hg.cons
 replace hmN:=hmN.past (iv':=(w7.heap.size,w8.heap.size)::iv) r hS he fun x hx=>List.mem_cons_of_mem _ hx
 clear hL r he hb hpL
 generalize (w7.heap.size,w8.heap.size)::iv=iv at*
 conv=>whnf
 refine callE_S (cE hw (Φ:=fun _ _ v _=>v= .int .i64 (cmpN (val part) (q*D))) (fun ρ w' r=>cmp_c (Rel.old r hS) (hpN.rel r hS) (hmN.rel r hS)) ?_)
 rintro ρ w9 v5 w10 iv r he hw h_ rfl
 replace hpN:=hpN.past r hS he (mC h_)
 replace hmN:=hmN.past r hS he (mC h_)
 clear r he
 conv=>whnf
 refine BrS.mk (fun h=>?_) (fun h=>?_)
 ·have h:val part<q*D:=by
   have:=of_decide_eq_true h
   unfold cmpN at this
   split at this
   ·assumption
   ·split at this<;>omega
  conv=>whnf
  intro ρ3 w3 r3
  exact .inl ⟨h,rfl,hw.tr r3.bel⟩
 have h:q*D≤val part:=by
  have:=of_decide_eq_false h
  unfold cmpN at this
  split at this
  ·omega
  ·omega
 conv=>whnf
 have hPl:ln (val part)≤n+1:=by rw[ln_le,←hplen];exact val_lt hplm
 refine callE_S (cE hw (Φ:=fun _ w' v w2=>NatR w2 (Nw (fun _=>False) w' w2) v (val part-q*D)) (fun ρ w' r=>minus_c (Rel.old r hS) (hpN.rel r hS) (hmN.rel r hS) h (by omega)) ?_)
 rintro ρ w11 v6 w12 iv r he hw h_ hm
 have hrN:=hm.got (S:=S) r.baseLe (mN h_)
 clear hpN r he
 conv=>whnf
 refine⟨((k+n:Nat):Int),by rw[wrap64]<;>omega,?_⟩
 conv=>whnf
 refine⟨((k+n+1:Nat):Int),by rw[wrap64]<;>omega,?_⟩
 conv=>whnf
 refine⟨⟨by omega,by omega,by omega⟩,some ⟨g,k,none⟩,n+1,rs.length-k,sliceAd (by omega),by omega,by omega,?_⟩
 conv=>whnf
 refine opS_clear hτ (cs:=U rs) (by rfl) (by rfl) (by rfl) (by omega) (fun ρ w' r=>⟨by rw[(hw.tr r.bel).block g hgB];exact hg,fun id b hb=>by cases hb⟩) (by rw[U_len];omega) (fun ρ w13 w14 r hh hgr hsz=>?_)
 rw[U_clear]at hh
 have hgw:w.grownBy w14 (some g):=grownBy_trans (grownBy_bel (hw.tr r.bel)) hgr
 replace hrN:NatR w14 (Cv S w.heap.size iv) v6 (val part-q*D):=(hrN.rel r hS).keep fun x hx=>hgr.block x (Rel.old r hS x hx) fun e=>by
  injection e with e
  subst e
  rcases hx with hx|hx
  ·exact hgS hx
  ·omega
 clear r hgr hsz hw
 obtain⟨rl,rfl,hr1,hr2⟩:=hrN.la
 have hrl:=length_ln rl.lm hr2
 rw[hr1]at hrl
 have hrn:rl.ls.length≤n+1:=by rw[hrl];exact Nat.le_trans (ln_mono (Nat.sub_le _ _)) hPl
 generalize hr1d:rs.take k++List.replicate (n+1) 0++rs.drop (k+(n+1))=r1 at*
 conv=>whnf
 refine⟨⟨by omega,by omega,by omega⟩,some ⟨g,k,none⟩,rs.length-k,rs.length-k,sliceAd (by omega),by omega,by omega,?_⟩
 conv=>whnf
 have hr1l:r1.length=rs.length:=by rw[←hr1d];simp;omega
 have hw14:w.heap.size≤w14.heap.size:=hgw.size
 refine opS_copy hτ (tg:=T.uint32) (cs:=U r1) (ds:=U rl.ls) (by rfl) (by rfl) (by rfl) (by rfl) (fun ρ w' r=>⟨?_,fun id b hb=>by cases hb⟩) (fun ρ w' r=>⟨rl.a,rl.c,by rw[U_len];rfl,fun j u hu=>?_⟩) (by rw[U_len];omega) (by rw[U_len,U_len];omega)
  (fun u hu=>by simp only[U,List.mem_map]at hu;obtain⟨n,_,rfl⟩:=hu;rfl) (fun ρ w15 w16 r hh2 hgr hsz=>?_)
 ·rw[r.nilBy.block g (by omega) (by simp)];exact hh
 ·simp only[U,List.getElem?_map,Option.map_eq_some_iff]at hu
  obtain⟨m,hm,rfl⟩:=hu
  obtain⟨ad,h1,h2,h3⟩:=rl.cell j m hm
  exact⟨ad,h1,(cell_of_heap (w:=w14) (a:=ad.add j) (by rw[addB];exact Rel.same r hS h2)).trans h3⟩
 rw[U_copy]at hh2
 have hgw2:w.grownBy w16 (some g):=grownBy_trans (grownBy_trans hgw (by have:=r.nilBy;exact⟨this.os,this.tape,this.output,this.size,fun j hj _=>this.block j hj (by simp)⟩)) hgr
 obtain⟨o1,o2,o3,o4,o5⟩:=over_spec (rs:=rs) (ds:=rl.ls) (k:=k) (m:=n+1) (by omega) hrn hlm rl.lm (over_part (by omega) hrn hr1d.symm rfl)
 generalize r1.take k++rl.ls++r1.drop (k+rl.ls.length)=r2 at*
 clear r hgr
 conv=>whnf
 intro ρ3 w17 r3
 refine .inr ⟨h,rfl,grownBy_trans hgw2 (by have:=r3.nilBy;exact⟨this.os,this.tape,this.output,this.size,fun j hj _=>this.block j hj (by simp)⟩),r2,o1,o2,o3,o4,by rw[o5,hr1],?_⟩
 rw[r3.nilBy.block g (by have:=hgw2.size;omega) (by simp)]
 exact hh2
end Go.Ex

/- A digit of the division of package exact. No condition. -/
namespace Go.Ex
open Go Go.Sx Go.Proofs

end Go.Ex
namespace Go.Sx
open Go Go.Ex Go.Proofs
theorem Rel.nilTo{nx:Nat}{iv:Iv}{B:Nat}{w w' w2:World}{ρ:Nat→Sx.Val}(r:Rel [] nx iv B w ρ w')(h:w'.heap.size≤w2.heap.size):Rel [] nx [] B w2 ρ w2:=
 r.moved h (fun id b h=>by cases h) fun lo hi h=>by cases h
end Go.Sx
namespace Go.Ex
open Go Go.Sx Go.Proofs
/-- the guess is not too small -/
theorem guess_ge{P D low high dlow dtop W:Nat}(hP:P=low+W*high)(hD:D=dlow+W*dtop)(hlow:low<W)(hdt:0<dtop)(hPD:P<4294967296*D):P / D≤min (high / dtop) 4294967295:=by
 have hW:0<W:=by omega
 have hD0:0<D:=by have:=Nat.mul_pos hW hdt;omega
 have h1:P / D<4294967296:=(Nat.div_lt_iff_lt_mul hD0).2 (by rw[Nat.mul_comm]at hPD;omega)
 have h2:P / D≤high / dtop:=by
  rw[Nat.le_div_iff_mul_le hdt]
  have h3:=Nat.div_mul_le_self P D
  generalize P / D=Q at*
  have h4:W*(Q*dtop)≤Q*D:=by
   rw[hD,Nat.mul_left_comm,Nat.mul_add]
   omega
  have h5:W*(Q*dtop)<W*(high+1):=by
   rw[Nat.mul_add]
   omega
  have:=Nat.lt_of_mul_lt_mul_left h5
  omega
 omega

theorem rowLoad{H:Hp}{nx:Nat}{iv:Iv}{w w1 w':World}{ρ:Nat→Sx.Val}{g i x:Nat}{rs:List Nat}(hg:w.heap[g]? =some (.cells (U rs).toArray T.uint32 (0,0)))(hw:Bel w.heap.size w w1)(r:Rel H nx iv w.heap.size w1 ρ w')(hx:rs[i]? =some x):
  w'.cell? ((⟨g,0,none⟩:Addr).add ((i:Int).toNat*1))=some (.int .u32 x):=by
 rw[Int.toNat_natCast,Nat.mul_one,addr_add,Nat.zero_add,cell_of (by rw[(hw.tr r.bel).block g (heap_lt hg)];exact hg)]
 exact U_get hx

theorem digit_c{S:Nat→Prop}{w:World}{vd:Value}{D g k:Nat}{rs:List Nat}(hS:Old S w)(hgS:¬S g)(hd:NatR w S vd D)(hD:0<D)(hg:w.heap[g]? =some (.cells (U rs).toArray T.uint32 (0,0)))(hlm:Lm rs)
  (hk:k+ln D+1≤rs.length) (hl:rs.length≤1000000000000) (hPD:val ((rs.drop k).take (ln D+1))<4294967296*D):
  Con PG N.exact_nat_digit #[.slice (some ⟨g,0,none⟩) rs.length rs.length,vd,.int .i64 k] w (fun e w2=>
   e= .returned (.int .u32 ((val ((rs.drop k).take (ln D+1)) / D:Nat):Int))∧w.grownBy w2 (some g)∧∃rs',rs'.length=rs.length∧Lm rs'∧rs'.take k=rs.take k∧rs'.drop (k+ln D+1)=rs.drop (k+ln D+1)∧
    val ((rs'.drop k).take (ln D+1))=val ((rs.drop k).take (ln D+1)) % D∧w2.heap[g]? =some (.cells (U rs').toArray T.uint32 (0,0))):=by
 have hgB:=heap_lt hg
 have hnD:=hd
 obtain⟨p,rfl,hp1,hp2⟩:=hd.la
 have hpl:=length_ln p.lm hp2
 rw[hp1]at hpl
 have htake:=fun(w':World) (q:Nat)=>@take_c S w' (.slice p.a p.ls.length p.c) D g k q rs
 generalize hn:ln D=n at*
 obtain⟨t,rfl⟩:∃t,n=t+1:=by
  cases n with
  |zero=>
   have:D<wt 0:=ln_le.1 (by omega)
   rw[wt_zero]at this
   omega
  |succ t=>exact⟨t,rfl⟩
 obtain⟨dt,hdt⟩:∃q,p.ls[t]? =some q:=⟨_,List.getElem?_eq_getElem (by omega)⟩
 have hdt0:0<dt:=by
  have:=hp2 dt (by rw[List.getLast?_eq_getElem?,hpl];exact hdt)
  omega
 obtain⟨a,ha⟩:∃q,rs[k+t+1]? =some q:=⟨_,List.getElem?_eq_getElem (by omega)⟩
 obtain⟨b,hb⟩:∃q,rs[k+t]? =some q:=⟨_,List.getElem?_eq_getElem (by omega)⟩
 have ha32:=hlm.at ha
 have hb32:=hlm.at hb
 have hdt32:=p.lm.at hdt
 generalize hP:val ((rs.drop k).take (t+1+1))=P at*
 have hguess:P / D≤min ((a*4294967296+b) / dt) 4294967295:=by
  refine guess_ge (low:=val ((rs.drop k).take t)) (W:=wt t) (dlow:=val (p.ls.take t)) ?_ ?_ ?_ hdt0 hPD
  ·rw[←hP,val_take_succ (x:=a) (by rw[List.getElem?_drop];exact ha),val_take_succ (x:=b) (by rw[List.getElem?_drop];exact hb),wt_succ,Nat.mul_add,Nat.mul_comm 4294967296 (wt t),Nat.mul_assoc,Nat.mul_comm a]
   omega
  ·rw[←hp1,←val_take_succ hdt,List.take_of_length_le (by omega)]
  ·have h1:=val_lt ((hlm.drop k).take t)
   have:((rs.drop k).take t).length=t:=by simp;omega
   rwa [this]at h1
 refine in_exact_nat_digit (by simp) ?_
 conv=>whnf
 refine⟨(t:Int),by rw[wrap64]<;>omega,?_⟩
 conv=>whnf
 refine drawn_of_pi hτ hmix [.x 0,.x 1,.x 2,.x 3,.x 4,.x 5,.x 6,.x 7,.x 8,.x 9,.x 10,.x 11,.x 12,.x 13,.x 14,.x 15,.x 16,.x 17] (by kernel_rfl) (by kernel_rfl) ?_
 conv=>whnf
 refine⟨((k+t:Nat):Int),by rw[wrap64]<;>omega,?_⟩
 conv=>whnf
 refine⟨((k+t+1:Nat):Int),by rw[wrap64]<;>omega,?_⟩
 conv=>whnf
 refine⟨_,rfl,⟨by omega,by omega⟩,?_⟩
 conv=>whnf
 refine⟨.int .u32 a,fun ρ w' r=>rowLoad hg Bel.refl r ha,?_⟩
 conv=>whnf
 refine⟨(a:Int),wrapU64n (by omega),?_⟩
 conv=>whnf
 refine⟨by decide,((a*2^32:Nat):Int),shl64n (k:=32) (by decide) (by omega),?_⟩
 conv=>whnf
 refine⟨((k+t:Nat):Int),by rw[wrap64]<;>omega,?_⟩
 conv=>whnf
 refine⟨_,rfl,⟨by omega,by omega⟩,?_⟩
 conv=>whnf
 refine⟨.int .u32 b,fun ρ w' r=>rowLoad hg Bel.refl r hb,?_⟩
 conv=>whnf
 refine⟨(b:Int),wrapU64n (by omega),?_⟩
 conv=>whnf
 have hor:a*2^32 ||| b=a*4294967296+b:=by
  rw[Nat.or_comm,Nat.mul_comm,or_add (k:=32) hb32];omega
 refine⟨((a*4294967296+b:Nat):Int),by rw[or64u (by omega) (by omega),hor],?_⟩
 conv=>whnf
 have hh64:a*4294967296+b<18446744073709551616:=by omega
 generalize a*4294967296+b=high at*
 obtain⟨ad,had,hload⟩:=p.load hS (Bel.refl (w:=w)) hdt
 refine⟨ad,had,⟨by omega,by omega⟩,?_⟩
 conv=>whnf
 refine⟨.int .u32 dt,hload _ _ _,?_⟩
 conv=>whnf
 refine⟨(dt:Int),wrapU64n (by omega),?_⟩
 conv=>whnf
 refine⟨by omega,((high / dt:Nat):Int),quo64n hh64,?_⟩
 conv=>whnf
 rw[show min ((high / dt:Nat):Int) 4294967295=((min (high / dt) 4294967295:Nat):Int) by omega]
 have hm32:min (high / dt) 4294967295≤4294967295:=Nat.min_le_right _ _
 generalize min (high / dt) 4294967295=q0 at*
 have hQD:=Nat.div_mul_le_self P D
 have hQl:∀q,q*D≤P→P / D≤q→q=P / D:=fun q h1 h2=>Nat.le_antisymm ((Nat.le_div_iff_mul_le hD).2 h1) h2
 have hmod:P % D=P-P / D*D:=by have:=Nat.div_add_mod P D;rw[Nat.mul_comm]at this;omega
 refine⟨Nat×World,fun z=>⟨[(0,.o (.v (.slice (some ⟨g,0,none⟩) rs.length rs.length))),(1,.o (.v (.slice p.a p.ls.length p.c))),(2,.o (.v (.int .i64 k))),(9,.o (.v (.int .u64 z.1)))],[],0,[],z.2⟩,fun z=>z.1,
  fun z=>Bel w.heap.size w z.2∧P / D≤z.1∧z.1≤4294967295,?_,?_⟩
 ·intro ρ w' r
  exact⟨(q0,w'),⟨r.bel,hguess,hm32⟩,Sub.reset r ⟨rfl,rfl,rfl,rfl,trivial⟩ ⟨trivial,trivial,trivial,trivial,trivial⟩⟩
 ·rintro⟨q,w1⟩ ⟨hw,hq1,hq2⟩
  dsimp only at hw hq1 hq2 ⊢
  conv=>whnf
  refine⟨fun ρ w2 r=>(htake w2 q (fun x hx=>by have:=hS x hx;have:=(hw.tr r.bel).size;omega) hgS (hnD.keep fun x hx=>(hw.tr r.bel).block x (hS x hx)) (by rw[(hw.tr r.bel).block g hgB];exact hg) hlm hk hl (by omega)).mono fun e w3 he=>?_⟩
  rcases he with⟨h,rfl,hb3⟩|⟨h,rfl,hgr,rs',e1,e2,e3,e4,e5,e6⟩
  ·have hw3:Bel w.heap.size w w3:=(hw.tr r.bel).tr (hb3.bel r.baseLe)
   refine⟨.bool false,[],[],rfl,r.nilTo hb3.size,?_⟩
   have hq3:P / D<q:=by
    refine Nat.lt_of_le_of_ne hq1 fun e=>?_
    rw[e]at hQD
    omega
   have hq4:0<q:=Nat.lt_of_le_of_lt (Nat.zero_le _) hq3
   have hq5:P / D≤q-1:=Nat.le_sub_one_of_lt hq3
   clear r
   conv=>whnf
   refine⟨((q-1:Nat):Int),by rw[wrapU64]<;>omega,?_⟩
   conv=>whnf
   intro ρ4 w4 r4
   exact⟨(q-1,w4),⟨hw3.tr r4.bel,hq5,by dsimp only;omega⟩,Sub.reset r4 ⟨rfl,rfl,rfl,rfl,trivial⟩ ⟨trivial,trivial,trivial,trivial,trivial⟩,by dsimp only;omega⟩
  ·have hgw:w.grownBy w3 (some g):=grownBy_trans (grownBy_bel (hw.tr r.bel)) hgr
   refine⟨.bool true,[],[],rfl,r.nilTo hgr.size,?_⟩
   have hq:=hQl q h hq1
   subst hq
   clear r
   conv=>whnf
   refine⟨((P / D:Nat):Int),by rw[wrapU32n,Nat.mod_eq_of_lt (by omega)],?_⟩
   conv=>whnf
   intro ρ4 w4 r4
   refine⟨rfl,grownBy_trans hgw (by have:=r4.nilBy;exact⟨this.os,this.tape,this.output,this.size,fun j hj _=>this.block j hj (by simp)⟩),rs',e1,e2,e3,e4,by rw[e5,hmod],?_⟩
   rw[r4.nilBy.block g (by have:=hgw.size;omega) (by simp)]
   exact e6
end Go.Ex

/- Long division by limbs, told of numbers. No condition. -/
namespace Go.Ex

theorem norm_spec{ms:List Nat}{t dt:Nat}(hlm:Lm ms)(hl:ms.length=t+1)(hdt:ms[t]? =some dt)(h0:0<dt):32-blen dt<32∧ln (val ms*2^(32-blen dt))=t+1:=by
 have hb0:0<blen dt:=by
  rcases Nat.eq_zero_or_pos (blen dt)with h|h
  ·have:=blen_le.1 (Nat.le_of_eq h)
   simp at this
   omega
  ·exact h
 have hb32:blen dt≤32:=blen_le.2 (hlm.at hdt)
 have hlt:=blen_le.1 (Nat.le_refl (blen dt))
 have hv:val ms=val (ms.take t)+wt t*dt:=by rw[←val_take_succ hdt,List.take_of_length_le (by omega)]
 have hlow:=val_lt (hlm.take t)
 have hltk:(ms.take t).length=t:=by simp;omega
 rw[hltk]at hlow
 have hw:=wt_pos t
 refine⟨by omega,Nat.le_antisymm ?_ ?_⟩
 ·rw[ln_le]
  have h1:val ms<wt t*2^blen dt:=by
   have:wt t*(dt+1)≤wt t*2^blen dt:=Nat.mul_le_mul_left _ hlt
   rw[Nat.mul_add]at this
   omega
  have h2:=Nat.mul_lt_mul_of_pos_right h1 (Nat.two_pow_pos (32-blen dt))
  rw[Nat.mul_assoc,←Nat.pow_add,Nat.add_sub_cancel' hb32]at h2
  rw[wt_succ,Nat.mul_comm 4294967296]
  exact h2
 ·refine Nat.lt_of_not_le fun h=>?_
  have h1:=ln_le.1 h
  have h2:val ms*1≤val ms*2^(32-blen dt):=Nat.mul_le_mul_left _ (Nat.two_pow_pos _)
  have h3:wt t*1≤wt t*dt:=Nat.mul_le_mul_left _ h0
  omega

theorem div_part{rs:List Nat}{D N k:Nat}(hlm:Lm rs)(hDN:D<wt N)(hk:k+N+1≤rs.length)(h:val rs<wt (k+1)*D):
  val (rs.drop (k+N+1))=0∧val (rs.drop k)=val ((rs.drop k).take (N+1))∧val ((rs.drop k).take (N+1))<4294967296*D:=by
 obtain⟨x,hx⟩:∃q,rs[k]? =some q:=⟨_,List.getElem?_eq_getElem (by omega)⟩
 have hx32:=hlm.at hx
 have h1:=val_take_drop rs (k+1) (by omega)
 have h2:val (rs.drop (k+1))<D:=Nat.lt_of_mul_lt_mul_left (a:=wt (k+1)) (by omega)
 have h3:=val_take_drop (rs.drop (k+1)) N (by simp;omega)
 rw[List.drop_drop,show k+1+N=k+N+1 by omega]at h3
 have h4:val (rs.drop (k+N+1))=0:=by
  rcases Nat.eq_zero_or_pos (val (rs.drop (k+N+1)))with h|h
  ·exact h
  ·have:=Nat.mul_le_mul_left (wt N) h
   omega
 have h5:=val_take_drop (rs.drop k) (N+1) (by simp;omega)
 rw[List.drop_drop,show k+(N+1)=k+N+1 by omega,h4,Nat.mul_zero,Nat.add_zero]at h5
 have h6:=val_drop hx
 exact⟨h4,h5,by omega⟩

theorem div_step{rs rs' out:List Nat}{D N k P V:Nat}(hD:0<D)(hlm:Lm rs)(hlen:rs'.length=rs.length)(hDN:D<wt N)(hk:k+N+1≤rs.length)(h:val rs<wt (k+1)*D)(hV:V=wt (k+1)*(D*val (out.drop (k+1)))+val rs)
  (hP:val ((rs.drop k).take (N+1))=P) (h1:rs'.take k=rs.take k) (h2:rs'.drop (k+N+1)=rs.drop (k+N+1)) (h3:val ((rs'.drop k).take (N+1))=P % D) (ho:k<out.length):
  val rs'<wt k*D∧V=wt k*(D*val ((out.set k (P / D)).drop k))+val rs':=by
 obtain⟨a1,a2,a3⟩:=div_part hlm hDN hk h
 have b1:=val_take_drop rs k (by omega)
 have b2:=val_take_drop rs' k (by omega)
 have b3:=val_take_drop (rs'.drop k) (N+1) (by simp;omega)
 rw[List.drop_drop,show k+(N+1)=k+N+1 by omega,h2,a1,Nat.mul_zero,Nat.add_zero,h3]at b3
 rw[h1,b3]at b2
 rw[a2,hP]at b1
 have b4:=val_lt (hlm.take k)
 have b5:(rs.take k).length=k:=by simp;omega
 rw[b5]at b4
 have b6:=Nat.mod_lt P hD
 have b7:(out.set k (P / D))[k]? =some (P / D):=by rw[List.getElem?_set_self ho]
 have b8:=Nat.div_add_mod P D
 refine⟨?_,?_⟩
 ·have:wt k*(P % D+1)≤wt k*D:=Nat.mul_le_mul_left _ b6
  rw[Nat.mul_add]at this
  omega
 ·rw[val_drop b7,List.drop_set_of_lt (show k<k+1 by omega),hV,b1,b2,wt_succ]
  generalize val (out.drop (k+1))=o
  have c1:wt k*P=wt k*(D*(P / D))+wt k*(P % D):=by rw[←Nat.mul_add,b8]
  have c2:4294967296*wt k*(D*o)=wt k*(D*(4294967296*o)):=by
   rw[Nat.mul_comm 4294967296,Nat.mul_assoc,Nat.mul_left_comm 4294967296]
  rw[c1,c2,Nat.mul_add D,Nat.mul_add (wt k)]
  omega

/-- the start: the shifted number is less than the shifted divisor, times the weight -/
theorem div_start{n m b:Nat}(hm:0<m)(hnm:m≤n):n*2^b<wt (ln n+1-ln m)*(m*2^b):=by
 have h1:=lt_wt_ln n
 have h2:=ln_mono hnm
 have h3:wt (ln m-1)≤m:=by
  refine Nat.le_of_not_lt fun h=>?_
  have:=ln_le.2 h
  have h4:0<ln m:=by
   rcases Nat.eq_zero_or_pos (ln m)with h|h
   ·have:=ln_le.1 (Nat.le_of_eq h);rw[wt_zero]at this;omega
   ·exact h
  omega
 have h4:0<ln m:=by
  rcases Nat.eq_zero_or_pos (ln m)with h|h
  ·have:=ln_le.1 (Nat.le_of_eq h);rw[wt_zero]at this;omega
  ·exact h
 have h5:wt (ln n)≤wt (ln n+1-ln m)*m:=by
  rw[show ln n=(ln n+1-ln m)+(ln m-1) by omega,wt_add,show(ln n+1-ln m)+(ln m-1)+1-ln m=ln n+1-ln m by omega]
  exact Nat.mul_le_mul_left _ h3
 rw[←Nat.mul_assoc]
 exact Nat.mul_lt_mul_of_pos_right (Nat.lt_of_lt_of_le h1 h5) (Nat.two_pow_pos b)
theorem div_end{n m b o r:Nat}(hm:0<m)(h1:n*2^b=m*2^b*o+r)(h2:r<m*2^b):o=n / m∧r / 2^b=n % m:=by
 have hp:=Nat.two_pow_pos b
 have h3:n*2^b / (m*2^b)=o:=by rw[h1,Nat.mul_add_div (Nat.mul_pos hm hp),Nat.div_eq_of_lt h2,Nat.add_zero]
 have h4:n*2^b % (m*2^b)=r:=by rw[h1,Nat.mul_add_mod,Nat.mod_eq_of_lt h2]
 rw[Nat.mul_div_mul_right _ _ hp]at h3
 rw[Nat.mul_mod_mul_right]at h4
 exact⟨h3.symm,by rw[←h4,Nat.mul_div_cancel _ hp]⟩
end Go.Ex

/- The division of natural numbers of package exact. No condition. -/
namespace Go.Ex
open Go Go.Sx Go.Proofs

theorem fullRow{w:World}{g:Nat}{rs:List Nat}(hg:w.heap[g]? =some (.cells (U rs).toArray T.uint32 (0,0)))(hlm:Lm rs)(hl:rs.length≤1000000000000):
  Limbs w (fun x=>x=g) (.slice (some ⟨g,0,none⟩) rs.length rs.length) rs:=by
 have:=rowPart (k:=0) (m:=rs.length) (c:=rs.length) hg hlm (by omega) (Nat.le_refl _) hl
 rwa [List.drop_zero,List.take_length]at this

theorem divide_c{S:Nat→Prop}{w:World}{v u:Value}{n m:Nat}(hS:Old S w)(hn:NatR w S v n)(hm:NatR w S u m)(hm0:0<m)(hln:ln n≤100000000000):
  Con PG N.exact_nat_divide #[v,u] w (Ret w fun v' w2=>∃q r,v'= .tuple #[q,r]∧NatR w2 (Nw (fun _=>False) w w2) q (n / m)∧NatR w2 (Nw S w w2) r (n % m)):=by
 have hnN:=hn
 have hmN:=hm
 obtain⟨x,rfl,hp1,hp2⟩:=hn.la
 obtain⟨y,rfl,hq1,hq2⟩:=hm.la
 have hxl:=length_ln x.lm hp2
 have hyl:=length_ln y.lm hq2
 rw[hp1]at hxl
 rw[hq1]at hyl
 refine in_exact_nat_divide (by simp) ?_
 conv=>whnf
 refine callE_S (callE_con (Φ:=fun _ _ v _=>v= .int .i64 (cmpN n m)) (fun ρ w' r=>cmp_c (S:=S) (fun g hg=>by have:=hS g hg;have:=r.bel.size;omega) (hnN.keep fun g hg=>r.bel.block g (hS g hg)) (hmN.keep fun g hg=>r.bel.block g (hS g hg))) ?_)
 rintro ρ w1 v1 w2 r he hw rfl
 clear r he
 conv=>whnf
 refine BrS.mk (fun h=>?_) (fun h=>?_)
 ·have h:n<m:=by
   have:=of_decide_eq_true h
   unfold cmpN at this
   split at this
   ·assumption
   ·split at this<;>omega
  conv=>whnf
  intro ρ3 w3 r3
  refine⟨_,rfl,hw.tr r3.bel,_,_,rfl,?_,?_⟩
  ·rw[Nat.div_eq_of_lt h];exact NatR.nil _ _
  ·rw[Nat.mod_eq_of_lt h]
   exact(hnN.keep fun g hg=>(hw.tr r3.bel).block g (hS g hg)).weak fun g hg=>.inl hg
 have h:m≤n:=by
  have:=of_decide_eq_false h
  unfold cmpN at this
  split at this
  ·omega
  ·omega
 have hlmn:=ln_mono h
 conv=>whnf
 refine BrS.mk (fun h1=>?_) (fun h1=>?_)
 ·have h1:y.ls.length=1:=by have:=eq_of_beq h1;omega
  obtain⟨b,hyb⟩:=List.length_eq_one_iff.1 h1
  have hb:y.ls[0]? =some b:=by rw[hyb];rfl
  have hb32:=y.lm.at hb
  have hmb:m=b:=by rw[←hq1,hyb];simp[val]
  subst hmb
  obtain⟨ad,had,hload⟩:=y.load hS hw hb
  conv=>whnf
  refine⟨ad,had,⟨by omega,by omega⟩,?_⟩
  conv=>whnf
  refine⟨.int .u32 m,hload _ _ _,?_⟩
  conv=>whnf
  refine callE_S (callE_con (Φ:=fun _ w' v w2=>∃q,v= .tuple #[q,.int .u32 ((val x.ls % m:Nat):Int)]∧NatR w2 (Nw (fun _=>False) w' w2) q (val x.ls / m)) (fun ρ w' r=>?_) ?_)
  ·refine short_c (S:=S) (fun g hg=>by have:=hS g hg;have:=(hw.tr r.bel).size;omega) ⟨x.lm,x.le,_,_,rfl,x.cap,fun j u hu=>?_⟩ (by omega) hm0 hb32
   obtain⟨ad,e1,e2,e3⟩:=x.cell j u hu
   exact⟨ad,e1,e2,cellS hS hw r e2 e3⟩
  rintro ρ w3 v3 w4 r he hb4 ⟨q,rfl,hq⟩
  replace hw:=hw.tr hb4
  have hqN:=hq.got (S:=fun _=>False) r.baseLe (iv:=(w3.heap.size,w4.heap.size)::[(w1.heap.size,w2.heap.size)]) List.mem_cons_self
  rw[hp1]at hqN
  rw[hp1]
  clear r he hb4 hq
  generalize (w3.heap.size,w4.heap.size)::[(w1.heap.size,w2.heap.size)]=iv at*
  have hml:n % m<m:=Nat.mod_lt _ hm0
  generalize n % m=rem at*
  conv=>whnf
  refine callE_free (Φ:=fun ρ _ v w2=>Limbs w2 (fun g=>g=(ρ 0).g) v (trimL [rem])) (H':=[]) 0 rfl (by simp) trivial rfl (fun ρ w' r=>r.nn 0 _ rfl (by intros;simp) (by simp)) (fun ρ w' r=>?_) ?_
  ·have hL:=r.boxLimbs (id:=0) (ls:=[rem]) rfl (by intro x hx;simp at hx;omega) (by simp)
   exact trimmed_c (fun g hg=>by rw[hg];exact(r.low 0 _ rfl (r.nn 0 _ rfl (by intros;simp) (by simp))).2) hL
  rintro ρ w5 v5 w6 r he hb6 hL
  have hlow:=r.low 0 _ rfl (r.nn 0 _ rfl (by intros;simp) (by simp))
  have hs:=he.size
  replace hw:=hw.tr hb6
  replace hqN:=hqN.past (iv':=((ρ 0).g,(ρ 0).g+1)::(w5.heap.size,w6.heap.size)::iv) r (fun g h=>h.elim) he fun x hx=>by simp[hx]
  generalize (ρ 0).g=g0 at*
  have hrN:NatR w6 (Cv (fun _=>False) w.heap.size ((g0,g0+1)::(w5.heap.size,w6.heap.size)::iv)) v5 rem:=by
   have:=hL.trimmed
   simp only[val,Nat.mul_zero,Nat.add_zero]at this
   exact this.weak fun k hk=>.inr ⟨by omega,g0,g0+1,by simp,by omega,by omega⟩
  clear hL r he hb6 hs hlow
  generalize (g0,g0+1)::(w5.heap.size,w6.heap.size)::iv=iv2 at*
  conv=>whnf
  intro ρ3 w7 r3
  exact⟨_,rfl,hw.tr r3.bel,_,_,rfl,(hqN.rel r3 fun g h=>h.elim).weak fun g hg=>Cv.nw hg r3,((hrN.rel r3 fun g h=>h.elim).weak fun g hg=>Cv.nw hg r3).weak fun g hg=>hg.elim (fun h=>h.elim) .inr⟩
 ·have h1:y.ls.length≠1:=fun e=>by rw[e]at h1;simp at h1
  have hm1:0<ln m:=by
   rcases Nat.eq_zero_or_pos (ln m)with h|h
   ·have:=ln_le.1 (Nat.le_of_eq h);rw[wt_zero]at this;omega
   ·exact h
  obtain⟨t,ht⟩:∃t,y.ls.length=t+1:=⟨y.ls.length-1,by omega⟩
  obtain⟨dt,hdt⟩:∃q,y.ls[t]? =some q:=⟨_,List.getElem?_eq_getElem (by omega)⟩
  have hdt0:0<dt:=by
   have:=hq2 dt (by rw[List.getLast?_eq_getElem?,ht];exact hdt)
   omega
  have hdt32:=y.lm.at hdt
  obtain⟨hby,hlnD⟩:=norm_spec y.lm ht hdt hdt0
  rw[hq1]at hlnD
  obtain⟨ad,had,hload⟩:=y.load hS hw hdt
  conv=>whnf
  refine⟨(t:Int),by rw[wrap64]<;>omega,?_⟩
  conv=>whnf
  refine⟨ad,had,⟨by omega,by omega⟩,?_⟩
  conv=>whnf
  refine⟨.int .u32 dt,hload _ _ _,?_⟩
  conv=>whnf
  refine callE_S (callE_con (Φ:=fun _ _ v _=>v= .int .i64 ((32-blen dt:Nat):Int)) (fun ρ w' r=>lz32_c dt w' hdt32) ?_)
  rintro ρ w3 v3 w4 r he hb4 rfl
  replace hw:=hw.tr hb4
  clear r he hb4
  generalize hbyd:32-blen dt=b at*
  conv=>whnf
  refine⟨(b:Int),wrapU64n (by omega),?_⟩
  conv=>whnf
  refine callE_S (callE_con (Φ:=fun _ w' v w2=>∃out,Fresh w' w2 v out∧out.length=y.ls.length+1∧val out=val y.ls*2^b) (fun ρ w' r=>?_) ?_)
  ·refine shifted_c (S:=S) (fun g hg=>by have:=hS g hg;have:=(hw.tr r.bel).size;omega) ⟨y.lm,y.le,_,_,rfl,y.cap,fun j u hu=>?_⟩ (by omega) hby
   obtain⟨ad,e1,e2,e3⟩:=y.cell j u hu
   exact⟨ad,e1,e2,cellS hS hw r e2 e3⟩
  rintro ρ w5 v5 w6 r he hb6 ⟨dl,⟨gd,rfl,hgd1,hgd2,hgd3⟩,hdl,hdv⟩
  replace hw:=hw.tr hb6
  rw[hq1]at hdv
  have hB5:w.heap.size≤w5.heap.size:=r.baseLe
  have hcd:Cv (fun _=>False) w.heap.size ((w5.heap.size,w6.heap.size)::[(w3.heap.size,w4.heap.size),(w1.heap.size,w2.heap.size)]) gd:=.inr ⟨by omega,_,_,List.mem_cons_self,hgd1,heap_lt hgd2⟩
  clear r he hb6
  generalize (w5.heap.size,w6.heap.size)::[(w3.heap.size,w4.heap.size),(w1.heap.size,w2.heap.size)]=iv at*
  have hF:∀g:Nat,(fun _:Nat=>False) g→g<w.heap.size:=fun g h=>h.elim
  conv=>whnf
  refine callE_S (callE_con (Φ:=fun _ _ v w2=>Limbs w2 (fun x=>x=gd) v (trimL dl)) (fun ρ w' r=>trimmed_c (fun g hg=>by rw[hg];exact Rel.old r hF gd hcd) (fullRow (by rw[Rel.same r hF hcd];exact hgd2) hgd3 (by omega))) ?_)
  rintro ρ w7 v6 w8 r he hb8 hL
  replace hw:=hw.tr hb8
  have hgd8:gd<w8.heap.size:=by have:=Rel.old r hF gd hcd;have:=he.size;omega
  replace hcd:=hcd.mono (iv':=(w7.heap.size,w8.heap.size)::iv) fun p hp=>List.mem_cons_of_mem _ hp
  have hdN:=hL.trimmed
  rw[hdv]at hdN
  clear hL r he hb8 hgd2 hgd3 hdv
  generalize (w7.heap.size,w8.heap.size)::iv=iv at*
  obtain⟨dp,rfl,hd1,hd2⟩:=hdN.la
  have hdpl:=length_ln dp.lm hd2
  rw[hd1,hlnD]at hdpl
  generalize hDd:m*2^b=D at*
  have hD0:0<D:=by rw[←hDd];exact Nat.mul_pos hm0 (Nat.two_pow_pos b)
  conv=>whnf
  refine callE_S (callE_con (Φ:=fun _ w' v w2=>∃out,Fresh w' w2 v out∧out.length=x.ls.length+1∧val out=val x.ls*2^b) (fun ρ w' r=>?_) ?_)
  ·refine shifted_c (S:=S) (fun g hg=>by have:=hS g hg;have:=(hw.tr r.bel).size;omega) ⟨x.lm,x.le,_,_,rfl,x.cap,fun j u hu=>?_⟩ (by omega) hby
   obtain⟨ad,e1,e2,e3⟩:=x.cell j u hu
   exact⟨ad,e1,e2,cellS hS hw r e2 e3⟩
  rintro ρ w9 v9 w10 r he hb10 ⟨rs0,⟨gr,rfl,hgr1,hgr2,hgr3⟩,hrl,hrv⟩
  replace hw:=hw.tr hb10
  rw[hp1]at hrv
  have hB9:w.heap.size≤w9.heap.size:=r.baseLe
  have hcr:Cv (fun _=>False) w.heap.size ((w9.heap.size,w10.heap.size)::iv) gr:=.inr ⟨by omega,_,_,List.mem_cons_self,hgr1,heap_lt hgr2⟩
  have hne:gr≠gd:=by have:=r.size;omega
  replace hdN:NatR w10 (fun x=>x=gd) (.slice dp.a dp.ls.length dp.c) D:=hdN.keep fun x hx=>by
   rw[hx,he.block gd (Rel.old r hF gd hcd),Rel.same r hF hcd]
  have hgd10:gd<w10.heap.size:=by have:=Rel.old r hF gd hcd;have:=he.size;omega
  replace hcd:=hcd.mono (iv':=(w9.heap.size,w10.heap.size)::iv) fun p hp=>List.mem_cons_of_mem _ hp
  clear r he hb10
  generalize (w9.heap.size,w10.heap.size)::iv=iv at*
  have hgrB:w.heap.size≤gr:=by omega
  clear hgd1 hB5 hgd8 hgr1 hB9
  conv=>whnf
  obtain⟨L,hL⟩:∃L,rs0.length=t+1+L:=⟨rs0.length-(t+1),by omega⟩
  refine⟨(L:Int),by rw[wrap64]<;>omega,?_⟩
  conv=>whnf
  refine⟨L,L,rfl,rfl,Nat.le_refl _,by omega,by omega,?_⟩
  conv=>whnf
  refine⟨(L:Int)-1,by rw[wrap64]<;>omega,?_⟩
  conv=>whnf
  refine⟨Nat×List Nat×List Nat×World,fun z=>⟨[(8,.o (.v (.int .u64 b))),(9,.o (.v (.slice dp.a dp.ls.length dp.c))),(10,.o (.v (.slice (some ⟨gr,0,none⟩) rs0.length rs0.length))),(11,.o (.s 0 0 L L)),(12,.o (.v (.int .i64 ((z.1:Int)-1))))],
    [(0,.arr T.uint32 (U z.2.1))],1,iv,z.2.2.2⟩,fun z=>z.1,
   fun z=>z.1≤L∧Bel w.heap.size w z.2.2.2∧z.2.1.length=L∧z.2.2.1.length=rs0.length∧Lm z.2.1∧Lm z.2.2.1∧z.2.2.2.heap[gr]? =some (.cells (U z.2.2.1).toArray T.uint32 (0,0))∧NatR z.2.2.2 (fun x=>x=gd) (.slice dp.a dp.ls.length dp.c) D∧
    gd<z.2.2.2.heap.size∧val z.2.2.1<wt z.1*D∧n*2^b=wt z.1*(D*val (z.2.1.drop z.1))+val z.2.2.1,?_,?_⟩
  ·intro ρ w' r
   rw[U_zero]at r
   refine⟨(L,List.replicate L 0,rs0,w'),⟨Nat.le_refl _,hw.tr r.bel,by simp,rfl,Lm.replicate _,hgr3,?_,?_,?_,?_,?_⟩,Sub.gen [] r ⟨rfl,trivial⟩ ⟨rfl,rfl,rfl,rfl,rfl,trivial⟩ (by simp[ScH,Blk.scopd]) (by simp[ScE,SV.sc,At.sc]) (by rfl) (by simp)⟩
   ·dsimp only;rw[Rel.same r hF hcr];exact hgr2
   ·exact hdN.keep fun x hx=>by rw[hx];exact Rel.same r hF hcd
   ·exact Rel.old r hF gd hcd
   ·dsimp only
    have:=div_start (b:=b) hm0 h
    rw[hDd,←hyl,ht,←hxl,show x.ls.length+1-(t+1)=L by omega]at this
    rw[hrv];exact this
   ·dsimp only;rw[hrv];simp[val]
  ·rintro⟨k,out,rs,w11⟩ ⟨hk,hw,hol,hrl2,hlo,hlr,hgr,hdN,hgd,hi1,hi2⟩
   dsimp only at hk hw hol hrl2 hlo hlr hgr hdN hgd hi1 hi2 ⊢
   conv=>whnf
   refine BrS.mk (fun h9=>?_) (fun h9=>?_)
   ·have h9:(k:Int)-1≥0:=of_decide_eq_true h9
    obtain⟨k,rfl⟩:∃q,k=q+1:=⟨k-1,by omega⟩
    rw[show ((k+1:Nat):Int)-1=(k:Int) by omega]
    have hDN:D<wt (t+1):=ln_le.1 (Nat.le_of_eq hlnD)
    obtain⟨a1,a2,a3⟩:=div_part (N:=t+1) hlr hDN (by omega) hi1
    have hdig:=fun(w':World)=>@digit_c (fun x=>x=gd) w' (.slice dp.a dp.ls.length dp.c) D gr k rs
    rw[hlnD]at hdig
    simp only[hrl2]at hdig
    generalize hP:val ((rs.drop k).take (t+1+1))=P at*
    have hQ32:P / D<4294967296:=(Nat.div_lt_iff_lt_mul hD0).2 (by rw[Nat.mul_comm]at a3;omega)
    conv=>whnf
    refine⟨fun ρ w' r=>(hdig w' (fun g hg=>by rw[hg];exact Rel.old r hF gd hcd) hne (hdN.keep fun x hx=>by rw[hx];exact Rel.same r hF hcd) hD0 (by rw[Rel.same r hF hcr];exact hgr) hlr (by omega) (by omega) a3).mono fun e w12 he=>?_⟩
    obtain⟨rfl,hgb,rs',e1,e2,e3,e4,e5,e6⟩:=he
    refine⟨_,_,_,rfl,r.rowed (fun id b hb hn=>Rel.not r hF hcr id b hb hn) hgb,?_⟩
    obtain⟨hi1',hi2'⟩:=div_step (N:=t+1) hD0 hlr (e1.trans hrl2.symm) hDN (by omega) hi1 hi2 hP e3 e4 e5 (by omega)
    have hw12:Bel w.heap.size w w12:=(hw.tr r.bel).tr (Bel.grown hgb (fun g hg=>by injection hg with hg;omega) r.baseLe)
    have hdN12:NatR w12 (fun x=>x=gd) (.slice dp.a dp.ls.length dp.c) D:=hdN.keep fun x hx=>by
     rw[hx,hgb.block gd (Rel.old r hF gd hcd) (fun e=>hne (Option.some.inj e).symm),Rel.same r hF hcd]
    have hgd12:gd<w12.heap.size:=by have:=Rel.old r hF gd hcd;have:=hgb.size;omega
    clear r hgb
    generalize P / D=Q at*
    conv=>whnf
    refine⟨⟨by omega,by omega⟩,?_⟩
    conv=>whnf
    refine⟨by rw[U_len];omega,U (out.set k Q),U_store out k _ (by omega) (by simp),?_⟩
    conv=>whnf
    refine⟨(k:Int)-1,by rw[wrap64]<;>omega,?_⟩
    conv=>whnf
    intro ρ3 w3 r3
    refine⟨(k,out.set k Q,rs',w3),⟨by dsimp only;omega,hw12.tr r3.bel,by simp[hol],e1.trans rfl,hlo.set hQ32,e2,?_,?_,?_,hi1',hi2'⟩,
     Sub.gen [] r3 ⟨rfl,trivial⟩ ⟨rfl,rfl,rfl,rfl,rfl,trivial⟩ (by simp[ScH,Blk.scopd]) (by simp[ScE,SV.sc,At.sc]) (by rfl) (by simp),by dsimp only;omega⟩
    ·dsimp only;rw[Rel.same r3 hF hcr];exact e6
    ·exact hdN12.keep fun x hx=>by rw[hx];exact Rel.same r3 hF hcd
    ·exact Rel.old r3 hF gd hcd
   ·have hk0:k=0:=by
     have:¬(k:Int)-1≥0:=of_decide_eq_false h9
     omega
    subst hk0
    rw[wt_zero,Nat.one_mul,List.drop_zero]at hi2
    rw[wt_zero,Nat.one_mul]at hi1
    rw[←hDd]at hi1 hi2
    obtain⟨hq,hrem⟩:=div_end hm0 hi2 hi1
    have hfr:∀w':World,w'.heap[gr]? =some (.cells (U rs).toArray T.uint32 (0,0))→Limbs w' (fun x=>x=gr) (.slice (some ⟨gr,0,none⟩) rs0.length rs0.length) rs:=fun w' hh=>by
     have:=fullRow hh hlr (by omega)
     rwa [hrl2]at this
    conv=>whnf
    refine callE_free (Φ:=fun ρ _ v w2=>Limbs w2 (fun g=>g=(ρ 0).g) v (trimL out)) (H':=[]) 0 rfl (by simp) trivial rfl (fun ρ w' r=>r.nn 0 _ rfl (by intros;simp) (by simp)) (fun ρ w' r=>?_) ?_
    ·have hL:=r.ownLimbs (id:=0) rfl hlo (by omega)
     rw[hol]at hL
     exact trimmed_c (fun g hg=>by rw[hg];exact(r.low 0 _ rfl (r.nn 0 _ rfl (by intros;simp) (by simp))).2) hL
    rintro ρ w13 v13 w14 r he hb14 hL
    replace hw:=hw.tr hb14
    have hlow:=r.low 0 _ rfl (r.nn 0 _ rfl (by intros;simp) (by simp))
    have hs:=he.size
    have hgr14:w14.heap[gr]? =some (.cells (U rs).toArray T.uint32 (0,0)):=by rw[he.block gr (Rel.old r hF gr hcr),Rel.same r hF hcr];exact hgr
    replace hcr:=hcr.mono (iv':=((ρ 0).g,(ρ 0).g+1)::(w13.heap.size,w14.heap.size)::iv) fun p hp=>by simp[hp]
    have hqN:NatR w14 (Cv (fun _=>False) w.heap.size (((ρ 0).g,(ρ 0).g+1)::(w13.heap.size,w14.heap.size)::iv)) v13 (n / m):=by
     have:=hL.trimmed
     rw[hq]at this
     exact this.weak fun k hk=>.inr ⟨by omega,_,_,List.mem_cons_self,by omega,by omega⟩
    clear hL r he hb14 hlow hs
    generalize ((ρ 0).g,(ρ 0).g+1)::(w13.heap.size,w14.heap.size)::iv=iv3 at*
    conv=>whnf
    refine callE_S (callE_con (Φ:=fun _ _ v w2=>Limbs w2 (fun x=>x=gr) v (trimL rs)) (fun ρ w' r=>trimmed_c (fun g hg=>by rw[hg];exact Rel.old r hF gr hcr) (hfr w' (by rw[Rel.same r hF hcr];exact hgr14))) ?_)
    rintro ρ w15 v15 w16 r he hb16 hL
    replace hw:=hw.tr hb16
    replace hqN:=hqN.past (iv':=(w15.heap.size,w16.heap.size)::iv3) r hF he fun x hx=>List.mem_cons_of_mem _ hx
    replace hL:=hL.weak (S':=Cv (fun _=>False) w.heap.size ((w15.heap.size,w16.heap.size)::iv3)) fun g hg=>by rw[hg];exact hcr.cons
    clear r he hb16
    generalize (w15.heap.size,w16.heap.size)::iv3=iv4 at*
    have htl:(trimL rs).length≤rs.length:=by
     obtain⟨_,_,k,_,hk⟩:=trimL_spec rs
     rw[hk];simp
     omega
    conv=>whnf
    refine callE_S (callE_con (Φ:=fun _ w' v w2=>NatR w2 (Nw (fun _=>False) w' w2) v (val (trimL rs) / 2^b)) (fun ρ w' r=>back_c (Rel.old r hF) (Limbs.rel hL r hF) (by omega) hby) ?_)
    rintro ρ w17 v17 w18 r he hb18 hr
    replace hw:=hw.tr hb18
    rw[(trimL_spec rs).1,hrem]at hr
    have hrN:=hr.got (S:=fun _=>False) r.baseLe (iv:=(w17.heap.size,w18.heap.size)::iv4) List.mem_cons_self
    replace hqN:=hqN.past (iv':=(w17.heap.size,w18.heap.size)::iv4) r hF he fun x hx=>List.mem_cons_of_mem _ hx
    clear r he hb18 hr hL
    generalize (w17.heap.size,w18.heap.size)::iv4=iv5 at*
    conv=>whnf
    intro ρ3 w19 r3
    exact⟨_,rfl,hw.tr r3.bel,_,_,rfl,(hqN.rel r3 hF).weak fun g hg=>Cv.nw hg r3,((hrN.rel r3 hF).weak fun g hg=>Cv.nw hg r3).weak fun g hg=>hg.elim (fun h=>h.elim) .inr⟩
end Go.Ex

/- The greatest common divisor of package exact. No condition. -/
namespace Go.Ex
open Go Go.Sx Go.Proofs

theorem common_c{S:Nat→Prop}{w:World}{v u:Value}{n m:Nat}(hS:Old S w)(hn:NatR w S v n)(hm:NatR w S u m)(hln:ln n≤100000000000)(hlm:ln m≤100000000000):
  Con PG N.exact_common #[v,u] w (Ret w fun v' w2=>NatR w2 (Nw S w w2) v' (Nat.gcd n m)):=by
 refine in_exact_common (by simp) ?_
 conv=>whnf
 refine⟨(Value×Nat)×(Value×Nat)×Iv×World,fun z=>⟨[(0,.o (.v z.1.1)),(1,.o (.v z.2.1.1))],[],0,z.2.2.1,z.2.2.2⟩,fun z=>z.2.1.2,
  fun z=>Bel w.heap.size w z.2.2.2∧NatR z.2.2.2 (Cv S w.heap.size z.2.2.1) z.1.1 z.1.2∧NatR z.2.2.2 (Cv S w.heap.size z.2.2.1) z.2.1.1 z.2.1.2∧ln z.1.2≤100000000000∧ln z.2.1.2≤100000000000∧Nat.gcd z.1.2 z.2.1.2=Nat.gcd n m,?_,?_⟩
 ·intro ρ w' r
  exact⟨((v,n),(u,m),[],w'),⟨r.bel,(hn.keep fun g hg=>r.bel.block g (hS g hg)).weak fun _ hg=>.inl hg,(hm.keep fun g hg=>r.bel.block g (hS g hg)).weak fun _ hg=>.inl hg,hln,hlm,rfl⟩,
   Sub.gen [] r trivial ⟨rfl,rfl,trivial⟩ trivial (by simp[ScE,SV.sc,At.sc]) (by rfl) (by simp)⟩
 ·rintro⟨⟨vx,x⟩,⟨vy,y⟩,iv,w1⟩ ⟨hw,hx,hy,hlx,hly,hg⟩
  dsimp only at hw hx hy hlx hly hg ⊢
  have hyN:=hy
  obtain⟨p,rfl,hp1,hp2⟩:=hy.la
  have hpl:=length_ln p.lm hp2
  rw[hp1]at hpl
  conv=>whnf
  refine BrS.mk (fun h=>?_) (fun h=>?_)
  ·have h:0<p.ls.length:=by
    have:(p.ls.length:Int)>0:=of_decide_eq_true h
    omega
   have hy0:0<y:=by
    rcases Nat.eq_zero_or_pos y with h0|h0
    ·rw[h0]at hpl;rw[ln_zero]at hpl;omega
    ·exact h0
   conv=>whnf
   refine callE_S (callE_con (Φ:=fun _ w' v w2=>∃q r,v= .tuple #[q,r]∧NatR w2 (Nw (fun _=>False) w' w2) q (x / y)∧NatR w2 (Nw (Cv S w.heap.size iv) w' w2) r (x % y)) (fun ρ w' r=>divide_c (Rel.old r hS) (hx.rel r hS) (hyN.rel r hS) hy0 hlx) ?_)
   rintro ρ w3 v3 w4 r he hb4 ⟨q,rm,rfl,-,hr⟩
   replace hw:=hw.tr hb4
   have hrN:NatR w4 (Cv S w.heap.size ((w3.heap.size,w4.heap.size)::iv)) rm (x % y):=hr.weak fun g hg=>Nw.cv hg r.baseLe
   have hyN:=hyN.past (iv':=(w3.heap.size,w4.heap.size)::iv) r hS he fun x hx=>List.mem_cons_of_mem _ hx
   clear r he hb4 hr hx hy
   generalize (w3.heap.size,w4.heap.size)::iv=iv2 at*
   conv=>whnf
   intro ρ5 w5 r5
   refine⟨((_,y),(rm,x % y),iv2,w5),⟨hw.tr r5.bel,hyN.rel r5 hS,hrN.rel r5 hS,hly,Nat.le_trans (ln_mono (Nat.le_of_lt (Nat.mod_lt x hy0))) hly,?_⟩,
    Sub.gen [] r5 trivial ⟨rfl,rfl,trivial⟩ trivial (by simp[ScE,SV.sc,At.sc]) (by rfl) (by simp),Nat.mod_lt x hy0⟩
   dsimp only
   rw[←hg,Nat.gcd_comm x y,Nat.gcd_rec y x,Nat.gcd_comm]
  ·have h:p.ls.length=0:=by
    have:¬(p.ls.length:Int)>0:=of_decide_eq_false h
    omega
   have hy0:y=0:=by
    have:=lt_wt_ln y
    rw[←hpl,h,wt_zero]at this
    omega
   rw[hy0,Nat.gcd_zero_right]at hg
   conv=>whnf
   intro ρ5 w5 r5
   exact⟨_,rfl,hw.tr r5.bel,by rw[←hg];exact(hx.rel r5 hS).weak fun g hg=>Cv.nw hg r5⟩
end Go.Ex

/- Integers of package exact: reading, sign, sum, product. No condition. -/
namespace Go.Ex
open Go Go.Sx Go.Proofs

/-- a number with a sign -/
def sg(neg:Bool)(n:Nat):Int:=if neg then -(n:Int)else n
theorem sg_t(n:Nat):sg true n= -(n:Int):=rfl
theorem sg_f(n:Nat):sg false n=n:=rfl
theorem sg_abs(b:Bool)(n:Nat):(sg b n).natAbs=n:=by cases b<;>simp[sg]
/-- an integer of the api, as it stands -/
def IntV(w:World)(S:Nat→Prop)(v:Value)(neg:Bool)(ls:List Nat):Prop:=∃lv,v= .agg #[.bool neg,lv]∧Limbs w S lv ls
/-- an integer of package exact -/
def NumR(w:World)(S:Nat→Prop)(v:Value)(z:Int):Prop:=∃nv,v= .agg #[.bool (decide (z<0)),nv]∧NatR w S nv z.natAbs
section
variable{S S':Nat→Prop}{H:Hp}{nx:Nat}{iv iv':Iv}{B:Nat}{w w' w2:World}{ρ:Nat→Sx.Val}{v:Value}{z:Int}
theorem NumR.keep(h:NumR w S v z)(hk:∀g,S g→w2.heap[g]? =w.heap[g]?):NumR w2 S v z:=by
 obtain⟨nv,h1,h2⟩:=h;exact⟨nv,h1,h2.keep hk⟩
theorem NumR.weak(h:NumR w S v z)(hk:∀g,S g→S' g):NumR w S' v z:=by
 obtain⟨nv,h1,h2⟩:=h;exact⟨nv,h1,h2.weak hk⟩
theorem NumR.rel(h:NumR w (Cv S B iv) v z)(r:Rel H nx iv B w ρ w')(hS:∀g,S g→g<B):NumR w' (Cv S B iv) v z:=h.keep fun _ hg=>Rel.same r hS hg
theorem NumR.past(h:NumR w (Cv S B iv) v z)(r:Rel H nx iv B w ρ w')(hS:∀g,S g→g<B)(he:Ext w' w2)(hm:∀p,p∈iv→p∈iv'):NumR w2 (Cv S B iv') v z:=by
 obtain⟨nv,h1,h2⟩:=h;exact⟨nv,h1,h2.past r hS he hm⟩
theorem NumR.got(h:NumR w2 (Nw (fun _=>False) w' w2) v z)(hB:B≤w'.heap.size)(hm:(w'.heap.size,w2.heap.size)∈iv):NumR w2 (Cv S B iv) v z:=h.weak fun _ hg=>hg.got hB hm
end
theorem ln_pos{n k:Nat}(h:k=ln n):0<k↔0<n:=by
 have h1:=@ln_le n 0
 rw[wt_zero]at h1
 omega

theorem Limbs.shape{S:Nat→Prop}{w:World}{v:Value}{ls:List Nat}(h:Limbs w S v ls):∃a n c,v= .slice a n c:=by
 obtain⟨a,c,h,_⟩:=h.sl
 exact⟨a,_,c,h⟩
theorem NatR.shape{S:Nat→Prop}{w:World}{v:Value}{n:Nat}(h:NatR w S v n):∃a n c,v= .slice a n c:=by
 obtain⟨_,h,_⟩:=h
 exact h.shape
theorem Limbs.arg{S:Nat→Prop}{w:World}{v:Value}{ls:List Nat}(h:Limbs w S v ls)(iv:Iv):Limbs w (Cv S w.heap.size iv) v ls:=h.weak fun _ h=>.inl h
theorem NatR.arg{S:Nat→Prop}{w:World}{v:Value}{n:Nat}(h:NatR w S v n)(iv:Iv):NatR w (Cv S w.heap.size iv) v n:=h.weak fun _ h=>.inl h
theorem NatR.out{S:Nat→Prop}{H:Hp}{nx:Nat}{iv:Iv}{w w1 w':World}{ρ:Nat→Sx.Val}{v:Value}{n:Nat}(h:NatR w1 (Cv S w.heap.size iv) v n)(r:Rel H nx iv w.heap.size w1 ρ w')(hS:Old S w):NatR w' (Nw S w w') v n:=
 (h.rel r hS).weak fun _ hg=>Cv.nw hg r
theorem NumR.out{S:Nat→Prop}{H:Hp}{nx:Nat}{iv:Iv}{w w1 w':World}{ρ:Nat→Sx.Val}{v:Value}{z:Int}(h:NumR w1 (Cv S w.heap.size iv) v z)(r:Rel H nx iv w.heap.size w1 ρ w')(hS:Old S w):NumR w' (Nw S w w') v z:=
 (h.rel r hS).weak fun _ hg=>Cv.nw hg r
theorem neg_pos{n k:Nat}(h:k=ln n):decide ((k:Int)>0)=decide (-(n:Int)<0):=by
 have:=ln_pos h
 exact decide_eq_decide.2 (by omega)
theorem oldF(w:World):Old (fun _=>False) w:=fun _ h=>h.elim

theorem of_c{S:Nat→Prop}{w:World}{v:Value}{neg:Bool}{ls:List Nat}(hS:Old S w)(h:IntV w S v neg ls):
  Con PG N.exact_of #[v] w (Ret w fun v' w2=>NumR w2 (Nw S w w2) v' (sg neg (val ls))):=by
 obtain⟨lv,rfl,hl⟩:=h
 replace hl:=hl.arg []
 refine in_exact_of (by simp) ?_
 conv=>whnf
 refine callE_S (callE_con (Φ:=fun _ _ v w2=>Limbs w2 (Cv S w.heap.size []) v (trimL ls)) (fun ρ w' r=>trimmed_c (Rel.old r hS) (Limbs.rel hl r hS)) ?_)
 rintro ρ w1 v1 w2 r he hw hL
 have hN:=hL.trimmed.weak (S':=Cv S w.heap.size [(w1.heap.size,w2.heap.size)]) fun _ hg=>hg.cons
 clear r he hL hl
 have hN2:=hN
 obtain⟨p,rfl,hp1,hp2⟩:=hN.la
 have hpl:=length_ln p.lm hp2
 rw[hp1]at hpl
 cases neg
 ·conv=>whnf
  intro ρ3 w3 r3
  exact⟨_,rfl,hw.tr r3.bel,_,rfl,by rw[sg_abs];exact hN2.out r3 hS⟩
 ·conv=>whnf
  intro ρ3 w3 r3
  exact⟨_,rfl,hw.tr r3.bel,_,by rw[sg_t,←neg_pos hpl];rfl,by rw[sg_abs];exact hN2.out r3 hS⟩

/-- what give hands back: the normal form, in new memory -/
theorem give_c{S:Nat→Prop}{w:World}{v:Value}{z:Int}(hS:Old S w)(h:NumR w S v z)(hln:ln z.natAbs≤100000000000):
  Con PG N.exact_number_give #[v] w (Ret w fun v' w2=>∃ls,IntV w2 (Nw (fun _=>False) w w2) v' (decide (z<0)) ls∧Nz ls∧val ls=z.natAbs):=by
 obtain⟨nv,rfl,hn⟩:=h
 obtain⟨ls,hl,hz,hv⟩:=hn
 replace hl:=hl.arg []
 refine in_exact_number_give (by simp) ?_
 conv=>whnf
 refine callE_S (callE_con (Φ:=fun _ _ v w2=>Limbs w2 (Cv S w.heap.size []) v (trimL ls)) (fun ρ w' r=>trimmed_c (Rel.old r hS) (Limbs.rel hl r hS)) ?_)
 rintro ρ w1 v1 w2 r he hw hL
 rw[trimL_of_nz hz]at hL
 have hpl:=length_ln hl.lm hz
 rw[hv]at hpl
 replace hL:=hL.weak (S':=Cv S w.heap.size [(w1.heap.size,w2.heap.size)]) fun _ hg=>hg.cons
 clear r he hl
 have hL2:=hL
 obtain⟨p,rfl,hp⟩:=hL.la
 have hpz:(p.ls.length:Int)>0↔z≠0:=by
  have h1:=ln_pos hpl
  rw[hp]
  omega
 subst hp
 generalize hb:decide (z<0)=b
 cases b
 all_goals
  conv=>whnf
  refine callE_S (callE_con (Φ:=fun _ w' v w2=>Limbs w2 (Nw (fun _=>False) w' w2) v p.ls) (fun ρ w' r=>clone_c (Rel.old r hS) (Limbs.rel hL2 r hS) (by omega)) ?_)
  rintro ρ w3 v3 w4 r he hb4 hc
  replace hw:=hw.tr hb4
  have hcL:=hc.got (S:=fun _=>False) r.baseLe (iv:=(w3.heap.size,w4.heap.size)::[(w1.heap.size,w2.heap.size)]) List.mem_cons_self
  clear r he hb4 hc hL hL2
  obtain⟨a3,n3,c3,rfl⟩:=hcL.shape
  conv=>whnf
  intro ρ5 w5 r5
  refine⟨_,rfl,hw.tr r5.bel,p.ls,⟨_,?_,(Limbs.rel hcL r5 (oldF w)).weak fun _ hg=>Cv.nw hg r5⟩,hz,hv⟩
 ·rfl
 ·have:decide ((p.ls.length:Int)>0)=true:=decide_eq_true (hpz.2 (by have:=of_decide_eq_true hb;omega))
  rw[←this]
  rfl

theorem sign_c{S:Nat→Prop}{w:World}{v:Value}{z:Int}(h:NumR w S v z):Con PG N.exact_number_sign #[v] w (Ret w fun v' _=>v'= .int .i64 z.sign):=by
 obtain⟨nv,rfl,hn⟩:=h
 obtain⟨p,rfl,hp1,hp2⟩:=hn.la
 have hpl:=length_ln p.lm hp2
 rw[hp1]at hpl
 have hpz:=ln_pos hpl
 generalize hb:decide (z<0)=b
 refine in_exact_number_sign (by simp) ?_
 conv=>whnf
 refine BrS.mk (fun h=>?_) (fun h=>?_)
 ·have h:p.ls.length=0:=by have:=eq_of_beq h;omega
  have hz:z=0:=by omega
  subst hz
  conv=>whnf
  intro ρ w2 r
  exact⟨_,rfl,r.bel,rfl⟩
 ·have h:p.ls.length≠0:=fun e=>by rw[e]at h;simp at h
  have hz:z≠0:=by omega
  cases b
  ·have:=of_decide_eq_false hb
   conv=>whnf
   intro ρ w2 r
   exact⟨_,rfl,r.bel,by rw[Int.sign_eq_one_of_pos (by omega)];rfl⟩
  ·have:=of_decide_eq_true hb
   conv=>whnf
   intro ρ w2 r
   exact⟨_,rfl,r.bel,by rw[Int.sign_eq_neg_one_of_neg (by omega)];rfl⟩

theorem numMinus_c{S:Nat→Prop}{w:World}{v:Value}{z:Int}(hS:Old S w)(h:NumR w S v z):Con PG N.exact_number_minus #[v] w (Ret w fun v' w2=>NumR w2 (Nw S w w2) v' (-z)):=by
 obtain⟨nv,rfl,hn⟩:=h
 have hn2:=hn.arg []
 obtain⟨p,rfl,hp1,hp2⟩:=hn.la
 have hpl:=length_ln p.lm hp2
 rw[hp1]at hpl
 have hpz:=ln_pos hpl
 have hab:(-z).natAbs=z.natAbs:=Int.natAbs_neg z
 generalize hb:decide (z<0)=b
 refine in_exact_number_minus (by simp) ?_
 cases b
 ·have:=of_decide_eq_false hb
  have hd:decide ((p.ls.length:Int)>0)=decide (-z<0):=decide_eq_decide.2 (by omega)
  conv=>whnf
  intro ρ w2 r
  exact⟨_,rfl,r.bel,_,by rw[←hd];rfl,by rw[hab];exact hn2.out r hS⟩
 ·have:=of_decide_eq_true hb
  have hd:decide (-z<0)=false:=decide_eq_false (by omega)
  conv=>whnf
  intro ρ w2 r
  exact⟨_,rfl,r.bel,_,by rw[hd];rfl,by rw[hab];exact hn2.out r hS⟩
end Go.Ex

/- Integers of package exact: sum, product, comparison. No condition. -/
namespace Go.Ex
open Go Go.Sx Go.Proofs

/-- the shape of an integer -/
theorem NumR.num{S:Nat→Prop}{w:World}{v:Value}{z:Int}(h:NumR w S v z):∃a n c,v= .agg #[.bool (decide (z<0)),.slice a n c]∧NatR w S (.slice a n c) z.natAbs:=by
 obtain⟨nv,h1,h2⟩:=h
 obtain⟨a,n,c,rfl⟩:=h2.shape
 exact⟨a,n,c,h1,h2⟩

theorem numPlus_c{S:Nat→Prop}{w:World}{v u:Value}{x y:Int}(hS:Old S w)(hx:NumR w S v x)(hy:NumR w S u y)(hlx:ln x.natAbs≤100000000000)(hly:ln y.natAbs≤100000000000):
  Con PG N.exact_number_plus #[v,u] w (Ret w fun v' w2=>NumR w2 (Nw (fun _=>False) w w2) v' (x+y)):=by
 obtain⟨nx,rfl,hxn⟩:=hx
 obtain⟨ny,rfl,hyn⟩:=hy
 obtain⟨ax,lx,cx,rfl⟩:=hxn.shape
 obtain⟨ay,ly,cy,rfl⟩:=hyn.shape
 replace hxn:=hxn.arg []
 replace hyn:=hyn.arg []
 generalize hbx:decide (x<0)=bx
 generalize hby:decide (y<0)=b2
 refine in_exact_number_plus (by simp) ?_
 have hsame:bx=b2→(x+y).natAbs=x.natAbs+y.natAbs∧decide (x+y<0)=bx:=fun e=>by
  cases bx<;>subst e
  ·have h1:=of_decide_eq_false hbx
   have h2:=of_decide_eq_false hby
   exact⟨by omega,decide_eq_false (by omega)⟩
  ·have h1:=of_decide_eq_true hbx
   have h2:=of_decide_eq_true hby
   exact⟨by omega,decide_eq_true (by omega)⟩
 have hdiff:bx≠b2→y.natAbs≤x.natAbs→(x+y).natAbs=x.natAbs-y.natAbs∧(decide (x+y<0)=(bx&&decide (x.natAbs-y.natAbs≠0))):=fun e h=>by
  cases bx
  ·have h1:=of_decide_eq_false hbx
   cases b2
   ·exact absurd rfl e
   have h2:=of_decide_eq_true hby
   exact⟨by omega,by rw[Bool.false_and];exact decide_eq_false (by omega)⟩
  ·have h1:=of_decide_eq_true hbx
   cases b2
   ·have h2:=of_decide_eq_false hby
    exact⟨by omega,by rw[Bool.true_and];exact decide_eq_decide.2 (by omega)⟩
   ·exact absurd rfl e
 have hdiff2:bx≠b2→x.natAbs<y.natAbs→(x+y).natAbs=y.natAbs-x.natAbs∧decide (x+y<0)=b2:=fun e h=>by
  cases bx
  ·have h1:=of_decide_eq_false hbx
   cases b2
   ·exact absurd rfl e
   have h2:=of_decide_eq_true hby
   exact⟨by omega,decide_eq_true (by omega)⟩
  ·have h1:=of_decide_eq_true hbx
   cases b2
   ·have h2:=of_decide_eq_false hby
    exact⟨by omega,decide_eq_false (by omega)⟩
   ·exact absurd rfl e
 by_cases hbb:bx=b2
 ·obtain⟨h1,h2⟩:=hsame hbb
  subst hbb
  clear hsame hdiff hdiff2
  cases bx
  all_goals
   conv=>whnf
   refine drawn_of_pi hτ hmix [.x 0,.x 1,.x 2,.x 3,.x 4,.x 5,.x 6,.x 7,.x 8] (by kernel_rfl) (by kernel_rfl) ?_
   conv=>whnf
   refine callE_con (Φ:=fun _ w' v w2=>NatR w2 (Nw (fun _=>False) w' w2) v (x.natAbs+y.natAbs)) (fun ρ w' r=>plus_c (Rel.old r hS) (hxn.rel r hS) (hyn.rel r hS) (by omega) (by omega)) ?_
   rintro ρ w3 v3 w4 r he hw hn
   have hN:=hn.got (S:=fun _=>False) r.baseLe (iv:=(w3.heap.size,w4.heap.size)::[]) List.mem_cons_self
   clear r he hn hxn hyn
   obtain⟨a3,n3,c3,rfl⟩:=hN.shape
   conv=>whnf
   intro ρ5 w5 r5
   exact⟨_,rfl,hw.tr r5.bel,_,by rw[h2];rfl,by rw[h1];exact hN.out r5 (oldF w)⟩
 ·replace hdiff:=hdiff hbb
  replace hdiff2:=hdiff2 hbb
  clear hsame
  have hcmp:∀d:Int,d=cmpN x.natAbs y.natAbs→(0≤d↔y.natAbs≤x.natAbs):=fun d e=>by
   rw[e];unfold cmpN
   split
   ·omega
   ·split<;>omega
  cases bx<;>cases b2<;>first|exact absurd rfl hbb|skip
  all_goals
   conv=>whnf
   refine callE_S (callE_con (Φ:=fun _ _ v _=>v= .int .i64 (cmpN x.natAbs y.natAbs)) (fun ρ w' r=>cmp_c (Rel.old r hS) (hxn.rel r hS) (hyn.rel r hS)) ?_)
   rintro ρ w1 v1 w2 r he hw rfl
   replace hxn:=hxn.past (iv':=[(w1.heap.size,w2.heap.size)]) r hS he fun x hx=>List.mem_cons_of_mem _ hx
   replace hyn:=hyn.past (iv':=[(w1.heap.size,w2.heap.size)]) r hS he fun x hx=>List.mem_cons_of_mem _ hx
   clear r he
   conv=>whnf
   refine BrS.mk (fun h=>?_) (fun h=>?_)
   ·have h:=(hcmp _ rfl).1 (of_decide_eq_true h)
    obtain⟨h1,h2⟩:=hdiff h
    conv=>whnf
    refine callE_S (callE_con (Φ:=fun _ w' v w2=>NatR w2 (Nw (fun _=>False) w' w2) v (x.natAbs-y.natAbs)) (fun ρ w' r=>minus_c (Rel.old r hS) (hxn.rel r hS) (hyn.rel r hS) h (by omega)) ?_)
    rintro ρ w3 v3 w4 r he hb4 hn
    replace hw:=hw.tr hb4
    have hN:=hn.got (S:=fun _=>False) r.baseLe (iv:=(w3.heap.size,w4.heap.size)::[(w1.heap.size,w2.heap.size)]) List.mem_cons_self
    clear r he hn hxn hyn hb4
    have hN2:=hN
    obtain⟨p,rfl,hp1,hp2⟩:=hN.la
    have hpl:=length_ln p.lm hp2
    rw[hp1]at hpl
    have hpz:=ln_pos hpl
    have hd:decide ((p.ls.length:Int)>0)=decide (x.natAbs-y.natAbs≠0):=decide_eq_decide.2 (by omega)
    conv=>whnf
    intro ρ5 w5 r5
    exact⟨_,rfl,hw.tr r5.bel,_,by rw[h2,←hd];rfl,by rw[h1];exact hN2.out r5 (oldF w)⟩
   ·have h:x.natAbs<y.natAbs:=by
     have h0:=of_decide_eq_false h
     have:=hcmp _ rfl
     omega
    obtain⟨h1,h2⟩:=hdiff2 h
    conv=>whnf
    refine drawn_of_pi hτ hmix [.x 0,.x 1,.x 2,.x 3,.x 4,.x 5,.x 6,.x 7,.x 8] (by kernel_rfl) (by kernel_rfl) ?_
    conv=>whnf
    refine callE_con (Φ:=fun _ w' v w2=>NatR w2 (Nw (fun _=>False) w' w2) v (y.natAbs-x.natAbs)) (fun ρ w' r=>minus_c (Rel.old r hS) (hyn.rel r hS) (hxn.rel r hS) (by omega) (by omega)) ?_
    rintro ρ w3 v3 w4 r he hb4 hn
    replace hw:=hw.tr hb4
    have hN:=hn.got (S:=fun _=>False) r.baseLe (iv:=(w3.heap.size,w4.heap.size)::[(w1.heap.size,w2.heap.size)]) List.mem_cons_self
    clear r he hn hxn hyn hb4
    obtain⟨a3,n3,c3,rfl⟩:=hN.shape
    conv=>whnf
    intro ρ5 w5 r5
    exact⟨_,rfl,hw.tr r5.bel,_,by rw[h2];rfl,by rw[h1];exact hN.out r5 (oldF w)⟩

theorem numTimes_c{S:Nat→Prop}{w:World}{v u:Value}{x y:Int}(hS:Old S w)(hx:NumR w S v x)(hy:NumR w S u y)(hlx:ln x.natAbs≤100000000000)(hly:ln y.natAbs≤100000000000):
  Con PG N.exact_number_times #[v,u] w (Ret w fun v' w2=>NumR w2 (Nw (fun _=>False) w w2) v' (x*y)):=by
 obtain⟨nx,rfl,hxn⟩:=hx
 obtain⟨ny,rfl,hyn⟩:=hy
 obtain⟨ax,lx,cx,rfl⟩:=hxn.shape
 obtain⟨ay,ly,cy,rfl⟩:=hyn.shape
 replace hxn:=hxn.arg []
 replace hyn:=hyn.arg []
 have hab:=Int.natAbs_mul x y
 have hneg:decide (x*y<0)=((decide (x<0) != decide (y<0))&&decide (x.natAbs*y.natAbs≠0)):=by
  by_cases h0:x*y=0
  ·rw[←hab,h0];simp
  ·have hx0:x≠0:=fun e=>h0 (by rw[e,Int.zero_mul])
   have hy0:y≠0:=fun e=>h0 (by rw[e,Int.mul_zero])
   rw[←hab,decide_eq_true (show (x*y).natAbs≠0 by omega),Bool.and_true]
   by_cases h1:x<0<;>by_cases h2:y<0
   ·rw[decide_eq_true h1,decide_eq_true h2];exact decide_eq_false (by have:=Int.mul_pos_of_neg_of_neg h1 h2;omega)
   ·rw[decide_eq_true h1,decide_eq_false h2];exact decide_eq_true (Int.mul_neg_of_neg_of_pos h1 (by omega))
   ·rw[decide_eq_false h1,decide_eq_true h2];exact decide_eq_true (Int.mul_neg_of_pos_of_neg (by omega) h2)
   ·rw[decide_eq_false h1,decide_eq_false h2];exact decide_eq_false (by have:=Int.mul_nonneg (show 0≤x by omega) (show 0≤y by omega);omega)
 generalize decide (x<0)=bx at*
 generalize decide (y<0)=b2 at*
 refine in_exact_number_times (by simp) ?_
 conv=>whnf
 refine callE_S (callE_con (Φ:=fun _ w' v w2=>NatR w2 (Nw (fun _=>False) w' w2) v (x.natAbs*y.natAbs)) (fun ρ w' r=>times_c (Rel.old r hS) (hxn.rel r hS) (hyn.rel r hS) (by omega) (by omega)) ?_)
 rintro ρ w3 v3 w4 r he hw hn
 have hN:=hn.got (S:=fun _=>False) r.baseLe (iv:=(w3.heap.size,w4.heap.size)::[]) List.mem_cons_self
 clear r he hn hxn hyn
 have hN2:=hN
 obtain⟨p,rfl,hp1,hp2⟩:=hN.la
 have hpl:=length_ln p.lm hp2
 rw[hp1]at hpl
 have hpz:=ln_pos hpl
 have hd:decide ((p.ls.length:Int)>0)=decide (x.natAbs*y.natAbs≠0):=decide_eq_decide.2 (by omega)
 cases bx<;>cases b2
 all_goals
  conv=>whnf
  intro ρ5 w5 r5
  exact⟨_,rfl,hw.tr r5.bel,_,by rw[hneg,←hd];rfl,by rw[hab];exact hN2.out r5 (oldF w)⟩

theorem numCmp_c{S:Nat→Prop}{w:World}{v u:Value}{x y:Int}(hS:Old S w)(hx:NumR w S v x)(hy:NumR w S u y)(hlx:ln x.natAbs≤100000000000)(hly:ln y.natAbs≤100000000000):
  Con PG N.exact_number_cmp #[v,u] w (Ret w fun v' _=>v'= .int .i64 (x-y).sign):=by
 have hxN:NumR w (Cv S w.heap.size []) v x:=hx.weak fun _ h=>.inl h
 have hyN:NumR w (Cv S w.heap.size []) u y:=hy.weak fun _ h=>.inl h
 obtain⟨nx,rfl,hxn⟩:=hx
 obtain⟨ny,rfl,hyn⟩:=hy
 obtain⟨ax,lx,cx,rfl⟩:=hxn.shape
 obtain⟨ay,ly,cy,rfl⟩:=hyn.shape
 refine in_exact_number_cmp (by simp) ?_
 conv=>whnf
 refine drawn_of_pi hτ hmix [.x 0,.x 1,.x 2,.x 3,.x 4,.x 5] (by kernel_rfl) (by kernel_rfl) ?_
 conv=>whnf
 refine callE_con (Φ:=fun _ w' v w2=>NumR w2 (Nw (Cv S w.heap.size []) w' w2) v (-y)) (fun ρ w' r=>numMinus_c (Rel.old r hS) (hyN.rel r hS)) ?_
 rintro ρ w1 v1 w2 r he hw hm
 have hmN:NumR w2 (Cv S w.heap.size [(w1.heap.size,w2.heap.size)]) v1 (-y):=hm.weak fun _ hg=>Nw.cv hg r.baseLe
 replace hxN:=hxN.past (iv':=[(w1.heap.size,w2.heap.size)]) r hS he fun x hx=>List.mem_cons_of_mem _ hx
 clear r he hm hyN
 generalize [(w1.heap.size,w2.heap.size)]=iv at*
 have hmN2:=hmN
 obtain⟨am,lm,cm,rfl,-⟩:=hmN.num
 conv=>whnf
 refine callE_con (Φ:=fun _ w' v w2=>NumR w2 (Nw (fun _=>False) w' w2) v (x+ -y)) (fun ρ w' r=>numPlus_c (Rel.old r hS) (hxN.rel r hS) (hmN2.rel r hS) hlx (by rw[Int.natAbs_neg];exact hly)) ?_
 rintro ρ w3 v3 w4 r he hb4 hp
 replace hw:=hw.tr hb4
 have hpN:=hp.got (S:=S) r.baseLe (iv:=(w3.heap.size,w4.heap.size)::iv) List.mem_cons_self
 clear r he hp hxN hmN hmN2 hb4
 have hpN2:=hpN
 obtain⟨ap,lp,cp,rfl,-⟩:=hpN.num
 conv=>whnf
 refine callE_con (Φ:=fun _ _ v _=>v= .int .i64 (x-y).sign) (fun ρ w' r=>sign_c (hpN2.rel r hS)) ?_
 rintro ρ w5 v5 w6 r he hb6 rfl
 replace hw:=hw.tr hb6
 clear r he hb6
 conv=>whnf
 intro ρ7 w7 r7
 exact⟨_,rfl,hw.tr r7.bel,rfl⟩
end Go.Ex

/- Integers of package exact: division, machine integers. No condition. -/
namespace Go.Ex
open Go Go.Sx Go.Proofs

end Go.Ex

/- Machine integers as integers of package exact. No condition. -/
namespace Go.Ex
open Go Go.Sx Go.Proofs

theorem small_c(n:Int)(w:World)(h1: -9223372036854775808≤n)(h2:n≤9223372036854775807):
  Con PG N.exact_small #[.int .i64 n] w (Ret w fun v' w2=>NumR w2 (Nw (fun _=>False) w w2) v' n):=by
 have key:∀(m:Nat),m=n.natAbs→m<18446744073709551616∧val [m % 4294967296,m / 4294967296]=n.natAbs∧m / 4294967296<4294967296:=fun m e=>by
  refine⟨by omega,?_,by omega⟩
  simp only[val]
  omega
 refine in_exact_small (by simp) ?_
 conv=>whnf
 refine⟨if n<0 then n+18446744073709551616 else n,by show n % 18446744073709551616=_;split<;>omega,?_⟩
 conv=>whnf
 refine BrS.mk (fun h=>?_) (fun h=>?_)
 ·have h:=of_decide_eq_true h
  rw[if_pos h]
  obtain⟨m,hm⟩:∃m,m=n.natAbs:=⟨_,rfl⟩
  obtain⟨k1,k2,k3⟩:=key m hm
  conv=>whnf
  refine⟨(m:Int),by show(0-(n+18446744073709551616)) % 18446744073709551616=_;omega,?_⟩
  conv=>whnf
  refine⟨((m % 4294967296:Nat):Int),wrapU32n m,?_⟩
  conv=>whnf
  refine⟨by decide,((m / 2^32:Nat):Int),fdiv_shr 32 (by decide),?_⟩
  conv=>whnf
  refine⟨((m / 4294967296:Nat):Int),by rw[wrapU32n,Nat.mod_eq_of_lt (by omega)],?_⟩
  conv=>whnf
  refine callE_free (Φ:=fun ρ _ v w2=>Limbs w2 (fun g=>g=(ρ 1).g) v (trimL [m % 4294967296,m / 4294967296])) (H':=[(0,.box T.number [.v (.bool false),.v (.slice none 0 0)])]) 1 rfl (by simp) ⟨rfl,trivial⟩ rfl (fun ρ w' r=>r.nn 1 _ rfl (by intros;simp) (by simp)) (fun ρ w' r=>?_) ?_
  ·have hL:=r.boxLimbs (id:=1) (ls:=[m % 4294967296,m / 4294967296]) rfl (by intro x hx;simp at hx;omega) (by simp)
   exact trimmed_c (fun g hg=>by rw[hg];exact(r.low 1 _ rfl (r.nn 1 _ rfl (by intros;simp) (by simp))).2) hL
  rintro ρ w1 v1 w2 r he hw hL
  have hlow:=r.low 1 _ rfl (r.nn 1 _ rfl (by intros;simp) (by simp))
  have hs:=he.size
  generalize (ρ 1).g=g0 at*
  have hN:NatR w2 (Cv (fun _=>False) w.heap.size [(g0,g0+1),(w1.heap.size,w2.heap.size)]) v1 n.natAbs:=by
   have:=hL.trimmed
   rw[k2]at this
   exact this.weak fun k hk=>.inr ⟨by omega,g0,g0+1,by simp,by omega,by omega⟩
  clear hL r he hlow hs
  generalize [(g0,g0+1),(w1.heap.size,w2.heap.size)]=iv at*
  obtain⟨a3,n3,c3,rfl⟩:=hN.shape
  conv=>whnf
  intro ρ5 w5 r5
  exact⟨_,rfl,hw.tr r5.bel,_,rfl,hN.out r5 (oldF w)⟩
 ·have h:=of_decide_eq_false h
  rw[if_neg h]
  obtain⟨m,hm⟩:∃m,m=n.natAbs:=⟨_,rfl⟩
  obtain⟨k1,k2,k3⟩:=key m hm
  have hmn:n=(m:Int):=by omega
  conv=>whnf
  refine⟨((m % 4294967296:Nat):Int),by rw[hmn];exact wrapU32n m,?_⟩
  conv=>whnf
  refine⟨by decide,((m / 2^32:Nat):Int),by rw[hmn];exact fdiv_shr 32 (by decide),?_⟩
  conv=>whnf
  refine⟨((m / 4294967296:Nat):Int),by rw[wrapU32n,Nat.mod_eq_of_lt (by omega)],?_⟩
  conv=>whnf
  refine callE_free (Φ:=fun ρ _ v w2=>Limbs w2 (fun g=>g=(ρ 1).g) v (trimL [m % 4294967296,m / 4294967296])) (H':=[(0,.box T.number [.v (.bool false),.v (.slice none 0 0)])]) 1 rfl (by simp) ⟨rfl,trivial⟩ rfl (fun ρ w' r=>r.nn 1 _ rfl (by intros;simp) (by simp)) (fun ρ w' r=>?_) ?_
  ·have hL:=r.boxLimbs (id:=1) (ls:=[m % 4294967296,m / 4294967296]) rfl (by intro x hx;simp at hx;omega) (by simp)
   exact trimmed_c (fun g hg=>by rw[hg];exact(r.low 1 _ rfl (r.nn 1 _ rfl (by intros;simp) (by simp))).2) hL
  rintro ρ w1 v1 w2 r he hw hL
  have hlow:=r.low 1 _ rfl (r.nn 1 _ rfl (by intros;simp) (by simp))
  have hs:=he.size
  generalize (ρ 1).g=g0 at*
  have hN:NatR w2 (Cv (fun _=>False) w.heap.size [(g0,g0+1),(w1.heap.size,w2.heap.size)]) v1 n.natAbs:=by
   have:=hL.trimmed
   rw[k2]at this
   exact this.weak fun k hk=>.inr ⟨by omega,g0,g0+1,by simp,by omega,by omega⟩
  clear hL r he hlow hs
  generalize [(g0,g0+1),(w1.heap.size,w2.heap.size)]=iv at*
  obtain⟨a3,n3,c3,rfl⟩:=hN.shape
  conv=>whnf
  intro ρ5 w5 r5
  exact⟨_,rfl,hw.tr r5.bel,_,rfl,hN.out r5 (oldF w)⟩
end Go.Ex

/- The integers that package exact exports. No condition. -/
namespace Go.Ex
open Go Go.Sx Go.Proofs

/-- an integer of the api with its value -/
def IntR(w:World)(S:Nat→Prop)(v:Value)(z:Int):Prop:=∃neg ls,IntV w S v neg ls∧sg neg (val ls)=z
/-- .. in normal form -/
def IntC(w:World)(S:Nat→Prop)(v:Value)(z:Int):Prop:=∃ls,IntV w S v (decide (z<0)) ls∧Nz ls∧val ls=z.natAbs
theorem sg_natAbs(z:Int):sg (decide (z<0)) z.natAbs=z:=by
 by_cases h:z<0
 ·rw[decide_eq_true h,sg_t];omega
 ·rw[decide_eq_false h,sg_f];omega
theorem IntC.r{w:World}{S:Nat→Prop}{v:Value}{z:Int}(h:IntC w S v z):IntR w S v z:=by
 obtain⟨ls,h1,h2,h3⟩:=h
 exact⟨_,ls,h1,by rw[h3,sg_natAbs]⟩
section
variable{S S':Nat→Prop}{H:Hp}{nx:Nat}{iv iv':Iv}{B:Nat}{w w' w2:World}{ρ:Nat→Sx.Val}{v:Value}{z:Int}{neg:Bool}{ls:List Nat}
theorem IntV.keep(h:IntV w S v neg ls)(hk:∀g,S g→w2.heap[g]? =w.heap[g]?):IntV w2 S v neg ls:=by
 obtain⟨lv,h1,h2⟩:=h;exact⟨lv,h1,h2.keep hk⟩
theorem IntV.weak(h:IntV w S v neg ls)(hk:∀g,S g→S' g):IntV w S' v neg ls:=by
 obtain⟨lv,h1,h2⟩:=h;exact⟨lv,h1,h2.weak hk⟩
theorem IntR.keep(h:IntR w S v z)(hk:∀g,S g→w2.heap[g]? =w.heap[g]?):IntR w2 S v z:=by
 obtain⟨n,l,h1,h2⟩:=h;exact⟨n,l,h1.keep hk,h2⟩
theorem IntR.weak(h:IntR w S v z)(hk:∀g,S g→S' g):IntR w S' v z:=by
 obtain⟨n,l,h1,h2⟩:=h;exact⟨n,l,h1.weak hk,h2⟩
theorem IntC.keep(h:IntC w S v z)(hk:∀g,S g→w2.heap[g]? =w.heap[g]?):IntC w2 S v z:=by
 obtain⟨l,h1,h2⟩:=h;exact⟨l,h1.keep hk,h2⟩
theorem IntC.weak(h:IntC w S v z)(hk:∀g,S g→S' g):IntC w S' v z:=by
 obtain⟨l,h1,h2⟩:=h;exact⟨l,h1.weak hk,h2⟩
theorem IntR.rel(h:IntR w (Cv S B iv) v z)(r:Rel H nx iv B w ρ w')(hS:∀g,S g→g<B):IntR w' (Cv S B iv) v z:=h.keep fun _ hg=>Rel.same r hS hg
theorem IntC.rel(h:IntC w (Cv S B iv) v z)(r:Rel H nx iv B w ρ w')(hS:∀g,S g→g<B):IntC w' (Cv S B iv) v z:=h.keep fun _ hg=>Rel.same r hS hg
theorem IntR.past(h:IntR w (Cv S B iv) v z)(r:Rel H nx iv B w ρ w')(hS:∀g,S g→g<B)(he:Ext w' w2)(hm:∀p,p∈iv→p∈iv'):IntR w2 (Cv S B iv') v z:=
 ((h.rel r hS).keep fun g hg=>he.block g (Rel.old r hS g hg)).weak fun _ hg=>hg.mono hm
theorem IntC.past(h:IntC w (Cv S B iv) v z)(r:Rel H nx iv B w ρ w')(hS:∀g,S g→g<B)(he:Ext w' w2)(hm:∀p,p∈iv→p∈iv'):IntC w2 (Cv S B iv') v z:=
 ((h.rel r hS).keep fun g hg=>he.block g (Rel.old r hS g hg)).weak fun _ hg=>hg.mono hm
theorem IntC.got(h:IntC w2 (Nw (fun _=>False) w' w2) v z)(hB:B≤w'.heap.size)(hm:(w'.heap.size,w2.heap.size)∈iv):IntC w2 (Cv S B iv) v z:=h.weak fun _ hg=>hg.got hB hm
theorem IntR.shape(h:IntR w S v z):∃b a n c,v= .agg #[.bool b,.slice a n c]:=by
 obtain⟨b,l,⟨lv,h1,h2⟩,_⟩:=h
 obtain⟨a,n,c,rfl⟩:=h2.shape
 exact⟨b,a,n,c,h1⟩
theorem NumR.old(h:NumR w2 (Nw (Cv S B iv) w' w2) v z)(hB:B≤w'.heap.size):NumR w2 (Cv S B ((w'.heap.size,w2.heap.size)::iv)) v z:=h.weak fun _ hg=>Nw.cv hg hB
end
theorem IntC.out{S:Nat→Prop}{H:Hp}{nx:Nat}{iv:Iv}{w w1 w':World}{ρ:Nat→Sx.Val}{v:Value}{z:Int}(h:IntC w1 (Cv S w.heap.size iv) v z)(r:Rel H nx iv w.heap.size w1 ρ w')(hS:Old S w):IntC w' (Nw S w w') v z:=
 (h.rel r hS).weak fun _ hg=>Cv.nw hg r
theorem ofR_c{S:Nat→Prop}{w:World}{v:Value}{z:Int}(hS:Old S w)(h:IntR w S v z):Con PG N.exact_of #[v] w (Ret w fun v' w2=>NumR w2 (Nw S w w2) v' z):=by
 obtain⟨n,l,h1,rfl⟩:=h
 exact of_c hS h1

end Go.Ex

/- The integers that package exact exports: difference, product, comparison, division. Printed by program. No condition. -/
namespace Go.Ex
open Go Go.Sx Go.Proofs

theorem NumR.shape{S:Nat→Prop}{w:World}{v:Value}{z:Int}(h:NumR w S v z):∃b a n c,v= .agg #[.bool b,.slice a n c]:=by
 obtain⟨a,n,c,h1,_⟩:=h.num
 exact⟨_,a,n,c,h1⟩
theorem IntC.shape{S:Nat→Prop}{w:World}{v:Value}{z:Int}(h:IntC w S v z):∃b a n c,v= .agg #[.bool b,.slice a n c]:=h.r.shape
theorem ln_mul_abs(x y:Int):ln (x*y).natAbs≤ln x.natAbs+ln y.natAbs:=by
 rw[Int.natAbs_mul];exact ln_mul _ _

end Go.Ex

/- Fractions as Go keeps them: numerator and denominator in lowest terms. No condition. -/
namespace Go.Ex
open Go Go.Sx

theorem rat_over{x y:Int}(hy:0<y)(hx:x≠0):
  (Rat.divInt x y).num.natAbs=x.natAbs / Nat.gcd x.natAbs y.natAbs∧(Rat.divInt x y).den=y.natAbs / Nat.gcd x.natAbs y.natAbs∧decide ((Rat.divInt x y).num<0)=decide (x<0):=by
 have hg:0<Nat.gcd x.natAbs y.natAbs:=Nat.gcd_pos_of_pos_right _ (by omega)
 have hs:y.sign=1:=Int.sign_eq_one_of_pos hy
 have hc:(y.gcd x:Int)=(Nat.gcd x.natAbs y.natAbs:Nat):=by rw[Int.gcd_comm];rfl
 have hdx:((Nat.gcd x.natAbs y.natAbs:Nat):Int) ∣ x:=by
  rw[←Int.natAbs_dvd_natAbs];exact Nat.gcd_dvd_left _ _
 have h1:(Rat.divInt x y).num=x / ((Nat.gcd x.natAbs y.natAbs:Nat):Int):=by
  rw[Rat.num_divInt,hs,Int.one_mul,hc]
 have hgi:0<((Nat.gcd x.natAbs y.natAbs:Nat):Int):=by omega
 refine⟨?_,?_,?_⟩
 ·rw[h1,Int.natAbs_ediv_of_dvd hdx];rfl
 ·rw[Rat.den_divInt,if_neg (by omega)]
  have:y.gcd x=Nat.gcd x.natAbs y.natAbs:=by rw[Int.gcd_comm];rfl
  rw[this]
 ·rw[h1]
  obtain⟨k,hk⟩:=hdx
  refine decide_eq_decide.2 ?_
  have:x / ((Nat.gcd x.natAbs y.natAbs:Nat):Int)=k:=by
   conv=>lhs;lhs;rw[hk]
   exact Int.mul_ediv_cancel_left _ (by omega)
  rw[this]
  generalize ((Nat.gcd x.natAbs y.natAbs:Nat):Int)=g at*
  subst hk
  constructor
  ·intro h;exact Int.mul_neg_of_pos_of_neg hgi h
  ·intro h
   have h0:¬0≤k:=fun hh=>by have:=Int.mul_nonneg (show 0≤g by omega) hh;omega
   omega
theorem ln_div_le{a b:Nat}:ln (a / b)≤ln a:=ln_mono (Nat.div_le_self a b)
theorem rat_zero(y:Int):Rat.divInt 0 y=0:=Rat.zero_divInt y
end Go.Ex
