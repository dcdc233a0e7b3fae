/- A part of the proof: texts X46 to L10. Each tells its conditions in its theorems. -/
import Derived.Test.YtkdcaknoaeicdaaGreatP5
/- The reference's columns: carried, packed. No condition but sizes. -/
namespace Go.Ex
open Go Go.Sx Go.Proofs

theorem tmod_unit(n:Int):(n.tmod 65536<0→n % 65536=n.tmod 65536+65536)∧(¬n.tmod 65536<0→n % 65536=n.tmod 65536)∧ -65536<n.tmod 65536∧n.tmod 65536<65536:=by
 by_cases h:0≤n
 ·rw[Int.tmod_eq_emod_of_nonneg h]
  omega
 ·have h1:n.tmod 65536= -((-n) % 65536):=by
   have:n= -(-n):=by omega
   conv=>lhs;rw[this]
   rw[Int.neg_tmod,Int.tmod_eq_emod_of_nonneg (by omega)]
  rw[h1]
  omega
theorem tdiv_unit(n:Int):(n-n % 65536).tdiv 65536=n / 65536:=by
 have h:n-n % 65536=65536*(n / 65536):=by omega
 rw[h,Int.mul_tdiv_cancel_left _ (by decide)]

theorem carried_c{S:Nat→Prop}{w:World}{v:Value}{cs:List Int}(hS:Old S w)(h:ColsR w S v cs)(hb:∀c∈cs,-1152921504606846976≤c∧c≤1152921504606846976)(hl:cs.length≤1000000000):
  Con PG N.ref01_carried #[v] w (Ret w fun v' w2=>∃o,v'= .tuple #[o,.int .i64 (carryTo cs 0).2]∧w2.ownsRow w.heap.size T.int 1 o cs.length ((dcols (carryTo cs 0).1).map (Value.int .i64))):=by
 obtain⟨a,c,rfl,hc⟩:=h.shape
 refine in_ref01_carried (by simp) ?_
 conv=>whnf
 refine⟨Nat×World,fun z=>⟨[(0,.o (.v (.slice a cs.length c))),(4,.o (.w 0 z.1)),(5,.o (.v (.int .i64 (carryTo (cs.take z.1) 0).2))),(6,.o (.v (.int .i64 z.1)))],[(0,.vec T.int 1 ((dcols (carryTo (cs.take z.1) 0).1).map (Value.int .i64)))],1,[],z.2⟩,fun z=>cs.length-z.1,
  fun z=>Bel w.heap.size w z.2∧z.1≤cs.length,?_,?_⟩
 ·intro ρ w' r
  exact⟨(0,w'),⟨r.bel,by simp⟩,Sub.nil 4 T.int 1 rfl (by simp[ScE,SV.sc,At.sc,initE]) r fun ρ1 r1=>
   Sub.gen [] r1 ⟨rfl,trivial⟩ ⟨rfl,rfl,rfl,rfl,trivial⟩ (by simp[ScH,Blk.scopd]) (by simp[ScE,SV.sc,At.sc]) (by rfl) (by simp)⟩
 rintro⟨i,w1⟩ ⟨hw,hi⟩
 dsimp only at hw hi ⊢
 obtain⟨-,hdg,hlen⟩:=carryTo_spec (cs.take i) 0
 have hln:((dcols (carryTo (cs.take i) 0).1).map (Value.int .i64)).length=i:=by rw[List.length_map,dcols_length,hlen,List.length_take];omega
 obtain⟨hk1,hk2⟩:=carryTo_small (cs.take i) 0 (fun c hc=>hb c (List.mem_of_mem_take hc)) (by decide) (by decide)
 have hR:ColsR w1 S (.slice a cs.length c) cs:=ColsR.keep h fun g hg=>hw.block g (hS g hg)
 conv=>whnf
 refine BrS.mk (fun h=>?_) (fun h=>?_)
 ·have h:i<cs.length:=by simpa using h
  obtain⟨x,hx⟩:∃x,cs[i]? =some x:=⟨_,List.getElem?_eq_getElem h⟩
  obtain⟨hx1,hx2⟩:=hb x (List.mem_of_getElem? hx)
  obtain⟨ad,rfl,q1,q2⟩:=hR.load hx
  have htk:cs.take (i+1)=cs.take i++[x]:=by rw[List.take_add_one,hx];rfl
  have hsn:=carryTo_snoc (cs.take i) x 0
  rw[←htk]at hsn
  generalize (carryTo (cs.take i) 0).1=ds at*
  generalize (carryTo (cs.take i) 0).2=k at*
  obtain⟨t1,t2,t3,t4⟩:=tmod_unit (x+k)
  have hem1:=Int.emod_nonneg (x+k) (show (65536:Int)≠0 by decide)
  have hem2:=Int.emod_lt_of_pos (x+k) (show (0:Int)<65536 by decide)
  conv=>whnf
  refine⟨ad,rfl,⟨by omega,by omega⟩,?_⟩
  conv=>whnf
  refine⟨.int .i64 x,fun ρ w' r=>?_,?_⟩
  ·rw[Int.toNat_natCast,cell_of_heap (w:=w1) (w2:=w') (by rw[addB];exact Rel.same (S:=S) r hS (.inl q1))]
   exact q2
  conv=>whnf
  refine⟨x+k,by rw[wrap64]<;>omega,?_⟩
  conv=>whnf
  refine⟨by decide,(x+k).tmod 65536,rfl,?_⟩
  conv=>whnf
  refine BrS.mk (fun hneg=>?_) (fun hneg=>?_)
  ·have hneg:=t1 (of_decide_eq_true hneg)
   conv=>whnf
   refine⟨(x+k) % 65536,by rw[hneg,wrap64]<;>omega,?_⟩
   conv=>whnf
   refine⟨x+k-(x+k) % 65536,by rw[wrap64]<;>omega,?_⟩
   conv=>whnf
   refine⟨by decide,(x+k) / 65536,by rw[tdiv_unit,wrap64]<;>omega,?_⟩
   conv=>whnf
   refine .inl ?_
   conv=>whnf
   refine⟨by rw[hln,Nat.mul_one],by omega,by unfold maxLen;omega,?_⟩
   conv=>whnf
   refine⟨((i+1:Nat):Int),by rw[wrap64]<;>omega,?_⟩
   conv=>whnf
   intro ρ3 w3 r3
   have hm5:(dcols (carryTo (cs.take (i+1)) 0).1).map (Value.int .i64)=(dcols ds).map (Value.int .i64)++[.int .i64 ((x+k) % 65536)]:=by
    rw[hsn];simp[dcols,Int.toNat_of_nonneg hem1]
   have hk5:(carryTo (cs.take (i+1)) 0).2=(x+k) / 65536:=by rw[hsn]
   exact⟨(i+1,w3),⟨hw.tr r3.bel,by dsimp only;omega⟩,Sub.gen [(0,2)] r3 ⟨by dsimp only;rw[hm5];rfl,trivial⟩ ⟨rfl,rfl,by dsimp only;rw[hk5];rfl,rfl,trivial⟩ (by simp[ScH,Blk.scopd]) (by simp[ScE,SV.sc,At.sc]) (by rfl) (fun lo hi h=>h),by dsimp only;omega⟩
  ·have hneg:=t2 (of_decide_eq_false hneg)
   rw[←hneg]
   conv=>whnf
   refine⟨x+k-(x+k) % 65536,by rw[wrap64]<;>omega,?_⟩
   conv=>whnf
   refine⟨by decide,(x+k) / 65536,by rw[tdiv_unit,wrap64]<;>omega,?_⟩
   conv=>whnf
   refine .inl ?_
   conv=>whnf
   refine⟨by rw[hln,Nat.mul_one],by omega,by unfold maxLen;omega,?_⟩
   conv=>whnf
   refine⟨((i+1:Nat):Int),by rw[wrap64]<;>omega,?_⟩
   conv=>whnf
   intro ρ3 w3 r3
   have hm5:(dcols (carryTo (cs.take (i+1)) 0).1).map (Value.int .i64)=(dcols ds).map (Value.int .i64)++[.int .i64 ((x+k) % 65536)]:=by
    rw[hsn];simp[dcols,Int.toNat_of_nonneg hem1]
   have hk5:(carryTo (cs.take (i+1)) 0).2=(x+k) / 65536:=by rw[hsn]
   exact⟨(i+1,w3),⟨hw.tr r3.bel,by dsimp only;omega⟩,Sub.gen [(0,2)] r3 ⟨by dsimp only;rw[hm5];rfl,trivial⟩ ⟨rfl,rfl,by dsimp only;rw[hk5];rfl,rfl,trivial⟩ (by simp[ScH,Blk.scopd]) (by simp[ScE,SV.sc,At.sc]) (by rfl) (fun lo hi h=>h),by dsimp only;omega⟩
 ·have h:i=cs.length:=by
   have:¬i<cs.length:=by simpa using h
   omega
  subst h
  rw[List.take_length]at hln ⊢
  conv=>whnf
  intro ρe we re
  exact⟨_,rfl,hw.tr re.bel,_,rfl,re.vecRow (id:=0) rfl (by rw[hln,Nat.mul_one]) (by decide)⟩

end Go.Ex
namespace Go.Sx
open Go Go.Ex Go.Proofs
/-- the beginning of a growing list of one's own, as limbs -/
theorem Rel.vecPre{H:Hp}{nx:Nat}{iv:Iv}{B:Nat}{w w':World}{ρ:Nat→Sx.Val}(r:Rel H nx iv B w ρ w'){id t m:Nat}{ls:List Nat}(h:getH H id=some (.vec t 1 (U ls)))(hm:m≤ls.length)(hlm:Lm ls)(hle:ls.length≤9223372036854775807):
  Limbs w' (fun g=>B≤g∧g<w'.heap.size) ((At.w id m).den ρ) (ls.take m):=by
 have hlt:(ls.take m).length=m:=by rw[List.length_take];omega
 rcases r.vec id t 1 _ h with⟨hn,hu⟩|⟨hn,spare,hb,hc,hcap⟩
 ·have hl:ls=[]:=by cases ls with
   |nil=>rfl
   |cons a b=>simp[U]at hu
  subst hl
  simp at hm
  subst hm
  have:(At.w id 0).den ρ= .slice none 0 0:=by simp[At.den,hn]
  rw[this]
  exact Limbs.nil _ _
 ·refine⟨hlm.take m,by rw[hlt];omega,some ⟨(ρ id).g,0,none⟩,(ρ id).cap,by rw[hlt];simp[At.den,hn],?_,fun j x hx=>⟨_,rfl,r.low id _ h hn,?_⟩⟩
  ·have h1:(U ls++spare).length=ls.length+spare.length:=by rw[List.length_append,U_len]
   rw[hlt]
   omega
  ·rw[List.getElem?_take]at hx
   split at hx
   ·rw[addr_add,cell_of hb,Nat.zero_add,List.getElem?_append_left (by rw[U_len];exact(List.getElem?_eq_some_iff.1 hx).1)]
    exact U_get hx
   ·cases hx
end Go.Sx
namespace Go.Ex
open Go Go.Sx Go.Proofs
theorem trimL_step{ls:List Nat}{n:Nat}(_hn:n<ls.length)(h0:ls[n]? =some 0):trimL (ls.take (n+1))=trimL (ls.take n):=by
 rw[List.take_add_one,h0]
 exact trimL_snoc_zero _
theorem trimL_stop{ls:List Nat}{n x:Nat}(h0:ls[n]? =some x)(hx:x≠0):trimL (ls.take (n+1))=ls.take (n+1):=by
 rw[List.take_add_one,h0]
 exact trimL_snoc _ hx
theorem packed_c{S:Nat→Prop}{w:World}{v:Value}{ds:List Nat}(hS:Old S w)(h:ColsR w S v (dcols ds))(hd:Dg ds)(hl:ds.length≤1000000000):
  Con PG N.ref01_packed #[v] w (Ret w fun v' w2=>∃lv,v'= .agg #[.bool false,lv]∧Limbs w2 (Nw (fun _=>False) w w2) lv (trimL (packN ds))):=by
 obtain⟨a,c,rfl,hc⟩:=h.shape
 rw[dcols_length]at hc h ⊢
 refine in_ref01_packed (by simp) ?_
 conv=>whnf
 refine⟨Nat×World,fun z=>match z.1 with
   |0=>⟨[(0,.o (.v (.slice a ds.length c))),(2,.o (.p 0 0)),(3,.o (.p 1 0)),(4,.o (.v (.int .i64 0)))],[(1,.box T.Int [.v (.bool false),.v (.slice none 0 0)]),(0,.box T.Int [.v (.bool false),.v (.slice none 0 0)])],2,[],z.2⟩
   |k+1=>⟨[(0,.o (.v (.slice a ds.length c))),(2,.o (.p 0 0)),(3,.o (.p 1 0)),(4,.o (.v (.int .i64 ((2*(k+1):Nat):Int))))],[(2,.vec T.uint32 1 (U (pk ds (k+1)))),(1,.box T.Int [.v (.bool false),.w 2 (k+1)]),(0,.box T.Int [.v (.bool false),.v (.slice none 0 0)])],3,[],z.2⟩,
  fun z=>ds.length-z.1,fun z=>Bel w.heap.size w z.2∧2*z.1≤ds.length+1,?_,?_⟩
 ·intro ρ w' r
  exact⟨(0,w'),⟨r.bel,by simp⟩,Sub.gen [] r ⟨rfl,rfl,trivial⟩ ⟨rfl,rfl,rfl,rfl,trivial⟩ (by simp[ScH,Blk.scopd,At.sc]) (by simp[ScE,SV.sc,At.sc]) (by rfl) (by simp)⟩
 rintro⟨k,w1⟩ ⟨hw,hi⟩
 dsimp only at hw hi
 have hR:ColsR w1 S (.slice a ds.length c) (dcols ds):=ColsR.keep h fun g hg=>hw.block g (hS g hg)
 cases k with
 |zero=>
  conv=>whnf
  refine BrS.mk (fun h1=>?_) (fun h1=>?_)
  ·have h1:0<ds.length:=by
    have:=of_decide_eq_true h1
    omega
   obtain⟨d0,hd0⟩:∃x,ds[0]? =some x:=⟨_,List.getElem?_eq_getElem h1⟩
   have hd0b:=hd d0 (List.mem_of_getElem? hd0)
   have hg0:ds.getD (2*0) 0=d0:=by show ds.getD 0 0=d0;rw[List.getD,hd0];rfl
   obtain⟨ad,rfl,q1,q2⟩:=hR.load (j:=0) (x:=(d0:Int)) (by rw[dcols,List.getElem?_map,hd0];rfl)
   conv=>whnf
   refine⟨ad,rfl,⟨by omega,by omega⟩,?_⟩
   conv=>whnf
   refine⟨.int .i64 (d0:Int),fun ρ w' r=>?_,?_⟩
   ·show w'.cell? (ad.add (0*1))=_
    rw[cell_of_heap (w:=w1) (w2:=w') (by rw[addB];exact Rel.same (S:=S) r hS (.inl q1))]
    exact q2
   conv=>whnf
   refine⟨((0+1:Nat):Int),by rw[wrap64]<;>omega,?_⟩
   conv=>whnf
   refine BrS.mk (fun h2=>?_) (fun h2=>?_)
   ·have h2:0+1<ds.length:=by
     have:=of_decide_eq_true h2
     omega
    obtain⟨d1,hd1⟩:∃x,ds[0+1]? =some x:=⟨_,List.getElem?_eq_getElem h2⟩
    have hd1b:=hd d1 (List.mem_of_getElem? hd1)
    have hg1:ds.getD (2*0+1) 0=d1:=by show ds.getD (0+1) 0=d1;rw[List.getD,hd1];rfl
    obtain⟨_,had,q3,q4⟩:=hR.load (j:=0+1) (x:=(d1:Int)) (by rw[dcols,List.getElem?_map,hd1];rfl)
    injection had with had
    subst had
    conv=>whnf
    refine⟨((0+1:Nat):Int),by rw[wrap64]<;>omega,?_⟩
    conv=>whnf
    refine⟨ad,rfl,⟨by omega,by omega⟩,?_⟩
    conv=>whnf
    refine⟨.int .i64 (d1:Int),fun ρ w' r=>?_,?_⟩
    ·show w'.cell? (ad.add ((0+1)*1))=_
     rw[cell_of_heap (w:=w1) (w2:=w') (by rw[addB];exact Rel.same (S:=S) r hS (.inl q3))]
     exact q4
    conv=>whnf
    refine⟨((65536*d1:Nat):Int),by rw[wrap64]<;>omega,?_⟩
    conv=>whnf
    refine⟨((d0+65536*d1:Nat):Int),by rw[wrap64]<;>omega,?_⟩
    have hpk:=pk_succ ds 0
    rw[hg0,hg1]at hpk
    generalize d0+65536*d1=dd at*
    have hdd:dd<4294967296:=pk_lm hd (0+1) dd (by rw[hpk];simp)
    conv=>whnf
    refine⟨(dd:Int),by rw[wrapU32]<;>omega,?_⟩
    conv=>whnf
    refine .inl ?_
    conv=>whnf
    refine⟨by omega,by unfold maxLen;omega,?_⟩
    conv=>whnf
    refine⟨((2*(0+1):Nat):Int),by rw[wrap64]<;>omega,?_⟩
    conv=>whnf
    intro ρ3 w3 r3
    have hU:U (pk ds (0+1))=U (pk ds 0)++[.int .u32 (dd:Int)]:=by rw[hpk];simp[U]
    exact⟨(0+1,w3),⟨hw.tr r3.bel,by dsimp only;omega⟩,Sub.gen [(2,3)] r3 ⟨by dsimp only;rw[hU];rfl,rfl,rfl,trivial⟩ ⟨rfl,rfl,rfl,rfl,trivial⟩ (by simp[ScH,Blk.scopd,At.sc]) (by simp[ScE,SV.sc,At.sc]) (by rfl) (fun lo hi h=>h),by dsimp only;omega⟩
   ·have h2:0+1=ds.length:=by
     have:=of_decide_eq_false h2
     omega
    have hg1:ds.getD (2*0+1) 0=0:=by show ds.getD (0+1) 0=0;rw[List.getD,List.getElem?_eq_none (by omega)];rfl
    have hpk:=pk_succ ds 0
    rw[hg0,hg1]at hpk
    obtain⟨dd,hdde⟩:∃dd,dd=d0:=⟨_,rfl⟩
    rw[←hdde]at hpk ⊢
    have hdd:dd<4294967296:=by omega
    rw[show dd+65536*0=dd by omega]at hpk
    conv=>whnf
    refine⟨(dd:Int),by rw[wrapU32]<;>omega,?_⟩
    conv=>whnf
    refine .inl ?_
    conv=>whnf
    refine⟨by omega,by unfold maxLen;omega,?_⟩
    conv=>whnf
    refine⟨((2*(0+1):Nat):Int),by rw[wrap64]<;>omega,?_⟩
    conv=>whnf
    intro ρ3 w3 r3
    have hU:U (pk ds (0+1))=U (pk ds 0)++[.int .u32 (dd:Int)]:=by rw[hpk];simp[U]
    exact⟨(0+1,w3),⟨hw.tr r3.bel,by dsimp only;omega⟩,Sub.gen [(2,3)] r3 ⟨by dsimp only;rw[hU];rfl,rfl,rfl,trivial⟩ ⟨rfl,rfl,rfl,rfl,trivial⟩ (by simp[ScH,Blk.scopd,At.sc]) (by simp[ScE,SV.sc,At.sc]) (by rfl) (fun lo hi h=>h),by dsimp only;omega⟩
  ·have h1:ds=[]:=by
    have:=of_decide_eq_false h1
    exact List.eq_nil_of_length_eq_zero (by omega)
   subst h1
   conv=>whnf
   refine⟨World,fun z=>⟨[(2,.o (.p 0 0)),(3,.o (.p 1 0)),(6,.o (.v (.int .i64 0)))],[(1,.box T.Int [.v (.bool false),.v (.slice none 0 0)]),(0,.box T.Int [.v (.bool false),.v (.slice none 0 0)])],2,[],z⟩,fun _=>0,fun z=>Bel w.heap.size w z,?_,?_⟩
   ·intro ρ w' r
    exact⟨w',hw.tr r.bel,Sub.gen [] r ⟨rfl,rfl,trivial⟩ ⟨rfl,rfl,rfl,trivial⟩ (by simp[ScH,Blk.scopd,At.sc]) (by simp[ScE,SV.sc,At.sc]) (by rfl) (by simp)⟩
   intro w2 hw
   dsimp only at hw ⊢
   conv=>whnf
   refine⟨⟨by decide,by decide,by decide⟩,none,0,0,by rfl,by rfl,by rfl,?_⟩
   conv=>whnf
   intro ρe we re
   exact⟨_,rfl,hw.tr re.bel,_,rfl,Limbs.nil _ _⟩
 |succ k=>
  conv=>whnf
  refine BrS.mk (fun h1=>?_) (fun h1=>?_)
  ·have h1:(2*(k+1))<ds.length:=by
    have:=of_decide_eq_true h1
    omega
   obtain⟨d0,hd0⟩:∃x,ds[(2*(k+1))]? =some x:=⟨_,List.getElem?_eq_getElem h1⟩
   have hd0b:=hd d0 (List.mem_of_getElem? hd0)
   have hg0:ds.getD (2*(k+1)) 0=d0:=by show ds.getD (2*(k+1)) 0=d0;rw[List.getD,hd0];rfl
   obtain⟨ad,rfl,q1,q2⟩:=hR.load (j:=(2*(k+1))) (x:=(d0:Int)) (by rw[dcols,List.getElem?_map,hd0];rfl)
   conv=>whnf
   refine⟨ad,rfl,⟨by omega,by omega⟩,?_⟩
   conv=>whnf
   refine⟨.int .i64 (d0:Int),fun ρ w' r=>?_,?_⟩
   ·show w'.cell? (ad.add ((2*(k+1))*1))=_
    rw[cell_of_heap (w:=w1) (w2:=w') (by rw[addB];exact Rel.same (S:=S) r hS (.inl q1))]
    exact q2
   conv=>whnf
   refine⟨(((2*(k+1))+1:Nat):Int),by rw[wrap64]<;>omega,?_⟩
   conv=>whnf
   refine BrS.mk (fun h2=>?_) (fun h2=>?_)
   ·have h2:(2*(k+1))+1<ds.length:=by
     have:=of_decide_eq_true h2
     omega
    obtain⟨d1,hd1⟩:∃x,ds[(2*(k+1))+1]? =some x:=⟨_,List.getElem?_eq_getElem h2⟩
    have hd1b:=hd d1 (List.mem_of_getElem? hd1)
    have hg1:ds.getD (2*(k+1)+1) 0=d1:=by show ds.getD ((2*(k+1))+1) 0=d1;rw[List.getD,hd1];rfl
    obtain⟨_,had,q3,q4⟩:=hR.load (j:=(2*(k+1))+1) (x:=(d1:Int)) (by rw[dcols,List.getElem?_map,hd1];rfl)
    injection had with had
    subst had
    conv=>whnf
    refine⟨(((2*(k+1))+1:Nat):Int),by rw[wrap64]<;>omega,?_⟩
    conv=>whnf
    refine⟨ad,rfl,⟨by omega,by omega⟩,?_⟩
    conv=>whnf
    refine⟨.int .i64 (d1:Int),fun ρ w' r=>?_,?_⟩
    ·show w'.cell? (ad.add (((2*(k+1))+1)*1))=_
     rw[cell_of_heap (w:=w1) (w2:=w') (by rw[addB];exact Rel.same (S:=S) r hS (.inl q3))]
     exact q4
    conv=>whnf
    refine⟨((65536*d1:Nat):Int),by rw[wrap64]<;>omega,?_⟩
    conv=>whnf
    refine⟨((d0+65536*d1:Nat):Int),by rw[wrap64]<;>omega,?_⟩
    have hpk:=pk_succ ds (k+1)
    rw[hg0,hg1]at hpk
    generalize d0+65536*d1=dd at*
    have hdd:dd<4294967296:=pk_lm hd ((k+1)+1) dd (by rw[hpk];simp)
    conv=>whnf
    refine⟨(dd:Int),by rw[wrapU32]<;>omega,?_⟩
    conv=>whnf
    refine .inl ?_
    conv=>whnf
    refine⟨by rw[U_len,pk_length];omega,by omega,by unfold maxLen;omega,?_⟩
    conv=>whnf
    refine⟨((2*((k+1)+1):Nat):Int),by rw[wrap64]<;>omega,?_⟩
    conv=>whnf
    intro ρ3 w3 r3
    have hU:U (pk ds ((k+1)+1))=U (pk ds (k+1))++[.int .u32 (dd:Int)]:=by rw[hpk];simp[U]
    exact⟨((k+1)+1,w3),⟨hw.tr r3.bel,by dsimp only;omega⟩,Sub.gen [(2,4)] r3 ⟨by dsimp only;rw[hU];rfl,rfl,rfl,trivial⟩ ⟨rfl,rfl,rfl,rfl,trivial⟩ (by simp[ScH,Blk.scopd,At.sc]) (by simp[ScE,SV.sc,At.sc]) (by rfl) (fun lo hi h=>h),by dsimp only;omega⟩
   ·have h2:(2*(k+1))+1=ds.length:=by
     have:=of_decide_eq_false h2
     omega
    have hg1:ds.getD (2*(k+1)+1) 0=0:=by show ds.getD ((2*(k+1))+1) 0=0;rw[List.getD,List.getElem?_eq_none (by omega)];rfl
    have hpk:=pk_succ ds (k+1)
    rw[hg0,hg1]at hpk
    obtain⟨dd,hdde⟩:∃dd,dd=d0:=⟨_,rfl⟩
    rw[←hdde]at hpk ⊢
    have hdd:dd<4294967296:=by omega
    rw[show dd+65536*0=dd by omega]at hpk
    conv=>whnf
    refine⟨(dd:Int),by rw[wrapU32]<;>omega,?_⟩
    conv=>whnf
    refine .inl ?_
    conv=>whnf
    refine⟨by rw[U_len,pk_length];omega,by omega,by unfold maxLen;omega,?_⟩
    conv=>whnf
    refine⟨((2*((k+1)+1):Nat):Int),by rw[wrap64]<;>omega,?_⟩
    conv=>whnf
    intro ρ3 w3 r3
    have hU:U (pk ds ((k+1)+1))=U (pk ds (k+1))++[.int .u32 (dd:Int)]:=by rw[hpk];simp[U]
    exact⟨((k+1)+1,w3),⟨hw.tr r3.bel,by dsimp only;omega⟩,Sub.gen [(2,4)] r3 ⟨by dsimp only;rw[hU];rfl,rfl,rfl,trivial⟩ ⟨rfl,rfl,rfl,rfl,trivial⟩ (by simp[ScH,Blk.scopd,At.sc]) (by simp[ScE,SV.sc,At.sc]) (by rfl) (fun lo hi h=>h),by dsimp only;omega⟩
  ·have h1:ds.length≤2*(k+1):=by
    have:=of_decide_eq_false h1
    omega
   have hk:k+1=(ds.length+1) / 2:=by omega
   have hpk:pk ds (k+1)=packN ds:=by rw[hk];exact pk_all ds
   have hlen:=pk_length ds (k+1)
   have hlm:=pk_lm hd (k+1)
   rw[←hpk]
   obtain⟨ls,hls⟩:∃ls,ls=pk ds (k+1):=⟨_,rfl⟩
   rw[←hls]at hlen hlm ⊢
   conv=>whnf
   refine⟨by show(U (pk ds (k+1))).length=_;rw[←hls,U_len,hlen];simp,?_⟩
   conv=>whnf
   refine⟨Nat×World,fun z=>⟨[(2,.o (.p 0 0)),(3,.o (.p 1 0)),(6,.o (.v (.int .i64 z.1)))],[(2,.vec T.uint32 1 (U ls)),(1,.box T.Int [.v (.bool false),.w 2 (k+1)]),(0,.box T.Int [.v (.bool false),.v (.slice none 0 0)])],3,[],z.2⟩,fun z=>z.1,
    fun z=>Bel w.heap.size w z.2∧z.1≤k+1∧trimL (ls.take z.1)=trimL ls,?_,?_⟩
   ·intro ρ w' r
    exact⟨(k+1,w'),⟨hw.tr r.bel,Nat.le_refl _,by dsimp only;rw[List.take_of_length_le (by omega)]⟩,Sub.gen [] r ⟨by dsimp only;rw[hls];rfl,rfl,rfl,trivial⟩ ⟨rfl,rfl,rfl,trivial⟩ (by simp[ScH,Blk.scopd,At.sc]) (by simp[ScE,SV.sc,At.sc]) (by rfl) (by simp)⟩
   clear hR hw
   rintro⟨n,w2⟩ ⟨hw,hn,htr⟩
   dsimp only at hw hn htr ⊢
   cases n with
   |zero=>
    conv=>whnf
    refine⟨by rw[U_len,hlen];simp,⟨by omega,by omega⟩,0,by rfl,?_⟩
    conv=>whnf
    intro ρe we re
    refine⟨_,rfl,hw.tr re.bel,_,rfl,?_⟩
    have:=re.vecPre (id:=2) (m:=0) rfl (Nat.zero_le _) hlm (by omega)
    rw[←htr]
    exact this.weak fun g hg=>.inr hg
   |succ n=>
    obtain⟨x,hx⟩:∃x,ls[n]? =some x:=⟨_,List.getElem?_eq_getElem (by omega)⟩
    conv=>whnf
    refine BrS.mk (fun hp=>?_) (fun hp=>absurd (of_decide_eq_false hp) (by omega))
    conv=>whnf
    refine⟨(n:Int),by rw[wrap64]<;>omega,?_⟩
    conv=>whnf
    refine⟨by rw[U_len,hlen];simp,⟨by omega,by omega⟩,?_⟩
    conv=>whnf
    refine⟨.int .u32 (x:Int),by simpa using U_get hx,?_⟩
    conv=>whnf
    refine BrS.mk (fun h0=>?_) (fun h0=>?_)
    ·have h0:x=0:=by have:=eq_of_beq h0;omega
     subst h0
     conv=>whnf
     refine⟨(n:Int),by rw[wrap64]<;>omega,?_⟩
     conv=>whnf
     intro ρ3 w3 r3
     exact⟨(n,w3),⟨hw.tr r3.bel,by dsimp only;omega,by dsimp only;rw[←htr,trimL_step (by omega) hx]⟩,Sub.gen [] r3 ⟨rfl,rfl,rfl,trivial⟩ ⟨rfl,rfl,rfl,trivial⟩ (by simp[ScH,Blk.scopd,At.sc]) (by simp[ScE,SV.sc,At.sc]) (by rfl) (by simp),by dsimp only;omega⟩
    ·have h0:x≠0:=fun e=>by rw[e]at h0;exact absurd h0 (by decide)
     conv=>whnf
     refine⟨by rw[U_len,hlen];simp,⟨by omega,by omega⟩,n+1,by rfl,?_⟩
     conv=>whnf
     intro ρe we re
     refine⟨_,rfl,hw.tr re.bel,_,rfl,?_⟩
     have:=re.vecPre (id:=2) (m:=n+1) rfl (by omega) hlm (by omega)
     rw[←htr,trimL_stop hx h0]
     exact this.weak fun g hg=>.inr hg
end Go.Ex

/- The reference's integers: settled, Of. Printed by program. No condition but sizes. -/
namespace Go.Ex
open Go Go.Sx Go.Proofs

theorem rowIv_after2{H:Hp}{nx:Nat}{iv:Iv}{B:Nat}{w w' w2:World}{ρ:Nat→Sx.Val}{v v':Value}(hc:Cvr iv v)(r:Rel H nx iv B w ρ w')(hob:∀g,v'.ownBlock=some g→g<w2.heap.size∧(v.ownBlock=some g∨g=w'.heap.size)):
  ∀lo hi,(lo,hi)∈rowIv v'→hi≤w2.heap.size∧∀id b,getH H id=some b→(ρ id).nil=false→¬(lo≤(ρ id).g∧(ρ id).g<hi):=fun lo hi hm=>by
 obtain⟨hg,rfl⟩:=rowIv_mem.1 hm
 obtain⟨h1,h2⟩:=hob _ hg
 refine⟨by omega,fun id c hc' hn he=>?_⟩
 rcases h2 with h2|h2
 ·exact hc.not r h2 id c hc' hn (by omega)
 ·have:=(r.low id c hc' hn).2;omega
theorem Limbs.out{S:Nat→Prop}{H:Hp}{nx:Nat}{iv:Iv}{w w1 w':World}{ρ:Nat→Sx.Val}{v:Value}{ls:List Nat}(h:Limbs w1 (Cv S w.heap.size iv) v ls)(r:Rel H nx iv w.heap.size w1 ρ w')(hS:Old S w):Limbs w' (Nw S w w') v ls:=
 (Limbs.rel h r hS).weak fun _ hg=>Cv.nw hg r
theorem rowBase{w:World}{B B' e sz m:Nat}{v:Value}{xs:List Value}(h:w.ownsRow B e sz v m xs)(hb:B'≤B):w.ownsRow B' e sz v m xs:=⟨h.1,h.2.imp id fun⟨g,cap,cur,k1,k2,k3⟩=>⟨g,cap,cur,k1,by omega,k3⟩⟩
theorem dcols_append(a b:List Nat):dcols (a++b)=dcols a++dcols b:=by simp[dcols]
theorem rowCols{w:World}{B m:Nat}{v:Value}{cs:List Int}(h:w.ownsRow B T.int 1 v m (cs.map (Value.int .i64)))(hm:m=cs.length)(hl:m≤maxLen):ColsR w (fun g=>v.ownBlock=some g) v cs:=by
 subst hm
 rcases h.2 with⟨rfl,h0⟩|⟨g,cap,cur,rfl,hb,hc,hmc,hcap,hsz,htake⟩
 ·have:cs=[]:=List.eq_nil_of_length_eq_zero h0
  subst this
  exact⟨by simp[maxLen],by simp,by simp,none,0,rfl,Nat.le_refl _,by simp⟩
 ·refine⟨hl,h.1,fun u hu=>by simp at hu;obtain⟨_,_,rfl⟩:=hu;rfl,_,cap,rfl,hmc,fun j u hu=>⟨_,rfl,rfl,?_⟩⟩
  exact h.cells (g:=g) rfl j u hu
theorem Dg.append{a b:List Nat}(ha:Dg a)(hb:Dg b):Dg (a++b):=fun x hx=>(List.mem_append.1 hx).elim (ha x) (hb x)
theorem dval_append(a b:List Nat):dval (a++b)=dval a+up a.length*dval b:=by
 unfold dval
 rw[List.map_append,colval_append,List.length_map]
/-- what packed makes of settled columns -/
theorem packed_val{ds:List Nat}(hd:Dg ds):Nz (trimL (packN ds))∧(val (trimL (packN ds)):Int)=dval ds:=by
 obtain⟨h1,h2,_⟩:=packN_spec ds hd
 obtain⟨k1,k2,_⟩:=trimL_spec (packN ds)
 exact⟨k2,by rw[k1,h1]⟩

theorem settled_c{S:Nat→Prop}{w:World}{v:Value}{cs:List Int}(hS:Old S w)(h:ColsR w S v cs)(hb:∀c∈cs,-1152921504606846976≤c∧c≤1152921504606846976)(hl:cs.length≤100000000):
  Con PG N.ref01_settled #[v] w (Ret w fun v' w2=>IntC w2 (Nw (fun _=>False) w w2) v' (colval cs)):=by
 obtain⟨a,c,rfl,hc⟩:=h.shape
 obtain⟨hspec,hdg,hdl⟩:=carryTo_spec cs 0
 obtain⟨hk1,hk2⟩:=carryTo_small cs 0 hb (by decide) (by decide)
 rw[Int.add_zero]at hspec
 refine in_ref01_settled (by simp) ?_
 conv=>whnf
 refine callE_S (callE_con (Φ:=fun _ w' v' w2=>∃o,v'= .tuple #[o,.int .i64 (carryTo cs 0).2]∧w2.ownsRow w'.heap.size T.int 1 o cs.length ((dcols (carryTo cs 0).1).map (Value.int .i64))) (fun ρ w' r=>carried_c (fun g hg=>by have:=hS g hg;have:=r.baseLe;omega) (ColsR.keep h fun g hg=>Rel.same (S:=S) r hS (.inl hg)) hb (by omega)) ?_)
 rintro ρ wa v1 wb r he hw ⟨o,rfl,hrow⟩
 have hrowc:Cvr [(wa.heap.size,wb.heap.size)] o:=fun g hg=>⟨_,_,List.mem_singleton.2 rfl,(ownsRow.low hrow g hg).1,(ownsRow.low hrow g hg).2⟩
 replace hrow:=rowBase hrow r.baseLe
 clear r he
 generalize [(wa.heap.size,wb.heap.size)]=iv at*
 generalize hds:(carryTo cs 0).1=ds at*
 generalize hk:(carryTo cs 0).2=k at*
 obtain⟨ao,co,rfl,hco⟩:=row_form hrow
 conv=>whnf
 refine BrS.mk (fun hneg=>?_) (fun hneg=>?_)
 ·have hneg:=of_decide_eq_true hneg
  have hV:colval cs<0:=by
   have h1:=(dval_bound hdg).2
   rw[hdl]at h1
   have h2:=up_pos cs.length
   have h3:up cs.length*k≤up cs.length*(-1):=Int.mul_le_mul_of_nonneg_left (by omega) (by omega)
   omega
  obtain⟨hspec2,hdg2',hdl2⟩:=carryTo_spec (cs.map (- ·)) 0
  have hb2:∀c∈cs.map (- ·),-1152921504606846976≤c∧c≤1152921504606846976:=fun c hc=>by
   obtain⟨x,hx,rfl⟩:=List.mem_map.1 hc
   have:=hb x hx
   omega
  obtain⟨hk1',hk2'⟩:=carryTo_small (cs.map (- ·)) 0 hb2 (by decide) (by decide)
  rw[Int.add_zero,colval_neg,List.length_map]at hspec2
  rw[List.length_map]at hdl2
  have hk0:0≤(carryTo (cs.map (- ·)) 0).2:=by
   have h1:=(dval_bound hdg2').2
   rw[hdl2]at h1
   have h2:=up_pos cs.length
   apply Decidable.byContradiction
   intro h3
   have h4:up cs.length*(carryTo (cs.map (- ·)) 0).2≤up cs.length*(-1):=Int.mul_le_mul_of_nonneg_left (by omega) (by omega)
   omega
  conv=>whnf
  refine⟨Nat×World,fun z=>⟨[(0,.o (.v (.slice a cs.length c))),(2,.o (.p 0 0)),(3,.o (.v (.slice ao cs.length co))),(5,.o (.v (.int .i64 z.1)))],[(0,.box T.Int [.v (.bool false),.v (.slice none 0 0)])],1,iv,z.2⟩,fun z=>cs.length-z.1,
   fun z=>z.1≤cs.length∧Bel w.heap.size w z.2∧z.2.ownsRow w.heap.size T.int 1 (.slice ao cs.length co) cs.length (((cs.take z.1).map (- ·)++(dcols ds).drop z.1).map (Value.int .i64)),?_,?_⟩
  ·intro ρ w' r
   exact⟨(0,w'),⟨by simp,hw.tr r.bel,by simpa using rowKeep hrow hrowc r⟩,Sub.gen [] r ⟨rfl,trivial⟩ ⟨rfl,rfl,rfl,rfl,trivial⟩ (by simp[ScH,Blk.scopd,At.sc]) (by simp[ScE,SV.sc,At.sc]) (by rfl) (fun lo hi h=>h)⟩
  clear hw hrow
  rintro⟨i,w1⟩ ⟨hi,hw,hrow⟩
  dsimp only at hi hw hrow ⊢
  have hR:ColsR w1 S (.slice a cs.length c) cs:=ColsR.keep h fun g hg=>hw.block g (hS g hg)
  conv=>whnf
  refine BrS.mk (fun hib=>?_) (fun hib=>?_)
  ·have hib:i<cs.length:=by simpa using hib
   obtain⟨x,hx⟩:∃x,cs[i]? =some x:=⟨_,List.getElem?_eq_getElem hib⟩
   obtain⟨hx1,hx2⟩:=hb x (List.mem_of_getElem? hx)
   obtain⟨ad,rfl,q1,q2⟩:=hR.load hx
   obtain⟨go,hgo⟩:∃g,ao=some ⟨g,0,none⟩:=by
    rcases hrow.2 with⟨_,h0⟩|⟨g,cap,cur,e,_⟩
    ·omega
    ·injection e with e;exact⟨g,e⟩
   subst hgo
   conv=>whnf
   refine⟨ad,rfl,⟨by omega,by omega⟩,?_⟩
   conv=>whnf
   refine⟨.int .i64 x,fun ρ w' r=>?_,?_⟩
   ·rw[Int.toNat_natCast,cell_of_heap (w:=w1) (w2:=w') (by rw[addB];exact Rel.same (S:=S) r hS (.inl q1))]
    exact q2
   conv=>whnf
   refine⟨-x,by rw[wrap64]<;>omega,?_⟩
   conv=>whnf
   refine⟨⟨go,0,none⟩,rfl,⟨by omega,by omega⟩,?_⟩
   conv=>whnf
   intro ρ w' r
   have hrow3:=rowKeep hrow hrowc r
   obtain⟨g',hg',hok,hst,hgr,hsz⟩:=storeRow (nv:=[.int .i64 (-x)]) hrow3 rfl hib rfl (by decide)
   injection hg' with hg'
   injection hg' with hg'
   subst hg'
   rw[set_one (by rw[List.length_map,List.length_append,List.length_map,List.length_take,List.length_drop,dcols_length,hdl];omega)]at hst
   have had:(⟨go,0,none⟩:Addr).add ((i:Int).toNat*1)=⟨go,i*1,none⟩:=by rw[Int.toNat_natCast,addr_add,Nat.zero_add]
   have hnot:=fun id b hb hn=>hrowc.not r (b:=go) rfl id b hb hn
   have hgoB:=(ownsRow.low hrow go rfl).1
   have hw':Bel w.heap.size w (setCells w' ⟨go,i*1,none⟩ [.int .i64 (-x)]):=(hw.tr r.bel).tr (Bel.grown hgr (fun g hg=>by injection hg with hg;subst hg;exact hgoB) r.baseLe)
   have hlist:(((cs.take i).map (- ·)++(dcols ds).drop i).map (Value.int .i64)).set i (.int .i64 (-x))=((cs.take (i+1)).map (- ·)++(dcols ds).drop (i+1)).map (Value.int .i64):=by
    rw[←List.map_set]
    congr 1
    have hl1:((cs.take i).map (- ·)).length=i:=by rw[List.length_map,List.length_take];omega
    obtain⟨d,hd⟩:∃d,(dcols ds)[i]? =some d:=⟨_,List.getElem?_eq_getElem (by rw[dcols_length,hdl];exact hib)⟩
    have hd2:(dcols ds).drop i=d::(dcols ds).drop (i+1):=by
     rw[List.drop_eq_getElem_cons (by rw[dcols_length,hdl];exact hib)]
     congr 1
     have:=List.getElem?_eq_getElem (l:=dcols ds) (i:=i) (by rw[dcols_length,hdl];exact hib)
     rw[hd]at this
     injection this with this
     exact this.symm
    rw[List.take_add_one,hx,List.map_append,hd2,List.set_append_right _ _ (by omega),hl1,Nat.sub_self]
    simp
   clear r
   refine⟨by rw[had],fun j hj=>by rw[had];exact hok j hj,fun id b hb hn=>by rw[had];exact hnot id b hb hn,fun w2 hw2=>?_⟩
   have hw2:w2=setCells w' ⟨go,i*1,none⟩ [.int .i64 (-x)]:=by rw[hw2];exact congrArg (fun x=>setCells w' x _) had
   rw[←hw2]at hst hw'
   erw [hlist]at hst
   clear hw2 hok hnot hrow hrow3 hgr
   conv=>whnf
   refine⟨((i+1:Nat):Int),by rw[wrap64]<;>omega,?_⟩
   conv=>whnf
   intro ρ3 w3 r3
   exact⟨(i+1,w3),⟨hib,hw'.tr r3.bel,rowKeep hst hrowc r3⟩,Sub.gen [] r3 ⟨rfl,trivial⟩ ⟨rfl,rfl,rfl,rfl,trivial⟩ (by simp[ScH,Blk.scopd,At.sc]) (by simp[ScE,SV.sc,At.sc]) (by rfl) (fun lo hi h=>h),by dsimp only;omega⟩
  have hib:i=cs.length:=by
   have:¬i<cs.length:=by simpa using hib
   omega
  subst hib
  rw[List.take_length,List.drop_of_length_le (by rw[dcols_length,hdl];exact Nat.le_refl _),List.append_nil]at hrow
  conv=>whnf
  refine⟨⟨by omega,by omega,by omega⟩,ao,cs.length,co,add_none ao co,by omega,by omega,?_⟩
  conv=>whnf
  refine callE_S (callE_con (Φ:=fun _ w' v' w2=>∃o,v'= .tuple #[o,.int .i64 (carryTo (cs.map (- ·)) 0).2]∧w2.ownsRow w'.heap.size T.int 1 o cs.length ((dcols (carryTo (cs.map (- ·)) 0).1).map (Value.int .i64))) (fun ρ w' r=>?_) ?_)
  ·have h8:=rowKeep hrow hrowc r
   have h9:=rowCols h8 (by rw[List.length_map]) (by unfold maxLen;omega)
   have h10:=carried_c (fun g hg=>(ownsRow.low h8 g hg).2) h9 hb2 (by rw[List.length_map];omega)
   rw[List.length_map]at h10
   exact h10
  rintro ρ wc v1 wd r he hbb ⟨o2,rfl,hrow2⟩
  have hrow2c:Cvr ((wc.heap.size,wd.heap.size)::iv) o2:=fun g hg=>⟨_,_,List.mem_cons_self,(ownsRow.low hrow2 g hg).1,(ownsRow.low hrow2 g hg).2⟩
  replace hrow2:=rowBase hrow2 r.baseLe
  replace hw:=hw.tr hbb
  clear r he hbb hrow hrowc hR
  generalize (wc.heap.size,wd.heap.size)::iv=iv2 at*
  generalize hds2:(carryTo (cs.map (- ·)) 0).1=ds2 at*
  generalize hkk2:(carryTo (cs.map (- ·)) 0).2=k2 at*
  obtain⟨kn,rfl⟩:∃kn:Nat,k2=kn:=⟨k2.toNat,by omega⟩
  obtain⟨ao2,co2,rfl,hco2⟩:=row_form hrow2
  have ds2_len:ds2.length=cs.length:=hdl2
  have ds2_dg:Dg ds2:=hdg2'
  conv=>whnf
  refine callE_S (callE_con (Φ:=fun _ w' v w2=>ColsR w2 (Nw (fun _=>False) w' w2) v (dcols (spreadN kn))) (fun ρ w' r=>by exact spread_c kn w' (by omega)) ?_)
  rintro ρ ws vs wt r he hb hsp
  have hspN:ColsR wt (Cv (fun _=>False) w.heap.size ((ws.heap.size,wt.heap.size)::iv2)) vs (dcols (spreadN kn)):=ColsR.weak hsp fun g hg=>hg.got r.baseLe List.mem_cons_self
  replace hrow2:=ownsRow.keep (rowKeep hrow2 hrow2c r) fun g hg=>he.block g (by have:=(ownsRow.low (rowKeep hrow2 hrow2c r) g hg).2;exact this)
  replace hrow2c:Cvr ((ws.heap.size,wt.heap.size)::iv2) _:=hrow2c.mono fun p hp=>List.mem_cons_of_mem _ hp
  replace hw:=hw.tr hb
  clear r he hb hsp
  generalize (ws.heap.size,wt.heap.size)::iv2=ivs at*
  obtain⟨asp,csp,rfl,-⟩:=hspN.shape
  rw[dcols_length]at hspN ⊢
  have hsl:=spreadN_len (n:=kn) (k:=4) (by omega)
  have hsd:=(spreadN_spec kn).2
  conv=>whnf
  refine .inr (opS_append hτ (Nat.le_refl _) (xs:=(dcols ds2).map (Value.int .i64)) (news:=(dcols (spreadN kn)).map (Value.int .i64)) (m:=cs.length) (k:=(spreadN kn).length) (by rfl) (by rfl) (by decide) (by rfl) (by rfl) (fun ρ w' r=>⟨rowKeep hrow2 hrow2c r,fun g hg=>hrow2c.not r hg⟩) (by simp[dcols]) (by intro u hu;simp at hu;obtain⟨_,_,rfl⟩:=hu;rfl) (by unfold maxLen;omega) (by omega)
   (fun ρ w' r=>?_) (fun v' w2=>rowIv v') (fun ρ w' v' w2 r hsz hob=>rowIv_after2 hrow2c r hob) (fun ρ w' v' w2 r h5 h6 h7=>?_))
  ·obtain⟨_,_,_,a2,c2,e2,_,e3⟩:=hspN
   injection e2 with e4 e5 e6
   subst e4 e6
   cases asp with
   |none=>
    have h0:(spreadN kn).length=0:=by
     rcases Nat.eq_zero_or_pos (spreadN kn).length with h0|h0
     ·exact h0
     ·obtain⟨ad2,q1,_⟩:=e3 0 _ (List.getElem?_eq_getElem (show 0<((dcols (spreadN kn)).map (Value.int .i64)).length by simp[dcols];exact h0))
      cases q1
    exact .inl ⟨csp,by rw[h0];rfl,h0⟩
   |some ad3=>
    refine .inr ⟨ad3,csp,rfl,fun j u hu=>?_⟩
    obtain⟨ad2,q1,q2,q3⟩:=e3 j u hu
    injection q1 with q1
    subst q1
    rw[cell_of_heap (w:=wt) (w2:=w') (by rw[addB];exact Rel.same r (oldF w) q2)]
    exact q3
  replace hw:Bel w.heap.size w w2:=(hw.tr r.bel).tr (Bel.grown h6 (fun g hg=>by
   have:=(ownsRow.low hrow2 g hg).1;omega) r.baseLe)
  have hcat:(dcols ds2).map (Value.int .i64)++(dcols (spreadN kn)).map (Value.int .i64)=(dcols (ds2++spreadN kn)).map (Value.int .i64):=by rw[dcols_append,List.map_append]
  rw[hcat]at h5
  have hnl:cs.length+(spreadN kn).length=(dcols (ds2++spreadN kn)).length:=by rw[dcols_length,List.length_append,ds2_len]
  have hdg2:Dg (ds2++spreadN kn):=ds2_dg.append hsd
  have hl2:(ds2++spreadN kn).length≤1000000000:=by rw[List.length_append,ds2_len];omega
  obtain⟨a3,c3,rfl,-⟩:=row_form h5
  clear r hrow2 hrow2c hspN h6 h7
  conv=>whnf
  refine callE_S (callE_con (Φ:=fun _ w' v' w2=>∃lv,v'= .agg #[.bool false,lv]∧Limbs w2 (Nw (fun _=>False) w' w2) lv (trimL (packN (ds2++spreadN kn)))) (fun ρ w' r=>?_) ?_)
  ·have h8:=rowKeep h5 (Cvr.row _) r
   have h9:=rowCols h8 hnl (by unfold maxLen;omega)
   have h10:=packed_c (w:=w') (fun g hg=>(ownsRow.low h8 g hg).2) h9 hdg2 hl2
   exact h10
  rintro ρ wp v1 wq r he hb ⟨lv,rfl,hL⟩
  have hLN:=hL.got (S:=fun _=>False) r.baseLe (iv:=[(wp.heap.size,wq.heap.size)]) List.mem_cons_self
  have hLN:Limbs wq (Cv (fun _=>False) w.heap.size ((wp.heap.size,wq.heap.size)::rowIv (.slice a3 (cs.length+(spreadN kn).length) c3))) lv (trimL (packN (ds2++spreadN kn))):=hL.weak fun g hg=>hg.got r.baseLe List.mem_cons_self
  replace hw:=hw.tr hb
  clear r he hb hL h5
  generalize (wp.heap.size,wq.heap.size)::rowIv (.slice a3 (cs.length+(spreadN kn).length) c3)=ivq at*
  obtain⟨hnz,hvv⟩:=packed_val hdg2
  obtain⟨a4,n4,c4,rfl⟩:=hLN.shape

  have hcv: -colval cs=dval (ds2++spreadN kn):=by rw[hspec2,dval_append,(spreadN_spec kn).1,ds2_len]
  obtain⟨pp,hpe,hpp⟩:=hLN.la
  injection hpe with hpe1 hpe2 hpe3
  subst hpe1 hpe2 hpe3
  have hlenpos:0<pp.ls.length:=by
   rw[hpp]
   rcases Nat.eq_zero_or_pos (trimL (packN (ds2++spreadN kn))).length with h0|h0
   ·rw[List.eq_nil_of_length_eq_zero h0]at hvv
    simp[val]at hvv
    omega
   ·exact h0
  conv=>whnf
  intro ρe we re
  refine⟨_,rfl,hw.tr re.bel,trimL (packN (ds2++spreadN kn)),⟨_,?_,hLN.out re (oldF w)⟩,hnz,?_⟩
  ·rw[decide_eq_true hV]
   have:decide ((pp.ls.length:Int)>0)=true:=decide_eq_true (by omega)
   rw[←this]
   rfl
  ·have:((val (trimL (packN (ds2++spreadN kn))):Nat):Int)= -colval cs:=by rw[hvv,hcv]
   omega
 ·have hneg:=of_decide_eq_false hneg
  obtain⟨kn,rfl⟩:∃kn:Nat,k=kn:=⟨k.toNat,by omega⟩
  have ds_len:ds.length=cs.length:=hdl
  have ds_dg:Dg ds:=hdg
  conv=>whnf
  refine callE_S (callE_con (Φ:=fun _ w' v w2=>ColsR w2 (Nw (fun _=>False) w' w2) v (dcols (spreadN kn))) (fun ρ w' r=>by exact spread_c kn w' (by omega)) ?_)
  rintro ρ ws vs wt r he hb hsp
  have hspN:ColsR wt (Cv (fun _=>False) w.heap.size ((ws.heap.size,wt.heap.size)::iv)) vs (dcols (spreadN kn)):=ColsR.weak hsp fun g hg=>hg.got r.baseLe List.mem_cons_self
  replace hrow:=ownsRow.keep (rowKeep hrow hrowc r) fun g hg=>he.block g (by have:=(ownsRow.low (rowKeep hrow hrowc r) g hg).2;exact this)
  replace hrowc:Cvr ((ws.heap.size,wt.heap.size)::iv) _:=hrowc.mono fun p hp=>List.mem_cons_of_mem _ hp
  replace hw:=hw.tr hb
  clear r he hb hsp
  generalize (ws.heap.size,wt.heap.size)::iv=ivs at*
  obtain⟨asp,csp,rfl,-⟩:=hspN.shape
  rw[dcols_length]at hspN ⊢
  have hsl:=spreadN_len (n:=kn) (k:=4) (by omega)
  have hsd:=(spreadN_spec kn).2
  conv=>whnf
  refine .inr (opS_append hτ (Nat.le_refl _) (xs:=(dcols ds).map (Value.int .i64)) (news:=(dcols (spreadN kn)).map (Value.int .i64)) (m:=cs.length) (k:=(spreadN kn).length) (by rfl) (by rfl) (by decide) (by rfl) (by rfl) (fun ρ w' r=>⟨rowKeep hrow hrowc r,fun g hg=>hrowc.not r hg⟩) (by simp[dcols]) (by intro u hu;simp at hu;obtain⟨_,_,rfl⟩:=hu;rfl) (by unfold maxLen;omega) (by omega)
   (fun ρ w' r=>?_) (fun v' w2=>rowIv v') (fun ρ w' v' w2 r hsz hob=>rowIv_after2 hrowc r hob) (fun ρ w' v' w2 r h5 h6 h7=>?_))
  ·obtain⟨_,_,_,a2,c2,e2,_,e3⟩:=hspN
   injection e2 with e4 e5 e6
   subst e4 e6
   cases asp with
   |none=>
    have h0:(spreadN kn).length=0:=by
     rcases Nat.eq_zero_or_pos (spreadN kn).length with h0|h0
     ·exact h0
     ·obtain⟨ad2,q1,_⟩:=e3 0 _ (List.getElem?_eq_getElem (show 0<((dcols (spreadN kn)).map (Value.int .i64)).length by simp[dcols];exact h0))
      cases q1
    exact .inl ⟨csp,by rw[h0];rfl,h0⟩
   |some ad3=>
    refine .inr ⟨ad3,csp,rfl,fun j u hu=>?_⟩
    obtain⟨ad2,q1,q2,q3⟩:=e3 j u hu
    injection q1 with q1
    subst q1
    rw[cell_of_heap (w:=wt) (w2:=w') (by rw[addB];exact Rel.same r (oldF w) q2)]
    exact q3
  replace hw:Bel w.heap.size w w2:=(hw.tr r.bel).tr (Bel.grown h6 (fun g hg=>by
   have:=(ownsRow.low hrow g hg).1;omega) r.baseLe)
  have hcat:(dcols ds).map (Value.int .i64)++(dcols (spreadN kn)).map (Value.int .i64)=(dcols (ds++spreadN kn)).map (Value.int .i64):=by rw[dcols_append,List.map_append]
  rw[hcat]at h5
  have hnl:cs.length+(spreadN kn).length=(dcols (ds++spreadN kn)).length:=by rw[dcols_length,List.length_append,ds_len]
  have hdg2:Dg (ds++spreadN kn):=ds_dg.append hsd
  have hl2:(ds++spreadN kn).length≤1000000000:=by rw[List.length_append,ds_len];omega
  obtain⟨a3,c3,rfl,-⟩:=row_form h5
  clear r hrow hrowc hspN h6 h7
  conv=>whnf
  refine callE_S (callE_con (Φ:=fun _ w' v' w2=>∃lv,v'= .agg #[.bool false,lv]∧Limbs w2 (Nw (fun _=>False) w' w2) lv (trimL (packN (ds++spreadN kn)))) (fun ρ w' r=>?_) ?_)
  ·have h8:=rowKeep h5 (Cvr.row _) r
   have h9:=rowCols h8 hnl (by unfold maxLen;omega)
   have h10:=packed_c (w:=w') (fun g hg=>(ownsRow.low h8 g hg).2) h9 hdg2 hl2
   exact h10
  rintro ρ wp v1 wq r he hb ⟨lv,rfl,hL⟩
  have hLN:=hL.got (S:=fun _=>False) r.baseLe (iv:=[(wp.heap.size,wq.heap.size)]) List.mem_cons_self
  have hLN:Limbs wq (Cv (fun _=>False) w.heap.size ((wp.heap.size,wq.heap.size)::rowIv (.slice a3 (cs.length+(spreadN kn).length) c3))) lv (trimL (packN (ds++spreadN kn))):=hL.weak fun g hg=>hg.got r.baseLe List.mem_cons_self
  replace hw:=hw.tr hb
  clear r he hb hL h5
  generalize (wp.heap.size,wq.heap.size)::rowIv (.slice a3 (cs.length+(spreadN kn).length) c3)=ivq at*
  obtain⟨hnz,hvv⟩:=packed_val hdg2
  obtain⟨a4,n4,c4,rfl⟩:=hLN.shape

  conv=>whnf
  intro ρe we re
  have hcv:colval cs=dval (ds++spreadN kn):=by rw[hspec,dval_append,(spreadN_spec kn).1,ds_len]
  refine⟨_,rfl,hw.tr re.bel,trimL (packN (ds++spreadN kn)),⟨_,?_,hLN.out re (oldF w)⟩,hnz,?_⟩
  ·have:¬colval cs<0:=by rw[hcv,←hvv];omega
   rw[decide_eq_false this]
   rfl
  ·rw[hcv,←hvv];rfl
end Go.Ex

/- The reference's Of, short, lowest, Over and Whole (of small integers). No condition but sizes. -/
namespace Go.Ex
open Go Go.Sx Go.Proofs

theorem ofCols(n:Int):colval [n.tmod 65536,(n.tdiv 65536).tmod 65536,(n.tdiv 65536).tdiv 65536]=n:=by
 simp only[colval]
 have h1:=Int.mul_tdiv_add_tmod n 65536
 have h2:=Int.mul_tdiv_add_tmod (n.tdiv 65536) 65536
 omega
theorem rOf_c(n:Int)(w:World)(h1: -9223372036854775808≤n)(h2:n≤9223372036854775807):
  Con PG N.ref01_Of #[.int .i64 n] w (Ret w fun v w2=>IntC w2 (Nw (fun _=>False) w w2) v n):=by
 refine in_ref01_Of (by simp) ?_
 have b1:=tmod_unit n
 have b2:=tmod_unit (n.tdiv 65536)
 have e1:=Int.mul_tdiv_add_tmod n 65536
 have e2:=Int.mul_tdiv_add_tmod (n.tdiv 65536) 65536
 have hsum:=ofCols n
 conv=>whnf
 refine⟨by decide,n.tmod 65536,rfl,?_⟩
 conv=>whnf
 refine⟨by decide,n.tdiv 65536,by rw[wrap64]<;>omega,?_⟩
 conv=>whnf
 refine⟨by decide,_,rfl,?_⟩
 conv=>whnf
 refine⟨by decide,n.tdiv 65536,by rw[wrap64]<;>omega,?_⟩
 conv=>whnf
 refine⟨by decide,(n.tdiv 65536).tdiv 65536,by rw[wrap64]<;>omega,?_⟩
 conv=>whnf
 generalize n.tmod 65536=c0 at*
 generalize (n.tdiv 65536).tmod 65536=c1 at*
 generalize (n.tdiv 65536).tdiv 65536=c2 at*
 refine callE_S (callE_con (Φ:=fun _ w' v w2=>IntC w2 (Nw (fun _=>False) w' w2) v n) (fun ρ w' r=>?_) ?_)
 ·rw[←hsum]
  have ha:=r.boxSeq (id:=1) (sz:=1) (n:=3) rfl rfl (by decide) (by intro u hu;simp at hu;rcases hu with rfl|rfl|rfl<;>rfl)
  exact settled_c (S:=fun g=>g=(ρ 1).g) (fun g hg=>by rw[hg];exact(r.low 1 _ rfl (r.nn 1 _ rfl (by intros;simp) (by simp))).2) (cs:=[c0,c1,c2]) ha (by
   intro c hc
   simp at hc
   rcases hc with rfl|rfl|rfl<;>omega) (by simp)
 rintro ρ wa v1 wb r he hb hI
 have hI:=hI.got (S:=fun _=>False) r.baseLe (iv:=(wa.heap.size,wb.heap.size)::[]) List.mem_cons_self
 clear r he
 generalize (wa.heap.size,wb.heap.size)::[]=iv at*
 obtain⟨b,a,m,c,rfl⟩:=hI.shape
 conv=>whnf
 intro ρe we re
 exact⟨_,rfl,hb.tr re.bel,hI.out re (oldF w)⟩
/-- a small integer -/
def shortV(z:Int):Value:=if z.natAbs<1073741824 then .tuple #[.int .i64 z,.bool true]else .tuple #[.int .i64 0,.bool false]
theorem IntR.limbs{S:Nat→Prop}{w:World}{v:Value}{z:Int}(h:IntR w S v z):∃b a ls c,v= .agg #[.bool b,.slice a ls.length c]∧Limbs w S (.slice a ls.length c) ls∧sg b (val ls)=z:=by
 obtain⟨b,ls,⟨lv,h1,h2⟩,h3⟩:=h
 obtain⟨a,c,rfl,_⟩:=h2.sl
 exact⟨b,a,ls,c,h1,h2,h3⟩
theorem limb_le{ls:List Nat}{i x:Nat}(h:ls[i]? =some x):wt i*x≤val ls:=by
 have hi:=(List.getElem?_eq_some_iff.1 h).1
 have h1:=val_take_drop ls (i+1) hi
 rw[val_take_succ h]at h1
 omega
theorem wt_ge{i:Nat}(h:0<i):4294967296≤wt i:=by
 obtain⟨k,rfl⟩:∃k,i=k+1:=⟨i-1,by omega⟩
 have:=wt_pos k
 rw[wt_succ]
 omega
theorem rshort_c{S:Nat→Prop}{w:World}{v:Value}{z:Int}(hS:Old S w)(hI:IntR w S v z):
  Con PG N.ref01_short #[v] w (Ret w fun v' _=>v'=shortV z):=by
 obtain⟨b,a,ls,c,rfl,hL,hz⟩:=hI.limbs
 refine in_ref01_short (by simp) ?_
 conv=>whnf
 have hlen:=hL.le
 refine⟨Nat×World,fun y=>⟨[(1,.o (.p 0 0)),(4,.o (.v (.int .i64 (val (ls.take y.1))))),(5,.o (.v (.int .i64 y.1)))],[(0,.box T.Int [.v (.bool b),.v (.slice a ls.length c)])],1,[],y.2⟩,fun y=>ls.length-y.1,
  fun y=>y.1≤ls.length∧Bel w.heap.size w y.2∧val (ls.take y.1)<1073741824∧(∀j,0<j→j<y.1→ls[j]? =some 0),?_,?_⟩
 ·intro ρ w' r
  exact⟨(0,w'),⟨by simp,r.bel,by simp[val],by omega⟩,Sub.gen [] r ⟨rfl,trivial⟩ ⟨rfl,rfl,rfl,trivial⟩ (by simp[ScH,Blk.scopd,At.sc]) (by simp[ScE,SV.sc,At.sc]) (by rfl) (fun lo hi h=>h)⟩
 rintro⟨i,w1⟩ ⟨hi,hw,hv,h0⟩
 dsimp only at hi hw hv h0 ⊢
 conv=>whnf
 refine BrS.mk (fun hib=>?_) (fun hib=>?_)
 ·have hib:i<ls.length:=by simpa using hib
  obtain⟨a',c',e,_,hcell⟩:=hL.sl
  injection e with e1 e2 e3
  subst e1 e3
  obtain⟨x,hx⟩:∃x,ls[i]? =some x:=⟨_,List.getElem?_eq_getElem hib⟩
  have hx32:=hL.lm x (List.mem_of_getElem? hx)
  obtain⟨ad,rfl,q1,q2⟩:=hcell i x hx
  have hld:∀{H nx iv ρ w'},Rel H nx iv w.heap.size w1 ρ w'→w'.cell? (ad.add ((i:Int).toNat*1))=some (.int .u32 x):=fun r=>by
   rw[Int.toNat_natCast,Nat.mul_one];exact cellS hS hw r q1 q2
  have hge:=limb_le hx
  conv=>whnf
  refine BrS.mk (fun hp=>?_) (fun hp=>?_)
  ·have hp:0<i:=by
    have:(i:Int)>0:=of_decide_eq_true hp
    omega
   have hw1:=wt_ge hp
   conv=>whnf
   refine⟨ad,rfl,⟨by omega,by omega⟩,?_⟩
   conv=>whnf
   refine⟨.int .u32 x,fun ρ w' r=>hld r,?_⟩
   conv=>whnf
   refine BrS.mk (fun hne=>?_) (fun hne=>?_)
   ·have hne:x≠0:=by simpa using hne
    conv=>whnf
    intro ρe we re
    refine⟨_,rfl,hw.tr re.bel,?_⟩
    have:¬z.natAbs<1073741824:=by
     have:=Nat.mul_le_mul hw1 (show 1≤x by omega)
     rw[←hz,sg_abs]
     omega
    show _=shortV z
    rw[shortV,if_neg this]
    rfl
   ·have hne:x=0:=by simpa using hne
    subst hne
    conv=>whnf
    refine⟨ad,rfl,⟨by omega,by omega⟩,?_⟩
    conv=>whnf
    refine⟨.int .u32 0,fun ρ w' r=>hld r,?_⟩
    conv=>whnf
    have hnx:val (ls.take (i+1))=val (ls.take i):=by rw[val_take_succ hx];omega
    have hv2:val (ls.take (i+1))<1073741824:=by rw[hnx];exact hv
    have h02:∀j,0<j→j<i+1→ls[j]? =some 0:=fun j h1 h2=>by
     rcases Nat.lt_or_ge j i with h3|h3
     ·exact h0 j h1 h3
     ·have:j=i:=by omega
      rw[this];exact hx
    refine⟨ad,rfl,⟨by omega,by omega⟩,?_⟩
    conv=>whnf
    refine⟨.int .u32 0,fun ρ w' r=>hld r,?_⟩
    conv=>whnf
    refine⟨((0:Nat):Int),by decide,?_⟩
    conv=>whnf
    refine⟨((val (ls.take (i+1)):Nat):Int),by rw[hnx,wrap64]<;>omega,?_⟩
    conv=>whnf
    refine⟨((i+1:Nat):Int),by rw[wrap64]<;>omega,?_⟩
    conv=>whnf
    intro ρ3 w3 r3
    exact⟨(i+1,w3),⟨hib,hw.tr r3.bel,hv2,h02⟩,Sub.gen [] r3 ⟨rfl,trivial⟩ ⟨rfl,rfl,rfl,trivial⟩ (by simp[ScH,Blk.scopd,At.sc]) (by simp[ScE,SV.sc,At.sc]) (by rfl) (fun lo hi h=>h),by dsimp only;omega⟩
  ·have hp:i=0:=by
    have:¬((i:Int)>0):=of_decide_eq_false hp
    omega
   subst hp
   conv=>whnf
   refine⟨ad,rfl,⟨by omega,by omega⟩,?_⟩
   conv=>whnf
   refine⟨.int .u32 x,fun ρ w' r=>hld r,?_⟩
   conv=>whnf
   refine BrS.mk (fun hbig=>?_) (fun hbig=>?_)
   ·have hbig:=of_decide_eq_true hbig
    conv=>whnf
    intro ρe we re
    refine⟨_,rfl,hw.tr re.bel,?_⟩
    have:¬z.natAbs<1073741824:=by
     rw[←hz,sg_abs]
     rw[wt_zero]at hge
     omega
    show _=shortV z
    rw[shortV,if_neg this]
    rfl
   ·have hbig:=of_decide_eq_false hbig
    have hnx:val (ls.take (0+1))=x:=by rw[val_take_succ hx];simp[val,wt_zero]
    have hv2:val (ls.take (0+1))<1073741824:=by rw[hnx];omega
    have h02:∀j,0<j→j<0+1→ls[j]? =some 0:=fun j h1 h2=>by
     omega
    conv=>whnf
    refine⟨ad,rfl,⟨by omega,by omega⟩,?_⟩
    conv=>whnf
    refine⟨.int .u32 x,fun ρ w' r=>hld r,?_⟩
    conv=>whnf
    refine⟨((x:Nat):Int),by rw[wrap64]<;>omega,?_⟩
    conv=>whnf
    refine⟨((val (ls.take (0+1)):Nat):Int),by rw[hnx,wrap64]<;>simp[val]<;>omega,?_⟩
    conv=>whnf
    refine⟨((0+1:Nat):Int),by rw[wrap64]<;>omega,?_⟩
    conv=>whnf
    intro ρ3 w3 r3
    exact⟨(0+1,w3),⟨hib,hw.tr r3.bel,hv2,h02⟩,Sub.gen [] r3 ⟨rfl,trivial⟩ ⟨rfl,rfl,rfl,trivial⟩ (by simp[ScH,Blk.scopd,At.sc]) (by simp[ScE,SV.sc,At.sc]) (by rfl) (fun lo hi h=>h),by dsimp only;omega⟩
 ·have hib:i=ls.length:=by
   have:¬i<ls.length:=by simpa using hib
   omega
  subst hib
  rw[List.take_length]at hv ⊢
  have hlt:z.natAbs<1073741824:=by rw[←hz,sg_abs];exact hv
  conv=>whnf
  cases b with
  |true=>
   conv=>whnf
   refine⟨-(val ls:Int),by rw[wrap64]<;>omega,?_⟩
   conv=>whnf
   intro ρe we re
   refine⟨_,rfl,hw.tr re.bel,?_⟩
   show _=shortV z
   rw[shortV,if_pos hlt,←hz,sg_t]
   rfl
  |false=>
   conv=>whnf
   intro ρe we re
   refine⟨_,rfl,hw.tr re.bel,?_⟩
   show _=shortV z
   rw[shortV,if_pos hlt,←hz,sg_f]
   rfl
theorem low_ratio{a b:Int}(hb:b≠0):a.tdiv (b.sign*(Nat.gcd a.natAbs b.natAbs:Nat))=(Rat.divInt a b).num∧b.tdiv (b.sign*(Nat.gcd a.natAbs b.natAbs:Nat))=((Rat.divInt a b).den:Int):=by
 have hg:0<Nat.gcd a.natAbs b.natAbs:=Nat.gcd_pos_of_pos_right _ (by omega)
 obtain⟨k,hk⟩:((Nat.gcd a.natAbs b.natAbs:Nat):Int) ∣ a:=by rw[←Int.natAbs_dvd_natAbs];exact Nat.gcd_dvd_left _ _
 obtain⟨l,hl⟩:((Nat.gcd a.natAbs b.natAbs:Nat):Int) ∣ b:=by rw[←Int.natAbs_dvd_natAbs];exact Nat.gcd_dvd_right _ _
 have hc:(b.gcd a:Int)=(Nat.gcd a.natAbs b.natAbs:Nat):=by rw[Int.gcd_comm];rfl
 have hc2:b.gcd a=Nat.gcd a.natAbs b.natAbs:=by rw[Int.gcd_comm];rfl
 rw[Rat.num_divInt,Rat.den_divInt,if_neg hb,hc,hc2]
 generalize Nat.gcd a.natAbs b.natAbs=g at*
 have hgi:(g:Int)≠0:=by omega
 have hs:b.sign*b.sign=1:=by
  rcases Int.lt_or_gt_of_ne hb with h|h
  ·rw[Int.sign_eq_neg_one_of_neg h];rfl
  ·rw[Int.sign_eq_one_of_pos h];rfl
 have hs0:b.sign≠0:=fun e=>by rw[e]at hs;simp at hs
 have hne:b.sign*g≠0:=Int.mul_ne_zero hs0 hgi
 have hab:((b.natAbs / g:Nat):Int)=b.sign*l:=by
  rw[Int.natCast_ediv,show((b.natAbs:Nat):Int)=b.sign*b by
   rcases Int.lt_or_gt_of_ne hb with h|h
   ·rw[Int.sign_eq_neg_one_of_neg h];omega
   ·rw[Int.sign_eq_one_of_pos h];omega]
  conv=>lhs;lhs;rhs;rw[hl]
  rw[show b.sign*(↑g*l)= ↑g*(b.sign*l) by rw[←Int.mul_assoc,←Int.mul_assoc,Int.mul_comm b.sign]]
  exact Int.mul_ediv_cancel_left _ hgi
 constructor
 ·rw[show b.sign*a / (g:Int)=b.sign*k by
   conv=>lhs;lhs;rhs;rw[hk]
   rw[show b.sign*(↑g*k)= ↑g*(b.sign*k) by rw[←Int.mul_assoc,←Int.mul_assoc,Int.mul_comm b.sign]]
   exact Int.mul_ediv_cancel_left _ hgi]
  conv=>lhs;lhs;rw[hk,show(g:Int)*k=(b.sign*g)*(b.sign*k) by
   rw[show (b.sign* ↑g)*(b.sign*k)=(b.sign*b.sign)*(↑g*k) by simp only[Int.mul_assoc,Int.mul_comm,Int.mul_left_comm],hs,Int.one_mul]]
  exact Int.mul_tdiv_cancel_left _ hne
 ·rw[hab]
  conv=>lhs;lhs;rw[hl,show(g:Int)*l=(b.sign*g)*(b.sign*l) by
   rw[show (b.sign* ↑g)*(b.sign*l)=(b.sign*b.sign)*(↑g*l) by simp only[Int.mul_assoc,Int.mul_comm,Int.mul_left_comm],hs,Int.one_mul]]
  exact Int.mul_tdiv_cancel_left _ hne
theorem rlowest_c(a b:Int)(w:World)(ha:a.natAbs<4611686018427387904)(hb:b.natAbs<4611686018427387904)(hb0:b≠0):
  Con PG N.ref01_lowest #[.int .i64 a,.int .i64 b] w (Ret w fun v w2=>RatC w2 (Nw (fun _=>False) w w2) v (Rat.divInt a b)):=by
 refine in_ref01_lowest (by simp) ?_
 conv=>whnf
 refine⟨-a,by rw[wrap64]<;>omega,?_⟩
 conv=>whnf
 refine⟨-b,by rw[wrap64]<;>omega,?_⟩
 conv=>whnf
 rw[show max a (-a)=(a.natAbs:Int) by omega,show max b (-b)=(b.natAbs:Int) by omega]
 refine⟨Nat×Nat×World,fun z=>⟨[(0,.o (.v (.int .i64 a))),(1,.o (.v (.int .i64 b))),(4,.o (.p 0 0)),(5,.o (.v (.int .i64 z.1))),(6,.o (.v (.int .i64 z.2.1)))],[(0,.box T.Rat [.v (.bool false),.v (.slice none 0 0),.v (.bool false),.v (.slice none 0 0)])],1,[],z.2.2⟩,fun z=>z.2.1,
  fun z=>Bel w.heap.size w z.2.2∧Nat.gcd z.1 z.2.1=Nat.gcd a.natAbs b.natAbs∧z.1<4611686018427387904∧z.2.1<4611686018427387904,?_,?_⟩
 ·intro ρ w' r
  exact⟨(a.natAbs,b.natAbs,w'),⟨r.bel,rfl,ha,hb⟩,Sub.gen [] r ⟨rfl,trivial⟩ ⟨rfl,rfl,rfl,rfl,rfl,trivial⟩ (by simp[ScH,Blk.scopd,At.sc]) (by simp[ScE,SV.sc,At.sc]) (by rfl) (fun lo hi h=>h)⟩
 rintro⟨x,y,w1⟩ ⟨hw,hg,hx,hy⟩
 dsimp only at hw hg hx hy ⊢
 conv=>whnf
 refine BrS.mk (fun h=>?_) (fun h=>?_)
 ·have h:0<y:=by
   have:(y:Int)>0:=of_decide_eq_true h
   omega
  conv=>whnf
  refine drawn_of_pi hτ hmix [.x 0,.x 1,.x 2,.x 3,.x 4,.x 5] (by kernel_rfl) (by kernel_rfl) ?_
  conv=>whnf
  have hm:=Nat.mod_lt x h
  refine⟨by omega,((x % y:Nat):Int),rfl,?_⟩
  conv=>whnf
  intro ρ3 w3 r3
  exact⟨(y,x % y,w3),⟨hw.tr r3.bel,by dsimp only;rw[←hg,Nat.gcd_comm x y,Nat.gcd_rec y x,Nat.gcd_comm],hy,by dsimp only;omega⟩,Sub.gen [] r3 ⟨rfl,trivial⟩ ⟨rfl,rfl,rfl,rfl,rfl,trivial⟩ (by simp[ScH,Blk.scopd,At.sc]) (by simp[ScE,SV.sc,At.sc]) (by rfl) (fun lo hi h=>h),by dsimp only;omega⟩
 have h:y=0:=by
  have:¬(y:Int)>0:=of_decide_eq_false h
  omega
 subst h
 rw[Nat.gcd_zero_right]at hg
 have hx0:x≠0:=by rw[hg];exact Nat.pos_iff_ne_zero.1 (Nat.gcd_pos_of_pos_right _ (by omega))
 obtain⟨hn,hd⟩:=low_ratio (a:=a) hb0
 rw[←hg]at hn hd
 have bn:(Rat.divInt a b).num.natAbs≤a.natAbs:=by rw[←hn];exact Int.natAbs_tdiv_le_natAbs _ _
 have bd:((Rat.divInt a b).den:Int).natAbs≤b.natAbs:=by rw[←hd];exact Int.natAbs_tdiv_le_natAbs _ _
 conv=>whnf
 refine BrS.mk (fun hb1=>?_) (fun hb1=>?_)
 ·have hb1:=of_decide_eq_true hb1
  rw[Int.sign_eq_neg_one_of_neg hb1,Int.neg_one_mul]at hn hd
  conv=>whnf
  refine⟨-(x:Int),by rw[wrap64]<;>omega,?_⟩
  conv=>whnf
  refine drawn_of_pi hτ hmix [.x 0,.x 1,.x 2,.x 4,.x 5,.x 6,.x 3,.x 7,.x 8,.x 9] (by kernel_rfl) (by kernel_rfl) ?_
  conv=>whnf
  refine⟨by omega,(Rat.divInt a b).num,by rw[hn,wrap64]<;>omega,?_⟩
  conv=>whnf
  refine⟨by omega,((Rat.divInt a b).den:Int),by rw[hd,wrap64]<;>omega,?_⟩
  conv=>whnf
  refine callE_con (Φ:=fun _ w' v w2=>IntC w2 (Nw (fun _=>False) w' w2) v (Rat.divInt a b).num) (fun ρ w' r=>rOf_c _ w' (by omega) (by omega)) ?_
  rintro ρ wa v1 wb r he hbb hI
  replace hw:=hw.tr hbb
  have hN:=hI.got (S:=fun _=>False) r.baseLe (iv:=(wa.heap.size,wb.heap.size)::[]) List.mem_cons_self
  clear r he hI hbb
  generalize (wa.heap.size,wb.heap.size)::[]=iv at*
  obtain⟨b1,a1,m1,c1,rfl⟩:=hN.shape
  conv=>whnf
  refine callE_con (Φ:=fun _ w' v w2=>IntC w2 (Nw (fun _=>False) w' w2) v ((Rat.divInt a b).den:Int)) (fun ρ w' r=>rOf_c _ w' (by omega) (by omega)) ?_
  rintro ρ wa v1 wb2 r he hbb hI
  replace hw:=hw.tr hbb
  replace hN:=hN.past (iv':=(wa.heap.size,wb2.heap.size)::iv) r (oldF w) he fun x hx=>List.mem_cons_of_mem _ hx
  have hD:=hI.got (S:=fun _=>False) r.baseLe (iv:=(wa.heap.size,wb2.heap.size)::iv) List.mem_cons_self
  clear r he hI hbb
  generalize (wa.heap.size,wb2.heap.size)::iv=iv2 at*
  obtain⟨b2,a2,m2,c2,rfl⟩:=hD.shape
  conv=>whnf
  intro ρe we re
  exact⟨_,rfl,hw.tr re.bel,(RatC.of hN hD).out re (oldF w)⟩
 ·have hb1:=of_decide_eq_false hb1
  rw[Int.sign_eq_one_of_pos (by omega),Int.one_mul]at hn hd
  conv=>whnf
  refine drawn_of_pi hτ hmix [.x 0,.x 1,.x 2,.x 4,.x 5,.x 6,.x 3,.x 7,.x 8,.x 9] (by kernel_rfl) (by kernel_rfl) ?_
  conv=>whnf
  refine⟨by omega,(Rat.divInt a b).num,by rw[hn,wrap64]<;>omega,?_⟩
  conv=>whnf
  refine⟨by omega,((Rat.divInt a b).den:Int),by rw[hd,wrap64]<;>omega,?_⟩
  conv=>whnf
  refine callE_con (Φ:=fun _ w' v w2=>IntC w2 (Nw (fun _=>False) w' w2) v (Rat.divInt a b).num) (fun ρ w' r=>rOf_c _ w' (by omega) (by omega)) ?_
  rintro ρ wa v1 wb r he hbb hI
  replace hw:=hw.tr hbb
  have hN:=hI.got (S:=fun _=>False) r.baseLe (iv:=(wa.heap.size,wb.heap.size)::[]) List.mem_cons_self
  clear r he hI hbb
  generalize (wa.heap.size,wb.heap.size)::[]=iv at*
  obtain⟨b1,a1,m1,c1,rfl⟩:=hN.shape
  conv=>whnf
  refine callE_con (Φ:=fun _ w' v w2=>IntC w2 (Nw (fun _=>False) w' w2) v ((Rat.divInt a b).den:Int)) (fun ρ w' r=>rOf_c _ w' (by omega) (by omega)) ?_
  rintro ρ wa v1 wb2 r he hbb hI
  replace hw:=hw.tr hbb
  replace hN:=hN.past (iv':=(wa.heap.size,wb2.heap.size)::iv) r (oldF w) he fun x hx=>List.mem_cons_of_mem _ hx
  have hD:=hI.got (S:=fun _=>False) r.baseLe (iv:=(wa.heap.size,wb2.heap.size)::iv) List.mem_cons_self
  clear r he hI hbb
  generalize (wa.heap.size,wb2.heap.size)::iv=iv2 at*
  obtain⟨b2,a2,m2,c2,rfl⟩:=hD.shape
  conv=>whnf
  intro ρe we re
  exact⟨_,rfl,hw.tr re.bel,(RatC.of hN hD).out re (oldF w)⟩
theorem shortV_small{z:Int}(h:z.natAbs<1073741824):shortV z= .tuple #[.int .i64 z,.bool true]:=if_pos h
theorem roverQuick_c{S:Nat→Prop}{w:World}{v u:Value}{x y:Int}(hS:Old S w)(hx:IntR w S v x)(hy:IntR w S u y)(hxs:x.natAbs<1073741824)(hys:y.natAbs<1073741824)(hy0:y≠0):
  Con PG N.ref01_Over #[v,u] w (Ret w fun v' w2=>RatC w2 (Nw (fun _=>False) w w2) v' (Rat.divInt x y)):=by
 have hw:Bel w.heap.size w w:=Bel.refl
 replace hx:=hx.weak (S':=Cv S w.heap.size []) fun _ h=>.inl h
 replace hy:=hy.weak (S':=Cv S w.heap.size []) fun _ h=>.inl h
 obtain⟨bx,ax,lx,cx,rfl⟩:=hx.shape
 obtain⟨b2,ay,ly,cy,rfl⟩:=hy.shape
 refine in_ref01_Over (by simp) ?_
 conv=>whnf
 refine callE_S (cE hw (Φ:=fun _ w' v w2=>v= .tuple #[.int .i64 x,.bool true]) (fun ρ w' r=>(rshort_c (Rel.old r hS) (hx.rel r hS)).mono fun e w2 ⟨v2,e1,e2,e3⟩=>⟨v2,e1,e2,by rw[e3,shortV_small hxs]⟩) ?_)
 rintro ρ wa1 v1 wb1 iv1 r he hw h_ rfl
 replace hx:=hx.past r hS he (mC h_)
 replace hy:=hy.past r hS he (mC h_)
 clear r
 conv=>whnf
 refine callE_S (cE hw (Φ:=fun _ w' v w2=>v= .tuple #[.int .i64 y,.bool true]) (fun ρ w' r=>(rshort_c (Rel.old r hS) (hy.rel r hS)).mono fun e w2 ⟨v2,e1,e2,e3⟩=>⟨v2,e1,e2,by rw[e3,shortV_small hys]⟩) ?_)
 rintro ρ wa1 v1 wb1 iv2 r he hw h_ rfl
 clear r hx hy
 conv=>whnf
 refine callE_S (cE hw (Φ:=fun _ w' v w2=>RatC w2 (Nw (fun _=>False) w' w2) v (Rat.divInt x y)) (fun ρ w' r=>rlowest_c x y w' (by omega) (by omega) hy0) ?_)
 rintro ρ wa v1 wb iv r he hw h_ hI
 have hR:=hI.got (S:=fun _=>False) r.baseLe (mN h_)
 clear r
 obtain⟨b1,a1,m1,c1,b3,a3,m3,c3,rfl⟩:=hR.shape
 conv=>whnf
 intro ρe we re
 exact⟨_,rfl,hw.tr re.bel,hR.out re (oldF w)⟩
theorem divInt_one(n:Int):Rat.divInt n 1=(n:Rat):=by
 have:=Rat.num_divInt_den (n:Rat)
 rw[Rat.num_intCast,Rat.den_intCast]at this
 exact this
theorem rWhole_c(n:Int)(w:World)(hn:n.natAbs<1073741824):
  Con PG N.ref01_Whole #[.int .i64 n] w (Ret w fun v' w2=>RatC w2 (Nw (fun _=>False) w w2) v' (n:Rat)):=by
 have hw:Bel w.heap.size w w:=Bel.refl
 refine in_ref01_Whole (by simp) ?_
 conv=>whnf
 refine callE_S (callE_con (Φ:=fun _ w' v w2=>IntC w2 (Nw (fun _=>False) w' w2) v n) (fun ρ w' r=>rOf_c _ w' (by omega) (by omega)) ?_)
 rintro ρ wa v1 wb r he hbb hI
 replace hw:=hw.tr hbb
 have hN:=hI.got (S:=fun _=>False) r.baseLe (iv:=(wa.heap.size,wb.heap.size)::[]) List.mem_cons_self
 clear r he hI hbb
 generalize (wa.heap.size,wb.heap.size)::[]=iv at*
 obtain⟨b1,a1,m1,c1,rfl⟩:=hN.shape
 conv=>whnf
 refine callE_S (callE_con (Φ:=fun _ w' v w2=>IntC w2 (Nw (fun _=>False) w' w2) v 1) (fun ρ w' r=>rOf_c _ w' (by omega) (by omega)) ?_)
 rintro ρ wa v1 wb2 r he hbb hI
 replace hw:=hw.tr hbb
 replace hN:=hN.past (iv':=(wa.heap.size,wb2.heap.size)::iv) r (oldF w) he fun x hx=>List.mem_cons_of_mem _ hx
 have hD:=hI.got (S:=fun _=>False) r.baseLe (iv:=(wa.heap.size,wb2.heap.size)::iv) List.mem_cons_self
 clear r he hI hbb
 generalize (wa.heap.size,wb2.heap.size)::iv=iv2 at*
 obtain⟨b2,a2,m2,c2,rfl⟩:=hD.shape
 conv=>whnf
 refine callE_S (cE hw (Φ:=fun _ w' v w2=>RatC w2 (Nw (fun _=>False) w' w2) v (Rat.divInt n 1)) (fun ρ w' r=>roverQuick_c (Rel.old r (oldF w)) (hN.rel r (oldF w)).r (hD.rel r (oldF w)).r hn (by decide) (by decide)) ?_)
 rintro ρ wa v1 wb iv r he hw h_ hI
 have hR:=hI.got (S:=fun _=>False) r.baseLe (mN h_)
 clear r he hI
 obtain⟨b1,a1,m1,c1,b3,a3,m3,c3,rfl⟩:=hR.shape
 rw[divInt_one]at hR
 conv=>whnf
 intro ρe we re
 exact⟨_,rfl,hw.tr re.bel,hR.out re (oldF w)⟩
end Go.Ex

/- Sameness of integers, fractions and lists (the reference's). No condition. -/
namespace Go.Ex
open Go Go.Sx Go.Proofs

theorem sameV_c{S:Nat→Prop}{w:World}{v u:Value}{n1 n2:Bool}{ls ms:List Nat}(hS:Old S w)(hx:IntV w S v n1 ls)(hy:IntV w S u n2 ms):
  Con PG N.ref01_SameInt #[v,u] w (Ret w fun v' _=>v'= .bool (decide (n1=n2∧ls=ms))):=by
 obtain⟨lv,rfl,h1⟩:=hx
 obtain⟨mv,rfl,h2⟩:=hy
 obtain⟨a,c,rfl,_,ha⟩:=h1.sl
 obtain⟨b,e,rfl,_,hb⟩:=h2.sl
 have hle1:=h1.le
 have hle2:=h2.le
 have hw:Bel w.heap.size w w:=Bel.refl
 refine in_ref01_SameInt (by simp) ?_
 conv=>whnf
 refine BrS.mk (fun hn=>?_) (fun hn=>?_)
 ·have hn:n1≠n2:=fun h=>by rw[h]at hn;simp at hn
  conv=>whnf
  intro ρ w2 r
  exact⟨_,rfl,r.bel,by rw[decide_eq_false (fun h=>hn h.1)];rfl⟩
 have hn:n1=n2:=by simpa using hn
 subst hn
 conv=>whnf
 refine BrS.mk (fun h=>?_) (fun h=>?_)
 ·have h:ls.length≠ms.length:=fun he=>by rw[he]at h;simp at h
  conv=>whnf
  intro ρ w2 r
  exact⟨_,rfl,r.bel,by rw[decide_eq_false (fun e=>h (by rw[e.2]))];rfl⟩
 have h:ls.length=ms.length:=by
  have:(ls.length:Int)=ms.length:=by simpa using h
  omega
 conv=>whnf
 refine⟨Nat×World,fun z=>⟨[(2,.o (.p 0 0)),(3,.o (.p 1 0)),(5,.o (.v (.int .i64 z.1)))],[(1,.box T.Int [.v (.bool n1),.v (.slice b ms.length e)]),(0,.box T.Int [.v (.bool n1),.v (.slice a ls.length c)])],2,[],z.2⟩,fun z=>ls.length-z.1,
  fun z=>z.1≤ls.length∧Bel w.heap.size w z.2∧ls.take z.1=ms.take z.1,?_,?_⟩
 ·intro ρ w' r
  exact⟨(0,w'),⟨by simp,r.bel,by simp⟩,Sub.gen [] r ⟨rfl,rfl,trivial⟩ ⟨rfl,rfl,rfl,trivial⟩ (by simp[ScH,Blk.scopd,At.sc]) (by simp[ScE,SV.sc,At.sc]) (by rfl) (fun lo hi h=>h)⟩
 rintro⟨i,w1⟩ ⟨hi,hw,ht⟩
 dsimp only at hi hw ht ⊢
 conv=>whnf
 refine BrS.mk (fun hib=>?_) (fun hib=>?_)
 ·have hib:i<ls.length:=by simpa using hib
  obtain⟨x,hx⟩:∃x,ls[i]? =some x:=⟨_,List.getElem?_eq_getElem hib⟩
  obtain⟨y,hy⟩:∃x,ms[i]? =some x:=⟨_,List.getElem?_eq_getElem (by omega)⟩
  obtain⟨ad,rfl,q1,q2⟩:=ha i x hx
  obtain⟨ad2,rfl,q3,q4⟩:=hb i y hy
  have hlx:∀{H nx iv ρ w'},Rel H nx iv w.heap.size w1 ρ w'→w'.cell? (ad.add ((i:Int).toNat*1))=some (.int .u32 x):=fun r=>by
   rw[Int.toNat_natCast,Nat.mul_one];exact cellS hS hw r q1 q2
  have hly:∀{H nx iv ρ w'},Rel H nx iv w.heap.size w1 ρ w'→w'.cell? (ad2.add ((i:Int).toNat*1))=some (.int .u32 y):=fun r=>by
   rw[Int.toNat_natCast,Nat.mul_one];exact cellS hS hw r q3 q4
  conv=>whnf
  refine drawn_of_pi hτ hmix [.x 0,.x 1,.x 2,.x 3,.x 4,.x 5,.x 6,.x 7,.x 8,.x 9,.x 10] (by kernel_rfl) (by kernel_rfl) ?_
  conv=>whnf
  refine⟨ad,rfl,⟨by omega,by omega⟩,?_⟩
  conv=>whnf
  refine⟨.int .u32 x,fun ρ w' r=>hlx r,?_⟩
  conv=>whnf
  refine⟨ad2,rfl,⟨by omega,by omega⟩,?_⟩
  conv=>whnf
  refine⟨.int .u32 y,fun ρ w' r=>hly r,?_⟩
  conv=>whnf
  refine BrS.mk (fun hne=>?_) (fun hne=>?_)
  ·have hne:x≠y:=fun h=>by rw[h]at hne;simp at hne
   conv=>whnf
   intro ρ w2 r
   refine⟨_,rfl,hw.tr r.bel,?_⟩
   rw[decide_eq_false (fun e=>hne (by
    have:=e.2
    rw[this,hy]at hx
    injection hx with hx
    exact hx.symm))]
   rfl
  have hne:x=y:=by
   have:(x:Int)=y:=by simpa using hne
   omega
  subst hne
  have ht2:ls.take (i+1)=ms.take (i+1):=by rw[List.take_add_one,List.take_add_one,ht,hx,hy]
  conv=>whnf
  refine⟨((i+1:Nat):Int),by rw[wrap64]<;>omega,?_⟩
  conv=>whnf
  intro ρ3 w3 r3
  exact⟨(i+1,w3),⟨hib,hw.tr r3.bel,ht2⟩,Sub.gen [] r3 ⟨rfl,rfl,trivial⟩ ⟨rfl,rfl,rfl,trivial⟩ (by simp[ScH,Blk.scopd,At.sc]) (by simp[ScE,SV.sc,At.sc]) (by rfl) (fun lo hi h=>h),by dsimp only;omega⟩
 have hib:i=ls.length:=by
  have:¬i<ls.length:=by simpa using hib
  omega
 subst hib
 rw[List.take_length,h,List.take_length]at ht
 conv=>whnf
 intro ρ w2 r
 exact⟨_,rfl,hw.tr r.bel,by rw[decide_eq_true ⟨rfl,ht⟩];rfl⟩
theorem limbs_inj{a b:List Nat}(la:Lm a)(lb:Lm b)(na:Nz a)(nb:Nz b)(h:val a=val b):a=b:=by
 have:a.length=b.length:=by
  rcases Nat.lt_trichotomy a.length b.length with h1|h1|h1
  ·have:=val_lt_of_length la nb h1;omega
  ·exact h1
  ·have:=val_lt_of_length lb na h1;omega
 exact val_inj la lb this h
theorem sameInt_c{S:Nat→Prop}{w:World}{v u:Value}{x y:Int}(hS:Old S w)(hx:IntC w S v x)(hy:IntC w S u y):
  Con PG N.ref01_SameInt #[v,u] w (Ret w fun v' _=>v'= .bool (decide (x=y))):=by
 obtain⟨ls,h1,h2,h3⟩:=hx
 obtain⟨ms,k1,k2,k3⟩:=hy
 have e:decide (decide (x<0)=decide (y<0)∧ls=ms)=decide (x=y):=by
  refine decide_eq_decide.2 ⟨fun ⟨e1,e2⟩=>?_,fun e1=>?_⟩
  ·have e1:=decide_eq_decide.1 e1
   rw[e2]at h3
   omega
  ·subst e1
   obtain⟨_,_,l1⟩:=h1
   obtain⟨_,_,l2⟩:=k1
   exact⟨rfl,limbs_inj l1.lm l2.lm h2 k2 (by omega)⟩
 exact(sameV_c hS h1 k1).mono fun _ w2 ⟨v2,e1,e2,e3⟩=>⟨v2,e1,e2,by rw[e3,e]⟩
theorem same_c{S:Nat→Prop}{w:World}{v u:Value}{p q:Rat}(hS:Old S w)(hx:RatC w S v p)(hy:RatC w S u q):
  Con PG N.ref01_Same #[v,u] w (Ret w fun v' _=>v'= .bool (decide (p=q))):=by
 obtain⟨b1,a1,n1,c1,b2,a2,n2,c2,rfl⟩:=hx.shape
 obtain⟨b3,a3,n3,c3,b4,a4,n4,c4,rfl⟩:=hy.shape
 refine in_ref01_Same (by simp) ?_
 conv=>whnf
 refine callE_S (callE_con (Φ:=fun _ w' v w2=>v= .bool (decide (p.num=q.num))) (fun ρ w' r=>sameInt_c (fun g hg=>by have:=hS g hg;have:=r.baseLe;omega) (hx.num.keep fun g hg=>r.bel.block g (hS g hg)) (hy.num.keep fun g hg=>r.bel.block g (hS g hg))) ?_)
 rintro ρ wa v1 wb r he hb rfl
 have hw:=hb
 clear r he hb
 generalize (wa.heap.size,wb.heap.size)::[]=iv at*
 conv=>whnf
 refine BrS.mk (fun h=>?_) (fun h=>?_)
 ·have h:=of_decide_eq_true h
  conv=>whnf
  refine callE_S (cE hw (Φ:=fun _ w' v w2=>v= .bool (decide ((p.den:Int)=q.den))) (fun ρ w' r=>sameInt_c (fun g hg=>by have:=hS g hg;have:=r.baseLe;omega) (hx.den.keep fun g hg=>(hw.tr r.bel).block g (hS g hg)) (hy.den.keep fun g hg=>(hw.tr r.bel).block g (hS g hg))) ?_)
  rintro ρ wa v1 wb2 iv2 r he hw h_ rfl
  clear r he
  conv=>whnf
  intro ρe we re
  refine⟨_,rfl,hw.tr re.bel,?_⟩
  have:decide (p=q)=decide ((p.den:Int)=q.den):=decide_eq_decide.2 ⟨fun e=>by rw[e],fun e=>Rat.ext h (by omega)⟩
  rw[this]
  rfl
 ·have h:=of_decide_eq_false h
  conv=>whnf
  intro ρe we re
  refine⟨_,rfl,hw.tr re.bel,?_⟩
  rw[decide_eq_false (fun e=>h (by rw[e]))]
  rfl
theorem sameList_c{S:Nat→Prop}{w:World}{v u:Value}{xs ys:List Rat}(hS:Old S w)(hx:RatsC w S v xs)(hy:RatsC w S u ys):
  Con PG N.ref01_SameList #[v,u] w (Ret w fun v' _=>v'= .bool (decide (xs=ys))):=by
 obtain⟨a,c,rfl,hc,hm⟩:=ListR.shape hx
 obtain⟨b,e,rfl,hc2,hm2⟩:=ListR.shape hy
 unfold maxLen at hm hm2
 refine in_ref01_SameList (by simp) ?_
 conv=>whnf
 refine BrS.mk (fun h=>?_) (fun h=>?_)
 ·have h:xs.length≠ys.length:=fun he=>by rw[he]at h;simp at h
  conv=>whnf
  intro ρ w2 r
  exact⟨_,rfl,r.bel,by rw[decide_eq_false (fun e=>h (by rw[e]))];rfl⟩
 have h:xs.length=ys.length:=by
  have:(xs.length:Int)=ys.length:=by simpa using h
  omega
 conv=>whnf
 refine⟨Nat×World,fun z=>⟨[(0,.o (.v (.slice a xs.length c))),(1,.o (.v (.slice b ys.length e))),(5,.o (.v (.int .i64 z.1)))],[],0,[],z.2⟩,fun z=>xs.length-z.1,
  fun z=>z.1≤xs.length∧Bel w.heap.size w z.2∧xs.take z.1=ys.take z.1,?_,?_⟩
 ·intro ρ w' r
  exact⟨(0,w'),⟨by simp,r.bel,by simp⟩,Sub.gen [] r trivial ⟨rfl,rfl,rfl,trivial⟩ (by simp[ScH]) (by simp[ScE,SV.sc,At.sc]) (by rfl) (by simp)⟩
 rintro⟨i,w1⟩ ⟨hi,hw,ht⟩
 dsimp only at hi hw ht ⊢
 conv=>whnf
 refine BrS.mk (fun hib=>?_) (fun hib=>?_)
 ·have hib:i<xs.length:=by simpa using hib
  obtain⟨x,hxi⟩:∃x,xs[i]? =some x:=⟨_,List.getElem?_eq_getElem hib⟩
  obtain⟨y,hyi⟩:∃x,ys[i]? =some x:=⟨_,List.getElem?_eq_getElem (by omega)⟩
  obtain⟨ad2,cs2,rfl,hR2,-,hl2⟩:=ListR.load hy hyi
  obtain⟨p2,q2,r2,s2,t2,u2,v2,w2,rfl,hR2⟩:=hR2
  obtain⟨ad,cs,rfl,hR,-,hl⟩:=ListR.load hx hxi
  obtain⟨p1,q1,r1,s1,t1,u1,v1,w1,rfl,hR⟩:=hR
  conv=>whnf
  refine drawn_of_pi hτ hmix [.x 0,.x 1,.x 2,.x 3,.x 4,.x 5,.x 6,.x 7,.x 8,.x 9] (by kernel_rfl) (by kernel_rfl) ?_
  conv=>whnf
  refine⟨ad,rfl,⟨by omega,by omega⟩,?_⟩
  conv=>whnf
  refine⟨[.bool p1,.slice q1 r1 s1,.bool t1,.slice u1 v1 w1],rfl,fun ρ w' r j u hu=>?_,?_⟩
  ·obtain⟨k1,k2⟩:=hl j u hu
   rw[Int.toNat_natCast,cell_of_heap (w:=w) (w2:=w') (by rw[addB,addB];exact(hw.tr r.bel).block _ (hS _ k1))]
   exact k2
  conv=>whnf
  refine⟨ad2,rfl,⟨by omega,by omega⟩,?_⟩
  conv=>whnf
  refine⟨[.bool p2,.slice q2 r2 s2,.bool t2,.slice u2 v2 w2],rfl,fun ρ w' r j u hu=>?_,?_⟩
  ·obtain⟨k1,k2⟩:=hl2 j u hu
   rw[Int.toNat_natCast,cell_of_heap (w:=w) (w2:=w') (by rw[addB,addB];exact(hw.tr r.bel).block _ (hS _ k1))]
   exact k2
  conv=>whnf
  refine cE hw (Φ:=fun _ w' v w2=>v= .bool (decide (x=y))) (fun ρ w' r=>same_c (fun g hg=>by have:=hS g hg;have:=r.baseLe;omega) (hR.keep fun g hg=>(hw.tr r.bel).block g (hS g hg)) (hR2.keep fun g hg=>(hw.tr r.bel).block g (hS g hg))) ?_
  rintro ρ wa v1 wb iv2 r he hw h_ rfl
  clear r he
  conv=>whnf
  refine BrS.mk (fun hne=>?_) (fun hne=>?_)
  ·have hne:x≠y:=fun h=>by rw[h]at hne;simp at hne
   conv=>whnf
   intro ρ w2 r
   refine⟨_,rfl,hw.tr r.bel,?_⟩
   rw[decide_eq_false (fun e=>hne (by
    rw[e,hyi]at hxi
    injection hxi with hxi
    exact hxi.symm))]
   rfl
  have hne:x=y:=by simpa using hne
  subst hne
  have ht2:xs.take (i+1)=ys.take (i+1):=by rw[List.take_add_one,List.take_add_one,ht,hxi,hyi]
  conv=>whnf
  refine⟨((i+1:Nat):Int),by rw[wrap64]<;>omega,?_⟩
  conv=>whnf
  intro ρ3 w3 r3
  exact⟨(i+1,w3),⟨hib,hw.tr r3.bel,ht2⟩,Sub.gen [] r3 trivial ⟨rfl,rfl,rfl,trivial⟩ (by simp[ScH]) (by simp[ScE,SV.sc,At.sc]) (by rfl) (by simp),by dsimp only;omega⟩
 have hib:i=xs.length:=by
  have:¬i<xs.length:=by simpa using hib
  omega
 subst hib
 rw[List.take_length,h,List.take_length]at ht
 conv=>whnf
 intro ρ w2 r
 exact⟨_,rfl,hw.tr r.bel,by rw[decide_eq_true ht];rfl⟩
end Go.Ex

/- short of the laws of chapter 1: lists of integers with few limbs. No condition. -/
namespace Go.Ex
open Go Go.Sx Go.Proofs

end Go.Ex

/- The examples that each law of chapter 1 begins with. Printed by program. No condition. -/
namespace Go.Ex
open Go Go.Sx Go.Proofs

theorem RatC.fourC{S:Nat→Prop}{w:World}{b b2:Bool}{a a2:Option Addr}{n c n2 c2:Nat}{q:Rat}(h:RatC w S (.agg #[.bool b,.slice a n c,.bool b2,.slice a2 n2 c2]) q):Rat4C w S [.bool b,.slice a n c,.bool b2,.slice a2 n2 c2] q:=
 ⟨b,a,n,c,b2,a2,n2,c2,rfl,h⟩
theorem Rel.lt{H:Hp}{nx:Nat}{iv:Iv}{B:Nat}{w w':World}{ρ:Nat→Sx.Val}(r:Rel H nx iv B w ρ w'){id t:Nat}{cs:List At}(h:getH H id=some (.box t cs)):(ρ id).g<w'.heap.size:=(r.low id _ h (r.nn id _ h (by intros;simp) (by simp))).2
end Go.Ex

/- Sums and products of columns. No condition. -/
namespace Go.Ex

/-- the sum of the first so many columns -/
def colsum(f:Nat→Int):Nat→Int
 |0=>0
 |n+1=>f 0+65536*colsum (fun i=>f (i+1)) n
theorem colsum_map(f:Nat→Int)(n:Nat):colval ((List.range n).map f)=colsum f n:=by
 induction n generalizing f with
 |zero=>rfl
 |succ n ih=>
  rw[List.range_succ_eq_map,List.map_cons,List.map_map,colval,colsum,←ih]
  rfl
theorem colsum_add(f g:Nat→Int)(n:Nat):colsum (fun i=>f i+g i) n=colsum f n+colsum g n:=by
 induction n generalizing f g with
 |zero=>rfl
 |succ n ih=>simp only[colsum,ih];omega
theorem colsum_mul(k:Int)(f:Nat→Int)(n:Nat):colsum (fun i=>k*f i) n=k*colsum f n:=by
 induction n generalizing f with
 |zero=>simp[colsum]
 |succ n ih=>simp only[colsum,ih,Int.mul_add];rw[Int.mul_left_comm]
theorem colsum_zero{f:Nat→Int}{n:Nat}(h:∀i,i<n→f i=0):colsum f n=0:=by
 induction n generalizing f with
 |zero=>rfl
 |succ n ih=>rw[colsum,h 0 (by omega),ih fun i hi=>h (i+1) (by omega)];rfl
theorem colsum_getD(a:List Int)(n:Nat)(h:a.length≤n):colsum (fun i=>a.getD i 0) n=colval a:=by
 induction a generalizing n with
 |nil=>exact colsum_zero fun i _=>by simp
 |cons c r ih=>
  obtain⟨m,rfl⟩:∃m,n=m+1:=⟨n-1,by simp at h;omega⟩
  have e:=ih m (by simpa using h)
  rw[colsum,colval,←e]
  simp[List.getD]
/-- a product's column: the first k parts -/
def cpart(a b:List Int)(i:Nat):Nat→Int
 |0=>0
 |k+1=>cpart a b i k+a.getD k 0*(if k≤i then b.getD (i-k) 0 else 0)
def convAt(a b:List Int)(i:Nat):Int:=cpart a b i (i+1)
theorem cpart_nil(b:List Int)(i k:Nat):cpart [] b i k=0:=by
 induction k with
 |zero=>rfl
 |succ k ih=>rw[cpart,ih];simp
theorem cpart_cons(c:Int)(r b:List Int)(i k:Nat):cpart (c::r) b (i+1) (k+1)=c*b.getD (i+1) 0+cpart r b i k:=by
 induction k with
 |zero=>simp[cpart]
 |succ k ih=>
  rw[cpart,ih,cpart]
  have e:(c::r).getD (k+1) 0=r.getD k 0:=by simp[List.getD]
  rw[e]
  have e2:(if k+1≤i+1 then b.getD (i+1-(k+1)) 0 else 0)=(if k≤i then b.getD (i-k) 0 else 0):=by
   by_cases h:k≤i
   ·rw[if_pos h,if_pos (by omega),show i+1-(k+1)=i-k by omega]
   ·rw[if_neg h,if_neg (by omega)]
  rw[e2,Int.add_assoc]
theorem convAt_cons(c:Int)(r b:List Int)(i:Nat):convAt (c::r) b (i+1)=c*b.getD (i+1) 0+convAt r b i:=cpart_cons c r b i (i+1)
theorem convAt_zero(c:Int)(r b:List Int):convAt (c::r) b 0=c*b.getD 0 0:=by simp[convAt,cpart]
theorem conv_sum(a b:List Int)(n:Nat)(h:a.length+b.length≤n+1):colsum (convAt a b) n=colval a*colval b:=by
 induction a generalizing n with
 |nil=>
  rw[show convAt [] b=fun _=>(0:Int)from funext fun i=>cpart_nil b i _,colsum_zero fun _ _=>rfl]
  simp[colval]
 |cons c r ih=>
  cases n with
  |zero=>
   have hb:b=[]:=List.eq_nil_of_length_eq_zero (by simp at h;omega)
   subst hb
   simp[colsum,colval]
  |succ m=>
   have e1:colsum (convAt (c::r) b) (m+1)=colsum (fun i=>c*b.getD i 0) (m+1)+65536*colsum (convAt r b) m:=by
    have e2:colsum (fun i=>convAt (c::r) b (i+1)) m=colsum (fun i=>c*b.getD (i+1) 0) m+colsum (convAt r b) m:=by
     rw[←colsum_add]
     congr 1
     funext i
     exact convAt_cons c r b i
    rw[colsum,colsum,e2,convAt_zero,Int.mul_add]
    omega
   have h':r.length+b.length≤m+1:=by simp at h;omega
   rw[e1,ih m h',colsum_mul,colsum_getD b (m+1) (by omega),colval,Int.add_mul,Int.mul_assoc]
theorem cpart_skip(a b:List Int)(i k k0:Nat)(h0:∀j,j<k0→b.length≤i-j)(hk:k0≤i+1)(h:k≤k0):cpart a b i k=0:=by
 induction k with
 |zero=>rfl
 |succ k ih=>
  rw[cpart,ih (by omega),if_pos (by omega)]
  have:b.getD (i-k) 0=0:=by rw[List.getD,List.getElem?_eq_none (h0 k (by omega))];rfl
  rw[this];simp
theorem cpart_rest(a b:List Int)(i k m:Nat)(h:a.length≤k):cpart a b i (k+m)=cpart a b i k:=by
 induction m with
 |zero=>rfl
 |succ m ih=>
  rw[←Nat.add_assoc,cpart,ih]
  have:a.getD (k+m) 0=0:=by rw[List.getD,List.getElem?_eq_none (by omega)];rfl
  rw[this];simp
theorem cpart_bound{a b:List Int}{i:Nat}(ha:∀x∈a,-65535≤x∧x≤65535)(hb:∀x∈b,-65535≤x∧x≤65535)(k:Nat):(cpart a b i k).natAbs≤4294836225*k:=by
 have key:∀(l:List Int) (j:Nat),(∀x∈l,-65535≤x∧x≤65535)→(l.getD j 0).natAbs≤65535:=fun l j h=>by
  rw[List.getD]
  cases hj:l[j]? with
  |none=>simp
  |some d=>have:=h d (List.mem_of_getElem? hj);simp;omega
 induction k with
 |zero=>simp[cpart]
 |succ k ih=>
  rw[cpart]
  have h1:=key a k ha
  have h2:(if k≤i then b.getD (i-k) 0 else 0).natAbs≤65535:=by
   split
   ·exact key b _ hb
   ·simp
  have h3:=Nat.mul_le_mul h1 h2
  rw[←Int.natAbs_mul]at h3
  generalize a.getD k 0*(if k≤i then b.getD (i-k) 0 else 0)=p at*
  omega
/-- the columns of limbs, each one with the sign s -/
def limbCols(s:Int):List Nat→List Int
 |[]=>[]
 |l::r=>s*((l % 65536:Nat):Int)::s*((l / 65536:Nat):Int)::limbCols s r
theorem limbCols_val(s:Int)(ls:List Nat):colval (limbCols s ls)=s*(val ls:Int):=by
 induction ls with
 |nil=>simp[limbCols,colval,val]
 |cons l r ih=>
  rw[limbCols,colval,colval,ih,val]
  have e1:((l+4294967296*val r:Nat):Int)=((l % 65536:Nat):Int)+65536*((l / 65536:Nat):Int)+4294967296*((val r:Nat):Int):=by omega
  rw[e1,Int.mul_add,Int.mul_add,Int.mul_add]
  rw[Int.mul_left_comm 65536 s,Int.mul_left_comm s 65536,Int.mul_left_comm s 4294967296]
  omega
theorem limbCols_append(s:Int)(a b:List Nat):limbCols s (a++b)=limbCols s a++limbCols s b:=by
 induction a with
 |nil=>rfl
 |cons l r ih=>simp[limbCols,ih]
theorem limbCols_length(s:Int)(ls:List Nat):(limbCols s ls).length=2*ls.length:=by
 induction ls with
 |nil=>rfl
 |cons l r ih=>simp[limbCols,ih];omega
theorem limbCols_bound{s:Int}(hs:s=1∨s= -1){ls:List Nat}(h:Lm ls):∀c∈limbCols s ls,-65535≤c∧c≤65535:=by
 induction ls with
 |nil=>intro c hc;cases hc
 |cons l r ih=>
  have hl:=h l List.mem_cons_self
  intro c hc
  rw[limbCols]at hc
  rcases List.mem_cons.1 hc with rfl|hc
  ·rcases hs with rfl|rfl<;>omega
  rcases List.mem_cons.1 hc with rfl|hc
  ·rcases hs with rfl|rfl<;>omega
  ·exact ih (fun x hx=>h x (List.mem_cons_of_mem _ hx)) c hc
/-- of a number that is not negative the columns are digits, and the upper ones tell the rest -/
theorem limbCols_digits{ls:List Nat}(h:Lm ls):∀c∈limbCols 1 ls,0≤c∧c≤65535:=fun c hc=>by
 induction ls with
 |nil=>cases hc
 |cons l r ih=>
  have hl:=h l List.mem_cons_self
  rw[limbCols]at hc
  rcases List.mem_cons.1 hc with rfl|hc
  ·omega
  rcases List.mem_cons.1 hc with rfl|hc
  ·omega
  ·exact ih (fun x hx=>h x (List.mem_cons_of_mem _ hx)) hc
theorem colval_drop{cs:List Int}{i:Nat}{c:Int}(h:cs[i]? =some c):colval (cs.drop i)=c+65536*colval (cs.drop (i+1)):=by
 rw[List.drop_eq_getElem_cons (List.getElem?_eq_some_iff.1 h).1,colval]
 have:=(List.getElem?_eq_some_iff.1 h).2
 rw[this]
end Go.Ex

/- Small lemmas on sizes; division for the laws of chapter 1. No condition. -/
namespace Go.Ex
open Go Go.Sx Go.Proofs

theorem ln_limbs{ls:List Nat}{k:Nat}(h:Lm ls)(hl:ls.length≤k):ln (val ls)≤k:=ln_le.2 (Nat.lt_of_lt_of_le (val_lt h) (wt_le hl))
theorem Cv.false{S:Nat→Prop}{B:Nat}{iv:Iv}{g:Nat}(h:Cv (fun _=>False) B iv g):Cv S B iv g:=h.elim (fun h=>h.elim) .inr
end Go.Ex

/- The fractions that package exact exports. Printed by program. No condition but sizes. -/
namespace Go.Ex
open Go Go.Sx Go.Proofs

theorem pubMul_c{S:Nat→Prop}{w:World}{v u:Value}{x1 x2 y1 y2:Int}(hS:Old S w)(hx:RatR w S v x1 x2)(hy:RatR w S u y1 y2)(hl0:ln x1.natAbs≤100000)(hl1:ln x2.natAbs≤100000)(hl2:ln y1.natAbs≤100000)(hl3:ln y2.natAbs≤100000):
  Con PG N.exact_Mul #[v,u] w (Ret w fun v' w2=>RatC w2 (Nw (fun _=>False) w w2) v' ((ratio x1 x2)*(ratio y1 y2))):=by
 have hw:Bel w.heap.size w w:=Bel.refl
 have r1:=rl_ratio x1 x2
 have r2:=rl_ratio y1 y2
 have r3:=rl_add (ratio x1 x2) (ratio y1 y2)
 have r4:=rl_mul (ratio x1 x2) (ratio y1 y2)
 have r5:=rl_neg (ratio y1 y2)
 have r6:=rl_sub (ratio x1 x2) (ratio y1 y2)
 replace hx:=hx.weak (S':=Cv S w.heap.size []) fun _ h=>.inl h
 replace hy:=hy.weak (S':=Cv S w.heap.size []) fun _ h=>.inl h
 obtain⟨b1,a1,n1,c1,b2,a2,n2,c2,rfl⟩:=hx.shape
 obtain⟨b3,a3,n3,c3,b4,a4,n4,c4,rfl⟩:=hy.shape
 refine in_exact_Mul (by simp) ?_
 conv=>whnf
 refine drawn_of_pi hτ hmix [.x 0,.x 2,.x 1,.x 3,.x 4,.x 5,.x 6] (by kernel_rfl) (by kernel_rfl) ?_
 conv=>whnf
 refine cE hw (Φ:=fun _ w' v w2=>FracR w2 (Nw (fun _=>False) w' w2) v ((ratio x1 x2))) (fun ρ w' r=>value_c (Rel.old r hS) (hx.rel r hS) (by omega) (by omega)) ?_
 rintro ρ wa1 v1 wb1 iv1 r he hw h_ hn
 clear hx
 replace hy:=hy.past r hS he (mC h_)
 have hX:=hn.got (S:=fun _=>False) r.baseLe (mN h_)
 clear r
 obtain⟨s1_0,s1_1,s1_2,s1_3,s1_4,s1_5,s1_6,s1_7,rfl⟩:=hX.shape
 conv=>whnf
 refine cE hw (Φ:=fun _ w' v w2=>FracR w2 (Nw (fun _=>False) w' w2) v ((ratio y1 y2))) (fun ρ w' r=>value_c (Rel.old r hS) (hy.rel r hS) (by omega) (by omega)) ?_
 rintro ρ wa2 v2 wb2 iv2 r he hw h_ hn
 clear hy
 replace hX:=hX.past r (oldF w) he (mC h_)
 have hY:=hn.got (S:=fun _=>False) r.baseLe (mN h_)
 clear r
 obtain⟨s2_0,s2_1,s2_2,s2_3,s2_4,s2_5,s2_6,s2_7,rfl⟩:=hY.shape
 conv=>whnf
 refine cE hw (Φ:=fun _ w' v w2=>FracR w2 (Nw (fun _=>False) w' w2) v ((ratio x1 x2)*(ratio y1 y2))) (fun ρ w' r=>ftimes_c (Rel.old r (oldF w)) (hX.rel r (oldF w)) (hY.rel r (oldF w)) (by omega) (by omega)) ?_
 rintro ρ wa3 v3 wb3 iv3 r he hw h_ hn
 clear hX
 clear hY
 have hP:=hn.got (S:=fun _=>False) r.baseLe (mN h_)
 clear r
 obtain⟨s3_0,s3_1,s3_2,s3_3,s3_4,s3_5,s3_6,s3_7,rfl⟩:=hP.shape
 conv=>whnf
 refine cE hw (Φ:=fun _ w' v w2=>RatC w2 (Nw (fun _=>False) w' w2) v ((ratio x1 x2)*(ratio y1 y2))) (fun ρ w' r=>fgive_c (Rel.old r (oldF w)) (hP.rel r (oldF w)) (by omega)) ?_
 rintro ρ wa4 v4 wb4 iv4 r he hw h_ hn
 clear hP
 have hC:=hn.got (S:=fun _=>False) r.baseLe (mN h_)
 clear r
 obtain⟨s4_0,s4_1,s4_2,s4_3,s4_4,s4_5,s4_6,s4_7,rfl⟩:=hC.shape
 conv=>whnf
 intro ρe we re
 exact⟨_,rfl,hw.tr re.bel,hC.out re (oldF w)⟩

theorem pubSub_c{S:Nat→Prop}{w:World}{v u:Value}{x1 x2 y1 y2:Int}(hS:Old S w)(hx:RatR w S v x1 x2)(hy:RatR w S u y1 y2)(hl0:ln x1.natAbs≤100000)(hl1:ln x2.natAbs≤100000)(hl2:ln y1.natAbs≤100000)(hl3:ln y2.natAbs≤100000):
  Con PG N.exact_Sub #[v,u] w (Ret w fun v' w2=>RatC w2 (Nw (fun _=>False) w w2) v' ((ratio x1 x2)-(ratio y1 y2))):=by
 have hw:Bel w.heap.size w w:=Bel.refl
 have r1:=rl_ratio x1 x2
 have r2:=rl_ratio y1 y2
 have r3:=rl_add (ratio x1 x2) (ratio y1 y2)
 have r4:=rl_mul (ratio x1 x2) (ratio y1 y2)
 have r5:=rl_neg (ratio y1 y2)
 have r6:=rl_sub (ratio x1 x2) (ratio y1 y2)
 replace hx:=hx.weak (S':=Cv S w.heap.size []) fun _ h=>.inl h
 replace hy:=hy.weak (S':=Cv S w.heap.size []) fun _ h=>.inl h
 obtain⟨b1,a1,n1,c1,b2,a2,n2,c2,rfl⟩:=hx.shape
 obtain⟨b3,a3,n3,c3,b4,a4,n4,c4,rfl⟩:=hy.shape
 refine in_exact_Sub (by simp) ?_
 conv=>whnf
 refine drawn_of_pi hτ hmix [.x 0,.x 2,.x 1,.x 3,.x 4,.x 5,.x 6,.x 7] (by kernel_rfl) (by kernel_rfl) ?_
 conv=>whnf
 refine cE hw (Φ:=fun _ w' v w2=>FracR w2 (Nw (fun _=>False) w' w2) v ((ratio x1 x2))) (fun ρ w' r=>value_c (Rel.old r hS) (hx.rel r hS) (by omega) (by omega)) ?_
 rintro ρ wa1 v1 wb1 iv1 r he hw h_ hn
 clear hx
 replace hy:=hy.past r hS he (mC h_)
 have hX:=hn.got (S:=fun _=>False) r.baseLe (mN h_)
 clear r
 obtain⟨s1_0,s1_1,s1_2,s1_3,s1_4,s1_5,s1_6,s1_7,rfl⟩:=hX.shape
 conv=>whnf
 refine cE hw (Φ:=fun _ w' v w2=>FracR w2 (Nw (fun _=>False) w' w2) v ((ratio y1 y2))) (fun ρ w' r=>value_c (Rel.old r hS) (hy.rel r hS) (by omega) (by omega)) ?_
 rintro ρ wa2 v2 wb2 iv2 r he hw h_ hn
 clear hy
 replace hX:=hX.past r (oldF w) he (mC h_)
 have hY:=hn.got (S:=fun _=>False) r.baseLe (mN h_)
 clear r
 obtain⟨s2_0,s2_1,s2_2,s2_3,s2_4,s2_5,s2_6,s2_7,rfl⟩:=hY.shape
 conv=>whnf
 refine callE_con (Φ:=fun _ w' v w2=>FracR w2 (Nw (Cv (fun _=>False) w.heap.size iv2) w' w2) v (-(ratio y1 y2))) (fun ρ w' r=>fminus_c (Rel.old r (oldF w)) (hY.rel r (oldF w))) ?_
 rintro ρ wa3 v3 wb3 r he hb hn
 replace hw:=hw.tr hb
 replace hX:=hX.past (iv':=(wa3.heap.size,wb3.heap.size)::iv2) r (oldF w) he fun x hx=>List.mem_cons_of_mem _ hx
 clear hY
 have hM:=hn.old r.baseLe
 clear r he hb hn
 generalize (wa3.heap.size,wb3.heap.size)::iv2=iv3 at*
 obtain⟨s3_0,s3_1,s3_2,s3_3,s3_4,s3_5,s3_6,s3_7,rfl⟩:=hM.shape
 conv=>whnf
 refine cE hw (Φ:=fun _ w' v w2=>FracR w2 (Nw (fun _=>False) w' w2) v ((ratio x1 x2)-(ratio y1 y2))) (fun ρ w' r=>(Rat.sub_eq_add_neg (ratio x1 x2) (ratio y1 y2))▸fplus_c (Rel.old r (oldF w)) (hX.rel r (oldF w)) (hM.rel r (oldF w)) (by omega) (by omega)) ?_
 rintro ρ wa4 v4 wb4 iv4 r he hw h_ hn
 clear hX
 clear hM
 have hP:=hn.got (S:=fun _=>False) r.baseLe (mN h_)
 clear r he hn
 obtain⟨s4_0,s4_1,s4_2,s4_3,s4_4,s4_5,s4_6,s4_7,rfl⟩:=hP.shape
 conv=>whnf
 refine cE hw (Φ:=fun _ w' v w2=>RatC w2 (Nw (fun _=>False) w' w2) v ((ratio x1 x2)-(ratio y1 y2))) (fun ρ w' r=>fgive_c (Rel.old r (oldF w)) (hP.rel r (oldF w)) (by omega)) ?_
 rintro ρ wa5 v5 wb5 iv5 r he hw h_ hn
 clear hP
 have hC:=hn.got (S:=fun _=>False) r.baseLe (mN h_)
 clear r he hn
 obtain⟨s5_0,s5_1,s5_2,s5_3,s5_4,s5_5,s5_6,s5_7,rfl⟩:=hC.shape
 conv=>whnf
 intro ρe we re
 exact⟨_,rfl,hw.tr re.bel,hC.out re (oldF w)⟩

theorem fcmp_c{S:Nat→Prop}{w:World}{v u:Value}{f g:Rat}(hS:Old S w)(hf:FracR w S v f)(hg:FracR w S u g)(hlf:rl f≤10000000000)(hlg:rl g≤10000000000):
  Con PG N.exact_fraction_cmp #[v,u] w (Ret w fun v' w2=>v'= .int .i64 (rs (f-g))):=by
 have hw:Bel w.heap.size w w:=Bel.refl
 have l1:=rl_num f
 have l2:=rl_den' f
 have l3:=rl_num g
 have l4:=rl_den' g
 have m0:=ln_mul_abs f.num g.den
 have m1:=ln_mul_abs g.num f.den
 replace hf:=hf.weak (S':=Cv S w.heap.size []) fun _ h=>.inl h
 replace hg:=hg.weak (S':=Cv S w.heap.size []) fun _ h=>.inl h
 obtain⟨b1,a1,n1,c1,b2,a2,n2,c2,rfl⟩:=hf.shape
 obtain⟨b3,a3,n3,c3,b4,a4,n4,c4,rfl⟩:=hg.shape
 have hfn:=hf.num
 have hfd:=hf.den
 clear hf
 have hgn:=hg.num
 have hgd:=hg.den
 clear hg
 refine in_exact_fraction_cmp (by simp) ?_
 conv=>whnf
 refine drawn_of_pi hτ hmix [.x 0,.x 1,.x 2,.x 3,.x 5,.x 6,.x 7,.x 8,.x 4,.x 9,.x 10,.x 11] (by kernel_rfl) (by kernel_rfl) ?_
 conv=>whnf
 refine cE hw (Φ:=fun _ w' v w2=>NumR w2 (Nw (fun _=>False) w' w2) v (f.num*(g.den:Int))) (fun ρ w' r=>numTimes_c (Rel.old r hS) (hfn.rel r hS) (hgd.rel r hS) (by omega) (by omega)) ?_
 rintro ρ wa1 v1 wb1 iv1 r he hw h_ hn
 clear hfn
 replace hfd:=hfd.past r hS he (mC h_)
 replace hgn:=hgn.past r hS he (mC h_)
 clear hgd
 have hA:=hn.got (S:=fun _=>False) r.baseLe (mN h_)
 clear r
 obtain⟨s1_0,s1_1,s1_2,s1_3,rfl⟩:=hA.shape
 conv=>whnf
 refine cE hw (Φ:=fun _ w' v w2=>NumR w2 (Nw (fun _=>False) w' w2) v (g.num*(f.den:Int))) (fun ρ w' r=>numTimes_c (Rel.old r hS) (hgn.rel r hS) (hfd.rel r hS) (by omega) (by omega)) ?_
 rintro ρ wa2 v2 wb2 iv2 r he hw h_ hn
 clear hfd
 clear hgn
 replace hA:=hA.past r (oldF w) he (mC h_)
 have hB:=hn.got (S:=fun _=>False) r.baseLe (mN h_)
 clear r
 obtain⟨s2_0,s2_1,s2_2,s2_3,rfl⟩:=hB.shape
 conv=>whnf
 refine cE hw (Φ:=fun _ w' v w2=>v= .int .i64 (rs (f-g))) (fun ρ w' r=>(rat_cmp f g)▸numCmp_c (Rel.old r (oldF w)) (hA.rel r (oldF w)) (hB.rel r (oldF w)) (by omega) (by omega)) ?_
 rintro ρ wa3 v3 wb3 iv3 r he hw h_ rfl
 clear hA
 clear hB
 clear r
 conv=>whnf
 intro ρe we re
 exact⟨_,rfl,hw.tr re.bel,rfl⟩

theorem pubCmp_c{S:Nat→Prop}{w:World}{v u:Value}{x1 x2 y1 y2:Int}(hS:Old S w)(hx:RatR w S v x1 x2)(hy:RatR w S u y1 y2)(hl0:ln x1.natAbs≤100000)(hl1:ln x2.natAbs≤100000)(hl2:ln y1.natAbs≤100000)(hl3:ln y2.natAbs≤100000):
  Con PG N.exact_Cmp #[v,u] w (Ret w fun v' w2=>v'= .int .i64 (rs ((ratio x1 x2)-(ratio y1 y2)))):=by
 have hw:Bel w.heap.size w w:=Bel.refl
 have r1:=rl_ratio x1 x2
 have r2:=rl_ratio y1 y2
 have r3:=rl_add (ratio x1 x2) (ratio y1 y2)
 have r4:=rl_mul (ratio x1 x2) (ratio y1 y2)
 have r5:=rl_neg (ratio y1 y2)
 have r6:=rl_sub (ratio x1 x2) (ratio y1 y2)
 replace hx:=hx.weak (S':=Cv S w.heap.size []) fun _ h=>.inl h
 replace hy:=hy.weak (S':=Cv S w.heap.size []) fun _ h=>.inl h
 obtain⟨b1,a1,n1,c1,b2,a2,n2,c2,rfl⟩:=hx.shape
 obtain⟨b3,a3,n3,c3,b4,a4,n4,c4,rfl⟩:=hy.shape
 refine in_exact_Cmp (by simp) ?_
 conv=>whnf
 refine drawn_of_pi hτ hmix [.x 0,.x 2,.x 1,.x 3,.x 4,.x 5] (by kernel_rfl) (by kernel_rfl) ?_
 conv=>whnf
 refine cE hw (Φ:=fun _ w' v w2=>FracR w2 (Nw (fun _=>False) w' w2) v ((ratio x1 x2))) (fun ρ w' r=>value_c (Rel.old r hS) (hx.rel r hS) (by omega) (by omega)) ?_
 rintro ρ wa1 v1 wb1 iv1 r he hw h_ hn
 clear hx
 replace hy:=hy.past r hS he (mC h_)
 have hX:=hn.got (S:=fun _=>False) r.baseLe (mN h_)
 clear r
 obtain⟨s1_0,s1_1,s1_2,s1_3,s1_4,s1_5,s1_6,s1_7,rfl⟩:=hX.shape
 conv=>whnf
 refine cE hw (Φ:=fun _ w' v w2=>FracR w2 (Nw (fun _=>False) w' w2) v ((ratio y1 y2))) (fun ρ w' r=>value_c (Rel.old r hS) (hy.rel r hS) (by omega) (by omega)) ?_
 rintro ρ wa2 v2 wb2 iv2 r he hw h_ hn
 clear hy
 replace hX:=hX.past r (oldF w) he (mC h_)
 have hY:=hn.got (S:=fun _=>False) r.baseLe (mN h_)
 clear r
 obtain⟨s2_0,s2_1,s2_2,s2_3,s2_4,s2_5,s2_6,s2_7,rfl⟩:=hY.shape
 conv=>whnf
 refine cE hw (Φ:=fun _ w' v w2=>v= .int .i64 (rs ((ratio x1 x2)-(ratio y1 y2)))) (fun ρ w' r=>fcmp_c (Rel.old r (oldF w)) (hX.rel r (oldF w)) (hY.rel r (oldF w)) (by omega) (by omega)) ?_
 rintro ρ wa3 v3 wb3 iv3 r he hw h_ rfl
 clear hX
 clear hY
 clear r
 conv=>whnf
 intro ρe we re
 exact⟨_,rfl,hw.tr re.bel,rfl⟩

theorem rs_zero{q:Rat}:rs q=0↔q=0:=by rw[rs,Int.sign_eq_zero_iff_zero,Rat.num_eq_zero]
theorem pubQuo_c{S:Nat→Prop}{w:World}{v u:Value}{x1 x2 y1 y2:Int}(hS:Old S w)(hx:RatR w S v x1 x2)(hy:RatR w S u y1 y2)(hl0:ln x1.natAbs≤100000)(hl1:ln x2.natAbs≤100000)(hl2:ln y1.natAbs≤100000)(hl3:ln y2.natAbs≤100000):
  Con PG N.exact_Quo #[v,u] w (Ret w fun v' w2=>((ratio y1 y2)=0∧v'= .tuple #[ratNil,.int .i64 9])∨((ratio y1 y2)≠0∧∃q,v'= .tuple #[q,.int .i64 0]∧RatC w2 (Nw (fun _=>False) w w2) q ((ratio x1 x2) / (ratio y1 y2)))):=by
 have hw:Bel w.heap.size w w:=Bel.refl
 have r1:=rl_ratio x1 x2
 have r2:=rl_ratio y1 y2
 have r3:=rl_add (ratio x1 x2) (ratio y1 y2)
 have r4:=rl_mul (ratio x1 x2) (ratio y1 y2)
 have r5:=rl_neg (ratio y1 y2)
 have r6:=rl_sub (ratio x1 x2) (ratio y1 y2)
 replace hx:=hx.weak (S':=Cv S w.heap.size []) fun _ h=>.inl h
 replace hy:=hy.weak (S':=Cv S w.heap.size []) fun _ h=>.inl h
 obtain⟨b1,a1,n1,c1,b2,a2,n2,c2,rfl⟩:=hx.shape
 obtain⟨b3,a3,n3,c3,b4,a4,n4,c4,rfl⟩:=hy.shape
 refine in_exact_Quo (by simp) ?_
 conv=>whnf
 refine callE_S (cE hw (Φ:=fun _ w' v w2=>FracR w2 (Nw (fun _=>False) w' w2) v ((ratio y1 y2))) (fun ρ w' r=>value_c (Rel.old r hS) (hy.rel r hS) (by omega) (by omega)) ?_)
 rintro ρ wa1 v1 wb1 iv1 r he hw h_ hn
 replace hx:=hx.past r hS he (mC h_)
 clear hy
 have hY:=hn.got (S:=fun _=>False) r.baseLe (mN h_)
 clear r
 obtain⟨s1_0,s1_1,s1_2,s1_3,s1_4,s1_5,s1_6,s1_7,rfl⟩:=hY.shape
 conv=>whnf
 refine callE_S (cE hw (Φ:=fun _ w' v w2=>v= .int .i64 (rs (ratio y1 y2))) (fun ρ w' r=>fsign_c (Rel.old r (oldF w)) (hY.rel r (oldF w))) ?_)
 rintro ρ wa2 v2 wb2 iv2 r he hw h_ rfl
 replace hx:=hx.past r hS he (mC h_)
 replace hY:=hY.past r (oldF w) he (mC h_)
 clear r
 conv=>whnf
 refine BrS.mk (fun h=>?_) (fun h=>?_)
 ·have h:rs (ratio y1 y2)=0:=by simpa using h
  conv=>whnf
  intro ρe we re
  exact⟨_,rfl,hw.tr re.bel,.inl ⟨rs_zero.1 h,rfl⟩⟩
 have h:(ratio y1 y2)≠0:=fun e=>by rw[e]at h;exact absurd h (by decide)
 have r7:=rl_div (ratio x1 x2) h
 conv=>whnf
 refine drawn_of_pi hτ hmix [.x 0,.x 2,.x 1,.x 3,.x 4,.x 5,.x 6] (by kernel_rfl) (by kernel_rfl) ?_
 conv=>whnf
 refine cE hw (Φ:=fun _ w' v w2=>FracR w2 (Nw (fun _=>False) w' w2) v ((ratio x1 x2))) (fun ρ w' r=>value_c (Rel.old r hS) (hx.rel r hS) (by omega) (by omega)) ?_
 rintro ρ wa3 v3 wb3 iv3 r he hw h_ hn
 clear hx
 replace hY:=hY.past r (oldF w) he (mC h_)
 have hX:=hn.got (S:=fun _=>False) r.baseLe (mN h_)
 clear r
 obtain⟨s3_0,s3_1,s3_2,s3_3,s3_4,s3_5,s3_6,s3_7,rfl⟩:=hX.shape
 conv=>whnf
 refine cE hw (Φ:=fun _ w' v w2=>FracR w2 (Nw (fun _=>False) w' w2) v ((ratio x1 x2) / (ratio y1 y2))) (fun ρ w' r=>fby_c (Rel.old r (oldF w)) (hX.rel r (oldF w)) (hY.rel r (oldF w)) (by omega) (by omega) h) ?_
 rintro ρ wa4 v4 wb4 iv4 r he hw h_ hn
 clear hY
 clear hX
 have hP:=hn.got (S:=fun _=>False) r.baseLe (mN h_)
 clear r
 obtain⟨s4_0,s4_1,s4_2,s4_3,s4_4,s4_5,s4_6,s4_7,rfl⟩:=hP.shape
 conv=>whnf
 refine cE hw (Φ:=fun _ w' v w2=>RatC w2 (Nw (fun _=>False) w' w2) v ((ratio x1 x2) / (ratio y1 y2))) (fun ρ w' r=>fgive_c (Rel.old r (oldF w)) (hP.rel r (oldF w)) (by omega)) ?_
 rintro ρ wa5 v5 wb5 iv5 r he hw h_ hn
 clear hP
 have hC:=hn.got (S:=fun _=>False) r.baseLe (mN h_)
 clear r
 obtain⟨s5_0,s5_1,s5_2,s5_3,s5_4,s5_5,s5_6,s5_7,rfl⟩:=hC.shape
 conv=>whnf
 intro ρe we re
 exact⟨_,rfl,hw.tr re.bel,.inr ⟨h,_,rfl,hC.out re (oldF w)⟩⟩

theorem rl_whole{n:Int}(h1: -9223372036854775808≤n)(h2:n≤9223372036854775807):rl (n:Rat)≤2:=by
 have:=ln_small h1 h2
 unfold rl
 rw[Rat.num_intCast,Rat.den_intCast]
 have:ln 1=1:=by decide
 omega
theorem pubWhole_c(n:Int)(w:World)(h1: -9223372036854775808≤n)(h2:n≤9223372036854775807):
  Con PG N.exact_Whole #[.int .i64 n] w (Ret w fun v' w2=>RatC w2 (Nw (fun _=>False) w w2) v' (n:Rat)):=by
 have hw:Bel w.heap.size w w:=Bel.refl
 have hl:=rl_whole h1 h2
 refine in_exact_Whole (by simp) ?_
 conv=>whnf
 refine callE_S (cE hw (Φ:=fun _ w' v w2=>FracR w2 (Nw (fun _=>False) w' w2) v (n)) (fun ρ w' r=>whole_c n w' h1 h2) ?_)
 rintro ρ wa1 v1 wb1 iv1 r he hw h_ hn
 have hX:=hn.got (S:=fun _=>False) r.baseLe (mN h_)
 clear r
 obtain⟨s1_0,s1_1,s1_2,s1_3,s1_4,s1_5,s1_6,s1_7,rfl⟩:=hX.shape
 conv=>whnf
 refine callE_S (cE hw (Φ:=fun _ w' v w2=>RatC w2 (Nw (fun _=>False) w' w2) v (n)) (fun ρ w' r=>fgive_c (Rel.old r (oldF w)) (hX.rel r (oldF w)) (by omega)) ?_)
 rintro ρ wa2 v2 wb2 iv2 r he hw h_ hn
 clear hX
 have hC:=hn.got (S:=fun _=>False) r.baseLe (mN h_)
 clear r
 obtain⟨s2_0,s2_1,s2_2,s2_3,s2_4,s2_5,s2_6,s2_7,rfl⟩:=hC.shape
 conv=>whnf
 intro ρe we re
 exact⟨_,rfl,hw.tr re.bel,hC.out re (oldF w)⟩

theorem pubRatio_c(a b:Int)(w:World)(h1a: -9223372036854775808≤a)(h2a:a≤9223372036854775807)(h1b: -9223372036854775808≤b)(h2b:b≤9223372036854775807):
  Con PG N.exact_Ratio #[.int .i64 a,.int .i64 b] w (Ret w fun v' w2=>(b=0∧v'= .tuple #[ratNil,.int .i64 9])∨(b≠0∧∃q,v'= .tuple #[q,.int .i64 0]∧RatC w2 (Nw (fun _=>False) w w2) q (Rat.divInt a b))):=by
 have hw:Bel w.heap.size w w:=Bel.refl
 have ha:=ln_small h1a h2a
 have hb:=ln_small h1b h2b
 refine in_exact_Ratio (by simp) ?_
 conv=>whnf
 refine BrS.mk (fun h=>?_) (fun h=>?_)
 ·have h:b=0:=by simpa using h
  conv=>whnf
  intro ρe we re
  exact⟨_,rfl,hw.tr re.bel,.inl ⟨h,rfl⟩⟩
 have h:b≠0:=by simpa using h
 have hq:=rl_divInt (a:=a) h
 conv=>whnf
 refine callE_S (cE hw (Φ:=fun _ w' v w2=>NumR w2 (Nw (fun _=>False) w' w2) v a) (fun ρ w' r=>small_c a w' h1a h2a) ?_)
 rintro ρ wa1 v1 wb1 iv1 r he hw h_ hn
 have hA:=hn.got (S:=fun _=>False) r.baseLe (mN h_)
 clear r
 obtain⟨s1_0,s1_1,s1_2,s1_3,rfl⟩:=hA.shape
 conv=>whnf
 refine callE_S (cE hw (Φ:=fun _ w' v w2=>NumR w2 (Nw (fun _=>False) w' w2) v b) (fun ρ w' r=>small_c b w' h1b h2b) ?_)
 rintro ρ wa2 v2 wb2 iv2 r he hw h_ hn
 replace hA:=hA.past r (oldF w) he (mC h_)
 have hB:=hn.got (S:=fun _=>False) r.baseLe (mN h_)
 clear r
 obtain⟨s2_0,s2_1,s2_2,s2_3,rfl⟩:=hB.shape
 conv=>whnf
 refine callE_S (cE hw (Φ:=fun _ w' v w2=>FracR w2 (Nw (fun _=>False) w' w2) v (Rat.divInt a b)) (fun ρ w' r=>over_c (Rel.old r (oldF w)) (hA.rel r (oldF w)) (hB.rel r (oldF w)) h (by omega) (by omega)) ?_)
 rintro ρ wa3 v3 wb3 iv3 r he hw h_ hn
 clear hA
 clear hB
 have hP:=hn.got (S:=fun _=>False) r.baseLe (mN h_)
 clear r
 obtain⟨s3_0,s3_1,s3_2,s3_3,s3_4,s3_5,s3_6,s3_7,rfl⟩:=hP.shape
 conv=>whnf
 refine callE_S (cE hw (Φ:=fun _ w' v w2=>RatC w2 (Nw (fun _=>False) w' w2) v (Rat.divInt a b)) (fun ρ w' r=>fgive_c (Rel.old r (oldF w)) (hP.rel r (oldF w)) (by omega)) ?_)
 rintro ρ wa4 v4 wb4 iv4 r he hw h_ hn
 clear hP
 have hC:=hn.got (S:=fun _=>False) r.baseLe (mN h_)
 clear r
 obtain⟨s4_0,s4_1,s4_2,s4_3,s4_4,s4_5,s4_6,s4_7,rfl⟩:=hC.shape
 conv=>whnf
 intro ρe we re
 exact⟨_,rfl,hw.tr re.bel,.inr ⟨h,_,rfl,hC.out re (oldF w)⟩⟩

end Go.Ex

/- brief of the laws of chapter 1; fractions of package exact by their values. Printed by program. No condition but sizes. -/
namespace Go.Ex
open Go Go.Sx Go.Proofs

theorem addr_two(ad:Addr)(i j:Nat):(ad.add i).add j=ad.add (i+j):=by
 unfold Addr.add
 split<;>split<;>simp_all<;>omega
/-- a fraction of the api by its value; its parts are not too long -/
def RatV(w:World)(S:Nat→Prop)(v:Value)(q:Rat):Prop:=∃a b,RatR w S v a b∧ratio a b=q∧ln a.natAbs≤100000∧ln b.natAbs≤100000
theorem RatV.keep{S:Nat→Prop}{w w2:World}{v:Value}{q:Rat}(h:RatV w S v q)(hk:∀g,S g→w2.heap[g]? =w.heap[g]?):RatV w2 S v q:=by
 obtain⟨a,b,h1,h2⟩:=h;exact⟨a,b,h1.keep hk,h2⟩
theorem RatV.shape{S:Nat→Prop}{w:World}{v:Value}{q:Rat}(h:RatV w S v q):∃b a n c b2 a2 n2 c2,v= .agg #[.bool b,.slice a n c,.bool b2,.slice a2 n2 c2]:=by
 obtain⟨a,b,h1,_⟩:=h;exact h1.shape
theorem ratio_self(q:Rat):ratio q.num q.den=q:=by rw[ratio,if_neg (den_ne q),Rat.num_divInt_den]
theorem RatC.v{S:Nat→Prop}{w:World}{v:Value}{q:Rat}(h:RatC w S v q)(hl:rl q≤100000):RatV w S v q:=
 ⟨_,_,h.r,ratio_self q,Nat.le_trans (rl_num q) hl,Nat.le_trans (rl_den' q) hl⟩
section
variable{S S':Nat→Prop}{H:Hp}{nx:Nat}{iv iv':Iv}{B:Nat}{w w' w2:World}{ρ:Nat→Sx.Val}{v:Value}{q:Rat}
end

theorem vMul_c{S:Nat→Prop}{w:World}{v u:Value}{p q:Rat}(hS:Old S w)(hp:RatV w S v p)(hq:RatV w S u q):Con PG N.exact_Mul #[v,u] w (Ret w fun v' w2=>RatC w2 (Nw (fun _=>False) w w2) v' (p*q)):=by
 obtain⟨a,b,h1,rfl,h2,h3⟩:=hp
 obtain⟨c,d,k1,rfl,k2,k3⟩:=hq
 exact pubMul_c hS h1 k1 h2 h3 k2 k3
theorem vSub_c{S:Nat→Prop}{w:World}{v u:Value}{p q:Rat}(hS:Old S w)(hp:RatV w S v p)(hq:RatV w S u q):Con PG N.exact_Sub #[v,u] w (Ret w fun v' w2=>RatC w2 (Nw (fun _=>False) w w2) v' (p-q)):=by
 obtain⟨a,b,h1,rfl,h2,h3⟩:=hp
 obtain⟨c,d,k1,rfl,k2,k3⟩:=hq
 exact pubSub_c hS h1 k1 h2 h3 k2 k3
theorem vCmp_c{S:Nat→Prop}{w:World}{v u:Value}{p q:Rat}(hS:Old S w)(hp:RatV w S v p)(hq:RatV w S u q):Con PG N.exact_Cmp #[v,u] w (Ret w fun v' _=>v'= .int .i64 (rs (p-q))):=by
 obtain⟨a,b,h1,rfl,h2,h3⟩:=hp
 obtain⟨c,d,k1,rfl,k2,k3⟩:=hq
 exact pubCmp_c hS h1 k1 h2 h3 k2 k3
theorem vQuo_c{S:Nat→Prop}{w:World}{v u:Value}{p q:Rat}(hS:Old S w)(hp:RatV w S v p)(hq:RatV w S u q):Con PG N.exact_Quo #[v,u] w (Ret w fun v' w2=>(q=0∧v'= .tuple #[ratNil,.int .i64 9])∨(q≠0∧∃r,v'= .tuple #[r,.int .i64 0]∧RatC w2 (Nw (fun _=>False) w w2) r (p / q))):=by
 obtain⟨a,b,h1,rfl,h2,h3⟩:=hp
 obtain⟨c,d,k1,rfl,k2,k3⟩:=hq
 exact pubQuo_c hS h1 k1 h2 h3 k2 k3
end Go.Ex

/- signs of fractions; the floor of a fraction. Plain. -/
namespace Go.Ex
theorem rs_neg(q:Rat):rs (-q)= -rs q:=by rw[rs,rs,Rat.neg_num,Int.sign_neg]
end Go.Ex
