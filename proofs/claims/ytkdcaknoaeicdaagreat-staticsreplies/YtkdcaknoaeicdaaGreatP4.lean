/- A part of the proof: texts X10 to L5. Each tells its conditions in its theorems. -/
import Derived.Test.YtkdcaknoaeicdaaGreatP3
namespace Go.Ex
open Go Go.Sx Go.Proofs
def fG(n:Nat):Nat:=if n=0 then 0 else n.log2+1
theorem DT{x k:Nat}(h:2^k<=x):x.log2=(x / 2^k).log2+k:=by
 have hp:=bY k;have hy:x / 2^k≠0:=by have:=Nat.div_pos h hp;omega
 have h1:=Nat.log2_self_le hy;have h2:=@Nat.lt_log2_self (x / 2^k);rw[Nat.log2_eq_iff (by omega)];refine⟨?_,?_⟩
 ·rw[Nat.pow_add];exact(Nat.le_div_iff_mul_le hp).1 h1
 ·rw[show (x / 2^k).log2+k+1=(x / 2^k).log2+1+k by omega,Nat.pow_add];exact(Nat.div_lt_iff_lt_mul hp).1 h2
theorem vH{x k:Nat}(h:2^k<=x):fG x=k+fG (x / 2^k):=by
 have hp:=bY k;have hy:x / 2^k≠0:=by have:=Nat.div_pos h hp;omega
 rw[fG,fG,aL hy,aL (by omega),DT h];omega
theorem tZ{n:Nat}(h:n<256):IntKind.u8.wrap (n:Int)=(n:Int):=by
 show((n:Int) % 256)=_;omega
theorem ta{n:Nat}(h:n<256):(UInt8.ofNat (fG n)).toNat=fG n:=by
 have:∀n,n<256->(UInt8.ofNat (fG n)).toNat=fG n:=by decide +kernel
 exact this n h
theorem lL{x:Nat}(h:x<256):fG x<=8:=by
 have:∀n,n<256->fG n<=8:=by decide +kernel
 exact this x h
theorem Bd(n:Nat)(h:n<256):(⟨#[0,1,2,2,3,3,3,3,4,4,4,4,4,4,4,4,5,5,5,5,5,5,5,5,5,5,5,5,5,5,5,5,6,6,6,6,6,6,6,6,6,6,6,6,6,6,6,6,6,6,6,6,6,6,6,6,6,6,6,6,6,6,6,6,7,7,7,7,7,7,7,7,7,7,7,7,7,7,7,7,7,7,7,7,7,7,7,7,7,7,7,7,7,7,7,7,7,7,7,7,7,7,7,7,7,7,7,7,7,7,7,7,7,7,7,7,7,7,7,7,7,7,7,7,7,7,7,7,8,8,8,8,8,8,8,8,8,8,8,8,8,8,8,8,8,8,8,8,8,8,8,8,8,8,8,8,8,8,8,8,8,8,8,8,8,8,8,8,8,8,8,8,8,8,8,8,8,8,8,8,8,8,8,8,8,8,8,8,8,8,8,8,8,8,8,8,8,8,8,8,8,8,8,8,8,8,8,8,8,8,8,8,8,8,8,8,8,8,8,8,8,8,8,8,8,8,8,8,8,8,8,8,8,8,8,8,8,8,8,8,8,8,8,8,8,8,8,8,8,8,8,8,8,8,8,8]⟩:ByteArray)[((n:Nat):Int).toNat]? =some (UInt8.ofNat (fG n)):=by
 have:∀n,n<256->(⟨#[0,1,2,2,3,3,3,3,4,4,4,4,4,4,4,4,5,5,5,5,5,5,5,5,5,5,5,5,5,5,5,5,6,6,6,6,6,6,6,6,6,6,6,6,6,6,6,6,6,6,6,6,6,6,6,6,6,6,6,6,6,6,6,6,7,7,7,7,7,7,7,7,7,7,7,7,7,7,7,7,7,7,7,7,7,7,7,7,7,7,7,7,7,7,7,7,7,7,7,7,7,7,7,7,7,7,7,7,7,7,7,7,7,7,7,7,7,7,7,7,7,7,7,7,7,7,7,7,8,8,8,8,8,8,8,8,8,8,8,8,8,8,8,8,8,8,8,8,8,8,8,8,8,8,8,8,8,8,8,8,8,8,8,8,8,8,8,8,8,8,8,8,8,8,8,8,8,8,8,8,8,8,8,8,8,8,8,8,8,8,8,8,8,8,8,8,8,8,8,8,8,8,8,8,8,8,8,8,8,8,8,8,8,8,8,8,8,8,8,8,8,8,8,8,8,8,8,8,8,8,8,8,8,8,8,8,8,8,8,8,8,8,8,8,8,8,8,8,8,8,8,8,8,8,8,8]⟩:ByteArray)[n]? =some (UInt8.ofNat (fG n)):=by decide +kernel
 exact this n h
theorem E7(x:Nat)(w:World)(hx:x<4294967296):dQ PG N.uc #[.int .u32 x] w (dU w fun v _=>v= .int .i64 (fG x)):=by
 refine wO (by simp) ?_;conv=>whnf
 refine cW.mk (fun h=>?_) (fun h=>?_)
 ·have h:65536<=x:=by have:=aG h;omega
  conv=>whnf
  refine⟨by decide,((x / 2^16:Nat):Int),lM 16 (by decide),?_⟩;have hb:=vH (k:=16) h;have hy:x / 2^16<65536:=by omega
  rw[hb];generalize x / 2^16=y at*
  conv=>whnf
  refine cW.mk (fun h2=>?_) (fun h2=>?_)
  ·have h2:256<=y:=by have:=aG h2;omega
   conv=>whnf
   refine⟨by decide,((y / 2^8:Nat):Int),lM 8 (by decide),?_⟩;have hb2:=vH (k:=8) h2;have hz:y / 2^8<256:=by omega
   rw[hb2];generalize y / 2^8=z at*
   conv=>whnf
   refine⟨24,by decide,?_⟩;conv=>whnf
   refine⟨(z:Int),tZ hz,?_⟩;conv=>whnf
   refine nM (b:=UInt8.ofNat (fG z)) ((hτ _ _ rfl).i3 rfl) rfl rfl (by omega) (Bd z hz) (fun ρ1 w1 r1=>?_);rw[ta hz];have ht:=lL hz;conv=>whnf
   refine⟨(fG z:Int),by rw[wrap64]<;>omega,?_⟩;conv=>whnf
   refine⟨((24+fG z:Nat):Int),by rw[wrap64]<;>omega,?_⟩;conv=>whnf
   intro ρ3 w3 r3;exact⟨_,rfl,r1.bs.tr r3.bs,by rw[<-Nat.add_assoc];rfl⟩
  ·have hy:y<256:=by have:=aF h2;omega
   conv=>whnf
   refine⟨(y:Int),tZ hy,?_⟩;conv=>whnf
   refine nM (b:=UInt8.ofNat (fG y)) ((hτ _ _ rfl).i3 rfl) rfl rfl (by omega) (Bd y hy) (fun ρ1 w1 r1=>?_);rw[ta hy];have ht:=lL hy;conv=>whnf
   refine⟨(fG y:Int),by rw[wrap64]<;>omega,?_⟩;conv=>whnf
   refine⟨((16+fG y:Nat):Int),by rw[wrap64]<;>omega,?_⟩;conv=>whnf
   intro ρ3 w3 r3;exact⟨_,rfl,r1.bs.tr r3.bs,by rfl⟩
 ·have h:x<65536:=by have:=aF h;omega
  conv=>whnf
  refine cW.mk (fun h2=>?_) (fun h2=>?_)
  ·have h2:256<=x:=by have:=aG h2;omega
   conv=>whnf
   refine⟨by decide,((x / 2^8:Nat):Int),lM 8 (by decide),?_⟩;have hb2:=vH (k:=8) h2;have hz:x / 2^8<256:=by omega
   rw[hb2];generalize x / 2^8=z at*
   conv=>whnf
   refine⟨8,by decide,?_⟩;conv=>whnf
   refine⟨(z:Int),tZ hz,?_⟩;conv=>whnf
   refine nM (b:=UInt8.ofNat (fG z)) ((hτ _ _ rfl).i3 rfl) rfl rfl (by omega) (Bd z hz) (fun ρ1 w1 r1=>?_);rw[ta hz];have ht:=lL hz;conv=>whnf
   refine⟨(fG z:Int),by rw[wrap64]<;>omega,?_⟩;conv=>whnf
   refine⟨((8+fG z:Nat):Int),by rw[wrap64]<;>omega,?_⟩;conv=>whnf
   intro ρ3 w3 r3;exact⟨_,rfl,r1.bs.tr r3.bs,by rfl⟩
  ·have hx:x<256:=by have:=aF h2;omega
   conv=>whnf
   refine⟨(x:Int),tZ hx,?_⟩;conv=>whnf
   refine nM (b:=UInt8.ofNat (fG x)) ((hτ _ _ rfl).i3 rfl) rfl rfl (by omega) (Bd x hx) (fun ρ1 w1 r1=>?_);rw[ta hx];have ht:=lL hx;conv=>whnf
   refine⟨(fG x:Int),by rw[wrap64]<;>omega,?_⟩;conv=>whnf
   refine⟨((0+fG x:Nat):Int),by rw[wrap64]<;>omega,?_⟩;conv=>whnf
   intro ρ3 w3 r3;exact⟨_,rfl,r1.bs.tr r3.bs,by rw[aP];rfl⟩
theorem tT{x k:Nat}:fG x<=k↔x<2^k:=by
 unfold fG;by_cases h:x=0
 ·rw[aQ h,h];exact⟨fun _=>bY k,fun _=>aO _⟩
 ·rw[aL h];constructor
  ·intro h1;exact(Nat.log2_lt h).1 (by omega)
  ·intro h1;have:=(Nat.log2_lt h).2 h1;omega
theorem F9(x:Nat)(w:World)(hx:x<4294967296):dQ PG N.ie #[.int .u32 x] w (dU w fun v _=>v= .int .i64 ((32-fG x:Nat):Int)):=by
 refine lK (by simp) ?_;conv=>whnf
 refine bp (cA (Φ:=fun _ _ v _=>v= .int .i64 (fG x)) (fun ρ w' r=>E7 x w' hx) ?_);rintro ρ w' v w2 r he hb rfl;have h32:fG x<=32:=tT.2 hx;conv=>whnf
 refine⟨((32-fG x:Nat):Int),by rw[wrap64]<;>omega,?_⟩;conv=>whnf
 intro ρ3 w3 r3;exact⟨_,rfl,hb.tr r3.bs,rfl⟩
end Go.Ex
namespace Go.Sx
open Go Go.Ex Go.Proofs
theorem Rel.DU{H:Hp}{nx:Nat}{iv:Iv}{B:Nat}{w w':World}{ρ:Nat->Sx.dN}(r:Rel H nx iv B w ρ w'){id t m:Nat}{ls:List Nat}(h:cT H id=some (.vec t 1 (U ls)))(hm:m=ls.length)(hlm:Lm ls)(hle:ls.length<=9223372036854775807):
  cV w' (fun g=>B<=g∧g<w'.heap.size) ((At.w id m).den ρ) ls:=by
 subst hm;rcases r.vec id t 1 _ h with⟨hn,hu⟩|⟨hn,spare,hb,hc,hcap⟩
 ·have hl:ls=[]:=by cases ls with
   |nil=>rfl
   |cons a b=>simp[U]at hu
  subst hl;have:(At.w id ([]:List Nat).length).den ρ= .slice none 0 0:=by simp[At.den,hn]
  rw[this];exact cV.nil _ _
 ·refine⟨hlm,hle,some ⟨(ρ id).g,0,none⟩,(ρ id).cap,by simp[At.den,hn],?_,fun j x hx=>⟨_,rfl,r.low id _ h hn,?_⟩⟩
  ·have h1:(U ls++spare).length=ls.length+spare.length:=by rw[List.length_append,ei]
   omega
  ·rw[dA,cell_of hb,aP,aJ (by rw[ei];exact(aE.1 hx).1)];exact qO hx
end Go.Sx
namespace Go.Ex
open Go Go.Sx Go.Proofs
theorem E8:PG.underlying T.nat=some (.slice T.uint32):=by
 have h:=(hτ T.nat _ rfl).i4 rfl;exact h
theorem Be{S:Nat->Prop}{w:World}{v:Value}{ls:List Nat}(hS:Old S w)(h:cV w S v ls)(hl:ls.length<=1000000000000):
  dQ PG N.ec #[v] w (dU w fun v' w2=>cV w2 (Nw (fun _=>False) w w2) v' ls):=by
 obtain⟨x,rfl,rfl⟩:=h.la;refine fy (by simp) ?_;conv=>whnf
 refine⟨x.a.isNone,fun ρ w1 o1 o2=>by simp[eqGuard,SV.den,At.den,kM (P:=PG) w1 T.nat T.uint32 x.a x.ls.length x.c 0 0 E8],?_⟩;conv=>whnf
 refine cW.mk (fun h=>?_) (fun h=>?_)
 ·conv=>whnf
  intro ρ3 w3 r3;have hn:x.ls=[]:=by
   cases hx:x.ls with
   |nil=>rfl
   |cons u r=>
    obtain⟨ad,h1,_⟩:=x.cell 0 u (by rw[hx];rfl);rw[h1]at h;simp at h
  exact⟨_,rfl,r3.bs,by rw[hn];exact cV.nil _ _⟩
 ·conv=>whnf
  refine .inl ?_;conv=>whnf
  refine⟨U x.ls,by rw[ei,aR],fun u hu=>by simp only[U,aS]at hu;obtain⟨n,_,rfl⟩:=hu;rfl,fun ρ w1 r h0=>?_,?_⟩
  ·obtain⟨u,hu⟩:∃q,x.ls[0]? =some q:=⟨_,aA h0⟩
   obtain⟨ad,had,_⟩:=x.cell 0 u hu;refine⟨ad,had,fun j u hu=>?_⟩;simp only[U,aN,Option.map_eq_some_iff]at hu;obtain⟨n,hn,rfl⟩:=hu;obtain⟨ad2,had2,hs,hc⟩:=x.cell j n hn;rw[had]at had2;injection had2 with had2;subst had2;exact ig hS cF.refl r hs hc
  conv=>whnf
  refine⟨rfl,by omega,by unfold maxLen;omega,?_⟩;conv=>whnf
  intro ρ3 w3 r3;exact⟨_,rfl,r3.bs,(r3.DU (id:=1) rfl (aP _) x.lm x.le).bz fun g hg=>.inr hg⟩
end Go.Ex
namespace Go.Ex
open Go Go.Sx Go.Proofs
end Go.Ex
namespace Go.Sx
open Go Go.Ex Go.Proofs
theorem Rel.bm{H:Hp}{nx:Nat}{iv:Iv}{B:Nat}{w w':World}{ρ:Nat->Sx.dN}(r:Rel H nx iv B w ρ w'):B<=w'.heap.size:=by have:=r.base;have:=r.size;omega
end Go.Sx
namespace Go.Ex
open Go Go.Sx Go.Proofs
end Go.Ex
namespace Go.Sx
open Go Go.Ex Go.Proofs
theorem Rel.qQ{H:Hp}{nx:Nat}{iv:Iv}{B:Nat}{w w':World}{ρ:Nat->Sx.dN}{ls:List Nat}(r:Rel H nx iv B w ρ w'){id t:Nat}(h:cT H id=some (.box t ((U ls).map At.v)))(hlm:Lm ls)(hle:ls.length<=9223372036854775807):
  cV w' (fun g=>g=(ρ id).g) (.slice (some ⟨(ρ id).g,0,none⟩) ls.length ls.length) ls:=by
 refine⟨hlm,hle,_,_,rfl,aI _,fun j x hx=>⟨_,rfl,rfl,?_⟩⟩;have h0:(⟨(ρ id).g,0,none⟩:Addr).add j=⟨(ρ id).g,j,none⟩:=by
  cases j with
  |zero=>rfl
  |succ j=>simp[Addr.add]
 rw[h0,cell_of (r.box id t _ h),eU];exact qO hx
end Go.Sx
namespace Go.Ex
open Go Go.Sx Go.Proofs
section
variable{S:Nat->Prop}{H:Hp}{nx:Nat}{iv iv':Iv}{B:Nat}{w w' w2:World}{ρ:Nat->Sx.dN}{v:Value}{n:Nat}{ls:List Nat}
theorem Nw.cQ{g:Nat}(h:Nw (fun _=>False) w' w2 g)(hB:B<=w'.heap.size)(hm:(w'.heap.size,w2.heap.size)∈iv):Cv S B iv g:=by
 rcases h with h|h
 ·cases h
 ·exact .inr ⟨by omega,_,_,hm,h.1,h.2⟩
theorem dI.cQ(h:dI w2 (Nw (fun _=>False) w' w2) v n)(hB:B<=w'.heap.size)(hm:(w'.heap.size,w2.heap.size)∈iv):dI w2 (Cv S B iv) v n:=h.bz fun _ hg=>hg.cQ hB hm
theorem cV.cQ(h:cV w2 (Nw (fun _=>False) w' w2) v ls)(hB:B<=w'.heap.size)(hm:(w'.heap.size,w2.heap.size)∈iv):cV w2 (Cv S B iv) v ls:=h.bz fun _ hg=>hg.cQ hB hm
theorem dI.rel(h:dI w (Cv S B iv) v n)(r:Rel H nx iv B w ρ w')(hS:∀g,S g->g<B):dI w' (Cv S B iv) v n:=h.bu fun _ hg=>Rel.same r hS hg
theorem dI.bq(h:dI w (Cv S B iv) v n)(r:Rel H nx iv B w ρ w')(hS:∀g,S g->g<B)(he:Ext w' w2)(hm:∀p,p∈iv->p∈iv'):dI w2 (Cv S B iv') v n:=
 ((h.rel r hS).bu fun g hg=>he.block g (Rel.old r hS g hg)).bz fun _ hg=>hg.mono hm
theorem cV.trimmed(h:cV w S v (dG ls)):dI w S v (val ls):=⟨_,h,(dw ls).2.1,(dw ls).1⟩
end
theorem Bf{w:World}{g k m c:Nat}{rs:List Nat}(hg:w.heap[g]? =some (.cells (U rs).toArray T.uint32 (0,0)))(hlm:Lm rs)(h:k+m<=rs.length)(hc:m<=c)(hl:rs.length<=1000000000000):
  cV w (fun x=>x=g) (.slice (some ⟨g,k,none⟩) m c) ((rs.drop k).take m):=by
 have hlen:((rs.drop k).take m).length=m:=by simp;omega
 refine⟨(hlm.drop k).take m,by omega,some ⟨g,k,none⟩,c,by rw[hlen],by omega,fun j x hx=>⟨_,rfl,rfl,?_⟩⟩;have hj:j<m:=by have:=(aE.1 hx).1;omega
 rw[bQ hj,List.getElem?_drop]at hx;rw[dA,cell_of hg];exact qO hx
theorem yM{g k c:Nat}(h:k<c):(if (c:Int)=(k:Int)then some (⟨g,0,none⟩:Addr)else(some (⟨g,0,none⟩:Addr)).map fun x=>x.add ((k:Int).toNat*1))=some ⟨g,k,none⟩:=by
 rw[aL (by omega),Option.map_some,aB,aR,dA,aP]
theorem fH{a b c:World}{row:Option Nat}(h:a.grownBy b row)(k:b.grownBy c row):a.grownBy c row:=
 ⟨k.os.trans h.os,k.tape.trans h.tape,k.output.trans h.output,bH h.size k.size,fun j hj hne=>(k.block j (by have:=h.size;omega) hne).trans (h.block j hj hne)⟩
theorem sR{a b:World}{row:Option Nat}(h:cF a.heap.size a b):a.grownBy b row:=⟨h.os,h.tape,h.output,h.size,fun j hj _=>h.block j hj⟩
theorem E9(rs:List Nat)(k m:Nat):(U rs).take k++List.replicate m (Value.int .u32 0)++(U rs).drop (k+m)=U (rs.take k++List.replicate m 0++rs.drop (k+m)):=by
 simp[U]
theorem Fa(rs ds:List Nat)(k:Nat):(U rs).take k++U ds++(U rs).drop (k+(U ds).length)=U (rs.take k++ds++rs.drop (k+ds.length)):=by
 simp[U]
theorem CQ{rs ds:List Nat}{k m:Nat}(hk:k+m<=rs.length)(hd:ds.length<=m){r1 r2:List Nat}(h1:r1=rs.take k++List.replicate m 0++rs.drop (k+m))(h2:r2=r1.take k++ds++r1.drop (k+ds.length)):
  r2=rs.take k++(ds++List.replicate (m-ds.length) 0)++rs.drop (k+m):=by
 have hkl:(rs.take k).length=k:=by simp;omega
 have h3:r1.take k=rs.take k:=by rw[h1,bU,List.take_append_of_le_length (by omega),List.take_of_length_le (by omega)]
 have h4:r1.drop (k+ds.length)=List.replicate (m-ds.length) 0++rs.drop (k+m):=by
  rw[h1,bU,List.drop_append,hkl,List.drop_of_length_le (by omega),List.nil_append,Nat.add_sub_cancel_left,List.drop_append_of_le_length (by simpa using hd),List.drop_replicate]
 rw[h2,h3,h4];simp
theorem CR{rs ds r2:List Nat}{k m:Nat}(hk:k+m<=rs.length)(hd:ds.length<=m)(hlm:Lm rs)(hld:Lm ds)(h:r2=rs.take k++(ds++List.replicate (m-ds.length) 0)++rs.drop (k+m)):
  r2.length=rs.length∧Lm r2∧r2.take k=rs.take k∧r2.drop (k+m)=rs.drop (k+m)∧val ((r2.drop k).take m)=val ds:=by
 have hkl:(rs.take k).length=k:=by simp;omega
 have hdl:(ds++List.replicate (m-ds.length) 0).length=m:=by simp;omega
 have hd1:r2.drop k=(ds++List.replicate (m-ds.length) 0)++rs.drop (k+m):=by
  rw[h,bU,List.drop_append,hkl,List.drop_of_length_le (by omega),List.nil_append,bP,List.drop_zero]
 refine⟨by rw[h,List.length_append,List.length_append,hkl,hdl];simp;omega,?_,?_,?_,?_⟩
 ·rw[h];exact((hlm.take k).append (hld.append (Lm.replicate _))).append (hlm.drop _)
 ·rw[h,bU,List.take_append_of_le_length (by omega),List.take_of_length_le (by omega)]
 ·rw[<-List.drop_drop,hd1,List.drop_append,hdl,List.drop_of_length_le (by omega),List.nil_append,bP,List.drop_zero]
 ·rw[hd1,List.take_append_of_le_length (by omega),List.take_of_length_le (by omega),jK,jz];simp
theorem yN{S:Nat->Prop}{w:World}{vd:Value}{D g k q:Nat}{rs:List Nat}(hS:Old S w)(hgS:¬S g)(hd:dI w S vd D)(hg:w.heap[g]? =some (.cells (U rs).toArray T.uint32 (0,0)))(hlm:Lm rs)
  (hk:k+ln D+1<=rs.length) (hl:rs.length<=1000000000000) (hq:q<4294967296):
  dQ PG N.mi #[.slice (some ⟨g,0,none⟩) rs.length rs.length,vd,.int .i64 k,.int .u64 q] w (fun e w2=>
   (val ((rs.drop k).take (ln D+1))<q*D∧e= .returned (.bool false)∧cF w.heap.size w w2)∨
   (q*D<=val ((rs.drop k).take (ln D+1))∧e= .returned (.bool true)∧w.grownBy w2 (some g)∧∃rs',rs'.length=rs.length∧Lm rs'∧rs'.take k=rs.take k∧rs'.drop (k+ln D+1)=rs.drop (k+ln D+1)∧
    val ((rs'.drop k).take (ln D+1))=val ((rs.drop k).take (ln D+1))-q*D∧w2.heap[g]? =some (.cells (U rs').toArray T.uint32 (0,0)))):=by
 have hgB:=iB hg;have hnD:=hd;obtain⟨p,rfl,hp1,hp2⟩:=hd.la;have hpl:=dX p.lm hp2;rw[hp1]at hpl;generalize hn:ln D=n at*
 have hSB:=hS;refine qN (by simp) ?_;conv=>whnf
 refine⟨(q:Int),by rw[eC,bD hq],?_⟩;conv=>whnf
 refine fF (Φ:=fun ρ _ v w2=>cV w2 (fun g=>g=(ρ 0).g) v (dG [q])) (H':=[]) 0 rfl (by simp) trivial rfl (fun ρ w' r=>r.nn 0 _ rfl (by intros;simp) (by simp)) (fun ρ w' r=>?_) ?_
 ·have hL:=r.qQ (id:=0) (ls:=[q]) rfl (by intro x hx;simp at hx;omega) (by simp);exact eK (fun g hg=>by rw[hg];exact(r.low 0 _ rfl (r.nn 0 _ rfl (by intros;simp) (by simp))).2) hL
 rintro ρ w1 v1 w2 r he hw hL;have hlow:=r.low 0 _ rfl (r.nn 0 _ rfl (by intros;simp) (by simp));have hs:=he.size;generalize (ρ 0).g=g0 at*
 have hqN:dI w2 (Cv S w.heap.size [(g0,g0+1),(w1.heap.size,w2.heap.size)]) v1 q:=by
  have:=hL.trimmed;simp only[val,Nat.mul_zero,bg]at this;exact this.bz fun k hk=>.inr ⟨by omega,g0,g0+1,by simp,by omega,by omega⟩
 have hdN:dI w2 (Cv S w.heap.size [(g0,g0+1),(w1.heap.size,w2.heap.size)]) (.slice p.a p.ls.length p.c) D:=
  (hnD.bu fun g hg=>hw.block g (hS g hg)).bz fun _ hg=>.inl hg
 clear hL r he;generalize [(g0,g0+1),(w1.heap.size,w2.heap.size)]=iv at*
 conv=>whnf
 refine bp (cE hw (Φ:=fun _ w' v w2=>dI w2 (Nw (fun _=>False) w' w2) v (q*D)) (fun ρ w' r=>Bg (Rel.old r hS) (hqN.rel r hS) (hdN.rel r hS) (bH (gM.2 (show q<wt 1 from hq)) (by decide)) (by omega)) ?_);rintro ρ w3 v2 w4 iv r he hw h_ hm;have hmN:=hm.cQ (S:=S) r.bm (mN h_);clear hqN hdN r he hs hlow;conv=>whnf
 refine⟨((k+n:Nat):Int),by rw[wrap64]<;>omega,?_⟩;conv=>whnf
 refine⟨((k+n+1:Nat):Int),by rw[wrap64]<;>omega,?_⟩;conv=>whnf
 refine⟨⟨by omega,by omega,by omega⟩,some ⟨g,k,none⟩,n+1,rs.length-k,yM (by omega),by omega,by omega,?_⟩;conv=>whnf
 have hplen:((rs.drop k).take (n+1)).length=n+1:=by simp;omega
 have hplm:Lm ((rs.drop k).take (n+1)):=(hlm.drop k).take _;generalize hpart:(rs.drop k).take (n+1)=part at*
 refine bp (cE hw (Φ:=fun _ w' v w2=>cV w2 (Nw (fun _=>False) w' w2) v part) (fun ρ w' r=>?_) ?_)
 ·have h1:=Bf (k:=k) (m:=n+1) (c:=rs.length-k) (w:=w') (by rw[(hw.tr r.bs).block g hgB];exact hg) hlm (by omega) (by omega) hl;rw[hpart]at h1;exact Be (fun x hx=>by rw[hx];have:=(hw.tr r.bs).size;omega) h1 (by omega)
 rintro ρ w5 v3 w6 iv r he hw h_ hL;have hpL:=hL.cQ (S:=S) r.bm (mN h_);replace hmN:=hmN.bq r hS he (mC h_);clear hL r he;conv=>whnf
 refine bp (cA (Φ:=fun _ w' v w2=>cV w2 (Cv S w.heap.size iv) v (dG part)) (fun ρ w' r=>eK (Rel.old r hS) (cV.rel hpL r hS)) ?_);rintro ρ w7 v4 w8 r he hb hL;replace hw:=hw.tr hb;have hpN:=hL.trimmed.bz (S':=Cv S w.heap.size ((w7.heap.size,w8.heap.size)::iv)) fun _ hg=>hg.cons;replace hmN:=hmN.bq (iv':=(w7.heap.size,w8.heap.size)::iv) r hS he fun x hx=>aC _ hx;clear hL r he hb hpL;generalize (w7.heap.size,w8.heap.size)::iv=iv at*
 conv=>whnf
 refine bp (cE hw (Φ:=fun _ _ v _=>v= .int .i64 (ot (val part) (q*D))) (fun ρ w' r=>DV (Rel.old r hS) (hpN.rel r hS) (hmN.rel r hS)) ?_);rintro ρ w9 v5 w10 iv r he hw h_ rfl;replace hpN:=hpN.bq r hS he (mC h_);replace hmN:=hmN.bq r hS he (mC h_);clear r he;conv=>whnf
 refine cW.mk (fun h=>?_) (fun h=>?_)
 ·have h:val part<q*D:=by
   have:=aG h;unfold ot at this;split at this
   ·assumption
   ·split at this<;>omega
  conv=>whnf
  intro ρ3 w3 r3;exact .inl ⟨h,rfl,hw.tr r3.bs⟩
 have h:q*D<=val part:=by
  have:=aF h;unfold ot at this;split at this
  ·omega
  ·omega
 conv=>whnf
 have hPl:ln (val part)<=n+1:=by rw[gM,<-hplen];exact kv hplm
 refine bp (cE hw (Φ:=fun _ w' v w2=>dI w2 (Nw (fun _=>False) w' w2) v (val part-q*D)) (fun ρ w' r=>yO (Rel.old r hS) (hpN.rel r hS) (hmN.rel r hS) h (by omega)) ?_);rintro ρ w11 v6 w12 iv r he hw h_ hm;have hrN:=hm.cQ (S:=S) r.bm (mN h_);clear hpN r he;conv=>whnf
 refine⟨((k+n:Nat):Int),by rw[wrap64]<;>omega,?_⟩;conv=>whnf
 refine⟨((k+n+1:Nat):Int),by rw[wrap64]<;>omega,?_⟩;conv=>whnf
 refine⟨⟨by omega,by omega,by omega⟩,some ⟨g,k,none⟩,n+1,rs.length-k,yM (by omega),by omega,by omega,?_⟩;conv=>whnf
 refine By hτ (cs:=U rs) (by rfl) (by rfl) (by rfl) (by omega) (fun ρ w' r=>⟨by rw[(hw.tr r.bs).block g hgB];exact hg,fun id b hb=>by cases hb⟩) (by rw[ei];omega) (fun ρ w13 w14 r hh hgr hsz=>?_);rw[E9]at hh;have hgw:w.grownBy w14 (some g):=fH (sR (hw.tr r.bs)) hgr;replace hrN:dI w14 (Cv S w.heap.size iv) v6 (val part-q*D):=(hrN.rel r hS).bu fun x hx=>hgr.block x (Rel.old r hS x hx) fun e=>by
  injection e with e;subst e;rcases hx with hx|hx
  ·exact hgS hx
  ·omega
 clear r hgr hsz hw;obtain⟨rl,rfl,hr1,hr2⟩:=hrN.la;have hrl:=dX rl.lm hr2;rw[hr1]at hrl;have hrn:rl.ls.length<=n+1:=by rw[hrl];exact bH (fJ (Nat.sub_le _ _)) hPl
 generalize hr1d:rs.take k++List.replicate (n+1) 0++rs.drop (k+(n+1))=r1 at*
 conv=>whnf
 refine⟨⟨by omega,by omega,by omega⟩,some ⟨g,k,none⟩,rs.length-k,rs.length-k,yM (by omega),by omega,by omega,?_⟩;conv=>whnf
 have hr1l:r1.length=rs.length:=by rw[<-hr1d];simp;omega
 have hw14:w.heap.size<=w14.heap.size:=hgw.size;refine Cw hτ (tg:=T.uint32) (cs:=U r1) (ds:=U rl.ls) (by rfl) (by rfl) (by rfl) (by rfl) (fun ρ w' r=>⟨?_,fun id b hb=>by cases hb⟩) (fun ρ w' r=>⟨rl.a,rl.c,by rw[ei];rfl,fun j u hu=>?_⟩) (by rw[ei];omega) (by rw[ei,ei];omega)
  (fun u hu=>by simp only[U,aS]at hu;obtain⟨n,_,rfl⟩:=hu;rfl) (fun ρ w15 w16 r hh2 hgr hsz=>?_)
 ·rw[r.mw.block g (by omega) (by simp)];exact hh
 ·simp only[U,aN,Option.map_eq_some_iff]at hu;obtain⟨m,hm,rfl⟩:=hu;obtain⟨ad,h1,h2,h3⟩:=rl.cell j m hm;exact⟨ad,h1,(bo (w:=w14) (a:=ad.add j) (by rw[cC];exact Rel.same r hS h2)).trans h3⟩
 rw[Fa]at hh2;have hgw2:w.grownBy w16 (some g):=fH (fH hgw (by have:=r.mw;exact⟨this.os,this.tape,this.output,this.size,fun j hj _=>this.block j hj (by simp)⟩)) hgr;obtain⟨o1,o2,o3,o4,o5⟩:=CR (rs:=rs) (ds:=rl.ls) (k:=k) (m:=n+1) (by omega) hrn hlm rl.lm (CQ (by omega) hrn hr1d.symm rfl);generalize r1.take k++rl.ls++r1.drop (k+rl.ls.length)=r2 at*
 clear r hgr;conv=>whnf
 intro ρ3 w17 r3;refine .inr ⟨h,rfl,fH hgw2 (by have:=r3.mw;exact⟨this.os,this.tape,this.output,this.size,fun j hj _=>this.block j hj (by simp)⟩),r2,o1,o2,o3,o4,by rw[o5,hr1],?_⟩;rw[r3.mw.block g (by have:=hgw2.size;omega) (by simp)];exact hh2
end Go.Ex
namespace Go.Ex
open Go Go.Sx Go.Proofs
end Go.Ex
namespace Go.Sx
open Go Go.Ex Go.Proofs
theorem Rel.FG{nx:Nat}{iv:Iv}{B:Nat}{w w' w2:World}{ρ:Nat->Sx.dN}(r:Rel [] nx iv B w ρ w')(h:w'.heap.size<=w2.heap.size):Rel [] nx [] B w2 ρ w2:=
 r.zD h (fun id b h=>by cases h) fun lo hi h=>by cases h
end Go.Sx
namespace Go.Ex
open Go Go.Sx Go.Proofs
theorem DW{P D low high dlow dtop W:Nat}(hP:P=low+W*high)(hD:D=dlow+W*dtop)(hlow:low<W)(hdt:0<dtop)(hPD:P<4294967296*D):P / D<=min (high / dtop) 4294967295:=by
 have hW:0<W:=by omega
 have hD0:0<D:=by have:=Nat.mul_pos hW hdt;omega
 have h1:P / D<4294967296:=(Nat.div_lt_iff_lt_mul hD0).2 (by rw[bL]at hPD;omega);have h2:P / D<=high / dtop:=by
  rw[Nat.le_div_iff_mul_le hdt];have h3:=Nat.div_mul_le_self P D;generalize P / D=Q at*
  have h4:W*(Q*dtop)<=Q*D:=by
   rw[hD,Nat.mul_left_comm,bJ];omega
  have h5:W*(Q*dtop)<W*(high+1):=by
   rw[bJ];omega
  have:=Nat.lt_of_mul_lt_mul_left h5;omega
 omega
theorem Bh{H:Hp}{nx:Nat}{iv:Iv}{w w1 w':World}{ρ:Nat->Sx.dN}{g i x:Nat}{rs:List Nat}(hg:w.heap[g]? =some (.cells (U rs).toArray T.uint32 (0,0)))(hw:cF w.heap.size w w1)(r:Rel H nx iv w.heap.size w1 ρ w')(hx:rs[i]? =some x):
  w'.cell? ((⟨g,0,none⟩:Addr).add ((i:Int).toNat*1))=some (.int .u32 x):=by
 rw[aB,aR,dA,aP,cell_of (by rw[(hw.tr r.bs).block g (iB hg)];exact hg)];exact qO hx
theorem Ea{S:Nat->Prop}{w:World}{vd:Value}{D g k:Nat}{rs:List Nat}(hS:Old S w)(hgS:¬S g)(hd:dI w S vd D)(hD:0<D)(hg:w.heap[g]? =some (.cells (U rs).toArray T.uint32 (0,0)))(hlm:Lm rs)
  (hk:k+ln D+1<=rs.length) (hl:rs.length<=1000000000000) (hPD:val ((rs.drop k).take (ln D+1))<4294967296*D):
  dQ PG N.lg #[.slice (some ⟨g,0,none⟩) rs.length rs.length,vd,.int .i64 k] w (fun e w2=>
   e= .returned (.int .u32 ((val ((rs.drop k).take (ln D+1)) / D:Nat):Int))∧w.grownBy w2 (some g)∧∃rs',rs'.length=rs.length∧Lm rs'∧rs'.take k=rs.take k∧rs'.drop (k+ln D+1)=rs.drop (k+ln D+1)∧
    val ((rs'.drop k).take (ln D+1))=val ((rs.drop k).take (ln D+1)) % D∧w2.heap[g]? =some (.cells (U rs').toArray T.uint32 (0,0))):=by
 have hgB:=iB hg;have hnD:=hd;obtain⟨p,rfl,hp1,hp2⟩:=hd.la;have hpl:=dX p.lm hp2;rw[hp1]at hpl;have htake:=fun(w':World) (q:Nat)=>@yN S w' (.slice p.a p.ls.length p.c) D g k q rs;generalize hn:ln D=n at*
 obtain⟨t,rfl⟩:∃t,n=t+1:=by
  cases n with
  |zero=>
   have:D<wt 0:=gM.1 (by omega);rw[gS]at this;omega
  |succ t=>exact⟨t,rfl⟩
 obtain⟨dt,hdt⟩:∃q,p.ls[t]? =some q:=⟨_,aA (by omega)⟩
 have hdt0:0<dt:=by
  have:=hp2 dt (by rw[List.getLast?_eq_getElem?,hpl];exact hdt);omega
 obtain⟨a,ha⟩:∃q,rs[k+t+1]? =some q:=⟨_,aA (by omega)⟩
 obtain⟨b,hb⟩:∃q,rs[k+t]? =some q:=⟨_,aA (by omega)⟩
 have ha32:=hlm.at ha;have hb32:=hlm.at hb;have hdt32:=p.lm.at hdt;generalize hP:val ((rs.drop k).take (t+1+1))=P at*
 have hguess:P / D<=min ((a*4294967296+b) / dt) 4294967295:=by
  refine DW (low:=val ((rs.drop k).take t)) (W:=wt t) (dlow:=val (p.ls.take t)) ?_ ?_ ?_ hdt0 hPD
  ·rw[<-hP,dC (x:=a) (by rw[List.getElem?_drop];exact ha),dC (x:=b) (by rw[List.getElem?_drop];exact hb),gT,bJ,bL 4294967296 (wt t),b9,bL a];omega
  ·rw[<-hp1,<-dC hdt,List.take_of_length_le (by omega)]
  ·have h1:=kv ((hlm.drop k).take t);have:((rs.drop k).take t).length=t:=by simp;omega
   rwa [this]at h1
 refine oq (by simp) ?_;conv=>whnf
 refine⟨(t:Int),by rw[wrap64]<;>omega,?_⟩;conv=>whnf
 refine bw hτ dH [.x 0,.x 1,.x 2,.x 3,.x 4,.x 5,.x 6,.x 7,.x 8,.x 9,.x 10,.x 11,.x 12,.x 13,.x 14,.x 15,.x 16,.x 17] (by kernel_rfl) (by kernel_rfl) ?_;conv=>whnf
 refine⟨((k+t:Nat):Int),by rw[wrap64]<;>omega,?_⟩;conv=>whnf
 refine⟨((k+t+1:Nat):Int),by rw[wrap64]<;>omega,?_⟩;conv=>whnf
 refine⟨_,rfl,⟨by omega,by omega⟩,?_⟩;conv=>whnf
 refine⟨.int .u32 a,fun ρ w' r=>Bh hg cF.refl r ha,?_⟩;conv=>whnf
 refine⟨(a:Int),de (by omega),?_⟩;conv=>whnf
 refine⟨by decide,((a*2^32:Nat):Int),yP (k:=32) (by decide) (by omega),?_⟩;conv=>whnf
 refine⟨((k+t:Nat):Int),by rw[wrap64]<;>omega,?_⟩;conv=>whnf
 refine⟨_,rfl,⟨by omega,by omega⟩,?_⟩;conv=>whnf
 refine⟨.int .u32 b,fun ρ w' r=>Bh hg cF.refl r hb,?_⟩;conv=>whnf
 refine⟨(b:Int),de (by omega),?_⟩;conv=>whnf
 have hor:a*2^32 ||| b=a*4294967296+b:=by
  rw[Nat.or_comm,bL,yQ (k:=32) hb32];omega
 refine⟨((a*4294967296+b:Nat):Int),by rw[DX (by omega) (by omega),hor],?_⟩;conv=>whnf
 have hh64:a*4294967296+b<18446744073709551616:=by omega
 generalize a*4294967296+b=high at*
 obtain⟨ad,had,hload⟩:=p.load hS (cF.refl (w:=w)) hdt;refine⟨ad,had,⟨by omega,by omega⟩,?_⟩;conv=>whnf
 refine⟨.int .u32 dt,hload _ _ _,?_⟩;conv=>whnf
 refine⟨(dt:Int),de (by omega),?_⟩;conv=>whnf
 refine⟨by omega,((high / dt:Nat):Int),DY hh64,?_⟩;conv=>whnf
 rw[show min ((high / dt:Nat):Int) 4294967295=((min (high / dt) 4294967295:Nat):Int) by omega];have hm32:min (high / dt) 4294967295<=4294967295:=Nat.min_le_right _ _;generalize min (high / dt) 4294967295=q0 at*
 have hQD:=Nat.div_mul_le_self P D;have hQl:∀q,q*D<=P->P / D<=q->q=P / D:=fun q h1 h2=>aM ((Nat.le_div_iff_mul_le hD).2 h1) h2;have hmod:P % D=P-P / D*D:=by have:=Nat.div_add_mod P D;rw[bL]at this;omega
 refine⟨Nat×World,fun z=>⟨[(0,.o (.v (.slice (some ⟨g,0,none⟩) rs.length rs.length))),(1,.o (.v (.slice p.a p.ls.length p.c))),(2,.o (.v (.int .i64 k))),(9,.o (.v (.int .u64 z.1)))],[],0,[],z.2⟩,fun z=>z.1,
  fun z=>cF w.heap.size w z.2∧P / D<=z.1∧z.1<=4294967295,?_,?_⟩
 ·intro ρ w' r;exact⟨(q0,w'),⟨r.bs,hguess,hm32⟩,Sub.reset r ⟨rfl,rfl,rfl,rfl,trivial⟩ ⟨trivial,trivial,trivial,trivial,trivial⟩⟩
 ·rintro⟨q,w1⟩ ⟨hw,hq1,hq2⟩;dsimp only at hw hq1 hq2 ⊢;conv=>whnf
  refine⟨fun ρ w2 r=>(htake w2 q (fun x hx=>by have:=hS x hx;have:=(hw.tr r.bs).size;omega) hgS (hnD.bu fun x hx=>(hw.tr r.bs).block x (hS x hx)) (by rw[(hw.tr r.bs).block g hgB];exact hg) hlm hk hl (by omega)).mono fun e w3 he=>?_⟩;rcases he with⟨h,rfl,hb3⟩|⟨h,rfl,hgr,rs',e1,e2,e3,e4,e5,e6⟩
  ·have hw3:cF w.heap.size w w3:=(hw.tr r.bs).tr (hb3.bs r.bm);refine⟨.bool false,[],[],rfl,r.FG hb3.size,?_⟩;have hq3:P / D<q:=by
    refine Nat.lt_of_le_of_ne hq1 fun e=>?_;rw[e]at hQD;omega
   have hq4:0<q:=Nat.lt_of_le_of_lt (aO _) hq3;have hq5:P / D<=q-1:=Nat.le_sub_one_of_lt hq3;clear r;conv=>whnf
   refine⟨((q-1:Nat):Int),by rw[tO]<;>omega,?_⟩;conv=>whnf
   intro ρ4 w4 r4;exact⟨(q-1,w4),⟨hw3.tr r4.bs,hq5,by dsimp only;omega⟩,Sub.reset r4 ⟨rfl,rfl,rfl,rfl,trivial⟩ ⟨trivial,trivial,trivial,trivial,trivial⟩,by dsimp only;omega⟩
  ·have hgw:w.grownBy w3 (some g):=fH (sR (hw.tr r.bs)) hgr;refine⟨.bool true,[],[],rfl,r.FG hgr.size,?_⟩;have hq:=hQl q h hq1;subst hq;clear r;conv=>whnf
   refine⟨((P / D:Nat):Int),by rw[eC,bD (by omega)],?_⟩;conv=>whnf
   intro ρ4 w4 r4;refine⟨rfl,fH hgw (by have:=r4.mw;exact⟨this.os,this.tape,this.output,this.size,fun j hj _=>this.block j hj (by simp)⟩),rs',e1,e2,e3,e4,by rw[e5,hmod],?_⟩;rw[r4.mw.block g (by have:=hgw.size;omega) (by simp)];exact e6
end Go.Ex
namespace Go.Ex
theorem CK{ms:List Nat}{t dt:Nat}(hlm:Lm ms)(hl:ms.length=t+1)(hdt:ms[t]? =some dt)(h0:0<dt):32-fG dt<32∧ln (val ms*2^(32-fG dt))=t+1:=by
 have hb0:0<fG dt:=by
  rcases bG (fG dt)with h|h
  ·have:=tT.1 (Nat.le_of_eq h);simp at this;omega
  ·exact h
 have hb32:fG dt<=32:=tT.2 (hlm.at hdt);have hlt:=tT.1 (aI (fG dt));have hv:val ms=val (ms.take t)+wt t*dt:=by rw[<-dC hdt,List.take_of_length_le (by omega)]
 have hlow:=kv (hlm.take t);have hltk:(ms.take t).length=t:=by simp;omega
 rw[hltk]at hlow;have hw:=Ad t;refine⟨by omega,aM ?_ ?_⟩
 ·rw[gM];have h1:val ms<wt t*2^fG dt:=by
   have:wt t*(dt+1)<=wt t*2^fG dt:=bO _ hlt;rw[bJ]at this;omega
  have h2:=Nat.mul_lt_mul_of_pos_right h1 (bY (32-fG dt));rw[b9,<-Nat.pow_add,Nat.add_sub_cancel' hb32]at h2;rw[gT,bL 4294967296];exact h2
 ·refine Nat.lt_of_not_le fun h=>?_;have h1:=gM.1 h;have h2:val ms*1<=val ms*2^(32-fG dt):=bO _ (bY _);have h3:wt t*1<=wt t*dt:=bO _ h0;omega
theorem zT{rs:List Nat}{D N k:Nat}(hlm:Lm rs)(hDN:D<wt N)(hk:k+N+1<=rs.length)(h:val rs<wt (k+1)*D):
  val (rs.drop (k+N+1))=0∧val (rs.drop k)=val ((rs.drop k).take (N+1))∧val ((rs.drop k).take (N+1))<4294967296*D:=by
 obtain⟨x,hx⟩:∃q,rs[k]? =some q:=⟨_,aA (by omega)⟩
 have hx32:=hlm.at hx;have h1:=dm rs (k+1) (by omega);have h2:val (rs.drop (k+1))<D:=Nat.lt_of_mul_lt_mul_left (a:=wt (k+1)) (by omega);have h3:=dm (rs.drop (k+1)) N (by simp;omega);rw[List.drop_drop,show k+1+N=k+N+1 by omega]at h3;have h4:val (rs.drop (k+N+1))=0:=by
  rcases bG (val (rs.drop (k+N+1)))with h|h
  ·exact h
  ·have:=bO (wt N) h;omega
 have h5:=dm (rs.drop k) (N+1) (by simp;omega);rw[List.drop_drop,show k+(N+1)=k+N+1 by omega,h4,Nat.mul_zero,bg]at h5;have h6:=gL hx;exact⟨h4,h5,by omega⟩
theorem DI{rs rs' out:List Nat}{D N k P V:Nat}(hD:0<D)(hlm:Lm rs)(hlen:rs'.length=rs.length)(hDN:D<wt N)(hk:k+N+1<=rs.length)(h:val rs<wt (k+1)*D)(hV:V=wt (k+1)*(D*val (out.drop (k+1)))+val rs)
  (hP:val ((rs.drop k).take (N+1))=P) (h1:rs'.take k=rs.take k) (h2:rs'.drop (k+N+1)=rs.drop (k+N+1)) (h3:val ((rs'.drop k).take (N+1))=P % D) (ho:k<out.length):
  val rs'<wt k*D∧V=wt k*(D*val ((out.set k (P / D)).drop k))+val rs':=by
 obtain⟨a1,a2,a3⟩:=zT hlm hDN hk h;have b1:=dm rs k (by omega);have b2:=dm rs' k (by omega);have b3:=dm (rs'.drop k) (N+1) (by simp;omega);rw[List.drop_drop,show k+(N+1)=k+N+1 by omega,h2,a1,Nat.mul_zero,bg,h3]at b3;rw[h1,b3]at b2;rw[a2,hP]at b1;have b4:=kv (hlm.take k);have b5:(rs.take k).length=k:=by simp;omega
 rw[b5]at b4;have b6:=bc P hD;have b7:(out.set k (P / D))[k]? =some (P / D):=by rw[aZ ho]
 have b8:=Nat.div_add_mod P D;refine⟨?_,?_⟩
 ·have:wt k*(P % D+1)<=wt k*D:=bO _ b6;rw[bJ]at this;omega
 ·rw[gL b7,List.drop_set_of_lt (show k<k+1 by omega),hV,b1,b2,gT];generalize val (out.drop (k+1))=o;have c1:wt k*P=wt k*(D*(P / D))+wt k*(P % D):=by rw[<-bJ,b8]
  have c2:4294967296*wt k*(D*o)=wt k*(D*(4294967296*o)):=by
   rw[bL 4294967296,b9,Nat.mul_left_comm 4294967296]
  rw[c1,c2,bJ D,bJ (wt k)];omega
theorem CL{n m b:Nat}(hm:0<m)(hnm:m<=n):n*2^b<wt (ln n+1-ln m)*(m*2^b):=by
 have h1:=jL n;have h2:=fJ hnm;have h3:wt (ln m-1)<=m:=by
  refine Nat.le_of_not_lt fun h=>?_;have:=gM.2 h;have h4:0<ln m:=by
   rcases bG (ln m)with h|h
   ·have:=gM.1 (Nat.le_of_eq h);rw[gS]at this;omega
   ·exact h
  omega
 have h4:0<ln m:=by
  rcases bG (ln m)with h|h
  ·have:=gM.1 (Nat.le_of_eq h);rw[gS]at this;omega
  ·exact h
 have h5:wt (ln n)<=wt (ln n+1-ln m)*m:=by
  rw[show ln n=(ln n+1-ln m)+(ln m-1) by omega,Ac,show(ln n+1-ln m)+(ln m-1)+1-ln m=ln n+1-ln m by omega];exact bO _ h3
 rw[<-b9];exact Nat.mul_lt_mul_of_pos_right (Nat.lt_of_lt_of_le h1 h5) (bY b)
theorem E2{n m b o r:Nat}(hm:0<m)(h1:n*2^b=m*2^b*o+r)(h2:r<m*2^b):o=n / m∧r / 2^b=n % m:=by
 have hp:=bY b;have h3:n*2^b / (m*2^b)=o:=by rw[h1,Nat.mul_add_div (Nat.mul_pos hm hp),Nat.div_eq_of_lt h2,bg]
 have h4:n*2^b % (m*2^b)=r:=by rw[h1,Nat.mul_add_mod,bD h2]
 rw[Nat.mul_div_mul_right _ _ hp]at h3;rw[Nat.mul_mod_mul_right]at h4;exact⟨h3.symm,by rw[<-h4,Nat.mul_div_cancel _ hp]⟩
end Go.Ex
namespace Go.Ex
open Go Go.Sx Go.Proofs
theorem Bi{w:World}{g:Nat}{rs:List Nat}(hg:w.heap[g]? =some (.cells (U rs).toArray T.uint32 (0,0)))(hlm:Lm rs)(hl:rs.length<=1000000000000):
  cV w (fun x=>x=g) (.slice (some ⟨g,0,none⟩) rs.length rs.length) rs:=by
 have:=Bf (k:=0) (m:=rs.length) (c:=rs.length) hg hlm (by omega) (aI _) hl
 rwa [List.drop_zero,ah]at this
theorem mx{S:Nat->Prop}{w:World}{v u:Value}{n m:Nat}(hS:Old S w)(hn:dI w S v n)(hm:dI w S u m)(hm0:0<m)(hln:ln n<=100000000000):
  dQ PG N.kV #[v,u] w (dU w fun v' w2=>∃q r,v'= .tuple #[q,r]∧dI w2 (Nw (fun _=>False) w w2) q (n / m)∧dI w2 (Nw S w w2) r (n % m)):=by
 have hnN:=hn;have hmN:=hm;obtain⟨x,rfl,hp1,hp2⟩:=hn.la;obtain⟨y,rfl,hq1,hq2⟩:=hm.la;have hxl:=dX x.lm hp2;have hyl:=dX y.lm hq2;rw[hp1]at hxl;rw[hq1]at hyl;refine nm (by simp) ?_;conv=>whnf
 refine bp (cA (Φ:=fun _ _ v _=>v= .int .i64 (ot n m)) (fun ρ w' r=>DV (S:=S) (fun g hg=>by have:=hS g hg;have:=r.bs.size;omega) (hnN.bu fun g hg=>r.bs.block g (hS g hg)) (hmN.bu fun g hg=>r.bs.block g (hS g hg))) ?_);rintro ρ w1 v1 w2 r he hw rfl;clear r he;conv=>whnf
 refine cW.mk (fun h=>?_) (fun h=>?_)
 ·have h:n<m:=by
   have:=aG h;unfold ot at this;split at this
   ·assumption
   ·split at this<;>omega
  conv=>whnf
  intro ρ3 w3 r3;refine⟨_,rfl,hw.tr r3.bs,_,_,rfl,?_,?_⟩
  ·rw[Nat.div_eq_of_lt h];exact dI.nil _ _
  ·rw[bD h];exact(hnN.bu fun g hg=>(hw.tr r3.bs).block g (hS g hg)).bz fun g hg=>.inl hg
 have h:m<=n:=by
  have:=aF h;unfold ot at this;split at this
  ·omega
  ·omega
 have hlmn:=fJ h;conv=>whnf
 refine cW.mk (fun h1=>?_) (fun h1=>?_)
 ·have h1:y.ls.length=1:=by have:=eq_of_beq h1;omega
  obtain⟨b,hyb⟩:=List.length_eq_one_iff.1 h1;have hb:y.ls[0]? =some b:=by rw[hyb];rfl
  have hb32:=y.lm.at hb;have hmb:m=b:=by rw[<-hq1,hyb];simp[val]
  subst hmb;obtain⟨ad,had,hload⟩:=y.load hS hw hb;conv=>whnf
  refine⟨ad,had,⟨by omega,by omega⟩,?_⟩;conv=>whnf
  refine⟨.int .u32 m,hload _ _ _,?_⟩;conv=>whnf
  refine bp (cA (Φ:=fun _ w' v w2=>∃q,v= .tuple #[q,.int .u32 ((val x.ls % m:Nat):Int)]∧dI w2 (Nw (fun _=>False) w' w2) q (val x.ls / m)) (fun ρ w' r=>?_) ?_)
  ·refine Eb (S:=S) (fun g hg=>by have:=hS g hg;have:=(hw.tr r.bs).size;omega) ⟨x.lm,x.le,_,_,rfl,x.cap,fun j u hu=>?_⟩ (by omega) hm0 hb32;obtain⟨ad,e1,e2,e3⟩:=x.cell j u hu;exact⟨ad,e1,e2,ig hS hw r e2 e3⟩
  rintro ρ w3 v3 w4 r he hb4 ⟨q,rfl,hq⟩;replace hw:=hw.tr hb4;have hqN:=hq.cQ (S:=fun _=>False) r.bm (iv:=(w3.heap.size,w4.heap.size)::[(w1.heap.size,w2.heap.size)]) aH;rw[hp1]at hqN;rw[hp1];clear r he hb4 hq;generalize (w3.heap.size,w4.heap.size)::[(w1.heap.size,w2.heap.size)]=iv at*
  have hml:n % m<m:=bc _ hm0;generalize n % m=rem at*
  conv=>whnf
  refine fF (Φ:=fun ρ _ v w2=>cV w2 (fun g=>g=(ρ 0).g) v (dG [rem])) (H':=[]) 0 rfl (by simp) trivial rfl (fun ρ w' r=>r.nn 0 _ rfl (by intros;simp) (by simp)) (fun ρ w' r=>?_) ?_
  ·have hL:=r.qQ (id:=0) (ls:=[rem]) rfl (by intro x hx;simp at hx;omega) (by simp);exact eK (fun g hg=>by rw[hg];exact(r.low 0 _ rfl (r.nn 0 _ rfl (by intros;simp) (by simp))).2) hL
  rintro ρ w5 v5 w6 r he hb6 hL;have hlow:=r.low 0 _ rfl (r.nn 0 _ rfl (by intros;simp) (by simp));have hs:=he.size;replace hw:=hw.tr hb6;replace hqN:=hqN.bq (iv':=((ρ 0).g,(ρ 0).g+1)::(w5.heap.size,w6.heap.size)::iv) r (fun g h=>h.elim) he fun x hx=>by simp[hx]
  generalize (ρ 0).g=g0 at*
  have hrN:dI w6 (Cv (fun _=>False) w.heap.size ((g0,g0+1)::(w5.heap.size,w6.heap.size)::iv)) v5 rem:=by
   have:=hL.trimmed;simp only[val,Nat.mul_zero,bg]at this;exact this.bz fun k hk=>.inr ⟨by omega,g0,g0+1,by simp,by omega,by omega⟩
  clear hL r he hb6 hs hlow;generalize (g0,g0+1)::(w5.heap.size,w6.heap.size)::iv=iv2 at*
  conv=>whnf
  intro ρ3 w7 r3;exact⟨_,rfl,hw.tr r3.bs,_,_,rfl,(hqN.rel r3 fun g h=>h.elim).bz fun g hg=>Cv.nw hg r3,((hrN.rel r3 fun g h=>h.elim).bz fun g hg=>Cv.nw hg r3).bz fun g hg=>hg.elim (fun h=>h.elim) .inr⟩
 ·have h1:y.ls.length≠1:=fun e=>by rw[e]at h1;simp at h1
  have hm1:0<ln m:=by
   rcases bG (ln m)with h|h
   ·have:=gM.1 (Nat.le_of_eq h);rw[gS]at this;omega
   ·exact h
  obtain⟨t,ht⟩:∃t,y.ls.length=t+1:=⟨y.ls.length-1,by omega⟩
  obtain⟨dt,hdt⟩:∃q,y.ls[t]? =some q:=⟨_,aA (by omega)⟩
  have hdt0:0<dt:=by
   have:=hq2 dt (by rw[List.getLast?_eq_getElem?,ht];exact hdt);omega
  have hdt32:=y.lm.at hdt;obtain⟨hby,hlnD⟩:=CK y.lm ht hdt hdt0;rw[hq1]at hlnD;obtain⟨ad,had,hload⟩:=y.load hS hw hdt;conv=>whnf
  refine⟨(t:Int),by rw[wrap64]<;>omega,?_⟩;conv=>whnf
  refine⟨ad,had,⟨by omega,by omega⟩,?_⟩;conv=>whnf
  refine⟨.int .u32 dt,hload _ _ _,?_⟩;conv=>whnf
  refine bp (cA (Φ:=fun _ _ v _=>v= .int .i64 ((32-fG dt:Nat):Int)) (fun ρ w' r=>F9 dt w' hdt32) ?_);rintro ρ w3 v3 w4 r he hb4 rfl;replace hw:=hw.tr hb4;clear r he hb4;generalize hbyd:32-fG dt=b at*
  conv=>whnf
  refine⟨(b:Int),de (by omega),?_⟩;conv=>whnf
  refine bp (cA (Φ:=fun _ w' v w2=>∃out,DZ w' w2 v out∧out.length=y.ls.length+1∧val out=val y.ls*2^b) (fun ρ w' r=>?_) ?_)
  ·refine xP (S:=S) (fun g hg=>by have:=hS g hg;have:=(hw.tr r.bs).size;omega) ⟨y.lm,y.le,_,_,rfl,y.cap,fun j u hu=>?_⟩ (by omega) hby;obtain⟨ad,e1,e2,e3⟩:=y.cell j u hu;exact⟨ad,e1,e2,ig hS hw r e2 e3⟩
  rintro ρ w5 v5 w6 r he hb6 ⟨dl,⟨gd,rfl,hgd1,hgd2,hgd3⟩,hdl,hdv⟩;replace hw:=hw.tr hb6;rw[hq1]at hdv;have hB5:w.heap.size<=w5.heap.size:=r.bm;have hcd:Cv (fun _=>False) w.heap.size ((w5.heap.size,w6.heap.size)::[(w3.heap.size,w4.heap.size),(w1.heap.size,w2.heap.size)]) gd:=.inr ⟨by omega,_,_,aH,hgd1,iB hgd2⟩;clear r he hb6;generalize (w5.heap.size,w6.heap.size)::[(w3.heap.size,w4.heap.size),(w1.heap.size,w2.heap.size)]=iv at*
  have hF:∀g:Nat,(fun _:Nat=>False) g->g<w.heap.size:=fun g h=>h.elim;conv=>whnf
  refine bp (cA (Φ:=fun _ _ v w2=>cV w2 (fun x=>x=gd) v (dG dl)) (fun ρ w' r=>eK (fun g hg=>by rw[hg];exact Rel.old r hF gd hcd) (Bi (by rw[Rel.same r hF hcd];exact hgd2) hgd3 (by omega))) ?_);rintro ρ w7 v6 w8 r he hb8 hL;replace hw:=hw.tr hb8;have hgd8:gd<w8.heap.size:=by have:=Rel.old r hF gd hcd;have:=he.size;omega
  replace hcd:=hcd.mono (iv':=(w7.heap.size,w8.heap.size)::iv) fun p hp=>aC _ hp;have hdN:=hL.trimmed;rw[hdv]at hdN;clear hL r he hb8 hgd2 hgd3 hdv;generalize (w7.heap.size,w8.heap.size)::iv=iv at*
  obtain⟨dp,rfl,hd1,hd2⟩:=hdN.la;have hdpl:=dX dp.lm hd2;rw[hd1,hlnD]at hdpl;generalize hDd:m*2^b=D at*
  have hD0:0<D:=by rw[<-hDd];exact Nat.mul_pos hm0 (bY b)
  conv=>whnf
  refine bp (cA (Φ:=fun _ w' v w2=>∃out,DZ w' w2 v out∧out.length=x.ls.length+1∧val out=val x.ls*2^b) (fun ρ w' r=>?_) ?_)
  ·refine xP (S:=S) (fun g hg=>by have:=hS g hg;have:=(hw.tr r.bs).size;omega) ⟨x.lm,x.le,_,_,rfl,x.cap,fun j u hu=>?_⟩ (by omega) hby;obtain⟨ad,e1,e2,e3⟩:=x.cell j u hu;exact⟨ad,e1,e2,ig hS hw r e2 e3⟩
  rintro ρ w9 v9 w10 r he hb10 ⟨rs0,⟨gr,rfl,hgr1,hgr2,hgr3⟩,hrl,hrv⟩;replace hw:=hw.tr hb10;rw[hp1]at hrv;have hB9:w.heap.size<=w9.heap.size:=r.bm;have hcr:Cv (fun _=>False) w.heap.size ((w9.heap.size,w10.heap.size)::iv) gr:=.inr ⟨by omega,_,_,aH,hgr1,iB hgr2⟩;have hne:gr≠gd:=by have:=r.size;omega
  replace hdN:dI w10 (fun x=>x=gd) (.slice dp.a dp.ls.length dp.c) D:=hdN.bu fun x hx=>by
   rw[hx,he.block gd (Rel.old r hF gd hcd),Rel.same r hF hcd]
  have hgd10:gd<w10.heap.size:=by have:=Rel.old r hF gd hcd;have:=he.size;omega
  replace hcd:=hcd.mono (iv':=(w9.heap.size,w10.heap.size)::iv) fun p hp=>aC _ hp;clear r he hb10;generalize (w9.heap.size,w10.heap.size)::iv=iv at*
  have hgrB:w.heap.size<=gr:=by omega
  clear hgd1 hB5 hgd8 hgr1 hB9;conv=>whnf
  obtain⟨L,hL⟩:∃L,rs0.length=t+1+L:=⟨rs0.length-(t+1),by omega⟩
  refine⟨(L:Int),by rw[wrap64]<;>omega,?_⟩;conv=>whnf
  refine⟨L,L,rfl,rfl,aI _,by omega,by omega,?_⟩;conv=>whnf
  refine⟨(L:Int)-1,by rw[wrap64]<;>omega,?_⟩;conv=>whnf
  refine⟨Nat×List Nat×List Nat×World,fun z=>⟨[(8,.o (.v (.int .u64 b))),(9,.o (.v (.slice dp.a dp.ls.length dp.c))),(10,.o (.v (.slice (some ⟨gr,0,none⟩) rs0.length rs0.length))),(11,.o (.s 0 0 L L)),(12,.o (.v (.int .i64 ((z.1:Int)-1))))],
    [(0,.arr T.uint32 (U z.2.1))],1,iv,z.2.2.2⟩,fun z=>z.1,
   fun z=>z.1<=L∧cF w.heap.size w z.2.2.2∧z.2.1.length=L∧z.2.2.1.length=rs0.length∧Lm z.2.1∧Lm z.2.2.1∧z.2.2.2.heap[gr]? =some (.cells (U z.2.2.1).toArray T.uint32 (0,0))∧dI z.2.2.2 (fun x=>x=gd) (.slice dp.a dp.ls.length dp.c) D∧
    gd<z.2.2.2.heap.size∧val z.2.2.1<wt z.1*D∧n*2^b=wt z.1*(D*val (z.2.1.drop z.1))+val z.2.2.1,?_,?_⟩
  ·intro ρ w' r;rw[ou]at r;refine⟨(L,List.replicate L 0,rs0,w'),⟨aI _,hw.tr r.bs,by simp,rfl,Lm.replicate _,hgr3,?_,?_,?_,?_,?_⟩,Sub.gen [] r ⟨rfl,trivial⟩ ⟨rfl,rfl,rfl,rfl,rfl,trivial⟩ (by simp[cY,cN.scopd]) (by simp[cO,SV.sc,At.sc]) (by rfl) (by simp)⟩
   ·dsimp only;rw[Rel.same r hF hcr];exact hgr2
   ·exact hdN.bu fun x hx=>by rw[hx];exact Rel.same r hF hcd
   ·exact Rel.old r hF gd hcd
   ·dsimp only
    have:=CL (b:=b) hm0 h;rw[hDd,<-hyl,ht,<-hxl,show x.ls.length+1-(t+1)=L by omega]at this;rw[hrv];exact this
   ·dsimp only;rw[hrv];simp[val]
  ·rintro⟨k,out,rs,w11⟩ ⟨hk,hw,hol,hrl2,hlo,hlr,hgr,hdN,hgd,hi1,hi2⟩;dsimp only at hk hw hol hrl2 hlo hlr hgr hdN hgd hi1 hi2 ⊢;conv=>whnf
   refine cW.mk (fun h9=>?_) (fun h9=>?_)
   ·have h9:(k:Int)-1≥0:=aG h9;obtain⟨k,rfl⟩:∃q,k=q+1:=⟨k-1,by omega⟩
    rw[show ((k+1:Nat):Int)-1=(k:Int) by omega];have hDN:D<wt (t+1):=gM.1 (Nat.le_of_eq hlnD);obtain⟨a1,a2,a3⟩:=zT (N:=t+1) hlr hDN (by omega) hi1;have hdig:=fun(w':World)=>@Ea (fun x=>x=gd) w' (.slice dp.a dp.ls.length dp.c) D gr k rs;rw[hlnD]at hdig;simp only[hrl2]at hdig;generalize hP:val ((rs.drop k).take (t+1+1))=P at*
    have hQ32:P / D<4294967296:=(Nat.div_lt_iff_lt_mul hD0).2 (by rw[bL]at a3;omega);conv=>whnf
    refine⟨fun ρ w' r=>(hdig w' (fun g hg=>by rw[hg];exact Rel.old r hF gd hcd) hne (hdN.bu fun x hx=>by rw[hx];exact Rel.same r hF hcd) hD0 (by rw[Rel.same r hF hcr];exact hgr) hlr (by omega) (by omega) a3).mono fun e w12 he=>?_⟩;obtain⟨rfl,hgb,rs',e1,e2,e3,e4,e5,e6⟩:=he;refine⟨_,_,_,rfl,r.tz (fun id b hb hn=>Rel.not r hF hcr id b hb hn) hgb,?_⟩;obtain⟨hi1',hi2'⟩:=DI (N:=t+1) hD0 hlr (e1.trans hrl2.symm) hDN (by omega) hi1 hi2 hP e3 e4 e5 (by omega);have hw12:cF w.heap.size w w12:=(hw.tr r.bs).tr (cF.grown hgb (fun g hg=>by injection hg with hg;omega) r.bm);have hdN12:dI w12 (fun x=>x=gd) (.slice dp.a dp.ls.length dp.c) D:=hdN.bu fun x hx=>by
     rw[hx,hgb.block gd (Rel.old r hF gd hcd) (fun e=>hne (Option.some.inj e).symm),Rel.same r hF hcd]
    have hgd12:gd<w12.heap.size:=by have:=Rel.old r hF gd hcd;have:=hgb.size;omega
    clear r hgb;generalize P / D=Q at*
    conv=>whnf
    refine⟨⟨by omega,by omega⟩,?_⟩;conv=>whnf
    refine⟨by rw[ei];omega,U (out.set k Q),gG out k _ (by omega) (by simp),?_⟩;conv=>whnf
    refine⟨(k:Int)-1,by rw[wrap64]<;>omega,?_⟩;conv=>whnf
    intro ρ3 w3 r3
    refine⟨(k,out.set k Q,rs',w3),⟨by dsimp only;omega,hw12.tr r3.bs,by simp[hol],e1.trans rfl,hlo.set hQ32,e2,?_,?_,?_,hi1',hi2'⟩,
     Sub.gen [] r3 ⟨rfl,trivial⟩ ⟨rfl,rfl,rfl,rfl,rfl,trivial⟩ (by simp[cY,cN.scopd]) (by simp[cO,SV.sc,At.sc]) (by rfl) (by simp),by dsimp only;omega⟩
    ·dsimp only;rw[Rel.same r3 hF hcr];exact e6
    ·exact hdN12.bu fun x hx=>by rw[hx];exact Rel.same r3 hF hcd
    ·exact Rel.old r3 hF gd hcd
   ·have hk0:k=0:=by
     have:¬(k:Int)-1≥0:=aF h9;omega
    subst hk0;rw[gS,Nat.one_mul,List.drop_zero]at hi2;rw[gS,Nat.one_mul]at hi1;rw[<-hDd]at hi1 hi2;obtain⟨hq,hrem⟩:=E2 hm0 hi2 hi1;have hfr:∀w':World,w'.heap[gr]? =some (.cells (U rs).toArray T.uint32 (0,0))->cV w' (fun x=>x=gr) (.slice (some ⟨gr,0,none⟩) rs0.length rs0.length) rs:=fun w' hh=>by
     have:=Bi hh hlr (by omega)
     rwa [hrl2]at this
    conv=>whnf
    refine fF (Φ:=fun ρ _ v w2=>cV w2 (fun g=>g=(ρ 0).g) v (dG out)) (H':=[]) 0 rfl (by simp) trivial rfl (fun ρ w' r=>r.nn 0 _ rfl (by intros;simp) (by simp)) (fun ρ w' r=>?_) ?_
    ·have hL:=r.k8 (id:=0) rfl hlo (by omega);rw[hol]at hL;exact eK (fun g hg=>by rw[hg];exact(r.low 0 _ rfl (r.nn 0 _ rfl (by intros;simp) (by simp))).2) hL
    rintro ρ w13 v13 w14 r he hb14 hL;replace hw:=hw.tr hb14;have hlow:=r.low 0 _ rfl (r.nn 0 _ rfl (by intros;simp) (by simp));have hs:=he.size;have hgr14:w14.heap[gr]? =some (.cells (U rs).toArray T.uint32 (0,0)):=by rw[he.block gr (Rel.old r hF gr hcr),Rel.same r hF hcr];exact hgr
    replace hcr:=hcr.mono (iv':=((ρ 0).g,(ρ 0).g+1)::(w13.heap.size,w14.heap.size)::iv) fun p hp=>by simp[hp]
    have hqN:dI w14 (Cv (fun _=>False) w.heap.size (((ρ 0).g,(ρ 0).g+1)::(w13.heap.size,w14.heap.size)::iv)) v13 (n / m):=by
     have:=hL.trimmed;rw[hq]at this;exact this.bz fun k hk=>.inr ⟨by omega,_,_,aH,by omega,by omega⟩
    clear hL r he hb14 hlow hs;generalize ((ρ 0).g,(ρ 0).g+1)::(w13.heap.size,w14.heap.size)::iv=iv3 at*
    conv=>whnf
    refine bp (cA (Φ:=fun _ _ v w2=>cV w2 (fun x=>x=gr) v (dG rs)) (fun ρ w' r=>eK (fun g hg=>by rw[hg];exact Rel.old r hF gr hcr) (hfr w' (by rw[Rel.same r hF hcr];exact hgr14))) ?_);rintro ρ w15 v15 w16 r he hb16 hL;replace hw:=hw.tr hb16;replace hqN:=hqN.bq (iv':=(w15.heap.size,w16.heap.size)::iv3) r hF he fun x hx=>aC _ hx;replace hL:=hL.bz (S':=Cv (fun _=>False) w.heap.size ((w15.heap.size,w16.heap.size)::iv3)) fun g hg=>by rw[hg];exact hcr.cons
    clear r he hb16;generalize (w15.heap.size,w16.heap.size)::iv3=iv4 at*
    have htl:(dG rs).length<=rs.length:=by
     obtain⟨_,_,k,_,hk⟩:=dw rs;rw[hk];simp;omega
    conv=>whnf
    refine bp (cA (Φ:=fun _ w' v w2=>dI w2 (Nw (fun _=>False) w' w2) v (val (dG rs) / 2^b)) (fun ρ w' r=>Fb (Rel.old r hF) (cV.rel hL r hF) (by omega) hby) ?_);rintro ρ w17 v17 w18 r he hb18 hr;replace hw:=hw.tr hb18;rw[(dw rs).1,hrem]at hr;have hrN:=hr.cQ (S:=fun _=>False) r.bm (iv:=(w17.heap.size,w18.heap.size)::iv4) aH;replace hqN:=hqN.bq (iv':=(w17.heap.size,w18.heap.size)::iv4) r hF he fun x hx=>aC _ hx;clear r he hb18 hr hL;generalize (w17.heap.size,w18.heap.size)::iv4=iv5 at*
    conv=>whnf
    intro ρ3 w19 r3;exact⟨_,rfl,hw.tr r3.bs,_,_,rfl,(hqN.rel r3 hF).bz fun g hg=>Cv.nw hg r3,((hrN.rel r3 hF).bz fun g hg=>Cv.nw hg r3).bz fun g hg=>hg.elim (fun h=>h.elim) .inr⟩
theorem zy{S:Nat->Prop}{w:World}{v u:Value}{n m:Nat}(hS:Old S w)(hn:dI w S v n)(hm:dI w S u m)(hln:ln n<=100000000000)(hlm:ln m<=100000000000):
  dQ PG N.qB #[v,u] w (dU w fun v' w2=>dI w2 (Nw S w w2) v' (Nat.gcd n m)):=by
 refine tD (by simp) ?_;conv=>whnf
 refine⟨(Value×Nat)×(Value×Nat)×Iv×World,fun z=>⟨[(0,.o (.v z.1.1)),(1,.o (.v z.2.1.1))],[],0,z.2.2.1,z.2.2.2⟩,fun z=>z.2.1.2,
  fun z=>cF w.heap.size w z.2.2.2∧dI z.2.2.2 (Cv S w.heap.size z.2.2.1) z.1.1 z.1.2∧dI z.2.2.2 (Cv S w.heap.size z.2.2.1) z.2.1.1 z.2.1.2∧ln z.1.2<=100000000000∧ln z.2.1.2<=100000000000∧Nat.gcd z.1.2 z.2.1.2=Nat.gcd n m,?_,?_⟩
 ·intro ρ w' r
  exact⟨((v,n),(u,m),[],w'),⟨r.bs,(hn.bu fun g hg=>r.bs.block g (hS g hg)).bz fun _ hg=>.inl hg,(hm.bu fun g hg=>r.bs.block g (hS g hg)).bz fun _ hg=>.inl hg,hln,hlm,rfl⟩,
   Sub.gen [] r trivial ⟨rfl,rfl,trivial⟩ trivial (by simp[cO,SV.sc,At.sc]) (by rfl) (by simp)⟩
 ·rintro⟨⟨vx,x⟩,⟨vy,y⟩,iv,w1⟩ ⟨hw,hx,hy,hlx,hly,hg⟩;dsimp only at hw hx hy hlx hly hg ⊢;have hyN:=hy;obtain⟨p,rfl,hp1,hp2⟩:=hy.la;have hpl:=dX p.lm hp2;rw[hp1]at hpl;conv=>whnf
  refine cW.mk (fun h=>?_) (fun h=>?_)
  ·have h:0<p.ls.length:=by
    have:(p.ls.length:Int)>0:=aG h;omega
   have hy0:0<y:=by
    rcases bG y with h0|h0
    ·rw[h0]at hpl;rw[E1]at hpl;omega
    ·exact h0
   conv=>whnf
   refine bp (cA (Φ:=fun _ w' v w2=>∃q r,v= .tuple #[q,r]∧dI w2 (Nw (fun _=>False) w' w2) q (x / y)∧dI w2 (Nw (Cv S w.heap.size iv) w' w2) r (x % y)) (fun ρ w' r=>mx (Rel.old r hS) (hx.rel r hS) (hyN.rel r hS) hy0 hlx) ?_);rintro ρ w3 v3 w4 r he hb4 ⟨q,rm,rfl,-,hr⟩;replace hw:=hw.tr hb4;have hrN:dI w4 (Cv S w.heap.size ((w3.heap.size,w4.heap.size)::iv)) rm (x % y):=hr.bz fun g hg=>Nw.cv hg r.bm;have hyN:=hyN.bq (iv':=(w3.heap.size,w4.heap.size)::iv) r hS he fun x hx=>aC _ hx;clear r he hb4 hr hx hy;generalize (w3.heap.size,w4.heap.size)::iv=iv2 at*
   conv=>whnf
   intro ρ5 w5 r5
   refine⟨((_,y),(rm,x % y),iv2,w5),⟨hw.tr r5.bs,hyN.rel r5 hS,hrN.rel r5 hS,hly,bH (fJ (Nat.le_of_lt (bc x hy0))) hly,?_⟩,
    Sub.gen [] r5 trivial ⟨rfl,rfl,trivial⟩ trivial (by simp[cO,SV.sc,At.sc]) (by rfl) (by simp),bc x hy0⟩
   dsimp only
   rw[<-hg,Nat.gcd_comm x y,Nat.gcd_rec y x,Nat.gcd_comm]
  ·have h:p.ls.length=0:=by
    have:¬(p.ls.length:Int)>0:=aF h;omega
   have hy0:y=0:=by
    have:=jL y;rw[<-hpl,h,gS]at this;omega
   rw[hy0,Nat.gcd_zero_right]at hg;conv=>whnf
   intro ρ5 w5 r5;exact⟨_,rfl,hw.tr r5.bs,by rw[<-hg];exact(hx.rel r5 hS).bz fun g hg=>Cv.nw hg r5⟩
def sg(neg:Bool)(n:Nat):Int:=if neg then -(n:Int)else n
theorem Dd(n:Nat):sg true n= -(n:Int):=rfl
theorem Fk(n:Nat):sg false n=n:=rfl
theorem pC(b:Bool)(n:Nat):(sg b n).natAbs=n:=by cases b<;>simp[sg]
def qX(w:World)(S:Nat->Prop)(v:Value)(neg:Bool)(ls:List Nat):Prop:=∃lv,v= .agg #[.bool neg,lv]∧cV w S lv ls
def dY(w:World)(S:Nat->Prop)(v:Value)(z:Int):Prop:=∃nv,v= .agg #[.bool (decide (z<0)),nv]∧dI w S nv z.natAbs
section
variable{S S':Nat->Prop}{H:Hp}{nx:Nat}{iv iv':Iv}{B:Nat}{w w' w2:World}{ρ:Nat->Sx.dN}{v:Value}{z:Int}
theorem dY.bu(h:dY w S v z)(hk:∀g,S g->w2.heap[g]? =w.heap[g]?):dY w2 S v z:=by
 obtain⟨nv,h1,h2⟩:=h;exact⟨nv,h1,h2.bu hk⟩
theorem dY.bz(h:dY w S v z)(hk:∀g,S g->S' g):dY w S' v z:=by
 obtain⟨nv,h1,h2⟩:=h;exact⟨nv,h1,h2.bz hk⟩
theorem dY.rel(h:dY w (Cv S B iv) v z)(r:Rel H nx iv B w ρ w')(hS:∀g,S g->g<B):dY w' (Cv S B iv) v z:=h.bu fun _ hg=>Rel.same r hS hg
theorem dY.bq(h:dY w (Cv S B iv) v z)(r:Rel H nx iv B w ρ w')(hS:∀g,S g->g<B)(he:Ext w' w2)(hm:∀p,p∈iv->p∈iv'):dY w2 (Cv S B iv') v z:=by
 obtain⟨nv,h1,h2⟩:=h;exact⟨nv,h1,h2.bq r hS he hm⟩
theorem dY.cQ(h:dY w2 (Nw (fun _=>False) w' w2) v z)(hB:B<=w'.heap.size)(hm:(w'.heap.size,w2.heap.size)∈iv):dY w2 (Cv S B iv) v z:=h.bz fun _ hg=>hg.cQ hB hm
end
theorem rS{n k:Nat}(h:k=ln n):0<k↔0<n:=by
 have h1:=@gM n 0;rw[gS]at h1;omega
theorem cV.shape{S:Nat->Prop}{w:World}{v:Value}{ls:List Nat}(h:cV w S v ls):∃a n c,v= .slice a n c:=by
 obtain⟨a,c,h,_⟩:=h.sl;exact⟨a,_,c,h⟩
theorem dI.shape{S:Nat->Prop}{w:World}{v:Value}{n:Nat}(h:dI w S v n):∃a n c,v= .slice a n c:=by
 obtain⟨_,h,_⟩:=h;exact h.shape
theorem cV.arg{S:Nat->Prop}{w:World}{v:Value}{ls:List Nat}(h:cV w S v ls)(iv:Iv):cV w (Cv S w.heap.size iv) v ls:=h.bz fun _ h=>.inl h
theorem dI.arg{S:Nat->Prop}{w:World}{v:Value}{n:Nat}(h:dI w S v n)(iv:Iv):dI w (Cv S w.heap.size iv) v n:=h.bz fun _ h=>.inl h
theorem dI.out{S:Nat->Prop}{H:Hp}{nx:Nat}{iv:Iv}{w w1 w':World}{ρ:Nat->Sx.dN}{v:Value}{n:Nat}(h:dI w1 (Cv S w.heap.size iv) v n)(r:Rel H nx iv w.heap.size w1 ρ w')(hS:Old S w):dI w' (Nw S w w') v n:=
 (h.rel r hS).bz fun _ hg=>Cv.nw hg r
theorem dY.out{S:Nat->Prop}{H:Hp}{nx:Nat}{iv:Iv}{w w1 w':World}{ρ:Nat->Sx.dN}{v:Value}{z:Int}(h:dY w1 (Cv S w.heap.size iv) v z)(r:Rel H nx iv w.heap.size w1 ρ w')(hS:Old S w):dY w' (Nw S w w') v z:=
 (h.rel r hS).bz fun _ hg=>Cv.nw hg r
theorem neg_pos{n k:Nat}(h:k=ln n):decide ((k:Int)>0)=decide (-(n:Int)<0):=by
 have:=rS h;exact decide_eq_decide.2 (by omega)
theorem bl(w:World):Old (fun _=>False) w:=fun _ h=>h.elim
theorem Gn{S:Nat->Prop}{w:World}{v:Value}{neg:Bool}{ls:List Nat}(hS:Old S w)(h:qX w S v neg ls):
  dQ PG N.u7 #[v] w (dU w fun v' w2=>dY w2 (Nw S w w2) v' (sg neg (val ls))):=by
 obtain⟨lv,rfl,hl⟩:=h;replace hl:=hl.arg [];refine zh (by simp) ?_;conv=>whnf
 refine bp (cA (Φ:=fun _ _ v w2=>cV w2 (Cv S w.heap.size []) v (dG ls)) (fun ρ w' r=>eK (Rel.old r hS) (cV.rel hl r hS)) ?_);rintro ρ w1 v1 w2 r he hw hL;have hN:=hL.trimmed.bz (S':=Cv S w.heap.size [(w1.heap.size,w2.heap.size)]) fun _ hg=>hg.cons;clear r he hL hl;have hN2:=hN;obtain⟨p,rfl,hp1,hp2⟩:=hN.la;have hpl:=dX p.lm hp2;rw[hp1]at hpl
 cases neg
 ·conv=>whnf
  intro ρ3 w3 r3;exact⟨_,rfl,hw.tr r3.bs,_,rfl,by rw[pC];exact hN2.out r3 hS⟩
 ·conv=>whnf
  intro ρ3 w3 r3;exact⟨_,rfl,hw.tr r3.bs,_,by rw[Dd,<-neg_pos hpl];rfl,by rw[pC];exact hN2.out r3 hS⟩
theorem De{S:Nat->Prop}{w:World}{v:Value}{z:Int}(hS:Old S w)(h:dY w S v z)(hln:ln z.natAbs<=100000000000):
  dQ PG N.jk #[v] w (dU w fun v' w2=>∃ls,qX w2 (Nw (fun _=>False) w w2) v' (decide (z<0)) ls∧Nz ls∧val ls=z.natAbs):=by
 obtain⟨nv,rfl,hn⟩:=h;obtain⟨ls,hl,hz,hv⟩:=hn;replace hl:=hl.arg [];refine mq (by simp) ?_;conv=>whnf
 refine bp (cA (Φ:=fun _ _ v w2=>cV w2 (Cv S w.heap.size []) v (dG ls)) (fun ρ w' r=>eK (Rel.old r hS) (cV.rel hl r hS)) ?_);rintro ρ w1 v1 w2 r he hw hL;rw[zS hz]at hL;have hpl:=dX hl.lm hz;rw[hv]at hpl;replace hL:=hL.bz (S':=Cv S w.heap.size [(w1.heap.size,w2.heap.size)]) fun _ hg=>hg.cons;clear r he hl;have hL2:=hL;obtain⟨p,rfl,hp⟩:=hL.la;have hpz:(p.ls.length:Int)>0↔z≠0:=by
  have h1:=rS hpl;rw[hp];omega
 subst hp;generalize hb:decide (z<0)=b
 cases b
 all_goals
  conv=>whnf
  refine bp (cA (Φ:=fun _ w' v w2=>cV w2 (Nw (fun _=>False) w' w2) v p.ls) (fun ρ w' r=>Be (Rel.old r hS) (cV.rel hL2 r hS) (by omega)) ?_);rintro ρ w3 v3 w4 r he hb4 hc;replace hw:=hw.tr hb4;have hcL:=hc.cQ (S:=fun _=>False) r.bm (iv:=(w3.heap.size,w4.heap.size)::[(w1.heap.size,w2.heap.size)]) aH;clear r he hb4 hc hL hL2;obtain⟨a3,n3,c3,rfl⟩:=hcL.shape;conv=>whnf
  intro ρ5 w5 r5;refine⟨_,rfl,hw.tr r5.bs,p.ls,⟨_,?_,(cV.rel hcL r5 (bl w)).bz fun _ hg=>Cv.nw hg r5⟩,hz,hv⟩
 ·rfl
 ·have:decide ((p.ls.length:Int)>0)=true:=bM (hpz.2 (by have:=aG hb;omega));rw[<-this];rfl
theorem vQ{S:Nat->Prop}{w:World}{v:Value}{z:Int}(h:dY w S v z):dQ PG N.ji #[v] w (dU w fun v' _=>v'= .int .i64 z.sign):=by
 obtain⟨nv,rfl,hn⟩:=h;obtain⟨p,rfl,hp1,hp2⟩:=hn.la;have hpl:=dX p.lm hp2;rw[hp1]at hpl;have hpz:=rS hpl;generalize hb:decide (z<0)=b;refine mn (by simp) ?_;conv=>whnf
 refine cW.mk (fun h=>?_) (fun h=>?_)
 ·have h:p.ls.length=0:=by have:=eq_of_beq h;omega
  have hz:z=0:=by omega
  subst hz;conv=>whnf
  intro ρ w2 r;exact⟨_,rfl,r.bs,rfl⟩
 ·have h:p.ls.length≠0:=fun e=>by rw[e]at h;simp at h
  have hz:z≠0:=by omega
  cases b
  ·have:=aF hb;conv=>whnf
   intro ρ w2 r;exact⟨_,rfl,r.bs,by rw[bW (by omega)];rfl⟩
  ·have:=aG hb;conv=>whnf
   intro ρ w2 r;exact⟨_,rfl,r.bs,by rw[bV (by omega)];rfl⟩
theorem lS{S:Nat->Prop}{w:World}{v:Value}{z:Int}(hS:Old S w)(h:dY w S v z):dQ PG N.jU #[v] w (dU w fun v' w2=>dY w2 (Nw S w w2) v' (-z)):=by
 obtain⟨nv,rfl,hn⟩:=h;have hn2:=hn.arg [];obtain⟨p,rfl,hp1,hp2⟩:=hn.la;have hpl:=dX p.lm hp2;rw[hp1]at hpl;have hpz:=rS hpl;have hab:(-z).natAbs=z.natAbs:=bh z;generalize hb:decide (z<0)=b;refine mA (by simp) ?_
 cases b
 ·have:=aF hb;have hd:decide ((p.ls.length:Int)>0)=decide (-z<0):=decide_eq_decide.2 (by omega);conv=>whnf
  intro ρ w2 r;exact⟨_,rfl,r.bs,_,by rw[<-hd];rfl,by rw[hab];exact hn2.out r hS⟩
 ·have:=aG hb;have hd:decide (-z<0)=false:=bE (by omega);conv=>whnf
  intro ρ w2 r;exact⟨_,rfl,r.bs,_,by rw[hd];rfl,by rw[hab];exact hn2.out r hS⟩
theorem dY.num{S:Nat->Prop}{w:World}{v:Value}{z:Int}(h:dY w S v z):∃a n c,v= .agg #[.bool (decide (z<0)),.slice a n c]∧dI w S (.slice a n c) z.natAbs:=by
 obtain⟨nv,h1,h2⟩:=h;obtain⟨a,n,c,rfl⟩:=h2.shape;exact⟨a,n,c,h1,h2⟩
theorem xY{S:Nat->Prop}{w:World}{v u:Value}{x y:Int}(hS:Old S w)(hx:dY w S v x)(hy:dY w S u y)(hlx:ln x.natAbs<=100000000000)(hly:ln y.natAbs<=100000000000):
  dQ PG N.jj #[v,u] w (dU w fun v' w2=>dY w2 (Nw (fun _=>False) w w2) v' (x+y)):=by
 obtain⟨nx,rfl,hxn⟩:=hx;obtain⟨ny,rfl,hyn⟩:=hy;obtain⟨ax,lx,cx,rfl⟩:=hxn.shape;obtain⟨ay,ly,cy,rfl⟩:=hyn.shape;replace hxn:=hxn.arg [];replace hyn:=hyn.arg [];generalize hbx:decide (x<0)=bx;generalize hby:decide (y<0)=b2;refine mo (by simp) ?_;have hsame:bx=b2->(x+y).natAbs=x.natAbs+y.natAbs∧decide (x+y<0)=bx:=fun e=>by
  cases bx<;>subst e
  ·have h1:=aF hbx;have h2:=aF hby;exact⟨by omega,bE (by omega)⟩
  ·have h1:=aG hbx;have h2:=aG hby;exact⟨by omega,bM (by omega)⟩
 have hdiff:bx≠b2->y.natAbs<=x.natAbs->(x+y).natAbs=x.natAbs-y.natAbs∧(decide (x+y<0)=(bx&&decide (x.natAbs-y.natAbs≠0))):=fun e h=>by
  cases bx
  ·have h1:=aF hbx
   cases b2
   ·exact absurd rfl e
   have h2:=aG hby;exact⟨by omega,by rw[Bool.false_and];exact bE (by omega)⟩
  ·have h1:=aG hbx
   cases b2
   ·have h2:=aF hby;exact⟨by omega,by rw[Bool.true_and];exact decide_eq_decide.2 (by omega)⟩
   ·exact absurd rfl e
 have hdiff2:bx≠b2->x.natAbs<y.natAbs->(x+y).natAbs=y.natAbs-x.natAbs∧decide (x+y<0)=b2:=fun e h=>by
  cases bx
  ·have h1:=aF hbx
   cases b2
   ·exact absurd rfl e
   have h2:=aG hby;exact⟨by omega,bM (by omega)⟩
  ·have h1:=aG hbx
   cases b2
   ·have h2:=aF hby;exact⟨by omega,bE (by omega)⟩
   ·exact absurd rfl e
 by_cases hbb:bx=b2
 ·obtain⟨h1,h2⟩:=hsame hbb;subst hbb;clear hsame hdiff hdiff2
  cases bx
  all_goals
   conv=>whnf
   refine bw hτ dH [.x 0,.x 1,.x 2,.x 3,.x 4,.x 5,.x 6,.x 7,.x 8] (by kernel_rfl) (by kernel_rfl) ?_;conv=>whnf
   refine cA (Φ:=fun _ w' v w2=>dI w2 (Nw (fun _=>False) w' w2) v (x.natAbs+y.natAbs)) (fun ρ w' r=>Fq (Rel.old r hS) (hxn.rel r hS) (hyn.rel r hS) (by omega) (by omega)) ?_;rintro ρ w3 v3 w4 r he hw hn;have hN:=hn.cQ (S:=fun _=>False) r.bm (iv:=(w3.heap.size,w4.heap.size)::[]) aH;clear r he hn hxn hyn;obtain⟨a3,n3,c3,rfl⟩:=hN.shape;conv=>whnf
   intro ρ5 w5 r5;exact⟨_,rfl,hw.tr r5.bs,_,by rw[h2];rfl,by rw[h1];exact hN.out r5 (bl w)⟩
 ·replace hdiff:=hdiff hbb;replace hdiff2:=hdiff2 hbb;clear hsame;have hcmp:∀d:Int,d=ot x.natAbs y.natAbs->(0<=d↔y.natAbs<=x.natAbs):=fun d e=>by
   rw[e];unfold ot;split
   ·omega
   ·split<;>omega
  cases bx<;>cases b2<;>first|exact absurd rfl hbb|skip
  all_goals
   conv=>whnf
   refine bp (cA (Φ:=fun _ _ v _=>v= .int .i64 (ot x.natAbs y.natAbs)) (fun ρ w' r=>DV (Rel.old r hS) (hxn.rel r hS) (hyn.rel r hS)) ?_);rintro ρ w1 v1 w2 r he hw rfl;replace hxn:=hxn.bq (iv':=[(w1.heap.size,w2.heap.size)]) r hS he fun x hx=>aC _ hx;replace hyn:=hyn.bq (iv':=[(w1.heap.size,w2.heap.size)]) r hS he fun x hx=>aC _ hx;clear r he;conv=>whnf
   refine cW.mk (fun h=>?_) (fun h=>?_)
   ·have h:=(hcmp _ rfl).1 (aG h);obtain⟨h1,h2⟩:=hdiff h;conv=>whnf
    refine bp (cA (Φ:=fun _ w' v w2=>dI w2 (Nw (fun _=>False) w' w2) v (x.natAbs-y.natAbs)) (fun ρ w' r=>yO (Rel.old r hS) (hxn.rel r hS) (hyn.rel r hS) h (by omega)) ?_);rintro ρ w3 v3 w4 r he hb4 hn;replace hw:=hw.tr hb4;have hN:=hn.cQ (S:=fun _=>False) r.bm (iv:=(w3.heap.size,w4.heap.size)::[(w1.heap.size,w2.heap.size)]) aH;clear r he hn hxn hyn hb4;have hN2:=hN;obtain⟨p,rfl,hp1,hp2⟩:=hN.la;have hpl:=dX p.lm hp2;rw[hp1]at hpl;have hpz:=rS hpl;have hd:decide ((p.ls.length:Int)>0)=decide (x.natAbs-y.natAbs≠0):=decide_eq_decide.2 (by omega);conv=>whnf
    intro ρ5 w5 r5;exact⟨_,rfl,hw.tr r5.bs,_,by rw[h2,<-hd];rfl,by rw[h1];exact hN2.out r5 (bl w)⟩
   ·have h:x.natAbs<y.natAbs:=by
     have h0:=aF h;have:=hcmp _ rfl;omega
    obtain⟨h1,h2⟩:=hdiff2 h;conv=>whnf
    refine bw hτ dH [.x 0,.x 1,.x 2,.x 3,.x 4,.x 5,.x 6,.x 7,.x 8] (by kernel_rfl) (by kernel_rfl) ?_;conv=>whnf
    refine cA (Φ:=fun _ w' v w2=>dI w2 (Nw (fun _=>False) w' w2) v (y.natAbs-x.natAbs)) (fun ρ w' r=>yO (Rel.old r hS) (hyn.rel r hS) (hxn.rel r hS) (by omega) (by omega)) ?_;rintro ρ w3 v3 w4 r he hb4 hn;replace hw:=hw.tr hb4;have hN:=hn.cQ (S:=fun _=>False) r.bm (iv:=(w3.heap.size,w4.heap.size)::[(w1.heap.size,w2.heap.size)]) aH;clear r he hn hxn hyn hb4;obtain⟨a3,n3,c3,rfl⟩:=hN.shape;conv=>whnf
    intro ρ5 w5 r5;exact⟨_,rfl,hw.tr r5.bs,_,by rw[h2];rfl,by rw[h1];exact hN.out r5 (bl w)⟩
theorem fX{S:Nat->Prop}{w:World}{v u:Value}{x y:Int}(hS:Old S w)(hx:dY w S v x)(hy:dY w S u y)(hlx:ln x.natAbs<=100000000000)(hly:ln y.natAbs<=100000000000):
  dQ PG N.jT #[v,u] w (dU w fun v' w2=>dY w2 (Nw (fun _=>False) w w2) v' (x*y)):=by
 obtain⟨nx,rfl,hxn⟩:=hx;obtain⟨ny,rfl,hyn⟩:=hy;obtain⟨ax,lx,cx,rfl⟩:=hxn.shape;obtain⟨ay,ly,cy,rfl⟩:=hyn.shape;replace hxn:=hxn.arg [];replace hyn:=hyn.arg [];have hab:=Int.natAbs_mul x y;have hneg:decide (x*y<0)=((decide (x<0) != decide (y<0))&&decide (x.natAbs*y.natAbs≠0)):=by
  by_cases h0:x*y=0
  ·rw[<-hab,h0];simp
  ·have hx0:x≠0:=fun e=>h0 (by rw[e,Int.zero_mul]);have hy0:y≠0:=fun e=>h0 (by rw[e,Int.mul_zero]);rw[<-hab,bM (show (x*y).natAbs≠0 by omega),Bool.and_true];by_cases h1:x<0<;>by_cases h2:y<0
   ·rw[bM h1,bM h2];exact bE (by have:=Int.mul_pos_of_neg_of_neg h1 h2;omega)
   ·rw[bM h1,bE h2];exact bM (Int.mul_neg_of_neg_of_pos h1 (by omega))
   ·rw[bE h1,bM h2];exact bM (Int.mul_neg_of_pos_of_neg (by omega) h2)
   ·rw[bE h1,bE h2];exact bE (by have:=Int.mul_nonneg (show 0<=x by omega) (show 0<=y by omega);omega)
 generalize decide (x<0)=bx at*
 generalize decide (y<0)=b2 at*
 refine lz (by simp) ?_;conv=>whnf
 refine bp (cA (Φ:=fun _ w' v w2=>dI w2 (Nw (fun _=>False) w' w2) v (x.natAbs*y.natAbs)) (fun ρ w' r=>Bg (Rel.old r hS) (hxn.rel r hS) (hyn.rel r hS) (by omega) (by omega)) ?_);rintro ρ w3 v3 w4 r he hw hn;have hN:=hn.cQ (S:=fun _=>False) r.bm (iv:=(w3.heap.size,w4.heap.size)::[]) aH;clear r he hn hxn hyn;have hN2:=hN;obtain⟨p,rfl,hp1,hp2⟩:=hN.la;have hpl:=dX p.lm hp2;rw[hp1]at hpl;have hpz:=rS hpl;have hd:decide ((p.ls.length:Int)>0)=decide (x.natAbs*y.natAbs≠0):=decide_eq_decide.2 (by omega)
 cases bx<;>cases b2
 all_goals
  conv=>whnf
  intro ρ5 w5 r5;exact⟨_,rfl,hw.tr r5.bs,_,by rw[hneg,<-hd];rfl,by rw[hab];exact hN2.out r5 (bl w)⟩
theorem Dk{S:Nat->Prop}{w:World}{v u:Value}{x y:Int}(hS:Old S w)(hx:dY w S v x)(hy:dY w S u y)(hlx:ln x.natAbs<=100000000000)(hly:ln y.natAbs<=100000000000):
  dQ PG N.kU #[v,u] w (dU w fun v' _=>v'= .int .i64 (x-y).sign):=by
 have hxN:dY w (Cv S w.heap.size []) v x:=hx.bz fun _ h=>.inl h;have hyN:dY w (Cv S w.heap.size []) u y:=hy.bz fun _ h=>.inl h;obtain⟨nx,rfl,hxn⟩:=hx;obtain⟨ny,rfl,hyn⟩:=hy;obtain⟨ax,lx,cx,rfl⟩:=hxn.shape;obtain⟨ay,ly,cy,rfl⟩:=hyn.shape;refine nk (by simp) ?_;conv=>whnf
 refine bw hτ dH [.x 0,.x 1,.x 2,.x 3,.x 4,.x 5] (by kernel_rfl) (by kernel_rfl) ?_;conv=>whnf
 refine cA (Φ:=fun _ w' v w2=>dY w2 (Nw (Cv S w.heap.size []) w' w2) v (-y)) (fun ρ w' r=>lS (Rel.old r hS) (hyN.rel r hS)) ?_;rintro ρ w1 v1 w2 r he hw hm;have hmN:dY w2 (Cv S w.heap.size [(w1.heap.size,w2.heap.size)]) v1 (-y):=hm.bz fun _ hg=>Nw.cv hg r.bm;replace hxN:=hxN.bq (iv':=[(w1.heap.size,w2.heap.size)]) r hS he fun x hx=>aC _ hx;clear r he hm hyN;generalize [(w1.heap.size,w2.heap.size)]=iv at*
 have hmN2:=hmN;obtain⟨am,lm,cm,rfl,-⟩:=hmN.num;conv=>whnf
 refine cA (Φ:=fun _ w' v w2=>dY w2 (Nw (fun _=>False) w' w2) v (x+ -y)) (fun ρ w' r=>xY (Rel.old r hS) (hxN.rel r hS) (hmN2.rel r hS) hlx (by rw[bh];exact hly)) ?_;rintro ρ w3 v3 w4 r he hb4 hp;replace hw:=hw.tr hb4;have hpN:=hp.cQ (S:=S) r.bm (iv:=(w3.heap.size,w4.heap.size)::iv) aH;clear r he hp hxN hmN hmN2 hb4;have hpN2:=hpN;obtain⟨ap,lp,cp,rfl,-⟩:=hpN.num;conv=>whnf
 refine cA (Φ:=fun _ _ v _=>v= .int .i64 (x-y).sign) (fun ρ w' r=>vQ (hpN2.rel r hS)) ?_;rintro ρ w5 v5 w6 r he hb6 rfl;replace hw:=hw.tr hb6;clear r he hb6;conv=>whnf
 intro ρ7 w7 r7;exact⟨_,rfl,hw.tr r7.bs,rfl⟩
theorem lV(n:Int)(w:World)(h1: -9223372036854775808<=n)(h2:n<=9223372036854775807):
  dQ PG N.sQ #[.int .i64 n] w (dU w fun v' w2=>dY w2 (Nw (fun _=>False) w w2) v' n):=by
 have key:∀(m:Nat),m=n.natAbs->m<18446744073709551616∧val [m % 4294967296,m / 4294967296]=n.natAbs∧m / 4294967296<4294967296:=fun m e=>by
  refine⟨by omega,?_,by omega⟩;simp only[val]
  omega
 refine vG (by simp) ?_;conv=>whnf
 refine⟨if n<0 then n+18446744073709551616 else n,by show n % 18446744073709551616=_;split<;>omega,?_⟩;conv=>whnf
 refine cW.mk (fun h=>?_) (fun h=>?_)
 ·have h:=aG h;rw[aQ h];obtain⟨m,hm⟩:∃m,m=n.natAbs:=⟨_,rfl⟩
  obtain⟨k1,k2,k3⟩:=key m hm;conv=>whnf
  refine⟨(m:Int),by show(0-(n+18446744073709551616)) % 18446744073709551616=_;omega,?_⟩;conv=>whnf
  refine⟨((m % 4294967296:Nat):Int),eC m,?_⟩;conv=>whnf
  refine⟨by decide,((m / 2^32:Nat):Int),j3 32 (by decide),?_⟩;conv=>whnf
  refine⟨((m / 4294967296:Nat):Int),by rw[eC,bD (by omega)],?_⟩;conv=>whnf
  refine fF (Φ:=fun ρ _ v w2=>cV w2 (fun g=>g=(ρ 1).g) v (dG [m % 4294967296,m / 4294967296])) (H':=[(0,.box T.number [.v (.bool false),.v (.slice none 0 0)])]) 1 rfl (by simp) ⟨rfl,trivial⟩ rfl (fun ρ w' r=>r.nn 1 _ rfl (by intros;simp) (by simp)) (fun ρ w' r=>?_) ?_
  ·have hL:=r.qQ (id:=1) (ls:=[m % 4294967296,m / 4294967296]) rfl (by intro x hx;simp at hx;omega) (by simp);exact eK (fun g hg=>by rw[hg];exact(r.low 1 _ rfl (r.nn 1 _ rfl (by intros;simp) (by simp))).2) hL
  rintro ρ w1 v1 w2 r he hw hL;have hlow:=r.low 1 _ rfl (r.nn 1 _ rfl (by intros;simp) (by simp));have hs:=he.size;generalize (ρ 1).g=g0 at*
  have hN:dI w2 (Cv (fun _=>False) w.heap.size [(g0,g0+1),(w1.heap.size,w2.heap.size)]) v1 n.natAbs:=by
   have:=hL.trimmed;rw[k2]at this;exact this.bz fun k hk=>.inr ⟨by omega,g0,g0+1,by simp,by omega,by omega⟩
  clear hL r he hlow hs;generalize [(g0,g0+1),(w1.heap.size,w2.heap.size)]=iv at*
  obtain⟨a3,n3,c3,rfl⟩:=hN.shape;conv=>whnf
  intro ρ5 w5 r5;exact⟨_,rfl,hw.tr r5.bs,_,rfl,hN.out r5 (bl w)⟩
 ·have h:=aF h;rw[aL h];obtain⟨m,hm⟩:∃m,m=n.natAbs:=⟨_,rfl⟩
  obtain⟨k1,k2,k3⟩:=key m hm;have hmn:n=(m:Int):=by omega
  conv=>whnf
  refine⟨((m % 4294967296:Nat):Int),by rw[hmn];exact eC m,?_⟩;conv=>whnf
  refine⟨by decide,((m / 2^32:Nat):Int),by rw[hmn];exact j3 32 (by decide),?_⟩;conv=>whnf
  refine⟨((m / 4294967296:Nat):Int),by rw[eC,bD (by omega)],?_⟩;conv=>whnf
  refine fF (Φ:=fun ρ _ v w2=>cV w2 (fun g=>g=(ρ 1).g) v (dG [m % 4294967296,m / 4294967296])) (H':=[(0,.box T.number [.v (.bool false),.v (.slice none 0 0)])]) 1 rfl (by simp) ⟨rfl,trivial⟩ rfl (fun ρ w' r=>r.nn 1 _ rfl (by intros;simp) (by simp)) (fun ρ w' r=>?_) ?_
  ·have hL:=r.qQ (id:=1) (ls:=[m % 4294967296,m / 4294967296]) rfl (by intro x hx;simp at hx;omega) (by simp);exact eK (fun g hg=>by rw[hg];exact(r.low 1 _ rfl (r.nn 1 _ rfl (by intros;simp) (by simp))).2) hL
  rintro ρ w1 v1 w2 r he hw hL;have hlow:=r.low 1 _ rfl (r.nn 1 _ rfl (by intros;simp) (by simp));have hs:=he.size;generalize (ρ 1).g=g0 at*
  have hN:dI w2 (Cv (fun _=>False) w.heap.size [(g0,g0+1),(w1.heap.size,w2.heap.size)]) v1 n.natAbs:=by
   have:=hL.trimmed;rw[k2]at this;exact this.bz fun k hk=>.inr ⟨by omega,g0,g0+1,by simp,by omega,by omega⟩
  clear hL r he hlow hs;generalize [(g0,g0+1),(w1.heap.size,w2.heap.size)]=iv at*
  obtain⟨a3,n3,c3,rfl⟩:=hN.shape;conv=>whnf
  intro ρ5 w5 r5;exact⟨_,rfl,hw.tr r5.bs,_,rfl,hN.out r5 (bl w)⟩
def gg(w:World)(S:Nat->Prop)(v:Value)(z:Int):Prop:=∃neg ls,qX w S v neg ls∧sg neg (val ls)=z
def cU(w:World)(S:Nat->Prop)(v:Value)(z:Int):Prop:=∃ls,qX w S v (decide (z<0)) ls∧Nz ls∧val ls=z.natAbs
theorem x5(z:Int):sg (decide (z<0)) z.natAbs=z:=by
 by_cases h:z<0
 ·rw[bM h,Dd];omega
 ·rw[bE h,Fk];omega
theorem cU.r{w:World}{S:Nat->Prop}{v:Value}{z:Int}(h:cU w S v z):gg w S v z:=by
 obtain⟨ls,h1,h2,h3⟩:=h;exact⟨_,ls,h1,by rw[h3,x5]⟩
section
variable{S S':Nat->Prop}{H:Hp}{nx:Nat}{iv iv':Iv}{B:Nat}{w w' w2:World}{ρ:Nat->Sx.dN}{v:Value}{z:Int}{neg:Bool}{ls:List Nat}
theorem qX.bu(h:qX w S v neg ls)(hk:∀g,S g->w2.heap[g]? =w.heap[g]?):qX w2 S v neg ls:=by
 obtain⟨lv,h1,h2⟩:=h;exact⟨lv,h1,h2.bu hk⟩
theorem qX.bz(h:qX w S v neg ls)(hk:∀g,S g->S' g):qX w S' v neg ls:=by
 obtain⟨lv,h1,h2⟩:=h;exact⟨lv,h1,h2.bz hk⟩
theorem gg.bu(h:gg w S v z)(hk:∀g,S g->w2.heap[g]? =w.heap[g]?):gg w2 S v z:=by
 obtain⟨n,l,h1,h2⟩:=h;exact⟨n,l,h1.bu hk,h2⟩
theorem gg.bz(h:gg w S v z)(hk:∀g,S g->S' g):gg w S' v z:=by
 obtain⟨n,l,h1,h2⟩:=h;exact⟨n,l,h1.bz hk,h2⟩
theorem cU.bu(h:cU w S v z)(hk:∀g,S g->w2.heap[g]? =w.heap[g]?):cU w2 S v z:=by
 obtain⟨l,h1,h2⟩:=h;exact⟨l,h1.bu hk,h2⟩
theorem cU.bz(h:cU w S v z)(hk:∀g,S g->S' g):cU w S' v z:=by
 obtain⟨l,h1,h2⟩:=h;exact⟨l,h1.bz hk,h2⟩
theorem gg.rel(h:gg w (Cv S B iv) v z)(r:Rel H nx iv B w ρ w')(hS:∀g,S g->g<B):gg w' (Cv S B iv) v z:=h.bu fun _ hg=>Rel.same r hS hg
theorem cU.rel(h:cU w (Cv S B iv) v z)(r:Rel H nx iv B w ρ w')(hS:∀g,S g->g<B):cU w' (Cv S B iv) v z:=h.bu fun _ hg=>Rel.same r hS hg
theorem gg.bq(h:gg w (Cv S B iv) v z)(r:Rel H nx iv B w ρ w')(hS:∀g,S g->g<B)(he:Ext w' w2)(hm:∀p,p∈iv->p∈iv'):gg w2 (Cv S B iv') v z:=
 ((h.rel r hS).bu fun g hg=>he.block g (Rel.old r hS g hg)).bz fun _ hg=>hg.mono hm
theorem cU.bq(h:cU w (Cv S B iv) v z)(r:Rel H nx iv B w ρ w')(hS:∀g,S g->g<B)(he:Ext w' w2)(hm:∀p,p∈iv->p∈iv'):cU w2 (Cv S B iv') v z:=
 ((h.rel r hS).bu fun g hg=>he.block g (Rel.old r hS g hg)).bz fun _ hg=>hg.mono hm
theorem cU.cQ(h:cU w2 (Nw (fun _=>False) w' w2) v z)(hB:B<=w'.heap.size)(hm:(w'.heap.size,w2.heap.size)∈iv):cU w2 (Cv S B iv) v z:=h.bz fun _ hg=>hg.cQ hB hm
theorem gg.shape(h:gg w S v z):∃b a n c,v= .agg #[.bool b,.slice a n c]:=by
 obtain⟨b,l,⟨lv,h1,h2⟩,_⟩:=h;obtain⟨a,n,c,rfl⟩:=h2.shape;exact⟨b,a,n,c,h1⟩
theorem dY.old(h:dY w2 (Nw (Cv S B iv) w' w2) v z)(hB:B<=w'.heap.size):dY w2 (Cv S B ((w'.heap.size,w2.heap.size)::iv)) v z:=h.bz fun _ hg=>Nw.cv hg hB
end
theorem cU.out{S:Nat->Prop}{H:Hp}{nx:Nat}{iv:Iv}{w w1 w':World}{ρ:Nat->Sx.dN}{v:Value}{z:Int}(h:cU w1 (Cv S w.heap.size iv) v z)(r:Rel H nx iv w.heap.size w1 ρ w')(hS:Old S w):cU w' (Nw S w w') v z:=
 (h.rel r hS).bz fun _ hg=>Cv.nw hg r
theorem Dp{S:Nat->Prop}{w:World}{v:Value}{z:Int}(hS:Old S w)(h:gg w S v z):dQ PG N.u7 #[v] w (dU w fun v' w2=>dY w2 (Nw S w w2) v' z):=by
 obtain⟨n,l,h1,rfl⟩:=h;exact Gn hS h1
theorem dY.shape{S:Nat->Prop}{w:World}{v:Value}{z:Int}(h:dY w S v z):∃b a n c,v= .agg #[.bool b,.slice a n c]:=by
 obtain⟨a,n,c,h1,_⟩:=h.num;exact⟨_,a,n,c,h1⟩
theorem cU.shape{S:Nat->Prop}{w:World}{v:Value}{z:Int}(h:cU w S v z):∃b a n c,v= .agg #[.bool b,.slice a n c]:=h.r.shape
theorem cL(x y:Int):ln (x*y).natAbs<=ln x.natAbs+ln y.natAbs:=by
 rw[Int.natAbs_mul];exact F1 _ _
end Go.Ex
namespace Go.Ex
open Go Go.Sx
theorem uK{x y:Int}(hy:0<y)(hx:x≠0):
  (Rat.divInt x y).num.natAbs=x.natAbs / Nat.gcd x.natAbs y.natAbs∧(Rat.divInt x y).den=y.natAbs / Nat.gcd x.natAbs y.natAbs∧decide ((Rat.divInt x y).num<0)=decide (x<0):=by
 have hg:0<Nat.gcd x.natAbs y.natAbs:=bX _ (by omega);have hs:y.sign=1:=bW hy;have hc:(y.gcd x:Int)=(Nat.gcd x.natAbs y.natAbs:Nat):=by rw[Int.gcd_comm];rfl
 have hdx:((Nat.gcd x.natAbs y.natAbs:Nat):Int) ∣ x:=by
  rw[<-Int.natAbs_dvd_natAbs];exact Nat.gcd_dvd_left _ _
 have h1:(Rat.divInt x y).num=x / ((Nat.gcd x.natAbs y.natAbs:Nat):Int):=by
  rw[Rat.num_divInt,hs,Int.one_mul,hc]
 have hgi:0<((Nat.gcd x.natAbs y.natAbs:Nat):Int):=by omega
 refine⟨?_,?_,?_⟩
 ·rw[h1,Int.natAbs_ediv_of_dvd hdx];rfl
 ·rw[Rat.den_divInt,aL (by omega)];have:y.gcd x=Nat.gcd x.natAbs y.natAbs:=by rw[Int.gcd_comm];rfl
  rw[this]
 ·rw[h1];obtain⟨k,hk⟩:=hdx;refine decide_eq_decide.2 ?_;have:x / ((Nat.gcd x.natAbs y.natAbs:Nat):Int)=k:=by
   conv=>lhs;lhs;rw[hk]
   exact Int.mul_ediv_cancel_left _ (by omega)
  rw[this];generalize ((Nat.gcd x.natAbs y.natAbs:Nat):Int)=g at*
  subst hk;constructor
  ·intro h;exact Int.mul_neg_of_pos_of_neg hgi h
  ·intro h;have h0:¬0<=k:=fun hh=>by have:=Int.mul_nonneg (show 0<=g by omega) hh;omega
   omega
theorem CN{a b:Nat}:ln (a / b)<=ln a:=fJ (Nat.div_le_self a b)
theorem uL(y:Int):Rat.divInt 0 y=0:=Rat.zero_divInt y
end Go.Ex
namespace Go.Ex
open Go Go.Sx Go.Proofs
theorem dI.old{S:Nat->Prop}{B:Nat}{iv:Iv}{w' w2:World}{v:Value}{n:Nat}(h:dI w2 (Nw (Cv S B iv) w' w2) v n)(hB:B<=w'.heap.size):dI w2 (Cv S B ((w'.heap.size,w2.heap.size)::iv)) v n:=h.bz fun _ hg=>Nw.cv hg hB
def cZ(w:World)(S:Nat->Prop)(v:Value)(q:Rat):Prop:=∃nv dv,v= .agg #[.bool (decide (q.num<0)),nv,.bool false,dv]∧dI w S nv q.num.natAbs∧dI w S dv q.den
theorem cZ.bu{S:Nat->Prop}{w w2:World}{v:Value}{q:Rat}(h:cZ w S v q)(hk:∀g,S g->w2.heap[g]? =w.heap[g]?):cZ w2 S v q:=by
 obtain⟨n,d,h1,h2,h3⟩:=h;exact⟨n,d,h1,h2.bu hk,h3.bu hk⟩
theorem cZ.bz{S S':Nat->Prop}{w:World}{v:Value}{q:Rat}(h:cZ w S v q)(hk:∀g,S g->S' g):cZ w S' v q:=by
 obtain⟨n,d,h1,h2,h3⟩:=h;exact⟨n,d,h1,h2.bz hk,h3.bz hk⟩
theorem cZ.shape{S:Nat->Prop}{w:World}{v:Value}{q:Rat}(h:cZ w S v q):∃b a n c b2 a2 n2 c2,v= .agg #[.bool b,.slice a n c,.bool b2,.slice a2 n2 c2]:=by
 obtain⟨n,d,h1,h2,h3⟩:=h;obtain⟨a,n,c,rfl⟩:=h2.shape;obtain⟨a2,n2,c2,rfl⟩:=h3.shape;exact⟨_,a,n,c,_,a2,n2,c2,h1⟩
theorem cZ.num{S:Nat->Prop}{w:World}{b b2:Bool}{nv dv:Value}{q:Rat}(h:cZ w S (.agg #[.bool b,nv,.bool b2,dv]) q):dY w S (.agg #[.bool b,nv]) q.num:=by
 obtain⟨n,d,h1,h2,h3⟩:=h;simp at h1;obtain⟨rfl,rfl,rfl,rfl⟩:=h1;exact⟨_,rfl,h2⟩
theorem cZ.den{S:Nat->Prop}{w:World}{b b2:Bool}{nv dv:Value}{q:Rat}(h:cZ w S (.agg #[.bool b,nv,.bool b2,dv]) q):dY w S (.agg #[.bool b2,dv]) (q.den:Int):=by
 obtain⟨n,d,h1,h2,h3⟩:=h;simp at h1;obtain⟨rfl,rfl,rfl,rfl⟩:=h1;exact⟨_,by rw[bE (by omega)],h3⟩
theorem cZ.of{S:Nat->Prop}{w:World}{b b2:Bool}{nv dv:Value}{q:Rat}(h:dY w S (.agg #[.bool b,nv]) q.num)(k:dY w S (.agg #[.bool b2,dv]) (q.den:Int)):cZ w S (.agg #[.bool b,nv,.bool b2,dv]) q:=by
 obtain⟨n,h1,h2⟩:=h;obtain⟨d,h3,h4⟩:=k;simp at h1 h3;obtain⟨rfl,rfl⟩:=h1;obtain⟨rfl,rfl⟩:=h3;refine⟨_,_,?_,h2,h4⟩;rw[bE (show ¬((q.den:Int)<0) by omega)]
section
variable{S S':Nat->Prop}{H:Hp}{nx:Nat}{iv iv':Iv}{B:Nat}{w w' w2:World}{ρ:Nat->Sx.dN}{v:Value}{q:Rat}
theorem cZ.rel(h:cZ w (Cv S B iv) v q)(r:Rel H nx iv B w ρ w')(hS:∀g,S g->g<B):cZ w' (Cv S B iv) v q:=h.bu fun _ hg=>Rel.same r hS hg
theorem cZ.bq(h:cZ w (Cv S B iv) v q)(r:Rel H nx iv B w ρ w')(hS:∀g,S g->g<B)(he:Ext w' w2)(hm:∀p,p∈iv->p∈iv'):cZ w2 (Cv S B iv') v q:=
 ((h.rel r hS).bu fun g hg=>he.block g (Rel.old r hS g hg)).bz fun _ hg=>hg.mono hm
theorem cZ.cQ(h:cZ w2 (Nw (fun _=>False) w' w2) v q)(hB:B<=w'.heap.size)(hm:(w'.heap.size,w2.heap.size)∈iv):cZ w2 (Cv S B iv) v q:=h.bz fun _ hg=>hg.cQ hB hm
theorem cZ.old(h:cZ w2 (Nw (Cv S B iv) w' w2) v q)(hB:B<=w'.heap.size):cZ w2 (Cv S B ((w'.heap.size,w2.heap.size)::iv)) v q:=h.bz fun _ hg=>Nw.cv hg hB
theorem cZ.out{w0 w1:World}(h:cZ w1 (Cv S w0.heap.size iv) v q)(r:Rel H nx iv w0.heap.size w1 ρ w')(hS:Old S w0):cZ w' (Nw S w0 w') v q:=
 (h.rel r hS).bz fun _ hg=>Cv.nw hg r
end
theorem dY.nat{S:Nat->Prop}{w:World}{b:Bool}{nv:Value}{z:Int}(h:dY w S (.agg #[.bool b,nv]) z):b=decide (z<0)∧dI w S nv z.natAbs:=by
 obtain⟨n,h1,h2⟩:=h;simp at h1;obtain⟨rfl,rfl⟩:=h1;exact⟨rfl,h2⟩
theorem rV{S:Nat->Prop}{w:World}{v u:Value}{x y:Int}(hS:Old S w)(hx:dY w S v x)(hy:dY w S u y)(hy0:y≠0)(hlx:ln x.natAbs<=100000000000)(hly:ln y.natAbs<=100000000000):
  dQ PG N.u9 #[v,u] w (dU w fun v' w2=>cZ w2 (Nw (fun _=>False) w w2) v' (Rat.divInt x y)):=by
 have hw:cF w.heap.size w w:=cF.refl;replace hx:=hx.bz (S':=Cv S w.heap.size []) fun _ h=>.inl h;replace hy:=hy.bz (S':=Cv S w.heap.size []) fun _ h=>.inl h;obtain⟨bx,ax,lx,cx,rfl⟩:=hx.shape;obtain⟨b2,ay,ly,cy,rfl⟩:=hy.shape;have hb2:=hy.nat.1;refine wL (by simp) ?_;conv=>whnf
 cases b2
 ·have hyp:0<y:=by have:=aF hb2.symm;omega
  have hq:Rat.divInt x y=Rat.divInt x y:=rfl;conv=>whnf
  have hbA:=hx.nat.1;refine bp (cE hw (Φ:=fun _ w' v w2=>v= .int .i64 (x).sign) (fun ρ w' r=>vQ (hx.rel r hS)) ?_);rintro ρ wa1 v1 wb1 iv1 r he hw h_ rfl;replace hx:=hx.bq r hS he (mC h_);replace hy:=hy.bq r hS he (mC h_);clear r;conv=>whnf
  refine cW.mk (fun h=>?_) (fun h=>?_)
  ·have h:x=0:=Int.sign_eq_zero_iff_zero.1 (eq_of_beq h);conv=>whnf
   refine bp (cE hw (Φ:=fun _ w' v w2=>dY w2 (Nw (fun _=>False) w' w2) v 1) (fun ρ w' r=>lV 1 w' (by decide) (by decide)) ?_);rintro ρ wa2 v2 wb2 iv2 r he hw h_ hn;clear hx;clear hy;have hO:=hn.cQ (S:=fun _=>False) r.bm (mN h_);clear r;obtain⟨s2_0,s2_1,s2_2,s2_3,rfl⟩:=hO.shape;conv=>whnf
   have e0:Rat.divInt x y=0:=by rw[hq,h,uL]
   intro ρe we re;exact⟨_,rfl,hw.tr re.bs,by rw[e0];exact cZ.of ⟨_,rfl,dI.nil _ _⟩ (hO.out re (bl w))⟩
  ·have h:x≠0:=fun e=>by rw[e]at h;exact absurd h (by decide)
   obtain⟨g1,g2,g3⟩:=uK hyp h;have hg0:0<Nat.gcd (x).natAbs (y).natAbs:=bX _ (by omega);have hAn:=hx.nat.2;have hBn:=hy.nat.2;conv=>whnf
   refine bp (cA (Φ:=fun _ w' v w2=>dI w2 (Nw (Cv S w.heap.size iv1) w' w2) v (Nat.gcd (x).natAbs (y).natAbs)) (fun ρ w' r=>zy (Rel.old r hS) (hAn.rel r hS) (hBn.rel r hS) (by omega) (by omega)) ?_);rintro ρ wa2 v2 wb2 r he hb hn;replace hw:=hw.tr hb;clear hx;clear hy;replace hAn:=hAn.bq (iv':=(wa2.heap.size,wb2.heap.size)::iv1) r hS he fun x hx=>aC _ hx;replace hBn:=hBn.bq (iv':=(wa2.heap.size,wb2.heap.size)::iv1) r hS he fun x hx=>aC _ hx;have hG:=hn.old r.bm;clear r he hb hn;generalize (wa2.heap.size,wb2.heap.size)::iv1=iv2 at*
   obtain⟨s2_0,s2_1,s2_2,rfl⟩:=hG.shape;conv=>whnf
   refine bp (cA (Φ:=fun _ w' v w2=>∃q r,v= .tuple #[q,r]∧dI w2 (Nw (fun _=>False) w' w2) q ((x).natAbs / Nat.gcd (x).natAbs (y).natAbs)∧dI w2 (Nw (Cv S w.heap.size iv2) w' w2) r ((x).natAbs % Nat.gcd (x).natAbs (y).natAbs)) (fun ρ w' r=>mx (Rel.old r hS) (hAn.rel r hS) (hG.rel r hS) hg0 (by omega)) ?_);rintro ρ wa3 v3 wb3 r he hb ⟨qvp,rvp,rfl,hq1,hr1⟩;replace hw:=hw.tr hb;clear hAn;replace hBn:=hBn.bq (iv':=(wa3.heap.size,wb3.heap.size)::iv2) r hS he fun x hx=>aC _ hx;replace hG:=hG.bq (iv':=(wa3.heap.size,wb3.heap.size)::iv2) r hS he fun x hx=>aC _ hx;have hP:=hq1.cQ (S:=fun _=>False) r.bm (iv:=(wa3.heap.size,wb3.heap.size)::iv2) aH;have hPr:=hr1.old r.bm;clear r he hb;generalize (wa3.heap.size,wb3.heap.size)::iv2=iv3 at*
   obtain⟨s3_0a,s3_0b,s3_0c,rfl⟩:=hP.shape;obtain⟨s3_1a,s3_1b,s3_1c,rfl⟩:=hPr.shape;conv=>whnf
   clear hPr;refine bp (cA (Φ:=fun _ w' v w2=>∃q r,v= .tuple #[q,r]∧dI w2 (Nw (fun _=>False) w' w2) q ((y).natAbs / Nat.gcd (x).natAbs (y).natAbs)∧dI w2 (Nw (Cv S w.heap.size iv3) w' w2) r ((y).natAbs % Nat.gcd (x).natAbs (y).natAbs)) (fun ρ w' r=>mx (Rel.old r hS) (hBn.rel r hS) (hG.rel r hS) hg0 (by omega)) ?_);rintro ρ wa4 v4 wb4 r he hb ⟨qvq,rvq,rfl,hq1,hr1⟩;replace hw:=hw.tr hb;clear hBn;clear hG;replace hP:=hP.bq (iv':=(wa4.heap.size,wb4.heap.size)::iv3) r (bl w) he fun x hx=>aC _ hx;have hQ:=hq1.cQ (S:=fun _=>False) r.bm (iv:=(wa4.heap.size,wb4.heap.size)::iv3) aH;have hQr:=hr1.old r.bm;clear r he hb;generalize (wa4.heap.size,wb4.heap.size)::iv3=iv4 at*
   obtain⟨s4_0a,s4_0b,s4_0c,rfl⟩:=hQ.shape;obtain⟨s4_1a,s4_1b,s4_1c,rfl⟩:=hQr.shape;conv=>whnf
   intro ρe we re;exact⟨_,rfl,hw.tr re.bs,by rw[hq];exact cZ.of ⟨_,by rw[g3,<-hbA],by rw[g1];exact hP.out re (bl w)⟩ ⟨_,by rw[bE (by omega)],by rw[g2];exact hQ.out re (bl w)⟩⟩
 ·have hyp:0< -y:=by have:=aG hb2.symm;omega
  have hq:Rat.divInt x y=Rat.divInt (-x) (-y):=(Rat.neg_divInt_neg _ _).symm;have nx:=bh x;have ny:=bh y;have hlx2:ln (-x).natAbs<=100000000000:=by rw[nx];exact hlx
  have hly2:ln (-y).natAbs<=100000000000:=by rw[ny];exact hly
  conv=>whnf
  refine bw hτ dH [.x 0,.x 2,.x 1,.x 3,.x 4,.x 5] (by kernel_rfl) (by kernel_rfl) ?_;conv=>whnf
  refine cA (Φ:=fun _ w' v w2=>dY w2 (Nw (Cv S w.heap.size []) w' w2) v (-x)) (fun ρ w' r=>lS (Rel.old r hS) (hx.rel r hS)) ?_;rintro ρ wa1 v1 wb1 r he hb hn;replace hw:=hw.tr hb;clear hx;replace hy:=hy.bq (iv':=(wa1.heap.size,wb1.heap.size)::[]) r hS he fun x hx=>aC _ hx;have hA:=hn.old r.bm;clear r he hb hn;generalize (wa1.heap.size,wb1.heap.size)::[]=iv1 at*
  obtain⟨s1_0,s1_1,s1_2,s1_3,rfl⟩:=hA.shape;conv=>whnf
  refine cA (Φ:=fun _ w' v w2=>dY w2 (Nw (Cv S w.heap.size iv1) w' w2) v (-y)) (fun ρ w' r=>lS (Rel.old r hS) (hy.rel r hS)) ?_;rintro ρ wa2 v2 wb2 r he hb hn;replace hw:=hw.tr hb;clear hy;replace hA:=hA.bq (iv':=(wa2.heap.size,wb2.heap.size)::iv1) r hS he fun x hx=>aC _ hx;have hB:=hn.old r.bm;clear r he hb hn;generalize (wa2.heap.size,wb2.heap.size)::iv1=iv2 at*
  obtain⟨s2_0,s2_1,s2_2,s2_3,rfl⟩:=hB.shape;conv=>whnf
  have hbA:=hA.nat.1;refine bp (cE hw (Φ:=fun _ w' v w2=>v= .int .i64 (-x).sign) (fun ρ w' r=>vQ (hA.rel r hS)) ?_);rintro ρ wa3 v3 wb3 iv3 r he hw h_ rfl;replace hA:=hA.bq r hS he (mC h_);replace hB:=hB.bq r hS he (mC h_);clear r he;conv=>whnf
  refine cW.mk (fun h=>?_) (fun h=>?_)
  ·have h: -x=0:=Int.sign_eq_zero_iff_zero.1 (eq_of_beq h);conv=>whnf
   refine bp (cE hw (Φ:=fun _ w' v w2=>dY w2 (Nw (fun _=>False) w' w2) v 1) (fun ρ w' r=>lV 1 w' (by decide) (by decide)) ?_);rintro ρ wa4 v4 wb4 iv4 r he hw h_ hn;clear hA;clear hB;have hO:=hn.cQ (S:=fun _=>False) r.bm (mN h_);clear r he hn;obtain⟨s4_0,s4_1,s4_2,s4_3,rfl⟩:=hO.shape;conv=>whnf
   have e0:Rat.divInt x y=0:=by rw[hq,h,uL]
   intro ρe we re;exact⟨_,rfl,hw.tr re.bs,by rw[e0];exact cZ.of ⟨_,rfl,dI.nil _ _⟩ (hO.out re (bl w))⟩
  ·have h: -x≠0:=fun e=>by rw[e]at h;exact absurd h (by decide)
   obtain⟨g1,g2,g3⟩:=uK hyp h;have hg0:0<Nat.gcd (-x).natAbs (-y).natAbs:=bX _ (by omega);have hAn:=hA.nat.2;have hBn:=hB.nat.2;conv=>whnf
   refine bp (cA (Φ:=fun _ w' v w2=>dI w2 (Nw (Cv S w.heap.size iv3) w' w2) v (Nat.gcd (-x).natAbs (-y).natAbs)) (fun ρ w' r=>zy (Rel.old r hS) (hAn.rel r hS) (hBn.rel r hS) (by omega) (by omega)) ?_);rintro ρ wa4 v4 wb4 r he hb hn;replace hw:=hw.tr hb;clear hA;clear hB;replace hAn:=hAn.bq (iv':=(wa4.heap.size,wb4.heap.size)::iv3) r hS he fun x hx=>aC _ hx;replace hBn:=hBn.bq (iv':=(wa4.heap.size,wb4.heap.size)::iv3) r hS he fun x hx=>aC _ hx;have hG:=hn.old r.bm;clear r he hb hn;generalize (wa4.heap.size,wb4.heap.size)::iv3=iv4 at*
   obtain⟨s4_0,s4_1,s4_2,rfl⟩:=hG.shape;conv=>whnf
   refine bp (cA (Φ:=fun _ w' v w2=>∃q r,v= .tuple #[q,r]∧dI w2 (Nw (fun _=>False) w' w2) q ((-x).natAbs / Nat.gcd (-x).natAbs (-y).natAbs)∧dI w2 (Nw (Cv S w.heap.size iv4) w' w2) r ((-x).natAbs % Nat.gcd (-x).natAbs (-y).natAbs)) (fun ρ w' r=>mx (Rel.old r hS) (hAn.rel r hS) (hG.rel r hS) hg0 (by omega)) ?_);rintro ρ wa5 v5 wb5 r he hb ⟨qvp,rvp,rfl,hq1,hr1⟩;replace hw:=hw.tr hb;clear hAn;replace hBn:=hBn.bq (iv':=(wa5.heap.size,wb5.heap.size)::iv4) r hS he fun x hx=>aC _ hx;replace hG:=hG.bq (iv':=(wa5.heap.size,wb5.heap.size)::iv4) r hS he fun x hx=>aC _ hx;have hP:=hq1.cQ (S:=fun _=>False) r.bm (iv:=(wa5.heap.size,wb5.heap.size)::iv4) aH;have hPr:=hr1.old r.bm;clear r he hb;generalize (wa5.heap.size,wb5.heap.size)::iv4=iv5 at*
   obtain⟨s5_0a,s5_0b,s5_0c,rfl⟩:=hP.shape;obtain⟨s5_1a,s5_1b,s5_1c,rfl⟩:=hPr.shape;conv=>whnf
   clear hPr;refine bp (cA (Φ:=fun _ w' v w2=>∃q r,v= .tuple #[q,r]∧dI w2 (Nw (fun _=>False) w' w2) q ((-y).natAbs / Nat.gcd (-x).natAbs (-y).natAbs)∧dI w2 (Nw (Cv S w.heap.size iv5) w' w2) r ((-y).natAbs % Nat.gcd (-x).natAbs (-y).natAbs)) (fun ρ w' r=>mx (Rel.old r hS) (hBn.rel r hS) (hG.rel r hS) hg0 (by omega)) ?_);rintro ρ wa6 v6 wb6 r he hb ⟨qvq,rvq,rfl,hq1,hr1⟩;replace hw:=hw.tr hb;clear hBn;clear hG;replace hP:=hP.bq (iv':=(wa6.heap.size,wb6.heap.size)::iv5) r (bl w) he fun x hx=>aC _ hx;have hQ:=hq1.cQ (S:=fun _=>False) r.bm (iv:=(wa6.heap.size,wb6.heap.size)::iv5) aH;have hQr:=hr1.old r.bm;clear r he hb;generalize (wa6.heap.size,wb6.heap.size)::iv5=iv6 at*
   obtain⟨s6_0a,s6_0b,s6_0c,rfl⟩:=hQ.shape;obtain⟨s6_1a,s6_1b,s6_1c,rfl⟩:=hQr.shape;conv=>whnf
   intro ρe we re;exact⟨_,rfl,hw.tr re.bs,by rw[hq];exact cZ.of ⟨_,by rw[g3,<-hbA],by rw[g1];exact hP.out re (bl w)⟩ ⟨_,by rw[bE (by omega)],by rw[g2];exact hQ.out re (bl w)⟩⟩
end Go.Ex
namespace Go.Ex
open Go Go.Sx
def rl(q:Rat):Nat:=max (ln q.num.natAbs) (ln q.den)
theorem eo(q:Rat):ln q.num.natAbs<=rl q:=Nat.le_max_left _ _
theorem eF(q:Rat):ln ((q.den:Int)).natAbs<=rl q:=Nat.le_max_right _ _
theorem jG{a b:Int}(hb:b≠0):rl (Rat.divInt a b)<=max (ln a.natAbs) (ln b.natAbs):=by
 have h1:ln (Rat.divInt a b).num.natAbs<=ln a.natAbs:=by
  rw[Rat.num_divInt];refine fJ (bH (Int.natAbs_ediv_le_natAbs _ _) ?_);rw[Int.natAbs_mul,Int.natAbs_sign_of_ne_zero hb,Nat.one_mul];exact aI _
 have h2:ln (Rat.divInt a b).den<=ln b.natAbs:=by
  rw[Rat.den_divInt,aL hb];exact CN
 unfold rl;omega
theorem fx(x y:Int):ln (x+y).natAbs<=max (ln x.natAbs) (ln y.natAbs)+1:=by
 have h1:=F0 x.natAbs y.natAbs;have h2:=fJ (show (x+y).natAbs<=x.natAbs+y.natAbs by omega);omega
theorem ep(q:Rat):(q.den:Int)≠0:=by have:=q.den_pos;omega
theorem pY(f g:Rat):f+g=Rat.divInt (f.num*g.den+g.num*f.den) (f.den*g.den):=by
 rw[<-Rat.divInt_add_divInt _ _ (ep f) (ep g),Rat.num_divInt_den,Rat.num_divInt_den]
theorem tW(f g:Rat):f*g=Rat.divInt (f.num*g.num) (f.den*g.den):=by
 rw[<-Rat.divInt_mul_divInt,Rat.num_divInt_den,Rat.num_divInt_den]
theorem Ba(f g:Rat):f / g=Rat.divInt (f.num*g.den) (f.den*g.num):=by
 rw[<-Rat.divInt_mul_divInt,Rat.num_divInt_den,<-Rat.inv_def,<-Rat.div_def]
theorem iV{a b:Int}(ha:a≠0)(hb:b≠0):a*b≠0:=Int.mul_ne_zero ha hb
theorem mR(f g:Rat):rl (f+g)<=rl f+rl g+1:=by
 have h:=jG (a:=f.num*g.den+g.num*f.den) (iV (ep f) (ep g));rw[<-pY]at h;have h1:=fx (f.num*g.den) (g.num*f.den);have h2:=cL f.num g.den;have h3:=cL g.num f.den;have h4:=cL f.den g.den;have:=eo f;have:=eo g;have:=eF f;have:=eF g;omega
theorem jN(f g:Rat):rl (f*g)<=rl f+rl g:=by
 have h:=jG (a:=f.num*g.num) (iV (ep f) (ep g));rw[<-tW]at h;have h2:=cL f.num g.num;have h4:=cL f.den g.den;have:=eo f;have:=eo g;have:=eF f;have:=eF g;omega
theorem F8(f:Rat){g:Rat}(hg:g≠0):rl (f / g)<=rl f+rl g:=by
 have h:=jG (a:=f.num*g.den) (iV (ep f) (fun e=>hg (Rat.num_eq_zero.1 e)));rw[<-Ba]at h;have h2:=cL f.num g.den;have h4:=cL f.den g.num;have:=eo f;have:=eo g;have:=eF f;have:=eF g;omega
theorem kA(f:Rat):rl (-f)=rl f:=by unfold rl;rw[Rat.neg_num,Rat.neg_den,bh]
theorem uO(f g:Rat):rl (f-g)<=rl f+rl g+1:=by
 rw[Rat.sub_eq_add_neg];have:=mR f (-g);rw[kA]at this;exact this
def rs(q:Rat):Int:=q.num.sign
theorem pZ{a b:Int}(hb:0<b):(Rat.divInt a b).num.sign=a.sign:=by
 by_cases ha:a=0
 ·subst ha;rw[uL];rfl
 ·obtain⟨h1,-,h3⟩:=uK hb ha;have h3:=decide_eq_decide.1 h3;have h0:(Rat.divInt a b).num≠0:=fun e=>by
   have h4:=Nat.div_pos (Nat.le_of_dvd (by omega) (Nat.gcd_dvd_left a.natAbs b.natAbs)) (bX a.natAbs (n:=b.natAbs) (by omega));omega
  rcases Int.lt_or_gt_of_ne ha with h|h
  ·rw[bV h,bV (h3.2 h)]
  ·rw[bW h,bW (by omega)]
theorem E5(f g:Rat):(f.num*g.den-g.num*f.den).sign=rs (f-g):=by
 rw[rs,Rat.sub_eq_add_neg,pY,pZ (Int.mul_pos (by have:=f.den_pos;omega) (by rw[Rat.neg_den];have:=g.den_pos;omega)),Rat.neg_num,Rat.neg_den,Int.neg_mul,<-Int.sub_eq_add_neg]
def ratio(a b:Int):Rat:=if b=0 then Rat.divInt a 1 else Rat.divInt a b
theorem fY(a b:Int):rl (ratio a b)<=max (ln a.natAbs) (max 1 (ln b.natAbs)):=by
 unfold ratio;split
 ·have:=jG (a:=a) (b:=1) (by decide);have h1:ln (1:Int).natAbs=1:=by decide
  rw[h1]at this;omega
 ·rename_i h;have:=jG (a:=a) h;omega
end Go.Ex
