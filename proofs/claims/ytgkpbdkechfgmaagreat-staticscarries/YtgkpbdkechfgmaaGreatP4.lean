/- Texts X10 to L5: lemmas, each with its conditions. -/
import Derived.Test.YtgkpbdkechfgmaaGreatP3
namespace Go.Ex
open Go Go.Sx Go.Proofs
variable{k n x:Nat}
def gg(n:Nat):Nat:=if n=0 then 0 else n.log2+1
theorem Kv(h:2^k<=x):x.log2=(x / 2^k).log2+k:=by
 have hp:=bm k;have hy:x / 2^k≠0:=by have:=Nat.div_pos h hp;omega
 have h1:=Nat.log2_self_le hy;have h2:=@Nat.lt_log2_self (x / 2^k);rw[Nat.log2_eq_iff (by omega)];refine⟨?_,?_⟩
 ·rw[Nat.pow_add];exact(Nat.le_div_iff_mul_le hp).1 h1
 ·rw[show (x / 2^k).log2+k+1=(x / 2^k).log2+1+k by omega,Nat.pow_add];exact(Nat.div_lt_iff_lt_mul hp).1 h2
theorem AY(h:2^k<=x):gg x=k+gg (x / 2^k):=by
 have hp:=bm k;have hy:x / 2^k≠0:=by have:=Nat.div_pos h hp;omega
 rw[gg,gg,aJ hy,aJ (by omega),Kv h];omega
theorem yO(h:n<256):IntKind.u8.wrap (n:Int)=(n:Int):=by
 show((n:Int) % 256)=_;omega
theorem yP(h:n<256):(UInt8.ofNat (gg n)).toNat=gg n:=by
 have:∀n,n<256->(UInt8.ofNat (gg n)).toNat=gg n:=by decide +kernel
 exact this n h
theorem oY(h:x<256):gg x<=8:=by
 have:∀n,n<256->gg n<=8:=by decide +kernel
 exact this x h
theorem Hz(n:Nat)(h:n<256):(⟨#[0,1,2,2,3,3,3,3,4,4,4,4,4,4,4,4,5,5,5,5,5,5,5,5,5,5,5,5,5,5,5,5,6,6,6,6,6,6,6,6,6,6,6,6,6,6,6,6,6,6,6,6,6,6,6,6,6,6,6,6,6,6,6,6,7,7,7,7,7,7,7,7,7,7,7,7,7,7,7,7,7,7,7,7,7,7,7,7,7,7,7,7,7,7,7,7,7,7,7,7,7,7,7,7,7,7,7,7,7,7,7,7,7,7,7,7,7,7,7,7,7,7,7,7,7,7,7,7,8,8,8,8,8,8,8,8,8,8,8,8,8,8,8,8,8,8,8,8,8,8,8,8,8,8,8,8,8,8,8,8,8,8,8,8,8,8,8,8,8,8,8,8,8,8,8,8,8,8,8,8,8,8,8,8,8,8,8,8,8,8,8,8,8,8,8,8,8,8,8,8,8,8,8,8,8,8,8,8,8,8,8,8,8,8,8,8,8,8,8,8,8,8,8,8,8,8,8,8,8,8,8,8,8,8,8,8,8,8,8,8,8,8,8,8,8,8,8,8,8,8,8,8,8,8,8,8]⟩:ByteArray)[((n:Nat):Int).toNat]? =some (UInt8.ofNat (gg n)):=by
 have:∀n,n<256->(⟨#[0,1,2,2,3,3,3,3,4,4,4,4,4,4,4,4,5,5,5,5,5,5,5,5,5,5,5,5,5,5,5,5,6,6,6,6,6,6,6,6,6,6,6,6,6,6,6,6,6,6,6,6,6,6,6,6,6,6,6,6,6,6,6,6,7,7,7,7,7,7,7,7,7,7,7,7,7,7,7,7,7,7,7,7,7,7,7,7,7,7,7,7,7,7,7,7,7,7,7,7,7,7,7,7,7,7,7,7,7,7,7,7,7,7,7,7,7,7,7,7,7,7,7,7,7,7,7,7,8,8,8,8,8,8,8,8,8,8,8,8,8,8,8,8,8,8,8,8,8,8,8,8,8,8,8,8,8,8,8,8,8,8,8,8,8,8,8,8,8,8,8,8,8,8,8,8,8,8,8,8,8,8,8,8,8,8,8,8,8,8,8,8,8,8,8,8,8,8,8,8,8,8,8,8,8,8,8,8,8,8,8,8,8,8,8,8,8,8,8,8,8,8,8,8,8,8,8,8,8,8,8,8,8,8,8,8,8,8,8,8,8,8,8,8,8,8,8,8,8,8,8,8,8,8,8,8]⟩:ByteArray)[n]? =some (UInt8.ofNat (gg n)):=by decide +kernel
 exact this n h
theorem Mf(x:Nat)(w:World)(hx:x<4294967296):eA PG N.zu #[.int .u32 x] w (eF w fun v _=>v= .int .i64 (gg x)):=by
 refine BP (by simp) ?_;refine dK.mk ?_ ?_<;>intro h
 ·have h:65536<=x:=by have:=aI h;omega
  refine⟨by decide,((x / 2^16:Nat):Int),oZ 16 (by decide),?_⟩;have hb:=AY (k:=16) h;have hy:x / 2^16<65536:=by omega
  rw[hb];generalize x / 2^16=y at*
  refine dK.mk ?_ ?_<;>intro h2
  ·have h2:256<=y:=by have:=aI h2;omega
   refine⟨by decide,((y / 2^8:Nat):Int),oZ 8 (by decide),?_⟩;have QE:=AY (k:=8) h2;have hz:y / 2^8<256:=by omega
   rw[QE];generalize y / 2^8=z at*
   refine⟨24,by decide,(z:Int),yO hz,?_⟩;refine qh (b:=UInt8.ofNat (gg z)) ((hτ _ _ rfl).i3 rfl) rfl rfl (by omega) (Hz z hz) (fun ρ1 w1 r1=>?_);rw[yP hz];have ht:=oY hz;refine⟨(gg z:Int),wo,((24+gg z:Nat):Int),wo,?_⟩;intro ρ3 w3 r3;exact⟨_,rfl,r1.cQ.tr r3.cQ,by rw[<-Nat.add_assoc];rfl⟩
  ·have hy:y<256:=by have:=aH h2;omega
   refine⟨(y:Int),yO hy,?_⟩;refine qh (b:=UInt8.ofNat (gg y)) ((hτ _ _ rfl).i3 rfl) rfl rfl (by omega) (Hz y hy) (fun ρ1 w1 r1=>?_);rw[yP hy];have ht:=oY hy;refine⟨(gg y:Int),wo,((16+gg y:Nat):Int),wo,?_⟩;intro ρ3 w3 r3;exact⟨_,rfl,r1.cQ.tr r3.cQ,by rfl⟩
 ·have h:x<65536:=by have:=aH h;omega
  refine dK.mk ?_ ?_<;>intro h2
  ·have h2:256<=x:=by have:=aI h2;omega
   refine⟨by decide,((x / 2^8:Nat):Int),oZ 8 (by decide),?_⟩;have QE:=AY (k:=8) h2;have hz:x / 2^8<256:=by omega
   rw[QE];generalize x / 2^8=z at*
   refine⟨8,by decide,(z:Int),yO hz,?_⟩;refine qh (b:=UInt8.ofNat (gg z)) ((hτ _ _ rfl).i3 rfl) rfl rfl (by omega) (Hz z hz) (fun ρ1 w1 r1=>?_);rw[yP hz];have ht:=oY hz;refine⟨(gg z:Int),wo,((8+gg z:Nat):Int),wo,?_⟩;intro ρ3 w3 r3;exact⟨_,rfl,r1.cQ.tr r3.cQ,by rfl⟩
  ·have hx:x<256:=by have:=aH h2;omega
   refine⟨(x:Int),yO hx,?_⟩;refine qh (b:=UInt8.ofNat (gg x)) ((hτ _ _ rfl).i3 rfl) rfl rfl (by omega) (Hz x hx) (fun ρ1 w1 r1=>?_);rw[yP hx];have ht:=oY hx;refine⟨(gg x:Int),wo,((0+gg x:Nat):Int),wo,?_⟩;intro ρ3 w3 r3;exact⟨_,rfl,r1.cQ.tr r3.cQ,by rw[aR];rfl⟩
theorem yJ:gg x<=k↔x<2^k:=by
 unfold gg;by_cases h:x=0
 ·rw[if_pos h,h];exact⟨fun _=>bm k,fun _=>aQ _⟩
 ·rw[aJ h];constructor
  ·intro h1;exact(Nat.log2_lt h).1 (by omega)
  ·intro h1;have:=(Nat.log2_lt h).2 h1;omega
theorem Nv(x:Nat)(w:World)(hx:x<4294967296):eA PG N.kh #[.int .u32 x] w (eF w fun v _=>v= .int .i64 ((32-gg x:Nat):Int)):=by
 refine oX (by simp) ?_;refine cF (cO (Φ:=fun _ _ v _=>v= .int .i64 (gg x)) (fun O w' r=>Mf x w' hx) ?_);rintro O w' v w2 r he hb rfl;have h32:gg x<=32:=yJ.2 hx;refine⟨((32-gg x:Nat):Int),wo,?_⟩;intro ρ3 w3 r3;exact⟨_,rfl,hb.tr r3.cQ,rfl⟩
end Go.Ex
namespace Go.Sx
open Go Go.Ex Go.Proofs
variable{ls:List Nat}{O:Nat->Sx.dx}
theorem Rel.Kw{H:Hp}{nx:Nat}{iv:Iv}{B:Nat}{w w':World}(r:Rel H nx iv B w O w'){id t m:Nat}(h:dF H id=some (.vec t 1 (U ls)))(hm:m=ls.length)(PO:Lm ls)(hle:ls.length<=9223372036854775807):
  dQ w' (fun g=>B<=g∧g<w'.heap.size) ((At.w id m).den O) ls:=by
 subst hm;rcases r.vec id t 1 _ h with⟨hn,hu⟩|⟨hn,spare,hb,hc,Q3⟩
 ·have hl:ls=[]:=by cases ls with
   |nil=>rfl
   |cons a b=>simp[U]at hu
  subst hl;have:(At.w id ([]:List Nat).length).den O= .slice none 0 0:=by simp[At.den,hn]
  rw[this];exact dQ.nil _ _
 ·refine⟨PO,hle,some ⟨(O id).g,0,none⟩,(O id).cap,by simp[At.den,hn],?_,fun j x hx=>⟨_,rfl,r.low id _ h hn,?_⟩⟩
  ·have h1:(U ls++spare).length=ls.length+spare.length:=by rw[List.length_append,gO]
   omega
  ·rw[dV,cell_of hb,aR,aL (by rw[gO];exact(aD.1 hx).1)];exact uQ hx
end Go.Sx
namespace Go.Ex
open Go Go.Sx Go.Proofs
variable{ls:List Nat}{S:Nat->Prop}
theorem Mg:PG.underlying T.nat=some (.slice T.uint32):=by
 have h:=(hτ T.nat _ rfl).i4 rfl;exact h
theorem IA{w:World}{v:Value}(hS:Old S w)(h:dQ w S v ls)(hl:ls.length<=1000000000000):
  eA PG N.gD #[v] w (eF w fun v' w2=>dQ w2 (Nf w w2) v' ls):=by
 obtain⟨x,rfl,rfl⟩:=h.la;refine ig (by simp) ?_;refine⟨x.a.isNone,fun O w1 o1 o2=>by simp[eqGuard,SV.den,At.den,nE (P:=PG) w1 T.nat T.uint32 x.a x.ls.length x.c 0 0 Mg],?_⟩;refine dK.mk ?_ ?_<;>intro h
 ·intro ρ3 w3 r3;have hn:x.ls=[]:=by
   cases hx:x.ls with
   |nil=>rfl
   |cons u r=>
    obtain⟨ad,h1,_⟩:=x.cell 0 u (by rw[hx];rfl);rw[h1]at h;simp at h
  exact⟨_,rfl,r3.cQ,by rw[hn];exact dQ.nil _ _⟩
 ·refine .inl ?_;refine⟨U x.ls,by rw[gO,aT],fun u hu=>by simp only[U,aU]at hu;obtain⟨n,_,rfl⟩:=hu;rfl,fun O w1 r h0=>?_,?_⟩
  ·obtain⟨u,hu⟩:∃q,x.ls[0]? =some q:=⟨_,aB h0⟩
   obtain⟨ad,OY,_⟩:=x.cell 0 u hu;refine⟨ad,OY,fun j u hu=>?_⟩;simp only[U,aM,Option.map_eq_some_iff]at hu;obtain⟨n,hn,rfl⟩:=hu;obtain⟨ad2,Pc,hs,hc⟩:=x.cell j n hn;rw[OY]at Pc;injection Pc with Pc;subst Pc;exact kV hS eE.refl r hs hc
  refine⟨rfl,by omega,by unfold maxLen;omega,?_⟩;intro ρ3 w3 r3;exact⟨_,rfl,r3.cQ,(r3.Kw (id:=1) rfl (aR _) x.lm x.le).cK fun g hg=>.inr hg⟩
end Go.Ex
namespace Go.Ex
open Go Go.Sx Go.Proofs
end Go.Ex
namespace Go.Sx
open Go Go.Ex Go.Proofs
variable{O:Nat->Sx.dx}
theorem Rel.cD{H:Hp}{nx:Nat}{iv:Iv}{B:Nat}{w w':World}(r:Rel H nx iv B w O w'):B<=w'.heap.size:=by have:=r.base;have:=r.size;omega
end Go.Sx
namespace Go.Ex
open Go Go.Sx Go.Proofs
end Go.Ex
namespace Go.Sx
open Go Go.Ex Go.Proofs
variable{ls:List Nat}{O:Nat->Sx.dx}
theorem Rel.uR{H:Hp}{nx:Nat}{iv:Iv}{B:Nat}{w w':World}(r:Rel H nx iv B w O w'){id t:Nat}(h:dF H id=some (.box t ((U ls).map At.v)))(PO:Lm ls)(hle:ls.length<=9223372036854775807):
  dQ w' (fun g=>g=(O id).g) (.slice (some ⟨(O id).g,0,none⟩) ls.length ls.length) ls:=by
 refine⟨PO,hle,_,_,rfl,aF _,fun j x hx=>⟨_,rfl,rfl,?_⟩⟩;have h0:(⟨(O id).g,0,none⟩:Addr).add j=⟨(O id).g,j,none⟩:=by
  cases j with
  |zero=>rfl
  |succ j=>simp[Addr.add]
 rw[h0,cell_of (r.box id t _ h),fg];exact uQ hx
end Go.Sx
namespace Go.Ex
open Go Go.Sx Go.Proofs
variable{ds r2:List Nat}{g k:Nat}{row:Option Nat}
section
variable{S:Nat->Prop}{H:Hp}{nx:Nat}{iv iv':Iv}{B:Nat}{w w' w2:World}{O:Nat->Sx.dx}{v:Value}{n:Nat}{ls:List Nat}
theorem Nw.dB(h:Nf w' w2 g)(hB:B<=w'.heap.size)(hm:(w'.heap.size,w2.heap.size)∈iv):Cv S B iv g:=by
 rcases h with h|h
 ·cases h
 ·exact .inr ⟨by omega,_,_,hm,h.1,h.2⟩
theorem eC.dB(h:eC w2 (Nf w' w2) v n)(hB:B<=w'.heap.size)(hm:(w'.heap.size,w2.heap.size)∈iv):eC w2 (Cv S B iv) v n:=h.cK fun _ hg=>hg.dB hB hm
theorem dQ.dB(h:dQ w2 (Nf w' w2) v ls)(hB:B<=w'.heap.size)(hm:(w'.heap.size,w2.heap.size)∈iv):dQ w2 (Cv S B iv) v ls:=h.cK fun _ hg=>hg.dB hB hm
theorem eC.rel(h:eC w (Cv S B iv) v n)(r:Rel H nx iv B w O w')(hS:∀g,S g->g<B):eC w' (Cv S B iv) v n:=h.cJ fun _ hg=>Rel.same r hS hg
theorem eC.cG(h:eC w (Cv S B iv) v n)(r:Rel H nx iv B w O w')(hS:∀g,S g->g<B)(he:Ext w' w2)(hm:∀p,p∈iv->p∈iv'):eC w2 (Cv S B iv') v n:=
 ((h.rel r hS).cJ fun g hg=>he.block g (Rel.old r hS g hg)).cK fun _ hg=>hg.mono hm
theorem dQ.trimmed(h:dQ w S v (dy ls)):eC w S v (val ls):=⟨_,h,(eu ls).2.1,(eu ls).1⟩
end
theorem IB{w:World}{m c:Nat}{rs:List Nat}(hg:w.heap[g]? =some (.cells (U rs).toArray T.uint32 (0,0)))(PO:Lm rs)(h:k+m<=rs.length)(hc:m<=c)(hl:rs.length<=1000000000000):
  dQ w (fun x=>x=g) (.slice (some ⟨g,k,none⟩) m c) ((rs.drop k).take m):=by
 have hlen:((rs.drop k).take m).length=m:=by simp;omega
 refine⟨(PO.drop k).take m,by omega,some ⟨g,k,none⟩,c,by rw[hlen],by omega,fun j x hx=>⟨_,rfl,rfl,?_⟩⟩;have hj:j<m:=by have:=(aD.1 hx).1;omega
 rw[bT hj,List.getElem?_drop]at hx;rw[dV,cell_of hg];exact uQ hx
theorem DZ{c:Nat}(h:k<c):(if (c:Int)=(k:Int)then some (⟨g,0,none⟩:Addr)else(some (⟨g,0,none⟩:Addr)).map fun x=>x.add ((k:Int).toNat*1))=some ⟨g,k,none⟩:=by
 rw[aJ (by omega),Option.map_some,aE,aT,dV,aR]
theorem gj{a b c:World}(h:a.grownBy b row)(k:b.grownBy c row):a.grownBy c row:=
 ⟨k.os.trans h.os,k.tape.trans h.tape,k.output.trans h.output,aX h.size k.size,fun j hj OD=>(k.block j (by have:=h.size;omega) OD).trans (h.block j hj OD)⟩
theorem xQ{a b:World}(h:eE a.heap.size a b):a.grownBy b row:=⟨h.os,h.tape,h.output,h.size,fun j hj _=>h.block j hj⟩
theorem Mh(rs:List Nat)(k m:Nat):(U rs).take k++List.replicate m (Value.int .u32 0)++(U rs).drop (k+m)=U (rs.take k++List.replicate m 0++rs.drop (k+m)):=by
 simp[U]
theorem Nx(rs ds:List Nat)(k:Nat):(U rs).take k++U ds++(U rs).drop (k+(U ds).length)=U (rs.take k++ds++rs.drop (k+ds.length)):=by
 simp[U]
theorem Iz{rs:List Nat}{m:Nat}(hk:k+m<=rs.length)(hd:ds.length<=m){r1:List Nat}(h1:r1=rs.take k++List.replicate m 0++rs.drop (k+m))(h2:r2=r1.take k++ds++r1.drop (k+ds.length)):
  r2=rs.take k++(ds++List.replicate (m-ds.length) 0)++rs.drop (k+m):=by
 have VC:(rs.take k).length=k:=by simp;omega
 have h3:r1.take k=rs.take k:=by rw[h1,bc,List.take_append_of_le_length (by omega),List.take_of_length_le (by omega)]
 have h4:r1.drop (k+ds.length)=List.replicate (m-ds.length) 0++rs.drop (k+m):=by
  rw[h1,bc,List.drop_append,VC,List.drop_of_length_le (by omega),List.nil_append,Nat.add_sub_cancel_left,List.drop_append_of_le_length (by simpa using hd),List.drop_replicate]
 rw[h2,h3,h4];simp
theorem JA{rs:List Nat}{m:Nat}(hk:k+m<=rs.length)(hd:ds.length<=m)(PO:Lm rs)(PE:Lm ds)(h:r2=rs.take k++(ds++List.replicate (m-ds.length) 0)++rs.drop (k+m)):
  r2.length=rs.length∧Lm r2∧r2.take k=rs.take k∧r2.drop (k+m)=rs.drop (k+m)∧val ((r2.drop k).take m)=val ds:=by
 have VC:(rs.take k).length=k:=by simp;omega
 have Sc:(ds++List.replicate (m-ds.length) 0).length=m:=by simp;omega
 have RL:r2.drop k=(ds++List.replicate (m-ds.length) 0)++rs.drop (k+m):=by
  rw[h,bc,List.drop_append,VC,List.drop_of_length_le (by omega),List.nil_append,bI,List.drop_zero]
 refine⟨by rw[h,List.length_append,List.length_append,VC,Sc];simp;omega,?_,?_,?_,?_⟩
 ·rw[h];exact((PO.take k).append (PE.append (Lm.replicate _))).append (PO.drop _)
 ·rw[h,bc,List.take_append_of_le_length (by omega),List.take_of_length_le (by omega)]
 ·rw[<-List.drop_drop,RL,List.drop_append,Sc,List.drop_of_length_le (by omega),List.nil_append,bI,List.drop_zero]
 ·rw[RL,List.take_append_of_le_length (by omega),List.take_of_length_le (by omega),lL,mn];simp
theorem D2{S:Nat->Prop}{w:World}{vd:Value}{D g k q:Nat}{rs:List Nat}(hS:Old S w)(hgS:¬S g)(hd:eC w S vd D)(hg:w.heap[g]? =some (.cells (U rs).toArray T.uint32 (0,0)))(PO:Lm rs)
  (hk:k+ln D+1<=rs.length) (hl:rs.length<=1000000000000) (hq:q<4294967296):
  eA PG N.qG #[.slice (some ⟨g,0,none⟩) rs.length rs.length,vd,.int .i64 k,.int .u64 q] w (fun e w2=>
   (val ((rs.drop k).take (ln D+1))<q*D∧e= .returned (.bool false)∧eE w.heap.size w w2)∨
   (q*D<=val ((rs.drop k).take (ln D+1))∧e= .returned (.bool true)∧w.grownBy w2 (some g)∧∃rs',rs'.length=rs.length∧Lm rs'∧rs'.take k=rs.take k∧rs'.drop (k+ln D+1)=rs.drop (k+ln D+1)∧
    val ((rs'.drop k).take (ln D+1))=val ((rs.drop k).take (ln D+1))-q*D∧w2.heap[g]? =some (.cells (U rs').toArray T.uint32 (0,0)))):=by
 have hgB:=kC hg;have hnD:=hd;obtain⟨p,rfl,Q5,QB⟩:=hd.la;have PR:=eO p.lm QB;rw[Q5]at PR;generalize hn:ln D=n at*
 have hSB:=hS;refine uP (by simp) ?_;refine⟨(q:Int),by rw[fK,bN hq],?_⟩;refine gf (Φ:=fun O _ v w2=>dQ w2 (fun g=>g=(O 0).g) v (dy [q])) (H':=[]) 0 rfl (by simp) trivial rfl (fun O w' r=>r.nn 0 _ rfl (by intros;simp) (by simp)) (fun O w' r=>?_) ?_
 ·have hL:=r.uR (id:=0) (ls:=[q]) rfl (by intro x hx;simp at hx;omega) (by simp);exact fT (fun g hg=>by rw[hg];exact(r.low 0 _ rfl (r.nn 0 _ rfl (by intros;simp) (by simp))).2) hL
 rintro O w1 v1 w2 r he hw hL;have PB:=r.low 0 _ rfl (r.nn 0 _ rfl (by intros;simp) (by simp));have hs:=he.size;generalize (O 0).g=g0 at*
 have Tm:eC w2 (Cv S w.heap.size [(g0,g0+1),(w1.heap.size,w2.heap.size)]) v1 q:=by
  have:=hL.trimmed;simp only[val,Nat.mul_zero,bw]at this;exact this.cK fun k hk=>.inr ⟨by omega,g0,g0+1,by simp,by omega,by omega⟩
 have UL:eC w2 (Cv S w.heap.size [(g0,g0+1),(w1.heap.size,w2.heap.size)]) (.slice p.a p.ls.length p.c) D:=
  (hnD.cJ fun g hg=>hw.block g (hS g hg)).cK fun _ hg=>.inl hg
 generalize [(g0,g0+1),(w1.heap.size,w2.heap.size)]=iv at*
 refine cF (cE hw (fun _ w' v w2=>eC w2 (Nf w' w2) v (q*D)) (fun O w' r=>IC (Rel.old r hS) (Tm.rel r hS) (UL.rel r hS) (aX (gB.2 (show q<wt 1 from hq)) (by decide)) (by omega)) ?_);rintro O w3 _ _ iv r he hw h_ hm;have TO:=hm.dB (S:=S) r.cD (mN h_);refine⟨((k+n:Nat):Int),wo,((k+n+1:Nat):Int),wo,⟨by omega,by omega,by omega⟩,some ⟨g,k,none⟩,n+1,rs.length-k,DZ (by omega),by omega,by omega,?_⟩;have hplen:((rs.drop k).take (n+1)).length=n+1:=by simp;omega
 have hplm:Lm ((rs.drop k).take (n+1)):=(PO.drop k).take _;generalize hpart:(rs.drop k).take (n+1)=part at*
 refine cF (cE hw (fun _ w' v w2=>dQ w2 (Nf w' w2) v part) (fun O w' r=>?_) ?_)
 ·have h1:=IB (k:=k) (m:=n+1) (c:=rs.length-k) (w:=w') (by rw[(hw.tr r.cQ).block g hgB];exact hg) PO (by omega) (by omega) hl;rw[hpart]at h1;exact IA (fun x hx=>by rw[hx];have:=(hw.tr r.cQ).size;omega) h1 (by omega)
 rintro O _ _ _ iv r he hw h_ hL;have hpL:=hL.dB (S:=S) r.cD (mN h_);replace TO:=TO.cG r hS he (mC h_);refine cF (cO (Φ:=fun _ w' v w2=>dQ w2 (Cv S w.heap.size iv) v (dy part)) (fun O w' r=>fT (Rel.old r hS) (dQ.rel hpL r hS)) ?_);rintro O w7 v4 w8 r he hb hL;replace hw:=hw.tr hb;have hpN:=hL.trimmed.cK (S':=Cv S w.heap.size ((w7.heap.size,w8.heap.size)::iv)) fun _ hg=>hg.cons;replace TO:=TO.cG (iv':=(w7.heap.size,w8.heap.size)::iv) r hS he fun x hx=>List.mem_cons_of_mem _ hx;generalize (w7.heap.size,w8.heap.size)::iv=iv at*
 refine cF (cE hw (fun _ _ v _=>v= .int .i64 (sd (val part) (q*D))) (fun O w' r=>Kx (Rel.old r hS) (hpN.rel r hS) (TO.rel r hS)) ?_);rintro O _ _ _ iv r he hw h_ rfl;replace hpN:=hpN.cG r hS he (mC h_);replace TO:=TO.cG r hS he (mC h_);refine dK.mk ?_ ?_<;>intro h
 ·have h:val part<q*D:=by
   have:=aI h;unfold sd at this;split at this
   ·assumption
   ·split at this<;>omega
  intro ρ3 w3 r3;exact .inl ⟨h,rfl,hw.tr r3.cQ⟩
 have h:q*D<=val part:=by
  have:=aH h;unfold sd at this;split at this
  ·omega
  ·omega
 have hPl:ln (val part)<=n+1:=by rw[gB,<-hplen];exact oB hplm
 refine cF (cE hw (fun _ w' v w2=>eC w2 (Nf w' w2) v (val part-q*D)) (fun O w' r=>D3 (Rel.old r hS) (hpN.rel r hS) (TO.rel r hS) h (by omega)) ?_);rintro O _ v6 _ iv r he hw h_ hm;have VD:=hm.dB (S:=S) r.cD (mN h_);refine⟨((k+n:Nat):Int),wo,((k+n+1:Nat):Int),wo,⟨by omega,by omega,by omega⟩,some ⟨g,k,none⟩,n+1,rs.length-k,DZ (by omega),by omega,by omega,?_⟩;refine IY hτ (cs:=U rs) (by rfl) (by rfl) (by rfl) (by omega) (fun O w' r=>⟨by rw[(hw.tr r.cQ).block g hgB];exact hg,fun id b hb=>by cases hb⟩) (by rw[gO];omega) (fun O w13 w14 r hh PV Oy=>?_);rw[Mh]at hh;have hgw:w.grownBy w14 (some g):=gj (xQ (hw.tr r.cQ)) PV;replace VD:eC w14 (Cv S w.heap.size iv) v6 (val part-q*D):=(VD.rel r hS).cJ fun x hx=>PV.block x (Rel.old r hS x hx) fun e=>by
  injection e with e;subst e;rcases hx with hx|hx
  ·exact hgS hx
  ·omega
 obtain⟨rl,rfl,Sd,SD⟩:=VD.la;have Of:=eO rl.lm SD;rw[Sd]at Of;have hrn:rl.ls.length<=n+1:=by rw[Of];exact aX (fP (Nat.sub_le _ _)) hPl
 generalize hr1d:rs.take k++List.replicate (n+1) 0++rs.drop (k+(n+1))=r1 at*
 refine⟨⟨by omega,by omega,by omega⟩,some ⟨g,k,none⟩,rs.length-k,rs.length-k,DZ (by omega),by omega,by omega,?_⟩;have hr1l:r1.length=rs.length:=by rw[<-hr1d];simp;omega
 have hw14:w.heap.size<=w14.heap.size:=hgw.size;refine Jp hτ (tg:=T.uint32) (cs:=U r1) (ds:=U rl.ls) (by rfl) (by rfl) (by rfl) (by rfl) (fun O w' r=>⟨?_,fun id b hb=>by cases hb⟩) (fun O w' r=>⟨rl.a,rl.c,by rw[gO];rfl,fun j u hu=>?_⟩) (by rw[gO];omega) (by rw[gO,gO];omega)
  (fun u hu=>by simp only[U,aU]at hu;obtain⟨n,_,rfl⟩:=hu;rfl) (fun O w15 w16 r hh2 PV Oy=>?_)
 ·rw[r.qP.block g (by omega) (by simp)];exact hh
 ·simp only[U,aM,Option.map_eq_some_iff]at hu;obtain⟨m,hm,rfl⟩:=hu;obtain⟨ad,h1,h2,h3⟩:=rl.cell j m hm;exact⟨ad,h1,(cH (w:=w14) (a:=ad.add j) (by rw[dN];exact Rel.same r hS h2)).trans h3⟩
 rw[Nx]at hh2;have hgw2:w.grownBy w16 (some g):=gj (gj hgw (by have:=r.qP;exact⟨this.os,this.tape,this.output,this.size,fun j hj _=>this.block j hj (by simp)⟩)) PV;obtain⟨o1,o2,o3,o4,o5⟩:=JA (rs:=rs) (ds:=rl.ls) (k:=k) (m:=n+1) (by omega) hrn PO rl.lm (Iz (by omega) hrn hr1d.symm rfl);generalize r1.take k++rl.ls++r1.drop (k+rl.ls.length)=r2 at*
 intro ρ3 w17 r3;refine .inr ⟨h,rfl,gj hgw2 (by have:=r3.qP;exact⟨this.os,this.tape,this.output,this.size,fun j hj _=>this.block j hj (by simp)⟩),r2,o1,o2,o3,o4,by rw[o5,Sd],?_⟩;rw[r3.qP.block g (by have:=hgw2.size;omega) (by simp)];exact hh2
end Go.Ex
namespace Go.Ex
open Go Go.Sx Go.Proofs
end Go.Ex
namespace Go.Sx
open Go Go.Ex Go.Proofs
variable{O:Nat->Sx.dx}
theorem Rel.NO{nx:Nat}{iv:Iv}{B:Nat}{w w' w2:World}(r:Rel [] nx iv B w O w')(h:w'.heap.size<=w2.heap.size):Rel [] nx [] B w2 O w2:=
 r.EO h (fun id b h=>by cases h) fun lo hi h=>by cases h
end Go.Sx
namespace Go.Ex
open Go Go.Sx Go.Proofs
variable{O:Nat->Sx.dx}
theorem Ky{P D low high dlow dtop W:Nat}(hP:P=low+W*high)(hD:D=dlow+W*dtop)(PB:low<W)(Sk:0<dtop)(hPD:P<4294967296*D):P / D<=min (high / dtop) 4294967295:=by
 have hW:0<W:=by omega
 have hD0:0<D:=by have:=Nat.mul_pos hW Sk;omega
 have h1:P / D<4294967296:=(Nat.div_lt_iff_lt_mul hD0).2 (by rw[bV]at hPD;omega);have h2:P / D<=high / dtop:=by
  rw[Nat.le_div_iff_mul_le Sk];have h3:=Nat.div_mul_le_self P D;generalize P / D=Q at*
  have h4:W*(Q*dtop)<=Q*D:=by
   rw[hD,Nat.mul_left_comm,bU];omega
  have h5:W*(Q*dtop)<W*(high+1):=by
   rw[bU];omega
  have:=Nat.lt_of_mul_lt_mul_left h5;omega
 omega
theorem ID{H:Hp}{nx:Nat}{iv:Iv}{w w1 w':World}{g i x:Nat}{rs:List Nat}(hg:w.heap[g]? =some (.cells (U rs).toArray T.uint32 (0,0)))(hw:eE w.heap.size w w1)(r:Rel H nx iv w.heap.size w1 O w')(hx:rs[i]? =some x):
  w'.cell? ((⟨g,0,none⟩:Addr).add ((i:Int).toNat*1))=some (.int .u32 x):=by
 rw[aE,aT,dV,aR,cell_of (by rw[(hw.tr r.cQ).block g (kC hg)];exact hg)];exact uQ hx
theorem Mi{S:Nat->Prop}{w:World}{vd:Value}{D g k:Nat}{rs:List Nat}(hS:Old S w)(hgS:¬S g)(hd:eC w S vd D)(hD:0<D)(hg:w.heap[g]? =some (.cells (U rs).toArray T.uint32 (0,0)))(PO:Lm rs)
  (hk:k+ln D+1<=rs.length) (hl:rs.length<=1000000000000) (hPD:val ((rs.drop k).take (ln D+1))<4294967296*D):
  eA PG N.pA #[.slice (some ⟨g,0,none⟩) rs.length rs.length,vd,.int .i64 k] w (fun e w2=>
   e= .returned (.int .u32 ((val ((rs.drop k).take (ln D+1)) / D:Nat):Int))∧w.grownBy w2 (some g)∧∃rs',rs'.length=rs.length∧Lm rs'∧rs'.take k=rs.take k∧rs'.drop (k+ln D+1)=rs.drop (k+ln D+1)∧
    val ((rs'.drop k).take (ln D+1))=val ((rs.drop k).take (ln D+1)) % D∧w2.heap[g]? =some (.cells (U rs').toArray T.uint32 (0,0))):=by
 have hgB:=kC hg;have hnD:=hd;obtain⟨p,rfl,Q5,QB⟩:=hd.la;have PR:=eO p.lm QB;rw[Q5]at PR;have Rn:=fun(w':World) (q:Nat)=>@D2 S w' (.slice p.a p.ls.length p.c) D g k q rs;generalize hn:ln D=n at*
 obtain⟨t,rfl⟩:∃t,n=t+1:=by
  cases n with
  |zero=>
   have:D<wt 0:=gB.1 (by omega);rw[jR]at this;omega
  |succ t=>exact⟨t,rfl⟩
 obtain⟨dt,Sk⟩:∃q,p.ls[t]? =some q:=⟨_,aB (by omega)⟩
 have hdt0:0<dt:=by
  have:=QB dt (by rw[List.getLast?_eq_getElem?,PR];exact Sk);omega
 obtain⟨a,ha⟩:∃q,rs[k+t+1]? =some q:=⟨_,aB (by omega)⟩
 obtain⟨b,hb⟩:∃q,rs[k+t]? =some q:=⟨_,aB (by omega)⟩
 have ha32:=PO.at ha;have UJ:=PO.at hb;have Vk:=p.lm.at Sk;generalize hP:val ((rs.drop k).take (t+1+1))=P at*
 have hguess:P / D<=min ((a*4294967296+b) / dt) 4294967295:=by
  refine Ky (low:=val ((rs.drop k).take t)) (W:=wt t) (dlow:=val (p.ls.take t)) ?_ ?_ ?_ hdt0 hPD
  ·rw[<-hP,dq (x:=a) (by rw[List.getElem?_drop];exact ha),dq (x:=b) (by rw[List.getElem?_drop];exact hb),iw,bU,bV 4294967296 (wt t),bh,bV a];omega
  ·rw[<-Q5,<-dq Sk,List.take_of_length_le (by omega)]
  ·have h1:=oB ((PO.drop k).take t);have:((rs.drop k).take t).length=t:=by simp;omega
   rwa [this]at h1
 refine s8 (by simp) ?_;refine⟨(t:Int),wo,?_⟩;refine cM hτ df [.x 0,.x 1,.x 2,.x 3,.x 4,.x 5,.x 6,.x 7,.x 8,.x 9,.x 10,.x 11,.x 12,.x 13,.x 14,.x 15,.x 16,.x 17] (by kernel_rfl) (by kernel_rfl) ?_;refine⟨((k+t:Nat):Int),wo,((k+t+1:Nat):Int),wo,_,rfl,by omega,.int .u32 a,fun O w' r=>ID hg eE.refl r ha,(a:Int),eX (by omega),by decide,((a*2^32:Nat):Int),D4 (k:=32) (by decide) (by omega),((k+t:Nat):Int),wo,_,rfl,by omega,.int .u32 b,fun O w' r=>ID hg eE.refl r hb,(b:Int),eX (by omega),?_⟩;have Tl:a*2^32 ||| b=a*4294967296+b:=by
  rw[Nat.or_comm,bV,D5 (k:=32) UJ];omega
 refine⟨((a*4294967296+b:Nat):Int),by rw[Kz (by omega) (by omega),Tl],?_⟩;have hh64:a*4294967296+b<18446744073709551616:=by omega
 generalize a*4294967296+b=high at*
 obtain⟨ad,OY,Oo⟩:=p.load hS (eE.refl (w:=w)) Sk;refine⟨ad,OY,by omega,.int .u32 dt,Oo _ _ _,(dt:Int),eX (by omega),by omega,((high / dt:Nat):Int),LB hh64,?_⟩;conv=>whnf
 rw[show min ((high / dt:Nat):Int) 4294967295=((min (high / dt) 4294967295:Nat):Int) by omega];have hm32:min (high / dt) 4294967295<=4294967295:=Nat.min_le_right _ _;generalize min (high / dt) 4294967295=q0 at*
 have hQD:=Nat.div_mul_le_self P D;have hQl:∀q,q*D<=P->P / D<=q->q=P / D:=fun q h1 h2=>aO ((Nat.le_div_iff_mul_le hD).2 h1) h2;have hmod:P % D=P-P / D*D:=by have:=Nat.div_add_mod P D;rw[bV]at this;omega
 refine⟨Nat×World,fun z=>⟨[(0,.o (.v (.slice (some ⟨g,0,none⟩) rs.length rs.length))),(1,sV p.a p.ls.length p.c),(2,iZ k),(9,.o (.v (.int .u64 z.1)))],[],0,[],z.2⟩,fun z=>z.1,
  fun z=>eE w.heap.size w z.2∧P / D<=z.1∧z.1<=4294967295,?_,?_⟩
 ·intro O w' r;exact⟨(q0,w'),⟨r.cQ,hguess,hm32⟩,Sub.reset r ⟨rfl,rfl,rfl,rfl,trivial⟩ ⟨trivial,trivial,trivial,trivial,trivial⟩⟩
 ·rintro⟨q,w1⟩ ⟨hw,RC,Pv⟩;dsimp only at hw RC Pv ⊢;conv=>whnf
  refine⟨fun O w2 r=>(Rn w2 q (fun x hx=>by have:=hS x hx;have:=(hw.tr r.cQ).size;omega) hgS (hnD.cJ fun x hx=>(hw.tr r.cQ).block x (hS x hx)) (by rw[(hw.tr r.cQ).block g hgB];exact hg) PO hk hl (by omega)).mono fun e w3 he=>?_⟩;rcases he with⟨h,rfl,hb3⟩|⟨h,rfl,PV,rs',e1,e2,e3,e4,e5,e6⟩
  ·have hw3:eE w.heap.size w w3:=(hw.tr r.cQ).tr (hb3.cQ r.cD);refine⟨.bool false,[],[],rfl,r.NO hb3.size,?_⟩;have SW:P / D<q:=by
    refine Nat.lt_of_le_of_ne RC fun e=>?_;rw[e]at hQD;omega
   have hq4:0<q:=Nat.lt_of_le_of_lt (aQ _) SW;have hq5:P / D<=q-1:=Nat.le_sub_one_of_lt SW;refine⟨((q-1:Nat):Int),by rw[yE]<;>omega,?_⟩;intro ρ4 w4 r4;exact⟨(q-1,w4),⟨hw3.tr r4.cQ,hq5,by dsimp only;omega⟩,Sub.reset r4 ⟨rfl,rfl,rfl,rfl,trivial⟩ ⟨trivial,trivial,trivial,trivial,trivial⟩,by dsimp only;omega⟩
  ·have hgw:w.grownBy w3 (some g):=gj (xQ (hw.tr r.cQ)) PV;refine⟨.bool true,[],[],rfl,r.NO PV.size,?_⟩;have hq:=hQl q h RC;subst hq;refine⟨((P / D:Nat):Int),by rw[fK,bN (by omega)],?_⟩;intro ρ4 w4 r4;refine⟨rfl,gj hgw (by have:=r4.qP;exact⟨this.os,this.tape,this.output,this.size,fun j hj _=>this.block j hj (by simp)⟩),rs',e1,e2,e3,e4,by rw[e5,hmod],?_⟩;rw[r4.qP.block g (by have:=hgw.size;omega) (by simp)];exact e6
end Go.Ex
namespace Go.Ex
variable{ms:List Nat}
theorem Ik{t dt:Nat}(PO:Lm ms)(hl:ms.length=t+1)(Sk:ms[t]? =some dt)(h0:0<dt):32-gg dt<32∧ln (val ms*2^(32-gg dt))=t+1:=by
 have UI:0<gg dt:=by
  rcases bH (gg dt)with h|h
  ·have:=yJ.1 (Nat.le_of_eq h);simp at this;omega
  ·exact h
 have UJ:gg dt<=32:=yJ.2 (PO.at Sk);have OU:=yJ.1 (aF (gg dt));have hv:val ms=val (ms.take t)+wt t*dt:=by rw[<-dq Sk,List.take_of_length_le (by omega)]
 have PB:=oB (PO.take t);have hltk:(ms.take t).length=t:=by simp;omega
 rw[hltk]at PB;have hw:=yp t;refine⟨by omega,aO ?_ ?_⟩
 ·rw[gB];have h1:val ms<wt t*2^gg dt:=by
   have:wt t*(dt+1)<=wt t*2^gg dt:=bY _ OU;rw[bU]at this;omega
  have h2:=Nat.mul_lt_mul_of_pos_right h1 (bm (32-gg dt));rw[bh,<-Nat.pow_add,Nat.add_sub_cancel' UJ]at h2;rw[iw,bV 4294967296];exact h2
 ·refine Nat.lt_of_not_le fun h=>?_;have h1:=gB.1 h;have h2:val ms*1<=val ms*2^(32-gg dt):=bY _ (bm _);have h3:wt t*1<=wt t*dt:=bY _ h0;omega
theorem Ei{rs:List Nat}{D N k:Nat}(PO:Lm rs)(hDN:D<wt N)(hk:k+N+1<=rs.length)(h:val rs<wt (k+1)*D):
  val (rs.drop (k+N+1))=0∧val (rs.drop k)=val ((rs.drop k).take (N+1))∧val ((rs.drop k).take (N+1))<4294967296*D:=by
 obtain⟨x,hx⟩:∃q,rs[k]? =some q:=⟨_,aB (by omega)⟩
 have Ps:=PO.at hx;have h1:=ef rs (k+1) (by omega);have h2:val (rs.drop (k+1))<D:=Nat.lt_of_mul_lt_mul_left (a:=wt (k+1)) (by omega);have h3:=ef (rs.drop (k+1)) N (by simp;omega);rw[List.drop_drop,show k+1+N=k+N+1 by omega]at h3;have h4:val (rs.drop (k+N+1))=0:=by
  rcases bH (val (rs.drop (k+N+1)))with h|h
  ·exact h
  ·have:=bY (wt N) h;omega
 have h5:=ef (rs.drop k) (N+1) (by simp;omega);rw[List.drop_drop,show k+(N+1)=k+N+1 by omega,h4,Nat.mul_zero,bw]at h5;have h6:=jG hx;exact⟨h4,h5,by omega⟩
theorem KK{rs rs' out:List Nat}{D N k P V:Nat}(hD:0<D)(PO:Lm rs)(hlen:rs'.length=rs.length)(hDN:D<wt N)(hk:k+N+1<=rs.length)(h:val rs<wt (k+1)*D)(hV:V=wt (k+1)*(D*val (out.drop (k+1)))+val rs)
  (hP:val ((rs.drop k).take (N+1))=P) (h1:rs'.take k=rs.take k) (h2:rs'.drop (k+N+1)=rs.drop (k+N+1)) (h3:val ((rs'.drop k).take (N+1))=P % D) (ho:k<out.length):
  val rs'<wt k*D∧V=wt k*(D*val ((out.set k (P / D)).drop k))+val rs':=by
 obtain⟨a1,a2,a3⟩:=Ei PO hDN hk h;have b1:=ef rs k (by omega);have b2:=ef rs' k (by omega);have b3:=ef (rs'.drop k) (N+1) (by simp;omega);rw[List.drop_drop,show k+(N+1)=k+N+1 by omega,h2,a1,Nat.mul_zero,bw,h3]at b3;rw[h1,b3]at b2;rw[a2,hP]at b1;have b4:=oB (PO.take k);have b5:(rs.take k).length=k:=by simp;omega
 rw[b5]at b4;have b6:=bu P hD;have b7:(out.set k (P / D))[k]? =some (P / D):=by rw[aV ho]
 have b8:=Nat.div_add_mod P D;refine⟨?_,?_⟩
 ·have:wt k*(P % D+1)<=wt k*D:=bY _ b6;rw[bU]at this;omega
 ·rw[jG b7,List.drop_set_of_lt (show k<k+1 by omega),hV,b1,b2,iw];generalize val (out.drop (k+1))=o;have c1:wt k*P=wt k*(D*(P / D))+wt k*(P % D):=by rw[<-bU,b8]
  have c2:4294967296*wt k*(D*o)=wt k*(D*(4294967296*o)):=by
   rw[bV 4294967296,bh,Nat.mul_left_comm 4294967296]
  rw[c1,c2,bU D,bU (wt k)];omega
theorem Il{n m b:Nat}(hm:0<m)(Vh:m<=n):n*2^b<wt (ln n+1-ln m)*(m*2^b):=by
 have h1:=lM n;have h2:=fP Vh;have h3:wt (ln m-1)<=m:=by
  refine Nat.le_of_not_lt fun h=>?_;have:=gB.2 h;have h4:0<ln m:=by
   rcases bH (ln m)with h|h
   ·have:=gB.1 (Nat.le_of_eq h);rw[jR]at this;omega
   ·exact h
  omega
 have h4:0<ln m:=by
  rcases bH (ln m)with h|h
  ·have:=gB.1 (Nat.le_of_eq h);rw[jR]at this;omega
  ·exact h
 have h5:wt (ln n)<=wt (ln n+1-ln m)*m:=by
  rw[show ln n=(ln n+1-ln m)+(ln m-1) by omega,Cr,show(ln n+1-ln m)+(ln m-1)+1-ln m=ln n+1-ln m by omega];exact bY _ h3
 rw[<-bh];exact Nat.mul_lt_mul_of_pos_right (Nat.lt_of_lt_of_le h1 h5) (bm b)
theorem M0{n m b o r:Nat}(hm:0<m)(h1:n*2^b=m*2^b*o+r)(h2:r<m*2^b):o=n / m∧r / 2^b=n % m:=by
 have hp:=bm b;have h3:n*2^b / (m*2^b)=o:=by rw[h1,Nat.mul_add_div (Nat.mul_pos hm hp),Nat.div_eq_of_lt h2,bw]
 have h4:n*2^b % (m*2^b)=r:=by rw[h1,Nat.mul_add_mod,bN h2]
 rw[Nat.mul_div_mul_right _ _ hp]at h3;rw[Nat.mul_mod_mul_right]at h4;exact⟨h3.symm,by rw[<-h4,Nat.mul_div_cancel _ hp]⟩
end Go.Ex
namespace Go.Ex
open Go Go.Sx Go.Proofs
variable{H:Hp}{x y z:Int}{iv:Iv}{ls:List Nat}{n nx:Nat}{S:Nat->Prop}{O:Nat->Sx.dx}{u v:Value}{w w' w1:World}
theorem IE{g:Nat}{rs:List Nat}(hg:w.heap[g]? =some (.cells (U rs).toArray T.uint32 (0,0)))(PO:Lm rs)(hl:rs.length<=1000000000000):
  dQ w (fun x=>x=g) (.slice (some ⟨g,0,none⟩) rs.length rs.length) rs:=by
 have:=IB (k:=0) (m:=rs.length) (c:=rs.length) hg PO (by omega) (aF _) hl
 rwa [List.drop_zero,bD]at this
theorem qQ{m:Nat}(hS:Old S w)(hn:eC w S v n)(hm:eC w S u m)(Rp:0<m)(Rq:ln n<=100000000000):
  eA PG N.nS #[v,u] w (eF w fun v' w2=>∃q r,v'= .tuple #[q,r]∧eC w2 (Nf w w2) q (n / m)∧eC w2 (Nw S w w2) r (n % m)):=by
 have hnN:=hn;have TO:=hm;obtain⟨x,rfl,Q5,QB⟩:=hn.la;obtain⟨y,rfl,RC,Pv⟩:=hm.la;have PZ:=eO x.lm QB;have VA:=eO y.lm Pv;rw[Q5]at PZ;rw[RC]at VA;refine rL (by simp) ?_;refine cF (cO (Φ:=fun _ _ v _=>v= .int .i64 (sd n m)) (fun O w' r=>Kx (S:=S) (fun g hg=>by have:=hS g hg;have:=r.cQ.size;omega) (hnN.cJ fun g hg=>r.cQ.block g (hS g hg)) (TO.cJ fun g hg=>r.cQ.block g (hS g hg))) ?_);rintro O w1 v1 w2 r he hw rfl;refine dK.mk ?_ ?_<;>intro h
 ·have h:n<m:=by
   have:=aI h;unfold sd at this;split at this
   ·assumption
   ·split at this<;>omega
  intro ρ3 w3 r3;refine⟨_,rfl,hw.tr r3.cQ,_,_,rfl,?_,?_⟩
  ·rw[Nat.div_eq_of_lt h];exact eC.nil _ _
  ·rw[bN h];exact(hnN.cJ fun g hg=>(hw.tr r3.cQ).block g (hS g hg)).cK fun g hg=>.inl hg
 have h:m<=n:=by
  have:=aH h;unfold sd at this;split at this
  ·omega
  ·omega
 have hlmn:=fP h;refine dK.mk ?_ ?_<;>intro h1
 ·have h1:y.ls.length=1:=by have:=eq_of_beq h1;omega
  obtain⟨b,UF⟩:=List.length_eq_one_iff.1 h1;have hb:y.ls[0]? =some b:=by rw[UF];rfl
  have UJ:=y.lm.at hb;have Qh:m=b:=by rw[<-RC,UF];simp[val]
  subst Qh;obtain⟨ad,OY,Oo⟩:=y.load hS hw hb;refine⟨ad,OY,by omega,.int .u32 m,Oo _ _ _,?_⟩;refine cF (cO (Φ:=fun _ w' v w2=>∃q,v= .tuple #[q,.int .u32 ((val x.ls % m:Nat):Int)]∧eC w2 (Nf w' w2) q (val x.ls / m)) (fun O w' r=>?_) ?_)
  ·refine Mj (S:=S) (fun g hg=>by have:=hS g hg;have:=(hw.tr r.cQ).size;omega) ⟨x.lm,x.le,_,_,rfl,x.cap,fun j u hu=>?_⟩ (by omega) Rp UJ;obtain⟨ad,e1,e2,e3⟩:=x.cell j u hu;exact⟨ad,e1,e2,kV hS hw r e2 e3⟩
  rintro O w3 v3 w4 r he RS ⟨q,rfl,hq⟩;replace hw:=hw.tr RS;have Tm:=hq.dB (S:=FF) r.cD (iv:=(w3.heap.size,w4.heap.size)::[(w1.heap.size,w2.heap.size)]) aG;rw[Q5]at Tm;rw[Q5];generalize (w3.heap.size,w4.heap.size)::[(w1.heap.size,w2.heap.size)]=iv at*
  have QO:n % m<m:=bu _ Rp;generalize n % m=rem at*
  refine gf (Φ:=fun O _ v w2=>dQ w2 (fun g=>g=(O 0).g) v (dy [rem])) (H':=[]) 0 rfl (by simp) trivial rfl (fun O w' r=>r.nn 0 _ rfl (by intros;simp) (by simp)) (fun O w' r=>?_) ?_
  ·have hL:=r.uR (id:=0) (ls:=[rem]) rfl (by intro x hx;simp at hx;omega) (by simp);exact fT (fun g hg=>by rw[hg];exact(r.low 0 _ rfl (r.nn 0 _ rfl (by intros;simp) (by simp))).2) hL
  rintro O w5 v5 w6 r he hb6 hL;have PB:=r.low 0 _ rfl (r.nn 0 _ rfl (by intros;simp) (by simp));have hs:=he.size;replace hw:=hw.tr hb6;replace Tm:=Tm.cG (iv':=((O 0).g,(O 0).g+1)::(w5.heap.size,w6.heap.size)::iv) r (fun g h=>h.elim) he fun x hx=>by simp[hx]
  generalize (O 0).g=g0 at*
  have VD:eC w6 (Cf w ((g0,g0+1)::(w5.heap.size,w6.heap.size)::iv)) v5 rem:=by
   have:=hL.trimmed;simp only[val,Nat.mul_zero,bw]at this;exact this.cK fun k hk=>.inr ⟨by omega,g0,g0+1,by simp,by omega,by omega⟩
  generalize (g0,g0+1)::(w5.heap.size,w6.heap.size)::iv=OG at*
  intro ρ3 w7 r3;exact⟨_,rfl,hw.tr r3.cQ,_,_,rfl,(Tm.rel r3 fun g h=>h.elim).cK fun g hg=>Cv.nw hg r3,((VD.rel r3 fun g h=>h.elim).cK fun g hg=>Cv.nw hg r3).cK fun g hg=>hg.elim (fun h=>h.elim) .inr⟩
 ·have h1:y.ls.length≠1:=fun e=>by rw[e]at h1;simp at h1
  have Ra:0<ln m:=by
   rcases bH (ln m)with h|h
   ·have:=gB.1 (Nat.le_of_eq h);rw[jR]at this;omega
   ·exact h
  obtain⟨t,ht⟩:∃t,y.ls.length=t+1:=⟨y.ls.length-1,by omega⟩
  obtain⟨dt,Sk⟩:∃q,y.ls[t]? =some q:=⟨_,aB (by omega)⟩
  have hdt0:0<dt:=by
   have:=Pv dt (by rw[List.getLast?_eq_getElem?,ht];exact Sk);omega
  have Vk:=y.lm.at Sk;obtain⟨PN,VE⟩:=Ik y.lm ht Sk hdt0;rw[RC]at VE;obtain⟨ad,OY,Oo⟩:=y.load hS hw Sk;refine⟨(t:Int),wo,ad,OY,by omega,.int .u32 dt,Oo _ _ _,?_⟩;refine cF (cO (Φ:=fun _ _ v _=>v= .int .i64 ((32-gg dt:Nat):Int)) (fun O w' r=>Nv dt w' Vk) ?_);rintro O w3 v3 w4 r he RS rfl;replace hw:=hw.tr RS;generalize hbyd:32-gg dt=b at*
  refine⟨(b:Int),eX (by omega),?_⟩;refine cF (cO (Φ:=fun _ w' v w2=>∃out,LC w' w2 v out∧out.length=y.ls.length+1∧val out=val y.ls*2^b) (fun O w' r=>?_) ?_)
  ·refine CK (S:=S) (fun g hg=>by have:=hS g hg;have:=(hw.tr r.cQ).size;omega) ⟨y.lm,y.le,_,_,rfl,y.cap,fun j u hu=>?_⟩ (by omega) PN;obtain⟨ad,e1,e2,e3⟩:=y.cell j u hu;exact⟨ad,e1,e2,kV hS hw r e2 e3⟩
  rintro O w5 v5 w6 r he hb6 ⟨dl,⟨gd,rfl,hgd1,hgd2,hgd3⟩,Sc,hdv⟩;replace hw:=hw.tr hb6;rw[RC]at hdv;have hB5:w.heap.size<=w5.heap.size:=r.cD;have SE:Cf w ((w5.heap.size,w6.heap.size)::[(w3.heap.size,w4.heap.size),(w1.heap.size,w2.heap.size)]) gd:=.inr ⟨by omega,_,_,aG,hgd1,kC hgd2⟩;generalize (w5.heap.size,w6.heap.size)::[(w3.heap.size,w4.heap.size),(w1.heap.size,w2.heap.size)]=iv at*
  have hF:∀g:Nat,(fun _:Nat=>False) g->g<w.heap.size:=fun g h=>h.elim;refine cF (cO (Φ:=fun _ _ v w2=>dQ w2 (fun x=>x=gd) v (dy dl)) (fun O w' r=>fT (fun g hg=>by rw[hg];exact Rel.old r hF gd SE) (IE (by rw[Rel.same r hF SE];exact hgd2) hgd3 (by omega))) ?_);rintro O w7 v6 w8 r he hb8 hL;replace hw:=hw.tr hb8;have hgd8:gd<w8.heap.size:=by have:=Rel.old r hF gd SE;have:=he.size;omega
  replace SE:=SE.mono (iv':=(w7.heap.size,w8.heap.size)::iv) fun p hp=>List.mem_cons_of_mem _ hp;have UL:=hL.trimmed;rw[hdv]at UL;generalize (w7.heap.size,w8.heap.size)::iv=iv at*
  obtain⟨dp,rfl,RL,Oc⟩:=UL.la;have hdpl:=eO dp.lm Oc;rw[RL,VE]at hdpl;generalize hDd:m*2^b=D at*
  have hD0:0<D:=by rw[<-hDd];exact Nat.mul_pos Rp (bm b)
  refine cF (cO (Φ:=fun _ w' v w2=>∃out,LC w' w2 v out∧out.length=x.ls.length+1∧val out=val x.ls*2^b) (fun O w' r=>?_) ?_)
  ·refine CK (S:=S) (fun g hg=>by have:=hS g hg;have:=(hw.tr r.cQ).size;omega) ⟨x.lm,x.le,_,_,rfl,x.cap,fun j u hu=>?_⟩ (by omega) PN;obtain⟨ad,e1,e2,e3⟩:=x.cell j u hu;exact⟨ad,e1,e2,kV hS hw r e2 e3⟩
  rintro O w9 v9 w10 r he hb10 ⟨rs0,⟨gr,rfl,hgr1,hgr2,hgr3⟩,Of,hrv⟩;replace hw:=hw.tr hb10;rw[Q5]at hrv;have hB9:w.heap.size<=w9.heap.size:=r.cD;have Se:Cf w ((w9.heap.size,w10.heap.size)::iv) gr:=.inr ⟨by omega,_,_,aG,hgr1,kC hgr2⟩;have OD:gr≠gd:=by have:=r.size;omega
  replace UL:eC w10 (fun x=>x=gd) (.slice dp.a dp.ls.length dp.c) D:=UL.cJ fun x hx=>by
   rw[hx,he.block gd (Rel.old r hF gd SE),Rel.same r hF SE]
  have hgd10:gd<w10.heap.size:=by have:=Rel.old r hF gd SE;have:=he.size;omega
  replace SE:=SE.mono (iv':=(w9.heap.size,w10.heap.size)::iv) fun p hp=>List.mem_cons_of_mem _ hp;generalize (w9.heap.size,w10.heap.size)::iv=iv at*
  have hgrB:w.heap.size<=gr:=by omega
  obtain⟨L,hL⟩:∃L,rs0.length=t+1+L:=⟨rs0.length-(t+1),by omega⟩
  refine⟨(L:Int),wo,L,L,rfl,rfl,aF _,by omega,by omega,(L:Int)-1,wo,Nat×List Nat×List Nat×World,fun z=>⟨[(8,.o (.v (.int .u64 b))),(9,sV dp.a dp.ls.length dp.c),(10,.o (.v (.slice (some ⟨gr,0,none⟩) rs0.length rs0.length))),(11,.o (.s 0 0 L L)),(12,.o (.v (.int .i64 ((z.1:Int)-1))))],
    [(0,.arr T.uint32 (U z.2.1))],1,iv,z.2.2.2⟩,fun z=>z.1,
   fun z=>z.1<=L∧eE w.heap.size w z.2.2.2∧z.2.1.length=L∧z.2.2.1.length=rs0.length∧Lm z.2.1∧Lm z.2.2.1∧z.2.2.2.heap[gr]? =some (.cells (U z.2.2.1).toArray T.uint32 (0,0))∧eC z.2.2.2 (fun x=>x=gd) (.slice dp.a dp.ls.length dp.c) D∧
    gd<z.2.2.2.heap.size∧val z.2.2.1<wt z.1*D∧n*2^b=wt z.1*(D*val (z.2.1.drop z.1))+val z.2.2.1,?_,?_⟩
  ·intro O w' r;rw[se]at r;refine⟨(L,List.replicate L 0,rs0,w'),⟨aF _,hw.tr r.cQ,by simp,rfl,Lm.replicate _,hgr3,?_,?_,?_,?_,?_⟩,Sub.gn [] r⟩
   ·dsimp only;rw[Rel.same r hF Se];exact hgr2
   ·exact UL.cJ fun x hx=>by rw[hx];exact Rel.same r hF SE
   ·exact Rel.old r hF gd SE
   ·dsimp only
    have:=Il (b:=b) Rp h;rw[hDd,<-VA,ht,<-PZ,show x.ls.length+1-(t+1)=L by omega]at this;rw[hrv];exact this
   ·dsimp only;rw[hrv];simp[val]
  ·rintro⟨k,out,rs,w11⟩ ⟨hk,hw,QH,QT,SC,hlr,PV,UL,Qu,hi1,RB⟩;dsimp only at hk hw QH QT SC hlr PV UL Qu hi1 RB ⊢;refine dK.mk ?_ ?_<;>intro h9
   ·have h9:(k:Int)-1≥0:=aI h9;obtain⟨k,rfl⟩:∃q,k=q+1:=⟨k-1,by omega⟩
    rw[show ((k+1:Nat):Int)-1=(k:Int) by omega];have hDN:D<wt (t+1):=gB.1 (Nat.le_of_eq VE);obtain⟨a1,a2,a3⟩:=Ei (N:=t+1) hlr hDN (by omega) hi1;have hdig:=fun(w':World)=>@Mi (fun x=>x=gd) w' (.slice dp.a dp.ls.length dp.c) D gr k rs;rw[VE]at hdig;simp only[QT]at hdig;generalize hP:val ((rs.drop k).take (t+1+1))=P at*
    have hQ32:P / D<4294967296:=(Nat.div_lt_iff_lt_mul hD0).2 (by rw[bV]at a3;omega);refine⟨fun O w' r=>(hdig w' (fun g hg=>by rw[hg];exact Rel.old r hF gd SE) OD (UL.cJ fun x hx=>by rw[hx];exact Rel.same r hF SE) hD0 (by rw[Rel.same r hF Se];exact PV) hlr (by omega) (by omega) a3).mono fun e w12 he=>?_⟩;obtain⟨rfl,hgb,rs',e1,e2,e3,e4,e5,e6⟩:=he;refine⟨_,_,_,rfl,r.yg (fun id b hb hn=>Rel.not r hF Se id b hb hn) hgb,?_⟩;obtain⟨hi1',hi2'⟩:=KK (N:=t+1) hD0 hlr (e1.trans QT.symm) hDN (by omega) hi1 RB hP e3 e4 e5 (by omega);have hw12:eE w.heap.size w w12:=(hw.tr r.cQ).tr (eE.grown hgb (fun g hg=>by injection hg with hg;omega) r.cD);have hdN12:eC w12 (fun x=>x=gd) (.slice dp.a dp.ls.length dp.c) D:=UL.cJ fun x hx=>by
     rw[hx,hgb.block gd (Rel.old r hF gd SE) (fun e=>OD (Option.some.inj e).symm),Rel.same r hF SE]
    have hgd12:gd<w12.heap.size:=by have:=Rel.old r hF gd SE;have:=hgb.size;omega
    generalize P / D=Q at*
    refine⟨by omega,by rw[gO];omega,U (out.set k Q),jA out k _ (by omega) (by simp),(k:Int)-1,wo,?_⟩;intro ρ3 w3 r3
    refine⟨(k,out.set k Q,rs',w3),⟨by dsimp only;omega,hw12.tr r3.cQ,by simp[QH],e1.trans rfl,SC.set hQ32,e2,?_,?_,?_,hi1',hi2'⟩,
     Sub.gn [] r3,by dsimp only;omega⟩
    ·dsimp only;rw[Rel.same r3 hF Se];exact e6
    ·exact hdN12.cJ fun x hx=>by rw[hx];exact Rel.same r3 hF SE
    ·exact Rel.old r3 hF gd SE
   ·have RA:k=0:=by
     have:¬(k:Int)-1≥0:=aH h9;omega
    subst RA;rw[jR,Nat.one_mul,List.drop_zero]at RB;rw[jR,Nat.one_mul]at hi1;rw[<-hDd]at hi1 RB;obtain⟨hq,hrem⟩:=M0 Rp RB hi1;have Rb:∀w':World,w'.heap[gr]? =some (.cells (U rs).toArray T.uint32 (0,0))->dQ w' (fun x=>x=gr) (.slice (some ⟨gr,0,none⟩) rs0.length rs0.length) rs:=fun w' hh=>by
     have:=IE hh hlr (by omega)
     rwa [QT]at this
    refine gf (Φ:=fun O _ v w2=>dQ w2 (fun g=>g=(O 0).g) v (dy out)) (H':=[]) 0 rfl (by simp) trivial rfl (fun O w' r=>r.nn 0 _ rfl (by intros;simp) (by simp)) (fun O w' r=>?_) ?_
    ·have hL:=r.nY (id:=0) rfl SC (by omega);rw[QH]at hL;exact fT (fun g hg=>by rw[hg];exact(r.low 0 _ rfl (r.nn 0 _ rfl (by intros;simp) (by simp))).2) hL
    rintro O w13 v13 w14 r he hb14 hL;replace hw:=hw.tr hb14;have PB:=r.low 0 _ rfl (r.nn 0 _ rfl (by intros;simp) (by simp));have hs:=he.size;have hgr14:w14.heap[gr]? =some (.cells (U rs).toArray T.uint32 (0,0)):=by rw[he.block gr (Rel.old r hF gr Se),Rel.same r hF Se];exact PV
    replace Se:=Se.mono (iv':=((O 0).g,(O 0).g+1)::(w13.heap.size,w14.heap.size)::iv) fun p hp=>by simp[hp]
    have Tm:eC w14 (Cf w (((O 0).g,(O 0).g+1)::(w13.heap.size,w14.heap.size)::iv)) v13 (n / m):=by
     have:=hL.trimmed;rw[hq]at this;exact this.cK fun k hk=>.inr ⟨by omega,_,_,aG,by omega,by omega⟩
    generalize ((O 0).g,(O 0).g+1)::(w13.heap.size,w14.heap.size)::iv=ON at*
    refine cF (cO (Φ:=fun _ _ v w2=>dQ w2 (fun x=>x=gr) v (dy rs)) (fun O w' r=>fT (fun g hg=>by rw[hg];exact Rel.old r hF gr Se) (Rb w' (by rw[Rel.same r hF Se];exact hgr14))) ?_);rintro O w15 v15 w16 r he hb16 hL;replace hw:=hw.tr hb16;replace Tm:=Tm.cG (iv':=(w15.heap.size,w16.heap.size)::ON) r hF he fun x hx=>List.mem_cons_of_mem _ hx;replace hL:=hL.cK (S':=Cf w ((w15.heap.size,w16.heap.size)::ON)) fun g hg=>by rw[hg];exact Se.cons
    generalize (w15.heap.size,w16.heap.size)::ON=OZ at*
    have RD:(dy rs).length<=rs.length:=by
     obtain⟨_,_,k,_,hk⟩:=eu rs;rw[hk];simp;omega
    refine cF (cO (Φ:=fun _ w' v w2=>eC w2 (Nf w' w2) v (val (dy rs) / 2^b)) (fun O w' r=>Ny (Rel.old r hF) (dQ.rel hL r hF) (by omega) PN) ?_);rintro O w17 v17 w18 r he hb18 hr;replace hw:=hw.tr hb18;rw[(eu rs).1,hrem]at hr;have VD:=hr.dB (S:=FF) r.cD (iv:=(w17.heap.size,w18.heap.size)::OZ) aG;replace Tm:=Tm.cG (iv':=(w17.heap.size,w18.heap.size)::OZ) r hF he fun x hx=>List.mem_cons_of_mem _ hx;generalize (w17.heap.size,w18.heap.size)::OZ=PF at*
    intro ρ3 w19 r3;exact⟨_,rfl,hw.tr r3.cQ,_,_,rfl,(Tm.rel r3 hF).cK fun g hg=>Cv.nw hg r3,((VD.rel r3 hF).cK fun g hg=>Cv.nw hg r3).cK fun g hg=>hg.elim (fun h=>h.elim) .inr⟩
theorem FZ{m:Nat}(hS:Old S w)(hn:eC w S v n)(hm:eC w S u m)(Rq:ln n<=100000000000)(PO:ln m<=100000000000):
  eA PG N.tx #[v,u] w (eF w fun v' w2=>eC w2 (Nw S w w2) v' (Nat.gcd n m)):=by
 refine xo (by simp) ?_
 refine⟨(Value×Nat)×(Value×Nat)×Iv×World,fun z=>⟨[(0,.o (.v z.1.1)),(1,.o (.v z.2.1.1))],[],0,z.2.2.1,z.2.2.2⟩,fun z=>z.2.1.2,
  fun z=>eE w.heap.size w z.2.2.2∧eC z.2.2.2 (Cv S w.heap.size z.2.2.1) z.1.1 z.1.2∧eC z.2.2.2 (Cv S w.heap.size z.2.2.1) z.2.1.1 z.2.1.2∧ln z.1.2<=100000000000∧ln z.2.1.2<=100000000000∧Nat.gcd z.1.2 z.2.1.2=Nat.gcd n m,?_,?_⟩
 ·intro O w' r
  exact⟨((v,n),(u,m),[],w'),⟨r.cQ,(hn.cJ fun g hg=>r.cQ.block g (hS g hg)).cK fun _ hg=>.inl hg,(hm.cJ fun g hg=>r.cQ.block g (hS g hg)).cK fun _ hg=>.inl hg,Rq,PO,rfl⟩,
   Sub.gen [] r trivial ⟨rfl,rfl,trivial⟩ trivial (by simp[j8,SV.sc,At.sc]) (by rfl) (by simp)⟩
 ·rintro⟨⟨vx,x⟩,⟨vy,y⟩,iv,w1⟩ ⟨hw,hx,hy,Oa,QP,hg⟩;dsimp only at hw hx hy Oa QP hg ⊢;have hyN:=hy;obtain⟨p,rfl,Q5,QB⟩:=hy.la;have PR:=eO p.lm QB;rw[Q5]at PR;refine dK.mk ?_ ?_<;>intro h
  ·have h:0<p.ls.length:=by
    have:(p.ls.length:Int)>0:=aI h;omega
   have Pe:0<y:=by
    rcases bH y with h0|h0
    ·rw[h0]at PR;rw[MX]at PR;omega
    ·exact h0
   refine cF (cO (Φ:=fun _ w' v w2=>∃q r,v= .tuple #[q,r]∧eC w2 (Nf w' w2) q (x / y)∧eC w2 (Nw (Cv S w.heap.size iv) w' w2) r (x % y)) (fun O w' r=>qQ (Rel.old r hS) (hx.rel r hS) (hyN.rel r hS) Pe Oa) ?_);rintro O w3 v3 w4 r he RS ⟨q,rm,rfl,-,hr⟩;replace hw:=hw.tr RS;have VD:eC w4 (Cv S w.heap.size ((w3.heap.size,w4.heap.size)::iv)) rm (x % y):=hr.cK fun g hg=>Nw.cv hg r.cD;have hyN:=hyN.cG (iv':=(w3.heap.size,w4.heap.size)::iv) r hS he fun x hx=>List.mem_cons_of_mem _ hx;generalize (w3.heap.size,w4.heap.size)::iv=OG at*
   intro ρ5 w5 r5
   refine⟨((_,y),(rm,x % y),OG,w5),⟨hw.tr r5.cQ,hyN.rel r5 hS,VD.rel r5 hS,QP,aX (fP (Nat.le_of_lt (bu x Pe))) QP,?_⟩,
    Sub.gen [] r5 trivial ⟨rfl,rfl,trivial⟩ trivial (by simp[j8,SV.sc,At.sc]) (by rfl) (by simp),bu x Pe⟩
   dsimp only
   rw[<-hg,Nat.gcd_comm x y,Nat.gcd_rec y x,Nat.gcd_comm]
  ·have h:p.ls.length=0:=by
    have:¬(p.ls.length:Int)>0:=aH h;omega
   have Pe:y=0:=by
    have:=lM y;rw[<-PR,h,jR]at this;omega
   rw[Pe,Nat.gcd_zero_right]at hg;intro ρ5 w5 r5;exact⟨_,rfl,hw.tr r5.cQ,by rw[<-hg];exact(hx.rel r5 hS).cK fun g hg=>Cv.nw hg r5⟩
def sg(neg:Bool)(n:Nat):Int:=if neg then -(n:Int)else n
theorem LP(n:Nat):sg true n= -(n:Int):=rfl
theorem aAE(n:Nat):sg false n=n:=rfl
theorem so(b:Bool)(n:Nat):(sg b n).natAbs=n:=by cases b<;>simp[sg]
def uY(w:World)(S:Nat->Prop)(v:Value)(neg:Bool)(ls:List Nat):Prop:=∃lv,v= .agg #[.bool neg,lv]∧dQ w S lv ls
def eQ(w:World)(S:Nat->Prop)(v:Value)(z:Int):Prop:=∃nv,v= .agg #[.bool (decide (z<0)),nv]∧eC w S nv z.natAbs
section
variable{S S':Nat->Prop}{H:Hp}{nx:Nat}{iv iv':Iv}{B:Nat}{w w' w2:World}{O:Nat->Sx.dx}{v:Value}{z:Int}
theorem eQ.cJ(h:eQ w S v z)(hk:∀g,S g->w2.heap[g]? =w.heap[g]?):eQ w2 S v z:=by
 obtain⟨nv,h1,h2⟩:=h;exact⟨nv,h1,h2.cJ hk⟩
theorem eQ.cK(h:eQ w S v z)(hk:∀g,S g->S' g):eQ w S' v z:=by
 obtain⟨nv,h1,h2⟩:=h;exact⟨nv,h1,h2.cK hk⟩
theorem eQ.rel(h:eQ w (Cv S B iv) v z)(r:Rel H nx iv B w O w')(hS:∀g,S g->g<B):eQ w' (Cv S B iv) v z:=h.cJ fun _ hg=>Rel.same r hS hg
theorem eQ.cG(h:eQ w (Cv S B iv) v z)(r:Rel H nx iv B w O w')(hS:∀g,S g->g<B)(he:Ext w' w2)(hm:∀p,p∈iv->p∈iv'):eQ w2 (Cv S B iv') v z:=by
 obtain⟨nv,h1,h2⟩:=h;exact⟨nv,h1,h2.cG r hS he hm⟩
theorem eQ.dB(h:eQ w2 (Nf w' w2) v z)(hB:B<=w'.heap.size)(hm:(w'.heap.size,w2.heap.size)∈iv):eQ w2 (Cv S B iv) v z:=h.cK fun _ hg=>hg.dB hB hm
end
theorem wC{k:Nat}(h:k=ln n):0<k↔0<n:=by
 have h1:=@gB n 0;rw[jR]at h1;omega
theorem dQ.shape(h:dQ w S v ls):∃a n c,v= .slice a n c:=by
 obtain⟨a,c,h,_⟩:=h.sl;exact⟨a,_,c,h⟩
theorem eC.shape(h:eC w S v n):∃a n c,v= .slice a n c:=by
 obtain⟨_,h,_⟩:=h;exact h.shape
theorem dQ.arg(h:dQ w S v ls)(iv:Iv):dQ w (Cv S w.heap.size iv) v ls:=h.cK fun _ h=>.inl h
theorem eC.arg(h:eC w S v n)(iv:Iv):eC w (Cv S w.heap.size iv) v n:=h.cK fun _ h=>.inl h
theorem eC.out(h:eC w1 (Cv S w.heap.size iv) v n)(r:Rel H nx iv w.heap.size w1 O w')(hS:Old S w):eC w' (Nw S w w') v n:=
 (h.rel r hS).cK fun _ hg=>Cv.nw hg r
theorem eQ.out(h:eQ w1 (Cv S w.heap.size iv) v z)(r:Rel H nx iv w.heap.size w1 O w')(hS:Old S w):eQ w' (Nw S w w') v z:=
 (h.rel r hS).cK fun _ hg=>Cv.nw hg r
theorem neg_pos{k:Nat}(h:k=ln n):decide ((k:Int)>0)=decide (-(n:Int)<0):=by
 have:=wC h;exact decide_eq_decide.2 (by omega)
theorem cC(w:World):Old FF w:=fun _ h=>h.elim
theorem aAr{neg:Bool}(hS:Old S w)(h:uY w S v neg ls):
  eA PG N.zp #[v] w (eF w fun v' w2=>eQ w2 (Nw S w w2) v' (sg neg (val ls))):=by
 obtain⟨lv,rfl,hl⟩:=h;replace hl:=hl.arg [];refine FL (by simp) ?_;refine cF (cO (Φ:=fun _ _ v w2=>dQ w2 (Cv S w.heap.size []) v (dy ls)) (fun O w' r=>fT (Rel.old r hS) (dQ.rel hl r hS)) ?_);rintro O w1 v1 w2 r he hw hL;have hN:=hL.trimmed.cK (S':=Cv S w.heap.size [(w1.heap.size,w2.heap.size)]) fun _ hg=>hg.cons;have hN2:=hN;obtain⟨p,rfl,Q5,QB⟩:=hN.la;have PR:=eO p.lm QB;rw[Q5]at PR
 cases neg
 ·intro ρ3 w3 r3;exact⟨_,rfl,hw.tr r3.cQ,_,rfl,by rw[so];exact hN2.out r3 hS⟩
 ·intro ρ3 w3 r3;exact⟨_,rfl,hw.tr r3.cQ,_,by rw[LP,<-neg_pos PR];rfl,by rw[so];exact hN2.out r3 hS⟩
theorem LQ(hS:Old S w)(h:eQ w S v z)(Rq:ln z.natAbs<=100000000000):
  eA PG N.mV #[v] w (eF w fun v' w2=>∃ls,uY w2 (Nf w w2) v' (decide (z<0)) ls∧Nz ls∧val ls=z.natAbs):=by
 obtain⟨nv,rfl,hn⟩:=h;obtain⟨ls,hl,hz,hv⟩:=hn;replace hl:=hl.arg [];refine qL (by simp) ?_;refine cF (cO (Φ:=fun _ _ v w2=>dQ w2 (Cv S w.heap.size []) v (dy ls)) (fun O w' r=>fT (Rel.old r hS) (dQ.rel hl r hS)) ?_);rintro O w1 v1 w2 r he hw hL;rw[Eb hz]at hL;have PR:=eO hl.lm hz;rw[hv]at PR;replace hL:=hL.cK (S':=Cv S w.heap.size [(w1.heap.size,w2.heap.size)]) fun _ hg=>hg.cons;have hL2:=hL;obtain⟨p,rfl,hp⟩:=hL.la;have Ul:(p.ls.length:Int)>0↔z≠0:=by
  have h1:=wC PR;rw[hp];omega
 subst hp;generalize hb:decide (z<0)=b
 cases b
 all_goals
  refine cF (cO (Φ:=fun _ w' v w2=>dQ w2 (Nf w' w2) v p.ls) (fun O w' r=>IA (Rel.old r hS) (dQ.rel hL2 r hS) (by omega)) ?_);rintro O w3 v3 w4 r he RS hc;replace hw:=hw.tr RS;have S1:=hc.dB (S:=FF) r.cD (iv:=(w3.heap.size,w4.heap.size)::[(w1.heap.size,w2.heap.size)]) aG;obtain⟨a3,n3,c3,rfl⟩:=S1.shape;intro ρ5 w5 r5;refine⟨_,rfl,hw.tr r5.cQ,p.ls,⟨_,?_,(dQ.rel S1 r5 (cC w)).cK fun _ hg=>Cv.nw hg r5⟩,hz,hv⟩
 ·rfl
 ·have:decide ((p.ls.length:Int)>0)=true:=bX (Ul.2 (by have:=aI hb;omega));rw[<-this];rfl
theorem Ah(h:eQ w S v z):eA PG N.mT #[v] w (eF w fun v' _=>v'= .int .i64 z.sign):=by
 obtain⟨nv,rfl,hn⟩:=h;obtain⟨p,rfl,Q5,QB⟩:=hn.la;have PR:=eO p.lm QB;rw[Q5]at PR;have Ul:=wC PR;generalize hb:decide (z<0)=b;refine qJ (by simp) ?_;refine dK.mk ?_ ?_<;>intro h
 ·have h:p.ls.length=0:=by have:=eq_of_beq h;omega
  have hz:z=0:=by omega
  subst hz;intro O w2 r;exact⟨_,rfl,r.cQ,rfl⟩
 ·have h:p.ls.length≠0:=fun e=>by rw[e]at h;simp at h
  have hz:z≠0:=by omega
  cases b
  ·have:=aH hb;intro O w2 r;exact⟨_,rfl,r.cQ,by rw[bj (by omega)];rfl⟩
  ·have:=aI hb;intro O w2 r;exact⟨_,rfl,r.cQ,by rw[bf (by omega)];rfl⟩
theorem oa(hS:Old S w)(h:eQ w S v z):eA PG N.l9 #[v] w (eF w fun v' w2=>eQ w2 (Nw S w w2) v' (-z)):=by
 obtain⟨nv,rfl,hn⟩:=h;have RV:=hn.arg [];obtain⟨p,rfl,Q5,QB⟩:=hn.la;have PR:=eO p.lm QB;rw[Q5]at PR;have Ul:=wC PR;have Pf:(-z).natAbs=z.natAbs:=bz z;generalize hb:decide (z<0)=b;refine pI (by simp) ?_
 cases b
 ·have:=aH hb;have hd:decide ((p.ls.length:Int)>0)=decide (-z<0):=decide_eq_decide.2 (by omega);intro O w2 r;exact⟨_,rfl,r.cQ,_,by rw[<-hd];rfl,by rw[Pf];exact RV.out r hS⟩
 ·have:=aI hb;have hd:decide (-z<0)=false:=bL (by omega);intro O w2 r;exact⟨_,rfl,r.cQ,_,by rw[hd];rfl,by rw[Pf];exact RV.out r hS⟩
theorem eQ.num(h:eQ w S v z):∃a n c,v= .agg #[.bool (decide (z<0)),.slice a n c]∧eC w S (.slice a n c) z.natAbs:=by
 obtain⟨nv,h1,h2⟩:=h;obtain⟨a,n,c,rfl⟩:=h2.shape;exact⟨a,n,c,h1,h2⟩
theorem CR(hS:Old S w)(hx:eQ w S v x)(hy:eQ w S u y)(Oa:ln x.natAbs<=100000000000)(QP:ln y.natAbs<=100000000000):
  eA PG N.mX #[v,u] w (eF w fun v' w2=>eQ w2 (Nf w w2) v' (x+y)):=by
 obtain⟨nx,rfl,RF⟩:=hx;obtain⟨ny,rfl,Sg⟩:=hy;obtain⟨ax,lx,cx,rfl⟩:=RF.shape;obtain⟨ay,ly,cy,rfl⟩:=Sg.shape;replace RF:=RF.arg [];replace Sg:=Sg.arg [];generalize S3:decide (x<0)=bx;generalize PN:decide (y<0)=b2;refine qN (by simp) ?_;have SN:bx=b2->(x+y).natAbs=x.natAbs+y.natAbs∧decide (x+y<0)=bx:=fun e=>by
  cases bx<;>subst e
  ·have h1:=aH S3;have h2:=aH PN;exact⟨by omega,bL (by omega)⟩
  ·have h1:=aI S3;have h2:=aI PN;exact⟨by omega,bX (by omega)⟩
 have UW:bx≠b2->y.natAbs<=x.natAbs->(x+y).natAbs=x.natAbs-y.natAbs∧(decide (x+y<0)=(bx&&decide (x.natAbs-y.natAbs≠0))):=fun e h=>by
  cases bx
  ·have h1:=aH S3
   cases b2
   ·exact absurd rfl e
   have h2:=aI PN;exact⟨by omega,by rw[Bool.false_and];exact bL (by omega)⟩
  ·have h1:=aI S3
   cases b2
   ·have h2:=aH PN;exact⟨by omega,by rw[Bool.true_and];exact decide_eq_decide.2 (by omega)⟩
   ·exact absurd rfl e
 have Sp:bx≠b2->x.natAbs<y.natAbs->(x+y).natAbs=y.natAbs-x.natAbs∧decide (x+y<0)=b2:=fun e h=>by
  cases bx
  ·have h1:=aH S3
   cases b2
   ·exact absurd rfl e
   have h2:=aI PN;exact⟨by omega,bX (by omega)⟩
  ·have h1:=aI S3
   cases b2
   ·have h2:=aH PN;exact⟨by omega,bL (by omega)⟩
   ·exact absurd rfl e
 by_cases OQ:bx=b2
 ·obtain⟨h1,h2⟩:=SN OQ;subst OQ
  cases bx
  all_goals
   refine cM hτ df [.x 0,.x 1,.x 2,.x 3,.x 4,.x 5,.x 6,.x 7,.x 8] (by kernel_rfl) (by kernel_rfl) ?_;refine cO (Φ:=fun _ w' v w2=>eC w2 (Nf w' w2) v (x.natAbs+y.natAbs)) (fun O w' r=>aAG (Rel.old r hS) (RF.rel r hS) (Sg.rel r hS) (by omega) (by omega)) ?_;rintro O w3 v3 w4 r he hw hn;have hN:=hn.dB (S:=FF) r.cD (iv:=(w3.heap.size,w4.heap.size)::[]) aG;obtain⟨a3,n3,c3,rfl⟩:=hN.shape;intro ρ5 w5 r5;exact⟨_,rfl,hw.tr r5.cQ,_,by rw[h2];rfl,by rw[h1];exact hN.out r5 (cC w)⟩
 ·replace UW:=UW OQ;replace Sp:=Sp OQ;have hcmp:∀d:Int,d=sd x.natAbs y.natAbs->(0<=d↔y.natAbs<=x.natAbs):=fun d e=>by
   rw[e];unfold sd;split
   ·omega
   ·split<;>omega
  cases bx<;>cases b2<;>first|exact absurd rfl OQ|skip
  all_goals
   refine cF (cO (Φ:=fun _ _ v _=>v= .int .i64 (sd x.natAbs y.natAbs)) (fun O w' r=>Kx (Rel.old r hS) (RF.rel r hS) (Sg.rel r hS)) ?_);rintro O w1 v1 w2 r he hw rfl;replace RF:=RF.cG (iv':=[(w1.heap.size,w2.heap.size)]) r hS he fun x hx=>List.mem_cons_of_mem _ hx;replace Sg:=Sg.cG (iv':=[(w1.heap.size,w2.heap.size)]) r hS he fun x hx=>List.mem_cons_of_mem _ hx;refine dK.mk ?_ ?_<;>intro h
   ·have h:=(hcmp _ rfl).1 (aI h);obtain⟨h1,h2⟩:=UW h;refine cF (cO (Φ:=fun _ w' v w2=>eC w2 (Nf w' w2) v (x.natAbs-y.natAbs)) (fun O w' r=>D3 (Rel.old r hS) (RF.rel r hS) (Sg.rel r hS) h (by omega)) ?_);rintro O w3 v3 w4 r he RS hn;replace hw:=hw.tr RS;have hN:=hn.dB (S:=FF) r.cD (iv:=(w3.heap.size,w4.heap.size)::[(w1.heap.size,w2.heap.size)]) aG;have hN2:=hN;obtain⟨p,rfl,Q5,QB⟩:=hN.la;have PR:=eO p.lm QB;rw[Q5]at PR;have Ul:=wC PR;have hd:decide ((p.ls.length:Int)>0)=decide (x.natAbs-y.natAbs≠0):=decide_eq_decide.2 (by omega);intro ρ5 w5 r5;exact⟨_,rfl,hw.tr r5.cQ,_,by rw[h2,<-hd];rfl,by rw[h1];exact hN2.out r5 (cC w)⟩
   ·have h:x.natAbs<y.natAbs:=by
     have h0:=aH h;have:=hcmp _ rfl;omega
    obtain⟨h1,h2⟩:=Sp h;refine cM hτ df [.x 0,.x 1,.x 2,.x 3,.x 4,.x 5,.x 6,.x 7,.x 8] (by kernel_rfl) (by kernel_rfl) ?_;refine cO (Φ:=fun _ w' v w2=>eC w2 (Nf w' w2) v (y.natAbs-x.natAbs)) (fun O w' r=>D3 (Rel.old r hS) (Sg.rel r hS) (RF.rel r hS) (by omega) (by omega)) ?_;rintro O w3 v3 w4 r he RS hn;replace hw:=hw.tr RS;have hN:=hn.dB (S:=FF) r.cD (iv:=(w3.heap.size,w4.heap.size)::[(w1.heap.size,w2.heap.size)]) aG;obtain⟨a3,n3,c3,rfl⟩:=hN.shape;intro ρ5 w5 r5;exact⟨_,rfl,hw.tr r5.cQ,_,by rw[h2];rfl,by rw[h1];exact hN.out r5 (cC w)⟩
theorem iH(hS:Old S w)(hx:eQ w S v x)(hy:eQ w S u y)(Oa:ln x.natAbs<=100000000000)(QP:ln y.natAbs<=100000000000):
  eA PG N.l8 #[v,u] w (eF w fun v' w2=>eQ w2 (Nf w w2) v' (x*y)):=by
 obtain⟨nx,rfl,RF⟩:=hx;obtain⟨ny,rfl,Sg⟩:=hy;obtain⟨ax,lx,cx,rfl⟩:=RF.shape;obtain⟨ay,ly,cy,rfl⟩:=Sg.shape;replace RF:=RF.arg [];replace Sg:=Sg.arg [];have Pf:=Int.natAbs_mul x y;have Qp:decide (x*y<0)=((decide (x<0) != decide (y<0))&&decide (x.natAbs*y.natAbs≠0)):=by
  by_cases h0:x*y=0
  ·rw[<-Pf,h0];simp
  ·have Qi:x≠0:=fun e=>h0 (by rw[e,Int.zero_mul]);have Pe:y≠0:=fun e=>h0 (by rw[e,Int.mul_zero]);rw[<-Pf,bX (show (x*y).natAbs≠0 by omega),Bool.and_true];by_cases h1:x<0<;>by_cases h2:y<0
   ·rw[bX h1,bX h2];exact bL (by have:=Int.mul_pos_of_neg_of_neg h1 h2;omega)
   ·rw[bX h1,bL h2];exact bX (Int.mul_neg_of_neg_of_pos h1 (by omega))
   ·rw[bL h1,bX h2];exact bX (Int.mul_neg_of_pos_of_neg (by omega) h2)
   ·rw[bL h1,bL h2];exact bL (by have:=Int.mul_nonneg (show 0<=x by omega) (show 0<=y by omega);omega)
 generalize decide (x<0)=bx at*
 generalize decide (y<0)=b2 at*
 refine pH (by simp) ?_;refine cF (cO (Φ:=fun _ w' v w2=>eC w2 (Nf w' w2) v (x.natAbs*y.natAbs)) (fun O w' r=>IC (Rel.old r hS) (RF.rel r hS) (Sg.rel r hS) (by omega) (by omega)) ?_);rintro O w3 v3 w4 r he hw hn;have hN:=hn.dB (S:=FF) r.cD (iv:=(w3.heap.size,w4.heap.size)::[]) aG;have hN2:=hN;obtain⟨p,rfl,Q5,QB⟩:=hN.la;have PR:=eO p.lm QB;rw[Q5]at PR;have Ul:=wC PR;have hd:decide ((p.ls.length:Int)>0)=decide (x.natAbs*y.natAbs≠0):=decide_eq_decide.2 (by omega)
 cases bx<;>cases b2
 all_goals
  intro ρ5 w5 r5;exact⟨_,rfl,hw.tr r5.cQ,_,by rw[Qp,<-hd];rfl,by rw[Pf];exact hN2.out r5 (cC w)⟩
theorem LS(hS:Old S w)(hx:eQ w S v x)(hy:eQ w S u y)(Oa:ln x.natAbs<=100000000000)(QP:ln y.natAbs<=100000000000):
  eA PG N.nQ #[v,u] w (eF w fun v' _=>v'= .int .i64 (x-y).sign):=by
 have hxN:eQ w (Cv S w.heap.size []) v x:=hx.cK fun _ h=>.inl h;have hyN:eQ w (Cv S w.heap.size []) u y:=hy.cK fun _ h=>.inl h;obtain⟨nx,rfl,RF⟩:=hx;obtain⟨ny,rfl,Sg⟩:=hy;obtain⟨ax,lx,cx,rfl⟩:=RF.shape;obtain⟨ay,ly,cy,rfl⟩:=Sg.shape;refine rJ (by simp) ?_;refine cM hτ df [.x 0,.x 1,.x 2,.x 3,.x 4,.x 5] (by kernel_rfl) (by kernel_rfl) ?_;refine cO (Φ:=fun _ w' v w2=>eQ w2 (Nw (Cv S w.heap.size []) w' w2) v (-y)) (fun O w' r=>oa (Rel.old r hS) (hyN.rel r hS)) ?_;rintro O w1 v1 w2 r he hw hm;have TO:eQ w2 (Cv S w.heap.size [(w1.heap.size,w2.heap.size)]) v1 (-y):=hm.cK fun _ hg=>Nw.cv hg r.cD;replace hxN:=hxN.cG (iv':=[(w1.heap.size,w2.heap.size)]) r hS he fun x hx=>List.mem_cons_of_mem _ hx;generalize [(w1.heap.size,w2.heap.size)]=iv at*
 have hmN2:=TO;obtain⟨am,lm,cm,rfl,-⟩:=TO.num;refine cO (Φ:=fun _ w' v w2=>eQ w2 (Nf w' w2) v (x+ -y)) (fun O w' r=>CR (Rel.old r hS) (hxN.rel r hS) (hmN2.rel r hS) Oa (by rw[bz];exact QP)) ?_;rintro O w3 v3 w4 r he RS hp;replace hw:=hw.tr RS;have hpN:=hp.dB (S:=S) r.cD (iv:=(w3.heap.size,w4.heap.size)::iv) aG;have hpN2:=hpN;obtain⟨ap,lp,cp,rfl,-⟩:=hpN.num;refine cO (Φ:=fun _ _ v _=>v= .int .i64 (x-y).sign) (fun O w' r=>Ah (hpN2.rel r hS)) ?_;rintro O w5 v5 w6 r he hb6 rfl;replace hw:=hw.tr hb6;intro ρ7 w7 r7;exact⟨_,rfl,hw.tr r7.cQ,rfl⟩
theorem oe(n:Int)(w:World)(h1: -9223372036854775808<=n)(h2:n<=9223372036854775807):
  eA PG N.xF #[.int .i64 n] w (eF w fun v' w2=>eQ w2 (Nf w w2) v' n):=by
 have key:∀(m:Nat),m=n.natAbs->m<18446744073709551616∧val [m % 4294967296,m / 4294967296]=n.natAbs∧m / 4294967296<4294967296:=fun m e=>by
  refine⟨by omega,?_,by omega⟩;simp only[val]
  omega
 refine AN (by simp) ?_;refine⟨if n<0 then n+18446744073709551616 else n,by show n % 18446744073709551616=_;split<;>omega,?_⟩;refine dK.mk ?_ ?_<;>intro h
 ·have h:=aI h;rw[if_pos h];obtain⟨m,hm⟩:∃m,m=n.natAbs:=⟨_,rfl⟩
  obtain⟨k1,k2,k3⟩:=key m hm;refine⟨(m:Int),by show(0-(n+18446744073709551616)) % 18446744073709551616=_;omega,((m % 4294967296:Nat):Int),fK m,by decide,((m / 2^32:Nat):Int),lu 32 (by decide),((m / 4294967296:Nat):Int),by rw[fK,bN (by omega)],?_⟩;refine gf (Φ:=fun O _ v w2=>dQ w2 (fun g=>g=(O 1).g) v (dy [m % 4294967296,m / 4294967296])) (H':=[(0,.box T.number [.v (.bool false),.v (.slice none 0 0)])]) 1 rfl (by simp) ⟨rfl,trivial⟩ rfl (fun O w' r=>r.nn 1 _ rfl (by intros;simp) (by simp)) (fun O w' r=>?_) ?_
  ·have hL:=r.uR (id:=1) (ls:=[m % 4294967296,m / 4294967296]) rfl (by intro x hx;simp at hx;omega) (by simp);exact fT (fun g hg=>by rw[hg];exact(r.low 1 _ rfl (r.nn 1 _ rfl (by intros;simp) (by simp))).2) hL
  rintro O w1 v1 w2 r he hw hL;have PB:=r.low 1 _ rfl (r.nn 1 _ rfl (by intros;simp) (by simp));have hs:=he.size;generalize (O 1).g=g0 at*
  have hN:eC w2 (Cf w [(g0,g0+1),(w1.heap.size,w2.heap.size)]) v1 n.natAbs:=by
   have:=hL.trimmed;rw[k2]at this;exact this.cK fun k hk=>.inr ⟨by omega,g0,g0+1,by simp,by omega,by omega⟩
  generalize [(g0,g0+1),(w1.heap.size,w2.heap.size)]=iv at*
  obtain⟨a3,n3,c3,rfl⟩:=hN.shape;intro ρ5 w5 r5;exact⟨_,rfl,hw.tr r5.cQ,_,rfl,hN.out r5 (cC w)⟩
 ·have h:=aH h;rw[aJ h];obtain⟨m,hm⟩:∃m,m=n.natAbs:=⟨_,rfl⟩
  obtain⟨k1,k2,k3⟩:=key m hm;have Q1:n=(m:Int):=by omega
  refine⟨((m % 4294967296:Nat):Int),by rw[Q1];exact fK m,by decide,((m / 2^32:Nat):Int),by rw[Q1];exact lu 32 (by decide),((m / 4294967296:Nat):Int),by rw[fK,bN (by omega)],?_⟩;refine gf (Φ:=fun O _ v w2=>dQ w2 (fun g=>g=(O 1).g) v (dy [m % 4294967296,m / 4294967296])) (H':=[(0,.box T.number [.v (.bool false),.v (.slice none 0 0)])]) 1 rfl (by simp) ⟨rfl,trivial⟩ rfl (fun O w' r=>r.nn 1 _ rfl (by intros;simp) (by simp)) (fun O w' r=>?_) ?_
  ·have hL:=r.uR (id:=1) (ls:=[m % 4294967296,m / 4294967296]) rfl (by intro x hx;simp at hx;omega) (by simp);exact fT (fun g hg=>by rw[hg];exact(r.low 1 _ rfl (r.nn 1 _ rfl (by intros;simp) (by simp))).2) hL
  rintro O w1 v1 w2 r he hw hL;have PB:=r.low 1 _ rfl (r.nn 1 _ rfl (by intros;simp) (by simp));have hs:=he.size;generalize (O 1).g=g0 at*
  have hN:eC w2 (Cf w [(g0,g0+1),(w1.heap.size,w2.heap.size)]) v1 n.natAbs:=by
   have:=hL.trimmed;rw[k2]at this;exact this.cK fun k hk=>.inr ⟨by omega,g0,g0+1,by simp,by omega,by omega⟩
  generalize [(g0,g0+1),(w1.heap.size,w2.heap.size)]=iv at*
  obtain⟨a3,n3,c3,rfl⟩:=hN.shape;intro ρ5 w5 r5;exact⟨_,rfl,hw.tr r5.cQ,_,rfl,hN.out r5 (cC w)⟩
def j9(w:World)(S:Nat->Prop)(v:Value)(z:Int):Prop:=∃neg ls,uY w S v neg ls∧sg neg (val ls)=z
def dL(w:World)(S:Nat->Prop)(v:Value)(z:Int):Prop:=∃ls,uY w S v (decide (z<0)) ls∧Nz ls∧val ls=z.natAbs
theorem CT(z:Int):sg (decide (z<0)) z.natAbs=z:=by
 by_cases h:z<0
 ·rw[bX h,LP];omega
 ·rw[bL h,aAE];omega
theorem dL.r(h:dL w S v z):j9 w S v z:=by
 obtain⟨ls,h1,h2,h3⟩:=h;exact⟨_,ls,h1,by rw[h3,CT]⟩
section
variable{S S':Nat->Prop}{H:Hp}{nx:Nat}{iv iv':Iv}{B:Nat}{w w' w2:World}{O:Nat->Sx.dx}{v:Value}{z:Int}{neg:Bool}{ls:List Nat}
theorem uY.cJ(h:uY w S v neg ls)(hk:∀g,S g->w2.heap[g]? =w.heap[g]?):uY w2 S v neg ls:=by
 obtain⟨lv,h1,h2⟩:=h;exact⟨lv,h1,h2.cJ hk⟩
theorem uY.cK(h:uY w S v neg ls)(hk:∀g,S g->S' g):uY w S' v neg ls:=by
 obtain⟨lv,h1,h2⟩:=h;exact⟨lv,h1,h2.cK hk⟩
theorem j9.cJ(h:j9 w S v z)(hk:∀g,S g->w2.heap[g]? =w.heap[g]?):j9 w2 S v z:=by
 obtain⟨n,l,h1,h2⟩:=h;exact⟨n,l,h1.cJ hk,h2⟩
theorem j9.cK(h:j9 w S v z)(hk:∀g,S g->S' g):j9 w S' v z:=by
 obtain⟨n,l,h1,h2⟩:=h;exact⟨n,l,h1.cK hk,h2⟩
theorem dL.cJ(h:dL w S v z)(hk:∀g,S g->w2.heap[g]? =w.heap[g]?):dL w2 S v z:=by
 obtain⟨l,h1,h2⟩:=h;exact⟨l,h1.cJ hk,h2⟩
theorem dL.cK(h:dL w S v z)(hk:∀g,S g->S' g):dL w S' v z:=by
 obtain⟨l,h1,h2⟩:=h;exact⟨l,h1.cK hk,h2⟩
theorem j9.rel(h:j9 w (Cv S B iv) v z)(r:Rel H nx iv B w O w')(hS:∀g,S g->g<B):j9 w' (Cv S B iv) v z:=h.cJ fun _ hg=>Rel.same r hS hg
theorem dL.rel(h:dL w (Cv S B iv) v z)(r:Rel H nx iv B w O w')(hS:∀g,S g->g<B):dL w' (Cv S B iv) v z:=h.cJ fun _ hg=>Rel.same r hS hg
theorem j9.cG(h:j9 w (Cv S B iv) v z)(r:Rel H nx iv B w O w')(hS:∀g,S g->g<B)(he:Ext w' w2)(hm:∀p,p∈iv->p∈iv'):j9 w2 (Cv S B iv') v z:=
 ((h.rel r hS).cJ fun g hg=>he.block g (Rel.old r hS g hg)).cK fun _ hg=>hg.mono hm
theorem dL.cG(h:dL w (Cv S B iv) v z)(r:Rel H nx iv B w O w')(hS:∀g,S g->g<B)(he:Ext w' w2)(hm:∀p,p∈iv->p∈iv'):dL w2 (Cv S B iv') v z:=
 ((h.rel r hS).cJ fun g hg=>he.block g (Rel.old r hS g hg)).cK fun _ hg=>hg.mono hm
theorem dL.dB(h:dL w2 (Nf w' w2) v z)(hB:B<=w'.heap.size)(hm:(w'.heap.size,w2.heap.size)∈iv):dL w2 (Cv S B iv) v z:=h.cK fun _ hg=>hg.dB hB hm
theorem j9.shape(h:j9 w S v z):∃b a n c,v= .agg #[.bool b,.slice a n c]:=by
 obtain⟨b,l,⟨lv,h1,h2⟩,_⟩:=h;obtain⟨a,n,c,rfl⟩:=h2.shape;exact⟨b,a,n,c,h1⟩
theorem eQ.old(h:eQ w2 (Nw (Cv S B iv) w' w2) v z)(hB:B<=w'.heap.size):eQ w2 (Cv S B ((w'.heap.size,w2.heap.size)::iv)) v z:=h.cK fun _ hg=>Nw.cv hg hB
end
theorem dL.out(h:dL w1 (Cv S w.heap.size iv) v z)(r:Rel H nx iv w.heap.size w1 O w')(hS:Old S w):dL w' (Nw S w w') v z:=
 (h.rel r hS).cK fun _ hg=>Cv.nw hg r
theorem Lc(hS:Old S w)(h:j9 w S v z):eA PG N.zp #[v] w (eF w fun v' w2=>eQ w2 (Nw S w w2) v' z):=by
 obtain⟨n,l,h1,rfl⟩:=h;exact aAr hS h1
theorem eQ.shape(h:eQ w S v z):∃b a n c,v= .agg #[.bool b,.slice a n c]:=by
 obtain⟨a,n,c,h1,_⟩:=h.num;exact⟨_,a,n,c,h1⟩
theorem dL.shape(h:dL w S v z):∃b a n c,v= .agg #[.bool b,.slice a n c]:=h.r.shape
theorem dA(x y:Int):ln (x*y).natAbs<=ln x.natAbs+ln y.natAbs:=by
 rw[Int.natAbs_mul];exact Nj _ _
end Go.Ex
namespace Go.Ex
open Go Go.Sx
theorem zL{x y:Int}(hy:0<y)(hx:x≠0):
  (Rat.divInt x y).num.natAbs=x.natAbs / Nat.gcd x.natAbs y.natAbs∧(Rat.divInt x y).den=y.natAbs / Nat.gcd x.natAbs y.natAbs∧decide ((Rat.divInt x y).num<0)=decide (x<0):=by
 have hg:0<Nat.gcd x.natAbs y.natAbs:=bl _ (by omega);have hs:y.sign=1:=bj hy;have hc:(y.gcd x:Int)=(Nat.gcd x.natAbs y.natAbs:Nat):=by rw[Int.gcd_comm];rfl
 have hdx:((Nat.gcd x.natAbs y.natAbs:Nat):Int) ∣ x:=by
  rw[<-Int.natAbs_dvd_natAbs];exact Nat.gcd_dvd_left _ _
 have h1:(Rat.divInt x y).num=x / ((Nat.gcd x.natAbs y.natAbs:Nat):Int):=by
  rw[Rat.num_divInt,hs,Int.one_mul,hc]
 have hgi:0<((Nat.gcd x.natAbs y.natAbs:Nat):Int):=by omega
 refine⟨?_,?_,?_⟩
 ·rw[h1,Int.natAbs_ediv_of_dvd hdx];rfl
 ·rw[Rat.den_divInt,aJ (by omega)];have:y.gcd x=Nat.gcd x.natAbs y.natAbs:=by rw[Int.gcd_comm];rfl
  rw[this]
 ·rw[h1];obtain⟨k,hk⟩:=hdx;refine decide_eq_decide.2 ?_;have:x / ((Nat.gcd x.natAbs y.natAbs:Nat):Int)=k:=by
   conv=>lhs;lhs;rw[hk]
   exact Int.mul_ediv_cancel_left _ (by omega)
  rw[this];generalize ((Nat.gcd x.natAbs y.natAbs:Nat):Int)=g at*
  subst hk;constructor
  ·intro h;exact Int.mul_neg_of_pos_of_neg hgi h
  ·intro h;have h0:¬0<=k:=fun hh=>by have:=Int.mul_nonneg (show 0<=g by omega) hh;omega
   omega
theorem Io{a b:Nat}:ln (a / b)<=ln a:=fP (Nat.div_le_self a b)
theorem zM(y:Int):Rat.divInt 0 y=0:=Rat.zero_divInt y
end Go.Ex
namespace Go.Ex
open Go Go.Sx Go.Proofs
variable{b b2:Bool}{S:Nat->Prop}{q:Rat}{dv nv v:Value}{w:World}
theorem eC.old{B:Nat}{iv:Iv}{w' w2:World}{n:Nat}(h:eC w2 (Nw (Cv S B iv) w' w2) v n)(hB:B<=w'.heap.size):eC w2 (Cv S B ((w'.heap.size,w2.heap.size)::iv)) v n:=h.cK fun _ hg=>Nw.cv hg hB
def dW(w:World)(S:Nat->Prop)(v:Value)(q:Rat):Prop:=∃nv dv,v= .agg #[.bool (decide (q.num<0)),nv,.bool false,dv]∧eC w S nv q.num.natAbs∧eC w S dv q.den
theorem dW.cJ{w2:World}(h:dW w S v q)(hk:∀g,S g->w2.heap[g]? =w.heap[g]?):dW w2 S v q:=by
 obtain⟨n,d,h1,h2,h3⟩:=h;exact⟨n,d,h1,h2.cJ hk,h3.cJ hk⟩
theorem dW.cK{S':Nat->Prop}(h:dW w S v q)(hk:∀g,S g->S' g):dW w S' v q:=by
 obtain⟨n,d,h1,h2,h3⟩:=h;exact⟨n,d,h1,h2.cK hk,h3.cK hk⟩
theorem dW.shape(h:dW w S v q):∃b a n c b2 a2 n2 c2,v= .agg #[.bool b,.slice a n c,.bool b2,.slice a2 n2 c2]:=by
 obtain⟨n,d,h1,h2,h3⟩:=h;obtain⟨a,n,c,rfl⟩:=h2.shape;obtain⟨a2,n2,c2,rfl⟩:=h3.shape;exact⟨_,a,n,c,_,a2,n2,c2,h1⟩
theorem dW.num(h:dW w S (.agg #[.bool b,nv,.bool b2,dv]) q):eQ w S (.agg #[.bool b,nv]) q.num:=by
 obtain⟨n,d,h1,h2,h3⟩:=h;simp at h1;obtain⟨rfl,rfl,rfl,rfl⟩:=h1;exact⟨_,rfl,h2⟩
theorem dW.den(h:dW w S (.agg #[.bool b,nv,.bool b2,dv]) q):eQ w S (.agg #[.bool b2,dv]) (q.den:Int):=by
 obtain⟨n,d,h1,h2,h3⟩:=h;simp at h1;obtain⟨rfl,rfl,rfl,rfl⟩:=h1;exact⟨_,by rw[bL (by omega)],h3⟩
theorem dW.of(h:eQ w S (.agg #[.bool b,nv]) q.num)(k:eQ w S (.agg #[.bool b2,dv]) (q.den:Int)):dW w S (.agg #[.bool b,nv,.bool b2,dv]) q:=by
 obtain⟨n,h1,h2⟩:=h;obtain⟨d,h3,h4⟩:=k;simp at h1 h3;obtain⟨rfl,rfl⟩:=h1;obtain⟨rfl,rfl⟩:=h3;refine⟨_,_,?_,h2,h4⟩;rw[bL (show ¬((q.den:Int)<0) by omega)]
section
variable{S S':Nat->Prop}{H:Hp}{nx:Nat}{iv iv':Iv}{B:Nat}{w w' w2:World}{O:Nat->Sx.dx}{v:Value}{q:Rat}
theorem dW.rel(h:dW w (Cv S B iv) v q)(r:Rel H nx iv B w O w')(hS:∀g,S g->g<B):dW w' (Cv S B iv) v q:=h.cJ fun _ hg=>Rel.same r hS hg
theorem dW.cG(h:dW w (Cv S B iv) v q)(r:Rel H nx iv B w O w')(hS:∀g,S g->g<B)(he:Ext w' w2)(hm:∀p,p∈iv->p∈iv'):dW w2 (Cv S B iv') v q:=
 ((h.rel r hS).cJ fun g hg=>he.block g (Rel.old r hS g hg)).cK fun _ hg=>hg.mono hm
theorem dW.dB(h:dW w2 (Nf w' w2) v q)(hB:B<=w'.heap.size)(hm:(w'.heap.size,w2.heap.size)∈iv):dW w2 (Cv S B iv) v q:=h.cK fun _ hg=>hg.dB hB hm
theorem dW.old(h:dW w2 (Nw (Cv S B iv) w' w2) v q)(hB:B<=w'.heap.size):dW w2 (Cv S B ((w'.heap.size,w2.heap.size)::iv)) v q:=h.cK fun _ hg=>Nw.cv hg hB
theorem dW.out{w0 w1:World}(h:dW w1 (Cv S w0.heap.size iv) v q)(r:Rel H nx iv w0.heap.size w1 O w')(hS:Old S w0):dW w' (Nw S w0 w') v q:=
 (h.rel r hS).cK fun _ hg=>Cv.nw hg r
end
theorem eQ.nat{z:Int}(h:eQ w S (.agg #[.bool b,nv]) z):b=decide (z<0)∧eC w S nv z.natAbs:=by
 obtain⟨n,h1,h2⟩:=h;simp at h1;obtain⟨rfl,rfl⟩:=h1;exact⟨rfl,h2⟩
theorem wJ{u:Value}{x y:Int}(hS:Old S w)(hx:eQ w S v x)(hy:eQ w S u y)(Pe:y≠0)(Oa:ln x.natAbs<=100000000000)(QP:ln y.natAbs<=100000000000):
  eA PG N.zm #[v,u] w (eF w fun v' w2=>dW w2 (Nf w w2) v' (Rat.divInt x y)):=by
 have hw:=bR w;replace hx:=hx.cK (S':=Cv S w.heap.size []) fun _ h=>.inl h;replace hy:=hy.cK (S':=Cv S w.heap.size []) fun _ h=>.inl h;obtain⟨bx,ax,lx,cx,rfl⟩:=hx.shape;obtain⟨b2,ay,ly,cy,rfl⟩:=hy.shape;have QE:=hy.nat.1;refine BK (by simp) ?_
 cases b2
 ·have hyp:0<y:=by have:=aH QE.symm;omega
  have hq:Rat.divInt x y=Rat.divInt x y:=rfl;have hbA:=hx.nat.1;refine cF (cE hw (fun _ w' v w2=>v= .int .i64 (x).sign) (fun O w' r=>Ah (hx.rel r hS)) ?_);rintro O Pg v1 PS OJ r he hw h_ rfl;replace hx:=hx.cG r hS he (mC h_);replace hy:=hy.cG r hS he (mC h_);refine dK.mk ?_ ?_<;>intro h
  ·have h:x=0:=Int.sign_eq_zero_iff_zero.1 (eq_of_beq h);refine cF (cE hw (fun _ w' v w2=>eQ w2 (Nf w' w2) v 1) (fun O w' r=>oe 1 w' (by decide) (by decide)) ?_);rintro O Pn v2 PJ OG r he hw h_ hn;have hO:=hn.dB (S:=FF) r.cD (mN h_);obtain⟨A0,A1,A2,A3,rfl⟩:=hO.shape;have e0:Rat.divInt x y=0:=by rw[hq,h,zM]
   exact rtn hw fun ρe we re=>by rw[e0];exact dW.of ⟨_,rfl,eC.nil _ _⟩ (hO.out re (cC w))
  ·have h:x≠0:=fun e=>by rw[e]at h;exact absurd h (by decide)
   obtain⟨g1,g2,g3⟩:=zL hyp h;have Sh:0<Nat.gcd (x).natAbs (y).natAbs:=bl _ (by omega);have VX:=hx.nat.2;have Te:=hy.nat.2;refine cF (cO (Φ:=fun _ w' v w2=>eC w2 (Nw (Cv S w.heap.size OJ) w' w2) v (Nat.gcd (x).natAbs (y).natAbs)) (fun O w' r=>FZ (Rel.old r hS) (VX.rel r hS) (Te.rel r hS) (by omega) (by omega)) ?_);rintro O Pn v2 PJ r he hb hn;replace hw:=hw.tr hb;replace VX:=VX.cG (iv':=(Pn.heap.size,PJ.heap.size)::OJ) r hS he fun x hx=>List.mem_cons_of_mem _ hx;replace Te:=Te.cG (iv':=(Pn.heap.size,PJ.heap.size)::OJ) r hS he fun x hx=>List.mem_cons_of_mem _ hx;have hG:=hn.old r.cD;generalize (Pn.heap.size,PJ.heap.size)::OJ=OG at*
   obtain⟨A0,A1,A2,rfl⟩:=hG.shape;refine cF (cO (Φ:=fun _ w' v w2=>∃q r,v= .tuple #[q,r]∧eC w2 (Nf w' w2) q ((x).natAbs / Nat.gcd (x).natAbs (y).natAbs)∧eC w2 (Nw (Cv S w.heap.size OG) w' w2) r ((x).natAbs % Nat.gcd (x).natAbs (y).natAbs)) (fun O w' r=>qQ (Rel.old r hS) (VX.rel r hS) (hG.rel r hS) Sh (by omega)) ?_);rintro O PH v3 PD r he hb ⟨qvp,rvp,rfl,RC,Sd⟩;replace hw:=hw.tr hb;replace Te:=Te.cG (iv':=(PH.heap.size,PD.heap.size)::OG) r hS he fun x hx=>List.mem_cons_of_mem _ hx;replace hG:=hG.cG (iv':=(PH.heap.size,PD.heap.size)::OG) r hS he fun x hx=>List.mem_cons_of_mem _ hx;have hP:=RC.dB (S:=FF) r.cD (iv:=(PH.heap.size,PD.heap.size)::OG) aG;have hPr:=Sd.old r.cD;generalize (PH.heap.size,PD.heap.size)::OG=ON at*
   obtain⟨s3_0a,s3_0b,s3_0c,rfl⟩:=hP.shape;obtain⟨s3_1a,s3_1b,s3_1c,rfl⟩:=hPr.shape;refine cF (cO (Φ:=fun _ w' v w2=>∃q r,v= .tuple #[q,r]∧eC w2 (Nf w' w2) q ((y).natAbs / Nat.gcd (x).natAbs (y).natAbs)∧eC w2 (Nw (Cv S w.heap.size ON) w' w2) r ((y).natAbs % Nat.gcd (x).natAbs (y).natAbs)) (fun O w' r=>qQ (Rel.old r hS) (Te.rel r hS) (hG.rel r hS) Sh (by omega)) ?_);rintro O Qw v4 Qk r he hb ⟨qvq,rvq,rfl,RC,Sd⟩;replace hw:=hw.tr hb;replace hP:=hP.cG (iv':=(Qw.heap.size,Qk.heap.size)::ON) r (cC w) he fun x hx=>List.mem_cons_of_mem _ hx;have hQ:=RC.dB (S:=FF) r.cD (iv:=(Qw.heap.size,Qk.heap.size)::ON) aG;have hQr:=Sd.old r.cD;generalize (Qw.heap.size,Qk.heap.size)::ON=OZ at*
   obtain⟨s4_0a,s4_0b,s4_0c,rfl⟩:=hQ.shape;obtain⟨s4_1a,s4_1b,s4_1c,rfl⟩:=hQr.shape;exact rtn hw fun ρe we re=>by rw[hq];exact dW.of ⟨_,by rw[g3,<-hbA],by rw[g1];exact hP.out re (cC w)⟩ ⟨_,by rw[bL (by omega)],by rw[g2];exact hQ.out re (cC w)⟩
 ·have hyp:0< -y:=by have:=aI QE.symm;omega
  have hq:Rat.divInt x y=Rat.divInt (-x) (-y):=(Rat.neg_divInt_neg _ _).symm;have nx:=bz x;have ny:=bz y;have hlx2:ln (-x).natAbs<=100000000000:=by rw[nx];exact Oa
  have hly2:ln (-y).natAbs<=100000000000:=by rw[ny];exact QP
  refine cM hτ df [.x 0,.x 2,.x 1,.x 3,.x 4,.x 5] (by kernel_rfl) (by kernel_rfl) ?_;refine cO (Φ:=fun _ w' v w2=>eQ w2 (Nw (Cv S w.heap.size []) w' w2) v (-x)) (fun O w' r=>oa (Rel.old r hS) (hx.rel r hS)) ?_;rintro O Pg v1 PS r he hb hn;replace hw:=hw.tr hb;replace hy:=hy.cG (iv':=(Pg.heap.size,PS.heap.size)::[]) r hS he fun x hx=>List.mem_cons_of_mem _ hx;have hA:=hn.old r.cD;generalize (Pg.heap.size,PS.heap.size)::[]=OJ at*
  obtain⟨C0,C1,C2,C3,rfl⟩:=hA.shape;refine cO (Φ:=fun _ w' v w2=>eQ w2 (Nw (Cv S w.heap.size OJ) w' w2) v (-y)) (fun O w' r=>oa (Rel.old r hS) (hy.rel r hS)) ?_;rintro O Pn v2 PJ r he hb hn;replace hw:=hw.tr hb;replace hA:=hA.cG (iv':=(Pn.heap.size,PJ.heap.size)::OJ) r hS he fun x hx=>List.mem_cons_of_mem _ hx;have hB:=hn.old r.cD;generalize (Pn.heap.size,PJ.heap.size)::OJ=OG at*
  obtain⟨A0,A1,A2,A3,rfl⟩:=hB.shape;have hbA:=hA.nat.1;refine cF (cE hw (fun _ w' v w2=>v= .int .i64 (-x).sign) (fun O w' r=>Ah (hA.rel r hS)) ?_);rintro O _ _ _ ON r he hw h_ rfl;replace hA:=hA.cG r hS he (mC h_);replace hB:=hB.cG r hS he (mC h_);refine dK.mk ?_ ?_<;>intro h
  ·have h: -x=0:=Int.sign_eq_zero_iff_zero.1 (eq_of_beq h);refine cF (cE hw (fun _ w' v w2=>eQ w2 (Nf w' w2) v 1) (fun O w' r=>oe 1 w' (by decide) (by decide)) ?_);rintro O Qw v4 Qk OZ r he hw h_ hn;have hO:=hn.dB (S:=FF) r.cD (mN h_);obtain⟨E0,E1,E2,E3,rfl⟩:=hO.shape;have e0:Rat.divInt x y=0:=by rw[hq,h,zM]
   exact rtn hw fun ρe we re=>by rw[e0];exact dW.of ⟨_,rfl,eC.nil _ _⟩ (hO.out re (cC w))
  ·have h: -x≠0:=fun e=>by rw[e]at h;exact absurd h (by decide)
   obtain⟨g1,g2,g3⟩:=zL hyp h;have Sh:0<Nat.gcd (-x).natAbs (-y).natAbs:=bl _ (by omega);have VX:=hA.nat.2;have Te:=hB.nat.2;refine cF (cO (Φ:=fun _ w' v w2=>eC w2 (Nw (Cv S w.heap.size ON) w' w2) v (Nat.gcd (-x).natAbs (-y).natAbs)) (fun O w' r=>FZ (Rel.old r hS) (VX.rel r hS) (Te.rel r hS) (by omega) (by omega)) ?_);rintro O Qw v4 Qk r he hb hn;replace hw:=hw.tr hb;replace VX:=VX.cG (iv':=(Qw.heap.size,Qk.heap.size)::ON) r hS he fun x hx=>List.mem_cons_of_mem _ hx;replace Te:=Te.cG (iv':=(Qw.heap.size,Qk.heap.size)::ON) r hS he fun x hx=>List.mem_cons_of_mem _ hx;have hG:=hn.old r.cD;generalize (Qw.heap.size,Qk.heap.size)::ON=OZ at*
   obtain⟨E0,E1,E2,rfl⟩:=hG.shape;refine cF (cO (Φ:=fun _ w' v w2=>∃q r,v= .tuple #[q,r]∧eC w2 (Nf w' w2) q ((-x).natAbs / Nat.gcd (-x).natAbs (-y).natAbs)∧eC w2 (Nw (Cv S w.heap.size OZ) w' w2) r ((-x).natAbs % Nat.gcd (-x).natAbs (-y).natAbs)) (fun O w' r=>qQ (Rel.old r hS) (VX.rel r hS) (hG.rel r hS) Sh (by omega)) ?_);rintro O RY v5 RO r he hb ⟨qvp,rvp,rfl,RC,Sd⟩;replace hw:=hw.tr hb;replace Te:=Te.cG (iv':=(RY.heap.size,RO.heap.size)::OZ) r hS he fun x hx=>List.mem_cons_of_mem _ hx;replace hG:=hG.cG (iv':=(RY.heap.size,RO.heap.size)::OZ) r hS he fun x hx=>List.mem_cons_of_mem _ hx;have hP:=RC.dB (S:=FF) r.cD (iv:=(RY.heap.size,RO.heap.size)::OZ) aG;have hPr:=Sd.old r.cD;generalize (RY.heap.size,RO.heap.size)::OZ=PF at*
   obtain⟨s5_0a,s5_0b,s5_0c,rfl⟩:=hP.shape;obtain⟨s5_1a,s5_1b,s5_1c,rfl⟩:=hPr.shape;refine cF (cO (Φ:=fun _ w' v w2=>∃q r,v= .tuple #[q,r]∧eC w2 (Nf w' w2) q ((-y).natAbs / Nat.gcd (-x).natAbs (-y).natAbs)∧eC w2 (Nw (Cv S w.heap.size PF) w' w2) r ((-y).natAbs % Nat.gcd (-x).natAbs (-y).natAbs)) (fun O w' r=>qQ (Rel.old r hS) (Te.rel r hS) (hG.rel r hS) Sh (by omega)) ?_);rintro O RR v6 RZ r he hb ⟨qvq,rvq,rfl,RC,Sd⟩;replace hw:=hw.tr hb;replace hP:=hP.cG (iv':=(RR.heap.size,RZ.heap.size)::PF) r (cC w) he fun x hx=>List.mem_cons_of_mem _ hx;have hQ:=RC.dB (S:=FF) r.cD (iv:=(RR.heap.size,RZ.heap.size)::PF) aG;have hQr:=Sd.old r.cD;generalize (RR.heap.size,RZ.heap.size)::PF=Q2 at*
   obtain⟨s6_0a,s6_0b,s6_0c,rfl⟩:=hQ.shape;obtain⟨s6_1a,s6_1b,s6_1c,rfl⟩:=hQr.shape;exact rtn hw fun ρe we re=>by rw[hq];exact dW.of ⟨_,by rw[g3,<-hbA],by rw[g1];exact hP.out re (cC w)⟩ ⟨_,by rw[bL (by omega)],by rw[g2];exact hQ.out re (cC w)⟩
end Go.Ex
namespace Go.Ex
open Go Go.Sx
variable{a b:Int}
def rl(q:Rat):Nat:=max (ln q.num.natAbs) (ln q.den)
theorem fm(q:Rat):ln q.num.natAbs<=rl q:=Nat.le_max_left _ _
theorem Nq(q:Rat):ln q.den<=rl q:=Nat.le_max_right _ _
theorem fF(q:Rat):ln ((q.den:Int)).natAbs<=rl q:=Nat.le_max_right _ _
theorem jv(hb:b≠0):rl (Rat.divInt a b)<=max (ln a.natAbs) (ln b.natAbs):=by
 have h1:ln (Rat.divInt a b).num.natAbs<=ln a.natAbs:=by
  rw[Rat.num_divInt];refine fP (aX (Int.natAbs_ediv_le_natAbs _ _) ?_);rw[Int.natAbs_mul,Int.natAbs_sign_of_ne_zero hb,Nat.one_mul];exact aF _
 have h2:ln (Rat.divInt a b).den<=ln b.natAbs:=by
  rw[Rat.den_divInt,aJ hb];exact Io
 unfold rl;omega
theorem ie(x y:Int):ln (x+y).natAbs<=max (ln x.natAbs) (ln y.natAbs)+1:=by
 have h1:=Ni x.natAbs y.natAbs;have h2:=fP (show (x+y).natAbs<=x.natAbs+y.natAbs by omega);omega
theorem gK(q:Rat):(q.den:Int)≠0:=by have:=q.den_pos;omega
theorem td(f g:Rat):f+g=Rat.divInt (f.num*g.den+g.num*f.den) (f.den*g.den):=by
 rw[<-Rat.divInt_add_divInt _ _ (gK f) (gK g),Rat.num_divInt_den,Rat.num_divInt_den]
theorem yK(f g:Rat):f*g=Rat.divInt (f.num*g.num) (f.den*g.den):=by
 rw[<-Rat.divInt_mul_divInt,Rat.num_divInt_den,Rat.num_divInt_den]
theorem DB(f g:Rat):f / g=Rat.divInt (f.num*g.den) (f.den*g.num):=by
 rw[<-Rat.divInt_mul_divInt,Rat.num_divInt_den,<-Rat.inv_def,<-b9]
theorem jz(ha:a≠0)(hb:b≠0):a*b≠0:=Int.mul_ne_zero ha hb
theorem oM(f g:Rat):rl (f+g)<=rl f+rl g+1:=by
 have h:=jv (a:=f.num*g.den+g.num*f.den) (jz (gK f) (gK g));rw[<-td]at h;have h1:=ie (f.num*g.den) (g.num*f.den);have h2:=dA f.num g.den;have h3:=dA g.num f.den;have h4:=dA f.den g.den;have:=fm f;have:=fm g;have:=fF f;have:=fF g;omega
theorem jE(f g:Rat):rl (f*g)<=rl f+rl g:=by
 have h:=jv (a:=f.num*g.num) (jz (gK f) (gK g));rw[<-yK]at h;have h2:=dA f.num g.num;have h4:=dA f.den g.den;have:=fm f;have:=fm g;have:=fF f;have:=fF g;omega
theorem Ki(f:Rat){g:Rat}(hg:g≠0):rl (f / g)<=rl f+rl g:=by
 have h:=jv (a:=f.num*g.den) (jz (gK f) (fun e=>hg (Rat.num_eq_zero.1 e)));rw[<-DB]at h;have h2:=dA f.num g.den;have h4:=dA f.den g.num;have:=fm f;have:=fm g;have:=fF f;have:=fF g;omega
theorem lY(f:Rat):rl (-f)=rl f:=by unfold rl;rw[Rat.neg_num,Rat.neg_den,bz]
theorem z7(f g:Rat):rl (f-g)<=rl f+rl g+1:=by
 rw[Rat.sub_eq_add_neg];have:=oM f (-g);rw[lY]at this;exact this
def rs(q:Rat):Int:=q.num.sign
theorem te(hb:0<b):(Rat.divInt a b).num.sign=a.sign:=by
 by_cases ha:a=0
 ·subst ha;rw[zM];rfl
 ·obtain⟨h1,-,h3⟩:=zL hb ha;have h3:=decide_eq_decide.1 h3;have h0:(Rat.divInt a b).num≠0:=fun e=>by
   have h4:=Nat.div_pos (Nat.le_of_dvd (by omega) (Nat.gcd_dvd_left a.natAbs b.natAbs)) (bl a.natAbs (n:=b.natAbs) (by omega));omega
  rcases Int.lt_or_gt_of_ne ha with h|h
  ·rw[bf h,bf (h3.2 h)]
  ·rw[bj h,bj (by omega)]
theorem Md(f g:Rat):(f.num*g.den-g.num*f.den).sign=rs (f-g):=by
 rw[rs,Rat.sub_eq_add_neg,td,te (Int.mul_pos (by have:=f.den_pos;omega) (by rw[Rat.neg_den];have:=g.den_pos;omega)),Rat.neg_num,Rat.neg_den,Int.neg_mul,<-Int.sub_eq_add_neg]
def ratio(a b:Int):Rat:=if b=0 then Rat.divInt a 1 else Rat.divInt a b
theorem iK(a b:Int):rl (ratio a b)<=max (ln a.natAbs) (max 1 (ln b.natAbs)):=by
 unfold ratio;split
 ·have:=jv (a:=a) (b:=1) (by decide);have h1:ln (1:Int).natAbs=1:=by decide
  rw[h1]at this;omega
 ·rename_i h;have:=jv (a:=a) h;omega
end Go.Ex
