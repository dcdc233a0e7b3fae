/- Texts X10 to L5: lemmas, each with its conditions. -/
import Derived.Test.YtgkpbdkechfgmaaGreatP3
namespace Go.Ex
open Go Go.Sx Go.Proofs
variable{k n x:Nat}
def gz(n:Nat):Nat:=if n=0 then 0 else n.log2+1
theorem LR(h:2^k<=x):x.log2=(x / 2^k).log2+k:=by
 have hp:=bu k;have hy:x / 2^k≠0:=by have:=Nat.div_pos h hp;omega
 have h1:=Nat.log2_self_le hy;have h2:=@Nat.lt_log2_self (x / 2^k);rw[Nat.log2_eq_iff (by omega)];refine⟨?_,?_⟩
 ·rw[Nat.pow_add];exact(Nat.le_div_iff_mul_le hp).1 h1
 ·rw[show (x / 2^k).log2+k+1=(x / 2^k).log2+1+k by omega,Nat.pow_add];exact(Nat.div_lt_iff_lt_mul hp).1 h2
theorem Ak(h:2^k<=x):gz x=k+gz (x / 2^k):=by
 have hp:=bu k;have hy:x / 2^k≠0:=by have:=Nat.div_pos h hp;omega
 rw[gz,gz,aJ hy,aJ (by omega),LR h];omega
theorem y8(h:n<256):IntKind.u8.wrap (n:Int)=(n:Int):=by
 show((n:Int) % 256)=_;omega
theorem y9(h:n<256):(UInt8.ofNat (gz n)).toNat=gz n:=by
 have:∀n,n<256->(UInt8.ofNat (gz n)).toNat=gz n:=by decide +kernel
 exact this n h
theorem og(h:x<256):gz x<=8:=by
 have:∀n,n<256->gz n<=8:=by decide +kernel
 exact this x h
theorem IS(n:Nat)(h:n<256):(⟨#[0,1,2,2,3,3,3,3,4,4,4,4,4,4,4,4,5,5,5,5,5,5,5,5,5,5,5,5,5,5,5,5,6,6,6,6,6,6,6,6,6,6,6,6,6,6,6,6,6,6,6,6,6,6,6,6,6,6,6,6,6,6,6,6,7,7,7,7,7,7,7,7,7,7,7,7,7,7,7,7,7,7,7,7,7,7,7,7,7,7,7,7,7,7,7,7,7,7,7,7,7,7,7,7,7,7,7,7,7,7,7,7,7,7,7,7,7,7,7,7,7,7,7,7,7,7,7,7,8,8,8,8,8,8,8,8,8,8,8,8,8,8,8,8,8,8,8,8,8,8,8,8,8,8,8,8,8,8,8,8,8,8,8,8,8,8,8,8,8,8,8,8,8,8,8,8,8,8,8,8,8,8,8,8,8,8,8,8,8,8,8,8,8,8,8,8,8,8,8,8,8,8,8,8,8,8,8,8,8,8,8,8,8,8,8,8,8,8,8,8,8,8,8,8,8,8,8,8,8,8,8,8,8,8,8,8,8,8,8,8,8,8,8,8,8,8,8,8,8,8,8,8,8,8,8,8]⟩:ByteArray)[((n:Nat):Int).toNat]? =some (UInt8.ofNat (gz n)):=by
 have:∀n,n<256->(⟨#[0,1,2,2,3,3,3,3,4,4,4,4,4,4,4,4,5,5,5,5,5,5,5,5,5,5,5,5,5,5,5,5,6,6,6,6,6,6,6,6,6,6,6,6,6,6,6,6,6,6,6,6,6,6,6,6,6,6,6,6,6,6,6,6,7,7,7,7,7,7,7,7,7,7,7,7,7,7,7,7,7,7,7,7,7,7,7,7,7,7,7,7,7,7,7,7,7,7,7,7,7,7,7,7,7,7,7,7,7,7,7,7,7,7,7,7,7,7,7,7,7,7,7,7,7,7,7,7,8,8,8,8,8,8,8,8,8,8,8,8,8,8,8,8,8,8,8,8,8,8,8,8,8,8,8,8,8,8,8,8,8,8,8,8,8,8,8,8,8,8,8,8,8,8,8,8,8,8,8,8,8,8,8,8,8,8,8,8,8,8,8,8,8,8,8,8,8,8,8,8,8,8,8,8,8,8,8,8,8,8,8,8,8,8,8,8,8,8,8,8,8,8,8,8,8,8,8,8,8,8,8,8,8,8,8,8,8,8,8,8,8,8,8,8,8,8,8,8,8,8,8,8,8,8,8,8]⟩:ByteArray)[n]? =some (UInt8.ofNat (gz n)):=by decide +kernel
 exact this n h
theorem NA(x:Nat)(w:World)(hx:x<4294967296):eG PG N.AN #[.int .u32 x] w (eL w fun v _=>v= .int .i64 (gz x)):=by
 refine B6 (by simp) ?_;refine dN.mk ?_ ?_<;>intro h
 ·have h:65536<=x:=by have:=aI h;omega
  refine⟨by decide,((x / 2^16:Nat):Int),oh 16 (by decide),?_⟩;have hb:=Ak (k:=16) h;have hy:x / 2^16<65536:=by omega
  rw[hb];generalize x / 2^16=y at*
  refine dN.mk ?_ ?_<;>intro h2
  ·have h2:256<=y:=by have:=aI h2;omega
   refine⟨by decide,((y / 2^8:Nat):Int),oh 8 (by decide),?_⟩;have QW:=Ak (k:=8) h2;have hz:y / 2^8<256:=by omega
   rw[QW];generalize y / 2^8=z at*
   refine⟨24,by decide,(z:Int),y8 hz,?_⟩;refine rC (b:=UInt8.ofNat (gz z)) ((hτ _ _ rfl).i3 rfl) rfl rfl (by omega) (IS z hz) (fun ρ1 w1 r1=>?_);rw[y9 hz];have ht:=og hz;refine⟨(gz z:Int),wo,((24+gz z:Nat):Int),wo,?_⟩;intro ρ3 w3 r3;exact⟨_,rfl,r1.cU.tr r3.cU,by rw[<-Nat.add_assoc];rfl⟩
  ·have hy:y<256:=by have:=aH h2;omega
   refine⟨(y:Int),y8 hy,?_⟩;refine rC (b:=UInt8.ofNat (gz y)) ((hτ _ _ rfl).i3 rfl) rfl rfl (by omega) (IS y hy) (fun ρ1 w1 r1=>?_);rw[y9 hy];have ht:=og hy;refine⟨(gz y:Int),wo,((16+gz y:Nat):Int),wo,?_⟩;intro ρ3 w3 r3;exact⟨_,rfl,r1.cU.tr r3.cU,by rfl⟩
 ·have h:x<65536:=by have:=aH h;omega
  refine dN.mk ?_ ?_<;>intro h2
  ·have h2:256<=x:=by have:=aI h2;omega
   refine⟨by decide,((x / 2^8:Nat):Int),oh 8 (by decide),?_⟩;have QW:=Ak (k:=8) h2;have hz:x / 2^8<256:=by omega
   rw[QW];generalize x / 2^8=z at*
   refine⟨8,by decide,(z:Int),y8 hz,?_⟩;refine rC (b:=UInt8.ofNat (gz z)) ((hτ _ _ rfl).i3 rfl) rfl rfl (by omega) (IS z hz) (fun ρ1 w1 r1=>?_);rw[y9 hz];have ht:=og hz;refine⟨(gz z:Int),wo,((8+gz z:Nat):Int),wo,?_⟩;intro ρ3 w3 r3;exact⟨_,rfl,r1.cU.tr r3.cU,by rfl⟩
  ·have hx:x<256:=by have:=aH h2;omega
   refine⟨(x:Int),y8 hx,?_⟩;refine rC (b:=UInt8.ofNat (gz x)) ((hτ _ _ rfl).i3 rfl) rfl rfl (by omega) (IS x hx) (fun ρ1 w1 r1=>?_);rw[y9 hx];have ht:=og hx;refine⟨(gz x:Int),wo,((0+gz x:Nat):Int),wo,?_⟩;intro ρ3 w3 r3;exact⟨_,rfl,r1.cU.tr r3.cU,by rw[aW];rfl⟩
theorem yT:gz x<=k↔x<2^k:=by
 unfold gz;by_cases h:x=0
 ·rw[if_pos h,h];exact⟨fun _=>bu k,fun _=>aR _⟩
 ·rw[aJ h];constructor
  ·intro h1;exact(Nat.log2_lt h).1 (by omega)
  ·intro h1;have:=(Nat.log2_lt h).2 h1;omega
theorem aAL(x:Nat)(w:World)(hx:x<4294967296):eG PG N.kr #[.int .u32 x] w (eL w fun v _=>v= .int .i64 ((32-gz x:Nat):Int)):=by
 refine oe (by simp) ?_;refine cH (cM (Φ:=fun _ _ v _=>v= .int .i64 (gz x)) (fun O w' r=>NA x w' hx) ?_);rintro O w' v w2 r he hb rfl;have h32:gz x<=32:=yT.2 hx;refine⟨((32-gz x:Nat):Int),wo,?_⟩;intro ρ3 w3 r3;exact⟨_,rfl,hb.tr r3.cU,rfl⟩
end Go.Ex
namespace Go.Sx
open Go Go.Ex Go.Proofs
variable{ls:List Nat}{O:Nat->Sx.dw}
theorem Rel.LS{H:Hp}{nx:Nat}{iv:Iv}{B:Nat}{w w':World}(r:Rel H nx iv B w O w'){id t m:Nat}(h:dD H id=some (.vec t 1 (U ls)))(hm:m=ls.length)(Pv:Lm ls)(hle:ls.length<=9223372036854775807):
  dV w' (fun g=>B<=g∧g<w'.heap.size) ((At.w id m).den O) ls:=by
 subst hm;rcases r.vec id t 1 _ h with⟨hn,hu⟩|⟨hn,spare,hb,hc,QS⟩
 ·have hl:ls=[]:=by cases ls with
   |nil=>rfl
   |cons a b=>simp[U]at hu
  subst hl;have:(At.w id ([]:List Nat).length).den O= .slice none 0 0:=by simp[At.den,hn]
  rw[this];exact dV.nil _ _
 ·refine⟨Pv,hle,some ⟨(O id).g,0,none⟩,(O id).cap,by simp[At.den,hn],?_,fun j x hx=>⟨_,rfl,r.low id _ h hn,?_⟩⟩
  ·have h1:(U ls++spare).length=ls.length+spare.length:=by rw[List.length_append,gV]
   omega
  ·rw[dI,cell_of hb,aW,aK (by rw[gV];exact(aE.1 hx).1)];exact ub hx
end Go.Sx
namespace Go.Ex
open Go Go.Sx Go.Proofs
variable{ls:List Nat}{S:Nat->Prop}
theorem NB:PG.underlying T.nat=some (.slice T.uint32):=by
 have h:=(hτ T.nat _ rfl).i4 rfl;exact h
theorem IT{w:World}{v:Value}(hS:Old S w)(h:dV w S v ls)(hl:ls.length<=1000000000000):
  eG PG N.gK #[v] w (eL w fun v' w2=>dV w2 (Nf w w2) v' ls):=by
 obtain⟨x,rfl,rfl⟩:=h.la;refine jM (by simp) ?_;refine⟨x.a.isNone,fun O w1 o1 o2=>by simp[eqGuard,SV.den,At.den,kI (P:=PG) w1 T.nat T.uint32 x.a x.ls.length x.c 0 0 NB],?_⟩;refine dN.mk ?_ ?_<;>intro h
 ·intro ρ3 w3 r3;have hn:x.ls=[]:=by
   cases hx:x.ls with
   |nil=>rfl
   |cons u r=>
    obtain⟨ad,h1,_⟩:=x.cell 0 u (by rw[hx];rfl);rw[h1]at h;simp at h
  exact⟨_,rfl,r3.cU,by rw[hn];exact dV.nil _ _⟩
 ·refine .inl ?_;refine⟨U x.ls,by rw[gV,aZ],fun u hu=>by simp only[U,aV]at hu;obtain⟨n,_,rfl⟩:=hu;rfl,fun O w1 r h0=>?_,?_⟩
  ·obtain⟨u,hu⟩:∃q,x.ls[0]? =some q:=⟨_,aA h0⟩
   obtain⟨ad,Ox,_⟩:=x.cell 0 u hu;refine⟨ad,Ox,fun j u hu=>?_⟩;simp only[U,aM,Option.map_eq_some_iff]at hu;obtain⟨n,hn,rfl⟩:=hu;obtain⟨ad2,PY,hs,hc⟩:=x.cell j n hn;rw[Ox]at PY;injection PY with PY;subst PY;exact jY hS dq.refl r hs hc
  refine⟨rfl,by omega,by unfold maxLen;omega,?_⟩;intro ρ3 w3 r3;exact⟨_,rfl,r3.cU,(r3.LS (id:=1) rfl (aW _) x.lm x.le).cL fun g hg=>.inr hg⟩
end Go.Ex
namespace Go.Ex
open Go Go.Sx Go.Proofs
end Go.Ex
namespace Go.Sx
open Go Go.Ex Go.Proofs
variable{O:Nat->Sx.dw}
theorem Rel.cG{H:Hp}{nx:Nat}{iv:Iv}{B:Nat}{w w':World}(r:Rel H nx iv B w O w'):B<=w'.heap.size:=by have:=r.base;have:=r.size;omega
end Go.Sx
namespace Go.Ex
open Go Go.Sx Go.Proofs
end Go.Ex
namespace Go.Sx
open Go Go.Ex Go.Proofs
variable{ls:List Nat}{O:Nat->Sx.dw}
theorem Rel.ud{H:Hp}{nx:Nat}{iv:Iv}{B:Nat}{w w':World}(r:Rel H nx iv B w O w'){id t:Nat}(h:dD H id=some (.box t ((U ls).map At.v)))(Pv:Lm ls)(hle:ls.length<=9223372036854775807):
  dV w' (fun g=>g=(O id).g) (.slice (some ⟨(O id).g,0,none⟩) ls.length ls.length) ls:=by
 refine⟨Pv,hle,_,_,rfl,Nat.le_refl _,fun j x hx=>⟨_,rfl,rfl,?_⟩⟩;have h0:(⟨(O id).g,0,none⟩:Addr).add j=⟨(O id).g,j,none⟩:=by
  cases j with
  |zero=>rfl
  |succ j=>simp[Addr.add]
 rw[h0,cell_of (r.box id t _ h),fw];exact ub hx
end Go.Sx
namespace Go.Ex
open Go Go.Sx Go.Proofs
variable{ds r2:List Nat}{g k:Nat}{row:Option Nat}
section
variable{S:Nat->Prop}{H:Hp}{nx:Nat}{iv iv':Iv}{B:Nat}{w w' w2:World}{O:Nat->Sx.dw}{v:Value}{n:Nat}{ls:List Nat}
theorem Nw.dF(h:Nf w' w2 g)(hB:B<=w'.heap.size)(hm:(w'.heap.size,w2.heap.size)∈iv):Cv S B iv g:=by
 rcases h with h|h
 ·cases h
 ·exact .inr ⟨by omega,_,_,hm,h.1,h.2⟩
theorem eC.dF(h:eC w2 (Nf w' w2) v n)(hB:B<=w'.heap.size)(hm:(w'.heap.size,w2.heap.size)∈iv):eC w2 (Cv S B iv) v n:=h.cL fun _ hg=>hg.dF hB hm
theorem dV.dF(h:dV w2 (Nf w' w2) v ls)(hB:B<=w'.heap.size)(hm:(w'.heap.size,w2.heap.size)∈iv):dV w2 (Cv S B iv) v ls:=h.cL fun _ hg=>hg.dF hB hm
theorem eC.rel(h:eC w (Cv S B iv) v n)(r:Rel H nx iv B w O w')(hS:∀g,S g->g<B):eC w' (Cv S B iv) v n:=h.cJ fun _ hg=>Rel.same r hS hg
theorem eC.cK(h:eC w (Cv S B iv) v n)(r:Rel H nx iv B w O w')(hS:∀g,S g->g<B)(he:Ext w' w2)(hm:∀p,p∈iv->p∈iv'):eC w2 (Cv S B iv') v n:=
 ((h.rel r hS).cJ fun g hg=>he.block g (Rel.old r hS g hg)).cL fun _ hg=>hg.mono hm
theorem dV.trimmed(h:dV w S v (eA ls)):eC w S v (val ls):=⟨_,h,(fJ ls).2.1,(fJ ls).1⟩
end
theorem IU{w:World}{m c:Nat}{rs:List Nat}(hg:w.heap[g]? =some (.cells (U rs).toArray T.uint32 (0,0)))(Pv:Lm rs)(h:k+m<=rs.length)(hc:m<=c)(hl:rs.length<=1000000000000):
  dV w (fun x=>x=g) (.slice (some ⟨g,k,none⟩) m c) ((rs.drop k).take m):=by
 have hlen:((rs.drop k).take m).length=m:=by simp;omega
 refine⟨(Pv.drop k).take m,by omega,some ⟨g,k,none⟩,c,by rw[hlen],by omega,fun j x hx=>⟨_,rfl,rfl,?_⟩⟩;have hj:j<m:=by have:=(aE.1 hx).1;omega
 rw[bV hj,List.getElem?_drop]at hx;rw[dI,cell_of hg];exact ub hx
theorem Dd{c:Nat}(h:k<c):(if (c:Int)=(k:Int)then some (⟨g,0,none⟩:Addr)else(some (⟨g,0,none⟩:Addr)).map fun x=>x.add ((k:Int).toNat*1))=some ⟨g,k,none⟩:=by
 rw[aJ (by omega),bf,aF,aZ,dI,aW]
theorem ff{a b c:World}(h:a.grownBy b row)(k:b.grownBy c row):a.grownBy c row:=
 ⟨k.os.trans h.os,k.tape.trans h.tape,k.output.trans h.output,aX h.size k.size,fun j hj OY=>(k.block j (by have:=h.size;omega) OY).trans (h.block j hj OY)⟩
theorem mc{a b:World}(h:dq a.heap.size a b):a.grownBy b row:=⟨h.os,h.tape,h.output,h.size,fun j hj _=>h.block j hj⟩
theorem NC(rs:List Nat)(k m:Nat):(U rs).take k++List.replicate m (Value.int .u32 0)++(U rs).drop (k+m)=U (rs.take k++List.replicate m 0++rs.drop (k+m)):=by
 simp[U]
theorem aAM(rs ds:List Nat)(k:Nat):(U rs).take k++U ds++(U rs).drop (k+(U ds).length)=U (rs.take k++ds++rs.drop (k+ds.length)):=by
 simp[U]
theorem JT{rs:List Nat}{m:Nat}(hk:k+m<=rs.length)(hd:ds.length<=m){r1:List Nat}(h1:r1=rs.take k++List.replicate m 0++rs.drop (k+m))(h2:r2=r1.take k++ds++r1.drop (k+ds.length)):
  r2=rs.take k++(ds++List.replicate (m-ds.length) 0)++rs.drop (k+m):=by
 have Vz:(rs.take k).length=k:=by simp;omega
 have h3:r1.take k=rs.take k:=by rw[h1,bj,List.take_append_of_le_length (by omega),List.take_of_length_le (by omega)]
 have h4:r1.drop (k+ds.length)=List.replicate (m-ds.length) 0++rs.drop (k+m):=by
  rw[h1,bj,List.drop_append,Vz,List.drop_of_length_le (by omega),List.nil_append,Nat.add_sub_cancel_left,List.drop_append_of_le_length (by simpa using hd),List.drop_replicate]
 rw[h2,h3,h4];simp
theorem JU{rs:List Nat}{m:Nat}(hk:k+m<=rs.length)(hd:ds.length<=m)(Pv:Lm rs)(Qr:Lm ds)(h:r2=rs.take k++(ds++List.replicate (m-ds.length) 0)++rs.drop (k+m)):
  r2.length=rs.length∧Lm r2∧r2.take k=rs.take k∧r2.drop (k+m)=rs.drop (k+m)∧val ((r2.drop k).take m)=val ds:=by
 have Vz:(rs.take k).length=k:=by simp;omega
 have S3:(ds++List.replicate (m-ds.length) 0).length=m:=by simp;omega
 have RW:r2.drop k=(ds++List.replicate (m-ds.length) 0)++rs.drop (k+m):=by
  rw[h,bj,List.drop_append,Vz,List.drop_of_length_le (by omega),List.nil_append,bK,List.drop_zero]
 refine⟨by rw[h,List.length_append,List.length_append,Vz,S3];simp;omega,?_,?_,?_,?_⟩
 ·rw[h];exact((Pv.take k).append (Qr.append (Lm.replicate _))).append (Pv.drop _)
 ·rw[h,bj,List.take_append_of_le_length (by omega),List.take_of_length_le (by omega)]
 ·rw[<-List.drop_drop,RW,List.drop_append,S3,List.drop_of_length_le (by omega),List.nil_append,bK,List.drop_zero]
 ·rw[RW,List.take_append_of_le_length (by omega),List.take_of_length_le (by omega),lQ,mq];simp
theorem De{S:Nat->Prop}{w:World}{vd:Value}{D g k q:Nat}{rs:List Nat}(hS:Old S w)(hgS:¬S g)(hd:eC w S vd D)(hg:w.heap[g]? =some (.cells (U rs).toArray T.uint32 (0,0)))(Pv:Lm rs)
  (hk:k+ln D+1<=rs.length) (hl:rs.length<=1000000000000) (hq:q<4294967296):
  eG PG N.qS #[.slice (some ⟨g,0,none⟩) rs.length rs.length,vd,.int .i64 k,.int .u64 q] w (fun e w2=>
   (val ((rs.drop k).take (ln D+1))<q*D∧e= .returned (.bool false)∧dq w.heap.size w w2)∨
   (q*D<=val ((rs.drop k).take (ln D+1))∧e= .returned (.bool true)∧w.grownBy w2 (some g)∧∃rs',rs'.length=rs.length∧Lm rs'∧rs'.take k=rs.take k∧rs'.drop (k+ln D+1)=rs.drop (k+ln D+1)∧
    val ((rs'.drop k).take (ln D+1))=val ((rs.drop k).take (ln D+1))-q*D∧w2.heap[g]? =some (.cells (U rs').toArray T.uint32 (0,0)))):=by
 have hgB:=kN hg;have hnD:=hd;obtain⟨p,rfl,Qw,Q6⟩:=hd.la;have Pb:=eU p.lm Q6;rw[Qw]at Pb;generalize hn:ln D=n at*
 have hSB:=hS;refine ua (by simp) ?_;refine⟨(q:Int),by rw[fT,bO hq],?_⟩;refine gN (Φ:=fun O _ v w2=>dV w2 (fun g=>g=(O 0).g) v (eA [q])) (H':=[]) 0 rfl (by simp) trivial rfl (fun O w' r=>r.nn 0 _ rfl (by intros;simp) (by simp)) (fun O w' r=>?_) ?_
 ·have hL:=r.ud (id:=0) (ls:=[q]) rfl (by intro x hx;simp at hx;omega) (by simp);exact fZ (fun g hg=>by rw[hg];exact(r.low 0 _ rfl (r.nn 0 _ rfl (by intros;simp) (by simp))).2) hL
 rintro O w1 v1 w2 r he hw hL;have Oa:=r.low 0 _ rfl (r.nn 0 _ rfl (by intros;simp) (by simp));have hs:=he.size;generalize (O 0).g=g0 at*
 have Um:eC w2 (Cv S w.heap.size [(g0,g0+1),(w1.heap.size,w2.heap.size)]) v1 q:=by
  have:=hL.trimmed;simp only[val,Nat.mul_zero,cD]at this;exact this.cL fun k hk=>.inr ⟨by omega,g0,g0+1,by simp,by omega,by omega⟩
 have VH:eC w2 (Cv S w.heap.size [(g0,g0+1),(w1.heap.size,w2.heap.size)]) (.slice p.a p.ls.length p.c) D:=
  (hnD.cJ fun g hg=>hw.block g (hS g hg)).cL fun _ hg=>.inl hg
 generalize [(g0,g0+1),(w1.heap.size,w2.heap.size)]=iv at*
 refine cH (cE hw (fun _ w' v w2=>eC w2 (Nf w' w2) v (q*D)) (fun O w' r=>IV (Rel.old r hS) (Um.rel r hS) (VH.rel r hS) (aX (gT.2 (show q<wt 1 from hq)) (by decide)) (by omega)) ?_);rintro O w3 _ _ iv r he hw h_ hm;have UR:=hm.dF (S:=S) r.cG (mN h_);refine⟨((k+n:Nat):Int),wo,((k+n+1:Nat):Int),wo,⟨by omega,by omega,by omega⟩,some ⟨g,k,none⟩,n+1,rs.length-k,Dd (by omega),by omega,by omega,?_⟩;have hplen:((rs.drop k).take (n+1)).length=n+1:=by simp;omega
 have hplm:Lm ((rs.drop k).take (n+1)):=(Pv.drop k).take _;generalize Rd:(rs.drop k).take (n+1)=part at*
 refine cH (cE hw (fun _ w' v w2=>dV w2 (Nf w' w2) v part) (fun O w' r=>?_) ?_)
 ·have h1:=IU (k:=k) (m:=n+1) (c:=rs.length-k) (w:=w') (by rw[(hw.tr r.cU).block g hgB];exact hg) Pv (by omega) (by omega) hl;rw[Rd]at h1;exact IT (fun x hx=>by rw[hx];have:=(hw.tr r.cU).size;omega) h1 (by omega)
 rintro O _ _ _ iv r he hw h_ hL;have hpL:=hL.dF (S:=S) r.cG (mN h_);replace UR:=UR.cK r hS he (mC h_);refine cH (cM (Φ:=fun _ w' v w2=>dV w2 (Cv S w.heap.size iv) v (eA part)) (fun O w' r=>fZ (Rel.old r hS) (dV.rel hpL r hS)) ?_);rintro O w7 v4 w8 r he hb hL;replace hw:=hw.tr hb;have hpN:=hL.trimmed.cL (S':=Cv S w.heap.size ((w7.heap.size,w8.heap.size)::iv)) fun _ hg=>hg.cons;replace UR:=UR.cK (iv':=(w7.heap.size,w8.heap.size)::iv) r hS he fun x hx=>aC _ hx;generalize (w7.heap.size,w8.heap.size)::iv=iv at*
 refine cH (cE hw (fun _ _ v _=>v= .int .i64 (ss (val part) (q*D))) (fun O w' r=>LU (Rel.old r hS) (hpN.rel r hS) (UR.rel r hS)) ?_);rintro O _ _ _ iv r he hw h_ rfl;replace hpN:=hpN.cK r hS he (mC h_);replace UR:=UR.cK r hS he (mC h_);refine dN.mk ?_ ?_<;>intro h
 ·have h:val part<q*D:=by
   have:=aI h;unfold ss at this;split at this
   ·assumption
   ·split at this<;>omega
  intro ρ3 w3 r3;exact .inl ⟨h,rfl,hw.tr r3.cU⟩
 have h:q*D<=val part:=by
  have:=aH h;unfold ss at this;split at this
  ·omega
  ·omega
 have hPl:ln (val part)<=n+1:=by rw[gT,<-hplen];exact oL hplm
 refine cH (cE hw (fun _ w' v w2=>eC w2 (Nf w' w2) v (val part-q*D)) (fun O w' r=>Df (Rel.old r hS) (hpN.rel r hS) (UR.rel r hS) h (by omega)) ?_);rintro O _ v6 _ iv r he hw h_ hm;have Wa:=hm.dF (S:=S) r.cG (mN h_);refine⟨((k+n:Nat):Int),wo,((k+n+1:Nat):Int),wo,⟨by omega,by omega,by omega⟩,some ⟨g,k,none⟩,n+1,rs.length-k,Dd (by omega),by omega,by omega,?_⟩;refine Ij hτ (cs:=U rs) (by rfl) (by rfl) (by rfl) (by omega) (fun O w' r=>⟨by rw[(hw.tr r.cU).block g hgB];exact hg,fun id b hb=>by cases hb⟩) (by rw[gV];omega) (fun O w13 w14 r hh Ot PH=>?_);rw[NC]at hh;have hgw:w.grownBy w14 (some g):=ff (mc (hw.tr r.cU)) Ot;replace Wa:eC w14 (Cv S w.heap.size iv) v6 (val part-q*D):=(Wa.rel r hS).cJ fun x hx=>Ot.block x (Rel.old r hS x hx) fun e=>by
  injection e with e;subst e;rcases hx with hx|hx
  ·exact hgS hx
  ·omega
 obtain⟨rl,rfl,SG,SH⟩:=Wa.la;have Pm:=eU rl.lm SH;rw[SG]at Pm;have hrn:rl.ls.length<=n+1:=by rw[Pm];exact aX (fX (Nat.sub_le _ _)) hPl
 generalize hr1d:rs.take k++List.replicate (n+1) 0++rs.drop (k+(n+1))=r1 at*
 refine⟨⟨by omega,by omega,by omega⟩,some ⟨g,k,none⟩,rs.length-k,rs.length-k,Dd (by omega),by omega,by omega,?_⟩;have hr1l:r1.length=rs.length:=by rw[<-hr1d];simp;omega
 have hw14:w.heap.size<=w14.heap.size:=hgw.size;refine KJ hτ (tg:=T.uint32) (cs:=U r1) (ds:=U rl.ls) (by rfl) (by rfl) (by rfl) (by rfl) (fun O w' r=>⟨?_,fun id b hb=>by cases hb⟩) (fun O w' r=>⟨rl.a,rl.c,by rw[gV];rfl,fun j u hu=>?_⟩) (by rw[gV];omega) (by rw[gV,gV];omega)
  (fun u hu=>by simp only[U,aV]at hu;obtain⟨n,_,rfl⟩:=hu;rfl) (fun O w15 w16 r hh2 Ot PH=>?_)
 ·rw[r.qd.block g (by omega) (by simp)];exact hh
 ·simp only[U,aM,Option.map_eq_some_iff]at hu;obtain⟨m,hm,rfl⟩:=hu;obtain⟨ad,h1,h2,h3⟩:=rl.cell j m hm;exact⟨ad,h1,(cI (w:=w14) (a:=ad.add j) (by rw[dC];exact Rel.same r hS h2)).trans h3⟩
 rw[aAM]at hh2;have hgw2:w.grownBy w16 (some g):=ff (ff hgw (by have:=r.qd;exact⟨this.os,this.tape,this.output,this.size,fun j hj _=>this.block j hj (by simp)⟩)) Ot;obtain⟨o1,o2,o3,o4,o5⟩:=JU (rs:=rs) (ds:=rl.ls) (k:=k) (m:=n+1) (by omega) hrn Pv rl.lm (JT (by omega) hrn hr1d.symm rfl);generalize r1.take k++rl.ls++r1.drop (k+rl.ls.length)=r2 at*
 intro ρ3 w17 r3;refine .inr ⟨h,rfl,ff hgw2 (by have:=r3.qd;exact⟨this.os,this.tape,this.output,this.size,fun j hj _=>this.block j hj (by simp)⟩),r2,o1,o2,o3,o4,by rw[o5,SG],?_⟩;rw[r3.qd.block g (by have:=hgw2.size;omega) (by simp)];exact hh2
end Go.Ex
namespace Go.Ex
open Go Go.Sx Go.Proofs
end Go.Ex
namespace Go.Sx
open Go Go.Ex Go.Proofs
variable{O:Nat->Sx.dw}
theorem Rel.Nx{nx:Nat}{iv:Iv}{B:Nat}{w w' w2:World}(r:Rel [] nx iv B w O w')(h:w'.heap.size<=w2.heap.size):Rel [] nx [] B w2 O w2:=
 r.Bw h (fun id b h=>by cases h) fun lo hi h=>by cases h
end Go.Sx
namespace Go.Ex
open Go Go.Sx Go.Proofs
variable{O:Nat->Sx.dw}
theorem LV{P D low high dlow dtop W:Nat}(hP:P=low+W*high)(hD:D=dlow+W*dtop)(Oa:low<W)(TW:0<dtop)(hPD:P<4294967296*D):P / D<=min (high / dtop) 4294967295:=by
 have hW:0<W:=by omega
 have hD0:0<D:=by have:=Nat.mul_pos hW TW;omega
 have h1:P / D<4294967296:=(Nat.div_lt_iff_lt_mul hD0).2 (by rw[bT]at hPD;omega);have h2:P / D<=high / dtop:=by
  rw[Nat.le_div_iff_mul_le TW];have h3:=Nat.div_mul_le_self P D;generalize P / D=Q at*
  have h4:W*(Q*dtop)<=Q*D:=by
   rw[hD,Nat.mul_left_comm,bX];omega
  have h5:W*(Q*dtop)<W*(high+1):=by
   rw[bX];omega
  have:=Nat.lt_of_mul_lt_mul_left h5;omega
 omega
theorem IW{H:Hp}{nx:Nat}{iv:Iv}{w w1 w':World}{g i x:Nat}{rs:List Nat}(hg:w.heap[g]? =some (.cells (U rs).toArray T.uint32 (0,0)))(hw:dq w.heap.size w w1)(r:Rel H nx iv w.heap.size w1 O w')(hx:rs[i]? =some x):
  w'.cell? ((⟨g,0,none⟩:Addr).add ((i:Int).toNat*1))=some (.int .u32 x):=by
 rw[aF,aZ,dI,aW,cell_of (by rw[(hw.tr r.cU).block g (kN hg)];exact hg)];exact ub hx
theorem ND{S:Nat->Prop}{w:World}{vd:Value}{D g k:Nat}{rs:List Nat}(hS:Old S w)(hgS:¬S g)(hd:eC w S vd D)(hD:0<D)(hg:w.heap[g]? =some (.cells (U rs).toArray T.uint32 (0,0)))(Pv:Lm rs)
  (hk:k+ln D+1<=rs.length) (hl:rs.length<=1000000000000) (hPD:val ((rs.drop k).take (ln D+1))<4294967296*D):
  eG PG N.pL #[.slice (some ⟨g,0,none⟩) rs.length rs.length,vd,.int .i64 k] w (fun e w2=>
   e= .returned (.int .u32 ((val ((rs.drop k).take (ln D+1)) / D:Nat):Int))∧w.grownBy w2 (some g)∧∃rs',rs'.length=rs.length∧Lm rs'∧rs'.take k=rs.take k∧rs'.drop (k+ln D+1)=rs.drop (k+ln D+1)∧
    val ((rs'.drop k).take (ln D+1))=val ((rs.drop k).take (ln D+1)) % D∧w2.heap[g]? =some (.cells (U rs').toArray T.uint32 (0,0))):=by
 have hgB:=kN hg;have hnD:=hd;obtain⟨p,rfl,Qw,Q6⟩:=hd.la;have Pb:=eU p.lm Q6;rw[Qw]at Pb;have RM:=fun(w':World) (q:Nat)=>@De S w' (.slice p.a p.ls.length p.c) D g k q rs;generalize hn:ln D=n at*
 obtain⟨t,rfl⟩:∃t,n=t+1:=by
  cases n with
  |zero=>
   have:D<wt 0:=gT.1 (by omega);rw[j9]at this;omega
  |succ t=>exact⟨t,rfl⟩
 obtain⟨dt,TW⟩:∃q,p.ls[t]? =some q:=⟨_,aA (by omega)⟩
 have hdt0:0<dt:=by
  have:=Q6 dt (by rw[List.getLast?_eq_getElem?,Pb];exact TW);omega
 obtain⟨a,ha⟩:∃q,rs[k+t+1]? =some q:=⟨_,aA (by omega)⟩
 obtain⟨b,hb⟩:∃q,rs[k+t]? =some q:=⟨_,aA (by omega)⟩
 have ha32:=Pv.at ha;have VE:=Pv.at hb;have XN:=p.lm.at TW;generalize hP:val ((rs.drop k).take (t+1+1))=P at*
 have hguess:P / D<=min ((a*4294967296+b) / dt) 4294967295:=by
  refine LV (low:=val ((rs.drop k).take t)) (W:=wt t) (dlow:=val (p.ls.take t)) ?_ ?_ ?_ hdt0 hPD
  ·rw[<-hP,dh (x:=a) (by rw[List.getElem?_drop];exact ha),dh (x:=b) (by rw[List.getElem?_drop];exact hb),jQ,bX,bT 4294967296 (wt t),bg,bT a];omega
  ·rw[<-Qw,<-dh TW,List.take_of_length_le (by omega)]
  ·have h1:=oL ((Pv.drop k).take t);have:((rs.drop k).take t).length=t:=by simp;omega
   rwa [this]at h1
 refine so (by simp) ?_;refine⟨(t:Int),wo,?_⟩;refine cQ hτ dx [.x 0,.x 1,.x 2,.x 3,.x 4,.x 5,.x 6,.x 7,.x 8,.x 9,.x 10,.x 11,.x 12,.x 13,.x 14,.x 15,.x 16,.x 17] (by kernel_rfl) (by kernel_rfl) ?_;refine⟨((k+t:Nat):Int),wo,((k+t+1:Nat):Int),wo,_,rfl,by omega,.int .u32 a,fun O w' r=>IW hg dq.refl r ha,(a:Int),eh (by omega),by decide,((a*2^32:Nat):Int),Dh (k:=32) (by decide) (by omega),((k+t:Nat):Int),wo,_,rfl,by omega,.int .u32 b,fun O w' r=>IW hg dq.refl r hb,(b:Int),eh (by omega),?_⟩;have Uk:a*2^32 ||| b=a*4294967296+b:=by
  rw[Nat.or_comm,bT,Di (k:=32) VE];omega
 refine⟨((a*4294967296+b:Nat):Int),by rw[LW (by omega) (by omega),Uk],?_⟩;have hh64:a*4294967296+b<18446744073709551616:=by omega
 generalize a*4294967296+b=high at*
 obtain⟨ad,Ox,Oy⟩:=p.load hS (dq.refl (w:=w)) TW;refine⟨ad,Ox,by omega,.int .u32 dt,Oy _ _ _,(dt:Int),eh (by omega),by omega,((high / dt:Nat):Int),LX hh64,?_⟩;conv=>whnf
 rw[show min ((high / dt:Nat):Int) 4294967295=((min (high / dt) 4294967295:Nat):Int) by omega];have hm32:min (high / dt) 4294967295<=4294967295:=Nat.min_le_right _ _;generalize min (high / dt) 4294967295=q0 at*
 have hQD:=Nat.div_mul_le_self P D;have hQl:∀q,q*D<=P->P / D<=q->q=P / D:=fun q h1 h2=>aU ((Nat.le_div_iff_mul_le hD).2 h1) h2;have hmod:P % D=P-P / D*D:=by have:=Nat.div_add_mod P D;rw[bT]at this;omega
 refine⟨Nat×World,fun z=>⟨[(0,.o (.v (.slice (some ⟨g,0,none⟩) rs.length rs.length))),(1,sV p.a p.ls.length p.c),(2,iZ k),(9,.o (.v (.int .u64 z.1)))],[],0,[],z.2⟩,fun z=>z.1,
  fun z=>dq w.heap.size w z.2∧P / D<=z.1∧z.1<=4294967295,?_,?_⟩
 ·intro O w' r;exact⟨(q0,w'),⟨r.cU,hguess,hm32⟩,Sub.reset r ⟨rfl,rfl,rfl,rfl,trivial⟩ ⟨trivial,trivial,trivial,trivial,trivial⟩⟩
 ·rintro⟨q,w1⟩ ⟨hw,Rl,Qb⟩;dsimp only at hw Rl Qb ⊢;conv=>whnf
  refine⟨fun O w2 r=>(RM w2 q (fun x hx=>by have:=hS x hx;have:=(hw.tr r.cU).size;omega) hgS (hnD.cJ fun x hx=>(hw.tr r.cU).block x (hS x hx)) (by rw[(hw.tr r.cU).block g hgB];exact hg) Pv hk hl (by omega)).mono fun e w3 he=>?_⟩;rcases he with⟨h,rfl,hb3⟩|⟨h,rfl,Ot,rs',e1,e2,e3,e4,e5,e6⟩
  ·have hw3:dq w.heap.size w w3:=(hw.tr r.cU).tr (hb3.cU r.cG);refine⟨.bool false,[],[],rfl,r.Nx hb3.size,?_⟩;have St:P / D<q:=by
    refine Nat.lt_of_le_of_ne Rl fun e=>?_;rw[e]at hQD;omega
   have hq4:0<q:=Nat.lt_of_le_of_lt (aR _) St;have hq5:P / D<=q-1:=Nat.le_sub_one_of_lt St;refine⟨((q-1:Nat):Int),by rw[yO]<;>omega,?_⟩;intro ρ4 w4 r4;exact⟨(q-1,w4),⟨hw3.tr r4.cU,hq5,by dsimp only;omega⟩,Sub.reset r4 ⟨rfl,rfl,rfl,rfl,trivial⟩ ⟨trivial,trivial,trivial,trivial,trivial⟩,by dsimp only;omega⟩
  ·have hgw:w.grownBy w3 (some g):=ff (mc (hw.tr r.cU)) Ot;refine⟨.bool true,[],[],rfl,r.Nx Ot.size,?_⟩;have hq:=hQl q h Rl;subst hq;refine⟨((P / D:Nat):Int),by rw[fT,bO (by omega)],?_⟩;intro ρ4 w4 r4;refine⟨rfl,ff hgw (by have:=r4.qd;exact⟨this.os,this.tape,this.output,this.size,fun j hj _=>this.block j hj (by simp)⟩),rs',e1,e2,e3,e4,by rw[e5,hmod],?_⟩;rw[r4.qd.block g (by have:=hgw.size;omega) (by simp)];exact e6
end Go.Ex
namespace Go.Ex
variable{ms:List Nat}
theorem JH{t dt:Nat}(Pv:Lm ms)(hl:ms.length=t+1)(TW:ms[t]? =some dt)(h0:0<dt):32-gz dt<32∧ln (val ms*2^(32-gz dt))=t+1:=by
 have VD:0<gz dt:=by
  rcases bN (gz dt)with h|h
  ·have:=yT.1 (Nat.le_of_eq h);simp at this;omega
  ·exact h
 have VE:gz dt<=32:=yT.2 (Pv.at TW);have PF:=yT.1 (Nat.le_refl (gz dt));have hv:val ms=val (ms.take t)+wt t*dt:=by rw[<-dh TW,List.take_of_length_le (by omega)]
 have Oa:=oL (Pv.take t);have hltk:(ms.take t).length=t:=by simp;omega
 rw[hltk]at Oa;have hw:=zD t;refine⟨by omega,aU ?_ ?_⟩
 ·rw[gT];have h1:val ms<wt t*2^gz dt:=by
   have:wt t*(dt+1)<=wt t*2^gz dt:=bW _ PF;rw[bX]at this;omega
  have h2:=Nat.mul_lt_mul_of_pos_right h1 (bu (32-gz dt));rw[bg,<-Nat.pow_add,Nat.add_sub_cancel' VE]at h2;rw[jQ,bT 4294967296];exact h2
 ·refine Nat.lt_of_not_le fun h=>?_;have h1:=gT.1 h;have h2:val ms*1<=val ms*2^(32-gz dt):=bW _ (bu _);have h3:wt t*1<=wt t*dt:=bW _ h0;omega
theorem FA{rs:List Nat}{D N k:Nat}(Pv:Lm rs)(hDN:D<wt N)(hk:k+N+1<=rs.length)(h:val rs<wt (k+1)*D):
  val (rs.drop (k+N+1))=0∧val (rs.drop k)=val ((rs.drop k).take (N+1))∧val ((rs.drop k).take (N+1))<4294967296*D:=by
 obtain⟨x,hx⟩:∃q,rs[k]? =some q:=⟨_,aA (by omega)⟩
 have QZ:=Pv.at hx;have h1:=fC rs (k+1) (by omega);have h2:val (rs.drop (k+1))<D:=Nat.lt_of_mul_lt_mul_left (a:=wt (k+1)) (by omega);have h3:=fC (rs.drop (k+1)) N (by simp;omega);rw[List.drop_drop,show k+1+N=k+N+1 by omega]at h3;have h4:val (rs.drop (k+N+1))=0:=by
  rcases bN (val (rs.drop (k+N+1)))with h|h
  ·exact h
  ·have:=bW (wt N) h;omega
 have h5:=fC (rs.drop k) (N+1) (by simp;omega);rw[List.drop_drop,show k+(N+1)=k+N+1 by omega,h4,Nat.mul_zero,cD]at h5;have h6:=j2 hx;exact⟨h4,h5,by omega⟩
theorem Kj{rs rs' out:List Nat}{D N k P V:Nat}(hD:0<D)(Pv:Lm rs)(hlen:rs'.length=rs.length)(hDN:D<wt N)(hk:k+N+1<=rs.length)(h:val rs<wt (k+1)*D)(hV:V=wt (k+1)*(D*val (out.drop (k+1)))+val rs)
  (hP:val ((rs.drop k).take (N+1))=P) (h1:rs'.take k=rs.take k) (h2:rs'.drop (k+N+1)=rs.drop (k+N+1)) (h3:val ((rs'.drop k).take (N+1))=P % D) (ho:k<out.length):
  val rs'<wt k*D∧V=wt k*(D*val ((out.set k (P / D)).drop k))+val rs':=by
 obtain⟨a1,a2,a3⟩:=FA Pv hDN hk h;have b1:=fC rs k (by omega);have b2:=fC rs' k (by omega);have b3:=fC (rs'.drop k) (N+1) (by simp;omega);rw[List.drop_drop,show k+(N+1)=k+N+1 by omega,h2,a1,Nat.mul_zero,cD,h3]at b3;rw[h1,b3]at b2;rw[a2,hP]at b1;have b4:=oL (Pv.take k);have b5:(rs.take k).length=k:=by simp;omega
 rw[b5]at b4;have b6:=cC P hD;have b7:(out.set k (P / D))[k]? =some (P / D):=by rw[aQ ho]
 have b8:=Nat.div_add_mod P D;refine⟨?_,?_⟩
 ·have:wt k*(P % D+1)<=wt k*D:=bW _ b6;rw[bX]at this;omega
 ·rw[j2 b7,List.drop_set_of_lt (show k<k+1 by omega),hV,b1,b2,jQ];generalize val (out.drop (k+1))=o;have c1:wt k*P=wt k*(D*(P / D))+wt k*(P % D):=by rw[<-bX,b8]
  have c2:4294967296*wt k*(D*o)=wt k*(D*(4294967296*o)):=by
   rw[bT 4294967296,bg,Nat.mul_left_comm 4294967296]
  rw[c1,c2,bX D,bX (wt k)];omega
theorem JI{n m b:Nat}(hm:0<m)(Ty:m<=n):n*2^b<wt (ln n+1-ln m)*(m*2^b):=by
 have h1:=lS n;have h2:=fX Ty;have h3:wt (ln m-1)<=m:=by
  refine Nat.le_of_not_lt fun h=>?_;have:=gT.2 h;have h4:0<ln m:=by
   rcases bN (ln m)with h|h
   ·have:=gT.1 (Nat.le_of_eq h);rw[j9]at this;omega
   ·exact h
  omega
 have h4:0<ln m:=by
  rcases bN (ln m)with h|h
  ·have:=gT.1 (Nat.le_of_eq h);rw[j9]at this;omega
  ·exact h
 have h5:wt (ln n)<=wt (ln n+1-ln m)*m:=by
  rw[show ln n=(ln n+1-ln m)+(ln m-1) by omega,DJ,show(ln n+1-ln m)+(ln m-1)+1-ln m=ln n+1-ln m by omega];exact bW _ h3
 rw[<-bg];exact Nat.mul_lt_mul_of_pos_right (Nat.lt_of_lt_of_le h1 h5) (bu b)
theorem Mm{n m b o r:Nat}(hm:0<m)(h1:n*2^b=m*2^b*o+r)(h2:r<m*2^b):o=n / m∧r / 2^b=n % m:=by
 have hp:=bu b;have h3:n*2^b / (m*2^b)=o:=by rw[h1,Nat.mul_add_div (Nat.mul_pos hm hp),Nat.div_eq_of_lt h2,cD]
 have h4:n*2^b % (m*2^b)=r:=by rw[h1,Nat.mul_add_mod,bO h2]
 rw[Nat.mul_div_mul_right _ _ hp]at h3;rw[Nat.mul_mod_mul_right]at h4;exact⟨h3.symm,by rw[<-h4,Nat.mul_div_cancel _ hp]⟩
end Go.Ex
namespace Go.Ex
open Go Go.Sx Go.Proofs
variable{H:Hp}{x y z:Int}{iv:Iv}{ls:List Nat}{n nx:Nat}{S:Nat->Prop}{O:Nat->Sx.dw}{u v:Value}{w w' w1:World}
theorem IX{g:Nat}{rs:List Nat}(hg:w.heap[g]? =some (.cells (U rs).toArray T.uint32 (0,0)))(Pv:Lm rs)(hl:rs.length<=1000000000000):
  dV w (fun x=>x=g) (.slice (some ⟨g,0,none⟩) rs.length rs.length) rs:=by
 have:=IU (k:=0) (m:=rs.length) (c:=rs.length) hg Pv (by omega) (Nat.le_refl _) hl
 rwa [List.drop_zero,bF]at this
theorem qe{m:Nat}(hS:Old S w)(hn:eC w S v n)(hm:eC w S u m)(Sm:0<m)(Sd:ln n<=100000000000):
  eG PG N.nW #[v,u] w (eL w fun v' w2=>∃q r,v'= .tuple #[q,r]∧eC w2 (Nf w w2) q (n / m)∧eC w2 (Nw S w w2) r (n % m)):=by
 have hnN:=hn;have UR:=hm;obtain⟨x,rfl,Qw,Q6⟩:=hn.la;obtain⟨y,rfl,Rl,Qb⟩:=hm.la;have QO:=eU x.lm Q6;have WT:=eU y.lm Qb;rw[Qw]at QO;rw[Rl]at WT;refine r9 (by simp) ?_;refine cH (cM (Φ:=fun _ _ v _=>v= .int .i64 (ss n m)) (fun O w' r=>LU (S:=S) (fun g hg=>by have:=hS g hg;have:=r.cU.size;omega) (hnN.cJ fun g hg=>r.cU.block g (hS g hg)) (UR.cJ fun g hg=>r.cU.block g (hS g hg))) ?_);rintro O w1 v1 w2 r he hw rfl;refine dN.mk ?_ ?_<;>intro h
 ·have h:n<m:=by
   have:=aI h;unfold ss at this;split at this
   ·assumption
   ·split at this<;>omega
  intro ρ3 w3 r3;refine⟨_,rfl,hw.tr r3.cU,_,_,rfl,?_,?_⟩
  ·rw[Nat.div_eq_of_lt h];exact eC.nil _ _
  ·rw[bO h];exact(hnN.cJ fun g hg=>(hw.tr r3.cU).block g (hS g hg)).cL fun g hg=>.inl hg
 have h:m<=n:=by
  have:=aH h;unfold ss at this;split at this
  ·omega
  ·omega
 have hlmn:=fX h;refine dN.mk ?_ ?_<;>intro h1
 ·have h1:y.ls.length=1:=by have:=eq_of_beq h1;omega
  obtain⟨b,Vw⟩:=List.length_eq_one_iff.1 h1;have hb:y.ls[0]? =some b:=by rw[Vw];rfl
  have VE:=y.lm.at hb;have Re:m=b:=by rw[<-Rl,Vw];simp[val]
  subst Re;obtain⟨ad,Ox,Oy⟩:=y.load hS hw hb;refine⟨ad,Ox,by omega,.int .u32 m,Oy _ _ _,?_⟩;refine cH (cM (Φ:=fun _ w' v w2=>∃q,v= .tuple #[q,.int .u32 ((val x.ls % m:Nat):Int)]∧eC w2 (Nf w' w2) q (val x.ls / m)) (fun O w' r=>?_) ?_)
  ·refine NF (S:=S) (fun g hg=>by have:=hS g hg;have:=(hw.tr r.cU).size;omega) ⟨x.lm,x.le,_,_,rfl,x.cap,fun j u hu=>?_⟩ (by omega) Sm VE;obtain⟨ad,e1,e2,e3⟩:=x.cell j u hu;exact⟨ad,e1,e2,jY hS hw r e2 e3⟩
  rintro O w3 v3 w4 r he SZ ⟨q,rfl,hq⟩;replace hw:=hw.tr SZ;have Um:=hq.dF (S:=FF) r.cG (iv:=(w3.heap.size,w4.heap.size)::[(w1.heap.size,w2.heap.size)]) aG;rw[Qw]at Um;rw[Qw];generalize (w3.heap.size,w4.heap.size)::[(w1.heap.size,w2.heap.size)]=iv at*
  have Qt:n % m<m:=cC _ Sm;generalize n % m=rem at*
  refine gN (Φ:=fun O _ v w2=>dV w2 (fun g=>g=(O 0).g) v (eA [rem])) (H':=[]) 0 rfl (by simp) trivial rfl (fun O w' r=>r.nn 0 _ rfl (by intros;simp) (by simp)) (fun O w' r=>?_) ?_
  ·have hL:=r.ud (id:=0) (ls:=[rem]) rfl (by intro x hx;simp at hx;omega) (by simp);exact fZ (fun g hg=>by rw[hg];exact(r.low 0 _ rfl (r.nn 0 _ rfl (by intros;simp) (by simp))).2) hL
  rintro O w5 v5 w6 r he XO hL;have Oa:=r.low 0 _ rfl (r.nn 0 _ rfl (by intros;simp) (by simp));have hs:=he.size;replace hw:=hw.tr XO;replace Um:=Um.cK (iv':=((O 0).g,(O 0).g+1)::(w5.heap.size,w6.heap.size)::iv) r (fun g h=>h.elim) he fun x hx=>by simp[hx]
  generalize (O 0).g=g0 at*
  have Wa:eC w6 (Cf w ((g0,g0+1)::(w5.heap.size,w6.heap.size)::iv)) v5 rem:=by
   have:=hL.trimmed;simp only[val,Nat.mul_zero,cD]at this;exact this.cL fun k hk=>.inr ⟨by omega,g0,g0+1,by simp,by omega,by omega⟩
  generalize (g0,g0+1)::(w5.heap.size,w6.heap.size)::iv=OX at*
  intro ρ3 w7 r3;exact⟨_,rfl,hw.tr r3.cU,_,_,rfl,(Um.rel r3 fun g h=>h.elim).cL fun g hg=>Cv.nw hg r3,((Wa.rel r3 fun g h=>h.elim).cL fun g hg=>Cv.nw hg r3).cL fun g hg=>hg.elim (fun h=>h.elim) .inr⟩
 ·have h1:y.ls.length≠1:=fun e=>by rw[e]at h1;simp at h1
  have Qx:0<ln m:=by
   rcases bN (ln m)with h|h
   ·have:=gT.1 (Nat.le_of_eq h);rw[j9]at this;omega
   ·exact h
  obtain⟨t,ht⟩:∃t,y.ls.length=t+1:=⟨y.ls.length-1,by omega⟩
  obtain⟨dt,TW⟩:∃q,y.ls[t]? =some q:=⟨_,aA (by omega)⟩
  have hdt0:0<dt:=by
   have:=Qb dt (by rw[List.getLast?_eq_getElem?,ht];exact TW);omega
  have XN:=y.lm.at TW;obtain⟨Oq,Wb⟩:=JH y.lm ht TW hdt0;rw[Rl]at Wb;obtain⟨ad,Ox,Oy⟩:=y.load hS hw TW;refine⟨(t:Int),wo,ad,Ox,by omega,.int .u32 dt,Oy _ _ _,?_⟩;refine cH (cM (Φ:=fun _ _ v _=>v= .int .i64 ((32-gz dt:Nat):Int)) (fun O w' r=>aAL dt w' XN) ?_);rintro O w3 v3 w4 r he SZ rfl;replace hw:=hw.tr SZ;generalize hbyd:32-gz dt=b at*
  refine⟨(b:Int),eh (by omega),?_⟩;refine cH (cM (Φ:=fun _ w' v w2=>∃out,LY w' w2 v out∧out.length=y.ls.length+1∧val out=val y.ls*2^b) (fun O w' r=>?_) ?_)
  ·refine CX (S:=S) (fun g hg=>by have:=hS g hg;have:=(hw.tr r.cU).size;omega) ⟨y.lm,y.le,_,_,rfl,y.cap,fun j u hu=>?_⟩ (by omega) Oq;obtain⟨ad,e1,e2,e3⟩:=y.cell j u hu;exact⟨ad,e1,e2,jY hS hw r e2 e3⟩
  rintro O w5 v5 w6 r he XO ⟨dl,⟨gd,rfl,hgd1,hgd2,hgd3⟩,S3,hdv⟩;replace hw:=hw.tr XO;rw[Rl]at hdv;have hB5:w.heap.size<=w5.heap.size:=r.cG;have Se:Cf w ((w5.heap.size,w6.heap.size)::[(w3.heap.size,w4.heap.size),(w1.heap.size,w2.heap.size)]) gd:=.inr ⟨by omega,_,_,aG,hgd1,kN hgd2⟩;generalize (w5.heap.size,w6.heap.size)::[(w3.heap.size,w4.heap.size),(w1.heap.size,w2.heap.size)]=iv at*
  have hF:∀g:Nat,(fun _:Nat=>False) g->g<w.heap.size:=fun g h=>h.elim;refine cH (cM (Φ:=fun _ _ v w2=>dV w2 (fun x=>x=gd) v (eA dl)) (fun O w' r=>fZ (fun g hg=>by rw[hg];exact Rel.old r hF gd Se) (IX (by rw[Rel.same r hF Se];exact hgd2) hgd3 (by omega))) ?_);rintro O w7 v6 w8 r he hb8 hL;replace hw:=hw.tr hb8;have hgd8:gd<w8.heap.size:=by have:=Rel.old r hF gd Se;have:=he.size;omega
  replace Se:=Se.mono (iv':=(w7.heap.size,w8.heap.size)::iv) fun p hp=>aC _ hp;have VH:=hL.trimmed;rw[hdv]at VH;generalize (w7.heap.size,w8.heap.size)::iv=iv at*
  obtain⟨dp,rfl,RW,Pg⟩:=VH.la;have hdpl:=eU dp.lm Pg;rw[RW,Wb]at hdpl;generalize hDd:m*2^b=D at*
  have hD0:0<D:=by rw[<-hDd];exact Nat.mul_pos Sm (bu b)
  refine cH (cM (Φ:=fun _ w' v w2=>∃out,LY w' w2 v out∧out.length=x.ls.length+1∧val out=val x.ls*2^b) (fun O w' r=>?_) ?_)
  ·refine CX (S:=S) (fun g hg=>by have:=hS g hg;have:=(hw.tr r.cU).size;omega) ⟨x.lm,x.le,_,_,rfl,x.cap,fun j u hu=>?_⟩ (by omega) Oq;obtain⟨ad,e1,e2,e3⟩:=x.cell j u hu;exact⟨ad,e1,e2,jY hS hw r e2 e3⟩
  rintro O w9 v9 w10 r he hb10 ⟨rs0,⟨gr,rfl,US,UT,hgr3⟩,Pm,UU⟩;replace hw:=hw.tr hb10;rw[Qw]at UU;have hB9:w.heap.size<=w9.heap.size:=r.cG;have TJ:Cf w ((w9.heap.size,w10.heap.size)::iv) gr:=.inr ⟨by omega,_,_,aG,US,kN UT⟩;have OY:gr≠gd:=by have:=r.size;omega
  replace VH:eC w10 (fun x=>x=gd) (.slice dp.a dp.ls.length dp.c) D:=VH.cJ fun x hx=>by
   rw[hx,he.block gd (Rel.old r hF gd Se),Rel.same r hF Se]
  have hgd10:gd<w10.heap.size:=by have:=Rel.old r hF gd Se;have:=he.size;omega
  replace Se:=Se.mono (iv':=(w9.heap.size,w10.heap.size)::iv) fun p hp=>aC _ hp;generalize (w9.heap.size,w10.heap.size)::iv=iv at*
  have hgrB:w.heap.size<=gr:=by omega
  obtain⟨L,hL⟩:∃L,rs0.length=t+1+L:=⟨rs0.length-(t+1),by omega⟩
  refine⟨(L:Int),wo,L,L,rfl,rfl,Nat.le_refl _,by omega,by omega,(L:Int)-1,wo,Nat×List Nat×List Nat×World,fun z=>⟨[(8,.o (.v (.int .u64 b))),(9,sV dp.a dp.ls.length dp.c),(10,.o (.v (.slice (some ⟨gr,0,none⟩) rs0.length rs0.length))),(11,.o (.s 0 0 L L)),(12,.o (.v (.int .i64 ((z.1:Int)-1))))],
    [(0,.arr T.uint32 (U z.2.1))],1,iv,z.2.2.2⟩,fun z=>z.1,
   fun z=>z.1<=L∧dq w.heap.size w z.2.2.2∧z.2.1.length=L∧z.2.2.1.length=rs0.length∧Lm z.2.1∧Lm z.2.2.1∧z.2.2.2.heap[gr]? =some (.cells (U z.2.2.1).toArray T.uint32 (0,0))∧eC z.2.2.2 (fun x=>x=gd) (.slice dp.a dp.ls.length dp.c) D∧
    gd<z.2.2.2.heap.size∧val z.2.2.1<wt z.1*D∧n*2^b=wt z.1*(D*val (z.2.1.drop z.1))+val z.2.2.1,?_,?_⟩
  ·intro O w' r;rw[sw]at r;refine⟨(L,List.replicate L 0,rs0,w'),⟨Nat.le_refl _,hw.tr r.cU,by simp,rfl,Lm.replicate _,hgr3,?_,?_,?_,?_,?_⟩,Sub.gn [] r⟩
   ·dsimp only;rw[Rel.same r hF TJ];exact UT
   ·exact VH.cJ fun x hx=>by rw[hx];exact Rel.same r hF Se
   ·exact Rel.old r hF gd Se
   ·dsimp only
    have:=JI (b:=b) Sm h;rw[hDd,<-WT,ht,<-QO,show x.ls.length+1-(t+1)=L by omega]at this;rw[UU];exact this
   ·dsimp only;rw[UU];simp[val]
  ·rintro⟨k,out,rs,w11⟩ ⟨hk,hw,Qc,SI,TT,WA,Ot,VH,R4,hi1,Rq⟩;dsimp only at hk hw Qc SI TT WA Ot VH R4 hi1 Rq ⊢;refine dN.mk ?_ ?_<;>intro h9
   ·have h9:(k:Int)-1≥0:=aI h9;obtain⟨k,rfl⟩:∃q,k=q+1:=⟨k-1,by omega⟩
    rw[show ((k+1:Nat):Int)-1=(k:Int) by omega];have hDN:D<wt (t+1):=gT.1 (Nat.le_of_eq Wb);obtain⟨a1,a2,a3⟩:=FA (N:=t+1) WA hDN (by omega) hi1;have hdig:=fun(w':World)=>@ND (fun x=>x=gd) w' (.slice dp.a dp.ls.length dp.c) D gr k rs;rw[Wb]at hdig;simp only[SI]at hdig;generalize hP:val ((rs.drop k).take (t+1+1))=P at*
    have hQ32:P / D<4294967296:=(Nat.div_lt_iff_lt_mul hD0).2 (by rw[bT]at a3;omega);refine⟨fun O w' r=>(hdig w' (fun g hg=>by rw[hg];exact Rel.old r hF gd Se) OY (VH.cJ fun x hx=>by rw[hx];exact Rel.same r hF Se) hD0 (by rw[Rel.same r hF TJ];exact Ot) WA (by omega) (by omega) a3).mono fun e w12 he=>?_⟩;obtain⟨rfl,hgb,rs',e1,e2,e3,e4,e5,e6⟩:=he;refine⟨_,_,_,rfl,r.yu (fun id b hb hn=>Rel.not r hF TJ id b hb hn) hgb,?_⟩;obtain⟨hi1',hi2'⟩:=Kj (N:=t+1) hD0 WA (e1.trans SI.symm) hDN (by omega) hi1 Rq hP e3 e4 e5 (by omega);have hw12:dq w.heap.size w w12:=(hw.tr r.cU).tr (dq.grown hgb (fun g hg=>by injection hg with hg;omega) r.cG);have hdN12:eC w12 (fun x=>x=gd) (.slice dp.a dp.ls.length dp.c) D:=VH.cJ fun x hx=>by
     rw[hx,hgb.block gd (Rel.old r hF gd Se) (fun e=>OY (Option.some.inj e).symm),Rel.same r hF Se]
    have hgd12:gd<w12.heap.size:=by have:=Rel.old r hF gd Se;have:=hgb.size;omega
    generalize P / D=Q at*
    refine⟨by omega,by rw[gV];omega,U (out.set k Q),jT out k _ (by omega) (by simp),(k:Int)-1,wo,?_⟩;intro ρ3 w3 r3
    refine⟨(k,out.set k Q,rs',w3),⟨by dsimp only;omega,hw12.tr r3.cU,by simp[Qc],e1.trans rfl,TT.set hQ32,e2,?_,?_,?_,hi1',hi2'⟩,
     Sub.gn [] r3,by dsimp only;omega⟩
    ·dsimp only;rw[Rel.same r3 hF TJ];exact e6
    ·exact hdN12.cJ fun x hx=>by rw[hx];exact Rel.same r3 hF Se
    ·exact Rel.old r3 hF gd Se
   ·have Tx:k=0:=by
     have:¬(k:Int)-1≥0:=aH h9;omega
    subst Tx;rw[j9,Nat.one_mul,List.drop_zero]at Rq;rw[j9,Nat.one_mul]at hi1;rw[<-hDd]at hi1 Rq;obtain⟨hq,hrem⟩:=Mm Sm Rq hi1;have PS:∀w':World,w'.heap[gr]? =some (.cells (U rs).toArray T.uint32 (0,0))->dV w' (fun x=>x=gr) (.slice (some ⟨gr,0,none⟩) rs0.length rs0.length) rs:=fun w' hh=>by
     have:=IX hh WA (by omega)
     rwa [SI]at this
    refine gN (Φ:=fun O _ v w2=>dV w2 (fun g=>g=(O 0).g) v (eA out)) (H':=[]) 0 rfl (by simp) trivial rfl (fun O w' r=>r.nn 0 _ rfl (by intros;simp) (by simp)) (fun O w' r=>?_) ?_
    ·have hL:=r.nc (id:=0) rfl TT (by omega);rw[Qc]at hL;exact fZ (fun g hg=>by rw[hg];exact(r.low 0 _ rfl (r.nn 0 _ rfl (by intros;simp) (by simp))).2) hL
    rintro O w13 v13 w14 r he hb14 hL;replace hw:=hw.tr hb14;have Oa:=r.low 0 _ rfl (r.nn 0 _ rfl (by intros;simp) (by simp));have hs:=he.size;have hgr14:w14.heap[gr]? =some (.cells (U rs).toArray T.uint32 (0,0)):=by rw[he.block gr (Rel.old r hF gr TJ),Rel.same r hF TJ];exact Ot
    replace TJ:=TJ.mono (iv':=((O 0).g,(O 0).g+1)::(w13.heap.size,w14.heap.size)::iv) fun p hp=>by simp[hp]
    have Um:eC w14 (Cf w (((O 0).g,(O 0).g+1)::(w13.heap.size,w14.heap.size)::iv)) v13 (n / m):=by
     have:=hL.trimmed;rw[hq]at this;exact this.cL fun k hk=>.inr ⟨by omega,_,_,aG,by omega,by omega⟩
    generalize ((O 0).g,(O 0).g+1)::(w13.heap.size,w14.heap.size)::iv=Oh at*
    refine cH (cM (Φ:=fun _ _ v w2=>dV w2 (fun x=>x=gr) v (eA rs)) (fun O w' r=>fZ (fun g hg=>by rw[hg];exact Rel.old r hF gr TJ) (PS w' (by rw[Rel.same r hF TJ];exact hgr14))) ?_);rintro O w15 v15 w16 r he hb16 hL;replace hw:=hw.tr hb16;replace Um:=Um.cK (iv':=(w15.heap.size,w16.heap.size)::Oh) r hF he fun x hx=>aC _ hx;replace hL:=hL.cL (S':=Cf w ((w15.heap.size,w16.heap.size)::Oh)) fun g hg=>by rw[hg];exact TJ.cons
    generalize (w15.heap.size,w16.heap.size)::Oh=On at*
    have R5:(eA rs).length<=rs.length:=by
     obtain⟨_,_,k,_,hk⟩:=fJ rs;rw[hk];simp;omega
    refine cH (cM (Φ:=fun _ w' v w2=>eC w2 (Nf w' w2) v (val (eA rs) / 2^b)) (fun O w' r=>aAN (Rel.old r hF) (dV.rel hL r hF) (by omega) Oq) ?_);rintro O w17 v17 w18 r he hb18 hr;replace hw:=hw.tr hb18;rw[(fJ rs).1,hrem]at hr;have Wa:=hr.dF (S:=FF) r.cG (iv:=(w17.heap.size,w18.heap.size)::On) aG;replace Um:=Um.cK (iv':=(w17.heap.size,w18.heap.size)::On) r hF he fun x hx=>aC _ hx;generalize (w17.heap.size,w18.heap.size)::On=PN at*
    intro ρ3 w19 r3;exact⟨_,rfl,hw.tr r3.cU,_,_,rfl,(Um.rel r3 hF).cL fun g hg=>Cv.nw hg r3,((Wa.rel r3 hF).cL fun g hg=>Cv.nw hg r3).cL fun g hg=>hg.elim (fun h=>h.elim) .inr⟩
theorem Fl{m:Nat}(hS:Old S w)(hn:eC w S v n)(hm:eC w S u m)(Sd:ln n<=100000000000)(Pv:ln m<=100000000000):
  eG PG N.uL #[v,u] w (eL w fun v' w2=>eC w2 (Nw S w w2) v' (Nat.gcd n m)):=by
 refine yA (by simp) ?_
 refine⟨(Value×Nat)×(Value×Nat)×Iv×World,fun z=>⟨[(0,.o (.v z.1.1)),(1,.o (.v z.2.1.1))],[],0,z.2.2.1,z.2.2.2⟩,fun z=>z.2.1.2,
  fun z=>dq w.heap.size w z.2.2.2∧eC z.2.2.2 (Cv S w.heap.size z.2.2.1) z.1.1 z.1.2∧eC z.2.2.2 (Cv S w.heap.size z.2.2.1) z.2.1.1 z.2.1.2∧ln z.1.2<=100000000000∧ln z.2.1.2<=100000000000∧Nat.gcd z.1.2 z.2.1.2=Nat.gcd n m,?_,?_⟩
 ·intro O w' r
  exact⟨((v,n),(u,m),[],w'),⟨r.cU,(hn.cJ fun g hg=>r.cU.block g (hS g hg)).cL fun _ hg=>.inl hg,(hm.cJ fun g hg=>r.cU.block g (hS g hg)).cL fun _ hg=>.inl hg,Sd,Pv,rfl⟩,
   Sub.gen [] r trivial ⟨rfl,rfl,trivial⟩ trivial (by simp[kF,SV.sc,At.sc]) (by rfl) (by simp)⟩
 ·rintro⟨⟨vx,x⟩,⟨vy,y⟩,iv,w1⟩ ⟨hw,hx,hy,PO,Qj,hg⟩;dsimp only at hw hx hy PO Qj hg ⊢;have hyN:=hy;obtain⟨p,rfl,Qw,Q6⟩:=hy.la;have Pb:=eU p.lm Q6;rw[Qw]at Pb;refine dN.mk ?_ ?_<;>intro h
  ·have h:0<p.ls.length:=by
    have:(p.ls.length:Int)>0:=aI h;omega
   have QH:0<y:=by
    rcases bN y with h0|h0
    ·rw[h0]at Pb;rw[Mj]at Pb;omega
    ·exact h0
   refine cH (cM (Φ:=fun _ w' v w2=>∃q r,v= .tuple #[q,r]∧eC w2 (Nf w' w2) q (x / y)∧eC w2 (Nw (Cv S w.heap.size iv) w' w2) r (x % y)) (fun O w' r=>qe (Rel.old r hS) (hx.rel r hS) (hyN.rel r hS) QH PO) ?_);rintro O w3 v3 w4 r he SZ ⟨q,rm,rfl,-,hr⟩;replace hw:=hw.tr SZ;have Wa:eC w4 (Cv S w.heap.size ((w3.heap.size,w4.heap.size)::iv)) rm (x % y):=hr.cL fun g hg=>Nw.cv hg r.cG;have hyN:=hyN.cK (iv':=(w3.heap.size,w4.heap.size)::iv) r hS he fun x hx=>aC _ hx;generalize (w3.heap.size,w4.heap.size)::iv=OX at*
   intro ρ5 w5 r5
   refine⟨((_,y),(rm,x % y),OX,w5),⟨hw.tr r5.cU,hyN.rel r5 hS,Wa.rel r5 hS,Qj,aX (fX (Nat.le_of_lt (cC x QH))) Qj,?_⟩,
    Sub.gen [] r5 trivial ⟨rfl,rfl,trivial⟩ trivial (by simp[kF,SV.sc,At.sc]) (by rfl) (by simp),cC x QH⟩
   dsimp only
   rw[<-hg,Nat.gcd_comm x y,Nat.gcd_rec y x,Nat.gcd_comm]
  ·have h:p.ls.length=0:=by
    have:¬(p.ls.length:Int)>0:=aH h;omega
   have QH:y=0:=by
    have:=lS y;rw[<-Pb,h,j9]at this;omega
   rw[QH,Nat.gcd_zero_right]at hg;intro ρ5 w5 r5;exact⟨_,rfl,hw.tr r5.cU,by rw[<-hg];exact(hx.rel r5 hS).cL fun g hg=>Cv.nw hg r5⟩
def sg(neg:Bool)(n:Nat):Int:=if neg then -(n:Int)else n
theorem Lj(n:Nat):sg true n= -(n:Int):=rfl
theorem aAP(n:Nat):sg false n=n:=rfl
theorem tF(b:Bool)(n:Nat):(sg b n).natAbs=n:=by cases b<;>simp[sg]
def uq(w:World)(S:Nat->Prop)(v:Value)(neg:Bool)(ls:List Nat):Prop:=∃lv,v= .agg #[.bool neg,lv]∧dV w S lv ls
def e7(w:World)(S:Nat->Prop)(v:Value)(z:Int):Prop:=∃nv,v= .agg #[.bool (decide (z<0)),nv]∧eC w S nv z.natAbs
section
variable{S S':Nat->Prop}{H:Hp}{nx:Nat}{iv iv':Iv}{B:Nat}{w w' w2:World}{O:Nat->Sx.dw}{v:Value}{z:Int}
theorem e7.cJ(h:e7 w S v z)(hk:∀g,S g->w2.heap[g]? =w.heap[g]?):e7 w2 S v z:=by
 obtain⟨nv,h1,h2⟩:=h;exact⟨nv,h1,h2.cJ hk⟩
theorem e7.cL(h:e7 w S v z)(hk:∀g,S g->S' g):e7 w S' v z:=by
 obtain⟨nv,h1,h2⟩:=h;exact⟨nv,h1,h2.cL hk⟩
theorem e7.rel(h:e7 w (Cv S B iv) v z)(r:Rel H nx iv B w O w')(hS:∀g,S g->g<B):e7 w' (Cv S B iv) v z:=h.cJ fun _ hg=>Rel.same r hS hg
theorem e7.cK(h:e7 w (Cv S B iv) v z)(r:Rel H nx iv B w O w')(hS:∀g,S g->g<B)(he:Ext w' w2)(hm:∀p,p∈iv->p∈iv'):e7 w2 (Cv S B iv') v z:=by
 obtain⟨nv,h1,h2⟩:=h;exact⟨nv,h1,h2.cK r hS he hm⟩
theorem e7.dF(h:e7 w2 (Nf w' w2) v z)(hB:B<=w'.heap.size)(hm:(w'.heap.size,w2.heap.size)∈iv):e7 w2 (Cv S B iv) v z:=h.cL fun _ hg=>hg.dF hB hm
end
theorem wN{k:Nat}(h:k=ln n):0<k↔0<n:=by
 have h1:=@gT n 0;rw[j9]at h1;omega
theorem dV.shape(h:dV w S v ls):∃a n c,v= .slice a n c:=by
 obtain⟨a,c,h,_⟩:=h.sl;exact⟨a,_,c,h⟩
theorem eC.shape(h:eC w S v n):∃a n c,v= .slice a n c:=by
 obtain⟨_,h,_⟩:=h;exact h.shape
theorem dV.arg(h:dV w S v ls)(iv:Iv):dV w (Cv S w.heap.size iv) v ls:=h.cL fun _ h=>.inl h
theorem eC.arg(h:eC w S v n)(iv:Iv):eC w (Cv S w.heap.size iv) v n:=h.cL fun _ h=>.inl h
theorem eC.out(h:eC w1 (Cv S w.heap.size iv) v n)(r:Rel H nx iv w.heap.size w1 O w')(hS:Old S w):eC w' (Nw S w w') v n:=
 (h.rel r hS).cL fun _ hg=>Cv.nw hg r
theorem e7.out(h:e7 w1 (Cv S w.heap.size iv) v z)(r:Rel H nx iv w.heap.size w1 O w')(hS:Old S w):e7 w' (Nw S w w') v z:=
 (h.rel r hS).cL fun _ hg=>Cv.nw hg r
theorem neg_pos{k:Nat}(h:k=ln n):decide ((k:Int)>0)=decide (-(n:Int)<0):=by
 have:=wN h;exact decide_eq_decide.2 (by omega)
theorem cF(w:World):Old FF w:=fun _ h=>h.elim
theorem aAw{neg:Bool}(hS:Old S w)(h:uq w S v neg ls):
  eG PG N.AJ #[v] w (eL w fun v' w2=>e7 w2 (Nw S w w2) v' (sg neg (val ls))):=by
 obtain⟨lv,rfl,hl⟩:=h;replace hl:=hl.arg [];refine FY (by simp) ?_;refine cH (cM (Φ:=fun _ _ v w2=>dV w2 (Cv S w.heap.size []) v (eA ls)) (fun O w' r=>fZ (Rel.old r hS) (dV.rel hl r hS)) ?_);rintro O w1 v1 w2 r he hw hL;have hN:=hL.trimmed.cL (S':=Cv S w.heap.size [(w1.heap.size,w2.heap.size)]) fun _ hg=>hg.cons;have hN2:=hN;obtain⟨p,rfl,Qw,Q6⟩:=hN.la;have Pb:=eU p.lm Q6;rw[Qw]at Pb
 cases neg
 ·intro ρ3 w3 r3;exact⟨_,rfl,hw.tr r3.cU,_,rfl,by rw[tF];exact hN2.out r3 hS⟩
 ·intro ρ3 w3 r3;exact⟨_,rfl,hw.tr r3.cU,_,by rw[Lj,<-neg_pos Pb];rfl,by rw[tF];exact hN2.out r3 hS⟩
theorem Lk(hS:Old S w)(h:e7 w S v z)(Sd:ln z.natAbs<=100000000000):
  eG PG N.mX #[v] w (eL w fun v' w2=>∃ls,uq w2 (Nf w w2) v' (decide (z<0)) ls∧Nz ls∧val ls=z.natAbs):=by
 obtain⟨nv,rfl,hn⟩:=h;obtain⟨ls,hl,hz,hv⟩:=hn;replace hl:=hl.arg [];refine qY (by simp) ?_;refine cH (cM (Φ:=fun _ _ v w2=>dV w2 (Cv S w.heap.size []) v (eA ls)) (fun O w' r=>fZ (Rel.old r hS) (dV.rel hl r hS)) ?_);rintro O w1 v1 w2 r he hw hL;rw[En hz]at hL;have Pb:=eU hl.lm hz;rw[hv]at Pb;replace hL:=hL.cL (S':=Cv S w.heap.size [(w1.heap.size,w2.heap.size)]) fun _ hg=>hg.cons;have hL2:=hL;obtain⟨p,rfl,hp⟩:=hL.la;have WC:(p.ls.length:Int)>0↔z≠0:=by
  have h1:=wN Pb;rw[hp];omega
 subst hp;generalize hb:decide (z<0)=b
 cases b
 all_goals
  refine cH (cM (Φ:=fun _ w' v w2=>dV w2 (Nf w' w2) v p.ls) (fun O w' r=>IT (Rel.old r hS) (dV.rel hL2 r hS) (by omega)) ?_);rintro O w3 v3 w4 r he SZ hc;replace hw:=hw.tr SZ;have Sy:=hc.dF (S:=FF) r.cG (iv:=(w3.heap.size,w4.heap.size)::[(w1.heap.size,w2.heap.size)]) aG;obtain⟨a3,n3,c3,rfl⟩:=Sy.shape;intro ρ5 w5 r5;refine⟨_,rfl,hw.tr r5.cU,p.ls,⟨_,?_,(dV.rel Sy r5 (cF w)).cL fun _ hg=>Cv.nw hg r5⟩,hz,hv⟩
 ·rfl
 ·have:decide ((p.ls.length:Int)>0)=true:=bh (WC.2 (by have:=aI hb;omega));rw[<-this];rfl
theorem Av(h:e7 w S v z):eG PG N.mV #[v] w (eL w fun v' _=>v'= .int .i64 z.sign):=by
 obtain⟨nv,rfl,hn⟩:=h;obtain⟨p,rfl,Qw,Q6⟩:=hn.la;have Pb:=eU p.lm Q6;rw[Qw]at Pb;have WC:=wN Pb;generalize hb:decide (z<0)=b;refine qW (by simp) ?_;refine dN.mk ?_ ?_<;>intro h
 ·have h:p.ls.length=0:=by have:=eq_of_beq h;omega
  have hz:z=0:=by omega
  subst hz;intro O w2 r;exact⟨_,rfl,r.cU,rfl⟩
 ·have h:p.ls.length≠0:=fun e=>by rw[e]at h;simp at h
  have hz:z≠0:=by omega
  cases b
  ·have:=aH hb;intro O w2 r;exact⟨_,rfl,r.cU,by rw[bp (by omega)];rfl⟩
  ·have:=aI hb;intro O w2 r;exact⟨_,rfl,r.cU,by rw[bl (by omega)];rfl⟩
theorem ou(hS:Old S w)(h:e7 w S v z):eG PG N.l9 #[v] w (eL w fun v' w2=>e7 w2 (Nw S w w2) v' (-z)):=by
 obtain⟨nv,rfl,hn⟩:=h;have Rx:=hn.arg [];obtain⟨p,rfl,Qw,Q6⟩:=hn.la;have Pb:=eU p.lm Q6;rw[Qw]at Pb;have WC:=wN Pb;have QP:(-z).natAbs=z.natAbs:=Int.natAbs_neg z;generalize hb:decide (z<0)=b;refine pV (by simp) ?_
 cases b
 ·have:=aH hb;have hd:decide ((p.ls.length:Int)>0)=decide (-z<0):=decide_eq_decide.2 (by omega);intro O w2 r;exact⟨_,rfl,r.cU,_,by rw[<-hd];rfl,by rw[QP];exact Rx.out r hS⟩
 ·have:=aI hb;have hd:decide (-z<0)=false:=bP (by omega);intro O w2 r;exact⟨_,rfl,r.cU,_,by rw[hd];rfl,by rw[QP];exact Rx.out r hS⟩
theorem e7.num(h:e7 w S v z):∃a n c,v= .agg #[.bool (decide (z<0)),.slice a n c]∧eC w S (.slice a n c) z.natAbs:=by
 obtain⟨nv,h1,h2⟩:=h;obtain⟨a,n,c,rfl⟩:=h2.shape;exact⟨a,n,c,h1,h2⟩
theorem Cg(hS:Old S w)(hx:e7 w S v x)(hy:e7 w S u y)(PO:ln x.natAbs<=100000000000)(Qj:ln y.natAbs<=100000000000):
  eG PG N.ma #[v,u] w (eL w fun v' w2=>e7 w2 (Nf w w2) v' (x+y)):=by
 obtain⟨nx,rfl,RQ⟩:=hx;obtain⟨ny,rfl,TN⟩:=hy;obtain⟨ax,lx,cx,rfl⟩:=RQ.shape;obtain⟨ay,ly,cy,rfl⟩:=TN.shape;replace RQ:=RQ.arg [];replace TN:=TN.arg [];generalize SN:decide (x<0)=bx;generalize Oq:decide (y<0)=b2;refine q9 (by simp) ?_;have Od:bx=b2->(x+y).natAbs=x.natAbs+y.natAbs∧decide (x+y<0)=bx:=fun e=>by
  cases bx<;>subst e
  ·have h1:=aH SN;have h2:=aH Oq;exact⟨by omega,bP (by omega)⟩
  ·have h1:=aI SN;have h2:=aI Oq;exact⟨by omega,bh (by omega)⟩
 have VS:bx≠b2->y.natAbs<=x.natAbs->(x+y).natAbs=x.natAbs-y.natAbs∧(decide (x+y<0)=(bx&&decide (x.natAbs-y.natAbs≠0))):=fun e h=>by
  cases bx
  ·have h1:=aH SN
   cases b2
   ·exact absurd rfl e
   have h2:=aI Oq;exact⟨by omega,by rw[Bool.false_and];exact bP (by omega)⟩
  ·have h1:=aI SN
   cases b2
   ·have h2:=aH Oq;exact⟨by omega,by rw[Bool.true_and];exact decide_eq_decide.2 (by omega)⟩
   ·exact absurd rfl e
 have Tc:bx≠b2->x.natAbs<y.natAbs->(x+y).natAbs=y.natAbs-x.natAbs∧decide (x+y<0)=b2:=fun e h=>by
  cases bx
  ·have h1:=aH SN
   cases b2
   ·exact absurd rfl e
   have h2:=aI Oq;exact⟨by omega,bh (by omega)⟩
  ·have h1:=aI SN
   cases b2
   ·have h2:=aH Oq;exact⟨by omega,bP (by omega)⟩
   ·exact absurd rfl e
 by_cases Om:bx=b2
 ·obtain⟨h1,h2⟩:=Od Om;subst Om
  cases bx
  all_goals
   refine cQ hτ dx [.x 0,.x 1,.x 2,.x 3,.x 4,.x 5,.x 6,.x 7,.x 8] (by kernel_rfl) (by kernel_rfl) ?_;refine cM (Φ:=fun _ w' v w2=>eC w2 (Nf w' w2) v (x.natAbs+y.natAbs)) (fun O w' r=>aAQ (Rel.old r hS) (RQ.rel r hS) (TN.rel r hS) (by omega) (by omega)) ?_;rintro O w3 v3 w4 r he hw hn;have hN:=hn.dF (S:=FF) r.cG (iv:=(w3.heap.size,w4.heap.size)::[]) aG;obtain⟨a3,n3,c3,rfl⟩:=hN.shape;intro ρ5 w5 r5;exact⟨_,rfl,hw.tr r5.cU,_,by rw[h2];rfl,by rw[h1];exact hN.out r5 (cF w)⟩
 ·replace VS:=VS Om;replace Tc:=Tc Om;have hcmp:∀d:Int,d=ss x.natAbs y.natAbs->(0<=d↔y.natAbs<=x.natAbs):=fun d e=>by
   rw[e];unfold ss;split
   ·omega
   ·split<;>omega
  cases bx<;>cases b2<;>first|exact absurd rfl Om|skip
  all_goals
   refine cH (cM (Φ:=fun _ _ v _=>v= .int .i64 (ss x.natAbs y.natAbs)) (fun O w' r=>LU (Rel.old r hS) (RQ.rel r hS) (TN.rel r hS)) ?_);rintro O w1 v1 w2 r he hw rfl;replace RQ:=RQ.cK (iv':=[(w1.heap.size,w2.heap.size)]) r hS he fun x hx=>aC _ hx;replace TN:=TN.cK (iv':=[(w1.heap.size,w2.heap.size)]) r hS he fun x hx=>aC _ hx;refine dN.mk ?_ ?_<;>intro h
   ·have h:=(hcmp _ rfl).1 (aI h);obtain⟨h1,h2⟩:=VS h;refine cH (cM (Φ:=fun _ w' v w2=>eC w2 (Nf w' w2) v (x.natAbs-y.natAbs)) (fun O w' r=>Df (Rel.old r hS) (RQ.rel r hS) (TN.rel r hS) h (by omega)) ?_);rintro O w3 v3 w4 r he SZ hn;replace hw:=hw.tr SZ;have hN:=hn.dF (S:=FF) r.cG (iv:=(w3.heap.size,w4.heap.size)::[(w1.heap.size,w2.heap.size)]) aG;have hN2:=hN;obtain⟨p,rfl,Qw,Q6⟩:=hN.la;have Pb:=eU p.lm Q6;rw[Qw]at Pb;have WC:=wN Pb;have hd:decide ((p.ls.length:Int)>0)=decide (x.natAbs-y.natAbs≠0):=decide_eq_decide.2 (by omega);intro ρ5 w5 r5;exact⟨_,rfl,hw.tr r5.cU,_,by rw[h2,<-hd];rfl,by rw[h1];exact hN2.out r5 (cF w)⟩
   ·have h:x.natAbs<y.natAbs:=by
     have h0:=aH h;have:=hcmp _ rfl;omega
    obtain⟨h1,h2⟩:=Tc h;refine cQ hτ dx [.x 0,.x 1,.x 2,.x 3,.x 4,.x 5,.x 6,.x 7,.x 8] (by kernel_rfl) (by kernel_rfl) ?_;refine cM (Φ:=fun _ w' v w2=>eC w2 (Nf w' w2) v (y.natAbs-x.natAbs)) (fun O w' r=>Df (Rel.old r hS) (TN.rel r hS) (RQ.rel r hS) (by omega) (by omega)) ?_;rintro O w3 v3 w4 r he SZ hn;replace hw:=hw.tr SZ;have hN:=hn.dF (S:=FF) r.cG (iv:=(w3.heap.size,w4.heap.size)::[(w1.heap.size,w2.heap.size)]) aG;obtain⟨a3,n3,c3,rfl⟩:=hN.shape;intro ρ5 w5 r5;exact⟨_,rfl,hw.tr r5.cU,_,by rw[h2];rfl,by rw[h1];exact hN.out r5 (cF w)⟩
theorem ig(hS:Old S w)(hx:e7 w S v x)(hy:e7 w S u y)(PO:ln x.natAbs<=100000000000)(Qj:ln y.natAbs<=100000000000):
  eG PG N.l8 #[v,u] w (eL w fun v' w2=>e7 w2 (Nf w w2) v' (x*y)):=by
 obtain⟨nx,rfl,RQ⟩:=hx;obtain⟨ny,rfl,TN⟩:=hy;obtain⟨ax,lx,cx,rfl⟩:=RQ.shape;obtain⟨ay,ly,cy,rfl⟩:=TN.shape;replace RQ:=RQ.arg [];replace TN:=TN.arg [];have QP:=Int.natAbs_mul x y;have Qu:decide (x*y<0)=((decide (x<0) != decide (y<0))&&decide (x.natAbs*y.natAbs≠0)):=by
  by_cases h0:x*y=0
  ·rw[<-QP,h0];simp
  ·have Rg:x≠0:=fun e=>h0 (by rw[e,Int.zero_mul]);have QH:y≠0:=fun e=>h0 (by rw[e,Int.mul_zero]);rw[<-QP,bh (show (x*y).natAbs≠0 by omega),Bool.and_true];by_cases h1:x<0<;>by_cases h2:y<0
   ·rw[bh h1,bh h2];exact bP (by have:=Int.mul_pos_of_neg_of_neg h1 h2;omega)
   ·rw[bh h1,bP h2];exact bh (Int.mul_neg_of_neg_of_pos h1 (by omega))
   ·rw[bP h1,bh h2];exact bh (Int.mul_neg_of_pos_of_neg (by omega) h2)
   ·rw[bP h1,bP h2];exact bP (by have:=Int.mul_nonneg (show 0<=x by omega) (show 0<=y by omega);omega)
 generalize decide (x<0)=bx at*
 generalize decide (y<0)=b2 at*
 refine pU (by simp) ?_;refine cH (cM (Φ:=fun _ w' v w2=>eC w2 (Nf w' w2) v (x.natAbs*y.natAbs)) (fun O w' r=>IV (Rel.old r hS) (RQ.rel r hS) (TN.rel r hS) (by omega) (by omega)) ?_);rintro O w3 v3 w4 r he hw hn;have hN:=hn.dF (S:=FF) r.cG (iv:=(w3.heap.size,w4.heap.size)::[]) aG;have hN2:=hN;obtain⟨p,rfl,Qw,Q6⟩:=hN.la;have Pb:=eU p.lm Q6;rw[Qw]at Pb;have WC:=wN Pb;have hd:decide ((p.ls.length:Int)>0)=decide (x.natAbs*y.natAbs≠0):=decide_eq_decide.2 (by omega)
 cases bx<;>cases b2
 all_goals
  intro ρ5 w5 r5;exact⟨_,rfl,hw.tr r5.cU,_,by rw[Qu,<-hd];rfl,by rw[QP];exact hN2.out r5 (cF w)⟩
theorem Ln(hS:Old S w)(hx:e7 w S v x)(hy:e7 w S u y)(PO:ln x.natAbs<=100000000000)(Qj:ln y.natAbs<=100000000000):
  eG PG N.nU #[v,u] w (eL w fun v' _=>v'= .int .i64 (x-y).sign):=by
 have hxN:e7 w (Cv S w.heap.size []) v x:=hx.cL fun _ h=>.inl h;have hyN:e7 w (Cv S w.heap.size []) u y:=hy.cL fun _ h=>.inl h;obtain⟨nx,rfl,RQ⟩:=hx;obtain⟨ny,rfl,TN⟩:=hy;obtain⟨ax,lx,cx,rfl⟩:=RQ.shape;obtain⟨ay,ly,cy,rfl⟩:=TN.shape;refine rZ (by simp) ?_;refine cQ hτ dx [.x 0,.x 1,.x 2,.x 3,.x 4,.x 5] (by kernel_rfl) (by kernel_rfl) ?_;refine cM (Φ:=fun _ w' v w2=>e7 w2 (Nw (Cv S w.heap.size []) w' w2) v (-y)) (fun O w' r=>ou (Rel.old r hS) (hyN.rel r hS)) ?_;rintro O w1 v1 w2 r he hw hm;have UR:e7 w2 (Cv S w.heap.size [(w1.heap.size,w2.heap.size)]) v1 (-y):=hm.cL fun _ hg=>Nw.cv hg r.cG;replace hxN:=hxN.cK (iv':=[(w1.heap.size,w2.heap.size)]) r hS he fun x hx=>aC _ hx;generalize [(w1.heap.size,w2.heap.size)]=iv at*
 have hmN2:=UR;obtain⟨am,lm,cm,rfl,-⟩:=UR.num;refine cM (Φ:=fun _ w' v w2=>e7 w2 (Nf w' w2) v (x+ -y)) (fun O w' r=>Cg (Rel.old r hS) (hxN.rel r hS) (hmN2.rel r hS) PO (by rw[Int.natAbs_neg];exact Qj)) ?_;rintro O w3 v3 w4 r he SZ hp;replace hw:=hw.tr SZ;have hpN:=hp.dF (S:=S) r.cG (iv:=(w3.heap.size,w4.heap.size)::iv) aG;have hpN2:=hpN;obtain⟨ap,lp,cp,rfl,-⟩:=hpN.num;refine cM (Φ:=fun _ _ v _=>v= .int .i64 (x-y).sign) (fun O w' r=>Av (hpN2.rel r hS)) ?_;rintro O w5 v5 w6 r he XO rfl;replace hw:=hw.tr XO;intro ρ7 w7 r7;exact⟨_,rfl,hw.tr r7.cU,rfl⟩
theorem ux(n:Int)(w:World)(h1: -9223372036854775808<=n)(h2:n<=9223372036854775807):
  eG PG N.xM #[.int .i64 n] w (eL w fun v' w2=>e7 w2 (Nf w w2) v' n):=by
 have key:∀(m:Nat),m=n.natAbs->m<18446744073709551616∧val [m % 4294967296,m / 4294967296]=n.natAbs∧m / 4294967296<4294967296:=fun m e=>by
  refine⟨by omega,?_,by omega⟩;simp only[val]
  omega
 refine AZ (by simp) ?_;refine⟨if n<0 then n+18446744073709551616 else n,by show n % 18446744073709551616=_;split<;>omega,?_⟩;refine dN.mk ?_ ?_<;>intro h
 ·have h:=aI h;rw[if_pos h];obtain⟨m,hm⟩:∃m,m=n.natAbs:=⟨_,rfl⟩
  obtain⟨k1,k2,k3⟩:=key m hm;refine⟨(m:Int),by show(0-(n+18446744073709551616)) % 18446744073709551616=_;omega,((m % 4294967296:Nat):Int),fT m,by decide,((m / 2^32:Nat):Int),lz 32 (by decide),((m / 4294967296:Nat):Int),by rw[fT,bO (by omega)],?_⟩;refine gN (Φ:=fun O _ v w2=>dV w2 (fun g=>g=(O 1).g) v (eA [m % 4294967296,m / 4294967296])) (H':=[(0,.box T.number [.v (.bool false),.v (.slice none 0 0)])]) 1 rfl (by simp) ⟨rfl,trivial⟩ rfl (fun O w' r=>r.nn 1 _ rfl (by intros;simp) (by simp)) (fun O w' r=>?_) ?_
  ·have hL:=r.ud (id:=1) (ls:=[m % 4294967296,m / 4294967296]) rfl (by intro x hx;simp at hx;omega) (by simp);exact fZ (fun g hg=>by rw[hg];exact(r.low 1 _ rfl (r.nn 1 _ rfl (by intros;simp) (by simp))).2) hL
  rintro O w1 v1 w2 r he hw hL;have Oa:=r.low 1 _ rfl (r.nn 1 _ rfl (by intros;simp) (by simp));have hs:=he.size;generalize (O 1).g=g0 at*
  have hN:eC w2 (Cf w [(g0,g0+1),(w1.heap.size,w2.heap.size)]) v1 n.natAbs:=by
   have:=hL.trimmed;rw[k2]at this;exact this.cL fun k hk=>.inr ⟨by omega,g0,g0+1,by simp,by omega,by omega⟩
  generalize [(g0,g0+1),(w1.heap.size,w2.heap.size)]=iv at*
  obtain⟨a3,n3,c3,rfl⟩:=hN.shape;intro ρ5 w5 r5;exact⟨_,rfl,hw.tr r5.cU,_,rfl,hN.out r5 (cF w)⟩
 ·have h:=aH h;rw[aJ h];obtain⟨m,hm⟩:∃m,m=n.natAbs:=⟨_,rfl⟩
  obtain⟨k1,k2,k3⟩:=key m hm;have RH:n=(m:Int):=by omega
  refine⟨((m % 4294967296:Nat):Int),by rw[RH];exact fT m,by decide,((m / 2^32:Nat):Int),by rw[RH];exact lz 32 (by decide),((m / 4294967296:Nat):Int),by rw[fT,bO (by omega)],?_⟩;refine gN (Φ:=fun O _ v w2=>dV w2 (fun g=>g=(O 1).g) v (eA [m % 4294967296,m / 4294967296])) (H':=[(0,.box T.number [.v (.bool false),.v (.slice none 0 0)])]) 1 rfl (by simp) ⟨rfl,trivial⟩ rfl (fun O w' r=>r.nn 1 _ rfl (by intros;simp) (by simp)) (fun O w' r=>?_) ?_
  ·have hL:=r.ud (id:=1) (ls:=[m % 4294967296,m / 4294967296]) rfl (by intro x hx;simp at hx;omega) (by simp);exact fZ (fun g hg=>by rw[hg];exact(r.low 1 _ rfl (r.nn 1 _ rfl (by intros;simp) (by simp))).2) hL
  rintro O w1 v1 w2 r he hw hL;have Oa:=r.low 1 _ rfl (r.nn 1 _ rfl (by intros;simp) (by simp));have hs:=he.size;generalize (O 1).g=g0 at*
  have hN:eC w2 (Cf w [(g0,g0+1),(w1.heap.size,w2.heap.size)]) v1 n.natAbs:=by
   have:=hL.trimmed;rw[k2]at this;exact this.cL fun k hk=>.inr ⟨by omega,g0,g0+1,by simp,by omega,by omega⟩
  generalize [(g0,g0+1),(w1.heap.size,w2.heap.size)]=iv at*
  obtain⟨a3,n3,c3,rfl⟩:=hN.shape;intro ρ5 w5 r5;exact⟨_,rfl,hw.tr r5.cU,_,rfl,hN.out r5 (cF w)⟩
def jn(w:World)(S:Nat->Prop)(v:Value)(z:Int):Prop:=∃neg ls,uq w S v neg ls∧sg neg (val ls)=z
def dS(w:World)(S:Nat->Prop)(v:Value)(z:Int):Prop:=∃ls,uq w S v (decide (z<0)) ls∧Nz ls∧val ls=z.natAbs
theorem Cj(z:Int):sg (decide (z<0)) z.natAbs=z:=by
 by_cases h:z<0
 ·rw[bh h,Lj];omega
 ·rw[bP h,aAP];omega
theorem dS.r(h:dS w S v z):jn w S v z:=by
 obtain⟨ls,h1,h2,h3⟩:=h;exact⟨_,ls,h1,by rw[h3,Cj]⟩
section
variable{S S':Nat->Prop}{H:Hp}{nx:Nat}{iv iv':Iv}{B:Nat}{w w' w2:World}{O:Nat->Sx.dw}{v:Value}{z:Int}{neg:Bool}{ls:List Nat}
theorem uq.cJ(h:uq w S v neg ls)(hk:∀g,S g->w2.heap[g]? =w.heap[g]?):uq w2 S v neg ls:=by
 obtain⟨lv,h1,h2⟩:=h;exact⟨lv,h1,h2.cJ hk⟩
theorem uq.cL(h:uq w S v neg ls)(hk:∀g,S g->S' g):uq w S' v neg ls:=by
 obtain⟨lv,h1,h2⟩:=h;exact⟨lv,h1,h2.cL hk⟩
theorem jn.cJ(h:jn w S v z)(hk:∀g,S g->w2.heap[g]? =w.heap[g]?):jn w2 S v z:=by
 obtain⟨n,l,h1,h2⟩:=h;exact⟨n,l,h1.cJ hk,h2⟩
theorem jn.cL(h:jn w S v z)(hk:∀g,S g->S' g):jn w S' v z:=by
 obtain⟨n,l,h1,h2⟩:=h;exact⟨n,l,h1.cL hk,h2⟩
theorem dS.cJ(h:dS w S v z)(hk:∀g,S g->w2.heap[g]? =w.heap[g]?):dS w2 S v z:=by
 obtain⟨l,h1,h2⟩:=h;exact⟨l,h1.cJ hk,h2⟩
theorem dS.cL(h:dS w S v z)(hk:∀g,S g->S' g):dS w S' v z:=by
 obtain⟨l,h1,h2⟩:=h;exact⟨l,h1.cL hk,h2⟩
theorem jn.rel(h:jn w (Cv S B iv) v z)(r:Rel H nx iv B w O w')(hS:∀g,S g->g<B):jn w' (Cv S B iv) v z:=h.cJ fun _ hg=>Rel.same r hS hg
theorem dS.rel(h:dS w (Cv S B iv) v z)(r:Rel H nx iv B w O w')(hS:∀g,S g->g<B):dS w' (Cv S B iv) v z:=h.cJ fun _ hg=>Rel.same r hS hg
theorem jn.cK(h:jn w (Cv S B iv) v z)(r:Rel H nx iv B w O w')(hS:∀g,S g->g<B)(he:Ext w' w2)(hm:∀p,p∈iv->p∈iv'):jn w2 (Cv S B iv') v z:=
 ((h.rel r hS).cJ fun g hg=>he.block g (Rel.old r hS g hg)).cL fun _ hg=>hg.mono hm
theorem dS.cK(h:dS w (Cv S B iv) v z)(r:Rel H nx iv B w O w')(hS:∀g,S g->g<B)(he:Ext w' w2)(hm:∀p,p∈iv->p∈iv'):dS w2 (Cv S B iv') v z:=
 ((h.rel r hS).cJ fun g hg=>he.block g (Rel.old r hS g hg)).cL fun _ hg=>hg.mono hm
theorem dS.dF(h:dS w2 (Nf w' w2) v z)(hB:B<=w'.heap.size)(hm:(w'.heap.size,w2.heap.size)∈iv):dS w2 (Cv S B iv) v z:=h.cL fun _ hg=>hg.dF hB hm
theorem jn.shape(h:jn w S v z):∃b a n c,v= .agg #[.bool b,.slice a n c]:=by
 obtain⟨b,l,⟨lv,h1,h2⟩,_⟩:=h;obtain⟨a,n,c,rfl⟩:=h2.shape;exact⟨b,a,n,c,h1⟩
theorem e7.old(h:e7 w2 (Nw (Cv S B iv) w' w2) v z)(hB:B<=w'.heap.size):e7 w2 (Cv S B ((w'.heap.size,w2.heap.size)::iv)) v z:=h.cL fun _ hg=>Nw.cv hg hB
end
theorem dS.out(h:dS w1 (Cv S w.heap.size iv) v z)(r:Rel H nx iv w.heap.size w1 O w')(hS:Old S w):dS w' (Nw S w w') v z:=
 (h.rel r hS).cL fun _ hg=>Cv.nw hg r
theorem Lt(hS:Old S w)(h:jn w S v z):eG PG N.AJ #[v] w (eL w fun v' w2=>e7 w2 (Nw S w w2) v' z):=by
 obtain⟨n,l,h1,rfl⟩:=h;exact aAw hS h1
theorem e7.shape(h:e7 w S v z):∃b a n c,v= .agg #[.bool b,.slice a n c]:=by
 obtain⟨a,n,c,h1,_⟩:=h.num;exact⟨_,a,n,c,h1⟩
theorem dS.shape(h:dS w S v z):∃b a n c,v= .agg #[.bool b,.slice a n c]:=h.r.shape
theorem dE(x y:Int):ln (x*y).natAbs<=ln x.natAbs+ln y.natAbs:=by
 rw[Int.natAbs_mul];exact OT _ _
end Go.Ex
namespace Go.Ex
open Go Go.Sx
theorem z4{x y:Int}(hy:0<y)(hx:x≠0):
  (Rat.divInt x y).num.natAbs=x.natAbs / Nat.gcd x.natAbs y.natAbs∧(Rat.divInt x y).den=y.natAbs / Nat.gcd x.natAbs y.natAbs∧decide ((Rat.divInt x y).num<0)=decide (x<0):=by
 have hg:0<Nat.gcd x.natAbs y.natAbs:=bq _ (by omega);have hs:y.sign=1:=bp hy;have hc:(y.gcd x:Int)=(Nat.gcd x.natAbs y.natAbs:Nat):=by rw[Int.gcd_comm];rfl
 have hdx:((Nat.gcd x.natAbs y.natAbs:Nat):Int) ∣ x:=by
  rw[<-Int.natAbs_dvd_natAbs];exact Nat.gcd_dvd_left _ _
 have h1:(Rat.divInt x y).num=x / ((Nat.gcd x.natAbs y.natAbs:Nat):Int):=by
  rw[Rat.num_divInt,hs,Int.one_mul,hc]
 have hgi:0<((Nat.gcd x.natAbs y.natAbs:Nat):Int):=by omega
 refine⟨?_,?_,?_⟩
 ·rw[h1,Int.natAbs_ediv_of_dvd hdx];rfl
 ·rw[Rat.den_divInt,aJ (by omega)];have:y.gcd x=Nat.gcd x.natAbs y.natAbs:=by rw[Int.gcd_comm];rfl
  rw[this]
 ·rw[h1];obtain⟨k,hk⟩:=hdx;refine decide_eq_decide.2 ?_;have:x / ((Nat.gcd x.natAbs y.natAbs:Nat):Int)=k:=by
   conv=>lhs;lhs;rw[hk]
   exact Int.mul_ediv_cancel_left _ (by omega)
  rw[this];generalize ((Nat.gcd x.natAbs y.natAbs:Nat):Int)=g at*
  subst hk;constructor
  ·intro h;exact Int.mul_neg_of_pos_of_neg hgi h
  ·intro h;have h0:¬0<=k:=fun hh=>by have:=Int.mul_nonneg (show 0<=g by omega) hh;omega
   omega
theorem JK{a b:Nat}:ln (a / b)<=ln a:=fX (Nat.div_le_self a b)
theorem z5(y:Int):Rat.divInt 0 y=0:=Rat.zero_divInt y
end Go.Ex
namespace Go.Ex
open Go Go.Sx Go.Proofs
variable{b b2:Bool}{S:Nat->Prop}{q:Rat}{dv nv v:Value}{w:World}
theorem eC.old{B:Nat}{iv:Iv}{w' w2:World}{n:Nat}(h:eC w2 (Nw (Cv S B iv) w' w2) v n)(hB:B<=w'.heap.size):eC w2 (Cv S B ((w'.heap.size,w2.heap.size)::iv)) v n:=h.cL fun _ hg=>Nw.cv hg hB
def cZ(w:World)(S:Nat->Prop)(v:Value)(q:Rat):Prop:=∃nv dv,v= .agg #[.bool (decide (q.num<0)),nv,.bool false,dv]∧eC w S nv q.num.natAbs∧eC w S dv q.den
theorem cZ.cJ{w2:World}(h:cZ w S v q)(hk:∀g,S g->w2.heap[g]? =w.heap[g]?):cZ w2 S v q:=by
 obtain⟨n,d,h1,h2,h3⟩:=h;exact⟨n,d,h1,h2.cJ hk,h3.cJ hk⟩
theorem cZ.cL{S':Nat->Prop}(h:cZ w S v q)(hk:∀g,S g->S' g):cZ w S' v q:=by
 obtain⟨n,d,h1,h2,h3⟩:=h;exact⟨n,d,h1,h2.cL hk,h3.cL hk⟩
theorem cZ.shape(h:cZ w S v q):∃b a n c b2 a2 n2 c2,v= .agg #[.bool b,.slice a n c,.bool b2,.slice a2 n2 c2]:=by
 obtain⟨n,d,h1,h2,h3⟩:=h;obtain⟨a,n,c,rfl⟩:=h2.shape;obtain⟨a2,n2,c2,rfl⟩:=h3.shape;exact⟨_,a,n,c,_,a2,n2,c2,h1⟩
theorem cZ.num(h:cZ w S (.agg #[.bool b,nv,.bool b2,dv]) q):e7 w S (.agg #[.bool b,nv]) q.num:=by
 obtain⟨n,d,h1,h2,h3⟩:=h;simp at h1;obtain⟨rfl,rfl,rfl,rfl⟩:=h1;exact⟨_,rfl,h2⟩
theorem cZ.den(h:cZ w S (.agg #[.bool b,nv,.bool b2,dv]) q):e7 w S (.agg #[.bool b2,dv]) (q.den:Int):=by
 obtain⟨n,d,h1,h2,h3⟩:=h;simp at h1;obtain⟨rfl,rfl,rfl,rfl⟩:=h1;exact⟨_,by rw[bP (by omega)],h3⟩
theorem cZ.of(h:e7 w S (.agg #[.bool b,nv]) q.num)(k:e7 w S (.agg #[.bool b2,dv]) (q.den:Int)):cZ w S (.agg #[.bool b,nv,.bool b2,dv]) q:=by
 obtain⟨n,h1,h2⟩:=h;obtain⟨d,h3,h4⟩:=k;simp at h1 h3;obtain⟨rfl,rfl⟩:=h1;obtain⟨rfl,rfl⟩:=h3;refine⟨_,_,?_,h2,h4⟩;rw[bP (show ¬((q.den:Int)<0) by omega)]
section
variable{S S':Nat->Prop}{H:Hp}{nx:Nat}{iv iv':Iv}{B:Nat}{w w' w2:World}{O:Nat->Sx.dw}{v:Value}{q:Rat}
theorem cZ.rel(h:cZ w (Cv S B iv) v q)(r:Rel H nx iv B w O w')(hS:∀g,S g->g<B):cZ w' (Cv S B iv) v q:=h.cJ fun _ hg=>Rel.same r hS hg
theorem cZ.cK(h:cZ w (Cv S B iv) v q)(r:Rel H nx iv B w O w')(hS:∀g,S g->g<B)(he:Ext w' w2)(hm:∀p,p∈iv->p∈iv'):cZ w2 (Cv S B iv') v q:=
 ((h.rel r hS).cJ fun g hg=>he.block g (Rel.old r hS g hg)).cL fun _ hg=>hg.mono hm
theorem cZ.dF(h:cZ w2 (Nf w' w2) v q)(hB:B<=w'.heap.size)(hm:(w'.heap.size,w2.heap.size)∈iv):cZ w2 (Cv S B iv) v q:=h.cL fun _ hg=>hg.dF hB hm
theorem cZ.old(h:cZ w2 (Nw (Cv S B iv) w' w2) v q)(hB:B<=w'.heap.size):cZ w2 (Cv S B ((w'.heap.size,w2.heap.size)::iv)) v q:=h.cL fun _ hg=>Nw.cv hg hB
theorem cZ.out{w0 w1:World}(h:cZ w1 (Cv S w0.heap.size iv) v q)(r:Rel H nx iv w0.heap.size w1 O w')(hS:Old S w0):cZ w' (Nw S w0 w') v q:=
 (h.rel r hS).cL fun _ hg=>Cv.nw hg r
theorem cZ.arg(h:cZ w S v q)(iv:Iv):cZ w (Cv S w.heap.size iv) v q:=h.cL fun _ h=>.inl h
end
theorem e7.nat{z:Int}(h:e7 w S (.agg #[.bool b,nv]) z):b=decide (z<0)∧eC w S nv z.natAbs:=by
 obtain⟨n,h1,h2⟩:=h;simp at h1;obtain⟨rfl,rfl⟩:=h1;exact⟨rfl,h2⟩
theorem BA{u:Value}{x y:Int}(hS:Old S w)(hx:e7 w S v x)(hy:e7 w S u y)(QH:y≠0)(PO:ln x.natAbs<=100000000000)(Qj:ln y.natAbs<=100000000000):
  eG PG N.AG #[v,u] w (eL w fun v' w2=>cZ w2 (Nf w w2) v' (Rat.divInt x y)):=by
 have hw:=bR w;replace hx:=hx.cL (S':=Cv S w.heap.size []) fun _ h=>.inl h;replace hy:=hy.cL (S':=Cv S w.heap.size []) fun _ h=>.inl h;obtain⟨bx,ax,lx,cx,rfl⟩:=hx.shape;obtain⟨b2,ay,ly,cy,rfl⟩:=hy.shape;have QW:=hy.nat.1;refine B1 (by simp) ?_
 cases b2
 ·have hyp:0<y:=by have:=aH QW.symm;omega
  have hq:Rat.divInt x y=Rat.divInt x y:=rfl;have hbA:=hx.nat.1;refine cH (cE hw (fun _ w' v w2=>v= .int .i64 (x).sign) (fun O w' r=>Av (hx.rel r hS)) ?_);rintro O QU v1 QJ Og r he hw h_ rfl;replace hx:=hx.cK r hS he (mC h_);replace hy:=hy.cK r hS he (mC h_);refine dN.mk ?_ ?_<;>intro h
  ·have h:x=0:=bm.1 (eq_of_beq h);refine cH (cE hw (fun _ w' v w2=>e7 w2 (Nf w' w2) v 1) (fun O w' r=>ux 1 w' (by decide) (by decide)) ?_);rintro O QQ v2 Pn OX r he hw h_ hn;have hO:=hn.dF (S:=FF) r.cG (mN h_);obtain⟨A0,A1,A2,A3,rfl⟩:=hO.shape;have e0:Rat.divInt x y=0:=by rw[hq,h,z5]
   exact rtn hw fun ρe we re=>by rw[e0];exact cZ.of ⟨_,rfl,eC.nil _ _⟩ (hO.out re (cF w))
  ·have h:x≠0:=fun e=>by rw[e]at h;exact absurd h (by decide)
   obtain⟨g1,g2,g3⟩:=z4 hyp h;have TO:0<Nat.gcd (x).natAbs (y).natAbs:=bq _ (by omega);have Wn:=hx.nat.2;have Ue:=hy.nat.2;refine cH (cM (Φ:=fun _ w' v w2=>eC w2 (Nw (Cv S w.heap.size Og) w' w2) v (Nat.gcd (x).natAbs (y).natAbs)) (fun O w' r=>Fl (Rel.old r hS) (Wn.rel r hS) (Ue.rel r hS) (by omega) (by omega)) ?_);rintro O QQ v2 Pn r he hb hn;replace hw:=hw.tr hb;replace Wn:=Wn.cK (iv':=(QQ.heap.size,Pn.heap.size)::Og) r hS he fun x hx=>aC _ hx;replace Ue:=Ue.cK (iv':=(QQ.heap.size,Pn.heap.size)::Og) r hS he fun x hx=>aC _ hx;have hG:=hn.old r.cG;generalize (QQ.heap.size,Pn.heap.size)::Og=OX at*
   obtain⟨A0,A1,A2,rfl⟩:=hG.shape;refine cH (cM (Φ:=fun _ w' v w2=>∃q r,v= .tuple #[q,r]∧eC w2 (Nf w' w2) q ((x).natAbs / Nat.gcd (x).natAbs (y).natAbs)∧eC w2 (Nw (Cv S w.heap.size OX) w' w2) r ((x).natAbs % Nat.gcd (x).natAbs (y).natAbs)) (fun O w' r=>qe (Rel.old r hS) (Wn.rel r hS) (hG.rel r hS) TO (by omega)) ?_);rintro O Pz v3 Px r he hb ⟨qvp,rvp,rfl,Rl,SG⟩;replace hw:=hw.tr hb;replace Ue:=Ue.cK (iv':=(Pz.heap.size,Px.heap.size)::OX) r hS he fun x hx=>aC _ hx;replace hG:=hG.cK (iv':=(Pz.heap.size,Px.heap.size)::OX) r hS he fun x hx=>aC _ hx;have hP:=Rl.dF (S:=FF) r.cG (iv:=(Pz.heap.size,Px.heap.size)::OX) aG;have Wo:=SG.old r.cG;generalize (Pz.heap.size,Px.heap.size)::OX=Oh at*
   obtain⟨s3_0a,s3_0b,s3_0c,rfl⟩:=hP.shape;obtain⟨s3_1a,s3_1b,s3_1c,rfl⟩:=Wo.shape;refine cH (cM (Φ:=fun _ w' v w2=>∃q r,v= .tuple #[q,r]∧eC w2 (Nf w' w2) q ((y).natAbs / Nat.gcd (x).natAbs (y).natAbs)∧eC w2 (Nw (Cv S w.heap.size Oh) w' w2) r ((y).natAbs % Nat.gcd (x).natAbs (y).natAbs)) (fun O w' r=>qe (Rel.old r hS) (Ue.rel r hS) (hG.rel r hS) TO (by omega)) ?_);rintro O Ro v4 Qh r he hb ⟨qvq,rvq,rfl,Rl,SG⟩;replace hw:=hw.tr hb;replace hP:=hP.cK (iv':=(Ro.heap.size,Qh.heap.size)::Oh) r (cF w) he fun x hx=>aC _ hx;have hQ:=Rl.dF (S:=FF) r.cG (iv:=(Ro.heap.size,Qh.heap.size)::Oh) aG;have hQr:=SG.old r.cG;generalize (Ro.heap.size,Qh.heap.size)::Oh=On at*
   obtain⟨s4_0a,s4_0b,s4_0c,rfl⟩:=hQ.shape;obtain⟨s4_1a,s4_1b,s4_1c,rfl⟩:=hQr.shape;exact rtn hw fun ρe we re=>by rw[hq];exact cZ.of ⟨_,by rw[g3,<-hbA],by rw[g1];exact hP.out re (cF w)⟩ ⟨_,by rw[bP (by omega)],by rw[g2];exact hQ.out re (cF w)⟩
 ·have hyp:0< -y:=by have:=aI QW.symm;omega
  have hq:Rat.divInt x y=Rat.divInt (-x) (-y):=(Rat.neg_divInt_neg _ _).symm;have nx:=Int.natAbs_neg x;have ny:=Int.natAbs_neg y;have hlx2:ln (-x).natAbs<=100000000000:=by rw[nx];exact PO
  have hly2:ln (-y).natAbs<=100000000000:=by rw[ny];exact Qj
  refine cQ hτ dx [.x 0,.x 2,.x 1,.x 3,.x 4,.x 5] (by kernel_rfl) (by kernel_rfl) ?_;refine cM (Φ:=fun _ w' v w2=>e7 w2 (Nw (Cv S w.heap.size []) w' w2) v (-x)) (fun O w' r=>ou (Rel.old r hS) (hx.rel r hS)) ?_;rintro O QU v1 QJ r he hb hn;replace hw:=hw.tr hb;replace hy:=hy.cK (iv':=(QU.heap.size,QJ.heap.size)::[]) r hS he fun x hx=>aC _ hx;have hA:=hn.old r.cG;generalize (QU.heap.size,QJ.heap.size)::[]=Og at*
  obtain⟨C0,C1,C2,C3,rfl⟩:=hA.shape;refine cM (Φ:=fun _ w' v w2=>e7 w2 (Nw (Cv S w.heap.size Og) w' w2) v (-y)) (fun O w' r=>ou (Rel.old r hS) (hy.rel r hS)) ?_;rintro O QQ v2 Pn r he hb hn;replace hw:=hw.tr hb;replace hA:=hA.cK (iv':=(QQ.heap.size,Pn.heap.size)::Og) r hS he fun x hx=>aC _ hx;have hB:=hn.old r.cG;generalize (QQ.heap.size,Pn.heap.size)::Og=OX at*
  obtain⟨A0,A1,A2,A3,rfl⟩:=hB.shape;have hbA:=hA.nat.1;refine cH (cE hw (fun _ w' v w2=>v= .int .i64 (-x).sign) (fun O w' r=>Av (hA.rel r hS)) ?_);rintro O _ _ _ Oh r he hw h_ rfl;replace hA:=hA.cK r hS he (mC h_);replace hB:=hB.cK r hS he (mC h_);refine dN.mk ?_ ?_<;>intro h
  ·have h: -x=0:=bm.1 (eq_of_beq h);refine cH (cE hw (fun _ w' v w2=>e7 w2 (Nf w' w2) v 1) (fun O w' r=>ux 1 w' (by decide) (by decide)) ?_);rintro O Ro v4 Qh On r he hw h_ hn;have hO:=hn.dF (S:=FF) r.cG (mN h_);obtain⟨E0,E1,E2,E3,rfl⟩:=hO.shape;have e0:Rat.divInt x y=0:=by rw[hq,h,z5]
   exact rtn hw fun ρe we re=>by rw[e0];exact cZ.of ⟨_,rfl,eC.nil _ _⟩ (hO.out re (cF w))
  ·have h: -x≠0:=fun e=>by rw[e]at h;exact absurd h (by decide)
   obtain⟨g1,g2,g3⟩:=z4 hyp h;have TO:0<Nat.gcd (-x).natAbs (-y).natAbs:=bq _ (by omega);have Wn:=hA.nat.2;have Ue:=hB.nat.2;refine cH (cM (Φ:=fun _ w' v w2=>eC w2 (Nw (Cv S w.heap.size Oh) w' w2) v (Nat.gcd (-x).natAbs (-y).natAbs)) (fun O w' r=>Fl (Rel.old r hS) (Wn.rel r hS) (Ue.rel r hS) (by omega) (by omega)) ?_);rintro O Ro v4 Qh r he hb hn;replace hw:=hw.tr hb;replace Wn:=Wn.cK (iv':=(Ro.heap.size,Qh.heap.size)::Oh) r hS he fun x hx=>aC _ hx;replace Ue:=Ue.cK (iv':=(Ro.heap.size,Qh.heap.size)::Oh) r hS he fun x hx=>aC _ hx;have hG:=hn.old r.cG;generalize (Ro.heap.size,Qh.heap.size)::Oh=On at*
   obtain⟨E0,E1,E2,rfl⟩:=hG.shape;refine cH (cM (Φ:=fun _ w' v w2=>∃q r,v= .tuple #[q,r]∧eC w2 (Nf w' w2) q ((-x).natAbs / Nat.gcd (-x).natAbs (-y).natAbs)∧eC w2 (Nw (Cv S w.heap.size On) w' w2) r ((-x).natAbs % Nat.gcd (-x).natAbs (-y).natAbs)) (fun O w' r=>qe (Rel.old r hS) (Wn.rel r hS) (hG.rel r hS) TO (by omega)) ?_);rintro O Tf v5 UH r he hb ⟨qvp,rvp,rfl,Rl,SG⟩;replace hw:=hw.tr hb;replace Ue:=Ue.cK (iv':=(Tf.heap.size,UH.heap.size)::On) r hS he fun x hx=>aC _ hx;replace hG:=hG.cK (iv':=(Tf.heap.size,UH.heap.size)::On) r hS he fun x hx=>aC _ hx;have hP:=Rl.dF (S:=FF) r.cG (iv:=(Tf.heap.size,UH.heap.size)::On) aG;have Wo:=SG.old r.cG;generalize (Tf.heap.size,UH.heap.size)::On=PN at*
   obtain⟨s5_0a,s5_0b,s5_0c,rfl⟩:=hP.shape;obtain⟨s5_1a,s5_1b,s5_1c,rfl⟩:=Wo.shape;refine cH (cM (Φ:=fun _ w' v w2=>∃q r,v= .tuple #[q,r]∧eC w2 (Nf w' w2) q ((-y).natAbs / Nat.gcd (-x).natAbs (-y).natAbs)∧eC w2 (Nw (Cv S w.heap.size PN) w' w2) r ((-y).natAbs % Nat.gcd (-x).natAbs (-y).natAbs)) (fun O w' r=>qe (Rel.old r hS) (Ue.rel r hS) (hG.rel r hS) TO (by omega)) ?_);rintro O SQ v6 S6 r he hb ⟨qvq,rvq,rfl,Rl,SG⟩;replace hw:=hw.tr hb;replace hP:=hP.cK (iv':=(SQ.heap.size,S6.heap.size)::PN) r (cF w) he fun x hx=>aC _ hx;have hQ:=Rl.dF (S:=FF) r.cG (iv:=(SQ.heap.size,S6.heap.size)::PN) aG;have hQr:=SG.old r.cG;generalize (SQ.heap.size,S6.heap.size)::PN=RI at*
   obtain⟨s6_0a,s6_0b,s6_0c,rfl⟩:=hQ.shape;obtain⟨s6_1a,s6_1b,s6_1c,rfl⟩:=hQr.shape;exact rtn hw fun ρe we re=>by rw[hq];exact cZ.of ⟨_,by rw[g3,<-hbA],by rw[g1];exact hP.out re (cF w)⟩ ⟨_,by rw[bP (by omega)],by rw[g2];exact hQ.out re (cF w)⟩
end Go.Ex
namespace Go.Ex
open Go Go.Sx
variable{a b:Int}
def rl(q:Rat):Nat:=max (ln q.num.natAbs) (ln q.den)
theorem gP(q:Rat):ln q.num.natAbs<=rl q:=Nat.le_max_left _ _
theorem aAI(q:Rat):ln q.den<=rl q:=Nat.le_max_right _ _
theorem fY(q:Rat):ln ((q.den:Int)).natAbs<=rl q:=Nat.le_max_right _ _
theorem lM(hb:b≠0):rl (Rat.divInt a b)<=max (ln a.natAbs) (ln b.natAbs):=by
 have h1:ln (Rat.divInt a b).num.natAbs<=ln a.natAbs:=by
  rw[Rat.num_divInt];refine fX (aX (Int.natAbs_ediv_le_natAbs _ _) ?_);rw[Int.natAbs_mul,Int.natAbs_sign_of_ne_zero hb,Nat.one_mul];exact Nat.le_refl _
 have h2:ln (Rat.divInt a b).den<=ln b.natAbs:=by
  rw[Rat.den_divInt,aJ hb];exact JK
 unfold rl;omega
theorem jJ(x y:Int):ln (x+y).natAbs<=max (ln x.natAbs) (ln y.natAbs)+1:=by
 have h1:=OS x.natAbs y.natAbs;have h2:=fX (show (x+y).natAbs<=x.natAbs+y.natAbs by omega);omega
theorem iB(q:Rat):(q.den:Int)≠0:=by have:=q.den_pos;omega
theorem tx(f g:Rat):f+g=Rat.divInt (f.num*g.den+g.num*f.den) (f.den*g.den):=by
 rw[<-Rat.divInt_add_divInt _ _ (iB f) (iB g),Rat.num_divInt_den,Rat.num_divInt_den]
theorem yY(f g:Rat):f*g=Rat.divInt (f.num*g.num) (f.den*g.den):=by
 rw[<-Rat.divInt_mul_divInt,Rat.num_divInt_den,Rat.num_divInt_den]
theorem IN(f g:Rat):f / g=Rat.divInt (f.num*g.den) (f.den*g.num):=by
 rw[<-Rat.divInt_mul_divInt,Rat.num_divInt_den,<-Rat.inv_def,<-bo]
theorem ki(ha:a≠0)(hb:b≠0):a*b≠0:=Int.mul_ne_zero ha hb
theorem mw(f g:Rat):rl (f+g)<=rl f+rl g+1:=by
 have h:=lM (a:=f.num*g.den+g.num*f.den) (ki (iB f) (iB g));rw[<-tx]at h;have h1:=jJ (f.num*g.den) (g.num*f.den);have h2:=dE f.num g.den;have h3:=dE g.num f.den;have h4:=dE f.den g.den;have:=gP f;have:=gP g;have:=fY f;have:=fY g;omega
theorem ic(f g:Rat):rl (f*g)<=rl f+rl g:=by
 have h:=lM (a:=f.num*g.num) (ki (iB f) (iB g));rw[<-yY]at h;have h2:=dE f.num g.num;have h4:=dE f.den g.den;have:=gP f;have:=gP g;have:=fY f;have:=fY g;omega
theorem LD(f:Rat){g:Rat}(hg:g≠0):rl (f / g)<=rl f+rl g:=by
 have h:=lM (a:=f.num*g.den) (ki (iB f) (fun e=>hg (Rat.num_eq_zero.1 e)));rw[<-IN]at h;have h2:=dE f.num g.den;have h4:=dE f.den g.num;have:=gP f;have:=gP g;have:=fY f;have:=fY g;omega
theorem oZ(f:Rat):rl (-f)=rl f:=by unfold rl;rw[Rat.neg_num,Rat.neg_den,Int.natAbs_neg]
theorem zp(f g:Rat):rl (f-g)<=rl f+rl g+1:=by
 rw[Rat.sub_eq_add_neg];have:=mw f (-g);rw[oZ]at this;exact this
def rs(q:Rat):Int:=q.num.sign
theorem tz(hb:0<b):(Rat.divInt a b).num.sign=a.sign:=by
 by_cases ha:a=0
 ·subst ha;rw[z5];rfl
 ·obtain⟨h1,-,h3⟩:=z4 hb ha;have h3:=decide_eq_decide.1 h3;have h0:(Rat.divInt a b).num≠0:=fun e=>by
   have h4:=Nat.div_pos (Nat.le_of_dvd (by omega) (Nat.gcd_dvd_left a.natAbs b.natAbs)) (bq a.natAbs (n:=b.natAbs) (by omega));omega
  rcases Int.lt_or_gt_of_ne ha with h|h
  ·rw[bl h,bl (h3.2 h)]
  ·rw[bp h,bp (by omega)]
theorem Mw(f g:Rat):(f.num*g.den-g.num*f.den).sign=rs (f-g):=by
 rw[rs,Rat.sub_eq_add_neg,tx,tz (Int.mul_pos (by have:=f.den_pos;omega) (by rw[Rat.neg_den];have:=g.den_pos;omega)),Rat.neg_num,Rat.neg_den,Int.neg_mul,<-Int.sub_eq_add_neg]
def ratio(a b:Int):Rat:=if b=0 then Rat.divInt a 1 else Rat.divInt a b
theorem iK(a b:Int):rl (ratio a b)<=max (ln a.natAbs) (max 1 (ln b.natAbs)):=by
 unfold ratio;split
 ·have:=lM (a:=a) (b:=1) (by decide);have h1:ln (1:Int).natAbs=1:=by decide
  rw[h1]at this;omega
 ·rename_i h;have:=lM (a:=a) h;omega
end Go.Ex
