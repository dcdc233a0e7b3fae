/- Texts X10 to L5: lemmas, each with its conditions. -/
import Derived.Test.YtgkpbdkechfgmaaGreatP3
namespace Go.Ex
open Go Go.Sx Go.Proofs
variable{k n x:Nat}
def iK(n:Nat):Nat:=if n=0 then 0 else n.log2+1
theorem aAY(h:2^k<=x):x.log2=(x / 2^k).log2+k:=by
 have hp:=bz k;have hy:x / 2^k≠0:=by have:=Nat.div_pos h hp;omega
 have h1:=Nat.log2_self_le hy;have h2:=@Nat.lt_log2_self (x / 2^k);rw[Nat.log2_eq_iff (by omega)];refine⟨?_,?_⟩
 ·rw[Nat.pow_add];exact(Nat.le_div_iff_mul_le hp).1 h1
 ·rw[show (x / 2^k).log2+k+1=(x / 2^k).log2+1+k by omega,Nat.pow_add];exact(Nat.div_lt_iff_lt_mul hp).1 h2
theorem Cz(h:2^k<=x):iK x=k+iK (x / 2^k):=by
 have hp:=bz k;have hy:x / 2^k≠0:=by have:=Nat.div_pos h hp;omega
 rw[iK,iK,aK hy,aK (by omega),aAY h];omega
theorem Ay(h:n<256):IntKind.u8.wrap (n:Int)=(n:Int):=by
 show((n:Int) % 256)=_;omega
theorem Az(h:n<256):(UInt8.ofNat (iK n)).toNat=iK n:=by
 have:∀n,n<256->(UInt8.ofNat (iK n)).toNat=iK n:=by decide +kernel
 exact this n h
theorem qJ(h:x<256):iK x<=8:=by
 have:∀n,n<256->iK n<=8:=by decide +kernel
 exact this x h
theorem LW(n:Nat)(h:n<256):(⟨#[0,1,2,2,3,3,3,3,4,4,4,4,4,4,4,4,5,5,5,5,5,5,5,5,5,5,5,5,5,5,5,5,6,6,6,6,6,6,6,6,6,6,6,6,6,6,6,6,6,6,6,6,6,6,6,6,6,6,6,6,6,6,6,6,7,7,7,7,7,7,7,7,7,7,7,7,7,7,7,7,7,7,7,7,7,7,7,7,7,7,7,7,7,7,7,7,7,7,7,7,7,7,7,7,7,7,7,7,7,7,7,7,7,7,7,7,7,7,7,7,7,7,7,7,7,7,7,7,8,8,8,8,8,8,8,8,8,8,8,8,8,8,8,8,8,8,8,8,8,8,8,8,8,8,8,8,8,8,8,8,8,8,8,8,8,8,8,8,8,8,8,8,8,8,8,8,8,8,8,8,8,8,8,8,8,8,8,8,8,8,8,8,8,8,8,8,8,8,8,8,8,8,8,8,8,8,8,8,8,8,8,8,8,8,8,8,8,8,8,8,8,8,8,8,8,8,8,8,8,8,8,8,8,8,8,8,8,8,8,8,8,8,8,8,8,8,8,8,8,8,8,8,8,8,8,8]⟩:ByteArray)[((n:Nat):Int).toNat]? =some (UInt8.ofNat (iK n)):=by
 have:∀n,n<256->(⟨#[0,1,2,2,3,3,3,3,4,4,4,4,4,4,4,4,5,5,5,5,5,5,5,5,5,5,5,5,5,5,5,5,6,6,6,6,6,6,6,6,6,6,6,6,6,6,6,6,6,6,6,6,6,6,6,6,6,6,6,6,6,6,6,6,7,7,7,7,7,7,7,7,7,7,7,7,7,7,7,7,7,7,7,7,7,7,7,7,7,7,7,7,7,7,7,7,7,7,7,7,7,7,7,7,7,7,7,7,7,7,7,7,7,7,7,7,7,7,7,7,7,7,7,7,7,7,7,7,8,8,8,8,8,8,8,8,8,8,8,8,8,8,8,8,8,8,8,8,8,8,8,8,8,8,8,8,8,8,8,8,8,8,8,8,8,8,8,8,8,8,8,8,8,8,8,8,8,8,8,8,8,8,8,8,8,8,8,8,8,8,8,8,8,8,8,8,8,8,8,8,8,8,8,8,8,8,8,8,8,8,8,8,8,8,8,8,8,8,8,8,8,8,8,8,8,8,8,8,8,8,8,8,8,8,8,8,8,8,8,8,8,8,8,8,8,8,8,8,8,8,8,8,8,8,8,8]⟩:ByteArray)[n]? =some (UInt8.ofNat (iK n)):=by decide +kernel
 exact this n h
theorem aBr(x:Nat)(w:World)(hx:x<4294967296):eA PG N.CY #[.int .u32 x] w (eL w fun v _=>v= .int .i64 (iK x)):=by
 refine Dm (by simp) ?_;refine dG.mk ?_ ?_<;>intro h
 ·have h:65536<=x:=by have:=aH h;omega
  refine⟨by decide,((x / 2^16:Nat):Int),qK 16 (by decide),?_⟩;have hb:=Cz (k:=16) h;have hy:x / 2^16<65536:=by omega
  rw[hb];generalize x / 2^16=y at*
  refine dG.mk ?_ ?_<;>intro h2
  ·have h2:256<=y:=by have:=aH h2;omega
   refine⟨by decide,((y / 2^8:Nat):Int),qK 8 (by decide),?_⟩;have RG:=Cz (k:=8) h2;have hz:y / 2^8<256:=by omega
   rw[RG];generalize y / 2^8=z at*
   refine⟨24,by decide,(z:Int),Ay hz,?_⟩;refine tA (b:=UInt8.ofNat (iK z)) ((hτ _ _ rfl).i3 rfl) rfl rfl (by omega) (LW z hz) (fun ρ1 w1 r1=>?_);rw[Az hz];have ht:=qJ hz;refine⟨(iK z:Int),wo,((24+iK z:Nat):Int),wo,?_⟩;intro ρ3 w3 r3;exact⟨_,rfl,r1.cS.tr r3.cS,by rw[<-Nat.add_assoc];rfl⟩
  ·have hy:y<256:=by have:=aG h2;omega
   refine⟨(y:Int),Ay hy,?_⟩;refine tA (b:=UInt8.ofNat (iK y)) ((hτ _ _ rfl).i3 rfl) rfl rfl (by omega) (LW y hy) (fun ρ1 w1 r1=>?_);rw[Az hy];have ht:=qJ hy;refine⟨(iK y:Int),wo,((16+iK y:Nat):Int),wo,?_⟩;intro ρ3 w3 r3;exact⟨_,rfl,r1.cS.tr r3.cS,by rfl⟩
 ·have h:x<65536:=by have:=aG h;omega
  refine dG.mk ?_ ?_<;>intro h2
  ·have h2:256<=x:=by have:=aH h2;omega
   refine⟨by decide,((x / 2^8:Nat):Int),qK 8 (by decide),?_⟩;have RG:=Cz (k:=8) h2;have hz:x / 2^8<256:=by omega
   rw[RG];generalize x / 2^8=z at*
   refine⟨8,by decide,(z:Int),Ay hz,?_⟩;refine tA (b:=UInt8.ofNat (iK z)) ((hτ _ _ rfl).i3 rfl) rfl rfl (by omega) (LW z hz) (fun ρ1 w1 r1=>?_);rw[Az hz];have ht:=qJ hz;refine⟨(iK z:Int),wo,((8+iK z:Nat):Int),wo,?_⟩;intro ρ3 w3 r3;exact⟨_,rfl,r1.cS.tr r3.cS,by rfl⟩
  ·have hx:x<256:=by have:=aG h2;omega
   refine⟨(x:Int),Ay hx,?_⟩;refine tA (b:=UInt8.ofNat (iK x)) ((hτ _ _ rfl).i3 rfl) rfl rfl (by omega) (LW x hx) (fun ρ1 w1 r1=>?_);rw[Az hx];have ht:=qJ hx;refine⟨(iK x:Int),wo,((0+iK x:Nat):Int),wo,?_⟩;intro ρ3 w3 r3;exact⟨_,rfl,r1.cS.tr r3.cS,by rw[aW];rfl⟩
theorem Ao:iK x<=k↔x<2^k:=by
 unfold iK;by_cases h:x=0
 ·rw[if_pos h,h];exact⟨fun _=>bz k,fun _=>aO _⟩
 ·rw[aK h];constructor
  ·intro h1;exact(Nat.log2_lt h).1 (by omega)
  ·intro h1;have:=(Nat.log2_lt h).2 h1;omega
theorem aDA(x:Nat)(w:World)(hx:x<4294967296):eA PG N.mB #[.int .u32 x] w (eL w fun v _=>v= .int .i64 ((32-iK x:Nat):Int)):=by
 refine qI (by simp) ?_;refine cH (cP (Φ:=fun _ _ v _=>v= .int .i64 (iK x)) (fun O w' r=>aBr x w' hx) ?_);rintro O w' v w2 r he hb rfl;have h32:iK x<=32:=Ao.2 hx;refine⟨((32-iK x:Nat):Int),wo,?_⟩;intro ρ3 w3 r3;exact⟨_,rfl,hb.tr r3.cS,rfl⟩
end Go.Ex
namespace Go.Sx
open Go Go.Ex Go.Proofs
variable{ls:List Nat}{O:Nat->Sx.eE}
theorem Rel.aAZ{H:Hp}{nx:Nat}{iv:Iv}{B:Nat}{w w':World}(r:Rel H nx iv B w O w'){id t m:Nat}(h:dM H id=some (.vec t 1 (U ls)))(hm:m=ls.length)(Ps:Lm ls)(hle:ls.length<=9223372036854775807):
  dV w' (fun g=>B<=g∧g<w'.heap.size) ((At.w id m).den O) ls:=by
 subst hm;rcases r.vec id t 1 _ h with⟨hn,hu⟩|⟨hn,spare,hb,hc,Qb⟩
 ·have hl:ls=[]:=by cases ls with
   |nil=>rfl
   |cons a b=>simp[U]at hu
  subst hl;have:(At.w id ([]:List Nat).length).den O= .slice none 0 0:=by simp[At.den,hn]
  rw[this];exact dV.nil _ _
 ·refine⟨Ps,hle,some ⟨(O id).g,0,none⟩,(O id).cap,by simp[At.den,hn],?_,fun j x hx=>⟨_,rfl,r.low id _ h hn,?_⟩⟩
  ·have h1:(U ls++spare).length=ls.length+spare.length:=by rw[List.length_append,gw]
   omega
  ·rw[dP,cell_of hb,aW,aJ (by rw[gw];exact(aE.1 hx).1)];exact xV hx
end Go.Sx
namespace Go.Ex
open Go Go.Sx Go.Proofs
variable{ls:List Nat}{S:Nat->Prop}
theorem aBs:PG.underlying T.nat=some (.slice T.uint32):=by
 have h:=(hτ T.nat _ rfl).i4 rfl;exact h
theorem LX{w:World}{v:Value}(hS:Old S w)(h:dV w S v ls)(hl:ls.length<=1000000000000):
  eA PG N.gS #[v] w (eL w fun v' w2=>dV w2 (Nf w w2) v' ls):=by
 obtain⟨x,rfl,rfl⟩:=h.la;refine j7 (by simp) ?_;refine⟨x.a.isNone,fun O w1 o1 o2=>by simp[eqGuard,SV.den,At.den,ko (P:=PG) w1 T.nat T.uint32 x.a x.ls.length x.c 0 0 aBs],?_⟩;refine dG.mk ?_ ?_<;>intro h
 ·intro ρ3 w3 r3;have hn:x.ls=[]:=by
   cases hx:x.ls with
   |nil=>rfl
   |cons u r=>
    obtain⟨ad,h1,_⟩:=x.cell 0 u (by rw[hx];rfl);rw[h1]at h;simp at h
  exact⟨_,rfl,r3.cS,by rw[hn];exact dV.nil _ _⟩
 ·refine .inl ?_;refine⟨U x.ls,by rw[gw,aY],fun u hu=>by simp only[U,aT]at hu;obtain⟨n,_,rfl⟩:=hu;rfl,fun O w1 r h0=>?_,?_⟩
  ·obtain⟨u,hu⟩:∃q,x.ls[0]? =some q:=⟨_,aB h0⟩
   obtain⟨ad,Oy,_⟩:=x.cell 0 u hu;refine⟨ad,Oy,fun j u hu=>?_⟩;simp only[U,aN,Option.map_eq_some_iff]at hu;obtain⟨n,hn,rfl⟩:=hu;obtain⟨ad2,Pv,hs,hc⟩:=x.cell j n hn;rw[Oy]at Pv;injection Pv with Pv;subst Pv;exact k7 hS dg.refl r hs hc
  refine⟨rfl,by omega,by unfold maxLen;omega,?_⟩;intro ρ3 w3 r3;exact⟨_,rfl,r3.cS,(r3.aAZ (id:=1) rfl (aW _) x.lm x.le).cL fun g hg=>.inr hg⟩
end Go.Ex
namespace Go.Ex
open Go Go.Sx Go.Proofs
end Go.Ex
namespace Go.Sx
open Go Go.Ex Go.Proofs
variable{O:Nat->Sx.eE}
theorem Rel.cI{H:Hp}{nx:Nat}{iv:Iv}{B:Nat}{w w':World}(r:Rel H nx iv B w O w'):B<=w'.heap.size:=by have:=r.base;have:=r.size;omega
end Go.Sx
namespace Go.Ex
open Go Go.Sx Go.Proofs
end Go.Ex
namespace Go.Sx
open Go Go.Ex Go.Proofs
variable{ls:List Nat}{O:Nat->Sx.eE}
theorem Rel.x9{H:Hp}{nx:Nat}{iv:Iv}{B:Nat}{w w':World}(r:Rel H nx iv B w O w'){id t:Nat}(h:dM H id=some (.box t ((U ls).map At.v)))(Ps:Lm ls)(hle:ls.length<=9223372036854775807):
  dV w' (fun g=>g=(O id).g) (.slice (some ⟨(O id).g,0,none⟩) ls.length ls.length) ls:=by
 refine⟨Ps,hle,_,_,rfl,Nat.le_refl _,fun j x hx=>⟨_,rfl,rfl,?_⟩⟩;have h0:(⟨(O id).g,0,none⟩:Addr).add j=⟨(O id).g,j,none⟩:=by
  cases j with
  |zero=>rfl
  |succ j=>simp[Addr.add]
 rw[h0,cell_of (r.box id t _ h),gI];exact xV hx
end Go.Sx
namespace Go.Ex
open Go Go.Sx Go.Proofs
variable{ds r2:List Nat}{g k:Nat}{row:Option Nat}
section
variable{S:Nat->Prop}{H:Hp}{nx:Nat}{iv iv':Iv}{B:Nat}{w w' w2:World}{O:Nat->Sx.eE}{v:Value}{n:Nat}{ls:List Nat}
theorem Nw.dK(h:Nf w' w2 g)(hB:B<=w'.heap.size)(hm:(w'.heap.size,w2.heap.size)∈iv):Cv S B iv g:=by
 rcases h with h|h
 ·cases h
 ·exact .inr ⟨by omega,_,_,hm,h.1,h.2⟩
theorem eK.dK(h:eK w2 (Nf w' w2) v n)(hB:B<=w'.heap.size)(hm:(w'.heap.size,w2.heap.size)∈iv):eK w2 (Cv S B iv) v n:=h.cL fun _ hg=>hg.dK hB hm
theorem dV.dK(h:dV w2 (Nf w' w2) v ls)(hB:B<=w'.heap.size)(hm:(w'.heap.size,w2.heap.size)∈iv):dV w2 (Cv S B iv) v ls:=h.cL fun _ hg=>hg.dK hB hm
theorem eK.rel(h:eK w (Cv S B iv) v n)(r:Rel H nx iv B w O w')(hS:∀g,S g->g<B):eK w' (Cv S B iv) v n:=h.cJ fun _ hg=>Rel.same r hS hg
theorem eK.cK(h:eK w (Cv S B iv) v n)(r:Rel H nx iv B w O w')(hS:∀g,S g->g<B)(he:Ext w' w2)(hm:∀p,p∈iv->p∈iv'):eK w2 (Cv S B iv') v n:=
 ((h.rel r hS).cJ fun g hg=>he.block g (Rel.old r hS g hg)).cL fun _ hg=>hg.mono hm
theorem dV.trimmed(h:dV w S v (eH ls)):eK w S v (val ls):=⟨_,h,(fS ls).2.1,(fS ls).1⟩
end
theorem La{w:World}{m c:Nat}{rs:List Nat}(hg:w.heap[g]? =some (.cells (U rs).toArray T.uint32 (0,0)))(Ps:Lm rs)(h:k+m<=rs.length)(hc:m<=c)(hl:rs.length<=1000000000000):
  dV w (fun x=>x=g) (.slice (some ⟨g,k,none⟩) m c) ((rs.drop k).take m):=by
 have hlen:((rs.drop k).take m).length=m:=by simp;omega
 refine⟨(Ps.drop k).take m,by omega,some ⟨g,k,none⟩,c,by rw[hlen],by omega,fun j x hx=>⟨_,rfl,rfl,?_⟩⟩;have hj:j<m:=by have:=(aE.1 hx).1;omega
 rw[bZ hj,bp]at hx;rw[dP,cell_of hg];exact xV hx
theorem G4{c:Nat}(h:k<c):(if (c:Int)=(k:Int)then some (⟨g,0,none⟩:Addr)else(some (⟨g,0,none⟩:Addr)).map fun x=>x.add ((k:Int).toNat*1))=some ⟨g,k,none⟩:=by
 rw[aK (by omega),bh,aF,aY,dP,aW]
theorem gT{a b c:World}(h:a.grownBy b row)(k:b.grownBy c row):a.grownBy c row:=
 ⟨k.os.trans h.os,k.tape.trans h.tape,k.output.trans h.output,aV h.size k.size,fun j hj OZ=>(k.block j (by have:=h.size;omega) OZ).trans (h.block j hj OZ)⟩
theorem sY{a b:World}(h:dg a.heap.size a b):a.grownBy b row:=⟨h.os,h.tape,h.output,h.size,fun j hj _=>h.block j hj⟩
theorem aBt(rs:List Nat)(k m:Nat):(U rs).take k++List.replicate m (Value.int .u32 0)++(U rs).drop (k+m)=U (rs.take k++List.replicate m 0++rs.drop (k+m)):=by
 simp[U]
theorem aDD(rs ds:List Nat)(k:Nat):(U rs).take k++U ds++(U rs).drop (k+(U ds).length)=U (rs.take k++ds++rs.drop (k+ds.length)):=by
 simp[U]
theorem Mr{rs:List Nat}{m:Nat}(hk:k+m<=rs.length)(hd:ds.length<=m){r1:List Nat}(h1:r1=rs.take k++List.replicate m 0++rs.drop (k+m))(h2:r2=r1.take k++ds++r1.drop (k+ds.length)):
  r2=rs.take k++(ds++List.replicate (m-ds.length) 0)++rs.drop (k+m):=by
 have Xr:(rs.take k).length=k:=by simp;omega
 have h3:r1.take k=rs.take k:=by rw[h1,bm,List.take_append_of_le_length (by omega),List.take_of_length_le (by omega)]
 have h4:r1.drop (k+ds.length)=List.replicate (m-ds.length) 0++rs.drop (k+m):=by
  rw[h1,bm,List.drop_append,Xr,List.drop_of_length_le (by omega),List.nil_append,Nat.add_sub_cancel_left,List.drop_append_of_le_length (by simpa using hd),List.drop_replicate]
 rw[h2,h3,h4];simp
theorem Ms{rs:List Nat}{m:Nat}(hk:k+m<=rs.length)(hd:ds.length<=m)(Ps:Lm rs)(SO:Lm ds)(h:r2=rs.take k++(ds++List.replicate (m-ds.length) 0)++rs.drop (k+m)):
  r2.length=rs.length∧Lm r2∧r2.take k=rs.take k∧r2.drop (k+m)=rs.drop (k+m)∧val ((r2.drop k).take m)=val ds:=by
 have Xr:(rs.take k).length=k:=by simp;omega
 have SD:(ds++List.replicate (m-ds.length) 0).length=m:=by simp;omega
 have R4:r2.drop k=(ds++List.replicate (m-ds.length) 0)++rs.drop (k+m):=by
  rw[h,bm,List.drop_append,Xr,List.drop_of_length_le (by omega),List.nil_append,bI,List.drop_zero]
 refine⟨by rw[h,List.length_append,List.length_append,Xr,SD];simp;omega,?_,?_,?_,?_⟩
 ·rw[h];exact((Ps.take k).append (SO.append (Lm.replicate _))).append (Ps.drop _)
 ·rw[h,bm,List.take_append_of_le_length (by omega),List.take_of_length_le (by omega)]
 ·rw[<-List.drop_drop,R4,List.drop_append,SD,List.drop_of_length_le (by omega),List.nil_append,bI,List.drop_zero]
 ·rw[R4,List.take_append_of_le_length (by omega),List.take_of_length_le (by omega),mg,oP];simp
theorem G5{S:Nat->Prop}{w:World}{vd:Value}{D g k q:Nat}{rs:List Nat}(hS:Old S w)(hgS:¬S g)(hd:eK w S vd D)(hg:w.heap[g]? =some (.cells (U rs).toArray T.uint32 (0,0)))(Ps:Lm rs)
  (hk:k+ln D+1<=rs.length) (hl:rs.length<=1000000000000) (hq:q<4294967296):
  eA PG N.sF #[.slice (some ⟨g,0,none⟩) rs.length rs.length,vd,.int .i64 k,.int .u64 q] w (fun e w2=>
   (val ((rs.drop k).take (ln D+1))<q*D∧e= .returned (.bool false)∧dg w.heap.size w w2)∨
   (q*D<=val ((rs.drop k).take (ln D+1))∧e= .returned (.bool true)∧w.grownBy w2 (some g)∧∃rs',rs'.length=rs.length∧Lm rs'∧rs'.take k=rs.take k∧rs'.drop (k+ln D+1)=rs.drop (k+ln D+1)∧
    val ((rs'.drop k).take (ln D+1))=val ((rs.drop k).take (ln D+1))-q*D∧w2.heap[g]? =some (.cells (U rs').toArray T.uint32 (0,0)))):=by
 have hgB:=lH hg;have hnD:=hd;obtain⟨p,rfl,RU,QQ⟩:=hd.la;have QI:=ec p.lm QQ;rw[RU]at QI;generalize hn:ln D=n at*
 have hSB:=hS;refine xU (by simp) ?_;refine⟨(q:Int),by rw[ff,bT hq],?_⟩;refine iJ (Φ:=fun O _ v w2=>dV w2 (fun g=>g=(O 0).g) v (eH [q])) (H':=[]) 0 rfl (by simp) trivial rfl (fun O w' r=>r.nn 0 _ rfl (by intros;simp) (by simp)) (fun O w' r=>?_) ?_
 ·have hL:=r.x9 (id:=0) (ls:=[q]) rfl (by intro x hx;simp at hx;omega) (by simp);exact fw (fun g hg=>by rw[hg];exact(r.low 0 _ rfl (r.nn 0 _ rfl (by intros;simp) (by simp))).2) hL
 rintro O w1 v1 w2 r he hw hL;have Ol:=r.low 0 _ rfl (r.nn 0 _ rfl (by intros;simp) (by simp));have hs:=he.size;generalize (O 0).g=g0 at*
 have Vg:eK w2 (Cv S w.heap.size [(g0,g0+1),(w1.heap.size,w2.heap.size)]) v1 q:=by
  have:=hL.trimmed;simp only[val,Nat.mul_zero,bu]at this;exact this.cL fun k hk=>.inr ⟨by omega,g0,g0+1,by simp,by omega,by omega⟩
 have WH:eK w2 (Cv S w.heap.size [(g0,g0+1),(w1.heap.size,w2.heap.size)]) (.slice p.a p.ls.length p.c) D:=
  (hnD.cJ fun g hg=>hw.block g (hS g hg)).cL fun _ hg=>.inl hg
 generalize [(g0,g0+1),(w1.heap.size,w2.heap.size)]=iv at*
 refine cH (cE hw (fun _ w' v w2=>eK w2 (Nf w' w2) v (q*D)) (fun O w' r=>Lb (Rel.old r hS) (Vg.rel r hS) (WH.rel r hS) (aV (gX.2 (show q<wt 1 from hq)) (by decide)) (by omega)) ?_);rintro O w3 _ _ iv r he hw h_ hm;have VM:=hm.dK (S:=S) r.cI (mN h_);refine⟨((k+n:Nat):Int),wo,((k+n+1:Nat):Int),wo,⟨by omega,by omega,by omega⟩,some ⟨g,k,none⟩,n+1,rs.length-k,G4 (by omega),by omega,by omega,?_⟩;have hplen:((rs.drop k).take (n+1)).length=n+1:=by simp;omega
 have hplm:Lm ((rs.drop k).take (n+1)):=(Ps.drop k).take _;generalize hpart:(rs.drop k).take (n+1)=part at*
 refine cH (cE hw (fun _ w' v w2=>dV w2 (Nf w' w2) v part) (fun O w' r=>?_) ?_)
 ·have h1:=La (k:=k) (m:=n+1) (c:=rs.length-k) (w:=w') (by rw[(hw.tr r.cS).block g hgB];exact hg) Ps (by omega) (by omega) hl;rw[hpart]at h1;exact LX (fun x hx=>by rw[hx];have:=(hw.tr r.cS).size;omega) h1 (by omega)
 rintro O _ _ _ iv r he hw h_ hL;have hpL:=hL.dK (S:=S) r.cI (mN h_);replace VM:=VM.cK r hS he (mC h_);refine cH (cP (Φ:=fun _ w' v w2=>dV w2 (Cv S w.heap.size iv) v (eH part)) (fun O w' r=>fw (Rel.old r hS) (dV.rel hpL r hS)) ?_);rintro O w7 v4 w8 r he hb hL;replace hw:=hw.tr hb;have hpN:=hL.trimmed.cL (S':=Cv S w.heap.size ((w7.heap.size,w8.heap.size)::iv)) fun _ hg=>hg.cons;replace VM:=VM.cK (iv':=(w7.heap.size,w8.heap.size)::iv) r hS he fun x hx=>aC _ hx;generalize (w7.heap.size,w8.heap.size)::iv=iv at*
 refine cH (cE hw (fun _ _ v _=>v= .int .i64 (vF (val part) (q*D))) (fun O w' r=>aA5 (Rel.old r hS) (hpN.rel r hS) (VM.rel r hS)) ?_);rintro O _ _ _ iv r he hw h_ rfl;replace hpN:=hpN.cK r hS he (mC h_);replace VM:=VM.cK r hS he (mC h_);refine dG.mk ?_ ?_<;>intro h
 ·have h:val part<q*D:=by
   have:=aH h;unfold vF at this;split at this
   ·assumption
   ·split at this<;>omega
  intro ρ3 w3 r3;exact .inl ⟨h,rfl,hw.tr r3.cS⟩
 have h:q*D<=val part:=by
  have:=aG h;unfold vF at this;split at this
  ·omega
  ·omega
 have hPl:ln (val part)<=n+1:=by rw[gX,<-hplen];exact pV hplm
 refine cH (cE hw (fun _ w' v w2=>eK w2 (Nf w' w2) v (val part-q*D)) (fun O w' r=>G6 (Rel.old r hS) (hpN.rel r hS) (VM.rel r hS) h (by omega)) ?_);rintro O _ v6 _ iv r he hw h_ hm;have XL:=hm.dK (S:=S) r.cI (mN h_);refine⟨((k+n:Nat):Int),wo,((k+n+1:Nat):Int),wo,⟨by omega,by omega,by omega⟩,some ⟨g,k,none⟩,n+1,rs.length-k,G4 (by omega),by omega,by omega,?_⟩;refine Ly hτ (cs:=U rs) (by rfl) (by rfl) (by rfl) (by omega) (fun O w' r=>⟨by rw[(hw.tr r.cS).block g hgB];exact hg,fun id b hb=>by cases hb⟩) (by rw[gw];omega) (fun O w13 w14 r hh Oi Oo=>?_);rw[aBt]at hh;have hgw:w.grownBy w14 (some g):=gT (sY (hw.tr r.cS)) Oi;replace XL:eK w14 (Cv S w.heap.size iv) v6 (val part-q*D):=(XL.rel r hS).cJ fun x hx=>Oi.block x (Rel.old r hS x hx) fun e=>by
  injection e with e;subst e;rcases hx with hx|hx
  ·exact hgS hx
  ·omega
 obtain⟨rl,rfl,TQ,Sc⟩:=XL.la;have Ot:=ec rl.lm Sc;rw[TQ]at Ot;have Xz:rl.ls.length<=n+1:=by rw[Ot];exact aV (fk (Nat.sub_le _ _)) hPl
 generalize hr1d:rs.take k++List.replicate (n+1) 0++rs.drop (k+(n+1))=r1 at*
 refine⟨⟨by omega,by omega,by omega⟩,some ⟨g,k,none⟩,rs.length-k,rs.length-k,G4 (by omega),by omega,by omega,?_⟩;have hr1l:r1.length=rs.length:=by rw[<-hr1d];simp;omega
 have hw14:w.heap.size<=w14.heap.size:=hgw.size;refine Nm hτ (tg:=T.uint32) (cs:=U r1) (ds:=U rl.ls) (by rfl) (by rfl) (by rfl) (by rfl) (fun O w' r=>⟨?_,fun id b hb=>by cases hb⟩) (fun O w' r=>⟨rl.a,rl.c,by rw[gw];rfl,fun j u hu=>?_⟩) (by rw[gw];omega) (by rw[gw,gw];omega)
  (fun u hu=>by simp only[U,aT]at hu;obtain⟨n,_,rfl⟩:=hu;rfl) (fun O w15 w16 r hh2 Oi Oo=>?_)
 ·rw[r.sZ.block g (by omega) (by simp)];exact hh
 ·simp only[U,aN,Option.map_eq_some_iff]at hu;obtain⟨m,hm,rfl⟩:=hu;obtain⟨ad,h1,h2,h3⟩:=rl.cell j m hm;exact⟨ad,h1,(cM (w:=w14) (a:=ad.add j) (by rw[dD];exact Rel.same r hS h2)).trans h3⟩
 rw[aDD]at hh2;have hgw2:w.grownBy w16 (some g):=gT (gT hgw (by have:=r.sZ;exact⟨this.os,this.tape,this.output,this.size,fun j hj _=>this.block j hj (by simp)⟩)) Oi;obtain⟨o1,o2,o3,o4,o5⟩:=Ms (rs:=rs) (ds:=rl.ls) (k:=k) (m:=n+1) (by omega) Xz Ps rl.lm (Mr (by omega) Xz hr1d.symm rfl);generalize r1.take k++rl.ls++r1.drop (k+rl.ls.length)=r2 at*
 intro ρ3 w17 r3;refine .inr ⟨h,rfl,gT hgw2 (by have:=r3.sZ;exact⟨this.os,this.tape,this.output,this.size,fun j hj _=>this.block j hj (by simp)⟩),r2,o1,o2,o3,o4,by rw[o5,TQ],?_⟩;rw[r3.sZ.block g (by have:=hgw2.size;omega) (by simp)];exact hh2
end Go.Ex
namespace Go.Ex
open Go Go.Sx Go.Proofs
end Go.Ex
namespace Go.Sx
open Go Go.Ex Go.Proofs
variable{O:Nat->Sx.eE}
theorem Rel.aC3{nx:Nat}{iv:Iv}{B:Nat}{w w' w2:World}(r:Rel [] nx iv B w O w')(h:w'.heap.size<=w2.heap.size):Rel [] nx [] B w2 O w2:=
 r.HQ h (fun id b h=>by cases h) fun lo hi h=>by cases h
end Go.Sx
namespace Go.Ex
open Go Go.Sx Go.Proofs
variable{O:Nat->Sx.eE}
theorem aA6{P D low high dlow dtop W:Nat}(hP:P=low+W*high)(hD:D=dlow+W*dtop)(Ol:low<W)(UQ:0<dtop)(hPD:P<4294967296*D):P / D<=min (high / dtop) 4294967295:=by
 have hW:0<W:=by omega
 have Xt:0<D:=by have:=Nat.mul_pos hW UQ;omega
 have h1:P / D<4294967296:=(Nat.div_lt_iff_lt_mul Xt).2 (by rw[bX]at hPD;omega);have h2:P / D<=high / dtop:=by
  rw[Nat.le_div_iff_mul_le UQ];have h3:=Nat.div_mul_le_self P D;generalize P / D=Q at*
  have h4:W*(Q*dtop)<=Q*D:=by
   rw[hD,Nat.mul_left_comm,b9];omega
  have h5:W*(Q*dtop)<W*(high+1):=by
   rw[b9];omega
  have:=Nat.lt_of_mul_lt_mul_left h5;omega
 omega
theorem Lc{H:Hp}{nx:Nat}{iv:Iv}{w w1 w':World}{g i x:Nat}{rs:List Nat}(hg:w.heap[g]? =some (.cells (U rs).toArray T.uint32 (0,0)))(hw:dg w.heap.size w w1)(r:Rel H nx iv w.heap.size w1 O w')(hx:rs[i]? =some x):
  w'.cell? ((⟨g,0,none⟩:Addr).add ((i:Int).toNat*1))=some (.int .u32 x):=by
 rw[aF,aY,dP,aW,cell_of (by rw[(hw.tr r.cS).block g (lH hg)];exact hg)];exact xV hx
theorem aBu{S:Nat->Prop}{w:World}{vd:Value}{D g k:Nat}{rs:List Nat}(hS:Old S w)(hgS:¬S g)(hd:eK w S vd D)(hD:0<D)(hg:w.heap[g]? =some (.cells (U rs).toArray T.uint32 (0,0)))(Ps:Lm rs)
  (hk:k+ln D+1<=rs.length) (hl:rs.length<=1000000000000) (hPD:val ((rs.drop k).take (ln D+1))<4294967296*D):
  eA PG N.qm #[.slice (some ⟨g,0,none⟩) rs.length rs.length,vd,.int .i64 k] w (fun e w2=>
   e= .returned (.int .u32 ((val ((rs.drop k).take (ln D+1)) / D:Nat):Int))∧w.grownBy w2 (some g)∧∃rs',rs'.length=rs.length∧Lm rs'∧rs'.take k=rs.take k∧rs'.drop (k+ln D+1)=rs.drop (k+ln D+1)∧
    val ((rs'.drop k).take (ln D+1))=val ((rs.drop k).take (ln D+1)) % D∧w2.heap[g]? =some (.cells (U rs').toArray T.uint32 (0,0))):=by
 have hgB:=lH hg;have hnD:=hd;obtain⟨p,rfl,RU,QQ⟩:=hd.la;have QI:=ec p.lm QQ;rw[RU]at QI;have R9:=fun(w':World) (q:Nat)=>@G5 S w' (.slice p.a p.ls.length p.c) D g k q rs;generalize hn:ln D=n at*
 obtain⟨t,rfl⟩:∃t,n=t+1:=by
  cases n with
  |zero=>
   have:D<wt 0:=gX.1 (by omega);rw[jx]at this;omega
  |succ t=>exact⟨t,rfl⟩
 obtain⟨dt,UQ⟩:∃q,p.ls[t]? =some q:=⟨_,aB (by omega)⟩
 have hdt0:0<dt:=by
  have:=QQ dt (by rw[List.getLast?_eq_getElem?,QI];exact UQ);omega
 obtain⟨a,ha⟩:∃q,rs[k+t+1]? =some q:=⟨_,aB (by omega)⟩
 obtain⟨b,hb⟩:∃q,rs[k+t]? =some q:=⟨_,aB (by omega)⟩
 have ha32:=Ps.at ha;have Vv:=Ps.at hb;have YA:=p.lm.at UQ;generalize hP:val ((rs.drop k).take (t+1+1))=P at*
 have hguess:P / D<=min ((a*4294967296+b) / dt) 4294967295:=by
  refine aA6 (low:=val ((rs.drop k).take t)) (W:=wt t) (dlow:=val (p.ls.take t)) ?_ ?_ ?_ hdt0 hPD
  ·rw[<-hP,dy (x:=a) (by rw[bp];exact ha),dy (x:=b) (by rw[bp];exact hb),je,b9,bX 4294967296 (wt t),bj,bX a];omega
  ·rw[<-RU,<-dy UQ,List.take_of_length_le (by omega)]
  ·have h1:=pV ((Ps.drop k).take t);have:((rs.drop k).take t).length=t:=by simp;omega
   rwa [this]at h1
 refine vA (by simp) ?_;refine⟨(t:Int),wo,?_⟩;refine cO hτ dZ [.x 0,.x 1,.x 2,.x 3,.x 4,.x 5,.x 6,.x 7,.x 8,.x 9,.x 10,.x 11,.x 12,.x 13,.x 14,.x 15,.x 16,.x 17] (by kernel_rfl) (by kernel_rfl) ?_;refine⟨((k+t:Nat):Int),wo,((k+t+1:Nat):Int),wo,_,rfl,by omega,.int .u32 a,fun O w' r=>Lc hg dg.refl r ha,(a:Int),fE (by omega),by decide,((a*2^32:Nat):Int),G7 (k:=32) (by decide) (by omega),((k+t:Nat):Int),wo,_,rfl,by omega,.int .u32 b,fun O w' r=>Lc hg dg.refl r hb,(b:Int),fE (by omega),?_⟩;have VZ:a*2^32 ||| b=a*4294967296+b:=by
  rw[Nat.or_comm,bX,G8 (k:=32) Vv];omega
 refine⟨((a*4294967296+b:Nat):Int),by rw[aA7 (by omega) (by omega),VZ],?_⟩;have hh64:a*4294967296+b<18446744073709551616:=by omega
 generalize a*4294967296+b=high at*
 obtain⟨ad,Oy,PK⟩:=p.load hS (dg.refl (w:=w)) UQ;refine⟨ad,Oy,by omega,.int .u32 dt,PK _ _ _,(dt:Int),fE (by omega),by omega,((high / dt:Nat):Int),aA8 hh64,?_⟩;conv=>whnf
 rw[show min ((high / dt:Nat):Int) 4294967295=((min (high / dt) 4294967295:Nat):Int) by omega];have hm32:min (high / dt) 4294967295<=4294967295:=Nat.min_le_right _ _;generalize min (high / dt) 4294967295=q0 at*
 have hQD:=Nat.div_mul_le_self P D;have hQl:∀q,q*D<=P->P / D<=q->q=P / D:=fun q h1 h2=>aQ ((Nat.le_div_iff_mul_le hD).2 h1) h2;have hmod:P % D=P-P / D*D:=by have:=Nat.div_add_mod P D;rw[bX]at this;omega
 refine⟨Nat×World,fun z=>⟨[(0,.o (.v (.slice (some ⟨g,0,none⟩) rs.length rs.length))),(1,sV p.a p.ls.length p.c),(2,iZ k),(9,.o (.v (.int .u64 z.1)))],[],0,[],z.2⟩,fun z=>z.1,
  fun z=>dg w.heap.size w z.2∧P / D<=z.1∧z.1<=4294967295,?_,?_⟩
 ·intro O w' r;exact⟨(q0,w'),⟨r.cS,hguess,hm32⟩,Sub.reset r ⟨rfl,rfl,rfl,rfl,trivial⟩ ⟨trivial,trivial,trivial,trivial,trivial⟩⟩
 ·rintro⟨q,w1⟩ ⟨hw,SE,Q5⟩;dsimp only at hw SE Q5 ⊢;conv=>whnf
  refine⟨fun O w2 r=>(R9 w2 q (fun x hx=>by have:=hS x hx;have:=(hw.tr r.cS).size;omega) hgS (hnD.cJ fun x hx=>(hw.tr r.cS).block x (hS x hx)) (by rw[(hw.tr r.cS).block g hgB];exact hg) Ps hk hl (by omega)).mono fun e w3 he=>?_⟩;rcases he with⟨h,rfl,hb3⟩|⟨h,rfl,Oi,rs',e1,e2,e3,e4,e5,e6⟩
  ·have hw3:dg w.heap.size w w3:=(hw.tr r.cS).tr (hb3.cS r.cI);refine⟨.bool false,[],[],rfl,r.aC3 hb3.size,?_⟩;have Tk:P / D<q:=by
    refine Nat.lt_of_le_of_ne SE fun e=>?_;rw[e]at hQD;omega
   have hq4:0<q:=Nat.lt_of_le_of_lt (aO _) Tk;have hq5:P / D<=q-1:=Nat.le_sub_one_of_lt Tk;refine⟨((q-1:Nat):Int),by rw[Aj]<;>omega,?_⟩;intro ρ4 w4 r4;exact⟨(q-1,w4),⟨hw3.tr r4.cS,hq5,by dsimp only;omega⟩,Sub.reset r4 ⟨rfl,rfl,rfl,rfl,trivial⟩ ⟨trivial,trivial,trivial,trivial,trivial⟩,by dsimp only;omega⟩
  ·have hgw:w.grownBy w3 (some g):=gT (sY (hw.tr r.cS)) Oi;refine⟨.bool true,[],[],rfl,r.aC3 Oi.size,?_⟩;have hq:=hQl q h SE;subst hq;refine⟨((P / D:Nat):Int),by rw[ff,bT (by omega)],?_⟩;intro ρ4 w4 r4;refine⟨rfl,gT hgw (by have:=r4.sZ;exact⟨this.os,this.tape,this.output,this.size,fun j hj _=>this.block j hj (by simp)⟩),rs',e1,e2,e3,e4,by rw[e5,hmod],?_⟩;rw[r4.sZ.block g (by have:=hgw.size;omega) (by simp)];exact e6
end Go.Ex
namespace Go.Ex
variable{ms:List Nat}
theorem MS{t dt:Nat}(Ps:Lm ms)(hl:ms.length=t+1)(UQ:ms[t]? =some dt)(h0:0<dt):32-iK dt<32∧ln (val ms*2^(32-iK dt))=t+1:=by
 have hb0:0<iK dt:=by
  rcases bQ (iK dt)with h|h
  ·have:=Ao.1 (Nat.le_of_eq h);simp at this;omega
  ·exact h
 have Vv:iK dt<=32:=Ao.2 (Ps.at UQ);have PC:=Ao.1 (Nat.le_refl (iK dt));have hv:val ms=val (ms.take t)+wt t*dt:=by rw[<-dy UQ,List.take_of_length_le (by omega)]
 have Ol:=pV (Ps.take t);have hltk:(ms.take t).length=t:=by simp;omega
 rw[hltk]at Ol;have hw:=yD t;refine⟨by omega,aQ ?_ ?_⟩
 ·rw[gX];have h1:val ms<wt t*2^iK dt:=by
   have:wt t*(dt+1)<=wt t*2^iK dt:=bO _ PC;rw[b9]at this;omega
  have h2:=Nat.mul_lt_mul_of_pos_right h1 (bz (32-iK dt));rw[bj,<-Nat.pow_add,Nat.add_sub_cancel' Vv]at h2;rw[je,bX 4294967296];exact h2
 ·refine Nat.lt_of_not_le fun h=>?_;have h1:=gX.1 h;have h2:val ms*1<=val ms*2^(32-iK dt):=bO _ (bz _);have h3:wt t*1<=wt t*dt:=bO _ h0;omega
theorem Hc{rs:List Nat}{D N k:Nat}(Ps:Lm rs)(hDN:D<wt N)(hk:k+N+1<=rs.length)(h:val rs<wt (k+1)*D):
  val (rs.drop (k+N+1))=0∧val (rs.drop k)=val ((rs.drop k).take (N+1))∧val ((rs.drop k).take (N+1))<4294967296*D:=by
 obtain⟨x,hx⟩:∃q,rs[k]? =some q:=⟨_,aB (by omega)⟩
 have Ql:=Ps.at hx;have h1:=fL rs (k+1) (by omega);have h2:val (rs.drop (k+1))<D:=Nat.lt_of_mul_lt_mul_left (a:=wt (k+1)) (by omega);have h3:=fL (rs.drop (k+1)) N (by simp;omega);rw[List.drop_drop,show k+1+N=k+N+1 by omega]at h3;have h4:val (rs.drop (k+N+1))=0:=by
  rcases bQ (val (rs.drop (k+N+1)))with h|h
  ·exact h
  ·have:=bO (wt N) h;omega
 have h5:=fL (rs.drop k) (N+1) (by simp;omega);rw[List.drop_drop,show k+(N+1)=k+N+1 by omega,h4,Nat.mul_zero,bu]at h5;have h6:=jq hx;exact⟨h4,h5,by omega⟩
theorem OK{rs rs' out:List Nat}{D N k P V:Nat}(hD:0<D)(Ps:Lm rs)(hlen:rs'.length=rs.length)(hDN:D<wt N)(hk:k+N+1<=rs.length)(h:val rs<wt (k+1)*D)(hV:V=wt (k+1)*(D*val (out.drop (k+1)))+val rs)
  (hP:val ((rs.drop k).take (N+1))=P) (h1:rs'.take k=rs.take k) (h2:rs'.drop (k+N+1)=rs.drop (k+N+1)) (h3:val ((rs'.drop k).take (N+1))=P % D) (ho:k<out.length):
  val rs'<wt k*D∧V=wt k*(D*val ((out.set k (P / D)).drop k))+val rs':=by
 obtain⟨a1,a2,a3⟩:=Hc Ps hDN hk h;have b1:=fL rs k (by omega);have b2:=fL rs' k (by omega);have b3:=fL (rs'.drop k) (N+1) (by simp;omega);rw[List.drop_drop,show k+(N+1)=k+N+1 by omega,h2,a1,Nat.mul_zero,bu,h3]at b3;rw[h1,b3]at b2;rw[a2,hP]at b1;have b4:=pV (Ps.take k);have b5:(rs.take k).length=k:=by simp;omega
 rw[b5]at b4;have b6:=cD P hD;have b7:(out.set k (P / D))[k]? =some (P / D):=by rw[aR ho]
 have b8:=Nat.div_add_mod P D;refine⟨?_,?_⟩
 ·have:wt k*(P % D+1)<=wt k*D:=bO _ b6;rw[b9]at this;omega
 ·rw[jq b7,List.drop_set_of_lt (show k<k+1 by omega),hV,b1,b2,je];generalize val (out.drop (k+1))=o;have c1:wt k*P=wt k*(D*(P / D))+wt k*(P % D):=by rw[<-b9,b8]
  have c2:4294967296*wt k*(D*o)=wt k*(D*(4294967296*o)):=by
   rw[bX 4294967296,bj,Nat.mul_left_comm 4294967296]
  rw[c1,c2,b9 D,b9 (wt k)];omega
theorem MT{n m b:Nat}(hm:0<m)(Va:m<=n):n*2^b<wt (ln n+1-ln m)*(m*2^b):=by
 have h1:=mh n;have h2:=fk Va;have h3:wt (ln m-1)<=m:=by
  refine Nat.le_of_not_lt fun h=>?_;have:=gX.2 h;have h4:0<ln m:=by
   rcases bQ (ln m)with h|h
   ·have:=gX.1 (Nat.le_of_eq h);rw[jx]at this;omega
   ·exact h
  omega
 have h4:0<ln m:=by
  rcases bQ (ln m)with h|h
  ·have:=gX.1 (Nat.le_of_eq h);rw[jx]at this;omega
  ·exact h
 have h5:wt (ln n)<=wt (ln n+1-ln m)*m:=by
  rw[show ln n=(ln n+1-ln m)+(ln m-1) by omega,Fg,show(ln n+1-ln m)+(ln m-1)+1-ln m=ln n+1-ln m by omega];exact bO _ h3
 rw[<-bj];exact Nat.mul_lt_mul_of_pos_right (Nat.lt_of_lt_of_le h1 h5) (bz b)
theorem aBc{n m b o r:Nat}(hm:0<m)(h1:n*2^b=m*2^b*o+r)(h2:r<m*2^b):o=n / m∧r / 2^b=n % m:=by
 have hp:=bz b;have h3:n*2^b / (m*2^b)=o:=by rw[h1,Nat.mul_add_div (Nat.mul_pos hm hp),Nat.div_eq_of_lt h2,bu]
 have h4:n*2^b % (m*2^b)=r:=by rw[h1,Nat.mul_add_mod,bT h2]
 rw[Nat.mul_div_mul_right _ _ hp]at h3;rw[Nat.mul_mod_mul_right]at h4;exact⟨h3.symm,by rw[<-h4,Nat.mul_div_cancel _ hp]⟩
end Go.Ex
namespace Go.Ex
open Go Go.Sx Go.Proofs
variable{H:Hp}{x y z:Int}{iv:Iv}{ls:List Nat}{n nx:Nat}{S:Nat->Prop}{O:Nat->Sx.eE}{u v:Value}{w w' w1:World}
theorem Le{g:Nat}{rs:List Nat}(hg:w.heap[g]? =some (.cells (U rs).toArray T.uint32 (0,0)))(Ps:Lm rs)(hl:rs.length<=1000000000000):
  dV w (fun x=>x=g) (.slice (some ⟨g,0,none⟩) rs.length rs.length) rs:=by
 have:=La (k:=0) (m:=rs.length) (c:=rs.length) hg Ps (by omega) (Nat.le_refl _) hl
 rwa [List.drop_zero,bH]at this
theorem s3{m:Nat}(hS:Old S w)(hn:eK w S v n)(hm:eK w S u m)(UZ:0<m)(St:ln n<=100000000000):
  eA PG N.ox #[v,u] w (eL w fun v' w2=>∃q r,v'= .tuple #[q,r]∧eK w2 (Nf w w2) q (n / m)∧eK w2 (Nw S w w2) r (n % m)):=by
 have hnN:=hn;have VM:=hm;obtain⟨x,rfl,RU,QQ⟩:=hn.la;obtain⟨y,rfl,SE,Q5⟩:=hm.la;have Pr:=ec x.lm QQ;have hyl:=ec y.lm Q5;rw[RU]at Pr;rw[SE]at hyl;refine td (by simp) ?_;refine cH (cP (Φ:=fun _ _ v _=>v= .int .i64 (vF n m)) (fun O w' r=>aA5 (S:=S) (fun g hg=>by have:=hS g hg;have:=r.cS.size;omega) (hnN.cJ fun g hg=>r.cS.block g (hS g hg)) (VM.cJ fun g hg=>r.cS.block g (hS g hg))) ?_);rintro O w1 v1 w2 r he hw rfl;refine dG.mk ?_ ?_<;>intro h
 ·have h:n<m:=by
   have:=aH h;unfold vF at this;split at this
   ·assumption
   ·split at this<;>omega
  intro ρ3 w3 r3;refine⟨_,rfl,hw.tr r3.cS,_,_,rfl,?_,?_⟩
  ·rw[Nat.div_eq_of_lt h];exact eK.nil _ _
  ·rw[bT h];exact(hnN.cJ fun g hg=>(hw.tr r3.cS).block g (hS g hg)).cL fun g hg=>.inl hg
 have h:m<=n:=by
  have:=aG h;unfold vF at this;split at this
  ·omega
  ·omega
 have hlmn:=fk h;refine dG.mk ?_ ?_<;>intro h1
 ·have h1:y.ls.length=1:=by have:=eq_of_beq h1;omega
  obtain⟨b,Vr⟩:=List.length_eq_one_iff.1 h1;have hb:y.ls[0]? =some b:=by rw[Vr];rfl
  have Vv:=y.lm.at hb;have RJ:m=b:=by rw[<-SE,Vr];simp[val]
  subst RJ;obtain⟨ad,Oy,PK⟩:=y.load hS hw hb;refine⟨ad,Oy,by omega,.int .u32 m,PK _ _ _,?_⟩;refine cH (cP (Φ:=fun _ w' v w2=>∃q,v= .tuple #[q,.int .u32 ((val x.ls % m:Nat):Int)]∧eK w2 (Nf w' w2) q (val x.ls / m)) (fun O w' r=>?_) ?_)
  ·refine aBv (S:=S) (fun g hg=>by have:=hS g hg;have:=(hw.tr r.cS).size;omega) ⟨x.lm,x.le,_,_,rfl,x.cap,fun j u hu=>?_⟩ (by omega) UZ Vv;obtain⟨ad,e1,e2,e3⟩:=x.cell j u hu;exact⟨ad,e1,e2,k7 hS hw r e2 e3⟩
  rintro O w3 v3 w4 r he Sk ⟨q,rfl,hq⟩;replace hw:=hw.tr Sk;have Vg:=hq.dK (S:=FF) r.cI (iv:=(w3.heap.size,w4.heap.size)::[(w1.heap.size,w2.heap.size)]) aI;rw[RU]at Vg;rw[RU];generalize (w3.heap.size,w4.heap.size)::[(w1.heap.size,w2.heap.size)]=iv at*
  have Rh:n % m<m:=cD _ UZ;generalize n % m=rem at*
  refine iJ (Φ:=fun O _ v w2=>dV w2 (fun g=>g=(O 0).g) v (eH [rem])) (H':=[]) 0 rfl (by simp) trivial rfl (fun O w' r=>r.nn 0 _ rfl (by intros;simp) (by simp)) (fun O w' r=>?_) ?_
  ·have hL:=r.x9 (id:=0) (ls:=[rem]) rfl (by intro x hx;simp at hx;omega) (by simp);exact fw (fun g hg=>by rw[hg];exact(r.low 0 _ rfl (r.nn 0 _ rfl (by intros;simp) (by simp))).2) hL
  rintro O w5 v5 w6 r he Vx hL;have Ol:=r.low 0 _ rfl (r.nn 0 _ rfl (by intros;simp) (by simp));have hs:=he.size;replace hw:=hw.tr Vx;replace Vg:=Vg.cK (iv':=((O 0).g,(O 0).g+1)::(w5.heap.size,w6.heap.size)::iv) r (fun g h=>h.elim) he fun x hx=>by simp[hx]
  generalize (O 0).g=g0 at*
  have XL:eK w6 (Cf w ((g0,g0+1)::(w5.heap.size,w6.heap.size)::iv)) v5 rem:=by
   have:=hL.trimmed;simp only[val,Nat.mul_zero,bu]at this;exact this.cL fun k hk=>.inr ⟨by omega,g0,g0+1,by simp,by omega,by omega⟩
  generalize (g0,g0+1)::(w5.heap.size,w6.heap.size)::iv=Oa at*
  intro ρ3 w7 r3;exact⟨_,rfl,hw.tr r3.cS,_,_,rfl,(Vg.rel r3 fun g h=>h.elim).cL fun g hg=>Cv.nw hg r3,((XL.rel r3 fun g h=>h.elim).cL fun g hg=>Cv.nw hg r3).cL fun g hg=>hg.elim (fun h=>h.elim) .inr⟩
 ·have h1:y.ls.length≠1:=fun e=>by rw[e]at h1;simp at h1
  have SP:0<ln m:=by
   rcases bQ (ln m)with h|h
   ·have:=gX.1 (Nat.le_of_eq h);rw[jx]at this;omega
   ·exact h
  obtain⟨t,ht⟩:∃t,y.ls.length=t+1:=⟨y.ls.length-1,by omega⟩
  obtain⟨dt,UQ⟩:∃q,y.ls[t]? =some q:=⟨_,aB (by omega)⟩
  have hdt0:0<dt:=by
   have:=Q5 dt (by rw[List.getLast?_eq_getElem?,ht];exact UQ);omega
  have YA:=y.lm.at UQ;obtain⟨PD,XM⟩:=MS y.lm ht UQ hdt0;rw[SE]at XM;obtain⟨ad,Oy,PK⟩:=y.load hS hw UQ;refine⟨(t:Int),wo,ad,Oy,by omega,.int .u32 dt,PK _ _ _,?_⟩;refine cH (cP (Φ:=fun _ _ v _=>v= .int .i64 ((32-iK dt:Nat):Int)) (fun O w' r=>aDA dt w' YA) ?_);rintro O w3 v3 w4 r he Sk rfl;replace hw:=hw.tr Sk;generalize hbyd:32-iK dt=b at*
  refine⟨(b:Int),fE (by omega),?_⟩;refine cH (cP (Φ:=fun _ w' v w2=>∃out,aA9 w' w2 v out∧out.length=y.ls.length+1∧val out=val y.ls*2^b) (fun O w' r=>?_) ?_)
  ·refine Er (S:=S) (fun g hg=>by have:=hS g hg;have:=(hw.tr r.cS).size;omega) ⟨y.lm,y.le,_,_,rfl,y.cap,fun j u hu=>?_⟩ (by omega) PD;obtain⟨ad,e1,e2,e3⟩:=y.cell j u hu;exact⟨ad,e1,e2,k7 hS hw r e2 e3⟩
  rintro O w5 v5 w6 r he Vx ⟨dl,⟨gd,rfl,hgd1,hgd2,hgd3⟩,SD,hdv⟩;replace hw:=hw.tr Vx;rw[SE]at hdv;have hB5:w.heap.size<=w5.heap.size:=r.cI;have TE:Cf w ((w5.heap.size,w6.heap.size)::[(w3.heap.size,w4.heap.size),(w1.heap.size,w2.heap.size)]) gd:=.inr ⟨by omega,_,_,aI,hgd1,lH hgd2⟩;generalize (w5.heap.size,w6.heap.size)::[(w3.heap.size,w4.heap.size),(w1.heap.size,w2.heap.size)]=iv at*
  have hF:∀g:Nat,(fun _:Nat=>False) g->g<w.heap.size:=fun g h=>h.elim;refine cH (cP (Φ:=fun _ _ v w2=>dV w2 (fun x=>x=gd) v (eH dl)) (fun O w' r=>fw (fun g hg=>by rw[hg];exact Rel.old r hF gd TE) (Le (by rw[Rel.same r hF TE];exact hgd2) hgd3 (by omega))) ?_);rintro O w7 v6 w8 r he hb8 hL;replace hw:=hw.tr hb8;have hgd8:gd<w8.heap.size:=by have:=Rel.old r hF gd TE;have:=he.size;omega
  replace TE:=TE.mono (iv':=(w7.heap.size,w8.heap.size)::iv) fun p hp=>aC _ hp;have WH:=hL.trimmed;rw[hdv]at WH;generalize (w7.heap.size,w8.heap.size)::iv=iv at*
  obtain⟨dp,rfl,R4,PF⟩:=WH.la;have hdpl:=ec dp.lm PF;rw[R4,XM]at hdpl;generalize hDd:m*2^b=D at*
  have Xt:0<D:=by rw[<-hDd];exact Nat.mul_pos UZ (bz b)
  refine cH (cP (Φ:=fun _ w' v w2=>∃out,aA9 w' w2 v out∧out.length=x.ls.length+1∧val out=val x.ls*2^b) (fun O w' r=>?_) ?_)
  ·refine Er (S:=S) (fun g hg=>by have:=hS g hg;have:=(hw.tr r.cS).size;omega) ⟨x.lm,x.le,_,_,rfl,x.cap,fun j u hu=>?_⟩ (by omega) PD;obtain⟨ad,e1,e2,e3⟩:=x.cell j u hu;exact⟨ad,e1,e2,k7 hS hw r e2 e3⟩
  rintro O w9 v9 w10 r he hb10 ⟨rs0,⟨gr,rfl,hgr1,hgr2,hgr3⟩,Ot,Oe⟩;replace hw:=hw.tr hb10;rw[RU]at Oe;have hB9:w.heap.size<=w9.heap.size:=r.cI;have UG:Cf w ((w9.heap.size,w10.heap.size)::iv) gr:=.inr ⟨by omega,_,_,aI,hgr1,lH hgr2⟩;have OZ:gr≠gd:=by have:=r.size;omega
  replace WH:eK w10 (fun x=>x=gd) (.slice dp.a dp.ls.length dp.c) D:=WH.cJ fun x hx=>by
   rw[hx,he.block gd (Rel.old r hF gd TE),Rel.same r hF TE]
  have hgd10:gd<w10.heap.size:=by have:=Rel.old r hF gd TE;have:=he.size;omega
  replace TE:=TE.mono (iv':=(w9.heap.size,w10.heap.size)::iv) fun p hp=>aC _ hp;generalize (w9.heap.size,w10.heap.size)::iv=iv at*
  have hgrB:w.heap.size<=gr:=by omega
  obtain⟨L,hL⟩:∃L,rs0.length=t+1+L:=⟨rs0.length-(t+1),by omega⟩
  refine⟨(L:Int),wo,L,L,rfl,rfl,Nat.le_refl _,by omega,by omega,(L:Int)-1,wo,Nat×List Nat×List Nat×World,fun z=>⟨[(8,.o (.v (.int .u64 b))),(9,sV dp.a dp.ls.length dp.c),(10,.o (.v (.slice (some ⟨gr,0,none⟩) rs0.length rs0.length))),(11,.o (.s 0 0 L L)),(12,.o (.v (.int .i64 ((z.1:Int)-1))))],
    [(0,.arr T.uint32 (U z.2.1))],1,iv,z.2.2.2⟩,fun z=>z.1,
   fun z=>z.1<=L∧dg w.heap.size w z.2.2.2∧z.2.1.length=L∧z.2.2.1.length=rs0.length∧Lm z.2.1∧Lm z.2.2.1∧z.2.2.2.heap[gr]? =some (.cells (U z.2.2.1).toArray T.uint32 (0,0))∧eK z.2.2.2 (fun x=>x=gd) (.slice dp.a dp.ls.length dp.c) D∧
    gd<z.2.2.2.heap.size∧val z.2.2.1<wt z.1*D∧n*2^b=wt z.1*(D*val (z.2.1.drop z.1))+val z.2.2.1,?_,?_⟩
  ·intro O w' r;rw[vG]at r;refine⟨(L,List.replicate L 0,rs0,w'),⟨Nat.le_refl _,hw.tr r.cS,by simp,rfl,Lm.replicate _,hgr3,?_,?_,?_,?_,?_⟩,Sub.gn [] r⟩
   ·dsimp only;rw[Rel.same r hF UG];exact hgr2
   ·exact WH.cJ fun x hx=>by rw[hx];exact Rel.same r hF TE
   ·exact Rel.old r hF gd TE
   ·dsimp only
    have:=MT (b:=b) UZ h;rw[hDd,<-hyl,ht,<-Pr,show x.ls.length+1-(t+1)=L by omega]at this;rw[Oe];exact this
   ·dsimp only;rw[Oe];simp[val]
  ·rintro⟨k,out,rs,w11⟩ ⟨hk,hw,Qt,RL,S6,Wo,Oi,WH,QY,hi1,Sq⟩;dsimp only at hk hw Qt RL S6 Wo Oi WH QY hi1 Sq ⊢;refine dG.mk ?_ ?_<;>intro h9
   ·have h9:(k:Int)-1≥0:=aH h9;obtain⟨k,rfl⟩:∃q,k=q+1:=⟨k-1,by omega⟩
    rw[show ((k+1:Nat):Int)-1=(k:Int) by omega];have hDN:D<wt (t+1):=gX.1 (Nat.le_of_eq XM);obtain⟨a1,a2,a3⟩:=Hc (N:=t+1) Wo hDN (by omega) hi1;have hdig:=fun(w':World)=>@aBu (fun x=>x=gd) w' (.slice dp.a dp.ls.length dp.c) D gr k rs;rw[XM]at hdig;simp only[RL]at hdig;generalize hP:val ((rs.drop k).take (t+1+1))=P at*
    have hQ32:P / D<4294967296:=(Nat.div_lt_iff_lt_mul Xt).2 (by rw[bX]at a3;omega);refine⟨fun O w' r=>(hdig w' (fun g hg=>by rw[hg];exact Rel.old r hF gd TE) OZ (WH.cJ fun x hx=>by rw[hx];exact Rel.same r hF TE) Xt (by rw[Rel.same r hF UG];exact Oi) Wo (by omega) (by omega) a3).mono fun e w12 he=>?_⟩;obtain⟨rfl,hgb,rs',e1,e2,e3,e4,e5,e6⟩:=he;refine⟨_,_,_,rfl,r.BS (fun id b hb hn=>Rel.not r hF UG id b hb hn) hgb,?_⟩;obtain⟨hi1',hi2'⟩:=OK (N:=t+1) Xt Wo (e1.trans RL.symm) hDN (by omega) hi1 Sq hP e3 e4 e5 (by omega);have hw12:dg w.heap.size w w12:=(hw.tr r.cS).tr (dg.grown hgb (fun g hg=>by injection hg with hg;omega) r.cI);have hdN12:eK w12 (fun x=>x=gd) (.slice dp.a dp.ls.length dp.c) D:=WH.cJ fun x hx=>by
     rw[hx,hgb.block gd (Rel.old r hF gd TE) (fun e=>OZ (Option.some.inj e).symm),Rel.same r hF TE]
    have hgd12:gd<w12.heap.size:=by have:=Rel.old r hF gd TE;have:=hgb.size;omega
    generalize P / D=Q at*
    refine⟨by omega,by rw[gw];omega,U (out.set k Q),jk out k _ (by omega) (by simp),(k:Int)-1,wo,?_⟩;intro ρ3 w3 r3
    refine⟨(k,out.set k Q,rs',w3),⟨by dsimp only;omega,hw12.tr r3.cS,by simp[Qt],e1.trans rfl,S6.set hQ32,e2,?_,?_,?_,hi1',hi2'⟩,
     Sub.gn [] r3,by dsimp only;omega⟩
    ·dsimp only;rw[Rel.same r3 hF UG];exact e6
    ·exact hdN12.cJ fun x hx=>by rw[hx];exact Rel.same r3 hF TE
    ·exact Rel.old r3 hF gd TE
   ·have SS:k=0:=by
     have:¬(k:Int)-1≥0:=aG h9;omega
    subst SS;rw[jx,Nat.one_mul,List.drop_zero]at Sq;rw[jx,Nat.one_mul]at hi1;rw[<-hDd]at hi1 Sq;obtain⟨hq,hrem⟩:=aBc UZ Sq hi1;have QF:∀w':World,w'.heap[gr]? =some (.cells (U rs).toArray T.uint32 (0,0))->dV w' (fun x=>x=gr) (.slice (some ⟨gr,0,none⟩) rs0.length rs0.length) rs:=fun w' hh=>by
     have:=Le hh Wo (by omega)
     rwa [RL]at this
    refine iJ (Φ:=fun O _ v w2=>dV w2 (fun g=>g=(O 0).g) v (eH out)) (H':=[]) 0 rfl (by simp) trivial rfl (fun O w' r=>r.nn 0 _ rfl (by intros;simp) (by simp)) (fun O w' r=>?_) ?_
    ·have hL:=r.pF (id:=0) rfl S6 (by omega);rw[Qt]at hL;exact fw (fun g hg=>by rw[hg];exact(r.low 0 _ rfl (r.nn 0 _ rfl (by intros;simp) (by simp))).2) hL
    rintro O w13 v13 w14 r he hb14 hL;replace hw:=hw.tr hb14;have Ol:=r.low 0 _ rfl (r.nn 0 _ rfl (by intros;simp) (by simp));have hs:=he.size;have hgr14:w14.heap[gr]? =some (.cells (U rs).toArray T.uint32 (0,0)):=by rw[he.block gr (Rel.old r hF gr UG),Rel.same r hF UG];exact Oi
    replace UG:=UG.mono (iv':=((O 0).g,(O 0).g+1)::(w13.heap.size,w14.heap.size)::iv) fun p hp=>by simp[hp]
    have Vg:eK w14 (Cf w (((O 0).g,(O 0).g+1)::(w13.heap.size,w14.heap.size)::iv)) v13 (n / m):=by
     have:=hL.trimmed;rw[hq]at this;exact this.cL fun k hk=>.inr ⟨by omega,_,_,aI,by omega,by omega⟩
    generalize ((O 0).g,(O 0).g+1)::(w13.heap.size,w14.heap.size)::iv=Oj at*
    refine cH (cP (Φ:=fun _ _ v w2=>dV w2 (fun x=>x=gr) v (eH rs)) (fun O w' r=>fw (fun g hg=>by rw[hg];exact Rel.old r hF gr UG) (QF w' (by rw[Rel.same r hF UG];exact hgr14))) ?_);rintro O w15 v15 w16 r he hb16 hL;replace hw:=hw.tr hb16;replace Vg:=Vg.cK (iv':=(w15.heap.size,w16.heap.size)::Oj) r hF he fun x hx=>aC _ hx;replace hL:=hL.cL (S':=Cf w ((w15.heap.size,w16.heap.size)::Oj)) fun g hg=>by rw[hg];exact UG.cons
    generalize (w15.heap.size,w16.heap.size)::Oj=Oz at*
    have Uw:(eH rs).length<=rs.length:=by
     obtain⟨_,_,k,_,hk⟩:=fS rs;rw[hk];simp;omega
    refine cH (cP (Φ:=fun _ w' v w2=>eK w2 (Nf w' w2) v (val (eH rs) / 2^b)) (fun O w' r=>aDE (Rel.old r hF) (dV.rel hL r hF) (by omega) PD) ?_);rintro O w17 v17 w18 r he hb18 hr;replace hw:=hw.tr hb18;rw[(fS rs).1,hrem]at hr;have XL:=hr.dK (S:=FF) r.cI (iv:=(w17.heap.size,w18.heap.size)::Oz) aI;replace Vg:=Vg.cK (iv':=(w17.heap.size,w18.heap.size)::Oz) r hF he fun x hx=>aC _ hx;generalize (w17.heap.size,w18.heap.size)::Oz=QT at*
    intro ρ3 w19 r3;exact⟨_,rfl,hw.tr r3.cS,_,_,rfl,(Vg.rel r3 hF).cL fun g hg=>Cv.nw hg r3,((XL.rel r3 hF).cL fun g hg=>Cv.nw hg r3).cL fun g hg=>hg.elim (fun h=>h.elim) .inr⟩
theorem I5{m:Nat}(hS:Old S w)(hn:eK w S v n)(hm:eK w S u m)(St:ln n<=100000000000)(Ps:ln m<=100000000000):
  eA PG N.wz #[v,u] w (eL w fun v' w2=>eK w2 (Nw S w w2) v' (Nat.gcd n m)):=by
 refine AV (by simp) ?_
 refine⟨(Value×Nat)×(Value×Nat)×Iv×World,fun z=>⟨[(0,.o (.v z.1.1)),(1,.o (.v z.2.1.1))],[],0,z.2.2.1,z.2.2.2⟩,fun z=>z.2.1.2,
  fun z=>dg w.heap.size w z.2.2.2∧eK z.2.2.2 (Cv S w.heap.size z.2.2.1) z.1.1 z.1.2∧eK z.2.2.2 (Cv S w.heap.size z.2.2.1) z.2.1.1 z.2.1.2∧ln z.1.2<=100000000000∧ln z.2.1.2<=100000000000∧Nat.gcd z.1.2 z.2.1.2=Nat.gcd n m,?_,?_⟩
 ·intro O w' r
  exact⟨((v,n),(u,m),[],w'),⟨r.cS,(hn.cJ fun g hg=>r.cS.block g (hS g hg)).cL fun _ hg=>.inl hg,(hm.cJ fun g hg=>r.cS.block g (hS g hg)).cL fun _ hg=>.inl hg,St,Ps,rfl⟩,
   Sub.gen [] r trivial ⟨rfl,rfl,trivial⟩ trivial (by simp[jw,SV.sc,At.sc]) (by rfl) (by simp)⟩
 ·rintro⟨⟨vx,x⟩,⟨vy,y⟩,iv,w1⟩ ⟨hw,hx,hy,PS,Qu,hg⟩;dsimp only at hw hx hy PS Qu hg ⊢;have hyN:=hy;obtain⟨p,rfl,RU,QQ⟩:=hy.la;have QI:=ec p.lm QQ;rw[RU]at QI;refine dG.mk ?_ ?_<;>intro h
  ·have h:0<p.ls.length:=by
    have:(p.ls.length:Int)>0:=aH h;omega
   have QM:0<y:=by
    rcases bQ y with h0|h0
    ·rw[h0]at QI;rw[aB7]at QI;omega
    ·exact h0
   refine cH (cP (Φ:=fun _ w' v w2=>∃q r,v= .tuple #[q,r]∧eK w2 (Nf w' w2) q (x / y)∧eK w2 (Nw (Cv S w.heap.size iv) w' w2) r (x % y)) (fun O w' r=>s3 (Rel.old r hS) (hx.rel r hS) (hyN.rel r hS) QM PS) ?_);rintro O w3 v3 w4 r he Sk ⟨q,rm,rfl,-,hr⟩;replace hw:=hw.tr Sk;have XL:eK w4 (Cv S w.heap.size ((w3.heap.size,w4.heap.size)::iv)) rm (x % y):=hr.cL fun g hg=>Nw.cv hg r.cI;have hyN:=hyN.cK (iv':=(w3.heap.size,w4.heap.size)::iv) r hS he fun x hx=>aC _ hx;generalize (w3.heap.size,w4.heap.size)::iv=Oa at*
   intro ρ5 w5 r5
   refine⟨((_,y),(rm,x % y),Oa,w5),⟨hw.tr r5.cS,hyN.rel r5 hS,XL.rel r5 hS,Qu,aV (fk (Nat.le_of_lt (cD x QM))) Qu,?_⟩,
    Sub.gen [] r5 trivial ⟨rfl,rfl,trivial⟩ trivial (by simp[jw,SV.sc,At.sc]) (by rfl) (by simp),cD x QM⟩
   dsimp only
   rw[<-hg,Nat.gcd_comm x y,Nat.gcd_rec y x,Nat.gcd_comm]
  ·have h:p.ls.length=0:=by
    have:¬(p.ls.length:Int)>0:=aG h;omega
   have QM:y=0:=by
    have:=mh y;rw[<-QI,h,jx]at this;omega
   rw[QM,Nat.gcd_zero_right]at hg;intro ρ5 w5 r5;exact⟨_,rfl,hw.tr r5.cS,by rw[<-hg];exact(hx.rel r5 hS).cL fun g hg=>Cv.nw hg r5⟩
def sg(neg:Bool)(n:Nat):Int:=if neg then -(n:Int)else n
theorem aAk(n:Nat):sg true n= -(n:Int):=rfl
theorem aDH(n:Nat):sg false n=n:=rfl
theorem vN(b:Bool)(n:Nat):(sg b n).natAbs=n:=by cases b<;>simp[sg]
def xe(w:World)(S:Nat->Prop)(v:Value)(neg:Bool)(ls:List Nat):Prop:=∃lv,v= .agg #[.bool neg,lv]∧dV w S lv ls
def ed(w:World)(S:Nat->Prop)(v:Value)(z:Int):Prop:=∃nv,v= .agg #[.bool (decide (z<0)),nv]∧eK w S nv z.natAbs
section
variable{S S':Nat->Prop}{H:Hp}{nx:Nat}{iv iv':Iv}{B:Nat}{w w' w2:World}{O:Nat->Sx.eE}{v:Value}{z:Int}
theorem ed.cJ(h:ed w S v z)(hk:∀g,S g->w2.heap[g]? =w.heap[g]?):ed w2 S v z:=by
 obtain⟨nv,h1,h2⟩:=h;exact⟨nv,h1,h2.cJ hk⟩
theorem ed.cL(h:ed w S v z)(hk:∀g,S g->S' g):ed w S' v z:=by
 obtain⟨nv,h1,h2⟩:=h;exact⟨nv,h1,h2.cL hk⟩
theorem ed.rel(h:ed w (Cv S B iv) v z)(r:Rel H nx iv B w O w')(hS:∀g,S g->g<B):ed w' (Cv S B iv) v z:=h.cJ fun _ hg=>Rel.same r hS hg
theorem ed.cK(h:ed w (Cv S B iv) v z)(r:Rel H nx iv B w O w')(hS:∀g,S g->g<B)(he:Ext w' w2)(hm:∀p,p∈iv->p∈iv'):ed w2 (Cv S B iv') v z:=by
 obtain⟨nv,h1,h2⟩:=h;exact⟨nv,h1,h2.cK r hS he hm⟩
theorem ed.dK(h:ed w2 (Nf w' w2) v z)(hB:B<=w'.heap.size)(hm:(w'.heap.size,w2.heap.size)∈iv):ed w2 (Cv S B iv) v z:=h.cL fun _ hg=>hg.dK hB hm
end
theorem yw{k:Nat}(h:k=ln n):0<k↔0<n:=by
 have h1:=@gX n 0;rw[jx]at h1;omega
theorem dV.shape(h:dV w S v ls):∃a n c,v= .slice a n c:=by
 obtain⟨a,c,h,_⟩:=h.sl;exact⟨a,_,c,h⟩
theorem eK.shape(h:eK w S v n):∃a n c,v= .slice a n c:=by
 obtain⟨_,h,_⟩:=h;exact h.shape
theorem dV.arg(h:dV w S v ls)(iv:Iv):dV w (Cv S w.heap.size iv) v ls:=h.cL fun _ h=>.inl h
theorem eK.arg(h:eK w S v n)(iv:Iv):eK w (Cv S w.heap.size iv) v n:=h.cL fun _ h=>.inl h
theorem eK.out(h:eK w1 (Cv S w.heap.size iv) v n)(r:Rel H nx iv w.heap.size w1 O w')(hS:Old S w):eK w' (Nw S w w') v n:=
 (h.rel r hS).cL fun _ hg=>Cv.nw hg r
theorem ed.out(h:ed w1 (Cv S w.heap.size iv) v z)(r:Rel H nx iv w.heap.size w1 O w')(hS:Old S w):ed w' (Nw S w w') v z:=
 (h.rel r hS).cL fun _ hg=>Cv.nw hg r
theorem neg_pos{k:Nat}(h:k=ln n):decide ((k:Int)>0)=decide (-(n:Int)<0):=by
 have:=yw h;exact decide_eq_decide.2 (by omega)
theorem cG(w:World):Old FF w:=fun _ h=>h.elim
theorem aDx{neg:Bool}(hS:Old S w)(h:xe w S v neg ls):
  eA PG N.CV #[v] w (eL w fun v' w2=>ed w2 (Nw S w w2) v' (sg neg (val ls))):=by
 obtain⟨lv,rfl,hl⟩:=h;replace hl:=hl.arg [];refine IN (by simp) ?_;refine cH (cP (Φ:=fun _ _ v w2=>dV w2 (Cv S w.heap.size []) v (eH ls)) (fun O w' r=>fw (Rel.old r hS) (dV.rel hl r hS)) ?_);rintro O w1 v1 w2 r he hw hL;have hN:=hL.trimmed.cL (S':=Cv S w.heap.size [(w1.heap.size,w2.heap.size)]) fun _ hg=>hg.cons;have hN2:=hN;obtain⟨p,rfl,RU,QQ⟩:=hN.la;have QI:=ec p.lm QQ;rw[RU]at QI
 cases neg
 ·intro ρ3 w3 r3;exact⟨_,rfl,hw.tr r3.cS,_,rfl,by rw[vN];exact hN2.out r3 hS⟩
 ·intro ρ3 w3 r3;exact⟨_,rfl,hw.tr r3.cS,_,by rw[aAk,<-neg_pos QI];rfl,by rw[vN];exact hN2.out r3 hS⟩
theorem aAl(hS:Old S w)(h:ed w S v z)(St:ln z.natAbs<=100000000000):
  eA PG N.nt #[v] w (eL w fun v' w2=>∃ls,xe w2 (Nf w w2) v' (decide (z<0)) ls∧Nz ls∧val ls=z.natAbs):=by
 obtain⟨nv,rfl,hn⟩:=h;obtain⟨ls,hl,hz,hv⟩:=hn;replace hl:=hl.arg [];refine sO (by simp) ?_;refine cH (cP (Φ:=fun _ _ v w2=>dV w2 (Cv S w.heap.size []) v (eH ls)) (fun O w' r=>fw (Rel.old r hS) (dV.rel hl r hS)) ?_);rintro O w1 v1 w2 r he hw hL;rw[H3 hz]at hL;have QI:=ec hl.lm hz;rw[hv]at QI;replace hL:=hL.cL (S':=Cv S w.heap.size [(w1.heap.size,w2.heap.size)]) fun _ hg=>hg.cons;have hL2:=hL;obtain⟨p,rfl,hp⟩:=hL.la;have Wp:(p.ls.length:Int)>0↔z≠0:=by
  have h1:=yw QI;rw[hp];omega
 subst hp;generalize hb:decide (z<0)=b
 cases b
 all_goals
  refine cH (cP (Φ:=fun _ w' v w2=>dV w2 (Nf w' w2) v p.ls) (fun O w' r=>LX (Rel.old r hS) (dV.rel hL2 r hS) (by omega)) ?_);rintro O w3 v3 w4 r he Sk hc;replace hw:=hw.tr Sk;have Ts:=hc.dK (S:=FF) r.cI (iv:=(w3.heap.size,w4.heap.size)::[(w1.heap.size,w2.heap.size)]) aI;obtain⟨a3,n3,c3,rfl⟩:=Ts.shape;intro ρ5 w5 r5;refine⟨_,rfl,hw.tr r5.cS,p.ls,⟨_,?_,(dV.rel Ts r5 (cG w)).cL fun _ hg=>Cv.nw hg r5⟩,hz,hv⟩
 ·rfl
 ·have:decide ((p.ls.length:Int)>0)=true:=bS (Wp.2 (by have:=aH hb;omega));rw[<-this];rfl
theorem DL(h:ed w S v z):eA PG N.np #[v] w (eL w fun v' _=>v'= .int .i64 z.sign):=by
 obtain⟨nv,rfl,hn⟩:=h;obtain⟨p,rfl,RU,QQ⟩:=hn.la;have QI:=ec p.lm QQ;rw[RU]at QI;have Wp:=yw QI;generalize hb:decide (z<0)=b;refine sM (by simp) ?_;refine dG.mk ?_ ?_<;>intro h
 ·have h:p.ls.length=0:=by have:=eq_of_beq h;omega
  have hz:z=0:=by omega
  subst hz;intro O w2 r;exact⟨_,rfl,r.cS,rfl⟩
 ·have h:p.ls.length≠0:=fun e=>by rw[e]at h;simp at h
  have hz:z≠0:=by omega
  cases b
  ·have:=aG hb;intro O w2 r;exact⟨_,rfl,r.cS,by rw[bq (by omega)];rfl⟩
  ·have:=aH hb;intro O w2 r;exact⟨_,rfl,r.cS,by rw[bo (by omega)];rfl⟩
theorem qS(hS:Old S w)(h:ed w S v z):eA PG N.nB #[v] w (eL w fun v' w2=>ed w2 (Nw S w w2) v' (-z)):=by
 obtain⟨nv,rfl,hn⟩:=h;have RR:=hn.arg [];obtain⟨p,rfl,RU,QQ⟩:=hn.la;have QI:=ec p.lm QQ;rw[RU]at QI;have Wp:=yw QI;have QA:(-z).natAbs=z.natAbs:=cF z;generalize hb:decide (z<0)=b;refine qw (by simp) ?_
 cases b
 ·have:=aG hb;have hd:decide ((p.ls.length:Int)>0)=decide (-z<0):=decide_eq_decide.2 (by omega);intro O w2 r;exact⟨_,rfl,r.cS,_,by rw[<-hd];rfl,by rw[QA];exact RR.out r hS⟩
 ·have:=aH hb;have hd:decide (-z<0)=false:=bJ (by omega);intro O w2 r;exact⟨_,rfl,r.cS,_,by rw[hd];rfl,by rw[QA];exact RR.out r hS⟩
theorem ed.num(h:ed w S v z):∃a n c,v= .agg #[.bool (decide (z<0)),.slice a n c]∧eK w S (.slice a n c) z.natAbs:=by
 obtain⟨nv,h1,h2⟩:=h;obtain⟨a,n,c,rfl⟩:=h2.shape;exact⟨a,n,c,h1,h2⟩
theorem FB(hS:Old S w)(hx:ed w S v x)(hy:ed w S u y)(PS:ln x.natAbs<=100000000000)(Qu:ln y.natAbs<=100000000000):
  eA PG N.oB #[v,u] w (eL w fun v' w2=>ed w2 (Nf w w2) v' (x+y)):=by
 obtain⟨nx,rfl,SG⟩:=hx;obtain⟨ny,rfl,UJ⟩:=hy;obtain⟨ax,lx,cx,rfl⟩:=SG.shape;obtain⟨ay,ly,cy,rfl⟩:=UJ.shape;replace SG:=SG.arg [];replace UJ:=UJ.arg [];generalize TH:decide (x<0)=bx;generalize PD:decide (y<0)=b2;refine sR (by simp) ?_;have SQ:bx=b2->(x+y).natAbs=x.natAbs+y.natAbs∧decide (x+y<0)=bx:=fun e=>by
  cases bx<;>subst e
  ·have h1:=aG TH;have h2:=aG PD;exact⟨by omega,bJ (by omega)⟩
  ·have h1:=aH TH;have h2:=aH PD;exact⟨by omega,bS (by omega)⟩
 have WT:bx≠b2->y.natAbs<=x.natAbs->(x+y).natAbs=x.natAbs-y.natAbs∧(decide (x+y<0)=(bx&&decide (x.natAbs-y.natAbs≠0))):=fun e h=>by
  cases bx
  ·have h1:=aG TH
   cases b2
   ·exact absurd rfl e
   have h2:=aH PD;exact⟨by omega,by rw[Bool.false_and];exact bJ (by omega)⟩
  ·have h1:=aH TH
   cases b2
   ·have h2:=aG PD;exact⟨by omega,by rw[Bool.true_and];exact decide_eq_decide.2 (by omega)⟩
   ·exact absurd rfl e
 have Ug:bx≠b2->x.natAbs<y.natAbs->(x+y).natAbs=y.natAbs-x.natAbs∧decide (x+y<0)=b2:=fun e h=>by
  cases bx
  ·have h1:=aG TH
   cases b2
   ·exact absurd rfl e
   have h2:=aH PD;exact⟨by omega,bS (by omega)⟩
  ·have h1:=aH TH
   cases b2
   ·have h2:=aG PD;exact⟨by omega,bJ (by omega)⟩
   ·exact absurd rfl e
 by_cases Ov:bx=b2
 ·obtain⟨h1,h2⟩:=SQ Ov;subst Ov
  cases bx
  all_goals
   refine cO hτ dZ [.x 0,.x 1,.x 2,.x 3,.x 4,.x 5,.x 6,.x 7,.x 8] (by kernel_rfl) (by kernel_rfl) ?_;refine cP (Φ:=fun _ w' v w2=>eK w2 (Nf w' w2) v (x.natAbs+y.natAbs)) (fun O w' r=>aDJ (Rel.old r hS) (SG.rel r hS) (UJ.rel r hS) (by omega) (by omega)) ?_;rintro O w3 v3 w4 r he hw hn;have hN:=hn.dK (S:=FF) r.cI (iv:=(w3.heap.size,w4.heap.size)::[]) aI;obtain⟨a3,n3,c3,rfl⟩:=hN.shape;intro ρ5 w5 r5;exact⟨_,rfl,hw.tr r5.cS,_,by rw[h2];rfl,by rw[h1];exact hN.out r5 (cG w)⟩
 ·replace WT:=WT Ov;replace Ug:=Ug Ov;have hcmp:∀d:Int,d=vF x.natAbs y.natAbs->(0<=d↔y.natAbs<=x.natAbs):=fun d e=>by
   rw[e];unfold vF;split
   ·omega
   ·split<;>omega
  cases bx<;>cases b2<;>first|exact absurd rfl Ov|skip
  all_goals
   refine cH (cP (Φ:=fun _ _ v _=>v= .int .i64 (vF x.natAbs y.natAbs)) (fun O w' r=>aA5 (Rel.old r hS) (SG.rel r hS) (UJ.rel r hS)) ?_);rintro O w1 v1 w2 r he hw rfl;replace SG:=SG.cK (iv':=[(w1.heap.size,w2.heap.size)]) r hS he fun x hx=>aC _ hx;replace UJ:=UJ.cK (iv':=[(w1.heap.size,w2.heap.size)]) r hS he fun x hx=>aC _ hx;refine dG.mk ?_ ?_<;>intro h
   ·have h:=(hcmp _ rfl).1 (aH h);obtain⟨h1,h2⟩:=WT h;refine cH (cP (Φ:=fun _ w' v w2=>eK w2 (Nf w' w2) v (x.natAbs-y.natAbs)) (fun O w' r=>G6 (Rel.old r hS) (SG.rel r hS) (UJ.rel r hS) h (by omega)) ?_);rintro O w3 v3 w4 r he Sk hn;replace hw:=hw.tr Sk;have hN:=hn.dK (S:=FF) r.cI (iv:=(w3.heap.size,w4.heap.size)::[(w1.heap.size,w2.heap.size)]) aI;have hN2:=hN;obtain⟨p,rfl,RU,QQ⟩:=hN.la;have QI:=ec p.lm QQ;rw[RU]at QI;have Wp:=yw QI;have hd:decide ((p.ls.length:Int)>0)=decide (x.natAbs-y.natAbs≠0):=decide_eq_decide.2 (by omega);intro ρ5 w5 r5;exact⟨_,rfl,hw.tr r5.cS,_,by rw[h2,<-hd];rfl,by rw[h1];exact hN2.out r5 (cG w)⟩
   ·have h:x.natAbs<y.natAbs:=by
     have h0:=aG h;have:=hcmp _ rfl;omega
    obtain⟨h1,h2⟩:=Ug h;refine cO hτ dZ [.x 0,.x 1,.x 2,.x 3,.x 4,.x 5,.x 6,.x 7,.x 8] (by kernel_rfl) (by kernel_rfl) ?_;refine cP (Φ:=fun _ w' v w2=>eK w2 (Nf w' w2) v (y.natAbs-x.natAbs)) (fun O w' r=>G6 (Rel.old r hS) (UJ.rel r hS) (SG.rel r hS) (by omega) (by omega)) ?_;rintro O w3 v3 w4 r he Sk hn;replace hw:=hw.tr Sk;have hN:=hn.dK (S:=FF) r.cI (iv:=(w3.heap.size,w4.heap.size)::[(w1.heap.size,w2.heap.size)]) aI;obtain⟨a3,n3,c3,rfl⟩:=hN.shape;intro ρ5 w5 r5;exact⟨_,rfl,hw.tr r5.cS,_,by rw[h2];rfl,by rw[h1];exact hN.out r5 (cG w)⟩
theorem jF(hS:Old S w)(hx:ed w S v x)(hy:ed w S u y)(PS:ln x.natAbs<=100000000000)(Qu:ln y.natAbs<=100000000000):
  eA PG N.nA #[v,u] w (eL w fun v' w2=>ed w2 (Nf w w2) v' (x*y)):=by
 obtain⟨nx,rfl,SG⟩:=hx;obtain⟨ny,rfl,UJ⟩:=hy;obtain⟨ax,lx,cx,rfl⟩:=SG.shape;obtain⟨ay,ly,cy,rfl⟩:=UJ.shape;replace SG:=SG.arg [];replace UJ:=UJ.arg [];have QA:=Int.natAbs_mul x y;have Rr:decide (x*y<0)=((decide (x<0) != decide (y<0))&&decide (x.natAbs*y.natAbs≠0)):=by
  by_cases h0:x*y=0
  ·rw[<-QA,h0];simp
  ·have SC:x≠0:=fun e=>h0 (by rw[e,Int.zero_mul]);have QM:y≠0:=fun e=>h0 (by rw[e,Int.mul_zero]);rw[<-QA,bS (show (x*y).natAbs≠0 by omega),Bool.and_true];by_cases h1:x<0<;>by_cases h2:y<0
   ·rw[bS h1,bS h2];exact bJ (by have:=Int.mul_pos_of_neg_of_neg h1 h2;omega)
   ·rw[bS h1,bJ h2];exact bS (Int.mul_neg_of_neg_of_pos h1 (by omega))
   ·rw[bJ h1,bS h2];exact bS (Int.mul_neg_of_pos_of_neg (by omega) h2)
   ·rw[bJ h1,bJ h2];exact bJ (by have:=Int.mul_nonneg (show 0<=x by omega) (show 0<=y by omega);omega)
 generalize decide (x<0)=bx at*
 generalize decide (y<0)=b2 at*
 refine qv (by simp) ?_;refine cH (cP (Φ:=fun _ w' v w2=>eK w2 (Nf w' w2) v (x.natAbs*y.natAbs)) (fun O w' r=>Lb (Rel.old r hS) (SG.rel r hS) (UJ.rel r hS) (by omega) (by omega)) ?_);rintro O w3 v3 w4 r he hw hn;have hN:=hn.dK (S:=FF) r.cI (iv:=(w3.heap.size,w4.heap.size)::[]) aI;have hN2:=hN;obtain⟨p,rfl,RU,QQ⟩:=hN.la;have QI:=ec p.lm QQ;rw[RU]at QI;have Wp:=yw QI;have hd:decide ((p.ls.length:Int)>0)=decide (x.natAbs*y.natAbs≠0):=decide_eq_decide.2 (by omega)
 cases bx<;>cases b2
 all_goals
  intro ρ5 w5 r5;exact⟨_,rfl,hw.tr r5.cS,_,by rw[Rr,<-hd];rfl,by rw[QA];exact hN2.out r5 (cG w)⟩
theorem aAo(hS:Old S w)(hx:ed w S v x)(hy:ed w S u y)(PS:ln x.natAbs<=100000000000)(Qu:ln y.natAbs<=100000000000):
  eA PG N.ov #[v,u] w (eL w fun v' _=>v'= .int .i64 (x-y).sign):=by
 have hxN:ed w (Cv S w.heap.size []) v x:=hx.cL fun _ h=>.inl h;have hyN:ed w (Cv S w.heap.size []) u y:=hy.cL fun _ h=>.inl h;obtain⟨nx,rfl,SG⟩:=hx;obtain⟨ny,rfl,UJ⟩:=hy;obtain⟨ax,lx,cx,rfl⟩:=SG.shape;obtain⟨ay,ly,cy,rfl⟩:=UJ.shape;refine ta (by simp) ?_;refine cO hτ dZ [.x 0,.x 1,.x 2,.x 3,.x 4,.x 5] (by kernel_rfl) (by kernel_rfl) ?_;refine cP (Φ:=fun _ w' v w2=>ed w2 (Nw (Cv S w.heap.size []) w' w2) v (-y)) (fun O w' r=>qS (Rel.old r hS) (hyN.rel r hS)) ?_;rintro O w1 v1 w2 r he hw hm;have VM:ed w2 (Cv S w.heap.size [(w1.heap.size,w2.heap.size)]) v1 (-y):=hm.cL fun _ hg=>Nw.cv hg r.cI;replace hxN:=hxN.cK (iv':=[(w1.heap.size,w2.heap.size)]) r hS he fun x hx=>aC _ hx;generalize [(w1.heap.size,w2.heap.size)]=iv at*
 have hmN2:=VM;obtain⟨am,lm,cm,rfl,-⟩:=VM.num;refine cP (Φ:=fun _ w' v w2=>ed w2 (Nf w' w2) v (x+ -y)) (fun O w' r=>FB (Rel.old r hS) (hxN.rel r hS) (hmN2.rel r hS) PS (by rw[cF];exact Qu)) ?_;rintro O w3 v3 w4 r he Sk hp;replace hw:=hw.tr Sk;have hpN:=hp.dK (S:=S) r.cI (iv:=(w3.heap.size,w4.heap.size)::iv) aI;have hpN2:=hpN;obtain⟨ap,lp,cp,rfl,-⟩:=hpN.num;refine cP (Φ:=fun _ _ v _=>v= .int .i64 (x-y).sign) (fun O w' r=>DL (hpN2.rel r hS)) ?_;rintro O w5 v5 w6 r he Vx rfl;replace hw:=hw.tr Vx;intro ρ7 w7 r7;exact⟨_,rfl,hw.tr r7.cS,rfl⟩
theorem qV(n:Int)(w:World)(h1: -9223372036854775808<=n)(h2:n<=9223372036854775807):
  eA PG N.z8 #[.int .i64 n] w (eL w fun v' w2=>ed w2 (Nf w w2) v' n):=by
 have key:∀(m:Nat),m=n.natAbs->m<18446744073709551616∧val [m % 4294967296,m / 4294967296]=n.natAbs∧m / 4294967296<4294967296:=fun m e=>by
  refine⟨by omega,?_,by omega⟩;simp only[val]
  omega
 refine Cp (by simp) ?_;refine⟨if n<0 then n+18446744073709551616 else n,by show n % 18446744073709551616=_;split<;>omega,?_⟩;refine dG.mk ?_ ?_<;>intro h
 ·have h:=aH h;rw[if_pos h];obtain⟨m,hm⟩:∃m,m=n.natAbs:=⟨_,rfl⟩
  obtain⟨k1,k2,k3⟩:=key m hm;refine⟨(m:Int),by show(0-(n+18446744073709551616)) % 18446744073709551616=_;omega,((m % 4294967296:Nat):Int),ff m,by decide,((m / 2^32:Nat):Int),nJ 32 (by decide),((m / 4294967296:Nat):Int),by rw[ff,bT (by omega)],?_⟩;refine iJ (Φ:=fun O _ v w2=>dV w2 (fun g=>g=(O 1).g) v (eH [m % 4294967296,m / 4294967296])) (H':=[(0,.box T.number [.v (.bool false),.v (.slice none 0 0)])]) 1 rfl (by simp) ⟨rfl,trivial⟩ rfl (fun O w' r=>r.nn 1 _ rfl (by intros;simp) (by simp)) (fun O w' r=>?_) ?_
  ·have hL:=r.x9 (id:=1) (ls:=[m % 4294967296,m / 4294967296]) rfl (by intro x hx;simp at hx;omega) (by simp);exact fw (fun g hg=>by rw[hg];exact(r.low 1 _ rfl (r.nn 1 _ rfl (by intros;simp) (by simp))).2) hL
  rintro O w1 v1 w2 r he hw hL;have Ol:=r.low 1 _ rfl (r.nn 1 _ rfl (by intros;simp) (by simp));have hs:=he.size;generalize (O 1).g=g0 at*
  have hN:eK w2 (Cf w [(g0,g0+1),(w1.heap.size,w2.heap.size)]) v1 n.natAbs:=by
   have:=hL.trimmed;rw[k2]at this;exact this.cL fun k hk=>.inr ⟨by omega,g0,g0+1,by simp,by omega,by omega⟩
  generalize [(g0,g0+1),(w1.heap.size,w2.heap.size)]=iv at*
  obtain⟨a3,n3,c3,rfl⟩:=hN.shape;intro ρ5 w5 r5;exact⟨_,rfl,hw.tr r5.cS,_,rfl,hN.out r5 (cG w)⟩
 ·have h:=aG h;rw[aK h];obtain⟨m,hm⟩:∃m,m=n.natAbs:=⟨_,rfl⟩
  obtain⟨k1,k2,k3⟩:=key m hm;have RN:n=(m:Int):=by omega
  refine⟨((m % 4294967296:Nat):Int),by rw[RN];exact ff m,by decide,((m / 2^32:Nat):Int),by rw[RN];exact nJ 32 (by decide),((m / 4294967296:Nat):Int),by rw[ff,bT (by omega)],?_⟩;refine iJ (Φ:=fun O _ v w2=>dV w2 (fun g=>g=(O 1).g) v (eH [m % 4294967296,m / 4294967296])) (H':=[(0,.box T.number [.v (.bool false),.v (.slice none 0 0)])]) 1 rfl (by simp) ⟨rfl,trivial⟩ rfl (fun O w' r=>r.nn 1 _ rfl (by intros;simp) (by simp)) (fun O w' r=>?_) ?_
  ·have hL:=r.x9 (id:=1) (ls:=[m % 4294967296,m / 4294967296]) rfl (by intro x hx;simp at hx;omega) (by simp);exact fw (fun g hg=>by rw[hg];exact(r.low 1 _ rfl (r.nn 1 _ rfl (by intros;simp) (by simp))).2) hL
  rintro O w1 v1 w2 r he hw hL;have Ol:=r.low 1 _ rfl (r.nn 1 _ rfl (by intros;simp) (by simp));have hs:=he.size;generalize (O 1).g=g0 at*
  have hN:eK w2 (Cf w [(g0,g0+1),(w1.heap.size,w2.heap.size)]) v1 n.natAbs:=by
   have:=hL.trimmed;rw[k2]at this;exact this.cL fun k hk=>.inr ⟨by omega,g0,g0+1,by simp,by omega,by omega⟩
  generalize [(g0,g0+1),(w1.heap.size,w2.heap.size)]=iv at*
  obtain⟨a3,n3,c3,rfl⟩:=hN.shape;intro ρ5 w5 r5;exact⟨_,rfl,hw.tr r5.cS,_,rfl,hN.out r5 (cG w)⟩
def kQ(w:World)(S:Nat->Prop)(v:Value)(z:Int):Prop:=∃neg ls,xe w S v neg ls∧sg neg (val ls)=z
def dU(w:World)(S:Nat->Prop)(v:Value)(z:Int):Prop:=∃ls,xe w S v (decide (z<0)) ls∧Nz ls∧val ls=z.natAbs
theorem FH(z:Int):sg (decide (z<0)) z.natAbs=z:=by
 by_cases h:z<0
 ·rw[bS h,aAk];omega
 ·rw[bJ h,aDH];omega
theorem dU.r(h:dU w S v z):kQ w S v z:=by
 obtain⟨ls,h1,h2,h3⟩:=h;exact⟨_,ls,h1,by rw[h3,FH]⟩
section
variable{S S':Nat->Prop}{H:Hp}{nx:Nat}{iv iv':Iv}{B:Nat}{w w' w2:World}{O:Nat->Sx.eE}{v:Value}{z:Int}{neg:Bool}{ls:List Nat}
theorem xe.cJ(h:xe w S v neg ls)(hk:∀g,S g->w2.heap[g]? =w.heap[g]?):xe w2 S v neg ls:=by
 obtain⟨lv,h1,h2⟩:=h;exact⟨lv,h1,h2.cJ hk⟩
theorem xe.cL(h:xe w S v neg ls)(hk:∀g,S g->S' g):xe w S' v neg ls:=by
 obtain⟨lv,h1,h2⟩:=h;exact⟨lv,h1,h2.cL hk⟩
theorem kQ.cJ(h:kQ w S v z)(hk:∀g,S g->w2.heap[g]? =w.heap[g]?):kQ w2 S v z:=by
 obtain⟨n,l,h1,h2⟩:=h;exact⟨n,l,h1.cJ hk,h2⟩
theorem kQ.cL(h:kQ w S v z)(hk:∀g,S g->S' g):kQ w S' v z:=by
 obtain⟨n,l,h1,h2⟩:=h;exact⟨n,l,h1.cL hk,h2⟩
theorem dU.cJ(h:dU w S v z)(hk:∀g,S g->w2.heap[g]? =w.heap[g]?):dU w2 S v z:=by
 obtain⟨l,h1,h2⟩:=h;exact⟨l,h1.cJ hk,h2⟩
theorem dU.cL(h:dU w S v z)(hk:∀g,S g->S' g):dU w S' v z:=by
 obtain⟨l,h1,h2⟩:=h;exact⟨l,h1.cL hk,h2⟩
theorem kQ.rel(h:kQ w (Cv S B iv) v z)(r:Rel H nx iv B w O w')(hS:∀g,S g->g<B):kQ w' (Cv S B iv) v z:=h.cJ fun _ hg=>Rel.same r hS hg
theorem dU.rel(h:dU w (Cv S B iv) v z)(r:Rel H nx iv B w O w')(hS:∀g,S g->g<B):dU w' (Cv S B iv) v z:=h.cJ fun _ hg=>Rel.same r hS hg
theorem kQ.cK(h:kQ w (Cv S B iv) v z)(r:Rel H nx iv B w O w')(hS:∀g,S g->g<B)(he:Ext w' w2)(hm:∀p,p∈iv->p∈iv'):kQ w2 (Cv S B iv') v z:=
 ((h.rel r hS).cJ fun g hg=>he.block g (Rel.old r hS g hg)).cL fun _ hg=>hg.mono hm
theorem dU.cK(h:dU w (Cv S B iv) v z)(r:Rel H nx iv B w O w')(hS:∀g,S g->g<B)(he:Ext w' w2)(hm:∀p,p∈iv->p∈iv'):dU w2 (Cv S B iv') v z:=
 ((h.rel r hS).cJ fun g hg=>he.block g (Rel.old r hS g hg)).cL fun _ hg=>hg.mono hm
theorem dU.dK(h:dU w2 (Nf w' w2) v z)(hB:B<=w'.heap.size)(hm:(w'.heap.size,w2.heap.size)∈iv):dU w2 (Cv S B iv) v z:=h.cL fun _ hg=>hg.dK hB hm
theorem kQ.shape(h:kQ w S v z):∃b a n c,v= .agg #[.bool b,.slice a n c]:=by
 obtain⟨b,l,⟨lv,h1,h2⟩,_⟩:=h;obtain⟨a,n,c,rfl⟩:=h2.shape;exact⟨b,a,n,c,h1⟩
theorem ed.old(h:ed w2 (Nw (Cv S B iv) w' w2) v z)(hB:B<=w'.heap.size):ed w2 (Cv S B ((w'.heap.size,w2.heap.size)::iv)) v z:=h.cL fun _ hg=>Nw.cv hg hB
end
theorem dU.out(h:dU w1 (Cv S w.heap.size iv) v z)(r:Rel H nx iv w.heap.size w1 O w')(hS:Old S w):dU w' (Nw S w w') v z:=
 (h.rel r hS).cL fun _ hg=>Cv.nw hg r
theorem aAv(hS:Old S w)(h:kQ w S v z):eA PG N.CV #[v] w (eL w fun v' w2=>ed w2 (Nw S w w2) v' z):=by
 obtain⟨n,l,h1,rfl⟩:=h;exact aDx hS h1
theorem ed.shape(h:ed w S v z):∃b a n c,v= .agg #[.bool b,.slice a n c]:=by
 obtain⟨a,n,c,h1,_⟩:=h.num;exact⟨_,a,n,c,h1⟩
theorem dU.shape(h:dU w S v z):∃b a n c,v= .agg #[.bool b,.slice a n c]:=h.r.shape
theorem dI(x y:Int):ln (x*y).natAbs<=ln x.natAbs+ln y.natAbs:=by
 rw[Int.natAbs_mul];exact aCl _ _
end Go.Ex
namespace Go.Ex
open Go Go.Sx
theorem Bp{x y:Int}(hy:0<y)(hx:x≠0):
  (Rat.divInt x y).num.natAbs=x.natAbs / Nat.gcd x.natAbs y.natAbs∧(Rat.divInt x y).den=y.natAbs / Nat.gcd x.natAbs y.natAbs∧decide ((Rat.divInt x y).num<0)=decide (x<0):=by
 have hg:0<Nat.gcd x.natAbs y.natAbs:=bw _ (by omega);have hs:y.sign=1:=bq hy;have hc:(y.gcd x:Int)=(Nat.gcd x.natAbs y.natAbs:Nat):=by rw[Int.gcd_comm];rfl
 have hdx:((Nat.gcd x.natAbs y.natAbs:Nat):Int) ∣ x:=by
  rw[<-Int.natAbs_dvd_natAbs];exact Nat.gcd_dvd_left _ _
 have h1:(Rat.divInt x y).num=x / ((Nat.gcd x.natAbs y.natAbs:Nat):Int):=by
  rw[Rat.num_divInt,hs,Int.one_mul,hc]
 have XD:0<((Nat.gcd x.natAbs y.natAbs:Nat):Int):=by omega
 refine⟨?_,?_,?_⟩
 ·rw[h1,Int.natAbs_ediv_of_dvd hdx];rfl
 ·rw[Rat.den_divInt,aK (by omega)];have:y.gcd x=Nat.gcd x.natAbs y.natAbs:=by rw[Int.gcd_comm];rfl
  rw[this]
 ·rw[h1];obtain⟨k,hk⟩:=hdx;refine decide_eq_decide.2 ?_;have:x / ((Nat.gcd x.natAbs y.natAbs:Nat):Int)=k:=by
   conv=>lhs;lhs;rw[hk]
   exact Int.mul_ediv_cancel_left _ (by omega)
  rw[this];generalize ((Nat.gcd x.natAbs y.natAbs:Nat):Int)=g at*
  subst hk;constructor
  ·intro h;exact Int.mul_neg_of_pos_of_neg XD h
  ·intro h;have h0:¬0<=k:=fun hh=>by have:=Int.mul_nonneg (show 0<=g by omega) hh;omega
   omega
theorem MV{a b:Nat}:ln (a / b)<=ln a:=fk (Nat.div_le_self a b)
theorem Bq(y:Int):Rat.divInt 0 y=0:=Rat.zero_divInt y
end Go.Ex
namespace Go.Ex
open Go Go.Sx Go.Proofs
variable{b b2:Bool}{S:Nat->Prop}{q:Rat}{dv nv v:Value}{w:World}
theorem eK.old{B:Nat}{iv:Iv}{w' w2:World}{n:Nat}(h:eK w2 (Nw (Cv S B iv) w' w2) v n)(hB:B<=w'.heap.size):eK w2 (Cv S B ((w'.heap.size,w2.heap.size)::iv)) v n:=h.cL fun _ hg=>Nw.cv hg hB
def c9(w:World)(S:Nat->Prop)(v:Value)(q:Rat):Prop:=∃nv dv,v= .agg #[.bool (decide (q.num<0)),nv,.bool false,dv]∧eK w S nv q.num.natAbs∧eK w S dv q.den
theorem c9.cJ{w2:World}(h:c9 w S v q)(hk:∀g,S g->w2.heap[g]? =w.heap[g]?):c9 w2 S v q:=by
 obtain⟨n,d,h1,h2,h3⟩:=h;exact⟨n,d,h1,h2.cJ hk,h3.cJ hk⟩
theorem c9.cL{S':Nat->Prop}(h:c9 w S v q)(hk:∀g,S g->S' g):c9 w S' v q:=by
 obtain⟨n,d,h1,h2,h3⟩:=h;exact⟨n,d,h1,h2.cL hk,h3.cL hk⟩
theorem c9.shape(h:c9 w S v q):∃b a n c b2 a2 n2 c2,v= .agg #[.bool b,.slice a n c,.bool b2,.slice a2 n2 c2]:=by
 obtain⟨n,d,h1,h2,h3⟩:=h;obtain⟨a,n,c,rfl⟩:=h2.shape;obtain⟨a2,n2,c2,rfl⟩:=h3.shape;exact⟨_,a,n,c,_,a2,n2,c2,h1⟩
theorem c9.num(h:c9 w S (.agg #[.bool b,nv,.bool b2,dv]) q):ed w S (.agg #[.bool b,nv]) q.num:=by
 obtain⟨n,d,h1,h2,h3⟩:=h;simp at h1;obtain⟨rfl,rfl,rfl,rfl⟩:=h1;exact⟨_,rfl,h2⟩
theorem c9.den(h:c9 w S (.agg #[.bool b,nv,.bool b2,dv]) q):ed w S (.agg #[.bool b2,dv]) (q.den:Int):=by
 obtain⟨n,d,h1,h2,h3⟩:=h;simp at h1;obtain⟨rfl,rfl,rfl,rfl⟩:=h1;exact⟨_,by rw[bJ (by omega)],h3⟩
theorem c9.of(h:ed w S (.agg #[.bool b,nv]) q.num)(k:ed w S (.agg #[.bool b2,dv]) (q.den:Int)):c9 w S (.agg #[.bool b,nv,.bool b2,dv]) q:=by
 obtain⟨n,h1,h2⟩:=h;obtain⟨d,h3,h4⟩:=k;simp at h1 h3;obtain⟨rfl,rfl⟩:=h1;obtain⟨rfl,rfl⟩:=h3;refine⟨_,_,?_,h2,h4⟩;rw[bJ (show ¬((q.den:Int)<0) by omega)]
section
variable{S S':Nat->Prop}{H:Hp}{nx:Nat}{iv iv':Iv}{B:Nat}{w w' w2:World}{O:Nat->Sx.eE}{v:Value}{q:Rat}
theorem c9.rel(h:c9 w (Cv S B iv) v q)(r:Rel H nx iv B w O w')(hS:∀g,S g->g<B):c9 w' (Cv S B iv) v q:=h.cJ fun _ hg=>Rel.same r hS hg
theorem c9.cK(h:c9 w (Cv S B iv) v q)(r:Rel H nx iv B w O w')(hS:∀g,S g->g<B)(he:Ext w' w2)(hm:∀p,p∈iv->p∈iv'):c9 w2 (Cv S B iv') v q:=
 ((h.rel r hS).cJ fun g hg=>he.block g (Rel.old r hS g hg)).cL fun _ hg=>hg.mono hm
theorem c9.dK(h:c9 w2 (Nf w' w2) v q)(hB:B<=w'.heap.size)(hm:(w'.heap.size,w2.heap.size)∈iv):c9 w2 (Cv S B iv) v q:=h.cL fun _ hg=>hg.dK hB hm
theorem c9.old(h:c9 w2 (Nw (Cv S B iv) w' w2) v q)(hB:B<=w'.heap.size):c9 w2 (Cv S B ((w'.heap.size,w2.heap.size)::iv)) v q:=h.cL fun _ hg=>Nw.cv hg hB
theorem c9.out{w0 w1:World}(h:c9 w1 (Cv S w0.heap.size iv) v q)(r:Rel H nx iv w0.heap.size w1 O w')(hS:Old S w0):c9 w' (Nw S w0 w') v q:=
 (h.rel r hS).cL fun _ hg=>Cv.nw hg r
theorem c9.arg(h:c9 w S v q)(iv:Iv):c9 w (Cv S w.heap.size iv) v q:=h.cL fun _ h=>.inl h
end
theorem ed.nat{z:Int}(h:ed w S (.agg #[.bool b,nv]) z):b=decide (z<0)∧eK w S nv z.natAbs:=by
 obtain⟨n,h1,h2⟩:=h;simp at h1;obtain⟨rfl,rfl⟩:=h1;exact⟨rfl,h2⟩
theorem zA{u:Value}{x y:Int}(hS:Old S w)(hx:ed w S v x)(hy:ed w S u y)(QM:y≠0)(PS:ln x.natAbs<=100000000000)(Qu:ln y.natAbs<=100000000000):
  eA PG N.CR #[v,u] w (eL w fun v' w2=>c9 w2 (Nf w w2) v' (Rat.divInt x y)):=by
 have hw:=bR w;replace hx:=hx.cL (S':=Cv S w.heap.size []) fun _ h=>.inl h;replace hy:=hy.cL (S':=Cv S w.heap.size []) fun _ h=>.inl h;obtain⟨bx,ax,lx,cx,rfl⟩:=hx.shape;obtain⟨b2,ay,ly,cy,rfl⟩:=hy.shape;have RG:=hy.nat.1;refine De (by simp) ?_
 cases b2
 ·have hyp:0<y:=by have:=aG RG.symm;omega
  have hq:Rat.divInt x y=Rat.divInt x y:=rfl;have hbA:=hx.nat.1;refine cH (cE hw (fun _ w' v w2=>v= .int .i64 (x).sign) (fun O w' r=>DL (hx.rel r hS)) ?_);rintro O Pa v1 PJ Od r he hw h_ rfl;replace hx:=hx.cK r hS he (mC h_);replace hy:=hy.cK r hS he (mC h_);refine dG.mk ?_ ?_<;>intro h
  ·have h:x=0:=cC.1 (eq_of_beq h);refine cH (cE hw (fun _ w' v w2=>ed w2 (Nf w' w2) v 1) (fun O w' r=>qV 1 w' (by decide) (by decide)) ?_);rintro O QR v2 PY Oa r he hw h_ hn;have hO:=hn.dK (S:=FF) r.cI (mN h_);obtain⟨A0,A1,A2,A3,rfl⟩:=hO.shape;have e0:Rat.divInt x y=0:=by rw[hq,h,Bq]
   exact rtn hw fun ρe we re=>by rw[e0];exact c9.of ⟨_,rfl,eK.nil _ _⟩ (hO.out re (cG w))
  ·have h:x≠0:=fun e=>by rw[e]at h;exact absurd h (by decide)
   obtain⟨g1,g2,g3⟩:=Bp hyp h;have UK:0<Nat.gcd (x).natAbs (y).natAbs:=bw _ (by omega);have Xc:=hx.nat.2;have VU:=hy.nat.2;refine cH (cP (Φ:=fun _ w' v w2=>eK w2 (Nw (Cv S w.heap.size Od) w' w2) v (Nat.gcd (x).natAbs (y).natAbs)) (fun O w' r=>I5 (Rel.old r hS) (Xc.rel r hS) (VU.rel r hS) (by omega) (by omega)) ?_);rintro O QR v2 PY r he hb hn;replace hw:=hw.tr hb;replace Xc:=Xc.cK (iv':=(QR.heap.size,PY.heap.size)::Od) r hS he fun x hx=>aC _ hx;replace VU:=VU.cK (iv':=(QR.heap.size,PY.heap.size)::Od) r hS he fun x hx=>aC _ hx;have hG:=hn.old r.cI;generalize (QR.heap.size,PY.heap.size)::Od=Oa at*
   obtain⟨A0,A1,A2,rfl⟩:=hG.shape;refine cH (cP (Φ:=fun _ w' v w2=>∃q r,v= .tuple #[q,r]∧eK w2 (Nf w' w2) q ((x).natAbs / Nat.gcd (x).natAbs (y).natAbs)∧eK w2 (Nw (Cv S w.heap.size Oa) w' w2) r ((x).natAbs % Nat.gcd (x).natAbs (y).natAbs)) (fun O w' r=>s3 (Rel.old r hS) (Xc.rel r hS) (hG.rel r hS) UK (by omega)) ?_);rintro O Pg v3 Pc r he hb ⟨qvp,rvp,rfl,SE,TQ⟩;replace hw:=hw.tr hb;replace VU:=VU.cK (iv':=(Pg.heap.size,Pc.heap.size)::Oa) r hS he fun x hx=>aC _ hx;replace hG:=hG.cK (iv':=(Pg.heap.size,Pc.heap.size)::Oa) r hS he fun x hx=>aC _ hx;have hP:=SE.dK (S:=FF) r.cI (iv:=(Pg.heap.size,Pc.heap.size)::Oa) aI;have hPr:=TQ.old r.cI;generalize (Pg.heap.size,Pc.heap.size)::Oa=Oj at*
   obtain⟨s3_0a,s3_0b,s3_0c,rfl⟩:=hP.shape;obtain⟨s3_1a,s3_1b,s3_1c,rfl⟩:=hPr.shape;refine cH (cP (Φ:=fun _ w' v w2=>∃q r,v= .tuple #[q,r]∧eK w2 (Nf w' w2) q ((y).natAbs / Nat.gcd (x).natAbs (y).natAbs)∧eK w2 (Nw (Cv S w.heap.size Oj) w' w2) r ((y).natAbs % Nat.gcd (x).natAbs (y).natAbs)) (fun O w' r=>s3 (Rel.old r hS) (VU.rel r hS) (hG.rel r hS) UK (by omega)) ?_);rintro O Qh v4 Q6 r he hb ⟨qvq,rvq,rfl,SE,TQ⟩;replace hw:=hw.tr hb;replace hP:=hP.cK (iv':=(Qh.heap.size,Q6.heap.size)::Oj) r (cG w) he fun x hx=>aC _ hx;have hQ:=SE.dK (S:=FF) r.cI (iv:=(Qh.heap.size,Q6.heap.size)::Oj) aI;have hQr:=TQ.old r.cI;generalize (Qh.heap.size,Q6.heap.size)::Oj=Oz at*
   obtain⟨s4_0a,s4_0b,s4_0c,rfl⟩:=hQ.shape;obtain⟨s4_1a,s4_1b,s4_1c,rfl⟩:=hQr.shape;exact rtn hw fun ρe we re=>by rw[hq];exact c9.of ⟨_,by rw[g3,<-hbA],by rw[g1];exact hP.out re (cG w)⟩ ⟨_,by rw[bJ (by omega)],by rw[g2];exact hQ.out re (cG w)⟩
 ·have hyp:0< -y:=by have:=aH RG.symm;omega
  have hq:Rat.divInt x y=Rat.divInt (-x) (-y):=(Rat.neg_divInt_neg _ _).symm;have nx:=cF x;have ny:=cF y;have hlx2:ln (-x).natAbs<=100000000000:=by rw[nx];exact PS
  have hly2:ln (-y).natAbs<=100000000000:=by rw[ny];exact Qu
  refine cO hτ dZ [.x 0,.x 2,.x 1,.x 3,.x 4,.x 5] (by kernel_rfl) (by kernel_rfl) ?_;refine cP (Φ:=fun _ w' v w2=>ed w2 (Nw (Cv S w.heap.size []) w' w2) v (-x)) (fun O w' r=>qS (Rel.old r hS) (hx.rel r hS)) ?_;rintro O Pa v1 PJ r he hb hn;replace hw:=hw.tr hb;replace hy:=hy.cK (iv':=(Pa.heap.size,PJ.heap.size)::[]) r hS he fun x hx=>aC _ hx;have hA:=hn.old r.cI;generalize (Pa.heap.size,PJ.heap.size)::[]=Od at*
  obtain⟨C0,C1,C2,C3,rfl⟩:=hA.shape;refine cP (Φ:=fun _ w' v w2=>ed w2 (Nw (Cv S w.heap.size Od) w' w2) v (-y)) (fun O w' r=>qS (Rel.old r hS) (hy.rel r hS)) ?_;rintro O QR v2 PY r he hb hn;replace hw:=hw.tr hb;replace hA:=hA.cK (iv':=(QR.heap.size,PY.heap.size)::Od) r hS he fun x hx=>aC _ hx;have hB:=hn.old r.cI;generalize (QR.heap.size,PY.heap.size)::Od=Oa at*
  obtain⟨A0,A1,A2,A3,rfl⟩:=hB.shape;have hbA:=hA.nat.1;refine cH (cE hw (fun _ w' v w2=>v= .int .i64 (-x).sign) (fun O w' r=>DL (hA.rel r hS)) ?_);rintro O _ _ _ Oj r he hw h_ rfl;replace hA:=hA.cK r hS he (mC h_);replace hB:=hB.cK r hS he (mC h_);refine dG.mk ?_ ?_<;>intro h
  ·have h: -x=0:=cC.1 (eq_of_beq h);refine cH (cE hw (fun _ w' v w2=>ed w2 (Nf w' w2) v 1) (fun O w' r=>qV 1 w' (by decide) (by decide)) ?_);rintro O Qh v4 Q6 Oz r he hw h_ hn;have hO:=hn.dK (S:=FF) r.cI (mN h_);obtain⟨F0,F1,F2,F3,rfl⟩:=hO.shape;have e0:Rat.divInt x y=0:=by rw[hq,h,Bq]
   exact rtn hw fun ρe we re=>by rw[e0];exact c9.of ⟨_,rfl,eK.nil _ _⟩ (hO.out re (cG w))
  ·have h: -x≠0:=fun e=>by rw[e]at h;exact absurd h (by decide)
   obtain⟨g1,g2,g3⟩:=Bp hyp h;have UK:0<Nat.gcd (-x).natAbs (-y).natAbs:=bw _ (by omega);have Xc:=hA.nat.2;have VU:=hB.nat.2;refine cH (cP (Φ:=fun _ w' v w2=>eK w2 (Nw (Cv S w.heap.size Oj) w' w2) v (Nat.gcd (-x).natAbs (-y).natAbs)) (fun O w' r=>I5 (Rel.old r hS) (Xc.rel r hS) (VU.rel r hS) (by omega) (by omega)) ?_);rintro O Qh v4 Q6 r he hb hn;replace hw:=hw.tr hb;replace Xc:=Xc.cK (iv':=(Qh.heap.size,Q6.heap.size)::Oj) r hS he fun x hx=>aC _ hx;replace VU:=VU.cK (iv':=(Qh.heap.size,Q6.heap.size)::Oj) r hS he fun x hx=>aC _ hx;have hG:=hn.old r.cI;generalize (Qh.heap.size,Q6.heap.size)::Oj=Oz at*
   obtain⟨F0,F1,F2,rfl⟩:=hG.shape;refine cH (cP (Φ:=fun _ w' v w2=>∃q r,v= .tuple #[q,r]∧eK w2 (Nf w' w2) q ((-x).natAbs / Nat.gcd (-x).natAbs (-y).natAbs)∧eK w2 (Nw (Cv S w.heap.size Oz) w' w2) r ((-x).natAbs % Nat.gcd (-x).natAbs (-y).natAbs)) (fun O w' r=>s3 (Rel.old r hS) (Xc.rel r hS) (hG.rel r hS) UK (by omega)) ?_);rintro O Rz v5 Rs r he hb ⟨qvp,rvp,rfl,SE,TQ⟩;replace hw:=hw.tr hb;replace VU:=VU.cK (iv':=(Rz.heap.size,Rs.heap.size)::Oz) r hS he fun x hx=>aC _ hx;replace hG:=hG.cK (iv':=(Rz.heap.size,Rs.heap.size)::Oz) r hS he fun x hx=>aC _ hx;have hP:=SE.dK (S:=FF) r.cI (iv:=(Rz.heap.size,Rs.heap.size)::Oz) aI;have hPr:=TQ.old r.cI;generalize (Rz.heap.size,Rs.heap.size)::Oz=QT at*
   obtain⟨s5_0a,s5_0b,s5_0c,rfl⟩:=hP.shape;obtain⟨s5_1a,s5_1b,s5_1c,rfl⟩:=hPr.shape;refine cH (cP (Φ:=fun _ w' v w2=>∃q r,v= .tuple #[q,r]∧eK w2 (Nf w' w2) q ((-y).natAbs / Nat.gcd (-x).natAbs (-y).natAbs)∧eK w2 (Nw (Cv S w.heap.size QT) w' w2) r ((-y).natAbs % Nat.gcd (-x).natAbs (-y).natAbs)) (fun O w' r=>s3 (Rel.old r hS) (VU.rel r hS) (hG.rel r hS) UK (by omega)) ?_);rintro O R5 v6 RX r he hb ⟨qvq,rvq,rfl,SE,TQ⟩;replace hw:=hw.tr hb;replace hP:=hP.cK (iv':=(R5.heap.size,RX.heap.size)::QT) r (cG w) he fun x hx=>aC _ hx;have hQ:=SE.dK (S:=FF) r.cI (iv:=(R5.heap.size,RX.heap.size)::QT) aI;have hQr:=TQ.old r.cI;generalize (R5.heap.size,RX.heap.size)::QT=Qr at*
   obtain⟨s6_0a,s6_0b,s6_0c,rfl⟩:=hQ.shape;obtain⟨s6_1a,s6_1b,s6_1c,rfl⟩:=hQr.shape;exact rtn hw fun ρe we re=>by rw[hq];exact c9.of ⟨_,by rw[g3,<-hbA],by rw[g1];exact hP.out re (cG w)⟩ ⟨_,by rw[bJ (by omega)],by rw[g2];exact hQ.out re (cG w)⟩
end Go.Ex
namespace Go.Ex
open Go Go.Sx
variable{a b:Int}
def rl(q:Rat):Nat:=max (ln q.num.natAbs) (ln q.den)
theorem gD(q:Rat):ln q.num.natAbs<=rl q:=Nat.le_max_left _ _
theorem aCt(q:Rat):ln q.den<=rl q:=Nat.le_max_right _ _
theorem fO(q:Rat):ln ((q.den:Int)).natAbs<=rl q:=Nat.le_max_right _ _
theorem lA(hb:b≠0):rl (Rat.divInt a b)<=max (ln a.natAbs) (ln b.natAbs):=by
 have h1:ln (Rat.divInt a b).num.natAbs<=ln a.natAbs:=by
  rw[Rat.num_divInt];refine fk (aV (Int.natAbs_ediv_le_natAbs _ _) ?_);rw[Int.natAbs_mul,Int.natAbs_sign_of_ne_zero hb,Nat.one_mul];exact Nat.le_refl _
 have h2:ln (Rat.divInt a b).den<=ln b.natAbs:=by
  rw[Rat.den_divInt,aK hb];exact MV
 unfold rl;omega
theorem j6(x y:Int):ln (x+y).natAbs<=max (ln x.natAbs) (ln y.natAbs)+1:=by
 have h1:=aCk x.natAbs y.natAbs;have h2:=fk (show (x+y).natAbs<=x.natAbs+y.natAbs by omega);omega
theorem ga(q:Rat):(q.den:Int)≠0:=by have:=q.den_pos;omega
theorem wQ(f g:Rat):f+g=Rat.divInt (f.num*g.den+g.num*f.den) (f.den*g.den):=by
 rw[<-Rat.divInt_add_divInt _ _ (ga f) (ga g),Rat.num_divInt_den,Rat.num_divInt_den]
theorem Aq(f g:Rat):f*g=Rat.divInt (f.num*g.num) (f.den*g.den):=by
 rw[<-Rat.divInt_mul_divInt,Rat.num_divInt_den,Rat.num_divInt_den]
theorem Ft(f g:Rat):f / g=Rat.divInt (f.num*g.den) (f.den*g.num):=by
 rw[<-Rat.divInt_mul_divInt,Rat.num_divInt_den,<-Rat.inv_def,<-bV]
theorem lF(ha:a≠0)(hb:b≠0):a*b≠0:=Int.mul_ne_zero ha hb
theorem kz(f g:Rat):rl (f+g)<=rl f+rl g+1:=by
 have h:=lA (a:=f.num*g.den+g.num*f.den) (lF (ga f) (ga g));rw[<-wQ]at h;have h1:=j6 (f.num*g.den) (g.num*f.den);have h2:=dI f.num g.den;have h3:=dI g.num f.den;have h4:=dI f.den g.den;have:=gD f;have:=gD g;have:=fO f;have:=fO g;omega
theorem fb(f g:Rat):rl (f*g)<=rl f+rl g:=by
 have h:=lA (a:=f.num*g.num) (lF (ga f) (ga g));rw[<-Aq]at h;have h2:=dI f.num g.num;have h4:=dI f.den g.den;have:=gD f;have:=gD g;have:=fO f;have:=fO g;omega
theorem pc(f:Rat){g:Rat}(hg:g≠0):rl (f / g)<=rl f+rl g:=by
 have h:=lA (a:=f.num*g.den) (lF (ga f) (fun e=>hg (Rat.num_eq_zero.1 e)));rw[<-Ft]at h;have h2:=dI f.num g.den;have h4:=dI f.den g.num;have:=gD f;have:=gD g;have:=fO f;have:=fO g;omega
theorem jB(f:Rat):rl (-f)=rl f:=by unfold rl;rw[Rat.neg_num,Rat.neg_den,cF]
theorem pt(f g:Rat):rl (f-g)<=rl f+rl g+1:=by
 rw[Rat.sub_eq_add_neg];have:=kz f (-g);rw[jB]at this;exact this
def rs(q:Rat):Int:=q.num.sign
theorem wR(hb:0<b):(Rat.divInt a b).num.sign=a.sign:=by
 by_cases ha:a=0
 ·subst ha;rw[Bq];rfl
 ·obtain⟨h1,-,h3⟩:=Bp hb ha;have h3:=decide_eq_decide.1 h3;have h0:(Rat.divInt a b).num≠0:=fun e=>by
   have h4:=Nat.div_pos (Nat.le_of_dvd (by omega) (Nat.gcd_dvd_left a.natAbs b.natAbs)) (bw a.natAbs (n:=b.natAbs) (by omega));omega
  rcases Int.lt_or_gt_of_ne ha with h|h
  ·rw[bo h,bo (h3.2 h)]
  ·rw[bq h,bq (by omega)]
theorem aBk(f g:Rat):(f.num*g.den-g.num*f.den).sign=rs (f-g):=by
 rw[rs,Rat.sub_eq_add_neg,wQ,wR (Int.mul_pos (by have:=f.den_pos;omega) (by rw[Rat.neg_den];have:=g.den_pos;omega)),Rat.neg_num,Rat.neg_den,Int.neg_mul,<-Int.sub_eq_add_neg]
def ratio(a b:Int):Rat:=if b=0 then Rat.divInt a 1 else Rat.divInt a b
theorem jJ(a b:Int):rl (ratio a b)<=max (ln a.natAbs) (max 1 (ln b.natAbs)):=by
 unfold ratio;split
 ·have:=lA (a:=a) (b:=1) (by decide);have h1:ln (1:Int).natAbs=1:=by decide
  rw[h1]at this;omega
 ·rename_i h;have:=lA (a:=a) h;omega
end Go.Ex
