/- Texts X10 to L5: lemmas, each with its conditions. -/
import Derived.Test.YtgkpbdkechfgmaaGreatP3
namespace Go.Ex
open Go Go.Sx Go.Proofs
variable{k n x:Nat}
def gv(n:Nat):Nat:=if n=0 then 0 else n.log2+1
theorem ME(h:2^k<=x):x.log2=(x / 2^k).log2+k:=by
 have hp:=bz k;have hy:x / 2^k≠0:=by have:=Nat.div_pos h hp;omega
 have L:=Nat.log2_self_le hy;have G:=@Nat.lt_log2_self (x / 2^k);rw[Nat.log2_eq_iff (by omega)];refine⟨?_,?_⟩
 ·rw[Nat.pow_add];exact(Nat.le_div_iff_mul_le hp).1 L
 ·rw[show (x / 2^k).log2+k+1=(x / 2^k).log2+1+k by omega,Nat.pow_add];exact(Nat.div_lt_iff_lt_mul hp).1 G
theorem Av(h:2^k<=x):gv x=k+gv (x / 2^k):=by
 have hp:=bz k;have hy:x / 2^k≠0:=by have:=Nat.div_pos h hp;omega
 rw[gv,gv,aH hy,aH (by omega),ME h];omega
theorem yn(h:n<256):IntKind.u8.wrap (n:Int)=(n:Int):=by
 show((n:Int) % 256)=_;omega
theorem yo(h:n<256):(UInt8.ofNat (gv n)).toNat=gv n:=by
 have:∀n,n<256->(UInt8.ofNat (gv n)).toNat=gv n:=by decide +kernel
 exact this n h
theorem ox(h:x<256):gv x<=8:=by
 have:∀n,n<256->gv n<=8:=by decide +kernel
 exact this x h
theorem Ij(n:Nat)(h:n<256):(⟨#[0,1,2,2,3,3,3,3,4,4,4,4,4,4,4,4,5,5,5,5,5,5,5,5,5,5,5,5,5,5,5,5,6,6,6,6,6,6,6,6,6,6,6,6,6,6,6,6,6,6,6,6,6,6,6,6,6,6,6,6,6,6,6,6,7,7,7,7,7,7,7,7,7,7,7,7,7,7,7,7,7,7,7,7,7,7,7,7,7,7,7,7,7,7,7,7,7,7,7,7,7,7,7,7,7,7,7,7,7,7,7,7,7,7,7,7,7,7,7,7,7,7,7,7,7,7,7,7,8,8,8,8,8,8,8,8,8,8,8,8,8,8,8,8,8,8,8,8,8,8,8,8,8,8,8,8,8,8,8,8,8,8,8,8,8,8,8,8,8,8,8,8,8,8,8,8,8,8,8,8,8,8,8,8,8,8,8,8,8,8,8,8,8,8,8,8,8,8,8,8,8,8,8,8,8,8,8,8,8,8,8,8,8,8,8,8,8,8,8,8,8,8,8,8,8,8,8,8,8,8,8,8,8,8,8,8,8,8,8,8,8,8,8,8,8,8,8,8,8,8,8,8,8,8,8,8]⟩:ByteArray)[((n:Nat):Int).toNat]? =some (UInt8.ofNat (gv n)):=by
 have:∀n,n<256->(⟨#[0,1,2,2,3,3,3,3,4,4,4,4,4,4,4,4,5,5,5,5,5,5,5,5,5,5,5,5,5,5,5,5,6,6,6,6,6,6,6,6,6,6,6,6,6,6,6,6,6,6,6,6,6,6,6,6,6,6,6,6,6,6,6,6,7,7,7,7,7,7,7,7,7,7,7,7,7,7,7,7,7,7,7,7,7,7,7,7,7,7,7,7,7,7,7,7,7,7,7,7,7,7,7,7,7,7,7,7,7,7,7,7,7,7,7,7,7,7,7,7,7,7,7,7,7,7,7,7,8,8,8,8,8,8,8,8,8,8,8,8,8,8,8,8,8,8,8,8,8,8,8,8,8,8,8,8,8,8,8,8,8,8,8,8,8,8,8,8,8,8,8,8,8,8,8,8,8,8,8,8,8,8,8,8,8,8,8,8,8,8,8,8,8,8,8,8,8,8,8,8,8,8,8,8,8,8,8,8,8,8,8,8,8,8,8,8,8,8,8,8,8,8,8,8,8,8,8,8,8,8,8,8,8,8,8,8,8,8,8,8,8,8,8,8,8,8,8,8,8,8,8,8,8,8,8,8]⟩:ByteArray)[n]? =some (UInt8.ofNat (gv n)):=by decide +kernel
 exact this n h
theorem Nn(x:Nat)(w:World)(F:x<4294967296):eI PG F'.AX #[.int .u32 x] w (eO w fun v _=>v= .int .i64 (gv x)):=by
 refine Bk (by simp) ?_;refine dQ.mk ?_ ?_<;>intro h
 ·have h:65536<=x:=by have:=aK h;omega
  refine⟨by decide,((x / 2^16:Nat):Int),oy 16 (by decide),?_⟩;have hb:=Av (k:=16) h;have hy:x / 2^16<65536:=by omega
  rw[hb];generalize x / 2^16=y at*
  refine dQ.mk ?_ ?_<;>intro G
  ·have G:256<=y:=by have:=aK G;omega
   refine⟨by decide,((y / 2^8:Nat):Int),oy 8 (by decide),?_⟩;have Q5:=Av (k:=8) G;have hz:y / 2^8<256:=by omega
   rw[Q5];generalize y / 2^8=z at*
   refine⟨24,by decide,(z:Int),yn hz,?_⟩;refine rI (b:=UInt8.ofNat (gv z)) ((hτ _ _ rfl).i3 rfl) rfl rfl (by omega) (Ij z hz) (fun Id w1 r1=>?_);rw[yo hz];have ht:=ox hz;refine⟨(gv z:Int),wo,((24+gv z:Nat):Int),wo,?_⟩;intro GT w3 E;exact⟨_,rfl,r1.cU.tr E.cU,by rw[<-Nat.add_assoc];rfl⟩
  ·have hy:y<256:=by have:=aG G;omega
   refine⟨(y:Int),yn hy,?_⟩;refine rI (b:=UInt8.ofNat (gv y)) ((hτ _ _ rfl).i3 rfl) rfl rfl (by omega) (Ij y hy) (fun Id w1 r1=>?_);rw[yo hy];have ht:=ox hy;refine⟨(gv y:Int),wo,((16+gv y:Nat):Int),wo,?_⟩;intro GT w3 E;exact⟨_,rfl,r1.cU.tr E.cU,by rfl⟩
 ·have h:x<65536:=by have:=aG h;omega
  refine dQ.mk ?_ ?_<;>intro G
  ·have G:256<=x:=by have:=aK G;omega
   refine⟨by decide,((x / 2^8:Nat):Int),oy 8 (by decide),?_⟩;have Q5:=Av (k:=8) G;have hz:x / 2^8<256:=by omega
   rw[Q5];generalize x / 2^8=z at*
   refine⟨8,by decide,(z:Int),yn hz,?_⟩;refine rI (b:=UInt8.ofNat (gv z)) ((hτ _ _ rfl).i3 rfl) rfl rfl (by omega) (Ij z hz) (fun Id w1 r1=>?_);rw[yo hz];have ht:=ox hz;refine⟨(gv z:Int),wo,((8+gv z:Nat):Int),wo,?_⟩;intro GT w3 E;exact⟨_,rfl,r1.cU.tr E.cU,by rfl⟩
  ·have F:x<256:=by have:=aG G;omega
   refine⟨(x:Int),yn F,?_⟩;refine rI (b:=UInt8.ofNat (gv x)) ((hτ _ _ rfl).i3 rfl) rfl rfl (by omega) (Ij x F) (fun Id w1 r1=>?_);rw[yo F];have ht:=ox F;refine⟨(gv x:Int),wo,((0+gv x:Nat):Int),wo,?_⟩;intro GT w3 E;exact⟨_,rfl,r1.cU.tr E.cU,by rw[aT];rfl⟩
theorem yi:gv x<=k↔x<2^k:=by
 unfold gv;by_cases h:x=0
 ·rw[if_pos h,h];exact⟨fun _=>bz k,fun _=>aQ _⟩
 ·rw[aH h];constructor
  ·intro L;exact(Nat.log2_lt h).1 (by omega)
  ·intro L;have:=(Nat.log2_lt h).2 L;omega
theorem aA8(x:Nat)(w:World)(F:x<4294967296):eI PG F'.kx #[.int .u32 x] w (eO w fun v _=>v= .int .i64 ((32-gv x:Nat):Int)):=by
 refine ow (by simp) ?_;refine cJ (cO (If:=fun _ _ v _=>v= .int .i64 (gv x)) (fun O J r=>Nn x J F) ?_);rintro O J v V r U hb rfl;have h32:gv x<=32:=yi.2 F;refine⟨((32-gv x:Nat):Int),wo,?_⟩;intro GT w3 E;exact⟨_,rfl,hb.tr E.cU,rfl⟩
end Go.Ex
namespace Go.Sx
open Go Go.Ex Go.Proofs
variable{ls:List Nat}{O:Nat->Sx.dq}
theorem Rel.MF{H:Hp}{nx:Nat}{iv:Iv}{B:Nat}{w J:World}(r:Rel H nx iv B w O J){id t m:Nat}(h:dG H id=some (.vec t 1 (E8 ls)))(hm:m=ls.length)(QG:Lm ls)(hle:ls.length<=9223372036854775807):
  dT J (fun g=>B<=g/\g<J.heap.size) ((At.w id m).den O) ls:=by
 subst hm;rcases r.vec id t 1 _ h with⟨R,hu⟩|⟨R,spare,hb,hc,Q2⟩
 ·have hl:ls=[]:=by cases ls with
   |nil=>rfl
   |cons a b=>simp[E8]at hu
  subst hl;have:(At.w id ([]:List Nat).length).den O= .slice none 0 0:=by simp[At.den,R]
  rw[this];exact dT.nil _ _
 ·refine⟨QG,hle,some ⟨(O id).g,0,none⟩,(O id).cap,by simp[At.den,R],?_,fun j x F=>⟨_,rfl,r.low id _ h R,?_⟩⟩
  ·have L:(E8 ls++spare).length=ls.length+spare.length:=by rw[List.length_append,gW]
   omega
  ·rw[dL,cell_of hb,aT,aI (by rw[gW];exact(aD.1 F).1)];exact uo F
end Go.Sx
namespace Go.Ex
open Go Go.Sx Go.Proofs
variable{ls:List Nat}{S:Nat->Prop}
theorem No:PG.underlying T.nat=some (.slice T.uint32):=by
 have h:=(hτ T.nat _ rfl).i4 rfl;exact h
theorem Ik{w:World}{v:Value}(X:Old S w)(h:dT w S v ls)(hl:ls.length<=1000000000000):
  eI PG F'.gK #[v] w (eO w fun v' V=>dT V (Nf w V) v' ls):=by
 obtain⟨x,rfl,rfl⟩:=h.la;refine jP (by simp) ?_;refine⟨x.a.isNone,fun O w1 o1 o2=>by simp[eqGuard,SV.den,At.den,nV (P:=PG) w1 T.nat T.uint32 x.a x.ls.length x.c 0 0 No],?_⟩;refine dQ.mk ?_ ?_<;>intro h
 ·intro GT w3 E;have R:x.ls=[]:=by
   cases F:x.ls with
   |nil=>rfl
   |cons u r=>
    obtain⟨ad,L,_⟩:=x.cell 0 u (by rw[F];rfl);rw[L]at h;simp at h
  exact⟨_,rfl,E.cU,by rw[R];exact dT.nil _ _⟩
 ·refine .inl ?_;refine⟨E8 x.ls,by rw[gW,aV],fun u hu=>by simp only[E8,aU]at hu;obtain⟨n,_,rfl⟩:=hu;rfl,fun O w1 r h0=>?_,?_⟩
  ·obtain⟨u,hu⟩:∃q,x.ls[0]? =some q:=⟨_,aA h0⟩
   obtain⟨ad,PI,_⟩:=x.cell 0 u hu;refine⟨ad,PI,fun j u hu=>?_⟩;simp only[E8,aL,Option.map_eq_some_iff]at hu;obtain⟨n,R,rfl⟩:=hu;obtain⟨ad2,Pg,hs,hc⟩:=x.cell j n R;rw[PI]at Pg;injection Pg with Pg;subst Pg;exact j0 X dw.refl r hs hc
  refine⟨rfl,by omega,by unfold maxLen;omega,?_⟩;intro GT w3 E;exact⟨_,rfl,E.cU,(E.MF (id:=1) rfl (aT _) x.lm x.le).cN fun g Y=>.inr Y⟩
end Go.Ex
namespace Go.Ex
open Go Go.Sx Go.Proofs
end Go.Ex
namespace Go.Sx
open Go Go.Ex Go.Proofs
variable{O:Nat->Sx.dq}
theorem Rel.cI{H:Hp}{nx:Nat}{iv:Iv}{B:Nat}{w J:World}(r:Rel H nx iv B w O J):B<=J.heap.size:=by have:=r.base;have:=r.size;omega
end Go.Sx
namespace Go.Ex
open Go Go.Sx Go.Proofs
end Go.Ex
namespace Go.Sx
open Go Go.Ex Go.Proofs
variable{ls:List Nat}{O:Nat->Sx.dq}
theorem Rel.uu{H:Hp}{nx:Nat}{iv:Iv}{B:Nat}{w J:World}(r:Rel H nx iv B w O J){id t:Nat}(h:dG H id=some (.box t ((E8 ls).map At.v)))(QG:Lm ls)(hle:ls.length<=9223372036854775807):
  dT J (fun g=>g=(O id).g) (.slice (some ⟨(O id).g,0,none⟩) ls.length ls.length) ls:=by
 refine⟨QG,hle,_,_,rfl,Nat.le_refl _,fun j x F=>⟨_,rfl,rfl,?_⟩⟩;have h0:(⟨(O id).g,0,none⟩:Addr).add j=⟨(O id).g,j,none⟩:=by
  cases j with
  |zero=>rfl
  |succ j=>simp[Addr.add]
 rw[h0,cell_of (r.box id t _ h),fu];exact uo F
end Go.Sx
namespace Go.Ex
open Go Go.Sx Go.Proofs
variable{ds r2:List Nat}{g k:Nat}{row:Option Nat}
section
variable{S:Nat->Prop}{H:Hp}{nx:Nat}{iv K:Iv}{B:Nat}{w J V:World}{O:Nat->Sx.dq}{v:Value}{n:Nat}{ls:List Nat}
theorem Nw.dK(h:Nf J V g)(hB:B<=J.heap.size)(hm:(J.heap.size,V.heap.size)∈iv):Cv S B iv g:=by
 rcases h with h|h
 ·cases h
 ·exact .inr ⟨by omega,_,_,hm,h.1,h.2⟩
theorem eE.dK(h:eE V (Nf J V) v n)(hB:B<=J.heap.size)(hm:(J.heap.size,V.heap.size)∈iv):eE V (Cv S B iv) v n:=h.cN fun _ Y=>Y.dK hB hm
theorem dT.dK(h:dT V (Nf J V) v ls)(hB:B<=J.heap.size)(hm:(J.heap.size,V.heap.size)∈iv):dT V (Cv S B iv) v ls:=h.cN fun _ Y=>Y.dK hB hm
theorem eE.rel(h:eE w (Cv S B iv) v n)(r:Rel H nx iv B w O J)(X:∀g,S g->g<B):eE J (Cv S B iv) v n:=h.cK fun _ Y=>Rel.same r X Y
theorem eE.cM(h:eE w (Cv S B iv) v n)(r:Rel H nx iv B w O J)(X:∀g,S g->g<B)(U:Ext J V)(hm:∀p,p∈iv->p∈K):eE V (Cv S B K) v n:=
 ((h.rel r X).cK fun g Y=>U.block g (Rel.old r X g Y)).cN fun _ Y=>Y.mono hm
theorem dT.trimmed(h:dT w S v (eC ls)):eE w S v (val ls):=⟨_,h,(fK ls).2.1,(fK ls).1⟩
end
theorem Il{w:World}{m c:Nat}{rs:List Nat}(Y:w.heap[g]? =some (.cells (E8 rs).toArray T.uint32 (0,0)))(QG:Lm rs)(h:k+m<=rs.length)(hc:m<=c)(hl:rs.length<=1000000000000):
  dT w (fun x=>x=g) (.slice (some ⟨g,k,none⟩) m c) ((rs.drop k).take m):=by
 have hlen:((rs.drop k).take m).length=m:=by simp;omega
 refine⟨(QG.drop k).take m,by omega,some ⟨g,k,none⟩,c,by rw[hlen],by omega,fun j x F=>⟨_,rfl,rfl,?_⟩⟩;have hj:j<m:=by have:=(aD.1 F).1;omega
 rw[bS hj,bj]at F;rw[dL,cell_of Y];exact uo F
theorem EH{c:Nat}(h:k<c):(if (c:Int)=(k:Int)then some (⟨g,0,none⟩:Addr)else(some (⟨g,0,none⟩:Addr)).map fun x=>x.add ((k:Int).toNat*1))=some ⟨g,k,none⟩:=by
 rw[aH (by omega),bc,aE,aV,dL,aT]
theorem fg{a b c:World}(h:a.grownBy b row)(k:b.grownBy c row):a.grownBy c row:=
 ⟨k.os.trans h.os,k.tape.trans h.tape,k.output.trans h.output,aW h.size k.size,fun j hj Oe=>(k.block j (by have:=h.size;omega) Oe).trans (h.block j hj Oe)⟩
theorem mo{a b:World}(h:dw a.heap.size a b):a.grownBy b row:=⟨h.os,h.tape,h.output,h.size,fun j hj _=>h.block j hj⟩
theorem Np(rs:List Nat)(k m:Nat):(E8 rs).take k++List.replicate m (Value.int .u32 0)++(E8 rs).drop (k+m)=E8 (rs.take k++List.replicate m 0++rs.drop (k+m)):=by
 simp[E8]
theorem aA9(rs ds:List Nat)(k:Nat):(E8 rs).take k++E8 ds++(E8 rs).drop (k+(E8 ds).length)=E8 (rs.take k++ds++rs.drop (k+ds.length)):=by
 simp[E8]
theorem Ju{rs:List Nat}{m:Nat}(D:k+m<=rs.length)(hd:ds.length<=m){r1:List Nat}(L:r1=rs.take k++List.replicate m 0++rs.drop (k+m))(G:r2=r1.take k++ds++r1.drop (k+ds.length)):
  r2=rs.take k++(ds++List.replicate (m-ds.length) 0)++rs.drop (k+m):=by
 have VV:(rs.take k).length=k:=by simp;omega
 have N:r1.take k=rs.take k:=by rw[L,bZ,List.take_append_of_le_length (by omega),List.take_of_length_le (by omega)]
 have h4:r1.drop (k+ds.length)=List.replicate (m-ds.length) 0++rs.drop (k+m):=by
  rw[L,bZ,List.drop_append,VV,List.drop_of_length_le (by omega),List.nil_append,Nat.add_sub_cancel_left,List.drop_append_of_le_length (by simpa using hd),List.drop_replicate]
 rw[G,N,h4];simp
theorem Jv{rs:List Nat}{m:Nat}(D:k+m<=rs.length)(hd:ds.length<=m)(QG:Lm rs)(RW:Lm ds)(h:r2=rs.take k++(ds++List.replicate (m-ds.length) 0)++rs.drop (k+m)):
  r2.length=rs.length/\Lm r2/\r2.take k=rs.take k/\r2.drop (k+m)=rs.drop (k+m)/\val ((r2.drop k).take m)=val ds:=by
 have VV:(rs.take k).length=k:=by simp;omega
 have Sc:(ds++List.replicate (m-ds.length) 0).length=m:=by simp;omega
 have SL:r2.drop k=(ds++List.replicate (m-ds.length) 0)++rs.drop (k+m):=by
  rw[h,bZ,List.drop_append,VV,List.drop_of_length_le (by omega),List.nil_append,bJ,List.drop_zero]
 refine⟨by rw[h,List.length_append,List.length_append,VV,Sc];simp;omega,?_,?_,?_,?_⟩
 ·rw[h];exact((QG.take k).append (RW.append (Lm.replicate _))).append (QG.drop _)
 ·rw[h,bZ,List.take_append_of_le_length (by omega),List.take_of_length_le (by omega)]
 ·rw[<-List.drop_drop,SL,List.drop_append,Sc,List.drop_of_length_le (by omega),List.nil_append,bJ,List.drop_zero]
 ·rw[SL,List.take_append_of_le_length (by omega),List.take_of_length_le (by omega),lT,nG];simp
theorem EI{S:Nat->Prop}{w:World}{vd:Value}{Fd g k q:Nat}{rs:List Nat}(X:Old S w)(hgS:¬S g)(hd:eE w S vd Fd)(Y:w.heap[g]? =some (.cells (E8 rs).toArray T.uint32 (0,0)))(QG:Lm rs)
  (D:k+ln Fd+1<=rs.length) (hl:rs.length<=1000000000000) (hq:q<4294967296):
  eI PG F'.qW #[.slice (some ⟨g,0,none⟩) rs.length rs.length,vd,.int .i64 k,.int .u64 q] w (fun e V=>
   (val ((rs.drop k).take (ln Fd+1))<q*Fd/\e= .returned (.bool false)/\dw w.heap.size w V)\/
   (q*Fd<=val ((rs.drop k).take (ln Fd+1))/\e= .returned (.bool true)/\w.grownBy V (some g)/\∃rs',rs'.length=rs.length/\Lm rs'/\rs'.take k=rs.take k/\rs'.drop (k+ln Fd+1)=rs.drop (k+ln Fd+1)/\
    val ((rs'.drop k).take (ln Fd+1))=val ((rs.drop k).take (ln Fd+1))-q*Fd/\V.heap[g]? =some (.cells (E8 rs').toArray T.uint32 (0,0)))):=by
 have hgB:=kU Y;have hnD:=hd;obtain⟨p,rfl,RE,Qg⟩:=hd.la;have Pv:=eW p.lm Qg;rw[RE]at Pv;generalize R:ln Fd=n at*
 have hSB:=X;refine uk (by simp) ?_;refine⟨(q:Int),by rw[fT,bN hq],?_⟩;refine gM (If:=fun O _ v V=>dT V (fun g=>g=(O 0).g) v (eC [q])) (H':=[]) 0 rfl (by simp) trivial rfl (fun O J r=>r.nn 0 _ rfl (by intros;simp) (by simp)) (fun O J r=>?_) ?_
 ·have hL:=r.uu (id:=0) (ls:=[q]) rfl (by intro x F;simp at F;omega) (by simp);exact fb (fun g Y=>by rw[Y];exact(r.low 0 _ rfl (r.nn 0 _ rfl (by intros;simp) (by simp))).2) hL
 rintro O w1 v1 V r U I hL;have Og:=r.low 0 _ rfl (r.nn 0 _ rfl (by intros;simp) (by simp));have hs:=U.size;generalize (O 0).g=g0 at*
 have VC:eE V (Cv S w.heap.size [(g0,g0+1),(w1.heap.size,V.heap.size)]) v1 q:=by
  have:=hL.trimmed;simp only[val,Nat.mul_zero,cF]at this;exact this.cN fun k D=>.inr ⟨by omega,g0,g0+1,by simp,by omega,by omega⟩
 have VX:eE V (Cv S w.heap.size [(g0,g0+1),(w1.heap.size,V.heap.size)]) (.slice p.a p.ls.length p.c) Fd:=
  (hnD.cK fun g Y=>I.block g (X g Y)).cN fun _ Y=>.inl Y
 generalize [(g0,g0+1),(w1.heap.size,V.heap.size)]=iv at*
 refine cJ (cE I (fun _ J v V=>eE V (Nf J V) v (q*Fd)) (fun O J r=>Im (Rel.old r X) (VC.rel r X) (VX.rel r X) (aW (gU.2 (show q<wt 1 from hq)) (by decide)) (by omega)) ?_);rintro O w3 _ _ iv r U I h_ hm;have Ue:=hm.dK (S:=S) r.cI (mN h_);refine⟨((k+n:Nat):Int),wo,((k+n+1:Nat):Int),wo,⟨by omega,by omega,by omega⟩,some ⟨g,k,none⟩,n+1,rs.length-k,EH (by omega),by omega,by omega,?_⟩;have hplen:((rs.drop k).take (n+1)).length=n+1:=by simp;omega
 have hplm:Lm ((rs.drop k).take (n+1)):=(QG.drop k).take _;generalize Rj:(rs.drop k).take (n+1)=part at*
 refine cJ (cE I (fun _ J v V=>dT V (Nf J V) v part) (fun O J r=>?_) ?_)
 ·have L:=Il (k:=k) (m:=n+1) (c:=rs.length-k) (w:=J) (by rw[(I.tr r.cU).block g hgB];exact Y) QG (by omega) (by omega) hl;rw[Rj]at L;exact Ik (fun x F=>by rw[F];have:=(I.tr r.cU).size;omega) L (by omega)
 rintro O _ _ _ iv r U I h_ hL;have hpL:=hL.dK (S:=S) r.cI (mN h_);replace Ue:=Ue.cM r X U (mC h_);refine cJ (cO (If:=fun _ J v V=>dT V (Cv S w.heap.size iv) v (eC part)) (fun O J r=>fb (Rel.old r X) (dT.rel hpL r X)) ?_);rintro O w7 v4 w8 r U hb hL;replace I:=I.tr hb;have hpN:=hL.trimmed.cN (S':=Cv S w.heap.size ((w7.heap.size,w8.heap.size)::iv)) fun _ Y=>Y.cons;replace Ue:=Ue.cM (K:=(w7.heap.size,w8.heap.size)::iv) r X U fun x F=>aB _ F;generalize (w7.heap.size,w8.heap.size)::iv=iv at*
 refine cJ (cE I (fun _ _ v _=>v= .int .i64 (tD (val part) (q*Fd))) (fun O J r=>MG (Rel.old r X) (hpN.rel r X) (Ue.rel r X)) ?_);rintro O _ _ _ iv r U I h_ rfl;replace hpN:=hpN.cM r X U (mC h_);replace Ue:=Ue.cM r X U (mC h_);refine dQ.mk ?_ ?_<;>intro h
 ·have h:val part<q*Fd:=by
   have:=aK h;unfold tD at this;split at this
   ·assumption
   ·split at this<;>omega
  intro GT w3 E;exact .inl ⟨h,rfl,I.tr E.cU⟩
 have h:q*Fd<=val part:=by
  have:=aG h;unfold tD at this;split at this
  ·omega
  ·omega
 have hPl:ln (val part)<=n+1:=by rw[gU,<-hplen];exact oU hplm
 refine cJ (cE I (fun _ J v V=>eE V (Nf J V) v (val part-q*Fd)) (fun O J r=>EJ (Rel.old r X) (hpN.rel r X) (Ue.rel r X) h (by omega)) ?_);rintro O _ v6 _ iv r U I h_ hm;have Wi:=hm.dK (S:=S) r.cI (mN h_);refine⟨((k+n:Nat):Int),wo,((k+n+1:Nat):Int),wo,⟨by omega,by omega,by omega⟩,some ⟨g,k,none⟩,n+1,rs.length-k,EH (by omega),by omega,by omega,?_⟩;refine JO hτ (W:=E8 rs) (by rfl) (by rfl) (by rfl) (by omega) (fun O J r=>⟨by rw[(I.tr r.cU).block g hgB];exact Y,fun id b hb=>by cases hb⟩) (by rw[gW];omega) (fun O w13 w14 r hh PC PN=>?_);rw[Np]at hh;have hgw:w.grownBy w14 (some g):=fg (mo (I.tr r.cU)) PC;replace Wi:eE w14 (Cv S w.heap.size iv) v6 (val part-q*Fd):=(Wi.rel r X).cK fun x F=>PC.block x (Rel.old r X x F) fun e=>by
  injection e with e;subst e;rcases F with F|F
  ·exact hgS F
  ·omega
 obtain⟨rl,rfl,SU,SW⟩:=Wi.la;have Po:=eW rl.lm SW;rw[SU]at Po;have hrn:rl.ls.length<=n+1:=by rw[Po];exact aW (fY (Nat.sub_le _ _)) hPl
 generalize hr1d:rs.take k++List.replicate (n+1) 0++rs.drop (k+(n+1))=r1 at*
 refine⟨⟨by omega,by omega,by omega⟩,some ⟨g,k,none⟩,rs.length-k,rs.length-k,EH (by omega),by omega,by omega,?_⟩;have hr1l:r1.length=rs.length:=by rw[<-hr1d];simp;omega
 have hw14:w.heap.size<=w14.heap.size:=hgw.size;refine Kp hτ (tg:=T.uint32) (W:=E8 r1) (ds:=E8 rl.ls) (by rfl) (by rfl) (by rfl) (by rfl) (fun O J r=>⟨?_,fun id b hb=>by cases hb⟩) (fun O J r=>⟨rl.a,rl.c,by rw[gW];rfl,fun j u hu=>?_⟩) (by rw[gW];omega) (by rw[gW,gW];omega)
  (fun u hu=>by simp only[E8,aU]at hu;obtain⟨n,_,rfl⟩:=hu;rfl) (fun O w15 w16 r hh2 PC PN=>?_)
 ·rw[r.qj.block g (by omega) (by simp)];exact hh
 ·simp only[E8,aL,Option.map_eq_some_iff]at hu;obtain⟨m,hm,rfl⟩:=hu;obtain⟨ad,L,G,N⟩:=rl.cell j m hm;exact⟨ad,L,(cL (w:=w14) (a:=ad.add j) (by rw[dF];exact Rel.same r X G)).trans N⟩
 rw[aA9]at hh2;have hgw2:w.grownBy w16 (some g):=fg (fg hgw (by have:=r.qj;exact⟨this.os,this.tape,this.output,this.size,fun j hj _=>this.block j hj (by simp)⟩)) PC;obtain⟨o1,o2,o3,o4,o5⟩:=Jv (rs:=rs) (ds:=rl.ls) (k:=k) (m:=n+1) (by omega) hrn QG rl.lm (Ju (by omega) hrn hr1d.symm rfl);generalize r1.take k++rl.ls++r1.drop (k+rl.ls.length)=r2 at*
 intro GT w17 E;refine .inr ⟨h,rfl,fg hgw2 (by have:=E.qj;exact⟨this.os,this.tape,this.output,this.size,fun j hj _=>this.block j hj (by simp)⟩),r2,o1,o2,o3,o4,by rw[o5,SU],?_⟩;rw[E.qj.block g (by have:=hgw2.size;omega) (by simp)];exact hh2
end Go.Ex
namespace Go.Ex
open Go Go.Sx Go.Proofs
end Go.Ex
namespace Go.Sx
open Go Go.Ex Go.Proofs
variable{O:Nat->Sx.dq}
theorem Rel.OW{nx:Nat}{iv:Iv}{B:Nat}{w J V:World}(r:Rel [] nx iv B w O J)(h:J.heap.size<=V.heap.size):Rel [] nx [] B V O V:=
 r.CJ h (fun id b h=>by cases h) fun lo A h=>by cases h
end Go.Sx
namespace Go.Ex
open Go Go.Sx Go.Proofs
variable{O:Nat->Sx.dq}
theorem MH{P Fd low high dlow dtop E9:Nat}(hP:P=low+E9*high)(hD:Fd=dlow+E9*dtop)(Og:low<E9)(Tu:0<dtop)(hPD:P<4294967296*Fd):P / Fd<=min (high / dtop) 4294967295:=by
 have hW:0<E9:=by omega
 have hD0:0<Fd:=by have:=Nat.mul_pos hW Tu;omega
 have L:P / Fd<4294967296:=(Nat.div_lt_iff_lt_mul hD0).2 (by rw[bT]at hPD;omega);have G:P / Fd<=high / dtop:=by
  rw[Nat.le_div_iff_mul_le Tu];have N:=Nat.div_mul_le_self P Fd;generalize P / Fd=Q at*
  have h4:E9*(Q*dtop)<=Q*Fd:=by
   rw[hD,Nat.mul_left_comm,bV];omega
  have h5:E9*(Q*dtop)<E9*(high+1):=by
   rw[bV];omega
  have:=Nat.lt_of_mul_lt_mul_left h5;omega
 omega
theorem Io{H:Hp}{nx:Nat}{iv:Iv}{w w1 J:World}{g i x:Nat}{rs:List Nat}(Y:w.heap[g]? =some (.cells (E8 rs).toArray T.uint32 (0,0)))(I:dw w.heap.size w w1)(r:Rel H nx iv w.heap.size w1 O J)(F:rs[i]? =some x):
  J.cell? ((⟨g,0,none⟩:Addr).add ((i:Int).toNat*1))=some (.int .u32 x):=by
 rw[aE,aV,dL,aT,cell_of (by rw[(I.tr r.cU).block g (kU Y)];exact Y)];exact uo F
theorem Nq{S:Nat->Prop}{w:World}{vd:Value}{Fd g k:Nat}{rs:List Nat}(X:Old S w)(hgS:¬S g)(hd:eE w S vd Fd)(hD:0<Fd)(Y:w.heap[g]? =some (.cells (E8 rs).toArray T.uint32 (0,0)))(QG:Lm rs)
  (D:k+ln Fd+1<=rs.length) (hl:rs.length<=1000000000000) (hPD:val ((rs.drop k).take (ln Fd+1))<4294967296*Fd):
  eI PG F'.pV #[.slice (some ⟨g,0,none⟩) rs.length rs.length,vd,.int .i64 k] w (fun e V=>
   e= .returned (.int .u32 ((val ((rs.drop k).take (ln Fd+1)) / Fd:Nat):Int))/\w.grownBy V (some g)/\∃rs',rs'.length=rs.length/\Lm rs'/\rs'.take k=rs.take k/\rs'.drop (k+ln Fd+1)=rs.drop (k+ln Fd+1)/\
    val ((rs'.drop k).take (ln Fd+1))=val ((rs.drop k).take (ln Fd+1)) % Fd/\V.heap[g]? =some (.cells (E8 rs').toArray T.uint32 (0,0))):=by
 have hgB:=kU Y;have hnD:=hd;obtain⟨p,rfl,RE,Qg⟩:=hd.la;have Pv:=eW p.lm Qg;rw[RE]at Pv;have RU:=fun(J:World) (q:Nat)=>@EI S J (.slice p.a p.ls.length p.c) Fd g k q rs;generalize R:ln Fd=n at*
 obtain⟨t,rfl⟩:∃t,n=t+1:=by
  cases n with
  |zero=>
   have:Fd<wt 0:=gU.1 (by omega);rw[jc]at this;omega
  |succ t=>exact⟨t,rfl⟩
 obtain⟨dt,Tu⟩:∃q,p.ls[t]? =some q:=⟨_,aA (by omega)⟩
 have hdt0:0<dt:=by
  have:=Qg dt (by rw[List.getLast?_eq_getElem?,Pv];exact Tu);omega
 obtain⟨a,ha⟩:∃q,rs[k+t+1]? =some q:=⟨_,aA (by omega)⟩
 obtain⟨b,hb⟩:∃q,rs[k+t]? =some q:=⟨_,aA (by omega)⟩
 have ha32:=QG.at ha;have VS:=QG.at hb;have XU:=p.lm.at Tu;generalize hP:val ((rs.drop k).take (t+1+1))=P at*
 have hguess:P / Fd<=min ((a*4294967296+b) / dt) 4294967295:=by
  refine MH (low:=val ((rs.drop k).take t)) (E9:=wt t) (dlow:=val (p.ls.take t)) ?_ ?_ ?_ hdt0 hPD
  ·rw[<-hP,dh (x:=a) (by rw[bj];exact ha),dh (x:=b) (by rw[bj];exact hb),jU,bV,bT 4294967296 (wt t),bg,bT a];omega
  ·rw[<-RE,<-dh Tu,List.take_of_length_le (by omega)]
  ·have L:=oU ((QG.drop k).take t);have:((rs.drop k).take t).length=t:=by simp;omega
   rwa [this]at L
 refine tB (by simp) ?_;refine⟨(t:Int),wo,?_⟩;refine cR hτ dx [.x 0,.x 1,.x 2,.x 3,.x 4,.x 5,.x 6,.x 7,.x 8,.x 9,.x 10,.x 11,.x 12,.x 13,.x 14,.x 15,.x 16,.x 17] (by kernel_rfl) (by kernel_rfl) ?_;refine⟨((k+t:Nat):Int),wo,((k+t+1:Nat):Int),wo,_,rfl,by omega,.int .u32 a,fun O J r=>Io Y dw.refl r ha,(a:Int),eu (by omega),by decide,((a*2^32:Nat):Int),EK (k:=32) (by decide) (by omega),((k+t:Nat):Int),wo,_,rfl,by omega,.int .u32 b,fun O J r=>Io Y dw.refl r hb,(b:Int),eu (by omega),?_⟩;have VB:a*2^32 ||| b=a*4294967296+b:=by
  rw[Nat.or_comm,bT,EL (k:=32) VS];omega
 refine⟨((a*4294967296+b:Nat):Int),by rw[MI (by omega) (by omega),VB],?_⟩;have hh64:a*4294967296+b<18446744073709551616:=by omega
 generalize a*4294967296+b=high at*
 obtain⟨ad,PI,PK⟩:=p.load X (dw.refl (w:=w)) Tu;refine⟨ad,PI,by omega,.int .u32 dt,PK _ _ _,(dt:Int),eu (by omega),by omega,((high / dt:Nat):Int),MJ hh64,?_⟩;conv=>whnf
 rw[show min ((high / dt:Nat):Int) 4294967295=((min (high / dt) 4294967295:Nat):Int) by omega];have hm32:min (high / dt) 4294967295<=4294967295:=Nat.min_le_right _ _;generalize min (high / dt) 4294967295=q0 at*
 have hQD:=Nat.div_mul_le_self P Fd;have hQl:∀q,q*Fd<=P->P / Fd<=q->q=P / Fd:=fun q L G=>aR ((Nat.le_div_iff_mul_le hD).2 L) G;have hmod:P % Fd=P-P / Fd*Fd:=by have:=Nat.div_add_mod P Fd;rw[bT]at this;omega
 refine⟨Nat×World,fun z=>⟨[(0,.o (.v (.slice (some ⟨g,0,none⟩) rs.length rs.length))),(1,sV p.a p.ls.length p.c),(2,iZ k),(9,.o (.v (.int .u64 z.1)))],[],0,[],z.2⟩,fun z=>z.1,
  fun z=>dw w.heap.size w z.2/\P / Fd<=z.1/\z.1<=4294967295,?_,?_⟩
 ·intro O J r;exact⟨(q0,J),⟨r.cU,hguess,hm32⟩,Sub.reset r ⟨rfl,rfl,rfl,rfl,trivial⟩ ⟨trivial,trivial,trivial,trivial,trivial⟩⟩
 ·rintro⟨q,w1⟩ ⟨I,Rr,Qd⟩;dsimp only at I Rr Qd ⊢;conv=>whnf
  refine⟨fun O V r=>(RU V q (fun x F=>by have:=X x F;have:=(I.tr r.cU).size;omega) hgS (hnD.cK fun x F=>(I.tr r.cU).block x (X x F)) (by rw[(I.tr r.cU).block g hgB];exact Y) QG D hl (by omega)).mono fun e w3 U=>?_⟩;rcases U with⟨h,rfl,hb3⟩|⟨h,rfl,PC,rs',e1,e2,e3,e4,e5,e6⟩
  ·have hw3:dw w.heap.size w w3:=(I.tr r.cU).tr (hb3.cU r.cI);refine⟨.bool false,[],[],rfl,r.OW hb3.size,?_⟩;have TL:P / Fd<q:=by
    refine Nat.lt_of_le_of_ne Rr fun e=>?_;rw[e]at hQD;omega
   have hq4:0<q:=Nat.lt_of_le_of_lt (aQ _) TL;have hq5:P / Fd<=q-1:=Nat.le_sub_one_of_lt TL;refine⟨((q-1:Nat):Int),by rw[yd]<;>omega,?_⟩;intro J8 w4 r4;exact⟨(q-1,w4),⟨hw3.tr r4.cU,hq5,by dsimp only;omega⟩,Sub.reset r4 ⟨rfl,rfl,rfl,rfl,trivial⟩ ⟨trivial,trivial,trivial,trivial,trivial⟩,by dsimp only;omega⟩
  ·have hgw:w.grownBy w3 (some g):=fg (mo (I.tr r.cU)) PC;refine⟨.bool true,[],[],rfl,r.OW PC.size,?_⟩;have hq:=hQl q h Rr;subst hq;refine⟨((P / Fd:Nat):Int),by rw[fT,bN (by omega)],?_⟩;intro J8 w4 r4;refine⟨rfl,fg hgw (by have:=r4.qj;exact⟨this.os,this.tape,this.output,this.size,fun j hj _=>this.block j hj (by simp)⟩),rs',e1,e2,e3,e4,by rw[e5,hmod],?_⟩;rw[r4.qj.block g (by have:=hgw.size;omega) (by simp)];exact e6
end Go.Ex
namespace Go.Ex
variable{ms:List Nat}
theorem Jj{t dt:Nat}(QG:Lm ms)(hl:ms.length=t+1)(Tu:ms[t]? =some dt)(h0:0<dt):32-gv dt<32/\ln (val ms*2^(32-gv dt))=t+1:=by
 have hb0:0<gv dt:=by
  rcases bK (gv dt)with h|h
  ·have:=yi.1 (Nat.le_of_eq h);simp at this;omega
  ·exact h
 have VS:gv dt<=32:=yi.2 (QG.at Tu);have Ow:=yi.1 (Nat.le_refl (gv dt));have hv:val ms=val (ms.take t)+wt t*dt:=by rw[<-dh Tu,List.take_of_length_le (by omega)]
 have Og:=oU (QG.take t);have hltk:(ms.take t).length=t:=by simp;omega
 rw[hltk]at Og;have I:=zR t;refine⟨by omega,aR ?_ ?_⟩
 ·rw[gU];have L:val ms<wt t*2^gv dt:=by
   have:wt t*(dt+1)<=wt t*2^gv dt:=bY _ Ow;rw[bV]at this;omega
  have G:=Nat.mul_lt_mul_of_pos_right L (bz (32-gv dt));rw[bg,<-Nat.pow_add,Nat.add_sub_cancel' VS]at G;rw[jU,bT 4294967296];exact G
 ·refine Nat.lt_of_not_le fun h=>?_;have L:=gU.1 h;have G:val ms*1<=val ms*2^(32-gv dt):=bY _ (bz _);have N:wt t*1<=wt t*dt:=bY _ h0;omega
theorem FX{rs:List Nat}{Fd F' k:Nat}(QG:Lm rs)(hDN:Fd<wt F')(D:k+F'+1<=rs.length)(h:val rs<wt (k+1)*Fd):
  val (rs.drop (k+F'+1))=0/\val (rs.drop k)=val ((rs.drop k).take (F'+1))/\val ((rs.drop k).take (F'+1))<4294967296*Fd:=by
 obtain⟨x,F⟩:∃q,rs[k]? =some q:=⟨_,aA (by omega)⟩
 have Qa:=QG.at F;have L:=fD rs (k+1) (by omega);have G:val (rs.drop (k+1))<Fd:=Nat.lt_of_mul_lt_mul_left (a:=wt (k+1)) (by omega);have N:=fD (rs.drop (k+1)) F' (by simp;omega);rw[List.drop_drop,show k+1+F'=k+F'+1 by omega]at N;have h4:val (rs.drop (k+F'+1))=0:=by
  rcases bK (val (rs.drop (k+F'+1)))with h|h
  ·exact h
  ·have:=bY (wt F') h;omega
 have h5:=fD (rs.drop k) (F'+1) (by simp;omega);rw[List.drop_drop,show k+(F'+1)=k+F'+1 by omega,h4,Nat.mul_zero,cF]at h5;have h6:=j4 F;exact⟨h4,h5,by omega⟩
theorem LQ{rs rs' out:List Nat}{Fd F' k P A9:Nat}(hD:0<Fd)(QG:Lm rs)(hlen:rs'.length=rs.length)(hDN:Fd<wt F')(D:k+F'+1<=rs.length)(h:val rs<wt (k+1)*Fd)(hV:A9=wt (k+1)*(Fd*val (out.drop (k+1)))+val rs)
  (hP:val ((rs.drop k).take (F'+1))=P) (L:rs'.take k=rs.take k) (G:rs'.drop (k+F'+1)=rs.drop (k+F'+1)) (N:val ((rs'.drop k).take (F'+1))=P % Fd) (ho:k<out.length):
  val rs'<wt k*Fd/\A9=wt k*(Fd*val ((out.set k (P / Fd)).drop k))+val rs':=by
 obtain⟨a1,a2,a3⟩:=FX QG hDN D h;have b1:=fD rs k (by omega);have b2:=fD rs' k (by omega);have b3:=fD (rs'.drop k) (F'+1) (by simp;omega);rw[List.drop_drop,show k+(F'+1)=k+F'+1 by omega,G,a1,Nat.mul_zero,cF,N]at b3;rw[L,b3]at b2;rw[a2,hP]at b1;have b4:=oU (QG.take k);have b5:(rs.take k).length=k:=by simp;omega
 rw[b5]at b4;have b6:=cD P hD;have b7:(out.set k (P / Fd))[k]? =some (P / Fd):=by rw[aP ho]
 have b8:=Nat.div_add_mod P Fd;refine⟨?_,?_⟩
 ·have:wt k*(P % Fd+1)<=wt k*Fd:=bY _ b6;rw[bV]at this;omega
 ·rw[j4 b7,List.drop_set_of_lt (show k<k+1 by omega),hV,b1,b2,jU];generalize val (out.drop (k+1))=o;have c1:wt k*P=wt k*(Fd*(P / Fd))+wt k*(P % Fd):=by rw[<-bV,b8]
  have c2:4294967296*wt k*(Fd*o)=wt k*(Fd*(4294967296*o)):=by
   rw[bT 4294967296,bg,Nat.mul_left_comm 4294967296]
  rw[c1,c2,bV Fd,bV (wt k)];omega
theorem Jk{n m b:Nat}(hm:0<m)(Uc:m<=n):n*2^b<wt (ln n+1-ln m)*(m*2^b):=by
 have L:=lV n;have G:=fY Uc;have N:wt (ln m-1)<=m:=by
  refine Nat.le_of_not_lt fun h=>?_;have:=gU.2 h;have h4:0<ln m:=by
   rcases bK (ln m)with h|h
   ·have:=gU.1 (Nat.le_of_eq h);rw[jc]at this;omega
   ·exact h
  omega
 have h4:0<ln m:=by
  rcases bK (ln m)with h|h
  ·have:=gU.1 (Nat.le_of_eq h);rw[jc]at this;omega
  ·exact h
 have h5:wt (ln n)<=wt (ln n+1-ln m)*m:=by
  rw[show ln n=(ln n+1-ln m)+(ln m-1) by omega,D7,show(ln n+1-ln m)+(ln m-1)+1-ln m=ln n+1-ln m by omega];exact bY _ N
 rw[<-bg];exact Nat.mul_lt_mul_of_pos_right (Nat.lt_of_lt_of_le L h5) (bz b)
theorem NW{n m b o r:Nat}(hm:0<m)(L:n*2^b=m*2^b*o+r)(G:r<m*2^b):o=n / m/\r / 2^b=n % m:=by
 have hp:=bz b;have N:n*2^b / (m*2^b)=o:=by rw[L,Nat.mul_add_div (Nat.mul_pos hm hp),Nat.div_eq_of_lt G,cF]
 have h4:n*2^b % (m*2^b)=r:=by rw[L,Nat.mul_add_mod,bN G]
 rw[Nat.mul_div_mul_right _ _ hp]at N;rw[Nat.mul_mod_mul_right]at h4;exact⟨N.symm,by rw[<-h4,Nat.mul_div_cancel _ hp]⟩
end Go.Ex
namespace Go.Ex
open Go Go.Sx Go.Proofs
variable{H:Hp}{x y z:Int}{iv:Iv}{ls:List Nat}{n nx:Nat}{S:Nat->Prop}{O:Nat->Sx.dq}{u v:Value}{w J w1:World}
theorem Ip{g:Nat}{rs:List Nat}(Y:w.heap[g]? =some (.cells (E8 rs).toArray T.uint32 (0,0)))(QG:Lm rs)(hl:rs.length<=1000000000000):
  dT w (fun x=>x=g) (.slice (some ⟨g,0,none⟩) rs.length rs.length) rs:=by
 have:=Il (k:=0) (m:=rs.length) (c:=rs.length) Y QG (by omega) (Nat.le_refl _) hl
 rwa [List.drop_zero,bA]at this
theorem qk{m:Nat}(X:Old S w)(R:eE w S v n)(hm:eE w S u m)(Uf:0<m)(Sr:ln n<=100000000000):
  eI PG F'.nt #[v,u] w (eO w fun v' V=>∃q r,v'= .tuple #[q,r]/\eE V (Nf w V) q (n / m)/\eE V (Nw S w V) r (n % m)):=by
 have hnN:=R;have Ue:=hm;obtain⟨x,rfl,RE,Qg⟩:=R.la;obtain⟨y,rfl,Rr,Qd⟩:=hm.la;have QJ:=eW x.lm Qg;have hyl:=eW y.lm Qd;rw[RE]at QJ;rw[Rr]at hyl;refine sA (by simp) ?_;refine cJ (cO (If:=fun _ _ v _=>v= .int .i64 (tD n m)) (fun O J r=>MG (S:=S) (fun g Y=>by have:=X g Y;have:=r.cU.size;omega) (hnN.cK fun g Y=>r.cU.block g (X g Y)) (Ue.cK fun g Y=>r.cU.block g (X g Y))) ?_);rintro O w1 v1 V r U I rfl;refine dQ.mk ?_ ?_<;>intro h
 ·have h:n<m:=by
   have:=aK h;unfold tD at this;split at this
   ·assumption
   ·split at this<;>omega
  intro GT w3 E;refine⟨_,rfl,I.tr E.cU,_,_,rfl,?_,?_⟩
  ·rw[Nat.div_eq_of_lt h];exact eE.nil _ _
  ·rw[bN h];exact(hnN.cK fun g Y=>(I.tr E.cU).block g (X g Y)).cN fun g Y=>.inl Y
 have h:m<=n:=by
  have:=aG h;unfold tD at this;split at this
  ·omega
  ·omega
 have hlmn:=fY h;refine dQ.mk ?_ ?_<;>intro L
 ·have L:y.ls.length=1:=by have:=eq_of_beq L;omega
  obtain⟨b,WH⟩:=List.length_eq_one_iff.1 L;have hb:y.ls[0]? =some b:=by rw[WH];rfl
  have VS:=y.lm.at hb;have Rk:m=b:=by rw[<-Rr,WH];simp[val]
  subst Rk;obtain⟨ad,PI,PK⟩:=y.load X I hb;refine⟨ad,PI,by omega,.int .u32 m,PK _ _ _,?_⟩;refine cJ (cO (If:=fun _ J v V=>∃q,v= .tuple #[q,.int .u32 ((val x.ls % m:Nat):Int)]/\eE V (Nf J V) q (val x.ls / m)) (fun O J r=>?_) ?_)
  ·refine Nr (S:=S) (fun g Y=>by have:=X g Y;have:=(I.tr r.cU).size;omega) ⟨x.lm,x.le,_,_,rfl,x.cap,fun j u hu=>?_⟩ (by omega) Uf VS;obtain⟨ad,e1,e2,e3⟩:=x.cell j u hu;exact⟨ad,e1,e2,j0 X I r e2 e3⟩
  rintro O w3 v3 w4 r U S9 ⟨q,rfl,hq⟩;replace I:=I.tr S9;have VC:=hq.dK (S:=FF) r.cI (iv:=(w3.heap.size,w4.heap.size)::[(w1.heap.size,V.heap.size)]) aF;rw[RE]at VC;rw[RE];generalize (w3.heap.size,w4.heap.size)::[(w1.heap.size,V.heap.size)]=iv at*
  have RM:n % m<m:=cD _ Uf;generalize n % m=rem at*
  refine gM (If:=fun O _ v V=>dT V (fun g=>g=(O 0).g) v (eC [rem])) (H':=[]) 0 rfl (by simp) trivial rfl (fun O J r=>r.nn 0 _ rfl (by intros;simp) (by simp)) (fun O J r=>?_) ?_
  ·have hL:=r.uu (id:=0) (ls:=[rem]) rfl (by intro x F;simp at F;omega) (by simp);exact fb (fun g Y=>by rw[Y];exact(r.low 0 _ rfl (r.nn 0 _ rfl (by intros;simp) (by simp))).2) hL
  rintro O w5 v5 w6 r U XV hL;have Og:=r.low 0 _ rfl (r.nn 0 _ rfl (by intros;simp) (by simp));have hs:=U.size;replace I:=I.tr XV;replace VC:=VC.cM (K:=((O 0).g,(O 0).g+1)::(w5.heap.size,w6.heap.size)::iv) r (fun g h=>h.elim) U fun x F=>by simp[F]
  generalize (O 0).g=g0 at*
  have Wi:eE w6 (Cf w ((g0,g0+1)::(w5.heap.size,w6.heap.size)::iv)) v5 rem:=by
   have:=hL.trimmed;simp only[val,Nat.mul_zero,cF]at this;exact this.cN fun k D=>.inr ⟨by omega,g0,g0+1,by simp,by omega,by omega⟩
  generalize (g0,g0+1)::(w5.heap.size,w6.heap.size)::iv=Od at*
  intro GT w7 E;exact⟨_,rfl,I.tr E.cU,_,_,rfl,(VC.rel E fun g h=>h.elim).cN fun g Y=>Cv.nw Y E,((Wi.rel E fun g h=>h.elim).cN fun g Y=>Cv.nw Y E).cN fun g Y=>Y.elim (fun h=>h.elim) .inr⟩
 ·have L:y.ls.length≠1:=fun e=>by rw[e]at L;simp at L
  have SX:0<ln m:=by
   rcases bK (ln m)with h|h
   ·have:=gU.1 (Nat.le_of_eq h);rw[jc]at this;omega
   ·exact h
  obtain⟨t,ht⟩:∃t,y.ls.length=t+1:=⟨y.ls.length-1,by omega⟩
  obtain⟨dt,Tu⟩:∃q,y.ls[t]? =some q:=⟨_,aA (by omega)⟩
  have hdt0:0<dt:=by
   have:=Qd dt (by rw[List.getLast?_eq_getElem?,ht];exact Tu);omega
  have XU:=y.lm.at Tu;obtain⟨PB,Wj⟩:=Jj y.lm ht Tu hdt0;rw[Rr]at Wj;obtain⟨ad,PI,PK⟩:=y.load X I Tu;refine⟨(t:Int),wo,ad,PI,by omega,.int .u32 dt,PK _ _ _,?_⟩;refine cJ (cO (If:=fun _ _ v _=>v= .int .i64 ((32-gv dt:Nat):Int)) (fun O J r=>aA8 dt J XU) ?_);rintro O w3 v3 w4 r U S9 rfl;replace I:=I.tr S9;generalize hbyd:32-gv dt=b at*
  refine⟨(b:Int),eu (by omega),?_⟩;refine cJ (cO (If:=fun _ J v V=>∃out,MK J V v out/\out.length=y.ls.length+1/\val out=val y.ls*2^b) (fun O J r=>?_) ?_)
  ·refine Cs (S:=S) (fun g Y=>by have:=X g Y;have:=(I.tr r.cU).size;omega) ⟨y.lm,y.le,_,_,rfl,y.cap,fun j u hu=>?_⟩ (by omega) PB;obtain⟨ad,e1,e2,e3⟩:=y.cell j u hu;exact⟨ad,e1,e2,j0 X I r e2 e3⟩
  rintro O w5 v5 w6 r U XV ⟨dl,⟨gd,rfl,hgd1,hgd2,hgd3⟩,Sc,hdv⟩;replace I:=I.tr XV;rw[Rr]at hdv;have hB5:w.heap.size<=w5.heap.size:=r.cI;have Ss:Cf w ((w5.heap.size,w6.heap.size)::[(w3.heap.size,w4.heap.size),(w1.heap.size,V.heap.size)]) gd:=.inr ⟨by omega,_,_,aF,hgd1,kU hgd2⟩;generalize (w5.heap.size,w6.heap.size)::[(w3.heap.size,w4.heap.size),(w1.heap.size,V.heap.size)]=iv at*
  have hF:∀g:Nat,(fun _:Nat=>False) g->g<w.heap.size:=fun g h=>h.elim;refine cJ (cO (If:=fun _ _ v V=>dT V (fun x=>x=gd) v (eC dl)) (fun O J r=>fb (fun g Y=>by rw[Y];exact Rel.old r hF gd Ss) (Ip (by rw[Rel.same r hF Ss];exact hgd2) hgd3 (by omega))) ?_);rintro O w7 v6 w8 r U hb8 hL;replace I:=I.tr hb8;have hgd8:gd<w8.heap.size:=by have:=Rel.old r hF gd Ss;have:=U.size;omega
  replace Ss:=Ss.mono (K:=(w7.heap.size,w8.heap.size)::iv) fun p hp=>aB _ hp;have VX:=hL.trimmed;rw[hdv]at VX;generalize (w7.heap.size,w8.heap.size)::iv=iv at*
  obtain⟨dp,rfl,SL,Pn⟩:=VX.la;have hdpl:=eW dp.lm Pn;rw[SL,Wj]at hdpl;generalize hDd:m*2^b=Fd at*
  have hD0:0<Fd:=by rw[<-hDd];exact Nat.mul_pos Uf (bz b)
  refine cJ (cO (If:=fun _ J v V=>∃out,MK J V v out/\out.length=x.ls.length+1/\val out=val x.ls*2^b) (fun O J r=>?_) ?_)
  ·refine Cs (S:=S) (fun g Y=>by have:=X g Y;have:=(I.tr r.cU).size;omega) ⟨x.lm,x.le,_,_,rfl,x.cap,fun j u hu=>?_⟩ (by omega) PB;obtain⟨ad,e1,e2,e3⟩:=x.cell j u hu;exact⟨ad,e1,e2,j0 X I r e2 e3⟩
  rintro O w9 v9 w10 r U hb10 ⟨rs0,⟨gr,rfl,Ug,Uh,hgr3⟩,Po,Ui⟩;replace I:=I.tr hb10;rw[RE]at Ui;have hB9:w.heap.size<=w9.heap.size:=r.cI;have Ta:Cf w ((w9.heap.size,w10.heap.size)::iv) gr:=.inr ⟨by omega,_,_,aF,Ug,kU Uh⟩;have Oe:gr≠gd:=by have:=r.size;omega
  replace VX:eE w10 (fun x=>x=gd) (.slice dp.a dp.ls.length dp.c) Fd:=VX.cK fun x F=>by
   rw[F,U.block gd (Rel.old r hF gd Ss),Rel.same r hF Ss]
  have hgd10:gd<w10.heap.size:=by have:=Rel.old r hF gd Ss;have:=U.size;omega
  replace Ss:=Ss.mono (K:=(w9.heap.size,w10.heap.size)::iv) fun p hp=>aB _ hp;generalize (w9.heap.size,w10.heap.size)::iv=iv at*
  have hgrB:w.heap.size<=gr:=by omega
  obtain⟨C8,hL⟩:∃C8,rs0.length=t+1+C8:=⟨rs0.length-(t+1),by omega⟩
  refine⟨(C8:Int),wo,C8,C8,rfl,rfl,Nat.le_refl _,by omega,by omega,(C8:Int)-1,wo,Nat×List Nat×List Nat×World,fun z=>⟨[(8,.o (.v (.int .u64 b))),(9,sV dp.a dp.ls.length dp.c),(10,.o (.v (.slice (some ⟨gr,0,none⟩) rs0.length rs0.length))),(11,.o (.s 0 0 C8 C8)),(12,.o (.v (.int .i64 ((z.1:Int)-1))))],
    [(0,.arr T.uint32 (E8 z.2.1))],1,iv,z.2.2.2⟩,fun z=>z.1,
   fun z=>z.1<=C8/\dw w.heap.size w z.2.2.2/\z.2.1.length=C8/\z.2.2.1.length=rs0.length/\Lm z.2.1/\Lm z.2.2.1/\z.2.2.2.heap[gr]? =some (.cells (E8 z.2.2.1).toArray T.uint32 (0,0))/\eE z.2.2.2 (fun x=>x=gd) (.slice dp.a dp.ls.length dp.c) Fd/\
    gd<z.2.2.2.heap.size/\val z.2.2.1<wt z.1*Fd/\n*2^b=wt z.1*(Fd*val (z.2.1.drop z.1))+val z.2.2.1,?_,?_⟩
  ·intro O J r;rw[tE]at r;refine⟨(C8,List.replicate C8 0,rs0,J),⟨Nat.le_refl _,I.tr r.cU,by simp,rfl,Lm.replicate _,hgr3,?_,?_,?_,?_,?_⟩,Sub.gn [] r⟩
   ·dsimp only;rw[Rel.same r hF Ta];exact Uh
   ·exact VX.cK fun x F=>by rw[F];exact Rel.same r hF Ss
   ·exact Rel.old r hF gd Ss
   ·dsimp only
    have:=Jk (b:=b) Uf h;rw[hDd,<-hyl,ht,<-QJ,show x.ls.length+1-(t+1)=C8 by omega]at this;rw[Ui];exact this
   ·dsimp only;rw[Ui];simp[val]
  ·rintro⟨k,out,rs,w11⟩ ⟨D,I,Qn,SY,Tn,WJ,PC,VX,Ra,hi1,Rz⟩;dsimp only at D I Qn SY Tn WJ PC VX Ra hi1 Rz ⊢;refine dQ.mk ?_ ?_<;>intro h9
   ·have h9:(k:Int)-1≥0:=aK h9;obtain⟨k,rfl⟩:∃q,k=q+1:=⟨k-1,by omega⟩
    rw[show ((k+1:Nat):Int)-1=(k:Int) by omega];have hDN:Fd<wt (t+1):=gU.1 (Nat.le_of_eq Wj);obtain⟨a1,a2,a3⟩:=FX (F':=t+1) WJ hDN (by omega) hi1;have hdig:=fun(J:World)=>@Nq (fun x=>x=gd) J (.slice dp.a dp.ls.length dp.c) Fd gr k rs;rw[Wj]at hdig;simp only[SY]at hdig;generalize hP:val ((rs.drop k).take (t+1+1))=P at*
    have hQ32:P / Fd<4294967296:=(Nat.div_lt_iff_lt_mul hD0).2 (by rw[bT]at a3;omega);refine⟨fun O J r=>(hdig J (fun g Y=>by rw[Y];exact Rel.old r hF gd Ss) Oe (VX.cK fun x F=>by rw[F];exact Rel.same r hF Ss) hD0 (by rw[Rel.same r hF Ta];exact PC) WJ (by omega) (by omega) a3).mono fun e w12 U=>?_⟩;obtain⟨rfl,hgb,rs',e1,e2,e3,e4,e5,e6⟩:=U;refine⟨_,_,_,rfl,r.zJ (fun id b hb R=>Rel.not r hF Ta id b hb R) hgb,?_⟩;obtain⟨hi1',hi2'⟩:=LQ (F':=t+1) hD0 WJ (e1.trans SY.symm) hDN (by omega) hi1 Rz hP e3 e4 e5 (by omega);have hw12:dw w.heap.size w w12:=(I.tr r.cU).tr (dw.grown hgb (fun g Y=>by injection Y with Y;omega) r.cI);have hdN12:eE w12 (fun x=>x=gd) (.slice dp.a dp.ls.length dp.c) Fd:=VX.cK fun x F=>by
     rw[F,hgb.block gd (Rel.old r hF gd Ss) (fun e=>Oe (Option.some.inj e).symm),Rel.same r hF Ss]
    have hgd12:gd<w12.heap.size:=by have:=Rel.old r hF gd Ss;have:=hgb.size;omega
    generalize P / Fd=Q at*
    refine⟨by omega,by rw[gW];omega,E8 (out.set k Q),jW out k _ (by omega) (by simp),(k:Int)-1,wo,?_⟩;intro GT w3 E
    refine⟨(k,out.set k Q,rs',w3),⟨by dsimp only;omega,hw12.tr E.cU,by simp[Qn],e1.trans rfl,Tn.set hQ32,e2,?_,?_,?_,hi1',hi2'⟩,
     Sub.gn [] E,by dsimp only;omega⟩
    ·dsimp only;rw[Rel.same E hF Ta];exact e6
    ·exact hdN12.cK fun x F=>by rw[F];exact Rel.same E hF Ss
    ·exact Rel.old E hF gd Ss
   ·have Ts:k=0:=by
     have:¬(k:Int)-1≥0:=aG h9;omega
    subst Ts;rw[jc,Nat.one_mul,List.drop_zero]at Rz;rw[jc,Nat.one_mul]at hi1;rw[<-hDd]at hi1 Rz;obtain⟨hq,hrem⟩:=NW Uf Rz hi1;have PW:∀J:World,J.heap[gr]? =some (.cells (E8 rs).toArray T.uint32 (0,0))->dT J (fun x=>x=gr) (.slice (some ⟨gr,0,none⟩) rs0.length rs0.length) rs:=fun J hh=>by
     have:=Ip hh WJ (by omega)
     rwa [SY]at this
    refine gM (If:=fun O _ v V=>dT V (fun g=>g=(O 0).g) v (eC out)) (H':=[]) 0 rfl (by simp) trivial rfl (fun O J r=>r.nn 0 _ rfl (by intros;simp) (by simp)) (fun O J r=>?_) ?_
    ·have hL:=r.oB (id:=0) rfl Tn (by omega);rw[Qn]at hL;exact fb (fun g Y=>by rw[Y];exact(r.low 0 _ rfl (r.nn 0 _ rfl (by intros;simp) (by simp))).2) hL
    rintro O w13 v13 w14 r U hb14 hL;replace I:=I.tr hb14;have Og:=r.low 0 _ rfl (r.nn 0 _ rfl (by intros;simp) (by simp));have hs:=U.size;have hgr14:w14.heap[gr]? =some (.cells (E8 rs).toArray T.uint32 (0,0)):=by rw[U.block gr (Rel.old r hF gr Ta),Rel.same r hF Ta];exact PC
    replace Ta:=Ta.mono (K:=((O 0).g,(O 0).g+1)::(w13.heap.size,w14.heap.size)::iv) fun p hp=>by simp[hp]
    have VC:eE w14 (Cf w (((O 0).g,(O 0).g+1)::(w13.heap.size,w14.heap.size)::iv)) v13 (n / m):=by
     have:=hL.trimmed;rw[hq]at this;exact this.cN fun k D=>.inr ⟨by omega,_,_,aF,by omega,by omega⟩
    generalize ((O 0).g,(O 0).g+1)::(w13.heap.size,w14.heap.size)::iv=Oq at*
    refine cJ (cO (If:=fun _ _ v V=>dT V (fun x=>x=gr) v (eC rs)) (fun O J r=>fb (fun g Y=>by rw[Y];exact Rel.old r hF gr Ta) (PW J (by rw[Rel.same r hF Ta];exact hgr14))) ?_);rintro O w15 v15 w16 r U hb16 hL;replace I:=I.tr hb16;replace VC:=VC.cM (K:=(w15.heap.size,w16.heap.size)::Oq) r hF U fun x F=>aB _ F;replace hL:=hL.cN (S':=Cf w ((w15.heap.size,w16.heap.size)::Oq)) fun g Y=>by rw[Y];exact Ta.cons
    generalize (w15.heap.size,w16.heap.size)::Oq=Ox at*
    have St:(eC rs).length<=rs.length:=by
     obtain⟨_,_,k,_,D⟩:=fK rs;rw[D];simp;omega
    refine cJ (cO (If:=fun _ J v V=>eE V (Nf J V) v (val (eC rs) / 2^b)) (fun O J r=>aAa (Rel.old r hF) (dT.rel hL r hF) (by omega) PB) ?_);rintro O w17 v17 w18 r U hb18 hr;replace I:=I.tr hb18;rw[(fK rs).1,hrem]at hr;have Wi:=hr.dK (S:=FF) r.cI (iv:=(w17.heap.size,w18.heap.size)::Ox) aF;replace VC:=VC.cM (K:=(w17.heap.size,w18.heap.size)::Ox) r hF U fun x F=>aB _ F;generalize (w17.heap.size,w18.heap.size)::Ox=PX at*
    intro GT w19 E;exact⟨_,rfl,I.tr E.cU,_,_,rfl,(VC.rel E hF).cN fun g Y=>Cv.nw Y E,((Wi.rel E hF).cN fun g Y=>Cv.nw Y E).cN fun g Y=>Y.elim (fun h=>h.elim) .inr⟩
theorem GP{m:Nat}(X:Old S w)(R:eE w S v n)(hm:eE w S u m)(Sr:ln n<=100000000000)(QG:ln m<=100000000000):
  eI PG F'.uU #[v,u] w (eO w fun v' V=>eE V (Nw S w V) v' (Nat.gcd n m)):=by
 refine yR (by simp) ?_
 refine⟨(Value×Nat)×(Value×Nat)×Iv×World,fun z=>⟨[(0,.o (.v z.1.1)),(1,.o (.v z.2.1.1))],[],0,z.2.2.1,z.2.2.2⟩,fun z=>z.2.1.2,
  fun z=>dw w.heap.size w z.2.2.2/\eE z.2.2.2 (Cv S w.heap.size z.2.2.1) z.1.1 z.1.2/\eE z.2.2.2 (Cv S w.heap.size z.2.2.1) z.2.1.1 z.2.1.2/\ln z.1.2<=100000000000/\ln z.2.1.2<=100000000000/\Nat.gcd z.1.2 z.2.1.2=Nat.gcd n m,?_,?_⟩
 ·intro O J r
  exact⟨((v,n),(u,m),[],J),⟨r.cU,(R.cK fun g Y=>r.cU.block g (X g Y)).cN fun _ Y=>.inl Y,(hm.cK fun g Y=>r.cU.block g (X g Y)).cN fun _ Y=>.inl Y,Sr,QG,rfl⟩,
   Sub.gen [] r trivial ⟨rfl,rfl,trivial⟩ trivial (by simp[jw,SV.sc,At.sc]) (by rfl) (by simp)⟩
 ·rintro⟨⟨vx,x⟩,⟨vy,y⟩,iv,w1⟩ ⟨I,F,hy,PU,Qu,Y⟩;dsimp only at I F hy PU Qu Y ⊢;have hyN:=hy;obtain⟨p,rfl,RE,Qg⟩:=hy.la;have Pv:=eW p.lm Qg;rw[RE]at Pv;refine dQ.mk ?_ ?_<;>intro h
  ·have h:0<p.ls.length:=by
    have:(p.ls.length:Int)>0:=aK h;omega
   have QQ:0<y:=by
    rcases bK y with h0|h0
    ·rw[h0]at Pv;rw[NT]at Pv;omega
    ·exact h0
   refine cJ (cO (If:=fun _ J v V=>∃q r,v= .tuple #[q,r]/\eE V (Nf J V) q (x / y)/\eE V (Nw (Cv S w.heap.size iv) J V) r (x % y)) (fun O J r=>qk (Rel.old r X) (F.rel r X) (hyN.rel r X) QQ PU) ?_);rintro O w3 v3 w4 r U S9 ⟨q,rm,rfl,-,hr⟩;replace I:=I.tr S9;have Wi:eE w4 (Cv S w.heap.size ((w3.heap.size,w4.heap.size)::iv)) rm (x % y):=hr.cN fun g Y=>Nw.cv Y r.cI;have hyN:=hyN.cM (K:=(w3.heap.size,w4.heap.size)::iv) r X U fun x F=>aB _ F;generalize (w3.heap.size,w4.heap.size)::iv=Od at*
   intro In w5 r5
   refine⟨((_,y),(rm,x % y),Od,w5),⟨I.tr r5.cU,hyN.rel r5 X,Wi.rel r5 X,Qu,aW (fY (Nat.le_of_lt (cD x QQ))) Qu,?_⟩,
    Sub.gen [] r5 trivial ⟨rfl,rfl,trivial⟩ trivial (by simp[jw,SV.sc,At.sc]) (by rfl) (by simp),cD x QQ⟩
   dsimp only
   rw[<-Y,Nat.gcd_comm x y,Nat.gcd_rec y x,Nat.gcd_comm]
  ·have h:p.ls.length=0:=by
    have:¬(p.ls.length:Int)>0:=aG h;omega
   have QQ:y=0:=by
    have:=lV y;rw[<-Pv,h,jc]at this;omega
   rw[QQ,Nat.gcd_zero_right]at Y;intro In w5 r5;exact⟨_,rfl,I.tr r5.cU,by rw[<-Y];exact(F.rel r5 X).cN fun g Y=>Cv.nw Y r5⟩
def sg(neg:Bool)(n:Nat):Int:=if neg then -(n:Int)else n
theorem MW(n:Nat):sg true n= -(n:Int):=rfl
theorem aAd(n:Nat):sg false n=n:=rfl
theorem tN(b:Bool)(n:Nat):(sg b n).natAbs=n:=by cases b<;>simp[sg]
def vA(w:World)(S:Nat->Prop)(v:Value)(neg:Bool)(ls:List Nat):Prop:=∃lv,v= .agg #[.bool neg,lv]/\dT w S lv ls
def e9(w:World)(S:Nat->Prop)(v:Value)(z:Int):Prop:=∃nv,v= .agg #[.bool (decide (z<0)),nv]/\eE w S nv z.natAbs
section
variable{S S':Nat->Prop}{H:Hp}{nx:Nat}{iv K:Iv}{B:Nat}{w J V:World}{O:Nat->Sx.dq}{v:Value}{z:Int}
theorem e9.cK(h:e9 w S v z)(D:∀g,S g->V.heap[g]? =w.heap[g]?):e9 V S v z:=by
 obtain⟨nv,L,G⟩:=h;exact⟨nv,L,G.cK D⟩
theorem e9.cN(h:e9 w S v z)(D:∀g,S g->S' g):e9 w S' v z:=by
 obtain⟨nv,L,G⟩:=h;exact⟨nv,L,G.cN D⟩
theorem e9.rel(h:e9 w (Cv S B iv) v z)(r:Rel H nx iv B w O J)(X:∀g,S g->g<B):e9 J (Cv S B iv) v z:=h.cK fun _ Y=>Rel.same r X Y
theorem e9.cM(h:e9 w (Cv S B iv) v z)(r:Rel H nx iv B w O J)(X:∀g,S g->g<B)(U:Ext J V)(hm:∀p,p∈iv->p∈K):e9 V (Cv S B K) v z:=by
 obtain⟨nv,L,G⟩:=h;exact⟨nv,L,G.cM r X U hm⟩
theorem e9.dK(h:e9 V (Nf J V) v z)(hB:B<=J.heap.size)(hm:(J.heap.size,V.heap.size)∈iv):e9 V (Cv S B iv) v z:=h.cN fun _ Y=>Y.dK hB hm
end
theorem wi{k:Nat}(h:k=ln n):0<k↔0<n:=by
 have L:=@gU n 0;rw[jc]at L;omega
theorem dT.shape(h:dT w S v ls):∃a n c,v= .slice a n c:=by
 obtain⟨a,c,h,_⟩:=h.sl;exact⟨a,_,c,h⟩
theorem eE.shape(h:eE w S v n):∃a n c,v= .slice a n c:=by
 obtain⟨_,h,_⟩:=h;exact h.shape
theorem dT.arg(h:dT w S v ls)(iv:Iv):dT w (Cv S w.heap.size iv) v ls:=h.cN fun _ h=>.inl h
theorem eE.arg(h:eE w S v n)(iv:Iv):eE w (Cv S w.heap.size iv) v n:=h.cN fun _ h=>.inl h
theorem eE.out(h:eE w1 (Cv S w.heap.size iv) v n)(r:Rel H nx iv w.heap.size w1 O J)(X:Old S w):eE J (Nw S w J) v n:=
 (h.rel r X).cN fun _ Y=>Cv.nw Y r
theorem e9.out(h:e9 w1 (Cv S w.heap.size iv) v z)(r:Rel H nx iv w.heap.size w1 O J)(X:Old S w):e9 J (Nw S w J) v z:=
 (h.rel r X).cN fun _ Y=>Cv.nw Y r
theorem neg_pos{k:Nat}(h:k=ln n):decide ((k:Int)>0)=decide (-(n:Int)<0):=by
 have:=wi h;exact decide_eq_decide.2 (by omega)
theorem cH(w:World):Old FF w:=fun _ h=>h.elim
theorem aB1{neg:Bool}(X:Old S w)(h:vA w S v neg ls):
  eI PG F'.AU #[v] w (eO w fun v' V=>e9 V (Nw S w V) v' (sg neg (val ls))):=by
 obtain⟨lv,rfl,hl⟩:=h;replace hl:=hl.arg [];refine GF (by simp) ?_;refine cJ (cO (If:=fun _ _ v V=>dT V (Cv S w.heap.size []) v (eC ls)) (fun O J r=>fb (Rel.old r X) (dT.rel hl r X)) ?_);rintro O w1 v1 V r U I hL;have hN:=hL.trimmed.cN (S':=Cv S w.heap.size [(w1.heap.size,V.heap.size)]) fun _ Y=>Y.cons;have hN2:=hN;obtain⟨p,rfl,RE,Qg⟩:=hN.la;have Pv:=eW p.lm Qg;rw[RE]at Pv
 cases neg
 ·intro GT w3 E;exact⟨_,rfl,I.tr E.cU,_,rfl,by rw[tN];exact hN2.out E X⟩
 ·intro GT w3 E;exact⟨_,rfl,I.tr E.cU,_,by rw[MW,<-neg_pos Pv];rfl,by rw[tN];exact hN2.out E X⟩
theorem MX(X:Old S w)(h:e9 w S v z)(Sr:ln z.natAbs<=100000000000):
  eI PG F'.mi #[v] w (eO w fun v' V=>∃ls,vA V (Nf w V) v' (decide (z<0)) ls/\Nz ls/\val ls=z.natAbs):=by
 obtain⟨nv,rfl,R⟩:=h;obtain⟨ls,hl,hz,hv⟩:=R;replace hl:=hl.arg [];refine qd (by simp) ?_;refine cJ (cO (If:=fun _ _ v V=>dT V (Cv S w.heap.size []) v (eC ls)) (fun O J r=>fb (Rel.old r X) (dT.rel hl r X)) ?_);rintro O w1 v1 V r U I hL;rw[FP hz]at hL;have Pv:=eW hl.lm hz;rw[hv]at Pv;replace hL:=hL.cN (S':=Cv S w.heap.size [(w1.heap.size,V.heap.size)]) fun _ Y=>Y.cons;have hL2:=hL;obtain⟨p,rfl,hp⟩:=hL.la;have WL:(p.ls.length:Int)>0↔z≠0:=by
  have L:=wi Pv;rw[hp];omega
 subst hp;generalize hb:decide (z<0)=b
 cases b
 all_goals
  refine cJ (cO (If:=fun _ J v V=>dT V (Nf J V) v p.ls) (fun O J r=>Ik (Rel.old r X) (dT.rel hL2 r X) (by omega)) ?_);rintro O w3 v3 w4 r U S9 hc;replace I:=I.tr S9;have TQ:=hc.dK (S:=FF) r.cI (iv:=(w3.heap.size,w4.heap.size)::[(w1.heap.size,V.heap.size)]) aF;obtain⟨a3,n3,c3,rfl⟩:=TQ.shape;intro In w5 r5;refine⟨_,rfl,I.tr r5.cU,p.ls,⟨_,?_,(dT.rel TQ r5 (cH w)).cN fun _ Y=>Cv.nw Y r5⟩,hz,hv⟩
 ·rfl
 ·have:decide ((p.ls.length:Int)>0)=true:=bX (WL.2 (by have:=aK hb;omega));rw[<-this];rfl
theorem BC(h:e9 w S v z):eI PG F'.mg #[v] w (eO w fun v' _=>v'= .int .i64 z.sign):=by
 obtain⟨nv,rfl,R⟩:=h;obtain⟨p,rfl,RE,Qg⟩:=R.la;have Pv:=eW p.lm Qg;rw[RE]at Pv;have WL:=wi Pv;generalize hb:decide (z<0)=b;refine q9 (by simp) ?_;refine dQ.mk ?_ ?_<;>intro h
 ·have h:p.ls.length=0:=by have:=eq_of_beq h;omega
  have hz:z=0:=by omega
  subst hz;intro O V r;exact⟨_,rfl,r.cU,rfl⟩
 ·have h:p.ls.length≠0:=fun e=>by rw[e]at h;simp at h
  have hz:z≠0:=by omega
  cases b
  ·have:=aG hb;intro O V r;exact⟨_,rfl,r.cU,by rw[bq (by omega)];rfl⟩
  ·have:=aK hb;intro O V r;exact⟨_,rfl,r.cU,by rw[bh (by omega)];rfl⟩
theorem pE(X:Old S w)(h:e9 w S v z):eI PG F'.lz #[v] w (eO w fun v' V=>e9 V (Nw S w V) v' (-z)):=by
 obtain⟨nv,rfl,R⟩:=h;have Ri:=R.arg [];obtain⟨p,rfl,RE,Qg⟩:=R.la;have Pv:=eW p.lm Qg;rw[RE]at Pv;have WL:=wi Pv;have QS:(-z).natAbs=z.natAbs:=cG z;generalize hb:decide (z<0)=b;refine p9 (by simp) ?_
 cases b
 ·have:=aG hb;have hd:decide ((p.ls.length:Int)>0)=decide (-z<0):=decide_eq_decide.2 (by omega);intro O V r;exact⟨_,rfl,r.cU,_,by rw[<-hd];rfl,by rw[QS];exact Ri.out r X⟩
 ·have:=aK hb;have hd:decide (-z<0)=false:=bM (by omega);intro O V r;exact⟨_,rfl,r.cU,_,by rw[hd];rfl,by rw[QS];exact Ri.out r X⟩
theorem e9.num(h:e9 w S v z):∃a n c,v= .agg #[.bool (decide (z<0)),.slice a n c]/\eE w S (.slice a n c) z.natAbs:=by
 obtain⟨nv,L,G⟩:=h;obtain⟨a,n,c,rfl⟩:=G.shape;exact⟨a,n,c,L,G⟩
theorem DD(X:Old S w)(F:e9 w S v x)(hy:e9 w S u y)(PU:ln x.natAbs<=100000000000)(Qu:ln y.natAbs<=100000000000):
  eI PG F'.mm #[v,u] w (eO w fun v' V=>e9 V (Nf w V) v' (x+y)):=by
 obtain⟨nx,rfl,RZ⟩:=F;obtain⟨ny,rfl,Te⟩:=hy;obtain⟨ax,lx,cx,rfl⟩:=RZ.shape;obtain⟨ay,ly,cy,rfl⟩:=Te.shape;replace RZ:=RZ.arg [];replace Te:=Te.arg [];generalize SI:decide (x<0)=bx;generalize PB:decide (y<0)=b2;refine qg (by simp) ?_;have Oh:bx=b2->(x+y).natAbs=x.natAbs+y.natAbs/\decide (x+y<0)=bx:=fun e=>by
  cases bx<;>subst e
  ·have L:=aG SI;have G:=aG PB;exact⟨by omega,bM (by omega)⟩
  ·have L:=aK SI;have G:=aK PB;exact⟨by omega,bX (by omega)⟩
 have Vh:bx≠b2->y.natAbs<=x.natAbs->(x+y).natAbs=x.natAbs-y.natAbs/\(decide (x+y<0)=(bx&&decide (x.natAbs-y.natAbs≠0))):=fun e h=>by
  cases bx
  ·have L:=aG SI
   cases b2
   ·exact absurd rfl e
   have G:=aK PB;exact⟨by omega,by rw[Bool.false_and];exact bM (by omega)⟩
  ·have L:=aK SI
   cases b2
   ·have G:=aG PB;exact⟨by omega,by rw[Bool.true_and];exact decide_eq_decide.2 (by omega)⟩
   ·exact absurd rfl e
 have Tz:bx≠b2->x.natAbs<y.natAbs->(x+y).natAbs=y.natAbs-x.natAbs/\decide (x+y<0)=b2:=fun e h=>by
  cases bx
  ·have L:=aG SI
   cases b2
   ·exact absurd rfl e
   have G:=aK PB;exact⟨by omega,bX (by omega)⟩
  ·have L:=aK SI
   cases b2
   ·have G:=aG PB;exact⟨by omega,bM (by omega)⟩
   ·exact absurd rfl e
 by_cases Oz:bx=b2
 ·obtain⟨L,G⟩:=Oh Oz;subst Oz
  cases bx
  all_goals
   refine cR hτ dx [.x 0,.x 1,.x 2,.x 3,.x 4,.x 5,.x 6,.x 7,.x 8] (by kernel_rfl) (by kernel_rfl) ?_;refine cO (If:=fun _ J v V=>eE V (Nf J V) v (x.natAbs+y.natAbs)) (fun O J r=>aAe (Rel.old r X) (RZ.rel r X) (Te.rel r X) (by omega) (by omega)) ?_;rintro O w3 v3 w4 r U I R;have hN:=R.dK (S:=FF) r.cI (iv:=(w3.heap.size,w4.heap.size)::[]) aF;obtain⟨a3,n3,c3,rfl⟩:=hN.shape;intro In w5 r5;exact⟨_,rfl,I.tr r5.cU,_,by rw[G];rfl,by rw[L];exact hN.out r5 (cH w)⟩
 ·replace Vh:=Vh Oz;replace Tz:=Tz Oz;have hcmp:∀d:Int,d=tD x.natAbs y.natAbs->(0<=d↔y.natAbs<=x.natAbs):=fun d e=>by
   rw[e];unfold tD;split
   ·omega
   ·split<;>omega
  cases bx<;>cases b2<;>first|exact absurd rfl Oz|skip
  all_goals
   refine cJ (cO (If:=fun _ _ v _=>v= .int .i64 (tD x.natAbs y.natAbs)) (fun O J r=>MG (Rel.old r X) (RZ.rel r X) (Te.rel r X)) ?_);rintro O w1 v1 V r U I rfl;replace RZ:=RZ.cM (K:=[(w1.heap.size,V.heap.size)]) r X U fun x F=>aB _ F;replace Te:=Te.cM (K:=[(w1.heap.size,V.heap.size)]) r X U fun x F=>aB _ F;refine dQ.mk ?_ ?_<;>intro h
   ·have h:=(hcmp _ rfl).1 (aK h);obtain⟨L,G⟩:=Vh h;refine cJ (cO (If:=fun _ J v V=>eE V (Nf J V) v (x.natAbs-y.natAbs)) (fun O J r=>EJ (Rel.old r X) (RZ.rel r X) (Te.rel r X) h (by omega)) ?_);rintro O w3 v3 w4 r U S9 R;replace I:=I.tr S9;have hN:=R.dK (S:=FF) r.cI (iv:=(w3.heap.size,w4.heap.size)::[(w1.heap.size,V.heap.size)]) aF;have hN2:=hN;obtain⟨p,rfl,RE,Qg⟩:=hN.la;have Pv:=eW p.lm Qg;rw[RE]at Pv;have WL:=wi Pv;have hd:decide ((p.ls.length:Int)>0)=decide (x.natAbs-y.natAbs≠0):=decide_eq_decide.2 (by omega);intro In w5 r5;exact⟨_,rfl,I.tr r5.cU,_,by rw[G,<-hd];rfl,by rw[L];exact hN2.out r5 (cH w)⟩
   ·have h:x.natAbs<y.natAbs:=by
     have h0:=aG h;have:=hcmp _ rfl;omega
    obtain⟨L,G⟩:=Tz h;refine cR hτ dx [.x 0,.x 1,.x 2,.x 3,.x 4,.x 5,.x 6,.x 7,.x 8] (by kernel_rfl) (by kernel_rfl) ?_;refine cO (If:=fun _ J v V=>eE V (Nf J V) v (y.natAbs-x.natAbs)) (fun O J r=>EJ (Rel.old r X) (Te.rel r X) (RZ.rel r X) (by omega) (by omega)) ?_;rintro O w3 v3 w4 r U S9 R;replace I:=I.tr S9;have hN:=R.dK (S:=FF) r.cI (iv:=(w3.heap.size,w4.heap.size)::[(w1.heap.size,V.heap.size)]) aF;obtain⟨a3,n3,c3,rfl⟩:=hN.shape;intro In w5 r5;exact⟨_,rfl,I.tr r5.cU,_,by rw[G];rfl,by rw[L];exact hN.out r5 (cH w)⟩
theorem ig(X:Old S w)(F:e9 w S v x)(hy:e9 w S u y)(PU:ln x.natAbs<=100000000000)(Qu:ln y.natAbs<=100000000000):
  eI PG F'.lu #[v,u] w (eO w fun v' V=>e9 V (Nf w V) v' (x*y)):=by
 obtain⟨nx,rfl,RZ⟩:=F;obtain⟨ny,rfl,Te⟩:=hy;obtain⟨ax,lx,cx,rfl⟩:=RZ.shape;obtain⟨ay,ly,cy,rfl⟩:=Te.shape;replace RZ:=RZ.arg [];replace Te:=Te.arg [];have QS:=Int.natAbs_mul x y;have RC:decide (x*y<0)=((decide (x<0) != decide (y<0))&&decide (x.natAbs*y.natAbs≠0)):=by
  by_cases h0:x*y=0
  ·rw[<-QS,h0];simp
  ·have TM:x≠0:=fun e=>h0 (by rw[e,Int.zero_mul]);have QQ:y≠0:=fun e=>h0 (by rw[e,Int.mul_zero]);rw[<-QS,bX (show (x*y).natAbs≠0 by omega),Bool.and_true];by_cases L:x<0<;>by_cases G:y<0
   ·rw[bX L,bX G];exact bM (by have:=Int.mul_pos_of_neg_of_neg L G;omega)
   ·rw[bX L,bM G];exact bX (Int.mul_neg_of_neg_of_pos L (by omega))
   ·rw[bM L,bX G];exact bX (Int.mul_neg_of_pos_of_neg (by omega) G)
   ·rw[bM L,bM G];exact bM (by have:=Int.mul_nonneg (show 0<=x by omega) (show 0<=y by omega);omega)
 generalize decide (x<0)=bx at*
 generalize decide (y<0)=b2 at*
 refine p8 (by simp) ?_;refine cJ (cO (If:=fun _ J v V=>eE V (Nf J V) v (x.natAbs*y.natAbs)) (fun O J r=>Im (Rel.old r X) (RZ.rel r X) (Te.rel r X) (by omega) (by omega)) ?_);rintro O w3 v3 w4 r U I R;have hN:=R.dK (S:=FF) r.cI (iv:=(w3.heap.size,w4.heap.size)::[]) aF;have hN2:=hN;obtain⟨p,rfl,RE,Qg⟩:=hN.la;have Pv:=eW p.lm Qg;rw[RE]at Pv;have WL:=wi Pv;have hd:decide ((p.ls.length:Int)>0)=decide (x.natAbs*y.natAbs≠0):=decide_eq_decide.2 (by omega)
 cases bx<;>cases b2
 all_goals
  intro In w5 r5;exact⟨_,rfl,I.tr r5.cU,_,by rw[RC,<-hd];rfl,by rw[QS];exact hN2.out r5 (cH w)⟩
theorem MZ(X:Old S w)(F:e9 w S v x)(hy:e9 w S u y)(PU:ln x.natAbs<=100000000000)(Qu:ln y.natAbs<=100000000000):
  eI PG F'.nm #[v,u] w (eO w fun v' _=>v'= .int .i64 (x-y).sign):=by
 have hxN:e9 w (Cv S w.heap.size []) v x:=F.cN fun _ h=>.inl h;have hyN:e9 w (Cv S w.heap.size []) u y:=hy.cN fun _ h=>.inl h;obtain⟨nx,rfl,RZ⟩:=F;obtain⟨ny,rfl,Te⟩:=hy;obtain⟨ax,lx,cx,rfl⟩:=RZ.shape;obtain⟨ay,ly,cy,rfl⟩:=Te.shape;refine ry (by simp) ?_;refine cR hτ dx [.x 0,.x 1,.x 2,.x 3,.x 4,.x 5] (by kernel_rfl) (by kernel_rfl) ?_;refine cO (If:=fun _ J v V=>e9 V (Nw (Cv S w.heap.size []) J V) v (-y)) (fun O J r=>pE (Rel.old r X) (hyN.rel r X)) ?_;rintro O w1 v1 V r U I hm;have Ue:e9 V (Cv S w.heap.size [(w1.heap.size,V.heap.size)]) v1 (-y):=hm.cN fun _ Y=>Nw.cv Y r.cI;replace hxN:=hxN.cM (K:=[(w1.heap.size,V.heap.size)]) r X U fun x F=>aB _ F;generalize [(w1.heap.size,V.heap.size)]=iv at*
 have hmN2:=Ue;obtain⟨am,lm,cm,rfl,-⟩:=Ue.num;refine cO (If:=fun _ J v V=>e9 V (Nf J V) v (x+ -y)) (fun O J r=>DD (Rel.old r X) (hxN.rel r X) (hmN2.rel r X) PU (by rw[cG];exact Qu)) ?_;rintro O w3 v3 w4 r U S9 hp;replace I:=I.tr S9;have hpN:=hp.dK (S:=S) r.cI (iv:=(w3.heap.size,w4.heap.size)::iv) aF;have hpN2:=hpN;obtain⟨ap,lp,cp,rfl,-⟩:=hpN.num;refine cO (If:=fun _ _ v _=>v= .int .i64 (x-y).sign) (fun O J r=>BC (hpN2.rel r X)) ?_;rintro O w5 v5 w6 r U XV rfl;replace I:=I.tr XV;intro J9 w7 r7;exact⟨_,rfl,I.tr r7.cU,rfl⟩
theorem vD(n:Int)(w:World)(L: -9223372036854775808<=n)(G:n<=9223372036854775807):
  eI PG F'.x8 #[.int .i64 n] w (eO w fun v' V=>e9 V (Nf w V) v' n):=by
 have key:∀(m:Nat),m=n.natAbs->m<18446744073709551616/\val [m % 4294967296,m / 4294967296]=n.natAbs/\m / 4294967296<4294967296:=fun m e=>by
  refine⟨by omega,?_,by omega⟩;simp only[val]
  omega
 refine Aj (by simp) ?_;refine⟨if n<0 then n+18446744073709551616 else n,by show n % 18446744073709551616=_;split<;>omega,?_⟩;refine dQ.mk ?_ ?_<;>intro h
 ·have h:=aK h;rw[if_pos h];obtain⟨m,hm⟩:∃m,m=n.natAbs:=⟨_,rfl⟩
  obtain⟨k1,k2,k3⟩:=key m hm;refine⟨(m:Int),by show(0-(n+18446744073709551616)) % 18446744073709551616=_;omega,((m % 4294967296:Nat):Int),fT m,by decide,((m / 2^32:Nat):Int),mI 32 (by decide),((m / 4294967296:Nat):Int),by rw[fT,bN (by omega)],?_⟩;refine gM (If:=fun O _ v V=>dT V (fun g=>g=(O 1).g) v (eC [m % 4294967296,m / 4294967296])) (H':=[(0,.box T.number [.v (.bool false),.v (.slice none 0 0)])]) 1 rfl (by simp) ⟨rfl,trivial⟩ rfl (fun O J r=>r.nn 1 _ rfl (by intros;simp) (by simp)) (fun O J r=>?_) ?_
  ·have hL:=r.uu (id:=1) (ls:=[m % 4294967296,m / 4294967296]) rfl (by intro x F;simp at F;omega) (by simp);exact fb (fun g Y=>by rw[Y];exact(r.low 1 _ rfl (r.nn 1 _ rfl (by intros;simp) (by simp))).2) hL
  rintro O w1 v1 V r U I hL;have Og:=r.low 1 _ rfl (r.nn 1 _ rfl (by intros;simp) (by simp));have hs:=U.size;generalize (O 1).g=g0 at*
  have hN:eE V (Cf w [(g0,g0+1),(w1.heap.size,V.heap.size)]) v1 n.natAbs:=by
   have:=hL.trimmed;rw[k2]at this;exact this.cN fun k D=>.inr ⟨by omega,g0,g0+1,by simp,by omega,by omega⟩
  generalize [(g0,g0+1),(w1.heap.size,V.heap.size)]=iv at*
  obtain⟨a3,n3,c3,rfl⟩:=hN.shape;intro In w5 r5;exact⟨_,rfl,I.tr r5.cU,_,rfl,hN.out r5 (cH w)⟩
 ·have h:=aG h;rw[aH h];obtain⟨m,hm⟩:∃m,m=n.natAbs:=⟨_,rfl⟩
  obtain⟨k1,k2,k3⟩:=key m hm;have RR:n=(m:Int):=by omega
  refine⟨((m % 4294967296:Nat):Int),by rw[RR];exact fT m,by decide,((m / 2^32:Nat):Int),by rw[RR];exact mI 32 (by decide),((m / 4294967296:Nat):Int),by rw[fT,bN (by omega)],?_⟩;refine gM (If:=fun O _ v V=>dT V (fun g=>g=(O 1).g) v (eC [m % 4294967296,m / 4294967296])) (H':=[(0,.box T.number [.v (.bool false),.v (.slice none 0 0)])]) 1 rfl (by simp) ⟨rfl,trivial⟩ rfl (fun O J r=>r.nn 1 _ rfl (by intros;simp) (by simp)) (fun O J r=>?_) ?_
  ·have hL:=r.uu (id:=1) (ls:=[m % 4294967296,m / 4294967296]) rfl (by intro x F;simp at F;omega) (by simp);exact fb (fun g Y=>by rw[Y];exact(r.low 1 _ rfl (r.nn 1 _ rfl (by intros;simp) (by simp))).2) hL
  rintro O w1 v1 V r U I hL;have Og:=r.low 1 _ rfl (r.nn 1 _ rfl (by intros;simp) (by simp));have hs:=U.size;generalize (O 1).g=g0 at*
  have hN:eE V (Cf w [(g0,g0+1),(w1.heap.size,V.heap.size)]) v1 n.natAbs:=by
   have:=hL.trimmed;rw[k2]at this;exact this.cN fun k D=>.inr ⟨by omega,g0,g0+1,by simp,by omega,by omega⟩
  generalize [(g0,g0+1),(w1.heap.size,V.heap.size)]=iv at*
  obtain⟨a3,n3,c3,rfl⟩:=hN.shape;intro In w5 r5;exact⟨_,rfl,I.tr r5.cU,_,rfl,hN.out r5 (cH w)⟩
def jx(w:World)(S:Nat->Prop)(v:Value)(z:Int):Prop:=∃neg ls,vA w S v neg ls/\sg neg (val ls)=z
def dR(w:World)(S:Nat->Prop)(v:Value)(z:Int):Prop:=∃ls,vA w S v (decide (z<0)) ls/\Nz ls/\val ls=z.natAbs
theorem DE(z:Int):sg (decide (z<0)) z.natAbs=z:=by
 by_cases h:z<0
 ·rw[bX h,MW];omega
 ·rw[bM h,aAd];omega
theorem dR.r(h:dR w S v z):jx w S v z:=by
 obtain⟨ls,L,G,N⟩:=h;exact⟨_,ls,L,by rw[N,DE]⟩
section
variable{S S':Nat->Prop}{H:Hp}{nx:Nat}{iv K:Iv}{B:Nat}{w J V:World}{O:Nat->Sx.dq}{v:Value}{z:Int}{neg:Bool}{ls:List Nat}
theorem vA.cK(h:vA w S v neg ls)(D:∀g,S g->V.heap[g]? =w.heap[g]?):vA V S v neg ls:=by
 obtain⟨lv,L,G⟩:=h;exact⟨lv,L,G.cK D⟩
theorem vA.cN(h:vA w S v neg ls)(D:∀g,S g->S' g):vA w S' v neg ls:=by
 obtain⟨lv,L,G⟩:=h;exact⟨lv,L,G.cN D⟩
theorem jx.cK(h:jx w S v z)(D:∀g,S g->V.heap[g]? =w.heap[g]?):jx V S v z:=by
 obtain⟨n,l,L,G⟩:=h;exact⟨n,l,L.cK D,G⟩
theorem jx.cN(h:jx w S v z)(D:∀g,S g->S' g):jx w S' v z:=by
 obtain⟨n,l,L,G⟩:=h;exact⟨n,l,L.cN D,G⟩
theorem dR.cK(h:dR w S v z)(D:∀g,S g->V.heap[g]? =w.heap[g]?):dR V S v z:=by
 obtain⟨l,L,G⟩:=h;exact⟨l,L.cK D,G⟩
theorem dR.cN(h:dR w S v z)(D:∀g,S g->S' g):dR w S' v z:=by
 obtain⟨l,L,G⟩:=h;exact⟨l,L.cN D,G⟩
theorem jx.rel(h:jx w (Cv S B iv) v z)(r:Rel H nx iv B w O J)(X:∀g,S g->g<B):jx J (Cv S B iv) v z:=h.cK fun _ Y=>Rel.same r X Y
theorem dR.rel(h:dR w (Cv S B iv) v z)(r:Rel H nx iv B w O J)(X:∀g,S g->g<B):dR J (Cv S B iv) v z:=h.cK fun _ Y=>Rel.same r X Y
theorem jx.cM(h:jx w (Cv S B iv) v z)(r:Rel H nx iv B w O J)(X:∀g,S g->g<B)(U:Ext J V)(hm:∀p,p∈iv->p∈K):jx V (Cv S B K) v z:=
 ((h.rel r X).cK fun g Y=>U.block g (Rel.old r X g Y)).cN fun _ Y=>Y.mono hm
theorem dR.cM(h:dR w (Cv S B iv) v z)(r:Rel H nx iv B w O J)(X:∀g,S g->g<B)(U:Ext J V)(hm:∀p,p∈iv->p∈K):dR V (Cv S B K) v z:=
 ((h.rel r X).cK fun g Y=>U.block g (Rel.old r X g Y)).cN fun _ Y=>Y.mono hm
theorem dR.dK(h:dR V (Nf J V) v z)(hB:B<=J.heap.size)(hm:(J.heap.size,V.heap.size)∈iv):dR V (Cv S B iv) v z:=h.cN fun _ Y=>Y.dK hB hm
theorem jx.shape(h:jx w S v z):∃b a n c,v= .agg #[.bool b,.slice a n c]:=by
 obtain⟨b,l,⟨lv,L,G⟩,_⟩:=h;obtain⟨a,n,c,rfl⟩:=G.shape;exact⟨b,a,n,c,L⟩
theorem e9.old(h:e9 V (Nw (Cv S B iv) J V) v z)(hB:B<=J.heap.size):e9 V (Cv S B ((J.heap.size,V.heap.size)::iv)) v z:=h.cN fun _ Y=>Nw.cv Y hB
end
theorem dR.out(h:dR w1 (Cv S w.heap.size iv) v z)(r:Rel H nx iv w.heap.size w1 O J)(X:Old S w):dR J (Nw S w J) v z:=
 (h.rel r X).cN fun _ Y=>Cv.nw Y r
theorem M4(X:Old S w)(h:jx w S v z):eI PG F'.AU #[v] w (eO w fun v' V=>e9 V (Nw S w V) v' z):=by
 obtain⟨n,l,L,rfl⟩:=h;exact aB1 X L
theorem e9.shape(h:e9 w S v z):∃b a n c,v= .agg #[.bool b,.slice a n c]:=by
 obtain⟨a,n,c,L,_⟩:=h.num;exact⟨_,a,n,c,L⟩
theorem dR.shape(h:dR w S v z):∃b a n c,v= .agg #[.bool b,.slice a n c]:=h.r.shape
theorem dH(x y:Int):ln (x*y).natAbs<=ln x.natAbs+ln y.natAbs:=by
 rw[Int.natAbs_mul];exact aAS _ _
end Go.Ex
namespace Go.Ex
open Go Go.Sx
theorem zh{x y:Int}(hy:0<y)(F:x≠0):
  (Rat.divInt x y).num.natAbs=x.natAbs / Nat.gcd x.natAbs y.natAbs/\(Rat.divInt x y).den=y.natAbs / Nat.gcd x.natAbs y.natAbs/\decide ((Rat.divInt x y).num<0)=decide (x<0):=by
 have Y:0<Nat.gcd x.natAbs y.natAbs:=bw _ (by omega);have hs:y.sign=1:=bq hy;have hc:(y.gcd x:Int)=(Nat.gcd x.natAbs y.natAbs:Nat):=by rw[Int.gcd_comm];rfl
 have hdx:((Nat.gcd x.natAbs y.natAbs:Nat):Int) ∣ x:=by
  rw[<-Int.natAbs_dvd_natAbs];exact Nat.gcd_dvd_left _ _
 have L:(Rat.divInt x y).num=x / ((Nat.gcd x.natAbs y.natAbs:Nat):Int):=by
  rw[Rat.num_divInt,hs,Int.one_mul,hc]
 have hgi:0<((Nat.gcd x.natAbs y.natAbs:Nat):Int):=by omega
 refine⟨?_,?_,?_⟩
 ·rw[L,Int.natAbs_ediv_of_dvd hdx];rfl
 ·rw[Rat.den_divInt,aH (by omega)];have:y.gcd x=Nat.gcd x.natAbs y.natAbs:=by rw[Int.gcd_comm];rfl
  rw[this]
 ·rw[L];obtain⟨k,D⟩:=hdx;refine decide_eq_decide.2 ?_;have:x / ((Nat.gcd x.natAbs y.natAbs:Nat):Int)=k:=by
   conv=>lhs;lhs;rw[D]
   exact Int.mul_ediv_cancel_left _ (by omega)
  rw[this];generalize ((Nat.gcd x.natAbs y.natAbs:Nat):Int)=g at*
  subst D;constructor
  ·intro h;exact Int.mul_neg_of_pos_of_neg hgi h
  ·intro h;have h0:¬0<=k:=fun hh=>by have:=Int.mul_nonneg (show 0<=g by omega) hh;omega
   omega
theorem Jm{a b:Nat}:ln (a / b)<=ln a:=fY (Nat.div_le_self a b)
theorem zi(y:Int):Rat.divInt 0 y=0:=Rat.zero_divInt y
end Go.Ex
namespace Go.Ex
open Go Go.Sx Go.Proofs
variable{b b2:Bool}{S:Nat->Prop}{q:Rat}{dv nv v:Value}{w:World}
theorem eE.old{B:Nat}{iv:Iv}{J V:World}{n:Nat}(h:eE V (Nw (Cv S B iv) J V) v n)(hB:B<=J.heap.size):eE V (Cv S B ((J.heap.size,V.heap.size)::iv)) v n:=h.cN fun _ Y=>Nw.cv Y hB
def cd(w:World)(S:Nat->Prop)(v:Value)(q:Rat):Prop:=∃nv dv,v= .agg #[.bool (decide (q.num<0)),nv,.bool false,dv]/\eE w S nv q.num.natAbs/\eE w S dv q.den
theorem cd.cK{V:World}(h:cd w S v q)(D:∀g,S g->V.heap[g]? =w.heap[g]?):cd V S v q:=by
 obtain⟨n,d,L,G,N⟩:=h;exact⟨n,d,L,G.cK D,N.cK D⟩
theorem cd.cN{S':Nat->Prop}(h:cd w S v q)(D:∀g,S g->S' g):cd w S' v q:=by
 obtain⟨n,d,L,G,N⟩:=h;exact⟨n,d,L,G.cN D,N.cN D⟩
theorem cd.shape(h:cd w S v q):∃b a n c b2 a2 n2 c2,v= .agg #[.bool b,.slice a n c,.bool b2,.slice a2 n2 c2]:=by
 obtain⟨n,d,L,G,N⟩:=h;obtain⟨a,n,c,rfl⟩:=G.shape;obtain⟨a2,n2,c2,rfl⟩:=N.shape;exact⟨_,a,n,c,_,a2,n2,c2,L⟩
theorem cd.num(h:cd w S (.agg #[.bool b,nv,.bool b2,dv]) q):e9 w S (.agg #[.bool b,nv]) q.num:=by
 obtain⟨n,d,L,G,N⟩:=h;simp at L;obtain⟨rfl,rfl,rfl,rfl⟩:=L;exact⟨_,rfl,G⟩
theorem cd.den(h:cd w S (.agg #[.bool b,nv,.bool b2,dv]) q):e9 w S (.agg #[.bool b2,dv]) (q.den:Int):=by
 obtain⟨n,d,L,G,N⟩:=h;simp at L;obtain⟨rfl,rfl,rfl,rfl⟩:=L;exact⟨_,by rw[bM (by omega)],N⟩
theorem cd.of(h:e9 w S (.agg #[.bool b,nv]) q.num)(k:e9 w S (.agg #[.bool b2,dv]) (q.den:Int)):cd w S (.agg #[.bool b,nv,.bool b2,dv]) q:=by
 obtain⟨n,L,G⟩:=h;obtain⟨d,N,h4⟩:=k;simp at L N;obtain⟨rfl,rfl⟩:=L;obtain⟨rfl,rfl⟩:=N;refine⟨_,_,?_,G,h4⟩;rw[bM (show ¬((q.den:Int)<0) by omega)]
section
variable{S S':Nat->Prop}{H:Hp}{nx:Nat}{iv K:Iv}{B:Nat}{w J V:World}{O:Nat->Sx.dq}{v:Value}{q:Rat}
theorem cd.rel(h:cd w (Cv S B iv) v q)(r:Rel H nx iv B w O J)(X:∀g,S g->g<B):cd J (Cv S B iv) v q:=h.cK fun _ Y=>Rel.same r X Y
theorem cd.cM(h:cd w (Cv S B iv) v q)(r:Rel H nx iv B w O J)(X:∀g,S g->g<B)(U:Ext J V)(hm:∀p,p∈iv->p∈K):cd V (Cv S B K) v q:=
 ((h.rel r X).cK fun g Y=>U.block g (Rel.old r X g Y)).cN fun _ Y=>Y.mono hm
theorem cd.dK(h:cd V (Nf J V) v q)(hB:B<=J.heap.size)(hm:(J.heap.size,V.heap.size)∈iv):cd V (Cv S B iv) v q:=h.cN fun _ Y=>Y.dK hB hm
theorem cd.old(h:cd V (Nw (Cv S B iv) J V) v q)(hB:B<=J.heap.size):cd V (Cv S B ((J.heap.size,V.heap.size)::iv)) v q:=h.cN fun _ Y=>Nw.cv Y hB
theorem cd.out{w0 w1:World}(h:cd w1 (Cv S w0.heap.size iv) v q)(r:Rel H nx iv w0.heap.size w1 O J)(X:Old S w0):cd J (Nw S w0 J) v q:=
 (h.rel r X).cN fun _ Y=>Cv.nw Y r
theorem cd.arg(h:cd w S v q)(iv:Iv):cd w (Cv S w.heap.size iv) v q:=h.cN fun _ h=>.inl h
end
theorem e9.nat{z:Int}(h:e9 w S (.agg #[.bool b,nv]) z):b=decide (z<0)/\eE w S nv z.natAbs:=by
 obtain⟨n,L,G⟩:=h;simp at L;obtain⟨rfl,rfl⟩:=L;exact⟨rfl,G⟩
theorem BJ{u:Value}{x y:Int}(X:Old S w)(F:e9 w S v x)(hy:e9 w S u y)(QQ:y≠0)(PU:ln x.natAbs<=100000000000)(Qu:ln y.natAbs<=100000000000):
  eI PG F'.AR #[v,u] w (eO w fun v' V=>cd V (Nf w V) v' (Rat.divInt x y)):=by
 have I:=bR w;replace F:=F.cN (S':=Cv S w.heap.size []) fun _ h=>.inl h;replace hy:=hy.cN (S':=Cv S w.heap.size []) fun _ h=>.inl h;obtain⟨bx,ax,lx,cx,rfl⟩:=F.shape;obtain⟨b2,ay,ly,cy,rfl⟩:=hy.shape;have Q5:=hy.nat.1;refine Bf (by simp) ?_
 cases b2
 ·have hyp:0<y:=by have:=aG Q5.symm;omega
  have hq:Rat.divInt x y=Rat.divInt x y:=rfl;have hbA:=F.nat.1;refine cJ (cE I (fun _ J v V=>v= .int .i64 (x).sign) (fun O J r=>BC (F.rel r X)) ?_);rintro O Q6 v1 QT Oo r U I h_ rfl;replace F:=F.cM r X U (mC h_);replace hy:=hy.cM r X U (mC h_);refine dQ.mk ?_ ?_<;>intro h
  ·have h:x=0:=bo.1 (eq_of_beq h);refine cJ (cE I (fun _ J v V=>e9 V (Nf J V) v 1) (fun O J r=>vD 1 J (by decide) (by decide)) ?_);rintro O Q7 v2 Pt Od r U I h_ R;have hO:=R.dK (S:=FF) r.cI (mN h_);obtain⟨A0,A1,A2,A3,rfl⟩:=hO.shape;have e0:Rat.divInt x y=0:=by rw[hq,h,zi]
   exact rtn I fun IR we re=>by rw[e0];exact cd.of ⟨_,rfl,eE.nil _ _⟩ (hO.out re (cH w))
  ·have h:x≠0:=fun e=>by rw[e]at h;exact absurd h (by decide)
   obtain⟨g1,g2,g3⟩:=zh hyp h;have Th:0<Nat.gcd (x).natAbs (y).natAbs:=bw _ (by omega);have Ww:=F.nat.2;have TE:=hy.nat.2;refine cJ (cO (If:=fun _ J v V=>eE V (Nw (Cv S w.heap.size Oo) J V) v (Nat.gcd (x).natAbs (y).natAbs)) (fun O J r=>GP (Rel.old r X) (Ww.rel r X) (TE.rel r X) (by omega) (by omega)) ?_);rintro O Q7 v2 Pt r U hb R;replace I:=I.tr hb;replace Ww:=Ww.cM (K:=(Q7.heap.size,Pt.heap.size)::Oo) r X U fun x F=>aB _ F;replace TE:=TE.cM (K:=(Q7.heap.size,Pt.heap.size)::Oo) r X U fun x F=>aB _ F;have hG:=R.old r.cI;generalize (Q7.heap.size,Pt.heap.size)::Oo=Od at*
   obtain⟨A0,A1,A2,rfl⟩:=hG.shape;refine cJ (cO (If:=fun _ J v V=>∃q r,v= .tuple #[q,r]/\eE V (Nf J V) q ((x).natAbs / Nat.gcd (x).natAbs (y).natAbs)/\eE V (Nw (Cv S w.heap.size Od) J V) r ((x).natAbs % Nat.gcd (x).natAbs (y).natAbs)) (fun O J r=>qk (Rel.old r X) (Ww.rel r X) (hG.rel r X) Th (by omega)) ?_);rintro O QF v3 Pw r U hb ⟨qvp,rvp,rfl,Rr,SU⟩;replace I:=I.tr hb;replace TE:=TE.cM (K:=(QF.heap.size,Pw.heap.size)::Od) r X U fun x F=>aB _ F;replace hG:=hG.cM (K:=(QF.heap.size,Pw.heap.size)::Od) r X U fun x F=>aB _ F;have hP:=Rr.dK (S:=FF) r.cI (iv:=(QF.heap.size,Pw.heap.size)::Od) aF;have hPr:=SU.old r.cI;generalize (QF.heap.size,Pw.heap.size)::Od=Oq at*
   obtain⟨s3_0a,s3_0b,s3_0c,rfl⟩:=hP.shape;obtain⟨s3_1a,s3_1b,s3_1c,rfl⟩:=hPr.shape;refine cJ (cO (If:=fun _ J v V=>∃q r,v= .tuple #[q,r]/\eE V (Nf J V) q ((y).natAbs / Nat.gcd (x).natAbs (y).natAbs)/\eE V (Nw (Cv S w.heap.size Oq) J V) r ((y).natAbs % Nat.gcd (x).natAbs (y).natAbs)) (fun O J r=>qk (Rel.old r X) (TE.rel r X) (hG.rel r X) Th (by omega)) ?_);rintro O RG v4 QX r U hb ⟨qvq,rvq,rfl,Rr,SU⟩;replace I:=I.tr hb;replace hP:=hP.cM (K:=(RG.heap.size,QX.heap.size)::Oq) r (cH w) U fun x F=>aB _ F;have hQ:=Rr.dK (S:=FF) r.cI (iv:=(RG.heap.size,QX.heap.size)::Oq) aF;have hQr:=SU.old r.cI;generalize (RG.heap.size,QX.heap.size)::Oq=Ox at*
   obtain⟨s4_0a,s4_0b,s4_0c,rfl⟩:=hQ.shape;obtain⟨s4_1a,s4_1b,s4_1c,rfl⟩:=hQr.shape;exact rtn I fun IR we re=>by rw[hq];exact cd.of ⟨_,by rw[g3,<-hbA],by rw[g1];exact hP.out re (cH w)⟩ ⟨_,by rw[bM (by omega)],by rw[g2];exact hQ.out re (cH w)⟩
 ·have hyp:0< -y:=by have:=aK Q5.symm;omega
  have hq:Rat.divInt x y=Rat.divInt (-x) (-y):=(Rat.neg_divInt_neg _ _).symm;have nx:=cG x;have ny:=cG y;have hlx2:ln (-x).natAbs<=100000000000:=by rw[nx];exact PU
  have hly2:ln (-y).natAbs<=100000000000:=by rw[ny];exact Qu
  refine cR hτ dx [.x 0,.x 2,.x 1,.x 3,.x 4,.x 5] (by kernel_rfl) (by kernel_rfl) ?_;refine cO (If:=fun _ J v V=>e9 V (Nw (Cv S w.heap.size []) J V) v (-x)) (fun O J r=>pE (Rel.old r X) (F.rel r X)) ?_;rintro O Q6 v1 QT r U hb R;replace I:=I.tr hb;replace hy:=hy.cM (K:=(Q6.heap.size,QT.heap.size)::[]) r X U fun x F=>aB _ F;have hA:=R.old r.cI;generalize (Q6.heap.size,QT.heap.size)::[]=Oo at*
  obtain⟨C0,C1,C2,C3,rfl⟩:=hA.shape;refine cO (If:=fun _ J v V=>e9 V (Nw (Cv S w.heap.size Oo) J V) v (-y)) (fun O J r=>pE (Rel.old r X) (hy.rel r X)) ?_;rintro O Q7 v2 Pt r U hb R;replace I:=I.tr hb;replace hA:=hA.cM (K:=(Q7.heap.size,Pt.heap.size)::Oo) r X U fun x F=>aB _ F;have hB:=R.old r.cI;generalize (Q7.heap.size,Pt.heap.size)::Oo=Od at*
  obtain⟨A0,A1,A2,A3,rfl⟩:=hB.shape;have hbA:=hA.nat.1;refine cJ (cE I (fun _ J v V=>v= .int .i64 (-x).sign) (fun O J r=>BC (hA.rel r X)) ?_);rintro O _ _ _ Oq r U I h_ rfl;replace hA:=hA.cM r X U (mC h_);replace hB:=hB.cM r X U (mC h_);refine dQ.mk ?_ ?_<;>intro h
  ·have h: -x=0:=bo.1 (eq_of_beq h);refine cJ (cE I (fun _ J v V=>e9 V (Nf J V) v 1) (fun O J r=>vD 1 J (by decide) (by decide)) ?_);rintro O RG v4 QX Ox r U I h_ R;have hO:=R.dK (S:=FF) r.cI (mN h_);obtain⟨E0,E1,E2,E3,rfl⟩:=hO.shape;have e0:Rat.divInt x y=0:=by rw[hq,h,zi]
   exact rtn I fun IR we re=>by rw[e0];exact cd.of ⟨_,rfl,eE.nil _ _⟩ (hO.out re (cH w))
  ·have h: -x≠0:=fun e=>by rw[e]at h;exact absurd h (by decide)
   obtain⟨g1,g2,g3⟩:=zh hyp h;have Th:0<Nat.gcd (-x).natAbs (-y).natAbs:=bw _ (by omega);have Ww:=hA.nat.2;have TE:=hB.nat.2;refine cJ (cO (If:=fun _ J v V=>eE V (Nw (Cv S w.heap.size Oq) J V) v (Nat.gcd (-x).natAbs (-y).natAbs)) (fun O J r=>GP (Rel.old r X) (Ww.rel r X) (TE.rel r X) (by omega) (by omega)) ?_);rintro O RG v4 QX r U hb R;replace I:=I.tr hb;replace Ww:=Ww.cM (K:=(RG.heap.size,QX.heap.size)::Oq) r X U fun x F=>aB _ F;replace TE:=TE.cM (K:=(RG.heap.size,QX.heap.size)::Oq) r X U fun x F=>aB _ F;have hG:=R.old r.cI;generalize (RG.heap.size,QX.heap.size)::Oq=Ox at*
   obtain⟨E0,E1,E2,rfl⟩:=hG.shape;refine cJ (cO (If:=fun _ J v V=>∃q r,v= .tuple #[q,r]/\eE V (Nf J V) q ((-x).natAbs / Nat.gcd (-x).natAbs (-y).natAbs)/\eE V (Nw (Cv S w.heap.size Ox) J V) r ((-x).natAbs % Nat.gcd (-x).natAbs (-y).natAbs)) (fun O J r=>qk (Rel.old r X) (Ww.rel r X) (hG.rel r X) Th (by omega)) ?_);rintro O Rt v5 Rv r U hb ⟨qvp,rvp,rfl,Rr,SU⟩;replace I:=I.tr hb;replace TE:=TE.cM (K:=(Rt.heap.size,Rv.heap.size)::Ox) r X U fun x F=>aB _ F;replace hG:=hG.cM (K:=(Rt.heap.size,Rv.heap.size)::Ox) r X U fun x F=>aB _ F;have hP:=Rr.dK (S:=FF) r.cI (iv:=(Rt.heap.size,Rv.heap.size)::Ox) aF;have hPr:=SU.old r.cI;generalize (Rt.heap.size,Rv.heap.size)::Ox=PX at*
   obtain⟨s5_0a,s5_0b,s5_0c,rfl⟩:=hP.shape;obtain⟨s5_1a,s5_1b,s5_1c,rfl⟩:=hPr.shape;refine cJ (cO (If:=fun _ J v V=>∃q r,v= .tuple #[q,r]/\eE V (Nf J V) q ((-y).natAbs / Nat.gcd (-x).natAbs (-y).natAbs)/\eE V (Nw (Cv S w.heap.size PX) J V) r ((-y).natAbs % Nat.gcd (-x).natAbs (-y).natAbs)) (fun O J r=>qk (Rel.old r X) (TE.rel r X) (hG.rel r X) Th (by omega)) ?_);rintro O Ro v6 Rq r U hb ⟨qvq,rvq,rfl,Rr,SU⟩;replace I:=I.tr hb;replace hP:=hP.cM (K:=(Ro.heap.size,Rq.heap.size)::PX) r (cH w) U fun x F=>aB _ F;have hQ:=Rr.dK (S:=FF) r.cI (iv:=(Ro.heap.size,Rq.heap.size)::PX) aF;have hQr:=SU.old r.cI;generalize (Ro.heap.size,Rq.heap.size)::PX=Q8 at*
   obtain⟨s6_0a,s6_0b,s6_0c,rfl⟩:=hQ.shape;obtain⟨s6_1a,s6_1b,s6_1c,rfl⟩:=hQr.shape;exact rtn I fun IR we re=>by rw[hq];exact cd.of ⟨_,by rw[g3,<-hbA],by rw[g1];exact hP.out re (cH w)⟩ ⟨_,by rw[bM (by omega)],by rw[g2];exact hQ.out re (cH w)⟩
end Go.Ex
namespace Go.Ex
open Go Go.Sx
variable{a b:Int}
def rl(q:Rat):Nat:=max (ln q.num.natAbs) (ln q.den)
theorem gG(q:Rat):ln q.num.natAbs<=rl q:=Nat.le_max_left _ _
theorem aAZ(q:Rat):ln q.den<=rl q:=Nat.le_max_right _ _
theorem fR(q:Rat):ln ((q.den:Int)).natAbs<=rl q:=Nat.le_max_right _ _
theorem lN(hb:b≠0):rl (Rat.divInt a b)<=max (ln a.natAbs) (ln b.natAbs):=by
 have L:ln (Rat.divInt a b).num.natAbs<=ln a.natAbs:=by
  rw[Rat.num_divInt];refine fY (aW (Int.natAbs_ediv_le_natAbs _ _) ?_);rw[Int.natAbs_mul,Int.natAbs_sign_of_ne_zero hb,Nat.one_mul];exact Nat.le_refl _
 have G:ln (Rat.divInt a b).den<=ln b.natAbs:=by
  rw[Rat.den_divInt,aH hb];exact Jm
 unfold rl;omega
theorem jM(x y:Int):ln (x+y).natAbs<=max (ln x.natAbs) (ln y.natAbs)+1:=by
 have L:=aAR x.natAbs y.natAbs;have G:=fY (show (x+y).natAbs<=x.natAbs+y.natAbs by omega);omega
theorem ga(q:Rat):(q.den:Int)≠0:=by have:=q.den_pos;omega
theorem uH(f g:Rat):f+g=Rat.divInt (f.num*g.den+g.num*f.den) (f.den*g.den):=by
 rw[<-Rat.divInt_add_divInt _ _ (ga f) (ga g),Rat.num_divInt_den,Rat.num_divInt_den]
theorem yl(f g:Rat):f*g=Rat.divInt (f.num*g.num) (f.den*g.den):=by
 rw[<-Rat.divInt_mul_divInt,Rat.num_divInt_den,Rat.num_divInt_den]
theorem I9(f g:Rat):f / g=Rat.divInt (f.num*g.den) (f.den*g.num):=by
 rw[<-Rat.divInt_mul_divInt,Rat.num_divInt_den,<-Rat.inv_def,<-bp]
theorem kl(ha:a≠0)(hb:b≠0):a*b≠0:=Int.mul_ne_zero ha hb
theorem oh(f g:Rat):rl (f+g)<=rl f+rl g+1:=by
 have h:=lN (a:=f.num*g.den+g.num*f.den) (kl (ga f) (ga g));rw[<-uH]at h;have L:=jM (f.num*g.den) (g.num*f.den);have G:=dH f.num g.den;have N:=dH g.num f.den;have h4:=dH f.den g.den;have:=gG f;have:=gG g;have:=fR f;have:=fR g;omega
theorem iA(f g:Rat):rl (f*g)<=rl f+rl g:=by
 have h:=lN (a:=f.num*g.num) (kl (ga f) (ga g));rw[<-yl]at h;have G:=dH f.num g.num;have h4:=dH f.den g.den;have:=gG f;have:=gG g;have:=fR f;have:=fR g;omega
theorem Lk(f:Rat){g:Rat}(Y:g≠0):rl (f / g)<=rl f+rl g:=by
 have h:=lN (a:=f.num*g.den) (kl (ga f) (fun e=>Y (Rat.num_eq_zero.1 e)));rw[<-I9]at h;have G:=dH f.num g.den;have h4:=dH f.den g.num;have:=gG f;have:=gG g;have:=fR f;have:=fR g;omega
theorem lh(f:Rat):rl (-f)=rl f:=by unfold rl;rw[Rat.neg_num,Rat.neg_den,cG]
theorem AD(f g:Rat):rl (f-g)<=rl f+rl g+1:=by
 rw[Rat.sub_eq_add_neg];have:=oh f (-g);rw[lh]at this;exact this
def rs(q:Rat):Int:=q.num.sign
theorem uI(hb:0<b):(Rat.divInt a b).num.sign=a.sign:=by
 by_cases ha:a=0
 ·subst ha;rw[zi];rfl
 ·obtain⟨L,-,N⟩:=zh hb ha;have N:=decide_eq_decide.1 N;have h0:(Rat.divInt a b).num≠0:=fun e=>by
   have h4:=Nat.div_pos (Nat.le_of_dvd (by omega) (Nat.gcd_dvd_left a.natAbs b.natAbs)) (bw a.natAbs (n:=b.natAbs) (by omega));omega
  rcases Int.lt_or_gt_of_ne ha with h|h
  ·rw[bh h,bh (N.2 h)]
  ·rw[bq h,bq (by omega)]
theorem Nh(f g:Rat):(f.num*g.den-g.num*f.den).sign=rs (f-g):=by
 rw[rs,Rat.sub_eq_add_neg,uH,uI (Int.mul_pos (by have:=f.den_pos;omega) (by rw[Rat.neg_den];have:=g.den_pos;omega)),Rat.neg_num,Rat.neg_den,Int.neg_mul,<-Int.sub_eq_add_neg]
def ratio(a b:Int):Rat:=if b=0 then Rat.divInt a 1 else Rat.divInt a b
theorem il(a b:Int):rl (ratio a b)<=max (ln a.natAbs) (max 1 (ln b.natAbs)):=by
 unfold ratio;split
 ·have:=lN (a:=a) (b:=1) (by decide);have L:ln (1:Int).natAbs=1:=by decide
  rw[L]at this;omega
 ·rename_i h;have:=lN (a:=a) h;omega
end Go.Ex
