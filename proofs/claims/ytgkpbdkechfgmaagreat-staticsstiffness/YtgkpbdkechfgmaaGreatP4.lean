/- Texts X10 to L5: lemmas, each with its conditions. -/
import Derived.Test.YtgkpbdkechfgmaaGreatP3
namespace Go.Ex
open Go Go.Sx Go.Proofs
variable{k n x:Nat}
def iO(n:Nat):Nat:=if n=0 then 0 else n.log2+1
theorem aAW(h:2^k<=x):x.log2=(x / 2^k).log2+k:=by
 have hp:=cK k;have hy:x / 2^k≠0:=by have:=Nat.div_pos h hp;omega
 have I:=Nat.log2_self_le hy;have G:=@Nat.lt_log2_self (x / 2^k);rw[Nat.log2_eq_iff be];refine⟨?_,?_⟩
 .rw[Nat.pow_add];exact(Nat.le_div_iff_mul_le hp).1 I
 .rw[show (x / 2^k).log2+k+1=(x / 2^k).log2+1+k by omega,Nat.pow_add];exact(Nat.div_lt_iff_lt_mul hp).1 G
theorem DM(h:2^k<=x):iO x=k+iO (x / 2^k):=by
 have hp:=cK k;have hy:x / 2^k≠0:=by have:=Nat.div_pos h hp;omega
 rw[iO,iO,aJ hy,aJ be,aAW h];omega
theorem BJ(h:n<256):IntKind.u8.wrap (n:Int)=(n:Int):=by
 show((n:Int) % 256)=_;omega
theorem BK(h:n<256):(UInt8.ofNat (iO n)).toNat=iO n:=by
 have:∀n,n<256->(UInt8.ofNat (iO n)).toNat=iO n:=by decide +kernel
 exact this n h
theorem qS(h:x<256):iO x<=8:=by
 have:∀n,n<256->iO n<=8:=by decide +kernel
 exact this x h
theorem Lp(n:Nat)(h:n<256):(⟨#[0,1,2,2,3,3,3,3,4,4,4,4,4,4,4,4,5,5,5,5,5,5,5,5,5,5,5,5,5,5,5,5,6,6,6,6,6,6,6,6,6,6,6,6,6,6,6,6,6,6,6,6,6,6,6,6,6,6,6,6,6,6,6,6,7,7,7,7,7,7,7,7,7,7,7,7,7,7,7,7,7,7,7,7,7,7,7,7,7,7,7,7,7,7,7,7,7,7,7,7,7,7,7,7,7,7,7,7,7,7,7,7,7,7,7,7,7,7,7,7,7,7,7,7,7,7,7,7,8,8,8,8,8,8,8,8,8,8,8,8,8,8,8,8,8,8,8,8,8,8,8,8,8,8,8,8,8,8,8,8,8,8,8,8,8,8,8,8,8,8,8,8,8,8,8,8,8,8,8,8,8,8,8,8,8,8,8,8,8,8,8,8,8,8,8,8,8,8,8,8,8,8,8,8,8,8,8,8,8,8,8,8,8,8,8,8,8,8,8,8,8,8,8,8,8,8,8,8,8,8,8,8,8,8,8,8,8,8,8,8,8,8,8,8,8,8,8,8,8,8,8,8,8,8,8,8]⟩:ByteArray)[((n:Nat):Int).toNat]? =some (UInt8.ofNat (iO n)):=by
 have:∀n,n<256->(⟨#[0,1,2,2,3,3,3,3,4,4,4,4,4,4,4,4,5,5,5,5,5,5,5,5,5,5,5,5,5,5,5,5,6,6,6,6,6,6,6,6,6,6,6,6,6,6,6,6,6,6,6,6,6,6,6,6,6,6,6,6,6,6,6,6,7,7,7,7,7,7,7,7,7,7,7,7,7,7,7,7,7,7,7,7,7,7,7,7,7,7,7,7,7,7,7,7,7,7,7,7,7,7,7,7,7,7,7,7,7,7,7,7,7,7,7,7,7,7,7,7,7,7,7,7,7,7,7,7,8,8,8,8,8,8,8,8,8,8,8,8,8,8,8,8,8,8,8,8,8,8,8,8,8,8,8,8,8,8,8,8,8,8,8,8,8,8,8,8,8,8,8,8,8,8,8,8,8,8,8,8,8,8,8,8,8,8,8,8,8,8,8,8,8,8,8,8,8,8,8,8,8,8,8,8,8,8,8,8,8,8,8,8,8,8,8,8,8,8,8,8,8,8,8,8,8,8,8,8,8,8,8,8,8,8,8,8,8,8,8,8,8,8,8,8,8,8,8,8,8,8,8,8,8,8,8,8]⟩:ByteArray)[n]? =some (UInt8.ofNat (iO n)):=by decide +kernel
 exact this n h
theorem aBr(x:Nat)(w:World)(U:x<4294967296):eH PG GT.Cm #[.int .u32 x] w (eR w fun v _=>v=iV (iO x)):=by
 refine Dz bv ?_;apply bS<;>intro h
 .have h:65536<=x:=by have:=aK h;omega
  refine⟨bi,((x / 2^16:Nat):Int),qT 16 bi,?_⟩;have hb:=DM (k:=16) h;have hy:x / 2^16<65536:=by omega
  rw[hb];generalize x / 2^16=y at*
  apply bS<;>intro G
  .have G:256<=y:=by have:=aK G;omega
   refine⟨bi,((y / 2^8:Nat):Int),qT 8 bi,?_⟩;have RW:=DM (k:=8) G;have hz:y / 2^8<256:=by omega
   rw[RW];generalize y / 2^8=z at*
   refine⟨24,bi,(z:Int),BJ hz,?_⟩;refine tL (b:=UInt8.ofNat (iO z)) ((hτ _ _ rfl).i3 rfl) rfl rfl be (Lp z hz) (fun In w1 r1=>?_);rw[BK hz];have ht:=qS hz;refine⟨(iO z:Int),wo,((24+iO z:Nat):Int),wo,?_⟩;intro I' w3 R;exact⟨_,rfl,r1.cZ.tr R.cZ,by rw[<-Nat.add_assoc];rfl⟩
  .have hy:y<256:=by have:=aG G;omega
   refine⟨(y:Int),BJ hy,?_⟩;refine tL (b:=UInt8.ofNat (iO y)) ((hτ _ _ rfl).i3 rfl) rfl rfl be (Lp y hy) (fun In w1 r1=>?_);rw[BK hy];have ht:=qS hy;refine⟨(iO y:Int),wo,((16+iO y:Nat):Int),wo,?_⟩;intro I' w3 R;exact⟨_,rfl,r1.cZ.tr R.cZ,cs⟩
 .have h:x<65536:=by have:=aG h;omega
  apply bS<;>intro G
  .have G:256<=x:=by have:=aK G;omega
   refine⟨bi,((x / 2^8:Nat):Int),qT 8 bi,?_⟩;have RW:=DM (k:=8) G;have hz:x / 2^8<256:=by omega
   rw[RW];generalize x / 2^8=z at*
   refine⟨8,bi,(z:Int),BJ hz,?_⟩;refine tL (b:=UInt8.ofNat (iO z)) ((hτ _ _ rfl).i3 rfl) rfl rfl be (Lp z hz) (fun In w1 r1=>?_);rw[BK hz];have ht:=qS hz;refine⟨(iO z:Int),wo,((8+iO z:Nat):Int),wo,?_⟩;intro I' w3 R;exact⟨_,rfl,r1.cZ.tr R.cZ,cs⟩
  .have U:x<256:=by have:=aG G;omega
   refine⟨(x:Int),BJ U,?_⟩;refine tL (b:=UInt8.ofNat (iO x)) ((hτ _ _ rfl).i3 rfl) rfl rfl be (Lp x U) (fun In w1 r1=>?_);rw[BK U];have ht:=qS U;refine⟨(iO x:Int),wo,((0+iO x:Nat):Int),wo,?_⟩;intro I' w3 R;exact⟨_,rfl,r1.cZ.tr R.cZ,by rw[aW];rfl⟩
theorem BA:iO x<=k↔x<2^k:=by
 unfold iO;by_cases h:x=0
 .rw[aM h,h];exact⟨fun _=>cK k,fun _=>aR _⟩
 .rw[aJ h];constructor
  .intro I;exact(Nat.log2_lt h).1 be
  .intro I;have:=(Nat.log2_lt h).2 I;omega
theorem aDA(x:Nat)(w:World)(U:x<4294967296):eH PG GT.mH #[.int .u32 x] w (eR w fun v _=>v=iV ((32-iO x:Nat):Int)):=by
 refine qR bv ?_;refine cQ (cU (J9:=fun _ _ v _=>v=iV (iO x)) (fun O J r=>aBr x J U) ?_);rintro O J v Y r L hb rfl;have h32:iO x<=32:=BA.2 U;refine⟨((32-iO x:Nat):Int),wo,?_⟩;intro I' w3 R;exact⟨_,rfl,hb.tr R.cZ,rfl⟩
end Go.Ex
namespace Go.Sx
open Go Go.Ex Go.Proofs
variable{ls:List Nat}{O:Nat->Sx.eG}
theorem Rel.aAX{H:Hp}{nx:Nat}{iv:Iv}{B:Nat}{w J:World}(r:Rel H nx iv B w O J){id t m:Nat}(h:dU H id=some (.vec t 1 (EQ ls)))(hm:m=ls.length)(QO:Lm ls)(hle:ls.length<=9223372036854775807):
  dc J (fun g=>B<=g/\g<J.heap.size) ((At.w id m).den O) ls:=by
 subst hm;rcases r.vec id t 1 _ h with⟨W,hu⟩|⟨W,spare,hb,hc,Qt⟩
 .have hl:ls=[]:=by cases ls with
   |nil=>rfl
   |cons a b=>simp[EQ]at hu
  subst hl;have:(At.w id ([]:List Nat).length).den O=nls:=by simp[At.den,W]
  rw[this];exact dc.nil _ _
 .refine⟨QO,hle,some ⟨(O id).g,0,none⟩,(O id).cap,by simp[At.den,W],?_,fun j x U=>⟨_,rfl,r.low id _ h W,?_⟩⟩
  .have I:(EQ ls++spare).length=ls.length+spare.length:=by rw[aQ,iC]
   omega
  .rw[dX,cell_of hb,aW,aI (by rw[iC];exact(aE.1 U).1)];exact xf U
end Go.Sx
namespace Go.Ex
open Go Go.Sx Go.Proofs
variable{ls:List Nat}{S:Nat->Prop}
theorem aBs:PG.underlying T.nat=some (.slice T.uint32):=by
 have h:=(hτ T.nat _ rfl).i4 rfl;exact h
theorem Ls{w:World}{v:Value}(F:Old S w)(h:dc w S v ls)(hl:ls.length<=1000000000000):
  eH PG GT.gX #[v] w (eR w fun v' Y=>dc Y (Nf w Y) v' ls):=by
 obtain⟨x,rfl,rfl⟩:=h.la;refine ja bv ?_;refine⟨x.a.isNone,fun O w1 o1 o2=>by simp[eqGuard,SV.den,At.den,oq (P:=PG) w1 T.nat T.uint32 x.a x.ls.length x.c 0 0 aBs],?_⟩;apply bS<;>intro h
 .intro I' w3 R;have W:x.ls=[]:=by
   cases U:x.ls with
   |nil=>rfl
   |cons u r=>
    obtain⟨ad,I,_⟩:=x.cell 0 u (by rw[U];rfl);rw[I]at h;simp at h
  exact⟨_,rfl,R.cZ,by rw[W];exact dc.nil _ _⟩
 .refine .inl ?_;refine⟨EQ x.ls,by rw[iC,aZ],fun u hu=>by simp only[EQ,aV]at hu;obtain⟨n,_,rfl⟩:=hu;rfl,fun O w1 r h0=>?_,?_⟩
  .obtain⟨u,hu⟩:=gO x.ls 0;obtain⟨ad,PU,_⟩:=x.cell 0 u hu;refine⟨ad,PU,fun j u hu=>?_⟩;simp only[EQ,aO,Option.map_eq_some_iff]at hu;obtain⟨n,W,rfl⟩:=hu;obtain⟨ad2,QR,hs,hc⟩:=x.cell j n W;rw[PU]at QR;injection QR with QR;subst QR;exact kg F ju.refl r hs hc
  refine⟨rfl,be,mx,?_⟩;intro I' w3 R;exact⟨_,rfl,R.cZ,(R.aAX (id:=1) rfl (aW _) x.lm x.le).cP fun g X=>.inr X⟩
end Go.Ex
namespace Go.Sx
open Go Go.Ex Go.Proofs
section
variable{O:Nat->Sx.eG}
theorem Rel.dA{H:Hp}{nx:Nat}{iv:Iv}{B:Nat}{w J:World}(r:Rel H nx iv B w O J):B<=J.heap.size:=by have:=r.base;have:=r.size;omega
end
variable{ls:List Nat}{O:Nat->Sx.eG}
theorem Rel.xo{H:Hp}{nx:Nat}{iv:Iv}{B:Nat}{w J:World}(r:Rel H nx iv B w O J){id t:Nat}(h:dU H id=some (.box t ((EQ ls).map At.v)))(QO:Lm ls)(hle:ls.length<=9223372036854775807):
  dc J (fun g=>g=(O id).g) (.slice (some ⟨(O id).g,0,none⟩) ls.length ls.length) ls:=by
 refine⟨QO,hle,_,_,rfl,lr,fun j x U=>⟨_,rfl,rfl,?_⟩⟩;have h0:(⟨(O id).g,0,none⟩:Addr).add j=⟨(O id).g,j,none⟩:=by
  cases j with
  |zero=>rfl
  |succ j=>simp[Addr.add]
 rw[h0,cell_of (r.box id t _ h),gN];exact xf U
end Go.Sx
namespace Go.Ex
open Go Go.Sx Go.Proofs
variable{ds r2:List Nat}{g k:Nat}{row:Option Nat}
section
variable{S:Nat->Prop}{H:Hp}{nx:Nat}{iv N:Iv}{B:Nat}{w J Y:World}{O:Nat->Sx.eG}{v:Value}{n:Nat}{ls:List Nat}
theorem Nw.iR(h:Nf J Y g)(hB:B<=J.heap.size)(hm:(J.heap.size,Y.heap.size)∈iv):Cv S B iv g:=by
 rcases h with h|h
 .cases h
 .exact .inr ⟨be,_,_,hm,h.1,h.2⟩
theorem nw{H:Hp}{nx B:Nat}{iv N:Iv}{w J Y:World}{O:Nat->Sx.eG}(r:Rel H nx iv B w O J)(e:N=(J.heap.size,Y.heap.size)::iv):∀g,Nf J Y g->Cv (fun _=>False) B N g:=fun _ X=>X.iR r.dA (mN e)
theorem eQ.iR(h:eQ Y (Nf J Y) v n)(hB:B<=J.heap.size)(hm:(J.heap.size,Y.heap.size)∈iv):eQ Y (Cv S B iv) v n:=h.cP fun _ X=>X.iR hB hm
theorem dc.iR(h:dc Y (Nf J Y) v ls)(hB:B<=J.heap.size)(hm:(J.heap.size,Y.heap.size)∈iv):dc Y (Cv S B iv) v ls:=h.cP fun _ X=>X.iR hB hm
theorem eQ.rel(h:eQ w (Cv S B iv) v n)(r:Rel H nx iv B w O J)(F:∀g,S g->g<B):eQ J (Cv S B iv) v n:=h.cR fun _ X=>rls r F X
theorem eQ.cS(h:eQ w (Cv S B iv) v n)(r:Rel H nx iv B w O J)(F:∀g,S g->g<B)(L:Ext J Y)(hm:∀p,p∈iv->p∈N):eQ Y (Cv S B N) v n:=
 ((h.rel r F).cR fun g X=>L.block g (rlo r F g X)).cP fun _ X=>X.mono hm
theorem dc.trimmed(h:dc w S v (eM ls)):eQ w S v (val ls):=⟨_,h,(fX ls).2.1,(fX ls).1⟩
end
theorem Lw{w:World}{m c:Nat}{rs:List Nat}(X:w.heap[g]? =some (.cells (EQ rs).toArray T.uint32 (0,0)))(QO:Lm rs)(h:k+m<=rs.length)(hc:m<=c)(hl:rs.length<=1000000000000):
  dc w (fun x=>x=g) (.slice (some ⟨g,k,none⟩) m c) ((rs.drop k).take m):=by
 have hlen:((rs.drop k).take m).length=m:=by simp;omega
 refine⟨(QO.drop k).take m,be,some ⟨g,k,none⟩,c,by rw[hlen],be,fun j x U=>⟨_,rfl,rfl,?_⟩⟩;have hj:j<m:=by have:=(aE.1 U).1;omega
 rw[bo hj,cF]at U;rw[dX,cell_of X];exact xf U
theorem Gg{c:Nat}(h:k<c):(if (c:Int)=(k:Int)then some (⟨g,0,none⟩:Addr)else(some (⟨g,0,none⟩:Addr)).map fun x=>x.add ((k:Int).toNat*1))=some ⟨g,k,none⟩:=by
 rw[aJ be,bw,aF,aZ,dX,aW]
theorem gY{a b c:World}(h:a.grownBy b row)(k:b.grownBy c row):a.grownBy c row:=
 ⟨k.os.trans h.os,k.tape.trans h.tape,k.output.trans h.output,aX h.size k.size,fun j hj Ox=>(k.block j (by have:=h.size;omega) Ox).trans (h.block j hj Ox)⟩
theorem se{a b:World}(h:ju a.heap.size a b):a.grownBy b row:=⟨h.os,h.tape,h.output,h.size,fun j hj _=>h.block j hj⟩
theorem aBt(rs:List Nat)(k m:Nat):(EQ rs).take k++List.replicate m (Value.int .u32 0)++(EQ rs).drop (k+m)=EQ (rs.take k++List.replicate m 0++rs.drop (k+m)):=by
 simp[EQ]
theorem aDD(rs ds:List Nat)(k:Nat):(EQ rs).take k++EQ ds++(EQ rs).drop (k+(EQ ds).length)=EQ (rs.take k++ds++rs.drop (k+ds.length)):=by
 simp[EQ]
theorem NM{rs:List Nat}{m:Nat}(K:k+m<=rs.length)(hd:ds.length<=m){r1:List Nat}(I:r1=rs.take k++List.replicate m 0++rs.drop (k+m))(G:r2=r1.take k++ds++r1.drop (k+ds.length)):
  r2=rs.take k++(ds++List.replicate (m-ds.length) 0)++rs.drop (k+m):=by
 have YR:(rs.take k).length=k:=by simp;omega
 have h3:r1.take k=rs.take k:=by rw[I,cC,List.take_append_of_le_length be,bH be]
 have h4:r1.drop (k+ds.length)=List.replicate (m-ds.length) 0++rs.drop (k+m):=by
  rw[I,cC,List.drop_append,YR,List.drop_of_length_le be,List.nil_append,Nat.add_sub_cancel_left,List.drop_append_of_le_length (by simpa using hd),List.drop_replicate]
 rw[G,h3,h4];simp
theorem NN{rs:List Nat}{m:Nat}(K:k+m<=rs.length)(hd:ds.length<=m)(QO:Lm rs)(S8:Lm ds)(h:r2=rs.take k++(ds++List.replicate (m-ds.length) 0)++rs.drop (k+m)):
  r2.length=rs.length/\Lm r2/\r2.take k=rs.take k/\r2.drop (k+m)=rs.drop (k+m)/\val ((r2.drop k).take m)=val ds:=by
 have YR:(rs.take k).length=k:=by simp;omega
 have SU:(ds++List.replicate (m-ds.length) 0).length=m:=by simp;omega
 have Rh:r2.drop k=(ds++List.replicate (m-ds.length) 0)++rs.drop (k+m):=by
  rw[h,cC,List.drop_append,YR,List.drop_of_length_le be,List.nil_append,bO,List.drop_zero]
 refine⟨by rw[h,aQ,aQ,YR,SU];simp;omega,?_,?_,?_,?_⟩
 .rw[h];exact((QO.take k).append (S8.append (Lm.replicate _))).append (QO.drop _)
 .rw[h,cC,List.take_append_of_le_length be,bH be]
 .rw[<-List.drop_drop,Rh,List.drop_append,SU,List.drop_of_length_le be,List.nil_append,bO,List.drop_zero]
 .rw[Rh,List.take_append_of_le_length be,bH be,ml,oW];simp
theorem Gi{S:Nat->Prop}{w:World}{vd:Value}{Fd g k q:Nat}{rs:List Nat}(F:Old S w)(hgS:¬S g)(hd:eQ w S vd Fd)(X:w.heap[g]? =some (.cells (EQ rs).toArray T.uint32 (0,0)))(QO:Lm rs)
  (K:k+ln Fd+1<=rs.length) (hl:rs.length<=1000000000000) (hq:q<4294967296):
  eH PG GT.sP #[.slice (some ⟨g,0,none⟩) rs.length rs.length,vd,.int .i64 k,.int .u64 q] w (fun e Y=>
   (val ((rs.drop k).take (ln Fd+1))<q*Fd/\e= .returned (.bool false)/\Bq w Y)\/
   (q*Fd<=val ((rs.drop k).take (ln Fd+1))/\e= .returned (.bool true)/\w.grownBy Y (some g)/\∃rs',rs'.length=rs.length/\Lm rs'/\rs'.take k=rs.take k/\rs'.drop (k+ln Fd+1)=rs.drop (k+ln Fd+1)/\
    val ((rs'.drop k).take (ln Fd+1))=val ((rs.drop k).take (ln Fd+1))-q*Fd/\Y.heap[g]? =some (.cells (EQ rs').toArray T.uint32 (0,0)))):=by
 have hgB:=lL X;have hnD:=hd;obtain⟨p,rfl,Ra,Qa⟩:=hd.la;have Q4:=eu p.lm Qa;rw[Ra]at Q4;generalize W:ln Fd=n at*
 have hSB:=F;refine xe bv ?_;refine⟨(q:Int),by rw[fm,b9 hq],?_⟩;refine iM (J9:=fun O _ v Y=>dc Y (fun g=>g=(O 0).g) v (eM [q])) (H':=[]) 0 rfl bv trivial rfl (fun O J r=>r.nn 0 _ rfl (by intros;simp) bv) (fun O J r=>?_) ?_
 .have hL:=r.xo (id:=0) (ls:=[q]) rfl (by intro x U;simp at U;omega) bv;exact gC (fun g X=>by rw[X];exact(r.low 0 _ rfl (r.nn 0 _ rfl (by intros;simp) bv)).2) hL
 rintro O w1 v1 Y r L V hL;have PI:=r.low 0 _ rfl (r.nn 0 _ rfl (by intros;simp) bv);have hs:=L.size;generalize (O 0).g=g0 at*
 have WD:eQ Y (Cv S w.heap.size [(g0,g0+1),(w1.heap.size,Y.heap.size)]) v1 q:=by
  have:=hL.trimmed;simp only[val,Nat.mul_zero,cI]at this;exact this.cP fun k K=>.inr ⟨be,g0,g0+1,bv,be,be⟩
 have Wf:eQ Y (Cv S w.heap.size [(g0,g0+1),(w1.heap.size,Y.heap.size)]) (.slice p.a p.ls.length p.c) Fd:=
  (hnD.cR fun g X=>V.block g (F g X)).cP fun _ X=>.inl X
 generalize [(g0,g0+1),(w1.heap.size,Y.heap.size)]=iv at*
 refine cQ (cE V (pR eQ (q*Fd)) (fun O J r=>Lx (rlo r F) (WD.rel r F) (Wf.rel r F) (aX (gg.2 (show q<wt 1 from hq)) bi) be) ?_);rintro O w3 _ _ iv r L V E hm;have Vj:=hm.iR (S:=S) r.dA (mN E);refine⟨((k+n:Nat):Int),wo,((k+n+1:Nat):Int),wo,⟨be,be,be⟩,some ⟨g,k,none⟩,n+1,rs.length-k,Gg be,be,be,?_⟩;have hplen:((rs.drop k).take (n+1)).length=n+1:=by simp;omega
 have hplm:Lm ((rs.drop k).take (n+1)):=(QO.drop k).take _;generalize hpart:(rs.drop k).take (n+1)=part at*
 refine cQ (cE V (pR dc part) (fun O J r=>?_) ?_)
 .have I:=Lw (k:=k) (m:=n+1) (c:=rs.length-k) (w:=J) (by rw[(V.tr r.cZ).block g hgB];exact X) QO be be hl;rw[hpart]at I;exact Ls (fun x U=>by rw[U];have:=(V.tr r.cZ).size;omega) I be
 rintro O _ _ _ iv r L V E hL;have hpL:=hL.iR (S:=S) r.dA (mN E);replace Vj:=Vj.cS r F L (mC E);refine cQ (cU (J9:=fun _ J v Y=>dc Y (Cv S w.heap.size iv) v (eM part)) (fun O J r=>gC (rlo r F) (dc.rel hpL r F)) ?_);rintro O w7 v4 w8 r L hb hL;replace V:=V.tr hb;have hpN:=hL.trimmed.cP (S':=Cv S w.heap.size ((w7.heap.size,w8.heap.size)::iv)) fun _ X=>X.cons;replace Vj:=Vj.cS (N:=(w7.heap.size,w8.heap.size)::iv) r F L fun x U=>aB _ U;generalize (w7.heap.size,w8.heap.size)::iv=iv at*
 refine cQ (cE V (fun _ _ v _=>v=iV (vT (val part) (q*Fd))) (fun O J r=>aA3 (rlo r F) (hpN.rel r F) (Vj.rel r F)) ?_);rintro O _ _ _ iv r L V E rfl;replace hpN:=hpN.cS r F L (mC E);replace Vj:=Vj.cS r F L (mC E);apply bS<;>intro h
 .have h:val part<q*Fd:=by
   have:=aK h;unfold vT at this;split at this
   .assumption
   .split at this<;>omega
  intro I' w3 R;exact .inl ⟨h,rfl,V.tr R.cZ⟩
 have h:q*Fd<=val part:=by
  have:=aG h;unfold vT at this;split at this
  .omega
  .omega
 have hPl:ln (val part)<=n+1:=by rw[gg,<-hplen];exact ph hplm
 refine cQ (cE V (pR eQ (val part-q*Fd)) (fun O J r=>Gj (rlo r F) (hpN.rel r F) (Vj.rel r F) h be) ?_);rintro O _ v6 _ iv r L V E hm;have Xj:=hm.iR (S:=S) r.dA (mN E);refine⟨((k+n:Nat):Int),wo,((k+n+1:Nat):Int),wo,⟨be,be,be⟩,some ⟨g,k,none⟩,n+1,rs.length-k,Gg be,be,be,?_⟩;refine MR hτ (Z:=EQ rs) cs cs cs be (fun O J r=>⟨by rw[(V.tr r.cZ).block g hgB];exact X,fun id b hb=>by cases hb⟩) (by rw[iC];omega) (fun O w13 w14 r hh PF PR=>?_);rw[aBt]at hh;have hgw:w.grownBy w14 (some g):=gY (se (V.tr r.cZ)) PF;replace Xj:eQ w14 (Cv S w.heap.size iv) v6 (val part-q*Fd):=(Xj.rel r F).cR fun x U=>PF.block x (rlo r F x U) fun e=>by
  injection e with e;subst e;rcases U with U|U
  .exact hgS U
  .omega
 obtain⟨rl,rfl,Tk,Sr⟩:=Xj.la;have PN:=eu rl.lm Sr;rw[Tk]at PN;have YZ:rl.ls.length<=n+1:=by rw[PN];exact aX (fq (Nat.sub_le _ _)) hPl
 generalize hr1d:rs.take k++List.replicate (n+1) 0++rs.drop (k+(n+1))=r1 at*
 refine⟨⟨be,be,be⟩,some ⟨g,k,none⟩,rs.length-k,rs.length-k,Gg be,be,be,?_⟩;have hr1l:r1.length=rs.length:=by rw[<-hr1d];simp;omega
 have hw14:w.heap.size<=w14.heap.size:=hgw.size;refine OG hτ (tg:=T.uint32) (Z:=EQ r1) (ds:=EQ rl.ls) cs cs cs cs (fun O J r=>⟨?_,fun id b hb=>by cases hb⟩) (fun O J r=>⟨rl.a,rl.c,by rw[iC];rfl,fun j u hu=>?_⟩) (by rw[iC];omega) (by rw[iC,iC];omega)
  (fun u hu=>by simp only[EQ,aV]at hu;obtain⟨n,_,rfl⟩:=hu;rfl) (fun O w15 w16 r hh2 PF PR=>?_)
 .rw[r.sf.block g be bv];exact hh
 .simp only[EQ,aO,Option.map_eq_some_iff]at hu;obtain⟨m,hm,rfl⟩:=hu;obtain⟨ad,I,G,h3⟩:=rl.cell j m hm;exact⟨ad,I,(cV (w:=w14) (a:=ad.add j) (by rw[dO];exact rls r F G)).trans h3⟩
 rw[aDD]at hh2;have hgw2:w.grownBy w16 (some g):=gY (gY hgw (by have:=r.sf;exact⟨this.os,this.tape,this.output,this.size,fun j hj _=>this.block j hj bv⟩)) PF;obtain⟨o1,o2,o3,o4,o5⟩:=NN (rs:=rs) (ds:=rl.ls) (k:=k) (m:=n+1) be YZ QO rl.lm (NM be YZ hr1d.symm rfl);generalize r1.take k++rl.ls++r1.drop (k+rl.ls.length)=r2 at*
 intro I' w17 R;refine .inr ⟨h,rfl,gY hgw2 (by have:=R.sf;exact⟨this.os,this.tape,this.output,this.size,fun j hj _=>this.block j hj bv⟩),r2,o1,o2,o3,o4,by rw[o5,Tk],?_⟩;rw[R.sf.block g (by have:=hgw2.size;omega) bv];exact hh2
end Go.Ex
namespace Go.Sx
open Go Go.Ex Go.Proofs
variable{O:Nat->Sx.eG}
theorem Rel.aC3{nx:Nat}{iv:Iv}{B:Nat}{w J Y:World}(r:Rel [] nx iv B w O J)(h:J.heap.size<=Y.heap.size):Rel [] nx [] B Y O Y:=
 r.H6 h (fun id b h=>by cases h) fun lo D h=>by cases h
end Go.Sx
namespace Go.Ex
open Go Go.Sx Go.Proofs
variable{O:Nat->Sx.eG}
theorem aA4{P Fd low high dlow dtop F8:Nat}(hP:P=low+F8*high)(hD:Fd=dlow+F8*dtop)(PI:low<F8)(Un:0<dtop)(hPD:P<4294967296*Fd):P / Fd<=min (high / dtop) 4294967295:=by
 have hW:0<F8:=by omega
 have YT:0<Fd:=by have:=Nat.mul_pos hW Un;omega
 have I:P / Fd<4294967296:=(Nat.div_lt_iff_lt_mul YT).2 (by rw[bl]at hPD;omega);have G:P / Fd<=high / dtop:=by
  rw[Nat.le_div_iff_mul_le Un];have h3:=Nat.div_mul_le_self P Fd;generalize P / Fd=Q at*
  have h4:F8*(Q*dtop)<=Q*Fd:=by
   rw[hD,Nat.mul_left_comm,bp];omega
  have h5:F8*(Q*dtop)<F8*(high+1):=by
   rw[bp];omega
  have:=Nat.lt_of_mul_lt_mul_left h5;omega
 omega
theorem Ly{H:Hp}{nx:Nat}{iv:Iv}{w w1 J:World}{g i x:Nat}{rs:List Nat}(X:w.heap[g]? =some (.cells (EQ rs).toArray T.uint32 (0,0)))(V:Bq w w1)(r:Rel H nx iv w.heap.size w1 O J)(U:rs[i]? =some x):
  J.cell? ((⟨g,0,none⟩:Addr).add ((i:Int).toNat*1))=some (.int .u32 x):=by
 rw[aF,aZ,dX,aW,cell_of (by rw[(V.tr r.cZ).block g (lL X)];exact X)];exact xf U
theorem aBu{S:Nat->Prop}{w:World}{vd:Value}{Fd g k:Nat}{rs:List Nat}(F:Old S w)(hgS:¬S g)(hd:eQ w S vd Fd)(hD:0<Fd)(X:w.heap[g]? =some (.cells (EQ rs).toArray T.uint32 (0,0)))(QO:Lm rs)
  (K:k+ln Fd+1<=rs.length) (hl:rs.length<=1000000000000) (hPD:val ((rs.drop k).take (ln Fd+1))<4294967296*Fd):
  eH PG GT.qz #[.slice (some ⟨g,0,none⟩) rs.length rs.length,vd,.int .i64 k] w (fun e Y=>
   e= .returned (.int .u32 ((val ((rs.drop k).take (ln Fd+1)) / Fd:Nat):Int))/\w.grownBy Y (some g)/\∃rs',rs'.length=rs.length/\Lm rs'/\rs'.take k=rs.take k/\rs'.drop (k+ln Fd+1)=rs.drop (k+ln Fd+1)/\
    val ((rs'.drop k).take (ln Fd+1))=val ((rs.drop k).take (ln Fd+1)) % Fd/\Y.heap[g]? =some (.cells (EQ rs').toArray T.uint32 (0,0))):=by
 have hgB:=lL X;have hnD:=hd;obtain⟨p,rfl,Ra,Qa⟩:=hd.la;have Q4:=eu p.lm Qa;rw[Ra]at Q4;have Rq:=fun(J:World) (q:Nat)=>@Gi S J (.slice p.a p.ls.length p.c) Fd g k q rs;generalize W:ln Fd=n at*
 obtain⟨t,rfl⟩:∃t,n=t+1:=by
  cases n with
  |zero=>
   have:Fd<wt 0:=gg.1 be;rw[kA]at this;omega
  |succ t=>exact⟨t,rfl⟩
 obtain⟨dt,Un⟩:=gO p.ls t;have hdt0:0<dt:=by
  have:=Qa dt (by rw[List.getLast?_eq_getElem?,Q4];exact Un);omega
 obtain⟨a,ha⟩:=gO rs (k+t+1);obtain⟨b,hb⟩:=gO rs (k+t);have ha32:=QO.at ha;have WV:=QO.at hb;have Ya:=p.lm.at Un;generalize hP:val ((rs.drop k).take (t+1+1))=P at*
 have hguess:P / Fd<=min ((a*4294967296+b) / dt) 4294967295:=by
  refine aA4 (low:=val ((rs.drop k).take t)) (F8:=wt t) (dlow:=val (p.ls.take t)) ?_ ?_ ?_ hdt0 hPD
  .rw[<-hP,eF (x:=a) (by rw[cF];exact ha),eF (x:=b) (by rw[cF];exact hb),ji,bp,bl 4294967296 (wt t),bz,bl a];omega
  .rw[<-Ra,<-eF Un,bH be]
  .have I:=ph ((QO.drop k).take t);have:((rs.drop k).take t).length=t:=by simp;omega
   rwa [this]at I
 refine vM bv ?_;refine⟨(t:Int),wo,?_⟩;refine dP (idO 18) ?_;refine⟨((k+t:Nat):Int),wo,((k+t+1:Nat):Int),wo,_,rfl,be,.int .u32 a,fun O J r=>Ly X ju.refl r ha,(a:Int),fK be,bi,((a*2^32:Nat):Int),Gk (k:=32) bi be,((k+t:Nat):Int),wo,_,rfl,be,.int .u32 b,fun O J r=>Ly X ju.refl r hb,(b:Int),fK be,?_⟩;have Vw:a*2^32 ||| b=a*4294967296+b:=by
  rw[Nat.or_comm,bl,Gl (k:=32) WV];omega
 refine⟨((a*4294967296+b:Nat):Int),by rw[aA5 be be,Vw],?_⟩;have hh64:a*4294967296+b<18446744073709551616:=by omega
 generalize a*4294967296+b=high at*
 obtain⟨ad,PU,Pg⟩:=p.load F (ju.refl (w:=w)) Un;refine⟨ad,PU,be,.int .u32 dt,Pg _ _ _,(dt:Int),fK be,be,((high / dt:Nat):Int),aA6 hh64,?_⟩;conv=>whnf
 rw[show min ((high / dt:Nat):Int) 4294967295=((min (high / dt) 4294967295:Nat):Int) by omega];have hm32:min (high / dt) 4294967295<=4294967295:=Nat.min_le_right _ _;generalize min (high / dt) 4294967295=q0 at*
 have hQD:=Nat.div_mul_le_self P Fd;have hQl:∀q,q*Fd<=P->P / Fd<=q->q=P / Fd:=fun q I G=>Nat.le_antisymm ((Nat.le_div_iff_mul_le hD).2 I) G;have hmod:P % Fd=P-P / Fd*Fd:=by have:=Nat.div_add_mod P Fd;rw[bl]at this;omega
 refine⟨Nat×World,fun z=>⟨[(0,.o (.v (.slice (some ⟨g,0,none⟩) rs.length rs.length))),(1,sV p.a p.ls.length p.c),(2,iZ k),(9,.o (.v (.int .u64 z.1)))],[],0,[],z.2⟩,fun z=>z.1,
  fun z=>Bq w z.2/\P / Fd<=z.1/\z.1<=4294967295,?_,?_⟩
 .intro O J r;exact⟨(q0,J),⟨r.cZ,hguess,hm32⟩,Sub.reset r ⟨rfl,rfl,rfl,rfl,trivial⟩ ⟨trivial,trivial,trivial,trivial,trivial⟩⟩
 .rintro⟨q,w1⟩ ⟨V,SW,Qn⟩;dsimp only at V SW Qn ⊢;conv=>whnf
  refine⟨fun O Y r=>(Rq Y q (fun x U=>by have:=F x U;have:=(V.tr r.cZ).size;omega) hgS (hnD.cR fun x U=>(V.tr r.cZ).block x (F x U)) (by rw[(V.tr r.cZ).block g hgB];exact X) QO K hl be).mono fun e w3 L=>?_⟩;rcases L with⟨h,rfl,hb3⟩|⟨h,rfl,PF,rs',e1,e2,e3,e4,e5,e6⟩
  .have hw3:Bq w w3:=(V.tr r.cZ).tr (hb3.cZ r.dA);refine⟨.bool false,[],[],rfl,r.aC3 hb3.size,?_⟩;have UK:P / Fd<q:=by
    refine Nat.lt_of_le_of_ne SW fun e=>?_;rw[e]at hQD;omega
   have hq4:0<q:=Nat.lt_of_le_of_lt (aR _) UK;have hq5:P / Fd<=q-1:=Nat.le_sub_one_of_lt UK;refine⟨((q-1:Nat):Int),by rw[Av]<;>omega,?_⟩;intro K9 w4 r4;exact⟨(q-1,w4),⟨hw3.tr r4.cZ,hq5,by dsimp only;omega⟩,Sub.reset r4 ⟨rfl,rfl,rfl,rfl,trivial⟩ ⟨trivial,trivial,trivial,trivial,trivial⟩,by dsimp only;omega⟩
  .have hgw:w.grownBy w3 (some g):=gY (se (V.tr r.cZ)) PF;refine⟨.bool true,[],[],rfl,r.aC3 PF.size,?_⟩;have hq:=hQl q h SW;subst hq;refine⟨((P / Fd:Nat):Int),by rw[fm,b9 be],?_⟩;intro K9 w4 r4;refine⟨rfl,gY hgw (by have:=r4.sf;exact⟨this.os,this.tape,this.output,this.size,fun j hj _=>this.block j hj bv⟩),rs',e1,e2,e3,e4,by rw[e5,hmod],?_⟩;rw[r4.sf.block g (by have:=hgw.size;omega) bv];exact e6
end Go.Ex
namespace Go.Ex
variable{ms:List Nat}
theorem Mf{t dt:Nat}(QO:Lm ms)(hl:ms.length=t+1)(Un:ms[t]? =some dt)(h0:0<dt):32-iO dt<32/\ln (val ms*2^(32-iO dt))=t+1:=by
 have hb0:0<iO dt:=by
  rcases bZ (iO dt)with h|h
  .have:=BA.1 (Nat.le_of_eq h);simp at this;omega
  .exact h
 have WV:iO dt<=32:=BA.2 (QO.at Un);have PY:=BA.1 (aP (iO dt));have hv:val ms=val (ms.take t)+wt t*dt:=by rw[<-eF Un,bH be]
 have PI:=ph (QO.take t);have hltk:(ms.take t).length=t:=by simp;omega
 rw[hltk]at PI;have V:=yR t;refine⟨be,Nat.le_antisymm ?_ ?_⟩
 .rw[gg];have I:val ms<wt t*2^iO dt:=by
   have:wt t*(dt+1)<=wt t*2^iO dt:=bX _ PY;rw[bp]at this;omega
  have G:=Nat.mul_lt_mul_of_pos_right I (cK (32-iO dt));rw[bz,<-Nat.pow_add,Nat.add_sub_cancel' WV]at G;rw[ji,bl 4294967296];exact G
 .refine Nat.lt_of_not_le fun h=>?_;have I:=gg.1 h;have G:val ms*1<=val ms*2^(32-iO dt):=bX _ (cK _);have h3:wt t*1<=wt t*dt:=bX _ h0;omega
theorem Hs{rs:List Nat}{Fd GT k:Nat}(QO:Lm rs)(hDN:Fd<wt GT)(K:k+GT+1<=rs.length)(h:val rs<wt (k+1)*Fd):
  val (rs.drop (k+GT+1))=0/\val (rs.drop k)=val ((rs.drop k).take (GT+1))/\val ((rs.drop k).take (GT+1))<4294967296*Fd:=by
 obtain⟨x,U⟩:∃q,rs[k]? =some q:=⟨_,aD be⟩
 have RD:=QO.at U;have I:=fR rs (k+1) be;have G:val (rs.drop (k+1))<Fd:=Nat.lt_of_mul_lt_mul_left (a:=wt (k+1)) be;have h3:=fR (rs.drop (k+1)) GT (by simp;omega);rw[List.drop_drop,show k+1+GT=k+GT+1 by omega]at h3;have h4:val (rs.drop (k+GT+1))=0:=by
  rcases bZ (val (rs.drop (k+GT+1)))with h|h
  .exact h
  .have:=bX (wt GT) h;omega
 have h5:=fR (rs.drop k) (GT+1) (by simp;omega);rw[List.drop_drop,show k+(GT+1)=k+GT+1 by omega,h4,Nat.mul_zero,cI]at h5;have h6:=jv U;exact⟨h4,h5,be⟩
theorem Od{rs rs' out:List Nat}{Fd GT k P A9:Nat}(hD:0<Fd)(QO:Lm rs)(hlen:rs'.length=rs.length)(hDN:Fd<wt GT)(K:k+GT+1<=rs.length)(h:val rs<wt (k+1)*Fd)(hV:A9=wt (k+1)*(Fd*val (out.drop (k+1)))+val rs)
  (hP:val ((rs.drop k).take (GT+1))=P) (I:rs'.take k=rs.take k) (G:rs'.drop (k+GT+1)=rs.drop (k+GT+1)) (h3:val ((rs'.drop k).take (GT+1))=P % Fd) (ho:k<out.length):
  val rs'<wt k*Fd/\A9=wt k*(Fd*val ((out.set k (P / Fd)).drop k))+val rs':=by
 obtain⟨a1,a2,a3⟩:=Hs QO hDN K h;have b1:=fR rs k be;have b2:=fR rs' k be;have b3:=fR (rs'.drop k) (GT+1) (by simp;omega);rw[List.drop_drop,show k+(GT+1)=k+GT+1 by omega,G,a1,Nat.mul_zero,cI,h3]at b3;rw[I,b3]at b2;rw[a2,hP]at b1;have b4:=ph (QO.take k);have b5:(rs.take k).length=k:=by simp;omega
 rw[b5]at b4;have b6:=cN P hD;have b7:(out.set k (P / Fd))[k]? =some (P / Fd):=by rw[aT ho]
 have b8:=Nat.div_add_mod P Fd;refine⟨?_,?_⟩
 .have:wt k*(P % Fd+1)<=wt k*Fd:=bX _ b6;rw[bp]at this;omega
 .rw[jv b7,List.drop_set_of_lt (show k<k+1 by omega),hV,b1,b2,ji];generalize val (out.drop (k+1))=o;have c1:wt k*P=wt k*(Fd*(P / Fd))+wt k*(P % Fd):=by rw[<-bp,b8]
  have c2:4294967296*wt k*(Fd*o)=wt k*(Fd*(4294967296*o)):=by
   rw[bl 4294967296,bz,Nat.mul_left_comm 4294967296]
  rw[c1,c2,bp Fd,bp (wt k)];omega
theorem Mg{n m b:Nat}(hm:0<m)(Vx:m<=n):n*2^b<wt (ln n+1-ln m)*(m*2^b):=by
 have I:=mm n;have G:=fq Vx;have h3:wt (ln m-1)<=m:=by
  refine Nat.le_of_not_lt fun h=>?_;have:=gg.2 h;have h4:0<ln m:=by
   rcases bZ (ln m)with h|h
   .have:=gg.1 (Nat.le_of_eq h);rw[kA]at this;omega
   .exact h
  omega
 have h4:0<ln m:=by
  rcases bZ (ln m)with h|h
  .have:=gg.1 (Nat.le_of_eq h);rw[kA]at this;omega
  .exact h
 have h5:wt (ln n)<=wt (ln n+1-ln m)*m:=by
  rw[show ln n=(ln n+1-ln m)+(ln m-1) by omega,Fu,show(ln n+1-ln m)+(ln m-1)+1-ln m=ln n+1-ln m by omega];exact bX _ h3
 rw[<-bz];exact Nat.mul_lt_mul_of_pos_right (Nat.lt_of_lt_of_le I h5) (cK b)
theorem aBc{n m b o r:Nat}(hm:0<m)(I:n*2^b=m*2^b*o+r)(G:r<m*2^b):o=n / m/\r / 2^b=n % m:=by
 have hp:=cK b;have h3:n*2^b / (m*2^b)=o:=by rw[I,Nat.mul_add_div (Nat.mul_pos hm hp),Nat.div_eq_of_lt G,cI]
 have h4:n*2^b % (m*2^b)=r:=by rw[I,Nat.mul_add_mod,b9 G]
 rw[Nat.mul_div_mul_right _ _ hp]at h3;rw[Nat.mul_mod_mul_right]at h4;exact⟨h3.symm,by rw[<-h4,Nat.mul_div_cancel _ hp]⟩
end Go.Ex
namespace Go.Ex
open Go Go.Sx Go.Proofs
variable{H:Hp}{x y z:Int}{iv:Iv}{ls:List Nat}{n nx:Nat}{S:Nat->Prop}{O:Nat->Sx.eG}{u v:Value}{w J w1:World}
theorem Lz{g:Nat}{rs:List Nat}(X:w.heap[g]? =some (.cells (EQ rs).toArray T.uint32 (0,0)))(QO:Lm rs)(hl:rs.length<=1000000000000):
  dc w (fun x=>x=g) (.slice (some ⟨g,0,none⟩) rs.length rs.length) rs:=by
 have:=Lw (k:=0) (m:=rs.length) (c:=rs.length) X QO be lr hl
 rwa [List.drop_zero,bN]at this
theorem sh{m:Nat}(F:Old S w)(W:eQ w S v n)(hm:eQ w S u m)(Uu:0<m)(TK:ln n<=100000000000):
  eH PG GT.pF #[v,u] w (eR w fun v' Y=>∃q r,v'= .tuple #[q,r]/\eQ Y (Nf w Y) q (n / m)/\eQ Y (Nw S w Y) r (n % m)):=by
 have hnN:=W;have Vj:=hm;obtain⟨x,rfl,Ra,Qa⟩:=W.la;obtain⟨y,rfl,SW,Qn⟩:=hm.la;have QM:=eu x.lm Qa;have hyl:=eu y.lm Qn;rw[Ra]at QM;rw[SW]at hyl;refine tu bv ?_;refine cQ (cU (J9:=fun _ _ v _=>v=iV (vT n m)) (fun O J r=>aA3 (S:=S) (fun g X=>by have:=F g X;have:=r.cZ.size;omega) (hnN.cR fun g X=>r.cZ.block g (F g X)) (Vj.cR fun g X=>r.cZ.block g (F g X))) ?_);rintro O w1 v1 Y r L V rfl;apply bS<;>intro h
 .have h:n<m:=by
   have:=aK h;unfold vT at this;split at this
   .assumption
   .split at this<;>omega
  intro I' w3 R;refine⟨_,rfl,V.tr R.cZ,_,_,rfl,?_,?_⟩
  .rw[Nat.div_eq_of_lt h];exact eQ.nil _ _
  .rw[b9 h];exact(hnN.cR fun g X=>(V.tr R.cZ).block g (F g X)).cP fun g X=>.inl X
 have h:m<=n:=by
  have:=aG h;unfold vT at this;split at this
  .omega
  .omega
 have hlmn:=fq h;apply bS<;>intro I
 .have I:y.ls.length=1:=by have:=eq_of_beq I;omega
  obtain⟨b,WR⟩:=List.length_eq_one_iff.1 I;have hb:y.ls[0]? =some b:=by rw[WR];rfl
  have WV:=y.lm.at hb;have RY:m=b:=by rw[<-SW,WR];simp[val]
  subst RY;obtain⟨ad,PU,Pg⟩:=y.load F V hb;refine⟨ad,PU,be,.int .u32 m,Pg _ _ _,?_⟩;refine cQ (cU (J9:=fun _ J v Y=>∃q,v= .tuple #[q,.int .u32 ((val x.ls % m:Nat):Int)]/\eQ Y (Nf J Y) q (val x.ls / m)) (fun O J r=>?_) ?_)
  .refine aBv (S:=S) (fun g X=>by have:=F g X;have:=(V.tr r.cZ).size;omega) ⟨x.lm,x.le,_,_,rfl,x.cap,fun j u hu=>?_⟩ be Uu WV;obtain⟨ad,e1,e2,e3⟩:=x.cell j u hu;exact⟨ad,e1,e2,kg F V r e2 e3⟩
  rintro O w3 v3 w4 r L TA ⟨q,rfl,hq⟩;replace V:=V.tr TA;have WD:=hq.iR (S:=FF) r.dA (iv:=(w3.heap.size,w4.heap.size)::[(w1.heap.size,Y.heap.size)]) aH;rw[Ra]at WD;rw[Ra];generalize (w3.heap.size,w4.heap.size)::[(w1.heap.size,Y.heap.size)]=iv at*
  have SA:n % m<m:=cN _ Uu;generalize n % m=rem at*
  refine iM (J9:=fun O _ v Y=>dc Y (fun g=>g=(O 0).g) v (eM [rem])) (H':=[]) 0 rfl bv trivial rfl (fun O J r=>r.nn 0 _ rfl (by intros;simp) bv) (fun O J r=>?_) ?_
  .have hL:=r.xo (id:=0) (ls:=[rem]) rfl (by intro x U;simp at U;omega) bv;exact gC (fun g X=>by rw[X];exact(r.low 0 _ rfl (r.nn 0 _ rfl (by intros;simp) bv)).2) hL
  rintro O w5 v5 w6 r L WX hL;have PI:=r.low 0 _ rfl (r.nn 0 _ rfl (by intros;simp) bv);have hs:=L.size;replace V:=V.tr WX;replace WD:=WD.cS (N:=((O 0).g,(O 0).g+1)::(w5.heap.size,w6.heap.size)::iv) r (fun g h=>h.elim) L fun x U=>by simp[U]
  generalize (O 0).g=g0 at*
  have Xj:eQ w6 (Cf w ((g0,g0+1)::(w5.heap.size,w6.heap.size)::iv)) v5 rem:=by
   have:=hL.trimmed;simp only[val,Nat.mul_zero,cI]at this;exact this.cP fun k K=>.inr ⟨be,g0,g0+1,bv,be,be⟩
  generalize (g0,g0+1)::(w5.heap.size,w6.heap.size)::iv=Oy at*
  intro I' w7 R;exact⟨_,rfl,V.tr R.cZ,_,_,rfl,(WD.rel R fun g h=>h.elim).cP fun g X=>Cv.nw X R,((Xj.rel R fun g h=>h.elim).cP fun g X=>Cv.nw X R).cP fun g X=>X.elim (fun h=>h.elim) .inr⟩
 .have I:y.ls.length≠1:=fun e=>by rw[e]at I;simp at I
  have S9:0<ln m:=by
   rcases bZ (ln m)with h|h
   .have:=gg.1 (Nat.le_of_eq h);rw[kA]at this;omega
   .exact h
  obtain⟨t,ht⟩:∃t,y.ls.length=t+1:=⟨y.ls.length-1,be⟩
  obtain⟨dt,Un⟩:=gO y.ls t;have hdt0:0<dt:=by
   have:=Qn dt (by rw[List.getLast?_eq_getElem?,ht];exact Un);omega
  have Ya:=y.lm.at Un;obtain⟨PZ,Xk⟩:=Mf y.lm ht Un hdt0;rw[SW]at Xk;obtain⟨ad,PU,Pg⟩:=y.load F V Un;refine⟨(t:Int),wo,ad,PU,be,.int .u32 dt,Pg _ _ _,?_⟩;refine cQ (cU (J9:=fun _ _ v _=>v=iV ((32-iO dt:Nat):Int)) (fun O J r=>aDA dt J Ya) ?_);rintro O w3 v3 w4 r L TA rfl;replace V:=V.tr TA;generalize hbyd:32-iO dt=b at*
  refine⟨(b:Int),fK be,?_⟩;refine cQ (cU (J9:=fun _ J v Y=>∃out,aA7 J Y v out/\out.length=y.ls.length+1/\val out=val y.ls*2^b) (fun O J r=>?_) ?_)
  .refine FE (S:=S) (fun g X=>by have:=F g X;have:=(V.tr r.cZ).size;omega) ⟨y.lm,y.le,_,_,rfl,y.cap,fun j u hu=>?_⟩ be PZ;obtain⟨ad,e1,e2,e3⟩:=y.cell j u hu;exact⟨ad,e1,e2,kg F V r e2 e3⟩
  rintro O w5 v5 w6 r L WX ⟨dl,⟨gd,rfl,hgd1,hgd2,hgd3⟩,SU,hdv⟩;replace V:=V.tr WX;rw[SW]at hdv;have hB5:w.heap.size<=w5.heap.size:=r.dA;have TW:Cf w ((w5.heap.size,w6.heap.size)::[(w3.heap.size,w4.heap.size),(w1.heap.size,Y.heap.size)]) gd:=.inr ⟨be,_,_,aH,hgd1,lL hgd2⟩;generalize (w5.heap.size,w6.heap.size)::[(w3.heap.size,w4.heap.size),(w1.heap.size,Y.heap.size)]=iv at*
  have hF:∀g:Nat,(fun _:Nat=>False) g->g<w.heap.size:=fun g h=>h.elim;refine cQ (cU (J9:=fun _ _ v Y=>dc Y (fun x=>x=gd) v (eM dl)) (fun O J r=>gC (fun g X=>by rw[X];exact rlo r hF gd TW) (Lz (by rw[rls r hF TW];exact hgd2) hgd3 be)) ?_);rintro O w7 v6 w8 r L hb8 hL;replace V:=V.tr hb8;have hgd8:gd<w8.heap.size:=by have:=rlo r hF gd TW;have:=L.size;omega
  replace TW:=TW.mono (N:=(w7.heap.size,w8.heap.size)::iv) fun p hp=>aB _ hp;have Wf:=hL.trimmed;rw[hdv]at Wf;generalize (w7.heap.size,w8.heap.size)::iv=iv at*
  obtain⟨dp,rfl,Rh,Pc⟩:=Wf.la;have hdpl:=eu dp.lm Pc;rw[Rh,Xk]at hdpl;generalize hDd:m*2^b=Fd at*
  have YT:0<Fd:=by rw[<-hDd];exact Nat.mul_pos Uu (cK b)
  refine cQ (cU (J9:=fun _ J v Y=>∃out,aA7 J Y v out/\out.length=x.ls.length+1/\val out=val x.ls*2^b) (fun O J r=>?_) ?_)
  .refine FE (S:=S) (fun g X=>by have:=F g X;have:=(V.tr r.cZ).size;omega) ⟨x.lm,x.le,_,_,rfl,x.cap,fun j u hu=>?_⟩ be PZ;obtain⟨ad,e1,e2,e3⟩:=x.cell j u hu;exact⟨ad,e1,e2,kg F V r e2 e3⟩
  rintro O w9 v9 w10 r L hb10 ⟨rs0,⟨gr,rfl,hgr1,hgr2,hgr3⟩,PN,PB⟩;replace V:=V.tr hb10;rw[Ra]at PB;have hB9:w.heap.size<=w9.heap.size:=r.dA;have Ud:Cf w ((w9.heap.size,w10.heap.size)::iv) gr:=.inr ⟨be,_,_,aH,hgr1,lL hgr2⟩;have Ox:gr≠gd:=by have:=r.size;omega
  replace Wf:eQ w10 (fun x=>x=gd) (.slice dp.a dp.ls.length dp.c) Fd:=Wf.cR fun x U=>by
   rw[U,L.block gd (rlo r hF gd TW),rls r hF TW]
  have hgd10:gd<w10.heap.size:=by have:=rlo r hF gd TW;have:=L.size;omega
  replace TW:=TW.mono (N:=(w9.heap.size,w10.heap.size)::iv) fun p hp=>aB _ hp;generalize (w9.heap.size,w10.heap.size)::iv=iv at*
  have hgrB:w.heap.size<=gr:=by omega
  obtain⟨D',hL⟩:∃D',rs0.length=t+1+D':=⟨rs0.length-(t+1),be⟩
  refine⟨(D':Int),wo,D',D',rfl,rfl,lr,be,be,(D':Int)-1,wo,Nat×List Nat×List Nat×World,fun z=>⟨[(8,.o (.v (.int .u64 b))),(9,sV dp.a dp.ls.length dp.c),(10,.o (.v (.slice (some ⟨gr,0,none⟩) rs0.length rs0.length))),(11,.o (.s 0 0 D' D')),(12,.o (.v (iV ((z.1:Int)-1))))],
    [(0,.arr T.uint32 (EQ z.2.1))],1,iv,z.2.2.2⟩,fun z=>z.1,
   fun z=>z.1<=D'/\Bq w z.2.2.2/\z.2.1.length=D'/\z.2.2.1.length=rs0.length/\Lm z.2.1/\Lm z.2.2.1/\z.2.2.2.heap[gr]? =some (.cells (EQ z.2.2.1).toArray T.uint32 (0,0))/\eQ z.2.2.2 (fun x=>x=gd) (.slice dp.a dp.ls.length dp.c) Fd/\
    gd<z.2.2.2.heap.size/\val z.2.2.1<wt z.1*Fd/\n*2^b=wt z.1*(Fd*val (z.2.1.drop z.1))+val z.2.2.1,?_,?_⟩
  .intro O J r;rw[vU]at r;refine⟨(D',List.replicate D' 0,rs0,J),⟨lr,V.tr r.cZ,bv,rfl,Lm.replicate _,hgr3,?_,?_,?_,?_,?_⟩,sbgn [] r⟩
   .dsimp only;rw[rls r hF Ud];exact hgr2
   .exact Wf.cR fun x U=>by rw[U];exact rls r hF TW
   .exact rlo r hF gd TW
   .dsimp only
    have:=Mg (b:=b) Uu h;rw[hDd,<-hyl,ht,<-QM,show x.ls.length+1-(t+1)=D' by omega]at this;rw[PB];exact this
   .dsimp only;rw[PB];simp[val]
  .rintro⟨k,out,rs,w11⟩ ⟨K,V,RK,R0,Sm,XJ,PF,Wf,Qh,hi1,TG⟩;dsimp only at K V RK R0 Sm XJ PF Wf Qh hi1 TG ⊢;apply bS<;>intro h9
   .have h9:(k:Int)-1≥0:=aK h9;obtain⟨k,rfl⟩:∃q,k=q+1:=⟨k-1,be⟩
    rw[show ((k+1:Nat):Int)-1=(k:Int) by omega];have hDN:Fd<wt (t+1):=gg.1 (Nat.le_of_eq Xk);obtain⟨a1,a2,a3⟩:=Hs (GT:=t+1) XJ hDN be hi1;have hdig:=fun(J:World)=>@aBu (fun x=>x=gd) J (.slice dp.a dp.ls.length dp.c) Fd gr k rs;rw[Xk]at hdig;simp only[R0]at hdig;generalize hP:val ((rs.drop k).take (t+1+1))=P at*
    have hQ32:P / Fd<4294967296:=(Nat.div_lt_iff_lt_mul YT).2 (by rw[bl]at a3;omega);refine⟨fun O J r=>(hdig J (fun g X=>by rw[X];exact rlo r hF gd TW) Ox (Wf.cR fun x U=>by rw[U];exact rls r hF TW) YT (by rw[rls r hF Ud];exact PF) XJ be be a3).mono fun e w12 L=>?_⟩;obtain⟨rfl,hgb,rs',e1,e2,e3,e4,e5,e6⟩:=L;refine⟨_,_,_,rfl,r.B3 (fun id b hb W=>Rel.not r hF Ud id b hb W) hgb,?_⟩;obtain⟨hi1',hi2'⟩:=Od (GT:=t+1) YT XJ (e1.trans R0.symm) hDN be hi1 TG hP e3 e4 e5 be;have hw12:Bq w w12:=(V.tr r.cZ).tr (ju.grown hgb (fun g X=>by injection X with X;omega) r.dA);have hdN12:eQ w12 (fun x=>x=gd) (.slice dp.a dp.ls.length dp.c) Fd:=Wf.cR fun x U=>by
     rw[U,hgb.block gd (rlo r hF gd TW) (fun e=>Ox (Option.some.inj e).symm),rls r hF TW]
    have hgd12:gd<w12.heap.size:=by have:=rlo r hF gd TW;have:=hgb.size;omega
    generalize P / Fd=Q at*
    refine⟨be,by rw[iC];omega,EQ (out.set k Q),jo out k _ be bv,(k:Int)-1,wo,?_⟩;intro I' w3 R
    refine⟨(k,out.set k Q,rs',w3),⟨by dsimp only;omega,hw12.tr R.cZ,by simp[RK],e1.trans rfl,Sm.set hQ32,e2,?_,?_,?_,hi1',hi2'⟩,
     sbgn [] R,by dsimp only;omega⟩
    .dsimp only;rw[rls R hF Ud];exact e6
    .exact hdN12.cR fun x U=>by rw[U];exact rls R hF TW
    .exact rlo R hF gd TW
   .have Sc:k=0:=by
     have:¬(k:Int)-1≥0:=aG h9;omega
    subst Sc;rw[kA,Nat.one_mul,List.drop_zero]at TG;rw[kA,Nat.one_mul]at hi1;rw[<-hDd]at hi1 TG;obtain⟨hq,hrem⟩:=aBc Uu TG hi1;have Q1:∀J:World,J.heap[gr]? =some (.cells (EQ rs).toArray T.uint32 (0,0))->dc J (fun x=>x=gr) (.slice (some ⟨gr,0,none⟩) rs0.length rs0.length) rs:=fun J hh=>by
     have:=Lz hh XJ be
     rwa [R0]at this
    refine iM (J9:=fun O _ v Y=>dc Y (fun g=>g=(O 0).g) v (eM out)) (H':=[]) 0 rfl bv trivial rfl (fun O J r=>r.nn 0 _ rfl (by intros;simp) bv) (fun O J r=>?_) ?_
    .have hL:=r.pN (id:=0) rfl Sm be;rw[RK]at hL;exact gC (fun g X=>by rw[X];exact(r.low 0 _ rfl (r.nn 0 _ rfl (by intros;simp) bv)).2) hL
    rintro O w13 v13 w14 r L hb14 hL;replace V:=V.tr hb14;have PI:=r.low 0 _ rfl (r.nn 0 _ rfl (by intros;simp) bv);have hs:=L.size;have hgr14:w14.heap[gr]? =some (.cells (EQ rs).toArray T.uint32 (0,0)):=by rw[L.block gr (rlo r hF gr Ud),rls r hF Ud];exact PF
    replace Ud:=Ud.mono (N:=((O 0).g,(O 0).g+1)::(w13.heap.size,w14.heap.size)::iv) fun p hp=>by simp[hp]
    have WD:eQ w14 (Cf w (((O 0).g,(O 0).g+1)::(w13.heap.size,w14.heap.size)::iv)) v13 (n / m):=by
     have:=hL.trimmed;rw[hq]at this;exact this.cP fun k K=>.inr ⟨be,_,_,aH,be,be⟩
    generalize ((O 0).g,(O 0).g+1)::(w13.heap.size,w14.heap.size)::iv=PH at*
    refine cQ (cU (J9:=fun _ _ v Y=>dc Y (fun x=>x=gr) v (eM rs)) (fun O J r=>gC (fun g X=>by rw[X];exact rlo r hF gr Ud) (Q1 J (by rw[rls r hF Ud];exact hgr14))) ?_);rintro O w15 v15 w16 r L hb16 hL;replace V:=V.tr hb16;replace WD:=WD.cS (N:=(w15.heap.size,w16.heap.size)::PH) r hF L fun x U=>aB _ U;replace hL:=hL.cP (S':=Cf w ((w15.heap.size,w16.heap.size)::PH)) fun g X=>by rw[X];exact Ud.cons
    generalize (w15.heap.size,w16.heap.size)::PH=PV at*
    have VR:(eM rs).length<=rs.length:=by
     obtain⟨_,_,k,_,K⟩:=fX rs;rw[K];simp;omega
    refine cQ (cU (J9:=fun _ J v Y=>eQ Y (Nf J Y) v (val (eM rs) / 2^b)) (fun O J r=>aDE (rlo r hF) (dc.rel hL r hF) be PZ) ?_);rintro O w17 v17 w18 r L hb18 hr;replace V:=V.tr hb18;rw[(fX rs).1,hrem]at hr;have Xj:=hr.iR (S:=FF) r.dA (iv:=(w17.heap.size,w18.heap.size)::PV) aH;replace WD:=WD.cS (N:=(w17.heap.size,w18.heap.size)::PV) r hF L fun x U=>aB _ U;generalize (w17.heap.size,w18.heap.size)::PV=Qk at*
    intro I' w19 R;exact⟨_,rfl,V.tr R.cZ,_,_,rfl,(WD.rel R hF).cP fun g X=>Cv.nw X R,((Xj.rel R hF).cP fun g X=>Cv.nw X R).cP fun g X=>X.elim (fun h=>h.elim) .inr⟩
theorem Ip{m:Nat}(F:Old S w)(W:eQ w S v n)(hm:eQ w S u m)(TK:ln n<=100000000000)(QO:ln m<=100000000000):
  eH PG GT.xL #[v,u] w (eR w fun v' Y=>eQ Y (Nw S w Y) v' (Nat.gcd n m)):=by
 refine Ag bv ?_
 refine⟨(Value×Nat)×(Value×Nat)×Iv×World,fun z=>⟨[(0,.o (.v z.1.1)),(1,.o (.v z.2.1.1))],[],0,z.2.2.1,z.2.2.2⟩,fun z=>z.2.1.2,
  fun z=>Bq w z.2.2.2/\eQ z.2.2.2 (Cv S w.heap.size z.2.2.1) z.1.1 z.1.2/\eQ z.2.2.2 (Cv S w.heap.size z.2.2.1) z.2.1.1 z.2.1.2/\ln z.1.2<=100000000000/\ln z.2.1.2<=100000000000/\Nat.gcd z.1.2 z.2.1.2=Nat.gcd n m,?_,?_⟩
 .intro O J r
  exact⟨((v,n),(u,m),[],J),⟨r.cZ,(W.cR fun g X=>r.cZ.block g (F g X)).cP fun _ X=>.inl X,(hm.cR fun g X=>r.cZ.block g (F g X)).cP fun _ X=>.inl X,TK,QO,rfl⟩,
   Sub.gen [] r trivial ⟨rfl,rfl,trivial⟩ trivial (by simp[kK,SV.sc,At.sc]) cs bv⟩
 .rintro⟨⟨vx,x⟩,⟨vy,y⟩,iv,w1⟩ ⟨V,U,hy,Pq,RL,X⟩;dsimp only at V U hy Pq RL X ⊢;have hyN:=hy;obtain⟨p,rfl,Ra,Qa⟩:=hy.la;have Q4:=eu p.lm Qa;rw[Ra]at Q4;apply bS<;>intro h
  .have h:0<p.ls.length:=by
    have:(p.ls.length:Int)>0:=aK h;omega
   have Q8:0<y:=by
    rcases bZ y with h0|h0
    .rw[h0]at Q4;rw[aB7]at Q4;omega
    .exact h0
   refine cQ (cU (J9:=fun _ J v Y=>∃q r,v= .tuple #[q,r]/\eQ Y (Nf J Y) q (x / y)/\eQ Y (Nw (Cv S w.heap.size iv) J Y) r (x % y)) (fun O J r=>sh (rlo r F) (U.rel r F) (hyN.rel r F) Q8 Pq) ?_);rintro O w3 v3 w4 r L TA ⟨q,rm,rfl,-,hr⟩;replace V:=V.tr TA;have Xj:eQ w4 (Cv S w.heap.size ((w3.heap.size,w4.heap.size)::iv)) rm (x % y):=hr.cP fun g X=>Nw.cv X r.dA;have hyN:=hyN.cS (N:=(w3.heap.size,w4.heap.size)::iv) r F L fun x U=>aB _ U;generalize (w3.heap.size,w4.heap.size)::iv=Oy at*
   intro J' w5 r5
   refine⟨((_,y),(rm,x % y),Oy,w5),⟨V.tr r5.cZ,hyN.rel r5 F,Xj.rel r5 F,RL,aX (fq (Nat.le_of_lt (cN x Q8))) RL,?_⟩,
    Sub.gen [] r5 trivial ⟨rfl,rfl,trivial⟩ trivial (by simp[kK,SV.sc,At.sc]) cs bv,cN x Q8⟩
   dsimp only
   rw[<-X,Nat.gcd_comm x y,Nat.gcd_rec y x,Nat.gcd_comm]
  .have h:p.ls.length=0:=by
    have:¬(p.ls.length:Int)>0:=aG h;omega
   have Q8:y=0:=by
    have:=mm y;rw[<-Q4,h,kA]at this;omega
   rw[Q8,Nat.gcd_zero_right]at X;intro J' w5 r5;exact⟨_,rfl,V.tr r5.cZ,by rw[<-X];exact(U.rel r5 F).cP fun g X=>Cv.nw X r5⟩
def sg(neg:Bool)(n:Nat):Int:=if neg then -(n:Int)else n
theorem aAj(n:Nat):sg true n= -(n:Int):=rfl
theorem aDH(n:Nat):sg false n=n:=rfl
theorem vg(b:Bool)(n:Nat):(sg b n).natAbs=n:=by cases b<;>simp[sg]
def xw(w:World)(S:Nat->Prop)(v:Value)(neg:Bool)(ls:List Nat):Prop:=∃lv,v= .agg #[.bool neg,lv]/\dc w S lv ls
def ew(w:World)(S:Nat->Prop)(v:Value)(z:Int):Prop:=∃nv,v= .agg #[.bool (decide (z<0)),nv]/\eQ w S nv z.natAbs
section
variable{S S':Nat->Prop}{H:Hp}{nx:Nat}{iv N:Iv}{B:Nat}{w J Y:World}{O:Nat->Sx.eG}{v:Value}{z:Int}
theorem ew.cR(h:ew w S v z)(K:∀g,S g->Y.heap[g]? =w.heap[g]?):ew Y S v z:=by
 obtain⟨nv,I,G⟩:=h;exact⟨nv,I,G.cR K⟩
theorem ew.cP(h:ew w S v z)(K:∀g,S g->S' g):ew w S' v z:=by
 obtain⟨nv,I,G⟩:=h;exact⟨nv,I,G.cP K⟩
theorem ew.rel(h:ew w (Cv S B iv) v z)(r:Rel H nx iv B w O J)(F:∀g,S g->g<B):ew J (Cv S B iv) v z:=h.cR fun _ X=>rls r F X
theorem ew.cS(h:ew w (Cv S B iv) v z)(r:Rel H nx iv B w O J)(F:∀g,S g->g<B)(L:Ext J Y)(hm:∀p,p∈iv->p∈N):ew Y (Cv S B N) v z:=by
 obtain⟨nv,I,G⟩:=h;exact⟨nv,I,G.cS r F L hm⟩
theorem ew.iR(h:ew Y (Nf J Y) v z)(hB:B<=J.heap.size)(hm:(J.heap.size,Y.heap.size)∈iv):ew Y (Cv S B iv) v z:=h.cP fun _ X=>X.iR hB hm
end
theorem zL{k:Nat}(h:k=ln n):0<k↔0<n:=by
 have I:=@gg n 0;rw[kA]at I;omega
theorem dc.shape(h:dc w S v ls):∃a n c,v= .slice a n c:=by
 obtain⟨a,c,h,_⟩:=h.sl;exact⟨a,_,c,h⟩
theorem eQ.shape(h:eQ w S v n):∃a n c,v= .slice a n c:=by
 obtain⟨_,h,_⟩:=h;exact h.shape
theorem dc.arg(h:dc w S v ls)(iv:Iv):dc w (Cv S w.heap.size iv) v ls:=h.cP fun _ h=>.inl h
theorem eQ.arg(h:eQ w S v n)(iv:Iv):eQ w (Cv S w.heap.size iv) v n:=h.cP fun _ h=>.inl h
theorem eQ.out(h:eQ w1 (Cv S w.heap.size iv) v n)(r:Rel H nx iv w.heap.size w1 O J)(F:Old S w):eQ J (Nw S w J) v n:=
 (h.rel r F).cP fun _ X=>Cv.nw X r
theorem ew.out(h:ew w1 (Cv S w.heap.size iv) v z)(r:Rel H nx iv w.heap.size w1 O J)(F:Old S w):ew J (Nw S w J) v z:=
 (h.rel r F).cP fun _ X=>Cv.nw X r
theorem neg_pos{k:Nat}(h:k=ln n):decide ((k:Int)>0)=decide (-(n:Int)<0):=by
 have:=zL h;exact decide_eq_decide.2 be
theorem aAa(w:World):Old FF w:=fun _ h=>h.elim
theorem oF:Old (fun _=>False) w:=aAa w
theorem aDx{neg:Bool}(F:Old S w)(h:xw w S v neg ls):
  eH PG GT.Cj #[v] w (eR w fun v' Y=>ew Y (Nw S w Y) v' (sg neg (val ls))):=by
 obtain⟨lv,rfl,hl⟩:=h;replace hl:=hl.arg [];refine I6 bv ?_;refine cQ (cU (J9:=fun _ _ v Y=>dc Y (Cv S w.heap.size []) v (eM ls)) (fun O J r=>gC (rlo r F) (dc.rel hl r F)) ?_);rintro O w1 v1 Y r L V hL;have hN:=hL.trimmed.cP (S':=Cv S w.heap.size [(w1.heap.size,Y.heap.size)]) fun _ X=>X.cons;have hN2:=hN;obtain⟨p,rfl,Ra,Qa⟩:=hN.la;have Q4:=eu p.lm Qa;rw[Ra]at Q4
 cases neg
 .intro I' w3 R;exact⟨_,rfl,V.tr R.cZ,_,rfl,by rw[vg];exact hN2.out R F⟩
 .intro I' w3 R;exact⟨_,rfl,V.tr R.cZ,_,by rw[aAj,<-neg_pos Q4];rfl,by rw[vg];exact hN2.out R F⟩
theorem aAk(F:Old S w)(h:ew w S v z)(TK:ln z.natAbs<=100000000000):
  eH PG GT.oD #[v] w (eR w fun v' Y=>∃ls,xw Y (Nf w Y) v' (decide (z<0)) ls/\Nz ls/\val ls=z.natAbs):=by
 obtain⟨nv,rfl,W⟩:=h;obtain⟨ls,hl,hz,hv⟩:=W;replace hl:=hl.arg [];refine sZ bv ?_;refine cQ (cU (J9:=fun _ _ v Y=>dc Y (Cv S w.heap.size []) v (eM ls)) (fun O J r=>gC (rlo r F) (dc.rel hl r F)) ?_);rintro O w1 v1 Y r L V hL;rw[Hi hz]at hL;have Q4:=eu hl.lm hz;rw[hv]at Q4;replace hL:=hL.cP (S':=Cv S w.heap.size [(w1.heap.size,Y.heap.size)]) fun _ X=>X.cons;have hL2:=hL;obtain⟨p,rfl,hp⟩:=hL.la;have XK:(p.ls.length:Int)>0↔z≠0:=by
  have I:=zL Q4;rw[hp];omega
 subst hp;generalize hb:decide (z<0)=b
 cases b
 all_goals
  refine cQ (cU (J9:=fun _ J v Y=>dc Y (Nf J Y) v p.ls) (fun O J r=>Ls (rlo r F) (dc.rel hL2 r F) be) ?_);rintro O w3 v3 w4 r L TA hc;replace V:=V.tr TA;have UP:=hc.iR (S:=FF) r.dA (iv:=(w3.heap.size,w4.heap.size)::[(w1.heap.size,Y.heap.size)]) aH;obtain⟨a3,n3,c3,rfl⟩:=UP.shape;intro J' w5 r5;refine⟨_,rfl,V.tr r5.cZ,p.ls,⟨_,?_,(dc.rel UP r5 oF).cP fun _ X=>Cv.nw X r5⟩,hz,hv⟩
 .rfl
 .have:decide ((p.ls.length:Int)>0)=true:=bf (XK.2 (by have:=aK hb;omega));rw[<-this];rfl
theorem DY(h:ew w S v z):eH PG GT.oB #[v] w (eR w fun v' _=>v'=iV z.sign):=by
 obtain⟨nv,rfl,W⟩:=h;obtain⟨p,rfl,Ra,Qa⟩:=W.la;have Q4:=eu p.lm Qa;rw[Ra]at Q4;have XK:=zL Q4;generalize hb:decide (z<0)=b;refine sX bv ?_;apply bS<;>intro h
 .have h:p.ls.length=0:=by have:=eq_of_beq h;omega
  have hz:z=0:=by omega
  subst hz;intro O Y r;exact⟨_,rfl,r.cZ,rfl⟩
 .have h:p.ls.length≠0:=fun e=>by rw[e]at h;simp at h
  have hz:z≠0:=by omega
  cases b
  .have:=aG hb;intro O Y r;exact⟨_,rfl,r.cZ,by rw[cG be];rfl⟩
  .have:=aK hb;intro O Y r;exact⟨_,rfl,r.cZ,by rw[cD be];rfl⟩
theorem q9(F:Old S w)(h:ew w S v z):eH PG GT.nG #[v] w (eR w fun v' Y=>ew Y (Nw S w Y) v' (-z)):=by
 obtain⟨nv,rfl,W⟩:=h;have R7:=W.arg [];obtain⟨p,rfl,Ra,Qa⟩:=W.la;have Q4:=eu p.lm Qa;rw[Ra]at Q4;have XK:=zL Q4;have QV:(-z).natAbs=z.natAbs:=cO z;generalize hb:decide (z<0)=b;refine rI bv ?_
 cases b
 .have:=aG hb;have hd:decide ((p.ls.length:Int)>0)=decide (-z<0):=decide_eq_decide.2 be;intro O Y r;exact⟨_,rfl,r.cZ,_,by rw[<-hd];rfl,by rw[QV];exact R7.out r F⟩
 .have:=aK hb;have hd:decide (-z<0)=false:=bP be;intro O Y r;exact⟨_,rfl,r.cZ,_,by rw[hd];rfl,by rw[QV];exact R7.out r F⟩
theorem ew.num(h:ew w S v z):∃a n c,v= .agg #[.bool (decide (z<0)),.slice a n c]/\eQ w S (.slice a n c) z.natAbs:=by
 obtain⟨nv,I,G⟩:=h;obtain⟨a,n,c,rfl⟩:=G.shape;exact⟨a,n,c,I,G⟩
theorem FO(F:Old S w)(U:ew w S v x)(hy:ew w S u y)(Pq:ln x.natAbs<=100000000000)(RL:ln y.natAbs<=100000000000):
  eH PG GT.oH #[v,u] w (eR w fun v' Y=>ew Y (Nf w Y) v' (x+y)):=by
 obtain⟨nx,rfl,SY⟩:=U;obtain⟨ny,rfl,Ug⟩:=hy;obtain⟨ax,lx,cx,rfl⟩:=SY.shape;obtain⟨ay,ly,cy,rfl⟩:=Ug.shape;replace SY:=SY.arg [];replace Ug:=Ug.arg [];generalize TZ:decide (x<0)=bx;generalize PZ:decide (y<0)=b2;refine s5 bv ?_;have Sa:bx=b2->(x+y).natAbs=x.natAbs+y.natAbs/\decide (x+y<0)=bx:=fun e=>by
  cases bx<;>subst e
  .have I:=aG TZ;have G:=aG PZ;exact⟨be,bP be⟩
  .have I:=aK TZ;have G:=aK PZ;exact⟨be,bf be⟩
 have Wq:bx≠b2->y.natAbs<=x.natAbs->(x+y).natAbs=x.natAbs-y.natAbs/\(decide (x+y<0)=(bx&&decide (x.natAbs-y.natAbs≠0))):=fun e h=>by
  cases bx
  .have I:=aG TZ
   cases b2
   .exact absurd rfl e
   have G:=aK PZ;exact⟨be,by rw[Bool.false_and];exact bP be⟩
  .have I:=aK TZ
   cases b2
   .have G:=aG PZ;exact⟨be,by rw[Bool.true_and];exact decide_eq_decide.2 be⟩
   .exact absurd rfl e
 have VB:bx≠b2->x.natAbs<y.natAbs->(x+y).natAbs=y.natAbs-x.natAbs/\decide (x+y<0)=b2:=fun e h=>by
  cases bx
  .have I:=aG TZ
   cases b2
   .exact absurd rfl e
   have G:=aK PZ;exact⟨be,bf be⟩
  .have I:=aK TZ
   cases b2
   .have G:=aG PZ;exact⟨be,bP be⟩
   .exact absurd rfl e
 by_cases PO:bx=b2
 .obtain⟨I,G⟩:=Sa PO;subst PO
  cases bx
  all_goals
   refine dP (idO 9) ?_;refine cU (J9:=fun _ J v Y=>eQ Y (Nf J Y) v (x.natAbs+y.natAbs)) (fun O J r=>aDJ (rlo r F) (SY.rel r F) (Ug.rel r F) be be) ?_;rintro O w3 v3 w4 r L V W;have hN:=W.iR (S:=FF) r.dA (iv:=(w3.heap.size,w4.heap.size)::[]) aH;obtain⟨a3,n3,c3,rfl⟩:=hN.shape;intro J' w5 r5;exact⟨_,rfl,V.tr r5.cZ,_,by rw[G];rfl,by rw[I];exact hN.out r5 oF⟩
 .replace Wq:=Wq PO;replace VB:=VB PO;have hcmp:∀d:Int,d=vT x.natAbs y.natAbs->(0<=d↔y.natAbs<=x.natAbs):=fun d e=>by
   rw[e];unfold vT;split
   .omega
   .split<;>omega
  cases bx<;>cases b2<;>first|exact absurd rfl PO|skip
  all_goals
   refine cQ (cU (J9:=fun _ _ v _=>v=iV (vT x.natAbs y.natAbs)) (fun O J r=>aA3 (rlo r F) (SY.rel r F) (Ug.rel r F)) ?_);rintro O w1 v1 Y r L V rfl;replace SY:=SY.cS (N:=[(w1.heap.size,Y.heap.size)]) r F L fun x U=>aB _ U;replace Ug:=Ug.cS (N:=[(w1.heap.size,Y.heap.size)]) r F L fun x U=>aB _ U;apply bS<;>intro h
   .have h:=(hcmp _ rfl).1 (aK h);obtain⟨I,G⟩:=Wq h;refine cQ (cU (J9:=fun _ J v Y=>eQ Y (Nf J Y) v (x.natAbs-y.natAbs)) (fun O J r=>Gj (rlo r F) (SY.rel r F) (Ug.rel r F) h be) ?_);rintro O w3 v3 w4 r L TA W;replace V:=V.tr TA;have hN:=W.iR (S:=FF) r.dA (iv:=(w3.heap.size,w4.heap.size)::[(w1.heap.size,Y.heap.size)]) aH;have hN2:=hN;obtain⟨p,rfl,Ra,Qa⟩:=hN.la;have Q4:=eu p.lm Qa;rw[Ra]at Q4;have XK:=zL Q4;have hd:decide ((p.ls.length:Int)>0)=decide (x.natAbs-y.natAbs≠0):=decide_eq_decide.2 be;intro J' w5 r5;exact⟨_,rfl,V.tr r5.cZ,_,by rw[G,<-hd];rfl,by rw[I];exact hN2.out r5 oF⟩
   .have h:x.natAbs<y.natAbs:=by
     have h0:=aG h;have:=hcmp _ rfl;omega
    obtain⟨I,G⟩:=VB h;refine dP (idO 9) ?_;refine cU (J9:=fun _ J v Y=>eQ Y (Nf J Y) v (y.natAbs-x.natAbs)) (fun O J r=>Gj (rlo r F) (Ug.rel r F) (SY.rel r F) be be) ?_;rintro O w3 v3 w4 r L TA W;replace V:=V.tr TA;have hN:=W.iR (S:=FF) r.dA (iv:=(w3.heap.size,w4.heap.size)::[(w1.heap.size,Y.heap.size)]) aH;obtain⟨a3,n3,c3,rfl⟩:=hN.shape;intro J' w5 r5;exact⟨_,rfl,V.tr r5.cZ,_,by rw[G];rfl,by rw[I];exact hN.out r5 oF⟩
theorem jI(F:Old S w)(U:ew w S v x)(hy:ew w S u y)(Pq:ln x.natAbs<=100000000000)(RL:ln y.natAbs<=100000000000):
  eH PG GT.nF #[v,u] w (eR w fun v' Y=>ew Y (Nf w Y) v' (x*y)):=by
 obtain⟨nx,rfl,SY⟩:=U;obtain⟨ny,rfl,Ug⟩:=hy;obtain⟨ax,lx,cx,rfl⟩:=SY.shape;obtain⟨ay,ly,cy,rfl⟩:=Ug.shape;replace SY:=SY.arg [];replace Ug:=Ug.arg [];have QV:=Int.natAbs_mul x y;have SJ:decide (x*y<0)=((decide (x<0) != decide (y<0))&&decide (x.natAbs*y.natAbs≠0)):=by
  by_cases h0:x*y=0
  .rw[<-QV,h0];simp
  .have SS:x≠0:=fun e=>h0 (by rw[e,Int.zero_mul]);have Q8:y≠0:=fun e=>h0 (by rw[e,Int.mul_zero]);rw[<-QV,bf (show (x*y).natAbs≠0 by omega),Bool.and_true];by_cases I:x<0<;>by_cases G:y<0
   .rw[bf I,bf G];exact bP (by have:=Int.mul_pos_of_neg_of_neg I G;omega)
   .rw[bf I,bP G];exact bf (Int.mul_neg_of_neg_of_pos I be)
   .rw[bP I,bf G];exact bf (Int.mul_neg_of_pos_of_neg be G)
   .rw[bP I,bP G];exact bP (by have:=Int.mul_nonneg (show 0<=x by omega) (show 0<=y by omega);omega)
 generalize decide (x<0)=bx at*
 generalize decide (y<0)=b2 at*
 refine rH bv ?_;refine cQ (cU (J9:=fun _ J v Y=>eQ Y (Nf J Y) v (x.natAbs*y.natAbs)) (fun O J r=>Lx (rlo r F) (SY.rel r F) (Ug.rel r F) be be) ?_);rintro O w3 v3 w4 r L V W;have hN:=W.iR (S:=FF) r.dA (iv:=(w3.heap.size,w4.heap.size)::[]) aH;have hN2:=hN;obtain⟨p,rfl,Ra,Qa⟩:=hN.la;have Q4:=eu p.lm Qa;rw[Ra]at Q4;have XK:=zL Q4;have hd:decide ((p.ls.length:Int)>0)=decide (x.natAbs*y.natAbs≠0):=decide_eq_decide.2 be
 cases bx<;>cases b2
 all_goals
  intro J' w5 r5;exact⟨_,rfl,V.tr r5.cZ,_,by rw[SJ,<-hd];rfl,by rw[QV];exact hN2.out r5 oF⟩
theorem aAo(F:Old S w)(U:ew w S v x)(hy:ew w S u y)(Pq:ln x.natAbs<=100000000000)(RL:ln y.natAbs<=100000000000):
  eH PG GT.pC #[v,u] w (eR w fun v' _=>v'=iV (x-y).sign):=by
 have hxN:ew w (Cv S w.heap.size []) v x:=U.cP fun _ h=>.inl h;have hyN:ew w (Cv S w.heap.size []) u y:=hy.cP fun _ h=>.inl h;obtain⟨nx,rfl,SY⟩:=U;obtain⟨ny,rfl,Ug⟩:=hy;obtain⟨ax,lx,cx,rfl⟩:=SY.shape;obtain⟨ay,ly,cy,rfl⟩:=Ug.shape;refine tq bv ?_;refine dP (idO 6) ?_;refine cU (J9:=fun _ J v Y=>ew Y (Nw (Cv S w.heap.size []) J Y) v (-y)) (fun O J r=>q9 (rlo r F) (hyN.rel r F)) ?_;rintro O w1 v1 Y r L V hm;have Vj:ew Y (Cv S w.heap.size [(w1.heap.size,Y.heap.size)]) v1 (-y):=hm.cP fun _ X=>Nw.cv X r.dA;replace hxN:=hxN.cS (N:=[(w1.heap.size,Y.heap.size)]) r F L fun x U=>aB _ U;generalize [(w1.heap.size,Y.heap.size)]=iv at*
 have hmN2:=Vj;obtain⟨am,lm,cm,rfl,-⟩:=Vj.num;refine cU (J9:=fun _ J v Y=>ew Y (Nf J Y) v (x+ -y)) (fun O J r=>FO (rlo r F) (hxN.rel r F) (hmN2.rel r F) Pq (by rw[cO];exact RL)) ?_;rintro O w3 v3 w4 r L TA hp;replace V:=V.tr TA;have hpN:=hp.iR (S:=S) r.dA (iv:=(w3.heap.size,w4.heap.size)::iv) aH;have hpN2:=hpN;obtain⟨ap,lp,cp,rfl,-⟩:=hpN.num;refine cU (J9:=fun _ _ v _=>v=iV (x-y).sign) (fun O J r=>DY (hpN2.rel r F)) ?_;rintro O w5 v5 w6 r L WX rfl;replace V:=V.tr WX;intro K' w7 r7;exact⟨_,rfl,V.tr r7.cZ,rfl⟩
theorem qh(n:Int)(w:World)(I: -9223372036854775808<=n)(G:n<=9223372036854775807):
  eH PG GT.zu #[iV n] w (eR w fun v' Y=>ew Y (Nf w Y) v' n):=by
 have key:∀(m:Nat),m=n.natAbs->m<18446744073709551616/\val [m % 4294967296,m / 4294967296]=n.natAbs/\m / 4294967296<4294967296:=fun m e=>by
  refine⟨be,?_,be⟩;simp only[val]
  omega
 refine DD bv ?_;refine⟨if n<0 then n+18446744073709551616 else n,by show n % 18446744073709551616=_;split<;>omega,?_⟩;apply bS<;>intro h
 .have h:=aK h;rw[aM h];obtain⟨m,hm⟩:∃m,m=n.natAbs:=⟨_,rfl⟩
  obtain⟨k1,k2,k3⟩:=key m hm;refine⟨(m:Int),by show(0-(n+18446744073709551616)) % 18446744073709551616=_;omega,((m % 4294967296:Nat):Int),fm m,bi,((m / 2^32:Nat):Int),nO 32 bi,((m / 4294967296:Nat):Int),by rw[fm,b9 be],?_⟩;refine iM (J9:=fun O _ v Y=>dc Y (fun g=>g=(O 1).g) v (eM [m % 4294967296,m / 4294967296])) (H':=[(0,.box T.number [.v (.bool false),.v nls])]) 1 rfl bv ⟨rfl,trivial⟩ rfl (fun O J r=>r.nn 1 _ rfl (by intros;simp) bv) (fun O J r=>?_) ?_
  .have hL:=r.xo (id:=1) (ls:=[m % 4294967296,m / 4294967296]) rfl (by intro x U;simp at U;omega) bv;exact gC (fun g X=>by rw[X];exact(r.low 1 _ rfl (r.nn 1 _ rfl (by intros;simp) bv)).2) hL
  rintro O w1 v1 Y r L V hL;have PI:=r.low 1 _ rfl (r.nn 1 _ rfl (by intros;simp) bv);have hs:=L.size;generalize (O 1).g=g0 at*
  have hN:eQ Y (Cf w [(g0,g0+1),(w1.heap.size,Y.heap.size)]) v1 n.natAbs:=by
   have:=hL.trimmed;rw[k2]at this;exact this.cP fun k K=>.inr ⟨be,g0,g0+1,bv,be,be⟩
  generalize [(g0,g0+1),(w1.heap.size,Y.heap.size)]=iv at*
  obtain⟨a3,n3,c3,rfl⟩:=hN.shape;intro J' w5 r5;exact⟨_,rfl,V.tr r5.cZ,_,rfl,hN.out r5 oF⟩
 .have h:=aG h;rw[aJ h];obtain⟨m,hm⟩:∃m,m=n.natAbs:=⟨_,rfl⟩
  obtain⟨k1,k2,k3⟩:=key m hm;have R4:n=(m:Int):=by omega
  refine⟨((m % 4294967296:Nat):Int),by rw[R4];exact fm m,bi,((m / 2^32:Nat):Int),by rw[R4];exact nO 32 bi,((m / 4294967296:Nat):Int),by rw[fm,b9 be],?_⟩;refine iM (J9:=fun O _ v Y=>dc Y (fun g=>g=(O 1).g) v (eM [m % 4294967296,m / 4294967296])) (H':=[(0,.box T.number [.v (.bool false),.v nls])]) 1 rfl bv ⟨rfl,trivial⟩ rfl (fun O J r=>r.nn 1 _ rfl (by intros;simp) bv) (fun O J r=>?_) ?_
  .have hL:=r.xo (id:=1) (ls:=[m % 4294967296,m / 4294967296]) rfl (by intro x U;simp at U;omega) bv;exact gC (fun g X=>by rw[X];exact(r.low 1 _ rfl (r.nn 1 _ rfl (by intros;simp) bv)).2) hL
  rintro O w1 v1 Y r L V hL;have PI:=r.low 1 _ rfl (r.nn 1 _ rfl (by intros;simp) bv);have hs:=L.size;generalize (O 1).g=g0 at*
  have hN:eQ Y (Cf w [(g0,g0+1),(w1.heap.size,Y.heap.size)]) v1 n.natAbs:=by
   have:=hL.trimmed;rw[k2]at this;exact this.cP fun k K=>.inr ⟨be,g0,g0+1,bv,be,be⟩
  generalize [(g0,g0+1),(w1.heap.size,Y.heap.size)]=iv at*
  obtain⟨a3,n3,c3,rfl⟩:=hN.shape;intro J' w5 r5;exact⟨_,rfl,V.tr r5.cZ,_,rfl,hN.out r5 oF⟩
def kX(w:World)(S:Nat->Prop)(v:Value)(z:Int):Prop:=∃neg ls,xw w S v neg ls/\sg neg (val ls)=z
def db(w:World)(S:Nat->Prop)(v:Value)(z:Int):Prop:=∃ls,xw w S v (decide (z<0)) ls/\Nz ls/\val ls=z.natAbs
theorem FU(z:Int):sg (decide (z<0)) z.natAbs=z:=by
 by_cases h:z<0
 .rw[bf h,aAj];omega
 .rw[bP h,aDH];omega
theorem db.r(h:db w S v z):kX w S v z:=by
 obtain⟨ls,I,G,h3⟩:=h;exact⟨_,ls,I,by rw[h3,FU]⟩
section
variable{S S':Nat->Prop}{H:Hp}{nx:Nat}{iv N:Iv}{B:Nat}{w J Y:World}{O:Nat->Sx.eG}{v:Value}{z:Int}{neg:Bool}{ls:List Nat}
theorem xw.cR(h:xw w S v neg ls)(K:∀g,S g->Y.heap[g]? =w.heap[g]?):xw Y S v neg ls:=by
 obtain⟨lv,I,G⟩:=h;exact⟨lv,I,G.cR K⟩
theorem xw.cP(h:xw w S v neg ls)(K:∀g,S g->S' g):xw w S' v neg ls:=by
 obtain⟨lv,I,G⟩:=h;exact⟨lv,I,G.cP K⟩
theorem kX.cR(h:kX w S v z)(K:∀g,S g->Y.heap[g]? =w.heap[g]?):kX Y S v z:=by
 obtain⟨n,l,I,G⟩:=h;exact⟨n,l,I.cR K,G⟩
theorem kX.cP(h:kX w S v z)(K:∀g,S g->S' g):kX w S' v z:=by
 obtain⟨n,l,I,G⟩:=h;exact⟨n,l,I.cP K,G⟩
theorem db.cR(h:db w S v z)(K:∀g,S g->Y.heap[g]? =w.heap[g]?):db Y S v z:=by
 obtain⟨l,I,G⟩:=h;exact⟨l,I.cR K,G⟩
theorem db.cP(h:db w S v z)(K:∀g,S g->S' g):db w S' v z:=by
 obtain⟨l,I,G⟩:=h;exact⟨l,I.cP K,G⟩
theorem kX.rel(h:kX w (Cv S B iv) v z)(r:Rel H nx iv B w O J)(F:∀g,S g->g<B):kX J (Cv S B iv) v z:=h.cR fun _ X=>rls r F X
theorem db.rel(h:db w (Cv S B iv) v z)(r:Rel H nx iv B w O J)(F:∀g,S g->g<B):db J (Cv S B iv) v z:=h.cR fun _ X=>rls r F X
theorem kX.cS(h:kX w (Cv S B iv) v z)(r:Rel H nx iv B w O J)(F:∀g,S g->g<B)(L:Ext J Y)(hm:∀p,p∈iv->p∈N):kX Y (Cv S B N) v z:=
 ((h.rel r F).cR fun g X=>L.block g (rlo r F g X)).cP fun _ X=>X.mono hm
theorem db.cS(h:db w (Cv S B iv) v z)(r:Rel H nx iv B w O J)(F:∀g,S g->g<B)(L:Ext J Y)(hm:∀p,p∈iv->p∈N):db Y (Cv S B N) v z:=
 ((h.rel r F).cR fun g X=>L.block g (rlo r F g X)).cP fun _ X=>X.mono hm
theorem db.iR(h:db Y (Nf J Y) v z)(hB:B<=J.heap.size)(hm:(J.heap.size,Y.heap.size)∈iv):db Y (Cv S B iv) v z:=h.cP fun _ X=>X.iR hB hm
theorem kX.shape(h:kX w S v z):∃b a n c,v= .agg #[.bool b,.slice a n c]:=by
 obtain⟨b,l,⟨lv,I,G⟩,_⟩:=h;obtain⟨a,n,c,rfl⟩:=G.shape;exact⟨b,a,n,c,I⟩
theorem ew.old(h:ew Y (Nw (Cv S B iv) J Y) v z)(hB:B<=J.heap.size):ew Y (Cv S B ((J.heap.size,Y.heap.size)::iv)) v z:=h.cP fun _ X=>Nw.cv X hB
end
theorem db.out(h:db w1 (Cv S w.heap.size iv) v z)(r:Rel H nx iv w.heap.size w1 O J)(F:Old S w):db J (Nw S w J) v z:=
 (h.rel r F).cP fun _ X=>Cv.nw X r
theorem aAv(F:Old S w)(h:kX w S v z):eH PG GT.Cj #[v] w (eR w fun v' Y=>ew Y (Nw S w Y) v' z):=by
 obtain⟨n,l,I,rfl⟩:=h;exact aDx F I
theorem ew.shape(h:ew w S v z):∃b a n c,v= .agg #[.bool b,.slice a n c]:=by
 obtain⟨a,n,c,I,_⟩:=h.num;exact⟨_,a,n,c,I⟩
theorem db.shape(h:db w S v z):∃b a n c,v= .agg #[.bool b,.slice a n c]:=h.r.shape
theorem dR(x y:Int):ln (x*y).natAbs<=ln x.natAbs+ln y.natAbs:=by
 rw[Int.natAbs_mul];exact aCl _ _
end Go.Ex
namespace Go.Ex
open Go Go.Sx
theorem CC{x y:Int}(hy:0<y)(U:x≠0):
  (Rat.divInt x y).num.natAbs=x.natAbs / Nat.gcd x.natAbs y.natAbs/\(Rat.divInt x y).den=y.natAbs / Nat.gcd x.natAbs y.natAbs/\decide ((Rat.divInt x y).num<0)=decide (x<0):=by
 have X:0<Nat.gcd x.natAbs y.natAbs:=cJ _ be;have hs:y.sign=1:=cG hy;have hc:(y.gcd x:Int)=(Nat.gcd x.natAbs y.natAbs:Nat):=by rw[Int.gcd_comm];rfl
 have hdx:((Nat.gcd x.natAbs y.natAbs:Nat):Int) ∣ x:=by
  rw[<-Int.natAbs_dvd_natAbs];exact Nat.gcd_dvd_left _ _
 have I:(Rat.divInt x y).num=x / ((Nat.gcd x.natAbs y.natAbs:Nat):Int):=by
  rw[Rat.num_divInt,hs,Int.one_mul,hc]
 have XY:0<((Nat.gcd x.natAbs y.natAbs:Nat):Int):=by omega
 refine⟨?_,?_,?_⟩
 .rw[I,Int.natAbs_ediv_of_dvd hdx];rfl
 .rw[Rat.den_divInt,aJ be];have:y.gcd x=Nat.gcd x.natAbs y.natAbs:=by rw[Int.gcd_comm];rfl
  rw[this]
 .rw[I];obtain⟨k,K⟩:=hdx;refine decide_eq_decide.2 ?_;have:x / ((Nat.gcd x.natAbs y.natAbs:Nat):Int)=k:=by
   conv=>lhs;lhs;rw[K]
   exact Int.mul_ediv_cancel_left _ be
  rw[this];generalize ((Nat.gcd x.natAbs y.natAbs:Nat):Int)=g at*
  subst K;constructor
  .intro h;exact Int.mul_neg_of_pos_of_neg XY h
  .intro h;have h0:¬0<=k:=fun hh=>by have:=Int.mul_nonneg (show 0<=g by omega) hh;omega
   omega
theorem Mi{a b:Nat}:ln (a / b)<=ln a:=fq (Nat.div_le_self a b)
theorem CD(y:Int):Rat.divInt 0 y=0:=Rat.zero_divInt y
end Go.Ex
namespace Go.Ex
open Go Go.Sx Go.Proofs
variable{b b2:Bool}{S:Nat->Prop}{q:Rat}{dv nv v:Value}{w:World}
theorem eQ.old{B:Nat}{iv:Iv}{J Y:World}{n:Nat}(h:eQ Y (Nw (Cv S B iv) J Y) v n)(hB:B<=J.heap.size):eQ Y (Cv S B ((J.heap.size,Y.heap.size)::iv)) v n:=h.cP fun _ X=>Nw.cv X hB
def dH(w:World)(S:Nat->Prop)(v:Value)(q:Rat):Prop:=∃nv dv,v= .agg #[.bool (decide (q.num<0)),nv,.bool false,dv]/\eQ w S nv q.num.natAbs/\eQ w S dv q.den
theorem dH.cR{Y:World}(h:dH w S v q)(K:∀g,S g->Y.heap[g]? =w.heap[g]?):dH Y S v q:=by
 obtain⟨n,d,I,G,h3⟩:=h;exact⟨n,d,I,G.cR K,h3.cR K⟩
theorem dH.cP{S':Nat->Prop}(h:dH w S v q)(K:∀g,S g->S' g):dH w S' v q:=by
 obtain⟨n,d,I,G,h3⟩:=h;exact⟨n,d,I,G.cP K,h3.cP K⟩
theorem dH.shape(h:dH w S v q):∃b a n c b2 a2 n2 c2,v= .agg #[.bool b,.slice a n c,.bool b2,.slice a2 n2 c2]:=by
 obtain⟨n,d,I,G,h3⟩:=h;obtain⟨a,n,c,rfl⟩:=G.shape;obtain⟨a2,n2,c2,rfl⟩:=h3.shape;exact⟨_,a,n,c,_,a2,n2,c2,I⟩
theorem dH.num(h:dH w S (.agg #[.bool b,nv,.bool b2,dv]) q):ew w S (.agg #[.bool b,nv]) q.num:=by
 obtain⟨n,d,I,G,h3⟩:=h;simp at I;obtain⟨rfl,rfl,rfl,rfl⟩:=I;exact⟨_,rfl,G⟩
theorem dH.den(h:dH w S (.agg #[.bool b,nv,.bool b2,dv]) q):ew w S (.agg #[.bool b2,dv]) (q.den:Int):=by
 obtain⟨n,d,I,G,h3⟩:=h;simp at I;obtain⟨rfl,rfl,rfl,rfl⟩:=I;exact⟨_,by rw[bP be],h3⟩
theorem dH.of(h:ew w S (.agg #[.bool b,nv]) q.num)(k:ew w S (.agg #[.bool b2,dv]) (q.den:Int)):dH w S (.agg #[.bool b,nv,.bool b2,dv]) q:=by
 obtain⟨n,I,G⟩:=h;obtain⟨d,h3,h4⟩:=k;simp at I h3;obtain⟨rfl,rfl⟩:=I;obtain⟨rfl,rfl⟩:=h3;refine⟨_,_,?_,G,h4⟩;rw[bP (show ¬((q.den:Int)<0) by omega)]
section
variable{S S':Nat->Prop}{H:Hp}{nx:Nat}{iv N:Iv}{B:Nat}{w J Y:World}{O:Nat->Sx.eG}{v:Value}{q:Rat}
theorem dH.rel(h:dH w (Cv S B iv) v q)(r:Rel H nx iv B w O J)(F:∀g,S g->g<B):dH J (Cv S B iv) v q:=h.cR fun _ X=>rls r F X
theorem dH.cS(h:dH w (Cv S B iv) v q)(r:Rel H nx iv B w O J)(F:∀g,S g->g<B)(L:Ext J Y)(hm:∀p,p∈iv->p∈N):dH Y (Cv S B N) v q:=
 ((h.rel r F).cR fun g X=>L.block g (rlo r F g X)).cP fun _ X=>X.mono hm
theorem dH.iR(h:dH Y (Nf J Y) v q)(hB:B<=J.heap.size)(hm:(J.heap.size,Y.heap.size)∈iv):dH Y (Cv S B iv) v q:=h.cP fun _ X=>X.iR hB hm
theorem dH.old(h:dH Y (Nw (Cv S B iv) J Y) v q)(hB:B<=J.heap.size):dH Y (Cv S B ((J.heap.size,Y.heap.size)::iv)) v q:=h.cP fun _ X=>Nw.cv X hB
theorem dH.out{w0 w1:World}(h:dH w1 (Cv S w0.heap.size iv) v q)(r:Rel H nx iv w0.heap.size w1 O J)(F:Old S w0):dH J (Nw S w0 J) v q:=
 (h.rel r F).cP fun _ X=>Cv.nw X r
theorem dH.arg(h:dH w S v q)(iv:Iv):dH w (Cv S w.heap.size iv) v q:=h.cP fun _ h=>.inl h
end
theorem ew.nat{z:Int}(h:ew w S (.agg #[.bool b,nv]) z):b=decide (z<0)/\eQ w S nv z.natAbs:=by
 obtain⟨n,I,G⟩:=h;simp at I;obtain⟨rfl,rfl⟩:=I;exact⟨rfl,G⟩
theorem zO{u:Value}{x y:Int}(F:Old S w)(U:ew w S v x)(hy:ew w S u y)(Q8:y≠0)(Pq:ln x.natAbs<=100000000000)(RL:ln y.natAbs<=100000000000):
  eH PG GT.Ce #[v,u] w (eR w fun v' Y=>dH Y (Nf w Y) v' (Rat.divInt x y)):=by
 have V:=bR w;replace U:=U.cP (S':=Cv S w.heap.size []) fun _ h=>.inl h;replace hy:=hy.cP (S':=Cv S w.heap.size []) fun _ h=>.inl h;obtain⟨bx,ax,lx,cx,rfl⟩:=U.shape;obtain⟨b2,ay,ly,cy,rfl⟩:=hy.shape;have RW:=hy.nat.1;refine Ds bv ?_
 cases b2
 .have hyp:0<y:=by have:=aG RW.symm;omega
  have hq:Rat.divInt x y=Rat.divInt x y:=rfl;have hbA:=U.nat.1;refine cQ (cE V (pE (iV (x).sign)) (fun O J r=>DY (U.rel r F)) ?_);rintro O Pw v1 Pa PA r L V E rfl;replace U:=U.cS r F L (mC E);replace hy:=hy.cS r F L (mC E);apply bS<;>intro h
  .have h:x=0:=cM.1 (eq_of_beq h);refine cQ (cE V (pR ew 1) (fun O J r=>qh 1 J bi bi) ?_);rintro O Qb v2 Px Oy r L V E W;have hO:=W.cP (nw r E);obtain⟨A0,A1,A2,A3,rfl⟩:=hO.shape;have e0:Rat.divInt x y=0:=by rw[hq,h,CD]
   exact rtn V fun J8 we re=>by rw[e0];exact dH.of ⟨_,rfl,eQ.nil _ _⟩ (hO.out re oF)
  .have h:x≠0:=fun e=>by rw[e]at h;exact absurd h bi
   obtain⟨g1,g2,g3⟩:=CC hyp h;have Uh:0<Nat.gcd (x).natAbs (y).natAbs:=cJ _ be;have YB:=U.nat.2;have Vr:=hy.nat.2;refine cQ (cU (J9:=fun _ J v Y=>eQ Y (Nw (Cv S w.heap.size PA) J Y) v (Nat.gcd (x).natAbs (y).natAbs)) (fun O J r=>Ip (rlo r F) (YB.rel r F) (Vr.rel r F) be be) ?_);rintro O Qb v2 Px r L hb W;replace V:=V.tr hb;replace YB:=YB.cS (N:=(Qb.heap.size,Px.heap.size)::PA) r F L fun x U=>aB _ U;replace Vr:=Vr.cS (N:=(Qb.heap.size,Px.heap.size)::PA) r F L fun x U=>aB _ U;have hG:=W.old r.dA;generalize (Qb.heap.size,Px.heap.size)::PA=Oy at*
   obtain⟨A0,A1,A2,rfl⟩:=hG.shape;refine cQ (cU (J9:=fun _ J v Y=>∃q r,v= .tuple #[q,r]/\eQ Y (Nf J Y) q ((x).natAbs / Nat.gcd (x).natAbs (y).natAbs)/\eQ Y (Nw (Cv S w.heap.size Oy) J Y) r ((x).natAbs % Nat.gcd (x).natAbs (y).natAbs)) (fun O J r=>sh (rlo r F) (YB.rel r F) (hG.rel r F) Uh be) ?_);rintro O QD v3 QC r L hb ⟨qvp,rvp,rfl,SW,Tk⟩;replace V:=V.tr hb;replace Vr:=Vr.cS (N:=(QD.heap.size,QC.heap.size)::Oy) r F L fun x U=>aB _ U;replace hG:=hG.cS (N:=(QD.heap.size,QC.heap.size)::Oy) r F L fun x U=>aB _ U;have hP:=SW.iR (S:=FF) r.dA (iv:=(QD.heap.size,QC.heap.size)::Oy) aH;have hPr:=Tk.old r.dA;generalize (QD.heap.size,QC.heap.size)::Oy=PH at*
   obtain⟨s3_0a,s3_0b,s3_0c,rfl⟩:=hP.shape;obtain⟨s3_1a,s3_1b,s3_1c,rfl⟩:=hPr.shape;refine cQ (cU (J9:=fun _ J v Y=>∃q r,v= .tuple #[q,r]/\eQ Y (Nf J Y) q ((y).natAbs / Nat.gcd (x).natAbs (y).natAbs)/\eQ Y (Nw (Cv S w.heap.size PH) J Y) r ((y).natAbs % Nat.gcd (x).natAbs (y).natAbs)) (fun O J r=>sh (rlo r F) (Vr.rel r F) (hG.rel r F) Uh be) ?_);rintro O RF v4 Qw r L hb ⟨qvq,rvq,rfl,SW,Tk⟩;replace V:=V.tr hb;replace hP:=hP.cS (N:=(RF.heap.size,Qw.heap.size)::PH) r oF L fun x U=>aB _ U;have hQ:=SW.iR (S:=FF) r.dA (iv:=(RF.heap.size,Qw.heap.size)::PH) aH;have hQr:=Tk.old r.dA;generalize (RF.heap.size,Qw.heap.size)::PH=PV at*
   obtain⟨s4_0a,s4_0b,s4_0c,rfl⟩:=hQ.shape;obtain⟨s4_1a,s4_1b,s4_1c,rfl⟩:=hQr.shape;exact rtn V fun J8 we re=>by rw[hq];exact dH.of ⟨_,by rw[g3,<-hbA],by rw[g1];exact hP.out re oF⟩ ⟨_,by rw[bP be],by rw[g2];exact hQ.out re oF⟩
 .have hyp:0< -y:=by have:=aK RW.symm;omega
  have hq:Rat.divInt x y=Rat.divInt (-x) (-y):=(Rat.neg_divInt_neg _ _).symm;have nx:=cO x;have ny:=cO y;have hlx2:ln (-x).natAbs<=100000000000:=by rw[nx];exact Pq
  have hly2:ln (-y).natAbs<=100000000000:=by rw[ny];exact RL
  refine dP [.x 0,.x 2,.x 1,.x 3,.x 4,.x 5] ?_;refine cU (J9:=fun _ J v Y=>ew Y (Nw (Cv S w.heap.size []) J Y) v (-x)) (fun O J r=>q9 (rlo r F) (U.rel r F)) ?_;rintro O Pw v1 Pa r L hb W;replace V:=V.tr hb;replace hy:=hy.cS (N:=(Pw.heap.size,Pa.heap.size)::[]) r F L fun x U=>aB _ U;have hA:=W.old r.dA;generalize (Pw.heap.size,Pa.heap.size)::[]=PA at*
  obtain⟨C0,C1,C2,C3,rfl⟩:=hA.shape;refine cU (J9:=fun _ J v Y=>ew Y (Nw (Cv S w.heap.size PA) J Y) v (-y)) (fun O J r=>q9 (rlo r F) (hy.rel r F)) ?_;rintro O Qb v2 Px r L hb W;replace V:=V.tr hb;replace hA:=hA.cS (N:=(Qb.heap.size,Px.heap.size)::PA) r F L fun x U=>aB _ U;have hB:=W.old r.dA;generalize (Qb.heap.size,Px.heap.size)::PA=Oy at*
  obtain⟨A0,A1,A2,A3,rfl⟩:=hB.shape;have hbA:=hA.nat.1;refine cQ (cE V (pE (iV (-x).sign)) (fun O J r=>DY (hA.rel r F)) ?_);rintro O _ _ _ PH r L V E rfl;replace hA:=hA.cS r F L (mC E);replace hB:=hB.cS r F L (mC E);apply bS<;>intro h
  .have h: -x=0:=cM.1 (eq_of_beq h);refine cQ (cE V (pR ew 1) (fun O J r=>qh 1 J bi bi) ?_);rintro O RF v4 Qw PV r L V E W;have hO:=W.cP (nw r E);obtain⟨F0,F1,F2,F3,rfl⟩:=hO.shape;have e0:Rat.divInt x y=0:=by rw[hq,h,CD]
   exact rtn V fun J8 we re=>by rw[e0];exact dH.of ⟨_,rfl,eQ.nil _ _⟩ (hO.out re oF)
  .have h: -x≠0:=fun e=>by rw[e]at h;exact absurd h bi
   obtain⟨g1,g2,g3⟩:=CC hyp h;have Uh:0<Nat.gcd (-x).natAbs (-y).natAbs:=cJ _ be;have YB:=hA.nat.2;have Vr:=hB.nat.2;refine cQ (cU (J9:=fun _ J v Y=>eQ Y (Nw (Cv S w.heap.size PH) J Y) v (Nat.gcd (-x).natAbs (-y).natAbs)) (fun O J r=>Ip (rlo r F) (YB.rel r F) (Vr.rel r F) be be) ?_);rintro O RF v4 Qw r L hb W;replace V:=V.tr hb;replace YB:=YB.cS (N:=(RF.heap.size,Qw.heap.size)::PH) r F L fun x U=>aB _ U;replace Vr:=Vr.cS (N:=(RF.heap.size,Qw.heap.size)::PH) r F L fun x U=>aB _ U;have hG:=W.old r.dA;generalize (RF.heap.size,Qw.heap.size)::PH=PV at*
   obtain⟨F0,F1,F2,rfl⟩:=hG.shape;refine cQ (cU (J9:=fun _ J v Y=>∃q r,v= .tuple #[q,r]/\eQ Y (Nf J Y) q ((-x).natAbs / Nat.gcd (-x).natAbs (-y).natAbs)/\eQ Y (Nw (Cv S w.heap.size PV) J Y) r ((-x).natAbs % Nat.gcd (-x).natAbs (-y).natAbs)) (fun O J r=>sh (rlo r F) (YB.rel r F) (hG.rel r F) Uh be) ?_);rintro O SZ v5 SP r L hb ⟨qvp,rvp,rfl,SW,Tk⟩;replace V:=V.tr hb;replace Vr:=Vr.cS (N:=(SZ.heap.size,SP.heap.size)::PV) r F L fun x U=>aB _ U;replace hG:=hG.cS (N:=(SZ.heap.size,SP.heap.size)::PV) r F L fun x U=>aB _ U;have hP:=SW.iR (S:=FF) r.dA (iv:=(SZ.heap.size,SP.heap.size)::PV) aH;have hPr:=Tk.old r.dA;generalize (SZ.heap.size,SP.heap.size)::PV=Qk at*
   obtain⟨s5_0a,s5_0b,s5_0c,rfl⟩:=hP.shape;obtain⟨s5_1a,s5_1b,s5_1c,rfl⟩:=hPr.shape;refine cQ (cU (J9:=fun _ J v Y=>∃q r,v= .tuple #[q,r]/\eQ Y (Nf J Y) q ((-y).natAbs / Nat.gcd (-x).natAbs (-y).natAbs)/\eQ Y (Nw (Cv S w.heap.size Qk) J Y) r ((-y).natAbs % Nat.gcd (-x).natAbs (-y).natAbs)) (fun O J r=>sh (rlo r F) (Vr.rel r F) (hG.rel r F) Uh be) ?_);rintro O Rv v6 Rk r L hb ⟨qvq,rvq,rfl,SW,Tk⟩;replace V:=V.tr hb;replace hP:=hP.cS (N:=(Rv.heap.size,Rk.heap.size)::Qk) r oF L fun x U=>aB _ U;have hQ:=SW.iR (S:=FF) r.dA (iv:=(Rv.heap.size,Rk.heap.size)::Qk) aH;have hQr:=Tk.old r.dA;generalize (Rv.heap.size,Rk.heap.size)::Qk=RM at*
   obtain⟨s6_0a,s6_0b,s6_0c,rfl⟩:=hQ.shape;obtain⟨s6_1a,s6_1b,s6_1c,rfl⟩:=hQr.shape;exact rtn V fun J8 we re=>by rw[hq];exact dH.of ⟨_,by rw[g3,<-hbA],by rw[g1];exact hP.out re oF⟩ ⟨_,by rw[bP be],by rw[g2];exact hQ.out re oF⟩
end Go.Ex
namespace Go.Ex
open Go Go.Sx
variable{a b:Int}
def rl(q:Rat):Nat:=max (ln q.num.natAbs) (ln q.den)
theorem gI(q:Rat):ln q.num.natAbs<=rl q:=Nat.le_max_left _ _
theorem aCt(q:Rat):ln q.den<=rl q:=Nat.le_max_right _ _
theorem fU(q:Rat):ln ((q.den:Int)).natAbs<=rl q:=Nat.le_max_right _ _
theorem lF(hb:b≠0):rl (Rat.divInt a b)<=max (ln a.natAbs) (ln b.natAbs):=by
 have I:ln (Rat.divInt a b).num.natAbs<=ln a.natAbs:=by
  rw[Rat.num_divInt];refine fq (aX (Int.natAbs_ediv_le_natAbs _ _) ?_);rw[Int.natAbs_mul,Int.natAbs_sign_of_ne_zero hb,Nat.one_mul];exact aP _
 have G:ln (Rat.divInt a b).den<=ln b.natAbs:=by
  rw[Rat.den_divInt,aJ hb];exact Mi
 unfold rl;omega
theorem j9(x y:Int):ln (x+y).natAbs<=max (ln x.natAbs) (ln y.natAbs)+1:=by
 have I:=aCk x.natAbs y.natAbs;have G:=fq (show (x+y).natAbs<=x.natAbs+y.natAbs by omega);omega
theorem gn(q:Rat):(q.den:Int)≠0:=by have:=q.den_pos;omega
theorem wj(f g:Rat):f+g=Rat.divInt (f.num*g.den+g.num*f.den) (f.den*g.den):=by
 rw[<-Rat.divInt_add_divInt _ _ (gn f) (gn g),Rat.num_divInt_den,Rat.num_divInt_den]
theorem BC(f g:Rat):f*g=Rat.divInt (f.num*g.num) (f.den*g.den):=by
 rw[<-Rat.divInt_mul_divInt,Rat.num_divInt_den,Rat.num_divInt_den]
theorem GG(f g:Rat):f / g=Rat.divInt (f.num*g.den) (f.den*g.num):=by
 rw[<-Rat.divInt_mul_divInt,Rat.num_divInt_den,<-Rat.inv_def,<-bh]
theorem lJ(ha:a≠0)(hb:b≠0):a*b≠0:=Int.mul_ne_zero ha hb
theorem lE(f g:Rat):rl (f+g)<=rl f+rl g+1:=by
 have h:=lF (a:=f.num*g.den+g.num*f.den) (lJ (gn f) (gn g));rw[<-wj]at h;have I:=j9 (f.num*g.den) (g.num*f.den);have G:=dR f.num g.den;have h3:=dR g.num f.den;have h4:=dR f.den g.den;have:=gI f;have:=gI g;have:=fU f;have:=fU g;omega
theorem fh(f g:Rat):rl (f*g)<=rl f+rl g:=by
 have h:=lF (a:=f.num*g.num) (lJ (gn f) (gn g));rw[<-BC]at h;have G:=dR f.num g.num;have h4:=dR f.den g.den;have:=gI f;have:=gI g;have:=fU f;have:=fU g;omega
theorem pw(f:Rat){g:Rat}(X:g≠0):rl (f / g)<=rl f+rl g:=by
 have h:=lF (a:=f.num*g.den) (lJ (gn f) (fun e=>X (Rat.num_eq_zero.1 e)));rw[<-GG]at h;have G:=dR f.num g.den;have h4:=dR f.den g.num;have:=gI f;have:=gI g;have:=fU f;have:=fU g;omega
theorem jE(f:Rat):rl (-f)=rl f:=by unfold rl;rw[Rat.neg_num,Rat.neg_den,cO]
theorem qI(f g:Rat):rl (f-g)<=rl f+rl g+1:=by
 rw[Rat.sub_eq_add_neg];have:=lE f (-g);rw[jE]at this;exact this
def rs(q:Rat):Int:=q.num.sign
theorem wk(hb:0<b):(Rat.divInt a b).num.sign=a.sign:=by
 by_cases ha:a=0
 .subst ha;rw[CD];rfl
 .obtain⟨I,-,h3⟩:=CC hb ha;have h3:=decide_eq_decide.1 h3;have h0:(Rat.divInt a b).num≠0:=fun e=>by
   have h4:=Nat.div_pos (Nat.le_of_dvd be (Nat.gcd_dvd_left a.natAbs b.natAbs)) (cJ a.natAbs (n:=b.natAbs) be);omega
  rcases Int.lt_or_gt_of_ne ha with h|h
  .rw[cD h,cD (h3.2 h)]
  .rw[cG h,cG be]
theorem aBk(f g:Rat):(f.num*g.den-g.num*f.den).sign=rs (f-g):=by
 rw[rs,Rat.sub_eq_add_neg,wj,wk (Int.mul_pos (by have:=f.den_pos;omega) (by rw[Rat.neg_den];have:=g.den_pos;omega)),Rat.neg_num,Rat.neg_den,Int.neg_mul,<-Int.sub_eq_add_neg]
def ratio(a b:Int):Rat:=if b=0 then Rat.divInt a 1 else Rat.divInt a b
theorem jM(a b:Int):rl (ratio a b)<=max (ln a.natAbs) (max 1 (ln b.natAbs)):=by
 unfold ratio;split
 .have:=lF (a:=a) (b:=1) bi;have I:ln (1:Int).natAbs=1:=by decide
  rw[I]at this;omega
 .rename_i h;have:=lF (a:=a) h;omega
end Go.Ex
