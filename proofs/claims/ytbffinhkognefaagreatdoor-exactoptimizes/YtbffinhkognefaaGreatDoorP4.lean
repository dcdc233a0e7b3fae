/- Texts X10 to L5: lemmas, each with its conditions. -/
import Derived.Test.YtbffinhkognefaaGreatDoorP3
namespace Go.Ex
open Go Go.Sx Go.Proofs
variable{k n x:Nat}
def iQ(n:Nat):Nat:=if n=0 then 0 else n.log2+1
theorem M5(h:2^k<=x):x.log2=(x / 2^k).log2+k:=by
 have hp:=cJ k;have hy:x / 2^k≠0:=by have:=Nat.div_pos h hp;omega
 have Y:=Nat.log2_self_le hy;have I:=@Nat.lt_log2_self (x / 2^k);rw[Nat.log2_eq_iff be];refine⟨?_,?_⟩
 .rw[Nat.pow_add];exact(Nat.le_div_iff_mul_le hp).1 Y
 .rw[show (x / 2^k).log2+k+1=(x / 2^k).log2+1+k by omega,Nat.pow_add];exact(Nat.div_lt_iff_lt_mul hp).1 I
theorem BZ(h:2^k<=x):iQ x=k+iQ (x / 2^k):=by
 have hp:=cJ k;have hy:x / 2^k≠0:=by have:=Nat.div_pos h hp;omega
 rw[iQ,iQ,aI hy,aI be,M5 h];omega
theorem je(h:n<256):IntKind.u8.wrap (n:Int)=(n:Int):=by
 show((n:Int) % 256)=_;omega
theorem za(h:n<256):(UInt8.ofNat (iQ n)).toNat=iQ n:=by
 have:∀n,n<256->(UInt8.ofNat (iQ n)).toNat=iQ n:=by decide +kernel
 exact this n h
theorem qd(h:x<256):iQ x<=8:=by
 have:∀n,n<256->iQ n<=8:=by decide +kernel
 exact this x h
theorem JM(n:Nat)(h:n<256):(⟨#[0,1,2,2,3,3,3,3,4,4,4,4,4,4,4,4,5,5,5,5,5,5,5,5,5,5,5,5,5,5,5,5,6,6,6,6,6,6,6,6,6,6,6,6,6,6,6,6,6,6,6,6,6,6,6,6,6,6,6,6,6,6,6,6,7,7,7,7,7,7,7,7,7,7,7,7,7,7,7,7,7,7,7,7,7,7,7,7,7,7,7,7,7,7,7,7,7,7,7,7,7,7,7,7,7,7,7,7,7,7,7,7,7,7,7,7,7,7,7,7,7,7,7,7,7,7,7,7,8,8,8,8,8,8,8,8,8,8,8,8,8,8,8,8,8,8,8,8,8,8,8,8,8,8,8,8,8,8,8,8,8,8,8,8,8,8,8,8,8,8,8,8,8,8,8,8,8,8,8,8,8,8,8,8,8,8,8,8,8,8,8,8,8,8,8,8,8,8,8,8,8,8,8,8,8,8,8,8,8,8,8,8,8,8,8,8,8,8,8,8,8,8,8,8,8,8,8,8,8,8,8,8,8,8,8,8,8,8,8,8,8,8,8,8,8,8,8,8,8,8,8,8,8,8,8,8]⟩:ByteArray)[((n:Nat):Int).toNat]? =some (UInt8.ofNat (iQ n)):=by
 have:∀n,n<256->(⟨#[0,1,2,2,3,3,3,3,4,4,4,4,4,4,4,4,5,5,5,5,5,5,5,5,5,5,5,5,5,5,5,5,6,6,6,6,6,6,6,6,6,6,6,6,6,6,6,6,6,6,6,6,6,6,6,6,6,6,6,6,6,6,6,6,7,7,7,7,7,7,7,7,7,7,7,7,7,7,7,7,7,7,7,7,7,7,7,7,7,7,7,7,7,7,7,7,7,7,7,7,7,7,7,7,7,7,7,7,7,7,7,7,7,7,7,7,7,7,7,7,7,7,7,7,7,7,7,7,8,8,8,8,8,8,8,8,8,8,8,8,8,8,8,8,8,8,8,8,8,8,8,8,8,8,8,8,8,8,8,8,8,8,8,8,8,8,8,8,8,8,8,8,8,8,8,8,8,8,8,8,8,8,8,8,8,8,8,8,8,8,8,8,8,8,8,8,8,8,8,8,8,8,8,8,8,8,8,8,8,8,8,8,8,8,8,8,8,8,8,8,8,8,8,8,8,8,8,8,8,8,8,8,8,8,8,8,8,8,8,8,8,8,8,8,8,8,8,8,8,8,8,8,8,8,8,8]⟩:ByteArray)[n]? =some (UInt8.ofNat (iQ n)):=by decide +kernel
 exact this n h
theorem OH(x:Nat)(w:World)(E:x<4294967296):eL PG FS.BF #[.int .u32 x] w (eY w fun v _=>v=iV (iQ x)):=by
 refine Ch ce ?_;apply bS<;>intro h
 .have h:65536<=x:=by have:=aJ h;omega
  refine⟨bv,((x / 2^16:Nat):Int),qe 16 bv,?_⟩;have A:=BZ (k:=16) h;have hy:x / 2^16<65536:=by omega
  rw[A];generalize x / 2^16=y at*
  apply bS<;>intro I
  .have I:256<=y:=by have:=aJ I;omega
   refine⟨bv,((y / 2^8:Nat):Int),qe 8 bv,?_⟩;have Q2:=BZ (k:=8) I;have hz:y / 2^8<256:=by omega
   rw[Q2];generalize y / 2^8=z at*
   refine⟨24,bv,(z:Int),je hz,?_⟩;refine lH (b:=UInt8.ofNat (iQ z)) ((hτ _ _ rfl).i3 rfl) rfl rfl be (JM z hz) (fun I9 w1 r1=>?_);rw[za hz];have ht:=qd hz;refine⟨(iQ z:Int),wo,((24+iQ z:Nat):Int),wo,?_⟩;intro I8 w3 r3;exact⟨_,rfl,r1.cj.tr r3.cj,by rw[<-Nat.add_assoc];rfl⟩
  .have hy:y<256:=by have:=aL I;omega
   refine⟨(y:Int),je hy,?_⟩;refine lH (b:=UInt8.ofNat (iQ y)) ((hτ _ _ rfl).i3 rfl) rfl rfl be (JM y hy) (fun I9 w1 r1=>?_);rw[za hy];have ht:=qd hy;refine⟨(iQ y:Int),wo,((16+iQ y:Nat):Int),wo,?_⟩;intro I8 w3 r3;exact⟨_,rfl,r1.cj.tr r3.cj,d8⟩
 .have h:x<65536:=by have:=aL h;omega
  apply bS<;>intro I
  .have I:256<=x:=by have:=aJ I;omega
   refine⟨bv,((x / 2^8:Nat):Int),qe 8 bv,?_⟩;have Q2:=BZ (k:=8) I;have hz:x / 2^8<256:=by omega
   rw[Q2];generalize x / 2^8=z at*
   refine⟨8,bv,(z:Int),je hz,?_⟩;refine lH (b:=UInt8.ofNat (iQ z)) ((hτ _ _ rfl).i3 rfl) rfl rfl be (JM z hz) (fun I9 w1 r1=>?_);rw[za hz];have ht:=qd hz;refine⟨(iQ z:Int),wo,((8+iQ z:Nat):Int),wo,?_⟩;intro I8 w3 r3;exact⟨_,rfl,r1.cj.tr r3.cj,d8⟩
  .have E:x<256:=by have:=aL I;omega
   refine⟨(x:Int),je E,?_⟩;refine lH (b:=UInt8.ofNat (iQ x)) ((hτ _ _ rfl).i3 rfl) rfl rfl be (JM x E) (fun I9 w1 r1=>?_);rw[za E];have ht:=qd E;refine⟨(iQ x:Int),wo,((0+iQ x:Nat):Int),wo,?_⟩;intro I8 w3 r3;exact⟨_,rfl,r1.cj.tr r3.cj,by rw[aS];rfl⟩
theorem zZ:iQ x<=k↔x<2^k:=by
 unfold iQ;by_cases h:x=0
 .rw[aM h,h];exact⟨fun _=>cJ k,fun _=>ae _⟩
 .rw[aI h];constructor
  .intro Y;exact(Nat.log2_lt h).1 be
  .intro Y;have:=(Nat.log2_lt h).2 Y;omega
theorem aAB(x:Nat)(w:World)(E:x<4294967296):eL PG FS.mj #[.int .u32 x] w (eY w fun v _=>v=iV ((32-iQ x:Nat):Int)):=by
 refine qc ce ?_;refine cW (cU (GT:=fun _ _ v _=>v=iV (iQ x)) (fun O J r=>OH x J E) ?_);rintro O J v F r L A rfl;have h32:iQ x<=32:=zZ.2 E;refine⟨((32-iQ x:Nat):Int),wo,?_⟩;intro I8 w3 r3;exact⟨_,rfl,A.tr r3.cj,rfl⟩
end Go.Ex
namespace Go.Sx
open Go Go.Ex Go.Proofs
variable{ls:List Nat}{O:Nat->Sx.eH}
theorem Rel.M6{H:Hp}{nx:Nat}{iv:Iv}{B:Nat}{w J:World}(r:Rel H nx iv B w O J){id t m:Nat}(h:dV H id=some (.vec t 1 (EQ ls)))(hm:m=ls.length)(Qj:Lm ls)(hle:ls.length<=9223372036854775807):
  dZ J (fun g=>B<=g/\g<J.heap.size) ((At.w id m).den O) ls:=by
 subst hm;rcases r.vec id t 1 _ h with⟨U,hu⟩|⟨U,spare,A,hc,RO⟩
 .have hl:ls=[]:=by cases ls with
   |nil=>rfl
   |cons a b=>simp[EQ]at hu
  subst hl;have:(At.w id ([]:List Nat).length).den O=nls:=by simp[At.den,U]
  rw[this];exact dZ.nil _ _
 .refine⟨Qj,hle,some ⟨(O id).g,0,none⟩,(O id).cap,by simp[At.den,U],?_,fun j x E=>⟨_,rfl,r.low id _ h U,?_⟩⟩
  .have Y:(EQ ls++spare).length=ls.length+spare.length:=by rw[aV,gP]
   omega
  .rw[dF,cell_of A,aS,aN (by rw[gP];exact(aH.1 E).1)];exact uR E
end Go.Sx
namespace Go.Ex
open Go Go.Sx Go.Proofs
variable{ls:List Nat}{S:Nat->Prop}
theorem JN:PG.underlying T.nat=some (.slice T.uint32):=by
 have h:=(hτ T.nat _ rfl).i4 rfl;exact h
theorem JO{w:World}{v:Value}(W:Old S w)(h:dZ w S v ls)(hl:ls.length<=1000000000000):
  eL PG FS.gM #[v] w (eY w fun v' F=>dZ F (Nf w F) v' ls):=by
 obtain⟨x,rfl,rfl⟩:=h.la;refine j3 ce ?_;refine⟨x.a.isNone,fun O w1 o1 o2=>by simp[eqGuard,SV.den,At.den,pG (P:=PG) w1 T.nat T.uint32 x.a x.ls.length x.c 0 0 JN],?_⟩;apply bS<;>intro h
 .intro I8 w3 r3;have U:x.ls=[]:=by
   cases E:x.ls with
   |nil=>rfl
   |cons u r=>
    obtain⟨ad,Y,_⟩:=x.cell 0 u (by rw[E];rfl);rw[Y]at h;simp at h
  exact⟨_,rfl,r3.cj,by rw[U];exact dZ.nil _ _⟩
 .refine .inl ?_;refine⟨EQ x.ls,by rw[gP,av],fun u hu=>by simp only[EQ,bE]at hu;obtain⟨n,_,rfl⟩:=hu;rfl,fun O w1 r h0=>?_,?_⟩
  .obtain⟨u,hu⟩:=gO x.ls 0;obtain⟨ad,QV,_⟩:=x.cell 0 u hu;refine⟨ad,QV,fun j u hu=>?_⟩;simp only[EQ,aU,Option.map_eq_some_iff]at hu;obtain⟨n,U,rfl⟩:=hu;obtain⟨ad2,Q9,hs,hc⟩:=x.cell j n U;rw[QV]at Q9;injection Q9 with Q9;subst Q9;exact gN W Bel.refl r hs hc
  refine⟨rfl,be,mx,?_⟩;intro I8 w3 r3;exact⟨_,rfl,r3.cj,(r3.M6 (id:=1) rfl (aS _) x.lm x.le).cV fun g V=>.inr V⟩
end Go.Ex
namespace Go.Sx
open Go Go.Ex Go.Proofs
section
variable{O:Nat->Sx.eH}
theorem Rel.cZ{H:Hp}{nx:Nat}{iv:Iv}{B:Nat}{w J:World}(r:Rel H nx iv B w O J):B<=J.heap.size:=by have:=r.base;have:=r.size;omega
end
variable{ls:List Nat}{O:Nat->Sx.eH}
theorem Rel.pe{H:Hp}{nx:Nat}{iv:Iv}{B:Nat}{w J:World}(r:Rel H nx iv B w O J){id t:Nat}(h:dV H id=some (.box t ((EQ ls).map At.v)))(Qj:Lm ls)(hle:ls.length<=9223372036854775807):
  dZ J (fun g=>g=(O id).g) (.slice (some ⟨(O id).g,0,none⟩) ls.length ls.length) ls:=by
 refine⟨Qj,hle,_,_,rfl,lr,fun j x E=>⟨_,rfl,rfl,?_⟩⟩;have h0:(⟨(O id).g,0,none⟩:Addr).add j=⟨(O id).g,j,none⟩:=by
  cases j with
  |zero=>rfl
  |succ j=>simp[Addr.add]
 rw[h0,cell_of (r.box id t _ h),fx];exact uR E
end Go.Sx
namespace Go.Ex
open Go Go.Sx Go.Proofs
variable{ds r2:List Nat}{g k:Nat}{row:Option Nat}
section
variable{S:Nat->Prop}{H:Hp}{nx:Nat}{iv K:Iv}{B:Nat}{w J F:World}{O:Nat->Sx.eH}{v:Value}{n:Nat}{ls:List Nat}
theorem Nw.ep(h:Nf J F g)(hB:B<=J.heap.size)(hm:(J.heap.size,F.heap.size)∈iv):Cv S B iv g:=by
 rcases h with h|h
 .cases h
 .exact .inr ⟨be,_,_,hm,h.1,h.2⟩
theorem nw{H:Hp}{nx B:Nat}{iv K:Iv}{w J F:World}{O:Nat->Sx.eH}(r:Rel H nx iv B w O J)(e:K=(J.heap.size,F.heap.size)::iv):∀g,Nf J F g->Cv (fun _=>False) B K g:=fun _ V=>V.ep r.cZ (mN e)
theorem dm.ep(h:dm F (Nf J F) v n)(hB:B<=J.heap.size)(hm:(J.heap.size,F.heap.size)∈iv):dm F (Cv S B iv) v n:=h.cV fun _ V=>V.ep hB hm
theorem dZ.ep(h:dZ F (Nf J F) v ls)(hB:B<=J.heap.size)(hm:(J.heap.size,F.heap.size)∈iv):dZ F (Cv S B iv) v ls:=h.cV fun _ V=>V.ep hB hm
theorem dm.rel(h:dm w (Cv S B iv) v n)(r:Rel H nx iv B w O J)(W:∀g,S g->g<B):dm J (Cv S B iv) v n:=h.cX fun _ V=>rls r W V
theorem dm.cS(h:dm w (Cv S B iv) v n)(r:Rel H nx iv B w O J)(W:∀g,S g->g<B)(L:Ext J F)(hm:∀p,p∈iv->p∈K):dm F (Cv S B K) v n:=
 ((h.rel r W).cX fun g V=>L.block g (rlo r W g V)).cV fun _ V=>V.mono hm
theorem dZ.nat(h:dZ w S v ls)(hz:Nz ls):dm w S v (val ls):=⟨ls,h,hz,rfl⟩
theorem dZ.trimmed(h:dZ w S v (eO ls)):dm w S v (val ls):=⟨_,h,(fL ls).2.1,(fL ls).1⟩
end
theorem JP{w:World}{m c:Nat}{rs:List Nat}(V:w.heap[g]? =some (.cells (EQ rs).toArray T.uint32 (0,0)))(Qj:Lm rs)(h:k+m<=rs.length)(hc:m<=c)(hl:rs.length<=1000000000000):
  dZ w (fun x=>x=g) (.slice (some ⟨g,k,none⟩) m c) ((rs.drop k).take m):=by
 have hlen:((rs.drop k).take m).length=m:=by simp;omega
 refine⟨(Qj.drop k).take m,be,some ⟨g,k,none⟩,c,by rw[hlen],be,fun j x E=>⟨_,rfl,rfl,?_⟩⟩;have hj:j<m:=by have:=(aH.1 E).1;omega
 rw[List.getElem?_take_of_lt hj,cF]at E;rw[dF,cell_of V];exact uR E
theorem Eh{c:Nat}(h:k<c):(if (c:Int)=(k:Int)then some (⟨g,0,none⟩:Addr)else(some (⟨g,0,none⟩:Addr)).map fun x=>x.add ((k:Int).toNat*1))=some ⟨g,k,none⟩:=by
 rw[aI be,bU,aK,av,dF,aS]
theorem fD{a b c:World}(h:a.grownBy b row)(k:b.grownBy c row):a.grownBy c row:=
 ⟨k.os.trans h.os,k.tape.trans h.tape,k.output.trans h.output,aR h.size k.size,fun j hj Po=>(k.block j (by have:=h.size;omega) Po).trans (h.block j hj Po)⟩
theorem oZ{a b:World}(h:Bel a.heap.size a b):a.grownBy b row:=⟨h.os,h.tape,h.output,h.size,fun j hj _=>h.block j hj⟩
theorem OJ(rs:List Nat)(k m:Nat):(EQ rs).take k++List.replicate m (Value.int .u32 0)++(EQ rs).drop (k+m)=EQ (rs.take k++List.replicate m 0++rs.drop (k+m)):=by
 simp[EQ]
theorem aAC(rs ds:List Nat)(k:Nat):(EQ rs).take k++EQ ds++(EQ rs).drop (k+(EQ ds).length)=EQ (rs.take k++ds++rs.drop (k+ds.length)):=by
 simp[EQ]
theorem K5{rs:List Nat}{m:Nat}(R:k+m<=rs.length)(hd:ds.length<=m){r1:List Nat}(Y:r1=rs.take k++List.replicate m 0++rs.drop (k+m))(I:r2=r1.take k++ds++r1.drop (k+ds.length)):
  r2=rs.take k++(ds++List.replicate (m-ds.length) 0)++rs.drop (k+m):=by
 have WX:(rs.take k).length=k:=by simp;omega
 have h3:r1.take k=rs.take k:=by rw[Y,bJ,List.take_append_of_le_length be,bX be]
 have h4:r1.drop (k+ds.length)=List.replicate (m-ds.length) 0++rs.drop (k+m):=by
  rw[Y,bJ,List.drop_append,WX,List.drop_of_length_le be,List.nil_append,Nat.add_sub_cancel_left,List.drop_append_of_le_length (by simpa using hd),List.drop_replicate]
 rw[I,h3,h4];simp
theorem K6{rs:List Nat}{m:Nat}(R:k+m<=rs.length)(hd:ds.length<=m)(Qj:Lm rs)(Rt:Lm ds)(h:r2=rs.take k++(ds++List.replicate (m-ds.length) 0)++rs.drop (k+m)):
  r2.length=rs.length/\Lm r2/\r2.take k=rs.take k/\r2.drop (k+m)=rs.drop (k+m)/\val ((r2.drop k).take m)=val ds:=by
 have WX:(rs.take k).length=k:=by simp;omega
 have S5:(ds++List.replicate (m-ds.length) 0).length=m:=by simp;omega
 have QM:r2.drop k=(ds++List.replicate (m-ds.length) 0)++rs.drop (k+m):=by
  rw[h,bJ,List.drop_append,WX,List.drop_of_length_le be,List.nil_append,bY,List.drop_zero]
 refine⟨by rw[h,aV,aV,WX,S5];simp;omega,?_,?_,?_,?_⟩
 .rw[h];exact((Qj.take k).append (Rt.append (Lm.replicate _))).append (Qj.drop _)
 .rw[h,bJ,List.take_append_of_le_length be,bX be]
 .rw[<-List.drop_drop,QM,List.drop_append,S5,List.drop_of_length_le be,List.nil_append,bY,List.drop_zero]
 .rw[QM,List.take_append_of_le_length be,bX be,lJ,lS];simp
theorem aAD{S:Nat->Prop}{w:World}{vd:Value}{D g k q:Nat}{rs:List Nat}(W:Old S w)(hgS:¬S g)(hd:dm w S vd D)(V:w.heap[g]? =some (.cells (EQ rs).toArray T.uint32 (0,0)))(Qj:Lm rs)
  (R:k+ln D+1<=rs.length) (hl:rs.length<=1000000000000) (hq:q<4294967296):
  eL PG FS.sW #[.slice (some ⟨g,0,none⟩) rs.length rs.length,vd,.int .i64 k,.int .u64 q] w (fun e F=>
   (val ((rs.drop k).take (ln D+1))<q*D/\e= .returned (.bool false)/\Bq w F)\/
   (q*D<=val ((rs.drop k).take (ln D+1))/\e= .returned (.bool true)/\w.grownBy F (some g)/\∃rs',rs'.length=rs.length/\Lm rs'/\rs'.take k=rs.take k/\rs'.drop (k+ln D+1)=rs.drop (k+ln D+1)/\
    val ((rs'.drop k).take (ln D+1))=val ((rs.drop k).take (ln D+1))-q*D/\F.heap[g]? =some (.cells (EQ rs').toArray T.uint32 (0,0)))):=by
 have Ws:=lQ V;have hnD:=hd;obtain⟨p,rfl,Rv,SI⟩:=hd.la;have QQ:=eJ p.lm SI;rw[Rv]at QQ;generalize U:ln D=n at*
 have hSB:=W;refine wu ce ?_;refine⟨(q:Int),by rw[fX,bh hq],?_⟩;refine gU (GT:=fun O _ v F=>dZ F (fun g=>g=(O 0).g) v (eO [q])) (H':=[]) 0 rfl ce trivial rfl (fun O J r=>r.nn 0 _ rfl (by intros;simp) ce) (fun O J r=>?_) ?_
 .have hL:=r.pe (id:=0) (ls:=[q]) rfl (by intro x E;simp at E;omega) ce;exact fY (fun g V=>by rw[V];exact(r.low 0 _ rfl (r.nn 0 _ rfl (by intros;simp) ce)).2) hL
 rintro O w1 v1 F r L G hL;have Pq:=r.low 0 _ rfl (r.nn 0 _ rfl (by intros;simp) ce);have hs:=L.size;generalize (O 0).g=g0 at*
 have Vp:dm F (Cv S w.heap.size [(g0,g0+1),(w1.heap.size,F.heap.size)]) v1 q:=by
  have:=hL.trimmed;simp only[val,Nat.mul_zero,cN]at this;exact this.cV fun k R=>.inr ⟨be,g0,g0+1,ce,be,be⟩
 have Xu:dm F (Cv S w.heap.size [(g0,g0+1),(w1.heap.size,F.heap.size)]) (.slice p.a p.ls.length p.c) D:=
  (hnD.cX fun g V=>G.block g (W g V)).cV fun _ V=>.inl V
 generalize [(g0,g0+1),(w1.heap.size,F.heap.size)]=iv at*
 refine cW (cE G (pR dm (q*D)) (fun O J r=>JQ (rlo r W) (Vp.rel r W) (Xu.rel r W) (aR (iH.2 (show q<wt 1 from hq)) bv) be) ?_);rintro O w3 _ _ iv r L G h_ hm;have Vq:=hm.ep (S:=S) r.cZ (mN h_);refine⟨((k+n:Nat):Int),wo,((k+n+1:Nat):Int),wo,⟨be,be,be⟩,some ⟨g,k,none⟩,n+1,rs.length-k,Eh be,be,be,?_⟩;have hplen:((rs.drop k).take (n+1)).length=n+1:=by simp;omega
 have hplm:Lm ((rs.drop k).take (n+1)):=(Qj.drop k).take _;generalize SJ:(rs.drop k).take (n+1)=part at*
 refine cW (cE G (pR dZ part) (fun O J r=>?_) ?_)
 .have Y:=JP (k:=k) (m:=n+1) (c:=rs.length-k) (w:=J) (by rw[(G.tr r.cj).block g Ws];exact V) Qj be be hl;rw[SJ]at Y;exact JO (fun x E=>by rw[E];have:=(G.tr r.cj).size;omega) Y be
 rintro O _ _ _ iv r L G h_ hL;have hpL:=hL.ep (S:=S) r.cZ (mN h_);replace Vq:=Vq.cS r W L (mC h_);refine cW (cU (GT:=fun _ J v F=>dZ F (Cv S w.heap.size iv) v (eO part)) (fun O J r=>fY (rlo r W) (dZ.rel hpL r W)) ?_);rintro O w7 v4 w8 r L A hL;replace G:=G.tr A;have Xv:=hL.trimmed.cV (S':=Cv S w.heap.size ((w7.heap.size,w8.heap.size)::iv)) fun _ V=>V.cons;replace Vq:=Vq.cS (K:=(w7.heap.size,w8.heap.size)::iv) r W L fun x E=>aD _ E;generalize (w7.heap.size,w8.heap.size)::iv=iv at*
 refine cW (cE G (fun _ _ v _=>v=iV (qg (val part) (q*D))) (fun O J r=>JR (rlo r W) (Xv.rel r W) (Vq.rel r W)) ?_);rintro O _ _ _ iv r L G h_ rfl;replace Xv:=Xv.cS r W L (mC h_);replace Vq:=Vq.cS r W L (mC h_);apply bS<;>intro h
 .have h:val part<q*D:=by
   have:=aJ h;unfold qg at this;split at this
   .assumption
   .split at this<;>omega
  intro I8 w3 r3;exact .inl ⟨h,rfl,G.tr r3.cj⟩
 have h:q*D<=val part:=by
  have:=aL h;unfold qg at this;split at this
  .omega
  .omega
 have Zt:ln (val part)<=n+1:=by rw[iH,<-hplen];exact qI hplm
 refine cW (cE G (pR dm (val part-q*D)) (fun O J r=>zb (rlo r W) (Xv.rel r W) (Vq.rel r W) h be) ?_);rintro O _ v6 _ iv r L G h_ hm;have Wt:=hm.ep (S:=S) r.cZ (mN h_);refine⟨((k+n:Nat):Int),wo,((k+n+1:Nat):Int),wo,⟨be,be,be⟩,some ⟨g,k,none⟩,n+1,rs.length-k,Eh be,be,be,?_⟩;refine Jr hτ (cs:=EQ rs) d8 d8 d8 be (fun O J r=>⟨by rw[(G.tr r.cj).block g Ws];exact V,fun id b A=>by cases A⟩) (by rw[gP];omega) (fun O w13 w14 r hh QW QK=>?_);rw[OJ]at hh;have hgw:w.grownBy w14 (some g):=fD (oZ (G.tr r.cj)) QW;replace Wt:dm w14 (Cv S w.heap.size iv) v6 (val part-q*D):=(Wt.rel r W).cX fun x E=>QW.block x (rlo r W x E) fun e=>by
  injection e with e;subst e;rcases E with E|E
  .exact hgS E
  .omega
 obtain⟨rl,rfl,RP,S6⟩:=Wt.la;have QO:=eJ rl.lm S6;rw[RP]at QO;have hrn:rl.ls.length<=n+1:=by rw[QO];exact aR (fP (Nat.sub_le _ _)) Zt
 generalize hr1d:rs.take k++List.replicate (n+1) 0++rs.drop (k+(n+1))=r1 at*
 refine⟨⟨be,be,be⟩,some ⟨g,k,none⟩,rs.length-k,rs.length-k,Eh be,be,be,?_⟩;have hr1l:r1.length=rs.length:=by rw[<-hr1d];simp;omega
 have hw14:w.heap.size<=w14.heap.size:=hgw.size;refine Lc hτ (tg:=T.uint32) (cs:=EQ r1) (ds:=EQ rl.ls) d8 d8 d8 d8 (fun O J r=>⟨?_,fun id b A=>by cases A⟩) (fun O J r=>⟨rl.a,rl.c,by rw[gP];rfl,fun j u hu=>?_⟩) (by rw[gP];omega) (by rw[gP,gP];omega)
  (fun u hu=>by simp only[EQ,bE]at hu;obtain⟨n,_,rfl⟩:=hu;rfl) (fun O w15 w16 r hh2 QW QK=>?_)
 .rw[r.sk.block g be ce];exact hh
 .simp only[EQ,aU,Option.map_eq_some_iff]at hu;obtain⟨m,hm,rfl⟩:=hu;obtain⟨ad,Y,I,h3⟩:=rl.cell j m hm;exact⟨ad,Y,(cd (w:=w14) (a:=ad.add j) (by rw[df];exact rls r W I)).trans h3⟩
 rw[aAC]at hh2;have hgw2:w.grownBy w16 (some g):=fD (fD hgw (by have:=r.sk;exact⟨this.os,this.tape,this.output,this.size,fun j hj _=>this.block j hj ce⟩)) QW;obtain⟨o1,o2,o3,o4,o5⟩:=K6 (rs:=rs) (ds:=rl.ls) (k:=k) (m:=n+1) be hrn Qj rl.lm (K5 be hrn hr1d.symm rfl);generalize r1.take k++rl.ls++r1.drop (k+rl.ls.length)=r2 at*
 intro I8 w17 r3;refine .inr ⟨h,rfl,fD hgw2 (by have:=r3.sk;exact⟨this.os,this.tape,this.output,this.size,fun j hj _=>this.block j hj ce⟩),r2,o1,o2,o3,o4,by rw[o5,RP],?_⟩;rw[r3.sk.block g (by have:=hgw2.size;omega) ce];exact hh2
end Go.Ex
namespace Go.Sx
open Go Go.Ex Go.Proofs
variable{O:Nat->Sx.eH}
theorem Rel.PF{nx:Nat}{iv:Iv}{B:Nat}{w J F:World}(r:Rel [] nx iv B w O J)(h:J.heap.size<=F.heap.size):Rel [] nx [] B F O F:=
 r.Cz h (fun id b h=>by cases h) fun lo N h=>by cases h
end Go.Sx
namespace Go.Ex
open Go Go.Sx Go.Proofs
variable{O:Nat->Sx.eH}
theorem M9{P D low high dlow dtop A':Nat}(hP:P=low+A'*high)(hD:D=dlow+A'*dtop)(Pq:low<A')(WB:0<dtop)(hPD:P<4294967296*D):P / D<=min (high / dtop) 4294967295:=by
 have hW:0<A':=by omega
 have hD0:0<D:=by have:=Nat.mul_pos hW WB;omega
 have Y:P / D<4294967296:=(Nat.div_lt_iff_lt_mul hD0).2 (by rw[bc]at hPD;omega);have I:P / D<=high / dtop:=by
  rw[Nat.le_div_iff_mul_le WB];have h3:=Nat.div_mul_le_self P D;generalize P / D=Q at*
  have h4:A'*(Q*dtop)<=Q*D:=by
   rw[hD,Nat.mul_left_comm,bZ];omega
  have h5:A'*(Q*dtop)<A'*(high+1):=by
   rw[bZ];omega
  have:=Nat.lt_of_mul_lt_mul_left h5;omega
 omega
theorem JS{H:Hp}{nx:Nat}{iv:Iv}{w w1 J:World}{g i x:Nat}{rs:List Nat}(V:w.heap[g]? =some (.cells (EQ rs).toArray T.uint32 (0,0)))(G:Bq w w1)(r:Rel H nx iv w.heap.size w1 O J)(E:rs[i]? =some x):
  J.cell? ((⟨g,0,none⟩:Addr).add ((i:Int).toNat*1))=some (.int .u32 x):=by
 rw[aK,av,dF,aS,cell_of (by rw[(G.tr r.cj).block g (lQ V)];exact V)];exact uR E
theorem OK{S:Nat->Prop}{w:World}{vd:Value}{D g k:Nat}{rs:List Nat}(W:Old S w)(hgS:¬S g)(hd:dm w S vd D)(hD:0<D)(V:w.heap[g]? =some (.cells (EQ rs).toArray T.uint32 (0,0)))(Qj:Lm rs)
  (R:k+ln D+1<=rs.length) (hl:rs.length<=1000000000000) (hPD:val ((rs.drop k).take (ln D+1))<4294967296*D):
  eL PG FS.rD #[.slice (some ⟨g,0,none⟩) rs.length rs.length,vd,.int .i64 k] w (fun e F=>
   e= .returned (.int .u32 ((val ((rs.drop k).take (ln D+1)) / D:Nat):Int))/\w.grownBy F (some g)/\∃rs',rs'.length=rs.length/\Lm rs'/\rs'.take k=rs.take k/\rs'.drop (k+ln D+1)=rs.drop (k+ln D+1)/\
    val ((rs'.drop k).take (ln D+1))=val ((rs.drop k).take (ln D+1)) % D/\F.heap[g]? =some (.cells (EQ rs').toArray T.uint32 (0,0))):=by
 have Ws:=lQ V;have hnD:=hd;obtain⟨p,rfl,Rv,SI⟩:=hd.la;have QQ:=eJ p.lm SI;rw[Rv]at QQ;have R7:=fun(J:World) (q:Nat)=>@aAD S J (.slice p.a p.ls.length p.c) D g k q rs;generalize U:ln D=n at*
 obtain⟨t,rfl⟩:∃t,n=t+1:=by
  cases n with
  |zero=>
   have:D<wt 0:=iH.1 be;rw[kD]at this;omega
  |succ t=>exact⟨t,rfl⟩
 obtain⟨dt,WB⟩:=gO p.ls t;have hdt0:0<dt:=by
  have:=SI dt (by rw[List.getLast?_eq_getElem?,QQ];exact WB);omega
 obtain⟨a,ha⟩:=gO rs (k+t+1);obtain⟨b,A⟩:=gO rs (k+t);have ha32:=Qj.at ha;have Vb:=Qj.at A;have Zu:=p.lm.at WB;generalize hP:val ((rs.drop k).take (t+1+1))=P at*
 have hguess:P / D<=min ((a*4294967296+b) / dt) 4294967295:=by
  refine M9 (low:=val ((rs.drop k).take t)) (A':=wt t) (dlow:=val (p.ls.take t)) ?_ ?_ ?_ hdt0 hPD
  .rw[<-hP,eK (x:=a) (by rw[cF];exact ha),eK (x:=b) (by rw[cF];exact A),jb,bZ,bc 4294967296 (wt t),bu,bc a];omega
  .rw[<-Rv,<-eK WB,bX be]
  .have Y:=qI ((Qj.drop k).take t);have:((rs.drop k).take t).length=t:=by simp;omega
   rwa [this]at Y
 refine vK ce ?_;refine⟨(t:Int),wo,?_⟩;refine dP (idO 18) ?_;refine⟨((k+t:Nat):Int),wo,((k+t+1:Nat):Int),wo,_,rfl,be,.int .u32 a,fun O J r=>JS V Bel.refl r ha,(a:Int),fC be,bv,((a*2^32:Nat):Int),Ei (k:=32) bv be,((k+t:Nat):Int),wo,_,rfl,be,.int .u32 b,fun O J r=>JS V Bel.refl r A,(b:Int),fC be,?_⟩;have XT:a*2^32 ||| b=a*4294967296+b:=by
  rw[Nat.or_comm,bc,Ej (k:=32) Vb];omega
 refine⟨((a*4294967296+b:Nat):Int),by rw[Ma be be,XT],?_⟩;have hh64:a*4294967296+b<18446744073709551616:=by omega
 generalize a*4294967296+b=high at*
 obtain⟨ad,QV,QX⟩:=p.load W (Bel.refl (w:=w)) WB;refine⟨ad,QV,be,.int .u32 dt,QX _ _ _,(dt:Int),fC be,be,((high / dt:Nat):Int),Mc hh64,?_⟩;conv=>whnf
 rw[show min ((high / dt:Nat):Int) 4294967295=((min (high / dt) 4294967295:Nat):Int) by omega];have hm32:min (high / dt) 4294967295<=4294967295:=Nat.min_le_right _ _;generalize min (high / dt) 4294967295=q0 at*
 have hQD:=Nat.div_mul_le_self P D;have hQl:∀q,q*D<=P->P / D<=q->q=P / D:=fun q Y I=>Nat.le_antisymm ((Nat.le_div_iff_mul_le hD).2 Y) I;have hmod:P % D=P-P / D*D:=by have:=Nat.div_add_mod P D;rw[bc]at this;omega
 refine⟨Nat×World,fun z=>⟨[(0,.o (.v (.slice (some ⟨g,0,none⟩) rs.length rs.length))),(1,sV p.a p.ls.length p.c),(2,iZ k),(9,.o (.v (.int .u64 z.1)))],[],0,[],z.2⟩,fun z=>z.1,
  fun z=>Bq w z.2/\P / D<=z.1/\z.1<=4294967295,?_,?_⟩
 .intro O J r;exact⟨(q0,J),⟨r.cj,hguess,hm32⟩,Sub.reset r ⟨rfl,rfl,rfl,rfl,trivial⟩ ⟨trivial,trivial,trivial,trivial,trivial⟩⟩
 .rintro⟨q,w1⟩ ⟨G,Sk,Rq⟩;dsimp only at G Sk Rq ⊢;conv=>whnf
  refine⟨fun O F r=>(R7 F q (fun x E=>by have:=W x E;have:=(G.tr r.cj).size;omega) hgS (hnD.cX fun x E=>(G.tr r.cj).block x (W x E)) (by rw[(G.tr r.cj).block g Ws];exact V) Qj R hl be).mono fun e w3 L=>?_⟩;rcases L with⟨h,rfl,WU⟩|⟨h,rfl,QW,rs',e1,e2,e3,e4,e5,e6⟩
  .have hw3:Bq w w3:=(G.tr r.cj).tr (WU.cj r.cZ);refine⟨.bool false,[],[],rfl,r.PF WU.size,?_⟩;have VN:P / D<q:=by
    refine Nat.lt_of_le_of_ne Sk fun e=>?_;rw[e]at hQD;omega
   have hq4:0<q:=Nat.lt_of_le_of_lt (ae _) VN;have hq5:P / D<=q-1:=Nat.le_sub_one_of_lt VN;refine⟨((q-1:Nat):Int),by rw[zT]<;>omega,?_⟩;intro If w4 r4;exact⟨(q-1,w4),⟨hw3.tr r4.cj,hq5,by dsimp only;omega⟩,Sub.reset r4 ⟨rfl,rfl,rfl,rfl,trivial⟩ ⟨trivial,trivial,trivial,trivial,trivial⟩,by dsimp only;omega⟩
  .have hgw:w.grownBy w3 (some g):=fD (oZ (G.tr r.cj)) QW;refine⟨.bool true,[],[],rfl,r.PF QW.size,?_⟩;have hq:=hQl q h Sk;subst hq;refine⟨((P / D:Nat):Int),by rw[fX,bh be],?_⟩;intro If w4 r4;refine⟨rfl,fD hgw (by have:=r4.sk;exact⟨this.os,this.tape,this.output,this.size,fun j hj _=>this.block j hj ce⟩),rs',e1,e2,e3,e4,by rw[e5,hmod],?_⟩;rw[r4.sk.block g (by have:=hgw.size;omega) ce];exact e6
end Go.Ex
namespace Go.Ex
variable{ms:List Nat}
theorem KJ{t dt:Nat}(Qj:Lm ms)(hl:ms.length=t+1)(WB:ms[t]? =some dt)(h0:0<dt):32-iQ dt<32/\ln (val ms*2^(32-iQ dt))=t+1:=by
 have Tz:0<iQ dt:=by
  rcases bH (iQ dt)with h|h
  .have:=zZ.1 (Nat.le_of_eq h);simp at this;omega
  .exact h
 have Vb:iQ dt<=32:=zZ.2 (Qj.at WB);have QZ:=zZ.1 (aq (iQ dt));have hv:val ms=val (ms.take t)+wt t*dt:=by rw[<-eK WB,bX be]
 have Pq:=qI (Qj.take t);have hltk:(ms.take t).length=t:=by simp;omega
 rw[hltk]at Pq;have G:=AG t;refine⟨be,Nat.le_antisymm ?_ ?_⟩
 .rw[iH];have Y:val ms<wt t*2^iQ dt:=by
   have:wt t*(dt+1)<=wt t*2^iQ dt:=bC _ QZ;rw[bZ]at this;omega
  have I:=Nat.mul_lt_mul_of_pos_right Y (cJ (32-iQ dt));rw[bu,<-Nat.pow_add,Nat.add_sub_cancel' Vb]at I;rw[jb,bc 4294967296];exact I
 .refine Nat.lt_of_not_le fun h=>?_;have Y:=iH.1 h;have I:val ms*1<=val ms*2^(32-iQ dt):=bC _ (cJ _);have h3:wt t*1<=wt t*dt:=bC _ h0;omega
theorem Fw{rs:List Nat}{D FS k:Nat}(Qj:Lm rs)(hDN:D<wt FS)(R:k+FS+1<=rs.length)(h:val rs<wt (k+1)*D):
  val (rs.drop (k+FS+1))=0/\val (rs.drop k)=val ((rs.drop k).take (FS+1))/\val ((rs.drop k).take (FS+1))<4294967296*D:=by
 obtain⟨x,E⟩:∃q,rs[k]? =some q:=⟨_,aE be⟩
 have Rk:=Qj.at E;have Y:=fH rs (k+1) be;have I:val (rs.drop (k+1))<D:=Nat.lt_of_mul_lt_mul_left (a:=wt (k+1)) be;have h3:=fH (rs.drop (k+1)) FS (by simp;omega);rw[List.drop_drop,show k+1+FS=k+FS+1 by omega]at h3;have h4:val (rs.drop (k+FS+1))=0:=by
  rcases bH (val (rs.drop (k+FS+1)))with h|h
  .exact h
  .have:=bC (wt FS) h;omega
 have h5:=fH (rs.drop k) (FS+1) (by simp;omega);rw[List.drop_drop,show k+(FS+1)=k+FS+1 by omega,h4,Nat.mul_zero,cN]at h5;have h6:=jq E;exact⟨h4,h5,be⟩
theorem Ls{rs rs' out:List Nat}{D FS k P A9:Nat}(hD:0<D)(Qj:Lm rs)(hlen:rs'.length=rs.length)(hDN:D<wt FS)(R:k+FS+1<=rs.length)(h:val rs<wt (k+1)*D)(hV:A9=wt (k+1)*(D*val (out.drop (k+1)))+val rs)
  (hP:val ((rs.drop k).take (FS+1))=P) (Y:rs'.take k=rs.take k) (I:rs'.drop (k+FS+1)=rs.drop (k+FS+1)) (h3:val ((rs'.drop k).take (FS+1))=P % D) (ho:k<out.length):
  val rs'<wt k*D/\A9=wt k*(D*val ((out.set k (P / D)).drop k))+val rs':=by
 obtain⟨a1,a2,a3⟩:=Fw Qj hDN R h;have b1:=fH rs k be;have b2:=fH rs' k be;have b3:=fH (rs'.drop k) (FS+1) (by simp;omega);rw[List.drop_drop,show k+(FS+1)=k+FS+1 by omega,I,a1,Nat.mul_zero,cN,h3]at b3;rw[Y,b3]at b2;rw[a2,hP]at b1;have b4:=qI (Qj.take k);have b5:(rs.take k).length=k:=by simp;omega
 rw[b5]at b4;have b6:=cM P hD;have b7:(out.set k (P / D))[k]? =some (P / D):=by rw[aQ ho]
 have b8:=Nat.div_add_mod P D;refine⟨?_,?_⟩
 .have:wt k*(P % D+1)<=wt k*D:=bC _ b6;rw[bZ]at this;omega
 .rw[jq b7,List.drop_set_of_lt (show k<k+1 by omega),hV,b1,b2,jb];generalize val (out.drop (k+1))=o;have c1:wt k*P=wt k*(D*(P / D))+wt k*(P % D):=by rw[<-bZ,b8]
  have c2:4294967296*wt k*(D*o)=wt k*(D*(4294967296*o)):=by
   rw[bc 4294967296,bu,Nat.mul_left_comm 4294967296]
  rw[c1,c2,bZ D,bZ (wt k)];omega
theorem KK{n m b:Nat}(hm:0<m)(Xo:m<=n):n*2^b<wt (ln n+1-ln m)*(m*2^b):=by
 have Y:=lk n;have I:=fP Xo;have h3:wt (ln m-1)<=m:=by
  refine Nat.le_of_not_lt fun h=>?_;have:=iH.2 h;have h4:0<ln m:=by
   rcases bH (ln m)with h|h
   .have:=iH.1 (Nat.le_of_eq h);rw[kD]at this;omega
   .exact h
  omega
 have h4:0<ln m:=by
  rcases bH (ln m)with h|h
  .have:=iH.1 (Nat.le_of_eq h);rw[kD]at this;omega
  .exact h
 have h5:wt (ln n)<=wt (ln n+1-ln m)*m:=by
  rw[show ln n=(ln n+1-ln m)+(ln m-1) by omega,EH,show(ln n+1-ln m)+(ln m-1)+1-ln m=ln n+1-ln m by omega];exact bC _ h3
 rw[<-bu];exact Nat.mul_lt_mul_of_pos_right (Nat.lt_of_lt_of_le Y h5) (cJ b)
theorem No{n m b o r:Nat}(hm:0<m)(Y:n*2^b=m*2^b*o+r)(I:r<m*2^b):o=n / m/\r / 2^b=n % m:=by
 have hp:=cJ b;have h3:n*2^b / (m*2^b)=o:=by rw[Y,Nat.mul_add_div (Nat.mul_pos hm hp),Nat.div_eq_of_lt I,cN]
 have h4:n*2^b % (m*2^b)=r:=by rw[Y,Nat.mul_add_mod,bh I]
 rw[Nat.mul_div_mul_right _ _ hp]at h3;rw[Nat.mul_mod_mul_right]at h4;exact⟨h3.symm,by rw[<-h4,Nat.mul_div_cancel _ hp]⟩
end Go.Ex
namespace Go.Ex
open Go Go.Sx Go.Proofs
variable{H:Hp}{x y z:Int}{iv:Iv}{ls:List Nat}{k n nx:Nat}{S:Nat->Prop}{O:Nat->Sx.eH}{u v:Value}{w J w1:World}
theorem Ek{g:Nat}{rs:List Nat}(V:w.heap[g]? =some (.cells (EQ rs).toArray T.uint32 (0,0)))(Qj:Lm rs)(hl:rs.length<=1000000000000):
  dZ w (fun x=>x=g) (.slice (some ⟨g,0,none⟩) rs.length rs.length) rs:=by
 have:=JP (k:=0) (m:=rs.length) (c:=rs.length) V Qj be lr hl
 rwa [List.drop_zero,bK]at this
theorem nm{m:Nat}(W:Old S w)(U:dm w S v n)(hm:dm w S u m)(UR:0<m)(Tn:ln n<=100000000000):
  eL PG FS.pN #[v,u] w (eY w fun v' F=>∃q r,v'= .tuple #[q,r]/\dm F (Nf w F) q (n / m)/\dm F (Nw S w F) r (n % m)):=by
 have hnN:=U;have Vq:=hm;obtain⟨x,rfl,Rv,SI⟩:=U.la;obtain⟨y,rfl,Sk,Rq⟩:=hm.la;have SS:=eJ x.lm SI;have Sv:=eJ y.lm Rq;rw[Rv]at SS;rw[Sk]at Sv;refine tx ce ?_;refine cW (cU (GT:=fun _ _ v _=>v=iV (qg n m)) (fun O J r=>JR (S:=S) (fun g V=>by have:=W g V;have:=r.cj.size;omega) (hnN.cX fun g V=>r.cj.block g (W g V)) (Vq.cX fun g V=>r.cj.block g (W g V))) ?_);rintro O w1 v1 F r L G rfl;apply bS<;>intro h
 .have h:n<m:=by
   have:=aJ h;unfold qg at this;split at this
   .assumption
   .split at this<;>omega
  intro I8 w3 r3;refine⟨_,rfl,G.tr r3.cj,_,_,rfl,?_,?_⟩
  .rw[Nat.div_eq_of_lt h];exact dm.nil _ _
  .rw[bh h];exact(hnN.cX fun g V=>(G.tr r3.cj).block g (W g V)).cV fun g V=>.inl V
 have h:m<=n:=by
  have:=aL h;unfold qg at this;split at this
  .omega
  .omega
 have hlmn:=fP h;apply bS<;>intro Y
 .have Y:y.ls.length=1:=by have:=eq_of_beq Y;omega
  obtain⟨b,Xl⟩:=List.length_eq_one_iff.1 Y;have A:y.ls[0]? =some b:=by rw[Xl];rfl
  have Vb:=y.lm.at A;have Te:m=b:=by rw[<-Sk,Xl];simp[val]
  subst Te;obtain⟨ad,QV,QX⟩:=y.load W G A;refine⟨ad,QV,be,.int .u32 m,QX _ _ _,?_⟩;refine cW (cU (GT:=fun _ J v F=>∃q,v= .tuple #[q,.int .u32 ((val x.ls % m:Nat):Int)]/\dm F (Nf J F) q (val x.ls / m)) (fun O J r=>?_) ?_)
  .refine JT (S:=S) (fun g V=>by have:=W g V;have:=(G.tr r.cj).size;omega) ⟨x.lm,x.le,_,_,rfl,x.cap,fun j u hu=>?_⟩ be UR Vb;obtain⟨ad,e1,e2,e3⟩:=x.cell j u hu;exact⟨ad,e1,e2,gN W G r e2 e3⟩
  rintro O w3 v3 w4 r L Rd ⟨q,rfl,hq⟩;replace G:=G.tr Rd;have Vp:=hq.ep (S:=FF) r.cZ (iv:=(w3.heap.size,w4.heap.size)::[(w1.heap.size,F.heap.size)]) aF;rw[Rv]at Vp;rw[Rv];generalize (w3.heap.size,w4.heap.size)::[(w1.heap.size,F.heap.size)]=iv at*
  have VH:n % m<m:=cM _ UR;generalize n % m=rem at*
  refine gU (GT:=fun O _ v F=>dZ F (fun g=>g=(O 0).g) v (eO [rem])) (H':=[]) 0 rfl ce trivial rfl (fun O J r=>r.nn 0 _ rfl (by intros;simp) ce) (fun O J r=>?_) ?_
  .have hL:=r.pe (id:=0) (ls:=[rem]) rfl (by intro x E;simp at E;omega) ce;exact fY (fun g V=>by rw[V];exact(r.low 0 _ rfl (r.nn 0 _ rfl (by intros;simp) ce)).2) hL
  rintro O w5 v5 w6 r L Zv hL;have Pq:=r.low 0 _ rfl (r.nn 0 _ rfl (by intros;simp) ce);have hs:=L.size;replace G:=G.tr Zv;replace Vp:=Vp.cS (K:=((O 0).g,(O 0).g+1)::(w5.heap.size,w6.heap.size)::iv) r (fun g h=>h.elim) L fun x E=>by simp[E]
  generalize (O 0).g=g0 at*
  have Wt:dm w6 (Cf w ((g0,g0+1)::(w5.heap.size,w6.heap.size)::iv)) v5 rem:=by
   have:=hL.trimmed;simp only[val,Nat.mul_zero,cN]at this;exact this.cV fun k R=>.inr ⟨be,g0,g0+1,ce,be,be⟩
  generalize (g0,g0+1)::(w5.heap.size,w6.heap.size)::iv=iv2 at*
  intro I8 w7 r3;exact⟨_,rfl,G.tr r3.cj,_,_,rfl,(Vp.rel r3 fun g h=>h.elim).cV fun g V=>Cv.nw V r3,((Wt.rel r3 fun g h=>h.elim).cV fun g V=>Cv.nw V r3).cV fun g V=>V.elim (fun h=>h.elim) .inr⟩
 .have Y:y.ls.length≠1:=fun e=>by rw[e]at Y;simp at Y
  have Tf:0<ln m:=by
   rcases bH (ln m)with h|h
   .have:=iH.1 (Nat.le_of_eq h);rw[kD]at this;omega
   .exact h
  obtain⟨t,ht⟩:∃t,y.ls.length=t+1:=⟨y.ls.length-1,be⟩
  obtain⟨dt,WB⟩:=gO y.ls t;have hdt0:0<dt:=by
   have:=Rq dt (by rw[List.getLast?_eq_getElem?,ht];exact WB);omega
  have Zu:=y.lm.at WB;obtain⟨QR,ZC⟩:=KJ y.lm ht WB hdt0;rw[Sk]at ZC;obtain⟨ad,QV,QX⟩:=y.load W G WB;refine⟨(t:Int),wo,ad,QV,be,.int .u32 dt,QX _ _ _,?_⟩;refine cW (cU (GT:=fun _ _ v _=>v=iV ((32-iQ dt:Nat):Int)) (fun O J r=>aAB dt J Zu) ?_);rintro O w3 v3 w4 r L Rd rfl;replace G:=G.tr Rd;generalize hbyd:32-iQ dt=b at*
  refine⟨(b:Int),fC be,?_⟩;refine cW (cU (GT:=fun _ J v F=>∃out,Md J F v out/\out.length=y.ls.length+1/\val out=val y.ls*2^b) (fun O J r=>?_) ?_)
  .refine xl (S:=S) (fun g V=>by have:=W g V;have:=(G.tr r.cj).size;omega) ⟨y.lm,y.le,_,_,rfl,y.cap,fun j u hu=>?_⟩ be QR;obtain⟨ad,e1,e2,e3⟩:=y.cell j u hu;exact⟨ad,e1,e2,gN W G r e2 e3⟩
  rintro O w5 v5 w6 r L Zv ⟨dl,⟨gd,rfl,hgd1,hgd2,hgd3⟩,S5,hdv⟩;replace G:=G.tr Zv;rw[Sk]at hdv;have hB5:w.heap.size<=w5.heap.size:=r.cZ;have UA:Cf w ((w5.heap.size,w6.heap.size)::[(w3.heap.size,w4.heap.size),(w1.heap.size,F.heap.size)]) gd:=.inr ⟨be,_,_,aF,hgd1,lQ hgd2⟩;generalize (w5.heap.size,w6.heap.size)::[(w3.heap.size,w4.heap.size),(w1.heap.size,F.heap.size)]=iv at*
  have hF:∀g:Nat,(fun _:Nat=>False) g->g<w.heap.size:=fun g h=>h.elim;refine cW (cU (GT:=fun _ _ v F=>dZ F (fun x=>x=gd) v (eO dl)) (fun O J r=>fY (fun g V=>by rw[V];exact rlo r hF gd UA) (Ek (by rw[rls r hF UA];exact hgd2) hgd3 be)) ?_);rintro O w7 v6 w8 r L hb8 hL;replace G:=G.tr hb8;have hgd8:gd<w8.heap.size:=by have:=rlo r hF gd UA;have:=L.size;omega
  replace UA:=UA.mono (K:=(w7.heap.size,w8.heap.size)::iv) fun p hp=>aD _ hp;have Xu:=hL.trimmed;rw[hdv]at Xu;generalize (w7.heap.size,w8.heap.size)::iv=iv at*
  obtain⟨dp,rfl,QM,QJ⟩:=Xu.la;have hdpl:=eJ dp.lm QJ;rw[QM,ZC]at hdpl;generalize hDd:m*2^b=D at*
  have hD0:0<D:=by rw[<-hDd];exact Nat.mul_pos UR (cJ b)
  refine cW (cU (GT:=fun _ J v F=>∃out,Md J F v out/\out.length=x.ls.length+1/\val out=val x.ls*2^b) (fun O J r=>?_) ?_)
  .refine xl (S:=S) (fun g V=>by have:=W g V;have:=(G.tr r.cj).size;omega) ⟨x.lm,x.le,_,_,rfl,x.cap,fun j u hu=>?_⟩ be QR;obtain⟨ad,e1,e2,e3⟩:=x.cell j u hu;exact⟨ad,e1,e2,gN W G r e2 e3⟩
  rintro O w9 v9 w10 r L hb10 ⟨rs0,⟨gr,rfl,Wu,Wv,hgr3⟩,QO,Ve⟩;replace G:=G.tr hb10;rw[Rv]at Ve;have hB9:w.heap.size<=w9.heap.size:=r.cZ;have VM:Cf w ((w9.heap.size,w10.heap.size)::iv) gr:=.inr ⟨be,_,_,aF,Wu,lQ Wv⟩;have Po:gr≠gd:=by have:=r.size;omega
  replace Xu:dm w10 (fun x=>x=gd) (.slice dp.a dp.ls.length dp.c) D:=Xu.cX fun x E=>by
   rw[E,L.block gd (rlo r hF gd UA),rls r hF UA]
  have hgd10:gd<w10.heap.size:=by have:=rlo r hF gd UA;have:=L.size;omega
  replace UA:=UA.mono (K:=(w9.heap.size,w10.heap.size)::iv) fun p hp=>aD _ hp;generalize (w9.heap.size,w10.heap.size)::iv=iv at*
  have hgrB:w.heap.size<=gr:=by omega
  obtain⟨Do,hL⟩:∃Do,rs0.length=t+1+Do:=⟨rs0.length-(t+1),be⟩
  refine⟨(Do:Int),wo,Do,Do,rfl,rfl,lr,be,be,(Do:Int)-1,wo,Nat×List Nat×List Nat×World,fun z=>⟨[(8,.o (.v (.int .u64 b))),(9,sV dp.a dp.ls.length dp.c),(10,.o (.v (.slice (some ⟨gr,0,none⟩) rs0.length rs0.length))),(11,.o (.s 0 0 Do Do)),(12,.o (.v (iV ((z.1:Int)-1))))],
    [(0,.arr T.uint32 (EQ z.2.1))],1,iv,z.2.2.2⟩,fun z=>z.1,
   fun z=>z.1<=Do/\Bq w z.2.2.2/\z.2.1.length=Do/\z.2.2.1.length=rs0.length/\Lm z.2.1/\Lm z.2.2.1/\z.2.2.2.heap[gr]? =some (.cells (EQ z.2.2.1).toArray T.uint32 (0,0))/\dm z.2.2.2 (fun x=>x=gd) (.slice dp.a dp.ls.length dp.c) D/\
    gd<z.2.2.2.heap.size/\val z.2.2.1<wt z.1*D/\n*2^b=wt z.1*(D*val (z.2.1.drop z.1))+val z.2.2.1,?_,?_⟩
  .intro O J r;rw[sn]at r;refine⟨(Do,List.replicate Do 0,rs0,J),⟨lr,G.tr r.cj,ce,rfl,Lm.replicate _,hgr3,?_,?_,?_,?_,?_⟩,sbgn [] r⟩
   .dsimp only;rw[rls r hF VM];exact Wv
   .exact Xu.cX fun x E=>by rw[E];exact rls r hF UA
   .exact rlo r hF gd UA
   .dsimp only
    have:=KK (b:=b) UR h;rw[hDd,<-Sv,ht,<-SS,show x.ls.length+1-(t+1)=Do by omega]at this;rw[Ve];exact this
   .dsimp only;rw[Ve];simp[val]
  .rintro⟨k,out,rs,w11⟩ ⟨R,G,Rw,US,Tv,ZD,QW,Xu,Sj,Zw,Qv⟩;dsimp only at R G Rw US Tv ZD QW Xu Sj Zw Qv ⊢;apply bS<;>intro h9
   .have h9:(k:Int)-1≥0:=aJ h9;obtain⟨k,rfl⟩:∃q,k=q+1:=⟨k-1,be⟩
    rw[show ((k+1:Nat):Int)-1=(k:Int) by omega];have hDN:D<wt (t+1):=iH.1 (Nat.le_of_eq ZC);obtain⟨a1,a2,a3⟩:=Fw (FS:=t+1) ZD hDN be Zw;have hdig:=fun(J:World)=>@OK (fun x=>x=gd) J (.slice dp.a dp.ls.length dp.c) D gr k rs;rw[ZC]at hdig;simp only[US]at hdig;generalize hP:val ((rs.drop k).take (t+1+1))=P at*
    have hQ32:P / D<4294967296:=(Nat.div_lt_iff_lt_mul hD0).2 (by rw[bc]at a3;omega);refine⟨fun O J r=>(hdig J (fun g V=>by rw[V];exact rlo r hF gd UA) Po (Xu.cX fun x E=>by rw[E];exact rls r hF UA) hD0 (by rw[rls r hF VM];exact QW) ZD be be a3).mono fun e w12 L=>?_⟩;obtain⟨rfl,hgb,rs',e1,e2,e3,e4,e5,e6⟩:=L;refine⟨_,_,_,rfl,r.Ff (fun id b A U=>Rel.not r hF VM id b A U) hgb,?_⟩;obtain⟨hi1',hi2'⟩:=Ls (FS:=t+1) hD0 ZD (e1.trans US.symm) hDN be Zw Qv hP e3 e4 e5 be;have hw12:Bq w w12:=(G.tr r.cj).tr (Bel.grown hgb (fun g V=>by injection V with V;omega) r.cZ);have hdN12:dm w12 (fun x=>x=gd) (.slice dp.a dp.ls.length dp.c) D:=Xu.cX fun x E=>by
     rw[E,hgb.block gd (rlo r hF gd UA) (fun e=>Po (Option.some.inj e).symm),rls r hF UA]
    have hgd12:gd<w12.heap.size:=by have:=rlo r hF gd UA;have:=hgb.size;omega
    generalize P / D=Q at*
    refine⟨be,by rw[gP];omega,EQ (out.set k Q),jf out k _ be ce,(k:Int)-1,wo,?_⟩;intro I8 w3 r3
    refine⟨(k,out.set k Q,rs',w3),⟨by dsimp only;omega,hw12.tr r3.cj,by simp[Rw],e1.trans rfl,Tv.set hQ32,e2,?_,?_,?_,hi1',hi2'⟩,
     sbgn [] r3,by dsimp only;omega⟩
    .dsimp only;rw[rls r3 hF VM];exact e6
    .exact hdN12.cX fun x E=>by rw[E];exact rls r3 hF UA
    .exact rlo r3 hF gd UA
   .have TE:k=0:=by
     have:¬(k:Int)-1≥0:=aL h9;omega
    subst TE;rw[kD,Nat.one_mul,List.drop_zero]at Qv;rw[kD,Nat.one_mul]at Zw;rw[<-hDd]at Zw Qv;obtain⟨hq,hrem⟩:=No UR Qv Zw;have RX:∀J:World,J.heap[gr]? =some (.cells (EQ rs).toArray T.uint32 (0,0))->dZ J (fun x=>x=gr) (.slice (some ⟨gr,0,none⟩) rs0.length rs0.length) rs:=fun J hh=>by
     have:=Ek hh ZD be
     rwa [US]at this
    refine gU (GT:=fun O _ v F=>dZ F (fun g=>g=(O 0).g) v (eO out)) (H':=[]) 0 rfl ce trivial rfl (fun O J r=>r.nn 0 _ rfl (by intros;simp) ce) (fun O J r=>?_) ?_
    .have hL:=r.pf (id:=0) rfl Tv be;rw[Rw]at hL;exact fY (fun g V=>by rw[V];exact(r.low 0 _ rfl (r.nn 0 _ rfl (by intros;simp) ce)).2) hL
    rintro O w13 v13 w14 r L hb14 hL;replace G:=G.tr hb14;have Pq:=r.low 0 _ rfl (r.nn 0 _ rfl (by intros;simp) ce);have hs:=L.size;have hgr14:w14.heap[gr]? =some (.cells (EQ rs).toArray T.uint32 (0,0)):=by rw[L.block gr (rlo r hF gr VM),rls r hF VM];exact QW
    replace VM:=VM.mono (K:=((O 0).g,(O 0).g+1)::(w13.heap.size,w14.heap.size)::iv) fun p hp=>by simp[hp]
    have Vp:dm w14 (Cf w (((O 0).g,(O 0).g+1)::(w13.heap.size,w14.heap.size)::iv)) v13 (n / m):=by
     have:=hL.trimmed;rw[hq]at this;exact this.cV fun k R=>.inr ⟨be,_,_,aF,be,be⟩
    generalize ((O 0).g,(O 0).g+1)::(w13.heap.size,w14.heap.size)::iv=Pu at*
    refine cW (cU (GT:=fun _ _ v F=>dZ F (fun x=>x=gr) v (eO rs)) (fun O J r=>fY (fun g V=>by rw[V];exact rlo r hF gr VM) (RX J (by rw[rls r hF VM];exact hgr14))) ?_);rintro O w15 v15 w16 r L hb16 hL;replace G:=G.tr hb16;replace Vp:=Vp.cS (K:=(w15.heap.size,w16.heap.size)::Pu) r hF L fun x E=>aD _ E;replace hL:=hL.cV (S':=Cf w ((w15.heap.size,w16.heap.size)::Pu)) fun g V=>by rw[V];exact VM.cons
    generalize (w15.heap.size,w16.heap.size)::Pu=QD at*
    have Xw:(eO rs).length<=rs.length:=by
     obtain⟨_,_,k,_,R⟩:=fL rs;rw[R];simp;omega
    refine cW (cU (GT:=fun _ J v F=>dm F (Nf J F) v (val (eO rs) / 2^b)) (fun O J r=>Me (rlo r hF) (dZ.rel hL r hF) be QR) ?_);rintro O w17 v17 w18 r L hb18 hr;replace G:=G.tr hb18;rw[(fL rs).1,hrem]at hr;have Wt:=hr.ep (S:=FF) r.cZ (iv:=(w17.heap.size,w18.heap.size)::QD) aF;replace Vp:=Vp.cS (K:=(w17.heap.size,w18.heap.size)::QD) r hF L fun x E=>aD _ E;generalize (w17.heap.size,w18.heap.size)::QD=QH at*
    intro I8 w19 r3;exact⟨_,rfl,G.tr r3.cj,_,_,rfl,(Vp.rel r3 hF).cV fun g V=>Cv.nw V r3,((Wt.rel r3 hF).cV fun g V=>Cv.nw V r3).cV fun g V=>V.elim (fun h=>h.elim) .inr⟩
theorem Gc{m:Nat}(W:Old S w)(U:dm w S v n)(hm:dm w S u m)(Tn:ln n<=100000000000)(Qj:ln m<=100000000000):
  eL PG FS.wT #[v,u] w (eY w fun v' F=>dm F (Nw S w F) v' (Nat.gcd n m)):=by
 refine zH ce ?_
 refine⟨(Value×Nat)×(Value×Nat)×Iv×World,fun z=>⟨[(0,.o (.v z.1.1)),(1,.o (.v z.2.1.1))],[],0,z.2.2.1,z.2.2.2⟩,fun z=>z.2.1.2,
  fun z=>Bq w z.2.2.2/\dm z.2.2.2 (Cv S w.heap.size z.2.2.1) z.1.1 z.1.2/\dm z.2.2.2 (Cv S w.heap.size z.2.2.1) z.2.1.1 z.2.1.2/\ln z.1.2<=100000000000/\ln z.2.1.2<=100000000000/\Nat.gcd z.1.2 z.2.1.2=Nat.gcd n m,?_,?_⟩
 .intro O J r
  exact⟨((v,n),(u,m),[],J),⟨r.cj,(U.cX fun g V=>r.cj.block g (W g V)).cV fun _ V=>.inl V,(hm.cX fun g V=>r.cj.block g (W g V)).cV fun _ V=>.inl V,Tn,Qj,rfl⟩,
   Sub.gen [] r trivial ⟨rfl,rfl,trivial⟩ trivial (by simp[jn,SV.sc,At.sc]) d8 ce⟩
 .rintro⟨⟨vx,x⟩,⟨vy,y⟩,iv,w1⟩ ⟨G,E,hy,RL,R9,V⟩;dsimp only at G E hy RL R9 V ⊢;have hyN:=hy;obtain⟨p,rfl,Rv,SI⟩:=hy.la;have QQ:=eJ p.lm SI;rw[Rv]at QQ;apply bS<;>intro h
  .have h:0<p.ls.length:=by
    have:(p.ls.length:Int)>0:=aJ h;omega
   have Qz:0<y:=by
    rcases bH y with h0|h0
    .rw[h0]at QQ;rw[Nm]at QQ;omega
    .exact h0
   refine cW (cU (GT:=fun _ J v F=>∃q r,v= .tuple #[q,r]/\dm F (Nf J F) q (x / y)/\dm F (Nw (Cv S w.heap.size iv) J F) r (x % y)) (fun O J r=>nm (rlo r W) (E.rel r W) (hyN.rel r W) Qz RL) ?_);rintro O w3 v3 w4 r L Rd ⟨q,rm,rfl,-,hr⟩;replace G:=G.tr Rd;have Wt:dm w4 (Cv S w.heap.size ((w3.heap.size,w4.heap.size)::iv)) rm (x % y):=hr.cV fun g V=>Nw.cv V r.cZ;have hyN:=hyN.cS (K:=(w3.heap.size,w4.heap.size)::iv) r W L fun x E=>aD _ E;generalize (w3.heap.size,w4.heap.size)::iv=iv2 at*
   intro Id w5 r5
   refine⟨((_,y),(rm,x % y),iv2,w5),⟨G.tr r5.cj,hyN.rel r5 W,Wt.rel r5 W,R9,aR (fP (Nat.le_of_lt (cM x Qz))) R9,?_⟩,
    Sub.gen [] r5 trivial ⟨rfl,rfl,trivial⟩ trivial (by simp[jn,SV.sc,At.sc]) d8 ce,cM x Qz⟩
   dsimp only
   rw[<-V,Nat.gcd_comm x y,Nat.gcd_rec y x,Nat.gcd_comm]
  .have h:p.ls.length=0:=by
    have:¬(p.ls.length:Int)>0:=aL h;omega
   have Qz:y=0:=by
    have:=lk y;rw[<-QQ,h,kD]at this;omega
   rw[Qz,Nat.gcd_zero_right]at V;intro Id w5 r5;exact⟨_,rfl,G.tr r5.cj,by rw[<-V];exact(E.rel r5 W).cV fun g V=>Cv.nw V r5⟩
def sg(neg:Bool)(n:Nat):Int:=if neg then -(n:Int)else n
theorem K7(n:Nat):sg true n= -(n:Int):=rfl
theorem aAE(n:Nat):sg false n=n:=rfl
theorem ow(b:Bool)(n:Nat):(sg b n).natAbs=n:=by cases b<;>simp[sg]
def wv(w:World)(S:Nat->Prop)(v:Value)(neg:Bool)(ls:List Nat):Prop:=∃lv,v= .agg #[.bool neg,lv]/\dZ w S lv ls
def eS(w:World)(S:Nat->Prop)(v:Value)(z:Int):Prop:=∃nv,v= .agg #[.bool (decide (z<0)),nv]/\dm w S nv z.natAbs
section
variable{S S':Nat->Prop}{H:Hp}{nx:Nat}{iv K:Iv}{B:Nat}{w J F:World}{O:Nat->Sx.eH}{v:Value}{z:Int}
theorem eS.cX(h:eS w S v z)(R:∀g,S g->F.heap[g]? =w.heap[g]?):eS F S v z:=by
 obtain⟨nv,Y,I⟩:=h;exact⟨nv,Y,I.cX R⟩
theorem eS.cV(h:eS w S v z)(R:∀g,S g->S' g):eS w S' v z:=by
 obtain⟨nv,Y,I⟩:=h;exact⟨nv,Y,I.cV R⟩
theorem eS.rel(h:eS w (Cv S B iv) v z)(r:Rel H nx iv B w O J)(W:∀g,S g->g<B):eS J (Cv S B iv) v z:=h.cX fun _ V=>rls r W V
theorem eS.cS(h:eS w (Cv S B iv) v z)(r:Rel H nx iv B w O J)(W:∀g,S g->g<B)(L:Ext J F)(hm:∀p,p∈iv->p∈K):eS F (Cv S B K) v z:=by
 obtain⟨nv,Y,I⟩:=h;exact⟨nv,Y,I.cS r W L hm⟩
theorem eS.ep(h:eS F (Nf J F) v z)(hB:B<=J.heap.size)(hm:(J.heap.size,F.heap.size)∈iv):eS F (Cv S B iv) v z:=h.cV fun _ V=>V.ep hB hm
end
theorem ox(h:k=ln n):0<k↔0<n:=by
 have Y:=@iH n 0;rw[kD]at Y;omega
theorem dZ.shape(h:dZ w S v ls):∃a n c,v= .slice a n c:=by
 obtain⟨a,c,h,_⟩:=h.sl;exact⟨a,_,c,h⟩
theorem dm.shape(h:dm w S v n):∃a n c,v= .slice a n c:=by
 obtain⟨_,h,_⟩:=h;exact h.shape
theorem dZ.arg(h:dZ w S v ls)(iv:Iv):dZ w (Cv S w.heap.size iv) v ls:=h.cV fun _ h=>.inl h
theorem dm.arg(h:dm w S v n)(iv:Iv):dm w (Cv S w.heap.size iv) v n:=h.cV fun _ h=>.inl h
theorem dm.out(h:dm w1 (Cv S w.heap.size iv) v n)(r:Rel H nx iv w.heap.size w1 O J)(W:Old S w):dm J (Nw S w J) v n:=
 (h.rel r W).cV fun _ V=>Cv.nw V r
theorem eS.out(h:eS w1 (Cv S w.heap.size iv) v z)(r:Rel H nx iv w.heap.size w1 O J)(W:Old S w):eS J (Nw S w J) v z:=
 (h.rel r W).cV fun _ V=>Cv.nw V r
theorem neg_pos(h:k=ln n):decide ((k:Int)>0)=decide (-(n:Int)<0):=by
 have:=ox h;exact decide_eq_decide.2 be
theorem Mf(w:World):Old FF w:=fun _ h=>h.elim
theorem oF:Old (fun _=>False) w:=Mf w
theorem aBX{neg:Bool}(W:Old S w)(h:wv w S v neg ls):
  eL PG FS.Ax #[v] w (eY w fun v' F=>eS F (Nw S w F) v' (sg neg (val ls))):=by
 obtain⟨lv,rfl,hl⟩:=h;replace hl:=hl.arg [];refine GZ ce ?_;refine cW (cU (GT:=fun _ _ v F=>dZ F (Cv S w.heap.size []) v (eO ls)) (fun O J r=>fY (rlo r W) (dZ.rel hl r W)) ?_);rintro O w1 v1 F r L G hL;have hN:=hL.trimmed.cV (S':=Cv S w.heap.size [(w1.heap.size,F.heap.size)]) fun _ V=>V.cons;have ZE:=hN;obtain⟨p,rfl,Rv,SI⟩:=hN.la;have QQ:=eJ p.lm SI;rw[Rv]at QQ
 cases neg
 .intro I8 w3 r3;exact⟨_,rfl,G.tr r3.cj,_,rfl,by rw[ow];exact ZE.out r3 W⟩
 .intro I8 w3 r3;exact⟨_,rfl,G.tr r3.cj,_,by rw[K7,<-neg_pos QQ];rfl,by rw[ow];exact ZE.out r3 W⟩
theorem B6(W:Old S w)(h:eS w S v z)(Tn:ln z.natAbs<=100000000000):
  eL PG FS.oP #[v] w (eY w fun v' F=>∃ls,wv F (Nf w F) v' (decide (z<0)) ls/\Nz ls/\val ls=z.natAbs):=by
 obtain⟨nv,rfl,U⟩:=h;obtain⟨ls,hl,hz,hv⟩:=U;replace hl:=hl.arg [];refine s7 ce ?_;refine cW (cU (GT:=fun _ _ v F=>dZ F (Cv S w.heap.size []) v (eO ls)) (fun O J r=>fY (rlo r W) (dZ.rel hl r W)) ?_);rintro O w1 v1 F r L G hL;rw[Fq hz]at hL;have QQ:=eJ hl.lm hz;rw[hv]at QQ;replace hL:=hL.cV (S':=Cv S w.heap.size [(w1.heap.size,F.heap.size)]) fun _ V=>V.cons;have hL2:=hL;obtain⟨p,rfl,hp⟩:=hL.la;have Yf:(p.ls.length:Int)>0↔z≠0:=by
  have Y:=ox QQ;rw[hp];omega
 subst hp;generalize A:decide (z<0)=b
 cases b
 all_goals
  refine cW (cU (GT:=fun _ J v F=>dZ F (Nf J F) v p.ls) (fun O J r=>JO (rlo r W) (dZ.rel hL2 r W) be) ?_);rintro O w3 v3 w4 r L Rd hc;replace G:=G.tr Rd;have hcL:=hc.ep (S:=FF) r.cZ (iv:=(w3.heap.size,w4.heap.size)::[(w1.heap.size,F.heap.size)]) aF;obtain⟨a3,n3,c3,rfl⟩:=hcL.shape;intro Id w5 r5;refine⟨_,rfl,G.tr r5.cj,p.ls,⟨_,?_,(dZ.rel hcL r5 oF).cV fun _ V=>Cv.nw V r5⟩,hz,hv⟩
 .rfl
 .have:decide ((p.ls.length:Int)>0)=true:=bg (Yf.2 (by have:=aJ A;omega));rw[<-this];rfl
theorem xm(h:eS w S v z):eL PG FS.oO #[v] w (eY w fun v' _=>v'=iV z.sign):=by
 obtain⟨nv,rfl,U⟩:=h;obtain⟨p,rfl,Rv,SI⟩:=U.la;have QQ:=eJ p.lm SI;rw[Rv]at QQ;have Yf:=ox QQ;generalize A:decide (z<0)=b;refine s6 ce ?_;apply bS<;>intro h
 .have h:p.ls.length=0:=by have:=eq_of_beq h;omega
  have hz:z=0:=by omega
  subst hz;intro O F r;exact⟨_,rfl,r.cj,rfl⟩
 .have h:p.ls.length≠0:=fun e=>by rw[e]at h;simp at h
  have hz:z≠0:=by omega
  cases b
  .have:=aL A;intro O F r;exact⟨_,rfl,r.cj,by rw[cK be];rfl⟩
  .have:=aJ A;intro O F r;exact⟨_,rfl,r.cj,by rw[cH be];rfl⟩
theorem qh(W:Old S w)(h:eS w S v z):eL PG FS.nh #[v] w (eY w fun v' F=>eS F (Nw S w F) v' (-z)):=by
 obtain⟨nv,rfl,U⟩:=h;have UM:=U.arg [];obtain⟨p,rfl,Rv,SI⟩:=U.la;have QQ:=eJ p.lm SI;rw[Rv]at QQ;have Yf:=ox QQ;have Td:(-z).natAbs=z.natAbs:=cQ z;generalize A:decide (z<0)=b;refine rS ce ?_
 cases b
 .have:=aL A;have hd:decide ((p.ls.length:Int)>0)=decide (-z<0):=decide_eq_decide.2 be;intro O F r;exact⟨_,rfl,r.cj,_,by rw[<-hd];rfl,by rw[Td];exact UM.out r W⟩
 .have:=aJ A;have hd:decide (-z<0)=false:=bI be;intro O F r;exact⟨_,rfl,r.cj,_,by rw[hd];rfl,by rw[Td];exact UM.out r W⟩
theorem eS.num(h:eS w S v z):∃a n c,v= .agg #[.bool (decide (z<0)),.slice a n c]/\dm w S (.slice a n c) z.natAbs:=by
 obtain⟨nv,Y,I⟩:=h;obtain⟨a,n,c,rfl⟩:=I.shape;exact⟨a,n,c,Y,I⟩
theorem D9(W:Old S w)(E:eS w S v x)(hy:eS w S u y)(RL:ln x.natAbs<=100000000000)(R9:ln y.natAbs<=100000000000):
  eL PG FS.oX #[v,u] w (eY w fun v' F=>eS F (Nf w F) v' (x+y)):=by
 obtain⟨nx,rfl,SW⟩:=E;obtain⟨ny,rfl,TV⟩:=hy;obtain⟨ax,lx,cx,rfl⟩:=SW.shape;obtain⟨ay,ly,cy,rfl⟩:=TV.shape;replace SW:=SW.arg [];replace TV:=TV.arg [];generalize VO:decide (x<0)=bx;generalize QR:decide (y<0)=b2;refine si ce ?_;have Pp:bx=b2->(x+y).natAbs=x.natAbs+y.natAbs/\decide (x+y<0)=bx:=fun e=>by
  cases bx<;>subst e
  .have Y:=aL VO;have I:=aL QR;exact⟨be,bI be⟩
  .have Y:=aJ VO;have I:=aJ QR;exact⟨be,bg be⟩
 have Xx:bx≠b2->y.natAbs<=x.natAbs->(x+y).natAbs=x.natAbs-y.natAbs/\(decide (x+y<0)=(bx&&decide (x.natAbs-y.natAbs≠0))):=fun e h=>by
  cases bx
  .have Y:=aL VO
   cases b2
   .exact absurd rfl e
   have I:=aJ QR;exact⟨be,by rw[Bool.false_and];exact bI be⟩
  .have Y:=aJ VO
   cases b2
   .have I:=aL QR;exact⟨be,by rw[Bool.true_and];exact decide_eq_decide.2 be⟩
   .exact absurd rfl e
 have WC:bx≠b2->x.natAbs<y.natAbs->(x+y).natAbs=y.natAbs-x.natAbs/\decide (x+y<0)=b2:=fun e h=>by
  cases bx
  .have Y:=aL VO
   cases b2
   .exact absurd rfl e
   have I:=aJ QR;exact⟨be,bg be⟩
  .have Y:=aJ VO
   cases b2
   .have I:=aL QR;exact⟨be,bI be⟩
   .exact absurd rfl e
 by_cases QE:bx=b2
 .obtain⟨Y,I⟩:=Pp QE;subst QE
  cases bx
  all_goals
   refine dP (idO 9) ?_;refine cU (GT:=fun _ J v F=>dm F (Nf J F) v (x.natAbs+y.natAbs)) (fun O J r=>Hz (rlo r W) (SW.rel r W) (TV.rel r W) be be) ?_;rintro O w3 v3 w4 r L G U;have hN:=U.ep (S:=FF) r.cZ (iv:=(w3.heap.size,w4.heap.size)::[]) aF;obtain⟨a3,n3,c3,rfl⟩:=hN.shape;intro Id w5 r5;exact⟨_,rfl,G.tr r5.cj,_,by rw[I];rfl,by rw[Y];exact hN.out r5 oF⟩
 .replace Xx:=Xx QE;replace WC:=WC QE;have hcmp:∀d:Int,d=qg x.natAbs y.natAbs->(0<=d↔y.natAbs<=x.natAbs):=fun d e=>by
   rw[e];unfold qg;split
   .omega
   .split<;>omega
  cases bx<;>cases b2<;>first|exact absurd rfl QE|skip
  all_goals
   refine cW (cU (GT:=fun _ _ v _=>v=iV (qg x.natAbs y.natAbs)) (fun O J r=>JR (rlo r W) (SW.rel r W) (TV.rel r W)) ?_);rintro O w1 v1 F r L G rfl;replace SW:=SW.cS (K:=[(w1.heap.size,F.heap.size)]) r W L fun x E=>aD _ E;replace TV:=TV.cS (K:=[(w1.heap.size,F.heap.size)]) r W L fun x E=>aD _ E;apply bS<;>intro h
   .have h:=(hcmp _ rfl).1 (aJ h);obtain⟨Y,I⟩:=Xx h;refine cW (cU (GT:=fun _ J v F=>dm F (Nf J F) v (x.natAbs-y.natAbs)) (fun O J r=>zb (rlo r W) (SW.rel r W) (TV.rel r W) h be) ?_);rintro O w3 v3 w4 r L Rd U;replace G:=G.tr Rd;have hN:=U.ep (S:=FF) r.cZ (iv:=(w3.heap.size,w4.heap.size)::[(w1.heap.size,F.heap.size)]) aF;have ZE:=hN;obtain⟨p,rfl,Rv,SI⟩:=hN.la;have QQ:=eJ p.lm SI;rw[Rv]at QQ;have Yf:=ox QQ;have hd:decide ((p.ls.length:Int)>0)=decide (x.natAbs-y.natAbs≠0):=decide_eq_decide.2 be;intro Id w5 r5;exact⟨_,rfl,G.tr r5.cj,_,by rw[I,<-hd];rfl,by rw[Y];exact ZE.out r5 oF⟩
   .have h:x.natAbs<y.natAbs:=by
     have h0:=aL h;have:=hcmp _ rfl;omega
    obtain⟨Y,I⟩:=WC h;refine dP (idO 9) ?_;refine cU (GT:=fun _ J v F=>dm F (Nf J F) v (y.natAbs-x.natAbs)) (fun O J r=>zb (rlo r W) (TV.rel r W) (SW.rel r W) be be) ?_;rintro O w3 v3 w4 r L Rd U;replace G:=G.tr Rd;have hN:=U.ep (S:=FF) r.cZ (iv:=(w3.heap.size,w4.heap.size)::[(w1.heap.size,F.heap.size)]) aF;obtain⟨a3,n3,c3,rfl⟩:=hN.shape;intro Id w5 r5;exact⟨_,rfl,G.tr r5.cj,_,by rw[I];rfl,by rw[Y];exact hN.out r5 oF⟩
theorem gp(W:Old S w)(E:eS w S v x)(hy:eS w S u y)(RL:ln x.natAbs<=100000000000)(R9:ln y.natAbs<=100000000000):
  eL PG FS.ng #[v,u] w (eY w fun v' F=>eS F (Nf w F) v' (x*y)):=by
 obtain⟨nx,rfl,SW⟩:=E;obtain⟨ny,rfl,TV⟩:=hy;obtain⟨ax,lx,cx,rfl⟩:=SW.shape;obtain⟨ay,ly,cy,rfl⟩:=TV.shape;replace SW:=SW.arg [];replace TV:=TV.arg [];have Td:=Int.natAbs_mul x y;have SE:decide (x*y<0)=((decide (x<0) != decide (y<0))&&decide (x.natAbs*y.natAbs≠0)):=by
  by_cases h0:x*y=0
  .rw[<-Td,h0];simp
  .have Qd:x≠0:=fun e=>h0 (by rw[e,Int.zero_mul]);have Qz:y≠0:=fun e=>h0 (by rw[e,Int.mul_zero]);rw[<-Td,bg (show (x*y).natAbs≠0 by omega),Bool.and_true];by_cases Y:x<0<;>by_cases I:y<0
   .rw[bg Y,bg I];exact bI (by have:=Int.mul_pos_of_neg_of_neg Y I;omega)
   .rw[bg Y,bI I];exact bg (Int.mul_neg_of_neg_of_pos Y be)
   .rw[bI Y,bg I];exact bg (Int.mul_neg_of_pos_of_neg be I)
   .rw[bI Y,bI I];exact bI (by have:=Int.mul_nonneg (show 0<=x by omega) (show 0<=y by omega);omega)
 generalize decide (x<0)=bx at*
 generalize decide (y<0)=b2 at*
 refine rR ce ?_;refine cW (cU (GT:=fun _ J v F=>dm F (Nf J F) v (x.natAbs*y.natAbs)) (fun O J r=>JQ (rlo r W) (SW.rel r W) (TV.rel r W) be be) ?_);rintro O w3 v3 w4 r L G U;have hN:=U.ep (S:=FF) r.cZ (iv:=(w3.heap.size,w4.heap.size)::[]) aF;have ZE:=hN;obtain⟨p,rfl,Rv,SI⟩:=hN.la;have QQ:=eJ p.lm SI;rw[Rv]at QQ;have Yf:=ox QQ;have hd:decide ((p.ls.length:Int)>0)=decide (x.natAbs*y.natAbs≠0):=decide_eq_decide.2 be
 cases bx<;>cases b2
 all_goals
  intro Id w5 r5;exact⟨_,rfl,G.tr r5.cj,_,by rw[SE,<-hd];rfl,by rw[Td];exact ZE.out r5 oF⟩
theorem B7(W:Old S w)(E:eS w S v x)(hy:eS w S u y)(RL:ln x.natAbs<=100000000000)(R9:ln y.natAbs<=100000000000):
  eL PG FS.pM #[v,u] w (eY w fun v' _=>v'=iV (x-y).sign):=by
 have hxN:eS w (Cv S w.heap.size []) v x:=E.cV fun _ h=>.inl h;have hyN:eS w (Cv S w.heap.size []) u y:=hy.cV fun _ h=>.inl h;obtain⟨nx,rfl,SW⟩:=E;obtain⟨ny,rfl,TV⟩:=hy;obtain⟨ax,lx,cx,rfl⟩:=SW.shape;obtain⟨ay,ly,cy,rfl⟩:=TV.shape;refine tw ce ?_;refine dP (idO 6) ?_;refine cU (GT:=fun _ J v F=>eS F (Nw (Cv S w.heap.size []) J F) v (-y)) (fun O J r=>qh (rlo r W) (hyN.rel r W)) ?_;rintro O w1 v1 F r L G hm;have Vq:eS F (Cv S w.heap.size [(w1.heap.size,F.heap.size)]) v1 (-y):=hm.cV fun _ V=>Nw.cv V r.cZ;replace hxN:=hxN.cS (K:=[(w1.heap.size,F.heap.size)]) r W L fun x E=>aD _ E;generalize [(w1.heap.size,F.heap.size)]=iv at*
 have hmN2:=Vq;obtain⟨am,lm,cm,rfl,-⟩:=Vq.num;refine cU (GT:=fun _ J v F=>eS F (Nf J F) v (x+ -y)) (fun O J r=>D9 (rlo r W) (hxN.rel r W) (hmN2.rel r W) RL (by rw[cQ];exact R9)) ?_;rintro O w3 v3 w4 r L Rd hp;replace G:=G.tr Rd;have Xv:=hp.ep (S:=S) r.cZ (iv:=(w3.heap.size,w4.heap.size)::iv) aF;have Xy:=Xv;obtain⟨ap,lp,cp,rfl,-⟩:=Xv.num;refine cU (GT:=fun _ _ v _=>v=iV (x-y).sign) (fun O J r=>xm (Xy.rel r W)) ?_;rintro O w5 v5 w6 r L Zv rfl;replace G:=G.tr Zv;intro In w7 r7;exact⟨_,rfl,G.tr r7.cj,rfl⟩
theorem IA{x y:Int}(_hy:y≠0){q r:Nat}(hr:r<y.natAbs)(h:(if x<0 then x+(q*y.natAbs:Nat)=r else x=(q*y.natAbs:Nat)+r)):
  x / y=sg (decide (x<0) != decide (y<0)) q/\x % y=r:=by
 have key:∀b:Int,0<b->b=y.natAbs->x / b=(if x<0 then -(q:Int)else q)/\x % b=r:=fun b A e=>by
  rw[Int.ediv_emod_unique A];rw[Int.natCast_mul]at h;rw[<-e]at h;split at h
  .rename_i E;rw[aM E,Int.mul_neg,Int.mul_comm b];omega
  .rename_i E;rw[aI E,Int.mul_comm b];omega
 by_cases I:y<0
 .obtain⟨k1,k2⟩:=key (-y) be be;rw[Int.ediv_neg]at k1;rw[Int.emod_neg]at k2;refine⟨?_,k2⟩;rw[bg I];split at k1
  .rename_i E;rw[bg E];show x / y=(q:Int)
   omega
  .rename_i E;rw[bI E];show x / y= -(q:Int)
   omega
 .obtain⟨k1,k2⟩:=key y be be;refine⟨?_,k2⟩;rw[bI I,k1];split
  .rename_i E;rw[bg E];rfl
  .rename_i E;rw[bI E];rfl
theorem IB{b:Bool}(h:k=ln n):(b&&decide ((k:Int)>0))=decide (sg b n<0):=by
 have hp:=ox h
 cases b
 .rw[Bool.false_and];exact(bI (by simp[sg])).symm
 .rw[Bool.true_and,K7];exact decide_eq_decide.2 be
theorem Gd(W:Old S w)(E:eS w S v x)(hy:eS w S u y)(Qz:y≠0)(RL:ln x.natAbs<=100000000000)(R9:ln y.natAbs<=100000000000):
  eL PG FS.mc #[v,u] w (eY w fun v' F=>∃q r,v'= .tuple #[q,r]/\eS F (Nf w F) q (x / y)/\eS F (Nw S w F) r (x % y)):=by
 obtain⟨ax,lx,cx,rfl,SW⟩:=E.num;obtain⟨ay,ly,cy,rfl,TV⟩:=hy.num;replace SW:=SW.arg [];replace TV:=TV.arg [];have hyp:0<y.natAbs:=by omega
 have Wb:=@IA x y Qz;generalize VO:decide (x<0)=bx at*
 generalize QR:decide (y<0)=b2 at*
 refine qV ce ?_;conv=>whnf
 refine cW (cU (GT:=fun _ J v F=>∃q r,v= .tuple #[q,r]/\dm F (Nf J F) q (x.natAbs / y.natAbs)/\dm F (Nw (Cv S w.heap.size []) J F) r (x.natAbs % y.natAbs)) (fun O J r=>nm (rlo r W) (SW.rel r W) (TV.rel r W) hyp RL) ?_);rintro O w1 v1 F r L G ⟨q,rm,rfl,hq,Zx⟩;have Vp:=hq.ep (S:=FF) r.cZ (iv:=[(w1.heap.size,F.heap.size)]) aF;have Wt:dm F (Cv S w.heap.size [(w1.heap.size,F.heap.size)]) rm (x.natAbs % y.natAbs):=Zx.cV fun g V=>Nw.cv V r.cZ;replace TV:=TV.cS (K:=[(w1.heap.size,F.heap.size)]) r W L fun x E=>aD _ E;clear r L hq Zx SW;generalize [(w1.heap.size,F.heap.size)]=iv at*
 have hdam:=Nat.div_add_mod x.natAbs y.natAbs;have QO:=cM x.natAbs hyp;have VC:=Nat.div_le_self x.natAbs y.natAbs;generalize x.natAbs / y.natAbs=q0 at*
 generalize x.natAbs % y.natAbs=r0 at*
 have hlq:=fP VC;have ZF:=Vp;have ZG:=Wt;obtain⟨pq,rfl,hpq1,hpq2⟩:=Vp.la;obtain⟨pr,rfl,hpr1,hpr2⟩:=Wt.la;have hpql:=eJ pq.lm hpq2;rw[hpq1]at hpql;have hprl:=eJ pr.lm hpr2;rw[hpr1]at hprl;have hrz:=ox hprl
 cases bx
 .have I:=aL VO;obtain⟨d1,d2⟩:=Wb QO (q:=q0) (by rw[aI I,bc];omega);have hd:(b2&&decide ((pq.ls.length:Int)>0))=decide (x / y<0):=by rw[d1,Bool.false_bne];exact IB hpql
  have e1:dm F (Cf w iv) (.slice pq.a pq.ls.length pq.c) (x / y).natAbs:=by rw[d1,ow];exact ZF
  have e2:dm F (Cv S w.heap.size iv) (.slice pr.a pr.ls.length pr.c) (x % y).natAbs:=by rw[d2];exact ZG
  have e3:decide (x % y<0)=false:=bI be
  cases b2
  all_goals
   conv=>whnf
   intro Id w5 r5;exact⟨_,rfl,G.tr r5.cj,_,_,rfl,⟨_,by rw[<-hd];rfl,e1.out r5 oF⟩,_,by rw[e3];rfl,e2.out r5 W⟩
 .have I:=aJ VO;conv=>whnf
  apply bS<;>intro h
  .have h:0<r0:=by
    have:(pr.ls.length:Int)>0:=aJ h;omega
   obtain⟨d1,d2⟩:=Wb (q:=q0+1) (r:=y.natAbs-r0) be (by
    rw[aM I,Nat.add_mul,bc q0,Nat.one_mul]
    omega)
   have hlq1:=He q0 1;have Ts:ln 1=1:=by rfl
   conv=>whnf
   refine dP [.x 0,.x 3,.x 4,.x 5,.x 1,.x 2,.x 6,.x 7,.x 8] ?_;conv=>whnf
   refine cU (GT:=fun _ J v F=>dm F (Nf J F) v (q0+1)) (fun O J r=>?_) ?_
   .have hL:=(r.pe (id:=4) (ls:=[1]) rfl (by intro x E;simp at E;omega) ce).nat (by intro x E;simp at E;omega);have Pq:=r.low 4 _ rfl (r.nn 4 _ rfl (by intros;simp) ce);refine Hz (S:=fun g=>Cf w iv g\/g=(O 4).g) (fun g V=>V.elim (fun V=>rlo r oF g V) fun V=>be) ((ZF.rel r oF).cV fun _ V=>.inl V) (hL.cV fun _ V=>.inr V) be (by rw[Ts];omega)
   rintro O w3 v3 w4 r L Rd hp;replace G:=G.tr Rd;have Xv:=hp.ep (S:=FF) r.cZ (iv:=(w3.heap.size,w4.heap.size)::iv) aF;replace TV:=TV.cS (K:=(w3.heap.size,w4.heap.size)::iv) r W L fun x E=>aD _ E;have hrN3:=ZG.cS (K:=(w3.heap.size,w4.heap.size)::iv) r W L fun x E=>aD _ E;clear r L hp Rd Vp ZF Wt ZG;generalize (w3.heap.size,w4.heap.size)::iv=iv2 at*
   have Xy:=Xv;obtain⟨pp,rfl,hpp1,hpp2⟩:=Xv.la;have hppl:=eJ pp.lm hpp2;rw[hpp1]at hppl;conv=>whnf
   refine cU (GT:=fun _ J v F=>dm F (Nf J F) v (y.natAbs-r0)) (fun O J r=>zb (rlo r W) (TV.rel r W) (hrN3.rel r W) be be) ?_;rintro O w5 v5 w6 r L Zv hm;replace G:=G.tr Zv;have Vq:=hm.ep (S:=FF) r.cZ (iv:=(w5.heap.size,w6.heap.size)::iv2) aF;replace Xy:=Xy.cS (K:=(w5.heap.size,w6.heap.size)::iv2) r oF L fun x E=>aD _ E;clear r L hm Zv Xv hrN3 TV;generalize (w5.heap.size,w6.heap.size)::iv2=Pu at*
   obtain⟨am,lm,cm,rfl⟩:=Vq.shape;have hd:(!b2&&decide ((pp.ls.length:Int)>0))=decide (x / y<0):=by rw[d1,Bool.true_bne];exact IB hppl
   have e1:dm w6 (Cf w Pu) (.slice pp.a pp.ls.length pp.c) (x / y).natAbs:=by rw[d1,ow];exact Xy
   have e2:dm w6 (Cf w Pu) (.slice am lm cm) (x % y).natAbs:=by rw[d2];exact Vq
   have e3:decide (x % y<0)=false:=bI be
   cases b2
   all_goals
    conv=>whnf
    intro Id w5 r5;exact⟨_,rfl,G.tr r5.cj,_,_,rfl,⟨_,by rw[<-hd];rfl,e1.out r5 oF⟩,_,by rw[e3];rfl,(e2.out r5 oF).cV fun g V=>V.elim (fun h=>h.elim) .inr⟩
  .have h:r0=0:=by
    have:¬(pr.ls.length:Int)>0:=aL h;omega
   subst h;obtain⟨d1,d2⟩:=Wb QO (q:=q0) (by rw[aM I,bc];omega);have hd:(!b2&&decide ((pq.ls.length:Int)>0))=decide (x / y<0):=by rw[d1,Bool.true_bne];exact IB hpql
   have e1:dm F (Cf w iv) (.slice pq.a pq.ls.length pq.c) (x / y).natAbs:=by rw[d1,ow];exact ZF
   have e2:dm F (Cv S w.heap.size iv) (.slice pr.a pr.ls.length pr.c) (x % y).natAbs:=by rw[d2];exact ZG
   have e3:decide (x % y<0)=false:=bI be
   cases b2
   all_goals
    conv=>whnf
    intro Id w5 r5;exact⟨_,rfl,G.tr r5.cj,_,_,rfl,⟨_,by rw[<-hd];rfl,e1.out r5 oF⟩,_,by rw[e3];rfl,e2.out r5 W⟩
theorem lY(n:Int)(w:World)(Y: -9223372036854775808<=n)(I:n<=9223372036854775807):
  eL PG FS.yX #[iV n] w (eY w fun v' F=>eS F (Nf w F) v' n):=by
 have key:∀(m:Nat),m=n.natAbs->m<18446744073709551616/\val [m % 4294967296,m / 4294967296]=n.natAbs/\m / 4294967296<4294967296:=fun m e=>by
  refine⟨be,?_,be⟩;simp only[val]
  omega
 refine BR ce ?_;refine⟨if n<0 then n+18446744073709551616 else n,by show n % 18446744073709551616=_;split<;>omega,?_⟩;apply bS<;>intro h
 .have h:=aJ h;rw[aM h];obtain⟨m,hm⟩:∃m,m=n.natAbs:=⟨_,rfl⟩
  obtain⟨k1,k2,k3⟩:=key m hm;refine⟨(m:Int),by show(0-(n+18446744073709551616)) % 18446744073709551616=_;omega,((m % 4294967296:Nat):Int),fX m,bv,((m / 2^32:Nat):Int),nq 32 bv,((m / 4294967296:Nat):Int),by rw[fX,bh be],?_⟩;refine gU (GT:=fun O _ v F=>dZ F (fun g=>g=(O 1).g) v (eO [m % 4294967296,m / 4294967296])) (H':=[(0,.box T.number [.v (.bool false),.v nls])]) 1 rfl ce ⟨rfl,trivial⟩ rfl (fun O J r=>r.nn 1 _ rfl (by intros;simp) ce) (fun O J r=>?_) ?_
  .have hL:=r.pe (id:=1) (ls:=[m % 4294967296,m / 4294967296]) rfl (by intro x E;simp at E;omega) ce;exact fY (fun g V=>by rw[V];exact(r.low 1 _ rfl (r.nn 1 _ rfl (by intros;simp) ce)).2) hL
  rintro O w1 v1 F r L G hL;have Pq:=r.low 1 _ rfl (r.nn 1 _ rfl (by intros;simp) ce);have hs:=L.size;generalize (O 1).g=g0 at*
  have hN:dm F (Cf w [(g0,g0+1),(w1.heap.size,F.heap.size)]) v1 n.natAbs:=by
   have:=hL.trimmed;rw[k2]at this;exact this.cV fun k R=>.inr ⟨be,g0,g0+1,ce,be,be⟩
  generalize [(g0,g0+1),(w1.heap.size,F.heap.size)]=iv at*
  obtain⟨a3,n3,c3,rfl⟩:=hN.shape;intro Id w5 r5;exact⟨_,rfl,G.tr r5.cj,_,rfl,hN.out r5 oF⟩
 .have h:=aL h;rw[aI h];obtain⟨m,hm⟩:∃m,m=n.natAbs:=⟨_,rfl⟩
  obtain⟨k1,k2,k3⟩:=key m hm;have hmn:n=(m:Int):=by omega
  refine⟨((m % 4294967296:Nat):Int),by rw[hmn];exact fX m,bv,((m / 2^32:Nat):Int),by rw[hmn];exact nq 32 bv,((m / 4294967296:Nat):Int),by rw[fX,bh be],?_⟩;refine gU (GT:=fun O _ v F=>dZ F (fun g=>g=(O 1).g) v (eO [m % 4294967296,m / 4294967296])) (H':=[(0,.box T.number [.v (.bool false),.v nls])]) 1 rfl ce ⟨rfl,trivial⟩ rfl (fun O J r=>r.nn 1 _ rfl (by intros;simp) ce) (fun O J r=>?_) ?_
  .have hL:=r.pe (id:=1) (ls:=[m % 4294967296,m / 4294967296]) rfl (by intro x E;simp at E;omega) ce;exact fY (fun g V=>by rw[V];exact(r.low 1 _ rfl (r.nn 1 _ rfl (by intros;simp) ce)).2) hL
  rintro O w1 v1 F r L G hL;have Pq:=r.low 1 _ rfl (r.nn 1 _ rfl (by intros;simp) ce);have hs:=L.size;generalize (O 1).g=g0 at*
  have hN:dm F (Cf w [(g0,g0+1),(w1.heap.size,F.heap.size)]) v1 n.natAbs:=by
   have:=hL.trimmed;rw[k2]at this;exact this.cV fun k R=>.inr ⟨be,g0,g0+1,ce,be,be⟩
  generalize [(g0,g0+1),(w1.heap.size,F.heap.size)]=iv at*
  obtain⟨a3,n3,c3,rfl⟩:=hN.shape;intro Id w5 r5;exact⟨_,rfl,G.tr r5.cj,_,rfl,hN.out r5 oF⟩
def jg(w:World)(S:Nat->Prop)(v:Value)(z:Int):Prop:=∃neg ls,wv w S v neg ls/\sg neg (val ls)=z
def dX(w:World)(S:Nat->Prop)(v:Value)(z:Int):Prop:=∃ls,wv w S v (decide (z<0)) ls/\Nz ls/\val ls=z.natAbs
theorem Da(z:Int):sg (decide (z<0)) z.natAbs=z:=by
 by_cases h:z<0
 .rw[bg h,K7];omega
 .rw[bI h,aAE];omega
theorem dX.r(h:dX w S v z):jg w S v z:=by
 obtain⟨ls,Y,I,h3⟩:=h;exact⟨_,ls,Y,by rw[h3,Da]⟩
section
variable{S S':Nat->Prop}{H:Hp}{nx:Nat}{iv K:Iv}{B:Nat}{w J F:World}{O:Nat->Sx.eH}{v:Value}{z:Int}{neg:Bool}{ls:List Nat}
theorem wv.cX(h:wv w S v neg ls)(R:∀g,S g->F.heap[g]? =w.heap[g]?):wv F S v neg ls:=by
 obtain⟨lv,Y,I⟩:=h;exact⟨lv,Y,I.cX R⟩
theorem wv.cV(h:wv w S v neg ls)(R:∀g,S g->S' g):wv w S' v neg ls:=by
 obtain⟨lv,Y,I⟩:=h;exact⟨lv,Y,I.cV R⟩
theorem jg.cX(h:jg w S v z)(R:∀g,S g->F.heap[g]? =w.heap[g]?):jg F S v z:=by
 obtain⟨n,l,Y,I⟩:=h;exact⟨n,l,Y.cX R,I⟩
theorem jg.cV(h:jg w S v z)(R:∀g,S g->S' g):jg w S' v z:=by
 obtain⟨n,l,Y,I⟩:=h;exact⟨n,l,Y.cV R,I⟩
theorem dX.cX(h:dX w S v z)(R:∀g,S g->F.heap[g]? =w.heap[g]?):dX F S v z:=by
 obtain⟨l,Y,I⟩:=h;exact⟨l,Y.cX R,I⟩
theorem dX.cV(h:dX w S v z)(R:∀g,S g->S' g):dX w S' v z:=by
 obtain⟨l,Y,I⟩:=h;exact⟨l,Y.cV R,I⟩
theorem jg.rel(h:jg w (Cv S B iv) v z)(r:Rel H nx iv B w O J)(W:∀g,S g->g<B):jg J (Cv S B iv) v z:=h.cX fun _ V=>rls r W V
theorem dX.rel(h:dX w (Cv S B iv) v z)(r:Rel H nx iv B w O J)(W:∀g,S g->g<B):dX J (Cv S B iv) v z:=h.cX fun _ V=>rls r W V
theorem jg.cS(h:jg w (Cv S B iv) v z)(r:Rel H nx iv B w O J)(W:∀g,S g->g<B)(L:Ext J F)(hm:∀p,p∈iv->p∈K):jg F (Cv S B K) v z:=
 ((h.rel r W).cX fun g V=>L.block g (rlo r W g V)).cV fun _ V=>V.mono hm
theorem dX.cS(h:dX w (Cv S B iv) v z)(r:Rel H nx iv B w O J)(W:∀g,S g->g<B)(L:Ext J F)(hm:∀p,p∈iv->p∈K):dX F (Cv S B K) v z:=
 ((h.rel r W).cX fun g V=>L.block g (rlo r W g V)).cV fun _ V=>V.mono hm
theorem dX.ep(h:dX F (Nf J F) v z)(hB:B<=J.heap.size)(hm:(J.heap.size,F.heap.size)∈iv):dX F (Cv S B iv) v z:=h.cV fun _ V=>V.ep hB hm
theorem jg.shape(h:jg w S v z):∃b a n c,v= .agg #[.bool b,.slice a n c]:=by
 obtain⟨b,l,⟨lv,Y,I⟩,_⟩:=h;obtain⟨a,n,c,rfl⟩:=I.shape;exact⟨b,a,n,c,Y⟩
theorem eS.old(h:eS F (Nw (Cv S B iv) J F) v z)(hB:B<=J.heap.size):eS F (Cv S B ((J.heap.size,F.heap.size)::iv)) v z:=h.cV fun _ V=>Nw.cv V hB
end
theorem dX.out(h:dX w1 (Cv S w.heap.size iv) v z)(r:Rel H nx iv w.heap.size w1 O J)(W:Old S w):dX J (Nw S w J) v z:=
 (h.rel r W).cV fun _ V=>Cv.nw V r
theorem Ge(W:Old S w)(h:jg w S v z):eL PG FS.Ax #[v] w (eY w fun v' F=>eS F (Nw S w F) v' z):=by
 obtain⟨n,l,Y,rfl⟩:=h;exact aBX W Y
theorem JU(n:Int)(w:World)(Y: -9223372036854775808<=n)(I:n<=9223372036854775807):
  eL PG FS.GU #[iV n] w (eY w fun v' F=>dX F (Nf w F) v' n):=by
 have Tn:ln n.natAbs<=2:=iH.2 (by show n.natAbs<4294967296^2;omega);refine GX ce ?_;conv=>whnf
 refine cW (cU (GT:=fun _ J v F=>eS F (Nf J F) v n) (fun O J r=>lY n J Y I) ?_);rintro O w1 v1 F r L G U;have hN:=U.ep (S:=FF) r.cZ (iv:=[(w1.heap.size,F.heap.size)]) aF;clear r L U;generalize [(w1.heap.size,F.heap.size)]=iv at*
 have ZE:=hN;obtain⟨a1,l1,c1,rfl,-⟩:=hN.num;conv=>whnf
 refine cW (cU (GT:=fun _ J v F=>dX F (Nf J F) v n) (fun O J r=>B6 (rlo r oF) (ZE.rel r oF) be) ?_);rintro O w3 v3 w4 r L Rd hc;replace G:=G.tr Rd;have hC:=hc.ep (S:=FF) r.cZ (iv:=(w3.heap.size,w4.heap.size)::iv) aF;clear r L hc Rd hN ZE;generalize (w3.heap.size,w4.heap.size)::iv=iv2 at*
 have Yg:=hC;obtain⟨b5,a5,l5,c5,rfl⟩:=hC.r.shape;conv=>whnf
 intro Id w5 r5;exact⟨_,rfl,G.tr r5.cj,Yg.out r5 oF⟩
theorem eS.shape(h:eS w S v z):∃b a n c,v= .agg #[.bool b,.slice a n c]:=by
 obtain⟨a,n,c,Y,_⟩:=h.num;exact⟨_,a,n,c,Y⟩
theorem dX.shape(h:dX w S v z):∃b a n c,v= .agg #[.bool b,.slice a n c]:=h.r.shape
theorem dQ(x y:Int):ln (x*y).natAbs<=ln x.natAbs+ln y.natAbs:=by
 rw[Int.natAbs_mul];exact PW _ _
theorem Gf(W:Old S w)(E:jg w S v x)(hy:jg w S u y)(RL:ln x.natAbs<=10000000000)(R9:ln y.natAbs<=10000000000):
  eL PG FS.qO #[v,u] w (eY w fun v' F=>(y=0/\v'= .tuple #[.agg #[.bool false,nls],.agg #[.bool false,nls],iV 9])\/
   (y≠0/\∃q r,v'= .tuple #[q,r,iV 0]/\dX F (Nf w F) q (x / y)/\dX F (Nf w F) r (x % y))):=by
 have hlq:=fP (show (x / y).natAbs<=x.natAbs from Int.natAbs_ediv_le_natAbs x y);have G:=bR w;replace E:=E.cV (S':=Cv S w.heap.size []) fun _ h=>.inl h;replace hy:=hy.cV (S':=Cv S w.heap.size []) fun _ h=>.inl h;obtain⟨bx,ax,lx,cx,rfl⟩:=E.shape;obtain⟨b2,ay,ly,cy,rfl⟩:=hy.shape;refine yx ce ?_;conv=>whnf
 refine cW (cU (GT:=fun _ J v F=>eS F (Nw (Cv S w.heap.size []) J F) v y) (fun O J r=>Ge (rlo r W) (hy.rel r W)) ?_);rintro O QP v1 QL r L A U;replace G:=G.tr A;replace E:=E.cS (K:=(QP.heap.size,QL.heap.size)::[]) r W L fun x E=>aD _ E;clear hy;have hY:=U.old r.cZ;clear r L A U;generalize (QP.heap.size,QL.heap.size)::[]=Pv at*
 obtain⟨A0,A1,A2,A3,rfl⟩:=hY.shape;conv=>whnf
 refine cW (cE G (pE (iV y.sign)) (fun O J r=>xm (hY.rel r W)) ?_);rintro O _ _ _ iv2 r L G h_ rfl;replace E:=E.cS r W L (mC h_);replace hY:=hY.cS r W L (mC h_);clear r L;conv=>whnf
 apply bS<;>intro h
 .have h:y=0:=bo.1 (eq_of_beq h);conv=>whnf
  exact rtn G fun GE we re=>.inl ⟨h,rfl⟩
 .have h:y≠0:=fun e=>by rw[e]at h;exact absurd h bv
  have ZD:=fP (show (x % y).natAbs<=y.natAbs by have:=Int.emod_nonneg x h;have:=Int.emod_lt x h;omega);conv=>whnf
  refine dP [.x 0,.x 2,.p 7,.p 8,.x 1,.x 3,.x 4,.x 5,.x 6,.x 7,.x 8,.x 9,.x 10] ?_;conv=>whnf
  refine cU (GT:=fun _ J v F=>eS F (Nw (Cv S w.heap.size iv2) J F) v x) (fun O J r=>Ge (rlo r W) (E.rel r W)) ?_;rintro O Qo v3 Qc r L A U;replace G:=G.tr A;clear E;replace hY:=hY.cS (K:=(Qo.heap.size,Qc.heap.size)::iv2) r W L fun x E=>aD _ E;have hX:=U.old r.cZ;clear r L A U;generalize (Qo.heap.size,Qc.heap.size)::iv2=Pu at*
  obtain⟨C0,C1,C2,C3,rfl⟩:=hX.shape;conv=>whnf
  refine cU (GT:=fun _ J v F=>∃q r,v= .tuple #[q,r]/\eS F (Nf J F) q (x / y)/\eS F (Nw (Cv S w.heap.size Pu) J F) r (x % y)) (fun O J r=>Gd (rlo r W) (hX.rel r W) (hY.rel r W) h be be) ?_;rintro O Rl v4 R4 r L A ⟨qv,rv,rfl,Sk,RP⟩;replace G:=G.tr A;clear hY;clear hX;have hQ:=Sk.ep (S:=FF) r.cZ (iv:=(Rl.heap.size,R4.heap.size)::Pu) aF;have hR:=RP.old r.cZ;clear r L A;generalize (Rl.heap.size,R4.heap.size)::Pu=QD at*
  obtain⟨s4_0a,s4_0b,s4_0c,s4_0d,rfl⟩:=hQ.shape;obtain⟨s4_1a,s4_1b,s4_1c,s4_1d,rfl⟩:=hR.shape;conv=>whnf
  refine dP [.x 0,.x 2,.x 1,.x 3,.x 4,.x 5,.x 6] ?_;conv=>whnf
  refine cE G (pR dX (x / y)) (fun O J r=>B6 (rlo r oF) (hQ.rel r oF) be) ?_;rintro O _ _ _ QH r L G h_ U;clear hQ;replace hR:=hR.cS r W L (mC h_);have hC:=U.cV (nw r h_);clear r L U;obtain⟨E0,E1,E2,E3,rfl⟩:=hC.shape;conv=>whnf
  refine cE G (pR dX (x % y)) (fun O J r=>B6 (rlo r W) (hR.rel r W) be) ?_;rintro O _ _ _ Qe r L G h_ U;clear hR;replace hC:=hC.cS r oF L (mC h_);have hD:=U.cV (nw r h_);clear r L U;obtain⟨F0,F1,F2,F3,rfl⟩:=hD.shape;conv=>whnf
  exact rtn G fun GE we re=>.inr ⟨h,_,_,rfl,hC.out re oF,hD.out re oF⟩
end Go.Ex
namespace Go.Ex
open Go Go.Sx
theorem AW{x y:Int}(hy:0<y)(E:x≠0):
  (Rat.divInt x y).num.natAbs=x.natAbs / Nat.gcd x.natAbs y.natAbs/\(Rat.divInt x y).den=y.natAbs / Nat.gcd x.natAbs y.natAbs/\decide ((Rat.divInt x y).num<0)=decide (x<0):=by
 have V:0<Nat.gcd x.natAbs y.natAbs:=cL _ be;have hs:y.sign=1:=cK hy;have hc:(y.gcd x:Int)=(Nat.gcd x.natAbs y.natAbs:Nat):=by rw[Int.gcd_comm];rfl
 have hdx:((Nat.gcd x.natAbs y.natAbs:Nat):Int) ∣ x:=by
  rw[<-Int.natAbs_dvd_natAbs];exact Nat.gcd_dvd_left _ _
 have Y:(Rat.divInt x y).num=x / ((Nat.gcd x.natAbs y.natAbs:Nat):Int):=by
  rw[Rat.num_divInt,hs,Int.one_mul,hc]
 have hgi:0<((Nat.gcd x.natAbs y.natAbs:Nat):Int):=by omega
 refine⟨?_,?_,?_⟩
 .rw[Y,Int.natAbs_ediv_of_dvd hdx];rfl
 .rw[Rat.den_divInt,aI be];have:y.gcd x=Nat.gcd x.natAbs y.natAbs:=by rw[Int.gcd_comm];rfl
  rw[this]
 .rw[Y];obtain⟨k,R⟩:=hdx;refine decide_eq_decide.2 ?_;have:x / ((Nat.gcd x.natAbs y.natAbs:Nat):Int)=k:=by
   conv=>lhs;lhs;rw[R]
   exact Int.mul_ediv_cancel_left _ be
  rw[this];generalize ((Nat.gcd x.natAbs y.natAbs:Nat):Int)=g at*
  subst R;constructor
  .intro h;exact Int.mul_neg_of_pos_of_neg hgi h
  .intro h;have h0:¬0<=k:=fun hh=>by have:=Int.mul_nonneg (show 0<=g by omega) hh;omega
   omega
theorem KL{a b:Nat}:ln (a / b)<=ln a:=fP (Nat.div_le_self a b)
theorem AX(y:Int):Rat.divInt 0 y=0:=Rat.zero_divInt y
end Go.Ex
namespace Go.Ex
open Go Go.Sx Go.Proofs
variable{b b2:Bool}{S:Nat->Prop}{q:Rat}{dv nv v:Value}{w:World}
theorem dm.old{B:Nat}{iv:Iv}{J F:World}{n:Nat}(h:dm F (Nw (Cv S B iv) J F) v n)(hB:B<=J.heap.size):dm F (Cv S B ((J.heap.size,F.heap.size)::iv)) v n:=h.cV fun _ V=>Nw.cv V hB
def cz(w:World)(S:Nat->Prop)(v:Value)(q:Rat):Prop:=∃nv dv,v= .agg #[.bool (decide (q.num<0)),nv,.bool false,dv]/\dm w S nv q.num.natAbs/\dm w S dv q.den
theorem cz.cX{F:World}(h:cz w S v q)(R:∀g,S g->F.heap[g]? =w.heap[g]?):cz F S v q:=by
 obtain⟨n,d,Y,I,h3⟩:=h;exact⟨n,d,Y,I.cX R,h3.cX R⟩
theorem cz.cV{S':Nat->Prop}(h:cz w S v q)(R:∀g,S g->S' g):cz w S' v q:=by
 obtain⟨n,d,Y,I,h3⟩:=h;exact⟨n,d,Y,I.cV R,h3.cV R⟩
theorem cz.shape(h:cz w S v q):∃b a n c b2 a2 n2 c2,v= .agg #[.bool b,.slice a n c,.bool b2,.slice a2 n2 c2]:=by
 obtain⟨n,d,Y,I,h3⟩:=h;obtain⟨a,n,c,rfl⟩:=I.shape;obtain⟨a2,n2,c2,rfl⟩:=h3.shape;exact⟨_,a,n,c,_,a2,n2,c2,Y⟩
theorem cz.num(h:cz w S (.agg #[.bool b,nv,.bool b2,dv]) q):eS w S (.agg #[.bool b,nv]) q.num:=by
 obtain⟨n,d,Y,I,h3⟩:=h;simp at Y;obtain⟨rfl,rfl,rfl,rfl⟩:=Y;exact⟨_,rfl,I⟩
theorem cz.den(h:cz w S (.agg #[.bool b,nv,.bool b2,dv]) q):eS w S (.agg #[.bool b2,dv]) (q.den:Int):=by
 obtain⟨n,d,Y,I,h3⟩:=h;simp at Y;obtain⟨rfl,rfl,rfl,rfl⟩:=Y;exact⟨_,by rw[bI be],h3⟩
theorem cz.of(h:eS w S (.agg #[.bool b,nv]) q.num)(k:eS w S (.agg #[.bool b2,dv]) (q.den:Int)):cz w S (.agg #[.bool b,nv,.bool b2,dv]) q:=by
 obtain⟨n,Y,I⟩:=h;obtain⟨d,h3,h4⟩:=k;simp at Y h3;obtain⟨rfl,rfl⟩:=Y;obtain⟨rfl,rfl⟩:=h3;refine⟨_,_,?_,I,h4⟩;rw[bI (show ¬((q.den:Int)<0) by omega)]
section
variable{S S':Nat->Prop}{H:Hp}{nx:Nat}{iv K:Iv}{B:Nat}{w J F:World}{O:Nat->Sx.eH}{v:Value}{q:Rat}
theorem cz.rel(h:cz w (Cv S B iv) v q)(r:Rel H nx iv B w O J)(W:∀g,S g->g<B):cz J (Cv S B iv) v q:=h.cX fun _ V=>rls r W V
theorem cz.cS(h:cz w (Cv S B iv) v q)(r:Rel H nx iv B w O J)(W:∀g,S g->g<B)(L:Ext J F)(hm:∀p,p∈iv->p∈K):cz F (Cv S B K) v q:=
 ((h.rel r W).cX fun g V=>L.block g (rlo r W g V)).cV fun _ V=>V.mono hm
theorem cz.ep(h:cz F (Nf J F) v q)(hB:B<=J.heap.size)(hm:(J.heap.size,F.heap.size)∈iv):cz F (Cv S B iv) v q:=h.cV fun _ V=>V.ep hB hm
theorem cz.old(h:cz F (Nw (Cv S B iv) J F) v q)(hB:B<=J.heap.size):cz F (Cv S B ((J.heap.size,F.heap.size)::iv)) v q:=h.cV fun _ V=>Nw.cv V hB
theorem cz.out{w0 w1:World}(h:cz w1 (Cv S w0.heap.size iv) v q)(r:Rel H nx iv w0.heap.size w1 O J)(W:Old S w0):cz J (Nw S w0 J) v q:=
 (h.rel r W).cV fun _ V=>Cv.nw V r
theorem cz.arg(h:cz w S v q)(iv:Iv):cz w (Cv S w.heap.size iv) v q:=h.cV fun _ h=>.inl h
end
theorem eS.nat{z:Int}(h:eS w S (.agg #[.bool b,nv]) z):b=decide (z<0)/\dm w S nv z.natAbs:=by
 obtain⟨n,Y,I⟩:=h;simp at Y;obtain⟨rfl,rfl⟩:=Y;exact⟨rfl,I⟩
theorem xn{u:Value}{x y:Int}(W:Old S w)(E:eS w S v x)(hy:eS w S u y)(Qz:y≠0)(RL:ln x.natAbs<=100000000000)(R9:ln y.natAbs<=100000000000):
  eL PG FS.Ay #[v,u] w (eY w fun v' F=>cz F (Nf w F) v' (Rat.divInt x y)):=by
 have G:=bR w;replace E:=E.cV (S':=Cv S w.heap.size []) fun _ h=>.inl h;replace hy:=hy.cV (S':=Cv S w.heap.size []) fun _ h=>.inl h;obtain⟨bx,ax,lx,cx,rfl⟩:=E.shape;obtain⟨b2,ay,ly,cy,rfl⟩:=hy.shape;have Q2:=hy.nat.1;refine CX ce ?_
 cases b2
 .have hyp:0<y:=by have:=aL Q2.symm;omega
  have hq:Rat.divInt x y=Rat.divInt x y:=rfl;have Zy:=E.nat.1;refine cW (cE G (pE (iV (x).sign)) (fun O J r=>xm (E.rel r W)) ?_);rintro O QP v1 QL Pv r L G h_ rfl;replace E:=E.cS r W L (mC h_);replace hy:=hy.cS r W L (mC h_);apply bS<;>intro h
  .have h:x=0:=bo.1 (eq_of_beq h);refine cW (cE G (pR eS 1) (fun O J r=>lY 1 J bv bv) ?_);rintro O Qq v2 QT iv2 r L G h_ U;have hO:=U.cV (nw r h_);obtain⟨A0,A1,A2,A3,rfl⟩:=hO.shape;have e0:Rat.divInt x y=0:=by rw[hq,h,AX]
   exact rtn G fun GE we re=>by rw[e0];exact cz.of ⟨_,rfl,dm.nil _ _⟩ (hO.out re oF)
  .have h:x≠0:=fun e=>by rw[e]at h;exact absurd h bv
   obtain⟨g1,g2,g3⟩:=AW hyp h;have VD:0<Nat.gcd (x).natAbs (y).natAbs:=cL _ be;have ZH:=E.nat.2;have Vr:=hy.nat.2;refine cW (cU (GT:=fun _ J v F=>dm F (Nw (Cv S w.heap.size Pv) J F) v (Nat.gcd (x).natAbs (y).natAbs)) (fun O J r=>Gc (rlo r W) (ZH.rel r W) (Vr.rel r W) be be) ?_);rintro O Qq v2 QT r L A U;replace G:=G.tr A;replace ZH:=ZH.cS (K:=(Qq.heap.size,QT.heap.size)::Pv) r W L fun x E=>aD _ E;replace Vr:=Vr.cS (K:=(Qq.heap.size,QT.heap.size)::Pv) r W L fun x E=>aD _ E;have hG:=U.old r.cZ;generalize (Qq.heap.size,QT.heap.size)::Pv=iv2 at*
   obtain⟨A0,A1,A2,rfl⟩:=hG.shape;refine cW (cU (GT:=fun _ J v F=>∃q r,v= .tuple #[q,r]/\dm F (Nf J F) q ((x).natAbs / Nat.gcd (x).natAbs (y).natAbs)/\dm F (Nw (Cv S w.heap.size iv2) J F) r ((x).natAbs % Nat.gcd (x).natAbs (y).natAbs)) (fun O J r=>nm (rlo r W) (ZH.rel r W) (hG.rel r W) VD be) ?_);rintro O Qo v3 Qc r L A ⟨qvp,rvp,rfl,Sk,RP⟩;replace G:=G.tr A;replace Vr:=Vr.cS (K:=(Qo.heap.size,Qc.heap.size)::iv2) r W L fun x E=>aD _ E;replace hG:=hG.cS (K:=(Qo.heap.size,Qc.heap.size)::iv2) r W L fun x E=>aD _ E;have hP:=Sk.ep (S:=FF) r.cZ (iv:=(Qo.heap.size,Qc.heap.size)::iv2) aF;have hPr:=RP.old r.cZ;generalize (Qo.heap.size,Qc.heap.size)::iv2=Pu at*
   obtain⟨s3_0a,s3_0b,s3_0c,rfl⟩:=hP.shape;obtain⟨s3_1a,s3_1b,s3_1c,rfl⟩:=hPr.shape;refine cW (cU (GT:=fun _ J v F=>∃q r,v= .tuple #[q,r]/\dm F (Nf J F) q ((y).natAbs / Nat.gcd (x).natAbs (y).natAbs)/\dm F (Nw (Cv S w.heap.size Pu) J F) r ((y).natAbs % Nat.gcd (x).natAbs (y).natAbs)) (fun O J r=>nm (rlo r W) (Vr.rel r W) (hG.rel r W) VD be) ?_);rintro O Rl v4 R4 r L A ⟨qvq,rvq,rfl,Sk,RP⟩;replace G:=G.tr A;replace hP:=hP.cS (K:=(Rl.heap.size,R4.heap.size)::Pu) r oF L fun x E=>aD _ E;have hQ:=Sk.ep (S:=FF) r.cZ (iv:=(Rl.heap.size,R4.heap.size)::Pu) aF;have hQr:=RP.old r.cZ;generalize (Rl.heap.size,R4.heap.size)::Pu=QD at*
   obtain⟨s4_0a,s4_0b,s4_0c,rfl⟩:=hQ.shape;obtain⟨s4_1a,s4_1b,s4_1c,rfl⟩:=hQr.shape;exact rtn G fun GE we re=>by rw[hq];exact cz.of ⟨_,by rw[g3,<-Zy],by rw[g1];exact hP.out re oF⟩ ⟨_,by rw[bI be],by rw[g2];exact hQ.out re oF⟩
 .have hyp:0< -y:=by have:=aJ Q2.symm;omega
  have hq:Rat.divInt x y=Rat.divInt (-x) (-y):=(Rat.neg_divInt_neg _ _).symm;have nx:=cQ x;have ny:=cQ y;have hlx2:ln (-x).natAbs<=100000000000:=by rw[nx];exact RL
  have hly2:ln (-y).natAbs<=100000000000:=by rw[ny];exact R9
  refine dP [.x 0,.x 2,.x 1,.x 3,.x 4,.x 5] ?_;refine cU (GT:=fun _ J v F=>eS F (Nw (Cv S w.heap.size []) J F) v (-x)) (fun O J r=>qh (rlo r W) (E.rel r W)) ?_;rintro O QP v1 QL r L A U;replace G:=G.tr A;replace hy:=hy.cS (K:=(QP.heap.size,QL.heap.size)::[]) r W L fun x E=>aD _ E;have hA:=U.old r.cZ;generalize (QP.heap.size,QL.heap.size)::[]=Pv at*
  obtain⟨C0,C1,C2,C3,rfl⟩:=hA.shape;refine cU (GT:=fun _ J v F=>eS F (Nw (Cv S w.heap.size Pv) J F) v (-y)) (fun O J r=>qh (rlo r W) (hy.rel r W)) ?_;rintro O Qq v2 QT r L A U;replace G:=G.tr A;replace hA:=hA.cS (K:=(Qq.heap.size,QT.heap.size)::Pv) r W L fun x E=>aD _ E;have hB:=U.old r.cZ;generalize (Qq.heap.size,QT.heap.size)::Pv=iv2 at*
  obtain⟨A0,A1,A2,A3,rfl⟩:=hB.shape;have Zy:=hA.nat.1;refine cW (cE G (pE (iV (-x).sign)) (fun O J r=>xm (hA.rel r W)) ?_);rintro O _ _ _ Pu r L G h_ rfl;replace hA:=hA.cS r W L (mC h_);replace hB:=hB.cS r W L (mC h_);apply bS<;>intro h
  .have h: -x=0:=bo.1 (eq_of_beq h);refine cW (cE G (pR eS 1) (fun O J r=>lY 1 J bv bv) ?_);rintro O Rl v4 R4 QD r L G h_ U;have hO:=U.cV (nw r h_);obtain⟨E0,E1,E2,E3,rfl⟩:=hO.shape;have e0:Rat.divInt x y=0:=by rw[hq,h,AX]
   exact rtn G fun GE we re=>by rw[e0];exact cz.of ⟨_,rfl,dm.nil _ _⟩ (hO.out re oF)
  .have h: -x≠0:=fun e=>by rw[e]at h;exact absurd h bv
   obtain⟨g1,g2,g3⟩:=AW hyp h;have VD:0<Nat.gcd (-x).natAbs (-y).natAbs:=cL _ be;have ZH:=hA.nat.2;have Vr:=hB.nat.2;refine cW (cU (GT:=fun _ J v F=>dm F (Nw (Cv S w.heap.size Pu) J F) v (Nat.gcd (-x).natAbs (-y).natAbs)) (fun O J r=>Gc (rlo r W) (ZH.rel r W) (Vr.rel r W) be be) ?_);rintro O Rl v4 R4 r L A U;replace G:=G.tr A;replace ZH:=ZH.cS (K:=(Rl.heap.size,R4.heap.size)::Pu) r W L fun x E=>aD _ E;replace Vr:=Vr.cS (K:=(Rl.heap.size,R4.heap.size)::Pu) r W L fun x E=>aD _ E;have hG:=U.old r.cZ;generalize (Rl.heap.size,R4.heap.size)::Pu=QD at*
   obtain⟨E0,E1,E2,rfl⟩:=hG.shape;refine cW (cU (GT:=fun _ J v F=>∃q r,v= .tuple #[q,r]/\dm F (Nf J F) q ((-x).natAbs / Nat.gcd (-x).natAbs (-y).natAbs)/\dm F (Nw (Cv S w.heap.size QD) J F) r ((-x).natAbs % Nat.gcd (-x).natAbs (-y).natAbs)) (fun O J r=>nm (rlo r W) (ZH.rel r W) (hG.rel r W) VD be) ?_);rintro O Vs v5 VP r L A ⟨qvp,rvp,rfl,Sk,RP⟩;replace G:=G.tr A;replace Vr:=Vr.cS (K:=(Vs.heap.size,VP.heap.size)::QD) r W L fun x E=>aD _ E;replace hG:=hG.cS (K:=(Vs.heap.size,VP.heap.size)::QD) r W L fun x E=>aD _ E;have hP:=Sk.ep (S:=FF) r.cZ (iv:=(Vs.heap.size,VP.heap.size)::QD) aF;have hPr:=RP.old r.cZ;generalize (Vs.heap.size,VP.heap.size)::QD=QH at*
   obtain⟨s5_0a,s5_0b,s5_0c,rfl⟩:=hP.shape;obtain⟨s5_1a,s5_1b,s5_1c,rfl⟩:=hPr.shape;refine cW (cU (GT:=fun _ J v F=>∃q r,v= .tuple #[q,r]/\dm F (Nf J F) q ((-y).natAbs / Nat.gcd (-x).natAbs (-y).natAbs)/\dm F (Nw (Cv S w.heap.size QH) J F) r ((-y).natAbs % Nat.gcd (-x).natAbs (-y).natAbs)) (fun O J r=>nm (rlo r W) (Vr.rel r W) (hG.rel r W) VD be) ?_);rintro O VQ v6 VR r L A ⟨qvq,rvq,rfl,Sk,RP⟩;replace G:=G.tr A;replace hP:=hP.cS (K:=(VQ.heap.size,VR.heap.size)::QH) r oF L fun x E=>aD _ E;have hQ:=Sk.ep (S:=FF) r.cZ (iv:=(VQ.heap.size,VR.heap.size)::QH) aF;have hQr:=RP.old r.cZ;generalize (VQ.heap.size,VR.heap.size)::QH=Qe at*
   obtain⟨s6_0a,s6_0b,s6_0c,rfl⟩:=hQ.shape;obtain⟨s6_1a,s6_1b,s6_1c,rfl⟩:=hQr.shape;exact rtn G fun GE we re=>by rw[hq];exact cz.of ⟨_,by rw[g3,<-Zy],by rw[g1];exact hP.out re oF⟩ ⟨_,by rw[bI be],by rw[g2];exact hQ.out re oF⟩
end Go.Ex
namespace Go.Ex
open Go Go.Sx
variable{a b:Int}
def rl(q:Rat):Nat:=max (ln q.num.natAbs) (ln q.den)
theorem fv(q:Rat):ln q.num.natAbs<=rl q:=Nat.le_max_left _ _
theorem Pa(q:Rat):ln q.den<=rl q:=Nat.le_max_right _ _
theorem fI(q:Rat):ln ((q.den:Int)).natAbs<=rl q:=Nat.le_max_right _ _
theorem lK(A:b≠0):rl (Rat.divInt a b)<=max (ln a.natAbs) (ln b.natAbs):=by
 have Y:ln (Rat.divInt a b).num.natAbs<=ln a.natAbs:=by
  rw[Rat.num_divInt];refine fP (aR (Int.natAbs_ediv_le_natAbs _ _) ?_);rw[Int.natAbs_mul,Int.natAbs_sign_of_ne_zero A,Nat.one_mul];exact aq _
 have I:ln (Rat.divInt a b).den<=ln b.natAbs:=by
  rw[Rat.den_divInt,aI A];exact KL
 unfold rl;omega
theorem jY(x y:Int):ln (x+y).natAbs<=max (ln x.natAbs) (ln y.natAbs)+1:=by
 have Y:=He x.natAbs y.natAbs;have I:=fP (show (x+y).natAbs<=x.natAbs+y.natAbs by omega);omega
theorem gg(q:Rat):(q.den:Int)≠0:=by have:=q.den_pos;omega
theorem vz(f g:Rat):f+g=Rat.divInt (f.num*g.den+g.num*f.den) (f.den*g.den):=by
 rw[<-Rat.divInt_add_divInt _ _ (gg f) (gg g),Rat.num_divInt_den,Rat.num_divInt_den]
theorem z3(f g:Rat):f*g=Rat.divInt (f.num*g.num) (f.den*g.den):=by
 rw[<-Rat.divInt_mul_divInt,Rat.num_divInt_den,Rat.num_divInt_den]
theorem EL(f g:Rat):f / g=Rat.divInt (f.num*g.den) (f.den*g.num):=by
 rw[<-Rat.divInt_mul_divInt,Rat.num_divInt_den,<-Rat.inv_def,<-bV]
theorem lL(ha:a≠0)(A:b≠0):a*b≠0:=Int.mul_ne_zero ha A
theorem Ac(f g:Rat):rl (f+g)<=rl f+rl g+1:=by
 have h:=lK (a:=f.num*g.den+g.num*f.den) (lL (gg f) (gg g));rw[<-vz]at h;have Y:=jY (f.num*g.den) (g.num*f.den);have I:=dQ f.num g.den;have h3:=dQ g.num f.den;have h4:=dQ f.den g.den;have:=fv f;have:=fv g;have:=fI f;have:=fI g;omega
theorem jl(f g:Rat):rl (f*g)<=rl f+rl g:=by
 have h:=lK (a:=f.num*g.num) (lL (gg f) (gg g));rw[<-z3]at h;have I:=dQ f.num g.num;have h4:=dQ f.den g.den;have:=fv f;have:=fv g;have:=fI f;have:=fI g;omega
theorem Hj(f:Rat){g:Rat}(V:g≠0):rl (f / g)<=rl f+rl g:=by
 have h:=lK (a:=f.num*g.den) (lL (gg f) (fun e=>V (Rat.num_eq_zero.1 e)));rw[<-EL]at h;have I:=dQ f.num g.den;have h4:=dQ f.den g.num;have:=fv f;have:=fv g;have:=fI f;have:=fI g;omega
theorem kj(f:Rat):rl (-f)=rl f:=by unfold rl;rw[Rat.neg_num,Rat.neg_den,cQ]
def rs(q:Rat):Int:=q.num.sign
theorem wA(A:0<b):(Rat.divInt a b).num.sign=a.sign:=by
 by_cases ha:a=0
 .subst ha;rw[AX];rfl
 .obtain⟨Y,-,h3⟩:=AW A ha;have h3:=decide_eq_decide.1 h3;have h0:(Rat.divInt a b).num≠0:=fun e=>by
   have h4:=Nat.div_pos (Nat.le_of_dvd be (Nat.gcd_dvd_left a.natAbs b.natAbs)) (cL a.natAbs (n:=b.natAbs) be);omega
  rcases Int.lt_or_gt_of_ne ha with h|h
  .rw[cH h,cH (h3.2 h)]
  .rw[cK h,cK be]
theorem Ns(f g:Rat):(f.num*g.den-g.num*f.den).sign=rs (f-g):=by
 rw[rs,Rat.sub_eq_add_neg,vz,wA (Int.mul_pos (by have:=f.den_pos;omega) (by rw[Rat.neg_den];have:=g.den_pos;omega)),Rat.neg_num,Rat.neg_den,Int.neg_mul,<-Int.sub_eq_add_neg]
def ratio(a b:Int):Rat:=if b=0 then Rat.divInt a 1 else Rat.divInt a b
theorem GD(a b:Int):rl (ratio a b)<=max (ln a.natAbs) (max 1 (ln b.natAbs)):=by
 unfold ratio;split
 .have:=lK (a:=a) (b:=1) bv;have Y:ln (1:Int).natAbs=1:=by decide
  rw[Y]at this;omega
 .rename_i h;have:=lK (a:=a) h;omega
end Go.Ex
