/- Texts X10 to L5: lemmas, each with its conditions. -/
import Derived.Test.YtbffinhkognefaaGreatDoorP3
namespace Go.Ex
open Go Go.Sx Go.Proofs
variable{k n x:Nat}
def gP(n:Nat):Nat:=if n=0 then 0 else n.log2+1
theorem IL(h:2^k<=x):x.log2=(x / 2^k).log2+k:=by
 have hp:=bz k;have hy:x / 2^k≠0:=by have:=Nat.div_pos h hp;omega
 have W:=Nat.log2_self_le hy;have I:=@Nat.lt_log2_self (x / 2^k);rw[Nat.log2_eq_iff be];refine⟨?_,?_⟩
 .rw[Nat.pow_add];exact(Nat.le_div_iff_mul_le hp).1 W
 .rw[show (x / 2^k).log2+k+1=(x / 2^k).log2+1+k by omega,Nat.pow_add];exact(Nat.div_lt_iff_lt_mul hp).1 I
theorem yP(h:2^k<=x):gP x=k+gP (x / 2^k):=by
 have hp:=bz k;have hy:x / 2^k≠0:=by have:=Nat.div_pos h hp;omega
 rw[gP,gP,aK hy,aK be,IL h];omega
theorem jC(h:n<256):IntKind.u8.wrap (n:Int)=(n:Int):=by
 show((n:Int) % 256)=_;omega
theorem wh(h:n<256):(UInt8.ofNat (gP n)).toNat=gP n:=by
 have:∀n,n<256->(UInt8.ofNat (gP n)).toNat=gP n:=by decide +kernel
 exact this n h
theorem ob(h:x<256):gP x<=8:=by
 have:∀n,n<256->gP n<=8:=by decide +kernel
 exact this x h
theorem FT(n:Nat)(h:n<256):(⟨#[0,1,2,2,3,3,3,3,4,4,4,4,4,4,4,4,5,5,5,5,5,5,5,5,5,5,5,5,5,5,5,5,6,6,6,6,6,6,6,6,6,6,6,6,6,6,6,6,6,6,6,6,6,6,6,6,6,6,6,6,6,6,6,6,7,7,7,7,7,7,7,7,7,7,7,7,7,7,7,7,7,7,7,7,7,7,7,7,7,7,7,7,7,7,7,7,7,7,7,7,7,7,7,7,7,7,7,7,7,7,7,7,7,7,7,7,7,7,7,7,7,7,7,7,7,7,7,7,8,8,8,8,8,8,8,8,8,8,8,8,8,8,8,8,8,8,8,8,8,8,8,8,8,8,8,8,8,8,8,8,8,8,8,8,8,8,8,8,8,8,8,8,8,8,8,8,8,8,8,8,8,8,8,8,8,8,8,8,8,8,8,8,8,8,8,8,8,8,8,8,8,8,8,8,8,8,8,8,8,8,8,8,8,8,8,8,8,8,8,8,8,8,8,8,8,8,8,8,8,8,8,8,8,8,8,8,8,8,8,8,8,8,8,8,8,8,8,8,8,8,8,8,8,8,8,8]⟩:ByteArray)[((n:Nat):Int).toNat]? =some (UInt8.ofNat (gP n)):=by
 have:∀n,n<256->(⟨#[0,1,2,2,3,3,3,3,4,4,4,4,4,4,4,4,5,5,5,5,5,5,5,5,5,5,5,5,5,5,5,5,6,6,6,6,6,6,6,6,6,6,6,6,6,6,6,6,6,6,6,6,6,6,6,6,6,6,6,6,6,6,6,6,7,7,7,7,7,7,7,7,7,7,7,7,7,7,7,7,7,7,7,7,7,7,7,7,7,7,7,7,7,7,7,7,7,7,7,7,7,7,7,7,7,7,7,7,7,7,7,7,7,7,7,7,7,7,7,7,7,7,7,7,7,7,7,7,8,8,8,8,8,8,8,8,8,8,8,8,8,8,8,8,8,8,8,8,8,8,8,8,8,8,8,8,8,8,8,8,8,8,8,8,8,8,8,8,8,8,8,8,8,8,8,8,8,8,8,8,8,8,8,8,8,8,8,8,8,8,8,8,8,8,8,8,8,8,8,8,8,8,8,8,8,8,8,8,8,8,8,8,8,8,8,8,8,8,8,8,8,8,8,8,8,8,8,8,8,8,8,8,8,8,8,8,8,8,8,8,8,8,8,8,8,8,8,8,8,8,8,8,8,8,8,8]⟩:ByteArray)[n]? =some (UInt8.ofNat (gP n)):=by decide +kernel
 exact this n h
theorem Ju(x:Nat)(w:World)(E:x<4294967296):eD PG Fd.xu #[.int .u32 x] w (eL w fun v _=>v=iV (gP x)):=by
 refine zS ce ?_;apply bS<;>intro h
 .have h:65536<=x:=by have:=aI h;omega
  refine⟨bv,((x / 2^16:Nat):Int),oc 16 bv,?_⟩;have N:=yP (k:=16) h;have hy:x / 2^16<65536:=by omega
  rw[N];generalize x / 2^16=y at*
  apply bS<;>intro I
  .have I:256<=y:=by have:=aI I;omega
   refine⟨bv,((y / 2^8:Nat):Int),oc 8 bv,?_⟩;have PD:=yP (k:=8) I;have hz:y / 2^8<256:=by omega
   rw[PD];generalize y / 2^8=z at*
   refine⟨24,bv,(z:Int),jC hz,?_⟩;refine jq (b:=UInt8.ofNat (gP z)) ((hτ _ _ rfl).i3 rfl) rfl rfl be (FT z hz) (fun Id w1 r1=>?_);rw[wh hz];have ht:=ob hz;refine⟨(gP z:Int),wo,((24+gP z:Nat):Int),wo,?_⟩;intro IR w3 r3;exact⟨_,rfl,r1.cV.tr r3.cV,by rw[<-Nat.add_assoc];rfl⟩
  .have hy:y<256:=by have:=aL I;omega
   refine⟨(y:Int),jC hy,?_⟩;refine jq (b:=UInt8.ofNat (gP y)) ((hτ _ _ rfl).i3 rfl) rfl rfl be (FT y hy) (fun Id w1 r1=>?_);rw[wh hy];have ht:=ob hy;refine⟨(gP y:Int),wo,((16+gP y:Nat):Int),wo,?_⟩;intro IR w3 r3;exact⟨_,rfl,r1.cV.tr r3.cV,d5⟩
 .have h:x<65536:=by have:=aL h;omega
  apply bS<;>intro I
  .have I:256<=x:=by have:=aI I;omega
   refine⟨bv,((x / 2^8:Nat):Int),oc 8 bv,?_⟩;have PD:=yP (k:=8) I;have hz:x / 2^8<256:=by omega
   rw[PD];generalize x / 2^8=z at*
   refine⟨8,bv,(z:Int),jC hz,?_⟩;refine jq (b:=UInt8.ofNat (gP z)) ((hτ _ _ rfl).i3 rfl) rfl rfl be (FT z hz) (fun Id w1 r1=>?_);rw[wh hz];have ht:=ob hz;refine⟨(gP z:Int),wo,((8+gP z:Nat):Int),wo,?_⟩;intro IR w3 r3;exact⟨_,rfl,r1.cV.tr r3.cV,d5⟩
  .have E:x<256:=by have:=aL I;omega
   refine⟨(x:Int),jC E,?_⟩;refine jq (b:=UInt8.ofNat (gP x)) ((hτ _ _ rfl).i3 rfl) rfl rfl be (FT x E) (fun Id w1 r1=>?_);rw[wh E];have ht:=ob E;refine⟨(gP x:Int),wo,((0+gP x:Nat):Int),wo,?_⟩;intro IR w3 r3;exact⟨_,rfl,r1.cV.tr r3.cV,by rw[aR];rfl⟩
theorem wT:gP x<=k↔x<2^k:=by
 unfold gP;by_cases h:x=0
 .rw[aM h,h];exact⟨fun _=>bz k,fun _=>bA _⟩
 .rw[aK h];constructor
  .intro W;exact(Nat.log2_lt h).1 be
  .intro W;have:=(Nat.log2_lt h).2 W;omega
theorem LK(x:Nat)(w:World)(E:x<4294967296):eD PG Fd.lC #[.int .u32 x] w (eL w fun v _=>v=iV ((32-gP x:Nat):Int)):=by
 refine oa ce ?_;refine cM (cN (I9:=fun _ _ v _=>v=iV (gP x)) (fun O J r=>Ju x J E) ?_);rintro O J v F r G N rfl;have h32:gP x<=32:=wT.2 E;refine⟨((32-gP x:Nat):Int),wo,?_⟩;intro IR w3 r3;exact⟨_,rfl,N.tr r3.cV,rfl⟩
end Go.Ex
namespace Go.Sx
open Go Go.Ex Go.Proofs
variable{ls:List Nat}{O:Nat->Sx.dc}
theorem Rel.IM{H:Hp}{nx:Nat}{iv:Iv}{B:Nat}{w J:World}(r:Rel H nx iv B w O J){id t m:Nat}(h:dF H id=some (.vec t 1 (F8 ls)))(hm:m=ls.length)(PE:Lm ls)(hle:ls.length<=9223372036854775807):
  dI J (fun g=>B<=g/\g<J.heap.size) ((At.w id m).den O) ls:=by
 subst hm;rcases r.vec id t 1 _ h with⟨U,hu⟩|⟨U,spare,N,hc,Pu⟩
 .have hl:ls=[]:=by cases ls with
   |nil=>rfl
   |cons a b=>simp[F8]at hu
  subst hl;have:(At.w id ([]:List Nat).length).den O=nls:=by simp[At.den,U]
  rw[this];exact dI.nil _ _
 .refine⟨PE,hle,some ⟨(O id).g,0,none⟩,(O id).cap,by simp[At.den,U],?_,fun j x E=>⟨_,rfl,r.low id _ h U,?_⟩⟩
  .have W:(F8 ls++spare).length=ls.length+spare.length:=by rw[aU,fZ]
   omega
  .rw[cd,cell_of N,aR,aQ (by rw[fZ];exact(aH.1 E).1)];exact sG E
end Go.Sx
namespace Go.Ex
open Go Go.Sx Go.Proofs
variable{ls:List Nat}{S:Nat->Prop}
theorem FU:PG.underlying T.nat=some (.slice T.uint32):=by
 have h:=(hτ T.nat _ rfl).i4 rfl;exact h
theorem FV{w:World}{v:Value}(L:Old S w)(h:dI w S v ls)(hl:ls.length<=1000000000000):
  eD PG Fd.fX #[v] w (eL w fun v' F=>dI F (Nf w F) v' ls):=by
 obtain⟨x,rfl,rfl⟩:=h.la;refine ie ce ?_;refine⟨x.a.isNone,fun O w1 o1 o2=>by simp[eqGuard,SV.den,At.den,nI (P:=PG) w1 T.nat T.uint32 x.a x.ls.length x.c 0 0 FU],?_⟩;apply bS<;>intro h
 .intro IR w3 r3;have U:x.ls=[]:=by
   cases E:x.ls with
   |nil=>rfl
   |cons u r=>
    obtain⟨ad,W,_⟩:=x.cell 0 u (by rw[E];rfl);rw[W]at h;simp at h
  exact⟨_,rfl,r3.cV,by rw[U];exact dI.nil _ _⟩
 .refine .inl ?_;refine⟨F8 x.ls,by rw[fZ,bC],fun u hu=>by simp only[F8,bD]at hu;obtain⟨n,_,rfl⟩:=hu;rfl,fun O w1 r h0=>?_,?_⟩
  .obtain⟨u,hu⟩:=gO x.ls 0;obtain⟨ad,Ou,_⟩:=x.cell 0 u hu;refine⟨ad,Ou,fun j u hu=>?_⟩;simp only[F8,aS,Option.map_eq_some_iff]at hu;obtain⟨n,U,rfl⟩:=hu;obtain⟨ad2,PH,hs,hc⟩:=x.cell j n U;rw[Ou]at PH;injection PH with PH;subst PH;exact fY L Bel.refl r hs hc
  refine⟨rfl,be,mx,?_⟩;intro IR w3 r3;exact⟨_,rfl,r3.cV,(r3.IM (id:=1) rfl (aR _) x.lm x.le).cO fun g V=>.inr V⟩
end Go.Ex
namespace Go.Sx
open Go Go.Ex Go.Proofs
section
variable{O:Nat->Sx.dc}
theorem Rel.cR{H:Hp}{nx:Nat}{iv:Iv}{B:Nat}{w J:World}(r:Rel H nx iv B w O J):B<=J.heap.size:=by have:=r.base;have:=r.size;omega
end
variable{ls:List Nat}{O:Nat->Sx.dc}
theorem Rel.n0{H:Hp}{nx:Nat}{iv:Iv}{B:Nat}{w J:World}(r:Rel H nx iv B w O J){id t:Nat}(h:dF H id=some (.box t ((F8 ls).map At.v)))(PE:Lm ls)(hle:ls.length<=9223372036854775807):
  dI J (fun g=>g=(O id).g) (.slice (some ⟨(O id).g,0,none⟩) ls.length ls.length) ls:=by
 refine⟨PE,hle,_,_,rfl,lr,fun j x E=>⟨_,rfl,rfl,?_⟩⟩;have h0:(⟨(O id).g,0,none⟩:Addr).add j=⟨(O id).g,j,none⟩:=by
  cases j with
  |zero=>rfl
  |succ j=>simp[Addr.add]
 rw[h0,cell_of (r.box id t _ h),fN];exact sG E
end Go.Sx
namespace Go.Ex
open Go Go.Sx Go.Proofs
variable{ds r2:List Nat}{g k:Nat}{row:Option Nat}
section
variable{S:Nat->Prop}{H:Hp}{nx:Nat}{iv K:Iv}{B:Nat}{w J F:World}{O:Nat->Sx.dc}{v:Value}{n:Nat}{ls:List Nat}
theorem Nw.eX(h:Nf J F g)(hB:B<=J.heap.size)(hm:(J.heap.size,F.heap.size)∈iv):Cv S B iv g:=by
 rcases h with h|h
 .cases h
 .exact .inr ⟨be,_,_,hm,h.1,h.2⟩
theorem nw{H:Hp}{nx B:Nat}{iv K:Iv}{w J F:World}{O:Nat->Sx.dc}(r:Rel H nx iv B w O J)(e:K=(J.heap.size,F.heap.size)::iv):∀g,Nf J F g->Cv (fun _=>False) B K g:=fun _ V=>V.eX r.cR (mN e)
theorem dQ.eX(h:dQ F (Nf J F) v n)(hB:B<=J.heap.size)(hm:(J.heap.size,F.heap.size)∈iv):dQ F (Cv S B iv) v n:=h.cO fun _ V=>V.eX hB hm
theorem dI.eX(h:dI F (Nf J F) v ls)(hB:B<=J.heap.size)(hm:(J.heap.size,F.heap.size)∈iv):dI F (Cv S B iv) v ls:=h.cO fun _ V=>V.eX hB hm
theorem dQ.rel(h:dQ w (Cv S B iv) v n)(r:Rel H nx iv B w O J)(L:∀g,S g->g<B):dQ J (Cv S B iv) v n:=h.cP fun _ V=>rls r L V
theorem dQ.cL(h:dQ w (Cv S B iv) v n)(r:Rel H nx iv B w O J)(L:∀g,S g->g<B)(G:Ext J F)(hm:∀p,p∈iv->p∈K):dQ F (Cv S B K) v n:=
 ((h.rel r L).cP fun g V=>G.block g (rlo r L g V)).cO fun _ V=>V.mono hm
theorem dI.nat(h:dI w S v ls)(hz:Nz ls):dQ w S v (val ls):=⟨ls,h,hz,rfl⟩
theorem dI.trimmed(h:dI w S v (dh ls)):dQ w S v (val ls):=⟨_,h,(e7 ls).2.1,(e7 ls).1⟩
end
theorem FW{w:World}{m c:Nat}{rs:List Nat}(V:w.heap[g]? =some (.cells (F8 rs).toArray T.uint32 (0,0)))(PE:Lm rs)(h:k+m<=rs.length)(hc:m<=c)(hl:rs.length<=1000000000000):
  dI w (fun x=>x=g) (.slice (some ⟨g,k,none⟩) m c) ((rs.drop k).take m):=by
 have hlen:((rs.drop k).take m).length=m:=by simp;omega
 refine⟨(PE.drop k).take m,be,some ⟨g,k,none⟩,c,by rw[hlen],be,fun j x E=>⟨_,rfl,rfl,?_⟩⟩;have hj:j<m:=by have:=(aH.1 E).1;omega
 rw[List.getElem?_take_of_lt hj,bo]at E;rw[cd,cell_of V];exact sG E
theorem BO{c:Nat}(h:k<c):(if (c:Int)=(k:Int)then some (⟨g,0,none⟩:Addr)else(some (⟨g,0,none⟩:Addr)).map fun x=>x.add ((k:Int).toNat*1))=some ⟨g,k,none⟩:=by
 rw[aK be,bO,aN,bC,cd,aR]
theorem eP{a b c:World}(h:a.grownBy b row)(k:b.grownBy c row):a.grownBy c row:=
 ⟨k.os.trans h.os,k.tape.trans h.tape,k.output.trans h.output,aP h.size k.size,fun j hj OL=>(k.block j (by have:=h.size;omega) OL).trans (h.block j hj OL)⟩
theorem mg{a b:World}(h:Bel a.heap.size a b):a.grownBy b row:=⟨h.os,h.tape,h.output,h.size,fun j hj _=>h.block j hj⟩
theorem Jw(rs:List Nat)(k m:Nat):(F8 rs).take k++List.replicate m (Value.int .u32 0)++(F8 rs).drop (k+m)=F8 (rs.take k++List.replicate m 0++rs.drop (k+m)):=by
 simp[F8]
theorem LL(rs ds:List Nat)(k:Nat):(F8 rs).take k++F8 ds++(F8 rs).drop (k+(F8 ds).length)=F8 (rs.take k++ds++rs.drop (k+ds.length)):=by
 simp[F8]
theorem Gk{rs:List Nat}{m:Nat}(Z:k+m<=rs.length)(hd:ds.length<=m){r1:List Nat}(W:r1=rs.take k++List.replicate m 0++rs.drop (k+m))(I:r2=r1.take k++ds++r1.drop (k+ds.length)):
  r2=rs.take k++(ds++List.replicate (m-ds.length) 0)++rs.drop (k+m):=by
 have Uy:(rs.take k).length=k:=by simp;omega
 have h3:r1.take k=rs.take k:=by rw[W,bg,List.take_append_of_le_length be,bU be]
 have h4:r1.drop (k+ds.length)=List.replicate (m-ds.length) 0++rs.drop (k+m):=by
  rw[W,bg,List.drop_append,Uy,List.drop_of_length_le be,List.nil_append,Nat.add_sub_cancel_left,List.drop_append_of_le_length (by simpa using hd),List.drop_replicate]
 rw[I,h3,h4];simp
theorem Gl{rs:List Nat}{m:Nat}(Z:k+m<=rs.length)(hd:ds.length<=m)(PE:Lm rs)(QU:Lm ds)(h:r2=rs.take k++(ds++List.replicate (m-ds.length) 0)++rs.drop (k+m)):
  r2.length=rs.length/\Lm r2/\r2.take k=rs.take k/\r2.drop (k+m)=rs.drop (k+m)/\val ((r2.drop k).take m)=val ds:=by
 have Uy:(rs.take k).length=k:=by simp;omega
 have SC:(ds++List.replicate (m-ds.length) 0).length=m:=by simp;omega
 have RH:r2.drop k=(ds++List.replicate (m-ds.length) 0)++rs.drop (k+m):=by
  rw[h,bg,List.drop_append,Uy,List.drop_of_length_le be,List.nil_append,bj,List.drop_zero]
 refine⟨by rw[h,aU,aU,Uy,SC];simp;omega,?_,?_,?_,?_⟩
 .rw[h];exact((PE.take k).append (QU.append (Lm.replicate _))).append (PE.drop _)
 .rw[h,bg,List.take_append_of_le_length be,bU be]
 .rw[<-List.drop_drop,RH,List.drop_append,SC,List.drop_of_length_le be,List.nil_append,bj,List.drop_zero]
 .rw[RH,List.take_append_of_le_length be,bU be,jt,kD];simp
theorem LM{S:Nat->Prop}{w:World}{vd:Value}{D g k q:Nat}{rs:List Nat}(L:Old S w)(hgS:¬S g)(hd:dQ w S vd D)(V:w.heap[g]? =some (.cells (F8 rs).toArray T.uint32 (0,0)))(PE:Lm rs)
  (Z:k+ln D+1<=rs.length) (hl:rs.length<=1000000000000) (hq:q<4294967296):
  eD PG Fd.qO #[.slice (some ⟨g,0,none⟩) rs.length rs.length,vd,.int .i64 k,.int .u64 q] w (fun e F=>
   (val ((rs.drop k).take (ln D+1))<q*D/\e= .returned (.bool false)/\Bq w F)\/
   (q*D<=val ((rs.drop k).take (ln D+1))/\e= .returned (.bool true)/\w.grownBy F (some g)/\∃rs',rs'.length=rs.length/\Lm rs'/\rs'.take k=rs.take k/\rs'.drop (k+ln D+1)=rs.drop (k+ln D+1)/\
    val ((rs'.drop k).take (ln D+1))=val ((rs.drop k).take (ln D+1))-q*D/\F.heap[g]? =some (.cells (F8 rs').toArray T.uint32 (0,0)))):=by
 have Ud:=kC V;have hnD:=hd;obtain⟨p,rfl,QV,Q8⟩:=hd.la;have Oq:=dX p.lm Q8;rw[QV]at Oq;generalize U:ln D=n at*
 have hSB:=L;refine tV ce ?_;refine⟨(q:Int),by rw[eu,bT hq],?_⟩;refine fg (I9:=fun O _ v F=>dI F (fun g=>g=(O 0).g) v (dh [q])) (H':=[]) 0 rfl ce trivial rfl (fun O J r=>r.nn 0 _ rfl (by intros;simp) ce) (fun O J r=>?_) ?_
 .have hL:=r.n0 (id:=0) (ls:=[q]) rfl (by intro x E;simp at E;omega) ce;exact ew (fun g V=>by rw[V];exact(r.low 0 _ rfl (r.nn 0 _ rfl (by intros;simp) ce)).2) hL
 rintro O w1 v1 F r G Y hL;have ON:=r.low 0 _ rfl (r.nn 0 _ rfl (by intros;simp) ce);have hs:=G.size;generalize (O 0).g=g0 at*
 have TW:dQ F (Cv S w.heap.size [(g0,g0+1),(w1.heap.size,F.heap.size)]) v1 q:=by
  have:=hL.trimmed;simp only[val,Nat.mul_zero,cH]at this;exact this.cO fun k Z=>.inr ⟨be,g0,g0+1,ce,be,be⟩
 have VY:dQ F (Cv S w.heap.size [(g0,g0+1),(w1.heap.size,F.heap.size)]) (.slice p.a p.ls.length p.c) D:=
  (hnD.cP fun g V=>Y.block g (L g V)).cO fun _ V=>.inl V
 generalize [(g0,g0+1),(w1.heap.size,F.heap.size)]=iv at*
 refine cM (cE Y (pR dQ (q*D)) (fun O J r=>FX (rlo r L) (TW.rel r L) (VY.rel r L) (aP (gF.2 (show q<wt 1 from hq)) bv) be) ?_);rintro O w3 _ _ iv r G Y A hm;have TX:=hm.eX (S:=S) r.cR (mN A);refine⟨((k+n:Nat):Int),wo,((k+n+1:Nat):Int),wo,⟨be,be,be⟩,some ⟨g,k,none⟩,n+1,rs.length-k,BO be,be,be,?_⟩;have hplen:((rs.drop k).take (n+1)).length=n+1:=by simp;omega
 have hplm:Lm ((rs.drop k).take (n+1)):=(PE.drop k).take _;generalize Q9:(rs.drop k).take (n+1)=part at*
 refine cM (cE Y (pR dI part) (fun O J r=>?_) ?_)
 .have W:=FW (k:=k) (m:=n+1) (c:=rs.length-k) (w:=J) (by rw[(Y.tr r.cV).block g Ud];exact V) PE be be hl;rw[Q9]at W;exact FV (fun x E=>by rw[E];have:=(Y.tr r.cV).size;omega) W be
 rintro O _ _ _ iv r G Y A hL;have hpL:=hL.eX (S:=S) r.cR (mN A);replace TX:=TX.cL r L G (mC A);refine cM (cN (I9:=fun _ J v F=>dI F (Cv S w.heap.size iv) v (dh part)) (fun O J r=>ew (rlo r L) (dI.rel hpL r L)) ?_);rintro O w7 v4 w8 r G N hL;replace Y:=Y.tr N;have VZ:=hL.trimmed.cO (S':=Cv S w.heap.size ((w7.heap.size,w8.heap.size)::iv)) fun _ V=>V.cons;replace TX:=TX.cL (K:=(w7.heap.size,w8.heap.size)::iv) r L G fun x E=>aD _ E;generalize (w7.heap.size,w8.heap.size)::iv=iv at*
 refine cM (cE Y (fun _ _ v _=>v=iV (od (val part) (q*D))) (fun O J r=>FY (rlo r L) (VZ.rel r L) (TX.rel r L)) ?_);rintro O _ _ _ iv r G Y A rfl;replace VZ:=VZ.cL r L G (mC A);replace TX:=TX.cL r L G (mC A);apply bS<;>intro h
 .have h:val part<q*D:=by
   have:=aI h;unfold od at this;split at this
   .assumption
   .split at this<;>omega
  intro IR w3 r3;exact .inl ⟨h,rfl,Y.tr r3.cV⟩
 have h:q*D<=val part:=by
  have:=aL h;unfold od at this;split at this
  .omega
  .omega
 have hPl:ln (val part)<=n+1:=by rw[gF,<-hplen];exact oH hplm
 refine cM (cE Y (pR dQ (val part-q*D)) (fun O J r=>wi (rlo r L) (VZ.rel r L) (TX.rel r L) h be) ?_);rintro O _ v6 _ iv r G Y A hm;have Ue:=hm.eX (S:=S) r.cR (mN A);refine⟨((k+n:Nat):Int),wo,((k+n+1:Nat):Int),wo,⟨be,be,be⟩,some ⟨g,k,none⟩,n+1,rs.length-k,BO be,be,be,?_⟩;refine GB hτ (cs:=F8 rs) d5 d5 d5 be (fun O J r=>⟨by rw[(Y.tr r.cV).block g Ud];exact V,fun id b N=>by cases N⟩) (by rw[fZ];omega) (fun O w13 w14 r hh PY Od=>?_);rw[Jw]at hh;have hgw:w.grownBy w14 (some g):=eP (mg (Y.tr r.cV)) PY;replace Ue:dQ w14 (Cv S w.heap.size iv) v6 (val part-q*D):=(Ue.rel r L).cP fun x E=>PY.block x (rlo r L x E) fun e=>by
  injection e with e;subst e;rcases E with E|E
  .exact hgS E
  .omega
 obtain⟨rl,rfl,Ps,Qw⟩:=Ue.la;have QG:=dX rl.lm Qw;rw[Ps]at QG;have hrn:rl.ls.length<=n+1:=by rw[QG];exact aP (e9 (Nat.sub_le _ _)) hPl
 generalize hr1d:rs.take k++List.replicate (n+1) 0++rs.drop (k+(n+1))=r1 at*
 refine⟨⟨be,be,be⟩,some ⟨g,k,none⟩,rs.length-k,rs.length-k,BO be,be,be,?_⟩;have hr1l:r1.length=rs.length:=by rw[<-hr1d];simp;omega
 have hw14:w.heap.size<=w14.heap.size:=hgw.size;refine Hd hτ (tg:=T.uint32) (cs:=F8 r1) (ds:=F8 rl.ls) d5 d5 d5 d5 (fun O J r=>⟨?_,fun id b N=>by cases N⟩) (fun O J r=>⟨rl.a,rl.c,by rw[fZ];rfl,fun j u hu=>?_⟩) (by rw[fZ];omega) (by rw[fZ,fZ];omega)
  (fun u hu=>by simp only[F8,bD]at hu;obtain⟨n,_,rfl⟩:=hu;rfl) (fun O w15 w16 r hh2 PY Od=>?_)
 .rw[r.qe.block g be ce];exact hh
 .simp only[F8,aS,Option.map_eq_some_iff]at hu;obtain⟨m,hm,rfl⟩:=hu;obtain⟨ad,W,I,h3⟩:=rl.cell j m hm;exact⟨ad,W,(cg (w:=w14) (a:=ad.add j) (by rw[eQ];exact rls r L I)).trans h3⟩
 rw[LL]at hh2;have hgw2:w.grownBy w16 (some g):=eP (eP hgw (by have:=r.qe;exact⟨this.os,this.tape,this.output,this.size,fun j hj _=>this.block j hj ce⟩)) PY;obtain⟨o1,o2,o3,o4,o5⟩:=Gl (rs:=rs) (ds:=rl.ls) (k:=k) (m:=n+1) be hrn PE rl.lm (Gk be hrn hr1d.symm rfl);generalize r1.take k++rl.ls++r1.drop (k+rl.ls.length)=r2 at*
 intro IR w17 r3;refine .inr ⟨h,rfl,eP hgw2 (by have:=r3.qe;exact⟨this.os,this.tape,this.output,this.size,fun j hj _=>this.block j hj ce⟩),r2,o1,o2,o3,o4,by rw[o5,Ps],?_⟩;rw[r3.qe.block g (by have:=hgw2.size;omega) ce];exact hh2
end Go.Ex
namespace Go.Sx
open Go Go.Ex Go.Proofs
variable{O:Nat->Sx.dc}
theorem Rel.Kg{nx:Nat}{iv:Iv}{B:Nat}{w J F:World}(r:Rel [] nx iv B w O J)(h:J.heap.size<=F.heap.size):Rel [] nx [] B F O F:=
 r.zb h (fun id b h=>by cases h) fun lo R h=>by cases h
end Go.Sx
namespace Go.Ex
open Go Go.Sx Go.Proofs
variable{O:Nat->Sx.dc}
theorem IQ{P D low high dlow dtop C9:Nat}(hP:P=low+C9*high)(hD:D=dlow+C9*dtop)(ON:low<C9)(Tl:0<dtop)(hPD:P<4294967296*D):P / D<=min (high / dtop) 4294967295:=by
 have hW:0<C9:=by omega
 have hD0:0<D:=by have:=Nat.mul_pos hW Tl;omega
 have W:P / D<4294967296:=(Nat.div_lt_iff_lt_mul hD0).2 (by rw[bV]at hPD;omega);have I:P / D<=high / dtop:=by
  rw[Nat.le_div_iff_mul_le Tl];have h3:=Nat.div_mul_le_self P D;generalize P / D=Q at*
  have h4:C9*(Q*dtop)<=Q*D:=by
   rw[hD,Nat.mul_left_comm,bN];omega
  have h5:C9*(Q*dtop)<C9*(high+1):=by
   rw[bN];omega
  have:=Nat.lt_of_mul_lt_mul_left h5;omega
 omega
theorem FZ{H:Hp}{nx:Nat}{iv:Iv}{w w1 J:World}{g i x:Nat}{rs:List Nat}(V:w.heap[g]? =some (.cells (F8 rs).toArray T.uint32 (0,0)))(Y:Bq w w1)(r:Rel H nx iv w.heap.size w1 O J)(E:rs[i]? =some x):
  J.cell? ((⟨g,0,none⟩:Addr).add ((i:Int).toNat*1))=some (.int .u32 x):=by
 rw[aN,bC,cd,aR,cell_of (by rw[(Y.tr r.cV).block g (kC V)];exact V)];exact sG E
theorem Jx{S:Nat->Prop}{w:World}{vd:Value}{D g k:Nat}{rs:List Nat}(L:Old S w)(hgS:¬S g)(hd:dQ w S vd D)(hD:0<D)(V:w.heap[g]? =some (.cells (F8 rs).toArray T.uint32 (0,0)))(PE:Lm rs)
  (Z:k+ln D+1<=rs.length) (hl:rs.length<=1000000000000) (hPD:val ((rs.drop k).take (ln D+1))<4294967296*D):
  eD PG Fd.pA #[.slice (some ⟨g,0,none⟩) rs.length rs.length,vd,.int .i64 k] w (fun e F=>
   e= .returned (.int .u32 ((val ((rs.drop k).take (ln D+1)) / D:Nat):Int))/\w.grownBy F (some g)/\∃rs',rs'.length=rs.length/\Lm rs'/\rs'.take k=rs.take k/\rs'.drop (k+ln D+1)=rs.drop (k+ln D+1)/\
    val ((rs'.drop k).take (ln D+1))=val ((rs.drop k).take (ln D+1)) % D/\F.heap[g]? =some (.cells (F8 rs').toArray T.uint32 (0,0))):=by
 have Ud:=kC V;have hnD:=hd;obtain⟨p,rfl,QV,Q8⟩:=hd.la;have Oq:=dX p.lm Q8;rw[QV]at Oq;have QJ:=fun(J:World) (q:Nat)=>@LM S J (.slice p.a p.ls.length p.c) D g k q rs;generalize U:ln D=n at*
 obtain⟨t,rfl⟩:∃t,n=t+1:=by
  cases n with
  |zero=>
   have:D<wt 0:=gF.1 be;rw[jV]at this;omega
  |succ t=>exact⟨t,rfl⟩
 obtain⟨dt,Tl⟩:=gO p.ls t;have hdt0:0<dt:=by
  have:=Q8 dt (by rw[List.getLast?_eq_getElem?,Oq];exact Tl);omega
 obtain⟨a,ha⟩:=gO rs (k+t+1);obtain⟨b,N⟩:=gO rs (k+t);have ha32:=PE.at ha;have TB:=PE.at N;have XV:=p.lm.at Tl;generalize hP:val ((rs.drop k).take (t+1+1))=P at*
 have hguess:P / D<=min ((a*4294967296+b) / dt) 4294967295:=by
  refine IQ (low:=val ((rs.drop k).take t)) (C9:=wt t) (dlow:=val (p.ls.take t)) ?_ ?_ ?_ hdt0 hPD
  .rw[<-hP,dY (x:=a) (by rw[bo];exact ha),dY (x:=b) (by rw[bo];exact N),iy,bN,bV 4294967296 (wt t),bc,bV a];omega
  .rw[<-QV,<-dY Tl,bU be]
  .have W:=oH ((PE.drop k).take t);have:((rs.drop k).take t).length=t:=by simp;omega
   rwa [this]at W
 refine s0 ce ?_;refine⟨(t:Int),wo,?_⟩;refine dP (idO 18) ?_;refine⟨((k+t:Nat):Int),wo,((k+t+1:Nat):Int),wo,_,rfl,be,.int .u32 a,fun O J r=>FZ V Bel.refl r ha,(a:Int),eO be,bv,((a*2^32:Nat):Int),BP (k:=32) bv be,((k+t:Nat):Int),wo,_,rfl,be,.int .u32 b,fun O J r=>FZ V Bel.refl r N,(b:Int),eO be,?_⟩;have Uv:a*2^32 ||| b=a*4294967296+b:=by
  rw[Nat.or_comm,bV,BQ (k:=32) TB];omega
 refine⟨((a*4294967296+b:Nat):Int),by rw[IS be be,Uv],?_⟩;have hh64:a*4294967296+b<18446744073709551616:=by omega
 generalize a*4294967296+b=high at*
 obtain⟨ad,Ou,Oj⟩:=p.load L (Bel.refl (w:=w)) Tl;refine⟨ad,Ou,be,.int .u32 dt,Oj _ _ _,(dt:Int),eO be,be,((high / dt:Nat):Int),IT hh64,?_⟩;conv=>whnf
 rw[show min ((high / dt:Nat):Int) 4294967295=((min (high / dt) 4294967295:Nat):Int) by omega];have hm32:min (high / dt) 4294967295<=4294967295:=Nat.min_le_right _ _;generalize min (high / dt) 4294967295=q0 at*
 have hQD:=Nat.div_mul_le_self P D;have hQl:∀q,q*D<=P->P / D<=q->q=P / D:=fun q W I=>Nat.le_antisymm ((Nat.le_div_iff_mul_le hD).2 W) I;have hmod:P % D=P-P / D*D:=by have:=Nat.div_add_mod P D;rw[bV]at this;omega
 refine⟨Nat×World,fun z=>⟨[(0,.o (.v (.slice (some ⟨g,0,none⟩) rs.length rs.length))),(1,sV p.a p.ls.length p.c),(2,iZ k),(9,.o (.v (.int .u64 z.1)))],[],0,[],z.2⟩,fun z=>z.1,
  fun z=>Bq w z.2/\P / D<=z.1/\z.1<=4294967295,?_,?_⟩
 .intro O J r;exact⟨(q0,J),⟨r.cV,hguess,hm32⟩,Sub.reset r ⟨rfl,rfl,rfl,rfl,trivial⟩ ⟨trivial,trivial,trivial,trivial,trivial⟩⟩
 .rintro⟨q,w1⟩ ⟨Y,RF,QW⟩;dsimp only at Y RF QW ⊢;conv=>whnf
  refine⟨fun O F r=>(QJ F q (fun x E=>by have:=L x E;have:=(Y.tr r.cV).size;omega) hgS (hnD.cP fun x E=>(Y.tr r.cV).block x (L x E)) (by rw[(Y.tr r.cV).block g Ud];exact V) PE Z hl be).mono fun e w3 G=>?_⟩;rcases G with⟨h,rfl,UU⟩|⟨h,rfl,PY,rs',e1,e2,e3,e4,e5,e6⟩
  .have hw3:Bq w w3:=(Y.tr r.cV).tr (UU.cV r.cR);refine⟨.bool false,[],[],rfl,r.Kg UU.size,?_⟩;have TE:P / D<q:=by
    refine Nat.lt_of_le_of_ne RF fun e=>?_;rw[e]at hQD;omega
   have hq4:0<q:=Nat.lt_of_le_of_lt (bA _) TE;have hq5:P / D<=q-1:=Nat.le_sub_one_of_lt TE;refine⟨((q-1:Nat):Int),by rw[wP]<;>omega,?_⟩;intro I' w4 r4;exact⟨(q-1,w4),⟨hw3.tr r4.cV,hq5,by dsimp only;omega⟩,Sub.reset r4 ⟨rfl,rfl,rfl,rfl,trivial⟩ ⟨trivial,trivial,trivial,trivial,trivial⟩,by dsimp only;omega⟩
  .have hgw:w.grownBy w3 (some g):=eP (mg (Y.tr r.cV)) PY;refine⟨.bool true,[],[],rfl,r.Kg PY.size,?_⟩;have hq:=hQl q h RF;subst hq;refine⟨((P / D:Nat):Int),by rw[eu,bT be],?_⟩;intro I' w4 r4;refine⟨rfl,eP hgw (by have:=r4.qe;exact⟨this.os,this.tape,this.output,this.size,fun j hj _=>this.block j hj ce⟩),rs',e1,e2,e3,e4,by rw[e5,hmod],?_⟩;rw[r4.qe.block g (by have:=hgw.size;omega) ce];exact e6
end Go.Ex
namespace Go.Ex
variable{ms:List Nat}
theorem GR{t dt:Nat}(PE:Lm ms)(hl:ms.length=t+1)(Tl:ms[t]? =some dt)(h0:0<dt):32-gP dt<32/\ln (val ms*2^(32-gP dt))=t+1:=by
 have Ri:0<gP dt:=by
  rcases bB (gP dt)with h|h
  .have:=wT.1 (Nat.le_of_eq h);simp at this;omega
  .exact h
 have TB:gP dt<=32:=wT.2 (PE.at Tl);have Oo:=wT.1 (ae (gP dt));have hv:val ms=val (ms.take t)+wt t*dt:=by rw[<-dY Tl,bU be]
 have ON:=oH (PE.take t);have hltk:(ms.take t).length=t:=by simp;omega
 rw[hltk]at ON;have Y:=xS t;refine⟨be,Nat.le_antisymm ?_ ?_⟩
 .rw[gF];have W:val ms<wt t*2^gP dt:=by
   have:wt t*(dt+1)<=wt t*2^gP dt:=bh _ Oo;rw[bN]at this;omega
  have I:=Nat.mul_lt_mul_of_pos_right W (bz (32-gP dt));rw[bc,<-Nat.pow_add,Nat.add_sub_cancel' TB]at I;rw[iy,bV 4294967296];exact I
 .refine Nat.lt_of_not_le fun h=>?_;have W:=gF.1 h;have I:val ms*1<=val ms*2^(32-gP dt):=bh _ (bz _);have h3:wt t*1<=wt t*dt:=bh _ h0;omega
theorem CO{rs:List Nat}{D Fd k:Nat}(PE:Lm rs)(hDN:D<wt Fd)(Z:k+Fd+1<=rs.length)(h:val rs<wt (k+1)*D):
  val (rs.drop (k+Fd+1))=0/\val (rs.drop k)=val ((rs.drop k).take (Fd+1))/\val ((rs.drop k).take (Fd+1))<4294967296*D:=by
 obtain⟨x,E⟩:∃q,rs[k]? =some q:=⟨_,aE be⟩
 have QQ:=PE.at E;have W:=eW rs (k+1) be;have I:val (rs.drop (k+1))<D:=Nat.lt_of_mul_lt_mul_left (a:=wt (k+1)) be;have h3:=eW (rs.drop (k+1)) Fd (by simp;omega);rw[List.drop_drop,show k+1+Fd=k+Fd+1 by omega]at h3;have h4:val (rs.drop (k+Fd+1))=0:=by
  rcases bB (val (rs.drop (k+Fd+1)))with h|h
  .exact h
  .have:=bh (wt Fd) h;omega
 have h5:=eW (rs.drop k) (Fd+1) (by simp;omega);rw[List.drop_drop,show k+(Fd+1)=k+Fd+1 by omega,h4,Nat.mul_zero,cH]at h5;have h6:=jO E;exact⟨h4,h5,be⟩
theorem Hn{rs rs' out:List Nat}{D Fd k P A9:Nat}(hD:0<D)(PE:Lm rs)(hlen:rs'.length=rs.length)(hDN:D<wt Fd)(Z:k+Fd+1<=rs.length)(h:val rs<wt (k+1)*D)(hV:A9=wt (k+1)*(D*val (out.drop (k+1)))+val rs)
  (hP:val ((rs.drop k).take (Fd+1))=P) (W:rs'.take k=rs.take k) (I:rs'.drop (k+Fd+1)=rs.drop (k+Fd+1)) (h3:val ((rs'.drop k).take (Fd+1))=P % D) (ho:k<out.length):
  val rs'<wt k*D/\A9=wt k*(D*val ((out.set k (P / D)).drop k))+val rs':=by
 obtain⟨a1,a2,a3⟩:=CO PE hDN Z h;have b1:=eW rs k be;have b2:=eW rs' k be;have b3:=eW (rs'.drop k) (Fd+1) (by simp;omega);rw[List.drop_drop,show k+(Fd+1)=k+Fd+1 by omega,I,a1,Nat.mul_zero,cH,h3]at b3;rw[W,b3]at b2;rw[a2,hP]at b1;have b4:=oH (PE.take k);have b5:(rs.take k).length=k:=by simp;omega
 rw[b5]at b4;have b6:=cG P hD;have b7:(out.set k (P / D))[k]? =some (P / D):=by rw[aO ho]
 have b8:=Nat.div_add_mod P D;refine⟨?_,?_⟩
 .have:wt k*(P % D+1)<=wt k*D:=bh _ b6;rw[bN]at this;omega
 .rw[jO b7,List.drop_set_of_lt (show k<k+1 by omega),hV,b1,b2,iy];generalize val (out.drop (k+1))=o;have c1:wt k*P=wt k*(D*(P / D))+wt k*(P % D):=by rw[<-bN,b8]
  have c2:4294967296*wt k*(D*o)=wt k*(D*(4294967296*o)):=by
   rw[bV 4294967296,bc,Nat.mul_left_comm 4294967296]
  rw[c1,c2,bN D,bN (wt k)];omega
theorem GS{n m b:Nat}(hm:0<m)(VT:m<=n):n*2^b<wt (ln n+1-ln m)*(m*2^b):=by
 have W:=kN n;have I:=e9 VT;have h3:wt (ln m-1)<=m:=by
  refine Nat.le_of_not_lt fun h=>?_;have:=gF.2 h;have h4:0<ln m:=by
   rcases bB (ln m)with h|h
   .have:=gF.1 (Nat.le_of_eq h);rw[jV]at this;omega
   .exact h
  omega
 have h4:0<ln m:=by
  rcases bB (ln m)with h|h
  .have:=gF.1 (Nat.le_of_eq h);rw[jV]at this;omega
  .exact h
 have h5:wt (ln n)<=wt (ln n+1-ln m)*m:=by
  rw[show ln n=(ln n+1-ln m)+(ln m-1) by omega,Ap,show(ln n+1-ln m)+(ln m-1)+1-ln m=ln n+1-ln m by omega];exact bh _ h3
 rw[<-bc];exact Nat.mul_lt_mul_of_pos_right (Nat.lt_of_lt_of_le W h5) (bz b)
theorem Jc{n m b o r:Nat}(hm:0<m)(W:n*2^b=m*2^b*o+r)(I:r<m*2^b):o=n / m/\r / 2^b=n % m:=by
 have hp:=bz b;have h3:n*2^b / (m*2^b)=o:=by rw[W,Nat.mul_add_div (Nat.mul_pos hm hp),Nat.div_eq_of_lt I,cH]
 have h4:n*2^b % (m*2^b)=r:=by rw[W,Nat.mul_add_mod,bT I]
 rw[Nat.mul_div_mul_right _ _ hp]at h3;rw[Nat.mul_mod_mul_right]at h4;exact⟨h3.symm,by rw[<-h4,Nat.mul_div_cancel _ hp]⟩
end Go.Ex
namespace Go.Ex
open Go Go.Sx Go.Proofs
variable{H:Hp}{x y z:Int}{iv:Iv}{ls:List Nat}{k n nx:Nat}{S:Nat->Prop}{O:Nat->Sx.dc}{u v:Value}{w J w1:World}
theorem BR{g:Nat}{rs:List Nat}(V:w.heap[g]? =some (.cells (F8 rs).toArray T.uint32 (0,0)))(PE:Lm rs)(hl:rs.length<=1000000000000):
  dI w (fun x=>x=g) (.slice (some ⟨g,0,none⟩) rs.length rs.length) rs:=by
 have:=FW (k:=0) (m:=rs.length) (c:=rs.length) V PE be lr hl
 rwa [List.drop_zero,bF]at this
theorem mF{m:Nat}(L:Old S w)(U:dQ w S v n)(hm:dQ w S u m)(TF:0<m)(Rn:ln n<=100000000000):
  eD PG Fd.nQ #[v,u] w (eL w fun v' F=>∃q r,v'= .tuple #[q,r]/\dQ F (Nf w F) q (n / m)/\dQ F (Nw S w F) r (n % m)):=by
 have hnN:=U;have TX:=hm;obtain⟨x,rfl,QV,Q8⟩:=U.la;obtain⟨y,rfl,RF,QW⟩:=hm.la;have Ra:=dX x.lm Q8;have TD:=dX y.lm QW;rw[QV]at Ra;rw[RF]at TD;refine r8 ce ?_;refine cM (cN (I9:=fun _ _ v _=>v=iV (od n m)) (fun O J r=>FY (S:=S) (fun g V=>by have:=L g V;have:=r.cV.size;omega) (hnN.cP fun g V=>r.cV.block g (L g V)) (TX.cP fun g V=>r.cV.block g (L g V))) ?_);rintro O w1 v1 F r G Y rfl;apply bS<;>intro h
 .have h:n<m:=by
   have:=aI h;unfold od at this;split at this
   .assumption
   .split at this<;>omega
  intro IR w3 r3;refine⟨_,rfl,Y.tr r3.cV,_,_,rfl,?_,?_⟩
  .rw[Nat.div_eq_of_lt h];exact dQ.nil _ _
  .rw[bT h];exact(hnN.cP fun g V=>(Y.tr r3.cV).block g (L g V)).cO fun g V=>.inl V
 have h:m<=n:=by
  have:=aL h;unfold od at this;split at this
  .omega
  .omega
 have hlmn:=e9 h;apply bS<;>intro W
 .have W:y.ls.length=1:=by have:=eq_of_beq W;omega
  obtain⟨b,WM⟩:=List.length_eq_one_iff.1 W;have N:y.ls[0]? =some b:=by rw[WM];rfl
  have TB:=y.lm.at N;have S0:m=b:=by rw[<-RF,WM];simp[val]
  subst S0;obtain⟨ad,Ou,Oj⟩:=y.load L Y N;refine⟨ad,Ou,be,.int .u32 m,Oj _ _ _,?_⟩;refine cM (cN (I9:=fun _ J v F=>∃q,v= .tuple #[q,.int .u32 ((val x.ls % m:Nat):Int)]/\dQ F (Nf J F) q (val x.ls / m)) (fun O J r=>?_) ?_)
  .refine Fa (S:=S) (fun g V=>by have:=L g V;have:=(Y.tr r.cV).size;omega) ⟨x.lm,x.le,_,_,rfl,x.cap,fun j u hu=>?_⟩ be TF TB;obtain⟨ad,e1,e2,e3⟩:=x.cell j u hu;exact⟨ad,e1,e2,fY L Y r e2 e3⟩
  rintro O w3 v3 w4 r G Pj ⟨q,rfl,hq⟩;replace Y:=Y.tr Pj;have TW:=hq.eX (S:=FF) r.cR (iv:=(w3.heap.size,w4.heap.size)::[(w1.heap.size,F.heap.size)]) aF;rw[QV]at TW;rw[QV];generalize (w3.heap.size,w4.heap.size)::[(w1.heap.size,F.heap.size)]=iv at*
  have TS:n % m<m:=cG _ TF;generalize n % m=rem at*
  refine fg (I9:=fun O _ v F=>dI F (fun g=>g=(O 0).g) v (dh [rem])) (H':=[]) 0 rfl ce trivial rfl (fun O J r=>r.nn 0 _ rfl (by intros;simp) ce) (fun O J r=>?_) ?_
  .have hL:=r.n0 (id:=0) (ls:=[rem]) rfl (by intro x E;simp at E;omega) ce;exact ew (fun g V=>by rw[V];exact(r.low 0 _ rfl (r.nn 0 _ rfl (by intros;simp) ce)).2) hL
  rintro O w5 v5 w6 r G XW hL;have ON:=r.low 0 _ rfl (r.nn 0 _ rfl (by intros;simp) ce);have hs:=G.size;replace Y:=Y.tr XW;replace TW:=TW.cL (K:=((O 0).g,(O 0).g+1)::(w5.heap.size,w6.heap.size)::iv) r (fun g h=>h.elim) G fun x E=>by simp[E]
  generalize (O 0).g=g0 at*
  have Ue:dQ w6 (Cf w ((g0,g0+1)::(w5.heap.size,w6.heap.size)::iv)) v5 rem:=by
   have:=hL.trimmed;simp only[val,Nat.mul_zero,cH]at this;exact this.cO fun k Z=>.inr ⟨be,g0,g0+1,ce,be,be⟩
  generalize (g0,g0+1)::(w5.heap.size,w6.heap.size)::iv=iv2 at*
  intro IR w7 r3;exact⟨_,rfl,Y.tr r3.cV,_,_,rfl,(TW.rel r3 fun g h=>h.elim).cO fun g V=>Cv.nw V r3,((Ue.rel r3 fun g h=>h.elim).cO fun g V=>Cv.nw V r3).cO fun g V=>V.elim (fun h=>h.elim) .inr⟩
 .have W:y.ls.length≠1:=fun e=>by rw[e]at W;simp at W
  have SM:0<ln m:=by
   rcases bB (ln m)with h|h
   .have:=gF.1 (Nat.le_of_eq h);rw[jV]at this;omega
   .exact h
  obtain⟨t,ht⟩:∃t,y.ls.length=t+1:=⟨y.ls.length-1,be⟩
  obtain⟨dt,Tl⟩:=gO y.ls t;have hdt0:0<dt:=by
   have:=QW dt (by rw[List.getLast?_eq_getElem?,ht];exact Tl);omega
  have XV:=y.lm.at Tl;obtain⟨Om,Wg⟩:=GR y.lm ht Tl hdt0;rw[RF]at Wg;obtain⟨ad,Ou,Oj⟩:=y.load L Y Tl;refine⟨(t:Int),wo,ad,Ou,be,.int .u32 dt,Oj _ _ _,?_⟩;refine cM (cN (I9:=fun _ _ v _=>v=iV ((32-gP dt:Nat):Int)) (fun O J r=>LK dt J XV) ?_);rintro O w3 v3 w4 r G Pj rfl;replace Y:=Y.tr Pj;generalize hbyd:32-gP dt=b at*
  refine⟨(b:Int),eO be,?_⟩;refine cM (cN (I9:=fun _ J v F=>∃out,IU J F v out/\out.length=y.ls.length+1/\val out=val y.ls*2^b) (fun O J r=>?_) ?_)
  .refine uT (S:=S) (fun g V=>by have:=L g V;have:=(Y.tr r.cV).size;omega) ⟨y.lm,y.le,_,_,rfl,y.cap,fun j u hu=>?_⟩ be Om;obtain⟨ad,e1,e2,e3⟩:=y.cell j u hu;exact⟨ad,e1,e2,fY L Y r e2 e3⟩
  rintro O w5 v5 w6 r G XW ⟨dl,⟨gd,rfl,hgd1,hgd2,hgd3⟩,SC,hdv⟩;replace Y:=Y.tr XW;rw[RF]at hdv;have hB5:w.heap.size<=w5.heap.size:=r.cR;have Rk:Cf w ((w5.heap.size,w6.heap.size)::[(w3.heap.size,w4.heap.size),(w1.heap.size,F.heap.size)]) gd:=.inr ⟨be,_,_,aF,hgd1,kC hgd2⟩;generalize (w5.heap.size,w6.heap.size)::[(w3.heap.size,w4.heap.size),(w1.heap.size,F.heap.size)]=iv at*
  have hF:∀g:Nat,(fun _:Nat=>False) g->g<w.heap.size:=fun g h=>h.elim;refine cM (cN (I9:=fun _ _ v F=>dI F (fun x=>x=gd) v (dh dl)) (fun O J r=>ew (fun g V=>by rw[V];exact rlo r hF gd Rk) (BR (by rw[rls r hF Rk];exact hgd2) hgd3 be)) ?_);rintro O w7 v6 w8 r G hb8 hL;replace Y:=Y.tr hb8;have hgd8:gd<w8.heap.size:=by have:=rlo r hF gd Rk;have:=G.size;omega
  replace Rk:=Rk.mono (K:=(w7.heap.size,w8.heap.size)::iv) fun p hp=>aD _ hp;have VY:=hL.trimmed;rw[hdv]at VY;generalize (w7.heap.size,w8.heap.size)::iv=iv at*
  obtain⟨dp,rfl,RH,RZ⟩:=VY.la;have hdpl:=dX dp.lm RZ;rw[RH,Wg]at hdpl;generalize hDd:m*2^b=D at*
  have hD0:0<D:=by rw[<-hDd];exact Nat.mul_pos TF (bz b)
  refine cM (cN (I9:=fun _ J v F=>∃out,IU J F v out/\out.length=x.ls.length+1/\val out=val x.ls*2^b) (fun O J r=>?_) ?_)
  .refine uT (S:=S) (fun g V=>by have:=L g V;have:=(Y.tr r.cV).size;omega) ⟨x.lm,x.le,_,_,rfl,x.cap,fun j u hu=>?_⟩ be Om;obtain⟨ad,e1,e2,e3⟩:=x.cell j u hu;exact⟨ad,e1,e2,fY L Y r e2 e3⟩
  rintro O w9 v9 w10 r G hb10 ⟨rs0,⟨gr,rfl,Uf,Ug,hgr3⟩,QG,TG⟩;replace Y:=Y.tr hb10;rw[QV]at TG;have hB9:w.heap.size<=w9.heap.size:=r.cR;have TV:Cf w ((w9.heap.size,w10.heap.size)::iv) gr:=.inr ⟨be,_,_,aF,Uf,kC Ug⟩;have OL:gr≠gd:=by have:=r.size;omega
  replace VY:dQ w10 (fun x=>x=gd) (.slice dp.a dp.ls.length dp.c) D:=VY.cP fun x E=>by
   rw[E,G.block gd (rlo r hF gd Rk),rls r hF Rk]
  have hgd10:gd<w10.heap.size:=by have:=rlo r hF gd Rk;have:=G.size;omega
  replace Rk:=Rk.mono (K:=(w9.heap.size,w10.heap.size)::iv) fun p hp=>aD _ hp;generalize (w9.heap.size,w10.heap.size)::iv=iv at*
  have hgrB:w.heap.size<=gr:=by omega
  obtain⟨C8,hL⟩:∃C8,rs0.length=t+1+C8:=⟨rs0.length-(t+1),be⟩
  refine⟨(C8:Int),wo,C8,C8,rfl,rfl,lr,be,be,(C8:Int)-1,wo,Nat×List Nat×List Nat×World,fun z=>⟨[(8,.o (.v (.int .u64 b))),(9,sV dp.a dp.ls.length dp.c),(10,.o (.v (.slice (some ⟨gr,0,none⟩) rs0.length rs0.length))),(11,.o (.s 0 0 C8 C8)),(12,.o (.v (iV ((z.1:Int)-1))))],
    [(0,.arr T.uint32 (F8 z.2.1))],1,iv,z.2.2.2⟩,fun z=>z.1,
   fun z=>z.1<=C8/\Bq w z.2.2.2/\z.2.1.length=C8/\z.2.2.1.length=rs0.length/\Lm z.2.1/\Lm z.2.2.1/\z.2.2.2.heap[gr]? =some (.cells (F8 z.2.2.1).toArray T.uint32 (0,0))/\dQ z.2.2.2 (fun x=>x=gd) (.slice dp.a dp.ls.length dp.c) D/\
    gd<z.2.2.2.heap.size/\val z.2.2.1<wt z.1*D/\n*2^b=wt z.1*(D*val (z.2.1.drop z.1))+val z.2.2.1,?_,?_⟩
  .intro O J r;rw[qf]at r;refine⟨(C8,List.replicate C8 0,rs0,J),⟨lr,Y.tr r.cV,ce,rfl,Lm.replicate _,hgr3,?_,?_,?_,?_,?_⟩,sbgn [] r⟩
   .dsimp only;rw[rls r hF TV];exact Ug
   .exact VY.cP fun x E=>by rw[E];exact rls r hF Rk
   .exact rlo r hF gd Rk
   .dsimp only
    have:=GS (b:=b) TF h;rw[hDd,<-TD,ht,<-Ra,show x.ls.length+1-(t+1)=C8 by omega]at this;rw[TG];exact this
   .dsimp only;rw[TG];simp[val]
  .rintro⟨k,out,rs,w11⟩ ⟨Z,Y,Q2,Uh,Rg,Wh,PY,VY,RI,hi1,QR⟩;dsimp only at Z Y Q2 Uh Rg Wh PY VY RI hi1 QR ⊢;apply bS<;>intro h9
   .have h9:(k:Int)-1≥0:=aI h9;obtain⟨k,rfl⟩:∃q,k=q+1:=⟨k-1,be⟩
    rw[show ((k+1:Nat):Int)-1=(k:Int) by omega];have hDN:D<wt (t+1):=gF.1 (Nat.le_of_eq Wg);obtain⟨a1,a2,a3⟩:=CO (Fd:=t+1) Wh hDN be hi1;have hdig:=fun(J:World)=>@Jx (fun x=>x=gd) J (.slice dp.a dp.ls.length dp.c) D gr k rs;rw[Wg]at hdig;simp only[Uh]at hdig;generalize hP:val ((rs.drop k).take (t+1+1))=P at*
    have hQ32:P / D<4294967296:=(Nat.div_lt_iff_lt_mul hD0).2 (by rw[bV]at a3;omega);refine⟨fun O J r=>(hdig J (fun g V=>by rw[V];exact rlo r hF gd Rk) OL (VY.cP fun x E=>by rw[E];exact rls r hF Rk) hD0 (by rw[rls r hF TV];exact PY) Wh be be a3).mono fun e w12 G=>?_⟩;obtain⟨rfl,hgb,rs',e1,e2,e3,e4,e5,e6⟩:=G;refine⟨_,_,_,rfl,r.CA (fun id b N U=>Rel.not r hF TV id b N U) hgb,?_⟩;obtain⟨hi1',hi2'⟩:=Hn (Fd:=t+1) hD0 Wh (e1.trans Uh.symm) hDN be hi1 QR hP e3 e4 e5 be;have hw12:Bq w w12:=(Y.tr r.cV).tr (Bel.grown hgb (fun g V=>by injection V with V;omega) r.cR);have hdN12:dQ w12 (fun x=>x=gd) (.slice dp.a dp.ls.length dp.c) D:=VY.cP fun x E=>by
     rw[E,hgb.block gd (rlo r hF gd Rk) (fun e=>OL (Option.some.inj e).symm),rls r hF Rk]
    have hgd12:gd<w12.heap.size:=by have:=rlo r hF gd Rk;have:=hgb.size;omega
    generalize P / D=Q at*
    refine⟨be,by rw[fZ];omega,F8 (out.set k Q),jD out k _ be ce,(k:Int)-1,wo,?_⟩;intro IR w3 r3
    refine⟨(k,out.set k Q,rs',w3),⟨by dsimp only;omega,hw12.tr r3.cV,by simp[Q2],e1.trans rfl,Rg.set hQ32,e2,?_,?_,?_,hi1',hi2'⟩,
     sbgn [] r3,by dsimp only;omega⟩
    .dsimp only;rw[rls r3 hF TV];exact e6
    .exact hdN12.cP fun x E=>by rw[E];exact rls r3 hF Rk
    .exact rlo r3 hF gd Rk
   .have Ui:k=0:=by
     have:¬(k:Int)-1≥0:=aL h9;omega
    subst Ui;rw[jV,Nat.one_mul,List.drop_zero]at QR;rw[jV,Nat.one_mul]at hi1;rw[<-hDd]at hi1 QR;obtain⟨hq,hrem⟩:=Jc TF QR hi1;have Po:∀J:World,J.heap[gr]? =some (.cells (F8 rs).toArray T.uint32 (0,0))->dI J (fun x=>x=gr) (.slice (some ⟨gr,0,none⟩) rs0.length rs0.length) rs:=fun J hh=>by
     have:=BR hh Wh be
     rwa [Uh]at this
    refine fg (I9:=fun O _ v F=>dI F (fun g=>g=(O 0).g) v (dh out)) (H':=[]) 0 rfl ce trivial rfl (fun O J r=>r.nn 0 _ rfl (by intros;simp) ce) (fun O J r=>?_) ?_
    .have hL:=r.nc (id:=0) rfl Rg be;rw[Q2]at hL;exact ew (fun g V=>by rw[V];exact(r.low 0 _ rfl (r.nn 0 _ rfl (by intros;simp) ce)).2) hL
    rintro O w13 v13 w14 r G hb14 hL;replace Y:=Y.tr hb14;have ON:=r.low 0 _ rfl (r.nn 0 _ rfl (by intros;simp) ce);have hs:=G.size;have hgr14:w14.heap[gr]? =some (.cells (F8 rs).toArray T.uint32 (0,0)):=by rw[G.block gr (rlo r hF gr TV),rls r hF TV];exact PY
    replace TV:=TV.mono (K:=((O 0).g,(O 0).g+1)::(w13.heap.size,w14.heap.size)::iv) fun p hp=>by simp[hp]
    have TW:dQ w14 (Cf w (((O 0).g,(O 0).g+1)::(w13.heap.size,w14.heap.size)::iv)) v13 (n / m):=by
     have:=hL.trimmed;rw[hq]at this;exact this.cO fun k Z=>.inr ⟨be,_,_,aF,be,be⟩
    generalize ((O 0).g,(O 0).g+1)::(w13.heap.size,w14.heap.size)::iv=OR at*
    refine cM (cN (I9:=fun _ _ v F=>dI F (fun x=>x=gr) v (dh rs)) (fun O J r=>ew (fun g V=>by rw[V];exact rlo r hF gr TV) (Po J (by rw[rls r hF TV];exact hgr14))) ?_);rintro O w15 v15 w16 r G hb16 hL;replace Y:=Y.tr hb16;replace TW:=TW.cL (K:=(w15.heap.size,w16.heap.size)::OR) r hF G fun x E=>aD _ E;replace hL:=hL.cO (S':=Cf w ((w15.heap.size,w16.heap.size)::OR)) fun g V=>by rw[V];exact TV.cons
    generalize (w15.heap.size,w16.heap.size)::OR=Ob at*
    have htl:(dh rs).length<=rs.length:=by
     obtain⟨_,_,k,_,Z⟩:=e7 rs;rw[Z];simp;omega
    refine cM (cN (I9:=fun _ J v F=>dQ F (Nf J F) v (val (dh rs) / 2^b)) (fun O J r=>IV (rlo r hF) (dI.rel hL r hF) be Om) ?_);rintro O w17 v17 w18 r G hb18 hr;replace Y:=Y.tr hb18;rw[(e7 rs).1,hrem]at hr;have Ue:=hr.eX (S:=FF) r.cR (iv:=(w17.heap.size,w18.heap.size)::Ob) aF;replace TW:=TW.cL (K:=(w17.heap.size,w18.heap.size)::Ob) r hF G fun x E=>aD _ E;generalize (w17.heap.size,w18.heap.size)::Ob=Of at*
    intro IR w19 r3;exact⟨_,rfl,Y.tr r3.cV,_,_,rfl,(TW.rel r3 hF).cO fun g V=>Cv.nw V r3,((Ue.rel r3 hF).cO fun g V=>Cv.nw V r3).cO fun g V=>V.elim (fun h=>h.elim) .inr⟩
theorem Cs{m:Nat}(L:Old S w)(U:dQ w S v n)(hm:dQ w S u m)(Rn:ln n<=100000000000)(PE:ln m<=100000000000):
  eD PG Fd.tI #[v,u] w (eL w fun v' F=>dQ F (Nw S w F) v' (Nat.gcd n m)):=by
 refine wF ce ?_
 refine⟨(Value×Nat)×(Value×Nat)×Iv×World,fun z=>⟨[(0,.o (.v z.1.1)),(1,.o (.v z.2.1.1))],[],0,z.2.2.1,z.2.2.2⟩,fun z=>z.2.1.2,
  fun z=>Bq w z.2.2.2/\dQ z.2.2.2 (Cv S w.heap.size z.2.2.1) z.1.1 z.1.2/\dQ z.2.2.2 (Cv S w.heap.size z.2.2.1) z.2.1.1 z.2.1.2/\ln z.1.2<=100000000000/\ln z.2.1.2<=100000000000/\Nat.gcd z.1.2 z.2.1.2=Nat.gcd n m,?_,?_⟩
 .intro O J r
  exact⟨((v,n),(u,m),[],J),⟨r.cV,(U.cP fun g V=>r.cV.block g (L g V)).cO fun _ V=>.inl V,(hm.cP fun g V=>r.cV.block g (L g V)).cO fun _ V=>.inl V,Rn,PE,rfl⟩,
   Sub.gen [] r trivial ⟨rfl,rfl,trivial⟩ trivial (by simp[ka,SV.sc,At.sc]) d5 ce⟩
 .rintro⟨⟨vx,x⟩,⟨vy,y⟩,iv,w1⟩ ⟨Y,E,hy,QI,RM,V⟩;dsimp only at Y E hy QI RM V ⊢;have hyN:=hy;obtain⟨p,rfl,QV,Q8⟩:=hy.la;have Oq:=dX p.lm Q8;rw[QV]at Oq;apply bS<;>intro h
  .have h:0<p.ls.length:=by
    have:(p.ls.length:Int)>0:=aI h;omega
   have QH:0<y:=by
    rcases bB y with h0|h0
    .rw[h0]at Oq;rw[Jb]at Oq;omega
    .exact h0
   refine cM (cN (I9:=fun _ J v F=>∃q r,v= .tuple #[q,r]/\dQ F (Nf J F) q (x / y)/\dQ F (Nw (Cv S w.heap.size iv) J F) r (x % y)) (fun O J r=>mF (rlo r L) (E.rel r L) (hyN.rel r L) QH QI) ?_);rintro O w3 v3 w4 r G Pj ⟨q,rm,rfl,-,hr⟩;replace Y:=Y.tr Pj;have Ue:dQ w4 (Cv S w.heap.size ((w3.heap.size,w4.heap.size)::iv)) rm (x % y):=hr.cO fun g V=>Nw.cv V r.cR;have hyN:=hyN.cL (K:=(w3.heap.size,w4.heap.size)::iv) r L G fun x E=>aD _ E;generalize (w3.heap.size,w4.heap.size)::iv=iv2 at*
   intro In w5 r5
   refine⟨((_,y),(rm,x % y),iv2,w5),⟨Y.tr r5.cV,hyN.rel r5 L,Ue.rel r5 L,RM,aP (e9 (Nat.le_of_lt (cG x QH))) RM,?_⟩,
    Sub.gen [] r5 trivial ⟨rfl,rfl,trivial⟩ trivial (by simp[ka,SV.sc,At.sc]) d5 ce,cG x QH⟩
   dsimp only
   rw[<-V,Nat.gcd_comm x y,Nat.gcd_rec y x,Nat.gcd_comm]
  .have h:p.ls.length=0:=by
    have:¬(p.ls.length:Int)>0:=aL h;omega
   have QH:y=0:=by
    have:=kN y;rw[<-Oq,h,jV]at this;omega
   rw[QH,Nat.gcd_zero_right]at V;intro In w5 r5;exact⟨_,rfl,Y.tr r5.cV,by rw[<-V];exact(E.rel r5 L).cO fun g V=>Cv.nw V r5⟩
def sg(neg:Bool)(n:Nat):Int:=if neg then -(n:Int)else n
theorem Gm(n:Nat):sg true n= -(n:Int):=rfl
theorem LN(n:Nat):sg false n=n:=rfl
theorem mz(b:Bool)(n:Nat):(sg b n).natAbs=n:=by cases b<;>simp[sg]
def tW(w:World)(S:Nat->Prop)(v:Value)(neg:Bool)(ls:List Nat):Prop:=∃lv,v= .agg #[.bool neg,lv]/\dI w S lv ls
def dw(w:World)(S:Nat->Prop)(v:Value)(z:Int):Prop:=∃nv,v= .agg #[.bool (decide (z<0)),nv]/\dQ w S nv z.natAbs
section
variable{S S':Nat->Prop}{H:Hp}{nx:Nat}{iv K:Iv}{B:Nat}{w J F:World}{O:Nat->Sx.dc}{v:Value}{z:Int}
theorem dw.cP(h:dw w S v z)(Z:∀g,S g->F.heap[g]? =w.heap[g]?):dw F S v z:=by
 obtain⟨nv,W,I⟩:=h;exact⟨nv,W,I.cP Z⟩
theorem dw.cO(h:dw w S v z)(Z:∀g,S g->S' g):dw w S' v z:=by
 obtain⟨nv,W,I⟩:=h;exact⟨nv,W,I.cO Z⟩
theorem dw.rel(h:dw w (Cv S B iv) v z)(r:Rel H nx iv B w O J)(L:∀g,S g->g<B):dw J (Cv S B iv) v z:=h.cP fun _ V=>rls r L V
theorem dw.cL(h:dw w (Cv S B iv) v z)(r:Rel H nx iv B w O J)(L:∀g,S g->g<B)(G:Ext J F)(hm:∀p,p∈iv->p∈K):dw F (Cv S B K) v z:=by
 obtain⟨nv,W,I⟩:=h;exact⟨nv,W,I.cL r L G hm⟩
theorem dw.eX(h:dw F (Nf J F) v z)(hB:B<=J.heap.size)(hm:(J.heap.size,F.heap.size)∈iv):dw F (Cv S B iv) v z:=h.cO fun _ V=>V.eX hB hm
end
theorem nA(h:k=ln n):0<k↔0<n:=by
 have W:=@gF n 0;rw[jV]at W;omega
theorem dI.shape(h:dI w S v ls):∃a n c,v= .slice a n c:=by
 obtain⟨a,c,h,_⟩:=h.sl;exact⟨a,_,c,h⟩
theorem dQ.shape(h:dQ w S v n):∃a n c,v= .slice a n c:=by
 obtain⟨_,h,_⟩:=h;exact h.shape
theorem dI.arg(h:dI w S v ls)(iv:Iv):dI w (Cv S w.heap.size iv) v ls:=h.cO fun _ h=>.inl h
theorem dQ.arg(h:dQ w S v n)(iv:Iv):dQ w (Cv S w.heap.size iv) v n:=h.cO fun _ h=>.inl h
theorem dQ.out(h:dQ w1 (Cv S w.heap.size iv) v n)(r:Rel H nx iv w.heap.size w1 O J)(L:Old S w):dQ J (Nw S w J) v n:=
 (h.rel r L).cO fun _ V=>Cv.nw V r
theorem dw.out(h:dw w1 (Cv S w.heap.size iv) v z)(r:Rel H nx iv w.heap.size w1 O J)(L:Old S w):dw J (Nw S w J) v z:=
 (h.rel r L).cO fun _ V=>Cv.nw V r
theorem neg_pos(h:k=ln n):decide ((k:Int)>0)=decide (-(n:Int)<0):=by
 have:=nA h;exact decide_eq_decide.2 be
theorem LO(w:World):Old FF w:=fun _ h=>h.elim
theorem oF:Old (fun _=>False) w:=LO w
theorem NJ{neg:Bool}(L:Old S w)(h:tW w S v neg ls):
  eD PG Fd.xk #[v] w (eL w fun v' F=>dw F (Nw S w F) v' (sg neg (val ls))):=by
 obtain⟨lv,rfl,hl⟩:=h;replace hl:=hl.arg [];refine Cp ce ?_;refine cM (cN (I9:=fun _ _ v F=>dI F (Cv S w.heap.size []) v (dh ls)) (fun O J r=>ew (rlo r L) (dI.rel hl r L)) ?_);rintro O w1 v1 F r G Y hL;have hN:=hL.trimmed.cO (S':=Cv S w.heap.size [(w1.heap.size,F.heap.size)]) fun _ V=>V.cons;have Wi:=hN;obtain⟨p,rfl,QV,Q8⟩:=hN.la;have Oq:=dX p.lm Q8;rw[QV]at Oq
 cases neg
 .intro IR w3 r3;exact⟨_,rfl,Y.tr r3.cV,_,rfl,by rw[mz];exact Wi.out r3 L⟩
 .intro IR w3 r3;exact⟨_,rfl,Y.tr r3.cV,_,by rw[Gm,<-neg_pos Oq];rfl,by rw[mz];exact Wi.out r3 L⟩
theorem yQ(L:Old S w)(h:dw w S v z)(Rn:ln z.natAbs<=100000000000):
  eD PG Fd.mX #[v] w (eL w fun v' F=>∃ls,tW F (Nf w F) v' (decide (z<0)) ls/\Nz ls/\val ls=z.natAbs):=by
 obtain⟨nv,rfl,U⟩:=h;obtain⟨ls,hl,hz,hv⟩:=U;replace hl:=hl.arg [];refine qU ce ?_;refine cM (cN (I9:=fun _ _ v F=>dI F (Cv S w.heap.size []) v (dh ls)) (fun O J r=>ew (rlo r L) (dI.rel hl r L)) ?_);rintro O w1 v1 F r G Y hL;rw[CK hz]at hL;have Oq:=dX hl.lm hz;rw[hv]at Oq;replace hL:=hL.cO (S':=Cv S w.heap.size [(w1.heap.size,F.heap.size)]) fun _ V=>V.cons;have hL2:=hL;obtain⟨p,rfl,hp⟩:=hL.la;have WN:(p.ls.length:Int)>0↔z≠0:=by
  have W:=nA Oq;rw[hp];omega
 subst hp;generalize N:decide (z<0)=b
 cases b
 all_goals
  refine cM (cN (I9:=fun _ J v F=>dI F (Nf J F) v p.ls) (fun O J r=>FV (rlo r L) (dI.rel hL2 r L) be) ?_);rintro O w3 v3 w4 r G Pj hc;replace Y:=Y.tr Pj;have hcL:=hc.eX (S:=FF) r.cR (iv:=(w3.heap.size,w4.heap.size)::[(w1.heap.size,F.heap.size)]) aF;obtain⟨a3,n3,c3,rfl⟩:=hcL.shape;intro In w5 r5;refine⟨_,rfl,Y.tr r5.cV,p.ls,⟨_,?_,(dI.rel hcL r5 oF).cO fun _ V=>Cv.nw V r5⟩,hz,hv⟩
 .rfl
 .have:decide ((p.ls.length:Int)>0)=true:=bQ (WN.2 (by have:=aI N;omega));rw[<-this];rfl
theorem uU(h:dw w S v z):eD PG Fd.mW #[v] w (eL w fun v' _=>v'=iV z.sign):=by
 obtain⟨nv,rfl,U⟩:=h;obtain⟨p,rfl,QV,Q8⟩:=U.la;have Oq:=dX p.lm Q8;rw[QV]at Oq;have WN:=nA Oq;generalize N:decide (z<0)=b;refine qT ce ?_;apply bS<;>intro h
 .have h:p.ls.length=0:=by have:=eq_of_beq h;omega
  have hz:z=0:=by omega
  subst hz;intro O F r;exact⟨_,rfl,r.cV,rfl⟩
 .have h:p.ls.length≠0:=fun e=>by rw[e]at h;simp at h
  have hz:z≠0:=by omega
  cases b
  .have:=aL N;intro O F r;exact⟨_,rfl,r.cV,by rw[cD be];rfl⟩
  .have:=aI N;intro O F r;exact⟨_,rfl,r.cV,by rw[bm be];rfl⟩
theorem oe(L:Old S w)(h:dw w S v z):eD PG Fd.mB #[v] w (eL w fun v' F=>dw F (Nw S w F) v' (-z)):=by
 obtain⟨nv,rfl,U⟩:=h;have Tm:=U.arg [];obtain⟨p,rfl,QV,Q8⟩:=U.la;have Oq:=dX p.lm Q8;rw[QV]at Oq;have WN:=nA Oq;have Rj:(-z).natAbs=z.natAbs:=cJ z;generalize N:decide (z<0)=b;refine pM ce ?_
 cases b
 .have:=aL N;have hd:decide ((p.ls.length:Int)>0)=decide (-z<0):=decide_eq_decide.2 be;intro O F r;exact⟨_,rfl,r.cV,_,by rw[<-hd];rfl,by rw[Rj];exact Tm.out r L⟩
 .have:=aI N;have hd:decide (-z<0)=false:=av be;intro O F r;exact⟨_,rfl,r.cV,_,by rw[hd];rfl,by rw[Rj];exact Tm.out r L⟩
theorem dw.num(h:dw w S v z):∃a n c,v= .agg #[.bool (decide (z<0)),.slice a n c]/\dQ w S (.slice a n c) z.natAbs:=by
 obtain⟨nv,W,I⟩:=h;obtain⟨a,n,c,rfl⟩:=I.shape;exact⟨a,n,c,W,I⟩
theorem AJ(L:Old S w)(E:dw w S v x)(hy:dw w S u y)(QI:ln x.natAbs<=100000000000)(RM:ln y.natAbs<=100000000000):
  eD PG Fd.me #[v,u] w (eL w fun v' F=>dw F (Nf w F) v' (x+y)):=by
 obtain⟨nx,rfl,Qe⟩:=E;obtain⟨ny,rfl,R0⟩:=hy;obtain⟨ax,lx,cx,rfl⟩:=Qe.shape;obtain⟨ay,ly,cy,rfl⟩:=R0.shape;replace Qe:=Qe.arg [];replace R0:=R0.arg [];generalize TY:decide (x<0)=bx;generalize Om:decide (y<0)=b2;refine q9 ce ?_;have OM:bx=b2->(x+y).natAbs=x.natAbs+y.natAbs/\decide (x+y<0)=bx:=fun e=>by
  cases bx<;>subst e
  .have W:=aL TY;have I:=aL Om;exact⟨be,av be⟩
  .have W:=aI TY;have I:=aI Om;exact⟨be,bQ be⟩
 have Va:bx≠b2->y.natAbs<=x.natAbs->(x+y).natAbs=x.natAbs-y.natAbs/\(decide (x+y<0)=(bx&&decide (x.natAbs-y.natAbs≠0))):=fun e h=>by
  cases bx
  .have W:=aL TY
   cases b2
   .exact absurd rfl e
   have I:=aI Om;exact⟨be,by rw[Bool.false_and];exact av be⟩
  .have W:=aI TY
   cases b2
   .have I:=aL Om;exact⟨be,by rw[Bool.true_and];exact decide_eq_decide.2 be⟩
   .exact absurd rfl e
 have Tn:bx≠b2->x.natAbs<y.natAbs->(x+y).natAbs=y.natAbs-x.natAbs/\decide (x+y<0)=b2:=fun e h=>by
  cases bx
  .have W:=aL TY
   cases b2
   .exact absurd rfl e
   have I:=aI Om;exact⟨be,bQ be⟩
  .have W:=aI TY
   cases b2
   .have I:=aL Om;exact⟨be,av be⟩
   .exact absurd rfl e
 by_cases OX:bx=b2
 .obtain⟨W,I⟩:=OM OX;subst OX
  cases bx
  all_goals
   refine dP (idO 9) ?_;refine cN (I9:=fun _ J v F=>dQ F (Nf J F) v (x.natAbs+y.natAbs)) (fun O J r=>EK (rlo r L) (Qe.rel r L) (R0.rel r L) be be) ?_;rintro O w3 v3 w4 r G Y U;have hN:=U.eX (S:=FF) r.cR (iv:=(w3.heap.size,w4.heap.size)::[]) aF;obtain⟨a3,n3,c3,rfl⟩:=hN.shape;intro In w5 r5;exact⟨_,rfl,Y.tr r5.cV,_,by rw[I];rfl,by rw[W];exact hN.out r5 oF⟩
 .replace Va:=Va OX;replace Tn:=Tn OX;have hcmp:∀d:Int,d=od x.natAbs y.natAbs->(0<=d↔y.natAbs<=x.natAbs):=fun d e=>by
   rw[e];unfold od;split
   .omega
   .split<;>omega
  cases bx<;>cases b2<;>first|exact absurd rfl OX|skip
  all_goals
   refine cM (cN (I9:=fun _ _ v _=>v=iV (od x.natAbs y.natAbs)) (fun O J r=>FY (rlo r L) (Qe.rel r L) (R0.rel r L)) ?_);rintro O w1 v1 F r G Y rfl;replace Qe:=Qe.cL (K:=[(w1.heap.size,F.heap.size)]) r L G fun x E=>aD _ E;replace R0:=R0.cL (K:=[(w1.heap.size,F.heap.size)]) r L G fun x E=>aD _ E;apply bS<;>intro h
   .have h:=(hcmp _ rfl).1 (aI h);obtain⟨W,I⟩:=Va h;refine cM (cN (I9:=fun _ J v F=>dQ F (Nf J F) v (x.natAbs-y.natAbs)) (fun O J r=>wi (rlo r L) (Qe.rel r L) (R0.rel r L) h be) ?_);rintro O w3 v3 w4 r G Pj U;replace Y:=Y.tr Pj;have hN:=U.eX (S:=FF) r.cR (iv:=(w3.heap.size,w4.heap.size)::[(w1.heap.size,F.heap.size)]) aF;have Wi:=hN;obtain⟨p,rfl,QV,Q8⟩:=hN.la;have Oq:=dX p.lm Q8;rw[QV]at Oq;have WN:=nA Oq;have hd:decide ((p.ls.length:Int)>0)=decide (x.natAbs-y.natAbs≠0):=decide_eq_decide.2 be;intro In w5 r5;exact⟨_,rfl,Y.tr r5.cV,_,by rw[I,<-hd];rfl,by rw[W];exact Wi.out r5 oF⟩
   .have h:x.natAbs<y.natAbs:=by
     have h0:=aL h;have:=hcmp _ rfl;omega
    obtain⟨W,I⟩:=Tn h;refine dP (idO 9) ?_;refine cN (I9:=fun _ J v F=>dQ F (Nf J F) v (y.natAbs-x.natAbs)) (fun O J r=>wi (rlo r L) (R0.rel r L) (Qe.rel r L) be be) ?_;rintro O w3 v3 w4 r G Pj U;replace Y:=Y.tr Pj;have hN:=U.eX (S:=FF) r.cR (iv:=(w3.heap.size,w4.heap.size)::[(w1.heap.size,F.heap.size)]) aF;obtain⟨a3,n3,c3,rfl⟩:=hN.shape;intro In w5 r5;exact⟨_,rfl,Y.tr r5.cV,_,by rw[I];rfl,by rw[W];exact hN.out r5 oF⟩
theorem fq(L:Old S w)(E:dw w S v x)(hy:dw w S u y)(QI:ln x.natAbs<=100000000000)(RM:ln y.natAbs<=100000000000):
  eD PG Fd.mA #[v,u] w (eL w fun v' F=>dw F (Nf w F) v' (x*y)):=by
 obtain⟨nx,rfl,Qe⟩:=E;obtain⟨ny,rfl,R0⟩:=hy;obtain⟨ax,lx,cx,rfl⟩:=Qe.shape;obtain⟨ay,ly,cy,rfl⟩:=R0.shape;replace Qe:=Qe.arg [];replace R0:=R0.arg [];have Rj:=Int.natAbs_mul x y;have Qv:decide (x*y<0)=((decide (x<0) != decide (y<0))&&decide (x.natAbs*y.natAbs≠0)):=by
  by_cases h0:x*y=0
  .rw[<-Rj,h0];simp
  .have Qp:x≠0:=fun e=>h0 (by rw[e,Int.zero_mul]);have QH:y≠0:=fun e=>h0 (by rw[e,Int.mul_zero]);rw[<-Rj,bQ (show (x*y).natAbs≠0 by omega),Bool.and_true];by_cases W:x<0<;>by_cases I:y<0
   .rw[bQ W,bQ I];exact av (by have:=Int.mul_pos_of_neg_of_neg W I;omega)
   .rw[bQ W,av I];exact bQ (Int.mul_neg_of_neg_of_pos W be)
   .rw[av W,bQ I];exact bQ (Int.mul_neg_of_pos_of_neg be I)
   .rw[av W,av I];exact av (by have:=Int.mul_nonneg (show 0<=x by omega) (show 0<=y by omega);omega)
 generalize decide (x<0)=bx at*
 generalize decide (y<0)=b2 at*
 refine pL ce ?_;refine cM (cN (I9:=fun _ J v F=>dQ F (Nf J F) v (x.natAbs*y.natAbs)) (fun O J r=>FX (rlo r L) (Qe.rel r L) (R0.rel r L) be be) ?_);rintro O w3 v3 w4 r G Y U;have hN:=U.eX (S:=FF) r.cR (iv:=(w3.heap.size,w4.heap.size)::[]) aF;have Wi:=hN;obtain⟨p,rfl,QV,Q8⟩:=hN.la;have Oq:=dX p.lm Q8;rw[QV]at Oq;have WN:=nA Oq;have hd:decide ((p.ls.length:Int)>0)=decide (x.natAbs*y.natAbs≠0):=decide_eq_decide.2 be
 cases bx<;>cases b2
 all_goals
  intro In w5 r5;exact⟨_,rfl,Y.tr r5.cV,_,by rw[Qv,<-hd];rfl,by rw[Rj];exact Wi.out r5 oF⟩
theorem yR(L:Old S w)(E:dw w S v x)(hy:dw w S u y)(QI:ln x.natAbs<=100000000000)(RM:ln y.natAbs<=100000000000):
  eD PG Fd.nP #[v,u] w (eL w fun v' _=>v'=iV (x-y).sign):=by
 have hxN:dw w (Cv S w.heap.size []) v x:=E.cO fun _ h=>.inl h;have hyN:dw w (Cv S w.heap.size []) u y:=hy.cO fun _ h=>.inl h;obtain⟨nx,rfl,Qe⟩:=E;obtain⟨ny,rfl,R0⟩:=hy;obtain⟨ax,lx,cx,rfl⟩:=Qe.shape;obtain⟨ay,ly,cy,rfl⟩:=R0.shape;refine rZ ce ?_;refine dP (idO 6) ?_;refine cN (I9:=fun _ J v F=>dw F (Nw (Cv S w.heap.size []) J F) v (-y)) (fun O J r=>oe (rlo r L) (hyN.rel r L)) ?_;rintro O w1 v1 F r G Y hm;have TX:dw F (Cv S w.heap.size [(w1.heap.size,F.heap.size)]) v1 (-y):=hm.cO fun _ V=>Nw.cv V r.cR;replace hxN:=hxN.cL (K:=[(w1.heap.size,F.heap.size)]) r L G fun x E=>aD _ E;generalize [(w1.heap.size,F.heap.size)]=iv at*
 have hmN2:=TX;obtain⟨am,lm,cm,rfl,-⟩:=TX.num;refine cN (I9:=fun _ J v F=>dw F (Nf J F) v (x+ -y)) (fun O J r=>AJ (rlo r L) (hxN.rel r L) (hmN2.rel r L) QI (by rw[cJ];exact RM)) ?_;rintro O w3 v3 w4 r G Pj hp;replace Y:=Y.tr Pj;have VZ:=hp.eX (S:=S) r.cR (iv:=(w3.heap.size,w4.heap.size)::iv) aF;have Vb:=VZ;obtain⟨ap,lp,cp,rfl,-⟩:=VZ.num;refine cN (I9:=fun _ _ v _=>v=iV (x-y).sign) (fun O J r=>uU (Vb.rel r L)) ?_;rintro O w5 v5 w6 r G XW rfl;replace Y:=Y.tr XW;intro J8 w7 r7;exact⟨_,rfl,Y.tr r7.cV,rfl⟩
theorem EL{x y:Int}(_hy:y≠0){q r:Nat}(hr:r<y.natAbs)(h:(if x<0 then x+(q*y.natAbs:Nat)=r else x=(q*y.natAbs:Nat)+r)):
  x / y=sg (decide (x<0) != decide (y<0)) q/\x % y=r:=by
 have key:∀b:Int,0<b->b=y.natAbs->x / b=(if x<0 then -(q:Int)else q)/\x % b=r:=fun b N e=>by
  rw[Int.ediv_emod_unique N];rw[Int.natCast_mul]at h;rw[<-e]at h;split at h
  .rename_i E;rw[aM E,Int.mul_neg,Int.mul_comm b];omega
  .rename_i E;rw[aK E,Int.mul_comm b];omega
 by_cases I:y<0
 .obtain⟨k1,k2⟩:=key (-y) be be;rw[Int.ediv_neg]at k1;rw[Int.emod_neg]at k2;refine⟨?_,k2⟩;rw[bQ I];split at k1
  .rename_i E;rw[bQ E];show x / y=(q:Int)
   omega
  .rename_i E;rw[av E];show x / y= -(q:Int)
   omega
 .obtain⟨k1,k2⟩:=key y be be;refine⟨?_,k2⟩;rw[av I,k1];split
  .rename_i E;rw[bQ E];rfl
  .rename_i E;rw[av E];rfl
theorem EM{b:Bool}(h:k=ln n):(b&&decide ((k:Int)>0))=decide (sg b n<0):=by
 have hp:=nA h
 cases b
 .rw[Bool.false_and];exact(av (by simp[sg])).symm
 .rw[Bool.true_and,Gm];exact decide_eq_decide.2 be
theorem Ct(L:Old S w)(E:dw w S v x)(hy:dw w S u y)(QH:y≠0)(QI:ln x.natAbs<=100000000000)(RM:ln y.natAbs<=100000000000):
  eD PG Fd.ku #[v,u] w (eL w fun v' F=>∃q r,v'= .tuple #[q,r]/\dw F (Nf w F) q (x / y)/\dw F (Nw S w F) r (x % y)):=by
 obtain⟨ax,lx,cx,rfl,Qe⟩:=E.num;obtain⟨ay,ly,cy,rfl,R0⟩:=hy.num;replace Qe:=Qe.arg [];replace R0:=R0.arg [];have hyp:0<y.natAbs:=by omega
 have hdm:=@EL x y QH;generalize TY:decide (x<0)=bx at*
 generalize Om:decide (y<0)=b2 at*
 refine oV ce ?_;conv=>whnf
 refine cM (cN (I9:=fun _ J v F=>∃q r,v= .tuple #[q,r]/\dQ F (Nf J F) q (x.natAbs / y.natAbs)/\dQ F (Nw (Cv S w.heap.size []) J F) r (x.natAbs % y.natAbs)) (fun O J r=>mF (rlo r L) (Qe.rel r L) (R0.rel r L) hyp QI) ?_);rintro O w1 v1 F r G Y ⟨q,rm,rfl,hq,hrm⟩;have TW:=hq.eX (S:=FF) r.cR (iv:=[(w1.heap.size,F.heap.size)]) aF;have Ue:dQ F (Cv S w.heap.size [(w1.heap.size,F.heap.size)]) rm (x.natAbs % y.natAbs):=hrm.cO fun g V=>Nw.cv V r.cR;replace R0:=R0.cL (K:=[(w1.heap.size,F.heap.size)]) r L G fun x E=>aD _ E;clear r G hq hrm Qe;generalize [(w1.heap.size,F.heap.size)]=iv at*
 have hdam:=Nat.div_add_mod x.natAbs y.natAbs;have QG:=cG x.natAbs hyp;have To:=Nat.div_le_self x.natAbs y.natAbs;generalize x.natAbs / y.natAbs=q0 at*
 generalize x.natAbs % y.natAbs=r0 at*
 have hlq:=e9 To;have Wj:=TW;have Wk:=Ue;obtain⟨pq,rfl,hpq1,hpq2⟩:=TW.la;obtain⟨pr,rfl,hpr1,hpr2⟩:=Ue.la;have hpql:=dX pq.lm hpq2;rw[hpq1]at hpql;have hprl:=dX pr.lm hpr2;rw[hpr1]at hprl;have hrz:=nA hprl
 cases bx
 .have I:=aL TY;obtain⟨d1,d2⟩:=hdm QG (q:=q0) (by rw[aK I,bV];omega);have hd:(b2&&decide ((pq.ls.length:Int)>0))=decide (x / y<0):=by rw[d1,Bool.false_bne];exact EM hpql
  have e1:dQ F (Cf w iv) (.slice pq.a pq.ls.length pq.c) (x / y).natAbs:=by rw[d1,mz];exact Wj
  have e2:dQ F (Cv S w.heap.size iv) (.slice pr.a pr.ls.length pr.c) (x % y).natAbs:=by rw[d2];exact Wk
  have e3:decide (x % y<0)=false:=av be
  cases b2
  all_goals
   conv=>whnf
   intro In w5 r5;exact⟨_,rfl,Y.tr r5.cV,_,_,rfl,⟨_,by rw[<-hd];rfl,e1.out r5 oF⟩,_,by rw[e3];rfl,e2.out r5 L⟩
 .have I:=aI TY;conv=>whnf
  apply bS<;>intro h
  .have h:0<r0:=by
    have:(pr.ls.length:Int)>0:=aI h;omega
   obtain⟨d1,d2⟩:=hdm (q:=q0+1) (r:=y.natAbs-r0) be (by
    rw[aM I,Nat.add_mul,bV q0,Nat.one_mul]
    omega)
   have hlq1:=Dl q0 1;have SI:ln 1=1:=by rfl
   conv=>whnf
   refine dP [.x 0,.x 3,.x 4,.x 5,.x 1,.x 2,.x 6,.x 7,.x 8] ?_;conv=>whnf
   refine cN (I9:=fun _ J v F=>dQ F (Nf J F) v (q0+1)) (fun O J r=>?_) ?_
   .have hL:=(r.n0 (id:=4) (ls:=[1]) rfl (by intro x E;simp at E;omega) ce).nat (by intro x E;simp at E;omega);have ON:=r.low 4 _ rfl (r.nn 4 _ rfl (by intros;simp) ce);refine EK (S:=fun g=>Cf w iv g\/g=(O 4).g) (fun g V=>V.elim (fun V=>rlo r oF g V) fun V=>be) ((Wj.rel r oF).cO fun _ V=>.inl V) (hL.cO fun _ V=>.inr V) be (by rw[SI];omega)
   rintro O w3 v3 w4 r G Pj hp;replace Y:=Y.tr Pj;have VZ:=hp.eX (S:=FF) r.cR (iv:=(w3.heap.size,w4.heap.size)::iv) aF;replace R0:=R0.cL (K:=(w3.heap.size,w4.heap.size)::iv) r L G fun x E=>aD _ E;have hrN3:=Wk.cL (K:=(w3.heap.size,w4.heap.size)::iv) r L G fun x E=>aD _ E;clear r G hp Pj TW Wj Ue Wk;generalize (w3.heap.size,w4.heap.size)::iv=iv2 at*
   have Vb:=VZ;obtain⟨pp,rfl,hpp1,hpp2⟩:=VZ.la;have hppl:=dX pp.lm hpp2;rw[hpp1]at hppl;conv=>whnf
   refine cN (I9:=fun _ J v F=>dQ F (Nf J F) v (y.natAbs-r0)) (fun O J r=>wi (rlo r L) (R0.rel r L) (hrN3.rel r L) be be) ?_;rintro O w5 v5 w6 r G XW hm;replace Y:=Y.tr XW;have TX:=hm.eX (S:=FF) r.cR (iv:=(w5.heap.size,w6.heap.size)::iv2) aF;replace Vb:=Vb.cL (K:=(w5.heap.size,w6.heap.size)::iv2) r oF G fun x E=>aD _ E;clear r G hm XW VZ hrN3 R0;generalize (w5.heap.size,w6.heap.size)::iv2=OR at*
   obtain⟨am,lm,cm,rfl⟩:=TX.shape;have hd:(!b2&&decide ((pp.ls.length:Int)>0))=decide (x / y<0):=by rw[d1,Bool.true_bne];exact EM hppl
   have e1:dQ w6 (Cf w OR) (.slice pp.a pp.ls.length pp.c) (x / y).natAbs:=by rw[d1,mz];exact Vb
   have e2:dQ w6 (Cf w OR) (.slice am lm cm) (x % y).natAbs:=by rw[d2];exact TX
   have e3:decide (x % y<0)=false:=av be
   cases b2
   all_goals
    conv=>whnf
    intro In w5 r5;exact⟨_,rfl,Y.tr r5.cV,_,_,rfl,⟨_,by rw[<-hd];rfl,e1.out r5 oF⟩,_,by rw[e3];rfl,(e2.out r5 oF).cO fun g V=>V.elim (fun h=>h.elim) .inr⟩
  .have h:r0=0:=by
    have:¬(pr.ls.length:Int)>0:=aL h;omega
   subst h;obtain⟨d1,d2⟩:=hdm QG (q:=q0) (by rw[aM I,bV];omega);have hd:(!b2&&decide ((pq.ls.length:Int)>0))=decide (x / y<0):=by rw[d1,Bool.true_bne];exact EM hpql
   have e1:dQ F (Cf w iv) (.slice pq.a pq.ls.length pq.c) (x / y).natAbs:=by rw[d1,mz];exact Wj
   have e2:dQ F (Cv S w.heap.size iv) (.slice pr.a pr.ls.length pr.c) (x % y).natAbs:=by rw[d2];exact Wk
   have e3:decide (x % y<0)=false:=av be
   cases b2
   all_goals
    conv=>whnf
    intro In w5 r5;exact⟨_,rfl,Y.tr r5.cV,_,_,rfl,⟨_,by rw[<-hd];rfl,e1.out r5 oF⟩,_,by rw[e3];rfl,e2.out r5 L⟩
theorem kH(n:Int)(w:World)(W: -9223372036854775808<=n)(I:n<=9223372036854775807):
  eD PG Fd.vI #[iV n] w (eL w fun v' F=>dw F (Nf w F) v' n):=by
 have key:∀(m:Nat),m=n.natAbs->m<18446744073709551616/\val [m % 4294967296,m / 4294967296]=n.natAbs/\m / 4294967296<4294967296:=fun m e=>by
  refine⟨be,?_,be⟩;simp only[val]
  omega
 refine yJ ce ?_;refine⟨if n<0 then n+18446744073709551616 else n,by show n % 18446744073709551616=_;split<;>omega,?_⟩;apply bS<;>intro h
 .have h:=aI h;rw[aM h];obtain⟨m,hm⟩:∃m,m=n.natAbs:=⟨_,rfl⟩
  obtain⟨k1,k2,k3⟩:=key m hm;refine⟨(m:Int),by show(0-(n+18446744073709551616)) % 18446744073709551616=_;omega,((m % 4294967296:Nat):Int),eu m,bv,((m / 2^32:Nat):Int),mG 32 bv,((m / 4294967296:Nat):Int),by rw[eu,bT be],?_⟩;refine fg (I9:=fun O _ v F=>dI F (fun g=>g=(O 1).g) v (dh [m % 4294967296,m / 4294967296])) (H':=[(0,.box T.number [.v (.bool false),.v nls])]) 1 rfl ce ⟨rfl,trivial⟩ rfl (fun O J r=>r.nn 1 _ rfl (by intros;simp) ce) (fun O J r=>?_) ?_
  .have hL:=r.n0 (id:=1) (ls:=[m % 4294967296,m / 4294967296]) rfl (by intro x E;simp at E;omega) ce;exact ew (fun g V=>by rw[V];exact(r.low 1 _ rfl (r.nn 1 _ rfl (by intros;simp) ce)).2) hL
  rintro O w1 v1 F r G Y hL;have ON:=r.low 1 _ rfl (r.nn 1 _ rfl (by intros;simp) ce);have hs:=G.size;generalize (O 1).g=g0 at*
  have hN:dQ F (Cf w [(g0,g0+1),(w1.heap.size,F.heap.size)]) v1 n.natAbs:=by
   have:=hL.trimmed;rw[k2]at this;exact this.cO fun k Z=>.inr ⟨be,g0,g0+1,ce,be,be⟩
  generalize [(g0,g0+1),(w1.heap.size,F.heap.size)]=iv at*
  obtain⟨a3,n3,c3,rfl⟩:=hN.shape;intro In w5 r5;exact⟨_,rfl,Y.tr r5.cV,_,rfl,hN.out r5 oF⟩
 .have h:=aL h;rw[aK h];obtain⟨m,hm⟩:∃m,m=n.natAbs:=⟨_,rfl⟩
  obtain⟨k1,k2,k3⟩:=key m hm;have hmn:n=(m:Int):=by omega
  refine⟨((m % 4294967296:Nat):Int),by rw[hmn];exact eu m,bv,((m / 2^32:Nat):Int),by rw[hmn];exact mG 32 bv,((m / 4294967296:Nat):Int),by rw[eu,bT be],?_⟩;refine fg (I9:=fun O _ v F=>dI F (fun g=>g=(O 1).g) v (dh [m % 4294967296,m / 4294967296])) (H':=[(0,.box T.number [.v (.bool false),.v nls])]) 1 rfl ce ⟨rfl,trivial⟩ rfl (fun O J r=>r.nn 1 _ rfl (by intros;simp) ce) (fun O J r=>?_) ?_
  .have hL:=r.n0 (id:=1) (ls:=[m % 4294967296,m / 4294967296]) rfl (by intro x E;simp at E;omega) ce;exact ew (fun g V=>by rw[V];exact(r.low 1 _ rfl (r.nn 1 _ rfl (by intros;simp) ce)).2) hL
  rintro O w1 v1 F r G Y hL;have ON:=r.low 1 _ rfl (r.nn 1 _ rfl (by intros;simp) ce);have hs:=G.size;generalize (O 1).g=g0 at*
  have hN:dQ F (Cf w [(g0,g0+1),(w1.heap.size,F.heap.size)]) v1 n.natAbs:=by
   have:=hL.trimmed;rw[k2]at this;exact this.cO fun k Z=>.inr ⟨be,g0,g0+1,ce,be,be⟩
  generalize [(g0,g0+1),(w1.heap.size,F.heap.size)]=iv at*
  obtain⟨a3,n3,c3,rfl⟩:=hN.shape;intro In w5 r5;exact⟨_,rfl,Y.tr r5.cV,_,rfl,hN.out r5 oF⟩
def jE(w:World)(S:Nat->Prop)(v:Value)(z:Int):Prop:=∃neg ls,tW w S v neg ls/\sg neg (val ls)=z
def dG(w:World)(S:Nat->Prop)(v:Value)(z:Int):Prop:=∃ls,tW w S v (decide (z<0)) ls/\Nz ls/\val ls=z.natAbs
theorem AK(z:Int):sg (decide (z<0)) z.natAbs=z:=by
 by_cases h:z<0
 .rw[bQ h,Gm];omega
 .rw[av h,LN];omega
theorem dG.r(h:dG w S v z):jE w S v z:=by
 obtain⟨ls,W,I,h3⟩:=h;exact⟨_,ls,W,by rw[h3,AK]⟩
section
variable{S S':Nat->Prop}{H:Hp}{nx:Nat}{iv K:Iv}{B:Nat}{w J F:World}{O:Nat->Sx.dc}{v:Value}{z:Int}{neg:Bool}{ls:List Nat}
theorem tW.cP(h:tW w S v neg ls)(Z:∀g,S g->F.heap[g]? =w.heap[g]?):tW F S v neg ls:=by
 obtain⟨lv,W,I⟩:=h;exact⟨lv,W,I.cP Z⟩
theorem tW.cO(h:tW w S v neg ls)(Z:∀g,S g->S' g):tW w S' v neg ls:=by
 obtain⟨lv,W,I⟩:=h;exact⟨lv,W,I.cO Z⟩
theorem jE.cP(h:jE w S v z)(Z:∀g,S g->F.heap[g]? =w.heap[g]?):jE F S v z:=by
 obtain⟨n,l,W,I⟩:=h;exact⟨n,l,W.cP Z,I⟩
theorem jE.cO(h:jE w S v z)(Z:∀g,S g->S' g):jE w S' v z:=by
 obtain⟨n,l,W,I⟩:=h;exact⟨n,l,W.cO Z,I⟩
theorem dG.cP(h:dG w S v z)(Z:∀g,S g->F.heap[g]? =w.heap[g]?):dG F S v z:=by
 obtain⟨l,W,I⟩:=h;exact⟨l,W.cP Z,I⟩
theorem dG.cO(h:dG w S v z)(Z:∀g,S g->S' g):dG w S' v z:=by
 obtain⟨l,W,I⟩:=h;exact⟨l,W.cO Z,I⟩
theorem jE.rel(h:jE w (Cv S B iv) v z)(r:Rel H nx iv B w O J)(L:∀g,S g->g<B):jE J (Cv S B iv) v z:=h.cP fun _ V=>rls r L V
theorem dG.rel(h:dG w (Cv S B iv) v z)(r:Rel H nx iv B w O J)(L:∀g,S g->g<B):dG J (Cv S B iv) v z:=h.cP fun _ V=>rls r L V
theorem jE.cL(h:jE w (Cv S B iv) v z)(r:Rel H nx iv B w O J)(L:∀g,S g->g<B)(G:Ext J F)(hm:∀p,p∈iv->p∈K):jE F (Cv S B K) v z:=
 ((h.rel r L).cP fun g V=>G.block g (rlo r L g V)).cO fun _ V=>V.mono hm
theorem dG.cL(h:dG w (Cv S B iv) v z)(r:Rel H nx iv B w O J)(L:∀g,S g->g<B)(G:Ext J F)(hm:∀p,p∈iv->p∈K):dG F (Cv S B K) v z:=
 ((h.rel r L).cP fun g V=>G.block g (rlo r L g V)).cO fun _ V=>V.mono hm
theorem dG.eX(h:dG F (Nf J F) v z)(hB:B<=J.heap.size)(hm:(J.heap.size,F.heap.size)∈iv):dG F (Cv S B iv) v z:=h.cO fun _ V=>V.eX hB hm
theorem jE.shape(h:jE w S v z):∃b a n c,v= .agg #[.bool b,.slice a n c]:=by
 obtain⟨b,l,⟨lv,W,I⟩,_⟩:=h;obtain⟨a,n,c,rfl⟩:=I.shape;exact⟨b,a,n,c,W⟩
theorem dw.old(h:dw F (Nw (Cv S B iv) J F) v z)(hB:B<=J.heap.size):dw F (Cv S B ((J.heap.size,F.heap.size)::iv)) v z:=h.cO fun _ V=>Nw.cv V hB
end
theorem dG.out(h:dG w1 (Cv S w.heap.size iv) v z)(r:Rel H nx iv w.heap.size w1 O J)(L:Old S w):dG J (Nw S w J) v z:=
 (h.rel r L).cO fun _ V=>Cv.nw V r
theorem Cu(L:Old S w)(h:jE w S v z):eD PG Fd.xk #[v] w (eL w fun v' F=>dw F (Nw S w F) v' z):=by
 obtain⟨n,l,W,rfl⟩:=h;exact NJ L W
theorem Fb(n:Int)(w:World)(W: -9223372036854775808<=n)(I:n<=9223372036854775807):
  eD PG Fd.Ck #[iV n] w (eL w fun v' F=>dG F (Nf w F) v' n):=by
 have Rn:ln n.natAbs<=2:=gF.2 (by show n.natAbs<4294967296^2;omega);refine Cn ce ?_;conv=>whnf
 refine cM (cN (I9:=fun _ J v F=>dw F (Nf J F) v n) (fun O J r=>kH n J W I) ?_);rintro O w1 v1 F r G Y U;have hN:=U.eX (S:=FF) r.cR (iv:=[(w1.heap.size,F.heap.size)]) aF;clear r G U;generalize [(w1.heap.size,F.heap.size)]=iv at*
 have Wi:=hN;obtain⟨a1,l1,c1,rfl,-⟩:=hN.num;conv=>whnf
 refine cM (cN (I9:=fun _ J v F=>dG F (Nf J F) v n) (fun O J r=>yQ (rlo r oF) (Wi.rel r oF) be) ?_);rintro O w3 v3 w4 r G Pj hc;replace Y:=Y.tr Pj;have hC:=hc.eX (S:=FF) r.cR (iv:=(w3.heap.size,w4.heap.size)::iv) aF;clear r G hc Pj hN Wi;generalize (w3.heap.size,w4.heap.size)::iv=iv2 at*
 have WO:=hC;obtain⟨b5,a5,l5,c5,rfl⟩:=hC.r.shape;conv=>whnf
 intro In w5 r5;exact⟨_,rfl,Y.tr r5.cV,WO.out r5 oF⟩
theorem dw.shape(h:dw w S v z):∃b a n c,v= .agg #[.bool b,.slice a n c]:=by
 obtain⟨a,n,c,W,_⟩:=h.num;exact⟨_,a,n,c,W⟩
theorem dG.shape(h:dG w S v z):∃b a n c,v= .agg #[.bool b,.slice a n c]:=h.r.shape
theorem cz(x y:Int):ln (x*y).natAbs<=ln x.natAbs+ln y.natAbs:=by
 rw[Int.natAbs_mul];exact Ku _ _
theorem Cw(L:Old S w)(E:jE w S v x)(hy:jE w S u y)(QI:ln x.natAbs<=10000000000)(RM:ln y.natAbs<=10000000000):
  eD PG Fd.oN #[v,u] w (eL w fun v' F=>(y=0/\v'= .tuple #[.agg #[.bool false,nls],.agg #[.bool false,nls],iV 9])\/
   (y≠0/\∃q r,v'= .tuple #[q,r,iV 0]/\dG F (Nf w F) q (x / y)/\dG F (Nf w F) r (x % y))):=by
 have hlq:=e9 (show (x / y).natAbs<=x.natAbs from Int.natAbs_ediv_le_natAbs x y);have Y:=bR w;replace E:=E.cO (S':=Cv S w.heap.size []) fun _ h=>.inl h;replace hy:=hy.cO (S':=Cv S w.heap.size []) fun _ h=>.inl h;obtain⟨bx,ax,lx,cx,rfl⟩:=E.shape;obtain⟨b2,ay,ly,cy,rfl⟩:=hy.shape;refine vt ce ?_;conv=>whnf
 refine cM (cN (I9:=fun _ J v F=>dw F (Nw (Cv S w.heap.size []) J F) v y) (fun O J r=>Cu (rlo r L) (hy.rel r L)) ?_);rintro O On v1 Oi r G N U;replace Y:=Y.tr N;replace E:=E.cL (K:=(On.heap.size,Oi.heap.size)::[]) r L G fun x E=>aD _ E;clear hy;have hY:=U.old r.cR;clear r G N U;generalize (On.heap.size,Oi.heap.size)::[]=OS at*
 obtain⟨A0,A1,A2,A3,rfl⟩:=hY.shape;conv=>whnf
 refine cM (cE Y (pE (iV y.sign)) (fun O J r=>uU (hY.rel r L)) ?_);rintro O _ _ _ iv2 r G Y A rfl;replace E:=E.cL r L G (mC A);replace hY:=hY.cL r L G (mC A);clear r G;conv=>whnf
 apply bS<;>intro h
 .have h:y=0:=bX.1 (eq_of_beq h);conv=>whnf
  exact rtn Y fun I8 we re=>.inl ⟨h,rfl⟩
 .have h:y≠0:=fun e=>by rw[e]at h;exact absurd h bv
  have Wh:=e9 (show (x % y).natAbs<=y.natAbs by have:=Int.emod_nonneg x h;have:=Int.emod_lt x h;omega);conv=>whnf
  refine dP [.x 0,.x 2,.p 7,.p 8,.x 1,.x 3,.x 4,.x 5,.x 6,.x 7,.x 8,.x 9,.x 10] ?_;conv=>whnf
  refine cN (I9:=fun _ J v F=>dw F (Nw (Cv S w.heap.size iv2) J F) v x) (fun O J r=>Cu (rlo r L) (E.rel r L)) ?_;rintro O PT v3 PX r G N U;replace Y:=Y.tr N;clear E;replace hY:=hY.cL (K:=(PT.heap.size,PX.heap.size)::iv2) r L G fun x E=>aD _ E;have hX:=U.old r.cR;clear r G N U;generalize (PT.heap.size,PX.heap.size)::iv2=OR at*
  obtain⟨C0,C1,C2,C3,rfl⟩:=hX.shape;conv=>whnf
  refine cN (I9:=fun _ J v F=>∃q r,v= .tuple #[q,r]/\dw F (Nf J F) q (x / y)/\dw F (Nw (Cv S w.heap.size OR) J F) r (x % y)) (fun O J r=>Ct (rlo r L) (hX.rel r L) (hY.rel r L) h be be) ?_;rintro O QX v4 QA r G N ⟨qv,rv,rfl,RF,Ps⟩;replace Y:=Y.tr N;clear hY;clear hX;have hQ:=RF.eX (S:=FF) r.cR (iv:=(QX.heap.size,QA.heap.size)::OR) aF;have hR:=Ps.old r.cR;clear r G N;generalize (QX.heap.size,QA.heap.size)::OR=Ob at*
  obtain⟨s4_0a,s4_0b,s4_0c,s4_0d,rfl⟩:=hQ.shape;obtain⟨s4_1a,s4_1b,s4_1c,s4_1d,rfl⟩:=hR.shape;conv=>whnf
  refine dP [.x 0,.x 2,.x 1,.x 3,.x 4,.x 5,.x 6] ?_;conv=>whnf
  refine cE Y (pR dG (x / y)) (fun O J r=>yQ (rlo r oF) (hQ.rel r oF) be) ?_;rintro O _ _ _ Of r G Y A U;clear hQ;replace hR:=hR.cL r L G (mC A);have hC:=U.cO (nw r A);clear r G U;obtain⟨E0,E1,E2,E3,rfl⟩:=hC.shape;conv=>whnf
  refine cE Y (pR dG (x % y)) (fun O J r=>yQ (rlo r L) (hR.rel r L) be) ?_;rintro O _ _ _ PL r G Y A U;clear hR;replace hC:=hC.cL r oF G (mC A);have hD:=U.cO (nw r A);clear r G U;obtain⟨F0,F1,F2,F3,rfl⟩:=hD.shape;conv=>whnf
  exact rtn Y fun I8 we re=>.inr ⟨h,_,_,rfl,hC.out re oF,hD.out re oF⟩
end Go.Ex
namespace Go.Ex
open Go Go.Sx
theorem xV{x y:Int}(hy:0<y)(E:x≠0):
  (Rat.divInt x y).num.natAbs=x.natAbs / Nat.gcd x.natAbs y.natAbs/\(Rat.divInt x y).den=y.natAbs / Nat.gcd x.natAbs y.natAbs/\decide ((Rat.divInt x y).num<0)=decide (x<0):=by
 have V:0<Nat.gcd x.natAbs y.natAbs:=cF _ be;have hs:y.sign=1:=cD hy;have hc:(y.gcd x:Int)=(Nat.gcd x.natAbs y.natAbs:Nat):=by rw[Int.gcd_comm];rfl
 have hdx:((Nat.gcd x.natAbs y.natAbs:Nat):Int) ∣ x:=by
  rw[<-Int.natAbs_dvd_natAbs];exact Nat.gcd_dvd_left _ _
 have W:(Rat.divInt x y).num=x / ((Nat.gcd x.natAbs y.natAbs:Nat):Int):=by
  rw[Rat.num_divInt,hs,Int.one_mul,hc]
 have hgi:0<((Nat.gcd x.natAbs y.natAbs:Nat):Int):=by omega
 refine⟨?_,?_,?_⟩
 .rw[W,Int.natAbs_ediv_of_dvd hdx];rfl
 .rw[Rat.den_divInt,aK be];have:y.gcd x=Nat.gcd x.natAbs y.natAbs:=by rw[Int.gcd_comm];rfl
  rw[this]
 .rw[W];obtain⟨k,Z⟩:=hdx;refine decide_eq_decide.2 ?_;have:x / ((Nat.gcd x.natAbs y.natAbs:Nat):Int)=k:=by
   conv=>lhs;lhs;rw[Z]
   exact Int.mul_ediv_cancel_left _ be
  rw[this];generalize ((Nat.gcd x.natAbs y.natAbs:Nat):Int)=g at*
  subst Z;constructor
  .intro h;exact Int.mul_neg_of_pos_of_neg hgi h
  .intro h;have h0:¬0<=k:=fun hh=>by have:=Int.mul_nonneg (show 0<=g by omega) hh;omega
   omega
theorem GU{a b:Nat}:ln (a / b)<=ln a:=e9 (Nat.div_le_self a b)
theorem xW(y:Int):Rat.divInt 0 y=0:=Rat.zero_divInt y
end Go.Ex
namespace Go.Ex
open Go Go.Sx Go.Proofs
variable{b b2:Bool}{S:Nat->Prop}{q:Rat}{dv nv v:Value}{w:World}
theorem dQ.old{B:Nat}{iv:Iv}{J F:World}{n:Nat}(h:dQ F (Nw (Cv S B iv) J F) v n)(hB:B<=J.heap.size):dQ F (Cv S B ((J.heap.size,F.heap.size)::iv)) v n:=h.cO fun _ V=>Nw.cv V hB
def cY(w:World)(S:Nat->Prop)(v:Value)(q:Rat):Prop:=∃nv dv,v= .agg #[.bool (decide (q.num<0)),nv,.bool false,dv]/\dQ w S nv q.num.natAbs/\dQ w S dv q.den
theorem cY.cP{F:World}(h:cY w S v q)(Z:∀g,S g->F.heap[g]? =w.heap[g]?):cY F S v q:=by
 obtain⟨n,d,W,I,h3⟩:=h;exact⟨n,d,W,I.cP Z,h3.cP Z⟩
theorem cY.cO{S':Nat->Prop}(h:cY w S v q)(Z:∀g,S g->S' g):cY w S' v q:=by
 obtain⟨n,d,W,I,h3⟩:=h;exact⟨n,d,W,I.cO Z,h3.cO Z⟩
theorem cY.shape(h:cY w S v q):∃b a n c b2 a2 n2 c2,v= .agg #[.bool b,.slice a n c,.bool b2,.slice a2 n2 c2]:=by
 obtain⟨n,d,W,I,h3⟩:=h;obtain⟨a,n,c,rfl⟩:=I.shape;obtain⟨a2,n2,c2,rfl⟩:=h3.shape;exact⟨_,a,n,c,_,a2,n2,c2,W⟩
theorem cY.num(h:cY w S (.agg #[.bool b,nv,.bool b2,dv]) q):dw w S (.agg #[.bool b,nv]) q.num:=by
 obtain⟨n,d,W,I,h3⟩:=h;simp at W;obtain⟨rfl,rfl,rfl,rfl⟩:=W;exact⟨_,rfl,I⟩
theorem cY.den(h:cY w S (.agg #[.bool b,nv,.bool b2,dv]) q):dw w S (.agg #[.bool b2,dv]) (q.den:Int):=by
 obtain⟨n,d,W,I,h3⟩:=h;simp at W;obtain⟨rfl,rfl,rfl,rfl⟩:=W;exact⟨_,by rw[av be],h3⟩
theorem cY.of(h:dw w S (.agg #[.bool b,nv]) q.num)(k:dw w S (.agg #[.bool b2,dv]) (q.den:Int)):cY w S (.agg #[.bool b,nv,.bool b2,dv]) q:=by
 obtain⟨n,W,I⟩:=h;obtain⟨d,h3,h4⟩:=k;simp at W h3;obtain⟨rfl,rfl⟩:=W;obtain⟨rfl,rfl⟩:=h3;refine⟨_,_,?_,I,h4⟩;rw[av (show ¬((q.den:Int)<0) by omega)]
section
variable{S S':Nat->Prop}{H:Hp}{nx:Nat}{iv K:Iv}{B:Nat}{w J F:World}{O:Nat->Sx.dc}{v:Value}{q:Rat}
theorem cY.rel(h:cY w (Cv S B iv) v q)(r:Rel H nx iv B w O J)(L:∀g,S g->g<B):cY J (Cv S B iv) v q:=h.cP fun _ V=>rls r L V
theorem cY.cL(h:cY w (Cv S B iv) v q)(r:Rel H nx iv B w O J)(L:∀g,S g->g<B)(G:Ext J F)(hm:∀p,p∈iv->p∈K):cY F (Cv S B K) v q:=
 ((h.rel r L).cP fun g V=>G.block g (rlo r L g V)).cO fun _ V=>V.mono hm
theorem cY.eX(h:cY F (Nf J F) v q)(hB:B<=J.heap.size)(hm:(J.heap.size,F.heap.size)∈iv):cY F (Cv S B iv) v q:=h.cO fun _ V=>V.eX hB hm
theorem cY.old(h:cY F (Nw (Cv S B iv) J F) v q)(hB:B<=J.heap.size):cY F (Cv S B ((J.heap.size,F.heap.size)::iv)) v q:=h.cO fun _ V=>Nw.cv V hB
theorem cY.out{w0 w1:World}(h:cY w1 (Cv S w0.heap.size iv) v q)(r:Rel H nx iv w0.heap.size w1 O J)(L:Old S w0):cY J (Nw S w0 J) v q:=
 (h.rel r L).cO fun _ V=>Cv.nw V r
theorem cY.arg(h:cY w S v q)(iv:Iv):cY w (Cv S w.heap.size iv) v q:=h.cO fun _ h=>.inl h
end
theorem dw.nat{z:Int}(h:dw w S (.agg #[.bool b,nv]) z):b=decide (z<0)/\dQ w S nv z.natAbs:=by
 obtain⟨n,W,I⟩:=h;simp at W;obtain⟨rfl,rfl⟩:=W;exact⟨rfl,I⟩
theorem uV{u:Value}{x y:Int}(L:Old S w)(E:dw w S v x)(hy:dw w S u y)(QH:y≠0)(QI:ln x.natAbs<=100000000000)(RM:ln y.natAbs<=100000000000):
  eD PG Fd.xl #[v,u] w (eL w fun v' F=>cY F (Nf w F) v' (Rat.divInt x y)):=by
 have Y:=bR w;replace E:=E.cO (S':=Cv S w.heap.size []) fun _ h=>.inl h;replace hy:=hy.cO (S':=Cv S w.heap.size []) fun _ h=>.inl h;obtain⟨bx,ax,lx,cx,rfl⟩:=E.shape;obtain⟨b2,ay,ly,cy,rfl⟩:=hy.shape;have PD:=hy.nat.1;refine zL ce ?_
 cases b2
 .have hyp:0<y:=by have:=aL PD.symm;omega
  have hq:Rat.divInt x y=Rat.divInt x y:=rfl;have Uz:=E.nat.1;refine cM (cE Y (pE (iV (x).sign)) (fun O J r=>uU (E.rel r L)) ?_);rintro O On v1 Oi OS r G Y A rfl;replace E:=E.cL r L G (mC A);replace hy:=hy.cL r L G (mC A);apply bS<;>intro h
  .have h:x=0:=bX.1 (eq_of_beq h);refine cM (cE Y (pR dw 1) (fun O J r=>kH 1 J bv bv) ?_);rintro O Pc v2 PK iv2 r G Y A U;have hO:=U.cO (nw r A);obtain⟨A0,A1,A2,A3,rfl⟩:=hO.shape;have e0:Rat.divInt x y=0:=by rw[hq,h,xW]
   exact rtn Y fun I8 we re=>by rw[e0];exact cY.of ⟨_,rfl,dQ.nil _ _⟩ (hO.out re oF)
  .have h:x≠0:=fun e=>by rw[e]at h;exact absurd h bv
   obtain⟨g1,g2,g3⟩:=xV hyp h;have Si:0<Nat.gcd (x).natAbs (y).natAbs:=cF _ be;have Wl:=E.nat.2;have TZ:=hy.nat.2;refine cM (cN (I9:=fun _ J v F=>dQ F (Nw (Cv S w.heap.size OS) J F) v (Nat.gcd (x).natAbs (y).natAbs)) (fun O J r=>Cs (rlo r L) (Wl.rel r L) (TZ.rel r L) be be) ?_);rintro O Pc v2 PK r G N U;replace Y:=Y.tr N;replace Wl:=Wl.cL (K:=(Pc.heap.size,PK.heap.size)::OS) r L G fun x E=>aD _ E;replace TZ:=TZ.cL (K:=(Pc.heap.size,PK.heap.size)::OS) r L G fun x E=>aD _ E;have hG:=U.old r.cR;generalize (Pc.heap.size,PK.heap.size)::OS=iv2 at*
   obtain⟨A0,A1,A2,rfl⟩:=hG.shape;refine cM (cN (I9:=fun _ J v F=>∃q r,v= .tuple #[q,r]/\dQ F (Nf J F) q ((x).natAbs / Nat.gcd (x).natAbs (y).natAbs)/\dQ F (Nw (Cv S w.heap.size iv2) J F) r ((x).natAbs % Nat.gcd (x).natAbs (y).natAbs)) (fun O J r=>mF (rlo r L) (Wl.rel r L) (hG.rel r L) Si be) ?_);rintro O PT v3 PX r G N ⟨qvp,rvp,rfl,RF,Ps⟩;replace Y:=Y.tr N;replace TZ:=TZ.cL (K:=(PT.heap.size,PX.heap.size)::iv2) r L G fun x E=>aD _ E;replace hG:=hG.cL (K:=(PT.heap.size,PX.heap.size)::iv2) r L G fun x E=>aD _ E;have hP:=RF.eX (S:=FF) r.cR (iv:=(PT.heap.size,PX.heap.size)::iv2) aF;have hPr:=Ps.old r.cR;generalize (PT.heap.size,PX.heap.size)::iv2=OR at*
   obtain⟨s3_0a,s3_0b,s3_0c,rfl⟩:=hP.shape;obtain⟨s3_1a,s3_1b,s3_1c,rfl⟩:=hPr.shape;refine cM (cN (I9:=fun _ J v F=>∃q r,v= .tuple #[q,r]/\dQ F (Nf J F) q ((y).natAbs / Nat.gcd (x).natAbs (y).natAbs)/\dQ F (Nw (Cv S w.heap.size OR) J F) r ((y).natAbs % Nat.gcd (x).natAbs (y).natAbs)) (fun O J r=>mF (rlo r L) (TZ.rel r L) (hG.rel r L) Si be) ?_);rintro O QX v4 QA r G N ⟨qvq,rvq,rfl,RF,Ps⟩;replace Y:=Y.tr N;replace hP:=hP.cL (K:=(QX.heap.size,QA.heap.size)::OR) r oF G fun x E=>aD _ E;have hQ:=RF.eX (S:=FF) r.cR (iv:=(QX.heap.size,QA.heap.size)::OR) aF;have hQr:=Ps.old r.cR;generalize (QX.heap.size,QA.heap.size)::OR=Ob at*
   obtain⟨s4_0a,s4_0b,s4_0c,rfl⟩:=hQ.shape;obtain⟨s4_1a,s4_1b,s4_1c,rfl⟩:=hQr.shape;exact rtn Y fun I8 we re=>by rw[hq];exact cY.of ⟨_,by rw[g3,<-Uz],by rw[g1];exact hP.out re oF⟩ ⟨_,by rw[av be],by rw[g2];exact hQ.out re oF⟩
 .have hyp:0< -y:=by have:=aI PD.symm;omega
  have hq:Rat.divInt x y=Rat.divInt (-x) (-y):=(Rat.neg_divInt_neg _ _).symm;have nx:=cJ x;have ny:=cJ y;have hlx2:ln (-x).natAbs<=100000000000:=by rw[nx];exact QI
  have hly2:ln (-y).natAbs<=100000000000:=by rw[ny];exact RM
  refine dP [.x 0,.x 2,.x 1,.x 3,.x 4,.x 5] ?_;refine cN (I9:=fun _ J v F=>dw F (Nw (Cv S w.heap.size []) J F) v (-x)) (fun O J r=>oe (rlo r L) (E.rel r L)) ?_;rintro O On v1 Oi r G N U;replace Y:=Y.tr N;replace hy:=hy.cL (K:=(On.heap.size,Oi.heap.size)::[]) r L G fun x E=>aD _ E;have hA:=U.old r.cR;generalize (On.heap.size,Oi.heap.size)::[]=OS at*
  obtain⟨C0,C1,C2,C3,rfl⟩:=hA.shape;refine cN (I9:=fun _ J v F=>dw F (Nw (Cv S w.heap.size OS) J F) v (-y)) (fun O J r=>oe (rlo r L) (hy.rel r L)) ?_;rintro O Pc v2 PK r G N U;replace Y:=Y.tr N;replace hA:=hA.cL (K:=(Pc.heap.size,PK.heap.size)::OS) r L G fun x E=>aD _ E;have hB:=U.old r.cR;generalize (Pc.heap.size,PK.heap.size)::OS=iv2 at*
  obtain⟨A0,A1,A2,A3,rfl⟩:=hB.shape;have Uz:=hA.nat.1;refine cM (cE Y (pE (iV (-x).sign)) (fun O J r=>uU (hA.rel r L)) ?_);rintro O _ _ _ OR r G Y A rfl;replace hA:=hA.cL r L G (mC A);replace hB:=hB.cL r L G (mC A);apply bS<;>intro h
  .have h: -x=0:=bX.1 (eq_of_beq h);refine cM (cE Y (pR dw 1) (fun O J r=>kH 1 J bv bv) ?_);rintro O QX v4 QA Ob r G Y A U;have hO:=U.cO (nw r A);obtain⟨E0,E1,E2,E3,rfl⟩:=hO.shape;have e0:Rat.divInt x y=0:=by rw[hq,h,xW]
   exact rtn Y fun I8 we re=>by rw[e0];exact cY.of ⟨_,rfl,dQ.nil _ _⟩ (hO.out re oF)
  .have h: -x≠0:=fun e=>by rw[e]at h;exact absurd h bv
   obtain⟨g1,g2,g3⟩:=xV hyp h;have Si:0<Nat.gcd (-x).natAbs (-y).natAbs:=cF _ be;have Wl:=hA.nat.2;have TZ:=hB.nat.2;refine cM (cN (I9:=fun _ J v F=>dQ F (Nw (Cv S w.heap.size OR) J F) v (Nat.gcd (-x).natAbs (-y).natAbs)) (fun O J r=>Cs (rlo r L) (Wl.rel r L) (TZ.rel r L) be be) ?_);rintro O QX v4 QA r G N U;replace Y:=Y.tr N;replace Wl:=Wl.cL (K:=(QX.heap.size,QA.heap.size)::OR) r L G fun x E=>aD _ E;replace TZ:=TZ.cL (K:=(QX.heap.size,QA.heap.size)::OR) r L G fun x E=>aD _ E;have hG:=U.old r.cR;generalize (QX.heap.size,QA.heap.size)::OR=Ob at*
   obtain⟨E0,E1,E2,rfl⟩:=hG.shape;refine cM (cN (I9:=fun _ J v F=>∃q r,v= .tuple #[q,r]/\dQ F (Nf J F) q ((-x).natAbs / Nat.gcd (-x).natAbs (-y).natAbs)/\dQ F (Nw (Cv S w.heap.size Ob) J F) r ((-x).natAbs % Nat.gcd (-x).natAbs (-y).natAbs)) (fun O J r=>mF (rlo r L) (Wl.rel r L) (hG.rel r L) Si be) ?_);rintro O UL v5 UM r G N ⟨qvp,rvp,rfl,RF,Ps⟩;replace Y:=Y.tr N;replace TZ:=TZ.cL (K:=(UL.heap.size,UM.heap.size)::Ob) r L G fun x E=>aD _ E;replace hG:=hG.cL (K:=(UL.heap.size,UM.heap.size)::Ob) r L G fun x E=>aD _ E;have hP:=RF.eX (S:=FF) r.cR (iv:=(UL.heap.size,UM.heap.size)::Ob) aF;have hPr:=Ps.old r.cR;generalize (UL.heap.size,UM.heap.size)::Ob=Of at*
   obtain⟨s5_0a,s5_0b,s5_0c,rfl⟩:=hP.shape;obtain⟨s5_1a,s5_1b,s5_1c,rfl⟩:=hPr.shape;refine cM (cN (I9:=fun _ J v F=>∃q r,v= .tuple #[q,r]/\dQ F (Nf J F) q ((-y).natAbs / Nat.gcd (-x).natAbs (-y).natAbs)/\dQ F (Nw (Cv S w.heap.size Of) J F) r ((-y).natAbs % Nat.gcd (-x).natAbs (-y).natAbs)) (fun O J r=>mF (rlo r L) (TZ.rel r L) (hG.rel r L) Si be) ?_);rintro O SD v6 SE r G N ⟨qvq,rvq,rfl,RF,Ps⟩;replace Y:=Y.tr N;replace hP:=hP.cL (K:=(SD.heap.size,SE.heap.size)::Of) r oF G fun x E=>aD _ E;have hQ:=RF.eX (S:=FF) r.cR (iv:=(SD.heap.size,SE.heap.size)::Of) aF;have hQr:=Ps.old r.cR;generalize (SD.heap.size,SE.heap.size)::Of=PL at*
   obtain⟨s6_0a,s6_0b,s6_0c,rfl⟩:=hQ.shape;obtain⟨s6_1a,s6_1b,s6_1c,rfl⟩:=hQr.shape;exact rtn Y fun I8 we re=>by rw[hq];exact cY.of ⟨_,by rw[g3,<-Uz],by rw[g1];exact hP.out re oF⟩ ⟨_,by rw[av be],by rw[g2];exact hQ.out re oF⟩
end Go.Ex
namespace Go.Ex
open Go Go.Sx
variable{a b:Int}
def rl(q:Rat):Nat:=max (ln q.num.natAbs) (ln q.den)
theorem fj(q:Rat):ln q.num.natAbs<=rl q:=Nat.le_max_left _ _
theorem Kz(q:Rat):ln q.den<=rl q:=Nat.le_max_right _ _
theorem fC(q:Rat):ln ((q.den:Int)).natAbs<=rl q:=Nat.le_max_right _ _
theorem ju(N:b≠0):rl (Rat.divInt a b)<=max (ln a.natAbs) (ln b.natAbs):=by
 have W:ln (Rat.divInt a b).num.natAbs<=ln a.natAbs:=by
  rw[Rat.num_divInt];refine e9 (aP (Int.natAbs_ediv_le_natAbs _ _) ?_);rw[Int.natAbs_mul,Int.natAbs_sign_of_ne_zero N,Nat.one_mul];exact ae _
 have I:ln (Rat.divInt a b).den<=ln b.natAbs:=by
  rw[Rat.den_divInt,aK N];exact GU
 unfold rl;omega
theorem iU(x y:Int):ln (x+y).natAbs<=max (ln x.natAbs) (ln y.natAbs)+1:=by
 have W:=Dl x.natAbs y.natAbs;have I:=e9 (show (x+y).natAbs<=x.natAbs+y.natAbs by omega);omega
theorem gC(q:Rat):(q.den:Int)≠0:=by have:=q.den_pos;omega
theorem ss(f g:Rat):f+g=Rat.divInt (f.num*g.den+g.num*f.den) (f.den*g.den):=by
 rw[<-Rat.divInt_add_divInt _ _ (gC f) (gC g),Rat.num_divInt_den,Rat.num_divInt_den]
theorem wU(f g:Rat):f*g=Rat.divInt (f.num*g.num) (f.den*g.den):=by
 rw[<-Rat.divInt_mul_divInt,Rat.num_divInt_den,Rat.num_divInt_den]
theorem FE(f g:Rat):f / g=Rat.divInt (f.num*g.den) (f.den*g.num):=by
 rw[<-Rat.divInt_mul_divInt,Rat.num_divInt_den,<-Rat.inv_def,<-bK]
theorem kc(ha:a≠0)(N:b≠0):a*b≠0:=Int.mul_ne_zero ha N
theorem Aq(f g:Rat):rl (f+g)<=rl f+rl g+1:=by
 have h:=ju (a:=f.num*g.den+g.num*f.den) (kc (gC f) (gC g));rw[<-ss]at h;have W:=iU (f.num*g.den) (g.num*f.den);have I:=cz f.num g.den;have h3:=cz g.num f.den;have h4:=cz f.den g.den;have:=fj f;have:=fj g;have:=fC f;have:=fC g;omega
theorem jv(f g:Rat):rl (f*g)<=rl f+rl g:=by
 have h:=ju (a:=f.num*g.num) (kc (gC f) (gC g));rw[<-wU]at h;have I:=cz f.num g.num;have h4:=cz f.den g.den;have:=fj f;have:=fj g;have:=fC f;have:=fC g;omega
theorem Dn(f:Rat){g:Rat}(V:g≠0):rl (f / g)<=rl f+rl g:=by
 have h:=ju (a:=f.num*g.den) (kc (gC f) (fun e=>V (Rat.num_eq_zero.1 e)));rw[<-FE]at h;have I:=cz f.num g.den;have h4:=cz f.den g.num;have:=fj f;have:=fj g;have:=fC f;have:=fC g;omega
theorem jM(f:Rat):rl (-f)=rl f:=by unfold rl;rw[Rat.neg_num,Rat.neg_den,cJ]
def rs(q:Rat):Int:=q.num.sign
theorem sw(N:0<b):(Rat.divInt a b).num.sign=a.sign:=by
 by_cases ha:a=0
 .subst ha;rw[xW];rfl
 .obtain⟨W,-,h3⟩:=xV N ha;have h3:=decide_eq_decide.1 h3;have h0:(Rat.divInt a b).num≠0:=fun e=>by
   have h4:=Nat.div_pos (Nat.le_of_dvd be (Nat.gcd_dvd_left a.natAbs b.natAbs)) (cF a.natAbs (n:=b.natAbs) be);omega
  rcases Int.lt_or_gt_of_ne ha with h|h
  .rw[bm h,bm (h3.2 h)]
  .rw[cD h,cD be]
theorem Jf(f g:Rat):(f.num*g.den-g.num*f.den).sign=rs (f-g):=by
 rw[rs,Rat.sub_eq_add_neg,ss,sw (Int.mul_pos (by have:=f.den_pos;omega) (by rw[Rat.neg_den];have:=g.den_pos;omega)),Rat.neg_num,Rat.neg_den,Int.neg_mul,<-Int.sub_eq_add_neg]
def ratio(a b:Int):Rat:=if b=0 then Rat.divInt a 1 else Rat.divInt a b
theorem CT(a b:Int):rl (ratio a b)<=max (ln a.natAbs) (max 1 (ln b.natAbs)):=by
 unfold ratio;split
 .have:=ju (a:=a) (b:=1) bv;have W:ln (1:Int).natAbs=1:=by decide
  rw[W]at this;omega
 .rename_i h;have:=ju (a:=a) h;omega
end Go.Ex
