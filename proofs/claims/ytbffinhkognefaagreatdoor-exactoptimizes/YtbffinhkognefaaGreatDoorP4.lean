/- Texts X11 to L5: lemmas, each with its conditions. -/
import Derived.Test.YtbffinhkognefaaGreatDoorP3
set_option linter.defProp false
namespace Go.Sx
open Go Go.Ex Go.Proofs
section
variable{O:Nat->Sx.eD}
def Rel.cY{H:Hp}{nx:Nat}{iv:Iv}{B:Nat}{w J:World}(r:Rel H nx iv B w O J):B<=J.heap.size:=by have:=r.base;have:=r.size;omega
end
variable{ls:List Nat}{O:Nat->Sx.eD}
def Rel.pB{H:Hp}{nx:Nat}{iv:Iv}{B:Nat}{w J:World}(r:Rel H nx iv B w O J){id t:Nat}(h:dT H id=some (.box t ((F8 ls).map At.v)))(Qi:Lm ls)(hle:ls.length<=9223372036854775807):
  dW J (λg=>g=(O id).g) (.slice (some ⟨(O id).g,0,none⟩) ls.length ls.length) ls:=by
 refine⟨Qi,hle,_,_,rfl,lr,λj x Z=>⟨_,rfl,rfl,?_⟩⟩;have h0:(⟨(O id).g,0,none⟩:Addr).add j=⟨(O id).g,j,none⟩:=by
  cases j with
  |zero=>rfl
  |succ j=>simp[Addr.add]
 rw[h0,cell_of (r.box id t _ h),fm];exact tq Z
end Go.Sx
namespace Go.Ex
open Go Go.Sx Go.Proofs
variable{ds r2:List Nat}{g k:Nat}{row:Option Nat}
section
variable{S:Nat->Prop}{H:Hp}{nx:Nat}{iv A:Iv}{B:Nat}{w J F:World}{O:Nat->Sx.eD}{v:Value}{n:Nat}{ls:List Nat}
def Nw.ef(h:Nf J F g)(hB:B<=J.heap.size)(hm:(J.heap.size,F.heap.size)∈iv):Cv S B iv g:=by
 rcases h with h|h
 .cases h
 .exact .inr ⟨be,_,_,hm,h.1,h.2⟩
def nw{H:Hp}{nx B:Nat}{iv A:Iv}{w J F:World}{O:Nat->Sx.eD}(r:Rel H nx iv B w O J)(e:A=(J.heap.size,F.heap.size)::iv):∀g,Nf J F g->Cv (λ_=>False) B A g:=λ_ V=>V.ef r.cY (mN e)
def de.ef(h:de F (Nf J F) v n)(hB:B<=J.heap.size)(hm:(J.heap.size,F.heap.size)∈iv):de F (Cv S B iv) v n:=h.cU λ_ V=>V.ef hB hm
def dW.ef(h:dW F (Nf J F) v ls)(hB:B<=J.heap.size)(hm:(J.heap.size,F.heap.size)∈iv):dW F (Cv S B iv) v ls:=h.cU λ_ V=>V.ef hB hm
def de.rel(h:de w (Cv S B iv) v n)(r:Rel H nx iv B w O J)(G:∀g,S g->g<B):de J (Cv S B iv) v n:=h.cW λ_ V=>rls r G V
def de.cV(h:de w (Cv S B iv) v n)(r:Rel H nx iv B w O J)(G:∀g,S g->g<B)(L:Ext J F)(hm:∀p,p∈iv->p∈A):de F (Cv S B A) v n:=
 ((h.rel r G).cW λg V=>L.block g (rlo r G g V)).cU λ_ V=>V.mono hm
def dW.nat(h:dW w S v ls)(hz:Nz ls):de w S v (val ls):=⟨ls,h,hz,rfl⟩
def dW.trimmed(h:dW w S v (eK ls)):de w S v (val ls):=⟨_,h,(fH ls).2.1,(fH ls).1⟩
end
def Iy{w:World}{m c:Nat}{rs:List Nat}(V:w.heap[g]? =some (.cells (F8 rs).toArray T.uint32 (0,0)))(Qi:Lm rs)(h:k+m<=rs.length)(hc:m<=c)(hl:rs.length<=1000000000000):
  dW w (λx=>x=g) (.slice (some ⟨g,k,none⟩) m c) ((rs.drop k).take m):=by
 have hlen:((rs.drop k).take m).length=m:=by simp;omega
 refine⟨(Qi.drop k).take m,be,some ⟨g,k,none⟩,c,by rw[hlen],be,λj x Z=>⟨_,rfl,rfl,?_⟩⟩;have hj:j<m:=by have:=(aH.1 Z).1;omega
 rw[List.getElem?_take_of_lt hj,cD]at Z;rw[dD,cell_of V];exact tq Z
def EJ{c:Nat}(h:k<c):(if (c:Int)=(k:Int)then some (⟨g,0,none⟩:Addr)else(some (⟨g,0,none⟩:Addr)).map λx=>x.add ((k:Int).toNat*1))=some ⟨g,k,none⟩:=by
 rw[aJ be,bN,aI,ah,dD,aV]
def eo{a b c:World}(h:a.grownBy b row)(k:b.grownBy c row):a.grownBy c row:=
 ⟨k.os.trans h.os,k.tape.trans h.tape,k.output.trans h.output,aR h.size k.size,λj hj Po=>(k.block j (by have:=h.size;omega) Po).trans (h.block j hj Po)⟩
def nt{a b:World}(h:Bel a.heap.size a b):a.grownBy b row:=⟨h.os,h.tape,h.output,h.size,λj hj _=>h.block j hj⟩
def Nr(rs:List Nat)(k m:Nat):(F8 rs).take k++List.replicate m (Value.int .u32 0)++(F8 rs).drop (k+m)=F8 (rs.take k++List.replicate m 0++rs.drop (k+m)):=by
 simp[F8]
def PW(rs ds:List Nat)(k:Nat):(F8 rs).take k++F8 ds++(F8 rs).drop (k+(F8 ds).length)=F8 (rs.take k++ds++rs.drop (k+ds.length)):=by
 simp[F8]
def KM{rs:List Nat}{m:Nat}(K:k+m<=rs.length)(hd:ds.length<=m){r1:List Nat}(Y:r1=rs.take k++List.replicate m 0++rs.drop (k+m))(I:r2=r1.take k++ds++r1.drop (k+ds.length)):
  r2=rs.take k++(ds++List.replicate (m-ds.length) 0)++rs.drop (k+m):=by
 have WD:(rs.take k).length=k:=by simp;omega
 have h3:r1.take k=rs.take k:=by rw[Y,bg,List.take_append_of_le_length be,bU be]
 have h4:r1.drop (k+ds.length)=List.replicate (m-ds.length) 0++rs.drop (k+m):=by
  rw[Y,bg,List.drop_append,WD,List.drop_of_length_le be,List.nil_append,Nat.add_sub_cancel_left,List.drop_append_of_le_length (by simpa using hd),List.drop_replicate]
 rw[I,h3,h4];simp
def KN{rs:List Nat}{m:Nat}(K:k+m<=rs.length)(hd:ds.length<=m)(Qi:Lm rs)(SU:Lm ds)(h:r2=rs.take k++(ds++List.replicate (m-ds.length) 0)++rs.drop (k+m)):
  r2.length=rs.length/\Lm r2/\r2.take k=rs.take k/\r2.drop (k+m)=rs.drop (k+m)/\val ((r2.drop k).take m)=val ds:=by
 have WD:(rs.take k).length=k:=by simp;omega
 have S7:(ds++List.replicate (m-ds.length) 0).length=m:=by simp;omega
 have Rd:r2.drop k=(ds++List.replicate (m-ds.length) 0)++rs.drop (k+m):=by
  rw[h,bg,List.drop_append,WD,List.drop_of_length_le be,List.nil_append,bV,List.drop_zero]
 refine⟨by rw[h,aU,aU,WD,S7];simp;omega,?_,?_,?_,?_⟩
 .rw[h];exact((Qi.take k).append (SU.append (Lm.replicate _))).append (Qi.drop _)
 .rw[h,bg,List.take_append_of_le_length be,bU be]
 .rw[<-List.drop_drop,Rd,List.drop_append,S7,List.drop_of_length_le be,List.nil_append,bV,List.drop_zero]
 .rw[Rd,List.take_append_of_le_length be,bU be,kl,kx];simp
def PX{S:Nat->Prop}{w:World}{vd:Value}{D g k q:Nat}{rs:List Nat}(G:Old S w)(hgS:¬S g)(hd:de w S vd D)(V:w.heap[g]? =some (.cells (F8 rs).toArray T.uint32 (0,0)))(Qi:Lm rs)
  (K:k+ln D+1<=rs.length) (hl:rs.length<=1000000000000) (hq:q<4294967296):
  eH PG Fd.ry #[.slice (some ⟨g,0,none⟩) rs.length rs.length,vd,.int .i64 k,.int .u64 q] w (λe F=>
   (val ((rs.drop k).take (ln D+1))<q*D/\e= .returned (.bool false)/\Bq w F)\/
   (q*D<=val ((rs.drop k).take (ln D+1))/\e= .returned (.bool true)/\w.grownBy F (some g)/\∃rs',rs'.length=rs.length/\Lm rs'/\rs'.take k=rs.take k/\rs'.drop (k+ln D+1)=rs.drop (k+ln D+1)/\
    val ((rs'.drop k).take (ln D+1))=val ((rs.drop k).take (ln D+1))-q*D/\F.heap[g]? =some (.cells (F8 rs').toArray T.uint32 (0,0)))):=by
 have WX:=kv V;have hnD:=hd;obtain⟨p,rfl,Rk,Rz⟩:=hd.la;have QL:=eE p.lm Rz;rw[Rk]at QL;generalize E:ln D=n at*
 have hSB:=G;refine wL ce ?_;refine⟨(q:Int),by rw[fR,bZ hq],?_⟩;refine gJ (GT:=λO _ v F=>dW F (λg=>g=(O 0).g) v (eK [q])) (H':=[]) 0 rfl ce trivial rfl (λO J r=>r.nn 0 _ rfl (by intros;simp) ce) (λO J r=>?_) ?_
 .have hL:=r.pB (id:=0) (ls:=[q]) rfl (by intro x Z;simp at Z;omega) ce;exact fS (λg V=>by rw[V];exact(r.low 0 _ rfl (r.nn 0 _ rfl (by intros;simp) ce)).2) hL
 rintro O w1 v1 F r L W hL;have Pq:=r.low 0 _ rfl (r.nn 0 _ rfl (by intros;simp) ce);have hs:=L.size;generalize (O 0).g=g0 at*
 have VV:de F (Cv S w.heap.size [(g0,g0+1),(w1.heap.size,F.heap.size)]) v1 q:=by
  have:=hL.trimmed;simp only[val,Nat.mul_zero,cM]at this;exact this.cU λk K=>.inr ⟨be,g0,g0+1,ce,be,be⟩
 have Xb:de F (Cv S w.heap.size [(g0,g0+1),(w1.heap.size,F.heap.size)]) (.slice p.a p.ls.length p.c) D:=
  (hnD.cW λg V=>W.block g (G g V)).cU λ_ V=>.inl V
 generalize [(g0,g0+1),(w1.heap.size,F.heap.size)]=iv at*
 refine cS (cE W (pR de (q*D)) (λO J r=>Iz (rlo r G) (VV.rel r G) (Xb.rel r G) (aR (gn.2 (show q<wt 1 from hq)) bv) be) ?_);rintro O w3 _ _ iv r L W h_ hm;have VW:=hm.ef (S:=S) r.cY (mN h_);refine⟨((k+n:Nat):Int),wo,((k+n+1:Nat):Int),wo,⟨be,be,be⟩,some ⟨g,k,none⟩,n+1,rs.length-k,EJ be,be,be,?_⟩;have hplen:((rs.drop k).take (n+1)).length=n+1:=by simp;omega
 have hplm:Lm ((rs.drop k).take (n+1)):=(Qi.drop k).take _;generalize SB:(rs.drop k).take (n+1)=part at*
 refine cS (cE W (pR dW part) (λO J r=>?_) ?_)
 .have Y:=Iy (k:=k) (m:=n+1) (c:=rs.length-k) (w:=J) (by rw[(W.tr r.cg).block g WX];exact V) Qi be be hl;rw[SB]at Y;exact Ix (λx Z=>by rw[Z];have:=(W.tr r.cg).size;omega) Y be
 rintro O _ _ _ iv r L W h_ hL;have hpL:=hL.ef (S:=S) r.cY (mN h_);replace VW:=VW.cV r G L (mC h_);refine cS (cR (GT:=λ_ J v F=>dW F (Cv S w.heap.size iv) v (eK part)) (λO J r=>fS (rlo r G) (dW.rel hpL r G)) ?_);rintro O w7 v4 w8 r L N hL;replace W:=W.tr N;have Xc:=hL.trimmed.cU (S':=Cv S w.heap.size ((w7.heap.size,w8.heap.size)::iv)) λ_ V=>V.cons;replace VW:=VW.cV (A:=(w7.heap.size,w8.heap.size)::iv) r G L λx Z=>aD _ Z;generalize (w7.heap.size,w8.heap.size)::iv=iv at*
 refine cS (cE W (λ_ _ v _=>v=iV (qJ (val part) (q*D))) (λO J r=>JA (rlo r G) (Xc.rel r G) (VW.rel r G)) ?_);rintro O _ _ _ iv r L W h_ rfl;replace Xc:=Xc.cV r G L (mC h_);replace VW:=VW.cV r G L (mC h_);apply bS<;>intro h
 .have h:val part<q*D:=by
   have:=aK h;unfold qJ at this;split at this
   .assumption
   .split at this<;>omega
  intro I8 w3 r3;exact .inl ⟨h,rfl,W.tr r3.cg⟩
 have h:q*D<=val part:=by
  have:=aL h;unfold qJ at this;split at this
  .omega
  .omega
 have Zg:ln (val part)<=n+1:=by rw[gn,<-hplen];exact pX hplm
 refine cS (cE W (pR de (val part-q*D)) (λO J r=>zM (rlo r G) (Xc.rel r G) (VW.rel r G) h be) ?_);rintro O _ v6 _ iv r L W h_ hm;have WY:=hm.ef (S:=S) r.cY (mN h_);refine⟨((k+n:Nat):Int),wo,((k+n+1:Nat):Int),wo,⟨be,be,be⟩,some ⟨g,k,none⟩,n+1,rs.length-k,EJ be,be,be,?_⟩;refine Jc hτ (cs:=F8 rs) d8 d8 d8 be (λO J r=>⟨by rw[(W.tr r.cg).block g WX];exact V,λid b N=>by cases N⟩) (by rw[gG];omega) (λO w13 w14 r hh QR QG=>?_);rw[Nr]at hh;have hgw:w.grownBy w14 (some g):=eo (nt (W.tr r.cg)) QR;replace WY:de w14 (Cv S w.heap.size iv) v6 (val part-q*D):=(WY.rel r G).cW λx Z=>QR.block x (rlo r G x Z) λe=>by
  injection e with e;subst e;rcases Z with Z|Z
  .exact hgS Z
  .omega
 obtain⟨rl,rfl,RF,Sr⟩:=WY.la;have QI:=eE rl.lm Sr;rw[RF]at QI;have hrn:rl.ls.length<=n+1:=by rw[QI];exact aR (fK (Nat.sub_le _ _)) Zg
 generalize hr1d:rs.take k++List.replicate (n+1) 0++rs.drop (k+(n+1))=r1 at*
 refine⟨⟨be,be,be⟩,some ⟨g,k,none⟩,rs.length-k,rs.length-k,EJ be,be,be,?_⟩;have hr1l:r1.length=rs.length:=by rw[<-hr1d];simp;omega
 have hw14:w.heap.size<=w14.heap.size:=hgw.size;refine LM hτ (tg:=T.uint32) (cs:=F8 r1) (ds:=F8 rl.ls) d8 d8 d8 d8 (λO J r=>⟨?_,λid b N=>by cases N⟩) (λO J r=>⟨rl.a,rl.c,by rw[gG];rfl,λj u hu=>?_⟩) (by rw[gG];omega) (by rw[gG,gG];omega)
  (λu hu=>by simp only[F8,bA]at hu;obtain⟨n,_,rfl⟩:=hu;rfl) (λO w15 w16 r hh2 QR QG=>?_)
 .rw[r.sO.block g be ce];exact hh
 .simp only[F8,aS,Option.map_eq_some_iff]at hu;obtain⟨m,hm,rfl⟩:=hu;obtain⟨ad,Y,I,h3⟩:=rl.cell j m hm;exact⟨ad,Y,(cZ (w:=w14) (a:=ad.add j) (by rw[da];exact rls r G I)).trans h3⟩
 rw[PW]at hh2;have hgw2:w.grownBy w16 (some g):=eo (eo hgw (by have:=r.sO;exact⟨this.os,this.tape,this.output,this.size,λj hj _=>this.block j hj ce⟩)) QR;obtain⟨o1,o2,o3,o4,o5⟩:=KN (rs:=rs) (ds:=rl.ls) (k:=k) (m:=n+1) be hrn Qi rl.lm (KM be hrn hr1d.symm rfl);generalize r1.take k++rl.ls++r1.drop (k+rl.ls.length)=r2 at*
 intro I8 w17 r3;refine .inr ⟨h,rfl,eo hgw2 (by have:=r3.sO;exact⟨this.os,this.tape,this.output,this.size,λj hj _=>this.block j hj ce⟩),r2,o1,o2,o3,o4,by rw[o5,RF],?_⟩;rw[r3.sO.block g (by have:=hgw2.size;omega) ce];exact hh2
end Go.Ex
namespace Go.Sx
open Go Go.Ex Go.Proofs
variable{O:Nat->Sx.eD}
def Rel.Om{nx:Nat}{iv:Iv}{B:Nat}{w J F:World}(r:Rel [] nx iv B w O J)(h:J.heap.size<=F.heap.size):Rel [] nx [] B F O F:=
 r.Cc h (λid b h=>by cases h) λlo R h=>by cases h
end Go.Sx
namespace Go.Ex
open Go Go.Sx Go.Proofs
variable{O:Nat->Sx.eD}
def MQ{P D low high dlow dtop C8:Nat}(hP:P=low+C8*high)(hD:D=dlow+C8*dtop)(Pq:low<C8)(Vk:0<dtop)(hPD:P<4294967296*D):P / D<=min (high / dtop) 4294967295:=by
 have hW:0<C8:=by omega
 have hD0:0<D:=by have:=Nat.mul_pos hW Vk;omega
 have Y:P / D<4294967296:=(Nat.div_lt_iff_lt_mul hD0).2 (by rw[bX]at hPD;omega);have I:P / D<=high / dtop:=by
  rw[Nat.le_div_iff_mul_le Vk];have h3:=Nat.div_mul_le_self P D;generalize P / D=Q at*
  have h4:C8*(Q*dtop)<=Q*D:=by
   rw[hD,Nat.mul_left_comm,bW];omega
  have h5:C8*(Q*dtop)<C8*(high+1):=by
   rw[bW];omega
  have:=Nat.lt_of_mul_lt_mul_left h5;omega
 omega
def JB{H:Hp}{nx:Nat}{iv:Iv}{w w1 J:World}{g i x:Nat}{rs:List Nat}(V:w.heap[g]? =some (.cells (F8 rs).toArray T.uint32 (0,0)))(W:Bq w w1)(r:Rel H nx iv w.heap.size w1 O J)(Z:rs[i]? =some x):
  J.cell? ((⟨g,0,none⟩:Addr).add ((i:Int).toNat*1))=some (.int .u32 x):=by
 rw[aI,ah,dD,aV,cell_of (by rw[(W.tr r.cg).block g (kv V)];exact V)];exact tq Z
def Ns{S:Nat->Prop}{w:World}{vd:Value}{D g k:Nat}{rs:List Nat}(G:Old S w)(hgS:¬S g)(hd:de w S vd D)(hD:0<D)(V:w.heap[g]? =some (.cells (F8 rs).toArray T.uint32 (0,0)))(Qi:Lm rs)
  (K:k+ln D+1<=rs.length) (hl:rs.length<=1000000000000) (hPD:val ((rs.drop k).take (ln D+1))<4294967296*D):
  eH PG Fd.qW #[.slice (some ⟨g,0,none⟩) rs.length rs.length,vd,.int .i64 k] w (λe F=>
   e= .returned (.int .u32 ((val ((rs.drop k).take (ln D+1)) / D:Nat):Int))/\w.grownBy F (some g)/\∃rs',rs'.length=rs.length/\Lm rs'/\rs'.take k=rs.take k/\rs'.drop (k+ln D+1)=rs.drop (k+ln D+1)/\
    val ((rs'.drop k).take (ln D+1))=val ((rs.drop k).take (ln D+1)) % D/\F.heap[g]? =some (.cells (F8 rs').toArray T.uint32 (0,0))):=by
 have WX:=kv V;have hnD:=hd;obtain⟨p,rfl,Rk,Rz⟩:=hd.la;have QL:=eE p.lm Rz;rw[Rk]at QL;have RX:=λ(J:World) (q:Nat)=>@PX S J (.slice p.a p.ls.length p.c) D g k q rs;generalize E:ln D=n at*
 obtain⟨t,rfl⟩:∃t,n=t+1:=by
  cases n with
  |zero=>
   have:D<wt 0:=gn.1 be;rw[jm]at this;omega
  |succ t=>exact⟨t,rfl⟩
 obtain⟨dt,Vk⟩:=gO p.ls t;have hdt0:0<dt:=by
  have:=Rz dt (by rw[List.getLast?_eq_getElem?,QL];exact Vk);omega
 obtain⟨a,ha⟩:=gO rs (k+t+1);obtain⟨b,N⟩:=gO rs (k+t);have ha32:=Qi.at ha;have VD:=Qi.at N;have Zi:=p.lm.at Vk;generalize hP:val ((rs.drop k).take (t+1+1))=P at*
 have hguess:P / D<=min ((a*4294967296+b) / dt) 4294967295:=by
  refine MQ (low:=val ((rs.drop k).take t)) (C8:=wt t) (dlow:=val (p.ls.take t)) ?_ ?_ ?_ hdt0 hPD
  .rw[<-hP,eF (x:=a) (by rw[cD];exact ha),eF (x:=b) (by rw[cD];exact N),jY,bW,bX 4294967296 (wt t),bo,bX a];omega
  .rw[<-Rk,<-eF Vk,bU be]
  .have Y:=pX ((Qi.drop k).take t);have:((rs.drop k).take t).length=t:=by simp;omega
   rwa [this]at Y
 refine ub ce ?_;refine⟨(t:Int),wo,?_⟩;refine dP (idO 18) ?_;refine⟨((k+t:Nat):Int),wo,((k+t+1:Nat):Int),wo,_,rfl,be,.int .u32 a,λO J r=>JB V Bel.refl r ha,(a:Int),en be,bv,((a*2^32:Nat):Int),EK (k:=32) bv be,((k+t:Nat):Int),wo,_,rfl,be,.int .u32 b,λO J r=>JB V Bel.refl r N,(b:Int),en be,?_⟩;have Wy:a*2^32 ||| b=a*4294967296+b:=by
  rw[Nat.or_comm,bX,EL (k:=32) VD];omega
 refine⟨((a*4294967296+b:Nat):Int),by rw[MR be be,Wy],?_⟩;have hh64:a*4294967296+b<18446744073709551616:=by omega
 generalize a*4294967296+b=high at*
 obtain⟨ad,QQ,QS⟩:=p.load G (Bel.refl (w:=w)) Vk;refine⟨ad,QQ,be,.int .u32 dt,QS _ _ _,(dt:Int),en be,be,((high / dt:Nat):Int),MS hh64,?_⟩;conv=>whnf
 rw[show min ((high / dt:Nat):Int) 4294967295=((min (high / dt) 4294967295:Nat):Int) by omega];have hm32:min (high / dt) 4294967295<=4294967295:=Nat.min_le_right _ _;generalize min (high / dt) 4294967295=q0 at*
 have hQD:=Nat.div_mul_le_self P D;have hQl:∀q,q*D<=P->P / D<=q->q=P / D:=λq Y I=>Nat.le_antisymm ((Nat.le_div_iff_mul_le hD).2 Y) I;have hmod:P % D=P-P / D*D:=by have:=Nat.div_add_mod P D;rw[bX]at this;omega
 refine⟨Nat×World,λz=>⟨[(0,.o (.v (.slice (some ⟨g,0,none⟩) rs.length rs.length))),(1,sV p.a p.ls.length p.c),(2,iZ k),(9,.o (.v (.int .u64 z.1)))],[],0,[],z.2⟩,λz=>z.1,
  λz=>Bq w z.2/\P / D<=z.1/\z.1<=4294967295,?_,?_⟩
 .intro O J r;exact⟨(q0,J),⟨r.cg,hguess,hm32⟩,Sub.reset r ⟨rfl,rfl,rfl,rfl,trivial⟩ ⟨trivial,trivial,trivial,trivial,trivial⟩⟩
 .rintro⟨q,w1⟩ ⟨W,S8,Rr⟩;dsimp only at W S8 Rr ⊢;conv=>whnf
  refine⟨λO F r=>(RX F q (λx Z=>by have:=G x Z;have:=(W.tr r.cg).size;omega) hgS (hnD.cW λx Z=>(W.tr r.cg).block x (G x Z)) (by rw[(W.tr r.cg).block g WX];exact V) Qi K hl be).mono λe w3 L=>?_⟩;rcases L with⟨h,rfl,WQ⟩|⟨h,rfl,QR,rs',e1,e2,e3,e4,e5,e6⟩
  .have hw3:Bq w w3:=(W.tr r.cg).tr (WQ.cg r.cY);refine⟨.bool false,[],[],rfl,r.Om WQ.size,?_⟩;have XA:P / D<q:=by
    refine Nat.lt_of_le_of_ne S8 λe=>?_;rw[e]at hQD;omega
   have hq4:0<q:=Nat.lt_of_le_of_lt (aZ _) XA;have hq5:P / D<=q-1:=Nat.le_sub_one_of_lt XA;refine⟨((q-1:Nat):Int),by rw[yx]<;>omega,?_⟩;intro If w4 r4;exact⟨(q-1,w4),⟨hw3.tr r4.cg,hq5,by dsimp only;omega⟩,Sub.reset r4 ⟨rfl,rfl,rfl,rfl,trivial⟩ ⟨trivial,trivial,trivial,trivial,trivial⟩,by dsimp only;omega⟩
  .have hgw:w.grownBy w3 (some g):=eo (nt (W.tr r.cg)) QR;refine⟨.bool true,[],[],rfl,r.Om QR.size,?_⟩;have hq:=hQl q h S8;subst hq;refine⟨((P / D:Nat):Int),by rw[fR,bZ be],?_⟩;intro If w4 r4;refine⟨rfl,eo hgw (by have:=r4.sO;exact⟨this.os,this.tape,this.output,this.size,λj hj _=>this.block j hj ce⟩),rs',e1,e2,e3,e4,by rw[e5,hmod],?_⟩;rw[r4.sO.block g (by have:=hgw.size;omega) ce];exact e6
end Go.Ex
namespace Go.Ex
variable{ms:List Nat}
def Ju{t dt:Nat}(Qi:Lm ms)(hl:ms.length=t+1)(Vk:ms[t]? =some dt)(h0:0<dt):32-iD dt<32/\ln (val ms*2^(32-iD dt))=t+1:=by
 have Ti:0<iD dt:=by
  rcases bB (iD dt)with h|h
  .have:=zE.1 (Nat.le_of_eq h);simp at this;omega
  .exact h
 have VD:iD dt<=32:=zE.2 (Qi.at Vk);have QU:=zE.1 (ae (iD dt));have hv:val ms=val (ms.take t)+wt t*dt:=by rw[<-eF Vk,bU be]
 have Pq:=pX (Qi.take t);have hltk:(ms.take t).length=t:=by simp;omega
 rw[hltk]at Pq;have W:=zg t;refine⟨be,Nat.le_antisymm ?_ ?_⟩
 .rw[gn];have Y:val ms<wt t*2^iD dt:=by
   have:wt t*(dt+1)<=wt t*2^iD dt:=bC _ QU;rw[bW]at this;omega
  have I:=Nat.mul_lt_mul_of_pos_right Y (cI (32-iD dt));rw[bo,<-Nat.pow_add,Nat.add_sub_cancel' VD]at I;rw[jY,bX 4294967296];exact I
 .refine Nat.lt_of_not_le λh=>?_;have Y:=gn.1 h;have I:val ms*1<=val ms*2^(32-iD dt):=bC _ (cI _);have h3:wt t*1<=wt t*dt:=bC _ h0;omega
def FV{rs:List Nat}{D Fd k:Nat}(Qi:Lm rs)(hDN:D<wt Fd)(K:k+Fd+1<=rs.length)(h:val rs<wt (k+1)*D):
  val (rs.drop (k+Fd+1))=0/\val (rs.drop k)=val ((rs.drop k).take (Fd+1))/\val ((rs.drop k).take (Fd+1))<4294967296*D:=by
 obtain⟨x,Z⟩:∃q,rs[k]? =some q:=⟨_,aE be⟩
 have Re:=Qi.at Z;have Y:=fC rs (k+1) be;have I:val (rs.drop (k+1))<D:=Nat.lt_of_mul_lt_mul_left (a:=wt (k+1)) be;have h3:=fC (rs.drop (k+1)) Fd (by simp;omega);rw[List.drop_drop,show k+1+Fd=k+Fd+1 by omega]at h3;have h4:val (rs.drop (k+Fd+1))=0:=by
  rcases bB (val (rs.drop (k+Fd+1)))with h|h
  .exact h
  .have:=bC (wt Fd) h;omega
 have h5:=fC (rs.drop k) (Fd+1) (by simp;omega);rw[List.drop_drop,show k+(Fd+1)=k+Fd+1 by omega,h4,Nat.mul_zero,cM]at h5;have h6:=ja Z;exact⟨h4,h5,be⟩
def Lb{rs rs' out:List Nat}{D Fd k P A9:Nat}(hD:0<D)(Qi:Lm rs)(hlen:rs'.length=rs.length)(hDN:D<wt Fd)(K:k+Fd+1<=rs.length)(h:val rs<wt (k+1)*D)(hV:A9=wt (k+1)*(D*val (out.drop (k+1)))+val rs)
  (hP:val ((rs.drop k).take (Fd+1))=P) (Y:rs'.take k=rs.take k) (I:rs'.drop (k+Fd+1)=rs.drop (k+Fd+1)) (h3:val ((rs'.drop k).take (Fd+1))=P % D) (ho:k<out.length):
  val rs'<wt k*D/\A9=wt k*(D*val ((out.set k (P / D)).drop k))+val rs':=by
 obtain⟨a1,a2,a3⟩:=FV Qi hDN K h;have b1:=fC rs k be;have b2:=fC rs' k be;have b3:=fC (rs'.drop k) (Fd+1) (by simp;omega);rw[List.drop_drop,show k+(Fd+1)=k+Fd+1 by omega,I,a1,Nat.mul_zero,cM,h3]at b3;rw[Y,b3]at b2;rw[a2,hP]at b1;have b4:=pX (Qi.take k);have b5:(rs.take k).length=k:=by simp;omega
 rw[b5]at b4;have b6:=cL P hD;have b7:(out.set k (P / D))[k]? =some (P / D):=by rw[aQ ho]
 have b8:=Nat.div_add_mod P D;refine⟨?_,?_⟩
 .have:wt k*(P % D+1)<=wt k*D:=bC _ b6;rw[bW]at this;omega
 .rw[ja b7,List.drop_set_of_lt (show k<k+1 by omega),hV,b1,b2,jY];generalize val (out.drop (k+1))=o;have c1:wt k*P=wt k*(D*(P / D))+wt k*(P % D):=by rw[<-bW,b8]
  have c2:4294967296*wt k*(D*o)=wt k*(D*(4294967296*o)):=by
   rw[bX 4294967296,bo,Nat.mul_left_comm 4294967296]
  rw[c1,c2,bW D,bW (wt k)];omega
def Jv{n m b:Nat}(hm:0<m)(XV:m<=n):n*2^b<wt (ln n+1-ln m)*(m*2^b):=by
 have Y:=lJ n;have I:=fK XV;have h3:wt (ln m-1)<=m:=by
  refine Nat.le_of_not_lt λh=>?_;have:=gn.2 h;have h4:0<ln m:=by
   rcases bB (ln m)with h|h
   .have:=gn.1 (Nat.le_of_eq h);rw[jm]at this;omega
   .exact h
  omega
 have h4:0<ln m:=by
  rcases bB (ln m)with h|h
  .have:=gn.1 (Nat.le_of_eq h);rw[jm]at this;omega
  .exact h
 have h5:wt (ln n)<=wt (ln n+1-ln m)*m:=by
  rw[show ln n=(ln n+1-ln m)+(ln m-1) by omega,Di,show(ln n+1-ln m)+(ln m-1)+1-ln m=ln n+1-ln m by omega];exact bC _ h3
 rw[<-bo];exact Nat.mul_lt_mul_of_pos_right (Nat.lt_of_lt_of_le Y h5) (cI b)
def NW{n m b o r:Nat}(hm:0<m)(Y:n*2^b=m*2^b*o+r)(I:r<m*2^b):o=n / m/\r / 2^b=n % m:=by
 have hp:=cI b;have h3:n*2^b / (m*2^b)=o:=by rw[Y,Nat.mul_add_div (Nat.mul_pos hm hp),Nat.div_eq_of_lt I,cM]
 have h4:n*2^b % (m*2^b)=r:=by rw[Y,Nat.mul_add_mod,bZ I]
 rw[Nat.mul_div_mul_right _ _ hp]at h3;rw[Nat.mul_mod_mul_right]at h4;exact⟨h3.symm,by rw[<-h4,Nat.mul_div_cancel _ hp]⟩
end Go.Ex
namespace Go.Ex
open Go Go.Sx Go.Proofs
variable{H:Hp}{x y z:Int}{iv:Iv}{ls:List Nat}{k n nx:Nat}{S:Nat->Prop}{O:Nat->Sx.eD}{u v:Value}{w J w1:World}
def EM{g:Nat}{rs:List Nat}(V:w.heap[g]? =some (.cells (F8 rs).toArray T.uint32 (0,0)))(Qi:Lm rs)(hl:rs.length<=1000000000000):
  dW w (λx=>x=g) (.slice (some ⟨g,0,none⟩) rs.length rs.length) rs:=by
 have:=Iy (k:=0) (m:=rs.length) (c:=rs.length) V Qi be lr hl
 rwa [List.drop_zero,bE]at this
def nF{m:Nat}(G:Old S w)(E:de w S v n)(hm:de w S u m)(UC:0<m)(TY:ln n<=100000000000):
  eH PG Fd.oh #[v,u] w (eV w λv' F=>∃q r,v'= .tuple #[q,r]/\de F (Nf w F) q (n / m)/\de F (Nw S w F) r (n % m)):=by
 have hnN:=E;have VW:=hm;obtain⟨x,rfl,Rk,Rz⟩:=E.la;obtain⟨y,rfl,S8,Rr⟩:=hm.la;have SK:=eE x.lm Rz;have VU:=eE y.lm Rr;rw[Rk]at SK;rw[S8]at VU;refine tQ ce ?_;refine cS (cR (GT:=λ_ _ v _=>v=iV (qJ n m)) (λO J r=>JA (S:=S) (λg V=>by have:=G g V;have:=r.cg.size;omega) (hnN.cW λg V=>r.cg.block g (G g V)) (VW.cW λg V=>r.cg.block g (G g V))) ?_);rintro O w1 v1 F r L W rfl;apply bS<;>intro h
 .have h:n<m:=by
   have:=aK h;unfold qJ at this;split at this
   .assumption
   .split at this<;>omega
  intro I8 w3 r3;refine⟨_,rfl,W.tr r3.cg,_,_,rfl,?_,?_⟩
  .rw[Nat.div_eq_of_lt h];exact de.nil _ _
  .rw[bZ h];exact(hnN.cW λg V=>(W.tr r3.cg).block g (G g V)).cU λg V=>.inl V
 have h:m<=n:=by
  have:=aL h;unfold qJ at this;split at this
  .omega
  .omega
 have hlmn:=fK h;apply bS<;>intro Y
 .have Y:y.ls.length=1:=by have:=eq_of_beq Y;omega
  obtain⟨b,XS⟩:=List.length_eq_one_iff.1 Y;have N:y.ls[0]? =some b:=by rw[XS];rfl
  have VD:=y.lm.at N;have TS:m=b:=by rw[<-S8,XS];simp[val]
  subst TS;obtain⟨ad,QQ,QS⟩:=y.load G W N;refine⟨ad,QQ,be,.int .u32 m,QS _ _ _,?_⟩;refine cS (cR (GT:=λ_ J v F=>∃q,v= .tuple #[q,.int .u32 ((val x.ls % m:Nat):Int)]/\de F (Nf J F) q (val x.ls / m)) (λO J r=>?_) ?_)
  .refine JC (S:=S) (λg V=>by have:=G g V;have:=(W.tr r.cg).size;omega) ⟨x.lm,x.le,_,_,rfl,x.cap,λj u hu=>?_⟩ be UC VD;obtain⟨ad,e1,e2,e3⟩:=x.cell j u hu;exact⟨ad,e1,e2,gF G W r e2 e3⟩
  rintro O w3 v3 w4 r L Rb ⟨q,rfl,hq⟩;replace W:=W.tr Rb;have VV:=hq.ef (S:=FF) r.cY (iv:=(w3.heap.size,w4.heap.size)::[(w1.heap.size,F.heap.size)]) aF;rw[Rk]at VV;rw[Rk];generalize (w3.heap.size,w4.heap.size)::[(w1.heap.size,F.heap.size)]=iv at*
  have Um:n % m<m:=cL _ UC;generalize n % m=rem at*
  refine gJ (GT:=λO _ v F=>dW F (λg=>g=(O 0).g) v (eK [rem])) (H':=[]) 0 rfl ce trivial rfl (λO J r=>r.nn 0 _ rfl (by intros;simp) ce) (λO J r=>?_) ?_
  .have hL:=r.pB (id:=0) (ls:=[rem]) rfl (by intro x Z;simp at Z;omega) ce;exact fS (λg V=>by rw[V];exact(r.low 0 _ rfl (r.nn 0 _ rfl (by intros;simp) ce)).2) hL
  rintro O w5 v5 w6 r L Zj hL;have Pq:=r.low 0 _ rfl (r.nn 0 _ rfl (by intros;simp) ce);have hs:=L.size;replace W:=W.tr Zj;replace VV:=VV.cV (A:=((O 0).g,(O 0).g+1)::(w5.heap.size,w6.heap.size)::iv) r (λg h=>h.elim) L λx Z=>by simp[Z]
  generalize (O 0).g=g0 at*
  have WY:de w6 (Cf w ((g0,g0+1)::(w5.heap.size,w6.heap.size)::iv)) v5 rem:=by
   have:=hL.trimmed;simp only[val,Nat.mul_zero,cM]at this;exact this.cU λk K=>.inr ⟨be,g0,g0+1,ce,be,be⟩
  generalize (g0,g0+1)::(w5.heap.size,w6.heap.size)::iv=iv2 at*
  intro I8 w7 r3;exact⟨_,rfl,W.tr r3.cg,_,_,rfl,(VV.rel r3 λg h=>h.elim).cU λg V=>Cv.nw V r3,((WY.rel r3 λg h=>h.elim).cU λg V=>Cv.nw V r3).cU λg V=>V.elim (λh=>h.elim) .inr⟩
 .have Y:y.ls.length≠1:=λe=>by rw[e]at Y;simp at Y
  have VG:0<ln m:=by
   rcases bB (ln m)with h|h
   .have:=gn.1 (Nat.le_of_eq h);rw[jm]at this;omega
   .exact h
  obtain⟨t,ht⟩:∃t,y.ls.length=t+1:=⟨y.ls.length-1,be⟩
  obtain⟨dt,Vk⟩:=gO y.ls t;have hdt0:0<dt:=by
   have:=Rr dt (by rw[List.getLast?_eq_getElem?,ht];exact Vk);omega
  have Zi:=y.lm.at Vk;obtain⟨QM,Ys⟩:=Ju y.lm ht Vk hdt0;rw[S8]at Ys;obtain⟨ad,QQ,QS⟩:=y.load G W Vk;refine⟨(t:Int),wo,ad,QQ,be,.int .u32 dt,QS _ _ _,?_⟩;refine cS (cR (GT:=λ_ _ v _=>v=iV ((32-iD dt:Nat):Int)) (λO J r=>PV dt J Zi) ?_);rintro O w3 v3 w4 r L Rb rfl;replace W:=W.tr Rb;generalize hbyd:32-iD dt=b at*
  refine⟨(b:Int),en be,?_⟩;refine cS (cR (GT:=λ_ J v F=>∃out,MT J F v out/\out.length=y.ls.length+1/\val out=val y.ls*2^b) (λO J r=>?_) ?_)
  .refine xS (S:=S) (λg V=>by have:=G g V;have:=(W.tr r.cg).size;omega) ⟨y.lm,y.le,_,_,rfl,y.cap,λj u hu=>?_⟩ be QM;obtain⟨ad,e1,e2,e3⟩:=y.cell j u hu;exact⟨ad,e1,e2,gF G W r e2 e3⟩
  rintro O w5 v5 w6 r L Zj ⟨dl,⟨gd,rfl,hgd1,hgd2,hgd3⟩,S7,hdv⟩;replace W:=W.tr Zj;rw[S8]at hdv;have hB5:w.heap.size<=w5.heap.size:=r.cY;have Tj:Cf w ((w5.heap.size,w6.heap.size)::[(w3.heap.size,w4.heap.size),(w1.heap.size,F.heap.size)]) gd:=.inr ⟨be,_,_,aF,hgd1,kv hgd2⟩;generalize (w5.heap.size,w6.heap.size)::[(w3.heap.size,w4.heap.size),(w1.heap.size,F.heap.size)]=iv at*
  have hF:∀g:Nat,(λ_:Nat=>False) g->g<w.heap.size:=λg h=>h.elim;refine cS (cR (GT:=λ_ _ v F=>dW F (λx=>x=gd) v (eK dl)) (λO J r=>fS (λg V=>by rw[V];exact rlo r hF gd Tj) (EM (by rw[rls r hF Tj];exact hgd2) hgd3 be)) ?_);rintro O w7 v6 w8 r L hb8 hL;replace W:=W.tr hb8;have hgd8:gd<w8.heap.size:=by have:=rlo r hF gd Tj;have:=L.size;omega
  replace Tj:=Tj.mono (A:=(w7.heap.size,w8.heap.size)::iv) λp hp=>aD _ hp;have Xb:=hL.trimmed;rw[hdv]at Xb;generalize (w7.heap.size,w8.heap.size)::iv=iv at*
  obtain⟨dp,rfl,Rd,RS⟩:=Xb.la;have hdpl:=eE dp.lm RS;rw[Rd,Ys]at hdpl;generalize hDd:m*2^b=D at*
  have hD0:0<D:=by rw[<-hDd];exact Nat.mul_pos UC (cI b)
  refine cS (cR (GT:=λ_ J v F=>∃out,MT J F v out/\out.length=x.ls.length+1/\val out=val x.ls*2^b) (λO J r=>?_) ?_)
  .refine xS (S:=S) (λg V=>by have:=G g V;have:=(W.tr r.cg).size;omega) ⟨x.lm,x.le,_,_,rfl,x.cap,λj u hu=>?_⟩ be QM;obtain⟨ad,e1,e2,e3⟩:=x.cell j u hu;exact⟨ad,e1,e2,gF G W r e2 e3⟩
  rintro O w9 v9 w10 r L hb10 ⟨rs0,⟨gr,rfl,WZ,Wa,hgr3⟩,QI,VH⟩;replace W:=W.tr hb10;rw[Rk]at VH;have hB9:w.heap.size<=w9.heap.size:=r.cY;have Ur:Cf w ((w9.heap.size,w10.heap.size)::iv) gr:=.inr ⟨be,_,_,aF,WZ,kv Wa⟩;have Po:gr≠gd:=by have:=r.size;omega
  replace Xb:de w10 (λx=>x=gd) (.slice dp.a dp.ls.length dp.c) D:=Xb.cW λx Z=>by
   rw[Z,L.block gd (rlo r hF gd Tj),rls r hF Tj]
  have hgd10:gd<w10.heap.size:=by have:=rlo r hF gd Tj;have:=L.size;omega
  replace Tj:=Tj.mono (A:=(w9.heap.size,w10.heap.size)::iv) λp hp=>aD _ hp;generalize (w9.heap.size,w10.heap.size)::iv=iv at*
  have hgrB:w.heap.size<=gr:=by omega
  obtain⟨Do,hL⟩:∃Do,rs0.length=t+1+Do:=⟨rs0.length-(t+1),be⟩
  refine⟨(Do:Int),wo,Do,Do,rfl,rfl,lr,be,be,(Do:Int)-1,wo,Nat×List Nat×List Nat×World,λz=>⟨[(8,.o (.v (.int .u64 b))),(9,sV dp.a dp.ls.length dp.c),(10,.o (.v (.slice (some ⟨gr,0,none⟩) rs0.length rs0.length))),(11,.o (.s 0 0 Do Do)),(12,.o (.v (iV ((z.1:Int)-1))))],
    [(0,.arr T.uint32 (F8 z.2.1))],1,iv,z.2.2.2⟩,λz=>z.1,
   λz=>z.1<=Do/\Bq w z.2.2.2/\z.2.1.length=Do/\z.2.2.1.length=rs0.length/\Lm z.2.1/\Lm z.2.2.1/\z.2.2.2.heap[gr]? =some (.cells (F8 z.2.2.1).toArray T.uint32 (0,0))/\de z.2.2.2 (λx=>x=gd) (.slice dp.a dp.ls.length dp.c) D/\
    gd<z.2.2.2.heap.size/\val z.2.2.1<wt z.1*D/\n*2^b=wt z.1*(D*val (z.2.1.drop z.1))+val z.2.2.1,?_,?_⟩
  .intro O J r;rw[sP]at r;refine⟨(Do,List.replicate Do 0,rs0,J),⟨lr,W.tr r.cg,ce,rfl,Lm.replicate _,hgr3,?_,?_,?_,?_,?_⟩,sbgn [] r⟩
   .dsimp only;rw[rls r hF Ur];exact Wa
   .exact Xb.cW λx Z=>by rw[Z];exact rls r hF Tj
   .exact rlo r hF gd Tj
   .dsimp only
    have:=Jv (b:=b) UC h;rw[hDd,<-VU,ht,<-SK,show x.ls.length+1-(t+1)=Do by omega]at this;rw[VH];exact this
   .dsimp only;rw[VH];simp[val]
  .rintro⟨k,out,rs,w11⟩ ⟨K,W,Rl,UD,Te,Yt,QR,Xb,Sq,Zk,Qo⟩;dsimp only at K W Rl UD Te Yt QR Xb Sq Zk Qo ⊢;apply bS<;>intro h9
   .have h9:(k:Int)-1≥0:=aK h9;obtain⟨k,rfl⟩:∃q,k=q+1:=⟨k-1,be⟩
    rw[show ((k+1:Nat):Int)-1=(k:Int) by omega];have hDN:D<wt (t+1):=gn.1 (Nat.le_of_eq Ys);obtain⟨a1,a2,a3⟩:=FV (Fd:=t+1) Yt hDN be Zk;have hdig:=λ(J:World)=>@Ns (λx=>x=gd) J (.slice dp.a dp.ls.length dp.c) D gr k rs;rw[Ys]at hdig;simp only[UD]at hdig;generalize hP:val ((rs.drop k).take (t+1+1))=P at*
    have hQ32:P / D<4294967296:=(Nat.div_lt_iff_lt_mul hD0).2 (by rw[bX]at a3;omega);refine⟨λO J r=>(hdig J (λg V=>by rw[V];exact rlo r hF gd Tj) Po (Xb.cW λx Z=>by rw[Z];exact rls r hF Tj) hD0 (by rw[rls r hF Ur];exact QR) Yt be be a3).mono λe w12 L=>?_⟩;obtain⟨rfl,hgb,rs',e1,e2,e3,e4,e5,e6⟩:=L;refine⟨_,_,_,rfl,r.FE (λid b N E=>Rel.not r hF Ur id b N E) hgb,?_⟩;obtain⟨hi1',hi2'⟩:=Lb (Fd:=t+1) hD0 Yt (e1.trans UD.symm) hDN be Zk Qo hP e3 e4 e5 be;have hw12:Bq w w12:=(W.tr r.cg).tr (Bel.grown hgb (λg V=>by injection V with V;omega) r.cY);have hdN12:de w12 (λx=>x=gd) (.slice dp.a dp.ls.length dp.c) D:=Xb.cW λx Z=>by
     rw[Z,hgb.block gd (rlo r hF gd Tj) (λe=>Po (Option.some.inj e).symm),rls r hF Tj]
    have hgd12:gd<w12.heap.size:=by have:=rlo r hF gd Tj;have:=hgb.size;omega
    generalize P / D=Q at*
    refine⟨be,by rw[gG];omega,F8 (out.set k Q),j2 out k _ be ce,(k:Int)-1,wo,?_⟩;intro I8 w3 r3
    refine⟨(k,out.set k Q,rs',w3),⟨by dsimp only;omega,hw12.tr r3.cg,by simp[Rl],e1.trans rfl,Te.set hQ32,e2,?_,?_,?_,hi1',hi2'⟩,
     sbgn [] r3,by dsimp only;omega⟩
    .dsimp only;rw[rls r3 hF Ur];exact e6
    .exact hdN12.cW λx Z=>by rw[Z];exact rls r3 hF Tj
    .exact rlo r3 hF gd Tj
   .have Sp:k=0:=by
     have:¬(k:Int)-1≥0:=aL h9;omega
    subst Sp;rw[jm,Nat.one_mul,List.drop_zero]at Qo;rw[jm,Nat.one_mul]at Zk;rw[<-hDd]at Zk Qo;obtain⟨hq,hrem⟩:=NW UC Qo Zk;have RO:∀J:World,J.heap[gr]? =some (.cells (F8 rs).toArray T.uint32 (0,0))->dW J (λx=>x=gr) (.slice (some ⟨gr,0,none⟩) rs0.length rs0.length) rs:=λJ hh=>by
     have:=EM hh Yt be
     rwa [UD]at this
    refine gJ (GT:=λO _ v F=>dW F (λg=>g=(O 0).g) v (eK out)) (H':=[]) 0 rfl ce trivial rfl (λO J r=>r.nn 0 _ rfl (by intros;simp) ce) (λO J r=>?_) ?_
    .have hL:=r.pC (id:=0) rfl Te be;rw[Rl]at hL;exact fS (λg V=>by rw[V];exact(r.low 0 _ rfl (r.nn 0 _ rfl (by intros;simp) ce)).2) hL
    rintro O w13 v13 w14 r L hb14 hL;replace W:=W.tr hb14;have Pq:=r.low 0 _ rfl (r.nn 0 _ rfl (by intros;simp) ce);have hs:=L.size;have hgr14:w14.heap[gr]? =some (.cells (F8 rs).toArray T.uint32 (0,0)):=by rw[L.block gr (rlo r hF gr Ur),rls r hF Ur];exact QR
    replace Ur:=Ur.mono (A:=((O 0).g,(O 0).g+1)::(w13.heap.size,w14.heap.size)::iv) λp hp=>by simp[hp]
    have VV:de w14 (Cf w (((O 0).g,(O 0).g+1)::(w13.heap.size,w14.heap.size)::iv)) v13 (n / m):=by
     have:=hL.trimmed;rw[hq]at this;exact this.cU λk K=>.inr ⟨be,_,_,aF,be,be⟩
    generalize ((O 0).g,(O 0).g+1)::(w13.heap.size,w14.heap.size)::iv=Ps at*
    refine cS (cR (GT:=λ_ _ v F=>dW F (λx=>x=gr) v (eK rs)) (λO J r=>fS (λg V=>by rw[V];exact rlo r hF gr Ur) (RO J (by rw[rls r hF Ur];exact hgr14))) ?_);rintro O w15 v15 w16 r L hb16 hL;replace W:=W.tr hb16;replace VV:=VV.cV (A:=(w15.heap.size,w16.heap.size)::Ps) r hF L λx Z=>aD _ Z;replace hL:=hL.cU (S':=Cf w ((w15.heap.size,w16.heap.size)::Ps)) λg V=>by rw[V];exact Ur.cons
    generalize (w15.heap.size,w16.heap.size)::Ps=QA at*
    have Xd:(eK rs).length<=rs.length:=by
     obtain⟨_,_,k,_,K⟩:=fH rs;rw[K];simp;omega
    refine cS (cR (GT:=λ_ J v F=>de F (Nf J F) v (val (eK rs) / 2^b)) (λO J r=>MU (rlo r hF) (dW.rel hL r hF) be QM) ?_);rintro O w17 v17 w18 r L hb18 hr;replace W:=W.tr hb18;rw[(fH rs).1,hrem]at hr;have WY:=hr.ef (S:=FF) r.cY (iv:=(w17.heap.size,w18.heap.size)::QA) aF;replace VV:=VV.cV (A:=(w17.heap.size,w18.heap.size)::QA) r hF L λx Z=>aD _ Z;generalize (w17.heap.size,w18.heap.size)::QA=QE at*
    intro I8 w19 r3;exact⟨_,rfl,W.tr r3.cg,_,_,rfl,(VV.rel r3 hF).cU λg V=>Cv.nw V r3,((WY.rel r3 hF).cU λg V=>Cv.nw V r3).cU λg V=>V.elim (λh=>h.elim) .inr⟩
def GD{m:Nat}(G:Old S w)(E:de w S v n)(hm:de w S u m)(TY:ln n<=100000000000)(Qi:ln m<=100000000000):
  eH PG Fd.vw #[v,u] w (eV w λv' F=>de F (Nw S w F) v' (Nat.gcd n m)):=by
 refine yj ce ?_
 refine⟨(Value×Nat)×(Value×Nat)×Iv×World,λz=>⟨[(0,.o (.v z.1.1)),(1,.o (.v z.2.1.1))],[],0,z.2.2.1,z.2.2.2⟩,λz=>z.2.1.2,
  λz=>Bq w z.2.2.2/\de z.2.2.2 (Cv S w.heap.size z.2.2.1) z.1.1 z.1.2/\de z.2.2.2 (Cv S w.heap.size z.2.2.1) z.2.1.1 z.2.1.2/\ln z.1.2<=100000000000/\ln z.2.1.2<=100000000000/\Nat.gcd z.1.2 z.2.1.2=Nat.gcd n m,?_,?_⟩
 .intro O J r
  exact⟨((v,n),(u,m),[],J),⟨r.cg,(E.cW λg V=>r.cg.block g (G g V)).cU λ_ V=>.inl V,(hm.cW λg V=>r.cg.block g (G g V)).cU λ_ V=>.inl V,TY,Qi,rfl⟩,
   Sub.gen [] r trivial ⟨rfl,rfl,trivial⟩ trivial (by simp[kN,SV.sc,At.sc]) d8 ce⟩
 .rintro⟨⟨vx,x⟩,⟨vy,y⟩,iv,w1⟩ ⟨W,Z,hy,RA,RZ,V⟩;dsimp only at W Z hy RA RZ V ⊢;have hyN:=hy;obtain⟨p,rfl,Rk,Rz⟩:=hy.la;have QL:=eE p.lm Rz;rw[Rk]at QL;apply bS<;>intro h
  .have h:0<p.ls.length:=by
    have:(p.ls.length:Int)>0:=aK h;omega
   have Sk:0<y:=by
    rcases bB y with h0|h0
    .rw[h0]at QL;rw[NU]at QL;omega
    .exact h0
   refine cS (cR (GT:=λ_ J v F=>∃q r,v= .tuple #[q,r]/\de F (Nf J F) q (x / y)/\de F (Nw (Cv S w.heap.size iv) J F) r (x % y)) (λO J r=>nF (rlo r G) (Z.rel r G) (hyN.rel r G) Sk RA) ?_);rintro O w3 v3 w4 r L Rb ⟨q,rm,rfl,-,hr⟩;replace W:=W.tr Rb;have WY:de w4 (Cv S w.heap.size ((w3.heap.size,w4.heap.size)::iv)) rm (x % y):=hr.cU λg V=>Nw.cv V r.cY;have hyN:=hyN.cV (A:=(w3.heap.size,w4.heap.size)::iv) r G L λx Z=>aD _ Z;generalize (w3.heap.size,w4.heap.size)::iv=iv2 at*
   intro Id w5 r5
   refine⟨((_,y),(rm,x % y),iv2,w5),⟨W.tr r5.cg,hyN.rel r5 G,WY.rel r5 G,RZ,aR (fK (Nat.le_of_lt (cL x Sk))) RZ,?_⟩,
    Sub.gen [] r5 trivial ⟨rfl,rfl,trivial⟩ trivial (by simp[kN,SV.sc,At.sc]) d8 ce,cL x Sk⟩
   dsimp only
   rw[<-V,Nat.gcd_comm x y,Nat.gcd_rec y x,Nat.gcd_comm]
  .have h:p.ls.length=0:=by
    have:¬(p.ls.length:Int)>0:=aL h;omega
   have Sk:y=0:=by
    have:=lJ y;rw[<-QL,h,jm]at this;omega
   rw[Sk,Nat.gcd_zero_right]at V;intro Id w5 r5;exact⟨_,rfl,W.tr r5.cg,by rw[<-V];exact(Z.rel r5 G).cU λg V=>Cv.nw V r5⟩
def sg(neg:Bool)(n:Nat):Int:=if neg then -(n:Int)else n
def KO(n:Nat):sg true n= -(n:Int):=rfl
def PY(n:Nat):sg false n=n:=rfl
def oN(b:Bool)(n:Nat):(sg b n).natAbs=n:=by cases b<;>simp[sg]
def wM(w:World)(S:Nat->Prop)(v:Value)(neg:Bool)(ls:List Nat):Prop:=∃lv,v= .agg #[.bool neg,lv]/\dW w S lv ls
def eP(w:World)(S:Nat->Prop)(v:Value)(z:Int):Prop:=∃nv,v= .agg #[.bool (decide (z<0)),nv]/\de w S nv z.natAbs
section
variable{S S':Nat->Prop}{H:Hp}{nx:Nat}{iv A:Iv}{B:Nat}{w J F:World}{O:Nat->Sx.eD}{v:Value}{z:Int}
def eP.cW(h:eP w S v z)(K:∀g,S g->F.heap[g]? =w.heap[g]?):eP F S v z:=by
 obtain⟨nv,Y,I⟩:=h;exact⟨nv,Y,I.cW K⟩
def eP.cU(h:eP w S v z)(K:∀g,S g->S' g):eP w S' v z:=by
 obtain⟨nv,Y,I⟩:=h;exact⟨nv,Y,I.cU K⟩
def eP.rel(h:eP w (Cv S B iv) v z)(r:Rel H nx iv B w O J)(G:∀g,S g->g<B):eP J (Cv S B iv) v z:=h.cW λ_ V=>rls r G V
def eP.cV(h:eP w (Cv S B iv) v z)(r:Rel H nx iv B w O J)(G:∀g,S g->g<B)(L:Ext J F)(hm:∀p,p∈iv->p∈A):eP F (Cv S B A) v z:=by
 obtain⟨nv,Y,I⟩:=h;exact⟨nv,Y,I.cV r G L hm⟩
def eP.ef(h:eP F (Nf J F) v z)(hB:B<=J.heap.size)(hm:(J.heap.size,F.heap.size)∈iv):eP F (Cv S B iv) v z:=h.cU λ_ V=>V.ef hB hm
end
def oO(h:k=ln n):0<k↔0<n:=by
 have Y:=@gn n 0;rw[jm]at Y;omega
def dW.shape(h:dW w S v ls):∃a n c,v= .slice a n c:=by
 obtain⟨a,c,h,_⟩:=h.sl;exact⟨a,_,c,h⟩
def de.shape(h:de w S v n):∃a n c,v= .slice a n c:=by
 obtain⟨_,h,_⟩:=h;exact h.shape
def dW.arg(h:dW w S v ls)(iv:Iv):dW w (Cv S w.heap.size iv) v ls:=h.cU λ_ h=>.inl h
def de.arg(h:de w S v n)(iv:Iv):de w (Cv S w.heap.size iv) v n:=h.cU λ_ h=>.inl h
def de.out(h:de w1 (Cv S w.heap.size iv) v n)(r:Rel H nx iv w.heap.size w1 O J)(G:Old S w):de J (Nw S w J) v n:=
 (h.rel r G).cU λ_ V=>Cv.nw V r
def eP.out(h:eP w1 (Cv S w.heap.size iv) v z)(r:Rel H nx iv w.heap.size w1 O J)(G:Old S w):eP J (Nw S w J) v z:=
 (h.rel r G).cU λ_ V=>Cv.nw V r
def neg_pos(h:k=ln n):decide ((k:Int)>0)=decide (-(n:Int)<0):=by
 have:=oO h;exact decide_eq_decide.2 be
def MV(w:World):Old FF w:=λ_ h=>h.elim
def oF:Old (λ_=>False) w:=MV w
def aBK{neg:Bool}(G:Old S w)(h:wM w S v neg ls):
  eH PG Fd.Aa #[v] w (eV w λv' F=>eP F (Nw S w F) v' (sg neg (val ls))):=by
 obtain⟨lv,rfl,hl⟩:=h;replace hl:=hl.arg [];refine GA ce ?_;refine cS (cR (GT:=λ_ _ v F=>dW F (Cv S w.heap.size []) v (eK ls)) (λO J r=>fS (rlo r G) (dW.rel hl r G)) ?_);rintro O w1 v1 F r L W hL;have hN:=hL.trimmed.cU (S':=Cv S w.heap.size [(w1.heap.size,F.heap.size)]) λ_ V=>V.cons;have Yu:=hN;obtain⟨p,rfl,Rk,Rz⟩:=hN.la;have QL:=eE p.lm Rz;rw[Rk]at QL
 cases neg
 .intro I8 w3 r3;exact⟨_,rfl,W.tr r3.cg,_,rfl,by rw[oN];exact Yu.out r3 G⟩
 .intro I8 w3 r3;exact⟨_,rfl,W.tr r3.cg,_,by rw[KO,<-neg_pos QL];rfl,by rw[oN];exact Yu.out r3 G⟩
def BF(G:Old S w)(h:eP w S v z)(TY:ln z.natAbs<=100000000000):
  eH PG Fd.nc #[v] w (eV w λv' F=>∃ls,wM F (Nf w F) v' (decide (z<0)) ls/\Nz ls/\val ls=z.natAbs):=by
 obtain⟨nv,rfl,E⟩:=h;obtain⟨ls,hl,hz,hv⟩:=E;replace hl:=hl.arg [];refine sF ce ?_;refine cS (cR (GT:=λ_ _ v F=>dW F (Cv S w.heap.size []) v (eK ls)) (λO J r=>fS (rlo r G) (dW.rel hl r G)) ?_);rintro O w1 v1 F r L W hL;rw[FP hz]at hL;have QL:=eE hl.lm hz;rw[hv]at QL;replace hL:=hL.cU (S':=Cv S w.heap.size [(w1.heap.size,F.heap.size)]) λ_ V=>V.cons;have hL2:=hL;obtain⟨p,rfl,hp⟩:=hL.la;have YU:(p.ls.length:Int)>0↔z≠0:=by
  have Y:=oO QL;rw[hp];omega
 subst hp;generalize N:decide (z<0)=b
 cases b
 all_goals
  refine cS (cR (GT:=λ_ J v F=>dW F (Nf J F) v p.ls) (λO J r=>Ix (rlo r G) (dW.rel hL2 r G) be) ?_);rintro O w3 v3 w4 r L Rb hc;replace W:=W.tr Rb;have hcL:=hc.ef (S:=FF) r.cY (iv:=(w3.heap.size,w4.heap.size)::[(w1.heap.size,F.heap.size)]) aF;obtain⟨a3,n3,c3,rfl⟩:=hcL.shape;intro Id w5 r5;refine⟨_,rfl,W.tr r5.cg,p.ls,⟨_,?_,(dW.rel hcL r5 oF).cU λ_ V=>Cv.nw V r5⟩,hz,hv⟩
 .rfl
 .have:decide ((p.ls.length:Int)>0)=true:=bY (YU.2 (by have:=aK N;omega));rw[<-this];rfl
def xT(h:eP w S v z):eH PG Fd.n0 #[v] w (eV w λv' _=>v'=iV z.sign):=by
 obtain⟨nv,rfl,E⟩:=h;obtain⟨p,rfl,Rk,Rz⟩:=E.la;have QL:=eE p.lm Rz;rw[Rk]at QL;have YU:=oO QL;generalize N:decide (z<0)=b;refine sE ce ?_;apply bS<;>intro h
 .have h:p.ls.length=0:=by have:=eq_of_beq h;omega
  have hz:z=0:=by omega
  subst hz;intro O F r;exact⟨_,rfl,r.cg,rfl⟩
 .have h:p.ls.length≠0:=λe=>by rw[e]at h;simp at h
  have hz:z≠0:=by omega
  cases b
  .have:=aL N;intro O F r;exact⟨_,rfl,r.cg,by rw[cJ be];rfl⟩
  .have:=aK N;intro O F r;exact⟨_,rfl,r.cg,by rw[cG be];rfl⟩
def qK(G:Old S w)(h:eP w S v z):eH PG Fd.nD #[v] w (eV w λv' F=>eP F (Nw S w F) v' (-z)):=by
 obtain⟨nv,rfl,E⟩:=h;have Tv:=E.arg [];obtain⟨p,rfl,Rk,Rz⟩:=E.la;have QL:=eE p.lm Rz;rw[Rk]at QL;have YU:=oO QL;have TR:(-z).natAbs=z.natAbs:=cP z;generalize N:decide (z<0)=b;refine qn ce ?_
 cases b
 .have:=aL N;have hd:decide ((p.ls.length:Int)>0)=decide (-z<0):=decide_eq_decide.2 be;intro O F r;exact⟨_,rfl,r.cg,_,by rw[<-hd];rfl,by rw[TR];exact Tv.out r G⟩
 .have:=aK N;have hd:decide (-z<0)=false:=bD be;intro O F r;exact⟨_,rfl,r.cg,_,by rw[hd];rfl,by rw[TR];exact Tv.out r G⟩
def eP.num(h:eP w S v z):∃a n c,v= .agg #[.bool (decide (z<0)),.slice a n c]/\de w S (.slice a n c) z.natAbs:=by
 obtain⟨nv,Y,I⟩:=h;obtain⟨a,n,c,rfl⟩:=I.shape;exact⟨a,n,c,Y,I⟩
def DM(G:Old S w)(Z:eP w S v x)(hy:eP w S u y)(RA:ln x.natAbs<=100000000000)(RZ:ln y.natAbs<=100000000000):
  eH PG Fd.nq #[v,u] w (eV w λv' F=>eP F (Nf w F) v' (x+y)):=by
 obtain⟨nx,rfl,SM⟩:=Z;obtain⟨ny,rfl,TL⟩:=hy;obtain⟨ax,lx,cx,rfl⟩:=SM.shape;obtain⟨ay,ly,cy,rfl⟩:=TL.shape;replace SM:=SM.arg [];replace TL:=TL.arg [];generalize Us:decide (x<0)=bx;generalize QM:decide (y<0)=b2;refine sM ce ?_;have Pp:bx=b2->(x+y).natAbs=x.natAbs+y.natAbs/\decide (x+y<0)=bx:=λe=>by
  cases bx<;>subst e
  .have Y:=aL Us;have I:=aL QM;exact⟨be,bD be⟩
  .have Y:=aK Us;have I:=aK QM;exact⟨be,bY be⟩
 have Xe:bx≠b2->y.natAbs<=x.natAbs->(x+y).natAbs=x.natAbs-y.natAbs/\(decide (x+y<0)=(bx&&decide (x.natAbs-y.natAbs≠0))):=λe h=>by
  cases bx
  .have Y:=aL Us
   cases b2
   .exact absurd rfl e
   have I:=aK QM;exact⟨be,by rw[Bool.false_and];exact bD be⟩
  .have Y:=aK Us
   cases b2
   .have I:=aL QM;exact⟨be,by rw[Bool.true_and];exact decide_eq_decide.2 be⟩
   .exact absurd rfl e
 have Vl:bx≠b2->x.natAbs<y.natAbs->(x+y).natAbs=y.natAbs-x.natAbs/\decide (x+y<0)=b2:=λe h=>by
  cases bx
  .have Y:=aL Us
   cases b2
   .exact absurd rfl e
   have I:=aK QM;exact⟨be,bY be⟩
  .have Y:=aK Us
   cases b2
   .have I:=aL QM;exact⟨be,bD be⟩
   .exact absurd rfl e
 by_cases QB:bx=b2
 .obtain⟨Y,I⟩:=Pp QB;subst QB
  cases bx
  all_goals
   refine dP (idO 9) ?_;refine cR (GT:=λ_ J v F=>de F (Nf J F) v (x.natAbs+y.natAbs)) (λO J r=>He (rlo r G) (SM.rel r G) (TL.rel r G) be be) ?_;rintro O w3 v3 w4 r L W E;have hN:=E.ef (S:=FF) r.cY (iv:=(w3.heap.size,w4.heap.size)::[]) aF;obtain⟨a3,n3,c3,rfl⟩:=hN.shape;intro Id w5 r5;exact⟨_,rfl,W.tr r5.cg,_,by rw[I];rfl,by rw[Y];exact hN.out r5 oF⟩
 .replace Xe:=Xe QB;replace Vl:=Vl QB;have hcmp:∀d:Int,d=qJ x.natAbs y.natAbs->(0<=d↔y.natAbs<=x.natAbs):=λd e=>by
   rw[e];unfold qJ;split
   .omega
   .split<;>omega
  cases bx<;>cases b2<;>first|exact absurd rfl QB|skip
  all_goals
   refine cS (cR (GT:=λ_ _ v _=>v=iV (qJ x.natAbs y.natAbs)) (λO J r=>JA (rlo r G) (SM.rel r G) (TL.rel r G)) ?_);rintro O w1 v1 F r L W rfl;replace SM:=SM.cV (A:=[(w1.heap.size,F.heap.size)]) r G L λx Z=>aD _ Z;replace TL:=TL.cV (A:=[(w1.heap.size,F.heap.size)]) r G L λx Z=>aD _ Z;apply bS<;>intro h
   .have h:=(hcmp _ rfl).1 (aK h);obtain⟨Y,I⟩:=Xe h;refine cS (cR (GT:=λ_ J v F=>de F (Nf J F) v (x.natAbs-y.natAbs)) (λO J r=>zM (rlo r G) (SM.rel r G) (TL.rel r G) h be) ?_);rintro O w3 v3 w4 r L Rb E;replace W:=W.tr Rb;have hN:=E.ef (S:=FF) r.cY (iv:=(w3.heap.size,w4.heap.size)::[(w1.heap.size,F.heap.size)]) aF;have Yu:=hN;obtain⟨p,rfl,Rk,Rz⟩:=hN.la;have QL:=eE p.lm Rz;rw[Rk]at QL;have YU:=oO QL;have hd:decide ((p.ls.length:Int)>0)=decide (x.natAbs-y.natAbs≠0):=decide_eq_decide.2 be;intro Id w5 r5;exact⟨_,rfl,W.tr r5.cg,_,by rw[I,<-hd];rfl,by rw[Y];exact Yu.out r5 oF⟩
   .have h:x.natAbs<y.natAbs:=by
     have h0:=aL h;have:=hcmp _ rfl;omega
    obtain⟨Y,I⟩:=Vl h;refine dP (idO 9) ?_;refine cR (GT:=λ_ J v F=>de F (Nf J F) v (y.natAbs-x.natAbs)) (λO J r=>zM (rlo r G) (TL.rel r G) (SM.rel r G) be be) ?_;rintro O w3 v3 w4 r L Rb E;replace W:=W.tr Rb;have hN:=E.ef (S:=FF) r.cY (iv:=(w3.heap.size,w4.heap.size)::[(w1.heap.size,F.heap.size)]) aF;obtain⟨a3,n3,c3,rfl⟩:=hN.shape;intro Id w5 r5;exact⟨_,rfl,W.tr r5.cg,_,by rw[I];rfl,by rw[Y];exact hN.out r5 oF⟩
def gW(G:Old S w)(Z:eP w S v x)(hy:eP w S u y)(RA:ln x.natAbs<=100000000000)(RZ:ln y.natAbs<=100000000000):
  eH PG Fd.nC #[v,u] w (eV w λv' F=>eP F (Nf w F) v' (x*y)):=by
 obtain⟨nx,rfl,SM⟩:=Z;obtain⟨ny,rfl,TL⟩:=hy;obtain⟨ax,lx,cx,rfl⟩:=SM.shape;obtain⟨ay,ly,cy,rfl⟩:=TL.shape;replace SM:=SM.arg [];replace TL:=TL.arg [];have TR:=Int.natAbs_mul x y;have Rv:decide (x*y<0)=((decide (x<0) != decide (y<0))&&decide (x.natAbs*y.natAbs≠0)):=by
  by_cases h0:x*y=0
  .rw[<-TR,h0];simp
  .have RI:x≠0:=λe=>h0 (by rw[e,Int.zero_mul]);have Sk:y≠0:=λe=>h0 (by rw[e,Int.mul_zero]);rw[<-TR,bY (show (x*y).natAbs≠0 by omega),Bool.and_true];by_cases Y:x<0<;>by_cases I:y<0
   .rw[bY Y,bY I];exact bD (by have:=Int.mul_pos_of_neg_of_neg Y I;omega)
   .rw[bY Y,bD I];exact bY (Int.mul_neg_of_neg_of_pos Y be)
   .rw[bD Y,bY I];exact bY (Int.mul_neg_of_pos_of_neg be I)
   .rw[bD Y,bD I];exact bD (by have:=Int.mul_nonneg (show 0<=x by omega) (show 0<=y by omega);omega)
 generalize decide (x<0)=bx at*
 generalize decide (y<0)=b2 at*
 refine qm ce ?_;refine cS (cR (GT:=λ_ J v F=>de F (Nf J F) v (x.natAbs*y.natAbs)) (λO J r=>Iz (rlo r G) (SM.rel r G) (TL.rel r G) be be) ?_);rintro O w3 v3 w4 r L W E;have hN:=E.ef (S:=FF) r.cY (iv:=(w3.heap.size,w4.heap.size)::[]) aF;have Yu:=hN;obtain⟨p,rfl,Rk,Rz⟩:=hN.la;have QL:=eE p.lm Rz;rw[Rk]at QL;have YU:=oO QL;have hd:decide ((p.ls.length:Int)>0)=decide (x.natAbs*y.natAbs≠0):=decide_eq_decide.2 be
 cases bx<;>cases b2
 all_goals
  intro Id w5 r5;exact⟨_,rfl,W.tr r5.cg,_,by rw[Rv,<-hd];rfl,by rw[TR];exact Yu.out r5 oF⟩
def BG(G:Old S w)(Z:eP w S v x)(hy:eP w S u y)(RA:ln x.natAbs<=100000000000)(RZ:ln y.natAbs<=100000000000):
  eH PG Fd.og #[v,u] w (eV w λv' _=>v'=iV (x-y).sign):=by
 have hxN:eP w (Cv S w.heap.size []) v x:=Z.cU λ_ h=>.inl h;have hyN:eP w (Cv S w.heap.size []) u y:=hy.cU λ_ h=>.inl h;obtain⟨nx,rfl,SM⟩:=Z;obtain⟨ny,rfl,TL⟩:=hy;obtain⟨ax,lx,cx,rfl⟩:=SM.shape;obtain⟨ay,ly,cy,rfl⟩:=TL.shape;refine tP ce ?_;refine dP (idO 6) ?_;refine cR (GT:=λ_ J v F=>eP F (Nw (Cv S w.heap.size []) J F) v (-y)) (λO J r=>qK (rlo r G) (hyN.rel r G)) ?_;rintro O w1 v1 F r L W hm;have VW:eP F (Cv S w.heap.size [(w1.heap.size,F.heap.size)]) v1 (-y):=hm.cU λ_ V=>Nw.cv V r.cY;replace hxN:=hxN.cV (A:=[(w1.heap.size,F.heap.size)]) r G L λx Z=>aD _ Z;generalize [(w1.heap.size,F.heap.size)]=iv at*
 have hmN2:=VW;obtain⟨am,lm,cm,rfl,-⟩:=VW.num;refine cR (GT:=λ_ J v F=>eP F (Nf J F) v (x+ -y)) (λO J r=>DM (rlo r G) (hxN.rel r G) (hmN2.rel r G) RA (by rw[cP];exact RZ)) ?_;rintro O w3 v3 w4 r L Rb hp;replace W:=W.tr Rb;have Xc:=hp.ef (S:=S) r.cY (iv:=(w3.heap.size,w4.heap.size)::iv) aF;have Xf:=Xc;obtain⟨ap,lp,cp,rfl,-⟩:=Xc.num;refine cR (GT:=λ_ _ v _=>v=iV (x-y).sign) (λO J r=>xT (Xf.rel r G)) ?_;rintro O w5 v5 w6 r L Zj rfl;replace W:=W.tr Zj;intro In w7 r7;exact⟨_,rfl,W.tr r7.cg,rfl⟩
def Hf{x y:Int}(_hy:y≠0){q r:Nat}(hr:r<y.natAbs)(h:(if x<0 then x+(q*y.natAbs:Nat)=r else x=(q*y.natAbs:Nat)+r)):
  x / y=sg (decide (x<0) != decide (y<0)) q/\x % y=r:=by
 have key:∀b:Int,0<b->b=y.natAbs->x / b=(if x<0 then -(q:Int)else q)/\x % b=r:=λb N e=>by
  rw[Int.ediv_emod_unique N];rw[Int.natCast_mul]at h;rw[<-e]at h;split at h
  .rename_i Z;rw[aM Z,Int.mul_neg,Int.mul_comm b];omega
  .rename_i Z;rw[aJ Z,Int.mul_comm b];omega
 by_cases I:y<0
 .obtain⟨k1,k2⟩:=key (-y) be be;rw[Int.ediv_neg]at k1;rw[Int.emod_neg]at k2;refine⟨?_,k2⟩;rw[bY I];split at k1
  .rename_i Z;rw[bY Z];show x / y=(q:Int)
   omega
  .rename_i Z;rw[bD Z];show x / y= -(q:Int)
   omega
 .obtain⟨k1,k2⟩:=key y be be;refine⟨?_,k2⟩;rw[bD I,k1];split
  .rename_i Z;rw[bY Z];rfl
  .rename_i Z;rw[bD Z];rfl
def Hg{b:Bool}(h:k=ln n):(b&&decide ((k:Int)>0))=decide (sg b n<0):=by
 have hp:=oO h
 cases b
 .rw[Bool.false_and];exact(bD (by simp[sg])).symm
 .rw[Bool.true_and,KO];exact decide_eq_decide.2 be
def GF(G:Old S w)(Z:eP w S v x)(hy:eP w S u y)(Sk:y≠0)(RA:ln x.natAbs<=100000000000)(RZ:ln y.natAbs<=100000000000):
  eH PG Fd.mD #[v,u] w (eV w λv' F=>∃q r,v'= .tuple #[q,r]/\eP F (Nf w F) q (x / y)/\eP F (Nw S w F) r (x % y)):=by
 obtain⟨ax,lx,cx,rfl,SM⟩:=Z.num;obtain⟨ay,ly,cy,rfl,TL⟩:=hy.num;replace SM:=SM.arg [];replace TL:=TL.arg [];have hyp:0<y.natAbs:=by omega
 have YV:=@Hf x y Sk;generalize Us:decide (x<0)=bx at*
 generalize QM:decide (y<0)=b2 at*
 refine pz ce ?_;refine cS (cR (GT:=λ_ J v F=>∃q r,v= .tuple #[q,r]/\de F (Nf J F) q (x.natAbs / y.natAbs)/\de F (Nw (Cv S w.heap.size []) J F) r (x.natAbs % y.natAbs)) (λO J r=>nF (rlo r G) (SM.rel r G) (TL.rel r G) hyp RA) ?_);rintro O w1 v1 F r L W ⟨q,rm,rfl,hq,Zl⟩;have VV:=hq.ef (S:=FF) r.cY (iv:=[(w1.heap.size,F.heap.size)]) aF;have WY:de F (Cv S w.heap.size [(w1.heap.size,F.heap.size)]) rm (x.natAbs % y.natAbs):=Zl.cU λg V=>Nw.cv V r.cY;replace TL:=TL.cV (A:=[(w1.heap.size,F.heap.size)]) r G L λx Z=>aD _ Z;clear r L hq Zl SM;generalize [(w1.heap.size,F.heap.size)]=iv at*
 have hdam:=Nat.div_add_mod x.natAbs y.natAbs;have QI:=cL x.natAbs hyp;have Uh:=Nat.div_le_self x.natAbs y.natAbs;generalize x.natAbs / y.natAbs=q0 at*
 generalize x.natAbs % y.natAbs=r0 at*
 have hlq:=fK Uh;have Yv:=VV;have Yw:=WY;obtain⟨pq,rfl,hpq1,hpq2⟩:=VV.la;obtain⟨pr,rfl,hpr1,hpr2⟩:=WY.la;have hpql:=eE pq.lm hpq2;rw[hpq1]at hpql;have hprl:=eE pr.lm hpr2;rw[hpr1]at hprl;have hrz:=oO hprl
 cases bx
 .have I:=aL Us;obtain⟨d1,d2⟩:=YV QI (q:=q0) (by rw[aJ I,bX];omega);have hd:(b2&&decide ((pq.ls.length:Int)>0))=decide (x / y<0):=by rw[d1,Bool.false_bne];exact Hg hpql
  have e1:de F (Cf w iv) (.slice pq.a pq.ls.length pq.c) (x / y).natAbs:=by rw[d1,oN];exact Yv
  have e2:de F (Cv S w.heap.size iv) (.slice pr.a pr.ls.length pr.c) (x % y).natAbs:=by rw[d2];exact Yw
  have e3:decide (x % y<0)=false:=bD be
  cases b2
  all_goals
   intro Id w5 r5;exact⟨_,rfl,W.tr r5.cg,_,_,rfl,⟨_,by rw[<-hd];rfl,e1.out r5 oF⟩,_,by rw[e3];rfl,e2.out r5 G⟩
 .have I:=aK Us;apply bS<;>intro h
  .have h:0<r0:=by
    have:(pr.ls.length:Int)>0:=aK h;omega
   obtain⟨d1,d2⟩:=YV (q:=q0+1) (r:=y.natAbs-r0) be (by
    rw[aM I,Nat.add_mul,bX q0,Nat.one_mul]
    omega)
   have hlq1:=HT q0 1;have Ta:ln 1=1:=by rfl
   refine dP [.x 0,.x 3,.x 4,.x 5,.x 1,.x 2,.x 6,.x 7,.x 8] ?_;refine cR (GT:=λ_ J v F=>de F (Nf J F) v (q0+1)) (λO J r=>?_) ?_
   .have hL:=(r.pB (id:=4) (ls:=[1]) rfl (by intro x Z;simp at Z;omega) ce).nat (by intro x Z;simp at Z;omega);have Pq:=r.low 4 _ rfl (r.nn 4 _ rfl (by intros;simp) ce);refine He (S:=λg=>Cf w iv g\/g=(O 4).g) (λg V=>V.elim (λV=>rlo r oF g V) λV=>be) ((Yv.rel r oF).cU λ_ V=>.inl V) (hL.cU λ_ V=>.inr V) be (by rw[Ta];omega)
   rintro O w3 v3 w4 r L Rb hp;replace W:=W.tr Rb;have Xc:=hp.ef (S:=FF) r.cY (iv:=(w3.heap.size,w4.heap.size)::iv) aF;replace TL:=TL.cV (A:=(w3.heap.size,w4.heap.size)::iv) r G L λx Z=>aD _ Z;have hrN3:=Yw.cV (A:=(w3.heap.size,w4.heap.size)::iv) r G L λx Z=>aD _ Z;clear r L hp Rb VV Yv WY Yw;generalize (w3.heap.size,w4.heap.size)::iv=iv2 at*
   have Xf:=Xc;obtain⟨pp,rfl,hpp1,hpp2⟩:=Xc.la;have hppl:=eE pp.lm hpp2;rw[hpp1]at hppl;refine cR (GT:=λ_ J v F=>de F (Nf J F) v (y.natAbs-r0)) (λO J r=>zM (rlo r G) (TL.rel r G) (hrN3.rel r G) be be) ?_;rintro O w5 v5 w6 r L Zj hm;replace W:=W.tr Zj;have VW:=hm.ef (S:=FF) r.cY (iv:=(w5.heap.size,w6.heap.size)::iv2) aF;replace Xf:=Xf.cV (A:=(w5.heap.size,w6.heap.size)::iv2) r oF L λx Z=>aD _ Z;clear r L hm Zj Xc hrN3 TL;generalize (w5.heap.size,w6.heap.size)::iv2=Ps at*
   obtain⟨am,lm,cm,rfl⟩:=VW.shape;have hd:(!b2&&decide ((pp.ls.length:Int)>0))=decide (x / y<0):=by rw[d1,Bool.true_bne];exact Hg hppl
   have e1:de w6 (Cf w Ps) (.slice pp.a pp.ls.length pp.c) (x / y).natAbs:=by rw[d1,oN];exact Xf
   have e2:de w6 (Cf w Ps) (.slice am lm cm) (x % y).natAbs:=by rw[d2];exact VW
   have e3:decide (x % y<0)=false:=bD be
   cases b2
   all_goals
    intro Id w5 r5;exact⟨_,rfl,W.tr r5.cg,_,_,rfl,⟨_,by rw[<-hd];rfl,e1.out r5 oF⟩,_,by rw[e3];rfl,(e2.out r5 oF).cU λg V=>V.elim (λh=>h.elim) .inr⟩
  .have h:r0=0:=by
    have:¬(pr.ls.length:Int)>0:=aL h;omega
   subst h;obtain⟨d1,d2⟩:=YV QI (q:=q0) (by rw[aM I,bX];omega);have hd:(!b2&&decide ((pq.ls.length:Int)>0))=decide (x / y<0):=by rw[d1,Bool.true_bne];exact Hg hpql
   have e1:de F (Cf w iv) (.slice pq.a pq.ls.length pq.c) (x / y).natAbs:=by rw[d1,oN];exact Yv
   have e2:de F (Cv S w.heap.size iv) (.slice pr.a pr.ls.length pr.c) (x % y).natAbs:=by rw[d2];exact Yw
   have e3:decide (x % y<0)=false:=bD be
   cases b2
   all_goals
    intro Id w5 r5;exact⟨_,rfl,W.tr r5.cg,_,_,rfl,⟨_,by rw[<-hd];rfl,e1.out r5 oF⟩,_,by rw[e3];rfl,e2.out r5 G⟩
def lD(n:Int)(w:World)(Y: -9223372036854775808<=n)(I:n<=9223372036854775807):
  eH PG Fd.yE #[iV n] w (eV w λv' F=>eP F (Nf w F) v' n):=by
 have key:∀(m:Nat),m=n.natAbs->m<18446744073709551616/\val [m % 4294967296,m / 4294967296]=n.natAbs/\m / 4294967296<4294967296:=λm e=>by
  refine⟨be,?_,be⟩;simp only[val]
  omega
 refine Av ce ?_;refine⟨if n<0 then n+18446744073709551616 else n,by show n % 18446744073709551616=_;split<;>omega,?_⟩;apply bS<;>intro h
 .have h:=aK h;rw[aM h];obtain⟨m,hm⟩:∃m,m=n.natAbs:=⟨_,rfl⟩
  obtain⟨k1,k2,k3⟩:=key m hm;refine⟨(m:Int),by show(0-(n+18446744073709551616)) % 18446744073709551616=_;omega,((m % 4294967296:Nat):Int),fR m,bv,((m / 2^32:Nat):Int),nG 32 bv,((m / 4294967296:Nat):Int),by rw[fR,bZ be],?_⟩;refine gJ (GT:=λO _ v F=>dW F (λg=>g=(O 1).g) v (eK [m % 4294967296,m / 4294967296])) (H':=[(0,.box T.number [.v (.bool false),.v nls])]) 1 rfl ce ⟨rfl,trivial⟩ rfl (λO J r=>r.nn 1 _ rfl (by intros;simp) ce) (λO J r=>?_) ?_
  .have hL:=r.pB (id:=1) (ls:=[m % 4294967296,m / 4294967296]) rfl (by intro x Z;simp at Z;omega) ce;exact fS (λg V=>by rw[V];exact(r.low 1 _ rfl (r.nn 1 _ rfl (by intros;simp) ce)).2) hL
  rintro O w1 v1 F r L W hL;have Pq:=r.low 1 _ rfl (r.nn 1 _ rfl (by intros;simp) ce);have hs:=L.size;generalize (O 1).g=g0 at*
  have hN:de F (Cf w [(g0,g0+1),(w1.heap.size,F.heap.size)]) v1 n.natAbs:=by
   have:=hL.trimmed;rw[k2]at this;exact this.cU λk K=>.inr ⟨be,g0,g0+1,ce,be,be⟩
  generalize [(g0,g0+1),(w1.heap.size,F.heap.size)]=iv at*
  obtain⟨a3,n3,c3,rfl⟩:=hN.shape;intro Id w5 r5;exact⟨_,rfl,W.tr r5.cg,_,rfl,hN.out r5 oF⟩
 .have h:=aL h;rw[aJ h];obtain⟨m,hm⟩:∃m,m=n.natAbs:=⟨_,rfl⟩
  obtain⟨k1,k2,k3⟩:=key m hm;have hmn:n=(m:Int):=by omega
  refine⟨((m % 4294967296:Nat):Int),by rw[hmn];exact fR m,bv,((m / 2^32:Nat):Int),by rw[hmn];exact nG 32 bv,((m / 4294967296:Nat):Int),by rw[fR,bZ be],?_⟩;refine gJ (GT:=λO _ v F=>dW F (λg=>g=(O 1).g) v (eK [m % 4294967296,m / 4294967296])) (H':=[(0,.box T.number [.v (.bool false),.v nls])]) 1 rfl ce ⟨rfl,trivial⟩ rfl (λO J r=>r.nn 1 _ rfl (by intros;simp) ce) (λO J r=>?_) ?_
  .have hL:=r.pB (id:=1) (ls:=[m % 4294967296,m / 4294967296]) rfl (by intro x Z;simp at Z;omega) ce;exact fS (λg V=>by rw[V];exact(r.low 1 _ rfl (r.nn 1 _ rfl (by intros;simp) ce)).2) hL
  rintro O w1 v1 F r L W hL;have Pq:=r.low 1 _ rfl (r.nn 1 _ rfl (by intros;simp) ce);have hs:=L.size;generalize (O 1).g=g0 at*
  have hN:de F (Cf w [(g0,g0+1),(w1.heap.size,F.heap.size)]) v1 n.natAbs:=by
   have:=hL.trimmed;rw[k2]at this;exact this.cU λk K=>.inr ⟨be,g0,g0+1,ce,be,be⟩
  generalize [(g0,g0+1),(w1.heap.size,F.heap.size)]=iv at*
  obtain⟨a3,n3,c3,rfl⟩:=hN.shape;intro Id w5 r5;exact⟨_,rfl,W.tr r5.cg,_,rfl,hN.out r5 oF⟩
def j3(w:World)(S:Nat->Prop)(v:Value)(z:Int):Prop:=∃neg ls,wM w S v neg ls/\sg neg (val ls)=z
def dV(w:World)(S:Nat->Prop)(v:Value)(z:Int):Prop:=∃ls,wM w S v (decide (z<0)) ls/\Nz ls/\val ls=z.natAbs
def DN(z:Int):sg (decide (z<0)) z.natAbs=z:=by
 by_cases h:z<0
 .rw[bY h,KO];omega
 .rw[bD h,PY];omega
def dV.r(h:dV w S v z):j3 w S v z:=by
 obtain⟨ls,Y,I,h3⟩:=h;exact⟨_,ls,Y,by rw[h3,DN]⟩
section
variable{S S':Nat->Prop}{H:Hp}{nx:Nat}{iv A:Iv}{B:Nat}{w J F:World}{O:Nat->Sx.eD}{v:Value}{z:Int}{neg:Bool}{ls:List Nat}
def wM.cW(h:wM w S v neg ls)(K:∀g,S g->F.heap[g]? =w.heap[g]?):wM F S v neg ls:=by
 obtain⟨lv,Y,I⟩:=h;exact⟨lv,Y,I.cW K⟩
def wM.cU(h:wM w S v neg ls)(K:∀g,S g->S' g):wM w S' v neg ls:=by
 obtain⟨lv,Y,I⟩:=h;exact⟨lv,Y,I.cU K⟩
def j3.cW(h:j3 w S v z)(K:∀g,S g->F.heap[g]? =w.heap[g]?):j3 F S v z:=by
 obtain⟨n,l,Y,I⟩:=h;exact⟨n,l,Y.cW K,I⟩
def j3.cU(h:j3 w S v z)(K:∀g,S g->S' g):j3 w S' v z:=by
 obtain⟨n,l,Y,I⟩:=h;exact⟨n,l,Y.cU K,I⟩
def dV.cW(h:dV w S v z)(K:∀g,S g->F.heap[g]? =w.heap[g]?):dV F S v z:=by
 obtain⟨l,Y,I⟩:=h;exact⟨l,Y.cW K,I⟩
def dV.cU(h:dV w S v z)(K:∀g,S g->S' g):dV w S' v z:=by
 obtain⟨l,Y,I⟩:=h;exact⟨l,Y.cU K,I⟩
def j3.rel(h:j3 w (Cv S B iv) v z)(r:Rel H nx iv B w O J)(G:∀g,S g->g<B):j3 J (Cv S B iv) v z:=h.cW λ_ V=>rls r G V
def dV.rel(h:dV w (Cv S B iv) v z)(r:Rel H nx iv B w O J)(G:∀g,S g->g<B):dV J (Cv S B iv) v z:=h.cW λ_ V=>rls r G V
def j3.cV(h:j3 w (Cv S B iv) v z)(r:Rel H nx iv B w O J)(G:∀g,S g->g<B)(L:Ext J F)(hm:∀p,p∈iv->p∈A):j3 F (Cv S B A) v z:=
 ((h.rel r G).cW λg V=>L.block g (rlo r G g V)).cU λ_ V=>V.mono hm
def dV.cV(h:dV w (Cv S B iv) v z)(r:Rel H nx iv B w O J)(G:∀g,S g->g<B)(L:Ext J F)(hm:∀p,p∈iv->p∈A):dV F (Cv S B A) v z:=
 ((h.rel r G).cW λg V=>L.block g (rlo r G g V)).cU λ_ V=>V.mono hm
def dV.ef(h:dV F (Nf J F) v z)(hB:B<=J.heap.size)(hm:(J.heap.size,F.heap.size)∈iv):dV F (Cv S B iv) v z:=h.cU λ_ V=>V.ef hB hm
def j3.shape(h:j3 w S v z):∃b a n c,v= .agg #[.bool b,.slice a n c]:=by
 obtain⟨b,l,⟨lv,Y,I⟩,_⟩:=h;obtain⟨a,n,c,rfl⟩:=I.shape;exact⟨b,a,n,c,Y⟩
def eP.old(h:eP F (Nw (Cv S B iv) J F) v z)(hB:B<=J.heap.size):eP F (Cv S B ((J.heap.size,F.heap.size)::iv)) v z:=h.cU λ_ V=>Nw.cv V hB
end
def dV.out(h:dV w1 (Cv S w.heap.size iv) v z)(r:Rel H nx iv w.heap.size w1 O J)(G:Old S w):dV J (Nw S w J) v z:=
 (h.rel r G).cU λ_ V=>Cv.nw V r
def GG(G:Old S w)(h:j3 w S v z):eH PG Fd.Aa #[v] w (eV w λv' F=>eP F (Nw S w F) v' z):=by
 obtain⟨n,l,Y,rfl⟩:=h;exact aBK G Y
def JD(n:Int)(w:World)(Y: -9223372036854775808<=n)(I:n<=9223372036854775807):
  eH PG Fd.Fv #[iV n] w (eV w λv' F=>dV F (Nf w F) v' n):=by
 have TY:ln n.natAbs<=2:=gn.2 (by show n.natAbs<4294967296^2;omega);refine Fy ce ?_;conv=>whnf
 refine cS (cR (GT:=λ_ J v F=>eP F (Nf J F) v n) (λO J r=>lD n J Y I) ?_);rintro O w1 v1 F r L W E;have hN:=E.ef (S:=FF) r.cY (iv:=[(w1.heap.size,F.heap.size)]) aF;clear r L E;generalize [(w1.heap.size,F.heap.size)]=iv at*
 have Yu:=hN;obtain⟨a1,l1,c1,rfl,-⟩:=hN.num;conv=>whnf
 refine cS (cR (GT:=λ_ J v F=>dV F (Nf J F) v n) (λO J r=>BF (rlo r oF) (Yu.rel r oF) be) ?_);rintro O w3 v3 w4 r L Rb hc;replace W:=W.tr Rb;have hC:=hc.ef (S:=FF) r.cY (iv:=(w3.heap.size,w4.heap.size)::iv) aF;clear r L hc Rb hN Yu;generalize (w3.heap.size,w4.heap.size)::iv=iv2 at*
 have YW:=hC;obtain⟨b5,a5,l5,c5,rfl⟩:=hC.r.shape;conv=>whnf
 intro Id w5 r5;exact⟨_,rfl,W.tr r5.cg,YW.out r5 oF⟩
def eP.shape(h:eP w S v z):∃b a n c,v= .agg #[.bool b,.slice a n c]:=by
 obtain⟨a,n,c,Y,_⟩:=h.num;exact⟨_,a,n,c,Y⟩
def dV.shape(h:dV w S v z):∃b a n c,v= .agg #[.bool b,.slice a n c]:=h.r.shape
def dO(x y:Int):ln (x*y).natAbs<=ln x.natAbs+ln y.natAbs:=by
 rw[Int.natAbs_mul];exact PH _ _
def GH(G:Old S w)(Z:j3 w S v x)(hy:j3 w S u y)(RA:ln x.natAbs<=10000000000)(RZ:ln y.natAbs<=10000000000):
  eH PG Fd.pf #[v,u] w (eV w λv' F=>(y=0/\v'= .tuple #[.agg #[.bool false,nls],.agg #[.bool false,nls],iV 9])\/
   (y≠0/\∃q r,v'= .tuple #[q,r,iV 0]/\dV F (Nf w F) q (x / y)/\dV F (Nf w F) r (x % y))):=by
 have hlq:=fK (show (x / y).natAbs<=x.natAbs from Int.natAbs_ediv_le_natAbs x y);have W:=bR w;replace Z:=Z.cU (S':=Cv S w.heap.size []) λ_ h=>.inl h;replace hy:=hy.cU (S':=Cv S w.heap.size []) λ_ h=>.inl h;obtain⟨bx,ax,lx,cx,rfl⟩:=Z.shape;obtain⟨b2,ay,ly,cy,rfl⟩:=hy.shape;refine ya ce ?_;refine cS (cR (GT:=λ_ J v F=>eP F (Nw (Cv S w.heap.size []) J F) v y) (λO J r=>GG (rlo r G) (hy.rel r G)) ?_);rintro O QJ v1 QH r L N E;replace W:=W.tr N;replace Z:=Z.cV (A:=(QJ.heap.size,QH.heap.size)::[]) r G L λx Z=>aD _ Z;clear hy;have hY:=E.old r.cY;clear r L N E;generalize (QJ.heap.size,QH.heap.size)::[]=Pt at*
 obtain⟨A0,A1,A2,A3,rfl⟩:=hY.shape;refine cS (cE W (pE (iV y.sign)) (λO J r=>xT (hY.rel r G)) ?_);rintro O _ _ _ iv2 r L W h_ rfl;replace Z:=Z.cV r G L (mC h_);replace hY:=hY.cV r G L (mC h_);clear r L;apply bS<;>intro h
 .have h:y=0:=bj.1 (eq_of_beq h);exact rtn W λGE we re=>.inl ⟨h,rfl⟩
 .have h:y≠0:=λe=>by rw[e]at h;exact absurd h bv
  have Yt:=fK (show (x % y).natAbs<=y.natAbs by have:=Int.emod_nonneg x h;have:=Int.emod_lt x h;omega);refine dP [.x 0,.x 2,.p 7,.p 8,.x 1,.x 3,.x 4,.x 5,.x 6,.x 7,.x 8,.x 9,.x 10] ?_;refine cR (GT:=λ_ J v F=>eP F (Nw (Cv S w.heap.size iv2) J F) v x) (λO J r=>GG (rlo r G) (Z.rel r G)) ?_;rintro O Qh v3 Q7 r L N E;replace W:=W.tr N;clear Z;replace hY:=hY.cV (A:=(Qh.heap.size,Q7.heap.size)::iv2) r G L λx Z=>aD _ Z;have hX:=E.old r.cY;clear r L N E;generalize (Qh.heap.size,Q7.heap.size)::iv2=Ps at*
  obtain⟨C0,C1,C2,C3,rfl⟩:=hX.shape;refine cR (GT:=λ_ J v F=>∃q r,v= .tuple #[q,r]/\eP F (Nf J F) q (x / y)/\eP F (Nw (Cv S w.heap.size Ps) J F) r (x % y)) (λO J r=>GF (rlo r G) (hX.rel r G) (hY.rel r G) h be be) ?_;rintro O Rg v4 RT r L N ⟨qv,rv,rfl,S8,RF⟩;replace W:=W.tr N;clear hY;clear hX;have hQ:=S8.ef (S:=FF) r.cY (iv:=(Rg.heap.size,RT.heap.size)::Ps) aF;have hR:=RF.old r.cY;clear r L N;generalize (Rg.heap.size,RT.heap.size)::Ps=QA at*
  obtain⟨s4_0a,s4_0b,s4_0c,s4_0d,rfl⟩:=hQ.shape;obtain⟨s4_1a,s4_1b,s4_1c,s4_1d,rfl⟩:=hR.shape;refine dP [.x 0,.x 2,.x 1,.x 3,.x 4,.x 5,.x 6] ?_;refine cE W (pR dV (x / y)) (λO J r=>BF (rlo r oF) (hQ.rel r oF) be) ?_;rintro O _ _ _ QE r L W h_ E;clear hQ;replace hR:=hR.cV r G L (mC h_);have hC:=E.cU (nw r h_);clear r L E;obtain⟨E0,E1,E2,E3,rfl⟩:=hC.shape;refine cE W (pR dV (x % y)) (λO J r=>BF (rlo r G) (hR.rel r G) be) ?_;rintro O _ _ _ Q8 r L W h_ E;clear hR;replace hC:=hC.cV r oF L (mC h_);have hD:=E.cU (nw r h_);clear r L E;obtain⟨F0,F1,F2,F3,rfl⟩:=hD.shape;exact rtn W λGE we re=>.inr ⟨h,_,_,rfl,hC.out re oF,hD.out re oF⟩
end Go.Ex
namespace Go.Ex
open Go Go.Sx
def zy{x y:Int}(hy:0<y)(Z:x≠0):
  (Rat.divInt x y).num.natAbs=x.natAbs / Nat.gcd x.natAbs y.natAbs/\(Rat.divInt x y).den=y.natAbs / Nat.gcd x.natAbs y.natAbs/\decide ((Rat.divInt x y).num<0)=decide (x<0):=by
 have V:0<Nat.gcd x.natAbs y.natAbs:=cK _ be;have hs:y.sign=1:=cJ hy;have hc:(y.gcd x:Int)=(Nat.gcd x.natAbs y.natAbs:Nat):=by rw[Int.gcd_comm];rfl
 have hdx:((Nat.gcd x.natAbs y.natAbs:Nat):Int) ∣ x:=by
  rw[<-Int.natAbs_dvd_natAbs];exact Nat.gcd_dvd_left _ _
 have Y:(Rat.divInt x y).num=x / ((Nat.gcd x.natAbs y.natAbs:Nat):Int):=by
  rw[Rat.num_divInt,hs,Int.one_mul,hc]
 have hgi:0<((Nat.gcd x.natAbs y.natAbs:Nat):Int):=by omega
 refine⟨?_,?_,?_⟩
 .rw[Y,Int.natAbs_ediv_of_dvd hdx];rfl
 .rw[Rat.den_divInt,aJ be];have:y.gcd x=Nat.gcd x.natAbs y.natAbs:=by rw[Int.gcd_comm];rfl
  rw[this]
 .rw[Y];obtain⟨k,K⟩:=hdx;refine decide_eq_decide.2 ?_;have:x / ((Nat.gcd x.natAbs y.natAbs:Nat):Int)=k:=by
   conv=>lhs;lhs;rw[K]
   exact Int.mul_ediv_cancel_left _ be
  rw[this];generalize ((Nat.gcd x.natAbs y.natAbs:Nat):Int)=g at*
  subst K;constructor
  .intro h;exact Int.mul_neg_of_pos_of_neg hgi h
  .intro h;have h0:¬0<=k:=λhh=>by have:=Int.mul_nonneg (show 0<=g by omega) hh;omega
   omega
def Jw{a b:Nat}:ln (a / b)<=ln a:=fK (Nat.div_le_self a b)
def zz(y:Int):Rat.divInt 0 y=0:=Rat.zero_divInt y
end Go.Ex
namespace Go.Ex
open Go Go.Sx Go.Proofs
variable{b b2:Bool}{S:Nat->Prop}{q:Rat}{dv nv v:Value}{w:World}
def de.old{B:Nat}{iv:Iv}{J F:World}{n:Nat}(h:de F (Nw (Cv S B iv) J F) v n)(hB:B<=J.heap.size):de F (Cv S B ((J.heap.size,F.heap.size)::iv)) v n:=h.cU λ_ V=>Nw.cv V hB
def cw(w:World)(S:Nat->Prop)(v:Value)(q:Rat):Prop:=∃nv dv,v= .agg #[.bool (decide (q.num<0)),nv,.bool false,dv]/\de w S nv q.num.natAbs/\de w S dv q.den
def cw.cW{F:World}(h:cw w S v q)(K:∀g,S g->F.heap[g]? =w.heap[g]?):cw F S v q:=by
 obtain⟨n,d,Y,I,h3⟩:=h;exact⟨n,d,Y,I.cW K,h3.cW K⟩
def cw.cU{S':Nat->Prop}(h:cw w S v q)(K:∀g,S g->S' g):cw w S' v q:=by
 obtain⟨n,d,Y,I,h3⟩:=h;exact⟨n,d,Y,I.cU K,h3.cU K⟩
def cw.shape(h:cw w S v q):∃b a n c b2 a2 n2 c2,v= .agg #[.bool b,.slice a n c,.bool b2,.slice a2 n2 c2]:=by
 obtain⟨n,d,Y,I,h3⟩:=h;obtain⟨a,n,c,rfl⟩:=I.shape;obtain⟨a2,n2,c2,rfl⟩:=h3.shape;exact⟨_,a,n,c,_,a2,n2,c2,Y⟩
def cw.num(h:cw w S (.agg #[.bool b,nv,.bool b2,dv]) q):eP w S (.agg #[.bool b,nv]) q.num:=by
 obtain⟨n,d,Y,I,h3⟩:=h;simp at Y;obtain⟨rfl,rfl,rfl,rfl⟩:=Y;exact⟨_,rfl,I⟩
def cw.den(h:cw w S (.agg #[.bool b,nv,.bool b2,dv]) q):eP w S (.agg #[.bool b2,dv]) (q.den:Int):=by
 obtain⟨n,d,Y,I,h3⟩:=h;simp at Y;obtain⟨rfl,rfl,rfl,rfl⟩:=Y;exact⟨_,by rw[bD be],h3⟩
def cw.of(h:eP w S (.agg #[.bool b,nv]) q.num)(k:eP w S (.agg #[.bool b2,dv]) (q.den:Int)):cw w S (.agg #[.bool b,nv,.bool b2,dv]) q:=by
 obtain⟨n,Y,I⟩:=h;obtain⟨d,h3,h4⟩:=k;simp at Y h3;obtain⟨rfl,rfl⟩:=Y;obtain⟨rfl,rfl⟩:=h3;refine⟨_,_,?_,I,h4⟩;rw[bD (show ¬((q.den:Int)<0) by omega)]
section
variable{S S':Nat->Prop}{H:Hp}{nx:Nat}{iv A:Iv}{B:Nat}{w J F:World}{O:Nat->Sx.eD}{v:Value}{q:Rat}
def cw.rel(h:cw w (Cv S B iv) v q)(r:Rel H nx iv B w O J)(G:∀g,S g->g<B):cw J (Cv S B iv) v q:=h.cW λ_ V=>rls r G V
def cw.cV(h:cw w (Cv S B iv) v q)(r:Rel H nx iv B w O J)(G:∀g,S g->g<B)(L:Ext J F)(hm:∀p,p∈iv->p∈A):cw F (Cv S B A) v q:=
 ((h.rel r G).cW λg V=>L.block g (rlo r G g V)).cU λ_ V=>V.mono hm
def cw.ef(h:cw F (Nf J F) v q)(hB:B<=J.heap.size)(hm:(J.heap.size,F.heap.size)∈iv):cw F (Cv S B iv) v q:=h.cU λ_ V=>V.ef hB hm
def cw.old(h:cw F (Nw (Cv S B iv) J F) v q)(hB:B<=J.heap.size):cw F (Cv S B ((J.heap.size,F.heap.size)::iv)) v q:=h.cU λ_ V=>Nw.cv V hB
def cw.out{w0 w1:World}(h:cw w1 (Cv S w0.heap.size iv) v q)(r:Rel H nx iv w0.heap.size w1 O J)(G:Old S w0):cw J (Nw S w0 J) v q:=
 (h.rel r G).cU λ_ V=>Cv.nw V r
def cw.arg(h:cw w S v q)(iv:Iv):cw w (Cv S w.heap.size iv) v q:=h.cU λ_ h=>.inl h
end
def eP.nat{z:Int}(h:eP w S (.agg #[.bool b,nv]) z):b=decide (z<0)/\de w S nv z.natAbs:=by
 obtain⟨n,Y,I⟩:=h;simp at Y;obtain⟨rfl,rfl⟩:=Y;exact⟨rfl,I⟩
def xU{u:Value}{x y:Int}(G:Old S w)(Z:eP w S v x)(hy:eP w S u y)(Sk:y≠0)(RA:ln x.natAbs<=100000000000)(RZ:ln y.natAbs<=100000000000):
  eH PG Fd.Ab #[v,u] w (eV w λv' F=>cw F (Nf w F) v' (Rat.divInt x y)):=by
 have W:=bR w;replace Z:=Z.cU (S':=Cv S w.heap.size []) λ_ h=>.inl h;replace hy:=hy.cU (S':=Cv S w.heap.size []) λ_ h=>.inl h;obtain⟨bx,ax,lx,cx,rfl⟩:=Z.shape;obtain⟨b2,ay,ly,cy,rfl⟩:=hy.shape;have QZ:=hy.nat.1;refine CE ce ?_
 cases b2
 .have hyp:0<y:=by have:=aL QZ.symm;omega
  have hq:Rat.divInt x y=Rat.divInt x y:=rfl;have Zm:=Z.nat.1;refine cS (cE W (pE (iV (x).sign)) (λO J r=>xT (Z.rel r G)) ?_);rintro O QJ v1 QH Pt r L W h_ rfl;replace Z:=Z.cV r G L (mC h_);replace hy:=hy.cV r G L (mC h_);apply bS<;>intro h
  .have h:x=0:=bj.1 (eq_of_beq h);refine cS (cE W (pR eP 1) (λO J r=>lD 1 J bv bv) ?_);rintro O Qk v2 QP iv2 r L W h_ E;have hO:=E.cU (nw r h_);obtain⟨A0,A1,A2,A3,rfl⟩:=hO.shape;have e0:Rat.divInt x y=0:=by rw[hq,h,zz]
   exact rtn W λGE we re=>by rw[e0];exact cw.of ⟨_,rfl,de.nil _ _⟩ (hO.out re oF)
  .have h:x≠0:=λe=>by rw[e]at h;exact absurd h bv
   obtain⟨g1,g2,g3⟩:=zy hyp h;have VX:0<Nat.gcd (x).natAbs (y).natAbs:=cK _ be;have Yx:=Z.nat.2;have VY:=hy.nat.2;refine cS (cR (GT:=λ_ J v F=>de F (Nw (Cv S w.heap.size Pt) J F) v (Nat.gcd (x).natAbs (y).natAbs)) (λO J r=>GD (rlo r G) (Yx.rel r G) (VY.rel r G) be be) ?_);rintro O Qk v2 QP r L N E;replace W:=W.tr N;replace Yx:=Yx.cV (A:=(Qk.heap.size,QP.heap.size)::Pt) r G L λx Z=>aD _ Z;replace VY:=VY.cV (A:=(Qk.heap.size,QP.heap.size)::Pt) r G L λx Z=>aD _ Z;have hG:=E.old r.cY;generalize (Qk.heap.size,QP.heap.size)::Pt=iv2 at*
   obtain⟨A0,A1,A2,rfl⟩:=hG.shape;refine cS (cR (GT:=λ_ J v F=>∃q r,v= .tuple #[q,r]/\de F (Nf J F) q ((x).natAbs / Nat.gcd (x).natAbs (y).natAbs)/\de F (Nw (Cv S w.heap.size iv2) J F) r ((x).natAbs % Nat.gcd (x).natAbs (y).natAbs)) (λO J r=>nF (rlo r G) (Yx.rel r G) (hG.rel r G) VX be) ?_);rintro O Qh v3 Q7 r L N ⟨qvp,rvp,rfl,S8,RF⟩;replace W:=W.tr N;replace VY:=VY.cV (A:=(Qh.heap.size,Q7.heap.size)::iv2) r G L λx Z=>aD _ Z;replace hG:=hG.cV (A:=(Qh.heap.size,Q7.heap.size)::iv2) r G L λx Z=>aD _ Z;have hP:=S8.ef (S:=FF) r.cY (iv:=(Qh.heap.size,Q7.heap.size)::iv2) aF;have hPr:=RF.old r.cY;generalize (Qh.heap.size,Q7.heap.size)::iv2=Ps at*
   obtain⟨s3_0a,s3_0b,s3_0c,rfl⟩:=hP.shape;obtain⟨s3_1a,s3_1b,s3_1c,rfl⟩:=hPr.shape;refine cS (cR (GT:=λ_ J v F=>∃q r,v= .tuple #[q,r]/\de F (Nf J F) q ((y).natAbs / Nat.gcd (x).natAbs (y).natAbs)/\de F (Nw (Cv S w.heap.size Ps) J F) r ((y).natAbs % Nat.gcd (x).natAbs (y).natAbs)) (λO J r=>nF (rlo r G) (VY.rel r G) (hG.rel r G) VX be) ?_);rintro O Rg v4 RT r L N ⟨qvq,rvq,rfl,S8,RF⟩;replace W:=W.tr N;replace hP:=hP.cV (A:=(Rg.heap.size,RT.heap.size)::Ps) r oF L λx Z=>aD _ Z;have hQ:=S8.ef (S:=FF) r.cY (iv:=(Rg.heap.size,RT.heap.size)::Ps) aF;have hQr:=RF.old r.cY;generalize (Rg.heap.size,RT.heap.size)::Ps=QA at*
   obtain⟨s4_0a,s4_0b,s4_0c,rfl⟩:=hQ.shape;obtain⟨s4_1a,s4_1b,s4_1c,rfl⟩:=hQr.shape;exact rtn W λGE we re=>by rw[hq];exact cw.of ⟨_,by rw[g3,<-Zm],by rw[g1];exact hP.out re oF⟩ ⟨_,by rw[bD be],by rw[g2];exact hQ.out re oF⟩
 .have hyp:0< -y:=by have:=aK QZ.symm;omega
  have hq:Rat.divInt x y=Rat.divInt (-x) (-y):=(Rat.neg_divInt_neg _ _).symm;have nx:=cP x;have ny:=cP y;have hlx2:ln (-x).natAbs<=100000000000:=by rw[nx];exact RA
  have hly2:ln (-y).natAbs<=100000000000:=by rw[ny];exact RZ
  refine dP [.x 0,.x 2,.x 1,.x 3,.x 4,.x 5] ?_;refine cR (GT:=λ_ J v F=>eP F (Nw (Cv S w.heap.size []) J F) v (-x)) (λO J r=>qK (rlo r G) (Z.rel r G)) ?_;rintro O QJ v1 QH r L N E;replace W:=W.tr N;replace hy:=hy.cV (A:=(QJ.heap.size,QH.heap.size)::[]) r G L λx Z=>aD _ Z;have hA:=E.old r.cY;generalize (QJ.heap.size,QH.heap.size)::[]=Pt at*
  obtain⟨C0,C1,C2,C3,rfl⟩:=hA.shape;refine cR (GT:=λ_ J v F=>eP F (Nw (Cv S w.heap.size Pt) J F) v (-y)) (λO J r=>qK (rlo r G) (hy.rel r G)) ?_;rintro O Qk v2 QP r L N E;replace W:=W.tr N;replace hA:=hA.cV (A:=(Qk.heap.size,QP.heap.size)::Pt) r G L λx Z=>aD _ Z;have hB:=E.old r.cY;generalize (Qk.heap.size,QP.heap.size)::Pt=iv2 at*
  obtain⟨A0,A1,A2,A3,rfl⟩:=hB.shape;have Zm:=hA.nat.1;refine cS (cE W (pE (iV (-x).sign)) (λO J r=>xT (hA.rel r G)) ?_);rintro O _ _ _ Ps r L W h_ rfl;replace hA:=hA.cV r G L (mC h_);replace hB:=hB.cV r G L (mC h_);apply bS<;>intro h
  .have h: -x=0:=bj.1 (eq_of_beq h);refine cS (cE W (pR eP 1) (λO J r=>lD 1 J bv bv) ?_);rintro O Rg v4 RT QA r L W h_ E;have hO:=E.cU (nw r h_);obtain⟨E0,E1,E2,E3,rfl⟩:=hO.shape;have e0:Rat.divInt x y=0:=by rw[hq,h,zz]
   exact rtn W λGE we re=>by rw[e0];exact cw.of ⟨_,rfl,de.nil _ _⟩ (hO.out re oF)
  .have h: -x≠0:=λe=>by rw[e]at h;exact absurd h bv
   obtain⟨g1,g2,g3⟩:=zy hyp h;have VX:0<Nat.gcd (-x).natAbs (-y).natAbs:=cK _ be;have Yx:=hA.nat.2;have VY:=hB.nat.2;refine cS (cR (GT:=λ_ J v F=>de F (Nw (Cv S w.heap.size Ps) J F) v (Nat.gcd (-x).natAbs (-y).natAbs)) (λO J r=>GD (rlo r G) (Yx.rel r G) (VY.rel r G) be be) ?_);rintro O Rg v4 RT r L N E;replace W:=W.tr N;replace Yx:=Yx.cV (A:=(Rg.heap.size,RT.heap.size)::Ps) r G L λx Z=>aD _ Z;replace VY:=VY.cV (A:=(Rg.heap.size,RT.heap.size)::Ps) r G L λx Z=>aD _ Z;have hG:=E.old r.cY;generalize (Rg.heap.size,RT.heap.size)::Ps=QA at*
   obtain⟨E0,E1,E2,rfl⟩:=hG.shape;refine cS (cR (GT:=λ_ J v F=>∃q r,v= .tuple #[q,r]/\de F (Nf J F) q ((-x).natAbs / Nat.gcd (-x).natAbs (-y).natAbs)/\de F (Nw (Cv S w.heap.size QA) J F) r ((-x).natAbs % Nat.gcd (-x).natAbs (-y).natAbs)) (λO J r=>nF (rlo r G) (Yx.rel r G) (hG.rel r G) VX be) ?_);rintro O VZ v5 Ut r L N ⟨qvp,rvp,rfl,S8,RF⟩;replace W:=W.tr N;replace VY:=VY.cV (A:=(VZ.heap.size,Ut.heap.size)::QA) r G L λx Z=>aD _ Z;replace hG:=hG.cV (A:=(VZ.heap.size,Ut.heap.size)::QA) r G L λx Z=>aD _ Z;have hP:=S8.ef (S:=FF) r.cY (iv:=(VZ.heap.size,Ut.heap.size)::QA) aF;have hPr:=RF.old r.cY;generalize (VZ.heap.size,Ut.heap.size)::QA=QE at*
   obtain⟨s5_0a,s5_0b,s5_0c,rfl⟩:=hP.shape;obtain⟨s5_1a,s5_1b,s5_1c,rfl⟩:=hPr.shape;refine cS (cR (GT:=λ_ J v F=>∃q r,v= .tuple #[q,r]/\de F (Nf J F) q ((-y).natAbs / Nat.gcd (-x).natAbs (-y).natAbs)/\de F (Nw (Cv S w.heap.size QE) J F) r ((-y).natAbs % Nat.gcd (-x).natAbs (-y).natAbs)) (λO J r=>nF (rlo r G) (VY.rel r G) (hG.rel r G) VX be) ?_);rintro O Uu v6 Uv r L N ⟨qvq,rvq,rfl,S8,RF⟩;replace W:=W.tr N;replace hP:=hP.cV (A:=(Uu.heap.size,Uv.heap.size)::QE) r oF L λx Z=>aD _ Z;have hQ:=S8.ef (S:=FF) r.cY (iv:=(Uu.heap.size,Uv.heap.size)::QE) aF;have hQr:=RF.old r.cY;generalize (Uu.heap.size,Uv.heap.size)::QE=Q8 at*
   obtain⟨s6_0a,s6_0b,s6_0c,rfl⟩:=hQ.shape;obtain⟨s6_1a,s6_1b,s6_1c,rfl⟩:=hQr.shape;exact rtn W λGE we re=>by rw[hq];exact cw.of ⟨_,by rw[g3,<-Zm],by rw[g1];exact hP.out re oF⟩ ⟨_,by rw[bD be],by rw[g2];exact hQ.out re oF⟩
end Go.Ex
namespace Go.Ex
open Go Go.Sx
variable{a b:Int}
def rl(q:Rat):Nat:=max (ln q.num.natAbs) (ln q.den)
def fg(q:Rat):ln q.num.natAbs<=rl q:=Nat.le_max_left _ _
def PL(q:Rat):ln q.den<=rl q:=Nat.le_max_right _ _
def fD(q:Rat):ln ((q.den:Int)).natAbs<=rl q:=Nat.le_max_right _ _
def km(N:b≠0):rl (Rat.divInt a b)<=max (ln a.natAbs) (ln b.natAbs):=by
 have Y:ln (Rat.divInt a b).num.natAbs<=ln a.natAbs:=by
  rw[Rat.num_divInt];refine fK (aR (Int.natAbs_ediv_le_natAbs _ _) ?_);rw[Int.natAbs_mul,Int.natAbs_sign_of_ne_zero N,Nat.one_mul];exact ae _
 have I:ln (Rat.divInt a b).den<=ln b.natAbs:=by
  rw[Rat.den_divInt,aJ N];exact Jw
 unfold rl;omega
def jN(x y:Int):ln (x+y).natAbs<=max (ln x.natAbs) (ln y.natAbs)+1:=by
 have Y:=HT x.natAbs y.natAbs;have I:=fK (show (x+y).natAbs<=x.natAbs+y.natAbs by omega);omega
def gQ(q:Rat):(q.den:Int)≠0:=by have:=q.den_pos;omega
def vN(f g:Rat):f+g=Rat.divInt (f.num*g.den+g.num*f.den) (f.den*g.den):=by
 rw[<-Rat.divInt_add_divInt _ _ (gQ f) (gQ g),Rat.num_divInt_den,Rat.num_divInt_den]
def zF(f g:Rat):f*g=Rat.divInt (f.num*g.num) (f.den*g.den):=by
 rw[<-Rat.divInt_mul_divInt,Rat.num_divInt_den,Rat.num_divInt_den]
def Dm(f g:Rat):f / g=Rat.divInt (f.num*g.den) (f.den*g.num):=by
 rw[<-Rat.divInt_mul_divInt,Rat.num_divInt_den,<-Rat.inv_def,<-bO]
def ko(ha:a≠0)(N:b≠0):a*b≠0:=Int.mul_ne_zero ha N
def AF(f g:Rat):rl (f+g)<=rl f+rl g+1:=by
 have h:=km (a:=f.num*g.den+g.num*f.den) (ko (gQ f) (gQ g));rw[<-vN]at h;have Y:=jN (f.num*g.den) (g.num*f.den);have I:=dO f.num g.den;have h3:=dO g.num f.den;have h4:=dO f.den g.den;have:=fg f;have:=fg g;have:=fD f;have:=fD g;omega
def j7(f g:Rat):rl (f*g)<=rl f+rl g:=by
 have h:=km (a:=f.num*g.num) (ko (gQ f) (gQ g));rw[<-zF]at h;have I:=dO f.num g.num;have h4:=dO f.den g.den;have:=fg f;have:=fg g;have:=fD f;have:=fD g;omega
def HY(f:Rat){g:Rat}(V:g≠0):rl (f / g)<=rl f+rl g:=by
 have h:=km (a:=f.num*g.den) (ko (gQ f) (λe=>V (Rat.num_eq_zero.1 e)));rw[<-Dm]at h;have I:=dO f.num g.den;have h4:=dO f.den g.num;have:=fg f;have:=fg g;have:=fD f;have:=fD g;omega
def kT(f:Rat):rl (-f)=rl f:=by unfold rl;rw[Rat.neg_num,Rat.neg_den,cP]
def rs(q:Rat):Int:=q.num.sign
def vO(N:0<b):(Rat.divInt a b).num.sign=a.sign:=by
 by_cases ha:a=0
 .subst ha;rw[zz];rfl
 .obtain⟨Y,-,h3⟩:=zy N ha;have h3:=decide_eq_decide.1 h3;have h0:(Rat.divInt a b).num≠0:=λe=>by
   have h4:=Nat.div_pos (Nat.le_of_dvd be (Nat.gcd_dvd_left a.natAbs b.natAbs)) (cK a.natAbs (n:=b.natAbs) be);omega
  rcases Int.lt_or_gt_of_ne ha with h|h
  .rw[cG h,cG (h3.2 h)]
  .rw[cJ h,cJ be]
def Na(f g:Rat):(f.num*g.den-g.num*f.den).sign=rs (f-g):=by
 rw[rs,Rat.sub_eq_add_neg,vN,vO (Int.mul_pos (by have:=f.den_pos;omega) (by rw[Rat.neg_den];have:=g.den_pos;omega)),Rat.neg_num,Rat.neg_den,Int.neg_mul,<-Int.sub_eq_add_neg]
def ratio(a b:Int):Rat:=if b=0 then Rat.divInt a 1 else Rat.divInt a b
def Fe(a b:Int):rl (ratio a b)<=max (ln a.natAbs) (max 1 (ln b.natAbs)):=by
 unfold ratio;split
 .have:=km (a:=a) (b:=1) bv;have Y:ln (1:Int).natAbs=1:=by decide
  rw[Y]at this;omega
 .rename_i h;have:=km (a:=a) h;omega
end Go.Ex
