/- Texts X11 to X23: lemmas, each with its conditions. -/
import Derived.Test.YtgkpbdkechfgmaaGreatP3
namespace Go.Ex
open Go Go.Sx Go.Proofs
end Go.Ex
namespace Go.Sx
open Go Go.Ex Go.Proofs
variable{O:Nat->Sx.dL}
theorem Rel.bz{H:Hp}{nx:Nat}{iv:Iv}{B:Nat}{w J:World}(r:Rel H nx iv B w O J):B<=J.heap.size:=by have:=r.base;have:=r.size;omega
end Go.Sx
namespace Go.Ex
open Go Go.Sx Go.Proofs
end Go.Ex
namespace Go.Sx
open Go Go.Ex Go.Proofs
variable{ls:List Nat}{O:Nat->Sx.dL}
theorem Rel.uJ{H:Hp}{nx:Nat}{iv:Iv}{B:Nat}{w J:World}(r:Rel H nx iv B w O J){id t:Nat}(h:cV H id=some (.box t ((E8 ls).map At.v)))(PO:Lm ls)(hle:ls.length<=9223372036854775807):
  cz J (fun g=>g=(O id).g) (.slice (some ⟨(O id).g,0,none⟩) ls.length ls.length) ls:=by
 refine⟨PO,hle,_,_,rfl,Nat.le_refl _,fun j x L=>⟨_,rfl,rfl,?_⟩⟩;have h0:(⟨(O id).g,0,none⟩:Addr).add j=⟨(O id).g,j,none⟩:=by
  cases j with
  |zero=>rfl
  |succ j=>simp[Addr.add]
 rw[h0,cell_of (r.box id t _ h),fU];exact uF L
end Go.Sx
namespace Go.Ex
open Go Go.Sx Go.Proofs
variable{ds r2:List Nat}{g k:Nat}
section
variable{S:Nat->Prop}{H:Hp}{nx:Nat}{iv E:Iv}{B:Nat}{w J V:World}{O:Nat->Sx.dL}{v:Value}{n:Nat}{ls:List Nat}
theorem Nw.dD(h:Nf J V g)(hB:B<=J.heap.size)(hm:(J.heap.size,V.heap.size)∈iv):Cv S B iv g:=by
 rcases h with h|h
 ·cases h
 ·exact .inr ⟨by omega,_,_,hm,h.1,h.2⟩
theorem dQ.dD(h:dQ V (Nf J V) v n)(hB:B<=J.heap.size)(hm:(J.heap.size,V.heap.size)∈iv):dQ V (Cv S B iv) v n:=h.cF fun _ G=>G.dD hB hm
theorem cz.dD(h:cz V (Nf J V) v ls)(hB:B<=J.heap.size)(hm:(J.heap.size,V.heap.size)∈iv):cz V (Cv S B iv) v ls:=h.cF fun _ G=>G.dD hB hm
theorem dQ.rel(h:dQ w (Cv S B iv) v n)(r:Rel H nx iv B w O J)(F:∀g,S g->g<B):dQ J (Cv S B iv) v n:=h.cC fun _ G=>Rel.same r F G
theorem dQ.cD(h:dQ w (Cv S B iv) v n)(r:Rel H nx iv B w O J)(F:∀g,S g->g<B)(W:Ext J V)(hm:∀p,p∈iv->p∈E):dQ V (Cv S B E) v n:=
 ((h.rel r F).cC fun g G=>W.block g (Rel.old r F g G)).cF fun _ G=>G.mono hm
theorem cz.trimmed(h:cz w S v (dO ls)):dQ w S v (val ls):=⟨_,h,(ef ls).2.1,(ef ls).1⟩
end
theorem H5{w:World}{m c:Nat}{rs:List Nat}(G:w.heap[g]? =some (.cells (E8 rs).toArray T.uint32 (0,0)))(PO:Lm rs)(h:k+m<=rs.length)(hc:m<=c)(hl:rs.length<=1000000000000):
  cz w (fun x=>x=g) (.slice (some ⟨g,k,none⟩) m c) ((rs.drop k).take m):=by
 have hlen:((rs.drop k).take m).length=m:=by simp;omega
 refine⟨(PO.drop k).take m,by omega,some ⟨g,k,none⟩,c,by rw[hlen],by omega,fun j x L=>⟨_,rfl,rfl,?_⟩⟩;have hj:j<m:=by have:=(aD.1 L).1;omega
 rw[bO hj,List.getElem?_drop]at L;rw[dA,cell_of G];exact uF L
theorem Ci{c:Nat}(h:k<c):(if (c:Int)=(k:Int)then some (⟨g,0,none⟩:Addr)else(some (⟨g,0,none⟩:Addr)).map fun x=>x.add ((k:Int).toNat*1))=some ⟨g,k,none⟩:=by
 rw[aI (by omega),bY,aF,aY,dA,aV]
theorem fg{a b c:World}{row:Option Nat}(h:a.grownBy b row)(k:b.grownBy c row):a.grownBy c row:=
 ⟨k.os.trans h.os,k.tape.trans h.tape,k.output.trans h.output,aW h.size k.size,fun j hj OS=>(k.block j (by have:=h.size;omega) OS).trans (h.block j hj OS)⟩
theorem qG{a b:World}{row:Option Nat}(h:dT a.heap.size a b):a.grownBy b row:=⟨h.os,h.tape,h.output,h.size,fun j hj _=>h.block j hj⟩
theorem MM(rs:List Nat)(k m:Nat):(E8 rs).take k++List.replicate m (Value.int .u32 0)++(E8 rs).drop (k+m)=E8 (rs.take k++List.replicate m 0++rs.drop (k+m)):=by
 simp[E8]
theorem Nd(rs ds:List Nat)(k:Nat):(E8 rs).take k++E8 ds++(E8 rs).drop (k+(E8 ds).length)=E8 (rs.take k++ds++rs.drop (k+ds.length)):=by
 simp[E8]
theorem Ic{rs:List Nat}{m:Nat}(R:k+m<=rs.length)(hd:ds.length<=m){r1:List Nat}(I:r1=rs.take k++List.replicate m 0++rs.drop (k+m))(X:r2=r1.take k++ds++r1.drop (k+ds.length)):
  r2=rs.take k++(ds++List.replicate (m-ds.length) 0)++rs.drop (k+m):=by
 have hkl:(rs.take k).length=k:=by simp;omega
 have N:r1.take k=rs.take k:=by rw[I,bf,List.take_append_of_le_length (by omega),List.take_of_length_le (by omega)]
 have h4:r1.drop (k+ds.length)=List.replicate (m-ds.length) 0++rs.drop (k+m):=by
  rw[I,bf,List.drop_append,hkl,List.drop_of_length_le (by omega),List.nil_append,Nat.add_sub_cancel_left,List.drop_append_of_le_length (by simpa using hd),List.drop_replicate]
 rw[X,N,h4];simp
theorem Ie{rs:List Nat}{m:Nat}(R:k+m<=rs.length)(hd:ds.length<=m)(PO:Lm rs)(Sf:Lm ds)(h:r2=rs.take k++(ds++List.replicate (m-ds.length) 0)++rs.drop (k+m)):
  r2.length=rs.length/\Lm r2/\r2.take k=rs.take k/\r2.drop (k+m)=rs.drop (k+m)/\val ((r2.drop k).take m)=val ds:=by
 have hkl:(rs.take k).length=k:=by simp;omega
 have Rq:(ds++List.replicate (m-ds.length) 0).length=m:=by simp;omega
 have RO:r2.drop k=(ds++List.replicate (m-ds.length) 0)++rs.drop (k+m):=by
  rw[h,bf,List.drop_append,hkl,List.drop_of_length_le (by omega),List.nil_append,bB,List.drop_zero]
 refine⟨by rw[h,List.length_append,List.length_append,hkl,Rq];simp;omega,?_,?_,?_,?_⟩
 ·rw[h];exact((PO.take k).append (Sf.append (Lm.replicate _))).append (PO.drop _)
 ·rw[h,bf,List.take_append_of_le_length (by omega),List.take_of_length_le (by omega)]
 ·rw[<-List.drop_drop,RO,List.drop_append,Rq,List.drop_of_length_le (by omega),List.nil_append,bB,List.drop_zero]
 ·rw[RO,List.take_append_of_le_length (by omega),List.take_of_length_le (by omega),ku,mY];simp
theorem Cj{S:Nat->Prop}{w:World}{vd:Value}{F9 g k q:Nat}{rs:List Nat}(F:Old S w)(hgS:¬S g)(hd:dQ w S vd F9)(G:w.heap[g]? =some (.cells (E8 rs).toArray T.uint32 (0,0)))(PO:Lm rs)
  (R:k+ln F9+1<=rs.length) (hl:rs.length<=1000000000000) (hq:q<4294967296):
  dx PG F'.ph #[.slice (some ⟨g,0,none⟩) rs.length rs.length,vd,.int .i64 k,.int .u64 q] w (fun e V=>
   (val ((rs.drop k).take (ln F9+1))<q*F9/\e= .returned (.bool false)/\dT w.heap.size w V)\/
   (q*F9<=val ((rs.drop k).take (ln F9+1))/\e= .returned (.bool true)/\w.grownBy V (some g)/\∃rs',rs'.length=rs.length/\Lm rs'/\rs'.take k=rs.take k/\rs'.drop (k+ln F9+1)=rs.drop (k+ln F9+1)/\
    val ((rs'.drop k).take (ln F9+1))=val ((rs.drop k).take (ln F9+1))-q*F9/\V.heap[g]? =some (.cells (E8 rs').toArray T.uint32 (0,0)))):=by
 have hgB:=js G;have hnD:=hd;obtain⟨p,rfl,Qi,QR⟩:=hd.la;have Pj:=eA p.lm QR;rw[Qi]at Pj;generalize Z:ln F9=n at*
 have hSB:=F;refine uE (by simp) ?_;refine⟨(q:Int),by rw[fF,bI hq],?_⟩;refine gO (Id:=fun O _ v V=>cz V (fun g=>g=(O 0).g) v (dO [q])) (H':=[]) 0 rfl (by simp) trivial rfl (fun O J r=>r.nn 0 _ rfl (by intros;simp) (by simp)) (fun O J r=>?_) ?_
 ·have hL:=r.uJ (id:=0) (ls:=[q]) rfl (by intro x L;simp at L;omega) (by simp);exact fM (fun g G=>by rw[G];exact(r.low 0 _ rfl (r.nn 0 _ rfl (by intros;simp) (by simp))).2) hL
 rintro O w1 v1 V r W Y hL;have Od:=r.low 0 _ rfl (r.nn 0 _ rfl (by intros;simp) (by simp));have hs:=W.size;generalize (O 0).g=g0 at*
 have Uc:dQ V (Cv S w.heap.size [(g0,g0+1),(w1.heap.size,V.heap.size)]) v1 q:=by
  have:=hL.trimmed;simp only[val,Nat.mul_zero,bj]at this;exact this.cF fun k R=>.inr ⟨by omega,g0,g0+1,by simp,by omega,by omega⟩
 have Us:dQ V (Cv S w.heap.size [(g0,g0+1),(w1.heap.size,V.heap.size)]) (.slice p.a p.ls.length p.c) F9:=
  (hnD.cC fun g G=>Y.block g (F g G)).cF fun _ G=>.inl G
 generalize [(g0,g0+1),(w1.heap.size,V.heap.size)]=iv at*
 refine cB (cE Y (fun _ J v V=>dQ V (Nf J V) v (q*F9)) (fun O J r=>H6 (Rel.old r F) (Uc.rel r F) (Us.rel r F) (aW (gD.2 (show q<wt 1 from hq)) (by decide)) (by omega)) ?_);rintro O w3 _ _ iv r W Y h_ hm;have UO:=hm.dD (S:=S) r.bz (mN h_);refine⟨((k+n:Nat):Int),wo,((k+n+1:Nat):Int),wo,⟨by omega,by omega,by omega⟩,some ⟨g,k,none⟩,n+1,rs.length-k,Ci (by omega),by omega,by omega,?_⟩;have hplen:((rs.drop k).take (n+1)).length=n+1:=by simp;omega
 have hplm:Lm ((rs.drop k).take (n+1)):=(PO.drop k).take _;generalize hpart:(rs.drop k).take (n+1)=part at*
 refine cB (cE Y (fun _ J v V=>cz V (Nf J V) v part) (fun O J r=>?_) ?_)
 ·have I:=H5 (k:=k) (m:=n+1) (c:=rs.length-k) (w:=J) (by rw[(Y.tr r.cL).block g hgB];exact G) PO (by omega) (by omega) hl;rw[hpart]at I;exact H3 (fun x L=>by rw[L];have:=(Y.tr r.cL).size;omega) I (by omega)
 rintro O _ _ _ iv r W Y h_ hL;have hpL:=hL.dD (S:=S) r.bz (mN h_);replace UO:=UO.cD r F W (mC h_);refine cB (cG (Id:=fun _ J v V=>cz V (Cv S w.heap.size iv) v (dO part)) (fun O J r=>fM (Rel.old r F) (cz.rel hpL r F)) ?_);rintro O w7 v4 w8 r W hb hL;replace Y:=Y.tr hb;have hpN:=hL.trimmed.cF (S':=Cv S w.heap.size ((w7.heap.size,w8.heap.size)::iv)) fun _ G=>G.cons;replace UO:=UO.cD (E:=(w7.heap.size,w8.heap.size)::iv) r F W fun x L=>aC _ L;generalize (w7.heap.size,w8.heap.size)::iv=iv at*
 refine cB (cE Y (fun _ _ v _=>v= .int .i64 (s3 (val part) (q*F9))) (fun O J r=>Kd (Rel.old r F) (hpN.rel r F) (UO.rel r F)) ?_);rintro O _ _ _ iv r W Y h_ rfl;replace hpN:=hpN.cD r F W (mC h_);replace UO:=UO.cD r F W (mC h_);refine dB.mk ?_ ?_<;>intro h
 ·have h:val part<q*F9:=by
   have:=aK h;unfold s3 at this;split at this
   ·assumption
   ·split at this<;>omega
  intro IR w3 K;exact .inl ⟨h,rfl,Y.tr K.cL⟩
 have h:q*F9<=val part:=by
  have:=aH h;unfold s3 at this;split at this
  ·omega
  ·omega
 have hPl:ln (val part)<=n+1:=by rw[gD,<-hplen];exact nY hplm
 refine cB (cE Y (fun _ J v V=>dQ V (Nf J V) v (val part-q*F9)) (fun O J r=>Ck (Rel.old r F) (hpN.rel r F) (UO.rel r F) h (by omega)) ?_);rintro O _ v6 _ iv r W Y h_ hm;have Vz:=hm.dD (S:=S) r.bz (mN h_);refine⟨((k+n:Nat):Int),wo,((k+n+1:Nat):Int),wo,⟨by omega,by omega,by omega⟩,some ⟨g,k,none⟩,n+1,rs.length-k,Ci (by omega),by omega,by omega,?_⟩;refine Hr hτ (U:=E8 rs) (by rfl) (by rfl) (by rfl) (by omega) (fun O J r=>⟨by rw[(Y.tr r.cL).block g hgB];exact G,fun id b hb=>by cases hb⟩) (by rw[gF];omega) (fun O w13 w14 r hh Oc Oj=>?_);rw[MM]at hh;have hgw:w.grownBy w14 (some g):=fg (qG (Y.tr r.cL)) Oc;replace Vz:dQ w14 (Cv S w.heap.size iv) v6 (val part-q*F9):=(Vz.rel r F).cC fun x L=>Oc.block x (Rel.old r F x L) fun e=>by
  injection e with e;subst e;rcases L with L|L
  ·exact hgS L
  ·omega
 obtain⟨rl,rfl,Tn,S8⟩:=Vz.la;have Pm:=eA rl.lm S8;rw[Tn]at Pm;have hrn:rl.ls.length<=n+1:=by rw[Pm];exact aW (fI (Nat.sub_le _ _)) hPl
 generalize hr1d:rs.take k++List.replicate (n+1) 0++rs.drop (k+(n+1))=r1 at*
 refine⟨⟨by omega,by omega,by omega⟩,some ⟨g,k,none⟩,rs.length-k,rs.length-k,Ci (by omega),by omega,by omega,?_⟩;have hr1l:r1.length=rs.length:=by rw[<-hr1d];simp;omega
 have hw14:w.heap.size<=w14.heap.size:=hgw.size;refine JT hτ (tg:=T.uint32) (U:=E8 r1) (ds:=E8 rl.ls) (by rfl) (by rfl) (by rfl) (by rfl) (fun O J r=>⟨?_,fun id b hb=>by cases hb⟩) (fun O J r=>⟨rl.a,rl.c,by rw[gF];rfl,fun j u hu=>?_⟩) (by rw[gF];omega) (by rw[gF,gF];omega)
  (fun u hu=>by simp only[E8,aR]at hu;obtain⟨n,_,rfl⟩:=hu;rfl) (fun O w15 w16 r hh2 Oc Oj=>?_)
 ·rw[r.qH.block g (by omega) (by simp)];exact hh
 ·simp only[E8,aM,Option.map_eq_some_iff]at hu;obtain⟨m,hm,rfl⟩:=hu;obtain⟨ad,I,X,N⟩:=rl.cell j m hm;exact⟨ad,I,(cJ (w:=w14) (a:=ad.add j) (by rw[c9];exact Rel.same r F X)).trans N⟩
 rw[Nd]at hh2;have hgw2:w.grownBy w16 (some g):=fg (fg hgw (by have:=r.qH;exact⟨this.os,this.tape,this.output,this.size,fun j hj _=>this.block j hj (by simp)⟩)) Oc;obtain⟨o1,o2,o3,o4,o5⟩:=Ie (rs:=rs) (ds:=rl.ls) (k:=k) (m:=n+1) (by omega) hrn PO rl.lm (Ic (by omega) hrn hr1d.symm rfl);generalize r1.take k++rl.ls++r1.drop (k+rl.ls.length)=r2 at*
 intro IR w17 K;refine .inr ⟨h,rfl,fg hgw2 (by have:=K.qH;exact⟨this.os,this.tape,this.output,this.size,fun j hj _=>this.block j hj (by simp)⟩),r2,o1,o2,o3,o4,by rw[o5,Tn],?_⟩;rw[K.qH.block g (by have:=hgw2.size;omega) (by simp)];exact hh2
end Go.Ex
namespace Go.Ex
open Go Go.Sx Go.Proofs
end Go.Ex
namespace Go.Sx
open Go Go.Ex Go.Proofs
variable{O:Nat->Sx.dL}
theorem Rel.Mo{nx:Nat}{iv:Iv}{B:Nat}{w J V:World}(r:Rel [] nx iv B w O J)(h:J.heap.size<=V.heap.size):Rel [] nx [] B V O V:=
 r.D5 h (fun id b h=>by cases h) fun lo D h=>by cases h
end Go.Sx
namespace Go.Ex
open Go Go.Sx Go.Proofs
variable{O:Nat->Sx.dL}
theorem Ke{P F9 low high dlow dtop E9:Nat}(hP:P=low+E9*high)(hD:F9=dlow+E9*dtop)(Od:low<E9)(TK:0<dtop)(hPD:P<4294967296*F9):P / F9<=min (high / dtop) 4294967295:=by
 have hW:0<E9:=by omega
 have WZ:0<F9:=by have:=Nat.mul_pos hW TK;omega
 have I:P / F9<4294967296:=(Nat.div_lt_iff_lt_mul WZ).2 (by rw[bL]at hPD;omega);have X:P / F9<=high / dtop:=by
  rw[Nat.le_div_iff_mul_le TK];have N:=Nat.div_mul_le_self P F9;generalize P / F9=Q at*
  have h4:E9*(Q*dtop)<=Q*F9:=by
   rw[hD,Nat.mul_left_comm,bQ];omega
  have h5:E9*(Q*dtop)<E9*(high+1):=by
   rw[bQ];omega
  have:=Nat.lt_of_mul_lt_mul_left h5;omega
 omega
theorem H7{H:Hp}{nx:Nat}{iv:Iv}{w w1 J:World}{g i x:Nat}{rs:List Nat}(G:w.heap[g]? =some (.cells (E8 rs).toArray T.uint32 (0,0)))(Y:dT w.heap.size w w1)(r:Rel H nx iv w.heap.size w1 O J)(L:rs[i]? =some x):
  J.cell? ((⟨g,0,none⟩:Addr).add ((i:Int).toNat*1))=some (.int .u32 x):=by
 rw[aF,aY,dA,aV,cell_of (by rw[(Y.tr r.cL).block g (js G)];exact G)];exact uF L
theorem MN{S:Nat->Prop}{w:World}{vd:Value}{F9 g k:Nat}{rs:List Nat}(F:Old S w)(hgS:¬S g)(hd:dQ w S vd F9)(hD:0<F9)(G:w.heap[g]? =some (.cells (E8 rs).toArray T.uint32 (0,0)))(PO:Lm rs)
  (R:k+ln F9+1<=rs.length) (hl:rs.length<=1000000000000) (hPD:val ((rs.drop k).take (ln F9+1))<4294967296*F9):
  dx PG F'.oc #[.slice (some ⟨g,0,none⟩) rs.length rs.length,vd,.int .i64 k] w (fun e V=>
   e= .returned (.int .u32 ((val ((rs.drop k).take (ln F9+1)) / F9:Nat):Int))/\w.grownBy V (some g)/\∃rs',rs'.length=rs.length/\Lm rs'/\rs'.take k=rs.take k/\rs'.drop (k+ln F9+1)=rs.drop (k+ln F9+1)/\
    val ((rs'.drop k).take (ln F9+1))=val ((rs.drop k).take (ln F9+1)) % F9/\V.heap[g]? =some (.cells (E8 rs').toArray T.uint32 (0,0))):=by
 have hgB:=js G;have hnD:=hd;obtain⟨p,rfl,Qi,QR⟩:=hd.la;have Pj:=eA p.lm QR;rw[Qi]at Pj;have RK:=fun(J:World) (q:Nat)=>@Cj S J (.slice p.a p.ls.length p.c) F9 g k q rs;generalize Z:ln F9=n at*
 obtain⟨t,rfl⟩:∃t,n=t+1:=by
  cases n with
  |zero=>
   have:F9<wt 0:=gD.1 (by omega);rw[jM]at this;omega
  |succ t=>exact⟨t,rfl⟩
 obtain⟨dt,TK⟩:∃q,p.ls[t]? =some q:=⟨_,aB (by omega)⟩
 have hdt0:0<dt:=by
  have:=QR dt (by rw[List.getLast?_eq_getElem?,Pj];exact TK);omega
 obtain⟨a,ha⟩:∃q,rs[k+t+1]? =some q:=⟨_,aB (by omega)⟩
 obtain⟨b,hb⟩:∃q,rs[k+t]? =some q:=⟨_,aB (by omega)⟩
 have ha32:=PO.at ha;have Un:=PO.at hb;have We:=p.lm.at TK;generalize hP:val ((rs.drop k).take (t+1+1))=P at*
 have hguess:P / F9<=min ((a*4294967296+b) / dt) 4294967295:=by
  refine Ke (low:=val ((rs.drop k).take t)) (E9:=wt t) (dlow:=val (p.ls.take t)) ?_ ?_ ?_ hdt0 hPD
  ·rw[<-hP,dJ (x:=a) (by rw[List.getElem?_drop];exact ha),dJ (x:=b) (by rw[List.getElem?_drop];exact hb),il,bQ,bL 4294967296 (wt t),bc,bL a];omega
  ·rw[<-Qi,<-dJ TK,List.take_of_length_le (by omega)]
  ·have I:=nY ((PO.drop k).take t);have:((rs.drop k).take t).length=t:=by simp;omega
   rwa [this]at I
 refine sX (by simp) ?_;refine⟨(t:Int),wo,?_⟩;refine cI hτ dN [.x 0,.x 1,.x 2,.x 3,.x 4,.x 5,.x 6,.x 7,.x 8,.x 9,.x 10,.x 11,.x 12,.x 13,.x 14,.x 15,.x 16,.x 17] (by kernel_rfl) (by kernel_rfl) ?_;refine⟨((k+t:Nat):Int),wo,((k+t+1:Nat):Int),wo,_,rfl,by omega,.int .u32 a,fun O J r=>H7 G dT.refl r ha,(a:Int),eP (by omega),by decide,((a*2^32:Nat):Int),Cl (k:=32) (by decide) (by omega),((k+t:Nat):Int),wo,_,rfl,by omega,.int .u32 b,fun O J r=>H7 G dT.refl r hb,(b:Int),eP (by omega),?_⟩;have UY:a*2^32 ||| b=a*4294967296+b:=by
  rw[Nat.or_comm,bL,Cm (k:=32) Un];omega
 refine⟨((a*4294967296+b:Nat):Int),by rw[Kf (by omega) (by omega),UY],?_⟩;have hh64:a*4294967296+b<18446744073709551616:=by omega
 generalize a*4294967296+b=high at*
 obtain⟨ad,Om,Oo⟩:=p.load F (dT.refl (w:=w)) TK;refine⟨ad,Om,by omega,.int .u32 dt,Oo _ _ _,(dt:Int),eP (by omega),by omega,((high / dt:Nat):Int),Kg hh64,?_⟩;conv=>whnf
 rw[show min ((high / dt:Nat):Int) 4294967295=((min (high / dt) 4294967295:Nat):Int) by omega];have hm32:min (high / dt) 4294967295<=4294967295:=Nat.min_le_right _ _;generalize min (high / dt) 4294967295=q0 at*
 have hQD:=Nat.div_mul_le_self P F9;have hQl:∀q,q*F9<=P->P / F9<=q->q=P / F9:=fun q I X=>aU ((Nat.le_div_iff_mul_le hD).2 I) X;have hmod:P % F9=P-P / F9*F9:=by have:=Nat.div_add_mod P F9;rw[bL]at this;omega
 refine⟨Nat×World,fun z=>⟨[(0,.o (.v (.slice (some ⟨g,0,none⟩) rs.length rs.length))),(1,sV p.a p.ls.length p.c),(2,iZ k),(9,.o (.v (.int .u64 z.1)))],[],0,[],z.2⟩,fun z=>z.1,
  fun z=>dT w.heap.size w z.2/\P / F9<=z.1/\z.1<=4294967295,?_,?_⟩
 ·intro O J r;exact⟨(q0,J),⟨r.cL,hguess,hm32⟩,Sub.reset r ⟨rfl,rfl,rfl,rfl,trivial⟩ ⟨trivial,trivial,trivial,trivial,trivial⟩⟩
 ·rintro⟨q,w1⟩ ⟨Y,RQ,Q2⟩;dsimp only at Y RQ Q2 ⊢;conv=>whnf
  refine⟨fun O V r=>(RK V q (fun x L=>by have:=F x L;have:=(Y.tr r.cL).size;omega) hgS (hnD.cC fun x L=>(Y.tr r.cL).block x (F x L)) (by rw[(Y.tr r.cL).block g hgB];exact G) PO R hl (by omega)).mono fun e w3 W=>?_⟩;rcases W with⟨h,rfl,hb3⟩|⟨h,rfl,Oc,rs',e1,e2,e3,e4,e5,e6⟩
  ·have hw3:dT w.heap.size w w3:=(Y.tr r.cL).tr (hb3.cL r.bz);refine⟨.bool false,[],[],rfl,r.Mo hb3.size,?_⟩;have Sg:P / F9<q:=by
    refine Nat.lt_of_le_of_ne RQ fun e=>?_;rw[e]at hQD;omega
   have hq4:0<q:=Nat.lt_of_le_of_lt (aS _) Sg;have hq5:P / F9<=q-1:=Nat.le_sub_one_of_lt Sg;refine⟨((q-1:Nat):Int),by rw[xW]<;>omega,?_⟩;intro J8 w4 r4;exact⟨(q-1,w4),⟨hw3.tr r4.cL,hq5,by dsimp only;omega⟩,Sub.reset r4 ⟨rfl,rfl,rfl,rfl,trivial⟩ ⟨trivial,trivial,trivial,trivial,trivial⟩,by dsimp only;omega⟩
  ·have hgw:w.grownBy w3 (some g):=fg (qG (Y.tr r.cL)) Oc;refine⟨.bool true,[],[],rfl,r.Mo Oc.size,?_⟩;have hq:=hQl q h RQ;subst hq;refine⟨((P / F9:Nat):Int),by rw[fF,bI (by omega)],?_⟩;intro J8 w4 r4;refine⟨rfl,fg hgw (by have:=r4.qH;exact⟨this.os,this.tape,this.output,this.size,fun j hj _=>this.block j hj (by simp)⟩),rs',e1,e2,e3,e4,by rw[e5,hmod],?_⟩;rw[r4.qH.block g (by have:=hgw.size;omega) (by simp)];exact e6
end Go.Ex
namespace Go.Ex
variable{ms:List Nat}
theorem IM{t dt:Nat}(PO:Lm ms)(hl:ms.length=t+1)(TK:ms[t]? =some dt)(h0:0<dt):32-gP dt<32/\ln (val ms*2^(32-gP dt))=t+1:=by
 have hb0:0<gP dt:=by
  rcases bJ (gP dt)with h|h
  ·have:=x9.1 (Nat.le_of_eq h);simp at this;omega
  ·exact h
 have Un:gP dt<=32:=x9.2 (PO.at TK);have Ou:=x9.1 (Nat.le_refl (gP dt));have hv:val ms=val (ms.take t)+wt t*dt:=by rw[<-dJ TK,List.take_of_length_le (by omega)]
 have Od:=nY (PO.take t);have hltk:(ms.take t).length=t:=by simp;omega
 rw[hltk]at Od;have Y:=uo t;refine⟨by omega,aU ?_ ?_⟩
 ·rw[gD];have I:val ms<wt t*2^gP dt:=by
   have:wt t*(dt+1)<=wt t*2^gP dt:=bP _ Ou;rw[bQ]at this;omega
  have X:=Nat.mul_lt_mul_of_pos_right I (bo (32-gP dt));rw[bc,<-Nat.pow_add,Nat.add_sub_cancel' Un]at X;rw[il,bL 4294967296];exact X
 ·refine Nat.lt_of_not_le fun h=>?_;have I:=gD.1 h;have X:val ms*1<=val ms*2^(32-gP dt):=bP _ (bo _);have N:wt t*1<=wt t*dt:=bP _ h0;omega
theorem Dt{rs:List Nat}{F9 F' k:Nat}(PO:Lm rs)(hDN:F9<wt F')(R:k+F'+1<=rs.length)(h:val rs<wt (k+1)*F9):
  val (rs.drop (k+F'+1))=0/\val (rs.drop k)=val ((rs.drop k).take (F'+1))/\val ((rs.drop k).take (F'+1))<4294967296*F9:=by
 obtain⟨x,L⟩:∃q,rs[k]? =some q:=⟨_,aB (by omega)⟩
 have QG:=PO.at L;have I:=eX rs (k+1) (by omega);have X:val (rs.drop (k+1))<F9:=Nat.lt_of_mul_lt_mul_left (a:=wt (k+1)) (by omega);have N:=eX (rs.drop (k+1)) F' (by simp;omega);rw[List.drop_drop,show k+1+F'=k+F'+1 by omega]at N;have h4:val (rs.drop (k+F'+1))=0:=by
  rcases bJ (val (rs.drop (k+F'+1)))with h|h
  ·exact h
  ·have:=bP (wt F') h;omega
 have h5:=eX (rs.drop k) (F'+1) (by simp;omega);rw[List.drop_drop,show k+(F'+1)=k+F'+1 by omega,h4,Nat.mul_zero,bj]at h5;have h6:=jE L;exact⟨h4,h5,by omega⟩
theorem Jp{rs rs' out:List Nat}{F9 F' k P A9:Nat}(hD:0<F9)(PO:Lm rs)(hlen:rs'.length=rs.length)(hDN:F9<wt F')(R:k+F'+1<=rs.length)(h:val rs<wt (k+1)*F9)(hV:A9=wt (k+1)*(F9*val (out.drop (k+1)))+val rs)
  (hP:val ((rs.drop k).take (F'+1))=P) (I:rs'.take k=rs.take k) (X:rs'.drop (k+F'+1)=rs.drop (k+F'+1)) (N:val ((rs'.drop k).take (F'+1))=P % F9) (ho:k<out.length):
  val rs'<wt k*F9/\A9=wt k*(F9*val ((out.set k (P / F9)).drop k))+val rs':=by
 obtain⟨a1,a2,a3⟩:=Dt PO hDN R h;have b1:=eX rs k (by omega);have b2:=eX rs' k (by omega);have b3:=eX (rs'.drop k) (F'+1) (by simp;omega);rw[List.drop_drop,show k+(F'+1)=k+F'+1 by omega,X,a1,Nat.mul_zero,bj,N]at b3;rw[I,b3]at b2;rw[a2,hP]at b1;have b4:=nY (PO.take k);have b5:(rs.take k).length=k:=by simp;omega
 rw[b5]at b4;have b6:=bq P hD;have b7:(out.set k (P / F9))[k]? =some (P / F9):=by rw[aO ho]
 have b8:=Nat.div_add_mod P F9;refine⟨?_,?_⟩
 ·have:wt k*(P % F9+1)<=wt k*F9:=bP _ b6;rw[bQ]at this;omega
 ·rw[jE b7,List.drop_set_of_lt (show k<k+1 by omega),hV,b1,b2,il];generalize val (out.drop (k+1))=o;have c1:wt k*P=wt k*(F9*(P / F9))+wt k*(P % F9):=by rw[<-bQ,b8]
  have c2:4294967296*wt k*(F9*o)=wt k*(F9*(4294967296*o)):=by
   rw[bL 4294967296,bc,Nat.mul_left_comm 4294967296]
  rw[c1,c2,bQ F9,bQ (wt k)];omega
theorem IN{n m b:Nat}(hm:0<m)(UZ:m<=n):n*2^b<wt (ln n+1-ln m)*(m*2^b):=by
 have I:=kv n;have X:=fI UZ;have N:wt (ln m-1)<=m:=by
  refine Nat.le_of_not_lt fun h=>?_;have:=gD.2 h;have h4:0<ln m:=by
   rcases bJ (ln m)with h|h
   ·have:=gD.1 (Nat.le_of_eq h);rw[jM]at this;omega
   ·exact h
  omega
 have h4:0<ln m:=by
  rcases bJ (ln m)with h|h
  ·have:=gD.1 (Nat.le_of_eq h);rw[jM]at this;omega
  ·exact h
 have h5:wt (ln n)<=wt (ln n+1-ln m)*m:=by
  rw[show ln n=(ln n+1-ln m)+(ln m-1) by omega,CH,show(ln n+1-ln m)+(ln m-1)+1-ln m=ln n+1-ln m by omega];exact bP _ N
 rw[<-bc];exact Nat.mul_lt_mul_of_pos_right (Nat.lt_of_lt_of_le I h5) (bo b)
theorem Ls{n m b o r:Nat}(hm:0<m)(I:n*2^b=m*2^b*o+r)(X:r<m*2^b):o=n / m/\r / 2^b=n % m:=by
 have hp:=bo b;have N:n*2^b / (m*2^b)=o:=by rw[I,Nat.mul_add_div (Nat.mul_pos hm hp),Nat.div_eq_of_lt X,bj]
 have h4:n*2^b % (m*2^b)=r:=by rw[I,Nat.mul_add_mod,bI X]
 rw[Nat.mul_div_mul_right _ _ hp]at N;rw[Nat.mul_mod_mul_right]at h4;exact⟨N.symm,by rw[<-h4,Nat.mul_div_cancel _ hp]⟩
end Go.Ex
namespace Go.Ex
open Go Go.Sx Go.Proofs
variable{H:Hp}{x y z:Int}{iv:Iv}{ls:List Nat}{n nx:Nat}{S:Nat->Prop}{O:Nat->Sx.dL}{u v:Value}{w J w1:World}
theorem H8{g:Nat}{rs:List Nat}(G:w.heap[g]? =some (.cells (E8 rs).toArray T.uint32 (0,0)))(PO:Lm rs)(hl:rs.length<=1000000000000):
  cz w (fun x=>x=g) (.slice (some ⟨g,0,none⟩) rs.length rs.length) rs:=by
 have:=H5 (k:=0) (m:=rs.length) (c:=rs.length) G PO (by omega) (Nat.le_refl _) hl
 rwa [List.drop_zero,bH]at this
theorem qI{m:Nat}(F:Old S w)(Z:dQ w S v n)(hm:dQ w S u m)(Ut:0<m)(SL:ln n<=100000000000):
  dx PG F'.nD #[v,u] w (eH w fun v' V=>∃q r,v'= .tuple #[q,r]/\dQ V (Nf w V) q (n / m)/\dQ V (Nw S w V) r (n % m)):=by
 have hnN:=Z;have UO:=hm;obtain⟨x,rfl,Qi,QR⟩:=Z.la;obtain⟨y,rfl,RQ,Q2⟩:=hm.la;have QC:=eA x.lm QR;have hyl:=eA y.lm Q2;rw[Qi]at QC;rw[RQ]at hyl;refine rJ (by simp) ?_;refine cB (cG (Id:=fun _ _ v _=>v= .int .i64 (s3 n m)) (fun O J r=>Kd (S:=S) (fun g G=>by have:=F g G;have:=r.cL.size;omega) (hnN.cC fun g G=>r.cL.block g (F g G)) (UO.cC fun g G=>r.cL.block g (F g G))) ?_);rintro O w1 v1 V r W Y rfl;refine dB.mk ?_ ?_<;>intro h
 ·have h:n<m:=by
   have:=aK h;unfold s3 at this;split at this
   ·assumption
   ·split at this<;>omega
  intro IR w3 K;refine⟨_,rfl,Y.tr K.cL,_,_,rfl,?_,?_⟩
  ·rw[Nat.div_eq_of_lt h];exact dQ.nil _ _
  ·rw[bI h];exact(hnN.cC fun g G=>(Y.tr K.cL).block g (F g G)).cF fun g G=>.inl G
 have h:m<=n:=by
  have:=aH h;unfold s3 at this;split at this
  ·omega
  ·omega
 have hlmn:=fI h;refine dB.mk ?_ ?_<;>intro I
 ·have I:y.ls.length=1:=by have:=eq_of_beq I;omega
  obtain⟨b,VT⟩:=List.length_eq_one_iff.1 I;have hb:y.ls[0]? =some b:=by rw[VT];rfl
  have Un:=y.lm.at hb;have RP:m=b:=by rw[<-RQ,VT];simp[val]
  subst RP;obtain⟨ad,Om,Oo⟩:=y.load F Y hb;refine⟨ad,Om,by omega,.int .u32 m,Oo _ _ _,?_⟩;refine cB (cG (Id:=fun _ J v V=>∃q,v= .tuple #[q,.int .u32 ((val x.ls % m:Nat):Int)]/\dQ V (Nf J V) q (val x.ls / m)) (fun O J r=>?_) ?_)
  ·refine MO (S:=S) (fun g G=>by have:=F g G;have:=(Y.tr r.cL).size;omega) ⟨x.lm,x.le,_,_,rfl,x.cap,fun j u hu=>?_⟩ (by omega) Ut Un;obtain⟨ad,e1,e2,e3⟩:=x.cell j u hu;exact⟨ad,e1,e2,jl F Y r e2 e3⟩
  rintro O w3 v3 w4 r W SU ⟨q,rfl,hq⟩;replace Y:=Y.tr SU;have Uc:=hq.dD (S:=FF) r.bz (iv:=(w3.heap.size,w4.heap.size)::[(w1.heap.size,V.heap.size)]) aG;rw[Qi]at Uc;rw[Qi];generalize (w3.heap.size,w4.heap.size)::[(w1.heap.size,V.heap.size)]=iv at*
  have Qq:n % m<m:=bq _ Ut;generalize n % m=rem at*
  refine gO (Id:=fun O _ v V=>cz V (fun g=>g=(O 0).g) v (dO [rem])) (H':=[]) 0 rfl (by simp) trivial rfl (fun O J r=>r.nn 0 _ rfl (by intros;simp) (by simp)) (fun O J r=>?_) ?_
  ·have hL:=r.uJ (id:=0) (ls:=[rem]) rfl (by intro x L;simp at L;omega) (by simp);exact fM (fun g G=>by rw[G];exact(r.low 0 _ rfl (r.nn 0 _ rfl (by intros;simp) (by simp))).2) hL
  rintro O w5 v5 w6 r W Tl hL;have Od:=r.low 0 _ rfl (r.nn 0 _ rfl (by intros;simp) (by simp));have hs:=W.size;replace Y:=Y.tr Tl;replace Uc:=Uc.cD (E:=((O 0).g,(O 0).g+1)::(w5.heap.size,w6.heap.size)::iv) r (fun g h=>h.elim) W fun x L=>by simp[L]
  generalize (O 0).g=g0 at*
  have Vz:dQ w6 (Cf w ((g0,g0+1)::(w5.heap.size,w6.heap.size)::iv)) v5 rem:=by
   have:=hL.trimmed;simp only[val,Nat.mul_zero,bj]at this;exact this.cF fun k R=>.inr ⟨by omega,g0,g0+1,by simp,by omega,by omega⟩
  generalize (g0,g0+1)::(w5.heap.size,w6.heap.size)::iv=OU at*
  intro IR w7 K;exact⟨_,rfl,Y.tr K.cL,_,_,rfl,(Uc.rel K fun g h=>h.elim).cF fun g G=>Cv.nw G K,((Vz.rel K fun g h=>h.elim).cF fun g G=>Cv.nw G K).cF fun g G=>G.elim (fun h=>h.elim) .inr⟩
 ·have I:y.ls.length≠1:=fun e=>by rw[e]at I;simp at I
  have Sh:0<ln m:=by
   rcases bJ (ln m)with h|h
   ·have:=gD.1 (Nat.le_of_eq h);rw[jM]at this;omega
   ·exact h
  obtain⟨t,ht⟩:∃t,y.ls.length=t+1:=⟨y.ls.length-1,by omega⟩
  obtain⟨dt,TK⟩:∃q,y.ls[t]? =some q:=⟨_,aB (by omega)⟩
  have hdt0:0<dt:=by
   have:=Q2 dt (by rw[List.getLast?_eq_getElem?,ht];exact TK);omega
  have We:=y.lm.at TK;obtain⟨Oq,WA⟩:=IM y.lm ht TK hdt0;rw[RQ]at WA;obtain⟨ad,Om,Oo⟩:=y.load F Y TK;refine⟨(t:Int),wo,ad,Om,by omega,.int .u32 dt,Oo _ _ _,?_⟩;refine cB (cG (Id:=fun _ _ v _=>v= .int .i64 ((32-gP dt:Nat):Int)) (fun O J r=>Nb dt J We) ?_);rintro O w3 v3 w4 r W SU rfl;replace Y:=Y.tr SU;generalize hbyd:32-gP dt=b at*
  refine⟨(b:Int),eP (by omega),?_⟩;refine cB (cG (Id:=fun _ J v V=>∃out,Kh J V v out/\out.length=y.ls.length+1/\val out=val y.ls*2^b) (fun O J r=>?_) ?_)
  ·refine B6 (S:=S) (fun g G=>by have:=F g G;have:=(Y.tr r.cL).size;omega) ⟨y.lm,y.le,_,_,rfl,y.cap,fun j u hu=>?_⟩ (by omega) Oq;obtain⟨ad,e1,e2,e3⟩:=y.cell j u hu;exact⟨ad,e1,e2,jl F Y r e2 e3⟩
  rintro O w5 v5 w6 r W Tl ⟨dl,⟨gd,rfl,hgd1,hgd2,hgd3⟩,Rq,hdv⟩;replace Y:=Y.tr Tl;rw[RQ]at hdv;have hB5:w.heap.size<=w5.heap.size:=r.bz;have SM:Cf w ((w5.heap.size,w6.heap.size)::[(w3.heap.size,w4.heap.size),(w1.heap.size,V.heap.size)]) gd:=.inr ⟨by omega,_,_,aG,hgd1,js hgd2⟩;generalize (w5.heap.size,w6.heap.size)::[(w3.heap.size,w4.heap.size),(w1.heap.size,V.heap.size)]=iv at*
  have hF:∀g:Nat,(fun _:Nat=>False) g->g<w.heap.size:=fun g h=>h.elim;refine cB (cG (Id:=fun _ _ v V=>cz V (fun x=>x=gd) v (dO dl)) (fun O J r=>fM (fun g G=>by rw[G];exact Rel.old r hF gd SM) (H8 (by rw[Rel.same r hF SM];exact hgd2) hgd3 (by omega))) ?_);rintro O w7 v6 w8 r W hb8 hL;replace Y:=Y.tr hb8;have hgd8:gd<w8.heap.size:=by have:=Rel.old r hF gd SM;have:=W.size;omega
  replace SM:=SM.mono (E:=(w7.heap.size,w8.heap.size)::iv) fun p hp=>aC _ hp;have Us:=hL.trimmed;rw[hdv]at Us;generalize (w7.heap.size,w8.heap.size)::iv=iv at*
  obtain⟨dp,rfl,RO,PN⟩:=Us.la;have hdpl:=eA dp.lm PN;rw[RO,WA]at hdpl;generalize hDd:m*2^b=F9 at*
  have WZ:0<F9:=by rw[<-hDd];exact Nat.mul_pos Ut (bo b)
  refine cB (cG (Id:=fun _ J v V=>∃out,Kh J V v out/\out.length=x.ls.length+1/\val out=val x.ls*2^b) (fun O J r=>?_) ?_)
  ·refine B6 (S:=S) (fun g G=>by have:=F g G;have:=(Y.tr r.cL).size;omega) ⟨x.lm,x.le,_,_,rfl,x.cap,fun j u hu=>?_⟩ (by omega) Oq;obtain⟨ad,e1,e2,e3⟩:=x.cell j u hu;exact⟨ad,e1,e2,jl F Y r e2 e3⟩
  rintro O w9 v9 w10 r W hb10 ⟨rs0,⟨gr,rfl,hgr1,hgr2,hgr3⟩,Pm,OX⟩;replace Y:=Y.tr hb10;rw[Qi]at OX;have hB9:w.heap.size<=w9.heap.size:=r.bz;have Su:Cf w ((w9.heap.size,w10.heap.size)::iv) gr:=.inr ⟨by omega,_,_,aG,hgr1,js hgr2⟩;have OS:gr≠gd:=by have:=r.size;omega
  replace Us:dQ w10 (fun x=>x=gd) (.slice dp.a dp.ls.length dp.c) F9:=Us.cC fun x L=>by
   rw[L,W.block gd (Rel.old r hF gd SM),Rel.same r hF SM]
  have hgd10:gd<w10.heap.size:=by have:=Rel.old r hF gd SM;have:=W.size;omega
  replace SM:=SM.mono (E:=(w9.heap.size,w10.heap.size)::iv) fun p hp=>aC _ hp;generalize (w9.heap.size,w10.heap.size)::iv=iv at*
  have hgrB:w.heap.size<=gr:=by omega
  obtain⟨Do,hL⟩:∃Do,rs0.length=t+1+Do:=⟨rs0.length-(t+1),by omega⟩
  refine⟨(Do:Int),wo,Do,Do,rfl,rfl,Nat.le_refl _,by omega,by omega,(Do:Int)-1,wo,Nat×List Nat×List Nat×World,fun z=>⟨[(8,.o (.v (.int .u64 b))),(9,sV dp.a dp.ls.length dp.c),(10,.o (.v (.slice (some ⟨gr,0,none⟩) rs0.length rs0.length))),(11,.o (.s 0 0 Do Do)),(12,.o (.v (.int .i64 ((z.1:Int)-1))))],
    [(0,.arr T.uint32 (E8 z.2.1))],1,iv,z.2.2.2⟩,fun z=>z.1,
   fun z=>z.1<=Do/\dT w.heap.size w z.2.2.2/\z.2.1.length=Do/\z.2.2.1.length=rs0.length/\Lm z.2.1/\Lm z.2.2.1/\z.2.2.2.heap[gr]? =some (.cells (E8 z.2.2.1).toArray T.uint32 (0,0))/\dQ z.2.2.2 (fun x=>x=gd) (.slice dp.a dp.ls.length dp.c) F9/\
    gd<z.2.2.2.heap.size/\val z.2.2.1<wt z.1*F9/\n*2^b=wt z.1*(F9*val (z.2.1.drop z.1))+val z.2.2.1,?_,?_⟩
  ·intro O J r;rw[s4]at r;refine⟨(Do,List.replicate Do 0,rs0,J),⟨Nat.le_refl _,Y.tr r.cL,by simp,rfl,Lm.replicate _,hgr3,?_,?_,?_,?_,?_⟩,Sub.gn [] r⟩
   ·dsimp only;rw[Rel.same r hF Su];exact hgr2
   ·exact Us.cC fun x L=>by rw[L];exact Rel.same r hF SM
   ·exact Rel.old r hF gd SM
   ·dsimp only
    have:=IN (b:=b) Ut h;rw[hDd,<-hyl,ht,<-QC,show x.ls.length+1-(t+1)=Do by omega]at this;rw[OX];exact this
   ·dsimp only;rw[OX];simp[val]
  ·rintro⟨k,out,rs,w11⟩ ⟨R,Y,QW,TV,SW,hlr,Oc,Us,QD,hi1,Tk⟩;dsimp only at R Y QW TV SW hlr Oc Us QD hi1 Tk ⊢;refine dB.mk ?_ ?_<;>intro h9
   ·have h9:(k:Int)-1≥0:=aK h9;obtain⟨k,rfl⟩:∃q,k=q+1:=⟨k-1,by omega⟩
    rw[show ((k+1:Nat):Int)-1=(k:Int) by omega];have hDN:F9<wt (t+1):=gD.1 (Nat.le_of_eq WA);obtain⟨a1,a2,a3⟩:=Dt (F':=t+1) hlr hDN (by omega) hi1;have hdig:=fun(J:World)=>@MN (fun x=>x=gd) J (.slice dp.a dp.ls.length dp.c) F9 gr k rs;rw[WA]at hdig;simp only[TV]at hdig;generalize hP:val ((rs.drop k).take (t+1+1))=P at*
    have hQ32:P / F9<4294967296:=(Nat.div_lt_iff_lt_mul WZ).2 (by rw[bL]at a3;omega);refine⟨fun O J r=>(hdig J (fun g G=>by rw[G];exact Rel.old r hF gd SM) OS (Us.cC fun x L=>by rw[L];exact Rel.same r hF SM) WZ (by rw[Rel.same r hF Su];exact Oc) hlr (by omega) (by omega) a3).mono fun e w12 W=>?_⟩;obtain⟨rfl,hgb,rs',e1,e2,e3,e4,e5,e6⟩:=W;refine⟨_,_,_,rfl,r.yH (fun id b hb Z=>Rel.not r hF Su id b hb Z) hgb,?_⟩;obtain⟨hi1',hi2'⟩:=Jp (F':=t+1) WZ hlr (e1.trans TV.symm) hDN (by omega) hi1 Tk hP e3 e4 e5 (by omega);have hw12:dT w.heap.size w w12:=(Y.tr r.cL).tr (dT.grown hgb (fun g G=>by injection G with G;omega) r.bz);have hdN12:dQ w12 (fun x=>x=gd) (.slice dp.a dp.ls.length dp.c) F9:=Us.cC fun x L=>by
     rw[L,hgb.block gd (Rel.old r hF gd SM) (fun e=>OS (Option.some.inj e).symm),Rel.same r hF SM]
    have hgd12:gd<w12.heap.size:=by have:=Rel.old r hF gd SM;have:=hgb.size;omega
    generalize P / F9=Q at*
    refine⟨by omega,by rw[gF];omega,E8 (out.set k Q),ir out k _ (by omega) (by simp),(k:Int)-1,wo,?_⟩;intro IR w3 K
    refine⟨(k,out.set k Q,rs',w3),⟨by dsimp only;omega,hw12.tr K.cL,by simp[QW],e1.trans rfl,SW.set hQ32,e2,?_,?_,?_,hi1',hi2'⟩,
     Sub.gn [] K,by dsimp only;omega⟩
    ·dsimp only;rw[Rel.same K hF Su];exact e6
    ·exact hdN12.cC fun x L=>by rw[L];exact Rel.same K hF SM
    ·exact Rel.old K hF gd SM
   ·have Um:k=0:=by
     have:¬(k:Int)-1≥0:=aH h9;omega
    subst Um;rw[jM,Nat.one_mul,List.drop_zero]at Tk;rw[jM,Nat.one_mul]at hi1;rw[<-hDd]at hi1 Tk;obtain⟨hq,hrem⟩:=Ls Ut Tk hi1;have Pb:∀J:World,J.heap[gr]? =some (.cells (E8 rs).toArray T.uint32 (0,0))->cz J (fun x=>x=gr) (.slice (some ⟨gr,0,none⟩) rs0.length rs0.length) rs:=fun J hh=>by
     have:=H8 hh hlr (by omega)
     rwa [TV]at this
    refine gO (Id:=fun O _ v V=>cz V (fun g=>g=(O 0).g) v (dO out)) (H':=[]) 0 rfl (by simp) trivial rfl (fun O J r=>r.nn 0 _ rfl (by intros;simp) (by simp)) (fun O J r=>?_) ?_
    ·have hL:=r.nK (id:=0) rfl SW (by omega);rw[QW]at hL;exact fM (fun g G=>by rw[G];exact(r.low 0 _ rfl (r.nn 0 _ rfl (by intros;simp) (by simp))).2) hL
    rintro O w13 v13 w14 r W hb14 hL;replace Y:=Y.tr hb14;have Od:=r.low 0 _ rfl (r.nn 0 _ rfl (by intros;simp) (by simp));have hs:=W.size;have hgr14:w14.heap[gr]? =some (.cells (E8 rs).toArray T.uint32 (0,0)):=by rw[W.block gr (Rel.old r hF gr Su),Rel.same r hF Su];exact Oc
    replace Su:=Su.mono (E:=((O 0).g,(O 0).g+1)::(w13.heap.size,w14.heap.size)::iv) fun p hp=>by simp[hp]
    have Uc:dQ w14 (Cf w (((O 0).g,(O 0).g+1)::(w13.heap.size,w14.heap.size)::iv)) v13 (n / m):=by
     have:=hL.trimmed;rw[hq]at this;exact this.cF fun k R=>.inr ⟨by omega,_,_,aG,by omega,by omega⟩
    generalize ((O 0).g,(O 0).g+1)::(w13.heap.size,w14.heap.size)::iv=Oi at*
    refine cB (cG (Id:=fun _ _ v V=>cz V (fun x=>x=gr) v (dO rs)) (fun O J r=>fM (fun g G=>by rw[G];exact Rel.old r hF gr Su) (Pb J (by rw[Rel.same r hF Su];exact hgr14))) ?_);rintro O w15 v15 w16 r W hb16 hL;replace Y:=Y.tr hb16;replace Uc:=Uc.cD (E:=(w15.heap.size,w16.heap.size)::Oi) r hF W fun x L=>aC _ L;replace hL:=hL.cF (S':=Cf w ((w15.heap.size,w16.heap.size)::Oi)) fun g G=>by rw[G];exact Su.cons
    generalize (w15.heap.size,w16.heap.size)::Oi=Ow at*
    have htl:(dO rs).length<=rs.length:=by
     obtain⟨_,_,k,_,R⟩:=ef rs;rw[R];simp;omega
    refine cB (cG (Id:=fun _ J v V=>dQ V (Nf J V) v (val (dO rs) / 2^b)) (fun O J r=>Ng (Rel.old r hF) (cz.rel hL r hF) (by omega) Oq) ?_);rintro O w17 v17 w18 r W hb18 hr;replace Y:=Y.tr hb18;rw[(ef rs).1,hrem]at hr;have Vz:=hr.dD (S:=FF) r.bz (iv:=(w17.heap.size,w18.heap.size)::Ow) aG;replace Uc:=Uc.cD (E:=(w17.heap.size,w18.heap.size)::Ow) r hF W fun x L=>aC _ L;generalize (w17.heap.size,w18.heap.size)::Ow=QO at*
    intro IR w19 K;exact⟨_,rfl,Y.tr K.cL,_,_,rfl,(Uc.rel K hF).cF fun g G=>Cv.nw G K,((Vz.rel K hF).cF fun g G=>Cv.nw G K).cF fun g G=>G.elim (fun h=>h.elim) .inr⟩
theorem El{m:Nat}(F:Old S w)(Z:dQ w S v n)(hm:dQ w S u m)(SL:ln n<=100000000000)(PO:ln m<=100000000000):
  dx PG F'.tf #[v,u] w (eH w fun v' V=>dQ V (Nw S w V) v' (Nat.gcd n m)):=by
 refine xK (by simp) ?_
 refine⟨(Value×Nat)×(Value×Nat)×Iv×World,fun z=>⟨[(0,.o (.v z.1.1)),(1,.o (.v z.2.1.1))],[],0,z.2.2.1,z.2.2.2⟩,fun z=>z.2.1.2,
  fun z=>dT w.heap.size w z.2.2.2/\dQ z.2.2.2 (Cv S w.heap.size z.2.2.1) z.1.1 z.1.2/\dQ z.2.2.2 (Cv S w.heap.size z.2.2.1) z.2.1.1 z.2.1.2/\ln z.1.2<=100000000000/\ln z.2.1.2<=100000000000/\Nat.gcd z.1.2 z.2.1.2=Nat.gcd n m,?_,?_⟩
 ·intro O J r
  exact⟨((v,n),(u,m),[],J),⟨r.cL,(Z.cC fun g G=>r.cL.block g (F g G)).cF fun _ G=>.inl G,(hm.cC fun g G=>r.cL.block g (F g G)).cF fun _ G=>.inl G,SL,PO,rfl⟩,
   Sub.gen [] r trivial ⟨rfl,rfl,trivial⟩ trivial (by simp[l5,SV.sc,At.sc]) (by rfl) (by simp)⟩
 ·rintro⟨⟨vx,x⟩,⟨vy,y⟩,iv,w1⟩ ⟨Y,L,hy,Pt,Q3,G⟩;dsimp only at Y L hy Pt Q3 G ⊢;have hyN:=hy;obtain⟨p,rfl,Qi,QR⟩:=hy.la;have Pj:=eA p.lm QR;rw[Qi]at Pj;refine dB.mk ?_ ?_<;>intro h
  ·have h:0<p.ls.length:=by
    have:(p.ls.length:Int)>0:=aK h;omega
   have Ph:0<y:=by
    rcases bJ y with h0|h0
    ·rw[h0]at Pj;rw[Lk]at Pj;omega
    ·exact h0
   refine cB (cG (Id:=fun _ J v V=>∃q r,v= .tuple #[q,r]/\dQ V (Nf J V) q (x / y)/\dQ V (Nw (Cv S w.heap.size iv) J V) r (x % y)) (fun O J r=>qI (Rel.old r F) (L.rel r F) (hyN.rel r F) Ph Pt) ?_);rintro O w3 v3 w4 r W SU ⟨q,rm,rfl,-,hr⟩;replace Y:=Y.tr SU;have Vz:dQ w4 (Cv S w.heap.size ((w3.heap.size,w4.heap.size)::iv)) rm (x % y):=hr.cF fun g G=>Nw.cv G r.bz;have hyN:=hyN.cD (E:=(w3.heap.size,w4.heap.size)::iv) r F W fun x L=>aC _ L;generalize (w3.heap.size,w4.heap.size)::iv=OU at*
   intro If w5 r5
   refine⟨((_,y),(rm,x % y),OU,w5),⟨Y.tr r5.cL,hyN.rel r5 F,Vz.rel r5 F,Q3,aW (fI (Nat.le_of_lt (bq x Ph))) Q3,?_⟩,
    Sub.gen [] r5 trivial ⟨rfl,rfl,trivial⟩ trivial (by simp[l5,SV.sc,At.sc]) (by rfl) (by simp),bq x Ph⟩
   dsimp only
   rw[<-G,Nat.gcd_comm x y,Nat.gcd_rec y x,Nat.gcd_comm]
  ·have h:p.ls.length=0:=by
    have:¬(p.ls.length:Int)>0:=aH h;omega
   have Ph:y=0:=by
    have:=kv y;rw[<-Pj,h,jM]at this;omega
   rw[Ph,Nat.gcd_zero_right]at G;intro If w5 r5;exact⟨_,rfl,Y.tr r5.cL,by rw[<-G];exact(L.rel r5 F).cF fun g G=>Cv.nw G r5⟩
def sg(neg:Bool)(n:Nat):Int:=if neg then -(n:Int)else n
theorem Ku(n:Nat):sg true n= -(n:Int):=rfl
theorem Nj(n:Nat):sg false n=n:=rfl
theorem se(b:Bool)(n:Nat):(sg b n).natAbs=n:=by cases b<;>simp[sg]
def uR(w:World)(S:Nat->Prop)(v:Value)(neg:Bool)(ls:List Nat):Prop:=∃lv,v= .agg #[.bool neg,lv]/\cz w S lv ls
def eB(w:World)(S:Nat->Prop)(v:Value)(z:Int):Prop:=∃nv,v= .agg #[.bool (decide (z<0)),nv]/\dQ w S nv z.natAbs
section
variable{S S':Nat->Prop}{H:Hp}{nx:Nat}{iv E:Iv}{B:Nat}{w J V:World}{O:Nat->Sx.dL}{v:Value}{z:Int}
theorem eB.cC(h:eB w S v z)(R:∀g,S g->V.heap[g]? =w.heap[g]?):eB V S v z:=by
 obtain⟨nv,I,X⟩:=h;exact⟨nv,I,X.cC R⟩
theorem eB.cF(h:eB w S v z)(R:∀g,S g->S' g):eB w S' v z:=by
 obtain⟨nv,I,X⟩:=h;exact⟨nv,I,X.cF R⟩
theorem eB.rel(h:eB w (Cv S B iv) v z)(r:Rel H nx iv B w O J)(F:∀g,S g->g<B):eB J (Cv S B iv) v z:=h.cC fun _ G=>Rel.same r F G
theorem eB.cD(h:eB w (Cv S B iv) v z)(r:Rel H nx iv B w O J)(F:∀g,S g->g<B)(W:Ext J V)(hm:∀p,p∈iv->p∈E):eB V (Cv S B E) v z:=by
 obtain⟨nv,I,X⟩:=h;exact⟨nv,I,X.cD r F W hm⟩
theorem eB.dD(h:eB V (Nf J V) v z)(hB:B<=J.heap.size)(hm:(J.heap.size,V.heap.size)∈iv):eB V (Cv S B iv) v z:=h.cF fun _ G=>G.dD hB hm
end
theorem vX{k:Nat}(h:k=ln n):0<k↔0<n:=by
 have I:=@gD n 0;rw[jM]at I;omega
theorem cz.shape(h:cz w S v ls):∃a n c,v= .slice a n c:=by
 obtain⟨a,c,h,_⟩:=h.sl;exact⟨a,_,c,h⟩
theorem dQ.shape(h:dQ w S v n):∃a n c,v= .slice a n c:=by
 obtain⟨_,h,_⟩:=h;exact h.shape
theorem cz.arg(h:cz w S v ls)(iv:Iv):cz w (Cv S w.heap.size iv) v ls:=h.cF fun _ h=>.inl h
theorem dQ.arg(h:dQ w S v n)(iv:Iv):dQ w (Cv S w.heap.size iv) v n:=h.cF fun _ h=>.inl h
theorem dQ.out(h:dQ w1 (Cv S w.heap.size iv) v n)(r:Rel H nx iv w.heap.size w1 O J)(F:Old S w):dQ J (Nw S w J) v n:=
 (h.rel r F).cF fun _ G=>Cv.nw G r
theorem eB.out(h:eB w1 (Cv S w.heap.size iv) v z)(r:Rel H nx iv w.heap.size w1 O J)(F:Old S w):eB J (Nw S w J) v z:=
 (h.rel r F).cF fun _ G=>Cv.nw G r
theorem neg_pos{k:Nat}(h:k=ln n):decide ((k:Int)>0)=decide (-(n:Int)<0):=by
 have:=vX h;exact decide_eq_decide.2 (by omega)
theorem bw(w:World):Old FF w:=fun _ h=>h.elim
theorem aAY{neg:Bool}(F:Old S w)(h:uR w S v neg ls):
  dx PG F'.zM #[v] w (eH w fun v' V=>eB V (Nw S w V) v' (sg neg (val ls))):=by
 obtain⟨lv,rfl,hl⟩:=h;replace hl:=hl.arg [];refine EY (by simp) ?_;refine cB (cG (Id:=fun _ _ v V=>cz V (Cv S w.heap.size []) v (dO ls)) (fun O J r=>fM (Rel.old r F) (cz.rel hl r F)) ?_);rintro O w1 v1 V r W Y hL;have hN:=hL.trimmed.cF (S':=Cv S w.heap.size [(w1.heap.size,V.heap.size)]) fun _ G=>G.cons;have hN2:=hN;obtain⟨p,rfl,Qi,QR⟩:=hN.la;have Pj:=eA p.lm QR;rw[Qi]at Pj
 cases neg
 ·intro IR w3 K;exact⟨_,rfl,Y.tr K.cL,_,rfl,by rw[se];exact hN2.out K F⟩
 ·intro IR w3 K;exact⟨_,rfl,Y.tr K.cL,_,by rw[Ku,<-neg_pos Pj];rfl,by rw[se];exact hN2.out K F⟩
theorem Kv(F:Old S w)(h:eB w S v z)(SL:ln z.natAbs<=100000000000):
  dx PG F'.mJ #[v] w (eH w fun v' V=>∃ls,uR V (Nf w V) v' (decide (z<0)) ls/\Nz ls/\val ls=z.natAbs):=by
 obtain⟨nv,rfl,Z⟩:=h;obtain⟨ls,hl,hz,hv⟩:=Z;replace hl:=hl.arg [];refine pz (by simp) ?_;refine cB (cG (Id:=fun _ _ v V=>cz V (Cv S w.heap.size []) v (dO ls)) (fun O J r=>fM (Rel.old r F) (cz.rel hl r F)) ?_);rintro O w1 v1 V r W Y hL;rw[Dh hz]at hL;have Pj:=eA hl.lm hz;rw[hv]at Pj;replace hL:=hL.cF (S':=Cv S w.heap.size [(w1.heap.size,V.heap.size)]) fun _ G=>G.cons;have hL2:=hL;obtain⟨p,rfl,hp⟩:=hL.la;have Vb:(p.ls.length:Int)>0↔z≠0:=by
  have I:=vX Pj;rw[hp];omega
 subst hp;generalize hb:decide (z<0)=b
 cases b
 all_goals
  refine cB (cG (Id:=fun _ J v V=>cz V (Nf J V) v p.ls) (fun O J r=>H3 (Rel.old r F) (cz.rel hL2 r F) (by omega)) ?_);rintro O w3 v3 w4 r W SU hc;replace Y:=Y.tr SU;have Sl:=hc.dD (S:=FF) r.bz (iv:=(w3.heap.size,w4.heap.size)::[(w1.heap.size,V.heap.size)]) aG;obtain⟨a3,n3,c3,rfl⟩:=Sl.shape;intro If w5 r5;refine⟨_,rfl,Y.tr r5.cL,p.ls,⟨_,?_,(cz.rel Sl r5 (bw w)).cF fun _ G=>Cv.nw G r5⟩,hz,hv⟩
 ·rfl
 ·have:decide ((p.ls.length:Int)>0)=true:=bU (Vb.2 (by have:=aK hb;omega));rw[<-this];rfl
theorem zx(h:eB w S v z):dx PG F'.mH #[v] w (eH w fun v' _=>v'= .int .i64 z.sign):=by
 obtain⟨nv,rfl,Z⟩:=h;obtain⟨p,rfl,Qi,QR⟩:=Z.la;have Pj:=eA p.lm QR;rw[Qi]at Pj;have Vb:=vX Pj;generalize hb:decide (z<0)=b;refine pt (by simp) ?_;refine dB.mk ?_ ?_<;>intro h
 ·have h:p.ls.length=0:=by have:=eq_of_beq h;omega
  have hz:z=0:=by omega
  subst hz;intro O V r;exact⟨_,rfl,r.cL,rfl⟩
 ·have h:p.ls.length≠0:=fun e=>by rw[e]at h;simp at h
  have hz:z≠0:=by omega
  cases b
  ·have:=aH hb;intro O V r;exact⟨_,rfl,r.cL,by rw[bh (by omega)];rfl⟩
  ·have:=aK hb;intro O V r;exact⟨_,rfl,r.cL,by rw[bg (by omega)];rfl⟩
theorem oT(F:Old S w)(h:eB w S v z):dx PG F'.lK #[v] w (eH w fun v' V=>eB V (Nw S w V) v' (-z)):=by
 obtain⟨nv,rfl,Z⟩:=h;have Qf:=Z.arg [];obtain⟨p,rfl,Qi,QR⟩:=Z.la;have Pj:=eA p.lm QR;rw[Qi]at Pj;have Vb:=vX Pj;have QM:(-z).natAbs=z.natAbs:=Int.natAbs_neg z;generalize hb:decide (z<0)=b;refine ot (by simp) ?_
 cases b
 ·have:=aH hb;have hd:decide ((p.ls.length:Int)>0)=decide (-z<0):=decide_eq_decide.2 (by omega);intro O V r;exact⟨_,rfl,r.cL,_,by rw[<-hd];rfl,by rw[QM];exact Qf.out r F⟩
 ·have:=aK hb;have hd:decide (-z<0)=false:=bE (by omega);intro O V r;exact⟨_,rfl,r.cL,_,by rw[hd];rfl,by rw[QM];exact Qf.out r F⟩
theorem eB.num(h:eB w S v z):∃a n c,v= .agg #[.bool (decide (z<0)),.slice a n c]/\dQ w S (.slice a n c) z.natAbs:=by
 obtain⟨nv,I,X⟩:=h;obtain⟨a,n,c,rfl⟩:=X.shape;exact⟨a,n,c,I,X⟩
theorem Be(F:Old S w)(L:eB w S v x)(hy:eB w S u y)(Pt:ln x.natAbs<=100000000000)(Q3:ln y.natAbs<=100000000000):
  dx PG F'.mM #[v,u] w (eH w fun v' V=>eB V (Nf w V) v' (x+y)):=by
 obtain⟨nx,rfl,RS⟩:=L;obtain⟨ny,rfl,Sz⟩:=hy;obtain⟨ax,lx,cx,rfl⟩:=RS.shape;obtain⟨ay,ly,cy,rfl⟩:=Sz.shape;replace RS:=RS.arg [];replace Sz:=Sz.arg [];generalize WH:decide (x<0)=bx;generalize Oq:decide (y<0)=b2;refine qC (by simp) ?_;have RY:bx=b2->(x+y).natAbs=x.natAbs+y.natAbs/\decide (x+y<0)=bx:=fun e=>by
  cases bx<;>subst e
  ·have I:=aH WH;have X:=aH Oq;exact⟨by omega,bE (by omega)⟩
  ·have I:=aK WH;have X:=aK Oq;exact⟨by omega,bU (by omega)⟩
 have VE:bx≠b2->y.natAbs<=x.natAbs->(x+y).natAbs=x.natAbs-y.natAbs/\(decide (x+y<0)=(bx&&decide (x.natAbs-y.natAbs≠0))):=fun e h=>by
  cases bx
  ·have I:=aH WH
   cases b2
   ·exact absurd rfl e
   have X:=aK Oq;exact⟨by omega,by rw[Bool.false_and];exact bE (by omega)⟩
  ·have I:=aK WH
   cases b2
   ·have X:=aH Oq;exact⟨by omega,by rw[Bool.true_and];exact decide_eq_decide.2 (by omega)⟩
   ·exact absurd rfl e
 have TY:bx≠b2->x.natAbs<y.natAbs->(x+y).natAbs=y.natAbs-x.natAbs/\decide (x+y<0)=b2:=fun e h=>by
  cases bx
  ·have I:=aH WH
   cases b2
   ·exact absurd rfl e
   have X:=aK Oq;exact⟨by omega,bU (by omega)⟩
  ·have I:=aK WH
   cases b2
   ·have X:=aH Oq;exact⟨by omega,bE (by omega)⟩
   ·exact absurd rfl e
 by_cases Og:bx=b2
 ·obtain⟨I,X⟩:=RY Og;subst Og
  cases bx
  all_goals
   refine cI hτ dN [.x 0,.x 1,.x 2,.x 3,.x 4,.x 5,.x 6,.x 7,.x 8] (by kernel_rfl) (by kernel_rfl) ?_;refine cG (Id:=fun _ J v V=>dQ V (Nf J V) v (x.natAbs+y.natAbs)) (fun O J r=>Nk (Rel.old r F) (RS.rel r F) (Sz.rel r F) (by omega) (by omega)) ?_;rintro O w3 v3 w4 r W Y Z;have hN:=Z.dD (S:=FF) r.bz (iv:=(w3.heap.size,w4.heap.size)::[]) aG;obtain⟨a3,n3,c3,rfl⟩:=hN.shape;intro If w5 r5;exact⟨_,rfl,Y.tr r5.cL,_,by rw[X];rfl,by rw[I];exact hN.out r5 (bw w)⟩
 ·replace VE:=VE Og;replace TY:=TY Og;have hcmp:∀d:Int,d=s3 x.natAbs y.natAbs->(0<=d↔y.natAbs<=x.natAbs):=fun d e=>by
   rw[e];unfold s3;split
   ·omega
   ·split<;>omega
  cases bx<;>cases b2<;>first|exact absurd rfl Og|skip
  all_goals
   refine cB (cG (Id:=fun _ _ v _=>v= .int .i64 (s3 x.natAbs y.natAbs)) (fun O J r=>Kd (Rel.old r F) (RS.rel r F) (Sz.rel r F)) ?_);rintro O w1 v1 V r W Y rfl;replace RS:=RS.cD (E:=[(w1.heap.size,V.heap.size)]) r F W fun x L=>aC _ L;replace Sz:=Sz.cD (E:=[(w1.heap.size,V.heap.size)]) r F W fun x L=>aC _ L;refine dB.mk ?_ ?_<;>intro h
   ·have h:=(hcmp _ rfl).1 (aK h);obtain⟨I,X⟩:=VE h;refine cB (cG (Id:=fun _ J v V=>dQ V (Nf J V) v (x.natAbs-y.natAbs)) (fun O J r=>Ck (Rel.old r F) (RS.rel r F) (Sz.rel r F) h (by omega)) ?_);rintro O w3 v3 w4 r W SU Z;replace Y:=Y.tr SU;have hN:=Z.dD (S:=FF) r.bz (iv:=(w3.heap.size,w4.heap.size)::[(w1.heap.size,V.heap.size)]) aG;have hN2:=hN;obtain⟨p,rfl,Qi,QR⟩:=hN.la;have Pj:=eA p.lm QR;rw[Qi]at Pj;have Vb:=vX Pj;have hd:decide ((p.ls.length:Int)>0)=decide (x.natAbs-y.natAbs≠0):=decide_eq_decide.2 (by omega);intro If w5 r5;exact⟨_,rfl,Y.tr r5.cL,_,by rw[X,<-hd];rfl,by rw[I];exact hN2.out r5 (bw w)⟩
   ·have h:x.natAbs<y.natAbs:=by
     have h0:=aH h;have:=hcmp _ rfl;omega
    obtain⟨I,X⟩:=TY h;refine cI hτ dN [.x 0,.x 1,.x 2,.x 3,.x 4,.x 5,.x 6,.x 7,.x 8] (by kernel_rfl) (by kernel_rfl) ?_;refine cG (Id:=fun _ J v V=>dQ V (Nf J V) v (y.natAbs-x.natAbs)) (fun O J r=>Ck (Rel.old r F) (Sz.rel r F) (RS.rel r F) (by omega) (by omega)) ?_;rintro O w3 v3 w4 r W SU Z;replace Y:=Y.tr SU;have hN:=Z.dD (S:=FF) r.bz (iv:=(w3.heap.size,w4.heap.size)::[(w1.heap.size,V.heap.size)]) aG;obtain⟨a3,n3,c3,rfl⟩:=hN.shape;intro If w5 r5;exact⟨_,rfl,Y.tr r5.cL,_,by rw[X];rfl,by rw[I];exact hN.out r5 (bw w)⟩
theorem iE(F:Old S w)(L:eB w S v x)(hy:eB w S u y)(Pt:ln x.natAbs<=100000000000)(Q3:ln y.natAbs<=100000000000):
  dx PG F'.lJ #[v,u] w (eH w fun v' V=>eB V (Nf w V) v' (x*y)):=by
 obtain⟨nx,rfl,RS⟩:=L;obtain⟨ny,rfl,Sz⟩:=hy;obtain⟨ax,lx,cx,rfl⟩:=RS.shape;obtain⟨ay,ly,cy,rfl⟩:=Sz.shape;replace RS:=RS.arg [];replace Sz:=Sz.arg [];have QM:=Int.natAbs_mul x y;have RD:decide (x*y<0)=((decide (x<0) != decide (y<0))&&decide (x.natAbs*y.natAbs≠0)):=by
  by_cases h0:x*y=0
  ·rw[<-QM,h0];simp
  ·have Ri:x≠0:=fun e=>h0 (by rw[e,Int.zero_mul]);have Ph:y≠0:=fun e=>h0 (by rw[e,Int.mul_zero]);rw[<-QM,bU (show (x*y).natAbs≠0 by omega),Bool.and_true];by_cases I:x<0<;>by_cases X:y<0
   ·rw[bU I,bU X];exact bE (by have:=Int.mul_pos_of_neg_of_neg I X;omega)
   ·rw[bU I,bE X];exact bU (Int.mul_neg_of_neg_of_pos I (by omega))
   ·rw[bE I,bU X];exact bU (Int.mul_neg_of_pos_of_neg (by omega) X)
   ·rw[bE I,bE X];exact bE (by have:=Int.mul_nonneg (show 0<=x by omega) (show 0<=y by omega);omega)
 generalize decide (x<0)=bx at*
 generalize decide (y<0)=b2 at*
 refine oq (by simp) ?_;refine cB (cG (Id:=fun _ J v V=>dQ V (Nf J V) v (x.natAbs*y.natAbs)) (fun O J r=>H6 (Rel.old r F) (RS.rel r F) (Sz.rel r F) (by omega) (by omega)) ?_);rintro O w3 v3 w4 r W Y Z;have hN:=Z.dD (S:=FF) r.bz (iv:=(w3.heap.size,w4.heap.size)::[]) aG;have hN2:=hN;obtain⟨p,rfl,Qi,QR⟩:=hN.la;have Pj:=eA p.lm QR;rw[Qi]at Pj;have Vb:=vX Pj;have hd:decide ((p.ls.length:Int)>0)=decide (x.natAbs*y.natAbs≠0):=decide_eq_decide.2 (by omega)
 cases bx<;>cases b2
 all_goals
  intro If w5 r5;exact⟨_,rfl,Y.tr r5.cL,_,by rw[RD,<-hd];rfl,by rw[QM];exact hN2.out r5 (bw w)⟩
theorem Kx(F:Old S w)(L:eB w S v x)(hy:eB w S u y)(Pt:ln x.natAbs<=100000000000)(Q3:ln y.natAbs<=100000000000):
  dx PG F'.nC #[v,u] w (eH w fun v' _=>v'= .int .i64 (x-y).sign):=by
 have hxN:eB w (Cv S w.heap.size []) v x:=L.cF fun _ h=>.inl h;have hyN:eB w (Cv S w.heap.size []) u y:=hy.cF fun _ h=>.inl h;obtain⟨nx,rfl,RS⟩:=L;obtain⟨ny,rfl,Sz⟩:=hy;obtain⟨ax,lx,cx,rfl⟩:=RS.shape;obtain⟨ay,ly,cy,rfl⟩:=Sz.shape;refine rI (by simp) ?_;refine cI hτ dN [.x 0,.x 1,.x 2,.x 3,.x 4,.x 5] (by kernel_rfl) (by kernel_rfl) ?_;refine cG (Id:=fun _ J v V=>eB V (Nw (Cv S w.heap.size []) J V) v (-y)) (fun O J r=>oT (Rel.old r F) (hyN.rel r F)) ?_;rintro O w1 v1 V r W Y hm;have UO:eB V (Cv S w.heap.size [(w1.heap.size,V.heap.size)]) v1 (-y):=hm.cF fun _ G=>Nw.cv G r.bz;replace hxN:=hxN.cD (E:=[(w1.heap.size,V.heap.size)]) r F W fun x L=>aC _ L;generalize [(w1.heap.size,V.heap.size)]=iv at*
 have hmN2:=UO;obtain⟨am,lm,cm,rfl,-⟩:=UO.num;refine cG (Id:=fun _ J v V=>eB V (Nf J V) v (x+ -y)) (fun O J r=>Be (Rel.old r F) (hxN.rel r F) (hmN2.rel r F) Pt (by rw[Int.natAbs_neg];exact Q3)) ?_;rintro O w3 v3 w4 r W SU hp;replace Y:=Y.tr SU;have hpN:=hp.dD (S:=S) r.bz (iv:=(w3.heap.size,w4.heap.size)::iv) aG;have hpN2:=hpN;obtain⟨ap,lp,cp,rfl,-⟩:=hpN.num;refine cG (Id:=fun _ _ v _=>v= .int .i64 (x-y).sign) (fun O J r=>zx (hpN2.rel r F)) ?_;rintro O w5 v5 w6 r W Tl rfl;replace Y:=Y.tr Tl;intro J9 w7 r7;exact⟨_,rfl,Y.tr r7.cL,rfl⟩
theorem oV(n:Int)(w:World)(I: -9223372036854775808<=n)(X:n<=9223372036854775807):
  dx PG F'.wR #[.int .i64 n] w (eH w fun v' V=>eB V (Nf w V) v' n):=by
 have key:∀(m:Nat),m=n.natAbs->m<18446744073709551616/\val [m % 4294967296,m / 4294967296]=n.natAbs/\m / 4294967296<4294967296:=fun m e=>by
  refine⟨by omega,?_,by omega⟩;simp only[val]
  omega
 refine z4 (by simp) ?_;refine⟨if n<0 then n+18446744073709551616 else n,by show n % 18446744073709551616=_;split<;>omega,?_⟩;refine dB.mk ?_ ?_<;>intro h
 ·have h:=aK h;rw[if_pos h];obtain⟨m,hm⟩:∃m,m=n.natAbs:=⟨_,rfl⟩
  obtain⟨k1,k2,k3⟩:=key m hm;refine⟨(m:Int),by show(0-(n+18446744073709551616)) % 18446744073709551616=_;omega,((m % 4294967296:Nat):Int),fF m,by decide,((m / 2^32:Nat):Int),lV 32 (by decide),((m / 4294967296:Nat):Int),by rw[fF,bI (by omega)],?_⟩;refine gO (Id:=fun O _ v V=>cz V (fun g=>g=(O 1).g) v (dO [m % 4294967296,m / 4294967296])) (H':=[(0,.box T.number [.v (.bool false),.v (.slice none 0 0)])]) 1 rfl (by simp) ⟨rfl,trivial⟩ rfl (fun O J r=>r.nn 1 _ rfl (by intros;simp) (by simp)) (fun O J r=>?_) ?_
  ·have hL:=r.uJ (id:=1) (ls:=[m % 4294967296,m / 4294967296]) rfl (by intro x L;simp at L;omega) (by simp);exact fM (fun g G=>by rw[G];exact(r.low 1 _ rfl (r.nn 1 _ rfl (by intros;simp) (by simp))).2) hL
  rintro O w1 v1 V r W Y hL;have Od:=r.low 1 _ rfl (r.nn 1 _ rfl (by intros;simp) (by simp));have hs:=W.size;generalize (O 1).g=g0 at*
  have hN:dQ V (Cf w [(g0,g0+1),(w1.heap.size,V.heap.size)]) v1 n.natAbs:=by
   have:=hL.trimmed;rw[k2]at this;exact this.cF fun k R=>.inr ⟨by omega,g0,g0+1,by simp,by omega,by omega⟩
  generalize [(g0,g0+1),(w1.heap.size,V.heap.size)]=iv at*
  obtain⟨a3,n3,c3,rfl⟩:=hN.shape;intro If w5 r5;exact⟨_,rfl,Y.tr r5.cL,_,rfl,hN.out r5 (bw w)⟩
 ·have h:=aH h;rw[aI h];obtain⟨m,hm⟩:∃m,m=n.natAbs:=⟨_,rfl⟩
  obtain⟨k1,k2,k3⟩:=key m hm;have RX:n=(m:Int):=by omega
  refine⟨((m % 4294967296:Nat):Int),by rw[RX];exact fF m,by decide,((m / 2^32:Nat):Int),by rw[RX];exact lV 32 (by decide),((m / 4294967296:Nat):Int),by rw[fF,bI (by omega)],?_⟩;refine gO (Id:=fun O _ v V=>cz V (fun g=>g=(O 1).g) v (dO [m % 4294967296,m / 4294967296])) (H':=[(0,.box T.number [.v (.bool false),.v (.slice none 0 0)])]) 1 rfl (by simp) ⟨rfl,trivial⟩ rfl (fun O J r=>r.nn 1 _ rfl (by intros;simp) (by simp)) (fun O J r=>?_) ?_
  ·have hL:=r.uJ (id:=1) (ls:=[m % 4294967296,m / 4294967296]) rfl (by intro x L;simp at L;omega) (by simp);exact fM (fun g G=>by rw[G];exact(r.low 1 _ rfl (r.nn 1 _ rfl (by intros;simp) (by simp))).2) hL
  rintro O w1 v1 V r W Y hL;have Od:=r.low 1 _ rfl (r.nn 1 _ rfl (by intros;simp) (by simp));have hs:=W.size;generalize (O 1).g=g0 at*
  have hN:dQ V (Cf w [(g0,g0+1),(w1.heap.size,V.heap.size)]) v1 n.natAbs:=by
   have:=hL.trimmed;rw[k2]at this;exact this.cF fun k R=>.inr ⟨by omega,g0,g0+1,by simp,by omega,by omega⟩
  generalize [(g0,g0+1),(w1.heap.size,V.heap.size)]=iv at*
  obtain⟨a3,n3,c3,rfl⟩:=hN.shape;intro If w5 r5;exact⟨_,rfl,Y.tr r5.cL,_,rfl,hN.out r5 (bw w)⟩
def j5(w:World)(S:Nat->Prop)(v:Value)(z:Int):Prop:=∃neg ls,uR w S v neg ls/\sg neg (val ls)=z
def cu(w:World)(S:Nat->Prop)(v:Value)(z:Int):Prop:=∃ls,uR w S v (decide (z<0)) ls/\Nz ls/\val ls=z.natAbs
theorem Bf(z:Int):sg (decide (z<0)) z.natAbs=z:=by
 by_cases h:z<0
 ·rw[bU h,Ku];omega
 ·rw[bE h,Nj];omega
theorem cu.r(h:cu w S v z):j5 w S v z:=by
 obtain⟨ls,I,X,N⟩:=h;exact⟨_,ls,I,by rw[N,Bf]⟩
section
variable{S S':Nat->Prop}{H:Hp}{nx:Nat}{iv E:Iv}{B:Nat}{w J V:World}{O:Nat->Sx.dL}{v:Value}{z:Int}{neg:Bool}{ls:List Nat}
theorem uR.cC(h:uR w S v neg ls)(R:∀g,S g->V.heap[g]? =w.heap[g]?):uR V S v neg ls:=by
 obtain⟨lv,I,X⟩:=h;exact⟨lv,I,X.cC R⟩
theorem uR.cF(h:uR w S v neg ls)(R:∀g,S g->S' g):uR w S' v neg ls:=by
 obtain⟨lv,I,X⟩:=h;exact⟨lv,I,X.cF R⟩
theorem j5.cC(h:j5 w S v z)(R:∀g,S g->V.heap[g]? =w.heap[g]?):j5 V S v z:=by
 obtain⟨n,l,I,X⟩:=h;exact⟨n,l,I.cC R,X⟩
theorem j5.cF(h:j5 w S v z)(R:∀g,S g->S' g):j5 w S' v z:=by
 obtain⟨n,l,I,X⟩:=h;exact⟨n,l,I.cF R,X⟩
theorem cu.cC(h:cu w S v z)(R:∀g,S g->V.heap[g]? =w.heap[g]?):cu V S v z:=by
 obtain⟨l,I,X⟩:=h;exact⟨l,I.cC R,X⟩
theorem cu.cF(h:cu w S v z)(R:∀g,S g->S' g):cu w S' v z:=by
 obtain⟨l,I,X⟩:=h;exact⟨l,I.cF R,X⟩
theorem j5.rel(h:j5 w (Cv S B iv) v z)(r:Rel H nx iv B w O J)(F:∀g,S g->g<B):j5 J (Cv S B iv) v z:=h.cC fun _ G=>Rel.same r F G
theorem cu.rel(h:cu w (Cv S B iv) v z)(r:Rel H nx iv B w O J)(F:∀g,S g->g<B):cu J (Cv S B iv) v z:=h.cC fun _ G=>Rel.same r F G
theorem j5.cD(h:j5 w (Cv S B iv) v z)(r:Rel H nx iv B w O J)(F:∀g,S g->g<B)(W:Ext J V)(hm:∀p,p∈iv->p∈E):j5 V (Cv S B E) v z:=
 ((h.rel r F).cC fun g G=>W.block g (Rel.old r F g G)).cF fun _ G=>G.mono hm
theorem cu.cD(h:cu w (Cv S B iv) v z)(r:Rel H nx iv B w O J)(F:∀g,S g->g<B)(W:Ext J V)(hm:∀p,p∈iv->p∈E):cu V (Cv S B E) v z:=
 ((h.rel r F).cC fun g G=>W.block g (Rel.old r F g G)).cF fun _ G=>G.mono hm
theorem cu.dD(h:cu V (Nf J V) v z)(hB:B<=J.heap.size)(hm:(J.heap.size,V.heap.size)∈iv):cu V (Cv S B iv) v z:=h.cF fun _ G=>G.dD hB hm
theorem j5.shape(h:j5 w S v z):∃b a n c,v= .agg #[.bool b,.slice a n c]:=by
 obtain⟨b,l,⟨lv,I,X⟩,_⟩:=h;obtain⟨a,n,c,rfl⟩:=X.shape;exact⟨b,a,n,c,I⟩
theorem eB.old(h:eB V (Nw (Cv S B iv) J V) v z)(hB:B<=J.heap.size):eB V (Cv S B ((J.heap.size,V.heap.size)::iv)) v z:=h.cF fun _ G=>Nw.cv G hB
end
theorem cu.out(h:cu w1 (Cv S w.heap.size iv) v z)(r:Rel H nx iv w.heap.size w1 O J)(F:Old S w):cu J (Nw S w J) v z:=
 (h.rel r F).cF fun _ G=>Cv.nw G r
theorem Ky(F:Old S w)(h:j5 w S v z):dx PG F'.zM #[v] w (eH w fun v' V=>eB V (Nw S w V) v' z):=by
 obtain⟨n,l,I,rfl⟩:=h;exact aAY F I
theorem eB.shape(h:eB w S v z):∃b a n c,v= .agg #[.bool b,.slice a n c]:=by
 obtain⟨a,n,c,I,_⟩:=h.num;exact⟨_,a,n,c,I⟩
theorem cu.shape(h:cu w S v z):∃b a n c,v= .agg #[.bool b,.slice a n c]:=h.r.shape
theorem cX(x y:Int):ln (x*y).natAbs<=ln x.natAbs+ln y.natAbs:=by
 rw[Int.natAbs_mul];exact NL _ _
end Go.Ex
namespace Go.Ex
open Go Go.Sx
theorem yc{x y:Int}(hy:0<y)(L:x≠0):
  (Rat.divInt x y).num.natAbs=x.natAbs / Nat.gcd x.natAbs y.natAbs/\(Rat.divInt x y).den=y.natAbs / Nat.gcd x.natAbs y.natAbs/\decide ((Rat.divInt x y).num<0)=decide (x<0):=by
 have G:0<Nat.gcd x.natAbs y.natAbs:=bl _ (by omega);have hs:y.sign=1:=bh hy;have hc:(y.gcd x:Int)=(Nat.gcd x.natAbs y.natAbs:Nat):=by rw[Int.gcd_comm];rfl
 have hdx:((Nat.gcd x.natAbs y.natAbs:Nat):Int) ∣ x:=by
  rw[<-Int.natAbs_dvd_natAbs];exact Nat.gcd_dvd_left _ _
 have I:(Rat.divInt x y).num=x / ((Nat.gcd x.natAbs y.natAbs:Nat):Int):=by
  rw[Rat.num_divInt,hs,Int.one_mul,hc]
 have Vo:0<((Nat.gcd x.natAbs y.natAbs:Nat):Int):=by omega
 refine⟨?_,?_,?_⟩
 ·rw[I,Int.natAbs_ediv_of_dvd hdx];rfl
 ·rw[Rat.den_divInt,aI (by omega)];have:y.gcd x=Nat.gcd x.natAbs y.natAbs:=by rw[Int.gcd_comm];rfl
  rw[this]
 ·rw[I];obtain⟨k,R⟩:=hdx;refine decide_eq_decide.2 ?_;have:x / ((Nat.gcd x.natAbs y.natAbs:Nat):Int)=k:=by
   conv=>lhs;lhs;rw[R]
   exact Int.mul_ediv_cancel_left _ (by omega)
  rw[this];generalize ((Nat.gcd x.natAbs y.natAbs:Nat):Int)=g at*
  subst R;constructor
  ·intro h;exact Int.mul_neg_of_pos_of_neg Vo h
  ·intro h;have h0:¬0<=k:=fun hh=>by have:=Int.mul_nonneg (show 0<=g by omega) hh;omega
   omega
theorem IQ{a b:Nat}:ln (a / b)<=ln a:=fI (Nat.div_le_self a b)
theorem yd(y:Int):Rat.divInt 0 y=0:=Rat.zero_divInt y
end Go.Ex
namespace Go.Ex
open Go Go.Sx Go.Proofs
variable{b b2:Bool}{S:Nat->Prop}{q:Rat}{dv nv v:Value}{w:World}
theorem dQ.old{B:Nat}{iv:Iv}{J V:World}{n:Nat}(h:dQ V (Nw (Cv S B iv) J V) v n)(hB:B<=J.heap.size):dQ V (Cv S B ((J.heap.size,V.heap.size)::iv)) v n:=h.cF fun _ G=>Nw.cv G hB
def cP(w:World)(S:Nat->Prop)(v:Value)(q:Rat):Prop:=∃nv dv,v= .agg #[.bool (decide (q.num<0)),nv,.bool false,dv]/\dQ w S nv q.num.natAbs/\dQ w S dv q.den
theorem cP.cC{V:World}(h:cP w S v q)(R:∀g,S g->V.heap[g]? =w.heap[g]?):cP V S v q:=by
 obtain⟨n,d,I,X,N⟩:=h;exact⟨n,d,I,X.cC R,N.cC R⟩
theorem cP.cF{S':Nat->Prop}(h:cP w S v q)(R:∀g,S g->S' g):cP w S' v q:=by
 obtain⟨n,d,I,X,N⟩:=h;exact⟨n,d,I,X.cF R,N.cF R⟩
theorem cP.shape(h:cP w S v q):∃b a n c b2 a2 n2 c2,v= .agg #[.bool b,.slice a n c,.bool b2,.slice a2 n2 c2]:=by
 obtain⟨n,d,I,X,N⟩:=h;obtain⟨a,n,c,rfl⟩:=X.shape;obtain⟨a2,n2,c2,rfl⟩:=N.shape;exact⟨_,a,n,c,_,a2,n2,c2,I⟩
theorem cP.num(h:cP w S (.agg #[.bool b,nv,.bool b2,dv]) q):eB w S (.agg #[.bool b,nv]) q.num:=by
 obtain⟨n,d,I,X,N⟩:=h;simp at I;obtain⟨rfl,rfl,rfl,rfl⟩:=I;exact⟨_,rfl,X⟩
theorem cP.den(h:cP w S (.agg #[.bool b,nv,.bool b2,dv]) q):eB w S (.agg #[.bool b2,dv]) (q.den:Int):=by
 obtain⟨n,d,I,X,N⟩:=h;simp at I;obtain⟨rfl,rfl,rfl,rfl⟩:=I;exact⟨_,by rw[bE (by omega)],N⟩
theorem cP.of(h:eB w S (.agg #[.bool b,nv]) q.num)(k:eB w S (.agg #[.bool b2,dv]) (q.den:Int)):cP w S (.agg #[.bool b,nv,.bool b2,dv]) q:=by
 obtain⟨n,I,X⟩:=h;obtain⟨d,N,h4⟩:=k;simp at I N;obtain⟨rfl,rfl⟩:=I;obtain⟨rfl,rfl⟩:=N;refine⟨_,_,?_,X,h4⟩;rw[bE (show ¬((q.den:Int)<0) by omega)]
section
variable{S S':Nat->Prop}{H:Hp}{nx:Nat}{iv E:Iv}{B:Nat}{w J V:World}{O:Nat->Sx.dL}{v:Value}{q:Rat}
theorem cP.rel(h:cP w (Cv S B iv) v q)(r:Rel H nx iv B w O J)(F:∀g,S g->g<B):cP J (Cv S B iv) v q:=h.cC fun _ G=>Rel.same r F G
theorem cP.cD(h:cP w (Cv S B iv) v q)(r:Rel H nx iv B w O J)(F:∀g,S g->g<B)(W:Ext J V)(hm:∀p,p∈iv->p∈E):cP V (Cv S B E) v q:=
 ((h.rel r F).cC fun g G=>W.block g (Rel.old r F g G)).cF fun _ G=>G.mono hm
theorem cP.dD(h:cP V (Nf J V) v q)(hB:B<=J.heap.size)(hm:(J.heap.size,V.heap.size)∈iv):cP V (Cv S B iv) v q:=h.cF fun _ G=>G.dD hB hm
theorem cP.old(h:cP V (Nw (Cv S B iv) J V) v q)(hB:B<=J.heap.size):cP V (Cv S B ((J.heap.size,V.heap.size)::iv)) v q:=h.cF fun _ G=>Nw.cv G hB
theorem cP.out{w0 w1:World}(h:cP w1 (Cv S w0.heap.size iv) v q)(r:Rel H nx iv w0.heap.size w1 O J)(F:Old S w0):cP J (Nw S w0 J) v q:=
 (h.rel r F).cF fun _ G=>Cv.nw G r
theorem cP.arg(h:cP w S v q)(iv:Iv):cP w (Cv S w.heap.size iv) v q:=h.cF fun _ h=>.inl h
end
theorem eB.nat{z:Int}(h:eB w S (.agg #[.bool b,nv]) z):b=decide (z<0)/\dQ w S nv z.natAbs:=by
 obtain⟨n,I,X⟩:=h;simp at I;obtain⟨rfl,rfl⟩:=I;exact⟨rfl,X⟩
theorem vY{u:Value}{x y:Int}(F:Old S w)(L:eB w S v x)(hy:eB w S u y)(Ph:y≠0)(Pt:ln x.natAbs<=100000000000)(Q3:ln y.natAbs<=100000000000):
  dx PG F'.zJ #[v,u] w (eH w fun v' V=>cP V (Nf w V) v' (Rat.divInt x y)):=by
 have Y:=bR w;replace L:=L.cF (S':=Cv S w.heap.size []) fun _ h=>.inl h;replace hy:=hy.cF (S':=Cv S w.heap.size []) fun _ h=>.inl h;obtain⟨bx,ax,lx,cx,rfl⟩:=L.shape;obtain⟨b2,ay,ly,cy,rfl⟩:=hy.shape;have Qo:=hy.nat.1;refine Aa (by simp) ?_
 cases b2
 ·have hyp:0<y:=by have:=aH Qo.symm;omega
  have hq:Rat.divInt x y=Rat.divInt x y:=rfl;have hbA:=L.nat.1;refine cB (cE Y (fun _ J v V=>v= .int .i64 (x).sign) (fun O J r=>zx (L.rel r F)) ?_);rintro O PQ v1 PE OZ r W Y h_ rfl;replace L:=L.cD r F W (mC h_);replace hy:=hy.cD r F W (mC h_);refine dB.mk ?_ ?_<;>intro h
  ·have h:x=0:=bu.1 (eq_of_beq h);refine cB (cE Y (fun _ J v V=>eB V (Nf J V) v 1) (fun O J r=>oV 1 J (by decide) (by decide)) ?_);rintro O QK v2 PT OU r W Y h_ Z;have hO:=Z.dD (S:=FF) r.bz (mN h_);obtain⟨A0,A1,A2,A3,rfl⟩:=hO.shape;have e0:Rat.divInt x y=0:=by rw[hq,h,yd]
   exact rtn Y fun GT we re=>by rw[e0];exact cP.of ⟨_,rfl,dQ.nil _ _⟩ (hO.out re (bw w))
  ·have h:x≠0:=fun e=>by rw[e]at h;exact absurd h (by decide)
   obtain⟨g1,g2,g3⟩:=yc hyp h;have TB:0<Nat.gcd (x).natAbs (y).natAbs:=bl _ (by omega);have WK:=L.nat.2;have US:=hy.nat.2;refine cB (cG (Id:=fun _ J v V=>dQ V (Nw (Cv S w.heap.size OZ) J V) v (Nat.gcd (x).natAbs (y).natAbs)) (fun O J r=>El (Rel.old r F) (WK.rel r F) (US.rel r F) (by omega) (by omega)) ?_);rintro O QK v2 PT r W hb Z;replace Y:=Y.tr hb;replace WK:=WK.cD (E:=(QK.heap.size,PT.heap.size)::OZ) r F W fun x L=>aC _ L;replace US:=US.cD (E:=(QK.heap.size,PT.heap.size)::OZ) r F W fun x L=>aC _ L;have hG:=Z.old r.bz;generalize (QK.heap.size,PT.heap.size)::OZ=OU at*
   obtain⟨A0,A1,A2,rfl⟩:=hG.shape;refine cB (cG (Id:=fun _ J v V=>∃q r,v= .tuple #[q,r]/\dQ V (Nf J V) q ((x).natAbs / Nat.gcd (x).natAbs (y).natAbs)/\dQ V (Nw (Cv S w.heap.size OU) J V) r ((x).natAbs % Nat.gcd (x).natAbs (y).natAbs)) (fun O J r=>qI (Rel.old r F) (WK.rel r F) (hG.rel r F) TB (by omega)) ?_);rintro O PY v3 PX r W hb ⟨qvp,rvp,rfl,RQ,Tn⟩;replace Y:=Y.tr hb;replace US:=US.cD (E:=(PY.heap.size,PX.heap.size)::OU) r F W fun x L=>aC _ L;replace hG:=hG.cD (E:=(PY.heap.size,PX.heap.size)::OU) r F W fun x L=>aC _ L;have hP:=RQ.dD (S:=FF) r.bz (iv:=(PY.heap.size,PX.heap.size)::OU) aG;have hPr:=Tn.old r.bz;generalize (PY.heap.size,PX.heap.size)::OU=Oi at*
   obtain⟨s3_0a,s3_0b,s3_0c,rfl⟩:=hP.shape;obtain⟨s3_1a,s3_1b,s3_1c,rfl⟩:=hPr.shape;refine cB (cG (Id:=fun _ J v V=>∃q r,v= .tuple #[q,r]/\dQ V (Nf J V) q ((y).natAbs / Nat.gcd (x).natAbs (y).natAbs)/\dQ V (Nw (Cv S w.heap.size Oi) J V) r ((y).natAbs % Nat.gcd (x).natAbs (y).natAbs)) (fun O J r=>qI (Rel.old r F) (US.rel r F) (hG.rel r F) TB (by omega)) ?_);rintro O Qw v4 Q9 r W hb ⟨qvq,rvq,rfl,RQ,Tn⟩;replace Y:=Y.tr hb;replace hP:=hP.cD (E:=(Qw.heap.size,Q9.heap.size)::Oi) r (bw w) W fun x L=>aC _ L;have hQ:=RQ.dD (S:=FF) r.bz (iv:=(Qw.heap.size,Q9.heap.size)::Oi) aG;have hQr:=Tn.old r.bz;generalize (Qw.heap.size,Q9.heap.size)::Oi=Ow at*
   obtain⟨s4_0a,s4_0b,s4_0c,rfl⟩:=hQ.shape;obtain⟨s4_1a,s4_1b,s4_1c,rfl⟩:=hQr.shape;exact rtn Y fun GT we re=>by rw[hq];exact cP.of ⟨_,by rw[g3,<-hbA],by rw[g1];exact hP.out re (bw w)⟩ ⟨_,by rw[bE (by omega)],by rw[g2];exact hQ.out re (bw w)⟩
 ·have hyp:0< -y:=by have:=aK Qo.symm;omega
  have hq:Rat.divInt x y=Rat.divInt (-x) (-y):=(Rat.neg_divInt_neg _ _).symm;have nx:=Int.natAbs_neg x;have ny:=Int.natAbs_neg y;have hlx2:ln (-x).natAbs<=100000000000:=by rw[nx];exact Pt
  have hly2:ln (-y).natAbs<=100000000000:=by rw[ny];exact Q3
  refine cI hτ dN [.x 0,.x 2,.x 1,.x 3,.x 4,.x 5] (by kernel_rfl) (by kernel_rfl) ?_;refine cG (Id:=fun _ J v V=>eB V (Nw (Cv S w.heap.size []) J V) v (-x)) (fun O J r=>oT (Rel.old r F) (L.rel r F)) ?_;rintro O PQ v1 PE r W hb Z;replace Y:=Y.tr hb;replace hy:=hy.cD (E:=(PQ.heap.size,PE.heap.size)::[]) r F W fun x L=>aC _ L;have hA:=Z.old r.bz;generalize (PQ.heap.size,PE.heap.size)::[]=OZ at*
  obtain⟨C0,C1,C2,C3,rfl⟩:=hA.shape;refine cG (Id:=fun _ J v V=>eB V (Nw (Cv S w.heap.size OZ) J V) v (-y)) (fun O J r=>oT (Rel.old r F) (hy.rel r F)) ?_;rintro O QK v2 PT r W hb Z;replace Y:=Y.tr hb;replace hA:=hA.cD (E:=(QK.heap.size,PT.heap.size)::OZ) r F W fun x L=>aC _ L;have hB:=Z.old r.bz;generalize (QK.heap.size,PT.heap.size)::OZ=OU at*
  obtain⟨A0,A1,A2,A3,rfl⟩:=hB.shape;have hbA:=hA.nat.1;refine cB (cE Y (fun _ J v V=>v= .int .i64 (-x).sign) (fun O J r=>zx (hA.rel r F)) ?_);rintro O _ _ _ Oi r W Y h_ rfl;replace hA:=hA.cD r F W (mC h_);replace hB:=hB.cD r F W (mC h_);refine dB.mk ?_ ?_<;>intro h
  ·have h: -x=0:=bu.1 (eq_of_beq h);refine cB (cE Y (fun _ J v V=>eB V (Nf J V) v 1) (fun O J r=>oV 1 J (by decide) (by decide)) ?_);rintro O Qw v4 Q9 Ow r W Y h_ Z;have hO:=Z.dD (S:=FF) r.bz (mN h_);obtain⟨E0,E1,E2,E3,rfl⟩:=hO.shape;have e0:Rat.divInt x y=0:=by rw[hq,h,yd]
   exact rtn Y fun GT we re=>by rw[e0];exact cP.of ⟨_,rfl,dQ.nil _ _⟩ (hO.out re (bw w))
  ·have h: -x≠0:=fun e=>by rw[e]at h;exact absurd h (by decide)
   obtain⟨g1,g2,g3⟩:=yc hyp h;have TB:0<Nat.gcd (-x).natAbs (-y).natAbs:=bl _ (by omega);have WK:=hA.nat.2;have US:=hB.nat.2;refine cB (cG (Id:=fun _ J v V=>dQ V (Nw (Cv S w.heap.size Oi) J V) v (Nat.gcd (-x).natAbs (-y).natAbs)) (fun O J r=>El (Rel.old r F) (WK.rel r F) (US.rel r F) (by omega) (by omega)) ?_);rintro O Qw v4 Q9 r W hb Z;replace Y:=Y.tr hb;replace WK:=WK.cD (E:=(Qw.heap.size,Q9.heap.size)::Oi) r F W fun x L=>aC _ L;replace US:=US.cD (E:=(Qw.heap.size,Q9.heap.size)::Oi) r F W fun x L=>aC _ L;have hG:=Z.old r.bz;generalize (Qw.heap.size,Q9.heap.size)::Oi=Ow at*
   obtain⟨E0,E1,E2,rfl⟩:=hG.shape;refine cB (cG (Id:=fun _ J v V=>∃q r,v= .tuple #[q,r]/\dQ V (Nf J V) q ((-x).natAbs / Nat.gcd (-x).natAbs (-y).natAbs)/\dQ V (Nw (Cv S w.heap.size Ow) J V) r ((-x).natAbs % Nat.gcd (-x).natAbs (-y).natAbs)) (fun O J r=>qI (Rel.old r F) (WK.rel r F) (hG.rel r F) TB (by omega)) ?_);rintro O SZ v5 Sm r W hb ⟨qvp,rvp,rfl,RQ,Tn⟩;replace Y:=Y.tr hb;replace US:=US.cD (E:=(SZ.heap.size,Sm.heap.size)::Ow) r F W fun x L=>aC _ L;replace hG:=hG.cD (E:=(SZ.heap.size,Sm.heap.size)::Ow) r F W fun x L=>aC _ L;have hP:=RQ.dD (S:=FF) r.bz (iv:=(SZ.heap.size,Sm.heap.size)::Ow) aG;have hPr:=Tn.old r.bz;generalize (SZ.heap.size,Sm.heap.size)::Ow=QO at*
   obtain⟨s5_0a,s5_0b,s5_0c,rfl⟩:=hP.shape;obtain⟨s5_1a,s5_1b,s5_1c,rfl⟩:=hPr.shape;refine cB (cG (Id:=fun _ J v V=>∃q r,v= .tuple #[q,r]/\dQ V (Nf J V) q ((-y).natAbs / Nat.gcd (-x).natAbs (-y).natAbs)/\dQ V (Nw (Cv S w.heap.size QO) J V) r ((-y).natAbs % Nat.gcd (-x).natAbs (-y).natAbs)) (fun O J r=>qI (Rel.old r F) (US.rel r F) (hG.rel r F) TB (by omega)) ?_);rintro O R7 v6 Rj r W hb ⟨qvq,rvq,rfl,RQ,Tn⟩;replace Y:=Y.tr hb;replace hP:=hP.cD (E:=(R7.heap.size,Rj.heap.size)::QO) r (bw w) W fun x L=>aC _ L;have hQ:=RQ.dD (S:=FF) r.bz (iv:=(R7.heap.size,Rj.heap.size)::QO) aG;have hQr:=Tn.old r.bz;generalize (R7.heap.size,Rj.heap.size)::QO=R8 at*
   obtain⟨s6_0a,s6_0b,s6_0c,rfl⟩:=hQ.shape;obtain⟨s6_1a,s6_1b,s6_1c,rfl⟩:=hQr.shape;exact rtn Y fun GT we re=>by rw[hq];exact cP.of ⟨_,by rw[g3,<-hbA],by rw[g1];exact hP.out re (bw w)⟩ ⟨_,by rw[bE (by omega)],by rw[g2];exact hQ.out re (bw w)⟩
end Go.Ex
namespace Go.Ex
open Go Go.Sx
variable{a b:Int}
def rl(q:Rat):Nat:=max (ln q.num.natAbs) (ln q.den)
theorem fu(q:Rat):ln q.num.natAbs<=rl q:=Nat.le_max_left _ _
theorem NS(q:Rat):ln q.den<=rl q:=Nat.le_max_right _ _
theorem fJ(q:Rat):ln ((q.den:Int)).natAbs<=rl q:=Nat.le_max_right _ _
theorem jq(hb:b≠0):rl (Rat.divInt a b)<=max (ln a.natAbs) (ln b.natAbs):=by
 have I:ln (Rat.divInt a b).num.natAbs<=ln a.natAbs:=by
  rw[Rat.num_divInt];refine fI (aW (Int.natAbs_ediv_le_natAbs _ _) ?_);rw[Int.natAbs_mul,Int.natAbs_sign_of_ne_zero hb,Nat.one_mul];exact Nat.le_refl _
 have X:ln (Rat.divInt a b).den<=ln b.natAbs:=by
  rw[Rat.den_divInt,aI hb];exact IQ
 unfold rl;omega
theorem ia(x y:Int):ln (x+y).natAbs<=max (ln x.natAbs) (ln y.natAbs)+1:=by
 have I:=NK x.natAbs y.natAbs;have X:=fI (show (x+y).natAbs<=x.natAbs+y.natAbs by omega);omega
theorem gR(q:Rat):(q.den:Int)≠0:=by have:=q.den_pos;omega
theorem tR(f g:Rat):f+g=Rat.divInt (f.num*g.den+g.num*f.den) (f.den*g.den):=by
 rw[<-Rat.divInt_add_divInt _ _ (gR f) (gR g),Rat.num_divInt_den,Rat.num_divInt_den]
theorem xf(f g:Rat):f*g=Rat.divInt (f.num*g.num) (f.den*g.den):=by
 rw[<-Rat.divInt_mul_divInt,Rat.num_divInt_den,Rat.num_divInt_den]
theorem HM(f g:Rat):f / g=Rat.divInt (f.num*g.den) (f.den*g.num):=by
 rw[<-Rat.divInt_mul_divInt,Rat.num_divInt_den,<-Rat.inv_def,<-bK]
theorem kP(ha:a≠0)(hb:b≠0):a*b≠0:=Int.mul_ne_zero ha hb
theorem lA(f g:Rat):rl (f+g)<=rl f+rl g+1:=by
 have h:=jq (a:=f.num*g.den+g.num*f.den) (kP (gR f) (gR g));rw[<-tR]at h;have I:=ia (f.num*g.den) (g.num*f.den);have X:=cX f.num g.den;have N:=cX g.num f.den;have h4:=cX f.den g.den;have:=fu f;have:=fu g;have:=fJ f;have:=fJ g;omega
theorem hJ(f g:Rat):rl (f*g)<=rl f+rl g:=by
 have h:=jq (a:=f.num*g.num) (kP (gR f) (gR g));rw[<-xf]at h;have X:=cX f.num g.num;have h4:=cX f.den g.den;have:=fu f;have:=fu g;have:=fJ f;have:=fJ g;omega
theorem pN(f:Rat){g:Rat}(G:g≠0):rl (f / g)<=rl f+rl g:=by
 have h:=jq (a:=f.num*g.den) (kP (gR f) (fun e=>G (Rat.num_eq_zero.1 e)));rw[<-HM]at h;have X:=cX f.num g.den;have h4:=cX f.den g.num;have:=fu f;have:=fu g;have:=fJ f;have:=fJ g;omega
theorem j9(f:Rat):rl (-f)=rl f:=by unfold rl;rw[Rat.neg_num,Rat.neg_den,Int.natAbs_neg]
theorem yu(f g:Rat):rl (f-g)<=rl f+rl g+1:=by
 rw[Rat.sub_eq_add_neg];have:=lA f (-g);rw[j9]at this;exact this
def rs(q:Rat):Int:=q.num.sign
theorem tS(hb:0<b):(Rat.divInt a b).num.sign=a.sign:=by
 by_cases ha:a=0
 ·subst ha;rw[yd];rfl
 ·obtain⟨I,-,N⟩:=yc hb ha;have N:=decide_eq_decide.1 N;have h0:(Rat.divInt a b).num≠0:=fun e=>by
   have h4:=Nat.div_pos (Nat.le_of_dvd (by omega) (Nat.gcd_dvd_left a.natAbs b.natAbs)) (bl a.natAbs (n:=b.natAbs) (by omega));omega
  rcases Int.lt_or_gt_of_ne ha with h|h
  ·rw[bg h,bg (N.2 h)]
  ·rw[bh h,bh (by omega)]
theorem MD(f g:Rat):(f.num*g.den-g.num*f.den).sign=rs (f-g):=by
 rw[rs,Rat.sub_eq_add_neg,tR,tS (Int.mul_pos (by have:=f.den_pos;omega) (by rw[Rat.neg_den];have:=g.den_pos;omega)),Rat.neg_num,Rat.neg_den,Int.neg_mul,<-Int.sub_eq_add_neg]
def ratio(a b:Int):Rat:=if b=0 then Rat.divInt a 1 else Rat.divInt a b
theorem gY(a b:Int):rl (ratio a b)<=max (ln a.natAbs) (max 1 (ln b.natAbs)):=by
 unfold ratio;split
 ·have:=jq (a:=a) (b:=1) (by decide);have I:ln (1:Int).natAbs=1:=by decide
  rw[I]at this;omega
 ·rename_i h;have:=jq (a:=a) h;omega
end Go.Ex
namespace Go.Ex
open Go Go.Sx Go.Proofs
variable{b b2:Bool}{x y:Int}{xs:List Value}{n sz:Nat}{S S':Nat->Prop}{f g q:Rat}{dv nv u v:Value}{w V:World}
def iD(w:World)(S:Nat->Prop)(v:Value)(a b:Int):Prop:=∃b1 l1 b2 l2,v= .agg #[.bool b1,l1,.bool b2,l2]/\j5 w S (.agg #[.bool b1,l1]) a/\j5 w S (.agg #[.bool b2,l2]) b
theorem iD.cC{a b:Int}(h:iD w S v a b)(R:∀g,S g->V.heap[g]? =w.heap[g]?):iD V S v a b:=by
 obtain⟨b1,l1,b2,l2,I,X,N⟩:=h;exact⟨b1,l1,b2,l2,I,X.cC R,N.cC R⟩
theorem iD.cF{a b:Int}(h:iD w S v a b)(R:∀g,S g->S' g):iD w S' v a b:=by
 obtain⟨b1,l1,b2,l2,I,X,N⟩:=h;exact⟨b1,l1,b2,l2,I,X.cF R,N.cF R⟩
theorem iD.shape(h:iD w S v x y):∃b a n c b2 a2 n2 c2,v= .agg #[.bool b,.slice a n c,.bool b2,.slice a2 n2 c2]:=by
 obtain⟨b1,l1,b2,l2,I,X,N⟩:=h;obtain⟨_,a,n,c,h4⟩:=X.shape;obtain⟨_,a2,n2,c2,h5⟩:=N.shape;simp at h4 h5;obtain⟨rfl,rfl⟩:=h4;obtain⟨rfl,rfl⟩:=h5;exact⟨_,a,n,c,_,a2,n2,c2,I⟩
theorem iD.num(h:iD w S (.agg #[.bool b,nv,.bool b2,dv]) x y):j5 w S (.agg #[.bool b,nv]) x:=by
 obtain⟨b1,l1,b2,l2,I,X,N⟩:=h;simp at I;obtain⟨rfl,rfl,rfl,rfl⟩:=I;exact X
theorem iD.den(h:iD w S (.agg #[.bool b,nv,.bool b2,dv]) x y):j5 w S (.agg #[.bool b2,dv]) y:=by
 obtain⟨b1,l1,b2,l2,I,X,N⟩:=h;simp at I;obtain⟨rfl,rfl,rfl,rfl⟩:=I;exact N
section
variable{S S':Nat->Prop}{H:Hp}{nx:Nat}{iv E:Iv}{B:Nat}{w J V:World}{O:Nat->Sx.dL}{v:Value}{x y:Int}
theorem iD.rel(h:iD w (Cv S B iv) v x y)(r:Rel H nx iv B w O J)(F:∀g,S g->g<B):iD J (Cv S B iv) v x y:=h.cC fun _ G=>Rel.same r F G
theorem iD.cD(h:iD w (Cv S B iv) v x y)(r:Rel H nx iv B w O J)(F:∀g,S g->g<B)(W:Ext J V)(hm:∀p,p∈iv->p∈E):iD V (Cv S B E) v x y:=
 ((h.rel r F).cC fun g G=>W.block g (Rel.old r F g G)).cF fun _ G=>G.mono hm
end
def cN(w:World)(S:Nat->Prop)(v:Value)(q:Rat):Prop:=∃b1 l1 b2 l2,v= .agg #[.bool b1,l1,.bool b2,l2]/\cu w S (.agg #[.bool b1,l1]) q.num/\cu w S (.agg #[.bool b2,l2]) q.den
theorem cN.cC(h:cN w S v q)(R:∀g,S g->V.heap[g]? =w.heap[g]?):cN V S v q:=by
 obtain⟨b1,l1,b2,l2,I,X,N⟩:=h;exact⟨b1,l1,b2,l2,I,X.cC R,N.cC R⟩
theorem cN.cF(h:cN w S v q)(R:∀g,S g->S' g):cN w S' v q:=by
 obtain⟨b1,l1,b2,l2,I,X,N⟩:=h;exact⟨b1,l1,b2,l2,I,X.cF R,N.cF R⟩
theorem cN.r(h:cN w S v q):iD w S v q.num q.den:=by
 obtain⟨b1,l1,b2,l2,I,X,N⟩:=h;exact⟨b1,l1,b2,l2,I,X.r,N.r⟩
theorem cN.shape(h:cN w S v q):∃b a n c b2 a2 n2 c2,v= .agg #[.bool b,.slice a n c,.bool b2,.slice a2 n2 c2]:=h.r.shape
theorem cN.num(h:cN w S (.agg #[.bool b,nv,.bool b2,dv]) q):cu w S (.agg #[.bool b,nv]) q.num:=by
 obtain⟨b1,l1,b2,l2,I,X,N⟩:=h;simp at I;obtain⟨rfl,rfl,rfl,rfl⟩:=I;exact X
theorem cN.den(h:cN w S (.agg #[.bool b,nv,.bool b2,dv]) q):cu w S (.agg #[.bool b2,dv]) q.den:=by
 obtain⟨b1,l1,b2,l2,I,X,N⟩:=h;simp at I;obtain⟨rfl,rfl,rfl,rfl⟩:=I;exact N
theorem cN.of(h:cu w S (.agg #[.bool b,nv]) q.num)(k:cu w S (.agg #[.bool b2,dv]) q.den):cN w S (.agg #[.bool b,nv,.bool b2,dv]) q:=⟨_,_,_,_,rfl,h,k⟩
section
variable{S S':Nat->Prop}{H:Hp}{nx:Nat}{iv E:Iv}{B:Nat}{w J V:World}{O:Nat->Sx.dL}{v:Value}{q:Rat}
theorem cN.rel(h:cN w (Cv S B iv) v q)(r:Rel H nx iv B w O J)(F:∀g,S g->g<B):cN J (Cv S B iv) v q:=h.cC fun _ G=>Rel.same r F G
theorem cN.cD(h:cN w (Cv S B iv) v q)(r:Rel H nx iv B w O J)(F:∀g,S g->g<B)(W:Ext J V)(hm:∀p,p∈iv->p∈E):cN V (Cv S B E) v q:=
 ((h.rel r F).cC fun g G=>W.block g (Rel.old r F g G)).cF fun _ G=>G.mono hm
theorem cN.dD(h:cN V (Nf J V) v q)(hB:B<=J.heap.size)(hm:(J.heap.size,V.heap.size)∈iv):cN V (Cv S B iv) v q:=h.cF fun _ G=>G.dD hB hm
theorem cN.out{w0 w1:World}(h:cN w1 (Cv S w0.heap.size iv) v q)(r:Rel H nx iv w0.heap.size w1 O J)(F:Old S w0):cN J (Nw S w0 J) v q:=
 (h.rel r F).cF fun _ G=>Cv.nw G r
end
theorem qp(F:Old S w)(hf:cP w S v f):
  dx PG F'.kU #[v] w (eH w fun v' _w2=>v'= .int .i64 (rs f)):=by
 have Y:=bR w;replace hf:=hf.cF (S':=Cv S w.heap.size []) fun _ h=>.inl h;obtain⟨b1,a1,n1,c1,b2,a2,n2,c2,rfl⟩:=hf.shape;have UU:=hf.num;have QV:=hf.den;refine oH (by simp) ?_;refine cB (cE Y (fun _ J v V=>v= .int .i64 (rs f)) (fun O J r=>zx (UU.rel r F)) ?_);rintro O _ _ _ OZ r W Y h_ rfl;exact rtn Y fun GT we re=>rfl
theorem qE(F:Old S w)(hf:cP w S v f):
  dx PG F'.kJ #[v] w (eH w fun v' V=>cP V (Nw S w V) v' (-f)):=by
 have Y:=bR w;replace hf:=hf.cF (S':=Cv S w.heap.size []) fun _ h=>.inl h;obtain⟨b1,a1,n1,c1,b2,a2,n2,c2,rfl⟩:=hf.shape;have UU:=hf.num;have QV:=hf.den;refine nF (by simp) ?_;refine cI hτ dN [.x 0,.x 1,.x 3,.x 4,.x 2,.x 5,.x 6] (by kernel_rfl) (by kernel_rfl) ?_;refine cG (Id:=fun _ J v V=>eB V (Nw (Cv S w.heap.size []) J V) v (-f.num)) (fun O J r=>oT (Rel.old r F) (UU.rel r F)) ?_;rintro O PQ v1 PE r W hb Z;replace Y:=Y.tr hb;replace QV:=QV.cD (E:=(PQ.heap.size,PE.heap.size)::[]) r F W fun x L=>aC _ L;have hM:=Z.old r.bz;generalize (PQ.heap.size,PE.heap.size)::[]=OZ at*
 obtain⟨A0,A1,A2,A3,rfl⟩:=hM.shape;exact rtn Y fun GT we re=>cP.of (by rw[Rat.neg_num];exact hM.out re F) (by rw[Rat.neg_den];exact QV.out re F)
theorem qF(F:Old S w)(hf:cP w S v f)(G:cP w S u g)(VY:rl f<=10000000000)(hlg:rl g<=10000000000):
  dx PG F'.kI #[v,u] w (eH w fun v' V=>cP V (Nf w V) v' (f*g)):=by
 have Y:=bR w;have l1:=fu f;have l2:=fJ f;have l3:=fu g;have l4:=fJ g;have m0:=cX f.num g.num;have m1:=cX f.den g.den;replace hf:=hf.cF (S':=Cv S w.heap.size []) fun _ h=>.inl h;replace G:=G.cF (S':=Cv S w.heap.size []) fun _ h=>.inl h;obtain⟨b1,a1,n1,c1,b2,a2,n2,c2,rfl⟩:=hf.shape;obtain⟨b3,a3,n3,c3,b4,a4,n4,c4,rfl⟩:=G.shape;have UU:=hf.num;have QV:=hf.den;have S1:=G.num;have QD:=G.den;refine nE (by simp) ?_;refine cI hτ dN [.x 0,.x 1,.x 2,.x 3,.x 5,.x 6,.x 7,.x 8,.x 4,.x 9,.x 10,.x 11] (by kernel_rfl) (by kernel_rfl) ?_;refine cE Y (fun _ J v V=>eB V (Nf J V) v (f.num*g.num)) (fun O J r=>iE (Rel.old r F) (UU.rel r F) (S1.rel r F) (by omega) (by omega)) ?_;rintro O _ _ _ OZ r W Y h_ Z;replace QV:=QV.cD r F W (mC h_);replace QD:=QD.cD r F W (mC h_);have hA:=Z.dD (S:=FF) r.bz (mN h_);obtain⟨A0,A1,A2,A3,rfl⟩:=hA.shape;refine cE Y (fun _ J v V=>eB V (Nf J V) v ((f.den:Int)*(g.den:Int))) (fun O J r=>iE (Rel.old r F) (QV.rel r F) (QD.rel r F) (by omega) (by omega)) ?_;rintro O _ _ _ OU r W Y h_ Z;replace hA:=hA.cD r (bw w) W (mC h_);have hB:=Z.dD (S:=FF) r.bz (mN h_);obtain⟨C0,C1,C2,C3,rfl⟩:=hB.shape;refine cE Y (fun _ J v V=>cP V (Nf J V) v (f*g)) (fun O J r=>(xf f g)▸vY (Rel.old r (bw w)) (hA.rel r (bw w)) (hB.rel r (bw w)) (kP (gR f) (gR g)) (by omega) (by omega)) ?_;rintro O _ _ _ Oi r W Y h_ Z;have hC:=Z.dD (S:=FF) r.bz (mN h_);obtain⟨E0,E1,E2,E3,E4,E5,E6,E7,rfl⟩:=hC.shape;exact rtn Y fun GT we re=>hC.out re (bw w)
theorem H4(F:Old S w)(hf:cP w S v f)(G:cP w S u g)(VY:rl f<=10000000000)(hlg:rl g<=10000000000)(TB:g≠0):
  dx PG F'.mL #[v,u] w (eH w fun v' V=>cP V (Nf w V) v' (f / g)):=by
 have Y:=bR w;have l1:=fu f;have l2:=fJ f;have l3:=fu g;have l4:=fJ g;have m0:=cX f.num g.den;have m1:=cX f.den g.num;replace hf:=hf.cF (S':=Cv S w.heap.size []) fun _ h=>.inl h;replace G:=G.cF (S':=Cv S w.heap.size []) fun _ h=>.inl h;obtain⟨b1,a1,n1,c1,b2,a2,n2,c2,rfl⟩:=hf.shape;obtain⟨b3,a3,n3,c3,b4,a4,n4,c4,rfl⟩:=G.shape;have UU:=hf.num;have QV:=hf.den;have S1:=G.num;have QD:=G.den;refine qB (by simp) ?_;refine cI hτ dN [.x 0,.x 1,.x 2,.x 3,.x 5,.x 6,.x 7,.x 8,.x 4,.x 9,.x 10,.x 11] (by kernel_rfl) (by kernel_rfl) ?_;refine cE Y (fun _ J v V=>eB V (Nf J V) v (f.num*(g.den:Int))) (fun O J r=>iE (Rel.old r F) (UU.rel r F) (QD.rel r F) (by omega) (by omega)) ?_;rintro O _ _ _ OZ r W Y h_ Z;replace QV:=QV.cD r F W (mC h_);replace S1:=S1.cD r F W (mC h_);have hA:=Z.dD (S:=FF) r.bz (mN h_);obtain⟨A0,A1,A2,A3,rfl⟩:=hA.shape;refine cE Y (fun _ J v V=>eB V (Nf J V) v ((f.den:Int)*g.num)) (fun O J r=>iE (Rel.old r F) (QV.rel r F) (S1.rel r F) (by omega) (by omega)) ?_;rintro O _ _ _ OU r W Y h_ Z;replace hA:=hA.cD r (bw w) W (mC h_);have hB:=Z.dD (S:=FF) r.bz (mN h_);obtain⟨C0,C1,C2,C3,rfl⟩:=hB.shape;refine cE Y (fun _ J v V=>cP V (Nf J V) v (f / g)) (fun O J r=>(HM f g)▸vY (Rel.old r (bw w)) (hA.rel r (bw w)) (hB.rel r (bw w)) (kP (gR f) (fun e=>TB (Rat.num_eq_zero.1 e))) (by omega) (by omega)) ?_;rintro O _ _ _ Oi r W Y h_ Z;have hC:=Z.dD (S:=FF) r.bz (mN h_);obtain⟨E0,E1,E2,E3,E4,E5,E6,E7,rfl⟩:=hC.shape;exact rtn Y fun GT we re=>hC.out re (bw w)
theorem DD(F:Old S w)(hf:cP w S v f)(G:cP w S u g)(VY:rl f<=10000000000)(hlg:rl g<=10000000000):
  dx PG F'.kV #[v,u] w (eH w fun v' V=>cP V (Nf w V) v' (f+g)):=by
 have Y:=bR w;have l1:=fu f;have l2:=fJ f;have l3:=fu g;have l4:=fJ g;have m0:=cX f.num g.den;have m1:=cX g.num f.den;have m2:=cX f.den g.den;have m4:=ia (f.num*g.den) (g.num*f.den);replace hf:=hf.cF (S':=Cv S w.heap.size []) fun _ h=>.inl h;replace G:=G.cF (S':=Cv S w.heap.size []) fun _ h=>.inl h;obtain⟨b1,a1,n1,c1,b2,a2,n2,c2,rfl⟩:=hf.shape;obtain⟨b3,a3,n3,c3,b4,a4,n4,c4,rfl⟩:=G.shape;have UU:=hf.num;have QV:=hf.den;have S1:=G.num;have QD:=G.den;refine oI (by simp) ?_;refine cI hτ dN [.x 0,.x 1,.x 2,.x 3,.x 5,.x 6,.x 7,.x 8,.x 11,.x 12,.x 13,.x 14,.x 4,.x 9,.x 10,.x 15,.x 16,.x 17] (by kernel_rfl) (by kernel_rfl) ?_;refine cE Y (fun _ J v V=>eB V (Nf J V) v (f.num*(g.den:Int))) (fun O J r=>iE (Rel.old r F) (UU.rel r F) (QD.rel r F) (by omega) (by omega)) ?_;rintro O _ _ _ OZ r W Y h_ Z;replace QV:=QV.cD r F W (mC h_);replace S1:=S1.cD r F W (mC h_);replace QD:=QD.cD r F W (mC h_);have hA:=Z.dD (S:=FF) r.bz (mN h_);obtain⟨A0,A1,A2,A3,rfl⟩:=hA.shape;refine cE Y (fun _ J v V=>eB V (Nf J V) v (g.num*(f.den:Int))) (fun O J r=>iE (Rel.old r F) (S1.rel r F) (QV.rel r F) (by omega) (by omega)) ?_;rintro O _ _ _ OU r W Y h_ Z;replace QV:=QV.cD r F W (mC h_);replace QD:=QD.cD r F W (mC h_);replace hA:=hA.cD r (bw w) W (mC h_);have hB:=Z.dD (S:=FF) r.bz (mN h_);obtain⟨C0,C1,C2,C3,rfl⟩:=hB.shape;refine cE Y (fun _ J v V=>eB V (Nf J V) v (f.num*(g.den:Int)+g.num*(f.den:Int))) (fun O J r=>Be (Rel.old r (bw w)) (hA.rel r (bw w)) (hB.rel r (bw w)) (by omega) (by omega)) ?_;rintro O _ _ _ Oi r W Y h_ Z;replace QV:=QV.cD r F W (mC h_);replace QD:=QD.cD r F W (mC h_);have hD:=Z.dD (S:=FF) r.bz (mN h_);obtain⟨E0,E1,E2,E3,rfl⟩:=hD.shape;refine cE Y (fun _ J v V=>eB V (Nf J V) v ((f.den:Int)*(g.den:Int))) (fun O J r=>iE (Rel.old r F) (QV.rel r F) (QD.rel r F) (by omega) (by omega)) ?_;rintro O _ _ _ Ow r W Y h_ Z;replace hD:=hD.cD r (bw w) W (mC h_);have hE:=Z.dD (S:=FF) r.bz (mN h_);obtain⟨F0,F1,F2,F3,rfl⟩:=hE.shape;refine cE Y (fun _ J v V=>cP V (Nf J V) v (f+g)) (fun O J r=>(tR f g)▸vY (Rel.old r (bw w)) (hD.rel r (bw w)) (hE.rel r (bw w)) (kP (gR f) (gR g)) (by omega) (by omega)) ?_;rintro O _ _ _ QO r W Y h_ Z;have hC:=Z.dD (S:=FF) r.bz (mN h_);obtain⟨G0,G1,G2,G3,G4,G5,G6,G7,rfl⟩:=hC.shape;exact rtn Y fun GT we re=>hC.out re (bw w)
theorem qu(F:Old S w)(hf:cP w S v f)(VY:rl f<=100000000000):
  dx PG F'.kT #[v] w (eH w fun v' V=>cN V (Nf w V) v' f):=by
 have Y:=bR w;have l1:=fu f;have l2:=fJ f;replace hf:=hf.cF (S':=Cv S w.heap.size []) fun _ h=>.inl h;obtain⟨b1,a1,n1,c1,b2,a2,n2,c2,rfl⟩:=hf.shape;have UU:=hf.num;have QV:=hf.den;refine oG (by simp) ?_;refine cI hτ dN [.x 0,.x 1,.x 3,.x 4,.x 2,.x 5,.x 6,.x 7] (by kernel_rfl) (by kernel_rfl) ?_;refine cE Y (fun _ J v V=>cu V (Nf J V) v f.num) (fun O J r=>Kv (Rel.old r F) (UU.rel r F) (by omega)) ?_;rintro O _ _ _ OZ r W Y h_ Z;replace QV:=QV.cD r F W (mC h_);have hA:=Z.dD (S:=FF) r.bz (mN h_);obtain⟨A0,A1,A2,A3,rfl⟩:=hA.shape;refine cE Y (fun _ J v V=>cu V (Nf J V) v (f.den:Int)) (fun O J r=>Kv (Rel.old r F) (QV.rel r F) (by omega)) ?_;rintro O _ _ _ OU r W Y h_ Z;replace hA:=hA.cD r (bw w) W (mC h_);have hB:=Z.dD (S:=FF) r.bz (mN h_);obtain⟨C0,C1,C2,C3,rfl⟩:=hB.shape;exact rtn Y fun GT we re=>cN.of (hA.out re (bw w)) (hB.out re (bw w))
theorem xo(n:Int)(w:World)(I: -9223372036854775808<=n)(X:n<=9223372036854775807):
  dx PG F'.wS #[.int .i64 n] w (eH w fun v' V=>cP V (Nf w V) v' (n:Rat)):=by
 have Y:=bR w;refine z5 (by simp) ?_;refine cB (cE Y (fun _ J v V=>eB V (Nf J V) v n) (fun O J r=>oV n J I X) ?_);rintro O _ _ _ OZ r W Y h_ Z;have hA:=Z.dD (S:=FF) r.bz (mN h_);obtain⟨A0,A1,A2,A3,rfl⟩:=hA.shape;refine cB (cE Y (fun _ J v V=>eB V (Nf J V) v 1) (fun O J r=>oV 1 J (by decide) (by decide)) ?_);rintro O _ _ _ OU r W Y h_ Z;replace hA:=hA.cD r (bw w) W (mC h_);have hB:=Z.dD (S:=FF) r.bz (mN h_);obtain⟨C0,C1,C2,C3,rfl⟩:=hB.shape;exact rtn Y fun GT we re=>cP.of (by rw[Rat.num_intCast];exact hA.out re (bw w)) (by rw[Rat.den_intCast];exact hB.out re (bw w))
theorem je(F:Old S w)(L:iD w S v x y)(Pt:ln x.natAbs<=100000000000)(Q3:ln y.natAbs<=100000000000):
  dx PG F'.wO #[v] w (eH w fun v' V=>cP V (Nf w V) v' (ratio x y)):=by
 have Y:=bR w;replace L:=L.cF (S':=Cv S w.heap.size []) fun _ h=>.inl h;obtain⟨b1,a1,n1,c1,b2,a2,n2,c2,rfl⟩:=L.shape;have Z:=L.num;have hd:=L.den;have RS:=Z;have Uf:=hd;refine zY (by simp) ?_;refine cB (cG (Id:=fun _ J v V=>eB V (Nw (Cv S w.heap.size []) J V) v y) (fun O J r=>Ky (Rel.old r F) (Uf.rel r F)) ?_);rintro O PQ v1 PE r W hb Z;replace Y:=Y.tr hb;replace RS:=RS.cD (E:=(PQ.heap.size,PE.heap.size)::[]) r F W fun x L=>aC _ L;have hD:=Z.old r.bz;generalize (PQ.heap.size,PE.heap.size)::[]=OZ at*
 obtain⟨A0,A1,A2,A3,rfl⟩:=hD.shape;refine cB (cE Y (fun _ J v V=>v= .int .i64 y.sign) (fun O J r=>zx (hD.rel r F)) ?_);rintro O _ _ _ OU r W Y h_ rfl;replace RS:=RS.cD r F W (mC h_);replace hD:=hD.cD r F W (mC h_);refine dB.mk ?_ ?_<;>intro h
 ·have h:y=0:=bu.1 (eq_of_beq h);have e0:ratio x y=Rat.divInt x 1:=if_pos h;refine cB (cE Y (fun _ J v V=>eB V (Nf J V) v 1) (fun O J r=>oV 1 J (by decide) (by decide)) ?_);rintro O PY v3 PX Oi r W Y h_ Z;replace RS:=RS.cD r F W (mC h_);have hO:=Z.dD (S:=FF) r.bz (mN h_);obtain⟨C0,C1,C2,C3,rfl⟩:=hO.shape;have l1:ln (1:Int).natAbs=1:=by decide
  refine cI hτ dN [.x 0,.x 1,.x 3,.x 2,.x 4,.x 5] (by kernel_rfl) (by kernel_rfl) ?_;refine cG (Id:=fun _ J v V=>eB V (Nw (Cv S w.heap.size Oi) J V) v x) (fun O J r=>Ky (Rel.old r F) (RS.rel r F)) ?_;rintro O Qw v4 Q9 r W hb Z;replace Y:=Y.tr hb;replace hO:=hO.cD (E:=(Qw.heap.size,Q9.heap.size)::Oi) r (bw w) W fun x L=>aC _ L;have hN:=Z.old r.bz;generalize (Qw.heap.size,Q9.heap.size)::Oi=Ow at*
  obtain⟨E0,E1,E2,E3,rfl⟩:=hN.shape;refine cE Y (fun _ J v V=>cP V (Nf J V) v (ratio x y)) (fun O J r=>e0.symm▸vY (Rel.old r F) (hN.rel r F) ((hO.rel r (bw w)).cF fun g G=>G.elim (fun k=>k.elim) .inr) (by decide) (by omega) (by omega)) ?_;rintro O _ _ _ QO r W Y h_ Z;have hC:=Z.dD (S:=FF) r.bz (mN h_);obtain⟨F0,F1,F2,F3,F4,F5,F6,F7,rfl⟩:=hC.shape;exact rtn Y fun GT we re=>hC.out re (bw w)
 ·have h:y≠0:=fun e=>by rw[e]at h;exact absurd h (by decide)
  have e0:ratio x y=Rat.divInt x y:=aI h;refine cI hτ dN [.x 0,.x 1,.x 3,.x 2,.x 4,.x 5] (by kernel_rfl) (by kernel_rfl) ?_;refine cG (Id:=fun _ J v V=>eB V (Nw (Cv S w.heap.size OU) J V) v x) (fun O J r=>Ky (Rel.old r F) (RS.rel r F)) ?_;rintro O PY v3 PX r W hb Z;replace Y:=Y.tr hb;replace hD:=hD.cD (E:=(PY.heap.size,PX.heap.size)::OU) r F W fun x L=>aC _ L;have hN:=Z.old r.bz;generalize (PY.heap.size,PX.heap.size)::OU=Oi at*
  obtain⟨C0,C1,C2,C3,rfl⟩:=hN.shape;refine cE Y (fun _ J v V=>cP V (Nf J V) v (ratio x y)) (fun O J r=>e0.symm▸vY (Rel.old r F) (hN.rel r F) (hD.rel r F) h (by omega) (by omega)) ?_;rintro O _ _ _ Ow r W Y h_ Z;have hC:=Z.dD (S:=FF) r.bz (mN h_);obtain⟨E0,E1,E2,E3,E4,E5,E6,E7,rfl⟩:=hC.shape;exact rtn Y fun GT we re=>hC.out re (bw w)
def r9(v:Value):Iv:=match v.ownBlock with
 |some g=>[(g,g+1)]
 |none=>[]
theorem Bn{lo D:Nat}:(lo,D)∈r9 v↔v.ownBlock=some lo/\D=lo+1:=by
 unfold r9
 cases h:v.ownBlock with
 |none=>simp
 |some g=>simp;omega
def Ge(iv:Iv)(v:Value):Prop:=∀b,v.ownBlock=some b->∃lo D,(lo,D)∈iv/\lo<=b/\b<D
section
variable{S:Nat->Prop}{H:Hp}{nx:Nat}{iv E:Iv}{B e sz m:Nat}{w J V:World}{O:Nat->Sx.dL}{v v':Value}{xs:List Value}
theorem Ge.not(h:Ge iv v)(r:Rel H nx iv B w O J){b:Nat}(hb:v.ownBlock=some b):∀id c,cV H id=some c->(O id).nil=false->(O id).g≠b:=fun id c hc Z W=>by
 obtain⟨lo,D,I,X,N⟩:=h b hb;exact r.ji lo D I id c hc Z (by omega)
theorem jN(h:w.ownsRow B e sz v m xs)(hc:Ge iv v)(r:Rel H nx iv B w O J):J.ownsRow B e sz v m xs:=
 ownsRow.cC h fun b hb=>r.ub b (ownsRow.low h b hb).2 fun id c hc' Z W=>hc.not r hb id c hc' Z W
theorem Ge.row(v:Value):Ge (r9 v) v:=fun b hb=>⟨b,b+1,Bn.2 ⟨hb,rfl⟩,by omega,by omega⟩
theorem Ge.mono(h:Ge iv v)(k:∀p,p∈iv->p∈E):Ge E v:=fun b hb=>by
 obtain⟨lo,D,I,X⟩:=h b hb;exact⟨lo,D,k _ I,X⟩
theorem ig(h:w.ownsRow B e sz v m xs):∃a c,v= .slice a m c/\m<=c:=by
 rcases h.2 with⟨rfl,rfl⟩|⟨g,cap,cur,rfl,_,_,I,_⟩
 ·exact⟨none,0,rfl,Nat.le_refl _⟩
 ·exact⟨_,cap,rfl,I⟩
end
structure iu(w:World)(S:Nat->Prop)(sz:Nat)(v:Value)(xs:List Value)(n:Nat):Prop where
 le:n<=maxLen
 len:xs.length=n*sz
 one:∀u∈xs,u.oneCell'=true
 sl:∃a c,v= .slice a n c/\n<=c/\∀(j:Nat) u,xs[j]? =some u->∃ad,a=some ad/\S ad.block/\w.cell? (ad.add j)=some u
theorem iu.cC(h:iu w S sz v xs n)(R:∀g,S g->V.heap[g]? =w.heap[g]?):iu V S sz v xs n:=by
 obtain⟨h0,I,X,a,c,N,h4,h5⟩:=h;refine⟨h0,I,X,a,c,N,h4,fun j u hu=>?_⟩;obtain⟨ad,k1,k2,k3⟩:=h5 j u hu;exact⟨ad,k1,k2,by rw[cJ (R _ (by rw[c9];exact k2))];exact k3⟩
theorem iu.cF(h:iu w S sz v xs n)(R:∀g,S g->S' g):iu w S' sz v xs n:=by
 obtain⟨h0,I,X,a,c,N,h4,h5⟩:=h;refine⟨h0,I,X,a,c,N,h4,fun j u hu=>?_⟩;obtain⟨ad,k1,k2,k3⟩:=h5 j u hu;exact⟨ad,k1,R _ k2,k3⟩
section
variable{S S':Nat->Prop}{H:Hp}{nx:Nat}{iv E:Iv}{B:Nat}{w J V:World}{O:Nat->Sx.dL}{v:Value}{sz n:Nat}{xs:List Value}
end
end Go.Ex
