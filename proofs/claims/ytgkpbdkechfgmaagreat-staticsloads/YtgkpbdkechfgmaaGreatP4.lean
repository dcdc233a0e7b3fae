/- Texts X11 to X29: lemmas, each with its conditions. -/
import Derived.Test.YtgkpbdkechfgmaaGreatP3
namespace Go.Sx
open Go Go.Ex Go.Proofs
section
variable{O:Nat->Sx.da}
theorem Rel.cR{H:Hp}{nx:Nat}{iv:Iv}{B:Nat}{w J:World}(r:Rel H nx iv B w O J):B<=J.heap.size:=by have:=r.base;have:=r.size;omega
end
variable{ls:List Nat}{O:Nat->Sx.da}
theorem Rel.td{H:Hp}{nx:Nat}{iv:Iv}{B:Nat}{w J:World}(r:Rel H nx iv B w O J){id t:Nat}(h:cw H id=some (.box t ((E8 ls).map At.v)))(Ou:Lm ls)(hle:ls.length<=9223372036854775807):
  dF J (fun g=>g=(O id).g) (.slice (some ⟨(O id).g,0,none⟩) ls.length ls.length) ls:=by
 refine⟨Ou,hle,_,_,rfl,lr,fun j x G=>⟨_,rfl,rfl,?_⟩⟩;have h0:(⟨(O id).g,0,none⟩:Addr).add j=⟨(O id).g,j,none⟩:=by
  cases j with
  |zero=>rfl
  |succ j=>simp[Addr.add]
 rw[h0,cell_of (r.box id t _ h),fR];exact ta G
end Go.Sx
namespace Go.Ex
open Go Go.Sx Go.Proofs
variable{ds r2:List Nat}{g k:Nat}
section
variable{S:Nat->Prop}{H:Hp}{nx:Nat}{iv K:Iv}{B:Nat}{w J I:World}{O:Nat->Sx.da}{v:Value}{n:Nat}{ls:List Nat}
theorem Nw.iR(h:Nf J I g)(hB:B<=J.heap.size)(hm:(J.heap.size,I.heap.size)∈iv):Cv S B iv g:=by
 rcases h with h|h
 .cases h
 .exact .inr ⟨be,_,_,hm,h.1,h.2⟩
theorem nw{H:Hp}{nx B:Nat}{iv K:Iv}{w J I:World}{O:Nat->Sx.da}(r:Rel H nx iv B w O J)(e:K=(J.heap.size,I.heap.size)::iv):∀g,Nf J I g->Cv (fun _=>False) B K g:=fun _ F=>F.iR r.cR (mN e)
theorem dc.iR(h:dc I (Nf J I) v n)(hB:B<=J.heap.size)(hm:(J.heap.size,I.heap.size)∈iv):dc I (Cv S B iv) v n:=h.cF fun _ F=>F.iR hB hm
theorem dF.iR(h:dF I (Nf J I) v ls)(hB:B<=J.heap.size)(hm:(J.heap.size,I.heap.size)∈iv):dF I (Cv S B iv) v ls:=h.cF fun _ F=>F.iR hB hm
theorem dc.rel(h:dc w (Cv S B iv) v n)(r:Rel H nx iv B w O J)(U:∀g,S g->g<B):dc J (Cv S B iv) v n:=h.cK fun _ F=>rls r U F
theorem dc.cH(h:dc w (Cv S B iv) v n)(r:Rel H nx iv B w O J)(U:∀g,S g->g<B)(R:Ext J I)(hm:∀p,p∈iv->p∈K):dc I (Cv S B K) v n:=
 ((h.rel r U).cK fun g F=>R.block g (rlo r U g F)).cF fun _ F=>F.mono hm
theorem dF.trimmed(h:dF w S v (db ls)):dc w S v (val ls):=⟨_,h,(ec ls).2.1,(ec ls).1⟩
end
theorem Gg{w:World}{m c:Nat}{rs:List Nat}(F:w.heap[g]? =some (.cells (E8 rs).toArray T.uint32 (0,0)))(Ou:Lm rs)(h:k+m<=rs.length)(hc:m<=c)(hl:rs.length<=1000000000000):
  dF w (fun x=>x=g) (.slice (some ⟨g,k,none⟩) m c) ((rs.drop k).take m):=by
 have hlen:((rs.drop k).take m).length=m:=by simp;omega
 refine⟨(Ou.drop k).take m,be,some ⟨g,k,none⟩,c,by rw[hlen],be,fun j x G=>⟨_,rfl,rfl,?_⟩⟩;have hj:j<m:=by have:=(aD.1 G).1;omega
 rw[bT hj,List.getElem?_drop]at G;rw[dS,cell_of F];exact ta G
theorem CD{c:Nat}(h:k<c):(if (c:Int)=(k:Int)then some (⟨g,0,none⟩:Addr)else(some (⟨g,0,none⟩:Addr)).map fun x=>x.add ((k:Int).toNat*1))=some ⟨g,k,none⟩:=by
 rw[aF be,Option.map_some,aJ,aw,dS,aX]
theorem gN{a b c:World}{row:Option Nat}(h:a.grownBy b row)(k:b.grownBy c row):a.grownBy c row:=
 ⟨k.os.trans h.os,k.tape.trans h.tape,k.output.trans h.output,bB h.size k.size,fun j hj OB=>(k.block j (by have:=h.size;omega) OB).trans (h.block j hj OB)⟩
theorem wF{a b:World}{row:Option Nat}(h:jv a.heap.size a b):a.grownBy b row:=⟨h.os,h.tape,h.output,h.size,fun j hj _=>h.block j hj⟩
theorem Kt(rs:List Nat)(k m:Nat):(E8 rs).take k++List.replicate m (Value.int .u32 0)++(E8 rs).drop (k+m)=E8 (rs.take k++List.replicate m 0++rs.drop (k+m)):=by
 simp[E8]
theorem MS(rs ds:List Nat)(k:Nat):(E8 rs).take k++E8 ds++(E8 rs).drop (k+(E8 ds).length)=E8 (rs.take k++ds++rs.drop (k+ds.length)):=by
 simp[E8]
theorem Hc{rs:List Nat}{m:Nat}(E:k+m<=rs.length)(hd:ds.length<=m){r1:List Nat}(Y:r1=rs.take k++List.replicate m 0++rs.drop (k+m))(X:r2=r1.take k++ds++r1.drop (k+ds.length)):
  r2=rs.take k++(ds++List.replicate (m-ds.length) 0)++rs.drop (k+m):=by
 have hkl:(rs.take k).length=k:=by simp;omega
 have N:r1.take k=rs.take k:=by rw[Y,bI,List.take_append_of_le_length be,bF be]
 have h4:r1.drop (k+ds.length)=List.replicate (m-ds.length) 0++rs.drop (k+m):=by
  rw[Y,bI,List.drop_append,hkl,List.drop_of_length_le be,List.nil_append,Nat.add_sub_cancel_left,List.drop_append_of_le_length (by simpa using hd),List.drop_replicate]
 rw[X,N,h4];simp
theorem Hd{rs:List Nat}{m:Nat}(E:k+m<=rs.length)(hd:ds.length<=m)(Ou:Lm rs)(RE:Lm ds)(h:r2=rs.take k++(ds++List.replicate (m-ds.length) 0)++rs.drop (k+m)):
  r2.length=rs.length/\Lm r2/\r2.take k=rs.take k/\r2.drop (k+m)=rs.drop (k+m)/\val ((r2.drop k).take m)=val ds:=by
 have hkl:(rs.take k).length=k:=by simp;omega
 have Rz:(ds++List.replicate (m-ds.length) 0).length=m:=by simp;omega
 have Rg:r2.drop k=(ds++List.replicate (m-ds.length) 0)++rs.drop (k+m):=by
  rw[h,bI,List.drop_append,hkl,List.drop_of_length_le be,List.nil_append,bP,List.drop_zero]
 refine⟨by rw[h,aL,aL,hkl,Rz];simp;omega,?_,?_,?_,?_⟩
 .rw[h];exact((Ou.take k).append (RE.append (Lm.replicate _))).append (Ou.drop _)
 .rw[h,bI,List.take_append_of_le_length be,bF be]
 .rw[<-List.drop_drop,Rg,List.drop_append,Rz,List.drop_of_length_le be,List.nil_append,bP,List.drop_zero]
 .rw[Rg,List.take_append_of_le_length be,bF be,k8,mI];simp
theorem CE{S:Nat->Prop}{w:World}{vd:Value}{FS g k q:Nat}{rs:List Nat}(U:Old S w)(hgS:¬S g)(hd:dc w S vd FS)(F:w.heap[g]? =some (.cells (E8 rs).toArray T.uint32 (0,0)))(Ou:Lm rs)
  (E:k+ln FS+1<=rs.length) (hl:rs.length<=1000000000000) (hq:q<4294967296):
  eC PG Fn.pO #[.slice (some ⟨g,0,none⟩) rs.length rs.length,vd,.int .i64 k,.int .u64 q] w (fun e I=>
   (val ((rs.drop k).take (ln FS+1))<q*FS/\e= .returned (.bool false)/\Bq w I)\/
   (q*FS<=val ((rs.drop k).take (ln FS+1))/\e= .returned (.bool true)/\w.grownBy I (some g)/\∃rs',rs'.length=rs.length/\Lm rs'/\rs'.take k=rs.take k/\rs'.drop (k+ln FS+1)=rs.drop (k+ln FS+1)/\
    val ((rs'.drop k).take (ln FS+1))=val ((rs.drop k).take (ln FS+1))-q*FS/\I.heap[g]? =some (.cells (E8 rs').toArray T.uint32 (0,0)))):=by
 have hgB:=jb F;have hnD:=hd;obtain⟨p,rfl,QC,Pk⟩:=hd.la;have Pc:=eE p.lm Pk;rw[QC]at Pc;generalize Z:ln FS=n at*
 have hSB:=U;refine tZ bv ?_;refine⟨(q:Int),by rw[ei,bM hq],?_⟩;refine gI (If:=fun O _ v I=>dF I (fun g=>g=(O 0).g) v (db [q])) (H':=[]) 0 rfl bv trivial rfl (fun O J r=>r.nn 0 _ rfl (by intros;simp) bv) (fun O J r=>?_) ?_
 .have hL:=r.td (id:=0) (ls:=[q]) rfl (by intro x G;simp at G;omega) bv;exact fG (fun g F=>by rw[F];exact(r.low 0 _ rfl (r.nn 0 _ rfl (by intros;simp) bv)).2) hL
 rintro O w1 v1 I r R V hL;have Ov:=r.low 0 _ rfl (r.nn 0 _ rfl (by intros;simp) bv);have hs:=R.size;generalize (O 0).g=g0 at*
 have TH:dc I (Cv S w.heap.size [(g0,g0+1),(w1.heap.size,I.heap.size)]) v1 q:=by
  have:=hL.trimmed;simp only[val,Nat.mul_zero,cC]at this;exact this.cF fun k E=>.inr ⟨be,g0,g0+1,bv,be,be⟩
 have TY:dc I (Cv S w.heap.size [(g0,g0+1),(w1.heap.size,I.heap.size)]) (.slice p.a p.ls.length p.c) FS:=
  (hnD.cK fun g F=>V.block g (U g F)).cF fun _ F=>.inl F
 generalize [(g0,g0+1),(w1.heap.size,I.heap.size)]=iv at*
 refine cD (cE V (pR dc (q*FS)) (fun O J r=>Gi (rlo r U) (TH.rel r U) (TY.rel r U) (bB (gC.2 (show q<wt 1 from hq)) bi) be) ?_);rintro O w3 _ _ iv r R V h_ hm;have Ss:=hm.iR (S:=S) r.cR (mN h_);refine⟨((k+n:Nat):Int),wo,((k+n+1:Nat):Int),wo,⟨be,be,be⟩,some ⟨g,k,none⟩,n+1,rs.length-k,CD be,be,be,?_⟩;have hplen:((rs.drop k).take (n+1)).length=n+1:=by simp;omega
 have hplm:Lm ((rs.drop k).take (n+1)):=(Ou.drop k).take _;generalize hpart:(rs.drop k).take (n+1)=part at*
 refine cD (cE V (pR dF part) (fun O J r=>?_) ?_)
 .have Y:=Gg (k:=k) (m:=n+1) (c:=rs.length-k) (w:=J) (by rw[(V.tr r.cN).block g hgB];exact F) Ou be be hl;rw[hpart]at Y;exact Gf (fun x G=>by rw[G];have:=(V.tr r.cN).size;omega) Y be
 rintro O _ _ _ iv r R V h_ hL;have hpL:=hL.iR (S:=S) r.cR (mN h_);replace Ss:=Ss.cH r U R (mC h_);refine cD (cM (If:=fun _ J v I=>dF I (Cv S w.heap.size iv) v (db part)) (fun O J r=>fG (rlo r U) (dF.rel hpL r U)) ?_);rintro O w7 v4 w8 r R hb hL;replace V:=V.tr hb;have hpN:=hL.trimmed.cF (S':=Cv S w.heap.size ((w7.heap.size,w8.heap.size)::iv)) fun _ F=>F.cons;replace Ss:=Ss.cH (K:=(w7.heap.size,w8.heap.size)::iv) r U R fun x G=>aA _ G;generalize (w7.heap.size,w8.heap.size)::iv=iv at*
 refine cD (cE V (fun _ _ v _=>v=iV (ry (val part) (q*FS))) (fun O J r=>JQ (rlo r U) (hpN.rel r U) (Ss.rel r U)) ?_);rintro O _ _ _ iv r R V h_ rfl;replace hpN:=hpN.cH r U R (mC h_);replace Ss:=Ss.cH r U R (mC h_);apply bS<;>intro h
 .have h:val part<q*FS:=by
   have:=aE h;unfold ry at this;split at this
   .assumption
   .split at this<;>omega
  intro IR w3 A;exact .inl ⟨h,rfl,V.tr A.cN⟩
 have h:q*FS<=val part:=by
  have:=aC h;unfold ry at this;split at this
  .omega
  .omega
 have hPl:ln (val part)<=n+1:=by rw[gC,<-hplen];exact nG hplm
 refine cD (cE V (pR dc (val part-q*FS)) (fun O J r=>CF (rlo r U) (hpN.rel r U) (Ss.rel r U) h be) ?_);rintro O _ v6 _ iv r R V h_ hm;have UX:=hm.iR (S:=S) r.cR (mN h_);refine⟨((k+n:Nat):Int),wo,((k+n+1:Nat):Int),wo,⟨be,be,be⟩,some ⟨g,k,none⟩,n+1,rs.length-k,CD be,be,be,?_⟩;refine HF hτ (L:=E8 rs) cs cs cs be (fun O J r=>⟨by rw[(V.tr r.cN).block g hgB];exact F,fun id b hb=>by cases hb⟩) (by rw[fy];omega) (fun O w13 w14 r hh PK Oj=>?_);rw[Kt]at hh;have hgw:w.grownBy w14 (some g):=gN (wF (V.tr r.cN)) PK;replace UX:dc w14 (Cv S w.heap.size iv) v6 (val part-q*FS):=(UX.rel r U).cK fun x G=>PK.block x (rlo r U x G) fun e=>by
  injection e with e;subst e;rcases G with G|G
  .exact hgS G
  .omega
 obtain⟨rl,rfl,SA,R1⟩:=UX.la;have QY:=eE rl.lm R1;rw[SA]at QY;have hrn:rl.ls.length<=n+1:=by rw[QY];exact bB (fA (Nat.sub_le _ _)) hPl
 generalize hr1d:rs.take k++List.replicate (n+1) 0++rs.drop (k+(n+1))=r1 at*
 refine⟨⟨be,be,be⟩,some ⟨g,k,none⟩,rs.length-k,rs.length-k,CD be,be,be,?_⟩;have hr1l:r1.length=rs.length:=by rw[<-hr1d];simp;omega
 have hw14:w.heap.size<=w14.heap.size:=hgw.size;refine IM hτ (tg:=T.uint32) (L:=E8 r1) (ds:=E8 rl.ls) cs cs cs cs (fun O J r=>⟨?_,fun id b hb=>by cases hb⟩) (fun O J r=>⟨rl.a,rl.c,by rw[fy];rfl,fun j u hu=>?_⟩) (by rw[fy];omega) (by rw[fy,fy];omega)
  (fun u hu=>by simp only[E8,aV]at hu;obtain⟨n,_,rfl⟩:=hu;rfl) (fun O w15 w16 r hh2 PK Oj=>?_)
 .rw[r.p9.block g be bv];exact hh
 .simp only[E8,aO,Option.map_eq_some_iff]at hu;obtain⟨m,hm,rfl⟩:=hu;obtain⟨ad,Y,X,N⟩:=rl.cell j m hm;exact⟨ad,Y,(cO (w:=w14) (a:=ad.add j) (by rw[eV];exact rls r U X)).trans N⟩
 rw[MS]at hh2;have hgw2:w.grownBy w16 (some g):=gN (gN hgw (by have:=r.p9;exact⟨this.os,this.tape,this.output,this.size,fun j hj _=>this.block j hj bv⟩)) PK;obtain⟨o1,o2,o3,o4,o5⟩:=Hd (rs:=rs) (ds:=rl.ls) (k:=k) (m:=n+1) be hrn Ou rl.lm (Hc be hrn hr1d.symm rfl);generalize r1.take k++rl.ls++r1.drop (k+rl.ls.length)=r2 at*
 intro IR w17 A;refine .inr ⟨h,rfl,gN hgw2 (by have:=A.p9;exact⟨this.os,this.tape,this.output,this.size,fun j hj _=>this.block j hj bv⟩),r2,o1,o2,o3,o4,by rw[o5,SA],?_⟩;rw[A.p9.block g (by have:=hgw2.size;omega) bv];exact hh2
end Go.Ex
namespace Go.Sx
open Go Go.Ex Go.Proofs
variable{O:Nat->Sx.da}
theorem Rel.Le{nx:Nat}{iv:Iv}{B:Nat}{w J I:World}(r:Rel [] nx iv B w O J)(h:J.heap.size<=I.heap.size):Rel [] nx [] B I O I:=
 r.Cz h (fun id b h=>by cases h) fun lo D h=>by cases h
end Go.Sx
namespace Go.Ex
open Go Go.Sx Go.Proofs
variable{O:Nat->Sx.da}
theorem JR{P FS low high dlow dtop F9:Nat}(hP:P=low+F9*high)(hD:FS=dlow+F9*dtop)(Ov:low<F9)(SO:0<dtop)(hPD:P<4294967296*FS):P / FS<=min (high / dtop) 4294967295:=by
 have hW:0<F9:=by omega
 have hD0:0<FS:=by have:=Nat.mul_pos hW SO;omega
 have Y:P / FS<4294967296:=(Nat.div_lt_iff_lt_mul hD0).2 (by rw[bU]at hPD;omega);have X:P / FS<=high / dtop:=by
  rw[Nat.le_div_iff_mul_le SO];have N:=Nat.div_mul_le_self P FS;generalize P / FS=Q at*
  have h4:F9*(Q*dtop)<=Q*FS:=by
   rw[hD,Nat.mul_left_comm,bW];omega
  have h5:F9*(Q*dtop)<F9*(high+1):=by
   rw[bW];omega
  have:=Nat.lt_of_mul_lt_mul_left h5;omega
 omega
theorem Gj{H:Hp}{nx:Nat}{iv:Iv}{w w1 J:World}{g i x:Nat}{rs:List Nat}(F:w.heap[g]? =some (.cells (E8 rs).toArray T.uint32 (0,0)))(V:Bq w w1)(r:Rel H nx iv w.heap.size w1 O J)(G:rs[i]? =some x):
  J.cell? ((⟨g,0,none⟩:Addr).add ((i:Int).toNat*1))=some (.int .u32 x):=by
 rw[aJ,aw,dS,aX,cell_of (by rw[(V.tr r.cN).block g (jb F)];exact F)];exact ta G
theorem Ku{S:Nat->Prop}{w:World}{vd:Value}{FS g k:Nat}{rs:List Nat}(U:Old S w)(hgS:¬S g)(hd:dc w S vd FS)(hD:0<FS)(F:w.heap[g]? =some (.cells (E8 rs).toArray T.uint32 (0,0)))(Ou:Lm rs)
  (E:k+ln FS+1<=rs.length) (hl:rs.length<=1000000000000) (hPD:val ((rs.drop k).take (ln FS+1))<4294967296*FS):
  eC PG Fn.oR #[.slice (some ⟨g,0,none⟩) rs.length rs.length,vd,.int .i64 k] w (fun e I=>
   e= .returned (.int .u32 ((val ((rs.drop k).take (ln FS+1)) / FS:Nat):Int))/\w.grownBy I (some g)/\∃rs',rs'.length=rs.length/\Lm rs'/\rs'.take k=rs.take k/\rs'.drop (k+ln FS+1)=rs.drop (k+ln FS+1)/\
    val ((rs'.drop k).take (ln FS+1))=val ((rs.drop k).take (ln FS+1)) % FS/\I.heap[g]? =some (.cells (E8 rs').toArray T.uint32 (0,0))):=by
 have hgB:=jb F;have hnD:=hd;obtain⟨p,rfl,QC,Pk⟩:=hd.la;have Pc:=eE p.lm Pk;rw[QC]at Pc;have RQ:=fun(J:World) (q:Nat)=>@CE S J (.slice p.a p.ls.length p.c) FS g k q rs;generalize Z:ln FS=n at*
 obtain⟨t,rfl⟩:∃t,n=t+1:=by
  cases n with
  |zero=>
   have:FS<wt 0:=gC.1 be;rw[jC]at this;omega
  |succ t=>exact⟨t,rfl⟩
 obtain⟨dt,SO⟩:=gO p.ls t;have hdt0:0<dt:=by
  have:=Pk dt (by rw[List.getLast?_eq_getElem?,Pc];exact SO);omega
 obtain⟨a,ha⟩:=gO rs (k+t+1);obtain⟨b,hb⟩:=gO rs (k+t);have ha32:=Ou.at ha;have TW:=Ou.at hb;have VC:=p.lm.at SO;generalize hP:val ((rs.drop k).take (t+1+1))=P at*
 have hguess:P / FS<=min ((a*4294967296+b) / dt) 4294967295:=by
  refine JR (low:=val ((rs.drop k).take t)) (F9:=wt t) (dlow:=val (p.ls.take t)) ?_ ?_ ?_ hdt0 hPD
  .rw[<-hP,dU (x:=a) (by rw[List.getElem?_drop];exact ha),dU (x:=b) (by rw[List.getElem?_drop];exact hb),iW,bW,bU 4294967296 (wt t),bl,bU a];omega
  .rw[<-QC,<-dU SO,bF be]
  .have Y:=nG ((Ou.drop k).take t);have:((rs.drop k).take t).length=t:=by simp;omega
   rwa [this]at Y
 refine rn bv ?_;refine⟨(t:Int),wo,?_⟩;refine dP (idO 18) ?_;refine⟨((k+t:Nat):Int),wo,((k+t+1:Nat):Int),wo,_,rfl,be,.int .u32 a,fun O J r=>Gj F jv.refl r ha,(a:Int),eQ be,bi,((a*2^32:Nat):Int),CG (k:=32) bi be,((k+t:Nat):Int),wo,_,rfl,be,.int .u32 b,fun O J r=>Gj F jv.refl r hb,(b:Int),eQ be,?_⟩;have TG:a*2^32 ||| b=a*4294967296+b:=by
  rw[Nat.or_comm,bU,CH (k:=32) TW];omega
 refine⟨((a*4294967296+b:Nat):Int),by rw[JS be be,TG],?_⟩;have hh64:a*4294967296+b<18446744073709551616:=by omega
 generalize a*4294967296+b=high at*
 obtain⟨ad,OX,Oc⟩:=p.load U (jv.refl (w:=w)) SO;refine⟨ad,OX,be,.int .u32 dt,Oc _ _ _,(dt:Int),eQ be,be,((high / dt:Nat):Int),JT hh64,?_⟩;conv=>whnf
 rw[show min ((high / dt:Nat):Int) 4294967295=((min (high / dt) 4294967295:Nat):Int) by omega];have hm32:min (high / dt) 4294967295<=4294967295:=Nat.min_le_right _ _;generalize min (high / dt) 4294967295=q0 at*
 have hQD:=Nat.div_mul_le_self P FS;have hQl:∀q,q*FS<=P->P / FS<=q->q=P / FS:=fun q Y X=>Nat.le_antisymm ((Nat.le_div_iff_mul_le hD).2 Y) X;have hmod:P % FS=P-P / FS*FS:=by have:=Nat.div_add_mod P FS;rw[bU]at this;omega
 refine⟨Nat×World,fun z=>⟨[(0,.o (.v (.slice (some ⟨g,0,none⟩) rs.length rs.length))),(1,sV p.a p.ls.length p.c),(2,iZ k),(9,.o (.v (.int .u64 z.1)))],[],0,[],z.2⟩,fun z=>z.1,
  fun z=>Bq w z.2/\P / FS<=z.1/\z.1<=4294967295,?_,?_⟩
 .intro O J r;exact⟨(q0,J),⟨r.cN,hguess,hm32⟩,Sub.reset r ⟨rfl,rfl,rfl,rfl,trivial⟩ ⟨trivial,trivial,trivial,trivial,trivial⟩⟩
 .rintro⟨q,w1⟩ ⟨V,Qf,Pq⟩;dsimp only at V Qf Pq ⊢;conv=>whnf
  refine⟨fun O I r=>(RQ I q (fun x G=>by have:=U x G;have:=(V.tr r.cN).size;omega) hgS (hnD.cK fun x G=>(V.tr r.cN).block x (U x G)) (by rw[(V.tr r.cN).block g hgB];exact F) Ou E hl be).mono fun e w3 R=>?_⟩;rcases R with⟨h,rfl,hb3⟩|⟨h,rfl,PK,rs',e1,e2,e3,e4,e5,e6⟩
  .have hw3:Bq w w3:=(V.tr r.cN).tr (hb3.cN r.cR);refine⟨.bool false,[],[],rfl,r.Le hb3.size,?_⟩;have Ro:P / FS<q:=by
    refine Nat.lt_of_le_of_ne Qf fun e=>?_;rw[e]at hQD;omega
   have hq4:0<q:=Nat.lt_of_le_of_lt (aP _) Ro;have hq5:P / FS<=q-1:=Nat.le_sub_one_of_lt Ro;refine⟨((q-1:Nat):Int),by rw[xI]<;>omega,?_⟩;intro I' w4 r4;exact⟨(q-1,w4),⟨hw3.tr r4.cN,hq5,by dsimp only;omega⟩,Sub.reset r4 ⟨rfl,rfl,rfl,rfl,trivial⟩ ⟨trivial,trivial,trivial,trivial,trivial⟩,by dsimp only;omega⟩
  .have hgw:w.grownBy w3 (some g):=gN (wF (V.tr r.cN)) PK;refine⟨.bool true,[],[],rfl,r.Le PK.size,?_⟩;have hq:=hQl q h Qf;subst hq;refine⟨((P / FS:Nat):Int),by rw[ei,bM be],?_⟩;intro I' w4 r4;refine⟨rfl,gN hgw (by have:=r4.p9;exact⟨this.os,this.tape,this.output,this.size,fun j hj _=>this.block j hj bv⟩),rs',e1,e2,e3,e4,by rw[e5,hmod],?_⟩;rw[r4.p9.block g (by have:=hgw.size;omega) bv];exact e6
end Go.Ex
namespace Go.Ex
variable{ms:List Nat}
theorem HW{t dt:Nat}(Ou:Lm ms)(hl:ms.length=t+1)(SO:ms[t]? =some dt)(h0:0<dt):32-gK dt<32/\ln (val ms*2^(32-gK dt))=t+1:=by
 have hb0:0<gK dt:=by
  rcases bN (gK dt)with h|h
  .have:=xO.1 (Nat.le_of_eq h);simp at this;omega
  .exact h
 have TW:gK dt<=32:=xO.2 (Ou.at SO);have OT:=xO.1 (aN (gK dt));have hv:val ms=val (ms.take t)+wt t*dt:=by rw[<-dU SO,bF be]
 have Ov:=nG (Ou.take t);have hltk:(ms.take t).length=t:=by simp;omega
 rw[hltk]at Ov;have V:=xm t;refine⟨be,Nat.le_antisymm ?_ ?_⟩
 .rw[gC];have Y:val ms<wt t*2^gK dt:=by
   have:wt t*(dt+1)<=wt t*2^gK dt:=bh _ OT;rw[bW]at this;omega
  have X:=Nat.mul_lt_mul_of_pos_right Y (bu (32-gK dt));rw[bl,<-Nat.pow_add,Nat.add_sub_cancel' TW]at X;rw[iW,bU 4294967296];exact X
 .refine Nat.lt_of_not_le fun h=>?_;have Y:=gC.1 h;have X:val ms*1<=val ms*2^(32-gK dt):=bh _ (bu _);have N:wt t*1<=wt t*dt:=bh _ h0;omega
theorem DQ{rs:List Nat}{FS Fn k:Nat}(Ou:Lm rs)(hDN:FS<wt Fn)(E:k+Fn+1<=rs.length)(h:val rs<wt (k+1)*FS):
  val (rs.drop (k+Fn+1))=0/\val (rs.drop k)=val ((rs.drop k).take (Fn+1))/\val ((rs.drop k).take (Fn+1))<4294967296*FS:=by
 obtain⟨x,G⟩:∃q,rs[k]? =some q:=⟨_,aB be⟩
 have Pe:=Ou.at G;have Y:=eX rs (k+1) be;have X:val (rs.drop (k+1))<FS:=Nat.lt_of_mul_lt_mul_left (a:=wt (k+1)) be;have N:=eX (rs.drop (k+1)) Fn (by simp;omega);rw[List.drop_drop,show k+1+Fn=k+Fn+1 by omega]at N;have h4:val (rs.drop (k+Fn+1))=0:=by
  rcases bN (val (rs.drop (k+Fn+1)))with h|h
  .exact h
  .have:=bh (wt Fn) h;omega
 have h5:=eX (rs.drop k) (Fn+1) (by simp;omega);rw[List.drop_drop,show k+(Fn+1)=k+Fn+1 by omega,h4,Nat.mul_zero,cC]at h5;have h6:=ir G;exact⟨h4,h5,be⟩
theorem Ii{rs rs' out:List Nat}{FS Fn k P A9:Nat}(hD:0<FS)(Ou:Lm rs)(hlen:rs'.length=rs.length)(hDN:FS<wt Fn)(E:k+Fn+1<=rs.length)(h:val rs<wt (k+1)*FS)(hV:A9=wt (k+1)*(FS*val (out.drop (k+1)))+val rs)
  (hP:val ((rs.drop k).take (Fn+1))=P) (Y:rs'.take k=rs.take k) (X:rs'.drop (k+Fn+1)=rs.drop (k+Fn+1)) (N:val ((rs'.drop k).take (Fn+1))=P % FS) (ho:k<out.length):
  val rs'<wt k*FS/\A9=wt k*(FS*val ((out.set k (P / FS)).drop k))+val rs':=by
 obtain⟨a1,a2,a3⟩:=DQ Ou hDN E h;have b1:=eX rs k be;have b2:=eX rs' k be;have b3:=eX (rs'.drop k) (Fn+1) (by simp;omega);rw[List.drop_drop,show k+(Fn+1)=k+Fn+1 by omega,X,a1,Nat.mul_zero,cC,N]at b3;rw[Y,b3]at b2;rw[a2,hP]at b1;have b4:=nG (Ou.take k);have b5:(rs.take k).length=k:=by simp;omega
 rw[b5]at b4;have b6:=bz P hD;have b7:(out.set k (P / FS))[k]? =some (P / FS):=by rw[aW ho]
 have b8:=Nat.div_add_mod P FS;refine⟨?_,?_⟩
 .have:wt k*(P % FS+1)<=wt k*FS:=bh _ b6;rw[bW]at this;omega
 .rw[ir b7,List.drop_set_of_lt (show k<k+1 by omega),hV,b1,b2,iW];generalize val (out.drop (k+1))=o;have c1:wt k*P=wt k*(FS*(P / FS))+wt k*(P % FS):=by rw[<-bW,b8]
  have c2:4294967296*wt k*(FS*o)=wt k*(FS*(4294967296*o)):=by
   rw[bU 4294967296,bl,Nat.mul_left_comm 4294967296]
  rw[c1,c2,bW FS,bW (wt k)];omega
theorem HX{n m b:Nat}(hm:0<m)(UT:m<=n):n*2^b<wt (ln n+1-ln m)*(m*2^b):=by
 have Y:=k9 n;have X:=fA UT;have N:wt (ln m-1)<=m:=by
  refine Nat.le_of_not_lt fun h=>?_;have:=gC.2 h;have h4:0<ln m:=by
   rcases bN (ln m)with h|h
   .have:=gC.1 (Nat.le_of_eq h);rw[jC]at this;omega
   .exact h
  omega
 have h4:0<ln m:=by
  rcases bN (ln m)with h|h
  .have:=gC.1 (Nat.le_of_eq h);rw[jC]at this;omega
  .exact h
 have h5:wt (ln n)<=wt (ln n+1-ln m)*m:=by
  rw[show ln n=(ln n+1-ln m)+(ln m-1) by omega,Bf,show(ln n+1-ln m)+(ln m-1)+1-ln m=ln n+1-ln m by omega];exact bh _ N
 rw[<-bl];exact Nat.mul_lt_mul_of_pos_right (Nat.lt_of_lt_of_le Y h5) (bu b)
theorem Kg{n m b o r:Nat}(hm:0<m)(Y:n*2^b=m*2^b*o+r)(X:r<m*2^b):o=n / m/\r / 2^b=n % m:=by
 have hp:=bu b;have N:n*2^b / (m*2^b)=o:=by rw[Y,Nat.mul_add_div (Nat.mul_pos hm hp),Nat.div_eq_of_lt X,cC]
 have h4:n*2^b % (m*2^b)=r:=by rw[Y,Nat.mul_add_mod,bM X]
 rw[Nat.mul_div_mul_right _ _ hp]at N;rw[Nat.mul_mod_mul_right]at h4;exact⟨N.symm,by rw[<-h4,Nat.mul_div_cancel _ hp]⟩
end Go.Ex
namespace Go.Ex
open Go Go.Sx Go.Proofs
variable{H:Hp}{x y z:Int}{iv:Iv}{ls:List Nat}{n nx:Nat}{S:Nat->Prop}{O:Nat->Sx.da}{u v:Value}{w J w1:World}
theorem Gk{g:Nat}{rs:List Nat}(F:w.heap[g]? =some (.cells (E8 rs).toArray T.uint32 (0,0)))(Ou:Lm rs)(hl:rs.length<=1000000000000):
  dF w (fun x=>x=g) (.slice (some ⟨g,0,none⟩) rs.length rs.length) rs:=by
 have:=Gg (k:=0) (m:=rs.length) (c:=rs.length) F Ou be lr hl
 rwa [List.drop_zero,bG]at this
theorem pc{m:Nat}(U:Old S w)(Z:dc w S v n)(hm:dc w S u m)(TZ:0<m)(R4:ln n<=100000000000):
  eC PG Fn.mg #[v,u] w (eI w fun v' I=>∃q r,v'= .tuple #[q,r]/\dc I (Nf w I) q (n / m)/\dc I (Nw S w I) r (n % m)):=by
 have hnN:=Z;have Ss:=hm;obtain⟨x,rfl,QC,Pk⟩:=Z.la;obtain⟨y,rfl,Qf,Pq⟩:=hm.la;have PJ:=eE x.lm Pk;have hyl:=eE y.lm Pq;rw[QC]at PJ;rw[Qf]at hyl;refine qb bv ?_;refine cD (cM (If:=fun _ _ v _=>v=iV (ry n m)) (fun O J r=>JQ (S:=S) (fun g F=>by have:=U g F;have:=r.cN.size;omega) (hnN.cK fun g F=>r.cN.block g (U g F)) (Ss.cK fun g F=>r.cN.block g (U g F))) ?_);rintro O w1 v1 I r R V rfl;apply bS<;>intro h
 .have h:n<m:=by
   have:=aE h;unfold ry at this;split at this
   .assumption
   .split at this<;>omega
  intro IR w3 A;refine⟨_,rfl,V.tr A.cN,_,_,rfl,?_,?_⟩
  .rw[Nat.div_eq_of_lt h];exact dc.nil _ _
  .rw[bM h];exact(hnN.cK fun g F=>(V.tr A.cN).block g (U g F)).cF fun g F=>.inl F
 have h:m<=n:=by
  have:=aC h;unfold ry at this;split at this
  .omega
  .omega
 have hlmn:=fA h;apply bS<;>intro Y
 .have Y:y.ls.length=1:=by have:=eq_of_beq Y;omega
  obtain⟨b,Ty⟩:=List.length_eq_one_iff.1 Y;have hb:y.ls[0]? =some b:=by rw[Ty];rfl
  have TW:=y.lm.at hb;have Rh:m=b:=by rw[<-Qf,Ty];simp[val]
  subst Rh;obtain⟨ad,OX,Oc⟩:=y.load U V hb;refine⟨ad,OX,be,.int .u32 m,Oc _ _ _,?_⟩;refine cD (cM (If:=fun _ J v I=>∃q,v= .tuple #[q,.int .u32 ((val x.ls % m:Nat):Int)]/\dc I (Nf J I) q (val x.ls / m)) (fun O J r=>?_) ?_)
  .refine Kv (S:=S) (fun g F=>by have:=U g F;have:=(V.tr r.cN).size;omega) ⟨x.lm,x.le,_,_,rfl,x.cap,fun j u hu=>?_⟩ be TZ TW;obtain⟨ad,e1,e2,e3⟩:=x.cell j u hu;exact⟨ad,e1,e2,kF U V r e2 e3⟩
  rintro O w3 v3 w4 r R Rd ⟨q,rfl,hq⟩;replace V:=V.tr Rd;have TH:=hq.iR (S:=FF) r.cR (iv:=(w3.heap.size,w4.heap.size)::[(w1.heap.size,I.heap.size)]) aI;rw[QC]at TH;rw[QC];generalize (w3.heap.size,w4.heap.size)::[(w1.heap.size,I.heap.size)]=iv at*
  have Qo:n % m<m:=bz _ TZ;generalize n % m=rem at*
  refine gI (If:=fun O _ v I=>dF I (fun g=>g=(O 0).g) v (db [rem])) (H':=[]) 0 rfl bv trivial rfl (fun O J r=>r.nn 0 _ rfl (by intros;simp) bv) (fun O J r=>?_) ?_
  .have hL:=r.td (id:=0) (ls:=[rem]) rfl (by intro x G;simp at G;omega) bv;exact fG (fun g F=>by rw[F];exact(r.low 0 _ rfl (r.nn 0 _ rfl (by intros;simp) bv)).2) hL
  rintro O w5 v5 w6 r R hb6 hL;have Ov:=r.low 0 _ rfl (r.nn 0 _ rfl (by intros;simp) bv);have hs:=R.size;replace V:=V.tr hb6;replace TH:=TH.cH (K:=((O 0).g,(O 0).g+1)::(w5.heap.size,w6.heap.size)::iv) r (fun g h=>h.elim) R fun x G=>by simp[G]
  generalize (O 0).g=g0 at*
  have UX:dc w6 (Cf w ((g0,g0+1)::(w5.heap.size,w6.heap.size)::iv)) v5 rem:=by
   have:=hL.trimmed;simp only[val,Nat.mul_zero,cC]at this;exact this.cF fun k E=>.inr ⟨be,g0,g0+1,bv,be,be⟩
  generalize (g0,g0+1)::(w5.heap.size,w6.heap.size)::iv=OH at*
  intro IR w7 A;exact⟨_,rfl,V.tr A.cN,_,_,rfl,(TH.rel A fun g h=>h.elim).cF fun g F=>Cv.nw F A,((UX.rel A fun g h=>h.elim).cF fun g F=>Cv.nw F A).cF fun g F=>F.elim (fun h=>h.elim) .inr⟩
 .have Y:y.ls.length≠1:=fun e=>by rw[e]at Y;simp at Y
  have SB:0<ln m:=by
   rcases bN (ln m)with h|h
   .have:=gC.1 (Nat.le_of_eq h);rw[jC]at this;omega
   .exact h
  obtain⟨t,ht⟩:∃t,y.ls.length=t+1:=⟨y.ls.length-1,be⟩
  obtain⟨dt,SO⟩:=gO y.ls t;have hdt0:0<dt:=by
   have:=Pq dt (by rw[List.getLast?_eq_getElem?,ht];exact SO);omega
  have VC:=y.lm.at SO;obtain⟨Oy,UY⟩:=HW y.lm ht SO hdt0;rw[Qf]at UY;obtain⟨ad,OX,Oc⟩:=y.load U V SO;refine⟨(t:Int),wo,ad,OX,be,.int .u32 dt,Oc _ _ _,?_⟩;refine cD (cM (If:=fun _ _ v _=>v=iV ((32-gK dt:Nat):Int)) (fun O J r=>MR dt J VC) ?_);rintro O w3 v3 w4 r R Rd rfl;replace V:=V.tr Rd;generalize hbyd:32-gK dt=b at*
  refine⟨(b:Int),eQ be,?_⟩;refine cD (cM (If:=fun _ J v I=>∃out,JU J I v out/\out.length=y.ls.length+1/\val out=val y.ls*2^b) (fun O J r=>?_) ?_)
  .refine BE (S:=S) (fun g F=>by have:=U g F;have:=(V.tr r.cN).size;omega) ⟨y.lm,y.le,_,_,rfl,y.cap,fun j u hu=>?_⟩ be Oy;obtain⟨ad,e1,e2,e3⟩:=y.cell j u hu;exact⟨ad,e1,e2,kF U V r e2 e3⟩
  rintro O w5 v5 w6 r R hb6 ⟨dl,⟨gd,rfl,hgd1,hgd2,hgd3⟩,Rz,hdv⟩;replace V:=V.tr hb6;rw[Qf]at hdv;have hB5:w.heap.size<=w5.heap.size:=r.cR;have R5:Cf w ((w5.heap.size,w6.heap.size)::[(w3.heap.size,w4.heap.size),(w1.heap.size,I.heap.size)]) gd:=.inr ⟨be,_,_,aI,hgd1,jb hgd2⟩;generalize (w5.heap.size,w6.heap.size)::[(w3.heap.size,w4.heap.size),(w1.heap.size,I.heap.size)]=iv at*
  have hF:∀g:Nat,(fun _:Nat=>False) g->g<w.heap.size:=fun g h=>h.elim;refine cD (cM (If:=fun _ _ v I=>dF I (fun x=>x=gd) v (db dl)) (fun O J r=>fG (fun g F=>by rw[F];exact rlo r hF gd R5) (Gk (by rw[rls r hF R5];exact hgd2) hgd3 be)) ?_);rintro O w7 v6 w8 r R hb8 hL;replace V:=V.tr hb8;have hgd8:gd<w8.heap.size:=by have:=rlo r hF gd R5;have:=R.size;omega
  replace R5:=R5.mono (K:=(w7.heap.size,w8.heap.size)::iv) fun p hp=>aA _ hp;have TY:=hL.trimmed;rw[hdv]at TY;generalize (w7.heap.size,w8.heap.size)::iv=iv at*
  obtain⟨dp,rfl,Rg,Ot⟩:=TY.la;have hdpl:=eE dp.lm Ot;rw[Rg,UY]at hdpl;generalize hDd:m*2^b=FS at*
  have hD0:0<FS:=by rw[<-hDd];exact Nat.mul_pos TZ (bu b)
  refine cD (cM (If:=fun _ J v I=>∃out,JU J I v out/\out.length=x.ls.length+1/\val out=val x.ls*2^b) (fun O J r=>?_) ?_)
  .refine BE (S:=S) (fun g F=>by have:=U g F;have:=(V.tr r.cN).size;omega) ⟨x.lm,x.le,_,_,rfl,x.cap,fun j u hu=>?_⟩ be Oy;obtain⟨ad,e1,e2,e3⟩:=x.cell j u hu;exact⟨ad,e1,e2,kF U V r e2 e3⟩
  rintro O w9 v9 w10 r R hb10 ⟨rs0,⟨gr,rfl,hgr1,hgr2,hgr3⟩,QY,hrv⟩;replace V:=V.tr hb10;rw[QC]at hrv;have hB9:w.heap.size<=w9.heap.size:=r.cR;have SC:Cf w ((w9.heap.size,w10.heap.size)::iv) gr:=.inr ⟨be,_,_,aI,hgr1,jb hgr2⟩;have OB:gr≠gd:=by have:=r.size;omega
  replace TY:dc w10 (fun x=>x=gd) (.slice dp.a dp.ls.length dp.c) FS:=TY.cK fun x G=>by
   rw[G,R.block gd (rlo r hF gd R5),rls r hF R5]
  have hgd10:gd<w10.heap.size:=by have:=rlo r hF gd R5;have:=R.size;omega
  replace R5:=R5.mono (K:=(w9.heap.size,w10.heap.size)::iv) fun p hp=>aA _ hp;generalize (w9.heap.size,w10.heap.size)::iv=iv at*
  have hgrB:w.heap.size<=gr:=by omega
  obtain⟨C9,hL⟩:∃C9,rs0.length=t+1+C9:=⟨rs0.length-(t+1),be⟩
  refine⟨(C9:Int),wo,C9,C9,rfl,rfl,lr,be,be,(C9:Int)-1,wo,Nat×List Nat×List Nat×World,fun z=>⟨[(8,.o (.v (.int .u64 b))),(9,sV dp.a dp.ls.length dp.c),(10,.o (.v (.slice (some ⟨gr,0,none⟩) rs0.length rs0.length))),(11,.o (.s 0 0 C9 C9)),(12,.o (.v (iV ((z.1:Int)-1))))],
    [(0,.arr T.uint32 (E8 z.2.1))],1,iv,z.2.2.2⟩,fun z=>z.1,
   fun z=>z.1<=C9/\Bq w z.2.2.2/\z.2.1.length=C9/\z.2.2.1.length=rs0.length/\Lm z.2.1/\Lm z.2.2.1/\z.2.2.2.heap[gr]? =some (.cells (E8 z.2.2.1).toArray T.uint32 (0,0))/\dc z.2.2.2 (fun x=>x=gd) (.slice dp.a dp.ls.length dp.c) FS/\
    gd<z.2.2.2.heap.size/\val z.2.2.1<wt z.1*FS/\n*2^b=wt z.1*(FS*val (z.2.1.drop z.1))+val z.2.2.1,?_,?_⟩
  .intro O J r;rw[rz]at r;refine⟨(C9,List.replicate C9 0,rs0,J),⟨lr,V.tr r.cN,bv,rfl,Lm.replicate _,hgr3,?_,?_,?_,?_,?_⟩,sbgn [] r⟩
   .dsimp only;rw[rls r hF SC];exact hgr2
   .exact TY.cK fun x G=>by rw[G];exact rls r hF R5
   .exact rlo r hF gd R5
   .dsimp only
    have:=HX (b:=b) TZ h;rw[hDd,<-hyl,ht,<-PJ,show x.ls.length+1-(t+1)=C9 by omega]at this;rw[hrv];exact this
   .dsimp only;rw[hrv];simp[val]
  .rintro⟨k,out,rs,w11⟩ ⟨E,V,Pr,SP,R0,hlr,PK,TY,Qr,hi1,Tz⟩;dsimp only at E V Pr SP R0 hlr PK TY Qr hi1 Tz ⊢;apply bS<;>intro h9
   .have h9:(k:Int)-1≥0:=aE h9;obtain⟨k,rfl⟩:∃q,k=q+1:=⟨k-1,be⟩
    rw[show ((k+1:Nat):Int)-1=(k:Int) by omega];have hDN:FS<wt (t+1):=gC.1 (Nat.le_of_eq UY);obtain⟨a1,a2,a3⟩:=DQ (Fn:=t+1) hlr hDN be hi1;have hdig:=fun(J:World)=>@Ku (fun x=>x=gd) J (.slice dp.a dp.ls.length dp.c) FS gr k rs;rw[UY]at hdig;simp only[SP]at hdig;generalize hP:val ((rs.drop k).take (t+1+1))=P at*
    have hQ32:P / FS<4294967296:=(Nat.div_lt_iff_lt_mul hD0).2 (by rw[bU]at a3;omega);refine⟨fun O J r=>(hdig J (fun g F=>by rw[F];exact rlo r hF gd R5) OB (TY.cK fun x G=>by rw[G];exact rls r hF R5) hD0 (by rw[rls r hF SC];exact PK) hlr be be a3).mono fun e w12 R=>?_⟩;obtain⟨rfl,hgb,rs',e1,e2,e3,e4,e5,e6⟩:=R;refine⟨_,_,_,rfl,r.xd (fun id b hb Z=>Rel.not r hF SC id b hb Z) hgb,?_⟩;obtain⟨hi1',hi2'⟩:=Ii (Fn:=t+1) hD0 hlr (e1.trans SP.symm) hDN be hi1 Tz hP e3 e4 e5 be;have hw12:Bq w w12:=(V.tr r.cN).tr (jv.grown hgb (fun g F=>by injection F with F;omega) r.cR);have hdN12:dc w12 (fun x=>x=gd) (.slice dp.a dp.ls.length dp.c) FS:=TY.cK fun x G=>by
     rw[G,hgb.block gd (rlo r hF gd R5) (fun e=>OB (Option.some.inj e).symm),rls r hF R5]
    have hgd12:gd<w12.heap.size:=by have:=rlo r hF gd R5;have:=hgb.size;omega
    generalize P / FS=Q at*
    refine⟨be,by rw[fy];omega,E8 (out.set k Q),ie out k _ be bv,(k:Int)-1,wo,?_⟩;intro IR w3 A
    refine⟨(k,out.set k Q,rs',w3),⟨by dsimp only;omega,hw12.tr A.cN,by simp[Pr],e1.trans rfl,R0.set hQ32,e2,?_,?_,?_,hi1',hi2'⟩,
     sbgn [] A,by dsimp only;omega⟩
    .dsimp only;rw[rls A hF SC];exact e6
    .exact hdN12.cK fun x G=>by rw[G];exact rls A hF R5
    .exact rlo A hF gd R5
   .have SM:k=0:=by
     have:¬(k:Int)-1≥0:=aC h9;omega
    subst SM;rw[jC,Nat.one_mul,List.drop_zero]at Tz;rw[jC,Nat.one_mul]at hi1;rw[<-hDd]at hi1 Tz;obtain⟨hq,hrem⟩:=Kg TZ Tz hi1;have RK:∀J:World,J.heap[gr]? =some (.cells (E8 rs).toArray T.uint32 (0,0))->dF J (fun x=>x=gr) (.slice (some ⟨gr,0,none⟩) rs0.length rs0.length) rs:=fun J hh=>by
     have:=Gk hh hlr be
     rwa [SP]at this
    refine gI (If:=fun O _ v I=>dF I (fun g=>g=(O 0).g) v (db out)) (H':=[]) 0 rfl bv trivial rfl (fun O J r=>r.nn 0 _ rfl (by intros;simp) bv) (fun O J r=>?_) ?_
    .have hL:=r.ml (id:=0) rfl R0 be;rw[Pr]at hL;exact fG (fun g F=>by rw[F];exact(r.low 0 _ rfl (r.nn 0 _ rfl (by intros;simp) bv)).2) hL
    rintro O w13 v13 w14 r R hb14 hL;replace V:=V.tr hb14;have Ov:=r.low 0 _ rfl (r.nn 0 _ rfl (by intros;simp) bv);have hs:=R.size;have hgr14:w14.heap[gr]? =some (.cells (E8 rs).toArray T.uint32 (0,0)):=by rw[R.block gr (rlo r hF gr SC),rls r hF SC];exact PK
    replace SC:=SC.mono (K:=((O 0).g,(O 0).g+1)::(w13.heap.size,w14.heap.size)::iv) fun p hp=>by simp[hp]
    have TH:dc w14 (Cf w (((O 0).g,(O 0).g+1)::(w13.heap.size,w14.heap.size)::iv)) v13 (n / m):=by
     have:=hL.trimmed;rw[hq]at this;exact this.cF fun k E=>.inr ⟨be,_,_,aI,be,be⟩
    generalize ((O 0).g,(O 0).g+1)::(w13.heap.size,w14.heap.size)::iv=OW at*
    refine cD (cM (If:=fun _ _ v I=>dF I (fun x=>x=gr) v (db rs)) (fun O J r=>fG (fun g F=>by rw[F];exact rlo r hF gr SC) (RK J (by rw[rls r hF SC];exact hgr14))) ?_);rintro O w15 v15 w16 r R hb16 hL;replace V:=V.tr hb16;replace TH:=TH.cH (K:=(w15.heap.size,w16.heap.size)::OW) r hF R fun x G=>aA _ G;replace hL:=hL.cF (S':=Cf w ((w15.heap.size,w16.heap.size)::OW)) fun g F=>by rw[F];exact SC.cons
    generalize (w15.heap.size,w16.heap.size)::OW=Ow at*
    have UA:(db rs).length<=rs.length:=by
     obtain⟨_,_,k,_,E⟩:=ec rs;rw[E];simp;omega
    refine cD (cM (If:=fun _ J v I=>dc I (Nf J I) v (val (db rs) / 2^b)) (fun O J r=>MT (rlo r hF) (dF.rel hL r hF) be Oy) ?_);rintro O w17 v17 w18 r R hb18 hr;replace V:=V.tr hb18;rw[(ec rs).1,hrem]at hr;have UX:=hr.iR (S:=FF) r.cR (iv:=(w17.heap.size,w18.heap.size)::Ow) aI;replace TH:=TH.cH (K:=(w17.heap.size,w18.heap.size)::Ow) r hF R fun x G=>aA _ G;generalize (w17.heap.size,w18.heap.size)::Ow=Qg at*
    intro IR w19 A;exact⟨_,rfl,V.tr A.cN,_,_,rfl,(TH.rel A hF).cF fun g F=>Cv.nw F A,((UX.rel A hF).cF fun g F=>Cv.nw F A).cF fun g F=>F.elim (fun h=>h.elim) .inr⟩
theorem Dx{m:Nat}(U:Old S w)(Z:dc w S v n)(hm:dc w S u m)(R4:ln n<=100000000000)(Ou:ln m<=100000000000):
  eC PG Fn.tK #[v,u] w (eI w fun v' I=>dc I (Nw S w I) v' (Nat.gcd n m)):=by
 refine wm bv ?_
 refine⟨(Value×Nat)×(Value×Nat)×Iv×World,fun z=>⟨[(0,.o (.v z.1.1)),(1,.o (.v z.2.1.1))],[],0,z.2.2.1,z.2.2.2⟩,fun z=>z.2.1.2,
  fun z=>Bq w z.2.2.2/\dc z.2.2.2 (Cv S w.heap.size z.2.2.1) z.1.1 z.1.2/\dc z.2.2.2 (Cv S w.heap.size z.2.2.1) z.2.1.1 z.2.1.2/\ln z.1.2<=100000000000/\ln z.2.1.2<=100000000000/\Nat.gcd z.1.2 z.2.1.2=Nat.gcd n m,?_,?_⟩
 .intro O J r
  exact⟨((v,n),(u,m),[],J),⟨r.cN,(Z.cK fun g F=>r.cN.block g (U g F)).cF fun _ F=>.inl F,(hm.cK fun g F=>r.cN.block g (U g F)).cF fun _ F=>.inl F,R4,Ou,rfl⟩,
   Sub.gen [] r trivial ⟨rfl,rfl,trivial⟩ trivial (by simp[kL,SV.sc,At.sc]) cs bv⟩
 .rintro⟨⟨vx,x⟩,⟨vy,y⟩,iv,w1⟩ ⟨V,G,hy,OZ,PS,F⟩;dsimp only at V G hy OZ PS F ⊢;have hyN:=hy;obtain⟨p,rfl,QC,Pk⟩:=hy.la;have Pc:=eE p.lm Pk;rw[QC]at Pc;apply bS<;>intro h
  .have h:0<p.ls.length:=by
    have:(p.ls.length:Int)>0:=aE h;omega
   have PL:0<y:=by
    rcases bN y with h0|h0
    .rw[h0]at Pc;rw[Kd]at Pc;omega
    .exact h0
   refine cD (cM (If:=fun _ J v I=>∃q r,v= .tuple #[q,r]/\dc I (Nf J I) q (x / y)/\dc I (Nw (Cv S w.heap.size iv) J I) r (x % y)) (fun O J r=>pc (rlo r U) (G.rel r U) (hyN.rel r U) PL OZ) ?_);rintro O w3 v3 w4 r R Rd ⟨q,rm,rfl,-,hr⟩;replace V:=V.tr Rd;have UX:dc w4 (Cv S w.heap.size ((w3.heap.size,w4.heap.size)::iv)) rm (x % y):=hr.cF fun g F=>Nw.cv F r.cR;have hyN:=hyN.cH (K:=(w3.heap.size,w4.heap.size)::iv) r U R fun x G=>aA _ G;generalize (w3.heap.size,w4.heap.size)::iv=OH at*
   intro J8 w5 r5
   refine⟨((_,y),(rm,x % y),OH,w5),⟨V.tr r5.cN,hyN.rel r5 U,UX.rel r5 U,PS,bB (fA (Nat.le_of_lt (bz x PL))) PS,?_⟩,
    Sub.gen [] r5 trivial ⟨rfl,rfl,trivial⟩ trivial (by simp[kL,SV.sc,At.sc]) cs bv,bz x PL⟩
   dsimp only
   rw[<-F,Nat.gcd_comm x y,Nat.gcd_rec y x,Nat.gcd_comm]
  .have h:p.ls.length=0:=by
    have:¬(p.ls.length:Int)>0:=aC h;omega
   have PL:y=0:=by
    have:=k9 y;rw[<-Pc,h,jC]at this;omega
   rw[PL,Nat.gcd_zero_right]at F;intro J8 w5 r5;exact⟨_,rfl,V.tr r5.cN,by rw[<-F];exact(G.rel r5 U).cF fun g F=>Cv.nw F r5⟩
def sg(neg:Bool)(n:Nat):Int:=if neg then -(n:Int)else n
theorem Jj(n:Nat):sg true n= -(n:Int):=rfl
theorem M3(n:Nat):sg false n=n:=rfl
theorem sI(b:Bool)(n:Nat):(sg b n).natAbs=n:=by cases b<;>simp[sg]
def tm(w:World)(S:Nat->Prop)(v:Value)(neg:Bool)(ls:List Nat):Prop:=∃lv,v= .agg #[.bool neg,lv]/\dF w S lv ls
def eF(w:World)(S:Nat->Prop)(v:Value)(z:Int):Prop:=∃nv,v= .agg #[.bool (decide (z<0)),nv]/\dc w S nv z.natAbs
section
variable{S S':Nat->Prop}{H:Hp}{nx:Nat}{iv K:Iv}{B:Nat}{w J I:World}{O:Nat->Sx.da}{v:Value}{z:Int}
theorem eF.cK(h:eF w S v z)(E:∀g,S g->I.heap[g]? =w.heap[g]?):eF I S v z:=by
 obtain⟨nv,Y,X⟩:=h;exact⟨nv,Y,X.cK E⟩
theorem eF.cF(h:eF w S v z)(E:∀g,S g->S' g):eF w S' v z:=by
 obtain⟨nv,Y,X⟩:=h;exact⟨nv,Y,X.cF E⟩
theorem eF.rel(h:eF w (Cv S B iv) v z)(r:Rel H nx iv B w O J)(U:∀g,S g->g<B):eF J (Cv S B iv) v z:=h.cK fun _ F=>rls r U F
theorem eF.cH(h:eF w (Cv S B iv) v z)(r:Rel H nx iv B w O J)(U:∀g,S g->g<B)(R:Ext J I)(hm:∀p,p∈iv->p∈K):eF I (Cv S B K) v z:=by
 obtain⟨nv,Y,X⟩:=h;exact⟨nv,Y,X.cH r U R hm⟩
theorem eF.iR(h:eF I (Nf J I) v z)(hB:B<=J.heap.size)(hm:(J.heap.size,I.heap.size)∈iv):eF I (Cv S B iv) v z:=h.cF fun _ F=>F.iR hB hm
end
theorem uy{k:Nat}(h:k=ln n):0<k↔0<n:=by
 have Y:=@gC n 0;rw[jC]at Y;omega
theorem dF.shape(h:dF w S v ls):∃a n c,v= .slice a n c:=by
 obtain⟨a,c,h,_⟩:=h.sl;exact⟨a,_,c,h⟩
theorem dc.shape(h:dc w S v n):∃a n c,v= .slice a n c:=by
 obtain⟨_,h,_⟩:=h;exact h.shape
theorem dF.arg(h:dF w S v ls)(iv:Iv):dF w (Cv S w.heap.size iv) v ls:=h.cF fun _ h=>.inl h
theorem dc.arg(h:dc w S v n)(iv:Iv):dc w (Cv S w.heap.size iv) v n:=h.cF fun _ h=>.inl h
theorem dc.out(h:dc w1 (Cv S w.heap.size iv) v n)(r:Rel H nx iv w.heap.size w1 O J)(U:Old S w):dc J (Nw S w J) v n:=
 (h.rel r U).cF fun _ F=>Cv.nw F r
theorem eF.out(h:eF w1 (Cv S w.heap.size iv) v z)(r:Rel H nx iv w.heap.size w1 O J)(U:Old S w):eF J (Nw S w J) v z:=
 (h.rel r U).cF fun _ F=>Cv.nw F r
theorem neg_pos{k:Nat}(h:k=ln n):decide ((k:Int)>0)=decide (-(n:Int)<0):=by
 have:=uy h;exact decide_eq_decide.2 be
theorem MW(w:World):Old FF w:=fun _ h=>h.elim
theorem oF:Old (fun _=>False) w:=MW w
theorem Nh{neg:Bool}(U:Old S w)(h:tm w S v neg ls):
  eC PG Fn.yl #[v] w (eI w fun v' I=>eF I (Nw S w I) v' (sg neg (val ls))):=by
 obtain⟨lv,rfl,hl⟩:=h;replace hl:=hl.arg [];refine Dj bv ?_;refine cD (cM (If:=fun _ _ v I=>dF I (Cv S w.heap.size []) v (db ls)) (fun O J r=>fG (rlo r U) (dF.rel hl r U)) ?_);rintro O w1 v1 I r R V hL;have hN:=hL.trimmed.cF (S':=Cv S w.heap.size [(w1.heap.size,I.heap.size)]) fun _ F=>F.cons;have TM:=hN;obtain⟨p,rfl,QC,Pk⟩:=hN.la;have Pc:=eE p.lm Pk;rw[QC]at Pc
 cases neg
 .intro IR w3 A;exact⟨_,rfl,V.tr A.cN,_,rfl,by rw[sI];exact TM.out A U⟩
 .intro IR w3 A;exact⟨_,rfl,V.tr A.cN,_,by rw[Jj,<-neg_pos Pc];rfl,by rw[sI];exact TM.out A U⟩
theorem Jk(U:Old S w)(h:eF w S v z)(R4:ln z.natAbs<=100000000000):
  eC PG Fn.lf #[v] w (eI w fun v' I=>∃ls,tm I (Nf w I) v' (decide (z<0)) ls/\Nz ls/\val ls=z.natAbs):=by
 obtain⟨nv,rfl,Z⟩:=h;obtain⟨ls,hl,hz,hv⟩:=Z;replace hl:=hl.arg [];refine pX bv ?_;refine cD (cM (If:=fun _ _ v I=>dF I (Cv S w.heap.size []) v (db ls)) (fun O J r=>fG (rlo r U) (dF.rel hl r U)) ?_);rintro O w1 v1 I r R V hL;rw[DL hz]at hL;have Pc:=eE hl.lm hz;rw[hv]at Pc;replace hL:=hL.cF (S':=Cv S w.heap.size [(w1.heap.size,I.heap.size)]) fun _ F=>F.cons;have hL2:=hL;obtain⟨p,rfl,hp⟩:=hL.la;have UD:(p.ls.length:Int)>0↔z≠0:=by
  have Y:=uy Pc;rw[hp];omega
 subst hp;generalize hb:decide (z<0)=b
 cases b
 all_goals
  refine cD (cM (If:=fun _ J v I=>dF I (Nf J I) v p.ls) (fun O J r=>Gf (rlo r U) (dF.rel hL2 r U) be) ?_);rintro O w3 v3 w4 r R Rd hc;replace V:=V.tr Rd;have Rq:=hc.iR (S:=FF) r.cR (iv:=(w3.heap.size,w4.heap.size)::[(w1.heap.size,I.heap.size)]) aI;obtain⟨a3,n3,c3,rfl⟩:=Rq.shape;intro J8 w5 r5;refine⟨_,rfl,V.tr r5.cN,p.ls,⟨_,?_,(dF.rel Rq r5 oF).cF fun _ F=>Cv.nw F r5⟩,hz,hv⟩
 .rfl
 .have:decide ((p.ls.length:Int)>0)=true:=bc (UD.2 (by have:=aE hb;omega));rw[<-this];rfl
theorem zV(h:eF w S v z):eC PG Fn.l8 #[v] w (eI w fun v' _=>v'=iV z.sign):=by
 obtain⟨nv,rfl,Z⟩:=h;obtain⟨p,rfl,QC,Pk⟩:=Z.la;have Pc:=eE p.lm Pk;rw[QC]at Pc;have UD:=uy Pc;generalize hb:decide (z<0)=b;refine pV bv ?_;apply bS<;>intro h
 .have h:p.ls.length=0:=by have:=eq_of_beq h;omega
  have hz:z=0:=by omega
  subst hz;intro O I r;exact⟨_,rfl,r.cN,rfl⟩
 .have h:p.ls.length≠0:=fun e=>by rw[e]at h;simp at h
  have hz:z≠0:=by omega
  cases b
  .have:=aC hb;intro O I r;exact⟨_,rfl,r.cN,by rw[bp be];rfl⟩
  .have:=aE hb;intro O I r;exact⟨_,rfl,r.cN,by rw[bj be];rfl⟩
theorem nu(U:Old S w)(h:eF w S v z):eC PG Fn.ky #[v] w (eI w fun v' I=>eF I (Nw S w I) v' (-z)):=by
 obtain⟨nv,rfl,Z⟩:=h;have Qx:=Z.arg [];obtain⟨p,rfl,QC,Pk⟩:=Z.la;have Pc:=eE p.lm Pk;rw[QC]at Pc;have UD:=uy Pc;have QB:(-z).natAbs=z.natAbs:=Int.natAbs_neg z;generalize hb:decide (z<0)=b;refine o0 bv ?_
 cases b
 .have:=aC hb;have hd:decide ((p.ls.length:Int)>0)=decide (-z<0):=decide_eq_decide.2 be;intro O I r;exact⟨_,rfl,r.cN,_,by rw[<-hd];rfl,by rw[QB];exact Qx.out r U⟩
 .have:=aE hb;have hd:decide (-z<0)=false:=bL be;intro O I r;exact⟨_,rfl,r.cN,_,by rw[hd];rfl,by rw[QB];exact Qx.out r U⟩
theorem eF.num(h:eF w S v z):∃a n c,v= .agg #[.bool (decide (z<0)),.slice a n c]/\dc w S (.slice a n c) z.natAbs:=by
 obtain⟨nv,Y,X⟩:=h;obtain⟨a,n,c,rfl⟩:=X.shape;exact⟨a,n,c,Y,X⟩
theorem BO(U:Old S w)(G:eF w S v x)(hy:eF w S u y)(OZ:ln x.natAbs<=100000000000)(PS:ln y.natAbs<=100000000000):
  eC PG Fn.lj #[v,u] w (eI w fun v' I=>eF I (Nf w I) v' (x+y)):=by
 obtain⟨nx,rfl,Qj⟩:=G;obtain⟨ny,rfl,SG⟩:=hy;obtain⟨ax,lx,cx,rfl⟩:=Qj.shape;obtain⟨ay,ly,cy,rfl⟩:=SG.shape;replace Qj:=Qj.arg [];replace SG:=SG.arg [];generalize Ug:decide (x<0)=bx;generalize Oy:decide (y<0)=b2;refine pZ bv ?_;have Rj:bx=b2->(x+y).natAbs=x.natAbs+y.natAbs/\decide (x+y<0)=bx:=fun e=>by
  cases bx<;>subst e
  .have Y:=aC Ug;have X:=aC Oy;exact⟨be,bL be⟩
  .have Y:=aE Ug;have X:=aE Oy;exact⟨be,bc be⟩
 have Tk:bx≠b2->y.natAbs<=x.natAbs->(x+y).natAbs=x.natAbs-y.natAbs/\(decide (x+y<0)=(bx&&decide (x.natAbs-y.natAbs≠0))):=fun e h=>by
  cases bx
  .have Y:=aC Ug
   cases b2
   .exact absurd rfl e
   have X:=aE Oy;exact⟨be,by rw[Bool.false_and];exact bL be⟩
  .have Y:=aE Ug
   cases b2
   .have X:=aC Oy;exact⟨be,by rw[Bool.true_and];exact decide_eq_decide.2 be⟩
   .exact absurd rfl e
 have SU:bx≠b2->x.natAbs<y.natAbs->(x+y).natAbs=y.natAbs-x.natAbs/\decide (x+y<0)=b2:=fun e h=>by
  cases bx
  .have Y:=aC Ug
   cases b2
   .exact absurd rfl e
   have X:=aE Oy;exact⟨be,bc be⟩
  .have Y:=aE Ug
   cases b2
   .have X:=aC Oy;exact⟨be,bL be⟩
   .exact absurd rfl e
 by_cases OO:bx=b2
 .obtain⟨Y,X⟩:=Rj OO;subst OO
  cases bx
  all_goals
   refine dP (idO 9) ?_;refine cM (If:=fun _ J v I=>dc I (Nf J I) v (x.natAbs+y.natAbs)) (fun O J r=>M6 (rlo r U) (Qj.rel r U) (SG.rel r U) be be) ?_;rintro O w3 v3 w4 r R V Z;have hN:=Z.iR (S:=FF) r.cR (iv:=(w3.heap.size,w4.heap.size)::[]) aI;obtain⟨a3,n3,c3,rfl⟩:=hN.shape;intro J8 w5 r5;exact⟨_,rfl,V.tr r5.cN,_,by rw[X];rfl,by rw[Y];exact hN.out r5 oF⟩
 .replace Tk:=Tk OO;replace SU:=SU OO;have hcmp:∀d:Int,d=ry x.natAbs y.natAbs->(0<=d↔y.natAbs<=x.natAbs):=fun d e=>by
   rw[e];unfold ry;split
   .omega
   .split<;>omega
  cases bx<;>cases b2<;>first|exact absurd rfl OO|skip
  all_goals
   refine cD (cM (If:=fun _ _ v _=>v=iV (ry x.natAbs y.natAbs)) (fun O J r=>JQ (rlo r U) (Qj.rel r U) (SG.rel r U)) ?_);rintro O w1 v1 I r R V rfl;replace Qj:=Qj.cH (K:=[(w1.heap.size,I.heap.size)]) r U R fun x G=>aA _ G;replace SG:=SG.cH (K:=[(w1.heap.size,I.heap.size)]) r U R fun x G=>aA _ G;apply bS<;>intro h
   .have h:=(hcmp _ rfl).1 (aE h);obtain⟨Y,X⟩:=Tk h;refine cD (cM (If:=fun _ J v I=>dc I (Nf J I) v (x.natAbs-y.natAbs)) (fun O J r=>CF (rlo r U) (Qj.rel r U) (SG.rel r U) h be) ?_);rintro O w3 v3 w4 r R Rd Z;replace V:=V.tr Rd;have hN:=Z.iR (S:=FF) r.cR (iv:=(w3.heap.size,w4.heap.size)::[(w1.heap.size,I.heap.size)]) aI;have TM:=hN;obtain⟨p,rfl,QC,Pk⟩:=hN.la;have Pc:=eE p.lm Pk;rw[QC]at Pc;have UD:=uy Pc;have hd:decide ((p.ls.length:Int)>0)=decide (x.natAbs-y.natAbs≠0):=decide_eq_decide.2 be;intro J8 w5 r5;exact⟨_,rfl,V.tr r5.cN,_,by rw[X,<-hd];rfl,by rw[Y];exact TM.out r5 oF⟩
   .have h:x.natAbs<y.natAbs:=by
     have h0:=aC h;have:=hcmp _ rfl;omega
    obtain⟨Y,X⟩:=SU h;refine dP (idO 9) ?_;refine cM (If:=fun _ J v I=>dc I (Nf J I) v (y.natAbs-x.natAbs)) (fun O J r=>CF (rlo r U) (SG.rel r U) (Qj.rel r U) be be) ?_;rintro O w3 v3 w4 r R Rd Z;replace V:=V.tr Rd;have hN:=Z.iR (S:=FF) r.cR (iv:=(w3.heap.size,w4.heap.size)::[(w1.heap.size,I.heap.size)]) aI;obtain⟨a3,n3,c3,rfl⟩:=hN.shape;intro J8 w5 r5;exact⟨_,rfl,V.tr r5.cN,_,by rw[X];rfl,by rw[Y];exact hN.out r5 oF⟩
theorem gl(U:Old S w)(G:eF w S v x)(hy:eF w S u y)(OZ:ln x.natAbs<=100000000000)(PS:ln y.natAbs<=100000000000):
  eC PG Fn.kx #[v,u] w (eI w fun v' I=>eF I (Nf w I) v' (x*y)):=by
 obtain⟨nx,rfl,Qj⟩:=G;obtain⟨ny,rfl,SG⟩:=hy;obtain⟨ax,lx,cx,rfl⟩:=Qj.shape;obtain⟨ay,ly,cy,rfl⟩:=SG.shape;replace Qj:=Qj.arg [];replace SG:=SG.arg [];have QB:=Int.natAbs_mul x y;have Q3:decide (x*y<0)=((decide (x<0) != decide (y<0))&&decide (x.natAbs*y.natAbs≠0)):=by
  by_cases h0:x*y=0
  .rw[<-QB,h0];simp
  .have hx0:x≠0:=fun e=>h0 (by rw[e,Int.zero_mul]);have PL:y≠0:=fun e=>h0 (by rw[e,Int.mul_zero]);rw[<-QB,bc (show (x*y).natAbs≠0 by omega),Bool.and_true];by_cases Y:x<0<;>by_cases X:y<0
   .rw[bc Y,bc X];exact bL (by have:=Int.mul_pos_of_neg_of_neg Y X;omega)
   .rw[bc Y,bL X];exact bc (Int.mul_neg_of_neg_of_pos Y be)
   .rw[bL Y,bc X];exact bc (Int.mul_neg_of_pos_of_neg be X)
   .rw[bL Y,bL X];exact bL (by have:=Int.mul_nonneg (show 0<=x by omega) (show 0<=y by omega);omega)
 generalize decide (x<0)=bx at*
 generalize decide (y<0)=b2 at*
 refine oZ bv ?_;refine cD (cM (If:=fun _ J v I=>dc I (Nf J I) v (x.natAbs*y.natAbs)) (fun O J r=>Gi (rlo r U) (Qj.rel r U) (SG.rel r U) be be) ?_);rintro O w3 v3 w4 r R V Z;have hN:=Z.iR (S:=FF) r.cR (iv:=(w3.heap.size,w4.heap.size)::[]) aI;have TM:=hN;obtain⟨p,rfl,QC,Pk⟩:=hN.la;have Pc:=eE p.lm Pk;rw[QC]at Pc;have UD:=uy Pc;have hd:decide ((p.ls.length:Int)>0)=decide (x.natAbs*y.natAbs≠0):=decide_eq_decide.2 be
 cases bx<;>cases b2
 all_goals
  intro J8 w5 r5;exact⟨_,rfl,V.tr r5.cN,_,by rw[Q3,<-hd];rfl,by rw[QB];exact TM.out r5 oF⟩
theorem Jm(U:Old S w)(G:eF w S v x)(hy:eF w S u y)(OZ:ln x.natAbs<=100000000000)(PS:ln y.natAbs<=100000000000):
  eC PG Fn.mf #[v,u] w (eI w fun v' _=>v'=iV (x-y).sign):=by
 have hxN:eF w (Cv S w.heap.size []) v x:=G.cF fun _ h=>.inl h;have hyN:eF w (Cv S w.heap.size []) u y:=hy.cF fun _ h=>.inl h;obtain⟨nx,rfl,Qj⟩:=G;obtain⟨ny,rfl,SG⟩:=hy;obtain⟨ax,lx,cx,rfl⟩:=Qj.shape;obtain⟨ay,ly,cy,rfl⟩:=SG.shape;refine qa bv ?_;refine dP (idO 6) ?_;refine cM (If:=fun _ J v I=>eF I (Nw (Cv S w.heap.size []) J I) v (-y)) (fun O J r=>nu (rlo r U) (hyN.rel r U)) ?_;rintro O w1 v1 I r R V hm;have Ss:eF I (Cv S w.heap.size [(w1.heap.size,I.heap.size)]) v1 (-y):=hm.cF fun _ F=>Nw.cv F r.cR;replace hxN:=hxN.cH (K:=[(w1.heap.size,I.heap.size)]) r U R fun x G=>aA _ G;generalize [(w1.heap.size,I.heap.size)]=iv at*
 have hmN2:=Ss;obtain⟨am,lm,cm,rfl,-⟩:=Ss.num;refine cM (If:=fun _ J v I=>eF I (Nf J I) v (x+ -y)) (fun O J r=>BO (rlo r U) (hxN.rel r U) (hmN2.rel r U) OZ (by rw[Int.natAbs_neg];exact PS)) ?_;rintro O w3 v3 w4 r R Rd hp;replace V:=V.tr Rd;have hpN:=hp.iR (S:=S) r.cR (iv:=(w3.heap.size,w4.heap.size)::iv) aI;have hpN2:=hpN;obtain⟨ap,lp,cp,rfl,-⟩:=hpN.num;refine cM (If:=fun _ _ v _=>v=iV (x-y).sign) (fun O J r=>zV (hpN2.rel r U)) ?_;rintro O w5 v5 w6 r R hb6 rfl;replace V:=V.tr hb6;intro J9 w7 r7;exact⟨_,rfl,V.tr r7.cN,rfl⟩
theorem oB(n:Int)(w:World)(Y: -9223372036854775808<=n)(X:n<=9223372036854775807):
  eC PG Fn.vw #[iV n] w (eI w fun v' I=>eF I (Nf w I) v' n):=by
 have key:∀(m:Nat),m=n.natAbs->m<18446744073709551616/\val [m % 4294967296,m / 4294967296]=n.natAbs/\m / 4294967296<4294967296:=fun m e=>by
  refine⟨be,?_,be⟩;simp only[val]
  omega
 refine zG bv ?_;refine⟨if n<0 then n+18446744073709551616 else n,by show n % 18446744073709551616=_;split<;>omega,?_⟩;apply bS<;>intro h
 .have h:=aE h;rw[aH h];obtain⟨m,hm⟩:∃m,m=n.natAbs:=⟨_,rfl⟩
  obtain⟨k1,k2,k3⟩:=key m hm;refine⟨(m:Int),by show(0-(n+18446744073709551616)) % 18446744073709551616=_;omega,((m % 4294967296:Nat):Int),ei m,bi,((m / 2^32:Nat):Int),lF 32 bi,((m / 4294967296:Nat):Int),by rw[ei,bM be],?_⟩;refine gI (If:=fun O _ v I=>dF I (fun g=>g=(O 1).g) v (db [m % 4294967296,m / 4294967296])) (H':=[(0,.box T.number [.v (.bool false),.v nls])]) 1 rfl bv ⟨rfl,trivial⟩ rfl (fun O J r=>r.nn 1 _ rfl (by intros;simp) bv) (fun O J r=>?_) ?_
  .have hL:=r.td (id:=1) (ls:=[m % 4294967296,m / 4294967296]) rfl (by intro x G;simp at G;omega) bv;exact fG (fun g F=>by rw[F];exact(r.low 1 _ rfl (r.nn 1 _ rfl (by intros;simp) bv)).2) hL
  rintro O w1 v1 I r R V hL;have Ov:=r.low 1 _ rfl (r.nn 1 _ rfl (by intros;simp) bv);have hs:=R.size;generalize (O 1).g=g0 at*
  have hN:dc I (Cf w [(g0,g0+1),(w1.heap.size,I.heap.size)]) v1 n.natAbs:=by
   have:=hL.trimmed;rw[k2]at this;exact this.cF fun k E=>.inr ⟨be,g0,g0+1,bv,be,be⟩
  generalize [(g0,g0+1),(w1.heap.size,I.heap.size)]=iv at*
  obtain⟨a3,n3,c3,rfl⟩:=hN.shape;intro J8 w5 r5;exact⟨_,rfl,V.tr r5.cN,_,rfl,hN.out r5 oF⟩
 .have h:=aC h;rw[aF h];obtain⟨m,hm⟩:∃m,m=n.natAbs:=⟨_,rfl⟩
  obtain⟨k1,k2,k3⟩:=key m hm;have RH:n=(m:Int):=by omega
  refine⟨((m % 4294967296:Nat):Int),by rw[RH];exact ei m,bi,((m / 2^32:Nat):Int),by rw[RH];exact lF 32 bi,((m / 4294967296:Nat):Int),by rw[ei,bM be],?_⟩;refine gI (If:=fun O _ v I=>dF I (fun g=>g=(O 1).g) v (db [m % 4294967296,m / 4294967296])) (H':=[(0,.box T.number [.v (.bool false),.v nls])]) 1 rfl bv ⟨rfl,trivial⟩ rfl (fun O J r=>r.nn 1 _ rfl (by intros;simp) bv) (fun O J r=>?_) ?_
  .have hL:=r.td (id:=1) (ls:=[m % 4294967296,m / 4294967296]) rfl (by intro x G;simp at G;omega) bv;exact fG (fun g F=>by rw[F];exact(r.low 1 _ rfl (r.nn 1 _ rfl (by intros;simp) bv)).2) hL
  rintro O w1 v1 I r R V hL;have Ov:=r.low 1 _ rfl (r.nn 1 _ rfl (by intros;simp) bv);have hs:=R.size;generalize (O 1).g=g0 at*
  have hN:dc I (Cf w [(g0,g0+1),(w1.heap.size,I.heap.size)]) v1 n.natAbs:=by
   have:=hL.trimmed;rw[k2]at this;exact this.cF fun k E=>.inr ⟨be,g0,g0+1,bv,be,be⟩
  generalize [(g0,g0+1),(w1.heap.size,I.heap.size)]=iv at*
  obtain⟨a3,n3,c3,rfl⟩:=hN.shape;intro J8 w5 r5;exact⟨_,rfl,V.tr r5.cN,_,rfl,hN.out r5 oF⟩
def jR(w:World)(S:Nat->Prop)(v:Value)(z:Int):Prop:=∃neg ls,tm w S v neg ls/\sg neg (val ls)=z
def dK(w:World)(S:Nat->Prop)(v:Value)(z:Int):Prop:=∃ls,tm w S v (decide (z<0)) ls/\Nz ls/\val ls=z.natAbs
theorem BQ(z:Int):sg (decide (z<0)) z.natAbs=z:=by
 by_cases h:z<0
 .rw[bc h,Jj];omega
 .rw[bL h,M3];omega
theorem dK.r(h:dK w S v z):jR w S v z:=by
 obtain⟨ls,Y,X,N⟩:=h;exact⟨_,ls,Y,by rw[N,BQ]⟩
section
variable{S S':Nat->Prop}{H:Hp}{nx:Nat}{iv K:Iv}{B:Nat}{w J I:World}{O:Nat->Sx.da}{v:Value}{z:Int}{neg:Bool}{ls:List Nat}
theorem tm.cK(h:tm w S v neg ls)(E:∀g,S g->I.heap[g]? =w.heap[g]?):tm I S v neg ls:=by
 obtain⟨lv,Y,X⟩:=h;exact⟨lv,Y,X.cK E⟩
theorem tm.cF(h:tm w S v neg ls)(E:∀g,S g->S' g):tm w S' v neg ls:=by
 obtain⟨lv,Y,X⟩:=h;exact⟨lv,Y,X.cF E⟩
theorem jR.cK(h:jR w S v z)(E:∀g,S g->I.heap[g]? =w.heap[g]?):jR I S v z:=by
 obtain⟨n,l,Y,X⟩:=h;exact⟨n,l,Y.cK E,X⟩
theorem jR.cF(h:jR w S v z)(E:∀g,S g->S' g):jR w S' v z:=by
 obtain⟨n,l,Y,X⟩:=h;exact⟨n,l,Y.cF E,X⟩
theorem dK.cK(h:dK w S v z)(E:∀g,S g->I.heap[g]? =w.heap[g]?):dK I S v z:=by
 obtain⟨l,Y,X⟩:=h;exact⟨l,Y.cK E,X⟩
theorem dK.cF(h:dK w S v z)(E:∀g,S g->S' g):dK w S' v z:=by
 obtain⟨l,Y,X⟩:=h;exact⟨l,Y.cF E,X⟩
theorem jR.rel(h:jR w (Cv S B iv) v z)(r:Rel H nx iv B w O J)(U:∀g,S g->g<B):jR J (Cv S B iv) v z:=h.cK fun _ F=>rls r U F
theorem dK.rel(h:dK w (Cv S B iv) v z)(r:Rel H nx iv B w O J)(U:∀g,S g->g<B):dK J (Cv S B iv) v z:=h.cK fun _ F=>rls r U F
theorem jR.cH(h:jR w (Cv S B iv) v z)(r:Rel H nx iv B w O J)(U:∀g,S g->g<B)(R:Ext J I)(hm:∀p,p∈iv->p∈K):jR I (Cv S B K) v z:=
 ((h.rel r U).cK fun g F=>R.block g (rlo r U g F)).cF fun _ F=>F.mono hm
theorem dK.cH(h:dK w (Cv S B iv) v z)(r:Rel H nx iv B w O J)(U:∀g,S g->g<B)(R:Ext J I)(hm:∀p,p∈iv->p∈K):dK I (Cv S B K) v z:=
 ((h.rel r U).cK fun g F=>R.block g (rlo r U g F)).cF fun _ F=>F.mono hm
theorem dK.iR(h:dK I (Nf J I) v z)(hB:B<=J.heap.size)(hm:(J.heap.size,I.heap.size)∈iv):dK I (Cv S B iv) v z:=h.cF fun _ F=>F.iR hB hm
theorem jR.shape(h:jR w S v z):∃b a n c,v= .agg #[.bool b,.slice a n c]:=by
 obtain⟨b,l,⟨lv,Y,X⟩,_⟩:=h;obtain⟨a,n,c,rfl⟩:=X.shape;exact⟨b,a,n,c,Y⟩
theorem eF.old(h:eF I (Nw (Cv S B iv) J I) v z)(hB:B<=J.heap.size):eF I (Cv S B ((J.heap.size,I.heap.size)::iv)) v z:=h.cF fun _ F=>Nw.cv F hB
end
theorem dK.out(h:dK w1 (Cv S w.heap.size iv) v z)(r:Rel H nx iv w.heap.size w1 O J)(U:Old S w):dK J (Nw S w J) v z:=
 (h.rel r U).cF fun _ F=>Cv.nw F r
theorem Jq(U:Old S w)(h:jR w S v z):eC PG Fn.yl #[v] w (eI w fun v' I=>eF I (Nw S w I) v' z):=by
 obtain⟨n,l,Y,rfl⟩:=h;exact Nh U Y
theorem eF.shape(h:eF w S v z):∃b a n c,v= .agg #[.bool b,.slice a n c]:=by
 obtain⟨a,n,c,Y,_⟩:=h.num;exact⟨_,a,n,c,Y⟩
theorem dK.shape(h:dK w S v z):∃b a n c,v= .agg #[.bool b,.slice a n c]:=h.r.shape
theorem dm(x y:Int):ln (x*y).natAbs<=ln x.natAbs+ln y.natAbs:=by
 rw[Int.natAbs_mul];exact MC _ _
end Go.Ex
namespace Go.Ex
open Go Go.Sx
theorem yH{x y:Int}(hy:0<y)(G:x≠0):
  (Rat.divInt x y).num.natAbs=x.natAbs / Nat.gcd x.natAbs y.natAbs/\(Rat.divInt x y).den=y.natAbs / Nat.gcd x.natAbs y.natAbs/\decide ((Rat.divInt x y).num<0)=decide (x<0):=by
 have F:0<Nat.gcd x.natAbs y.natAbs:=bq _ be;have hs:y.sign=1:=bp hy;have hc:(y.gcd x:Int)=(Nat.gcd x.natAbs y.natAbs:Nat):=by rw[Int.gcd_comm];rfl
 have hdx:((Nat.gcd x.natAbs y.natAbs:Nat):Int) ∣ x:=by
  rw[<-Int.natAbs_dvd_natAbs];exact Nat.gcd_dvd_left _ _
 have Y:(Rat.divInt x y).num=x / ((Nat.gcd x.natAbs y.natAbs:Nat):Int):=by
  rw[Rat.num_divInt,hs,Int.one_mul,hc]
 have hgi:0<((Nat.gcd x.natAbs y.natAbs:Nat):Int):=by omega
 refine⟨?_,?_,?_⟩
 .rw[Y,Int.natAbs_ediv_of_dvd hdx];rfl
 .rw[Rat.den_divInt,aF be];have:y.gcd x=Nat.gcd x.natAbs y.natAbs:=by rw[Int.gcd_comm];rfl
  rw[this]
 .rw[Y];obtain⟨k,E⟩:=hdx;refine decide_eq_decide.2 ?_;have:x / ((Nat.gcd x.natAbs y.natAbs:Nat):Int)=k:=by
   conv=>lhs;lhs;rw[E]
   exact Int.mul_ediv_cancel_left _ be
  rw[this];generalize ((Nat.gcd x.natAbs y.natAbs:Nat):Int)=g at*
  subst E;constructor
  .intro h;exact Int.mul_neg_of_pos_of_neg hgi h
  .intro h;have h0:¬0<=k:=fun hh=>by have:=Int.mul_nonneg (show 0<=g by omega) hh;omega
   omega
theorem HZ{a b:Nat}:ln (a / b)<=ln a:=fA (Nat.div_le_self a b)
theorem yI(y:Int):Rat.divInt 0 y=0:=Rat.zero_divInt y
end Go.Ex
namespace Go.Ex
open Go Go.Sx Go.Proofs
variable{b b2:Bool}{S:Nat->Prop}{q:Rat}{dv nv v:Value}{w:World}
theorem dc.old{B:Nat}{iv:Iv}{J I:World}{n:Nat}(h:dc I (Nw (Cv S B iv) J I) v n)(hB:B<=J.heap.size):dc I (Cv S B ((J.heap.size,I.heap.size)::iv)) v n:=h.cF fun _ F=>Nw.cv F hB
def dM(w:World)(S:Nat->Prop)(v:Value)(q:Rat):Prop:=∃nv dv,v= .agg #[.bool (decide (q.num<0)),nv,.bool false,dv]/\dc w S nv q.num.natAbs/\dc w S dv q.den
theorem dM.cK{I:World}(h:dM w S v q)(E:∀g,S g->I.heap[g]? =w.heap[g]?):dM I S v q:=by
 obtain⟨n,d,Y,X,N⟩:=h;exact⟨n,d,Y,X.cK E,N.cK E⟩
theorem dM.cF{S':Nat->Prop}(h:dM w S v q)(E:∀g,S g->S' g):dM w S' v q:=by
 obtain⟨n,d,Y,X,N⟩:=h;exact⟨n,d,Y,X.cF E,N.cF E⟩
theorem dM.shape(h:dM w S v q):∃b a n c b2 a2 n2 c2,v= .agg #[.bool b,.slice a n c,.bool b2,.slice a2 n2 c2]:=by
 obtain⟨n,d,Y,X,N⟩:=h;obtain⟨a,n,c,rfl⟩:=X.shape;obtain⟨a2,n2,c2,rfl⟩:=N.shape;exact⟨_,a,n,c,_,a2,n2,c2,Y⟩
theorem dM.num(h:dM w S (.agg #[.bool b,nv,.bool b2,dv]) q):eF w S (.agg #[.bool b,nv]) q.num:=by
 obtain⟨n,d,Y,X,N⟩:=h;simp at Y;obtain⟨rfl,rfl,rfl,rfl⟩:=Y;exact⟨_,rfl,X⟩
theorem dM.den(h:dM w S (.agg #[.bool b,nv,.bool b2,dv]) q):eF w S (.agg #[.bool b2,dv]) (q.den:Int):=by
 obtain⟨n,d,Y,X,N⟩:=h;simp at Y;obtain⟨rfl,rfl,rfl,rfl⟩:=Y;exact⟨_,by rw[bL be],N⟩
theorem dM.of(h:eF w S (.agg #[.bool b,nv]) q.num)(k:eF w S (.agg #[.bool b2,dv]) (q.den:Int)):dM w S (.agg #[.bool b,nv,.bool b2,dv]) q:=by
 obtain⟨n,Y,X⟩:=h;obtain⟨d,N,h4⟩:=k;simp at Y N;obtain⟨rfl,rfl⟩:=Y;obtain⟨rfl,rfl⟩:=N;refine⟨_,_,?_,X,h4⟩;rw[bL (show ¬((q.den:Int)<0) by omega)]
section
variable{S S':Nat->Prop}{H:Hp}{nx:Nat}{iv K:Iv}{B:Nat}{w J I:World}{O:Nat->Sx.da}{v:Value}{q:Rat}
theorem dM.rel(h:dM w (Cv S B iv) v q)(r:Rel H nx iv B w O J)(U:∀g,S g->g<B):dM J (Cv S B iv) v q:=h.cK fun _ F=>rls r U F
theorem dM.cH(h:dM w (Cv S B iv) v q)(r:Rel H nx iv B w O J)(U:∀g,S g->g<B)(R:Ext J I)(hm:∀p,p∈iv->p∈K):dM I (Cv S B K) v q:=
 ((h.rel r U).cK fun g F=>R.block g (rlo r U g F)).cF fun _ F=>F.mono hm
theorem dM.iR(h:dM I (Nf J I) v q)(hB:B<=J.heap.size)(hm:(J.heap.size,I.heap.size)∈iv):dM I (Cv S B iv) v q:=h.cF fun _ F=>F.iR hB hm
theorem dM.old(h:dM I (Nw (Cv S B iv) J I) v q)(hB:B<=J.heap.size):dM I (Cv S B ((J.heap.size,I.heap.size)::iv)) v q:=h.cF fun _ F=>Nw.cv F hB
theorem dM.out{w0 w1:World}(h:dM w1 (Cv S w0.heap.size iv) v q)(r:Rel H nx iv w0.heap.size w1 O J)(U:Old S w0):dM J (Nw S w0 J) v q:=
 (h.rel r U).cF fun _ F=>Cv.nw F r
end
theorem eF.nat{z:Int}(h:eF w S (.agg #[.bool b,nv]) z):b=decide (z<0)/\dc w S nv z.natAbs:=by
 obtain⟨n,Y,X⟩:=h;simp at Y;obtain⟨rfl,rfl⟩:=Y;exact⟨rfl,X⟩
theorem vA{u:Value}{x y:Int}(U:Old S w)(G:eF w S v x)(hy:eF w S u y)(PL:y≠0)(OZ:ln x.natAbs<=100000000000)(PS:ln y.natAbs<=100000000000):
  eC PG Fn.yh #[v,u] w (eI w fun v' I=>dM I (Nf w I) v' (Rat.divInt x y)):=by
 have V:=bR w;replace G:=G.cF (S':=Cv S w.heap.size []) fun _ h=>.inl h;replace hy:=hy.cF (S':=Cv S w.heap.size []) fun _ h=>.inl h;obtain⟨bx,ax,lx,cx,rfl⟩:=G.shape;obtain⟨b2,ay,ly,cy,rfl⟩:=hy.shape;have QP:=hy.nat.1;refine zz bv ?_
 cases b2
 .have hyp:0<y:=by have:=aC QP.symm;omega
  have hq:Rat.divInt x y=Rat.divInt x y:=rfl;have hbA:=G.nat.1;refine cD (cE V (pE (iV (x).sign)) (fun O J r=>zV (G.rel r U)) ?_);rintro O Ph v1 Pa OK r R V h_ rfl;replace G:=G.cH r U R (mC h_);replace hy:=hy.cH r U R (mC h_);apply bS<;>intro h
  .have h:x=0:=Int.sign_eq_zero_iff_zero.1 (eq_of_beq h);refine cD (cE V (pR eF 1) (fun O J r=>oB 1 J bi bi) ?_);rintro O QT v2 PO OH r R V h_ Z;have hO:=Z.cF (nw r h_);obtain⟨A0,A1,A2,A3,rfl⟩:=hO.shape;have e0:Rat.divInt x y=0:=by rw[hq,h,yI]
   exact rtn V fun GT we re=>by rw[e0];exact dM.of ⟨_,rfl,dc.nil _ _⟩ (hO.out re oF)
  .have h:x≠0:=fun e=>by rw[e]at h;exact absurd h bi
   obtain⟨g1,g2,g3⟩:=yH hyp h;have SJ:0<Nat.gcd (x).natAbs (y).natAbs:=bq _ be;have Um:=G.nat.2;have TB:=hy.nat.2;refine cD (cM (If:=fun _ J v I=>dc I (Nw (Cv S w.heap.size OK) J I) v (Nat.gcd (x).natAbs (y).natAbs)) (fun O J r=>Dx (rlo r U) (Um.rel r U) (TB.rel r U) be be) ?_);rintro O QT v2 PO r R hb Z;replace V:=V.tr hb;replace Um:=Um.cH (K:=(QT.heap.size,PO.heap.size)::OK) r U R fun x G=>aA _ G;replace TB:=TB.cH (K:=(QT.heap.size,PO.heap.size)::OK) r U R fun x G=>aA _ G;have hG:=Z.old r.cR;generalize (QT.heap.size,PO.heap.size)::OK=OH at*
   obtain⟨A0,A1,A2,rfl⟩:=hG.shape;refine cD (cM (If:=fun _ J v I=>∃q r,v= .tuple #[q,r]/\dc I (Nf J I) q ((x).natAbs / Nat.gcd (x).natAbs (y).natAbs)/\dc I (Nw (Cv S w.heap.size OH) J I) r ((x).natAbs % Nat.gcd (x).natAbs (y).natAbs)) (fun O J r=>pc (rlo r U) (Um.rel r U) (hG.rel r U) SJ be) ?_);rintro O Pm v3 Pg r R hb ⟨qvp,rvp,rfl,Qf,SA⟩;replace V:=V.tr hb;replace TB:=TB.cH (K:=(Pm.heap.size,Pg.heap.size)::OH) r U R fun x G=>aA _ G;replace hG:=hG.cH (K:=(Pm.heap.size,Pg.heap.size)::OH) r U R fun x G=>aA _ G;have hP:=Qf.iR (S:=FF) r.cR (iv:=(Pm.heap.size,Pg.heap.size)::OH) aI;have hPr:=SA.old r.cR;generalize (Pm.heap.size,Pg.heap.size)::OH=OW at*
   obtain⟨s3_0a,s3_0b,s3_0c,rfl⟩:=hP.shape;obtain⟨s3_1a,s3_1b,s3_1c,rfl⟩:=hPr.shape;refine cD (cM (If:=fun _ J v I=>∃q r,v= .tuple #[q,r]/\dc I (Nf J I) q ((y).natAbs / Nat.gcd (x).natAbs (y).natAbs)/\dc I (Nw (Cv S w.heap.size OW) J I) r ((y).natAbs % Nat.gcd (x).natAbs (y).natAbs)) (fun O J r=>pc (rlo r U) (TB.rel r U) (hG.rel r U) SJ be) ?_);rintro O RA v4 Qi r R hb ⟨qvq,rvq,rfl,Qf,SA⟩;replace V:=V.tr hb;replace hP:=hP.cH (K:=(RA.heap.size,Qi.heap.size)::OW) r oF R fun x G=>aA _ G;have hQ:=Qf.iR (S:=FF) r.cR (iv:=(RA.heap.size,Qi.heap.size)::OW) aI;have hQr:=SA.old r.cR;generalize (RA.heap.size,Qi.heap.size)::OW=Ow at*
   obtain⟨s4_0a,s4_0b,s4_0c,rfl⟩:=hQ.shape;obtain⟨s4_1a,s4_1b,s4_1c,rfl⟩:=hQr.shape;exact rtn V fun GT we re=>by rw[hq];exact dM.of ⟨_,by rw[g3,<-hbA],by rw[g1];exact hP.out re oF⟩ ⟨_,by rw[bL be],by rw[g2];exact hQ.out re oF⟩
 .have hyp:0< -y:=by have:=aE QP.symm;omega
  have hq:Rat.divInt x y=Rat.divInt (-x) (-y):=(Rat.neg_divInt_neg _ _).symm;have nx:=Int.natAbs_neg x;have ny:=Int.natAbs_neg y;have hlx2:ln (-x).natAbs<=100000000000:=by rw[nx];exact OZ
  have hly2:ln (-y).natAbs<=100000000000:=by rw[ny];exact PS
  refine dP [.x 0,.x 2,.x 1,.x 3,.x 4,.x 5] ?_;refine cM (If:=fun _ J v I=>eF I (Nw (Cv S w.heap.size []) J I) v (-x)) (fun O J r=>nu (rlo r U) (G.rel r U)) ?_;rintro O Ph v1 Pa r R hb Z;replace V:=V.tr hb;replace hy:=hy.cH (K:=(Ph.heap.size,Pa.heap.size)::[]) r U R fun x G=>aA _ G;have hA:=Z.old r.cR;generalize (Ph.heap.size,Pa.heap.size)::[]=OK at*
  obtain⟨C0,C1,C2,C3,rfl⟩:=hA.shape;refine cM (If:=fun _ J v I=>eF I (Nw (Cv S w.heap.size OK) J I) v (-y)) (fun O J r=>nu (rlo r U) (hy.rel r U)) ?_;rintro O QT v2 PO r R hb Z;replace V:=V.tr hb;replace hA:=hA.cH (K:=(QT.heap.size,PO.heap.size)::OK) r U R fun x G=>aA _ G;have hB:=Z.old r.cR;generalize (QT.heap.size,PO.heap.size)::OK=OH at*
  obtain⟨A0,A1,A2,A3,rfl⟩:=hB.shape;have hbA:=hA.nat.1;refine cD (cE V (pE (iV (-x).sign)) (fun O J r=>zV (hA.rel r U)) ?_);rintro O _ _ _ OW r R V h_ rfl;replace hA:=hA.cH r U R (mC h_);replace hB:=hB.cH r U R (mC h_);apply bS<;>intro h
  .have h: -x=0:=Int.sign_eq_zero_iff_zero.1 (eq_of_beq h);refine cD (cE V (pR eF 1) (fun O J r=>oB 1 J bi bi) ?_);rintro O RA v4 Qi Ow r R V h_ Z;have hO:=Z.cF (nw r h_);obtain⟨E0,E1,E2,E3,rfl⟩:=hO.shape;have e0:Rat.divInt x y=0:=by rw[hq,h,yI]
   exact rtn V fun GT we re=>by rw[e0];exact dM.of ⟨_,rfl,dc.nil _ _⟩ (hO.out re oF)
  .have h: -x≠0:=fun e=>by rw[e]at h;exact absurd h bi
   obtain⟨g1,g2,g3⟩:=yH hyp h;have SJ:0<Nat.gcd (-x).natAbs (-y).natAbs:=bq _ be;have Um:=hA.nat.2;have TB:=hB.nat.2;refine cD (cM (If:=fun _ J v I=>dc I (Nw (Cv S w.heap.size OW) J I) v (Nat.gcd (-x).natAbs (-y).natAbs)) (fun O J r=>Dx (rlo r U) (Um.rel r U) (TB.rel r U) be be) ?_);rintro O RA v4 Qi r R hb Z;replace V:=V.tr hb;replace Um:=Um.cH (K:=(RA.heap.size,Qi.heap.size)::OW) r U R fun x G=>aA _ G;replace TB:=TB.cH (K:=(RA.heap.size,Qi.heap.size)::OW) r U R fun x G=>aA _ G;have hG:=Z.old r.cR;generalize (RA.heap.size,Qi.heap.size)::OW=Ow at*
   obtain⟨E0,E1,E2,rfl⟩:=hG.shape;refine cD (cM (If:=fun _ J v I=>∃q r,v= .tuple #[q,r]/\dc I (Nf J I) q ((-x).natAbs / Nat.gcd (-x).natAbs (-y).natAbs)/\dc I (Nw (Cv S w.heap.size Ow) J I) r ((-x).natAbs % Nat.gcd (-x).natAbs (-y).natAbs)) (fun O J r=>pc (rlo r U) (Um.rel r U) (hG.rel r U) SJ be) ?_);rintro O Rr v5 SH r R hb ⟨qvp,rvp,rfl,Qf,SA⟩;replace V:=V.tr hb;replace TB:=TB.cH (K:=(Rr.heap.size,SH.heap.size)::Ow) r U R fun x G=>aA _ G;replace hG:=hG.cH (K:=(Rr.heap.size,SH.heap.size)::Ow) r U R fun x G=>aA _ G;have hP:=Qf.iR (S:=FF) r.cR (iv:=(Rr.heap.size,SH.heap.size)::Ow) aI;have hPr:=SA.old r.cR;generalize (Rr.heap.size,SH.heap.size)::Ow=Qg at*
   obtain⟨s5_0a,s5_0b,s5_0c,rfl⟩:=hP.shape;obtain⟨s5_1a,s5_1b,s5_1c,rfl⟩:=hPr.shape;refine cD (cM (If:=fun _ J v I=>∃q r,v= .tuple #[q,r]/\dc I (Nf J I) q ((-y).natAbs / Nat.gcd (-x).natAbs (-y).natAbs)/\dc I (Nw (Cv S w.heap.size Qg) J I) r ((-y).natAbs % Nat.gcd (-x).natAbs (-y).natAbs)) (fun O J r=>pc (rlo r U) (TB.rel r U) (hG.rel r U) SJ be) ?_);rintro O SI v6 SX r R hb ⟨qvq,rvq,rfl,Qf,SA⟩;replace V:=V.tr hb;replace hP:=hP.cH (K:=(SI.heap.size,SX.heap.size)::Qg) r oF R fun x G=>aA _ G;have hQ:=Qf.iR (S:=FF) r.cR (iv:=(SI.heap.size,SX.heap.size)::Qg) aI;have hQr:=SA.old r.cR;generalize (SI.heap.size,SX.heap.size)::Qg=SY at*
   obtain⟨s6_0a,s6_0b,s6_0c,rfl⟩:=hQ.shape;obtain⟨s6_1a,s6_1b,s6_1c,rfl⟩:=hQr.shape;exact rtn V fun GT we re=>by rw[hq];exact dM.of ⟨_,by rw[g3,<-hbA],by rw[g1];exact hP.out re oF⟩ ⟨_,by rw[bL be],by rw[g2];exact hQ.out re oF⟩
end Go.Ex
namespace Go.Ex
open Go Go.Sx
variable{a b:Int}
def rl(q:Rat):Nat:=max (ln q.num.natAbs) (ln q.den)
theorem iA(q:Rat):ln q.num.natAbs<=rl q:=Nat.le_max_left _ _
theorem ML(q:Rat):ln q.den<=rl q:=Nat.le_max_right _ _
theorem gE(q:Rat):ln ((q.den:Int)).natAbs<=rl q:=Nat.le_max_right _ _
theorem j8(hb:b≠0):rl (Rat.divInt a b)<=max (ln a.natAbs) (ln b.natAbs):=by
 have Y:ln (Rat.divInt a b).num.natAbs<=ln a.natAbs:=by
  rw[Rat.num_divInt];refine fA (bB (Int.natAbs_ediv_le_natAbs _ _) ?_);rw[Int.natAbs_mul,Int.natAbs_sign_of_ne_zero hb,Nat.one_mul];exact aN _
 have X:ln (Rat.divInt a b).den<=ln b.natAbs:=by
  rw[Rat.den_divInt,aF hb];exact HZ
 unfold rl;omega
theorem nU(x y:Int):ln (x+y).natAbs<=max (ln x.natAbs) (ln y.natAbs)+1:=by
 have Y:=MB x.natAbs y.natAbs;have X:=fA (show (x+y).natAbs<=x.natAbs+y.natAbs by omega);omega
theorem ja(q:Rat):(q.den:Int)≠0:=by have:=q.den_pos;omega
theorem Bn(f g:Rat):f+g=Rat.divInt (f.num*g.den+g.num*f.den) (f.den*g.den):=by
 rw[<-Rat.divInt_add_divInt _ _ (ja f) (ja g),Rat.num_divInt_den,Rat.num_divInt_den]
theorem GX(f g:Rat):f*g=Rat.divInt (f.num*g.num) (f.den*g.den):=by
 rw[<-Rat.divInt_mul_divInt,Rat.num_divInt_den,Rat.num_divInt_den]
theorem GY(f g:Rat):f / g=Rat.divInt (f.num*g.den) (f.den*g.num):=by
 rw[<-Rat.divInt_mul_divInt,Rat.num_divInt_den,<-Rat.inv_def,<-bo]
theorem uV(ha:a≠0)(hb:b≠0):a*b≠0:=Int.mul_ne_zero ha hb
theorem oy(f g:Rat):rl (f+g)<=rl f+rl g+1:=by
 have h:=j8 (a:=f.num*g.den+g.num*f.den) (uV (ja f) (ja g));rw[<-Bn]at h;have Y:=nU (f.num*g.den) (g.num*f.den);have X:=dm f.num g.den;have N:=dm g.num f.den;have h4:=dm f.den g.den;have:=iA f;have:=iA g;have:=gE f;have:=gE g;omega
theorem jy(f g:Rat):rl (f*g)<=rl f+rl g:=by
 have h:=j8 (a:=f.num*g.num) (uV (ja f) (ja g));rw[<-GX]at h;have X:=dm f.num g.num;have h4:=dm f.den g.den;have:=iA f;have:=iA g;have:=gE f;have:=gE g;omega
theorem MP(f:Rat){g:Rat}(F:g≠0):rl (f / g)<=rl f+rl g:=by
 have h:=j8 (a:=f.num*g.den) (uV (ja f) (fun e=>F (Rat.num_eq_zero.1 e)));rw[<-GY]at h;have X:=dm f.num g.den;have h4:=dm f.den g.num;have:=iA f;have:=iA g;have:=gE f;have:=gE g;omega
theorem uW(f:Rat):rl (-f)=rl f:=by unfold rl;rw[Rat.neg_num,Rat.neg_den,Int.natAbs_neg]
theorem yZ(f g:Rat):rl (f-g)<=rl f+rl g+1:=by
 rw[Rat.sub_eq_add_neg];have:=oy f (-g);rw[uW]at this;exact this
def rs(q:Rat):Int:=q.num.sign
theorem ss(hb:0<b):(Rat.divInt a b).num.sign=a.sign:=by
 by_cases ha:a=0
 .subst ha;rw[yI];rfl
 .obtain⟨Y,-,N⟩:=yH hb ha;have N:=decide_eq_decide.1 N;have h0:(Rat.divInt a b).num≠0:=fun e=>by
   have h4:=Nat.div_pos (Nat.le_of_dvd be (Nat.gcd_dvd_left a.natAbs b.natAbs)) (bq a.natAbs (n:=b.natAbs) be);omega
  rcases Int.lt_or_gt_of_ne ha with h|h
  .rw[bj h,bj (N.2 h)]
  .rw[bp h,bp be]
theorem Kp(f g:Rat):(f.num*g.den-g.num*f.den).sign=rs (f-g):=by
 rw[rs,Rat.sub_eq_add_neg,Bn,ss (Int.mul_pos (by have:=f.den_pos;omega) (by rw[Rat.neg_den];have:=g.den_pos;omega)),Rat.neg_num,Rat.neg_den,Int.neg_mul,<-Int.sub_eq_add_neg]
def ratio(a b:Int):Rat:=if b=0 then Rat.divInt a 1 else Rat.divInt a b
theorem gn(a b:Int):rl (ratio a b)<=max (ln a.natAbs) (max 1 (ln b.natAbs)):=by
 unfold ratio;split
 .have:=j8 (a:=a) (b:=1) bi;have Y:ln (1:Int).natAbs=1:=by decide
  rw[Y]at this;omega
 .rename_i h;have:=j8 (a:=a) h;omega
end Go.Ex
namespace Go.Ex
open Go Go.Sx Go.Proofs
variable{b b2:Bool}{x y:Int}{xs:List Value}{n sz:Nat}{S S':Nat->Prop}{f g q:Rat}{dv nv u v:Value}{w I:World}
def iC(w:World)(S:Nat->Prop)(v:Value)(a b:Int):Prop:=∃b1 l1 b2 l2,v= .agg #[.bool b1,l1,.bool b2,l2]/\jR w S (.agg #[.bool b1,l1]) a/\jR w S (.agg #[.bool b2,l2]) b
theorem iC.cK{a b:Int}(h:iC w S v a b)(E:∀g,S g->I.heap[g]? =w.heap[g]?):iC I S v a b:=by
 obtain⟨b1,l1,b2,l2,Y,X,N⟩:=h;exact⟨b1,l1,b2,l2,Y,X.cK E,N.cK E⟩
theorem iC.cF{a b:Int}(h:iC w S v a b)(E:∀g,S g->S' g):iC w S' v a b:=by
 obtain⟨b1,l1,b2,l2,Y,X,N⟩:=h;exact⟨b1,l1,b2,l2,Y,X.cF E,N.cF E⟩
theorem iC.shape(h:iC w S v x y):∃b a n c b2 a2 n2 c2,v= .agg #[.bool b,.slice a n c,.bool b2,.slice a2 n2 c2]:=by
 obtain⟨b1,l1,b2,l2,Y,X,N⟩:=h;obtain⟨_,a,n,c,h4⟩:=X.shape;obtain⟨_,a2,n2,c2,h5⟩:=N.shape;simp at h4 h5;obtain⟨rfl,rfl⟩:=h4;obtain⟨rfl,rfl⟩:=h5;exact⟨_,a,n,c,_,a2,n2,c2,Y⟩
theorem iC.num(h:iC w S (.agg #[.bool b,nv,.bool b2,dv]) x y):jR w S (.agg #[.bool b,nv]) x:=by
 obtain⟨b1,l1,b2,l2,Y,X,N⟩:=h;simp at Y;obtain⟨rfl,rfl,rfl,rfl⟩:=Y;exact X
theorem iC.den(h:iC w S (.agg #[.bool b,nv,.bool b2,dv]) x y):jR w S (.agg #[.bool b2,dv]) y:=by
 obtain⟨b1,l1,b2,l2,Y,X,N⟩:=h;simp at Y;obtain⟨rfl,rfl,rfl,rfl⟩:=Y;exact N
section
variable{S S':Nat->Prop}{H:Hp}{nx:Nat}{iv K:Iv}{B:Nat}{w J I:World}{O:Nat->Sx.da}{v:Value}{x y:Int}
theorem iC.rel(h:iC w (Cv S B iv) v x y)(r:Rel H nx iv B w O J)(U:∀g,S g->g<B):iC J (Cv S B iv) v x y:=h.cK fun _ F=>rls r U F
theorem iC.cH(h:iC w (Cv S B iv) v x y)(r:Rel H nx iv B w O J)(U:∀g,S g->g<B)(R:Ext J I)(hm:∀p,p∈iv->p∈K):iC I (Cv S B K) v x y:=
 ((h.rel r U).cK fun g F=>R.block g (rlo r U g F)).cF fun _ F=>F.mono hm
end
def cY(w:World)(S:Nat->Prop)(v:Value)(q:Rat):Prop:=∃b1 l1 b2 l2,v= .agg #[.bool b1,l1,.bool b2,l2]/\dK w S (.agg #[.bool b1,l1]) q.num/\dK w S (.agg #[.bool b2,l2]) q.den
theorem cY.cK(h:cY w S v q)(E:∀g,S g->I.heap[g]? =w.heap[g]?):cY I S v q:=by
 obtain⟨b1,l1,b2,l2,Y,X,N⟩:=h;exact⟨b1,l1,b2,l2,Y,X.cK E,N.cK E⟩
theorem cY.cF(h:cY w S v q)(E:∀g,S g->S' g):cY w S' v q:=by
 obtain⟨b1,l1,b2,l2,Y,X,N⟩:=h;exact⟨b1,l1,b2,l2,Y,X.cF E,N.cF E⟩
theorem cY.r(h:cY w S v q):iC w S v q.num q.den:=by
 obtain⟨b1,l1,b2,l2,Y,X,N⟩:=h;exact⟨b1,l1,b2,l2,Y,X.r,N.r⟩
theorem cY.shape(h:cY w S v q):∃b a n c b2 a2 n2 c2,v= .agg #[.bool b,.slice a n c,.bool b2,.slice a2 n2 c2]:=h.r.shape
theorem cY.num(h:cY w S (.agg #[.bool b,nv,.bool b2,dv]) q):dK w S (.agg #[.bool b,nv]) q.num:=by
 obtain⟨b1,l1,b2,l2,Y,X,N⟩:=h;simp at Y;obtain⟨rfl,rfl,rfl,rfl⟩:=Y;exact X
theorem cY.den(h:cY w S (.agg #[.bool b,nv,.bool b2,dv]) q):dK w S (.agg #[.bool b2,dv]) q.den:=by
 obtain⟨b1,l1,b2,l2,Y,X,N⟩:=h;simp at Y;obtain⟨rfl,rfl,rfl,rfl⟩:=Y;exact N
theorem cY.of(h:dK w S (.agg #[.bool b,nv]) q.num)(k:dK w S (.agg #[.bool b2,dv]) q.den):cY w S (.agg #[.bool b,nv,.bool b2,dv]) q:=⟨_,_,_,_,rfl,h,k⟩
section
variable{S S':Nat->Prop}{H:Hp}{nx:Nat}{iv K:Iv}{B:Nat}{w J I:World}{O:Nat->Sx.da}{v:Value}{q:Rat}
theorem cY.rel(h:cY w (Cv S B iv) v q)(r:Rel H nx iv B w O J)(U:∀g,S g->g<B):cY J (Cv S B iv) v q:=h.cK fun _ F=>rls r U F
theorem cY.cH(h:cY w (Cv S B iv) v q)(r:Rel H nx iv B w O J)(U:∀g,S g->g<B)(R:Ext J I)(hm:∀p,p∈iv->p∈K):cY I (Cv S B K) v q:=
 ((h.rel r U).cK fun g F=>R.block g (rlo r U g F)).cF fun _ F=>F.mono hm
theorem cY.iR(h:cY I (Nf J I) v q)(hB:B<=J.heap.size)(hm:(J.heap.size,I.heap.size)∈iv):cY I (Cv S B iv) v q:=h.cF fun _ F=>F.iR hB hm
theorem cY.out{w0 w1:World}(h:cY w1 (Cv S w0.heap.size iv) v q)(r:Rel H nx iv w0.heap.size w1 O J)(U:Old S w0):cY J (Nw S w0 J) v q:=
 (h.rel r U).cF fun _ F=>Cv.nw F r
end
theorem LK(U:Old S w)(hf:dM w S v f):
  eC PG Fn.kC #[v] w (eI w fun v' _w2=>v'=iV (rs f)):=by
 have V:=bR w;replace hf:=hf.cF (S':=Cv S w.heap.size []) fun _ h=>.inl h;obtain⟨b1,a1,n1,c1,b2,a2,n2,c2,rfl⟩:=hf.shape;have TC:=hf.num;have Pp:=hf.den;refine n9 bv ?_;refine cD (cE V (pE (iV (rs f))) (fun O J r=>zV (TC.rel r U)) ?_);rintro O _ _ _ OK r R V h_ rfl;exact rtn V fun GT we re=>rfl
theorem Jx(U:Old S w)(hf:dM w S v f):
  eC PG Fn.jq #[v] w (eI w fun v' I=>dM I (Nw S w I) v' (-f)):=by
 have V:=bR w;replace hf:=hf.cF (S':=Cv S w.heap.size []) fun _ h=>.inl h;obtain⟨b1,a1,n1,c1,b2,a2,n2,c2,rfl⟩:=hf.shape;have TC:=hf.num;have Pp:=hf.den;refine mj bv ?_;refine dP [.x 0,.x 1,.x 3,.x 4,.x 2,.x 5,.x 6] ?_;refine cM (If:=fun _ J v I=>eF I (Nw (Cv S w.heap.size []) J I) v (-f.num)) (fun O J r=>nu (rlo r U) (TC.rel r U)) ?_;rintro O Ph v1 Pa r R hb Z;replace V:=V.tr hb;replace Pp:=Pp.cH (K:=(Ph.heap.size,Pa.heap.size)::[]) r U R fun x G=>aA _ G;have hM:=Z.old r.cR;generalize (Ph.heap.size,Pa.heap.size)::[]=OK at*
 obtain⟨A0,A1,A2,A3,rfl⟩:=hM.shape;exact rtn V fun GT we re=>dM.of (by rw[Rat.neg_num];exact hM.out re U) (by rw[Rat.neg_den];exact Pp.out re U)
theorem Jy(U:Old S w)(hf:dM w S v f)(F:dM w S u g)(SW:rl f<=10000000000)(hlg:rl g<=10000000000):
  eC PG Fn.jn #[v,u] w (eI w fun v' I=>dM I (Nf w I) v' (f*g)):=by
 have V:=bR w;have l1:=iA f;have l2:=gE f;have l3:=iA g;have l4:=gE g;have m0:=dm f.num g.num;have m1:=dm f.den g.den;replace hf:=hf.cF (S':=Cv S w.heap.size []) fun _ h=>.inl h;replace F:=F.cF (S':=Cv S w.heap.size []) fun _ h=>.inl h;obtain⟨b1,a1,n1,c1,b2,a2,n2,c2,rfl⟩:=hf.shape;obtain⟨b3,a3,n3,c3,b4,a4,n4,c4,rfl⟩:=F.shape;have TC:=hf.num;have Pp:=hf.den;have Ri:=F.num;have Qr:=F.den;refine mh bv ?_;refine dP [.x 0,.x 1,.x 2,.x 3,.x 5,.x 6,.x 7,.x 8,.x 4,.x 9,.x 10,.x 11] ?_;refine cE V (pR eF (f.num*g.num)) (fun O J r=>gl (rlo r U) (TC.rel r U) (Ri.rel r U) be be) ?_;rintro O _ _ _ OK r R V h_ Z;replace Pp:=Pp.cH r U R (mC h_);replace Qr:=Qr.cH r U R (mC h_);have hA:=Z.cF (nw r h_);obtain⟨A0,A1,A2,A3,rfl⟩:=hA.shape;refine cE V (pR eF ((f.den:Int)*(g.den:Int))) (fun O J r=>gl (rlo r U) (Pp.rel r U) (Qr.rel r U) be be) ?_;rintro O _ _ _ OH r R V h_ Z;replace hA:=hA.cH r oF R (mC h_);have hB:=Z.cF (nw r h_);obtain⟨C0,C1,C2,C3,rfl⟩:=hB.shape;refine cE V (pR dM (f*g)) (fun O J r=>(GX f g)▸vA (rlo r oF) (hA.rel r oF) (hB.rel r oF) (uV (ja f) (ja g)) be be) ?_;rintro O _ _ _ OW r R V h_ Z;have hC:=Z.cF (nw r h_);obtain⟨E0,E1,E2,E3,E4,E5,E6,E7,rfl⟩:=hC.shape;exact rtn V fun GT we re=>hC.out re oF
theorem NL(U:Old S w)(hf:dM w S v f)(F:dM w S u g)(SW:rl f<=10000000000)(hlg:rl g<=10000000000)(SJ:g≠0):
  eC PG Fn.lh #[v,u] w (eI w fun v' I=>dM I (Nf w I) v' (f / g)):=by
 have V:=bR w;have l1:=iA f;have l2:=gE f;have l3:=iA g;have l4:=gE g;have m0:=dm f.num g.den;have m1:=dm f.den g.num;replace hf:=hf.cF (S':=Cv S w.heap.size []) fun _ h=>.inl h;replace F:=F.cF (S':=Cv S w.heap.size []) fun _ h=>.inl h;obtain⟨b1,a1,n1,c1,b2,a2,n2,c2,rfl⟩:=hf.shape;obtain⟨b3,a3,n3,c3,b4,a4,n4,c4,rfl⟩:=F.shape;have TC:=hf.num;have Pp:=hf.den;have Ri:=F.num;have Qr:=F.den;refine pY bv ?_;refine dP [.x 0,.x 1,.x 2,.x 3,.x 5,.x 6,.x 7,.x 8,.x 4,.x 9,.x 10,.x 11] ?_;refine cE V (pR eF (f.num*(g.den:Int))) (fun O J r=>gl (rlo r U) (TC.rel r U) (Qr.rel r U) be be) ?_;rintro O _ _ _ OK r R V h_ Z;replace Pp:=Pp.cH r U R (mC h_);replace Ri:=Ri.cH r U R (mC h_);have hA:=Z.cF (nw r h_);obtain⟨A0,A1,A2,A3,rfl⟩:=hA.shape;refine cE V (pR eF ((f.den:Int)*g.num)) (fun O J r=>gl (rlo r U) (Pp.rel r U) (Ri.rel r U) be be) ?_;rintro O _ _ _ OH r R V h_ Z;replace hA:=hA.cH r oF R (mC h_);have hB:=Z.cF (nw r h_);obtain⟨C0,C1,C2,C3,rfl⟩:=hB.shape;refine cE V (pR dM (f / g)) (fun O J r=>(GY f g)▸vA (rlo r oF) (hA.rel r oF) (hB.rel r oF) (uV (ja f) (fun e=>SJ (Rat.num_eq_zero.1 e))) be be) ?_;rintro O _ _ _ OW r R V h_ Z;have hC:=Z.cF (nw r h_);obtain⟨E0,E1,E2,E3,E4,E5,E6,E7,rfl⟩:=hC.shape;exact rtn V fun GT we re=>hC.out re oF
theorem Gt(U:Old S w)(hf:dM w S v f)(F:dM w S u g)(SW:rl f<=10000000000)(hlg:rl g<=10000000000):
  eC PG Fn.kD #[v,u] w (eI w fun v' I=>dM I (Nf w I) v' (f+g)):=by
 have V:=bR w;have l1:=iA f;have l2:=gE f;have l3:=iA g;have l4:=gE g;have m0:=dm f.num g.den;have m1:=dm g.num f.den;have m2:=dm f.den g.den;have m4:=nU (f.num*g.den) (g.num*f.den);replace hf:=hf.cF (S':=Cv S w.heap.size []) fun _ h=>.inl h;replace F:=F.cF (S':=Cv S w.heap.size []) fun _ h=>.inl h;obtain⟨b1,a1,n1,c1,b2,a2,n2,c2,rfl⟩:=hf.shape;obtain⟨b3,a3,n3,c3,b4,a4,n4,c4,rfl⟩:=F.shape;have TC:=hf.num;have Pp:=hf.den;have Ri:=F.num;have Qr:=F.den;refine nc bv ?_;refine dP [.x 0,.x 1,.x 2,.x 3,.x 5,.x 6,.x 7,.x 8,.x 11,.x 12,.x 13,.x 14,.x 4,.x 9,.x 10,.x 15,.x 16,.x 17] ?_;refine cE V (pR eF (f.num*(g.den:Int))) (fun O J r=>gl (rlo r U) (TC.rel r U) (Qr.rel r U) be be) ?_;rintro O _ _ _ OK r R V h_ Z;replace Pp:=Pp.cH r U R (mC h_);replace Ri:=Ri.cH r U R (mC h_);replace Qr:=Qr.cH r U R (mC h_);have hA:=Z.cF (nw r h_);obtain⟨A0,A1,A2,A3,rfl⟩:=hA.shape;refine cE V (pR eF (g.num*(f.den:Int))) (fun O J r=>gl (rlo r U) (Ri.rel r U) (Pp.rel r U) be be) ?_;rintro O _ _ _ OH r R V h_ Z;replace Pp:=Pp.cH r U R (mC h_);replace Qr:=Qr.cH r U R (mC h_);replace hA:=hA.cH r oF R (mC h_);have hB:=Z.cF (nw r h_);obtain⟨C0,C1,C2,C3,rfl⟩:=hB.shape;refine cE V (pR eF (f.num*(g.den:Int)+g.num*(f.den:Int))) (fun O J r=>BO (rlo r oF) (hA.rel r oF) (hB.rel r oF) be be) ?_;rintro O _ _ _ OW r R V h_ Z;replace Pp:=Pp.cH r U R (mC h_);replace Qr:=Qr.cH r U R (mC h_);have hD:=Z.cF (nw r h_);obtain⟨E0,E1,E2,E3,rfl⟩:=hD.shape;refine cE V (pR eF ((f.den:Int)*(g.den:Int))) (fun O J r=>gl (rlo r U) (Pp.rel r U) (Qr.rel r U) be be) ?_;rintro O _ _ _ Ow r R V h_ Z;replace hD:=hD.cH r oF R (mC h_);have hE:=Z.cF (nw r h_);obtain⟨F0,F1,F2,F3,rfl⟩:=hE.shape;refine cE V (pR dM (f+g)) (fun O J r=>(Bn f g)▸vA (rlo r oF) (hD.rel r oF) (hE.rel r oF) (uV (ja f) (ja g)) be be) ?_;rintro O _ _ _ Qg r R V h_ Z;have hC:=Z.cF (nw r h_);obtain⟨G0,G1,G2,G3,G4,G5,G6,G7,rfl⟩:=hC.shape;exact rtn V fun GT we re=>hC.out re oF
theorem qS(U:Old S w)(hf:dM w S v f)(SW:rl f<=100000000000):
  eC PG Fn.kB #[v] w (eI w fun v' I=>cY I (Nf w I) v' f):=by
 have V:=bR w;have l1:=iA f;have l2:=gE f;replace hf:=hf.cF (S':=Cv S w.heap.size []) fun _ h=>.inl h;obtain⟨b1,a1,n1,c1,b2,a2,n2,c2,rfl⟩:=hf.shape;have TC:=hf.num;have Pp:=hf.den;refine nZ bv ?_;refine dP [.x 0,.x 1,.x 3,.x 4,.x 2,.x 5,.x 6,.x 7] ?_;refine cE V (pR dK f.num) (fun O J r=>Jk (rlo r U) (TC.rel r U) be) ?_;rintro O _ _ _ OK r R V h_ Z;replace Pp:=Pp.cH r U R (mC h_);have hA:=Z.cF (nw r h_);obtain⟨A0,A1,A2,A3,rfl⟩:=hA.shape;refine cE V (pR dK (f.den:Int)) (fun O J r=>Jk (rlo r U) (Pp.rel r U) be) ?_;rintro O _ _ _ OH r R V h_ Z;replace hA:=hA.cH r oF R (mC h_);have hB:=Z.cF (nw r h_);obtain⟨C0,C1,C2,C3,rfl⟩:=hB.shape;exact rtn V fun GT we re=>cY.of (hA.out re oF) (hB.out re oF)
theorem LL(n:Int)(w:World)(Y: -9223372036854775808<=n)(X:n<=9223372036854775807):
  eC PG Fn.wA #[iV n] w (eI w fun v' I=>dM I (Nf w I) v' (n:Rat)):=by
 have V:=bR w;refine zH bv ?_;refine cD (cE V (pR eF n) (fun O J r=>oB n J Y X) ?_);rintro O _ _ _ OK r R V h_ Z;have hA:=Z.cF (nw r h_);obtain⟨A0,A1,A2,A3,rfl⟩:=hA.shape;refine cD (cE V (pR eF 1) (fun O J r=>oB 1 J bi bi) ?_);rintro O _ _ _ OH r R V h_ Z;replace hA:=hA.cH r oF R (mC h_);have hB:=Z.cF (nw r h_);obtain⟨C0,C1,C2,C3,rfl⟩:=hB.shape;exact rtn V fun GT we re=>dM.of (by rw[Rat.num_intCast];exact hA.out re oF) (by rw[Rat.den_intCast];exact hB.out re oF)
theorem jh(U:Old S w)(G:iC w S v x y)(OZ:ln x.natAbs<=100000000000)(PS:ln y.natAbs<=100000000000):
  eC PG Fn.vh #[v] w (eI w fun v' I=>dM I (Nf w I) v' (ratio x y)):=by
 have V:=bR w;replace G:=G.cF (S':=Cv S w.heap.size []) fun _ h=>.inl h;obtain⟨b1,a1,n1,c1,b2,a2,n2,c2,rfl⟩:=G.shape;have Z:=G.num;have hd:=G.den;have Qj:=Z;have TP:=hd;refine zC bv ?_;refine cD (cM (If:=fun _ J v I=>eF I (Nw (Cv S w.heap.size []) J I) v y) (fun O J r=>Jq (rlo r U) (TP.rel r U)) ?_);rintro O Ph v1 Pa r R hb Z;replace V:=V.tr hb;replace Qj:=Qj.cH (K:=(Ph.heap.size,Pa.heap.size)::[]) r U R fun x G=>aA _ G;have hD:=Z.old r.cR;generalize (Ph.heap.size,Pa.heap.size)::[]=OK at*
 obtain⟨A0,A1,A2,A3,rfl⟩:=hD.shape;refine cD (cE V (pE (iV y.sign)) (fun O J r=>zV (hD.rel r U)) ?_);rintro O _ _ _ OH r R V h_ rfl;replace Qj:=Qj.cH r U R (mC h_);replace hD:=hD.cH r U R (mC h_);apply bS<;>intro h
 .have h:y=0:=Int.sign_eq_zero_iff_zero.1 (eq_of_beq h);have e0:ratio x y=Rat.divInt x 1:=aH h;refine cD (cE V (pR eF 1) (fun O J r=>oB 1 J bi bi) ?_);rintro O Pm v3 Pg OW r R V h_ Z;replace Qj:=Qj.cH r U R (mC h_);have hO:=Z.cF (nw r h_);obtain⟨C0,C1,C2,C3,rfl⟩:=hO.shape;have l1:ln (1:Int).natAbs=1:=by decide
  refine dP [.x 0,.x 1,.x 3,.x 2,.x 4,.x 5] ?_;refine cM (If:=fun _ J v I=>eF I (Nw (Cv S w.heap.size OW) J I) v x) (fun O J r=>Jq (rlo r U) (Qj.rel r U)) ?_;rintro O RA v4 Qi r R hb Z;replace V:=V.tr hb;replace hO:=hO.cH (K:=(RA.heap.size,Qi.heap.size)::OW) r oF R fun x G=>aA _ G;have hN:=Z.old r.cR;generalize (RA.heap.size,Qi.heap.size)::OW=Ow at*
  obtain⟨E0,E1,E2,E3,rfl⟩:=hN.shape;refine cE V (pR dM (ratio x y)) (fun O J r=>e0.symm▸vA (rlo r U) (hN.rel r U) ((hO.rel r oF).cF fun g F=>F.elim (fun k=>k.elim) .inr) bi be be) ?_;rintro O _ _ _ Qg r R V h_ Z;have hC:=Z.cF (nw r h_);obtain⟨F0,F1,F2,F3,F4,F5,F6,F7,rfl⟩:=hC.shape;exact rtn V fun GT we re=>hC.out re oF
 .have h:y≠0:=fun e=>by rw[e]at h;exact absurd h bi
  have e0:ratio x y=Rat.divInt x y:=aF h;refine dP [.x 0,.x 1,.x 3,.x 2,.x 4,.x 5] ?_;refine cM (If:=fun _ J v I=>eF I (Nw (Cv S w.heap.size OH) J I) v x) (fun O J r=>Jq (rlo r U) (Qj.rel r U)) ?_;rintro O Pm v3 Pg r R hb Z;replace V:=V.tr hb;replace hD:=hD.cH (K:=(Pm.heap.size,Pg.heap.size)::OH) r U R fun x G=>aA _ G;have hN:=Z.old r.cR;generalize (Pm.heap.size,Pg.heap.size)::OH=OW at*
  obtain⟨C0,C1,C2,C3,rfl⟩:=hN.shape;refine cE V (pR dM (ratio x y)) (fun O J r=>e0.symm▸vA (rlo r U) (hN.rel r U) (hD.rel r U) h be be) ?_;rintro O _ _ _ Ow r R V h_ Z;have hC:=Z.cF (nw r h_);obtain⟨E0,E1,E2,E3,E4,E5,E6,E7,rfl⟩:=hC.shape;exact rtn V fun GT we re=>hC.out re oF
def rB(v:Value):Iv:=match v.ownBlock with
 |some g=>[(g,g+1)]
 |none=>[]
theorem BV{lo D:Nat}:(lo,D)∈rB v↔v.ownBlock=some lo/\D=lo+1:=by
 unfold rB
 cases h:v.ownBlock with
 |none=>simp
 |some g=>simp;omega
def Fj(iv:Iv)(v:Value):Prop:=∀b,v.ownBlock=some b->∃lo D,(lo,D)∈iv/\lo<=b/\b<D
section
variable{S:Nat->Prop}{H:Hp}{nx:Nat}{iv K:Iv}{B e sz m:Nat}{w J I:World}{O:Nat->Sx.da}{v v':Value}{xs:List Value}
theorem Fj.not(h:Fj iv v)(r:Rel H nx iv B w O J){b:Nat}(hb:v.ownBlock=some b):∀id c,cw H id=some c->(O id).nil=false->(O id).g≠b:=fun id c hc Z R=>by
 obtain⟨lo,D,Y,X,N⟩:=h b hb;exact r.kI lo D Y id c hc Z be
theorem jD(h:w.ownsRow B e sz v m xs)(hc:Fj iv v)(r:Rel H nx iv B w O J):J.ownsRow B e sz v m xs:=
 ownsRow.cK h fun b hb=>r.uC b (ownsRow.low h b hb).2 fun id c hc' Z R=>hc.not r hb id c hc' Z R
theorem Fj.row(v:Value):Fj (rB v) v:=fun b hb=>⟨b,b+1,BV.2 ⟨hb,rfl⟩,be,be⟩
theorem Fj.mono(h:Fj iv v)(k:∀p,p∈iv->p∈K):Fj K v:=fun b hb=>by
 obtain⟨lo,D,Y,X⟩:=h b hb;exact⟨lo,D,k _ Y,X⟩
theorem js(h:w.ownsRow B e sz v m xs):∃a c,v= .slice a m c/\m<=c:=by
 rcases h.2 with⟨rfl,rfl⟩|⟨g,cap,cur,rfl,_,_,Y,_⟩
 .exact⟨none,0,rfl,lr⟩
 .exact⟨_,cap,rfl,Y⟩
end
structure jW(w:World)(S:Nat->Prop)(sz:Nat)(v:Value)(xs:List Value)(n:Nat):Prop where
 le:n<=maxLen
 len:xs.length=n*sz
 one:∀u∈xs,u.oneCell'=true
 sl:∃a c,v= .slice a n c/\n<=c/\∀(j:Nat) u,xs[j]? =some u->∃ad,a=some ad/\S ad.block/\w.cell? (ad.add j)=some u
theorem jW.cK(h:jW w S sz v xs n)(E:∀g,S g->I.heap[g]? =w.heap[g]?):jW I S sz v xs n:=by
 obtain⟨h0,Y,X,a,c,N,h4,h5⟩:=h;refine⟨h0,Y,X,a,c,N,h4,fun j u hu=>?_⟩;obtain⟨ad,k1,k2,k3⟩:=h5 j u hu;exact⟨ad,k1,k2,by rw[cO (E _ (by rw[eV];exact k2))];exact k3⟩
theorem jW.cF(h:jW w S sz v xs n)(E:∀g,S g->S' g):jW w S' sz v xs n:=by
 obtain⟨h0,Y,X,a,c,N,h4,h5⟩:=h;refine⟨h0,Y,X,a,c,N,h4,fun j u hu=>?_⟩;obtain⟨ad,k1,k2,k3⟩:=h5 j u hu;exact⟨ad,k1,E _ k2,k3⟩
section
variable{S S':Nat->Prop}{H:Hp}{nx:Nat}{iv K:Iv}{B:Nat}{w J I:World}{O:Nat->Sx.da}{v:Value}{sz n:Nat}{xs:List Value}
end
end Go.Ex
namespace Go.Sx
open Go Go.Ex Go.Proofs
variable{O:Nat->Sx.da}
theorem Rel.mO{H:Hp}{nx:Nat}{iv:Iv}{B:Nat}{w J:World}(r:Rel H nx iv B w O J){id t sz n:Nat}{L:List At}(h:cw H id=some (.box t L))(hl:L.length=n*sz)(Z:n<=maxLen)(Y:∀u∈L,(u.den O).oneCell'=true):
  jW J (fun g=>g=(O id).g) sz (.slice (some ⟨(O id).g,0,none⟩) n n) (L.map (At.den O)) n:=by
 refine⟨Z,by simpa using hl,fun u hu=>?_,_,_,rfl,lr,fun j u hu=>⟨_,rfl,rfl,?_⟩⟩
 .obtain⟨x,G,rfl⟩:=aV.1 hu;exact Y x G
 .have h0:(⟨(O id).g,0,none⟩:Addr).add j=⟨(O id).g,j,none⟩:=by
   cases j with
   |zero=>rfl
   |succ j=>simp[Addr.add]
  rw[h0,cell_of (r.box id t _ h)];exact hu
end Go.Sx
namespace Go.Ex
open Go Go.Sx Go.Proofs
theorem KA{n:Nat}(h:n<=9223372036854775807):IntKind.i64.wrap (n:Int)=n:=by rw[wrap64]<;>omega
theorem LM{t b:Nat}(h:t<=9223372036854775807):IntKind.i64.wrap ((t:Int).tdiv (b:Int))=((t / b:Nat):Int):=by
 have Y:=Nat.div_le_self t b;rw[Int.tdiv_eq_ediv_of_nonneg be,<-Int.natCast_ediv];exact KA be
def Cb:Value:=.agg #[.bool false,nls,.bool false,nls]
theorem pr{n:Int}(Y: -9223372036854775808<=n)(X:n<=9223372036854775807):ln n.natAbs<=2:=gC.2 (by show n.natAbs<4294967296^2;omega)
end Go.Ex
namespace Go.Sx
open Go Go.Ex Go.Proofs
variable{L:List Value}{O:Nat->Sx.da}
theorem Rel.iq{H:Hp}{nx:Nat}{iv:Iv}{B:Nat}{w J:World}(r:Rel H nx iv B w O J){id t m sz:Nat}(h:cw H id=some (.vec t sz L))(hm:L.length=m*sz)(SB:m<=maxLen)(hs:0<sz)(Y:∀u∈L,u.oneCell'=true):
  jW J (fun g=>B<=g/\g<J.heap.size) sz ((At.w id m).den O) L m:=by
 rcases r.vec id t sz _ h with⟨Z,rfl⟩|⟨Z,spare,hb,hc,QF⟩
 .have TZ:m=0:=by
   rcases bN m with h|h
   .exact h
   .have:=Nat.mul_pos h hs;simp at hm;omega
  subst TZ;refine⟨SB,bv,bv,none,0,by simp[At.den,Z],lr,bv⟩
 .refine⟨SB,hm,Y,some ⟨(O id).g,0,none⟩,(O id).cap,by simp[At.den,Z],?_,fun j x G=>⟨_,rfl,r.low id _ h Z,?_⟩⟩
  .have Y:(L++spare).length=L.length+spare.length:=aL;have X:m*sz<=(O id).cap*sz:=by omega
   exact Nat.le_of_mul_le_mul_right X hs
  .rw[dS,cell_of hb,aX,aK (aD.1 G).1];exact G
end Go.Sx
namespace Go.Ex
open Go Go.Sx Go.Proofs
def signed:Bool->ByteArray->ByteArray
 |true,s=>⟨#[45]⟩++s
 |false,s=>s
end Go.Ex
