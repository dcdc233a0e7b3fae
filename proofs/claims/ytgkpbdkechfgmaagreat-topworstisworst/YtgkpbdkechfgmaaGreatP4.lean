/- Texts X11 to X23: lemmas, each with its conditions. -/
import Derived.Test.YtgkpbdkechfgmaaGreatP3
namespace Go.Ex
open Go Go.Sx Go.Proofs
end Go.Ex
namespace Go.Sx
open Go Go.Ex Go.Proofs
variable{O:Nat->Sx.cd}
theorem Rel.bs{H:Hp}{nx:Nat}{iv:Iv}{B:Nat}{w J:World}(r:Rel H nx iv B w O J):B<=J.heap.size:=by have:=r.base;have:=r.size;omega
end Go.Sx
namespace Go.Ex
open Go Go.Sx Go.Proofs
end Go.Ex
namespace Go.Sx
open Go Go.Ex Go.Proofs
variable{ls:List Nat}{O:Nat->Sx.cd}
theorem Rel.rA{H:Hp}{nx:Nat}{iv:Iv}{B:Nat}{w J:World}(r:Rel H nx iv B w O J){id t:Nat}(h:cO H id=some (.box t ((EQ ls).map At.v)))(Lp:Lm ls)(hle:ls.length<=9223372036854775807):
  cR J (fun g=>g=(O id).g) (.slice (some ⟨(O id).g,0,none⟩) ls.length ls.length) ls:=by
 refine⟨Lp,hle,_,_,rfl,aE _,fun j x F=>⟨_,rfl,rfl,?_⟩⟩;have h0:(⟨(O id).g,0,none⟩:Addr).add j=⟨(O id).g,j,none⟩:=by
  cases j with
  |zero=>rfl
  |succ j=>simp[Addr.add]
 rw[h0,cell_of (r.box id t _ h),eY];exact qy F
end Go.Sx
namespace Go.Ex
open Go Go.Sx Go.Proofs
variable{ds r2:List Nat}{g k:Nat}
section
variable{S:Nat->Prop}{H:Hp}{nx:Nat}{iv E:Iv}{B:Nat}{w J Y:World}{O:Nat->Sx.cd}{v:Value}{n:Nat}{ls:List Nat}
theorem Nw.df(h:Nf J Y g)(hB:B<=J.heap.size)(hm:(J.heap.size,Y.heap.size)∈iv):Cv S B iv g:=by
 rcases h with h|h
 ·cases h
 ·exact .inr ⟨by omega,_,_,hm,h.1,h.2⟩
theorem dC.df(h:dC Y (Nf J Y) v n)(hB:B<=J.heap.size)(hm:(J.heap.size,Y.heap.size)∈iv):dC Y (Cv S B iv) v n:=h.bw fun _ R=>R.df hB hm
theorem cR.df(h:cR Y (Nf J Y) v ls)(hB:B<=J.heap.size)(hm:(J.heap.size,Y.heap.size)∈iv):cR Y (Cv S B iv) v ls:=h.bw fun _ R=>R.df hB hm
theorem dC.rel(h:dC w (Cv S B iv) v n)(r:Rel H nx iv B w O J)(X:∀g,S g->g<B):dC J (Cv S B iv) v n:=h.br fun _ R=>Rel.same r X R
theorem dC.bu(h:dC w (Cv S B iv) v n)(r:Rel H nx iv B w O J)(X:∀g,S g->g<B)(Z:Ext J Y)(hm:∀p,p∈iv->p∈E):dC Y (Cv S B E) v n:=
 ((h.rel r X).br fun g R=>Z.block g (Rel.old r X g R)).bw fun _ R=>R.mono hm
theorem cR.trimmed(h:cR w S v (dA ls)):dC w S v (val ls):=⟨_,h,(eA ls).2.1,(eA ls).1⟩
end
theorem Da{w:World}{m c:Nat}{rs:List Nat}(R:w.heap[g]? =some (.cells (EQ rs).toArray T.uint32 (0,0)))(Lp:Lm rs)(h:k+m<=rs.length)(hc:m<=c)(hl:rs.length<=1000000000000):
  cR w (fun x=>x=g) (.slice (some ⟨g,k,none⟩) m c) ((rs.drop k).take m):=by
 have hlen:((rs.drop k).take m).length=m:=by simp;omega
 refine⟨(Lp.drop k).take m,by omega,some ⟨g,k,none⟩,c,by rw[hlen],by omega,fun j x F=>⟨_,rfl,rfl,?_⟩⟩;have hj:j<m:=by have:=(aC.1 F).1;omega
 rw[bM hj,List.getElem?_drop]at F;rw[cZ,cell_of R];exact qy F
theorem zT{c:Nat}(h:k<c):(if (c:Int)=(k:Int)then some (⟨g,0,none⟩:Addr)else(some (⟨g,0,none⟩:Addr)).map fun x=>x.add ((k:Int).toNat*1))=some ⟨g,k,none⟩:=by
 rw[aF (by omega),Option.map_some,aG,az,cZ,aU]
theorem fZ{a b c:World}{row:Option Nat}(h:a.grownBy b row)(k:b.grownBy c row):a.grownBy c row:=
 ⟨k.os.trans h.os,k.tape.trans h.tape,k.output.trans h.output,a9 h.size k.size,fun j hj Kq=>(k.block j (by have:=h.size;omega) Kq).trans (h.block j hj Kq)⟩
theorem tK{a b:World}{row:Option Nat}(h:dO a.heap.size a b):a.grownBy b row:=⟨h.os,h.tape,h.output,h.size,fun j hj _=>h.block j hj⟩
theorem Hl(rs:List Nat)(k m:Nat):(EQ rs).take k++List.replicate m (Value.int .u32 0)++(EQ rs).drop (k+m)=EQ (rs.take k++List.replicate m 0++rs.drop (k+m)):=by
 simp[EQ]
theorem JH(rs ds:List Nat)(k:Nat):(EQ rs).take k++EQ ds++(EQ rs).drop (k+(EQ ds).length)=EQ (rs.take k++ds++rs.drop (k+ds.length)):=by
 simp[EQ]
theorem E3{rs:List Nat}{m:Nat}(W:k+m<=rs.length)(hd:ds.length<=m){r1:List Nat}(V:r1=rs.take k++List.replicate m 0++rs.drop (k+m))(I:r2=r1.take k++ds++r1.drop (k+ds.length)):
  r2=rs.take k++(ds++List.replicate (m-ds.length) 0)++rs.drop (k+m):=by
 have Qi:(rs.take k).length=k:=by simp;omega
 have K:r1.take k=rs.take k:=by rw[V,bP,List.take_append_of_le_length (by omega),List.take_of_length_le (by omega)]
 have h4:r1.drop (k+ds.length)=List.replicate (m-ds.length) 0++rs.drop (k+m):=by
  rw[V,bP,List.drop_append,Qi,List.drop_of_length_le (by omega),List.nil_append,Nat.add_sub_cancel_left,List.drop_append_of_le_length (by simpa using hd),List.drop_replicate]
 rw[I,K,h4];simp
theorem E4{rs:List Nat}{m:Nat}(W:k+m<=rs.length)(hd:ds.length<=m)(Lp:Lm rs)(Ni:Lm ds)(h:r2=rs.take k++(ds++List.replicate (m-ds.length) 0)++rs.drop (k+m)):
  r2.length=rs.length/\Lm r2/\r2.take k=rs.take k/\r2.drop (k+m)=rs.drop (k+m)/\val ((r2.drop k).take m)=val ds:=by
 have Qi:(rs.take k).length=k:=by simp;omega
 have Oj:(ds++List.replicate (m-ds.length) 0).length=m:=by simp;omega
 have OP:r2.drop k=(ds++List.replicate (m-ds.length) 0)++rs.drop (k+m):=by
  rw[h,bP,List.drop_append,Qi,List.drop_of_length_le (by omega),List.nil_append,bC,List.drop_zero]
 refine⟨by rw[h,List.length_append,List.length_append,Qi,Oj];simp;omega,?_,?_,?_,?_⟩
 ·rw[h];exact((Lp.take k).append (Ni.append (Lm.replicate _))).append (Lp.drop _)
 ·rw[h,bP,List.take_append_of_le_length (by omega),List.take_of_length_le (by omega)]
 ·rw[<-List.drop_drop,OP,List.drop_append,Oj,List.drop_of_length_le (by omega),List.nil_append,bC,List.drop_zero]
 ·rw[OP,List.take_append_of_le_length (by omega),List.take_of_length_le (by omega),ju,kv];simp
theorem zU{S:Nat->Prop}{w:World}{vd:Value}{Fn g k q:Nat}{rs:List Nat}(X:Old S w)(hgS:¬S g)(hd:dC w S vd Fn)(R:w.heap[g]? =some (.cells (EQ rs).toArray T.uint32 (0,0)))(Lp:Lm rs)
  (W:k+ln Fn+1<=rs.length) (hl:rs.length<=1000000000000) (hq:q<4294967296):
  eF PG F'.ns #[.slice (some ⟨g,0,none⟩) rs.length rs.length,vd,.int .i64 k,.int .u64 q] w (fun e Y=>
   (val ((rs.drop k).take (ln Fn+1))<q*Fn/\e= .returned (.bool false)/\dO w.heap.size w Y)\/
   (q*Fn<=val ((rs.drop k).take (ln Fn+1))/\e= .returned (.bool true)/\w.grownBy Y (some g)/\∃rs',rs'.length=rs.length/\Lm rs'/\rs'.take k=rs.take k/\rs'.drop (k+ln Fn+1)=rs.drop (k+ln Fn+1)/\
    val ((rs'.drop k).take (ln Fn+1))=val ((rs.drop k).take (ln Fn+1))-q*Fn/\Y.heap[g]? =some (.cells (EQ rs').toArray T.uint32 (0,0)))):=by
 have hgB:=jF R;have hnD:=hd;obtain⟨p,rfl,Mf,Mg⟩:=hd.la;have MC:=dR p.lm Mg;rw[Mf]at MC;generalize A:ln Fn=n at*
 have hSB:=X;refine qx (by simp) ?_;refine⟨(q:Int),by rw[eI,bE hq],?_⟩;refine fU (Id:=fun O _ v Y=>cR Y (fun g=>g=(O 0).g) v (dA [q])) (H':=[]) 0 rfl (by simp) trivial rfl (fun O J r=>r.nn 0 _ rfl (by intros;simp) (by simp)) (fun O J r=>?_) ?_
 ·have hL:=r.rA (id:=0) (ls:=[q]) rfl (by intro x F;simp at F;omega) (by simp);exact eO (fun g R=>by rw[R];exact(r.low 0 _ rfl (r.nn 0 _ rfl (by intros;simp) (by simp))).2) hL
 rintro O w1 v1 Y r Z L hL;have LR:=r.low 0 _ rfl (r.nn 0 _ rfl (by intros;simp) (by simp));have hs:=Z.size;generalize (O 0).g=g0 at*
 have QA:dC Y (Cv S w.heap.size [(g0,g0+1),(w1.heap.size,Y.heap.size)]) v1 q:=by
  have:=hL.trimmed;simp only[val,Nat.mul_zero,bj]at this;exact this.bw fun k W=>.inr ⟨by omega,g0,g0+1,by simp,by omega,by omega⟩
 have QL:dC Y (Cv S w.heap.size [(g0,g0+1),(w1.heap.size,Y.heap.size)]) (.slice p.a p.ls.length p.c) Fn:=
  (hnD.br fun g R=>L.block g (X g R)).bw fun _ R=>.inl R
 generalize [(g0,g0+1),(w1.heap.size,Y.heap.size)]=iv at*
 refine bp (cE L (fun _ J v Y=>dC Y (Nf J Y) v (q*Fn)) (fun O J r=>Db (Rel.old r X) (QA.rel r X) (QL.rel r X) (a9 (fc.2 (show q<wt 1 from hq)) (by decide)) (by omega)) ?_);rintro O w3 _ _ iv r Z L h_ hm;have Pm:=hm.df (S:=S) r.bs (mN h_);refine⟨((k+n:Nat):Int),wo,((k+n+1:Nat):Int),wo,⟨by omega,by omega,by omega⟩,some ⟨g,k,none⟩,n+1,rs.length-k,zT (by omega),by omega,by omega,?_⟩;have hplen:((rs.drop k).take (n+1)).length=n+1:=by simp;omega
 have hplm:Lm ((rs.drop k).take (n+1)):=(Lp.drop k).take _;generalize hpart:(rs.drop k).take (n+1)=part at*
 refine bp (cE L (fun _ J v Y=>cR Y (Nf J Y) v part) (fun O J r=>?_) ?_)
 ·have V:=Da (k:=k) (m:=n+1) (c:=rs.length-k) (w:=J) (by rw[(L.tr r.cG).block g hgB];exact R) Lp (by omega) (by omega) hl;rw[hpart]at V;exact D9 (fun x F=>by rw[F];have:=(L.tr r.cG).size;omega) V (by omega)
 rintro O _ _ _ iv r Z L h_ hL;have hpL:=hL.df (S:=S) r.bs (mN h_);replace Pm:=Pm.bu r X Z (mC h_);refine bp (bz (Id:=fun _ J v Y=>cR Y (Cv S w.heap.size iv) v (dA part)) (fun O J r=>eO (Rel.old r X) (cR.rel hpL r X)) ?_);rintro O w7 v4 w8 r Z hb hL;replace L:=L.tr hb;have hpN:=hL.trimmed.bw (S':=Cv S w.heap.size ((w7.heap.size,w8.heap.size)::iv)) fun _ R=>R.cons;replace Pm:=Pm.bu (E:=(w7.heap.size,w8.heap.size)::iv) r X Z fun x F=>aB _ F;generalize (w7.heap.size,w8.heap.size)::iv=iv at*
 refine bp (cE L (fun _ _ v _=>v= .int .i64 (py (val part) (q*Fn))) (fun O J r=>GP (Rel.old r X) (hpN.rel r X) (Pm.rel r X)) ?_);rintro O _ _ _ iv r Z L h_ rfl;replace hpN:=hpN.bu r X Z (mC h_);replace Pm:=Pm.bu r X Z (mC h_);refine ct.mk ?_ ?_<;>intro h
 ·have h:val part<q*Fn:=by
   have:=aL h;unfold py at this;split at this
   ·assumption
   ·split at this<;>omega
  intro In w3 D;exact .inl ⟨h,rfl,L.tr D.cG⟩
 have h:q*Fn<=val part:=by
  have:=aI h;unfold py at this;split at this
  ·omega
  ·omega
 have hPl:ln (val part)<=n+1:=by rw[fc,<-hplen];exact mB hplm
 refine bp (cE L (fun _ J v Y=>dC Y (Nf J Y) v (val part-q*Fn)) (fun O J r=>zV (Rel.old r X) (hpN.rel r X) (Pm.rel r X) h (by omega)) ?_);rintro O _ v6 _ iv r Z L h_ hm;have RD:=hm.df (S:=S) r.bs (mN h_);refine⟨((k+n:Nat):Int),wo,((k+n+1:Nat):Int),wo,⟨by omega,by omega,by omega⟩,some ⟨g,k,none⟩,n+1,rs.length-k,zT (by omega),by omega,by omega,?_⟩;refine Dx hτ (G:=EQ rs) (by rfl) (by rfl) (by rfl) (by omega) (fun O J r=>⟨by rw[(L.tr r.cG).block g hgB];exact R,fun id b hb=>by cases hb⟩) (by rw[fK];omega) (fun O w13 w14 r hh Ll LL=>?_);rw[Hl]at hh;have hgw:w.grownBy w14 (some g):=fZ (tK (L.tr r.cG)) Ll;replace RD:dC w14 (Cv S w.heap.size iv) v6 (val part-q*Fn):=(RD.rel r X).br fun x F=>Ll.block x (Rel.old r X x F) fun e=>by
  injection e with e;subst e;rcases F with F|F
  ·exact hgS F
  ·omega
 obtain⟨rl,rfl,Pn,hr2⟩:=RD.la;have Mz:=dR rl.lm hr2;rw[Pn]at Mz;have hrn:rl.ls.length<=n+1:=by rw[Mz];exact a9 (gM (Nat.sub_le _ _)) hPl
 generalize hr1d:rs.take k++List.replicate (n+1) 0++rs.drop (k+(n+1))=r1 at*
 refine⟨⟨by omega,by omega,by omega⟩,some ⟨g,k,none⟩,rs.length-k,rs.length-k,zT (by omega),by omega,by omega,?_⟩;have hr1l:r1.length=rs.length:=by rw[<-hr1d];simp;omega
 have hw14:w.heap.size<=w14.heap.size:=hgw.size;refine FG hτ (tg:=T.uint32) (G:=EQ r1) (ds:=EQ rl.ls) (by rfl) (by rfl) (by rfl) (by rfl) (fun O J r=>⟨?_,fun id b hb=>by cases hb⟩) (fun O J r=>⟨rl.a,rl.c,by rw[fK];rfl,fun j u hu=>?_⟩) (by rw[fK];omega) (by rw[fK,fK];omega)
  (fun u hu=>by simp only[EQ,aT]at hu;obtain⟨n,_,rfl⟩:=hu;rfl) (fun O w15 w16 r hh2 Ll LL=>?_)
 ·rw[r.oF.block g (by omega) (by simp)];exact hh
 ·simp only[EQ,aM,Option.map_eq_some_iff]at hu;obtain⟨m,hm,rfl⟩:=hu;obtain⟨ad,V,I,K⟩:=rl.cell j m hm;exact⟨ad,V,(cA (w:=w14) (a:=ad.add j) (by rw[dP];exact Rel.same r X I)).trans K⟩
 rw[JH]at hh2;have hgw2:w.grownBy w16 (some g):=fZ (fZ hgw (by have:=r.oF;exact⟨this.os,this.tape,this.output,this.size,fun j hj _=>this.block j hj (by simp)⟩)) Ll;obtain⟨o1,o2,o3,o4,o5⟩:=E4 (rs:=rs) (ds:=rl.ls) (k:=k) (m:=n+1) (by omega) hrn Lp rl.lm (E3 (by omega) hrn hr1d.symm rfl);generalize r1.take k++rl.ls++r1.drop (k+rl.ls.length)=r2 at*
 intro In w17 D;refine .inr ⟨h,rfl,fZ hgw2 (by have:=D.oF;exact⟨this.os,this.tape,this.output,this.size,fun j hj _=>this.block j hj (by simp)⟩),r2,o1,o2,o3,o4,by rw[o5,Pn],?_⟩;rw[D.oF.block g (by have:=hgw2.size;omega) (by simp)];exact hh2
end Go.Ex
namespace Go.Ex
open Go Go.Sx Go.Proofs
end Go.Ex
namespace Go.Sx
open Go Go.Ex Go.Proofs
variable{O:Nat->Sx.cd}
theorem Rel.IX{nx:Nat}{iv:Iv}{B:Nat}{w J Y:World}(r:Rel [] nx iv B w O J)(h:J.heap.size<=Y.heap.size):Rel [] nx [] B Y O Y:=
 r.AK h (fun id b h=>by cases h) fun lo N h=>by cases h
end Go.Sx
namespace Go.Ex
open Go Go.Sx Go.Proofs
variable{O:Nat->Sx.cd}
theorem GQ{P Fn low high dlow dtop Fd:Nat}(hP:P=low+Fd*high)(hD:Fn=dlow+Fd*dtop)(LR:low<Fd)(Ot:0<dtop)(hPD:P<4294967296*Fn):P / Fn<=min (high / dtop) 4294967295:=by
 have hW:0<Fd:=by omega
 have hD0:0<Fn:=by have:=Nat.mul_pos hW Ot;omega
 have V:P / Fn<4294967296:=(Nat.div_lt_iff_lt_mul hD0).2 (by rw[bO]at hPD;omega);have I:P / Fn<=high / dtop:=by
  rw[Nat.le_div_iff_mul_le Ot];have K:=Nat.div_mul_le_self P Fn;generalize P / Fn=Q at*
  have h4:Fd*(Q*dtop)<=Q*Fn:=by
   rw[hD,Nat.mul_left_comm,bS];omega
  have h5:Fd*(Q*dtop)<Fd*(high+1):=by
   rw[bS];omega
  have:=Nat.lt_of_mul_lt_mul_left h5;omega
 omega
theorem Dc{H:Hp}{nx:Nat}{iv:Iv}{w w1 J:World}{g i x:Nat}{rs:List Nat}(R:w.heap[g]? =some (.cells (EQ rs).toArray T.uint32 (0,0)))(L:dO w.heap.size w w1)(r:Rel H nx iv w.heap.size w1 O J)(F:rs[i]? =some x):
  J.cell? ((⟨g,0,none⟩:Addr).add ((i:Int).toNat*1))=some (.int .u32 x):=by
 rw[aG,az,cZ,aU,cell_of (by rw[(L.tr r.cG).block g (jF R)];exact R)];exact qy F
theorem Hm{S:Nat->Prop}{w:World}{vd:Value}{Fn g k:Nat}{rs:List Nat}(X:Old S w)(hgS:¬S g)(hd:dC w S vd Fn)(hD:0<Fn)(R:w.heap[g]? =some (.cells (EQ rs).toArray T.uint32 (0,0)))(Lp:Lm rs)
  (W:k+ln Fn+1<=rs.length) (hl:rs.length<=1000000000000) (hPD:val ((rs.drop k).take (ln Fn+1))<4294967296*Fn):
  eF PG F'.mr #[.slice (some ⟨g,0,none⟩) rs.length rs.length,vd,.int .i64 k] w (fun e Y=>
   e= .returned (.int .u32 ((val ((rs.drop k).take (ln Fn+1)) / Fn:Nat):Int))/\w.grownBy Y (some g)/\∃rs',rs'.length=rs.length/\Lm rs'/\rs'.take k=rs.take k/\rs'.drop (k+ln Fn+1)=rs.drop (k+ln Fn+1)/\
    val ((rs'.drop k).take (ln Fn+1))=val ((rs.drop k).take (ln Fn+1)) % Fn/\Y.heap[g]? =some (.cells (EQ rs').toArray T.uint32 (0,0))):=by
 have hgB:=jF R;have hnD:=hd;obtain⟨p,rfl,Mf,Mg⟩:=hd.la;have MC:=dR p.lm Mg;rw[Mf]at MC;have Nr:=fun(J:World) (q:Nat)=>@zU S J (.slice p.a p.ls.length p.c) Fn g k q rs;generalize A:ln Fn=n at*
 obtain⟨t,rfl⟩:∃t,n=t+1:=by
  cases n with
  |zero=>
   have:Fn<wt 0:=fc.1 (by omega);rw[iG]at this;omega
  |succ t=>exact⟨t,rfl⟩
 obtain⟨dt,Ot⟩:∃q,p.ls[t]? =some q:=⟨_,aA (by omega)⟩
 have hdt0:0<dt:=by
  have:=Mg dt (by rw[List.getLast?_eq_getElem?,MC];exact Ot);omega
 obtain⟨a,ha⟩:∃q,rs[k+t+1]? =some q:=⟨_,aA (by omega)⟩
 obtain⟨b,hb⟩:∃q,rs[k+t]? =some q:=⟨_,aA (by omega)⟩
 have ha32:=Lp.at ha;have QI:=Lp.at hb;have Rr:=p.lm.at Ot;generalize hP:val ((rs.drop k).take (t+1+1))=P at*
 have hguess:P / Fn<=min ((a*4294967296+b) / dt) 4294967295:=by
  refine GQ (low:=val ((rs.drop k).take t)) (Fd:=wt t) (dlow:=val (p.ls.take t)) ?_ ?_ ?_ hdt0 hPD
  ·rw[<-hP,c9 (x:=a) (by rw[List.getElem?_drop];exact ha),c9 (x:=b) (by rw[List.getElem?_drop];exact hb),g8,bS,bO 4294967296 (wt t),bb,bO a];omega
  ·rw[<-Mf,<-c9 Ot,List.take_of_length_le (by omega)]
  ·have V:=mB ((Lp.drop k).take t);have:((rs.drop k).take t).length=t:=by simp;omega
   rwa [this]at V
 refine pw (by simp) ?_;refine⟨(t:Int),wo,?_⟩;refine cC hτ eG [.x 0,.x 1,.x 2,.x 3,.x 4,.x 5,.x 6,.x 7,.x 8,.x 9,.x 10,.x 11,.x 12,.x 13,.x 14,.x 15,.x 16,.x 17] (by kernel_rfl) (by kernel_rfl) ?_;refine⟨((k+t:Nat):Int),wo,((k+t+1:Nat):Int),wo,_,rfl,by omega,.int .u32 a,fun O J r=>Dc R dO.refl r ha,(a:Int),db (by omega),by decide,((a*2^32:Nat):Int),zW (k:=32) (by decide) (by omega),((k+t:Nat):Int),wo,_,rfl,by omega,.int .u32 b,fun O J r=>Dc R dO.refl r hb,(b:Int),db (by omega),?_⟩;have Pz:a*2^32 ||| b=a*4294967296+b:=by
  rw[Nat.or_comm,bO,zX (k:=32) QI];omega
 refine⟨((a*4294967296+b:Nat):Int),by rw[GR (by omega) (by omega),Pz],?_⟩;have hh64:a*4294967296+b<18446744073709551616:=by omega
 generalize a*4294967296+b=high at*
 obtain⟨ad,LH,LO⟩:=p.load X (dO.refl (w:=w)) Ot;refine⟨ad,LH,by omega,.int .u32 dt,LO _ _ _,(dt:Int),db (by omega),by omega,((high / dt:Nat):Int),GS hh64,?_⟩;conv=>whnf
 rw[show min ((high / dt:Nat):Int) 4294967295=((min (high / dt) 4294967295:Nat):Int) by omega];have hm32:min (high / dt) 4294967295<=4294967295:=Nat.min_le_right _ _;generalize min (high / dt) 4294967295=q0 at*
 have hQD:=Nat.div_mul_le_self P Fn;have hQl:∀q,q*Fn<=P->P / Fn<=q->q=P / Fn:=fun q V I=>aS ((Nat.le_div_iff_mul_le hD).2 V) I;have hmod:P % Fn=P-P / Fn*Fn:=by have:=Nat.div_add_mod P Fn;rw[bO]at this;omega
 refine⟨Nat×World,fun z=>⟨[(0,.o (.v (.slice (some ⟨g,0,none⟩) rs.length rs.length))),(1,sV p.a p.ls.length p.c),(2,iZ k),(9,.o (.v (.int .u64 z.1)))],[],0,[],z.2⟩,fun z=>z.1,
  fun z=>dO w.heap.size w z.2/\P / Fn<=z.1/\z.1<=4294967295,?_,?_⟩
 ·intro O J r;exact⟨(q0,J),⟨r.cG,hguess,hm32⟩,Sub.reset r ⟨rfl,rfl,rfl,rfl,trivial⟩ ⟨trivial,trivial,trivial,trivial,trivial⟩⟩
 ·rintro⟨q,w1⟩ ⟨L,NH,Qj⟩;dsimp only at L NH Qj ⊢;conv=>whnf
  refine⟨fun O Y r=>(Nr Y q (fun x F=>by have:=X x F;have:=(L.tr r.cG).size;omega) hgS (hnD.br fun x F=>(L.tr r.cG).block x (X x F)) (by rw[(L.tr r.cG).block g hgB];exact R) Lp W hl (by omega)).mono fun e w3 Z=>?_⟩;rcases Z with⟨h,rfl,hb3⟩|⟨h,rfl,Ll,rs',e1,e2,e3,e4,e5,e6⟩
  ·have hw3:dO w.heap.size w w3:=(L.tr r.cG).tr (hb3.cG r.bs);refine⟨.bool false,[],[],rfl,r.IX hb3.size,?_⟩;have hq3:P / Fn<q:=by
    refine Nat.lt_of_le_of_ne NH fun e=>?_;rw[e]at hQD;omega
   have hq4:0<q:=Nat.lt_of_le_of_lt (aP _) hq3;have hq5:P / Fn<=q-1:=Nat.le_sub_one_of_lt hq3;refine⟨((q-1:Nat):Int),by rw[tt]<;>omega,?_⟩;intro J9 w4 r4;exact⟨(q-1,w4),⟨hw3.tr r4.cG,hq5,by dsimp only;omega⟩,Sub.reset r4 ⟨rfl,rfl,rfl,rfl,trivial⟩ ⟨trivial,trivial,trivial,trivial,trivial⟩,by dsimp only;omega⟩
  ·have hgw:w.grownBy w3 (some g):=fZ (tK (L.tr r.cG)) Ll;refine⟨.bool true,[],[],rfl,r.IX Ll.size,?_⟩;have hq:=hQl q h NH;subst hq;refine⟨((P / Fn:Nat):Int),by rw[eI,bE (by omega)],?_⟩;intro J9 w4 r4;refine⟨rfl,fZ hgw (by have:=r4.oF;exact⟨this.os,this.tape,this.output,this.size,fun j hj _=>this.block j hj (by simp)⟩),rs',e1,e2,e3,e4,by rw[e5,hmod],?_⟩;rw[r4.oF.block g (by have:=hgw.size;omega) (by simp)];exact e6
end Go.Ex
namespace Go.Ex
variable{ms:List Nat}
theorem EP{t dt:Nat}(Lp:Lm ms)(hl:ms.length=t+1)(Ot:ms[t]? =some dt)(h0:0<dt):32-fV dt<32/\ln (val ms*2^(32-fV dt))=t+1:=by
 have Qg:0<fV dt:=by
  rcases bF (fV dt)with h|h
  ·have:=uA.1 (Nat.le_of_eq h);simp at this;omega
  ·exact h
 have QI:fV dt<=32:=uA.2 (Lp.at Ot);have LG:=uA.1 (aE (fV dt));have hv:val ms=val (ms.take t)+wt t*dt:=by rw[<-c9 Ot,List.take_of_length_le (by omega)]
 have LR:=mB (Lp.take t);have hltk:(ms.take t).length=t:=by simp;omega
 rw[hltk]at LR;have L:=ua t;refine⟨by omega,aS ?_ ?_⟩
 ·rw[fc];have V:val ms<wt t*2^fV dt:=by
   have:wt t*(dt+1)<=wt t*2^fV dt:=bZ _ LG;rw[bS]at this;omega
  have I:=Nat.mul_lt_mul_of_pos_right V (bh (32-fV dt));rw[bb,<-Nat.pow_add,Nat.add_sub_cancel' QI]at I;rw[g8,bO 4294967296];exact I
 ·refine Nat.lt_of_not_le fun h=>?_;have V:=fc.1 h;have I:val ms*1<=val ms*2^(32-fV dt):=bZ _ (bh _);have K:wt t*1<=wt t*dt:=bZ _ h0;omega
theorem Ac{rs:List Nat}{Fn F' k:Nat}(Lp:Lm rs)(hDN:Fn<wt F')(W:k+F'+1<=rs.length)(h:val rs<wt (k+1)*Fn):
  val (rs.drop (k+F'+1))=0/\val (rs.drop k)=val ((rs.drop k).take (F'+1))/\val ((rs.drop k).take (F'+1))<4294967296*Fn:=by
 obtain⟨x,F⟩:∃q,rs[k]? =some q:=⟨_,aA (by omega)⟩
 have MR:=Lp.at F;have V:=dq rs (k+1) (by omega);have I:val (rs.drop (k+1))<Fn:=Nat.lt_of_mul_lt_mul_left (a:=wt (k+1)) (by omega);have K:=dq (rs.drop (k+1)) F' (by simp;omega);rw[List.drop_drop,show k+1+F'=k+F'+1 by omega]at K;have h4:val (rs.drop (k+F'+1))=0:=by
  rcases bF (val (rs.drop (k+F'+1)))with h|h
  ·exact h
  ·have:=bZ (wt F') h;omega
 have h5:=dq (rs.drop k) (F'+1) (by simp;omega);rw[List.drop_drop,show k+(F'+1)=k+F'+1 by omega,h4,Nat.mul_zero,bj]at h5;have h6:=gv F;exact⟨h4,h5,by omega⟩
theorem Fg{rs rs' out:List Nat}{Fn F' k P A9:Nat}(hD:0<Fn)(Lp:Lm rs)(hlen:rs'.length=rs.length)(hDN:Fn<wt F')(W:k+F'+1<=rs.length)(h:val rs<wt (k+1)*Fn)(hV:A9=wt (k+1)*(Fn*val (out.drop (k+1)))+val rs)
  (hP:val ((rs.drop k).take (F'+1))=P) (V:rs'.take k=rs.take k) (I:rs'.drop (k+F'+1)=rs.drop (k+F'+1)) (K:val ((rs'.drop k).take (F'+1))=P % Fn) (ho:k<out.length):
  val rs'<wt k*Fn/\A9=wt k*(Fn*val ((out.set k (P / Fn)).drop k))+val rs':=by
 obtain⟨a1,a2,a3⟩:=Ac Lp hDN W h;have b1:=dq rs k (by omega);have b2:=dq rs' k (by omega);have b3:=dq (rs'.drop k) (F'+1) (by simp;omega);rw[List.drop_drop,show k+(F'+1)=k+F'+1 by omega,I,a1,Nat.mul_zero,bj,K]at b3;rw[V,b3]at b2;rw[a2,hP]at b1;have b4:=mB (Lp.take k);have b5:(rs.take k).length=k:=by simp;omega
 rw[b5]at b4;have b6:=bl P hD;have b7:(out.set k (P / Fn))[k]? =some (P / Fn):=by rw[aR ho]
 have b8:=Nat.div_add_mod P Fn;refine⟨?_,?_⟩
 ·have:wt k*(P % Fn+1)<=wt k*Fn:=bZ _ b6;rw[bS]at this;omega
 ·rw[gv b7,List.drop_set_of_lt (show k<k+1 by omega),hV,b1,b2,g8];generalize val (out.drop (k+1))=o;have c1:wt k*P=wt k*(Fn*(P / Fn))+wt k*(P % Fn):=by rw[<-bS,b8]
  have c2:4294967296*wt k*(Fn*o)=wt k*(Fn*(4294967296*o)):=by
   rw[bO 4294967296,bb,Nat.mul_left_comm 4294967296]
  rw[c1,c2,bS Fn,bS (wt k)];omega
theorem ER{n m b:Nat}(hm:0<m)(RA:m<=n):n*2^b<wt (ln n+1-ln m)*(m*2^b):=by
 have V:=jv n;have I:=gM RA;have K:wt (ln m-1)<=m:=by
  refine Nat.le_of_not_lt fun h=>?_;have:=fc.2 h;have h4:0<ln m:=by
   rcases bF (ln m)with h|h
   ·have:=fc.1 (Nat.le_of_eq h);rw[iG]at this;omega
   ·exact h
  omega
 have h4:0<ln m:=by
  rcases bF (ln m)with h|h
  ·have:=fc.1 (Nat.le_of_eq h);rw[iG]at this;omega
  ·exact h
 have h5:wt (ln n)<=wt (ln n+1-ln m)*m:=by
  rw[show ln n=(ln n+1-ln m)+(ln m-1) by omega,zC,show(ln n+1-ln m)+(ln m-1)+1-ln m=ln n+1-ln m by omega];exact bZ _ K
 rw[<-bb];exact Nat.mul_lt_mul_of_pos_right (Nat.lt_of_lt_of_le V h5) (bh b)
theorem H2{n m b o r:Nat}(hm:0<m)(V:n*2^b=m*2^b*o+r)(I:r<m*2^b):o=n / m/\r / 2^b=n % m:=by
 have hp:=bh b;have K:n*2^b / (m*2^b)=o:=by rw[V,Nat.mul_add_div (Nat.mul_pos hm hp),Nat.div_eq_of_lt I,bj]
 have h4:n*2^b % (m*2^b)=r:=by rw[V,Nat.mul_add_mod,bE I]
 rw[Nat.mul_div_mul_right _ _ hp]at K;rw[Nat.mul_mod_mul_right]at h4;exact⟨K.symm,by rw[<-h4,Nat.mul_div_cancel _ hp]⟩
end Go.Ex
namespace Go.Ex
open Go Go.Sx Go.Proofs
variable{H:Hp}{x y z:Int}{iv:Iv}{ls:List Nat}{n nx:Nat}{S:Nat->Prop}{O:Nat->Sx.cd}{u v:Value}{w J w1:World}
theorem Dd{g:Nat}{rs:List Nat}(R:w.heap[g]? =some (.cells (EQ rs).toArray T.uint32 (0,0)))(Lp:Lm rs)(hl:rs.length<=1000000000000):
  cR w (fun x=>x=g) (.slice (some ⟨g,0,none⟩) rs.length rs.length) rs:=by
 have:=Da (k:=0) (m:=rs.length) (c:=rs.length) R Lp (by omega) (aE _) hl
 rwa [List.drop_zero,bQ]at this
theorem oG{m:Nat}(X:Old S w)(A:dC w S v n)(hm:dC w S u m)(QM:0<m)(QO:ln n<=100000000000):
  eF PG F'.lS #[v,u] w (eM w fun v' Y=>∃q r,v'= .tuple #[q,r]/\dC Y (Nf w Y) q (n / m)/\dC Y (Nw S w Y) r (n % m)):=by
 have hnN:=A;have Pm:=hm;obtain⟨x,rfl,Mf,Mg⟩:=A.la;obtain⟨y,rfl,NH,Qj⟩:=hm.la;have Mo:=dR x.lm Mg;have RB:=dR y.lm Qj;rw[Mf]at Mo;rw[NH]at RB;refine ox (by simp) ?_;refine bp (bz (Id:=fun _ _ v _=>v= .int .i64 (py n m)) (fun O J r=>GP (S:=S) (fun g R=>by have:=X g R;have:=r.cG.size;omega) (hnN.br fun g R=>r.cG.block g (X g R)) (Pm.br fun g R=>r.cG.block g (X g R))) ?_);rintro O w1 v1 Y r Z L rfl;refine ct.mk ?_ ?_<;>intro h
 ·have h:n<m:=by
   have:=aL h;unfold py at this;split at this
   ·assumption
   ·split at this<;>omega
  intro In w3 D;refine⟨_,rfl,L.tr D.cG,_,_,rfl,?_,?_⟩
  ·rw[Nat.div_eq_of_lt h];exact dC.nil _ _
  ·rw[bE h];exact(hnN.br fun g R=>(L.tr D.cG).block g (X g R)).bw fun g R=>.inl R
 have h:m<=n:=by
  have:=aI h;unfold py at this;split at this
  ·omega
  ·omega
 have hlmn:=gM h;refine ct.mk ?_ ?_<;>intro V
 ·have V:y.ls.length=1:=by have:=eq_of_beq V;omega
  obtain⟨b,Qf⟩:=List.length_eq_one_iff.1 V;have hb:y.ls[0]? =some b:=by rw[Qf];rfl
  have QI:=y.lm.at hb;have OK:m=b:=by rw[<-NH,Qf];simp[val]
  subst OK;obtain⟨ad,LH,LO⟩:=y.load X L hb;refine⟨ad,LH,by omega,.int .u32 m,LO _ _ _,?_⟩;refine bp (bz (Id:=fun _ J v Y=>∃q,v= .tuple #[q,.int .u32 ((val x.ls % m:Nat):Int)]/\dC Y (Nf J Y) q (val x.ls / m)) (fun O J r=>?_) ?_)
  ·refine Hn (S:=S) (fun g R=>by have:=X g R;have:=(L.tr r.cG).size;omega) ⟨x.lm,x.le,_,_,rfl,x.cap,fun j u hu=>?_⟩ (by omega) QM QI;obtain⟨ad,e1,e2,e3⟩:=x.cell j u hu;exact⟨ad,e1,e2,lV X L r e2 e3⟩
  rintro O w3 v3 w4 r Z OJ ⟨q,rfl,hq⟩;replace L:=L.tr OJ;have QA:=hq.df (S:=FF) r.bs (iv:=(w3.heap.size,w4.heap.size)::[(w1.heap.size,Y.heap.size)]) aH;rw[Mf]at QA;rw[Mf];generalize (w3.heap.size,w4.heap.size)::[(w1.heap.size,Y.heap.size)]=iv at*
  have ND:n % m<m:=bl _ QM;generalize n % m=rem at*
  refine fU (Id:=fun O _ v Y=>cR Y (fun g=>g=(O 0).g) v (dA [rem])) (H':=[]) 0 rfl (by simp) trivial rfl (fun O J r=>r.nn 0 _ rfl (by intros;simp) (by simp)) (fun O J r=>?_) ?_
  ·have hL:=r.rA (id:=0) (ls:=[rem]) rfl (by intro x F;simp at F;omega) (by simp);exact eO (fun g R=>by rw[R];exact(r.low 0 _ rfl (r.nn 0 _ rfl (by intros;simp) (by simp))).2) hL
  rintro O w5 v5 w6 r Z Rs hL;have LR:=r.low 0 _ rfl (r.nn 0 _ rfl (by intros;simp) (by simp));have hs:=Z.size;replace L:=L.tr Rs;replace QA:=QA.bu (E:=((O 0).g,(O 0).g+1)::(w5.heap.size,w6.heap.size)::iv) r (fun g h=>h.elim) Z fun x F=>by simp[F]
  generalize (O 0).g=g0 at*
  have RD:dC w6 (Cf w ((g0,g0+1)::(w5.heap.size,w6.heap.size)::iv)) v5 rem:=by
   have:=hL.trimmed;simp only[val,Nat.mul_zero,bj]at this;exact this.bw fun k W=>.inr ⟨by omega,g0,g0+1,by simp,by omega,by omega⟩
  generalize (g0,g0+1)::(w5.heap.size,w6.heap.size)::iv=Kx at*
  intro In w7 D;exact⟨_,rfl,L.tr D.cG,_,_,rfl,(QA.rel D fun g h=>h.elim).bw fun g R=>Cv.nw R D,((RD.rel D fun g h=>h.elim).bw fun g R=>Cv.nw R D).bw fun g R=>R.elim (fun h=>h.elim) .inr⟩
 ·have V:y.ls.length≠1:=fun e=>by rw[e]at V;simp at V
  have Ov:0<ln m:=by
   rcases bF (ln m)with h|h
   ·have:=fc.1 (Nat.le_of_eq h);rw[iG]at this;omega
   ·exact h
  obtain⟨t,ht⟩:∃t,y.ls.length=t+1:=⟨y.ls.length-1,by omega⟩
  obtain⟨dt,Ot⟩:∃q,y.ls[t]? =some q:=⟨_,aA (by omega)⟩
  have hdt0:0<dt:=by
   have:=Qj dt (by rw[List.getLast?_eq_getElem?,ht];exact Ot);omega
  have Rr:=y.lm.at Ot;obtain⟨L0,RE⟩:=EP y.lm ht Ot hdt0;rw[NH]at RE;obtain⟨ad,LH,LO⟩:=y.load X L Ot;refine⟨(t:Int),wo,ad,LH,by omega,.int .u32 dt,LO _ _ _,?_⟩;refine bp (bz (Id:=fun _ _ v _=>v= .int .i64 ((32-fV dt:Nat):Int)) (fun O J r=>JG dt J Rr) ?_);rintro O w3 v3 w4 r Z OJ rfl;replace L:=L.tr OJ;generalize hbyd:32-fV dt=b at*
  refine⟨(b:Int),db (by omega),?_⟩;refine bp (bz (Id:=fun _ J v Y=>∃out,GU J Y v out/\out.length=y.ls.length+1/\val out=val y.ls*2^b) (fun O J r=>?_) ?_)
  ·refine yS (S:=S) (fun g R=>by have:=X g R;have:=(L.tr r.cG).size;omega) ⟨y.lm,y.le,_,_,rfl,y.cap,fun j u hu=>?_⟩ (by omega) L0;obtain⟨ad,e1,e2,e3⟩:=y.cell j u hu;exact⟨ad,e1,e2,lV X L r e2 e3⟩
  rintro O w5 v5 w6 r Z Rs ⟨dl,⟨gd,rfl,hgd1,hgd2,hgd3⟩,Oj,hdv⟩;replace L:=L.tr Rs;rw[NH]at hdv;have hB5:w.heap.size<=w5.heap.size:=r.bs;have OD:Cf w ((w5.heap.size,w6.heap.size)::[(w3.heap.size,w4.heap.size),(w1.heap.size,Y.heap.size)]) gd:=.inr ⟨by omega,_,_,aH,hgd1,jF hgd2⟩;generalize (w5.heap.size,w6.heap.size)::[(w3.heap.size,w4.heap.size),(w1.heap.size,Y.heap.size)]=iv at*
  have hF:∀g:Nat,(fun _:Nat=>False) g->g<w.heap.size:=fun g h=>h.elim;refine bp (bz (Id:=fun _ _ v Y=>cR Y (fun x=>x=gd) v (dA dl)) (fun O J r=>eO (fun g R=>by rw[R];exact Rel.old r hF gd OD) (Dd (by rw[Rel.same r hF OD];exact hgd2) hgd3 (by omega))) ?_);rintro O w7 v6 w8 r Z hb8 hL;replace L:=L.tr hb8;have hgd8:gd<w8.heap.size:=by have:=Rel.old r hF gd OD;have:=Z.size;omega
  replace OD:=OD.mono (E:=(w7.heap.size,w8.heap.size)::iv) fun p hp=>aB _ hp;have QL:=hL.trimmed;rw[hdv]at QL;generalize (w7.heap.size,w8.heap.size)::iv=iv at*
  obtain⟨dp,rfl,OP,LZ⟩:=QL.la;have hdpl:=dR dp.lm LZ;rw[OP,RE]at hdpl;generalize hDd:m*2^b=Fn at*
  have hD0:0<Fn:=by rw[<-hDd];exact Nat.mul_pos QM (bh b)
  refine bp (bz (Id:=fun _ J v Y=>∃out,GU J Y v out/\out.length=x.ls.length+1/\val out=val x.ls*2^b) (fun O J r=>?_) ?_)
  ·refine yS (S:=S) (fun g R=>by have:=X g R;have:=(L.tr r.cG).size;omega) ⟨x.lm,x.le,_,_,rfl,x.cap,fun j u hu=>?_⟩ (by omega) L0;obtain⟨ad,e1,e2,e3⟩:=x.cell j u hu;exact⟨ad,e1,e2,lV X L r e2 e3⟩
  rintro O w9 v9 w10 r Z hb10 ⟨rs0,⟨gr,rfl,hgr1,hgr2,hgr3⟩,Mz,hrv⟩;replace L:=L.tr hb10;rw[Mf]at hrv;have hB9:w.heap.size<=w9.heap.size:=r.bs;have Ok:Cf w ((w9.heap.size,w10.heap.size)::iv) gr:=.inr ⟨by omega,_,_,aH,hgr1,jF hgr2⟩;have Kq:gr≠gd:=by have:=r.size;omega
  replace QL:dC w10 (fun x=>x=gd) (.slice dp.a dp.ls.length dp.c) Fn:=QL.br fun x F=>by
   rw[F,Z.block gd (Rel.old r hF gd OD),Rel.same r hF OD]
  have hgd10:gd<w10.heap.size:=by have:=Rel.old r hF gd OD;have:=Z.size;omega
  replace OD:=OD.mono (E:=(w9.heap.size,w10.heap.size)::iv) fun p hp=>aB _ hp;generalize (w9.heap.size,w10.heap.size)::iv=iv at*
  have hgrB:w.heap.size<=gr:=by omega
  obtain⟨C9,hL⟩:∃C9,rs0.length=t+1+C9:=⟨rs0.length-(t+1),by omega⟩
  refine⟨(C9:Int),wo,C9,C9,rfl,rfl,aE _,by omega,by omega,(C9:Int)-1,wo,Nat×List Nat×List Nat×World,fun z=>⟨[(8,.o (.v (.int .u64 b))),(9,sV dp.a dp.ls.length dp.c),(10,.o (.v (.slice (some ⟨gr,0,none⟩) rs0.length rs0.length))),(11,.o (.s 0 0 C9 C9)),(12,.o (.v (.int .i64 ((z.1:Int)-1))))],
    [(0,.arr T.uint32 (EQ z.2.1))],1,iv,z.2.2.2⟩,fun z=>z.1,
   fun z=>z.1<=C9/\dO w.heap.size w z.2.2.2/\z.2.1.length=C9/\z.2.2.1.length=rs0.length/\Lm z.2.1/\Lm z.2.2.1/\z.2.2.2.heap[gr]? =some (.cells (EQ z.2.2.1).toArray T.uint32 (0,0))/\dC z.2.2.2 (fun x=>x=gd) (.slice dp.a dp.ls.length dp.c) Fn/\
    gd<z.2.2.2.heap.size/\val z.2.2.1<wt z.1*Fn/\n*2^b=wt z.1*(Fn*val (z.2.1.drop z.1))+val z.2.2.1,?_,?_⟩
  ·intro O J r;rw[pz]at r;refine⟨(C9,List.replicate C9 0,rs0,J),⟨aE _,L.tr r.cG,by simp,rfl,Lm.replicate _,hgr3,?_,?_,?_,?_,?_⟩,Sub.gn [] r⟩
   ·dsimp only;rw[Rel.same r hF Ok];exact hgr2
   ·exact QL.br fun x F=>by rw[F];exact Rel.same r hF OD
   ·exact Rel.old r hF gd OD
   ·dsimp only
    have:=ER (b:=b) QM h;rw[hDd,<-RB,ht,<-Mo,show x.ls.length+1-(t+1)=C9 by omega]at this;rw[hrv];exact this
   ·dsimp only;rw[hrv];simp[val]
  ·rintro⟨k,out,rs,w11⟩ ⟨W,L,MN,Ow,Oo,hlr,Ll,QL,NP,hi1,Qh⟩;dsimp only at W L MN Ow Oo hlr Ll QL NP hi1 Qh ⊢;refine ct.mk ?_ ?_<;>intro h9
   ·have h9:(k:Int)-1≥0:=aL h9;obtain⟨k,rfl⟩:∃q,k=q+1:=⟨k-1,by omega⟩
    rw[show ((k+1:Nat):Int)-1=(k:Int) by omega];have hDN:Fn<wt (t+1):=fc.1 (Nat.le_of_eq RE);obtain⟨a1,a2,a3⟩:=Ac (F':=t+1) hlr hDN (by omega) hi1;have hdig:=fun(J:World)=>@Hm (fun x=>x=gd) J (.slice dp.a dp.ls.length dp.c) Fn gr k rs;rw[RE]at hdig;simp only[Ow]at hdig;generalize hP:val ((rs.drop k).take (t+1+1))=P at*
    have hQ32:P / Fn<4294967296:=(Nat.div_lt_iff_lt_mul hD0).2 (by rw[bO]at a3;omega);refine⟨fun O J r=>(hdig J (fun g R=>by rw[R];exact Rel.old r hF gd OD) Kq (QL.br fun x F=>by rw[F];exact Rel.same r hF OD) hD0 (by rw[Rel.same r hF Ok];exact Ll) hlr (by omega) (by omega) a3).mono fun e w12 Z=>?_⟩;obtain⟨rfl,hgb,rs',e1,e2,e3,e4,e5,e6⟩:=Z;refine⟨_,_,_,rfl,r.uX (fun id b hb A=>Rel.not r hF Ok id b hb A) hgb,?_⟩;obtain⟨hi1',hi2'⟩:=Fg (F':=t+1) hD0 hlr (e1.trans Ow.symm) hDN (by omega) hi1 Qh hP e3 e4 e5 (by omega);have hw12:dO w.heap.size w w12:=(L.tr r.cG).tr (dO.grown hgb (fun g R=>by injection R with R;omega) r.bs);have hdN12:dC w12 (fun x=>x=gd) (.slice dp.a dp.ls.length dp.c) Fn:=QL.br fun x F=>by
     rw[F,hgb.block gd (Rel.old r hF gd OD) (fun e=>Kq (Option.some.inj e).symm),Rel.same r hF OD]
    have hgd12:gd<w12.heap.size:=by have:=Rel.old r hF gd OD;have:=hgb.size;omega
    generalize P / Fn=Q at*
    refine⟨by omega,by rw[fK];omega,EQ (out.set k Q),gh out k _ (by omega) (by simp),(k:Int)-1,wo,?_⟩;intro In w3 D
    refine⟨(k,out.set k Q,rs',w3),⟨by dsimp only;omega,hw12.tr D.cG,by simp[MN],e1.trans rfl,Oo.set hQ32,e2,?_,?_,?_,hi1',hi2'⟩,
     Sub.gn [] D,by dsimp only;omega⟩
    ·dsimp only;rw[Rel.same D hF Ok];exact e6
    ·exact hdN12.br fun x F=>by rw[F];exact Rel.same D hF OD
    ·exact Rel.old D hF gd OD
   ·have Qz:k=0:=by
     have:¬(k:Int)-1≥0:=aI h9;omega
    subst Qz;rw[iG,Nat.one_mul,List.drop_zero]at Qh;rw[iG,Nat.one_mul]at hi1;rw[<-hDd]at hi1 Qh;obtain⟨hq,hrem⟩:=H2 QM Qh hi1;have Nj:∀J:World,J.heap[gr]? =some (.cells (EQ rs).toArray T.uint32 (0,0))->cR J (fun x=>x=gr) (.slice (some ⟨gr,0,none⟩) rs0.length rs0.length) rs:=fun J hh=>by
     have:=Dd hh hlr (by omega)
     rwa [Ow]at this
    refine fU (Id:=fun O _ v Y=>cR Y (fun g=>g=(O 0).g) v (dA out)) (H':=[]) 0 rfl (by simp) trivial rfl (fun O J r=>r.nn 0 _ rfl (by intros;simp) (by simp)) (fun O J r=>?_) ?_
    ·have hL:=r.lW (id:=0) rfl Oo (by omega);rw[MN]at hL;exact eO (fun g R=>by rw[R];exact(r.low 0 _ rfl (r.nn 0 _ rfl (by intros;simp) (by simp))).2) hL
    rintro O w13 v13 w14 r Z hb14 hL;replace L:=L.tr hb14;have LR:=r.low 0 _ rfl (r.nn 0 _ rfl (by intros;simp) (by simp));have hs:=Z.size;have hgr14:w14.heap[gr]? =some (.cells (EQ rs).toArray T.uint32 (0,0)):=by rw[Z.block gr (Rel.old r hF gr Ok),Rel.same r hF Ok];exact Ll
    replace Ok:=Ok.mono (E:=((O 0).g,(O 0).g+1)::(w13.heap.size,w14.heap.size)::iv) fun p hp=>by simp[hp]
    have QA:dC w14 (Cf w (((O 0).g,(O 0).g+1)::(w13.heap.size,w14.heap.size)::iv)) v13 (n / m):=by
     have:=hL.trimmed;rw[hq]at this;exact this.bw fun k W=>.inr ⟨by omega,_,_,aH,by omega,by omega⟩
    generalize ((O 0).g,(O 0).g+1)::(w13.heap.size,w14.heap.size)::iv=LV at*
    refine bp (bz (Id:=fun _ _ v Y=>cR Y (fun x=>x=gr) v (dA rs)) (fun O J r=>eO (fun g R=>by rw[R];exact Rel.old r hF gr Ok) (Nj J (by rw[Rel.same r hF Ok];exact hgr14))) ?_);rintro O w15 v15 w16 r Z hb16 hL;replace L:=L.tr hb16;replace QA:=QA.bu (E:=(w15.heap.size,w16.heap.size)::LV) r hF Z fun x F=>aB _ F;replace hL:=hL.bw (S':=Cf w ((w15.heap.size,w16.heap.size)::LV)) fun g R=>by rw[R];exact Ok.cons
    generalize (w15.heap.size,w16.heap.size)::LV=MD at*
    have Rp:(dA rs).length<=rs.length:=by
     obtain⟨_,_,k,_,W⟩:=eA rs;rw[W];simp;omega
    refine bp (bz (Id:=fun _ J v Y=>dC Y (Nf J Y) v (val (dA rs) / 2^b)) (fun O J r=>JI (Rel.old r hF) (cR.rel hL r hF) (by omega) L0) ?_);rintro O w17 v17 w18 r Z hb18 hr;replace L:=L.tr hb18;rw[(eA rs).1,hrem]at hr;have RD:=hr.df (S:=FF) r.bs (iv:=(w17.heap.size,w18.heap.size)::MD) aH;replace QA:=QA.bu (E:=(w17.heap.size,w18.heap.size)::MD) r hF Z fun x F=>aB _ F;generalize (w17.heap.size,w18.heap.size)::MD=OT at*
    intro In w19 D;exact⟨_,rfl,L.tr D.cG,_,_,rfl,(QA.rel D hF).bw fun g R=>Cv.nw R D,((RD.rel D hF).bw fun g R=>Cv.nw R D).bw fun g R=>R.elim (fun h=>h.elim) .inr⟩
theorem BQ{m:Nat}(X:Old S w)(A:dC w S v n)(hm:dC w S u m)(QO:ln n<=100000000000)(Lp:ln m<=100000000000):
  eF PG F'.qi #[v,u] w (eM w fun v' Y=>dC Y (Nw S w Y) v' (Nat.gcd n m)):=by
 refine tc (by simp) ?_
 refine⟨(Value×Nat)×(Value×Nat)×Iv×World,fun z=>⟨[(0,.o (.v z.1.1)),(1,.o (.v z.2.1.1))],[],0,z.2.2.1,z.2.2.2⟩,fun z=>z.2.1.2,
  fun z=>dO w.heap.size w z.2.2.2/\dC z.2.2.2 (Cv S w.heap.size z.2.2.1) z.1.1 z.1.2/\dC z.2.2.2 (Cv S w.heap.size z.2.2.1) z.2.1.1 z.2.1.2/\ln z.1.2<=100000000000/\ln z.2.1.2<=100000000000/\Nat.gcd z.1.2 z.2.1.2=Nat.gcd n m,?_,?_⟩
 ·intro O J r
  exact⟨((v,n),(u,m),[],J),⟨r.cG,(A.br fun g R=>r.cG.block g (X g R)).bw fun _ R=>.inl R,(hm.br fun g R=>r.cG.block g (X g R)).bw fun _ R=>.inl R,QO,Lp,rfl⟩,
   Sub.gen [] r trivial ⟨rfl,rfl,trivial⟩ trivial (by simp[lj,SV.sc,At.sc]) (by rfl) (by simp)⟩
 ·rintro⟨⟨vx,x⟩,⟨vy,y⟩,iv,w1⟩ ⟨L,F,hy,Lw,NQ,R⟩;dsimp only at L F hy Lw NQ R ⊢;have hyN:=hy;obtain⟨p,rfl,Mf,Mg⟩:=hy.la;have MC:=dR p.lm Mg;rw[Mf]at MC;refine ct.mk ?_ ?_<;>intro h
  ·have h:0<p.ls.length:=by
    have:(p.ls.length:Int)>0:=aL h;omega
   have Nt:0<y:=by
    rcases bF y with h0|h0
    ·rw[h0]at MC;rw[HY]at MC;omega
    ·exact h0
   refine bp (bz (Id:=fun _ J v Y=>∃q r,v= .tuple #[q,r]/\dC Y (Nf J Y) q (x / y)/\dC Y (Nw (Cv S w.heap.size iv) J Y) r (x % y)) (fun O J r=>oG (Rel.old r X) (F.rel r X) (hyN.rel r X) Nt Lw) ?_);rintro O w3 v3 w4 r Z OJ ⟨q,rm,rfl,-,hr⟩;replace L:=L.tr OJ;have RD:dC w4 (Cv S w.heap.size ((w3.heap.size,w4.heap.size)::iv)) rm (x % y):=hr.bw fun g R=>Nw.cv R r.bs;have hyN:=hyN.bu (E:=(w3.heap.size,w4.heap.size)::iv) r X Z fun x F=>aB _ F;generalize (w3.heap.size,w4.heap.size)::iv=Kx at*
   intro J' w5 r5
   refine⟨((_,y),(rm,x % y),Kx,w5),⟨L.tr r5.cG,hyN.rel r5 X,RD.rel r5 X,NQ,a9 (gM (Nat.le_of_lt (bl x Nt))) NQ,?_⟩,
    Sub.gen [] r5 trivial ⟨rfl,rfl,trivial⟩ trivial (by simp[lj,SV.sc,At.sc]) (by rfl) (by simp),bl x Nt⟩
   dsimp only
   rw[<-R,Nat.gcd_comm x y,Nat.gcd_rec y x,Nat.gcd_comm]
  ·have h:p.ls.length=0:=by
    have:¬(p.ls.length:Int)>0:=aI h;omega
   have Nt:y=0:=by
    have:=jv y;rw[<-MC,h,iG]at this;omega
   rw[Nt,Nat.gcd_zero_right]at R;intro J' w5 r5;exact⟨_,rfl,L.tr r5.cG,by rw[<-R];exact(F.rel r5 X).bw fun g R=>Cv.nw R r5⟩
def sg(neg:Bool)(n:Nat):Int:=if neg then -(n:Int)else n
theorem Hy(n:Nat):sg true n= -(n:Int):=rfl
theorem JN(n:Nat):sg false n=n:=rfl
theorem sQ(b:Bool)(n:Nat):(sg b n).natAbs=n:=by cases b<;>simp[sg]
def sR(w:World)(S:Nat->Prop)(v:Value)(neg:Bool)(ls:List Nat):Prop:=∃lv,v= .agg #[.bool neg,lv]/\cR w S lv ls
def dU(w:World)(S:Nat->Prop)(v:Value)(z:Int):Prop:=∃nv,v= .agg #[.bool (decide (z<0)),nv]/\dC w S nv z.natAbs
section
variable{S S':Nat->Prop}{H:Hp}{nx:Nat}{iv E:Iv}{B:Nat}{w J Y:World}{O:Nat->Sx.cd}{v:Value}{z:Int}
theorem dU.br(h:dU w S v z)(W:∀g,S g->Y.heap[g]? =w.heap[g]?):dU Y S v z:=by
 obtain⟨nv,V,I⟩:=h;exact⟨nv,V,I.br W⟩
theorem dU.bw(h:dU w S v z)(W:∀g,S g->S' g):dU w S' v z:=by
 obtain⟨nv,V,I⟩:=h;exact⟨nv,V,I.bw W⟩
theorem dU.rel(h:dU w (Cv S B iv) v z)(r:Rel H nx iv B w O J)(X:∀g,S g->g<B):dU J (Cv S B iv) v z:=h.br fun _ R=>Rel.same r X R
theorem dU.bu(h:dU w (Cv S B iv) v z)(r:Rel H nx iv B w O J)(X:∀g,S g->g<B)(Z:Ext J Y)(hm:∀p,p∈iv->p∈E):dU Y (Cv S B E) v z:=by
 obtain⟨nv,V,I⟩:=h;exact⟨nv,V,I.bu r X Z hm⟩
theorem dU.df(h:dU Y (Nf J Y) v z)(hB:B<=J.heap.size)(hm:(J.heap.size,Y.heap.size)∈iv):dU Y (Cv S B iv) v z:=h.bw fun _ R=>R.df hB hm
end
theorem sS{k:Nat}(h:k=ln n):0<k↔0<n:=by
 have V:=@fc n 0;rw[iG]at V;omega
theorem cR.shape(h:cR w S v ls):∃a n c,v= .slice a n c:=by
 obtain⟨a,c,h,_⟩:=h.sl;exact⟨a,_,c,h⟩
theorem dC.shape(h:dC w S v n):∃a n c,v= .slice a n c:=by
 obtain⟨_,h,_⟩:=h;exact h.shape
theorem cR.arg(h:cR w S v ls)(iv:Iv):cR w (Cv S w.heap.size iv) v ls:=h.bw fun _ h=>.inl h
theorem dC.arg(h:dC w S v n)(iv:Iv):dC w (Cv S w.heap.size iv) v n:=h.bw fun _ h=>.inl h
theorem dC.out(h:dC w1 (Cv S w.heap.size iv) v n)(r:Rel H nx iv w.heap.size w1 O J)(X:Old S w):dC J (Nw S w J) v n:=
 (h.rel r X).bw fun _ R=>Cv.nw R r
theorem dU.out(h:dU w1 (Cv S w.heap.size iv) v z)(r:Rel H nx iv w.heap.size w1 O J)(X:Old S w):dU J (Nw S w J) v z:=
 (h.rel r X).bw fun _ R=>Cv.nw R r
theorem neg_pos{k:Nat}(h:k=ln n):decide ((k:Int)>0)=decide (-(n:Int)<0):=by
 have:=sS h;exact decide_eq_decide.2 (by omega)
theorem bo(w:World):Old FF w:=fun _ h=>h.elim
theorem KU{neg:Bool}(X:Old S w)(h:sR w S v neg ls):
  eF PG F'.wC #[v] w (eM w fun v' Y=>dU Y (Nw S w Y) v' (sg neg (val ls))):=by
 obtain⟨lv,rfl,hl⟩:=h;replace hl:=hl.arg [];refine BE (by simp) ?_;refine bp (bz (Id:=fun _ _ v Y=>cR Y (Cv S w.heap.size []) v (dA ls)) (fun O J r=>eO (Rel.old r X) (cR.rel hl r X)) ?_);rintro O w1 v1 Y r Z L hL;have hN:=hL.trimmed.bw (S':=Cv S w.heap.size [(w1.heap.size,Y.heap.size)]) fun _ R=>R.cons;have hN2:=hN;obtain⟨p,rfl,Mf,Mg⟩:=hN.la;have MC:=dR p.lm Mg;rw[Mf]at MC
 cases neg
 ·intro In w3 D;exact⟨_,rfl,L.tr D.cG,_,rfl,by rw[sQ];exact hN2.out D X⟩
 ·intro In w3 D;exact⟨_,rfl,L.tr D.cG,_,by rw[Hy,<-neg_pos MC];rfl,by rw[sQ];exact hN2.out D X⟩
theorem Gj(X:Old S w)(h:dU w S v z)(QO:ln z.natAbs<=100000000000):
  eF PG F'.ke #[v] w (eM w fun v' Y=>∃ls,sR Y (Nf w Y) v' (decide (z<0)) ls/\Nz ls/\val ls=z.natAbs):=by
 obtain⟨nv,rfl,A⟩:=h;obtain⟨ls,hl,hz,hv⟩:=A;replace hl:=hl.arg [];refine oB (by simp) ?_;refine bp (bz (Id:=fun _ _ v Y=>cR Y (Cv S w.heap.size []) v (dA ls)) (fun O J r=>eO (Rel.old r X) (cR.rel hl r X)) ?_);rintro O w1 v1 Y r Z L hL;rw[AW hz]at hL;have MC:=dR hl.lm hz;rw[hv]at MC;replace hL:=hL.bw (S':=Cv S w.heap.size [(w1.heap.size,Y.heap.size)]) fun _ R=>R.cons;have Pq:=hL;obtain⟨p,rfl,hp⟩:=hL.la;have Qm:(p.ls.length:Int)>0↔z≠0:=by
  have V:=sS MC;rw[hp];omega
 subst hp;generalize hb:decide (z<0)=b
 cases b
 all_goals
  refine bp (bz (Id:=fun _ J v Y=>cR Y (Nf J Y) v p.ls) (fun O J r=>D9 (Rel.old r X) (cR.rel Pq r X) (by omega)) ?_);rintro O w3 v3 w4 r Z OJ hc;replace L:=L.tr OJ;have OV:=hc.df (S:=FF) r.bs (iv:=(w3.heap.size,w4.heap.size)::[(w1.heap.size,Y.heap.size)]) aH;obtain⟨a3,n3,c3,rfl⟩:=OV.shape;intro J' w5 r5;refine⟨_,rfl,L.tr r5.cG,p.ls,⟨_,?_,(cR.rel OV r5 (bo w)).bw fun _ R=>Cv.nw R r5⟩,hz,hv⟩
 ·rfl
 ·have:decide ((p.ls.length:Int)>0)=true:=bY (Qm.2 (by have:=aL hb;omega));rw[<-this];rfl
theorem wu(h:dU w S v z):eF PG F'.k9 #[v] w (eM w fun v' _=>v'= .int .i64 z.sign):=by
 obtain⟨nv,rfl,A⟩:=h;obtain⟨p,rfl,Mf,Mg⟩:=A.la;have MC:=dR p.lm Mg;rw[Mf]at MC;have Qm:=sS MC;generalize hb:decide (z<0)=b;refine nu (by simp) ?_;refine ct.mk ?_ ?_<;>intro h
 ·have h:p.ls.length=0:=by have:=eq_of_beq h;omega
  have hz:z=0:=by omega
  subst hz;intro O Y r;exact⟨_,rfl,r.cG,rfl⟩
 ·have h:p.ls.length≠0:=fun e=>by rw[e]at h;simp at h
  have hz:z≠0:=by omega
  cases b
  ·have:=aI hb;intro O Y r;exact⟨_,rfl,r.cG,by rw[ba (by omega)];rfl⟩
  ·have:=aL hb;intro O Y r;exact⟨_,rfl,r.cG,by rw[bU (by omega)];rfl⟩
theorem mg(X:Old S w)(h:dU w S v z):eF PG F'.kH #[v] w (eM w fun v' Y=>dU Y (Nw S w Y) v' (-z)):=by
 obtain⟨nv,rfl,A⟩:=h;have OB:=A.arg [];obtain⟨p,rfl,Mf,Mg⟩:=A.la;have MC:=dR p.lm Mg;rw[Mf]at MC;have Qm:=sS MC;have M8:(-z).natAbs=z.natAbs:=Int.natAbs_neg z;generalize hb:decide (z<0)=b;refine nC (by simp) ?_
 cases b
 ·have:=aI hb;have hd:decide ((p.ls.length:Int)>0)=decide (-z<0):=decide_eq_decide.2 (by omega);intro O Y r;exact⟨_,rfl,r.cG,_,by rw[<-hd];rfl,by rw[M8];exact OB.out r X⟩
 ·have:=aL hb;have hd:decide (-z<0)=false:=bI (by omega);intro O Y r;exact⟨_,rfl,r.cG,_,by rw[hd];rfl,by rw[M8];exact OB.out r X⟩
theorem dU.num(h:dU w S v z):∃a n c,v= .agg #[.bool (decide (z<0)),.slice a n c]/\dC w S (.slice a n c) z.natAbs:=by
 obtain⟨nv,V,I⟩:=h;obtain⟨a,n,c,rfl⟩:=I.shape;exact⟨a,n,c,V,I⟩
theorem y9(X:Old S w)(F:dU w S v x)(hy:dU w S u y)(Lw:ln x.natAbs<=100000000000)(NQ:ln y.natAbs<=100000000000):
  eF PG F'.kg #[v,u] w (eM w fun v' Y=>dU Y (Nf w Y) v' (x+y)):=by
 obtain⟨nx,rfl,NK⟩:=F;obtain⟨ny,rfl,OW⟩:=hy;obtain⟨ax,lx,cx,rfl⟩:=NK.shape;obtain⟨ay,ly,cy,rfl⟩:=OW.shape;replace NK:=NK.arg [];replace OW:=OW.arg [];generalize RN:decide (x<0)=bx;generalize L0:decide (y<0)=b2;refine oD (by simp) ?_;have ON:bx=b2->(x+y).natAbs=x.natAbs+y.natAbs/\decide (x+y<0)=bx:=fun e=>by
  cases bx<;>subst e
  ·have V:=aI RN;have I:=aI L0;exact⟨by omega,bI (by omega)⟩
  ·have V:=aL RN;have I:=aL L0;exact⟨by omega,bY (by omega)⟩
 have QX:bx≠b2->y.natAbs<=x.natAbs->(x+y).natAbs=x.natAbs-y.natAbs/\(decide (x+y<0)=(bx&&decide (x.natAbs-y.natAbs≠0))):=fun e h=>by
  cases bx
  ·have V:=aI RN
   cases b2
   ·exact absurd rfl e
   have I:=aL L0;exact⟨by omega,by rw[Bool.false_and];exact bI (by omega)⟩
  ·have V:=aL RN
   cases b2
   ·have I:=aI L0;exact⟨by omega,by rw[Bool.true_and];exact decide_eq_decide.2 (by omega)⟩
   ·exact absurd rfl e
 have PA:bx≠b2->x.natAbs<y.natAbs->(x+y).natAbs=y.natAbs-x.natAbs/\decide (x+y<0)=b2:=fun e h=>by
  cases bx
  ·have V:=aI RN
   cases b2
   ·exact absurd rfl e
   have I:=aL L0;exact⟨by omega,bY (by omega)⟩
  ·have V:=aL RN
   cases b2
   ·have I:=aI L0;exact⟨by omega,bI (by omega)⟩
   ·exact absurd rfl e
 by_cases M0:bx=b2
 ·obtain⟨V,I⟩:=ON M0;subst M0
  cases bx
  all_goals
   refine cC hτ eG [.x 0,.x 1,.x 2,.x 3,.x 4,.x 5,.x 6,.x 7,.x 8] (by kernel_rfl) (by kernel_rfl) ?_;refine bz (Id:=fun _ J v Y=>dC Y (Nf J Y) v (x.natAbs+y.natAbs)) (fun O J r=>JO (Rel.old r X) (NK.rel r X) (OW.rel r X) (by omega) (by omega)) ?_;rintro O w3 v3 w4 r Z L A;have hN:=A.df (S:=FF) r.bs (iv:=(w3.heap.size,w4.heap.size)::[]) aH;obtain⟨a3,n3,c3,rfl⟩:=hN.shape;intro J' w5 r5;exact⟨_,rfl,L.tr r5.cG,_,by rw[I];rfl,by rw[V];exact hN.out r5 (bo w)⟩
 ·replace QX:=QX M0;replace PA:=PA M0;have hcmp:∀d:Int,d=py x.natAbs y.natAbs->(0<=d↔y.natAbs<=x.natAbs):=fun d e=>by
   rw[e];unfold py;split
   ·omega
   ·split<;>omega
  cases bx<;>cases b2<;>first|exact absurd rfl M0|skip
  all_goals
   refine bp (bz (Id:=fun _ _ v _=>v= .int .i64 (py x.natAbs y.natAbs)) (fun O J r=>GP (Rel.old r X) (NK.rel r X) (OW.rel r X)) ?_);rintro O w1 v1 Y r Z L rfl;replace NK:=NK.bu (E:=[(w1.heap.size,Y.heap.size)]) r X Z fun x F=>aB _ F;replace OW:=OW.bu (E:=[(w1.heap.size,Y.heap.size)]) r X Z fun x F=>aB _ F;refine ct.mk ?_ ?_<;>intro h
   ·have h:=(hcmp _ rfl).1 (aL h);obtain⟨V,I⟩:=QX h;refine bp (bz (Id:=fun _ J v Y=>dC Y (Nf J Y) v (x.natAbs-y.natAbs)) (fun O J r=>zV (Rel.old r X) (NK.rel r X) (OW.rel r X) h (by omega)) ?_);rintro O w3 v3 w4 r Z OJ A;replace L:=L.tr OJ;have hN:=A.df (S:=FF) r.bs (iv:=(w3.heap.size,w4.heap.size)::[(w1.heap.size,Y.heap.size)]) aH;have hN2:=hN;obtain⟨p,rfl,Mf,Mg⟩:=hN.la;have MC:=dR p.lm Mg;rw[Mf]at MC;have Qm:=sS MC;have hd:decide ((p.ls.length:Int)>0)=decide (x.natAbs-y.natAbs≠0):=decide_eq_decide.2 (by omega);intro J' w5 r5;exact⟨_,rfl,L.tr r5.cG,_,by rw[I,<-hd];rfl,by rw[V];exact hN2.out r5 (bo w)⟩
   ·have h:x.natAbs<y.natAbs:=by
     have h0:=aI h;have:=hcmp _ rfl;omega
    obtain⟨V,I⟩:=PA h;refine cC hτ eG [.x 0,.x 1,.x 2,.x 3,.x 4,.x 5,.x 6,.x 7,.x 8] (by kernel_rfl) (by kernel_rfl) ?_;refine bz (Id:=fun _ J v Y=>dC Y (Nf J Y) v (y.natAbs-x.natAbs)) (fun O J r=>zV (Rel.old r X) (OW.rel r X) (NK.rel r X) (by omega) (by omega)) ?_;rintro O w3 v3 w4 r Z OJ A;replace L:=L.tr OJ;have hN:=A.df (S:=FF) r.bs (iv:=(w3.heap.size,w4.heap.size)::[(w1.heap.size,Y.heap.size)]) aH;obtain⟨a3,n3,c3,rfl⟩:=hN.shape;intro J' w5 r5;exact⟨_,rfl,L.tr r5.cG,_,by rw[I];rfl,by rw[V];exact hN.out r5 (bo w)⟩
theorem gA(X:Old S w)(F:dU w S v x)(hy:dU w S u y)(Lw:ln x.natAbs<=100000000000)(NQ:ln y.natAbs<=100000000000):
  eF PG F'.kG #[v,u] w (eM w fun v' Y=>dU Y (Nf w Y) v' (x*y)):=by
 obtain⟨nx,rfl,NK⟩:=F;obtain⟨ny,rfl,OW⟩:=hy;obtain⟨ax,lx,cx,rfl⟩:=NK.shape;obtain⟨ay,ly,cy,rfl⟩:=OW.shape;replace NK:=NK.arg [];replace OW:=OW.arg [];have M8:=Int.natAbs_mul x y;have MK:decide (x*y<0)=((decide (x<0) != decide (y<0))&&decide (x.natAbs*y.natAbs≠0)):=by
  by_cases h0:x*y=0
  ·rw[<-M8,h0];simp
  ·have hx0:x≠0:=fun e=>h0 (by rw[e,Int.zero_mul]);have Nt:y≠0:=fun e=>h0 (by rw[e,Int.mul_zero]);rw[<-M8,bY (show (x*y).natAbs≠0 by omega),Bool.and_true];by_cases V:x<0<;>by_cases I:y<0
   ·rw[bY V,bY I];exact bI (by have:=Int.mul_pos_of_neg_of_neg V I;omega)
   ·rw[bY V,bI I];exact bY (Int.mul_neg_of_neg_of_pos V (by omega))
   ·rw[bI V,bY I];exact bY (Int.mul_neg_of_pos_of_neg (by omega) I)
   ·rw[bI V,bI I];exact bI (by have:=Int.mul_nonneg (show 0<=x by omega) (show 0<=y by omega);omega)
 generalize decide (x<0)=bx at*
 generalize decide (y<0)=b2 at*
 refine nB (by simp) ?_;refine bp (bz (Id:=fun _ J v Y=>dC Y (Nf J Y) v (x.natAbs*y.natAbs)) (fun O J r=>Db (Rel.old r X) (NK.rel r X) (OW.rel r X) (by omega) (by omega)) ?_);rintro O w3 v3 w4 r Z L A;have hN:=A.df (S:=FF) r.bs (iv:=(w3.heap.size,w4.heap.size)::[]) aH;have hN2:=hN;obtain⟨p,rfl,Mf,Mg⟩:=hN.la;have MC:=dR p.lm Mg;rw[Mf]at MC;have Qm:=sS MC;have hd:decide ((p.ls.length:Int)>0)=decide (x.natAbs*y.natAbs≠0):=decide_eq_decide.2 (by omega)
 cases bx<;>cases b2
 all_goals
  intro J' w5 r5;exact⟨_,rfl,L.tr r5.cG,_,by rw[MK,<-hd];rfl,by rw[M8];exact hN2.out r5 (bo w)⟩
theorem Gl(X:Old S w)(F:dU w S v x)(hy:dU w S u y)(Lw:ln x.natAbs<=100000000000)(NQ:ln y.natAbs<=100000000000):
  eF PG F'.lR #[v,u] w (eM w fun v' _=>v'= .int .i64 (x-y).sign):=by
 have hxN:dU w (Cv S w.heap.size []) v x:=F.bw fun _ h=>.inl h;have hyN:dU w (Cv S w.heap.size []) u y:=hy.bw fun _ h=>.inl h;obtain⟨nx,rfl,NK⟩:=F;obtain⟨ny,rfl,OW⟩:=hy;obtain⟨ax,lx,cx,rfl⟩:=NK.shape;obtain⟨ay,ly,cy,rfl⟩:=OW.shape;refine ow (by simp) ?_;refine cC hτ eG [.x 0,.x 1,.x 2,.x 3,.x 4,.x 5] (by kernel_rfl) (by kernel_rfl) ?_;refine bz (Id:=fun _ J v Y=>dU Y (Nw (Cv S w.heap.size []) J Y) v (-y)) (fun O J r=>mg (Rel.old r X) (hyN.rel r X)) ?_;rintro O w1 v1 Y r Z L hm;have Pm:dU Y (Cv S w.heap.size [(w1.heap.size,Y.heap.size)]) v1 (-y):=hm.bw fun _ R=>Nw.cv R r.bs;replace hxN:=hxN.bu (E:=[(w1.heap.size,Y.heap.size)]) r X Z fun x F=>aB _ F;generalize [(w1.heap.size,Y.heap.size)]=iv at*
 have hmN2:=Pm;obtain⟨am,lm,cm,rfl,-⟩:=Pm.num;refine bz (Id:=fun _ J v Y=>dU Y (Nf J Y) v (x+ -y)) (fun O J r=>y9 (Rel.old r X) (hxN.rel r X) (hmN2.rel r X) Lw (by rw[Int.natAbs_neg];exact NQ)) ?_;rintro O w3 v3 w4 r Z OJ hp;replace L:=L.tr OJ;have hpN:=hp.df (S:=S) r.bs (iv:=(w3.heap.size,w4.heap.size)::iv) aH;have hpN2:=hpN;obtain⟨ap,lp,cp,rfl,-⟩:=hpN.num;refine bz (Id:=fun _ _ v _=>v= .int .i64 (x-y).sign) (fun O J r=>wu (hpN2.rel r X)) ?_;rintro O w5 v5 w6 r Z Rs rfl;replace L:=L.tr Rs;intro K8 w7 r7;exact⟨_,rfl,L.tr r7.cG,rfl⟩
theorem rH(n:Int)(w:World)(V: -9223372036854775808<=n)(I:n<=9223372036854775807):
  eF PG F'.tE #[.int .i64 n] w (eM w fun v' Y=>dU Y (Nf w Y) v' n):=by
 have key:∀(m:Nat),m=n.natAbs->m<18446744073709551616/\val [m % 4294967296,m / 4294967296]=n.natAbs/\m / 4294967296<4294967296:=fun m e=>by
  refine⟨by omega,?_,by omega⟩;simp only[val]
  omega
 refine wO (by simp) ?_;refine⟨if n<0 then n+18446744073709551616 else n,by show n % 18446744073709551616=_;split<;>omega,?_⟩;refine ct.mk ?_ ?_<;>intro h
 ·have h:=aL h;rw[if_pos h];obtain⟨m,hm⟩:∃m,m=n.natAbs:=⟨_,rfl⟩
  obtain⟨k1,k2,k3⟩:=key m hm;refine⟨(m:Int),by show(0-(n+18446744073709551616)) % 18446744073709551616=_;omega,((m % 4294967296:Nat):Int),eI m,by decide,((m / 2^32:Nat):Int),kN 32 (by decide),((m / 4294967296:Nat):Int),by rw[eI,bE (by omega)],?_⟩;refine fU (Id:=fun O _ v Y=>cR Y (fun g=>g=(O 1).g) v (dA [m % 4294967296,m / 4294967296])) (H':=[(0,.box T.number [.v (.bool false),.v (.slice none 0 0)])]) 1 rfl (by simp) ⟨rfl,trivial⟩ rfl (fun O J r=>r.nn 1 _ rfl (by intros;simp) (by simp)) (fun O J r=>?_) ?_
  ·have hL:=r.rA (id:=1) (ls:=[m % 4294967296,m / 4294967296]) rfl (by intro x F;simp at F;omega) (by simp);exact eO (fun g R=>by rw[R];exact(r.low 1 _ rfl (r.nn 1 _ rfl (by intros;simp) (by simp))).2) hL
  rintro O w1 v1 Y r Z L hL;have LR:=r.low 1 _ rfl (r.nn 1 _ rfl (by intros;simp) (by simp));have hs:=Z.size;generalize (O 1).g=g0 at*
  have hN:dC Y (Cf w [(g0,g0+1),(w1.heap.size,Y.heap.size)]) v1 n.natAbs:=by
   have:=hL.trimmed;rw[k2]at this;exact this.bw fun k W=>.inr ⟨by omega,g0,g0+1,by simp,by omega,by omega⟩
  generalize [(g0,g0+1),(w1.heap.size,Y.heap.size)]=iv at*
  obtain⟨a3,n3,c3,rfl⟩:=hN.shape;intro J' w5 r5;exact⟨_,rfl,L.tr r5.cG,_,rfl,hN.out r5 (bo w)⟩
 ·have h:=aI h;rw[aF h];obtain⟨m,hm⟩:∃m,m=n.natAbs:=⟨_,rfl⟩
  obtain⟨k1,k2,k3⟩:=key m hm;have Nd:n=(m:Int):=by omega
  refine⟨((m % 4294967296:Nat):Int),by rw[Nd];exact eI m,by decide,((m / 2^32:Nat):Int),by rw[Nd];exact kN 32 (by decide),((m / 4294967296:Nat):Int),by rw[eI,bE (by omega)],?_⟩;refine fU (Id:=fun O _ v Y=>cR Y (fun g=>g=(O 1).g) v (dA [m % 4294967296,m / 4294967296])) (H':=[(0,.box T.number [.v (.bool false),.v (.slice none 0 0)])]) 1 rfl (by simp) ⟨rfl,trivial⟩ rfl (fun O J r=>r.nn 1 _ rfl (by intros;simp) (by simp)) (fun O J r=>?_) ?_
  ·have hL:=r.rA (id:=1) (ls:=[m % 4294967296,m / 4294967296]) rfl (by intro x F;simp at F;omega) (by simp);exact eO (fun g R=>by rw[R];exact(r.low 1 _ rfl (r.nn 1 _ rfl (by intros;simp) (by simp))).2) hL
  rintro O w1 v1 Y r Z L hL;have LR:=r.low 1 _ rfl (r.nn 1 _ rfl (by intros;simp) (by simp));have hs:=Z.size;generalize (O 1).g=g0 at*
  have hN:dC Y (Cf w [(g0,g0+1),(w1.heap.size,Y.heap.size)]) v1 n.natAbs:=by
   have:=hL.trimmed;rw[k2]at this;exact this.bw fun k W=>.inr ⟨by omega,g0,g0+1,by simp,by omega,by omega⟩
  generalize [(g0,g0+1),(w1.heap.size,Y.heap.size)]=iv at*
  obtain⟨a3,n3,c3,rfl⟩:=hN.shape;intro J' w5 r5;exact⟨_,rfl,L.tr r5.cG,_,rfl,hN.out r5 (bo w)⟩
def ic(w:World)(S:Nat->Prop)(v:Value)(z:Int):Prop:=∃neg ls,sR w S v neg ls/\sg neg (val ls)=z
def fb(w:World)(S:Nat->Prop)(v:Value)(z:Int):Prop:=∃ls,sR w S v (decide (z<0)) ls/\Nz ls/\val ls=z.natAbs
theorem yb(z:Int):sg (decide (z<0)) z.natAbs=z:=by
 by_cases h:z<0
 ·rw[bY h,Hy];omega
 ·rw[bI h,JN];omega
theorem fb.r(h:fb w S v z):ic w S v z:=by
 obtain⟨ls,V,I,K⟩:=h;exact⟨_,ls,V,by rw[K,yb]⟩
section
variable{S S':Nat->Prop}{H:Hp}{nx:Nat}{iv E:Iv}{B:Nat}{w J Y:World}{O:Nat->Sx.cd}{v:Value}{z:Int}{neg:Bool}{ls:List Nat}
theorem sR.br(h:sR w S v neg ls)(W:∀g,S g->Y.heap[g]? =w.heap[g]?):sR Y S v neg ls:=by
 obtain⟨lv,V,I⟩:=h;exact⟨lv,V,I.br W⟩
theorem sR.bw(h:sR w S v neg ls)(W:∀g,S g->S' g):sR w S' v neg ls:=by
 obtain⟨lv,V,I⟩:=h;exact⟨lv,V,I.bw W⟩
theorem ic.br(h:ic w S v z)(W:∀g,S g->Y.heap[g]? =w.heap[g]?):ic Y S v z:=by
 obtain⟨n,l,V,I⟩:=h;exact⟨n,l,V.br W,I⟩
theorem ic.bw(h:ic w S v z)(W:∀g,S g->S' g):ic w S' v z:=by
 obtain⟨n,l,V,I⟩:=h;exact⟨n,l,V.bw W,I⟩
theorem fb.br(h:fb w S v z)(W:∀g,S g->Y.heap[g]? =w.heap[g]?):fb Y S v z:=by
 obtain⟨l,V,I⟩:=h;exact⟨l,V.br W,I⟩
theorem fb.bw(h:fb w S v z)(W:∀g,S g->S' g):fb w S' v z:=by
 obtain⟨l,V,I⟩:=h;exact⟨l,V.bw W,I⟩
theorem ic.rel(h:ic w (Cv S B iv) v z)(r:Rel H nx iv B w O J)(X:∀g,S g->g<B):ic J (Cv S B iv) v z:=h.br fun _ R=>Rel.same r X R
theorem fb.rel(h:fb w (Cv S B iv) v z)(r:Rel H nx iv B w O J)(X:∀g,S g->g<B):fb J (Cv S B iv) v z:=h.br fun _ R=>Rel.same r X R
theorem ic.bu(h:ic w (Cv S B iv) v z)(r:Rel H nx iv B w O J)(X:∀g,S g->g<B)(Z:Ext J Y)(hm:∀p,p∈iv->p∈E):ic Y (Cv S B E) v z:=
 ((h.rel r X).br fun g R=>Z.block g (Rel.old r X g R)).bw fun _ R=>R.mono hm
theorem fb.bu(h:fb w (Cv S B iv) v z)(r:Rel H nx iv B w O J)(X:∀g,S g->g<B)(Z:Ext J Y)(hm:∀p,p∈iv->p∈E):fb Y (Cv S B E) v z:=
 ((h.rel r X).br fun g R=>Z.block g (Rel.old r X g R)).bw fun _ R=>R.mono hm
theorem fb.df(h:fb Y (Nf J Y) v z)(hB:B<=J.heap.size)(hm:(J.heap.size,Y.heap.size)∈iv):fb Y (Cv S B iv) v z:=h.bw fun _ R=>R.df hB hm
theorem ic.shape(h:ic w S v z):∃b a n c,v= .agg #[.bool b,.slice a n c]:=by
 obtain⟨b,l,⟨lv,V,I⟩,_⟩:=h;obtain⟨a,n,c,rfl⟩:=I.shape;exact⟨b,a,n,c,V⟩
theorem dU.old(h:dU Y (Nw (Cv S B iv) J Y) v z)(hB:B<=J.heap.size):dU Y (Cv S B ((J.heap.size,Y.heap.size)::iv)) v z:=h.bw fun _ R=>Nw.cv R hB
end
theorem fb.out(h:fb w1 (Cv S w.heap.size iv) v z)(r:Rel H nx iv w.heap.size w1 O J)(X:Old S w):fb J (Nw S w J) v z:=
 (h.rel r X).bw fun _ R=>Cv.nw R r
theorem Gq(X:Old S w)(h:ic w S v z):eF PG F'.wC #[v] w (eM w fun v' Y=>dU Y (Nw S w Y) v' z):=by
 obtain⟨n,l,V,rfl⟩:=h;exact KU X V
theorem dU.shape(h:dU w S v z):∃b a n c,v= .agg #[.bool b,.slice a n c]:=by
 obtain⟨a,n,c,V,_⟩:=h.num;exact⟨_,a,n,c,V⟩
theorem fb.shape(h:fb w S v z):∃b a n c,v= .agg #[.bool b,.slice a n c]:=h.r.shape
theorem de(x y:Int):ln (x*y).natAbs<=ln x.natAbs+ln y.natAbs:=by
 rw[Int.natAbs_mul];exact Im _ _
end Go.Ex
namespace Go.Ex
open Go Go.Sx
theorem vB{x y:Int}(hy:0<y)(F:x≠0):
  (Rat.divInt x y).num.natAbs=x.natAbs / Nat.gcd x.natAbs y.natAbs/\(Rat.divInt x y).den=y.natAbs / Nat.gcd x.natAbs y.natAbs/\decide ((Rat.divInt x y).num<0)=decide (x<0):=by
 have R:0<Nat.gcd x.natAbs y.natAbs:=Nat.gcd_pos_of_pos_right _ (by omega);have hs:y.sign=1:=ba hy;have hc:(y.gcd x:Int)=(Nat.gcd x.natAbs y.natAbs:Nat):=by rw[Int.gcd_comm];rfl
 have hdx:((Nat.gcd x.natAbs y.natAbs:Nat):Int) ∣ x:=by
  rw[<-Int.natAbs_dvd_natAbs];exact Nat.gcd_dvd_left _ _
 have V:(Rat.divInt x y).num=x / ((Nat.gcd x.natAbs y.natAbs:Nat):Int):=by
  rw[Rat.num_divInt,hs,Int.one_mul,hc]
 have hgi:0<((Nat.gcd x.natAbs y.natAbs:Nat):Int):=by omega
 refine⟨?_,?_,?_⟩
 ·rw[V,Int.natAbs_ediv_of_dvd hdx];rfl
 ·rw[Rat.den_divInt,aF (by omega)];have:y.gcd x=Nat.gcd x.natAbs y.natAbs:=by rw[Int.gcd_comm];rfl
  rw[this]
 ·rw[V];obtain⟨k,W⟩:=hdx;refine decide_eq_decide.2 ?_;have:x / ((Nat.gcd x.natAbs y.natAbs:Nat):Int)=k:=by
   conv=>lhs;lhs;rw[W]
   exact Int.mul_ediv_cancel_left _ (by omega)
  rw[this];generalize ((Nat.gcd x.natAbs y.natAbs:Nat):Int)=g at*
  subst W;constructor
  ·intro h;exact Int.mul_neg_of_pos_of_neg hgi h
  ·intro h;have h0:¬0<=k:=fun hh=>by have:=Int.mul_nonneg (show 0<=g by omega) hh;omega
   omega
theorem ET{a b:Nat}:ln (a / b)<=ln a:=gM (Nat.div_le_self a b)
theorem vC(y:Int):Rat.divInt 0 y=0:=Rat.zero_divInt y
end Go.Ex
namespace Go.Ex
open Go Go.Sx Go.Proofs
variable{b b2:Bool}{S:Nat->Prop}{q:Rat}{dv nv v:Value}{w:World}
theorem dC.old{B:Nat}{iv:Iv}{J Y:World}{n:Nat}(h:dC Y (Nw (Cv S B iv) J Y) v n)(hB:B<=J.heap.size):dC Y (Cv S B ((J.heap.size,Y.heap.size)::iv)) v n:=h.bw fun _ R=>Nw.cv R hB
def cV(w:World)(S:Nat->Prop)(v:Value)(q:Rat):Prop:=∃nv dv,v= .agg #[.bool (decide (q.num<0)),nv,.bool false,dv]/\dC w S nv q.num.natAbs/\dC w S dv q.den
theorem cV.br{Y:World}(h:cV w S v q)(W:∀g,S g->Y.heap[g]? =w.heap[g]?):cV Y S v q:=by
 obtain⟨n,d,V,I,K⟩:=h;exact⟨n,d,V,I.br W,K.br W⟩
theorem cV.bw{S':Nat->Prop}(h:cV w S v q)(W:∀g,S g->S' g):cV w S' v q:=by
 obtain⟨n,d,V,I,K⟩:=h;exact⟨n,d,V,I.bw W,K.bw W⟩
theorem cV.shape(h:cV w S v q):∃b a n c b2 a2 n2 c2,v= .agg #[.bool b,.slice a n c,.bool b2,.slice a2 n2 c2]:=by
 obtain⟨n,d,V,I,K⟩:=h;obtain⟨a,n,c,rfl⟩:=I.shape;obtain⟨a2,n2,c2,rfl⟩:=K.shape;exact⟨_,a,n,c,_,a2,n2,c2,V⟩
theorem cV.num(h:cV w S (.agg #[.bool b,nv,.bool b2,dv]) q):dU w S (.agg #[.bool b,nv]) q.num:=by
 obtain⟨n,d,V,I,K⟩:=h;simp at V;obtain⟨rfl,rfl,rfl,rfl⟩:=V;exact⟨_,rfl,I⟩
theorem cV.den(h:cV w S (.agg #[.bool b,nv,.bool b2,dv]) q):dU w S (.agg #[.bool b2,dv]) (q.den:Int):=by
 obtain⟨n,d,V,I,K⟩:=h;simp at V;obtain⟨rfl,rfl,rfl,rfl⟩:=V;exact⟨_,by rw[bI (by omega)],K⟩
theorem cV.of(h:dU w S (.agg #[.bool b,nv]) q.num)(k:dU w S (.agg #[.bool b2,dv]) (q.den:Int)):cV w S (.agg #[.bool b,nv,.bool b2,dv]) q:=by
 obtain⟨n,V,I⟩:=h;obtain⟨d,K,h4⟩:=k;simp at V K;obtain⟨rfl,rfl⟩:=V;obtain⟨rfl,rfl⟩:=K;refine⟨_,_,?_,I,h4⟩;rw[bI (show ¬((q.den:Int)<0) by omega)]
section
variable{S S':Nat->Prop}{H:Hp}{nx:Nat}{iv E:Iv}{B:Nat}{w J Y:World}{O:Nat->Sx.cd}{v:Value}{q:Rat}
theorem cV.rel(h:cV w (Cv S B iv) v q)(r:Rel H nx iv B w O J)(X:∀g,S g->g<B):cV J (Cv S B iv) v q:=h.br fun _ R=>Rel.same r X R
theorem cV.bu(h:cV w (Cv S B iv) v q)(r:Rel H nx iv B w O J)(X:∀g,S g->g<B)(Z:Ext J Y)(hm:∀p,p∈iv->p∈E):cV Y (Cv S B E) v q:=
 ((h.rel r X).br fun g R=>Z.block g (Rel.old r X g R)).bw fun _ R=>R.mono hm
theorem cV.df(h:cV Y (Nf J Y) v q)(hB:B<=J.heap.size)(hm:(J.heap.size,Y.heap.size)∈iv):cV Y (Cv S B iv) v q:=h.bw fun _ R=>R.df hB hm
theorem cV.old(h:cV Y (Nw (Cv S B iv) J Y) v q)(hB:B<=J.heap.size):cV Y (Cv S B ((J.heap.size,Y.heap.size)::iv)) v q:=h.bw fun _ R=>Nw.cv R hB
theorem cV.out{w0 w1:World}(h:cV w1 (Cv S w0.heap.size iv) v q)(r:Rel H nx iv w0.heap.size w1 O J)(X:Old S w0):cV J (Nw S w0 J) v q:=
 (h.rel r X).bw fun _ R=>Cv.nw R r
end
theorem dU.nat{z:Int}(h:dU w S (.agg #[.bool b,nv]) z):b=decide (z<0)/\dC w S nv z.natAbs:=by
 obtain⟨n,V,I⟩:=h;simp at V;obtain⟨rfl,rfl⟩:=V;exact⟨rfl,I⟩
theorem xE{u:Value}{x y:Int}(X:Old S w)(F:dU w S v x)(hy:dU w S u y)(Nt:y≠0)(Lw:ln x.natAbs<=100000000000)(NQ:ln y.natAbs<=100000000000):
  eF PG F'.wA #[v,u] w (eM w fun v' Y=>cV Y (Nf w Y) v' (Rat.divInt x y)):=by
 have L:=bR w;replace F:=F.bw (S':=Cv S w.heap.size []) fun _ h=>.inl h;replace hy:=hy.bw (S':=Cv S w.heap.size []) fun _ h=>.inl h;obtain⟨bx,ax,lx,cx,rfl⟩:=F.shape;obtain⟨b2,ay,ly,cy,rfl⟩:=hy.shape;have Mn:=hy.nat.1;refine xZ (by simp) ?_
 cases b2
 ·have hyp:0<y:=by have:=aI Mn.symm;omega
  have hq:Rat.divInt x y=Rat.divInt x y:=rfl;have hbA:=F.nat.1;refine bp (cE L (fun _ J v Y=>v= .int .i64 (x).sign) (fun O J r=>wu (F.rel r X)) ?_);rintro O M5 v1 MS LC r Z L h_ rfl;replace F:=F.bu r X Z (mC h_);replace hy:=hy.bu r X Z (mC h_);refine ct.mk ?_ ?_<;>intro h
  ·have h:x=0:=Int.sign_eq_zero_iff_zero.1 (eq_of_beq h);refine bp (cE L (fun _ J v Y=>dU Y (Nf J Y) v 1) (fun O J r=>rH 1 J (by decide) (by decide)) ?_);rintro O NX v2 MF Kx r Z L h_ A;have hO:=A.df (S:=FF) r.bs (mN h_);obtain⟨A0,A1,A2,A3,rfl⟩:=hO.shape;have e0:Rat.divInt x y=0:=by rw[hq,h,vC]
   exact rtn L fun I' we re=>by rw[e0];exact cV.of ⟨_,rfl,dC.nil _ _⟩ (hO.out re (bo w))
  ·have h:x≠0:=fun e=>by rw[e]at h;exact absurd h (by decide)
   obtain⟨g1,g2,g3⟩:=vB hyp h;have OH:0<Nat.gcd (x).natAbs (y).natAbs:=Nat.gcd_pos_of_pos_right _ (by omega);have RX:=F.nat.2;have Pw:=hy.nat.2;refine bp (bz (Id:=fun _ J v Y=>dC Y (Nw (Cv S w.heap.size LC) J Y) v (Nat.gcd (x).natAbs (y).natAbs)) (fun O J r=>BQ (Rel.old r X) (RX.rel r X) (Pw.rel r X) (by omega) (by omega)) ?_);rintro O NX v2 MF r Z hb A;replace L:=L.tr hb;replace RX:=RX.bu (E:=(NX.heap.size,MF.heap.size)::LC) r X Z fun x F=>aB _ F;replace Pw:=Pw.bu (E:=(NX.heap.size,MF.heap.size)::LC) r X Z fun x F=>aB _ F;have hG:=A.old r.bs;generalize (NX.heap.size,MF.heap.size)::LC=Kx at*
   obtain⟨A0,A1,A2,rfl⟩:=hG.shape;refine bp (bz (Id:=fun _ J v Y=>∃q r,v= .tuple #[q,r]/\dC Y (Nf J Y) q ((x).natAbs / Nat.gcd (x).natAbs (y).natAbs)/\dC Y (Nw (Cv S w.heap.size Kx) J Y) r ((x).natAbs % Nat.gcd (x).natAbs (y).natAbs)) (fun O J r=>oG (Rel.old r X) (RX.rel r X) (hG.rel r X) OH (by omega)) ?_);rintro O M4 v3 MY r Z hb ⟨qvp,rvp,rfl,NH,Pn⟩;replace L:=L.tr hb;replace Pw:=Pw.bu (E:=(M4.heap.size,MY.heap.size)::Kx) r X Z fun x F=>aB _ F;replace hG:=hG.bu (E:=(M4.heap.size,MY.heap.size)::Kx) r X Z fun x F=>aB _ F;have hP:=NH.df (S:=FF) r.bs (iv:=(M4.heap.size,MY.heap.size)::Kx) aH;have hPr:=Pn.old r.bs;generalize (M4.heap.size,MY.heap.size)::Kx=LV at*
   obtain⟨s3_0a,s3_0b,s3_0c,rfl⟩:=hP.shape;obtain⟨s3_1a,s3_1b,s3_1c,rfl⟩:=hPr.shape;refine bp (bz (Id:=fun _ J v Y=>∃q r,v= .tuple #[q,r]/\dC Y (Nf J Y) q ((y).natAbs / Nat.gcd (x).natAbs (y).natAbs)/\dC Y (Nw (Cv S w.heap.size LV) J Y) r ((y).natAbs % Nat.gcd (x).natAbs (y).natAbs)) (fun O J r=>oG (Rel.old r X) (Pw.rel r X) (hG.rel r X) OH (by omega)) ?_);rintro O Nm v4 NI r Z hb ⟨qvq,rvq,rfl,NH,Pn⟩;replace L:=L.tr hb;replace hP:=hP.bu (E:=(Nm.heap.size,NI.heap.size)::LV) r (bo w) Z fun x F=>aB _ F;have hQ:=NH.df (S:=FF) r.bs (iv:=(Nm.heap.size,NI.heap.size)::LV) aH;have hQr:=Pn.old r.bs;generalize (Nm.heap.size,NI.heap.size)::LV=MD at*
   obtain⟨s4_0a,s4_0b,s4_0c,rfl⟩:=hQ.shape;obtain⟨s4_1a,s4_1b,s4_1c,rfl⟩:=hQr.shape;exact rtn L fun I' we re=>by rw[hq];exact cV.of ⟨_,by rw[g3,<-hbA],by rw[g1];exact hP.out re (bo w)⟩ ⟨_,by rw[bI (by omega)],by rw[g2];exact hQ.out re (bo w)⟩
 ·have hyp:0< -y:=by have:=aL Mn.symm;omega
  have hq:Rat.divInt x y=Rat.divInt (-x) (-y):=(Rat.neg_divInt_neg _ _).symm;have nx:=Int.natAbs_neg x;have ny:=Int.natAbs_neg y;have hlx2:ln (-x).natAbs<=100000000000:=by rw[nx];exact Lw
  have hly2:ln (-y).natAbs<=100000000000:=by rw[ny];exact NQ
  refine cC hτ eG [.x 0,.x 2,.x 1,.x 3,.x 4,.x 5] (by kernel_rfl) (by kernel_rfl) ?_;refine bz (Id:=fun _ J v Y=>dU Y (Nw (Cv S w.heap.size []) J Y) v (-x)) (fun O J r=>mg (Rel.old r X) (F.rel r X)) ?_;rintro O M5 v1 MS r Z hb A;replace L:=L.tr hb;replace hy:=hy.bu (E:=(M5.heap.size,MS.heap.size)::[]) r X Z fun x F=>aB _ F;have hA:=A.old r.bs;generalize (M5.heap.size,MS.heap.size)::[]=LC at*
  obtain⟨C0,C1,C2,C3,rfl⟩:=hA.shape;refine bz (Id:=fun _ J v Y=>dU Y (Nw (Cv S w.heap.size LC) J Y) v (-y)) (fun O J r=>mg (Rel.old r X) (hy.rel r X)) ?_;rintro O NX v2 MF r Z hb A;replace L:=L.tr hb;replace hA:=hA.bu (E:=(NX.heap.size,MF.heap.size)::LC) r X Z fun x F=>aB _ F;have hB:=A.old r.bs;generalize (NX.heap.size,MF.heap.size)::LC=Kx at*
  obtain⟨A0,A1,A2,A3,rfl⟩:=hB.shape;have hbA:=hA.nat.1;refine bp (cE L (fun _ J v Y=>v= .int .i64 (-x).sign) (fun O J r=>wu (hA.rel r X)) ?_);rintro O _ _ _ LV r Z L h_ rfl;replace hA:=hA.bu r X Z (mC h_);replace hB:=hB.bu r X Z (mC h_);refine ct.mk ?_ ?_<;>intro h
  ·have h: -x=0:=Int.sign_eq_zero_iff_zero.1 (eq_of_beq h);refine bp (cE L (fun _ J v Y=>dU Y (Nf J Y) v 1) (fun O J r=>rH 1 J (by decide) (by decide)) ?_);rintro O Nm v4 NI MD r Z L h_ A;have hO:=A.df (S:=FF) r.bs (mN h_);obtain⟨F0,F1,F2,F3,rfl⟩:=hO.shape;have e0:Rat.divInt x y=0:=by rw[hq,h,vC]
   exact rtn L fun I' we re=>by rw[e0];exact cV.of ⟨_,rfl,dC.nil _ _⟩ (hO.out re (bo w))
  ·have h: -x≠0:=fun e=>by rw[e]at h;exact absurd h (by decide)
   obtain⟨g1,g2,g3⟩:=vB hyp h;have OH:0<Nat.gcd (-x).natAbs (-y).natAbs:=Nat.gcd_pos_of_pos_right _ (by omega);have RX:=hA.nat.2;have Pw:=hB.nat.2;refine bp (bz (Id:=fun _ J v Y=>dC Y (Nw (Cv S w.heap.size LV) J Y) v (Nat.gcd (-x).natAbs (-y).natAbs)) (fun O J r=>BQ (Rel.old r X) (RX.rel r X) (Pw.rel r X) (by omega) (by omega)) ?_);rintro O Nm v4 NI r Z hb A;replace L:=L.tr hb;replace RX:=RX.bu (E:=(Nm.heap.size,NI.heap.size)::LV) r X Z fun x F=>aB _ F;replace Pw:=Pw.bu (E:=(Nm.heap.size,NI.heap.size)::LV) r X Z fun x F=>aB _ F;have hG:=A.old r.bs;generalize (Nm.heap.size,NI.heap.size)::LV=MD at*
   obtain⟨F0,F1,F2,rfl⟩:=hG.shape;refine bp (bz (Id:=fun _ J v Y=>∃q r,v= .tuple #[q,r]/\dC Y (Nf J Y) q ((-x).natAbs / Nat.gcd (-x).natAbs (-y).natAbs)/\dC Y (Nw (Cv S w.heap.size MD) J Y) r ((-x).natAbs % Nat.gcd (-x).natAbs (-y).natAbs)) (fun O J r=>oG (Rel.old r X) (RX.rel r X) (hG.rel r X) OH (by omega)) ?_);rintro O SD v5 wb5 r Z hb ⟨qvp,rvp,rfl,NH,Pn⟩;replace L:=L.tr hb;replace Pw:=Pw.bu (E:=(SD.heap.size,wb5.heap.size)::MD) r X Z fun x F=>aB _ F;replace hG:=hG.bu (E:=(SD.heap.size,wb5.heap.size)::MD) r X Z fun x F=>aB _ F;have hP:=NH.df (S:=FF) r.bs (iv:=(SD.heap.size,wb5.heap.size)::MD) aH;have hPr:=Pn.old r.bs;generalize (SD.heap.size,wb5.heap.size)::MD=OT at*
   obtain⟨s5_0a,s5_0b,s5_0c,rfl⟩:=hP.shape;obtain⟨s5_1a,s5_1b,s5_1c,rfl⟩:=hPr.shape;refine bp (bz (Id:=fun _ J v Y=>∃q r,v= .tuple #[q,r]/\dC Y (Nf J Y) q ((-y).natAbs / Nat.gcd (-x).natAbs (-y).natAbs)/\dC Y (Nw (Cv S w.heap.size OT) J Y) r ((-y).natAbs % Nat.gcd (-x).natAbs (-y).natAbs)) (fun O J r=>oG (Rel.old r X) (Pw.rel r X) (hG.rel r X) OH (by omega)) ?_);rintro O RP v6 SE r Z hb ⟨qvq,rvq,rfl,NH,Pn⟩;replace L:=L.tr hb;replace hP:=hP.bu (E:=(RP.heap.size,SE.heap.size)::OT) r (bo w) Z fun x F=>aB _ F;have hQ:=NH.df (S:=FF) r.bs (iv:=(RP.heap.size,SE.heap.size)::OT) aH;have hQr:=Pn.old r.bs;generalize (RP.heap.size,SE.heap.size)::OT=iv6 at*
   obtain⟨s6_0a,s6_0b,s6_0c,rfl⟩:=hQ.shape;obtain⟨s6_1a,s6_1b,s6_1c,rfl⟩:=hQr.shape;exact rtn L fun I' we re=>by rw[hq];exact cV.of ⟨_,by rw[g3,<-hbA],by rw[g1];exact hP.out re (bo w)⟩ ⟨_,by rw[bI (by omega)],by rw[g2];exact hQ.out re (bo w)⟩
end Go.Ex
namespace Go.Ex
open Go Go.Sx
variable{a b:Int}
def rl(q:Rat):Nat:=max (ln q.num.natAbs) (ln q.den)
theorem gJ(q:Rat):ln q.num.natAbs<=rl q:=Nat.le_max_left _ _
theorem Iw(q:Rat):ln q.den<=rl q:=Nat.le_max_right _ _
theorem fO(q:Rat):ln ((q.den:Int)).natAbs<=rl q:=Nat.le_max_right _ _
theorem jq(hb:b≠0):rl (Rat.divInt a b)<=max (ln a.natAbs) (ln b.natAbs):=by
 have V:ln (Rat.divInt a b).num.natAbs<=ln a.natAbs:=by
  rw[Rat.num_divInt];refine gM (a9 (Int.natAbs_ediv_le_natAbs _ _) ?_);rw[Int.natAbs_mul,Int.natAbs_sign_of_ne_zero hb,Nat.one_mul];exact aE _
 have I:ln (Rat.divInt a b).den<=ln b.natAbs:=by
  rw[Rat.den_divInt,aF hb];exact ET
 unfold rl;omega
theorem vT(x y:Int):ln (x+y).natAbs<=max (ln x.natAbs) (ln y.natAbs)+1:=by
 have V:=Il x.natAbs y.natAbs;have I:=gM (show (x+y).natAbs<=x.natAbs+y.natAbs by omega);omega
theorem jB(q:Rat):(q.den:Int)≠0:=by have:=q.den_pos;omega
theorem zH(f g:Rat):f+g=Rat.divInt (f.num*g.den+g.num*f.den) (f.den*g.den):=by
 rw[<-Rat.divInt_add_divInt _ _ (jB f) (jB g),Rat.num_divInt_den,Rat.num_divInt_den]
theorem DX(f g:Rat):f*g=Rat.divInt (f.num*g.num) (f.den*g.den):=by
 rw[<-Rat.divInt_mul_divInt,Rat.num_divInt_den,Rat.num_divInt_den]
theorem DY(f g:Rat):f / g=Rat.divInt (f.num*g.den) (f.den*g.num):=by
 rw[<-Rat.divInt_mul_divInt,Rat.num_divInt_den,<-Rat.inv_def,<-bf]
theorem rn(ha:a≠0)(hb:b≠0):a*b≠0:=Int.mul_ne_zero ha hb
theorem kz(f g:Rat):rl (f+g)<=rl f+rl g+1:=by
 have h:=jq (a:=f.num*g.den+g.num*f.den) (rn (jB f) (jB g));rw[<-zH]at h;have V:=vT (f.num*g.den) (g.num*f.den);have I:=de f.num g.den;have K:=de g.num f.den;have h4:=de f.den g.den;have:=gJ f;have:=gJ g;have:=fO f;have:=fO g;omega
theorem jz(f g:Rat):rl (f*g)<=rl f+rl g:=by
 have h:=jq (a:=f.num*g.num) (rn (jB f) (jB g));rw[<-DX]at h;have I:=de f.num g.num;have h4:=de f.den g.den;have:=gJ f;have:=gJ g;have:=fO f;have:=fO g;omega
theorem JB(f:Rat){g:Rat}(R:g≠0):rl (f / g)<=rl f+rl g:=by
 have h:=jq (a:=f.num*g.den) (rn (jB f) (fun e=>R (Rat.num_eq_zero.1 e)));rw[<-DY]at h;have I:=de f.num g.den;have h4:=de f.den g.num;have:=gJ f;have:=gJ g;have:=fO f;have:=fO g;omega
theorem rp(f:Rat):rl (-f)=rl f:=by unfold rl;rw[Rat.neg_num,Rat.neg_den,Int.natAbs_neg]
theorem vU(f g:Rat):rl (f-g)<=rl f+rl g+1:=by
 rw[Rat.sub_eq_add_neg];have:=kz f (-g);rw[rp]at this;exact this
def rs(q:Rat):Int:=q.num.sign
theorem qc(hb:0<b):(Rat.divInt a b).num.sign=a.sign:=by
 by_cases ha:a=0
 ·subst ha;rw[vC];rfl
 ·obtain⟨V,-,K⟩:=vB hb ha;have K:=decide_eq_decide.1 K;have h0:(Rat.divInt a b).num≠0:=fun e=>by
   have h4:=Nat.div_pos (Nat.le_of_dvd (by omega) (Nat.gcd_dvd_left a.natAbs b.natAbs)) (Nat.gcd_pos_of_pos_right a.natAbs (n:=b.natAbs) (by omega));omega
  rcases Int.lt_or_gt_of_ne ha with h|h
  ·rw[bU h,bU (K.2 h)]
  ·rw[ba h,ba (by omega)]
theorem Ha(f g:Rat):(f.num*g.den-g.num*f.den).sign=rs (f-g):=by
 rw[rs,Rat.sub_eq_add_neg,zH,qc (Int.mul_pos (by have:=f.den_pos;omega) (by rw[Rat.neg_den];have:=g.den_pos;omega)),Rat.neg_num,Rat.neg_den,Int.neg_mul,<-Int.sub_eq_add_neg]
def ratio(a b:Int):Rat:=if b=0 then Rat.divInt a 1 else Rat.divInt a b
theorem gC(a b:Int):rl (ratio a b)<=max (ln a.natAbs) (max 1 (ln b.natAbs)):=by
 unfold ratio;split
 ·have:=jq (a:=a) (b:=1) (by decide);have V:ln (1:Int).natAbs=1:=by decide
  rw[V]at this;omega
 ·rename_i h;have:=jq (a:=a) h;omega
end Go.Ex
namespace Go.Ex
open Go Go.Sx Go.Proofs
variable{b b2:Bool}{x y:Int}{xs:List Value}{n sz:Nat}{S S':Nat->Prop}{f g q:Rat}{dv nv u v:Value}{w Y:World}
def gK(w:World)(S:Nat->Prop)(v:Value)(a b:Int):Prop:=∃b1 l1 b2 l2,v= .agg #[.bool b1,l1,.bool b2,l2]/\ic w S (.agg #[.bool b1,l1]) a/\ic w S (.agg #[.bool b2,l2]) b
theorem gK.br{a b:Int}(h:gK w S v a b)(W:∀g,S g->Y.heap[g]? =w.heap[g]?):gK Y S v a b:=by
 obtain⟨b1,l1,b2,l2,V,I,K⟩:=h;exact⟨b1,l1,b2,l2,V,I.br W,K.br W⟩
theorem gK.bw{a b:Int}(h:gK w S v a b)(W:∀g,S g->S' g):gK w S' v a b:=by
 obtain⟨b1,l1,b2,l2,V,I,K⟩:=h;exact⟨b1,l1,b2,l2,V,I.bw W,K.bw W⟩
theorem gK.shape(h:gK w S v x y):∃b a n c b2 a2 n2 c2,v= .agg #[.bool b,.slice a n c,.bool b2,.slice a2 n2 c2]:=by
 obtain⟨b1,l1,b2,l2,V,I,K⟩:=h;obtain⟨_,a,n,c,h4⟩:=I.shape;obtain⟨_,a2,n2,c2,h5⟩:=K.shape;simp at h4 h5;obtain⟨rfl,rfl⟩:=h4;obtain⟨rfl,rfl⟩:=h5;exact⟨_,a,n,c,_,a2,n2,c2,V⟩
theorem gK.num(h:gK w S (.agg #[.bool b,nv,.bool b2,dv]) x y):ic w S (.agg #[.bool b,nv]) x:=by
 obtain⟨b1,l1,b2,l2,V,I,K⟩:=h;simp at V;obtain⟨rfl,rfl,rfl,rfl⟩:=V;exact I
theorem gK.den(h:gK w S (.agg #[.bool b,nv,.bool b2,dv]) x y):ic w S (.agg #[.bool b2,dv]) y:=by
 obtain⟨b1,l1,b2,l2,V,I,K⟩:=h;simp at V;obtain⟨rfl,rfl,rfl,rfl⟩:=V;exact K
section
variable{S S':Nat->Prop}{H:Hp}{nx:Nat}{iv E:Iv}{B:Nat}{w J Y:World}{O:Nat->Sx.cd}{v:Value}{x y:Int}
theorem gK.rel(h:gK w (Cv S B iv) v x y)(r:Rel H nx iv B w O J)(X:∀g,S g->g<B):gK J (Cv S B iv) v x y:=h.br fun _ R=>Rel.same r X R
theorem gK.bu(h:gK w (Cv S B iv) v x y)(r:Rel H nx iv B w O J)(X:∀g,S g->g<B)(Z:Ext J Y)(hm:∀p,p∈iv->p∈E):gK Y (Cv S B E) v x y:=
 ((h.rel r X).br fun g R=>Z.block g (Rel.old r X g R)).bw fun _ R=>R.mono hm
end
def cI(w:World)(S:Nat->Prop)(v:Value)(q:Rat):Prop:=∃b1 l1 b2 l2,v= .agg #[.bool b1,l1,.bool b2,l2]/\fb w S (.agg #[.bool b1,l1]) q.num/\fb w S (.agg #[.bool b2,l2]) q.den
theorem cI.br(h:cI w S v q)(W:∀g,S g->Y.heap[g]? =w.heap[g]?):cI Y S v q:=by
 obtain⟨b1,l1,b2,l2,V,I,K⟩:=h;exact⟨b1,l1,b2,l2,V,I.br W,K.br W⟩
theorem cI.bw(h:cI w S v q)(W:∀g,S g->S' g):cI w S' v q:=by
 obtain⟨b1,l1,b2,l2,V,I,K⟩:=h;exact⟨b1,l1,b2,l2,V,I.bw W,K.bw W⟩
theorem cI.r(h:cI w S v q):gK w S v q.num q.den:=by
 obtain⟨b1,l1,b2,l2,V,I,K⟩:=h;exact⟨b1,l1,b2,l2,V,I.r,K.r⟩
theorem cI.shape(h:cI w S v q):∃b a n c b2 a2 n2 c2,v= .agg #[.bool b,.slice a n c,.bool b2,.slice a2 n2 c2]:=h.r.shape
theorem cI.num(h:cI w S (.agg #[.bool b,nv,.bool b2,dv]) q):fb w S (.agg #[.bool b,nv]) q.num:=by
 obtain⟨b1,l1,b2,l2,V,I,K⟩:=h;simp at V;obtain⟨rfl,rfl,rfl,rfl⟩:=V;exact I
theorem cI.den(h:cI w S (.agg #[.bool b,nv,.bool b2,dv]) q):fb w S (.agg #[.bool b2,dv]) q.den:=by
 obtain⟨b1,l1,b2,l2,V,I,K⟩:=h;simp at V;obtain⟨rfl,rfl,rfl,rfl⟩:=V;exact K
theorem cI.of(h:fb w S (.agg #[.bool b,nv]) q.num)(k:fb w S (.agg #[.bool b2,dv]) q.den):cI w S (.agg #[.bool b,nv,.bool b2,dv]) q:=⟨_,_,_,_,rfl,h,k⟩
section
variable{S S':Nat->Prop}{H:Hp}{nx:Nat}{iv E:Iv}{B:Nat}{w J Y:World}{O:Nat->Sx.cd}{v:Value}{q:Rat}
theorem cI.rel(h:cI w (Cv S B iv) v q)(r:Rel H nx iv B w O J)(X:∀g,S g->g<B):cI J (Cv S B iv) v q:=h.br fun _ R=>Rel.same r X R
theorem cI.bu(h:cI w (Cv S B iv) v q)(r:Rel H nx iv B w O J)(X:∀g,S g->g<B)(Z:Ext J Y)(hm:∀p,p∈iv->p∈E):cI Y (Cv S B E) v q:=
 ((h.rel r X).br fun g R=>Z.block g (Rel.old r X g R)).bw fun _ R=>R.mono hm
theorem cI.df(h:cI Y (Nf J Y) v q)(hB:B<=J.heap.size)(hm:(J.heap.size,Y.heap.size)∈iv):cI Y (Cv S B iv) v q:=h.bw fun _ R=>R.df hB hm
theorem cI.out{w0 w1:World}(h:cI w1 (Cv S w0.heap.size iv) v q)(r:Rel H nx iv w0.heap.size w1 O J)(X:Old S w0):cI J (Nw S w0 J) v q:=
 (h.rel r X).bw fun _ R=>Cv.nw R r
end
theorem ID(X:Old S w)(hf:cV w S v f):
  eF PG F'.j8 #[v] w (eM w fun v' _w2=>v'= .int .i64 (rs f)):=by
 have L:=bR w;replace hf:=hf.bw (S':=Cv S w.heap.size []) fun _ h=>.inl h;obtain⟨b1,a1,n1,c1,b2,a2,n2,c2,rfl⟩:=hf.shape;have Px:=hf.num;have MM:=hf.den;refine mX (by simp) ?_;refine bp (cE L (fun _ J v Y=>v= .int .i64 (rs f)) (fun O J r=>wu (Px.rel r X)) ?_);rintro O _ _ _ LC r Z L h_ rfl;exact rtn L fun I' we re=>rfl
theorem Gx(X:Old S w)(hf:cV w S v f):
  eF PG F'.jS #[v] w (eM w fun v' Y=>cV Y (Nw S w Y) v' (-f)):=by
 have L:=bR w;replace hf:=hf.bw (S':=Cv S w.heap.size []) fun _ h=>.inl h;obtain⟨b1,a1,n1,c1,b2,a2,n2,c2,rfl⟩:=hf.shape;have Px:=hf.num;have MM:=hf.den;refine lU (by simp) ?_;refine cC hτ eG [.x 0,.x 1,.x 3,.x 4,.x 2,.x 5,.x 6] (by kernel_rfl) (by kernel_rfl) ?_;refine bz (Id:=fun _ J v Y=>dU Y (Nw (Cv S w.heap.size []) J Y) v (-f.num)) (fun O J r=>mg (Rel.old r X) (Px.rel r X)) ?_;rintro O M5 v1 MS r Z hb A;replace L:=L.tr hb;replace MM:=MM.bu (E:=(M5.heap.size,MS.heap.size)::[]) r X Z fun x F=>aB _ F;have hM:=A.old r.bs;generalize (M5.heap.size,MS.heap.size)::[]=LC at*
 obtain⟨A0,A1,A2,A3,rfl⟩:=hM.shape;exact rtn L fun I' we re=>cV.of (by rw[Rat.neg_num];exact hM.out re X) (by rw[Rat.neg_den];exact MM.out re X)
theorem Gy(X:Old S w)(hf:cV w S v f)(R:cV w S u g)(SC:rl f<=10000000000)(hlg:rl g<=10000000000):
  eF PG F'.jR #[v,u] w (eM w fun v' Y=>cV Y (Nf w Y) v' (f*g)):=by
 have L:=bR w;have l1:=gJ f;have l2:=fO f;have l3:=gJ g;have l4:=fO g;have m0:=de f.num g.num;have m1:=de f.den g.den;replace hf:=hf.bw (S':=Cv S w.heap.size []) fun _ h=>.inl h;replace R:=R.bw (S':=Cv S w.heap.size []) fun _ h=>.inl h;obtain⟨b1,a1,n1,c1,b2,a2,n2,c2,rfl⟩:=hf.shape;obtain⟨b3,a3,n3,c3,b4,a4,n4,c4,rfl⟩:=R.shape;have Px:=hf.num;have MM:=hf.den;have OM:=R.num;have NP:=R.den;refine lT (by simp) ?_;refine cC hτ eG [.x 0,.x 1,.x 2,.x 3,.x 5,.x 6,.x 7,.x 8,.x 4,.x 9,.x 10,.x 11] (by kernel_rfl) (by kernel_rfl) ?_;refine cE L (fun _ J v Y=>dU Y (Nf J Y) v (f.num*g.num)) (fun O J r=>gA (Rel.old r X) (Px.rel r X) (OM.rel r X) (by omega) (by omega)) ?_;rintro O _ _ _ LC r Z L h_ A;replace MM:=MM.bu r X Z (mC h_);replace NP:=NP.bu r X Z (mC h_);have hA:=A.df (S:=FF) r.bs (mN h_);obtain⟨A0,A1,A2,A3,rfl⟩:=hA.shape;refine cE L (fun _ J v Y=>dU Y (Nf J Y) v ((f.den:Int)*(g.den:Int))) (fun O J r=>gA (Rel.old r X) (MM.rel r X) (NP.rel r X) (by omega) (by omega)) ?_;rintro O _ _ _ Kx r Z L h_ A;replace hA:=hA.bu r (bo w) Z (mC h_);have hB:=A.df (S:=FF) r.bs (mN h_);obtain⟨C0,C1,C2,C3,rfl⟩:=hB.shape;refine cE L (fun _ J v Y=>cV Y (Nf J Y) v (f*g)) (fun O J r=>(DX f g)▸xE (Rel.old r (bo w)) (hA.rel r (bo w)) (hB.rel r (bo w)) (rn (jB f) (jB g)) (by omega) (by omega)) ?_;rintro O _ _ _ LV r Z L h_ A;have hC:=A.df (S:=FF) r.bs (mN h_);obtain⟨F0,F1,F2,F3,F4,F5,F6,F7,rfl⟩:=hC.shape;exact rtn L fun I' we re=>hC.out re (bo w)
theorem Js(X:Old S w)(hf:cV w S v f)(R:cV w S u g)(SC:rl f<=10000000000)(hlg:rl g<=10000000000)(OH:g≠0):
  eF PG F'.kf #[v,u] w (eM w fun v' Y=>cV Y (Nf w Y) v' (f / g)):=by
 have L:=bR w;have l1:=gJ f;have l2:=fO f;have l3:=gJ g;have l4:=fO g;have m0:=de f.num g.den;have m1:=de f.den g.num;replace hf:=hf.bw (S':=Cv S w.heap.size []) fun _ h=>.inl h;replace R:=R.bw (S':=Cv S w.heap.size []) fun _ h=>.inl h;obtain⟨b1,a1,n1,c1,b2,a2,n2,c2,rfl⟩:=hf.shape;obtain⟨b3,a3,n3,c3,b4,a4,n4,c4,rfl⟩:=R.shape;have Px:=hf.num;have MM:=hf.den;have OM:=R.num;have NP:=R.den;refine oC (by simp) ?_;refine cC hτ eG [.x 0,.x 1,.x 2,.x 3,.x 5,.x 6,.x 7,.x 8,.x 4,.x 9,.x 10,.x 11] (by kernel_rfl) (by kernel_rfl) ?_;refine cE L (fun _ J v Y=>dU Y (Nf J Y) v (f.num*(g.den:Int))) (fun O J r=>gA (Rel.old r X) (Px.rel r X) (NP.rel r X) (by omega) (by omega)) ?_;rintro O _ _ _ LC r Z L h_ A;replace MM:=MM.bu r X Z (mC h_);replace OM:=OM.bu r X Z (mC h_);have hA:=A.df (S:=FF) r.bs (mN h_);obtain⟨A0,A1,A2,A3,rfl⟩:=hA.shape;refine cE L (fun _ J v Y=>dU Y (Nf J Y) v ((f.den:Int)*g.num)) (fun O J r=>gA (Rel.old r X) (MM.rel r X) (OM.rel r X) (by omega) (by omega)) ?_;rintro O _ _ _ Kx r Z L h_ A;replace hA:=hA.bu r (bo w) Z (mC h_);have hB:=A.df (S:=FF) r.bs (mN h_);obtain⟨C0,C1,C2,C3,rfl⟩:=hB.shape;refine cE L (fun _ J v Y=>cV Y (Nf J Y) v (f / g)) (fun O J r=>(DY f g)▸xE (Rel.old r (bo w)) (hA.rel r (bo w)) (hB.rel r (bo w)) (rn (jB f) (fun e=>OH (Rat.num_eq_zero.1 e))) (by omega) (by omega)) ?_;rintro O _ _ _ LV r Z L h_ A;have hC:=A.df (S:=FF) r.bs (mN h_);obtain⟨F0,F1,F2,F3,F4,F5,F6,F7,rfl⟩:=hC.shape;exact rtn L fun I' we re=>hC.out re (bo w)
theorem Dk(X:Old S w)(hf:cV w S v f)(R:cV w S u g)(SC:rl f<=10000000000)(hlg:rl g<=10000000000):
  eF PG F'.j9 #[v,u] w (eM w fun v' Y=>cV Y (Nf w Y) v' (f+g)):=by
 have L:=bR w;have l1:=gJ f;have l2:=fO f;have l3:=gJ g;have l4:=fO g;have m0:=de f.num g.den;have m1:=de g.num f.den;have m2:=de f.den g.den;have m4:=vT (f.num*g.den) (g.num*f.den);replace hf:=hf.bw (S':=Cv S w.heap.size []) fun _ h=>.inl h;replace R:=R.bw (S':=Cv S w.heap.size []) fun _ h=>.inl h;obtain⟨b1,a1,n1,c1,b2,a2,n2,c2,rfl⟩:=hf.shape;obtain⟨b3,a3,n3,c3,b4,a4,n4,c4,rfl⟩:=R.shape;have Px:=hf.num;have MM:=hf.den;have OM:=R.num;have NP:=R.den;refine mY (by simp) ?_;refine cC hτ eG [.x 0,.x 1,.x 2,.x 3,.x 5,.x 6,.x 7,.x 8,.x 11,.x 12,.x 13,.x 14,.x 4,.x 9,.x 10,.x 15,.x 16,.x 17] (by kernel_rfl) (by kernel_rfl) ?_;refine cE L (fun _ J v Y=>dU Y (Nf J Y) v (f.num*(g.den:Int))) (fun O J r=>gA (Rel.old r X) (Px.rel r X) (NP.rel r X) (by omega) (by omega)) ?_;rintro O _ _ _ LC r Z L h_ A;replace MM:=MM.bu r X Z (mC h_);replace OM:=OM.bu r X Z (mC h_);replace NP:=NP.bu r X Z (mC h_);have hA:=A.df (S:=FF) r.bs (mN h_);obtain⟨A0,A1,A2,A3,rfl⟩:=hA.shape;refine cE L (fun _ J v Y=>dU Y (Nf J Y) v (g.num*(f.den:Int))) (fun O J r=>gA (Rel.old r X) (OM.rel r X) (MM.rel r X) (by omega) (by omega)) ?_;rintro O _ _ _ Kx r Z L h_ A;replace MM:=MM.bu r X Z (mC h_);replace NP:=NP.bu r X Z (mC h_);replace hA:=hA.bu r (bo w) Z (mC h_);have hB:=A.df (S:=FF) r.bs (mN h_);obtain⟨C0,C1,C2,C3,rfl⟩:=hB.shape;refine cE L (fun _ J v Y=>dU Y (Nf J Y) v (f.num*(g.den:Int)+g.num*(f.den:Int))) (fun O J r=>y9 (Rel.old r (bo w)) (hA.rel r (bo w)) (hB.rel r (bo w)) (by omega) (by omega)) ?_;rintro O _ _ _ LV r Z L h_ A;replace MM:=MM.bu r X Z (mC h_);replace NP:=NP.bu r X Z (mC h_);have hD:=A.df (S:=FF) r.bs (mN h_);obtain⟨F0,F1,F2,F3,rfl⟩:=hD.shape;refine cE L (fun _ J v Y=>dU Y (Nf J Y) v ((f.den:Int)*(g.den:Int))) (fun O J r=>gA (Rel.old r X) (MM.rel r X) (NP.rel r X) (by omega) (by omega)) ?_;rintro O _ _ _ MD r Z L h_ A;replace hD:=hD.bu r (bo w) Z (mC h_);have hE:=A.df (S:=FF) r.bs (mN h_);obtain⟨G0,G1,G2,G3,rfl⟩:=hE.shape;refine cE L (fun _ J v Y=>cV Y (Nf J Y) v (f+g)) (fun O J r=>(zH f g)▸xE (Rel.old r (bo w)) (hD.rel r (bo w)) (hE.rel r (bo w)) (rn (jB f) (jB g)) (by omega) (by omega)) ?_;rintro O _ _ _ OT r Z L h_ A;have hC:=A.df (S:=FF) r.bs (mN h_);obtain⟨J0,J1,J2,J3,J4,J5,J6,J7,rfl⟩:=hC.shape;exact rtn L fun I' we re=>hC.out re (bo w)
theorem rI(X:Old S w)(hf:cV w S v f)(SC:rl f<=100000000000):
  eF PG F'.j7 #[v] w (eM w fun v' Y=>cI Y (Nf w Y) v' f):=by
 have L:=bR w;have l1:=gJ f;have l2:=fO f;replace hf:=hf.bw (S':=Cv S w.heap.size []) fun _ h=>.inl h;obtain⟨b1,a1,n1,c1,b2,a2,n2,c2,rfl⟩:=hf.shape;have Px:=hf.num;have MM:=hf.den;refine mW (by simp) ?_;refine cC hτ eG [.x 0,.x 1,.x 3,.x 4,.x 2,.x 5,.x 6,.x 7] (by kernel_rfl) (by kernel_rfl) ?_;refine cE L (fun _ J v Y=>fb Y (Nf J Y) v f.num) (fun O J r=>Gj (Rel.old r X) (Px.rel r X) (by omega)) ?_;rintro O _ _ _ LC r Z L h_ A;replace MM:=MM.bu r X Z (mC h_);have hA:=A.df (S:=FF) r.bs (mN h_);obtain⟨A0,A1,A2,A3,rfl⟩:=hA.shape;refine cE L (fun _ J v Y=>fb Y (Nf J Y) v (f.den:Int)) (fun O J r=>Gj (Rel.old r X) (MM.rel r X) (by omega)) ?_;rintro O _ _ _ Kx r Z L h_ A;replace hA:=hA.bu r (bo w) Z (mC h_);have hB:=A.df (S:=FF) r.bs (mN h_);obtain⟨C0,C1,C2,C3,rfl⟩:=hB.shape;exact rtn L fun I' we re=>cI.of (hA.out re (bo w)) (hB.out re (bo w))
theorem IE(n:Int)(w:World)(V: -9223372036854775808<=n)(I:n<=9223372036854775807):
  eF PG F'.tF #[.int .i64 n] w (eM w fun v' Y=>cV Y (Nf w Y) v' (n:Rat)):=by
 have L:=bR w;refine wP (by simp) ?_;refine bp (cE L (fun _ J v Y=>dU Y (Nf J Y) v n) (fun O J r=>rH n J V I) ?_);rintro O _ _ _ LC r Z L h_ A;have hA:=A.df (S:=FF) r.bs (mN h_);obtain⟨A0,A1,A2,A3,rfl⟩:=hA.shape;refine bp (cE L (fun _ J v Y=>dU Y (Nf J Y) v 1) (fun O J r=>rH 1 J (by decide) (by decide)) ?_);rintro O _ _ _ Kx r Z L h_ A;replace hA:=hA.bu r (bo w) Z (mC h_);have hB:=A.df (S:=FF) r.bs (mN h_);obtain⟨C0,C1,C2,C3,rfl⟩:=hB.shape;exact rtn L fun I' we re=>cV.of (by rw[Rat.num_intCast];exact hA.out re (bo w)) (by rw[Rat.den_intCast];exact hB.out re (bo w))
theorem jL(X:Old S w)(F:gK w S v x y)(Lw:ln x.natAbs<=100000000000)(NQ:ln y.natAbs<=100000000000):
  eF PG F'.tB #[v] w (eM w fun v' Y=>cV Y (Nf w Y) v' (ratio x y)):=by
 have L:=bR w;replace F:=F.bw (S':=Cv S w.heap.size []) fun _ h=>.inl h;obtain⟨b1,a1,n1,c1,b2,a2,n2,c2,rfl⟩:=F.shape;have A:=F.num;have hd:=F.den;have NK:=A;have Pc:=hd;refine wL (by simp) ?_;refine bp (bz (Id:=fun _ J v Y=>dU Y (Nw (Cv S w.heap.size []) J Y) v y) (fun O J r=>Gq (Rel.old r X) (Pc.rel r X)) ?_);rintro O M5 v1 MS r Z hb A;replace L:=L.tr hb;replace NK:=NK.bu (E:=(M5.heap.size,MS.heap.size)::[]) r X Z fun x F=>aB _ F;have hD:=A.old r.bs;generalize (M5.heap.size,MS.heap.size)::[]=LC at*
 obtain⟨A0,A1,A2,A3,rfl⟩:=hD.shape;refine bp (cE L (fun _ J v Y=>v= .int .i64 y.sign) (fun O J r=>wu (hD.rel r X)) ?_);rintro O _ _ _ Kx r Z L h_ rfl;replace NK:=NK.bu r X Z (mC h_);replace hD:=hD.bu r X Z (mC h_);refine ct.mk ?_ ?_<;>intro h
 ·have h:y=0:=Int.sign_eq_zero_iff_zero.1 (eq_of_beq h);have e0:ratio x y=Rat.divInt x 1:=if_pos h;refine bp (cE L (fun _ J v Y=>dU Y (Nf J Y) v 1) (fun O J r=>rH 1 J (by decide) (by decide)) ?_);rintro O M4 v3 MY LV r Z L h_ A;replace NK:=NK.bu r X Z (mC h_);have hO:=A.df (S:=FF) r.bs (mN h_);obtain⟨C0,C1,C2,C3,rfl⟩:=hO.shape;have l1:ln (1:Int).natAbs=1:=by decide
  refine cC hτ eG [.x 0,.x 1,.x 3,.x 2,.x 4,.x 5] (by kernel_rfl) (by kernel_rfl) ?_;refine bz (Id:=fun _ J v Y=>dU Y (Nw (Cv S w.heap.size LV) J Y) v x) (fun O J r=>Gq (Rel.old r X) (NK.rel r X)) ?_;rintro O Nm v4 NI r Z hb A;replace L:=L.tr hb;replace hO:=hO.bu (E:=(Nm.heap.size,NI.heap.size)::LV) r (bo w) Z fun x F=>aB _ F;have hN:=A.old r.bs;generalize (Nm.heap.size,NI.heap.size)::LV=MD at*
  obtain⟨F0,F1,F2,F3,rfl⟩:=hN.shape;refine cE L (fun _ J v Y=>cV Y (Nf J Y) v (ratio x y)) (fun O J r=>e0.symm▸xE (Rel.old r X) (hN.rel r X) ((hO.rel r (bo w)).bw fun g R=>R.elim (fun k=>k.elim) .inr) (by decide) (by omega) (by omega)) ?_;rintro O _ _ _ OT r Z L h_ A;have hC:=A.df (S:=FF) r.bs (mN h_);obtain⟨G0,G1,G2,G3,G4,G5,G6,G7,rfl⟩:=hC.shape;exact rtn L fun I' we re=>hC.out re (bo w)
 ·have h:y≠0:=fun e=>by rw[e]at h;exact absurd h (by decide)
  have e0:ratio x y=Rat.divInt x y:=aF h;refine cC hτ eG [.x 0,.x 1,.x 3,.x 2,.x 4,.x 5] (by kernel_rfl) (by kernel_rfl) ?_;refine bz (Id:=fun _ J v Y=>dU Y (Nw (Cv S w.heap.size Kx) J Y) v x) (fun O J r=>Gq (Rel.old r X) (NK.rel r X)) ?_;rintro O M4 v3 MY r Z hb A;replace L:=L.tr hb;replace hD:=hD.bu (E:=(M4.heap.size,MY.heap.size)::Kx) r X Z fun x F=>aB _ F;have hN:=A.old r.bs;generalize (M4.heap.size,MY.heap.size)::Kx=LV at*
  obtain⟨C0,C1,C2,C3,rfl⟩:=hN.shape;refine cE L (fun _ J v Y=>cV Y (Nf J Y) v (ratio x y)) (fun O J r=>e0.symm▸xE (Rel.old r X) (hN.rel r X) (hD.rel r X) h (by omega) (by omega)) ?_;rintro O _ _ _ MD r Z L h_ A;have hC:=A.df (S:=FF) r.bs (mN h_);obtain⟨F0,F1,F2,F3,F4,F5,F6,F7,rfl⟩:=hC.shape;exact rtn L fun I' we re=>hC.out re (bo w)
def jY(v:Value):Iv:=match v.ownBlock with
 |some g=>[(g,g+1)]
 |none=>[]
theorem og{lo N:Nat}:(lo,N)∈jY v↔v.ownBlock=some lo/\N=lo+1:=by
 unfold jY
 cases h:v.ownBlock with
 |none=>simp
 |some g=>simp;omega
def Ct(iv:Iv)(v:Value):Prop:=∀b,v.ownBlock=some b->∃lo N,(lo,N)∈iv/\lo<=b/\b<N
section
variable{S:Nat->Prop}{H:Hp}{nx:Nat}{iv E:Iv}{B e sz m:Nat}{w J Y:World}{O:Nat->Sx.cd}{v v':Value}{xs:List Value}
theorem Ct.not(h:Ct iv v)(r:Rel H nx iv B w O J){b:Nat}(hb:v.ownBlock=some b):∀id c,cO H id=some c->(O id).nil=false->(O id).g≠b:=fun id c hc A Z=>by
 obtain⟨lo,N,V,I,K⟩:=h b hb;exact r.ie lo N V id c hc A (by omega)
theorem iH(h:w.ownsRow B e sz v m xs)(hc:Ct iv v)(r:Rel H nx iv B w O J):J.ownsRow B e sz v m xs:=
 ownsRow.br h fun b hb=>r.rP b (ownsRow.low h b hb).2 fun id c hc' A Z=>hc.not r hb id c hc' A Z
theorem Ct.row(v:Value):Ct (jY v) v:=fun b hb=>⟨b,b+1,og.2 ⟨hb,rfl⟩,by omega,by omega⟩
theorem Ct.mono(h:Ct iv v)(k:∀p,p∈iv->p∈E):Ct E v:=fun b hb=>by
 obtain⟨lo,N,V,I⟩:=h b hb;exact⟨lo,N,k _ V,I⟩
theorem fQ(h:w.ownsRow B e sz v m xs):∃a c,v= .slice a m c/\m<=c:=by
 rcases h.2 with⟨rfl,rfl⟩|⟨g,cap,cur,rfl,_,_,V,_⟩
 ·exact⟨none,0,rfl,aE _⟩
 ·exact⟨_,cap,rfl,V⟩
end
structure gi(w:World)(S:Nat->Prop)(sz:Nat)(v:Value)(xs:List Value)(n:Nat):Prop where
 le:n<=maxLen
 len:xs.length=n*sz
 one:∀u∈xs,u.oneCell'=true
 sl:∃a c,v= .slice a n c/\n<=c/\∀(j:Nat) u,xs[j]? =some u->∃ad,a=some ad/\S ad.block/\w.cell? (ad.add j)=some u
theorem gi.br(h:gi w S sz v xs n)(W:∀g,S g->Y.heap[g]? =w.heap[g]?):gi Y S sz v xs n:=by
 obtain⟨h0,V,I,a,c,K,h4,h5⟩:=h;refine⟨h0,V,I,a,c,K,h4,fun j u hu=>?_⟩;obtain⟨ad,k1,k2,k3⟩:=h5 j u hu;exact⟨ad,k1,k2,by rw[cA (W _ (by rw[dP];exact k2))];exact k3⟩
theorem gi.bw(h:gi w S sz v xs n)(W:∀g,S g->S' g):gi w S' sz v xs n:=by
 obtain⟨h0,V,I,a,c,K,h4,h5⟩:=h;refine⟨h0,V,I,a,c,K,h4,fun j u hu=>?_⟩;obtain⟨ad,k1,k2,k3⟩:=h5 j u hu;exact⟨ad,k1,W _ k2,k3⟩
section
variable{S S':Nat->Prop}{H:Hp}{nx:Nat}{iv E:Iv}{B:Nat}{w J Y:World}{O:Nat->Sx.cd}{v:Value}{sz n:Nat}{xs:List Value}
end
end Go.Ex
