/- Texts X11 to X23: lemmas, each with its conditions. -/
import Derived.Test.YtkdcaknoaeicdaaGreatP3
namespace Go.Ex
open Go Go.Sx Go.Proofs
end Go.Ex
namespace Go.Sx
open Go Go.Ex Go.Proofs
variable{O:Nat->Sx.dg}
theorem Rel.cF{H:Hp}{nx:Nat}{iv:Iv}{B:Nat}{w w':World}(r:Rel H nx iv B w O w'):B<=w'.heap.size:=by have:=r.base;have:=r.size;omega
end Go.Sx
namespace Go.Ex
open Go Go.Sx Go.Proofs
end Go.Ex
namespace Go.Sx
open Go Go.Ex Go.Proofs
variable{ls:List Nat}{O:Nat->Sx.dg}
theorem Rel.tu{H:Hp}{nx:Nat}{iv:Iv}{B:Nat}{w w':World}(r:Rel H nx iv B w O w'){id t:Nat}(h:dB H id=some (.box t ((U ls).map At.v)))(PM:Lm ls)(hle:ls.length<=9223372036854775807):
  dL w' (fun g=>g=(O id).g) (.slice (some ⟨(O id).g,0,none⟩) ls.length ls.length) ls:=by
 refine⟨PM,hle,_,_,rfl,aF _,fun j x hx=>⟨_,rfl,rfl,?_⟩⟩;have h0:(⟨(O id).g,0,none⟩:Addr).add j=⟨(O id).g,j,none⟩:=by
  cases j with
  |zero=>rfl
  |succ j=>simp[Addr.add]
 rw[h0,cell_of (r.box id t _ h),fb];exact tt hx
end Go.Sx
namespace Go.Ex
open Go Go.Sx Go.Proofs
variable{ds r2:List Nat}{g k:Nat}
section
variable{S:Nat->Prop}{H:Hp}{nx:Nat}{iv iv':Iv}{B:Nat}{w w' w2:World}{O:Nat->Sx.dg}{v:Value}{n:Nat}{ls:List Nat}
theorem Nw.dE(h:Nf w' w2 g)(hB:B<=w'.heap.size)(hm:(w'.heap.size,w2.heap.size)∈iv):Cv S B iv g:=by
 rcases h with h|h
 ·cases h
 ·exact .inr ⟨by omega,_,_,hm,h.1,h.2⟩
theorem dx.dE(h:dx w2 (Nf w' w2) v n)(hB:B<=w'.heap.size)(hm:(w'.heap.size,w2.heap.size)∈iv):dx w2 (Cv S B iv) v n:=h.cJ fun _ hg=>hg.dE hB hm
theorem dL.dE(h:dL w2 (Nf w' w2) v ls)(hB:B<=w'.heap.size)(hm:(w'.heap.size,w2.heap.size)∈iv):dL w2 (Cv S B iv) v ls:=h.cJ fun _ hg=>hg.dE hB hm
theorem dx.rel(h:dx w (Cv S B iv) v n)(r:Rel H nx iv B w O w')(hS:∀g,S g->g<B):dx w' (Cv S B iv) v n:=h.cI fun _ hg=>Rel.same r hS hg
theorem dx.cG(h:dx w (Cv S B iv) v n)(r:Rel H nx iv B w O w')(hS:∀g,S g->g<B)(he:Ext w' w2)(hm:∀p,p∈iv->p∈iv'):dx w2 (Cv S B iv') v n:=
 ((h.rel r hS).cI fun g hg=>he.block g (Rel.old r hS g hg)).cJ fun _ hg=>hg.mono hm
theorem dL.trimmed(h:dL w S v (dw ls)):dx w S v (val ls):=⟨_,h,(ef ls).2.1,(ef ls).1⟩
end
theorem HI{w:World}{m c:Nat}{rs:List Nat}(hg:w.heap[g]? =some (.cells (U rs).toArray T.uint32 (0,0)))(PM:Lm rs)(h:k+m<=rs.length)(hc:m<=c)(hl:rs.length<=1000000000000):
  dL w (fun x=>x=g) (.slice (some ⟨g,k,none⟩) m c) ((rs.drop k).take m):=by
 have hlen:((rs.drop k).take m).length=m:=by simp;omega
 refine⟨(PM.drop k).take m,by omega,some ⟨g,k,none⟩,c,by rw[hlen],by omega,fun j x hx=>⟨_,rfl,rfl,?_⟩⟩;have hj:j<m:=by have:=(aD.1 hx).1;omega
 rw[bU hj,List.getElem?_drop]at hx;rw[dQ,cell_of hg];exact tt hx
theorem Cm{c:Nat}(h:k<c):(if (c:Int)=(k:Int)then some (⟨g,0,none⟩:Addr)else(some (⟨g,0,none⟩:Addr)).map fun x=>x.add ((k:Int).toNat*1))=some ⟨g,k,none⟩:=by
 rw[aK (by omega),Option.map_some,aE,aS,dQ,aQ]
theorem gf{a b c:World}{row:Option Nat}(h:a.grownBy b row)(k:b.grownBy c row):a.grownBy c row:=
 ⟨k.os.trans h.os,k.tape.trans h.tape,k.output.trans h.output,ah h.size k.size,fun j hj OG=>(k.block j (by have:=h.size;omega) OG).trans (h.block j hj OG)⟩
theorem wW{a b:World}{row:Option Nat}(h:eB a.heap.size a b):a.grownBy b row:=⟨h.os,h.tape,h.output,h.size,fun j hj _=>h.block j hj⟩
theorem Lg(rs:List Nat)(k m:Nat):(U rs).take k++List.replicate m (Value.int .u32 0)++(U rs).drop (k+m)=U (rs.take k++List.replicate m 0++rs.drop (k+m)):=by
 simp[U]
theorem Mt(rs ds:List Nat)(k:Nat):(U rs).take k++U ds++(U rs).drop (k+(U ds).length)=U (rs.take k++ds++rs.drop (k+ds.length)):=by
 simp[U]
theorem IA{rs:List Nat}{m:Nat}(hk:k+m<=rs.length)(hd:ds.length<=m){r1:List Nat}(h1:r1=rs.take k++List.replicate m 0++rs.drop (k+m))(h2:r2=r1.take k++ds++r1.drop (k+ds.length)):
  r2=rs.take k++(ds++List.replicate (m-ds.length) 0)++rs.drop (k+m):=by
 have hkl:(rs.take k).length=k:=by simp;omega
 have h3:r1.take k=rs.take k:=by rw[h1,bZ,List.take_append_of_le_length (by omega),List.take_of_length_le (by omega)]
 have h4:r1.drop (k+ds.length)=List.replicate (m-ds.length) 0++rs.drop (k+m):=by
  rw[h1,bZ,List.drop_append,hkl,List.drop_of_length_le (by omega),List.nil_append,Nat.add_sub_cancel_left,List.drop_append_of_le_length (by simpa using hd),List.drop_replicate]
 rw[h2,h3,h4];simp
theorem IB{rs:List Nat}{m:Nat}(hk:k+m<=rs.length)(hd:ds.length<=m)(PM:Lm rs)(QX:Lm ds)(h:r2=rs.take k++(ds++List.replicate (m-ds.length) 0)++rs.drop (k+m)):
  r2.length=rs.length∧Lm r2∧r2.take k=rs.take k∧r2.drop (k+m)=rs.drop (k+m)∧val ((r2.drop k).take m)=val ds:=by
 have hkl:(rs.take k).length=k:=by simp;omega
 have SM:(ds++List.replicate (m-ds.length) 0).length=m:=by simp;omega
 have SL:r2.drop k=(ds++List.replicate (m-ds.length) 0)++rs.drop (k+m):=by
  rw[h,bZ,List.drop_append,hkl,List.drop_of_length_le (by omega),List.nil_append,bK,List.drop_zero]
 refine⟨by rw[h,List.length_append,List.length_append,hkl,SM];simp;omega,?_,?_,?_,?_⟩
 ·rw[h];exact((PM.take k).append (QX.append (Lm.replicate _))).append (PM.drop _)
 ·rw[h,bZ,List.take_append_of_le_length (by omega),List.take_of_length_le (by omega)]
 ·rw[<-List.drop_drop,SL,List.drop_append,SM,List.drop_of_length_le (by omega),List.nil_append,bK,List.drop_zero]
 ·rw[SL,List.take_append_of_le_length (by omega),List.take_of_length_le (by omega),kz,mW];simp
theorem Cn{S:Nat->Prop}{w:World}{vd:Value}{D g k q:Nat}{rs:List Nat}(hS:Old S w)(hgS:¬S g)(hd:dx w S vd D)(hg:w.heap[g]? =some (.cells (U rs).toArray T.uint32 (0,0)))(PM:Lm rs)
  (hk:k+ln D+1<=rs.length) (hl:rs.length<=1000000000000) (hq:q<4294967296):
  eD PG N.pZ #[.slice (some ⟨g,0,none⟩) rs.length rs.length,vd,.int .i64 k,.int .u64 q] w (fun e w2=>
   (val ((rs.drop k).take (ln D+1))<q*D∧e= .returned (.bool false)∧eB w.heap.size w w2)∨
   (q*D<=val ((rs.drop k).take (ln D+1))∧e= .returned (.bool true)∧w.grownBy w2 (some g)∧∃rs',rs'.length=rs.length∧Lm rs'∧rs'.take k=rs.take k∧rs'.drop (k+ln D+1)=rs.drop (k+ln D+1)∧
    val ((rs'.drop k).take (ln D+1))=val ((rs.drop k).take (ln D+1))-q*D∧w2.heap[g]? =some (.cells (U rs').toArray T.uint32 (0,0)))):=by
 have hgB:=jz hg;have hnD:=hd;obtain⟨p,rfl,Q7,QF⟩:=hd.la;have PV:=eL p.lm QF;rw[Q7]at PV;generalize hn:ln D=n at*
 have hSB:=hS;refine tq (by simp) ?_;refine⟨(q:Int),by rw[fC,bP hq],?_⟩;refine gW (Φ:=fun O _ v w2=>dL w2 (fun g=>g=(O 0).g) v (dw [q])) (H':=[]) 0 rfl (by simp) trivial rfl (fun O w' r=>r.nn 0 _ rfl (by intros;simp) (by simp)) (fun O w' r=>?_) ?_
 ·have hL:=r.tu (id:=0) (ls:=[q]) rfl (by intro x hx;simp at hx;omega) (by simp);exact fN (fun g hg=>by rw[hg];exact(r.low 0 _ rfl (r.nn 0 _ rfl (by intros;simp) (by simp))).2) hL
 rintro O w1 v1 w2 r he hw hL;have Og:=r.low 0 _ rfl (r.nn 0 _ rfl (by intros;simp) (by simp));have hs:=he.size;generalize (O 0).g=g0 at*
 have Ts:dx w2 (Cv S w.heap.size [(g0,g0+1),(w1.heap.size,w2.heap.size)]) v1 q:=by
  have:=hL.trimmed;simp only[val,Nat.mul_zero,bz]at this;exact this.cJ fun k hk=>.inr ⟨by omega,g0,g0+1,by simp,by omega,by omega⟩
 have UH:dx w2 (Cv S w.heap.size [(g0,g0+1),(w1.heap.size,w2.heap.size)]) (.slice p.a p.ls.length p.c) D:=
  (hnD.cI fun g hg=>hw.block g (hS g hg)).cJ fun _ hg=>.inl hg
 generalize [(g0,g0+1),(w1.heap.size,w2.heap.size)]=iv at*
 refine cD (cE hw (fun _ w' v w2=>dx w2 (Nf w' w2) v (q*D)) (fun O w' r=>HJ (Rel.old r hS) (Ts.rel r hS) (UH.rel r hS) (ah (gQ.2 (show q<wt 1 from hq)) (by decide)) (by omega)) ?_);rintro O w3 _ _ iv r he hw h_ hm;have TV:=hm.dE (S:=S) r.cF (mN h_);refine⟨((k+n:Nat):Int),wo,((k+n+1:Nat):Int),wo,⟨by omega,by omega,by omega⟩,some ⟨g,k,none⟩,n+1,rs.length-k,Cm (by omega),by omega,by omega,?_⟩;have hplen:((rs.drop k).take (n+1)).length=n+1:=by simp;omega
 have hplm:Lm ((rs.drop k).take (n+1)):=(PM.drop k).take _;generalize hpart:(rs.drop k).take (n+1)=part at*
 refine cD (cE hw (fun _ w' v w2=>dL w2 (Nf w' w2) v part) (fun O w' r=>?_) ?_)
 ·have h1:=HI (k:=k) (m:=n+1) (c:=rs.length-k) (w:=w') (by rw[(hw.tr r.cQ).block g hgB];exact hg) PM (by omega) (by omega) hl;rw[hpart]at h1;exact HH (fun x hx=>by rw[hx];have:=(hw.tr r.cQ).size;omega) h1 (by omega)
 rintro O _ _ _ iv r he hw h_ hL;have hpL:=hL.dE (S:=S) r.cF (mN h_);replace TV:=TV.cG r hS he (mC h_);refine cD (cO (Φ:=fun _ w' v w2=>dL w2 (Cv S w.heap.size iv) v (dw part)) (fun O w' r=>fN (Rel.old r hS) (dL.rel hpL r hS)) ?_);rintro O w7 v4 w8 r he hb hL;replace hw:=hw.tr hb;have hpN:=hL.trimmed.cJ (S':=Cv S w.heap.size ((w7.heap.size,w8.heap.size)::iv)) fun _ hg=>hg.cons;replace TV:=TV.cG (iv':=(w7.heap.size,w8.heap.size)::iv) r hS he fun x hx=>List.mem_cons_of_mem _ hx;generalize (w7.heap.size,w8.heap.size)::iv=iv at*
 refine cD (cE hw (fun _ _ v _=>v= .int .i64 (sF (val part) (q*D))) (fun O w' r=>Jt (Rel.old r hS) (hpN.rel r hS) (TV.rel r hS)) ?_);rintro O _ _ _ iv r he hw h_ rfl;replace hpN:=hpN.cG r hS he (mC h_);replace TV:=TV.cG r hS he (mC h_);refine dN.mk ?_ ?_<;>intro h
 ·have h:val part<q*D:=by
   have:=aI h;unfold sF at this;split at this
   ·assumption
   ·split at this<;>omega
  intro ρ3 w3 r3;exact .inl ⟨h,rfl,hw.tr r3.cQ⟩
 have h:q*D<=val part:=by
  have:=aH h;unfold sF at this;split at this
  ·omega
  ·omega
 have hPl:ln (val part)<=n+1:=by rw[gQ,<-hplen];exact nT hplm
 refine cD (cE hw (fun _ w' v w2=>dx w2 (Nf w' w2) v (val part-q*D)) (fun O w' r=>Co (Rel.old r hS) (hpN.rel r hS) (TV.rel r hS) h (by omega)) ?_);rintro O _ v6 _ iv r he hw h_ hm;have VD:=hm.dE (S:=S) r.cF (mN h_);refine⟨((k+n:Nat):Int),wo,((k+n+1:Nat):Int),wo,⟨by omega,by omega,by omega⟩,some ⟨g,k,none⟩,n+1,rs.length-k,Cm (by omega),by omega,by omega,?_⟩;refine H5 hτ (cs:=U rs) (by rfl) (by rfl) (by rfl) (by omega) (fun O w' r=>⟨by rw[(hw.tr r.cQ).block g hgB];exact hg,fun id b hb=>by cases hb⟩) (by rw[gL];omega) (fun O w13 w14 r hh PX Oq=>?_);rw[Lg]at hh;have hgw:w.grownBy w14 (some g):=gf (wW (hw.tr r.cQ)) PX;replace VD:dx w14 (Cv S w.heap.size iv) v6 (val part-q*D):=(VD.rel r hS).cI fun x hx=>PX.block x (Rel.old r hS x hx) fun e=>by
  injection e with e;subst e;rcases hx with hx|hx
  ·exact hgS hx
  ·omega
 obtain⟨rl,rfl,Sf,SB⟩:=VD.la;have Oh:=eL rl.lm SB;rw[Sf]at Oh;have hrn:rl.ls.length<=n+1:=by rw[Oh];exact ah (fG (Nat.sub_le _ _)) hPl
 generalize hr1d:rs.take k++List.replicate (n+1) 0++rs.drop (k+(n+1))=r1 at*
 refine⟨⟨by omega,by omega,by omega⟩,some ⟨g,k,none⟩,rs.length-k,rs.length-k,Cm (by omega),by omega,by omega,?_⟩;have hr1l:r1.length=rs.length:=by rw[<-hr1d];simp;omega
 have hw14:w.heap.size<=w14.heap.size:=hgw.size;refine Iq hτ (tg:=T.uint32) (cs:=U r1) (ds:=U rl.ls) (by rfl) (by rfl) (by rfl) (by rfl) (fun O w' r=>⟨?_,fun id b hb=>by cases hb⟩) (fun O w' r=>⟨rl.a,rl.c,by rw[gL];rfl,fun j u hu=>?_⟩) (by rw[gL];omega) (by rw[gL,gL];omega)
  (fun u hu=>by simp only[U,aT]at hu;obtain⟨n,_,rfl⟩:=hu;rfl) (fun O w15 w16 r hh2 PX Oq=>?_)
 ·rw[r.po.block g (by omega) (by simp)];exact hh
 ·simp only[U,aN,Option.map_eq_some_iff]at hu;obtain⟨m,hm,rfl⟩:=hu;obtain⟨ad,h1,h2,h3⟩:=rl.cell j m hm;exact⟨ad,h1,(cH (w:=w14) (a:=ad.add j) (by rw[dH];exact Rel.same r hS h2)).trans h3⟩
 rw[Mt]at hh2;have hgw2:w.grownBy w16 (some g):=gf (gf hgw (by have:=r.po;exact⟨this.os,this.tape,this.output,this.size,fun j hj _=>this.block j hj (by simp)⟩)) PX;obtain⟨o1,o2,o3,o4,o5⟩:=IB (rs:=rs) (ds:=rl.ls) (k:=k) (m:=n+1) (by omega) hrn PM rl.lm (IA (by omega) hrn hr1d.symm rfl);generalize r1.take k++rl.ls++r1.drop (k+rl.ls.length)=r2 at*
 intro ρ3 w17 r3;refine .inr ⟨h,rfl,gf hgw2 (by have:=r3.po;exact⟨this.os,this.tape,this.output,this.size,fun j hj _=>this.block j hj (by simp)⟩),r2,o1,o2,o3,o4,by rw[o5,Sf],?_⟩;rw[r3.po.block g (by have:=hgw2.size;omega) (by simp)];exact hh2
end Go.Ex
namespace Go.Ex
open Go Go.Sx Go.Proofs
end Go.Ex
namespace Go.Sx
open Go Go.Ex Go.Proofs
variable{O:Nat->Sx.dg}
theorem Rel.MQ{nx:Nat}{iv:Iv}{B:Nat}{w w' w2:World}(r:Rel [] nx iv B w O w')(h:w'.heap.size<=w2.heap.size):Rel [] nx [] B w2 O w2:=
 r.D4 h (fun id b h=>by cases h) fun lo hi h=>by cases h
end Go.Sx
namespace Go.Ex
open Go Go.Sx Go.Proofs
variable{O:Nat->Sx.dg}
theorem Ju{P D low high dlow dtop W:Nat}(hP:P=low+W*high)(hD:D=dlow+W*dtop)(Og:low<W)(Sm:0<dtop)(hPD:P<4294967296*D):P / D<=min (high / dtop) 4294967295:=by
 have hW:0<W:=by omega
 have hD0:0<D:=by have:=Nat.mul_pos hW Sm;omega
 have h1:P / D<4294967296:=(Nat.div_lt_iff_lt_mul hD0).2 (by rw[bW]at hPD;omega);have h2:P / D<=high / dtop:=by
  rw[Nat.le_div_iff_mul_le Sm];have h3:=Nat.div_mul_le_self P D;generalize P / D=Q at*
  have h4:W*(Q*dtop)<=Q*D:=by
   rw[hD,Nat.mul_left_comm,bV];omega
  have h5:W*(Q*dtop)<W*(high+1):=by
   rw[bV];omega
  have:=Nat.lt_of_mul_lt_mul_left h5;omega
 omega
theorem HK{H:Hp}{nx:Nat}{iv:Iv}{w w1 w':World}{g i x:Nat}{rs:List Nat}(hg:w.heap[g]? =some (.cells (U rs).toArray T.uint32 (0,0)))(hw:eB w.heap.size w w1)(r:Rel H nx iv w.heap.size w1 O w')(hx:rs[i]? =some x):
  w'.cell? ((⟨g,0,none⟩:Addr).add ((i:Int).toNat*1))=some (.int .u32 x):=by
 rw[aE,aS,dQ,aQ,cell_of (by rw[(hw.tr r.cQ).block g (jz hg)];exact hg)];exact tt hx
theorem Lh{S:Nat->Prop}{w:World}{vd:Value}{D g k:Nat}{rs:List Nat}(hS:Old S w)(hgS:¬S g)(hd:dx w S vd D)(hD:0<D)(hg:w.heap[g]? =some (.cells (U rs).toArray T.uint32 (0,0)))(PM:Lm rs)
  (hk:k+ln D+1<=rs.length) (hl:rs.length<=1000000000000) (hPD:val ((rs.drop k).take (ln D+1))<4294967296*D):
  eD PG N.o0 #[.slice (some ⟨g,0,none⟩) rs.length rs.length,vd,.int .i64 k] w (fun e w2=>
   e= .returned (.int .u32 ((val ((rs.drop k).take (ln D+1)) / D:Nat):Int))∧w.grownBy w2 (some g)∧∃rs',rs'.length=rs.length∧Lm rs'∧rs'.take k=rs.take k∧rs'.drop (k+ln D+1)=rs.drop (k+ln D+1)∧
    val ((rs'.drop k).take (ln D+1))=val ((rs.drop k).take (ln D+1)) % D∧w2.heap[g]? =some (.cells (U rs').toArray T.uint32 (0,0))):=by
 have hgB:=jz hg;have hnD:=hd;obtain⟨p,rfl,Q7,QF⟩:=hd.la;have PV:=eL p.lm QF;rw[Q7]at PV;have Rl:=fun(w':World) (q:Nat)=>@Cn S w' (.slice p.a p.ls.length p.c) D g k q rs;generalize hn:ln D=n at*
 obtain⟨t,rfl⟩:∃t,n=t+1:=by
  cases n with
  |zero=>
   have:D<wt 0:=gQ.1 (by omega);rw[jL]at this;omega
  |succ t=>exact⟨t,rfl⟩
 obtain⟨dt,Sm⟩:∃q,p.ls[t]? =some q:=⟨_,aB (by omega)⟩
 have hdt0:0<dt:=by
  have:=QF dt (by rw[List.getLast?_eq_getElem?,PV];exact Sm);omega
 obtain⟨a,ha⟩:∃q,rs[k+t+1]? =some q:=⟨_,aB (by omega)⟩
 obtain⟨b,hb⟩:∃q,rs[k+t]? =some q:=⟨_,aB (by omega)⟩
 have ha32:=PM.at ha;have UF:=PM.at hb;have Vj:=p.lm.at Sm;generalize hP:val ((rs.drop k).take (t+1+1))=P at*
 have hguess:P / D<=min ((a*4294967296+b) / dt) 4294967295:=by
  refine Ju (low:=val ((rs.drop k).take t)) (W:=wt t) (dlow:=val (p.ls.take t)) ?_ ?_ ?_ hdt0 hPD
  ·rw[<-hP,de (x:=a) (by rw[List.getElem?_drop];exact ha),de (x:=b) (by rw[List.getElem?_drop];exact hb),ir,bV,bW 4294967296 (wt t),bh,bW a];omega
  ·rw[<-Q7,<-de Sm,List.take_of_length_le (by omega)]
  ·have h1:=nT ((PM.drop k).take t);have:((rs.drop k).take t).length=t:=by simp;omega
   rwa [this]at h1
 refine sE (by simp) ?_;refine⟨(t:Int),wo,?_⟩;refine cN hτ dm [.x 0,.x 1,.x 2,.x 3,.x 4,.x 5,.x 6,.x 7,.x 8,.x 9,.x 10,.x 11,.x 12,.x 13,.x 14,.x 15,.x 16,.x 17] (by kernel_rfl) (by kernel_rfl) ?_;refine⟨((k+t:Nat):Int),wo,((k+t+1:Nat):Int),wo,_,rfl,by omega,.int .u32 a,fun O w' r=>HK hg eB.refl r ha,(a:Int),eW (by omega),by decide,((a*2^32:Nat):Int),Cp (k:=32) (by decide) (by omega),((k+t:Nat):Int),wo,_,rfl,by omega,.int .u32 b,fun O w' r=>HK hg eB.refl r hb,(b:Int),eW (by omega),?_⟩;have To:a*2^32 ||| b=a*4294967296+b:=by
  rw[Nat.or_comm,bW,Cq (k:=32) UF];omega
 refine⟨((a*4294967296+b:Nat):Int),by rw[Jv (by omega) (by omega),To],?_⟩;have hh64:a*4294967296+b<18446744073709551616:=by omega
 generalize a*4294967296+b=high at*
 obtain⟨ad,Od,Ot⟩:=p.load hS (eB.refl (w:=w)) Sm;refine⟨ad,Od,by omega,.int .u32 dt,Ot _ _ _,(dt:Int),eW (by omega),by omega,((high / dt:Nat):Int),Jw hh64,?_⟩;conv=>whnf
 rw[show min ((high / dt:Nat):Int) 4294967295=((min (high / dt) 4294967295:Nat):Int) by omega];have hm32:min (high / dt) 4294967295<=4294967295:=Nat.min_le_right _ _;generalize min (high / dt) 4294967295=q0 at*
 have hQD:=Nat.div_mul_le_self P D;have hQl:∀q,q*D<=P->P / D<=q->q=P / D:=fun q h1 h2=>aR ((Nat.le_div_iff_mul_le hD).2 h1) h2;have hmod:P % D=P-P / D*D:=by have:=Nat.div_add_mod P D;rw[bW]at this;omega
 refine⟨Nat×World,fun z=>⟨[(0,.o (.v (.slice (some ⟨g,0,none⟩) rs.length rs.length))),(1,sV p.a p.ls.length p.c),(2,iZ k),(9,.o (.v (.int .u64 z.1)))],[],0,[],z.2⟩,fun z=>z.1,
  fun z=>eB w.heap.size w z.2∧P / D<=z.1∧z.1<=4294967295,?_,?_⟩
 ·intro O w' r;exact⟨(q0,w'),⟨r.cQ,hguess,hm32⟩,Sub.reset r ⟨rfl,rfl,rfl,rfl,trivial⟩ ⟨trivial,trivial,trivial,trivial,trivial⟩⟩
 ·rintro⟨q,w1⟩ ⟨hw,RK,QA⟩;dsimp only at hw RK QA ⊢;conv=>whnf
  refine⟨fun O w2 r=>(Rl w2 q (fun x hx=>by have:=hS x hx;have:=(hw.tr r.cQ).size;omega) hgS (hnD.cI fun x hx=>(hw.tr r.cQ).block x (hS x hx)) (by rw[(hw.tr r.cQ).block g hgB];exact hg) PM hk hl (by omega)).mono fun e w3 he=>?_⟩;rcases he with⟨h,rfl,hb3⟩|⟨h,rfl,PX,rs',e1,e2,e3,e4,e5,e6⟩
  ·have hw3:eB w.heap.size w w3:=(hw.tr r.cQ).tr (hb3.cQ r.cF);refine⟨.bool false,[],[],rfl,r.MQ hb3.size,?_⟩;have S1:P / D<q:=by
    refine Nat.lt_of_le_of_ne RK fun e=>?_;rw[e]at hQD;omega
   have hq4:0<q:=Nat.lt_of_le_of_lt (aO _) S1;have hq5:P / D<=q-1:=Nat.le_sub_one_of_lt S1;refine⟨((q-1:Nat):Int),by rw[x6]<;>omega,?_⟩;intro ρ4 w4 r4;exact⟨(q-1,w4),⟨hw3.tr r4.cQ,hq5,by dsimp only;omega⟩,Sub.reset r4 ⟨rfl,rfl,rfl,rfl,trivial⟩ ⟨trivial,trivial,trivial,trivial,trivial⟩,by dsimp only;omega⟩
  ·have hgw:w.grownBy w3 (some g):=gf (wW (hw.tr r.cQ)) PX;refine⟨.bool true,[],[],rfl,r.MQ PX.size,?_⟩;have hq:=hQl q h RK;subst hq;refine⟨((P / D:Nat):Int),by rw[fC,bP (by omega)],?_⟩;intro ρ4 w4 r4;refine⟨rfl,gf hgw (by have:=r4.po;exact⟨this.os,this.tape,this.output,this.size,fun j hj _=>this.block j hj (by simp)⟩),rs',e1,e2,e3,e4,by rw[e5,hmod],?_⟩;rw[r4.po.block g (by have:=hgw.size;omega) (by simp)];exact e6
end Go.Ex
namespace Go.Ex
variable{ms:List Nat}
theorem Hm{t dt:Nat}(PM:Lm ms)(hl:ms.length=t+1)(Sm:ms[t]? =some dt)(h0:0<dt):32-gY dt<32∧ln (val ms*2^(32-gY dt))=t+1:=by
 have hb0:0<gY dt:=by
  rcases bI (gY dt)with h|h
  ·have:=xb.1 (Nat.le_of_eq h);simp at this;omega
  ·exact h
 have UF:gY dt<=32:=xb.2 (PM.at Sm);have OU:=xb.1 (aF (gY dt));have hv:val ms=val (ms.take t)+wt t*dt:=by rw[<-de Sm,List.take_of_length_le (by omega)]
 have Og:=nT (PM.take t);have hltk:(ms.take t).length=t:=by simp;omega
 rw[hltk]at Og;have hw:=yM t;refine⟨by omega,aR ?_ ?_⟩
 ·rw[gQ];have h1:val ms<wt t*2^gY dt:=by
   have:wt t*(dt+1)<=wt t*2^gY dt:=b9 _ OU;rw[bV]at this;omega
  have h2:=Nat.mul_lt_mul_of_pos_right h1 (bo (32-gY dt));rw[bh,<-Nat.pow_add,Nat.add_sub_cancel' UF]at h2;rw[ir,bW 4294967296];exact h2
 ·refine Nat.lt_of_not_le fun h=>?_;have h1:=gQ.1 h;have h2:val ms*1<=val ms*2^(32-gY dt):=b9 _ (bo _);have h3:wt t*1<=wt t*dt:=b9 _ h0;omega
theorem Dn{rs:List Nat}{D N k:Nat}(PM:Lm rs)(hDN:D<wt N)(hk:k+N+1<=rs.length)(h:val rs<wt (k+1)*D):
  val (rs.drop (k+N+1))=0∧val (rs.drop k)=val ((rs.drop k).take (N+1))∧val ((rs.drop k).take (N+1))<4294967296*D:=by
 obtain⟨x,hx⟩:∃q,rs[k]? =some q:=⟨_,aB (by omega)⟩
 have Px:=PM.at hx;have h1:=e8 rs (k+1) (by omega);have h2:val (rs.drop (k+1))<D:=Nat.lt_of_mul_lt_mul_left (a:=wt (k+1)) (by omega);have h3:=e8 (rs.drop (k+1)) N (by simp;omega);rw[List.drop_drop,show k+1+N=k+N+1 by omega]at h3;have h4:val (rs.drop (k+N+1))=0:=by
  rcases bI (val (rs.drop (k+N+1)))with h|h
  ·exact h
  ·have:=b9 (wt N) h;omega
 have h5:=e8 (rs.drop k) (N+1) (by simp;omega);rw[List.drop_drop,show k+(N+1)=k+N+1 by omega,h4,Nat.mul_zero,bz]at h5;have h6:=jC hx;exact⟨h4,h5,by omega⟩
theorem JO{rs rs' out:List Nat}{D N k P V:Nat}(hD:0<D)(PM:Lm rs)(hlen:rs'.length=rs.length)(hDN:D<wt N)(hk:k+N+1<=rs.length)(h:val rs<wt (k+1)*D)(hV:V=wt (k+1)*(D*val (out.drop (k+1)))+val rs)
  (hP:val ((rs.drop k).take (N+1))=P) (h1:rs'.take k=rs.take k) (h2:rs'.drop (k+N+1)=rs.drop (k+N+1)) (h3:val ((rs'.drop k).take (N+1))=P % D) (ho:k<out.length):
  val rs'<wt k*D∧V=wt k*(D*val ((out.set k (P / D)).drop k))+val rs':=by
 obtain⟨a1,a2,a3⟩:=Dn PM hDN hk h;have b1:=e8 rs k (by omega);have b2:=e8 rs' k (by omega);have b3:=e8 (rs'.drop k) (N+1) (by simp;omega);rw[List.drop_drop,show k+(N+1)=k+N+1 by omega,h2,a1,Nat.mul_zero,bz,h3]at b3;rw[h1,b3]at b2;rw[a2,hP]at b1;have b4:=nT (PM.take k);have b5:(rs.take k).length=k:=by simp;omega
 rw[b5]at b4;have b6:=bu P hD;have b7:(out.set k (P / D))[k]? =some (P / D):=by rw[aW ho]
 have b8:=Nat.div_add_mod P D;refine⟨?_,?_⟩
 ·have:wt k*(P % D+1)<=wt k*D:=b9 _ b6;rw[bV]at this;omega
 ·rw[jC b7,List.drop_set_of_lt (show k<k+1 by omega),hV,b1,b2,ir];generalize val (out.drop (k+1))=o;have c1:wt k*P=wt k*(D*(P / D))+wt k*(P % D):=by rw[<-bV,b8]
  have c2:4294967296*wt k*(D*o)=wt k*(D*(4294967296*o)):=by
   rw[bW 4294967296,bh,Nat.mul_left_comm 4294967296]
  rw[c1,c2,bV D,bV (wt k)];omega
theorem Hn{n m b:Nat}(hm:0<m)(Vf:m<=n):n*2^b<wt (ln n+1-ln m)*(m*2^b):=by
 have h1:=lA n;have h2:=fG Vf;have h3:wt (ln m-1)<=m:=by
  refine Nat.le_of_not_lt fun h=>?_;have:=gQ.2 h;have h4:0<ln m:=by
   rcases bI (ln m)with h|h
   ·have:=gQ.1 (Nat.le_of_eq h);rw[jL]at this;omega
   ·exact h
  omega
 have h4:0<ln m:=by
  rcases bI (ln m)with h|h
  ·have:=gQ.1 (Nat.le_of_eq h);rw[jL]at this;omega
  ·exact h
 have h5:wt (ln n)<=wt (ln n+1-ln m)*m:=by
  rw[show ln n=(ln n+1-ln m)+(ln m-1) by omega,CK,show(ln n+1-ln m)+(ln m-1)+1-ln m=ln n+1-ln m by omega];exact b9 _ h3
 rw[<-bh];exact Nat.mul_lt_mul_of_pos_right (Nat.lt_of_lt_of_le h1 h5) (bo b)
theorem LU{n m b o r:Nat}(hm:0<m)(h1:n*2^b=m*2^b*o+r)(h2:r<m*2^b):o=n / m∧r / 2^b=n % m:=by
 have hp:=bo b;have h3:n*2^b / (m*2^b)=o:=by rw[h1,Nat.mul_add_div (Nat.mul_pos hm hp),Nat.div_eq_of_lt h2,bz]
 have h4:n*2^b % (m*2^b)=r:=by rw[h1,Nat.mul_add_mod,bP h2]
 rw[Nat.mul_div_mul_right _ _ hp]at h3;rw[Nat.mul_mod_mul_right]at h4;exact⟨h3.symm,by rw[<-h4,Nat.mul_div_cancel _ hp]⟩
end Go.Ex
namespace Go.Ex
open Go Go.Sx Go.Proofs
variable{H:Hp}{x y z:Int}{iv:Iv}{ls:List Nat}{n nx:Nat}{S:Nat->Prop}{O:Nat->Sx.dg}{u v:Value}{w w' w1:World}
theorem HL{g:Nat}{rs:List Nat}(hg:w.heap[g]? =some (.cells (U rs).toArray T.uint32 (0,0)))(PM:Lm rs)(hl:rs.length<=1000000000000):
  dL w (fun x=>x=g) (.slice (some ⟨g,0,none⟩) rs.length rs.length) rs:=by
 have:=HI (k:=0) (m:=rs.length) (c:=rs.length) hg PM (by omega) (aF _) hl
 rwa [List.drop_zero,bF]at this
theorem pq{m:Nat}(hS:Old S w)(hn:dx w S v n)(hm:dx w S u m)(Sn:0<m)(Ro:ln n<=100000000000):
  eD PG N.nB #[v,u] w (eG w fun v' w2=>∃q r,v'= .tuple #[q,r]∧dx w2 (Nf w w2) q (n / m)∧dx w2 (Nw S w w2) r (n % m)):=by
 have hnN:=hn;have TV:=hm;obtain⟨x,rfl,Q7,QF⟩:=hn.la;obtain⟨y,rfl,RK,QA⟩:=hm.la;have PW:=eL x.lm QF;have hyl:=eL y.lm QA;rw[Q7]at PW;rw[RK]at hyl;refine qh (by simp) ?_;refine cD (cO (Φ:=fun _ _ v _=>v= .int .i64 (sF n m)) (fun O w' r=>Jt (S:=S) (fun g hg=>by have:=hS g hg;have:=r.cQ.size;omega) (hnN.cI fun g hg=>r.cQ.block g (hS g hg)) (TV.cI fun g hg=>r.cQ.block g (hS g hg))) ?_);rintro O w1 v1 w2 r he hw rfl;refine dN.mk ?_ ?_<;>intro h
 ·have h:n<m:=by
   have:=aI h;unfold sF at this;split at this
   ·assumption
   ·split at this<;>omega
  intro ρ3 w3 r3;refine⟨_,rfl,hw.tr r3.cQ,_,_,rfl,?_,?_⟩
  ·rw[Nat.div_eq_of_lt h];exact dx.nil _ _
  ·rw[bP h];exact(hnN.cI fun g hg=>(hw.tr r3.cQ).block g (hS g hg)).cJ fun g hg=>.inl hg
 have h:m<=n:=by
  have:=aH h;unfold sF at this;split at this
  ·omega
  ·omega
 have hlmn:=fG h;refine dN.mk ?_ ?_<;>intro h1
 ·have h1:y.ls.length=1:=by have:=eq_of_beq h1;omega
  obtain⟨b,UC⟩:=List.length_eq_one_iff.1 h1;have hb:y.ls[0]? =some b:=by rw[UC];rfl
  have UF:=y.lm.at hb;have RX:m=b:=by rw[<-RK,UC];simp[val]
  subst RX;obtain⟨ad,Od,Ot⟩:=y.load hS hw hb;refine⟨ad,Od,by omega,.int .u32 m,Ot _ _ _,?_⟩;refine cD (cO (Φ:=fun _ w' v w2=>∃q,v= .tuple #[q,.int .u32 ((val x.ls % m:Nat):Int)]∧dx w2 (Nf w' w2) q (val x.ls / m)) (fun O w' r=>?_) ?_)
  ·refine Li (S:=S) (fun g hg=>by have:=hS g hg;have:=(hw.tr r.cQ).size;omega) ⟨x.lm,x.le,_,_,rfl,x.cap,fun j u hu=>?_⟩ (by omega) Sn UF;obtain⟨ad,e1,e2,e3⟩:=x.cell j u hu;exact⟨ad,e1,e2,kM hS hw r e2 e3⟩
  rintro O w3 v3 w4 r he RU ⟨q,rfl,hq⟩;replace hw:=hw.tr RU;have Ts:=hq.dE (S:=FF) r.cF (iv:=(w3.heap.size,w4.heap.size)::[(w1.heap.size,w2.heap.size)]) aG;rw[Q7]at Ts;rw[Q7];generalize (w3.heap.size,w4.heap.size)::[(w1.heap.size,w2.heap.size)]=iv at*
  have Qu:n % m<m:=bu _ Sn;generalize n % m=rem at*
  refine gW (Φ:=fun O _ v w2=>dL w2 (fun g=>g=(O 0).g) v (dw [rem])) (H':=[]) 0 rfl (by simp) trivial rfl (fun O w' r=>r.nn 0 _ rfl (by intros;simp) (by simp)) (fun O w' r=>?_) ?_
  ·have hL:=r.tu (id:=0) (ls:=[rem]) rfl (by intro x hx;simp at hx;omega) (by simp);exact fN (fun g hg=>by rw[hg];exact(r.low 0 _ rfl (r.nn 0 _ rfl (by intros;simp) (by simp))).2) hL
  rintro O w5 v5 w6 r he hb6 hL;have Og:=r.low 0 _ rfl (r.nn 0 _ rfl (by intros;simp) (by simp));have hs:=he.size;replace hw:=hw.tr hb6;replace Ts:=Ts.cG (iv':=((O 0).g,(O 0).g+1)::(w5.heap.size,w6.heap.size)::iv) r (fun g h=>h.elim) he fun x hx=>by simp[hx]
  generalize (O 0).g=g0 at*
  have VD:dx w6 (Cf w ((g0,g0+1)::(w5.heap.size,w6.heap.size)::iv)) v5 rem:=by
   have:=hL.trimmed;simp only[val,Nat.mul_zero,bz]at this;exact this.cJ fun k hk=>.inr ⟨by omega,g0,g0+1,by simp,by omega,by omega⟩
  generalize (g0,g0+1)::(w5.heap.size,w6.heap.size)::iv=OK at*
  intro ρ3 w7 r3;exact⟨_,rfl,hw.tr r3.cQ,_,_,rfl,(Ts.rel r3 fun g h=>h.elim).cJ fun g hg=>Cv.nw hg r3,((VD.rel r3 fun g h=>h.elim).cJ fun g hg=>Cv.nw hg r3).cJ fun g hg=>hg.elim (fun h=>h.elim) .inr⟩
 ·have h1:y.ls.length≠1:=fun e=>by rw[e]at h1;simp at h1
  have Rb:0<ln m:=by
   rcases bI (ln m)with h|h
   ·have:=gQ.1 (Nat.le_of_eq h);rw[jL]at this;omega
   ·exact h
  obtain⟨t,ht⟩:∃t,y.ls.length=t+1:=⟨y.ls.length-1,by omega⟩
  obtain⟨dt,Sm⟩:∃q,y.ls[t]? =some q:=⟨_,aB (by omega)⟩
  have hdt0:0<dt:=by
   have:=QA dt (by rw[List.getLast?_eq_getElem?,ht];exact Sm);omega
  have Vj:=y.lm.at Sm;obtain⟨PL,VE⟩:=Hm y.lm ht Sm hdt0;rw[RK]at VE;obtain⟨ad,Od,Ot⟩:=y.load hS hw Sm;refine⟨(t:Int),wo,ad,Od,by omega,.int .u32 dt,Ot _ _ _,?_⟩;refine cD (cO (Φ:=fun _ _ v _=>v= .int .i64 ((32-gY dt:Nat):Int)) (fun O w' r=>Ms dt w' Vj) ?_);rintro O w3 v3 w4 r he RU rfl;replace hw:=hw.tr RU;generalize hbyd:32-gY dt=b at*
  refine⟨(b:Int),eW (by omega),?_⟩;refine cD (cO (Φ:=fun _ w' v w2=>∃out,Jx w' w2 v out∧out.length=y.ls.length+1∧val out=val y.ls*2^b) (fun O w' r=>?_) ?_)
  ·refine B7 (S:=S) (fun g hg=>by have:=hS g hg;have:=(hw.tr r.cQ).size;omega) ⟨y.lm,y.le,_,_,rfl,y.cap,fun j u hu=>?_⟩ (by omega) PL;obtain⟨ad,e1,e2,e3⟩:=y.cell j u hu;exact⟨ad,e1,e2,kM hS hw r e2 e3⟩
  rintro O w5 v5 w6 r he hb6 ⟨dl,⟨gd,rfl,hgd1,hgd2,hgd3⟩,SM,hdv⟩;replace hw:=hw.tr hb6;rw[RK]at hdv;have hB5:w.heap.size<=w5.heap.size:=r.cF;have SC:Cf w ((w5.heap.size,w6.heap.size)::[(w3.heap.size,w4.heap.size),(w1.heap.size,w2.heap.size)]) gd:=.inr ⟨by omega,_,_,aG,hgd1,jz hgd2⟩;generalize (w5.heap.size,w6.heap.size)::[(w3.heap.size,w4.heap.size),(w1.heap.size,w2.heap.size)]=iv at*
  have hF:∀g:Nat,(fun _:Nat=>False) g->g<w.heap.size:=fun g h=>h.elim;refine cD (cO (Φ:=fun _ _ v w2=>dL w2 (fun x=>x=gd) v (dw dl)) (fun O w' r=>fN (fun g hg=>by rw[hg];exact Rel.old r hF gd SC) (HL (by rw[Rel.same r hF SC];exact hgd2) hgd3 (by omega))) ?_);rintro O w7 v6 w8 r he hb8 hL;replace hw:=hw.tr hb8;have hgd8:gd<w8.heap.size:=by have:=Rel.old r hF gd SC;have:=he.size;omega
  replace SC:=SC.mono (iv':=(w7.heap.size,w8.heap.size)::iv) fun p hp=>List.mem_cons_of_mem _ hp;have UH:=hL.trimmed;rw[hdv]at UH;generalize (w7.heap.size,w8.heap.size)::iv=iv at*
  obtain⟨dp,rfl,SL,PC⟩:=UH.la;have hdpl:=eL dp.lm PC;rw[SL,VE]at hdpl;generalize hDd:m*2^b=D at*
  have hD0:0<D:=by rw[<-hDd];exact Nat.mul_pos Sn (bo b)
  refine cD (cO (Φ:=fun _ w' v w2=>∃out,Jx w' w2 v out∧out.length=x.ls.length+1∧val out=val x.ls*2^b) (fun O w' r=>?_) ?_)
  ·refine B7 (S:=S) (fun g hg=>by have:=hS g hg;have:=(hw.tr r.cQ).size;omega) ⟨x.lm,x.le,_,_,rfl,x.cap,fun j u hu=>?_⟩ (by omega) PL;obtain⟨ad,e1,e2,e3⟩:=x.cell j u hu;exact⟨ad,e1,e2,kM hS hw r e2 e3⟩
  rintro O w9 v9 w10 r he hb10 ⟨rs0,⟨gr,rfl,hgr1,hgr2,hgr3⟩,Oh,hrv⟩;replace hw:=hw.tr hb10;rw[Q7]at hrv;have hB9:w.heap.size<=w9.heap.size:=r.cF;have Sg:Cf w ((w9.heap.size,w10.heap.size)::iv) gr:=.inr ⟨by omega,_,_,aG,hgr1,jz hgr2⟩;have OG:gr≠gd:=by have:=r.size;omega
  replace UH:dx w10 (fun x=>x=gd) (.slice dp.a dp.ls.length dp.c) D:=UH.cI fun x hx=>by
   rw[hx,he.block gd (Rel.old r hF gd SC),Rel.same r hF SC]
  have hgd10:gd<w10.heap.size:=by have:=Rel.old r hF gd SC;have:=he.size;omega
  replace SC:=SC.mono (iv':=(w9.heap.size,w10.heap.size)::iv) fun p hp=>List.mem_cons_of_mem _ hp;generalize (w9.heap.size,w10.heap.size)::iv=iv at*
  have hgrB:w.heap.size<=gr:=by omega
  obtain⟨L,hL⟩:∃L,rs0.length=t+1+L:=⟨rs0.length-(t+1),by omega⟩
  refine⟨(L:Int),wo,L,L,rfl,rfl,aF _,by omega,by omega,(L:Int)-1,wo,Nat×List Nat×List Nat×World,fun z=>⟨[(8,.o (.v (.int .u64 b))),(9,sV dp.a dp.ls.length dp.c),(10,.o (.v (.slice (some ⟨gr,0,none⟩) rs0.length rs0.length))),(11,.o (.s 0 0 L L)),(12,.o (.v (.int .i64 ((z.1:Int)-1))))],
    [(0,.arr T.uint32 (U z.2.1))],1,iv,z.2.2.2⟩,fun z=>z.1,
   fun z=>z.1<=L∧eB w.heap.size w z.2.2.2∧z.2.1.length=L∧z.2.2.1.length=rs0.length∧Lm z.2.1∧Lm z.2.2.1∧z.2.2.2.heap[gr]? =some (.cells (U z.2.2.1).toArray T.uint32 (0,0))∧dx z.2.2.2 (fun x=>x=gd) (.slice dp.a dp.ls.length dp.c) D∧
    gd<z.2.2.2.heap.size∧val z.2.2.1<wt z.1*D∧n*2^b=wt z.1*(D*val (z.2.1.drop z.1))+val z.2.2.1,?_,?_⟩
  ·intro O w' r;rw[sG]at r;refine⟨(L,List.replicate L 0,rs0,w'),⟨aF _,hw.tr r.cQ,by simp,rfl,Lm.replicate _,hgr3,?_,?_,?_,?_,?_⟩,Sub.gn [] r⟩
   ·dsimp only;rw[Rel.same r hF Sg];exact hgr2
   ·exact UH.cI fun x hx=>by rw[hx];exact Rel.same r hF SC
   ·exact Rel.old r hF gd SC
   ·dsimp only
    have:=Hn (b:=b) Sn h;rw[hDd,<-hyl,ht,<-PW,show x.ls.length+1-(t+1)=L by omega]at this;rw[hrv];exact this
   ·dsimp only;rw[hrv];simp[val]
  ·rintro⟨k,out,rs,w11⟩ ⟨hk,hw,QL,QT,Rz,hlr,PX,UH,RD,hi1,RJ⟩;dsimp only at hk hw QL QT Rz hlr PX UH RD hi1 RJ ⊢;refine dN.mk ?_ ?_<;>intro h9
   ·have h9:(k:Int)-1≥0:=aI h9;obtain⟨k,rfl⟩:∃q,k=q+1:=⟨k-1,by omega⟩
    rw[show ((k+1:Nat):Int)-1=(k:Int) by omega];have hDN:D<wt (t+1):=gQ.1 (Nat.le_of_eq VE);obtain⟨a1,a2,a3⟩:=Dn (N:=t+1) hlr hDN (by omega) hi1;have hdig:=fun(w':World)=>@Lh (fun x=>x=gd) w' (.slice dp.a dp.ls.length dp.c) D gr k rs;rw[VE]at hdig;simp only[QT]at hdig;generalize hP:val ((rs.drop k).take (t+1+1))=P at*
    have hQ32:P / D<4294967296:=(Nat.div_lt_iff_lt_mul hD0).2 (by rw[bW]at a3;omega);refine⟨fun O w' r=>(hdig w' (fun g hg=>by rw[hg];exact Rel.old r hF gd SC) OG (UH.cI fun x hx=>by rw[hx];exact Rel.same r hF SC) hD0 (by rw[Rel.same r hF Sg];exact PX) hlr (by omega) (by omega) a3).mono fun e w12 he=>?_⟩;obtain⟨rfl,hgb,rs',e1,e2,e3,e4,e5,e6⟩:=he;refine⟨_,_,_,rfl,r.yD (fun id b hb hn=>Rel.not r hF Sg id b hb hn) hgb,?_⟩;obtain⟨hi1',hi2'⟩:=JO (N:=t+1) hD0 hlr (e1.trans QT.symm) hDN (by omega) hi1 RJ hP e3 e4 e5 (by omega);have hw12:eB w.heap.size w w12:=(hw.tr r.cQ).tr (eB.grown hgb (fun g hg=>by injection hg with hg;omega) r.cF);have hdN12:dx w12 (fun x=>x=gd) (.slice dp.a dp.ls.length dp.c) D:=UH.cI fun x hx=>by
     rw[hx,hgb.block gd (Rel.old r hF gd SC) (fun e=>OG (Option.some.inj e).symm),Rel.same r hF SC]
    have hgd12:gd<w12.heap.size:=by have:=Rel.old r hF gd SC;have:=hgb.size;omega
    generalize P / D=Q at*
    refine⟨by omega,by rw[gL];omega,U (out.set k Q),iw out k _ (by omega) (by simp),(k:Int)-1,wo,?_⟩;intro ρ3 w3 r3
    refine⟨(k,out.set k Q,rs',w3),⟨by dsimp only;omega,hw12.tr r3.cQ,by simp[QL],e1.trans rfl,Rz.set hQ32,e2,?_,?_,?_,hi1',hi2'⟩,
     Sub.gn [] r3,by dsimp only;omega⟩
    ·dsimp only;rw[Rel.same r3 hF Sg];exact e6
    ·exact hdN12.cI fun x hx=>by rw[hx];exact Rel.same r3 hF SC
    ·exact Rel.old r3 hF gd SC
   ·have SA:k=0:=by
     have:¬(k:Int)-1≥0:=aH h9;omega
    subst SA;rw[jL,Nat.one_mul,List.drop_zero]at RJ;rw[jL,Nat.one_mul]at hi1;rw[<-hDd]at hi1 RJ;obtain⟨hq,hrem⟩:=LU Sn RJ hi1;have Rc:∀w':World,w'.heap[gr]? =some (.cells (U rs).toArray T.uint32 (0,0))->dL w' (fun x=>x=gr) (.slice (some ⟨gr,0,none⟩) rs0.length rs0.length) rs:=fun w' hh=>by
     have:=HL hh hlr (by omega)
     rwa [QT]at this
    refine gW (Φ:=fun O _ v w2=>dL w2 (fun g=>g=(O 0).g) v (dw out)) (H':=[]) 0 rfl (by simp) trivial rfl (fun O w' r=>r.nn 0 _ rfl (by intros;simp) (by simp)) (fun O w' r=>?_) ?_
    ·have hL:=r.nF (id:=0) rfl Rz (by omega);rw[QL]at hL;exact fN (fun g hg=>by rw[hg];exact(r.low 0 _ rfl (r.nn 0 _ rfl (by intros;simp) (by simp))).2) hL
    rintro O w13 v13 w14 r he hb14 hL;replace hw:=hw.tr hb14;have Og:=r.low 0 _ rfl (r.nn 0 _ rfl (by intros;simp) (by simp));have hs:=he.size;have hgr14:w14.heap[gr]? =some (.cells (U rs).toArray T.uint32 (0,0)):=by rw[he.block gr (Rel.old r hF gr Sg),Rel.same r hF Sg];exact PX
    replace Sg:=Sg.mono (iv':=((O 0).g,(O 0).g+1)::(w13.heap.size,w14.heap.size)::iv) fun p hp=>by simp[hp]
    have Ts:dx w14 (Cf w (((O 0).g,(O 0).g+1)::(w13.heap.size,w14.heap.size)::iv)) v13 (n / m):=by
     have:=hL.trimmed;rw[hq]at this;exact this.cJ fun k hk=>.inr ⟨by omega,_,_,aG,by omega,by omega⟩
    generalize ((O 0).g,(O 0).g+1)::(w13.heap.size,w14.heap.size)::iv=OS at*
    refine cD (cO (Φ:=fun _ _ v w2=>dL w2 (fun x=>x=gr) v (dw rs)) (fun O w' r=>fN (fun g hg=>by rw[hg];exact Rel.old r hF gr Sg) (Rc w' (by rw[Rel.same r hF Sg];exact hgr14))) ?_);rintro O w15 v15 w16 r he hb16 hL;replace hw:=hw.tr hb16;replace Ts:=Ts.cG (iv':=(w15.heap.size,w16.heap.size)::OS) r hF he fun x hx=>List.mem_cons_of_mem _ hx;replace hL:=hL.cJ (S':=Cf w ((w15.heap.size,w16.heap.size)::OS)) fun g hg=>by rw[hg];exact Sg.cons
    generalize (w15.heap.size,w16.heap.size)::OS=Oe at*
    have SD:(dw rs).length<=rs.length:=by
     obtain⟨_,_,k,_,hk⟩:=ef rs;rw[hk];simp;omega
    refine cD (cO (Φ:=fun _ w' v w2=>dx w2 (Nf w' w2) v (val (dw rs) / 2^b)) (fun O w' r=>Mu (Rel.old r hF) (dL.rel hL r hF) (by omega) PL) ?_);rintro O w17 v17 w18 r he hb18 hr;replace hw:=hw.tr hb18;rw[(ef rs).1,hrem]at hr;have VD:=hr.dE (S:=FF) r.cF (iv:=(w17.heap.size,w18.heap.size)::Oe) aG;replace Ts:=Ts.cG (iv':=(w17.heap.size,w18.heap.size)::Oe) r hF he fun x hx=>List.mem_cons_of_mem _ hx;generalize (w17.heap.size,w18.heap.size)::Oe=Pp at*
    intro ρ3 w19 r3;exact⟨_,rfl,hw.tr r3.cQ,_,_,rfl,(Ts.rel r3 hF).cJ fun g hg=>Cv.nw hg r3,((VD.rel r3 hF).cJ fun g hg=>Cv.nw hg r3).cJ fun g hg=>hg.elim (fun h=>h.elim) .inr⟩
theorem Ef{m:Nat}(hS:Old S w)(hn:dx w S v n)(hm:dx w S u m)(Ro:ln n<=100000000000)(PM:ln m<=100000000000):
  eD PG N.tX #[v,u] w (eG w fun v' w2=>dx w2 (Nw S w w2) v' (Nat.gcd n m)):=by
 refine xS (by simp) ?_
 refine⟨(Value×Nat)×(Value×Nat)×Iv×World,fun z=>⟨[(0,.o (.v z.1.1)),(1,.o (.v z.2.1.1))],[],0,z.2.2.1,z.2.2.2⟩,fun z=>z.2.1.2,
  fun z=>eB w.heap.size w z.2.2.2∧dx z.2.2.2 (Cv S w.heap.size z.2.2.1) z.1.1 z.1.2∧dx z.2.2.2 (Cv S w.heap.size z.2.2.1) z.2.1.1 z.2.1.2∧ln z.1.2<=100000000000∧ln z.2.1.2<=100000000000∧Nat.gcd z.1.2 z.2.1.2=Nat.gcd n m,?_,?_⟩
 ·intro O w' r
  exact⟨((v,n),(u,m),[],w'),⟨r.cQ,(hn.cI fun g hg=>r.cQ.block g (hS g hg)).cJ fun _ hg=>.inl hg,(hm.cI fun g hg=>r.cQ.block g (hS g hg)).cJ fun _ hg=>.inl hg,Ro,PM,rfl⟩,
   Sub.gen [] r trivial ⟨rfl,rfl,trivial⟩ trivial (by simp[jN,SV.sc,At.sc]) (by rfl) (by simp)⟩
 ·rintro⟨⟨vx,x⟩,⟨vy,y⟩,iv,w1⟩ ⟨hw,hx,hy,Of,QY,hg⟩;dsimp only at hw hx hy Of QY hg ⊢;have hyN:=hy;obtain⟨p,rfl,Q7,QF⟩:=hy.la;have PV:=eL p.lm QF;rw[Q7]at PV;refine dN.mk ?_ ?_<;>intro h
  ·have h:0<p.ls.length:=by
    have:(p.ls.length:Int)>0:=aI h;omega
   have Pe:0<y:=by
    rcases bI y with h0|h0
    ·rw[h0]at PV;rw[LQ]at PV;omega
    ·exact h0
   refine cD (cO (Φ:=fun _ w' v w2=>∃q r,v= .tuple #[q,r]∧dx w2 (Nf w' w2) q (x / y)∧dx w2 (Nw (Cv S w.heap.size iv) w' w2) r (x % y)) (fun O w' r=>pq (Rel.old r hS) (hx.rel r hS) (hyN.rel r hS) Pe Of) ?_);rintro O w3 v3 w4 r he RU ⟨q,rm,rfl,-,hr⟩;replace hw:=hw.tr RU;have VD:dx w4 (Cv S w.heap.size ((w3.heap.size,w4.heap.size)::iv)) rm (x % y):=hr.cJ fun g hg=>Nw.cv hg r.cF;have hyN:=hyN.cG (iv':=(w3.heap.size,w4.heap.size)::iv) r hS he fun x hx=>List.mem_cons_of_mem _ hx;generalize (w3.heap.size,w4.heap.size)::iv=OK at*
   intro ρ5 w5 r5
   refine⟨((_,y),(rm,x % y),OK,w5),⟨hw.tr r5.cQ,hyN.rel r5 hS,VD.rel r5 hS,QY,ah (fG (Nat.le_of_lt (bu x Pe))) QY,?_⟩,
    Sub.gen [] r5 trivial ⟨rfl,rfl,trivial⟩ trivial (by simp[jN,SV.sc,At.sc]) (by rfl) (by simp),bu x Pe⟩
   dsimp only
   rw[<-hg,Nat.gcd_comm x y,Nat.gcd_rec y x,Nat.gcd_comm]
  ·have h:p.ls.length=0:=by
    have:¬(p.ls.length:Int)>0:=aH h;omega
   have Pe:y=0:=by
    have:=lA y;rw[<-PV,h,jL]at this;omega
   rw[Pe,Nat.gcd_zero_right]at hg;intro ρ5 w5 r5;exact⟨_,rfl,hw.tr r5.cQ,by rw[<-hg];exact(hx.rel r5 hS).cJ fun g hg=>Cv.nw hg r5⟩
def sg(neg:Bool)(n:Nat):Int:=if neg then -(n:Int)else n
theorem KK(n:Nat):sg true n= -(n:Int):=rfl
theorem NA(n:Nat):sg false n=n:=rfl
theorem sO(b:Bool)(n:Nat):(sg b n).natAbs=n:=by cases b<;>simp[sg]
def uC(w:World)(S:Nat->Prop)(v:Value)(neg:Bool)(ls:List Nat):Prop:=∃lv,v= .agg #[.bool neg,lv]∧dL w S lv ls
def eM(w:World)(S:Nat->Prop)(v:Value)(z:Int):Prop:=∃nv,v= .agg #[.bool (decide (z<0)),nv]∧dx w S nv z.natAbs
section
variable{S S':Nat->Prop}{H:Hp}{nx:Nat}{iv iv':Iv}{B:Nat}{w w' w2:World}{O:Nat->Sx.dg}{v:Value}{z:Int}
theorem eM.cI(h:eM w S v z)(hk:∀g,S g->w2.heap[g]? =w.heap[g]?):eM w2 S v z:=by
 obtain⟨nv,h1,h2⟩:=h;exact⟨nv,h1,h2.cI hk⟩
theorem eM.cJ(h:eM w S v z)(hk:∀g,S g->S' g):eM w S' v z:=by
 obtain⟨nv,h1,h2⟩:=h;exact⟨nv,h1,h2.cJ hk⟩
theorem eM.rel(h:eM w (Cv S B iv) v z)(r:Rel H nx iv B w O w')(hS:∀g,S g->g<B):eM w' (Cv S B iv) v z:=h.cI fun _ hg=>Rel.same r hS hg
theorem eM.cG(h:eM w (Cv S B iv) v z)(r:Rel H nx iv B w O w')(hS:∀g,S g->g<B)(he:Ext w' w2)(hm:∀p,p∈iv->p∈iv'):eM w2 (Cv S B iv') v z:=by
 obtain⟨nv,h1,h2⟩:=h;exact⟨nv,h1,h2.cG r hS he hm⟩
theorem eM.dE(h:eM w2 (Nf w' w2) v z)(hB:B<=w'.heap.size)(hm:(w'.heap.size,w2.heap.size)∈iv):eM w2 (Cv S B iv) v z:=h.cJ fun _ hg=>hg.dE hB hm
end
theorem vO{k:Nat}(h:k=ln n):0<k↔0<n:=by
 have h1:=@gQ n 0;rw[jL]at h1;omega
theorem dL.shape(h:dL w S v ls):∃a n c,v= .slice a n c:=by
 obtain⟨a,c,h,_⟩:=h.sl;exact⟨a,_,c,h⟩
theorem dx.shape(h:dx w S v n):∃a n c,v= .slice a n c:=by
 obtain⟨_,h,_⟩:=h;exact h.shape
theorem dL.arg(h:dL w S v ls)(iv:Iv):dL w (Cv S w.heap.size iv) v ls:=h.cJ fun _ h=>.inl h
theorem dx.arg(h:dx w S v n)(iv:Iv):dx w (Cv S w.heap.size iv) v n:=h.cJ fun _ h=>.inl h
theorem dx.out(h:dx w1 (Cv S w.heap.size iv) v n)(r:Rel H nx iv w.heap.size w1 O w')(hS:Old S w):dx w' (Nw S w w') v n:=
 (h.rel r hS).cJ fun _ hg=>Cv.nw hg r
theorem eM.out(h:eM w1 (Cv S w.heap.size iv) v z)(r:Rel H nx iv w.heap.size w1 O w')(hS:Old S w):eM w' (Nw S w w') v z:=
 (h.rel r hS).cJ fun _ hg=>Cv.nw hg r
theorem neg_pos{k:Nat}(h:k=ln n):decide ((k:Int)>0)=decide (-(n:Int)<0):=by
 have:=vO h;exact decide_eq_decide.2 (by omega)
theorem cC(w:World):Old FF w:=fun _ h=>h.elim
theorem aAL{neg:Bool}(hS:Old S w)(h:uC w S v neg ls):
  eD PG N.zL #[v] w (eG w fun v' w2=>eM w2 (Nw S w w2) v' (sg neg (val ls))):=by
 obtain⟨lv,rfl,hl⟩:=h;replace hl:=hl.arg [];refine ET (by simp) ?_;refine cD (cO (Φ:=fun _ _ v w2=>dL w2 (Cv S w.heap.size []) v (dw ls)) (fun O w' r=>fN (Rel.old r hS) (dL.rel hl r hS)) ?_);rintro O w1 v1 w2 r he hw hL;have hN:=hL.trimmed.cJ (S':=Cv S w.heap.size [(w1.heap.size,w2.heap.size)]) fun _ hg=>hg.cons;have hN2:=hN;obtain⟨p,rfl,Q7,QF⟩:=hN.la;have PV:=eL p.lm QF;rw[Q7]at PV
 cases neg
 ·intro ρ3 w3 r3;exact⟨_,rfl,hw.tr r3.cQ,_,rfl,by rw[sO];exact hN2.out r3 hS⟩
 ·intro ρ3 w3 r3;exact⟨_,rfl,hw.tr r3.cQ,_,by rw[KK,<-neg_pos PV];rfl,by rw[sO];exact hN2.out r3 hS⟩
theorem KL(hS:Old S w)(h:eM w S v z)(Ro:ln z.natAbs<=100000000000):
  eD PG N.mF #[v] w (eG w fun v' w2=>∃ls,uC w2 (Nf w w2) v' (decide (z<0)) ls∧Nz ls∧val ls=z.natAbs):=by
 obtain⟨nv,rfl,hn⟩:=h;obtain⟨ls,hl,hz,hv⟩:=hn;replace hl:=hl.arg [];refine ph (by simp) ?_;refine cD (cO (Φ:=fun _ _ v w2=>dL w2 (Cv S w.heap.size []) v (dw ls)) (fun O w' r=>fN (Rel.old r hS) (dL.rel hl r hS)) ?_);rintro O w1 v1 w2 r he hw hL;rw[Dh hz]at hL;have PV:=eL hl.lm hz;rw[hv]at PV;replace hL:=hL.cJ (S':=Cv S w.heap.size [(w1.heap.size,w2.heap.size)]) fun _ hg=>hg.cons;have hL2:=hL;obtain⟨p,rfl,hp⟩:=hL.la;have Uh:(p.ls.length:Int)>0↔z≠0:=by
  have h1:=vO PV;rw[hp];omega
 subst hp;generalize hb:decide (z<0)=b
 cases b
 all_goals
  refine cD (cO (Φ:=fun _ w' v w2=>dL w2 (Nf w' w2) v p.ls) (fun O w' r=>HH (Rel.old r hS) (dL.rel hL2 r hS) (by omega)) ?_);rintro O w3 v3 w4 r he RU hc;replace hw:=hw.tr RU;have S3:=hc.dE (S:=FF) r.cF (iv:=(w3.heap.size,w4.heap.size)::[(w1.heap.size,w2.heap.size)]) aG;obtain⟨a3,n3,c3,rfl⟩:=S3.shape;intro ρ5 w5 r5;refine⟨_,rfl,hw.tr r5.cQ,p.ls,⟨_,?_,(dL.rel S3 r5 (cC w)).cJ fun _ hg=>Cv.nw hg r5⟩,hz,hv⟩
 ·rfl
 ·have:decide ((p.ls.length:Int)>0)=true:=bT (Uh.2 (by have:=aI hb;omega));rw[<-this];rfl
theorem zw(h:eM w S v z):eD PG N.mD #[v] w (eG w fun v' _=>v'= .int .i64 z.sign):=by
 obtain⟨nv,rfl,hn⟩:=h;obtain⟨p,rfl,Q7,QF⟩:=hn.la;have PV:=eL p.lm QF;rw[Q7]at PV;have Uh:=vO PV;generalize hb:decide (z<0)=b;refine pf (by simp) ?_;refine dN.mk ?_ ?_<;>intro h
 ·have h:p.ls.length=0:=by have:=eq_of_beq h;omega
  have hz:z=0:=by omega
  subst hz;intro O w2 r;exact⟨_,rfl,r.cQ,rfl⟩
 ·have h:p.ls.length≠0:=fun e=>by rw[e]at h;simp at h
  have hz:z≠0:=by omega
  cases b
  ·have:=aH hb;intro O w2 r;exact⟨_,rfl,r.cQ,by rw[bl (by omega)];rfl⟩
  ·have:=aI hb;intro O w2 r;exact⟨_,rfl,r.cQ,by rw[bf (by omega)];rfl⟩
theorem oI(hS:Old S w)(h:eM w S v z):eD PG N.lN #[v] w (eG w fun v' w2=>eM w2 (Nw S w w2) v' (-z)):=by
 obtain⟨nv,rfl,hn⟩:=h;have Qj:=hn.arg [];obtain⟨p,rfl,Q7,QF⟩:=hn.la;have PV:=eL p.lm QF;rw[Q7]at PV;have Uh:=vO PV;have Pg:(-z).natAbs=z.natAbs:=cB z;generalize hb:decide (z<0)=b;refine od (by simp) ?_
 cases b
 ·have:=aH hb;have hd:decide ((p.ls.length:Int)>0)=decide (-z<0):=decide_eq_decide.2 (by omega);intro O w2 r;exact⟨_,rfl,r.cQ,_,by rw[<-hd];rfl,by rw[Pg];exact Qj.out r hS⟩
 ·have:=aI hb;have hd:decide (-z<0)=false:=bN (by omega);intro O w2 r;exact⟨_,rfl,r.cQ,_,by rw[hd];rfl,by rw[Pg];exact Qj.out r hS⟩
theorem eM.num(h:eM w S v z):∃a n c,v= .agg #[.bool (decide (z<0)),.slice a n c]∧dx w S (.slice a n c) z.natAbs:=by
 obtain⟨nv,h1,h2⟩:=h;obtain⟨a,n,c,rfl⟩:=h2.shape;exact⟨a,n,c,h1,h2⟩
theorem Bh(hS:Old S w)(hx:eM w S v x)(hy:eM w S u y)(Of:ln x.natAbs<=100000000000)(QY:ln y.natAbs<=100000000000):
  eD PG N.mE #[v,u] w (eG w fun v' w2=>eM w2 (Nf w w2) v' (x+y)):=by
 obtain⟨nx,rfl,RN⟩:=hx;obtain⟨ny,rfl,Sh⟩:=hy;obtain⟨ax,lx,cx,rfl⟩:=RN.shape;obtain⟨ay,ly,cy,rfl⟩:=Sh.shape;replace RN:=RN.arg [];replace Sh:=Sh.arg [];generalize SH:decide (x<0)=bx;generalize PL:decide (y<0)=b2;refine pg (by simp) ?_;have Qg:bx=b2->(x+y).natAbs=x.natAbs+y.natAbs∧decide (x+y<0)=bx:=fun e=>by
  cases bx<;>subst e
  ·have h1:=aH SH;have h2:=aH PL;exact⟨by omega,bN (by omega)⟩
  ·have h1:=aI SH;have h2:=aI PL;exact⟨by omega,bT (by omega)⟩
 have UR:bx≠b2->y.natAbs<=x.natAbs->(x+y).natAbs=x.natAbs-y.natAbs∧(decide (x+y<0)=(bx&&decide (x.natAbs-y.natAbs≠0))):=fun e h=>by
  cases bx
  ·have h1:=aH SH
   cases b2
   ·exact absurd rfl e
   have h2:=aI PL;exact⟨by omega,by rw[Bool.false_and];exact bN (by omega)⟩
  ·have h1:=aI SH
   cases b2
   ·have h2:=aH PL;exact⟨by omega,by rw[Bool.true_and];exact decide_eq_decide.2 (by omega)⟩
   ·exact absurd rfl e
 have St:bx≠b2->x.natAbs<y.natAbs->(x+y).natAbs=y.natAbs-x.natAbs∧decide (x+y<0)=b2:=fun e h=>by
  cases bx
  ·have h1:=aH SH
   cases b2
   ·exact absurd rfl e
   have h2:=aI PL;exact⟨by omega,bT (by omega)⟩
  ·have h1:=aI SH
   cases b2
   ·have h2:=aH PL;exact⟨by omega,bN (by omega)⟩
   ·exact absurd rfl e
 by_cases OR:bx=b2
 ·obtain⟨h1,h2⟩:=Qg OR;subst OR
  cases bx
  all_goals
   refine cN hτ dm [.x 0,.x 1,.x 2,.x 3,.x 4,.x 5,.x 6,.x 7,.x 8] (by kernel_rfl) (by kernel_rfl) ?_;refine cO (Φ:=fun _ w' v w2=>dx w2 (Nf w' w2) v (x.natAbs+y.natAbs)) (fun O w' r=>NC (Rel.old r hS) (RN.rel r hS) (Sh.rel r hS) (by omega) (by omega)) ?_;rintro O w3 v3 w4 r he hw hn;have hN:=hn.dE (S:=FF) r.cF (iv:=(w3.heap.size,w4.heap.size)::[]) aG;obtain⟨a3,n3,c3,rfl⟩:=hN.shape;intro ρ5 w5 r5;exact⟨_,rfl,hw.tr r5.cQ,_,by rw[h2];rfl,by rw[h1];exact hN.out r5 (cC w)⟩
 ·replace UR:=UR OR;replace St:=St OR;have hcmp:∀d:Int,d=sF x.natAbs y.natAbs->(0<=d↔y.natAbs<=x.natAbs):=fun d e=>by
   rw[e];unfold sF;split
   ·omega
   ·split<;>omega
  cases bx<;>cases b2<;>first|exact absurd rfl OR|skip
  all_goals
   refine cD (cO (Φ:=fun _ _ v _=>v= .int .i64 (sF x.natAbs y.natAbs)) (fun O w' r=>Jt (Rel.old r hS) (RN.rel r hS) (Sh.rel r hS)) ?_);rintro O w1 v1 w2 r he hw rfl;replace RN:=RN.cG (iv':=[(w1.heap.size,w2.heap.size)]) r hS he fun x hx=>List.mem_cons_of_mem _ hx;replace Sh:=Sh.cG (iv':=[(w1.heap.size,w2.heap.size)]) r hS he fun x hx=>List.mem_cons_of_mem _ hx;refine dN.mk ?_ ?_<;>intro h
   ·have h:=(hcmp _ rfl).1 (aI h);obtain⟨h1,h2⟩:=UR h;refine cD (cO (Φ:=fun _ w' v w2=>dx w2 (Nf w' w2) v (x.natAbs-y.natAbs)) (fun O w' r=>Co (Rel.old r hS) (RN.rel r hS) (Sh.rel r hS) h (by omega)) ?_);rintro O w3 v3 w4 r he RU hn;replace hw:=hw.tr RU;have hN:=hn.dE (S:=FF) r.cF (iv:=(w3.heap.size,w4.heap.size)::[(w1.heap.size,w2.heap.size)]) aG;have hN2:=hN;obtain⟨p,rfl,Q7,QF⟩:=hN.la;have PV:=eL p.lm QF;rw[Q7]at PV;have Uh:=vO PV;have hd:decide ((p.ls.length:Int)>0)=decide (x.natAbs-y.natAbs≠0):=decide_eq_decide.2 (by omega);intro ρ5 w5 r5;exact⟨_,rfl,hw.tr r5.cQ,_,by rw[h2,<-hd];rfl,by rw[h1];exact hN2.out r5 (cC w)⟩
   ·have h:x.natAbs<y.natAbs:=by
     have h0:=aH h;have:=hcmp _ rfl;omega
    obtain⟨h1,h2⟩:=St h;refine cN hτ dm [.x 0,.x 1,.x 2,.x 3,.x 4,.x 5,.x 6,.x 7,.x 8] (by kernel_rfl) (by kernel_rfl) ?_;refine cO (Φ:=fun _ w' v w2=>dx w2 (Nf w' w2) v (y.natAbs-x.natAbs)) (fun O w' r=>Co (Rel.old r hS) (Sh.rel r hS) (RN.rel r hS) (by omega) (by omega)) ?_;rintro O w3 v3 w4 r he RU hn;replace hw:=hw.tr RU;have hN:=hn.dE (S:=FF) r.cF (iv:=(w3.heap.size,w4.heap.size)::[(w1.heap.size,w2.heap.size)]) aG;obtain⟨a3,n3,c3,rfl⟩:=hN.shape;intro ρ5 w5 r5;exact⟨_,rfl,hw.tr r5.cQ,_,by rw[h2];rfl,by rw[h1];exact hN.out r5 (cC w)⟩
theorem iC(hS:Old S w)(hx:eM w S v x)(hy:eM w S u y)(Of:ln x.natAbs<=100000000000)(QY:ln y.natAbs<=100000000000):
  eD PG N.lM #[v,u] w (eG w fun v' w2=>eM w2 (Nf w w2) v' (x*y)):=by
 obtain⟨nx,rfl,RN⟩:=hx;obtain⟨ny,rfl,Sh⟩:=hy;obtain⟨ax,lx,cx,rfl⟩:=RN.shape;obtain⟨ay,ly,cy,rfl⟩:=Sh.shape;replace RN:=RN.arg [];replace Sh:=Sh.arg [];have Pg:=Int.natAbs_mul x y;have Qx:decide (x*y<0)=((decide (x<0) != decide (y<0))&&decide (x.natAbs*y.natAbs≠0)):=by
  by_cases h0:x*y=0
  ·rw[<-Pg,h0];simp
  ·have SF:x≠0:=fun e=>h0 (by rw[e,Int.zero_mul]);have Pe:y≠0:=fun e=>h0 (by rw[e,Int.mul_zero]);rw[<-Pg,bT (show (x*y).natAbs≠0 by omega),Bool.and_true];by_cases h1:x<0<;>by_cases h2:y<0
   ·rw[bT h1,bT h2];exact bN (by have:=Int.mul_pos_of_neg_of_neg h1 h2;omega)
   ·rw[bT h1,bN h2];exact bT (Int.mul_neg_of_neg_of_pos h1 (by omega))
   ·rw[bN h1,bT h2];exact bT (Int.mul_neg_of_pos_of_neg (by omega) h2)
   ·rw[bN h1,bN h2];exact bN (by have:=Int.mul_nonneg (show 0<=x by omega) (show 0<=y by omega);omega)
 generalize decide (x<0)=bx at*
 generalize decide (y<0)=b2 at*
 refine oc (by simp) ?_;refine cD (cO (Φ:=fun _ w' v w2=>dx w2 (Nf w' w2) v (x.natAbs*y.natAbs)) (fun O w' r=>HJ (Rel.old r hS) (RN.rel r hS) (Sh.rel r hS) (by omega) (by omega)) ?_);rintro O w3 v3 w4 r he hw hn;have hN:=hn.dE (S:=FF) r.cF (iv:=(w3.heap.size,w4.heap.size)::[]) aG;have hN2:=hN;obtain⟨p,rfl,Q7,QF⟩:=hN.la;have PV:=eL p.lm QF;rw[Q7]at PV;have Uh:=vO PV;have hd:decide ((p.ls.length:Int)>0)=decide (x.natAbs*y.natAbs≠0):=decide_eq_decide.2 (by omega)
 cases bx<;>cases b2
 all_goals
  intro ρ5 w5 r5;exact⟨_,rfl,hw.tr r5.cQ,_,by rw[Qx,<-hd];rfl,by rw[Pg];exact hN2.out r5 (cC w)⟩
theorem KN(hS:Old S w)(hx:eM w S v x)(hy:eM w S u y)(Of:ln x.natAbs<=100000000000)(QY:ln y.natAbs<=100000000000):
  eD PG N.nA #[v,u] w (eG w fun v' _=>v'= .int .i64 (x-y).sign):=by
 have hxN:eM w (Cv S w.heap.size []) v x:=hx.cJ fun _ h=>.inl h;have hyN:eM w (Cv S w.heap.size []) u y:=hy.cJ fun _ h=>.inl h;obtain⟨nx,rfl,RN⟩:=hx;obtain⟨ny,rfl,Sh⟩:=hy;obtain⟨ax,lx,cx,rfl⟩:=RN.shape;obtain⟨ay,ly,cy,rfl⟩:=Sh.shape;refine qg (by simp) ?_;refine cN hτ dm [.x 0,.x 1,.x 2,.x 3,.x 4,.x 5] (by kernel_rfl) (by kernel_rfl) ?_;refine cO (Φ:=fun _ w' v w2=>eM w2 (Nw (Cv S w.heap.size []) w' w2) v (-y)) (fun O w' r=>oI (Rel.old r hS) (hyN.rel r hS)) ?_;rintro O w1 v1 w2 r he hw hm;have TV:eM w2 (Cv S w.heap.size [(w1.heap.size,w2.heap.size)]) v1 (-y):=hm.cJ fun _ hg=>Nw.cv hg r.cF;replace hxN:=hxN.cG (iv':=[(w1.heap.size,w2.heap.size)]) r hS he fun x hx=>List.mem_cons_of_mem _ hx;generalize [(w1.heap.size,w2.heap.size)]=iv at*
 have hmN2:=TV;obtain⟨am,lm,cm,rfl,-⟩:=TV.num;refine cO (Φ:=fun _ w' v w2=>eM w2 (Nf w' w2) v (x+ -y)) (fun O w' r=>Bh (Rel.old r hS) (hxN.rel r hS) (hmN2.rel r hS) Of (by rw[cB];exact QY)) ?_;rintro O w3 v3 w4 r he RU hp;replace hw:=hw.tr RU;have hpN:=hp.dE (S:=S) r.cF (iv:=(w3.heap.size,w4.heap.size)::iv) aG;have hpN2:=hpN;obtain⟨ap,lp,cp,rfl,-⟩:=hpN.num;refine cO (Φ:=fun _ _ v _=>v= .int .i64 (x-y).sign) (fun O w' r=>zw (hpN2.rel r hS)) ?_;rintro O w5 v5 w6 r he hb6 rfl;replace hw:=hw.tr hb6;intro ρ7 w7 r7;exact⟨_,rfl,hw.tr r7.cQ,rfl⟩
theorem oL(n:Int)(w:World)(h1: -9223372036854775808<=n)(h2:n<=9223372036854775807):
  eD PG N.wV #[.int .i64 n] w (eG w fun v' w2=>eM w2 (Nf w w2) v' n):=by
 have key:∀(m:Nat),m=n.natAbs->m<18446744073709551616∧val [m % 4294967296,m / 4294967296]=n.natAbs∧m / 4294967296<4294967296:=fun m e=>by
  refine⟨by omega,?_,by omega⟩;simp only[val]
  omega
 refine zk (by simp) ?_;refine⟨if n<0 then n+18446744073709551616 else n,by show n % 18446744073709551616=_;split<;>omega,?_⟩;refine dN.mk ?_ ?_<;>intro h
 ·have h:=aI h;rw[if_pos h];obtain⟨m,hm⟩:∃m,m=n.natAbs:=⟨_,rfl⟩
  obtain⟨k1,k2,k3⟩:=key m hm;refine⟨(m:Int),by show(0-(n+18446744073709551616)) % 18446744073709551616=_;omega,((m % 4294967296:Nat):Int),fC m,by decide,((m / 2^32:Nat):Int),lX 32 (by decide),((m / 4294967296:Nat):Int),by rw[fC,bP (by omega)],?_⟩;refine gW (Φ:=fun O _ v w2=>dL w2 (fun g=>g=(O 1).g) v (dw [m % 4294967296,m / 4294967296])) (H':=[(0,.box T.number [.v (.bool false),.v (.slice none 0 0)])]) 1 rfl (by simp) ⟨rfl,trivial⟩ rfl (fun O w' r=>r.nn 1 _ rfl (by intros;simp) (by simp)) (fun O w' r=>?_) ?_
  ·have hL:=r.tu (id:=1) (ls:=[m % 4294967296,m / 4294967296]) rfl (by intro x hx;simp at hx;omega) (by simp);exact fN (fun g hg=>by rw[hg];exact(r.low 1 _ rfl (r.nn 1 _ rfl (by intros;simp) (by simp))).2) hL
  rintro O w1 v1 w2 r he hw hL;have Og:=r.low 1 _ rfl (r.nn 1 _ rfl (by intros;simp) (by simp));have hs:=he.size;generalize (O 1).g=g0 at*
  have hN:dx w2 (Cf w [(g0,g0+1),(w1.heap.size,w2.heap.size)]) v1 n.natAbs:=by
   have:=hL.trimmed;rw[k2]at this;exact this.cJ fun k hk=>.inr ⟨by omega,g0,g0+1,by simp,by omega,by omega⟩
  generalize [(g0,g0+1),(w1.heap.size,w2.heap.size)]=iv at*
  obtain⟨a3,n3,c3,rfl⟩:=hN.shape;intro ρ5 w5 r5;exact⟨_,rfl,hw.tr r5.cQ,_,rfl,hN.out r5 (cC w)⟩
 ·have h:=aH h;rw[aK h];obtain⟨m,hm⟩:∃m,m=n.natAbs:=⟨_,rfl⟩
  obtain⟨k1,k2,k3⟩:=key m hm;have Qw:n=(m:Int):=by omega
  refine⟨((m % 4294967296:Nat):Int),by rw[Qw];exact fC m,by decide,((m / 2^32:Nat):Int),by rw[Qw];exact lX 32 (by decide),((m / 4294967296:Nat):Int),by rw[fC,bP (by omega)],?_⟩;refine gW (Φ:=fun O _ v w2=>dL w2 (fun g=>g=(O 1).g) v (dw [m % 4294967296,m / 4294967296])) (H':=[(0,.box T.number [.v (.bool false),.v (.slice none 0 0)])]) 1 rfl (by simp) ⟨rfl,trivial⟩ rfl (fun O w' r=>r.nn 1 _ rfl (by intros;simp) (by simp)) (fun O w' r=>?_) ?_
  ·have hL:=r.tu (id:=1) (ls:=[m % 4294967296,m / 4294967296]) rfl (by intro x hx;simp at hx;omega) (by simp);exact fN (fun g hg=>by rw[hg];exact(r.low 1 _ rfl (r.nn 1 _ rfl (by intros;simp) (by simp))).2) hL
  rintro O w1 v1 w2 r he hw hL;have Og:=r.low 1 _ rfl (r.nn 1 _ rfl (by intros;simp) (by simp));have hs:=he.size;generalize (O 1).g=g0 at*
  have hN:dx w2 (Cf w [(g0,g0+1),(w1.heap.size,w2.heap.size)]) v1 n.natAbs:=by
   have:=hL.trimmed;rw[k2]at this;exact this.cJ fun k hk=>.inr ⟨by omega,g0,g0+1,by simp,by omega,by omega⟩
  generalize [(g0,g0+1),(w1.heap.size,w2.heap.size)]=iv at*
  obtain⟨a3,n3,c3,rfl⟩:=hN.shape;intro ρ5 w5 r5;exact⟨_,rfl,hw.tr r5.cQ,_,rfl,hN.out r5 (cC w)⟩
def j5(w:World)(S:Nat->Prop)(v:Value)(z:Int):Prop:=∃neg ls,uC w S v neg ls∧sg neg (val ls)=z
def dJ(w:World)(S:Nat->Prop)(v:Value)(z:Int):Prop:=∃ls,uC w S v (decide (z<0)) ls∧Nz ls∧val ls=z.natAbs
theorem Bo(z:Int):sg (decide (z<0)) z.natAbs=z:=by
 by_cases h:z<0
 ·rw[bT h,KK];omega
 ·rw[bN h,NA];omega
theorem dJ.r(h:dJ w S v z):j5 w S v z:=by
 obtain⟨ls,h1,h2,h3⟩:=h;exact⟨_,ls,h1,by rw[h3,Bo]⟩
section
variable{S S':Nat->Prop}{H:Hp}{nx:Nat}{iv iv':Iv}{B:Nat}{w w' w2:World}{O:Nat->Sx.dg}{v:Value}{z:Int}{neg:Bool}{ls:List Nat}
theorem uC.cI(h:uC w S v neg ls)(hk:∀g,S g->w2.heap[g]? =w.heap[g]?):uC w2 S v neg ls:=by
 obtain⟨lv,h1,h2⟩:=h;exact⟨lv,h1,h2.cI hk⟩
theorem uC.cJ(h:uC w S v neg ls)(hk:∀g,S g->S' g):uC w S' v neg ls:=by
 obtain⟨lv,h1,h2⟩:=h;exact⟨lv,h1,h2.cJ hk⟩
theorem j5.cI(h:j5 w S v z)(hk:∀g,S g->w2.heap[g]? =w.heap[g]?):j5 w2 S v z:=by
 obtain⟨n,l,h1,h2⟩:=h;exact⟨n,l,h1.cI hk,h2⟩
theorem j5.cJ(h:j5 w S v z)(hk:∀g,S g->S' g):j5 w S' v z:=by
 obtain⟨n,l,h1,h2⟩:=h;exact⟨n,l,h1.cJ hk,h2⟩
theorem dJ.cI(h:dJ w S v z)(hk:∀g,S g->w2.heap[g]? =w.heap[g]?):dJ w2 S v z:=by
 obtain⟨l,h1,h2⟩:=h;exact⟨l,h1.cI hk,h2⟩
theorem dJ.cJ(h:dJ w S v z)(hk:∀g,S g->S' g):dJ w S' v z:=by
 obtain⟨l,h1,h2⟩:=h;exact⟨l,h1.cJ hk,h2⟩
theorem j5.rel(h:j5 w (Cv S B iv) v z)(r:Rel H nx iv B w O w')(hS:∀g,S g->g<B):j5 w' (Cv S B iv) v z:=h.cI fun _ hg=>Rel.same r hS hg
theorem dJ.rel(h:dJ w (Cv S B iv) v z)(r:Rel H nx iv B w O w')(hS:∀g,S g->g<B):dJ w' (Cv S B iv) v z:=h.cI fun _ hg=>Rel.same r hS hg
theorem j5.cG(h:j5 w (Cv S B iv) v z)(r:Rel H nx iv B w O w')(hS:∀g,S g->g<B)(he:Ext w' w2)(hm:∀p,p∈iv->p∈iv'):j5 w2 (Cv S B iv') v z:=
 ((h.rel r hS).cI fun g hg=>he.block g (Rel.old r hS g hg)).cJ fun _ hg=>hg.mono hm
theorem dJ.cG(h:dJ w (Cv S B iv) v z)(r:Rel H nx iv B w O w')(hS:∀g,S g->g<B)(he:Ext w' w2)(hm:∀p,p∈iv->p∈iv'):dJ w2 (Cv S B iv') v z:=
 ((h.rel r hS).cI fun g hg=>he.block g (Rel.old r hS g hg)).cJ fun _ hg=>hg.mono hm
theorem dJ.dE(h:dJ w2 (Nf w' w2) v z)(hB:B<=w'.heap.size)(hm:(w'.heap.size,w2.heap.size)∈iv):dJ w2 (Cv S B iv) v z:=h.cJ fun _ hg=>hg.dE hB hm
theorem j5.shape(h:j5 w S v z):∃b a n c,v= .agg #[.bool b,.slice a n c]:=by
 obtain⟨b,l,⟨lv,h1,h2⟩,_⟩:=h;obtain⟨a,n,c,rfl⟩:=h2.shape;exact⟨b,a,n,c,h1⟩
theorem eM.old(h:eM w2 (Nw (Cv S B iv) w' w2) v z)(hB:B<=w'.heap.size):eM w2 (Cv S B ((w'.heap.size,w2.heap.size)::iv)) v z:=h.cJ fun _ hg=>Nw.cv hg hB
end
theorem dJ.out(h:dJ w1 (Cv S w.heap.size iv) v z)(r:Rel H nx iv w.heap.size w1 O w')(hS:Old S w):dJ w' (Nw S w w') v z:=
 (h.rel r hS).cJ fun _ hg=>Cv.nw hg r
theorem KZ(hS:Old S w)(h:j5 w S v z):eD PG N.zL #[v] w (eG w fun v' w2=>eM w2 (Nw S w w2) v' z):=by
 obtain⟨n,l,h1,rfl⟩:=h;exact aAL hS h1
theorem eM.shape(h:eM w S v z):∃b a n c,v= .agg #[.bool b,.slice a n c]:=by
 obtain⟨a,n,c,h1,_⟩:=h.num;exact⟨_,a,n,c,h1⟩
theorem dJ.shape(h:dJ w S v z):∃b a n c,v= .agg #[.bool b,.slice a n c]:=h.r.shape
theorem cw(x y:Int):ln (x*y).natAbs<=ln x.natAbs+ln y.natAbs:=by
 rw[Int.natAbs_mul];exact Md _ _
end Go.Ex
namespace Go.Ex
open Go Go.Sx
theorem yd{x y:Int}(hy:0<y)(hx:x≠0):
  (Rat.divInt x y).num.natAbs=x.natAbs / Nat.gcd x.natAbs y.natAbs∧(Rat.divInt x y).den=y.natAbs / Nat.gcd x.natAbs y.natAbs∧decide ((Rat.divInt x y).num<0)=decide (x<0):=by
 have hg:0<Nat.gcd x.natAbs y.natAbs:=bm _ (by omega);have hs:y.sign=1:=bl hy;have hc:(y.gcd x:Int)=(Nat.gcd x.natAbs y.natAbs:Nat):=by rw[Int.gcd_comm];rfl
 have hdx:((Nat.gcd x.natAbs y.natAbs:Nat):Int) ∣ x:=by
  rw[<-Int.natAbs_dvd_natAbs];exact Nat.gcd_dvd_left _ _
 have h1:(Rat.divInt x y).num=x / ((Nat.gcd x.natAbs y.natAbs:Nat):Int):=by
  rw[Rat.num_divInt,hs,Int.one_mul,hc]
 have hgi:0<((Nat.gcd x.natAbs y.natAbs:Nat):Int):=by omega
 refine⟨?_,?_,?_⟩
 ·rw[h1,Int.natAbs_ediv_of_dvd hdx];rfl
 ·rw[Rat.den_divInt,aK (by omega)];have:y.gcd x=Nat.gcd x.natAbs y.natAbs:=by rw[Int.gcd_comm];rfl
  rw[this]
 ·rw[h1];obtain⟨k,hk⟩:=hdx;refine decide_eq_decide.2 ?_;have:x / ((Nat.gcd x.natAbs y.natAbs:Nat):Int)=k:=by
   conv=>lhs;lhs;rw[hk]
   exact Int.mul_ediv_cancel_left _ (by omega)
  rw[this];generalize ((Nat.gcd x.natAbs y.natAbs:Nat):Int)=g at*
  subst hk;constructor
  ·intro h;exact Int.mul_neg_of_pos_of_neg hgi h
  ·intro h;have h0:¬0<=k:=fun hh=>by have:=Int.mul_nonneg (show 0<=g by omega) hh;omega
   omega
theorem Hq{a b:Nat}:ln (a / b)<=ln a:=fG (Nat.div_le_self a b)
theorem ye(y:Int):Rat.divInt 0 y=0:=Rat.zero_divInt y
end Go.Ex
namespace Go.Ex
open Go Go.Sx Go.Proofs
variable{b b2:Bool}{S:Nat->Prop}{q:Rat}{dv nv v:Value}{w:World}
theorem dx.old{B:Nat}{iv:Iv}{w' w2:World}{n:Nat}(h:dx w2 (Nw (Cv S B iv) w' w2) v n)(hB:B<=w'.heap.size):dx w2 (Cv S B ((w'.heap.size,w2.heap.size)::iv)) v n:=h.cJ fun _ hg=>Nw.cv hg hB
def dS(w:World)(S:Nat->Prop)(v:Value)(q:Rat):Prop:=∃nv dv,v= .agg #[.bool (decide (q.num<0)),nv,.bool false,dv]∧dx w S nv q.num.natAbs∧dx w S dv q.den
theorem dS.cI{w2:World}(h:dS w S v q)(hk:∀g,S g->w2.heap[g]? =w.heap[g]?):dS w2 S v q:=by
 obtain⟨n,d,h1,h2,h3⟩:=h;exact⟨n,d,h1,h2.cI hk,h3.cI hk⟩
theorem dS.cJ{S':Nat->Prop}(h:dS w S v q)(hk:∀g,S g->S' g):dS w S' v q:=by
 obtain⟨n,d,h1,h2,h3⟩:=h;exact⟨n,d,h1,h2.cJ hk,h3.cJ hk⟩
theorem dS.shape(h:dS w S v q):∃b a n c b2 a2 n2 c2,v= .agg #[.bool b,.slice a n c,.bool b2,.slice a2 n2 c2]:=by
 obtain⟨n,d,h1,h2,h3⟩:=h;obtain⟨a,n,c,rfl⟩:=h2.shape;obtain⟨a2,n2,c2,rfl⟩:=h3.shape;exact⟨_,a,n,c,_,a2,n2,c2,h1⟩
theorem dS.num(h:dS w S (.agg #[.bool b,nv,.bool b2,dv]) q):eM w S (.agg #[.bool b,nv]) q.num:=by
 obtain⟨n,d,h1,h2,h3⟩:=h;simp at h1;obtain⟨rfl,rfl,rfl,rfl⟩:=h1;exact⟨_,rfl,h2⟩
theorem dS.den(h:dS w S (.agg #[.bool b,nv,.bool b2,dv]) q):eM w S (.agg #[.bool b2,dv]) (q.den:Int):=by
 obtain⟨n,d,h1,h2,h3⟩:=h;simp at h1;obtain⟨rfl,rfl,rfl,rfl⟩:=h1;exact⟨_,by rw[bN (by omega)],h3⟩
theorem dS.of(h:eM w S (.agg #[.bool b,nv]) q.num)(k:eM w S (.agg #[.bool b2,dv]) (q.den:Int)):dS w S (.agg #[.bool b,nv,.bool b2,dv]) q:=by
 obtain⟨n,h1,h2⟩:=h;obtain⟨d,h3,h4⟩:=k;simp at h1 h3;obtain⟨rfl,rfl⟩:=h1;obtain⟨rfl,rfl⟩:=h3;refine⟨_,_,?_,h2,h4⟩;rw[bN (show ¬((q.den:Int)<0) by omega)]
section
variable{S S':Nat->Prop}{H:Hp}{nx:Nat}{iv iv':Iv}{B:Nat}{w w' w2:World}{O:Nat->Sx.dg}{v:Value}{q:Rat}
theorem dS.rel(h:dS w (Cv S B iv) v q)(r:Rel H nx iv B w O w')(hS:∀g,S g->g<B):dS w' (Cv S B iv) v q:=h.cI fun _ hg=>Rel.same r hS hg
theorem dS.cG(h:dS w (Cv S B iv) v q)(r:Rel H nx iv B w O w')(hS:∀g,S g->g<B)(he:Ext w' w2)(hm:∀p,p∈iv->p∈iv'):dS w2 (Cv S B iv') v q:=
 ((h.rel r hS).cI fun g hg=>he.block g (Rel.old r hS g hg)).cJ fun _ hg=>hg.mono hm
theorem dS.dE(h:dS w2 (Nf w' w2) v q)(hB:B<=w'.heap.size)(hm:(w'.heap.size,w2.heap.size)∈iv):dS w2 (Cv S B iv) v q:=h.cJ fun _ hg=>hg.dE hB hm
theorem dS.old(h:dS w2 (Nw (Cv S B iv) w' w2) v q)(hB:B<=w'.heap.size):dS w2 (Cv S B ((w'.heap.size,w2.heap.size)::iv)) v q:=h.cJ fun _ hg=>Nw.cv hg hB
theorem dS.out{w0 w1:World}(h:dS w1 (Cv S w0.heap.size iv) v q)(r:Rel H nx iv w0.heap.size w1 O w')(hS:Old S w0):dS w' (Nw S w0 w') v q:=
 (h.rel r hS).cJ fun _ hg=>Cv.nw hg r
end
theorem eM.nat{z:Int}(h:eM w S (.agg #[.bool b,nv]) z):b=decide (z<0)∧dx w S nv z.natAbs:=by
 obtain⟨n,h1,h2⟩:=h;simp at h1;obtain⟨rfl,rfl⟩:=h1;exact⟨rfl,h2⟩
theorem vQ{u:Value}{x y:Int}(hS:Old S w)(hx:eM w S v x)(hy:eM w S u y)(Pe:y≠0)(Of:ln x.natAbs<=100000000000)(QY:ln y.natAbs<=100000000000):
  eD PG N.zM #[v,u] w (eG w fun v' w2=>dS w2 (Nf w w2) v' (Rat.divInt x y)):=by
 have hw:=bR w;replace hx:=hx.cJ (S':=Cv S w.heap.size []) fun _ h=>.inl h;replace hy:=hy.cJ (S':=Cv S w.heap.size []) fun _ h=>.inl h;obtain⟨bx,ax,lx,cx,rfl⟩:=hx.shape;obtain⟨b2,ay,ly,cy,rfl⟩:=hy.shape;have QH:=hy.nat.1;refine Ae (by simp) ?_
 cases b2
 ·have hyp:0<y:=by have:=aH QH.symm;omega
  have hq:Rat.divInt x y=Rat.divInt x y:=rfl;have hbA:=hx.nat.1;refine cD (cE hw (fun _ w' v w2=>v= .int .i64 (x).sign) (fun O w' r=>zw (hx.rel r hS)) ?_);rintro O Pq v1 Pa OM r he hw h_ rfl;replace hx:=hx.cG r hS he (mC h_);replace hy:=hy.cG r hS he (mC h_);refine dN.mk ?_ ?_<;>intro h
  ·have h:x=0:=Int.sign_eq_zero_iff_zero.1 (eq_of_beq h);refine cD (cE hw (fun _ w' v w2=>eM w2 (Nf w' w2) v 1) (fun O w' r=>oL 1 w' (by decide) (by decide)) ?_);rintro O Ph v2 PD OK r he hw h_ hn;have hO:=hn.dE (S:=FF) r.cF (mN h_);obtain⟨A0,A1,A2,A3,rfl⟩:=hO.shape;have e0:Rat.divInt x y=0:=by rw[hq,h,ye]
   exact rtn hw fun ρe we re=>by rw[e0];exact dS.of ⟨_,rfl,dx.nil _ _⟩ (hO.out re (cC w))
  ·have h:x≠0:=fun e=>by rw[e]at h;exact absurd h (by decide)
   obtain⟨g1,g2,g3⟩:=yd hyp h;have Sj:0<Nat.gcd (x).natAbs (y).natAbs:=bm _ (by omega);have VV:=hx.nat.2;have Qp:=hy.nat.2;refine cD (cO (Φ:=fun _ w' v w2=>dx w2 (Nw (Cv S w.heap.size OM) w' w2) v (Nat.gcd (x).natAbs (y).natAbs)) (fun O w' r=>Ef (Rel.old r hS) (VV.rel r hS) (Qp.rel r hS) (by omega) (by omega)) ?_);rintro O Ph v2 PD r he hb hn;replace hw:=hw.tr hb;replace VV:=VV.cG (iv':=(Ph.heap.size,PD.heap.size)::OM) r hS he fun x hx=>List.mem_cons_of_mem _ hx;replace Qp:=Qp.cG (iv':=(Ph.heap.size,PD.heap.size)::OM) r hS he fun x hx=>List.mem_cons_of_mem _ hx;have hG:=hn.old r.cF;generalize (Ph.heap.size,PD.heap.size)::OM=OK at*
   obtain⟨A0,A1,A2,rfl⟩:=hG.shape;refine cD (cO (Φ:=fun _ w' v w2=>∃q r,v= .tuple #[q,r]∧dx w2 (Nf w' w2) q ((x).natAbs / Nat.gcd (x).natAbs (y).natAbs)∧dx w2 (Nw (Cv S w.heap.size OK) w' w2) r ((x).natAbs % Nat.gcd (x).natAbs (y).natAbs)) (fun O w' r=>pq (Rel.old r hS) (VV.rel r hS) (hG.rel r hS) Sj (by omega)) ?_);rintro O PQ v3 PN r he hb ⟨qvp,rvp,rfl,RK,Sf⟩;replace hw:=hw.tr hb;replace Qp:=Qp.cG (iv':=(PQ.heap.size,PN.heap.size)::OK) r hS he fun x hx=>List.mem_cons_of_mem _ hx;replace hG:=hG.cG (iv':=(PQ.heap.size,PN.heap.size)::OK) r hS he fun x hx=>List.mem_cons_of_mem _ hx;have hP:=RK.dE (S:=FF) r.cF (iv:=(PQ.heap.size,PN.heap.size)::OK) aG;have hPr:=Sf.old r.cF;generalize (PQ.heap.size,PN.heap.size)::OK=OS at*
   obtain⟨s3_0a,s3_0b,s3_0c,rfl⟩:=hP.shape;obtain⟨s3_1a,s3_1b,s3_1c,rfl⟩:=hPr.shape;refine cD (cO (Φ:=fun _ w' v w2=>∃q r,v= .tuple #[q,r]∧dx w2 (Nf w' w2) q ((y).natAbs / Nat.gcd (x).natAbs (y).natAbs)∧dx w2 (Nw (Cv S w.heap.size OS) w' w2) r ((y).natAbs % Nat.gcd (x).natAbs (y).natAbs)) (fun O w' r=>pq (Rel.old r hS) (Qp.rel r hS) (hG.rel r hS) Sj (by omega)) ?_);rintro O RE v4 Qr r he hb ⟨qvq,rvq,rfl,RK,Sf⟩;replace hw:=hw.tr hb;replace hP:=hP.cG (iv':=(RE.heap.size,Qr.heap.size)::OS) r (cC w) he fun x hx=>List.mem_cons_of_mem _ hx;have hQ:=RK.dE (S:=FF) r.cF (iv:=(RE.heap.size,Qr.heap.size)::OS) aG;have hQr:=Sf.old r.cF;generalize (RE.heap.size,Qr.heap.size)::OS=Oe at*
   obtain⟨s4_0a,s4_0b,s4_0c,rfl⟩:=hQ.shape;obtain⟨s4_1a,s4_1b,s4_1c,rfl⟩:=hQr.shape;exact rtn hw fun ρe we re=>by rw[hq];exact dS.of ⟨_,by rw[g3,<-hbA],by rw[g1];exact hP.out re (cC w)⟩ ⟨_,by rw[bN (by omega)],by rw[g2];exact hQ.out re (cC w)⟩
 ·have hyp:0< -y:=by have:=aI QH.symm;omega
  have hq:Rat.divInt x y=Rat.divInt (-x) (-y):=(Rat.neg_divInt_neg _ _).symm;have nx:=cB x;have ny:=cB y;have hlx2:ln (-x).natAbs<=100000000000:=by rw[nx];exact Of
  have hly2:ln (-y).natAbs<=100000000000:=by rw[ny];exact QY
  refine cN hτ dm [.x 0,.x 2,.x 1,.x 3,.x 4,.x 5] (by kernel_rfl) (by kernel_rfl) ?_;refine cO (Φ:=fun _ w' v w2=>eM w2 (Nw (Cv S w.heap.size []) w' w2) v (-x)) (fun O w' r=>oI (Rel.old r hS) (hx.rel r hS)) ?_;rintro O Pq v1 Pa r he hb hn;replace hw:=hw.tr hb;replace hy:=hy.cG (iv':=(Pq.heap.size,Pa.heap.size)::[]) r hS he fun x hx=>List.mem_cons_of_mem _ hx;have hA:=hn.old r.cF;generalize (Pq.heap.size,Pa.heap.size)::[]=OM at*
  obtain⟨C0,C1,C2,C3,rfl⟩:=hA.shape;refine cO (Φ:=fun _ w' v w2=>eM w2 (Nw (Cv S w.heap.size OM) w' w2) v (-y)) (fun O w' r=>oI (Rel.old r hS) (hy.rel r hS)) ?_;rintro O Ph v2 PD r he hb hn;replace hw:=hw.tr hb;replace hA:=hA.cG (iv':=(Ph.heap.size,PD.heap.size)::OM) r hS he fun x hx=>List.mem_cons_of_mem _ hx;have hB:=hn.old r.cF;generalize (Ph.heap.size,PD.heap.size)::OM=OK at*
  obtain⟨A0,A1,A2,A3,rfl⟩:=hB.shape;have hbA:=hA.nat.1;refine cD (cE hw (fun _ w' v w2=>v= .int .i64 (-x).sign) (fun O w' r=>zw (hA.rel r hS)) ?_);rintro O _ _ _ OS r he hw h_ rfl;replace hA:=hA.cG r hS he (mC h_);replace hB:=hB.cG r hS he (mC h_);refine dN.mk ?_ ?_<;>intro h
  ·have h: -x=0:=Int.sign_eq_zero_iff_zero.1 (eq_of_beq h);refine cD (cE hw (fun _ w' v w2=>eM w2 (Nf w' w2) v 1) (fun O w' r=>oL 1 w' (by decide) (by decide)) ?_);rintro O RE v4 Qr Oe r he hw h_ hn;have hO:=hn.dE (S:=FF) r.cF (mN h_);obtain⟨E0,E1,E2,E3,rfl⟩:=hO.shape;have e0:Rat.divInt x y=0:=by rw[hq,h,ye]
   exact rtn hw fun ρe we re=>by rw[e0];exact dS.of ⟨_,rfl,dx.nil _ _⟩ (hO.out re (cC w))
  ·have h: -x≠0:=fun e=>by rw[e]at h;exact absurd h (by decide)
   obtain⟨g1,g2,g3⟩:=yd hyp h;have Sj:0<Nat.gcd (-x).natAbs (-y).natAbs:=bm _ (by omega);have VV:=hA.nat.2;have Qp:=hB.nat.2;refine cD (cO (Φ:=fun _ w' v w2=>dx w2 (Nw (Cv S w.heap.size OS) w' w2) v (Nat.gcd (-x).natAbs (-y).natAbs)) (fun O w' r=>Ef (Rel.old r hS) (VV.rel r hS) (Qp.rel r hS) (by omega) (by omega)) ?_);rintro O RE v4 Qr r he hb hn;replace hw:=hw.tr hb;replace VV:=VV.cG (iv':=(RE.heap.size,Qr.heap.size)::OS) r hS he fun x hx=>List.mem_cons_of_mem _ hx;replace Qp:=Qp.cG (iv':=(RE.heap.size,Qr.heap.size)::OS) r hS he fun x hx=>List.mem_cons_of_mem _ hx;have hG:=hn.old r.cF;generalize (RE.heap.size,Qr.heap.size)::OS=Oe at*
   obtain⟨E0,E1,E2,rfl⟩:=hG.shape;refine cD (cO (Φ:=fun _ w' v w2=>∃q r,v= .tuple #[q,r]∧dx w2 (Nf w' w2) q ((-x).natAbs / Nat.gcd (-x).natAbs (-y).natAbs)∧dx w2 (Nw (Cv S w.heap.size Oe) w' w2) r ((-x).natAbs % Nat.gcd (-x).natAbs (-y).natAbs)) (fun O w' r=>pq (Rel.old r hS) (VV.rel r hS) (hG.rel r hS) Sj (by omega)) ?_);rintro O Rr v5 Rg r he hb ⟨qvp,rvp,rfl,RK,Sf⟩;replace hw:=hw.tr hb;replace Qp:=Qp.cG (iv':=(Rr.heap.size,Rg.heap.size)::Oe) r hS he fun x hx=>List.mem_cons_of_mem _ hx;replace hG:=hG.cG (iv':=(Rr.heap.size,Rg.heap.size)::Oe) r hS he fun x hx=>List.mem_cons_of_mem _ hx;have hP:=RK.dE (S:=FF) r.cF (iv:=(Rr.heap.size,Rg.heap.size)::Oe) aG;have hPr:=Sf.old r.cF;generalize (Rr.heap.size,Rg.heap.size)::Oe=Pp at*
   obtain⟨s5_0a,s5_0b,s5_0c,rfl⟩:=hP.shape;obtain⟨s5_1a,s5_1b,s5_1c,rfl⟩:=hPr.shape;refine cD (cO (Φ:=fun _ w' v w2=>∃q r,v= .tuple #[q,r]∧dx w2 (Nf w' w2) q ((-y).natAbs / Nat.gcd (-x).natAbs (-y).natAbs)∧dx w2 (Nw (Cv S w.heap.size Pp) w' w2) r ((-y).natAbs % Nat.gcd (-x).natAbs (-y).natAbs)) (fun O w' r=>pq (Rel.old r hS) (Qp.rel r hS) (hG.rel r hS) Sj (by omega)) ?_);rintro O SI v6 SO r he hb ⟨qvq,rvq,rfl,RK,Sf⟩;replace hw:=hw.tr hb;replace hP:=hP.cG (iv':=(SI.heap.size,SO.heap.size)::Pp) r (cC w) he fun x hx=>List.mem_cons_of_mem _ hx;have hQ:=RK.dE (S:=FF) r.cF (iv:=(SI.heap.size,SO.heap.size)::Pp) aG;have hQr:=Sf.old r.cF;generalize (SI.heap.size,SO.heap.size)::Pp=Qy at*
   obtain⟨s6_0a,s6_0b,s6_0c,rfl⟩:=hQ.shape;obtain⟨s6_1a,s6_1b,s6_1c,rfl⟩:=hQr.shape;exact rtn hw fun ρe we re=>by rw[hq];exact dS.of ⟨_,by rw[g3,<-hbA],by rw[g1];exact hP.out re (cC w)⟩ ⟨_,by rw[bN (by omega)],by rw[g2];exact hQ.out re (cC w)⟩
end Go.Ex
namespace Go.Ex
open Go Go.Sx
variable{a b:Int}
def rl(q:Rat):Nat:=max (ln q.num.natAbs) (ln q.den)
theorem ff(q:Rat):ln q.num.natAbs<=rl q:=Nat.le_max_left _ _
theorem Mk(q:Rat):ln q.den<=rl q:=Nat.le_max_right _ _
theorem eo(q:Rat):ln ((q.den:Int)).natAbs<=rl q:=Nat.le_max_right _ _
theorem js(hb:b≠0):rl (Rat.divInt a b)<=max (ln a.natAbs) (ln b.natAbs):=by
 have h1:ln (Rat.divInt a b).num.natAbs<=ln a.natAbs:=by
  rw[Rat.num_divInt];refine fG (ah (Int.natAbs_ediv_le_natAbs _ _) ?_);rw[Int.natAbs_mul,Int.natAbs_sign_of_ne_zero hb,Nat.one_mul];exact aF _
 have h2:ln (Rat.divInt a b).den<=ln b.natAbs:=by
  rw[Rat.den_divInt,aK hb];exact Hq
 unfold rl;omega
theorem iY(x y:Int):ln (x+y).natAbs<=max (ln x.natAbs) (ln y.natAbs)+1:=by
 have h1:=Mc x.natAbs y.natAbs;have h2:=fG (show (x+y).natAbs<=x.natAbs+y.natAbs by omega);omega
theorem gE(q:Rat):(q.den:Int)≠0:=by have:=q.den_pos;omega
theorem tF(f g:Rat):f+g=Rat.divInt (f.num*g.den+g.num*f.den) (f.den*g.den):=by
 rw[<-Rat.divInt_add_divInt _ _ (gE f) (gE g),Rat.num_divInt_den,Rat.num_divInt_den]
theorem xd(f g:Rat):f*g=Rat.divInt (f.num*g.num) (f.den*g.den):=by
 rw[<-Rat.divInt_mul_divInt,Rat.num_divInt_den,Rat.num_divInt_den]
theorem CQ(f g:Rat):f / g=Rat.divInt (f.num*g.den) (f.den*g.num):=by
 rw[<-Rat.divInt_mul_divInt,Rat.num_divInt_den,<-Rat.inv_def,<-bj]
theorem jv(ha:a≠0)(hb:b≠0):a*b≠0:=Int.mul_ne_zero ha hb
theorem pE(f g:Rat):rl (f+g)<=rl f+rl g+1:=by
 have h:=js (a:=f.num*g.den+g.num*f.den) (jv (gE f) (gE g));rw[<-tF]at h;have h1:=iY (f.num*g.den) (g.num*f.den);have h2:=cw f.num g.den;have h3:=cw g.num f.den;have h4:=cw f.den g.den;have:=ff f;have:=ff g;have:=eo f;have:=eo g;omega
theorem j9(f g:Rat):rl (f*g)<=rl f+rl g:=by
 have h:=js (a:=f.num*g.num) (jv (gE f) (gE g));rw[<-xd]at h;have h2:=cw f.num g.num;have h4:=cw f.den g.den;have:=ff f;have:=ff g;have:=eo f;have:=eo g;omega
theorem Jg(f:Rat){g:Rat}(hg:g≠0):rl (f / g)<=rl f+rl g:=by
 have h:=js (a:=f.num*g.den) (jv (gE f) (fun e=>hg (Rat.num_eq_zero.1 e)));rw[<-CQ]at h;have h2:=cw f.num g.den;have h4:=cw f.den g.num;have:=ff f;have:=ff g;have:=eo f;have:=eo g;omega
theorem rh(f:Rat):rl (-f)=rl f:=by unfold rl;rw[Rat.neg_num,Rat.neg_den,cB]
theorem yw(f g:Rat):rl (f-g)<=rl f+rl g+1:=by
 rw[Rat.sub_eq_add_neg];have:=pE f (-g);rw[rh]at this;exact this
def rs(q:Rat):Int:=q.num.sign
theorem tG(hb:0<b):(Rat.divInt a b).num.sign=a.sign:=by
 by_cases ha:a=0
 ·subst ha;rw[ye];rfl
 ·obtain⟨h1,-,h3⟩:=yd hb ha;have h3:=decide_eq_decide.1 h3;have h0:(Rat.divInt a b).num≠0:=fun e=>by
   have h4:=Nat.div_pos (Nat.le_of_dvd (by omega) (Nat.gcd_dvd_left a.natAbs b.natAbs)) (bm a.natAbs (n:=b.natAbs) (by omega));omega
  rcases Int.lt_or_gt_of_ne ha with h|h
  ·rw[bf h,bf (h3.2 h)]
  ·rw[bl h,bl (by omega)]
theorem Lc(f g:Rat):(f.num*g.den-g.num*f.den).sign=rs (f-g):=by
 rw[rs,Rat.sub_eq_add_neg,tF,tG (Int.mul_pos (by have:=f.den_pos;omega) (by rw[Rat.neg_den];have:=g.den_pos;omega)),Rat.neg_num,Rat.neg_den,Int.neg_mul,<-Int.sub_eq_add_neg]
def ratio(a b:Int):Rat:=if b=0 then Rat.divInt a 1 else Rat.divInt a b
theorem iE(a b:Int):rl (ratio a b)<=max (ln a.natAbs) (max 1 (ln b.natAbs)):=by
 unfold ratio;split
 ·have:=js (a:=a) (b:=1) (by decide);have h1:ln (1:Int).natAbs=1:=by decide
  rw[h1]at this;omega
 ·rename_i h;have:=js (a:=a) h;omega
end Go.Ex
namespace Go.Ex
open Go Go.Sx Go.Proofs
variable{b b2:Bool}{x y:Int}{xs:List Value}{n sz:Nat}{S S':Nat->Prop}{f g q:Rat}{dv nv u v:Value}{w w2:World}
def iG(w:World)(S:Nat->Prop)(v:Value)(a b:Int):Prop:=∃b1 l1 b2 l2,v= .agg #[.bool b1,l1,.bool b2,l2]∧j5 w S (.agg #[.bool b1,l1]) a∧j5 w S (.agg #[.bool b2,l2]) b
theorem iG.cI{a b:Int}(h:iG w S v a b)(hk:∀g,S g->w2.heap[g]? =w.heap[g]?):iG w2 S v a b:=by
 obtain⟨b1,l1,b2,l2,h1,h2,h3⟩:=h;exact⟨b1,l1,b2,l2,h1,h2.cI hk,h3.cI hk⟩
theorem iG.cJ{a b:Int}(h:iG w S v a b)(hk:∀g,S g->S' g):iG w S' v a b:=by
 obtain⟨b1,l1,b2,l2,h1,h2,h3⟩:=h;exact⟨b1,l1,b2,l2,h1,h2.cJ hk,h3.cJ hk⟩
theorem iG.shape(h:iG w S v x y):∃b a n c b2 a2 n2 c2,v= .agg #[.bool b,.slice a n c,.bool b2,.slice a2 n2 c2]:=by
 obtain⟨b1,l1,b2,l2,h1,h2,h3⟩:=h;obtain⟨_,a,n,c,h4⟩:=h2.shape;obtain⟨_,a2,n2,c2,h5⟩:=h3.shape;simp at h4 h5;obtain⟨rfl,rfl⟩:=h4;obtain⟨rfl,rfl⟩:=h5;exact⟨_,a,n,c,_,a2,n2,c2,h1⟩
theorem iG.num(h:iG w S (.agg #[.bool b,nv,.bool b2,dv]) x y):j5 w S (.agg #[.bool b,nv]) x:=by
 obtain⟨b1,l1,b2,l2,h1,h2,h3⟩:=h;simp at h1;obtain⟨rfl,rfl,rfl,rfl⟩:=h1;exact h2
theorem iG.den(h:iG w S (.agg #[.bool b,nv,.bool b2,dv]) x y):j5 w S (.agg #[.bool b2,dv]) y:=by
 obtain⟨b1,l1,b2,l2,h1,h2,h3⟩:=h;simp at h1;obtain⟨rfl,rfl,rfl,rfl⟩:=h1;exact h3
section
variable{S S':Nat->Prop}{H:Hp}{nx:Nat}{iv iv':Iv}{B:Nat}{w w' w2:World}{O:Nat->Sx.dg}{v:Value}{x y:Int}
theorem iG.rel(h:iG w (Cv S B iv) v x y)(r:Rel H nx iv B w O w')(hS:∀g,S g->g<B):iG w' (Cv S B iv) v x y:=h.cI fun _ hg=>Rel.same r hS hg
theorem iG.cG(h:iG w (Cv S B iv) v x y)(r:Rel H nx iv B w O w')(hS:∀g,S g->g<B)(he:Ext w' w2)(hm:∀p,p∈iv->p∈iv'):iG w2 (Cv S B iv') v x y:=
 ((h.rel r hS).cI fun g hg=>he.block g (Rel.old r hS g hg)).cJ fun _ hg=>hg.mono hm
end
def cS(w:World)(S:Nat->Prop)(v:Value)(q:Rat):Prop:=∃b1 l1 b2 l2,v= .agg #[.bool b1,l1,.bool b2,l2]∧dJ w S (.agg #[.bool b1,l1]) q.num∧dJ w S (.agg #[.bool b2,l2]) q.den
theorem cS.cI(h:cS w S v q)(hk:∀g,S g->w2.heap[g]? =w.heap[g]?):cS w2 S v q:=by
 obtain⟨b1,l1,b2,l2,h1,h2,h3⟩:=h;exact⟨b1,l1,b2,l2,h1,h2.cI hk,h3.cI hk⟩
theorem cS.cJ(h:cS w S v q)(hk:∀g,S g->S' g):cS w S' v q:=by
 obtain⟨b1,l1,b2,l2,h1,h2,h3⟩:=h;exact⟨b1,l1,b2,l2,h1,h2.cJ hk,h3.cJ hk⟩
theorem cS.r(h:cS w S v q):iG w S v q.num q.den:=by
 obtain⟨b1,l1,b2,l2,h1,h2,h3⟩:=h;exact⟨b1,l1,b2,l2,h1,h2.r,h3.r⟩
theorem cS.shape(h:cS w S v q):∃b a n c b2 a2 n2 c2,v= .agg #[.bool b,.slice a n c,.bool b2,.slice a2 n2 c2]:=h.r.shape
theorem cS.num(h:cS w S (.agg #[.bool b,nv,.bool b2,dv]) q):dJ w S (.agg #[.bool b,nv]) q.num:=by
 obtain⟨b1,l1,b2,l2,h1,h2,h3⟩:=h;simp at h1;obtain⟨rfl,rfl,rfl,rfl⟩:=h1;exact h2
theorem cS.den(h:cS w S (.agg #[.bool b,nv,.bool b2,dv]) q):dJ w S (.agg #[.bool b2,dv]) q.den:=by
 obtain⟨b1,l1,b2,l2,h1,h2,h3⟩:=h;simp at h1;obtain⟨rfl,rfl,rfl,rfl⟩:=h1;exact h3
theorem cS.of(h:dJ w S (.agg #[.bool b,nv]) q.num)(k:dJ w S (.agg #[.bool b2,dv]) q.den):cS w S (.agg #[.bool b,nv,.bool b2,dv]) q:=⟨_,_,_,_,rfl,h,k⟩
section
variable{S S':Nat->Prop}{H:Hp}{nx:Nat}{iv iv':Iv}{B:Nat}{w w' w2:World}{O:Nat->Sx.dg}{v:Value}{q:Rat}
theorem cS.rel(h:cS w (Cv S B iv) v q)(r:Rel H nx iv B w O w')(hS:∀g,S g->g<B):cS w' (Cv S B iv) v q:=h.cI fun _ hg=>Rel.same r hS hg
theorem cS.cG(h:cS w (Cv S B iv) v q)(r:Rel H nx iv B w O w')(hS:∀g,S g->g<B)(he:Ext w' w2)(hm:∀p,p∈iv->p∈iv'):cS w2 (Cv S B iv') v q:=
 ((h.rel r hS).cI fun g hg=>he.block g (Rel.old r hS g hg)).cJ fun _ hg=>hg.mono hm
theorem cS.dE(h:cS w2 (Nf w' w2) v q)(hB:B<=w'.heap.size)(hm:(w'.heap.size,w2.heap.size)∈iv):cS w2 (Cv S B iv) v q:=h.cJ fun _ hg=>hg.dE hB hm
theorem cS.out{w0 w1:World}(h:cS w1 (Cv S w0.heap.size iv) v q)(r:Rel H nx iv w0.heap.size w1 O w')(hS:Old S w0):cS w' (Nw S w0 w') v q:=
 (h.rel r hS).cJ fun _ hg=>Cv.nw hg r
end
theorem MA(hS:Old S w)(hf:dS w S v f):
  eD PG N.kW #[v] w (eG w fun v' _w2=>v'= .int .i64 (rs f)):=by
 have hw:=bR w;replace hf:=hf.cJ (S':=Cv S w.heap.size []) fun _ h=>.inl h;obtain⟨b1,a1,n1,c1,b2,a2,n2,c2,rfl⟩:=hf.shape;have Tl:=hf.num;have QI:=hf.den;refine nu (by simp) ?_;refine cD (cE hw (fun _ w' v w2=>v= .int .i64 (rs f)) (fun O w' r=>zw (Tl.rel r hS)) ?_);rintro O _ _ _ OM r he hw h_ rfl;exact rtn hw fun ρe we re=>rfl
theorem Kj(hS:Old S w)(hf:dS w S v f):
  eD PG N.kL #[v] w (eG w fun v' w2=>dS w2 (Nw S w w2) v' (-f)):=by
 have hw:=bR w;replace hf:=hf.cJ (S':=Cv S w.heap.size []) fun _ h=>.inl h;obtain⟨b1,a1,n1,c1,b2,a2,n2,c2,rfl⟩:=hf.shape;have Tl:=hf.num;have QI:=hf.den;refine nE (by simp) ?_;refine cN hτ dm [.x 0,.x 1,.x 3,.x 4,.x 2,.x 5,.x 6] (by kernel_rfl) (by kernel_rfl) ?_;refine cO (Φ:=fun _ w' v w2=>eM w2 (Nw (Cv S w.heap.size []) w' w2) v (-f.num)) (fun O w' r=>oI (Rel.old r hS) (Tl.rel r hS)) ?_;rintro O Pq v1 Pa r he hb hn;replace hw:=hw.tr hb;replace QI:=QI.cG (iv':=(Pq.heap.size,Pa.heap.size)::[]) r hS he fun x hx=>List.mem_cons_of_mem _ hx;have hM:=hn.old r.cF;generalize (Pq.heap.size,Pa.heap.size)::[]=OM at*
 obtain⟨A0,A1,A2,A3,rfl⟩:=hM.shape;exact rtn hw fun ρe we re=>dS.of (by rw[Rat.neg_num];exact hM.out re hS) (by rw[Rat.neg_den];exact QI.out re hS)
theorem Kk(hS:Old S w)(hf:dS w S v f)(hg:dS w S u g)(hlf:rl f<=10000000000)(hlg:rl g<=10000000000):
  eD PG N.kK #[v,u] w (eG w fun v' w2=>dS w2 (Nf w w2) v' (f*g)):=by
 have hw:=bR w;have l1:=ff f;have l2:=eo f;have l3:=ff g;have l4:=eo g;have m0:=cw f.num g.num;have m1:=cw f.den g.den;replace hf:=hf.cJ (S':=Cv S w.heap.size []) fun _ h=>.inl h;replace hg:=hg.cJ (S':=Cv S w.heap.size []) fun _ h=>.inl h;obtain⟨b1,a1,n1,c1,b2,a2,n2,c2,rfl⟩:=hf.shape;obtain⟨b3,a3,n3,c3,b4,a4,n4,c4,rfl⟩:=hg.shape;have Tl:=hf.num;have QI:=hf.den;have SQ:=hg.num;have RD:=hg.den;refine nD (by simp) ?_;refine cN hτ dm [.x 0,.x 1,.x 2,.x 3,.x 5,.x 6,.x 7,.x 8,.x 4,.x 9,.x 10,.x 11] (by kernel_rfl) (by kernel_rfl) ?_;refine cE hw (fun _ w' v w2=>eM w2 (Nf w' w2) v (f.num*g.num)) (fun O w' r=>iC (Rel.old r hS) (Tl.rel r hS) (SQ.rel r hS) (by omega) (by omega)) ?_;rintro O _ _ _ OM r he hw h_ hn;replace QI:=QI.cG r hS he (mC h_);replace RD:=RD.cG r hS he (mC h_);have hA:=hn.dE (S:=FF) r.cF (mN h_);obtain⟨A0,A1,A2,A3,rfl⟩:=hA.shape;refine cE hw (fun _ w' v w2=>eM w2 (Nf w' w2) v ((f.den:Int)*(g.den:Int))) (fun O w' r=>iC (Rel.old r hS) (QI.rel r hS) (RD.rel r hS) (by omega) (by omega)) ?_;rintro O _ _ _ OK r he hw h_ hn;replace hA:=hA.cG r (cC w) he (mC h_);have hB:=hn.dE (S:=FF) r.cF (mN h_);obtain⟨C0,C1,C2,C3,rfl⟩:=hB.shape;refine cE hw (fun _ w' v w2=>dS w2 (Nf w' w2) v (f*g)) (fun O w' r=>(xd f g)▸vQ (Rel.old r (cC w)) (hA.rel r (cC w)) (hB.rel r (cC w)) (jv (gE f) (gE g)) (by omega) (by omega)) ?_;rintro O _ _ _ OS r he hw h_ hn;have hC:=hn.dE (S:=FF) r.cF (mN h_);obtain⟨E0,E1,E2,E3,E4,E5,E6,E7,rfl⟩:=hC.shape;exact rtn hw fun ρe we re=>hC.out re (cC w)
theorem Nt(hS:Old S w)(hf:dS w S v f)(hg:dS w S u g)(hlf:rl f<=10000000000)(hlg:rl g<=10000000000)(Sj:g≠0):
  eD PG N.mB #[v,u] w (eG w fun v' w2=>dS w2 (Nf w w2) v' (f / g)):=by
 have hw:=bR w;have l1:=ff f;have l2:=eo f;have l3:=ff g;have l4:=eo g;have m0:=cw f.num g.den;have m1:=cw f.den g.num;replace hf:=hf.cJ (S':=Cv S w.heap.size []) fun _ h=>.inl h;replace hg:=hg.cJ (S':=Cv S w.heap.size []) fun _ h=>.inl h;obtain⟨b1,a1,n1,c1,b2,a2,n2,c2,rfl⟩:=hf.shape;obtain⟨b3,a3,n3,c3,b4,a4,n4,c4,rfl⟩:=hg.shape;have Tl:=hf.num;have QI:=hf.den;have SQ:=hg.num;have RD:=hg.den;refine pe (by simp) ?_;refine cN hτ dm [.x 0,.x 1,.x 2,.x 3,.x 5,.x 6,.x 7,.x 8,.x 4,.x 9,.x 10,.x 11] (by kernel_rfl) (by kernel_rfl) ?_;refine cE hw (fun _ w' v w2=>eM w2 (Nf w' w2) v (f.num*(g.den:Int))) (fun O w' r=>iC (Rel.old r hS) (Tl.rel r hS) (RD.rel r hS) (by omega) (by omega)) ?_;rintro O _ _ _ OM r he hw h_ hn;replace QI:=QI.cG r hS he (mC h_);replace SQ:=SQ.cG r hS he (mC h_);have hA:=hn.dE (S:=FF) r.cF (mN h_);obtain⟨A0,A1,A2,A3,rfl⟩:=hA.shape;refine cE hw (fun _ w' v w2=>eM w2 (Nf w' w2) v ((f.den:Int)*g.num)) (fun O w' r=>iC (Rel.old r hS) (QI.rel r hS) (SQ.rel r hS) (by omega) (by omega)) ?_;rintro O _ _ _ OK r he hw h_ hn;replace hA:=hA.cG r (cC w) he (mC h_);have hB:=hn.dE (S:=FF) r.cF (mN h_);obtain⟨C0,C1,C2,C3,rfl⟩:=hB.shape;refine cE hw (fun _ w' v w2=>dS w2 (Nf w' w2) v (f / g)) (fun O w' r=>(CQ f g)▸vQ (Rel.old r (cC w)) (hA.rel r (cC w)) (hB.rel r (cC w)) (jv (gE f) (fun e=>Sj (Rat.num_eq_zero.1 e))) (by omega) (by omega)) ?_;rintro O _ _ _ OS r he hw h_ hn;have hC:=hn.dE (S:=FF) r.cF (mN h_);obtain⟨E0,E1,E2,E3,E4,E5,E6,E7,rfl⟩:=hC.shape;exact rtn hw fun ρe we re=>hC.out re (cC w)
theorem HW(hS:Old S w)(hf:dS w S v f)(hg:dS w S u g)(hlf:rl f<=10000000000)(hlg:rl g<=10000000000):
  eD PG N.kU #[v,u] w (eG w fun v' w2=>dS w2 (Nf w w2) v' (f+g)):=by
 have hw:=bR w;have l1:=ff f;have l2:=eo f;have l3:=ff g;have l4:=eo g;have m0:=cw f.num g.den;have m1:=cw g.num f.den;have m2:=cw f.den g.den;have m4:=iY (f.num*g.den) (g.num*f.den);replace hf:=hf.cJ (S':=Cv S w.heap.size []) fun _ h=>.inl h;replace hg:=hg.cJ (S':=Cv S w.heap.size []) fun _ h=>.inl h;obtain⟨b1,a1,n1,c1,b2,a2,n2,c2,rfl⟩:=hf.shape;obtain⟨b3,a3,n3,c3,b4,a4,n4,c4,rfl⟩:=hg.shape;have Tl:=hf.num;have QI:=hf.den;have SQ:=hg.num;have RD:=hg.den;refine ns (by simp) ?_;refine cN hτ dm [.x 0,.x 1,.x 2,.x 3,.x 5,.x 6,.x 7,.x 8,.x 11,.x 12,.x 13,.x 14,.x 4,.x 9,.x 10,.x 15,.x 16,.x 17] (by kernel_rfl) (by kernel_rfl) ?_;refine cE hw (fun _ w' v w2=>eM w2 (Nf w' w2) v (f.num*(g.den:Int))) (fun O w' r=>iC (Rel.old r hS) (Tl.rel r hS) (RD.rel r hS) (by omega) (by omega)) ?_;rintro O _ _ _ OM r he hw h_ hn;replace QI:=QI.cG r hS he (mC h_);replace SQ:=SQ.cG r hS he (mC h_);replace RD:=RD.cG r hS he (mC h_);have hA:=hn.dE (S:=FF) r.cF (mN h_);obtain⟨A0,A1,A2,A3,rfl⟩:=hA.shape;refine cE hw (fun _ w' v w2=>eM w2 (Nf w' w2) v (g.num*(f.den:Int))) (fun O w' r=>iC (Rel.old r hS) (SQ.rel r hS) (QI.rel r hS) (by omega) (by omega)) ?_;rintro O _ _ _ OK r he hw h_ hn;replace QI:=QI.cG r hS he (mC h_);replace RD:=RD.cG r hS he (mC h_);replace hA:=hA.cG r (cC w) he (mC h_);have hB:=hn.dE (S:=FF) r.cF (mN h_);obtain⟨C0,C1,C2,C3,rfl⟩:=hB.shape;refine cE hw (fun _ w' v w2=>eM w2 (Nf w' w2) v (f.num*(g.den:Int)+g.num*(f.den:Int))) (fun O w' r=>Bh (Rel.old r (cC w)) (hA.rel r (cC w)) (hB.rel r (cC w)) (by omega) (by omega)) ?_;rintro O _ _ _ OS r he hw h_ hn;replace QI:=QI.cG r hS he (mC h_);replace RD:=RD.cG r hS he (mC h_);have hD:=hn.dE (S:=FF) r.cF (mN h_);obtain⟨E0,E1,E2,E3,rfl⟩:=hD.shape;refine cE hw (fun _ w' v w2=>eM w2 (Nf w' w2) v ((f.den:Int)*(g.den:Int))) (fun O w' r=>iC (Rel.old r hS) (QI.rel r hS) (RD.rel r hS) (by omega) (by omega)) ?_;rintro O _ _ _ Oe r he hw h_ hn;replace hD:=hD.cG r (cC w) he (mC h_);have hE:=hn.dE (S:=FF) r.cF (mN h_);obtain⟨F0,F1,F2,F3,rfl⟩:=hE.shape;refine cE hw (fun _ w' v w2=>dS w2 (Nf w' w2) v (f+g)) (fun O w' r=>(tF f g)▸vQ (Rel.old r (cC w)) (hD.rel r (cC w)) (hE.rel r (cC w)) (jv (gE f) (gE g)) (by omega) (by omega)) ?_;rintro O _ _ _ Pp r he hw h_ hn;have hC:=hn.dE (S:=FF) r.cF (mN h_);obtain⟨G0,G1,G2,G3,G4,G5,G6,G7,rfl⟩:=hC.shape;exact rtn hw fun ρe we re=>hC.out re (cC w)
theorem qY(hS:Old S w)(hf:dS w S v f)(hlf:rl f<=100000000000):
  eD PG N.kV #[v] w (eG w fun v' w2=>cS w2 (Nf w w2) v' f):=by
 have hw:=bR w;have l1:=ff f;have l2:=eo f;replace hf:=hf.cJ (S':=Cv S w.heap.size []) fun _ h=>.inl h;obtain⟨b1,a1,n1,c1,b2,a2,n2,c2,rfl⟩:=hf.shape;have Tl:=hf.num;have QI:=hf.den;refine nt (by simp) ?_;refine cN hτ dm [.x 0,.x 1,.x 3,.x 4,.x 2,.x 5,.x 6,.x 7] (by kernel_rfl) (by kernel_rfl) ?_;refine cE hw (fun _ w' v w2=>dJ w2 (Nf w' w2) v f.num) (fun O w' r=>KL (Rel.old r hS) (Tl.rel r hS) (by omega)) ?_;rintro O _ _ _ OM r he hw h_ hn;replace QI:=QI.cG r hS he (mC h_);have hA:=hn.dE (S:=FF) r.cF (mN h_);obtain⟨A0,A1,A2,A3,rfl⟩:=hA.shape;refine cE hw (fun _ w' v w2=>dJ w2 (Nf w' w2) v (f.den:Int)) (fun O w' r=>KL (Rel.old r hS) (QI.rel r hS) (by omega)) ?_;rintro O _ _ _ OK r he hw h_ hn;replace hA:=hA.cG r (cC w) he (mC h_);have hB:=hn.dE (S:=FF) r.cF (mN h_);obtain⟨C0,C1,C2,C3,rfl⟩:=hB.shape;exact rtn hw fun ρe we re=>cS.of (hA.out re (cC w)) (hB.out re (cC w))
theorem MB(n:Int)(w:World)(h1: -9223372036854775808<=n)(h2:n<=9223372036854775807):
  eD PG N.wU #[.int .i64 n] w (eG w fun v' w2=>dS w2 (Nf w w2) v' (n:Rat)):=by
 have hw:=bR w;refine zj (by simp) ?_;refine cD (cE hw (fun _ w' v w2=>eM w2 (Nf w' w2) v n) (fun O w' r=>oL n w' h1 h2) ?_);rintro O _ _ _ OM r he hw h_ hn;have hA:=hn.dE (S:=FF) r.cF (mN h_);obtain⟨A0,A1,A2,A3,rfl⟩:=hA.shape;refine cD (cE hw (fun _ w' v w2=>eM w2 (Nf w' w2) v 1) (fun O w' r=>oL 1 w' (by decide) (by decide)) ?_);rintro O _ _ _ OK r he hw h_ hn;replace hA:=hA.cG r (cC w) he (mC h_);have hB:=hn.dE (S:=FF) r.cF (mN h_);obtain⟨C0,C1,C2,C3,rfl⟩:=hB.shape;exact rtn hw fun ρe we re=>dS.of (by rw[Rat.num_intCast];exact hA.out re (cC w)) (by rw[Rat.den_intCast];exact hB.out re (cC w))
theorem kF(hS:Old S w)(hx:iG w S v x y)(Of:ln x.natAbs<=100000000000)(QY:ln y.natAbs<=100000000000):
  eD PG N.wS #[v] w (eG w fun v' w2=>dS w2 (Nf w w2) v' (ratio x y)):=by
 have hw:=bR w;replace hx:=hx.cJ (S':=Cv S w.heap.size []) fun _ h=>.inl h;obtain⟨b1,a1,n1,c1,b2,a2,n2,c2,rfl⟩:=hx.shape;have hn:=hx.num;have hd:=hx.den;have RN:=hn;have Ty:=hd;refine zh (by simp) ?_;refine cD (cO (Φ:=fun _ w' v w2=>eM w2 (Nw (Cv S w.heap.size []) w' w2) v y) (fun O w' r=>KZ (Rel.old r hS) (Ty.rel r hS)) ?_);rintro O Pq v1 Pa r he hb hn;replace hw:=hw.tr hb;replace RN:=RN.cG (iv':=(Pq.heap.size,Pa.heap.size)::[]) r hS he fun x hx=>List.mem_cons_of_mem _ hx;have hD:=hn.old r.cF;generalize (Pq.heap.size,Pa.heap.size)::[]=OM at*
 obtain⟨A0,A1,A2,A3,rfl⟩:=hD.shape;refine cD (cE hw (fun _ w' v w2=>v= .int .i64 y.sign) (fun O w' r=>zw (hD.rel r hS)) ?_);rintro O _ _ _ OK r he hw h_ rfl;replace RN:=RN.cG r hS he (mC h_);replace hD:=hD.cG r hS he (mC h_);refine dN.mk ?_ ?_<;>intro h
 ·have h:y=0:=Int.sign_eq_zero_iff_zero.1 (eq_of_beq h);have e0:ratio x y=Rat.divInt x 1:=if_pos h;refine cD (cE hw (fun _ w' v w2=>eM w2 (Nf w' w2) v 1) (fun O w' r=>oL 1 w' (by decide) (by decide)) ?_);rintro O PQ v3 PN OS r he hw h_ hn;replace RN:=RN.cG r hS he (mC h_);have hO:=hn.dE (S:=FF) r.cF (mN h_);obtain⟨C0,C1,C2,C3,rfl⟩:=hO.shape;have l1:ln (1:Int).natAbs=1:=by decide
  refine cN hτ dm [.x 0,.x 1,.x 3,.x 2,.x 4,.x 5] (by kernel_rfl) (by kernel_rfl) ?_;refine cO (Φ:=fun _ w' v w2=>eM w2 (Nw (Cv S w.heap.size OS) w' w2) v x) (fun O w' r=>KZ (Rel.old r hS) (RN.rel r hS)) ?_;rintro O RE v4 Qr r he hb hn;replace hw:=hw.tr hb;replace hO:=hO.cG (iv':=(RE.heap.size,Qr.heap.size)::OS) r (cC w) he fun x hx=>List.mem_cons_of_mem _ hx;have hN:=hn.old r.cF;generalize (RE.heap.size,Qr.heap.size)::OS=Oe at*
  obtain⟨E0,E1,E2,E3,rfl⟩:=hN.shape;refine cE hw (fun _ w' v w2=>dS w2 (Nf w' w2) v (ratio x y)) (fun O w' r=>e0.symm▸vQ (Rel.old r hS) (hN.rel r hS) ((hO.rel r (cC w)).cJ fun g hg=>hg.elim (fun k=>k.elim) .inr) (by decide) (by omega) (by omega)) ?_;rintro O _ _ _ Pp r he hw h_ hn;have hC:=hn.dE (S:=FF) r.cF (mN h_);obtain⟨F0,F1,F2,F3,F4,F5,F6,F7,rfl⟩:=hC.shape;exact rtn hw fun ρe we re=>hC.out re (cC w)
 ·have h:y≠0:=fun e=>by rw[e]at h;exact absurd h (by decide)
  have e0:ratio x y=Rat.divInt x y:=aK h;refine cN hτ dm [.x 0,.x 1,.x 3,.x 2,.x 4,.x 5] (by kernel_rfl) (by kernel_rfl) ?_;refine cO (Φ:=fun _ w' v w2=>eM w2 (Nw (Cv S w.heap.size OK) w' w2) v x) (fun O w' r=>KZ (Rel.old r hS) (RN.rel r hS)) ?_;rintro O PQ v3 PN r he hb hn;replace hw:=hw.tr hb;replace hD:=hD.cG (iv':=(PQ.heap.size,PN.heap.size)::OK) r hS he fun x hx=>List.mem_cons_of_mem _ hx;have hN:=hn.old r.cF;generalize (PQ.heap.size,PN.heap.size)::OK=OS at*
  obtain⟨C0,C1,C2,C3,rfl⟩:=hN.shape;refine cE hw (fun _ w' v w2=>dS w2 (Nf w' w2) v (ratio x y)) (fun O w' r=>e0.symm▸vQ (Rel.old r hS) (hN.rel r hS) (hD.rel r hS) h (by omega) (by omega)) ?_;rintro O _ _ _ Oe r he hw h_ hn;have hC:=hn.dE (S:=FF) r.cF (mN h_);obtain⟨E0,E1,E2,E3,E4,E5,E6,E7,rfl⟩:=hC.shape;exact rtn hw fun ρe we re=>hC.out re (cC w)
def mP(v:Value):Iv:=match v.ownBlock with
 |some g=>[(g,g+1)]
 |none=>[]
theorem qX{lo hi:Nat}:(lo,hi)∈mP v↔v.ownBlock=some lo∧hi=lo+1:=by
 unfold mP
 cases h:v.ownBlock with
 |none=>simp
 |some g=>simp;omega
def GS(iv:Iv)(v:Value):Prop:=∀b,v.ownBlock=some b->∃lo hi,(lo,hi)∈iv∧lo<=b∧b<hi
section
variable{S:Nat->Prop}{H:Hp}{nx:Nat}{iv iv':Iv}{B e sz m:Nat}{w w' w2:World}{O:Nat->Sx.dg}{v v':Value}{xs:List Value}
theorem GS.not(h:GS iv v)(r:Rel H nx iv B w O w'){b:Nat}(hb:v.ownBlock=some b):∀id c,dB H id=some c->(O id).nil=false->(O id).g≠b:=fun id c hc hn he=>by
 obtain⟨lo,hi,h1,h2,h3⟩:=h b hb;exact r.jo lo hi h1 id c hc hn (by omega)
theorem jM(h:w.ownsRow B e sz v m xs)(hc:GS iv v)(r:Rel H nx iv B w O w'):w'.ownsRow B e sz v m xs:=
 ownsRow.cI h fun b hb=>r.uP b (ownsRow.low h b hb).2 fun id c hc' hn he=>hc.not r hb id c hc' hn he
theorem GS.row(v:Value):GS (mP v) v:=fun b hb=>⟨b,b+1,qX.2 ⟨hb,rfl⟩,by omega,by omega⟩
theorem GS.mono(h:GS iv v)(k:∀p,p∈iv->p∈iv'):GS iv' v:=fun b hb=>by
 obtain⟨lo,hi,h1,h2⟩:=h b hb;exact⟨lo,hi,k _ h1,h2⟩
theorem jc(h:w.ownsRow B e sz v m xs):∃a c,v= .slice a m c∧m<=c:=by
 rcases h.2 with⟨rfl,rfl⟩|⟨g,cap,cur,rfl,_,_,h1,_⟩
 ·exact⟨none,0,rfl,aF _⟩
 ·exact⟨_,cap,rfl,h1⟩
end
structure iB(w:World)(S:Nat->Prop)(sz:Nat)(v:Value)(xs:List Value)(n:Nat):Prop where
 le:n<=maxLen
 len:xs.length=n*sz
 one:∀u∈xs,u.oneCell'=true
 sl:∃a c,v= .slice a n c∧n<=c∧∀(j:Nat) u,xs[j]? =some u->∃ad,a=some ad∧S ad.block∧w.cell? (ad.add j)=some u
theorem iB.cI(h:iB w S sz v xs n)(hk:∀g,S g->w2.heap[g]? =w.heap[g]?):iB w2 S sz v xs n:=by
 obtain⟨h0,h1,h2,a,c,h3,h4,h5⟩:=h;refine⟨h0,h1,h2,a,c,h3,h4,fun j u hu=>?_⟩;obtain⟨ad,k1,k2,k3⟩:=h5 j u hu;exact⟨ad,k1,k2,by rw[cH (hk _ (by rw[dH];exact k2))];exact k3⟩
theorem iB.cJ(h:iB w S sz v xs n)(hk:∀g,S g->S' g):iB w S' sz v xs n:=by
 obtain⟨h0,h1,h2,a,c,h3,h4,h5⟩:=h;refine⟨h0,h1,h2,a,c,h3,h4,fun j u hu=>?_⟩;obtain⟨ad,k1,k2,k3⟩:=h5 j u hu;exact⟨ad,k1,hk _ k2,k3⟩
section
variable{S S':Nat->Prop}{H:Hp}{nx:Nat}{iv iv':Iv}{B:Nat}{w w' w2:World}{O:Nat->Sx.dg}{v:Value}{sz n:Nat}{xs:List Value}
end
end Go.Ex
