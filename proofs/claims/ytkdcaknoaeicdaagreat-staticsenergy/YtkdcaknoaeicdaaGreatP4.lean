/- A part of the proof: texts X11 to X22. Each tells its conditions in its theorems. -/
import Derived.Test.YtkdcaknoaeicdaaGreatP3
namespace Go.Ex
open Go Go.Sx Go.Proofs
end Go.Ex
namespace Go.Sx
open Go Go.Ex Go.Proofs
variable{O:Nat->Sx.df}
theorem Rel.cD{H:Hp}{nx:Nat}{iv:Iv}{B:Nat}{w w':World}(r:Rel H nx iv B w O w'):B<=w'.heap.size:=by have:=r.base;have:=r.size;omega
end Go.Sx
namespace Go.Ex
open Go Go.Sx Go.Proofs
end Go.Ex
namespace Go.Sx
open Go Go.Ex Go.Proofs
variable{ls:List Nat}{O:Nat->Sx.df}
theorem Rel.tR{H:Hp}{nx:Nat}{iv:Iv}{B:Nat}{w w':World}(r:Rel H nx iv B w O w'){id t:Nat}(h:dA H id=some (.box t ((U ls).map At.v)))(hlm:Lm ls)(hle:ls.length<=9223372036854775807):
  dH w' (fun g=>g=(O id).g) (.slice (some ⟨(O id).g,0,none⟩) ls.length ls.length) ls:=by
 refine⟨hlm,hle,_,_,rfl,aG _,fun j x hx=>⟨_,rfl,rfl,?_⟩⟩;have h0:(⟨(O id).g,0,none⟩:Addr).add j=⟨(O id).g,j,none⟩:=by
  cases j with
  |zero=>rfl
  |succ j=>simp[Addr.add]
 rw[h0,cell_of (r.box id t _ h),fH];exact tP hx
end Go.Sx
namespace Go.Ex
open Go Go.Sx Go.Proofs
variable{ds r2:List Nat}{g k:Nat}{row:Option Nat}
section
variable{S:Nat->Prop}{H:Hp}{nx:Nat}{iv iv':Iv}{B:Nat}{w w' w2:World}{O:Nat->Sx.df}{v:Value}{n:Nat}{ls:List Nat}
theorem Nw.c9(h:Nf w' w2 g)(hB:B<=w'.heap.size)(hm:(w'.heap.size,w2.heap.size)∈iv):Cv S B iv g:=by
 rcases h with h|h
 ·cases h
 ·exact .inr ⟨by omega,_,_,hm,h.1,h.2⟩
theorem dh.c9(h:dh w2 (Nf w' w2) v n)(hB:B<=w'.heap.size)(hm:(w'.heap.size,w2.heap.size)∈iv):dh w2 (Cv S B iv) v n:=h.cI fun _ hg=>hg.c9 hB hm
theorem dH.c9(h:dH w2 (Nf w' w2) v ls)(hB:B<=w'.heap.size)(hm:(w'.heap.size,w2.heap.size)∈iv):dH w2 (Cv S B iv) v ls:=h.cI fun _ hg=>hg.c9 hB hm
theorem dh.rel(h:dh w (Cv S B iv) v n)(r:Rel H nx iv B w O w')(hS:∀g,S g->g<B):dh w' (Cv S B iv) v n:=h.cG fun _ hg=>Rel.same r hS hg
theorem dh.cF(h:dh w (Cv S B iv) v n)(r:Rel H nx iv B w O w')(hS:∀g,S g->g<B)(he:Ext w' w2)(hm:∀p,p∈iv->p∈iv'):dh w2 (Cv S B iv') v n:=
 ((h.rel r hS).cG fun g hg=>he.block g (Rel.old r hS g hg)).cI fun _ hg=>hg.mono hm
theorem dH.trimmed(h:dH w S v (dg ls)):dh w S v (val ls):=⟨_,h,(e8 ls).2.1,(e8 ls).1⟩
end
theorem Fx{w:World}{m c:Nat}{rs:List Nat}(hg:w.heap[g]? =some (.cells (U rs).toArray T.uint32 (0,0)))(hlm:Lm rs)(h:k+m<=rs.length)(hc:m<=c)(hl:rs.length<=1000000000000):
  dH w (fun x=>x=g) (.slice (some ⟨g,k,none⟩) m c) ((rs.drop k).take m):=by
 have hlen:((rs.drop k).take m).length=m:=by simp;omega
 refine⟨(hlm.drop k).take m,by omega,some ⟨g,k,none⟩,c,by rw[hlen],by omega,fun j x hx=>⟨_,rfl,rfl,?_⟩⟩;have hj:j<m:=by have:=(aE.1 hx).1;omega
 rw[bP hj,List.getElem?_drop]at hx;rw[dP,cell_of hg];exact tP hx
theorem Bw{c:Nat}(h:k<c):(if (c:Int)=(k:Int)then some (⟨g,0,none⟩:Addr)else(some (⟨g,0,none⟩:Addr)).map fun x=>x.add ((k:Int).toNat*1))=some ⟨g,k,none⟩:=by
 rw[aK (by omega),Option.map_some,aF,aU,dP,aV]
theorem gG{a b c:World}(h:a.grownBy b row)(k:b.grownBy c row):a.grownBy c row:=
 ⟨k.os.trans h.os,k.tape.trans h.tape,k.output.trans h.output,a9 h.size k.size,fun j hj hne=>(k.block j (by have:=h.size;omega) hne).trans (h.block j hj hne)⟩
theorem vY{a b:World}(h:cV a.heap.size a b):a.grownBy b row:=⟨h.os,h.tape,h.output,h.size,fun j hj _=>h.block j hj⟩
theorem Jo(rs:List Nat)(k m:Nat):(U rs).take k++List.replicate m (Value.int .u32 0)++(U rs).drop (k+m)=U (rs.take k++List.replicate m 0++rs.drop (k+m)):=by
 simp[U]
theorem LI(rs ds:List Nat)(k:Nat):(U rs).take k++U ds++(U rs).drop (k+(U ds).length)=U (rs.take k++ds++rs.drop (k+ds.length)):=by
 simp[U]
theorem Gl{rs:List Nat}{m:Nat}(hk:k+m<=rs.length)(hd:ds.length<=m){r1:List Nat}(h1:r1=rs.take k++List.replicate m 0++rs.drop (k+m))(h2:r2=r1.take k++ds++r1.drop (k+ds.length)):
  r2=rs.take k++(ds++List.replicate (m-ds.length) 0)++rs.drop (k+m):=by
 have hkl:(rs.take k).length=k:=by simp;omega
 have h3:r1.take k=rs.take k:=by rw[h1,bg,List.take_append_of_le_length (by omega),List.take_of_length_le (by omega)]
 have h4:r1.drop (k+ds.length)=List.replicate (m-ds.length) 0++rs.drop (k+m):=by
  rw[h1,bg,List.drop_append,hkl,List.drop_of_length_le (by omega),List.nil_append,Nat.add_sub_cancel_left,List.drop_append_of_le_length (by simpa using hd),List.drop_replicate]
 rw[h2,h3,h4];simp
theorem Gm{rs:List Nat}{m:Nat}(hk:k+m<=rs.length)(hd:ds.length<=m)(hlm:Lm rs)(hld:Lm ds)(h:r2=rs.take k++(ds++List.replicate (m-ds.length) 0)++rs.drop (k+m)):
  r2.length=rs.length∧Lm r2∧r2.take k=rs.take k∧r2.drop (k+m)=rs.drop (k+m)∧val ((r2.drop k).take m)=val ds:=by
 have hkl:(rs.take k).length=k:=by simp;omega
 have hdl:(ds++List.replicate (m-ds.length) 0).length=m:=by simp;omega
 have hd1:r2.drop k=(ds++List.replicate (m-ds.length) 0)++rs.drop (k+m):=by
  rw[h,bg,List.drop_append,hkl,List.drop_of_length_le (by omega),List.nil_append,bM,List.drop_zero]
 refine⟨by rw[h,List.length_append,List.length_append,hkl,hdl];simp;omega,?_,?_,?_,?_⟩
 ·rw[h];exact((hlm.take k).append (hld.append (Lm.replicate _))).append (hlm.drop _)
 ·rw[h,bg,List.take_append_of_le_length (by omega),List.take_of_length_le (by omega)]
 ·rw[<-List.drop_drop,hd1,List.drop_append,hdl,List.drop_of_length_le (by omega),List.nil_append,bM,List.drop_zero]
 ·rw[hd1,List.take_append_of_le_length (by omega),List.take_of_length_le (by omega),kU,mA];simp
theorem Bx{S:Nat->Prop}{w:World}{vd:Value}{D g k q:Nat}{rs:List Nat}(hS:Old S w)(hgS:¬S g)(hd:dh w S vd D)(hg:w.heap[g]? =some (.cells (U rs).toArray T.uint32 (0,0)))(hlm:Lm rs)
  (hk:k+ln D+1<=rs.length) (hl:rs.length<=1000000000000) (hq:q<4294967296):
  dm PG N.pF #[.slice (some ⟨g,0,none⟩) rs.length rs.length,vd,.int .i64 k,.int .u64 q] w (fun e w2=>
   (val ((rs.drop k).take (ln D+1))<q*D∧e= .returned (.bool false)∧cV w.heap.size w w2)∨
   (q*D<=val ((rs.drop k).take (ln D+1))∧e= .returned (.bool true)∧w.grownBy w2 (some g)∧∃rs',rs'.length=rs.length∧Lm rs'∧rs'.take k=rs.take k∧rs'.drop (k+ln D+1)=rs.drop (k+ln D+1)∧
    val ((rs'.drop k).take (ln D+1))=val ((rs.drop k).take (ln D+1))-q*D∧w2.heap[g]? =some (.cells (U rs').toArray T.uint32 (0,0)))):=by
 have hgB:=j3 hg;have hnD:=hd;obtain⟨p,rfl,hp1,hp2⟩:=hd.la;have hpl:=eE p.lm hp2;rw[hp1]at hpl;generalize hn:ln D=n at*
 have hSB:=hS;refine tO (by simp) ?_;refine⟨(q:Int),by rw[ek,bL hq],?_⟩;refine gC (Φ:=fun O _ v w2=>dH w2 (fun g=>g=(O 0).g) v (dg [q])) (H':=[]) 0 rfl (by simp) trivial rfl (fun O w' r=>r.nn 0 _ rfl (by intros;simp) (by simp)) (fun O w' r=>?_) ?_
 ·have hL:=r.tR (id:=0) (ls:=[q]) rfl (by intro x hx;simp at hx;omega) (by simp);exact fA (fun g hg=>by rw[hg];exact(r.low 0 _ rfl (r.nn 0 _ rfl (by intros;simp) (by simp))).2) hL
 rintro O w1 v1 w2 r he hw hL;have hlow:=r.low 0 _ rfl (r.nn 0 _ rfl (by intros;simp) (by simp));have hs:=he.size;generalize (O 0).g=g0 at*
 have hqN:dh w2 (Cv S w.heap.size [(g0,g0+1),(w1.heap.size,w2.heap.size)]) v1 q:=by
  have:=hL.trimmed;simp only[val,Nat.mul_zero,bw]at this;exact this.cI fun k hk=>.inr ⟨by omega,g0,g0+1,by simp,by omega,by omega⟩
 have hdN:dh w2 (Cv S w.heap.size [(g0,g0+1),(w1.heap.size,w2.heap.size)]) (.slice p.a p.ls.length p.c) D:=
  (hnD.cG fun g hg=>hw.block g (hS g hg)).cI fun _ hg=>.inl hg
 generalize [(g0,g0+1),(w1.heap.size,w2.heap.size)]=iv at*
 refine cC (cE hw (fun _ w' v w2=>dh w2 (Nf w' w2) v (q*D)) (fun O w' r=>Fy (Rel.old r hS) (hqN.rel r hS) (hdN.rel r hS) (a9 (fg.2 (show q<wt 1 from hq)) (by decide)) (by omega)) ?_);rintro O w3 v2 w4 iv r he hw h_ hm;have hmN:=hm.c9 (S:=S) r.cD (mN h_);refine⟨((k+n:Nat):Int),wo,((k+n+1:Nat):Int),wo,⟨by omega,by omega,by omega⟩,some ⟨g,k,none⟩,n+1,rs.length-k,Bw (by omega),by omega,by omega,?_⟩;have hplen:((rs.drop k).take (n+1)).length=n+1:=by simp;omega
 have hplm:Lm ((rs.drop k).take (n+1)):=(hlm.drop k).take _;generalize hpart:(rs.drop k).take (n+1)=part at*
 refine cC (cE hw (fun _ w' v w2=>dH w2 (Nf w' w2) v part) (fun O w' r=>?_) ?_)
 ·have h1:=Fx (k:=k) (m:=n+1) (c:=rs.length-k) (w:=w') (by rw[(hw.tr r.cM).block g hgB];exact hg) hlm (by omega) (by omega) hl;rw[hpart]at h1;exact Fw (fun x hx=>by rw[hx];have:=(hw.tr r.cM).size;omega) h1 (by omega)
 rintro O w5 v3 w6 iv r he hw h_ hL;have hpL:=hL.c9 (S:=S) r.cD (mN h_);replace hmN:=hmN.cF r hS he (mC h_);refine cC (cL (Φ:=fun _ w' v w2=>dH w2 (Cv S w.heap.size iv) v (dg part)) (fun O w' r=>fA (Rel.old r hS) (dH.rel hpL r hS)) ?_);rintro O w7 v4 w8 r he hb hL;replace hw:=hw.tr hb;have hpN:=hL.trimmed.cI (S':=Cv S w.heap.size ((w7.heap.size,w8.heap.size)::iv)) fun _ hg=>hg.cons;replace hmN:=hmN.cF (iv':=(w7.heap.size,w8.heap.size)::iv) r hS he fun x hx=>aC _ hx;generalize (w7.heap.size,w8.heap.size)::iv=iv at*
 refine cC (cE hw (fun _ _ v _=>v= .int .i64 (r9 (val part) (q*D))) (fun O w' r=>IU (Rel.old r hS) (hpN.rel r hS) (hmN.rel r hS)) ?_);rintro O w9 v5 w10 iv r he hw h_ rfl;replace hpN:=hpN.cF r hS he (mC h_);replace hmN:=hmN.cF r hS he (mC h_);refine dI.mk (fun h=>?_) (fun h=>?_)
 ·have h:val part<q*D:=by
   have:=aI h;unfold r9 at this;split at this
   ·assumption
   ·split at this<;>omega
  intro ρ3 w3 r3;exact .inl ⟨h,rfl,hw.tr r3.cM⟩
 have h:q*D<=val part:=by
  have:=aH h;unfold r9 at this;split at this
  ·omega
  ·omega
 have hPl:ln (val part)<=n+1:=by rw[fg,<-hplen];exact nA hplm
 refine cC (cE hw (fun _ w' v w2=>dh w2 (Nf w' w2) v (val part-q*D)) (fun O w' r=>By (Rel.old r hS) (hpN.rel r hS) (hmN.rel r hS) h (by omega)) ?_);rintro O w11 v6 w12 iv r he hw h_ hm;have hrN:=hm.c9 (S:=S) r.cD (mN h_);refine⟨((k+n:Nat):Int),wo,((k+n+1:Nat):Int),wo,⟨by omega,by omega,by omega⟩,some ⟨g,k,none⟩,n+1,rs.length-k,Bw (by omega),by omega,by omega,?_⟩;refine GQ hτ (cs:=U rs) (by rfl) (by rfl) (by rfl) (by omega) (fun O w' r=>⟨by rw[(hw.tr r.cM).block g hgB];exact hg,fun id b hb=>by cases hb⟩) (by rw[fk];omega) (fun O w13 w14 r hh hgr hsz=>?_);rw[Jo]at hh;have hgw:w.grownBy w14 (some g):=gG (vY (hw.tr r.cM)) hgr;replace hrN:dh w14 (Cv S w.heap.size iv) v6 (val part-q*D):=(hrN.rel r hS).cG fun x hx=>hgr.block x (Rel.old r hS x hx) fun e=>by
  injection e with e;subst e;rcases hx with hx|hx
  ·exact hgS hx
  ·omega
 obtain⟨rl,rfl,hr1,hr2⟩:=hrN.la;have hrl:=eE rl.lm hr2;rw[hr1]at hrl;have hrn:rl.ls.length<=n+1:=by rw[hrl];exact a9 (eu (Nat.sub_le _ _)) hPl
 generalize hr1d:rs.take k++List.replicate (n+1) 0++rs.drop (k+(n+1))=r1 at*
 refine⟨⟨by omega,by omega,by omega⟩,some ⟨g,k,none⟩,rs.length-k,rs.length-k,Bw (by omega),by omega,by omega,?_⟩;have hr1l:r1.length=rs.length:=by rw[<-hr1d];simp;omega
 have hw14:w.heap.size<=w14.heap.size:=hgw.size;refine H2 hτ (tg:=T.uint32) (cs:=U r1) (ds:=U rl.ls) (by rfl) (by rfl) (by rfl) (by rfl) (fun O w' r=>⟨?_,fun id b hb=>by cases hb⟩) (fun O w' r=>⟨rl.a,rl.c,by rw[fk];rfl,fun j u hu=>?_⟩) (by rw[fk];omega) (by rw[fk,fk];omega)
  (fun u hu=>by simp only[U,aT]at hu;obtain⟨n,_,rfl⟩:=hu;rfl) (fun O w15 w16 r hh2 hgr hsz=>?_)
 ·rw[r.pP.block g (by omega) (by simp)];exact hh
 ·simp only[U,aN,Option.map_eq_some_iff]at hu;obtain⟨m,hm,rfl⟩:=hu;obtain⟨ad,h1,h2,h3⟩:=rl.cell j m hm;exact⟨ad,h1,(cH (w:=w14) (a:=ad.add j) (by rw[dQ];exact Rel.same r hS h2)).trans h3⟩
 rw[LI]at hh2;have hgw2:w.grownBy w16 (some g):=gG (gG hgw (by have:=r.pP;exact⟨this.os,this.tape,this.output,this.size,fun j hj _=>this.block j hj (by simp)⟩)) hgr;obtain⟨o1,o2,o3,o4,o5⟩:=Gm (rs:=rs) (ds:=rl.ls) (k:=k) (m:=n+1) (by omega) hrn hlm rl.lm (Gl (by omega) hrn hr1d.symm rfl);generalize r1.take k++rl.ls++r1.drop (k+rl.ls.length)=r2 at*
 intro ρ3 w17 r3;refine .inr ⟨h,rfl,gG hgw2 (by have:=r3.pP;exact⟨this.os,this.tape,this.output,this.size,fun j hj _=>this.block j hj (by simp)⟩),r2,o1,o2,o3,o4,by rw[o5,hr1],?_⟩;rw[r3.pP.block g (by have:=hgw2.size;omega) (by simp)];exact hh2
end Go.Ex
namespace Go.Ex
open Go Go.Sx Go.Proofs
end Go.Ex
namespace Go.Sx
open Go Go.Ex Go.Proofs
variable{O:Nat->Sx.df}
theorem Rel.K0{nx:Nat}{iv:Iv}{B:Nat}{w w' w2:World}(r:Rel [] nx iv B w O w')(h:w'.heap.size<=w2.heap.size):Rel [] nx [] B w2 O w2:=
 r.Cg h (fun id b h=>by cases h) fun lo hi h=>by cases h
end Go.Sx
namespace Go.Ex
open Go Go.Sx Go.Proofs
variable{O:Nat->Sx.df}
theorem IV{P D low high dlow dtop W:Nat}(hP:P=low+W*high)(hD:D=dlow+W*dtop)(hlow:low<W)(hdt:0<dtop)(hPD:P<4294967296*D):P / D<=min (high / dtop) 4294967295:=by
 have hW:0<W:=by omega
 have hD0:0<D:=by have:=Nat.mul_pos hW hdt;omega
 have h1:P / D<4294967296:=(Nat.div_lt_iff_lt_mul hD0).2 (by rw[bT]at hPD;omega);have h2:P / D<=high / dtop:=by
  rw[Nat.le_div_iff_mul_le hdt];have h3:=Nat.div_mul_le_self P D;generalize P / D=Q at*
  have h4:W*(Q*dtop)<=Q*D:=by
   rw[hD,Nat.mul_left_comm,bS];omega
  have h5:W*(Q*dtop)<W*(high+1):=by
   rw[bS];omega
  have:=Nat.lt_of_mul_lt_mul_left h5;omega
 omega
theorem Fz{H:Hp}{nx:Nat}{iv:Iv}{w w1 w':World}{g i x:Nat}{rs:List Nat}(hg:w.heap[g]? =some (.cells (U rs).toArray T.uint32 (0,0)))(hw:cV w.heap.size w w1)(r:Rel H nx iv w.heap.size w1 O w')(hx:rs[i]? =some x):
  w'.cell? ((⟨g,0,none⟩:Addr).add ((i:Int).toNat*1))=some (.int .u32 x):=by
 rw[aF,aU,dP,aV,cell_of (by rw[(hw.tr r.cM).block g (j3 hg)];exact hg)];exact tP hx
theorem Jp{S:Nat->Prop}{w:World}{vd:Value}{D g k:Nat}{rs:List Nat}(hS:Old S w)(hgS:¬S g)(hd:dh w S vd D)(hD:0<D)(hg:w.heap[g]? =some (.cells (U rs).toArray T.uint32 (0,0)))(hlm:Lm rs)
  (hk:k+ln D+1<=rs.length) (hl:rs.length<=1000000000000) (hPD:val ((rs.drop k).take (ln D+1))<4294967296*D):
  dm PG N.oF #[.slice (some ⟨g,0,none⟩) rs.length rs.length,vd,.int .i64 k] w (fun e w2=>
   e= .returned (.int .u32 ((val ((rs.drop k).take (ln D+1)) / D:Nat):Int))∧w.grownBy w2 (some g)∧∃rs',rs'.length=rs.length∧Lm rs'∧rs'.take k=rs.take k∧rs'.drop (k+ln D+1)=rs.drop (k+ln D+1)∧
    val ((rs'.drop k).take (ln D+1))=val ((rs.drop k).take (ln D+1)) % D∧w2.heap[g]? =some (.cells (U rs').toArray T.uint32 (0,0))):=by
 have hgB:=j3 hg;have hnD:=hd;obtain⟨p,rfl,hp1,hp2⟩:=hd.la;have hpl:=eE p.lm hp2;rw[hp1]at hpl;have htake:=fun(w':World) (q:Nat)=>@Bx S w' (.slice p.a p.ls.length p.c) D g k q rs;generalize hn:ln D=n at*
 obtain⟨t,rfl⟩:∃t,n=t+1:=by
  cases n with
  |zero=>
   have:D<wt 0:=fg.1 (by omega);rw[im]at this;omega
  |succ t=>exact⟨t,rfl⟩
 obtain⟨dt,hdt⟩:∃q,p.ls[t]? =some q:=⟨_,aB (by omega)⟩
 have hdt0:0<dt:=by
  have:=hp2 dt (by rw[List.getLast?_eq_getElem?,hpl];exact hdt);omega
 obtain⟨a,ha⟩:∃q,rs[k+t+1]? =some q:=⟨_,aB (by omega)⟩
 obtain⟨b,hb⟩:∃q,rs[k+t]? =some q:=⟨_,aB (by omega)⟩
 have ha32:=hlm.at ha;have hb32:=hlm.at hb;have hdt32:=p.lm.at hdt;generalize hP:val ((rs.drop k).take (t+1+1))=P at*
 have hguess:P / D<=min ((a*4294967296+b) / dt) 4294967295:=by
  refine IV (low:=val ((rs.drop k).take t)) (W:=wt t) (dlow:=val (p.ls.take t)) ?_ ?_ ?_ hdt0 hPD
  ·rw[<-hP,dY (x:=a) (by rw[List.getElem?_drop];exact ha),dY (x:=b) (by rw[List.getElem?_drop];exact hb),iL,bS,bT 4294967296 (wt t),bh,bT a];omega
  ·rw[<-hp1,<-dY hdt,List.take_of_length_le (by omega)]
  ·have h1:=nA ((hlm.drop k).take t);have:((rs.drop k).take t).length=t:=by simp;omega
   rwa [this]at h1
 refine r8 (by simp) ?_;refine⟨(t:Int),wo,?_⟩;refine cJ hτ db [.x 0,.x 1,.x 2,.x 3,.x 4,.x 5,.x 6,.x 7,.x 8,.x 9,.x 10,.x 11,.x 12,.x 13,.x 14,.x 15,.x 16,.x 17] (by kernel_rfl) (by kernel_rfl) ?_;refine⟨((k+t:Nat):Int),wo,((k+t+1:Nat):Int),wo,_,rfl,by omega,.int .u32 a,fun O w' r=>Fz hg cV.refl r ha,(a:Int),eO (by omega),by decide,((a*2^32:Nat):Int),Bz (k:=32) (by decide) (by omega),((k+t:Nat):Int),wo,_,rfl,by omega,.int .u32 b,fun O w' r=>Fz hg cV.refl r hb,(b:Int),eO (by omega),?_⟩;have hor:a*2^32 ||| b=a*4294967296+b:=by
  rw[Nat.or_comm,bT,CA (k:=32) hb32];omega
 refine⟨((a*4294967296+b:Nat):Int),by rw[IW (by omega) (by omega),hor],?_⟩;have hh64:a*4294967296+b<18446744073709551616:=by omega
 generalize a*4294967296+b=high at*
 obtain⟨ad,had,hload⟩:=p.load hS (cV.refl (w:=w)) hdt;refine⟨ad,had,by omega,.int .u32 dt,hload _ _ _,(dt:Int),eO (by omega),by omega,((high / dt:Nat):Int),IX hh64,?_⟩;conv=>whnf
 rw[show min ((high / dt:Nat):Int) 4294967295=((min (high / dt) 4294967295:Nat):Int) by omega];have hm32:min (high / dt) 4294967295<=4294967295:=Nat.min_le_right _ _;generalize min (high / dt) 4294967295=q0 at*
 have hQD:=Nat.div_mul_le_self P D;have hQl:∀q,q*D<=P->P / D<=q->q=P / D:=fun q h1 h2=>aR ((Nat.le_div_iff_mul_le hD).2 h1) h2;have hmod:P % D=P-P / D*D:=by have:=Nat.div_add_mod P D;rw[bT]at this;omega
 refine⟨Nat×World,fun z=>⟨[(0,.o (.v (.slice (some ⟨g,0,none⟩) rs.length rs.length))),(1,.o (.v (.slice p.a p.ls.length p.c))),(2,.o (.v (.int .i64 k))),(9,.o (.v (.int .u64 z.1)))],[],0,[],z.2⟩,fun z=>z.1,
  fun z=>cV w.heap.size w z.2∧P / D<=z.1∧z.1<=4294967295,?_,?_⟩
 ·intro O w' r;exact⟨(q0,w'),⟨r.cM,hguess,hm32⟩,Sub.reset r ⟨rfl,rfl,rfl,rfl,trivial⟩ ⟨trivial,trivial,trivial,trivial,trivial⟩⟩
 ·rintro⟨q,w1⟩ ⟨hw,hq1,hq2⟩;dsimp only at hw hq1 hq2 ⊢;conv=>whnf
  refine⟨fun O w2 r=>(htake w2 q (fun x hx=>by have:=hS x hx;have:=(hw.tr r.cM).size;omega) hgS (hnD.cG fun x hx=>(hw.tr r.cM).block x (hS x hx)) (by rw[(hw.tr r.cM).block g hgB];exact hg) hlm hk hl (by omega)).mono fun e w3 he=>?_⟩;rcases he with⟨h,rfl,hb3⟩|⟨h,rfl,hgr,rs',e1,e2,e3,e4,e5,e6⟩
  ·have hw3:cV w.heap.size w w3:=(hw.tr r.cM).tr (hb3.cM r.cD);refine⟨.bool false,[],[],rfl,r.K0 hb3.size,?_⟩;have hq3:P / D<q:=by
    refine Nat.lt_of_le_of_ne hq1 fun e=>?_;rw[e]at hQD;omega
   have hq4:0<q:=Nat.lt_of_le_of_lt (aP _) hq3;have hq5:P / D<=q-1:=Nat.le_sub_one_of_lt hq3;refine⟨((q-1:Nat):Int),by rw[wu]<;>omega,?_⟩;intro ρ4 w4 r4;exact⟨(q-1,w4),⟨hw3.tr r4.cM,hq5,by dsimp only;omega⟩,Sub.reset r4 ⟨rfl,rfl,rfl,rfl,trivial⟩ ⟨trivial,trivial,trivial,trivial,trivial⟩,by dsimp only;omega⟩
  ·have hgw:w.grownBy w3 (some g):=gG (vY (hw.tr r.cM)) hgr;refine⟨.bool true,[],[],rfl,r.K0 hgr.size,?_⟩;have hq:=hQl q h hq1;subst hq;refine⟨((P / D:Nat):Int),by rw[ek,bL (by omega)],?_⟩;intro ρ4 w4 r4;refine⟨rfl,gG hgw (by have:=r4.pP;exact⟨this.os,this.tape,this.output,this.size,fun j hj _=>this.block j hj (by simp)⟩),rs',e1,e2,e3,e4,by rw[e5,hmod],?_⟩;rw[r4.pP.block g (by have:=hgw.size;omega) (by simp)];exact e6
end Go.Ex
namespace Go.Ex
variable{ms:List Nat}
theorem G8{t dt:Nat}(hlm:Lm ms)(hl:ms.length=t+1)(hdt:ms[t]? =some dt)(h0:0<dt):32-gD dt<32∧ln (val ms*2^(32-gD dt))=t+1:=by
 have hb0:0<gD dt:=by
  rcases bJ (gD dt)with h|h
  ·have:=xA.1 (Nat.le_of_eq h);simp at this;omega
  ·exact h
 have hb32:gD dt<=32:=xA.2 (hlm.at hdt);have hlt:=xA.1 (aG (gD dt));have hv:val ms=val (ms.take t)+wt t*dt:=by rw[<-dY hdt,List.take_of_length_le (by omega)]
 have hlow:=nA (hlm.take t);have hltk:(ms.take t).length=t:=by simp;omega
 rw[hltk]at hlow;have hw:=xc t;refine⟨by omega,aR ?_ ?_⟩
 ·rw[fg];have h1:val ms<wt t*2^gD dt:=by
   have:wt t*(dt+1)<=wt t*2^gD dt:=bW _ hlt;rw[bS]at this;omega
  have h2:=Nat.mul_lt_mul_of_pos_right h1 (bm (32-gD dt));rw[bh,<-Nat.pow_add,Nat.add_sub_cancel' hb32]at h2;rw[iL,bT 4294967296];exact h2
 ·refine Nat.lt_of_not_le fun h=>?_;have h1:=fg.1 h;have h2:val ms*1<=val ms*2^(32-gD dt):=bW _ (bm _);have h3:wt t*1<=wt t*dt:=bW _ h0;omega
theorem DB{rs:List Nat}{D N k:Nat}(hlm:Lm rs)(hDN:D<wt N)(hk:k+N+1<=rs.length)(h:val rs<wt (k+1)*D):
  val (rs.drop (k+N+1))=0∧val (rs.drop k)=val ((rs.drop k).take (N+1))∧val ((rs.drop k).take (N+1))<4294967296*D:=by
 obtain⟨x,hx⟩:∃q,rs[k]? =some q:=⟨_,aB (by omega)⟩
 have hx32:=hlm.at hx;have h1:=eV rs (k+1) (by omega);have h2:val (rs.drop (k+1))<D:=Nat.lt_of_mul_lt_mul_left (a:=wt (k+1)) (by omega);have h3:=eV (rs.drop (k+1)) N (by simp;omega);rw[List.drop_drop,show k+1+N=k+N+1 by omega]at h3;have h4:val (rs.drop (k+N+1))=0:=by
  rcases bJ (val (rs.drop (k+N+1)))with h|h
  ·exact h
  ·have:=bW (wt N) h;omega
 have h5:=eV (rs.drop k) (N+1) (by simp;omega);rw[List.drop_drop,show k+(N+1)=k+N+1 by omega,h4,Nat.mul_zero,bw]at h5;have h6:=iY hx;exact⟨h4,h5,by omega⟩
theorem Hm{rs rs' out:List Nat}{D N k P V:Nat}(hD:0<D)(hlm:Lm rs)(hlen:rs'.length=rs.length)(hDN:D<wt N)(hk:k+N+1<=rs.length)(h:val rs<wt (k+1)*D)(hV:V=wt (k+1)*(D*val (out.drop (k+1)))+val rs)
  (hP:val ((rs.drop k).take (N+1))=P) (h1:rs'.take k=rs.take k) (h2:rs'.drop (k+N+1)=rs.drop (k+N+1)) (h3:val ((rs'.drop k).take (N+1))=P % D) (ho:k<out.length):
  val rs'<wt k*D∧V=wt k*(D*val ((out.set k (P / D)).drop k))+val rs':=by
 obtain⟨a1,a2,a3⟩:=DB hlm hDN hk h;have b1:=eV rs k (by omega);have b2:=eV rs' k (by omega);have b3:=eV (rs'.drop k) (N+1) (by simp;omega);rw[List.drop_drop,show k+(N+1)=k+N+1 by omega,h2,a1,Nat.mul_zero,bw,h3]at b3;rw[h1,b3]at b2;rw[a2,hP]at b1;have b4:=nA (hlm.take k);have b5:(rs.take k).length=k:=by simp;omega
 rw[b5]at b4;have b6:=bs P hD;have b7:(out.set k (P / D))[k]? =some (P / D):=by rw[aW ho]
 have b8:=Nat.div_add_mod P D;refine⟨?_,?_⟩
 ·have:wt k*(P % D+1)<=wt k*D:=bW _ b6;rw[bS]at this;omega
 ·rw[iY b7,List.drop_set_of_lt (show k<k+1 by omega),hV,b1,b2,iL];generalize val (out.drop (k+1))=o;have c1:wt k*P=wt k*(D*(P / D))+wt k*(P % D):=by rw[<-bS,b8]
  have c2:4294967296*wt k*(D*o)=wt k*(D*(4294967296*o)):=by
   rw[bT 4294967296,bh,Nat.mul_left_comm 4294967296]
  rw[c1,c2,bS D,bS (wt k)];omega
theorem G9{n m b:Nat}(hm:0<m)(hnm:m<=n):n*2^b<wt (ln n+1-ln m)*(m*2^b):=by
 have h1:=kV n;have h2:=eu hnm;have h3:wt (ln m-1)<=m:=by
  refine Nat.le_of_not_lt fun h=>?_;have:=fg.2 h;have h4:0<ln m:=by
   rcases bJ (ln m)with h|h
   ·have:=fg.1 (Nat.le_of_eq h);rw[im]at this;omega
   ·exact h
  omega
 have h4:0<ln m:=by
  rcases bJ (ln m)with h|h
  ·have:=fg.1 (Nat.le_of_eq h);rw[im]at this;omega
  ·exact h
 have h5:wt (ln n)<=wt (ln n+1-ln m)*m:=by
  rw[show ln n=(ln n+1-ln m)+(ln m-1) by omega,BY,show(ln n+1-ln m)+(ln m-1)+1-ln m=ln n+1-ln m by omega];exact bW _ h3
 rw[<-bh];exact Nat.mul_lt_mul_of_pos_right (Nat.lt_of_lt_of_le h1 h5) (bm b)
theorem J8{n m b o r:Nat}(hm:0<m)(h1:n*2^b=m*2^b*o+r)(h2:r<m*2^b):o=n / m∧r / 2^b=n % m:=by
 have hp:=bm b;have h3:n*2^b / (m*2^b)=o:=by rw[h1,Nat.mul_add_div (Nat.mul_pos hm hp),Nat.div_eq_of_lt h2,bw]
 have h4:n*2^b % (m*2^b)=r:=by rw[h1,Nat.mul_add_mod,bL h2]
 rw[Nat.mul_div_mul_right _ _ hp]at h3;rw[Nat.mul_mod_mul_right]at h4;exact⟨h3.symm,by rw[<-h4,Nat.mul_div_cancel _ hp]⟩
end Go.Ex
namespace Go.Ex
open Go Go.Sx Go.Proofs
variable{H:Hp}{x y z:Int}{iv:Iv}{ls:List Nat}{n nx:Nat}{S:Nat->Prop}{O:Nat->Sx.df}{u v:Value}{w w' w1:World}
theorem GA{g:Nat}{rs:List Nat}(hg:w.heap[g]? =some (.cells (U rs).toArray T.uint32 (0,0)))(hlm:Lm rs)(hl:rs.length<=1000000000000):
  dH w (fun x=>x=g) (.slice (some ⟨g,0,none⟩) rs.length rs.length) rs:=by
 have:=Fx (k:=0) (m:=rs.length) (c:=rs.length) hg hlm (by omega) (aG _) hl
 rwa [List.drop_zero,bE]at this
theorem pQ{m:Nat}(hS:Old S w)(hn:dh w S v n)(hm:dh w S u m)(hm0:0<m)(hln:ln n<=100000000000):
  dm PG N.mb #[v,u] w (eB w fun v' w2=>∃q r,v'= .tuple #[q,r]∧dh w2 (Nf w w2) q (n / m)∧dh w2 (Nw S w w2) r (n % m)):=by
 have hnN:=hn;have hmN:=hm;obtain⟨x,rfl,hp1,hp2⟩:=hn.la;obtain⟨y,rfl,hq1,hq2⟩:=hm.la;have hxl:=eE x.lm hp2;have hyl:=eE y.lm hq2;rw[hp1]at hxl;rw[hq1]at hyl;refine qT (by simp) ?_;refine cC (cL (Φ:=fun _ _ v _=>v= .int .i64 (r9 n m)) (fun O w' r=>IU (S:=S) (fun g hg=>by have:=hS g hg;have:=r.cM.size;omega) (hnN.cG fun g hg=>r.cM.block g (hS g hg)) (hmN.cG fun g hg=>r.cM.block g (hS g hg))) ?_);rintro O w1 v1 w2 r he hw rfl;refine dI.mk (fun h=>?_) (fun h=>?_)
 ·have h:n<m:=by
   have:=aI h;unfold r9 at this;split at this
   ·assumption
   ·split at this<;>omega
  intro ρ3 w3 r3;refine⟨_,rfl,hw.tr r3.cM,_,_,rfl,?_,?_⟩
  ·rw[Nat.div_eq_of_lt h];exact dh.nil _ _
  ·rw[bL h];exact(hnN.cG fun g hg=>(hw.tr r3.cM).block g (hS g hg)).cI fun g hg=>.inl hg
 have h:m<=n:=by
  have:=aH h;unfold r9 at this;split at this
  ·omega
  ·omega
 have hlmn:=eu h;refine dI.mk (fun h1=>?_) (fun h1=>?_)
 ·have h1:y.ls.length=1:=by have:=eq_of_beq h1;omega
  obtain⟨b,hyb⟩:=List.length_eq_one_iff.1 h1;have hb:y.ls[0]? =some b:=by rw[hyb];rfl
  have hb32:=y.lm.at hb;have hmb:m=b:=by rw[<-hq1,hyb];simp[val]
  subst hmb;obtain⟨ad,had,hload⟩:=y.load hS hw hb;refine⟨ad,had,by omega,.int .u32 m,hload _ _ _,?_⟩;refine cC (cL (Φ:=fun _ w' v w2=>∃q,v= .tuple #[q,.int .u32 ((val x.ls % m:Nat):Int)]∧dh w2 (Nf w' w2) q (val x.ls / m)) (fun O w' r=>?_) ?_)
  ·refine Jq (S:=S) (fun g hg=>by have:=hS g hg;have:=(hw.tr r.cM).size;omega) ⟨x.lm,x.le,_,_,rfl,x.cap,fun j u hu=>?_⟩ (by omega) hm0 hb32;obtain⟨ad,e1,e2,e3⟩:=x.cell j u hu;exact⟨ad,e1,e2,jX hS hw r e2 e3⟩
  rintro O w3 v3 w4 r he hb4 ⟨q,rfl,hq⟩;replace hw:=hw.tr hb4;have hqN:=hq.c9 (S:=fun _=>False) r.cD (iv:=(w3.heap.size,w4.heap.size)::[(w1.heap.size,w2.heap.size)]) aJ;rw[hp1]at hqN;rw[hp1];generalize (w3.heap.size,w4.heap.size)::[(w1.heap.size,w2.heap.size)]=iv at*
  have hml:n % m<m:=bs _ hm0;generalize n % m=rem at*
  refine gC (Φ:=fun O _ v w2=>dH w2 (fun g=>g=(O 0).g) v (dg [rem])) (H':=[]) 0 rfl (by simp) trivial rfl (fun O w' r=>r.nn 0 _ rfl (by intros;simp) (by simp)) (fun O w' r=>?_) ?_
  ·have hL:=r.tR (id:=0) (ls:=[rem]) rfl (by intro x hx;simp at hx;omega) (by simp);exact fA (fun g hg=>by rw[hg];exact(r.low 0 _ rfl (r.nn 0 _ rfl (by intros;simp) (by simp))).2) hL
  rintro O w5 v5 w6 r he hb6 hL;have hlow:=r.low 0 _ rfl (r.nn 0 _ rfl (by intros;simp) (by simp));have hs:=he.size;replace hw:=hw.tr hb6;replace hqN:=hqN.cF (iv':=((O 0).g,(O 0).g+1)::(w5.heap.size,w6.heap.size)::iv) r (fun g h=>h.elim) he fun x hx=>by simp[hx]
  generalize (O 0).g=g0 at*
  have hrN:dh w6 (Cf w ((g0,g0+1)::(w5.heap.size,w6.heap.size)::iv)) v5 rem:=by
   have:=hL.trimmed;simp only[val,Nat.mul_zero,bw]at this;exact this.cI fun k hk=>.inr ⟨by omega,g0,g0+1,by simp,by omega,by omega⟩
  generalize (g0,g0+1)::(w5.heap.size,w6.heap.size)::iv=iv2 at*
  intro ρ3 w7 r3;exact⟨_,rfl,hw.tr r3.cM,_,_,rfl,(hqN.rel r3 fun g h=>h.elim).cI fun g hg=>Cv.nw hg r3,((hrN.rel r3 fun g h=>h.elim).cI fun g hg=>Cv.nw hg r3).cI fun g hg=>hg.elim (fun h=>h.elim) .inr⟩
 ·have h1:y.ls.length≠1:=fun e=>by rw[e]at h1;simp at h1
  have hm1:0<ln m:=by
   rcases bJ (ln m)with h|h
   ·have:=fg.1 (Nat.le_of_eq h);rw[im]at this;omega
   ·exact h
  obtain⟨t,ht⟩:∃t,y.ls.length=t+1:=⟨y.ls.length-1,by omega⟩
  obtain⟨dt,hdt⟩:∃q,y.ls[t]? =some q:=⟨_,aB (by omega)⟩
  have hdt0:0<dt:=by
   have:=hq2 dt (by rw[List.getLast?_eq_getElem?,ht];exact hdt);omega
  have hdt32:=y.lm.at hdt;obtain⟨hby,hlnD⟩:=G8 y.lm ht hdt hdt0;rw[hq1]at hlnD;obtain⟨ad,had,hload⟩:=y.load hS hw hdt;refine⟨(t:Int),wo,ad,had,by omega,.int .u32 dt,hload _ _ _,?_⟩;refine cC (cL (Φ:=fun _ _ v _=>v= .int .i64 ((32-gD dt:Nat):Int)) (fun O w' r=>LH dt w' hdt32) ?_);rintro O w3 v3 w4 r he hb4 rfl;replace hw:=hw.tr hb4;generalize hbyd:32-gD dt=b at*
  refine⟨(b:Int),eO (by omega),?_⟩;refine cC (cL (Φ:=fun _ w' v w2=>∃out,IY w' w2 v out∧out.length=y.ls.length+1∧val out=val y.ls*2^b) (fun O w' r=>?_) ?_)
  ·refine Au (S:=S) (fun g hg=>by have:=hS g hg;have:=(hw.tr r.cM).size;omega) ⟨y.lm,y.le,_,_,rfl,y.cap,fun j u hu=>?_⟩ (by omega) hby;obtain⟨ad,e1,e2,e3⟩:=y.cell j u hu;exact⟨ad,e1,e2,jX hS hw r e2 e3⟩
  rintro O w5 v5 w6 r he hb6 ⟨dl,⟨gd,rfl,hgd1,hgd2,hgd3⟩,hdl,hdv⟩;replace hw:=hw.tr hb6;rw[hq1]at hdv;have hB5:w.heap.size<=w5.heap.size:=r.cD;have hcd:Cf w ((w5.heap.size,w6.heap.size)::[(w3.heap.size,w4.heap.size),(w1.heap.size,w2.heap.size)]) gd:=.inr ⟨by omega,_,_,aJ,hgd1,j3 hgd2⟩;generalize (w5.heap.size,w6.heap.size)::[(w3.heap.size,w4.heap.size),(w1.heap.size,w2.heap.size)]=iv at*
  have hF:∀g:Nat,(fun _:Nat=>False) g->g<w.heap.size:=fun g h=>h.elim;refine cC (cL (Φ:=fun _ _ v w2=>dH w2 (fun x=>x=gd) v (dg dl)) (fun O w' r=>fA (fun g hg=>by rw[hg];exact Rel.old r hF gd hcd) (GA (by rw[Rel.same r hF hcd];exact hgd2) hgd3 (by omega))) ?_);rintro O w7 v6 w8 r he hb8 hL;replace hw:=hw.tr hb8;have hgd8:gd<w8.heap.size:=by have:=Rel.old r hF gd hcd;have:=he.size;omega
  replace hcd:=hcd.mono (iv':=(w7.heap.size,w8.heap.size)::iv) fun p hp=>aC _ hp;have hdN:=hL.trimmed;rw[hdv]at hdN;generalize (w7.heap.size,w8.heap.size)::iv=iv at*
  obtain⟨dp,rfl,hd1,hd2⟩:=hdN.la;have hdpl:=eE dp.lm hd2;rw[hd1,hlnD]at hdpl;generalize hDd:m*2^b=D at*
  have hD0:0<D:=by rw[<-hDd];exact Nat.mul_pos hm0 (bm b)
  refine cC (cL (Φ:=fun _ w' v w2=>∃out,IY w' w2 v out∧out.length=x.ls.length+1∧val out=val x.ls*2^b) (fun O w' r=>?_) ?_)
  ·refine Au (S:=S) (fun g hg=>by have:=hS g hg;have:=(hw.tr r.cM).size;omega) ⟨x.lm,x.le,_,_,rfl,x.cap,fun j u hu=>?_⟩ (by omega) hby;obtain⟨ad,e1,e2,e3⟩:=x.cell j u hu;exact⟨ad,e1,e2,jX hS hw r e2 e3⟩
  rintro O w9 v9 w10 r he hb10 ⟨rs0,⟨gr,rfl,hgr1,hgr2,hgr3⟩,hrl,hrv⟩;replace hw:=hw.tr hb10;rw[hp1]at hrv;have hB9:w.heap.size<=w9.heap.size:=r.cD;have hcr:Cf w ((w9.heap.size,w10.heap.size)::iv) gr:=.inr ⟨by omega,_,_,aJ,hgr1,j3 hgr2⟩;have hne:gr≠gd:=by have:=r.size;omega
  replace hdN:dh w10 (fun x=>x=gd) (.slice dp.a dp.ls.length dp.c) D:=hdN.cG fun x hx=>by
   rw[hx,he.block gd (Rel.old r hF gd hcd),Rel.same r hF hcd]
  have hgd10:gd<w10.heap.size:=by have:=Rel.old r hF gd hcd;have:=he.size;omega
  replace hcd:=hcd.mono (iv':=(w9.heap.size,w10.heap.size)::iv) fun p hp=>aC _ hp;generalize (w9.heap.size,w10.heap.size)::iv=iv at*
  have hgrB:w.heap.size<=gr:=by omega
  obtain⟨L,hL⟩:∃L,rs0.length=t+1+L:=⟨rs0.length-(t+1),by omega⟩
  refine⟨(L:Int),wo,L,L,rfl,rfl,aG _,by omega,by omega,(L:Int)-1,wo,Nat×List Nat×List Nat×World,fun z=>⟨[(8,.o (.v (.int .u64 b))),(9,.o (.v (.slice dp.a dp.ls.length dp.c))),(10,.o (.v (.slice (some ⟨gr,0,none⟩) rs0.length rs0.length))),(11,.o (.s 0 0 L L)),(12,.o (.v (.int .i64 ((z.1:Int)-1))))],
    [(0,.arr T.uint32 (U z.2.1))],1,iv,z.2.2.2⟩,fun z=>z.1,
   fun z=>z.1<=L∧cV w.heap.size w z.2.2.2∧z.2.1.length=L∧z.2.2.1.length=rs0.length∧Lm z.2.1∧Lm z.2.2.1∧z.2.2.2.heap[gr]? =some (.cells (U z.2.2.1).toArray T.uint32 (0,0))∧dh z.2.2.2 (fun x=>x=gd) (.slice dp.a dp.ls.length dp.c) D∧
    gd<z.2.2.2.heap.size∧val z.2.2.1<wt z.1*D∧n*2^b=wt z.1*(D*val (z.2.1.drop z.1))+val z.2.2.1,?_,?_⟩
  ·intro O w' r;rw[rb]at r;refine⟨(L,List.replicate L 0,rs0,w'),⟨aG _,hw.tr r.cM,by simp,rfl,Lm.replicate _,hgr3,?_,?_,?_,?_,?_⟩,Sub.gn [] r⟩
   ·dsimp only;rw[Rel.same r hF hcr];exact hgr2
   ·exact hdN.cG fun x hx=>by rw[hx];exact Rel.same r hF hcd
   ·exact Rel.old r hF gd hcd
   ·dsimp only
    have:=G9 (b:=b) hm0 h;rw[hDd,<-hyl,ht,<-hxl,show x.ls.length+1-(t+1)=L by omega]at this;rw[hrv];exact this
   ·dsimp only;rw[hrv];simp[val]
  ·rintro⟨k,out,rs,w11⟩ ⟨hk,hw,hol,hrl2,hlo,hlr,hgr,hdN,hgd,hi1,hi2⟩;dsimp only at hk hw hol hrl2 hlo hlr hgr hdN hgd hi1 hi2 ⊢;refine dI.mk (fun h9=>?_) (fun h9=>?_)
   ·have h9:(k:Int)-1≥0:=aI h9;obtain⟨k,rfl⟩:∃q,k=q+1:=⟨k-1,by omega⟩
    rw[show ((k+1:Nat):Int)-1=(k:Int) by omega];have hDN:D<wt (t+1):=fg.1 (Nat.le_of_eq hlnD);obtain⟨a1,a2,a3⟩:=DB (N:=t+1) hlr hDN (by omega) hi1;have hdig:=fun(w':World)=>@Jp (fun x=>x=gd) w' (.slice dp.a dp.ls.length dp.c) D gr k rs;rw[hlnD]at hdig;simp only[hrl2]at hdig;generalize hP:val ((rs.drop k).take (t+1+1))=P at*
    have hQ32:P / D<4294967296:=(Nat.div_lt_iff_lt_mul hD0).2 (by rw[bT]at a3;omega);refine⟨fun O w' r=>(hdig w' (fun g hg=>by rw[hg];exact Rel.old r hF gd hcd) hne (hdN.cG fun x hx=>by rw[hx];exact Rel.same r hF hcd) hD0 (by rw[Rel.same r hF hcr];exact hgr) hlr (by omega) (by omega) a3).mono fun e w12 he=>?_⟩;obtain⟨rfl,hgb,rs',e1,e2,e3,e4,e5,e6⟩:=he;refine⟨_,_,_,rfl,r.xY (fun id b hb hn=>Rel.not r hF hcr id b hb hn) hgb,?_⟩;obtain⟨hi1',hi2'⟩:=Hm (N:=t+1) hD0 hlr (e1.trans hrl2.symm) hDN (by omega) hi1 hi2 hP e3 e4 e5 (by omega);have hw12:cV w.heap.size w w12:=(hw.tr r.cM).tr (cV.grown hgb (fun g hg=>by injection hg with hg;omega) r.cD);have hdN12:dh w12 (fun x=>x=gd) (.slice dp.a dp.ls.length dp.c) D:=hdN.cG fun x hx=>by
     rw[hx,hgb.block gd (Rel.old r hF gd hcd) (fun e=>hne (Option.some.inj e).symm),Rel.same r hF hcd]
    have hgd12:gd<w12.heap.size:=by have:=Rel.old r hF gd hcd;have:=hgb.size;omega
    generalize P / D=Q at*
    refine⟨by omega,by rw[fk];omega,U (out.set k Q),iP out k _ (by omega) (by simp),(k:Int)-1,wo,?_⟩;intro ρ3 w3 r3
    refine⟨(k,out.set k Q,rs',w3),⟨by dsimp only;omega,hw12.tr r3.cM,by simp[hol],e1.trans rfl,hlo.set hQ32,e2,?_,?_,?_,hi1',hi2'⟩,
     Sub.gn [] r3,by dsimp only;omega⟩
    ·dsimp only;rw[Rel.same r3 hF hcr];exact e6
    ·exact hdN12.cG fun x hx=>by rw[hx];exact Rel.same r3 hF hcd
    ·exact Rel.old r3 hF gd hcd
   ·have hk0:k=0:=by
     have:¬(k:Int)-1≥0:=aH h9;omega
    subst hk0;rw[im,Nat.one_mul,List.drop_zero]at hi2;rw[im,Nat.one_mul]at hi1;rw[<-hDd]at hi1 hi2;obtain⟨hq,hrem⟩:=J8 hm0 hi2 hi1;have hfr:∀w':World,w'.heap[gr]? =some (.cells (U rs).toArray T.uint32 (0,0))->dH w' (fun x=>x=gr) (.slice (some ⟨gr,0,none⟩) rs0.length rs0.length) rs:=fun w' hh=>by
     have:=GA hh hlr (by omega)
     rwa [hrl2]at this
    refine gC (Φ:=fun O _ v w2=>dH w2 (fun g=>g=(O 0).g) v (dg out)) (H':=[]) 0 rfl (by simp) trivial rfl (fun O w' r=>r.nn 0 _ rfl (by intros;simp) (by simp)) (fun O w' r=>?_) ?_
    ·have hL:=r.mg (id:=0) rfl hlo (by omega);rw[hol]at hL;exact fA (fun g hg=>by rw[hg];exact(r.low 0 _ rfl (r.nn 0 _ rfl (by intros;simp) (by simp))).2) hL
    rintro O w13 v13 w14 r he hb14 hL;replace hw:=hw.tr hb14;have hlow:=r.low 0 _ rfl (r.nn 0 _ rfl (by intros;simp) (by simp));have hs:=he.size;have hgr14:w14.heap[gr]? =some (.cells (U rs).toArray T.uint32 (0,0)):=by rw[he.block gr (Rel.old r hF gr hcr),Rel.same r hF hcr];exact hgr
    replace hcr:=hcr.mono (iv':=((O 0).g,(O 0).g+1)::(w13.heap.size,w14.heap.size)::iv) fun p hp=>by simp[hp]
    have hqN:dh w14 (Cf w (((O 0).g,(O 0).g+1)::(w13.heap.size,w14.heap.size)::iv)) v13 (n / m):=by
     have:=hL.trimmed;rw[hq]at this;exact this.cI fun k hk=>.inr ⟨by omega,_,_,aJ,by omega,by omega⟩
    generalize ((O 0).g,(O 0).g+1)::(w13.heap.size,w14.heap.size)::iv=iv3 at*
    refine cC (cL (Φ:=fun _ _ v w2=>dH w2 (fun x=>x=gr) v (dg rs)) (fun O w' r=>fA (fun g hg=>by rw[hg];exact Rel.old r hF gr hcr) (hfr w' (by rw[Rel.same r hF hcr];exact hgr14))) ?_);rintro O w15 v15 w16 r he hb16 hL;replace hw:=hw.tr hb16;replace hqN:=hqN.cF (iv':=(w15.heap.size,w16.heap.size)::iv3) r hF he fun x hx=>aC _ hx;replace hL:=hL.cI (S':=Cf w ((w15.heap.size,w16.heap.size)::iv3)) fun g hg=>by rw[hg];exact hcr.cons
    generalize (w15.heap.size,w16.heap.size)::iv3=iv4 at*
    have htl:(dg rs).length<=rs.length:=by
     obtain⟨_,_,k,_,hk⟩:=e8 rs;rw[hk];simp;omega
    refine cC (cL (Φ:=fun _ w' v w2=>dh w2 (Nf w' w2) v (val (dg rs) / 2^b)) (fun O w' r=>LJ (Rel.old r hF) (dH.rel hL r hF) (by omega) hby) ?_);rintro O w17 v17 w18 r he hb18 hr;replace hw:=hw.tr hb18;rw[(e8 rs).1,hrem]at hr;have hrN:=hr.c9 (S:=fun _=>False) r.cD (iv:=(w17.heap.size,w18.heap.size)::iv4) aJ;replace hqN:=hqN.cF (iv':=(w17.heap.size,w18.heap.size)::iv4) r hF he fun x hx=>aC _ hx;generalize (w17.heap.size,w18.heap.size)::iv4=iv5 at*
    intro ρ3 w19 r3;exact⟨_,rfl,hw.tr r3.cM,_,_,rfl,(hqN.rel r3 hF).cI fun g hg=>Cv.nw hg r3,((hrN.rel r3 hF).cI fun g hg=>Cv.nw hg r3).cI fun g hg=>hg.elim (fun h=>h.elim) .inr⟩
theorem Dd{m:Nat}(hS:Old S w)(hn:dh w S v n)(hm:dh w S u m)(hln:ln n<=100000000000)(hlm:ln m<=100000000000):
  dm PG N.tA #[v,u] w (eB w fun v' w2=>dh w2 (Nw S w w2) v' (Nat.gcd n m)):=by
 refine wU (by simp) ?_
 refine⟨(Value×Nat)×(Value×Nat)×Iv×World,fun z=>⟨[(0,.o (.v z.1.1)),(1,.o (.v z.2.1.1))],[],0,z.2.2.1,z.2.2.2⟩,fun z=>z.2.1.2,
  fun z=>cV w.heap.size w z.2.2.2∧dh z.2.2.2 (Cv S w.heap.size z.2.2.1) z.1.1 z.1.2∧dh z.2.2.2 (Cv S w.heap.size z.2.2.1) z.2.1.1 z.2.1.2∧ln z.1.2<=100000000000∧ln z.2.1.2<=100000000000∧Nat.gcd z.1.2 z.2.1.2=Nat.gcd n m,?_,?_⟩
 ·intro O w' r
  exact⟨((v,n),(u,m),[],w'),⟨r.cM,(hn.cG fun g hg=>r.cM.block g (hS g hg)).cI fun _ hg=>.inl hg,(hm.cG fun g hg=>r.cM.block g (hS g hg)).cI fun _ hg=>.inl hg,hln,hlm,rfl⟩,
   Sub.gen [] r trivial ⟨rfl,rfl,trivial⟩ trivial (by simp[jn,SV.sc,At.sc]) (by rfl) (by simp)⟩
 ·rintro⟨⟨vx,x⟩,⟨vy,y⟩,iv,w1⟩ ⟨hw,hx,hy,hlx,hly,hg⟩;dsimp only at hw hx hy hlx hly hg ⊢;have hyN:=hy;obtain⟨p,rfl,hp1,hp2⟩:=hy.la;have hpl:=eE p.lm hp2;rw[hp1]at hpl;refine dI.mk (fun h=>?_) (fun h=>?_)
  ·have h:0<p.ls.length:=by
    have:(p.ls.length:Int)>0:=aI h;omega
   have hy0:0<y:=by
    rcases bJ y with h0|h0
    ·rw[h0]at hpl;rw[J5]at hpl;omega
    ·exact h0
   refine cC (cL (Φ:=fun _ w' v w2=>∃q r,v= .tuple #[q,r]∧dh w2 (Nf w' w2) q (x / y)∧dh w2 (Nw (Cv S w.heap.size iv) w' w2) r (x % y)) (fun O w' r=>pQ (Rel.old r hS) (hx.rel r hS) (hyN.rel r hS) hy0 hlx) ?_);rintro O w3 v3 w4 r he hb4 ⟨q,rm,rfl,-,hr⟩;replace hw:=hw.tr hb4;have hrN:dh w4 (Cv S w.heap.size ((w3.heap.size,w4.heap.size)::iv)) rm (x % y):=hr.cI fun g hg=>Nw.cv hg r.cD;have hyN:=hyN.cF (iv':=(w3.heap.size,w4.heap.size)::iv) r hS he fun x hx=>aC _ hx;generalize (w3.heap.size,w4.heap.size)::iv=iv2 at*
   intro ρ5 w5 r5
   refine⟨((_,y),(rm,x % y),iv2,w5),⟨hw.tr r5.cM,hyN.rel r5 hS,hrN.rel r5 hS,hly,a9 (eu (Nat.le_of_lt (bs x hy0))) hly,?_⟩,
    Sub.gen [] r5 trivial ⟨rfl,rfl,trivial⟩ trivial (by simp[jn,SV.sc,At.sc]) (by rfl) (by simp),bs x hy0⟩
   dsimp only
   rw[<-hg,Nat.gcd_comm x y,Nat.gcd_rec y x,Nat.gcd_comm]
  ·have h:p.ls.length=0:=by
    have:¬(p.ls.length:Int)>0:=aH h;omega
   have hy0:y=0:=by
    have:=kV y;rw[<-hpl,h,im]at this;omega
   rw[hy0,Nat.gcd_zero_right]at hg;intro ρ5 w5 r5;exact⟨_,rfl,hw.tr r5.cM,by rw[<-hg];exact(hx.rel r5 hS).cI fun g hg=>Cv.nw hg r5⟩
def sg(neg:Bool)(n:Nat):Int:=if neg then -(n:Int)else n
theorem Ii(n:Nat):sg true n= -(n:Int):=rfl
theorem LR(n:Nat):sg false n=n:=rfl
theorem rz(b:Bool)(n:Nat):(sg b n).natAbs=n:=by cases b<;>simp[sg]
def tY(w:World)(S:Nat->Prop)(v:Value)(neg:Bool)(ls:List Nat):Prop:=∃lv,v= .agg #[.bool neg,lv]∧dH w S lv ls
def eF(w:World)(S:Nat->Prop)(v:Value)(z:Int):Prop:=∃nv,v= .agg #[.bool (decide (z<0)),nv]∧dh w S nv z.natAbs
section
variable{S S':Nat->Prop}{H:Hp}{nx:Nat}{iv iv':Iv}{B:Nat}{w w' w2:World}{O:Nat->Sx.df}{v:Value}{z:Int}
theorem eF.cG(h:eF w S v z)(hk:∀g,S g->w2.heap[g]? =w.heap[g]?):eF w2 S v z:=by
 obtain⟨nv,h1,h2⟩:=h;exact⟨nv,h1,h2.cG hk⟩
theorem eF.cI(h:eF w S v z)(hk:∀g,S g->S' g):eF w S' v z:=by
 obtain⟨nv,h1,h2⟩:=h;exact⟨nv,h1,h2.cI hk⟩
theorem eF.rel(h:eF w (Cv S B iv) v z)(r:Rel H nx iv B w O w')(hS:∀g,S g->g<B):eF w' (Cv S B iv) v z:=h.cG fun _ hg=>Rel.same r hS hg
theorem eF.cF(h:eF w (Cv S B iv) v z)(r:Rel H nx iv B w O w')(hS:∀g,S g->g<B)(he:Ext w' w2)(hm:∀p,p∈iv->p∈iv'):eF w2 (Cv S B iv') v z:=by
 obtain⟨nv,h1,h2⟩:=h;exact⟨nv,h1,h2.cF r hS he hm⟩
theorem eF.c9(h:eF w2 (Nf w' w2) v z)(hB:B<=w'.heap.size)(hm:(w'.heap.size,w2.heap.size)∈iv):eF w2 (Cv S B iv) v z:=h.cI fun _ hg=>hg.c9 hB hm
end
theorem uh{k:Nat}(h:k=ln n):0<k↔0<n:=by
 have h1:=@fg n 0;rw[im]at h1;omega
theorem dH.shape(h:dH w S v ls):∃a n c,v= .slice a n c:=by
 obtain⟨a,c,h,_⟩:=h.sl;exact⟨a,_,c,h⟩
theorem dh.shape(h:dh w S v n):∃a n c,v= .slice a n c:=by
 obtain⟨_,h,_⟩:=h;exact h.shape
theorem dH.arg(h:dH w S v ls)(iv:Iv):dH w (Cv S w.heap.size iv) v ls:=h.cI fun _ h=>.inl h
theorem dh.arg(h:dh w S v n)(iv:Iv):dh w (Cv S w.heap.size iv) v n:=h.cI fun _ h=>.inl h
theorem dh.out(h:dh w1 (Cv S w.heap.size iv) v n)(r:Rel H nx iv w.heap.size w1 O w')(hS:Old S w):dh w' (Nw S w w') v n:=
 (h.rel r hS).cI fun _ hg=>Cv.nw hg r
theorem eF.out(h:eF w1 (Cv S w.heap.size iv) v z)(r:Rel H nx iv w.heap.size w1 O w')(hS:Old S w):eF w' (Nw S w w') v z:=
 (h.rel r hS).cI fun _ hg=>Cv.nw hg r
theorem neg_pos{k:Nat}(h:k=ln n):decide ((k:Int)>0)=decide (-(n:Int)<0):=by
 have:=uh h;exact decide_eq_decide.2 (by omega)
theorem cB(w:World):Old (fun _=>False) w:=fun _ h=>h.elim
theorem Mg{neg:Bool}(hS:Old S w)(h:tY w S v neg ls):
  dm PG N.yc #[v] w (eB w fun v' w2=>eF w2 (Nw S w w2) v' (sg neg (val ls))):=by
 obtain⟨lv,rfl,hl⟩:=h;replace hl:=hl.arg [];refine D2 (by simp) ?_;refine cC (cL (Φ:=fun _ _ v w2=>dH w2 (Cv S w.heap.size []) v (dg ls)) (fun O w' r=>fA (Rel.old r hS) (dH.rel hl r hS)) ?_);rintro O w1 v1 w2 r he hw hL;have hN:=hL.trimmed.cI (S':=Cv S w.heap.size [(w1.heap.size,w2.heap.size)]) fun _ hg=>hg.cons;have hN2:=hN;obtain⟨p,rfl,hp1,hp2⟩:=hN.la;have hpl:=eE p.lm hp2;rw[hp1]at hpl
 cases neg
 ·intro ρ3 w3 r3;exact⟨_,rfl,hw.tr r3.cM,_,rfl,by rw[rz];exact hN2.out r3 hS⟩
 ·intro ρ3 w3 r3;exact⟨_,rfl,hw.tr r3.cM,_,by rw[Ii,<-neg_pos hpl];rfl,by rw[rz];exact hN2.out r3 hS⟩
theorem Ij(hS:Old S w)(h:eF w S v z)(hln:ln z.natAbs<=100000000000):
  dm PG N.lW #[v] w (eB w fun v' w2=>∃ls,tY w2 (Nf w w2) v' (decide (z<0)) ls∧Nz ls∧val ls=z.natAbs):=by
 obtain⟨nv,rfl,hn⟩:=h;obtain⟨ls,hl,hz,hv⟩:=hn;replace hl:=hl.arg [];refine pM (by simp) ?_;refine cC (cL (Φ:=fun _ _ v w2=>dH w2 (Cv S w.heap.size []) v (dg ls)) (fun O w' r=>fA (Rel.old r hS) (dH.rel hl r hS)) ?_);rintro O w1 v1 w2 r he hw hL;rw[Ct hz]at hL;have hpl:=eE hl.lm hz;rw[hv]at hpl;replace hL:=hL.cI (S':=Cv S w.heap.size [(w1.heap.size,w2.heap.size)]) fun _ hg=>hg.cons;have hL2:=hL;obtain⟨p,rfl,hp⟩:=hL.la;have hpz:(p.ls.length:Int)>0↔z≠0:=by
  have h1:=uh hpl;rw[hp];omega
 subst hp;generalize hb:decide (z<0)=b
 cases b
 all_goals
  refine cC (cL (Φ:=fun _ w' v w2=>dH w2 (Nf w' w2) v p.ls) (fun O w' r=>Fw (Rel.old r hS) (dH.rel hL2 r hS) (by omega)) ?_);rintro O w3 v3 w4 r he hb4 hc;replace hw:=hw.tr hb4;have hcL:=hc.c9 (S:=fun _=>False) r.cD (iv:=(w3.heap.size,w4.heap.size)::[(w1.heap.size,w2.heap.size)]) aJ;obtain⟨a3,n3,c3,rfl⟩:=hcL.shape;intro ρ5 w5 r5;refine⟨_,rfl,hw.tr r5.cM,p.ls,⟨_,?_,(dH.rel hcL r5 (cB w)).cI fun _ hg=>Cv.nw hg r5⟩,hz,hv⟩
 ·rfl
 ·have:decide ((p.ls.length:Int)>0)=true:=bR (hpz.2 (by have:=aI hb;omega));rw[<-this];rfl
theorem zM(h:eF w S v z):dm PG N.lT #[v] w (eB w fun v' _=>v'= .int .i64 z.sign):=by
 obtain⟨nv,rfl,hn⟩:=h;obtain⟨p,rfl,hp1,hp2⟩:=hn.la;have hpl:=eE p.lm hp2;rw[hp1]at hpl;have hpz:=uh hpl;generalize hb:decide (z<0)=b;refine pK (by simp) ?_;refine dI.mk (fun h=>?_) (fun h=>?_)
 ·have h:p.ls.length=0:=by have:=eq_of_beq h;omega
  have hz:z=0:=by omega
  subst hz;intro O w2 r;exact⟨_,rfl,r.cM,rfl⟩
 ·have h:p.ls.length≠0:=fun e=>by rw[e]at h;simp at h
  have hz:z≠0:=by omega
  cases b
  ·have:=aH hb;intro O w2 r;exact⟨_,rfl,r.cM,by rw[b9 (by omega)];rfl⟩
  ·have:=aI hb;intro O w2 r;exact⟨_,rfl,r.cM,by rw[bZ (by omega)];rfl⟩
theorem nf(hS:Old S w)(h:eF w S v z):dm PG N.kh #[v] w (eB w fun v' w2=>eF w2 (Nw S w w2) v' (-z)):=by
 obtain⟨nv,rfl,hn⟩:=h;have hn2:=hn.arg [];obtain⟨p,rfl,hp1,hp2⟩:=hn.la;have hpl:=eE p.lm hp2;rw[hp1]at hpl;have hpz:=uh hpl;have hab:(-z).natAbs=z.natAbs:=bz z;generalize hb:decide (z<0)=b;refine oM (by simp) ?_
 cases b
 ·have:=aH hb;have hd:decide ((p.ls.length:Int)>0)=decide (-z<0):=decide_eq_decide.2 (by omega);intro O w2 r;exact⟨_,rfl,r.cM,_,by rw[<-hd];rfl,by rw[hab];exact hn2.out r hS⟩
 ·have:=aI hb;have hd:decide (-z<0)=false:=bF (by omega);intro O w2 r;exact⟨_,rfl,r.cM,_,by rw[hd];rfl,by rw[hab];exact hn2.out r hS⟩
theorem eF.num(h:eF w S v z):∃a n c,v= .agg #[.bool (decide (z<0)),.slice a n c]∧dh w S (.slice a n c) z.natAbs:=by
 obtain⟨nv,h1,h2⟩:=h;obtain⟨a,n,c,rfl⟩:=h2.shape;exact⟨a,n,c,h1,h2⟩
theorem BC(hS:Old S w)(hx:eF w S v x)(hy:eF w S u y)(hlx:ln x.natAbs<=100000000000)(hly:ln y.natAbs<=100000000000):
  dm PG N.lV #[v,u] w (eB w fun v' w2=>eF w2 (Nf w w2) v' (x+y)):=by
 obtain⟨nx,rfl,hxn⟩:=hx;obtain⟨ny,rfl,hyn⟩:=hy;obtain⟨ax,lx,cx,rfl⟩:=hxn.shape;obtain⟨ay,ly,cy,rfl⟩:=hyn.shape;replace hxn:=hxn.arg [];replace hyn:=hyn.arg [];generalize hbx:decide (x<0)=bx;generalize hby:decide (y<0)=b2;refine pL (by simp) ?_;have hsame:bx=b2->(x+y).natAbs=x.natAbs+y.natAbs∧decide (x+y<0)=bx:=fun e=>by
  cases bx<;>subst e
  ·have h1:=aH hbx;have h2:=aH hby;exact⟨by omega,bF (by omega)⟩
  ·have h1:=aI hbx;have h2:=aI hby;exact⟨by omega,bR (by omega)⟩
 have hdiff:bx≠b2->y.natAbs<=x.natAbs->(x+y).natAbs=x.natAbs-y.natAbs∧(decide (x+y<0)=(bx&&decide (x.natAbs-y.natAbs≠0))):=fun e h=>by
  cases bx
  ·have h1:=aH hbx
   cases b2
   ·exact absurd rfl e
   have h2:=aI hby;exact⟨by omega,by rw[Bool.false_and];exact bF (by omega)⟩
  ·have h1:=aI hbx
   cases b2
   ·have h2:=aH hby;exact⟨by omega,by rw[Bool.true_and];exact decide_eq_decide.2 (by omega)⟩
   ·exact absurd rfl e
 have hdiff2:bx≠b2->x.natAbs<y.natAbs->(x+y).natAbs=y.natAbs-x.natAbs∧decide (x+y<0)=b2:=fun e h=>by
  cases bx
  ·have h1:=aH hbx
   cases b2
   ·exact absurd rfl e
   have h2:=aI hby;exact⟨by omega,bR (by omega)⟩
  ·have h1:=aI hbx
   cases b2
   ·have h2:=aH hby;exact⟨by omega,bF (by omega)⟩
   ·exact absurd rfl e
 by_cases hbb:bx=b2
 ·obtain⟨h1,h2⟩:=hsame hbb;subst hbb
  cases bx
  all_goals
   refine cJ hτ db [.x 0,.x 1,.x 2,.x 3,.x 4,.x 5,.x 6,.x 7,.x 8] (by kernel_rfl) (by kernel_rfl) ?_;refine cL (Φ:=fun _ w' v w2=>dh w2 (Nf w' w2) v (x.natAbs+y.natAbs)) (fun O w' r=>LX (Rel.old r hS) (hxn.rel r hS) (hyn.rel r hS) (by omega) (by omega)) ?_;rintro O w3 v3 w4 r he hw hn;have hN:=hn.c9 (S:=fun _=>False) r.cD (iv:=(w3.heap.size,w4.heap.size)::[]) aJ;obtain⟨a3,n3,c3,rfl⟩:=hN.shape;intro ρ5 w5 r5;exact⟨_,rfl,hw.tr r5.cM,_,by rw[h2];rfl,by rw[h1];exact hN.out r5 (cB w)⟩
 ·replace hdiff:=hdiff hbb;replace hdiff2:=hdiff2 hbb;have hcmp:∀d:Int,d=r9 x.natAbs y.natAbs->(0<=d↔y.natAbs<=x.natAbs):=fun d e=>by
   rw[e];unfold r9;split
   ·omega
   ·split<;>omega
  cases bx<;>cases b2<;>first|exact absurd rfl hbb|skip
  all_goals
   refine cC (cL (Φ:=fun _ _ v _=>v= .int .i64 (r9 x.natAbs y.natAbs)) (fun O w' r=>IU (Rel.old r hS) (hxn.rel r hS) (hyn.rel r hS)) ?_);rintro O w1 v1 w2 r he hw rfl;replace hxn:=hxn.cF (iv':=[(w1.heap.size,w2.heap.size)]) r hS he fun x hx=>aC _ hx;replace hyn:=hyn.cF (iv':=[(w1.heap.size,w2.heap.size)]) r hS he fun x hx=>aC _ hx;refine dI.mk (fun h=>?_) (fun h=>?_)
   ·have h:=(hcmp _ rfl).1 (aI h);obtain⟨h1,h2⟩:=hdiff h;refine cC (cL (Φ:=fun _ w' v w2=>dh w2 (Nf w' w2) v (x.natAbs-y.natAbs)) (fun O w' r=>By (Rel.old r hS) (hxn.rel r hS) (hyn.rel r hS) h (by omega)) ?_);rintro O w3 v3 w4 r he hb4 hn;replace hw:=hw.tr hb4;have hN:=hn.c9 (S:=fun _=>False) r.cD (iv:=(w3.heap.size,w4.heap.size)::[(w1.heap.size,w2.heap.size)]) aJ;have hN2:=hN;obtain⟨p,rfl,hp1,hp2⟩:=hN.la;have hpl:=eE p.lm hp2;rw[hp1]at hpl;have hpz:=uh hpl;have hd:decide ((p.ls.length:Int)>0)=decide (x.natAbs-y.natAbs≠0):=decide_eq_decide.2 (by omega);intro ρ5 w5 r5;exact⟨_,rfl,hw.tr r5.cM,_,by rw[h2,<-hd];rfl,by rw[h1];exact hN2.out r5 (cB w)⟩
   ·have h:x.natAbs<y.natAbs:=by
     have h0:=aH h;have:=hcmp _ rfl;omega
    obtain⟨h1,h2⟩:=hdiff2 h;refine cJ hτ db [.x 0,.x 1,.x 2,.x 3,.x 4,.x 5,.x 6,.x 7,.x 8] (by kernel_rfl) (by kernel_rfl) ?_;refine cL (Φ:=fun _ w' v w2=>dh w2 (Nf w' w2) v (y.natAbs-x.natAbs)) (fun O w' r=>By (Rel.old r hS) (hyn.rel r hS) (hxn.rel r hS) (by omega) (by omega)) ?_;rintro O w3 v3 w4 r he hb4 hn;replace hw:=hw.tr hb4;have hN:=hn.c9 (S:=fun _=>False) r.cD (iv:=(w3.heap.size,w4.heap.size)::[(w1.heap.size,w2.heap.size)]) aJ;obtain⟨a3,n3,c3,rfl⟩:=hN.shape;intro ρ5 w5 r5;exact⟨_,rfl,hw.tr r5.cM,_,by rw[h2];rfl,by rw[h1];exact hN.out r5 (cB w)⟩
theorem gZ(hS:Old S w)(hx:eF w S v x)(hy:eF w S u y)(hlx:ln x.natAbs<=100000000000)(hly:ln y.natAbs<=100000000000):
  dm PG N.kg #[v,u] w (eB w fun v' w2=>eF w2 (Nf w w2) v' (x*y)):=by
 obtain⟨nx,rfl,hxn⟩:=hx;obtain⟨ny,rfl,hyn⟩:=hy;obtain⟨ax,lx,cx,rfl⟩:=hxn.shape;obtain⟨ay,ly,cy,rfl⟩:=hyn.shape;replace hxn:=hxn.arg [];replace hyn:=hyn.arg [];have hab:=Int.natAbs_mul x y;have hneg:decide (x*y<0)=((decide (x<0) != decide (y<0))&&decide (x.natAbs*y.natAbs≠0)):=by
  by_cases h0:x*y=0
  ·rw[<-hab,h0];simp
  ·have hx0:x≠0:=fun e=>h0 (by rw[e,Int.zero_mul]);have hy0:y≠0:=fun e=>h0 (by rw[e,Int.mul_zero]);rw[<-hab,bR (show (x*y).natAbs≠0 by omega),Bool.and_true];by_cases h1:x<0<;>by_cases h2:y<0
   ·rw[bR h1,bR h2];exact bF (by have:=Int.mul_pos_of_neg_of_neg h1 h2;omega)
   ·rw[bR h1,bF h2];exact bR (Int.mul_neg_of_neg_of_pos h1 (by omega))
   ·rw[bF h1,bR h2];exact bR (Int.mul_neg_of_pos_of_neg (by omega) h2)
   ·rw[bF h1,bF h2];exact bF (by have:=Int.mul_nonneg (show 0<=x by omega) (show 0<=y by omega);omega)
 generalize decide (x<0)=bx at*
 generalize decide (y<0)=b2 at*
 refine oL (by simp) ?_;refine cC (cL (Φ:=fun _ w' v w2=>dh w2 (Nf w' w2) v (x.natAbs*y.natAbs)) (fun O w' r=>Fy (Rel.old r hS) (hxn.rel r hS) (hyn.rel r hS) (by omega) (by omega)) ?_);rintro O w3 v3 w4 r he hw hn;have hN:=hn.c9 (S:=fun _=>False) r.cD (iv:=(w3.heap.size,w4.heap.size)::[]) aJ;have hN2:=hN;obtain⟨p,rfl,hp1,hp2⟩:=hN.la;have hpl:=eE p.lm hp2;rw[hp1]at hpl;have hpz:=uh hpl;have hd:decide ((p.ls.length:Int)>0)=decide (x.natAbs*y.natAbs≠0):=decide_eq_decide.2 (by omega)
 cases bx<;>cases b2
 all_goals
  intro ρ5 w5 r5;exact⟨_,rfl,hw.tr r5.cM,_,by rw[hneg,<-hd];rfl,by rw[hab];exact hN2.out r5 (cB w)⟩
theorem Im(hS:Old S w)(hx:eF w S v x)(hy:eF w S u y)(hlx:ln x.natAbs<=100000000000)(hly:ln y.natAbs<=100000000000):
  dm PG N.ma #[v,u] w (eB w fun v' _=>v'= .int .i64 (x-y).sign):=by
 have hxN:eF w (Cv S w.heap.size []) v x:=hx.cI fun _ h=>.inl h;have hyN:eF w (Cv S w.heap.size []) u y:=hy.cI fun _ h=>.inl h;obtain⟨nx,rfl,hxn⟩:=hx;obtain⟨ny,rfl,hyn⟩:=hy;obtain⟨ax,lx,cx,rfl⟩:=hxn.shape;obtain⟨ay,ly,cy,rfl⟩:=hyn.shape;refine qS (by simp) ?_;refine cJ hτ db [.x 0,.x 1,.x 2,.x 3,.x 4,.x 5] (by kernel_rfl) (by kernel_rfl) ?_;refine cL (Φ:=fun _ w' v w2=>eF w2 (Nw (Cv S w.heap.size []) w' w2) v (-y)) (fun O w' r=>nf (Rel.old r hS) (hyN.rel r hS)) ?_;rintro O w1 v1 w2 r he hw hm;have hmN:eF w2 (Cv S w.heap.size [(w1.heap.size,w2.heap.size)]) v1 (-y):=hm.cI fun _ hg=>Nw.cv hg r.cD;replace hxN:=hxN.cF (iv':=[(w1.heap.size,w2.heap.size)]) r hS he fun x hx=>aC _ hx;generalize [(w1.heap.size,w2.heap.size)]=iv at*
 have hmN2:=hmN;obtain⟨am,lm,cm,rfl,-⟩:=hmN.num;refine cL (Φ:=fun _ w' v w2=>eF w2 (Nf w' w2) v (x+ -y)) (fun O w' r=>BC (Rel.old r hS) (hxN.rel r hS) (hmN2.rel r hS) hlx (by rw[bz];exact hly)) ?_;rintro O w3 v3 w4 r he hb4 hp;replace hw:=hw.tr hb4;have hpN:=hp.c9 (S:=S) r.cD (iv:=(w3.heap.size,w4.heap.size)::iv) aJ;have hpN2:=hpN;obtain⟨ap,lp,cp,rfl,-⟩:=hpN.num;refine cL (Φ:=fun _ _ v _=>v= .int .i64 (x-y).sign) (fun O w' r=>zM (hpN2.rel r hS)) ?_;rintro O w5 v5 w6 r he hb6 rfl;replace hw:=hw.tr hb6;intro ρ7 w7 r7;exact⟨_,rfl,hw.tr r7.cM,rfl⟩
theorem nk(n:Int)(w:World)(h1: -9223372036854775808<=n)(h2:n<=9223372036854775807):
  dm PG N.vX #[.int .i64 n] w (eB w fun v' w2=>eF w2 (Nf w w2) v' n):=by
 have key:∀(m:Nat),m=n.natAbs->m<18446744073709551616∧val [m % 4294967296,m / 4294967296]=n.natAbs∧m / 4294967296<4294967296:=fun m e=>by
  refine⟨by omega,?_,by omega⟩;simp only[val]
  omega
 refine zB (by simp) ?_;refine⟨if n<0 then n+18446744073709551616 else n,by show n % 18446744073709551616=_;split<;>omega,?_⟩;refine dI.mk (fun h=>?_) (fun h=>?_)
 ·have h:=aI h;rw[if_pos h];obtain⟨m,hm⟩:∃m,m=n.natAbs:=⟨_,rfl⟩
  obtain⟨k1,k2,k3⟩:=key m hm;refine⟨(m:Int),by show(0-(n+18446744073709551616)) % 18446744073709551616=_;omega,((m % 4294967296:Nat):Int),ek m,by decide,((m / 2^32:Nat):Int),kz 32 (by decide),((m / 4294967296:Nat):Int),by rw[ek,bL (by omega)],?_⟩;refine gC (Φ:=fun O _ v w2=>dH w2 (fun g=>g=(O 1).g) v (dg [m % 4294967296,m / 4294967296])) (H':=[(0,.box T.number [.v (.bool false),.v (.slice none 0 0)])]) 1 rfl (by simp) ⟨rfl,trivial⟩ rfl (fun O w' r=>r.nn 1 _ rfl (by intros;simp) (by simp)) (fun O w' r=>?_) ?_
  ·have hL:=r.tR (id:=1) (ls:=[m % 4294967296,m / 4294967296]) rfl (by intro x hx;simp at hx;omega) (by simp);exact fA (fun g hg=>by rw[hg];exact(r.low 1 _ rfl (r.nn 1 _ rfl (by intros;simp) (by simp))).2) hL
  rintro O w1 v1 w2 r he hw hL;have hlow:=r.low 1 _ rfl (r.nn 1 _ rfl (by intros;simp) (by simp));have hs:=he.size;generalize (O 1).g=g0 at*
  have hN:dh w2 (Cf w [(g0,g0+1),(w1.heap.size,w2.heap.size)]) v1 n.natAbs:=by
   have:=hL.trimmed;rw[k2]at this;exact this.cI fun k hk=>.inr ⟨by omega,g0,g0+1,by simp,by omega,by omega⟩
  generalize [(g0,g0+1),(w1.heap.size,w2.heap.size)]=iv at*
  obtain⟨a3,n3,c3,rfl⟩:=hN.shape;intro ρ5 w5 r5;exact⟨_,rfl,hw.tr r5.cM,_,rfl,hN.out r5 (cB w)⟩
 ·have h:=aH h;rw[aK h];obtain⟨m,hm⟩:∃m,m=n.natAbs:=⟨_,rfl⟩
  obtain⟨k1,k2,k3⟩:=key m hm;have hmn:n=(m:Int):=by omega
  refine⟨((m % 4294967296:Nat):Int),by rw[hmn];exact ek m,by decide,((m / 2^32:Nat):Int),by rw[hmn];exact kz 32 (by decide),((m / 4294967296:Nat):Int),by rw[ek,bL (by omega)],?_⟩;refine gC (Φ:=fun O _ v w2=>dH w2 (fun g=>g=(O 1).g) v (dg [m % 4294967296,m / 4294967296])) (H':=[(0,.box T.number [.v (.bool false),.v (.slice none 0 0)])]) 1 rfl (by simp) ⟨rfl,trivial⟩ rfl (fun O w' r=>r.nn 1 _ rfl (by intros;simp) (by simp)) (fun O w' r=>?_) ?_
  ·have hL:=r.tR (id:=1) (ls:=[m % 4294967296,m / 4294967296]) rfl (by intro x hx;simp at hx;omega) (by simp);exact fA (fun g hg=>by rw[hg];exact(r.low 1 _ rfl (r.nn 1 _ rfl (by intros;simp) (by simp))).2) hL
  rintro O w1 v1 w2 r he hw hL;have hlow:=r.low 1 _ rfl (r.nn 1 _ rfl (by intros;simp) (by simp));have hs:=he.size;generalize (O 1).g=g0 at*
  have hN:dh w2 (Cf w [(g0,g0+1),(w1.heap.size,w2.heap.size)]) v1 n.natAbs:=by
   have:=hL.trimmed;rw[k2]at this;exact this.cI fun k hk=>.inr ⟨by omega,g0,g0+1,by simp,by omega,by omega⟩
  generalize [(g0,g0+1),(w1.heap.size,w2.heap.size)]=iv at*
  obtain⟨a3,n3,c3,rfl⟩:=hN.shape;intro ρ5 w5 r5;exact⟨_,rfl,hw.tr r5.cM,_,rfl,hN.out r5 (cB w)⟩
def jF(w:World)(S:Nat->Prop)(v:Value)(z:Int):Prop:=∃neg ls,tY w S v neg ls∧sg neg (val ls)=z
def dC(w:World)(S:Nat->Prop)(v:Value)(z:Int):Prop:=∃ls,tY w S v (decide (z<0)) ls∧Nz ls∧val ls=z.natAbs
theorem BF(z:Int):sg (decide (z<0)) z.natAbs=z:=by
 by_cases h:z<0
 ·rw[bR h,Ii];omega
 ·rw[bF h,LR];omega
theorem dC.r(h:dC w S v z):jF w S v z:=by
 obtain⟨ls,h1,h2,h3⟩:=h;exact⟨_,ls,h1,by rw[h3,BF]⟩
section
variable{S S':Nat->Prop}{H:Hp}{nx:Nat}{iv iv':Iv}{B:Nat}{w w' w2:World}{O:Nat->Sx.df}{v:Value}{z:Int}{neg:Bool}{ls:List Nat}
theorem tY.cG(h:tY w S v neg ls)(hk:∀g,S g->w2.heap[g]? =w.heap[g]?):tY w2 S v neg ls:=by
 obtain⟨lv,h1,h2⟩:=h;exact⟨lv,h1,h2.cG hk⟩
theorem tY.cI(h:tY w S v neg ls)(hk:∀g,S g->S' g):tY w S' v neg ls:=by
 obtain⟨lv,h1,h2⟩:=h;exact⟨lv,h1,h2.cI hk⟩
theorem jF.cG(h:jF w S v z)(hk:∀g,S g->w2.heap[g]? =w.heap[g]?):jF w2 S v z:=by
 obtain⟨n,l,h1,h2⟩:=h;exact⟨n,l,h1.cG hk,h2⟩
theorem jF.cI(h:jF w S v z)(hk:∀g,S g->S' g):jF w S' v z:=by
 obtain⟨n,l,h1,h2⟩:=h;exact⟨n,l,h1.cI hk,h2⟩
theorem dC.cG(h:dC w S v z)(hk:∀g,S g->w2.heap[g]? =w.heap[g]?):dC w2 S v z:=by
 obtain⟨l,h1,h2⟩:=h;exact⟨l,h1.cG hk,h2⟩
theorem dC.cI(h:dC w S v z)(hk:∀g,S g->S' g):dC w S' v z:=by
 obtain⟨l,h1,h2⟩:=h;exact⟨l,h1.cI hk,h2⟩
theorem jF.rel(h:jF w (Cv S B iv) v z)(r:Rel H nx iv B w O w')(hS:∀g,S g->g<B):jF w' (Cv S B iv) v z:=h.cG fun _ hg=>Rel.same r hS hg
theorem dC.rel(h:dC w (Cv S B iv) v z)(r:Rel H nx iv B w O w')(hS:∀g,S g->g<B):dC w' (Cv S B iv) v z:=h.cG fun _ hg=>Rel.same r hS hg
theorem jF.cF(h:jF w (Cv S B iv) v z)(r:Rel H nx iv B w O w')(hS:∀g,S g->g<B)(he:Ext w' w2)(hm:∀p,p∈iv->p∈iv'):jF w2 (Cv S B iv') v z:=
 ((h.rel r hS).cG fun g hg=>he.block g (Rel.old r hS g hg)).cI fun _ hg=>hg.mono hm
theorem dC.cF(h:dC w (Cv S B iv) v z)(r:Rel H nx iv B w O w')(hS:∀g,S g->g<B)(he:Ext w' w2)(hm:∀p,p∈iv->p∈iv'):dC w2 (Cv S B iv') v z:=
 ((h.rel r hS).cG fun g hg=>he.block g (Rel.old r hS g hg)).cI fun _ hg=>hg.mono hm
theorem dC.c9(h:dC w2 (Nf w' w2) v z)(hB:B<=w'.heap.size)(hm:(w'.heap.size,w2.heap.size)∈iv):dC w2 (Cv S B iv) v z:=h.cI fun _ hg=>hg.c9 hB hm
theorem jF.shape(h:jF w S v z):∃b a n c,v= .agg #[.bool b,.slice a n c]:=by
 obtain⟨b,l,⟨lv,h1,h2⟩,_⟩:=h;obtain⟨a,n,c,rfl⟩:=h2.shape;exact⟨b,a,n,c,h1⟩
theorem eF.old(h:eF w2 (Nw (Cv S B iv) w' w2) v z)(hB:B<=w'.heap.size):eF w2 (Cv S B ((w'.heap.size,w2.heap.size)::iv)) v z:=h.cI fun _ hg=>Nw.cv hg hB
end
theorem dC.out(h:dC w1 (Cv S w.heap.size iv) v z)(r:Rel H nx iv w.heap.size w1 O w')(hS:Old S w):dC w' (Nw S w w') v z:=
 (h.rel r hS).cI fun _ hg=>Cv.nw hg r
theorem Iu(hS:Old S w)(h:jF w S v z):dm PG N.yc #[v] w (eB w fun v' w2=>eF w2 (Nw S w w2) v' z):=by
 obtain⟨n,l,h1,rfl⟩:=h;exact Mg hS h1
theorem eF.shape(h:eF w S v z):∃b a n c,v= .agg #[.bool b,.slice a n c]:=by
 obtain⟨a,n,c,h1,_⟩:=h.num;exact⟨_,a,n,c,h1⟩
theorem dC.shape(h:dC w S v z):∃b a n c,v= .agg #[.bool b,.slice a n c]:=h.r.shape
theorem cY(x y:Int):ln (x*y).natAbs<=ln x.natAbs+ln y.natAbs:=by
 rw[Int.natAbs_mul];exact Ko _ _
end Go.Ex
namespace Go.Ex
open Go Go.Sx
theorem yA{x y:Int}(hy:0<y)(hx:x≠0):
  (Rat.divInt x y).num.natAbs=x.natAbs / Nat.gcd x.natAbs y.natAbs∧(Rat.divInt x y).den=y.natAbs / Nat.gcd x.natAbs y.natAbs∧decide ((Rat.divInt x y).num<0)=decide (x<0):=by
 have hg:0<Nat.gcd x.natAbs y.natAbs:=bj _ (by omega);have hs:y.sign=1:=b9 hy;have hc:(y.gcd x:Int)=(Nat.gcd x.natAbs y.natAbs:Nat):=by rw[Int.gcd_comm];rfl
 have hdx:((Nat.gcd x.natAbs y.natAbs:Nat):Int) ∣ x:=by
  rw[<-Int.natAbs_dvd_natAbs];exact Nat.gcd_dvd_left _ _
 have h1:(Rat.divInt x y).num=x / ((Nat.gcd x.natAbs y.natAbs:Nat):Int):=by
  rw[Rat.num_divInt,hs,Int.one_mul,hc]
 have hgi:0<((Nat.gcd x.natAbs y.natAbs:Nat):Int):=by omega
 refine⟨?_,?_,?_⟩
 ·rw[h1,Int.natAbs_ediv_of_dvd hdx];rfl
 ·rw[Rat.den_divInt,aK (by omega)];have:y.gcd x=Nat.gcd x.natAbs y.natAbs:=by rw[Int.gcd_comm];rfl
  rw[this]
 ·rw[h1];obtain⟨k,hk⟩:=hdx;refine decide_eq_decide.2 ?_;have:x / ((Nat.gcd x.natAbs y.natAbs:Nat):Int)=k:=by
   conv=>lhs;lhs;rw[hk]
   exact Int.mul_ediv_cancel_left _ (by omega)
  rw[this];generalize ((Nat.gcd x.natAbs y.natAbs:Nat):Int)=g at*
  subst hk;constructor
  ·intro h;exact Int.mul_neg_of_pos_of_neg hgi h
  ·intro h;have h0:¬0<=k:=fun hh=>by have:=Int.mul_nonneg (show 0<=g by omega) hh;omega
   omega
theorem Gb{a b:Nat}:ln (a / b)<=ln a:=eu (Nat.div_le_self a b)
theorem yB(y:Int):Rat.divInt 0 y=0:=Rat.zero_divInt y
end Go.Ex
namespace Go.Ex
open Go Go.Sx Go.Proofs
variable{b b2:Bool}{S:Nat->Prop}{q:Rat}{dv nv v:Value}{w:World}
theorem dh.old{B:Nat}{iv:Iv}{w' w2:World}{n:Nat}(h:dh w2 (Nw (Cv S B iv) w' w2) v n)(hB:B<=w'.heap.size):dh w2 (Cv S B ((w'.heap.size,w2.heap.size)::iv)) v n:=h.cI fun _ hg=>Nw.cv hg hB
def dM(w:World)(S:Nat->Prop)(v:Value)(q:Rat):Prop:=∃nv dv,v= .agg #[.bool (decide (q.num<0)),nv,.bool false,dv]∧dh w S nv q.num.natAbs∧dh w S dv q.den
theorem dM.cG{w2:World}(h:dM w S v q)(hk:∀g,S g->w2.heap[g]? =w.heap[g]?):dM w2 S v q:=by
 obtain⟨n,d,h1,h2,h3⟩:=h;exact⟨n,d,h1,h2.cG hk,h3.cG hk⟩
theorem dM.cI{S':Nat->Prop}(h:dM w S v q)(hk:∀g,S g->S' g):dM w S' v q:=by
 obtain⟨n,d,h1,h2,h3⟩:=h;exact⟨n,d,h1,h2.cI hk,h3.cI hk⟩
theorem dM.shape(h:dM w S v q):∃b a n c b2 a2 n2 c2,v= .agg #[.bool b,.slice a n c,.bool b2,.slice a2 n2 c2]:=by
 obtain⟨n,d,h1,h2,h3⟩:=h;obtain⟨a,n,c,rfl⟩:=h2.shape;obtain⟨a2,n2,c2,rfl⟩:=h3.shape;exact⟨_,a,n,c,_,a2,n2,c2,h1⟩
theorem dM.num(h:dM w S (.agg #[.bool b,nv,.bool b2,dv]) q):eF w S (.agg #[.bool b,nv]) q.num:=by
 obtain⟨n,d,h1,h2,h3⟩:=h;simp at h1;obtain⟨rfl,rfl,rfl,rfl⟩:=h1;exact⟨_,rfl,h2⟩
theorem dM.den(h:dM w S (.agg #[.bool b,nv,.bool b2,dv]) q):eF w S (.agg #[.bool b2,dv]) (q.den:Int):=by
 obtain⟨n,d,h1,h2,h3⟩:=h;simp at h1;obtain⟨rfl,rfl,rfl,rfl⟩:=h1;exact⟨_,by rw[bF (by omega)],h3⟩
theorem dM.of(h:eF w S (.agg #[.bool b,nv]) q.num)(k:eF w S (.agg #[.bool b2,dv]) (q.den:Int)):dM w S (.agg #[.bool b,nv,.bool b2,dv]) q:=by
 obtain⟨n,h1,h2⟩:=h;obtain⟨d,h3,h4⟩:=k;simp at h1 h3;obtain⟨rfl,rfl⟩:=h1;obtain⟨rfl,rfl⟩:=h3;refine⟨_,_,?_,h2,h4⟩;rw[bF (show ¬((q.den:Int)<0) by omega)]
section
variable{S S':Nat->Prop}{H:Hp}{nx:Nat}{iv iv':Iv}{B:Nat}{w w' w2:World}{O:Nat->Sx.df}{v:Value}{q:Rat}
theorem dM.rel(h:dM w (Cv S B iv) v q)(r:Rel H nx iv B w O w')(hS:∀g,S g->g<B):dM w' (Cv S B iv) v q:=h.cG fun _ hg=>Rel.same r hS hg
theorem dM.cF(h:dM w (Cv S B iv) v q)(r:Rel H nx iv B w O w')(hS:∀g,S g->g<B)(he:Ext w' w2)(hm:∀p,p∈iv->p∈iv'):dM w2 (Cv S B iv') v q:=
 ((h.rel r hS).cG fun g hg=>he.block g (Rel.old r hS g hg)).cI fun _ hg=>hg.mono hm
theorem dM.c9(h:dM w2 (Nf w' w2) v q)(hB:B<=w'.heap.size)(hm:(w'.heap.size,w2.heap.size)∈iv):dM w2 (Cv S B iv) v q:=h.cI fun _ hg=>hg.c9 hB hm
theorem dM.old(h:dM w2 (Nw (Cv S B iv) w' w2) v q)(hB:B<=w'.heap.size):dM w2 (Cv S B ((w'.heap.size,w2.heap.size)::iv)) v q:=h.cI fun _ hg=>Nw.cv hg hB
theorem dM.out{w0 w1:World}(h:dM w1 (Cv S w0.heap.size iv) v q)(r:Rel H nx iv w0.heap.size w1 O w')(hS:Old S w0):dM w' (Nw S w0 w') v q:=
 (h.rel r hS).cI fun _ hg=>Cv.nw hg r
end
theorem eF.nat{z:Int}(h:eF w S (.agg #[.bool b,nv]) z):b=decide (z<0)∧dh w S nv z.natAbs:=by
 obtain⟨n,h1,h2⟩:=h;simp at h1;obtain⟨rfl,rfl⟩:=h1;exact⟨rfl,h2⟩
theorem ui{u:Value}{x y:Int}(hS:Old S w)(hx:eF w S v x)(hy:eF w S u y)(hy0:y≠0)(hlx:ln x.natAbs<=100000000000)(hly:ln y.natAbs<=100000000000):
  dm PG N.yd #[v,u] w (eB w fun v' w2=>dM w2 (Nf w w2) v' (Rat.divInt x y)):=by
 have hw:cV w.heap.size w w:=cV.refl;replace hx:=hx.cI (S':=Cv S w.heap.size []) fun _ h=>.inl h;replace hy:=hy.cI (S':=Cv S w.heap.size []) fun _ h=>.inl h;obtain⟨bx,ax,lx,cx,rfl⟩:=hx.shape;obtain⟨b2,ay,ly,cy,rfl⟩:=hy.shape;have hb2:=hy.nat.1;refine zp (by simp) ?_
 cases b2
 ·have hyp:0<y:=by have:=aH hb2.symm;omega
  have hq:Rat.divInt x y=Rat.divInt x y:=rfl;have hbA:=hx.nat.1;refine cC (cE hw (fun _ w' v w2=>v= .int .i64 (x).sign) (fun O w' r=>zM (hx.rel r hS)) ?_);rintro O wa1 v1 wb1 iv1 r he hw h_ rfl;replace hx:=hx.cF r hS he (mC h_);replace hy:=hy.cF r hS he (mC h_);refine dI.mk (fun h=>?_) (fun h=>?_)
  ·have h:x=0:=Int.sign_eq_zero_iff_zero.1 (eq_of_beq h);refine cC (cE hw (fun _ w' v w2=>eF w2 (Nf w' w2) v 1) (fun O w' r=>nk 1 w' (by decide) (by decide)) ?_);rintro O wa2 v2 wb2 iv2 r he hw h_ hn;have hO:=hn.c9 (S:=fun _=>False) r.cD (mN h_);obtain⟨s2_0,s2_1,s2_2,s2_3,rfl⟩:=hO.shape;have e0:Rat.divInt x y=0:=by rw[hq,h,yB]
   intro ρe we re;exact⟨_,rfl,hw.tr re.cM,by rw[e0];exact dM.of ⟨_,rfl,dh.nil _ _⟩ (hO.out re (cB w))⟩
  ·have h:x≠0:=fun e=>by rw[e]at h;exact absurd h (by decide)
   obtain⟨g1,g2,g3⟩:=yA hyp h;have hg0:0<Nat.gcd (x).natAbs (y).natAbs:=bj _ (by omega);have hAn:=hx.nat.2;have hBn:=hy.nat.2;refine cC (cL (Φ:=fun _ w' v w2=>dh w2 (Nw (Cv S w.heap.size iv1) w' w2) v (Nat.gcd (x).natAbs (y).natAbs)) (fun O w' r=>Dd (Rel.old r hS) (hAn.rel r hS) (hBn.rel r hS) (by omega) (by omega)) ?_);rintro O wa2 v2 wb2 r he hb hn;replace hw:=hw.tr hb;replace hAn:=hAn.cF (iv':=(wa2.heap.size,wb2.heap.size)::iv1) r hS he fun x hx=>aC _ hx;replace hBn:=hBn.cF (iv':=(wa2.heap.size,wb2.heap.size)::iv1) r hS he fun x hx=>aC _ hx;have hG:=hn.old r.cD;generalize (wa2.heap.size,wb2.heap.size)::iv1=iv2 at*
   obtain⟨s2_0,s2_1,s2_2,rfl⟩:=hG.shape;refine cC (cL (Φ:=fun _ w' v w2=>∃q r,v= .tuple #[q,r]∧dh w2 (Nf w' w2) q ((x).natAbs / Nat.gcd (x).natAbs (y).natAbs)∧dh w2 (Nw (Cv S w.heap.size iv2) w' w2) r ((x).natAbs % Nat.gcd (x).natAbs (y).natAbs)) (fun O w' r=>pQ (Rel.old r hS) (hAn.rel r hS) (hG.rel r hS) hg0 (by omega)) ?_);rintro O wa3 v3 wb3 r he hb ⟨qvp,rvp,rfl,hq1,hr1⟩;replace hw:=hw.tr hb;replace hBn:=hBn.cF (iv':=(wa3.heap.size,wb3.heap.size)::iv2) r hS he fun x hx=>aC _ hx;replace hG:=hG.cF (iv':=(wa3.heap.size,wb3.heap.size)::iv2) r hS he fun x hx=>aC _ hx;have hP:=hq1.c9 (S:=fun _=>False) r.cD (iv:=(wa3.heap.size,wb3.heap.size)::iv2) aJ;have hPr:=hr1.old r.cD;generalize (wa3.heap.size,wb3.heap.size)::iv2=iv3 at*
   obtain⟨s3_0a,s3_0b,s3_0c,rfl⟩:=hP.shape;obtain⟨s3_1a,s3_1b,s3_1c,rfl⟩:=hPr.shape;refine cC (cL (Φ:=fun _ w' v w2=>∃q r,v= .tuple #[q,r]∧dh w2 (Nf w' w2) q ((y).natAbs / Nat.gcd (x).natAbs (y).natAbs)∧dh w2 (Nw (Cv S w.heap.size iv3) w' w2) r ((y).natAbs % Nat.gcd (x).natAbs (y).natAbs)) (fun O w' r=>pQ (Rel.old r hS) (hBn.rel r hS) (hG.rel r hS) hg0 (by omega)) ?_);rintro O wa4 v4 wb4 r he hb ⟨qvq,rvq,rfl,hq1,hr1⟩;replace hw:=hw.tr hb;replace hP:=hP.cF (iv':=(wa4.heap.size,wb4.heap.size)::iv3) r (cB w) he fun x hx=>aC _ hx;have hQ:=hq1.c9 (S:=fun _=>False) r.cD (iv:=(wa4.heap.size,wb4.heap.size)::iv3) aJ;have hQr:=hr1.old r.cD;generalize (wa4.heap.size,wb4.heap.size)::iv3=iv4 at*
   obtain⟨s4_0a,s4_0b,s4_0c,rfl⟩:=hQ.shape;obtain⟨s4_1a,s4_1b,s4_1c,rfl⟩:=hQr.shape;intro ρe we re;exact⟨_,rfl,hw.tr re.cM,by rw[hq];exact dM.of ⟨_,by rw[g3,<-hbA],by rw[g1];exact hP.out re (cB w)⟩ ⟨_,by rw[bF (by omega)],by rw[g2];exact hQ.out re (cB w)⟩⟩
 ·have hyp:0< -y:=by have:=aI hb2.symm;omega
  have hq:Rat.divInt x y=Rat.divInt (-x) (-y):=(Rat.neg_divInt_neg _ _).symm;have nx:=bz x;have ny:=bz y;have hlx2:ln (-x).natAbs<=100000000000:=by rw[nx];exact hlx
  have hly2:ln (-y).natAbs<=100000000000:=by rw[ny];exact hly
  refine cJ hτ db [.x 0,.x 2,.x 1,.x 3,.x 4,.x 5] (by kernel_rfl) (by kernel_rfl) ?_;refine cL (Φ:=fun _ w' v w2=>eF w2 (Nw (Cv S w.heap.size []) w' w2) v (-x)) (fun O w' r=>nf (Rel.old r hS) (hx.rel r hS)) ?_;rintro O wa1 v1 wb1 r he hb hn;replace hw:=hw.tr hb;replace hy:=hy.cF (iv':=(wa1.heap.size,wb1.heap.size)::[]) r hS he fun x hx=>aC _ hx;have hA:=hn.old r.cD;generalize (wa1.heap.size,wb1.heap.size)::[]=iv1 at*
  obtain⟨s1_0,s1_1,s1_2,s1_3,rfl⟩:=hA.shape;refine cL (Φ:=fun _ w' v w2=>eF w2 (Nw (Cv S w.heap.size iv1) w' w2) v (-y)) (fun O w' r=>nf (Rel.old r hS) (hy.rel r hS)) ?_;rintro O wa2 v2 wb2 r he hb hn;replace hw:=hw.tr hb;replace hA:=hA.cF (iv':=(wa2.heap.size,wb2.heap.size)::iv1) r hS he fun x hx=>aC _ hx;have hB:=hn.old r.cD;generalize (wa2.heap.size,wb2.heap.size)::iv1=iv2 at*
  obtain⟨s2_0,s2_1,s2_2,s2_3,rfl⟩:=hB.shape;have hbA:=hA.nat.1;refine cC (cE hw (fun _ w' v w2=>v= .int .i64 (-x).sign) (fun O w' r=>zM (hA.rel r hS)) ?_);rintro O wa3 v3 wb3 iv3 r he hw h_ rfl;replace hA:=hA.cF r hS he (mC h_);replace hB:=hB.cF r hS he (mC h_);refine dI.mk (fun h=>?_) (fun h=>?_)
  ·have h: -x=0:=Int.sign_eq_zero_iff_zero.1 (eq_of_beq h);refine cC (cE hw (fun _ w' v w2=>eF w2 (Nf w' w2) v 1) (fun O w' r=>nk 1 w' (by decide) (by decide)) ?_);rintro O wa4 v4 wb4 iv4 r he hw h_ hn;have hO:=hn.c9 (S:=fun _=>False) r.cD (mN h_);obtain⟨s4_0,s4_1,s4_2,s4_3,rfl⟩:=hO.shape;have e0:Rat.divInt x y=0:=by rw[hq,h,yB]
   intro ρe we re;exact⟨_,rfl,hw.tr re.cM,by rw[e0];exact dM.of ⟨_,rfl,dh.nil _ _⟩ (hO.out re (cB w))⟩
  ·have h: -x≠0:=fun e=>by rw[e]at h;exact absurd h (by decide)
   obtain⟨g1,g2,g3⟩:=yA hyp h;have hg0:0<Nat.gcd (-x).natAbs (-y).natAbs:=bj _ (by omega);have hAn:=hA.nat.2;have hBn:=hB.nat.2;refine cC (cL (Φ:=fun _ w' v w2=>dh w2 (Nw (Cv S w.heap.size iv3) w' w2) v (Nat.gcd (-x).natAbs (-y).natAbs)) (fun O w' r=>Dd (Rel.old r hS) (hAn.rel r hS) (hBn.rel r hS) (by omega) (by omega)) ?_);rintro O wa4 v4 wb4 r he hb hn;replace hw:=hw.tr hb;replace hAn:=hAn.cF (iv':=(wa4.heap.size,wb4.heap.size)::iv3) r hS he fun x hx=>aC _ hx;replace hBn:=hBn.cF (iv':=(wa4.heap.size,wb4.heap.size)::iv3) r hS he fun x hx=>aC _ hx;have hG:=hn.old r.cD;generalize (wa4.heap.size,wb4.heap.size)::iv3=iv4 at*
   obtain⟨s4_0,s4_1,s4_2,rfl⟩:=hG.shape;refine cC (cL (Φ:=fun _ w' v w2=>∃q r,v= .tuple #[q,r]∧dh w2 (Nf w' w2) q ((-x).natAbs / Nat.gcd (-x).natAbs (-y).natAbs)∧dh w2 (Nw (Cv S w.heap.size iv4) w' w2) r ((-x).natAbs % Nat.gcd (-x).natAbs (-y).natAbs)) (fun O w' r=>pQ (Rel.old r hS) (hAn.rel r hS) (hG.rel r hS) hg0 (by omega)) ?_);rintro O wa5 v5 wb5 r he hb ⟨qvp,rvp,rfl,hq1,hr1⟩;replace hw:=hw.tr hb;replace hBn:=hBn.cF (iv':=(wa5.heap.size,wb5.heap.size)::iv4) r hS he fun x hx=>aC _ hx;replace hG:=hG.cF (iv':=(wa5.heap.size,wb5.heap.size)::iv4) r hS he fun x hx=>aC _ hx;have hP:=hq1.c9 (S:=fun _=>False) r.cD (iv:=(wa5.heap.size,wb5.heap.size)::iv4) aJ;have hPr:=hr1.old r.cD;generalize (wa5.heap.size,wb5.heap.size)::iv4=iv5 at*
   obtain⟨s5_0a,s5_0b,s5_0c,rfl⟩:=hP.shape;obtain⟨s5_1a,s5_1b,s5_1c,rfl⟩:=hPr.shape;refine cC (cL (Φ:=fun _ w' v w2=>∃q r,v= .tuple #[q,r]∧dh w2 (Nf w' w2) q ((-y).natAbs / Nat.gcd (-x).natAbs (-y).natAbs)∧dh w2 (Nw (Cv S w.heap.size iv5) w' w2) r ((-y).natAbs % Nat.gcd (-x).natAbs (-y).natAbs)) (fun O w' r=>pQ (Rel.old r hS) (hBn.rel r hS) (hG.rel r hS) hg0 (by omega)) ?_);rintro O wa6 v6 wb6 r he hb ⟨qvq,rvq,rfl,hq1,hr1⟩;replace hw:=hw.tr hb;replace hP:=hP.cF (iv':=(wa6.heap.size,wb6.heap.size)::iv5) r (cB w) he fun x hx=>aC _ hx;have hQ:=hq1.c9 (S:=fun _=>False) r.cD (iv:=(wa6.heap.size,wb6.heap.size)::iv5) aJ;have hQr:=hr1.old r.cD;generalize (wa6.heap.size,wb6.heap.size)::iv5=iv6 at*
   obtain⟨s6_0a,s6_0b,s6_0c,rfl⟩:=hQ.shape;obtain⟨s6_1a,s6_1b,s6_1c,rfl⟩:=hQr.shape;intro ρe we re;exact⟨_,rfl,hw.tr re.cM,by rw[hq];exact dM.of ⟨_,by rw[g3,<-hbA],by rw[g1];exact hP.out re (cB w)⟩ ⟨_,by rw[bF (by omega)],by rw[g2];exact hQ.out re (cB w)⟩⟩
end Go.Ex
namespace Go.Ex
open Go Go.Sx
variable{a b:Int}
def rl(q:Rat):Nat:=max (ln q.num.natAbs) (ln q.den)
theorem fM(q:Rat):ln q.num.natAbs<=rl q:=Nat.le_max_left _ _
theorem Ku(q:Rat):ln q.den<=rl q:=Nat.le_max_right _ _
theorem ed(q:Rat):ln ((q.den:Int)).natAbs<=rl q:=Nat.le_max_right _ _
theorem j0(hb:b≠0):rl (Rat.divInt a b)<=max (ln a.natAbs) (ln b.natAbs):=by
 have h1:ln (Rat.divInt a b).num.natAbs<=ln a.natAbs:=by
  rw[Rat.num_divInt];refine eu (a9 (Int.natAbs_ediv_le_natAbs _ _) ?_);rw[Int.natAbs_mul,Int.natAbs_sign_of_ne_zero hb,Nat.one_mul];exact aG _
 have h2:ln (Rat.divInt a b).den<=ln b.natAbs:=by
  rw[Rat.den_divInt,aK hb];exact Gb
 unfold rl;omega
theorem iE(x y:Int):ln (x+y).natAbs<=max (ln x.natAbs) (ln y.natAbs)+1:=by
 have h1:=Kn x.natAbs y.natAbs;have h2:=eu (show (x+y).natAbs<=x.natAbs+y.natAbs by omega);omega
theorem fZ(q:Rat):(q.den:Int)≠0:=by have:=q.den_pos;omega
theorem s5(f g:Rat):f+g=Rat.divInt (f.num*g.den+g.num*f.den) (f.den*g.den):=by
 rw[<-Rat.divInt_add_divInt _ _ (fZ f) (fZ g),Rat.num_divInt_den,Rat.num_divInt_den]
theorem xD(f g:Rat):f*g=Rat.divInt (f.num*g.num) (f.den*g.den):=by
 rw[<-Rat.divInt_mul_divInt,Rat.num_divInt_den,Rat.num_divInt_den]
theorem B4(f g:Rat):f / g=Rat.divInt (f.num*g.den) (f.den*g.num):=by
 rw[<-Rat.divInt_mul_divInt,Rat.num_divInt_den,<-Rat.inv_def,<-bc]
theorem j2(ha:a≠0)(hb:b≠0):a*b≠0:=Int.mul_ne_zero ha hb
theorem nL(f g:Rat):rl (f+g)<=rl f+rl g+1:=by
 have h:=j0 (a:=f.num*g.den+g.num*f.den) (j2 (fZ f) (fZ g));rw[<-s5]at h;have h1:=iE (f.num*g.den) (g.num*f.den);have h2:=cY f.num g.den;have h3:=cY g.num f.den;have h4:=cY f.den g.den;have:=fM f;have:=fM g;have:=ed f;have:=ed g;omega
theorem iF(f g:Rat):rl (f*g)<=rl f+rl g:=by
 have h:=j0 (a:=f.num*g.num) (j2 (fZ f) (fZ g));rw[<-xD]at h;have h2:=cY f.num g.num;have h4:=cY f.den g.den;have:=fM f;have:=fM g;have:=ed f;have:=ed g;omega
theorem IH(f:Rat){g:Rat}(hg:g≠0):rl (f / g)<=rl f+rl g:=by
 have h:=j0 (a:=f.num*g.den) (j2 (fZ f) (fun e=>hg (Rat.num_eq_zero.1 e)));rw[<-B4]at h;have h2:=cY f.num g.den;have h4:=cY f.den g.num;have:=fM f;have:=fM g;have:=ed f;have:=ed g;omega
theorem og(f:Rat):rl (-f)=rl f:=by unfold rl;rw[Rat.neg_num,Rat.neg_den,bz]
theorem yR(f g:Rat):rl (f-g)<=rl f+rl g+1:=by
 rw[Rat.sub_eq_add_neg];have:=nL f (-g);rw[og]at this;exact this
def rs(q:Rat):Int:=q.num.sign
theorem s6(hb:0<b):(Rat.divInt a b).num.sign=a.sign:=by
 by_cases ha:a=0
 ·subst ha;rw[yB];rfl
 ·obtain⟨h1,-,h3⟩:=yA hb ha;have h3:=decide_eq_decide.1 h3;have h0:(Rat.divInt a b).num≠0:=fun e=>by
   have h4:=Nat.div_pos (Nat.le_of_dvd (by omega) (Nat.gcd_dvd_left a.natAbs b.natAbs)) (bj a.natAbs (n:=b.natAbs) (by omega));omega
  rcases Int.lt_or_gt_of_ne ha with h|h
  ·rw[bZ h,bZ (h3.2 h)]
  ·rw[b9 h,b9 (by omega)]
theorem Jh(f g:Rat):(f.num*g.den-g.num*f.den).sign=rs (f-g):=by
 rw[rs,Rat.sub_eq_add_neg,s5,s6 (Int.mul_pos (by have:=f.den_pos;omega) (by rw[Rat.neg_den];have:=g.den_pos;omega)),Rat.neg_num,Rat.neg_den,Int.neg_mul,<-Int.sub_eq_add_neg]
def ratio(a b:Int):Rat:=if b=0 then Rat.divInt a 1 else Rat.divInt a b
theorem gb(a b:Int):rl (ratio a b)<=max (ln a.natAbs) (max 1 (ln b.natAbs)):=by
 unfold ratio;split
 ·have:=j0 (a:=a) (b:=1) (by decide);have h1:ln (1:Int).natAbs=1:=by decide
  rw[h1]at this;omega
 ·rename_i h;have:=j0 (a:=a) h;omega
end Go.Ex
namespace Go.Ex
open Go Go.Sx Go.Proofs
variable{b b2:Bool}{x y:Int}{S S':Nat->Prop}{f g q:Rat}{dv nv u v:Value}{w:World}
def gh(w:World)(S:Nat->Prop)(v:Value)(a b:Int):Prop:=∃b1 l1 b2 l2,v= .agg #[.bool b1,l1,.bool b2,l2]∧jF w S (.agg #[.bool b1,l1]) a∧jF w S (.agg #[.bool b2,l2]) b
theorem gh.cG{w2:World}{a b:Int}(h:gh w S v a b)(hk:∀g,S g->w2.heap[g]? =w.heap[g]?):gh w2 S v a b:=by
 obtain⟨b1,l1,b2,l2,h1,h2,h3⟩:=h;exact⟨b1,l1,b2,l2,h1,h2.cG hk,h3.cG hk⟩
theorem gh.cI{a b:Int}(h:gh w S v a b)(hk:∀g,S g->S' g):gh w S' v a b:=by
 obtain⟨b1,l1,b2,l2,h1,h2,h3⟩:=h;exact⟨b1,l1,b2,l2,h1,h2.cI hk,h3.cI hk⟩
theorem gh.shape(h:gh w S v x y):∃b a n c b2 a2 n2 c2,v= .agg #[.bool b,.slice a n c,.bool b2,.slice a2 n2 c2]:=by
 obtain⟨b1,l1,b2,l2,h1,h2,h3⟩:=h;obtain⟨_,a,n,c,h4⟩:=h2.shape;obtain⟨_,a2,n2,c2,h5⟩:=h3.shape;simp at h4 h5;obtain⟨rfl,rfl⟩:=h4;obtain⟨rfl,rfl⟩:=h5;exact⟨_,a,n,c,_,a2,n2,c2,h1⟩
theorem gh.num(h:gh w S (.agg #[.bool b,nv,.bool b2,dv]) x y):jF w S (.agg #[.bool b,nv]) x:=by
 obtain⟨b1,l1,b2,l2,h1,h2,h3⟩:=h;simp at h1;obtain⟨rfl,rfl,rfl,rfl⟩:=h1;exact h2
theorem gh.den(h:gh w S (.agg #[.bool b,nv,.bool b2,dv]) x y):jF w S (.agg #[.bool b2,dv]) y:=by
 obtain⟨b1,l1,b2,l2,h1,h2,h3⟩:=h;simp at h1;obtain⟨rfl,rfl,rfl,rfl⟩:=h1;exact h3
section
variable{S S':Nat->Prop}{H:Hp}{nx:Nat}{iv iv':Iv}{B:Nat}{w w' w2:World}{O:Nat->Sx.df}{v:Value}{x y:Int}
theorem gh.rel(h:gh w (Cv S B iv) v x y)(r:Rel H nx iv B w O w')(hS:∀g,S g->g<B):gh w' (Cv S B iv) v x y:=h.cG fun _ hg=>Rel.same r hS hg
theorem gh.cF(h:gh w (Cv S B iv) v x y)(r:Rel H nx iv B w O w')(hS:∀g,S g->g<B)(he:Ext w' w2)(hm:∀p,p∈iv->p∈iv'):gh w2 (Cv S B iv') v x y:=
 ((h.rel r hS).cG fun g hg=>he.block g (Rel.old r hS g hg)).cI fun _ hg=>hg.mono hm
end
def cP(w:World)(S:Nat->Prop)(v:Value)(q:Rat):Prop:=∃b1 l1 b2 l2,v= .agg #[.bool b1,l1,.bool b2,l2]∧dC w S (.agg #[.bool b1,l1]) q.num∧dC w S (.agg #[.bool b2,l2]) q.den
theorem cP.cG{w2:World}(h:cP w S v q)(hk:∀g,S g->w2.heap[g]? =w.heap[g]?):cP w2 S v q:=by
 obtain⟨b1,l1,b2,l2,h1,h2,h3⟩:=h;exact⟨b1,l1,b2,l2,h1,h2.cG hk,h3.cG hk⟩
theorem cP.cI(h:cP w S v q)(hk:∀g,S g->S' g):cP w S' v q:=by
 obtain⟨b1,l1,b2,l2,h1,h2,h3⟩:=h;exact⟨b1,l1,b2,l2,h1,h2.cI hk,h3.cI hk⟩
theorem cP.r(h:cP w S v q):gh w S v q.num q.den:=by
 obtain⟨b1,l1,b2,l2,h1,h2,h3⟩:=h;exact⟨b1,l1,b2,l2,h1,h2.r,h3.r⟩
theorem cP.shape(h:cP w S v q):∃b a n c b2 a2 n2 c2,v= .agg #[.bool b,.slice a n c,.bool b2,.slice a2 n2 c2]:=h.r.shape
theorem cP.num(h:cP w S (.agg #[.bool b,nv,.bool b2,dv]) q):dC w S (.agg #[.bool b,nv]) q.num:=by
 obtain⟨b1,l1,b2,l2,h1,h2,h3⟩:=h;simp at h1;obtain⟨rfl,rfl,rfl,rfl⟩:=h1;exact h2
theorem cP.den(h:cP w S (.agg #[.bool b,nv,.bool b2,dv]) q):dC w S (.agg #[.bool b2,dv]) q.den:=by
 obtain⟨b1,l1,b2,l2,h1,h2,h3⟩:=h;simp at h1;obtain⟨rfl,rfl,rfl,rfl⟩:=h1;exact h3
theorem cP.of(h:dC w S (.agg #[.bool b,nv]) q.num)(k:dC w S (.agg #[.bool b2,dv]) q.den):cP w S (.agg #[.bool b,nv,.bool b2,dv]) q:=⟨_,_,_,_,rfl,h,k⟩
section
variable{S S':Nat->Prop}{H:Hp}{nx:Nat}{iv iv':Iv}{B:Nat}{w w' w2:World}{O:Nat->Sx.df}{v:Value}{q:Rat}
theorem cP.rel(h:cP w (Cv S B iv) v q)(r:Rel H nx iv B w O w')(hS:∀g,S g->g<B):cP w' (Cv S B iv) v q:=h.cG fun _ hg=>Rel.same r hS hg
theorem cP.cF(h:cP w (Cv S B iv) v q)(r:Rel H nx iv B w O w')(hS:∀g,S g->g<B)(he:Ext w' w2)(hm:∀p,p∈iv->p∈iv'):cP w2 (Cv S B iv') v q:=
 ((h.rel r hS).cG fun g hg=>he.block g (Rel.old r hS g hg)).cI fun _ hg=>hg.mono hm
theorem cP.c9(h:cP w2 (Nf w' w2) v q)(hB:B<=w'.heap.size)(hm:(w'.heap.size,w2.heap.size)∈iv):cP w2 (Cv S B iv) v q:=h.cI fun _ hg=>hg.c9 hB hm
theorem cP.out{w0 w1:World}(h:cP w1 (Cv S w0.heap.size iv) v q)(r:Rel H nx iv w0.heap.size w1 O w')(hS:Old S w0):cP w' (Nw S w0 w') v q:=
 (h.rel r hS).cI fun _ hg=>Cv.nw hg r
end
theorem KI(hS:Old S w)(hf:dM w S v f):
  dm PG N.jw #[v] w (eB w fun v' _w2=>v'= .int .i64 (rs f)):=by
 have hw:cV w.heap.size w w:=cV.refl;replace hf:=hf.cI (S':=Cv S w.heap.size []) fun _ h=>.inl h;obtain⟨b1,a1,n1,c1,b2,a2,n2,c2,rfl⟩:=hf.shape;have hfn:=hf.num;have hfd:=hf.den;refine nT (by simp) ?_;refine cC (cE hw (fun _ w' v w2=>v= .int .i64 (rs f)) (fun O w' r=>zM (hfn.rel r hS)) ?_);rintro O wa1 v1 wb1 iv1 r he hw h_ rfl;intro ρe we re;exact⟨_,rfl,hw.tr re.cM,rfl⟩
theorem JC(hS:Old S w)(hf:dM w S v f):
  dm PG N.jk #[v] w (eB w fun v' w2=>dM w2 (Nw S w w2) v' (-f)):=by
 have hw:cV w.heap.size w w:=cV.refl;replace hf:=hf.cI (S':=Cv S w.heap.size []) fun _ h=>.inl h;obtain⟨b1,a1,n1,c1,b2,a2,n2,c2,rfl⟩:=hf.shape;have hfn:=hf.num;have hfd:=hf.den;refine mf (by simp) ?_;refine cJ hτ db [.x 0,.x 1,.x 3,.x 4,.x 2,.x 5,.x 6] (by kernel_rfl) (by kernel_rfl) ?_;refine cL (Φ:=fun _ w' v w2=>eF w2 (Nw (Cv S w.heap.size []) w' w2) v (-f.num)) (fun O w' r=>nf (Rel.old r hS) (hfn.rel r hS)) ?_;rintro O wa1 v1 wb1 r he hb hn;replace hw:=hw.tr hb;replace hfd:=hfd.cF (iv':=(wa1.heap.size,wb1.heap.size)::[]) r hS he fun x hx=>aC _ hx;have hM:=hn.old r.cD;generalize (wa1.heap.size,wb1.heap.size)::[]=iv1 at*
 obtain⟨s1_0,s1_1,s1_2,s1_3,rfl⟩:=hM.shape;intro ρe we re;exact⟨_,rfl,hw.tr re.cM,dM.of (by rw[Rat.neg_num];exact hM.out re hS) (by rw[Rat.neg_den];exact hfd.out re hS)⟩
theorem JD(hS:Old S w)(hf:dM w S v f)(hg:dM w S u g)(hlf:rl f<=10000000000)(hlg:rl g<=10000000000):
  dm PG N.ji #[v,u] w (eB w fun v' w2=>dM w2 (Nf w w2) v' (f*g)):=by
 have hw:cV w.heap.size w w:=cV.refl;have l1:=fM f;have l2:=ed f;have l3:=fM g;have l4:=ed g;have m0:=cY f.num g.num;have m1:=cY f.den g.den;replace hf:=hf.cI (S':=Cv S w.heap.size []) fun _ h=>.inl h;replace hg:=hg.cI (S':=Cv S w.heap.size []) fun _ h=>.inl h;obtain⟨b1,a1,n1,c1,b2,a2,n2,c2,rfl⟩:=hf.shape;obtain⟨b3,a3,n3,c3,b4,a4,n4,c4,rfl⟩:=hg.shape;have hfn:=hf.num;have hfd:=hf.den;have hgn:=hg.num;have hgd:=hg.den;refine me (by simp) ?_;refine cJ hτ db [.x 0,.x 1,.x 2,.x 3,.x 5,.x 6,.x 7,.x 8,.x 4,.x 9,.x 10,.x 11] (by kernel_rfl) (by kernel_rfl) ?_;refine cE hw (fun _ w' v w2=>eF w2 (Nf w' w2) v (f.num*g.num)) (fun O w' r=>gZ (Rel.old r hS) (hfn.rel r hS) (hgn.rel r hS) (by omega) (by omega)) ?_;rintro O wa1 v1 wb1 iv1 r he hw h_ hn;replace hfd:=hfd.cF r hS he (mC h_);replace hgd:=hgd.cF r hS he (mC h_);have hA:=hn.c9 (S:=fun _=>False) r.cD (mN h_);obtain⟨s1_0,s1_1,s1_2,s1_3,rfl⟩:=hA.shape;refine cE hw (fun _ w' v w2=>eF w2 (Nf w' w2) v ((f.den:Int)*(g.den:Int))) (fun O w' r=>gZ (Rel.old r hS) (hfd.rel r hS) (hgd.rel r hS) (by omega) (by omega)) ?_;rintro O wa2 v2 wb2 iv2 r he hw h_ hn;replace hA:=hA.cF r (cB w) he (mC h_);have hB:=hn.c9 (S:=fun _=>False) r.cD (mN h_);obtain⟨s2_0,s2_1,s2_2,s2_3,rfl⟩:=hB.shape;refine cE hw (fun _ w' v w2=>dM w2 (Nf w' w2) v (f*g)) (fun O w' r=>(xD f g)▸ui (Rel.old r (cB w)) (hA.rel r (cB w)) (hB.rel r (cB w)) (j2 (fZ f) (fZ g)) (by omega) (by omega)) ?_;rintro O wa3 v3 wb3 iv3 r he hw h_ hn;have hC:=hn.c9 (S:=fun _=>False) r.cD (mN h_);obtain⟨s3_0,s3_1,s3_2,s3_3,s3_4,s3_5,s3_6,s3_7,rfl⟩:=hC.shape;intro ρe we re;exact⟨_,rfl,hw.tr re.cM,hC.out re (cB w)⟩
theorem MN(hS:Old S w)(hf:dM w S v f)(hg:dM w S u g)(hlf:rl f<=10000000000)(hlg:rl g<=10000000000)(hg0:g≠0):
  dm PG N.lS #[v,u] w (eB w fun v' w2=>dM w2 (Nf w w2) v' (f / g)):=by
 have hw:cV w.heap.size w w:=cV.refl;have l1:=fM f;have l2:=ed f;have l3:=fM g;have l4:=ed g;have m0:=cY f.num g.den;have m1:=cY f.den g.num;replace hf:=hf.cI (S':=Cv S w.heap.size []) fun _ h=>.inl h;replace hg:=hg.cI (S':=Cv S w.heap.size []) fun _ h=>.inl h;obtain⟨b1,a1,n1,c1,b2,a2,n2,c2,rfl⟩:=hf.shape;obtain⟨b3,a3,n3,c3,b4,a4,n4,c4,rfl⟩:=hg.shape;have hfn:=hf.num;have hfd:=hf.den;have hgn:=hg.num;have hgd:=hg.den;refine pJ (by simp) ?_;refine cJ hτ db [.x 0,.x 1,.x 2,.x 3,.x 5,.x 6,.x 7,.x 8,.x 4,.x 9,.x 10,.x 11] (by kernel_rfl) (by kernel_rfl) ?_;refine cE hw (fun _ w' v w2=>eF w2 (Nf w' w2) v (f.num*(g.den:Int))) (fun O w' r=>gZ (Rel.old r hS) (hfn.rel r hS) (hgd.rel r hS) (by omega) (by omega)) ?_;rintro O wa1 v1 wb1 iv1 r he hw h_ hn;replace hfd:=hfd.cF r hS he (mC h_);replace hgn:=hgn.cF r hS he (mC h_);have hA:=hn.c9 (S:=fun _=>False) r.cD (mN h_);obtain⟨s1_0,s1_1,s1_2,s1_3,rfl⟩:=hA.shape;refine cE hw (fun _ w' v w2=>eF w2 (Nf w' w2) v ((f.den:Int)*g.num)) (fun O w' r=>gZ (Rel.old r hS) (hfd.rel r hS) (hgn.rel r hS) (by omega) (by omega)) ?_;rintro O wa2 v2 wb2 iv2 r he hw h_ hn;replace hA:=hA.cF r (cB w) he (mC h_);have hB:=hn.c9 (S:=fun _=>False) r.cD (mN h_);obtain⟨s2_0,s2_1,s2_2,s2_3,rfl⟩:=hB.shape;refine cE hw (fun _ w' v w2=>dM w2 (Nf w' w2) v (f / g)) (fun O w' r=>(B4 f g)▸ui (Rel.old r (cB w)) (hA.rel r (cB w)) (hB.rel r (cB w)) (j2 (fZ f) (fun e=>hg0 (Rat.num_eq_zero.1 e))) (by omega) (by omega)) ?_;rintro O wa3 v3 wb3 iv3 r he hw h_ hn;have hC:=hn.c9 (S:=fun _=>False) r.cD (mN h_);obtain⟨s3_0,s3_1,s3_2,s3_3,s3_4,s3_5,s3_6,s3_7,rfl⟩:=hC.shape;intro ρe we re;exact⟨_,rfl,hw.tr re.cM,hC.out re (cB w)⟩
theorem GI(hS:Old S w)(hf:dM w S v f)(hg:dM w S u g)(hlf:rl f<=10000000000)(hlg:rl g<=10000000000):
  dm PG N.ju #[v,u] w (eB w fun v' w2=>dM w2 (Nf w w2) v' (f+g)):=by
 have hw:cV w.heap.size w w:=cV.refl;have l1:=fM f;have l2:=ed f;have l3:=fM g;have l4:=ed g;have m0:=cY f.num g.den;have m1:=cY g.num f.den;have m2:=cY f.den g.den;have m4:=iE (f.num*g.den) (g.num*f.den);replace hf:=hf.cI (S':=Cv S w.heap.size []) fun _ h=>.inl h;replace hg:=hg.cI (S':=Cv S w.heap.size []) fun _ h=>.inl h;obtain⟨b1,a1,n1,c1,b2,a2,n2,c2,rfl⟩:=hf.shape;obtain⟨b3,a3,n3,c3,b4,a4,n4,c4,rfl⟩:=hg.shape;have hfn:=hf.num;have hfd:=hf.den;have hgn:=hg.num;have hgd:=hg.den;refine nR (by simp) ?_;refine cJ hτ db [.x 0,.x 1,.x 2,.x 3,.x 5,.x 6,.x 7,.x 8,.x 11,.x 12,.x 13,.x 14,.x 4,.x 9,.x 10,.x 15,.x 16,.x 17] (by kernel_rfl) (by kernel_rfl) ?_;refine cE hw (fun _ w' v w2=>eF w2 (Nf w' w2) v (f.num*(g.den:Int))) (fun O w' r=>gZ (Rel.old r hS) (hfn.rel r hS) (hgd.rel r hS) (by omega) (by omega)) ?_;rintro O wa1 v1 wb1 iv1 r he hw h_ hn;replace hfd:=hfd.cF r hS he (mC h_);replace hgn:=hgn.cF r hS he (mC h_);replace hgd:=hgd.cF r hS he (mC h_);have hA:=hn.c9 (S:=fun _=>False) r.cD (mN h_);obtain⟨s1_0,s1_1,s1_2,s1_3,rfl⟩:=hA.shape;refine cE hw (fun _ w' v w2=>eF w2 (Nf w' w2) v (g.num*(f.den:Int))) (fun O w' r=>gZ (Rel.old r hS) (hgn.rel r hS) (hfd.rel r hS) (by omega) (by omega)) ?_;rintro O wa2 v2 wb2 iv2 r he hw h_ hn;replace hfd:=hfd.cF r hS he (mC h_);replace hgd:=hgd.cF r hS he (mC h_);replace hA:=hA.cF r (cB w) he (mC h_);have hB:=hn.c9 (S:=fun _=>False) r.cD (mN h_);obtain⟨s2_0,s2_1,s2_2,s2_3,rfl⟩:=hB.shape;refine cE hw (fun _ w' v w2=>eF w2 (Nf w' w2) v (f.num*(g.den:Int)+g.num*(f.den:Int))) (fun O w' r=>BC (Rel.old r (cB w)) (hA.rel r (cB w)) (hB.rel r (cB w)) (by omega) (by omega)) ?_;rintro O wa3 v3 wb3 iv3 r he hw h_ hn;replace hfd:=hfd.cF r hS he (mC h_);replace hgd:=hgd.cF r hS he (mC h_);have hD:=hn.c9 (S:=fun _=>False) r.cD (mN h_);obtain⟨s3_0,s3_1,s3_2,s3_3,rfl⟩:=hD.shape;refine cE hw (fun _ w' v w2=>eF w2 (Nf w' w2) v ((f.den:Int)*(g.den:Int))) (fun O w' r=>gZ (Rel.old r hS) (hfd.rel r hS) (hgd.rel r hS) (by omega) (by omega)) ?_;rintro O wa4 v4 wb4 iv4 r he hw h_ hn;replace hD:=hD.cF r (cB w) he (mC h_);have hE:=hn.c9 (S:=fun _=>False) r.cD (mN h_);obtain⟨s4_0,s4_1,s4_2,s4_3,rfl⟩:=hE.shape;refine cE hw (fun _ w' v w2=>dM w2 (Nf w' w2) v (f+g)) (fun O w' r=>(s5 f g)▸ui (Rel.old r (cB w)) (hD.rel r (cB w)) (hE.rel r (cB w)) (j2 (fZ f) (fZ g)) (by omega) (by omega)) ?_;rintro O wa5 v5 wb5 iv5 r he hw h_ hn;have hC:=hn.c9 (S:=fun _=>False) r.cD (mN h_);obtain⟨s5_0,s5_1,s5_2,s5_3,s5_4,s5_5,s5_6,s5_7,rfl⟩:=hC.shape;intro ρe we re;exact⟨_,rfl,hw.tr re.cM,hC.out re (cB w)⟩
theorem qI(hS:Old S w)(hf:dM w S v f)(hlf:rl f<=100000000000):
  dm PG N.jv #[v] w (eB w fun v' w2=>cP w2 (Nf w w2) v' f):=by
 have hw:cV w.heap.size w w:=cV.refl;have l1:=fM f;have l2:=ed f;replace hf:=hf.cI (S':=Cv S w.heap.size []) fun _ h=>.inl h;obtain⟨b1,a1,n1,c1,b2,a2,n2,c2,rfl⟩:=hf.shape;have hfn:=hf.num;have hfd:=hf.den;refine nS (by simp) ?_;refine cJ hτ db [.x 0,.x 1,.x 3,.x 4,.x 2,.x 5,.x 6,.x 7] (by kernel_rfl) (by kernel_rfl) ?_;refine cE hw (fun _ w' v w2=>dC w2 (Nf w' w2) v f.num) (fun O w' r=>Ij (Rel.old r hS) (hfn.rel r hS) (by omega)) ?_;rintro O wa1 v1 wb1 iv1 r he hw h_ hn;replace hfd:=hfd.cF r hS he (mC h_);have hA:=hn.c9 (S:=fun _=>False) r.cD (mN h_);obtain⟨s1_0,s1_1,s1_2,s1_3,rfl⟩:=hA.shape;refine cE hw (fun _ w' v w2=>dC w2 (Nf w' w2) v (f.den:Int)) (fun O w' r=>Ij (Rel.old r hS) (hfd.rel r hS) (by omega)) ?_;rintro O wa2 v2 wb2 iv2 r he hw h_ hn;replace hA:=hA.cF r (cB w) he (mC h_);have hB:=hn.c9 (S:=fun _=>False) r.cD (mN h_);obtain⟨s2_0,s2_1,s2_2,s2_3,rfl⟩:=hB.shape;intro ρe we re;exact⟨_,rfl,hw.tr re.cM,cP.of (hA.out re (cB w)) (hB.out re (cB w))⟩
theorem KJ(n:Int)(w:World)(h1: -9223372036854775808<=n)(h2:n<=9223372036854775807):
  dm PG N.vW #[.int .i64 n] w (eB w fun v' w2=>dM w2 (Nf w w2) v' (n:Rat)):=by
 have hw:cV w.heap.size w w:=cV.refl;refine zA (by simp) ?_;refine cC (cE hw (fun _ w' v w2=>eF w2 (Nf w' w2) v n) (fun O w' r=>nk n w' h1 h2) ?_);rintro O wa1 v1 wb1 iv1 r he hw h_ hn;have hA:=hn.c9 (S:=fun _=>False) r.cD (mN h_);obtain⟨s1_0,s1_1,s1_2,s1_3,rfl⟩:=hA.shape;refine cC (cE hw (fun _ w' v w2=>eF w2 (Nf w' w2) v 1) (fun O w' r=>nk 1 w' (by decide) (by decide)) ?_);rintro O wa2 v2 wb2 iv2 r he hw h_ hn;replace hA:=hA.cF r (cB w) he (mC h_);have hB:=hn.c9 (S:=fun _=>False) r.cD (mN h_);obtain⟨s2_0,s2_1,s2_2,s2_3,rfl⟩:=hB.shape;intro ρe we re;exact⟨_,rfl,hw.tr re.cM,dM.of (by rw[Rat.num_intCast];exact hA.out re (cB w)) (by rw[Rat.den_intCast];exact hB.out re (cB w))⟩
theorem jc(hS:Old S w)(hx:gh w S v x y)(hlx:ln x.natAbs<=100000000000)(hly:ln y.natAbs<=100000000000):
  dm PG N.vU #[v] w (eB w fun v' w2=>dM w2 (Nf w w2) v' (ratio x y)):=by
 have hw:cV w.heap.size w w:=cV.refl;replace hx:=hx.cI (S':=Cv S w.heap.size []) fun _ h=>.inl h;obtain⟨b1,a1,n1,c1,b2,a2,n2,c2,rfl⟩:=hx.shape;have hn:=hx.num;have hd:=hx.den;have hxn:=hn;have hxd:=hd;refine yx (by simp) ?_;refine cC (cL (Φ:=fun _ w' v w2=>eF w2 (Nw (Cv S w.heap.size []) w' w2) v y) (fun O w' r=>Iu (Rel.old r hS) (hxd.rel r hS)) ?_);rintro O wa1 v1 wb1 r he hb hn;replace hw:=hw.tr hb;replace hxn:=hxn.cF (iv':=(wa1.heap.size,wb1.heap.size)::[]) r hS he fun x hx=>aC _ hx;have hD:=hn.old r.cD;generalize (wa1.heap.size,wb1.heap.size)::[]=iv1 at*
 obtain⟨s1_0,s1_1,s1_2,s1_3,rfl⟩:=hD.shape;refine cC (cE hw (fun _ w' v w2=>v= .int .i64 y.sign) (fun O w' r=>zM (hD.rel r hS)) ?_);rintro O wa2 v2 wb2 iv2 r he hw h_ rfl;replace hxn:=hxn.cF r hS he (mC h_);replace hD:=hD.cF r hS he (mC h_);refine dI.mk (fun h=>?_) (fun h=>?_)
 ·have h:y=0:=Int.sign_eq_zero_iff_zero.1 (eq_of_beq h);have e0:ratio x y=Rat.divInt x 1:=if_pos h;refine cC (cE hw (fun _ w' v w2=>eF w2 (Nf w' w2) v 1) (fun O w' r=>nk 1 w' (by decide) (by decide)) ?_);rintro O wa3 v3 wb3 iv3 r he hw h_ hn;replace hxn:=hxn.cF r hS he (mC h_);have hO:=hn.c9 (S:=fun _=>False) r.cD (mN h_);obtain⟨s3_0,s3_1,s3_2,s3_3,rfl⟩:=hO.shape;have l1:ln (1:Int).natAbs=1:=by decide
  refine cJ hτ db [.x 0,.x 1,.x 3,.x 2,.x 4,.x 5] (by kernel_rfl) (by kernel_rfl) ?_;refine cL (Φ:=fun _ w' v w2=>eF w2 (Nw (Cv S w.heap.size iv3) w' w2) v x) (fun O w' r=>Iu (Rel.old r hS) (hxn.rel r hS)) ?_;rintro O wa4 v4 wb4 r he hb hn;replace hw:=hw.tr hb;replace hO:=hO.cF (iv':=(wa4.heap.size,wb4.heap.size)::iv3) r (cB w) he fun x hx=>aC _ hx;have hN:=hn.old r.cD;generalize (wa4.heap.size,wb4.heap.size)::iv3=iv4 at*
  obtain⟨s4_0,s4_1,s4_2,s4_3,rfl⟩:=hN.shape;refine cE hw (fun _ w' v w2=>dM w2 (Nf w' w2) v (ratio x y)) (fun O w' r=>e0.symm▸ui (Rel.old r hS) (hN.rel r hS) ((hO.rel r (cB w)).cI fun g hg=>hg.elim (fun k=>k.elim) .inr) (by decide) (by omega) (by omega)) ?_;rintro O wa5 v5 wb5 iv5 r he hw h_ hn;have hC:=hn.c9 (S:=fun _=>False) r.cD (mN h_);obtain⟨s5_0,s5_1,s5_2,s5_3,s5_4,s5_5,s5_6,s5_7,rfl⟩:=hC.shape;intro ρe we re;exact⟨_,rfl,hw.tr re.cM,hC.out re (cB w)⟩
 ·have h:y≠0:=fun e=>by rw[e]at h;exact absurd h (by decide)
  have e0:ratio x y=Rat.divInt x y:=aK h;refine cJ hτ db [.x 0,.x 1,.x 3,.x 2,.x 4,.x 5] (by kernel_rfl) (by kernel_rfl) ?_;refine cL (Φ:=fun _ w' v w2=>eF w2 (Nw (Cv S w.heap.size iv2) w' w2) v x) (fun O w' r=>Iu (Rel.old r hS) (hxn.rel r hS)) ?_;rintro O wa3 v3 wb3 r he hb hn;replace hw:=hw.tr hb;replace hD:=hD.cF (iv':=(wa3.heap.size,wb3.heap.size)::iv2) r hS he fun x hx=>aC _ hx;have hN:=hn.old r.cD;generalize (wa3.heap.size,wb3.heap.size)::iv2=iv3 at*
  obtain⟨s3_0,s3_1,s3_2,s3_3,rfl⟩:=hN.shape;refine cE hw (fun _ w' v w2=>dM w2 (Nf w' w2) v (ratio x y)) (fun O w' r=>e0.symm▸ui (Rel.old r hS) (hN.rel r hS) (hD.rel r hS) h (by omega) (by omega)) ?_;rintro O wa4 v4 wb4 iv4 r he hw h_ hn;have hC:=hn.c9 (S:=fun _=>False) r.cD (mN h_);obtain⟨s4_0,s4_1,s4_2,s4_3,s4_4,s4_5,s4_6,s4_7,rfl⟩:=hC.shape;intro ρe we re;exact⟨_,rfl,hw.tr re.cM,hC.out re (cB w)⟩
end Go.Ex
