/- Texts X11 to X23: lemmas, each with its conditions. -/
import Derived.Test.YtkdcaknoaeicdaaGreatP3
namespace Go.Ex
open Go Go.Sx Go.Proofs
end Go.Ex
namespace Go.Sx
open Go Go.Ex Go.Proofs
variable{O:Nat->Sx.dg}
theorem Rel.cD{H:Hp}{nx:Nat}{iv:Iv}{B:Nat}{w w':World}(r:Rel H nx iv B w O w'):B<=w'.heap.size:=by have:=r.base;have:=r.size;omega
end Go.Sx
namespace Go.Ex
open Go Go.Sx Go.Proofs
end Go.Ex
namespace Go.Sx
open Go Go.Ex Go.Proofs
variable{ls:List Nat}{O:Nat->Sx.dg}
theorem Rel.uP{H:Hp}{nx:Nat}{iv:Iv}{B:Nat}{w w':World}(r:Rel H nx iv B w O w'){id t:Nat}(h:dC H id=some (.box t ((U ls).map At.v)))(PR:Lm ls)(hle:ls.length<=9223372036854775807):
  dO w' (fun g=>g=(O id).g) (.slice (some ⟨(O id).g,0,none⟩) ls.length ls.length) ls:=by
 refine⟨PR,hle,_,_,rfl,aF _,fun j x hx=>⟨_,rfl,rfl,?_⟩⟩;have h0:(⟨(O id).g,0,none⟩:Addr).add j=⟨(O id).g,j,none⟩:=by
  cases j with
  |zero=>rfl
  |succ j=>simp[Addr.add]
 rw[h0,cell_of (r.box id t _ h),fV];exact uO hx
end Go.Sx
namespace Go.Ex
open Go Go.Sx Go.Proofs
variable{ds r2:List Nat}{g k:Nat}
section
variable{S:Nat->Prop}{H:Hp}{nx:Nat}{iv iv':Iv}{B:Nat}{w w' w2:World}{O:Nat->Sx.dg}{v:Value}{n:Nat}{ls:List Nat}
theorem Nw.dA(h:Nf w' w2 g)(hB:B<=w'.heap.size)(hm:(w'.heap.size,w2.heap.size)∈iv):Cv S B iv g:=by
 rcases h with h|h
 ·cases h
 ·exact .inr ⟨by omega,_,_,hm,h.1,h.2⟩
theorem dq.dA(h:dq w2 (Nf w' w2) v n)(hB:B<=w'.heap.size)(hm:(w'.heap.size,w2.heap.size)∈iv):dq w2 (Cv S B iv) v n:=h.cI fun _ hg=>hg.dA hB hm
theorem dO.dA(h:dO w2 (Nf w' w2) v ls)(hB:B<=w'.heap.size)(hm:(w'.heap.size,w2.heap.size)∈iv):dO w2 (Cv S B iv) v ls:=h.cI fun _ hg=>hg.dA hB hm
theorem dq.rel(h:dq w (Cv S B iv) v n)(r:Rel H nx iv B w O w')(hS:∀g,S g->g<B):dq w' (Cv S B iv) v n:=h.cH fun _ hg=>Rel.same r hS hg
theorem dq.cF(h:dq w (Cv S B iv) v n)(r:Rel H nx iv B w O w')(hS:∀g,S g->g<B)(he:Ext w' w2)(hm:∀p,p∈iv->p∈iv'):dq w2 (Cv S B iv') v n:=
 ((h.rel r hS).cH fun g hg=>he.block g (Rel.old r hS g hg)).cI fun _ hg=>hg.mono hm
theorem dO.trimmed(h:dO w S v (dh ls)):dq w S v (val ls):=⟨_,h,(ef ls).2.1,(ef ls).1⟩
end
theorem IC{w:World}{m c:Nat}{rs:List Nat}(hg:w.heap[g]? =some (.cells (U rs).toArray T.uint32 (0,0)))(PR:Lm rs)(h:k+m<=rs.length)(hc:m<=c)(hl:rs.length<=1000000000000):
  dO w (fun x=>x=g) (.slice (some ⟨g,k,none⟩) m c) ((rs.drop k).take m):=by
 have hlen:((rs.drop k).take m).length=m:=by simp;omega
 refine⟨(PR.drop k).take m,by omega,some ⟨g,k,none⟩,c,by rw[hlen],by omega,fun j x hx=>⟨_,rfl,rfl,?_⟩⟩;have hj:j<m:=by have:=(aD.1 hx).1;omega
 rw[bU hj,List.getElem?_drop]at hx;rw[dW,cell_of hg];exact uO hx
theorem DU{c:Nat}(h:k<c):(if (c:Int)=(k:Int)then some (⟨g,0,none⟩:Addr)else(some (⟨g,0,none⟩:Addr)).map fun x=>x.add ((k:Int).toNat*1))=some ⟨g,k,none⟩:=by
 rw[aL (by omega),Option.map_some,aE,aT,dW,aR]
theorem gh{a b c:World}{row:Option Nat}(h:a.grownBy b row)(k:b.grownBy c row):a.grownBy c row:=
 ⟨k.os.trans h.os,k.tape.trans h.tape,k.output.trans h.output,aZ h.size k.size,fun j hj OH=>(k.block j (by have:=h.size;omega) OH).trans (h.block j hj OH)⟩
theorem xL{a b:World}{row:Option Nat}(h:dm a.heap.size a b):a.grownBy b row:=⟨h.os,h.tape,h.output,h.size,fun j hj _=>h.block j hj⟩
theorem MX(rs:List Nat)(k m:Nat):(U rs).take k++List.replicate m (Value.int .u32 0)++(U rs).drop (k+m)=U (rs.take k++List.replicate m 0++rs.drop (k+m)):=by
 simp[U]
theorem Nl(rs ds:List Nat)(k:Nat):(U rs).take k++U ds++(U rs).drop (k+(U ds).length)=U (rs.take k++ds++rs.drop (k+ds.length)):=by
 simp[U]
theorem Ix{rs:List Nat}{m:Nat}(hk:k+m<=rs.length)(hd:ds.length<=m){r1:List Nat}(h1:r1=rs.take k++List.replicate m 0++rs.drop (k+m))(h2:r2=r1.take k++ds++r1.drop (k+ds.length)):
  r2=rs.take k++(ds++List.replicate (m-ds.length) 0)++rs.drop (k+m):=by
 have hkl:(rs.take k).length=k:=by simp;omega
 have h3:r1.take k=rs.take k:=by rw[h1,bY,List.take_append_of_le_length (by omega),List.take_of_length_le (by omega)]
 have h4:r1.drop (k+ds.length)=List.replicate (m-ds.length) 0++rs.drop (k+m):=by
  rw[h1,bY,List.drop_append,hkl,List.drop_of_length_le (by omega),List.nil_append,Nat.add_sub_cancel_left,List.drop_append_of_le_length (by simpa using hd),List.drop_replicate]
 rw[h2,h3,h4];simp
theorem Iy{rs:List Nat}{m:Nat}(hk:k+m<=rs.length)(hd:ds.length<=m)(PR:Lm rs)(Pu:Lm ds)(h:r2=rs.take k++(ds++List.replicate (m-ds.length) 0)++rs.drop (k+m)):
  r2.length=rs.length∧Lm r2∧r2.take k=rs.take k∧r2.drop (k+m)=rs.drop (k+m)∧val ((r2.drop k).take m)=val ds:=by
 have hkl:(rs.take k).length=k:=by simp;omega
 have Si:(ds++List.replicate (m-ds.length) 0).length=m:=by simp;omega
 have RT:r2.drop k=(ds++List.replicate (m-ds.length) 0)++rs.drop (k+m):=by
  rw[h,bY,List.drop_append,hkl,List.drop_of_length_le (by omega),List.nil_append,bH,List.drop_zero]
 refine⟨by rw[h,List.length_append,List.length_append,hkl,Si];simp;omega,?_,?_,?_,?_⟩
 ·rw[h];exact((PR.take k).append (Pu.append (Lm.replicate _))).append (PR.drop _)
 ·rw[h,bY,List.take_append_of_le_length (by omega),List.take_of_length_le (by omega)]
 ·rw[<-List.drop_drop,RT,List.drop_append,Si,List.drop_of_length_le (by omega),List.nil_append,bH,List.drop_zero]
 ·rw[RT,List.take_append_of_le_length (by omega),List.take_of_length_le (by omega),lP,my];simp
theorem DV{S:Nat->Prop}{w:World}{vd:Value}{D g k q:Nat}{rs:List Nat}(hS:Old S w)(hgS:¬S g)(hd:dq w S vd D)(hg:w.heap[g]? =some (.cells (U rs).toArray T.uint32 (0,0)))(PR:Lm rs)
  (hk:k+ln D+1<=rs.length) (hl:rs.length<=1000000000000) (hq:q<4294967296):
  di PG N.qF #[.slice (some ⟨g,0,none⟩) rs.length rs.length,vd,.int .i64 k,.int .u64 q] w (fun e w2=>
   (val ((rs.drop k).take (ln D+1))<q*D∧e= .returned (.bool false)∧dm w.heap.size w w2)∨
   (q*D<=val ((rs.drop k).take (ln D+1))∧e= .returned (.bool true)∧w.grownBy w2 (some g)∧∃rs',rs'.length=rs.length∧Lm rs'∧rs'.take k=rs.take k∧rs'.drop (k+ln D+1)=rs.drop (k+ln D+1)∧
    val ((rs'.drop k).take (ln D+1))=val ((rs.drop k).take (ln D+1))-q*D∧w2.heap[g]? =some (.cells (U rs').toArray T.uint32 (0,0)))):=by
 have hgB:=kG hg;have hnD:=hd;obtain⟨p,rfl,Qd,QF⟩:=hd.la;have PN:=eJ p.lm QF;rw[Qd]at PN;generalize hn:ln D=n at*
 have hSB:=hS;refine uN (by simp) ?_;refine⟨(q:Int),by rw[fE,bN hq],?_⟩;refine gZ (Φ:=fun O _ v w2=>dO w2 (fun g=>g=(O 0).g) v (dh [q])) (H':=[]) 0 rfl (by simp) trivial rfl (fun O w' r=>r.nn 0 _ rfl (by intros;simp) (by simp)) (fun O w' r=>?_) ?_
 ·have hL:=r.uP (id:=0) (ls:=[q]) rfl (by intro x hx;simp at hx;omega) (by simp);exact fN (fun g hg=>by rw[hg];exact(r.low 0 _ rfl (r.nn 0 _ rfl (by intros;simp) (by simp))).2) hL
 rintro O w1 v1 w2 r he hw hL;have Og:=r.low 0 _ rfl (r.nn 0 _ rfl (by intros;simp) (by simp));have hs:=he.size;generalize (O 0).g=g0 at*
 have Tw:dq w2 (Cv S w.heap.size [(g0,g0+1),(w1.heap.size,w2.heap.size)]) v1 q:=by
  have:=hL.trimmed;simp only[val,Nat.mul_zero,bw]at this;exact this.cI fun k hk=>.inr ⟨by omega,g0,g0+1,by simp,by omega,by omega⟩
 have UP:dq w2 (Cv S w.heap.size [(g0,g0+1),(w1.heap.size,w2.heap.size)]) (.slice p.a p.ls.length p.c) D:=
  (hnD.cH fun g hg=>hw.block g (hS g hg)).cI fun _ hg=>.inl hg
 generalize [(g0,g0+1),(w1.heap.size,w2.heap.size)]=iv at*
 refine cC (cE hw (fun _ w' v w2=>dq w2 (Nf w' w2) v (q*D)) (fun O w' r=>ID (Rel.old r hS) (Tw.rel r hS) (UP.rel r hS) (aZ (gI.2 (show q<wt 1 from hq)) (by decide)) (by omega)) ?_);rintro O w3 _ _ iv r he hw h_ hm;have Td:=hm.dA (S:=S) r.cD (mN h_);refine⟨((k+n:Nat):Int),wo,((k+n+1:Nat):Int),wo,⟨by omega,by omega,by omega⟩,some ⟨g,k,none⟩,n+1,rs.length-k,DU (by omega),by omega,by omega,?_⟩;have hplen:((rs.drop k).take (n+1)).length=n+1:=by simp;omega
 have hplm:Lm ((rs.drop k).take (n+1)):=(PR.drop k).take _;generalize hpart:(rs.drop k).take (n+1)=part at*
 refine cC (cE hw (fun _ w' v w2=>dO w2 (Nf w' w2) v part) (fun O w' r=>?_) ?_)
 ·have h1:=IC (k:=k) (m:=n+1) (c:=rs.length-k) (w:=w') (by rw[(hw.tr r.cP).block g hgB];exact hg) PR (by omega) (by omega) hl;rw[hpart]at h1;exact IB (fun x hx=>by rw[hx];have:=(hw.tr r.cP).size;omega) h1 (by omega)
 rintro O _ _ _ iv r he hw h_ hL;have hpL:=hL.dA (S:=S) r.cD (mN h_);replace Td:=Td.cF r hS he (mC h_);refine cC (cM (Φ:=fun _ w' v w2=>dO w2 (Cv S w.heap.size iv) v (dh part)) (fun O w' r=>fN (Rel.old r hS) (dO.rel hpL r hS)) ?_);rintro O w7 v4 w8 r he hb hL;replace hw:=hw.tr hb;have hpN:=hL.trimmed.cI (S':=Cv S w.heap.size ((w7.heap.size,w8.heap.size)::iv)) fun _ hg=>hg.cons;replace Td:=Td.cF (iv':=(w7.heap.size,w8.heap.size)::iv) r hS he fun x hx=>List.mem_cons_of_mem _ hx;generalize (w7.heap.size,w8.heap.size)::iv=iv at*
 refine cC (cE hw (fun _ _ v _=>v= .int .i64 (s8 (val part) (q*D))) (fun O w' r=>Kn (Rel.old r hS) (hpN.rel r hS) (Td.rel r hS)) ?_);rintro O _ _ _ iv r he hw h_ rfl;replace hpN:=hpN.cF r hS he (mC h_);replace Td:=Td.cF r hS he (mC h_);refine dM.mk ?_ ?_<;>intro h
 ·have h:val part<q*D:=by
   have:=aI h;unfold s8 at this;split at this
   ·assumption
   ·split at this<;>omega
  intro ρ3 w3 r3;exact .inl ⟨h,rfl,hw.tr r3.cP⟩
 have h:q*D<=val part:=by
  have:=aH h;unfold s8 at this;split at this
  ·omega
  ·omega
 have hPl:ln (val part)<=n+1:=by rw[gI,<-hplen];exact oD hplm
 refine cC (cE hw (fun _ w' v w2=>dq w2 (Nf w' w2) v (val part-q*D)) (fun O w' r=>DW (Rel.old r hS) (hpN.rel r hS) (Td.rel r hS) h (by omega)) ?_);rintro O _ v6 _ iv r he hw h_ hm;have VR:=hm.dA (S:=S) r.cD (mN h_);refine⟨((k+n:Nat):Int),wo,((k+n+1:Nat):Int),wo,⟨by omega,by omega,by omega⟩,some ⟨g,k,none⟩,n+1,rs.length-k,DU (by omega),by omega,by omega,?_⟩;refine IW hτ (cs:=U rs) (by rfl) (by rfl) (by rfl) (by omega) (fun O w' r=>⟨by rw[(hw.tr r.cP).block g hgB];exact hg,fun id b hb=>by cases hb⟩) (by rw[gK];omega) (fun O w13 w14 r hh PW OX=>?_);rw[MX]at hh;have hgw:w.grownBy w14 (some g):=gh (xL (hw.tr r.cP)) PW;replace VR:dq w14 (Cv S w.heap.size iv) v6 (val part-q*D):=(VR.rel r hS).cH fun x hx=>PW.block x (Rel.old r hS x hx) fun e=>by
  injection e with e;subst e;rcases hx with hx|hx
  ·exact hgS hx
  ·omega
 obtain⟨rl,rfl,Sj,SL⟩:=VR.la;have Ok:=eJ rl.lm SL;rw[Sj]at Ok;have hrn:rl.ls.length<=n+1:=by rw[Ok];exact aZ (fI (Nat.sub_le _ _)) hPl
 generalize hr1d:rs.take k++List.replicate (n+1) 0++rs.drop (k+(n+1))=r1 at*
 refine⟨⟨by omega,by omega,by omega⟩,some ⟨g,k,none⟩,rs.length-k,rs.length-k,DU (by omega),by omega,by omega,?_⟩;have hr1l:r1.length=rs.length:=by rw[<-hr1d];simp;omega
 have hw14:w.heap.size<=w14.heap.size:=hgw.size;refine Jo hτ (tg:=T.uint32) (cs:=U r1) (ds:=U rl.ls) (by rfl) (by rfl) (by rfl) (by rfl) (fun O w' r=>⟨?_,fun id b hb=>by cases hb⟩) (fun O w' r=>⟨rl.a,rl.c,by rw[gK];rfl,fun j u hu=>?_⟩) (by rw[gK];omega) (by rw[gK,gK];omega)
  (fun u hu=>by simp only[U,aU]at hu;obtain⟨n,_,rfl⟩:=hu;rfl) (fun O w15 w16 r hh2 PW OX=>?_)
 ·rw[r.qP.block g (by omega) (by simp)];exact hh
 ·simp only[U,aM,Option.map_eq_some_iff]at hu;obtain⟨m,hm,rfl⟩:=hu;obtain⟨ad,h1,h2,h3⟩:=rl.cell j m hm;exact⟨ad,h1,(cG (w:=w14) (a:=ad.add j) (by rw[dE];exact Rel.same r hS h2)).trans h3⟩
 rw[Nl]at hh2;have hgw2:w.grownBy w16 (some g):=gh (gh hgw (by have:=r.qP;exact⟨this.os,this.tape,this.output,this.size,fun j hj _=>this.block j hj (by simp)⟩)) PW;obtain⟨o1,o2,o3,o4,o5⟩:=Iy (rs:=rs) (ds:=rl.ls) (k:=k) (m:=n+1) (by omega) hrn PR rl.lm (Ix (by omega) hrn hr1d.symm rfl);generalize r1.take k++rl.ls++r1.drop (k+rl.ls.length)=r2 at*
 intro ρ3 w17 r3;refine .inr ⟨h,rfl,gh hgw2 (by have:=r3.qP;exact⟨this.os,this.tape,this.output,this.size,fun j hj _=>this.block j hj (by simp)⟩),r2,o1,o2,o3,o4,by rw[o5,Sj],?_⟩;rw[r3.qP.block g (by have:=hgw2.size;omega) (by simp)];exact hh2
end Go.Ex
namespace Go.Ex
open Go Go.Sx Go.Proofs
end Go.Ex
namespace Go.Sx
open Go Go.Ex Go.Proofs
variable{O:Nat->Sx.dg}
theorem Rel.Mw{nx:Nat}{iv:Iv}{B:Nat}{w w' w2:World}(r:Rel [] nx iv B w O w')(h:w'.heap.size<=w2.heap.size):Rel [] nx [] B w2 O w2:=
 r.EL h (fun id b h=>by cases h) fun lo hi h=>by cases h
end Go.Sx
namespace Go.Ex
open Go Go.Sx Go.Proofs
variable{O:Nat->Sx.dg}
theorem Ko{P D low high dlow dtop W:Nat}(hP:P=low+W*high)(hD:D=dlow+W*dtop)(Og:low<W)(Ss:0<dtop)(hPD:P<4294967296*D):P / D<=min (high / dtop) 4294967295:=by
 have hW:0<W:=by omega
 have hD0:0<D:=by have:=Nat.mul_pos hW Ss;omega
 have h1:P / D<4294967296:=(Nat.div_lt_iff_lt_mul hD0).2 (by rw[bW]at hPD;omega);have h2:P / D<=high / dtop:=by
  rw[Nat.le_div_iff_mul_le Ss];have h3:=Nat.div_mul_le_self P D;generalize P / D=Q at*
  have h4:W*(Q*dtop)<=Q*D:=by
   rw[hD,Nat.mul_left_comm,bV];omega
  have h5:W*(Q*dtop)<W*(high+1):=by
   rw[bV];omega
  have:=Nat.lt_of_mul_lt_mul_left h5;omega
 omega
theorem IE{H:Hp}{nx:Nat}{iv:Iv}{w w1 w':World}{g i x:Nat}{rs:List Nat}(hg:w.heap[g]? =some (.cells (U rs).toArray T.uint32 (0,0)))(hw:dm w.heap.size w w1)(r:Rel H nx iv w.heap.size w1 O w')(hx:rs[i]? =some x):
  w'.cell? ((⟨g,0,none⟩:Addr).add ((i:Int).toNat*1))=some (.int .u32 x):=by
 rw[aE,aT,dW,aR,cell_of (by rw[(hw.tr r.cP).block g (kG hg)];exact hg)];exact uO hx
theorem MY{S:Nat->Prop}{w:World}{vd:Value}{D g k:Nat}{rs:List Nat}(hS:Old S w)(hgS:¬S g)(hd:dq w S vd D)(hD:0<D)(hg:w.heap[g]? =some (.cells (U rs).toArray T.uint32 (0,0)))(PR:Lm rs)
  (hk:k+ln D+1<=rs.length) (hl:rs.length<=1000000000000) (hPD:val ((rs.drop k).take (ln D+1))<4294967296*D):
  di PG N.pC #[.slice (some ⟨g,0,none⟩) rs.length rs.length,vd,.int .i64 k] w (fun e w2=>
   e= .returned (.int .u32 ((val ((rs.drop k).take (ln D+1)) / D:Nat):Int))∧w.grownBy w2 (some g)∧∃rs',rs'.length=rs.length∧Lm rs'∧rs'.take k=rs.take k∧rs'.drop (k+ln D+1)=rs.drop (k+ln D+1)∧
    val ((rs'.drop k).take (ln D+1))=val ((rs.drop k).take (ln D+1)) % D∧w2.heap[g]? =some (.cells (U rs').toArray T.uint32 (0,0))):=by
 have hgB:=kG hg;have hnD:=hd;obtain⟨p,rfl,Qd,QF⟩:=hd.la;have PN:=eJ p.lm QF;rw[Qd]at PN;have Ry:=fun(w':World) (q:Nat)=>@DV S w' (.slice p.a p.ls.length p.c) D g k q rs;generalize hn:ln D=n at*
 obtain⟨t,rfl⟩:∃t,n=t+1:=by
  cases n with
  |zero=>
   have:D<wt 0:=gI.1 (by omega);rw[jV]at this;omega
  |succ t=>exact⟨t,rfl⟩
 obtain⟨dt,Ss⟩:∃q,p.ls[t]? =some q:=⟨_,aB (by omega)⟩
 have hdt0:0<dt:=by
  have:=QF dt (by rw[List.getLast?_eq_getElem?,PN];exact Ss);omega
 obtain⟨a,ha⟩:∃q,rs[k+t+1]? =some q:=⟨_,aB (by omega)⟩
 obtain⟨b,hb⟩:∃q,rs[k+t]? =some q:=⟨_,aB (by omega)⟩
 have ha32:=PR.at ha;have UL:=PR.at hb;have WB:=p.lm.at Ss;generalize hP:val ((rs.drop k).take (t+1+1))=P at*
 have hguess:P / D<=min ((a*4294967296+b) / dt) 4294967295:=by
  refine Ko (low:=val ((rs.drop k).take t)) (W:=wt t) (dlow:=val (p.ls.take t)) ?_ ?_ ?_ hdt0 hPD
  ·rw[<-hP,de (x:=a) (by rw[List.getElem?_drop];exact ha),de (x:=b) (by rw[List.getElem?_drop];exact hb),iy,bV,bW 4294967296 (wt t),bf,bW a];omega
  ·rw[<-Qd,<-de Ss,List.take_of_length_le (by omega)]
  ·have h1:=oD ((PR.drop k).take t);have:((rs.drop k).take t).length=t:=by simp;omega
   rwa [this]at h1
 refine s7 (by simp) ?_;refine⟨(t:Int),wo,?_⟩;refine cK hτ dZ [.x 0,.x 1,.x 2,.x 3,.x 4,.x 5,.x 6,.x 7,.x 8,.x 9,.x 10,.x 11,.x 12,.x 13,.x 14,.x 15,.x 16,.x 17] (by kernel_rfl) (by kernel_rfl) ?_;refine⟨((k+t:Nat):Int),wo,((k+t+1:Nat):Int),wo,_,rfl,by omega,.int .u32 a,fun O w' r=>IE hg dm.refl r ha,(a:Int),eW (by omega),by decide,((a*2^32:Nat):Int),DX (k:=32) (by decide) (by omega),((k+t:Nat):Int),wo,_,rfl,by omega,.int .u32 b,fun O w' r=>IE hg dm.refl r hb,(b:Int),eW (by omega),?_⟩;have Tv:a*2^32 ||| b=a*4294967296+b:=by
  rw[Nat.or_comm,bW,DY (k:=32) UL];omega
 refine⟨((a*4294967296+b:Nat):Int),by rw[Kp (by omega) (by omega),Tv],?_⟩;have hh64:a*4294967296+b<18446744073709551616:=by omega
 generalize a*4294967296+b=high at*
 obtain⟨ad,OW,Ow⟩:=p.load hS (dm.refl (w:=w)) Ss;refine⟨ad,OW,by omega,.int .u32 dt,Ow _ _ _,(dt:Int),eW (by omega),by omega,((high / dt:Nat):Int),Kq hh64,?_⟩;conv=>whnf
 rw[show min ((high / dt:Nat):Int) 4294967295=((min (high / dt) 4294967295:Nat):Int) by omega];have hm32:min (high / dt) 4294967295<=4294967295:=Nat.min_le_right _ _;generalize min (high / dt) 4294967295=q0 at*
 have hQD:=Nat.div_mul_le_self P D;have hQl:∀q,q*D<=P->P / D<=q->q=P / D:=fun q h1 h2=>aQ ((Nat.le_div_iff_mul_le hD).2 h1) h2;have hmod:P % D=P-P / D*D:=by have:=Nat.div_add_mod P D;rw[bW]at this;omega
 refine⟨Nat×World,fun z=>⟨[(0,.o (.v (.slice (some ⟨g,0,none⟩) rs.length rs.length))),(1,sV p.a p.ls.length p.c),(2,iZ k),(9,.o (.v (.int .u64 z.1)))],[],0,[],z.2⟩,fun z=>z.1,
  fun z=>dm w.heap.size w z.2∧P / D<=z.1∧z.1<=4294967295,?_,?_⟩
 ·intro O w' r;exact⟨(q0,w'),⟨r.cP,hguess,hm32⟩,Sub.reset r ⟨rfl,rfl,rfl,rfl,trivial⟩ ⟨trivial,trivial,trivial,trivial,trivial⟩⟩
 ·rintro⟨q,w1⟩ ⟨hw,RK,QL⟩;dsimp only at hw RK QL ⊢;conv=>whnf
  refine⟨fun O w2 r=>(Ry w2 q (fun x hx=>by have:=hS x hx;have:=(hw.tr r.cP).size;omega) hgS (hnD.cH fun x hx=>(hw.tr r.cP).block x (hS x hx)) (by rw[(hw.tr r.cP).block g hgB];exact hg) PR hk hl (by omega)).mono fun e w3 he=>?_⟩;rcases he with⟨h,rfl,hb3⟩|⟨h,rfl,PW,rs',e1,e2,e3,e4,e5,e6⟩
  ·have hw3:dm w.heap.size w w3:=(hw.tr r.cP).tr (hb3.cP r.cD);refine⟨.bool false,[],[],rfl,r.Mw hb3.size,?_⟩;have S2:P / D<q:=by
    refine Nat.lt_of_le_of_ne RK fun e=>?_;rw[e]at hQD;omega
   have hq4:0<q:=Nat.lt_of_le_of_lt (aP _) S2;have hq5:P / D<=q-1:=Nat.le_sub_one_of_lt S2;refine⟨((q-1:Nat):Int),by rw[yD]<;>omega,?_⟩;intro ρ4 w4 r4;exact⟨(q-1,w4),⟨hw3.tr r4.cP,hq5,by dsimp only;omega⟩,Sub.reset r4 ⟨rfl,rfl,rfl,rfl,trivial⟩ ⟨trivial,trivial,trivial,trivial,trivial⟩,by dsimp only;omega⟩
  ·have hgw:w.grownBy w3 (some g):=gh (xL (hw.tr r.cP)) PW;refine⟨.bool true,[],[],rfl,r.Mw PW.size,?_⟩;have hq:=hQl q h RK;subst hq;refine⟨((P / D:Nat):Int),by rw[fE,bN (by omega)],?_⟩;intro ρ4 w4 r4;refine⟨rfl,gh hgw (by have:=r4.qP;exact⟨this.os,this.tape,this.output,this.size,fun j hj _=>this.block j hj (by simp)⟩),rs',e1,e2,e3,e4,by rw[e5,hmod],?_⟩;rw[r4.qP.block g (by have:=hgw.size;omega) (by simp)];exact e6
end Go.Ex
namespace Go.Ex
variable{ms:List Nat}
theorem Ii{t dt:Nat}(PR:Lm ms)(hl:ms.length=t+1)(Ss:ms[t]? =some dt)(h0:0<dt):32-gb dt<32∧ln (val ms*2^(32-gb dt))=t+1:=by
 have UK:0<gb dt:=by
  rcases bK (gb dt)with h|h
  ·have:=yI.1 (Nat.le_of_eq h);simp at this;omega
  ·exact h
 have UL:gb dt<=32:=yI.2 (PR.at Ss);have Od:=yI.1 (aF (gb dt));have hv:val ms=val (ms.take t)+wt t*dt:=by rw[<-de Ss,List.take_of_length_le (by omega)]
 have Og:=oD (PR.take t);have hltk:(ms.take t).length=t:=by simp;omega
 rw[hltk]at Og;have hw:=yn t;refine⟨by omega,aQ ?_ ?_⟩
 ·rw[gI];have h1:val ms<wt t*2^gb dt:=by
   have:wt t*(dt+1)<=wt t*2^gb dt:=b9 _ Od;rw[bV]at this;omega
  have h2:=Nat.mul_lt_mul_of_pos_right h1 (bl (32-gb dt));rw[bf,<-Nat.pow_add,Nat.add_sub_cancel' UL]at h2;rw[iy,bW 4294967296];exact h2
 ·refine Nat.lt_of_not_le fun h=>?_;have h1:=gI.1 h;have h2:val ms*1<=val ms*2^(32-gb dt):=b9 _ (bl _);have h3:wt t*1<=wt t*dt:=b9 _ h0;omega
theorem Ef{rs:List Nat}{D N k:Nat}(PR:Lm rs)(hDN:D<wt N)(hk:k+N+1<=rs.length)(h:val rs<wt (k+1)*D):
  val (rs.drop (k+N+1))=0∧val (rs.drop k)=val ((rs.drop k).take (N+1))∧val ((rs.drop k).take (N+1))<4294967296*D:=by
 obtain⟨x,hx⟩:∃q,rs[k]? =some q:=⟨_,aB (by omega)⟩
 have Py:=PR.at hx;have h1:=e9 rs (k+1) (by omega);have h2:val (rs.drop (k+1))<D:=Nat.lt_of_mul_lt_mul_left (a:=wt (k+1)) (by omega);have h3:=e9 (rs.drop (k+1)) N (by simp;omega);rw[List.drop_drop,show k+1+N=k+N+1 by omega]at h3;have h4:val (rs.drop (k+N+1))=0:=by
  rcases bK (val (rs.drop (k+N+1)))with h|h
  ·exact h
  ·have:=b9 (wt N) h;omega
 have h5:=e9 (rs.drop k) (N+1) (by simp;omega);rw[List.drop_drop,show k+(N+1)=k+N+1 by omega,h4,Nat.mul_zero,bw]at h5;have h6:=jN hx;exact⟨h4,h5,by omega⟩
theorem KH{rs rs' out:List Nat}{D N k P V:Nat}(hD:0<D)(PR:Lm rs)(hlen:rs'.length=rs.length)(hDN:D<wt N)(hk:k+N+1<=rs.length)(h:val rs<wt (k+1)*D)(hV:V=wt (k+1)*(D*val (out.drop (k+1)))+val rs)
  (hP:val ((rs.drop k).take (N+1))=P) (h1:rs'.take k=rs.take k) (h2:rs'.drop (k+N+1)=rs.drop (k+N+1)) (h3:val ((rs'.drop k).take (N+1))=P % D) (ho:k<out.length):
  val rs'<wt k*D∧V=wt k*(D*val ((out.set k (P / D)).drop k))+val rs':=by
 obtain⟨a1,a2,a3⟩:=Ef PR hDN hk h;have b1:=e9 rs k (by omega);have b2:=e9 rs' k (by omega);have b3:=e9 (rs'.drop k) (N+1) (by simp;omega);rw[List.drop_drop,show k+(N+1)=k+N+1 by omega,h2,a1,Nat.mul_zero,bw,h3]at b3;rw[h1,b3]at b2;rw[a2,hP]at b1;have b4:=oD (PR.take k);have b5:(rs.take k).length=k:=by simp;omega
 rw[b5]at b4;have b6:=bs P hD;have b7:(out.set k (P / D))[k]? =some (P / D):=by rw[aV ho]
 have b8:=Nat.div_add_mod P D;refine⟨?_,?_⟩
 ·have:wt k*(P % D+1)<=wt k*D:=b9 _ b6;rw[bV]at this;omega
 ·rw[jN b7,List.drop_set_of_lt (show k<k+1 by omega),hV,b1,b2,iy];generalize val (out.drop (k+1))=o;have c1:wt k*P=wt k*(D*(P / D))+wt k*(P % D):=by rw[<-bV,b8]
  have c2:4294967296*wt k*(D*o)=wt k*(D*(4294967296*o)):=by
   rw[bW 4294967296,bf,Nat.mul_left_comm 4294967296]
  rw[c1,c2,bV D,bV (wt k)];omega
theorem Ij{n m b:Nat}(hm:0<m)(VP:m<=n):n*2^b<wt (ln n+1-ln m)*(m*2^b):=by
 have h1:=lQ n;have h2:=fI VP;have h3:wt (ln m-1)<=m:=by
  refine Nat.le_of_not_lt fun h=>?_;have:=gI.2 h;have h4:0<ln m:=by
   rcases bK (ln m)with h|h
   ·have:=gI.1 (Nat.le_of_eq h);rw[jV]at this;omega
   ·exact h
  omega
 have h4:0<ln m:=by
  rcases bK (ln m)with h|h
  ·have:=gI.1 (Nat.le_of_eq h);rw[jV]at this;omega
  ·exact h
 have h5:wt (ln n)<=wt (ln n+1-ln m)*m:=by
  rw[show ln n=(ln n+1-ln m)+(ln m-1) by omega,Cr,show(ln n+1-ln m)+(ln m-1)+1-ln m=ln n+1-ln m by omega];exact b9 _ h3
 rw[<-bf];exact Nat.mul_lt_mul_of_pos_right (Nat.lt_of_lt_of_le h1 h5) (bl b)
theorem MH{n m b o r:Nat}(hm:0<m)(h1:n*2^b=m*2^b*o+r)(h2:r<m*2^b):o=n / m∧r / 2^b=n % m:=by
 have hp:=bl b;have h3:n*2^b / (m*2^b)=o:=by rw[h1,Nat.mul_add_div (Nat.mul_pos hm hp),Nat.div_eq_of_lt h2,bw]
 have h4:n*2^b % (m*2^b)=r:=by rw[h1,Nat.mul_add_mod,bN h2]
 rw[Nat.mul_div_mul_right _ _ hp]at h3;rw[Nat.mul_mod_mul_right]at h4;exact⟨h3.symm,by rw[<-h4,Nat.mul_div_cancel _ hp]⟩
end Go.Ex
namespace Go.Ex
open Go Go.Sx Go.Proofs
variable{H:Hp}{x y z:Int}{iv:Iv}{ls:List Nat}{n nx:Nat}{S:Nat->Prop}{O:Nat->Sx.dg}{u v:Value}{w w' w1:World}
theorem IF{g:Nat}{rs:List Nat}(hg:w.heap[g]? =some (.cells (U rs).toArray T.uint32 (0,0)))(PR:Lm rs)(hl:rs.length<=1000000000000):
  dO w (fun x=>x=g) (.slice (some ⟨g,0,none⟩) rs.length rs.length) rs:=by
 have:=IC (k:=0) (m:=rs.length) (c:=rs.length) hg PR (by omega) (aF _) hl
 rwa [List.drop_zero,bC]at this
theorem qQ{m:Nat}(hS:Old S w)(hn:dq w S v n)(hm:dq w S u m)(St:0<m)(SA:ln n<=100000000000):
  di PG N.nX #[v,u] w (dw w fun v' w2=>∃q r,v'= .tuple #[q,r]∧dq w2 (Nf w w2) q (n / m)∧dq w2 (Nw S w w2) r (n % m)):=by
 have hnN:=hn;have Td:=hm;obtain⟨x,rfl,Qd,QF⟩:=hn.la;obtain⟨y,rfl,RK,QL⟩:=hm.la;have PO:=eJ x.lm QF;have TO:=eJ y.lm QL;rw[Qd]at PO;rw[RK]at TO;refine rJ (by simp) ?_;refine cC (cM (Φ:=fun _ _ v _=>v= .int .i64 (s8 n m)) (fun O w' r=>Kn (S:=S) (fun g hg=>by have:=hS g hg;have:=r.cP.size;omega) (hnN.cH fun g hg=>r.cP.block g (hS g hg)) (Td.cH fun g hg=>r.cP.block g (hS g hg))) ?_);rintro O w1 v1 w2 r he hw rfl;refine dM.mk ?_ ?_<;>intro h
 ·have h:n<m:=by
   have:=aI h;unfold s8 at this;split at this
   ·assumption
   ·split at this<;>omega
  intro ρ3 w3 r3;refine⟨_,rfl,hw.tr r3.cP,_,_,rfl,?_,?_⟩
  ·rw[Nat.div_eq_of_lt h];exact dq.nil _ _
  ·rw[bN h];exact(hnN.cH fun g hg=>(hw.tr r3.cP).block g (hS g hg)).cI fun g hg=>.inl hg
 have h:m<=n:=by
  have:=aH h;unfold s8 at this;split at this
  ·omega
  ·omega
 have hlmn:=fI h;refine dM.mk ?_ ?_<;>intro h1
 ·have h1:y.ls.length=1:=by have:=eq_of_beq h1;omega
  obtain⟨b,UH⟩:=List.length_eq_one_iff.1 h1;have hb:y.ls[0]? =some b:=by rw[UH];rfl
  have UL:=y.lm.at hb;have Qm:m=b:=by rw[<-RK,UH];simp[val]
  subst Qm;obtain⟨ad,OW,Ow⟩:=y.load hS hw hb;refine⟨ad,OW,by omega,.int .u32 m,Ow _ _ _,?_⟩;refine cC (cM (Φ:=fun _ w' v w2=>∃q,v= .tuple #[q,.int .u32 ((val x.ls % m:Nat):Int)]∧dq w2 (Nf w' w2) q (val x.ls / m)) (fun O w' r=>?_) ?_)
  ·refine MZ (S:=S) (fun g hg=>by have:=hS g hg;have:=(hw.tr r.cP).size;omega) ⟨x.lm,x.le,_,_,rfl,x.cap,fun j u hu=>?_⟩ (by omega) St UL;obtain⟨ad,e1,e2,e3⟩:=x.cell j u hu;exact⟨ad,e1,e2,jv hS hw r e2 e3⟩
  rintro O w3 v3 w4 r he RV ⟨q,rfl,hq⟩;replace hw:=hw.tr RV;have Tw:=hq.dA (S:=FF) r.cD (iv:=(w3.heap.size,w4.heap.size)::[(w1.heap.size,w2.heap.size)]) aG;rw[Qd]at Tw;rw[Qd];generalize (w3.heap.size,w4.heap.size)::[(w1.heap.size,w2.heap.size)]=iv at*
  have Ql:n % m<m:=bs _ St;generalize n % m=rem at*
  refine gZ (Φ:=fun O _ v w2=>dO w2 (fun g=>g=(O 0).g) v (dh [rem])) (H':=[]) 0 rfl (by simp) trivial rfl (fun O w' r=>r.nn 0 _ rfl (by intros;simp) (by simp)) (fun O w' r=>?_) ?_
  ·have hL:=r.uP (id:=0) (ls:=[rem]) rfl (by intro x hx;simp at hx;omega) (by simp);exact fN (fun g hg=>by rw[hg];exact(r.low 0 _ rfl (r.nn 0 _ rfl (by intros;simp) (by simp))).2) hL
  rintro O w5 v5 w6 r he hb6 hL;have Og:=r.low 0 _ rfl (r.nn 0 _ rfl (by intros;simp) (by simp));have hs:=he.size;replace hw:=hw.tr hb6;replace Tw:=Tw.cF (iv':=((O 0).g,(O 0).g+1)::(w5.heap.size,w6.heap.size)::iv) r (fun g h=>h.elim) he fun x hx=>by simp[hx]
  generalize (O 0).g=g0 at*
  have VR:dq w6 (Cf w ((g0,g0+1)::(w5.heap.size,w6.heap.size)::iv)) v5 rem:=by
   have:=hL.trimmed;simp only[val,Nat.mul_zero,bw]at this;exact this.cI fun k hk=>.inr ⟨by omega,g0,g0+1,by simp,by omega,by omega⟩
  generalize (g0,g0+1)::(w5.heap.size,w6.heap.size)::iv=OJ at*
  intro ρ3 w7 r3;exact⟨_,rfl,hw.tr r3.cP,_,_,rfl,(Tw.rel r3 fun g h=>h.elim).cI fun g hg=>Cv.nw hg r3,((VR.rel r3 fun g h=>h.elim).cI fun g hg=>Cv.nw hg r3).cI fun g hg=>hg.elim (fun h=>h.elim) .inr⟩
 ·have h1:y.ls.length≠1:=fun e=>by rw[e]at h1;simp at h1
  have Ri:0<ln m:=by
   rcases bK (ln m)with h|h
   ·have:=gI.1 (Nat.le_of_eq h);rw[jV]at this;omega
   ·exact h
  obtain⟨t,ht⟩:∃t,y.ls.length=t+1:=⟨y.ls.length-1,by omega⟩
  obtain⟨dt,Ss⟩:∃q,y.ls[t]? =some q:=⟨_,aB (by omega)⟩
  have hdt0:0<dt:=by
   have:=QL dt (by rw[List.getLast?_eq_getElem?,ht];exact Ss);omega
  have WB:=y.lm.at Ss;obtain⟨PQ,VS⟩:=Ii y.lm ht Ss hdt0;rw[RK]at VS;obtain⟨ad,OW,Ow⟩:=y.load hS hw Ss;refine⟨(t:Int),wo,ad,OW,by omega,.int .u32 dt,Ow _ _ _,?_⟩;refine cC (cM (Φ:=fun _ _ v _=>v= .int .i64 ((32-gb dt:Nat):Int)) (fun O w' r=>Nk dt w' WB) ?_);rintro O w3 v3 w4 r he RV rfl;replace hw:=hw.tr RV;generalize hbyd:32-gb dt=b at*
  refine⟨(b:Int),eW (by omega),?_⟩;refine cC (cM (Φ:=fun _ w' v w2=>∃out,Kr w' w2 v out∧out.length=y.ls.length+1∧val out=val y.ls*2^b) (fun O w' r=>?_) ?_)
  ·refine CI (S:=S) (fun g hg=>by have:=hS g hg;have:=(hw.tr r.cP).size;omega) ⟨y.lm,y.le,_,_,rfl,y.cap,fun j u hu=>?_⟩ (by omega) PQ;obtain⟨ad,e1,e2,e3⟩:=y.cell j u hu;exact⟨ad,e1,e2,jv hS hw r e2 e3⟩
  rintro O w5 v5 w6 r he hb6 ⟨dl,⟨gd,rfl,hgd1,hgd2,hgd3⟩,Si,hdv⟩;replace hw:=hw.tr hb6;rw[RK]at hdv;have hB5:w.heap.size<=w5.heap.size:=r.cD;have SM:Cf w ((w5.heap.size,w6.heap.size)::[(w3.heap.size,w4.heap.size),(w1.heap.size,w2.heap.size)]) gd:=.inr ⟨by omega,_,_,aG,hgd1,kG hgd2⟩;generalize (w5.heap.size,w6.heap.size)::[(w3.heap.size,w4.heap.size),(w1.heap.size,w2.heap.size)]=iv at*
  have hF:∀g:Nat,(fun _:Nat=>False) g->g<w.heap.size:=fun g h=>h.elim;refine cC (cM (Φ:=fun _ _ v w2=>dO w2 (fun x=>x=gd) v (dh dl)) (fun O w' r=>fN (fun g hg=>by rw[hg];exact Rel.old r hF gd SM) (IF (by rw[Rel.same r hF SM];exact hgd2) hgd3 (by omega))) ?_);rintro O w7 v6 w8 r he hb8 hL;replace hw:=hw.tr hb8;have hgd8:gd<w8.heap.size:=by have:=Rel.old r hF gd SM;have:=he.size;omega
  replace SM:=SM.mono (iv':=(w7.heap.size,w8.heap.size)::iv) fun p hp=>List.mem_cons_of_mem _ hp;have UP:=hL.trimmed;rw[hdv]at UP;generalize (w7.heap.size,w8.heap.size)::iv=iv at*
  obtain⟨dp,rfl,RT,PD⟩:=UP.la;have hdpl:=eJ dp.lm PD;rw[RT,VS]at hdpl;generalize hDd:m*2^b=D at*
  have hD0:0<D:=by rw[<-hDd];exact Nat.mul_pos St (bl b)
  refine cC (cM (Φ:=fun _ w' v w2=>∃out,Kr w' w2 v out∧out.length=x.ls.length+1∧val out=val x.ls*2^b) (fun O w' r=>?_) ?_)
  ·refine CI (S:=S) (fun g hg=>by have:=hS g hg;have:=(hw.tr r.cP).size;omega) ⟨x.lm,x.le,_,_,rfl,x.cap,fun j u hu=>?_⟩ (by omega) PQ;obtain⟨ad,e1,e2,e3⟩:=x.cell j u hu;exact⟨ad,e1,e2,jv hS hw r e2 e3⟩
  rintro O w9 v9 w10 r he hb10 ⟨rs0,⟨gr,rfl,hgr1,hgr2,hgr3⟩,Ok,hrv⟩;replace hw:=hw.tr hb10;rw[Qd]at hrv;have hB9:w.heap.size<=w9.heap.size:=r.cD;have Sk:Cf w ((w9.heap.size,w10.heap.size)::iv) gr:=.inr ⟨by omega,_,_,aG,hgr1,kG hgr2⟩;have OH:gr≠gd:=by have:=r.size;omega
  replace UP:dq w10 (fun x=>x=gd) (.slice dp.a dp.ls.length dp.c) D:=UP.cH fun x hx=>by
   rw[hx,he.block gd (Rel.old r hF gd SM),Rel.same r hF SM]
  have hgd10:gd<w10.heap.size:=by have:=Rel.old r hF gd SM;have:=he.size;omega
  replace SM:=SM.mono (iv':=(w9.heap.size,w10.heap.size)::iv) fun p hp=>List.mem_cons_of_mem _ hp;generalize (w9.heap.size,w10.heap.size)::iv=iv at*
  have hgrB:w.heap.size<=gr:=by omega
  obtain⟨L,hL⟩:∃L,rs0.length=t+1+L:=⟨rs0.length-(t+1),by omega⟩
  refine⟨(L:Int),wo,L,L,rfl,rfl,aF _,by omega,by omega,(L:Int)-1,wo,Nat×List Nat×List Nat×World,fun z=>⟨[(8,.o (.v (.int .u64 b))),(9,sV dp.a dp.ls.length dp.c),(10,.o (.v (.slice (some ⟨gr,0,none⟩) rs0.length rs0.length))),(11,.o (.s 0 0 L L)),(12,.o (.v (.int .i64 ((z.1:Int)-1))))],
    [(0,.arr T.uint32 (U z.2.1))],1,iv,z.2.2.2⟩,fun z=>z.1,
   fun z=>z.1<=L∧dm w.heap.size w z.2.2.2∧z.2.1.length=L∧z.2.2.1.length=rs0.length∧Lm z.2.1∧Lm z.2.2.1∧z.2.2.2.heap[gr]? =some (.cells (U z.2.2.1).toArray T.uint32 (0,0))∧dq z.2.2.2 (fun x=>x=gd) (.slice dp.a dp.ls.length dp.c) D∧
    gd<z.2.2.2.heap.size∧val z.2.2.1<wt z.1*D∧n*2^b=wt z.1*(D*val (z.2.1.drop z.1))+val z.2.2.1,?_,?_⟩
  ·intro O w' r;rw[s9]at r;refine⟨(L,List.replicate L 0,rs0,w'),⟨aF _,hw.tr r.cP,by simp,rfl,Lm.replicate _,hgr3,?_,?_,?_,?_,?_⟩,Sub.gn [] r⟩
   ·dsimp only;rw[Rel.same r hF Sk];exact hgr2
   ·exact UP.cH fun x hx=>by rw[hx];exact Rel.same r hF SM
   ·exact Rel.old r hF gd SM
   ·dsimp only
    have:=Ij (b:=b) St h;rw[hDd,<-TO,ht,<-PO,show x.ls.length+1-(t+1)=L by omega]at this;rw[hrv];exact this
   ·dsimp only;rw[hrv];simp[val]
  ·rintro⟨k,out,rs,w11⟩ ⟨hk,hw,QM,Q5,SK,hlr,PW,UP,RG,hi1,Q4⟩;dsimp only at hk hw QM Q5 SK hlr PW UP RG hi1 Q4 ⊢;refine dM.mk ?_ ?_<;>intro h9
   ·have h9:(k:Int)-1≥0:=aI h9;obtain⟨k,rfl⟩:∃q,k=q+1:=⟨k-1,by omega⟩
    rw[show ((k+1:Nat):Int)-1=(k:Int) by omega];have hDN:D<wt (t+1):=gI.1 (Nat.le_of_eq VS);obtain⟨a1,a2,a3⟩:=Ef (N:=t+1) hlr hDN (by omega) hi1;have hdig:=fun(w':World)=>@MY (fun x=>x=gd) w' (.slice dp.a dp.ls.length dp.c) D gr k rs;rw[VS]at hdig;simp only[Q5]at hdig;generalize hP:val ((rs.drop k).take (t+1+1))=P at*
    have hQ32:P / D<4294967296:=(Nat.div_lt_iff_lt_mul hD0).2 (by rw[bW]at a3;omega);refine⟨fun O w' r=>(hdig w' (fun g hg=>by rw[hg];exact Rel.old r hF gd SM) OH (UP.cH fun x hx=>by rw[hx];exact Rel.same r hF SM) hD0 (by rw[Rel.same r hF Sk];exact PW) hlr (by omega) (by omega) a3).mono fun e w12 he=>?_⟩;obtain⟨rfl,hgb,rs',e1,e2,e3,e4,e5,e6⟩:=he;refine⟨_,_,_,rfl,r.yd (fun id b hb hn=>Rel.not r hF Sk id b hb hn) hgb,?_⟩;obtain⟨hi1',hi2'⟩:=KH (N:=t+1) hD0 hlr (e1.trans Q5.symm) hDN (by omega) hi1 Q4 hP e3 e4 e5 (by omega);have hw12:dm w.heap.size w w12:=(hw.tr r.cP).tr (dm.grown hgb (fun g hg=>by injection hg with hg;omega) r.cD);have hdN12:dq w12 (fun x=>x=gd) (.slice dp.a dp.ls.length dp.c) D:=UP.cH fun x hx=>by
     rw[hx,hgb.block gd (Rel.old r hF gd SM) (fun e=>OH (Option.some.inj e).symm),Rel.same r hF SM]
    have hgd12:gd<w12.heap.size:=by have:=Rel.old r hF gd SM;have:=hgb.size;omega
    generalize P / D=Q at*
    refine⟨by omega,by rw[gK];omega,U (out.set k Q),jD out k _ (by omega) (by simp),(k:Int)-1,wo,?_⟩;intro ρ3 w3 r3
    refine⟨(k,out.set k Q,rs',w3),⟨by dsimp only;omega,hw12.tr r3.cP,by simp[QM],e1.trans rfl,SK.set hQ32,e2,?_,?_,?_,hi1',hi2'⟩,
     Sub.gn [] r3,by dsimp only;omega⟩
    ·dsimp only;rw[Rel.same r3 hF Sk];exact e6
    ·exact hdN12.cH fun x hx=>by rw[hx];exact Rel.same r3 hF SM
    ·exact Rel.old r3 hF gd SM
   ·have Sr:k=0:=by
     have:¬(k:Int)-1≥0:=aH h9;omega
    subst Sr;rw[jV,Nat.one_mul,List.drop_zero]at Q4;rw[jV,Nat.one_mul]at hi1;rw[<-hDd]at hi1 Q4;obtain⟨hq,hrem⟩:=MH St Q4 hi1;have Rj:∀w':World,w'.heap[gr]? =some (.cells (U rs).toArray T.uint32 (0,0))->dO w' (fun x=>x=gr) (.slice (some ⟨gr,0,none⟩) rs0.length rs0.length) rs:=fun w' hh=>by
     have:=IF hh hlr (by omega)
     rwa [Q5]at this
    refine gZ (Φ:=fun O _ v w2=>dO w2 (fun g=>g=(O 0).g) v (dh out)) (H':=[]) 0 rfl (by simp) trivial rfl (fun O w' r=>r.nn 0 _ rfl (by intros;simp) (by simp)) (fun O w' r=>?_) ?_
    ·have hL:=r.nc (id:=0) rfl SK (by omega);rw[QM]at hL;exact fN (fun g hg=>by rw[hg];exact(r.low 0 _ rfl (r.nn 0 _ rfl (by intros;simp) (by simp))).2) hL
    rintro O w13 v13 w14 r he hb14 hL;replace hw:=hw.tr hb14;have Og:=r.low 0 _ rfl (r.nn 0 _ rfl (by intros;simp) (by simp));have hs:=he.size;have hgr14:w14.heap[gr]? =some (.cells (U rs).toArray T.uint32 (0,0)):=by rw[he.block gr (Rel.old r hF gr Sk),Rel.same r hF Sk];exact PW
    replace Sk:=Sk.mono (iv':=((O 0).g,(O 0).g+1)::(w13.heap.size,w14.heap.size)::iv) fun p hp=>by simp[hp]
    have Tw:dq w14 (Cf w (((O 0).g,(O 0).g+1)::(w13.heap.size,w14.heap.size)::iv)) v13 (n / m):=by
     have:=hL.trimmed;rw[hq]at this;exact this.cI fun k hk=>.inr ⟨by omega,_,_,aG,by omega,by omega⟩
    generalize ((O 0).g,(O 0).g+1)::(w13.heap.size,w14.heap.size)::iv=OP at*
    refine cC (cM (Φ:=fun _ _ v w2=>dO w2 (fun x=>x=gr) v (dh rs)) (fun O w' r=>fN (fun g hg=>by rw[hg];exact Rel.old r hF gr Sk) (Rj w' (by rw[Rel.same r hF Sk];exact hgr14))) ?_);rintro O w15 v15 w16 r he hb16 hL;replace hw:=hw.tr hb16;replace Tw:=Tw.cF (iv':=(w15.heap.size,w16.heap.size)::OP) r hF he fun x hx=>List.mem_cons_of_mem _ hx;replace hL:=hL.cI (S':=Cf w ((w15.heap.size,w16.heap.size)::OP)) fun g hg=>by rw[hg];exact Sk.cons
    generalize (w15.heap.size,w16.heap.size)::OP=OR at*
    have Qe:(dh rs).length<=rs.length:=by
     obtain⟨_,_,k,_,hk⟩:=ef rs;rw[hk];simp;omega
    refine cC (cM (Φ:=fun _ w' v w2=>dq w2 (Nf w' w2) v (val (dh rs) / 2^b)) (fun O w' r=>Nm (Rel.old r hF) (dO.rel hL r hF) (by omega) PQ) ?_);rintro O w17 v17 w18 r he hb18 hr;replace hw:=hw.tr hb18;rw[(ef rs).1,hrem]at hr;have VR:=hr.dA (S:=FF) r.cD (iv:=(w17.heap.size,w18.heap.size)::OR) aG;replace Tw:=Tw.cF (iv':=(w17.heap.size,w18.heap.size)::OR) r hF he fun x hx=>List.mem_cons_of_mem _ hx;generalize (w17.heap.size,w18.heap.size)::OR=Ou at*
    intro ρ3 w19 r3;exact⟨_,rfl,hw.tr r3.cP,_,_,rfl,(Tw.rel r3 hF).cI fun g hg=>Cv.nw hg r3,((VR.rel r3 hF).cI fun g hg=>Cv.nw hg r3).cI fun g hg=>hg.elim (fun h=>h.elim) .inr⟩
theorem FW{m:Nat}(hS:Old S w)(hn:dq w S v n)(hm:dq w S u m)(SA:ln n<=100000000000)(PR:ln m<=100000000000):
  di PG N.uA #[v,u] w (dw w fun v' w2=>dq w2 (Nw S w w2) v' (Nat.gcd n m)):=by
 refine xq (by simp) ?_
 refine⟨(Value×Nat)×(Value×Nat)×Iv×World,fun z=>⟨[(0,.o (.v z.1.1)),(1,.o (.v z.2.1.1))],[],0,z.2.2.1,z.2.2.2⟩,fun z=>z.2.1.2,
  fun z=>dm w.heap.size w z.2.2.2∧dq z.2.2.2 (Cv S w.heap.size z.2.2.1) z.1.1 z.1.2∧dq z.2.2.2 (Cv S w.heap.size z.2.2.1) z.2.1.1 z.2.1.2∧ln z.1.2<=100000000000∧ln z.2.1.2<=100000000000∧Nat.gcd z.1.2 z.2.1.2=Nat.gcd n m,?_,?_⟩
 ·intro O w' r
  exact⟨((v,n),(u,m),[],w'),⟨r.cP,(hn.cH fun g hg=>r.cP.block g (hS g hg)).cI fun _ hg=>.inl hg,(hm.cH fun g hg=>r.cP.block g (hS g hg)).cI fun _ hg=>.inl hg,SA,PR,rfl⟩,
   Sub.gen [] r trivial ⟨rfl,rfl,trivial⟩ trivial (by simp[jX,SV.sc,At.sc]) (by rfl) (by simp)⟩
 ·rintro⟨⟨vx,x⟩,⟨vy,y⟩,iv,w1⟩ ⟨hw,hx,hy,Oj,Qa,hg⟩;dsimp only at hw hx hy Oj Qa hg ⊢;have hyN:=hy;obtain⟨p,rfl,Qd,QF⟩:=hy.la;have PN:=eJ p.lm QF;rw[Qd]at PN;refine dM.mk ?_ ?_<;>intro h
  ·have h:0<p.ls.length:=by
    have:(p.ls.length:Int)>0:=aI h;omega
   have Pp:0<y:=by
    rcases bK y with h0|h0
    ·rw[h0]at PN;rw[ME]at PN;omega
    ·exact h0
   refine cC (cM (Φ:=fun _ w' v w2=>∃q r,v= .tuple #[q,r]∧dq w2 (Nf w' w2) q (x / y)∧dq w2 (Nw (Cv S w.heap.size iv) w' w2) r (x % y)) (fun O w' r=>qQ (Rel.old r hS) (hx.rel r hS) (hyN.rel r hS) Pp Oj) ?_);rintro O w3 v3 w4 r he RV ⟨q,rm,rfl,-,hr⟩;replace hw:=hw.tr RV;have VR:dq w4 (Cv S w.heap.size ((w3.heap.size,w4.heap.size)::iv)) rm (x % y):=hr.cI fun g hg=>Nw.cv hg r.cD;have hyN:=hyN.cF (iv':=(w3.heap.size,w4.heap.size)::iv) r hS he fun x hx=>List.mem_cons_of_mem _ hx;generalize (w3.heap.size,w4.heap.size)::iv=OJ at*
   intro ρ5 w5 r5
   refine⟨((_,y),(rm,x % y),OJ,w5),⟨hw.tr r5.cP,hyN.rel r5 hS,VR.rel r5 hS,Qa,aZ (fI (Nat.le_of_lt (bs x Pp))) Qa,?_⟩,
    Sub.gen [] r5 trivial ⟨rfl,rfl,trivial⟩ trivial (by simp[jX,SV.sc,At.sc]) (by rfl) (by simp),bs x Pp⟩
   dsimp only
   rw[<-hg,Nat.gcd_comm x y,Nat.gcd_rec y x,Nat.gcd_comm]
  ·have h:p.ls.length=0:=by
    have:¬(p.ls.length:Int)>0:=aH h;omega
   have Pp:y=0:=by
    have:=lQ y;rw[<-PN,h,jV]at this;omega
   rw[Pp,Nat.gcd_zero_right]at hg;intro ρ5 w5 r5;exact⟨_,rfl,hw.tr r5.cP,by rw[<-hg];exact(hx.rel r5 hS).cI fun g hg=>Cv.nw hg r5⟩
def sg(neg:Bool)(n:Nat):Int:=if neg then -(n:Int)else n
theorem LH(n:Nat):sg true n= -(n:Int):=rfl
theorem Nt(n:Nat):sg false n=n:=rfl
theorem sn(b:Bool)(n:Nat):(sg b n).natAbs=n:=by cases b<;>simp[sg]
def uW(w:World)(S:Nat->Prop)(v:Value)(neg:Bool)(ls:List Nat):Prop:=∃lv,v= .agg #[.bool neg,lv]∧dO w S lv ls
def eK(w:World)(S:Nat->Prop)(v:Value)(z:Int):Prop:=∃nv,v= .agg #[.bool (decide (z<0)),nv]∧dq w S nv z.natAbs
section
variable{S S':Nat->Prop}{H:Hp}{nx:Nat}{iv iv':Iv}{B:Nat}{w w' w2:World}{O:Nat->Sx.dg}{v:Value}{z:Int}
theorem eK.cH(h:eK w S v z)(hk:∀g,S g->w2.heap[g]? =w.heap[g]?):eK w2 S v z:=by
 obtain⟨nv,h1,h2⟩:=h;exact⟨nv,h1,h2.cH hk⟩
theorem eK.cI(h:eK w S v z)(hk:∀g,S g->S' g):eK w S' v z:=by
 obtain⟨nv,h1,h2⟩:=h;exact⟨nv,h1,h2.cI hk⟩
theorem eK.rel(h:eK w (Cv S B iv) v z)(r:Rel H nx iv B w O w')(hS:∀g,S g->g<B):eK w' (Cv S B iv) v z:=h.cH fun _ hg=>Rel.same r hS hg
theorem eK.cF(h:eK w (Cv S B iv) v z)(r:Rel H nx iv B w O w')(hS:∀g,S g->g<B)(he:Ext w' w2)(hm:∀p,p∈iv->p∈iv'):eK w2 (Cv S B iv') v z:=by
 obtain⟨nv,h1,h2⟩:=h;exact⟨nv,h1,h2.cF r hS he hm⟩
theorem eK.dA(h:eK w2 (Nf w' w2) v z)(hB:B<=w'.heap.size)(hm:(w'.heap.size,w2.heap.size)∈iv):eK w2 (Cv S B iv) v z:=h.cI fun _ hg=>hg.dA hB hm
end
theorem wD{k:Nat}(h:k=ln n):0<k↔0<n:=by
 have h1:=@gI n 0;rw[jV]at h1;omega
theorem dO.shape(h:dO w S v ls):∃a n c,v= .slice a n c:=by
 obtain⟨a,c,h,_⟩:=h.sl;exact⟨a,_,c,h⟩
theorem dq.shape(h:dq w S v n):∃a n c,v= .slice a n c:=by
 obtain⟨_,h,_⟩:=h;exact h.shape
theorem dO.arg(h:dO w S v ls)(iv:Iv):dO w (Cv S w.heap.size iv) v ls:=h.cI fun _ h=>.inl h
theorem dq.arg(h:dq w S v n)(iv:Iv):dq w (Cv S w.heap.size iv) v n:=h.cI fun _ h=>.inl h
theorem dq.out(h:dq w1 (Cv S w.heap.size iv) v n)(r:Rel H nx iv w.heap.size w1 O w')(hS:Old S w):dq w' (Nw S w w') v n:=
 (h.rel r hS).cI fun _ hg=>Cv.nw hg r
theorem eK.out(h:eK w1 (Cv S w.heap.size iv) v z)(r:Rel H nx iv w.heap.size w1 O w')(hS:Old S w):eK w' (Nw S w w') v z:=
 (h.rel r hS).cI fun _ hg=>Cv.nw hg r
theorem neg_pos{k:Nat}(h:k=ln n):decide ((k:Int)>0)=decide (-(n:Int)<0):=by
 have:=wD h;exact decide_eq_decide.2 (by omega)
theorem cB(w:World):Old FF w:=fun _ h=>h.elim
theorem aAm{neg:Bool}(hS:Old S w)(h:uW w S v neg ls):
  di PG N.zl #[v] w (dw w fun v' w2=>eK w2 (Nw S w w2) v' (sg neg (val ls))):=by
 obtain⟨lv,rfl,hl⟩:=h;replace hl:=hl.arg [];refine FJ (by simp) ?_;refine cC (cM (Φ:=fun _ _ v w2=>dO w2 (Cv S w.heap.size []) v (dh ls)) (fun O w' r=>fN (Rel.old r hS) (dO.rel hl r hS)) ?_);rintro O w1 v1 w2 r he hw hL;have hN:=hL.trimmed.cI (S':=Cv S w.heap.size [(w1.heap.size,w2.heap.size)]) fun _ hg=>hg.cons;have hN2:=hN;obtain⟨p,rfl,Qd,QF⟩:=hN.la;have PN:=eJ p.lm QF;rw[Qd]at PN
 cases neg
 ·intro ρ3 w3 r3;exact⟨_,rfl,hw.tr r3.cP,_,rfl,by rw[sn];exact hN2.out r3 hS⟩
 ·intro ρ3 w3 r3;exact⟨_,rfl,hw.tr r3.cP,_,by rw[LH,<-neg_pos PN];rfl,by rw[sn];exact hN2.out r3 hS⟩
theorem LI(hS:Old S w)(h:eK w S v z)(SA:ln z.natAbs<=100000000000):
  di PG N.mb #[v] w (dw w fun v' w2=>∃ls,uW w2 (Nf w w2) v' (decide (z<0)) ls∧Nz ls∧val ls=z.natAbs):=by
 obtain⟨nv,rfl,hn⟩:=h;obtain⟨ls,hl,hz,hv⟩:=hn;replace hl:=hl.arg [];refine qM (by simp) ?_;refine cC (cM (Φ:=fun _ _ v w2=>dO w2 (Cv S w.heap.size []) v (dh ls)) (fun O w' r=>fN (Rel.old r hS) (dO.rel hl r hS)) ?_);rintro O w1 v1 w2 r he hw hL;rw[EY hz]at hL;have PN:=eJ hl.lm hz;rw[hv]at PN;replace hL:=hL.cI (S':=Cv S w.heap.size [(w1.heap.size,w2.heap.size)]) fun _ hg=>hg.cons;have hL2:=hL;obtain⟨p,rfl,hp⟩:=hL.la;have Uz:(p.ls.length:Int)>0↔z≠0:=by
  have h1:=wD PN;rw[hp];omega
 subst hp;generalize hb:decide (z<0)=b
 cases b
 all_goals
  refine cC (cM (Φ:=fun _ w' v w2=>dO w2 (Nf w' w2) v p.ls) (fun O w' r=>IB (Rel.old r hS) (dO.rel hL2 r hS) (by omega)) ?_);rintro O w3 v3 w4 r he RV hc;replace hw:=hw.tr RV;have S4:=hc.dA (S:=FF) r.cD (iv:=(w3.heap.size,w4.heap.size)::[(w1.heap.size,w2.heap.size)]) aG;obtain⟨a3,n3,c3,rfl⟩:=S4.shape;intro ρ5 w5 r5;refine⟨_,rfl,hw.tr r5.cP,p.ls,⟨_,?_,(dO.rel S4 r5 (cB w)).cI fun _ hg=>Cv.nw hg r5⟩,hz,hv⟩
 ·rfl
 ·have:decide ((p.ls.length:Int)>0)=true:=bS (Uz.2 (by have:=aI hb;omega));rw[<-this];rfl
theorem AY(h:eK w S v z):di PG N.mZ #[v] w (dw w fun v' _=>v'= .int .i64 z.sign):=by
 obtain⟨nv,rfl,hn⟩:=h;obtain⟨p,rfl,Qd,QF⟩:=hn.la;have PN:=eJ p.lm QF;rw[Qd]at PN;have Uz:=wD PN;generalize hb:decide (z<0)=b;refine qK (by simp) ?_;refine dM.mk ?_ ?_<;>intro h
 ·have h:p.ls.length=0:=by have:=eq_of_beq h;omega
  have hz:z=0:=by omega
  subst hz;intro O w2 r;exact⟨_,rfl,r.cP,rfl⟩
 ·have h:p.ls.length≠0:=fun e=>by rw[e]at h;simp at h
  have hz:z≠0:=by omega
  cases b
  ·have:=aH hb;intro O w2 r;exact⟨_,rfl,r.cP,by rw[bh (by omega)];rfl⟩
  ·have:=aI hb;intro O w2 r;exact⟨_,rfl,r.cP,by rw[bc (by omega)];rfl⟩
theorem od(hS:Old S w)(h:eK w S v z):di PG N.lj #[v] w (dw w fun v' w2=>eK w2 (Nw S w w2) v' (-z)):=by
 obtain⟨nv,rfl,hn⟩:=h;have RY:=hn.arg [];obtain⟨p,rfl,Qd,QF⟩:=hn.la;have PN:=eJ p.lm QF;rw[Qd]at PN;have Uz:=wD PN;have PY:(-z).natAbs=z.natAbs:=bz z;generalize hb:decide (z<0)=b;refine pK (by simp) ?_
 cases b
 ·have:=aH hb;have hd:decide ((p.ls.length:Int)>0)=decide (-z<0):=decide_eq_decide.2 (by omega);intro O w2 r;exact⟨_,rfl,r.cP,_,by rw[<-hd];rfl,by rw[PY];exact RY.out r hS⟩
 ·have:=aI hb;have hd:decide (-z<0)=false:=bI (by omega);intro O w2 r;exact⟨_,rfl,r.cP,_,by rw[hd];rfl,by rw[PY];exact RY.out r hS⟩
theorem eK.num(h:eK w S v z):∃a n c,v= .agg #[.bool (decide (z<0)),.slice a n c]∧dq w S (.slice a n c) z.natAbs:=by
 obtain⟨nv,h1,h2⟩:=h;obtain⟨a,n,c,rfl⟩:=h2.shape;exact⟨a,n,c,h1,h2⟩
theorem CP(hS:Old S w)(hx:eK w S v x)(hy:eK w S u y)(Oj:ln x.natAbs<=100000000000)(Qa:ln y.natAbs<=100000000000):
  di PG N.ma #[v,u] w (dw w fun v' w2=>eK w2 (Nf w w2) v' (x+y)):=by
 obtain⟨nx,rfl,RM⟩:=hx;obtain⟨ny,rfl,Sn⟩:=hy;obtain⟨ax,lx,cx,rfl⟩:=RM.shape;obtain⟨ay,ly,cy,rfl⟩:=Sn.shape;replace RM:=RM.arg [];replace Sn:=Sn.arg [];generalize Sz:decide (x<0)=bx;generalize PQ:decide (y<0)=b2;refine qL (by simp) ?_;have Qo:bx=b2->(x+y).natAbs=x.natAbs+y.natAbs∧decide (x+y<0)=bx:=fun e=>by
  cases bx<;>subst e
  ·have h1:=aH Sz;have h2:=aH PQ;exact⟨by omega,bI (by omega)⟩
  ·have h1:=aI Sz;have h2:=aI PQ;exact⟨by omega,bS (by omega)⟩
 have Ue:bx≠b2->y.natAbs<=x.natAbs->(x+y).natAbs=x.natAbs-y.natAbs∧(decide (x+y<0)=(bx&&decide (x.natAbs-y.natAbs≠0))):=fun e h=>by
  cases bx
  ·have h1:=aH Sz
   cases b2
   ·exact absurd rfl e
   have h2:=aI PQ;exact⟨by omega,by rw[Bool.false_and];exact bI (by omega)⟩
  ·have h1:=aI Sz
   cases b2
   ·have h2:=aH PQ;exact⟨by omega,by rw[Bool.true_and];exact decide_eq_decide.2 (by omega)⟩
   ·exact absurd rfl e
 have TA:bx≠b2->x.natAbs<y.natAbs->(x+y).natAbs=y.natAbs-x.natAbs∧decide (x+y<0)=b2:=fun e h=>by
  cases bx
  ·have h1:=aH Sz
   cases b2
   ·exact absurd rfl e
   have h2:=aI PQ;exact⟨by omega,bS (by omega)⟩
  ·have h1:=aI Sz
   cases b2
   ·have h2:=aH PQ;exact⟨by omega,bI (by omega)⟩
   ·exact absurd rfl e
 by_cases OT:bx=b2
 ·obtain⟨h1,h2⟩:=Qo OT;subst OT
  cases bx
  all_goals
   refine cK hτ dZ [.x 0,.x 1,.x 2,.x 3,.x 4,.x 5,.x 6,.x 7,.x 8] (by kernel_rfl) (by kernel_rfl) ?_;refine cM (Φ:=fun _ w' v w2=>dq w2 (Nf w' w2) v (x.natAbs+y.natAbs)) (fun O w' r=>OA (Rel.old r hS) (RM.rel r hS) (Sn.rel r hS) (by omega) (by omega)) ?_;rintro O w3 v3 w4 r he hw hn;have hN:=hn.dA (S:=FF) r.cD (iv:=(w3.heap.size,w4.heap.size)::[]) aG;obtain⟨a3,n3,c3,rfl⟩:=hN.shape;intro ρ5 w5 r5;exact⟨_,rfl,hw.tr r5.cP,_,by rw[h2];rfl,by rw[h1];exact hN.out r5 (cB w)⟩
 ·replace Ue:=Ue OT;replace TA:=TA OT;have hcmp:∀d:Int,d=s8 x.natAbs y.natAbs->(0<=d↔y.natAbs<=x.natAbs):=fun d e=>by
   rw[e];unfold s8;split
   ·omega
   ·split<;>omega
  cases bx<;>cases b2<;>first|exact absurd rfl OT|skip
  all_goals
   refine cC (cM (Φ:=fun _ _ v _=>v= .int .i64 (s8 x.natAbs y.natAbs)) (fun O w' r=>Kn (Rel.old r hS) (RM.rel r hS) (Sn.rel r hS)) ?_);rintro O w1 v1 w2 r he hw rfl;replace RM:=RM.cF (iv':=[(w1.heap.size,w2.heap.size)]) r hS he fun x hx=>List.mem_cons_of_mem _ hx;replace Sn:=Sn.cF (iv':=[(w1.heap.size,w2.heap.size)]) r hS he fun x hx=>List.mem_cons_of_mem _ hx;refine dM.mk ?_ ?_<;>intro h
   ·have h:=(hcmp _ rfl).1 (aI h);obtain⟨h1,h2⟩:=Ue h;refine cC (cM (Φ:=fun _ w' v w2=>dq w2 (Nf w' w2) v (x.natAbs-y.natAbs)) (fun O w' r=>DW (Rel.old r hS) (RM.rel r hS) (Sn.rel r hS) h (by omega)) ?_);rintro O w3 v3 w4 r he RV hn;replace hw:=hw.tr RV;have hN:=hn.dA (S:=FF) r.cD (iv:=(w3.heap.size,w4.heap.size)::[(w1.heap.size,w2.heap.size)]) aG;have hN2:=hN;obtain⟨p,rfl,Qd,QF⟩:=hN.la;have PN:=eJ p.lm QF;rw[Qd]at PN;have Uz:=wD PN;have hd:decide ((p.ls.length:Int)>0)=decide (x.natAbs-y.natAbs≠0):=decide_eq_decide.2 (by omega);intro ρ5 w5 r5;exact⟨_,rfl,hw.tr r5.cP,_,by rw[h2,<-hd];rfl,by rw[h1];exact hN2.out r5 (cB w)⟩
   ·have h:x.natAbs<y.natAbs:=by
     have h0:=aH h;have:=hcmp _ rfl;omega
    obtain⟨h1,h2⟩:=TA h;refine cK hτ dZ [.x 0,.x 1,.x 2,.x 3,.x 4,.x 5,.x 6,.x 7,.x 8] (by kernel_rfl) (by kernel_rfl) ?_;refine cM (Φ:=fun _ w' v w2=>dq w2 (Nf w' w2) v (y.natAbs-x.natAbs)) (fun O w' r=>DW (Rel.old r hS) (Sn.rel r hS) (RM.rel r hS) (by omega) (by omega)) ?_;rintro O w3 v3 w4 r he RV hn;replace hw:=hw.tr RV;have hN:=hn.dA (S:=FF) r.cD (iv:=(w3.heap.size,w4.heap.size)::[(w1.heap.size,w2.heap.size)]) aG;obtain⟨a3,n3,c3,rfl⟩:=hN.shape;intro ρ5 w5 r5;exact⟨_,rfl,hw.tr r5.cP,_,by rw[h2];rfl,by rw[h1];exact hN.out r5 (cB w)⟩
theorem iE(hS:Old S w)(hx:eK w S v x)(hy:eK w S u y)(Oj:ln x.natAbs<=100000000000)(Qa:ln y.natAbs<=100000000000):
  di PG N.lh #[v,u] w (dw w fun v' w2=>eK w2 (Nf w w2) v' (x*y)):=by
 obtain⟨nx,rfl,RM⟩:=hx;obtain⟨ny,rfl,Sn⟩:=hy;obtain⟨ax,lx,cx,rfl⟩:=RM.shape;obtain⟨ay,ly,cy,rfl⟩:=Sn.shape;replace RM:=RM.arg [];replace Sn:=Sn.arg [];have PY:=Int.natAbs_mul x y;have RB:decide (x*y<0)=((decide (x<0) != decide (y<0))&&decide (x.natAbs*y.natAbs≠0)):=by
  by_cases h0:x*y=0
  ·rw[<-PY,h0];simp
  ·have R0:x≠0:=fun e=>h0 (by rw[e,Int.zero_mul]);have Pp:y≠0:=fun e=>h0 (by rw[e,Int.mul_zero]);rw[<-PY,bS (show (x*y).natAbs≠0 by omega),Bool.and_true];by_cases h1:x<0<;>by_cases h2:y<0
   ·rw[bS h1,bS h2];exact bI (by have:=Int.mul_pos_of_neg_of_neg h1 h2;omega)
   ·rw[bS h1,bI h2];exact bS (Int.mul_neg_of_neg_of_pos h1 (by omega))
   ·rw[bI h1,bS h2];exact bS (Int.mul_neg_of_pos_of_neg (by omega) h2)
   ·rw[bI h1,bI h2];exact bI (by have:=Int.mul_nonneg (show 0<=x by omega) (show 0<=y by omega);omega)
 generalize decide (x<0)=bx at*
 generalize decide (y<0)=b2 at*
 refine pJ (by simp) ?_;refine cC (cM (Φ:=fun _ w' v w2=>dq w2 (Nf w' w2) v (x.natAbs*y.natAbs)) (fun O w' r=>ID (Rel.old r hS) (RM.rel r hS) (Sn.rel r hS) (by omega) (by omega)) ?_);rintro O w3 v3 w4 r he hw hn;have hN:=hn.dA (S:=FF) r.cD (iv:=(w3.heap.size,w4.heap.size)::[]) aG;have hN2:=hN;obtain⟨p,rfl,Qd,QF⟩:=hN.la;have PN:=eJ p.lm QF;rw[Qd]at PN;have Uz:=wD PN;have hd:decide ((p.ls.length:Int)>0)=decide (x.natAbs*y.natAbs≠0):=decide_eq_decide.2 (by omega)
 cases bx<;>cases b2
 all_goals
  intro ρ5 w5 r5;exact⟨_,rfl,hw.tr r5.cP,_,by rw[RB,<-hd];rfl,by rw[PY];exact hN2.out r5 (cB w)⟩
theorem LN(hS:Old S w)(hx:eK w S v x)(hy:eK w S u y)(Oj:ln x.natAbs<=100000000000)(Qa:ln y.natAbs<=100000000000):
  di PG N.nW #[v,u] w (dw w fun v' _=>v'= .int .i64 (x-y).sign):=by
 have hxN:eK w (Cv S w.heap.size []) v x:=hx.cI fun _ h=>.inl h;have hyN:eK w (Cv S w.heap.size []) u y:=hy.cI fun _ h=>.inl h;obtain⟨nx,rfl,RM⟩:=hx;obtain⟨ny,rfl,Sn⟩:=hy;obtain⟨ax,lx,cx,rfl⟩:=RM.shape;obtain⟨ay,ly,cy,rfl⟩:=Sn.shape;refine rI (by simp) ?_;refine cK hτ dZ [.x 0,.x 1,.x 2,.x 3,.x 4,.x 5] (by kernel_rfl) (by kernel_rfl) ?_;refine cM (Φ:=fun _ w' v w2=>eK w2 (Nw (Cv S w.heap.size []) w' w2) v (-y)) (fun O w' r=>od (Rel.old r hS) (hyN.rel r hS)) ?_;rintro O w1 v1 w2 r he hw hm;have Td:eK w2 (Cv S w.heap.size [(w1.heap.size,w2.heap.size)]) v1 (-y):=hm.cI fun _ hg=>Nw.cv hg r.cD;replace hxN:=hxN.cF (iv':=[(w1.heap.size,w2.heap.size)]) r hS he fun x hx=>List.mem_cons_of_mem _ hx;generalize [(w1.heap.size,w2.heap.size)]=iv at*
 have hmN2:=Td;obtain⟨am,lm,cm,rfl,-⟩:=Td.num;refine cM (Φ:=fun _ w' v w2=>eK w2 (Nf w' w2) v (x+ -y)) (fun O w' r=>CP (Rel.old r hS) (hxN.rel r hS) (hmN2.rel r hS) Oj (by rw[bz];exact Qa)) ?_;rintro O w3 v3 w4 r he RV hp;replace hw:=hw.tr RV;have hpN:=hp.dA (S:=S) r.cD (iv:=(w3.heap.size,w4.heap.size)::iv) aG;have hpN2:=hpN;obtain⟨ap,lp,cp,rfl,-⟩:=hpN.num;refine cM (Φ:=fun _ _ v _=>v= .int .i64 (x-y).sign) (fun O w' r=>AY (hpN2.rel r hS)) ?_;rintro O w5 v5 w6 r he hb6 rfl;replace hw:=hw.tr hb6;intro ρ7 w7 r7;exact⟨_,rfl,hw.tr r7.cP,rfl⟩
theorem oh(n:Int)(w:World)(h1: -9223372036854775808<=n)(h2:n<=9223372036854775807):
  di PG N.xK #[.int .i64 n] w (dw w fun v' w2=>eK w2 (Nf w w2) v' n):=by
 have key:∀(m:Nat),m=n.natAbs->m<18446744073709551616∧val [m % 4294967296,m / 4294967296]=n.natAbs∧m / 4294967296<4294967296:=fun m e=>by
  refine⟨by omega,?_,by omega⟩;simp only[val]
  omega
 refine AO (by simp) ?_;refine⟨if n<0 then n+18446744073709551616 else n,by show n % 18446744073709551616=_;split<;>omega,?_⟩;refine dM.mk ?_ ?_<;>intro h
 ·have h:=aI h;rw[if_pos h];obtain⟨m,hm⟩:∃m,m=n.natAbs:=⟨_,rfl⟩
  obtain⟨k1,k2,k3⟩:=key m hm;refine⟨(m:Int),by show(0-(n+18446744073709551616)) % 18446744073709551616=_;omega,((m % 4294967296:Nat):Int),fE m,by decide,((m / 2^32:Nat):Int),mE 32 (by decide),((m / 4294967296:Nat):Int),by rw[fE,bN (by omega)],?_⟩;refine gZ (Φ:=fun O _ v w2=>dO w2 (fun g=>g=(O 1).g) v (dh [m % 4294967296,m / 4294967296])) (H':=[(0,.box T.number [.v (.bool false),.v (.slice none 0 0)])]) 1 rfl (by simp) ⟨rfl,trivial⟩ rfl (fun O w' r=>r.nn 1 _ rfl (by intros;simp) (by simp)) (fun O w' r=>?_) ?_
  ·have hL:=r.uP (id:=1) (ls:=[m % 4294967296,m / 4294967296]) rfl (by intro x hx;simp at hx;omega) (by simp);exact fN (fun g hg=>by rw[hg];exact(r.low 1 _ rfl (r.nn 1 _ rfl (by intros;simp) (by simp))).2) hL
  rintro O w1 v1 w2 r he hw hL;have Og:=r.low 1 _ rfl (r.nn 1 _ rfl (by intros;simp) (by simp));have hs:=he.size;generalize (O 1).g=g0 at*
  have hN:dq w2 (Cf w [(g0,g0+1),(w1.heap.size,w2.heap.size)]) v1 n.natAbs:=by
   have:=hL.trimmed;rw[k2]at this;exact this.cI fun k hk=>.inr ⟨by omega,g0,g0+1,by simp,by omega,by omega⟩
  generalize [(g0,g0+1),(w1.heap.size,w2.heap.size)]=iv at*
  obtain⟨a3,n3,c3,rfl⟩:=hN.shape;intro ρ5 w5 r5;exact⟨_,rfl,hw.tr r5.cP,_,rfl,hN.out r5 (cB w)⟩
 ·have h:=aH h;rw[aL h];obtain⟨m,hm⟩:∃m,m=n.natAbs:=⟨_,rfl⟩
  obtain⟨k1,k2,k3⟩:=key m hm;have Q6:n=(m:Int):=by omega
  refine⟨((m % 4294967296:Nat):Int),by rw[Q6];exact fE m,by decide,((m / 2^32:Nat):Int),by rw[Q6];exact mE 32 (by decide),((m / 4294967296:Nat):Int),by rw[fE,bN (by omega)],?_⟩;refine gZ (Φ:=fun O _ v w2=>dO w2 (fun g=>g=(O 1).g) v (dh [m % 4294967296,m / 4294967296])) (H':=[(0,.box T.number [.v (.bool false),.v (.slice none 0 0)])]) 1 rfl (by simp) ⟨rfl,trivial⟩ rfl (fun O w' r=>r.nn 1 _ rfl (by intros;simp) (by simp)) (fun O w' r=>?_) ?_
  ·have hL:=r.uP (id:=1) (ls:=[m % 4294967296,m / 4294967296]) rfl (by intro x hx;simp at hx;omega) (by simp);exact fN (fun g hg=>by rw[hg];exact(r.low 1 _ rfl (r.nn 1 _ rfl (by intros;simp) (by simp))).2) hL
  rintro O w1 v1 w2 r he hw hL;have Og:=r.low 1 _ rfl (r.nn 1 _ rfl (by intros;simp) (by simp));have hs:=he.size;generalize (O 1).g=g0 at*
  have hN:dq w2 (Cf w [(g0,g0+1),(w1.heap.size,w2.heap.size)]) v1 n.natAbs:=by
   have:=hL.trimmed;rw[k2]at this;exact this.cI fun k hk=>.inr ⟨by omega,g0,g0+1,by simp,by omega,by omega⟩
  generalize [(g0,g0+1),(w1.heap.size,w2.heap.size)]=iv at*
  obtain⟨a3,n3,c3,rfl⟩:=hN.shape;intro ρ5 w5 r5;exact⟨_,rfl,hw.tr r5.cP,_,rfl,hN.out r5 (cB w)⟩
def jc(w:World)(S:Nat->Prop)(v:Value)(z:Int):Prop:=∃neg ls,uW w S v neg ls∧sg neg (val ls)=z
def dK(w:World)(S:Nat->Prop)(v:Value)(z:Int):Prop:=∃ls,uW w S v (decide (z<0)) ls∧Nz ls∧val ls=z.natAbs
theorem CW(z:Int):sg (decide (z<0)) z.natAbs=z:=by
 by_cases h:z<0
 ·rw[bS h,LH];omega
 ·rw[bI h,Nt];omega
theorem dK.r(h:dK w S v z):jc w S v z:=by
 obtain⟨ls,h1,h2,h3⟩:=h;exact⟨_,ls,h1,by rw[h3,CW]⟩
section
variable{S S':Nat->Prop}{H:Hp}{nx:Nat}{iv iv':Iv}{B:Nat}{w w' w2:World}{O:Nat->Sx.dg}{v:Value}{z:Int}{neg:Bool}{ls:List Nat}
theorem uW.cH(h:uW w S v neg ls)(hk:∀g,S g->w2.heap[g]? =w.heap[g]?):uW w2 S v neg ls:=by
 obtain⟨lv,h1,h2⟩:=h;exact⟨lv,h1,h2.cH hk⟩
theorem uW.cI(h:uW w S v neg ls)(hk:∀g,S g->S' g):uW w S' v neg ls:=by
 obtain⟨lv,h1,h2⟩:=h;exact⟨lv,h1,h2.cI hk⟩
theorem jc.cH(h:jc w S v z)(hk:∀g,S g->w2.heap[g]? =w.heap[g]?):jc w2 S v z:=by
 obtain⟨n,l,h1,h2⟩:=h;exact⟨n,l,h1.cH hk,h2⟩
theorem jc.cI(h:jc w S v z)(hk:∀g,S g->S' g):jc w S' v z:=by
 obtain⟨n,l,h1,h2⟩:=h;exact⟨n,l,h1.cI hk,h2⟩
theorem dK.cH(h:dK w S v z)(hk:∀g,S g->w2.heap[g]? =w.heap[g]?):dK w2 S v z:=by
 obtain⟨l,h1,h2⟩:=h;exact⟨l,h1.cH hk,h2⟩
theorem dK.cI(h:dK w S v z)(hk:∀g,S g->S' g):dK w S' v z:=by
 obtain⟨l,h1,h2⟩:=h;exact⟨l,h1.cI hk,h2⟩
theorem jc.rel(h:jc w (Cv S B iv) v z)(r:Rel H nx iv B w O w')(hS:∀g,S g->g<B):jc w' (Cv S B iv) v z:=h.cH fun _ hg=>Rel.same r hS hg
theorem dK.rel(h:dK w (Cv S B iv) v z)(r:Rel H nx iv B w O w')(hS:∀g,S g->g<B):dK w' (Cv S B iv) v z:=h.cH fun _ hg=>Rel.same r hS hg
theorem jc.cF(h:jc w (Cv S B iv) v z)(r:Rel H nx iv B w O w')(hS:∀g,S g->g<B)(he:Ext w' w2)(hm:∀p,p∈iv->p∈iv'):jc w2 (Cv S B iv') v z:=
 ((h.rel r hS).cH fun g hg=>he.block g (Rel.old r hS g hg)).cI fun _ hg=>hg.mono hm
theorem dK.cF(h:dK w (Cv S B iv) v z)(r:Rel H nx iv B w O w')(hS:∀g,S g->g<B)(he:Ext w' w2)(hm:∀p,p∈iv->p∈iv'):dK w2 (Cv S B iv') v z:=
 ((h.rel r hS).cH fun g hg=>he.block g (Rel.old r hS g hg)).cI fun _ hg=>hg.mono hm
theorem dK.dA(h:dK w2 (Nf w' w2) v z)(hB:B<=w'.heap.size)(hm:(w'.heap.size,w2.heap.size)∈iv):dK w2 (Cv S B iv) v z:=h.cI fun _ hg=>hg.dA hB hm
theorem jc.shape(h:jc w S v z):∃b a n c,v= .agg #[.bool b,.slice a n c]:=by
 obtain⟨b,l,⟨lv,h1,h2⟩,_⟩:=h;obtain⟨a,n,c,rfl⟩:=h2.shape;exact⟨b,a,n,c,h1⟩
theorem eK.old(h:eK w2 (Nw (Cv S B iv) w' w2) v z)(hB:B<=w'.heap.size):eK w2 (Cv S B ((w'.heap.size,w2.heap.size)::iv)) v z:=h.cI fun _ hg=>Nw.cv hg hB
end
theorem dK.out(h:dK w1 (Cv S w.heap.size iv) v z)(r:Rel H nx iv w.heap.size w1 O w')(hS:Old S w):dK w' (Nw S w w') v z:=
 (h.rel r hS).cI fun _ hg=>Cv.nw hg r
theorem LR(hS:Old S w)(h:jc w S v z):di PG N.zl #[v] w (dw w fun v' w2=>eK w2 (Nw S w w2) v' z):=by
 obtain⟨n,l,h1,rfl⟩:=h;exact aAm hS h1
theorem eK.shape(h:eK w S v z):∃b a n c,v= .agg #[.bool b,.slice a n c]:=by
 obtain⟨a,n,c,h1,_⟩:=h.num;exact⟨_,a,n,c,h1⟩
theorem dK.shape(h:dK w S v z):∃b a n c,v= .agg #[.bool b,.slice a n c]:=h.r.shape
theorem cZ(x y:Int):ln (x*y).natAbs<=ln x.natAbs+ln y.natAbs:=by
 rw[Int.natAbs_mul];exact NU _ _
end Go.Ex
namespace Go.Ex
open Go Go.Sx
theorem zI{x y:Int}(hy:0<y)(hx:x≠0):
  (Rat.divInt x y).num.natAbs=x.natAbs / Nat.gcd x.natAbs y.natAbs∧(Rat.divInt x y).den=y.natAbs / Nat.gcd x.natAbs y.natAbs∧decide ((Rat.divInt x y).num<0)=decide (x<0):=by
 have hg:0<Nat.gcd x.natAbs y.natAbs:=bj _ (by omega);have hs:y.sign=1:=bh hy;have hc:(y.gcd x:Int)=(Nat.gcd x.natAbs y.natAbs:Nat):=by rw[Int.gcd_comm];rfl
 have hdx:((Nat.gcd x.natAbs y.natAbs:Nat):Int) ∣ x:=by
  rw[<-Int.natAbs_dvd_natAbs];exact Nat.gcd_dvd_left _ _
 have h1:(Rat.divInt x y).num=x / ((Nat.gcd x.natAbs y.natAbs:Nat):Int):=by
  rw[Rat.num_divInt,hs,Int.one_mul,hc]
 have hgi:0<((Nat.gcd x.natAbs y.natAbs:Nat):Int):=by omega
 refine⟨?_,?_,?_⟩
 ·rw[h1,Int.natAbs_ediv_of_dvd hdx];rfl
 ·rw[Rat.den_divInt,aL (by omega)];have:y.gcd x=Nat.gcd x.natAbs y.natAbs:=by rw[Int.gcd_comm];rfl
  rw[this]
 ·rw[h1];obtain⟨k,hk⟩:=hdx;refine decide_eq_decide.2 ?_;have:x / ((Nat.gcd x.natAbs y.natAbs:Nat):Int)=k:=by
   conv=>lhs;lhs;rw[hk]
   exact Int.mul_ediv_cancel_left _ (by omega)
  rw[this];generalize ((Nat.gcd x.natAbs y.natAbs:Nat):Int)=g at*
  subst hk;constructor
  ·intro h;exact Int.mul_neg_of_pos_of_neg hgi h
  ·intro h;have h0:¬0<=k:=fun hh=>by have:=Int.mul_nonneg (show 0<=g by omega) hh;omega
   omega
theorem Il{a b:Nat}:ln (a / b)<=ln a:=fI (Nat.div_le_self a b)
theorem zJ(y:Int):Rat.divInt 0 y=0:=Rat.zero_divInt y
end Go.Ex
namespace Go.Ex
open Go Go.Sx Go.Proofs
variable{b b2:Bool}{S:Nat->Prop}{q:Rat}{dv nv v:Value}{w:World}
theorem dq.old{B:Nat}{iv:Iv}{w' w2:World}{n:Nat}(h:dq w2 (Nw (Cv S B iv) w' w2) v n)(hB:B<=w'.heap.size):dq w2 (Cv S B ((w'.heap.size,w2.heap.size)::iv)) v n:=h.cI fun _ hg=>Nw.cv hg hB
def dT(w:World)(S:Nat->Prop)(v:Value)(q:Rat):Prop:=∃nv dv,v= .agg #[.bool (decide (q.num<0)),nv,.bool false,dv]∧dq w S nv q.num.natAbs∧dq w S dv q.den
theorem dT.cH{w2:World}(h:dT w S v q)(hk:∀g,S g->w2.heap[g]? =w.heap[g]?):dT w2 S v q:=by
 obtain⟨n,d,h1,h2,h3⟩:=h;exact⟨n,d,h1,h2.cH hk,h3.cH hk⟩
theorem dT.cI{S':Nat->Prop}(h:dT w S v q)(hk:∀g,S g->S' g):dT w S' v q:=by
 obtain⟨n,d,h1,h2,h3⟩:=h;exact⟨n,d,h1,h2.cI hk,h3.cI hk⟩
theorem dT.shape(h:dT w S v q):∃b a n c b2 a2 n2 c2,v= .agg #[.bool b,.slice a n c,.bool b2,.slice a2 n2 c2]:=by
 obtain⟨n,d,h1,h2,h3⟩:=h;obtain⟨a,n,c,rfl⟩:=h2.shape;obtain⟨a2,n2,c2,rfl⟩:=h3.shape;exact⟨_,a,n,c,_,a2,n2,c2,h1⟩
theorem dT.num(h:dT w S (.agg #[.bool b,nv,.bool b2,dv]) q):eK w S (.agg #[.bool b,nv]) q.num:=by
 obtain⟨n,d,h1,h2,h3⟩:=h;simp at h1;obtain⟨rfl,rfl,rfl,rfl⟩:=h1;exact⟨_,rfl,h2⟩
theorem dT.den(h:dT w S (.agg #[.bool b,nv,.bool b2,dv]) q):eK w S (.agg #[.bool b2,dv]) (q.den:Int):=by
 obtain⟨n,d,h1,h2,h3⟩:=h;simp at h1;obtain⟨rfl,rfl,rfl,rfl⟩:=h1;exact⟨_,by rw[bI (by omega)],h3⟩
theorem dT.of(h:eK w S (.agg #[.bool b,nv]) q.num)(k:eK w S (.agg #[.bool b2,dv]) (q.den:Int)):dT w S (.agg #[.bool b,nv,.bool b2,dv]) q:=by
 obtain⟨n,h1,h2⟩:=h;obtain⟨d,h3,h4⟩:=k;simp at h1 h3;obtain⟨rfl,rfl⟩:=h1;obtain⟨rfl,rfl⟩:=h3;refine⟨_,_,?_,h2,h4⟩;rw[bI (show ¬((q.den:Int)<0) by omega)]
section
variable{S S':Nat->Prop}{H:Hp}{nx:Nat}{iv iv':Iv}{B:Nat}{w w' w2:World}{O:Nat->Sx.dg}{v:Value}{q:Rat}
theorem dT.rel(h:dT w (Cv S B iv) v q)(r:Rel H nx iv B w O w')(hS:∀g,S g->g<B):dT w' (Cv S B iv) v q:=h.cH fun _ hg=>Rel.same r hS hg
theorem dT.cF(h:dT w (Cv S B iv) v q)(r:Rel H nx iv B w O w')(hS:∀g,S g->g<B)(he:Ext w' w2)(hm:∀p,p∈iv->p∈iv'):dT w2 (Cv S B iv') v q:=
 ((h.rel r hS).cH fun g hg=>he.block g (Rel.old r hS g hg)).cI fun _ hg=>hg.mono hm
theorem dT.dA(h:dT w2 (Nf w' w2) v q)(hB:B<=w'.heap.size)(hm:(w'.heap.size,w2.heap.size)∈iv):dT w2 (Cv S B iv) v q:=h.cI fun _ hg=>hg.dA hB hm
theorem dT.old(h:dT w2 (Nw (Cv S B iv) w' w2) v q)(hB:B<=w'.heap.size):dT w2 (Cv S B ((w'.heap.size,w2.heap.size)::iv)) v q:=h.cI fun _ hg=>Nw.cv hg hB
theorem dT.out{w0 w1:World}(h:dT w1 (Cv S w0.heap.size iv) v q)(r:Rel H nx iv w0.heap.size w1 O w')(hS:Old S w0):dT w' (Nw S w0 w') v q:=
 (h.rel r hS).cI fun _ hg=>Cv.nw hg r
end
theorem eK.nat{z:Int}(h:eK w S (.agg #[.bool b,nv]) z):b=decide (z<0)∧dq w S nv z.natAbs:=by
 obtain⟨n,h1,h2⟩:=h;simp at h1;obtain⟨rfl,rfl⟩:=h1;exact⟨rfl,h2⟩
theorem wI{u:Value}{x y:Int}(hS:Old S w)(hx:eK w S v x)(hy:eK w S u y)(Pp:y≠0)(Oj:ln x.natAbs<=100000000000)(Qa:ln y.natAbs<=100000000000):
  di PG N.zm #[v,u] w (dw w fun v' w2=>dT w2 (Nf w w2) v' (Rat.divInt x y)):=by
 have hw:=bR w;replace hx:=hx.cI (S':=Cv S w.heap.size []) fun _ h=>.inl h;replace hy:=hy.cI (S':=Cv S w.heap.size []) fun _ h=>.inl h;obtain⟨bx,ax,lx,cx,rfl⟩:=hx.shape;obtain⟨b2,ay,ly,cy,rfl⟩:=hy.shape;have QI:=hy.nat.1;refine BF (by simp) ?_
 cases b2
 ·have hyp:0<y:=by have:=aH QI.symm;omega
  have hq:Rat.divInt x y=Rat.divInt x y:=rfl;have hbA:=hx.nat.1;refine cC (cE hw (fun _ w' v w2=>v= .int .i64 (x).sign) (fun O w' r=>AY (hx.rel r hS)) ?_);rintro O Pq v1 Pe OM r he hw h_ rfl;replace hx:=hx.cF r hS he (mC h_);replace hy:=hy.cF r hS he (mC h_);refine dM.mk ?_ ?_<;>intro h
  ·have h:x=0:=Int.sign_eq_zero_iff_zero.1 (eq_of_beq h);refine cC (cE hw (fun _ w' v w2=>eK w2 (Nf w' w2) v 1) (fun O w' r=>oh 1 w' (by decide) (by decide)) ?_);rintro O Pr v2 PB OJ r he hw h_ hn;have hO:=hn.dA (S:=FF) r.cD (mN h_);obtain⟨A0,A1,A2,A3,rfl⟩:=hO.shape;have e0:Rat.divInt x y=0:=by rw[hq,h,zJ]
   exact rtn hw fun ρe we re=>by rw[e0];exact dT.of ⟨_,rfl,dq.nil _ _⟩ (hO.out re (cB w))
  ·have h:x≠0:=fun e=>by rw[e]at h;exact absurd h (by decide)
   obtain⟨g1,g2,g3⟩:=zI hyp h;have So:0<Nat.gcd (x).natAbs (y).natAbs:=bj _ (by omega);have Vn:=hx.nat.2;have Rs:=hy.nat.2;refine cC (cM (Φ:=fun _ w' v w2=>dq w2 (Nw (Cv S w.heap.size OM) w' w2) v (Nat.gcd (x).natAbs (y).natAbs)) (fun O w' r=>FW (Rel.old r hS) (Vn.rel r hS) (Rs.rel r hS) (by omega) (by omega)) ?_);rintro O Pr v2 PB r he hb hn;replace hw:=hw.tr hb;replace Vn:=Vn.cF (iv':=(Pr.heap.size,PB.heap.size)::OM) r hS he fun x hx=>List.mem_cons_of_mem _ hx;replace Rs:=Rs.cF (iv':=(Pr.heap.size,PB.heap.size)::OM) r hS he fun x hx=>List.mem_cons_of_mem _ hx;have hG:=hn.old r.cD;generalize (Pr.heap.size,PB.heap.size)::OM=OJ at*
   obtain⟨A0,A1,A2,rfl⟩:=hG.shape;refine cC (cM (Φ:=fun _ w' v w2=>∃q r,v= .tuple #[q,r]∧dq w2 (Nf w' w2) q ((x).natAbs / Nat.gcd (x).natAbs (y).natAbs)∧dq w2 (Nw (Cv S w.heap.size OJ) w' w2) r ((x).natAbs % Nat.gcd (x).natAbs (y).natAbs)) (fun O w' r=>qQ (Rel.old r hS) (Vn.rel r hS) (hG.rel r hS) So (by omega)) ?_);rintro O PX v3 PU r he hb ⟨qvp,rvp,rfl,RK,Sj⟩;replace hw:=hw.tr hb;replace Rs:=Rs.cF (iv':=(PX.heap.size,PU.heap.size)::OJ) r hS he fun x hx=>List.mem_cons_of_mem _ hx;replace hG:=hG.cF (iv':=(PX.heap.size,PU.heap.size)::OJ) r hS he fun x hx=>List.mem_cons_of_mem _ hx;have hP:=RK.dA (S:=FF) r.cD (iv:=(PX.heap.size,PU.heap.size)::OJ) aG;have hPr:=Sj.old r.cD;generalize (PX.heap.size,PU.heap.size)::OJ=OP at*
   obtain⟨s3_0a,s3_0b,s3_0c,rfl⟩:=hP.shape;obtain⟨s3_1a,s3_1b,s3_1c,rfl⟩:=hPr.shape;refine cC (cM (Φ:=fun _ w' v w2=>∃q r,v= .tuple #[q,r]∧dq w2 (Nf w' w2) q ((y).natAbs / Nat.gcd (x).natAbs (y).natAbs)∧dq w2 (Nw (Cv S w.heap.size OP) w' w2) r ((y).natAbs % Nat.gcd (x).natAbs (y).natAbs)) (fun O w' r=>qQ (Rel.old r hS) (Rs.rel r hS) (hG.rel r hS) So (by omega)) ?_);rintro O QB v4 Pw r he hb ⟨qvq,rvq,rfl,RK,Sj⟩;replace hw:=hw.tr hb;replace hP:=hP.cF (iv':=(QB.heap.size,Pw.heap.size)::OP) r (cB w) he fun x hx=>List.mem_cons_of_mem _ hx;have hQ:=RK.dA (S:=FF) r.cD (iv:=(QB.heap.size,Pw.heap.size)::OP) aG;have hQr:=Sj.old r.cD;generalize (QB.heap.size,Pw.heap.size)::OP=OR at*
   obtain⟨s4_0a,s4_0b,s4_0c,rfl⟩:=hQ.shape;obtain⟨s4_1a,s4_1b,s4_1c,rfl⟩:=hQr.shape;exact rtn hw fun ρe we re=>by rw[hq];exact dT.of ⟨_,by rw[g3,<-hbA],by rw[g1];exact hP.out re (cB w)⟩ ⟨_,by rw[bI (by omega)],by rw[g2];exact hQ.out re (cB w)⟩
 ·have hyp:0< -y:=by have:=aI QI.symm;omega
  have hq:Rat.divInt x y=Rat.divInt (-x) (-y):=(Rat.neg_divInt_neg _ _).symm;have nx:=bz x;have ny:=bz y;have hlx2:ln (-x).natAbs<=100000000000:=by rw[nx];exact Oj
  have hly2:ln (-y).natAbs<=100000000000:=by rw[ny];exact Qa
  refine cK hτ dZ [.x 0,.x 2,.x 1,.x 3,.x 4,.x 5] (by kernel_rfl) (by kernel_rfl) ?_;refine cM (Φ:=fun _ w' v w2=>eK w2 (Nw (Cv S w.heap.size []) w' w2) v (-x)) (fun O w' r=>od (Rel.old r hS) (hx.rel r hS)) ?_;rintro O Pq v1 Pe r he hb hn;replace hw:=hw.tr hb;replace hy:=hy.cF (iv':=(Pq.heap.size,Pe.heap.size)::[]) r hS he fun x hx=>List.mem_cons_of_mem _ hx;have hA:=hn.old r.cD;generalize (Pq.heap.size,Pe.heap.size)::[]=OM at*
  obtain⟨C0,C1,C2,C3,rfl⟩:=hA.shape;refine cM (Φ:=fun _ w' v w2=>eK w2 (Nw (Cv S w.heap.size OM) w' w2) v (-y)) (fun O w' r=>od (Rel.old r hS) (hy.rel r hS)) ?_;rintro O Pr v2 PB r he hb hn;replace hw:=hw.tr hb;replace hA:=hA.cF (iv':=(Pr.heap.size,PB.heap.size)::OM) r hS he fun x hx=>List.mem_cons_of_mem _ hx;have hB:=hn.old r.cD;generalize (Pr.heap.size,PB.heap.size)::OM=OJ at*
  obtain⟨A0,A1,A2,A3,rfl⟩:=hB.shape;have hbA:=hA.nat.1;refine cC (cE hw (fun _ w' v w2=>v= .int .i64 (-x).sign) (fun O w' r=>AY (hA.rel r hS)) ?_);rintro O _ _ _ OP r he hw h_ rfl;replace hA:=hA.cF r hS he (mC h_);replace hB:=hB.cF r hS he (mC h_);refine dM.mk ?_ ?_<;>intro h
  ·have h: -x=0:=Int.sign_eq_zero_iff_zero.1 (eq_of_beq h);refine cC (cE hw (fun _ w' v w2=>eK w2 (Nf w' w2) v 1) (fun O w' r=>oh 1 w' (by decide) (by decide)) ?_);rintro O QB v4 Pw OR r he hw h_ hn;have hO:=hn.dA (S:=FF) r.cD (mN h_);obtain⟨E0,E1,E2,E3,rfl⟩:=hO.shape;have e0:Rat.divInt x y=0:=by rw[hq,h,zJ]
   exact rtn hw fun ρe we re=>by rw[e0];exact dT.of ⟨_,rfl,dq.nil _ _⟩ (hO.out re (cB w))
  ·have h: -x≠0:=fun e=>by rw[e]at h;exact absurd h (by decide)
   obtain⟨g1,g2,g3⟩:=zI hyp h;have So:0<Nat.gcd (-x).natAbs (-y).natAbs:=bj _ (by omega);have Vn:=hA.nat.2;have Rs:=hB.nat.2;refine cC (cM (Φ:=fun _ w' v w2=>dq w2 (Nw (Cv S w.heap.size OP) w' w2) v (Nat.gcd (-x).natAbs (-y).natAbs)) (fun O w' r=>FW (Rel.old r hS) (Vn.rel r hS) (Rs.rel r hS) (by omega) (by omega)) ?_);rintro O QB v4 Pw r he hb hn;replace hw:=hw.tr hb;replace Vn:=Vn.cF (iv':=(QB.heap.size,Pw.heap.size)::OP) r hS he fun x hx=>List.mem_cons_of_mem _ hx;replace Rs:=Rs.cF (iv':=(QB.heap.size,Pw.heap.size)::OP) r hS he fun x hx=>List.mem_cons_of_mem _ hx;have hG:=hn.old r.cD;generalize (QB.heap.size,Pw.heap.size)::OP=OR at*
   obtain⟨E0,E1,E2,rfl⟩:=hG.shape;refine cC (cM (Φ:=fun _ w' v w2=>∃q r,v= .tuple #[q,r]∧dq w2 (Nf w' w2) q ((-x).natAbs / Nat.gcd (-x).natAbs (-y).natAbs)∧dq w2 (Nw (Cv S w.heap.size OR) w' w2) r ((-x).natAbs % Nat.gcd (-x).natAbs (-y).natAbs)) (fun O w' r=>qQ (Rel.old r hS) (Vn.rel r hS) (hG.rel r hS) So (by omega)) ?_);rintro O RL v5 RI r he hb ⟨qvp,rvp,rfl,RK,Sj⟩;replace hw:=hw.tr hb;replace Rs:=Rs.cF (iv':=(RL.heap.size,RI.heap.size)::OR) r hS he fun x hx=>List.mem_cons_of_mem _ hx;replace hG:=hG.cF (iv':=(RL.heap.size,RI.heap.size)::OR) r hS he fun x hx=>List.mem_cons_of_mem _ hx;have hP:=RK.dA (S:=FF) r.cD (iv:=(RL.heap.size,RI.heap.size)::OR) aG;have hPr:=Sj.old r.cD;generalize (RL.heap.size,RI.heap.size)::OR=Ou at*
   obtain⟨s5_0a,s5_0b,s5_0c,rfl⟩:=hP.shape;obtain⟨s5_1a,s5_1b,s5_1c,rfl⟩:=hPr.shape;refine cC (cM (Φ:=fun _ w' v w2=>∃q r,v= .tuple #[q,r]∧dq w2 (Nf w' w2) q ((-y).natAbs / Nat.gcd (-x).natAbs (-y).natAbs)∧dq w2 (Nw (Cv S w.heap.size Ou) w' w2) r ((-y).natAbs % Nat.gcd (-x).natAbs (-y).natAbs)) (fun O w' r=>qQ (Rel.old r hS) (Rs.rel r hS) (hG.rel r hS) So (by omega)) ?_);rintro O Qx v6 RA r he hb ⟨qvq,rvq,rfl,RK,Sj⟩;replace hw:=hw.tr hb;replace hP:=hP.cF (iv':=(Qx.heap.size,RA.heap.size)::Ou) r (cB w) he fun x hx=>List.mem_cons_of_mem _ hx;have hQ:=RK.dA (S:=FF) r.cD (iv:=(Qx.heap.size,RA.heap.size)::Ou) aG;have hQr:=Sj.old r.cD;generalize (Qx.heap.size,RA.heap.size)::Ou=Q7 at*
   obtain⟨s6_0a,s6_0b,s6_0c,rfl⟩:=hQ.shape;obtain⟨s6_1a,s6_1b,s6_1c,rfl⟩:=hQr.shape;exact rtn hw fun ρe we re=>by rw[hq];exact dT.of ⟨_,by rw[g3,<-hbA],by rw[g1];exact hP.out re (cB w)⟩ ⟨_,by rw[bI (by omega)],by rw[g2];exact hQ.out re (cB w)⟩
end Go.Ex
namespace Go.Ex
open Go Go.Sx
variable{a b:Int}
def rl(q:Rat):Nat:=max (ln q.num.natAbs) (ln q.den)
theorem fb(q:Rat):ln q.num.natAbs<=rl q:=Nat.le_max_left _ _
theorem Na(q:Rat):ln q.den<=rl q:=Nat.le_max_right _ _
theorem ew(q:Rat):ln ((q.den:Int)).natAbs<=rl q:=Nat.le_max_right _ _
theorem jx(hb:b≠0):rl (Rat.divInt a b)<=max (ln a.natAbs) (ln b.natAbs):=by
 have h1:ln (Rat.divInt a b).num.natAbs<=ln a.natAbs:=by
  rw[Rat.num_divInt];refine fI (aZ (Int.natAbs_ediv_le_natAbs _ _) ?_);rw[Int.natAbs_mul,Int.natAbs_sign_of_ne_zero hb,Nat.one_mul];exact aF _
 have h2:ln (Rat.divInt a b).den<=ln b.natAbs:=by
  rw[Rat.den_divInt,aL hb];exact Il
 unfold rl;omega
theorem ij(x y:Int):ln (x+y).natAbs<=max (ln x.natAbs) (ln y.natAbs)+1:=by
 have h1:=NT x.natAbs y.natAbs;have h2:=fI (show (x+y).natAbs<=x.natAbs+y.natAbs by omega);omega
theorem gF(q:Rat):(q.den:Int)≠0:=by have:=q.den_pos;omega
theorem tc(f g:Rat):f+g=Rat.divInt (f.num*g.den+g.num*f.den) (f.den*g.den):=by
 rw[<-Rat.divInt_add_divInt _ _ (gF f) (gF g),Rat.num_divInt_den,Rat.num_divInt_den]
theorem yK(f g:Rat):f*g=Rat.divInt (f.num*g.num) (f.den*g.den):=by
 rw[<-Rat.divInt_mul_divInt,Rat.num_divInt_den,Rat.num_divInt_den]
theorem Cw(f g:Rat):f / g=Rat.divInt (f.num*g.den) (f.den*g.num):=by
 rw[<-Rat.divInt_mul_divInt,Rat.num_divInt_den,<-Rat.inv_def,<-bg]
theorem kB(ha:a≠0)(hb:b≠0):a*b≠0:=Int.mul_ne_zero ha hb
theorem oO(f g:Rat):rl (f+g)<=rl f+rl g+1:=by
 have h:=jx (a:=f.num*g.den+g.num*f.den) (kB (gF f) (gF g));rw[<-tc]at h;have h1:=ij (f.num*g.den) (g.num*f.den);have h2:=cZ f.num g.den;have h3:=cZ g.num f.den;have h4:=cZ f.den g.den;have:=fb f;have:=fb g;have:=ew f;have:=ew g;omega
theorem j0(f g:Rat):rl (f*g)<=rl f+rl g:=by
 have h:=jx (a:=f.num*g.num) (kB (gF f) (gF g));rw[<-yK]at h;have h2:=cZ f.num g.num;have h4:=cZ f.den g.den;have:=fb f;have:=fb g;have:=ew f;have:=ew g;omega
theorem Kb(f:Rat){g:Rat}(hg:g≠0):rl (f / g)<=rl f+rl g:=by
 have h:=jx (a:=f.num*g.den) (kB (gF f) (fun e=>hg (Rat.num_eq_zero.1 e)));rw[<-Cw]at h;have h2:=cZ f.num g.den;have h4:=cZ f.den g.num;have:=fb f;have:=fb g;have:=ew f;have:=ew g;omega
theorem pe(f:Rat):rl (-f)=rl f:=by unfold rl;rw[Rat.neg_num,Rat.neg_den,bz]
theorem zZ(f g:Rat):rl (f-g)<=rl f+rl g+1:=by
 rw[Rat.sub_eq_add_neg];have:=oO f (-g);rw[pe]at this;exact this
def rs(q:Rat):Int:=q.num.sign
theorem td(hb:0<b):(Rat.divInt a b).num.sign=a.sign:=by
 by_cases ha:a=0
 ·subst ha;rw[zJ];rfl
 ·obtain⟨h1,-,h3⟩:=zI hb ha;have h3:=decide_eq_decide.1 h3;have h0:(Rat.divInt a b).num≠0:=fun e=>by
   have h4:=Nat.div_pos (Nat.le_of_dvd (by omega) (Nat.gcd_dvd_left a.natAbs b.natAbs)) (bj a.natAbs (n:=b.natAbs) (by omega));omega
  rcases Int.lt_or_gt_of_ne ha with h|h
  ·rw[bc h,bc (h3.2 h)]
  ·rw[bh h,bh (by omega)]
theorem MR(f g:Rat):(f.num*g.den-g.num*f.den).sign=rs (f-g):=by
 rw[rs,Rat.sub_eq_add_neg,tc,td (Int.mul_pos (by have:=f.den_pos;omega) (by rw[Rat.neg_den];have:=g.den_pos;omega)),Rat.neg_num,Rat.neg_den,Int.neg_mul,<-Int.sub_eq_add_neg]
def ratio(a b:Int):Rat:=if b=0 then Rat.divInt a 1 else Rat.divInt a b
theorem iI(a b:Int):rl (ratio a b)<=max (ln a.natAbs) (max 1 (ln b.natAbs)):=by
 unfold ratio;split
 ·have:=jx (a:=a) (b:=1) (by decide);have h1:ln (1:Int).natAbs=1:=by decide
  rw[h1]at this;omega
 ·rename_i h;have:=jx (a:=a) h;omega
end Go.Ex
namespace Go.Ex
open Go Go.Sx Go.Proofs
variable{b b2:Bool}{x y:Int}{xs:List Value}{n sz:Nat}{S S':Nat->Prop}{f g q:Rat}{dv nv u v:Value}{w w2:World}
def iO(w:World)(S:Nat->Prop)(v:Value)(a b:Int):Prop:=∃b1 l1 b2 l2,v= .agg #[.bool b1,l1,.bool b2,l2]∧jc w S (.agg #[.bool b1,l1]) a∧jc w S (.agg #[.bool b2,l2]) b
theorem iO.cH{a b:Int}(h:iO w S v a b)(hk:∀g,S g->w2.heap[g]? =w.heap[g]?):iO w2 S v a b:=by
 obtain⟨b1,l1,b2,l2,h1,h2,h3⟩:=h;exact⟨b1,l1,b2,l2,h1,h2.cH hk,h3.cH hk⟩
theorem iO.cI{a b:Int}(h:iO w S v a b)(hk:∀g,S g->S' g):iO w S' v a b:=by
 obtain⟨b1,l1,b2,l2,h1,h2,h3⟩:=h;exact⟨b1,l1,b2,l2,h1,h2.cI hk,h3.cI hk⟩
theorem iO.shape(h:iO w S v x y):∃b a n c b2 a2 n2 c2,v= .agg #[.bool b,.slice a n c,.bool b2,.slice a2 n2 c2]:=by
 obtain⟨b1,l1,b2,l2,h1,h2,h3⟩:=h;obtain⟨_,a,n,c,h4⟩:=h2.shape;obtain⟨_,a2,n2,c2,h5⟩:=h3.shape;simp at h4 h5;obtain⟨rfl,rfl⟩:=h4;obtain⟨rfl,rfl⟩:=h5;exact⟨_,a,n,c,_,a2,n2,c2,h1⟩
theorem iO.num(h:iO w S (.agg #[.bool b,nv,.bool b2,dv]) x y):jc w S (.agg #[.bool b,nv]) x:=by
 obtain⟨b1,l1,b2,l2,h1,h2,h3⟩:=h;simp at h1;obtain⟨rfl,rfl,rfl,rfl⟩:=h1;exact h2
theorem iO.den(h:iO w S (.agg #[.bool b,nv,.bool b2,dv]) x y):jc w S (.agg #[.bool b2,dv]) y:=by
 obtain⟨b1,l1,b2,l2,h1,h2,h3⟩:=h;simp at h1;obtain⟨rfl,rfl,rfl,rfl⟩:=h1;exact h3
section
variable{S S':Nat->Prop}{H:Hp}{nx:Nat}{iv iv':Iv}{B:Nat}{w w' w2:World}{O:Nat->Sx.dg}{v:Value}{x y:Int}
theorem iO.rel(h:iO w (Cv S B iv) v x y)(r:Rel H nx iv B w O w')(hS:∀g,S g->g<B):iO w' (Cv S B iv) v x y:=h.cH fun _ hg=>Rel.same r hS hg
theorem iO.cF(h:iO w (Cv S B iv) v x y)(r:Rel H nx iv B w O w')(hS:∀g,S g->g<B)(he:Ext w' w2)(hm:∀p,p∈iv->p∈iv'):iO w2 (Cv S B iv') v x y:=
 ((h.rel r hS).cH fun g hg=>he.block g (Rel.old r hS g hg)).cI fun _ hg=>hg.mono hm
end
def cU(w:World)(S:Nat->Prop)(v:Value)(q:Rat):Prop:=∃b1 l1 b2 l2,v= .agg #[.bool b1,l1,.bool b2,l2]∧dK w S (.agg #[.bool b1,l1]) q.num∧dK w S (.agg #[.bool b2,l2]) q.den
theorem cU.cH(h:cU w S v q)(hk:∀g,S g->w2.heap[g]? =w.heap[g]?):cU w2 S v q:=by
 obtain⟨b1,l1,b2,l2,h1,h2,h3⟩:=h;exact⟨b1,l1,b2,l2,h1,h2.cH hk,h3.cH hk⟩
theorem cU.cI(h:cU w S v q)(hk:∀g,S g->S' g):cU w S' v q:=by
 obtain⟨b1,l1,b2,l2,h1,h2,h3⟩:=h;exact⟨b1,l1,b2,l2,h1,h2.cI hk,h3.cI hk⟩
theorem cU.r(h:cU w S v q):iO w S v q.num q.den:=by
 obtain⟨b1,l1,b2,l2,h1,h2,h3⟩:=h;exact⟨b1,l1,b2,l2,h1,h2.r,h3.r⟩
theorem cU.shape(h:cU w S v q):∃b a n c b2 a2 n2 c2,v= .agg #[.bool b,.slice a n c,.bool b2,.slice a2 n2 c2]:=h.r.shape
theorem cU.num(h:cU w S (.agg #[.bool b,nv,.bool b2,dv]) q):dK w S (.agg #[.bool b,nv]) q.num:=by
 obtain⟨b1,l1,b2,l2,h1,h2,h3⟩:=h;simp at h1;obtain⟨rfl,rfl,rfl,rfl⟩:=h1;exact h2
theorem cU.den(h:cU w S (.agg #[.bool b,nv,.bool b2,dv]) q):dK w S (.agg #[.bool b2,dv]) q.den:=by
 obtain⟨b1,l1,b2,l2,h1,h2,h3⟩:=h;simp at h1;obtain⟨rfl,rfl,rfl,rfl⟩:=h1;exact h3
theorem cU.of(h:dK w S (.agg #[.bool b,nv]) q.num)(k:dK w S (.agg #[.bool b2,dv]) q.den):cU w S (.agg #[.bool b,nv,.bool b2,dv]) q:=⟨_,_,_,_,rfl,h,k⟩
section
variable{S S':Nat->Prop}{H:Hp}{nx:Nat}{iv iv':Iv}{B:Nat}{w w' w2:World}{O:Nat->Sx.dg}{v:Value}{q:Rat}
theorem cU.rel(h:cU w (Cv S B iv) v q)(r:Rel H nx iv B w O w')(hS:∀g,S g->g<B):cU w' (Cv S B iv) v q:=h.cH fun _ hg=>Rel.same r hS hg
theorem cU.cF(h:cU w (Cv S B iv) v q)(r:Rel H nx iv B w O w')(hS:∀g,S g->g<B)(he:Ext w' w2)(hm:∀p,p∈iv->p∈iv'):cU w2 (Cv S B iv') v q:=
 ((h.rel r hS).cH fun g hg=>he.block g (Rel.old r hS g hg)).cI fun _ hg=>hg.mono hm
theorem cU.dA(h:cU w2 (Nf w' w2) v q)(hB:B<=w'.heap.size)(hm:(w'.heap.size,w2.heap.size)∈iv):cU w2 (Cv S B iv) v q:=h.cI fun _ hg=>hg.dA hB hm
theorem cU.out{w0 w1:World}(h:cU w1 (Cv S w0.heap.size iv) v q)(r:Rel H nx iv w0.heap.size w1 O w')(hS:Old S w0):cU w' (Nw S w0 w') v q:=
 (h.rel r hS).cI fun _ hg=>Cv.nw hg r
end
theorem Mh(hS:Old S w)(hf:dT w S v f):
  di PG N.kl #[v] w (dw w fun v' _w2=>v'= .int .i64 (rs f)):=by
 have hw:=bR w;replace hf:=hf.cI (S':=Cv S w.heap.size []) fun _ h=>.inl h;obtain⟨b1,a1,n1,c1,b2,a2,n2,c2,rfl⟩:=hf.shape;have To:=hf.num;have QJ:=hf.den;refine oZ (by simp) ?_;refine cC (cE hw (fun _ w' v w2=>v= .int .i64 (rs f)) (fun O w' r=>AY (To.rel r hS)) ?_);rintro O _ _ _ OM r he hw h_ rfl;exact rtn hw fun ρe we re=>rfl
theorem LX(hS:Old S w)(hf:dT w S v f):
  di PG N.kZ #[v] w (dw w fun v' w2=>dT w2 (Nw S w w2) v' (-f)):=by
 have hw:=bR w;replace hf:=hf.cI (S':=Cv S w.heap.size []) fun _ h=>.inl h;obtain⟨b1,a1,n1,c1,b2,a2,n2,c2,rfl⟩:=hf.shape;have To:=hf.num;have QJ:=hf.den;refine n9 (by simp) ?_;refine cK hτ dZ [.x 0,.x 1,.x 3,.x 4,.x 2,.x 5,.x 6] (by kernel_rfl) (by kernel_rfl) ?_;refine cM (Φ:=fun _ w' v w2=>eK w2 (Nw (Cv S w.heap.size []) w' w2) v (-f.num)) (fun O w' r=>od (Rel.old r hS) (To.rel r hS)) ?_;rintro O Pq v1 Pe r he hb hn;replace hw:=hw.tr hb;replace QJ:=QJ.cF (iv':=(Pq.heap.size,Pe.heap.size)::[]) r hS he fun x hx=>List.mem_cons_of_mem _ hx;have hM:=hn.old r.cD;generalize (Pq.heap.size,Pe.heap.size)::[]=OM at*
 obtain⟨A0,A1,A2,A3,rfl⟩:=hM.shape;exact rtn hw fun ρe we re=>dT.of (by rw[Rat.neg_num];exact hM.out re hS) (by rw[Rat.neg_den];exact QJ.out re hS)
theorem LY(hS:Old S w)(hf:dT w S v f)(hg:dT w S u g)(hlf:rl f<=10000000000)(hlg:rl g<=10000000000):
  di PG N.kY #[v,u] w (dw w fun v' w2=>dT w2 (Nf w w2) v' (f*g)):=by
 have hw:=bR w;have l1:=fb f;have l2:=ew f;have l3:=fb g;have l4:=ew g;have m0:=cZ f.num g.num;have m1:=cZ f.den g.den;replace hf:=hf.cI (S':=Cv S w.heap.size []) fun _ h=>.inl h;replace hg:=hg.cI (S':=Cv S w.heap.size []) fun _ h=>.inl h;obtain⟨b1,a1,n1,c1,b2,a2,n2,c2,rfl⟩:=hf.shape;obtain⟨b3,a3,n3,c3,b4,a4,n4,c4,rfl⟩:=hg.shape;have To:=hf.num;have QJ:=hf.den;have SS:=hg.num;have RG:=hg.den;refine nZ (by simp) ?_;refine cK hτ dZ [.x 0,.x 1,.x 2,.x 3,.x 5,.x 6,.x 7,.x 8,.x 4,.x 9,.x 10,.x 11] (by kernel_rfl) (by kernel_rfl) ?_;refine cE hw (fun _ w' v w2=>eK w2 (Nf w' w2) v (f.num*g.num)) (fun O w' r=>iE (Rel.old r hS) (To.rel r hS) (SS.rel r hS) (by omega) (by omega)) ?_;rintro O _ _ _ OM r he hw h_ hn;replace QJ:=QJ.cF r hS he (mC h_);replace RG:=RG.cF r hS he (mC h_);have hA:=hn.dA (S:=FF) r.cD (mN h_);obtain⟨A0,A1,A2,A3,rfl⟩:=hA.shape;refine cE hw (fun _ w' v w2=>eK w2 (Nf w' w2) v ((f.den:Int)*(g.den:Int))) (fun O w' r=>iE (Rel.old r hS) (QJ.rel r hS) (RG.rel r hS) (by omega) (by omega)) ?_;rintro O _ _ _ OJ r he hw h_ hn;replace hA:=hA.cF r (cB w) he (mC h_);have hB:=hn.dA (S:=FF) r.cD (mN h_);obtain⟨C0,C1,C2,C3,rfl⟩:=hB.shape;refine cE hw (fun _ w' v w2=>dT w2 (Nf w' w2) v (f*g)) (fun O w' r=>(yK f g)▸wI (Rel.old r (cB w)) (hA.rel r (cB w)) (hB.rel r (cB w)) (kB (gF f) (gF g)) (by omega) (by omega)) ?_;rintro O _ _ _ OP r he hw h_ hn;have hC:=hn.dA (S:=FF) r.cD (mN h_);obtain⟨E0,E1,E2,E3,E4,E5,E6,E7,rfl⟩:=hC.shape;exact rtn hw fun ρe we re=>hC.out re (cB w)
theorem aA8(hS:Old S w)(hf:dT w S v f)(hg:dT w S u g)(hlf:rl f<=10000000000)(hlg:rl g<=10000000000)(So:g≠0):
  di PG N.mY #[v,u] w (dw w fun v' w2=>dT w2 (Nf w w2) v' (f / g)):=by
 have hw:=bR w;have l1:=fb f;have l2:=ew f;have l3:=fb g;have l4:=ew g;have m0:=cZ f.num g.den;have m1:=cZ f.den g.num;replace hf:=hf.cI (S':=Cv S w.heap.size []) fun _ h=>.inl h;replace hg:=hg.cI (S':=Cv S w.heap.size []) fun _ h=>.inl h;obtain⟨b1,a1,n1,c1,b2,a2,n2,c2,rfl⟩:=hf.shape;obtain⟨b3,a3,n3,c3,b4,a4,n4,c4,rfl⟩:=hg.shape;have To:=hf.num;have QJ:=hf.den;have SS:=hg.num;have RG:=hg.den;refine qJ (by simp) ?_;refine cK hτ dZ [.x 0,.x 1,.x 2,.x 3,.x 5,.x 6,.x 7,.x 8,.x 4,.x 9,.x 10,.x 11] (by kernel_rfl) (by kernel_rfl) ?_;refine cE hw (fun _ w' v w2=>eK w2 (Nf w' w2) v (f.num*(g.den:Int))) (fun O w' r=>iE (Rel.old r hS) (To.rel r hS) (RG.rel r hS) (by omega) (by omega)) ?_;rintro O _ _ _ OM r he hw h_ hn;replace QJ:=QJ.cF r hS he (mC h_);replace SS:=SS.cF r hS he (mC h_);have hA:=hn.dA (S:=FF) r.cD (mN h_);obtain⟨A0,A1,A2,A3,rfl⟩:=hA.shape;refine cE hw (fun _ w' v w2=>eK w2 (Nf w' w2) v ((f.den:Int)*g.num)) (fun O w' r=>iE (Rel.old r hS) (QJ.rel r hS) (SS.rel r hS) (by omega) (by omega)) ?_;rintro O _ _ _ OJ r he hw h_ hn;replace hA:=hA.cF r (cB w) he (mC h_);have hB:=hn.dA (S:=FF) r.cD (mN h_);obtain⟨C0,C1,C2,C3,rfl⟩:=hB.shape;refine cE hw (fun _ w' v w2=>dT w2 (Nf w' w2) v (f / g)) (fun O w' r=>(Cw f g)▸wI (Rel.old r (cB w)) (hA.rel r (cB w)) (hB.rel r (cB w)) (kB (gF f) (fun e=>So (Rat.num_eq_zero.1 e))) (by omega) (by omega)) ?_;rintro O _ _ _ OP r he hw h_ hn;have hC:=hn.dA (S:=FF) r.cD (mN h_);obtain⟨E0,E1,E2,E3,E4,E5,E6,E7,rfl⟩:=hC.shape;exact rtn hw fun ρe we re=>hC.out re (cB w)
theorem IN(hS:Old S w)(hf:dT w S v f)(hg:dT w S u g)(hlf:rl f<=10000000000)(hlg:rl g<=10000000000):
  di PG N.kj #[v,u] w (dw w fun v' w2=>dT w2 (Nf w w2) v' (f+g)):=by
 have hw:=bR w;have l1:=fb f;have l2:=ew f;have l3:=fb g;have l4:=ew g;have m0:=cZ f.num g.den;have m1:=cZ g.num f.den;have m2:=cZ f.den g.den;have m4:=ij (f.num*g.den) (g.num*f.den);replace hf:=hf.cI (S':=Cv S w.heap.size []) fun _ h=>.inl h;replace hg:=hg.cI (S':=Cv S w.heap.size []) fun _ h=>.inl h;obtain⟨b1,a1,n1,c1,b2,a2,n2,c2,rfl⟩:=hf.shape;obtain⟨b3,a3,n3,c3,b4,a4,n4,c4,rfl⟩:=hg.shape;have To:=hf.num;have QJ:=hf.den;have SS:=hg.num;have RG:=hg.den;refine oX (by simp) ?_;refine cK hτ dZ [.x 0,.x 1,.x 2,.x 3,.x 5,.x 6,.x 7,.x 8,.x 11,.x 12,.x 13,.x 14,.x 4,.x 9,.x 10,.x 15,.x 16,.x 17] (by kernel_rfl) (by kernel_rfl) ?_;refine cE hw (fun _ w' v w2=>eK w2 (Nf w' w2) v (f.num*(g.den:Int))) (fun O w' r=>iE (Rel.old r hS) (To.rel r hS) (RG.rel r hS) (by omega) (by omega)) ?_;rintro O _ _ _ OM r he hw h_ hn;replace QJ:=QJ.cF r hS he (mC h_);replace SS:=SS.cF r hS he (mC h_);replace RG:=RG.cF r hS he (mC h_);have hA:=hn.dA (S:=FF) r.cD (mN h_);obtain⟨A0,A1,A2,A3,rfl⟩:=hA.shape;refine cE hw (fun _ w' v w2=>eK w2 (Nf w' w2) v (g.num*(f.den:Int))) (fun O w' r=>iE (Rel.old r hS) (SS.rel r hS) (QJ.rel r hS) (by omega) (by omega)) ?_;rintro O _ _ _ OJ r he hw h_ hn;replace QJ:=QJ.cF r hS he (mC h_);replace RG:=RG.cF r hS he (mC h_);replace hA:=hA.cF r (cB w) he (mC h_);have hB:=hn.dA (S:=FF) r.cD (mN h_);obtain⟨C0,C1,C2,C3,rfl⟩:=hB.shape;refine cE hw (fun _ w' v w2=>eK w2 (Nf w' w2) v (f.num*(g.den:Int)+g.num*(f.den:Int))) (fun O w' r=>CP (Rel.old r (cB w)) (hA.rel r (cB w)) (hB.rel r (cB w)) (by omega) (by omega)) ?_;rintro O _ _ _ OP r he hw h_ hn;replace QJ:=QJ.cF r hS he (mC h_);replace RG:=RG.cF r hS he (mC h_);have hD:=hn.dA (S:=FF) r.cD (mN h_);obtain⟨E0,E1,E2,E3,rfl⟩:=hD.shape;refine cE hw (fun _ w' v w2=>eK w2 (Nf w' w2) v ((f.den:Int)*(g.den:Int))) (fun O w' r=>iE (Rel.old r hS) (QJ.rel r hS) (RG.rel r hS) (by omega) (by omega)) ?_;rintro O _ _ _ OR r he hw h_ hn;replace hD:=hD.cF r (cB w) he (mC h_);have hE:=hn.dA (S:=FF) r.cD (mN h_);obtain⟨F0,F1,F2,F3,rfl⟩:=hE.shape;refine cE hw (fun _ w' v w2=>dT w2 (Nf w' w2) v (f+g)) (fun O w' r=>(tc f g)▸wI (Rel.old r (cB w)) (hD.rel r (cB w)) (hE.rel r (cB w)) (kB (gF f) (gF g)) (by omega) (by omega)) ?_;rintro O _ _ _ Ou r he hw h_ hn;have hC:=hn.dA (S:=FF) r.cD (mN h_);obtain⟨G0,G1,G2,G3,G4,G5,G6,G7,rfl⟩:=hC.shape;exact rtn hw fun ρe we re=>hC.out re (cB w)
theorem qz(hS:Old S w)(hf:dT w S v f)(hlf:rl f<=100000000000):
  di PG N.kk #[v] w (dw w fun v' w2=>cU w2 (Nf w w2) v' f):=by
 have hw:=bR w;have l1:=fb f;have l2:=ew f;replace hf:=hf.cI (S':=Cv S w.heap.size []) fun _ h=>.inl h;obtain⟨b1,a1,n1,c1,b2,a2,n2,c2,rfl⟩:=hf.shape;have To:=hf.num;have QJ:=hf.den;refine oY (by simp) ?_;refine cK hτ dZ [.x 0,.x 1,.x 3,.x 4,.x 2,.x 5,.x 6,.x 7] (by kernel_rfl) (by kernel_rfl) ?_;refine cE hw (fun _ w' v w2=>dK w2 (Nf w' w2) v f.num) (fun O w' r=>LI (Rel.old r hS) (To.rel r hS) (by omega)) ?_;rintro O _ _ _ OM r he hw h_ hn;replace QJ:=QJ.cF r hS he (mC h_);have hA:=hn.dA (S:=FF) r.cD (mN h_);obtain⟨A0,A1,A2,A3,rfl⟩:=hA.shape;refine cE hw (fun _ w' v w2=>dK w2 (Nf w' w2) v (f.den:Int)) (fun O w' r=>LI (Rel.old r hS) (QJ.rel r hS) (by omega)) ?_;rintro O _ _ _ OJ r he hw h_ hn;replace hA:=hA.cF r (cB w) he (mC h_);have hB:=hn.dA (S:=FF) r.cD (mN h_);obtain⟨C0,C1,C2,C3,rfl⟩:=hB.shape;exact rtn hw fun ρe we re=>cU.of (hA.out re (cB w)) (hB.out re (cB w))
theorem Mi(n:Int)(w:World)(h1: -9223372036854775808<=n)(h2:n<=9223372036854775807):
  di PG N.xJ #[.int .i64 n] w (dw w fun v' w2=>dT w2 (Nf w w2) v' (n:Rat)):=by
 have hw:=bR w;refine AN (by simp) ?_;refine cC (cE hw (fun _ w' v w2=>eK w2 (Nf w' w2) v n) (fun O w' r=>oh n w' h1 h2) ?_);rintro O _ _ _ OM r he hw h_ hn;have hA:=hn.dA (S:=FF) r.cD (mN h_);obtain⟨A0,A1,A2,A3,rfl⟩:=hA.shape;refine cC (cE hw (fun _ w' v w2=>eK w2 (Nf w' w2) v 1) (fun O w' r=>oh 1 w' (by decide) (by decide)) ?_);rintro O _ _ _ OJ r he hw h_ hn;replace hA:=hA.cF r (cB w) he (mC h_);have hB:=hn.dA (S:=FF) r.cD (mN h_);obtain⟨C0,C1,C2,C3,rfl⟩:=hB.shape;exact rtn hw fun ρe we re=>dT.of (by rw[Rat.num_intCast];exact hA.out re (cB w)) (by rw[Rat.den_intCast];exact hB.out re (cB w))
theorem kN(hS:Old S w)(hx:iO w S v x y)(Oj:ln x.natAbs<=100000000000)(Qa:ln y.natAbs<=100000000000):
  di PG N.xH #[v] w (dw w fun v' w2=>dT w2 (Nf w w2) v' (ratio x y)):=by
 have hw:=bR w;replace hx:=hx.cI (S':=Cv S w.heap.size []) fun _ h=>.inl h;obtain⟨b1,a1,n1,c1,b2,a2,n2,c2,rfl⟩:=hx.shape;have hn:=hx.num;have hd:=hx.den;have RM:=hn;have UD:=hd;refine AK (by simp) ?_;refine cC (cM (Φ:=fun _ w' v w2=>eK w2 (Nw (Cv S w.heap.size []) w' w2) v y) (fun O w' r=>LR (Rel.old r hS) (UD.rel r hS)) ?_);rintro O Pq v1 Pe r he hb hn;replace hw:=hw.tr hb;replace RM:=RM.cF (iv':=(Pq.heap.size,Pe.heap.size)::[]) r hS he fun x hx=>List.mem_cons_of_mem _ hx;have hD:=hn.old r.cD;generalize (Pq.heap.size,Pe.heap.size)::[]=OM at*
 obtain⟨A0,A1,A2,A3,rfl⟩:=hD.shape;refine cC (cE hw (fun _ w' v w2=>v= .int .i64 y.sign) (fun O w' r=>AY (hD.rel r hS)) ?_);rintro O _ _ _ OJ r he hw h_ rfl;replace RM:=RM.cF r hS he (mC h_);replace hD:=hD.cF r hS he (mC h_);refine dM.mk ?_ ?_<;>intro h
 ·have h:y=0:=Int.sign_eq_zero_iff_zero.1 (eq_of_beq h);have e0:ratio x y=Rat.divInt x 1:=if_pos h;refine cC (cE hw (fun _ w' v w2=>eK w2 (Nf w' w2) v 1) (fun O w' r=>oh 1 w' (by decide) (by decide)) ?_);rintro O PX v3 PU OP r he hw h_ hn;replace RM:=RM.cF r hS he (mC h_);have hO:=hn.dA (S:=FF) r.cD (mN h_);obtain⟨C0,C1,C2,C3,rfl⟩:=hO.shape;have l1:ln (1:Int).natAbs=1:=by decide
  refine cK hτ dZ [.x 0,.x 1,.x 3,.x 2,.x 4,.x 5] (by kernel_rfl) (by kernel_rfl) ?_;refine cM (Φ:=fun _ w' v w2=>eK w2 (Nw (Cv S w.heap.size OP) w' w2) v x) (fun O w' r=>LR (Rel.old r hS) (RM.rel r hS)) ?_;rintro O QB v4 Pw r he hb hn;replace hw:=hw.tr hb;replace hO:=hO.cF (iv':=(QB.heap.size,Pw.heap.size)::OP) r (cB w) he fun x hx=>List.mem_cons_of_mem _ hx;have hN:=hn.old r.cD;generalize (QB.heap.size,Pw.heap.size)::OP=OR at*
  obtain⟨E0,E1,E2,E3,rfl⟩:=hN.shape;refine cE hw (fun _ w' v w2=>dT w2 (Nf w' w2) v (ratio x y)) (fun O w' r=>e0.symm▸wI (Rel.old r hS) (hN.rel r hS) ((hO.rel r (cB w)).cI fun g hg=>hg.elim (fun k=>k.elim) .inr) (by decide) (by omega) (by omega)) ?_;rintro O _ _ _ Ou r he hw h_ hn;have hC:=hn.dA (S:=FF) r.cD (mN h_);obtain⟨F0,F1,F2,F3,F4,F5,F6,F7,rfl⟩:=hC.shape;exact rtn hw fun ρe we re=>hC.out re (cB w)
 ·have h:y≠0:=fun e=>by rw[e]at h;exact absurd h (by decide)
  have e0:ratio x y=Rat.divInt x y:=aL h;refine cK hτ dZ [.x 0,.x 1,.x 3,.x 2,.x 4,.x 5] (by kernel_rfl) (by kernel_rfl) ?_;refine cM (Φ:=fun _ w' v w2=>eK w2 (Nw (Cv S w.heap.size OJ) w' w2) v x) (fun O w' r=>LR (Rel.old r hS) (RM.rel r hS)) ?_;rintro O PX v3 PU r he hb hn;replace hw:=hw.tr hb;replace hD:=hD.cF (iv':=(PX.heap.size,PU.heap.size)::OJ) r hS he fun x hx=>List.mem_cons_of_mem _ hx;have hN:=hn.old r.cD;generalize (PX.heap.size,PU.heap.size)::OJ=OP at*
  obtain⟨C0,C1,C2,C3,rfl⟩:=hN.shape;refine cE hw (fun _ w' v w2=>dT w2 (Nf w' w2) v (ratio x y)) (fun O w' r=>e0.symm▸wI (Rel.old r hS) (hN.rel r hS) (hD.rel r hS) h (by omega) (by omega)) ?_;rintro O _ _ _ OR r he hw h_ hn;have hC:=hn.dA (S:=FF) r.cD (mN h_);obtain⟨E0,E1,E2,E3,E4,E5,E6,E7,rfl⟩:=hC.shape;exact rtn hw fun ρe we re=>hC.out re (cB w)
def rn(v:Value):Iv:=match v.ownBlock with
 |some g=>[(g,g+1)]
 |none=>[]
theorem CZ{lo hi:Nat}:(lo,hi)∈rn v↔v.ownBlock=some lo∧hi=lo+1:=by
 unfold rn
 cases h:v.ownBlock with
 |none=>simp
 |some g=>simp;omega
def HY(iv:Iv)(v:Value):Prop:=∀b,v.ownBlock=some b->∃lo hi,(lo,hi)∈iv∧lo<=b∧b<hi
section
variable{S:Nat->Prop}{H:Hp}{nx:Nat}{iv iv':Iv}{B e sz m:Nat}{w w' w2:World}{O:Nat->Sx.dg}{v v':Value}{xs:List Value}
theorem HY.not(h:HY iv v)(r:Rel H nx iv B w O w'){b:Nat}(hb:v.ownBlock=some b):∀id c,dC H id=some c->(O id).nil=false->(O id).g≠b:=fun id c hc hn he=>by
 obtain⟨lo,hi,h1,h2,h3⟩:=h b hb;exact r.kP lo hi h1 id c hc hn (by omega)
theorem jW(h:w.ownsRow B e sz v m xs)(hc:HY iv v)(r:Rel H nx iv B w O w'):w'.ownsRow B e sz v m xs:=
 ownsRow.cH h fun b hb=>r.uh b (ownsRow.low h b hb).2 fun id c hc' hn he=>hc.not r hb id c hc' hn he
theorem HY.row(v:Value):HY (rn v) v:=fun b hb=>⟨b,b+1,CZ.2 ⟨hb,rfl⟩,by omega,by omega⟩
theorem HY.mono(h:HY iv v)(k:∀p,p∈iv->p∈iv'):HY iv' v:=fun b hb=>by
 obtain⟨lo,hi,h1,h2⟩:=h b hb;exact⟨lo,hi,k _ h1,h2⟩
theorem jk(h:w.ownsRow B e sz v m xs):∃a c,v= .slice a m c∧m<=c:=by
 rcases h.2 with⟨rfl,rfl⟩|⟨g,cap,cur,rfl,_,_,h1,_⟩
 ·exact⟨none,0,rfl,aF _⟩
 ·exact⟨_,cap,rfl,h1⟩
end
structure iM(w:World)(S:Nat->Prop)(sz:Nat)(v:Value)(xs:List Value)(n:Nat):Prop where
 le:n<=maxLen
 len:xs.length=n*sz
 one:∀u∈xs,u.oneCell'=true
 sl:∃a c,v= .slice a n c∧n<=c∧∀(j:Nat) u,xs[j]? =some u->∃ad,a=some ad∧S ad.block∧w.cell? (ad.add j)=some u
theorem iM.cH(h:iM w S sz v xs n)(hk:∀g,S g->w2.heap[g]? =w.heap[g]?):iM w2 S sz v xs n:=by
 obtain⟨h0,h1,h2,a,c,h3,h4,h5⟩:=h;refine⟨h0,h1,h2,a,c,h3,h4,fun j u hu=>?_⟩;obtain⟨ad,k1,k2,k3⟩:=h5 j u hu;exact⟨ad,k1,k2,by rw[cG (hk _ (by rw[dE];exact k2))];exact k3⟩
theorem iM.cI(h:iM w S sz v xs n)(hk:∀g,S g->S' g):iM w S' sz v xs n:=by
 obtain⟨h0,h1,h2,a,c,h3,h4,h5⟩:=h;refine⟨h0,h1,h2,a,c,h3,h4,fun j u hu=>?_⟩;obtain⟨ad,k1,k2,k3⟩:=h5 j u hu;exact⟨ad,k1,hk _ k2,k3⟩
section
variable{S S':Nat->Prop}{H:Hp}{nx:Nat}{iv iv':Iv}{B:Nat}{w w' w2:World}{O:Nat->Sx.dg}{v:Value}{sz n:Nat}{xs:List Value}
end
end Go.Ex
