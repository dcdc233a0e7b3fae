/- Texts X11 to X23: lemmas, each with its conditions. -/
import Derived.Test.YtgkpbdkechfgmaaGreatP3
namespace Go.Ex
open Go Go.Sx Go.Proofs
end Go.Ex
namespace Go.Sx
open Go Go.Ex Go.Proofs
variable{O:Nat->Sx.dL}
theorem Rel.bz{H:Hp}{nx:Nat}{iv:Iv}{B:Nat}{w w':World}(r:Rel H nx iv B w O w'):B<=w'.heap.size:=by have:=r.base;have:=r.size;omega
end Go.Sx
namespace Go.Ex
open Go Go.Sx Go.Proofs
end Go.Ex
namespace Go.Sx
open Go Go.Ex Go.Proofs
variable{ls:List Nat}{O:Nat->Sx.dL}
theorem Rel.uJ{H:Hp}{nx:Nat}{iv:Iv}{B:Nat}{w w':World}(r:Rel H nx iv B w O w'){id t:Nat}(h:cV H id=some (.box t ((U ls).map At.v)))(PN:Lm ls)(hle:ls.length<=9223372036854775807):
  cz w' (fun g=>g=(O id).g) (.slice (some ⟨(O id).g,0,none⟩) ls.length ls.length) ls:=by
 refine⟨PN,hle,_,_,rfl,Nat.le_refl _,fun j x hx=>⟨_,rfl,rfl,?_⟩⟩;have h0:(⟨(O id).g,0,none⟩:Addr).add j=⟨(O id).g,j,none⟩:=by
  cases j with
  |zero=>rfl
  |succ j=>simp[Addr.add]
 rw[h0,cell_of (r.box id t _ h),fU];exact uF hx
end Go.Sx
namespace Go.Ex
open Go Go.Sx Go.Proofs
variable{ds r2:List Nat}{g k:Nat}
section
variable{S:Nat->Prop}{H:Hp}{nx:Nat}{iv iv':Iv}{B:Nat}{w w' w2:World}{O:Nat->Sx.dL}{v:Value}{n:Nat}{ls:List Nat}
theorem Nw.dD(h:Nf w' w2 g)(hB:B<=w'.heap.size)(hm:(w'.heap.size,w2.heap.size)∈iv):Cv S B iv g:=by
 rcases h with h|h
 ·cases h
 ·exact .inr ⟨by omega,_,_,hm,h.1,h.2⟩
theorem dQ.dD(h:dQ w2 (Nf w' w2) v n)(hB:B<=w'.heap.size)(hm:(w'.heap.size,w2.heap.size)∈iv):dQ w2 (Cv S B iv) v n:=h.cF fun _ hg=>hg.dD hB hm
theorem cz.dD(h:cz w2 (Nf w' w2) v ls)(hB:B<=w'.heap.size)(hm:(w'.heap.size,w2.heap.size)∈iv):cz w2 (Cv S B iv) v ls:=h.cF fun _ hg=>hg.dD hB hm
theorem dQ.rel(h:dQ w (Cv S B iv) v n)(r:Rel H nx iv B w O w')(hS:∀g,S g->g<B):dQ w' (Cv S B iv) v n:=h.cC fun _ hg=>Rel.same r hS hg
theorem dQ.cD(h:dQ w (Cv S B iv) v n)(r:Rel H nx iv B w O w')(hS:∀g,S g->g<B)(he:Ext w' w2)(hm:∀p,p∈iv->p∈iv'):dQ w2 (Cv S B iv') v n:=
 ((h.rel r hS).cC fun g hg=>he.block g (Rel.old r hS g hg)).cF fun _ hg=>hg.mono hm
theorem cz.trimmed(h:cz w S v (dO ls)):dQ w S v (val ls):=⟨_,h,(ef ls).2.1,(ef ls).1⟩
end
theorem H5{w:World}{m c:Nat}{rs:List Nat}(hg:w.heap[g]? =some (.cells (U rs).toArray T.uint32 (0,0)))(PN:Lm rs)(h:k+m<=rs.length)(hc:m<=c)(hl:rs.length<=1000000000000):
  cz w (fun x=>x=g) (.slice (some ⟨g,k,none⟩) m c) ((rs.drop k).take m):=by
 have hlen:((rs.drop k).take m).length=m:=by simp;omega
 refine⟨(PN.drop k).take m,by omega,some ⟨g,k,none⟩,c,by rw[hlen],by omega,fun j x hx=>⟨_,rfl,rfl,?_⟩⟩;have hj:j<m:=by have:=(aD.1 hx).1;omega
 rw[bO hj,List.getElem?_drop]at hx;rw[dA,cell_of hg];exact uF hx
theorem Ci{c:Nat}(h:k<c):(if (c:Int)=(k:Int)then some (⟨g,0,none⟩:Addr)else(some (⟨g,0,none⟩:Addr)).map fun x=>x.add ((k:Int).toNat*1))=some ⟨g,k,none⟩:=by
 rw[aI (by omega),bY,aF,aY,dA,aV]
theorem fg{a b c:World}{row:Option Nat}(h:a.grownBy b row)(k:b.grownBy c row):a.grownBy c row:=
 ⟨k.os.trans h.os,k.tape.trans h.tape,k.output.trans h.output,aW h.size k.size,fun j hj OS=>(k.block j (by have:=h.size;omega) OS).trans (h.block j hj OS)⟩
theorem qG{a b:World}{row:Option Nat}(h:dT a.heap.size a b):a.grownBy b row:=⟨h.os,h.tape,h.output,h.size,fun j hj _=>h.block j hj⟩
theorem MM(rs:List Nat)(k m:Nat):(U rs).take k++List.replicate m (Value.int .u32 0)++(U rs).drop (k+m)=U (rs.take k++List.replicate m 0++rs.drop (k+m)):=by
 simp[U]
theorem Nd(rs ds:List Nat)(k:Nat):(U rs).take k++U ds++(U rs).drop (k+(U ds).length)=U (rs.take k++ds++rs.drop (k+ds.length)):=by
 simp[U]
theorem Ic{rs:List Nat}{m:Nat}(hk:k+m<=rs.length)(hd:ds.length<=m){r1:List Nat}(h1:r1=rs.take k++List.replicate m 0++rs.drop (k+m))(h2:r2=r1.take k++ds++r1.drop (k+ds.length)):
  r2=rs.take k++(ds++List.replicate (m-ds.length) 0)++rs.drop (k+m):=by
 have hkl:(rs.take k).length=k:=by simp;omega
 have h3:r1.take k=rs.take k:=by rw[h1,bf,List.take_append_of_le_length (by omega),List.take_of_length_le (by omega)]
 have h4:r1.drop (k+ds.length)=List.replicate (m-ds.length) 0++rs.drop (k+m):=by
  rw[h1,bf,List.drop_append,hkl,List.drop_of_length_le (by omega),List.nil_append,Nat.add_sub_cancel_left,List.drop_append_of_le_length (by simpa using hd),List.drop_replicate]
 rw[h2,h3,h4];simp
theorem Ie{rs:List Nat}{m:Nat}(hk:k+m<=rs.length)(hd:ds.length<=m)(PN:Lm rs)(Sb:Lm ds)(h:r2=rs.take k++(ds++List.replicate (m-ds.length) 0)++rs.drop (k+m)):
  r2.length=rs.length∧Lm r2∧r2.take k=rs.take k∧r2.drop (k+m)=rs.drop (k+m)∧val ((r2.drop k).take m)=val ds:=by
 have hkl:(rs.take k).length=k:=by simp;omega
 have Ro:(ds++List.replicate (m-ds.length) 0).length=m:=by simp;omega
 have RM:r2.drop k=(ds++List.replicate (m-ds.length) 0)++rs.drop (k+m):=by
  rw[h,bf,List.drop_append,hkl,List.drop_of_length_le (by omega),List.nil_append,bB,List.drop_zero]
 refine⟨by rw[h,List.length_append,List.length_append,hkl,Ro];simp;omega,?_,?_,?_,?_⟩
 ·rw[h];exact((PN.take k).append (Sb.append (Lm.replicate _))).append (PN.drop _)
 ·rw[h,bf,List.take_append_of_le_length (by omega),List.take_of_length_le (by omega)]
 ·rw[<-List.drop_drop,RM,List.drop_append,Ro,List.drop_of_length_le (by omega),List.nil_append,bB,List.drop_zero]
 ·rw[RM,List.take_append_of_le_length (by omega),List.take_of_length_le (by omega),kv,mZ];simp
theorem Cj{S:Nat->Prop}{w:World}{vd:Value}{D g k q:Nat}{rs:List Nat}(hS:Old S w)(hgS:¬S g)(hd:dQ w S vd D)(hg:w.heap[g]? =some (.cells (U rs).toArray T.uint32 (0,0)))(PN:Lm rs)
  (hk:k+ln D+1<=rs.length) (hl:rs.length<=1000000000000) (hq:q<4294967296):
  dx PG N.ph #[.slice (some ⟨g,0,none⟩) rs.length rs.length,vd,.int .i64 k,.int .u64 q] w (fun e w2=>
   (val ((rs.drop k).take (ln D+1))<q*D∧e= .returned (.bool false)∧dT w.heap.size w w2)∨
   (q*D<=val ((rs.drop k).take (ln D+1))∧e= .returned (.bool true)∧w.grownBy w2 (some g)∧∃rs',rs'.length=rs.length∧Lm rs'∧rs'.take k=rs.take k∧rs'.drop (k+ln D+1)=rs.drop (k+ln D+1)∧
    val ((rs'.drop k).take (ln D+1))=val ((rs.drop k).take (ln D+1))-q*D∧w2.heap[g]? =some (.cells (U rs').toArray T.uint32 (0,0)))):=by
 have hgB:=jt hg;have hnD:=hd;obtain⟨p,rfl,Qh,QR⟩:=hd.la;have Ph:=eA p.lm QR;rw[Qh]at Ph;generalize hn:ln D=n at*
 have hSB:=hS;refine uE (by simp) ?_;refine⟨(q:Int),by rw[fF,bI hq],?_⟩;refine gO (Φ:=fun O _ v w2=>cz w2 (fun g=>g=(O 0).g) v (dO [q])) (H':=[]) 0 rfl (by simp) trivial rfl (fun O w' r=>r.nn 0 _ rfl (by intros;simp) (by simp)) (fun O w' r=>?_) ?_
 ·have hL:=r.uJ (id:=0) (ls:=[q]) rfl (by intro x hx;simp at hx;omega) (by simp);exact fM (fun g hg=>by rw[hg];exact(r.low 0 _ rfl (r.nn 0 _ rfl (by intros;simp) (by simp))).2) hL
 rintro O w1 v1 w2 r he hw hL;have Od:=r.low 0 _ rfl (r.nn 0 _ rfl (by intros;simp) (by simp));have hs:=he.size;generalize (O 0).g=g0 at*
 have UP:dQ w2 (Cv S w.heap.size [(g0,g0+1),(w1.heap.size,w2.heap.size)]) v1 q:=by
  have:=hL.trimmed;simp only[val,Nat.mul_zero,bj]at this;exact this.cF fun k hk=>.inr ⟨by omega,g0,g0+1,by simp,by omega,by omega⟩
 have Ui:dQ w2 (Cv S w.heap.size [(g0,g0+1),(w1.heap.size,w2.heap.size)]) (.slice p.a p.ls.length p.c) D:=
  (hnD.cC fun g hg=>hw.block g (hS g hg)).cF fun _ hg=>.inl hg
 generalize [(g0,g0+1),(w1.heap.size,w2.heap.size)]=iv at*
 refine cB (cE hw (fun _ w' v w2=>dQ w2 (Nf w' w2) v (q*D)) (fun O w' r=>H6 (Rel.old r hS) (UP.rel r hS) (Ui.rel r hS) (aW (gD.2 (show q<wt 1 from hq)) (by decide)) (by omega)) ?_);rintro O w3 _ _ iv r he hw h_ hm;have UB:=hm.dD (S:=S) r.bz (mN h_);refine⟨((k+n:Nat):Int),wo,((k+n+1:Nat):Int),wo,⟨by omega,by omega,by omega⟩,some ⟨g,k,none⟩,n+1,rs.length-k,Ci (by omega),by omega,by omega,?_⟩;have hplen:((rs.drop k).take (n+1)).length=n+1:=by simp;omega
 have hplm:Lm ((rs.drop k).take (n+1)):=(PN.drop k).take _;generalize hpart:(rs.drop k).take (n+1)=part at*
 refine cB (cE hw (fun _ w' v w2=>cz w2 (Nf w' w2) v part) (fun O w' r=>?_) ?_)
 ·have h1:=H5 (k:=k) (m:=n+1) (c:=rs.length-k) (w:=w') (by rw[(hw.tr r.cL).block g hgB];exact hg) PN (by omega) (by omega) hl;rw[hpart]at h1;exact H3 (fun x hx=>by rw[hx];have:=(hw.tr r.cL).size;omega) h1 (by omega)
 rintro O _ _ _ iv r he hw h_ hL;have hpL:=hL.dD (S:=S) r.bz (mN h_);replace UB:=UB.cD r hS he (mC h_);refine cB (cI (Φ:=fun _ w' v w2=>cz w2 (Cv S w.heap.size iv) v (dO part)) (fun O w' r=>fM (Rel.old r hS) (cz.rel hpL r hS)) ?_);rintro O w7 v4 w8 r he hb hL;replace hw:=hw.tr hb;have hpN:=hL.trimmed.cF (S':=Cv S w.heap.size ((w7.heap.size,w8.heap.size)::iv)) fun _ hg=>hg.cons;replace UB:=UB.cD (iv':=(w7.heap.size,w8.heap.size)::iv) r hS he fun x hx=>aC _ hx;generalize (w7.heap.size,w8.heap.size)::iv=iv at*
 refine cB (cE hw (fun _ _ v _=>v= .int .i64 (s3 (val part) (q*D))) (fun O w' r=>Kd (Rel.old r hS) (hpN.rel r hS) (UB.rel r hS)) ?_);rintro O _ _ _ iv r he hw h_ rfl;replace hpN:=hpN.cD r hS he (mC h_);replace UB:=UB.cD r hS he (mC h_);refine dB.mk ?_ ?_<;>intro h
 ·have h:val part<q*D:=by
   have:=aK h;unfold s3 at this;split at this
   ·assumption
   ·split at this<;>omega
  intro ρ3 w3 r3;exact .inl ⟨h,rfl,hw.tr r3.cL⟩
 have h:q*D<=val part:=by
  have:=aH h;unfold s3 at this;split at this
  ·omega
  ·omega
 have hPl:ln (val part)<=n+1:=by rw[gD,<-hplen];exact nY hplm
 refine cB (cE hw (fun _ w' v w2=>dQ w2 (Nf w' w2) v (val part-q*D)) (fun O w' r=>Ck (Rel.old r hS) (hpN.rel r hS) (UB.rel r hS) h (by omega)) ?_);rintro O _ v6 _ iv r he hw h_ hm;have Vm:=hm.dD (S:=S) r.bz (mN h_);refine⟨((k+n:Nat):Int),wo,((k+n+1:Nat):Int),wo,⟨by omega,by omega,by omega⟩,some ⟨g,k,none⟩,n+1,rs.length-k,Ci (by omega),by omega,by omega,?_⟩;refine Hr hτ (cs:=U rs) (by rfl) (by rfl) (by rfl) (by omega) (fun O w' r=>⟨by rw[(hw.tr r.cL).block g hgB];exact hg,fun id b hb=>by cases hb⟩) (by rw[gF];omega) (fun O w13 w14 r hh Oc Oj=>?_);rw[MM]at hh;have hgw:w.grownBy w14 (some g):=fg (qG (hw.tr r.cL)) Oc;replace Vm:dQ w14 (Cv S w.heap.size iv) v6 (val part-q*D):=(Vm.rel r hS).cC fun x hx=>Oc.block x (Rel.old r hS x hx) fun e=>by
  injection e with e;subst e;rcases hx with hx|hx
  ·exact hgS hx
  ·omega
 obtain⟨rl,rfl,Td,S6⟩:=Vm.la;have Pk:=eA rl.lm S6;rw[Td]at Pk;have hrn:rl.ls.length<=n+1:=by rw[Pk];exact aW (fI (Nat.sub_le _ _)) hPl
 generalize hr1d:rs.take k++List.replicate (n+1) 0++rs.drop (k+(n+1))=r1 at*
 refine⟨⟨by omega,by omega,by omega⟩,some ⟨g,k,none⟩,rs.length-k,rs.length-k,Ci (by omega),by omega,by omega,?_⟩;have hr1l:r1.length=rs.length:=by rw[<-hr1d];simp;omega
 have hw14:w.heap.size<=w14.heap.size:=hgw.size;refine JT hτ (tg:=T.uint32) (cs:=U r1) (ds:=U rl.ls) (by rfl) (by rfl) (by rfl) (by rfl) (fun O w' r=>⟨?_,fun id b hb=>by cases hb⟩) (fun O w' r=>⟨rl.a,rl.c,by rw[gF];rfl,fun j u hu=>?_⟩) (by rw[gF];omega) (by rw[gF,gF];omega)
  (fun u hu=>by simp only[U,aR]at hu;obtain⟨n,_,rfl⟩:=hu;rfl) (fun O w15 w16 r hh2 Oc Oj=>?_)
 ·rw[r.qH.block g (by omega) (by simp)];exact hh
 ·simp only[U,aM,Option.map_eq_some_iff]at hu;obtain⟨m,hm,rfl⟩:=hu;obtain⟨ad,h1,h2,h3⟩:=rl.cell j m hm;exact⟨ad,h1,(cJ (w:=w14) (a:=ad.add j) (by rw[c9];exact Rel.same r hS h2)).trans h3⟩
 rw[Nd]at hh2;have hgw2:w.grownBy w16 (some g):=fg (fg hgw (by have:=r.qH;exact⟨this.os,this.tape,this.output,this.size,fun j hj _=>this.block j hj (by simp)⟩)) Oc;obtain⟨o1,o2,o3,o4,o5⟩:=Ie (rs:=rs) (ds:=rl.ls) (k:=k) (m:=n+1) (by omega) hrn PN rl.lm (Ic (by omega) hrn hr1d.symm rfl);generalize r1.take k++rl.ls++r1.drop (k+rl.ls.length)=r2 at*
 intro ρ3 w17 r3;refine .inr ⟨h,rfl,fg hgw2 (by have:=r3.qH;exact⟨this.os,this.tape,this.output,this.size,fun j hj _=>this.block j hj (by simp)⟩),r2,o1,o2,o3,o4,by rw[o5,Td],?_⟩;rw[r3.qH.block g (by have:=hgw2.size;omega) (by simp)];exact hh2
end Go.Ex
namespace Go.Ex
open Go Go.Sx Go.Proofs
end Go.Ex
namespace Go.Sx
open Go Go.Ex Go.Proofs
variable{O:Nat->Sx.dL}
theorem Rel.Mo{nx:Nat}{iv:Iv}{B:Nat}{w w' w2:World}(r:Rel [] nx iv B w O w')(h:w'.heap.size<=w2.heap.size):Rel [] nx [] B w2 O w2:=
 r.D5 h (fun id b h=>by cases h) fun lo hi h=>by cases h
end Go.Sx
namespace Go.Ex
open Go Go.Sx Go.Proofs
variable{O:Nat->Sx.dL}
theorem Ke{P D low high dlow dtop W:Nat}(hP:P=low+W*high)(hD:D=dlow+W*dtop)(Od:low<W)(TF:0<dtop)(hPD:P<4294967296*D):P / D<=min (high / dtop) 4294967295:=by
 have hW:0<W:=by omega
 have WO:0<D:=by have:=Nat.mul_pos hW TF;omega
 have h1:P / D<4294967296:=(Nat.div_lt_iff_lt_mul WO).2 (by rw[bL]at hPD;omega);have h2:P / D<=high / dtop:=by
  rw[Nat.le_div_iff_mul_le TF];have h3:=Nat.div_mul_le_self P D;generalize P / D=Q at*
  have h4:W*(Q*dtop)<=Q*D:=by
   rw[hD,Nat.mul_left_comm,bQ];omega
  have h5:W*(Q*dtop)<W*(high+1):=by
   rw[bQ];omega
  have:=Nat.lt_of_mul_lt_mul_left h5;omega
 omega
theorem H7{H:Hp}{nx:Nat}{iv:Iv}{w w1 w':World}{g i x:Nat}{rs:List Nat}(hg:w.heap[g]? =some (.cells (U rs).toArray T.uint32 (0,0)))(hw:dT w.heap.size w w1)(r:Rel H nx iv w.heap.size w1 O w')(hx:rs[i]? =some x):
  w'.cell? ((⟨g,0,none⟩:Addr).add ((i:Int).toNat*1))=some (.int .u32 x):=by
 rw[aF,aY,dA,aV,cell_of (by rw[(hw.tr r.cL).block g (jt hg)];exact hg)];exact uF hx
theorem MN{S:Nat->Prop}{w:World}{vd:Value}{D g k:Nat}{rs:List Nat}(hS:Old S w)(hgS:¬S g)(hd:dQ w S vd D)(hD:0<D)(hg:w.heap[g]? =some (.cells (U rs).toArray T.uint32 (0,0)))(PN:Lm rs)
  (hk:k+ln D+1<=rs.length) (hl:rs.length<=1000000000000) (hPD:val ((rs.drop k).take (ln D+1))<4294967296*D):
  dx PG N.oc #[.slice (some ⟨g,0,none⟩) rs.length rs.length,vd,.int .i64 k] w (fun e w2=>
   e= .returned (.int .u32 ((val ((rs.drop k).take (ln D+1)) / D:Nat):Int))∧w.grownBy w2 (some g)∧∃rs',rs'.length=rs.length∧Lm rs'∧rs'.take k=rs.take k∧rs'.drop (k+ln D+1)=rs.drop (k+ln D+1)∧
    val ((rs'.drop k).take (ln D+1))=val ((rs.drop k).take (ln D+1)) % D∧w2.heap[g]? =some (.cells (U rs').toArray T.uint32 (0,0))):=by
 have hgB:=jt hg;have hnD:=hd;obtain⟨p,rfl,Qh,QR⟩:=hd.la;have Ph:=eA p.lm QR;rw[Qh]at Ph;have RI:=fun(w':World) (q:Nat)=>@Cj S w' (.slice p.a p.ls.length p.c) D g k q rs;generalize hn:ln D=n at*
 obtain⟨t,rfl⟩:∃t,n=t+1:=by
  cases n with
  |zero=>
   have:D<wt 0:=gD.1 (by omega);rw[jM]at this;omega
  |succ t=>exact⟨t,rfl⟩
 obtain⟨dt,TF⟩:∃q,p.ls[t]? =some q:=⟨_,aB (by omega)⟩
 have hdt0:0<dt:=by
  have:=QR dt (by rw[List.getLast?_eq_getElem?,Ph];exact TF);omega
 obtain⟨a,ha⟩:∃q,rs[k+t+1]? =some q:=⟨_,aB (by omega)⟩
 obtain⟨b,hb⟩:∃q,rs[k+t]? =some q:=⟨_,aB (by omega)⟩
 have ha32:=PN.at ha;have Ub:=PN.at hb;have WU:=p.lm.at TF;generalize hP:val ((rs.drop k).take (t+1+1))=P at*
 have hguess:P / D<=min ((a*4294967296+b) / dt) 4294967295:=by
  refine Ke (low:=val ((rs.drop k).take t)) (W:=wt t) (dlow:=val (p.ls.take t)) ?_ ?_ ?_ hdt0 hPD
  ·rw[<-hP,dJ (x:=a) (by rw[List.getElem?_drop];exact ha),dJ (x:=b) (by rw[List.getElem?_drop];exact hb),il,bQ,bL 4294967296 (wt t),bc,bL a];omega
  ·rw[<-Qh,<-dJ TF,List.take_of_length_le (by omega)]
  ·have h1:=nY ((PN.drop k).take t);have:((rs.drop k).take t).length=t:=by simp;omega
   rwa [this]at h1
 refine sX (by simp) ?_;refine⟨(t:Int),wo,?_⟩;refine cH hτ dN [.x 0,.x 1,.x 2,.x 3,.x 4,.x 5,.x 6,.x 7,.x 8,.x 9,.x 10,.x 11,.x 12,.x 13,.x 14,.x 15,.x 16,.x 17] (by kernel_rfl) (by kernel_rfl) ?_;refine⟨((k+t:Nat):Int),wo,((k+t+1:Nat):Int),wo,_,rfl,by omega,.int .u32 a,fun O w' r=>H7 hg dT.refl r ha,(a:Int),eP (by omega),by decide,((a*2^32:Nat):Int),Cl (k:=32) (by decide) (by omega),((k+t:Nat):Int),wo,_,rfl,by omega,.int .u32 b,fun O w' r=>H7 hg dT.refl r hb,(b:Int),eP (by omega),?_⟩;have UL:a*2^32 ||| b=a*4294967296+b:=by
  rw[Nat.or_comm,bL,Cm (k:=32) Ub];omega
 refine⟨((a*4294967296+b:Nat):Int),by rw[Kf (by omega) (by omega),UL],?_⟩;have hh64:a*4294967296+b<18446744073709551616:=by omega
 generalize a*4294967296+b=high at*
 obtain⟨ad,Om,Oo⟩:=p.load hS (dT.refl (w:=w)) TF;refine⟨ad,Om,by omega,.int .u32 dt,Oo _ _ _,(dt:Int),eP (by omega),by omega,((high / dt:Nat):Int),Kg hh64,?_⟩;conv=>whnf
 rw[show min ((high / dt:Nat):Int) 4294967295=((min (high / dt) 4294967295:Nat):Int) by omega];have hm32:min (high / dt) 4294967295<=4294967295:=Nat.min_le_right _ _;generalize min (high / dt) 4294967295=q0 at*
 have hQD:=Nat.div_mul_le_self P D;have hQl:∀q,q*D<=P->P / D<=q->q=P / D:=fun q h1 h2=>aU ((Nat.le_div_iff_mul_le hD).2 h1) h2;have hmod:P % D=P-P / D*D:=by have:=Nat.div_add_mod P D;rw[bL]at this;omega
 refine⟨Nat×World,fun z=>⟨[(0,.o (.v (.slice (some ⟨g,0,none⟩) rs.length rs.length))),(1,sV p.a p.ls.length p.c),(2,iZ k),(9,.o (.v (.int .u64 z.1)))],[],0,[],z.2⟩,fun z=>z.1,
  fun z=>dT w.heap.size w z.2∧P / D<=z.1∧z.1<=4294967295,?_,?_⟩
 ·intro O w' r;exact⟨(q0,w'),⟨r.cL,hguess,hm32⟩,Sub.reset r ⟨rfl,rfl,rfl,rfl,trivial⟩ ⟨trivial,trivial,trivial,trivial,trivial⟩⟩
 ·rintro⟨q,w1⟩ ⟨hw,RO,Q2⟩;dsimp only at hw RO Q2 ⊢;conv=>whnf
  refine⟨fun O w2 r=>(RI w2 q (fun x hx=>by have:=hS x hx;have:=(hw.tr r.cL).size;omega) hgS (hnD.cC fun x hx=>(hw.tr r.cL).block x (hS x hx)) (by rw[(hw.tr r.cL).block g hgB];exact hg) PN hk hl (by omega)).mono fun e w3 he=>?_⟩;rcases he with⟨h,rfl,hb3⟩|⟨h,rfl,Oc,rs',e1,e2,e3,e4,e5,e6⟩
  ·have hw3:dT w.heap.size w w3:=(hw.tr r.cL).tr (hb3.cL r.bz);refine⟨.bool false,[],[],rfl,r.Mo hb3.size,?_⟩;have Sc:P / D<q:=by
    refine Nat.lt_of_le_of_ne RO fun e=>?_;rw[e]at hQD;omega
   have hq4:0<q:=Nat.lt_of_le_of_lt (aS _) Sc;have hq5:P / D<=q-1:=Nat.le_sub_one_of_lt Sc;refine⟨((q-1:Nat):Int),by rw[xW]<;>omega,?_⟩;intro ρ4 w4 r4;exact⟨(q-1,w4),⟨hw3.tr r4.cL,hq5,by dsimp only;omega⟩,Sub.reset r4 ⟨rfl,rfl,rfl,rfl,trivial⟩ ⟨trivial,trivial,trivial,trivial,trivial⟩,by dsimp only;omega⟩
  ·have hgw:w.grownBy w3 (some g):=fg (qG (hw.tr r.cL)) Oc;refine⟨.bool true,[],[],rfl,r.Mo Oc.size,?_⟩;have hq:=hQl q h RO;subst hq;refine⟨((P / D:Nat):Int),by rw[fF,bI (by omega)],?_⟩;intro ρ4 w4 r4;refine⟨rfl,fg hgw (by have:=r4.qH;exact⟨this.os,this.tape,this.output,this.size,fun j hj _=>this.block j hj (by simp)⟩),rs',e1,e2,e3,e4,by rw[e5,hmod],?_⟩;rw[r4.qH.block g (by have:=hgw.size;omega) (by simp)];exact e6
end Go.Ex
namespace Go.Ex
variable{ms:List Nat}
theorem IM{t dt:Nat}(PN:Lm ms)(hl:ms.length=t+1)(TF:ms[t]? =some dt)(h0:0<dt):32-gP dt<32∧ln (val ms*2^(32-gP dt))=t+1:=by
 have hb0:0<gP dt:=by
  rcases bJ (gP dt)with h|h
  ·have:=x9.1 (Nat.le_of_eq h);simp at this;omega
  ·exact h
 have Ub:gP dt<=32:=x9.2 (PN.at TF);have Ou:=x9.1 (Nat.le_refl (gP dt));have hv:val ms=val (ms.take t)+wt t*dt:=by rw[<-dJ TF,List.take_of_length_le (by omega)]
 have Od:=nY (PN.take t);have hltk:(ms.take t).length=t:=by simp;omega
 rw[hltk]at Od;have hw:=uo t;refine⟨by omega,aU ?_ ?_⟩
 ·rw[gD];have h1:val ms<wt t*2^gP dt:=by
   have:wt t*(dt+1)<=wt t*2^gP dt:=bP _ Ou;rw[bQ]at this;omega
  have h2:=Nat.mul_lt_mul_of_pos_right h1 (bo (32-gP dt));rw[bc,<-Nat.pow_add,Nat.add_sub_cancel' Ub]at h2;rw[il,bL 4294967296];exact h2
 ·refine Nat.lt_of_not_le fun h=>?_;have h1:=gD.1 h;have h2:val ms*1<=val ms*2^(32-gP dt):=bP _ (bo _);have h3:wt t*1<=wt t*dt:=bP _ h0;omega
theorem Dt{rs:List Nat}{D N k:Nat}(PN:Lm rs)(hDN:D<wt N)(hk:k+N+1<=rs.length)(h:val rs<wt (k+1)*D):
  val (rs.drop (k+N+1))=0∧val (rs.drop k)=val ((rs.drop k).take (N+1))∧val ((rs.drop k).take (N+1))<4294967296*D:=by
 obtain⟨x,hx⟩:∃q,rs[k]? =some q:=⟨_,aB (by omega)⟩
 have QG:=PN.at hx;have h1:=eX rs (k+1) (by omega);have h2:val (rs.drop (k+1))<D:=Nat.lt_of_mul_lt_mul_left (a:=wt (k+1)) (by omega);have h3:=eX (rs.drop (k+1)) N (by simp;omega);rw[List.drop_drop,show k+1+N=k+N+1 by omega]at h3;have h4:val (rs.drop (k+N+1))=0:=by
  rcases bJ (val (rs.drop (k+N+1)))with h|h
  ·exact h
  ·have:=bP (wt N) h;omega
 have h5:=eX (rs.drop k) (N+1) (by simp;omega);rw[List.drop_drop,show k+(N+1)=k+N+1 by omega,h4,Nat.mul_zero,bj]at h5;have h6:=jE hx;exact⟨h4,h5,by omega⟩
theorem Jp{rs rs' out:List Nat}{D N k P V:Nat}(hD:0<D)(PN:Lm rs)(hlen:rs'.length=rs.length)(hDN:D<wt N)(hk:k+N+1<=rs.length)(h:val rs<wt (k+1)*D)(hV:V=wt (k+1)*(D*val (out.drop (k+1)))+val rs)
  (hP:val ((rs.drop k).take (N+1))=P) (h1:rs'.take k=rs.take k) (h2:rs'.drop (k+N+1)=rs.drop (k+N+1)) (h3:val ((rs'.drop k).take (N+1))=P % D) (ho:k<out.length):
  val rs'<wt k*D∧V=wt k*(D*val ((out.set k (P / D)).drop k))+val rs':=by
 obtain⟨a1,a2,a3⟩:=Dt PN hDN hk h;have b1:=eX rs k (by omega);have b2:=eX rs' k (by omega);have b3:=eX (rs'.drop k) (N+1) (by simp;omega);rw[List.drop_drop,show k+(N+1)=k+N+1 by omega,h2,a1,Nat.mul_zero,bj,h3]at b3;rw[h1,b3]at b2;rw[a2,hP]at b1;have b4:=nY (PN.take k);have b5:(rs.take k).length=k:=by simp;omega
 rw[b5]at b4;have b6:=bq P hD;have b7:(out.set k (P / D))[k]? =some (P / D):=by rw[aO ho]
 have b8:=Nat.div_add_mod P D;refine⟨?_,?_⟩
 ·have:wt k*(P % D+1)<=wt k*D:=bP _ b6;rw[bQ]at this;omega
 ·rw[jE b7,List.drop_set_of_lt (show k<k+1 by omega),hV,b1,b2,il];generalize val (out.drop (k+1))=o;have c1:wt k*P=wt k*(D*(P / D))+wt k*(P % D):=by rw[<-bQ,b8]
  have c2:4294967296*wt k*(D*o)=wt k*(D*(4294967296*o)):=by
   rw[bL 4294967296,bc,Nat.mul_left_comm 4294967296]
  rw[c1,c2,bQ D,bQ (wt k)];omega
theorem IN{n m b:Nat}(hm:0<m)(UM:m<=n):n*2^b<wt (ln n+1-ln m)*(m*2^b):=by
 have h1:=kx n;have h2:=fI UM;have h3:wt (ln m-1)<=m:=by
  refine Nat.le_of_not_lt fun h=>?_;have:=gD.2 h;have h4:0<ln m:=by
   rcases bJ (ln m)with h|h
   ·have:=gD.1 (Nat.le_of_eq h);rw[jM]at this;omega
   ·exact h
  omega
 have h4:0<ln m:=by
  rcases bJ (ln m)with h|h
  ·have:=gD.1 (Nat.le_of_eq h);rw[jM]at this;omega
  ·exact h
 have h5:wt (ln n)<=wt (ln n+1-ln m)*m:=by
  rw[show ln n=(ln n+1-ln m)+(ln m-1) by omega,CH,show(ln n+1-ln m)+(ln m-1)+1-ln m=ln n+1-ln m by omega];exact bP _ h3
 rw[<-bc];exact Nat.mul_lt_mul_of_pos_right (Nat.lt_of_lt_of_le h1 h5) (bo b)
theorem Ls{n m b o r:Nat}(hm:0<m)(h1:n*2^b=m*2^b*o+r)(h2:r<m*2^b):o=n / m∧r / 2^b=n % m:=by
 have hp:=bo b;have h3:n*2^b / (m*2^b)=o:=by rw[h1,Nat.mul_add_div (Nat.mul_pos hm hp),Nat.div_eq_of_lt h2,bj]
 have h4:n*2^b % (m*2^b)=r:=by rw[h1,Nat.mul_add_mod,bI h2]
 rw[Nat.mul_div_mul_right _ _ hp]at h3;rw[Nat.mul_mod_mul_right]at h4;exact⟨h3.symm,by rw[<-h4,Nat.mul_div_cancel _ hp]⟩
end Go.Ex
namespace Go.Ex
open Go Go.Sx Go.Proofs
variable{H:Hp}{x y z:Int}{iv:Iv}{ls:List Nat}{n nx:Nat}{S:Nat->Prop}{O:Nat->Sx.dL}{u v:Value}{w w' w1:World}
theorem H8{g:Nat}{rs:List Nat}(hg:w.heap[g]? =some (.cells (U rs).toArray T.uint32 (0,0)))(PN:Lm rs)(hl:rs.length<=1000000000000):
  cz w (fun x=>x=g) (.slice (some ⟨g,0,none⟩) rs.length rs.length) rs:=by
 have:=H5 (k:=0) (m:=rs.length) (c:=rs.length) hg PN (by omega) (Nat.le_refl _) hl
 rwa [List.drop_zero,bH]at this
theorem qI{m:Nat}(hS:Old S w)(hn:dQ w S v n)(hm:dQ w S u m)(Uj:0<m)(SJ:ln n<=100000000000):
  dx PG N.nD #[v,u] w (eH w fun v' w2=>∃q r,v'= .tuple #[q,r]∧dQ w2 (Nf w w2) q (n / m)∧dQ w2 (Nw S w w2) r (n % m)):=by
 have hnN:=hn;have UB:=hm;obtain⟨x,rfl,Qh,QR⟩:=hn.la;obtain⟨y,rfl,RO,Q2⟩:=hm.la;have QC:=eA x.lm QR;have hyl:=eA y.lm Q2;rw[Qh]at QC;rw[RO]at hyl;refine rJ (by simp) ?_;refine cB (cI (Φ:=fun _ _ v _=>v= .int .i64 (s3 n m)) (fun O w' r=>Kd (S:=S) (fun g hg=>by have:=hS g hg;have:=r.cL.size;omega) (hnN.cC fun g hg=>r.cL.block g (hS g hg)) (UB.cC fun g hg=>r.cL.block g (hS g hg))) ?_);rintro O w1 v1 w2 r he hw rfl;refine dB.mk ?_ ?_<;>intro h
 ·have h:n<m:=by
   have:=aK h;unfold s3 at this;split at this
   ·assumption
   ·split at this<;>omega
  intro ρ3 w3 r3;refine⟨_,rfl,hw.tr r3.cL,_,_,rfl,?_,?_⟩
  ·rw[Nat.div_eq_of_lt h];exact dQ.nil _ _
  ·rw[bI h];exact(hnN.cC fun g hg=>(hw.tr r3.cL).block g (hS g hg)).cF fun g hg=>.inl hg
 have h:m<=n:=by
  have:=aH h;unfold s3 at this;split at this
  ·omega
  ·omega
 have hlmn:=fI h;refine dB.mk ?_ ?_<;>intro h1
 ·have h1:y.ls.length=1:=by have:=eq_of_beq h1;omega
  obtain⟨b,VJ⟩:=List.length_eq_one_iff.1 h1;have hb:y.ls[0]? =some b:=by rw[VJ];rfl
  have Ub:=y.lm.at hb;have RN:m=b:=by rw[<-RO,VJ];simp[val]
  subst RN;obtain⟨ad,Om,Oo⟩:=y.load hS hw hb;refine⟨ad,Om,by omega,.int .u32 m,Oo _ _ _,?_⟩;refine cB (cI (Φ:=fun _ w' v w2=>∃q,v= .tuple #[q,.int .u32 ((val x.ls % m:Nat):Int)]∧dQ w2 (Nf w' w2) q (val x.ls / m)) (fun O w' r=>?_) ?_)
  ·refine MO (S:=S) (fun g hg=>by have:=hS g hg;have:=(hw.tr r.cL).size;omega) ⟨x.lm,x.le,_,_,rfl,x.cap,fun j u hu=>?_⟩ (by omega) Uj Ub;obtain⟨ad,e1,e2,e3⟩:=x.cell j u hu;exact⟨ad,e1,e2,jl hS hw r e2 e3⟩
  rintro O w3 v3 w4 r he SR ⟨q,rfl,hq⟩;replace hw:=hw.tr SR;have UP:=hq.dD (S:=FF) r.bz (iv:=(w3.heap.size,w4.heap.size)::[(w1.heap.size,w2.heap.size)]) aG;rw[Qh]at UP;rw[Qh];generalize (w3.heap.size,w4.heap.size)::[(w1.heap.size,w2.heap.size)]=iv at*
  have Qo:n % m<m:=bq _ Uj;generalize n % m=rem at*
  refine gO (Φ:=fun O _ v w2=>cz w2 (fun g=>g=(O 0).g) v (dO [rem])) (H':=[]) 0 rfl (by simp) trivial rfl (fun O w' r=>r.nn 0 _ rfl (by intros;simp) (by simp)) (fun O w' r=>?_) ?_
  ·have hL:=r.uJ (id:=0) (ls:=[rem]) rfl (by intro x hx;simp at hx;omega) (by simp);exact fM (fun g hg=>by rw[hg];exact(r.low 0 _ rfl (r.nn 0 _ rfl (by intros;simp) (by simp))).2) hL
  rintro O w5 v5 w6 r he Tb hL;have Od:=r.low 0 _ rfl (r.nn 0 _ rfl (by intros;simp) (by simp));have hs:=he.size;replace hw:=hw.tr Tb;replace UP:=UP.cD (iv':=((O 0).g,(O 0).g+1)::(w5.heap.size,w6.heap.size)::iv) r (fun g h=>h.elim) he fun x hx=>by simp[hx]
  generalize (O 0).g=g0 at*
  have Vm:dQ w6 (Cf w ((g0,g0+1)::(w5.heap.size,w6.heap.size)::iv)) v5 rem:=by
   have:=hL.trimmed;simp only[val,Nat.mul_zero,bj]at this;exact this.cF fun k hk=>.inr ⟨by omega,g0,g0+1,by simp,by omega,by omega⟩
  generalize (g0,g0+1)::(w5.heap.size,w6.heap.size)::iv=OU at*
  intro ρ3 w7 r3;exact⟨_,rfl,hw.tr r3.cL,_,_,rfl,(UP.rel r3 fun g h=>h.elim).cF fun g hg=>Cv.nw hg r3,((Vm.rel r3 fun g h=>h.elim).cF fun g hg=>Cv.nw hg r3).cF fun g hg=>hg.elim (fun h=>h.elim) .inr⟩
 ·have h1:y.ls.length≠1:=fun e=>by rw[e]at h1;simp at h1
  have Sd:0<ln m:=by
   rcases bJ (ln m)with h|h
   ·have:=gD.1 (Nat.le_of_eq h);rw[jM]at this;omega
   ·exact h
  obtain⟨t,ht⟩:∃t,y.ls.length=t+1:=⟨y.ls.length-1,by omega⟩
  obtain⟨dt,TF⟩:∃q,y.ls[t]? =some q:=⟨_,aB (by omega)⟩
  have hdt0:0<dt:=by
   have:=Q2 dt (by rw[List.getLast?_eq_getElem?,ht];exact TF);omega
  have WU:=y.lm.at TF;obtain⟨Oq,Vn⟩:=IM y.lm ht TF hdt0;rw[RO]at Vn;obtain⟨ad,Om,Oo⟩:=y.load hS hw TF;refine⟨(t:Int),wo,ad,Om,by omega,.int .u32 dt,Oo _ _ _,?_⟩;refine cB (cI (Φ:=fun _ _ v _=>v= .int .i64 ((32-gP dt:Nat):Int)) (fun O w' r=>Nb dt w' WU) ?_);rintro O w3 v3 w4 r he SR rfl;replace hw:=hw.tr SR;generalize hbyd:32-gP dt=b at*
  refine⟨(b:Int),eP (by omega),?_⟩;refine cB (cI (Φ:=fun _ w' v w2=>∃out,Kh w' w2 v out∧out.length=y.ls.length+1∧val out=val y.ls*2^b) (fun O w' r=>?_) ?_)
  ·refine B6 (S:=S) (fun g hg=>by have:=hS g hg;have:=(hw.tr r.cL).size;omega) ⟨y.lm,y.le,_,_,rfl,y.cap,fun j u hu=>?_⟩ (by omega) Oq;obtain⟨ad,e1,e2,e3⟩:=y.cell j u hu;exact⟨ad,e1,e2,jl hS hw r e2 e3⟩
  rintro O w5 v5 w6 r he Tb ⟨dl,⟨gd,rfl,hgd1,hgd2,hgd3⟩,Ro,hdv⟩;replace hw:=hw.tr Tb;rw[RO]at hdv;have hB5:w.heap.size<=w5.heap.size:=r.bz;have SK:Cf w ((w5.heap.size,w6.heap.size)::[(w3.heap.size,w4.heap.size),(w1.heap.size,w2.heap.size)]) gd:=.inr ⟨by omega,_,_,aG,hgd1,jt hgd2⟩;generalize (w5.heap.size,w6.heap.size)::[(w3.heap.size,w4.heap.size),(w1.heap.size,w2.heap.size)]=iv at*
  have hF:∀g:Nat,(fun _:Nat=>False) g->g<w.heap.size:=fun g h=>h.elim;refine cB (cI (Φ:=fun _ _ v w2=>cz w2 (fun x=>x=gd) v (dO dl)) (fun O w' r=>fM (fun g hg=>by rw[hg];exact Rel.old r hF gd SK) (H8 (by rw[Rel.same r hF SK];exact hgd2) hgd3 (by omega))) ?_);rintro O w7 v6 w8 r he hb8 hL;replace hw:=hw.tr hb8;have hgd8:gd<w8.heap.size:=by have:=Rel.old r hF gd SK;have:=he.size;omega
  replace SK:=SK.mono (iv':=(w7.heap.size,w8.heap.size)::iv) fun p hp=>aC _ hp;have Ui:=hL.trimmed;rw[hdv]at Ui;generalize (w7.heap.size,w8.heap.size)::iv=iv at*
  obtain⟨dp,rfl,RM,PM⟩:=Ui.la;have hdpl:=eA dp.lm PM;rw[RM,Vn]at hdpl;generalize hDd:m*2^b=D at*
  have WO:0<D:=by rw[<-hDd];exact Nat.mul_pos Uj (bo b)
  refine cB (cI (Φ:=fun _ w' v w2=>∃out,Kh w' w2 v out∧out.length=x.ls.length+1∧val out=val x.ls*2^b) (fun O w' r=>?_) ?_)
  ·refine B6 (S:=S) (fun g hg=>by have:=hS g hg;have:=(hw.tr r.cL).size;omega) ⟨x.lm,x.le,_,_,rfl,x.cap,fun j u hu=>?_⟩ (by omega) Oq;obtain⟨ad,e1,e2,e3⟩:=x.cell j u hu;exact⟨ad,e1,e2,jl hS hw r e2 e3⟩
  rintro O w9 v9 w10 r he hb10 ⟨rs0,⟨gr,rfl,hgr1,hgr2,hgr3⟩,Pk,OX⟩;replace hw:=hw.tr hb10;rw[Qh]at OX;have hB9:w.heap.size<=w9.heap.size:=r.bz;have Sq:Cf w ((w9.heap.size,w10.heap.size)::iv) gr:=.inr ⟨by omega,_,_,aG,hgr1,jt hgr2⟩;have OS:gr≠gd:=by have:=r.size;omega
  replace Ui:dQ w10 (fun x=>x=gd) (.slice dp.a dp.ls.length dp.c) D:=Ui.cC fun x hx=>by
   rw[hx,he.block gd (Rel.old r hF gd SK),Rel.same r hF SK]
  have hgd10:gd<w10.heap.size:=by have:=Rel.old r hF gd SK;have:=he.size;omega
  replace SK:=SK.mono (iv':=(w9.heap.size,w10.heap.size)::iv) fun p hp=>aC _ hp;generalize (w9.heap.size,w10.heap.size)::iv=iv at*
  have hgrB:w.heap.size<=gr:=by omega
  obtain⟨L,hL⟩:∃L,rs0.length=t+1+L:=⟨rs0.length-(t+1),by omega⟩
  refine⟨(L:Int),wo,L,L,rfl,rfl,Nat.le_refl _,by omega,by omega,(L:Int)-1,wo,Nat×List Nat×List Nat×World,fun z=>⟨[(8,.o (.v (.int .u64 b))),(9,sV dp.a dp.ls.length dp.c),(10,.o (.v (.slice (some ⟨gr,0,none⟩) rs0.length rs0.length))),(11,.o (.s 0 0 L L)),(12,.o (.v (.int .i64 ((z.1:Int)-1))))],
    [(0,.arr T.uint32 (U z.2.1))],1,iv,z.2.2.2⟩,fun z=>z.1,
   fun z=>z.1<=L∧dT w.heap.size w z.2.2.2∧z.2.1.length=L∧z.2.2.1.length=rs0.length∧Lm z.2.1∧Lm z.2.2.1∧z.2.2.2.heap[gr]? =some (.cells (U z.2.2.1).toArray T.uint32 (0,0))∧dQ z.2.2.2 (fun x=>x=gd) (.slice dp.a dp.ls.length dp.c) D∧
    gd<z.2.2.2.heap.size∧val z.2.2.1<wt z.1*D∧n*2^b=wt z.1*(D*val (z.2.1.drop z.1))+val z.2.2.1,?_,?_⟩
  ·intro O w' r;rw[s4]at r;refine⟨(L,List.replicate L 0,rs0,w'),⟨Nat.le_refl _,hw.tr r.cL,by simp,rfl,Lm.replicate _,hgr3,?_,?_,?_,?_,?_⟩,Sub.gn [] r⟩
   ·dsimp only;rw[Rel.same r hF Sq];exact hgr2
   ·exact Ui.cC fun x hx=>by rw[hx];exact Rel.same r hF SK
   ·exact Rel.old r hF gd SK
   ·dsimp only
    have:=IN (b:=b) Uj h;rw[hDd,<-hyl,ht,<-QC,show x.ls.length+1-(t+1)=L by omega]at this;rw[OX];exact this
   ·dsimp only;rw[OX];simp[val]
  ·rintro⟨k,out,rs,w11⟩ ⟨hk,hw,QW,TM,SS,hlr,Oc,Ui,QD,hi1,Ta⟩;dsimp only at hk hw QW TM SS hlr Oc Ui QD hi1 Ta ⊢;refine dB.mk ?_ ?_<;>intro h9
   ·have h9:(k:Int)-1≥0:=aK h9;obtain⟨k,rfl⟩:∃q,k=q+1:=⟨k-1,by omega⟩
    rw[show ((k+1:Nat):Int)-1=(k:Int) by omega];have hDN:D<wt (t+1):=gD.1 (Nat.le_of_eq Vn);obtain⟨a1,a2,a3⟩:=Dt (N:=t+1) hlr hDN (by omega) hi1;have hdig:=fun(w':World)=>@MN (fun x=>x=gd) w' (.slice dp.a dp.ls.length dp.c) D gr k rs;rw[Vn]at hdig;simp only[TM]at hdig;generalize hP:val ((rs.drop k).take (t+1+1))=P at*
    have hQ32:P / D<4294967296:=(Nat.div_lt_iff_lt_mul WO).2 (by rw[bL]at a3;omega);refine⟨fun O w' r=>(hdig w' (fun g hg=>by rw[hg];exact Rel.old r hF gd SK) OS (Ui.cC fun x hx=>by rw[hx];exact Rel.same r hF SK) WO (by rw[Rel.same r hF Sq];exact Oc) hlr (by omega) (by omega) a3).mono fun e w12 he=>?_⟩;obtain⟨rfl,hgb,rs',e1,e2,e3,e4,e5,e6⟩:=he;refine⟨_,_,_,rfl,r.yH (fun id b hb hn=>Rel.not r hF Sq id b hb hn) hgb,?_⟩;obtain⟨hi1',hi2'⟩:=Jp (N:=t+1) WO hlr (e1.trans TM.symm) hDN (by omega) hi1 Ta hP e3 e4 e5 (by omega);have hw12:dT w.heap.size w w12:=(hw.tr r.cL).tr (dT.grown hgb (fun g hg=>by injection hg with hg;omega) r.bz);have hdN12:dQ w12 (fun x=>x=gd) (.slice dp.a dp.ls.length dp.c) D:=Ui.cC fun x hx=>by
     rw[hx,hgb.block gd (Rel.old r hF gd SK) (fun e=>OS (Option.some.inj e).symm),Rel.same r hF SK]
    have hgd12:gd<w12.heap.size:=by have:=Rel.old r hF gd SK;have:=hgb.size;omega
    generalize P / D=Q at*
    refine⟨by omega,by rw[gF];omega,U (out.set k Q),ir out k _ (by omega) (by simp),(k:Int)-1,wo,?_⟩;intro ρ3 w3 r3
    refine⟨(k,out.set k Q,rs',w3),⟨by dsimp only;omega,hw12.tr r3.cL,by simp[QW],e1.trans rfl,SS.set hQ32,e2,?_,?_,?_,hi1',hi2'⟩,
     Sub.gn [] r3,by dsimp only;omega⟩
    ·dsimp only;rw[Rel.same r3 hF Sq];exact e6
    ·exact hdN12.cC fun x hx=>by rw[hx];exact Rel.same r3 hF SK
    ·exact Rel.old r3 hF gd SK
   ·have Ua:k=0:=by
     have:¬(k:Int)-1≥0:=aH h9;omega
    subst Ua;rw[jM,Nat.one_mul,List.drop_zero]at Ta;rw[jM,Nat.one_mul]at hi1;rw[<-hDd]at hi1 Ta;obtain⟨hq,hrem⟩:=Ls Uj Ta hi1;have Pa:∀w':World,w'.heap[gr]? =some (.cells (U rs).toArray T.uint32 (0,0))->cz w' (fun x=>x=gr) (.slice (some ⟨gr,0,none⟩) rs0.length rs0.length) rs:=fun w' hh=>by
     have:=H8 hh hlr (by omega)
     rwa [TM]at this
    refine gO (Φ:=fun O _ v w2=>cz w2 (fun g=>g=(O 0).g) v (dO out)) (H':=[]) 0 rfl (by simp) trivial rfl (fun O w' r=>r.nn 0 _ rfl (by intros;simp) (by simp)) (fun O w' r=>?_) ?_
    ·have hL:=r.nK (id:=0) rfl SS (by omega);rw[QW]at hL;exact fM (fun g hg=>by rw[hg];exact(r.low 0 _ rfl (r.nn 0 _ rfl (by intros;simp) (by simp))).2) hL
    rintro O w13 v13 w14 r he hb14 hL;replace hw:=hw.tr hb14;have Od:=r.low 0 _ rfl (r.nn 0 _ rfl (by intros;simp) (by simp));have hs:=he.size;have hgr14:w14.heap[gr]? =some (.cells (U rs).toArray T.uint32 (0,0)):=by rw[he.block gr (Rel.old r hF gr Sq),Rel.same r hF Sq];exact Oc
    replace Sq:=Sq.mono (iv':=((O 0).g,(O 0).g+1)::(w13.heap.size,w14.heap.size)::iv) fun p hp=>by simp[hp]
    have UP:dQ w14 (Cf w (((O 0).g,(O 0).g+1)::(w13.heap.size,w14.heap.size)::iv)) v13 (n / m):=by
     have:=hL.trimmed;rw[hq]at this;exact this.cF fun k hk=>.inr ⟨by omega,_,_,aG,by omega,by omega⟩
    generalize ((O 0).g,(O 0).g+1)::(w13.heap.size,w14.heap.size)::iv=Oi at*
    refine cB (cI (Φ:=fun _ _ v w2=>cz w2 (fun x=>x=gr) v (dO rs)) (fun O w' r=>fM (fun g hg=>by rw[hg];exact Rel.old r hF gr Sq) (Pa w' (by rw[Rel.same r hF Sq];exact hgr14))) ?_);rintro O w15 v15 w16 r he hb16 hL;replace hw:=hw.tr hb16;replace UP:=UP.cD (iv':=(w15.heap.size,w16.heap.size)::Oi) r hF he fun x hx=>aC _ hx;replace hL:=hL.cF (S':=Cf w ((w15.heap.size,w16.heap.size)::Oi)) fun g hg=>by rw[hg];exact Sq.cons
    generalize (w15.heap.size,w16.heap.size)::Oi=Ow at*
    have htl:(dO rs).length<=rs.length:=by
     obtain⟨_,_,k,_,hk⟩:=ef rs;rw[hk];simp;omega
    refine cB (cI (Φ:=fun _ w' v w2=>dQ w2 (Nf w' w2) v (val (dO rs) / 2^b)) (fun O w' r=>Ng (Rel.old r hF) (cz.rel hL r hF) (by omega) Oq) ?_);rintro O w17 v17 w18 r he hb18 hr;replace hw:=hw.tr hb18;rw[(ef rs).1,hrem]at hr;have Vm:=hr.dD (S:=FF) r.bz (iv:=(w17.heap.size,w18.heap.size)::Ow) aG;replace UP:=UP.cD (iv':=(w17.heap.size,w18.heap.size)::Ow) r hF he fun x hx=>aC _ hx;generalize (w17.heap.size,w18.heap.size)::Ow=QO at*
    intro ρ3 w19 r3;exact⟨_,rfl,hw.tr r3.cL,_,_,rfl,(UP.rel r3 hF).cF fun g hg=>Cv.nw hg r3,((Vm.rel r3 hF).cF fun g hg=>Cv.nw hg r3).cF fun g hg=>hg.elim (fun h=>h.elim) .inr⟩
theorem El{m:Nat}(hS:Old S w)(hn:dQ w S v n)(hm:dQ w S u m)(SJ:ln n<=100000000000)(PN:ln m<=100000000000):
  dx PG N.tf #[v,u] w (eH w fun v' w2=>dQ w2 (Nw S w w2) v' (Nat.gcd n m)):=by
 refine xK (by simp) ?_
 refine⟨(Value×Nat)×(Value×Nat)×Iv×World,fun z=>⟨[(0,.o (.v z.1.1)),(1,.o (.v z.2.1.1))],[],0,z.2.2.1,z.2.2.2⟩,fun z=>z.2.1.2,
  fun z=>dT w.heap.size w z.2.2.2∧dQ z.2.2.2 (Cv S w.heap.size z.2.2.1) z.1.1 z.1.2∧dQ z.2.2.2 (Cv S w.heap.size z.2.2.1) z.2.1.1 z.2.1.2∧ln z.1.2<=100000000000∧ln z.2.1.2<=100000000000∧Nat.gcd z.1.2 z.2.1.2=Nat.gcd n m,?_,?_⟩
 ·intro O w' r
  exact⟨((v,n),(u,m),[],w'),⟨r.cL,(hn.cC fun g hg=>r.cL.block g (hS g hg)).cF fun _ hg=>.inl hg,(hm.cC fun g hg=>r.cL.block g (hS g hg)).cF fun _ hg=>.inl hg,SJ,PN,rfl⟩,
   Sub.gen [] r trivial ⟨rfl,rfl,trivial⟩ trivial (by simp[l6,SV.sc,At.sc]) (by rfl) (by simp)⟩
 ·rintro⟨⟨vx,x⟩,⟨vy,y⟩,iv,w1⟩ ⟨hw,hx,hy,Pt,Q3,hg⟩;dsimp only at hw hx hy Pt Q3 hg ⊢;have hyN:=hy;obtain⟨p,rfl,Qh,QR⟩:=hy.la;have Ph:=eA p.lm QR;rw[Qh]at Ph;refine dB.mk ?_ ?_<;>intro h
  ·have h:0<p.ls.length:=by
    have:(p.ls.length:Int)>0:=aK h;omega
   have Pg:0<y:=by
    rcases bJ y with h0|h0
    ·rw[h0]at Ph;rw[Lk]at Ph;omega
    ·exact h0
   refine cB (cI (Φ:=fun _ w' v w2=>∃q r,v= .tuple #[q,r]∧dQ w2 (Nf w' w2) q (x / y)∧dQ w2 (Nw (Cv S w.heap.size iv) w' w2) r (x % y)) (fun O w' r=>qI (Rel.old r hS) (hx.rel r hS) (hyN.rel r hS) Pg Pt) ?_);rintro O w3 v3 w4 r he SR ⟨q,rm,rfl,-,hr⟩;replace hw:=hw.tr SR;have Vm:dQ w4 (Cv S w.heap.size ((w3.heap.size,w4.heap.size)::iv)) rm (x % y):=hr.cF fun g hg=>Nw.cv hg r.bz;have hyN:=hyN.cD (iv':=(w3.heap.size,w4.heap.size)::iv) r hS he fun x hx=>aC _ hx;generalize (w3.heap.size,w4.heap.size)::iv=OU at*
   intro ρ5 w5 r5
   refine⟨((_,y),(rm,x % y),OU,w5),⟨hw.tr r5.cL,hyN.rel r5 hS,Vm.rel r5 hS,Q3,aW (fI (Nat.le_of_lt (bq x Pg))) Q3,?_⟩,
    Sub.gen [] r5 trivial ⟨rfl,rfl,trivial⟩ trivial (by simp[l6,SV.sc,At.sc]) (by rfl) (by simp),bq x Pg⟩
   dsimp only
   rw[<-hg,Nat.gcd_comm x y,Nat.gcd_rec y x,Nat.gcd_comm]
  ·have h:p.ls.length=0:=by
    have:¬(p.ls.length:Int)>0:=aH h;omega
   have Pg:y=0:=by
    have:=kx y;rw[<-Ph,h,jM]at this;omega
   rw[Pg,Nat.gcd_zero_right]at hg;intro ρ5 w5 r5;exact⟨_,rfl,hw.tr r5.cL,by rw[<-hg];exact(hx.rel r5 hS).cF fun g hg=>Cv.nw hg r5⟩
def sg(neg:Bool)(n:Nat):Int:=if neg then -(n:Int)else n
theorem Ku(n:Nat):sg true n= -(n:Int):=rfl
theorem Nj(n:Nat):sg false n=n:=rfl
theorem se(b:Bool)(n:Nat):(sg b n).natAbs=n:=by cases b<;>simp[sg]
def uR(w:World)(S:Nat->Prop)(v:Value)(neg:Bool)(ls:List Nat):Prop:=∃lv,v= .agg #[.bool neg,lv]∧cz w S lv ls
def eB(w:World)(S:Nat->Prop)(v:Value)(z:Int):Prop:=∃nv,v= .agg #[.bool (decide (z<0)),nv]∧dQ w S nv z.natAbs
section
variable{S S':Nat->Prop}{H:Hp}{nx:Nat}{iv iv':Iv}{B:Nat}{w w' w2:World}{O:Nat->Sx.dL}{v:Value}{z:Int}
theorem eB.cC(h:eB w S v z)(hk:∀g,S g->w2.heap[g]? =w.heap[g]?):eB w2 S v z:=by
 obtain⟨nv,h1,h2⟩:=h;exact⟨nv,h1,h2.cC hk⟩
theorem eB.cF(h:eB w S v z)(hk:∀g,S g->S' g):eB w S' v z:=by
 obtain⟨nv,h1,h2⟩:=h;exact⟨nv,h1,h2.cF hk⟩
theorem eB.rel(h:eB w (Cv S B iv) v z)(r:Rel H nx iv B w O w')(hS:∀g,S g->g<B):eB w' (Cv S B iv) v z:=h.cC fun _ hg=>Rel.same r hS hg
theorem eB.cD(h:eB w (Cv S B iv) v z)(r:Rel H nx iv B w O w')(hS:∀g,S g->g<B)(he:Ext w' w2)(hm:∀p,p∈iv->p∈iv'):eB w2 (Cv S B iv') v z:=by
 obtain⟨nv,h1,h2⟩:=h;exact⟨nv,h1,h2.cD r hS he hm⟩
theorem eB.dD(h:eB w2 (Nf w' w2) v z)(hB:B<=w'.heap.size)(hm:(w'.heap.size,w2.heap.size)∈iv):eB w2 (Cv S B iv) v z:=h.cF fun _ hg=>hg.dD hB hm
end
theorem vX{k:Nat}(h:k=ln n):0<k↔0<n:=by
 have h1:=@gD n 0;rw[jM]at h1;omega
theorem cz.shape(h:cz w S v ls):∃a n c,v= .slice a n c:=by
 obtain⟨a,c,h,_⟩:=h.sl;exact⟨a,_,c,h⟩
theorem dQ.shape(h:dQ w S v n):∃a n c,v= .slice a n c:=by
 obtain⟨_,h,_⟩:=h;exact h.shape
theorem cz.arg(h:cz w S v ls)(iv:Iv):cz w (Cv S w.heap.size iv) v ls:=h.cF fun _ h=>.inl h
theorem dQ.arg(h:dQ w S v n)(iv:Iv):dQ w (Cv S w.heap.size iv) v n:=h.cF fun _ h=>.inl h
theorem dQ.out(h:dQ w1 (Cv S w.heap.size iv) v n)(r:Rel H nx iv w.heap.size w1 O w')(hS:Old S w):dQ w' (Nw S w w') v n:=
 (h.rel r hS).cF fun _ hg=>Cv.nw hg r
theorem eB.out(h:eB w1 (Cv S w.heap.size iv) v z)(r:Rel H nx iv w.heap.size w1 O w')(hS:Old S w):eB w' (Nw S w w') v z:=
 (h.rel r hS).cF fun _ hg=>Cv.nw hg r
theorem neg_pos{k:Nat}(h:k=ln n):decide ((k:Int)>0)=decide (-(n:Int)<0):=by
 have:=vX h;exact decide_eq_decide.2 (by omega)
theorem bw(w:World):Old FF w:=fun _ h=>h.elim
theorem aAY{neg:Bool}(hS:Old S w)(h:uR w S v neg ls):
  dx PG N.zM #[v] w (eH w fun v' w2=>eB w2 (Nw S w w2) v' (sg neg (val ls))):=by
 obtain⟨lv,rfl,hl⟩:=h;replace hl:=hl.arg [];refine EY (by simp) ?_;refine cB (cI (Φ:=fun _ _ v w2=>cz w2 (Cv S w.heap.size []) v (dO ls)) (fun O w' r=>fM (Rel.old r hS) (cz.rel hl r hS)) ?_);rintro O w1 v1 w2 r he hw hL;have hN:=hL.trimmed.cF (S':=Cv S w.heap.size [(w1.heap.size,w2.heap.size)]) fun _ hg=>hg.cons;have hN2:=hN;obtain⟨p,rfl,Qh,QR⟩:=hN.la;have Ph:=eA p.lm QR;rw[Qh]at Ph
 cases neg
 ·intro ρ3 w3 r3;exact⟨_,rfl,hw.tr r3.cL,_,rfl,by rw[se];exact hN2.out r3 hS⟩
 ·intro ρ3 w3 r3;exact⟨_,rfl,hw.tr r3.cL,_,by rw[Ku,<-neg_pos Ph];rfl,by rw[se];exact hN2.out r3 hS⟩
theorem Kv(hS:Old S w)(h:eB w S v z)(SJ:ln z.natAbs<=100000000000):
  dx PG N.mK #[v] w (eH w fun v' w2=>∃ls,uR w2 (Nf w w2) v' (decide (z<0)) ls∧Nz ls∧val ls=z.natAbs):=by
 obtain⟨nv,rfl,hn⟩:=h;obtain⟨ls,hl,hz,hv⟩:=hn;replace hl:=hl.arg [];refine pz (by simp) ?_;refine cB (cI (Φ:=fun _ _ v w2=>cz w2 (Cv S w.heap.size []) v (dO ls)) (fun O w' r=>fM (Rel.old r hS) (cz.rel hl r hS)) ?_);rintro O w1 v1 w2 r he hw hL;rw[Dh hz]at hL;have Ph:=eA hl.lm hz;rw[hv]at Ph;replace hL:=hL.cF (S':=Cv S w.heap.size [(w1.heap.size,w2.heap.size)]) fun _ hg=>hg.cons;have hL2:=hL;obtain⟨p,rfl,hp⟩:=hL.la;have VR:(p.ls.length:Int)>0↔z≠0:=by
  have h1:=vX Ph;rw[hp];omega
 subst hp;generalize hb:decide (z<0)=b
 cases b
 all_goals
  refine cB (cI (Φ:=fun _ w' v w2=>cz w2 (Nf w' w2) v p.ls) (fun O w' r=>H3 (Rel.old r hS) (cz.rel hL2 r hS) (by omega)) ?_);rintro O w3 v3 w4 r he SR hc;replace hw:=hw.tr SR;have Sh:=hc.dD (S:=FF) r.bz (iv:=(w3.heap.size,w4.heap.size)::[(w1.heap.size,w2.heap.size)]) aG;obtain⟨a3,n3,c3,rfl⟩:=Sh.shape;intro ρ5 w5 r5;refine⟨_,rfl,hw.tr r5.cL,p.ls,⟨_,?_,(cz.rel Sh r5 (bw w)).cF fun _ hg=>Cv.nw hg r5⟩,hz,hv⟩
 ·rfl
 ·have:decide ((p.ls.length:Int)>0)=true:=bU (VR.2 (by have:=aK hb;omega));rw[<-this];rfl
theorem zx(h:eB w S v z):dx PG N.mI #[v] w (eH w fun v' _=>v'= .int .i64 z.sign):=by
 obtain⟨nv,rfl,hn⟩:=h;obtain⟨p,rfl,Qh,QR⟩:=hn.la;have Ph:=eA p.lm QR;rw[Qh]at Ph;have VR:=vX Ph;generalize hb:decide (z<0)=b;refine pt (by simp) ?_;refine dB.mk ?_ ?_<;>intro h
 ·have h:p.ls.length=0:=by have:=eq_of_beq h;omega
  have hz:z=0:=by omega
  subst hz;intro O w2 r;exact⟨_,rfl,r.cL,rfl⟩
 ·have h:p.ls.length≠0:=fun e=>by rw[e]at h;simp at h
  have hz:z≠0:=by omega
  cases b
  ·have:=aH hb;intro O w2 r;exact⟨_,rfl,r.cL,by rw[bh (by omega)];rfl⟩
  ·have:=aK hb;intro O w2 r;exact⟨_,rfl,r.cL,by rw[bg (by omega)];rfl⟩
theorem oT(hS:Old S w)(h:eB w S v z):dx PG N.lL #[v] w (eH w fun v' w2=>eB w2 (Nw S w w2) v' (-z)):=by
 obtain⟨nv,rfl,hn⟩:=h;have Qf:=hn.arg [];obtain⟨p,rfl,Qh,QR⟩:=hn.la;have Ph:=eA p.lm QR;rw[Qh]at Ph;have VR:=vX Ph;have QM:(-z).natAbs=z.natAbs:=Int.natAbs_neg z;generalize hb:decide (z<0)=b;refine ot (by simp) ?_
 cases b
 ·have:=aH hb;have hd:decide ((p.ls.length:Int)>0)=decide (-z<0):=decide_eq_decide.2 (by omega);intro O w2 r;exact⟨_,rfl,r.cL,_,by rw[<-hd];rfl,by rw[QM];exact Qf.out r hS⟩
 ·have:=aK hb;have hd:decide (-z<0)=false:=bE (by omega);intro O w2 r;exact⟨_,rfl,r.cL,_,by rw[hd];rfl,by rw[QM];exact Qf.out r hS⟩
theorem eB.num(h:eB w S v z):∃a n c,v= .agg #[.bool (decide (z<0)),.slice a n c]∧dQ w S (.slice a n c) z.natAbs:=by
 obtain⟨nv,h1,h2⟩:=h;obtain⟨a,n,c,rfl⟩:=h2.shape;exact⟨a,n,c,h1,h2⟩
theorem Be(hS:Old S w)(hx:eB w S v x)(hy:eB w S u y)(Pt:ln x.natAbs<=100000000000)(Q3:ln y.natAbs<=100000000000):
  dx PG N.mO #[v,u] w (eH w fun v' w2=>eB w2 (Nf w w2) v' (x+y)):=by
 obtain⟨nx,rfl,RQ⟩:=hx;obtain⟨ny,rfl,St⟩:=hy;obtain⟨ax,lx,cx,rfl⟩:=RQ.shape;obtain⟨ay,ly,cy,rfl⟩:=St.shape;replace RQ:=RQ.arg [];replace St:=St.arg [];generalize Vt:decide (x<0)=bx;generalize Oq:decide (y<0)=b2;refine qC (by simp) ?_;have RW:bx=b2->(x+y).natAbs=x.natAbs+y.natAbs∧decide (x+y<0)=bx:=fun e=>by
  cases bx<;>subst e
  ·have h1:=aH Vt;have h2:=aH Oq;exact⟨by omega,bE (by omega)⟩
  ·have h1:=aK Vt;have h2:=aK Oq;exact⟨by omega,bU (by omega)⟩
 have Uu:bx≠b2->y.natAbs<=x.natAbs->(x+y).natAbs=x.natAbs-y.natAbs∧(decide (x+y<0)=(bx&&decide (x.natAbs-y.natAbs≠0))):=fun e h=>by
  cases bx
  ·have h1:=aH Vt
   cases b2
   ·exact absurd rfl e
   have h2:=aK Oq;exact⟨by omega,by rw[Bool.false_and];exact bE (by omega)⟩
  ·have h1:=aK Vt
   cases b2
   ·have h2:=aH Oq;exact⟨by omega,by rw[Bool.true_and];exact decide_eq_decide.2 (by omega)⟩
   ·exact absurd rfl e
 have TP:bx≠b2->x.natAbs<y.natAbs->(x+y).natAbs=y.natAbs-x.natAbs∧decide (x+y<0)=b2:=fun e h=>by
  cases bx
  ·have h1:=aH Vt
   cases b2
   ·exact absurd rfl e
   have h2:=aK Oq;exact⟨by omega,bU (by omega)⟩
  ·have h1:=aK Vt
   cases b2
   ·have h2:=aH Oq;exact⟨by omega,bE (by omega)⟩
   ·exact absurd rfl e
 by_cases Og:bx=b2
 ·obtain⟨h1,h2⟩:=RW Og;subst Og
  cases bx
  all_goals
   refine cH hτ dN [.x 0,.x 1,.x 2,.x 3,.x 4,.x 5,.x 6,.x 7,.x 8] (by kernel_rfl) (by kernel_rfl) ?_;refine cI (Φ:=fun _ w' v w2=>dQ w2 (Nf w' w2) v (x.natAbs+y.natAbs)) (fun O w' r=>Nk (Rel.old r hS) (RQ.rel r hS) (St.rel r hS) (by omega) (by omega)) ?_;rintro O w3 v3 w4 r he hw hn;have hN:=hn.dD (S:=FF) r.bz (iv:=(w3.heap.size,w4.heap.size)::[]) aG;obtain⟨a3,n3,c3,rfl⟩:=hN.shape;intro ρ5 w5 r5;exact⟨_,rfl,hw.tr r5.cL,_,by rw[h2];rfl,by rw[h1];exact hN.out r5 (bw w)⟩
 ·replace Uu:=Uu Og;replace TP:=TP Og;have hcmp:∀d:Int,d=s3 x.natAbs y.natAbs->(0<=d↔y.natAbs<=x.natAbs):=fun d e=>by
   rw[e];unfold s3;split
   ·omega
   ·split<;>omega
  cases bx<;>cases b2<;>first|exact absurd rfl Og|skip
  all_goals
   refine cB (cI (Φ:=fun _ _ v _=>v= .int .i64 (s3 x.natAbs y.natAbs)) (fun O w' r=>Kd (Rel.old r hS) (RQ.rel r hS) (St.rel r hS)) ?_);rintro O w1 v1 w2 r he hw rfl;replace RQ:=RQ.cD (iv':=[(w1.heap.size,w2.heap.size)]) r hS he fun x hx=>aC _ hx;replace St:=St.cD (iv':=[(w1.heap.size,w2.heap.size)]) r hS he fun x hx=>aC _ hx;refine dB.mk ?_ ?_<;>intro h
   ·have h:=(hcmp _ rfl).1 (aK h);obtain⟨h1,h2⟩:=Uu h;refine cB (cI (Φ:=fun _ w' v w2=>dQ w2 (Nf w' w2) v (x.natAbs-y.natAbs)) (fun O w' r=>Ck (Rel.old r hS) (RQ.rel r hS) (St.rel r hS) h (by omega)) ?_);rintro O w3 v3 w4 r he SR hn;replace hw:=hw.tr SR;have hN:=hn.dD (S:=FF) r.bz (iv:=(w3.heap.size,w4.heap.size)::[(w1.heap.size,w2.heap.size)]) aG;have hN2:=hN;obtain⟨p,rfl,Qh,QR⟩:=hN.la;have Ph:=eA p.lm QR;rw[Qh]at Ph;have VR:=vX Ph;have hd:decide ((p.ls.length:Int)>0)=decide (x.natAbs-y.natAbs≠0):=decide_eq_decide.2 (by omega);intro ρ5 w5 r5;exact⟨_,rfl,hw.tr r5.cL,_,by rw[h2,<-hd];rfl,by rw[h1];exact hN2.out r5 (bw w)⟩
   ·have h:x.natAbs<y.natAbs:=by
     have h0:=aH h;have:=hcmp _ rfl;omega
    obtain⟨h1,h2⟩:=TP h;refine cH hτ dN [.x 0,.x 1,.x 2,.x 3,.x 4,.x 5,.x 6,.x 7,.x 8] (by kernel_rfl) (by kernel_rfl) ?_;refine cI (Φ:=fun _ w' v w2=>dQ w2 (Nf w' w2) v (y.natAbs-x.natAbs)) (fun O w' r=>Ck (Rel.old r hS) (St.rel r hS) (RQ.rel r hS) (by omega) (by omega)) ?_;rintro O w3 v3 w4 r he SR hn;replace hw:=hw.tr SR;have hN:=hn.dD (S:=FF) r.bz (iv:=(w3.heap.size,w4.heap.size)::[(w1.heap.size,w2.heap.size)]) aG;obtain⟨a3,n3,c3,rfl⟩:=hN.shape;intro ρ5 w5 r5;exact⟨_,rfl,hw.tr r5.cL,_,by rw[h2];rfl,by rw[h1];exact hN.out r5 (bw w)⟩
theorem iE(hS:Old S w)(hx:eB w S v x)(hy:eB w S u y)(Pt:ln x.natAbs<=100000000000)(Q3:ln y.natAbs<=100000000000):
  dx PG N.lK #[v,u] w (eH w fun v' w2=>eB w2 (Nf w w2) v' (x*y)):=by
 obtain⟨nx,rfl,RQ⟩:=hx;obtain⟨ny,rfl,St⟩:=hy;obtain⟨ax,lx,cx,rfl⟩:=RQ.shape;obtain⟨ay,ly,cy,rfl⟩:=St.shape;replace RQ:=RQ.arg [];replace St:=St.arg [];have QM:=Int.natAbs_mul x y;have RB:decide (x*y<0)=((decide (x<0) != decide (y<0))&&decide (x.natAbs*y.natAbs≠0)):=by
  by_cases h0:x*y=0
  ·rw[<-QM,h0];simp
  ·have Rh:x≠0:=fun e=>h0 (by rw[e,Int.zero_mul]);have Pg:y≠0:=fun e=>h0 (by rw[e,Int.mul_zero]);rw[<-QM,bU (show (x*y).natAbs≠0 by omega),Bool.and_true];by_cases h1:x<0<;>by_cases h2:y<0
   ·rw[bU h1,bU h2];exact bE (by have:=Int.mul_pos_of_neg_of_neg h1 h2;omega)
   ·rw[bU h1,bE h2];exact bU (Int.mul_neg_of_neg_of_pos h1 (by omega))
   ·rw[bE h1,bU h2];exact bU (Int.mul_neg_of_pos_of_neg (by omega) h2)
   ·rw[bE h1,bE h2];exact bE (by have:=Int.mul_nonneg (show 0<=x by omega) (show 0<=y by omega);omega)
 generalize decide (x<0)=bx at*
 generalize decide (y<0)=b2 at*
 refine oq (by simp) ?_;refine cB (cI (Φ:=fun _ w' v w2=>dQ w2 (Nf w' w2) v (x.natAbs*y.natAbs)) (fun O w' r=>H6 (Rel.old r hS) (RQ.rel r hS) (St.rel r hS) (by omega) (by omega)) ?_);rintro O w3 v3 w4 r he hw hn;have hN:=hn.dD (S:=FF) r.bz (iv:=(w3.heap.size,w4.heap.size)::[]) aG;have hN2:=hN;obtain⟨p,rfl,Qh,QR⟩:=hN.la;have Ph:=eA p.lm QR;rw[Qh]at Ph;have VR:=vX Ph;have hd:decide ((p.ls.length:Int)>0)=decide (x.natAbs*y.natAbs≠0):=decide_eq_decide.2 (by omega)
 cases bx<;>cases b2
 all_goals
  intro ρ5 w5 r5;exact⟨_,rfl,hw.tr r5.cL,_,by rw[RB,<-hd];rfl,by rw[QM];exact hN2.out r5 (bw w)⟩
theorem Kx(hS:Old S w)(hx:eB w S v x)(hy:eB w S u y)(Pt:ln x.natAbs<=100000000000)(Q3:ln y.natAbs<=100000000000):
  dx PG N.nC #[v,u] w (eH w fun v' _=>v'= .int .i64 (x-y).sign):=by
 have hxN:eB w (Cv S w.heap.size []) v x:=hx.cF fun _ h=>.inl h;have hyN:eB w (Cv S w.heap.size []) u y:=hy.cF fun _ h=>.inl h;obtain⟨nx,rfl,RQ⟩:=hx;obtain⟨ny,rfl,St⟩:=hy;obtain⟨ax,lx,cx,rfl⟩:=RQ.shape;obtain⟨ay,ly,cy,rfl⟩:=St.shape;refine rI (by simp) ?_;refine cH hτ dN [.x 0,.x 1,.x 2,.x 3,.x 4,.x 5] (by kernel_rfl) (by kernel_rfl) ?_;refine cI (Φ:=fun _ w' v w2=>eB w2 (Nw (Cv S w.heap.size []) w' w2) v (-y)) (fun O w' r=>oT (Rel.old r hS) (hyN.rel r hS)) ?_;rintro O w1 v1 w2 r he hw hm;have UB:eB w2 (Cv S w.heap.size [(w1.heap.size,w2.heap.size)]) v1 (-y):=hm.cF fun _ hg=>Nw.cv hg r.bz;replace hxN:=hxN.cD (iv':=[(w1.heap.size,w2.heap.size)]) r hS he fun x hx=>aC _ hx;generalize [(w1.heap.size,w2.heap.size)]=iv at*
 have hmN2:=UB;obtain⟨am,lm,cm,rfl,-⟩:=UB.num;refine cI (Φ:=fun _ w' v w2=>eB w2 (Nf w' w2) v (x+ -y)) (fun O w' r=>Be (Rel.old r hS) (hxN.rel r hS) (hmN2.rel r hS) Pt (by rw[Int.natAbs_neg];exact Q3)) ?_;rintro O w3 v3 w4 r he SR hp;replace hw:=hw.tr SR;have hpN:=hp.dD (S:=S) r.bz (iv:=(w3.heap.size,w4.heap.size)::iv) aG;have hpN2:=hpN;obtain⟨ap,lp,cp,rfl,-⟩:=hpN.num;refine cI (Φ:=fun _ _ v _=>v= .int .i64 (x-y).sign) (fun O w' r=>zx (hpN2.rel r hS)) ?_;rintro O w5 v5 w6 r he Tb rfl;replace hw:=hw.tr Tb;intro ρ7 w7 r7;exact⟨_,rfl,hw.tr r7.cL,rfl⟩
theorem oV(n:Int)(w:World)(h1: -9223372036854775808<=n)(h2:n<=9223372036854775807):
  dx PG N.wR #[.int .i64 n] w (eH w fun v' w2=>eB w2 (Nf w w2) v' n):=by
 have key:∀(m:Nat),m=n.natAbs->m<18446744073709551616∧val [m % 4294967296,m / 4294967296]=n.natAbs∧m / 4294967296<4294967296:=fun m e=>by
  refine⟨by omega,?_,by omega⟩;simp only[val]
  omega
 refine z4 (by simp) ?_;refine⟨if n<0 then n+18446744073709551616 else n,by show n % 18446744073709551616=_;split<;>omega,?_⟩;refine dB.mk ?_ ?_<;>intro h
 ·have h:=aK h;rw[if_pos h];obtain⟨m,hm⟩:∃m,m=n.natAbs:=⟨_,rfl⟩
  obtain⟨k1,k2,k3⟩:=key m hm;refine⟨(m:Int),by show(0-(n+18446744073709551616)) % 18446744073709551616=_;omega,((m % 4294967296:Nat):Int),fF m,by decide,((m / 2^32:Nat):Int),lW 32 (by decide),((m / 4294967296:Nat):Int),by rw[fF,bI (by omega)],?_⟩;refine gO (Φ:=fun O _ v w2=>cz w2 (fun g=>g=(O 1).g) v (dO [m % 4294967296,m / 4294967296])) (H':=[(0,.box T.number [.v (.bool false),.v (.slice none 0 0)])]) 1 rfl (by simp) ⟨rfl,trivial⟩ rfl (fun O w' r=>r.nn 1 _ rfl (by intros;simp) (by simp)) (fun O w' r=>?_) ?_
  ·have hL:=r.uJ (id:=1) (ls:=[m % 4294967296,m / 4294967296]) rfl (by intro x hx;simp at hx;omega) (by simp);exact fM (fun g hg=>by rw[hg];exact(r.low 1 _ rfl (r.nn 1 _ rfl (by intros;simp) (by simp))).2) hL
  rintro O w1 v1 w2 r he hw hL;have Od:=r.low 1 _ rfl (r.nn 1 _ rfl (by intros;simp) (by simp));have hs:=he.size;generalize (O 1).g=g0 at*
  have hN:dQ w2 (Cf w [(g0,g0+1),(w1.heap.size,w2.heap.size)]) v1 n.natAbs:=by
   have:=hL.trimmed;rw[k2]at this;exact this.cF fun k hk=>.inr ⟨by omega,g0,g0+1,by simp,by omega,by omega⟩
  generalize [(g0,g0+1),(w1.heap.size,w2.heap.size)]=iv at*
  obtain⟨a3,n3,c3,rfl⟩:=hN.shape;intro ρ5 w5 r5;exact⟨_,rfl,hw.tr r5.cL,_,rfl,hN.out r5 (bw w)⟩
 ·have h:=aH h;rw[aI h];obtain⟨m,hm⟩:∃m,m=n.natAbs:=⟨_,rfl⟩
  obtain⟨k1,k2,k3⟩:=key m hm;have RV:n=(m:Int):=by omega
  refine⟨((m % 4294967296:Nat):Int),by rw[RV];exact fF m,by decide,((m / 2^32:Nat):Int),by rw[RV];exact lW 32 (by decide),((m / 4294967296:Nat):Int),by rw[fF,bI (by omega)],?_⟩;refine gO (Φ:=fun O _ v w2=>cz w2 (fun g=>g=(O 1).g) v (dO [m % 4294967296,m / 4294967296])) (H':=[(0,.box T.number [.v (.bool false),.v (.slice none 0 0)])]) 1 rfl (by simp) ⟨rfl,trivial⟩ rfl (fun O w' r=>r.nn 1 _ rfl (by intros;simp) (by simp)) (fun O w' r=>?_) ?_
  ·have hL:=r.uJ (id:=1) (ls:=[m % 4294967296,m / 4294967296]) rfl (by intro x hx;simp at hx;omega) (by simp);exact fM (fun g hg=>by rw[hg];exact(r.low 1 _ rfl (r.nn 1 _ rfl (by intros;simp) (by simp))).2) hL
  rintro O w1 v1 w2 r he hw hL;have Od:=r.low 1 _ rfl (r.nn 1 _ rfl (by intros;simp) (by simp));have hs:=he.size;generalize (O 1).g=g0 at*
  have hN:dQ w2 (Cf w [(g0,g0+1),(w1.heap.size,w2.heap.size)]) v1 n.natAbs:=by
   have:=hL.trimmed;rw[k2]at this;exact this.cF fun k hk=>.inr ⟨by omega,g0,g0+1,by simp,by omega,by omega⟩
  generalize [(g0,g0+1),(w1.heap.size,w2.heap.size)]=iv at*
  obtain⟨a3,n3,c3,rfl⟩:=hN.shape;intro ρ5 w5 r5;exact⟨_,rfl,hw.tr r5.cL,_,rfl,hN.out r5 (bw w)⟩
def j5(w:World)(S:Nat->Prop)(v:Value)(z:Int):Prop:=∃neg ls,uR w S v neg ls∧sg neg (val ls)=z
def cu(w:World)(S:Nat->Prop)(v:Value)(z:Int):Prop:=∃ls,uR w S v (decide (z<0)) ls∧Nz ls∧val ls=z.natAbs
theorem Bf(z:Int):sg (decide (z<0)) z.natAbs=z:=by
 by_cases h:z<0
 ·rw[bU h,Ku];omega
 ·rw[bE h,Nj];omega
theorem cu.r(h:cu w S v z):j5 w S v z:=by
 obtain⟨ls,h1,h2,h3⟩:=h;exact⟨_,ls,h1,by rw[h3,Bf]⟩
section
variable{S S':Nat->Prop}{H:Hp}{nx:Nat}{iv iv':Iv}{B:Nat}{w w' w2:World}{O:Nat->Sx.dL}{v:Value}{z:Int}{neg:Bool}{ls:List Nat}
theorem uR.cC(h:uR w S v neg ls)(hk:∀g,S g->w2.heap[g]? =w.heap[g]?):uR w2 S v neg ls:=by
 obtain⟨lv,h1,h2⟩:=h;exact⟨lv,h1,h2.cC hk⟩
theorem uR.cF(h:uR w S v neg ls)(hk:∀g,S g->S' g):uR w S' v neg ls:=by
 obtain⟨lv,h1,h2⟩:=h;exact⟨lv,h1,h2.cF hk⟩
theorem j5.cC(h:j5 w S v z)(hk:∀g,S g->w2.heap[g]? =w.heap[g]?):j5 w2 S v z:=by
 obtain⟨n,l,h1,h2⟩:=h;exact⟨n,l,h1.cC hk,h2⟩
theorem j5.cF(h:j5 w S v z)(hk:∀g,S g->S' g):j5 w S' v z:=by
 obtain⟨n,l,h1,h2⟩:=h;exact⟨n,l,h1.cF hk,h2⟩
theorem cu.cC(h:cu w S v z)(hk:∀g,S g->w2.heap[g]? =w.heap[g]?):cu w2 S v z:=by
 obtain⟨l,h1,h2⟩:=h;exact⟨l,h1.cC hk,h2⟩
theorem cu.cF(h:cu w S v z)(hk:∀g,S g->S' g):cu w S' v z:=by
 obtain⟨l,h1,h2⟩:=h;exact⟨l,h1.cF hk,h2⟩
theorem j5.rel(h:j5 w (Cv S B iv) v z)(r:Rel H nx iv B w O w')(hS:∀g,S g->g<B):j5 w' (Cv S B iv) v z:=h.cC fun _ hg=>Rel.same r hS hg
theorem cu.rel(h:cu w (Cv S B iv) v z)(r:Rel H nx iv B w O w')(hS:∀g,S g->g<B):cu w' (Cv S B iv) v z:=h.cC fun _ hg=>Rel.same r hS hg
theorem j5.cD(h:j5 w (Cv S B iv) v z)(r:Rel H nx iv B w O w')(hS:∀g,S g->g<B)(he:Ext w' w2)(hm:∀p,p∈iv->p∈iv'):j5 w2 (Cv S B iv') v z:=
 ((h.rel r hS).cC fun g hg=>he.block g (Rel.old r hS g hg)).cF fun _ hg=>hg.mono hm
theorem cu.cD(h:cu w (Cv S B iv) v z)(r:Rel H nx iv B w O w')(hS:∀g,S g->g<B)(he:Ext w' w2)(hm:∀p,p∈iv->p∈iv'):cu w2 (Cv S B iv') v z:=
 ((h.rel r hS).cC fun g hg=>he.block g (Rel.old r hS g hg)).cF fun _ hg=>hg.mono hm
theorem cu.dD(h:cu w2 (Nf w' w2) v z)(hB:B<=w'.heap.size)(hm:(w'.heap.size,w2.heap.size)∈iv):cu w2 (Cv S B iv) v z:=h.cF fun _ hg=>hg.dD hB hm
theorem j5.shape(h:j5 w S v z):∃b a n c,v= .agg #[.bool b,.slice a n c]:=by
 obtain⟨b,l,⟨lv,h1,h2⟩,_⟩:=h;obtain⟨a,n,c,rfl⟩:=h2.shape;exact⟨b,a,n,c,h1⟩
theorem eB.old(h:eB w2 (Nw (Cv S B iv) w' w2) v z)(hB:B<=w'.heap.size):eB w2 (Cv S B ((w'.heap.size,w2.heap.size)::iv)) v z:=h.cF fun _ hg=>Nw.cv hg hB
end
theorem cu.out(h:cu w1 (Cv S w.heap.size iv) v z)(r:Rel H nx iv w.heap.size w1 O w')(hS:Old S w):cu w' (Nw S w w') v z:=
 (h.rel r hS).cF fun _ hg=>Cv.nw hg r
theorem Ky(hS:Old S w)(h:j5 w S v z):dx PG N.zM #[v] w (eH w fun v' w2=>eB w2 (Nw S w w2) v' z):=by
 obtain⟨n,l,h1,rfl⟩:=h;exact aAY hS h1
theorem eB.shape(h:eB w S v z):∃b a n c,v= .agg #[.bool b,.slice a n c]:=by
 obtain⟨a,n,c,h1,_⟩:=h.num;exact⟨_,a,n,c,h1⟩
theorem cu.shape(h:cu w S v z):∃b a n c,v= .agg #[.bool b,.slice a n c]:=h.r.shape
theorem cX(x y:Int):ln (x*y).natAbs<=ln x.natAbs+ln y.natAbs:=by
 rw[Int.natAbs_mul];exact NL _ _
end Go.Ex
namespace Go.Ex
open Go Go.Sx
theorem yc{x y:Int}(hy:0<y)(hx:x≠0):
  (Rat.divInt x y).num.natAbs=x.natAbs / Nat.gcd x.natAbs y.natAbs∧(Rat.divInt x y).den=y.natAbs / Nat.gcd x.natAbs y.natAbs∧decide ((Rat.divInt x y).num<0)=decide (x<0):=by
 have hg:0<Nat.gcd x.natAbs y.natAbs:=bl _ (by omega);have hs:y.sign=1:=bh hy;have hc:(y.gcd x:Int)=(Nat.gcd x.natAbs y.natAbs:Nat):=by rw[Int.gcd_comm];rfl
 have hdx:((Nat.gcd x.natAbs y.natAbs:Nat):Int) ∣ x:=by
  rw[<-Int.natAbs_dvd_natAbs];exact Nat.gcd_dvd_left _ _
 have h1:(Rat.divInt x y).num=x / ((Nat.gcd x.natAbs y.natAbs:Nat):Int):=by
  rw[Rat.num_divInt,hs,Int.one_mul,hc]
 have Ve:0<((Nat.gcd x.natAbs y.natAbs:Nat):Int):=by omega
 refine⟨?_,?_,?_⟩
 ·rw[h1,Int.natAbs_ediv_of_dvd hdx];rfl
 ·rw[Rat.den_divInt,aI (by omega)];have:y.gcd x=Nat.gcd x.natAbs y.natAbs:=by rw[Int.gcd_comm];rfl
  rw[this]
 ·rw[h1];obtain⟨k,hk⟩:=hdx;refine decide_eq_decide.2 ?_;have:x / ((Nat.gcd x.natAbs y.natAbs:Nat):Int)=k:=by
   conv=>lhs;lhs;rw[hk]
   exact Int.mul_ediv_cancel_left _ (by omega)
  rw[this];generalize ((Nat.gcd x.natAbs y.natAbs:Nat):Int)=g at*
  subst hk;constructor
  ·intro h;exact Int.mul_neg_of_pos_of_neg Ve h
  ·intro h;have h0:¬0<=k:=fun hh=>by have:=Int.mul_nonneg (show 0<=g by omega) hh;omega
   omega
theorem IQ{a b:Nat}:ln (a / b)<=ln a:=fI (Nat.div_le_self a b)
theorem yd(y:Int):Rat.divInt 0 y=0:=Rat.zero_divInt y
end Go.Ex
namespace Go.Ex
open Go Go.Sx Go.Proofs
variable{b b2:Bool}{S:Nat->Prop}{q:Rat}{dv nv v:Value}{w:World}
theorem dQ.old{B:Nat}{iv:Iv}{w' w2:World}{n:Nat}(h:dQ w2 (Nw (Cv S B iv) w' w2) v n)(hB:B<=w'.heap.size):dQ w2 (Cv S B ((w'.heap.size,w2.heap.size)::iv)) v n:=h.cF fun _ hg=>Nw.cv hg hB
def cP(w:World)(S:Nat->Prop)(v:Value)(q:Rat):Prop:=∃nv dv,v= .agg #[.bool (decide (q.num<0)),nv,.bool false,dv]∧dQ w S nv q.num.natAbs∧dQ w S dv q.den
theorem cP.cC{w2:World}(h:cP w S v q)(hk:∀g,S g->w2.heap[g]? =w.heap[g]?):cP w2 S v q:=by
 obtain⟨n,d,h1,h2,h3⟩:=h;exact⟨n,d,h1,h2.cC hk,h3.cC hk⟩
theorem cP.cF{S':Nat->Prop}(h:cP w S v q)(hk:∀g,S g->S' g):cP w S' v q:=by
 obtain⟨n,d,h1,h2,h3⟩:=h;exact⟨n,d,h1,h2.cF hk,h3.cF hk⟩
theorem cP.shape(h:cP w S v q):∃b a n c b2 a2 n2 c2,v= .agg #[.bool b,.slice a n c,.bool b2,.slice a2 n2 c2]:=by
 obtain⟨n,d,h1,h2,h3⟩:=h;obtain⟨a,n,c,rfl⟩:=h2.shape;obtain⟨a2,n2,c2,rfl⟩:=h3.shape;exact⟨_,a,n,c,_,a2,n2,c2,h1⟩
theorem cP.num(h:cP w S (.agg #[.bool b,nv,.bool b2,dv]) q):eB w S (.agg #[.bool b,nv]) q.num:=by
 obtain⟨n,d,h1,h2,h3⟩:=h;simp at h1;obtain⟨rfl,rfl,rfl,rfl⟩:=h1;exact⟨_,rfl,h2⟩
theorem cP.den(h:cP w S (.agg #[.bool b,nv,.bool b2,dv]) q):eB w S (.agg #[.bool b2,dv]) (q.den:Int):=by
 obtain⟨n,d,h1,h2,h3⟩:=h;simp at h1;obtain⟨rfl,rfl,rfl,rfl⟩:=h1;exact⟨_,by rw[bE (by omega)],h3⟩
theorem cP.of(h:eB w S (.agg #[.bool b,nv]) q.num)(k:eB w S (.agg #[.bool b2,dv]) (q.den:Int)):cP w S (.agg #[.bool b,nv,.bool b2,dv]) q:=by
 obtain⟨n,h1,h2⟩:=h;obtain⟨d,h3,h4⟩:=k;simp at h1 h3;obtain⟨rfl,rfl⟩:=h1;obtain⟨rfl,rfl⟩:=h3;refine⟨_,_,?_,h2,h4⟩;rw[bE (show ¬((q.den:Int)<0) by omega)]
section
variable{S S':Nat->Prop}{H:Hp}{nx:Nat}{iv iv':Iv}{B:Nat}{w w' w2:World}{O:Nat->Sx.dL}{v:Value}{q:Rat}
theorem cP.rel(h:cP w (Cv S B iv) v q)(r:Rel H nx iv B w O w')(hS:∀g,S g->g<B):cP w' (Cv S B iv) v q:=h.cC fun _ hg=>Rel.same r hS hg
theorem cP.cD(h:cP w (Cv S B iv) v q)(r:Rel H nx iv B w O w')(hS:∀g,S g->g<B)(he:Ext w' w2)(hm:∀p,p∈iv->p∈iv'):cP w2 (Cv S B iv') v q:=
 ((h.rel r hS).cC fun g hg=>he.block g (Rel.old r hS g hg)).cF fun _ hg=>hg.mono hm
theorem cP.dD(h:cP w2 (Nf w' w2) v q)(hB:B<=w'.heap.size)(hm:(w'.heap.size,w2.heap.size)∈iv):cP w2 (Cv S B iv) v q:=h.cF fun _ hg=>hg.dD hB hm
theorem cP.old(h:cP w2 (Nw (Cv S B iv) w' w2) v q)(hB:B<=w'.heap.size):cP w2 (Cv S B ((w'.heap.size,w2.heap.size)::iv)) v q:=h.cF fun _ hg=>Nw.cv hg hB
theorem cP.out{w0 w1:World}(h:cP w1 (Cv S w0.heap.size iv) v q)(r:Rel H nx iv w0.heap.size w1 O w')(hS:Old S w0):cP w' (Nw S w0 w') v q:=
 (h.rel r hS).cF fun _ hg=>Cv.nw hg r
theorem cP.arg(h:cP w S v q)(iv:Iv):cP w (Cv S w.heap.size iv) v q:=h.cF fun _ h=>.inl h
end
theorem eB.nat{z:Int}(h:eB w S (.agg #[.bool b,nv]) z):b=decide (z<0)∧dQ w S nv z.natAbs:=by
 obtain⟨n,h1,h2⟩:=h;simp at h1;obtain⟨rfl,rfl⟩:=h1;exact⟨rfl,h2⟩
theorem vY{u:Value}{x y:Int}(hS:Old S w)(hx:eB w S v x)(hy:eB w S u y)(Pg:y≠0)(Pt:ln x.natAbs<=100000000000)(Q3:ln y.natAbs<=100000000000):
  dx PG N.zJ #[v,u] w (eH w fun v' w2=>cP w2 (Nf w w2) v' (Rat.divInt x y)):=by
 have hw:=bR w;replace hx:=hx.cF (S':=Cv S w.heap.size []) fun _ h=>.inl h;replace hy:=hy.cF (S':=Cv S w.heap.size []) fun _ h=>.inl h;obtain⟨bx,ax,lx,cx,rfl⟩:=hx.shape;obtain⟨b2,ay,ly,cy,rfl⟩:=hy.shape;have Qn:=hy.nat.1;refine Aa (by simp) ?_
 cases b2
 ·have hyp:0<y:=by have:=aH Qn.symm;omega
  have hq:Rat.divInt x y=Rat.divInt x y:=rfl;have hbA:=hx.nat.1;refine cB (cE hw (fun _ w' v w2=>v= .int .i64 (x).sign) (fun O w' r=>zx (hx.rel r hS)) ?_);rintro O PV v1 PL OZ r he hw h_ rfl;replace hx:=hx.cD r hS he (mC h_);replace hy:=hy.cD r hS he (mC h_);refine dB.mk ?_ ?_<;>intro h
  ·have h:x=0:=bu.1 (eq_of_beq h);refine cB (cE hw (fun _ w' v w2=>eB w2 (Nf w' w2) v 1) (fun O w' r=>oV 1 w' (by decide) (by decide)) ?_);rintro O QK v2 PR OU r he hw h_ hn;have hO:=hn.dD (S:=FF) r.bz (mN h_);obtain⟨A0,A1,A2,A3,rfl⟩:=hO.shape;have e0:Rat.divInt x y=0:=by rw[hq,h,yd]
   exact rtn hw fun ρe we re=>by rw[e0];exact cP.of ⟨_,rfl,dQ.nil _ _⟩ (hO.out re (bw w))
  ·have h:x≠0:=fun e=>by rw[e]at h;exact absurd h (by decide)
   obtain⟨g1,g2,g3⟩:=yc hyp h;have Sv:0<Nat.gcd (x).natAbs (y).natAbs:=bl _ (by omega);have Vx:=hx.nat.2;have UG:=hy.nat.2;refine cB (cI (Φ:=fun _ w' v w2=>dQ w2 (Nw (Cv S w.heap.size OZ) w' w2) v (Nat.gcd (x).natAbs (y).natAbs)) (fun O w' r=>El (Rel.old r hS) (Vx.rel r hS) (UG.rel r hS) (by omega) (by omega)) ?_);rintro O QK v2 PR r he hb hn;replace hw:=hw.tr hb;replace Vx:=Vx.cD (iv':=(QK.heap.size,PR.heap.size)::OZ) r hS he fun x hx=>aC _ hx;replace UG:=UG.cD (iv':=(QK.heap.size,PR.heap.size)::OZ) r hS he fun x hx=>aC _ hx;have hG:=hn.old r.bz;generalize (QK.heap.size,PR.heap.size)::OZ=OU at*
   obtain⟨A0,A1,A2,rfl⟩:=hG.shape;refine cB (cI (Φ:=fun _ w' v w2=>∃q r,v= .tuple #[q,r]∧dQ w2 (Nf w' w2) q ((x).natAbs / Nat.gcd (x).natAbs (y).natAbs)∧dQ w2 (Nw (Cv S w.heap.size OU) w' w2) r ((x).natAbs % Nat.gcd (x).natAbs (y).natAbs)) (fun O w' r=>qI (Rel.old r hS) (Vx.rel r hS) (hG.rel r hS) Sv (by omega)) ?_);rintro O PX v3 PW r he hb ⟨qvp,rvp,rfl,RO,Td⟩;replace hw:=hw.tr hb;replace UG:=UG.cD (iv':=(PX.heap.size,PW.heap.size)::OU) r hS he fun x hx=>aC _ hx;replace hG:=hG.cD (iv':=(PX.heap.size,PW.heap.size)::OU) r hS he fun x hx=>aC _ hx;have hP:=RO.dD (S:=FF) r.bz (iv:=(PX.heap.size,PW.heap.size)::OU) aG;have hPr:=Td.old r.bz;generalize (PX.heap.size,PW.heap.size)::OU=Oi at*
   obtain⟨s3_0a,s3_0b,s3_0c,rfl⟩:=hP.shape;obtain⟨s3_1a,s3_1b,s3_1c,rfl⟩:=hPr.shape;refine cB (cI (Φ:=fun _ w' v w2=>∃q r,v= .tuple #[q,r]∧dQ w2 (Nf w' w2) q ((y).natAbs / Nat.gcd (x).natAbs (y).natAbs)∧dQ w2 (Nw (Cv S w.heap.size Oi) w' w2) r ((y).natAbs % Nat.gcd (x).natAbs (y).natAbs)) (fun O w' r=>qI (Rel.old r hS) (UG.rel r hS) (hG.rel r hS) Sv (by omega)) ?_);rintro O Qu v4 Q9 r he hb ⟨qvq,rvq,rfl,RO,Td⟩;replace hw:=hw.tr hb;replace hP:=hP.cD (iv':=(Qu.heap.size,Q9.heap.size)::Oi) r (bw w) he fun x hx=>aC _ hx;have hQ:=RO.dD (S:=FF) r.bz (iv:=(Qu.heap.size,Q9.heap.size)::Oi) aG;have hQr:=Td.old r.bz;generalize (Qu.heap.size,Q9.heap.size)::Oi=Ow at*
   obtain⟨s4_0a,s4_0b,s4_0c,rfl⟩:=hQ.shape;obtain⟨s4_1a,s4_1b,s4_1c,rfl⟩:=hQr.shape;exact rtn hw fun ρe we re=>by rw[hq];exact cP.of ⟨_,by rw[g3,<-hbA],by rw[g1];exact hP.out re (bw w)⟩ ⟨_,by rw[bE (by omega)],by rw[g2];exact hQ.out re (bw w)⟩
 ·have hyp:0< -y:=by have:=aK Qn.symm;omega
  have hq:Rat.divInt x y=Rat.divInt (-x) (-y):=(Rat.neg_divInt_neg _ _).symm;have nx:=Int.natAbs_neg x;have ny:=Int.natAbs_neg y;have hlx2:ln (-x).natAbs<=100000000000:=by rw[nx];exact Pt
  have hly2:ln (-y).natAbs<=100000000000:=by rw[ny];exact Q3
  refine cH hτ dN [.x 0,.x 2,.x 1,.x 3,.x 4,.x 5] (by kernel_rfl) (by kernel_rfl) ?_;refine cI (Φ:=fun _ w' v w2=>eB w2 (Nw (Cv S w.heap.size []) w' w2) v (-x)) (fun O w' r=>oT (Rel.old r hS) (hx.rel r hS)) ?_;rintro O PV v1 PL r he hb hn;replace hw:=hw.tr hb;replace hy:=hy.cD (iv':=(PV.heap.size,PL.heap.size)::[]) r hS he fun x hx=>aC _ hx;have hA:=hn.old r.bz;generalize (PV.heap.size,PL.heap.size)::[]=OZ at*
  obtain⟨C0,C1,C2,C3,rfl⟩:=hA.shape;refine cI (Φ:=fun _ w' v w2=>eB w2 (Nw (Cv S w.heap.size OZ) w' w2) v (-y)) (fun O w' r=>oT (Rel.old r hS) (hy.rel r hS)) ?_;rintro O QK v2 PR r he hb hn;replace hw:=hw.tr hb;replace hA:=hA.cD (iv':=(QK.heap.size,PR.heap.size)::OZ) r hS he fun x hx=>aC _ hx;have hB:=hn.old r.bz;generalize (QK.heap.size,PR.heap.size)::OZ=OU at*
  obtain⟨A0,A1,A2,A3,rfl⟩:=hB.shape;have hbA:=hA.nat.1;refine cB (cE hw (fun _ w' v w2=>v= .int .i64 (-x).sign) (fun O w' r=>zx (hA.rel r hS)) ?_);rintro O _ _ _ Oi r he hw h_ rfl;replace hA:=hA.cD r hS he (mC h_);replace hB:=hB.cD r hS he (mC h_);refine dB.mk ?_ ?_<;>intro h
  ·have h: -x=0:=bu.1 (eq_of_beq h);refine cB (cE hw (fun _ w' v w2=>eB w2 (Nf w' w2) v 1) (fun O w' r=>oV 1 w' (by decide) (by decide)) ?_);rintro O Qu v4 Q9 Ow r he hw h_ hn;have hO:=hn.dD (S:=FF) r.bz (mN h_);obtain⟨E0,E1,E2,E3,rfl⟩:=hO.shape;have e0:Rat.divInt x y=0:=by rw[hq,h,yd]
   exact rtn hw fun ρe we re=>by rw[e0];exact cP.of ⟨_,rfl,dQ.nil _ _⟩ (hO.out re (bw w))
  ·have h: -x≠0:=fun e=>by rw[e]at h;exact absurd h (by decide)
   obtain⟨g1,g2,g3⟩:=yc hyp h;have Sv:0<Nat.gcd (-x).natAbs (-y).natAbs:=bl _ (by omega);have Vx:=hA.nat.2;have UG:=hB.nat.2;refine cB (cI (Φ:=fun _ w' v w2=>dQ w2 (Nw (Cv S w.heap.size Oi) w' w2) v (Nat.gcd (-x).natAbs (-y).natAbs)) (fun O w' r=>El (Rel.old r hS) (Vx.rel r hS) (UG.rel r hS) (by omega) (by omega)) ?_);rintro O Qu v4 Q9 r he hb hn;replace hw:=hw.tr hb;replace Vx:=Vx.cD (iv':=(Qu.heap.size,Q9.heap.size)::Oi) r hS he fun x hx=>aC _ hx;replace UG:=UG.cD (iv':=(Qu.heap.size,Q9.heap.size)::Oi) r hS he fun x hx=>aC _ hx;have hG:=hn.old r.bz;generalize (Qu.heap.size,Q9.heap.size)::Oi=Ow at*
   obtain⟨E0,E1,E2,rfl⟩:=hG.shape;refine cB (cI (Φ:=fun _ w' v w2=>∃q r,v= .tuple #[q,r]∧dQ w2 (Nf w' w2) q ((-x).natAbs / Nat.gcd (-x).natAbs (-y).natAbs)∧dQ w2 (Nw (Cv S w.heap.size Ow) w' w2) r ((-x).natAbs % Nat.gcd (-x).natAbs (-y).natAbs)) (fun O w' r=>qI (Rel.old r hS) (Vx.rel r hS) (hG.rel r hS) Sv (by omega)) ?_);rintro O SX v5 Si r he hb ⟨qvp,rvp,rfl,RO,Td⟩;replace hw:=hw.tr hb;replace UG:=UG.cD (iv':=(SX.heap.size,Si.heap.size)::Ow) r hS he fun x hx=>aC _ hx;replace hG:=hG.cD (iv':=(SX.heap.size,Si.heap.size)::Ow) r hS he fun x hx=>aC _ hx;have hP:=RO.dD (S:=FF) r.bz (iv:=(SX.heap.size,Si.heap.size)::Ow) aG;have hPr:=Td.old r.bz;generalize (SX.heap.size,Si.heap.size)::Ow=QO at*
   obtain⟨s5_0a,s5_0b,s5_0c,rfl⟩:=hP.shape;obtain⟨s5_1a,s5_1b,s5_1c,rfl⟩:=hPr.shape;refine cB (cI (Φ:=fun _ w' v w2=>∃q r,v= .tuple #[q,r]∧dQ w2 (Nf w' w2) q ((-y).natAbs / Nat.gcd (-x).natAbs (-y).natAbs)∧dQ w2 (Nw (Cv S w.heap.size QO) w' w2) r ((-y).natAbs % Nat.gcd (-x).natAbs (-y).natAbs)) (fun O w' r=>qI (Rel.old r hS) (UG.rel r hS) (hG.rel r hS) Sv (by omega)) ?_);rintro O R5 v6 Ri r he hb ⟨qvq,rvq,rfl,RO,Td⟩;replace hw:=hw.tr hb;replace hP:=hP.cD (iv':=(R5.heap.size,Ri.heap.size)::QO) r (bw w) he fun x hx=>aC _ hx;have hQ:=RO.dD (S:=FF) r.bz (iv:=(R5.heap.size,Ri.heap.size)::QO) aG;have hQr:=Td.old r.bz;generalize (R5.heap.size,Ri.heap.size)::QO=R6 at*
   obtain⟨s6_0a,s6_0b,s6_0c,rfl⟩:=hQ.shape;obtain⟨s6_1a,s6_1b,s6_1c,rfl⟩:=hQr.shape;exact rtn hw fun ρe we re=>by rw[hq];exact cP.of ⟨_,by rw[g3,<-hbA],by rw[g1];exact hP.out re (bw w)⟩ ⟨_,by rw[bE (by omega)],by rw[g2];exact hQ.out re (bw w)⟩
end Go.Ex
namespace Go.Ex
open Go Go.Sx
variable{a b:Int}
def rl(q:Rat):Nat:=max (ln q.num.natAbs) (ln q.den)
theorem fu(q:Rat):ln q.num.natAbs<=rl q:=Nat.le_max_left _ _
theorem NS(q:Rat):ln q.den<=rl q:=Nat.le_max_right _ _
theorem fJ(q:Rat):ln ((q.den:Int)).natAbs<=rl q:=Nat.le_max_right _ _
theorem jr(hb:b≠0):rl (Rat.divInt a b)<=max (ln a.natAbs) (ln b.natAbs):=by
 have h1:ln (Rat.divInt a b).num.natAbs<=ln a.natAbs:=by
  rw[Rat.num_divInt];refine fI (aW (Int.natAbs_ediv_le_natAbs _ _) ?_);rw[Int.natAbs_mul,Int.natAbs_sign_of_ne_zero hb,Nat.one_mul];exact Nat.le_refl _
 have h2:ln (Rat.divInt a b).den<=ln b.natAbs:=by
  rw[Rat.den_divInt,aI hb];exact IQ
 unfold rl;omega
theorem ia(x y:Int):ln (x+y).natAbs<=max (ln x.natAbs) (ln y.natAbs)+1:=by
 have h1:=NK x.natAbs y.natAbs;have h2:=fI (show (x+y).natAbs<=x.natAbs+y.natAbs by omega);omega
theorem gR(q:Rat):(q.den:Int)≠0:=by have:=q.den_pos;omega
theorem tR(f g:Rat):f+g=Rat.divInt (f.num*g.den+g.num*f.den) (f.den*g.den):=by
 rw[<-Rat.divInt_add_divInt _ _ (gR f) (gR g),Rat.num_divInt_den,Rat.num_divInt_den]
theorem xf(f g:Rat):f*g=Rat.divInt (f.num*g.num) (f.den*g.den):=by
 rw[<-Rat.divInt_mul_divInt,Rat.num_divInt_den,Rat.num_divInt_den]
theorem HM(f g:Rat):f / g=Rat.divInt (f.num*g.den) (f.den*g.num):=by
 rw[<-Rat.divInt_mul_divInt,Rat.num_divInt_den,<-Rat.inv_def,<-bK]
theorem kQ(ha:a≠0)(hb:b≠0):a*b≠0:=Int.mul_ne_zero ha hb
theorem lC(f g:Rat):rl (f+g)<=rl f+rl g+1:=by
 have h:=jr (a:=f.num*g.den+g.num*f.den) (kQ (gR f) (gR g));rw[<-tR]at h;have h1:=ia (f.num*g.den) (g.num*f.den);have h2:=cX f.num g.den;have h3:=cX g.num f.den;have h4:=cX f.den g.den;have:=fu f;have:=fu g;have:=fJ f;have:=fJ g;omega
theorem hJ(f g:Rat):rl (f*g)<=rl f+rl g:=by
 have h:=jr (a:=f.num*g.num) (kQ (gR f) (gR g));rw[<-xf]at h;have h2:=cX f.num g.num;have h4:=cX f.den g.den;have:=fu f;have:=fu g;have:=fJ f;have:=fJ g;omega
theorem pN(f:Rat){g:Rat}(hg:g≠0):rl (f / g)<=rl f+rl g:=by
 have h:=jr (a:=f.num*g.den) (kQ (gR f) (fun e=>hg (Rat.num_eq_zero.1 e)));rw[<-HM]at h;have h2:=cX f.num g.den;have h4:=cX f.den g.num;have:=fu f;have:=fu g;have:=fJ f;have:=fJ g;omega
theorem j9(f:Rat):rl (-f)=rl f:=by unfold rl;rw[Rat.neg_num,Rat.neg_den,Int.natAbs_neg]
theorem yu(f g:Rat):rl (f-g)<=rl f+rl g+1:=by
 rw[Rat.sub_eq_add_neg];have:=lC f (-g);rw[j9]at this;exact this
def rs(q:Rat):Int:=q.num.sign
theorem tS(hb:0<b):(Rat.divInt a b).num.sign=a.sign:=by
 by_cases ha:a=0
 ·subst ha;rw[yd];rfl
 ·obtain⟨h1,-,h3⟩:=yc hb ha;have h3:=decide_eq_decide.1 h3;have h0:(Rat.divInt a b).num≠0:=fun e=>by
   have h4:=Nat.div_pos (Nat.le_of_dvd (by omega) (Nat.gcd_dvd_left a.natAbs b.natAbs)) (bl a.natAbs (n:=b.natAbs) (by omega));omega
  rcases Int.lt_or_gt_of_ne ha with h|h
  ·rw[bg h,bg (h3.2 h)]
  ·rw[bh h,bh (by omega)]
theorem MD(f g:Rat):(f.num*g.den-g.num*f.den).sign=rs (f-g):=by
 rw[rs,Rat.sub_eq_add_neg,tR,tS (Int.mul_pos (by have:=f.den_pos;omega) (by rw[Rat.neg_den];have:=g.den_pos;omega)),Rat.neg_num,Rat.neg_den,Int.neg_mul,<-Int.sub_eq_add_neg]
def ratio(a b:Int):Rat:=if b=0 then Rat.divInt a 1 else Rat.divInt a b
theorem gY(a b:Int):rl (ratio a b)<=max (ln a.natAbs) (max 1 (ln b.natAbs)):=by
 unfold ratio;split
 ·have:=jr (a:=a) (b:=1) (by decide);have h1:ln (1:Int).natAbs=1:=by decide
  rw[h1]at this;omega
 ·rename_i h;have:=jr (a:=a) h;omega
end Go.Ex
namespace Go.Ex
open Go Go.Sx Go.Proofs
variable{b b2:Bool}{x y:Int}{xs:List Value}{n sz:Nat}{S S':Nat->Prop}{f g q:Rat}{dv nv u v:Value}{w w2:World}
def iD(w:World)(S:Nat->Prop)(v:Value)(a b:Int):Prop:=∃b1 l1 b2 l2,v= .agg #[.bool b1,l1,.bool b2,l2]∧j5 w S (.agg #[.bool b1,l1]) a∧j5 w S (.agg #[.bool b2,l2]) b
theorem iD.cC{a b:Int}(h:iD w S v a b)(hk:∀g,S g->w2.heap[g]? =w.heap[g]?):iD w2 S v a b:=by
 obtain⟨b1,l1,b2,l2,h1,h2,h3⟩:=h;exact⟨b1,l1,b2,l2,h1,h2.cC hk,h3.cC hk⟩
theorem iD.cF{a b:Int}(h:iD w S v a b)(hk:∀g,S g->S' g):iD w S' v a b:=by
 obtain⟨b1,l1,b2,l2,h1,h2,h3⟩:=h;exact⟨b1,l1,b2,l2,h1,h2.cF hk,h3.cF hk⟩
theorem iD.shape(h:iD w S v x y):∃b a n c b2 a2 n2 c2,v= .agg #[.bool b,.slice a n c,.bool b2,.slice a2 n2 c2]:=by
 obtain⟨b1,l1,b2,l2,h1,h2,h3⟩:=h;obtain⟨_,a,n,c,h4⟩:=h2.shape;obtain⟨_,a2,n2,c2,h5⟩:=h3.shape;simp at h4 h5;obtain⟨rfl,rfl⟩:=h4;obtain⟨rfl,rfl⟩:=h5;exact⟨_,a,n,c,_,a2,n2,c2,h1⟩
theorem iD.num(h:iD w S (.agg #[.bool b,nv,.bool b2,dv]) x y):j5 w S (.agg #[.bool b,nv]) x:=by
 obtain⟨b1,l1,b2,l2,h1,h2,h3⟩:=h;simp at h1;obtain⟨rfl,rfl,rfl,rfl⟩:=h1;exact h2
theorem iD.den(h:iD w S (.agg #[.bool b,nv,.bool b2,dv]) x y):j5 w S (.agg #[.bool b2,dv]) y:=by
 obtain⟨b1,l1,b2,l2,h1,h2,h3⟩:=h;simp at h1;obtain⟨rfl,rfl,rfl,rfl⟩:=h1;exact h3
section
variable{S S':Nat->Prop}{H:Hp}{nx:Nat}{iv iv':Iv}{B:Nat}{w w' w2:World}{O:Nat->Sx.dL}{v:Value}{x y:Int}
theorem iD.rel(h:iD w (Cv S B iv) v x y)(r:Rel H nx iv B w O w')(hS:∀g,S g->g<B):iD w' (Cv S B iv) v x y:=h.cC fun _ hg=>Rel.same r hS hg
theorem iD.cD(h:iD w (Cv S B iv) v x y)(r:Rel H nx iv B w O w')(hS:∀g,S g->g<B)(he:Ext w' w2)(hm:∀p,p∈iv->p∈iv'):iD w2 (Cv S B iv') v x y:=
 ((h.rel r hS).cC fun g hg=>he.block g (Rel.old r hS g hg)).cF fun _ hg=>hg.mono hm
end
def cN(w:World)(S:Nat->Prop)(v:Value)(q:Rat):Prop:=∃b1 l1 b2 l2,v= .agg #[.bool b1,l1,.bool b2,l2]∧cu w S (.agg #[.bool b1,l1]) q.num∧cu w S (.agg #[.bool b2,l2]) q.den
theorem cN.cC(h:cN w S v q)(hk:∀g,S g->w2.heap[g]? =w.heap[g]?):cN w2 S v q:=by
 obtain⟨b1,l1,b2,l2,h1,h2,h3⟩:=h;exact⟨b1,l1,b2,l2,h1,h2.cC hk,h3.cC hk⟩
theorem cN.cF(h:cN w S v q)(hk:∀g,S g->S' g):cN w S' v q:=by
 obtain⟨b1,l1,b2,l2,h1,h2,h3⟩:=h;exact⟨b1,l1,b2,l2,h1,h2.cF hk,h3.cF hk⟩
theorem cN.r(h:cN w S v q):iD w S v q.num q.den:=by
 obtain⟨b1,l1,b2,l2,h1,h2,h3⟩:=h;exact⟨b1,l1,b2,l2,h1,h2.r,h3.r⟩
theorem cN.shape(h:cN w S v q):∃b a n c b2 a2 n2 c2,v= .agg #[.bool b,.slice a n c,.bool b2,.slice a2 n2 c2]:=h.r.shape
theorem cN.num(h:cN w S (.agg #[.bool b,nv,.bool b2,dv]) q):cu w S (.agg #[.bool b,nv]) q.num:=by
 obtain⟨b1,l1,b2,l2,h1,h2,h3⟩:=h;simp at h1;obtain⟨rfl,rfl,rfl,rfl⟩:=h1;exact h2
theorem cN.den(h:cN w S (.agg #[.bool b,nv,.bool b2,dv]) q):cu w S (.agg #[.bool b2,dv]) q.den:=by
 obtain⟨b1,l1,b2,l2,h1,h2,h3⟩:=h;simp at h1;obtain⟨rfl,rfl,rfl,rfl⟩:=h1;exact h3
theorem cN.of(h:cu w S (.agg #[.bool b,nv]) q.num)(k:cu w S (.agg #[.bool b2,dv]) q.den):cN w S (.agg #[.bool b,nv,.bool b2,dv]) q:=⟨_,_,_,_,rfl,h,k⟩
section
variable{S S':Nat->Prop}{H:Hp}{nx:Nat}{iv iv':Iv}{B:Nat}{w w' w2:World}{O:Nat->Sx.dL}{v:Value}{q:Rat}
theorem cN.rel(h:cN w (Cv S B iv) v q)(r:Rel H nx iv B w O w')(hS:∀g,S g->g<B):cN w' (Cv S B iv) v q:=h.cC fun _ hg=>Rel.same r hS hg
theorem cN.cD(h:cN w (Cv S B iv) v q)(r:Rel H nx iv B w O w')(hS:∀g,S g->g<B)(he:Ext w' w2)(hm:∀p,p∈iv->p∈iv'):cN w2 (Cv S B iv') v q:=
 ((h.rel r hS).cC fun g hg=>he.block g (Rel.old r hS g hg)).cF fun _ hg=>hg.mono hm
theorem cN.dD(h:cN w2 (Nf w' w2) v q)(hB:B<=w'.heap.size)(hm:(w'.heap.size,w2.heap.size)∈iv):cN w2 (Cv S B iv) v q:=h.cF fun _ hg=>hg.dD hB hm
theorem cN.out{w0 w1:World}(h:cN w1 (Cv S w0.heap.size iv) v q)(r:Rel H nx iv w0.heap.size w1 O w')(hS:Old S w0):cN w' (Nw S w0 w') v q:=
 (h.rel r hS).cF fun _ hg=>Cv.nw hg r
end
theorem qp(hS:Old S w)(hf:cP w S v f):
  dx PG N.kV #[v] w (eH w fun v' _w2=>v'= .int .i64 (rs f)):=by
 have hw:=bR w;replace hf:=hf.cF (S':=Cv S w.heap.size []) fun _ h=>.inl h;obtain⟨b1,a1,n1,c1,b2,a2,n2,c2,rfl⟩:=hf.shape;have UI:=hf.num;have QV:=hf.den;refine oH (by simp) ?_;refine cB (cE hw (fun _ w' v w2=>v= .int .i64 (rs f)) (fun O w' r=>zx (UI.rel r hS)) ?_);rintro O _ _ _ OZ r he hw h_ rfl;exact rtn hw fun ρe we re=>rfl
theorem qE(hS:Old S w)(hf:cP w S v f):
  dx PG N.kK #[v] w (eH w fun v' w2=>cP w2 (Nw S w w2) v' (-f)):=by
 have hw:=bR w;replace hf:=hf.cF (S':=Cv S w.heap.size []) fun _ h=>.inl h;obtain⟨b1,a1,n1,c1,b2,a2,n2,c2,rfl⟩:=hf.shape;have UI:=hf.num;have QV:=hf.den;refine nF (by simp) ?_;refine cH hτ dN [.x 0,.x 1,.x 3,.x 4,.x 2,.x 5,.x 6] (by kernel_rfl) (by kernel_rfl) ?_;refine cI (Φ:=fun _ w' v w2=>eB w2 (Nw (Cv S w.heap.size []) w' w2) v (-f.num)) (fun O w' r=>oT (Rel.old r hS) (UI.rel r hS)) ?_;rintro O PV v1 PL r he hb hn;replace hw:=hw.tr hb;replace QV:=QV.cD (iv':=(PV.heap.size,PL.heap.size)::[]) r hS he fun x hx=>aC _ hx;have hM:=hn.old r.bz;generalize (PV.heap.size,PL.heap.size)::[]=OZ at*
 obtain⟨A0,A1,A2,A3,rfl⟩:=hM.shape;exact rtn hw fun ρe we re=>cP.of (by rw[Rat.neg_num];exact hM.out re hS) (by rw[Rat.neg_den];exact QV.out re hS)
theorem qF(hS:Old S w)(hf:cP w S v f)(hg:cP w S u g)(VO:rl f<=10000000000)(hlg:rl g<=10000000000):
  dx PG N.kJ #[v,u] w (eH w fun v' w2=>cP w2 (Nf w w2) v' (f*g)):=by
 have hw:=bR w;have l1:=fu f;have l2:=fJ f;have l3:=fu g;have l4:=fJ g;have m0:=cX f.num g.num;have m1:=cX f.den g.den;replace hf:=hf.cF (S':=Cv S w.heap.size []) fun _ h=>.inl h;replace hg:=hg.cF (S':=Cv S w.heap.size []) fun _ h=>.inl h;obtain⟨b1,a1,n1,c1,b2,a2,n2,c2,rfl⟩:=hf.shape;obtain⟨b3,a3,n3,c3,b4,a4,n4,c4,rfl⟩:=hg.shape;have UI:=hf.num;have QV:=hf.den;have SY:=hg.num;have QD:=hg.den;refine nE (by simp) ?_;refine cH hτ dN [.x 0,.x 1,.x 2,.x 3,.x 5,.x 6,.x 7,.x 8,.x 4,.x 9,.x 10,.x 11] (by kernel_rfl) (by kernel_rfl) ?_;refine cE hw (fun _ w' v w2=>eB w2 (Nf w' w2) v (f.num*g.num)) (fun O w' r=>iE (Rel.old r hS) (UI.rel r hS) (SY.rel r hS) (by omega) (by omega)) ?_;rintro O _ _ _ OZ r he hw h_ hn;replace QV:=QV.cD r hS he (mC h_);replace QD:=QD.cD r hS he (mC h_);have hA:=hn.dD (S:=FF) r.bz (mN h_);obtain⟨A0,A1,A2,A3,rfl⟩:=hA.shape;refine cE hw (fun _ w' v w2=>eB w2 (Nf w' w2) v ((f.den:Int)*(g.den:Int))) (fun O w' r=>iE (Rel.old r hS) (QV.rel r hS) (QD.rel r hS) (by omega) (by omega)) ?_;rintro O _ _ _ OU r he hw h_ hn;replace hA:=hA.cD r (bw w) he (mC h_);have hB:=hn.dD (S:=FF) r.bz (mN h_);obtain⟨C0,C1,C2,C3,rfl⟩:=hB.shape;refine cE hw (fun _ w' v w2=>cP w2 (Nf w' w2) v (f*g)) (fun O w' r=>(xf f g)▸vY (Rel.old r (bw w)) (hA.rel r (bw w)) (hB.rel r (bw w)) (kQ (gR f) (gR g)) (by omega) (by omega)) ?_;rintro O _ _ _ Oi r he hw h_ hn;have hC:=hn.dD (S:=FF) r.bz (mN h_);obtain⟨E0,E1,E2,E3,E4,E5,E6,E7,rfl⟩:=hC.shape;exact rtn hw fun ρe we re=>hC.out re (bw w)
theorem H4(hS:Old S w)(hf:cP w S v f)(hg:cP w S u g)(VO:rl f<=10000000000)(hlg:rl g<=10000000000)(Sv:g≠0):
  dx PG N.mM #[v,u] w (eH w fun v' w2=>cP w2 (Nf w w2) v' (f / g)):=by
 have hw:=bR w;have l1:=fu f;have l2:=fJ f;have l3:=fu g;have l4:=fJ g;have m0:=cX f.num g.den;have m1:=cX f.den g.num;replace hf:=hf.cF (S':=Cv S w.heap.size []) fun _ h=>.inl h;replace hg:=hg.cF (S':=Cv S w.heap.size []) fun _ h=>.inl h;obtain⟨b1,a1,n1,c1,b2,a2,n2,c2,rfl⟩:=hf.shape;obtain⟨b3,a3,n3,c3,b4,a4,n4,c4,rfl⟩:=hg.shape;have UI:=hf.num;have QV:=hf.den;have SY:=hg.num;have QD:=hg.den;refine qB (by simp) ?_;refine cH hτ dN [.x 0,.x 1,.x 2,.x 3,.x 5,.x 6,.x 7,.x 8,.x 4,.x 9,.x 10,.x 11] (by kernel_rfl) (by kernel_rfl) ?_;refine cE hw (fun _ w' v w2=>eB w2 (Nf w' w2) v (f.num*(g.den:Int))) (fun O w' r=>iE (Rel.old r hS) (UI.rel r hS) (QD.rel r hS) (by omega) (by omega)) ?_;rintro O _ _ _ OZ r he hw h_ hn;replace QV:=QV.cD r hS he (mC h_);replace SY:=SY.cD r hS he (mC h_);have hA:=hn.dD (S:=FF) r.bz (mN h_);obtain⟨A0,A1,A2,A3,rfl⟩:=hA.shape;refine cE hw (fun _ w' v w2=>eB w2 (Nf w' w2) v ((f.den:Int)*g.num)) (fun O w' r=>iE (Rel.old r hS) (QV.rel r hS) (SY.rel r hS) (by omega) (by omega)) ?_;rintro O _ _ _ OU r he hw h_ hn;replace hA:=hA.cD r (bw w) he (mC h_);have hB:=hn.dD (S:=FF) r.bz (mN h_);obtain⟨C0,C1,C2,C3,rfl⟩:=hB.shape;refine cE hw (fun _ w' v w2=>cP w2 (Nf w' w2) v (f / g)) (fun O w' r=>(HM f g)▸vY (Rel.old r (bw w)) (hA.rel r (bw w)) (hB.rel r (bw w)) (kQ (gR f) (fun e=>Sv (Rat.num_eq_zero.1 e))) (by omega) (by omega)) ?_;rintro O _ _ _ Oi r he hw h_ hn;have hC:=hn.dD (S:=FF) r.bz (mN h_);obtain⟨E0,E1,E2,E3,E4,E5,E6,E7,rfl⟩:=hC.shape;exact rtn hw fun ρe we re=>hC.out re (bw w)
theorem DD(hS:Old S w)(hf:cP w S v f)(hg:cP w S u g)(VO:rl f<=10000000000)(hlg:rl g<=10000000000):
  dx PG N.kW #[v,u] w (eH w fun v' w2=>cP w2 (Nf w w2) v' (f+g)):=by
 have hw:=bR w;have l1:=fu f;have l2:=fJ f;have l3:=fu g;have l4:=fJ g;have m0:=cX f.num g.den;have m1:=cX g.num f.den;have m2:=cX f.den g.den;have m4:=ia (f.num*g.den) (g.num*f.den);replace hf:=hf.cF (S':=Cv S w.heap.size []) fun _ h=>.inl h;replace hg:=hg.cF (S':=Cv S w.heap.size []) fun _ h=>.inl h;obtain⟨b1,a1,n1,c1,b2,a2,n2,c2,rfl⟩:=hf.shape;obtain⟨b3,a3,n3,c3,b4,a4,n4,c4,rfl⟩:=hg.shape;have UI:=hf.num;have QV:=hf.den;have SY:=hg.num;have QD:=hg.den;refine oI (by simp) ?_;refine cH hτ dN [.x 0,.x 1,.x 2,.x 3,.x 5,.x 6,.x 7,.x 8,.x 11,.x 12,.x 13,.x 14,.x 4,.x 9,.x 10,.x 15,.x 16,.x 17] (by kernel_rfl) (by kernel_rfl) ?_;refine cE hw (fun _ w' v w2=>eB w2 (Nf w' w2) v (f.num*(g.den:Int))) (fun O w' r=>iE (Rel.old r hS) (UI.rel r hS) (QD.rel r hS) (by omega) (by omega)) ?_;rintro O _ _ _ OZ r he hw h_ hn;replace QV:=QV.cD r hS he (mC h_);replace SY:=SY.cD r hS he (mC h_);replace QD:=QD.cD r hS he (mC h_);have hA:=hn.dD (S:=FF) r.bz (mN h_);obtain⟨A0,A1,A2,A3,rfl⟩:=hA.shape;refine cE hw (fun _ w' v w2=>eB w2 (Nf w' w2) v (g.num*(f.den:Int))) (fun O w' r=>iE (Rel.old r hS) (SY.rel r hS) (QV.rel r hS) (by omega) (by omega)) ?_;rintro O _ _ _ OU r he hw h_ hn;replace QV:=QV.cD r hS he (mC h_);replace QD:=QD.cD r hS he (mC h_);replace hA:=hA.cD r (bw w) he (mC h_);have hB:=hn.dD (S:=FF) r.bz (mN h_);obtain⟨C0,C1,C2,C3,rfl⟩:=hB.shape;refine cE hw (fun _ w' v w2=>eB w2 (Nf w' w2) v (f.num*(g.den:Int)+g.num*(f.den:Int))) (fun O w' r=>Be (Rel.old r (bw w)) (hA.rel r (bw w)) (hB.rel r (bw w)) (by omega) (by omega)) ?_;rintro O _ _ _ Oi r he hw h_ hn;replace QV:=QV.cD r hS he (mC h_);replace QD:=QD.cD r hS he (mC h_);have hD:=hn.dD (S:=FF) r.bz (mN h_);obtain⟨E0,E1,E2,E3,rfl⟩:=hD.shape;refine cE hw (fun _ w' v w2=>eB w2 (Nf w' w2) v ((f.den:Int)*(g.den:Int))) (fun O w' r=>iE (Rel.old r hS) (QV.rel r hS) (QD.rel r hS) (by omega) (by omega)) ?_;rintro O _ _ _ Ow r he hw h_ hn;replace hD:=hD.cD r (bw w) he (mC h_);have hE:=hn.dD (S:=FF) r.bz (mN h_);obtain⟨F0,F1,F2,F3,rfl⟩:=hE.shape;refine cE hw (fun _ w' v w2=>cP w2 (Nf w' w2) v (f+g)) (fun O w' r=>(tR f g)▸vY (Rel.old r (bw w)) (hD.rel r (bw w)) (hE.rel r (bw w)) (kQ (gR f) (gR g)) (by omega) (by omega)) ?_;rintro O _ _ _ QO r he hw h_ hn;have hC:=hn.dD (S:=FF) r.bz (mN h_);obtain⟨G0,G1,G2,G3,G4,G5,G6,G7,rfl⟩:=hC.shape;exact rtn hw fun ρe we re=>hC.out re (bw w)
theorem qu(hS:Old S w)(hf:cP w S v f)(VO:rl f<=100000000000):
  dx PG N.kU #[v] w (eH w fun v' w2=>cN w2 (Nf w w2) v' f):=by
 have hw:=bR w;have l1:=fu f;have l2:=fJ f;replace hf:=hf.cF (S':=Cv S w.heap.size []) fun _ h=>.inl h;obtain⟨b1,a1,n1,c1,b2,a2,n2,c2,rfl⟩:=hf.shape;have UI:=hf.num;have QV:=hf.den;refine oG (by simp) ?_;refine cH hτ dN [.x 0,.x 1,.x 3,.x 4,.x 2,.x 5,.x 6,.x 7] (by kernel_rfl) (by kernel_rfl) ?_;refine cE hw (fun _ w' v w2=>cu w2 (Nf w' w2) v f.num) (fun O w' r=>Kv (Rel.old r hS) (UI.rel r hS) (by omega)) ?_;rintro O _ _ _ OZ r he hw h_ hn;replace QV:=QV.cD r hS he (mC h_);have hA:=hn.dD (S:=FF) r.bz (mN h_);obtain⟨A0,A1,A2,A3,rfl⟩:=hA.shape;refine cE hw (fun _ w' v w2=>cu w2 (Nf w' w2) v (f.den:Int)) (fun O w' r=>Kv (Rel.old r hS) (QV.rel r hS) (by omega)) ?_;rintro O _ _ _ OU r he hw h_ hn;replace hA:=hA.cD r (bw w) he (mC h_);have hB:=hn.dD (S:=FF) r.bz (mN h_);obtain⟨C0,C1,C2,C3,rfl⟩:=hB.shape;exact rtn hw fun ρe we re=>cN.of (hA.out re (bw w)) (hB.out re (bw w))
theorem xo(n:Int)(w:World)(h1: -9223372036854775808<=n)(h2:n<=9223372036854775807):
  dx PG N.wS #[.int .i64 n] w (eH w fun v' w2=>cP w2 (Nf w w2) v' (n:Rat)):=by
 have hw:=bR w;refine z5 (by simp) ?_;refine cB (cE hw (fun _ w' v w2=>eB w2 (Nf w' w2) v n) (fun O w' r=>oV n w' h1 h2) ?_);rintro O _ _ _ OZ r he hw h_ hn;have hA:=hn.dD (S:=FF) r.bz (mN h_);obtain⟨A0,A1,A2,A3,rfl⟩:=hA.shape;refine cB (cE hw (fun _ w' v w2=>eB w2 (Nf w' w2) v 1) (fun O w' r=>oV 1 w' (by decide) (by decide)) ?_);rintro O _ _ _ OU r he hw h_ hn;replace hA:=hA.cD r (bw w) he (mC h_);have hB:=hn.dD (S:=FF) r.bz (mN h_);obtain⟨C0,C1,C2,C3,rfl⟩:=hB.shape;exact rtn hw fun ρe we re=>cP.of (by rw[Rat.num_intCast];exact hA.out re (bw w)) (by rw[Rat.den_intCast];exact hB.out re (bw w))
theorem je(hS:Old S w)(hx:iD w S v x y)(Pt:ln x.natAbs<=100000000000)(Q3:ln y.natAbs<=100000000000):
  dx PG N.wO #[v] w (eH w fun v' w2=>cP w2 (Nf w w2) v' (ratio x y)):=by
 have hw:=bR w;replace hx:=hx.cF (S':=Cv S w.heap.size []) fun _ h=>.inl h;obtain⟨b1,a1,n1,c1,b2,a2,n2,c2,rfl⟩:=hx.shape;have hn:=hx.num;have hd:=hx.den;have RQ:=hn;have US:=hd;refine zY (by simp) ?_;refine cB (cI (Φ:=fun _ w' v w2=>eB w2 (Nw (Cv S w.heap.size []) w' w2) v y) (fun O w' r=>Ky (Rel.old r hS) (US.rel r hS)) ?_);rintro O PV v1 PL r he hb hn;replace hw:=hw.tr hb;replace RQ:=RQ.cD (iv':=(PV.heap.size,PL.heap.size)::[]) r hS he fun x hx=>aC _ hx;have hD:=hn.old r.bz;generalize (PV.heap.size,PL.heap.size)::[]=OZ at*
 obtain⟨A0,A1,A2,A3,rfl⟩:=hD.shape;refine cB (cE hw (fun _ w' v w2=>v= .int .i64 y.sign) (fun O w' r=>zx (hD.rel r hS)) ?_);rintro O _ _ _ OU r he hw h_ rfl;replace RQ:=RQ.cD r hS he (mC h_);replace hD:=hD.cD r hS he (mC h_);refine dB.mk ?_ ?_<;>intro h
 ·have h:y=0:=bu.1 (eq_of_beq h);have e0:ratio x y=Rat.divInt x 1:=if_pos h;refine cB (cE hw (fun _ w' v w2=>eB w2 (Nf w' w2) v 1) (fun O w' r=>oV 1 w' (by decide) (by decide)) ?_);rintro O PX v3 PW Oi r he hw h_ hn;replace RQ:=RQ.cD r hS he (mC h_);have hO:=hn.dD (S:=FF) r.bz (mN h_);obtain⟨C0,C1,C2,C3,rfl⟩:=hO.shape;have l1:ln (1:Int).natAbs=1:=by decide
  refine cH hτ dN [.x 0,.x 1,.x 3,.x 2,.x 4,.x 5] (by kernel_rfl) (by kernel_rfl) ?_;refine cI (Φ:=fun _ w' v w2=>eB w2 (Nw (Cv S w.heap.size Oi) w' w2) v x) (fun O w' r=>Ky (Rel.old r hS) (RQ.rel r hS)) ?_;rintro O Qu v4 Q9 r he hb hn;replace hw:=hw.tr hb;replace hO:=hO.cD (iv':=(Qu.heap.size,Q9.heap.size)::Oi) r (bw w) he fun x hx=>aC _ hx;have hN:=hn.old r.bz;generalize (Qu.heap.size,Q9.heap.size)::Oi=Ow at*
  obtain⟨E0,E1,E2,E3,rfl⟩:=hN.shape;refine cE hw (fun _ w' v w2=>cP w2 (Nf w' w2) v (ratio x y)) (fun O w' r=>e0.symm▸vY (Rel.old r hS) (hN.rel r hS) ((hO.rel r (bw w)).cF fun g hg=>hg.elim (fun k=>k.elim) .inr) (by decide) (by omega) (by omega)) ?_;rintro O _ _ _ QO r he hw h_ hn;have hC:=hn.dD (S:=FF) r.bz (mN h_);obtain⟨F0,F1,F2,F3,F4,F5,F6,F7,rfl⟩:=hC.shape;exact rtn hw fun ρe we re=>hC.out re (bw w)
 ·have h:y≠0:=fun e=>by rw[e]at h;exact absurd h (by decide)
  have e0:ratio x y=Rat.divInt x y:=aI h;refine cH hτ dN [.x 0,.x 1,.x 3,.x 2,.x 4,.x 5] (by kernel_rfl) (by kernel_rfl) ?_;refine cI (Φ:=fun _ w' v w2=>eB w2 (Nw (Cv S w.heap.size OU) w' w2) v x) (fun O w' r=>Ky (Rel.old r hS) (RQ.rel r hS)) ?_;rintro O PX v3 PW r he hb hn;replace hw:=hw.tr hb;replace hD:=hD.cD (iv':=(PX.heap.size,PW.heap.size)::OU) r hS he fun x hx=>aC _ hx;have hN:=hn.old r.bz;generalize (PX.heap.size,PW.heap.size)::OU=Oi at*
  obtain⟨C0,C1,C2,C3,rfl⟩:=hN.shape;refine cE hw (fun _ w' v w2=>cP w2 (Nf w' w2) v (ratio x y)) (fun O w' r=>e0.symm▸vY (Rel.old r hS) (hN.rel r hS) (hD.rel r hS) h (by omega) (by omega)) ?_;rintro O _ _ _ Ow r he hw h_ hn;have hC:=hn.dD (S:=FF) r.bz (mN h_);obtain⟨E0,E1,E2,E3,E4,E5,E6,E7,rfl⟩:=hC.shape;exact rtn hw fun ρe we re=>hC.out re (bw w)
def r9(v:Value):Iv:=match v.ownBlock with
 |some g=>[(g,g+1)]
 |none=>[]
theorem Bn{lo hi:Nat}:(lo,hi)∈r9 v↔v.ownBlock=some lo∧hi=lo+1:=by
 unfold r9
 cases h:v.ownBlock with
 |none=>simp
 |some g=>simp;omega
def Ge(iv:Iv)(v:Value):Prop:=∀b,v.ownBlock=some b->∃lo hi,(lo,hi)∈iv∧lo<=b∧b<hi
section
variable{S:Nat->Prop}{H:Hp}{nx:Nat}{iv iv':Iv}{B e sz m:Nat}{w w' w2:World}{O:Nat->Sx.dL}{v v':Value}{xs:List Value}
theorem Ge.not(h:Ge iv v)(r:Rel H nx iv B w O w'){b:Nat}(hb:v.ownBlock=some b):∀id c,cV H id=some c->(O id).nil=false->(O id).g≠b:=fun id c hc hn he=>by
 obtain⟨lo,hi,h1,h2,h3⟩:=h b hb;exact r.ji lo hi h1 id c hc hn (by omega)
theorem jN(h:w.ownsRow B e sz v m xs)(hc:Ge iv v)(r:Rel H nx iv B w O w'):w'.ownsRow B e sz v m xs:=
 ownsRow.cC h fun b hb=>r.ub b (ownsRow.low h b hb).2 fun id c hc' hn he=>hc.not r hb id c hc' hn he
theorem Ge.row(v:Value):Ge (r9 v) v:=fun b hb=>⟨b,b+1,Bn.2 ⟨hb,rfl⟩,by omega,by omega⟩
theorem Ge.mono(h:Ge iv v)(k:∀p,p∈iv->p∈iv'):Ge iv' v:=fun b hb=>by
 obtain⟨lo,hi,h1,h2⟩:=h b hb;exact⟨lo,hi,k _ h1,h2⟩
theorem ig(h:w.ownsRow B e sz v m xs):∃a c,v= .slice a m c∧m<=c:=by
 rcases h.2 with⟨rfl,rfl⟩|⟨g,cap,cur,rfl,_,_,h1,_⟩
 ·exact⟨none,0,rfl,Nat.le_refl _⟩
 ·exact⟨_,cap,rfl,h1⟩
end
structure iu(w:World)(S:Nat->Prop)(sz:Nat)(v:Value)(xs:List Value)(n:Nat):Prop where
 le:n<=maxLen
 len:xs.length=n*sz
 one:∀u∈xs,u.oneCell'=true
 sl:∃a c,v= .slice a n c∧n<=c∧∀(j:Nat) u,xs[j]? =some u->∃ad,a=some ad∧S ad.block∧w.cell? (ad.add j)=some u
theorem iu.cC(h:iu w S sz v xs n)(hk:∀g,S g->w2.heap[g]? =w.heap[g]?):iu w2 S sz v xs n:=by
 obtain⟨h0,h1,h2,a,c,h3,h4,h5⟩:=h;refine⟨h0,h1,h2,a,c,h3,h4,fun j u hu=>?_⟩;obtain⟨ad,k1,k2,k3⟩:=h5 j u hu;exact⟨ad,k1,k2,by rw[cJ (hk _ (by rw[c9];exact k2))];exact k3⟩
theorem iu.cF(h:iu w S sz v xs n)(hk:∀g,S g->S' g):iu w S' sz v xs n:=by
 obtain⟨h0,h1,h2,a,c,h3,h4,h5⟩:=h;refine⟨h0,h1,h2,a,c,h3,h4,fun j u hu=>?_⟩;obtain⟨ad,k1,k2,k3⟩:=h5 j u hu;exact⟨ad,k1,hk _ k2,k3⟩
section
variable{S S':Nat->Prop}{H:Hp}{nx:Nat}{iv iv':Iv}{B:Nat}{w w' w2:World}{O:Nat->Sx.dL}{v:Value}{sz n:Nat}{xs:List Value}
end
end Go.Ex
