/- Texts X11 to X23: lemmas, each with its conditions. -/
import Derived.Test.YtkdcaknoaeicdaaGreatP3
namespace Go.Ex
open Go Go.Sx Go.Proofs
end Go.Ex
namespace Go.Sx
open Go Go.Ex Go.Proofs
variable{O:Nat->Sx.di}
theorem Rel.cF{H:Hp}{nx:Nat}{iv:Iv}{B:Nat}{w w':World}(r:Rel H nx iv B w O w'):B<=w'.heap.size:=by have:=r.base;have:=r.size;omega
end Go.Sx
namespace Go.Ex
open Go Go.Sx Go.Proofs
end Go.Ex
namespace Go.Sx
open Go Go.Ex Go.Proofs
variable{ls:List Nat}{O:Nat->Sx.di}
theorem Rel.vJ{H:Hp}{nx:Nat}{iv:Iv}{B:Nat}{w w':World}(r:Rel H nx iv B w O w'){id t:Nat}(h:dE H id=some (.box t ((U ls).map At.v)))(PZ:Lm ls)(hle:ls.length<=9223372036854775807):
  dP w' (fun g=>g=(O id).g) (.slice (some ⟨(O id).g,0,none⟩) ls.length ls.length) ls:=by
 refine⟨PZ,hle,_,_,rfl,aF _,fun j x hx=>⟨_,rfl,rfl,?_⟩⟩;have h0:(⟨(O id).g,0,none⟩:Addr).add j=⟨(O id).g,j,none⟩:=by
  cases j with
  |zero=>rfl
  |succ j=>simp[Addr.add]
 rw[h0,cell_of (r.box id t _ h),fh];exact vI hx
end Go.Sx
namespace Go.Ex
open Go Go.Sx Go.Proofs
variable{ds r2:List Nat}{g k:Nat}
section
variable{S:Nat->Prop}{H:Hp}{nx:Nat}{iv iv':Iv}{B:Nat}{w w' w2:World}{O:Nat->Sx.di}{v:Value}{n:Nat}{ls:List Nat}
theorem Nw.dB(h:Nf w' w2 g)(hB:B<=w'.heap.size)(hm:(w'.heap.size,w2.heap.size)∈iv):Cv S B iv g:=by
 rcases h with h|h
 ·cases h
 ·exact .inr ⟨by omega,_,_,hm,h.1,h.2⟩
theorem eB.dB(h:eB w2 (Nf w' w2) v n)(hB:B<=w'.heap.size)(hm:(w'.heap.size,w2.heap.size)∈iv):eB w2 (Cv S B iv) v n:=h.cJ fun _ hg=>hg.dB hB hm
theorem dP.dB(h:dP w2 (Nf w' w2) v ls)(hB:B<=w'.heap.size)(hm:(w'.heap.size,w2.heap.size)∈iv):dP w2 (Cv S B iv) v ls:=h.cJ fun _ hg=>hg.dB hB hm
theorem eB.rel(h:eB w (Cv S B iv) v n)(r:Rel H nx iv B w O w')(hS:∀g,S g->g<B):eB w' (Cv S B iv) v n:=h.cI fun _ hg=>Rel.same r hS hg
theorem eB.cG(h:eB w (Cv S B iv) v n)(r:Rel H nx iv B w O w')(hS:∀g,S g->g<B)(he:Ext w' w2)(hm:∀p,p∈iv->p∈iv'):eB w2 (Cv S B iv') v n:=
 ((h.rel r hS).cI fun g hg=>he.block g (Rel.old r hS g hg)).cJ fun _ hg=>hg.mono hm
theorem dP.trimmed(h:dP w S v (eA ls)):eB w S v (val ls):=⟨_,h,(fC ls).2.1,(fC ls).1⟩
end
theorem Ir{w:World}{m c:Nat}{rs:List Nat}(hg:w.heap[g]? =some (.cells (U rs).toArray T.uint32 (0,0)))(PZ:Lm rs)(h:k+m<=rs.length)(hc:m<=c)(hl:rs.length<=1000000000000):
  dP w (fun x=>x=g) (.slice (some ⟨g,k,none⟩) m c) ((rs.drop k).take m):=by
 have hlen:((rs.drop k).take m).length=m:=by simp;omega
 refine⟨(PZ.drop k).take m,by omega,some ⟨g,k,none⟩,c,by rw[hlen],by omega,fun j x hx=>⟨_,rfl,rfl,?_⟩⟩;have hj:j<m:=by have:=(aD.1 hx).1;omega
 rw[bV hj,List.getElem?_drop]at hx;rw[dZ,cell_of hg];exact vI hx
theorem ES{c:Nat}(h:k<c):(if (c:Int)=(k:Int)then some (⟨g,0,none⟩:Addr)else(some (⟨g,0,none⟩:Addr)).map fun x=>x.add ((k:Int).toNat*1))=some ⟨g,k,none⟩:=by
 rw[aK (by omega),Option.map_some,aE,aU,dZ,aS]
theorem gu{a b c:World}{row:Option Nat}(h:a.grownBy b row)(k:b.grownBy c row):a.grownBy c row:=
 ⟨k.os.trans h.os,k.tape.trans h.tape,k.output.trans h.output,aY h.size k.size,fun j hj OJ=>(k.block j (by have:=h.size;omega) OJ).trans (h.block j hj OJ)⟩
theorem yD{a b:World}{row:Option Nat}(h:dm a.heap.size a b):a.grownBy b row:=⟨h.os,h.tape,h.output,h.size,fun j hj _=>h.block j hj⟩
theorem NN(rs:List Nat)(k m:Nat):(U rs).take k++List.replicate m (Value.int .u32 0)++(U rs).drop (k+m)=U (rs.take k++List.replicate m 0++rs.drop (k+m)):=by
 simp[U]
theorem aAZ(rs ds:List Nat)(k:Nat):(U rs).take k++U ds++(U rs).drop (k+(U ds).length)=U (rs.take k++ds++rs.drop (k+ds.length)):=by
 simp[U]
theorem Jt{rs:List Nat}{m:Nat}(hk:k+m<=rs.length)(hd:ds.length<=m){r1:List Nat}(h1:r1=rs.take k++List.replicate m 0++rs.drop (k+m))(h2:r2=r1.take k++ds++r1.drop (k+ds.length)):
  r2=rs.take k++(ds++List.replicate (m-ds.length) 0)++rs.drop (k+m):=by
 have Uo:(rs.take k).length=k:=by simp;omega
 have h3:r1.take k=rs.take k:=by rw[h1,bU,List.take_append_of_le_length (by omega),List.take_of_length_le (by omega)]
 have h4:r1.drop (k+ds.length)=List.replicate (m-ds.length) 0++rs.drop (k+m):=by
  rw[h1,bU,List.drop_append,Uo,List.drop_of_length_le (by omega),List.nil_append,Nat.add_sub_cancel_left,List.drop_append_of_le_length (by simpa using hd),List.drop_replicate]
 rw[h2,h3,h4];simp
theorem Ju{rs:List Nat}{m:Nat}(hk:k+m<=rs.length)(hd:ds.length<=m)(PZ:Lm rs)(Pm:Lm ds)(h:r2=rs.take k++(ds++List.replicate (m-ds.length) 0)++rs.drop (k+m)):
  r2.length=rs.length∧Lm r2∧r2.take k=rs.take k∧r2.drop (k+m)=rs.drop (k+m)∧val ((r2.drop k).take m)=val ds:=by
 have Uo:(rs.take k).length=k:=by simp;omega
 have TL:(ds++List.replicate (m-ds.length) 0).length=m:=by simp;omega
 have Sl:r2.drop k=(ds++List.replicate (m-ds.length) 0)++rs.drop (k+m):=by
  rw[h,bU,List.drop_append,Uo,List.drop_of_length_le (by omega),List.nil_append,bL,List.drop_zero]
 refine⟨by rw[h,List.length_append,List.length_append,Uo,TL];simp;omega,?_,?_,?_,?_⟩
 ·rw[h];exact((PZ.take k).append (Pm.append (Lm.replicate _))).append (PZ.drop _)
 ·rw[h,bU,List.take_append_of_le_length (by omega),List.take_of_length_le (by omega)]
 ·rw[<-List.drop_drop,Sl,List.drop_append,TL,List.drop_of_length_le (by omega),List.nil_append,bL,List.drop_zero]
 ·rw[Sl,List.take_append_of_le_length (by omega),List.take_of_length_le (by omega),mB,nN];simp
theorem ET{S:Nat->Prop}{w:World}{vd:Value}{D g k q:Nat}{rs:List Nat}(hS:Old S w)(hgS:¬S g)(hd:eB w S vd D)(hg:w.heap[g]? =some (.cells (U rs).toArray T.uint32 (0,0)))(PZ:Lm rs)
  (hk:k+ln D+1<=rs.length) (hl:rs.length<=1000000000000) (hq:q<4294967296):
  eD PG N.q9 #[.slice (some ⟨g,0,none⟩) rs.length rs.length,vd,.int .i64 k,.int .u64 q] w (fun e w2=>
   (val ((rs.drop k).take (ln D+1))<q*D∧e= .returned (.bool false)∧dm w.heap.size w w2)∨
   (q*D<=val ((rs.drop k).take (ln D+1))∧e= .returned (.bool true)∧w.grownBy w2 (some g)∧∃rs',rs'.length=rs.length∧Lm rs'∧rs'.take k=rs.take k∧rs'.drop (k+ln D+1)=rs.drop (k+ln D+1)∧
    val ((rs'.drop k).take (ln D+1))=val ((rs.drop k).take (ln D+1))-q*D∧w2.heap[g]? =some (.cells (U rs').toArray T.uint32 (0,0)))):=by
 have hgB:=k8 hg;have hnD:=hd;obtain⟨p,rfl,Qu,QU⟩:=hd.la;have Pe:=eP p.lm QU;rw[Qu]at Pe;generalize hn:ln D=n at*
 have hSB:=hS;refine vH (by simp) ?_;refine⟨(q:Int),by rw[fI,bO hq],?_⟩;refine gj (Φ:=fun O _ v w2=>dP w2 (fun g=>g=(O 0).g) v (eA [q])) (H':=[]) 0 rfl (by simp) trivial rfl (fun O w' r=>r.nn 0 _ rfl (by intros;simp) (by simp)) (fun O w' r=>?_) ?_
 ·have hL:=r.vJ (id:=0) (ls:=[q]) rfl (by intro x hx;simp at hx;omega) (by simp);exact fU (fun g hg=>by rw[hg];exact(r.low 0 _ rfl (r.nn 0 _ rfl (by intros;simp) (by simp))).2) hL
 rintro O w1 v1 w2 r he hw hL;have On:=r.low 0 _ rfl (r.nn 0 _ rfl (by intros;simp) (by simp));have hs:=he.size;generalize (O 0).g=g0 at*
 have UU:eB w2 (Cv S w.heap.size [(g0,g0+1),(w1.heap.size,w2.heap.size)]) v1 q:=by
  have:=hL.trimmed;simp only[val,Nat.mul_zero,bz]at this;exact this.cJ fun k hk=>.inr ⟨by omega,g0,g0+1,by simp,by omega,by omega⟩
 have Up:eB w2 (Cv S w.heap.size [(g0,g0+1),(w1.heap.size,w2.heap.size)]) (.slice p.a p.ls.length p.c) D:=
  (hnD.cI fun g hg=>hw.block g (hS g hg)).cJ fun _ hg=>.inl hg
 generalize [(g0,g0+1),(w1.heap.size,w2.heap.size)]=iv at*
 refine cD (cE hw (fun _ w' v w2=>eB w2 (Nf w' w2) v (q*D)) (fun O w' r=>Is (Rel.old r hS) (UU.rel r hS) (Up.rel r hS) (aY (gP.2 (show q<wt 1 from hq)) (by decide)) (by omega)) ?_);rintro O w3 _ _ iv r he hw h_ hm;have UA:=hm.dB (S:=S) r.cF (mN h_);refine⟨((k+n:Nat):Int),wo,((k+n+1:Nat):Int),wo,⟨by omega,by omega,by omega⟩,some ⟨g,k,none⟩,n+1,rs.length-k,ES (by omega),by omega,by omega,?_⟩;have hplen:((rs.drop k).take (n+1)).length=n+1:=by simp;omega
 have hplm:Lm ((rs.drop k).take (n+1)):=(PZ.drop k).take _;generalize hpart:(rs.drop k).take (n+1)=part at*
 refine cD (cE hw (fun _ w' v w2=>dP w2 (Nf w' w2) v part) (fun O w' r=>?_) ?_)
 ·have h1:=Ir (k:=k) (m:=n+1) (c:=rs.length-k) (w:=w') (by rw[(hw.tr r.cQ).block g hgB];exact hg) PZ (by omega) (by omega) hl;rw[hpart]at h1;exact Iq (fun x hx=>by rw[hx];have:=(hw.tr r.cQ).size;omega) h1 (by omega)
 rintro O _ _ _ iv r he hw h_ hL;have hpL:=hL.dB (S:=S) r.cF (mN h_);replace UA:=UA.cG r hS he (mC h_);refine cD (cO (Φ:=fun _ w' v w2=>dP w2 (Cv S w.heap.size iv) v (eA part)) (fun O w' r=>fU (Rel.old r hS) (dP.rel hpL r hS)) ?_);rintro O w7 v4 w8 r he hb hL;replace hw:=hw.tr hb;have hpN:=hL.trimmed.cJ (S':=Cv S w.heap.size ((w7.heap.size,w8.heap.size)::iv)) fun _ hg=>hg.cons;replace UA:=UA.cG (iv':=(w7.heap.size,w8.heap.size)::iv) r hS he fun x hx=>List.mem_cons_of_mem _ hx;generalize (w7.heap.size,w8.heap.size)::iv=iv at*
 refine cD (cE hw (fun _ _ v _=>v= .int .i64 (tU (val part) (q*D))) (fun O w' r=>Lo (Rel.old r hS) (hpN.rel r hS) (UA.rel r hS)) ?_);rintro O _ _ _ iv r he hw h_ rfl;replace hpN:=hpN.cG r hS he (mC h_);replace UA:=UA.cG r hS he (mC h_);refine dI.mk ?_ ?_<;>intro h
 ·have h:val part<q*D:=by
   have:=aI h;unfold tU at this;split at this
   ·assumption
   ·split at this<;>omega
  intro ρ3 w3 r3;exact .inl ⟨h,rfl,hw.tr r3.cQ⟩
 have h:q*D<=val part:=by
  have:=aH h;unfold tU at this;split at this
  ·omega
  ·omega
 have hPl:ln (val part)<=n+1:=by rw[gP,<-hplen];exact o6 hplm
 refine cD (cE hw (fun _ w' v w2=>eB w2 (Nf w' w2) v (val part-q*D)) (fun O w' r=>EU (Rel.old r hS) (hpN.rel r hS) (UA.rel r hS) h (by omega)) ?_);rintro O _ v6 _ iv r he hw h_ hm;have WA:=hm.dB (S:=S) r.cF (mN h_);refine⟨((k+n:Nat):Int),wo,((k+n+1:Nat):Int),wo,⟨by omega,by omega,by omega⟩,some ⟨g,k,none⟩,n+1,rs.length-k,ES (by omega),by omega,by omega,?_⟩;refine JO hτ (cs:=U rs) (by rfl) (by rfl) (by rfl) (by omega) (fun O w' r=>⟨by rw[(hw.tr r.cQ).block g hgB];exact hg,fun id b hb=>by cases hb⟩) (by rw[gR];omega) (fun O w13 w14 r hh Pc Om=>?_);rw[NN]at hh;have hgw:w.grownBy w14 (some g):=gu (yD (hw.tr r.cQ)) Pc;replace WA:eB w14 (Cv S w.heap.size iv) v6 (val part-q*D):=(WA.rel r hS).cI fun x hx=>Pc.block x (Rel.old r hS x hx) fun e=>by
  injection e with e;subst e;rcases hx with hx|hx
  ·exact hgS hx
  ·omega
 obtain⟨rl,rfl,Sn,Sf⟩:=WA.la;have Ou:=eP rl.lm Sf;rw[Sn]at Ou;have hrn:rl.ls.length<=n+1:=by rw[Ou];exact aY (fM (Nat.sub_le _ _)) hPl
 generalize hr1d:rs.take k++List.replicate (n+1) 0++rs.drop (k+(n+1))=r1 at*
 refine⟨⟨by omega,by omega,by omega⟩,some ⟨g,k,none⟩,rs.length-k,rs.length-k,ES (by omega),by omega,by omega,?_⟩;have hr1l:r1.length=rs.length:=by rw[<-hr1d];simp;omega
 have hw14:w.heap.size<=w14.heap.size:=hgw.size;refine Kk hτ (tg:=T.uint32) (cs:=U r1) (ds:=U rl.ls) (by rfl) (by rfl) (by rfl) (by rfl) (fun O w' r=>⟨?_,fun id b hb=>by cases hb⟩) (fun O w' r=>⟨rl.a,rl.c,by rw[gR];rfl,fun j u hu=>?_⟩) (by rw[gR];omega) (by rw[gR,gR];omega)
  (fun u hu=>by simp only[U,aT]at hu;obtain⟨n,_,rfl⟩:=hu;rfl) (fun O w15 w16 r hh2 Pc Om=>?_)
 ·rw[r.ql.block g (by omega) (by simp)];exact hh
 ·simp only[U,aM,Option.map_eq_some_iff]at hu;obtain⟨m,hm,rfl⟩:=hu;obtain⟨ad,h1,h2,h3⟩:=rl.cell j m hm;exact⟨ad,h1,(cH (w:=w14) (a:=ad.add j) (by rw[dD];exact Rel.same r hS h2)).trans h3⟩
 rw[aAZ]at hh2;have hgw2:w.grownBy w16 (some g):=gu (gu hgw (by have:=r.ql;exact⟨this.os,this.tape,this.output,this.size,fun j hj _=>this.block j hj (by simp)⟩)) Pc;obtain⟨o1,o2,o3,o4,o5⟩:=Ju (rs:=rs) (ds:=rl.ls) (k:=k) (m:=n+1) (by omega) hrn PZ rl.lm (Jt (by omega) hrn hr1d.symm rfl);generalize r1.take k++rl.ls++r1.drop (k+rl.ls.length)=r2 at*
 intro ρ3 w17 r3;refine .inr ⟨h,rfl,gu hgw2 (by have:=r3.ql;exact⟨this.os,this.tape,this.output,this.size,fun j hj _=>this.block j hj (by simp)⟩),r2,o1,o2,o3,o4,by rw[o5,Sn],?_⟩;rw[r3.ql.block g (by have:=hgw2.size;omega) (by simp)];exact hh2
end Go.Ex
namespace Go.Ex
open Go Go.Sx Go.Proofs
end Go.Ex
namespace Go.Sx
open Go Go.Ex Go.Proofs
variable{O:Nat->Sx.di}
theorem Rel.Nt{nx:Nat}{iv:Iv}{B:Nat}{w w' w2:World}(r:Rel [] nx iv B w O w')(h:w'.heap.size<=w2.heap.size):Rel [] nx [] B w2 O w2:=
 r.FC h (fun id b h=>by cases h) fun lo hi h=>by cases h
end Go.Sx
namespace Go.Ex
open Go Go.Sx Go.Proofs
variable{O:Nat->Sx.di}
theorem Lp{P D low high dlow dtop W:Nat}(hP:P=low+W*high)(hD:D=dlow+W*dtop)(On:low<W)(TQ:0<dtop)(hPD:P<4294967296*D):P / D<=min (high / dtop) 4294967295:=by
 have hW:0<W:=by omega
 have hD0:0<D:=by have:=Nat.mul_pos hW TQ;omega
 have h1:P / D<4294967296:=(Nat.div_lt_iff_lt_mul hD0).2 (by rw[bX]at hPD;omega);have h2:P / D<=high / dtop:=by
  rw[Nat.le_div_iff_mul_le TQ];have h3:=Nat.div_mul_le_self P D;generalize P / D=Q at*
  have h4:W*(Q*dtop)<=Q*D:=by
   rw[hD,Nat.mul_left_comm,bW];omega
  have h5:W*(Q*dtop)<W*(high+1):=by
   rw[bW];omega
  have:=Nat.lt_of_mul_lt_mul_left h5;omega
 omega
theorem Iu{H:Hp}{nx:Nat}{iv:Iv}{w w1 w':World}{g i x:Nat}{rs:List Nat}(hg:w.heap[g]? =some (.cells (U rs).toArray T.uint32 (0,0)))(hw:dm w.heap.size w w1)(r:Rel H nx iv w.heap.size w1 O w')(hx:rs[i]? =some x):
  w'.cell? ((⟨g,0,none⟩:Addr).add ((i:Int).toNat*1))=some (.int .u32 x):=by
 rw[aE,aU,dZ,aS,cell_of (by rw[(hw.tr r.cQ).block g (k8 hg)];exact hg)];exact vI hx
theorem NO{S:Nat->Prop}{w:World}{vd:Value}{D g k:Nat}{rs:List Nat}(hS:Old S w)(hgS:¬S g)(hd:eB w S vd D)(hD:0<D)(hg:w.heap[g]? =some (.cells (U rs).toArray T.uint32 (0,0)))(PZ:Lm rs)
  (hk:k+ln D+1<=rs.length) (hl:rs.length<=1000000000000) (hPD:val ((rs.drop k).take (ln D+1))<4294967296*D):
  eD PG N.pV #[.slice (some ⟨g,0,none⟩) rs.length rs.length,vd,.int .i64 k] w (fun e w2=>
   e= .returned (.int .u32 ((val ((rs.drop k).take (ln D+1)) / D:Nat):Int))∧w.grownBy w2 (some g)∧∃rs',rs'.length=rs.length∧Lm rs'∧rs'.take k=rs.take k∧rs'.drop (k+ln D+1)=rs.drop (k+ln D+1)∧
    val ((rs'.drop k).take (ln D+1))=val ((rs.drop k).take (ln D+1)) % D∧w2.heap[g]? =some (.cells (U rs').toArray T.uint32 (0,0))):=by
 have hgB:=k8 hg;have hnD:=hd;obtain⟨p,rfl,Qu,QU⟩:=hd.la;have Pe:=eP p.lm QU;rw[Qu]at Pe;have S1:=fun(w':World) (q:Nat)=>@ET S w' (.slice p.a p.ls.length p.c) D g k q rs;generalize hn:ln D=n at*
 obtain⟨t,rfl⟩:∃t,n=t+1:=by
  cases n with
  |zero=>
   have:D<wt 0:=gP.1 (by omega);rw[j3]at this;omega
  |succ t=>exact⟨t,rfl⟩
 obtain⟨dt,TQ⟩:∃q,p.ls[t]? =some q:=⟨_,aB (by omega)⟩
 have hdt0:0<dt:=by
  have:=QU dt (by rw[List.getLast?_eq_getElem?,Pe];exact TQ);omega
 obtain⟨a,ha⟩:∃q,rs[k+t+1]? =some q:=⟨_,aB (by omega)⟩
 obtain⟨b,hb⟩:∃q,rs[k+t]? =some q:=⟨_,aB (by omega)⟩
 have ha32:=PZ.at ha;have Ul:=PZ.at hb;have Wl:=p.lm.at TQ;generalize hP:val ((rs.drop k).take (t+1+1))=P at*
 have hguess:P / D<=min ((a*4294967296+b) / dt) 4294967295:=by
  refine Lp (low:=val ((rs.drop k).take t)) (W:=wt t) (dlow:=val (p.ls.take t)) ?_ ?_ ?_ hdt0 hPD
  ·rw[<-hP,dg (x:=a) (by rw[List.getElem?_drop];exact ha),dg (x:=b) (by rw[List.getElem?_drop];exact hb),jG,bW,bX 4294967296 (wt t),bg,bX a];omega
  ·rw[<-Qu,<-dg TQ,List.take_of_length_le (by omega)]
  ·have h1:=o6 ((PZ.drop k).take t);have:((rs.drop k).take t).length=t:=by simp;omega
   rwa [this]at h1
 refine tT (by simp) ?_;refine⟨(t:Int),wo,?_⟩;refine cK hτ da [.x 0,.x 1,.x 2,.x 3,.x 4,.x 5,.x 6,.x 7,.x 8,.x 9,.x 10,.x 11,.x 12,.x 13,.x 14,.x 15,.x 16,.x 17] (by kernel_rfl) (by kernel_rfl) ?_;refine⟨((k+t:Nat):Int),wo,((k+t+1:Nat):Int),wo,_,rfl,by omega,.int .u32 a,fun O w' r=>Iu hg dm.refl r ha,(a:Int),ed (by omega),by decide,((a*2^32:Nat):Int),EV (k:=32) (by decide) (by omega),((k+t:Nat):Int),wo,_,rfl,by omega,.int .u32 b,fun O w' r=>Iu hg dm.refl r hb,(b:Int),ed (by omega),?_⟩;have UT:a*2^32 ||| b=a*4294967296+b:=by
  rw[Nat.or_comm,bX,EW (k:=32) Ul];omega
 refine⟨((a*4294967296+b:Nat):Int),by rw[Lq (by omega) (by omega),UT],?_⟩;have hh64:a*4294967296+b<18446744073709551616:=by omega
 generalize a*4294967296+b=high at*
 obtain⟨ad,Ol,PF⟩:=p.load hS (dm.refl (w:=w)) TQ;refine⟨ad,Ol,by omega,.int .u32 dt,PF _ _ _,(dt:Int),ed (by omega),by omega,((high / dt:Nat):Int),Ls hh64,?_⟩;conv=>whnf
 rw[show min ((high / dt:Nat):Int) 4294967295=((min (high / dt) 4294967295:Nat):Int) by omega];have hm32:min (high / dt) 4294967295<=4294967295:=Nat.min_le_right _ _;generalize min (high / dt) 4294967295=q0 at*
 have hQD:=Nat.div_mul_le_self P D;have hQl:∀q,q*D<=P->P / D<=q->q=P / D:=fun q h1 h2=>aP ((Nat.le_div_iff_mul_le hD).2 h1) h2;have hmod:P % D=P-P / D*D:=by have:=Nat.div_add_mod P D;rw[bX]at this;omega
 refine⟨Nat×World,fun z=>⟨[(0,.o (.v (.slice (some ⟨g,0,none⟩) rs.length rs.length))),(1,sV p.a p.ls.length p.c),(2,iZ k),(9,.o (.v (.int .u64 z.1)))],[],0,[],z.2⟩,fun z=>z.1,
  fun z=>dm w.heap.size w z.2∧P / D<=z.1∧z.1<=4294967295,?_,?_⟩
 ·intro O w' r;exact⟨(q0,w'),⟨r.cQ,hguess,hm32⟩,Sub.reset r ⟨rfl,rfl,rfl,rfl,trivial⟩ ⟨trivial,trivial,trivial,trivial,trivial⟩⟩
 ·rintro⟨q,w1⟩ ⟨hw,R5,QO⟩;dsimp only at hw R5 QO ⊢;conv=>whnf
  refine⟨fun O w2 r=>(S1 w2 q (fun x hx=>by have:=hS x hx;have:=(hw.tr r.cQ).size;omega) hgS (hnD.cI fun x hx=>(hw.tr r.cQ).block x (hS x hx)) (by rw[(hw.tr r.cQ).block g hgB];exact hg) PZ hk hl (by omega)).mono fun e w3 he=>?_⟩;rcases he with⟨h,rfl,hb3⟩|⟨h,rfl,Pc,rs',e1,e2,e3,e4,e5,e6⟩
  ·have WB:dm w.heap.size w w3:=(hw.tr r.cQ).tr (hb3.cQ r.cF);refine⟨.bool false,[],[],rfl,r.Nt hb3.size,?_⟩;have Su:P / D<q:=by
    refine Nat.lt_of_le_of_ne R5 fun e=>?_;rw[e]at hQD;omega
   have hq4:0<q:=Nat.lt_of_le_of_lt (aO _) Su;have hq5:P / D<=q-1:=Nat.le_sub_one_of_lt Su;refine⟨((q-1:Nat):Int),by rw[yz]<;>omega,?_⟩;intro ρ4 w4 r4;exact⟨(q-1,w4),⟨WB.tr r4.cQ,hq5,by dsimp only;omega⟩,Sub.reset r4 ⟨rfl,rfl,rfl,rfl,trivial⟩ ⟨trivial,trivial,trivial,trivial,trivial⟩,by dsimp only;omega⟩
  ·have hgw:w.grownBy w3 (some g):=gu (yD (hw.tr r.cQ)) Pc;refine⟨.bool true,[],[],rfl,r.Nt Pc.size,?_⟩;have hq:=hQl q h R5;subst hq;refine⟨((P / D:Nat):Int),by rw[fI,bO (by omega)],?_⟩;intro ρ4 w4 r4;refine⟨rfl,gu hgw (by have:=r4.ql;exact⟨this.os,this.tape,this.output,this.size,fun j hj _=>this.block j hj (by simp)⟩),rs',e1,e2,e3,e4,by rw[e5,hmod],?_⟩;rw[r4.ql.block g (by have:=hgw.size;omega) (by simp)];exact e6
end Go.Ex
namespace Go.Ex
variable{ms:List Nat}
theorem Jf{t dt:Nat}(PZ:Lm ms)(hl:ms.length=t+1)(TQ:ms[t]? =some dt)(h0:0<dt):32-gk dt<32∧ln (val ms*2^(32-gk dt))=t+1:=by
 have hb0:0<gk dt:=by
  rcases bJ (gk dt)with h|h
  ·have:=zE.1 (Nat.le_of_eq h);simp at this;omega
  ·exact h
 have Ul:gk dt<=32:=zE.2 (PZ.at TQ);have Oc:=zE.1 (aF (gk dt));have hv:val ms=val (ms.take t)+wt t*dt:=by rw[<-dg TQ,List.take_of_length_le (by omega)]
 have On:=o6 (PZ.take t);have hltk:(ms.take t).length=t:=by simp;omega
 rw[hltk]at On;have hw:=zi t;refine⟨by omega,aP ?_ ?_⟩
 ·rw[gP];have h1:val ms<wt t*2^gk dt:=by
   have:wt t*(dt+1)<=wt t*2^gk dt:=bc _ Oc;rw[bW]at this;omega
  have h2:=Nat.mul_lt_mul_of_pos_right h1 (bo (32-gk dt));rw[bg,<-Nat.pow_add,Nat.add_sub_cancel' Ul]at h2;rw[jG,bX 4294967296];exact h2
 ·refine Nat.lt_of_not_le fun h=>?_;have h1:=gP.1 h;have h2:val ms*1<=val ms*2^(32-gk dt):=bc _ (bo _);have h3:wt t*1<=wt t*dt:=bc _ h0;omega
theorem FY{rs:List Nat}{D N k:Nat}(PZ:Lm rs)(hDN:D<wt N)(hk:k+N+1<=rs.length)(h:val rs<wt (k+1)*D):
  val (rs.drop (k+N+1))=0∧val (rs.drop k)=val ((rs.drop k).take (N+1))∧val ((rs.drop k).take (N+1))<4294967296*D:=by
 obtain⟨x,hx⟩:∃q,rs[k]? =some q:=⟨_,aB (by omega)⟩
 have QK:=PZ.at hx;have h1:=ek rs (k+1) (by omega);have h2:val (rs.drop (k+1))<D:=Nat.lt_of_mul_lt_mul_left (a:=wt (k+1)) (by omega);have h3:=ek (rs.drop (k+1)) N (by simp;omega);rw[List.drop_drop,show k+1+N=k+N+1 by omega]at h3;have h4:val (rs.drop (k+N+1))=0:=by
  rcases bJ (val (rs.drop (k+N+1)))with h|h
  ·exact h
  ·have:=bc (wt N) h;omega
 have h5:=ek (rs.drop k) (N+1) (by simp;omega);rw[List.drop_drop,show k+(N+1)=k+N+1 by omega,h4,Nat.mul_zero,bz]at h5;have h6:=jT hx;exact⟨h4,h5,by omega⟩
theorem LH{rs rs' out:List Nat}{D N k P V:Nat}(hD:0<D)(PZ:Lm rs)(hlen:rs'.length=rs.length)(hDN:D<wt N)(hk:k+N+1<=rs.length)(h:val rs<wt (k+1)*D)(hV:V=wt (k+1)*(D*val (out.drop (k+1)))+val rs)
  (hP:val ((rs.drop k).take (N+1))=P) (h1:rs'.take k=rs.take k) (h2:rs'.drop (k+N+1)=rs.drop (k+N+1)) (h3:val ((rs'.drop k).take (N+1))=P % D) (ho:k<out.length):
  val rs'<wt k*D∧V=wt k*(D*val ((out.set k (P / D)).drop k))+val rs':=by
 obtain⟨a1,a2,a3⟩:=FY PZ hDN hk h;have b1:=ek rs k (by omega);have b2:=ek rs' k (by omega);have b3:=ek (rs'.drop k) (N+1) (by simp;omega);rw[List.drop_drop,show k+(N+1)=k+N+1 by omega,h2,a1,Nat.mul_zero,bz,h3]at b3;rw[h1,b3]at b2;rw[a2,hP]at b1;have b4:=o6 (PZ.take k);have b5:(rs.take k).length=k:=by simp;omega
 rw[b5]at b4;have b6:=bw P hD;have b7:(out.set k (P / D))[k]? =some (P / D):=by rw[aV ho]
 have b8:=Nat.div_add_mod P D;refine⟨?_,?_⟩
 ·have:wt k*(P % D+1)<=wt k*D:=bc _ b6;rw[bW]at this;omega
 ·rw[jT b7,List.drop_set_of_lt (show k<k+1 by omega),hV,b1,b2,jG];generalize val (out.drop (k+1))=o;have c1:wt k*P=wt k*(D*(P / D))+wt k*(P % D):=by rw[<-bW,b8]
  have c2:4294967296*wt k*(D*o)=wt k*(D*(4294967296*o)):=by
   rw[bX 4294967296,bg,Nat.mul_left_comm 4294967296]
  rw[c1,c2,bW D,bW (wt k)];omega
theorem Jg{n m b:Nat}(hm:0<m)(Vy:m<=n):n*2^b<wt (ln n+1-ln m)*(m*2^b):=by
 have h1:=mD n;have h2:=fM Vy;have h3:wt (ln m-1)<=m:=by
  refine Nat.le_of_not_lt fun h=>?_;have:=gP.2 h;have h4:0<ln m:=by
   rcases bJ (ln m)with h|h
   ·have:=gP.1 (Nat.le_of_eq h);rw[j3]at this;omega
   ·exact h
  omega
 have h4:0<ln m:=by
  rcases bJ (ln m)with h|h
  ·have:=gP.1 (Nat.le_of_eq h);rw[j3]at this;omega
  ·exact h
 have h5:wt (ln n)<=wt (ln n+1-ln m)*m:=by
  rw[show ln n=(ln n+1-ln m)+(ln m-1) by omega,Dj,show(ln n+1-ln m)+(ln m-1)+1-ln m=ln n+1-ln m by omega];exact bc _ h3
 rw[<-bg];exact Nat.mul_lt_mul_of_pos_right (Nat.lt_of_lt_of_le h1 h5) (bo b)
theorem My{n m b o r:Nat}(hm:0<m)(h1:n*2^b=m*2^b*o+r)(h2:r<m*2^b):o=n / m∧r / 2^b=n % m:=by
 have hp:=bo b;have h3:n*2^b / (m*2^b)=o:=by rw[h1,Nat.mul_add_div (Nat.mul_pos hm hp),Nat.div_eq_of_lt h2,bz]
 have h4:n*2^b % (m*2^b)=r:=by rw[h1,Nat.mul_add_mod,bO h2]
 rw[Nat.mul_div_mul_right _ _ hp]at h3;rw[Nat.mul_mod_mul_right]at h4;exact⟨h3.symm,by rw[<-h4,Nat.mul_div_cancel _ hp]⟩
end Go.Ex
namespace Go.Ex
open Go Go.Sx Go.Proofs
variable{H:Hp}{x y z:Int}{iv:Iv}{ls:List Nat}{n nx:Nat}{S:Nat->Prop}{O:Nat->Sx.di}{u v:Value}{w w' w1:World}
theorem Iw{g:Nat}{rs:List Nat}(hg:w.heap[g]? =some (.cells (U rs).toArray T.uint32 (0,0)))(PZ:Lm rs)(hl:rs.length<=1000000000000):
  dP w (fun x=>x=g) (.slice (some ⟨g,0,none⟩) rs.length rs.length) rs:=by
 have:=Ir (k:=0) (m:=rs.length) (c:=rs.length) hg PZ (by omega) (aF _) hl
 rwa [List.drop_zero,bG]at this
theorem qm{m:Nat}(hS:Old S w)(hn:eB w S v n)(hm:eB w S u m)(TR:0<m)(S3:ln n<=100000000000):
  eD PG N.oD #[v,u] w (eG w fun v' w2=>∃q r,v'= .tuple #[q,r]∧eB w2 (Nf w w2) q (n / m)∧eB w2 (Nw S w w2) r (n % m)):=by
 have hnN:=hn;have UA:=hm;obtain⟨x,rfl,Qu,QU⟩:=hn.la;obtain⟨y,rfl,R5,QO⟩:=hm.la;have Pk:=eP x.lm QU;have Vc:=eP y.lm QO;rw[Qu]at Pk;rw[R5]at Vc;refine rz (by simp) ?_;refine cD (cO (Φ:=fun _ _ v _=>v= .int .i64 (tU n m)) (fun O w' r=>Lo (S:=S) (fun g hg=>by have:=hS g hg;have:=r.cQ.size;omega) (hnN.cI fun g hg=>r.cQ.block g (hS g hg)) (UA.cI fun g hg=>r.cQ.block g (hS g hg))) ?_);rintro O w1 v1 w2 r he hw rfl;refine dI.mk ?_ ?_<;>intro h
 ·have h:n<m:=by
   have:=aI h;unfold tU at this;split at this
   ·assumption
   ·split at this<;>omega
  intro ρ3 w3 r3;refine⟨_,rfl,hw.tr r3.cQ,_,_,rfl,?_,?_⟩
  ·rw[Nat.div_eq_of_lt h];exact eB.nil _ _
  ·rw[bO h];exact(hnN.cI fun g hg=>(hw.tr r3.cQ).block g (hS g hg)).cJ fun g hg=>.inl hg
 have h:m<=n:=by
  have:=aH h;unfold tU at this;split at this
  ·omega
  ·omega
 have hlmn:=fM h;refine dI.mk ?_ ?_<;>intro h1
 ·have h1:y.ls.length=1:=by have:=eq_of_beq h1;omega
  obtain⟨b,Ui⟩:=List.length_eq_one_iff.1 h1;have hb:y.ls[0]? =some b:=by rw[Ui];rfl
  have Ul:=y.lm.at hb;have RJ:m=b:=by rw[<-R5,Ui];simp[val]
  subst RJ;obtain⟨ad,Ol,PF⟩:=y.load hS hw hb;refine⟨ad,Ol,by omega,.int .u32 m,PF _ _ _,?_⟩;refine cD (cO (Φ:=fun _ w' v w2=>∃q,v= .tuple #[q,.int .u32 ((val x.ls % m:Nat):Int)]∧eB w2 (Nf w' w2) q (val x.ls / m)) (fun O w' r=>?_) ?_)
  ·refine NP (S:=S) (fun g hg=>by have:=hS g hg;have:=(hw.tr r.cQ).size;omega) ⟨x.lm,x.le,_,_,rfl,x.cap,fun j u hu=>?_⟩ (by omega) TR Ul;obtain⟨ad,e1,e2,e3⟩:=x.cell j u hu;exact⟨ad,e1,e2,kR hS hw r e2 e3⟩
  rintro O w3 v3 w4 r he Rn ⟨q,rfl,hq⟩;replace hw:=hw.tr Rn;have UU:=hq.dB (S:=FF) r.cF (iv:=(w3.heap.size,w4.heap.size)::[(w1.heap.size,w2.heap.size)]) aG;rw[Qu]at UU;rw[Qu];generalize (w3.heap.size,w4.heap.size)::[(w1.heap.size,w2.heap.size)]=iv at*
  have Qg:n % m<m:=bw _ TR;generalize n % m=rem at*
  refine gj (Φ:=fun O _ v w2=>dP w2 (fun g=>g=(O 0).g) v (eA [rem])) (H':=[]) 0 rfl (by simp) trivial rfl (fun O w' r=>r.nn 0 _ rfl (by intros;simp) (by simp)) (fun O w' r=>?_) ?_
  ·have hL:=r.vJ (id:=0) (ls:=[rem]) rfl (by intro x hx;simp at hx;omega) (by simp);exact fU (fun g hg=>by rw[hg];exact(r.low 0 _ rfl (r.nn 0 _ rfl (by intros;simp) (by simp))).2) hL
  rintro O w5 v5 w6 r he hb6 hL;have On:=r.low 0 _ rfl (r.nn 0 _ rfl (by intros;simp) (by simp));have hs:=he.size;replace hw:=hw.tr hb6;replace UU:=UU.cG (iv':=((O 0).g,(O 0).g+1)::(w5.heap.size,w6.heap.size)::iv) r (fun g h=>h.elim) he fun x hx=>by simp[hx]
  generalize (O 0).g=g0 at*
  have WA:eB w6 (Cf w ((g0,g0+1)::(w5.heap.size,w6.heap.size)::iv)) v5 rem:=by
   have:=hL.trimmed;simp only[val,Nat.mul_zero,bz]at this;exact this.cJ fun k hk=>.inr ⟨by omega,g0,g0+1,by simp,by omega,by omega⟩
  generalize (g0,g0+1)::(w5.heap.size,w6.heap.size)::iv=ON at*
  intro ρ3 w7 r3;exact⟨_,rfl,hw.tr r3.cQ,_,_,rfl,(UU.rel r3 fun g h=>h.elim).cJ fun g hg=>Cv.nw hg r3,((WA.rel r3 fun g h=>h.elim).cJ fun g hg=>Cv.nw hg r3).cJ fun g hg=>hg.elim (fun h=>h.elim) .inr⟩
 ·have h1:y.ls.length≠1:=fun e=>by rw[e]at h1;simp at h1
  have SK:0<ln m:=by
   rcases bJ (ln m)with h|h
   ·have:=gP.1 (Nat.le_of_eq h);rw[j3]at this;omega
   ·exact h
  obtain⟨t,ht⟩:∃t,y.ls.length=t+1:=⟨y.ls.length-1,by omega⟩
  obtain⟨dt,TQ⟩:∃q,y.ls[t]? =some q:=⟨_,aB (by omega)⟩
  have hdt0:0<dt:=by
   have:=QO dt (by rw[List.getLast?_eq_getElem?,ht];exact TQ);omega
  have Wl:=y.lm.at TQ;obtain⟨PY,WC⟩:=Jf y.lm ht TQ hdt0;rw[R5]at WC;obtain⟨ad,Ol,PF⟩:=y.load hS hw TQ;refine⟨(t:Int),wo,ad,Ol,by omega,.int .u32 dt,PF _ _ _,?_⟩;refine cD (cO (Φ:=fun _ _ v _=>v= .int .i64 ((32-gk dt:Nat):Int)) (fun O w' r=>aAY dt w' Wl) ?_);rintro O w3 v3 w4 r he Rn rfl;replace hw:=hw.tr Rn;generalize hbyd:32-gk dt=b at*
  refine⟨(b:Int),ed (by omega),?_⟩;refine cD (cO (Φ:=fun _ w' v w2=>∃out,Lt w' w2 v out∧out.length=y.ls.length+1∧val out=val y.ls*2^b) (fun O w' r=>?_) ?_)
  ·refine DG (S:=S) (fun g hg=>by have:=hS g hg;have:=(hw.tr r.cQ).size;omega) ⟨y.lm,y.le,_,_,rfl,y.cap,fun j u hu=>?_⟩ (by omega) PY;obtain⟨ad,e1,e2,e3⟩:=y.cell j u hu;exact⟨ad,e1,e2,kR hS hw r e2 e3⟩
  rintro O w5 v5 w6 r he hb6 ⟨dl,⟨gd,rfl,hgd1,hgd2,hgd3⟩,TL,hdv⟩;replace hw:=hw.tr hb6;rw[R5]at hdv;have hB5:w.heap.size<=w5.heap.size:=r.cF;have Sg:Cf w ((w5.heap.size,w6.heap.size)::[(w3.heap.size,w4.heap.size),(w1.heap.size,w2.heap.size)]) gd:=.inr ⟨by omega,_,_,aG,hgd1,k8 hgd2⟩;generalize (w5.heap.size,w6.heap.size)::[(w3.heap.size,w4.heap.size),(w1.heap.size,w2.heap.size)]=iv at*
  have hF:∀g:Nat,(fun _:Nat=>False) g->g<w.heap.size:=fun g h=>h.elim;refine cD (cO (Φ:=fun _ _ v w2=>dP w2 (fun x=>x=gd) v (eA dl)) (fun O w' r=>fU (fun g hg=>by rw[hg];exact Rel.old r hF gd Sg) (Iw (by rw[Rel.same r hF Sg];exact hgd2) hgd3 (by omega))) ?_);rintro O w7 v6 w8 r he hb8 hL;replace hw:=hw.tr hb8;have hgd8:gd<w8.heap.size:=by have:=Rel.old r hF gd Sg;have:=he.size;omega
  replace Sg:=Sg.mono (iv':=(w7.heap.size,w8.heap.size)::iv) fun p hp=>List.mem_cons_of_mem _ hp;have Up:=hL.trimmed;rw[hdv]at Up;generalize (w7.heap.size,w8.heap.size)::iv=iv at*
  obtain⟨dp,rfl,Sl,PM⟩:=Up.la;have hdpl:=eP dp.lm PM;rw[Sl,WC]at hdpl;generalize hDd:m*2^b=D at*
  have hD0:0<D:=by rw[<-hDd];exact Nat.mul_pos TR (bo b)
  refine cD (cO (Φ:=fun _ w' v w2=>∃out,Lt w' w2 v out∧out.length=x.ls.length+1∧val out=val x.ls*2^b) (fun O w' r=>?_) ?_)
  ·refine DG (S:=S) (fun g hg=>by have:=hS g hg;have:=(hw.tr r.cQ).size;omega) ⟨x.lm,x.le,_,_,rfl,x.cap,fun j u hu=>?_⟩ (by omega) PY;obtain⟨ad,e1,e2,e3⟩:=x.cell j u hu;exact⟨ad,e1,e2,kR hS hw r e2 e3⟩
  rintro O w9 v9 w10 r he hb10 ⟨rs0,⟨gr,rfl,hgr1,hgr2,hgr3⟩,Ou,hrv⟩;replace hw:=hw.tr hb10;rw[Qu]at hrv;have hB9:w.heap.size<=w9.heap.size:=r.cF;have TM:Cf w ((w9.heap.size,w10.heap.size)::iv) gr:=.inr ⟨by omega,_,_,aG,hgr1,k8 hgr2⟩;have OJ:gr≠gd:=by have:=r.size;omega
  replace Up:eB w10 (fun x=>x=gd) (.slice dp.a dp.ls.length dp.c) D:=Up.cI fun x hx=>by
   rw[hx,he.block gd (Rel.old r hF gd Sg),Rel.same r hF Sg]
  have hgd10:gd<w10.heap.size:=by have:=Rel.old r hF gd Sg;have:=he.size;omega
  replace Sg:=Sg.mono (iv':=(w9.heap.size,w10.heap.size)::iv) fun p hp=>List.mem_cons_of_mem _ hp;generalize (w9.heap.size,w10.heap.size)::iv=iv at*
  have hgrB:w.heap.size<=gr:=by omega
  obtain⟨L,hL⟩:∃L,rs0.length=t+1+L:=⟨rs0.length-(t+1),by omega⟩
  refine⟨(L:Int),wo,L,L,rfl,rfl,aF _,by omega,by omega,(L:Int)-1,wo,Nat×List Nat×List Nat×World,fun z=>⟨[(8,.o (.v (.int .u64 b))),(9,sV dp.a dp.ls.length dp.c),(10,.o (.v (.slice (some ⟨gr,0,none⟩) rs0.length rs0.length))),(11,.o (.s 0 0 L L)),(12,.o (.v (.int .i64 ((z.1:Int)-1))))],
    [(0,.arr T.uint32 (U z.2.1))],1,iv,z.2.2.2⟩,fun z=>z.1,
   fun z=>z.1<=L∧dm w.heap.size w z.2.2.2∧z.2.1.length=L∧z.2.2.1.length=rs0.length∧Lm z.2.1∧Lm z.2.2.1∧z.2.2.2.heap[gr]? =some (.cells (U z.2.2.1).toArray T.uint32 (0,0))∧eB z.2.2.2 (fun x=>x=gd) (.slice dp.a dp.ls.length dp.c) D∧
    gd<z.2.2.2.heap.size∧val z.2.2.1<wt z.1*D∧n*2^b=wt z.1*(D*val (z.2.1.drop z.1))+val z.2.2.1,?_,?_⟩
  ·intro O w' r;rw[tV]at r;refine⟨(L,List.replicate L 0,rs0,w'),⟨aF _,hw.tr r.cQ,by simp,rfl,Lm.replicate _,hgr3,?_,?_,?_,?_,?_⟩,Sub.gn [] r⟩
   ·dsimp only;rw[Rel.same r hF TM];exact hgr2
   ·exact Up.cI fun x hx=>by rw[hx];exact Rel.same r hF Sg
   ·exact Rel.old r hF gd Sg
   ·dsimp only
    have:=Jg (b:=b) TR h;rw[hDd,<-Vc,ht,<-Pk,show x.ls.length+1-(t+1)=L by omega]at this;rw[hrv];exact this
   ·dsimp only;rw[hrv];simp[val]
  ·rintro⟨k,out,rs,w11⟩ ⟨hk,hw,Q4,Qi,R4,hlr,Pc,Up,RY,hi1,Qh⟩;dsimp only at hk hw Q4 Qi R4 hlr Pc Up RY hi1 Qh ⊢;refine dI.mk ?_ ?_<;>intro h9
   ·have h9:(k:Int)-1≥0:=aI h9;obtain⟨k,rfl⟩:∃q,k=q+1:=⟨k-1,by omega⟩
    rw[show ((k+1:Nat):Int)-1=(k:Int) by omega];have hDN:D<wt (t+1):=gP.1 (Nat.le_of_eq WC);obtain⟨a1,a2,a3⟩:=FY (N:=t+1) hlr hDN (by omega) hi1;have hdig:=fun(w':World)=>@NO (fun x=>x=gd) w' (.slice dp.a dp.ls.length dp.c) D gr k rs;rw[WC]at hdig;simp only[Qi]at hdig;generalize hP:val ((rs.drop k).take (t+1+1))=P at*
    have hQ32:P / D<4294967296:=(Nat.div_lt_iff_lt_mul hD0).2 (by rw[bX]at a3;omega);refine⟨fun O w' r=>(hdig w' (fun g hg=>by rw[hg];exact Rel.old r hF gd Sg) OJ (Up.cI fun x hx=>by rw[hx];exact Rel.same r hF Sg) hD0 (by rw[Rel.same r hF TM];exact Pc) hlr (by omega) (by omega) a3).mono fun e w12 he=>?_⟩;obtain⟨rfl,hgb,rs',e1,e2,e3,e4,e5,e6⟩:=he;refine⟨_,_,_,rfl,r.z5 (fun id b hb hn=>Rel.not r hF TM id b hb hn) hgb,?_⟩;obtain⟨hi1',hi2'⟩:=LH (N:=t+1) hD0 hlr (e1.trans Qi.symm) hDN (by omega) hi1 Qh hP e3 e4 e5 (by omega);have hw12:dm w.heap.size w w12:=(hw.tr r.cQ).tr (dm.grown hgb (fun g hg=>by injection hg with hg;omega) r.cF);have hdN12:eB w12 (fun x=>x=gd) (.slice dp.a dp.ls.length dp.c) D:=Up.cI fun x hx=>by
     rw[hx,hgb.block gd (Rel.old r hF gd Sg) (fun e=>OJ (Option.some.inj e).symm),Rel.same r hF Sg]
    have hgd12:gd<w12.heap.size:=by have:=Rel.old r hF gd Sg;have:=hgb.size;omega
    generalize P / D=Q at*
    refine⟨by omega,by rw[gR];omega,U (out.set k Q),jL out k _ (by omega) (by simp),(k:Int)-1,wo,?_⟩;intro ρ3 w3 r3
    refine⟨(k,out.set k Q,rs',w3),⟨by dsimp only;omega,hw12.tr r3.cQ,by simp[Q4],e1.trans rfl,R4.set hQ32,e2,?_,?_,?_,hi1',hi2'⟩,
     Sub.gn [] r3,by dsimp only;omega⟩
    ·dsimp only;rw[Rel.same r3 hF TM];exact e6
    ·exact hdN12.cI fun x hx=>by rw[hx];exact Rel.same r3 hF Sg
    ·exact Rel.old r3 hF gd Sg
   ·have Sd:k=0:=by
     have:¬(k:Int)-1≥0:=aH h9;omega
    subst Sd;rw[j3,Nat.one_mul,List.drop_zero]at Qh;rw[j3,Nat.one_mul]at hi1;rw[<-hDd]at hi1 Qh;obtain⟨hq,hrem⟩:=My TR Qh hi1;have SL:∀w':World,w'.heap[gr]? =some (.cells (U rs).toArray T.uint32 (0,0))->dP w' (fun x=>x=gr) (.slice (some ⟨gr,0,none⟩) rs0.length rs0.length) rs:=fun w' hh=>by
     have:=Iw hh hlr (by omega)
     rwa [Qi]at this
    refine gj (Φ:=fun O _ v w2=>dP w2 (fun g=>g=(O 0).g) v (eA out)) (H':=[]) 0 rfl (by simp) trivial rfl (fun O w' r=>r.nn 0 _ rfl (by intros;simp) (by simp)) (fun O w' r=>?_) ?_
    ·have hL:=r.oH (id:=0) rfl R4 (by omega);rw[Q4]at hL;exact fU (fun g hg=>by rw[hg];exact(r.low 0 _ rfl (r.nn 0 _ rfl (by intros;simp) (by simp))).2) hL
    rintro O w13 v13 w14 r he hb14 hL;replace hw:=hw.tr hb14;have On:=r.low 0 _ rfl (r.nn 0 _ rfl (by intros;simp) (by simp));have hs:=he.size;have hgr14:w14.heap[gr]? =some (.cells (U rs).toArray T.uint32 (0,0)):=by rw[he.block gr (Rel.old r hF gr TM),Rel.same r hF TM];exact Pc
    replace TM:=TM.mono (iv':=((O 0).g,(O 0).g+1)::(w13.heap.size,w14.heap.size)::iv) fun p hp=>by simp[hp]
    have UU:eB w14 (Cf w (((O 0).g,(O 0).g+1)::(w13.heap.size,w14.heap.size)::iv)) v13 (n / m):=by
     have:=hL.trimmed;rw[hq]at this;exact this.cJ fun k hk=>.inr ⟨by omega,_,_,aG,by omega,by omega⟩
    generalize ((O 0).g,(O 0).g+1)::(w13.heap.size,w14.heap.size)::iv=OU at*
    refine cD (cO (Φ:=fun _ _ v w2=>dP w2 (fun x=>x=gr) v (eA rs)) (fun O w' r=>fU (fun g hg=>by rw[hg];exact Rel.old r hF gr TM) (SL w' (by rw[Rel.same r hF TM];exact hgr14))) ?_);rintro O w15 v15 w16 r he hb16 hL;replace hw:=hw.tr hb16;replace UU:=UU.cG (iv':=(w15.heap.size,w16.heap.size)::OU) r hF he fun x hx=>List.mem_cons_of_mem _ hx;replace hL:=hL.cJ (S':=Cf w ((w15.heap.size,w16.heap.size)::OU)) fun g hg=>by rw[hg];exact TM.cons
    generalize (w15.heap.size,w16.heap.size)::OU=OW at*
    have SM:(eA rs).length<=rs.length:=by
     obtain⟨_,_,k,_,hk⟩:=fC rs;rw[hk];simp;omega
    refine cD (cO (Φ:=fun _ w' v w2=>eB w2 (Nf w' w2) v (val (eA rs) / 2^b)) (fun O w' r=>aA0 (Rel.old r hF) (dP.rel hL r hF) (by omega) PY) ?_);rintro O w17 v17 w18 r he hb18 hr;replace hw:=hw.tr hb18;rw[(fC rs).1,hrem]at hr;have WA:=hr.dB (S:=FF) r.cF (iv:=(w17.heap.size,w18.heap.size)::OW) aG;replace UU:=UU.cG (iv':=(w17.heap.size,w18.heap.size)::OW) r hF he fun x hx=>List.mem_cons_of_mem _ hx;generalize (w17.heap.size,w18.heap.size)::OW=Pb at*
    intro ρ3 w19 r3;exact⟨_,rfl,hw.tr r3.cQ,_,_,rfl,(UU.rel r3 hF).cJ fun g hg=>Cv.nw hg r3,((WA.rel r3 hF).cJ fun g hg=>Cv.nw hg r3).cJ fun g hg=>hg.elim (fun h=>h.elim) .inr⟩
theorem GP{m:Nat}(hS:Old S w)(hn:eB w S v n)(hm:eB w S u m)(S3:ln n<=100000000000)(PZ:ln m<=100000000000):
  eD PG N.uj #[v,u] w (eG w fun v' w2=>eB w2 (Nw S w w2) v' (Nat.gcd n m)):=by
 refine yn (by simp) ?_
 refine⟨(Value×Nat)×(Value×Nat)×Iv×World,fun z=>⟨[(0,.o (.v z.1.1)),(1,.o (.v z.2.1.1))],[],0,z.2.2.1,z.2.2.2⟩,fun z=>z.2.1.2,
  fun z=>dm w.heap.size w z.2.2.2∧eB z.2.2.2 (Cv S w.heap.size z.2.2.1) z.1.1 z.1.2∧eB z.2.2.2 (Cv S w.heap.size z.2.2.1) z.2.1.1 z.2.1.2∧ln z.1.2<=100000000000∧ln z.2.1.2<=100000000000∧Nat.gcd z.1.2 z.2.1.2=Nat.gcd n m,?_,?_⟩
 ·intro O w' r
  exact⟨((v,n),(u,m),[],w'),⟨r.cQ,(hn.cI fun g hg=>r.cQ.block g (hS g hg)).cJ fun _ hg=>.inl hg,(hm.cI fun g hg=>r.cQ.block g (hS g hg)).cJ fun _ hg=>.inl hg,S3,PZ,rfl⟩,
   Sub.gen [] r trivial ⟨rfl,rfl,trivial⟩ trivial (by simp[jQ,SV.sc,At.sc]) (by rfl) (by simp)⟩
 ·rintro⟨⟨vx,x⟩,⟨vy,y⟩,iv,w1⟩ ⟨hw,hx,hy,Oo,Qb,hg⟩;dsimp only at hw hx hy Oo Qb hg ⊢;have hyN:=hy;obtain⟨p,rfl,Qu,QU⟩:=hy.la;have Pe:=eP p.lm QU;rw[Qu]at Pe;refine dI.mk ?_ ?_<;>intro h
  ·have h:0<p.ls.length:=by
    have:(p.ls.length:Int)>0:=aI h;omega
   have Pw:0<y:=by
    rcases bJ y with h0|h0
    ·rw[h0]at Pe;rw[Mu]at Pe;omega
    ·exact h0
   refine cD (cO (Φ:=fun _ w' v w2=>∃q r,v= .tuple #[q,r]∧eB w2 (Nf w' w2) q (x / y)∧eB w2 (Nw (Cv S w.heap.size iv) w' w2) r (x % y)) (fun O w' r=>qm (Rel.old r hS) (hx.rel r hS) (hyN.rel r hS) Pw Oo) ?_);rintro O w3 v3 w4 r he Rn ⟨q,rm,rfl,-,hr⟩;replace hw:=hw.tr Rn;have WA:eB w4 (Cv S w.heap.size ((w3.heap.size,w4.heap.size)::iv)) rm (x % y):=hr.cJ fun g hg=>Nw.cv hg r.cF;have hyN:=hyN.cG (iv':=(w3.heap.size,w4.heap.size)::iv) r hS he fun x hx=>List.mem_cons_of_mem _ hx;generalize (w3.heap.size,w4.heap.size)::iv=ON at*
   intro ρ5 w5 r5
   refine⟨((_,y),(rm,x % y),ON,w5),⟨hw.tr r5.cQ,hyN.rel r5 hS,WA.rel r5 hS,Qb,aY (fM (Nat.le_of_lt (bw x Pw))) Qb,?_⟩,
    Sub.gen [] r5 trivial ⟨rfl,rfl,trivial⟩ trivial (by simp[jQ,SV.sc,At.sc]) (by rfl) (by simp),bw x Pw⟩
   dsimp only
   rw[<-hg,Nat.gcd_comm x y,Nat.gcd_rec y x,Nat.gcd_comm]
  ·have h:p.ls.length=0:=by
    have:¬(p.ls.length:Int)>0:=aH h;omega
   have Pw:y=0:=by
    have:=mD y;rw[<-Pe,h,j3]at this;omega
   rw[Pw,Nat.gcd_zero_right]at hg;intro ρ5 w5 r5;exact⟨_,rfl,hw.tr r5.cQ,by rw[<-hg];exact(hx.rel r5 hS).cJ fun g hg=>Cv.nw hg r5⟩
def sg(neg:Bool)(n:Nat):Int:=if neg then -(n:Int)else n
theorem MF(n:Nat):sg true n= -(n:Int):=rfl
theorem aA4(n:Nat):sg false n=n:=rfl
theorem tf(b:Bool)(n:Nat):(sg b n).natAbs=n:=by cases b<;>simp[sg]
def vO(w:World)(S:Nat->Prop)(v:Value)(neg:Bool)(ls:List Nat):Prop:=∃lv,v= .agg #[.bool neg,lv]∧dP w S lv ls
def eQ(w:World)(S:Nat->Prop)(v:Value)(z:Int):Prop:=∃nv,v= .agg #[.bool (decide (z<0)),nv]∧eB w S nv z.natAbs
section
variable{S S':Nat->Prop}{H:Hp}{nx:Nat}{iv iv':Iv}{B:Nat}{w w' w2:World}{O:Nat->Sx.di}{v:Value}{z:Int}
theorem eQ.cI(h:eQ w S v z)(hk:∀g,S g->w2.heap[g]? =w.heap[g]?):eQ w2 S v z:=by
 obtain⟨nv,h1,h2⟩:=h;exact⟨nv,h1,h2.cI hk⟩
theorem eQ.cJ(h:eQ w S v z)(hk:∀g,S g->S' g):eQ w S' v z:=by
 obtain⟨nv,h1,h2⟩:=h;exact⟨nv,h1,h2.cJ hk⟩
theorem eQ.rel(h:eQ w (Cv S B iv) v z)(r:Rel H nx iv B w O w')(hS:∀g,S g->g<B):eQ w' (Cv S B iv) v z:=h.cI fun _ hg=>Rel.same r hS hg
theorem eQ.cG(h:eQ w (Cv S B iv) v z)(r:Rel H nx iv B w O w')(hS:∀g,S g->g<B)(he:Ext w' w2)(hm:∀p,p∈iv->p∈iv'):eQ w2 (Cv S B iv') v z:=by
 obtain⟨nv,h1,h2⟩:=h;exact⟨nv,h1,h2.cG r hS he hm⟩
theorem eQ.dB(h:eQ w2 (Nf w' w2) v z)(hB:B<=w'.heap.size)(hm:(w'.heap.size,w2.heap.size)∈iv):eQ w2 (Cv S B iv) v z:=h.cJ fun _ hg=>hg.dB hB hm
end
theorem xH{k:Nat}(h:k=ln n):0<k↔0<n:=by
 have h1:=@gP n 0;rw[j3]at h1;omega
theorem dP.shape(h:dP w S v ls):∃a n c,v= .slice a n c:=by
 obtain⟨a,c,h,_⟩:=h.sl;exact⟨a,_,c,h⟩
theorem eB.shape(h:eB w S v n):∃a n c,v= .slice a n c:=by
 obtain⟨_,h,_⟩:=h;exact h.shape
theorem dP.arg(h:dP w S v ls)(iv:Iv):dP w (Cv S w.heap.size iv) v ls:=h.cJ fun _ h=>.inl h
theorem eB.arg(h:eB w S v n)(iv:Iv):eB w (Cv S w.heap.size iv) v n:=h.cJ fun _ h=>.inl h
theorem eB.out(h:eB w1 (Cv S w.heap.size iv) v n)(r:Rel H nx iv w.heap.size w1 O w')(hS:Old S w):eB w' (Nw S w w') v n:=
 (h.rel r hS).cJ fun _ hg=>Cv.nw hg r
theorem eQ.out(h:eQ w1 (Cv S w.heap.size iv) v z)(r:Rel H nx iv w.heap.size w1 O w')(hS:Old S w):eQ w' (Nw S w w') v z:=
 (h.rel r hS).cJ fun _ hg=>Cv.nw hg r
theorem neg_pos{k:Nat}(h:k=ln n):decide ((k:Int)>0)=decide (-(n:Int)<0):=by
 have:=xH h;exact decide_eq_decide.2 (by omega)
theorem cC(w:World):Old FF w:=fun _ h=>h.elim
theorem aBW{neg:Bool}(hS:Old S w)(h:vO w S v neg ls):
  eD PG N.Al #[v] w (eG w fun v' w2=>eQ w2 (Nw S w w2) v' (sg neg (val ls))):=by
 obtain⟨lv,rfl,hl⟩:=h;replace hl:=hl.arg [];refine GC (by simp) ?_;refine cD (cO (Φ:=fun _ _ v w2=>dP w2 (Cv S w.heap.size []) v (eA ls)) (fun O w' r=>fU (Rel.old r hS) (dP.rel hl r hS)) ?_);rintro O w1 v1 w2 r he hw hL;have hN:=hL.trimmed.cJ (S':=Cv S w.heap.size [(w1.heap.size,w2.heap.size)]) fun _ hg=>hg.cons;have hN2:=hN;obtain⟨p,rfl,Qu,QU⟩:=hN.la;have Pe:=eP p.lm QU;rw[Qu]at Pe
 cases neg
 ·intro ρ3 w3 r3;exact⟨_,rfl,hw.tr r3.cQ,_,rfl,by rw[tf];exact hN2.out r3 hS⟩
 ·intro ρ3 w3 r3;exact⟨_,rfl,hw.tr r3.cQ,_,by rw[MF,<-neg_pos Pe];rfl,by rw[tf];exact hN2.out r3 hS⟩
theorem MG(hS:Old S w)(h:eQ w S v z)(S3:ln z.natAbs<=100000000000):
  eD PG N.mw #[v] w (eG w fun v' w2=>∃ls,vO w2 (Nf w w2) v' (decide (z<0)) ls∧Nz ls∧val ls=z.natAbs):=by
 obtain⟨nv,rfl,hn⟩:=h;obtain⟨ls,hl,hz,hv⟩:=hn;replace hl:=hl.arg [];refine qi (by simp) ?_;refine cD (cO (Φ:=fun _ _ v w2=>dP w2 (Cv S w.heap.size []) v (eA ls)) (fun O w' r=>fU (Rel.old r hS) (dP.rel hl r hS)) ?_);rintro O w1 v1 w2 r he hw hL;rw[FQ hz]at hL;have Pe:=eP hl.lm hz;rw[hv]at Pe;replace hL:=hL.cJ (S':=Cv S w.heap.size [(w1.heap.size,w2.heap.size)]) fun _ hg=>hg.cons;have hL2:=hL;obtain⟨p,rfl,hp⟩:=hL.la;have Ve:(p.ls.length:Int)>0↔z≠0:=by
  have h1:=xH Pe;rw[hp];omega
 subst hp;generalize hb:decide (z<0)=b
 cases b
 all_goals
  refine cD (cO (Φ:=fun _ w' v w2=>dP w2 (Nf w' w2) v p.ls) (fun O w' r=>Iq (Rel.old r hS) (dP.rel hL2 r hS) (by omega)) ?_);rintro O w3 v3 w4 r he Rn hc;replace hw:=hw.tr Rn;have Sw:=hc.dB (S:=FF) r.cF (iv:=(w3.heap.size,w4.heap.size)::[(w1.heap.size,w2.heap.size)]) aG;obtain⟨a3,n3,c3,rfl⟩:=Sw.shape;intro ρ5 w5 r5;refine⟨_,rfl,hw.tr r5.cQ,p.ls,⟨_,?_,(dP.rel Sw r5 (cC w)).cJ fun _ hg=>Cv.nw hg r5⟩,hz,hv⟩
 ·rfl
 ·have:decide ((p.ls.length:Int)>0)=true:=bS (Ve.2 (by have:=aI hb;omega));rw[<-this];rfl
theorem BU(h:eQ w S v z):eD PG N.mr #[v] w (eG w fun v' _=>v'= .int .i64 z.sign):=by
 obtain⟨nv,rfl,hn⟩:=h;obtain⟨p,rfl,Qu,QU⟩:=hn.la;have Pe:=eP p.lm QU;rw[Qu]at Pe;have Ve:=xH Pe;generalize hb:decide (z<0)=b;refine qg (by simp) ?_;refine dI.mk ?_ ?_<;>intro h
 ·have h:p.ls.length=0:=by have:=eq_of_beq h;omega
  have hz:z=0:=by omega
  subst hz;intro O w2 r;exact⟨_,rfl,r.cQ,rfl⟩
 ·have h:p.ls.length≠0:=fun e=>by rw[e]at h;simp at h
  have hz:z≠0:=by omega
  cases b
  ·have:=aH hb;intro O w2 r;exact⟨_,rfl,r.cQ,by rw[bf (by omega)];rfl⟩
  ·have:=aI hb;intro O w2 r;exact⟨_,rfl,r.cQ,by rw[bZ (by omega)];rfl⟩
theorem pG(hS:Old S w)(h:eQ w S v z):eD PG N.mR #[v] w (eG w fun v' w2=>eQ w2 (Nw S w w2) v' (-z)):=by
 obtain⟨nv,rfl,hn⟩:=h;have Rr:=hn.arg [];obtain⟨p,rfl,Qu,QU⟩:=hn.la;have Pe:=eP p.lm QU;rw[Qu]at Pe;have Ve:=xH Pe;have Py:(-z).natAbs=z.natAbs:=cB z;generalize hb:decide (z<0)=b;refine pg (by simp) ?_
 cases b
 ·have:=aH hb;have hd:decide ((p.ls.length:Int)>0)=decide (-z<0):=decide_eq_decide.2 (by omega);intro O w2 r;exact⟨_,rfl,r.cQ,_,by rw[<-hd];rfl,by rw[Py];exact Rr.out r hS⟩
 ·have:=aI hb;have hd:decide (-z<0)=false:=bN (by omega);intro O w2 r;exact⟨_,rfl,r.cQ,_,by rw[hd];rfl,by rw[Py];exact Rr.out r hS⟩
theorem eQ.num(h:eQ w S v z):∃a n c,v= .agg #[.bool (decide (z<0)),.slice a n c]∧eB w S (.slice a n c) z.natAbs:=by
 obtain⟨nv,h1,h2⟩:=h;obtain⟨a,n,c,rfl⟩:=h2.shape;exact⟨a,n,c,h1,h2⟩
theorem DO(hS:Old S w)(hx:eQ w S v x)(hy:eQ w S u y)(Oo:ln x.natAbs<=100000000000)(Qb:ln y.natAbs<=100000000000):
  eD PG N.mu #[v,u] w (eG w fun v' w2=>eQ w2 (Nf w w2) v' (x+y)):=by
 obtain⟨nx,rfl,R8⟩:=hx;obtain⟨ny,rfl,Sy⟩:=hy;obtain⟨ax,lx,cx,rfl⟩:=R8.shape;obtain⟨ay,ly,cy,rfl⟩:=Sy.shape;replace R8:=R8.arg [];replace Sy:=Sy.arg [];generalize TW:decide (x<0)=bx;generalize PY:decide (y<0)=b2;refine qh (by simp) ?_;have RH:bx=b2->(x+y).natAbs=x.natAbs+y.natAbs∧decide (x+y<0)=bx:=fun e=>by
  cases bx<;>subst e
  ·have h1:=aH TW;have h2:=aH PY;exact⟨by omega,bN (by omega)⟩
  ·have h1:=aI TW;have h2:=aI PY;exact⟨by omega,bS (by omega)⟩
 have VC:bx≠b2->y.natAbs<=x.natAbs->(x+y).natAbs=x.natAbs-y.natAbs∧(decide (x+y<0)=(bx&&decide (x.natAbs-y.natAbs≠0))):=fun e h=>by
  cases bx
  ·have h1:=aH TW
   cases b2
   ·exact absurd rfl e
   have h2:=aI PY;exact⟨by omega,by rw[Bool.false_and];exact bN (by omega)⟩
  ·have h1:=aI TW
   cases b2
   ·have h2:=aH PY;exact⟨by omega,by rw[Bool.true_and];exact decide_eq_decide.2 (by omega)⟩
   ·exact absurd rfl e
 have TX:bx≠b2->x.natAbs<y.natAbs->(x+y).natAbs=y.natAbs-x.natAbs∧decide (x+y<0)=b2:=fun e h=>by
  cases bx
  ·have h1:=aH TW
   cases b2
   ·exact absurd rfl e
   have h2:=aI PY;exact⟨by omega,bS (by omega)⟩
  ·have h1:=aI TW
   cases b2
   ·have h2:=aH PY;exact⟨by omega,bN (by omega)⟩
   ·exact absurd rfl e
 by_cases OX:bx=b2
 ·obtain⟨h1,h2⟩:=RH OX;subst OX
  cases bx
  all_goals
   refine cK hτ da [.x 0,.x 1,.x 2,.x 3,.x 4,.x 5,.x 6,.x 7,.x 8] (by kernel_rfl) (by kernel_rfl) ?_;refine cO (Φ:=fun _ w' v w2=>eB w2 (Nf w' w2) v (x.natAbs+y.natAbs)) (fun O w' r=>aA6 (Rel.old r hS) (R8.rel r hS) (Sy.rel r hS) (by omega) (by omega)) ?_;rintro O w3 v3 w4 r he hw hn;have hN:=hn.dB (S:=FF) r.cF (iv:=(w3.heap.size,w4.heap.size)::[]) aG;obtain⟨a3,n3,c3,rfl⟩:=hN.shape;intro ρ5 w5 r5;exact⟨_,rfl,hw.tr r5.cQ,_,by rw[h2];rfl,by rw[h1];exact hN.out r5 (cC w)⟩
 ·replace VC:=VC OX;replace TX:=TX OX;have hcmp:∀d:Int,d=tU x.natAbs y.natAbs->(0<=d↔y.natAbs<=x.natAbs):=fun d e=>by
   rw[e];unfold tU;split
   ·omega
   ·split<;>omega
  cases bx<;>cases b2<;>first|exact absurd rfl OX|skip
  all_goals
   refine cD (cO (Φ:=fun _ _ v _=>v= .int .i64 (tU x.natAbs y.natAbs)) (fun O w' r=>Lo (Rel.old r hS) (R8.rel r hS) (Sy.rel r hS)) ?_);rintro O w1 v1 w2 r he hw rfl;replace R8:=R8.cG (iv':=[(w1.heap.size,w2.heap.size)]) r hS he fun x hx=>List.mem_cons_of_mem _ hx;replace Sy:=Sy.cG (iv':=[(w1.heap.size,w2.heap.size)]) r hS he fun x hx=>List.mem_cons_of_mem _ hx;refine dI.mk ?_ ?_<;>intro h
   ·have h:=(hcmp _ rfl).1 (aI h);obtain⟨h1,h2⟩:=VC h;refine cD (cO (Φ:=fun _ w' v w2=>eB w2 (Nf w' w2) v (x.natAbs-y.natAbs)) (fun O w' r=>EU (Rel.old r hS) (R8.rel r hS) (Sy.rel r hS) h (by omega)) ?_);rintro O w3 v3 w4 r he Rn hn;replace hw:=hw.tr Rn;have hN:=hn.dB (S:=FF) r.cF (iv:=(w3.heap.size,w4.heap.size)::[(w1.heap.size,w2.heap.size)]) aG;have hN2:=hN;obtain⟨p,rfl,Qu,QU⟩:=hN.la;have Pe:=eP p.lm QU;rw[Qu]at Pe;have Ve:=xH Pe;have hd:decide ((p.ls.length:Int)>0)=decide (x.natAbs-y.natAbs≠0):=decide_eq_decide.2 (by omega);intro ρ5 w5 r5;exact⟨_,rfl,hw.tr r5.cQ,_,by rw[h2,<-hd];rfl,by rw[h1];exact hN2.out r5 (cC w)⟩
   ·have h:x.natAbs<y.natAbs:=by
     have h0:=aH h;have:=hcmp _ rfl;omega
    obtain⟨h1,h2⟩:=TX h;refine cK hτ da [.x 0,.x 1,.x 2,.x 3,.x 4,.x 5,.x 6,.x 7,.x 8] (by kernel_rfl) (by kernel_rfl) ?_;refine cO (Φ:=fun _ w' v w2=>eB w2 (Nf w' w2) v (y.natAbs-x.natAbs)) (fun O w' r=>EU (Rel.old r hS) (Sy.rel r hS) (R8.rel r hS) (by omega) (by omega)) ?_;rintro O w3 v3 w4 r he Rn hn;replace hw:=hw.tr Rn;have hN:=hn.dB (S:=FF) r.cF (iv:=(w3.heap.size,w4.heap.size)::[(w1.heap.size,w2.heap.size)]) aG;obtain⟨a3,n3,c3,rfl⟩:=hN.shape;intro ρ5 w5 r5;exact⟨_,rfl,hw.tr r5.cQ,_,by rw[h2];rfl,by rw[h1];exact hN.out r5 (cC w)⟩
theorem iP(hS:Old S w)(hx:eQ w S v x)(hy:eQ w S u y)(Oo:ln x.natAbs<=100000000000)(Qb:ln y.natAbs<=100000000000):
  eD PG N.mQ #[v,u] w (eG w fun v' w2=>eQ w2 (Nf w w2) v' (x*y)):=by
 obtain⟨nx,rfl,R8⟩:=hx;obtain⟨ny,rfl,Sy⟩:=hy;obtain⟨ax,lx,cx,rfl⟩:=R8.shape;obtain⟨ay,ly,cy,rfl⟩:=Sy.shape;replace R8:=R8.arg [];replace Sy:=Sy.arg [];have Py:=Int.natAbs_mul x y;have Pp:decide (x*y<0)=((decide (x<0) != decide (y<0))&&decide (x.natAbs*y.natAbs≠0)):=by
  by_cases h0:x*y=0
  ·rw[<-Py,h0];simp
  ·have SO:x≠0:=fun e=>h0 (by rw[e,Int.zero_mul]);have Pw:y≠0:=fun e=>h0 (by rw[e,Int.mul_zero]);rw[<-Py,bS (show (x*y).natAbs≠0 by omega),Bool.and_true];by_cases h1:x<0<;>by_cases h2:y<0
   ·rw[bS h1,bS h2];exact bN (by have:=Int.mul_pos_of_neg_of_neg h1 h2;omega)
   ·rw[bS h1,bN h2];exact bS (Int.mul_neg_of_neg_of_pos h1 (by omega))
   ·rw[bN h1,bS h2];exact bS (Int.mul_neg_of_pos_of_neg (by omega) h2)
   ·rw[bN h1,bN h2];exact bN (by have:=Int.mul_nonneg (show 0<=x by omega) (show 0<=y by omega);omega)
 generalize decide (x<0)=bx at*
 generalize decide (y<0)=b2 at*
 refine pf (by simp) ?_;refine cD (cO (Φ:=fun _ w' v w2=>eB w2 (Nf w' w2) v (x.natAbs*y.natAbs)) (fun O w' r=>Is (Rel.old r hS) (R8.rel r hS) (Sy.rel r hS) (by omega) (by omega)) ?_);rintro O w3 v3 w4 r he hw hn;have hN:=hn.dB (S:=FF) r.cF (iv:=(w3.heap.size,w4.heap.size)::[]) aG;have hN2:=hN;obtain⟨p,rfl,Qu,QU⟩:=hN.la;have Pe:=eP p.lm QU;rw[Qu]at Pe;have Ve:=xH Pe;have hd:decide ((p.ls.length:Int)>0)=decide (x.natAbs*y.natAbs≠0):=decide_eq_decide.2 (by omega)
 cases bx<;>cases b2
 all_goals
  intro ρ5 w5 r5;exact⟨_,rfl,hw.tr r5.cQ,_,by rw[Pp,<-hd];rfl,by rw[Py];exact hN2.out r5 (cC w)⟩
theorem MI(hS:Old S w)(hx:eQ w S v x)(hy:eQ w S u y)(Oo:ln x.natAbs<=100000000000)(Qb:ln y.natAbs<=100000000000):
  eD PG N.oC #[v,u] w (eG w fun v' _=>v'= .int .i64 (x-y).sign):=by
 have hxN:eQ w (Cv S w.heap.size []) v x:=hx.cJ fun _ h=>.inl h;have hyN:eQ w (Cv S w.heap.size []) u y:=hy.cJ fun _ h=>.inl h;obtain⟨nx,rfl,R8⟩:=hx;obtain⟨ny,rfl,Sy⟩:=hy;obtain⟨ax,lx,cx,rfl⟩:=R8.shape;obtain⟨ay,ly,cy,rfl⟩:=Sy.shape;refine ry (by simp) ?_;refine cK hτ da [.x 0,.x 1,.x 2,.x 3,.x 4,.x 5] (by kernel_rfl) (by kernel_rfl) ?_;refine cO (Φ:=fun _ w' v w2=>eQ w2 (Nw (Cv S w.heap.size []) w' w2) v (-y)) (fun O w' r=>pG (Rel.old r hS) (hyN.rel r hS)) ?_;rintro O w1 v1 w2 r he hw hm;have UA:eQ w2 (Cv S w.heap.size [(w1.heap.size,w2.heap.size)]) v1 (-y):=hm.cJ fun _ hg=>Nw.cv hg r.cF;replace hxN:=hxN.cG (iv':=[(w1.heap.size,w2.heap.size)]) r hS he fun x hx=>List.mem_cons_of_mem _ hx;generalize [(w1.heap.size,w2.heap.size)]=iv at*
 have hmN2:=UA;obtain⟨am,lm,cm,rfl,-⟩:=UA.num;refine cO (Φ:=fun _ w' v w2=>eQ w2 (Nf w' w2) v (x+ -y)) (fun O w' r=>DO (Rel.old r hS) (hxN.rel r hS) (hmN2.rel r hS) Oo (by rw[cB];exact Qb)) ?_;rintro O w3 v3 w4 r he Rn hp;replace hw:=hw.tr Rn;have hpN:=hp.dB (S:=S) r.cF (iv:=(w3.heap.size,w4.heap.size)::iv) aG;have hpN2:=hpN;obtain⟨ap,lp,cp,rfl,-⟩:=hpN.num;refine cO (Φ:=fun _ _ v _=>v= .int .i64 (x-y).sign) (fun O w' r=>BU (hpN2.rel r hS)) ?_;rintro O w5 v5 w6 r he hb6 rfl;replace hw:=hw.tr hb6;intro ρ7 w7 r7;exact⟨_,rfl,hw.tr r7.cQ,rfl⟩
theorem pI(n:Int)(w:World)(h1: -9223372036854775808<=n)(h2:n<=9223372036854775807):
  eD PG N.yC #[.int .i64 n] w (eG w fun v' w2=>eQ w2 (Nf w w2) v' n):=by
 have key:∀(m:Nat),m=n.natAbs->m<18446744073709551616∧val [m % 4294967296,m / 4294967296]=n.natAbs∧m / 4294967296<4294967296:=fun m e=>by
  refine⟨by omega,?_,by omega⟩;simp only[val]
  omega
 refine BK (by simp) ?_;refine⟨if n<0 then n+18446744073709551616 else n,by show n % 18446744073709551616=_;split<;>omega,?_⟩;refine dI.mk ?_ ?_<;>intro h
 ·have h:=aI h;rw[if_pos h];obtain⟨m,hm⟩:∃m,m=n.natAbs:=⟨_,rfl⟩
  obtain⟨k1,k2,k3⟩:=key m hm;refine⟨(m:Int),by show(0-(n+18446744073709551616)) % 18446744073709551616=_;omega,((m % 4294967296:Nat):Int),fI m,by decide,((m / 2^32:Nat):Int),mW 32 (by decide),((m / 4294967296:Nat):Int),by rw[fI,bO (by omega)],?_⟩;refine gj (Φ:=fun O _ v w2=>dP w2 (fun g=>g=(O 1).g) v (eA [m % 4294967296,m / 4294967296])) (H':=[(0,.box T.number [.v (.bool false),.v (.slice none 0 0)])]) 1 rfl (by simp) ⟨rfl,trivial⟩ rfl (fun O w' r=>r.nn 1 _ rfl (by intros;simp) (by simp)) (fun O w' r=>?_) ?_
  ·have hL:=r.vJ (id:=1) (ls:=[m % 4294967296,m / 4294967296]) rfl (by intro x hx;simp at hx;omega) (by simp);exact fU (fun g hg=>by rw[hg];exact(r.low 1 _ rfl (r.nn 1 _ rfl (by intros;simp) (by simp))).2) hL
  rintro O w1 v1 w2 r he hw hL;have On:=r.low 1 _ rfl (r.nn 1 _ rfl (by intros;simp) (by simp));have hs:=he.size;generalize (O 1).g=g0 at*
  have hN:eB w2 (Cf w [(g0,g0+1),(w1.heap.size,w2.heap.size)]) v1 n.natAbs:=by
   have:=hL.trimmed;rw[k2]at this;exact this.cJ fun k hk=>.inr ⟨by omega,g0,g0+1,by simp,by omega,by omega⟩
  generalize [(g0,g0+1),(w1.heap.size,w2.heap.size)]=iv at*
  obtain⟨a3,n3,c3,rfl⟩:=hN.shape;intro ρ5 w5 r5;exact⟨_,rfl,hw.tr r5.cQ,_,rfl,hN.out r5 (cC w)⟩
 ·have h:=aH h;rw[aK h];obtain⟨m,hm⟩:∃m,m=n.natAbs:=⟨_,rfl⟩
  obtain⟨k1,k2,k3⟩:=key m hm;have Qj:n=(m:Int):=by omega
  refine⟨((m % 4294967296:Nat):Int),by rw[Qj];exact fI m,by decide,((m / 2^32:Nat):Int),by rw[Qj];exact mW 32 (by decide),((m / 4294967296:Nat):Int),by rw[fI,bO (by omega)],?_⟩;refine gj (Φ:=fun O _ v w2=>dP w2 (fun g=>g=(O 1).g) v (eA [m % 4294967296,m / 4294967296])) (H':=[(0,.box T.number [.v (.bool false),.v (.slice none 0 0)])]) 1 rfl (by simp) ⟨rfl,trivial⟩ rfl (fun O w' r=>r.nn 1 _ rfl (by intros;simp) (by simp)) (fun O w' r=>?_) ?_
  ·have hL:=r.vJ (id:=1) (ls:=[m % 4294967296,m / 4294967296]) rfl (by intro x hx;simp at hx;omega) (by simp);exact fU (fun g hg=>by rw[hg];exact(r.low 1 _ rfl (r.nn 1 _ rfl (by intros;simp) (by simp))).2) hL
  rintro O w1 v1 w2 r he hw hL;have On:=r.low 1 _ rfl (r.nn 1 _ rfl (by intros;simp) (by simp));have hs:=he.size;generalize (O 1).g=g0 at*
  have hN:eB w2 (Cf w [(g0,g0+1),(w1.heap.size,w2.heap.size)]) v1 n.natAbs:=by
   have:=hL.trimmed;rw[k2]at this;exact this.cJ fun k hk=>.inr ⟨by omega,g0,g0+1,by simp,by omega,by omega⟩
  generalize [(g0,g0+1),(w1.heap.size,w2.heap.size)]=iv at*
  obtain⟨a3,n3,c3,rfl⟩:=hN.shape;intro ρ5 w5 r5;exact⟨_,rfl,hw.tr r5.cQ,_,rfl,hN.out r5 (cC w)⟩
def jt(w:World)(S:Nat->Prop)(v:Value)(z:Int):Prop:=∃neg ls,vO w S v neg ls∧sg neg (val ls)=z
def dO(w:World)(S:Nat->Prop)(v:Value)(z:Int):Prop:=∃ls,vO w S v (decide (z<0)) ls∧Nz ls∧val ls=z.natAbs
theorem DU(z:Int):sg (decide (z<0)) z.natAbs=z:=by
 by_cases h:z<0
 ·rw[bS h,MF];omega
 ·rw[bN h,aA4];omega
theorem dO.r(h:dO w S v z):jt w S v z:=by
 obtain⟨ls,h1,h2,h3⟩:=h;exact⟨_,ls,h1,by rw[h3,DU]⟩
section
variable{S S':Nat->Prop}{H:Hp}{nx:Nat}{iv iv':Iv}{B:Nat}{w w' w2:World}{O:Nat->Sx.di}{v:Value}{z:Int}{neg:Bool}{ls:List Nat}
theorem vO.cI(h:vO w S v neg ls)(hk:∀g,S g->w2.heap[g]? =w.heap[g]?):vO w2 S v neg ls:=by
 obtain⟨lv,h1,h2⟩:=h;exact⟨lv,h1,h2.cI hk⟩
theorem vO.cJ(h:vO w S v neg ls)(hk:∀g,S g->S' g):vO w S' v neg ls:=by
 obtain⟨lv,h1,h2⟩:=h;exact⟨lv,h1,h2.cJ hk⟩
theorem jt.cI(h:jt w S v z)(hk:∀g,S g->w2.heap[g]? =w.heap[g]?):jt w2 S v z:=by
 obtain⟨n,l,h1,h2⟩:=h;exact⟨n,l,h1.cI hk,h2⟩
theorem jt.cJ(h:jt w S v z)(hk:∀g,S g->S' g):jt w S' v z:=by
 obtain⟨n,l,h1,h2⟩:=h;exact⟨n,l,h1.cJ hk,h2⟩
theorem dO.cI(h:dO w S v z)(hk:∀g,S g->w2.heap[g]? =w.heap[g]?):dO w2 S v z:=by
 obtain⟨l,h1,h2⟩:=h;exact⟨l,h1.cI hk,h2⟩
theorem dO.cJ(h:dO w S v z)(hk:∀g,S g->S' g):dO w S' v z:=by
 obtain⟨l,h1,h2⟩:=h;exact⟨l,h1.cJ hk,h2⟩
theorem jt.rel(h:jt w (Cv S B iv) v z)(r:Rel H nx iv B w O w')(hS:∀g,S g->g<B):jt w' (Cv S B iv) v z:=h.cI fun _ hg=>Rel.same r hS hg
theorem dO.rel(h:dO w (Cv S B iv) v z)(r:Rel H nx iv B w O w')(hS:∀g,S g->g<B):dO w' (Cv S B iv) v z:=h.cI fun _ hg=>Rel.same r hS hg
theorem jt.cG(h:jt w (Cv S B iv) v z)(r:Rel H nx iv B w O w')(hS:∀g,S g->g<B)(he:Ext w' w2)(hm:∀p,p∈iv->p∈iv'):jt w2 (Cv S B iv') v z:=
 ((h.rel r hS).cI fun g hg=>he.block g (Rel.old r hS g hg)).cJ fun _ hg=>hg.mono hm
theorem dO.cG(h:dO w (Cv S B iv) v z)(r:Rel H nx iv B w O w')(hS:∀g,S g->g<B)(he:Ext w' w2)(hm:∀p,p∈iv->p∈iv'):dO w2 (Cv S B iv') v z:=
 ((h.rel r hS).cI fun g hg=>he.block g (Rel.old r hS g hg)).cJ fun _ hg=>hg.mono hm
theorem dO.dB(h:dO w2 (Nf w' w2) v z)(hB:B<=w'.heap.size)(hm:(w'.heap.size,w2.heap.size)∈iv):dO w2 (Cv S B iv) v z:=h.cJ fun _ hg=>hg.dB hB hm
theorem jt.shape(h:jt w S v z):∃b a n c,v= .agg #[.bool b,.slice a n c]:=by
 obtain⟨b,l,⟨lv,h1,h2⟩,_⟩:=h;obtain⟨a,n,c,rfl⟩:=h2.shape;exact⟨b,a,n,c,h1⟩
theorem eQ.old(h:eQ w2 (Nw (Cv S B iv) w' w2) v z)(hB:B<=w'.heap.size):eQ w2 (Cv S B ((w'.heap.size,w2.heap.size)::iv)) v z:=h.cJ fun _ hg=>Nw.cv hg hB
end
theorem dO.out(h:dO w1 (Cv S w.heap.size iv) v z)(r:Rel H nx iv w.heap.size w1 O w')(hS:Old S w):dO w' (Nw S w w') v z:=
 (h.rel r hS).cJ fun _ hg=>Cv.nw hg r
theorem MM(hS:Old S w)(h:jt w S v z):eD PG N.Al #[v] w (eG w fun v' w2=>eQ w2 (Nw S w w2) v' z):=by
 obtain⟨n,l,h1,rfl⟩:=h;exact aBW hS h1
theorem eQ.shape(h:eQ w S v z):∃b a n c,v= .agg #[.bool b,.slice a n c]:=by
 obtain⟨a,n,c,h1,_⟩:=h.num;exact⟨_,a,n,c,h1⟩
theorem dO.shape(h:dO w S v z):∃b a n c,v= .agg #[.bool b,.slice a n c]:=h.r.shape
theorem cd(x y:Int):ln (x*y).natAbs<=ln x.natAbs+ln y.natAbs:=by
 rw[Int.natAbs_mul];exact aAM _ _
end Go.Ex
namespace Go.Ex
open Go Go.Sx
theorem AF{x y:Int}(hy:0<y)(hx:x≠0):
  (Rat.divInt x y).num.natAbs=x.natAbs / Nat.gcd x.natAbs y.natAbs∧(Rat.divInt x y).den=y.natAbs / Nat.gcd x.natAbs y.natAbs∧decide ((Rat.divInt x y).num<0)=decide (x<0):=by
 have hg:0<Nat.gcd x.natAbs y.natAbs:=bm _ (by omega);have hs:y.sign=1:=bf hy;have hc:(y.gcd x:Int)=(Nat.gcd x.natAbs y.natAbs:Nat):=by rw[Int.gcd_comm];rfl
 have hdx:((Nat.gcd x.natAbs y.natAbs:Nat):Int) ∣ x:=by
  rw[<-Int.natAbs_dvd_natAbs];exact Nat.gcd_dvd_left _ _
 have h1:(Rat.divInt x y).num=x / ((Nat.gcd x.natAbs y.natAbs:Nat):Int):=by
  rw[Rat.num_divInt,hs,Int.one_mul,hc]
 have hgi:0<((Nat.gcd x.natAbs y.natAbs:Nat):Int):=by omega
 refine⟨?_,?_,?_⟩
 ·rw[h1,Int.natAbs_ediv_of_dvd hdx];rfl
 ·rw[Rat.den_divInt,aK (by omega)];have:y.gcd x=Nat.gcd x.natAbs y.natAbs:=by rw[Int.gcd_comm];rfl
  rw[this]
 ·rw[h1];obtain⟨k,hk⟩:=hdx;refine decide_eq_decide.2 ?_;have:x / ((Nat.gcd x.natAbs y.natAbs:Nat):Int)=k:=by
   conv=>lhs;lhs;rw[hk]
   exact Int.mul_ediv_cancel_left _ (by omega)
  rw[this];generalize ((Nat.gcd x.natAbs y.natAbs:Nat):Int)=g at*
  subst hk;constructor
  ·intro h;exact Int.mul_neg_of_pos_of_neg hgi h
  ·intro h;have h0:¬0<=k:=fun hh=>by have:=Int.mul_nonneg (show 0<=g by omega) hh;omega
   omega
theorem Ji{a b:Nat}:ln (a / b)<=ln a:=fM (Nat.div_le_self a b)
theorem AG(y:Int):Rat.divInt 0 y=0:=Rat.zero_divInt y
end Go.Ex
namespace Go.Ex
open Go Go.Sx Go.Proofs
variable{b b2:Bool}{S:Nat->Prop}{q:Rat}{dv nv v:Value}{w:World}
theorem eB.old{B:Nat}{iv:Iv}{w' w2:World}{n:Nat}(h:eB w2 (Nw (Cv S B iv) w' w2) v n)(hB:B<=w'.heap.size):eB w2 (Cv S B ((w'.heap.size,w2.heap.size)::iv)) v n:=h.cJ fun _ hg=>Nw.cv hg hB
def dW(w:World)(S:Nat->Prop)(v:Value)(q:Rat):Prop:=∃nv dv,v= .agg #[.bool (decide (q.num<0)),nv,.bool false,dv]∧eB w S nv q.num.natAbs∧eB w S dv q.den
theorem dW.cI{w2:World}(h:dW w S v q)(hk:∀g,S g->w2.heap[g]? =w.heap[g]?):dW w2 S v q:=by
 obtain⟨n,d,h1,h2,h3⟩:=h;exact⟨n,d,h1,h2.cI hk,h3.cI hk⟩
theorem dW.cJ{S':Nat->Prop}(h:dW w S v q)(hk:∀g,S g->S' g):dW w S' v q:=by
 obtain⟨n,d,h1,h2,h3⟩:=h;exact⟨n,d,h1,h2.cJ hk,h3.cJ hk⟩
theorem dW.shape(h:dW w S v q):∃b a n c b2 a2 n2 c2,v= .agg #[.bool b,.slice a n c,.bool b2,.slice a2 n2 c2]:=by
 obtain⟨n,d,h1,h2,h3⟩:=h;obtain⟨a,n,c,rfl⟩:=h2.shape;obtain⟨a2,n2,c2,rfl⟩:=h3.shape;exact⟨_,a,n,c,_,a2,n2,c2,h1⟩
theorem dW.num(h:dW w S (.agg #[.bool b,nv,.bool b2,dv]) q):eQ w S (.agg #[.bool b,nv]) q.num:=by
 obtain⟨n,d,h1,h2,h3⟩:=h;simp at h1;obtain⟨rfl,rfl,rfl,rfl⟩:=h1;exact⟨_,rfl,h2⟩
theorem dW.den(h:dW w S (.agg #[.bool b,nv,.bool b2,dv]) q):eQ w S (.agg #[.bool b2,dv]) (q.den:Int):=by
 obtain⟨n,d,h1,h2,h3⟩:=h;simp at h1;obtain⟨rfl,rfl,rfl,rfl⟩:=h1;exact⟨_,by rw[bN (by omega)],h3⟩
theorem dW.of(h:eQ w S (.agg #[.bool b,nv]) q.num)(k:eQ w S (.agg #[.bool b2,dv]) (q.den:Int)):dW w S (.agg #[.bool b,nv,.bool b2,dv]) q:=by
 obtain⟨n,h1,h2⟩:=h;obtain⟨d,h3,h4⟩:=k;simp at h1 h3;obtain⟨rfl,rfl⟩:=h1;obtain⟨rfl,rfl⟩:=h3;refine⟨_,_,?_,h2,h4⟩;rw[bN (show ¬((q.den:Int)<0) by omega)]
section
variable{S S':Nat->Prop}{H:Hp}{nx:Nat}{iv iv':Iv}{B:Nat}{w w' w2:World}{O:Nat->Sx.di}{v:Value}{q:Rat}
theorem dW.rel(h:dW w (Cv S B iv) v q)(r:Rel H nx iv B w O w')(hS:∀g,S g->g<B):dW w' (Cv S B iv) v q:=h.cI fun _ hg=>Rel.same r hS hg
theorem dW.cG(h:dW w (Cv S B iv) v q)(r:Rel H nx iv B w O w')(hS:∀g,S g->g<B)(he:Ext w' w2)(hm:∀p,p∈iv->p∈iv'):dW w2 (Cv S B iv') v q:=
 ((h.rel r hS).cI fun g hg=>he.block g (Rel.old r hS g hg)).cJ fun _ hg=>hg.mono hm
theorem dW.dB(h:dW w2 (Nf w' w2) v q)(hB:B<=w'.heap.size)(hm:(w'.heap.size,w2.heap.size)∈iv):dW w2 (Cv S B iv) v q:=h.cJ fun _ hg=>hg.dB hB hm
theorem dW.old(h:dW w2 (Nw (Cv S B iv) w' w2) v q)(hB:B<=w'.heap.size):dW w2 (Cv S B ((w'.heap.size,w2.heap.size)::iv)) v q:=h.cJ fun _ hg=>Nw.cv hg hB
theorem dW.out{w0 w1:World}(h:dW w1 (Cv S w0.heap.size iv) v q)(r:Rel H nx iv w0.heap.size w1 O w')(hS:Old S w0):dW w' (Nw S w0 w') v q:=
 (h.rel r hS).cJ fun _ hg=>Cv.nw hg r
end
theorem eQ.nat{z:Int}(h:eQ w S (.agg #[.bool b,nv]) z):b=decide (z<0)∧eB w S nv z.natAbs:=by
 obtain⟨n,h1,h2⟩:=h;simp at h1;obtain⟨rfl,rfl⟩:=h1;exact⟨rfl,h2⟩
theorem xP{u:Value}{x y:Int}(hS:Old S w)(hx:eQ w S v x)(hy:eQ w S u y)(Pw:y≠0)(Oo:ln x.natAbs<=100000000000)(Qb:ln y.natAbs<=100000000000):
  eD PG N.Am #[v,u] w (eG w fun v' w2=>dW w2 (Nf w w2) v' (Rat.divInt x y)):=by
 have hw:=bR w;replace hx:=hx.cJ (S':=Cv S w.heap.size []) fun _ h=>.inl h;replace hy:=hy.cJ (S':=Cv S w.heap.size []) fun _ h=>.inl h;obtain⟨bx,ax,lx,cx,rfl⟩:=hx.shape;obtain⟨b2,ay,ly,cy,rfl⟩:=hy.shape;have QY:=hy.nat.1;refine CA (by simp) ?_
 cases b2
 ·have hyp:0<y:=by have:=aH QY.symm;omega
  have hq:Rat.divInt x y=Rat.divInt x y:=rfl;have hbA:=hx.nat.1;refine cD (cE hw (fun _ w' v w2=>v= .int .i64 (x).sign) (fun O w' r=>BU (hx.rel r hS)) ?_);rintro O QA v1 Pg OP r he hw h_ rfl;replace hx:=hx.cG r hS he (mC h_);replace hy:=hy.cG r hS he (mC h_);refine dI.mk ?_ ?_<;>intro h
  ·have h:x=0:=Int.sign_eq_zero_iff_zero.1 (eq_of_beq h);refine cD (cE hw (fun _ w' v w2=>eQ w2 (Nf w' w2) v 1) (fun O w' r=>pI 1 w' (by decide) (by decide)) ?_);rintro O QB v2 PI ON r he hw h_ hn;have hO:=hn.dB (S:=FF) r.cF (mN h_);obtain⟨A0,A1,A2,A3,rfl⟩:=hO.shape;have e0:Rat.divInt x y=0:=by rw[hq,h,AG]
   exact rtn hw fun ρe we re=>by rw[e0];exact dW.of ⟨_,rfl,eB.nil _ _⟩ (hO.out re (cC w))
  ·have h:x≠0:=fun e=>by rw[e]at h;exact absurd h (by decide)
   obtain⟨g1,g2,g3⟩:=AF hyp h;have TN:0<Nat.gcd (x).natAbs (y).natAbs:=bm _ (by omega);have WV:=hx.nat.2;have SS:=hy.nat.2;refine cD (cO (Φ:=fun _ w' v w2=>eB w2 (Nw (Cv S w.heap.size OP) w' w2) v (Nat.gcd (x).natAbs (y).natAbs)) (fun O w' r=>GP (Rel.old r hS) (WV.rel r hS) (SS.rel r hS) (by omega) (by omega)) ?_);rintro O QB v2 PI r he hb hn;replace hw:=hw.tr hb;replace WV:=WV.cG (iv':=(QB.heap.size,PI.heap.size)::OP) r hS he fun x hx=>List.mem_cons_of_mem _ hx;replace SS:=SS.cG (iv':=(QB.heap.size,PI.heap.size)::OP) r hS he fun x hx=>List.mem_cons_of_mem _ hx;have hG:=hn.old r.cF;generalize (QB.heap.size,PI.heap.size)::OP=ON at*
   obtain⟨A0,A1,A2,rfl⟩:=hG.shape;refine cD (cO (Φ:=fun _ w' v w2=>∃q r,v= .tuple #[q,r]∧eB w2 (Nf w' w2) q ((x).natAbs / Nat.gcd (x).natAbs (y).natAbs)∧eB w2 (Nw (Cv S w.heap.size ON) w' w2) r ((x).natAbs % Nat.gcd (x).natAbs (y).natAbs)) (fun O w' r=>qm (Rel.old r hS) (WV.rel r hS) (hG.rel r hS) TN (by omega)) ?_);rintro O PX v3 PT r he hb ⟨qvp,rvp,rfl,R5,Sn⟩;replace hw:=hw.tr hb;replace SS:=SS.cG (iv':=(PX.heap.size,PT.heap.size)::ON) r hS he fun x hx=>List.mem_cons_of_mem _ hx;replace hG:=hG.cG (iv':=(PX.heap.size,PT.heap.size)::ON) r hS he fun x hx=>List.mem_cons_of_mem _ hx;have hP:=R5.dB (S:=FF) r.cF (iv:=(PX.heap.size,PT.heap.size)::ON) aG;have hPr:=Sn.old r.cF;generalize (PX.heap.size,PT.heap.size)::ON=OU at*
   obtain⟨s3_0a,s3_0b,s3_0c,rfl⟩:=hP.shape;obtain⟨s3_1a,s3_1b,s3_1c,rfl⟩:=hPr.shape;refine cD (cO (Φ:=fun _ w' v w2=>∃q r,v= .tuple #[q,r]∧eB w2 (Nf w' w2) q ((y).natAbs / Nat.gcd (x).natAbs (y).natAbs)∧eB w2 (Nw (Cv S w.heap.size OU) w' w2) r ((y).natAbs % Nat.gcd (x).natAbs (y).natAbs)) (fun O w' r=>qm (Rel.old r hS) (SS.rel r hS) (hG.rel r hS) TN (by omega)) ?_);rintro O Qd v4 Q5 r he hb ⟨qvq,rvq,rfl,R5,Sn⟩;replace hw:=hw.tr hb;replace hP:=hP.cG (iv':=(Qd.heap.size,Q5.heap.size)::OU) r (cC w) he fun x hx=>List.mem_cons_of_mem _ hx;have hQ:=R5.dB (S:=FF) r.cF (iv:=(Qd.heap.size,Q5.heap.size)::OU) aG;have hQr:=Sn.old r.cF;generalize (Qd.heap.size,Q5.heap.size)::OU=OW at*
   obtain⟨s4_0a,s4_0b,s4_0c,rfl⟩:=hQ.shape;obtain⟨s4_1a,s4_1b,s4_1c,rfl⟩:=hQr.shape;exact rtn hw fun ρe we re=>by rw[hq];exact dW.of ⟨_,by rw[g3,<-hbA],by rw[g1];exact hP.out re (cC w)⟩ ⟨_,by rw[bN (by omega)],by rw[g2];exact hQ.out re (cC w)⟩
 ·have hyp:0< -y:=by have:=aI QY.symm;omega
  have hq:Rat.divInt x y=Rat.divInt (-x) (-y):=(Rat.neg_divInt_neg _ _).symm;have nx:=cB x;have ny:=cB y;have hlx2:ln (-x).natAbs<=100000000000:=by rw[nx];exact Oo
  have hly2:ln (-y).natAbs<=100000000000:=by rw[ny];exact Qb
  refine cK hτ da [.x 0,.x 2,.x 1,.x 3,.x 4,.x 5] (by kernel_rfl) (by kernel_rfl) ?_;refine cO (Φ:=fun _ w' v w2=>eQ w2 (Nw (Cv S w.heap.size []) w' w2) v (-x)) (fun O w' r=>pG (Rel.old r hS) (hx.rel r hS)) ?_;rintro O QA v1 Pg r he hb hn;replace hw:=hw.tr hb;replace hy:=hy.cG (iv':=(QA.heap.size,Pg.heap.size)::[]) r hS he fun x hx=>List.mem_cons_of_mem _ hx;have hA:=hn.old r.cF;generalize (QA.heap.size,Pg.heap.size)::[]=OP at*
  obtain⟨C0,C1,C2,C3,rfl⟩:=hA.shape;refine cO (Φ:=fun _ w' v w2=>eQ w2 (Nw (Cv S w.heap.size OP) w' w2) v (-y)) (fun O w' r=>pG (Rel.old r hS) (hy.rel r hS)) ?_;rintro O QB v2 PI r he hb hn;replace hw:=hw.tr hb;replace hA:=hA.cG (iv':=(QB.heap.size,PI.heap.size)::OP) r hS he fun x hx=>List.mem_cons_of_mem _ hx;have hB:=hn.old r.cF;generalize (QB.heap.size,PI.heap.size)::OP=ON at*
  obtain⟨A0,A1,A2,A3,rfl⟩:=hB.shape;have hbA:=hA.nat.1;refine cD (cE hw (fun _ w' v w2=>v= .int .i64 (-x).sign) (fun O w' r=>BU (hA.rel r hS)) ?_);rintro O _ _ _ OU r he hw h_ rfl;replace hA:=hA.cG r hS he (mC h_);replace hB:=hB.cG r hS he (mC h_);refine dI.mk ?_ ?_<;>intro h
  ·have h: -x=0:=Int.sign_eq_zero_iff_zero.1 (eq_of_beq h);refine cD (cE hw (fun _ w' v w2=>eQ w2 (Nf w' w2) v 1) (fun O w' r=>pI 1 w' (by decide) (by decide)) ?_);rintro O Qd v4 Q5 OW r he hw h_ hn;have hO:=hn.dB (S:=FF) r.cF (mN h_);obtain⟨F0,F1,F2,F3,rfl⟩:=hO.shape;have e0:Rat.divInt x y=0:=by rw[hq,h,AG]
   exact rtn hw fun ρe we re=>by rw[e0];exact dW.of ⟨_,rfl,eB.nil _ _⟩ (hO.out re (cC w))
  ·have h: -x≠0:=fun e=>by rw[e]at h;exact absurd h (by decide)
   obtain⟨g1,g2,g3⟩:=AF hyp h;have TN:0<Nat.gcd (-x).natAbs (-y).natAbs:=bm _ (by omega);have WV:=hA.nat.2;have SS:=hB.nat.2;refine cD (cO (Φ:=fun _ w' v w2=>eB w2 (Nw (Cv S w.heap.size OU) w' w2) v (Nat.gcd (-x).natAbs (-y).natAbs)) (fun O w' r=>GP (Rel.old r hS) (WV.rel r hS) (SS.rel r hS) (by omega) (by omega)) ?_);rintro O Qd v4 Q5 r he hb hn;replace hw:=hw.tr hb;replace WV:=WV.cG (iv':=(Qd.heap.size,Q5.heap.size)::OU) r hS he fun x hx=>List.mem_cons_of_mem _ hx;replace SS:=SS.cG (iv':=(Qd.heap.size,Q5.heap.size)::OU) r hS he fun x hx=>List.mem_cons_of_mem _ hx;have hG:=hn.old r.cF;generalize (Qd.heap.size,Q5.heap.size)::OU=OW at*
   obtain⟨F0,F1,F2,rfl⟩:=hG.shape;refine cD (cO (Φ:=fun _ w' v w2=>∃q r,v= .tuple #[q,r]∧eB w2 (Nf w' w2) q ((-x).natAbs / Nat.gcd (-x).natAbs (-y).natAbs)∧eB w2 (Nw (Cv S w.heap.size OW) w' w2) r ((-x).natAbs % Nat.gcd (-x).natAbs (-y).natAbs)) (fun O w' r=>qm (Rel.old r hS) (WV.rel r hS) (hG.rel r hS) TN (by omega)) ?_);rintro O R1 v5 RR r he hb ⟨qvp,rvp,rfl,R5,Sn⟩;replace hw:=hw.tr hb;replace SS:=SS.cG (iv':=(R1.heap.size,RR.heap.size)::OW) r hS he fun x hx=>List.mem_cons_of_mem _ hx;replace hG:=hG.cG (iv':=(R1.heap.size,RR.heap.size)::OW) r hS he fun x hx=>List.mem_cons_of_mem _ hx;have hP:=R5.dB (S:=FF) r.cF (iv:=(R1.heap.size,RR.heap.size)::OW) aG;have hPr:=Sn.old r.cF;generalize (R1.heap.size,RR.heap.size)::OW=Pb at*
   obtain⟨s5_0a,s5_0b,s5_0c,rfl⟩:=hP.shape;obtain⟨s5_1a,s5_1b,s5_1c,rfl⟩:=hPr.shape;refine cD (cO (Φ:=fun _ w' v w2=>∃q r,v= .tuple #[q,r]∧eB w2 (Nf w' w2) q ((-y).natAbs / Nat.gcd (-x).natAbs (-y).natAbs)∧eB w2 (Nw (Cv S w.heap.size Pb) w' w2) r ((-y).natAbs % Nat.gcd (-x).natAbs (-y).natAbs)) (fun O w' r=>qm (Rel.old r hS) (SS.rel r hS) (hG.rel r hS) TN (by omega)) ?_);rintro O Rx v6 SG r he hb ⟨qvq,rvq,rfl,R5,Sn⟩;replace hw:=hw.tr hb;replace hP:=hP.cG (iv':=(Rx.heap.size,SG.heap.size)::Pb) r (cC w) he fun x hx=>List.mem_cons_of_mem _ hx;have hQ:=R5.dB (S:=FF) r.cF (iv:=(Rx.heap.size,SG.heap.size)::Pb) aG;have hQr:=Sn.old r.cF;generalize (Rx.heap.size,SG.heap.size)::Pb=Qk at*
   obtain⟨s6_0a,s6_0b,s6_0c,rfl⟩:=hQ.shape;obtain⟨s6_1a,s6_1b,s6_1c,rfl⟩:=hQr.shape;exact rtn hw fun ρe we re=>by rw[hq];exact dW.of ⟨_,by rw[g3,<-hbA],by rw[g1];exact hP.out re (cC w)⟩ ⟨_,by rw[bN (by omega)],by rw[g2];exact hQ.out re (cC w)⟩
end Go.Ex
namespace Go.Ex
open Go Go.Sx
variable{a b:Int}
def rl(q:Rat):Nat:=max (ln q.num.natAbs) (ln q.den)
theorem fp(q:Rat):ln q.num.natAbs<=rl q:=Nat.le_max_left _ _
theorem aAT(q:Rat):ln q.den<=rl q:=Nat.le_max_right _ _
theorem fF(q:Rat):ln ((q.den:Int)).natAbs<=rl q:=Nat.le_max_right _ _
theorem kW(hb:b≠0):rl (Rat.divInt a b)<=max (ln a.natAbs) (ln b.natAbs):=by
 have h1:ln (Rat.divInt a b).num.natAbs<=ln a.natAbs:=by
  rw[Rat.num_divInt];refine fM (aY (Int.natAbs_ediv_le_natAbs _ _) ?_);rw[Int.natAbs_mul,Int.natAbs_sign_of_ne_zero hb,Nat.one_mul];exact aF _
 have h2:ln (Rat.divInt a b).den<=ln b.natAbs:=by
  rw[Rat.den_divInt,aK hb];exact Ji
 unfold rl;omega
theorem iw(x y:Int):ln (x+y).natAbs<=max (ln x.natAbs) (ln y.natAbs)+1:=by
 have h1:=aAL x.natAbs y.natAbs;have h2:=fM (show (x+y).natAbs<=x.natAbs+y.natAbs by omega);omega
theorem gK(q:Rat):(q.den:Int)≠0:=by have:=q.den_pos;omega
theorem uU(f g:Rat):f+g=Rat.divInt (f.num*g.den+g.num*f.den) (f.den*g.den):=by
 rw[<-Rat.divInt_add_divInt _ _ (gK f) (gK g),Rat.num_divInt_den,Rat.num_divInt_den]
theorem zG(f g:Rat):f*g=Rat.divInt (f.num*g.num) (f.den*g.den):=by
 rw[<-Rat.divInt_mul_divInt,Rat.num_divInt_den,Rat.num_divInt_den]
theorem Dq(f g:Rat):f / g=Rat.divInt (f.num*g.den) (f.den*g.num):=by
 rw[<-Rat.divInt_mul_divInt,Rat.num_divInt_den,<-Rat.inv_def,<-bj]
theorem kZ(ha:a≠0)(hb:b≠0):a*b≠0:=Int.mul_ne_zero ha hb
theorem nP(f g:Rat):rl (f+g)<=rl f+rl g+1:=by
 have h:=kW (a:=f.num*g.den+g.num*f.den) (kZ (gK f) (gK g));rw[<-uU]at h;have h1:=iw (f.num*g.den) (g.num*f.den);have h2:=cd f.num g.den;have h3:=cd g.num f.den;have h4:=cd f.den g.den;have:=fp f;have:=fp g;have:=fF f;have:=fF g;omega
theorem j9(f g:Rat):rl (f*g)<=rl f+rl g:=by
 have h:=kW (a:=f.num*g.num) (kZ (gK f) (gK g));rw[<-zG]at h;have h2:=cd f.num g.num;have h4:=cd f.den g.den;have:=fp f;have:=fp g;have:=fF f;have:=fF g;omega
theorem La(f:Rat){g:Rat}(hg:g≠0):rl (f / g)<=rl f+rl g:=by
 have h:=kW (a:=f.num*g.den) (kZ (gK f) (fun e=>hg (Rat.num_eq_zero.1 e)));rw[<-Dq]at h;have h2:=cd f.num g.den;have h4:=cd f.den g.num;have:=fp f;have:=fp g;have:=fF f;have:=fF g;omega
theorem tL(f:Rat):rl (-f)=rl f:=by unfold rl;rw[Rat.neg_num,Rat.neg_den,cB]
theorem AX(f g:Rat):rl (f-g)<=rl f+rl g+1:=by
 rw[Rat.sub_eq_add_neg];have:=nP f (-g);rw[tL]at this;exact this
def rs(q:Rat):Int:=q.num.sign
theorem uV(hb:0<b):(Rat.divInt a b).num.sign=a.sign:=by
 by_cases ha:a=0
 ·subst ha;rw[AG];rfl
 ·obtain⟨h1,-,h3⟩:=AF hb ha;have h3:=decide_eq_decide.1 h3;have h0:(Rat.divInt a b).num≠0:=fun e=>by
   have h4:=Nat.div_pos (Nat.le_of_dvd (by omega) (Nat.gcd_dvd_left a.natAbs b.natAbs)) (bm a.natAbs (n:=b.natAbs) (by omega));omega
  rcases Int.lt_or_gt_of_ne ha with h|h
  ·rw[bZ h,bZ (h3.2 h)]
  ·rw[bf h,bf (by omega)]
theorem NI(f g:Rat):(f.num*g.den-g.num*f.den).sign=rs (f-g):=by
 rw[rs,Rat.sub_eq_add_neg,uU,uV (Int.mul_pos (by have:=f.den_pos;omega) (by rw[Rat.neg_den];have:=g.den_pos;omega)),Rat.neg_num,Rat.neg_den,Int.neg_mul,<-Int.sub_eq_add_neg]
def ratio(a b:Int):Rat:=if b=0 then Rat.divInt a 1 else Rat.divInt a b
theorem iS(a b:Int):rl (ratio a b)<=max (ln a.natAbs) (max 1 (ln b.natAbs)):=by
 unfold ratio;split
 ·have:=kW (a:=a) (b:=1) (by decide);have h1:ln (1:Int).natAbs=1:=by decide
  rw[h1]at this;omega
 ·rename_i h;have:=kW (a:=a) h;omega
end Go.Ex
namespace Go.Ex
open Go Go.Sx Go.Proofs
variable{b b2:Bool}{x y:Int}{xs:List Value}{n sz:Nat}{S S':Nat->Prop}{f g q:Rat}{dv nv u v:Value}{w w2:World}
def iU(w:World)(S:Nat->Prop)(v:Value)(a b:Int):Prop:=∃b1 l1 b2 l2,v= .agg #[.bool b1,l1,.bool b2,l2]∧jt w S (.agg #[.bool b1,l1]) a∧jt w S (.agg #[.bool b2,l2]) b
theorem iU.cI{a b:Int}(h:iU w S v a b)(hk:∀g,S g->w2.heap[g]? =w.heap[g]?):iU w2 S v a b:=by
 obtain⟨b1,l1,b2,l2,h1,h2,h3⟩:=h;exact⟨b1,l1,b2,l2,h1,h2.cI hk,h3.cI hk⟩
theorem iU.cJ{a b:Int}(h:iU w S v a b)(hk:∀g,S g->S' g):iU w S' v a b:=by
 obtain⟨b1,l1,b2,l2,h1,h2,h3⟩:=h;exact⟨b1,l1,b2,l2,h1,h2.cJ hk,h3.cJ hk⟩
theorem iU.shape(h:iU w S v x y):∃b a n c b2 a2 n2 c2,v= .agg #[.bool b,.slice a n c,.bool b2,.slice a2 n2 c2]:=by
 obtain⟨b1,l1,b2,l2,h1,h2,h3⟩:=h;obtain⟨_,a,n,c,h4⟩:=h2.shape;obtain⟨_,a2,n2,c2,h5⟩:=h3.shape;simp at h4 h5;obtain⟨rfl,rfl⟩:=h4;obtain⟨rfl,rfl⟩:=h5;exact⟨_,a,n,c,_,a2,n2,c2,h1⟩
theorem iU.num(h:iU w S (.agg #[.bool b,nv,.bool b2,dv]) x y):jt w S (.agg #[.bool b,nv]) x:=by
 obtain⟨b1,l1,b2,l2,h1,h2,h3⟩:=h;simp at h1;obtain⟨rfl,rfl,rfl,rfl⟩:=h1;exact h2
theorem iU.den(h:iU w S (.agg #[.bool b,nv,.bool b2,dv]) x y):jt w S (.agg #[.bool b2,dv]) y:=by
 obtain⟨b1,l1,b2,l2,h1,h2,h3⟩:=h;simp at h1;obtain⟨rfl,rfl,rfl,rfl⟩:=h1;exact h3
section
variable{S S':Nat->Prop}{H:Hp}{nx:Nat}{iv iv':Iv}{B:Nat}{w w' w2:World}{O:Nat->Sx.di}{v:Value}{x y:Int}
theorem iU.rel(h:iU w (Cv S B iv) v x y)(r:Rel H nx iv B w O w')(hS:∀g,S g->g<B):iU w' (Cv S B iv) v x y:=h.cI fun _ hg=>Rel.same r hS hg
theorem iU.cG(h:iU w (Cv S B iv) v x y)(r:Rel H nx iv B w O w')(hS:∀g,S g->g<B)(he:Ext w' w2)(hm:∀p,p∈iv->p∈iv'):iU w2 (Cv S B iv') v x y:=
 ((h.rel r hS).cI fun g hg=>he.block g (Rel.old r hS g hg)).cJ fun _ hg=>hg.mono hm
end
def cS(w:World)(S:Nat->Prop)(v:Value)(q:Rat):Prop:=∃b1 l1 b2 l2,v= .agg #[.bool b1,l1,.bool b2,l2]∧dO w S (.agg #[.bool b1,l1]) q.num∧dO w S (.agg #[.bool b2,l2]) q.den
theorem cS.cI(h:cS w S v q)(hk:∀g,S g->w2.heap[g]? =w.heap[g]?):cS w2 S v q:=by
 obtain⟨b1,l1,b2,l2,h1,h2,h3⟩:=h;exact⟨b1,l1,b2,l2,h1,h2.cI hk,h3.cI hk⟩
theorem cS.cJ(h:cS w S v q)(hk:∀g,S g->S' g):cS w S' v q:=by
 obtain⟨b1,l1,b2,l2,h1,h2,h3⟩:=h;exact⟨b1,l1,b2,l2,h1,h2.cJ hk,h3.cJ hk⟩
theorem cS.r(h:cS w S v q):iU w S v q.num q.den:=by
 obtain⟨b1,l1,b2,l2,h1,h2,h3⟩:=h;exact⟨b1,l1,b2,l2,h1,h2.r,h3.r⟩
theorem cS.shape(h:cS w S v q):∃b a n c b2 a2 n2 c2,v= .agg #[.bool b,.slice a n c,.bool b2,.slice a2 n2 c2]:=h.r.shape
theorem cS.num(h:cS w S (.agg #[.bool b,nv,.bool b2,dv]) q):dO w S (.agg #[.bool b,nv]) q.num:=by
 obtain⟨b1,l1,b2,l2,h1,h2,h3⟩:=h;simp at h1;obtain⟨rfl,rfl,rfl,rfl⟩:=h1;exact h2
theorem cS.den(h:cS w S (.agg #[.bool b,nv,.bool b2,dv]) q):dO w S (.agg #[.bool b2,dv]) q.den:=by
 obtain⟨b1,l1,b2,l2,h1,h2,h3⟩:=h;simp at h1;obtain⟨rfl,rfl,rfl,rfl⟩:=h1;exact h3
theorem cS.of(h:dO w S (.agg #[.bool b,nv]) q.num)(k:dO w S (.agg #[.bool b2,dv]) q.den):cS w S (.agg #[.bool b,nv,.bool b2,dv]) q:=⟨_,_,_,_,rfl,h,k⟩
section
variable{S S':Nat->Prop}{H:Hp}{nx:Nat}{iv iv':Iv}{B:Nat}{w w' w2:World}{O:Nat->Sx.di}{v:Value}{q:Rat}
theorem cS.rel(h:cS w (Cv S B iv) v q)(r:Rel H nx iv B w O w')(hS:∀g,S g->g<B):cS w' (Cv S B iv) v q:=h.cI fun _ hg=>Rel.same r hS hg
theorem cS.cG(h:cS w (Cv S B iv) v q)(r:Rel H nx iv B w O w')(hS:∀g,S g->g<B)(he:Ext w' w2)(hm:∀p,p∈iv->p∈iv'):cS w2 (Cv S B iv') v q:=
 ((h.rel r hS).cI fun g hg=>he.block g (Rel.old r hS g hg)).cJ fun _ hg=>hg.mono hm
theorem cS.dB(h:cS w2 (Nf w' w2) v q)(hB:B<=w'.heap.size)(hm:(w'.heap.size,w2.heap.size)∈iv):cS w2 (Cv S B iv) v q:=h.cJ fun _ hg=>hg.dB hB hm
theorem cS.out{w0 w1:World}(h:cS w1 (Cv S w0.heap.size iv) v q)(r:Rel H nx iv w0.heap.size w1 O w')(hS:Old S w0):cS w' (Nw S w0 w') v q:=
 (h.rel r hS).cJ fun _ hg=>Cv.nw hg r
end
theorem Nc(hS:Old S w)(hf:dW w S v f):
  eD PG N.lJ #[v] w (eG w fun v' _w2=>v'= .int .i64 (rs f)):=by
 have hw:=bR w;replace hf:=hf.cJ (S':=Cv S w.heap.size []) fun _ h=>.inl h;obtain⟨b1,a1,n1,c1,b2,a2,n2,c2,rfl⟩:=hf.shape;have UO:=hf.num;have Q2:=hf.den;refine ox (by simp) ?_;refine cD (cE hw (fun _ w' v w2=>v= .int .i64 (rs f)) (fun O w' r=>BU (UO.rel r hS)) ?_);rintro O _ _ _ OP r he hw h_ rfl;exact rtn hw fun ρe we re=>rfl
theorem MX(hS:Old S w)(hf:dW w S v f):
  eD PG N.ku #[v] w (eG w fun v' w2=>dW w2 (Nw S w w2) v' (-f)):=by
 have hw:=bR w;replace hf:=hf.cJ (S':=Cv S w.heap.size []) fun _ h=>.inl h;obtain⟨b1,a1,n1,c1,b2,a2,n2,c2,rfl⟩:=hf.shape;have UO:=hf.num;have Q2:=hf.den;refine oG (by simp) ?_;refine cK hτ da [.x 0,.x 1,.x 3,.x 4,.x 2,.x 5,.x 6] (by kernel_rfl) (by kernel_rfl) ?_;refine cO (Φ:=fun _ w' v w2=>eQ w2 (Nw (Cv S w.heap.size []) w' w2) v (-f.num)) (fun O w' r=>pG (Rel.old r hS) (UO.rel r hS)) ?_;rintro O QA v1 Pg r he hb hn;replace hw:=hw.tr hb;replace Q2:=Q2.cG (iv':=(QA.heap.size,Pg.heap.size)::[]) r hS he fun x hx=>List.mem_cons_of_mem _ hx;have hM:=hn.old r.cF;generalize (QA.heap.size,Pg.heap.size)::[]=OP at*
 obtain⟨A0,A1,A2,A3,rfl⟩:=hM.shape;exact rtn hw fun ρe we re=>dW.of (by rw[Rat.neg_num];exact hM.out re hS) (by rw[Rat.neg_den];exact Q2.out re hS)
theorem MY(hS:Old S w)(hf:dW w S v f)(hg:dW w S u g)(hlf:rl f<=10000000000)(hlg:rl g<=10000000000):
  eD PG N.kr #[v,u] w (eG w fun v' w2=>dW w2 (Nf w w2) v' (f*g)):=by
 have hw:=bR w;have l1:=fp f;have l2:=fF f;have l3:=fp g;have l4:=fF g;have m0:=cd f.num g.num;have m1:=cd f.den g.den;replace hf:=hf.cJ (S':=Cv S w.heap.size []) fun _ h=>.inl h;replace hg:=hg.cJ (S':=Cv S w.heap.size []) fun _ h=>.inl h;obtain⟨b1,a1,n1,c1,b2,a2,n2,c2,rfl⟩:=hf.shape;obtain⟨b3,a3,n3,c3,b4,a4,n4,c4,rfl⟩:=hg.shape;have UO:=hf.num;have Q2:=hf.den;have So:=hg.num;have RY:=hg.den;refine oF (by simp) ?_;refine cK hτ da [.x 0,.x 1,.x 2,.x 3,.x 5,.x 6,.x 7,.x 8,.x 4,.x 9,.x 10,.x 11] (by kernel_rfl) (by kernel_rfl) ?_;refine cE hw (fun _ w' v w2=>eQ w2 (Nf w' w2) v (f.num*g.num)) (fun O w' r=>iP (Rel.old r hS) (UO.rel r hS) (So.rel r hS) (by omega) (by omega)) ?_;rintro O _ _ _ OP r he hw h_ hn;replace Q2:=Q2.cG r hS he (mC h_);replace RY:=RY.cG r hS he (mC h_);have hA:=hn.dB (S:=FF) r.cF (mN h_);obtain⟨A0,A1,A2,A3,rfl⟩:=hA.shape;refine cE hw (fun _ w' v w2=>eQ w2 (Nf w' w2) v ((f.den:Int)*(g.den:Int))) (fun O w' r=>iP (Rel.old r hS) (Q2.rel r hS) (RY.rel r hS) (by omega) (by omega)) ?_;rintro O _ _ _ ON r he hw h_ hn;replace hA:=hA.cG r (cC w) he (mC h_);have hB:=hn.dB (S:=FF) r.cF (mN h_);obtain⟨C0,C1,C2,C3,rfl⟩:=hB.shape;refine cE hw (fun _ w' v w2=>dW w2 (Nf w' w2) v (f*g)) (fun O w' r=>(zG f g)▸xP (Rel.old r (cC w)) (hA.rel r (cC w)) (hB.rel r (cC w)) (kZ (gK f) (gK g)) (by omega) (by omega)) ?_;rintro O _ _ _ OU r he hw h_ hn;have hC:=hn.dB (S:=FF) r.cF (mN h_);obtain⟨F0,F1,F2,F3,F4,F5,F6,F7,rfl⟩:=hC.shape;exact rtn hw fun ρe we re=>hC.out re (cC w)
theorem aBK(hS:Old S w)(hf:dW w S v f)(hg:dW w S u g)(hlf:rl f<=10000000000)(hlg:rl g<=10000000000)(TN:g≠0):
  eD PG N.mq #[v,u] w (eG w fun v' w2=>dW w2 (Nf w w2) v' (f / g)):=by
 have hw:=bR w;have l1:=fp f;have l2:=fF f;have l3:=fp g;have l4:=fF g;have m0:=cd f.num g.den;have m1:=cd f.den g.num;replace hf:=hf.cJ (S':=Cv S w.heap.size []) fun _ h=>.inl h;replace hg:=hg.cJ (S':=Cv S w.heap.size []) fun _ h=>.inl h;obtain⟨b1,a1,n1,c1,b2,a2,n2,c2,rfl⟩:=hf.shape;obtain⟨b3,a3,n3,c3,b4,a4,n4,c4,rfl⟩:=hg.shape;have UO:=hf.num;have Q2:=hf.den;have So:=hg.num;have RY:=hg.den;refine qf (by simp) ?_;refine cK hτ da [.x 0,.x 1,.x 2,.x 3,.x 5,.x 6,.x 7,.x 8,.x 4,.x 9,.x 10,.x 11] (by kernel_rfl) (by kernel_rfl) ?_;refine cE hw (fun _ w' v w2=>eQ w2 (Nf w' w2) v (f.num*(g.den:Int))) (fun O w' r=>iP (Rel.old r hS) (UO.rel r hS) (RY.rel r hS) (by omega) (by omega)) ?_;rintro O _ _ _ OP r he hw h_ hn;replace Q2:=Q2.cG r hS he (mC h_);replace So:=So.cG r hS he (mC h_);have hA:=hn.dB (S:=FF) r.cF (mN h_);obtain⟨A0,A1,A2,A3,rfl⟩:=hA.shape;refine cE hw (fun _ w' v w2=>eQ w2 (Nf w' w2) v ((f.den:Int)*g.num)) (fun O w' r=>iP (Rel.old r hS) (Q2.rel r hS) (So.rel r hS) (by omega) (by omega)) ?_;rintro O _ _ _ ON r he hw h_ hn;replace hA:=hA.cG r (cC w) he (mC h_);have hB:=hn.dB (S:=FF) r.cF (mN h_);obtain⟨C0,C1,C2,C3,rfl⟩:=hB.shape;refine cE hw (fun _ w' v w2=>dW w2 (Nf w' w2) v (f / g)) (fun O w' r=>(Dq f g)▸xP (Rel.old r (cC w)) (hA.rel r (cC w)) (hB.rel r (cC w)) (kZ (gK f) (fun e=>TN (Rat.num_eq_zero.1 e))) (by omega) (by omega)) ?_;rintro O _ _ _ OU r he hw h_ hn;have hC:=hn.dB (S:=FF) r.cF (mN h_);obtain⟨F0,F1,F2,F3,F4,F5,F6,F7,rfl⟩:=hC.shape;exact rtn hw fun ρe we re=>hC.out re (cC w)
theorem JH(hS:Old S w)(hf:dW w S v f)(hg:dW w S u g)(hlf:rl f<=10000000000)(hlg:rl g<=10000000000):
  eD PG N.lH #[v,u] w (eG w fun v' w2=>dW w2 (Nf w w2) v' (f+g)):=by
 have hw:=bR w;have l1:=fp f;have l2:=fF f;have l3:=fp g;have l4:=fF g;have m0:=cd f.num g.den;have m1:=cd g.num f.den;have m2:=cd f.den g.den;have m4:=iw (f.num*g.den) (g.num*f.den);replace hf:=hf.cJ (S':=Cv S w.heap.size []) fun _ h=>.inl h;replace hg:=hg.cJ (S':=Cv S w.heap.size []) fun _ h=>.inl h;obtain⟨b1,a1,n1,c1,b2,a2,n2,c2,rfl⟩:=hf.shape;obtain⟨b3,a3,n3,c3,b4,a4,n4,c4,rfl⟩:=hg.shape;have UO:=hf.num;have Q2:=hf.den;have So:=hg.num;have RY:=hg.den;refine ov (by simp) ?_;refine cK hτ da [.x 0,.x 1,.x 2,.x 3,.x 5,.x 6,.x 7,.x 8,.x 11,.x 12,.x 13,.x 14,.x 4,.x 9,.x 10,.x 15,.x 16,.x 17] (by kernel_rfl) (by kernel_rfl) ?_;refine cE hw (fun _ w' v w2=>eQ w2 (Nf w' w2) v (f.num*(g.den:Int))) (fun O w' r=>iP (Rel.old r hS) (UO.rel r hS) (RY.rel r hS) (by omega) (by omega)) ?_;rintro O _ _ _ OP r he hw h_ hn;replace Q2:=Q2.cG r hS he (mC h_);replace So:=So.cG r hS he (mC h_);replace RY:=RY.cG r hS he (mC h_);have hA:=hn.dB (S:=FF) r.cF (mN h_);obtain⟨A0,A1,A2,A3,rfl⟩:=hA.shape;refine cE hw (fun _ w' v w2=>eQ w2 (Nf w' w2) v (g.num*(f.den:Int))) (fun O w' r=>iP (Rel.old r hS) (So.rel r hS) (Q2.rel r hS) (by omega) (by omega)) ?_;rintro O _ _ _ ON r he hw h_ hn;replace Q2:=Q2.cG r hS he (mC h_);replace RY:=RY.cG r hS he (mC h_);replace hA:=hA.cG r (cC w) he (mC h_);have hB:=hn.dB (S:=FF) r.cF (mN h_);obtain⟨C0,C1,C2,C3,rfl⟩:=hB.shape;refine cE hw (fun _ w' v w2=>eQ w2 (Nf w' w2) v (f.num*(g.den:Int)+g.num*(f.den:Int))) (fun O w' r=>DO (Rel.old r (cC w)) (hA.rel r (cC w)) (hB.rel r (cC w)) (by omega) (by omega)) ?_;rintro O _ _ _ OU r he hw h_ hn;replace Q2:=Q2.cG r hS he (mC h_);replace RY:=RY.cG r hS he (mC h_);have hD:=hn.dB (S:=FF) r.cF (mN h_);obtain⟨F0,F1,F2,F3,rfl⟩:=hD.shape;refine cE hw (fun _ w' v w2=>eQ w2 (Nf w' w2) v ((f.den:Int)*(g.den:Int))) (fun O w' r=>iP (Rel.old r hS) (Q2.rel r hS) (RY.rel r hS) (by omega) (by omega)) ?_;rintro O _ _ _ OW r he hw h_ hn;replace hD:=hD.cG r (cC w) he (mC h_);have hE:=hn.dB (S:=FF) r.cF (mN h_);obtain⟨G0,G1,G2,G3,rfl⟩:=hE.shape;refine cE hw (fun _ w' v w2=>dW w2 (Nf w' w2) v (f+g)) (fun O w' r=>(uU f g)▸xP (Rel.old r (cC w)) (hD.rel r (cC w)) (hE.rel r (cC w)) (kZ (gK f) (gK g)) (by omega) (by omega)) ?_;rintro O _ _ _ Pb r he hw h_ hn;have hC:=hn.dB (S:=FF) r.cF (mN h_);obtain⟨J0,J1,J2,J3,J4,J5,J6,J7,rfl⟩:=hC.shape;exact rtn hw fun ρe we re=>hC.out re (cC w)
theorem rY(hS:Old S w)(hf:dW w S v f)(hlf:rl f<=100000000000):
  eD PG N.lI #[v] w (eG w fun v' w2=>cS w2 (Nf w w2) v' f):=by
 have hw:=bR w;have l1:=fp f;have l2:=fF f;replace hf:=hf.cJ (S':=Cv S w.heap.size []) fun _ h=>.inl h;obtain⟨b1,a1,n1,c1,b2,a2,n2,c2,rfl⟩:=hf.shape;have UO:=hf.num;have Q2:=hf.den;refine ow (by simp) ?_;refine cK hτ da [.x 0,.x 1,.x 3,.x 4,.x 2,.x 5,.x 6,.x 7] (by kernel_rfl) (by kernel_rfl) ?_;refine cE hw (fun _ w' v w2=>dO w2 (Nf w' w2) v f.num) (fun O w' r=>MG (Rel.old r hS) (UO.rel r hS) (by omega)) ?_;rintro O _ _ _ OP r he hw h_ hn;replace Q2:=Q2.cG r hS he (mC h_);have hA:=hn.dB (S:=FF) r.cF (mN h_);obtain⟨A0,A1,A2,A3,rfl⟩:=hA.shape;refine cE hw (fun _ w' v w2=>dO w2 (Nf w' w2) v (f.den:Int)) (fun O w' r=>MG (Rel.old r hS) (Q2.rel r hS) (by omega)) ?_;rintro O _ _ _ ON r he hw h_ hn;replace hA:=hA.cG r (cC w) he (mC h_);have hB:=hn.dB (S:=FF) r.cF (mN h_);obtain⟨C0,C1,C2,C3,rfl⟩:=hB.shape;exact rtn hw fun ρe we re=>cS.of (hA.out re (cC w)) (hB.out re (cC w))
theorem Nd(n:Int)(w:World)(h1: -9223372036854775808<=n)(h2:n<=9223372036854775807):
  eD PG N.yB #[.int .i64 n] w (eG w fun v' w2=>dW w2 (Nf w w2) v' (n:Rat)):=by
 have hw:=bR w;refine BJ (by simp) ?_;refine cD (cE hw (fun _ w' v w2=>eQ w2 (Nf w' w2) v n) (fun O w' r=>pI n w' h1 h2) ?_);rintro O _ _ _ OP r he hw h_ hn;have hA:=hn.dB (S:=FF) r.cF (mN h_);obtain⟨A0,A1,A2,A3,rfl⟩:=hA.shape;refine cD (cE hw (fun _ w' v w2=>eQ w2 (Nf w' w2) v 1) (fun O w' r=>pI 1 w' (by decide) (by decide)) ?_);rintro O _ _ _ ON r he hw h_ hn;replace hA:=hA.cG r (cC w) he (mC h_);have hB:=hn.dB (S:=FF) r.cF (mN h_);obtain⟨C0,C1,C2,C3,rfl⟩:=hB.shape;exact rtn hw fun ρe we re=>dW.of (by rw[Rat.num_intCast];exact hA.out re (cC w)) (by rw[Rat.den_intCast];exact hB.out re (cC w))
theorem kh(hS:Old S w)(hx:iU w S v x y)(Oo:ln x.natAbs<=100000000000)(Qb:ln y.natAbs<=100000000000):
  eD PG N.xz #[v] w (eG w fun v' w2=>dW w2 (Nf w w2) v' (ratio x y)):=by
 have hw:=bR w;replace hx:=hx.cJ (S':=Cv S w.heap.size []) fun _ h=>.inl h;obtain⟨b1,a1,n1,c1,b2,a2,n2,c2,rfl⟩:=hx.shape;have hn:=hx.num;have hd:=hx.den;have R8:=hn;have Ue:=hd;refine BH (by simp) ?_;refine cD (cO (Φ:=fun _ w' v w2=>eQ w2 (Nw (Cv S w.heap.size []) w' w2) v y) (fun O w' r=>MM (Rel.old r hS) (Ue.rel r hS)) ?_);rintro O QA v1 Pg r he hb hn;replace hw:=hw.tr hb;replace R8:=R8.cG (iv':=(QA.heap.size,Pg.heap.size)::[]) r hS he fun x hx=>List.mem_cons_of_mem _ hx;have hD:=hn.old r.cF;generalize (QA.heap.size,Pg.heap.size)::[]=OP at*
 obtain⟨A0,A1,A2,A3,rfl⟩:=hD.shape;refine cD (cE hw (fun _ w' v w2=>v= .int .i64 y.sign) (fun O w' r=>BU (hD.rel r hS)) ?_);rintro O _ _ _ ON r he hw h_ rfl;replace R8:=R8.cG r hS he (mC h_);replace hD:=hD.cG r hS he (mC h_);refine dI.mk ?_ ?_<;>intro h
 ·have h:y=0:=Int.sign_eq_zero_iff_zero.1 (eq_of_beq h);have e0:ratio x y=Rat.divInt x 1:=if_pos h;refine cD (cE hw (fun _ w' v w2=>eQ w2 (Nf w' w2) v 1) (fun O w' r=>pI 1 w' (by decide) (by decide)) ?_);rintro O PX v3 PT OU r he hw h_ hn;replace R8:=R8.cG r hS he (mC h_);have hO:=hn.dB (S:=FF) r.cF (mN h_);obtain⟨C0,C1,C2,C3,rfl⟩:=hO.shape;have l1:ln (1:Int).natAbs=1:=by decide
  refine cK hτ da [.x 0,.x 1,.x 3,.x 2,.x 4,.x 5] (by kernel_rfl) (by kernel_rfl) ?_;refine cO (Φ:=fun _ w' v w2=>eQ w2 (Nw (Cv S w.heap.size OU) w' w2) v x) (fun O w' r=>MM (Rel.old r hS) (R8.rel r hS)) ?_;rintro O Qd v4 Q5 r he hb hn;replace hw:=hw.tr hb;replace hO:=hO.cG (iv':=(Qd.heap.size,Q5.heap.size)::OU) r (cC w) he fun x hx=>List.mem_cons_of_mem _ hx;have hN:=hn.old r.cF;generalize (Qd.heap.size,Q5.heap.size)::OU=OW at*
  obtain⟨F0,F1,F2,F3,rfl⟩:=hN.shape;refine cE hw (fun _ w' v w2=>dW w2 (Nf w' w2) v (ratio x y)) (fun O w' r=>e0.symm▸xP (Rel.old r hS) (hN.rel r hS) ((hO.rel r (cC w)).cJ fun g hg=>hg.elim (fun k=>k.elim) .inr) (by decide) (by omega) (by omega)) ?_;rintro O _ _ _ Pb r he hw h_ hn;have hC:=hn.dB (S:=FF) r.cF (mN h_);obtain⟨G0,G1,G2,G3,G4,G5,G6,G7,rfl⟩:=hC.shape;exact rtn hw fun ρe we re=>hC.out re (cC w)
 ·have h:y≠0:=fun e=>by rw[e]at h;exact absurd h (by decide)
  have e0:ratio x y=Rat.divInt x y:=aK h;refine cK hτ da [.x 0,.x 1,.x 3,.x 2,.x 4,.x 5] (by kernel_rfl) (by kernel_rfl) ?_;refine cO (Φ:=fun _ w' v w2=>eQ w2 (Nw (Cv S w.heap.size ON) w' w2) v x) (fun O w' r=>MM (Rel.old r hS) (R8.rel r hS)) ?_;rintro O PX v3 PT r he hb hn;replace hw:=hw.tr hb;replace hD:=hD.cG (iv':=(PX.heap.size,PT.heap.size)::ON) r hS he fun x hx=>List.mem_cons_of_mem _ hx;have hN:=hn.old r.cF;generalize (PX.heap.size,PT.heap.size)::ON=OU at*
  obtain⟨C0,C1,C2,C3,rfl⟩:=hN.shape;refine cE hw (fun _ w' v w2=>dW w2 (Nf w' w2) v (ratio x y)) (fun O w' r=>e0.symm▸xP (Rel.old r hS) (hN.rel r hS) (hD.rel r hS) h (by omega) (by omega)) ?_;rintro O _ _ _ OW r he hw h_ hn;have hC:=hn.dB (S:=FF) r.cF (mN h_);obtain⟨F0,F1,F2,F3,F4,F5,F6,F7,rfl⟩:=hC.shape;exact rtn hw fun ρe we re=>hC.out re (cC w)
def kI(v:Value):Iv:=match v.ownBlock with
 |some g=>[(g,g+1)]
 |none=>[]
theorem rW{lo hi:Nat}:(lo,hi)∈kI v↔v.ownBlock=some lo∧hi=lo+1:=by
 unfold kI
 cases h:v.ownBlock with
 |none=>simp
 |some g=>simp;omega
def IG(iv:Iv)(v:Value):Prop:=∀b,v.ownBlock=some b->∃lo hi,(lo,hi)∈iv∧lo<=b∧b<hi
section
variable{S:Nat->Prop}{H:Hp}{nx:Nat}{iv iv':Iv}{B e sz m:Nat}{w w' w2:World}{O:Nat->Sx.di}{v v':Value}{xs:List Value}
theorem IG.not(h:IG iv v)(r:Rel H nx iv B w O w'){b:Nat}(hb:v.ownBlock=some b):∀id c,dE H id=some c->(O id).nil=false->(O id).g≠b:=fun id c hc hn he=>by
 obtain⟨lo,hi,h1,h2,h3⟩:=h b hb;exact r.kT lo hi h1 id c hc hn (by omega)
theorem j4(h:w.ownsRow B e sz v m xs)(hc:IG iv v)(r:Rel H nx iv B w O w'):w'.ownsRow B e sz v m xs:=
 ownsRow.cI h fun b hb=>r.vg b (ownsRow.low h b hb).2 fun id c hc' hn he=>hc.not r hb id c hc' hn he
theorem IG.row(v:Value):IG (kI v) v:=fun b hb=>⟨b,b+1,rW.2 ⟨hb,rfl⟩,by omega,by omega⟩
theorem IG.mono(h:IG iv v)(k:∀p,p∈iv->p∈iv'):IG iv' v:=fun b hb=>by
 obtain⟨lo,hi,h1,h2⟩:=h b hb;exact⟨lo,hi,k _ h1,h2⟩
theorem fJ(h:w.ownsRow B e sz v m xs):∃a c,v= .slice a m c∧m<=c:=by
 rcases h.2 with⟨rfl,rfl⟩|⟨g,cap,cur,rfl,_,_,h1,_⟩
 ·exact⟨none,0,rfl,aF _⟩
 ·exact⟨_,cap,rfl,h1⟩
end
structure gO(w:World)(S:Nat->Prop)(sz:Nat)(v:Value)(xs:List Value)(n:Nat):Prop where
 le:n<=maxLen
 len:xs.length=n*sz
 one:∀u∈xs,u.oneCell'=true
 sl:∃a c,v= .slice a n c∧n<=c∧∀(j:Nat) u,xs[j]? =some u->∃ad,a=some ad∧S ad.block∧w.cell? (ad.add j)=some u
theorem gO.cI(h:gO w S sz v xs n)(hk:∀g,S g->w2.heap[g]? =w.heap[g]?):gO w2 S sz v xs n:=by
 obtain⟨h0,h1,h2,a,c,h3,h4,h5⟩:=h;refine⟨h0,h1,h2,a,c,h3,h4,fun j u hu=>?_⟩;obtain⟨ad,k1,k2,k3⟩:=h5 j u hu;exact⟨ad,k1,k2,by rw[cH (hk _ (by rw[dD];exact k2))];exact k3⟩
theorem gO.cJ(h:gO w S sz v xs n)(hk:∀g,S g->S' g):gO w S' sz v xs n:=by
 obtain⟨h0,h1,h2,a,c,h3,h4,h5⟩:=h;refine⟨h0,h1,h2,a,c,h3,h4,fun j u hu=>?_⟩;obtain⟨ad,k1,k2,k3⟩:=h5 j u hu;exact⟨ad,k1,hk _ k2,k3⟩
section
variable{S S':Nat->Prop}{H:Hp}{nx:Nat}{iv iv':Iv}{B:Nat}{w w' w2:World}{O:Nat->Sx.di}{v:Value}{sz n:Nat}{xs:List Value}
end
end Go.Ex
