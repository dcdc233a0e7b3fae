/- A part of the proof: texts X11 to X22. Each tells its conditions in its theorems. -/
import Derived.Test.YtkdcaknoaeicdaaGreatP3
namespace Go.Ex
open Go Go.Sx Go.Proofs
end Go.Ex
namespace Go.Sx
open Go Go.Ex Go.Proofs
variable{O:Nat->Sx.dS}
theorem Rel.bu{H:Hp}{nx:Nat}{iv:Iv}{B:Nat}{w w':World}(r:Rel H nx iv B w O w'):B<=w'.heap.size:=by have:=r.base;have:=r.size;omega
end Go.Sx
namespace Go.Ex
open Go Go.Sx Go.Proofs
end Go.Ex
namespace Go.Sx
open Go Go.Ex Go.Proofs
variable{ls:List Nat}{O:Nat->Sx.dS}
theorem Rel.sP{H:Hp}{nx:Nat}{iv:Iv}{B:Nat}{w w':World}(r:Rel H nx iv B w O w'){id t:Nat}(h:cX H id=some (.box t ((U ls).map At.v)))(hlm:Lm ls)(hle:ls.length<=9223372036854775807):
  cw w' (fun g=>g=(O id).g) (.slice (some ⟨(O id).g,0,none⟩) ls.length ls.length) ls:=by
 refine⟨hlm,hle,_,_,rfl,aE _,fun j x hx=>⟨_,rfl,rfl,?_⟩⟩;have h0:(⟨(O id).g,0,none⟩:Addr).add j=⟨(O id).g,j,none⟩:=by
  cases j with
  |zero=>rfl
  |succ j=>simp[Addr.add]
 rw[h0,cell_of (r.box id t _ h),fC];exact sN hx
end Go.Sx
namespace Go.Ex
open Go Go.Sx Go.Proofs
variable{ds r2:List Nat}{g k:Nat}{row:Option Nat}
section
variable{S:Nat->Prop}{H:Hp}{nx:Nat}{iv iv':Iv}{B:Nat}{w w' w2:World}{O:Nat->Sx.dS}{v:Value}{n:Nat}{ls:List Nat}
theorem Nw.cd(h:Nf w' w2 g)(hB:B<=w'.heap.size)(hm:(w'.heap.size,w2.heap.size)∈iv):Cv S B iv g:=by
 rcases h with h|h
 ·cases h
 ·exact .inr ⟨by omega,_,_,hm,h.1,h.2⟩
theorem dQ.cd(h:dQ w2 (Nf w' w2) v n)(hB:B<=w'.heap.size)(hm:(w'.heap.size,w2.heap.size)∈iv):dQ w2 (Cv S B iv) v n:=h.cC fun _ hg=>hg.cd hB hm
theorem cw.cd(h:cw w2 (Nf w' w2) v ls)(hB:B<=w'.heap.size)(hm:(w'.heap.size,w2.heap.size)∈iv):cw w2 (Cv S B iv) v ls:=h.cC fun _ hg=>hg.cd hB hm
theorem dQ.rel(h:dQ w (Cv S B iv) v n)(r:Rel H nx iv B w O w')(hS:∀g,S g->g<B):dQ w' (Cv S B iv) v n:=h.cB fun _ hg=>Rel.same r hS hg
theorem dQ.bz(h:dQ w (Cv S B iv) v n)(r:Rel H nx iv B w O w')(hS:∀g,S g->g<B)(he:Ext w' w2)(hm:∀p,p∈iv->p∈iv'):dQ w2 (Cv S B iv') v n:=
 ((h.rel r hS).cB fun g hg=>he.block g (Rel.old r hS g hg)).cC fun _ hg=>hg.mono hm
theorem cw.trimmed(h:cw w S v (dO ls)):dQ w S v (val ls):=⟨_,h,(eQ ls).2.1,(eQ ls).1⟩
end
theorem Eh{w:World}{m c:Nat}{rs:List Nat}(hg:w.heap[g]? =some (.cells (U rs).toArray T.uint32 (0,0)))(hlm:Lm rs)(h:k+m<=rs.length)(hc:m<=c)(hl:rs.length<=1000000000000):
  cw w (fun x=>x=g) (.slice (some ⟨g,k,none⟩) m c) ((rs.drop k).take m):=by
 have hlen:((rs.drop k).take m).length=m:=by simp;omega
 refine⟨(hlm.drop k).take m,by omega,some ⟨g,k,none⟩,c,by rw[hlen],by omega,fun j x hx=>⟨_,rfl,rfl,?_⟩⟩;have hj:j<m:=by have:=(aC.1 hx).1;omega
 rw[bK hj,List.getElem?_drop]at hx;rw[dH,cell_of hg];exact sN hx
theorem Ap{c:Nat}(h:k<c):(if (c:Int)=(k:Int)then some (⟨g,0,none⟩:Addr)else(some (⟨g,0,none⟩:Addr)).map fun x=>x.add ((k:Int).toNat*1))=some ⟨g,k,none⟩:=by
 rw[aI (by omega),Option.map_some,aJ,aV,dH,aS]
theorem fy{a b c:World}(h:a.grownBy b row)(k:b.grownBy c row):a.grownBy c row:=
 ⟨k.os.trans h.os,k.tape.trans h.tape,k.output.trans h.output,ai h.size k.size,fun j hj hne=>(k.block j (by have:=h.size;omega) hne).trans (h.block j hj hne)⟩
theorem uc{a b:World}(h:cR a.heap.size a b):a.grownBy b row:=⟨h.os,h.tape,h.output,h.size,fun j hj _=>h.block j hj⟩
theorem IY(rs:List Nat)(k m:Nat):(U rs).take k++List.replicate m (Value.int .u32 0)++(U rs).drop (k+m)=U (rs.take k++List.replicate m 0++rs.drop (k+m)):=by
 simp[U]
theorem Jb(rs ds:List Nat)(k:Nat):(U rs).take k++U ds++(U rs).drop (k+(U ds).length)=U (rs.take k++ds++rs.drop (k+ds.length)):=by
 simp[U]
theorem F4{rs:List Nat}{m:Nat}(hk:k+m<=rs.length)(hd:ds.length<=m){r1:List Nat}(h1:r1=rs.take k++List.replicate m 0++rs.drop (k+m))(h2:r2=r1.take k++ds++r1.drop (k+ds.length)):
  r2=rs.take k++(ds++List.replicate (m-ds.length) 0)++rs.drop (k+m):=by
 have hkl:(rs.take k).length=k:=by simp;omega
 have h3:r1.take k=rs.take k:=by rw[h1,bX,List.take_append_of_le_length (by omega),List.take_of_length_le (by omega)]
 have h4:r1.drop (k+ds.length)=List.replicate (m-ds.length) 0++rs.drop (k+m):=by
  rw[h1,bX,List.drop_append,hkl,List.drop_of_length_le (by omega),List.nil_append,Nat.add_sub_cancel_left,List.drop_append_of_le_length (by simpa using hd),List.drop_replicate]
 rw[h2,h3,h4];simp
theorem F5{rs:List Nat}{m:Nat}(hk:k+m<=rs.length)(hd:ds.length<=m)(hlm:Lm rs)(hld:Lm ds)(h:r2=rs.take k++(ds++List.replicate (m-ds.length) 0)++rs.drop (k+m)):
  r2.length=rs.length∧Lm r2∧r2.take k=rs.take k∧r2.drop (k+m)=rs.drop (k+m)∧val ((r2.drop k).take m)=val ds:=by
 have hkl:(rs.take k).length=k:=by simp;omega
 have hdl:(ds++List.replicate (m-ds.length) 0).length=m:=by simp;omega
 have hd1:r2.drop k=(ds++List.replicate (m-ds.length) 0)++rs.drop (k+m):=by
  rw[h,bX,List.drop_append,hkl,List.drop_of_length_le (by omega),List.nil_append,bI,List.drop_zero]
 refine⟨by rw[h,List.length_append,List.length_append,hkl,hdl];simp;omega,?_,?_,?_,?_⟩
 ·rw[h];exact((hlm.take k).append (hld.append (Lm.replicate _))).append (hlm.drop _)
 ·rw[h,bX,List.take_append_of_le_length (by omega),List.take_of_length_le (by omega)]
 ·rw[<-List.drop_drop,hd1,List.drop_append,hdl,List.drop_of_length_le (by omega),List.nil_append,bI,List.drop_zero]
 ·rw[hd1,List.take_append_of_le_length (by omega),List.take_of_length_le (by omega),kJ,lV];simp
theorem Aq{S:Nat->Prop}{w:World}{vd:Value}{D g k q:Nat}{rs:List Nat}(hS:Old S w)(hgS:¬S g)(hd:dQ w S vd D)(hg:w.heap[g]? =some (.cells (U rs).toArray T.uint32 (0,0)))(hlm:Lm rs)
  (hk:k+ln D+1<=rs.length) (hl:rs.length<=1000000000000) (hq:q<4294967296):
  di PG N.oT #[.slice (some ⟨g,0,none⟩) rs.length rs.length,vd,.int .i64 k,.int .u64 q] w (fun e w2=>
   (val ((rs.drop k).take (ln D+1))<q*D∧e= .returned (.bool false)∧cR w.heap.size w w2)∨
   (q*D<=val ((rs.drop k).take (ln D+1))∧e= .returned (.bool true)∧w.grownBy w2 (some g)∧∃rs',rs'.length=rs.length∧Lm rs'∧rs'.take k=rs.take k∧rs'.drop (k+ln D+1)=rs.drop (k+ln D+1)∧
    val ((rs'.drop k).take (ln D+1))=val ((rs.drop k).take (ln D+1))-q*D∧w2.heap[g]? =some (.cells (U rs').toArray T.uint32 (0,0)))):=by
 have hgB:=jS hg;have hnD:=hd;obtain⟨p,rfl,hp1,hp2⟩:=hd.la;have hpl:=dm p.lm hp2;rw[hp1]at hpl;generalize hn:ln D=n at*
 have hSB:=hS;refine sM (by simp) ?_;refine⟨(q:Int),by rw[eW,bG hq],?_⟩;refine fo (Φ:=fun O _ v w2=>cw w2 (fun g=>g=(O 0).g) v (dO [q])) (H':=[]) 0 rfl (by simp) trivial rfl (fun O w' r=>r.nn 0 _ rfl (by intros;simp) (by simp)) (fun O w' r=>?_) ?_
 ·have hL:=r.sP (id:=0) (ls:=[q]) rfl (by intro x hx;simp at hx;omega) (by simp);exact ee (fun g hg=>by rw[hg];exact(r.low 0 _ rfl (r.nn 0 _ rfl (by intros;simp) (by simp))).2) hL
 rintro O w1 v1 w2 r he hw hL;have hlow:=r.low 0 _ rfl (r.nn 0 _ rfl (by intros;simp) (by simp));have hs:=he.size;generalize (O 0).g=g0 at*
 have hqN:dQ w2 (Cv S w.heap.size [(g0,g0+1),(w1.heap.size,w2.heap.size)]) v1 q:=by
  have:=hL.trimmed;simp only[val,Nat.mul_zero,bp]at this;exact this.cC fun k hk=>.inr ⟨by omega,g0,g0+1,by simp,by omega,by omega⟩
 have hdN:dQ w2 (Cv S w.heap.size [(g0,g0+1),(w1.heap.size,w2.heap.size)]) (.slice p.a p.ls.length p.c) D:=
  (hnD.cB fun g hg=>hw.block g (hS g hg)).cC fun _ hg=>.inl hg
 generalize [(g0,g0+1),(w1.heap.size,w2.heap.size)]=iv at*
 refine bw (cE hw (fun _ w' v w2=>dQ w2 (Nf w' w2) v (q*D)) (fun O w' r=>Ei (Rel.old r hS) (hqN.rel r hS) (hdN.rel r hS) (ai (fb.2 (show q<wt 1 from hq)) (by decide)) (by omega)) ?_);rintro O w3 v2 w4 iv r he hw h_ hm;have hmN:=hm.cd (S:=S) r.bu (mN h_);refine⟨((k+n:Nat):Int),wo,((k+n+1:Nat):Int),wo,⟨by omega,by omega,by omega⟩,some ⟨g,k,none⟩,n+1,rs.length-k,Ap (by omega),by omega,by omega,?_⟩;have hplen:((rs.drop k).take (n+1)).length=n+1:=by simp;omega
 have hplm:Lm ((rs.drop k).take (n+1)):=(hlm.drop k).take _;generalize hpart:(rs.drop k).take (n+1)=part at*
 refine bw (cE hw (fun _ w' v w2=>cw w2 (Nf w' w2) v part) (fun O w' r=>?_) ?_)
 ·have h1:=Eh (k:=k) (m:=n+1) (c:=rs.length-k) (w:=w') (by rw[(hw.tr r.cI).block g hgB];exact hg) hlm (by omega) (by omega) hl;rw[hpart]at h1;exact Eg (fun x hx=>by rw[hx];have:=(hw.tr r.cI).size;omega) h1 (by omega)
 rintro O w5 v3 w6 iv r he hw h_ hL;have hpL:=hL.cd (S:=S) r.bu (mN h_);replace hmN:=hmN.bz r hS he (mC h_);refine bw (cG (Φ:=fun _ w' v w2=>cw w2 (Cv S w.heap.size iv) v (dO part)) (fun O w' r=>ee (Rel.old r hS) (cw.rel hpL r hS)) ?_);rintro O w7 v4 w8 r he hb hL;replace hw:=hw.tr hb;have hpN:=hL.trimmed.cC (S':=Cv S w.heap.size ((w7.heap.size,w8.heap.size)::iv)) fun _ hg=>hg.cons;replace hmN:=hmN.bz (iv':=(w7.heap.size,w8.heap.size)::iv) r hS he fun x hx=>aB _ hx;generalize (w7.heap.size,w8.heap.size)::iv=iv at*
 refine bw (cE hw (fun _ _ v _=>v= .int .i64 (qc (val part) (q*D))) (fun O w' r=>HE (Rel.old r hS) (hpN.rel r hS) (hmN.rel r hS)) ?_);rintro O w9 v5 w10 iv r he hw h_ rfl;replace hpN:=hpN.bz r hS he (mC h_);replace hmN:=hmN.bz r hS he (mC h_);refine dF.mk (fun h=>?_) (fun h=>?_)
 ·have h:val part<q*D:=by
   have:=aG h;unfold qc at this;split at this
   ·assumption
   ·split at this<;>omega
  intro ρ3 w3 r3;exact .inl ⟨h,rfl,hw.tr r3.cI⟩
 have h:q*D<=val part:=by
  have:=aF h;unfold qc at this;split at this
  ·omega
  ·omega
 have hPl:ln (val part)<=n+1:=by rw[fb,<-hplen];exact mW hplm
 refine bw (cE hw (fun _ w' v w2=>dQ w2 (Nf w' w2) v (val part-q*D)) (fun O w' r=>Ar (Rel.old r hS) (hpN.rel r hS) (hmN.rel r hS) h (by omega)) ?_);rintro O w11 v6 w12 iv r he hw h_ hm;have hrN:=hm.cd (S:=S) r.bu (mN h_);refine⟨((k+n:Nat):Int),wo,((k+n+1:Nat):Int),wo,⟨by omega,by omega,by omega⟩,some ⟨g,k,none⟩,n+1,rs.length-k,Ap (by omega),by omega,by omega,?_⟩;refine FC hτ (cs:=U rs) (by rfl) (by rfl) (by rfl) (by omega) (fun O w' r=>⟨by rw[(hw.tr r.cI).block g hgB];exact hg,fun id b hb=>by cases hb⟩) (by rw[fU];omega) (fun O w13 w14 r hh hgr hsz=>?_);rw[IY]at hh;have hgw:w.grownBy w14 (some g):=fy (uc (hw.tr r.cI)) hgr;replace hrN:dQ w14 (Cv S w.heap.size iv) v6 (val part-q*D):=(hrN.rel r hS).cB fun x hx=>hgr.block x (Rel.old r hS x hx) fun e=>by
  injection e with e;subst e;rcases hx with hx|hx
  ·exact hgS hx
  ·omega
 obtain⟨rl,rfl,hr1,hr2⟩:=hrN.la;have hrl:=dm rl.lm hr2;rw[hr1]at hrl;have hrn:rl.ls.length<=n+1:=by rw[hrl];exact ai (eY (Nat.sub_le _ _)) hPl
 generalize hr1d:rs.take k++List.replicate (n+1) 0++rs.drop (k+(n+1))=r1 at*
 refine⟨⟨by omega,by omega,by omega⟩,some ⟨g,k,none⟩,rs.length-k,rs.length-k,Ap (by omega),by omega,by omega,?_⟩;have hr1l:r1.length=rs.length:=by rw[<-hr1d];simp;omega
 have hw14:w.heap.size<=w14.heap.size:=hgw.size;refine GI hτ (tg:=T.uint32) (cs:=U r1) (ds:=U rl.ls) (by rfl) (by rfl) (by rfl) (by rfl) (fun O w' r=>⟨?_,fun id b hb=>by cases hb⟩) (fun O w' r=>⟨rl.a,rl.c,by rw[fU];rfl,fun j u hu=>?_⟩) (by rw[fU];omega) (by rw[fU,fU];omega)
  (fun u hu=>by simp only[U,aR]at hu;obtain⟨n,_,rfl⟩:=hu;rfl) (fun O w15 w16 r hh2 hgr hsz=>?_)
 ·rw[r.o8.block g (by omega) (by simp)];exact hh
 ·simp only[U,aM,Option.map_eq_some_iff]at hu;obtain⟨m,hm,rfl⟩:=hu;obtain⟨ad,h1,h2,h3⟩:=rl.cell j m hm;exact⟨ad,h1,(cJ (w:=w14) (a:=ad.add j) (by rw[eA];exact Rel.same r hS h2)).trans h3⟩
 rw[Jb]at hh2;have hgw2:w.grownBy w16 (some g):=fy (fy hgw (by have:=r.o8;exact⟨this.os,this.tape,this.output,this.size,fun j hj _=>this.block j hj (by simp)⟩)) hgr;obtain⟨o1,o2,o3,o4,o5⟩:=F5 (rs:=rs) (ds:=rl.ls) (k:=k) (m:=n+1) (by omega) hrn hlm rl.lm (F4 (by omega) hrn hr1d.symm rfl);generalize r1.take k++rl.ls++r1.drop (k+rl.ls.length)=r2 at*
 intro ρ3 w17 r3;refine .inr ⟨h,rfl,fy hgw2 (by have:=r3.o8;exact⟨this.os,this.tape,this.output,this.size,fun j hj _=>this.block j hj (by simp)⟩),r2,o1,o2,o3,o4,by rw[o5,hr1],?_⟩;rw[r3.o8.block g (by have:=hgw2.size;omega) (by simp)];exact hh2
end Go.Ex
namespace Go.Ex
open Go Go.Sx Go.Proofs
end Go.Ex
namespace Go.Sx
open Go Go.Ex Go.Proofs
variable{O:Nat->Sx.dS}
theorem Rel.JA{nx:Nat}{iv:Iv}{B:Nat}{w w' w2:World}(r:Rel [] nx iv B w O w')(h:w'.heap.size<=w2.heap.size):Rel [] nx [] B w2 O w2:=
 r.B8 h (fun id b h=>by cases h) fun lo hi h=>by cases h
end Go.Sx
namespace Go.Ex
open Go Go.Sx Go.Proofs
variable{O:Nat->Sx.dS}
theorem HF{P D low high dlow dtop W:Nat}(hP:P=low+W*high)(hD:D=dlow+W*dtop)(hlow:low<W)(hdt:0<dtop)(hPD:P<4294967296*D):P / D<=min (high / dtop) 4294967295:=by
 have hW:0<W:=by omega
 have hD0:0<D:=by have:=Nat.mul_pos hW hdt;omega
 have h1:P / D<4294967296:=(Nat.div_lt_iff_lt_mul hD0).2 (by rw[bM]at hPD;omega);have h2:P / D<=high / dtop:=by
  rw[Nat.le_div_iff_mul_le hdt];have h3:=Nat.div_mul_le_self P D;generalize P / D=Q at*
  have h4:W*(Q*dtop)<=Q*D:=by
   rw[hD,Nat.mul_left_comm,bL];omega
  have h5:W*(Q*dtop)<W*(high+1):=by
   rw[bL];omega
  have:=Nat.lt_of_mul_lt_mul_left h5;omega
 omega
theorem Ej{H:Hp}{nx:Nat}{iv:Iv}{w w1 w':World}{g i x:Nat}{rs:List Nat}(hg:w.heap[g]? =some (.cells (U rs).toArray T.uint32 (0,0)))(hw:cR w.heap.size w w1)(r:Rel H nx iv w.heap.size w1 O w')(hx:rs[i]? =some x):
  w'.cell? ((⟨g,0,none⟩:Addr).add ((i:Int).toNat*1))=some (.int .u32 x):=by
 rw[aJ,aV,dH,aS,cell_of (by rw[(hw.tr r.cI).block g (jS hg)];exact hg)];exact sN hx
theorem I0{S:Nat->Prop}{w:World}{vd:Value}{D g k:Nat}{rs:List Nat}(hS:Old S w)(hgS:¬S g)(hd:dQ w S vd D)(hD:0<D)(hg:w.heap[g]? =some (.cells (U rs).toArray T.uint32 (0,0)))(hlm:Lm rs)
  (hk:k+ln D+1<=rs.length) (hl:rs.length<=1000000000000) (hPD:val ((rs.drop k).take (ln D+1))<4294967296*D):
  di PG N.nO #[.slice (some ⟨g,0,none⟩) rs.length rs.length,vd,.int .i64 k] w (fun e w2=>
   e= .returned (.int .u32 ((val ((rs.drop k).take (ln D+1)) / D:Nat):Int))∧w.grownBy w2 (some g)∧∃rs',rs'.length=rs.length∧Lm rs'∧rs'.take k=rs.take k∧rs'.drop (k+ln D+1)=rs.drop (k+ln D+1)∧
    val ((rs'.drop k).take (ln D+1))=val ((rs.drop k).take (ln D+1)) % D∧w2.heap[g]? =some (.cells (U rs').toArray T.uint32 (0,0))):=by
 have hgB:=jS hg;have hnD:=hd;obtain⟨p,rfl,hp1,hp2⟩:=hd.la;have hpl:=dm p.lm hp2;rw[hp1]at hpl;have htake:=fun(w':World) (q:Nat)=>@Aq S w' (.slice p.a p.ls.length p.c) D g k q rs;generalize hn:ln D=n at*
 obtain⟨t,rfl⟩:∃t,n=t+1:=by
  cases n with
  |zero=>
   have:D<wt 0:=fb.1 (by omega);rw[iR]at this;omega
  |succ t=>exact⟨t,rfl⟩
 obtain⟨dt,hdt⟩:∃q,p.ls[t]? =some q:=⟨_,aA (by omega)⟩
 have hdt0:0<dt:=by
  have:=hp2 dt (by rw[List.getLast?_eq_getElem?,hpl];exact hdt);omega
 obtain⟨a,ha⟩:∃q,rs[k+t+1]? =some q:=⟨_,aA (by omega)⟩
 obtain⟨b,hb⟩:∃q,rs[k+t]? =some q:=⟨_,aA (by omega)⟩
 have ha32:=hlm.at ha;have hb32:=hlm.at hb;have hdt32:=p.lm.at hdt;generalize hP:val ((rs.drop k).take (t+1+1))=P at*
 have hguess:P / D<=min ((a*4294967296+b) / dt) 4294967295:=by
  refine HF (low:=val ((rs.drop k).take t)) (W:=wt t) (dlow:=val (p.ls.take t)) ?_ ?_ ?_ hdt0 hPD
  ·rw[<-hP,dJ (x:=a) (by rw[List.getElem?_drop];exact ha),dJ (x:=b) (by rw[List.getElem?_drop];exact hb),gz,bL,bM 4294967296 (wt t),b9,bM a];omega
  ·rw[<-hp1,<-dJ hdt,List.take_of_length_le (by omega)]
  ·have h1:=mW ((hlm.drop k).take t);have:((rs.drop k).take t).length=t:=by simp;omega
   rwa [this]at h1
 refine q9 (by simp) ?_;refine⟨(t:Int),wo,?_⟩;refine cF hτ dc [.x 0,.x 1,.x 2,.x 3,.x 4,.x 5,.x 6,.x 7,.x 8,.x 9,.x 10,.x 11,.x 12,.x 13,.x 14,.x 15,.x 16,.x 17] (by kernel_rfl) (by kernel_rfl) ?_;refine⟨((k+t:Nat):Int),wo,((k+t+1:Nat):Int),wo,_,rfl,by omega,.int .u32 a,fun O w' r=>Ej hg cR.refl r ha,(a:Int),eF (by omega),by decide,((a*2^32:Nat):Int),As (k:=32) (by decide) (by omega),((k+t:Nat):Int),wo,_,rfl,by omega,.int .u32 b,fun O w' r=>Ej hg cR.refl r hb,(b:Int),eF (by omega),?_⟩;have hor:a*2^32 ||| b=a*4294967296+b:=by
  rw[Nat.or_comm,bM,Au (k:=32) hb32];omega
 refine⟨((a*4294967296+b:Nat):Int),by rw[HG (by omega) (by omega),hor],?_⟩;have hh64:a*4294967296+b<18446744073709551616:=by omega
 generalize a*4294967296+b=high at*
 obtain⟨ad,had,hload⟩:=p.load hS (cR.refl (w:=w)) hdt;refine⟨ad,had,by omega,.int .u32 dt,hload _ _ _,(dt:Int),eF (by omega),by omega,((high / dt:Nat):Int),HH hh64,?_⟩;conv=>whnf
 rw[show min ((high / dt:Nat):Int) 4294967295=((min (high / dt) 4294967295:Nat):Int) by omega];have hm32:min (high / dt) 4294967295<=4294967295:=Nat.min_le_right _ _;generalize min (high / dt) 4294967295=q0 at*
 have hQD:=Nat.div_mul_le_self P D;have hQl:∀q,q*D<=P->P / D<=q->q=P / D:=fun q h1 h2=>aQ ((Nat.le_div_iff_mul_le hD).2 h1) h2;have hmod:P % D=P-P / D*D:=by have:=Nat.div_add_mod P D;rw[bM]at this;omega
 refine⟨Nat×World,fun z=>⟨[(0,.o (.v (.slice (some ⟨g,0,none⟩) rs.length rs.length))),(1,.o (.v (.slice p.a p.ls.length p.c))),(2,.o (.v (.int .i64 k))),(9,.o (.v (.int .u64 z.1)))],[],0,[],z.2⟩,fun z=>z.1,
  fun z=>cR w.heap.size w z.2∧P / D<=z.1∧z.1<=4294967295,?_,?_⟩
 ·intro O w' r;exact⟨(q0,w'),⟨r.cI,hguess,hm32⟩,Sub.reset r ⟨rfl,rfl,rfl,rfl,trivial⟩ ⟨trivial,trivial,trivial,trivial,trivial⟩⟩
 ·rintro⟨q,w1⟩ ⟨hw,hq1,hq2⟩;dsimp only at hw hq1 hq2 ⊢;conv=>whnf
  refine⟨fun O w2 r=>(htake w2 q (fun x hx=>by have:=hS x hx;have:=(hw.tr r.cI).size;omega) hgS (hnD.cB fun x hx=>(hw.tr r.cI).block x (hS x hx)) (by rw[(hw.tr r.cI).block g hgB];exact hg) hlm hk hl (by omega)).mono fun e w3 he=>?_⟩;rcases he with⟨h,rfl,hb3⟩|⟨h,rfl,hgr,rs',e1,e2,e3,e4,e5,e6⟩
  ·have hw3:cR w.heap.size w w3:=(hw.tr r.cI).tr (hb3.cI r.bu);refine⟨.bool false,[],[],rfl,r.JA hb3.size,?_⟩;have hq3:P / D<q:=by
    refine Nat.lt_of_le_of_ne hq1 fun e=>?_;rw[e]at hQD;omega
   have hq4:0<q:=Nat.lt_of_le_of_lt (aP _) hq3;have hq5:P / D<=q-1:=Nat.le_sub_one_of_lt hq3;refine⟨((q-1:Nat):Int),by rw[vV]<;>omega,?_⟩;intro ρ4 w4 r4;exact⟨(q-1,w4),⟨hw3.tr r4.cI,hq5,by dsimp only;omega⟩,Sub.reset r4 ⟨rfl,rfl,rfl,rfl,trivial⟩ ⟨trivial,trivial,trivial,trivial,trivial⟩,by dsimp only;omega⟩
  ·have hgw:w.grownBy w3 (some g):=fy (uc (hw.tr r.cI)) hgr;refine⟨.bool true,[],[],rfl,r.JA hgr.size,?_⟩;have hq:=hQl q h hq1;subst hq;refine⟨((P / D:Nat):Int),by rw[eW,bG (by omega)],?_⟩;intro ρ4 w4 r4;refine⟨rfl,fy hgw (by have:=r4.o8;exact⟨this.os,this.tape,this.output,this.size,fun j hj _=>this.block j hj (by simp)⟩),rs',e1,e2,e3,e4,by rw[e5,hmod],?_⟩;rw[r4.o8.block g (by have:=hgw.size;omega) (by simp)];exact e6
end Go.Ex
namespace Go.Ex
variable{ms:List Nat}
theorem FU{t dt:Nat}(hlm:Lm ms)(hl:ms.length=t+1)(hdt:ms[t]? =some dt)(h0:0<dt):32-fp dt<32∧ln (val ms*2^(32-fp dt))=t+1:=by
 have hb0:0<fp dt:=by
  rcases bH (fp dt)with h|h
  ·have:=ve.1 (Nat.le_of_eq h);simp at this;omega
  ·exact h
 have hb32:fp dt<=32:=ve.2 (hlm.at hdt);have hlt:=ve.1 (aE (fp dt));have hv:val ms=val (ms.take t)+wt t*dt:=by rw[<-dJ hdt,List.take_of_length_le (by omega)]
 have hlow:=mW (hlm.take t);have hltk:(ms.take t).length=t:=by simp;omega
 rw[hltk]at hlow;have hw:=wY t;refine⟨by omega,aQ ?_ ?_⟩
 ·rw[fb];have h1:val ms<wt t*2^fp dt:=by
   have:wt t*(dt+1)<=wt t*2^fp dt:=bQ _ hlt;rw[bL]at this;omega
  have h2:=Nat.mul_lt_mul_of_pos_right h1 (bg (32-fp dt));rw[b9,<-Nat.pow_add,Nat.add_sub_cancel' hb32]at h2;rw[gz,bM 4294967296];exact h2
 ·refine Nat.lt_of_not_le fun h=>?_;have h1:=fb.1 h;have h2:val ms*1<=val ms*2^(32-fp dt):=bQ _ (bg _);have h3:wt t*1<=wt t*dt:=bQ _ h0;omega
theorem Bt{rs:List Nat}{D N k:Nat}(hlm:Lm rs)(hDN:D<wt N)(hk:k+N+1<=rs.length)(h:val rs<wt (k+1)*D):
  val (rs.drop (k+N+1))=0∧val (rs.drop k)=val ((rs.drop k).take (N+1))∧val ((rs.drop k).take (N+1))<4294967296*D:=by
 obtain⟨x,hx⟩:∃q,rs[k]? =some q:=⟨_,aA (by omega)⟩
 have hx32:=hlm.at hx;have h1:=eK rs (k+1) (by omega);have h2:val (rs.drop (k+1))<D:=Nat.lt_of_mul_lt_mul_left (a:=wt (k+1)) (by omega);have h3:=eK (rs.drop (k+1)) N (by simp;omega);rw[List.drop_drop,show k+1+N=k+N+1 by omega]at h3;have h4:val (rs.drop (k+N+1))=0:=by
  rcases bH (val (rs.drop (k+N+1)))with h|h
  ·exact h
  ·have:=bQ (wt N) h;omega
 have h5:=eK (rs.drop k) (N+1) (by simp;omega);rw[List.drop_drop,show k+(N+1)=k+N+1 by omega,h4,Nat.mul_zero,bp]at h5;have h6:=iK hx;exact⟨h4,h5,by omega⟩
theorem G8{rs rs' out:List Nat}{D N k P V:Nat}(hD:0<D)(hlm:Lm rs)(hlen:rs'.length=rs.length)(hDN:D<wt N)(hk:k+N+1<=rs.length)(h:val rs<wt (k+1)*D)(hV:V=wt (k+1)*(D*val (out.drop (k+1)))+val rs)
  (hP:val ((rs.drop k).take (N+1))=P) (h1:rs'.take k=rs.take k) (h2:rs'.drop (k+N+1)=rs.drop (k+N+1)) (h3:val ((rs'.drop k).take (N+1))=P % D) (ho:k<out.length):
  val rs'<wt k*D∧V=wt k*(D*val ((out.set k (P / D)).drop k))+val rs':=by
 obtain⟨a1,a2,a3⟩:=Bt hlm hDN hk h;have b1:=eK rs k (by omega);have b2:=eK rs' k (by omega);have b3:=eK (rs'.drop k) (N+1) (by simp;omega);rw[List.drop_drop,show k+(N+1)=k+N+1 by omega,h2,a1,Nat.mul_zero,bp,h3]at b3;rw[h1,b3]at b2;rw[a2,hP]at b1;have b4:=mW (hlm.take k);have b5:(rs.take k).length=k:=by simp;omega
 rw[b5]at b4;have b6:=bm P hD;have b7:(out.set k (P / D))[k]? =some (P / D):=by rw[aU ho]
 have b8:=Nat.div_add_mod P D;refine⟨?_,?_⟩
 ·have:wt k*(P % D+1)<=wt k*D:=bQ _ b6;rw[bL]at this;omega
 ·rw[iK b7,List.drop_set_of_lt (show k<k+1 by omega),hV,b1,b2,gz];generalize val (out.drop (k+1))=o;have c1:wt k*P=wt k*(D*(P / D))+wt k*(P % D):=by rw[<-bL,b8]
  have c2:4294967296*wt k*(D*o)=wt k*(D*(4294967296*o)):=by
   rw[bM 4294967296,b9,Nat.mul_left_comm 4294967296]
  rw[c1,c2,bL D,bL (wt k)];omega
theorem FV{n m b:Nat}(hm:0<m)(hnm:m<=n):n*2^b<wt (ln n+1-ln m)*(m*2^b):=by
 have h1:=kK n;have h2:=eY hnm;have h3:wt (ln m-1)<=m:=by
  refine Nat.le_of_not_lt fun h=>?_;have:=fb.2 h;have h4:0<ln m:=by
   rcases bH (ln m)with h|h
   ·have:=fb.1 (Nat.le_of_eq h);rw[iR]at this;omega
   ·exact h
  omega
 have h4:0<ln m:=by
  rcases bH (ln m)with h|h
  ·have:=fb.1 (Nat.le_of_eq h);rw[iR]at this;omega
  ·exact h
 have h5:wt (ln n)<=wt (ln n+1-ln m)*m:=by
  rw[show ln n=(ln n+1-ln m)+(ln m-1) by omega,A1,show(ln n+1-ln m)+(ln m-1)+1-ln m=ln n+1-ln m by omega];exact bQ _ h3
 rw[<-b9];exact Nat.mul_lt_mul_of_pos_right (Nat.lt_of_lt_of_le h1 h5) (bg b)
theorem II{n m b o r:Nat}(hm:0<m)(h1:n*2^b=m*2^b*o+r)(h2:r<m*2^b):o=n / m∧r / 2^b=n % m:=by
 have hp:=bg b;have h3:n*2^b / (m*2^b)=o:=by rw[h1,Nat.mul_add_div (Nat.mul_pos hm hp),Nat.div_eq_of_lt h2,bp]
 have h4:n*2^b % (m*2^b)=r:=by rw[h1,Nat.mul_add_mod,bG h2]
 rw[Nat.mul_div_mul_right _ _ hp]at h3;rw[Nat.mul_mod_mul_right]at h4;exact⟨h3.symm,by rw[<-h4,Nat.mul_div_cancel _ hp]⟩
end Go.Ex
namespace Go.Ex
open Go Go.Sx Go.Proofs
variable{H:Hp}{x y z:Int}{iv:Iv}{ls:List Nat}{n nx:Nat}{S:Nat->Prop}{O:Nat->Sx.dS}{u v:Value}{w w' w1:World}
theorem Ek{g:Nat}{rs:List Nat}(hg:w.heap[g]? =some (.cells (U rs).toArray T.uint32 (0,0)))(hlm:Lm rs)(hl:rs.length<=1000000000000):
  cw w (fun x=>x=g) (.slice (some ⟨g,0,none⟩) rs.length rs.length) rs:=by
 have:=Eh (k:=0) (m:=rs.length) (c:=rs.length) hg hlm (by omega) (aE _) hl
 rwa [List.drop_zero,bC]at this
theorem o9{m:Nat}(hS:Old S w)(hn:dQ w S v n)(hm:dQ w S u m)(hm0:0<m)(hln:ln n<=100000000000):
  di PG N.mD #[v,u] w (dw w fun v' w2=>∃q r,v'= .tuple #[q,r]∧dQ w2 (Nf w w2) q (n / m)∧dQ w2 (Nw S w w2) r (n % m)):=by
 have hnN:=hn;have hmN:=hm;obtain⟨x,rfl,hp1,hp2⟩:=hn.la;obtain⟨y,rfl,hq1,hq2⟩:=hm.la;have hxl:=dm x.lm hp2;have hyl:=dm y.lm hq2;rw[hp1]at hxl;rw[hq1]at hyl;refine pT (by simp) ?_;refine bw (cG (Φ:=fun _ _ v _=>v= .int .i64 (qc n m)) (fun O w' r=>HE (S:=S) (fun g hg=>by have:=hS g hg;have:=r.cI.size;omega) (hnN.cB fun g hg=>r.cI.block g (hS g hg)) (hmN.cB fun g hg=>r.cI.block g (hS g hg))) ?_);rintro O w1 v1 w2 r he hw rfl;refine dF.mk (fun h=>?_) (fun h=>?_)
 ·have h:n<m:=by
   have:=aG h;unfold qc at this;split at this
   ·assumption
   ·split at this<;>omega
  intro ρ3 w3 r3;refine⟨_,rfl,hw.tr r3.cI,_,_,rfl,?_,?_⟩
  ·rw[Nat.div_eq_of_lt h];exact dQ.nil _ _
  ·rw[bG h];exact(hnN.cB fun g hg=>(hw.tr r3.cI).block g (hS g hg)).cC fun g hg=>.inl hg
 have h:m<=n:=by
  have:=aF h;unfold qc at this;split at this
  ·omega
  ·omega
 have hlmn:=eY h;refine dF.mk (fun h1=>?_) (fun h1=>?_)
 ·have h1:y.ls.length=1:=by have:=eq_of_beq h1;omega
  obtain⟨b,hyb⟩:=List.length_eq_one_iff.1 h1;have hb:y.ls[0]? =some b:=by rw[hyb];rfl
  have hb32:=y.lm.at hb;have hmb:m=b:=by rw[<-hq1,hyb];simp[val]
  subst hmb;obtain⟨ad,had,hload⟩:=y.load hS hw hb;refine⟨ad,had,by omega,.int .u32 m,hload _ _ _,?_⟩;refine bw (cG (Φ:=fun _ w' v w2=>∃q,v= .tuple #[q,.int .u32 ((val x.ls % m:Nat):Int)]∧dQ w2 (Nf w' w2) q (val x.ls / m)) (fun O w' r=>?_) ?_)
  ·refine I1 (S:=S) (fun g hg=>by have:=hS g hg;have:=(hw.tr r.cI).size;omega) ⟨x.lm,x.le,_,_,rfl,x.cap,fun j u hu=>?_⟩ (by omega) hm0 hb32;obtain⟨ad,e1,e2,e3⟩:=x.cell j u hu;exact⟨ad,e1,e2,jk hS hw r e2 e3⟩
  rintro O w3 v3 w4 r he hb4 ⟨q,rfl,hq⟩;replace hw:=hw.tr hb4;have hqN:=hq.cd (S:=fun _=>False) r.bu (iv:=(w3.heap.size,w4.heap.size)::[(w1.heap.size,w2.heap.size)]) aH;rw[hp1]at hqN;rw[hp1];generalize (w3.heap.size,w4.heap.size)::[(w1.heap.size,w2.heap.size)]=iv at*
  have hml:n % m<m:=bm _ hm0;generalize n % m=rem at*
  refine fo (Φ:=fun O _ v w2=>cw w2 (fun g=>g=(O 0).g) v (dO [rem])) (H':=[]) 0 rfl (by simp) trivial rfl (fun O w' r=>r.nn 0 _ rfl (by intros;simp) (by simp)) (fun O w' r=>?_) ?_
  ·have hL:=r.sP (id:=0) (ls:=[rem]) rfl (by intro x hx;simp at hx;omega) (by simp);exact ee (fun g hg=>by rw[hg];exact(r.low 0 _ rfl (r.nn 0 _ rfl (by intros;simp) (by simp))).2) hL
  rintro O w5 v5 w6 r he hb6 hL;have hlow:=r.low 0 _ rfl (r.nn 0 _ rfl (by intros;simp) (by simp));have hs:=he.size;replace hw:=hw.tr hb6;replace hqN:=hqN.bz (iv':=((O 0).g,(O 0).g+1)::(w5.heap.size,w6.heap.size)::iv) r (fun g h=>h.elim) he fun x hx=>by simp[hx]
  generalize (O 0).g=g0 at*
  have hrN:dQ w6 (Cf w ((g0,g0+1)::(w5.heap.size,w6.heap.size)::iv)) v5 rem:=by
   have:=hL.trimmed;simp only[val,Nat.mul_zero,bp]at this;exact this.cC fun k hk=>.inr ⟨by omega,g0,g0+1,by simp,by omega,by omega⟩
  generalize (g0,g0+1)::(w5.heap.size,w6.heap.size)::iv=iv2 at*
  intro ρ3 w7 r3;exact⟨_,rfl,hw.tr r3.cI,_,_,rfl,(hqN.rel r3 fun g h=>h.elim).cC fun g hg=>Cv.nw hg r3,((hrN.rel r3 fun g h=>h.elim).cC fun g hg=>Cv.nw hg r3).cC fun g hg=>hg.elim (fun h=>h.elim) .inr⟩
 ·have h1:y.ls.length≠1:=fun e=>by rw[e]at h1;simp at h1
  have hm1:0<ln m:=by
   rcases bH (ln m)with h|h
   ·have:=fb.1 (Nat.le_of_eq h);rw[iR]at this;omega
   ·exact h
  obtain⟨t,ht⟩:∃t,y.ls.length=t+1:=⟨y.ls.length-1,by omega⟩
  obtain⟨dt,hdt⟩:∃q,y.ls[t]? =some q:=⟨_,aA (by omega)⟩
  have hdt0:0<dt:=by
   have:=hq2 dt (by rw[List.getLast?_eq_getElem?,ht];exact hdt);omega
  have hdt32:=y.lm.at hdt;obtain⟨hby,hlnD⟩:=FU y.lm ht hdt hdt0;rw[hq1]at hlnD;obtain⟨ad,had,hload⟩:=y.load hS hw hdt;refine⟨(t:Int),wo,ad,had,by omega,.int .u32 dt,hload _ _ _,?_⟩;refine bw (cG (Φ:=fun _ _ v _=>v= .int .i64 ((32-fp dt:Nat):Int)) (fun O w' r=>Ja dt w' hdt32) ?_);rintro O w3 v3 w4 r he hb4 rfl;replace hw:=hw.tr hb4;generalize hbyd:32-fp dt=b at*
  refine⟨(b:Int),eF (by omega),?_⟩;refine bw (cG (Φ:=fun _ w' v w2=>∃out,HI w' w2 v out∧out.length=y.ls.length+1∧val out=val y.ls*2^b) (fun O w' r=>?_) ?_)
  ·refine zq (S:=S) (fun g hg=>by have:=hS g hg;have:=(hw.tr r.cI).size;omega) ⟨y.lm,y.le,_,_,rfl,y.cap,fun j u hu=>?_⟩ (by omega) hby;obtain⟨ad,e1,e2,e3⟩:=y.cell j u hu;exact⟨ad,e1,e2,jk hS hw r e2 e3⟩
  rintro O w5 v5 w6 r he hb6 ⟨dl,⟨gd,rfl,hgd1,hgd2,hgd3⟩,hdl,hdv⟩;replace hw:=hw.tr hb6;rw[hq1]at hdv;have hB5:w.heap.size<=w5.heap.size:=r.bu;have hcd:Cf w ((w5.heap.size,w6.heap.size)::[(w3.heap.size,w4.heap.size),(w1.heap.size,w2.heap.size)]) gd:=.inr ⟨by omega,_,_,aH,hgd1,jS hgd2⟩;generalize (w5.heap.size,w6.heap.size)::[(w3.heap.size,w4.heap.size),(w1.heap.size,w2.heap.size)]=iv at*
  have hF:∀g:Nat,(fun _:Nat=>False) g->g<w.heap.size:=fun g h=>h.elim;refine bw (cG (Φ:=fun _ _ v w2=>cw w2 (fun x=>x=gd) v (dO dl)) (fun O w' r=>ee (fun g hg=>by rw[hg];exact Rel.old r hF gd hcd) (Ek (by rw[Rel.same r hF hcd];exact hgd2) hgd3 (by omega))) ?_);rintro O w7 v6 w8 r he hb8 hL;replace hw:=hw.tr hb8;have hgd8:gd<w8.heap.size:=by have:=Rel.old r hF gd hcd;have:=he.size;omega
  replace hcd:=hcd.mono (iv':=(w7.heap.size,w8.heap.size)::iv) fun p hp=>aB _ hp;have hdN:=hL.trimmed;rw[hdv]at hdN;generalize (w7.heap.size,w8.heap.size)::iv=iv at*
  obtain⟨dp,rfl,hd1,hd2⟩:=hdN.la;have hdpl:=dm dp.lm hd2;rw[hd1,hlnD]at hdpl;generalize hDd:m*2^b=D at*
  have hD0:0<D:=by rw[<-hDd];exact Nat.mul_pos hm0 (bg b)
  refine bw (cG (Φ:=fun _ w' v w2=>∃out,HI w' w2 v out∧out.length=x.ls.length+1∧val out=val x.ls*2^b) (fun O w' r=>?_) ?_)
  ·refine zq (S:=S) (fun g hg=>by have:=hS g hg;have:=(hw.tr r.cI).size;omega) ⟨x.lm,x.le,_,_,rfl,x.cap,fun j u hu=>?_⟩ (by omega) hby;obtain⟨ad,e1,e2,e3⟩:=x.cell j u hu;exact⟨ad,e1,e2,jk hS hw r e2 e3⟩
  rintro O w9 v9 w10 r he hb10 ⟨rs0,⟨gr,rfl,hgr1,hgr2,hgr3⟩,hrl,hrv⟩;replace hw:=hw.tr hb10;rw[hp1]at hrv;have hB9:w.heap.size<=w9.heap.size:=r.bu;have hcr:Cf w ((w9.heap.size,w10.heap.size)::iv) gr:=.inr ⟨by omega,_,_,aH,hgr1,jS hgr2⟩;have hne:gr≠gd:=by have:=r.size;omega
  replace hdN:dQ w10 (fun x=>x=gd) (.slice dp.a dp.ls.length dp.c) D:=hdN.cB fun x hx=>by
   rw[hx,he.block gd (Rel.old r hF gd hcd),Rel.same r hF hcd]
  have hgd10:gd<w10.heap.size:=by have:=Rel.old r hF gd hcd;have:=he.size;omega
  replace hcd:=hcd.mono (iv':=(w9.heap.size,w10.heap.size)::iv) fun p hp=>aB _ hp;generalize (w9.heap.size,w10.heap.size)::iv=iv at*
  have hgrB:w.heap.size<=gr:=by omega
  obtain⟨L,hL⟩:∃L,rs0.length=t+1+L:=⟨rs0.length-(t+1),by omega⟩
  refine⟨(L:Int),wo,L,L,rfl,rfl,aE _,by omega,by omega,(L:Int)-1,wo,Nat×List Nat×List Nat×World,fun z=>⟨[(8,.o (.v (.int .u64 b))),(9,.o (.v (.slice dp.a dp.ls.length dp.c))),(10,.o (.v (.slice (some ⟨gr,0,none⟩) rs0.length rs0.length))),(11,.o (.s 0 0 L L)),(12,.o (.v (.int .i64 ((z.1:Int)-1))))],
    [(0,.arr T.uint32 (U z.2.1))],1,iv,z.2.2.2⟩,fun z=>z.1,
   fun z=>z.1<=L∧cR w.heap.size w z.2.2.2∧z.2.1.length=L∧z.2.2.1.length=rs0.length∧Lm z.2.1∧Lm z.2.2.1∧z.2.2.2.heap[gr]? =some (.cells (U z.2.2.1).toArray T.uint32 (0,0))∧dQ z.2.2.2 (fun x=>x=gd) (.slice dp.a dp.ls.length dp.c) D∧
    gd<z.2.2.2.heap.size∧val z.2.2.1<wt z.1*D∧n*2^b=wt z.1*(D*val (z.2.1.drop z.1))+val z.2.2.1,?_,?_⟩
  ·intro O w' r;rw[qd]at r;refine⟨(L,List.replicate L 0,rs0,w'),⟨aE _,hw.tr r.cI,by simp,rfl,Lm.replicate _,hgr3,?_,?_,?_,?_,?_⟩,Sub.gn [] r⟩
   ·dsimp only;rw[Rel.same r hF hcr];exact hgr2
   ·exact hdN.cB fun x hx=>by rw[hx];exact Rel.same r hF hcd
   ·exact Rel.old r hF gd hcd
   ·dsimp only
    have:=FV (b:=b) hm0 h;rw[hDd,<-hyl,ht,<-hxl,show x.ls.length+1-(t+1)=L by omega]at this;rw[hrv];exact this
   ·dsimp only;rw[hrv];simp[val]
  ·rintro⟨k,out,rs,w11⟩ ⟨hk,hw,hol,hrl2,hlo,hlr,hgr,hdN,hgd,hi1,hi2⟩;dsimp only at hk hw hol hrl2 hlo hlr hgr hdN hgd hi1 hi2 ⊢;refine dF.mk (fun h9=>?_) (fun h9=>?_)
   ·have h9:(k:Int)-1≥0:=aG h9;obtain⟨k,rfl⟩:∃q,k=q+1:=⟨k-1,by omega⟩
    rw[show ((k+1:Nat):Int)-1=(k:Int) by omega];have hDN:D<wt (t+1):=fb.1 (Nat.le_of_eq hlnD);obtain⟨a1,a2,a3⟩:=Bt (N:=t+1) hlr hDN (by omega) hi1;have hdig:=fun(w':World)=>@I0 (fun x=>x=gd) w' (.slice dp.a dp.ls.length dp.c) D gr k rs;rw[hlnD]at hdig;simp only[hrl2]at hdig;generalize hP:val ((rs.drop k).take (t+1+1))=P at*
    have hQ32:P / D<4294967296:=(Nat.div_lt_iff_lt_mul hD0).2 (by rw[bM]at a3;omega);refine⟨fun O w' r=>(hdig w' (fun g hg=>by rw[hg];exact Rel.old r hF gd hcd) hne (hdN.cB fun x hx=>by rw[hx];exact Rel.same r hF hcd) hD0 (by rw[Rel.same r hF hcr];exact hgr) hlr (by omega) (by omega) a3).mono fun e w12 he=>?_⟩;obtain⟨rfl,hgb,rs',e1,e2,e3,e4,e5,e6⟩:=he;refine⟨_,_,_,rfl,r.wR (fun id b hb hn=>Rel.not r hF hcr id b hb hn) hgb,?_⟩;obtain⟨hi1',hi2'⟩:=G8 (N:=t+1) hD0 hlr (e1.trans hrl2.symm) hDN (by omega) hi1 hi2 hP e3 e4 e5 (by omega);have hw12:cR w.heap.size w w12:=(hw.tr r.cI).tr (cR.grown hgb (fun g hg=>by injection hg with hg;omega) r.bu);have hdN12:dQ w12 (fun x=>x=gd) (.slice dp.a dp.ls.length dp.c) D:=hdN.cB fun x hx=>by
     rw[hx,hgb.block gd (Rel.old r hF gd hcd) (fun e=>hne (Option.some.inj e).symm),Rel.same r hF hcd]
    have hgd12:gd<w12.heap.size:=by have:=Rel.old r hF gd hcd;have:=hgb.size;omega
    generalize P / D=Q at*
    refine⟨by omega,by rw[fU];omega,U (out.set k Q),iA out k _ (by omega) (by simp),(k:Int)-1,wo,?_⟩;intro ρ3 w3 r3
    refine⟨(k,out.set k Q,rs',w3),⟨by dsimp only;omega,hw12.tr r3.cI,by simp[hol],e1.trans rfl,hlo.set hQ32,e2,?_,?_,?_,hi1',hi2'⟩,
     Sub.gn [] r3,by dsimp only;omega⟩
    ·dsimp only;rw[Rel.same r3 hF hcr];exact e6
    ·exact hdN12.cB fun x hx=>by rw[hx];exact Rel.same r3 hF hcd
    ·exact Rel.old r3 hF gd hcd
   ·have hk0:k=0:=by
     have:¬(k:Int)-1≥0:=aF h9;omega
    subst hk0;rw[iR,Nat.one_mul,List.drop_zero]at hi2;rw[iR,Nat.one_mul]at hi1;rw[<-hDd]at hi1 hi2;obtain⟨hq,hrem⟩:=II hm0 hi2 hi1;have hfr:∀w':World,w'.heap[gr]? =some (.cells (U rs).toArray T.uint32 (0,0))->cw w' (fun x=>x=gr) (.slice (some ⟨gr,0,none⟩) rs0.length rs0.length) rs:=fun w' hh=>by
     have:=Ek hh hlr (by omega)
     rwa [hrl2]at this
    refine fo (Φ:=fun O _ v w2=>cw w2 (fun g=>g=(O 0).g) v (dO out)) (H':=[]) 0 rfl (by simp) trivial rfl (fun O w' r=>r.nn 0 _ rfl (by intros;simp) (by simp)) (fun O w' r=>?_) ?_
    ·have hL:=r.mH (id:=0) rfl hlo (by omega);rw[hol]at hL;exact ee (fun g hg=>by rw[hg];exact(r.low 0 _ rfl (r.nn 0 _ rfl (by intros;simp) (by simp))).2) hL
    rintro O w13 v13 w14 r he hb14 hL;replace hw:=hw.tr hb14;have hlow:=r.low 0 _ rfl (r.nn 0 _ rfl (by intros;simp) (by simp));have hs:=he.size;have hgr14:w14.heap[gr]? =some (.cells (U rs).toArray T.uint32 (0,0)):=by rw[he.block gr (Rel.old r hF gr hcr),Rel.same r hF hcr];exact hgr
    replace hcr:=hcr.mono (iv':=((O 0).g,(O 0).g+1)::(w13.heap.size,w14.heap.size)::iv) fun p hp=>by simp[hp]
    have hqN:dQ w14 (Cf w (((O 0).g,(O 0).g+1)::(w13.heap.size,w14.heap.size)::iv)) v13 (n / m):=by
     have:=hL.trimmed;rw[hq]at this;exact this.cC fun k hk=>.inr ⟨by omega,_,_,aH,by omega,by omega⟩
    generalize ((O 0).g,(O 0).g+1)::(w13.heap.size,w14.heap.size)::iv=iv3 at*
    refine bw (cG (Φ:=fun _ _ v w2=>cw w2 (fun x=>x=gr) v (dO rs)) (fun O w' r=>ee (fun g hg=>by rw[hg];exact Rel.old r hF gr hcr) (hfr w' (by rw[Rel.same r hF hcr];exact hgr14))) ?_);rintro O w15 v15 w16 r he hb16 hL;replace hw:=hw.tr hb16;replace hqN:=hqN.bz (iv':=(w15.heap.size,w16.heap.size)::iv3) r hF he fun x hx=>aB _ hx;replace hL:=hL.cC (S':=Cf w ((w15.heap.size,w16.heap.size)::iv3)) fun g hg=>by rw[hg];exact hcr.cons
    generalize (w15.heap.size,w16.heap.size)::iv3=iv4 at*
    have htl:(dO rs).length<=rs.length:=by
     obtain⟨_,_,k,_,hk⟩:=eQ rs;rw[hk];simp;omega
    refine bw (cG (Φ:=fun _ w' v w2=>dQ w2 (Nf w' w2) v (val (dO rs) / 2^b)) (fun O w' r=>Jc (Rel.old r hF) (cw.rel hL r hF) (by omega) hby) ?_);rintro O w17 v17 w18 r he hb18 hr;replace hw:=hw.tr hb18;rw[(eQ rs).1,hrem]at hr;have hrN:=hr.cd (S:=fun _=>False) r.bu (iv:=(w17.heap.size,w18.heap.size)::iv4) aH;replace hqN:=hqN.bz (iv':=(w17.heap.size,w18.heap.size)::iv4) r hF he fun x hx=>aB _ hx;generalize (w17.heap.size,w18.heap.size)::iv4=iv5 at*
    intro ρ3 w19 r3;exact⟨_,rfl,hw.tr r3.cI,_,_,rfl,(hqN.rel r3 hF).cC fun g hg=>Cv.nw hg r3,((hrN.rel r3 hF).cC fun g hg=>Cv.nw hg r3).cC fun g hg=>hg.elim (fun h=>h.elim) .inr⟩
theorem C7{m:Nat}(hS:Old S w)(hn:dQ w S v n)(hm:dQ w S u m)(hln:ln n<=100000000000)(hlm:ln m<=100000000000):
  di PG N.sA #[v,u] w (dw w fun v' w2=>dQ w2 (Nw S w w2) v' (Nat.gcd n m)):=by
 refine vN (by simp) ?_
 refine⟨(Value×Nat)×(Value×Nat)×Iv×World,fun z=>⟨[(0,.o (.v z.1.1)),(1,.o (.v z.2.1.1))],[],0,z.2.2.1,z.2.2.2⟩,fun z=>z.2.1.2,
  fun z=>cR w.heap.size w z.2.2.2∧dQ z.2.2.2 (Cv S w.heap.size z.2.2.1) z.1.1 z.1.2∧dQ z.2.2.2 (Cv S w.heap.size z.2.2.1) z.2.1.1 z.2.1.2∧ln z.1.2<=100000000000∧ln z.2.1.2<=100000000000∧Nat.gcd z.1.2 z.2.1.2=Nat.gcd n m,?_,?_⟩
 ·intro O w' r
  exact⟨((v,n),(u,m),[],w'),⟨r.cI,(hn.cB fun g hg=>r.cI.block g (hS g hg)).cC fun _ hg=>.inl hg,(hm.cB fun g hg=>r.cI.block g (hS g hg)).cC fun _ hg=>.inl hg,hln,hlm,rfl⟩,
   Sub.gen [] r trivial ⟨rfl,rfl,trivial⟩ trivial (by simp[kl,SV.sc,At.sc]) (by rfl) (by simp)⟩
 ·rintro⟨⟨vx,x⟩,⟨vy,y⟩,iv,w1⟩ ⟨hw,hx,hy,hlx,hly,hg⟩;dsimp only at hw hx hy hlx hly hg ⊢;have hyN:=hy;obtain⟨p,rfl,hp1,hp2⟩:=hy.la;have hpl:=dm p.lm hp2;rw[hp1]at hpl;refine dF.mk (fun h=>?_) (fun h=>?_)
  ·have h:0<p.ls.length:=by
    have:(p.ls.length:Int)>0:=aG h;omega
   have hy0:0<y:=by
    rcases bH y with h0|h0
    ·rw[h0]at hpl;rw[IF]at hpl;omega
    ·exact h0
   refine bw (cG (Φ:=fun _ w' v w2=>∃q r,v= .tuple #[q,r]∧dQ w2 (Nf w' w2) q (x / y)∧dQ w2 (Nw (Cv S w.heap.size iv) w' w2) r (x % y)) (fun O w' r=>o9 (Rel.old r hS) (hx.rel r hS) (hyN.rel r hS) hy0 hlx) ?_);rintro O w3 v3 w4 r he hb4 ⟨q,rm,rfl,-,hr⟩;replace hw:=hw.tr hb4;have hrN:dQ w4 (Cv S w.heap.size ((w3.heap.size,w4.heap.size)::iv)) rm (x % y):=hr.cC fun g hg=>Nw.cv hg r.bu;have hyN:=hyN.bz (iv':=(w3.heap.size,w4.heap.size)::iv) r hS he fun x hx=>aB _ hx;generalize (w3.heap.size,w4.heap.size)::iv=iv2 at*
   intro ρ5 w5 r5
   refine⟨((_,y),(rm,x % y),iv2,w5),⟨hw.tr r5.cI,hyN.rel r5 hS,hrN.rel r5 hS,hly,ai (eY (Nat.le_of_lt (bm x hy0))) hly,?_⟩,
    Sub.gen [] r5 trivial ⟨rfl,rfl,trivial⟩ trivial (by simp[kl,SV.sc,At.sc]) (by rfl) (by simp),bm x hy0⟩
   dsimp only
   rw[<-hg,Nat.gcd_comm x y,Nat.gcd_rec y x,Nat.gcd_comm]
  ·have h:p.ls.length=0:=by
    have:¬(p.ls.length:Int)>0:=aF h;omega
   have hy0:y=0:=by
    have:=kK y;rw[<-hpl,h,iR]at this;omega
   rw[hy0,Nat.gcd_zero_right]at hg;intro ρ5 w5 r5;exact⟨_,rfl,hw.tr r5.cI,by rw[<-hg];exact(hx.rel r5 hS).cC fun g hg=>Cv.nw hg r5⟩
def sg(neg:Bool)(n:Nat):Int:=if neg then -(n:Int)else n
theorem HX(n:Nat):sg true n= -(n:Int):=rfl
theorem Jg(n:Nat):sg false n=n:=rfl
theorem qm(b:Bool)(n:Nat):(sg b n).natAbs=n:=by cases b<;>simp[sg]
def sV(w:World)(S:Nat->Prop)(v:Value)(neg:Bool)(ls:List Nat):Prop:=∃lv,v= .agg #[.bool neg,lv]∧cw w S lv ls
def dq(w:World)(S:Nat->Prop)(v:Value)(z:Int):Prop:=∃nv,v= .agg #[.bool (decide (z<0)),nv]∧dQ w S nv z.natAbs
section
variable{S S':Nat->Prop}{H:Hp}{nx:Nat}{iv iv':Iv}{B:Nat}{w w' w2:World}{O:Nat->Sx.dS}{v:Value}{z:Int}
theorem dq.cB(h:dq w S v z)(hk:∀g,S g->w2.heap[g]? =w.heap[g]?):dq w2 S v z:=by
 obtain⟨nv,h1,h2⟩:=h;exact⟨nv,h1,h2.cB hk⟩
theorem dq.cC(h:dq w S v z)(hk:∀g,S g->S' g):dq w S' v z:=by
 obtain⟨nv,h1,h2⟩:=h;exact⟨nv,h1,h2.cC hk⟩
theorem dq.rel(h:dq w (Cv S B iv) v z)(r:Rel H nx iv B w O w')(hS:∀g,S g->g<B):dq w' (Cv S B iv) v z:=h.cB fun _ hg=>Rel.same r hS hg
theorem dq.bz(h:dq w (Cv S B iv) v z)(r:Rel H nx iv B w O w')(hS:∀g,S g->g<B)(he:Ext w' w2)(hm:∀p,p∈iv->p∈iv'):dq w2 (Cv S B iv') v z:=by
 obtain⟨nv,h1,h2⟩:=h;exact⟨nv,h1,h2.bz r hS he hm⟩
theorem dq.cd(h:dq w2 (Nf w' w2) v z)(hB:B<=w'.heap.size)(hm:(w'.heap.size,w2.heap.size)∈iv):dq w2 (Cv S B iv) v z:=h.cC fun _ hg=>hg.cd hB hm
end
theorem tt{k:Nat}(h:k=ln n):0<k↔0<n:=by
 have h1:=@fb n 0;rw[iR]at h1;omega
theorem cw.shape(h:cw w S v ls):∃a n c,v= .slice a n c:=by
 obtain⟨a,c,h,_⟩:=h.sl;exact⟨a,_,c,h⟩
theorem dQ.shape(h:dQ w S v n):∃a n c,v= .slice a n c:=by
 obtain⟨_,h,_⟩:=h;exact h.shape
theorem cw.arg(h:cw w S v ls)(iv:Iv):cw w (Cv S w.heap.size iv) v ls:=h.cC fun _ h=>.inl h
theorem dQ.arg(h:dQ w S v n)(iv:Iv):dQ w (Cv S w.heap.size iv) v n:=h.cC fun _ h=>.inl h
theorem dQ.out(h:dQ w1 (Cv S w.heap.size iv) v n)(r:Rel H nx iv w.heap.size w1 O w')(hS:Old S w):dQ w' (Nw S w w') v n:=
 (h.rel r hS).cC fun _ hg=>Cv.nw hg r
theorem dq.out(h:dq w1 (Cv S w.heap.size iv) v z)(r:Rel H nx iv w.heap.size w1 O w')(hS:Old S w):dq w' (Nw S w w') v z:=
 (h.rel r hS).cC fun _ hg=>Cv.nw hg r
theorem neg_pos{k:Nat}(h:k=ln n):decide ((k:Int)>0)=decide (-(n:Int)<0):=by
 have:=tt h;exact decide_eq_decide.2 (by omega)
theorem bs(w:World):Old (fun _=>False) w:=fun _ h=>h.elim
theorem Kj{neg:Bool}(hS:Old S w)(h:sV w S v neg ls):
  di PG N.xg #[v] w (dw w fun v' w2=>dq w2 (Nw S w w2) v' (sg neg (val ls))):=by
 obtain⟨lv,rfl,hl⟩:=h;replace hl:=hl.arg [];refine CW (by simp) ?_;refine bw (cG (Φ:=fun _ _ v w2=>cw w2 (Cv S w.heap.size []) v (dO ls)) (fun O w' r=>ee (Rel.old r hS) (cw.rel hl r hS)) ?_);rintro O w1 v1 w2 r he hw hL;have hN:=hL.trimmed.cC (S':=Cv S w.heap.size [(w1.heap.size,w2.heap.size)]) fun _ hg=>hg.cons;have hN2:=hN;obtain⟨p,rfl,hp1,hp2⟩:=hN.la;have hpl:=dm p.lm hp2;rw[hp1]at hpl
 cases neg
 ·intro ρ3 w3 r3;exact⟨_,rfl,hw.tr r3.cI,_,rfl,by rw[qm];exact hN2.out r3 hS⟩
 ·intro ρ3 w3 r3;exact⟨_,rfl,hw.tr r3.cI,_,by rw[HX,<-neg_pos hpl];rfl,by rw[qm];exact hN2.out r3 hS⟩
theorem HY(hS:Old S w)(h:dq w S v z)(hln:ln z.natAbs<=100000000000):
  di PG N.lH #[v] w (dw w fun v' w2=>∃ls,sV w2 (Nf w w2) v' (decide (z<0)) ls∧Nz ls∧val ls=z.natAbs):=by
 obtain⟨nv,rfl,hn⟩:=h;obtain⟨ls,hl,hz,hv⟩:=hn;replace hl:=hl.arg [];refine o0 (by simp) ?_;refine bw (cG (Φ:=fun _ _ v w2=>cw w2 (Cv S w.heap.size []) v (dO ls)) (fun O w' r=>ee (Rel.old r hS) (cw.rel hl r hS)) ?_);rintro O w1 v1 w2 r he hw hL;rw[Bn hz]at hL;have hpl:=dm hl.lm hz;rw[hv]at hpl;replace hL:=hL.cC (S':=Cv S w.heap.size [(w1.heap.size,w2.heap.size)]) fun _ hg=>hg.cons;have hL2:=hL;obtain⟨p,rfl,hp⟩:=hL.la;have hpz:(p.ls.length:Int)>0↔z≠0:=by
  have h1:=tt hpl;rw[hp];omega
 subst hp;generalize hb:decide (z<0)=b
 cases b
 all_goals
  refine bw (cG (Φ:=fun _ w' v w2=>cw w2 (Nf w' w2) v p.ls) (fun O w' r=>Eg (Rel.old r hS) (cw.rel hL2 r hS) (by omega)) ?_);rintro O w3 v3 w4 r he hb4 hc;replace hw:=hw.tr hb4;have hcL:=hc.cd (S:=fun _=>False) r.bu (iv:=(w3.heap.size,w4.heap.size)::[(w1.heap.size,w2.heap.size)]) aH;obtain⟨a3,n3,c3,rfl⟩:=hcL.shape;intro ρ5 w5 r5;refine⟨_,rfl,hw.tr r5.cI,p.ls,⟨_,?_,(cw.rel hcL r5 (bs w)).cC fun _ hg=>Cv.nw hg r5⟩,hz,hv⟩
 ·rfl
 ·have:decide ((p.ls.length:Int)>0)=true:=bT (hpz.2 (by have:=aG hb;omega));rw[<-this];rfl
theorem yP(h:dq w S v z):di PG N.lF #[v] w (dw w fun v' _=>v'= .int .i64 z.sign):=by
 obtain⟨nv,rfl,hn⟩:=h;obtain⟨p,rfl,hp1,hp2⟩:=hn.la;have hpl:=dm p.lm hp2;rw[hp1]at hpl;have hpz:=tt hpl;generalize hb:decide (z<0)=b;refine oY (by simp) ?_;refine dF.mk (fun h=>?_) (fun h=>?_)
 ·have h:p.ls.length=0:=by have:=eq_of_beq h;omega
  have hz:z=0:=by omega
  subst hz;intro O w2 r;exact⟨_,rfl,r.cI,rfl⟩
 ·have h:p.ls.length≠0:=fun e=>by rw[e]at h;simp at h
  have hz:z≠0:=by omega
  cases b
  ·have:=aF hb;intro O w2 r;exact⟨_,rfl,r.cI,by rw[bc (by omega)];rfl⟩
  ·have:=aG hb;intro O w2 r;exact⟨_,rfl,r.cI,by rw[bY (by omega)];rfl⟩
theorem nC(hS:Old S w)(h:dq w S v z):di PG N.kY #[v] w (dw w fun v' w2=>dq w2 (Nw S w w2) v' (-z)):=by
 obtain⟨nv,rfl,hn⟩:=h;have hn2:=hn.arg [];obtain⟨p,rfl,hp1,hp2⟩:=hn.la;have hpl:=dm p.lm hp2;rw[hp1]at hpl;have hpz:=tt hpl;have hab:(-z).natAbs=z.natAbs:=bq z;generalize hb:decide (z<0)=b;refine nU (by simp) ?_
 cases b
 ·have:=aF hb;have hd:decide ((p.ls.length:Int)>0)=decide (-z<0):=decide_eq_decide.2 (by omega);intro O w2 r;exact⟨_,rfl,r.cI,_,by rw[<-hd];rfl,by rw[hab];exact hn2.out r hS⟩
 ·have:=aG hb;have hd:decide (-z<0)=false:=bF (by omega);intro O w2 r;exact⟨_,rfl,r.cI,_,by rw[hd];rfl,by rw[hab];exact hn2.out r hS⟩
theorem dq.num(h:dq w S v z):∃a n c,v= .agg #[.bool (decide (z<0)),.slice a n c]∧dQ w S (.slice a n c) z.natAbs:=by
 obtain⟨nv,h1,h2⟩:=h;obtain⟨a,n,c,rfl⟩:=h2.shape;exact⟨a,n,c,h1,h2⟩
theorem AD(hS:Old S w)(hx:dq w S v x)(hy:dq w S u y)(hlx:ln x.natAbs<=100000000000)(hly:ln y.natAbs<=100000000000):
  di PG N.lG #[v,u] w (dw w fun v' w2=>dq w2 (Nf w w2) v' (x+y)):=by
 obtain⟨nx,rfl,hxn⟩:=hx;obtain⟨ny,rfl,hyn⟩:=hy;obtain⟨ax,lx,cx,rfl⟩:=hxn.shape;obtain⟨ay,ly,cy,rfl⟩:=hyn.shape;replace hxn:=hxn.arg [];replace hyn:=hyn.arg [];generalize hbx:decide (x<0)=bx;generalize hby:decide (y<0)=b2;refine oZ (by simp) ?_;have hsame:bx=b2->(x+y).natAbs=x.natAbs+y.natAbs∧decide (x+y<0)=bx:=fun e=>by
  cases bx<;>subst e
  ·have h1:=aF hbx;have h2:=aF hby;exact⟨by omega,bF (by omega)⟩
  ·have h1:=aG hbx;have h2:=aG hby;exact⟨by omega,bT (by omega)⟩
 have hdiff:bx≠b2->y.natAbs<=x.natAbs->(x+y).natAbs=x.natAbs-y.natAbs∧(decide (x+y<0)=(bx&&decide (x.natAbs-y.natAbs≠0))):=fun e h=>by
  cases bx
  ·have h1:=aF hbx
   cases b2
   ·exact absurd rfl e
   have h2:=aG hby;exact⟨by omega,by rw[Bool.false_and];exact bF (by omega)⟩
  ·have h1:=aG hbx
   cases b2
   ·have h2:=aF hby;exact⟨by omega,by rw[Bool.true_and];exact decide_eq_decide.2 (by omega)⟩
   ·exact absurd rfl e
 have hdiff2:bx≠b2->x.natAbs<y.natAbs->(x+y).natAbs=y.natAbs-x.natAbs∧decide (x+y<0)=b2:=fun e h=>by
  cases bx
  ·have h1:=aF hbx
   cases b2
   ·exact absurd rfl e
   have h2:=aG hby;exact⟨by omega,bT (by omega)⟩
  ·have h1:=aG hbx
   cases b2
   ·have h2:=aF hby;exact⟨by omega,bF (by omega)⟩
   ·exact absurd rfl e
 by_cases hbb:bx=b2
 ·obtain⟨h1,h2⟩:=hsame hbb;subst hbb
  cases bx
  all_goals
   refine cF hτ dc [.x 0,.x 1,.x 2,.x 3,.x 4,.x 5,.x 6,.x 7,.x 8] (by kernel_rfl) (by kernel_rfl) ?_;refine cG (Φ:=fun _ w' v w2=>dQ w2 (Nf w' w2) v (x.natAbs+y.natAbs)) (fun O w' r=>Ji (Rel.old r hS) (hxn.rel r hS) (hyn.rel r hS) (by omega) (by omega)) ?_;rintro O w3 v3 w4 r he hw hn;have hN:=hn.cd (S:=fun _=>False) r.bu (iv:=(w3.heap.size,w4.heap.size)::[]) aH;obtain⟨a3,n3,c3,rfl⟩:=hN.shape;intro ρ5 w5 r5;exact⟨_,rfl,hw.tr r5.cI,_,by rw[h2];rfl,by rw[h1];exact hN.out r5 (bs w)⟩
 ·replace hdiff:=hdiff hbb;replace hdiff2:=hdiff2 hbb;have hcmp:∀d:Int,d=qc x.natAbs y.natAbs->(0<=d↔y.natAbs<=x.natAbs):=fun d e=>by
   rw[e];unfold qc;split
   ·omega
   ·split<;>omega
  cases bx<;>cases b2<;>first|exact absurd rfl hbb|skip
  all_goals
   refine bw (cG (Φ:=fun _ _ v _=>v= .int .i64 (qc x.natAbs y.natAbs)) (fun O w' r=>HE (Rel.old r hS) (hxn.rel r hS) (hyn.rel r hS)) ?_);rintro O w1 v1 w2 r he hw rfl;replace hxn:=hxn.bz (iv':=[(w1.heap.size,w2.heap.size)]) r hS he fun x hx=>aB _ hx;replace hyn:=hyn.bz (iv':=[(w1.heap.size,w2.heap.size)]) r hS he fun x hx=>aB _ hx;refine dF.mk (fun h=>?_) (fun h=>?_)
   ·have h:=(hcmp _ rfl).1 (aG h);obtain⟨h1,h2⟩:=hdiff h;refine bw (cG (Φ:=fun _ w' v w2=>dQ w2 (Nf w' w2) v (x.natAbs-y.natAbs)) (fun O w' r=>Ar (Rel.old r hS) (hxn.rel r hS) (hyn.rel r hS) h (by omega)) ?_);rintro O w3 v3 w4 r he hb4 hn;replace hw:=hw.tr hb4;have hN:=hn.cd (S:=fun _=>False) r.bu (iv:=(w3.heap.size,w4.heap.size)::[(w1.heap.size,w2.heap.size)]) aH;have hN2:=hN;obtain⟨p,rfl,hp1,hp2⟩:=hN.la;have hpl:=dm p.lm hp2;rw[hp1]at hpl;have hpz:=tt hpl;have hd:decide ((p.ls.length:Int)>0)=decide (x.natAbs-y.natAbs≠0):=decide_eq_decide.2 (by omega);intro ρ5 w5 r5;exact⟨_,rfl,hw.tr r5.cI,_,by rw[h2,<-hd];rfl,by rw[h1];exact hN2.out r5 (bs w)⟩
   ·have h:x.natAbs<y.natAbs:=by
     have h0:=aF h;have:=hcmp _ rfl;omega
    obtain⟨h1,h2⟩:=hdiff2 h;refine cF hτ dc [.x 0,.x 1,.x 2,.x 3,.x 4,.x 5,.x 6,.x 7,.x 8] (by kernel_rfl) (by kernel_rfl) ?_;refine cG (Φ:=fun _ w' v w2=>dQ w2 (Nf w' w2) v (y.natAbs-x.natAbs)) (fun O w' r=>Ar (Rel.old r hS) (hyn.rel r hS) (hxn.rel r hS) (by omega) (by omega)) ?_;rintro O w3 v3 w4 r he hb4 hn;replace hw:=hw.tr hb4;have hN:=hn.cd (S:=fun _=>False) r.bu (iv:=(w3.heap.size,w4.heap.size)::[(w1.heap.size,w2.heap.size)]) aH;obtain⟨a3,n3,c3,rfl⟩:=hN.shape;intro ρ5 w5 r5;exact⟨_,rfl,hw.tr r5.cI,_,by rw[h2];rfl,by rw[h1];exact hN.out r5 (bs w)⟩
theorem gO(hS:Old S w)(hx:dq w S v x)(hy:dq w S u y)(hlx:ln x.natAbs<=100000000000)(hly:ln y.natAbs<=100000000000):
  di PG N.kX #[v,u] w (dw w fun v' w2=>dq w2 (Nf w w2) v' (x*y)):=by
 obtain⟨nx,rfl,hxn⟩:=hx;obtain⟨ny,rfl,hyn⟩:=hy;obtain⟨ax,lx,cx,rfl⟩:=hxn.shape;obtain⟨ay,ly,cy,rfl⟩:=hyn.shape;replace hxn:=hxn.arg [];replace hyn:=hyn.arg [];have hab:=Int.natAbs_mul x y;have hneg:decide (x*y<0)=((decide (x<0) != decide (y<0))&&decide (x.natAbs*y.natAbs≠0)):=by
  by_cases h0:x*y=0
  ·rw[<-hab,h0];simp
  ·have hx0:x≠0:=fun e=>h0 (by rw[e,Int.zero_mul]);have hy0:y≠0:=fun e=>h0 (by rw[e,Int.mul_zero]);rw[<-hab,bT (show (x*y).natAbs≠0 by omega),Bool.and_true];by_cases h1:x<0<;>by_cases h2:y<0
   ·rw[bT h1,bT h2];exact bF (by have:=Int.mul_pos_of_neg_of_neg h1 h2;omega)
   ·rw[bT h1,bF h2];exact bT (Int.mul_neg_of_neg_of_pos h1 (by omega))
   ·rw[bF h1,bT h2];exact bT (Int.mul_neg_of_pos_of_neg (by omega) h2)
   ·rw[bF h1,bF h2];exact bF (by have:=Int.mul_nonneg (show 0<=x by omega) (show 0<=y by omega);omega)
 generalize decide (x<0)=bx at*
 generalize decide (y<0)=b2 at*
 refine nT (by simp) ?_;refine bw (cG (Φ:=fun _ w' v w2=>dQ w2 (Nf w' w2) v (x.natAbs*y.natAbs)) (fun O w' r=>Ei (Rel.old r hS) (hxn.rel r hS) (hyn.rel r hS) (by omega) (by omega)) ?_);rintro O w3 v3 w4 r he hw hn;have hN:=hn.cd (S:=fun _=>False) r.bu (iv:=(w3.heap.size,w4.heap.size)::[]) aH;have hN2:=hN;obtain⟨p,rfl,hp1,hp2⟩:=hN.la;have hpl:=dm p.lm hp2;rw[hp1]at hpl;have hpz:=tt hpl;have hd:decide ((p.ls.length:Int)>0)=decide (x.natAbs*y.natAbs≠0):=decide_eq_decide.2 (by omega)
 cases bx<;>cases b2
 all_goals
  intro ρ5 w5 r5;exact⟨_,rfl,hw.tr r5.cI,_,by rw[hneg,<-hd];rfl,by rw[hab];exact hN2.out r5 (bs w)⟩
theorem H0(hS:Old S w)(hx:dq w S v x)(hy:dq w S u y)(hlx:ln x.natAbs<=100000000000)(hly:ln y.natAbs<=100000000000):
  di PG N.mB #[v,u] w (dw w fun v' _=>v'= .int .i64 (x-y).sign):=by
 have hxN:dq w (Cv S w.heap.size []) v x:=hx.cC fun _ h=>.inl h;have hyN:dq w (Cv S w.heap.size []) u y:=hy.cC fun _ h=>.inl h;obtain⟨nx,rfl,hxn⟩:=hx;obtain⟨ny,rfl,hyn⟩:=hy;obtain⟨ax,lx,cx,rfl⟩:=hxn.shape;obtain⟨ay,ly,cy,rfl⟩:=hyn.shape;refine pS (by simp) ?_;refine cF hτ dc [.x 0,.x 1,.x 2,.x 3,.x 4,.x 5] (by kernel_rfl) (by kernel_rfl) ?_;refine cG (Φ:=fun _ w' v w2=>dq w2 (Nw (Cv S w.heap.size []) w' w2) v (-y)) (fun O w' r=>nC (Rel.old r hS) (hyN.rel r hS)) ?_;rintro O w1 v1 w2 r he hw hm;have hmN:dq w2 (Cv S w.heap.size [(w1.heap.size,w2.heap.size)]) v1 (-y):=hm.cC fun _ hg=>Nw.cv hg r.bu;replace hxN:=hxN.bz (iv':=[(w1.heap.size,w2.heap.size)]) r hS he fun x hx=>aB _ hx;generalize [(w1.heap.size,w2.heap.size)]=iv at*
 have hmN2:=hmN;obtain⟨am,lm,cm,rfl,-⟩:=hmN.num;refine cG (Φ:=fun _ w' v w2=>dq w2 (Nf w' w2) v (x+ -y)) (fun O w' r=>AD (Rel.old r hS) (hxN.rel r hS) (hmN2.rel r hS) hlx (by rw[bq];exact hly)) ?_;rintro O w3 v3 w4 r he hb4 hp;replace hw:=hw.tr hb4;have hpN:=hp.cd (S:=S) r.bu (iv:=(w3.heap.size,w4.heap.size)::iv) aH;have hpN2:=hpN;obtain⟨ap,lp,cp,rfl,-⟩:=hpN.num;refine cG (Φ:=fun _ _ v _=>v= .int .i64 (x-y).sign) (fun O w' r=>yP (hpN2.rel r hS)) ?_;rintro O w5 v5 w6 r he hb6 rfl;replace hw:=hw.tr hb6;intro ρ7 w7 r7;exact⟨_,rfl,hw.tr r7.cI,rfl⟩
theorem nE(n:Int)(w:World)(h1: -9223372036854775808<=n)(h2:n<=9223372036854775807):
  di PG N.ub #[.int .i64 n] w (dw w fun v' w2=>dq w2 (Nf w w2) v' n):=by
 have key:∀(m:Nat),m=n.natAbs->m<18446744073709551616∧val [m % 4294967296,m / 4294967296]=n.natAbs∧m / 4294967296<4294967296:=fun m e=>by
  refine⟨by omega,?_,by omega⟩;simp only[val]
  omega
 refine yF (by simp) ?_;refine⟨if n<0 then n+18446744073709551616 else n,by show n % 18446744073709551616=_;split<;>omega,?_⟩;refine dF.mk (fun h=>?_) (fun h=>?_)
 ·have h:=aG h;rw[if_pos h];obtain⟨m,hm⟩:∃m,m=n.natAbs:=⟨_,rfl⟩
  obtain⟨k1,k2,k3⟩:=key m hm;refine⟨(m:Int),by show(0-(n+18446744073709551616)) % 18446744073709551616=_;omega,((m % 4294967296:Nat):Int),eW m,by decide,((m / 2^32:Nat):Int),kc 32 (by decide),((m / 4294967296:Nat):Int),by rw[eW,bG (by omega)],?_⟩;refine fo (Φ:=fun O _ v w2=>cw w2 (fun g=>g=(O 1).g) v (dO [m % 4294967296,m / 4294967296])) (H':=[(0,.box T.number [.v (.bool false),.v (.slice none 0 0)])]) 1 rfl (by simp) ⟨rfl,trivial⟩ rfl (fun O w' r=>r.nn 1 _ rfl (by intros;simp) (by simp)) (fun O w' r=>?_) ?_
  ·have hL:=r.sP (id:=1) (ls:=[m % 4294967296,m / 4294967296]) rfl (by intro x hx;simp at hx;omega) (by simp);exact ee (fun g hg=>by rw[hg];exact(r.low 1 _ rfl (r.nn 1 _ rfl (by intros;simp) (by simp))).2) hL
  rintro O w1 v1 w2 r he hw hL;have hlow:=r.low 1 _ rfl (r.nn 1 _ rfl (by intros;simp) (by simp));have hs:=he.size;generalize (O 1).g=g0 at*
  have hN:dQ w2 (Cf w [(g0,g0+1),(w1.heap.size,w2.heap.size)]) v1 n.natAbs:=by
   have:=hL.trimmed;rw[k2]at this;exact this.cC fun k hk=>.inr ⟨by omega,g0,g0+1,by simp,by omega,by omega⟩
  generalize [(g0,g0+1),(w1.heap.size,w2.heap.size)]=iv at*
  obtain⟨a3,n3,c3,rfl⟩:=hN.shape;intro ρ5 w5 r5;exact⟨_,rfl,hw.tr r5.cI,_,rfl,hN.out r5 (bs w)⟩
 ·have h:=aF h;rw[aI h];obtain⟨m,hm⟩:∃m,m=n.natAbs:=⟨_,rfl⟩
  obtain⟨k1,k2,k3⟩:=key m hm;have hmn:n=(m:Int):=by omega
  refine⟨((m % 4294967296:Nat):Int),by rw[hmn];exact eW m,by decide,((m / 2^32:Nat):Int),by rw[hmn];exact kc 32 (by decide),((m / 4294967296:Nat):Int),by rw[eW,bG (by omega)],?_⟩;refine fo (Φ:=fun O _ v w2=>cw w2 (fun g=>g=(O 1).g) v (dO [m % 4294967296,m / 4294967296])) (H':=[(0,.box T.number [.v (.bool false),.v (.slice none 0 0)])]) 1 rfl (by simp) ⟨rfl,trivial⟩ rfl (fun O w' r=>r.nn 1 _ rfl (by intros;simp) (by simp)) (fun O w' r=>?_) ?_
  ·have hL:=r.sP (id:=1) (ls:=[m % 4294967296,m / 4294967296]) rfl (by intro x hx;simp at hx;omega) (by simp);exact ee (fun g hg=>by rw[hg];exact(r.low 1 _ rfl (r.nn 1 _ rfl (by intros;simp) (by simp))).2) hL
  rintro O w1 v1 w2 r he hw hL;have hlow:=r.low 1 _ rfl (r.nn 1 _ rfl (by intros;simp) (by simp));have hs:=he.size;generalize (O 1).g=g0 at*
  have hN:dQ w2 (Cf w [(g0,g0+1),(w1.heap.size,w2.heap.size)]) v1 n.natAbs:=by
   have:=hL.trimmed;rw[k2]at this;exact this.cC fun k hk=>.inr ⟨by omega,g0,g0+1,by simp,by omega,by omega⟩
  generalize [(g0,g0+1),(w1.heap.size,w2.heap.size)]=iv at*
  obtain⟨a3,n3,c3,rfl⟩:=hN.shape;intro ρ5 w5 r5;exact⟨_,rfl,hw.tr r5.cI,_,rfl,hN.out r5 (bs w)⟩
def ix(w:World)(S:Nat->Prop)(v:Value)(z:Int):Prop:=∃neg ls,sV w S v neg ls∧sg neg (val ls)=z
def cZ(w:World)(S:Nat->Prop)(v:Value)(z:Int):Prop:=∃ls,sV w S v (decide (z<0)) ls∧Nz ls∧val ls=z.natAbs
theorem AF(z:Int):sg (decide (z<0)) z.natAbs=z:=by
 by_cases h:z<0
 ·rw[bT h,HX];omega
 ·rw[bF h,Jg];omega
theorem cZ.r(h:cZ w S v z):ix w S v z:=by
 obtain⟨ls,h1,h2,h3⟩:=h;exact⟨_,ls,h1,by rw[h3,AF]⟩
section
variable{S S':Nat->Prop}{H:Hp}{nx:Nat}{iv iv':Iv}{B:Nat}{w w' w2:World}{O:Nat->Sx.dS}{v:Value}{z:Int}{neg:Bool}{ls:List Nat}
theorem sV.cB(h:sV w S v neg ls)(hk:∀g,S g->w2.heap[g]? =w.heap[g]?):sV w2 S v neg ls:=by
 obtain⟨lv,h1,h2⟩:=h;exact⟨lv,h1,h2.cB hk⟩
theorem sV.cC(h:sV w S v neg ls)(hk:∀g,S g->S' g):sV w S' v neg ls:=by
 obtain⟨lv,h1,h2⟩:=h;exact⟨lv,h1,h2.cC hk⟩
theorem ix.cB(h:ix w S v z)(hk:∀g,S g->w2.heap[g]? =w.heap[g]?):ix w2 S v z:=by
 obtain⟨n,l,h1,h2⟩:=h;exact⟨n,l,h1.cB hk,h2⟩
theorem ix.cC(h:ix w S v z)(hk:∀g,S g->S' g):ix w S' v z:=by
 obtain⟨n,l,h1,h2⟩:=h;exact⟨n,l,h1.cC hk,h2⟩
theorem cZ.cB(h:cZ w S v z)(hk:∀g,S g->w2.heap[g]? =w.heap[g]?):cZ w2 S v z:=by
 obtain⟨l,h1,h2⟩:=h;exact⟨l,h1.cB hk,h2⟩
theorem cZ.cC(h:cZ w S v z)(hk:∀g,S g->S' g):cZ w S' v z:=by
 obtain⟨l,h1,h2⟩:=h;exact⟨l,h1.cC hk,h2⟩
theorem ix.rel(h:ix w (Cv S B iv) v z)(r:Rel H nx iv B w O w')(hS:∀g,S g->g<B):ix w' (Cv S B iv) v z:=h.cB fun _ hg=>Rel.same r hS hg
theorem cZ.rel(h:cZ w (Cv S B iv) v z)(r:Rel H nx iv B w O w')(hS:∀g,S g->g<B):cZ w' (Cv S B iv) v z:=h.cB fun _ hg=>Rel.same r hS hg
theorem ix.bz(h:ix w (Cv S B iv) v z)(r:Rel H nx iv B w O w')(hS:∀g,S g->g<B)(he:Ext w' w2)(hm:∀p,p∈iv->p∈iv'):ix w2 (Cv S B iv') v z:=
 ((h.rel r hS).cB fun g hg=>he.block g (Rel.old r hS g hg)).cC fun _ hg=>hg.mono hm
theorem cZ.bz(h:cZ w (Cv S B iv) v z)(r:Rel H nx iv B w O w')(hS:∀g,S g->g<B)(he:Ext w' w2)(hm:∀p,p∈iv->p∈iv'):cZ w2 (Cv S B iv') v z:=
 ((h.rel r hS).cB fun g hg=>he.block g (Rel.old r hS g hg)).cC fun _ hg=>hg.mono hm
theorem cZ.cd(h:cZ w2 (Nf w' w2) v z)(hB:B<=w'.heap.size)(hm:(w'.heap.size,w2.heap.size)∈iv):cZ w2 (Cv S B iv) v z:=h.cC fun _ hg=>hg.cd hB hm
theorem ix.shape(h:ix w S v z):∃b a n c,v= .agg #[.bool b,.slice a n c]:=by
 obtain⟨b,l,⟨lv,h1,h2⟩,_⟩:=h;obtain⟨a,n,c,rfl⟩:=h2.shape;exact⟨b,a,n,c,h1⟩
theorem dq.old(h:dq w2 (Nw (Cv S B iv) w' w2) v z)(hB:B<=w'.heap.size):dq w2 (Cv S B ((w'.heap.size,w2.heap.size)::iv)) v z:=h.cC fun _ hg=>Nw.cv hg hB
end
theorem cZ.out(h:cZ w1 (Cv S w.heap.size iv) v z)(r:Rel H nx iv w.heap.size w1 O w')(hS:Old S w):cZ w' (Nw S w w') v z:=
 (h.rel r hS).cC fun _ hg=>Cv.nw hg r
theorem H3(hS:Old S w)(h:ix w S v z):di PG N.xg #[v] w (dw w fun v' w2=>dq w2 (Nw S w w2) v' z):=by
 obtain⟨n,l,h1,rfl⟩:=h;exact Kj hS h1
theorem dq.shape(h:dq w S v z):∃b a n c,v= .agg #[.bool b,.slice a n c]:=by
 obtain⟨a,n,c,h1,_⟩:=h.num;exact⟨_,a,n,c,h1⟩
theorem cZ.shape(h:cZ w S v z):∃b a n c,v= .agg #[.bool b,.slice a n c]:=h.r.shape
theorem cT(x y:Int):ln (x*y).natAbs<=ln x.natAbs+ln y.natAbs:=by
 rw[Int.natAbs_mul];exact JV _ _
end Go.Ex
namespace Go.Ex
open Go Go.Sx
theorem xH{x y:Int}(hy:0<y)(hx:x≠0):
  (Rat.divInt x y).num.natAbs=x.natAbs / Nat.gcd x.natAbs y.natAbs∧(Rat.divInt x y).den=y.natAbs / Nat.gcd x.natAbs y.natAbs∧decide ((Rat.divInt x y).num<0)=decide (x<0):=by
 have hg:0<Nat.gcd x.natAbs y.natAbs:=bf _ (by omega);have hs:y.sign=1:=bc hy;have hc:(y.gcd x:Int)=(Nat.gcd x.natAbs y.natAbs:Nat):=by rw[Int.gcd_comm];rfl
 have hdx:((Nat.gcd x.natAbs y.natAbs:Nat):Int) ∣ x:=by
  rw[<-Int.natAbs_dvd_natAbs];exact Nat.gcd_dvd_left _ _
 have h1:(Rat.divInt x y).num=x / ((Nat.gcd x.natAbs y.natAbs:Nat):Int):=by
  rw[Rat.num_divInt,hs,Int.one_mul,hc]
 have hgi:0<((Nat.gcd x.natAbs y.natAbs:Nat):Int):=by omega
 refine⟨?_,?_,?_⟩
 ·rw[h1,Int.natAbs_ediv_of_dvd hdx];rfl
 ·rw[Rat.den_divInt,aI (by omega)];have:y.gcd x=Nat.gcd x.natAbs y.natAbs:=by rw[Int.gcd_comm];rfl
  rw[this]
 ·rw[h1];obtain⟨k,hk⟩:=hdx;refine decide_eq_decide.2 ?_;have:x / ((Nat.gcd x.natAbs y.natAbs:Nat):Int)=k:=by
   conv=>lhs;lhs;rw[hk]
   exact Int.mul_ediv_cancel_left _ (by omega)
  rw[this];generalize ((Nat.gcd x.natAbs y.natAbs:Nat):Int)=g at*
  subst hk;constructor
  ·intro h;exact Int.mul_neg_of_pos_of_neg hgi h
  ·intro h;have h0:¬0<=k:=fun hh=>by have:=Int.mul_nonneg (show 0<=g by omega) hh;omega
   omega
theorem FX{a b:Nat}:ln (a / b)<=ln a:=eY (Nat.div_le_self a b)
theorem xI(y:Int):Rat.divInt 0 y=0:=Rat.zero_divInt y
end Go.Ex
namespace Go.Ex
open Go Go.Sx Go.Proofs
variable{b b2:Bool}{S:Nat->Prop}{q:Rat}{dv nv v:Value}{w:World}
theorem dQ.old{B:Nat}{iv:Iv}{w' w2:World}{n:Nat}(h:dQ w2 (Nw (Cv S B iv) w' w2) v n)(hB:B<=w'.heap.size):dQ w2 (Cv S B ((w'.heap.size,w2.heap.size)::iv)) v n:=h.cC fun _ hg=>Nw.cv hg hB
def dC(w:World)(S:Nat->Prop)(v:Value)(q:Rat):Prop:=∃nv dv,v= .agg #[.bool (decide (q.num<0)),nv,.bool false,dv]∧dQ w S nv q.num.natAbs∧dQ w S dv q.den
theorem dC.cB{w2:World}(h:dC w S v q)(hk:∀g,S g->w2.heap[g]? =w.heap[g]?):dC w2 S v q:=by
 obtain⟨n,d,h1,h2,h3⟩:=h;exact⟨n,d,h1,h2.cB hk,h3.cB hk⟩
theorem dC.cC{S':Nat->Prop}(h:dC w S v q)(hk:∀g,S g->S' g):dC w S' v q:=by
 obtain⟨n,d,h1,h2,h3⟩:=h;exact⟨n,d,h1,h2.cC hk,h3.cC hk⟩
theorem dC.shape(h:dC w S v q):∃b a n c b2 a2 n2 c2,v= .agg #[.bool b,.slice a n c,.bool b2,.slice a2 n2 c2]:=by
 obtain⟨n,d,h1,h2,h3⟩:=h;obtain⟨a,n,c,rfl⟩:=h2.shape;obtain⟨a2,n2,c2,rfl⟩:=h3.shape;exact⟨_,a,n,c,_,a2,n2,c2,h1⟩
theorem dC.num(h:dC w S (.agg #[.bool b,nv,.bool b2,dv]) q):dq w S (.agg #[.bool b,nv]) q.num:=by
 obtain⟨n,d,h1,h2,h3⟩:=h;simp at h1;obtain⟨rfl,rfl,rfl,rfl⟩:=h1;exact⟨_,rfl,h2⟩
theorem dC.den(h:dC w S (.agg #[.bool b,nv,.bool b2,dv]) q):dq w S (.agg #[.bool b2,dv]) (q.den:Int):=by
 obtain⟨n,d,h1,h2,h3⟩:=h;simp at h1;obtain⟨rfl,rfl,rfl,rfl⟩:=h1;exact⟨_,by rw[bF (by omega)],h3⟩
theorem dC.of(h:dq w S (.agg #[.bool b,nv]) q.num)(k:dq w S (.agg #[.bool b2,dv]) (q.den:Int)):dC w S (.agg #[.bool b,nv,.bool b2,dv]) q:=by
 obtain⟨n,h1,h2⟩:=h;obtain⟨d,h3,h4⟩:=k;simp at h1 h3;obtain⟨rfl,rfl⟩:=h1;obtain⟨rfl,rfl⟩:=h3;refine⟨_,_,?_,h2,h4⟩;rw[bF (show ¬((q.den:Int)<0) by omega)]
section
variable{S S':Nat->Prop}{H:Hp}{nx:Nat}{iv iv':Iv}{B:Nat}{w w' w2:World}{O:Nat->Sx.dS}{v:Value}{q:Rat}
theorem dC.rel(h:dC w (Cv S B iv) v q)(r:Rel H nx iv B w O w')(hS:∀g,S g->g<B):dC w' (Cv S B iv) v q:=h.cB fun _ hg=>Rel.same r hS hg
theorem dC.bz(h:dC w (Cv S B iv) v q)(r:Rel H nx iv B w O w')(hS:∀g,S g->g<B)(he:Ext w' w2)(hm:∀p,p∈iv->p∈iv'):dC w2 (Cv S B iv') v q:=
 ((h.rel r hS).cB fun g hg=>he.block g (Rel.old r hS g hg)).cC fun _ hg=>hg.mono hm
theorem dC.cd(h:dC w2 (Nf w' w2) v q)(hB:B<=w'.heap.size)(hm:(w'.heap.size,w2.heap.size)∈iv):dC w2 (Cv S B iv) v q:=h.cC fun _ hg=>hg.cd hB hm
theorem dC.old(h:dC w2 (Nw (Cv S B iv) w' w2) v q)(hB:B<=w'.heap.size):dC w2 (Cv S B ((w'.heap.size,w2.heap.size)::iv)) v q:=h.cC fun _ hg=>Nw.cv hg hB
theorem dC.out{w0 w1:World}(h:dC w1 (Cv S w0.heap.size iv) v q)(r:Rel H nx iv w0.heap.size w1 O w')(hS:Old S w0):dC w' (Nw S w0 w') v q:=
 (h.rel r hS).cC fun _ hg=>Cv.nw hg r
end
theorem dq.nat{z:Int}(h:dq w S (.agg #[.bool b,nv]) z):b=decide (z<0)∧dQ w S nv z.natAbs:=by
 obtain⟨n,h1,h2⟩:=h;simp at h1;obtain⟨rfl,rfl⟩:=h1;exact⟨rfl,h2⟩
theorem tw{u:Value}{x y:Int}(hS:Old S w)(hx:dq w S v x)(hy:dq w S u y)(hy0:y≠0)(hlx:ln x.natAbs<=100000000000)(hly:ln y.natAbs<=100000000000):
  di PG N.xh #[v,u] w (dw w fun v' w2=>dC w2 (Nf w w2) v' (Rat.divInt x y)):=by
 have hw:cR w.heap.size w w:=cR.refl;replace hx:=hx.cC (S':=Cv S w.heap.size []) fun _ h=>.inl h;replace hy:=hy.cC (S':=Cv S w.heap.size []) fun _ h=>.inl h;obtain⟨bx,ax,lx,cx,rfl⟩:=hx.shape;obtain⟨b2,ay,ly,cy,rfl⟩:=hy.shape;have hb2:=hy.nat.1;refine yp (by simp) ?_
 cases b2
 ·have hyp:0<y:=by have:=aF hb2.symm;omega
  have hq:Rat.divInt x y=Rat.divInt x y:=rfl;have hbA:=hx.nat.1;refine bw (cE hw (fun _ w' v w2=>v= .int .i64 (x).sign) (fun O w' r=>yP (hx.rel r hS)) ?_);rintro O wa1 v1 wb1 iv1 r he hw h_ rfl;replace hx:=hx.bz r hS he (mC h_);replace hy:=hy.bz r hS he (mC h_);refine dF.mk (fun h=>?_) (fun h=>?_)
  ·have h:x=0:=Int.sign_eq_zero_iff_zero.1 (eq_of_beq h);refine bw (cE hw (fun _ w' v w2=>dq w2 (Nf w' w2) v 1) (fun O w' r=>nE 1 w' (by decide) (by decide)) ?_);rintro O wa2 v2 wb2 iv2 r he hw h_ hn;have hO:=hn.cd (S:=fun _=>False) r.bu (mN h_);obtain⟨s2_0,s2_1,s2_2,s2_3,rfl⟩:=hO.shape;have e0:Rat.divInt x y=0:=by rw[hq,h,xI]
   intro ρe we re;exact⟨_,rfl,hw.tr re.cI,by rw[e0];exact dC.of ⟨_,rfl,dQ.nil _ _⟩ (hO.out re (bs w))⟩
  ·have h:x≠0:=fun e=>by rw[e]at h;exact absurd h (by decide)
   obtain⟨g1,g2,g3⟩:=xH hyp h;have hg0:0<Nat.gcd (x).natAbs (y).natAbs:=bf _ (by omega);have hAn:=hx.nat.2;have hBn:=hy.nat.2;refine bw (cG (Φ:=fun _ w' v w2=>dQ w2 (Nw (Cv S w.heap.size iv1) w' w2) v (Nat.gcd (x).natAbs (y).natAbs)) (fun O w' r=>C7 (Rel.old r hS) (hAn.rel r hS) (hBn.rel r hS) (by omega) (by omega)) ?_);rintro O wa2 v2 wb2 r he hb hn;replace hw:=hw.tr hb;replace hAn:=hAn.bz (iv':=(wa2.heap.size,wb2.heap.size)::iv1) r hS he fun x hx=>aB _ hx;replace hBn:=hBn.bz (iv':=(wa2.heap.size,wb2.heap.size)::iv1) r hS he fun x hx=>aB _ hx;have hG:=hn.old r.bu;generalize (wa2.heap.size,wb2.heap.size)::iv1=iv2 at*
   obtain⟨s2_0,s2_1,s2_2,rfl⟩:=hG.shape;refine bw (cG (Φ:=fun _ w' v w2=>∃q r,v= .tuple #[q,r]∧dQ w2 (Nf w' w2) q ((x).natAbs / Nat.gcd (x).natAbs (y).natAbs)∧dQ w2 (Nw (Cv S w.heap.size iv2) w' w2) r ((x).natAbs % Nat.gcd (x).natAbs (y).natAbs)) (fun O w' r=>o9 (Rel.old r hS) (hAn.rel r hS) (hG.rel r hS) hg0 (by omega)) ?_);rintro O wa3 v3 wb3 r he hb ⟨qvp,rvp,rfl,hq1,hr1⟩;replace hw:=hw.tr hb;replace hBn:=hBn.bz (iv':=(wa3.heap.size,wb3.heap.size)::iv2) r hS he fun x hx=>aB _ hx;replace hG:=hG.bz (iv':=(wa3.heap.size,wb3.heap.size)::iv2) r hS he fun x hx=>aB _ hx;have hP:=hq1.cd (S:=fun _=>False) r.bu (iv:=(wa3.heap.size,wb3.heap.size)::iv2) aH;have hPr:=hr1.old r.bu;generalize (wa3.heap.size,wb3.heap.size)::iv2=iv3 at*
   obtain⟨s3_0a,s3_0b,s3_0c,rfl⟩:=hP.shape;obtain⟨s3_1a,s3_1b,s3_1c,rfl⟩:=hPr.shape;refine bw (cG (Φ:=fun _ w' v w2=>∃q r,v= .tuple #[q,r]∧dQ w2 (Nf w' w2) q ((y).natAbs / Nat.gcd (x).natAbs (y).natAbs)∧dQ w2 (Nw (Cv S w.heap.size iv3) w' w2) r ((y).natAbs % Nat.gcd (x).natAbs (y).natAbs)) (fun O w' r=>o9 (Rel.old r hS) (hBn.rel r hS) (hG.rel r hS) hg0 (by omega)) ?_);rintro O wa4 v4 wb4 r he hb ⟨qvq,rvq,rfl,hq1,hr1⟩;replace hw:=hw.tr hb;replace hP:=hP.bz (iv':=(wa4.heap.size,wb4.heap.size)::iv3) r (bs w) he fun x hx=>aB _ hx;have hQ:=hq1.cd (S:=fun _=>False) r.bu (iv:=(wa4.heap.size,wb4.heap.size)::iv3) aH;have hQr:=hr1.old r.bu;generalize (wa4.heap.size,wb4.heap.size)::iv3=iv4 at*
   obtain⟨s4_0a,s4_0b,s4_0c,rfl⟩:=hQ.shape;obtain⟨s4_1a,s4_1b,s4_1c,rfl⟩:=hQr.shape;intro ρe we re;exact⟨_,rfl,hw.tr re.cI,by rw[hq];exact dC.of ⟨_,by rw[g3,<-hbA],by rw[g1];exact hP.out re (bs w)⟩ ⟨_,by rw[bF (by omega)],by rw[g2];exact hQ.out re (bs w)⟩⟩
 ·have hyp:0< -y:=by have:=aG hb2.symm;omega
  have hq:Rat.divInt x y=Rat.divInt (-x) (-y):=(Rat.neg_divInt_neg _ _).symm;have nx:=bq x;have ny:=bq y;have hlx2:ln (-x).natAbs<=100000000000:=by rw[nx];exact hlx
  have hly2:ln (-y).natAbs<=100000000000:=by rw[ny];exact hly
  refine cF hτ dc [.x 0,.x 2,.x 1,.x 3,.x 4,.x 5] (by kernel_rfl) (by kernel_rfl) ?_;refine cG (Φ:=fun _ w' v w2=>dq w2 (Nw (Cv S w.heap.size []) w' w2) v (-x)) (fun O w' r=>nC (Rel.old r hS) (hx.rel r hS)) ?_;rintro O wa1 v1 wb1 r he hb hn;replace hw:=hw.tr hb;replace hy:=hy.bz (iv':=(wa1.heap.size,wb1.heap.size)::[]) r hS he fun x hx=>aB _ hx;have hA:=hn.old r.bu;generalize (wa1.heap.size,wb1.heap.size)::[]=iv1 at*
  obtain⟨s1_0,s1_1,s1_2,s1_3,rfl⟩:=hA.shape;refine cG (Φ:=fun _ w' v w2=>dq w2 (Nw (Cv S w.heap.size iv1) w' w2) v (-y)) (fun O w' r=>nC (Rel.old r hS) (hy.rel r hS)) ?_;rintro O wa2 v2 wb2 r he hb hn;replace hw:=hw.tr hb;replace hA:=hA.bz (iv':=(wa2.heap.size,wb2.heap.size)::iv1) r hS he fun x hx=>aB _ hx;have hB:=hn.old r.bu;generalize (wa2.heap.size,wb2.heap.size)::iv1=iv2 at*
  obtain⟨s2_0,s2_1,s2_2,s2_3,rfl⟩:=hB.shape;have hbA:=hA.nat.1;refine bw (cE hw (fun _ w' v w2=>v= .int .i64 (-x).sign) (fun O w' r=>yP (hA.rel r hS)) ?_);rintro O wa3 v3 wb3 iv3 r he hw h_ rfl;replace hA:=hA.bz r hS he (mC h_);replace hB:=hB.bz r hS he (mC h_);refine dF.mk (fun h=>?_) (fun h=>?_)
  ·have h: -x=0:=Int.sign_eq_zero_iff_zero.1 (eq_of_beq h);refine bw (cE hw (fun _ w' v w2=>dq w2 (Nf w' w2) v 1) (fun O w' r=>nE 1 w' (by decide) (by decide)) ?_);rintro O wa4 v4 wb4 iv4 r he hw h_ hn;have hO:=hn.cd (S:=fun _=>False) r.bu (mN h_);obtain⟨s4_0,s4_1,s4_2,s4_3,rfl⟩:=hO.shape;have e0:Rat.divInt x y=0:=by rw[hq,h,xI]
   intro ρe we re;exact⟨_,rfl,hw.tr re.cI,by rw[e0];exact dC.of ⟨_,rfl,dQ.nil _ _⟩ (hO.out re (bs w))⟩
  ·have h: -x≠0:=fun e=>by rw[e]at h;exact absurd h (by decide)
   obtain⟨g1,g2,g3⟩:=xH hyp h;have hg0:0<Nat.gcd (-x).natAbs (-y).natAbs:=bf _ (by omega);have hAn:=hA.nat.2;have hBn:=hB.nat.2;refine bw (cG (Φ:=fun _ w' v w2=>dQ w2 (Nw (Cv S w.heap.size iv3) w' w2) v (Nat.gcd (-x).natAbs (-y).natAbs)) (fun O w' r=>C7 (Rel.old r hS) (hAn.rel r hS) (hBn.rel r hS) (by omega) (by omega)) ?_);rintro O wa4 v4 wb4 r he hb hn;replace hw:=hw.tr hb;replace hAn:=hAn.bz (iv':=(wa4.heap.size,wb4.heap.size)::iv3) r hS he fun x hx=>aB _ hx;replace hBn:=hBn.bz (iv':=(wa4.heap.size,wb4.heap.size)::iv3) r hS he fun x hx=>aB _ hx;have hG:=hn.old r.bu;generalize (wa4.heap.size,wb4.heap.size)::iv3=iv4 at*
   obtain⟨s4_0,s4_1,s4_2,rfl⟩:=hG.shape;refine bw (cG (Φ:=fun _ w' v w2=>∃q r,v= .tuple #[q,r]∧dQ w2 (Nf w' w2) q ((-x).natAbs / Nat.gcd (-x).natAbs (-y).natAbs)∧dQ w2 (Nw (Cv S w.heap.size iv4) w' w2) r ((-x).natAbs % Nat.gcd (-x).natAbs (-y).natAbs)) (fun O w' r=>o9 (Rel.old r hS) (hAn.rel r hS) (hG.rel r hS) hg0 (by omega)) ?_);rintro O wa5 v5 wb5 r he hb ⟨qvp,rvp,rfl,hq1,hr1⟩;replace hw:=hw.tr hb;replace hBn:=hBn.bz (iv':=(wa5.heap.size,wb5.heap.size)::iv4) r hS he fun x hx=>aB _ hx;replace hG:=hG.bz (iv':=(wa5.heap.size,wb5.heap.size)::iv4) r hS he fun x hx=>aB _ hx;have hP:=hq1.cd (S:=fun _=>False) r.bu (iv:=(wa5.heap.size,wb5.heap.size)::iv4) aH;have hPr:=hr1.old r.bu;generalize (wa5.heap.size,wb5.heap.size)::iv4=iv5 at*
   obtain⟨s5_0a,s5_0b,s5_0c,rfl⟩:=hP.shape;obtain⟨s5_1a,s5_1b,s5_1c,rfl⟩:=hPr.shape;refine bw (cG (Φ:=fun _ w' v w2=>∃q r,v= .tuple #[q,r]∧dQ w2 (Nf w' w2) q ((-y).natAbs / Nat.gcd (-x).natAbs (-y).natAbs)∧dQ w2 (Nw (Cv S w.heap.size iv5) w' w2) r ((-y).natAbs % Nat.gcd (-x).natAbs (-y).natAbs)) (fun O w' r=>o9 (Rel.old r hS) (hBn.rel r hS) (hG.rel r hS) hg0 (by omega)) ?_);rintro O wa6 v6 wb6 r he hb ⟨qvq,rvq,rfl,hq1,hr1⟩;replace hw:=hw.tr hb;replace hP:=hP.bz (iv':=(wa6.heap.size,wb6.heap.size)::iv5) r (bs w) he fun x hx=>aB _ hx;have hQ:=hq1.cd (S:=fun _=>False) r.bu (iv:=(wa6.heap.size,wb6.heap.size)::iv5) aH;have hQr:=hr1.old r.bu;generalize (wa6.heap.size,wb6.heap.size)::iv5=iv6 at*
   obtain⟨s6_0a,s6_0b,s6_0c,rfl⟩:=hQ.shape;obtain⟨s6_1a,s6_1b,s6_1c,rfl⟩:=hQr.shape;intro ρe we re;exact⟨_,rfl,hw.tr re.cI,by rw[hq];exact dC.of ⟨_,by rw[g3,<-hbA],by rw[g1];exact hP.out re (bs w)⟩ ⟨_,by rw[bF (by omega)],by rw[g2];exact hQ.out re (bs w)⟩⟩
end Go.Ex
namespace Go.Ex
open Go Go.Sx
variable{a b:Int}
def rl(q:Rat):Nat:=max (ln q.num.natAbs) (ln q.den)
theorem fP(q:Rat):ln q.num.natAbs<=rl q:=Nat.le_max_left _ _
theorem J2(q:Rat):ln q.den<=rl q:=Nat.le_max_right _ _
theorem e7(q:Rat):ln ((q.den:Int)).natAbs<=rl q:=Nat.le_max_right _ _
theorem jO(hb:b≠0):rl (Rat.divInt a b)<=max (ln a.natAbs) (ln b.natAbs):=by
 have h1:ln (Rat.divInt a b).num.natAbs<=ln a.natAbs:=by
  rw[Rat.num_divInt];refine eY (ai (Int.natAbs_ediv_le_natAbs _ _) ?_);rw[Int.natAbs_mul,Int.natAbs_sign_of_ne_zero hb,Nat.one_mul];exact aE _
 have h2:ln (Rat.divInt a b).den<=ln b.natAbs:=by
  rw[Rat.den_divInt,aI hb];exact FX
 unfold rl;omega
theorem gq(x y:Int):ln (x+y).natAbs<=max (ln x.natAbs) (ln y.natAbs)+1:=by
 have h1:=JU x.natAbs y.natAbs;have h2:=eY (show (x+y).natAbs<=x.natAbs+y.natAbs by omega);omega
theorem fW(q:Rat):(q.den:Int)≠0:=by have:=q.den_pos;omega
theorem rV(f g:Rat):f+g=Rat.divInt (f.num*g.den+g.num*f.den) (f.den*g.den):=by
 rw[<-Rat.divInt_add_divInt _ _ (fW f) (fW g),Rat.num_divInt_den,Rat.num_divInt_den]
theorem vh(f g:Rat):f*g=Rat.divInt (f.num*g.num) (f.den*g.den):=by
 rw[<-Rat.divInt_mul_divInt,Rat.num_divInt_den,Rat.num_divInt_den]
theorem Ea(f g:Rat):f / g=Rat.divInt (f.num*g.den) (f.den*g.num):=by
 rw[<-Rat.divInt_mul_divInt,Rat.num_divInt_den,<-Rat.inv_def,<-bW]
theorem jd(ha:a≠0)(hb:b≠0):a*b≠0:=Int.mul_ne_zero ha hb
theorem ml(f g:Rat):rl (f+g)<=rl f+rl g+1:=by
 have h:=jO (a:=f.num*g.den+g.num*f.den) (jd (fW f) (fW g));rw[<-rV]at h;have h1:=gq (f.num*g.den) (g.num*f.den);have h2:=cT f.num g.den;have h3:=cT g.num f.den;have h4:=cT f.den g.den;have:=fP f;have:=fP g;have:=e7 f;have:=e7 g;omega
theorem iW(f g:Rat):rl (f*g)<=rl f+rl g:=by
 have h:=jO (a:=f.num*g.num) (jd (fW f) (fW g));rw[<-vh]at h;have h2:=cT f.num g.num;have h4:=cT f.den g.den;have:=fP f;have:=fP g;have:=e7 f;have:=e7 g;omega
theorem J8(f:Rat){g:Rat}(hg:g≠0):rl (f / g)<=rl f+rl g:=by
 have h:=jO (a:=f.num*g.den) (jd (fW f) (fun e=>hg (Rat.num_eq_zero.1 e)));rw[<-Ea]at h;have h2:=cT f.num g.den;have h4:=cT f.den g.num;have:=fP f;have:=fP g;have:=e7 f;have:=e7 g;omega
theorem qU(f:Rat):rl (-f)=rl f:=by unfold rl;rw[Rat.neg_num,Rat.neg_den,bq]
theorem xX(f g:Rat):rl (f-g)<=rl f+rl g+1:=by
 rw[Rat.sub_eq_add_neg];have:=ml f (-g);rw[qU]at this;exact this
def rs(q:Rat):Int:=q.num.sign
theorem rW(hb:0<b):(Rat.divInt a b).num.sign=a.sign:=by
 by_cases ha:a=0
 ·subst ha;rw[xI];rfl
 ·obtain⟨h1,-,h3⟩:=xH hb ha;have h3:=decide_eq_decide.1 h3;have h0:(Rat.divInt a b).num≠0:=fun e=>by
   have h4:=Nat.div_pos (Nat.le_of_dvd (by omega) (Nat.gcd_dvd_left a.natAbs b.natAbs)) (bf a.natAbs (n:=b.natAbs) (by omega));omega
  rcases Int.lt_or_gt_of_ne ha with h|h
  ·rw[bY h,bY (h3.2 h)]
  ·rw[bc h,bc (by omega)]
theorem IT(f g:Rat):(f.num*g.den-g.num*f.den).sign=rs (f-g):=by
 rw[rs,Rat.sub_eq_add_neg,rV,rW (Int.mul_pos (by have:=f.den_pos;omega) (by rw[Rat.neg_den];have:=g.den_pos;omega)),Rat.neg_num,Rat.neg_den,Int.neg_mul,<-Int.sub_eq_add_neg]
def ratio(a b:Int):Rat:=if b=0 then Rat.divInt a 1 else Rat.divInt a b
theorem gQ(a b:Int):rl (ratio a b)<=max (ln a.natAbs) (max 1 (ln b.natAbs)):=by
 unfold ratio;split
 ·have:=jO (a:=a) (b:=1) (by decide);have h1:ln (1:Int).natAbs=1:=by decide
  rw[h1]at this;omega
 ·rename_i h;have:=jO (a:=a) h;omega
end Go.Ex
namespace Go.Ex
open Go Go.Sx Go.Proofs
variable{b b2:Bool}{x y:Int}{S S':Nat->Prop}{f g q:Rat}{dv nv u v:Value}{w:World}
def gW(w:World)(S:Nat->Prop)(v:Value)(a b:Int):Prop:=∃b1 l1 b2 l2,v= .agg #[.bool b1,l1,.bool b2,l2]∧ix w S (.agg #[.bool b1,l1]) a∧ix w S (.agg #[.bool b2,l2]) b
theorem gW.cB{w2:World}{a b:Int}(h:gW w S v a b)(hk:∀g,S g->w2.heap[g]? =w.heap[g]?):gW w2 S v a b:=by
 obtain⟨b1,l1,b2,l2,h1,h2,h3⟩:=h;exact⟨b1,l1,b2,l2,h1,h2.cB hk,h3.cB hk⟩
theorem gW.cC{a b:Int}(h:gW w S v a b)(hk:∀g,S g->S' g):gW w S' v a b:=by
 obtain⟨b1,l1,b2,l2,h1,h2,h3⟩:=h;exact⟨b1,l1,b2,l2,h1,h2.cC hk,h3.cC hk⟩
theorem gW.shape(h:gW w S v x y):∃b a n c b2 a2 n2 c2,v= .agg #[.bool b,.slice a n c,.bool b2,.slice a2 n2 c2]:=by
 obtain⟨b1,l1,b2,l2,h1,h2,h3⟩:=h;obtain⟨_,a,n,c,h4⟩:=h2.shape;obtain⟨_,a2,n2,c2,h5⟩:=h3.shape;simp at h4 h5;obtain⟨rfl,rfl⟩:=h4;obtain⟨rfl,rfl⟩:=h5;exact⟨_,a,n,c,_,a2,n2,c2,h1⟩
theorem gW.num(h:gW w S (.agg #[.bool b,nv,.bool b2,dv]) x y):ix w S (.agg #[.bool b,nv]) x:=by
 obtain⟨b1,l1,b2,l2,h1,h2,h3⟩:=h;simp at h1;obtain⟨rfl,rfl,rfl,rfl⟩:=h1;exact h2
theorem gW.den(h:gW w S (.agg #[.bool b,nv,.bool b2,dv]) x y):ix w S (.agg #[.bool b2,dv]) y:=by
 obtain⟨b1,l1,b2,l2,h1,h2,h3⟩:=h;simp at h1;obtain⟨rfl,rfl,rfl,rfl⟩:=h1;exact h3
section
variable{S S':Nat->Prop}{H:Hp}{nx:Nat}{iv iv':Iv}{B:Nat}{w w' w2:World}{O:Nat->Sx.dS}{v:Value}{x y:Int}
theorem gW.rel(h:gW w (Cv S B iv) v x y)(r:Rel H nx iv B w O w')(hS:∀g,S g->g<B):gW w' (Cv S B iv) v x y:=h.cB fun _ hg=>Rel.same r hS hg
theorem gW.bz(h:gW w (Cv S B iv) v x y)(r:Rel H nx iv B w O w')(hS:∀g,S g->g<B)(he:Ext w' w2)(hm:∀p,p∈iv->p∈iv'):gW w2 (Cv S B iv') v x y:=
 ((h.rel r hS).cB fun g hg=>he.block g (Rel.old r hS g hg)).cC fun _ hg=>hg.mono hm
end
def cM(w:World)(S:Nat->Prop)(v:Value)(q:Rat):Prop:=∃b1 l1 b2 l2,v= .agg #[.bool b1,l1,.bool b2,l2]∧cZ w S (.agg #[.bool b1,l1]) q.num∧cZ w S (.agg #[.bool b2,l2]) q.den
theorem cM.cB{w2:World}(h:cM w S v q)(hk:∀g,S g->w2.heap[g]? =w.heap[g]?):cM w2 S v q:=by
 obtain⟨b1,l1,b2,l2,h1,h2,h3⟩:=h;exact⟨b1,l1,b2,l2,h1,h2.cB hk,h3.cB hk⟩
theorem cM.cC(h:cM w S v q)(hk:∀g,S g->S' g):cM w S' v q:=by
 obtain⟨b1,l1,b2,l2,h1,h2,h3⟩:=h;exact⟨b1,l1,b2,l2,h1,h2.cC hk,h3.cC hk⟩
theorem cM.r(h:cM w S v q):gW w S v q.num q.den:=by
 obtain⟨b1,l1,b2,l2,h1,h2,h3⟩:=h;exact⟨b1,l1,b2,l2,h1,h2.r,h3.r⟩
theorem cM.shape(h:cM w S v q):∃b a n c b2 a2 n2 c2,v= .agg #[.bool b,.slice a n c,.bool b2,.slice a2 n2 c2]:=h.r.shape
theorem cM.num(h:cM w S (.agg #[.bool b,nv,.bool b2,dv]) q):cZ w S (.agg #[.bool b,nv]) q.num:=by
 obtain⟨b1,l1,b2,l2,h1,h2,h3⟩:=h;simp at h1;obtain⟨rfl,rfl,rfl,rfl⟩:=h1;exact h2
theorem cM.den(h:cM w S (.agg #[.bool b,nv,.bool b2,dv]) q):cZ w S (.agg #[.bool b2,dv]) q.den:=by
 obtain⟨b1,l1,b2,l2,h1,h2,h3⟩:=h;simp at h1;obtain⟨rfl,rfl,rfl,rfl⟩:=h1;exact h3
theorem cM.of(h:cZ w S (.agg #[.bool b,nv]) q.num)(k:cZ w S (.agg #[.bool b2,dv]) q.den):cM w S (.agg #[.bool b,nv,.bool b2,dv]) q:=⟨_,_,_,_,rfl,h,k⟩
section
variable{S S':Nat->Prop}{H:Hp}{nx:Nat}{iv iv':Iv}{B:Nat}{w w' w2:World}{O:Nat->Sx.dS}{v:Value}{q:Rat}
theorem cM.rel(h:cM w (Cv S B iv) v q)(r:Rel H nx iv B w O w')(hS:∀g,S g->g<B):cM w' (Cv S B iv) v q:=h.cB fun _ hg=>Rel.same r hS hg
theorem cM.bz(h:cM w (Cv S B iv) v q)(r:Rel H nx iv B w O w')(hS:∀g,S g->g<B)(he:Ext w' w2)(hm:∀p,p∈iv->p∈iv'):cM w2 (Cv S B iv') v q:=
 ((h.rel r hS).cB fun g hg=>he.block g (Rel.old r hS g hg)).cC fun _ hg=>hg.mono hm
theorem cM.cd(h:cM w2 (Nf w' w2) v q)(hB:B<=w'.heap.size)(hm:(w'.heap.size,w2.heap.size)∈iv):cM w2 (Cv S B iv) v q:=h.cC fun _ hg=>hg.cd hB hm
theorem cM.out{w0 w1:World}(h:cM w1 (Cv S w0.heap.size iv) v q)(r:Rel H nx iv w0.heap.size w1 O w')(hS:Old S w0):cM w' (Nw S w0 w') v q:=
 (h.rel r hS).cC fun _ hg=>Cv.nw hg r
end
theorem Ih(hS:Old S w)(hf:dC w S v f):
  di PG N.jh #[v] w (dw w fun v' _w2=>v'= .int .i64 (rs f)):=by
 have hw:cR w.heap.size w w:=cR.refl;replace hf:=hf.cC (S':=Cv S w.heap.size []) fun _ h=>.inl h;obtain⟨b1,a1,n1,c1,b2,a2,n2,c2,rfl⟩:=hf.shape;have hfn:=hf.num;have hfd:=hf.den;refine mu (by simp) ?_;refine bw (cE hw (fun _ w' v w2=>v= .int .i64 (rs f)) (fun O w' r=>yP (hfn.rel r hS)) ?_);rintro O wa1 v1 wb1 iv1 r he hw h_ rfl;intro ρe we re;exact⟨_,rfl,hw.tr re.cI,rfl⟩
theorem Ha(hS:Old S w)(hf:dC w S v f):
  di PG N.j4 #[v] w (dw w fun v' w2=>dC w2 (Nw S w w2) v' (-f)):=by
 have hw:cR w.heap.size w w:=cR.refl;replace hf:=hf.cC (S':=Cv S w.heap.size []) fun _ h=>.inl h;obtain⟨b1,a1,n1,c1,b2,a2,n2,c2,rfl⟩:=hf.shape;have hfn:=hf.num;have hfd:=hf.den;refine mG (by simp) ?_;refine cF hτ dc [.x 0,.x 1,.x 3,.x 4,.x 2,.x 5,.x 6] (by kernel_rfl) (by kernel_rfl) ?_;refine cG (Φ:=fun _ w' v w2=>dq w2 (Nw (Cv S w.heap.size []) w' w2) v (-f.num)) (fun O w' r=>nC (Rel.old r hS) (hfn.rel r hS)) ?_;rintro O wa1 v1 wb1 r he hb hn;replace hw:=hw.tr hb;replace hfd:=hfd.bz (iv':=(wa1.heap.size,wb1.heap.size)::[]) r hS he fun x hx=>aB _ hx;have hM:=hn.old r.bu;generalize (wa1.heap.size,wb1.heap.size)::[]=iv1 at*
 obtain⟨s1_0,s1_1,s1_2,s1_3,rfl⟩:=hM.shape;intro ρe we re;exact⟨_,rfl,hw.tr re.cI,dC.of (by rw[Rat.neg_num];exact hM.out re hS) (by rw[Rat.neg_den];exact hfd.out re hS)⟩
theorem Hb(hS:Old S w)(hf:dC w S v f)(hg:dC w S u g)(hlf:rl f<=10000000000)(hlg:rl g<=10000000000):
  di PG N.j3 #[v,u] w (dw w fun v' w2=>dC w2 (Nf w w2) v' (f*g)):=by
 have hw:cR w.heap.size w w:=cR.refl;have l1:=fP f;have l2:=e7 f;have l3:=fP g;have l4:=e7 g;have m0:=cT f.num g.num;have m1:=cT f.den g.den;replace hf:=hf.cC (S':=Cv S w.heap.size []) fun _ h=>.inl h;replace hg:=hg.cC (S':=Cv S w.heap.size []) fun _ h=>.inl h;obtain⟨b1,a1,n1,c1,b2,a2,n2,c2,rfl⟩:=hf.shape;obtain⟨b3,a3,n3,c3,b4,a4,n4,c4,rfl⟩:=hg.shape;have hfn:=hf.num;have hfd:=hf.den;have hgn:=hg.num;have hgd:=hg.den;refine mF (by simp) ?_;refine cF hτ dc [.x 0,.x 1,.x 2,.x 3,.x 5,.x 6,.x 7,.x 8,.x 4,.x 9,.x 10,.x 11] (by kernel_rfl) (by kernel_rfl) ?_;refine cE hw (fun _ w' v w2=>dq w2 (Nf w' w2) v (f.num*g.num)) (fun O w' r=>gO (Rel.old r hS) (hfn.rel r hS) (hgn.rel r hS) (by omega) (by omega)) ?_;rintro O wa1 v1 wb1 iv1 r he hw h_ hn;replace hfd:=hfd.bz r hS he (mC h_);replace hgd:=hgd.bz r hS he (mC h_);have hA:=hn.cd (S:=fun _=>False) r.bu (mN h_);obtain⟨s1_0,s1_1,s1_2,s1_3,rfl⟩:=hA.shape;refine cE hw (fun _ w' v w2=>dq w2 (Nf w' w2) v ((f.den:Int)*(g.den:Int))) (fun O w' r=>gO (Rel.old r hS) (hfd.rel r hS) (hgd.rel r hS) (by omega) (by omega)) ?_;rintro O wa2 v2 wb2 iv2 r he hw h_ hn;replace hA:=hA.bz r (bs w) he (mC h_);have hB:=hn.cd (S:=fun _=>False) r.bu (mN h_);obtain⟨s2_0,s2_1,s2_2,s2_3,rfl⟩:=hB.shape;refine cE hw (fun _ w' v w2=>dC w2 (Nf w' w2) v (f*g)) (fun O w' r=>(vh f g)▸tw (Rel.old r (bs w)) (hA.rel r (bs w)) (hB.rel r (bs w)) (jd (fW f) (fW g)) (by omega) (by omega)) ?_;rintro O wa3 v3 wb3 iv3 r he hw h_ hn;have hC:=hn.cd (S:=fun _=>False) r.bu (mN h_);obtain⟨s3_0,s3_1,s3_2,s3_3,s3_4,s3_5,s3_6,s3_7,rfl⟩:=hC.shape;intro ρe we re;exact⟨_,rfl,hw.tr re.cI,hC.out re (bs w)⟩
theorem KY(hS:Old S w)(hf:dC w S v f)(hg:dC w S u g)(hlf:rl f<=10000000000)(hlg:rl g<=10000000000)(hg0:g≠0):
  di PG N.lE #[v,u] w (dw w fun v' w2=>dC w2 (Nf w w2) v' (f / g)):=by
 have hw:cR w.heap.size w w:=cR.refl;have l1:=fP f;have l2:=e7 f;have l3:=fP g;have l4:=e7 g;have m0:=cT f.num g.den;have m1:=cT f.den g.num;replace hf:=hf.cC (S':=Cv S w.heap.size []) fun _ h=>.inl h;replace hg:=hg.cC (S':=Cv S w.heap.size []) fun _ h=>.inl h;obtain⟨b1,a1,n1,c1,b2,a2,n2,c2,rfl⟩:=hf.shape;obtain⟨b3,a3,n3,c3,b4,a4,n4,c4,rfl⟩:=hg.shape;have hfn:=hf.num;have hfd:=hf.den;have hgn:=hg.num;have hgd:=hg.den;refine oX (by simp) ?_;refine cF hτ dc [.x 0,.x 1,.x 2,.x 3,.x 5,.x 6,.x 7,.x 8,.x 4,.x 9,.x 10,.x 11] (by kernel_rfl) (by kernel_rfl) ?_;refine cE hw (fun _ w' v w2=>dq w2 (Nf w' w2) v (f.num*(g.den:Int))) (fun O w' r=>gO (Rel.old r hS) (hfn.rel r hS) (hgd.rel r hS) (by omega) (by omega)) ?_;rintro O wa1 v1 wb1 iv1 r he hw h_ hn;replace hfd:=hfd.bz r hS he (mC h_);replace hgn:=hgn.bz r hS he (mC h_);have hA:=hn.cd (S:=fun _=>False) r.bu (mN h_);obtain⟨s1_0,s1_1,s1_2,s1_3,rfl⟩:=hA.shape;refine cE hw (fun _ w' v w2=>dq w2 (Nf w' w2) v ((f.den:Int)*g.num)) (fun O w' r=>gO (Rel.old r hS) (hfd.rel r hS) (hgn.rel r hS) (by omega) (by omega)) ?_;rintro O wa2 v2 wb2 iv2 r he hw h_ hn;replace hA:=hA.bz r (bs w) he (mC h_);have hB:=hn.cd (S:=fun _=>False) r.bu (mN h_);obtain⟨s2_0,s2_1,s2_2,s2_3,rfl⟩:=hB.shape;refine cE hw (fun _ w' v w2=>dC w2 (Nf w' w2) v (f / g)) (fun O w' r=>(Ea f g)▸tw (Rel.old r (bs w)) (hA.rel r (bs w)) (hB.rel r (bs w)) (jd (fW f) (fun e=>hg0 (Rat.num_eq_zero.1 e))) (by omega) (by omega)) ?_;rintro O wa3 v3 wb3 iv3 r he hw h_ hn;have hC:=hn.cd (S:=fun _=>False) r.bu (mN h_);obtain⟨s3_0,s3_1,s3_2,s3_3,s3_4,s3_5,s3_6,s3_7,rfl⟩:=hC.shape;intro ρe we re;exact⟨_,rfl,hw.tr re.cI,hC.out re (bs w)⟩
theorem Es(hS:Old S w)(hf:dC w S v f)(hg:dC w S u g)(hlf:rl f<=10000000000)(hlg:rl g<=10000000000):
  di PG N.jf #[v,u] w (dw w fun v' w2=>dC w2 (Nf w w2) v' (f+g)):=by
 have hw:cR w.heap.size w w:=cR.refl;have l1:=fP f;have l2:=e7 f;have l3:=fP g;have l4:=e7 g;have m0:=cT f.num g.den;have m1:=cT g.num f.den;have m2:=cT f.den g.den;have m4:=gq (f.num*g.den) (g.num*f.den);replace hf:=hf.cC (S':=Cv S w.heap.size []) fun _ h=>.inl h;replace hg:=hg.cC (S':=Cv S w.heap.size []) fun _ h=>.inl h;obtain⟨b1,a1,n1,c1,b2,a2,n2,c2,rfl⟩:=hf.shape;obtain⟨b3,a3,n3,c3,b4,a4,n4,c4,rfl⟩:=hg.shape;have hfn:=hf.num;have hfd:=hf.den;have hgn:=hg.num;have hgd:=hg.den;refine mq (by simp) ?_;refine cF hτ dc [.x 0,.x 1,.x 2,.x 3,.x 5,.x 6,.x 7,.x 8,.x 11,.x 12,.x 13,.x 14,.x 4,.x 9,.x 10,.x 15,.x 16,.x 17] (by kernel_rfl) (by kernel_rfl) ?_;refine cE hw (fun _ w' v w2=>dq w2 (Nf w' w2) v (f.num*(g.den:Int))) (fun O w' r=>gO (Rel.old r hS) (hfn.rel r hS) (hgd.rel r hS) (by omega) (by omega)) ?_;rintro O wa1 v1 wb1 iv1 r he hw h_ hn;replace hfd:=hfd.bz r hS he (mC h_);replace hgn:=hgn.bz r hS he (mC h_);replace hgd:=hgd.bz r hS he (mC h_);have hA:=hn.cd (S:=fun _=>False) r.bu (mN h_);obtain⟨s1_0,s1_1,s1_2,s1_3,rfl⟩:=hA.shape;refine cE hw (fun _ w' v w2=>dq w2 (Nf w' w2) v (g.num*(f.den:Int))) (fun O w' r=>gO (Rel.old r hS) (hgn.rel r hS) (hfd.rel r hS) (by omega) (by omega)) ?_;rintro O wa2 v2 wb2 iv2 r he hw h_ hn;replace hfd:=hfd.bz r hS he (mC h_);replace hgd:=hgd.bz r hS he (mC h_);replace hA:=hA.bz r (bs w) he (mC h_);have hB:=hn.cd (S:=fun _=>False) r.bu (mN h_);obtain⟨s2_0,s2_1,s2_2,s2_3,rfl⟩:=hB.shape;refine cE hw (fun _ w' v w2=>dq w2 (Nf w' w2) v (f.num*(g.den:Int)+g.num*(f.den:Int))) (fun O w' r=>AD (Rel.old r (bs w)) (hA.rel r (bs w)) (hB.rel r (bs w)) (by omega) (by omega)) ?_;rintro O wa3 v3 wb3 iv3 r he hw h_ hn;replace hfd:=hfd.bz r hS he (mC h_);replace hgd:=hgd.bz r hS he (mC h_);have hD:=hn.cd (S:=fun _=>False) r.bu (mN h_);obtain⟨s3_0,s3_1,s3_2,s3_3,rfl⟩:=hD.shape;refine cE hw (fun _ w' v w2=>dq w2 (Nf w' w2) v ((f.den:Int)*(g.den:Int))) (fun O w' r=>gO (Rel.old r hS) (hfd.rel r hS) (hgd.rel r hS) (by omega) (by omega)) ?_;rintro O wa4 v4 wb4 iv4 r he hw h_ hn;replace hD:=hD.bz r (bs w) he (mC h_);have hE:=hn.cd (S:=fun _=>False) r.bu (mN h_);obtain⟨s4_0,s4_1,s4_2,s4_3,rfl⟩:=hE.shape;refine cE hw (fun _ w' v w2=>dC w2 (Nf w' w2) v (f+g)) (fun O w' r=>(rV f g)▸tw (Rel.old r (bs w)) (hD.rel r (bs w)) (hE.rel r (bs w)) (jd (fW f) (fW g)) (by omega) (by omega)) ?_;rintro O wa5 v5 wb5 iv5 r he hw h_ hn;have hC:=hn.cd (S:=fun _=>False) r.bu (mN h_);obtain⟨s5_0,s5_1,s5_2,s5_3,s5_4,s5_5,s5_6,s5_7,rfl⟩:=hC.shape;intro ρe we re;exact⟨_,rfl,hw.tr re.cI,hC.out re (bs w)⟩
theorem pJ(hS:Old S w)(hf:dC w S v f)(hlf:rl f<=100000000000):
  di PG N.jg #[v] w (dw w fun v' w2=>cM w2 (Nf w w2) v' f):=by
 have hw:cR w.heap.size w w:=cR.refl;have l1:=fP f;have l2:=e7 f;replace hf:=hf.cC (S':=Cv S w.heap.size []) fun _ h=>.inl h;obtain⟨b1,a1,n1,c1,b2,a2,n2,c2,rfl⟩:=hf.shape;have hfn:=hf.num;have hfd:=hf.den;refine mr (by simp) ?_;refine cF hτ dc [.x 0,.x 1,.x 3,.x 4,.x 2,.x 5,.x 6,.x 7] (by kernel_rfl) (by kernel_rfl) ?_;refine cE hw (fun _ w' v w2=>cZ w2 (Nf w' w2) v f.num) (fun O w' r=>HY (Rel.old r hS) (hfn.rel r hS) (by omega)) ?_;rintro O wa1 v1 wb1 iv1 r he hw h_ hn;replace hfd:=hfd.bz r hS he (mC h_);have hA:=hn.cd (S:=fun _=>False) r.bu (mN h_);obtain⟨s1_0,s1_1,s1_2,s1_3,rfl⟩:=hA.shape;refine cE hw (fun _ w' v w2=>cZ w2 (Nf w' w2) v (f.den:Int)) (fun O w' r=>HY (Rel.old r hS) (hfd.rel r hS) (by omega)) ?_;rintro O wa2 v2 wb2 iv2 r he hw h_ hn;replace hA:=hA.bz r (bs w) he (mC h_);have hB:=hn.cd (S:=fun _=>False) r.bu (mN h_);obtain⟨s2_0,s2_1,s2_2,s2_3,rfl⟩:=hB.shape;intro ρe we re;exact⟨_,rfl,hw.tr re.cI,cM.of (hA.out re (bs w)) (hB.out re (bs w))⟩
theorem Ii(n:Int)(w:World)(h1: -9223372036854775808<=n)(h2:n<=9223372036854775807):
  di PG N.ua #[.int .i64 n] w (dw w fun v' w2=>dC w2 (Nf w w2) v' (n:Rat)):=by
 have hw:cR w.heap.size w w:=cR.refl;refine yE (by simp) ?_;refine bw (cE hw (fun _ w' v w2=>dq w2 (Nf w' w2) v n) (fun O w' r=>nE n w' h1 h2) ?_);rintro O wa1 v1 wb1 iv1 r he hw h_ hn;have hA:=hn.cd (S:=fun _=>False) r.bu (mN h_);obtain⟨s1_0,s1_1,s1_2,s1_3,rfl⟩:=hA.shape;refine bw (cE hw (fun _ w' v w2=>dq w2 (Nf w' w2) v 1) (fun O w' r=>nE 1 w' (by decide) (by decide)) ?_);rintro O wa2 v2 wb2 iv2 r he hw h_ hn;replace hA:=hA.bz r (bs w) he (mC h_);have hB:=hn.cd (S:=fun _=>False) r.bu (mN h_);obtain⟨s2_0,s2_1,s2_2,s2_3,rfl⟩:=hB.shape;intro ρe we re;exact⟨_,rfl,hw.tr re.cI,dC.of (by rw[Rat.num_intCast];exact hA.out re (bs w)) (by rw[Rat.den_intCast];exact hB.out re (bs w))⟩
theorem jZ(hS:Old S w)(hx:gW w S v x y)(hlx:ln x.natAbs<=100000000000)(hly:ln y.natAbs<=100000000000):
  di PG N.u7 #[v] w (dw w fun v' w2=>dC w2 (Nf w w2) v' (ratio x y)):=by
 have hw:cR w.heap.size w w:=cR.refl;replace hx:=hx.cC (S':=Cv S w.heap.size []) fun _ h=>.inl h;obtain⟨b1,a1,n1,c1,b2,a2,n2,c2,rfl⟩:=hx.shape;have hn:=hx.num;have hd:=hx.den;have hxn:=hn;have hxd:=hd;refine yC (by simp) ?_;refine bw (cG (Φ:=fun _ w' v w2=>dq w2 (Nw (Cv S w.heap.size []) w' w2) v y) (fun O w' r=>H3 (Rel.old r hS) (hxd.rel r hS)) ?_);rintro O wa1 v1 wb1 r he hb hn;replace hw:=hw.tr hb;replace hxn:=hxn.bz (iv':=(wa1.heap.size,wb1.heap.size)::[]) r hS he fun x hx=>aB _ hx;have hD:=hn.old r.bu;generalize (wa1.heap.size,wb1.heap.size)::[]=iv1 at*
 obtain⟨s1_0,s1_1,s1_2,s1_3,rfl⟩:=hD.shape;refine bw (cE hw (fun _ w' v w2=>v= .int .i64 y.sign) (fun O w' r=>yP (hD.rel r hS)) ?_);rintro O wa2 v2 wb2 iv2 r he hw h_ rfl;replace hxn:=hxn.bz r hS he (mC h_);replace hD:=hD.bz r hS he (mC h_);refine dF.mk (fun h=>?_) (fun h=>?_)
 ·have h:y=0:=Int.sign_eq_zero_iff_zero.1 (eq_of_beq h);have e0:ratio x y=Rat.divInt x 1:=if_pos h;refine bw (cE hw (fun _ w' v w2=>dq w2 (Nf w' w2) v 1) (fun O w' r=>nE 1 w' (by decide) (by decide)) ?_);rintro O wa3 v3 wb3 iv3 r he hw h_ hn;replace hxn:=hxn.bz r hS he (mC h_);have hO:=hn.cd (S:=fun _=>False) r.bu (mN h_);obtain⟨s3_0,s3_1,s3_2,s3_3,rfl⟩:=hO.shape;have l1:ln (1:Int).natAbs=1:=by decide
  refine cF hτ dc [.x 0,.x 1,.x 3,.x 2,.x 4,.x 5] (by kernel_rfl) (by kernel_rfl) ?_;refine cG (Φ:=fun _ w' v w2=>dq w2 (Nw (Cv S w.heap.size iv3) w' w2) v x) (fun O w' r=>H3 (Rel.old r hS) (hxn.rel r hS)) ?_;rintro O wa4 v4 wb4 r he hb hn;replace hw:=hw.tr hb;replace hO:=hO.bz (iv':=(wa4.heap.size,wb4.heap.size)::iv3) r (bs w) he fun x hx=>aB _ hx;have hN:=hn.old r.bu;generalize (wa4.heap.size,wb4.heap.size)::iv3=iv4 at*
  obtain⟨s4_0,s4_1,s4_2,s4_3,rfl⟩:=hN.shape;refine cE hw (fun _ w' v w2=>dC w2 (Nf w' w2) v (ratio x y)) (fun O w' r=>e0.symm▸tw (Rel.old r hS) (hN.rel r hS) ((hO.rel r (bs w)).cC fun g hg=>hg.elim (fun k=>k.elim) .inr) (by decide) (by omega) (by omega)) ?_;rintro O wa5 v5 wb5 iv5 r he hw h_ hn;have hC:=hn.cd (S:=fun _=>False) r.bu (mN h_);obtain⟨s5_0,s5_1,s5_2,s5_3,s5_4,s5_5,s5_6,s5_7,rfl⟩:=hC.shape;intro ρe we re;exact⟨_,rfl,hw.tr re.cI,hC.out re (bs w)⟩
 ·have h:y≠0:=fun e=>by rw[e]at h;exact absurd h (by decide)
  have e0:ratio x y=Rat.divInt x y:=aI h;refine cF hτ dc [.x 0,.x 1,.x 3,.x 2,.x 4,.x 5] (by kernel_rfl) (by kernel_rfl) ?_;refine cG (Φ:=fun _ w' v w2=>dq w2 (Nw (Cv S w.heap.size iv2) w' w2) v x) (fun O w' r=>H3 (Rel.old r hS) (hxn.rel r hS)) ?_;rintro O wa3 v3 wb3 r he hb hn;replace hw:=hw.tr hb;replace hD:=hD.bz (iv':=(wa3.heap.size,wb3.heap.size)::iv2) r hS he fun x hx=>aB _ hx;have hN:=hn.old r.bu;generalize (wa3.heap.size,wb3.heap.size)::iv2=iv3 at*
  obtain⟨s3_0,s3_1,s3_2,s3_3,rfl⟩:=hN.shape;refine cE hw (fun _ w' v w2=>dC w2 (Nf w' w2) v (ratio x y)) (fun O w' r=>e0.symm▸tw (Rel.old r hS) (hN.rel r hS) (hD.rel r hS) h (by omega) (by omega)) ?_;rintro O wa4 v4 wb4 iv4 r he hw h_ hn;have hC:=hn.cd (S:=fun _=>False) r.bu (mN h_);obtain⟨s4_0,s4_1,s4_2,s4_3,s4_4,s4_5,s4_6,s4_7,rfl⟩:=hC.shape;intro ρe we re;exact⟨_,rfl,hw.tr re.cI,hC.out re (bs w)⟩
end Go.Ex
