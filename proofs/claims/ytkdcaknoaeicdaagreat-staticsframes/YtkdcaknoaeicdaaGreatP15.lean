/- A part of the proof: texts X180 to X187. Each tells its conditions in its theorems. -/
import Derived.Test.YtkdcaknoaeicdaaGreatP10
import Derived.Test.YtkdcaknoaeicdaaGreatP12
import Derived.Test.YtkdcaknoaeicdaaGreatP13
import Derived.Test.YtkdcaknoaeicdaaGreatP14
namespace Go.Ex
open Go Go.Sx Go.Proofs
end Go.Ex
namespace Go.Sx
open Go Go.Ex Go.Proofs
theorem Rel.G2{H:Hp}{nx:Nat}{iv:Iv}{B:Nat}{w w':World}{ρ:Nat->Sx.dc}(r:Rel H nx iv B w ρ w'){id t m sz:Nat}{cs:List Value}(h:dA H id=some (.vec t sz cs))(hm:cs.length=m*sz)(hm1:m<=maxLen)(hs:0<sz)(h1:∀u∈cs,u.oneCell'=true):
  iS w' (Cv (fun _=>False) B (kG (ρ id) iv)) sz ((At.w id m).den ρ) cs m:=by
 rcases r.fits h with⟨hn,rfl⟩|⟨hn,spare,h2,h3,h4⟩
 ·have hm0:m=0:=by
   rcases bE m with h|h
   ·exact h
   ·have:=Nat.mul_pos h hs;simp at hm;omega
  subst hm0;have hden:(At.w id 0).den ρ= .slice none 0 0:=by simp[At.den,hn]
  rw[hden];exact⟨aN _,by simp,by simp,none,0,rfl,aG _,fun j u h=>by cases h⟩
 ·have hden:(At.w id m).den ρ= .slice (some ⟨(ρ id).g,0,none⟩) m (ρ id).cap:=by simp[At.den,hn]
  rw[hden];have hlow:=r.low id _ h hn;refine⟨hm1,hm,h1,_,_,rfl,?_,fun j u hu=>⟨_,rfl,.inr ⟨hlow.1,_,_,FP hn,aG _,bY _⟩,?_⟩⟩
  ·rw[List.length_append,hm]at h3;exact Nat.le_of_mul_le_mul_right (show m*sz<=(ρ id).cap*sz by omega) hs
  ·rw[dM,cell_of h2,aS,aL (aE.1 hu).1];exact hu
end Go.Sx
namespace Go.Ex
open Go Go.Sx Go.Proofs
theorem H6{f:fK}{i k ka kb:Nat}{b:Int×Int×Rat}{d:Int}{la lb:List Int}(hb:f.bars[i]? =some b)(ea:b.1=ka)(eb:b.2.1=kb)(hab:ka≠kb)(hk:k<3)(hd:(pg f b).getD k 0=d)
  (hla:(eD f (dS f i) i k)[3*ka+k]? =some la) (hlb:((eD f (dS f i) i k).set (3*ka+k) (la.set i d))[3*kb+k]? =some lb):
  ((eD f (dS f i) i k).set (3*ka+k) (la.set i d)).set (3*kb+k) (lb.set i (-d))=eD f (dS f i) i (k+1):=by
 have z1:=mA (r:=3*ka+k) hb ea eb (show k<=3 by omega) (by omega);have z2:=mA (r:=3*kb+k) hb ea eb (show k<=3 by omega) (by omega);have hga:(eD f (dS f i) i k).getD (3*ka+k) []=la:=by rw[List.getD,hla];rfl
 have hgb:((eD f (dS f i) i k).set (3*ka+k) (la.set i d)).getD (3*kb+k) []=lb:=by rw[List.getD,hlb];rfl
 have e1:qo (eD f (dS f i) i k) (3*ka+k) i d=(eD f (dS f i) i k).set (3*ka+k) (la.set i d):=by
  rw[fu,z1,Int.zero_add,putAt,hga]
 rw[eD];rw[AB hb,hd,toNat_add ea,toNat_add eb,e1,qo,hgb];have z3:lb.getD i 0=0:=by
  rw[<-hgb,getD_set_ne (show 3*ka+k≠3*kb+k by omega)];exact z2
 rw[z3,Int.zero_add]
set_option maxHeartbeats 2000000 in
theorem o0{S:Nat->Prop}{w:World}{vn vb vs:Value}{f:fK}(hS:Old S w)(hf:dT w S vn vb vs f)(herr:df f=0):
  dh PG N.rB #[.agg #[vn,vb,vs]] w (dw w fun v' w2=>iK w2 (Nw (fun _=>False) w w2) v' (fN f)∧Ar (fN f) 2000000):=by
 have hw:cN w.heap.size w w:=cN.refl;have hok:=mD herr;obtain⟨an,cn,ab,cb,aq,cq,rfl,rfl,rfl,hmn,hmb,hms⟩:=hf.shape;obtain⟨hn20,hb60,hs60⟩:=And.intro hok.n (And.intro hok.b hok.s);have hcols:f.cols=f.bars.length+f.cO.length:=rfl;obtain⟨m,hm⟩:∃m,3*f.nodes.length=m:=⟨_,rfl⟩
 refine uW (by simp) ?_;conv=>whnf
 refine⟨Nat×List Value×World×Iv,fun z=>⟨[(1,.o (.p 0 0)),(3,.o (.w 1 z.2.1.length)),(4,.o (.v (.int .i64 ((z.1:Nat):Int))))],[(1,.vec T.Lint 1 z.2.1),(0,.box T.Frame [.v (.slice an f.nodes.length cn),.v (.slice ab f.bars.length cb),.v (.slice aq f.cO.length cq)])],2,z.2.2.2,z.2.2.1⟩,fun z=>m-z.1,
  fun z=>z.1<=m∧z.2.1.length=z.1∧cN w.heap.size w z.2.2.1∧gA z.2.2.1 w.heap.size z.2.2.2 z.2.1 f.cols (List.replicate z.1 (List.replicate f.cols 0)),?_,?_⟩
 ·intro ρ w' r3;exact⟨(0,[],w',[]),⟨aN _,rfl,hw.tr r3.cC,gA.nil⟩,Sub.nil 3 T.Lint 1 rfl (by simp[cV,SV.sc,At.sc,cQ]) r3 fun ρ1 r1=>Sub.gen [] r1 ⟨rfl,rfl,trivial⟩ ⟨rfl,rfl,rfl,trivial⟩ (by simp[dG,cW.scopd,At.sc]) (by simp[cV,SV.sc,At.sc,cQ]) (by rfl) (fun lo hi h=>h)⟩
 clear hw;rintro⟨i,rv,w1,iv⟩ ⟨hi,hrl,hw,hE⟩;dsimp only at hi hrl hw hE ⊢;conv=>whnf
 refine⟨(m:Int),by rw[wrap64]<;>omega,?_⟩;conv=>whnf
 refine dE.mk (fun hib=>?_) (fun hib=>?_)
 ·have hib:i<m:=by simpa using hib
  conv=>whnf
  refine bz (cE hw (Φ:=fun _ w' v w2=>v= .int .i64 f.cols) (fun ρ w' r=>k8 (hf.cD fun g hg=>(hw.tr r.cC).block g (hS g hg)) ⟨hb60,hs60⟩) ?_);rintro ρ wa1 v1 wb1 iv1 r he hw h_ rfl;have hE1:=gA.cB hE r he (mC h_);clear r;clear hE;conv=>whnf
  refine⟨f.cols,f.cols,rfl,rfl,aG _,by omega,by omega,?_⟩;conv=>whnf
  refine pV hτ (id3:=3) (id2:=2) (tH:=[(1,.vec T.Lint 1 rv),(0,.box T.Frame [.v (.slice an f.nodes.length cn),.v (.slice ab f.bars.length cb),.v (.slice aq f.cO.length cq)])]) rfl rfl rfl rfl (by simp) ⟨rfl,rfl,trivial⟩ rfl rfl (fun ρ w' r r2 hbx=>?_);have hn:=(r.fits (id:=2) rfl).1;have hrow:w'.ownsRow 0 T.int 1 (.slice (some ⟨(ρ 2).g,0,none⟩) f.cols f.cols) f.cols ((List.replicate f.cols (0:Int)).map fun z=>.int .i64 z):=
   ⟨by simp,.inr ⟨(ρ 2).g,f.cols,(List.replicate f.cols (Value.int .i64 0)).toArray,rfl,aN _,r.arr 2 _ _ rfl,aG _,by unfold maxLen;omega,by simp,by simp⟩⟩
  have hE2:=(hE1.rel r).push (gx:=(ρ 2).g) (l:=List.replicate f.cols 0) (fun g hg e=>Rel.not r (fa _) hg 2 _ rfl hn e.symm) (r.low 2 _ rfl hn).1 (by simp) hrow;rw[<-List.replicate_succ']at hE2;have hgv:kG (ρ 2) iv1=((ρ 2).g,(ρ 2).g+1)::iv1:=by unfold kG;rw[hn]
  have hlo3:=r.low 3 _ rfl (r.fits (id:=3) rfl).1;have hbx:w'.heap[(ρ 3).g]? =some (.cells #[.slice (some ⟨(ρ 2).g,0,none⟩) f.cols f.cols] T.Lint (0,0)):=hbx;have hE3:=hE2.mono (iv':=((ρ 3).g,(ρ 3).g+1)::((ρ 2).g,(ρ 2).g+1)::iv1) fun p hp=>aD _ hp;have hw2:=hw.tr r.cC;have hC3:Cv (fun _=>False) w.heap.size (((ρ 3).g,(ρ 3).g+1)::((ρ 2).g,(ρ 2).g+1)::iv1) (ρ 3).g:=.inr ⟨hlo3.1,_,_,aJ,aG _,bY _⟩;rw[hgv];clear hE1 hw r hrow hn hE2 hgv r2 hlo3;generalize (ρ 2).g=gx at*
  generalize (ρ 3).g=gy at*
  generalize (gy,gy+1)::(gx,gx+1)::iv1=iv2 at*
  conv=>whnf
  refine⟨[.slice (some ⟨gx,0,none⟩) f.cols f.cols],rfl,by simp[Value.oneCell'],fun ρ2 w2 r2 _=>⟨_,rfl,fun j u hu=>?_⟩,?_⟩
  ·have h5:=Rel.same r2 (fa _) hC3;rw[dM,cell_of (h5.trans hbx)];rcases j with _|j
   ·exact hu
   ·cases hu
  conv=>whnf
  refine⟨by omega,by omega,by unfold maxLen;omega,?_⟩;conv=>whnf
  refine⟨((i+1:Nat):Int),by rw[wrap64]<;>omega,?_⟩;conv=>whnf
  intro ρ3 w6 r3;exact⟨(i+1,rv++[.slice (some ⟨gx,0,none⟩) f.cols f.cols],w6,_),⟨hib,by simp[hrl],hw2.tr r3.cC,hE3.rel r3⟩,Sub.gen [(1,4)] r3 ⟨rfl,rfl,trivial⟩ ⟨rfl,by dsimp only;rw[List.length_append,List.length_singleton];rfl,rfl,trivial⟩ (by simp[dG,cW.scopd,At.sc]) (by simp[cV,SV.sc,At.sc,cQ]) (by rfl) (fun lo hi h=>h),by dsimp only;omega⟩
 have hib:i=m:=aP hi (by simpa using hib);subst hib;have hE0:gA w1 w.heap.size iv rv f.cols (dS f 0):=by rw[dS,hm];exact hE
 have hbd0:Ar (dS f 0) 2000000:=fun l hl z hz=>by
  rw[dS]at hl;rw[bT hl]at hz;rw[bT hz];exact⟨by decide,by decide⟩
 clear hE;rw[hrl];conv=>whnf
 refine⟨Nat×World×Iv,fun z=>⟨[(1,.o (.p 0 0)),(3,.o (.w 1 i)),(5,.o (.v (.int .i64 ((z.1:Nat):Int))))],[(1,.vec T.Lint 1 rv),(0,.box T.Frame [.v (.slice an f.nodes.length cn),.v (.slice ab f.bars.length cb),.v (.slice aq f.cO.length cq)])],2,z.2.2,z.2.1⟩,fun z=>f.bars.length-z.1,
  fun z=>z.1<=f.bars.length∧cN w.heap.size w z.2.1∧gA z.2.1 w.heap.size z.2.2 rv f.cols (dS f z.1)∧Ar (dS f z.1) 2000000,?_,?_⟩
 ·intro ρ w' r3;exact⟨(0,w',_),⟨aN _,hw.tr r3.cC,hE0.rel r3,hbd0⟩,Sub.gen [] r3 ⟨rfl,rfl,trivial⟩ ⟨rfl,rfl,rfl,trivial⟩ (by simp[dG,cW.scopd,At.sc]) (by simp[cV,SV.sc,At.sc,cQ]) (by rfl) (fun lo hi h=>h)⟩
 clear hw hE0 hbd0 hi;rintro⟨j,w2,iv⟩ ⟨hj,hw,hE,hbd⟩;dsimp only at hj hw hE hbd ⊢;conv=>whnf
 refine dE.mk (fun hjb=>?_) (fun hjb=>?_)
 ·have hjb:j<f.bars.length:=by simpa using hjb
  obtain⟨b,hb⟩:∃b,f.bars[j]? =some b:=⟨_,aB hjb⟩
  obtain⟨hA,hB⟩:=hok.IX b (aF hb);have hne:=(GY herr (aF hb)).1;obtain⟨ka,pa,ea,hka,-,hna,⟨_,_⟩,⟨_,_⟩,⟨_,_⟩⟩:=hok.node hA.1 hA.2;obtain⟨kb,pb,eb,hkb,-,hnb,⟨_,_⟩,⟨_,_⟩,⟨_,_⟩⟩:=hok.node hB.1 hB.2;have hab:ka≠kb:=fun e=>hne (by rw[ea,eb,e]);obtain⟨adb,cs,hadb,hF,-,hlb0⟩:=hf.bars.load (by decide) hb;obtain⟨g0,g1,g2,g3,g4,g5,g6,g7,rfl,hF⟩:=hF;have hbD:pg f b=[pb.1-pa.1,pb.2.1-pa.2.1,pb.2.2-pa.2.2]:=by rw[pg,hna,hnb]
  conv=>whnf
  refine bz (cE hw (Φ:=fun _ w' v w2=>v= .agg #[.int .i64 (pb.1-pa.1),.int .i64 (pb.2.1-pa.2.1),.int .i64 (pb.2.2-pa.2.2)]) (fun ρ w' r=>(ye (S:=S) (fun g hg=>by have:=hS g hg;have:=r.bu;omega) (hf.cD fun g hg=>(hw.tr r.cC).block g (hS g hg)) hok hb).mono fun _ _ ⟨v2,e1,e2,e3⟩=>⟨v2,e1,e2,by rw[e3,hna,hnb]⟩) ?_);rintro ρ wa2 v2 wb2 iv2 r he hw h_ rfl;have hE1:=gA.cB hE r he (mC h_);clear r;clear hE hF;rw[ea,eb]at hlb0;obtain⟨ds,hds⟩:∃ds:List Value,ds=[.int .i64 (pb.1-pa.1),.int .i64 (pb.2.1-pa.2.1),.int .i64 (pb.2.2-pa.2.2)]:=⟨_,rfl⟩
  conv=>whnf
  refine⟨Nat×World×Iv,fun z=>⟨[(1,.o (.p 0 0)),(3,.o (.w 1 i)),(5,.o (.v (.int .i64 ((j:Nat):Int)))),(6,.o (.p 2 0)),(7,.o (.v (.int .i64 ((z.1:Nat):Int))))],[(2,.arr 189 ds),(1,.vec T.Lint 1 rv),(0,.box T.Frame [.v (.slice an f.nodes.length cn),.v (.slice ab f.bars.length cb),.v (.slice aq f.cO.length cq)])],3,z.2.2,z.2.1⟩,fun z=>3-z.1,
   fun z=>z.1<=3∧cN w.heap.size w z.2.1∧gA z.2.1 w.heap.size z.2.2 rv f.cols (eD f (dS f j) j z.1)∧Ar (eD f (dS f j) j z.1) 2000000,?_,?_⟩
  ·intro ρ w' r3;exact⟨(0,w',_),⟨aN _,hw.tr r3.cC,hE1.rel r3,hbd⟩,Sub.Jj 2 (vs:=ds) (by rw[hds];rfl) r3 fun r4=>Sub.gen [] r4 ⟨rfl,rfl,rfl,trivial⟩ ⟨rfl,rfl,rfl,rfl,rfl,trivial⟩ (by simp[dG,cW.scopd,At.sc]) (by simp[cV,SV.sc,At.sc,cQ]) (by rfl) (fun lo hi h=>h)⟩
  clear hw hE1 hbd;rintro⟨k,w3,iv⟩ ⟨hk,hw,hE,hbd⟩;dsimp only at hk hw hE hbd ⊢;conv=>whnf
  refine dE.mk (fun hkb2=>?_) (fun hkb2=>?_)
  ·have hk3:k<3:=by have:=aI hkb2;omega
   obtain⟨d,hd⟩:∃d,(pg f b).getD k 0=d:=⟨_,rfl⟩
   have hdb: -2000000<=d∧d<=2000000:=by
    rw[<-hd,hbD];rcases(show k=0∨k=1∨k=2 by omega)with rfl|rfl|rfl<;>simp[List.getD]<;>omega
   have hdk:ds[k]? =some (.int .i64 d):=by
    rw[hds,<-hd,hbD];rcases(show k=0∨k=1∨k=2 by omega)with rfl|rfl|rfl<;>rfl
   have hMl:(eD f (dS f j) j k).length=3*f.nodes.length:=by rw[<-hE.len];have:=hE.len;omega
   obtain⟨la,hla⟩:∃l,(eD f (dS f j) j k)[3*ka+k]? =some l:=⟨_,aB (by first|omega|(rw [bV];omega))⟩
   have hlaw:=hE.wid la (aF hla);obtain⟨za,hza⟩:∃z,la[j]? =some z:=⟨_,aB (by omega)⟩
   obtain⟨va,hva⟩:∃v,rv[3*ka+k]? =some v:=⟨_,aB (by have:=(aE.1 hla).1;rw[hE.len];exact this)⟩
   obtain⟨aa5,ca5,rfl⟩:=hE.form hva;obtain⟨ada5,haa5,-,-⟩:=hE.load hva hla hza;conv=>whnf
   refine cF hτ dV [.x 0,.x 1,.x 2,.x 3,.x 4,.x 5,.x 6,.x 7,.x 8,.x 9,.x 10,.x 11,.x 12,.x 13,.x 14,.x 15,.x 16,.x 17] (by kernel_rfl) (by kernel_rfl) ?_;conv=>whnf
   refine⟨adb,hadb,⟨by omega,by omega⟩,?_⟩;conv=>whnf
   refine⟨.int .i64 (ka:Int),fun ρ w' r=>?_,?_⟩
   ·obtain⟨k1,k2⟩:=hlb0 0 _ rfl;rw[bw (w:=w) (w2:=w') (by simp only[cL];exact(hw.tr r.cC).block _ (hS _ k1))];simp only[aC,kr]at k2 ⊢;exact k2
   conv=>whnf
   refine⟨((3*ka:Nat):Int),by rw[wrap64]<;>omega,?_⟩;conv=>whnf
   refine⟨((3*ka+k:Nat):Int),by rw[wrap64]<;>omega,?_⟩;conv=>whnf
   refine⟨by rw[hrl,aS,aR],?_⟩;conv=>whnf
   refine⟨⟨by omega,by omega⟩,?_⟩;conv=>whnf
   refine⟨.slice aa5 f.cols ca5,by rw[aC,aR];exact hva,?_⟩;conv=>whnf
   refine⟨⟨by omega,by omega⟩,?_⟩;conv=>whnf
   refine⟨.int .i64 d,by rw[aS,aC,aR];exact hdk,?_⟩;conv=>whnf
   refine⟨ada5,haa5,⟨by omega,by omega⟩,?_⟩;conv=>whnf
   intro ρ w' r;obtain⟨g,hg,h1,h2,h3,h4⟩:=hE.store r (z:=d) hva hla (show j<f.cols by omega);rw[haa5]at hg;injection hg with hg;subst hg;refine⟨h1,h2,h3,fun w5 hw5=>?_⟩;obtain⟨k1,k2,k3,-,-⟩:=h4 w5 hw5;replace hw:=(hw.tr r.cC).tr k2;replace hbd:=hbd.set (r:=3*ka+k) (c:=j) (z:=d) (t2:=2000000) (by omega) hla (by omega);replace hE:=k1;clear h1 h2 h3 h4 hw5 k1 k2 k3 r haa5;obtain⟨lb,hlb⟩:∃l,((eD f (dS f j) j k).set (3*ka+k) (la.set j d))[3*kb+k]? =some l:=⟨_,aB (by first|omega|(rw [bV];omega))⟩
   have hlbw:=hE.wid lb (aF hlb);obtain⟨zb,hzb⟩:∃z,lb[j]? =some z:=⟨_,aB (by omega)⟩
   obtain⟨vb,hvb⟩:∃v,rv[3*kb+k]? =some v:=⟨_,aB (by have:=(aE.1 hlb).1;rw[hE.len];exact this)⟩
   obtain⟨ab5,cb5,rfl⟩:=hE.form hvb;obtain⟨adb5,hab5,-,-⟩:=hE.load hvb hlb hzb;conv=>whnf
   refine cF hτ dV [.x 0,.x 1,.x 2,.x 3,.x 4,.x 5,.x 6,.x 7,.x 8,.x 9,.x 10,.x 11,.x 12,.x 13,.x 14,.x 15,.x 16,.x 17,.x 18] (by kernel_rfl) (by kernel_rfl) ?_;conv=>whnf
   refine⟨adb,hadb,⟨by omega,by omega⟩,?_⟩;conv=>whnf
   refine⟨.int .i64 (kb:Int),fun ρ w' r=>?_,?_⟩
   ·obtain⟨k1,k2⟩:=hlb0 1 _ rfl;rw[bw (w:=w) (w2:=w') (by simp only[cL];exact(hw.tr r.cC).block _ (hS _ k1))];simp only[aC,kr]at k2 ⊢;exact k2
   conv=>whnf
   refine⟨((3*kb:Nat):Int),by rw[wrap64]<;>omega,?_⟩;conv=>whnf
   refine⟨((3*kb+k:Nat):Int),by rw[wrap64]<;>omega,?_⟩;conv=>whnf
   refine⟨by rw[hrl,aS,aR],?_⟩;conv=>whnf
   refine⟨⟨by omega,by omega⟩,?_⟩;conv=>whnf
   refine⟨.slice ab5 f.cols cb5,by rw[aC,aR];exact hvb,?_⟩;conv=>whnf
   refine⟨⟨by omega,by omega⟩,?_⟩;conv=>whnf
   refine⟨.int .i64 d,by rw[aS,aC,aR];exact hdk,?_⟩;conv=>whnf
   refine⟨-d,by rw[wrap64]<;>omega,?_⟩;conv=>whnf
   refine⟨adb5,hab5,⟨by omega,by omega⟩,?_⟩;conv=>whnf
   intro ρ w' r;obtain⟨g,hg,h1,h2,h3,h4⟩:=hE.store r (z:=(-d)) hvb hlb (show j<f.cols by omega);rw[hab5]at hg;injection hg with hg;subst hg;refine⟨h1,h2,h3,fun w5 hw5=>?_⟩;obtain⟨k1,k2,k3,-,-⟩:=h4 w5 hw5;replace hw:=(hw.tr r.cC).tr k2;replace hbd:=hbd.set (r:=3*kb+k) (c:=j) (z:=(-d)) (t2:=2000000) (by omega) hlb (by omega);replace hE:=k1;clear h1 h2 h3 h4 hw5 k1 k2 k3 r hab5;rw[H6 hb ea eb hab hk3 hd hla hlb]at hE hbd;conv=>whnf
   refine⟨((k+1:Nat):Int),by rw[wrap64]<;>omega,?_⟩;conv=>whnf
   intro ρ3 w6 r3;exact⟨(k+1,w6,_),⟨hk3,hw.tr r3.cC,hE.rel r3,hbd⟩,Sub.gen [] r3 ⟨rfl,rfl,rfl,trivial⟩ ⟨rfl,rfl,rfl,rfl,rfl,trivial⟩ (by simp[dG,cW.scopd,At.sc]) (by simp[cV,SV.sc,At.sc,cQ]) (by rfl) (fun lo hi h=>h),by dsimp only;omega⟩
  have hkb2:k=3:=by have:=aH hkb2;omega
  subst hkb2;conv=>whnf
  refine⟨((j+1:Nat):Int),by rw[wrap64]<;>omega,?_⟩;conv=>whnf
  intro ρ3 w6 r3;exact⟨(j+1,w6,_),⟨hjb,hw.tr r3.cC,hE.rel r3,hbd⟩,Sub.gen [] r3 ⟨rfl,rfl,trivial⟩ ⟨rfl,rfl,rfl,trivial⟩ (by simp[dG,cW.scopd,At.sc]) (by simp[cV,SV.sc,At.sc,cQ]) (by rfl) (fun lo hi h=>h),by dsimp only;omega⟩
 have hjb:j=f.bars.length:=aP hj (by simpa using hjb);subst hjb;conv=>whnf
 refine⟨Nat×World×Iv,fun z=>⟨[(1,.o (.p 0 0)),(3,.o (.w 1 i)),(8,.o (.v (.int .i64 ((z.1:Nat):Int))))],[(1,.vec T.Lint 1 rv),(0,.box T.Frame [.v (.slice an f.nodes.length cn),.v (.slice ab f.bars.length cb),.v (.slice aq f.cO.length cq)])],2,z.2.2,z.2.1⟩,fun z=>f.cO.length-z.1,
  fun z=>z.1<=f.cO.length∧cN w.heap.size w z.2.1∧gA z.2.1 w.heap.size z.2.2 rv f.cols (eR f z.1)∧Ar (eR f z.1) 2000000,?_,?_⟩
 ·intro ρ w' r3;exact⟨(0,w',_),⟨aN _,hw.tr r3.cC,hE.rel r3,hbd⟩,Sub.gen [] r3 ⟨rfl,rfl,trivial⟩ ⟨rfl,rfl,rfl,trivial⟩ (by simp[dG,cW.scopd,At.sc]) (by simp[cV,SV.sc,At.sc,cQ]) (by rfl) (fun lo hi h=>h)⟩
 clear hw hE hbd hj;rintro⟨j,w2,iv⟩ ⟨hj,hw,hE,hbd⟩;dsimp only at hj hw hE hbd ⊢;conv=>whnf
 refine dE.mk (fun hjb=>?_) (fun hjb=>?_)
 ·have hjb:j<f.cO.length:=by simpa using hjb
  obtain⟨s,hs⟩:∃b,f.cO[j]? =some b:=⟨_,aB hjb⟩
  obtain⟨hA,hB⟩:=hok.sup s (aF hs);obtain⟨ks,hks⟩:=Int.eq_ofNat_of_zero_le (show 0<=3*s.1+s.2.1 by omega);have hMl:=lW f j;obtain⟨l,hl⟩:∃l,(eR f j)[ks]? =some l:=⟨_,aB (by omega)⟩
  have hlw:=hE.wid l (aF hl);obtain⟨v,hv⟩:∃v,rv[ks]? =some v:=⟨_,aB (by rw[hE.len];omega)⟩
  obtain⟨a5,c5,rfl⟩:=hE.form hv;obtain⟨z0,hz0⟩:∃z,l[f.bars.length+j]? =some z:=⟨_,aB (by omega)⟩
  obtain⟨ad5,ha5,-,-⟩:=hE.load hv hl hz0;obtain⟨adb,cs,hab,hF,-,hlb⟩:=hf.cO.load (by decide) hs;obtain⟨g0,g1,g2,g3,g4,g5,g6,g7,rfl,hF⟩:=hF;conv=>whnf
  refine cF hτ dV [.x 0,.x 1,.x 2,.x 3,.x 4,.x 5,.x 6,.x 7,.x 8,.x 9,.x 10,.x 11,.x 12,.x 13,.x 14,.x 15,.x 16,.x 17,.x 18,.x 19,.x 20,.x 21,.x 22,.x 23] (by kernel_rfl) (by kernel_rfl) ?_;conv=>whnf
  refine⟨adb,hab,⟨by omega,by omega⟩,?_⟩;conv=>whnf
  refine⟨.int .i64 s.1,fun ρ w' r=>?_,?_⟩
  ·obtain⟨k1,k2⟩:=hlb 0 _ rfl;rw[bw (w:=w) (w2:=w') (by simp only[cL];exact(hw.tr r.cC).block _ (hS _ k1))];simp only[aC,kr]at k2 ⊢;exact k2
  conv=>whnf
  refine⟨3*s.1,by rw[wrap64]<;>omega,?_⟩;conv=>whnf
  refine⟨adb,hab,⟨by omega,by omega⟩,?_⟩;conv=>whnf
  refine⟨.int .i64 s.2.1,fun ρ w' r=>?_,?_⟩
  ·obtain⟨k1,k2⟩:=hlb 1 _ rfl;rw[bw (w:=w) (w2:=w') (by simp only[cL];exact(hw.tr r.cC).block _ (hS _ k1))];simp only[aC,kr]at k2 ⊢;exact k2
  conv=>whnf
  refine⟨((ks:Nat):Int),by rw[wrap64]<;>omega,?_⟩;conv=>whnf
  refine⟨by rw[hrl,aR],?_⟩;conv=>whnf
  refine⟨⟨by omega,by omega⟩,?_⟩;conv=>whnf
  refine⟨.slice a5 f.cols c5,by rw[aC,aR];exact hv,?_⟩;conv=>whnf
  refine⟨((f.bars.length+j:Nat):Int),by rw[wrap64]<;>omega,?_⟩;conv=>whnf
  refine⟨ad5,ha5,⟨by omega,by omega⟩,?_⟩;conv=>whnf
  intro ρ w' r;obtain⟨g,hg,h1,h2,h3,h4⟩:=hE.store r (z:=1) hv hl (show f.bars.length+j<f.cols by omega);rw[ha5]at hg;injection hg with hg;subst hg;refine⟨h1,h2,h3,fun w5 hw5=>?_⟩;obtain⟨k1,k2,k3,-,-⟩:=h4 w5 hw5;replace hw:=(hw.tr r.cC).tr k2;have hbd2:=hbd.set (r:=ks) (c:=f.bars.length+j) (z:=1) (t2:=2000000) (by omega) hl (by omega);rw[Bu hs hks hl]at k1 hbd2;clear h1 h2 h3 h4 hw5 k2 k3 r hE;conv=>whnf
  refine⟨((j+1:Nat):Int),by rw[wrap64]<;>omega,?_⟩;conv=>whnf
  intro ρ3 w6 r3;exact⟨(j+1,w6,_),⟨hjb,hw.tr r3.cC,k1.rel r3,hbd2⟩,Sub.gen [] r3 ⟨rfl,rfl,trivial⟩ ⟨rfl,rfl,rfl,trivial⟩ (by simp[dG,cW.scopd,At.sc]) (by simp[cV,SV.sc,At.sc,cQ]) (by rfl) (fun lo hi h=>h),by dsimp only;omega⟩
 have hjb:j=f.cO.length:=aP hj (by simpa using hjb);subst hjb;conv=>whnf
 intro ρe we re;have hE2:=hE.rel re;have hMl:=lW f f.cO.length;have hrl2:=hE.len;refine⟨_,rfl,hw.tr re.cC,⟨rv,?_,hE.len,fun i u x k1 k2=>?_⟩,hbd⟩
 ·rw[show (fN f).length=rv.length from hE.len.symm];have h5:=re.gR (id:=1) (sz:=1) (m:=rv.length) rfl (by simp) (by unfold maxLen;omega) (by decide) hE.one;rw[show (i:Nat)=rv.length by omega];exact h5.cG fun g hg=>.inr hg
 ·obtain⟨a,c,rfl⟩:=hE.form k1;have hxl:=hE.wid x (aF k2);refine⟨by rw[hxl];unfold maxLen;omega,by simp,fun v hv=>by obtain⟨z,_,rfl⟩:=aU.1 hv;rfl,a,c,by rw[hxl],?_,fun t v hv=>?_⟩
  ·rw[hxl];obtain⟨a2,c2,e,h⟩:=iw (hE.row i _ x k1 k2);injection e with e1 e2 e3;omega
  ·rw[aO]at hv
   cases ht:x[t]? with
   |none=>rw[ht]at hv;cases hv
   |some z=>
    rw[ht]at hv;simp only[Option.map_some,Option.some.injEq]at hv;subst hv;obtain⟨ad,h1,h2,h3⟩:=hE2.load k1 k2 ht;exact⟨ad,h1,Cv.nw h2 re,by rw[aR]at h3;exact h3⟩
end Go.Ex
namespace Go.Ex
open Go Go.Sx Go.Proofs
theorem sI{l:List Int}{i:Nat}{z:Int}(h:l[i]? =some z):cU (l.take (i+1))=cU (l.take i)++[(z:Rat)]:=by rw[cU,List.take_add_one,h,List.map_append];rfl
theorem At.Hx{ρ:Nat->Sx.dc}{id n:Nat}:((At.w id n).den ρ).oneCell'=true:=by
 cases h:(ρ id).nil<;>simp[At.den,h,Value.oneCell']
theorem Dp{S:Nat->Prop}{w:World}{v:Value}{M:List (List Int)}(hS:Old S w)(hM:iK w S v M)(hR:M.length<=1000)(hn:∀l∈M,l.length<=1000)(hb:∀l∈M,∀z∈l,-1000000000<=z∧z<=1000000000):
  dh PG N.xC #[v] w (dw w fun v' w2=>cI w2 (Nw (fun _=>False) w w2) v' (M.map cU)):=by
 have hw:cN w.heap.size w w:=cN.refl;obtain⟨am,cm,rfl,-,hmm⟩:=cT.shape hM;unfold maxLen at hmm;refine yW (by simp) ?_;conv=>whnf
 refine⟨Nat×List Value×World×Iv,fun z=>⟨[(0,.o (.v (.slice am M.length cm))),(3,.o (.w 0 z.2.1.length)),(4,.o (.v (.int .i64 ((z.1:Nat):Int))))],[(0,.vec T.fz 1 z.2.1)],1,z.2.2.2,z.2.2.1⟩,fun z=>M.length-z.1,
  fun z=>z.1<=M.length∧cN w.heap.size w z.2.2.1∧dK z.2.2.1 (Cv (fun _=>False) w.heap.size z.2.2.2) z.2.1 ((M.take z.1).map cU),?_,?_⟩
 ·intro ρ w' r;exact⟨(0,[],w',[]),⟨aN _,hw.tr r.cC,by simp[dK]⟩,Sub.nil 3 T.fz 1 rfl (by simp[cV,SV.sc,At.sc,cQ]) r fun ρ1 r1=>Sub.gen [] r1 ⟨rfl,trivial⟩ ⟨rfl,rfl,rfl,trivial⟩ (by simp[dG,cW.scopd,At.sc]) (by simp[cV,SV.sc,At.sc,cQ]) (by rfl) (fun lo hi h=>h)⟩
 clear hw;rintro⟨i,rv,w1,iv⟩ ⟨hi,hw,hK⟩;dsimp only at hi hw hK ⊢;have hrl:rv.length=i:=by rw[hK.1,aM,aX];omega
 conv=>whnf
 refine dE.mk (fun hib=>?_) (fun hib=>?_)
 ·have hib:i<M.length:=by simpa using hib
  obtain⟨l,hl⟩:∃x,M[i]? =some x:=⟨_,aB hib⟩
  have hln:=hn l (aF hl);have hlb:=hb l (aF hl);obtain⟨adm,um,ham,hRm,km1,km2⟩:=cT.load hM hl;obtain⟨al,cl,rfl,-,hml⟩:=hRm.shape;conv=>whnf
  refine⟨Nat×List (List Value)×World×Iv,fun z=>⟨[(0,.o (.v (.slice am M.length cm))),(3,.o (.w 0 rv.length)),(4,.o (.v (.int .i64 ((i:Nat):Int)))),(5,.o (.w 1 z.2.1.length)),(6,.o (.v (.int .i64 ((z.1:Nat):Int))))],[(1,.vec T.Rat 4 z.2.1.flatten),(0,.vec T.fz 1 rv)],2,z.2.2.2,z.2.2.1⟩,fun z=>l.length-z.1,
   fun z=>z.1<=l.length∧cN w.heap.size w z.2.2.1∧dK z.2.2.1 (Cv (fun _=>False) w.heap.size z.2.2.2) rv ((M.take i).map cU)∧fD z.2.2.1 (Cv (fun _=>False) w.heap.size z.2.2.2) z.2.1 (cU (l.take z.1)),?_,?_⟩
  ·intro ρ w' r;exact⟨(0,[],w',_),⟨aN _,hw.tr r.cC,hK.rel r (bs w),fD.nil⟩,Sub.nil 5 T.Rat 4 rfl (by simp[cV,SV.sc,At.sc,cQ]) r fun ρ1 r1=>Sub.gen [] r1 ⟨rfl,rfl,trivial⟩ ⟨rfl,rfl,rfl,rfl,rfl,trivial⟩ (by simp[dG,cW.scopd,At.sc]) (by simp[cV,SV.sc,At.sc,cQ]) (by rfl) (fun lo hi h=>h)⟩
  clear hw hK;rintro⟨k,css,w3,iv⟩ ⟨hk,hw,hK,hG⟩;dsimp only at hk hw hK hG ⊢;have hfl:=eX hG.four;have hcl2:css.length=k:=by rw[hG.len,cU,aM,aX];omega
  conv=>whnf
  refine⟨adm,ham,⟨by omega,by omega⟩,?_⟩;conv=>whnf
  refine⟨.slice al l.length cl,fun ρ w' r=>?_,?_⟩
  ·rw[aC,bw (w:=w) (w2:=w') (by rw[cL];exact(hw.tr r.cC).block _ (hS _ km1))];exact km2
  conv=>whnf
  refine dE.mk (fun hkb=>?_) (fun hkb=>?_)
  ·have hkb:k<l.length:=by simpa using hkb
   obtain⟨z,hz⟩:∃x,l[k]? =some x:=⟨_,aB hkb⟩
   have hzb:=hlb z (aF hz);obtain⟨adx,hax,hSx,hlx⟩:=yM.at hRm hz;conv=>whnf
   refine⟨adm,ham,⟨by omega,by omega⟩,?_⟩;conv=>whnf
   refine⟨.slice al l.length cl,fun ρ w' r=>?_,?_⟩
   ·rw[aC,bw (w:=w) (w2:=w') (by rw[cL];exact(hw.tr r.cC).block _ (hS _ km1))];exact km2
   conv=>whnf
   refine⟨adx,hax,⟨by omega,by omega⟩,?_⟩;conv=>whnf
   refine⟨.int .i64 z,fun ρ w' r=>?_,?_⟩
   ·rw[aC,bw (w:=w) (w2:=w') (by rw[cL];exact(hw.tr r.cC).block _ (hS _ hSx))];exact hlx
   conv=>whnf
   refine bz (cE hw (Φ:=fun _ w' v w2=>cR w2 (Nw (fun _=>False) w' w2) v (z:Rat)) (fun ρ w' r=>jz z w' (by omega)) ?_);rintro ρ wa1 v1 wb1 iv1 r he hw h_ hn;replace hK:=hK.cB r (bs w) he (mC h_);replace hG:=hG.cB r (bs w) he (mC h_);have hd:=hn.cw (S:=fun _=>False) r.bu (mN h_);clear r hn;obtain⟨s1_0,s1_1,s1_2,s1_3,s1_4,s1_5,s1_6,s1_7,rfl⟩:=hd.shape;conv=>whnf
   have hG2:=hG.push (cs:=[.bool s1_0,.slice s1_1 s1_2 s1_3,.bool s1_4,.slice s1_5 s1_6 s1_7]) (q:=(z:Rat)) ⟨_,_,_,_,_,_,_,_,rfl,hd⟩ rfl;rw[<-sI hz]at hG2;have hfl2:css.flatten++([.bool s1_0,.slice s1_1 s1_2 s1_3,.bool s1_4,.slice s1_5 s1_6 s1_7]:List Value)=(css++([[.bool s1_0,.slice s1_1 s1_2 s1_3,.bool s1_4,.slice s1_5 s1_6 s1_7]]:List (List Value))).flatten:=by simp
   refine .inl ?_;conv=>whnf
   refine⟨by omega,by omega,by unfold maxLen;omega,?_⟩;conv=>whnf
   refine⟨((k+1:Nat):Int),by rw[wrap64]<;>omega,?_⟩;conv=>whnf
   intro ρ3 w6 r3;exact⟨(k+1,css++[[.bool s1_0,.slice s1_1 s1_2 s1_3,.bool s1_4,.slice s1_5 s1_6 s1_7]],w6,_),⟨hkb,hw.tr r3.cC,hK.rel r3 (bs w),hG2.rel r3 (bs w)⟩,Sub.gen [(1,3)] r3 ⟨by dsimp only;rw[<-hfl2];rfl,rfl,trivial⟩ ⟨rfl,rfl,rfl,by dsimp only;rw[List.length_append,List.length_singleton];rfl,rfl,trivial⟩ (by simp[dG,cW.scopd,At.sc]) (by simp[cV,SV.sc,At.sc,cQ]) (by rfl) (fun lo hi h=>h),by dsimp only;omega⟩
  have hkb:k=l.length:=aP hk (by simpa using hkb);have hwl:cU (l.take k)=cU l:=by rw[hkb,ai]
  rw[hwl]at hG;conv=>whnf
  refine pV hτ (id3:=2) (id2:=1) (tH:=[(0,.vec T.fz 1 rv)]) rfl rfl rfl rfl (by simp) (by first|exact⟨rfl,trivial⟩|exact⟨rfl,rfl,trivial⟩) rfl rfl (fun ρ w' r r2 hbx=>?_);have hrow:=fD.list ((hG.rel r (bs w)).cG fun g hg=>Cv.mono (iv':=((ρ 2).g,(ρ 2).g+1)::kG (ρ 1) iv) hg fun p hp=>aD _ (oQ p hp)) ((r.G2 (id:=1) (sz:=4) (m:=css.length) rfl hfl (by unfold maxLen;omega) (by decide) hG.one).cG fun g hg=>Cv.mono hg fun p hp=>aD _ hp);have hone:((At.w 1 css.length).den ρ).oneCell'=true:=At.Hx;have hlo3:=r.low 2 _ rfl (r.fits (id:=2) rfl).1;have hC3:Cv (fun _=>False) w.heap.size (((ρ 2).g,(ρ 2).g+1)::kG (ρ 1) iv) (ρ 2).g:=.inr ⟨hlo3.1,_,_,aJ,aG _,bY _⟩;have hmono:∀p,p∈iv->p∈((ρ 2).g,(ρ 2).g+1)::kG (ρ 1) iv:=fun p hp=>aD _ (oQ p hp);have hw2:=hw.tr r.cC;have hK1:=(hK.rel r (bs w)).cG fun g hg=>Cv.mono hg hmono;clear r2 hlo3;generalize (At.w 1 css.length).den ρ=ur at*
  generalize (ρ 2).g=gy at*
  generalize (gy,gy+1)::kG (ρ 1) iv=iv2 at*
  conv=>whnf
  refine⟨[ur],rfl,by simpa using hone,fun ρ2 w2 r2 _=>⟨_,rfl,fun j u hu=>?_⟩,?_⟩
  ·have h5:=Rel.same r2 (fa _) hC3;rw[dM,cell_of (h5.trans hbx)];rcases j with _|j
   ·exact hu
   ·cases hu
  conv=>whnf
  refine⟨by simp,by omega,by unfold maxLen;omega,?_⟩;conv=>whnf
  have hK2:=hK1.push hone hrow;rw[show (M.take i).map cU++[cU l]=(M.take (i+1)).map cU by rw[List.take_add_one,hl];simp]at hK2;refine⟨((i+1:Nat):Int),by rw[wrap64]<;>omega,?_⟩;conv=>whnf
  intro ρ3 w6 r3;exact⟨(i+1,rv++[ur],w6,_),⟨hib,hw2.tr r3.cC,hK2.rel r3 (bs w)⟩,Sub.gen [(0,3)] r3 ⟨rfl,trivial⟩ ⟨rfl,by dsimp only;rw[List.length_append,List.length_singleton];rfl,rfl,trivial⟩ (by simp[dG,cW.scopd,At.sc]) (by simp[cV,SV.sc,At.sc,cQ]) (by rfl) (fun lo hi h=>h),by dsimp only;omega⟩
 have hib:i=M.length:=aP hi (by simpa using hib);rw[show (M.take i).map cU=M.map cU by rw[hib,ai]]at hK;conv=>whnf
 intro ρe we re;refine⟨_,rfl,hw.tr re.cC,rv,?_,hK.1,fun i u x k1 k2=>cP.out (hK.2.2 i u x k1 k2) re (bs w)⟩;have h5:=re.gR (id:=0) (sz:=1) (m:=rv.length) rfl (by simp) (by unfold maxLen;omega) (by decide) hK.2.1;rw[show (M.map cU).length=rv.length from hK.1.symm];exact h5.cG fun g hg=>.inr hg
end Go.Ex
namespace Go.Ex
theorem HN{M:List (List Int)}{r c:Nat}:di (M.map cU) r c=((ez M r c:Int):Rat):=by
 have key:∀l:List Int,(cU l).getD c 0=((l.getD c 0:Int):Rat):=fun l=>by
  rw[cU,List.getD,List.getD,aO]
  cases l[c]? <;>rfl
 unfold di ez;rw[<-key];congr 1;rw[List.getD,List.getD,aO]
 cases M[r]? <;>rfl
theorem IV(f:fK)(r c:Nat):di (dD f) r c=((ez (fN f) r c:Int):Rat):=HN
def IW(n:Nat)(M:List (List Int)):Prop:=∀l∈M,l.length=n
theorem IW.put{n r c:Nat}{d:Int}{M:List (List Int)}(h:IW n M):IW n (putAt M r c d):=fun l hl=>by
 unfold putAt at hl;rcases aV r M.length with hr|hr
 ·rcases bD hl with hl|rfl
  ·exact h l hl
  ·rw[bV,List.getD,aB hr];exact h _ (bL hr)
 ·rw[List.set_eq_of_length_le hr]at hl;exact h l hl
theorem zI{f:fK}{M:List (List Int)}{n i:Nat}(h:IW n M):∀k,IW n (eD f M i k)
 |0=>h
 |k+1=>by rw[eD];rw[fu,fu];exact((zI h k).put).put
theorem wk(f:fK):∀i,IW f.cols (dS f i)
 |0=>fun l hl=>by rw[dS]at hl;rw[bT hl,bQ]
 |i+1=>by rw[dS];exact zI (wk f i) 3
theorem iR(f:fK):∀i,IW f.cols (eR f i)
 |0=>wk f _
 |i+1=>by rw[eR];exact(iR f i).put
theorem mB(M:List (List Int))(r c:Nat)(d:Int):(putAt M r c d).length=M.length:=bV ..
theorem qu(f:fK)(M:List (List Int))(i:Nat):∀k,(eD f M i k).length=M.length
 |0=>rfl
 |k+1=>by rw[eD];rw[fu,fu,mB,mB];exact qu f M i k
theorem ow(f:fK):∀i,(dS f i).length=3*f.nodes.length
 |0=>bQ ..
 |i+1=>by rw[dS,qu];exact ow f i
theorem jL(f:fK):∀i,(eR f i).length=3*f.nodes.length
 |0=>ow f _
 |i+1=>by rw[eR,mB];exact jL f i
theorem oV(f:fK):fk f.cols (dD f):=fun r hr=>by
 obtain⟨l,hl,rfl⟩:=aU.1 hr;rw[cU,aM];exact iR f _ l hl
theorem jF(f:fK):(dD f).length=3*f.nodes.length:=by rw[dD,aM];exact jL f _
structure FC(f:fK):Prop where
 co:∀p∈f.nodes,(-1000000<=p.1∧p.1<=1000000)∧(-1000000<=p.2.1∧p.2.1<=1000000)∧(-1000000<=p.2.2∧p.2.2<=1000000)
 IX:∀b∈f.bars,∃ka kb:Nat,b.1=ka∧b.2.1=kb∧ka<f.nodes.length∧kb<f.nodes.length∧ka≠kb∧0<b.2.2
 sup:∀s∈f.cO,fw s<3*f.nodes.length∧0<=s.2.2
 one:∀(i j:Nat) s t,f.cO[i]? =some s->f.cO[j]? =some t->fw s=fw t->i=j
 n:f.nodes.length<=20
 b:f.bars.length<=60
 s:f.cO.length<=60
theorem Da{α:Type}{l:List α}{x:α}(h:x∈l):∃i:Nat,l[i]? =some x:=by
 obtain⟨i,hi,rfl⟩:=List.mem_iff_getElem.1 h;exact⟨i,aB hi⟩
theorem Fm{f:fK}(h:df f=0):FC f:=by
 have hok:=mD h;obtain⟨⟨h1,h2,h3⟩,h4,h5,h6⟩:=s4 h;have hsup:∀(k:Nat) s,f.cO[k]? =some s->iC f.nodes.length s.1∧(0<=s.2.1∧s.2.1<=2)∧gg s∉(f.cO.take k).map gg∧0<=s.2.2:=fun k s hs=>oW.1 (gh h6 k s hs);have hrow:∀(k:Nat) s,f.cO[k]? =some s->(fw s:Int)=3*s.1+s.2.1∧fw s<3*f.nodes.length:=fun k s hs=>by
  obtain⟨⟨a1,a2⟩,⟨a3,a4⟩,-,-⟩:=hsup k s hs;unfold fw;omega
 have lt:∀(i j:Nat) s t,i<j->f.cO[i]? =some s->f.cO[j]? =some t->fw s≠fw t:=fun i j s t hij hs ht e=>by
  obtain⟨⟨a1,a2⟩,⟨a3,a4⟩,-,-⟩:=hsup i s hs;obtain⟨⟨b1,b2⟩,⟨b3,b4⟩,b5,-⟩:=hsup j t ht;have e1:=(hrow i s hs).1;have e2:=(hrow j t ht).1;refine b5 (aU.2 ⟨s,aF (i:=i) (by rw[bM hij];exact hs),?_⟩);exact Prod.ext (by show s.1=t.1;omega) (by show s.2.1=t.2.1;omega)
 refine⟨hok.co,fun b hb=>?_,fun s hs=>?_,fun i j s t hs ht e=>?_,h1,h2,h3⟩
 ·obtain⟨k,hk⟩:=Da hb;obtain⟨⟨⟨a1,a2⟩,a3,a4⟩,a5,-,a6⟩:=lG.1 (gh h5 k b hk);exact⟨b.1.toNat,b.2.1.toNat,by omega,by omega,by omega,by omega,by omega,a6⟩
 ·obtain⟨k,hk⟩:=Da hs;exact⟨(hrow k s hk).2,(hsup k s hk).2.2.2⟩
 ·rcases bj i j with h7|h7|h7
  ·exact absurd e (lt i j s t h7 hs ht)
  ·exact h7
  ·exact absurd e.symm (lt j i t s h7 ht hs)
theorem B4(M:List (List Int))(r c r' c':Nat)(d:Int):ez (putAt M r c d) r' c'=d∨ez (putAt M r c d) r' c'=ez M r' c':=by
 by_cases h:r'=r∧c'=c
 ·obtain⟨rfl,rfl⟩:=h;rcases aV r' M.length with h1|h1
  ·rcases aV c' (M.getD r' []).length with h2|h2
   ·exact .inl (B3 h1 h2)
   ·refine .inr ?_;unfold ez putAt;rw[kQ h1,List.set_eq_of_length_le h2]
  ·refine .inr ?_;unfold ez putAt;rw[List.set_eq_of_length_le h1]
 ·exact .inr (iG (by
   by_cases h1:r'=r
   ·exact .inr fun h2=>h ⟨h1,h2⟩
   ·exact .inl h1))
theorem B5{f:fK}{k:Nat}(hk:k<f.nodes.length):f.node (k:Int)∈f.nodes:=by
 rw[fK.node,aC,List.getD,aB hk];exact bL hk
section
variable{f:fK}(h:FC f)
include h
theorem FC.Jy{b:Int×Int×Rat}(hb:b∈f.bars)(k:Nat): -2000000<=(pg f b).getD k 0∧(pg f b).getD k 0<=2000000:=by
 obtain⟨ka,kb,ea,eb,hka,hkb,-,-⟩:=h.IX b hb;obtain⟨⟨a1,a2⟩,⟨a3,a4⟩,a5,a6⟩:=h.co _ (B5 hka);obtain⟨⟨b1,b2⟩,⟨b3,b4⟩,b5,b6⟩:=h.co _ (B5 hkb);rw[pg,ea,eb]
 match k with
 |0=>simp[List.getD];omega
 |1=>simp[List.getD];omega
 |2=>simp[List.getD];omega
 |k+3=>simp[List.getD]
theorem FC.B6{i:Nat}{b:Int×Int×Rat}(hb:f.bars[i]? =some b)(r:Nat):∀k,k<=3-> -2000000<=ez (eD f (dS f i) i k) r i∧ez (eD f (dS f i) i k) r i<=2000000
 |0,_=>by
  have:=kR f (r:=r) i (aG i);rw[eD,this];omega
 |k+1,hk=>by
  obtain⟨ka,kb,ea,eb,-,-,hne,-⟩:=h.IX b (aF hb);have ih:=FC.B6 hb r k (by omega);have hd:=h.Jy (aF hb) k;have z1:=mA (r:=3*ka+k) hb ea eb (show k<=3 by omega) (by omega);have z2:=mA (r:=3*kb+k) hb ea eb (show k<=3 by omega) (by omega);rw[eD];rw[AB hb,toNat_add ea,toNat_add eb,fu,fu,z1,iG (r':=3*kb+k) (.inl (by omega)),z2];rcases B4 (putAt (eD f (dS f i) i k) (3*ka+k) i (0+(pg f b).getD k 0)) (3*kb+k) i r i (0+ -(pg f b).getD k 0)with e|e
  ·rw[e];omega
  ·rw[e];rcases B4 (eD f (dS f i) i k) (3*ka+k) i r i (0+(pg f b).getD k 0)with e|e
   ·rw[e];omega
   ·rw[e];exact ih
theorem FC.Db{i r:Nat}(hi:i<f.bars.length):∀j,i<j->j<=f.bars.length-> -2000000<=ez (dS f j) r i∧ez (dS f j) r i<=2000000
 |0,h1,_=>by omega
 |j+1,h1,h2=>by
  rw[dS];rcases aV i j with h3|h3
  ·rw[s3 (by omega)];exact FC.Db hi j h3 (by omega)
  ·rw[show j=i by omega];exact h.B6 (aB hi) r 3 (aG _)
theorem FC.IY{r i:Nat}{s:Int×Int×Rat}(hs:f.cO[i]? =some s):ez (fN f) r (f.bars.length+i)=if r=fw s then 1 else 0:=
 zH (iR f) (jL f) (fun s hs=>(h.sup s hs).1) hs _ (aE.1 hs).1
theorem FC.I0(r c:Nat): -2000000<=ez (fN f) r c∧ez (fN f) r c<=2000000:=by
 rcases aV c f.bars.length with hc|hc
 ·rw[fN,wj hc];exact h.Db hc _ hc (aG _)
 ·rcases aV c f.cols with h1|h1
  ·obtain⟨i,rfl⟩:∃i,c=f.bars.length+i:=⟨c-f.bars.length,by omega⟩
   rw[fK.cols]at h1;rw[h.IY (aB (show i<f.cO.length by omega))];split<;>omega
  ·have:ez (fN f) r c=0:=by
    unfold ez;rw[List.getD,List.getElem?_eq_none]
    ·rfl
    ·rcases aV r (fN f).length with h2|h2
     ·rw[List.getD,aB h2];show((fN f)[r]).length<=c;rw[iR f _ _ (bL h2)];exact h1
     ·rw[List.getD,List.getElem?_eq_none h2];exact aN _
   rw[this];omega
theorem FC.Fo(r c:Nat):Ib 2000000 (di (dD f) r c):=by
 rw[IV];have:=h.I0 r c;exact Ib.int (by omega)
theorem FC.oX:FB (dD f) f.cols 2000000:=fun j _=>⟨1,by decide,Ib.one (by decide),fun t _=>by rw[bq];exact h.Fo j t⟩
end
theorem s5{M:List (List Rat)}{n k:Nat}(hk:k<n):(dW M n).getD k []=M.map fun r=>r.getD k 0:=by
 unfold dW;exact getD_some (by rw[aO,List.getElem?_range hk];rfl)
theorem qv{M:List (List Rat)}{n k i:Nat}(hk:k<n):di (dW M n) k i=di M i k:=by
 rw[di,di,s5 hk];rcases aV i M.length with h|h
 ·have hr:=aB h;rw[getD_some (show (M.map fun r=>r.getD k 0)[i]? =some (M[i].getD k 0) by rw[aO,hr];rfl),getD_some hr]
 ·rw[Fl (by rw[aM];exact h),show M.getD i []=[] by rw[List.getD,List.getElem?_eq_none h];rfl];rfl
theorem gw(M:List (List Rat))(n:Nat):fk M.length (dW M n):=fun r hr=>by
 obtain⟨k,_,rfl⟩:=aU.1 hr;exact aM ..
theorem eM(M:List (List Rat))(n:Nat):(dW M n).length=n:=by simp[dW]
theorem B7{M:List (List Rat)}{n:Nat}(hM:fk n M):dW (dW M n) M.length=M:=by
 refine iF [] (eM _ _) fun i hi=>?_;rw[eM]at hi;have hr:=hM.getD hi;refine iF 0 (by rw[s5 hi,aM,eM,hr]) fun t ht=>?_;rw[s5 hi,aM,eM]at ht;have:=qv (M:=dW M n) (n:=M.length) (i:=t) hi;rw[qv ht]at this;exact this
abbrev kI(M:List (List Rat))(n:Nat):Nat:=(cJ M n).2.length
section
variable{M:List (List Rat)}{n:Nat}
theorem E2(hM:fk n M){G:Mx}{r:Nat}(h:∀j,j<M.length->du G r n (di M j)):kI M n<=r:=by
 obtain⟨r1,r2,r3,r4,r5⟩:=eC hM n (aG _);have hl:=eK M n;have hrk:kI M n=(cJ M n).2.length:=rfl;have hB:∀i,∃c:Nat->Rat,i<kI M n->∀t,t<n->di (cJ M n).1 i t=dU (fun k=>c k*G k t) r:=fun i=>by
  by_cases hi:i<kI M n
  ·obtain⟨c,hc⟩:=((jo hM n (aG _)).1 i (by omega)).trans h;exact⟨c,fun _=>hc⟩
  ·exact⟨fun _=>0,fun h=>absurd h hi⟩
 obtain⟨D,hD⟩:∃D:Nat->Nat->Rat,∀i,i<kI M n->∀t,t<n->di (cJ M n).1 i t=dU (fun k=>D i k*G k t) r:=⟨fun i=>(hB i).choose,fun i=>(hB i).choose_spec⟩
 refine Nat.le_of_not_lt fun hlt=>?_;obtain⟨T,hT⟩:∃T:List (List Rat),T=(List.range r).map fun k=>(List.range (kI M n)).map fun i=>D i k:=⟨_,rfl⟩
 have hTl:T.length=r:=by rw[hT];simp
 have hTn:fk (kI M n) T:=fun x hx=>by
  rw[hT]at hx;obtain⟨k,_,rfl⟩:=aU.1 hx;simp
 have hTat:∀k i,k<r->i<kI M n->di T k i=D i k:=fun k i hk hi=>by
  have h1:T[k]? =some ((List.range (kI M n)).map fun i=>D i k):=by rw[hT,aO,List.getElem?_range hk];rfl
  rw[di,getD_some h1];exact getD_some (by rw[aO,List.getElem?_range hi];rfl)
 obtain⟨-,t2,-⟩:=eC hTn (kI M n) (aG _);have hkl:=qt T (kI M n);rw[eK,hTl]at t2;have hc:=wi hTn;have hk0:0<(fq T (kI M n)).length:=by omega
 have hy:=Fj hTn hk0;have hall:∀i,i<kI M n->di (fq T (kI M n)) 0 i=0:=fun j hj=>by
  have hpj:(cJ M n).2.getD j 0<n:=r4 _ (by rw[List.getD,aB hj];exact bL _);have e1:dU (fun i=>di (fq T (kI M n)) 0 i*di (cJ M n).1 i ((cJ M n).2.getD j 0)) (kI M n)=0:=by
   rw[cM (g:=fun i=>dU (fun k=>di (fq T (kI M n)) 0 i*(D i k*G k ((cJ M n).2.getD j 0))) r) fun i hi=>by rw[hD i hi _ hpj,gK],wQ,cM (g:=fun _=>0) fun k hk=>?_,fJ];have h2:=hy k (by omega);unfold mulR at h2;rw[cM (g:=fun i=>(di T k i*di (fq T (kI M n)) 0 i)*G k ((cJ M n).2.getD j 0)) fun i hi=>by rw[hTat k i hk hi];grind,s0,h2,bS]
  rw[fW hj fun i hi hne=>by rw[r5 j i hj (by omega),aK hne,bU],r5 j j hj (by omega),if_pos rfl,Rat.mul_one]at e1;exact e1
 have h3:=HM (M:=T) (n:=kI M n) (c:=fun k=>if k=0 then 1 else 0) (fun t ht=>by
  rw[fW hk0 fun k _ hne=>by rw[aK hne,bS],if_pos rfl,bq]
  exact hall t ht) 0 hk0
 exact absurd h3 (by decide)
theorem ox(hM:fk n M):kI (dW M n) M.length<=kI M n:=by
 obtain⟨r1,r2,r3,r4,r5⟩:=eC hM n (aG _);have hl:=eK M n;have hrk:kI M n=(cJ M n).2.length:=rfl;have hrf:=wR hM;refine E2 (gw M n) (G:=fun i j=>di M j ((cJ M n).2.getD i 0)) fun t ht=>?_;rw[eM]at ht;refine⟨fun i=>di (cJ M n).1 i t,fun j hj=>?_⟩;rw[qv ht];have h1:du (di (cJ M n).1) (kI M n) n (di M j):=((jo hM n (aG _)).2 j hj).cut fun i t h1 h2 ht=>r3 i t h1 (by omega) ht;rw[hrf.coeff h1 t ht];exact cM fun i _=>Rat.mul_comm _ _
theorem Ca(hM:fk n M):kI (dW M n) M.length=kI M n:=by
 refine aP (ox hM) ?_;have h:=ox (gw M n);rw[eM,B7 hM]at h;exact h
end
section
variable{M:List (List Rat)}{n:Nat}{fl b:List Rat}
end
end Go.Ex
namespace Go.Ex
open Go Go.Sx Go.Proofs
section
variable{S S':Nat->Prop}{H:Hp}{nx:Nat}{iv iv':Iv}{B:Nat}{w w' w2:World}{ρ:Nat->Sx.dc}{v:Value}{M:List (List Int)}
theorem iK.rel(h:iK w (Cv S B iv) v M)(r:Rel H nx iv B w ρ w')(hS:∀g,S g->g<B):iK w' (Cv S B iv) v M:=iK.cD h fun _ hg=>Rel.same r hS hg
theorem iK.cB(h:iK w (Cv S B iv) v M)(r:Rel H nx iv B w ρ w')(hS:∀g,S g->g<B)(he:Ext w' w2)(hm:∀p,p∈iv->p∈iv'):iK w2 (Cv S B iv') v M:=
 iK.cG ((iK.rel h r hS).cD fun g hg=>he.block g (Rel.old r hS g hg)) fun _ hg=>hg.mono hm
theorem iK.cw(h:iK w2 (Nw (fun _=>False) w' w2) v M)(hB:B<=w'.heap.size)(hm:(w'.heap.size,w2.heap.size)∈iv):iK w2 (Cv S B iv) v M:=iK.cG h fun _ hg=>hg.cw hB hm
end
theorem DF(Z:List (List Int))(k:Nat):cU (Z.map fun l=>l.getD k 0)=(Z.map cU).map fun r=>r.getD k 0:=by
 rw[cU,List.map_map,List.map_map];refine List.map_congr_left fun l _=>?_;show((l.getD k 0:Int):Rat)=(cU l).getD k 0;rw[cU,List.getD,List.getD,aO]
 cases l[k]? <;>rfl
theorem CC(M:List (List Rat))(k:Nat):dW M k++[M.map fun r=>r.getD k 0]=dW M (k+1):=by
 rw[dW,dW,bH,List.map_append];rfl
set_option maxHeartbeats 1000000 in
theorem En{S:Nat->Prop}{w:World}{vn vb vs:Value}{f:fK}(hS:Old S w)(hf:dT w S vn vb vs f)(herr:df f=0):
  dh PG N.rI #[.agg #[vn,vb,vs]] w (dw w fun v' w2=>cI w2 (Nw (fun _=>False) w w2) v' (dW (dD f) f.cols)):=by
 have hw:cN w.heap.size w w:=cN.refl;have hv:=Fm herr;obtain⟨an,cn,ab,cb,aq,cq,rfl,rfl,rfl,hmn,hmb,hms⟩:=hf.shape;obtain⟨hn20,hb60,hs60⟩:=And.intro hv.n (And.intro hv.b hv.s);have hcols:f.cols=f.bars.length+f.cO.length:=rfl;have hZl:(fN f).length=3*f.nodes.length:=jL f _;refine ub (by simp) ?_;conv=>whnf
 refine bz (cE hw (Φ:=fun _ w' v w2=>iK w2 (Nw (fun _=>False) w' w2) v (fN f)∧Ar (fN f) 2000000) (fun ρ w' r=>o0 (S:=S) (fun g hg=>by have:=hS g hg;have:=r.bu;omega) (hf.cD fun g hg=>(hw.tr r.cC).block g (hS g hg)) herr) ?_);rintro ρ wa1 v1 wb1 iv1 r he hw h_ ⟨hn,hbd⟩;have hM:=iK.cw (S:=fun _=>False) hn r.bu (mN h_);clear r;clear hn;obtain⟨am,cm,rfl,-,hmm⟩:=cT.shape hM;obtain⟨Z,hZ⟩:∃Z,fN f=Z:=⟨_,rfl⟩
 have htab:dD f=Z.map cU:=by rw[dD,hZ]
 have hwid:∀l∈Z,l.length=f.cols:=by rw[<-hZ];exact iR f _
 rw[hZ]at hM hbd hZl hmm ⊢;conv=>whnf
 refine⟨Nat×List Value×World×Iv,fun z=>⟨[(1,.o (.p 0 0)),(3,.o (.v (.slice am Z.length cm))),(4,.o (.w 1 z.2.1.length)),(5,.o (.v (.int .i64 ((z.1:Nat):Int))))],[(1,.vec T.fz 1 z.2.1),(0,.box T.Frame [.v (.slice an f.nodes.length cn),.v (.slice ab f.bars.length cb),.v (.slice aq f.cO.length cq)])],2,z.2.2.2,z.2.2.1⟩,fun z=>f.cols-z.1,
  fun z=>z.1<=f.cols∧cN w.heap.size w z.2.2.1∧iK z.2.2.1 (Cv (fun _=>False) w.heap.size z.2.2.2) (.slice am Z.length cm) Z∧dK z.2.2.1 (Cv (fun _=>False) w.heap.size z.2.2.2) z.2.1 (dW (Z.map cU) z.1),?_,?_⟩
 ·intro ρ w' r;exact⟨(0,[],w',_),⟨aN _,hw.tr r.cC,iK.rel hM r (bs w),by simp[dK,dW]⟩,Sub.nil 4 T.fz 1 rfl (by simp[cV,SV.sc,At.sc,cQ]) r fun ρ1 r1=>Sub.gen [] r1 ⟨rfl,rfl,trivial⟩ ⟨rfl,rfl,rfl,rfl,trivial⟩ (by simp[dG,cW.scopd,At.sc]) (by simp[cV,SV.sc,At.sc,cQ]) (by rfl) (fun lo hi h=>h)⟩
 clear hw hM;rintro⟨k,rv,w1,iv⟩ ⟨hk,hw,hM,hK⟩;dsimp only at hk hw hM hK ⊢;have hrl:rv.length=k:=by rw[hK.1,gQ]
 conv=>whnf
 refine bz (cE hw (Φ:=fun _ w' v w2=>v= .int .i64 f.cols) (fun ρ w' r=>k8 (hf.cD fun g hg=>(hw.tr r.cC).block g (hS g hg)) ⟨hb60,hs60⟩) ?_);rintro ρ wa2 v2 wb2 iv2 r he hw h_ rfl;replace hM:=iK.cB hM r (bs w) he (mC h_);replace hK:=hK.cB r (bs w) he (mC h_);clear r;conv=>whnf
 refine dE.mk (fun hkb=>?_) (fun hkb=>?_)
 ·have hkb:k<f.cols:=by simpa using hkb
  conv=>whnf
  refine⟨Nat×List (List Value)×World×Iv,fun z=>⟨[(1,.o (.p 0 0)),(3,.o (.v (.slice am Z.length cm))),(4,.o (.w 1 rv.length)),(5,.o (.v (.int .i64 ((k:Nat):Int)))),(6,.o (.w 2 z.2.1.length)),(7,.o (.v (.int .i64 ((z.1:Nat):Int))))],[(2,.vec T.Rat 4 z.2.1.flatten),(1,.vec T.fz 1 rv),(0,.box T.Frame [.v (.slice an f.nodes.length cn),.v (.slice ab f.bars.length cb),.v (.slice aq f.cO.length cq)])],3,z.2.2.2,z.2.2.1⟩,fun z=>Z.length-z.1,
   fun z=>z.1<=Z.length∧cN w.heap.size w z.2.2.1∧iK z.2.2.1 (Cv (fun _=>False) w.heap.size z.2.2.2) (.slice am Z.length cm) Z∧dK z.2.2.1 (Cv (fun _=>False) w.heap.size z.2.2.2) rv (dW (Z.map cU) k)∧fD z.2.2.1 (Cv (fun _=>False) w.heap.size z.2.2.2) z.2.1 (cU ((Z.map fun l=>l.getD k 0).take z.1)),?_,?_⟩
  ·intro ρ w' r;exact⟨(0,[],w',_),⟨aN _,hw.tr r.cC,iK.rel hM r (bs w),hK.rel r (bs w),fD.nil⟩,Sub.nil 6 T.Rat 4 rfl (by simp[cV,SV.sc,At.sc,cQ]) r fun ρ1 r1=>Sub.gen [] r1 ⟨rfl,rfl,rfl,trivial⟩ ⟨rfl,rfl,rfl,rfl,rfl,rfl,trivial⟩ (by simp[dG,cW.scopd,At.sc]) (by simp[cV,SV.sc,At.sc,cQ]) (by rfl) (fun lo hi h=>h)⟩
  clear hw hM hK;rintro⟨i,css,w3,iv⟩ ⟨hi,hw,hM,hK,hG⟩;dsimp only at hi hw hM hK hG ⊢;have hfl:=eX hG.four;have hcl2:css.length=i:=by rw[hG.len,cU,aM,aX,aM];omega
  conv=>whnf
  refine dE.mk (fun hib=>?_) (fun hib=>?_)
  ·have hib:i<Z.length:=by simpa using hib
   obtain⟨l,hl⟩:∃x,Z[i]? =some x:=⟨_,aB hib⟩
   have hlw:=hwid l (aF hl);obtain⟨z,hz⟩:∃x,l[k]? =some x:=⟨_,aB (by omega)⟩
   have hzb:=hbd l (aF hl) z (aF hz);have hcol:(Z.map fun l=>l.getD k 0)[i]? =some z:=by rw[aO,hl];show some (l.getD k 0)=_;rw[List.getD,hz];rfl
   obtain⟨adm,um,ham,hRm,km1,km2⟩:=cT.load hM hl;obtain⟨al,cl,rfl,-,hml⟩:=hRm.shape;obtain⟨adx,hax,hSx,hlx⟩:=yM.at hRm hz;conv=>whnf
   refine⟨adm,ham,⟨by omega,by omega⟩,?_⟩;conv=>whnf
   refine⟨.slice al l.length cl,fun ρ w' r=>?_,?_⟩
   ·rw[aC,bw (w:=w3) (w2:=w') (by rw[cL];exact Rel.same r (bs w) km1)];exact km2
   conv=>whnf
   refine⟨adx,hax,⟨by omega,by omega⟩,?_⟩;conv=>whnf
   refine⟨.int .i64 z,fun ρ w' r=>?_,?_⟩
   ·rw[aC,bw (w:=w3) (w2:=w') (by rw[cL];exact Rel.same r (bs w) hSx)];exact hlx
   conv=>whnf
   clear hRm km1 km2 hSx hlx;refine bz (cE hw (Φ:=fun _ w' v w2=>cR w2 (Nw (fun _=>False) w' w2) v (z:Rat)) (fun ρ w' r=>jz z w' (by omega)) ?_);rintro ρ wa3 v3 wb3 iv3 r he hw h_ hn;replace hM:=iK.cB hM r (bs w) he (mC h_);replace hK:=hK.cB r (bs w) he (mC h_);replace hG:=hG.cB r (bs w) he (mC h_);have hd:=hn.cw (S:=fun _=>False) r.bu (mN h_);clear r;obtain⟨s3_0,s3_1,s3_2,s3_3,s3_4,s3_5,s3_6,s3_7,rfl⟩:=hd.shape;conv=>whnf
   have hG2:=hG.push (cs:=[.bool s3_0,.slice s3_1 s3_2 s3_3,.bool s3_4,.slice s3_5 s3_6 s3_7]) (q:=(z:Rat)) ⟨_,_,_,_,_,_,_,_,rfl,hd⟩ rfl;rw[<-sI hcol]at hG2;have hfl2:css.flatten++([.bool s3_0,.slice s3_1 s3_2 s3_3,.bool s3_4,.slice s3_5 s3_6 s3_7]:List Value)=(css++([[.bool s3_0,.slice s3_1 s3_2 s3_3,.bool s3_4,.slice s3_5 s3_6 s3_7]]:List (List Value))).flatten:=by simp
   refine .inl ?_;conv=>whnf
   refine⟨by omega,by omega,by unfold maxLen;omega,?_⟩;conv=>whnf
   refine⟨((i+1:Nat):Int),by rw[wrap64]<;>omega,?_⟩;conv=>whnf
   intro ρ3 w6 r3;exact⟨(i+1,css++[[.bool s3_0,.slice s3_1 s3_2 s3_3,.bool s3_4,.slice s3_5 s3_6 s3_7]],w6,_),⟨hib,hw.tr r3.cC,iK.rel hM r3 (bs w),hK.rel r3 (bs w),hG2.rel r3 (bs w)⟩,Sub.gen [(2,4)] r3 ⟨by dsimp only;rw[<-hfl2];rfl,rfl,rfl,trivial⟩ ⟨rfl,rfl,rfl,rfl,by dsimp only;rw[List.length_append,List.length_singleton];rfl,rfl,trivial⟩ (by simp[dG,cW.scopd,At.sc]) (by simp[cV,SV.sc,At.sc,cQ]) (by rfl) (fun lo hi h=>h),by dsimp only;omega⟩
  have hib:i=Z.length:=aP hi (by simpa using hib);have hwl:cU ((Z.map fun l=>l.getD k 0).take i)=(Z.map cU).map fun r=>r.getD k 0:=by rw[hib,<-aM (f:=fun l:List Int=>l.getD k 0),ai,DF]
  rw[hwl]at hG;conv=>whnf
  refine pV hτ (id3:=3) (id2:=2) (tH:=[(1,.vec T.fz 1 rv),(0,.box T.Frame [.v (.slice an f.nodes.length cn),.v (.slice ab f.bars.length cb),.v (.slice aq f.cO.length cq)])]) rfl rfl rfl rfl (by simp) (by first|exact⟨rfl,trivial⟩|exact⟨rfl,rfl,trivial⟩) rfl rfl (fun ρ w' r r2 hbx=>?_);have hrow:=fD.list ((hG.rel r (bs w)).cG fun g hg=>Cv.mono (iv':=((ρ 3).g,(ρ 3).g+1)::kG (ρ 2) iv) hg fun p hp=>aD _ (oQ p hp)) ((r.G2 (id:=2) (sz:=4) (m:=css.length) rfl hfl (by unfold maxLen;omega) (by decide) hG.one).cG fun g hg=>Cv.mono hg fun p hp=>aD _ hp);have hone:((At.w 2 css.length).den ρ).oneCell'=true:=At.Hx;have hlo3:=r.low 3 _ rfl (r.fits (id:=3) rfl).1;have hC3:Cv (fun _=>False) w.heap.size (((ρ 3).g,(ρ 3).g+1)::kG (ρ 2) iv) (ρ 3).g:=.inr ⟨hlo3.1,_,_,aJ,aG _,bY _⟩;have hmono:∀p,p∈iv->p∈((ρ 3).g,(ρ 3).g+1)::kG (ρ 2) iv:=fun p hp=>aD _ (oQ p hp);have hw2:=hw.tr r.cC;have hK1:=(hK.rel r (bs w)).cG fun g hg=>Cv.mono hg hmono;have hM1:=iK.cG (iK.rel hM r (bs w)) fun g hg=>Cv.mono hg hmono;clear r2 hlo3;generalize (At.w 2 css.length).den ρ=ur at*
  generalize (ρ 3).g=gy at*
  generalize (gy,gy+1)::kG (ρ 2) iv=iv2 at*
  conv=>whnf
  refine⟨[ur],rfl,by simpa using hone,fun ρ2 w2 r2 _=>⟨_,rfl,fun j u hu=>?_⟩,?_⟩
  ·have h5:=Rel.same r2 (fa _) hC3;rw[dM,cell_of (h5.trans hbx)];rcases j with _|j
   ·exact hu
   ·cases hu
  conv=>whnf
  refine⟨by simp,by omega,by unfold maxLen;omega,?_⟩;conv=>whnf
  have hK2:=hK1.push hone hrow;rw[CC]at hK2;refine⟨((k+1:Nat):Int),by rw[wrap64]<;>omega,?_⟩;conv=>whnf
  intro ρ3 w6 r3;exact⟨(k+1,rv++[ur],w6,_),⟨hkb,hw2.tr r3.cC,iK.rel hM1 r3 (bs w),hK2.rel r3 (bs w)⟩,Sub.gen [(1,4)] r3 ⟨rfl,rfl,trivial⟩ ⟨rfl,rfl,by dsimp only;rw[List.length_append,List.length_singleton];rfl,rfl,trivial⟩ (by simp[dG,cW.scopd,At.sc]) (by simp[cV,SV.sc,At.sc,cQ]) (by rfl) (fun lo hi h=>h),by dsimp only;omega⟩
 have hkb:k=f.cols:=aP hk (by simpa using hkb);rw[hkb]at hK;rw[htab];conv=>whnf
 intro ρe we re;refine⟨_,rfl,hw.tr re.cC,rv,?_,hK.1,fun i u x k1 k2=>cP.out (hK.2.2 i u x k1 k2) re (bs w)⟩;have h5:=re.gR (id:=1) (sz:=1) (m:=rv.length) rfl (by simp) (by unfold maxLen;omega) (by decide) hK.2.1;rw[show (dW (Z.map cU) f.cols).length=rv.length from hK.1.symm];exact h5.cG fun g hg=>.inr hg
end Go.Ex
namespace Go.Ex
open Go
theorem Cb:∀(N m:Nat) (g:Nat->Nat),(∀i,i<m->g i<N)->(∀i j,i<m->j<m->g i=g j->i=j)->m<=N
 |0,m,g,h1,_=>by
  rcases bE m with h|h
  ·omega
  ·exact absurd (h1 0 h) (Nat.not_lt_zero _)
 |N+1,m,g,h1,h2=>by
  by_cases h:∃i,i<m∧g i=N
  ·obtain⟨i0,hi,e⟩:=h
   have:=Cb N (m-1) (fun i=>if i<i0 then g i else g (i+1)) (fun i hi'=>by
    show(if i<i0 then g i else g (i+1))<N;split
    ·rename_i hlt;have:=h1 i (by omega);have:g i≠N:=fun e2=>by have:=h2 i i0 (by omega) hi (by rw[e2,e]);omega
     omega
    ·have:=h1 (i+1) (by omega);have:g (i+1)≠N:=fun e2=>by have:=h2 (i+1) i0 (by omega) hi (by rw[e2,e]);omega
     omega) (fun i j hi' hj' e2=>by
    have e3:(if i<i0 then g i else g (i+1))=(if j<i0 then g j else g (j+1)):=e2;split at e3<;>split at e3
    ·exact h2 _ _ (by omega) (by omega) e3
    ·have:=h2 _ _ (by omega) (by omega) e3;omega
    ·have:=h2 _ _ (by omega) (by omega) e3;omega
    ·have:=h2 _ _ (by omega) (by omega) e3;omega)
   omega
  ·exact Nat.le_succ_of_le (Cb N m g (fun i hi=>by
    have:=h1 i hi;have:g i≠N:=fun e=>h ⟨i,hi,e⟩
    omega) h2)
structure s6(f:fK):Prop extends FC f where
 n4:f.nodes.length<=4
 b6:f.bars.length<=6
variable{f:fK}
theorem s6.Jz(h:s6 f):f.cO.length<=12:=by
 have:=Cb (3*f.nodes.length) f.cO.length (fun i=>fw (f.cO.getD i (0,0,0))) (fun i hi=>by
  have e:f.cO.getD i (0,0,0)=f.cO[i]:=getD_some (aB hi);show fw (f.cO.getD i (0,0,0))<_;rw[e]
  exact(h.sup _ (bL hi)).1) (fun i j hi hj e=>by
  have e1:f.cO.getD i (0,0,0)=f.cO[i]:=getD_some (aB hi);have e2:f.cO.getD j (0,0,0)=f.cO[j]:=getD_some (aB hj);have e:fw (f.cO.getD i (0,0,0))=fw (f.cO.getD j (0,0,0)):=e;rw[e1,e2]at e
  exact h.one i j _ _ (aB hi) (aB hj) e)
 have:=h.n4;omega
theorem s6.I1(h:s6 f):f.cols<=18:=by
 have h1:=h.Jz;have h2:=h.b6;unfold fK.cols;omega
theorem s6.I2(h:s6 f):(dD f).length<=12:=by
 rw[jF];have:=h.n4;omega
theorem Ho:18*2000000<=wt 1:=by decide
theorem s6.size(h:s6 f):ln (fB 2000000 (dD f).length)<=13:=by
 have:=h.I2;have h2:=Hn (B:=2000000) (R:=18) (l:=1) (n:=(dD f).length) (by omega) Ho;omega
theorem s6.Fp(h:s6 f):ln (fB 2000000 (dW (dD f) f.cols).length)<=19:=by
 have:=h.I1;have h2:=Hn (B:=2000000) (R:=18) (l:=1) (n:=(dW (dD f) f.cols).length) (by rw[eM];omega) Ho;rw[eM]at h2 ⊢;omega
theorem s6.qw(h:s6 f):FB (dW (dD f) f.cols) (dD f).length 2000000:=fun j hj=>by
 rw[eM]at hj;exact⟨1,by decide,Ib.one (by decide),fun t _=>by rw[bq,qv hj];exact h.Fo t j⟩
theorem s6.ht{c:Nat}(h:s6 f)(hc:c<=f.cols):Ht (cJ (dD f) c).1 20:=fun r hr q hq=>by
 have:=pn (oV f) h.oX (by decide) hc r hr q hq;have:=h.size;omega
theorem s6.KA{c:Nat}(h:s6 f)(hc:c<=(dD f).length):Ht (cJ (dW (dD f) f.cols) c).1 20:=fun r hr q hq=>by
 have:=pn (gw _ _) h.qw (by decide) hc r hr q hq;have:=h.Fp;omega
end Go.Ex
namespace Go.Ex
open Go Go.Sx Go.Proofs
theorem xt{M:List (List Rat)}{n B h:Nat}(hM:fk n M)(hW:FB M n B)(hB:1<=B)(hh:ln (fB B M.length)+1<=h):qH M n h:=
 ⟨fun i hi r hr q hq=>by have:=Fe hM hW hB hi r hr q hq;omega,fun i hi k hk q hq=>by have:=Ff hM hW hB hi hk q hq;omega⟩
theorem xu{M:List (List Rat)}{n B h:Nat}(hM:fk n M)(hW:FB M n B)(hB:1<=B)(hh:ln (fB B M.length)+1<=h):Ht (cZ M n).1 h:=fun r hr q hq=>by
 rw[(pj hM hW).2]at hr;have:=pn hM hW hB (aG n) r (List.mem_of_mem_take hr) q hq;omega
theorem jW(M:List (List Rat))(n:Nat)(hM:fk n M):(cJ M n).2.length<=(cJ M n).1.length∧(cJ M n).2.length<=n:=by
 obtain⟨r1,r2,r3,r4,r5⟩:=eC hM n (aG _);have:=(ll M n).2.2;unfold cJ at*
 exact⟨r2,by omega⟩
theorem xw{S:Nat->Prop}{w:World}{vn vb vs:Value}{f:fK}(hS:Old S w)(hf:dT w S vn vb vs f)(hsm:df f=0->s6 f):
  dh PG N.nT #[.agg #[vn,vb,vs]] w (dw w fun v' w2=>(df f≠0∧v'= .tuple #[.slice none 0 0,.int .i64 (df f)])∨(df f=0∧∃vz,v'= .tuple #[vz,.int .i64 0]∧iK w2 (Nw (fun _=>False) w w2) vz (fN f))):=by
 have hw:cN w.heap.size w w:=cN.refl;obtain⟨an,cn,ab,cb,aq,cq,rfl,rfl,rfl,hmn,hmb,hms⟩:=hf.shape;have hcols:f.cols=f.bars.length+f.cO.length:=rfl;have htl:=gB f;obtain⟨e0,EE⟩:∃e,df f=e:=⟨_,rfl⟩
 refine rU (by simp) ?_;conv=>whnf
 refine bz (cE hw (Φ:=fun _ w' v w2=>v= .int .i64 e0) (fun ρ w' r=>(jV (fun g hg=>by have:=hS g hg;have:=r.bu;omega) (hf.cD fun g hg=>(hw.tr r.cC).block g (hS g hg))).mono fun _ _ ⟨v2,e1,e2,e3⟩=>⟨v2,e1,e2,by rw[e3,EE]⟩) ?_);rintro ρ wa1 v1 wb1 iv1 r he hw h_ rfl;clear r;conv=>whnf
 refine dE.mk (fun he=>?_) (fun he=>?_)
 ·have he:e0≠0:=by simpa using he
  conv=>whnf
  intro ρe we re;exact⟨_,rfl,hw.tr re.cC,.inl ⟨by rw[EE];exact he,by rw[EE];rfl⟩⟩
 have he:e0=0:=by simpa using he
 have herr:df f=0:=by rw[EE,he]
 have hfs:=hsm herr;have hok:=mD herr;clear EE he;conv=>whnf
 refine bz (cE hw (Φ:=fun _ w' v w2=>iK w2 (Nw (fun _=>False) w' w2) v (fN f)) (fun ρ w' r=>(zW (fun g hg=>by have:=hS g hg;have:=r.bu;omega) (hf.cD fun g hg=>(hw.tr r.cC).block g (hS g hg)) hok).mono fun _ _ ⟨v2,e1,e2,e3,_⟩=>⟨v2,e1,e2,e3⟩) ?_);rintro ρ wa2 v2 wb2 iv2 r he hw h_ hn;have hZ:=iK.cw (S:=fun _=>False) hn r.bu (mN h_);clear r he;clear hn;obtain⟨az,cz,rfl,-,-⟩:=cT.shape hZ;conv=>whnf
 intro ρe we re;exact⟨_,rfl,hw.tr re.cC,.inr ⟨herr,_,rfl,iK.cG (iK.rel hZ re (bs w)) fun g hg=>Cv.nw hg re⟩⟩
theorem z7{S:Nat->Prop}{w:World}{vn vb vs:Value}{f:fK}(hS:Old S w)(hf:dT w S vn vb vs f)(hsm:df f=0->s6 f):
  dh PG N.kl #[.agg #[vn,vb,vs]] w (dw w fun v' _=>(df f≠0∧v'= .tuple #[.agg #[.int .i64 0,.int .i64 0,.int .i64 0],.int .i64 (df f)])∨(df f=0∧v'= .tuple #[.agg #[.int .i64 (kI (dD f) f.cols),.int .i64 ((f.cols:Int)-kI (dD f) f.cols),.int .i64 ((3*f.nodes.length:Nat)-kI (dD f) f.cols)],.int .i64 0])):=by
 have hw:cN w.heap.size w w:=cN.refl;obtain⟨an,cn,ab,cb,aq,cq,rfl,rfl,rfl,hmn,hmb,hms⟩:=hf.shape;have hcols:f.cols=f.bars.length+f.cO.length:=rfl;have htl:=gB f;obtain⟨e0,EE⟩:∃e,df f=e:=⟨_,rfl⟩
 refine lN (by simp) ?_;conv=>whnf
 refine bz (cE hw (Φ:=fun _ w' v w2=>v= .int .i64 e0) (fun ρ w' r=>(jV (fun g hg=>by have:=hS g hg;have:=r.bu;omega) (hf.cD fun g hg=>(hw.tr r.cC).block g (hS g hg))).mono fun _ _ ⟨v2,e1,e2,e3⟩=>⟨v2,e1,e2,by rw[e3,EE]⟩) ?_);rintro ρ wa1 v1 wb1 iv1 r he hw h_ rfl;clear r;conv=>whnf
 refine dE.mk (fun he=>?_) (fun he=>?_)
 ·have he:e0≠0:=by simpa using he
  conv=>whnf
  intro ρe we re;exact⟨_,rfl,hw.tr re.cC,.inl ⟨by rw[EE];exact he,by rw[EE];rfl⟩⟩
 have he:e0=0:=by simpa using he
 have herr:df f=0:=by rw[EE,he]
 have hfs:=hsm herr;have hok:=mD herr;clear EE he;conv=>whnf
 refine bz (cE hw (Φ:=fun _ w' v w2=>(∃vr,v= .agg #[vr,.int .i64 f.cols]∧cI w2 (Nw (fun _=>False) w' w2) vr (dD f))∧fk f.cols (dD f)∧Ht (dD f) 2) (fun ρ w' r=>jI (S:=S) (fun g hg=>by have:=hS g hg;have:=r.bu;omega) (hf.cD fun g hg=>(hw.tr r.cC).block g (hS g hg)) hok) ?_);rintro ρ wa1 v1 wb1 ivt r he hw h_ ⟨⟨vr,rfl,k1⟩,hlen,hht⟩;have hM:=cI.cw (S:=fun _=>False) k1 r.bu (mN h_);clear r he;obtain⟨am,cm,rfl,hcm,hmm⟩:=cT.shape hM;have hc18:=hfs.I1;have hr12:=hfs.I2;conv=>whnf
 refine bz (cE hw (Φ:=fun _ w' v w2=>∃vr vp vf,v= .agg #[vr,.int .i64 f.cols,vp,vf]∧cI w2 (Nw (Cv (fun _=>False) w.heap.size ivt) w' w2) vr (cZ (dD f) f.cols).1) (fun ρ w' r=>(DH (C:=Cv (fun _=>False) w.heap.size ivt) (S:=Cv (fun _=>False) w.heap.size ivt) (h:=20) (Rel.old r (bs w)) (Rel.old r (bs w)) (cI.rel hM r (bs w)) hlen (by omega) (by omega) (xt hlen hfs.oX (by decide) (by have:=hfs.size;omega)) (by decide)).mono fun _ _ ⟨v2,e1,e2,vr,vp,vf,k1,k2,_,_⟩=>⟨v2,e1,e2,vr,vp,vf,k1,k2⟩) ?_);rintro ρ wa2 v2 wb2 iv2 r he hw h_ ⟨vr2,vp2,vf2,rfl,hn⟩;replace hM:=cI.cB hM r (bs w) he (mC h_);clear r he;obtain⟨ar,cr,rfl,-,-⟩:=cT.shape hn;have hrk:(cZ (dD f) f.cols).1.length=kI (dD f) f.cols:=by
  rw[(pj hlen hfs.oX).2,aX,Nat.min_eq_left (jW _ _ hlen).1]
 rw[hrk];have hle:kI (dD f) f.cols<=f.cols:=(jW _ _ hlen).2;obtain⟨nr,hnr⟩:∃nr,kI (dD f) f.cols=nr:=⟨_,rfl⟩
 rw[hnr]at hle ⊢;clear hn;conv=>whnf
 refine⟨(f.cols:Int)-nr,by rw[wrap64]<;>omega,?_⟩;conv=>whnf
 refine⟨((dD f).length:Int)-nr,by rw[wrap64]<;>omega,?_⟩;conv=>whnf
 intro ρe we re;exact⟨_,rfl,hw.tr re.cC,.inr ⟨herr,by rw[htl];rfl⟩⟩
theorem uI{S:Nat->Prop}{w:World}{vn vb vs:Value}{f:fK}(hS:Old S w)(hf:dT w S vn vb vs f)(hsm:df f=0->s6 f):
  dh PG N.lJ #[.agg #[vn,vb,vs]] w (dw w fun v' w2=>(df f≠0∧v'= .tuple #[.slice none 0 0,.int .i64 (df f)])∨(df f=0∧∃vz,v'= .tuple #[vz,.int .i64 0]∧cI w2 (Nw (fun _=>False) w w2) vz (fq (dD f) f.cols))):=by
 have hw:cN w.heap.size w w:=cN.refl;obtain⟨an,cn,ab,cb,aq,cq,rfl,rfl,rfl,hmn,hmb,hms⟩:=hf.shape;have hcols:f.cols=f.bars.length+f.cO.length:=rfl;have htl:=gB f;obtain⟨e0,EE⟩:∃e,df f=e:=⟨_,rfl⟩
 refine oe (by simp) ?_;conv=>whnf
 refine bz (cE hw (Φ:=fun _ w' v w2=>v= .int .i64 e0) (fun ρ w' r=>(jV (fun g hg=>by have:=hS g hg;have:=r.bu;omega) (hf.cD fun g hg=>(hw.tr r.cC).block g (hS g hg))).mono fun _ _ ⟨v2,e1,e2,e3⟩=>⟨v2,e1,e2,by rw[e3,EE]⟩) ?_);rintro ρ wa1 v1 wb1 iv1 r he hw h_ rfl;clear r;conv=>whnf
 refine dE.mk (fun he=>?_) (fun he=>?_)
 ·have he:e0≠0:=by simpa using he
  conv=>whnf
  intro ρe we re;exact⟨_,rfl,hw.tr re.cC,.inl ⟨by rw[EE];exact he,by rw[EE];rfl⟩⟩
 have he:e0=0:=by simpa using he
 have herr:df f=0:=by rw[EE,he]
 have hfs:=hsm herr;have hok:=mD herr;clear EE he;conv=>whnf
 refine bz (cE hw (Φ:=fun _ w' v w2=>(∃vr,v= .agg #[vr,.int .i64 f.cols]∧cI w2 (Nw (fun _=>False) w' w2) vr (dD f))∧fk f.cols (dD f)∧Ht (dD f) 2) (fun ρ w' r=>jI (S:=S) (fun g hg=>by have:=hS g hg;have:=r.bu;omega) (hf.cD fun g hg=>(hw.tr r.cC).block g (hS g hg)) hok) ?_);rintro ρ wa1 v1 wb1 ivt r he hw h_ ⟨⟨vr,rfl,k1⟩,hlen,hht⟩;have hM:=cI.cw (S:=fun _=>False) k1 r.bu (mN h_);clear r he;obtain⟨am,cm,rfl,hcm,hmm⟩:=cT.shape hM;have hc18:=hfs.I1;have hr12:=hfs.I2;conv=>whnf
 refine bz (cE hw (Φ:=fun _ w' v w2=>cI w2 (Nw (fun _=>False) w' w2) v (iN (dD f) f.cols)) (fun ρ w' r=>xq (C:=Cv (fun _=>False) w.heap.size ivt) (S:=Cv (fun _=>False) w.heap.size ivt) (h:=20) (Rel.old r (bs w)) (Rel.old r (bs w)) (cI.rel hM r (bs w)) hlen (by omega) (by omega) (xt hlen hfs.oX (by decide) (by have:=hfs.size;omega)) (xu hlen hfs.oX (by decide) (by have:=hfs.size;omega)) (by decide)) ?_);rintro ρ wa2 v2 wb2 iv2 r he hw h_ hn;clear hM;have hK:=cI.cw (S:=fun _=>False) hn r.bu (mN h_);clear r he;clear hn;rw[wg hlen hfs.oX]at hK;obtain⟨ak,ck,rfl,-,-⟩:=cT.shape hK;conv=>whnf
 intro ρe we re;exact⟨_,rfl,hw.tr re.cC,.inr ⟨herr,_,rfl,cI.cG (cI.rel hK re (bs w)) fun g hg=>Cv.nw hg re⟩⟩
theorem xx{S:Nat->Prop}{w:World}{vn vb vs:Value}{f:fK}(hS:Old S w)(hf:dT w S vn vb vs f)(hsm:df f=0->s6 f):
  dh PG N.me #[.agg #[vn,vb,vs]] w (dw w fun v' w2=>(df f≠0∧v'= .tuple #[.slice none 0 0,.int .i64 (df f)])∨(df f=0∧∃vz,v'= .tuple #[vz,.int .i64 0]∧cI w2 (Nw (fun _=>False) w w2) vz (fq (dW (dD f) f.cols) (dD f).length))):=by
 have hw:cN w.heap.size w w:=cN.refl;obtain⟨an,cn,ab,cb,aq,cq,rfl,rfl,rfl,hmn,hmb,hms⟩:=hf.shape;have hcols:f.cols=f.bars.length+f.cO.length:=rfl;have htl:=gB f;obtain⟨e0,EE⟩:∃e,df f=e:=⟨_,rfl⟩
 refine pt (by simp) ?_;conv=>whnf
 refine bz (cE hw (Φ:=fun _ w' v w2=>v= .int .i64 e0) (fun ρ w' r=>(jV (fun g hg=>by have:=hS g hg;have:=r.bu;omega) (hf.cD fun g hg=>(hw.tr r.cC).block g (hS g hg))).mono fun _ _ ⟨v2,e1,e2,e3⟩=>⟨v2,e1,e2,by rw[e3,EE]⟩) ?_);rintro ρ wa1 v1 wb1 iv1 r he hw h_ rfl;clear r;conv=>whnf
 refine dE.mk (fun he=>?_) (fun he=>?_)
 ·have he:e0≠0:=by simpa using he
  conv=>whnf
  intro ρe we re;exact⟨_,rfl,hw.tr re.cC,.inl ⟨by rw[EE];exact he,by rw[EE];rfl⟩⟩
 have he:e0=0:=by simpa using he
 have herr:df f=0:=by rw[EE,he]
 have hfs:=hsm herr;have hok:=mD herr;clear EE he;conv=>whnf
 refine bz (cE hw (Φ:=fun _ w' v w2=>(∃vr,v= .agg #[vr,.int .i64 f.cols]∧cI w2 (Nw (fun _=>False) w' w2) vr (dD f))∧fk f.cols (dD f)∧Ht (dD f) 2) (fun ρ w' r=>jI (S:=S) (fun g hg=>by have:=hS g hg;have:=r.bu;omega) (hf.cD fun g hg=>(hw.tr r.cC).block g (hS g hg)) hok) ?_);rintro ρ wa1 v1 wb1 ivt r he hw h_ ⟨⟨vr,rfl,k1⟩,hlen,hht⟩;have hM:=cI.cw (S:=fun _=>False) k1 r.bu (mN h_);clear r he;obtain⟨am,cm,rfl,hcm,hmm⟩:=cT.shape hM;have hc18:=hfs.I1;have hr12:=hfs.I2;conv=>whnf
 refine bz (cH (Φ:=fun _ w' v w2=>∃vr,v= .agg #[vr,.int .i64 (dD f).length]∧cI w2 (Nw (Cv (fun _=>False) w.heap.size ivt) w' w2) vr (dW (dD f) f.cols)) (fun ρ w' r=>pL (C:=Cv (fun _=>False) w.heap.size ivt) (S:=Cv (fun _=>False) w.heap.size ivt) (Rel.old r (bs w)) (Rel.old r (bs w)) (cI.rel hM r (bs w)) hlen (by omega) (by omega)) ?_);rintro ρ wa2 v2 wb2 r he hb ⟨vt,rfl,hn⟩;replace hw:=hw.tr hb;clear hM;have hT:=cI.old hn r.bu;clear r he hb;generalize (wa2.heap.size,wb2.heap.size)::ivt=iv2 at*
 clear hn;obtain⟨at_,ct,rfl,-,-⟩:=cT.shape hT;conv=>whnf
 refine bz (cE hw (Φ:=fun _ w' v w2=>cI w2 (Nw (fun _=>False) w' w2) v (iN (dW (dD f) f.cols) (dD f).length)) (fun ρ w' r=>xq (C:=Cv (fun _=>False) w.heap.size iv2) (S:=Cv (fun _=>False) w.heap.size iv2) (h:=20) (Rel.old r (bs w)) (Rel.old r (bs w)) (cI.rel hT r (bs w)) (gw (dD f) f.cols) (by simp only[gQ];omega) (by omega) (xt (gw (dD f) f.cols) hfs.qw (by decide) (by have:=hfs.Fp;omega)) (xu (gw (dD f) f.cols) hfs.qw (by decide) (by have:=hfs.Fp;omega)) (by decide)) ?_);rintro ρ wa3 v3 wb3 iv3 r he hw h_ hn;clear hT;have hK:=cI.cw (S:=fun _=>False) hn r.bu (mN h_);clear r he;clear hn;rw[wg (gw (dD f) f.cols) hfs.qw]at hK;obtain⟨ak,ck,rfl,-,-⟩:=cT.shape hK;conv=>whnf
 intro ρe we re;exact⟨_,rfl,hw.tr re.cC,.inr ⟨herr,_,rfl,cI.cG (cI.rel hK re (bs w)) fun g hg=>Cv.nw hg re⟩⟩
theorem Eo{α β:Type}(g:List α->List β)(hg:∀r,(g r).length=r.length):∀M:List (List α),fI (M.map g)=fI M
 |[]=>rfl
 |r::M=>hg r
theorem CD{M:List (List Rat)}{n:Nat}(hlen:fk n M)(hcol:0<M.length∨n=0):fI (M.map ia)=n:=by
 rw[Eo ia fun r=>z8 r]
 cases M with
 |nil=>
  rcases hcol with h|h
  ·exact absurd h (Nat.lt_irrefl 0)
  ·exact h.symm
 |cons r M=>exact hlen r aJ
section
variable{S:Nat->Prop}{w:World}{v u:Value}{M:List (List Rat)}{b:List Rat}{n h0:Nat}
theorem zc(hlen:fk n M)(hc:fI (M.map ia)=n):∀r∈M.map ia,r.length=fI (M.map ia):=fun r hr=>by
 obtain⟨x,hx,rfl⟩:=aU.1 hr;rw[hc,z8];exact hlen x hx
theorem Dq(hB:∀c,c<=n->Ht (cJ M c).1 h0):Ht M h0:=hB 0 (aN _)
theorem CE(h:cI w S v M)(hq:Ht M h0)(hh:3*h0<=90000):dm w S v (gM (M.map Ex.ia)):=by
 rw[xy];exact h.l fun r hr q hq2=>by have:=hq r hr q hq2;omega
theorem G3(hS:Old S w)(h:cI w S v M)(hlen:fk n M)(hcol:0<M.length∨n=0)(hR:M.length<=1000)(hn:n<=1000)(hB:∀c,c<=n->Ht (cJ M c).1 h0)(hh:3*h0<=90000):
  dh PG N.pq #[v] w (dw w fun v' _=>v'= .int .i64 (kI M n)):=by
 have hc:=CD hlen hcol;refine(G0 (h0:=h0) hS h.ia (CE h (Dq hB) hh) (zc hlen hc) (by rw[aM];exact hR) (by rw[hc];exact hn) (by rw[hc,xy];exact hB) hh).mono fun e w2 ⟨v2,e1,e2,e3⟩=>⟨v2,e1,e2,by rw[e3,xy,hc]⟩
theorem xz(hS:Old S w)(h:cI w S v M)(hlen:fk n M)(hcol:0<M.length∨n=0)(hR:M.length<=1000)(hn:n<=1000)(hB:∀c,c<=n->Ht (cJ M c).1 h0)(hh:3*h0<=90000):
  dh PG N.mE #[v] w (dw w fun v' w2=>cI w2 (Nw (fun _=>False) w w2) v' (fq M n)):=by
 have hc:=CD hlen hcol;refine(DE (h0:=h0) hS h.ia (CE h (Dq hB) hh) (zc hlen hc) (by rw[aM];exact hR) (by rw[hc];exact hn) (by rw[hc,xy];exact hB) hh).mono fun e w2 ⟨v2,e1,e2,e3⟩=>⟨v2,e1,e2,by rw[xy,hc]at e3;exact e3⟩
end
theorem G4(n:Nat):fq [] n=(List.range n).map fun c=>(List.replicate n (0:Rat)).set c 1:=by
 have h0:∀c,cJ [] c=(([],[]):List (List Rat)×List Nat):=fun c=>by
  induction c with
  |zero=>rfl
  |succ c ih=>
   have hl:=eK [] (c+1);have hp:=(jW [] (c+1) (fun r hr=>by cases hr)).1;rw[hl]at hp;generalize cJ [] (c+1)=s at*
   obtain⟨a,b⟩:=s;rw[List.eq_nil_of_length_eq_zero (show a.length=0 from hl),List.eq_nil_of_length_eq_zero (show b.length=0 by simpa using hp)]
 unfold fq;rw[h0 n];unfold db;rw[List.filter_eq_self.2 fun c _=>by simp];rfl
theorem Ep{n c:Nat}:((List.range (c+1)).map fun c=>(List.replicate n (0:Rat)).set c 1)=((List.range c).map fun c=>(List.replicate n (0:Rat)).set c 1)++[(List.replicate n (0:Rat)).set c 1]:=by rw[bH,List.map_append];rfl
theorem dQ.Jl{H:Hp}{nx:Nat}{iv:Iv}{w0 w1 w':World}{ρ:Nat->Sx.dc}{g:Nat}(hg:Cv (fun _=>False) w0.heap.size iv g)(r:Rel H nx iv w0.heap.size w1 ρ w'):Cv (fun _=>False) w0.heap.size [(w0.heap.size,w'.heap.size)] g:=by
 rcases hg with hg|⟨h1,lo,hi,h2,h3,h4⟩
 ·exact hg.elim
 ·exact .inr ⟨h1,_,_,bA.2 rfl,h1,by have:=r.oo lo hi h2;have:=r.size;omega⟩
theorem Er(n:Nat)(w:World)(h0:0<n)(hn:n<=1000):dh PG N.tn #[.int .i64 n] w (dw w fun v' w2=>dQ w2 (fun _=>False) w.heap.size [(w.heap.size,w2.heap.size)] v' n (List.replicate n 0)):=by
 have hw:cN w.heap.size w w:=cN.refl;refine xT (by simp) ?_;conv=>whnf
 refine⟨Nat×List (List Value)×World×Iv,fun z=>⟨[(0,.o (.v (.int .i64 (n:Int)))),(3,.o (.w 0 z.2.1.length)),(4,.o (.v (.int .i64 ((z.1:Nat):Int))))],[(0,.vec T.Rat 4 z.2.1.flatten)],1,z.2.2.2,z.2.2.1⟩,fun z=>n-z.1,
  fun z=>z.1<=n∧cN w.heap.size w z.2.2.1∧fD z.2.2.1 (Cv (fun _=>False) w.heap.size z.2.2.2) z.2.1 (List.replicate z.1 0),?_,?_⟩
 ·intro ρ w' r;exact⟨(0,[],w',[]),⟨aN _,hw.tr r.cC,fD.nil⟩,Sub.nil 3 T.Rat 4 rfl (by simp[cV,SV.sc,At.sc,cQ]) r fun ρ1 r1=>Sub.gen [] r1 ⟨rfl,trivial⟩ ⟨rfl,rfl,rfl,trivial⟩ (by simp[dG,cW.scopd,At.sc]) (by simp[cV,SV.sc,At.sc,cQ]) (by rfl) (fun lo hi h=>h)⟩
 clear hw;rintro⟨i,css,w1,iv⟩ ⟨hi,hw,hG⟩;dsimp only at hi hw hG ⊢;have hfl:=eX hG.four;have hcl2:css.length=i:=by rw[hG.len,bQ]
 conv=>whnf
 refine dE.mk (fun hib=>?_) (fun hib=>?_)
 ·have hib:i<n:=by simpa using hib
  conv=>whnf
  refine bz (cE hw (Φ:=fun _ w' v w2=>cR w2 (Nw (fun _=>False) w' w2) v (((0:Int)):Rat)) (fun ρ w' r=>jz 0 w' (by decide)) ?_);rintro ρ wa1 v1 wb1 iv1 r he hw h_ hn;replace hG:=hG.cB r (bs w) he (mC h_);have hd:=hn.cw (S:=fun _=>False) r.bu (mN h_);clear r hn;obtain⟨s1_0,s1_1,s1_2,s1_3,s1_4,s1_5,s1_6,s1_7,rfl⟩:=hd.shape;have hG2:=hG.push (cs:=[.bool s1_0,.slice s1_1 s1_2 s1_3,.bool s1_4,.slice s1_5 s1_6 s1_7]) (q:=((0:Int):Rat)) ⟨_,_,_,_,_,_,_,_,rfl,hd⟩ rfl;rw[show List.replicate i (0:Rat)++[((0:Int):Rat)]=List.replicate (i+1) 0 by rw[List.replicate_succ'];rfl]at hG2;have hfl2:css.flatten++([.bool s1_0,.slice s1_1 s1_2 s1_3,.bool s1_4,.slice s1_5 s1_6 s1_7]:List Value)=(css++([[.bool s1_0,.slice s1_1 s1_2 s1_3,.bool s1_4,.slice s1_5 s1_6 s1_7]]:List (List Value))).flatten:=by simp
  conv=>whnf
  refine .inl ?_;conv=>whnf
  refine⟨by omega,by omega,by unfold maxLen;omega,?_⟩;conv=>whnf
  refine⟨((i+1:Nat):Int),by rw[wrap64]<;>omega,?_⟩;conv=>whnf
  intro ρ3 w6 r3;exact⟨(i+1,css++[[.bool s1_0,.slice s1_1 s1_2 s1_3,.bool s1_4,.slice s1_5 s1_6 s1_7]],w6,_),⟨hib,hw.tr r3.cC,hG2.rel r3 (bs w)⟩,Sub.gen [(0,2)] r3 ⟨by dsimp only;rw[<-hfl2];rfl,trivial⟩ ⟨rfl,by dsimp only;rw[List.length_append,List.length_singleton];rfl,rfl,trivial⟩ (by simp[dG,cW.scopd,At.sc]) (by simp[cV,SV.sc,At.sc,cQ]) (by rfl) (fun lo hi h=>h),by dsimp only;omega⟩
 have hib:i=n:=aP hi (by simpa using hib);subst hib;conv=>whnf
 intro ρe we re;have hG2:=hG.rel re (bs w);have h1:=(HW (S:=Cv (fun _=>False) w.heap.size iv) (qs:=List.replicate i 0) re (id:=0) rfl hcl2 h0 (by unfold maxLen;omega) ⟨hG2.len,hG2.at_⟩).1
 obtain⟨-,h2,h3,h4⟩:=HW (S:=fun g=>Cv (fun _=>False) w.heap.size iv g∧(Value.slice (some ⟨(ρe 0).g,0,none⟩) i (ρe 0).cap).ownBlock≠some g) (qs:=List.replicate i 0) re (id:=0) rfl hcl2 h0 (by unfold maxLen;omega) ⟨hG2.len,fun j cs q k1 k2=>by
  obtain⟨b,a,n,c,b2,a2,n2,c2,e,hr⟩:=hG2.at_ j cs q k1 k2
  exact⟨b,a,n,c,b2,a2,n2,c2,e,hr.cG fun g hg=>⟨hg,fun e=>Rel.not re (bs w) hg 0 _ rfl h1 (by injection e)⟩⟩⟩
 refine⟨.slice (some ⟨(ρe 0).g,0,none⟩) i (ρe 0).cap,?_,hw.tr re.cC,?_⟩
 ·simp[kf,SV.den,At.den,h1,hcl2]
 ·refine⟨h4.cG fun g hg=>⟨?_,hg.2⟩,fun g hg=>?_⟩
  ·exact(dQ.Jl hg.1 re)
  ·injection hg with hg;have hg:(ρe 0).g=g:=hg;subst hg;exact .inr ⟨h2,_,_,bA.2 rfl,h2,(re.low 0 _ rfl h1).2⟩
theorem s6.Jt{f:fK}(h:s6 f):0<3*f.nodes.length∨f.cols=0:=by
 rcases bE f.nodes.length with h0|h0
 ·right;have h1:f.bars=[]:=List.eq_nil_iff_forall_not_mem.2 fun b hb=>by
   obtain⟨ka,kb,_,_,h3,_⟩:=h.IX b hb;omega
  have h2:f.cO=[]:=List.eq_nil_iff_forall_not_mem.2 fun s hs=>by
   have:=(h.sup s hs).1;omega
  unfold fK.cols;rw[h1,h2];rfl
 ·left;omega
theorem G5{S:Nat->Prop}{w:World}{vn vb vs:Value}{f:fK}(hS:Old S w)(hf:dT w S vn vb vs f)(herr:df f=0)(hfs:s6 f):
  dh PG N.tj #[.agg #[vn,vb,vs]] w (dw w fun v' _=>v'= .agg #[.int .i64 (kI (dD f) f.cols),.int .i64 ((f.cols:Int)-kI (dD f) f.cols),.int .i64 ((3*f.nodes.length:Nat)-kI (dD f) f.cols)]):=by
 have hw:cN w.heap.size w w:=cN.refl;obtain⟨an,cn,ab,cb,aq,cq,rfl,rfl,rfl,hmn,hmb,hms⟩:=hf.shape;have hcols:f.cols=f.bars.length+f.cO.length:=rfl;have htl:=jF f;have hc18:=hfs.I1;have hr12:=hfs.I2;have hlen:=oV f;refine xQ (by simp) ?_;conv=>whnf
 refine bz (cE hw (Φ:=fun _ w' v w2=>iK w2 (Nw (fun _=>False) w' w2) v (fN f)∧Ar (fN f) 2000000) (fun ρ w' r=>o0 (fun g hg=>by have:=hS g hg;have:=r.bu;omega) (hf.cD fun g hg=>(hw.tr r.cC).block g (hS g hg)) herr) ?_);rintro ρ wa1 v1 wb1 iv1 r he hw h_ ⟨hn,hzb⟩;have hZ:=iK.cw (S:=fun _=>False) hn r.bu (mN h_);clear r;clear hn;obtain⟨az,cz,rfl,-,-⟩:=cT.shape hZ;conv=>whnf
 refine bz (cE hw (Φ:=fun _ w' v w2=>cI w2 (Nw (fun _=>False) w' w2) v (dD f)) (fun ρ w' r=>Dp (Rel.old r (bs w)) (iK.rel hZ r (bs w)) (by rw[<-aM (f:=cU)];exact bB hr12 (by decide)) (fun l hl=>by rw[iR f _ l hl];omega) (fun l hl z hz=>by have:=hzb l hl z hz;omega)) ?_);rintro ρ wa2 v2 wb2 iv2 r he hw h_ hn;clear hZ;have hM:=cI.cw (S:=fun _=>False) hn r.bu (mN h_);clear r;clear hn;obtain⟨am,cm,rfl,-,-⟩:=cT.shape hM;conv=>whnf
 refine bz (cE hw (Φ:=fun _ w' v w2=>v= .int .i64 (kI (dD f) f.cols)) (fun ρ w' r=>G3 (h0:=20) (Rel.old r (bs w)) (cI.rel hM r (bs w)) hlen (by rw[htl];exact hfs.Jt) (by omega) (by omega) (fun c hc=>hfs.ht hc) (by decide)) ?_);rintro ρ wa3 v3 wb3 iv3 r he hw h_ rfl;clear hM;clear r;have hle:kI (dD f) f.cols<=f.cols:=(jW _ _ hlen).2;obtain⟨nr,hnr⟩:∃nr,kI (dD f) f.cols=nr:=⟨_,rfl⟩
 rw[hnr]at hle ⊢;conv=>whnf
 refine cF hτ dV [.x 0,.x 1,.x 3,.x 5,.x 6,.x 7,.x 8,.x 9,.x 10,.x 2,.x 4,.x 11,.x 12] (by kernel_rfl) (by kernel_rfl) ?_;conv=>whnf
 refine⟨((3*f.nodes.length:Nat):Int),by have:=hfs.n4;rw[wrap64]<;>omega,?_⟩;conv=>whnf
 refine⟨((3*f.nodes.length:Nat):Int)-nr,by have:=hfs.n4;rw[wrap64]<;>omega,?_⟩;conv=>whnf
 refine cE hw (Φ:=fun _ w' v w2=>v= .int .i64 f.cols) (fun ρ w' r=>k8 (hf.cD fun g hg=>(hw.tr r.cC).block g (hS g hg)) ⟨hfs.b,hfs.s⟩) ?_;rintro ρ wa4 v4 wb4 iv4 r he hw h_ rfl;clear r;conv=>whnf
 refine⟨(f.cols:Int)-nr,by rw[wrap64]<;>omega,?_⟩;conv=>whnf
 intro ρe we re;exact⟨_,rfl,hw.tr re.cC,rfl⟩
theorem CF{S:Nat->Prop}{w:World}{vn vb vs:Value}{f:fK}(hS:Old S w)(hf:dT w S vn vb vs f)(herr:df f=0)(hfs:s6 f):
  dh PG N.nR #[.agg #[vn,vb,vs]] w (dw w fun v' w2=>cI w2 (Nw (fun _=>False) w w2) v' (fq (dD f) f.cols)):=by
 have hw:cN w.heap.size w w:=cN.refl;obtain⟨an,cn,ab,cb,aq,cq,rfl,rfl,rfl,hmn,hmb,hms⟩:=hf.shape;have hcols:f.cols=f.bars.length+f.cO.length:=rfl;have htl:=jF f;have hc18:=hfs.I1;have hr12:=hfs.I2;have hlen:=oV f;refine rT (by simp) ?_;conv=>whnf
 refine bz (cE hw (Φ:=fun _ w' v w2=>iK w2 (Nw (fun _=>False) w' w2) v (fN f)∧Ar (fN f) 2000000) (fun ρ w' r=>o0 (fun g hg=>by have:=hS g hg;have:=r.bu;omega) (hf.cD fun g hg=>(hw.tr r.cC).block g (hS g hg)) herr) ?_);rintro ρ wa1 v1 wb1 iv1 r he hw h_ ⟨hn,hzb⟩;have hZ:=iK.cw (S:=fun _=>False) hn r.bu (mN h_);clear r;clear hn;obtain⟨az,cz,rfl,-,-⟩:=cT.shape hZ;conv=>whnf
 refine bz (cE hw (Φ:=fun _ w' v w2=>cI w2 (Nw (fun _=>False) w' w2) v (dD f)) (fun ρ w' r=>Dp (Rel.old r (bs w)) (iK.rel hZ r (bs w)) (by rw[<-aM (f:=cU)];exact bB hr12 (by decide)) (fun l hl=>by rw[iR f _ l hl];omega) (fun l hl z hz=>by have:=hzb l hl z hz;omega)) ?_);rintro ρ wa2 v2 wb2 iv2 r he hw h_ hn;clear hZ;have hM:=cI.cw (S:=fun _=>False) hn r.bu (mN h_);clear r;clear hn;obtain⟨am,cm,rfl,-,-⟩:=cT.shape hM;conv=>whnf
 refine bz (cE hw (Φ:=fun _ w' v w2=>cI w2 (Nw (fun _=>False) w' w2) v (fq (dD f) f.cols)) (fun ρ w' r=>xz (h0:=20) (Rel.old r (bs w)) (cI.rel hM r (bs w)) hlen (by rw[htl];exact hfs.Jt) (by omega) (by omega) (fun c hc=>hfs.ht hc) (by decide)) ?_);rintro ρ wa3 v3 wb3 iv3 r he hw h_ hn;clear hM;have hK:=cI.cw (S:=fun _=>False) hn r.bu (mN h_);clear r;clear hn;obtain⟨ak,ck,rfl,-,-⟩:=cT.shape hK;conv=>whnf
 intro ρe we re;exact⟨_,rfl,hw.tr re.cC,cI.cG (cI.rel hK re (bs w)) fun g hg=>Cv.nw hg re⟩
set_option maxHeartbeats 1000000 in
theorem DJ{S:Nat->Prop}{w:World}{vn vb vs:Value}{f:fK}(hS:Old S w)(hf:dT w S vn vb vs f)(herr:df f=0)(hfs:s6 f):
  dh PG N.oz #[.agg #[vn,vb,vs]] w (dw w fun v' w2=>cI w2 (Nw (fun _=>False) w w2) v' (fq (dW (dD f) f.cols) (dD f).length)):=by
 have hw:cN w.heap.size w w:=cN.refl;obtain⟨an,cn,ab,cb,aq,cq,rfl,rfl,rfl,hmn,hmb,hms⟩:=hf.shape;have hcols:f.cols=f.bars.length+f.cO.length:=rfl;have htl:=jF f;have hc18:=hfs.I1;have hr12:=hfs.I2;have hlen:=oV f;refine sk (by simp) ?_;conv=>whnf
 refine bz (cE hw (Φ:=fun _ w' v w2=>v= .int .i64 f.cols) (fun ρ w' r=>k8 (hf.cD fun g hg=>(hw.tr r.cC).block g (hS g hg)) ⟨hfs.b,hfs.s⟩) ?_);rintro ρ wa1 v1 wb1 iv1 r he hw h_ rfl;clear r;conv=>whnf
 refine dE.mk (fun hc0=>?_) (fun hc0=>?_)
 ·have hc0:0<f.cols:=by have:=aI hc0;omega
  conv=>whnf
  refine bz (cE hw (Φ:=fun _ w' v w2=>cI w2 (Nw (fun _=>False) w' w2) v (dW (dD f) f.cols)) (fun ρ w' r=>En (fun g hg=>by have:=hS g hg;have:=r.bu;omega) (hf.cD fun g hg=>(hw.tr r.cC).block g (hS g hg)) herr) ?_);rintro ρ wa2 v2 wb2 iv2 r he hw h_ hn;have hM:=cI.cw (S:=fun _=>False) hn r.bu (mN h_);clear r;clear hn;obtain⟨am,cm,rfl,-,-⟩:=cT.shape hM;conv=>whnf
  refine bz (cE hw (Φ:=fun _ w' v w2=>cI w2 (Nw (fun _=>False) w' w2) v (fq (dW (dD f) f.cols) (dD f).length)) (fun ρ w' r=>xz (h0:=20) (Rel.old r (bs w)) (cI.rel hM r (bs w)) (gw _ _) (.inl (by rw[eM];exact hc0)) (by rw[eM];omega) (by omega) (fun c hc=>hfs.KA hc) (by decide)) ?_);rintro ρ wa3 v3 wb3 iv3 r he hw h_ hn;clear hM;have hK:=cI.cw (S:=fun _=>False) hn r.bu (mN h_);clear r;clear hn;obtain⟨ak,ck,rfl,-,-⟩:=cT.shape hK;conv=>whnf
  intro ρe we re;exact⟨_,rfl,hw.tr re.cC,cI.cG (cI.rel hK re (bs w)) fun g hg=>Cv.nw hg re⟩
 have hc0:f.cols=0:=by have:=aH hc0;omega
 have htr:dW (dD f) f.cols=[]:=List.eq_nil_of_length_eq_zero (by rw[eM,hc0]);rw[htr,G4,htl];have hn4:=hfs.n4;conv=>whnf
 refine⟨Nat×List Value×World×Iv,fun z=>⟨[(1,.o (.p 0 0)),(3,.o (.w 1 z.2.1.length)),(4,.o (.v (.int .i64 ((z.1:Nat):Int))))],[(1,.vec T.fz 1 z.2.1),(0,.box T.Frame [.v (.slice an f.nodes.length cn),.v (.slice ab f.bars.length cb),.v (.slice aq f.cO.length cq)])],2,z.2.2.2,z.2.2.1⟩,fun z=>3*f.nodes.length-z.1,
  fun z=>z.1<=3*f.nodes.length∧cN w.heap.size w z.2.2.1∧dK z.2.2.1 (Cv (fun _=>False) w.heap.size z.2.2.2) z.2.1 ((List.range z.1).map fun c=>(List.replicate (3*f.nodes.length) (0:Rat)).set c 1),?_,?_⟩
 ·intro ρ w' r;exact⟨(0,[],w',_),⟨aN _,hw.tr r.cC,by simp[dK]⟩,Sub.nil 3 T.fz 1 rfl (by simp[cV,SV.sc,At.sc,cQ]) r fun ρ1 r1=>Sub.gen [] r1 ⟨rfl,rfl,trivial⟩ ⟨rfl,rfl,rfl,trivial⟩ (by simp[dG,cW.scopd,At.sc]) (by simp[cV,SV.sc,At.sc,cQ]) (by rfl) (fun lo hi h=>h)⟩
 clear hw;rintro⟨i,rv,w1,iv⟩ ⟨hi,hw,hK⟩;dsimp only at hi hw hK ⊢;have hrl:rv.length=i:=by rw[hK.1,aM,List.length_range]
 conv=>whnf
 refine⟨((3*f.nodes.length:Nat):Int),by rw[wrap64]<;>omega,?_⟩;conv=>whnf
 refine dE.mk (fun hib=>?_) (fun hib=>?_)
 ·have hib:i<3*f.nodes.length:=by have:=aI hib;omega
  conv=>whnf
  refine⟨((3*f.nodes.length:Nat):Int),by rw[wrap64]<;>omega,?_⟩;conv=>whnf
  refine bz (cH (Φ:=fun _ w' v w2=>dQ w2 (fun _=>False) w'.heap.size [(w'.heap.size,w2.heap.size)] v (3*f.nodes.length) (List.replicate (3*f.nodes.length) 0)) (fun ρ w' r=>Er (3*f.nodes.length) w' (by omega) (by omega)) ?_);rintro ρ wa2 v2 wb2 r he hb1 hn2;replace hw:=hw.tr hb1;replace hK:=dK.cG (S':=Bs (fun _=>False) w.heap.size ((wa2.heap.size,wb2.heap.size)::iv) v2) (dK.cD (dK.rel hK r (bs w)) fun g hg=>he.block g (Rel.old r (bs w) g hg)) fun g hg=>Bs.of r (bs w) (fun x hx=>aD _ hx) hn2 hg;have hX:=hn2.cw (S:=fun _=>False) r.bu (iv:=(wa2.heap.size,wb2.heap.size)::iv) aJ;clear r he hb1 hn2;generalize (wa2.heap.size,wb2.heap.size)::iv=iv2 at*
  obtain⟨ax,cx,rfl,hcx⟩:=hX.row.form;obtain⟨gx,rfl⟩:=hX.at (by omega);conv=>whnf
  refine bz (cH (Φ:=fun _ w' v w2=>cR w2 (Nw (fun _=>False) w' w2) v ((1:Int):Rat)) (fun ρ w' r=>jz 1 w' (by decide)) ?_);rintro ρ wa3 v3 wb3 r he hb1 hn2;replace hw:=hw.tr hb1;replace hK:=dK.cG (S':=Bs (fun _=>False) w.heap.size ((wa3.heap.size,wb3.heap.size)::iv2) (.slice (some ⟨gx,0,none⟩) (3*f.nodes.length) cx)) (dK.cD (dK.cD hK (Bs.same r (bs w))) fun g hg=>he.block g (Rel.old r (bs w) g hg.1)) fun g hg=>Bs.mono (fun x hx=>aD _ hx) hg;have hd:=(hn2.cG (S':=Bs (fun _=>False) w.heap.size ((wa3.heap.size,wb3.heap.size)::iv2) (.slice (some ⟨gx,0,none⟩) (3*f.nodes.length) cx)) fun g hg=>hg.elim (fun h=>h.elim) fun h=>⟨.inr ⟨by have:=r.bu;omega,_,_,aJ,h.1,h.2⟩,fun e=>by have:=Rel.old r (bs w) g (hX.new g e);omega⟩)
  replace hX:=hX.cB (iv':=(wa3.heap.size,wb3.heap.size)::iv2) r (bs w) he fun x hx=>aD _ hx;clear r he hb1 hn2;generalize (wa3.heap.size,wb3.heap.size)::iv2=iv3 at*
  obtain⟨s3_0,s3_1,s3_2,s3_3,s3_4,s3_5,s3_6,s3_7,rfl⟩:=hd.shape;conv=>whnf
  refine⟨⟨gx,0,none⟩,rfl,⟨by omega,by omega⟩,?_⟩;conv=>whnf
  intro ρ w' r;obtain⟨g,hg,h1,h2,h3,h4,h5⟩:=(hX.rel r (bs w)).store (j:=i) hib (hd.cD (Bs.same r (bs w))) r (bs w);injection hg with hg;injection hg with hg;subst hg;refine⟨h1,h2,h3,fun w5 hw5=>?_⟩;obtain⟨k1,k2,k3⟩:=h5 w5 hw5;have hw2:cN w.heap.size w w5:=(hw.tr r.cC).tr (cN.grown k2 (fun g e=>by injection e with e;subst e;exact h4.elim (fun h=>h.elim) fun h=>h.1) r.bu);have hK2:=dK.cD hK (Bs.kept r (bs w) k2 fun g e=>e);have hK3:=(dK.cG hK2 fun g hg=>hg.1).push (u:=(.slice (some ⟨gx,0,none⟩) (3*f.nodes.length) cx)) (x:=(List.replicate (3*f.nodes.length) (0:Rat)).set i 1) rfl (by have:=k1.c;exact this);rw[<-Ep]at hK3;clear hX hK hw h1 h2 h3 h4 h5 hw5 k1 k2 k3 r hd hK2;conv=>whnf
  refine .inl ?_;conv=>whnf
  refine⟨by simp,by omega,by unfold maxLen;omega,?_⟩;conv=>whnf
  refine⟨((i+1:Nat):Int),by rw[wrap64]<;>omega,?_⟩;conv=>whnf
  intro ρ3 w6 r3;exact⟨(i+1,rv++[(.slice (some ⟨gx,0,none⟩) (3*f.nodes.length) cx)],w6,_),⟨hib,hw2.tr r3.cC,hK3.rel r3 (bs w)⟩,Sub.gen [(1,3)] r3 ⟨rfl,rfl,trivial⟩ ⟨rfl,by dsimp only;rw[List.length_append,List.length_singleton];rfl,rfl,trivial⟩ (by simp[dG,cW.scopd,At.sc]) (by simp[cV,SV.sc,At.sc,cQ]) (by rfl) (fun lo hi h=>h),by dsimp only;omega⟩
 have hib:i=3*f.nodes.length:=by have:=aH hib;omega
 subst hib;conv=>whnf
 intro ρe we re;refine⟨_,rfl,hw.tr re.cC,rv,?_,hK.1,fun i u x k1 k2=>cP.out (hK.2.2 i u x k1 k2) re (bs w)⟩;have h5:=re.gR (id:=1) (sz:=1) (m:=rv.length) rfl (by simp) (by unfold maxLen;omega) (by decide) hK.2.1;rw[<-hK.1];exact h5.cG fun g hg=>.inr hg
theorem Iq{S:Nat->Prop}{w:World}{vl:Value}{l:List Ld}(hl:ix w S vl l):dh PG N.zJ #[vl] w (dw w fun v' _=>∃d,v'= .bool d):=by
 have hw:cN w.heap.size w w:=cN.refl;obtain⟨al,cl,rfl,-,hml⟩:=hl.shape;refine AN (by simp) ?_;conv=>whnf
 refine dE.mk (fun h1=>?_) (fun h1=>?_)
 ·conv=>whnf
  intro ρe we re;exact⟨_,rfl,hw.tr re.cC,_,rfl⟩
 conv=>whnf
 refine dE.mk (fun h1=>?_) (fun h1=>?_)
 ·conv=>whnf
  intro ρe we re;exact⟨_,rfl,hw.tr re.cC,_,rfl⟩
 conv=>whnf
 intro ρe we re;exact⟨_,rfl,hw.tr re.cC,_,rfl⟩
theorem yf{S:Nat->Prop}{w:World}{vn vb vs vl:Value}{f:fK}{l:List Ld}(hS:Old S w)(hf:dT w S vn vb vs f)(hl:ix w S vl l):dh PG N.lI #[.agg #[vn,vb,vs],vl] w (dw w fun v' _=>v'= .int .i64 (sA f.nodes.length l)):=by
 have hw:cN w.heap.size w w:=cN.refl;obtain⟨an,cn,ab,cb,aq,cq,rfl,rfl,rfl,hmn,hmb,hms⟩:=hf.shape;obtain⟨al,cl,rfl,hcl,hml⟩:=hl.shape;unfold maxLen at hml;refine od (by simp) ?_;conv=>whnf
 refine dE.mk (fun h1=>?_) (fun h1=>?_)
 ·have h1:=aI h1;conv=>whnf
  intro ρe we re;exact⟨_,rfl,hw.tr re.cC,by show Value.int .i64 _=_;rw[sA,if_pos (by omega)]⟩
 have h1:=aH h1;conv=>whnf
 refine⟨Nat×World×Iv,fun z=>⟨[(1,.o (.v (.slice al l.length cl))),(2,.o (.p 0 0)),(5,.o (.v (.int .i64 ((z.1:Nat):Int))))],[(0,.box T.Frame [.v (.slice an f.nodes.length cn),.v (.slice ab f.bars.length cb),.v (.slice aq f.cO.length cq)])],1,z.2.2,z.2.1⟩,fun z=>l.length-z.1,
  fun z=>z.1<=l.length∧cN w.heap.size w z.2.1∧sA f.nodes.length l=eL (fun _=>iZ f.nodes.length) (l.take z.1) (l.drop z.1),?_,?_⟩
 ·intro ρ w' r3;exact⟨(0,w',[]),⟨aN _,hw.tr r3.cC,by rw[sA,aK (by omega)];rfl⟩,Sub.gen [] r3 ⟨rfl,trivial⟩ ⟨rfl,rfl,rfl,trivial⟩ (by simp[dG,cW.scopd,At.sc]) (by simp[cV,SV.sc,At.sc,cQ]) (by rfl) (fun lo hi h=>h)⟩
 clear hw;rintro⟨i,w1,iv⟩ ⟨hi,hw,hE⟩;dsimp only at hi hw hE ⊢;conv=>whnf
 refine dE.mk (fun hib=>?_) (fun hib=>?_)
 ·have hib:i<l.length:=by simpa using hib
  obtain⟨x,hx⟩:∃x,l[i]? =some x:=⟨_,aB hib⟩
  obtain⟨adx,cs,hax,hP,-,hlx⟩:=hl.load (by decide) hx;have hP:cs=[.int .i64 x.1,.int .i64 x.2.1,.int .i64 x.2.2.1,.int .i64 x.2.2.2]:=hP;subst hP;conv=>whnf
  refine cF hτ dV [.x 0,.x 1,.x 2,.x 3,.x 4,.x 5,.x 6,.x 7] (by kernel_rfl) (by kernel_rfl) ?_;conv=>whnf
  refine⟨adx,hax,⟨by omega,by omega⟩,?_⟩;conv=>whnf
  refine⟨.int .i64 x.1,fun ρ w' r=>?_,?_⟩
  ·obtain⟨k1,k2⟩:=hlx 0 _ rfl;rw[bw (w:=w) (w2:=w') (by simp only[cL];exact(hw.tr r.cC).block _ (hS _ k1))];simp only[aC,kr]at k2 ⊢;exact k2
  conv=>whnf
  refine cE hw (Φ:=fun _ w' v w2=>∃d,v= .bool d∧(d=true↔iC f.nodes.length x.1)) (fun ρ w' r=>oZ _ _ _ _ _ _ _ _ _ _ w') ?_;rintro ρ wa1 v1 wb1 iv1 r he hw h_ ⟨d,rfl,hd⟩;clear r
  cases d
  ·have hc:iZ f.nodes.length x=6:=by
    unfold iZ;rw[aK fun h=>by have:=hd.2 h;cases this]
   conv=>whnf
   intro ρe we re;exact⟨_,rfl,hw.tr re.cC,by show Value.int .i64 _=_;rw[hE,cK hx hc (by decide)]⟩
  have hd:=hd.1 rfl;conv=>whnf
  refine⟨adx,hax,⟨by omega,by omega⟩,?_⟩;conv=>whnf
  refine⟨[.int .i64 x.1,.int .i64 x.2.1,.int .i64 x.2.2.1,.int .i64 x.2.2.2],rfl,fun ρ w' r j u hu=>?_,?_⟩
  ·obtain⟨k1,k2⟩:=hlx j u hu;rw[aC,bw (w:=w) (w2:=w') (by rw[cL,cL];exact(hw.tr r.cC).block _ (hS _ k1))];exact k2
  conv=>whnf
  refine bz (cE hw (Φ:=fun _ w' v w2=>∃d,v= .bool d∧(d=true↔HI x.2)) (fun ρ w' r=>Ek x w') ?_);rintro ρ wa2 v2 wb2 iv2 r he hw h_ ⟨d2,rfl,hd2⟩;clear r
  cases d2
  ·have hc:iZ f.nodes.length x=2:=by
    unfold iZ;rw[if_pos hd,aK fun h=>by have:=hd2.2 h;cases this]
   conv=>whnf
   intro ρe we re;exact⟨_,rfl,hw.tr re.cC,by show Value.int .i64 _=_;rw[hE,cK hx hc (by decide)]⟩
  have hd2:=hd2.1 rfl;have hc:iZ f.nodes.length x=0:=by
   unfold iZ;rw[if_pos hd];exact if_pos hd2
  rw[fb hx hc]at hE;conv=>whnf
  refine⟨((i+1:Nat):Int),by rw[wrap64]<;>omega,?_⟩;conv=>whnf
  intro ρ3 w6 r3;exact⟨(i+1,w6,_),⟨hib,hw.tr r3.cC,hE⟩,Sub.gen [] r3 ⟨rfl,trivial⟩ ⟨rfl,rfl,rfl,trivial⟩ (by simp[dG,cW.scopd,At.sc]) (by simp[cV,SV.sc,At.sc,cQ]) (by rfl) (fun lo hi h=>h),by dsimp only;omega⟩
 have hib:i=l.length:=aP hi (by simpa using hib);rw[gq (by omega)]at hE;conv=>whnf
 intro ρe we re;exact⟨_,rfl,hw.tr re.cC,by show Value.int .i64 _=_;rw[hE]⟩
theorem sJ{S:Nat->Prop}{w:World}{vn vb vs vl:Value}{f:fK}{l:List Ld}(hS:Old S w)(hf:dT w S vn vb vs f)(hl:ix w S vl l):dh PG N.mc #[.agg #[vn,vb,vs],vl] w (dw w fun v' _=>v'= .int .i64 (lX f l)):=by
 have hw:cN w.heap.size w w:=cN.refl;obtain⟨an,cn,ab,cb,aq,cq,rfl,rfl,rfl,hmn,hmb,hms⟩:=hf.shape;obtain⟨al,cl,rfl,hcl,hml⟩:=hl.shape;obtain⟨e0,EE⟩:∃e,df f=e:=⟨_,rfl⟩
 refine pr (by simp) ?_;conv=>whnf
 refine bz (cE hw (Φ:=fun _ w' v w2=>v= .int .i64 e0) (fun ρ w' r=>(sG (fun g hg=>by have:=hS g hg;have:=r.bu;omega) (hf.cD fun g hg=>(hw.tr r.cC).block g (hS g hg))).mono fun _ _ ⟨v2,e1,e2,e3⟩=>⟨v2,e1,e2,by rw[e3,EE]⟩) ?_);rintro ρ wa1 v1 wb1 iv1 r he hw h_ rfl;clear r;conv=>whnf
 refine dE.mk (fun he=>?_) (fun he=>?_)
 ·have he:e0≠0:=by simpa using he
  conv=>whnf
  intro ρe we re;exact⟨_,rfl,hw.tr re.cC,by show Value.int .i64 _=_;rw[lX,if_pos (by rw[EE];exact he),EE]⟩
 have he:e0=0:=by simpa using he
 conv=>whnf
 refine bz (cE hw (Φ:=fun _ w' v w2=>v= .int .i64 (sA f.nodes.length l)) (fun ρ w' r=>yf (fun g hg=>by have:=hS g hg;have:=r.bu;omega) (hf.cD fun g hg=>(hw.tr r.cC).block g (hS g hg)) (hl.cD fun g hg=>(hw.tr r.cC).block g (hS g hg))) ?_);rintro ρ wa2 v2 wb2 iv2 r he hw h_ rfl;clear r he;conv=>whnf
 intro ρe we re;exact⟨_,rfl,hw.tr re.cC,by show Value.int .i64 _=_;rw[lX,aK (by rw[EE,he];decide)]⟩
theorem DK{S:Nat->Prop}{w:World}{v u:Value}{l:List Int}(hS:Old S w)(hx:yM w S v l)(hy:yM w S u l):dh PG N.zL #[v,u] w (dw w fun v' _=>v'= .bool true):=by
 have hw:cN w.heap.size w w:=cN.refl;obtain⟨a,c,rfl,-,hm⟩:=hx.shape;obtain⟨a2,c2,rfl,-,-⟩:=hy.shape;unfold maxLen at hm;refine AP (by simp) ?_;conv=>whnf
 refine dE.mk (fun hd=>by simp at hd) (fun _=>?_);conv=>whnf
 refine⟨Nat×World×Iv,fun z=>⟨[(0,.o (.v (.slice a l.length c))),(1,.o (.v (.slice a2 l.length c2))),(5,.o (.v (.int .i64 ((z.1:Nat):Int))))],[],0,z.2.2,z.2.1⟩,fun z=>l.length-z.1,
  fun z=>z.1<=l.length∧cN w.heap.size w z.2.1,?_,?_⟩
 ·intro ρ w' r3;exact⟨(0,w',_),⟨aN _,hw.tr r3.cC⟩,Sub.gen [] r3 trivial ⟨rfl,rfl,rfl,trivial⟩ (by simp[dG,cW.scopd,At.sc]) (by simp[cV,SV.sc,At.sc,cQ]) (by rfl) (fun lo hi h=>h)⟩
 clear hw;rintro⟨i,w1,iv⟩ ⟨hi,hw⟩;dsimp only at hi hw ⊢;conv=>whnf
 refine dE.mk (fun hib=>?_) (fun hib=>?_)
 ·have hib:i<l.length:=by simpa using hib
  obtain⟨x,hq⟩:∃q,l[i]? =some q:=⟨_,aB hib⟩
  obtain⟨adx,hax,hSx,hlx⟩:=yM.at hx hq;obtain⟨ady,hay,hSy,hly⟩:=yM.at hy hq;conv=>whnf
  refine cF hτ dV [.x 0,.x 1,.x 2,.x 3,.x 4,.x 5,.x 6,.x 7,.x 8] (by kernel_rfl) (by kernel_rfl) ?_;conv=>whnf
  refine⟨adx,hax,⟨by omega,by omega⟩,?_⟩;conv=>whnf
  refine⟨.int .i64 x,fun ρ w' r=>?_,?_⟩
  ·rw[aC,bw (w:=w) (w2:=w') (by rw[cL];exact(hw.tr r.cC).block _ (hS _ hSx))];exact hlx
  conv=>whnf
  refine⟨ady,hay,⟨by omega,by omega⟩,?_⟩;conv=>whnf
  refine⟨.int .i64 x,fun ρ w' r=>?_,?_⟩
  ·rw[aC,bw (w:=w) (w2:=w') (by rw[cL];exact(hw.tr r.cC).block _ (hS _ hSy))];exact hly
  conv=>whnf
  refine dE.mk (fun hd=>absurd hd (by simp)) (fun _=>?_);conv=>whnf
  refine⟨((i+1:Nat):Int),by rw[wrap64]<;>omega,?_⟩;conv=>whnf
  intro ρ3 w6 r3;exact⟨(i+1,w6,_),⟨hib,hw.tr r3.cC⟩,Sub.gen [] r3 trivial ⟨rfl,rfl,rfl,trivial⟩ (by simp[dG,cW.scopd,At.sc]) (by simp[cV,SV.sc,At.sc,cQ]) (by rfl) (fun lo hi h=>h),by dsimp only;omega⟩
 conv=>whnf
 intro ρe we re;exact⟨_,rfl,hw.tr re.cC,rfl⟩
theorem G6{S:Nat->Prop}{w:World}{v u:Value}{l:List (List Int)}(hS:Old S w)(hx:iK w S v l)(hy:iK w S u l):dh PG N.xB #[v,u] w (dw w fun v' _=>v'= .bool true):=by
 have hw:cN w.heap.size w w:=cN.refl;obtain⟨a,c,rfl,-,hm⟩:=cT.shape hx;obtain⟨a2,c2,rfl,-,-⟩:=cT.shape hy;unfold maxLen at hm;refine yV (by simp) ?_;conv=>whnf
 refine dE.mk (fun hd=>by simp at hd) (fun _=>?_);conv=>whnf
 refine⟨Nat×World×Iv,fun z=>⟨[(0,.o (.v (.slice a l.length c))),(1,.o (.v (.slice a2 l.length c2))),(5,.o (.v (.int .i64 ((z.1:Nat):Int))))],[],0,z.2.2,z.2.1⟩,fun z=>l.length-z.1,
  fun z=>z.1<=l.length∧cN w.heap.size w z.2.1,?_,?_⟩
 ·intro ρ w' r3;exact⟨(0,w',_),⟨aN _,hw.tr r3.cC⟩,Sub.gen [] r3 trivial ⟨rfl,rfl,rfl,trivial⟩ (by simp[dG,cW.scopd,At.sc]) (by simp[cV,SV.sc,At.sc,cQ]) (by rfl) (fun lo hi h=>h)⟩
 clear hw;rintro⟨i,w1,iv⟩ ⟨hi,hw⟩;dsimp only at hi hw ⊢;conv=>whnf
 refine dE.mk (fun hib=>?_) (fun hib=>?_)
 ·have hib:i<l.length:=by simpa using hib
  obtain⟨x,hq⟩:∃q,l[i]? =some q:=⟨_,aB hib⟩
  obtain⟨adx,ux,hax,hRx,kx1,kx2⟩:=cT.load hx hq;obtain⟨ady,uy,hay,hRy,ky1,ky2⟩:=cT.load hy hq;obtain⟨al,cl,rfl,-,-⟩:=hRx.shape;obtain⟨bl,dl,rfl,-,-⟩:=hRy.shape;conv=>whnf
  refine cF hτ dV [.x 0,.x 1,.x 2,.x 3,.x 4,.x 5,.x 6,.x 7,.x 8,.x 9] (by kernel_rfl) (by kernel_rfl) ?_;conv=>whnf
  refine⟨adx,hax,⟨by omega,by omega⟩,?_⟩;conv=>whnf
  refine⟨.slice al x.length cl,fun ρ w' r=>?_,?_⟩
  ·rw[aC,bw (w:=w) (w2:=w') (by rw[cL];exact(hw.tr r.cC).block _ (hS _ kx1))];exact kx2
  conv=>whnf
  refine⟨ady,hay,⟨by omega,by omega⟩,?_⟩;conv=>whnf
  refine⟨.slice bl x.length dl,fun ρ w' r=>?_,?_⟩
  ·rw[aC,bw (w:=w) (w2:=w') (by rw[cL];exact(hw.tr r.cC).block _ (hS _ ky1))];exact ky2
  conv=>whnf
  refine cE hw (Φ:=fun _ w' v w2=>v= .bool true) (fun ρ w' r=>DK (fun g hg=>by have:=hS g hg;have:=r.bu;omega) (hRx.cD fun g hg=>(hw.tr r.cC).block g (hS g hg)) (hRy.cD fun g hg=>(hw.tr r.cC).block g (hS g hg))) ?_;rintro ρ wa1 v1 wb1 iv1 r he hw h_ rfl;clear r;conv=>whnf
  refine⟨((i+1:Nat):Int),by rw[wrap64]<;>omega,?_⟩;conv=>whnf
  intro ρ3 w6 r3;exact⟨(i+1,w6,_),⟨hib,hw.tr r3.cC⟩,Sub.gen [] r3 trivial ⟨rfl,rfl,rfl,trivial⟩ (by simp[dG,cW.scopd,At.sc]) (by simp[cV,SV.sc,At.sc,cQ]) (by rfl) (fun lo hi h=>h),by dsimp only;omega⟩
 conv=>whnf
 intro ρe we re;exact⟨_,rfl,hw.tr re.cC,rfl⟩
end Go.Ex
