/- A part of the proof: texts X180 to X190. Each tells its conditions in its theorems. -/
import Derived.Test.YtkdcaknoaeicdaaGreatP8
import Derived.Test.YtkdcaknoaeicdaaGreatP11
import Derived.Test.YtkdcaknoaeicdaaGreatP12
import Derived.Test.YtkdcaknoaeicdaaGreatP13
namespace Go.Ex
open Go Go.Sx Go.Proofs
end Go.Ex
namespace Go.Sx
open Go Go.Ex Go.Proofs
theorem Rel.Dm{H:Hp}{nx:Nat}{iv:Iv}{B:Nat}{w w':World}{ρ:Nat->Sx.dN}(r:Rel H nx iv B w ρ w'){id t m sz:Nat}{cs:List Value}(h:cT H id=some (.vec t sz cs))(hm:cs.length=m*sz)(hm1:m<=maxLen)(hs:0<sz)(h1:∀u∈cs,u.oneCell'=true):
  gw w' (Cv (fun _=>False) B (j6 (ρ id) iv)) sz ((At.w id m).den ρ) cs m:=by
 rcases r.fits h with⟨hn,rfl⟩|⟨hn,spare,h2,h3,h4⟩
 ·have hm0:m=0:=by
   rcases bG m with h|h
   ·exact h
   ·have:=Nat.mul_pos h hs;simp at hm;omega
  subst hm0;have hden:(At.w id 0).den ρ= .slice none 0 0:=by simp[At.den,hn]
  rw[hden];exact⟨aO _,by simp,by simp,none,0,rfl,aI _,fun j u h=>by cases h⟩
 ·have hden:(At.w id m).den ρ= .slice (some ⟨(ρ id).g,0,none⟩) m (ρ id).cap:=by simp[At.den,hn]
  rw[hden];have hlow:=r.low id _ h hn;refine⟨hm1,hm,h1,_,_,rfl,?_,fun j u hu=>⟨_,rfl,.inr ⟨hlow.1,_,_,DA hn,aI _,bZ _⟩,?_⟩⟩
  ·rw[List.length_append,hm]at h3;exact Nat.le_of_mul_le_mul_right (show m*sz<=(ρ id).cap*sz by omega) hs
  ·rw[dA,cell_of h2,aP,aJ (aE.1 hu).1];exact hu
end Go.Sx
namespace Go.Ex
open Go Go.Sx Go.Proofs
theorem Em{f:eX}{i k ka kb:Nat}{b:Int×Int×Rat}{d:Int}{la lb:List Int}(hb:f.bars[i]? =some b)(ea:b.1=ka)(eb:b.2.1=kb)(hab:ka≠kb)(hk:k<3)(hd:(oa f b).getD k 0=d)
  (hla:(da f (dD f i) i k)[3*ka+k]? =some la) (hlb:((da f (dD f i) i k).set (3*ka+k) (la.set i d))[3*kb+k]? =some lb):
  ((da f (dD f i) i k).set (3*ka+k) (la.set i d)).set (3*kb+k) (lb.set i (-d))=da f (dD f i) i (k+1):=by
 have z1:=ky (r:=3*ka+k) hb ea eb (show k<=3 by omega) (by omega);have z2:=ky (r:=3*kb+k) hb ea eb (show k<=3 by omega) (by omega);have hga:(da f (dD f i) i k).getD (3*ka+k) []=la:=by rw[List.getD,hla];rfl
 have hgb:((da f (dD f i) i k).set (3*ka+k) (la.set i d)).getD (3*kb+k) []=lb:=by rw[List.getD,hlb];rfl
 have e1:pW (da f (dD f i) i k) (3*ka+k) i d=(da f (dD f i) i k).set (3*ka+k) (la.set i d):=by
  rw[fM,z1,Int.zero_add,putAt,hga]
 rw[da];rw[xr hb,hd,toNat_add ea,toNat_add eb,e1,pW,hgb];have z3:lb.getD i 0=0:=by
  rw[<-hgb,getD_set_ne (show 3*ka+k≠3*kb+k by omega)];exact z2
 rw[z3,Int.zero_add]
set_option maxHeartbeats 2000000 in
theorem xZ{S:Nat->Prop}{w:World}{vn vb vs:Value}{f:eX}(hS:Old S w)(hf:dE w S vn vb vs f)(herr:dh f=0):
  dQ PG N.p9 #[.agg #[vn,vb,vs]] w (dU w fun v' w2=>kc w2 (Nw (fun _=>False) w w2) v' (fR f)∧AX (fR f) 2000000):=by
 have hw:cF w.heap.size w w:=cF.refl;have hok:=lA herr;obtain⟨an,cn,ab,cb,aq,cq,rfl,rfl,rfl,hmn,hmb,hms⟩:=hf.shape;obtain⟨hn20,hb60,hs60⟩:=And.intro hok.n (And.intro hok.b hok.s);have hcols:f.cols=f.bars.length+f.cG.length:=rfl;obtain⟨m,hm⟩:∃m,3*f.nodes.length=m:=⟨_,rfl⟩
 refine s7 (by simp) ?_;conv=>whnf
 refine⟨Nat×List Value×World×Iv,fun z=>⟨[(1,.o (.p 0 0)),(3,.o (.w 1 z.2.1.length)),(4,.o (.v (.int .i64 ((z.1:Nat):Int))))],[(1,.vec T.Lint 1 z.2.1),(0,.box T.Frame [.v (.slice an f.nodes.length cn),.v (.slice ab f.bars.length cb),.v (.slice aq f.cG.length cq)])],2,z.2.2.2,z.2.2.1⟩,fun z=>m-z.1,
  fun z=>z.1<=m∧z.2.1.length=z.1∧cF w.heap.size w z.2.2.1∧fS z.2.2.1 w.heap.size z.2.2.2 z.2.1 f.cols (List.replicate z.1 (List.replicate f.cols 0)),?_,?_⟩
 ·intro ρ w' r3;exact⟨(0,[],w',[]),⟨aO _,rfl,hw.tr r3.bs,fS.nil⟩,Sub.nil 3 T.Lint 1 rfl (by simp[cO,SV.sc,At.sc,cJ]) r3 fun ρ1 r1=>Sub.gen [] r1 ⟨rfl,rfl,trivial⟩ ⟨rfl,rfl,rfl,trivial⟩ (by simp[cY,cN.scopd,At.sc]) (by simp[cO,SV.sc,At.sc,cJ]) (by rfl) (fun lo hi h=>h)⟩
 clear hw;rintro⟨i,rv,w1,iv⟩ ⟨hi,hrl,hw,hE⟩;dsimp only at hi hrl hw hE ⊢;conv=>whnf
 refine⟨(m:Int),by rw[wrap64]<;>omega,?_⟩;conv=>whnf
 refine cW.mk (fun hib=>?_) (fun hib=>?_)
 ·have hib:i<m:=by simpa using hib
  conv=>whnf
  refine bp (cE hw (Φ:=fun _ w' v w2=>v= .int .i64 f.cols) (fun ρ w' r=>jt (hf.bu fun g hg=>(hw.tr r.bs).block g (hS g hg)) ⟨hb60,hs60⟩) ?_);rintro ρ wa1 v1 wb1 iv1 r he hw h_ rfl;have hE1:=fS.bq hE r he (mC h_);clear r;clear hE;conv=>whnf
  refine⟨f.cols,f.cols,rfl,rfl,aI _,by omega,by omega,?_⟩;conv=>whnf
  refine o0 hτ (id3:=3) (id2:=2) (tH:=[(1,.vec T.Lint 1 rv),(0,.box T.Frame [.v (.slice an f.nodes.length cn),.v (.slice ab f.bars.length cb),.v (.slice aq f.cG.length cq)])]) rfl rfl rfl rfl (by simp) ⟨rfl,rfl,trivial⟩ rfl rfl (fun ρ w' r r2 hbx=>?_);have hn:=(r.fits (id:=2) rfl).1;have hrow:w'.ownsRow 0 T.int 1 (.slice (some ⟨(ρ 2).g,0,none⟩) f.cols f.cols) f.cols ((List.replicate f.cols (0:Int)).map fun z=>.int .i64 z):=
   ⟨by simp,.inr ⟨(ρ 2).g,f.cols,(List.replicate f.cols (Value.int .i64 0)).toArray,rfl,aO _,r.arr 2 _ _ rfl,aI _,by unfold maxLen;omega,by simp,by simp⟩⟩
  have hE2:=(hE1.rel r).push (gx:=(ρ 2).g) (l:=List.replicate f.cols 0) (fun g hg e=>Rel.not r (fQ _) hg 2 _ rfl hn e.symm) (r.low 2 _ rfl hn).1 (by simp) hrow;rw[<-List.replicate_succ']at hE2;have hgv:j6 (ρ 2) iv1=((ρ 2).g,(ρ 2).g+1)::iv1:=by unfold j6;rw[hn]
  have hlo3:=r.low 3 _ rfl (r.fits (id:=3) rfl).1;have hbx:w'.heap[(ρ 3).g]? =some (.cells #[.slice (some ⟨(ρ 2).g,0,none⟩) f.cols f.cols] T.Lint (0,0)):=hbx;have hE3:=hE2.mono (iv':=((ρ 3).g,(ρ 3).g+1)::((ρ 2).g,(ρ 2).g+1)::iv1) fun p hp=>aC _ hp;have hw2:=hw.tr r.bs;have hC3:Cv (fun _=>False) w.heap.size (((ρ 3).g,(ρ 3).g+1)::((ρ 2).g,(ρ 2).g+1)::iv1) (ρ 3).g:=.inr ⟨hlo3.1,_,_,aH,aI _,bZ _⟩;rw[hgv];clear hE1 hw r hrow hn hE2 hgv r2 hlo3;generalize (ρ 2).g=gx at*
  generalize (ρ 3).g=gy at*
  generalize (gy,gy+1)::(gx,gx+1)::iv1=iv2 at*
  conv=>whnf
  refine⟨[.slice (some ⟨gx,0,none⟩) f.cols f.cols],rfl,by simp[Value.oneCell'],fun ρ2 w2 r2 _=>⟨_,rfl,fun j u hu=>?_⟩,?_⟩
  ·have h5:=Rel.same r2 (fQ _) hC3;rw[dA,cell_of (h5.trans hbx)];rcases j with _|j
   ·exact hu
   ·cases hu
  conv=>whnf
  refine⟨by omega,by omega,by unfold maxLen;omega,?_⟩;conv=>whnf
  refine⟨((i+1:Nat):Int),by rw[wrap64]<;>omega,?_⟩;conv=>whnf
  intro ρ3 w6 r3;exact⟨(i+1,rv++[.slice (some ⟨gx,0,none⟩) f.cols f.cols],w6,_),⟨hib,by simp[hrl],hw2.tr r3.bs,hE3.rel r3⟩,Sub.gen [(1,4)] r3 ⟨rfl,rfl,trivial⟩ ⟨rfl,by dsimp only;rw[List.length_append,List.length_singleton];rfl,rfl,trivial⟩ (by simp[cY,cN.scopd,At.sc]) (by simp[cO,SV.sc,At.sc,cJ]) (by rfl) (fun lo hi h=>h),by dsimp only;omega⟩
 have hib:i=m:=aM hi (by simpa using hib);subst hib;have hE0:fS w1 w.heap.size iv rv f.cols (dD f 0):=by rw[dD,hm];exact hE
 have hbd0:AX (dD f 0) 2000000:=fun l hl z hz=>by
  rw[dD]at hl;rw[bF hl]at hz;rw[bF hz];exact⟨by decide,by decide⟩
 clear hE;rw[hrl];conv=>whnf
 refine⟨Nat×World×Iv,fun z=>⟨[(1,.o (.p 0 0)),(3,.o (.w 1 i)),(5,.o (.v (.int .i64 ((z.1:Nat):Int))))],[(1,.vec T.Lint 1 rv),(0,.box T.Frame [.v (.slice an f.nodes.length cn),.v (.slice ab f.bars.length cb),.v (.slice aq f.cG.length cq)])],2,z.2.2,z.2.1⟩,fun z=>f.bars.length-z.1,
  fun z=>z.1<=f.bars.length∧cF w.heap.size w z.2.1∧fS z.2.1 w.heap.size z.2.2 rv f.cols (dD f z.1)∧AX (dD f z.1) 2000000,?_,?_⟩
 ·intro ρ w' r3;exact⟨(0,w',_),⟨aO _,hw.tr r3.bs,hE0.rel r3,hbd0⟩,Sub.gen [] r3 ⟨rfl,rfl,trivial⟩ ⟨rfl,rfl,rfl,trivial⟩ (by simp[cY,cN.scopd,At.sc]) (by simp[cO,SV.sc,At.sc,cJ]) (by rfl) (fun lo hi h=>h)⟩
 clear hw hE0 hbd0 hi;rintro⟨j,w2,iv⟩ ⟨hj,hw,hE,hbd⟩;dsimp only at hj hw hE hbd ⊢;conv=>whnf
 refine cW.mk (fun hjb=>?_) (fun hjb=>?_)
 ·have hjb:j<f.bars.length:=by simpa using hjb
  obtain⟨b,hb⟩:∃b,f.bars[j]? =some b:=⟨_,aA hjb⟩
  obtain⟨hA,hB⟩:=hok.GB b (aD hb);have hne:=(Dl herr (aD hb)).1;obtain⟨ka,pa,ea,hka,-,hna,⟨_,_⟩,⟨_,_⟩,⟨_,_⟩⟩:=hok.node hA.1 hA.2;obtain⟨kb,pb,eb,hkb,-,hnb,⟨_,_⟩,⟨_,_⟩,⟨_,_⟩⟩:=hok.node hB.1 hB.2;have hab:ka≠kb:=fun e=>hne (by rw[ea,eb,e]);obtain⟨adb,cs,hadb,hF,-,hlb0⟩:=hf.bars.load (by decide) hb;obtain⟨g0,g1,g2,g3,g4,g5,g6,g7,rfl,hF⟩:=hF;have hbD:oa f b=[pb.1-pa.1,pb.2.1-pa.2.1,pb.2.2-pa.2.2]:=by rw[oa,hna,hnb]
  conv=>whnf
  refine bp (cE hw (Φ:=fun _ w' v w2=>v= .agg #[.int .i64 (pb.1-pa.1),.int .i64 (pb.2.1-pa.2.1),.int .i64 (pb.2.2-pa.2.2)]) (fun ρ w' r=>(wS (S:=S) (fun g hg=>by have:=hS g hg;have:=r.bm;omega) (hf.bu fun g hg=>(hw.tr r.bs).block g (hS g hg)) hok hb).mono fun _ _ ⟨v2,e1,e2,e3⟩=>⟨v2,e1,e2,by rw[e3,hna,hnb]⟩) ?_);rintro ρ wa2 v2 wb2 iv2 r he hw h_ rfl;have hE1:=fS.bq hE r he (mC h_);clear r;clear hE hF;rw[ea,eb]at hlb0;obtain⟨ds,hds⟩:∃ds:List Value,ds=[.int .i64 (pb.1-pa.1),.int .i64 (pb.2.1-pa.2.1),.int .i64 (pb.2.2-pa.2.2)]:=⟨_,rfl⟩
  conv=>whnf
  refine⟨Nat×World×Iv,fun z=>⟨[(1,.o (.p 0 0)),(3,.o (.w 1 i)),(5,.o (.v (.int .i64 ((j:Nat):Int)))),(6,.o (.p 2 0)),(7,.o (.v (.int .i64 ((z.1:Nat):Int))))],[(2,.arr 189 ds),(1,.vec T.Lint 1 rv),(0,.box T.Frame [.v (.slice an f.nodes.length cn),.v (.slice ab f.bars.length cb),.v (.slice aq f.cG.length cq)])],3,z.2.2,z.2.1⟩,fun z=>3-z.1,
   fun z=>z.1<=3∧cF w.heap.size w z.2.1∧fS z.2.1 w.heap.size z.2.2 rv f.cols (da f (dD f j) j z.1)∧AX (da f (dD f j) j z.1) 2000000,?_,?_⟩
  ·intro ρ w' r3;exact⟨(0,w',_),⟨aO _,hw.tr r3.bs,hE1.rel r3,hbd⟩,Sub.Gq 2 (vs:=ds) (by rw[hds];rfl) r3 fun r4=>Sub.gen [] r4 ⟨rfl,rfl,rfl,trivial⟩ ⟨rfl,rfl,rfl,rfl,rfl,trivial⟩ (by simp[cY,cN.scopd,At.sc]) (by simp[cO,SV.sc,At.sc,cJ]) (by rfl) (fun lo hi h=>h)⟩
  clear hw hE1 hbd;rintro⟨k,w3,iv⟩ ⟨hk,hw,hE,hbd⟩;dsimp only at hk hw hE hbd ⊢;conv=>whnf
  refine cW.mk (fun hkb2=>?_) (fun hkb2=>?_)
  ·have hk3:k<3:=by have:=aG hkb2;omega
   obtain⟨d,hd⟩:∃d,(oa f b).getD k 0=d:=⟨_,rfl⟩
   have hdb: -2000000<=d∧d<=2000000:=by
    rw[<-hd,hbD];rcases(show k=0∨k=1∨k=2 by omega)with rfl|rfl|rfl<;>simp[List.getD]<;>omega
   have hdk:ds[k]? =some (.int .i64 d):=by
    rw[hds,<-hd,hbD];rcases(show k=0∨k=1∨k=2 by omega)with rfl|rfl|rfl<;>rfl
   have hMl:(da f (dD f j) j k).length=3*f.nodes.length:=by rw[<-hE.len];have:=hE.len;omega
   obtain⟨la,hla⟩:∃l,(da f (dD f j) j k)[3*ka+k]? =some l:=⟨_,aA (by first|omega|(rw [bC];omega))⟩
   have hlaw:=hE.wid la (aD hla);obtain⟨za,hza⟩:∃z,la[j]? =some z:=⟨_,aA (by omega)⟩
   obtain⟨va,hva⟩:∃v,rv[3*ka+k]? =some v:=⟨_,aA (by have:=(aE.1 hla).1;rw[hE.len];exact this)⟩
   obtain⟨aa5,ca5,rfl⟩:=hE.form hva;obtain⟨ada5,haa5,-,-⟩:=hE.load hva hla hza;conv=>whnf
   refine bw hτ dH [.x 0,.x 1,.x 2,.x 3,.x 4,.x 5,.x 6,.x 7,.x 8,.x 9,.x 10,.x 11,.x 12,.x 13,.x 14,.x 15,.x 16,.x 17] (by kernel_rfl) (by kernel_rfl) ?_;conv=>whnf
   refine⟨adb,hadb,⟨by omega,by omega⟩,?_⟩;conv=>whnf
   refine⟨.int .i64 (ka:Int),fun ρ w' r=>?_,?_⟩
   ·obtain⟨k1,k2⟩:=hlb0 0 _ rfl;rw[bo (w:=w) (w2:=w') (by simp only[cC];exact(hw.tr r.bs).block _ (hS _ k1))];simp only[aB,iW]at k2 ⊢;exact k2
   conv=>whnf
   refine⟨((3*ka:Nat):Int),by rw[wrap64]<;>omega,?_⟩;conv=>whnf
   refine⟨((3*ka+k:Nat):Int),by rw[wrap64]<;>omega,?_⟩;conv=>whnf
   refine⟨by rw[hrl,aP,aR],?_⟩;conv=>whnf
   refine⟨⟨by omega,by omega⟩,?_⟩;conv=>whnf
   refine⟨.slice aa5 f.cols ca5,by rw[aB,aR];exact hva,?_⟩;conv=>whnf
   refine⟨⟨by omega,by omega⟩,?_⟩;conv=>whnf
   refine⟨.int .i64 d,by rw[aP,aB,aR];exact hdk,?_⟩;conv=>whnf
   refine⟨ada5,haa5,⟨by omega,by omega⟩,?_⟩;conv=>whnf
   intro ρ w' r;obtain⟨g,hg,h1,h2,h3,h4⟩:=hE.store r (z:=d) hva hla (show j<f.cols by omega);rw[haa5]at hg;injection hg with hg;subst hg;refine⟨h1,h2,h3,fun w5 hw5=>?_⟩;obtain⟨k1,k2,k3,-,-⟩:=h4 w5 hw5;replace hw:=(hw.tr r.bs).tr k2;replace hbd:=hbd.set (r:=3*ka+k) (c:=j) (z:=d) (t2:=2000000) (by omega) hla (by omega);replace hE:=k1;clear h1 h2 h3 h4 hw5 k1 k2 k3 r haa5;obtain⟨lb,hlb⟩:∃l,((da f (dD f j) j k).set (3*ka+k) (la.set j d))[3*kb+k]? =some l:=⟨_,aA (by first|omega|(rw [bC];omega))⟩
   have hlbw:=hE.wid lb (aD hlb);obtain⟨zb,hzb⟩:∃z,lb[j]? =some z:=⟨_,aA (by omega)⟩
   obtain⟨vb,hvb⟩:∃v,rv[3*kb+k]? =some v:=⟨_,aA (by have:=(aE.1 hlb).1;rw[hE.len];exact this)⟩
   obtain⟨ab5,cb5,rfl⟩:=hE.form hvb;obtain⟨adb5,hab5,-,-⟩:=hE.load hvb hlb hzb;conv=>whnf
   refine bw hτ dH [.x 0,.x 1,.x 2,.x 3,.x 4,.x 5,.x 6,.x 7,.x 8,.x 9,.x 10,.x 11,.x 12,.x 13,.x 14,.x 15,.x 16,.x 17,.x 18] (by kernel_rfl) (by kernel_rfl) ?_;conv=>whnf
   refine⟨adb,hadb,⟨by omega,by omega⟩,?_⟩;conv=>whnf
   refine⟨.int .i64 (kb:Int),fun ρ w' r=>?_,?_⟩
   ·obtain⟨k1,k2⟩:=hlb0 1 _ rfl;rw[bo (w:=w) (w2:=w') (by simp only[cC];exact(hw.tr r.bs).block _ (hS _ k1))];simp only[aB,iW]at k2 ⊢;exact k2
   conv=>whnf
   refine⟨((3*kb:Nat):Int),by rw[wrap64]<;>omega,?_⟩;conv=>whnf
   refine⟨((3*kb+k:Nat):Int),by rw[wrap64]<;>omega,?_⟩;conv=>whnf
   refine⟨by rw[hrl,aP,aR],?_⟩;conv=>whnf
   refine⟨⟨by omega,by omega⟩,?_⟩;conv=>whnf
   refine⟨.slice ab5 f.cols cb5,by rw[aB,aR];exact hvb,?_⟩;conv=>whnf
   refine⟨⟨by omega,by omega⟩,?_⟩;conv=>whnf
   refine⟨.int .i64 d,by rw[aP,aB,aR];exact hdk,?_⟩;conv=>whnf
   refine⟨-d,by rw[wrap64]<;>omega,?_⟩;conv=>whnf
   refine⟨adb5,hab5,⟨by omega,by omega⟩,?_⟩;conv=>whnf
   intro ρ w' r;obtain⟨g,hg,h1,h2,h3,h4⟩:=hE.store r (z:=(-d)) hvb hlb (show j<f.cols by omega);rw[hab5]at hg;injection hg with hg;subst hg;refine⟨h1,h2,h3,fun w5 hw5=>?_⟩;obtain⟨k1,k2,k3,-,-⟩:=h4 w5 hw5;replace hw:=(hw.tr r.bs).tr k2;replace hbd:=hbd.set (r:=3*kb+k) (c:=j) (z:=(-d)) (t2:=2000000) (by omega) hlb (by omega);replace hE:=k1;clear h1 h2 h3 h4 hw5 k1 k2 k3 r hab5;rw[Em hb ea eb hab hk3 hd hla hlb]at hE hbd;conv=>whnf
   refine⟨((k+1:Nat):Int),by rw[wrap64]<;>omega,?_⟩;conv=>whnf
   intro ρ3 w6 r3;exact⟨(k+1,w6,_),⟨hk3,hw.tr r3.bs,hE.rel r3,hbd⟩,Sub.gen [] r3 ⟨rfl,rfl,rfl,trivial⟩ ⟨rfl,rfl,rfl,rfl,rfl,trivial⟩ (by simp[cY,cN.scopd,At.sc]) (by simp[cO,SV.sc,At.sc,cJ]) (by rfl) (fun lo hi h=>h),by dsimp only;omega⟩
  have hkb2:k=3:=by have:=aF hkb2;omega
  subst hkb2;conv=>whnf
  refine⟨((j+1:Nat):Int),by rw[wrap64]<;>omega,?_⟩;conv=>whnf
  intro ρ3 w6 r3;exact⟨(j+1,w6,_),⟨hjb,hw.tr r3.bs,hE.rel r3,hbd⟩,Sub.gen [] r3 ⟨rfl,rfl,trivial⟩ ⟨rfl,rfl,rfl,trivial⟩ (by simp[cY,cN.scopd,At.sc]) (by simp[cO,SV.sc,At.sc,cJ]) (by rfl) (fun lo hi h=>h),by dsimp only;omega⟩
 have hjb:j=f.bars.length:=aM hj (by simpa using hjb);subst hjb;conv=>whnf
 refine⟨Nat×World×Iv,fun z=>⟨[(1,.o (.p 0 0)),(3,.o (.w 1 i)),(8,.o (.v (.int .i64 ((z.1:Nat):Int))))],[(1,.vec T.Lint 1 rv),(0,.box T.Frame [.v (.slice an f.nodes.length cn),.v (.slice ab f.bars.length cb),.v (.slice aq f.cG.length cq)])],2,z.2.2,z.2.1⟩,fun z=>f.cG.length-z.1,
  fun z=>z.1<=f.cG.length∧cF w.heap.size w z.2.1∧fS z.2.1 w.heap.size z.2.2 rv f.cols (eA f z.1)∧AX (eA f z.1) 2000000,?_,?_⟩
 ·intro ρ w' r3;exact⟨(0,w',_),⟨aO _,hw.tr r3.bs,hE.rel r3,hbd⟩,Sub.gen [] r3 ⟨rfl,rfl,trivial⟩ ⟨rfl,rfl,rfl,trivial⟩ (by simp[cY,cN.scopd,At.sc]) (by simp[cO,SV.sc,At.sc,cJ]) (by rfl) (fun lo hi h=>h)⟩
 clear hw hE hbd hj;rintro⟨j,w2,iv⟩ ⟨hj,hw,hE,hbd⟩;dsimp only at hj hw hE hbd ⊢;conv=>whnf
 refine cW.mk (fun hjb=>?_) (fun hjb=>?_)
 ·have hjb:j<f.cG.length:=by simpa using hjb
  obtain⟨s,hs⟩:∃b,f.cG[j]? =some b:=⟨_,aA hjb⟩
  obtain⟨hA,hB⟩:=hok.sup s (aD hs);obtain⟨ks,hks⟩:=Int.eq_ofNat_of_zero_le (show 0<=3*s.1+s.2.1 by omega);have hMl:=ke f j;obtain⟨l,hl⟩:∃l,(eA f j)[ks]? =some l:=⟨_,aA (by omega)⟩
  have hlw:=hE.wid l (aD hl);obtain⟨v,hv⟩:∃v,rv[ks]? =some v:=⟨_,aA (by rw[hE.len];omega)⟩
  obtain⟨a5,c5,rfl⟩:=hE.form hv;obtain⟨z0,hz0⟩:∃z,l[f.bars.length+j]? =some z:=⟨_,aA (by omega)⟩
  obtain⟨ad5,ha5,-,-⟩:=hE.load hv hl hz0;obtain⟨adb,cs,hab,hF,-,hlb⟩:=hf.cG.load (by decide) hs;obtain⟨g0,g1,g2,g3,g4,g5,g6,g7,rfl,hF⟩:=hF;conv=>whnf
  refine bw hτ dH [.x 0,.x 1,.x 2,.x 3,.x 4,.x 5,.x 6,.x 7,.x 8,.x 9,.x 10,.x 11,.x 12,.x 13,.x 14,.x 15,.x 16,.x 17,.x 18,.x 19,.x 20,.x 21,.x 22,.x 23] (by kernel_rfl) (by kernel_rfl) ?_;conv=>whnf
  refine⟨adb,hab,⟨by omega,by omega⟩,?_⟩;conv=>whnf
  refine⟨.int .i64 s.1,fun ρ w' r=>?_,?_⟩
  ·obtain⟨k1,k2⟩:=hlb 0 _ rfl;rw[bo (w:=w) (w2:=w') (by simp only[cC];exact(hw.tr r.bs).block _ (hS _ k1))];simp only[aB,iW]at k2 ⊢;exact k2
  conv=>whnf
  refine⟨3*s.1,by rw[wrap64]<;>omega,?_⟩;conv=>whnf
  refine⟨adb,hab,⟨by omega,by omega⟩,?_⟩;conv=>whnf
  refine⟨.int .i64 s.2.1,fun ρ w' r=>?_,?_⟩
  ·obtain⟨k1,k2⟩:=hlb 1 _ rfl;rw[bo (w:=w) (w2:=w') (by simp only[cC];exact(hw.tr r.bs).block _ (hS _ k1))];simp only[aB,iW]at k2 ⊢;exact k2
  conv=>whnf
  refine⟨((ks:Nat):Int),by rw[wrap64]<;>omega,?_⟩;conv=>whnf
  refine⟨by rw[hrl,aR],?_⟩;conv=>whnf
  refine⟨⟨by omega,by omega⟩,?_⟩;conv=>whnf
  refine⟨.slice a5 f.cols c5,by rw[aB,aR];exact hv,?_⟩;conv=>whnf
  refine⟨((f.bars.length+j:Nat):Int),by rw[wrap64]<;>omega,?_⟩;conv=>whnf
  refine⟨ad5,ha5,⟨by omega,by omega⟩,?_⟩;conv=>whnf
  intro ρ w' r;obtain⟨g,hg,h1,h2,h3,h4⟩:=hE.store r (z:=1) hv hl (show f.bars.length+j<f.cols by omega);rw[ha5]at hg;injection hg with hg;subst hg;refine⟨h1,h2,h3,fun w5 hw5=>?_⟩;obtain⟨k1,k2,k3,-,-⟩:=h4 w5 hw5;replace hw:=(hw.tr r.bs).tr k2;have hbd2:=hbd.set (r:=ks) (c:=f.bars.length+j) (z:=1) (t2:=2000000) (by omega) hl (by omega);rw[zx hs hks hl]at k1 hbd2;clear h1 h2 h3 h4 hw5 k2 k3 r hE;conv=>whnf
  refine⟨((j+1:Nat):Int),by rw[wrap64]<;>omega,?_⟩;conv=>whnf
  intro ρ3 w6 r3;exact⟨(j+1,w6,_),⟨hjb,hw.tr r3.bs,k1.rel r3,hbd2⟩,Sub.gen [] r3 ⟨rfl,rfl,trivial⟩ ⟨rfl,rfl,rfl,trivial⟩ (by simp[cY,cN.scopd,At.sc]) (by simp[cO,SV.sc,At.sc,cJ]) (by rfl) (fun lo hi h=>h),by dsimp only;omega⟩
 have hjb:j=f.cG.length:=aM hj (by simpa using hjb);subst hjb;conv=>whnf
 intro ρe we re;have hE2:=hE.rel re;have hMl:=ke f f.cG.length;have hrl2:=hE.len;refine⟨_,rfl,hw.tr re.bs,⟨rv,?_,hE.len,fun i u x k1 k2=>?_⟩,hbd⟩
 ·rw[show (fR f).length=rv.length from hE.len.symm];have h5:=re.gB (id:=1) (sz:=1) (m:=rv.length) rfl (by simp) (by unfold maxLen;omega) (by decide) hE.one;rw[show (i:Nat)=rv.length by omega];exact h5.bz fun g hg=>.inr hg
 ·obtain⟨a,c,rfl⟩:=hE.form k1;have hxl:=hE.wid x (aD k2);refine⟨by rw[hxl];unfold maxLen;omega,by simp,fun v hv=>by obtain⟨z,_,rfl⟩:=aS.1 hv;rfl,a,c,by rw[hxl],?_,fun t v hv=>?_⟩
  ·rw[hxl];obtain⟨a2,c2,e,h⟩:=gp (hE.row i _ x k1 k2);injection e with e1 e2 e3;omega
  ·rw[aN]at hv
   cases ht:x[t]? with
   |none=>rw[ht]at hv;cases hv
   |some z=>
    rw[ht]at hv;simp only[Option.map_some,Option.some.injEq]at hv;subst hv;obtain⟨ad,h1,h2,h3⟩:=hE2.load k1 k2 ht;exact⟨ad,h1,Cv.nw h2 re,by rw[aR]at h3;exact h3⟩
end Go.Ex
namespace Go.Ex
open Go Go.Sx Go.Proofs
theorem lW{l:List Int}{i:Nat}{z:Int}(h:l[i]? =some z):cK (l.take (i+1))=cK (l.take i)++[(z:Rat)]:=by rw[cK,List.take_add_one,h,List.map_append];rfl
theorem At.FL{ρ:Nat->Sx.dN}{id n:Nat}:((At.w id n).den ρ).oneCell'=true:=by
 cases h:(ρ id).nil<;>simp[At.den,h,Value.oneCell']
theorem En{S:Nat->Prop}{w:World}{v:Value}{M:List (List Int)}(hS:Old S w)(hM:kc w S v M)(hR:M.length<=1000)(hn:∀l∈M,l.length<=1000)(hb:∀l∈M,∀z∈l,-1000000000<=z∧z<=1000000000):
  dQ PG N.uX #[v] w (dU w fun v' w2=>cI w2 (Nw (fun _=>False) w w2) v' (M.map cK)):=by
 have hw:cF w.heap.size w w:=cF.refl;obtain⟨am,cm,rfl,-,hmm⟩:=dS.shape hM;unfold maxLen at hmm;refine wG (by simp) ?_;conv=>whnf
 refine⟨Nat×List Value×World×Iv,fun z=>⟨[(0,.o (.v (.slice am M.length cm))),(3,.o (.w 0 z.2.1.length)),(4,.o (.v (.int .i64 ((z.1:Nat):Int))))],[(0,.vec T.gX 1 z.2.1)],1,z.2.2.2,z.2.2.1⟩,fun z=>M.length-z.1,
  fun z=>z.1<=M.length∧cF w.heap.size w z.2.2.1∧dP z.2.2.1 (Cv (fun _=>False) w.heap.size z.2.2.2) z.2.1 ((M.take z.1).map cK),?_,?_⟩
 ·intro ρ w' r;exact⟨(0,[],w',[]),⟨aO _,hw.tr r.bs,by simp[dP]⟩,Sub.nil 3 T.gX 1 rfl (by simp[cO,SV.sc,At.sc,cJ]) r fun ρ1 r1=>Sub.gen [] r1 ⟨rfl,trivial⟩ ⟨rfl,rfl,rfl,trivial⟩ (by simp[cY,cN.scopd,At.sc]) (by simp[cO,SV.sc,At.sc,cJ]) (by rfl) (fun lo hi h=>h)⟩
 clear hw;rintro⟨i,rv,w1,iv⟩ ⟨hi,hw,hK⟩;dsimp only at hi hw hK ⊢;have hrl:rv.length=i:=by rw[hK.1,aK,aW];omega
 conv=>whnf
 refine cW.mk (fun hib=>?_) (fun hib=>?_)
 ·have hib:i<M.length:=by simpa using hib
  obtain⟨l,hl⟩:∃x,M[i]? =some x:=⟨_,aA hib⟩
  have hln:=hn l (aD hl);have hlb:=hb l (aD hl);obtain⟨adm,um,ham,hRm,km1,km2⟩:=dS.load hM hl;obtain⟨al,cl,rfl,-,hml⟩:=hRm.shape;conv=>whnf
  refine⟨Nat×List (List Value)×World×Iv,fun z=>⟨[(0,.o (.v (.slice am M.length cm))),(3,.o (.w 0 rv.length)),(4,.o (.v (.int .i64 ((i:Nat):Int)))),(5,.o (.w 1 z.2.1.length)),(6,.o (.v (.int .i64 ((z.1:Nat):Int))))],[(1,.vec T.Rat 4 z.2.1.flatten),(0,.vec T.gX 1 rv)],2,z.2.2.2,z.2.2.1⟩,fun z=>l.length-z.1,
   fun z=>z.1<=l.length∧cF w.heap.size w z.2.2.1∧dP z.2.2.1 (Cv (fun _=>False) w.heap.size z.2.2.2) rv ((M.take i).map cK)∧eJ z.2.2.1 (Cv (fun _=>False) w.heap.size z.2.2.2) z.2.1 (cK (l.take z.1)),?_,?_⟩
  ·intro ρ w' r;exact⟨(0,[],w',_),⟨aO _,hw.tr r.bs,hK.rel r (bl w),eJ.nil⟩,Sub.nil 5 T.Rat 4 rfl (by simp[cO,SV.sc,At.sc,cJ]) r fun ρ1 r1=>Sub.gen [] r1 ⟨rfl,rfl,trivial⟩ ⟨rfl,rfl,rfl,rfl,rfl,trivial⟩ (by simp[cY,cN.scopd,At.sc]) (by simp[cO,SV.sc,At.sc,cJ]) (by rfl) (fun lo hi h=>h)⟩
  clear hw hK;rintro⟨k,css,w3,iv⟩ ⟨hk,hw,hK,hG⟩;dsimp only at hk hw hK hG ⊢;have hfl:=eH hG.four;have hcl2:css.length=k:=by rw[hG.len,cK,aK,aW];omega
  conv=>whnf
  refine⟨adm,ham,⟨by omega,by omega⟩,?_⟩;conv=>whnf
  refine⟨.slice al l.length cl,fun ρ w' r=>?_,?_⟩
  ·rw[aB,bo (w:=w) (w2:=w') (by rw[cC];exact(hw.tr r.bs).block _ (hS _ km1))];exact km2
  conv=>whnf
  refine cW.mk (fun hkb=>?_) (fun hkb=>?_)
  ·have hkb:k<l.length:=by simpa using hkb
   obtain⟨z,hz⟩:∃x,l[k]? =some x:=⟨_,aA hkb⟩
   have hzb:=hlb z (aD hz);obtain⟨adx,hax,hSx,hlx⟩:=yq.at hRm hz;conv=>whnf
   refine⟨adm,ham,⟨by omega,by omega⟩,?_⟩;conv=>whnf
   refine⟨.slice al l.length cl,fun ρ w' r=>?_,?_⟩
   ·rw[aB,bo (w:=w) (w2:=w') (by rw[cC];exact(hw.tr r.bs).block _ (hS _ km1))];exact km2
   conv=>whnf
   refine⟨adx,hax,⟨by omega,by omega⟩,?_⟩;conv=>whnf
   refine⟨.int .i64 z,fun ρ w' r=>?_,?_⟩
   ·rw[aB,bo (w:=w) (w2:=w') (by rw[cC];exact(hw.tr r.bs).block _ (hS _ hSx))];exact hlx
   conv=>whnf
   refine bp (cE hw (Φ:=fun _ w' v w2=>cH w2 (Nw (fun _=>False) w' w2) v (z:Rat)) (fun ρ w' r=>gq z w' (by omega)) ?_);rintro ρ wa1 v1 wb1 iv1 r he hw h_ hn;replace hK:=hK.bq r (bl w) he (mC h_);replace hG:=hG.bq r (bl w) he (mC h_);have hd:=hn.cQ (S:=fun _=>False) r.bm (mN h_);clear r hn;obtain⟨s1_0,s1_1,s1_2,s1_3,s1_4,s1_5,s1_6,s1_7,rfl⟩:=hd.shape;conv=>whnf
   have hG2:=hG.push (cs:=[.bool s1_0,.slice s1_1 s1_2 s1_3,.bool s1_4,.slice s1_5 s1_6 s1_7]) (q:=(z:Rat)) ⟨_,_,_,_,_,_,_,_,rfl,hd⟩ rfl;rw[<-lW hz]at hG2;have hfl2:css.flatten++([.bool s1_0,.slice s1_1 s1_2 s1_3,.bool s1_4,.slice s1_5 s1_6 s1_7]:List Value)=(css++([[.bool s1_0,.slice s1_1 s1_2 s1_3,.bool s1_4,.slice s1_5 s1_6 s1_7]]:List (List Value))).flatten:=by simp
   refine .inl ?_;conv=>whnf
   refine⟨by omega,by omega,by unfold maxLen;omega,?_⟩;conv=>whnf
   refine⟨((k+1:Nat):Int),by rw[wrap64]<;>omega,?_⟩;conv=>whnf
   intro ρ3 w6 r3;exact⟨(k+1,css++[[.bool s1_0,.slice s1_1 s1_2 s1_3,.bool s1_4,.slice s1_5 s1_6 s1_7]],w6,_),⟨hkb,hw.tr r3.bs,hK.rel r3 (bl w),hG2.rel r3 (bl w)⟩,Sub.gen [(1,3)] r3 ⟨by dsimp only;rw[<-hfl2];rfl,rfl,trivial⟩ ⟨rfl,rfl,rfl,by dsimp only;rw[List.length_append,List.length_singleton];rfl,rfl,trivial⟩ (by simp[cY,cN.scopd,At.sc]) (by simp[cO,SV.sc,At.sc,cJ]) (by rfl) (fun lo hi h=>h),by dsimp only;omega⟩
  have hkb:k=l.length:=aM hk (by simpa using hkb);have hwl:cK (l.take k)=cK l:=by rw[hkb,ah]
  rw[hwl]at hG;conv=>whnf
  refine o0 hτ (id3:=2) (id2:=1) (tH:=[(0,.vec T.gX 1 rv)]) rfl rfl rfl rfl (by simp) (by first|exact⟨rfl,trivial⟩|exact⟨rfl,rfl,trivial⟩) rfl rfl (fun ρ w' r r2 hbx=>?_);have hrow:=eJ.list ((hG.rel r (bl w)).bz fun g hg=>Cv.mono (iv':=((ρ 2).g,(ρ 2).g+1)::j6 (ρ 1) iv) hg fun p hp=>aC _ (nN p hp)) ((r.Dm (id:=1) (sz:=4) (m:=css.length) rfl hfl (by unfold maxLen;omega) (by decide) hG.one).bz fun g hg=>Cv.mono hg fun p hp=>aC _ hp);have hone:((At.w 1 css.length).den ρ).oneCell'=true:=At.FL;have hlo3:=r.low 2 _ rfl (r.fits (id:=2) rfl).1;have hC3:Cv (fun _=>False) w.heap.size (((ρ 2).g,(ρ 2).g+1)::j6 (ρ 1) iv) (ρ 2).g:=.inr ⟨hlo3.1,_,_,aH,aI _,bZ _⟩;have hmono:∀p,p∈iv->p∈((ρ 2).g,(ρ 2).g+1)::j6 (ρ 1) iv:=fun p hp=>aC _ (nN p hp);have hw2:=hw.tr r.bs;have hK1:=(hK.rel r (bl w)).bz fun g hg=>Cv.mono hg hmono;clear r2 hlo3;generalize (At.w 1 css.length).den ρ=ur at*
  generalize (ρ 2).g=gy at*
  generalize (gy,gy+1)::j6 (ρ 1) iv=iv2 at*
  conv=>whnf
  refine⟨[ur],rfl,by simpa using hone,fun ρ2 w2 r2 _=>⟨_,rfl,fun j u hu=>?_⟩,?_⟩
  ·have h5:=Rel.same r2 (fQ _) hC3;rw[dA,cell_of (h5.trans hbx)];rcases j with _|j
   ·exact hu
   ·cases hu
  conv=>whnf
  refine⟨by simp,by omega,by unfold maxLen;omega,?_⟩;conv=>whnf
  have hK2:=hK1.push hone hrow;rw[show (M.take i).map cK++[cK l]=(M.take (i+1)).map cK by rw[List.take_add_one,hl];simp]at hK2;refine⟨((i+1:Nat):Int),by rw[wrap64]<;>omega,?_⟩;conv=>whnf
  intro ρ3 w6 r3;exact⟨(i+1,rv++[ur],w6,_),⟨hib,hw2.tr r3.bs,hK2.rel r3 (bl w)⟩,Sub.gen [(0,3)] r3 ⟨rfl,trivial⟩ ⟨rfl,by dsimp only;rw[List.length_append,List.length_singleton];rfl,rfl,trivial⟩ (by simp[cY,cN.scopd,At.sc]) (by simp[cO,SV.sc,At.sc,cJ]) (by rfl) (fun lo hi h=>h),by dsimp only;omega⟩
 have hib:i=M.length:=aM hi (by simpa using hib);rw[show (M.take i).map cK=M.map cK by rw[hib,ah]]at hK;conv=>whnf
 intro ρe we re;refine⟨_,rfl,hw.tr re.bs,rv,?_,hK.1,fun i u x k1 k2=>cB.out (hK.2.2 i u x k1 k2) re (bl w)⟩;have h5:=re.gB (id:=0) (sz:=1) (m:=rv.length) rfl (by simp) (by unfold maxLen;omega) (by decide) hK.2.1;rw[show (M.map cK).length=rv.length from hK.1.symm];exact h5.bz fun g hg=>.inr hg
theorem Dn(n:Nat)(w:World)(hn:n<=1000):dQ PG N.sB #[.int .i64 n] w (dU w fun v' w2=>cB w2 (Nw (fun _=>False) w w2) v' (List.replicate n 0)):=by
 have hw:cF w.heap.size w w:=cF.refl;refine uj (by simp) ?_;conv=>whnf
 refine⟨Nat×List (List Value)×World×Iv,fun z=>⟨[(0,.o (.v (.int .i64 (n:Int)))),(3,.o (.w 0 z.2.1.length)),(4,.o (.v (.int .i64 ((z.1:Nat):Int))))],[(0,.vec T.Rat 4 z.2.1.flatten)],1,z.2.2.2,z.2.2.1⟩,fun z=>n-z.1,
  fun z=>z.1<=n∧cF w.heap.size w z.2.2.1∧eJ z.2.2.1 (Cv (fun _=>False) w.heap.size z.2.2.2) z.2.1 (List.replicate z.1 0),?_,?_⟩
 ·intro ρ w' r;exact⟨(0,[],w',[]),⟨aO _,hw.tr r.bs,eJ.nil⟩,Sub.nil 3 T.Rat 4 rfl (by simp[cO,SV.sc,At.sc,cJ]) r fun ρ1 r1=>Sub.gen [] r1 ⟨rfl,trivial⟩ ⟨rfl,rfl,rfl,trivial⟩ (by simp[cY,cN.scopd,At.sc]) (by simp[cO,SV.sc,At.sc,cJ]) (by rfl) (fun lo hi h=>h)⟩
 clear hw;rintro⟨i,css,w1,iv⟩ ⟨hi,hw,hG⟩;dsimp only at hi hw hG ⊢;have hfl:=eH hG.four;have hcl2:css.length=i:=by rw[hG.len,bR]
 conv=>whnf
 refine cW.mk (fun hib=>?_) (fun hib=>?_)
 ·have hib:i<n:=by simpa using hib
  conv=>whnf
  refine bp (cE hw (Φ:=fun _ w' v w2=>cH w2 (Nw (fun _=>False) w' w2) v (((0:Int)):Rat)) (fun ρ w' r=>gq 0 w' (by decide)) ?_);rintro ρ wa1 v1 wb1 iv1 r he hw h_ hn;replace hG:=hG.bq r (bl w) he (mC h_);have hd:=hn.cQ (S:=fun _=>False) r.bm (mN h_);clear r hn;obtain⟨s1_0,s1_1,s1_2,s1_3,s1_4,s1_5,s1_6,s1_7,rfl⟩:=hd.shape;have hG2:=hG.push (cs:=[.bool s1_0,.slice s1_1 s1_2 s1_3,.bool s1_4,.slice s1_5 s1_6 s1_7]) (q:=((0:Int):Rat)) ⟨_,_,_,_,_,_,_,_,rfl,hd⟩ rfl;rw[show List.replicate i (0:Rat)++[((0:Int):Rat)]=List.replicate (i+1) 0 by rw[List.replicate_succ'];rfl]at hG2;have hfl2:css.flatten++([.bool s1_0,.slice s1_1 s1_2 s1_3,.bool s1_4,.slice s1_5 s1_6 s1_7]:List Value)=(css++([[.bool s1_0,.slice s1_1 s1_2 s1_3,.bool s1_4,.slice s1_5 s1_6 s1_7]]:List (List Value))).flatten:=by simp
  conv=>whnf
  refine .inl ?_;conv=>whnf
  refine⟨by omega,by omega,by unfold maxLen;omega,?_⟩;conv=>whnf
  refine⟨((i+1:Nat):Int),by rw[wrap64]<;>omega,?_⟩;conv=>whnf
  intro ρ3 w6 r3;exact⟨(i+1,css++[[.bool s1_0,.slice s1_1 s1_2 s1_3,.bool s1_4,.slice s1_5 s1_6 s1_7]],w6,_),⟨hib,hw.tr r3.bs,hG2.rel r3 (bl w)⟩,Sub.gen [(0,2)] r3 ⟨by dsimp only;rw[<-hfl2];rfl,trivial⟩ ⟨rfl,by dsimp only;rw[List.length_append,List.length_singleton];rfl,rfl,trivial⟩ (by simp[cY,cN.scopd,At.sc]) (by simp[cO,SV.sc,At.sc,cJ]) (by rfl) (fun lo hi h=>h),by dsimp only;omega⟩
 have hib:i=n:=aM hi (by simpa using hib);subst hib;conv=>whnf
 intro ρe we re;refine⟨_,rfl,hw.tr re.bs,?_⟩;have h5:=re.gB (id:=0) (sz:=4) (m:=css.length) rfl hfl (by unfold maxLen;omega) (by decide) hG.one;exact eJ.list ((hG.rel re (bl w)).bz fun g hg=>Cv.nw hg re) (h5.bz fun g hg=>.inr hg)
end Go.Ex
namespace Go.Ex
theorem E4{M:List (List Int)}{r c:Nat}:l0 (M.map cK) r c=((ez M r c:Int):Rat):=by
 have key:∀l:List Int,(cK l).getD c 0=((l.getD c 0:Int):Rat):=fun l=>by
  rw[cK,List.getD,List.getD,aN]
  cases l[c]? <;>rfl
 unfold l0 ez;rw[<-key];congr 1;rw[List.getD,List.getD,aN]
 cases M[r]? <;>rfl
theorem F4(f:eX)(r c:Nat):l0 (dM f) r c=((ez (fR f) r c:Int):Rat):=E4
def F5(n:Nat)(M:List (List Int)):Prop:=∀l∈M,l.length=n
theorem F5.put{n r c:Nat}{d:Int}{M:List (List Int)}(h:F5 n M):F5 n (putAt M r c d):=fun l hl=>by
 unfold putAt at hl;rcases bA r M.length with hr|hr
 ·rcases bS hl with hl|rfl
  ·exact h l hl
  ·rw[bC,List.getD,aA hr];exact h _ (List.getElem_mem hr)
 ·rw[List.set_eq_of_length_le hr]at hl;exact h l hl
theorem xF{f:eX}{M:List (List Int)}{n i:Nat}(h:F5 n M):∀k,F5 n (da f M i k)
 |0=>h
 |k+1=>by rw[da];rw[fM,fM];exact((xF h k).put).put
theorem uN(f:eX):∀i,F5 f.cols (dD f i)
 |0=>fun l hl=>by rw[dD]at hl;rw[bF hl,bR]
 |i+1=>by rw[dD];exact xF (uN f i) 3
theorem hJ(f:eX):∀i,F5 f.cols (eA f i)
 |0=>uN f _
 |i+1=>by rw[eA];exact(hJ f i).put
theorem kz(M:List (List Int))(r c:Nat)(d:Int):(putAt M r c d).length=M.length:=bC ..
theorem pX(f:eX)(M:List (List Int))(i:Nat):∀k,(da f M i k).length=M.length
 |0=>rfl
 |k+1=>by rw[da];rw[fM,fM,kz,kz];exact pX f M i k
theorem oA(f:eX):∀i,(dD f i).length=3*f.nodes.length
 |0=>bR ..
 |i+1=>by rw[dD,pX];exact oA f i
theorem iD(f:eX):∀i,(eA f i).length=3*f.nodes.length
 |0=>oA f _
 |i+1=>by rw[eA,kz];exact iD f i
theorem tV(f:eX):qo f.cols (dM f):=fun r hr=>by
 obtain⟨l,hl,rfl⟩:=aS.1 hr;rw[cK,aK];exact hJ f _ l hl
theorem gW(f:eX):(dM f).length=3*f.nodes.length:=by rw[dM,aK];exact iD f _
structure DL(f:eX):Prop where
 co:∀p∈f.nodes,(-1000000<=p.1∧p.1<=1000000)∧(-1000000<=p.2.1∧p.2.1<=1000000)∧(-1000000<=p.2.2∧p.2.2<=1000000)
 GB:∀b∈f.bars,∃ka kb:Nat,b.1=ka∧b.2.1=kb∧ka<f.nodes.length∧kb<f.nodes.length∧ka≠kb∧0<b.2.2
 sup:∀s∈f.cG,fN s<3*f.nodes.length∧0<=s.2.2
 one:∀(i j:Nat) s t,f.cG[i]? =some s->f.cG[j]? =some t->fN s=fN t->i=j
 n:f.nodes.length<=20
 b:f.bars.length<=60
 s:f.cG.length<=60
theorem B8{α:Type}{l:List α}{x:α}(h:x∈l):∃i:Nat,l[i]? =some x:=by
 obtain⟨i,hi,rfl⟩:=List.mem_iff_getElem.1 h;exact⟨i,aA hi⟩
theorem DM{f:eX}(h:dh f=0):DL f:=by
 have hok:=lA h;obtain⟨⟨h1,h2,h3⟩,h4,h5,h6⟩:=qq h;have hsup:∀(k:Nat) s,f.cG[k]? =some s->gJ f.nodes.length s.1∧(0<=s.2.1∧s.2.1<=2)∧fu s∉(f.cG.take k).map fu∧0<=s.2.2:=fun k s hs=>nQ.1 (fw h6 k s hs);have hrow:∀(k:Nat) s,f.cG[k]? =some s->(fN s:Int)=3*s.1+s.2.1∧fN s<3*f.nodes.length:=fun k s hs=>by
  obtain⟨⟨a1,a2⟩,⟨a3,a4⟩,-,-⟩:=hsup k s hs;unfold fN;omega
 have lt:∀(i j:Nat) s t,i<j->f.cG[i]? =some s->f.cG[j]? =some t->fN s≠fN t:=fun i j s t hij hs ht e=>by
  obtain⟨⟨a1,a2⟩,⟨a3,a4⟩,-,-⟩:=hsup i s hs;obtain⟨⟨b1,b2⟩,⟨b3,b4⟩,b5,-⟩:=hsup j t ht;have e1:=(hrow i s hs).1;have e2:=(hrow j t ht).1;refine b5 (aS.2 ⟨s,aD (i:=i) (by rw[bQ hij];exact hs),?_⟩);exact Prod.ext (by show s.1=t.1;omega) (by show s.2.1=t.2.1;omega)
 refine⟨hok.co,fun b hb=>?_,fun s hs=>?_,fun i j s t hs ht e=>?_,h1,h2,h3⟩
 ·obtain⟨k,hk⟩:=B8 hb;obtain⟨⟨⟨a1,a2⟩,a3,a4⟩,a5,-,a6⟩:=kO.1 (fw h5 k b hk);exact⟨b.1.toNat,b.2.1.toNat,by omega,by omega,by omega,by omega,by omega,a6⟩
 ·obtain⟨k,hk⟩:=B8 hs;exact⟨(hrow k s hk).2,(hsup k s hk).2.2.2⟩
 ·rcases Nat.lt_trichotomy i j with h7|h7|h7
  ·exact absurd e (lt i j s t h7 hs ht)
  ·exact h7
  ·exact absurd e.symm (lt j i t s h7 ht hs)
theorem zY(M:List (List Int))(r c r' c':Nat)(d:Int):ez (putAt M r c d) r' c'=d∨ez (putAt M r c d) r' c'=ez M r' c':=by
 by_cases h:r'=r∧c'=c
 ·obtain⟨rfl,rfl⟩:=h;rcases bA r' M.length with h1|h1
  ·rcases bA c' (M.getD r' []).length with h2|h2
   ·exact .inl (zX h1 h2)
   ·refine .inr ?_;unfold ez putAt;rw[jc h1,List.set_eq_of_length_le h2]
  ·refine .inr ?_;unfold ez putAt;rw[List.set_eq_of_length_le h1]
 ·exact .inr (gN (by
   by_cases h1:r'=r
   ·exact .inr fun h2=>h ⟨h1,h2⟩
   ·exact .inl h1))
theorem zZ{f:eX}{k:Nat}(hk:k<f.nodes.length):f.node (k:Int)∈f.nodes:=by
 rw[eX.node,aB,List.getD,aA hk];exact List.getElem_mem hk
section
variable{f:eX}(h:DL f)
include h
theorem DL.HF{b:Int×Int×Rat}(hb:b∈f.bars)(k:Nat): -2000000<=(oa f b).getD k 0∧(oa f b).getD k 0<=2000000:=by
 obtain⟨ka,kb,ea,eb,hka,hkb,-,-⟩:=h.GB b hb;obtain⟨⟨a1,a2⟩,⟨a3,a4⟩,a5,a6⟩:=h.co _ (zZ hka);obtain⟨⟨b1,b2⟩,⟨b3,b4⟩,b5,b6⟩:=h.co _ (zZ hkb);rw[oa,ea,eb]
 match k with
 |0=>simp[List.getD];omega
 |1=>simp[List.getD];omega
 |2=>simp[List.getD];omega
 |k+3=>simp[List.getD]
theorem DL.z4{i:Nat}{b:Int×Int×Rat}(hb:f.bars[i]? =some b)(r:Nat):∀k,k<=3-> -2000000<=ez (da f (dD f i) i k) r i∧ez (da f (dD f i) i k) r i<=2000000
 |0,_=>by
  have:=jd f (r:=r) i (aI i);rw[da,this];omega
 |k+1,hk=>by
  obtain⟨ka,kb,ea,eb,-,-,hne,-⟩:=h.GB b (aD hb);have ih:=DL.z4 hb r k (by omega);have hd:=h.HF (aD hb) k;have z1:=ky (r:=3*ka+k) hb ea eb (show k<=3 by omega) (by omega);have z2:=ky (r:=3*kb+k) hb ea eb (show k<=3 by omega) (by omega);rw[da];rw[xr hb,toNat_add ea,toNat_add eb,fM,fM,z1,gN (r':=3*kb+k) (.inl (by omega)),z2];rcases zY (putAt (da f (dD f i) i k) (3*ka+k) i (0+(oa f b).getD k 0)) (3*kb+k) i r i (0+ -(oa f b).getD k 0)with e|e
  ·rw[e];omega
  ·rw[e];rcases zY (da f (dD f i) i k) (3*ka+k) i r i (0+(oa f b).getD k 0)with e|e
   ·rw[e];omega
   ·rw[e];exact ih
theorem DL.B9{i r:Nat}(hi:i<f.bars.length):∀j,i<j->j<=f.bars.length-> -2000000<=ez (dD f j) r i∧ez (dD f j) r i<=2000000
 |0,h1,_=>by omega
 |j+1,h1,h2=>by
  rw[dD];rcases bA i j with h3|h3
  ·rw[qp (by omega)];exact DL.B9 hi j h3 (by omega)
  ·rw[show j=i by omega];exact h.z4 (aA hi) r 3 (aI _)
theorem DL.F6{r i:Nat}{s:Int×Int×Rat}(hs:f.cG[i]? =some s):ez (fR f) r (f.bars.length+i)=if r=fN s then 1 else 0:=
 xE (hJ f) (iD f) (fun s hs=>(h.sup s hs).1) hs _ (aE.1 hs).1
theorem DL.F7(r c:Nat): -2000000<=ez (fR f) r c∧ez (fR f) r c<=2000000:=by
 rcases bA c f.bars.length with hc|hc
 ·rw[fR,uM hc];exact h.B9 hc _ hc (aI _)
 ·rcases bA c f.cols with h1|h1
  ·obtain⟨i,rfl⟩:∃i,c=f.bars.length+i:=⟨c-f.bars.length,by omega⟩
   rw[eX.cols]at h1;rw[h.F6 (aA (show i<f.cG.length by omega))];split<;>omega
  ·have:ez (fR f) r c=0:=by
    unfold ez;rw[List.getD,List.getElem?_eq_none]
    ·rfl
    ·rcases bA r (fR f).length with h2|h2
     ·rw[List.getD,aA h2];show((fR f)[r]).length<=c;rw[hJ f _ _ (List.getElem_mem h2)];exact h1
     ·rw[List.getD,List.getElem?_eq_none h2];exact aO _
   rw[this];omega
theorem DL.DN(r c:Nat):Ib 2000000 (l0 (dM f) r c):=by
 rw[F4];have:=h.F7 r c;exact Ib.int (by omega)
end
theorem CO{M:List (List Rat)}{n k:Nat}(hk:k<n):(dR M n).getD k []=M.map fun r=>r.getD k 0:=by
 unfold dR;exact getD_some (by rw[aN,List.getElem?_range hk];rfl)
theorem DO{M:List (List Rat)}{n k i:Nat}(hk:k<n):l0 (dR M n) k i=l0 M i k:=by
 rw[l0,l0,CO hk];rcases bA i M.length with h|h
 ·have hr:=aA h;rw[getD_some (show (M.map fun r=>r.getD k 0)[i]? =some (M[i].getD k 0) by rw[aN,hr];rfl),getD_some hr]
 ·rw[DK (by rw[aK];exact h),show M.getD i []=[] by rw[List.getD,List.getElem?_eq_none h];rfl];rfl
theorem nR(M:List (List Rat))(n:Nat):qo M.length (dR M n):=fun r hr=>by
 obtain⟨k,_,rfl⟩:=aS.1 hr;exact aK ..
theorem ix(M:List (List Rat))(n:Nat):(dR M n).length=n:=by simp[dR]
section
variable{M:List (List Rat)}{n:Nat}
end
section
variable{M:List (List Rat)}{n:Nat}{fl b:List Rat}
end
end Go.Ex
namespace Go.Ex
open Go Go.Sx Go.Proofs
section
variable{S S':Nat->Prop}{H:Hp}{nx:Nat}{iv iv':Iv}{B:Nat}{w w' w2:World}{ρ:Nat->Sx.dN}{v:Value}{M:List (List Int)}
theorem kc.rel(h:kc w (Cv S B iv) v M)(r:Rel H nx iv B w ρ w')(hS:∀g,S g->g<B):kc w' (Cv S B iv) v M:=kc.bu h fun _ hg=>Rel.same r hS hg
theorem kc.bq(h:kc w (Cv S B iv) v M)(r:Rel H nx iv B w ρ w')(hS:∀g,S g->g<B)(he:Ext w' w2)(hm:∀p,p∈iv->p∈iv'):kc w2 (Cv S B iv') v M:=
 kc.bz ((kc.rel h r hS).bu fun g hg=>he.block g (Rel.old r hS g hg)) fun _ hg=>hg.mono hm
theorem kc.cQ(h:kc w2 (Nw (fun _=>False) w' w2) v M)(hB:B<=w'.heap.size)(hm:(w'.heap.size,w2.heap.size)∈iv):kc w2 (Cv S B iv) v M:=kc.bz h fun _ hg=>hg.cQ hB hm
end
theorem BI(Z:List (List Int))(k:Nat):cK (Z.map fun l=>l.getD k 0)=(Z.map cK).map fun r=>r.getD k 0:=by
 rw[cK,List.map_map,List.map_map];refine List.map_congr_left fun l _=>?_;show((l.getD k 0:Int):Rat)=(cK l).getD k 0;rw[cK,List.getD,List.getD,aN]
 cases l[k]? <;>rfl
theorem AG(M:List (List Rat))(k:Nat):dR M k++[M.map fun r=>r.getD k 0]=dR M (k+1):=by
 rw[dR,dR,bf,List.map_append];rfl
set_option maxHeartbeats 1000000 in
theorem Ca{S:Nat->Prop}{w:World}{vn vb vs:Value}{f:eX}(hS:Old S w)(hf:dE w S vn vb vs f)(herr:dh f=0):
  dQ PG N.pn #[.agg #[vn,vb,vs]] w (dU w fun v' w2=>cI w2 (Nw (fun _=>False) w w2) v' (dR (dM f) f.cols)):=by
 have hw:cF w.heap.size w w:=cF.refl;have hv:=DM herr;obtain⟨an,cn,ab,cb,aq,cq,rfl,rfl,rfl,hmn,hmb,hms⟩:=hf.shape;obtain⟨hn20,hb60,hs60⟩:=And.intro hv.n (And.intro hv.b hv.s);have hcols:f.cols=f.bars.length+f.cG.length:=rfl;have hZl:(fR f).length=3*f.nodes.length:=iD f _;refine si (by simp) ?_;conv=>whnf
 refine bp (cE hw (Φ:=fun _ w' v w2=>kc w2 (Nw (fun _=>False) w' w2) v (fR f)∧AX (fR f) 2000000) (fun ρ w' r=>xZ (S:=S) (fun g hg=>by have:=hS g hg;have:=r.bm;omega) (hf.bu fun g hg=>(hw.tr r.bs).block g (hS g hg)) herr) ?_);rintro ρ wa1 v1 wb1 iv1 r he hw h_ ⟨hn,hbd⟩;have hM:=kc.cQ (S:=fun _=>False) hn r.bm (mN h_);clear r;clear hn;obtain⟨am,cm,rfl,-,hmm⟩:=dS.shape hM;obtain⟨Z,hZ⟩:∃Z,fR f=Z:=⟨_,rfl⟩
 have htab:dM f=Z.map cK:=by rw[dM,hZ]
 have hwid:∀l∈Z,l.length=f.cols:=by rw[<-hZ];exact hJ f _
 rw[hZ]at hM hbd hZl hmm ⊢;conv=>whnf
 refine⟨Nat×List Value×World×Iv,fun z=>⟨[(1,.o (.p 0 0)),(3,.o (.v (.slice am Z.length cm))),(4,.o (.w 1 z.2.1.length)),(5,.o (.v (.int .i64 ((z.1:Nat):Int))))],[(1,.vec T.gX 1 z.2.1),(0,.box T.Frame [.v (.slice an f.nodes.length cn),.v (.slice ab f.bars.length cb),.v (.slice aq f.cG.length cq)])],2,z.2.2.2,z.2.2.1⟩,fun z=>f.cols-z.1,
  fun z=>z.1<=f.cols∧cF w.heap.size w z.2.2.1∧kc z.2.2.1 (Cv (fun _=>False) w.heap.size z.2.2.2) (.slice am Z.length cm) Z∧dP z.2.2.1 (Cv (fun _=>False) w.heap.size z.2.2.2) z.2.1 (dR (Z.map cK) z.1),?_,?_⟩
 ·intro ρ w' r;exact⟨(0,[],w',_),⟨aO _,hw.tr r.bs,kc.rel hM r (bl w),by simp[dP,dR]⟩,Sub.nil 4 T.gX 1 rfl (by simp[cO,SV.sc,At.sc,cJ]) r fun ρ1 r1=>Sub.gen [] r1 ⟨rfl,rfl,trivial⟩ ⟨rfl,rfl,rfl,rfl,trivial⟩ (by simp[cY,cN.scopd,At.sc]) (by simp[cO,SV.sc,At.sc,cJ]) (by rfl) (fun lo hi h=>h)⟩
 clear hw hM;rintro⟨k,rv,w1,iv⟩ ⟨hk,hw,hM,hK⟩;dsimp only at hk hw hM hK ⊢;have hrl:rv.length=k:=by rw[hK.1,gQ]
 conv=>whnf
 refine bp (cE hw (Φ:=fun _ w' v w2=>v= .int .i64 f.cols) (fun ρ w' r=>jt (hf.bu fun g hg=>(hw.tr r.bs).block g (hS g hg)) ⟨hb60,hs60⟩) ?_);rintro ρ wa2 v2 wb2 iv2 r he hw h_ rfl;replace hM:=kc.bq hM r (bl w) he (mC h_);replace hK:=hK.bq r (bl w) he (mC h_);clear r;conv=>whnf
 refine cW.mk (fun hkb=>?_) (fun hkb=>?_)
 ·have hkb:k<f.cols:=by simpa using hkb
  conv=>whnf
  refine⟨Nat×List (List Value)×World×Iv,fun z=>⟨[(1,.o (.p 0 0)),(3,.o (.v (.slice am Z.length cm))),(4,.o (.w 1 rv.length)),(5,.o (.v (.int .i64 ((k:Nat):Int)))),(6,.o (.w 2 z.2.1.length)),(7,.o (.v (.int .i64 ((z.1:Nat):Int))))],[(2,.vec T.Rat 4 z.2.1.flatten),(1,.vec T.gX 1 rv),(0,.box T.Frame [.v (.slice an f.nodes.length cn),.v (.slice ab f.bars.length cb),.v (.slice aq f.cG.length cq)])],3,z.2.2.2,z.2.2.1⟩,fun z=>Z.length-z.1,
   fun z=>z.1<=Z.length∧cF w.heap.size w z.2.2.1∧kc z.2.2.1 (Cv (fun _=>False) w.heap.size z.2.2.2) (.slice am Z.length cm) Z∧dP z.2.2.1 (Cv (fun _=>False) w.heap.size z.2.2.2) rv (dR (Z.map cK) k)∧eJ z.2.2.1 (Cv (fun _=>False) w.heap.size z.2.2.2) z.2.1 (cK ((Z.map fun l=>l.getD k 0).take z.1)),?_,?_⟩
  ·intro ρ w' r;exact⟨(0,[],w',_),⟨aO _,hw.tr r.bs,kc.rel hM r (bl w),hK.rel r (bl w),eJ.nil⟩,Sub.nil 6 T.Rat 4 rfl (by simp[cO,SV.sc,At.sc,cJ]) r fun ρ1 r1=>Sub.gen [] r1 ⟨rfl,rfl,rfl,trivial⟩ ⟨rfl,rfl,rfl,rfl,rfl,rfl,trivial⟩ (by simp[cY,cN.scopd,At.sc]) (by simp[cO,SV.sc,At.sc,cJ]) (by rfl) (fun lo hi h=>h)⟩
  clear hw hM hK;rintro⟨i,css,w3,iv⟩ ⟨hi,hw,hM,hK,hG⟩;dsimp only at hi hw hM hK hG ⊢;have hfl:=eH hG.four;have hcl2:css.length=i:=by rw[hG.len,cK,aK,aW,aK];omega
  conv=>whnf
  refine cW.mk (fun hib=>?_) (fun hib=>?_)
  ·have hib:i<Z.length:=by simpa using hib
   obtain⟨l,hl⟩:∃x,Z[i]? =some x:=⟨_,aA hib⟩
   have hlw:=hwid l (aD hl);obtain⟨z,hz⟩:∃x,l[k]? =some x:=⟨_,aA (by omega)⟩
   have hzb:=hbd l (aD hl) z (aD hz);have hcol:(Z.map fun l=>l.getD k 0)[i]? =some z:=by rw[aN,hl];show some (l.getD k 0)=_;rw[List.getD,hz];rfl
   obtain⟨adm,um,ham,hRm,km1,km2⟩:=dS.load hM hl;obtain⟨al,cl,rfl,-,hml⟩:=hRm.shape;obtain⟨adx,hax,hSx,hlx⟩:=yq.at hRm hz;conv=>whnf
   refine⟨adm,ham,⟨by omega,by omega⟩,?_⟩;conv=>whnf
   refine⟨.slice al l.length cl,fun ρ w' r=>?_,?_⟩
   ·rw[aB,bo (w:=w3) (w2:=w') (by rw[cC];exact Rel.same r (bl w) km1)];exact km2
   conv=>whnf
   refine⟨adx,hax,⟨by omega,by omega⟩,?_⟩;conv=>whnf
   refine⟨.int .i64 z,fun ρ w' r=>?_,?_⟩
   ·rw[aB,bo (w:=w3) (w2:=w') (by rw[cC];exact Rel.same r (bl w) hSx)];exact hlx
   conv=>whnf
   clear hRm km1 km2 hSx hlx;refine bp (cE hw (Φ:=fun _ w' v w2=>cH w2 (Nw (fun _=>False) w' w2) v (z:Rat)) (fun ρ w' r=>gq z w' (by omega)) ?_);rintro ρ wa3 v3 wb3 iv3 r he hw h_ hn;replace hM:=kc.bq hM r (bl w) he (mC h_);replace hK:=hK.bq r (bl w) he (mC h_);replace hG:=hG.bq r (bl w) he (mC h_);have hd:=hn.cQ (S:=fun _=>False) r.bm (mN h_);clear r;obtain⟨s3_0,s3_1,s3_2,s3_3,s3_4,s3_5,s3_6,s3_7,rfl⟩:=hd.shape;conv=>whnf
   have hG2:=hG.push (cs:=[.bool s3_0,.slice s3_1 s3_2 s3_3,.bool s3_4,.slice s3_5 s3_6 s3_7]) (q:=(z:Rat)) ⟨_,_,_,_,_,_,_,_,rfl,hd⟩ rfl;rw[<-lW hcol]at hG2;have hfl2:css.flatten++([.bool s3_0,.slice s3_1 s3_2 s3_3,.bool s3_4,.slice s3_5 s3_6 s3_7]:List Value)=(css++([[.bool s3_0,.slice s3_1 s3_2 s3_3,.bool s3_4,.slice s3_5 s3_6 s3_7]]:List (List Value))).flatten:=by simp
   refine .inl ?_;conv=>whnf
   refine⟨by omega,by omega,by unfold maxLen;omega,?_⟩;conv=>whnf
   refine⟨((i+1:Nat):Int),by rw[wrap64]<;>omega,?_⟩;conv=>whnf
   intro ρ3 w6 r3;exact⟨(i+1,css++[[.bool s3_0,.slice s3_1 s3_2 s3_3,.bool s3_4,.slice s3_5 s3_6 s3_7]],w6,_),⟨hib,hw.tr r3.bs,kc.rel hM r3 (bl w),hK.rel r3 (bl w),hG2.rel r3 (bl w)⟩,Sub.gen [(2,4)] r3 ⟨by dsimp only;rw[<-hfl2];rfl,rfl,rfl,trivial⟩ ⟨rfl,rfl,rfl,rfl,by dsimp only;rw[List.length_append,List.length_singleton];rfl,rfl,trivial⟩ (by simp[cY,cN.scopd,At.sc]) (by simp[cO,SV.sc,At.sc,cJ]) (by rfl) (fun lo hi h=>h),by dsimp only;omega⟩
  have hib:i=Z.length:=aM hi (by simpa using hib);have hwl:cK ((Z.map fun l=>l.getD k 0).take i)=(Z.map cK).map fun r=>r.getD k 0:=by rw[hib,<-aK (f:=fun l:List Int=>l.getD k 0),ah,BI]
  rw[hwl]at hG;conv=>whnf
  refine o0 hτ (id3:=3) (id2:=2) (tH:=[(1,.vec T.gX 1 rv),(0,.box T.Frame [.v (.slice an f.nodes.length cn),.v (.slice ab f.bars.length cb),.v (.slice aq f.cG.length cq)])]) rfl rfl rfl rfl (by simp) (by first|exact⟨rfl,trivial⟩|exact⟨rfl,rfl,trivial⟩) rfl rfl (fun ρ w' r r2 hbx=>?_);have hrow:=eJ.list ((hG.rel r (bl w)).bz fun g hg=>Cv.mono (iv':=((ρ 3).g,(ρ 3).g+1)::j6 (ρ 2) iv) hg fun p hp=>aC _ (nN p hp)) ((r.Dm (id:=2) (sz:=4) (m:=css.length) rfl hfl (by unfold maxLen;omega) (by decide) hG.one).bz fun g hg=>Cv.mono hg fun p hp=>aC _ hp);have hone:((At.w 2 css.length).den ρ).oneCell'=true:=At.FL;have hlo3:=r.low 3 _ rfl (r.fits (id:=3) rfl).1;have hC3:Cv (fun _=>False) w.heap.size (((ρ 3).g,(ρ 3).g+1)::j6 (ρ 2) iv) (ρ 3).g:=.inr ⟨hlo3.1,_,_,aH,aI _,bZ _⟩;have hmono:∀p,p∈iv->p∈((ρ 3).g,(ρ 3).g+1)::j6 (ρ 2) iv:=fun p hp=>aC _ (nN p hp);have hw2:=hw.tr r.bs;have hK1:=(hK.rel r (bl w)).bz fun g hg=>Cv.mono hg hmono;have hM1:=kc.bz (kc.rel hM r (bl w)) fun g hg=>Cv.mono hg hmono;clear r2 hlo3;generalize (At.w 2 css.length).den ρ=ur at*
  generalize (ρ 3).g=gy at*
  generalize (gy,gy+1)::j6 (ρ 2) iv=iv2 at*
  conv=>whnf
  refine⟨[ur],rfl,by simpa using hone,fun ρ2 w2 r2 _=>⟨_,rfl,fun j u hu=>?_⟩,?_⟩
  ·have h5:=Rel.same r2 (fQ _) hC3;rw[dA,cell_of (h5.trans hbx)];rcases j with _|j
   ·exact hu
   ·cases hu
  conv=>whnf
  refine⟨by simp,by omega,by unfold maxLen;omega,?_⟩;conv=>whnf
  have hK2:=hK1.push hone hrow;rw[AG]at hK2;refine⟨((k+1:Nat):Int),by rw[wrap64]<;>omega,?_⟩;conv=>whnf
  intro ρ3 w6 r3;exact⟨(k+1,rv++[ur],w6,_),⟨hkb,hw2.tr r3.bs,kc.rel hM1 r3 (bl w),hK2.rel r3 (bl w)⟩,Sub.gen [(1,4)] r3 ⟨rfl,rfl,trivial⟩ ⟨rfl,rfl,by dsimp only;rw[List.length_append,List.length_singleton];rfl,rfl,trivial⟩ (by simp[cY,cN.scopd,At.sc]) (by simp[cO,SV.sc,At.sc,cJ]) (by rfl) (fun lo hi h=>h),by dsimp only;omega⟩
 have hkb:k=f.cols:=aM hk (by simpa using hkb);rw[hkb]at hK;rw[htab];conv=>whnf
 intro ρe we re;refine⟨_,rfl,hw.tr re.bs,rv,?_,hK.1,fun i u x k1 k2=>cB.out (hK.2.2 i u x k1 k2) re (bl w)⟩;have h5:=re.gB (id:=1) (sz:=1) (m:=rv.length) rfl (by simp) (by unfold maxLen;omega) (by decide) hK.2.1;rw[show (dR (Z.map cK) f.cols).length=rv.length from hK.1.symm];exact h5.bz fun g hg=>.inr hg
set_option maxHeartbeats 1000000 in
theorem x4{S:Nat->Prop}{w:World}{vn vb vs vl:Value}{f:eX}{l:List Ld}(hS:Old S w)(hf:dE w S vn vb vs f)(hl:eh w S vl l)(hn20:f.nodes.length<=20)(hok:qS f.nodes.length l):
  dQ PG N.p8 #[.agg #[vn,vb,vs],vl] w (dU w fun v' w2=>cB w2 (Nw (fun _=>False) w w2) v' (e9 f l)):=by
 have hw:cF w.heap.size w w:=cF.refl;obtain⟨an,cn,ab,cb,aq,cq,rfl,rfl,rfl,hmn,hmb,hms⟩:=hf.shape;obtain⟨al,cl,rfl,hcl,hml⟩:=hl.shape;have hl200:=hok.len;refine s6 (by simp) ?_;conv=>whnf
 refine⟨((3*f.nodes.length:Nat):Int),by rw[wrap64]<;>omega,?_⟩;conv=>whnf
 obtain⟨m,hm⟩:∃m,3*f.nodes.length=m:=⟨_,rfl⟩
 rw[hm];refine⟨m,m,rfl,rfl,aI _,by omega,by omega,?_⟩;conv=>whnf
 refine⟨Nat×World,fun z=>⟨[(1,.o (.v (.slice al l.length cl))),(5,.o (.s 1 0 m m)),(6,.o (.v (.int .i64 ((z.1:Nat):Int))))],[(1,.arr T.int (zv (eL f.nodes.length l z.1)))],2,[],z.2⟩,fun z=>l.length-z.1,
  fun z=>z.1<=l.length∧cF w.heap.size w z.2∧EV (eL f.nodes.length l z.1) (3000000*z.1),?_,?_⟩
 ·intro ρ w' r3;exact⟨(0,w'),⟨aO _,hw.tr r3.bs,fun z hz=>by rw[eL]at hz;rw[bF hz];exact⟨Int.le_refl _,Int.le_refl _⟩⟩,Sub.gen [] r3 ⟨by dsimp only;rw[eL,hm,zv,List.map_replicate];rfl,trivial⟩ ⟨rfl,rfl,rfl,trivial⟩ (by simp[cY,cN.scopd,At.sc]) (by simp[cO,SV.sc,At.sc,cJ]) (by rfl) (fun lo hi h=>h)⟩
 clear hw;rintro⟨i,w1⟩ ⟨hi,hw,hbd⟩;dsimp only at hi hw hbd ⊢;conv=>whnf
 refine cW.mk (fun hib=>?_) (fun hib=>?_)
 ·have hib:i<l.length:=by simpa using hib
  obtain⟨x,hx⟩:∃x,l[i]? =some x:=⟨_,aA hib⟩
  obtain⟨hn,hx1,hx2,hx3⟩:=hok.ld x (aD hx);obtain⟨kn,hkn⟩:=Int.eq_ofNat_of_zero_le hn.1;obtain⟨adx,cs,hax,hP,-,hlx⟩:=hl.load (by decide) hx;have hP:cs=[.int .i64 x.1,.int .i64 x.2.1,.int .i64 x.2.2.1,.int .i64 x.2.2.2]:=hP;subst hP;obtain⟨s0,hs0⟩:∃s,eL f.nodes.length l i=s:=⟨_,rfl⟩
  rw[hs0]at hbd;have hsl:s0.length=m:=by rw[<-hs0,iA,hm]
  obtain⟨z0,hz0⟩:∃z,s0[3*kn]? =some z:=⟨_,aA (by omega)⟩
  obtain⟨z1,hz1⟩:∃z,s0[3*kn+1]? =some z:=⟨_,aA (by omega)⟩
  obtain⟨z2,hz2⟩:∃z,s0[3*kn+2]? =some z:=⟨_,aA (by omega)⟩
  have b0:=hbd z0 (aD hz0);have b1:=hbd z1 (aD hz1);have b2:=hbd z2 (aD hz2);have n1:eu s0 x 1=s0.set (3*kn) (z0+x.2.1):=(js (k:=0) (j:=3*kn) (by omega) rfl hz0).symm;have n2:eu s0 x 2=(s0.set (3*kn) (z0+x.2.1)).set (3*kn+1) (z1+x.2.2.1):=by
   rw[<-n1];exact(js (k:=1) (j:=3*kn+1) (by omega) rfl (by rw[n1,ai (by omega)];exact hz1)).symm
  have n3:eu s0 x 3=((s0.set (3*kn) (z0+x.2.1)).set (3*kn+1) (z1+x.2.2.1)).set (3*kn+2) (z2+x.2.2.2):=by
   rw[<-n2];exact(js (k:=2) (j:=3*kn+2) (by omega) rfl (by rw[n2,ai (by omega),ai (by omega)];exact hz2)).symm
  have hnx:eu s0 x 3=eL f.nodes.length l (i+1):=by rw[eL,show l.getD i (0,0,0,0)=x by rw[List.getD,hx];rfl,hs0]
  have hbd1:=hbd.set (j:=3*kn) (z:=z0+x.2.1) (t2:=3000000*i+1000000) (by omega) (by omega);have hbd2:=hbd1.set (j:=3*kn+1) (z:=z1+x.2.2.1) (t2:=3000000*i+2000000) (by omega) (by omega);have hbd3:=hbd2.set (j:=3*kn+2) (z:=z2+x.2.2.2) (t2:=3000000*i+3000000) (by omega) (by omega);rw[<-n3,hnx]at hbd3;rw[hs0];clear hbd hbd1 hbd2;conv=>whnf
  refine⟨adx,hax,⟨by omega,by omega⟩,?_⟩;conv=>whnf
  refine⟨.int .i64 x.1,fun ρ w' r=>?_,?_⟩
  ·obtain⟨k1,k2⟩:=hlx 0 _ rfl;rw[bo (w:=w) (w2:=w') (by simp only[cC];exact(hw.tr r.bs).block _ (hS _ k1))];simp only[aB,iW]at k2 ⊢;exact k2
  conv=>whnf
  refine⟨((3*kn:Nat):Int),by rw[wrap64]<;>omega,?_⟩;conv=>whnf
  refine bw hτ dH [.x 0,.x 1,.x 2,.x 3,.x 4,.x 5,.x 6,.x 7,.x 8,.x 9,.x 10,.x 11,.x 12,.x 13,.x 14,.x 15,.x 16,.x 17,.x 18,.x 19,.x 20,.x 21,.x 22,.x 23,.x 24,.x 25,.x 26,.x 27,.x 28,.x 29,.x 30,.x 31,.x 32,.x 33,.x 34,.x 35,.x 36,.x 37,.x 38,.x 39,.x 40,.x 41,.x 42,.x 43,.x 44,.x 45] (by kernel_rfl) (by kernel_rfl) ?_;conv=>whnf
  refine⟨((3*kn+1:Nat):Int),by rw[wrap64]<;>omega,?_⟩;conv=>whnf
  refine⟨((3*kn+2:Nat):Int),by rw[wrap64]<;>omega,?_⟩;conv=>whnf
  refine⟨⟨by omega,by omega⟩,?_⟩;conv=>whnf
  refine⟨.int .i64 z0,by rw[aB,aR,aP];exact xT hz0,?_⟩;conv=>whnf
  refine⟨adx,hax,⟨by omega,by omega⟩,?_⟩;conv=>whnf
  refine⟨.int .i64 x.2.1,fun ρ w' r=>?_,?_⟩
  ·obtain⟨k1,k2⟩:=hlx 1 _ rfl;rw[bo (w:=w) (w2:=w') (by simp only[cC];exact(hw.tr r.bs).block _ (hS _ k1))];simp only[aB,iW]at k2 ⊢;exact k2
  conv=>whnf
  refine⟨z0+x.2.1,by rw[wrap64]<;>omega,?_⟩;conv=>whnf
  refine⟨((3*kn+1:Nat):Int),by rw[wrap64]<;>omega,?_⟩;conv=>whnf
  refine⟨⟨by omega,by omega⟩,?_⟩;conv=>whnf
  refine⟨.int .i64 z1,by rw[aB,aR,aP];exact xT hz1,?_⟩;conv=>whnf
  refine⟨adx,hax,⟨by omega,by omega⟩,?_⟩;conv=>whnf
  refine⟨.int .i64 x.2.2.1,fun ρ w' r=>?_,?_⟩
  ·obtain⟨k1,k2⟩:=hlx 2 _ rfl;rw[bo (w:=w) (w2:=w') (by simp only[cC];exact(hw.tr r.bs).block _ (hS _ k1))];simp only[aB,iW]at k2 ⊢;exact k2
  conv=>whnf
  refine⟨z1+x.2.2.1,by rw[wrap64]<;>omega,?_⟩;conv=>whnf
  refine⟨((3*kn+2:Nat):Int),by rw[wrap64]<;>omega,?_⟩;conv=>whnf
  refine⟨⟨by omega,by omega⟩,?_⟩;conv=>whnf
  refine⟨.int .i64 z2,by rw[aB,aR,aP];exact xT hz2,?_⟩;conv=>whnf
  refine⟨adx,hax,⟨by omega,by omega⟩,?_⟩;conv=>whnf
  refine⟨.int .i64 x.2.2.2,fun ρ w' r=>?_,?_⟩
  ·obtain⟨k1,k2⟩:=hlx 3 _ rfl;rw[bo (w:=w) (w2:=w') (by simp only[cC];exact(hw.tr r.bs).block _ (hS _ k1))];simp only[aB,iW]at k2 ⊢;exact k2
  conv=>whnf
  refine⟨z2+x.2.2.2,by rw[wrap64]<;>omega,?_⟩;conv=>whnf
  refine⟨⟨by omega,by omega⟩,?_⟩;conv=>whnf
  refine⟨by rw[yX];(try rw[bC]);(try rw[bC]);omega,zv ((s0).set (3*kn) (z0+x.2.1)),?_,?_⟩
  ·rw[aB,aR,aP];exact yY (by (try rw[bC]);(try rw[bC]);omega)
  conv=>whnf
  refine⟨⟨by omega,by omega⟩,?_⟩;conv=>whnf
  refine⟨by rw[yX];(try rw[bC]);(try rw[bC]);omega,zv (((s0).set (3*kn) (z0+x.2.1)).set (3*kn+1) (z1+x.2.2.1)),?_,?_⟩
  ·rw[aB,aR,aP];exact yY (by (try rw[bC]);(try rw[bC]);omega)
  conv=>whnf
  refine⟨⟨by omega,by omega⟩,?_⟩;conv=>whnf
  refine⟨by rw[yX];(try rw[bC]);(try rw[bC]);omega,zv ((((s0).set (3*kn) (z0+x.2.1)).set (3*kn+1) (z1+x.2.2.1)).set (3*kn+2) (z2+x.2.2.2)),?_,?_⟩
  ·rw[aB,aR,aP];exact yY (by (try rw[bC]);(try rw[bC]);omega)
  conv=>whnf
  refine⟨((i+1:Nat):Int),by rw[wrap64]<;>omega,?_⟩;conv=>whnf
  intro ρ3 w6 r3;exact⟨(i+1,w6),⟨hib,hw.tr r3.bs,fun z hz=>by have:=hbd3 z hz;dsimp only;omega⟩,Sub.gen [] r3 ⟨by dsimp only;rw[<-hnx,n3];rfl,trivial⟩ ⟨rfl,rfl,rfl,trivial⟩ (by simp[cY,cN.scopd,At.sc]) (by simp[cO,SV.sc,At.sc,cJ]) (by rfl) (fun lo hi h=>h),by dsimp only;omega⟩
 have hib:i=l.length:=aM hi (by simpa using hib);subst hib;obtain⟨s0,hs0⟩:∃s,eL f.nodes.length l l.length=s:=⟨_,rfl⟩
 have hsl:s0.length=m:=by rw[<-hs0,iA,hm]
 rw[hs0]at hbd ⊢;conv=>whnf
 refine⟨Nat×List (List Value)×World×Iv,fun z=>⟨[(5,.o (.s 1 0 m m)),(8,.o (.w 2 z.2.1.length)),(9,.o (.v (.int .i64 ((z.1:Nat):Int))))],[(2,.vec T.Rat 4 z.2.1.flatten),(1,.arr T.int (zv s0))],3,z.2.2.2,z.2.2.1⟩,fun z=>m-z.1,
  fun z=>z.1<=m∧cF w.heap.size w z.2.2.1∧eJ z.2.2.1 (Cv (fun _=>False) w.heap.size z.2.2.2) z.2.1 (cK (s0.take z.1)),?_,?_⟩
 ·intro ρ w' r;exact⟨(0,[],w',_),⟨aO _,hw.tr r.bs,eJ.nil⟩,Sub.nil 8 T.Rat 4 rfl (by simp[cO,SV.sc,At.sc,cJ]) r fun ρ1 r1=>Sub.gen [] r1 ⟨rfl,rfl,trivial⟩ ⟨rfl,rfl,rfl,trivial⟩ (by simp[cY,cN.scopd,At.sc]) (by simp[cO,SV.sc,At.sc,cJ]) (by rfl) (fun lo hi h=>h)⟩
 clear hw;rintro⟨i,css,w1,iv⟩ ⟨hi,hw,hG⟩;dsimp only at hi hw hG ⊢;have hfl:=eH hG.four;have hcl2:css.length=i:=by rw[hG.len,cK,aK,aW];omega
 conv=>whnf
 refine cW.mk (fun hib=>?_) (fun hib=>?_)
 ·have hib:i<m:=by simpa using hib
  obtain⟨z,hz⟩:∃z,s0[i]? =some z:=⟨_,aA (by omega)⟩
  have hzb:=hbd z (aD hz);conv=>whnf
  refine⟨⟨by omega,by omega⟩,?_⟩;conv=>whnf
  refine⟨.int .i64 z,by rw[aB,aR,aP];exact xT hz,?_⟩;conv=>whnf
  refine bp (cE hw (Φ:=fun _ w' v w2=>cH w2 (Nw (fun _=>False) w' w2) v (z:Rat)) (fun ρ w' r=>gq z w' (by omega)) ?_);rintro ρ wa1 v1 wb1 iv1 r he hw h_ hn;replace hG:=hG.bq r (bl w) he (mC h_);have hd:=hn.cQ (S:=fun _=>False) r.bm (mN h_);clear r hn;obtain⟨s1_0,s1_1,s1_2,s1_3,s1_4,s1_5,s1_6,s1_7,rfl⟩:=hd.shape;conv=>whnf
  have hG2:=hG.push (cs:=[.bool s1_0,.slice s1_1 s1_2 s1_3,.bool s1_4,.slice s1_5 s1_6 s1_7]) (q:=(z:Rat)) ⟨_,_,_,_,_,_,_,_,rfl,hd⟩ rfl;rw[<-lW hz]at hG2;have hfl2:css.flatten++([.bool s1_0,.slice s1_1 s1_2 s1_3,.bool s1_4,.slice s1_5 s1_6 s1_7]:List Value)=(css++([[.bool s1_0,.slice s1_1 s1_2 s1_3,.bool s1_4,.slice s1_5 s1_6 s1_7]]:List (List Value))).flatten:=by simp
  refine .inl ?_;conv=>whnf
  refine⟨by omega,by omega,by unfold maxLen;omega,?_⟩;conv=>whnf
  refine⟨((i+1:Nat):Int),by rw[wrap64]<;>omega,?_⟩;conv=>whnf
  intro ρ3 w6 r3;exact⟨(i+1,css++[[.bool s1_0,.slice s1_1 s1_2 s1_3,.bool s1_4,.slice s1_5 s1_6 s1_7]],w6,_),⟨hib,hw.tr r3.bs,hG2.rel r3 (bl w)⟩,Sub.gen [(2,4)] r3 ⟨by dsimp only;rw[<-hfl2];rfl,rfl,trivial⟩ ⟨rfl,by dsimp only;rw[List.length_append,List.length_singleton];rfl,rfl,trivial⟩ (by simp[cY,cN.scopd,At.sc]) (by simp[cO,SV.sc,At.sc,cJ]) (by rfl) (fun lo hi h=>h),by dsimp only;omega⟩
 have hib:i=m:=aM hi (by simpa using hib);have hwl:cK (s0.take i)=e9 f l:=by rw[e9,hs0,hib,<-hsl,ah]
 rw[hwl]at hG;conv=>whnf
 intro ρe we re;refine⟨_,rfl,hw.tr re.bs,?_⟩;have h5:=re.gB (id:=2) (sz:=4) (m:=css.length) rfl hfl (by unfold maxLen;omega) (by decide) hG.one;exact eJ.list ((hG.rel re (bl w)).bz fun g hg=>Cv.nw hg re) (h5.bz fun g hg=>.inr hg)
end Go.Ex
namespace Go.Ex
open Go
theorem Ah:∀(N m:Nat) (g:Nat->Nat),(∀i,i<m->g i<N)->(∀i j,i<m->j<m->g i=g j->i=j)->m<=N
 |0,m,g,h1,_=>by
  rcases bG m with h|h
  ·omega
  ·exact absurd (h1 0 h) (bj _)
 |N+1,m,g,h1,h2=>by
  by_cases h:∃i,i<m∧g i=N
  ·obtain⟨i0,hi,e⟩:=h
   have:=Ah N (m-1) (fun i=>if i<i0 then g i else g (i+1)) (fun i hi'=>by
    show(if i<i0 then g i else g (i+1))<N;split
    ·rename_i hlt;have:=h1 i (by omega);have:g i≠N:=fun e2=>by have:=h2 i i0 (by omega) hi (by rw[e2,e]);omega
     omega
    ·have:=h1 (i+1) (by omega);have:g (i+1)≠N:=fun e2=>by have:=h2 (i+1) i0 (by omega) hi (by rw[e2,e]);omega
     omega) (fun i j hi' hj' e2=>by
    have e3:(if i<i0 then g i else g (i+1))=(if j<i0 then g j else g (j+1)):=e2;split at e3<;>split at e3
    ·exact h2 _ _ (by omega) (by omega) e3
    ·have:=h2 _ _ (by omega) (by omega) e3;omega
    ·have:=h2 _ _ (by omega) (by omega) e3;omega
    ·have:=h2 _ _ (by omega) (by omega) e3;omega)
   omega
  ·exact Nat.le_succ_of_le (Ah N m g (fun i hi=>by
    have:=h1 i hi;have:g i≠N:=fun e=>h ⟨i,hi,e⟩
    omega) h2)
structure Ai(f:eX):Prop extends DL f where
 n4:f.nodes.length<=4
 b6:f.bars.length<=6
variable{f:eX}
theorem Ai.HG(h:Ai f):f.cG.length<=12:=by
 have:=Ah (3*f.nodes.length) f.cG.length (fun i=>fN (f.cG.getD i (0,0,0))) (fun i hi=>by
  have e:f.cG.getD i (0,0,0)=f.cG[i]:=getD_some (aA hi);show fN (f.cG.getD i (0,0,0))<_;rw[e]
  exact(h.sup _ (List.getElem_mem hi)).1) (fun i j hi hj e=>by
  have e1:f.cG.getD i (0,0,0)=f.cG[i]:=getD_some (aA hi);have e2:f.cG.getD j (0,0,0)=f.cG[j]:=getD_some (aA hj);have e:fN (f.cG.getD i (0,0,0))=fN (f.cG.getD j (0,0,0)):=e;rw[e1,e2]at e
  exact h.one i j _ _ (aA hi) (aA hj) e)
 have:=h.n4;omega
theorem Ai.G4(h:Ai f):f.cols<=18:=by
 have h1:=h.HG;have h2:=h.b6;unfold eX.cols;omega
theorem Ai.G5(h:Ai f):(dM f).length<=12:=by
 rw[gW];have:=h.n4;omega
end Go.Ex
namespace Go.Ex
open Go Go.Sx Go.Proofs
section
variable{S:Nat->Prop}{w:World}{v u:Value}{M:List (List Rat)}{b:List Rat}{n h0:Nat}
end
theorem Fs{S:Nat->Prop}{w:World}{vl:Value}{l:List Ld}(hl:eh w S vl l):dQ PG N.xG #[vl] w (dU w fun v' _=>∃d,v'= .bool d):=by
 have hw:cF w.heap.size w w:=cF.refl;obtain⟨al,cl,rfl,-,hml⟩:=hl.shape;refine xy (by simp) ?_;conv=>whnf
 refine cW.mk (fun h1=>?_) (fun h1=>?_)
 ·conv=>whnf
  intro ρe we re;exact⟨_,rfl,hw.tr re.bs,_,rfl⟩
 conv=>whnf
 refine cW.mk (fun h1=>?_) (fun h1=>?_)
 ·conv=>whnf
  intro ρe we re;exact⟨_,rfl,hw.tr re.bs,_,rfl⟩
 conv=>whnf
 intro ρe we re;exact⟨_,rfl,hw.tr re.bs,_,rfl⟩
theorem wT{S:Nat->Prop}{w:World}{vn vb vs vl:Value}{f:eX}{l:List Ld}(hS:Old S w)(hf:dE w S vn vb vs f)(hl:eh w S vl l):dQ PG N.kQ #[.agg #[vn,vb,vs],vl] w (dU w fun v' _=>v'= .int .i64 (qU f.nodes.length l)):=by
 have hw:cF w.heap.size w w:=cF.refl;obtain⟨an,cn,ab,cb,aq,cq,rfl,rfl,rfl,hmn,hmb,hms⟩:=hf.shape;obtain⟨al,cl,rfl,hcl,hml⟩:=hl.shape;unfold maxLen at hml;refine nd (by simp) ?_;conv=>whnf
 refine cW.mk (fun h1=>?_) (fun h1=>?_)
 ·have h1:=aG h1;conv=>whnf
  intro ρe we re;exact⟨_,rfl,hw.tr re.bs,by show Value.int .i64 _=_;rw[qU,aQ (by omega)]⟩
 have h1:=aF h1;conv=>whnf
 refine⟨Nat×World×Iv,fun z=>⟨[(1,.o (.v (.slice al l.length cl))),(2,.o (.p 0 0)),(5,.o (.v (.int .i64 ((z.1:Nat):Int))))],[(0,.box T.Frame [.v (.slice an f.nodes.length cn),.v (.slice ab f.bars.length cb),.v (.slice aq f.cG.length cq)])],1,z.2.2,z.2.1⟩,fun z=>l.length-z.1,
  fun z=>z.1<=l.length∧cF w.heap.size w z.2.1∧qU f.nodes.length l=dq (fun _=>gb f.nodes.length) (l.take z.1) (l.drop z.1),?_,?_⟩
 ·intro ρ w' r3;exact⟨(0,w',[]),⟨aO _,hw.tr r3.bs,by rw[qU,aL (by omega)];rfl⟩,Sub.gen [] r3 ⟨rfl,trivial⟩ ⟨rfl,rfl,rfl,trivial⟩ (by simp[cY,cN.scopd,At.sc]) (by simp[cO,SV.sc,At.sc,cJ]) (by rfl) (fun lo hi h=>h)⟩
 clear hw;rintro⟨i,w1,iv⟩ ⟨hi,hw,hE⟩;dsimp only at hi hw hE ⊢;conv=>whnf
 refine cW.mk (fun hib=>?_) (fun hib=>?_)
 ·have hib:i<l.length:=by simpa using hib
  obtain⟨x,hx⟩:∃x,l[i]? =some x:=⟨_,aA hib⟩
  obtain⟨adx,cs,hax,hP,-,hlx⟩:=hl.load (by decide) hx;have hP:cs=[.int .i64 x.1,.int .i64 x.2.1,.int .i64 x.2.2.1,.int .i64 x.2.2.2]:=hP;subst hP;conv=>whnf
  refine bw hτ dH [.x 0,.x 1,.x 2,.x 3,.x 4,.x 5,.x 6,.x 7] (by kernel_rfl) (by kernel_rfl) ?_;conv=>whnf
  refine⟨adx,hax,⟨by omega,by omega⟩,?_⟩;conv=>whnf
  refine⟨.int .i64 x.1,fun ρ w' r=>?_,?_⟩
  ·obtain⟨k1,k2⟩:=hlx 0 _ rfl;rw[bo (w:=w) (w2:=w') (by simp only[cC];exact(hw.tr r.bs).block _ (hS _ k1))];simp only[aB,iW]at k2 ⊢;exact k2
  conv=>whnf
  refine cE hw (Φ:=fun _ w' v w2=>∃d,v= .bool d∧(d=true↔gJ f.nodes.length x.1)) (fun ρ w' r=>nT _ _ _ _ _ _ _ _ _ _ w') ?_;rintro ρ wa1 v1 wb1 iv1 r he hw h_ ⟨d,rfl,hd⟩;clear r
  cases d
  ·have hc:gb f.nodes.length x=6:=by
    unfold gb;rw[aL fun h=>by have:=hd.2 h;cases this]
   conv=>whnf
   intro ρe we re;exact⟨_,rfl,hw.tr re.bs,by show Value.int .i64 _=_;rw[hE,cD hx hc (by decide)]⟩
  have hd:=hd.1 rfl;conv=>whnf
  refine⟨adx,hax,⟨by omega,by omega⟩,?_⟩;conv=>whnf
  refine⟨[.int .i64 x.1,.int .i64 x.2.1,.int .i64 x.2.2.1,.int .i64 x.2.2.2],rfl,fun ρ w' r j u hu=>?_,?_⟩
  ·obtain⟨k1,k2⟩:=hlx j u hu;rw[aB,bo (w:=w) (w2:=w') (by rw[cC,cC];exact(hw.tr r.bs).block _ (hS _ k1))];exact k2
  conv=>whnf
  refine bp (cE hw (Φ:=fun _ w' v w2=>∃d,v= .bool d∧(d=true↔E3 x.2)) (fun ρ w' r=>C9 x w') ?_);rintro ρ wa2 v2 wb2 iv2 r he hw h_ ⟨d2,rfl,hd2⟩;clear r
  cases d2
  ·have hc:gb f.nodes.length x=2:=by
    unfold gb;rw[aQ hd,aL fun h=>by have:=hd2.2 h;cases this]
   conv=>whnf
   intro ρe we re;exact⟨_,rfl,hw.tr re.bs,by show Value.int .i64 _=_;rw[hE,cD hx hc (by decide)]⟩
  have hd2:=hd2.1 rfl;have hc:gb f.nodes.length x=0:=by
   unfold gb;rw[aQ hd];exact aQ hd2
  rw[fD hx hc]at hE;conv=>whnf
  refine⟨((i+1:Nat):Int),by rw[wrap64]<;>omega,?_⟩;conv=>whnf
  intro ρ3 w6 r3;exact⟨(i+1,w6,_),⟨hib,hw.tr r3.bs,hE⟩,Sub.gen [] r3 ⟨rfl,trivial⟩ ⟨rfl,rfl,rfl,trivial⟩ (by simp[cY,cN.scopd,At.sc]) (by simp[cO,SV.sc,At.sc,cJ]) (by rfl) (fun lo hi h=>h),by dsimp only;omega⟩
 have hib:i=l.length:=aM hi (by simpa using hib);rw[gD (by omega)]at hE;conv=>whnf
 intro ρe we re;exact⟨_,rfl,hw.tr re.bs,by show Value.int .i64 _=_;rw[hE]⟩
theorem q8{S:Nat->Prop}{w:World}{vn vb vs vl:Value}{f:eX}{l:List Ld}(hS:Old S w)(hf:dE w S vn vb vs f)(hl:eh w S vl l):dQ PG N.l6 #[.agg #[vn,vb,vs],vl] w (dU w fun v' _=>v'= .int .i64 (iS f l)):=by
 have hw:cF w.heap.size w w:=cF.refl;obtain⟨an,cn,ab,cb,aq,cq,rfl,rfl,rfl,hmn,hmb,hms⟩:=hf.shape;obtain⟨al,cl,rfl,hcl,hml⟩:=hl.shape;obtain⟨e0,EE⟩:∃e,dh f=e:=⟨_,rfl⟩
 refine oe (by simp) ?_;conv=>whnf
 refine bp (cE hw (Φ:=fun _ w' v w2=>v= .int .i64 e0) (fun ρ w' r=>(AF (fun g hg=>by have:=hS g hg;have:=r.bm;omega) (hf.bu fun g hg=>(hw.tr r.bs).block g (hS g hg))).mono fun _ _ ⟨v2,e1,e2,e3⟩=>⟨v2,e1,e2,by rw[e3,EE]⟩) ?_);rintro ρ wa1 v1 wb1 iv1 r he hw h_ rfl;clear r;conv=>whnf
 refine cW.mk (fun he=>?_) (fun he=>?_)
 ·have he:e0≠0:=by simpa using he
  conv=>whnf
  intro ρe we re;exact⟨_,rfl,hw.tr re.bs,by show Value.int .i64 _=_;rw[iS,aQ (by rw[EE];exact he),EE]⟩
 have he:e0=0:=by simpa using he
 conv=>whnf
 refine bp (cE hw (Φ:=fun _ w' v w2=>v= .int .i64 (qU f.nodes.length l)) (fun ρ w' r=>wT (fun g hg=>by have:=hS g hg;have:=r.bm;omega) (hf.bu fun g hg=>(hw.tr r.bs).block g (hS g hg)) (hl.bu fun g hg=>(hw.tr r.bs).block g (hS g hg))) ?_);rintro ρ wa2 v2 wb2 iv2 r he hw h_ rfl;clear r he;conv=>whnf
 intro ρe we re;exact⟨_,rfl,hw.tr re.bs,by show Value.int .i64 _=_;rw[iS,aL (by rw[EE,he];decide)]⟩
theorem Ft{f:eX}(h:dh f≠0∨f.nodes.length<=4∧f.bars.length<=6)(h0:dh f=0):Ai f:=⟨DM h0,(h.resolve_left fun e=>e h0).1,(h.resolve_left fun e=>e h0).2⟩
theorem Cb{M:List (List Rat)}{x r:List Rat}{i:Nat}(h:M[i]? =some r):(dy M x)[i]? =some (eG r x r.length):=by rw[dy,aN,h];rfl
theorem nU{M:List (List Rat)}{x:List Rat}{h n:Nat}(hlen:qo n M)(hM:Ht M h)(hx:∀q∈x,rl q+1<=h)(h2:2<=h):∀q∈dy M x,rl q<=2*h*n+2:=fun q hq=>by
 obtain⟨r,hr,rfl⟩:=aS.1 hq;have:=k9 (fun q hq=>hM r hr q hq) hx h2 r.length;rw[hlen r hr]at this ⊢;exact this
theorem AH{S:Nat->Prop}{w:World}{v u:Value}{M:List (List Rat)}{x:List Rat}{n:Nat}{h0:Nat}(hrow:∀r∈M,r.length=x.length)(hqM:Ht M h0)(hqx:∀q∈x,rl q+1<=h0)(h2:2<=h0)(hb:2*h0*x.length<=90000)(hh:h0<=90000)(hR:M.length<=1000)(hS:Old S w)(hM:cI w S v M)(hx:cS w S u x):
  dQ PG N.iX #[.agg #[v,.int .i64 n],u] w (dU w fun v' w2=>dK w2 (fun _=>False) w.heap.size [(w.heap.size,w2.heap.size)] v' M.length (dy M x)):=by
 have hw:cF w.heap.size w w:=cF.refl;obtain⟨am,cm,rfl,hcm,hmm⟩:=dS.shape hM;obtain⟨ax,cx,rfl,hcx,hmx⟩:=cd.shape hx;refine lF (by simp) ?_;conv=>whnf
 refine⟨M.length,M.length,rfl,rfl,aI _,by omega,by omega,?_⟩;conv=>whnf
 refine⟨Nat×List (List Value)×Iv×World,fun z=>⟨[(1,.o (.v (.slice ax x.length cx))),(5,.o (.s 1 0 M.length M.length)),(13,.o (.v (.slice am M.length cm))),(14,.o (.v (.int .i64 M.length))),(15,.o (.v (.int .i64 ((z.1:Nat):Int))))],[(0,.box T.dW [.v (.slice am M.length cm),.v (.int .i64 n)]),(1,.arr T.Rat z.2.1.flatten)],2,z.2.2.1,z.2.2.2⟩,fun z=>M.length-z.1,
  fun z=>z.1<=M.length∧cF w.heap.size w z.2.2.2∧e8 z.2.2.2 (Cv (fun _=>False) w.heap.size z.2.2.1) (M.length) z.1 z.2.1 (dy M x),?_,?_⟩
 ·intro ρ w' r;exact⟨(0,List.replicate (M.length) f0,_,w'),⟨by simp,hw.tr r.bs,e8.start _ _ _ _⟩,Sub.gen [] r ⟨rfl,rfl,trivial⟩ ⟨rfl,rfl,rfl,rfl,rfl,trivial⟩ (by simp[cY,cN.scopd,At.sc]) (by simp[cO,SV.sc,At.sc]) (by rfl) (fun lo hi h=>h)⟩
 clear hw;rintro⟨i,css,iv,w1⟩ ⟨hi,hw,hF⟩;dsimp only at hi hw hF ⊢;conv=>whnf
 refine cW.mk (fun h=>?_) (fun h=>?_)
 ·have h:i<M.length:=by simpa using h
  obtain⟨y,hy⟩:∃r,M[i]? =some r:=⟨_,aA h⟩
  have hyl:=hrow y (aD hy);obtain⟨adm,um,ham,hRm,km1,km2⟩:=dS.load hM hy;obtain⟨a0,c0,rfl,hc0,-⟩:=cd.shape hRm;conv=>whnf
  refine⟨adm,ham,⟨by omega,by omega⟩,?_⟩;conv=>whnf
  refine⟨.slice a0 y.length c0,fun ρ w' r=>?_,?_⟩
  ·rw[aB,bo (w:=w) (w2:=w') (by rw[cC];exact(hw.tr r.bs).block _ (hS _ km1))];exact km2
  conv=>whnf
  refine bp (cE hw (Φ:=fun _ w' v w2=>cH w2 (Nw (fun _=>False) w' w2) v (eG y x y.length)) (fun ρ w' r=>D1 (h:=h0) (fun g hg=>by have:=hS g hg;have:=r.bm;omega) (cS.bu (cB.l hRm fun q hq=>by have:=hqM y (aD hy) q hq;omega) fun g hg=>(hw.tr r.bs).block g (hS g hg)) (cS.bu hx fun g hg=>(hw.tr r.bs).block g (hS g hg)) (by omega) (fun q hq=>hqM y (aD hy) q hq) hqx h2 (by rw[hyl];exact hb)) ?_);rintro ρ wa1 v1 wb1 iv1 r he hw h_ hn;replace hF:=hF.bq r (bl w) he (mC h_);have hd:=hn.cQ (S:=fun _=>False) r.bm (mN h_);clear r;obtain⟨s1_0,s1_1,s1_2,s1_3,s1_4,s1_5,s1_6,s1_7,rfl⟩:=hd.shape;have hnext:=hF.next h (q:=_) (Cb hy) hd
  conv=>whnf
  refine⟨⟨by omega,by omega⟩,?_⟩;conv=>whnf
  refine⟨by have:=hF.flat;omega,(css.set i [.bool s1_0,.slice s1_1 s1_2 s1_3,.bool s1_4,.slice s1_5 s1_6 s1_7]).flatten,?_,?_⟩
  ·have:=gn (cs:=[.bool s1_0,.slice s1_1 s1_2 s1_3,.bool s1_4,.slice s1_5 s1_6 s1_7]) hF.four (show i<css.length by rw[hF.len];exact h);rw[<-this];simp
  conv=>whnf
  refine⟨((i+1:Nat):Int),by rw[wrap64]<;>omega,?_⟩;conv=>whnf
  intro ρ3 w3 r3;exact⟨(i+1,css.set i [.bool s1_0,.slice s1_1 s1_2 s1_3,.bool s1_4,.slice s1_5 s1_6 s1_7],_,w3),⟨h,hw.tr r3.bs,hnext.rel r3 (bl w)⟩,Sub.gen [] r3 ⟨rfl,rfl,trivial⟩ ⟨rfl,rfl,rfl,rfl,rfl,trivial⟩ (by simp[cY,cN.scopd,At.sc]) (by simp[cO,SV.sc,At.sc]) (by rfl) (fun lo hi h=>h),by dsimp only;omega⟩
 have h:i=M.length:=aM hi (by simpa using h);subst h;conv=>whnf
 intro ρe we re;exact⟨_,rfl,hw.tr re.bs,hF.done (by rw[fI]) (by unfold maxLen;omega) re (id:=1) rfl (re.nn 1 _ rfl (by intros;simp) (by simp))⟩
theorem Eo{S:Nat->Prop}{w:World}{v:Value}{q:Rat}(hS:Old S w)(hq:dc w S v q):dQ PG N.eP #[v] w (dU w fun v' _=>v'= .bool (decide (q≠0))):=by
 have hw:cF w.heap.size w w:=cF.refl;obtain⟨f0,f1,f2,f3,f4,f5,f6,f7,rfl⟩:=hq.shape;refine kZ (by simp) ?_;conv=>whnf
 refine bp (cE hw (Φ:=fun _ w' v w2=>∃d,v= .bool d∧(d=true↔q=0)) (fun ρ w' r=>jn (fun g hg=>by have:=hS g hg;have:=r.bm;omega) (hq.bu fun g hg=>(hw.tr r.bs).block g (hS g hg))) ?_);rintro ρ wa1 v1 wb1 iv1 r he hw h_ ⟨d,rfl,hd⟩;clear r;conv=>whnf
 intro ρe we re
 exact⟨_,rfl,hw.tr re.bs,by show Value.bool (!d)=_;cases d with
  |true=>simp[hd.1 rfl]
  |false=>
   have h0:q≠0:=fun h=>by have:=hd.2 h;cases this
   simp[h0]⟩
theorem AI{S:Nat->Prop}{w:World}{v:Value}{xs:List Rat}(hS:Old S w)(hx:cS w S v xs):
  dQ PG N.eQ #[v,Gr N.eP] w (dU w fun v' _=>∃z:Int,v'= .int .i64 z∧ -1<=z∧z<=9223372036854775807∧(0<=z↔∃x∈xs,x≠0)):=by
 have hw:cF w.heap.size w w:=cF.refl;obtain⟨ax,cx,rfl,hcx,hmx⟩:=cd.shape hx;unfold maxLen at hmx;refine fa (by simp) ?_;conv=>whnf
 refine⟨Nat×World×Iv,fun z=>⟨[(0,.o (.v (.slice ax xs.length cx))),(1,.o (.v (Gr N.eP))),(7,.o (.v (.int .i64 xs.length))),(8,.o (.v (.int .i64 ((z.1:Nat):Int))))],[],0,z.2.2,z.2.1⟩,fun z=>xs.length-z.1,
  fun z=>z.1<=xs.length∧cF w.heap.size w z.2.1∧∀j x,j<z.1->xs[j]? =some x->x=0,?_,?_⟩
 ·intro ρ w' r;exact⟨(0,w',[]),⟨by simp,r.bs,by simp⟩,Sub.gen [] r trivial ⟨rfl,rfl,rfl,rfl,trivial⟩ (by simp[cY]) (by simp[cO,SV.sc,At.sc]) (by rfl) (by simp)⟩
 clear hw;rintro⟨i,w1,iv⟩ ⟨hi,hw,ht⟩;dsimp only at hi hw ht ⊢;conv=>whnf
 refine cW.mk (fun hib=>?_) (fun hib=>?_)
 ·have hib:i<xs.length:=by simpa using hib
  obtain⟨x,hxi⟩:∃x,xs[i]? =some x:=⟨_,aA hib⟩
  obtain⟨adx,csx,hax,hFx,-,hlx⟩:=cd.load hx hxi;obtain⟨p0,p1,p2,p3,p4,p5,p6,p7,rfl,hFx⟩:=hFx;conv=>whnf
  refine⟨adx,hax,⟨by omega,by omega⟩,?_⟩;conv=>whnf
  refine⟨[.bool p0,.slice p1 p2 p3,.bool p4,.slice p5 p6 p7],rfl,fun ρ w' r j u hu=>?_,?_⟩
  ·obtain⟨k1,k2⟩:=hlx j u hu;rw[aB,bo (w:=w) (w2:=w') (by rw[cC,cC];exact(hw.tr r.bs).block _ (hS _ k1))];exact k2
  conv=>whnf
  refine bp (cE hw (Φ:=fun _ w' v w2=>v= .bool (decide (x≠0))) (fun ρ w' r=>Eo (fun g hg=>by have:=hS g hg;have:=r.bm;omega) (hFx.bu fun g hg=>(hw.tr r.bs).block g (hS g hg))) ?_);rintro ρ wa1 v1 wb1 iv1 r he hw h_ rfl;clear r;conv=>whnf
  refine cW.mk (fun he=>?_) (fun he=>?_)
  ·have he1:x≠0:=by simpa using he
   conv=>whnf
   intro ρe we re;exact⟨_,rfl,hw.tr re.bs,⟨_,rfl,by omega,by omega,iff_of_true (by omega) ⟨x,aD hxi,he1⟩⟩⟩
  have he1:x=0:=by simpa using he
  conv=>whnf
  refine⟨((i+1:Nat):Int),by rw[wrap64]<;>omega,?_⟩;conv=>whnf
  intro ρ3 w3 r3;refine⟨(i+1,w3,_),⟨hib,hw.tr r3.bs,fun j y hj hy=>?_⟩,Sub.gen [] r3 trivial ⟨rfl,rfl,rfl,rfl,trivial⟩ (by simp[cY]) (by simp[cO,SV.sc,At.sc]) (by rfl) (fun lo hi h=>h),by dsimp only;omega⟩;rcases bA j i with h|h
  ·exact ht j y h hy
  obtain rfl:j=i:=by dsimp only at hj;omega
  rw[hxi]at hy;injection hy with hy;rw[<-hy,he1]
 have hib:i=xs.length:=aM hi (by simpa using hib);conv=>whnf
 intro ρe we re
 exact⟨_,rfl,hw.tr re.bs,⟨_,rfl,by omega,by omega,iff_of_false (by omega) fun⟨x,hm,h0⟩=>by
   obtain⟨j,hj⟩:=aU hm;have hjl:j<xs.length:=(aE.1 hj).1
   exact h0 (ht j x (by omega) hj)⟩⟩
theorem vT{S:Nat->Prop}{w:World}{v:Value}{xs:List Rat}(hS:Old S w)(hx:cS w S v xs):
  dQ PG N.eD #[v,Gr N.eP] w (dU w fun v' _=>v'= .bool (decide (∃x∈xs,x≠0))):=by
 have hw:cF w.heap.size w w:=cF.refl;have hx0:=hx;obtain⟨ax,cx,rfl,hcx,-⟩:=cd.shape hx0;refine fP (by simp) ?_;conv=>whnf
 refine bp (cE hw (Φ:=fun _ w' v w2=>∃z:Int,v= .int .i64 z∧ -1<=z∧z<=9223372036854775807∧(0<=z↔∃x∈xs,x≠0)) (fun ρ w' r=>AI (fun g hg=>by have:=hS g hg;have:=r.bm;omega) (cS.bu hx fun g hg=>(hw.tr r.bs).block g (hS g hg))) ?_);rintro ρ wa1 v1 wb1 iv1 r he hw h_ ⟨z,rfl,hz1,hz2,hz⟩;clear r;conv=>whnf
 intro ρe we re;exact⟨_,rfl,hw.tr re.bs,by rw[show decide (∃x∈xs,x≠0)=decide (z≥0)from Bool.eq_iff_iff.2 (by rw[decide_eq_true_eq,decide_eq_true_eq];exact hz.symm)];rfl⟩
set_option maxHeartbeats 400000 in
theorem AJ{S:Nat->Prop}{w:World}{v u t:Value}{M:List (List Rat)}{x p:List Rat}{n h0:Nat}(hlen:qo n M)(hqM:Ht M h0)(hqx:∀q∈x,rl q+1<=h0)(h2:2<=h0)(hb:2*h0*x.length<=90000)(hh:h0<=90000)(hR:M.length<=1000)(hS:Old S w)(hM:cI w S v M)(hx:cS w S u x)(hp:cS w S t p)(hpl:p.length=M.length)(hqp:∀q∈p,rl q<=1):
  dQ PG N.kT #[.agg #[v,.int .i64 n],u,t] w (dU w fun v' _=>∃d,v'= .bool d∧(d=true↔x.length=n∧∀(j:Nat) a b,(dy M x)[j]? =some a->p[j]? =some b->a+b=0)):=by
 have hw:cF w.heap.size w w:=cF.refl;obtain⟨am,cm,rfl,hcm,hmm⟩:=dS.shape hM;obtain⟨ax,cx,rfl,hcx,hmx⟩:=cd.shape hx;obtain⟨ap,cp,rfl,hcp,hmp⟩:=cd.shape hp;refine ni (by simp) ?_;conv=>whnf
 refine cW.mk (fun hl=>?_) (fun hl=>?_)
 ·have hl:x.length≠n:=fun e=>by rw[e]at hl;simp at hl
  conv=>whnf
  intro ρe we re;exact⟨_,rfl,hw.tr re.bs,false,rfl,iff_of_false (by simp) fun h=>hl h.1⟩
 have hl1:(x.length:Int)=n:=by simpa using hl
 have hl2:x.length=n:=by omega
 clear hl hl1;conv=>whnf
 refine bp (cE hw (Φ:=fun _ w' v w2=>dK w2 (fun _=>False) w'.heap.size [(w'.heap.size,w2.heap.size)] v M.length (dy M x)) (fun ρ w' r=>AH (h0:=h0) (fun y hy=>(hlen y hy).trans hl2.symm) hqM hqx h2 hb hh hR (fun g hg=>by have:=hS g hg;have:=r.bm;omega) (cI.bu hM fun g hg=>(hw.tr r.bs).block g (hS g hg)) (cS.bu hx fun g hg=>(hw.tr r.bs).block g (hS g hg))) ?_);rintro ρ wa1 v1 wb1 iv1 r he hw h_ hn;have hT:=(hn.cQ (S:=fun _=>False) r.bm (mN h_)).c;clear r;clear hn;have htl:(dy M x).length=M.length:=fI M x;have htb:=nU hlen hqM hqx h2;have h2n:2*h0*n<=90000:=by rw[<-hl2];exact hb
 obtain⟨at_,ct,rfl,-,-⟩:=cd.shape hT;rw[htl];generalize dy M x=t at*
 conv=>whnf
 refine⟨Nat×World×Iv,fun z=>⟨[(2,.o (.v (.slice ap p.length cp))),(16,.o (.v (.slice at_ M.length ct))),(17,.o (.v (.int .i64 M.length))),(18,.o (.v (.int .i64 ((z.1:Nat):Int))))],[],1,z.2.2,z.2.1⟩,fun z=>M.length-z.1,
  fun z=>z.1<=M.length∧cF w.heap.size w z.2.1∧cB z.2.1 (Cv (fun _=>False) w.heap.size z.2.2) (.slice at_ M.length ct) t∧∀j a b,j<z.1->t[j]? =some a->p[j]? =some b->a+b=0,?_,?_⟩
 ·intro ρ w' r3;exact⟨(0,w',_),⟨aO _,hw.tr r3.bs,by have:=cB.rel hT r3 (bl w);rw[htl]at this;exact this,fun j a b hj=>absurd hj (bj j)⟩,Sub.gen [] r3 trivial ⟨rfl,rfl,rfl,rfl,trivial⟩ (by simp[cY,cN.scopd,At.sc]) (by simp[cO,SV.sc,At.sc]) (by rfl) (fun lo hi h=>h)⟩
 clear hw hT;rintro⟨i,w1,iv⟩ ⟨hi,hw,hT,hz⟩;dsimp only at hi hw hT hz ⊢;conv=>whnf
 refine cW.mk (fun hib=>?_) (fun hib=>?_)
 ·have hib:i<M.length:=by simpa using hib
  obtain⟨a,ha⟩:∃q,t[i]? =some q:=⟨_,aA (by omega)⟩
  obtain⟨b,hb1⟩:∃q,p[i]? =some q:=⟨_,aA (by omega)⟩
  obtain⟨ada,csa,haa,hFa,-,hla⟩:=cd.load hT ha;obtain⟨f0,f1,f2,f3,f4,f5,f6,f7,rfl,hFa⟩:=hFa;have hFa:=hFa.l (by have:=htb a (aD ha);omega);obtain⟨adb,csb,hab,hFb,-,hlb⟩:=cd.load hp hb1;obtain⟨q0,q1,q2,q3,q4,q5,q6,q7,rfl,hFb⟩:=hFb;conv=>whnf
  refine⟨ada,haa,⟨by omega,by omega⟩,?_⟩;conv=>whnf
  refine⟨[.bool f0,.slice f1 f2 f3,.bool f4,.slice f5 f6 f7],rfl,fun ρ w' r j u hu=>?_,?_⟩
  ·obtain⟨k1,k2⟩:=hla j u hu;rw[aB,bo (w:=w1) (w2:=w') (by rw[cC,cC];exact Rel.same r (bl w) k1)];exact k2
  conv=>whnf
  refine bw hτ dH [.x 0,.x 1,.x 2,.x 3,.x 4,.x 5,.x 6,.x 7] (by kernel_rfl) (by kernel_rfl) ?_;conv=>whnf
  refine⟨adb,hab,⟨by omega,by omega⟩,?_⟩;conv=>whnf
  refine⟨[.bool q0,.slice q1 q2 q3,.bool q4,.slice q5 q6 q7],rfl,fun ρ w' r j u hu=>?_,?_⟩
  ·obtain⟨k1,k2⟩:=hlb j u hu;rw[aB,bo (w:=w) (w2:=w') (by rw[cC,cC];exact(hw.tr r.bs).block _ (hS _ k1))];exact k2
  conv=>whnf
  refine cE hw (Φ:=fun _ w' v w2=>cH w2 (Nw (fun _=>False) w' w2) v (a+b)) (fun ρ w' r=>D2 (S:=Cv S w.heap.size iv) (Rel.old r hS) ((hFa.rel r (bl w)).bz fun g hg=>ET hg).v ((hFb.bu fun g hg=>(hw.tr r.bs).block g (hS g hg)).bz fun g hg=>.inl hg).v) ?_;rintro ρ wa2 v2 wb2 iv2 r he hw h_ hn;replace hT:=cB.bq hT r (bl w) he (mC h_);have hd:=hn.cQ (S:=fun _=>False) r.bm (mN h_);clear r;obtain⟨s2_0,s2_1,s2_2,s2_3,s2_4,s2_5,s2_6,s2_7,rfl⟩:=hd.shape;conv=>whnf
  refine cE hw (Φ:=fun _ w' v w2=>∃d,v= .bool d∧(d=true↔a+b=0)) (fun ρ w' r=>jn (S:=Cv (fun _=>False) w.heap.size iv2) (Rel.old r (bl w)) ((hd.rel r (bl w)).l (by have:=mR a b;have:=htb a (aD ha);have:=hqp b (aD hb1);omega))) ?_;rintro ρ wa3 v3 wb3 iv3 r he hw h_ ⟨d,rfl,hd1⟩;replace hT:=cB.bq hT r (bl w) he (mC h_);clear hd;clear r
  cases d
  ·conv=>whnf
   intro ρe we re;exact⟨_,rfl,hw.tr re.bs,false,rfl,iff_of_false (by simp) fun h=>by have:=hd1.2 (h.2 i a b ha hb1);cases this⟩
  conv=>whnf
  refine⟨((i+1:Nat):Int),by rw[wrap64]<;>omega,?_⟩;conv=>whnf
  intro ρ3 w3 r3;refine⟨(i+1,w3,_),⟨hib,hw.tr r3.bs,cB.rel hT r3 (bl w),fun j a2 b2 hj h5 h6=>?_⟩,Sub.gen [] r3 trivial ⟨rfl,rfl,rfl,rfl,trivial⟩ (by simp[cY]) (by simp[cO,SV.sc,At.sc]) (by rfl) (fun lo hi h=>h),by dsimp only;omega⟩;rcases bA j i with h|h
  ·exact hz j a2 b2 h h5 h6
  obtain rfl:j=i:=by dsimp only at hj;omega
  rw[ha]at h5;rw[hb1]at h6;injection h5 with h5;injection h6 with h6;rw[<-h5,<-h6];exact hd1.1 rfl
 have hib:i=M.length:=aM hi (by simpa using hib);conv=>whnf
 intro ρe we re;exact⟨_,rfl,hw.tr re.bs,true,rfl,iff_of_true rfl ⟨hl2,fun j a b h5 h6=>hz j a b (by have:=(aE.1 h5).1;omega) h5 h6⟩⟩
def GX(f:eX)(l:List Ld)(b:Rat)(x:List Rat):Prop:=x.length=f.cols∧dy (dM f) x=eO (e9 f l) (-b)
def Dq(f:eX)(l:List Ld)(u:List Rat):Prop:=u.length=3*f.nodes.length∧dy (dR (dM f) f.cols) u=List.replicate f.cols 0∧eG (e9 f l) u (e9 f l).length=1
def vU(f:eX)(l:List Ld)(k:Int)(x u:List Rat):Prop:=(k=0∧u.length=0∧GX f l 1 x)∨(k=1∧x.length=0∧Dq f l u)
theorem yd{f:eX}(h:Ai f):Ht (dM f) 4:=fun r hr q hq=>by
 obtain⟨i,hi⟩:=aU hr;obtain⟨t,ht⟩:=aU hq;have:=h.DN i t;rw[l0,getD_some hi,getD_some ht]at this;obtain⟨z,rfl,hz⟩:=this;have:rl ((z:Int):Rat)<=2:=Bl (by omega);omega
theorem nC{f:eX}(h:Ai f):Ht (dR (dM f) f.cols) 4:=fun r hr q hq=>by
 obtain⟨i,hi⟩:=aU hr;obtain⟨t,ht⟩:=aU hq;have hil:i<f.cols:=by have:=(aE.1 hi).1;rwa [ix]at this
 have:=h.DN t i;rw[<-DO (M:=dM f) hil,l0,getD_some hi,getD_some ht]at this;obtain⟨z,rfl,hz⟩:=this;have:rl ((z:Int):Rat)<=2:=Bl (by omega);omega
theorem ye{f:eX}{l:List Ld}{x:List Rat}:(x.length=f.cols∧∀(j:Nat) a b,(dy (dM f) x)[j]? =some a->(e9 f l)[j]? =some b->a+b=0)↔GX f l 1 x:=by
 refine and_congr_right fun _=>⟨fun h=>?_,fun h j a b h1 h2=>?_⟩
 ·refine nu 0 (by rw[fI,eO,aK,gE,gW]) fun i hi=>?_;have hiv:i<(e9 f l).length:=by rw[fI,gW]at hi;rw[gE];exact hi
  have:=h i _ _ (aA hi) (aA hiv);rw[List.getD,aA hi,eO,List.getD,aN,aA hiv];show(dy (dM f) x)[i]=(e9 f l)[i]* -1;grind
 ·rw[h,eO,aN,h2]at h1;injection h1 with h1;have h1:b* -1=a:=h1;rw[<-h1];grind
theorem AK{f:eX}{u:List Rat}:(¬∃q∈dy (dR (dM f) f.cols) u,q≠0)↔dy (dR (dM f) f.cols) u=List.replicate f.cols 0:=by
 have hl:(dy (dR (dM f) f.cols) u).length=f.cols:=by rw[fI,ix]
 constructor
 ·intro h;rw[List.eq_replicate_iff];exact⟨hl,fun q hq=>Decidable.byContradiction fun h0=>h ⟨q,hq,h0⟩⟩
 ·rintro h ⟨q,hq,h0⟩;rw[h]at hq;exact h0 (bF hq)
set_option maxHeartbeats 1000000 in
theorem oQ{S:Nat->Prop}{w:World}{vn vb vs vl:Value}{f:eX}{l:List Ld}(hS:Old S w)(hf:dE w S vn vb vs f)(hl:eh w S vl l)(hsm:dh f=0->Ai f){vx vu:Value}{x u:List Rat}{k:Int}(hx:cS w S vx x)(hu:cS w S vu u)(hxq:∀q∈x,rl q<=3)(huq:∀q∈u,rl q<=3)(hx80:x.length<=80)(hu80:u.length<=80):
  dQ PG N.jP #[.agg #[vn,vb,vs],vl,.agg #[.int .i64 k,vx,vu]] w (dU w fun v' _=>(iS f l≠0∧v'= .int .i64 (iS f l))∨(iS f l=0∧((v'= .int .i64 0∧vU f l k x u)∨(v'= .int .i64 25∧¬vU f l k x u)))):=by
 have hw:cF w.heap.size w w:=cF.refl;obtain⟨an,cn,ab,cb,aq,cq,rfl,rfl,rfl,hmn,hmb,hms⟩:=hf.shape;obtain⟨al,cl,rfl,hcl,hml⟩:=hl.shape;obtain⟨ax,cx,rfl,hcx,hmx⟩:=cd.shape hx;obtain⟨au,cu,rfl,hcu,hmu⟩:=cd.shape hu;unfold maxLen at hmx hmu;obtain⟨e0,EE⟩:∃e,iS f l=e:=⟨_,rfl⟩
 refine lk (by simp) ?_;conv=>whnf
 refine bp (cE hw (Φ:=fun _ w' v w2=>v= .int .i64 e0) (fun ρ w' r=>(jZ (fun g hg=>by have:=hS g hg;have:=r.bm;omega) (hf.bu fun g hg=>(hw.tr r.bs).block g (hS g hg)) (hl.bu fun g hg=>(hw.tr r.bs).block g (hS g hg))).mono fun _ _ ⟨v2,e1,e2,e3⟩=>⟨v2,e1,e2,by rw[e3,EE]⟩) ?_);rintro ρ wa1 v1 wb1 iv1 r he hw h_ rfl;clear r;conv=>whnf
 refine cW.mk (fun he=>?_) (fun he=>?_)
 ·have he:e0≠0:=by simpa using he
  conv=>whnf
  intro ρe we re;exact⟨_,rfl,hw.tr re.bs,.inl ⟨by rw[EE];exact he,by rw[EE];rfl⟩⟩
 have he:e0=0:=by simpa using he
 have hel:iS f l=0:=by rw[EE,he]
 obtain⟨herr,hld⟩:=jX hel;have hfs:=hsm herr;have hld:=yZ hld;clear EE he;have hc18:=hfs.G4;have hr12:=hfs.G5;have htl:=gW f;have hlen:=tV f;have hn4:=hfs.n4;have hok:=lA herr;have hvl:=gE f l;have hc0:f.cols=f.bars.length+f.cG.length:=rfl;conv=>whnf
 refine bw hτ dH [.x 0,.x 2,.x 3,.p 5,.x 1,.x 4,.x 5,.x 6,.x 7] (by kernel_rfl) (by kernel_rfl) ?_;conv=>whnf
 refine cE hw (Φ:=fun _ w' v w2=>(∃vr,v= .agg #[vr,.int .i64 f.cols]∧cI w2 (Nw (fun _=>False) w' w2) vr (dM f))∧qo f.cols (dM f)∧Ht (dM f) 2) (fun ρ w' r=>lP (S:=S) (fun g hg=>by have:=hS g hg;have:=r.bm;omega) (hf.bu fun g hg=>(hw.tr r.bs).block g (hS g hg)) hok) ?_;rintro ρ wa1 v1 wb1 ivt r he hw h_ ⟨⟨vr,rfl,k1⟩,-,-⟩;have hM:=cI.cQ (S:=fun _=>False) k1 r.bm (mN h_);clear r he;obtain⟨am,cm,rfl,hcm,hmm⟩:=dS.shape hM;conv=>whnf
 refine cE hw (Φ:=fun _ w' v w2=>cB w2 (Nw (fun _=>False) w' w2) v (e9 f l)∧∀q∈e9 f l,rl q<=1) (fun ρ w' r=>(rQ (fun g hg=>by have:=hS g hg;have:=r.bm;omega) (hl.bu fun g hg=>(hw.tr r.bs).block g (hS g hg)) hfs.n hld rfl rfl).mono fun _ _ ⟨v2,e1,e2,e3,e4⟩=>⟨v2,e1,e2,cB.bz e3.c fun g hg=>hg.elim (fun h=>h.elim) fun⟨_,lo,hi,h2,h3,h4⟩=>by
  simp at h2;obtain⟨rfl,rfl⟩:=h2
  exact .inr ⟨h3,h4⟩,e4⟩) ?_
 rintro ρ wa2 v2 wb2 iv2 r he hw h_ ⟨hn,hvq⟩;replace hM:=cI.bq hM r (bl w) he (mC h_);have hP:=cB.cQ (S:=fun _=>False) hn r.bm (mN h_);clear r he;clear hn;obtain⟨ap,cp,rfl,-,-⟩:=cd.shape hP;rw[hvl];conv=>whnf
 rcases(show k=0∨k=1∨k≠0∧k≠1 by omega)with rfl|rfl|⟨hk0,hk1⟩
 ·conv=>whnf
  refine cW.mk (fun h0=>?_) (fun h0=>?_)
  ·have h0:u.length=0:=by simpa using h0
   conv=>whnf
   refine bp (cE hw (Φ:=fun _ w' v w2=>∃d,v= .bool d∧(d=true↔GX f l 1 x)) (fun ρ w' r=>(AJ (S:=fun g=>S g∨Cv (fun _=>False) w.heap.size iv2 g) (h0:=4) (p:=e9 f l) hlen (yd hfs) (fun q hq=>by have:=hxq q hq;omega) (by decide) (by omega) (by decide) (by omega) (fun g hg=>hg.elim (fun hg=>by have:=hS g hg;have:=r.bm;omega) (Rel.old r (bl w) g)) (cI.bz (cI.rel hM r (bl w)) fun g hg=>.inr hg) (cS.bz (cS.bu hx fun g hg=>(hw.tr r.bs).block g (hS g hg)) fun g hg=>.inl hg) (cS.bz (cB.l (by have:=cB.rel hP r (bl w);rw[hvl]at this;exact this) fun q hq=>by have:=hvq q hq;omega) fun g hg=>.inr hg) (by rw[hvl,htl]) hvq).mono fun _ _ ⟨v2,e1,e2,d,e3,e4⟩=>⟨v2,e1,e2,d,e3,e4.trans ye⟩) ?_);rintro ρ wa3 v3 wb3 iv3 r he hw h_ ⟨d,rfl,hd⟩;replace hM:=cI.bq hM r (bl w) he (mC h_);replace hP:=cB.bq hP r (bl w) he (mC h_);clear r he
   cases d
   ·conv=>whnf
    intro ρe we re;exact⟨_,rfl,hw.tr re.bs,.inr ⟨hel,.inr ⟨rfl,fun h=>by rcases h with⟨_,_,h⟩|⟨h,_⟩;(have:=hd.2 h;cases this);cases h⟩⟩⟩
   conv=>whnf
   intro ρe we re;exact⟨_,rfl,hw.tr re.bs,.inr ⟨hel,.inl ⟨rfl,.inl ⟨rfl,h0,hd.1 rfl⟩⟩⟩⟩
  have h0:u.length≠0:=by simpa using h0
  conv=>whnf
  intro ρe we re;exact⟨_,rfl,hw.tr re.bs,.inr ⟨hel,.inr ⟨rfl,fun h=>by rcases h with⟨_,h,_⟩|⟨h,_⟩;exact h0 h;cases h⟩⟩⟩
 ·conv=>whnf
  refine cW.mk (fun h0=>?_) (fun h0=>?_)
  ·have h0:x.length=0:=by simpa using h0
   conv=>whnf
   refine cW.mk (fun h1=>?_) (fun h1=>?_)
   ·have h1:(u.length:Int)=((3*f.nodes.length:Nat):Int):=by simpa using h1
    have h1:u.length=3*f.nodes.length:=by omega
    conv=>whnf
    refine bw hτ dH [.x 0,.x 2,.x 3,.x 1,.x 4,.x 5,.x 6] (by kernel_rfl) (by kernel_rfl) ?_;conv=>whnf
    refine cA (Φ:=fun _ w' v w2=>∃vr,v= .agg #[vr,.int .i64 (dM f).length]∧cI w2 (Nw (Cv (fun _=>False) w.heap.size iv2) w' w2) vr (dR (dM f) f.cols)) (fun ρ w' r=>oN (C:=Cv (fun _=>False) w.heap.size iv2) (S:=Cv (fun _=>False) w.heap.size iv2) (Rel.old r (bl w)) (Rel.old r (bl w)) (cI.rel hM r (bl w)) hlen (by omega) (by omega)) ?_;rintro ρ wa3 v3 wb3 r he hb ⟨vt,rfl,hn⟩;replace hw:=hw.tr hb;clear hM;replace hP:=cB.bq (iv':=(wa3.heap.size,wb3.heap.size)::iv2) hP r (bl w) he fun x hx=>aC _ hx;have hT:=cI.old hn r.bm;clear r he hb;generalize (wa3.heap.size,wb3.heap.size)::iv2=iv3 at*
    clear hn;obtain⟨at_,ct,rfl,-,-⟩:=dS.shape hT;conv=>whnf
    refine cE hw (Φ:=fun _ w' v w2=>cB w2 (Nw (fun _=>False) w' w2) v (dy (dR (dM f) f.cols) u)) (fun ρ w' r=>(AH (S:=fun g=>S g∨Cv (fun _=>False) w.heap.size iv3 g) (h0:=4) (fun y hy=>by rw[nR _ _ y hy,h1,htl]) (nC hfs) (fun q hq=>by have:=huq q hq;omega) (by decide) (by omega) (by decide) (by rw[ix];omega) (fun g hg=>hg.elim (fun hg=>by have:=hS g hg;have:=r.bm;omega) (Rel.old r (bl w) g)) (cI.bz (cI.rel hT r (bl w)) fun g hg=>.inr hg) (cS.bz (cS.bu hu fun g hg=>(hw.tr r.bs).block g (hS g hg)) fun g hg=>.inl hg)).mono fun _ _ ⟨v2,e1,e2,e3⟩=>⟨v2,e1,e2,cB.bz e3.c fun g hg=>hg.elim (fun h=>h.elim) fun⟨_,lo,hi,h2,h3,h4⟩=>by
     simp at h2;obtain⟨rfl,rfl⟩:=h2
     exact .inr ⟨h3,h4⟩⟩) ?_
    rintro ρ wa4 v4 wb4 iv4 r he hw h_ hn;replace hP:=cB.bq hP r (bl w) he (mC h_);clear hT;have hU:=cB.cQ (S:=fun _=>False) hn r.bm (mN h_);clear r he;clear hn;obtain⟨aw,cw,rfl,-,-⟩:=cd.shape hU;have htb:=nU (x:=u) (nR (dM f) f.cols) (nC hfs) (fun q hq=>by have:=huq q hq;omega) (by decide);obtain⟨b,hb0⟩:∃b,decide (∃q∈dy (dR (dM f) f.cols) u,q≠0)=b:=⟨_,rfl⟩
    conv=>whnf
    refine cE hw (Φ:=fun _ w' v w2=>v= .bool b) (fun ρ w' r=>(vT (S:=Cv (fun _=>False) w.heap.size iv4) (Rel.old r (bl w)) (cB.l (cB.rel hU r (bl w)) fun q hq=>by have:=htb q hq;omega)).mono fun _ _ ⟨v2,e1,e2,e3⟩=>⟨v2,e1,e2,by rw[e3,<-hb0]⟩) ?_;rintro ρ wa5 v5 wb5 iv5 r he hw h_ rfl;replace hP:=cB.bq hP r (bl w) he (mC h_);clear hU;clear r he
    cases b
    ·have hfree:=AK.1 (aF hb0);conv=>whnf
     refine bp (cE hw (Φ:=fun _ w' v w2=>cH w2 (Nw (fun _=>False) w' w2) v (eG (e9 f l) u (e9 f l).length)) (fun ρ w' r=>D1 (S:=fun g=>S g∨Cv (fun _=>False) w.heap.size iv5 g) (h:=4) (fun g hg=>hg.elim (fun hg=>by have:=hS g hg;have:=r.bm;omega) (Rel.old r (bl w) g)) (cS.bz (cB.l (by have:=cB.rel hP r (bl w);rw[hvl]at this;exact this) fun q hq=>by have:=hvq q hq;omega) fun g hg=>.inr hg) (cS.bz (cS.bu hu fun g hg=>(hw.tr r.bs).block g (hS g hg)) fun g hg=>.inl hg) (by omega) (fun q hq=>by have:=hvq q hq;omega) (fun q hq=>by have:=huq q hq;omega) (by decide) (by omega)) ?_);rintro ρ wa6 v6 wb6 iv6 r he hw h_ hn;replace hP:=cB.bq hP r (bl w) he (mC h_);have hd:=hn.cQ (S:=fun _=>False) r.bm (mN h_);clear r he;obtain⟨s6_0,s6_1,s6_2,s6_3,s6_4,s6_5,s6_6,s6_7,rfl⟩:=hd.shape;have hdr:=k9 (h:=4) (xs:=e9 f l) (ys:=u) (fun q hq=>by have:=hvq q hq;omega) (fun q hq=>by have:=huq q hq;omega) (by decide) (e9 f l).length;conv=>whnf
     refine bp (cE hw (Φ:=fun _ w' v w2=>cH w2 (Nw (fun _=>False) w' w2) v ((1:Int):Rat)) (fun ρ w' r=>iQ 1 w' (by decide) (by decide)) ?_);rintro ρ wa7 v7 wb7 iv7 r he hw h_ hn;replace hP:=cB.bq hP r (bl w) he (mC h_);replace hd:=hd.bq r (bl w) he (mC h_);have ho:=hn.cQ (S:=fun _=>False) r.bm (mN h_);clear r he;obtain⟨s7_0,s7_1,s7_2,s7_3,s7_4,s7_5,s7_6,s7_7,rfl⟩:=ho.shape;conv=>whnf
     refine bp (cE hw (Φ:=fun _ w' v w2=>v= .int .i64 (rs (eG (e9 f l) u (e9 f l).length-((1:Int):Rat)))) (fun ρ w' r=>yR (S:=Cv (fun _=>False) w.heap.size iv7) (Rel.old r (bl w)) ((hd.rel r (bl w)).l (by omega)).v ((ho.rel r (bl w)).l (by decide)).v) ?_);rintro ρ wa8 v8 wb8 iv8 r he hw h_ rfl;replace hP:=cB.bq hP r (bl w) he (mC h_);clear hd;clear ho;clear r he;obtain⟨cf,hcf⟩:∃c,rs (eG (e9 f l) u (e9 f l).length-((1:Int):Rat))=c:=⟨_,rfl⟩
     rw[hcf];conv=>whnf
     refine cW.mk (fun h2=>?_) (fun h2=>?_)
     ·have h2:cf=0:=by simpa using h2
      rw[h2]at hcf;have hdot:=AM.1 hcf;conv=>whnf
      intro ρe we re;exact⟨_,rfl,hw.tr re.bs,.inr ⟨hel,.inl ⟨rfl,.inr ⟨rfl,h0,h1,hfree,hdot⟩⟩⟩⟩
     have h2:cf≠0:=by simpa using h2
     conv=>whnf
     intro ρe we re;exact⟨_,rfl,hw.tr re.bs,.inr ⟨hel,.inr ⟨rfl,fun h=>by rcases h with⟨h,_⟩|⟨_,hx0,hu0,hm0,hd0⟩;cases h;exact h2 (by rw[<-hcf];exact AM.2 hd0)⟩⟩⟩
    conv=>whnf
    intro ρe we re;exact⟨_,rfl,hw.tr re.bs,.inr ⟨hel,.inr ⟨rfl,fun h=>by rcases h with⟨h,_⟩|⟨_,hx0,hu0,hm0,hd0⟩;cases h;exact(AK.2 hm0) (aG hb0)⟩⟩⟩
   have h1:(u.length:Int)≠((3*f.nodes.length:Nat):Int):=by simpa using h1
   conv=>whnf
   intro ρe we re;exact⟨_,rfl,hw.tr re.bs,.inr ⟨hel,.inr ⟨rfl,fun h=>by rcases h with⟨h,_⟩|⟨_,hx0,hu0,hm0,hd0⟩;cases h;exact h1 (by rw[hu0])⟩⟩⟩
  have h0:x.length≠0:=by simpa using h0
  conv=>whnf
  intro ρe we re;exact⟨_,rfl,hw.tr re.bs,.inr ⟨hel,.inr ⟨rfl,fun h=>by rcases h with⟨h,_⟩|⟨_,hx0,hu0,hm0,hd0⟩;cases h;exact h0 hx0⟩⟩⟩
 conv=>whnf
 refine cW.mk (fun h0=>absurd (by simpa using h0) hk0) (fun _=>?_);conv=>whnf
 refine cW.mk (fun h0=>absurd (by simpa using h0) hk1) (fun _=>?_);conv=>whnf
 intro ρe we re;exact⟨_,rfl,hw.tr re.bs,.inr ⟨hel,.inr ⟨rfl,fun h=>by rcases h with⟨h,_⟩|⟨h,_⟩;exact hk0 h;exact hk1 h⟩⟩⟩
end Go.Ex
