/- Texts X180 to L50: lemmas, each with its conditions. -/
import Derived.Test.YtgkpbdkechfgmaaGreatP13
namespace Go.Ex
open Go Go.Sx Go.Proofs
end Go.Ex
namespace Go.Sx
open Go Go.Ex Go.Proofs
variable{W:List Value}{O:Nat->Sx.dq}
theorem Rel.Hh{H:Hp}{nx:Nat}{iv:Iv}{B:Nat}{w J:World}(r:Rel H nx iv B w O J){id t m sz:Nat}(h:dG H id=some (.vec t sz W))(hm:W.length=m*sz)(SX:m<=maxLen)(hs:0<sz)(L:∀u∈W,u.oneCell'=true):
  ie J (Cv FF B (jf (O id) iv)) sz ((At.w id m).den O) W m:=by
 rcases r.fits h with⟨R,rfl⟩|⟨R,spare,G,N,h4⟩
 ·have Uf:m=0:=by
   rcases bK m with h|h
   ·exact h
   ·have:=Nat.mul_pos h hs;simp at hm;omega
  subst Uf;have RF:(At.w id 0).den O= .slice none 0 0:=by simp[At.den,R]
  rw[RF];exact⟨aQ _,by simp,by simp,none,0,rfl,Nat.le_refl _,fun j u h=>by cases h⟩
 ·have RF:(At.w id m).den O= .slice (some ⟨(O id).g,0,none⟩) m (O id).cap:=by simp[At.den,R]
  rw[RF];have Og:=r.low id _ h R;refine⟨SX,hm,L,_,_,rfl,?_,fun j u hu=>⟨_,rfl,.inr ⟨Og.1,_,_,FH R,Nat.le_refl _,bQ _⟩,?_⟩⟩
  ·rw[List.length_append,hm]at N;exact cA (show m*sz<=(O id).cap*sz by omega) hs
  ·rw[dL,cell_of G,aT,aI (aD.1 hu).1];exact hu
end Go.Sx
namespace Go.Ex
open Go Go.Sx Go.Proofs
variable{S:Nat->Prop}{f:fC}
theorem Ny{i k ka kb:Nat}{b:Int×Int×Rat}{d:Int}{la lb:List Int}(hb:f.bars[i]? =some b)(ea:b.1=ka)(eb:b.2.1=kb)(QS:ka≠kb)(D:k<3)(hd:(sh f b).getD k 0=d)
  (Q1:(ee f (dm f i) i k)[3*ka+k]? =some la) (PV:((ee f (dm f i) i k).set (3*ka+k) (la.set i d))[3*kb+k]? =some lb):
  ((ee f (dm f i) i k).set (3*ka+k) (la.set i d)).set (3*kb+k) (lb.set i (-d))=ee f (dm f i) i (k+1):=by
 have z1:=oc (r:=3*ka+k) hb ea eb (show k<=3 by omega) (by omega);have z2:=oc (r:=3*kb+k) hb ea eb (show k<=3 by omega) (by omega);have hga:(ee f (dm f i) i k).getD (3*ka+k) []=la:=by rw[List.getD,Q1];rfl
 have hgb:((ee f (dm f i) i k).set (3*ka+k) (la.set i d)).getD (3*kb+k) []=lb:=by rw[List.getD,PV];rfl
 have e1:uA (ee f (dm f i) i k) (3*ka+k) i d=(ee f (dm f i) i k).set (3*ka+k) (la.set i d):=by
  rw[iG,z1,Int.zero_add,putAt,hga]
 rw[ee];rw[Db hb,hd,toNat_add ea,toNat_add eb,e1,uA,hgb];have z3:lb.getD i 0=0:=by
  rw[<-hgb,getD_set_ne (show 3*ka+k≠3*kb+k by omega)];exact z2
 rw[z3,Int.zero_add]
set_option maxHeartbeats 2000000 in
theorem KF{w:World}{vn vb vs:Value}(X:Old S w)(hf:eG w S vn vb vs f)(PJ:e8 f=0):
  eI PG F'.uL #[.agg #[vn,vb,vs]] w (eO w fun v' V=>k6 V (Nf w V) v' (gZ f)/\Hc (gZ f) 2000000):=by
 have I:=bR w;have Of:=mZ PJ;obtain⟨an,cn,ab,cb,aq,cq,rfl,rfl,rfl,RR,Rk,SM⟩:=hf.shape;obtain⟨SH,S1,S2⟩:=And.intro Of.n (And.intro Of.b Of.s);have Pp:f.cols=f.bars.length+f.cZ.length:=rfl;obtain⟨m,hm⟩:∃m,3*f.nodes.length=m:=⟨_,rfl⟩
 refine yH (by simp) ?_
 refine⟨Nat×List Value×World×Iv,fun z=>⟨[(1,pP 0 0),(3,.o (.w 1 z.2.1.length)),(4,iN z.1)],[(1,.vec T.Lint 1 z.2.1),(0,.box T.Frame [.v (.slice an f.nodes.length cn),.v (.slice ab f.bars.length cb),.v (.slice aq f.cZ.length cq)])],2,z.2.2.2,z.2.2.1⟩,fun z=>m-z.1,
  fun z=>z.1<=m/\z.2.1.length=z.1/\dw w.heap.size w z.2.2.1/\iL z.2.2.1 w.heap.size z.2.2.2 z.2.1 f.cols (List.replicate z.1 (List.replicate f.cols 0)),?_,?_⟩
 ·intro O J E;exact⟨(0,[],J,[]),⟨aQ _,rfl,I.tr E.cU,iL.nil⟩,Sub.nil 3 T.Lint 1 rfl (by simp[jw,SV.sc,At.sc,fW]) E fun Id r1=>Sub.gn [] r1⟩
 clear I;rintro⟨i,rv,w1,iv⟩ ⟨A,Po,I,hE⟩;dsimp only at A Po I hE ⊢;refine⟨(m:Int),wo,?_⟩;refine dQ.mk ?_ ?_<;>intro OZ
 ·have OZ:i<m:=by simpa using OZ
  refine cJ (cE I (fun _ J v V=>v= .int .i64 f.cols) (fun O J r=>my (hf.cK (kS I r X)) ⟨S1,S2⟩) ?_);rintro O _ _ _ Oo r U I h_ rfl;have VG:=iL.cM hE r U (mC h_);clear r;clear hE;refine⟨f.cols,f.cols,rfl,rfl,Nat.le_refl _,by omega,by omega,?_⟩;refine lQ hτ (id3:=3) (id2:=2) (tH:=[(1,.vec T.Lint 1 rv),(0,.box T.Frame [.v (.slice an f.nodes.length cn),.v (.slice ab f.bars.length cb),.v (.slice aq f.cZ.length cq)])]) rfl rfl rfl rfl (by simp) ⟨rfl,rfl,trivial⟩ rfl rfl (fun O J r r2 SI=>?_);have R:=(r.fits (id:=2) rfl).1;have Oa:J.ownsRow 0 T.int 1 (.slice (some ⟨(O 2).g,0,none⟩) f.cols f.cols) f.cols ((List.replicate f.cols (0:Int)).map fun z=>.int .i64 z):=
   ⟨by simp,.inr ⟨(O 2).g,f.cols,(List.replicate f.cols (Value.int .i64 0)).toArray,rfl,aQ _,r.arr 2 _ _ rfl,Nat.le_refl _,by unfold maxLen;omega,by simp,by simp⟩⟩
  have PM:=(VG.rel r).push (gx:=(O 2).g) (l:=List.replicate f.cols 0) (fun g Y e=>Rel.not r (gY _) Y 2 _ rfl R e.symm) (r.low 2 _ rfl R).1 (by simp) Oa;rw[<-List.replicate_succ']at PM;have hgv:jf (O 2) Oo=((O 2).g,(O 2).g+1)::Oo:=by unfold jf;rw[R]
  have Rb:=r.low 3 _ rfl (r.fits (id:=3) rfl).1;have SI:J.heap[(O 3).g]? =some (.cells #[.slice (some ⟨(O 2).g,0,none⟩) f.cols f.cols] T.Lint (0,0)):=SI;have Vg:=PM.mono (K:=((O 3).g,(O 3).g+1)::((O 2).g,(O 2).g+1)::Oo) fun p hp=>aB _ hp;have PE:=I.tr r.cU;have hC3:Cf w (((O 3).g,(O 3).g+1)::((O 2).g,(O 2).g+1)::Oo) (O 3).g:=.inr ⟨Rb.1,_,_,aF,Nat.le_refl _,bQ _⟩;rw[hgv];clear VG I r Oa R PM hgv r2 Rb;generalize (O 2).g=gx at*
  generalize (O 3).g=gy at*
  generalize (gy,gy+1)::(gx,gx+1)::Oo=Od at*
  refine⟨[.slice (some ⟨gx,0,none⟩) f.cols f.cols],rfl,by simp[Value.oneCell'],fun GE V r2 _=>⟨_,rfl,fun j u hu=>?_⟩,?_⟩
  ·have h5:=Rel.same r2 (gY _) hC3;rw[dL,cell_of (h5.trans SI)];rcases j with _|j
   ·exact hu
   ·cases hu
  refine⟨by omega,by omega,by unfold maxLen;omega,((i+1:Nat):Int),wo,?_⟩;intro GT w6 E;exact⟨(i+1,rv++[.slice (some ⟨gx,0,none⟩) f.cols f.cols],w6,_),⟨OZ,by simp[Po],PE.tr E.cU,Vg.rel E⟩,Sub.gn [(1,4)] E (hE:=⟨rfl,by dsimp only;rw[List.length_append,List.length_singleton];rfl,rfl,trivial⟩),by dsimp only;omega⟩
 have OZ:i=m:=aR A (by simpa using OZ);subst OZ;have hE0:iL w1 w.heap.size iv rv f.cols (dm f 0):=by rw[dm,hm];exact hE
 have Wq:Hc (dm f 0) 2000000:=fun l hl z hz=>by
  rw[dm]at hl;rw[bI hl]at hz;rw[bI hz];exact⟨by decide,by decide⟩
 clear hE;rw[Po]
 refine⟨Nat×World×Iv,fun z=>⟨[(1,pP 0 0),(3,.o (.w 1 i)),(5,iN z.1)],[(1,.vec T.Lint 1 rv),(0,.box T.Frame [.v (.slice an f.nodes.length cn),.v (.slice ab f.bars.length cb),.v (.slice aq f.cZ.length cq)])],2,z.2.2,z.2.1⟩,fun z=>f.bars.length-z.1,
  fun z=>z.1<=f.bars.length/\dw w.heap.size w z.2.1/\iL z.2.1 w.heap.size z.2.2 rv f.cols (dm f z.1)/\Hc (dm f z.1) 2000000,?_,?_⟩
 ·intro O J E;exact⟨(0,J,_),⟨aQ _,I.tr E.cU,hE0.rel E,Wq⟩,Sub.gn [] E⟩
 clear I hE0 Wq A;rintro⟨j,V,iv⟩ ⟨hj,I,hE,PH⟩;dsimp only at hj I hE PH ⊢;refine dQ.mk ?_ ?_<;>intro Pz
 ·have Pz:j<f.bars.length:=by simpa using Pz
  obtain⟨b,hb⟩:∃b,f.bars[j]? =some b:=⟨_,aA Pz⟩
  obtain⟨hA,hB⟩:=Of.Ng b (aC hb);have Oe:=(M0 PJ (aC hb)).1;obtain⟨ka,pa,ea,hka,-,Wo,⟨_,_⟩,⟨_,_⟩,⟨_,_⟩⟩:=Of.node hA.1 hA.2;obtain⟨kb,pb,eb,Oj,-,Wp,⟨_,_⟩,⟨_,_⟩,⟨_,_⟩⟩:=Of.node hB.1 hB.2;have QS:ka≠kb:=fun e=>Oe (by rw[ea,eb,e]);obtain⟨adb,W,hadb,hF,-,hlb0⟩:=hf.bars.load (by decide) hb;obtain⟨g0,g1,g2,g3,g4,g5,g6,g7,rfl,hF⟩:=hF;have hbD:sh f b=[pb.1-pa.1,pb.2.1-pa.2.1,pb.2.2-pa.2.2]:=by rw[sh,Wo,Wp]
  refine cJ (cE I (fun _ J v V=>v= .agg #[.int .i64 (pb.1-pa.1),.int .i64 (pb.2.1-pa.2.1),.int .i64 (pb.2.2-pa.2.2)]) (fun O J r=>(Bt (S:=S) (oS X r) (hf.cK (kS I r X)) Of hb).mono fun _ _ ⟨v2,e1,e2,e3⟩=>⟨v2,e1,e2,by rw[e3,Wo,Wp]⟩) ?_);rintro O _ _ _ Od r U I h_ rfl;have VG:=iL.cM hE r U (mC h_);clear r;clear hE hF;rw[ea,eb]at hlb0;obtain⟨ds,hds⟩:∃ds:List Value,ds=[.int .i64 (pb.1-pa.1),.int .i64 (pb.2.1-pa.2.1),.int .i64 (pb.2.2-pa.2.2)]:=⟨_,rfl⟩
  refine⟨Nat×World×Iv,fun z=>⟨[(1,pP 0 0),(3,.o (.w 1 i)),(5,iN j),(6,pP 2 0),(7,iN z.1)],[(2,.arr 267 ds),(1,.vec T.Lint 1 rv),(0,.box T.Frame [.v (.slice an f.nodes.length cn),.v (.slice ab f.bars.length cb),.v (.slice aq f.cZ.length cq)])],3,z.2.2,z.2.1⟩,fun z=>3-z.1,
   fun z=>z.1<=3/\dw w.heap.size w z.2.1/\iL z.2.1 w.heap.size z.2.2 rv f.cols (ee f (dm f j) j z.1)/\Hc (ee f (dm f j) j z.1) 2000000,?_,?_⟩
  ·intro O J E;exact⟨(0,J,_),⟨aQ _,I.tr E.cU,VG.rel E,PH⟩,Sub.aB2 2 (vs:=ds) (by rw[hds];rfl) E fun r4=>Sub.gn [] r4⟩
  clear I VG PH;rintro⟨k,w3,iv⟩ ⟨D,I,hE,PH⟩;dsimp only at D I hE PH ⊢;refine dQ.mk ?_ ?_<;>intro Ws
  ·have hk3:k<3:=by have:=aK Ws;omega
   obtain⟨d,hd⟩:∃d,(sh f b).getD k 0=d:=⟨_,rfl⟩
   have hdb: -2000000<=d/\d<=2000000:=by
    rw[<-hd,hbD];rcases(show k=0\/k=1\/k=2 by omega)with rfl|rfl|rfl<;>simp[List.getD]<;>omega
   have hdk:ds[k]? =some (.int .i64 d):=by
    rw[hds,<-hd,hbD];rcases(show k=0\/k=1\/k=2 by omega)with rfl|rfl|rfl<;>rfl
   have hMl:(ee f (dm f j) j k).length=3*f.nodes.length:=by rw[<-hE.len];have:=hE.len;omega
   obtain⟨la,Q1⟩:∃l,(ee f (dm f j) j k)[3*ka+k]? =some l:=⟨_,aA (by first|omega|(rw [bL];omega))⟩
   have hlaw:=hE.wid la (aC Q1);obtain⟨za,WW⟩:∃z,la[j]? =some z:=⟨_,aA (by omega)⟩
   obtain⟨va,UO⟩:∃v,rv[3*ka+k]? =some v:=⟨_,aA (by have:=(aD.1 Q1).1;rw[hE.len];exact this)⟩
   obtain⟨aa5,ca5,rfl⟩:=hE.form UO;obtain⟨ada5,Tx,-,-⟩:=hE.load UO Q1 WW;refine cR hτ dx [.x 0,.x 1,.x 2,.x 3,.x 4,.x 5,.x 6,.x 7,.x 8,.x 9,.x 10,.x 11,.x 12,.x 13,.x 14,.x 15,.x 16,.x 17] (by kernel_rfl) (by kernel_rfl) ?_;refine⟨adb,hadb,by omega,.int .i64 (ka:Int),fun O J r=>?_,?_⟩
   ·obtain⟨k1,k2⟩:=hlb0 0 _ rfl;rw[cL (w:=w) (V:=J) (by simp only[dF];exact(I.tr r.cU).block _ (X _ k1))];simp only[aE,kF]at k2 ⊢;exact k2
   refine⟨((3*ka:Nat):Int),wo,((3*ka+k:Nat):Int),wo,by rw[Po,aT,aV],by omega,.slice aa5 f.cols ca5,by rw[aE,aV];exact UO,by omega,.int .i64 d,by rw[aT,aE,aV];exact hdk,ada5,Tx,by omega,?_⟩;intro O J r;obtain⟨g,Y,L,G,N,h4⟩:=hE.store r (z:=d) UO Q1 (show j<f.cols by omega);rw[Tx]at Y;injection Y with Y;subst Y;refine⟨L,G,N,fun w5 RY=>?_⟩;obtain⟨k1,k2,k3,-,-⟩:=h4 w5 RY;replace I:=(I.tr r.cU).tr k2;replace PH:=PH.set (r:=3*ka+k) (c:=j) (z:=d) (t2:=2000000) (by omega) Q1 (by omega);replace hE:=k1;clear L G N h4 RY k1 k2 k3 r Tx;obtain⟨lb,PV⟩:∃l,((ee f (dm f j) j k).set (3*ka+k) (la.set j d))[3*kb+k]? =some l:=⟨_,aA (by first|omega|(rw [bL];omega))⟩
   have hlbw:=hE.wid lb (aC PV);obtain⟨zb,Ul⟩:∃z,lb[j]? =some z:=⟨_,aA (by omega)⟩
   obtain⟨vb,Ve⟩:∃v,rv[3*kb+k]? =some v:=⟨_,aA (by have:=(aD.1 PV).1;rw[hE.len];exact this)⟩
   obtain⟨ab5,cb5,rfl⟩:=hE.form Ve;obtain⟨adb5,Ty,-,-⟩:=hE.load Ve PV Ul;refine cR hτ dx [.x 0,.x 1,.x 2,.x 3,.x 4,.x 5,.x 6,.x 7,.x 8,.x 9,.x 10,.x 11,.x 12,.x 13,.x 14,.x 15,.x 16,.x 17,.x 18] (by kernel_rfl) (by kernel_rfl) ?_;refine⟨adb,hadb,by omega,.int .i64 (kb:Int),fun O J r=>?_,?_⟩
   ·obtain⟨k1,k2⟩:=hlb0 1 _ rfl;rw[cL (w:=w) (V:=J) (by simp only[dF];exact(I.tr r.cU).block _ (X _ k1))];simp only[aE,kF]at k2 ⊢;exact k2
   refine⟨((3*kb:Nat):Int),wo,((3*kb+k:Nat):Int),wo,by rw[Po,aT,aV],by omega,.slice ab5 f.cols cb5,by rw[aE,aV];exact Ve,by omega,.int .i64 d,by rw[aT,aE,aV];exact hdk,-d,wo,adb5,Ty,by omega,?_⟩;intro O J r;obtain⟨g,Y,L,G,N,h4⟩:=hE.store r (z:=(-d)) Ve PV (show j<f.cols by omega);rw[Ty]at Y;injection Y with Y;subst Y;refine⟨L,G,N,fun w5 RY=>?_⟩;obtain⟨k1,k2,k3,-,-⟩:=h4 w5 RY;replace I:=(I.tr r.cU).tr k2;replace PH:=PH.set (r:=3*kb+k) (c:=j) (z:=(-d)) (t2:=2000000) (by omega) PV (by omega);replace hE:=k1;clear L G N h4 RY k1 k2 k3 r Ty;rw[Ny hb ea eb QS hk3 hd Q1 PV]at hE PH;refine⟨((k+1:Nat):Int),wo,?_⟩;intro GT w6 E;exact⟨(k+1,w6,_),⟨hk3,I.tr E.cU,hE.rel E,PH⟩,Sub.gn [] E,by dsimp only;omega⟩
  have Ws:k=3:=by have:=aG Ws;omega
  subst Ws;refine⟨((j+1:Nat):Int),wo,?_⟩;intro GT w6 E;exact⟨(j+1,w6,_),⟨Pz,I.tr E.cU,hE.rel E,PH⟩,Sub.gn [] E,by dsimp only;omega⟩
 have Pz:j=f.bars.length:=aR hj (by simpa using Pz);subst Pz
 refine⟨Nat×World×Iv,fun z=>⟨[(1,pP 0 0),(3,.o (.w 1 i)),(8,iN z.1)],[(1,.vec T.Lint 1 rv),(0,.box T.Frame [.v (.slice an f.nodes.length cn),.v (.slice ab f.bars.length cb),.v (.slice aq f.cZ.length cq)])],2,z.2.2,z.2.1⟩,fun z=>f.cZ.length-z.1,
  fun z=>z.1<=f.cZ.length/\dw w.heap.size w z.2.1/\iL z.2.1 w.heap.size z.2.2 rv f.cols (fO f z.1)/\Hc (fO f z.1) 2000000,?_,?_⟩
 ·intro O J E;exact⟨(0,J,_),⟨aQ _,I.tr E.cU,hE.rel E,PH⟩,Sub.gn [] E⟩
 clear I hE PH hj;rintro⟨j,V,iv⟩ ⟨hj,I,hE,PH⟩;dsimp only at hj I hE PH ⊢;refine dQ.mk ?_ ?_<;>intro Pz
 ·have Pz:j<f.cZ.length:=by simpa using Pz
  obtain⟨s,hs⟩:∃b,f.cZ[j]? =some b:=⟨_,aA Pz⟩
  obtain⟨hA,hB⟩:=Of.sup s (aC hs);obtain⟨ks,VA⟩:=Int.eq_ofNat_of_zero_le (show 0<=3*s.1+s.2.1 by omega);have hMl:=oC f j;obtain⟨l,hl⟩:∃l,(fO f j)[ks]? =some l:=⟨_,aA (by omega)⟩
  have hlw:=hE.wid l (aC hl);obtain⟨v,hv⟩:∃v,rv[ks]? =some v:=⟨_,aA (by rw[hE.len];omega)⟩
  obtain⟨a5,c5,rfl⟩:=hE.form hv;obtain⟨z0,Ov⟩:∃z,l[f.bars.length+j]? =some z:=⟨_,aA (by omega)⟩
  obtain⟨ad5,ha5,-,-⟩:=hE.load hv hl Ov;obtain⟨adb,W,QS,hF,-,PV⟩:=hf.cZ.load (by decide) hs;obtain⟨g0,g1,g2,g3,g4,g5,g6,g7,rfl,hF⟩:=hF;refine cR hτ dx [.x 0,.x 1,.x 2,.x 3,.x 4,.x 5,.x 6,.x 7,.x 8,.x 9,.x 10,.x 11,.x 12,.x 13,.x 14,.x 15,.x 16,.x 17,.x 18,.x 19,.x 20,.x 21,.x 22,.x 23] (by kernel_rfl) (by kernel_rfl) ?_;refine⟨adb,QS,by omega,.int .i64 s.1,fun O J r=>?_,?_⟩
  ·obtain⟨k1,k2⟩:=PV 0 _ rfl;rw[cL (w:=w) (V:=J) (by simp only[dF];exact(I.tr r.cU).block _ (X _ k1))];simp only[aE,kF]at k2 ⊢;exact k2
  refine⟨3*s.1,wo,adb,QS,by omega,.int .i64 s.2.1,fun O J r=>?_,?_⟩
  ·obtain⟨k1,k2⟩:=PV 1 _ rfl;rw[cL (w:=w) (V:=J) (by simp only[dF];exact(I.tr r.cU).block _ (X _ k1))];simp only[aE,kF]at k2 ⊢;exact k2
  refine⟨((ks:Nat):Int),wo,by rw[Po,aV],by omega,.slice a5 f.cols c5,by rw[aE,aV];exact hv,((f.bars.length+j:Nat):Int),wo,ad5,ha5,by omega,?_⟩;intro O J r;obtain⟨g,Y,L,G,N,h4⟩:=hE.store r (z:=1) hv hl (show f.bars.length+j<f.cols by omega);rw[ha5]at Y;injection Y with Y;subst Y;refine⟨L,G,N,fun w5 RY=>?_⟩;obtain⟨k1,k2,k3,-,-⟩:=h4 w5 RY;replace I:=(I.tr r.cU).tr k2;have S3:=PH.set (r:=ks) (c:=f.bars.length+j) (z:=1) (t2:=2000000) (by omega) hl (by omega);rw[GO hs VA hl]at k1 S3;clear L G N h4 RY k2 k3 r hE;refine⟨((j+1:Nat):Int),wo,?_⟩;intro GT w6 E;exact⟨(j+1,w6,_),⟨Pz,I.tr E.cU,k1.rel E,S3⟩,Sub.gn [] E,by dsimp only;omega⟩
 have Pz:j=f.cZ.length:=aR hj (by simpa using Pz);subst Pz;intro IR we re;have PM:=hE.rel re;have hMl:=oC f f.cZ.length;have SY:=hE.len;refine⟨_,rfl,I.tr re.cU,⟨rv,?_,hE.len,fun i u x k1 k2=>?_⟩,PH⟩
 ·rw[show (gZ f).length=rv.length from hE.len.symm];have h5:=re.iK (id:=1) (sz:=1) (m:=rv.length) rfl (by simp) (by unfold maxLen;omega) (by decide) hE.one;rw[show (i:Nat)=rv.length by omega];exact h5.cN fun g Y=>.inr Y
 ·obtain⟨a,c,rfl⟩:=hE.form k1;have QJ:=hE.wid x (aC k2);refine⟨by rw[QJ];unfold maxLen;omega,by simp,fun v hv=>by obtain⟨z,_,rfl⟩:=aU.1 hv;rfl,a,c,by rw[QJ],?_,fun t v hv=>?_⟩
  ·rw[QJ];obtain⟨a2,c2,e,h⟩:=fF (hE.row i _ x k1 k2);injection e with e1 e2 e3;omega
  ·rw[aL]at hv
   cases ht:x[t]? with
   |none=>rw[ht]at hv;cases hv
   |some z=>
    rw[ht]at hv;simp only[bc,Option.some.injEq]at hv;subst hv;obtain⟨ad,L,G,N⟩:=PM.load k1 k2 ht;exact⟨ad,L,Cv.nw G re,by rw[aV]at N;exact N⟩
end Go.Ex
namespace Go.Ex
open Go Go.Sx Go.Proofs
variable{l:List Int}{xs:List Value}{g n:Nat}{O:Nat->Sx.dq}{v:Value}
theorem pG{i:Nat}{z:Int}(h:l[i]? =some z):dI (l.take (i+1))=dI (l.take i)++[(z:Rat)]:=by rw[dI,List.take_add_one,h,List.map_append];rfl
theorem vE{w:World}{B e sz:Nat}(h:w.ownsRow B e sz v n xs):w.ownsRow 0 e sz v n xs:=⟨h.1,h.2.imp id fun⟨g,cap,cur,e1,_,rest⟩=>⟨g,cap,cur,e1,aQ _,rest⟩⟩
theorem Cv.fin{H:Hp}{nx:Nat}{iv:Iv}{w0 w1 J:World}(Y:Cf w0 iv g)(r:Rel H nx iv w0.heap.size w1 O J):Cf w0 [(w0.heap.size,J.heap.size)] g:=by
 rcases Y with Y|⟨L,lo,A,G,N,h4⟩
 ·exact Y.elim
 ·exact .inr ⟨L,_,_,bD.2 rfl,L,by have:=r.oJ lo A G;have:=r.size;omega⟩
theorem Cv.new{w V:World}(Y:Cf w [(w.heap.size,V.heap.size)] g):Nf w V g:=by
 rcases Y with Y|⟨L,lo,A,G,N,h4⟩
 ·exact Y.elim
 ·simp at G;obtain⟨rfl,rfl⟩:=G;exact .inr ⟨N,h4⟩
theorem aAf.x{w V:World}{xs:List Rat}(h:aAf w V v xs)(R:xs.length=n):eU V FF w.heap.size [(w.heap.size,V.heap.size)] v n xs:=by
 subst R;obtain⟨Z,L,G,N,h4⟩:=h;have hl:=ownsRow.low L;refine⟨⟨Z,vE L,G,G,fun j W q k1 k2=>(h4 j W q k1 k2).cN fun g Y=>⟨?_,Y.2⟩⟩,fun g e=>.inr ⟨(hl g e).1,_,_,bD.2 rfl,(hl g e).1,(hl g e).2⟩⟩;rcases Y.1 with h|h
 ·exact h.elim
 ·exact .inr ⟨h.1,_,_,bD.2 rfl,h.1,h.2⟩
structure GU(w:World)(B:Nat)(iv:Iv)(v:Value)(M:List (List Rat)):Prop where
 row:∃rv,w.ownsRow 0 T.iB 1 v M.length rv/\rv.length=M.length/\(∀u∈rv,u.oneCell'=true)/\∀(i:Nat) u x,rv[i]? =some u->M[i]? =some x->cS w (Bs FF B iv v) u x
 new:∀g,v.ownBlock=some g->Cv FF B iv g
section
variable{H:Hp}{nx:Nat}{iv K:Iv}{B:Nat}{w J V:World}{O:Nat->Sx.dq}{v:Value}{M:List (List Rat)}
theorem GU.dK(h:GU V J.heap.size [(J.heap.size,V.heap.size)] v M)(hB:B<=J.heap.size)(hm:(J.heap.size,V.heap.size)∈iv):GU V B iv v M:=by
 have key:∀g,Cv FF J.heap.size [(J.heap.size,V.heap.size)] g->Cv FF B iv g:=fun g Y=>(Cv.new Y).dK hB hm;obtain⟨⟨rv,L,G,N,h4⟩,h5⟩:=h;exact⟨⟨rv,L,G,N,fun i u x k1 k2=>cS.cN (h4 i u x k1 k2) fun g Y=>⟨key g Y.1,Y.2⟩⟩,fun g Y=>key g (h5 g Y)⟩
theorem GU.c(h:GU w B iv v M):cV w (Cv FF B iv) v M:=by
 obtain⟨⟨rv,L,G,N,h4⟩,h5⟩:=h;refine⟨rv,?_,G,fun i u x k1 k2=>cS.cN (h4 i u x k1 k2) fun g Y=>Y.1⟩;rcases L.2 with⟨e,h0⟩|⟨g,cap,cur,e,_,hc,R,hm,hs,ht⟩
 ·have:rv=[]:=List.eq_nil_of_length_eq_zero (by rw[G,h0]);subst this;rw[e,h0];exact⟨aQ _,rfl,by simp,none,0,rfl,Nat.le_refl _,fun j u h=>by cases h⟩
 ·subst e;refine⟨aW R hm,L.1,N,_,cap,rfl,R,fun j u hu=>⟨_,rfl,h5 g rfl,?_⟩⟩;have:=L.cells (g:=g) rfl j u hu;exact this
end
theorem At.Iw{id:Nat}:((At.w id n).den O).oneCell'=true:=by
 cases h:(O id).nil<;>simp[At.den,h,Value.oneCell']
end Go.Ex
namespace Go.Ex
variable{s:Int×Int×Rat}{M:List (List Rat)}{fl:List Rat}{n r t:Nat}{u y z:Nat->Rat}{f:fC}
theorem Nd{M:List (List Int)}{c:Nat}:dD (M.map dI) r c=((ez M r c:Int):Rat):=by
 have key:∀l:List Int,(dI l).getD c 0=((l.getD c 0:Int):Rat):=fun l=>by
  rw[dI,List.getD,List.getD,aL]
  cases l[c]? <;>rfl
 unfold dD ez;rw[<-key];congr 1;rw[List.getD,List.getD,aL]
 cases M[r]? <;>rfl
theorem HP(f:fC)(r c:Nat):dD (cT f) r c=((ez (gZ f) r c:Int):Rat):=Nd
def Wid(n:Nat)(M:List (List Int)):Prop:=∀l∈M,l.length=n
theorem Wid.put{c:Nat}{d:Int}{M:List (List Int)}(h:Wid n M):Wid n (putAt M r c d):=fun l hl=>by
 unfold putAt at hl;rcases aO r M.length with hr|hr
 ·rcases bC hl with hl|rfl
  ·exact h l hl
  ·rw[bL,List.getD,aA hr];exact h _ (aY hr)
 ·rw[List.set_eq_of_length_le hr]at hl;exact h l hl
theorem Ce{f:fC}{M:List (List Int)}{n i:Nat}(h:Wid n M):∀k,Wid n (ee f M i k)
 |0=>h
 |k+1=>by rw[ee];rw[iG,iG];exact((Ce h k).put).put
theorem zz(f:fC):∀i,Wid f.cols (dm f i)
 |0=>fun l hl=>by rw[dm]at hl;rw[bI hl,bH]
 |i+1=>by rw[dm];exact Ce (zz f i) 3
theorem kR(f:fC):∀i,Wid f.cols (fO f i)
 |0=>zz f _
 |i+1=>by rw[fO];exact(kR f i).put
theorem od(M:List (List Int))(r c:Nat)(d:Int):(putAt M r c d).length=M.length:=bL ..
theorem uG(f:fC)(M:List (List Int))(i:Nat):∀k,(ee f M i k).length=M.length
 |0=>rfl
 |k+1=>by rw[ee];rw[iG,iG,od,od];exact uG f M i k
theorem sH(f:fC):∀i,(dm f i).length=3*f.nodes.length
 |0=>bH ..
 |i+1=>by rw[dm,uG];exact sH f i
theorem j9(f:fC):∀i,(fO f i).length=3*f.nodes.length
 |0=>sH f _
 |i+1=>by rw[fO,od];exact j9 f i
theorem fQ(f:fC):fZ f.cols (cT f):=fun r hr=>by
 obtain⟨l,hl,rfl⟩:=aU.1 hr;rw[dI,aJ];exact kR f _ l hl
theorem iX(f:fC):(cT f).length=3*f.nodes.length:=by rw[cT,aJ];exact j9 f _
structure FrV(f:fC):Prop where
 co:∀p∈f.nodes,(-1000000<=p.1/\p.1<=1000000)/\(-1000000<=p.2.1/\p.2.1<=1000000)/\(-1000000<=p.2.2/\p.2.2<=1000000)
 Ng:∀b∈f.bars,∃ka kb:Nat,b.1=ka/\b.2.1=kb/\ka<f.nodes.length/\kb<f.nodes.length/\ka≠kb/\0<b.2.2
 sup:∀s∈f.cZ,hJ s<3*f.nodes.length/\0<=s.2.2
 one:∀(i j:Nat) s t,f.cZ[i]? =some s->f.cZ[j]? =some t->hJ s=hJ t->i=j
 n:f.nodes.length<=20
 b:f.bars.length<=60
 s:f.cZ.length<=60
theorem I7{α:Type}{l:List α}{x:α}(h:x∈l):∃i:Nat,l[i]? =some x:=by
 obtain⟨i,A,rfl⟩:=List.mem_iff_getElem.1 h;exact⟨i,aA A⟩
theorem Lf(h:e8 f=0):FrV f:=by
 have Of:=mZ h;obtain⟨⟨L,G,N⟩,h4,h5,h6⟩:=wA h;have We:∀(k:Nat) s,f.cZ[k]? =some s->j1 f.nodes.length s.1/\(0<=s.2.1/\s.2.1<=2)/\jK s∉(f.cZ.take k).map jK/\0<=s.2.2:=fun k s hs=>rR.1 (jL h6 k s hs);have Oa:∀(k:Nat) s,f.cZ[k]? =some s->(hJ s:Int)=3*s.1+s.2.1/\hJ s<3*f.nodes.length:=fun k s hs=>by
  obtain⟨⟨a1,a2⟩,⟨a3,a4⟩,-,-⟩:=We k s hs;unfold hJ;omega
 have lt:∀(i j:Nat) s t,i<j->f.cZ[i]? =some s->f.cZ[j]? =some t->hJ s≠hJ t:=fun i j s t Pr hs ht e=>by
  obtain⟨⟨a1,a2⟩,⟨a3,a4⟩,-,-⟩:=We i s hs;obtain⟨⟨b1,b2⟩,⟨b3,b4⟩,b5,-⟩:=We j t ht;have e1:=(Oa i s hs).1;have e2:=(Oa j t ht).1;refine b5 (aU.2 ⟨s,aC (i:=i) (by rw[bS Pr];exact hs),?_⟩);exact Prod.ext (by show s.1=t.1;omega) (by show s.2.1=t.2.1;omega)
 refine⟨Of.co,fun b hb=>?_,fun s hs=>?_,fun i j s t hs ht e=>?_,L,G,N⟩
 ·obtain⟨k,D⟩:=I7 hb;obtain⟨⟨⟨a1,a2⟩,a3,a4⟩,a5,-,a6⟩:=nZ.1 (jL h5 k b D);exact⟨b.1.toNat,b.2.1.toNat,by omega,by omega,by omega,by omega,by omega,a6⟩
 ·obtain⟨k,D⟩:=I7 hs;exact⟨(Oa k s D).2,(We k s D).2.2.2⟩
 ·rcases cC i j with h7|h7|h7
  ·exact absurd e (lt i j s t h7 hs ht)
  ·exact h7
  ·exact absurd e.symm (lt j i t s h7 ht hs)
theorem Fm(M:List (List Int))(r c r' c':Nat)(d:Int):ez (putAt M r c d) r' c'=d\/ez (putAt M r c d) r' c'=ez M r' c':=by
 by_cases h:r'=r/\c'=c
 ·obtain⟨rfl,rfl⟩:=h;rcases aO r' M.length with L|L
  ·rcases aO c' (M.getD r' []).length with G|G
   ·exact .inl (Fl L G)
   ·refine .inr ?_;unfold ez putAt;rw[mX L,List.set_eq_of_length_le G]
  ·refine .inr ?_;unfold ez putAt;rw[List.set_eq_of_length_le L]
 ·exact .inr (j8 (by
   by_cases L:r'=r
   ·exact .inr fun G=>h ⟨L,G⟩
   ·exact .inl L))
theorem Fo{k:Nat}(D:k<f.nodes.length):f.node (k:Int)∈f.nodes:=by
 rw[fC.node,aE,List.getD,aA D];exact aY D
section
variable{f:fC}(h:FrV f)
include h
theorem FrV.dif{b:Int×Int×Rat}(hb:b∈f.bars)(k:Nat): -2000000<=(sh f b).getD k 0/\(sh f b).getD k 0<=2000000:=by
 obtain⟨ka,kb,ea,eb,hka,Oj,-,-⟩:=h.Ng b hb;obtain⟨⟨a1,a2⟩,⟨a3,a4⟩,a5,a6⟩:=h.co _ (Fo hka);obtain⟨⟨b1,b2⟩,⟨b3,b4⟩,b5,b6⟩:=h.co _ (Fo Oj);rw[sh,ea,eb]
 match k with
 |0=>simp[List.getD];omega
 |1=>simp[List.getD];omega
 |2=>simp[List.getD];omega
 |k+3=>simp[List.getD]
theorem FrV.Fp{i:Nat}{b:Int×Int×Rat}(hb:f.bars[i]? =some b)(r:Nat):∀k,k<=3-> -2000000<=ez (ee f (dm f i) i k) r i/\ez (ee f (dm f i) i k) r i<=2000000
 |0,_=>by
  have:=mY f (r:=r) i (Nat.le_refl i);rw[ee,this];omega
 |k+1,D=>by
  obtain⟨ka,kb,ea,eb,-,-,Oe,-⟩:=h.Ng b (aC hb);have ih:=FrV.Fp hb r k (by omega);have hd:=h.dif (aC hb) k;have z1:=oc (r:=3*ka+k) hb ea eb (show k<=3 by omega) (by omega);have z2:=oc (r:=3*kb+k) hb ea eb (show k<=3 by omega) (by omega);rw[ee];rw[Db hb,toNat_add ea,toNat_add eb,iG,iG,z1,j8 (r':=3*kb+k) (.inl (by omega)),z2];rcases Fm (putAt (ee f (dm f i) i k) (3*ka+k) i (0+(sh f b).getD k 0)) (3*kb+k) i r i (0+ -(sh f b).getD k 0)with e|e
  ·rw[e];omega
  ·rw[e];rcases Fm (ee f (dm f i) i k) (3*ka+k) i r i (0+(sh f b).getD k 0)with e|e
   ·rw[e];omega
   ·rw[e];exact ih
theorem FrV.I8{i r:Nat}(A:i<f.bars.length):∀j,i<j->j<=f.bars.length-> -2000000<=ez (dm f j) r i/\ez (dm f j) r i<=2000000
 |0,L,_=>by omega
 |j+1,L,G=>by
  rw[dm];rcases aO i j with N|N
  ·rw[vw (by omega)];exact FrV.I8 A j N (by omega)
  ·rw[show j=i by omega];exact h.Fp (aA A) r 3 (Nat.le_refl _)
theorem FrV.HQ{i:Nat}(hs:f.cZ[i]? =some s):ez (gZ f) r (f.bars.length+i)=if r=hJ s then 1 else 0:=
 Cd (kR f) (j9 f) (fun s hs=>(h.sup s hs).1) hs _ (aD.1 hs).1
theorem FrV.HR(r c:Nat): -2000000<=ez (gZ f) r c/\ez (gZ f) r c<=2000000:=by
 rcases aO c f.bars.length with hc|hc
 ·rw[gZ,zy hc];exact h.I8 hc _ hc (Nat.le_refl _)
 ·rcases aO c f.cols with L|L
  ·obtain⟨i,rfl⟩:∃i,c=f.bars.length+i:=⟨c-f.bars.length,by omega⟩
   rw[fC.cols]at L;rw[h.HQ (aA (show i<f.cZ.length by omega))];split<;>omega
  ·have:ez (gZ f) r c=0:=by
    unfold ez;rw[List.getD,List.getElem?_eq_none]
    ·rfl
    ·rcases aO r (gZ f).length with G|G
     ·rw[List.getD,aA G];show((gZ f)[r]).length<=c;rw[kR f _ _ (aY G)];exact L
     ·rw[List.getD,List.getElem?_eq_none G];exact aQ _
   rw[this];omega
theorem FrV.oe(r c:Nat):Ib 2000000 (dD (cT f) r c):=by
 rw[HP];have:=h.HR r c;exact Ib.int (by omega)
theorem FrV.lD:zl (cT f) f.cols 2000000:=fun j _=>⟨1,by decide,Ib.one (by decide),fun t _=>by rw[cB];exact h.oe j t⟩
theorem FrV.only{x:Nat->Rat}(F:∀j,j<(cT f).length->mulR (cT f) f.cols x j=0)(h0:∀t,t<f.bars.length->x t=0):∀t,t<f.cols->x t=0:=fun t ht=>by
 rcases aO t f.bars.length with L|L
 ·exact h0 t L
 ·obtain⟨i,rfl⟩:∃i,t=f.bars.length+i:=⟨t-f.bars.length,by omega⟩
  have A:i<f.cZ.length:=by unfold fC.cols at ht;omega
  have hs:=aA A;have hr:=h.sup _ (aY A);have G:=F (hJ f.cZ[i]) (by rw[iX];exact hr.1);unfold mulR at G;rw[eo ht fun k D Oe=>?_,HP,h.HQ hs,if_pos rfl]at G
  ·have e:((1:Int):Rat)*x (f.bars.length+i)=x (f.bars.length+i):=cB _
   rwa [e]at G
  ·rcases aO k f.bars.length with N|N
   ·rw[h0 k N,ah]
   ·obtain⟨i',rfl⟩:∃i,k=f.bars.length+i:=⟨k-f.bars.length,by omega⟩
    have RA:i'<f.cZ.length:=by unfold fC.cols at D;omega
    have UL:=aA RA;rw[HP,h.HQ UL,aH fun e=>Oe (by rw[h.one i i' _ _ hs UL e])];exact bE _
theorem FrV.Lg(ht:t<f.bars.length):0<(cY f).getD t 0:=by
 obtain⟨_,_,_,_,_,_,_,L⟩:=h.Ng _ (aY ht);rw[cY,List.getD,aI (by rw[aJ];exact ht),aL,aA ht];exact L
theorem FrV.Fq(t:Nat):0<=(cY f).getD t 0:=by
 rw[List.getD]
 cases ht:(cY f)[t]? with
 |none=>exact Rat.le_refl
 |some q=>
  show 0<=q;have hm:=aC ht;rcases bB.1 hm with hm|hm
  ·obtain⟨b,hb,rfl⟩:=aU.1 hm;obtain⟨_,_,_,_,_,_,_,L⟩:=h.Ng b hb;exact Rat.le_of_lt L
  ·obtain⟨s,hs,rfl⟩:=aU.1 hm;exact(h.sup s hs).2
theorem FrV.B8:uD (cT f) f.cols fun t=>(cY f).getD t 0:=by
 refine⟨fQ f,fun t _=>h.Fq t,fun x F h0=>h.only F fun t ht=>?_⟩;have L:=xL (f:=fun t=>(cY f).getD t 0*(x t*x t)) (n:=f.cols) (fun k _=>Rat.mul_nonneg (h.Fq k) (sq_nonneg _)) (by rw[h0];exact Rat.le_refl) t (by unfold fC.cols;omega);have G:=h.Lg ht;rcases Rat.mul_eq_zero.1 L with N|N
 ·rw[N]at G;exact absurd G (Rat.lt_irrefl)
 ·rcases Rat.mul_eq_zero.1 N with h4|h4<;>exact h4
end
theorem sk(f:Nat->Rat)(a:Nat):∀b,cw f (a+b)=cw f a+cw (fun k=>f (a+k)) b
 |0=>(bU _).symm
 |b+1=>by rw[show a+(b+1)=a+b+1 by omega,cw,cw,sk f a b,Rat.add_assoc]
theorem wB{k:Nat}(D:k<n):(da M n).getD k []=M.map fun r=>r.getD k 0:=by
 unfold da;exact getD_some (by rw[aL,bm D];rfl)
theorem lg{k i:Nat}(D:k<n):dD (da M n) k i=dD M i k:=by
 rw[dD,dD,wB D];rcases aO i M.length with h|h
 ·have hr:=aA h;rw[getD_some (show (M.map fun r=>r.getD k 0)[i]? =some (M[i].getD k 0) by rw[aL,hr];rfl),getD_some hr]
 ·rw[ij (by rw[aJ];exact h),show M.getD i []=[] by rw[List.getD,List.getElem?_eq_none h];rfl];rfl
theorem fa(M:List (List Rat))(n:Nat):fZ M.length (da M n):=fun r hr=>by
 obtain⟨k,_,rfl⟩:=aU.1 hr;exact aJ ..
theorem eJ(M:List (List Rat))(n:Nat):(da M n).length=n:=by simp[da]
theorem Fs(hM:fZ n M):da (da M n) M.length=M:=by
 refine gz [] (eJ _ _) fun i A=>?_;rw[eJ]at A;have hr:=hM.getD A;refine gz 0 (by rw[wB A,aJ,eJ,hr]) fun t ht=>?_;rw[wB A,aJ,eJ]at ht;have:=lg (M:=da M n) (n:=M.length) (i:=t) A;rw[lg ht]at this;exact this
abbrev og(M:List (List Rat))(n:Nat):Nat:=(cQ M n).2.length
section
variable{M:List (List Rat)}{n:Nat}
theorem Jq(hM:fZ n M){C9:Mx}(h:∀j,j<M.length->eN C9 r n (dD M j)):og M n<=r:=by
 obtain⟨r1,r2,E,r4,r5⟩:=eA hM n (Nat.le_refl _);have hl:=eP M n;have Wf:og M n=(cQ M n).2.length:=rfl;have hB:∀i,∃c:Nat->Rat,i<og M n->∀t,t<n->dD (cQ M n).1 i t=cw (fun k=>c k*C9 k t) r:=fun i=>by
  by_cases A:i<og M n
  ·obtain⟨c,hc⟩:=((ji hM n (Nat.le_refl _)).1 i (by omega)).trans h;exact⟨c,fun _=>hc⟩
  ·exact⟨fun _=>0,fun h=>absurd h A⟩
 obtain⟨Fd,hD⟩:∃Fd:Nat->Nat->Rat,∀i,i<og M n->∀t,t<n->dD (cQ M n).1 i t=cw (fun k=>Fd i k*C9 k t) r:=⟨fun i=>(hB i).choose,fun i=>(hB i).choose_spec⟩
 refine Nat.le_of_not_lt fun Ow=>?_;obtain⟨T,hT⟩:∃T:List (List Rat),T=(List.range r).map fun k=>(List.range (og M n)).map fun i=>Fd i k:=⟨_,rfl⟩
 have hTl:T.length=r:=by rw[hT];simp
 have hTn:fZ (og M n) T:=fun x F=>by
  rw[hT]at F;obtain⟨k,_,rfl⟩:=aU.1 F;simp
 have hTat:∀k i,k<r->i<og M n->dD T k i=Fd i k:=fun k i D A=>by
  have L:T[k]? =some ((List.range (og M n)).map fun i=>Fd i k):=by rw[hT,aL,bm D];rfl
  rw[dD,getD_some L];exact getD_some (by rw[aL,bm A];rfl)
 obtain⟨-,t2,-⟩:=eA hTn (og M n) (Nat.le_refl _);have VV:=l9 T (og M n);rw[eP,hTl]at t2;have hc:=o9 hTn;have Ts:0<(cW T (og M n)).length:=by omega
 have hy:=qE hTn Ts;have Pc:∀i,i<og M n->dD (cW T (og M n)) 0 i=0:=fun j hj=>by
  have hpj:(cQ M n).2.getD j 0<n:=r4 _ (by rw[List.getD,aA hj];exact aY _);have e1:cw (fun i=>dD (cW T (og M n)) 0 i*dD (cQ M n).1 i ((cQ M n).2.getD j 0)) (og M n)=0:=by
   rw[cP (g:=fun i=>cw (fun k=>dD (cW T (og M n)) 0 i*(Fd i k*C9 k ((cQ M n).2.getD j 0))) r) fun i A=>by rw[hD i A _ hpj,ek],lZ,cP (g:=fun _=>0) fun k D=>?_,dc];have G:=hy k (by omega);unfold mulR at G;rw[cP (g:=fun i=>(dD T k i*dD (cW T (og M n)) 0 i)*C9 k ((cQ M n).2.getD j 0)) fun i A=>by rw[hTat k i D A];grind,kP,G,bE]
  rw[eo hj fun i A Oe=>by rw[r5 j i hj (by omega),aH Oe,ah],r5 j j hj (by omega),if_pos rfl,Rat.mul_one]at e1;exact e1
 have N:=Da (M:=T) (n:=og M n) (c:=fun k=>if k=0 then 1 else 0) (fun t ht=>by
  rw[eo Ts fun k _ Oe=>by rw[aH Oe,bE],if_pos rfl,cB]
  exact Pc t ht) 0 Ts
 exact absurd N (by decide)
theorem sI(hM:fZ n M):og (da M n) M.length<=og M n:=by
 obtain⟨r1,r2,E,r4,r5⟩:=eA hM n (Nat.le_refl _);have hl:=eP M n;have Wf:og M n=(cQ M n).2.length:=rfl;have hrf:=zc hM;refine Jq (fa M n) (C9:=fun i j=>dD M j ((cQ M n).2.getD i 0)) fun t ht=>?_;rw[eJ]at ht;refine⟨fun i=>dD (cQ M n).1 i t,fun j hj=>?_⟩;rw[lg ht];have L:eN (dD (cQ M n).1) (og M n) n (dD M j):=((ji hM n (Nat.le_refl _)).2 j hj).cut fun i t L G ht=>E i t L (by omega) ht;rw[hrf.coeff L t ht];exact cP fun i _=>bu _ _
theorem HS(hM:fZ n M):og (da M n) M.length=og M n:=by
 refine aR (sI hM) ?_;have h:=sI (fa M n);rw[eJ,Fs hM]at h;exact h
theorem Ft(hM:fZ n M)(hr:og M n=M.length):D8 (dD M) M.length n:=by
 obtain⟨r1,r2,E,r4,r5⟩:=eA hM n (Nat.le_refl _);have hl:=eP M n;have Wf:og M n=(cQ M n).2.length:=rfl;refine(xM hM n (Nat.le_refl _)).1 fun x F j hj=>?_;have hj2:j<(cQ M n).2.length:=by omega
 have hpj:(cQ M n).2.getD j 0<n:=r4 _ (by rw[List.getD,aA hj2];exact aY _);have L:=F _ hpj;rw[eo hj fun i A Oe=>by rw[r5 j i hj2 (by omega),aH Oe,ah],r5 j j hj2 (by omega),if_pos rfl,Rat.mul_one]at L;exact L
theorem Jr{k:Nat}(D:k<n):mulR (da M n) M.length y k=cw (fun i=>dD M i k*y i) M.length:=cP fun i _=>by rw[lg D]
def jo(M:List (List Rat))(n:Nat)(fl:List Rat):List (List Rat):=(M.map fun r=>List.replicate M.length 0++r)++(List.range n).map fun j=>(M.map fun r=>r.getD j 0)++(List.replicate n 0).set j (fl.getD j 0)
theorem gj(fl:List Rat):(jo M n fl).length=M.length+n:=by unfold jo;rw[List.length_append,aJ,aJ,List.length_range]
theorem nc(hM:fZ n M)(fl:List Rat):fZ (M.length+n) (jo M n fl):=fun r hr=>by
 rcases bB.1 hr with hr|hr
 ·obtain⟨x,F,rfl⟩:=aU.1 hr;rw[List.length_append,bH,hM x F]
 ·obtain⟨x,F,rfl⟩:=aU.1 hr;rw[List.length_append,aJ,bL,bH]
theorem Dd{i:Nat}(A:i<M.length):(t<M.length->dD (jo M n fl) i t=0)/\dD (jo M n fl) i (M.length+t)=dD M i t:=by
 have hr:=aA A;have h:(jo M n fl)[i]? =some (List.replicate M.length 0++M[i]):=by
  unfold jo;rw[aI (by rw[aJ];exact A),aL,hr];rfl
 refine⟨fun ht=>?_,?_⟩
 ·rw[dD,getD_some h];exact getD_some (by rw[aI (by rw[bH];exact ht),List.getElem?_replicate,if_pos ht])
 ·rw[dD,dD,getD_some h,getD_some hr,List.getD,List.getD,aM (by rw[bH];exact Nat.le_add_right _ _),bH,Nat.add_sub_cancel_left]
theorem AA{j:Nat}(hj:j<n):(t<M.length->dD (jo M n fl) (M.length+j) t=dD M t j)/\(t<n->dD (jo M n fl) (M.length+j) (M.length+t)=if t=j then fl.getD j 0 else 0):=by
 have h:(jo M n fl)[M.length+j]? =some ((M.map fun r=>r.getD j 0)++(List.replicate n 0).set j (fl.getD j 0)):=by
  unfold jo;rw[aM (by rw[aJ];exact Nat.le_add_right _ _),aJ,Nat.add_sub_cancel_left,aL,bm hj];rfl
 refine⟨fun ht=>?_,fun ht=>?_⟩
 ·have hr:=aA ht;rw[dD,dD,getD_some h,getD_some hr];exact getD_some (by rw[aI (by rw[aJ];exact ht),aL,hr];rfl)
 ·rw[dD,getD_some h];by_cases e:t=j
  ·subst e;rw[if_pos rfl];exact getD_some (by rw[aM (by rw[aJ];exact Nat.le_add_right _ _),aJ,Nat.add_sub_cancel_left,aP (by rw[bH];exact ht)])
  ·rw[aH e];exact getD_some (by rw[aM (by rw[aJ];exact Nat.le_add_right _ _),aJ,Nat.add_sub_cancel_left,aS (Ne.symm e),List.getElem?_replicate,if_pos ht])
theorem wC{i:Nat}(A:i<M.length):mulR (jo M n fl) (M.length+n) z i=mulR M n (fun t=>z (M.length+t)) i:=by
 unfold mulR;rw[sk,cP (g:=fun _=>0) fun t ht=>by rw[(Dd A).1 ht,bE],dc,Rat.zero_add];exact cP fun t _=>by rw[(Dd A).2]
theorem wD{j:Nat}(hj:j<n):mulR (jo M n fl) (M.length+n) z (M.length+j)=cw (fun i=>dD M i j*z i) M.length+fl.getD j 0*z (M.length+j):=by
 unfold mulR;rw[sk,cP fun t ht=>by rw[(AA hj).1 ht]];congr 1;rw[eo hj fun t ht Oe=>by rw[(AA hj).2 ht,aH Oe,bE],(AA hj).2 hj,if_pos rfl]
theorem Cg(h:∀j,j<M.length->mulR M n y j=0):cw (fun t=>y t*cw (fun i=>dD M i t*u i) M.length) n=0:=by
 rw[cP (g:=fun t=>cw (fun i=>y t*(dD M i t*u i)) M.length) fun t _=>by rw[ek],lZ,cP (g:=fun _=>0) fun i A=>?_,dc];have L:=h i A;unfold mulR at L;rw[cP (g:=fun t=>dD M i t*y t*u i) fun t _=>by grind,kP,L,bE]
end
section
variable{M:List (List Rat)}{n:Nat}{fl b:List Rat}
theorem jB.aA1(hM:fZ n M){x:List Rat}(h:jB M n (fun t=>fl.getD t 0) b x):∃u,fM (da M n) (dE (fJ x fl) (-1)) M.length=some u:=by
 cases e:fM (da M n) (dE (fJ x fl) (-1)) M.length with
 |some u=>exact⟨u,rfl⟩
 |none=>
  obtain⟨y,y1,y2⟩:=o8 (fa M n) e;rw[eJ]at y1 y2;refine absurd ?_ y2;have VU:∀j,j<M.length->mulR M n y j=0:=fun j hj=>Eq.trans (cP fun t ht=>by rw[lg ht,bu]) (y1 j hj);obtain⟨c,hc⟩:=I0 hM VU;have hb:∀t,t<n->(dE (fJ x fl) (-1)).getD t 0= -(fl.getD t 0*x.getD t 0):=fun t ht=>by
   have L:=lf (a:=x) (b:=fl) (t:=t) (by rw[h.len];exact ht);have hl:t<(fJ x fl).length:=by rw[fJ,List.length_mapIdx,h.len];exact ht
   rw[getD_some (aA hl)]at L;rw[getD_some (show (dE (fJ x fl) (-1))[t]? =some ((fJ x fl)[t]* -1) by rw[dE,aL,aA hl];rfl),L];grind
  have e1:cw (fun t=>y t*(dE (fJ x fl) (-1)).getD t 0) n= -(sG (fun t=>fl.getD t 0) (fun t=>x.getD t 0) y n):=by
   unfold sG;rw[<-lY];exact cP fun t ht=>by rw[hb t ht];grind
  rw[e1,vq (x':=fun t=>x.getD t 0) (fun _ _=>rfl) hc,uF,cP (g:=fun _=>0) fun k D=>by rw[uE,h.st k D,ah],dc];rfl
theorem AB(x fl:List Rat){n:Nat}(F:x.length=n)(ht:t<n):(dE (fJ x fl) (-1)).getD t 0= -(fl.getD t 0*x.getD t 0):=by
 have L:=lf (a:=x) (b:=fl) (t:=t) (by rw[F];exact ht);have hl:t<(fJ x fl).length:=by rw[fJ,List.length_mapIdx,F];exact ht
 rw[getD_some (aA hl)]at L;rw[getD_some (show (dE (fJ x fl) (-1))[t]? =some ((fJ x fl)[t]* -1) by rw[dE,aL,aA hl];rfl),L];grind
theorem Fu(hM:fZ n M){x u:List Rat}(hb:b.length=M.length)(h:jB M n (fun t=>fl.getD t 0) b x)(hu:fM (da M n) (dE (fJ x fl) (-1)) M.length=some u):
  (u++x).length=M.length+n/\∀j,j<(jo M n fl).length->mulR (jo M n fl) (M.length+n) (fun t=>(u++x).getD t 0) j=(b++fL n).getD j 0:=by
 obtain⟨u1,u2⟩:=iV (fa M n) hu;rw[eJ]at u2;have ha:∀t,t<M.length->(u++x).getD t 0=u.getD t 0:=fun t ht=>by rw[List.getD,aI (by omega),<-List.getD]
 have hc:∀t,(u++x).getD (M.length+t) 0=x.getD t 0:=fun t=>by rw[List.getD,aM (by omega),u1,Nat.add_sub_cancel_left,<-List.getD]
 refine⟨by rw[List.length_append,u1,h.len],fun j hj=>?_⟩;rw[gj]at hj;rw[kc];rcases aO j M.length with L|L
 ·rw[wC L,sj (y:=fun t=>x.getD t 0) fun t _=>hc t];exact h.eq j L
 ·obtain⟨k,rfl⟩:∃k,j=M.length+k:=⟨j-M.length,by omega⟩
  have D:k<n:=by omega
  rw[wD D,hc,ij (l:=b) (by omega),cP (g:=fun i=>dD M i k*u.getD i 0) fun i A=>by rw[ha i A]];have G:=u2 k D;rw[Jr D,AB x fl h.len D]at G;rw[G];grind
theorem Lh(hM:fZ n M){z:List Rat}(hb:b.length=M.length)(hz:fM (jo M n fl) (b++fL n) (M.length+n)=some z):jB M n (fun t=>fl.getD t 0) b (z.drop M.length):=by
 obtain⟨z1,z2⟩:=iV (nc hM fl) hz;have hd:∀t,(z.drop M.length).getD t 0=z.getD (M.length+t) 0:=fun t=>by rw[List.getD,List.getD,bj]
 refine⟨by rw[List.length_drop,z1];omega,fun j hj=>?_,fun k D=>?_⟩
 ·have L:=z2 j (by rw[gj];omega);rw[wC hj,kc]at L;rw[<-L];exact sj (fun t _=>hd t) j
 ·have h0:=Cg (u:=fun i=>z.getD i 0) (qE hM D);unfold sG;have e:cw (fun t=>fl.getD t 0*(dD (cW M n) k t*(z.drop M.length).getD t 0)) n= -cw (fun t=>dD (cW M n) k t*cw (fun i=>dD M i t*z.getD i 0) M.length) n:=by
   rw[<-lY];refine cP fun t ht=>?_;have L:=z2 (M.length+t) (by rw[gj];omega);rw[wD ht,kc,ij (l:=b) (by omega)]at L;rw[hd];grind
  rw[e,h0];rfl
theorem Li(hE:uD M n fun t=>fl.getD t 0)(hr:og M n=M.length):Inj (jo M n fl) (M.length+n):=fun z hz=>by
 have hM:=hE.len;have L:∀j,j<M.length->mulR M n (fun t=>z (M.length+t)) j=0:=fun j hj=>by rw[<-wC hj];exact hz j (by rw[gj];omega)
 have G:∀k,k<n->cw (fun i=>dD M i k*z i) M.length+fl.getD k 0*z (M.length+k)=0:=fun k D=>by rw[<-wD D];exact hz _ (by rw[gj];omega)
 have N:sG (fun t=>fl.getD t 0) (fun t=>z (M.length+t)) (fun t=>z (M.length+t)) n=0:=by
  have e:sG (fun t=>fl.getD t 0) (fun t=>z (M.length+t)) (fun t=>z (M.length+t)) n= -cw (fun t=>z (M.length+t)*cw (fun i=>dD M i t*z i) M.length) n:=by
   unfold sG;rw[<-lY];exact cP fun t ht=>by have:=G t ht;grind
  rw[e,Cg L];rfl
 have h4:=hE.aA0 _ L N;have h5:=Ft hM hr z fun t ht=>by
  have:=G t ht;rw[h4 t ht,ah,bU]at this;exact Eq.trans (cP fun i _=>bu _ _) this
 intro t ht;rcases aO t M.length with h6|h6
 ·exact h5 t h6
 ·have:=h4 (t-M.length) (by omega)
  rwa [show M.length+(t-M.length)=t by omega]at this
theorem Ch(hM:fZ n M)(hr:og M n=M.length):∃x,fM M b n=some x:=by
 cases e:fM M b n with
 |some x=>exact⟨x,rfl⟩
 |none=>
  obtain⟨y,y1,y2⟩:=o8 hM e;have:=Ft hM hr y y1;exact absurd (by rw[cP (g:=fun _=>0) fun j hj=>by rw[this j hj,bE],dc]) y2
end
end Go.Ex
namespace Go.Ex
open Go Go.Sx Go.Proofs
variable{S:Nat->Prop}{f:fC}
section
variable{S S':Nat->Prop}{H:Hp}{nx:Nat}{iv K:Iv}{B:Nat}{w J V:World}{O:Nat->Sx.dq}{v:Value}{M:List (List Int)}
theorem k6.rel(h:k6 w (Cv S B iv) v M)(r:Rel H nx iv B w O J)(X:∀g,S g->g<B):k6 J (Cv S B iv) v M:=k6.cK h fun _ Y=>Rel.same r X Y
theorem k6.cM(h:k6 w (Cv S B iv) v M)(r:Rel H nx iv B w O J)(X:∀g,S g->g<B)(U:Ext J V)(hm:∀p,p∈iv->p∈K):k6 V (Cv S B K) v M:=
 k6.cN ((k6.rel h r X).cK fun g Y=>U.block g (Rel.old r X g Y)) fun _ Y=>Y.mono hm
theorem k6.dK(h:k6 V (Nf J V) v M)(hB:B<=J.heap.size)(hm:(J.heap.size,V.heap.size)∈iv):k6 V (Cv S B iv) v M:=k6.cN h fun _ Y=>Y.dK hB hm
end
theorem Hi(F8:List (List Int))(k:Nat):dI (F8.map fun l=>l.getD k 0)=(F8.map dI).map fun r=>r.getD k 0:=by
 rw[dI,List.map_map,List.map_map];refine List.map_congr_left fun l _=>?_;show((l.getD k 0:Int):Rat)=(dI l).getD k 0;rw[dI,List.getD,List.getD,aL]
 cases l[k]? <;>rfl
theorem GV(M:List (List Rat))(k:Nat):da M k++[M.map fun r=>r.getD k 0]=da M (k+1):=by
 rw[da,da,bO,List.map_append];rfl
set_option maxHeartbeats 1000000 in
theorem KG{w:World}{vn vb vs:Value}(X:Old S w)(hf:eG w S vn vb vs f)(PJ:e8 f=0):
  eI PG F'.uR #[.agg #[vn,vb,vs]] w (eO w fun v' V=>cV V (Nf w V) v' (da (cT f) f.cols)):=by
 have I:=bR w;have hv:=Lf PJ;obtain⟨an,cn,ab,cb,aq,cq,rfl,rfl,rfl,RR,Rk,SM⟩:=hf.shape;obtain⟨SH,S1,S2⟩:=And.intro hv.n (And.intro hv.b hv.s);have Pp:f.cols=f.bars.length+f.cZ.length:=rfl;have hZl:(gZ f).length=3*f.nodes.length:=j9 f _;refine yN (by simp) ?_;refine cJ (cE I (fun _ J v V=>k6 V (Nf J V) v (gZ f)/\Hc (gZ f) 2000000) (fun O J r=>KF (S:=S) (oS X r) (hf.cK (kS I r X)) PJ) ?_);rintro O _ _ _ Oo r U I h_ ⟨R,PH⟩;have hM:=k6.dK (S:=FF) R r.cI (mN h_);obtain⟨am,cm,rfl,-,SC⟩:=dC.shape hM;obtain⟨F8,hZ⟩:∃F8,gZ f=F8:=⟨_,rfl⟩
 have htab:cT f=F8.map dI:=by rw[cT,hZ]
 have Um:∀l∈F8,l.length=f.cols:=by rw[<-hZ];exact kR f _
 rw[hZ]at hM PH hZl SC ⊢
 refine⟨Nat×List Value×World×Iv,fun z=>⟨[(1,pP 0 0),(3,sV am F8.length cm),(4,.o (.w 1 z.2.1.length)),(5,iN z.1)],[(1,.vec T.iB 1 z.2.1),(0,.box T.Frame [.v (.slice an f.nodes.length cn),.v (.slice ab f.bars.length cb),.v (.slice aq f.cZ.length cq)])],2,z.2.2.2,z.2.2.1⟩,fun z=>f.cols-z.1,
  fun z=>z.1<=f.cols/\dw w.heap.size w z.2.2.1/\k6 z.2.2.1 (Cf w z.2.2.2) (.slice am F8.length cm) F8/\dS z.2.2.1 (Cf w z.2.2.2) z.2.1 (da (F8.map dI) z.1),?_,?_⟩
 ·intro O J r;exact⟨(0,[],J,_),⟨aQ _,I.tr r.cU,k6.rel hM r (cH w),by simp[dS,da]⟩,Sub.nil 4 T.iB 1 rfl (by simp[jw,SV.sc,At.sc,fW]) r fun Id r1=>Sub.gn [] r1⟩
 rintro⟨k,rv,w1,iv⟩ ⟨D,I,hM,hK⟩;dsimp only at D I hM hK ⊢;have Po:rv.length=k:=by rw[hK.1,nJ]
 refine cJ (cE I (fun _ J v V=>v= .int .i64 f.cols) (fun O J r=>my (hf.cK (kS I r X)) ⟨S1,S2⟩) ?_);rintro O _ _ _ Od r U I h_ rfl;replace hM:=k6.cM hM r (cH w) U (mC h_);replace hK:=hK.cM r (cH w) U (mC h_);refine dQ.mk ?_ ?_<;>intro Oj
 ·have Oj:k<f.cols:=by simpa using Oj
  refine⟨Nat×List (List Value)×World×Iv,fun z=>⟨[(1,pP 0 0),(3,sV am F8.length cm),(4,.o (.w 1 rv.length)),(5,iN k),(6,.o (.w 2 z.2.1.length)),(7,iN z.1)],[(2,.vec T.Rat 4 z.2.1.flatten),(1,.vec T.iB 1 rv),(0,.box T.Frame [.v (.slice an f.nodes.length cn),.v (.slice ab f.bars.length cb),.v (.slice aq f.cZ.length cq)])],3,z.2.2.2,z.2.2.1⟩,fun z=>F8.length-z.1,
   fun z=>z.1<=F8.length/\dw w.heap.size w z.2.2.1/\k6 z.2.2.1 (Cf w z.2.2.2) (.slice am F8.length cm) F8/\dS z.2.2.1 (Cf w z.2.2.2) rv (da (F8.map dI) k)/\eS z.2.2.1 (Cf w z.2.2.2) z.2.1 (dI ((F8.map fun l=>l.getD k 0).take z.1)),?_,?_⟩
  ·intro O J r;exact⟨(0,[],J,_),⟨aQ _,I.tr r.cU,k6.rel hM r (cH w),hK.rel r (cH w),eS.nil⟩,Sub.nil 6 T.Rat 4 rfl (by simp[jw,SV.sc,At.sc,fW]) r fun Id r1=>Sub.gn [] r1⟩
  rintro⟨i,Z,w3,iv⟩ ⟨A,I,hM,hK,hG⟩;dsimp only at A I hM hK hG ⊢;have PL:=ef hG.four;have Wt:Z.length=i:=by rw[hG.len,dI,aJ,aX,aJ];omega
  refine dQ.mk ?_ ?_<;>intro OZ
  ·have OZ:i<F8.length:=by simpa using OZ
   obtain⟨l,hl⟩:∃x,F8[i]? =some x:=⟨_,aA OZ⟩
   have hlw:=Um l (aC hl);obtain⟨z,hz⟩:∃x,l[k]? =some x:=⟨_,aA (by omega)⟩
   have Ul:=PH l (aC hl) z (aC hz);have UA:(F8.map fun l=>l.getD k 0)[i]? =some z:=by rw[aL,hl];show some (l.getD k 0)=_;rw[List.getD,hz];rfl
   obtain⟨adm,um,Rn,Pj,km1,km2⟩:=dC.load hM hl;obtain⟨al,cl,rfl,-,RM⟩:=Pj.shape;obtain⟨adx,QE,hSx,PU⟩:=Hb.at Pj hz;refine⟨adm,Rn,by omega,.slice al l.length cl,fun O J r=>?_,?_⟩
   ·rw[aE,cL (w:=w3) (V:=J) (by rw[dF];exact Rel.same r (cH w) km1)];exact km2
   refine⟨adx,QE,by omega,.int .i64 z,fun O J r=>?_,?_⟩
   ·rw[aE,cL (w:=w3) (V:=J) (by rw[dF];exact Rel.same r (cH w) hSx)];exact PU
   refine cJ (cE I (fun _ J v V=>dA V (Nf J V) v (z:Rat)) (fun O J r=>ki z J (by omega)) ?_);rintro O _ _ _ Oq r U I h_ R;replace hM:=k6.cM hM r (cH w) U (mC h_);replace hK:=hK.cM r (cH w) U (mC h_);replace hG:=hG.cM r (cH w) U (mC h_);have hd:=R.dK (S:=FF) r.cI (mN h_);obtain⟨A0,A1,A2,A3,A4,A5,A6,A7,rfl⟩:=hd.shape;have UP:=hG.push (W:=[.bool A0,.slice A1 A2 A3,.bool A4,.slice A5 A6 A7]) (q:=(z:Rat)) ⟨_,_,_,_,_,_,_,_,rfl,hd⟩ rfl;rw[<-pG UA]at UP;have Qc:Z.flatten++([.bool A0,.slice A1 A2 A3,.bool A4,.slice A5 A6 A7]:List Value)=(Z++([[.bool A0,.slice A1 A2 A3,.bool A4,.slice A5 A6 A7]]:List (List Value))).flatten:=by simp
   refine .inl ?_;refine⟨by omega,by omega,by unfold maxLen;omega,((i+1:Nat):Int),wo,?_⟩;intro GT w6 E;exact⟨(i+1,Z++[[.bool A0,.slice A1 A2 A3,.bool A4,.slice A5 A6 A7]],w6,_),⟨OZ,I.tr E.cU,k6.rel hM E (cH w),hK.rel E (cH w),UP.rel E (cH w)⟩,Sub.gn [(2,4)] E ⟨by dsimp only;rw[<-Qc];rfl,rfl,rfl,trivial⟩ ⟨rfl,rfl,rfl,rfl,by dsimp only;rw[List.length_append,List.length_singleton];rfl,rfl,trivial⟩,by dsimp only;omega⟩
  have OZ:i=F8.length:=aR A (by simpa using OZ);have Tv:dI ((F8.map fun l=>l.getD k 0).take i)=(F8.map dI).map fun r=>r.getD k 0:=by rw[OZ,<-aJ (f:=fun l:List Int=>l.getD k 0),bA,Hi]
  rw[Tv]at hG;refine lQ hτ (id3:=3) (id2:=2) (tH:=[(1,.vec T.iB 1 rv),(0,.box T.Frame [.v (.slice an f.nodes.length cn),.v (.slice ab f.bars.length cb),.v (.slice aq f.cZ.length cq)])]) rfl rfl rfl rfl (by simp) (by first|exact⟨rfl,trivial⟩|exact⟨rfl,rfl,trivial⟩) rfl rfl (fun O J r r2 SI=>?_);have Oa:=eS.list ((hG.rel r (cH w)).cN fun g Y=>Cv.mono (K:=((O 3).g,(O 3).g+1)::jf (O 2) iv) Y fun p hp=>aB _ (kN p hp)) ((r.Hh (id:=2) (sz:=4) (m:=Z.length) rfl PL (by unfold maxLen;omega) (by decide) hG.one).cN fun g Y=>Cv.mono Y fun p hp=>aB _ hp);have PZ:((At.w 2 Z.length).den O).oneCell'=true:=At.Iw;have Rb:=r.low 3 _ rfl (r.fits (id:=3) rfl).1;have hC3:Cf w (((O 3).g,(O 3).g+1)::jf (O 2) iv) (O 3).g:=.inr ⟨Rb.1,_,_,aF,Nat.le_refl _,bQ _⟩;have Ol:∀p,p∈iv->p∈((O 3).g,(O 3).g+1)::jf (O 2) iv:=fun p hp=>aB _ (kN p hp);have PE:=I.tr r.cU;have Vi:=(hK.rel r (cH w)).cN fun g Y=>Cv.mono Y Ol;have hM1:=k6.cN (k6.rel hM r (cH w)) fun g Y=>Cv.mono Y Ol;generalize (At.w 2 Z.length).den O=ur at*
  generalize (O 3).g=gy at*
  generalize (gy,gy+1)::jf (O 2) iv=Od at*
  refine⟨[ur],rfl,by simpa using PZ,fun GE V r2 _=>⟨_,rfl,fun j u hu=>?_⟩,?_⟩
  ·have h5:=Rel.same r2 (gY _) hC3;rw[dL,cell_of (h5.trans SI)];rcases j with _|j
   ·exact hu
   ·cases hu
  refine⟨by simp,by omega,by unfold maxLen;omega,?_⟩;have Qh:=Vi.push PZ Oa;rw[GV]at Qh;refine⟨((k+1:Nat):Int),wo,?_⟩;intro GT w6 E;exact⟨(k+1,rv++[ur],w6,_),⟨Oj,PE.tr E.cU,k6.rel hM1 E (cH w),Qh.rel E (cH w)⟩,Sub.gn [(1,4)] E (hE:=⟨rfl,rfl,by dsimp only;rw[List.length_append,List.length_singleton];rfl,rfl,trivial⟩),by dsimp only;omega⟩
 have Oj:k=f.cols:=aR D (by simpa using Oj);rw[Oj]at hK;rw[htab];intro IR we re;refine⟨_,rfl,I.tr re.cU,rv,?_,hK.1,fun i u x k1 k2=>cS.out (hK.2.2 i u x k1 k2) re (cH w)⟩;have h5:=re.iK (id:=1) (sz:=1) (m:=rv.length) rfl (by simp) (by unfold maxLen;omega) (by decide) hK.2.1;rw[show (da (F8.map dI) f.cols).length=rv.length from hK.1.symm];exact h5.cN fun g Y=>.inr Y
set_option maxHeartbeats 1000000 in
theorem KH{w:World}{vn vb vs vl:Value}{l:List Ld}(X:Old S w)(hf:eG w S vn vb vs f)(hl:jA w S vl l)(SH:f.nodes.length<=20)(Of:xm f.nodes.length l):
  eI PG F'.uJ #[.agg #[vn,vb,vs],vl] w (eO w fun v' V=>cS V (Nf w V) v' (fV f l)):=by
 have I:=bR w;obtain⟨an,cn,ab,cb,aq,cq,rfl,rfl,rfl,RR,Rk,SM⟩:=hf.shape;obtain⟨al,cl,rfl,Pu,RM⟩:=hl.shape;have hl200:=Of.len;refine yE (by simp) ?_;refine⟨((3*f.nodes.length:Nat):Int),wo,?_⟩;obtain⟨m,hm⟩:∃m,3*f.nodes.length=m:=⟨_,rfl⟩
 rw[hm]
 refine⟨m,m,rfl,rfl,Nat.le_refl _,by omega,by omega,Nat×World,fun z=>⟨[(1,sV al l.length cl),(5,.o (.s 1 0 m m)),(6,iN z.1)],[(1,.arr T.int (zv (fe f.nodes.length l z.1)))],2,[],z.2⟩,fun z=>l.length-z.1,
  fun z=>z.1<=l.length/\dw w.heap.size w z.2/\NN (fe f.nodes.length l z.1) (3000000*z.1),?_,?_⟩
 ·intro O J E;exact⟨(0,J),⟨aQ _,I.tr E.cU,fun z hz=>by rw[fe]at hz;rw[bI hz];exact⟨Int.le_refl _,Int.le_refl _⟩⟩,Sub.gn [] E ⟨by dsimp only;rw[fe,hm,zv,List.map_replicate];rfl,trivial⟩⟩
 rintro⟨i,w1⟩ ⟨A,I,PH⟩;dsimp only at A I PH ⊢;refine dQ.mk ?_ ?_<;>intro OZ
 ·have OZ:i<l.length:=by simpa using OZ
  obtain⟨x,F⟩:∃x,l[i]? =some x:=⟨_,aA OZ⟩
  obtain⟨R,SS,RP,hx3⟩:=Of.ld x (aC F);obtain⟨kn,Wc⟩:=Int.eq_ofNat_of_zero_le R.1;obtain⟨adx,W,QE,hP,-,PU⟩:=hl.load (by decide) F;have hP:W=[.int .i64 x.1,.int .i64 x.2.1,.int .i64 x.2.2.1,.int .i64 x.2.2.2]:=hP;subst hP;obtain⟨s0,WM⟩:∃s,fe f.nodes.length l i=s:=⟨_,rfl⟩
  rw[WM]at PH;have SE:s0.length=m:=by rw[<-WM,kT,hm]
  obtain⟨z0,Ov⟩:∃z,s0[3*kn]? =some z:=⟨_,aA (by omega)⟩
  obtain⟨z1,PF⟩:∃z,s0[3*kn+1]? =some z:=⟨_,aA (by omega)⟩
  obtain⟨z2,QD⟩:∃z,s0[3*kn+2]? =some z:=⟨_,aA (by omega)⟩
  have b0:=PH z0 (aC Ov);have b1:=PH z1 (aC PF);have b2:=PH z2 (aC QD);have n1:gb s0 x 1=s0.set (3*kn) (z0+x.2.1):=(mw (k:=0) (j:=3*kn) (by omega) rfl Ov).symm;have n2:gb s0 x 2=(s0.set (3*kn) (z0+x.2.1)).set (3*kn+1) (z1+x.2.2.1):=by
   rw[<-n1];exact(mw (k:=1) (j:=3*kn+1) (by omega) rfl (by rw[n1,aS (by omega)];exact PF)).symm
  have n3:gb s0 x 3=((s0.set (3*kn) (z0+x.2.1)).set (3*kn+1) (z1+x.2.2.1)).set (3*kn+2) (z2+x.2.2.2):=by
   rw[<-n2];exact(mw (k:=2) (j:=3*kn+2) (by omega) rfl (by rw[n2,aS (by omega),aS (by omega)];exact QD)).symm
  have RD:gb s0 x 3=fe f.nodes.length l (i+1):=by rw[fe,show l.getD i (0,0,0,0)=x by rw[List.getD,F];rfl,WM]
  have hbd1:=PH.set (j:=3*kn) (z:=z0+x.2.1) (t2:=3000000*i+1000000) (by omega) (by omega);have S3:=hbd1.set (j:=3*kn+1) (z:=z1+x.2.2.1) (t2:=3000000*i+2000000) (by omega) (by omega);have hbd3:=S3.set (j:=3*kn+2) (z:=z2+x.2.2.2) (t2:=3000000*i+3000000) (by omega) (by omega);rw[<-n3,RD]at hbd3;rw[WM];refine⟨adx,QE,by omega,.int .i64 x.1,fun O J r=>?_,?_⟩
  ·obtain⟨k1,k2⟩:=PU 0 _ rfl;rw[cL (w:=w) (V:=J) (by simp only[dF];exact(I.tr r.cU).block _ (X _ k1))];simp only[aE,kF]at k2 ⊢;exact k2
  refine⟨((3*kn:Nat):Int),wo,?_⟩;refine cR hτ dx [.x 0,.x 1,.x 2,.x 3,.x 4,.x 5,.x 6,.x 7,.x 8,.x 9,.x 10,.x 11,.x 12,.x 13,.x 14,.x 15,.x 16,.x 17,.x 18,.x 19,.x 20,.x 21,.x 22,.x 23,.x 24,.x 25,.x 26,.x 27,.x 28,.x 29,.x 30,.x 31,.x 32,.x 33,.x 34,.x 35,.x 36,.x 37,.x 38,.x 39,.x 40,.x 41,.x 42,.x 43,.x 44,.x 45] (by kernel_rfl) (by kernel_rfl) ?_;refine⟨((3*kn+1:Nat):Int),wo,((3*kn+2:Nat):Int),wo,by omega,.int .i64 z0,by rw[aE,aV,aT];exact Cy Ov,adx,QE,by omega,.int .i64 x.2.1,fun O J r=>?_,?_⟩
  ·obtain⟨k1,k2⟩:=PU 1 _ rfl;rw[cL (w:=w) (V:=J) (by simp only[dF];exact(I.tr r.cU).block _ (X _ k1))];simp only[aE,kF]at k2 ⊢;exact k2
  refine⟨z0+x.2.1,wo,((3*kn+1:Nat):Int),wo,by omega,.int .i64 z1,by rw[aE,aV,aT];exact Cy PF,adx,QE,by omega,.int .i64 x.2.2.1,fun O J r=>?_,?_⟩
  ·obtain⟨k1,k2⟩:=PU 2 _ rfl;rw[cL (w:=w) (V:=J) (by simp only[dF];exact(I.tr r.cU).block _ (X _ k1))];simp only[aE,kF]at k2 ⊢;exact k2
  refine⟨z1+x.2.2.1,wo,((3*kn+2:Nat):Int),wo,by omega,.int .i64 z2,by rw[aE,aV,aT];exact Cy QD,adx,QE,by omega,.int .i64 x.2.2.2,fun O J r=>?_,?_⟩
  ·obtain⟨k1,k2⟩:=PU 3 _ rfl;rw[cL (w:=w) (V:=J) (by simp only[dF];exact(I.tr r.cU).block _ (X _ k1))];simp only[aE,kF]at k2 ⊢;exact k2
  refine⟨z2+x.2.2.2,wo,by omega,by rw[ES];(try rw[bL]);(try rw[bL]);omega,zv ((s0).set (3*kn) (z0+x.2.1)),?_,?_⟩
  ·rw[aE,aV,aT];exact ET (by (try rw[bL]);(try rw[bL]);omega)
  refine⟨by omega,by rw[ES];(try rw[bL]);(try rw[bL]);omega,zv (((s0).set (3*kn) (z0+x.2.1)).set (3*kn+1) (z1+x.2.2.1)),?_,?_⟩
  ·rw[aE,aV,aT];exact ET (by (try rw[bL]);(try rw[bL]);omega)
  refine⟨by omega,by rw[ES];(try rw[bL]);(try rw[bL]);omega,zv ((((s0).set (3*kn) (z0+x.2.1)).set (3*kn+1) (z1+x.2.2.1)).set (3*kn+2) (z2+x.2.2.2)),?_,?_⟩
  ·rw[aE,aV,aT];exact ET (by (try rw[bL]);(try rw[bL]);omega)
  refine⟨((i+1:Nat):Int),wo,?_⟩;intro GT w6 E;exact⟨(i+1,w6),⟨OZ,I.tr E.cU,fun z hz=>by have:=hbd3 z hz;dsimp only;omega⟩,Sub.gn [] E ⟨by dsimp only;rw[<-RD,n3];rfl,trivial⟩,by dsimp only;omega⟩
 have OZ:i=l.length:=aR A (by simpa using OZ);subst OZ;obtain⟨s0,WM⟩:∃s,fe f.nodes.length l l.length=s:=⟨_,rfl⟩
 have SE:s0.length=m:=by rw[<-WM,kT,hm]
 rw[WM]at PH ⊢
 refine⟨Nat×List (List Value)×World×Iv,fun z=>⟨[(5,.o (.s 1 0 m m)),(8,.o (.w 2 z.2.1.length)),(9,iN z.1)],[(2,.vec T.Rat 4 z.2.1.flatten),(1,.arr T.int (zv s0))],3,z.2.2.2,z.2.2.1⟩,fun z=>m-z.1,
  fun z=>z.1<=m/\dw w.heap.size w z.2.2.1/\eS z.2.2.1 (Cf w z.2.2.2) z.2.1 (dI (s0.take z.1)),?_,?_⟩
 ·intro O J r;exact⟨(0,[],J,_),⟨aQ _,I.tr r.cU,eS.nil⟩,Sub.nil 8 T.Rat 4 rfl (by simp[jw,SV.sc,At.sc,fW]) r fun Id r1=>Sub.gn [] r1⟩
 rintro⟨i,Z,w1,iv⟩ ⟨A,I,hG⟩;dsimp only at A I hG ⊢;have PL:=ef hG.four;have Wt:Z.length=i:=by rw[hG.len,dI,aJ,aX];omega
 refine dQ.mk ?_ ?_<;>intro OZ
 ·have OZ:i<m:=by simpa using OZ
  obtain⟨z,hz⟩:∃z,s0[i]? =some z:=⟨_,aA (by omega)⟩
  have Ul:=PH z (aC hz);refine⟨by omega,.int .i64 z,by rw[aE,aV,aT];exact Cy hz,?_⟩;refine cJ (cE I (fun _ J v V=>dA V (Nf J V) v (z:Rat)) (fun O J r=>ki z J (by omega)) ?_);rintro O _ _ _ Oo r U I h_ R;replace hG:=hG.cM r (cH w) U (mC h_);have hd:=R.dK (S:=FF) r.cI (mN h_);obtain⟨A0,A1,A2,A3,A4,A5,A6,A7,rfl⟩:=hd.shape;have UP:=hG.push (W:=[.bool A0,.slice A1 A2 A3,.bool A4,.slice A5 A6 A7]) (q:=(z:Rat)) ⟨_,_,_,_,_,_,_,_,rfl,hd⟩ rfl;rw[<-pG hz]at UP;have Qc:Z.flatten++([.bool A0,.slice A1 A2 A3,.bool A4,.slice A5 A6 A7]:List Value)=(Z++([[.bool A0,.slice A1 A2 A3,.bool A4,.slice A5 A6 A7]]:List (List Value))).flatten:=by simp
  refine .inl ?_;refine⟨by omega,by omega,by unfold maxLen;omega,((i+1:Nat):Int),wo,?_⟩;intro GT w6 E;exact⟨(i+1,Z++[[.bool A0,.slice A1 A2 A3,.bool A4,.slice A5 A6 A7]],w6,_),⟨OZ,I.tr E.cU,UP.rel E (cH w)⟩,Sub.gn [(2,4)] E ⟨by dsimp only;rw[<-Qc];rfl,rfl,trivial⟩ ⟨rfl,by dsimp only;rw[List.length_append,List.length_singleton];rfl,rfl,trivial⟩,by dsimp only;omega⟩
 have OZ:i=m:=aR A (by simpa using OZ);have Tv:dI (s0.take i)=fV f l:=by rw[fV,WM,OZ,<-SE,bA]
 rw[Tv]at hG;intro IR we re;refine⟨_,rfl,I.tr re.cU,?_⟩;have h5:=re.iK (id:=2) (sz:=4) (m:=Z.length) rfl PL (by unfold maxLen;omega) (by decide) hG.one;exact eS.list ((hG.rel re (cH w)).cN fun g Y=>Cv.nw Y re) (h5.cN fun g Y=>.inr Y)
end Go.Ex
namespace Go.Ex
open Go
section
theorem HT:∀(F' m:Nat) (g:Nat->Nat),(∀i,i<m->g i<F')->(∀i j,i<m->j<m->g i=g j->i=j)->m<=F'
 |0,m,g,L,_=>by
  rcases bK m with h|h
  ·omega
  ·exact absurd (L 0 h) (Nat.not_lt_zero _)
 |F'+1,m,g,L,G=>by
  by_cases h:∃i,i<m/\g i=F'
  ·obtain⟨i0,A,e⟩:=h
   have:=HT F' (m-1) (fun i=>if i<i0 then g i else g (i+1)) (fun i RA=>by
    show(if i<i0 then g i else g (i+1))<F';split
    ·rename_i Ow;have:=L i (by omega);have:g i≠F':=fun e2=>by have:=G i i0 (by omega) A (by rw[e2,e]);omega
     omega
    ·have:=L (i+1) (by omega);have:g (i+1)≠F':=fun e2=>by have:=G (i+1) i0 (by omega) A (by rw[e2,e]);omega
     omega) (fun i j RA hj' e2=>by
    have e3:(if i<i0 then g i else g (i+1))=(if j<i0 then g j else g (j+1)):=e2;split at e3<;>split at e3
    ·exact G _ _ (by omega) (by omega) e3
    ·have:=G _ _ (by omega) (by omega) e3;omega
    ·have:=G _ _ (by omega) (by omega) e3;omega
    ·have:=G _ _ (by omega) (by omega) e3;omega)
   omega
  ·exact Nat.le_succ_of_le (HT F' m g (fun i A=>by
    have:=L i A;have:g i≠F':=fun e=>h ⟨i,A,e⟩
    omega) G)
structure FrS(f:fC):Prop extends FrV f where
 n4:f.nodes.length<=4
 b6:f.bars.length<=6
variable{f:fC}
theorem FrS.s12(h:FrS f):f.cZ.length<=12:=by
 have:=HT (3*f.nodes.length) f.cZ.length (fun i=>hJ (f.cZ.getD i (0,0,0))) (fun i A=>by
  have e:f.cZ.getD i (0,0,0)=f.cZ[i]:=getD_some (aA A);show hJ (f.cZ.getD i (0,0,0))<_;rw[e]
  exact(h.sup _ (aY A)).1) (fun i j A hj e=>by
  have e1:f.cZ.getD i (0,0,0)=f.cZ[i]:=getD_some (aA A);have e2:f.cZ.getD j (0,0,0)=f.cZ[j]:=getD_some (aA hj);have e:hJ (f.cZ.getD i (0,0,0))=hJ (f.cZ.getD j (0,0,0)):=e;rw[e1,e2]at e
  exact h.one i j _ _ (aA A) (aA hj) e)
 have:=h.n4;omega
theorem FrS.Kf(h:FrS f):f.cols<=18:=by
 have L:=h.s12;have G:=h.b6;unfold fC.cols;omega
theorem FrS.Lj(h:FrS f):(cT f).length<=12:=by
 rw[iX];have:=h.n4;omega
theorem aAz:18*2000000<=wt 1:=by decide
theorem FrS.size(h:FrS f):ln (fB 2000000 (cT f).length)<=13:=by
 have:=h.Lj;have G:=OT (B:=2000000) (EQ:=18) (l:=1) (n:=(cT f).length) (by omega) aAz;omega
end
end Go.Ex
namespace Go.Ex
open Go Go.Sx Go.Proofs
variable{M:List (List Rat)}{s:List Int}{l:List Ld}{S:Nat->Prop}{vb vn vs:Value}{f:fC}
theorem oE{n B h:Nat}(hM:fZ n M)(hW:zl M n B)(hB:1<=B)(hh:ln (fB B M.length)+1<=h):EO M n h:=
 ⟨fun i A r hr q hq=>by have:=LV hM hW hB A r hr q hq;omega,fun i A k D q hq=>by have:=LW hM hW hB A D q hq;omega⟩
theorem BG{n B h:Nat}(hM:fZ n M)(hW:zl M n B)(hB:1<=B)(hh:ln (fB B M.length)+1<=h):Ht (dY M n).1 h:=fun r hr q hq=>by
 rw[(o7 hM hW).2]at hr;have:=zo hM hW hB (Nat.le_refl n) r (List.mem_of_mem_take hr) q hq;omega
theorem qv(M:List (List Rat))(n:Nat)(hM:fZ n M):(cQ M n).2.length<=(cQ M n).1.length/\(cQ M n).2.length<=n:=by
 obtain⟨r1,r2,E,r4,r5⟩:=eA hM n (Nat.le_refl _);have:=(gh M n).2.2;unfold cQ at*
 exact⟨r2,by omega⟩
theorem Hm{w:World}(X:Old S w)(hf:eG w S vn vb vs f)(Tf:e8 f=0->FrS f):
  eI PG F'.qQ #[.agg #[vn,vb,vs]] w (eO w fun v' V=>(e8 f≠0/\v'= .tuple #[.slice none 0 0,.int .i64 (e8 f)])\/(e8 f=0/\∃vz,v'= .tuple #[vz,.int .i64 0]/\k6 V (Nf w V) vz (gZ f))):=by
 have I:=bR w;obtain⟨an,cn,ab,cb,aq,cq,rfl,rfl,rfl,RR,Rk,SM⟩:=hf.shape;have Pp:f.cols=f.bars.length+f.cZ.length:=rfl;have St:=xl f;obtain⟨e0,EE⟩:∃e,e8 f=e:=⟨_,rfl⟩
 refine ue (by simp) ?_;refine cJ (cE I (fun _ J v V=>v= .int .i64 e0) (fun O J r=>(BB (oS X r) (hf.cK (kS I r X))).mono fun _ _ ⟨v2,e1,e2,e3⟩=>⟨v2,e1,e2,by rw[e3,EE]⟩) ?_);rintro O _ _ _ Oo r U I h_ rfl;refine dQ.mk ?_ ?_<;>intro U
 ·have U:e0≠0:=by simpa using U
  exact rtn I fun IR we re=>.inl ⟨by rw[EE];exact U,by rw[EE];rfl⟩
 have U:e0=0:=by simpa using U
 have PJ:e8 f=0:=by rw[EE,U]
 have QC:=Tf PJ;have Of:=mZ PJ;refine cJ (cE I (fun _ J v V=>k6 V (Nf J V) v (gZ f)) (fun O J r=>(Cx (oS X r) (hf.cK (kS I r X)) Of).mono fun _ _ ⟨v2,e1,e2,e3,_⟩=>⟨v2,e1,e2,e3⟩) ?_);rintro O _ _ _ Od r U I h_ R;have hZ:=k6.dK (S:=FF) R r.cI (mN h_);obtain⟨az,cz,rfl,-,-⟩:=dC.shape hZ;exact rtn I fun IR we re=>.inr ⟨PJ,_,rfl,k6.cN (k6.rel hZ re (cH w)) fun g Y=>Cv.nw Y re⟩
theorem GW{w:World}(X:Old S w)(hf:eG w S vn vb vs f)(Tf:e8 f=0->FrS f):
  eI PG F'.nf #[.agg #[vn,vb,vs]] w (eO w fun v' V=>(e8 f≠0/\v'= .tuple #[.slice none 0 0,.int .i64 (e8 f)])\/(e8 f=0/\∃vz,v'= .tuple #[vz,.int .i64 0]/\cV V (Nf w V) vz (cW (cT f) f.cols))):=by
 have I:=bR w;obtain⟨an,cn,ab,cb,aq,cq,rfl,rfl,rfl,RR,Rk,SM⟩:=hf.shape;have Pp:f.cols=f.bars.length+f.cZ.length:=rfl;have St:=xl f;obtain⟨e0,EE⟩:∃e,e8 f=e:=⟨_,rfl⟩
 refine rk (by simp) ?_;refine cJ (cE I (fun _ J v V=>v= .int .i64 e0) (fun O J r=>(BB (oS X r) (hf.cK (kS I r X))).mono fun _ _ ⟨v2,e1,e2,e3⟩=>⟨v2,e1,e2,by rw[e3,EE]⟩) ?_);rintro O Q6 v1 QT Oo r U I h_ rfl;refine dQ.mk ?_ ?_<;>intro U
 ·have U:e0≠0:=by simpa using U
  exact rtn I fun IR we re=>.inl ⟨by rw[EE];exact U,by rw[EE];rfl⟩
 have U:e0=0:=by simpa using U
 have PJ:e8 f=0:=by rw[EE,U]
 have QC:=Tf PJ;have Of:=mZ PJ;refine cJ (cE I (fun _ J v V=>(∃vr,v= .agg #[vr,.int .i64 f.cols]/\cV V (Nf J V) vr (cT f))/\fZ f.cols (cT f)/\Ht (cT f) 2) (fun O J r=>tJ (S:=S) (oS X r) (hf.cK (kS I r X)) Of) ?_);rintro O _ _ _ ivt r U I h_ ⟨⟨vr,rfl,k1⟩,hlen,hht⟩;have hM:=cV.dK (S:=FF) k1 r.cI (mN h_);obtain⟨am,cm,rfl,So,SC⟩:=dC.shape hM;have Uo:=QC.Kf;have Vj:=QC.Lj;refine cJ (cE I (fun _ J v V=>cV V (Nf J V) v (kX (cT f) f.cols)) (fun O J r=>BF (C:=Cf w ivt) (S:=Cf w ivt) (h:=20) (Rel.old r (cH w)) (Rel.old r (cH w)) (cV.rel hM r (cH w)) hlen (by omega) (by omega) (oE hlen QC.lD (by decide) (by have:=QC.size;omega)) (BG hlen QC.lD (by decide) (by have:=QC.size;omega)) (by decide)) ?_);rintro O _ _ _ Od r U I h_ R;have hK:=cV.dK (S:=FF) R r.cI (mN h_);rw[zp hlen QC.lD]at hK;obtain⟨ak,ck,rfl,-,-⟩:=dC.shape hK;exact rtn I fun IR we re=>.inr ⟨PJ,_,rfl,cV.cN (cV.rel hK re (cH w)) fun g Y=>Cv.nw Y re⟩
section
variable{S:Nat->Prop}{w:World}{v u:Value}{M:List (List Rat)}{b:List Rat}{n h0:Nat}
end
theorem Bu{w:World}{vl:Value}(X:Old S w)(hf:eG w S vn vb vs f)(hl:jA w S vl l):eI PG F'.nk #[.agg #[vn,vb,vs],vl] w (eO w fun v' _=>v'= .int .i64 (tL f.nodes.length l)):=by
 have I:=bR w;obtain⟨an,cn,ab,cb,aq,cq,rfl,rfl,rfl,RR,Rk,SM⟩:=hf.shape;obtain⟨al,cl,rfl,Pu,RM⟩:=hl.shape;unfold maxLen at RM;refine rp (by simp) ?_;refine dQ.mk ?_ ?_<;>intro L
 ·have L:=aK L;exact rtn I fun IR we re=>by show Value.int .i64 _=_;rw[tL,if_pos (by omega)]
 have L:=aG L
 refine⟨Nat×World×Iv,fun z=>⟨[(1,sV al l.length cl),(2,pP 0 0),(5,iN z.1)],[(0,.box T.Frame [.v (.slice an f.nodes.length cn),.v (.slice ab f.bars.length cb),.v (.slice aq f.cZ.length cq)])],1,z.2.2,z.2.1⟩,fun z=>l.length-z.1,
  fun z=>z.1<=l.length/\dw w.heap.size w z.2.1/\tL f.nodes.length l=fH (fun _=>jt f.nodes.length) (l.take z.1) (l.drop z.1),?_,?_⟩
 ·intro O J E;exact⟨(0,J,[]),⟨aQ _,I.tr E.cU,by rw[tL,aH (by omega)];rfl⟩,Sub.gn [] E⟩
 clear I;rintro⟨i,w1,iv⟩ ⟨A,I,hE⟩;dsimp only at A I hE ⊢;refine dQ.mk ?_ ?_<;>intro OZ
 ·have OZ:i<l.length:=by simpa using OZ
  obtain⟨x,F⟩:∃x,l[i]? =some x:=⟨_,aA OZ⟩
  obtain⟨adx,W,QE,hP,-,PU⟩:=hl.load (by decide) F;have hP:W=[.int .i64 x.1,.int .i64 x.2.1,.int .i64 x.2.2.1,.int .i64 x.2.2.2]:=hP;subst hP;refine cR hτ dx [.x 0,.x 1,.x 2,.x 3,.x 4,.x 5,.x 6,.x 7] (by kernel_rfl) (by kernel_rfl) ?_;refine⟨adx,QE,by omega,.int .i64 x.1,fun O J r=>?_,?_⟩
  ·obtain⟨k1,k2⟩:=PU 0 _ rfl;rw[cL (w:=w) (V:=J) (by simp only[dF];exact(I.tr r.cU).block _ (X _ k1))];simp only[aE,kF]at k2 ⊢;exact k2
  refine cE I (fun _ J v V=>∃d,v= .bool d/\(d=true↔j1 f.nodes.length x.1)) (fun O J r=>rV _ _ _ _ _ _ _ _ _ _ J) ?_;rintro O _ _ _ Oo r U I h_ ⟨d,rfl,hd⟩;clear r
  cases d
  ·have hc:jt f.nodes.length x=6:=by
    unfold jt;rw[aH fun h=>by have:=hd.2 h;cases this]
   exact rtn I fun IR we re=>by show Value.int .i64 _=_;rw[hE,cX F hc (by decide)]
  have hd:=hd.1 rfl;refine⟨adx,QE,by omega,[.int .i64 x.1,.int .i64 x.2.1,.int .i64 x.2.2.1,.int .i64 x.2.2.2],rfl,rdO PU I X,?_⟩;refine cJ (cE I (fun _ J v V=>∃d,v= .bool d/\(d=true↔NX x.2)) (fun O J r=>KE x J) ?_);rintro O _ _ _ Od r U I h_ ⟨d2,rfl,Pn⟩;clear r
  cases d2
  ·have hc:jt f.nodes.length x=2:=by
    unfold jt;rw[if_pos hd,aH fun h=>by have:=Pn.2 h;cases this]
   exact rtn I fun IR we re=>by show Value.int .i64 _=_;rw[hE,cX F hc (by decide)]
  have Pn:=Pn.1 rfl;have hc:jt f.nodes.length x=0:=by
   unfold jt;rw[if_pos hd];exact if_pos Pn
  rw[gp F hc]at hE;refine⟨((i+1:Nat):Int),wo,?_⟩;intro GT w6 E;exact⟨(i+1,w6,_),⟨OZ,I.tr E.cU,hE⟩,Sub.gn [] E,by dsimp only;omega⟩
 have OZ:i=l.length:=aR A (by simpa using OZ);rw[jS (by omega)]at hE;exact rtn I fun IR we re=>by show Value.int .i64 _=_;rw[hE]
theorem Eb{w:World}{vl:Value}(X:Old S w)(hf:eG w S vn vb vs f)(hl:jA w S vl l):eI PG F'.pQ #[.agg #[vn,vb,vs],vl] w (eO w fun v' _=>v'= .int .i64 (iu f l)):=by
 have I:=bR w;obtain⟨an,cn,ab,cb,aq,cq,rfl,rfl,rfl,RR,Rk,SM⟩:=hf.shape;obtain⟨al,cl,rfl,Pu,RM⟩:=hl.shape;obtain⟨e0,EE⟩:∃e,e8 f=e:=⟨_,rfl⟩
 refine so (by simp) ?_;refine cJ (cE I (fun _ J v V=>v= .int .i64 e0) (fun O J r=>(MY (oS X r) (hf.cK (kS I r X))).mono fun _ _ ⟨v2,e1,e2,e3⟩=>⟨v2,e1,e2,by rw[e3,EE]⟩) ?_);rintro O _ _ _ Oo r U I h_ rfl;clear r;refine dQ.mk ?_ ?_<;>intro U
 ·have U:e0≠0:=by simpa using U
  exact rtn I fun IR we re=>by show Value.int .i64 _=_;rw[iu,if_pos (by rw[EE];exact U),EE]
 have U:e0=0:=by simpa using U
 refine cJ (cE I (fun _ J v V=>v= .int .i64 (tL f.nodes.length l)) (fun O J r=>Bu (oS X r) (hf.cK (kS I r X)) (hl.cK (kS I r X))) ?_);rintro O _ _ _ Od r U I h_ rfl;clear r U;exact rtn I fun IR we re=>by show Value.int .i64 _=_;rw[iu,aH (by rw[EE,U];decide)]
theorem aAg(h:e8 f≠0\/f.nodes.length<=4/\f.bars.length<=6)(h0:e8 f=0):FrS f:=⟨Lf h0,(h.resolve_left fun e=>e h0).1,(h.resolve_left fun e=>e h0).2⟩
theorem Js{x r:List Rat}{i:Nat}(h:M[i]? =some r):(jh M x)[i]? =some (e7 r x r.length):=by rw[jh,aL,h];rfl
theorem KI{x:List Rat}{h n:Nat}(hlen:fZ n M)(hM:Ht M h)(F:∀q∈x,rl q+1<=h)(G:2<=h):∀q∈jh M x,rl q<=2*h*n+2:=fun q hq=>by
 obtain⟨r,hr,rfl⟩:=aU.1 hq;have:=qm (fun q hq=>hM r hr q hq) F G r.length;rw[hlen r hr]at this ⊢;exact this
theorem aAh(h:FrS f):Ht (cT f) 4:=fun r hr q hq=>by
 obtain⟨i,A⟩:=aN hr;obtain⟨t,ht⟩:=aN hq;have:=h.oe i t;rw[dD,getD_some A,getD_some ht]at this;obtain⟨z,rfl,hz⟩:=this;have:rl ((z:Int):Rat)<=2:=Iu (by omega);omega
theorem M5(h:FrS f):Ht (da (cT f) f.cols) 4:=fun r hr q hq=>by
 obtain⟨i,A⟩:=aN hr;obtain⟨t,ht⟩:=aN hq;have hil:i<f.cols:=by have:=(aD.1 A).1;rwa [eJ]at this
 have:=h.oe t i;rw[<-lg (M:=cT f) hil,dD,getD_some A,getD_some ht]at this;obtain⟨z,rfl,hz⟩:=this;have:rl ((z:Int):Rat)<=2:=Iu (by omega);omega
theorem M6{t:Int}(h:NN s t)(ht:0<=t)(j:Nat): -t<=s.getD j 0/\s.getD j 0<=t:=by
 rcases aO j s.length with hj|hj
 ·rw[getD_some (aA hj)];exact h _ (aY hj)
 ·rw[List.getD,List.getElem?_eq_none hj];show -t<=0/\0<=t;omega
theorem DF{s:List Int}{x:Ld}{t:Int}(h:NN s t)(ht:0<=t)(F:(-1000000<=x.2.1/\x.2.1<=1000000)/\(-1000000<=x.2.2.1/\x.2.2.1<=1000000)/\(-1000000<=x.2.2.2/\x.2.2.2<=1000000)):∀k,k<=3->NN (gb s x k) (t+1000000*(k:Int))
 |0,_=>by rw[gb];simpa using h
 |k+1,D=>by
  have ih:=DF h ht F k (by omega);have hd: -1000000<=(ldC x).getD k 0/\(ldC x).getD k 0<=1000000:=by
   rcases(show k=0\/k=1\/k=2 by omega)with rfl|rfl|rfl
   ·exact F.1
   ·exact F.2.1
   ·exact F.2.2
  have Y:=M6 ih (by omega) (3*x.1+k).toNat;rw[gb,IW];exact ih.set (by omega) (by omega)
theorem wj{n:Nat}{l:List Ld}(Of:xm n l):∀i,i<=l.length->NN (fe n l i) (3000000*(i:Int))
 |0,_=>fun z hz=>by rw[bI hz];decide
 |i+1,A=>by
  have ih:=wj Of i (by omega);have hm:l.getD i (0,0,0,0)∈l:=by rw[getD_some (aA (show i<l.length by omega))];exact aY _
  have:=DF ih (by omega) (Of.ld _ hm).2 3 (Nat.le_refl _);rw[fe];intro z hz;have:=this z hz;omega
theorem Ix(R:f.nodes.length<=20)(Of:xm f.nodes.length l):∀q∈fV f l,rl q<=1:=fun q hq=>by
 obtain⟨z,hz,rfl⟩:=aU.1 hq;have:=wj Of l.length (Nat.le_refl _) z hz;have hl:=Of.len;exact wh (by omega) (by omega)
end Go.Ex
namespace Go.Ex
variable{M:List (List Rat)}{l:Nat}{g:Nat->Rat}{Fd p q:Rat}
structure nd(f:fC):Prop extends FrS f where
 fx:∀q∈cY f,rl q<=3
def Bl(b:List Rat):Prop:=∀t,Ib 1000000000 (b.getD t 0)
theorem Ib.w{B:Nat}(h:Ib B q)(k:B<=wt l):Ib (wt l) q:=h.mono k
theorem wE(a b:Nat)(h:a+b<=l):wt a*wt b<=wt l:=by rw[<-D7];exact CP h
theorem Ib.rh{a b:Nat}(h:Ib (wt a) p)(k:Ib (wt b) q)(hl:a+b<=l):Ib (wt l) (p*q):=(h.mul k).mono (wE a b hl)
theorem Ib.up{a:Nat}(h:Ib (wt a) p)(hl:a<=l):Ib (wt l) p:=h.mono (CP hl)
theorem Ib.aBA{a n:Nat}(R:n<=18)(h:∀k,k<n->Ib (wt a) (g k))(hl:a+1<=l):Ib (wt l) (cw g n):=
 (Ib.sum n h).mono (aW (Nat.mul_le_mul_right _ (aW R (by decide:18<=wt 1))) (wE 1 a (by omega)))
theorem Den.mono{Fn C8:Nat}{l:List Rat}(h:Den Fn Fd l)(k:Fn<=C8):Den C8 Fd l:=⟨h.1,h.2.1.mono k,fun t=>(h.2.2 t).mono k⟩
theorem HO.mono{Fn C8:Nat}(h:HO Fn Fd M)(k:Fn<=C8):HO C8 Fd M:=⟨h.1,h.2.1.mono k,fun i t=>(h.2.2 i t).mono k⟩
theorem Ci{k n EQ m:Nat}(R:n<=EQ)(hR:EQ<=4294967295)(hl:k+1<=l)(hm:l*EQ+1<=m):ln (fB (wt k) n)<=m/\fB (wt k) n<=wt m:=by
 have L:=OT (B:=wt k) (l:=l) R (aW (Nat.mul_le_mul_right _ (aW hR (by decide:4294967295<=wt 1))) (wE 1 k (by omega)));have G:l*n+1<=m:=aW (Nat.succ_le_succ (bY _ R)) hm;exact⟨aW L G,Nat.le_of_lt (gU.1 (aW L G))⟩
section
variable{f:fC}{b x x0 c u:List Rat}
theorem FrS.Ia(h:FrS f)(hb:Bl b):zl (dg (cT f) b) (f.cols+1) (wt 1):=fun j hj=>by
 rw[eH]at hj;have I:=fun t=>jn (b:=b) (t:=t) (fQ f) hj;refine⟨1,by decide,Ib.one kQ,fun t ht=>?_⟩;rw[cB];rcases aO t f.cols with L|L
 ·rw[(I t).1 L];exact(h.oe j t).w (by decide)
 ·rw[show t=f.cols by omega,(I 0).2];exact(hb j).w (by decide)
theorem FrS.Ll(h:FrS f):ln (fB (wt 1) (dg (cT f) b).length)<=25:=by
 rw[eH];exact(Ci (l:=2) h.Lj (by decide) (by decide) (by decide)).1
theorem FrS.aBB(h:FrS f)(hb:Bl b)(h0:fM (cT f) b f.cols=some x0):∃Fd,Den (wt 25) Fd x0:=by
 obtain⟨Fd,hD⟩:=uC (fQ f) (h.Ia hb) kQ h0;exact⟨Fd,hD.mono (Ci (l:=2) h.Lj (by decide) (by decide) (by decide)).2⟩
theorem FrS.ker(h:FrS f):∃Fd,HO (wt 13) Fd (cW (cT f) f.cols):=by
 obtain⟨Fd,hD⟩:=Nc (fQ f) h.lD (by decide);exact⟨Fd,hD.mono (Nat.le_of_lt (gU.1 h.size))⟩
theorem FrS.Fv(h:FrS f):(cW (cT f) f.cols).length<=18:=by
 have L:=o9 (fQ f);have G:=h.Kf;omega
theorem AE(f:fC):(cY f).length=f.cols:=by simp[cY,fC.cols]
theorem nd.aBC(h:nd f):Den (wt 54) (k9 (cY f) 18) (cY f):=Lb (by rw[AE];exact h.Kf) h.fx
theorem nd.Ln(h:nd f)(F:∃Fd,Den (wt 25) Fd x0):zl (dg (ei (cW (cT f) f.cols) (cY f)) (gw (cW (cT f) f.cols) (cY f) x0)) ((cW (cT f) f.cols).length+1) (wt 106):=fun i A=>by
 rw[eH,ei,aJ]at A;obtain⟨D0,a1,a2,a3⟩:=F;obtain⟨D1,b1,b2,b3⟩:=h.ker;obtain⟨c1,c2,c3⟩:=h.aBC;have R:=h.Kf;have I:=fun t=>jn (b:=gw (cW (cT f) f.cols) (cY f) x0) (t:=t) (oa (cW (cT f) f.cols) (cY f)) (j:=i) (by rw[ei,aJ];exact A);refine⟨k9 (cY f) 18*(D1*D1)*D0,rO (rO c1 (rO b1 b1)) a1,(((c2.rh (b2.rh b2 (Nat.le_refl _)) (Nat.le_refl _)).rh a2 (by decide))),fun t ht=>?_⟩;rcases aO t (cW (cT f) f.cols).length with L|L
 ·rw[(I t).1 L,vv _ _ _ A L];unfold I6 sG;rw[<-ek];refine Ib.aBA R (fun k _=>?_) (Nat.le_refl _);rw[show k9 (cY f) 18*(D1*D1)*D0*((cY f).getD k 0*(dD (cW (cT f) f.cols) i k*dD (cW (cT f) f.cols) t k))=(k9 (cY f) 18*(cY f).getD k 0)*((D1*dD (cW (cT f) f.cols) i k)*(D1*dD (cW (cT f) f.cols) t k))*D0 by grind];exact((c3 k).rh ((b3 i k).rh (b3 t k) (Nat.le_refl _)) (Nat.le_refl _)).rh a2 (by decide)
 ·rw[show t=(cW (cT f) f.cols).length by omega,(I 0).2,Fk _ _ _ _ A];unfold sG;rw[show k9 (cY f) 18*(D1*D1)*D0* -(cw (fun t=>(cY f).getD t 0*(dD (cW (cT f) f.cols) i t*x0.getD t 0)) f.cols)= -(k9 (cY f) 18*(D1*D1)*D0*cw (fun t=>(cY f).getD t 0*(dD (cW (cT f) f.cols) i t*x0.getD t 0)) f.cols) by grind,<-ek];refine(Ib.aBA R (fun k _=>?_) (Nat.le_refl _)).neg;rw[show k9 (cY f) 18*(D1*D1)*D0*((cY f).getD k 0*(dD (cW (cT f) f.cols) i k*x0.getD k 0))=(k9 (cY f) 18*(cY f).getD k 0)*((D1*dD (cW (cT f) f.cols) i k)*D1)*(D0*x0.getD k 0) by grind];exact((c3 k).rh ((b3 i k).rh b2 (Nat.le_refl _)) (Nat.le_refl _)).rh (a3 k) (by decide)
theorem nd.Ic(h:nd f){b:List Rat}:ln (fB (wt 106) (dg (ei (cW (cT f) f.cols) (cY f)) b).length)<=1927:=by
 rw[eH,ei,aJ];exact(Ci (l:=107) h.Fv (by decide) (by decide) (by decide)).1
theorem nd.aA2(h:nd f)(F:∃Fd,Den (wt 25) Fd x0)(hc:fM (ei (cW (cT f) f.cols) (cY f)) (gw (cW (cT f) f.cols) (cY f) x0) (cW (cT f) f.cols).length=some c):∀q∈c,rl q<=1927:=fun q hq=>by
 obtain⟨Fd,hD⟩:=uC (oa _ _) (h.Ln F) kQ hc;have L:=hD.rl q hq;have G:=h.Ic (b:=[]);rw[eH]at G;omega
theorem nd.Ni(h:nd f)(hb:Bl b)(PD:b.length=(cT f).length):zl (dg (iD (cT f) f.cols fun t=>(cY f).getD t 0) (b++fL (cW (cT f) f.cols).length)) (f.cols+1) (wt 68):=fun j hj=>by
 rw[eH]at hj;obtain⟨D1,b1,b2,b3⟩:=h.ker;obtain⟨c1,c2,c3⟩:=h.aBC;have I:=fun t=>jn (b:=b++fL (cW (cT f) f.cols).length) (t:=t) (rP (I':=fun t=>(cY f).getD t 0) (fQ f)) hj;rcases aO j (cT f).length with G|G
 ·refine⟨1,by decide,Ib.one kQ,fun t ht=>?_⟩;rw[cB];rcases aO t f.cols with L|L
  ·rw[(I t).1 L,CZ G];exact((h.oe j t).w (by decide:2000000<=wt 1)).up (by decide)
  ·rw[show t=f.cols by omega,(I 0).2,kc];exact((hb j).w (by decide:1000000000<=wt 1)).up (by decide)
 ·obtain⟨k,rfl⟩:∃k,j=(cT f).length+k:=⟨j-(cT f).length,by omega⟩
  rw[iW]at hj;refine⟨k9 (cY f) 18*D1,rO c1 b1,(c2.rh b2 (by decide)),fun t ht=>?_⟩;rcases aO t f.cols with L|L
  ·rw[(I t).1 L,Ca (by omega) L,show k9 (cY f) 18*D1*((cY f).getD t 0*dD (cW (cT f) f.cols) k t)=(k9 (cY f) 18*(cY f).getD t 0)*(D1*dD (cW (cT f) f.cols) k t) by grind];exact(c3 t).rh (b3 k t) (by decide)
  ·rw[show t=f.cols by omega,(I 0).2,kc,ij (l:=b) (by omega),ah];exact Ib.zero _
theorem nd.Lo(h:nd f){b:List Rat}:ln (fB (wt 68) (dg (iD (cT f) f.cols fun t=>(cY f).getD t 0) b).length)<=2071:=by
 rw[eH,iW];have L:=h.Fv;have G:=h.Lj;exact(Ci (l:=69) (EQ:=30) (by omega) (by decide) (by decide) (by decide)).1
theorem De(h:rl q<=3):Ib (wt 3) (q.den:Rat):=⟨(q.den:Int),rfl,by have:=(I4 h).2;omega⟩
theorem Lp(h:rl q<=3):Ib (wt 3) ((q.den:Rat)*q):=by rw[I2];exact⟨q.num,rfl,Nat.le_of_lt (I4 h).1⟩
theorem Ie(q:Rat):(q.den:Rat)≠0:=fun e=>by
 have:((q.den:Int):Rat)=((0:Int):Rat):=e;exact q.den_nz (by have:=Rat.intCast_inj.1 this;omega)
theorem nd.fxD(h:nd f){t:Nat}(ht:t<f.cols):rl ((cY f).getD t 0)<=3:=by
 have hl:t<(cY f).length:=by rw[AE];exact ht
 rw[getD_some (aA hl)];exact h.fx _ (aY hl)
theorem nd.Nj(h:nd f)(hb:Bl b)(PD:b.length=(cT f).length):zl (dg (jo (cT f) f.cols (cY f)) (b++fL f.cols)) ((cT f).length+f.cols+1) (wt 4):=fun j hj=>by
 rw[eH,gj]at hj;have I:=fun t=>jn (b:=b++fL f.cols) (t:=t) (nc (fQ f) (cY f)) (j:=j) (by rw[gj];exact hj);rcases aO j (cT f).length with G|G
 ·refine⟨1,by decide,Ib.one kQ,fun t ht=>?_⟩;rw[cB];rcases aO t ((cT f).length+f.cols)with L|L
  ·rw[(I t).1 L];rcases aO t (cT f).length with N|N
   ·rw[(Dd G).1 N];exact Ib.zero _
   ·obtain⟨s,rfl⟩:∃s,t=(cT f).length+s:=⟨t-(cT f).length,by omega⟩
    rw[(Dd (t:=s) G).2];exact((h.oe j s).w (by decide:2000000<=wt 1)).up (by decide)
  ·rw[show t=(cT f).length+f.cols by omega,(I 0).2,kc];exact((hb j).w (by decide:1000000000<=wt 1)).up (by decide)
 ·obtain⟨k,rfl⟩:∃k,j=(cT f).length+k:=⟨j-(cT f).length,by omega⟩
  have D:k<f.cols:=by omega
  have hq:=h.fxD D;refine⟨(((cY f).getD k 0).den:Rat),Ie _,(De hq).up (by decide),fun t ht=>?_⟩;rcases aO t ((cT f).length+f.cols)with L|L
  ·rw[(I t).1 L];rcases aO t (cT f).length with N|N
   ·rw[(AA (t:=t) D).1 N];exact(De hq).rh ((h.oe t k).w (by decide:2000000<=wt 1)) (by decide)
   ·obtain⟨s,rfl⟩:∃s,t=(cT f).length+s:=⟨t-(cT f).length,by omega⟩
    rw[(AA (t:=s) D).2 (by omega)];split
    ·exact(Lp hq).up (by decide)
    ·rw[ah];exact Ib.zero _
  ·rw[show t=(cT f).length+f.cols by omega,(I 0).2,kc,ij (l:=b) (by omega),ah];exact Ib.zero _
theorem nd.HU(h:nd f)(hb:Bl b)(PD:b.length=(cT f).length)(F:jB (cT f) f.cols (fun t=>(cY f).getD t 0) b x):∃Fd,Den (wt 151) Fd x:=by
 obtain⟨u,hu⟩:=F.aA1 (fQ f);obtain⟨s1,s2⟩:=Fu (fQ f) PD F hu;obtain⟨z,hz⟩:=nY (nc (fQ f) (cY f)) s2;have L:=Lh (fQ f) PD hz;have G:=h.B8.one F L;obtain⟨Fd,d1,d2,d3⟩:=uC (nc (fQ f) (cY f)) (h.Nj hb PD) kQ hz;have N:fB (wt 4) (jo (cT f) f.cols (cY f)).length<=wt 151:=by
  rw[gj];have L:=h.Kf;have G:=h.Lj;exact(Ci (l:=5) (EQ:=30) (by omega) (by decide) (by decide) (by decide)).2
 refine⟨Fd,d1,d2.mono N,fun t=>?_⟩;rw[G,List.getD,bj,<-List.getD];exact(d3 _).mono N
theorem nd.OV(h:nd f)(hb:Bl b)(PD:b.length=(cT f).length)(F:jB (cT f) f.cols (fun t=>(cY f).getD t 0) b x):∀q∈x,rl q<=152:=fun q hq=>by
 obtain⟨Fd,hD⟩:=h.HU hb PD F;have:=hD.rl q hq;have G:ln (wt 151)<=152:=gU.2 (IP (by decide));omega
theorem nd.Cj(h:nd f)(QJ:x.length=f.cols)(F:∃Fd,Den (wt 151) Fd x):zl (dg (da (cT f) f.cols) (dE (fJ x (cY f)) (-1))) ((cT f).length+1) (wt 156):=fun j hj=>by
 rw[eH,eJ]at hj;obtain⟨Fd,d1,d2,d3⟩:=F;have hq:=h.fxD hj;have I:=fun t=>jn (b:=dE (fJ x (cY f)) (-1)) (t:=t) (fa (cT f) f.cols) (j:=j) (by rw[eJ];exact hj);refine⟨(((cY f).getD j 0).den:Rat)*Fd,rO (Ie _) d1,(De hq).rh d2 (by decide),fun t ht=>?_⟩;rcases aO t (cT f).length with L|L
 ·rw[(I t).1 L,lg hj];exact((De hq).rh d2 (Nat.le_refl _)).rh ((h.oe t j).w (by decide:2000000<=wt 1)) (by decide)
 ·rw[show t=(cT f).length by omega,(I 0).2,AB x _ QJ hj,show(((cY f).getD j 0).den:Rat)*Fd* -((cY f).getD j 0*x.getD j 0)= -(((((cY f).getD j 0).den:Rat)*(cY f).getD j 0)*(Fd*x.getD j 0)) by grind];exact((Lp hq).rh (d3 j) (by decide)).neg
theorem nd.AF(h:nd f){b:List Rat}:ln (fB (wt 156) (dg (da (cT f) f.cols) b).length)<=2827:=by
 rw[eH,eJ];exact(Ci (l:=157) h.Kf (by decide) (by decide) (by decide)).1
end
end Go.Ex
