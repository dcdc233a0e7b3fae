/- Texts X139 to X146: lemmas, each with its conditions. -/
import Derived.Test.YtkdcaknoaeicdaaGreatP11
namespace Go.Ex
open Go Go.Sx Go.Proofs
theorem Kx{α:Type}{rv:List α}{a b:α}{i m:Nat}(hl:rv.length=i)(h:i<m):(rv++List.replicate (m-i) b).take i++[a]++(rv++List.replicate (m-i) b).drop (i+1)=(rv++[a])++List.replicate (m-(i+1)) b:=by
 rw[List.take_left' hl,List.drop_append,hl,List.drop_of_length_le (by omega),List.nil_append,List.drop_replicate];congr 2;omega
end Go.Ex
namespace Go.Sx
open Go Go.Ex Go.Proofs
variable{cs:List Value}{O:Nat->Sx.dg}
theorem Rel.M4{H:Hp}{nx:Nat}{iv:Iv}{B:Nat}{w w':World}(r:Rel H nx iv B w O w'){id t m sz:Nat}(h:dC H id=some (.arr t cs))(hm:cs.length=m*sz)(Ri:m<=maxLen)(h1:∀u∈cs,u.oneCell'=true):
  iM w' (fun g=>B<=g∧g<w'.heap.size) sz (.slice (some ⟨(O id).g,0,none⟩) m m) cs m:=by
 have hl:=r.low id _ h (r.fits h).1;refine⟨Ri,hm,h1,_,m,rfl,aF _,fun j u hu=>⟨_,rfl,hl,?_⟩⟩;rw[dW,cell_of (r.arr id _ _ h),aR];exact hu
end Go.Sx
namespace Go.Ex
open Go Go.Sx Go.Proofs
variable{d:Int}{b s:Int×Int×Rat}{M:List (List Int)}{l:List Int}{c r:Nat}{S:Nat->Prop}{f:eh}
theorem CL:(tT M r c d).length=M.length:=bE ..
theorem JD:(putAt M r c d).length=M.length:=bE ..
def FT(M:List (List Int))(t:Int):Prop:=∀l∈M,∀z∈l,-t<=z∧z<=t
theorem FT.set{t t2:Int}{z:Int}(h:FT M t)(ht:t<=t2)(hl:M[r]? =some l)(hz: -t2<=z∧z<=t2):FT (M.set r (l.set c z)) t2:=fun x hx y hy=>by
 rcases bJ hx with hx|rfl
 ·have:=h x hx y hy;omega
 ·rcases bJ hy with hy|rfl
  ·have:=h l (aC hl) y hy;omega
  ·exact hz
theorem FU(f:eh):∀i,(df f i).length=3*f.nodes.length
 |0=>bF ..
 |i+1=>by
  have h:=FU f i;have key:∀k,(eR f (df f i) i k).length=3*f.nodes.length:=fun k=>by
   induction k with
   |zero=>exact h
   |succ k ih=>rw[eR,CL,CL];exact ih
  exact key 3
theorem nd(f:eh):∀i,(fA f i).length=3*f.nodes.length
 |0=>FU f _
 |i+1=>by rw[fA,JD];exact nd f i
theorem Ky{i k ka kb:Nat}{za zb:Int}{la lb:List Int}(hb:f.bars[i]? =some b)(ea:b.1=ka)(eb:b.2.1=kb)(hd:(sP f b).getD k 0=d)
  (Pc:(eR f M i k)[3*ka+k]? =some la) (VG:la[i]? =some za) (Oc:((eR f M i k).set (3*ka+k) (la.set i (za+d)))[3*kb+k]? =some lb) (SO:lb[i]? =some zb):
  ((eR f M i k).set (3*ka+k) (la.set i (za+d))).set (3*kb+k) (lb.set i (zb-d))=eR f M i (k+1):=by
 have h1:f.bars.getD i (0,0,0)=b:=by rw[List.getD,hb];rfl
 have e1:(3*b.1+(k:Int)).toNat=3*ka+k:=by rw[ea];omega
 have e2:(3*b.2.1+(k:Int)).toNat=3*kb+k:=by rw[eb];omega
 have ha:tT (eR f M i k) (3*ka+k) i d=(eR f M i k).set (3*ka+k) (la.set i (za+d)):=by
  rw[tT,show(eR f M i k).getD (3*ka+k) []=la by rw[List.getD,Pc];rfl,show la.getD i 0=za by rw[List.getD,VG];rfl]
 rw[eR];simp only[h1,hd,e1,e2,ha]
 rw[tT,show((eR f M i k).set (3*ka+k) (la.set i (za+d))).getD (3*kb+k) []=lb by rw[List.getD,Oc];rfl,show lb.getD i 0=zb by rw[List.getD,SO];rfl,Int.sub_eq_add_neg]
theorem FV{i ks:Nat}(hs:f.cV[i]? =some s)(es:3*s.1+s.2.1=ks)(hl:(fA f i)[ks]? =some l):(fA f i).set ks (l.set (f.bars.length+i) 1)=fA f (i+1):=by
 rw[fA,putAt];simp only[show f.cV.getD i (0,0,0)=s by rw[List.getD,hs];rfl,es,aE,show(fA f i).getD ks []=l by rw[List.getD,hl];rfl]
set_option maxHeartbeats 2000000 in
theorem JE{w:World}{vn vb vs:Value}(hS:Old S w)(hf:dS w S vn vb vs f)(OI:rf f):
  di PG N.qB #[.agg #[vn,vb,vs]] w (dw w fun v' w2=>si w2 (Nf w w2) v' (gu f)∧FT (gu f) 800000000∧(∀l∈gu f,l.length=f.cols)∧(gu f).length=3*f.nodes.length):=by
 have hw:=bR w;obtain⟨an,cn,ab,cb,aq,cq,rfl,rfl,rfl,Q6,Qm,RH⟩:=hf.shape;obtain⟨R1,Rn,Ro⟩:=And.intro OI.n (And.intro OI.b OI.s);refine uJ (by simp) ?_;refine⟨((3*f.nodes.length:Nat):Int),wo,?_⟩;obtain⟨m,hm⟩:∃m,3*f.nodes.length=m:=⟨_,rfl⟩
 rw[hm]
 refine⟨m,m,rfl,rfl,aF _,by omega,by omega,Nat×List Value×World×Iv,fun z=>⟨[(1,pP 0 0),(3,.o (.s 1 0 m m)),(17,iZ m),(18,iN z.1)],[(1,.arr T.Lint (z.2.1++List.replicate (m-z.1) (.slice none 0 0))),(0,.box T.Frame [.v (.slice an f.nodes.length cn),.v (.slice ab f.bars.length cb),.v (.slice aq f.cV.length cq)])],2,z.2.2.2,z.2.2.1⟩,fun z=>m-z.1,
  fun z=>z.1<=m∧z.2.1.length=z.1∧dm w.heap.size w z.2.2.1∧gv z.2.2.1 w.heap.size z.2.2.2 z.2.1 f.cols (List.replicate z.1 (List.replicate f.cols 0)),?_,?_⟩
 ·intro O w' r3;exact⟨(0,[],w',[]),⟨aP _,rfl,hw.tr r3.cP,gv.nil⟩,Sub.gn [] r3⟩
 rintro⟨i,rv,w1,iv⟩ ⟨hi,Ok,hw,hE⟩;dsimp only at hi Ok hw hE ⊢;refine dM.mk ?_ ?_<;>intro OF
 ·have OF:i<m:=by simpa using OF
  refine⟨((f.cols:Nat):Int),by rw[wrap64]<;>first|rfl|omega,f.cols,f.cols,rfl,rfl,aF _,by unfold eh.cols;omega,by unfold eh.cols;omega,by omega,?_⟩;refine I2 hτ (id:=1) (id2:=2) (tH:=[(1,.arr T.Lint (rv++List.replicate (m-i) (.slice none 0 0))),(0,.box T.Frame [.v (.slice an f.nodes.length cn),.v (.slice ab f.bars.length cb),.v (.slice aq f.cV.length cq)])]) rfl rfl (by decide) rfl ⟨rfl,rfl,trivial⟩ rfl (fun O w' r=>?_);have hn:=(r.fits (id:=2) rfl).1;have OG:w'.ownsRow 0 T.int 1 (.slice (some ⟨(O 2).g,0,none⟩) f.cols f.cols) f.cols ((List.replicate f.cols (0:Int)).map fun z=>.int .i64 z):=
   ⟨by simp,.inr ⟨(O 2).g,f.cols,(List.replicate f.cols (Value.int .i64 0)).toArray,rfl,aP _,r.arr 2 _ _ rfl,aF _,by unfold eh.cols maxLen;omega,by simp,by simp⟩⟩
  have OZ:=(hE.rel r).push (gx:=(O 2).g) (l:=List.replicate f.cols 0) (fun g hg e=>Rel.not r (gV _) hg 2 _ rfl hn e.symm) (r.low 2 _ rfl hn).1 (by simp) OG;rw[<-List.replicate_succ']at OZ;have PE:=hw.tr r.cP;generalize (O 2).g=gx at*
  generalize (gx,gx+1)::iv=OJ at*
  refine⟨by simp[Ok];omega,(rv++[.slice (some ⟨gx,0,none⟩) f.cols f.cols])++List.replicate (m-(i+1)) (.slice none 0 0),?_,?_⟩
  ·rw[aE,aT,aR];exact Kx Ok OF
  refine⟨((i+1:Nat):Int),wo,?_⟩;intro ρ3 w3 r3;exact⟨(i+1,rv++[.slice (some ⟨gx,0,none⟩) f.cols f.cols],w3,_),⟨OF,by simp[Ok],PE.tr r3.cP,OZ.rel r3⟩,Sub.gn [] r3,by dsimp only;omega⟩
 have OF:i=m:=aQ hi (by simpa using OF);subst OF;have hE0:gv w1 w.heap.size iv rv f.cols (df f 0):=by rw[df,hm];exact hE
 have VZ:FT (df f 0) 0:=fun l hl z hz=>by
  rw[df]at hl;rw[bP hl]at hz;rw[bP hz];exact⟨Int.le_refl _,Int.le_refl _⟩
 refine⟨Nat×World×Iv,fun z=>⟨[(1,pP 0 0),(3,.o (.s 1 0 i i)),(34,sV ab f.bars.length cb),(35,iZ f.bars.length),(36,iN z.1)],[(1,.arr T.Lint rv),(0,.box T.Frame [.v (.slice an f.nodes.length cn),.v (.slice ab f.bars.length cb),.v (.slice aq f.cV.length cq)])],2,z.2.2,z.2.1⟩,fun z=>f.bars.length-z.1,
  fun z=>z.1<=f.bars.length∧dm w.heap.size w z.2.1∧gv z.2.1 w.heap.size z.2.2 rv f.cols (df f z.1)∧FT (df f z.1) (12000000*z.1),?_,?_⟩
 ·intro O w' r3;exact⟨(0,w',_),⟨aP _,hw.tr r3.cP,hE0.rel r3,VZ⟩,Sub.gn [] r3 ⟨by simp;rfl,rfl,trivial⟩⟩
 rintro⟨j,w2,iv⟩ ⟨hj,hw,hE,Oe⟩;dsimp only at hj hw hE Oe ⊢;refine dM.mk ?_ ?_<;>intro Pf
 ·have Pf:j<f.bars.length:=by simpa using Pf
  obtain⟨b,hb⟩:∃b,f.bars[j]? =some b:=⟨_,aB Pf⟩
  obtain⟨hA,hB⟩:=OI.MQ b (aC hb);obtain⟨ka,pa,ea,hka,-,VW,⟨_,_⟩,⟨_,_⟩,⟨_,_⟩⟩:=OI.node hA.1 hA.2;obtain⟨kb,pb,eb,OK,-,VX,⟨_,_⟩,⟨_,_⟩,⟨_,_⟩⟩:=OI.node hB.1 hB.2;obtain⟨adb,cs,PY,hF,-,Oc⟩:=hf.bars.load (by decide) hb;obtain⟨g0,g1,g2,g3,g4,g5,g6,g7,rfl,hF⟩:=hF;refine⟨adb,PY,by omega,[.int .i64 b.1,.int .i64 b.2.1,.bool g0,.slice g1 g2 g3,.bool g4,.slice g5 g6 g7],rfl,rdO Oc hw hS,?_⟩;refine cC (cM (Φ:=fun _ w' v w2=>v= .agg #[.int .i64 ((f.node b.2.1).1-(f.node b.1).1),.int .i64 ((f.node b.2.1).2.1-(f.node b.1).2.1),.int .i64 ((f.node b.2.1).2.2-(f.node b.1).2.2)]) (fun O w' r=>BM (S:=S) (oS hS r) (hf.cH (kS hw r hS)).nodes OI hA hB) ?_);rintro O Pq v1 Pe r he Of rfl;replace hw:=hw.tr Of;replace hE:=hE.cF (iv':=(Pq.heap.size,Pe.heap.size)::iv) r he fun x hx=>List.mem_cons_of_mem _ hx;generalize (Pq.heap.size,Pe.heap.size)::iv=OM at*
  rw[VW,VX];have hbD:sP f b=[pb.1-pa.1,pb.2.1-pa.2.1,pb.2.2-pa.2.2]:=by rw[sP,VW,VX]
  refine⟨Nat×World×Iv,fun z=>⟨[(1,pP 0 0),(3,.o (.s 1 0 i i)),(5,iN j),(6,pP 2 0),(43,.o (.v (.agg #[.int .i64 (pb.1-pa.1),.int .i64 (pb.2.1-pa.2.1),.int .i64 (pb.2.2-pa.2.2)]))),(34,sV ab f.bars.length cb),(35,iZ f.bars.length),(36,iN j),(44,iN z.1)],[(2,.box T.Bar [.v (.int .i64 b.1),.v (.int .i64 b.2.1),.v (.bool g0),.v (.slice g1 g2 g3),.v (.bool g4),.v (.slice g5 g6 g7)]),(1,.arr T.Lint rv),(0,.box T.Frame [.v (.slice an f.nodes.length cn),.v (.slice ab f.bars.length cb),.v (.slice aq f.cV.length cq)])],3,z.2.2,z.2.1⟩,fun z=>3-z.1,
   fun z=>z.1<=3∧dm w.heap.size w z.2.1∧gv z.2.1 w.heap.size z.2.2 rv f.cols (eR f (df f j) j z.1)∧FT (eR f (df f j) j z.1) (12000000*j+4000000*z.1),?_,?_⟩
  ·intro O w' r3;exact⟨(0,w',_),⟨aP _,hw.tr r3.cP,hE.rel r3,Oe⟩,Sub.gn [] r3⟩
  rintro⟨k,w3,iv⟩ ⟨hk,hw,hE,Oe⟩;dsimp only at hk hw hE Oe ⊢;refine dM.mk ?_ ?_<;>intro OK
  ·have OK:k<3:=by have:=aI OK;omega
   obtain⟨d,hd⟩:∃d,(sP f b).getD k 0=d:=⟨_,rfl⟩
   have hdb: -2000000<=d∧d<=2000000:=by
    rw[<-hd,hbD];rcases(show k=0∨k=1∨k=2 by omega)with rfl|rfl|rfl<;>simp[List.getD]<;>omega
   have hMl:(eR f (df f j) j k).length=3*f.nodes.length:=by rw[<-hE.len];have:=hE.len;omega
   have PT:f.cols=f.bars.length+f.cV.length:=rfl;refine AV hτ rfl rfl rfl (fun _=>rfl) rfl ⟨by omega,by omega⟩ (u:=.int .i64 d) ?_ (fun O w4 r=>?_)
   ·rw[<-hd,hbD,aE];rcases(show k=0∨k=1∨k=2 by omega)with rfl|rfl|rfl<;>rfl
   replace hw:=hw.tr r.cP;replace hE:=hE.rel r;obtain⟨la,Pc⟩:∃l,(eR f (df f j) j k)[3*ka+k]? =some l:=⟨_,aB (by first|omega|(rw [bE];omega))⟩
   have hlaw:=hE.wid la (aC Pc);obtain⟨za,VG⟩:∃z,la[j]? =some z:=⟨_,aB (by omega)⟩
   have hzab:=Oe la (aC Pc) za (aC VG);obtain⟨va,Va⟩:∃v,rv[3*ka+k]? =some v:=⟨_,aB (by have:=(aD.1 Pc).1;rw[hE.len];exact this)⟩
   obtain⟨aa5,ca5,rfl⟩:=hE.form Va;obtain⟨ada5,Sv,hxa1,hxa2⟩:=hE.load Va Pc VG;refine⟨((3*ka:Nat):Int),by rw[ea,wrap64]<;>omega,((3*ka+k:Nat):Int),wo,by omega,.slice aa5 f.cols ca5,by rw[aE,aT,aR];exact Va,ada5,Sv,by omega,.int .i64 za,fun O w' r=>?_,?_⟩
   ·rw[aE,cG (w:=w4) (w2:=w') (by rw[dE];exact Rel.same r (gV _) hxa1)];exact hxa2
   refine⟨za+d,wo,ada5,Sv,by omega,?_⟩;intro O w' r;obtain⟨g,hg,h1,h2,h3,h4⟩:=hE.store r (z:=za+d) Va Pc (show j<f.cols by omega);rw[Sv]at hg;injection hg with hg;subst hg;refine⟨h1,h2,h3,fun w5 Qg=>?_⟩;obtain⟨k1,k2,k3,-,-⟩:=h4 w5 Qg;replace hw:=(hw.tr r.cP).tr k2;replace Oe:=Oe.set (r:=3*ka+k) (c:=j) (z:=za+d) (t2:=12000000*j+4000000*k+2000000) (by omega) Pc (by omega);replace hE:=k1;obtain⟨lb,Oc⟩:∃l,((eR f (df f j) j k).set (3*ka+k) (la.set j (za+d)))[3*kb+k]? =some l:=⟨_,aB (by first|omega|(rw [bE];omega))⟩
   have hlbw:=hE.wid lb (aC Oc);obtain⟨zb,SO⟩:∃z,lb[j]? =some z:=⟨_,aB (by omega)⟩
   have hzbb:=Oe lb (aC Oc) zb (aC SO);obtain⟨vb,UX⟩:∃v,rv[3*kb+k]? =some v:=⟨_,aB (by have:=(aD.1 Oc).1;rw[hE.len];exact this)⟩
   obtain⟨ab5,cb5,rfl⟩:=hE.form UX;obtain⟨adb5,Sw,hxb1,hxb2⟩:=hE.load UX Oc SO;refine⟨((3*kb:Nat):Int),by rw[eb,wrap64]<;>omega,((3*kb+k:Nat):Int),wo,by omega,.slice ab5 f.cols cb5,by rw[aE,aT,aR];exact UX,adb5,Sw,by omega,.int .i64 zb,fun O w' r=>?_,?_⟩
   ·rw[aE,cG (w:=w5) (w2:=w') (by rw[dE];exact Rel.same r (gV _) hxb1)];exact hxb2
   refine⟨zb-d,wo,adb5,Sw,by omega,?_⟩;intro O w' r;obtain⟨g,hg,h1,h2,h3,h4⟩:=hE.store r (z:=zb-d) UX Oc (show j<f.cols by omega);rw[Sw]at hg;injection hg with hg;subst hg;refine⟨h1,h2,h3,fun w5 Qg=>?_⟩;obtain⟨k1,k2,k3,-,-⟩:=h4 w5 Qg;replace hw:=(hw.tr r.cP).tr k2;replace Oe:=Oe.set (r:=3*kb+k) (c:=j) (z:=zb-d) (t2:=12000000*j+4000000*(k+1:Nat)) (by omega) Oc (by omega);replace hE:=k1;rw[Ky hb ea eb hd Pc VG Oc SO]at hE Oe;refine⟨((k+1:Nat):Int),wo,?_⟩;intro ρ3 w6 r3;exact⟨(k+1,w6,_),⟨OK,hw.tr r3.cP,hE.rel r3,Oe⟩,Sub.gn [] r3,by dsimp only;omega⟩
  have OK:k=3:=by have:=aH OK;omega
  subst OK;refine⟨((j+1:Nat):Int),wo,?_⟩;intro ρ3 w6 r3;exact⟨(j+1,w6,_),⟨Pf,hw.tr r3.cP,hE.rel r3,fun l hl z hz=>by have:=Oe l hl z hz;dsimp only;omega⟩,Sub.gn [] r3,by dsimp only;omega⟩
 have Pf:j=f.bars.length:=aQ hj (by simpa using Pf);subst Pf
 refine⟨Nat×World×Iv,fun z=>⟨[(1,pP 0 0),(3,.o (.s 1 0 i i)),(79,sV aq f.cV.length cq),(80,iZ f.cV.length),(81,iN z.1)],[(1,.arr T.Lint rv),(0,.box T.Frame [.v (.slice an f.nodes.length cn),.v (.slice ab f.bars.length cb),.v (.slice aq f.cV.length cq)])],2,z.2.2,z.2.1⟩,fun z=>f.cV.length-z.1,
  fun z=>z.1<=f.cV.length∧dm w.heap.size w z.2.1∧gv z.2.1 w.heap.size z.2.2 rv f.cols (fA f z.1)∧FT (fA f z.1) 800000000,?_,?_⟩
 ·intro O w' r3;exact⟨(0,w',_),⟨aP _,hw.tr r3.cP,hE.rel r3,fun l hl z hz=>by have:=Oe l hl z hz;omega⟩,Sub.gn [] r3⟩
 rintro⟨j,w2,iv⟩ ⟨hj,hw,hE,Oe⟩;dsimp only at hj hw hE Oe ⊢;refine dM.mk ?_ ?_<;>intro Pf
 ·have Pf:j<f.cV.length:=by simpa using Pf
  obtain⟨s,hs⟩:∃b,f.cV[j]? =some b:=⟨_,aB Pf⟩
  obtain⟨hA,hB⟩:=OI.sup s (aC hs);obtain⟨ks,VH⟩:=Int.eq_ofNat_of_zero_le (show 0<=3*s.1+s.2.1 by omega);have PT:f.cols=f.bars.length+f.cV.length:=rfl;have hMl:=nd f j;obtain⟨l,hl⟩:∃l,(fA f j)[ks]? =some l:=⟨_,aB (by omega)⟩
  have hlw:=hE.wid l (aC hl);obtain⟨v,hv⟩:∃v,rv[ks]? =some v:=⟨_,aB (by rw[hE.len];omega)⟩
  obtain⟨a5,c5,rfl⟩:=hE.form hv;obtain⟨z0,OQ⟩:∃z,l[f.bars.length+j]? =some z:=⟨_,aB (by omega)⟩
  obtain⟨ad5,ha5,-,-⟩:=hE.load hv hl OQ;obtain⟨adb,cs,PY,hF,-,Oc⟩:=hf.cV.load (by decide) hs;obtain⟨g0,g1,g2,g3,g4,g5,g6,g7,rfl,hF⟩:=hF;refine⟨adb,PY,by omega,[.int .i64 s.1,.int .i64 s.2.1,.bool g0,.slice g1 g2 g3,.bool g4,.slice g5 g6 g7],rfl,rdO Oc hw hS,?_⟩;refine cK hτ dZ [.x 0,.x 1,.x 2,.x 3,.x 4,.x 5,.x 6,.x 7,.x 8,.x 9,.x 10,.x 11,.x 12,.x 13,.x 14,.x 15] (by kernel_rfl) (by kernel_rfl) ?_;refine⟨3*s.1,wo,((ks:Nat):Int),wo,by omega,.slice a5 f.cols c5,by rw[aE,aT,aR];exact hv,((f.bars.length+j:Nat):Int),wo,ad5,ha5,by omega,?_⟩;intro O w' r;obtain⟨g,hg,h1,h2,h3,h4⟩:=hE.store r (z:=1) hv hl (show f.bars.length+j<f.cols by omega);rw[ha5]at hg;injection hg with hg;subst hg;refine⟨h1,h2,h3,fun w5 Qg=>?_⟩;obtain⟨k1,k2,k3,-,-⟩:=h4 w5 Qg;replace hw:=(hw.tr r.cP).tr k2;have Rp:=Oe.set (r:=ks) (c:=f.bars.length+j) (z:=1) (t2:=800000000) (by omega) hl (by omega);rw[FV hs VH hl]at k1 Rp;refine⟨((j+1:Nat):Int),wo,?_⟩;intro ρ3 w6 r3;exact⟨(j+1,w6,_),⟨Pf,hw.tr r3.cP,k1.rel r3,Rp⟩,Sub.gn [] r3,by dsimp only;omega⟩
 have Pf:j=f.cV.length:=aQ hj (by simpa using Pf);subst Pf;intro ρe we re;have OZ:=hE.rel re;have hMl:=nd f f.cV.length;have Q5:=hE.len;refine⟨_,rfl,hw.tr re.cP,⟨rv,?_,hE.len,fun i u x k1 k2=>?_⟩,Oe,hE.wid,by rw[<-hm];exact hMl⟩
 ·rw[show (gu f).length=rv.length from hE.len.symm];have h5:=re.M4 (id:=1) (sz:=1) (m:=rv.length) rfl (by simp) (by unfold maxLen;omega) hE.one;rw[show (i:Nat)=rv.length by omega];exact h5.cI fun g hg=>.inr hg
 ·obtain⟨a,c,rfl⟩:=hE.form k1;have PO:=hE.wid x (aC k2);refine⟨by rw[PO];unfold eh.cols maxLen;omega,by simp,fun v hv=>by obtain⟨z,_,rfl⟩:=aU.1 hv;rfl,a,c,by rw[PO],?_,fun t v hv=>?_⟩
  ·rw[PO];obtain⟨a2,c2,e,h⟩:=jk (hE.row i _ x k1 k2);injection e with e1 e2 e3;omega
  ·rw[aM]at hv
   cases ht:x[t]? with
   |none=>rw[ht]at hv;cases hv
   |some z=>
    rw[ht]at hv;simp only[Option.map_some,Option.some.injEq]at hv;subst hv;obtain⟨ad,h1,h2,h3⟩:=OZ.load k1 k2 ht;exact⟨ad,h1,Cv.nw h2 re,by rw[aT]at h3;exact h3⟩
end Go.Ex
namespace Go.Ex
open Go Go.Sx Go.Proofs
variable{cs:Array Value}{z:Int}{p:Int×Int×Int}{b:Int×Int×Rat}{xs:List (Int×Int×Int)}{seen:List (Int×Int×Rat)}{css:List (List Value)}{s:List Int}{l:List Ld}{qs x:List Rat}{h j n:Nat}{S:Nat->Prop}{a an:Option Addr}{v vb vl vn vs:Value}{w:World}{f:eh}
theorem ml(f:eh):(cO f).length=3*f.nodes.length:=by rw[cO,aJ];exact nd f _
theorem wB(h1: -2000000000<=z)(h2:z<=2000000000):rl (z:Rat)<=1:=by
 have e1:((z:Rat)).num=z:=rfl;have e2:((z:Rat)).den=1:=rfl;rw[rl,e1,e2];have a1:ln z.natAbs<=1:=gI.2 (by rw[uy];omega);have a2:ln 1<=1:=by decide
 omega
set_option maxHeartbeats 1000000 in
theorem ll(hS:Old S w)(hf:dS w S vn vb vs f)(OI:rf f):
  di PG N.oy #[.agg #[vn,vb,vs]] w (dw w fun v' w2=>(∃vr,v'= .agg #[vr,.int .i64 f.cols]∧cQ w2 (Nf w w2) vr (cO f))∧fg f.cols (cO f)∧Ht (cO f) 2):=by
 have hw:=bR w;obtain⟨an,cn,ab,cb,aq,cq,rfl,rfl,rfl,Q6,Qm,RH⟩:=hf.shape;obtain⟨R1,Rn,Ro⟩:=And.intro OI.n (And.intro OI.b OI.s);have PT:f.cols=f.bars.length+f.cV.length:=rfl;refine s3 (by simp) ?_;refine⟨((f.cols:Nat):Int),by rw[wrap64]<;>first|rfl|omega,?_⟩;refine cC (cM (Φ:=fun _ w' v w2=>si w2 (Nf w' w2) v (gu f)∧FT (gu f) 800000000∧(∀l∈gu f,l.length=f.cols)∧(gu f).length=3*f.nodes.length) (fun O w' r=>JE (S:=S) (oS hS r) (hf.cH (kS hw r hS)) OI) ?_);rintro O Pq v1 Pe r he Of ⟨k1,Oe,hwid,Ql⟩;replace hw:=hw.tr Of;have hM:=si.cI k1 fun g hg=>hg.dA (B:=w.heap.size) (S:=FF) r.cD (iv:=(Pq.heap.size,Pe.heap.size)::[]) aG;generalize (Pq.heap.size,Pe.heap.size)::[]=OM at*
 obtain⟨am,cm,rfl,Rb,RD⟩:=dD.shape hM;unfold maxLen at RD
 refine⟨Nat×List Value×World×Iv,fun z=>⟨[(20,iN z.1),(2,pP 1 0),(3,pP 2 0),(18,.o (.v (.slice am (gu f).length cm))),(19,.o (.v (.int .i64 (gu f).length)))],[(2,.box T.dc [.w 3 z.2.1.length,.v (.int .i64 ((f.cols:Nat):Int))]),(3,.vec T.fU 1 z.2.1),(1,.box T.dc [.v (.slice none 0 0),.v (.int .i64 0)])],4,z.2.2.2,z.2.2.1⟩,fun z=>(gu f).length-z.1,
  fun z=>z.1<=(gu f).length∧dm w.heap.size w z.2.2.1∧si z.2.2.1 (Cf w z.2.2.2) (.slice am (gu f).length cm) (gu f)∧dR z.2.2.1 (Cf w z.2.2.2) z.2.1 ((cO f).take z.1),?_,?_⟩
 ·intro O w' r;exact⟨(0,[],w',_),⟨aP _,hw.tr r.cP,hM.cH fun g hg=>Rel.same r (cB w) hg,by simp[dR]⟩,Sub.BK 2 0 T.fU 1 rfl rfl (by simp[jX,SV.sc,At.sc,fT]) r fun ρ1 r1=>Sub.gn [] r1⟩
 rintro⟨k,rv,w1,iv⟩ ⟨hk,hw,hM,hK⟩;dsimp only at hk hw hM hK ⊢;have Ok:rv.length=k:=by rw[hK.1,aW,cO,aJ];omega
 refine dM.mk ?_ ?_<;>intro OK
 ·have OK:k<(gu f).length:=by simpa using OK
  obtain⟨l,hl⟩:∃l,(gu f)[k]? =some l:=⟨_,aB OK⟩
  have hlw:=hwid l (aC hl);have OO:(cO f).take (k+1)=(cO f).take k++[dN l]:=by rw[List.take_add_one,show(cO f)[k]? =some (dN l) by rw[cO,aM,hl];rfl];rfl
  obtain⟨adm,um,Qs,WD,km1,km2⟩:=dD.load hM hl;obtain⟨a0,c0,rfl,VB,-⟩:=FR.shape WD;refine⟨adm,Qs,by omega,.slice a0 l.length c0,fun O w' r=>?_,?_⟩
  ·rw[aE,cG (w:=w1) (w2:=w') (by rw[dE];exact Rel.same r (cB w) km1)];exact km2
  refine⟨l.length,l.length,rfl,rfl,aF _,by omega,by omega,Nat×Nat×World×Iv,fun z=>⟨[(6,.o (.v (.slice (some ⟨z.2.1,0,none⟩) l.length l.length))),(5,sV a0 l.length c0),(27,sV a0 l.length c0),(28,iZ l.length),(29,iN z.1),(20,iN k),(2,pP 1 0),(3,pP 2 0),(18,.o (.v (.slice am (gu f).length cm))),(19,.o (.v (.int .i64 (gu f).length)))],[(2,.box T.dc [.w 3 rv.length,.v (.int .i64 ((f.cols:Nat):Int))]),(3,.vec T.fU 1 rv),(1,.box T.dc [.v (.slice none 0 0),.v (.int .i64 0)])],5,z.2.2.2,z.2.2.1⟩,fun z=>l.length-z.1,
   fun z=>z.1<=l.length∧dm w.heap.size w z.2.2.1∧si z.2.2.1 (Bs FF w.heap.size z.2.2.2 (.slice (some ⟨z.2.1,0,none⟩) l.length l.length)) (.slice am (gu f).length cm) (gu f)∧FR z.2.2.1 (Bs FF w.heap.size z.2.2.2 (.slice (some ⟨z.2.1,0,none⟩) l.length l.length)) (.slice a0 l.length c0) l∧dR z.2.2.1 (Bs FF w.heap.size z.2.2.2 (.slice (some ⟨z.2.1,0,none⟩) l.length l.length)) rv ((cO f).take k)∧ir z.2.2.1 FF w.heap.size z.2.2.2 (.slice (some ⟨z.2.1,0,none⟩) l.length l.length) l.length z.1 (dN l),?_,?_⟩
  ·intro O w' r;have hf:=ir.jl (S:=FF) (n:=l.length) r (id:=4) rfl (by unfold maxLen;omega) (dN l);have hbs:∀g,Cf w iv g->Bs FF w.heap.size (((O 4).g,(O 4).g+1)::iv) (.slice (some ⟨(O 4).g,0,none⟩) l.length l.length) g:=fun g hg=>⟨hg.mono fun p hp=>List.mem_cons_of_mem _ hp,fun e=>Rel.not r (cB w) hg 4 _ rfl (r.fits (id:=4) rfl).1 (by injection e)⟩
   exact⟨(0,(O 4).g,w',((O 4).g,(O 4).g+1)::iv),⟨aP _,hw.tr r.cP,(hM.cH fun g hg=>Rel.same r (cB w) hg).cI hbs,(WD.cH fun g hg=>Rel.same r (cB w) hg).cI hbs,dR.cI (hK.rel r (cB w)) hbs,hf⟩,
    Sub.jl r (id:=4) (t:=6) rfl rfl ⟨rfl,rfl,rfl,trivial⟩ rfl ⟨rfl,rfl,rfl,rfl,rfl,rfl,rfl,rfl,rfl,trivial⟩ (by simp[jX,SV.sc,At.sc])⟩
  rintro⟨i,gx,w2,iv⟩ ⟨hi,hw,hM,WD,hK,hX⟩;dsimp only at hi hw hM WD hK hX ⊢;refine dM.mk ?_ ?_<;>intro OF
  ·have OF:i<l.length:=by simpa using OF
   obtain⟨z,hz⟩:∃z,l[i]? =some z:=⟨_,aB OF⟩
   have SO:=Oe l (aC hl) z (aC hz);obtain⟨adz,haz,kz1,kz2⟩:=WD.at hz;refine⟨adz,haz,by omega,.int .i64 z,fun O w' r=>?_,?_⟩
   ·rw[aE,cG (w:=w2) (w2:=w') (by rw[dE];exact Rel.same r (cB w) kz1.1)];exact kz2
   refine cC (cM (Φ:=fun _ w' v w2=>cU w2 (Nf w' w2) v (z:Rat)) (fun O w' r=>k5 z w' (by omega) (by omega)) ?_);rintro O PX v3 PU r he Of RY;replace hw:=hw.tr Of;have hbs:∀g,Bs FF w.heap.size iv (.slice (some ⟨gx,0,none⟩) l.length l.length) g->Bs FF w.heap.size ((PX.heap.size,PU.heap.size)::iv) (.slice (some ⟨gx,0,none⟩) l.length l.length) g:=fun g hg=>Bs.mono (fun x hx=>List.mem_cons_of_mem _ hx) hg;have hbk:∀g,Bs FF w.heap.size iv (.slice (some ⟨gx,0,none⟩) l.length l.length) g->PU.heap[g]? =w2.heap[g]? :=fun g hg=>(he.block g (Rel.old r (cB w) g hg.1)).trans (Bs.same r (cB w) g hg);replace hM:=(hM.cH hbk).cI hbs;replace WD:=(WD.cH hbk).cI hbs;replace hK:=dR.cI (dR.cH hK hbk) hbs;have hd:=RY.cI (S':=Bs FF w.heap.size ((PX.heap.size,PU.heap.size)::iv) (.slice (some ⟨gx,0,none⟩) l.length l.length)) fun g hg=>hg.elim (fun h=>h.elim) fun h=>⟨.inr ⟨by have:=r.cD;omega,_,_,aG,h.1,h.2⟩,fun e=>by have:=Rel.old r (cB w) g (hX.new g e);omega⟩
   replace hX:=hX.cF (iv':=(PX.heap.size,PU.heap.size)::iv) r (cB w) he fun x hx=>List.mem_cons_of_mem _ hx;generalize (PX.heap.size,PU.heap.size)::iv=OP at*
   obtain⟨A0,A1,A2,A3,A4,A5,A6,A7,rfl⟩:=hd.shape;refine⟨⟨gx,0,none⟩,rfl,by omega,?_⟩;intro O w' r;obtain⟨g,hg,h1,h2,h3,h4⟩:=hX.store (j:=i) OF (by rw[dN,aM,hz];rfl) hd r (cB w);injection hg with hg;injection hg with hg;subst hg;refine⟨h1,h2,h3,fun w5 Qg=>?_⟩;obtain⟨k1,k2,k3,k4⟩:=h4 w5 Qg;have PE:=(hw.tr r.cP).tr k3;have VL:=Bs.kept (v:=(.slice (some ⟨gx,0,none⟩) l.length l.length)) r (cB w) k2 fun g e=>e;have hM2:=hM.cH VL;have hLm2:=WD.cH VL;have Qw:=dR.cH hK VL;refine⟨((i+1:Nat):Int),wo,?_⟩;intro ρ3 w6 r3;exact⟨(i+1,gx,w6,_),⟨OF,PE.tr r3.cP,hM2.cH (Bs.same r3 (cB w)),hLm2.cH (Bs.same r3 (cB w)),dR.cH Qw (Bs.same r3 (cB w)),k1.rel r3 (cB w)⟩,Sub.gn [] r3,by dsimp only;omega⟩
  have OF:i=l.length:=aQ hi (by simpa using OF);rw[OF]at hX;have hX2:=(hX.done (by simp[dN])).c;replace hK:=(dR.cI hK fun g hg=>hg.1).push (u:=(.slice (some ⟨gx,0,none⟩) l.length l.length)) (x:=dN l) rfl (by rw[show l.length=(dN l).length by simp[dN]]at hX2 ⊢;exact hX2);rw[<-OO]at hK;replace hM:=hM.cI fun g hg=>hg.1;refine .inl ?_;refine⟨by simp,by omega,by unfold maxLen;omega,((k+1:Nat):Int),wo,?_⟩;intro ρ3 w3 r3;exact⟨(k+1,rv++[(.slice (some ⟨gx,0,none⟩) l.length l.length)],w3,_),⟨OK,hw.tr r3.cP,hM.cH fun g hg=>Rel.same r3 (cB w) hg,hK.rel r3 (cB w)⟩,Sub.gn [(3,6)] r3 ⟨by dsimp only;rw[List.length_append,List.length_singleton];rfl,rfl,rfl,trivial⟩,by dsimp only;omega⟩
 have OK:k=(gu f).length:=aQ hk (by simpa using OK);rw[List.take_of_length_le (by rw[cO,aJ];omega)]at hK;intro ρe we re;refine⟨_,rfl,hw.tr re.cP,⟨_,rfl,rv,?_,hK.1,fun i u x k1 k2=>cJ.cI (cJ.rel (hK.2.2 i u x k1 k2) re (cB w)) fun g hg=>Cv.nw hg re⟩,fun x hx=>?_,fun x hx q hq=>?_⟩
 ·rw[<-hK.1];exact(re.iR (id:=3) (sz:=1) (m:=rv.length) rfl (by simp) (by unfold maxLen;omega) (by decide) hK.2.1).cI fun g hg=>.inr hg
 ·obtain⟨l,hl,rfl⟩:=aU.1 hx;rw[dN,aJ];exact hwid l hl
 ·obtain⟨l,hl,rfl⟩:=aU.1 hx;obtain⟨z,hz,rfl⟩:=aU.1 hq;have:=Oe l hl z hz;have:=wB (z:=z) (by omega) (by omega);omega
def Nq(x:Ld):List Int:=[x.2.1,x.2.2.1,x.2.2.2]
def gM(s:List Int)(x:Ld):Nat->List Int
 |0=>s
 |k+1=>Hk (gM s x k) (3*x.1+k).toNat ((Nq x).getD k 0)
def fO(n:Nat)(l:List Ld):Nat->List Int
 |0=>List.replicate (3*n) 0
 |i+1=>gM (fO n l i) (l.getD i (0,0,0,0)) 3
def eY(f:eh)(l:List Ld):List Rat:=dN (fO f.nodes.length l l.length)
structure rh(n:Nat)(l:List Ld):Prop where
 len:l.length<=200
 ld:∀x∈l,(0<=x.1∧x.1<n)∧(-1000000<=x.2.1∧x.2.1<=1000000)∧(-1000000<=x.2.2.1∧x.2.2.1<=1000000)∧(-1000000<=x.2.2.2∧x.2.2.2<=1000000)
theorem sj(s:List Int)(x:Ld):∀k,(gM s x k).length=s.length
 |0=>rfl
 |k+1=>by rw[gM,Hk,bE];exact sj s x k
theorem kC(n:Nat)(l:List Ld):∀i,(fO n l i).length=3*n
 |0=>bF ..
 |i+1=>by rw[fO,sj];exact kC n l i
theorem mm{x:Ld}{k:Nat}{d:Int}(e:3*x.1+(k:Int)=j)(hd:(Nq x).getD k 0=d)(hz:(gM s x k)[j]? =some z):(gM s x k).set j (z+d)=gM s x (k+1):=by
 rw[gM,Hk,hd,e,aE,show(gM s x k).getD j 0=z by rw[List.getD,hz];rfl]
def Ly(s:List Int)(t:Int):Prop:=∀z∈s,-t<=z∧z<=t
theorem Ly.set{t t2:Int}(h:Ly s t)(ht:t<=t2)(hz: -t2<=z∧z<=t2):Ly (s.set j z) t2:=fun y hy=>by
 rcases bJ hy with hy|rfl
 ·have:=h y hy;omega
 ·exact hz
def zv(l:List Int):List Value:=l.map fun z=>.int .i64 z
theorem D5(l:List Int):(zv l).length=l.length:=aJ ..
theorem CM{l:List Int}(h:l[j]? =some z):(zv l)[j]? =some (.int .i64 z):=by rw[zv,aM,h];rfl
theorem D6{l:List Int}(h:j<l.length):(zv l).take j++[.int .i64 z]++(zv l).drop (j+1)=zv (l.set j z):=by
 rw[zv,zv,List.map_set];exact fu (by rw[aJ];exact h)
theorem lF(f:eh):(cW f).length=f.cols:=by simp[cW,eh.cols]
theorem cR.Mz{cs:List Value}{q:Rat}(h:css.length=qs.length∧∀(j:Nat) cs q,css[j]? =some cs->qs[j]? =some q->lr w S cs q)(hc:lr w S cs q):
  (css++[cs]).length=(qs++[q]).length∧∀(j:Nat) c p,(css++[cs])[j]? =some c->(qs++[q])[j]? =some p->lr w S c p:=by
 refine⟨by simp[h.1],fun j x p h1 h2=>?_⟩;rcases aO j css.length with hi|hi
 ·rw[aK hi]at h1;rw[aK (by rw[<-h.1];exact hi)]at h2;exact h.2 j x p h1 h2
 ·have RW:j=css.length:=by have:=(aD.1 h1).1;simp at this;omega
  subst RW;rw[aN (aF _),bH]at h1;rw[h.1,aN (aF _),bH]at h2;simp at h1 h2;subst h1 h2;exact hc
set_option maxHeartbeats 1000000 in
theorem qu{cn:Nat}(hS:Old S w)(hl:ff w S vl l)(R1:f.nodes.length<=20)(OI:rh f.nodes.length l)
  {ab aq:Option Addr} {nb cb nq cq:Nat} (UX:vb= .slice ab nb cb) (Q8:vs= .slice aq nq cq):
  di PG N.pr #[.agg #[.slice an f.nodes.length cn,vb,vs],vl] w (dw w fun v' w2=>dP w2 FF w.heap.size [(w.heap.size,w2.heap.size)] v' (3*f.nodes.length) (eY f l)∧∀q∈eY f l,rl q<=1):=by
 subst UX Q8;have hw:=bR w;obtain⟨al,cl,rfl,PV,Ql⟩:=hl.shape;have hl200:=OI.len;refine uE (by simp) ?_;refine⟨((3*f.nodes.length:Nat):Int),wo,?_⟩;obtain⟨m,hm⟩:∃m,3*f.nodes.length=m:=⟨_,rfl⟩
 rw[hm]
 refine⟨m,m,rfl,rfl,aF _,by omega,by omega,Nat×World,fun z=>⟨[(5,.o (.s 1 0 m m)),(18,sV al l.length cl),(19,iZ l.length),(20,iN z.1)],[(1,.arr T.int (zv (fO f.nodes.length l z.1)))],2,[],z.2⟩,fun z=>l.length-z.1,
  fun z=>z.1<=l.length∧dm w.heap.size w z.2∧Ly (fO f.nodes.length l z.1) (3000000*z.1),?_,?_⟩
 ·intro O w' r3;exact⟨(0,w'),⟨aP _,hw.tr r3.cP,fun z hz=>by rw[fO]at hz;rw[bP hz];exact⟨Int.le_refl _,Int.le_refl _⟩⟩,Sub.gn [] r3 ⟨by dsimp only;rw[fO,hm,zv,List.map_replicate];rfl,trivial⟩⟩
 rintro⟨i,w1⟩ ⟨hi,hw,Oe⟩;dsimp only at hi hw Oe ⊢;refine dM.mk ?_ ?_<;>intro OF
 ·have OF:i<l.length:=by simpa using OF
  obtain⟨x,hx⟩:∃x,l[i]? =some x:=⟨_,aB OF⟩
  obtain⟨hn,SR,Rh,hx3⟩:=OI.ld x (aC hx);obtain⟨kn,hkn⟩:=Int.eq_ofNat_of_zero_le hn.1;obtain⟨adx,cs,PS,hP,-,Oj⟩:=hl.load (by decide) hx;have hP:cs=[.int .i64 x.1,.int .i64 x.2.1,.int .i64 x.2.2.1,.int .i64 x.2.2.2]:=hP;subst hP
  refine⟨adx,PS,by omega,[.int .i64 x.1,.int .i64 x.2.1,.int .i64 x.2.2.1,.int .i64 x.2.2.2],rfl,rdO Oj hw hS,Nat×World,fun z=>⟨[(5,.o (.s 1 0 m m)),(7,pP 2 0),(30,.a [.v (.int .i64 x.2.1),.v (.int .i64 x.2.2.1),.v (.int .i64 x.2.2.2)]),(31,iN z.1),(18,sV al l.length cl),(19,iZ l.length),(20,iN i)],[(2,.box T.aAh [.v (.int .i64 x.1),.v (.int .i64 x.2.1),.v (.int .i64 x.2.2.1),.v (.int .i64 x.2.2.2)]),(1,.arr T.int (zv (gM (fO f.nodes.length l i) x z.1)))],3,[],z.2⟩,fun z=>3-z.1,
   fun z=>z.1<=3∧dm w.heap.size w z.2∧Ly (gM (fO f.nodes.length l i) x z.1) (3000000*i+1000000*z.1),?_,?_⟩
  ·intro O w' r3;exact⟨(0,w'),⟨aP _,hw.tr r3.cP,Oe⟩,Sub.gn [] r3⟩
  rintro⟨k,w3⟩ ⟨hk,hw,Oe⟩;dsimp only at hk hw Oe ⊢;refine dM.mk ?_ ?_<;>intro OK
  ·have OK:k<3:=by have:=aI OK;omega
   obtain⟨d,hd⟩:∃d,(Nq x).getD k 0=d:=⟨_,rfl⟩
   have hdb: -1000000<=d∧d<=1000000:=by
    rw[<-hd,Nq];rcases(show k=0∨k=1∨k=2 by omega)with rfl|rfl|rfl<;>simp[List.getD]<;>omega
   have hLl:(gM (fO f.nodes.length l i) x k).length=m:=by rw[sj,kC,hm]
   obtain⟨z,hz⟩:∃z,(gM (fO f.nodes.length l i) x k)[3*kn+k]? =some z:=⟨_,aB (by omega)⟩
   have SO:=Oe z (aC hz);have UU:3*x.1+(k:Int)=((3*kn+k:Nat):Int):=by omega
   have Q3:=mm UU hd hz;have Rp:=Oe.set (j:=3*kn+k) (z:=z+d) (t2:=3000000*i+1000000*(k+1:Nat)) (by omega) (by omega);rw[Q3]at Rp;refine AV hτ (cs:= #[.int .i64 x.2.1,.int .i64 x.2.2.1,.int .i64 x.2.2.2]) rfl rfl rfl (fun _=>rfl) rfl ⟨by omega,by omega⟩ (u:=.int .i64 d) ?_ (fun O w4 r=>?_)
   ·rw[<-hd,Nq,aE];rcases(show k=0∨k=1∨k=2 by omega)with rfl|rfl|rfl<;>rfl
   replace hw:=hw.tr r.cP;refine⟨3*x.1,wo,((3*kn+k:Nat):Int),wo,by omega,.int .i64 z,by rw[aE,aT,aR];exact CM hz,z+d,wo,by omega,by rw[D5];omega,zv (gM (fO f.nodes.length l i) x (k+1)),?_,?_⟩
   ·rw[aE,aT,aR,<-Q3];exact D6 (by omega)
   refine⟨((k+1:Nat):Int),wo,?_⟩;intro ρ3 w6 r3;exact⟨(k+1,w6),⟨OK,hw.tr r3.cP,Rp⟩,Sub.gn [] r3,by dsimp only;omega⟩
  have OK:k=3:=by have:=aH OK;omega
  subst OK;have Q3:gM (fO f.nodes.length l i) x 3=fO f.nodes.length l (i+1):=by rw[fO,show l.getD i (0,0,0,0)=x by rw[List.getD,hx];rfl]
  rw[Q3]at Oe ⊢;refine⟨((i+1:Nat):Int),wo,?_⟩;intro ρ3 w6 r3;exact⟨(i+1,w6),⟨OF,hw.tr r3.cP,fun z hz=>by have:=Oe z hz;dsimp only;omega⟩,Sub.gn [] r3,by dsimp only;omega⟩
 have OF:i=l.length:=aQ hi (by simpa using OF);subst OF;obtain⟨s,hs⟩:∃s,fO f.nodes.length l l.length=s:=⟨_,rfl⟩
 have RS:s.length=m:=by rw[<-hs,kC,hm]
 rw[hs]at Oe ⊢;unfold eY;rw[hs]
 refine⟨m,m,rfl,rfl,aF _,by omega,by omega,Nat×List (List Value)×Iv×World,fun z=>⟨[(10,.o (.s 2 0 m m)),(51,.o (.s 1 0 m m)),(52,iZ m),(53,iN z.1)],[(2,.arr T.Rat z.2.1.flatten),(1,.arr T.int (zv s))],3,z.2.2.1,z.2.2.2⟩,fun z=>m-z.1,
  fun z=>z.1<=m∧dm w.heap.size w z.2.2.2∧fo z.2.2.2 (Cf w z.2.2.1) m z.1 z.2.1 (dN s),?_,?_⟩
 ·intro O w' r;exact⟨(0,List.replicate m f0,_,w'),⟨aP _,hw.tr r.cP,fo.start _ _ _ _⟩,Sub.gn [] r⟩
 rintro⟨i,css,iv,w1⟩ ⟨Q4,hw,hF⟩;dsimp only at Q4 hw hF ⊢;refine dM.mk ?_ ?_<;>intro OF
 ·have OF:i<m:=by simpa using OF
  obtain⟨z,hz⟩:∃z,s[i]? =some z:=⟨_,aB (by omega)⟩
  have SO:=Oe z (aC hz);refine⟨by omega,.int .i64 z,by rw[aE,aT,aR];exact CM hz,?_⟩;refine cC (cE hw (fun _ w' v w2=>cU w2 (Nf w' w2) v (z:Rat)) (fun O w' r=>k5 z w' (by omega) (by omega)) ?_);rintro O _ _ _ OM r he hw h_ hn;replace hF:=hF.cF r (cB w) he (mC h_);have hd:=hn.dA (S:=FF) r.cD (mN h_);obtain⟨A0,A1,A2,A3,A4,A5,A6,A7,rfl⟩:=hd.shape;have OO:=hF.next OF (q:=_) (by rw[dN,aM,hz];rfl) hd
  refine⟨by omega,by have:=hF.flat;omega,(css.set i [.bool A0,.slice A1 A2 A3,.bool A4,.slice A5 A6 A7]).flatten,?_,?_⟩
  ·have:=iL (cs:=[.bool A0,.slice A1 A2 A3,.bool A4,.slice A5 A6 A7]) hF.four (show i<css.length by rw[hF.len];exact OF);rw[<-this];simp
  refine⟨((i+1:Nat):Int),wo,?_⟩;intro ρ3 w3 r3;exact⟨(i+1,css.set i [.bool A0,.slice A1 A2 A3,.bool A4,.slice A5 A6 A7],_,w3),⟨OF,hw.tr r3.cP,OO.rel r3 (cB w)⟩,Sub.gn [] r3,by dsimp only;omega⟩
 have OF:i=m:=aQ Q4 (by simpa using OF);subst OF;intro ρe we re
 exact⟨_,rfl,hw.tr re.cP,hF.done (by rw[dN,aJ];exact RS) (by unfold maxLen;omega) re (id:=2) rfl (re.nn 2 _ rfl (by intros;simp) (by simp)),fun q hq=>by
  obtain⟨z,hz,rfl⟩:=aU.1 hq;have:=Oe z hz
  exact wB (by omega) (by omega)⟩
set_option maxHeartbeats 1000000 in
theorem qv(hS:Old S w)(hf:dS w S vn vb vs f)(OI:rf f):
  di PG N.pw #[.agg #[vn,vb,vs]] w (dw w fun v' w2=>cR w2 (Nw S w w2) v' (cW f)):=by
 have hw:=bR w;obtain⟨an,cn,ab,cb,aq,cq,rfl,rfl,rfl,Q6,Qm,RH⟩:=hf.shape;have hf0:=hf;refine uG (by simp) ?_
 refine⟨Nat×List (List Value)×World,fun z=>⟨[(3,.o (.w 1 z.2.1.length)),(9,sV ab f.bars.length cb),(10,iZ f.bars.length),(11,iN z.1),(1,pP 0 0)],[(1,.vec T.Rat 4 z.2.1.flatten),(0,.box T.Frame [.v (.slice an f.nodes.length cn),.v (.slice ab f.bars.length cb),.v (.slice aq f.cV.length cq)])],2,[],z.2.2⟩,fun z=>f.bars.length-z.1,
  fun z=>z.1<=f.bars.length∧dm w.heap.size w z.2.2∧(∀cs∈z.2.1,cs.length=4)∧(z.2.1.length=((fun i=>(f.bars.take i).map (·.2.2)) z.1).length∧∀(j:Nat) cs q,z.2.1[j]? =some cs->((fun i=>(f.bars.take i).map (·.2.2)) z.1)[j]? =some q->lr z.2.2 S cs q),?_,?_⟩
 ·intro O w' r;exact⟨(0,[],w'),⟨aP _,hw.tr r.cP,fun cs h=>(by cases h),rfl,fun j cs q h=>by cases h⟩,Sub.nil 3 T.Rat 4 rfl (by simp[jX,SV.sc,At.sc,fT]) r fun ρ1 r1=>Sub.gn [] r1⟩
 rintro⟨k,css,w1⟩ ⟨hk,hw,Qt,hR⟩;dsimp only at hk hw Qt hR ⊢;have OY:=eN Qt;refine dM.mk ?_ ?_<;>intro OK
 ·have OK:k<f.bars.length:=by simpa using OK
  have Rn:=OI.b;have Ro:=OI.s;obtain⟨b,hb⟩:∃b,f.bars[k]? =some b:=⟨_,aB OK⟩
  have Q3:(fun i=>(f.bars.take i).map (·.2.2)) (k+1)=(fun i=>(f.bars.take i).map (·.2.2)) k++[b.2.2]:=by dsimp only;rw[List.take_add_one,hb];simp
  obtain⟨adb,cs,PY,hF,-,Oc⟩:=hf0.bars.load (by decide) hb;obtain⟨g0,g1,g2,g3,g4,g5,g6,g7,rfl,hF⟩:=hF;refine⟨adb,PY,by omega,[.int .i64 b.1,.int .i64 b.2.1,.bool g0,.slice g1 g2 g3,.bool g4,.slice g5 g6 g7],rfl,rdO Oc hw hS,?_⟩;have Vz:lr w1 S [.bool g0,.slice g1 g2 g3,.bool g4,.slice g5 g6 g7] b.2.2:=⟨_,_,_,_,_,_,_,_,rfl,hF.cH fun g hg=>hw.block g (hS g hg)⟩
  have Qh:=cR.Mz hR Vz;rw[<-Q3]at Qh;have QR:css.flatten++([.bool g0,.slice g1 g2 g3,.bool g4,.slice g5 g6 g7]:List Value)=(css++([[.bool g0,.slice g1 g2 g3,.bool g4,.slice g5 g6 g7]]:List (List Value))).flatten:=by simp
  have hlen2:css.length<=200:=by rw[hR.1,aJ,aW];have:=OI.b;omega
  refine .inl ?_;refine⟨by omega,by omega,by unfold maxLen;omega,((k+1:Nat):Int),wo,?_⟩;intro ρ3 w3 r3
  exact⟨(k+1,css++[[.bool g0,.slice g1 g2 g3,.bool g4,.slice g5 g6 g7]],w3),⟨OK,hw.tr r3.cP,fun cs hc=>by
   rcases bG.1 hc with hc|hc
   ·exact Qt cs hc
   ·rw[bB.1 hc];rfl,Qh.1,fun j cs q h1 h2=>(Qh.2 j cs q h1 h2).cH fun g hg=>(r3.cP).block g (hS g hg)⟩,Sub.gn [(1,4)] r3 ⟨by dsimp only;rw[<-QR];rfl,rfl,trivial⟩ ⟨by dsimp only;rw[List.length_append,List.length_singleton];rfl,rfl,rfl,rfl,rfl,trivial⟩,by dsimp only;omega⟩
 have OK:k=f.bars.length:=aQ hk (by simpa using OK);subst OK;have Ok:css.length=f.bars.length:=by rw[hR.1,aJ,aW];omega
 rw[bC,show f.bars.map (·.2.2)=f.bars.map (·.2.2)++(f.cV.take 0).map (·.2.2) by simp]at hR
 refine⟨Nat×List (List Value)×World,fun z=>⟨[(3,.o (.w 1 z.2.1.length)),(22,sV aq f.cV.length cq),(23,iZ f.cV.length),(24,iN z.1)],[(1,.vec T.Rat 4 z.2.1.flatten),(0,.box T.Frame [.v (.slice an f.nodes.length cn),.v (.slice ab f.bars.length cb),.v (.slice aq f.cV.length cq)])],2,[],z.2.2⟩,fun z=>f.cV.length-z.1,
  fun z=>z.1<=f.cV.length∧dm w.heap.size w z.2.2∧(∀cs∈z.2.1,cs.length=4)∧(z.2.1.length=((fun i=>f.bars.map (·.2.2)++(f.cV.take i).map (·.2.2)) z.1).length∧∀(j:Nat) cs q,z.2.1[j]? =some cs->((fun i=>f.bars.map (·.2.2)++(f.cV.take i).map (·.2.2)) z.1)[j]? =some q->lr z.2.2 S cs q),?_,?_⟩
 ·intro O w' r3;exact⟨(0,css,w'),⟨aP _,hw.tr r3.cP,Qt,hR.1,fun j cs q h1 h2=>(hR.2 j cs q h1 h2).cH fun g hg=>(r3.cP).block g (hS g hg)⟩,Sub.gn [] r3⟩
 rintro⟨k,css,w1⟩ ⟨hk,hw,Qt,hR⟩;dsimp only at hk hw Qt hR ⊢;have OY:=eN Qt;refine dM.mk ?_ ?_<;>intro OK
 ·have OK:k<f.cV.length:=by simpa using OK
  have Rn:=OI.b;have Ro:=OI.s;obtain⟨b,hb⟩:∃b,f.cV[k]? =some b:=⟨_,aB OK⟩
  have Q3:(fun i=>f.bars.map (·.2.2)++(f.cV.take i).map (·.2.2)) (k+1)=(fun i=>f.bars.map (·.2.2)++(f.cV.take i).map (·.2.2)) k++[b.2.2]:=by dsimp only;rw[List.take_add_one,hb];simp
  obtain⟨adb,cs,PY,hF,-,Oc⟩:=hf0.cV.load (by decide) hb;obtain⟨g0,g1,g2,g3,g4,g5,g6,g7,rfl,hF⟩:=hF;refine⟨adb,PY,by omega,[.int .i64 b.1,.int .i64 b.2.1,.bool g0,.slice g1 g2 g3,.bool g4,.slice g5 g6 g7],rfl,rdO Oc hw hS,?_⟩;have Vz:lr w1 S [.bool g0,.slice g1 g2 g3,.bool g4,.slice g5 g6 g7] b.2.2:=⟨_,_,_,_,_,_,_,_,rfl,hF.cH fun g hg=>hw.block g (hS g hg)⟩
  have Qh:=cR.Mz hR Vz;rw[<-Q3]at Qh;have QR:css.flatten++([.bool g0,.slice g1 g2 g3,.bool g4,.slice g5 g6 g7]:List Value)=(css++([[.bool g0,.slice g1 g2 g3,.bool g4,.slice g5 g6 g7]]:List (List Value))).flatten:=by simp
  have hlen2:css.length<=200:=by rw[hR.1,List.length_append,aJ,aJ,aW];have:=OI.b;have:=OI.s;omega
  refine .inl ?_;refine⟨by omega,by omega,by unfold maxLen;omega,((k+1:Nat):Int),wo,?_⟩;intro ρ3 w3 r3
  exact⟨(k+1,css++[[.bool g0,.slice g1 g2 g3,.bool g4,.slice g5 g6 g7]],w3),⟨OK,hw.tr r3.cP,fun cs hc=>by
   rcases bG.1 hc with hc|hc
   ·exact Qt cs hc
   ·rw[bB.1 hc];rfl,Qh.1,fun j cs q h1 h2=>(Qh.2 j cs q h1 h2).cH fun g hg=>(r3.cP).block g (hS g hg)⟩,Sub.gn [(1,4)] r3 ⟨by dsimp only;rw[<-QR];rfl,rfl,trivial⟩ ⟨by dsimp only;rw[List.length_append,List.length_singleton];rfl,rfl,rfl,rfl,trivial⟩,by dsimp only;omega⟩
 have OK:k=f.cV.length:=aQ hk (by simpa using OK);subst OK;intro ρe we re;have hfull:f.bars.map (·.2.2)++(f.cV.take f.cV.length).map (·.2.2)=cW f:=by rw[bC];rfl
 rw[hfull]at hR;refine⟨_,rfl,hw.tr re.cP,css,?_,hR.1,Qt,fun j cs q k1 k2=>((hR.2 j cs q k1 k2).cH fun g hg=>(re.cP).block g (hS g hg)).cI fun g hg=>.inl hg⟩;have PV:=hR.1
 have h5:=re.iR (id:=1) (sz:=4) (m:=css.length) rfl OY (by have:=OI.b;have:=OI.s;rw[PV,lF];unfold eh.cols maxLen;omega) (by decide) (fun u hu=>by
  obtain⟨cs,hc,hu⟩:=List.mem_flatten.1 hu;obtain⟨j,hj⟩:=aS hc;obtain⟨_,_,_,_,_,_,_,_,rfl,_⟩:=hR.2 j cs _ hj (aB (by rw[<-PV];exact(aD.1 hj).1));simp at hu
  rcases hu with rfl|rfl|rfl|rfl<;>rfl)
 rw[<-PV];exact h5.cI fun g hg=>.inr hg
theorem LB(cols h:Nat):uQ [] cols h:=by
 refine⟨fun i hi r hr=>?_,fun i hi=>absurd hi (Nat.not_lt_zero i)⟩;have:i=0:=Nat.le_zero.1 hi;subst this
 cases hr
theorem JF:jK [] [] 0=some []:=by decide +kernel
theorem ke.nil{C:Nat->Prop}:ke w C S (.slice none 0 0) []:=⟨[],⟨aP _,rfl,by simp,none,0,rfl,aF _,fun j u h=>by cases h⟩,rfl,fun i u x h=>by cases h⟩
theorem cJ.LC:cJ w S (.slice none 0 0) []:=⟨[],⟨aP _,rfl,by simp,none,0,rfl,aF _,fun j u h=>by cases h⟩,rfl,by simp,fun j cs x h=>by cases h⟩
set_option maxHeartbeats 1000000 in
theorem AW{u:Value}{p:List Rat}(hS:Old S w)(hf:dS w S vn vb vs f)(OI:rf f)(hp:cJ w S u p)(PN:p.length=3*f.nodes.length)(UY:∀q∈p,rl q<=100000)(VB:0<f.cols)
  (hB1:uQ (j5 (cO f) (cX p (-1))) (f.cols+1) h) (hB2:uQ (cO f) f.cols h) (hA2:Ht (dX (cO f) f.cols).1 h) (QD:kJ (cO f) f.cols=[]) (hh:3*h<=90000):
  di PG N.lZ #[.agg #[vn,vb,vs],u] w (dw w fun v' w2=>(jK (cO f) (cX p (-1)) f.cols=none∧v'= .tuple #[.slice none 0 0,.bool false])∨∃x vx,jK (cO f) (cX p (-1)) f.cols=some x∧v'= .tuple #[vx,.bool true]∧dP w2 FF w.heap.size [(w.heap.size,w2.heap.size)] vx f.cols x):=by
 have hw:=bR w;obtain⟨an,cn,ab,cb,aq,cq,rfl,rfl,rfl,Q6,Qm,RH⟩:=hf.shape;obtain⟨R1,Rn,Ro⟩:=And.intro OI.n (And.intro OI.b OI.s);have PT:f.cols=f.bars.length+f.cV.length:=rfl;obtain⟨ap,cp,rfl,WC,hmp⟩:=cY.shape hp;refine mg (by simp) ?_;refine cC (cE hw (fun _ w' v w2=>(∃vr,v= .agg #[vr,.int .i64 f.cols]∧cQ w2 (Nf w' w2) vr (cO f))∧fg f.cols (cO f)∧Ht (cO f) 2) (fun O w' r=>ll (S:=S) (oS hS r) (hf.cH (kS hw r hS)) OI) ?_);rintro O _ _ _ OM r he hw h_ ⟨⟨vr,rfl,k1⟩,hlen,hht⟩;have hM:=cQ.dA (S:=FF) k1 r.cD (mN h_);obtain⟨am,cm,rfl,Rb,RD⟩:=dD.shape hM;have Qe:=ml f;refine cK hτ dZ [.x 0,.x 1,.x 2,.x 3,.x 4,.x 5,.x 6,.x 7,.x 8,.x 9] (by kernel_rfl) (by kernel_rfl) ?_;refine cE hw (fun _ w' v w2=>cU w2 (Nf w' w2) v ((-1:Int):Rat)) (fun O w' r=>k5 (-1) w' (by decide) (by decide)) ?_;rintro O _ v2 _ OJ r he hw h_ hn;replace hM:=cQ.cF hM r (cB w) he (mC h_);have hd:=hn.dA (S:=FF) r.cD (mN h_);obtain⟨A0,A1,A2,A3,A4,A5,A6,A7,rfl⟩:=hd.shape;refine cE hw (fun _ w' v w2=>dP w2 FF w'.heap.size [(w'.heap.size,w2.heap.size)] v p.length (cX p (-1))) (fun O w' r=>vv (S:=Cv S w.heap.size OJ) (Rel.old r hS) (cR.cI (cJ.l (cJ.cH hp (kS hw r hS)) fun q hq=>by have:=UY q hq;omega) fun g hg=>.inl hg) (((hd.rel r (cB w)).l (by decide)).cI fun g hg=>ui hg) (by omega)) ?_;rintro O _ _ _ OP r he hw h_ hn;replace hM:=cQ.cF hM r (cB w) he (mC h_);have hB:=hn.dA (S:=FF) r.cD (mN h_);obtain⟨a3,c3,rfl,hc3⟩:=hB.row.form;refine cM (Φ:=fun _ w' v w2=>(jK (cO f) (cX p (-1)) f.cols=none∧v= .tuple #[.slice none 0 0,.bool false])∨∃x vx,jK (cO f) (cX p (-1)) f.cols=some x∧v= .tuple #[vx,.bool true]∧dP w2 (Cf w OP) w'.heap.size [(w'.heap.size,w2.heap.size)] vx f.cols x) (fun O w' r=>uS (C:=Cf w OP) (S:=Cf w OP) (h:=h) (Rel.old r (cB w)) (Rel.old r (cB w)) (cQ.rel hM r (cB w)) ((hB.rel r (cB w)).c) (by rw[cX,aJ,Qe];exact PN) hlen (by omega) (by omega) hB1 hh) ?_;rintro O QB v4 Pw r he hb (⟨R9,rfl⟩|⟨x,vx,hx,rfl,k2⟩)
 ·replace hw:=hw.tr hb;exact rtn hw fun ρe we re=>.inl ⟨R9,rfl⟩
 replace hw:=hw.tr hb;replace hM:=cQ.cF (iv':=(QB.heap.size,Pw.heap.size)::OP) hM r (cB w) he fun x hx=>List.mem_cons_of_mem _ hx;have hX:=k2.Np r.cD;generalize (QB.heap.size,Pw.heap.size)::OP=OR at*
 obtain⟨ax,cx,rfl,Sl⟩:=hX.row.form;refine cK hτ dZ [.x 0,.x 2,.x 1,.x 3,.x 4,.x 5] (by kernel_rfl) (by kernel_rfl) ?_;refine cE hw (fun _ w' v w2=>cQ w2 (Nf w' w2) v []) (fun O w' r=>QD▸CK (C:=Cf w OR) (S:=Cf w OR) (h:=h) (Rel.old r (cB w)) (Rel.old r (cB w)) (cQ.rel hM r (cB w)) hlen VB (by omega) (by omega) hB2 hA2 hh) ?_;rintro O _ _ _ Ou r he hw h_ hn;replace hX:=hX.cF r (cB w) he (mC h_);obtain⟨ak,ck,rfl,-,-⟩:=dD.shape hn;refine cE hw (fun _ w' v w2=>cR w2 (Nw S w' w2) v (cW f)) (fun O w' r=>qv (S:=S) (oS hS r) (hf.cH (kS hw r hS)) OI) ?_;rintro O _ _ _ Q7 r he hw h_ hn;replace hX:=hX.cF r (cB w) he (mC h_);obtain⟨al,cl,rfl,-,-⟩:=cY.shape hn
 refine⟨World×Iv,fun z=>⟨[(7,sV ax f.cols cx),(9,sV ak 0 ck),(11,pP 2 0),(12,sV none 0 0),(43,sV ak 0 ck),(44,iZ 0),(45,iZ 0)],[(2,.box T.dc [.v (.slice none 0 0),.v (.int .i64 0)])],3,z.2,z.1⟩,fun _=>0,
  fun z=>dm w.heap.size w z.1∧dP z.1 FF w.heap.size z.2 (.slice ax f.cols cx) f.cols x,?_,?_⟩
 ·intro O w' r3;exact⟨(w',_),⟨hw.tr r3.cP,hX.rel r3 (cB w)⟩,Sub.gn [] r3⟩
 rintro⟨w7,iv⟩ ⟨hw,hX⟩;dsimp only at hw hX ⊢
 refine cC (cE hw (fun _ w' v w2=>∃vx,v= .tuple #[vx,.bool true]∧∃a c,vx= .slice a 0 c) (fun O w' r=>(uS (C:=fun _=>False) (S:=FF) (M:=[]) (b:=[]) (cols:=0) (h:=h) (fun g hg=>hg.elim) (fun g hg=>hg.elim) ke.nil cJ.LC rfl (fun r hr=>by cases hr) (by decide) (by decide) (LB _ _) hh).mono fun e w2 ⟨v2,e1,e2,e3⟩=>⟨v2,e1,e2,by
  rcases e3 with⟨h1,_⟩|⟨x2,vx,h1,h2,h3⟩
  ·rw[JF]at h1;cases h1
  ·obtain⟨a,c,h4,_⟩:=h3.row.form
   exact⟨vx,h2,a,c,h4⟩⟩) ?_)
 rintro O _ _ _ QZ r he hw h_ ⟨vx2,rfl,a8,c8,rfl⟩;replace hX:=hX.cF r (cB w) he (mC h_)
 refine⟨World×Iv,fun z=>⟨[(7,sV ax f.cols cx),(87,sV ak 0 ck),(88,iZ 0),(89,iZ 0)],[],0,z.2,z.1⟩,fun _=>0,
  fun z=>dm w.heap.size w z.1∧dP z.1 FF w.heap.size z.2 (.slice ax f.cols cx) f.cols x,?_,?_⟩
 ·intro O w' r3;exact⟨(w',_),⟨hw.tr r3.cP,hX.rel r3 (cB w)⟩,Sub.gn [] r3⟩
 rintro⟨w7,iv⟩ ⟨hw,hX⟩;dsimp only at hw hX ⊢;exact rtn hw fun ρe we re=>.inr ⟨x,_,hx,rfl,hX.out re⟩
def ec{α:Type}(e:List α->α->Int):List α->List α->Int
 |_,[]=>0
 |seen,x::r=>if e seen x=0 then ec e (seen++[x]) r else e seen x
section
variable{α:Type}{e:List α->α->Int}{xs:List α}
theorem gW{k:Nat}{x:α}(hx:xs[k]? =some x)(h0:e (xs.take k) x=0):ec e (xs.take k) (xs.drop k)=ec e (xs.take (k+1)) (xs.drop (k+1)):=by
 have hk:=(aD.1 hx).1;have h2:=(aD.1 hx).2;rw[List.drop_eq_getElem_cons hk,h2,ec,if_pos h0,List.take_add_one,hx];rfl
theorem cT{k:Nat}{x:α}{c:Int}(hx:xs[k]? =some x)(h0:e (xs.take k) x=c)(hc:c≠0):ec e (xs.take k) (xs.drop k)=c:=by
 have hk:=(aD.1 hx).1;have h2:=(aD.1 hx).2;rw[List.drop_eq_getElem_cons hk,h2,ec,aL (by rw[h0];exact hc),h0]
theorem iu{k:Nat}(hk:xs.length<=k):ec e (xs.take k) (xs.drop k)=0:=by
 rw[List.drop_eq_nil_of_le hk];rfl
theorem ig(h:ec e [] xs=0):∀k x,xs[k]? =some x->e (xs.take k) x=0:=by
 have key:∀k,k<=xs.length->ec e (xs.take k) (xs.drop k)=0∧∀j x,j<k->xs[j]? =some x->e (xs.take j) x=0:=fun k=>by
  induction k with
  |zero=>intro _;exact⟨by simpa using h,fun j x hj=>by omega⟩
  |succ k ih=>
   intro hk;obtain⟨h1,h2⟩:=ih (by omega);obtain⟨x,hx⟩:∃x,xs[k]? =some x:=⟨_,aB (by omega)⟩
   have h0:e (xs.take k) x=0:=by
    by_cases h0:e (xs.take k) x=0
    ·exact h0
    ·rw[cT hx rfl h0]at h1;exact h1
   refine⟨by rw[<-gW hx h0];exact h1,fun j y hj hy=>?_⟩;rcases aO j k with Rz|Rz
   ·exact h2 j y Rz hy
   ·have:j=k:=by omega
    subst this;rw[hx]at hy;injection hy with hy;rw[<-hy];exact h0
 exact fun k x hx=>(key xs.length (aF _)).2 k x (aD.1 hx).1 hx
end
def nI(n:Int):Prop:= -1000000<=n∧n<=1000000
instance (n : Int) : Decidable (nI n) := by unfold nI; infer_instance
def eu(seen:List (Int×Int×Int))(p:Int×Int×Int):Int:=if nI p.1∧nI p.2.1∧nI p.2.2 then(if p∈seen then 12 else 0)else 2
def gN(b:Int×Int×Rat):Int×Int:=(min b.1 b.2.1,max b.1 b.2.1)
def jL(n:Nat)(i:Int):Prop:=0<=i∧i<n
instance (n : Nat) (i : Int) : Decidable (jL n i) := by unfold jL; infer_instance
def fH(n:Nat)(seen:List (Int×Int×Rat))(b:Int×Int×Rat):Int:=
 if jL n b.1∧jL n b.2.1 then(if b.1=b.2.1 then 3 else if gN b∈seen.map gN then 5 else if b.2.2<=0 then 2 else 0)else 6
def ie(s:Int×Int×Rat):Int×Int:=(s.1,s.2.1)
def k6(n:Nat)(seen:List (Int×Int×Rat))(s:Int×Int×Rat):Int:=
 if jL n s.1 then(if 0<=s.2.1∧s.2.1<=2 then(if ie s∈seen.map ie then 5 else if s.2.2<0 then 2 else 0)else 2)else 6
def eV(f:eh):Int:=
 if 20<f.nodes.length∨60<f.bars.length∨60<f.cV.length then 8 else
  if ec eu [] f.nodes≠0 then ec eu [] f.nodes else
   if ec (fH f.nodes.length) [] f.bars≠0 then ec (fH f.nodes.length) [] f.bars else ec (k6 f.nodes.length) [] f.cV
def j9(n:Nat)(x:Ld):Int:=if jL n x.1 then(if nI x.2.1∧nI x.2.2.1∧nI x.2.2.2 then 0 else 2)else 6
def uU(n:Nat)(l:List Ld):Int:=if 200<l.length then 8 else ec (fun _=>j9 n) [] l
def jI(f:eh)(l:List Ld):Int:=if eV f≠0 then eV f else uU f.nodes.length l
theorem sk{seen:List (Int×Int×Int)}:eu seen p=0↔(nI p.1∧nI p.2.1∧nI p.2.2)∧p∉seen:=by
 unfold eu;split<;>rename_i h
 ·split<;>rename_i h2<;>simp[h,h2]
 ·simp[h]
theorem nR:fH n seen b=0↔(jL n b.1∧jL n b.2.1)∧b.1≠b.2.1∧gN b∉seen.map gN∧0<b.2.2:=by
 unfold fH;rw[<-Rat.not_le];by_cases h:jL n b.1∧jL n b.2.1
 ·rw[if_pos h];by_cases h2:b.1=b.2.1
  ·rw[if_pos h2];exact⟨(fun e=>by cases e),fun e=>absurd h2 e.2.1⟩
  ·rw[aL h2];by_cases h3:gN b∈seen.map gN
   ·rw[if_pos h3];exact⟨(fun e=>by cases e),fun e=>absurd h3 e.2.2.1⟩
   ·rw[aL h3];by_cases h4:b.2.2<=0
    ·rw[if_pos h4];exact⟨(fun e=>by cases e),fun e=>absurd h4 e.2.2.2⟩
    ·rw[aL h4];exact⟨fun _=>⟨h,h2,h3,h4⟩,fun _=>rfl⟩
 ·rw[aL h];exact⟨(fun e=>by cases e),fun e=>absurd e.1 h⟩
theorem qp{s:Int×Int×Rat}:k6 n seen s=0↔jL n s.1∧(0<=s.2.1∧s.2.1<=2)∧ie s∉seen.map ie∧0<=s.2.2:=by
 unfold k6;rw[<-Rat.not_lt];by_cases h:jL n s.1<;>by_cases h2:0<=s.2.1∧s.2.1<=2<;>by_cases h3:ie s∈seen.map ie<;>by_cases h4:s.2.2<0<;>simp only[h,h2,h3,h4]<;>simp
theorem HD{x:Ld}:j9 n x=0↔jL n x.1∧nI x.2.1∧nI x.2.2.1∧nI x.2.2.2:=by
 unfold j9;split<;>rename_i h
 ·split<;>rename_i h2<;>simp[h,h2]
 ·simp[h]
theorem vF(h:eV f=0):(f.nodes.length<=20∧f.bars.length<=60∧f.cV.length<=60)∧ec eu [] f.nodes=0∧ec (fH f.nodes.length) [] f.bars=0∧ec (k6 f.nodes.length) [] f.cV=0:=by
 unfold eV at h;split at h<;>rename_i h1
 ·cases h
 ·split at h<;>rename_i h2
  ·exact absurd h h2
  ·split at h<;>rename_i h3
   ·exact absurd h h3
   ·exact⟨by omega,by simpa using h2,by simpa using h3,h⟩
theorem mS(h:eV f=0):rf f:=by
 obtain⟨⟨h1,h2,h3⟩,hn,hb,hs⟩:=vF h;refine⟨fun p hp=>?_,fun b QK=>?_,fun s TN=>?_,h1,h2,h3⟩
 ·obtain⟨k,hk⟩:=aS hp;exact(sk.1 (ig hn k p hk)).1
 ·obtain⟨k,hk⟩:=aS QK;exact(nR.1 (ig hb k b hk)).1
 ·obtain⟨k,hk⟩:=aS TN;have:=qp.1 (ig hs k s hk);exact⟨this.1,this.2.1⟩
theorem yP(h:uU n l=0):rh n l:=by
 unfold uU at h;split at h<;>rename_i h1
 ·cases h
 ·refine⟨by omega,fun x hx=>?_⟩;obtain⟨k,hk⟩:=aS hx;exact HD.1 (ig h k x hk)
theorem kD(h:jI f l=0):eV f=0∧uU f.nodes.length l=0:=by
 unfold jI at h;split at h<;>rename_i h1
 ·exact absurd h h1
 ·exact⟨by simpa using h1,h⟩
theorem lI(n:Int)(w:World):di PG N.qC #[.int .i64 n,.int .i64 1000000] w (dw w fun v' _=>∃d,v'= .bool d∧(d=true↔nI n)):=by
 have hw:=bR w;refine uK (by simp) ?_;refine⟨-1000000,by decide,?_⟩;refine dM.mk ?_ ?_<;>intro h1
 ·intro ρe we re;have h1:=aI h1;exact⟨_,rfl,hw.tr re.cP,_,rfl,by rw[decide_eq_true_iff];exact⟨fun h=>⟨h1,h⟩,fun h=>h.2⟩⟩
 ·intro ρe we re;have h1:=aH h1;exact⟨_,rfl,hw.tr re.cP,_,rfl,(fun h=>by cases h),fun h=>absurd h.1 h1⟩
theorem HE(n:Int)(w:World)(an ab aq:Option Addr)(ln cn nb cb nq cq:Nat):di PG N.xB #[.agg #[.slice an ln cn,.slice ab nb cb,.slice aq nq cq],.int .i64 n] w (dw w fun v' _=>∃d,v'= .bool d∧(d=true↔jL ln n)):=by
 have hw:=bR w;refine AE (by simp) ?_;refine dM.mk ?_ ?_<;>intro h1
 ·intro ρe we re;have h1:=aI h1;exact⟨_,rfl,hw.tr re.cP,_,rfl,by rw[decide_eq_true_iff];exact⟨fun h=>⟨h1,h⟩,fun h=>h.2⟩⟩
 ·intro ρe we re;have h1:=aH h1;exact⟨_,rfl,hw.tr re.cP,_,rfl,(fun h=>by cases h),fun h=>absurd h.1 h1⟩
theorem D7(x y0 y1 y2:Int)(n:Nat)(w:World):di PG N.mX #[.agg #[.int .i64 x,.int .i64 y0,.int .i64 y1,.int .i64 y2],.int .i64 n] w (dw w fun v' _=>v'= .int .i64 (j9 n (x,y0,y1,y2))):=by
 have hw:=bR w;refine qI (by simp) ?_;refine dM.mk ?_ ?_<;>intro h1
 ·have h1:=aI h1;exact rtn hw fun ρe we re=>by show Value.int .i64 _=_;rw[j9,aL (by unfold jL;omega)]
 have h1:=aH h1;refine dM.mk ?_ ?_<;>intro h2
 ·have h2:=aI h2;exact rtn hw fun ρe we re=>by show Value.int .i64 _=_;rw[j9,aL (by unfold jL;omega)]
 have h2:=aH h2;have hh:jL n x:=by unfold jL;omega
 refine cC (cE hw (fun _ w' v w2=>∃d,v= .bool d∧(d=true↔nI y0)) (fun O w' r=>lI _ w') ?_);rintro O _ _ _ OM r he hw h_ ⟨d0,rfl,OQ⟩
 cases d0
 ·have OQ:¬nI y0:=fun h=>by have:=OQ.2 h;cases this
  exact rtn hw fun ρe we re=>by show Value.int .i64 _=_;rw[j9,if_pos hh,aL (fun h=>OQ h.1)]
 replace OQ:=OQ.1 rfl;refine cC (cE hw (fun _ w' v w2=>∃d,v= .bool d∧(d=true↔nI y1)) (fun O w' r=>lI _ w') ?_);rintro O _ _ _ OJ r he hw h_ ⟨d1,rfl,OU⟩
 cases d1
 ·have OU:¬nI y1:=fun h=>by have:=OU.2 h;cases this
  exact rtn hw fun ρe we re=>by show Value.int .i64 _=_;rw[j9,if_pos hh,aL (fun h=>OU h.2.1)]
 replace OU:=OU.1 rfl;refine cC (cE hw (fun _ w' v w2=>∃d,v= .bool d∧(d=true↔nI y2)) (fun O w' r=>lI _ w') ?_);rintro O _ _ _ OP r he hw h_ ⟨d2,rfl,Ox⟩
 cases d2
 ·have Ox:¬nI y2:=fun h=>by have:=Ox.2 h;cases this
  exact rtn hw fun ρe we re=>by show Value.int .i64 _=_;rw[j9,if_pos hh,aL (fun h=>Ox h.2.2)]
 replace Ox:=Ox.1 rfl;exact rtn hw fun ρe we re=>by show Value.int .i64 _=_;rw[j9,if_pos hh,if_pos ⟨OQ,OU,Ox⟩]
theorem BN(hS:Old S w)(hl:ff w S vl l):di PG N.l9 #[vl,.int .i64 n] w (dw w fun v' _=>v'= .int .i64 (uU n l)):=by
 have hw:=bR w;obtain⟨al,cl,rfl,PV,Ql⟩:=hl.shape;unfold maxLen at Ql;refine pG (by simp) ?_;refine dM.mk ?_ ?_<;>intro h1
 ·have h1:=aI h1;exact rtn hw fun ρe we re=>by show Value.int .i64 _=_;rw[uU,if_pos (by omega)]
 have h1:=aH h1
 refine⟨Nat×World×Iv,fun z=>⟨[(1,iZ n),(11,sV al l.length cl),(12,iZ l.length),(13,iN z.1)],[],0,z.2.2,z.2.1⟩,fun z=>l.length-z.1,
  fun z=>z.1<=l.length∧dm w.heap.size w z.2.1∧uU n l=ec (fun _=>j9 n) (l.take z.1) (l.drop z.1),?_,?_⟩
 ·intro O w' r3;exact⟨(0,w',[]),⟨aP _,hw.tr r3.cP,by rw[uU,aL (by omega)];rfl⟩,Sub.gn [] r3⟩
 rintro⟨i,w1,iv⟩ ⟨hi,hw,hE⟩;dsimp only at hi hw hE ⊢;refine dM.mk ?_ ?_<;>intro OF
 ·have OF:i<l.length:=by simpa using OF
  obtain⟨x,hx⟩:∃x,l[i]? =some x:=⟨_,aB OF⟩
  obtain⟨adx,cs,PS,hP,-,Oj⟩:=hl.load (by decide) hx;have hP:cs=[.int .i64 x.1,.int .i64 x.2.1,.int .i64 x.2.2.1,.int .i64 x.2.2.2]:=hP;subst hP;refine⟨adx,PS,by omega,[.int .i64 x.1,.int .i64 x.2.1,.int .i64 x.2.2.1,.int .i64 x.2.2.2],rfl,rdO Oj hw hS,?_⟩;refine cC (cE hw (fun _ w' v w2=>v= .int .i64 (j9 n x)) (fun O w' r=>D7 _ _ _ _ n w') ?_);rintro O _ _ _ OM r he hw h_ rfl;obtain⟨c,hc⟩:∃c,j9 n x=c:=⟨_,rfl⟩
  rw[hc];refine dM.mk ?_ ?_<;>intro hd
  ·have hd:c≠0:=by simpa using hd
   exact rtn hw fun ρe we re=>by show Value.int .i64 _=_;rw[hE,cT hx hc hd]
  have hd:c=0:=by simpa using hd
  rw[hd]at hc;rw[gW hx hc]at hE;refine⟨((i+1:Nat):Int),wo,?_⟩;intro ρ3 w6 r3;exact⟨(i+1,w6,_),⟨OF,hw.tr r3.cP,hE⟩,Sub.gn [] r3,by dsimp only;omega⟩
 have OF:i=l.length:=aQ hi (by simpa using OF);rw[iu (by omega)]at hE;exact rtn hw fun ρe we re=>by show Value.int .i64 _=_;rw[hE]
theorem fL(h:cs[j]? =some v)(w:World):(part T.int cs j).run PG w= .ok v w:=by
 have:=(hτ T.int _ rfl).isAgg w;simp only[part,Sem.run_bind,this,Result.andThen]
 simp[h]
theorem eq_int(d:Nat)(a b:Int)(w:World):(Op.equalIn (d+1) T.int (.int .i64 a) (.int .i64 b)).run PG w= .ok (a==b) w:=by
 unfold Op.equalIn;simp[run_underlying ((hτ T.int _ rfl).i1 rfl)]
theorem M5(p0 p1 p2 q0 q1 q2:Int)(w:World):(Op.equal T.Node (.agg #[.int .i64 p0,.int .i64 p1,.int .i64 p2]) (.agg #[.int .i64 q0,.int .i64 q1,.int .i64 q2])).run PG w= .ok (decide (p0=q0∧p1=q1∧p2=q2)) w:=by
 have h:=run_underlying Tryz.underlying169;simp only[Op.equal,Op.maxDepth]
 unfold Op.equalIn;have a0:=fL (cs:= #[Value.int .i64 p0,Value.int .i64 p1,Value.int .i64 p2]) (j:=0) rfl;have a1:=fL (cs:= #[Value.int .i64 p0,Value.int .i64 p1,Value.int .i64 p2]) (j:=1) rfl;have a2:=fL (cs:= #[Value.int .i64 p0,Value.int .i64 p1,Value.int .i64 p2]) (j:=2) rfl;have b0:=fL (cs:= #[Value.int .i64 q0,Value.int .i64 q1,Value.int .i64 q2]) (j:=0) rfl;have b1:=fL (cs:= #[Value.int .i64 q0,Value.int .i64 q1,Value.int .i64 q2]) (j:=1) rfl;have b2:=fL (cs:= #[Value.int .i64 q0,Value.int .i64 q1,Value.int .i64 q2]) (j:=2) rfl;simp[h,a0,a1,a2,b0,b1,b2,eq_int 9998];by_cases h0:p0=q0
 ·by_cases h1:p1=q1
  ·by_cases h2:p2=q2<;>simp[h0,h1,h2]
  ·simp[h0,h1]
 ·simp[h0]
theorem M6(p0 p1 q0 q1:Int)(w:World):(Op.equal T.DE (.agg #[.int .i64 p0,.int .i64 p1]) (.agg #[.int .i64 q0,.int .i64 q1])).run PG w= .ok (decide (p0=q0∧p1=q1)) w:=by
 have h:=run_underlying Tryz.underlying187;simp only[Op.equal,Op.maxDepth]
 unfold Op.equalIn;have a0:=fL (cs:= #[Value.int .i64 p0,Value.int .i64 p1]) (j:=0) rfl;have a1:=fL (cs:= #[Value.int .i64 p0,Value.int .i64 p1]) (j:=1) rfl;have b0:=fL (cs:= #[Value.int .i64 q0,Value.int .i64 q1]) (j:=0) rfl;have b1:=fL (cs:= #[Value.int .i64 q0,Value.int .i64 q1]) (j:=1) rfl;simp[h,a0,a1,b0,b1,eq_int 9998];by_cases h0:p0=q0
 ·by_cases h1:p1=q1<;>simp[h0,h1]
 ·simp[h0]
abbrev CN(p:Int×Int×Int):Value:=.agg #[.int .i64 p.1,.int .i64 p.2.1,.int .i64 p.2.2]
theorem FX(p q:Int×Int×Int)(w:World)(o1 o2:Operand):(do eqGuard .eql T.Node o1 o2 (CN p) (CN q);binOp .eql T.Node (CN p) (CN q)).run PG w= .ok (.bool (decide (p=q))) w:=by
 have h:=M5 p.1 p.2.1 p.2.2 q.1 q.2.1 q.2.2 w;simp[eqGuard,binOp,h];obtain⟨a,b,c⟩:=p;obtain⟨a2,b2,c2⟩:=q;by_cases h0:a=a2
 ·by_cases h1:b=b2
  ·by_cases h2:c=c2<;>simp[h0,h1,h2]
  ·simp[h0,h1]
 ·simp[h0]
def nf(k:Int×Int):Value:=.agg #[.int .i64 k.1,.int .i64 k.2]
theorem qT{a b:Int×Int}(h:nf a=nf b):a=b:=by
 unfold nf at h;injection h with h;have h1:=congrArg (fun x=>x[0]?) h;have h2:=congrArg (fun x=>x[1]?) h;simp at h1 h2;exact Prod.ext h1 h2
theorem JG(d:Nat)(a:Int)(em:Bool)(w:World):(Instr.checkKey em (d+1) T.int (.int .i64 a)).run PG w= .ok () w:=by
 unfold Instr.checkKey;simp[run_underlying ((hτ T.int _ rfl).i1 rfl)]
theorem HF(p0 p1:Int)(em:Bool)(w:World):(Instr.checkKey em 10000 T.DE (.agg #[.int .i64 p0,.int .i64 p1])).run PG w= .ok () w:=by
 have h:=run_underlying Tryz.underlying187;have a0:=fL (cs:= #[Value.int .i64 p0,Value.int .i64 p1]) (j:=0) rfl;have a1:=fL (cs:= #[Value.int .i64 p0,Value.int .i64 p1]) (j:=1) rfl;unfold Instr.checkKey;simp[h,a0,a1,JG 9998]
theorem yQ:Jr PG T.DE (fun v=>∃k,v=nf k) where
 desc:=⟨_,Tryz.underlying187⟩
 check:=fun w em v ⟨k,e⟩=>by subst e;exact HF k.1 k.2 em w
 eq:=fun w a b ⟨p,e1⟩ ⟨q,e2⟩=>by
  subst e1 e2;refine⟨_,M6 p.1 p.2 q.1 q.2 w,?_⟩;rw[decide_eq_true_iff];exact⟨fun h=>by rw[show p=q from Prod.ext h.1 h.2],fun h=>by have:=qT h;subst this;exact⟨rfl,rfl⟩⟩
theorem uV:PG.underlying T.xY=some (.map T.DE T.bool):=Tryz.underlying185
theorem CO(w:World):(zeroValue T.bool).run PG w= .ok (.bool false) w:=by kernel_rfl
theorem LD(ad:Option Addr)(k:Nat):ad.map (·.add (0*k))=ad:=by
 rw[Nat.zero_mul]
 cases ad with
 |none=>rfl
 |some a=>simp only[Option.map_some,Option.some.injEq];unfold Addr.add;split<;>simp_all
theorem eX.take{α:Type}{k:Nat}{P:World->(Nat->Prop)->List Value->α->Prop}{c:Nat}{xs:List α}(h:eX k P w S (.slice a n c) xs){i:Nat}(hi:i<=xs.length):
  eX k P w S (.slice a i c) (xs.take i):=by
 obtain⟨css,⟨h0,h1,h2,a',c',e,h3,h4⟩,hl,hlk,hf⟩:=h;injection e with e1 e2 e3;subst e1 e2 e3;have hlen:(css.take i).length=i:=by rw[aW,hl];omega
 have hli:(xs.take i).length=i:=by rw[aW];omega
 have UZ:css.flatten=(css.take i).flatten++(css.drop i).flatten:=by rw[<-List.flatten_append,List.take_append_drop]
 refine⟨css.take i,⟨by omega,?_,fun u hu=>h2 u (by rw[UZ];exact List.mem_append_left _ hu),a,c,by rw[hli],by omega,fun j u hj=>h4 j u ?_⟩,by rw[hlen,hli],fun cs hc=>hlk cs (List.mem_of_mem_take hc),fun j cs x k1 k2=>?_⟩
 ·rw[vz fun cs hc=>hlk cs (List.mem_of_mem_take hc),hlen,hli]
 ·rw[UZ,aK (aD.1 hj).1];exact hj
 ·have hj:=(aD.1 k1).1;rw[hlen]at hj;rw[bU hj]at k1 k2;exact hf j cs x k1 k2
theorem nD.cH{w2:World}(h:nD w S v xs)(hk:∀g,S g->w2.heap[g]? =w.heap[g]?):nD w2 S v xs:=eX.cH (w:=w) (fun _ _ h=>h) h hk
theorem D8(hS:Old S w)(hn:nD w S vn xs)(p:Int×Int×Int):di PG N.fm #[vn,CN p] w (dw w fun v' _=>∃r,v'= .int .i64 r∧(-1<=r)∧(0<=r↔p∈xs)):=by
 have hw:=bR w;obtain⟨an,cn,rfl,hcn,Q6⟩:=hn.shape;unfold maxLen at Q6;refine iW (by simp) ?_
 refine⟨Nat×World,fun z=>⟨[(0,sV an xs.length cn),(3,pP 0 0),(7,iZ xs.length),(8,iN z.1)],[(0,.box T.Node [.v (.int .i64 p.1),.v (.int .i64 p.2.1),.v (.int .i64 p.2.2)])],1,[],z.2⟩,fun z=>xs.length-z.1,
  fun z=>z.1<=xs.length∧dm w.heap.size w z.2∧(p∈xs↔p∈xs.drop z.1),?_,?_⟩
 ·intro O w' r3;exact⟨(0,w'),⟨aP _,hw.tr r3.cP,Iff.rfl⟩,Sub.gn [] r3⟩
 rintro⟨i,w1⟩ ⟨hi,hw,hE⟩;dsimp only at hi hw hE ⊢;refine dM.mk ?_ ?_<;>intro OF
 ·have OF:i<xs.length:=by simpa using OF
  obtain⟨q,hx⟩:∃x,xs[i]? =some x:=⟨_,aB OF⟩
  have hdr:xs.drop i=q::xs.drop (i+1):=by rw[List.drop_eq_getElem_cons OF,(aD.1 hx).2]
  obtain⟨adx,cs,PS,hP,-,Oj⟩:=hn.load (by decide) hx;have hP:cs=[.int .i64 q.1,.int .i64 q.2.1,.int .i64 q.2.2]:=hP;subst hP;refine iq hτ dZ (.x 1 (.x 2 (.x 3 (.ld 0 32 (.ld 4 32 (.x 5 .nil)))))) (by kernel_rfl) (by kernel_rfl) ?_;refine⟨adx,PS,by omega,[.int .i64 q.1,.int .i64 q.2.1,.int .i64 q.2.2],rfl,rdO Oj hw hS,decide (p=q),fun O w o1 o2=>FX p q w o1 o2,?_⟩;refine dM.mk ?_ ?_<;>intro hd
  ·have hd:p=q:=aI hd;exact rtn hw fun ρe we re=>⟨_,rfl,by omega,iff_of_true (by omega) (hE.2 (by rw[hdr,hd];exact aG))⟩
  have hd:p≠q:=aH hd;rw[hdr,List.mem_cons,or_iff_right hd]at hE;refine⟨((i+1:Nat):Int),wo,?_⟩;intro ρ3 w6 r3;exact⟨(i+1,w6),⟨OF,hw.tr r3.cP,hE⟩,Sub.gn [] r3,by dsimp only;omega⟩
 have OF:i=xs.length:=aQ hi (by simpa using OF);rw[OF,List.drop_length]at hE;exact rtn hw fun ρe we re=>⟨_,rfl,by omega,iff_of_false (by omega) fun h=>by cases hE.1 h⟩
theorem xu(hS:Old S w)(hn:nD w S vn xs)(p:Int×Int×Int):di PG N.fQ #[vn,CN p] w (dw w fun v' _=>∃d,v'= .bool d∧(d=true↔p∈xs)):=by
 have hw:=bR w;obtain⟨an,cn,rfl,hcn,Q6⟩:=hn.shape;refine iC (by simp) ?_;refine cC (cE hw (fun _ w' v w2=>∃r,v= .int .i64 r∧(-1<=r)∧(0<=r↔p∈xs)) (fun O w' r=>D8 (p:=p) (oS hS r) (nD.cH hn (kS hw r hS))) ?_);rintro O _ _ _ OM r he hw h_ ⟨r0,rfl,hr0,Sj⟩;exact rtn hw fun ρe we re=>⟨_,rfl,by rw[decide_eq_true_iff];exact Sj⟩
def xw(w:World)(S:Nat->Prop)(g:Nat)(ks:List Value):Prop:=S g∧EO w g ks
section
variable{S:Nat->Prop}{H:Hp}{nx:Nat}{iv iv':Iv}{B:Nat}{w w' w2:World}{O:Nat->Sx.dg}{g:Nat}{ks:List Value}
theorem xw.rel(h:xw w (Cv S B iv) g ks)(r:Rel H nx iv B w O w')(hS:∀g,S g->g<B):xw w' (Cv S B iv) g ks:=⟨h.1,h.2.cH (Rel.same r hS h.1)⟩
theorem xw.cF(h:xw w (Cv S B iv) g ks)(r:Rel H nx iv B w O w')(hS:∀g,S g->g<B)(he:Ext w' w2)(hm:∀p,p∈iv->p∈iv'):xw w2 (Cv S B iv') g ks:=
 ⟨h.1.mono hm,(h.rel r hS).2.cH (he.block g (Rel.old r hS g h.1))⟩
end
set_option maxHeartbeats 2000000 in
theorem FY(hS:Old S w)(hf:dS w S vn vb vs f):di PG N.rQ #[.agg #[vn,vb,vs]] w (dw w fun v' _=>v'= .int .i64 (eV f)):=by
 have hw:=bR w;obtain⟨an,cn,ab,cb,aq,cq,rfl,rfl,rfl,Q6,Qm,RH⟩:=hf.shape;obtain⟨_,_,hsh,hcn,_⟩:=hf.nodes.shape;injection hsh with e1 e2 e3;subst e1 e3;refine vQ (by simp) ?_;refine dM.mk ?_ ?_<;>intro h0
 ·have h0:=aI h0;exact rtn hw fun ρe we re=>by show Value.int .i64 _=_;rw[eV,if_pos (by omega)]
 have h0:=aH h0;refine dM.mk ?_ ?_<;>intro h1
 ·have h1:=aI h1;exact rtn hw fun ρe we re=>by show Value.int .i64 _=_;rw[eV,if_pos (by omega)]
 have h1:=aH h1;refine dM.mk ?_ ?_<;>intro h2
 ·have h2:=aI h2;exact rtn hw fun ρe we re=>by show Value.int .i64 _=_;rw[eV,if_pos (by omega)]
 have h2:=aH h2
 refine⟨Nat×World×Iv,fun z=>⟨[(1,pP 0 0),(30,sV an f.nodes.length cn),(31,iZ f.nodes.length),(32,iN z.1)],[(0,.box T.Frame [.v (.slice an f.nodes.length cn),.v (.slice ab f.bars.length cb),.v (.slice aq f.cV.length cq)])],1,z.2.2,z.2.1⟩,fun z=>f.nodes.length-z.1,
  fun z=>z.1<=f.nodes.length∧dm w.heap.size w z.2.1∧ec eu [] f.nodes=ec eu (f.nodes.take z.1) (f.nodes.drop z.1),?_,?_⟩
 ·intro O w' r3;exact⟨(0,w',[]),⟨aP _,hw.tr r3.cP,rfl⟩,Sub.gn [] r3⟩
 rintro⟨i,w1,iv⟩ ⟨hi,hw,hE⟩;dsimp only at hi hw hE ⊢;refine dM.mk ?_ ?_<;>intro OF
 ·have OF:i<f.nodes.length:=by simpa using OF
  obtain⟨q,hx⟩:∃x,f.nodes[i]? =some x:=⟨_,aB OF⟩
  obtain⟨adx,cs,PS,hP,-,Oj⟩:=hf.nodes.load (by decide) hx;have hP:cs=[.int .i64 q.1,.int .i64 q.2.1,.int .i64 q.2.2]:=hP;subst hP;refine⟨adx,PS,by omega,[.int .i64 q.1,.int .i64 q.2.1,.int .i64 q.2.2],rfl,rdO Oj hw hS,?_⟩;refine cC (cE hw (fun _ w' v w2=>∃d,v= .bool d∧(d=true↔nI q.1)) (fun O w' r=>lI _ w') ?_);rintro O Pq v1 Pe OM r he hw h_ ⟨d0,rfl,OQ⟩
  cases d0
  ·have OQ:¬nI q.1:=fun h=>by have:=OQ.2 h;cases this
   exact rtn hw fun ρe we re=>by show Value.int .i64 _=_;rw[eV,aL (by omega),if_pos (by rw[hE,cT hx (show eu (f.nodes.take i) q=2 by rw[eu,aL (fun h=>OQ h.1)]) (by decide)];decide),hE,cT hx (show eu (f.nodes.take i) q=2 by rw[eu,aL (fun h=>OQ h.1)]) (by decide)]
  replace OQ:=OQ.1 rfl;refine cC (cE hw (fun _ w' v w2=>∃d,v= .bool d∧(d=true↔nI q.2.1)) (fun O w' r=>lI _ w') ?_);rintro O Pr v2 PB OJ r he hw h_ ⟨d1,rfl,OU⟩
  cases d1
  ·have OU:¬nI q.2.1:=fun h=>by have:=OU.2 h;cases this
   exact rtn hw fun ρe we re=>by show Value.int .i64 _=_;rw[eV,aL (by omega),if_pos (by rw[hE,cT hx (show eu (f.nodes.take i) q=2 by rw[eu,aL (fun h=>OU h.2.1)]) (by decide)];decide),hE,cT hx (show eu (f.nodes.take i) q=2 by rw[eu,aL (fun h=>OU h.2.1)]) (by decide)]
  replace OU:=OU.1 rfl;refine cC (cE hw (fun _ w' v w2=>∃d,v= .bool d∧(d=true↔nI q.2.2)) (fun O w' r=>lI _ w') ?_);rintro O PX v3 PU OP r he hw h_ ⟨d2,rfl,Ox⟩
  cases d2
  ·have Ox:¬nI q.2.2:=fun h=>by have:=Ox.2 h;cases this
   exact rtn hw fun ρe we re=>by show Value.int .i64 _=_;rw[eV,aL (by omega),if_pos (by rw[hE,cT hx (show eu (f.nodes.take i) q=2 by rw[eu,aL (fun h=>Ox h.2.2)]) (by decide)];decide),hE,cT hx (show eu (f.nodes.take i) q=2 by rw[eu,aL (fun h=>Ox h.2.2)]) (by decide)]
  replace Ox:=Ox.1 rfl;refine iq hτ dZ (.x 0 (.x 2 (.ld 1 104 (.x 3 (.ld 4 96 (.x 5 (.x 6 .nil))))))) (by kernel_rfl) (by kernel_rfl) ?_;refine⟨⟨by omega,by omega,by omega⟩,an,i,cn,by rw[show ((0:Int).toNat*3)=0*3 from rfl,LD];split<;>rfl,by simp,by simp,?_⟩;refine cE hw (fun _ w' v w2=>∃d,v= .bool d∧(d=true↔q∈f.nodes.take i)) (fun O w' r=>xu (p:=q) (oS hS r) (nD.cH (hf.nodes.take (Nat.le_of_lt OF)) (kS hw r hS))) ?_;rintro O _ _ _ OR r he hw h_ ⟨d3,rfl,Ua⟩
  cases d3
  ·have Ua:q∉f.nodes.take i:=fun h=>by have:=Ua.2 h;cases this
   rw[gW hx (sk.2 ⟨⟨OQ,OU,Ox⟩,Ua⟩)]at hE;refine⟨((i+1:Nat):Int),wo,?_⟩;intro ρ3 w6 r3;exact⟨(i+1,w6,_),⟨OF,hw.tr r3.cP,hE⟩,Sub.gn [] r3,by dsimp only;omega⟩
  replace Ua:=Ua.1 rfl;exact rtn hw fun ρe we re=>by show Value.int .i64 _=_;rw[eV,aL (by omega),if_pos (by rw[hE,cT hx (show eu (f.nodes.take i) q=12 by rw[eu,if_pos ⟨OQ,OU,Ox⟩,if_pos Ua]) (by decide)];decide),hE,cT hx (show eu (f.nodes.take i) q=12 by rw[eu,if_pos ⟨OQ,OU,Ox⟩,if_pos Ua]) (by decide)]
 have OF:i=f.nodes.length:=aQ hi (by simpa using OF);rw[iu (by omega)]at hE;refine wP (fun O wa wb r hM0 hg OX=>?_);have PE:=(hw.tr r.cP).tr (dm.grown hg (fun x e=>by cases e) r.cD);have hB:w.heap.size<=wa.heap.size:=r.cD;have hM:xw wb (Cf w ((wa.heap.size,wa.heap.size+1)::iv)) wa.heap.size []:=⟨.inr ⟨hB,_,_,aG,aF _,bZ _⟩,hM0⟩
 generalize (wa.heap.size,wa.heap.size+1)::iv=OJ at*
 obtain⟨gm,hgm⟩:∃gm,wa.heap.size=gm:=⟨_,rfl⟩
 rw[hgm]at hM ⊢;have hw:=PE
 refine⟨Nat×World×Iv,fun z=>⟨[(1,pP 0 0),(5,.o (.v (.map (some gm)))),(64,sV ab f.bars.length cb),(65,iZ f.bars.length),(66,iN z.1)],[(0,.box T.Frame [.v (.slice an f.nodes.length cn),.v (.slice ab f.bars.length cb),.v (.slice aq f.cV.length cq)])],1,z.2.2,z.2.1⟩,fun z=>f.bars.length-z.1,
  fun z=>z.1<=f.bars.length∧dm w.heap.size w z.2.1∧ec (fH f.nodes.length) [] f.bars=ec (fH f.nodes.length) (f.bars.take z.1) (f.bars.drop z.1)∧xw z.2.1 (Cf w z.2.2) gm ((f.bars.take z.1).map fun b=>nf (gN b)),?_,?_⟩
 ·intro O w' r3;exact⟨(0,w',OJ),⟨aP _,hw.tr r3.cP,rfl,hM.rel r3 (cB w)⟩,Sub.gn [] r3⟩
 rintro⟨i,w1,iv⟩ ⟨hi,hw,OZ,hM⟩;dsimp only at hi hw OZ hM ⊢;refine dM.mk ?_ ?_<;>intro OF
 ·have OF:i<f.bars.length:=by simpa using OF
  obtain⟨b,hx⟩:∃b,f.bars[i]? =some b:=⟨_,aB OF⟩
  obtain⟨adb,cs,PY,hF,-,Oc⟩:=hf.bars.load (by decide) hx;obtain⟨g0,g1,g2,g3,g4,g5,g6,g7,rfl,hF⟩:=hF;refine⟨adb,PY,by omega,[.int .i64 b.1,.int .i64 b.2.1,.bool g0,.slice g1 g2 g3,.bool g4,.slice g5 g6 g7],rfl,rdO Oc hw hS,?_⟩;refine cC (cE hw (fun _ w' v w2=>∃d,v= .bool d∧(d=true↔jL f.nodes.length b.1)) (fun O w' r=>HE _ w' _ _ _ _ _ _ _ _ _) ?_);rintro O Pq v1 Pe OM r he hw h_ ⟨d0,rfl,OQ⟩;replace hM:=hM.cF r (cB w) he (mC h_)
  cases d0
  ·have OQ:¬jL f.nodes.length b.1:=fun h=>by have:=OQ.2 h;cases this
   exact rtn hw fun ρe we re=>by show Value.int .i64 _=_;rw[eV,aL (by omega),aL (by rw[hE];decide),if_pos (by rw[OZ,cT hx (show fH f.nodes.length (f.bars.take i) b=6 by rw[fH,aL (fun h=>OQ h.1)]) (by decide)];decide),OZ,cT hx (show fH f.nodes.length (f.bars.take i) b=6 by rw[fH,aL (fun h=>OQ h.1)]) (by decide)]
  replace OQ:=OQ.1 rfl;refine cC (cE hw (fun _ w' v w2=>∃d,v= .bool d∧(d=true↔jL f.nodes.length b.2.1)) (fun O w' r=>HE _ w' _ _ _ _ _ _ _ _ _) ?_);rintro O Pr v2 PB OJ r he hw h_ ⟨d1,rfl,OU⟩;replace hM:=hM.cF r (cB w) he (mC h_)
  cases d1
  ·have OU:¬jL f.nodes.length b.2.1:=fun h=>by have:=OU.2 h;cases this
   exact rtn hw fun ρe we re=>by show Value.int .i64 _=_;rw[eV,aL (by omega),aL (by rw[hE];decide),if_pos (by rw[OZ,cT hx (show fH f.nodes.length (f.bars.take i) b=6 by rw[fH,aL (fun h=>OU h.2)]) (by decide)];decide),OZ,cT hx (show fH f.nodes.length (f.bars.take i) b=6 by rw[fH,aL (fun h=>OU h.2)]) (by decide)]
  replace OU:=OU.1 rfl;refine dM.mk ?_ ?_<;>intro PL
  ·have PL:b.1=b.2.1:=by simpa using PL
   exact rtn hw fun ρe we re=>by show Value.int .i64 _=_;rw[eV,aL (by omega),aL (by rw[hE];decide),if_pos (by rw[OZ,cT hx (show fH f.nodes.length (f.bars.take i) b=3 by rw[fH,if_pos ⟨OQ,OU⟩,if_pos PL]) (by decide)];decide),OZ,cT hx (show fH f.nodes.length (f.bars.take i) b=3 by rw[fH,if_pos ⟨OQ,OU⟩,if_pos PL]) (by decide)]
  have PL:b.1≠b.2.1:=by simpa using PL
  refine yf yQ uV CO rfl rfl (key:=nf (gN b)) (fun _=>rfl) ⟨_,rfl⟩ (fun k hk=>by obtain⟨x,_,rfl⟩:=aU.1 hk;exact⟨_,rfl⟩) (fun O w' r=>(hM.rel r (cB w)).2) (fun O w' d r hd=>?_);replace hw:=hw.tr r.cP;replace hM:=hM.rel r (cB w);replace hd:d=true↔gN b∈(f.bars.take i).map gN:=by
   rw[hd];constructor
   ·intro h;obtain⟨x,h1,h2⟩:=aU.1 h;exact aU.2 ⟨x,h1,qT h2⟩
   ·intro h;obtain⟨x,h1,h2⟩:=aU.1 h;exact aU.2 ⟨x,h1,congrArg nf h2⟩
  cases d
  ·have QH:gN b∉(f.bars.take i).map gN:=fun h=>by have:=hd.2 h;cases this
   refine cC (cE hw (fun _ w' v w2=>v= .int .i64 (rs b.2.2)) (fun O w' r=>(Gv (oS hS r) (hF.v.cH (kS hw r hS)) (eM.zero (S:=S)).v).mono fun _ _ ⟨v2,e1,e2,e3⟩=>⟨v2,e1,e2,by rw[e3,qR]⟩) ?_);rintro O _ _ _ OP r he hw h_ rfl;replace hM:=hM.cF r (cB w) he (mC h_);obtain⟨cf,hcf⟩:∃c,rs b.2.2=c:=⟨_,rfl⟩
   rw[hcf];refine dM.mk ?_ ?_<;>intro PD
   ·have PD:b.2.2<=0:=by have:=aI PD;rw[<-Rat.not_lt,<-oc];omega
    exact rtn hw fun ρe we re=>by show Value.int .i64 _=_;rw[eV,aL (by omega),aL (by rw[hE];decide),if_pos (by rw[OZ,cT hx (show fH f.nodes.length (f.bars.take i) b=2 by rw[fH,if_pos ⟨OQ,OU⟩,aL PL,aL QH,if_pos PD]) (by decide)];decide),OZ,cT hx (show fH f.nodes.length (f.bars.take i) b=2 by rw[fH,if_pos ⟨OQ,OU⟩,aL PL,aL QH,if_pos PD]) (by decide)]
   ·have PD:0<b.2.2:=by have:=aH PD;rw[<-oc];omega
    refine rK yQ uV rfl rfl (key:=nf (gN b)) (fun _=>rfl) rfl ⟨_,rfl⟩ (fun k hk=>by obtain⟨x,_,rfl⟩:=aU.1 hk;exact⟨_,rfl⟩) (fun h=>by
     obtain⟨x,h1,h2⟩:=aU.1 h
     exact QH (aU.2 ⟨x,h1,qT h2⟩)) (fun O w' r=>⟨(hM.rel r (cB w)).2,Rel.not r (cB w) hM.1⟩) (fun O wa wb r hM2 hg OX=>?_)
    replace hw:=(hw.tr r.cP).tr (dm.grown hg (fun x e=>by injection e with e;subst e;exact hM.1.elim (fun h=>h.elim) fun h=>h.1) r.cD);rw[show ((f.bars.take i).map fun b=>nf (gN b))++[nf (gN b)]=(f.bars.take (i+1)).map fun b=>nf (gN b) by rw[List.take_add_one,hx];simp]at hM2;replace hM:xw wb (Cf w OP) gm ((f.bars.take (i+1)).map fun b=>nf (gN b)):=⟨hM.1,hM2⟩
    rw[gW hx (nR.2 ⟨⟨OQ,OU⟩,PL,QH,PD⟩)]at OZ;refine⟨((i+1:Nat):Int),wo,?_⟩;intro ρ3 w6 r3;exact⟨(i+1,w6,_),⟨OF,hw.tr r3.cP,OZ,hM.rel r3 (cB w)⟩,Sub.gn [] r3,by dsimp only;omega⟩
  ·have hd:=hd.1 rfl;exact rtn hw fun ρe we re=>by show Value.int .i64 _=_;rw[eV,aL (by omega),aL (by rw[hE];decide),if_pos (by rw[OZ,cT hx (show fH f.nodes.length (f.bars.take i) b=5 by rw[fH,if_pos ⟨OQ,OU⟩,aL PL,if_pos hd]) (by decide)];decide),OZ,cT hx (show fH f.nodes.length (f.bars.take i) b=5 by rw[fH,if_pos ⟨OQ,OU⟩,aL PL,if_pos hd]) (by decide)]
 have OF:i=f.bars.length:=aQ hi (by simpa using OF);rw[iu (by omega)]at OZ;have Tz:=OZ;refine wP (fun O wa wb r hM0 hg OX=>?_);have PE:=(hw.tr r.cP).tr (dm.grown hg (fun x e=>by cases e) r.cD);have hB:w.heap.size<=wa.heap.size:=r.cD;have hM:xw wb (Cf w ((wa.heap.size,wa.heap.size+1)::iv)) wa.heap.size []:=⟨.inr ⟨hB,_,_,aG,aF _,bZ _⟩,hM0⟩
 generalize (wa.heap.size,wa.heap.size+1)::iv=OJ at*
 obtain⟨gm,hgm⟩:∃gm,wa.heap.size=gm:=⟨_,rfl⟩
 rw[hgm]at hM ⊢;have hw:=PE
 refine⟨Nat×World×Iv,fun z=>⟨[(1,pP 0 0),(9,.o (.v (.map (some gm)))),(115,sV aq f.cV.length cq),(116,iZ f.cV.length),(117,iN z.1)],[(0,.box T.Frame [.v (.slice an f.nodes.length cn),.v (.slice ab f.bars.length cb),.v (.slice aq f.cV.length cq)])],1,z.2.2,z.2.1⟩,fun z=>f.cV.length-z.1,
  fun z=>z.1<=f.cV.length∧dm w.heap.size w z.2.1∧ec (k6 f.nodes.length) [] f.cV=ec (k6 f.nodes.length) (f.cV.take z.1) (f.cV.drop z.1)∧xw z.2.1 (Cf w z.2.2) gm ((f.cV.take z.1).map fun b=>nf (ie b)),?_,?_⟩
 ·intro O w' r3;exact⟨(0,w',OJ),⟨aP _,hw.tr r3.cP,rfl,hM.rel r3 (cB w)⟩,Sub.gn [] r3⟩
 rintro⟨i,w1,iv⟩ ⟨hi,hw,OZ,hM⟩;dsimp only at hi hw OZ hM ⊢;refine dM.mk ?_ ?_<;>intro OF
 ·have OF:i<f.cV.length:=by simpa using OF
  obtain⟨b,hx⟩:∃b,f.cV[i]? =some b:=⟨_,aB OF⟩
  obtain⟨adb,cs,PY,hF,-,Oc⟩:=hf.cV.load (by decide) hx;obtain⟨g0,g1,g2,g3,g4,g5,g6,g7,rfl,hF⟩:=hF;refine⟨adb,PY,by omega,[.int .i64 b.1,.int .i64 b.2.1,.bool g0,.slice g1 g2 g3,.bool g4,.slice g5 g6 g7],rfl,rdO Oc hw hS,?_⟩;refine cC (cE hw (fun _ w' v w2=>∃d,v= .bool d∧(d=true↔jL f.nodes.length b.1)) (fun O w' r=>HE _ w' _ _ _ _ _ _ _ _ _) ?_);rintro O _ _ _ OM r he hw h_ ⟨d0,rfl,OQ⟩;replace hM:=hM.cF r (cB w) he (mC h_)
  cases d0
  ·have OQ:¬jL f.nodes.length b.1:=fun h=>by have:=OQ.2 h;cases this
   exact rtn hw fun ρe we re=>by show Value.int .i64 _=_;rw[eV,aL (by omega),aL (by rw[hE];decide),aL (by rw[Tz];decide),OZ,cT hx (show k6 f.nodes.length (f.cV.take i) b=6 by rw[k6,aL OQ]) (by decide)]
  replace OQ:=OQ.1 rfl;refine dM.mk ?_ ?_<;>intro SR
  ·have SR:=aI SR;exact rtn hw fun ρe we re=>by show Value.int .i64 _=_;rw[eV,aL (by omega),aL (by rw[hE];decide),aL (by rw[Tz];decide),OZ,cT hx (show k6 f.nodes.length (f.cV.take i) b=2 by rw[k6,if_pos OQ,aL (fun h=>by omega)]) (by decide)]
  have SR:=aH SR;refine dM.mk ?_ ?_<;>intro Rh
  ·have Rh:=aI Rh;exact rtn hw fun ρe we re=>by show Value.int .i64 _=_;rw[eV,aL (by omega),aL (by rw[hE];decide),aL (by rw[Tz];decide),OZ,cT hx (show k6 f.nodes.length (f.cV.take i) b=2 by rw[k6,if_pos OQ,aL (fun h=>by omega)]) (by decide)]
  have Rh:=aH Rh;have PS:0<=b.2.1∧b.2.1<=2:=by omega
  refine yf yQ uV CO rfl rfl (key:=nf (ie b)) (fun _=>rfl) ⟨_,rfl⟩ (fun k hk=>by obtain⟨x,_,rfl⟩:=aU.1 hk;exact⟨_,rfl⟩) (fun O w' r=>(hM.rel r (cB w)).2) (fun O w' d r hd=>?_);replace hw:=hw.tr r.cP;replace hM:=hM.rel r (cB w);replace hd:d=true↔ie b∈(f.cV.take i).map ie:=by
   rw[hd];constructor
   ·intro h;obtain⟨x,h1,h2⟩:=aU.1 h;exact aU.2 ⟨x,h1,qT h2⟩
   ·intro h;obtain⟨x,h1,h2⟩:=aU.1 h;exact aU.2 ⟨x,h1,congrArg nf h2⟩
  cases d
  ·have QH:ie b∉(f.cV.take i).map ie:=fun h=>by have:=hd.2 h;cases this
   refine cC (cE hw (fun _ w' v w2=>v= .int .i64 (rs b.2.2)) (fun O w' r=>(Gv (oS hS r) (hF.v.cH (kS hw r hS)) (eM.zero (S:=S)).v).mono fun _ _ ⟨v2,e1,e2,e3⟩=>⟨v2,e1,e2,by rw[e3,qR]⟩) ?_);rintro O _ _ _ OJ r he hw h_ rfl;replace hM:=hM.cF r (cB w) he (mC h_);obtain⟨cf,hcf⟩:∃c,rs b.2.2=c:=⟨_,rfl⟩
   rw[hcf];refine dM.mk ?_ ?_<;>intro PD
   ·have PD:b.2.2<0:=by have:=aI PD;rw[<-lu];omega
    exact rtn hw fun ρe we re=>by show Value.int .i64 _=_;rw[eV,aL (by omega),aL (by rw[hE];decide),aL (by rw[Tz];decide),OZ,cT hx (show k6 f.nodes.length (f.cV.take i) b=2 by rw[k6,if_pos OQ,if_pos PS,aL QH,if_pos PD]) (by decide)]
   ·have PD:0<=b.2.2:=by have:=aH PD;rw[<-Rat.not_lt,<-lu];omega
    refine rK yQ uV rfl rfl (key:=nf (ie b)) (fun _=>rfl) rfl ⟨_,rfl⟩ (fun k hk=>by obtain⟨x,_,rfl⟩:=aU.1 hk;exact⟨_,rfl⟩) (fun h=>by
     obtain⟨x,h1,h2⟩:=aU.1 h
     exact QH (aU.2 ⟨x,h1,qT h2⟩)) (fun O w' r=>⟨(hM.rel r (cB w)).2,Rel.not r (cB w) hM.1⟩) (fun O wa wb r hM2 hg OX=>?_)
    replace hw:=(hw.tr r.cP).tr (dm.grown hg (fun x e=>by injection e with e;subst e;exact hM.1.elim (fun h=>h.elim) fun h=>h.1) r.cD);rw[show ((f.cV.take i).map fun b=>nf (ie b))++[nf (ie b)]=(f.cV.take (i+1)).map fun b=>nf (ie b) by rw[List.take_add_one,hx];simp]at hM2;replace hM:xw wb (Cf w OJ) gm ((f.cV.take (i+1)).map fun b=>nf (ie b)):=⟨hM.1,hM2⟩
    rw[gW hx (qp.2 ⟨OQ,PS,QH,PD⟩)]at OZ;refine⟨((i+1:Nat):Int),wo,?_⟩;intro ρ3 w6 r3;exact⟨(i+1,w6,_),⟨OF,hw.tr r3.cP,OZ,hM.rel r3 (cB w)⟩,Sub.gn [] r3,by dsimp only;omega⟩
  ·have hd:=hd.1 rfl;exact rtn hw fun ρe we re=>by show Value.int .i64 _=_;rw[eV,aL (by omega),aL (by rw[hE];decide),aL (by rw[Tz];decide),OZ,cT hx (show k6 f.nodes.length (f.cV.take i) b=5 by rw[k6,if_pos OQ,if_pos PS,if_pos hd]) (by decide)]
 have OF:i=f.cV.length:=aQ hi (by simpa using OF);rw[iu (by omega)]at OZ;exact rtn hw fun ρe we re=>by show Value.int .i64 _=_;rw[eV,aL (by omega),aL (by rw[hE];decide),aL (by rw[Tz];decide),OZ]
theorem jm(hS:Old S w)(hf:dS w S vn vb vs f)(hl:ff w S vl l):di PG N.lY #[.agg #[vn,vb,vs],vl] w (dw w fun v' _=>v'= .int .i64 (jI f l)):=by
 have hw:=bR w;obtain⟨an,cn,ab,cb,aq,cq,rfl,rfl,rfl,Q6,Qm,RH⟩:=hf.shape;obtain⟨al,cl,rfl,PV,Ql⟩:=hl.shape;refine pF (by simp) ?_;refine cC (cE hw (fun _ w' v w2=>v= .int .i64 (eV f)) (fun O w' r=>FY (oS hS r) (hf.cH (kS hw r hS))) ?_);rintro O _ _ _ OM r he hw h_ rfl;obtain⟨c,hc⟩:∃c,eV f=c:=⟨_,rfl⟩
 rw[hc];refine dM.mk ?_ ?_<;>intro hd
 ·have hd:c≠0:=by simpa using hd
  exact rtn hw fun ρe we re=>by show Value.int .i64 _=_;rw[jI,if_pos (by rw[hc];exact hd),hc]
 have hd:c=0:=by simpa using hd
 refine cC (cE hw (fun _ w' v w2=>v= .int .i64 (uU f.nodes.length l)) (fun O w' r=>BN (oS hS r) (hl.cH (kS hw r hS))) ?_);rintro O _ _ _ OJ r he hw h_ rfl;exact rtn hw fun ρe we re=>by show Value.int .i64 _=_;rw[jI,aL (by rw[hc,hd];decide)]
structure Calm(f:eh)(h:Nat):Prop where
 ok:rf f
 c0:0<f.cols
 b2:uQ (cO f) f.cols h
 a2:Ht (dX (cO f) f.cols).1 h
 st:kJ (cO f) f.cols=[]
 hh:3*h<=90000
structure LF(f:eh)(l:List Ld)(h:Nat)(x:List Rat):Prop where
 ok:rh f.nodes.length l
 b1:uQ (j5 (cO f) (cX (eY f l) (-1))) (f.cols+1) h
 x:jK (cO f) (cX (eY f l) (-1)) f.cols=some x
theorem fz(f:eh)(l:List Ld):(eY f l).length=3*f.nodes.length:=by rw[eY,dN,aJ,kC]
theorem iD(a b:List Rat):(eO a b).length=a.length:=List.length_mapIdx ..
theorem HG(M:List (List Rat))(n:Nat):fg M.length (fa M n):=fun r hr=>by
 obtain⟨k,_,rfl⟩:=aU.1 hr;exact aJ ..
theorem HH(hS:Old S w)(hf:dS w S vn vb vs f)(hl:ff w S vl l)(hc:Calm f h)(hB:LF f l h x)(Oh:jI f l=0):
  di PG N.lX #[.agg #[vn,vb,vs],vl] w (dw w fun v' w2=>∃vx,v'= .tuple #[vx,.int .i64 0]∧cJ w2 (Nf w w2) vx x):=by
 have hw:=bR w;obtain⟨an,cn,ab,cb,aq,cq,rfl,rfl,rfl,Q6,Qm,RH⟩:=hf.shape;obtain⟨al,cl,rfl,PV,Ql⟩:=hl.shape;obtain⟨R1,Rn,Ro⟩:=And.intro hc.ok.n (And.intro hc.ok.b hc.ok.s);have PT:f.cols=f.bars.length+f.cV.length:=rfl;have Qe:=ml f;refine mf (by simp) ?_;refine cC (cE hw (fun _ w' v w2=>v= .int .i64 0) (fun O w' r=>(jm (oS hS r) (hf.cH (kS hw r hS)) (hl.cH (kS hw r hS))).mono fun _ _ ⟨v2,e1,e2,e3⟩=>⟨v2,e1,e2,by rw[e3,Oh]⟩) ?_);rintro O _ _ _ OM r he hw h_ rfl;refine cK hτ dZ [.x 0,.x 1,.x 2,.x 3,.x 4,.x 5,.x 6,.x 7,.x 8,.x 9] (by kernel_rfl) (by kernel_rfl) ?_;refine cE hw (fun _ w' v w2=>dP w2 FF w'.heap.size [(w'.heap.size,w2.heap.size)] v (3*f.nodes.length) (eY f l)∧∀q∈eY f l,rl q<=1) (fun O w' r=>qu (oS hS r) (hl.cH (kS hw r hS)) R1 hB.ok rfl rfl) ?_;rintro O _ v2 _ OJ r he hw h_ ⟨hn,TT⟩;have hP:=hn.dA (S:=FF) r.cD (mN h_);obtain⟨ap,cp,rfl,WC⟩:=hP.row.form
 refine cE hw (fun _ w' v w2=>∃vx,v= .tuple #[vx,.bool true]∧dP w2 FF w'.heap.size [(w'.heap.size,w2.heap.size)] vx f.cols x) (fun O w' r=>(AW (S:=fun g=>S g∨Cf w OJ g) (p:=eY f l) (h:=h) (fun g hg=>hg.elim (oS hS r g) (Rel.old r (cB w) g)) ((hf.cH (kS hw r hS)).cI fun g hg=>.inl hg) hc.ok (cJ.cI ((hP.rel r (cB w)).c) fun g hg=>.inr hg) (fz f l) (fun q hq=>by have:=TT q hq;omega) hc.c0 hB.b1 hc.b2 hc.a2 hc.st hc.hh).mono fun _ _ ⟨v2,e1,e2,e3⟩=>⟨v2,e1,e2,by
  rcases e3 with⟨k1,_⟩|⟨x2,vx,k1,k2,k3⟩
  ·rw[hB.x]at k1;cases k1
  ·rw[hB.x]at k1;injection k1 with k1;subst k1;exact⟨vx,k2,k3⟩⟩) ?_
 rintro O _ _ _ OP r he hw h_ ⟨vx,rfl,hn⟩;have hX:=hn.dA (S:=FF) r.cD (mN h_);obtain⟨ax,cx,rfl,Sl⟩:=hX.row.form;exact rtn hw fun ρe we re=>⟨_,rfl,cJ.out hX.c re (cB w)⟩
theorem JH(hS:Old S w)(hf:dS w S vn vb vs f)(hc:Calm f h)(Oh:eV f=0)(hnr0:(dX (cO f) f.cols).1.length<=f.cols):
  di PG N.rP #[.agg #[vn,vb,vs]] w (dw w fun v' _=>v'= .tuple #[.agg #[.int .i64 (dX (cO f) f.cols).1.length,.int .i64 ((f.cols:Int)-(dX (cO f) f.cols).1.length),.int .i64 ((3*f.nodes.length:Nat)-(dX (cO f) f.cols).1.length)],.int .i64 0]):=by
 have hw:=bR w;obtain⟨an,cn,ab,cb,aq,cq,rfl,rfl,rfl,Q6,Qm,RH⟩:=hf.shape;obtain⟨R1,Rn,Ro⟩:=And.intro hc.ok.n (And.intro hc.ok.b hc.ok.s);have PT:f.cols=f.bars.length+f.cV.length:=rfl;have Qe:=ml f;refine vP (by simp) ?_;refine cC (cE hw (fun _ w' v w2=>v= .int .i64 0) (fun O w' r=>(FY (oS hS r) (hf.cH (kS hw r hS))).mono fun _ _ ⟨v2,e1,e2,e3⟩=>⟨v2,e1,e2,by rw[e3,Oh]⟩) ?_);rintro O Pq v1 Pe OM r he hw h_ rfl;refine cC (cE hw (fun _ w' v w2=>(∃vr,v= .agg #[vr,.int .i64 f.cols]∧cQ w2 (Nf w' w2) vr (cO f))∧fg f.cols (cO f)∧Ht (cO f) 2) (fun O w' r=>ll (S:=S) (oS hS r) (hf.cH (kS hw r hS)) hc.ok) ?_);rintro O _ _ _ ivt r he hw h_ ⟨⟨vr,rfl,k1⟩,hlen,hht⟩;have hM:=cQ.dA (S:=FF) k1 r.cD (mN h_);obtain⟨am,cm,rfl,Rb,RD⟩:=dD.shape hM;have hmt:=Qe;have hhc:=hc.c0;refine cC (cE hw (fun _ w' v w2=>∃vr vp vf,v= .agg #[vr,.int .i64 f.cols,vp,vf]∧cQ w2 (Nw (Cf w ivt) w' w2) vr (dX (cO f) f.cols).1) (fun O w' r=>(qt (C:=Cf w ivt) (S:=Cf w ivt) (h:=h) (Rel.old r (cB w)) (Rel.old r (cB w)) (cQ.rel hM r (cB w)) hlen hc.c0 (by omega) (by omega) (aF _) hc.b2 hc.hh).mono fun _ _ ⟨v2,e1,e2,vr,vp,vf,k1,k2,_,_⟩=>⟨v2,e1,e2,vr,vp,vf,k1,k2⟩) ?_);rintro O _ _ _ OJ r he hw h_ ⟨vr2,vp2,vf2,rfl,hn⟩;replace hM:=cQ.cF hM r (cB w) he (mC h_);obtain⟨ar,cr,rfl,-,-⟩:=dD.shape hn;obtain⟨nr,hnr⟩:∃nr,(dX (cO f) f.cols).1.length=nr:=⟨_,rfl⟩
 rw[hnr];refine⟨(f.cols:Int)-nr,wo,((cO f).length:Int)-nr,wo,?_⟩;exact rtn hw fun ρe we re=>by rw[Qe];rfl
set_option maxHeartbeats 1000000 in
theorem D9{u:List Rat}(hS:Old S w)(hf:dS w S vn vb vs f)(hl:ff w S vl l)(hc:Calm f h)(hB:LF f l h x)(Oh:jI f l=0)
  (hrank:(dX (cO f) f.cols).1.length=3*f.nodes.length) (PO:x.length=f.cols) (UA:∀q∈x,rl q<=100000) (heq:∀q∈eO x (cW f),rl q<=100000)
  (hB3:uQ (j5 (fa (cO f) f.cols) (cX (eO x (cW f)) (-1))) (3*f.nodes.length+1) h) (hu:jK (fa (cO f) f.cols) (cX (eO x (cW f)) (-1)) (3*f.nodes.length)=some u):
  di PG N.nS #[.agg #[vn,vb,vs],vl] w (dw w fun v' w2=>∃vu vx,v'= .tuple #[vu,vx,.int .i64 0]∧cJ w2 (Nf w w2) vu u∧cJ w2 (Nf w w2) vx x):=by
 have hw:=bR w;obtain⟨an,cn,ab,cb,aq,cq,rfl,rfl,rfl,Q6,Qm,RH⟩:=hf.shape;obtain⟨al,cl,rfl,PV,Ql⟩:=hl.shape;obtain⟨R1,Rn,Ro⟩:=And.intro hc.ok.n (And.intro hc.ok.b hc.ok.s);have PT:f.cols=f.bars.length+f.cV.length:=rfl;have Qe:=ml f;refine rE (by simp) ?_;refine cC (cE hw (fun _ w' v w2=>v= .int .i64 0) (fun O w' r=>(jm (oS hS r) (hf.cH (kS hw r hS)) (hl.cH (kS hw r hS))).mono fun _ _ ⟨v2,e1,e2,e3⟩=>⟨v2,e1,e2,by rw[e3,Oh]⟩) ?_);rintro O Pq v1 Pe OM r he hw h_ rfl;refine cC (cE hw (fun _ w' v w2=>(∃vr,v= .agg #[vr,.int .i64 f.cols]∧cQ w2 (Nf w' w2) vr (cO f))∧fg f.cols (cO f)∧Ht (cO f) 2) (fun O w' r=>ll (S:=S) (oS hS r) (hf.cH (kS hw r hS)) hc.ok) ?_);rintro O _ _ _ ivt r he hw h_ ⟨⟨vr,rfl,k1⟩,hlen,hht⟩;have hM:=cQ.dA (S:=FF) k1 r.cD (mN h_);obtain⟨am,cm,rfl,Rb,RD⟩:=dD.shape hM;have hmt:=Qe;have hhc:=hc.c0;refine cK hτ dZ [.x 0,.x 1,.x 2,.x 7,.x 8,.x 9,.x 3,.x 4,.x 5,.x 6,.x 10] (by kernel_rfl) (by kernel_rfl) ?_;refine cE hw (fun _ w' v w2=>∃vr vp vf,v= .agg #[vr,.int .i64 f.cols,vp,vf]∧cQ w2 (Nw (Cf w ivt) w' w2) vr (dX (cO f) f.cols).1) (fun O w' r=>(qt (C:=Cf w ivt) (S:=Cf w ivt) (h:=h) (Rel.old r (cB w)) (Rel.old r (cB w)) (cQ.rel hM r (cB w)) hlen hc.c0 (by omega) (by omega) (aF _) hc.b2 hc.hh).mono fun _ _ ⟨v2,e1,e2,vr,vp,vf,k1,k2,_,_⟩=>⟨v2,e1,e2,vr,vp,vf,k1,k2⟩) ?_;rintro O _ v2 _ OJ r he hw h_ ⟨vr2,vp2,vf2,rfl,hn⟩;replace hM:=cQ.cF hM r (cB w) he (mC h_);obtain⟨ar,cr,rfl,-,-⟩:=dD.shape hn;obtain⟨nr,hnr⟩:∃nr,(dX (cO f) f.cols).1.length=nr:=⟨_,rfl⟩
 rw[hnr];have hnr2:(nr:Int)=(cO f).length:=by rw[<-hnr,hrank,Qe]
 refine dM.mk (fun h1=>absurd (aI h1) (by omega)) (fun _=>?_);refine cK hτ dZ [.x 0,.x 1,.x 2,.x 3,.x 4,.x 5,.x 6,.x 7,.x 8,.x 9] (by kernel_rfl) (by kernel_rfl) ?_;refine cE hw (fun _ w' v w2=>dP w2 FF w'.heap.size [(w'.heap.size,w2.heap.size)] v (3*f.nodes.length) (eY f l)∧∀q∈eY f l,rl q<=1) (fun O w' r=>qu (oS hS r) (hl.cH (kS hw r hS)) R1 hB.ok rfl rfl) ?_;rintro O _ _ _ OP r he hw h_ ⟨hn,TT⟩;replace hM:=cQ.cF hM r (cB w) he (mC h_);have hP:=hn.dA (S:=FF) r.cD (mN h_);obtain⟨ap,cp,rfl,WC⟩:=hP.row.form
 refine cE hw (fun _ w' v w2=>∃vx,v= .tuple #[vx,.bool true]∧dP w2 FF w'.heap.size [(w'.heap.size,w2.heap.size)] vx f.cols x) (fun O w' r=>(AW (S:=fun g=>S g∨Cf w OP g) (p:=eY f l) (h:=h) (fun g hg=>hg.elim (oS hS r g) (Rel.old r (cB w) g)) ((hf.cH (kS hw r hS)).cI fun g hg=>.inl hg) hc.ok (cJ.cI ((hP.rel r (cB w)).c) fun g hg=>.inr hg) (fz f l) (fun q hq=>by have:=TT q hq;omega) hc.c0 hB.b1 hc.b2 hc.a2 hc.st hc.hh).mono fun _ _ ⟨v2,e1,e2,e3⟩=>⟨v2,e1,e2,by
  rcases e3 with⟨k1,_⟩|⟨x2,vx,k1,k2,k3⟩
  ·rw[hB.x]at k1;cases k1
  ·rw[hB.x]at k1;injection k1 with k1;subst k1;exact⟨vx,k2,k3⟩⟩) ?_
 rintro O _ _ _ OR r he hw h_ ⟨vx,rfl,hn⟩;replace hM:=cQ.cF hM r (cB w) he (mC h_);have hX:=hn.dA (S:=FF) r.cD (mN h_);obtain⟨ax,cx,rfl,Sl⟩:=hX.row.form;refine cK hτ dZ [.x 0,.x 2,.x 3,.x 1,.x 4,.x 5,.x 6,.x 7,.x 8,.x 9,.x 10,.x 11,.x 12,.x 13] (by kernel_rfl) (by kernel_rfl) ?_;refine cM (Φ:=fun _ w' v w2=>∃vr,v= .agg #[vr,.int .i64 (cO f).length]∧cQ w2 (Nw (Cf w OR) w' w2) vr (fa (cO f) f.cols)) (fun O w' r=>BL (C:=Cf w OR) (S:=Cf w OR) (Rel.old r (cB w)) (Rel.old r (cB w)) (cQ.rel hM r (cB w)) hlen (by omega) (by omega)) ?_;rintro O RL v5 RI r he hb ⟨vt,rfl,hn⟩;replace hw:=hw.tr hb;replace hX:=hX.cF (iv':=(RL.heap.size,RI.heap.size)::OR) r (cB w) he fun x hx=>List.mem_cons_of_mem _ hx;have hT:=cQ.old hn r.cD;generalize (RL.heap.size,RI.heap.size)::OR=Ou at*
 obtain⟨at_,ct,rfl,-,-⟩:=dD.shape hT;refine cM (Φ:=fun _ w' v w2=>cR w2 (Nw (Cv S w.heap.size Ou) w' w2) v (cW f)) (fun O w' r=>qv (S:=Cv S w.heap.size Ou) (Rel.old r hS) (dS.cI (hf.cH (kS hw r hS)) fun g hg=>.inl hg) hc.ok) ?_;rintro O Qx v6 RA r he hb hn;replace hw:=hw.tr hb;replace hX:=hX.cF (iv':=(Qx.heap.size,RA.heap.size)::Ou) r (cB w) he fun x hx=>List.mem_cons_of_mem _ hx;replace hT:=cQ.cF (iv':=(Qx.heap.size,RA.heap.size)::Ou) hT r (cB w) he fun x hx=>List.mem_cons_of_mem _ hx;have hF:=cR.old hn r.cD;generalize (Qx.heap.size,RA.heap.size)::Ou=Q7 at*
 obtain⟨afl,cfl,rfl,-,-⟩:=cY.shape hF;refine cE hw (fun _ w' v w2=>dP w2 FF w'.heap.size [(w'.heap.size,w2.heap.size)] v x.length (eO x (cW f))) (fun O w' r=>D2 (S:=Cv S w.heap.size Q7) (Rel.old r hS) (cR.cI (cJ.l ((hX.rel r (cB w)).c) fun q hq=>UA q hq) fun g hg=>ui hg) (cR.rel hF r hS) (by rw[PO,lF];exact aF _) (by omega)) ?_;rintro O _ _ _ R4 r he hw h_ hn;replace hX:=hX.cF r (cB w) he (mC h_);replace hT:=cQ.cF hT r (cB w) he (mC h_);have hE:=hn.dA (S:=FF) r.cD (mN h_);obtain⟨ae,ce,rfl,hce⟩:=hE.row.form;refine cE hw (fun _ w' v w2=>cU w2 (Nf w' w2) v ((-1:Int):Rat)) (fun O w' r=>k5 (-1) w' (by decide) (by decide)) ?_;rintro O _ _ _ QZ r he hw h_ hn;replace hX:=hX.cF r (cB w) he (mC h_);replace hT:=cQ.cF hT r (cB w) he (mC h_);replace hE:=hE.cF r (cB w) he (mC h_);have hd:=hn.dA (S:=FF) r.cD (mN h_);obtain⟨A0,A1,A2,A3,A4,A5,A6,A7,rfl⟩:=hd.shape;refine cE hw (fun _ w' v w2=>dP w2 FF w'.heap.size [(w'.heap.size,w2.heap.size)] v (eO x (cW f)).length (cX (eO x (cW f)) (-1))) (fun O w' r=>vv (S:=Cf w QZ) (Rel.old r (cB w)) (cJ.l ((hE.rel r (cB w)).c) heq) ((hd.rel r (cB w)).l (by decide)) (by rw[iD];omega)) ?_;rintro O _ _ _ Qn r he hw h_ hn;replace hX:=hX.cF r (cB w) he (mC h_);replace hT:=cQ.cF hT r (cB w) he (mC h_);have hG:=hn.dA (S:=FF) r.cD (mN h_);obtain⟨ag,cg,rfl,hcg⟩:=hG.row.form
 refine cM (Φ:=fun _ w' v w2=>∃vu,v= .tuple #[vu,.bool true]∧dP w2 (Cf w Qn) w'.heap.size [(w'.heap.size,w2.heap.size)] vu (cO f).length u) (fun O w' r=>(uS (C:=Cf w Qn) (S:=Cf w Qn) (h:=h) (Rel.old r (cB w)) (Rel.old r (cB w)) (cQ.rel hT r (cB w)) ((hG.rel r (cB w)).c) (by rw[cX,aJ,iD,kM];exact PO) (HG _ _) (by omega) (by rw[kM];omega) (by rw[Qe];exact hB3) hc.hh).mono fun _ _ ⟨v2,e1,e2,e3⟩=>⟨v2,e1,e2,by
  rcases e3 with⟨k1,_⟩|⟨x2,vx,k1,k2,k3⟩
  ·rw[Qe,hu]at k1;cases k1
  ·rw[Qe,hu]at k1;injection k1 with k1;subst k1;exact⟨vx,k2,k3⟩⟩) ?_
 rintro O QS v10 QT r he hb ⟨vu,rfl,hn⟩;replace hw:=hw.tr hb;replace hX:=hX.cF (iv':=(QS.heap.size,QT.heap.size)::Qn) r (cB w) he fun x hx=>List.mem_cons_of_mem _ hx;have hU:=hn.Np r.cD;generalize (QS.heap.size,QT.heap.size)::Qn=Qi at*
 obtain⟨au,cu,rfl,hcu⟩:=hU.row.form;exact rtn hw fun ρe we re=>⟨_,_,rfl,cJ.out hU.c re (cB w),cJ.out hX.c re (cB w)⟩
end Go.Ex
