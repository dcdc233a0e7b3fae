/- Texts X139 to X151: lemmas, each with its conditions. -/
import Derived.Test.YtgkpbdkechfgmaaGreatP13
namespace Go.Ex
open Go Go.Sx Go.Proofs
theorem aAf{α:Type}{rv:List α}{a b:α}{i m:Nat}(hl:rv.length=i)(h:i<m):(rv++List.replicate (m-i) b).take i++[a]++(rv++List.replicate (m-i) b).drop (i+1)=(rv++[a])++List.replicate (m-(i+1)) b:=by
 rw[List.take_left' hl,List.drop_append,hl,List.drop_of_length_le (by omega),List.nil_append,List.drop_replicate];congr 2;omega
end Go.Ex
namespace Go.Sx
open Go Go.Ex Go.Proofs
variable{cs:List Value}{O:Nat->Sx.eE}
theorem Rel.aBz{H:Hp}{nx:Nat}{iv:Iv}{B:Nat}{w w':World}(r:Rel H nx iv B w O w'){id t m sz:Nat}(h:dM H id=some (.arr t cs))(hm:cs.length=m*sz)(SP:m<=maxLen)(h1:∀u∈cs,u.oneCell'=true):
  jY w' (fun g=>B<=g∧g<w'.heap.size) sz (.slice (some ⟨(O id).g,0,none⟩) m m) cs m:=by
 have hl:=r.low id _ h (r.fits h).1;refine⟨SP,hm,h1,_,m,rfl,Nat.le_refl _,fun j u hu=>⟨_,rfl,hl,?_⟩⟩;rw[dP,cell_of (r.arr id _ _ h),aW];exact hu
end Go.Sx
namespace Go.Ex
open Go Go.Sx Go.Proofs
variable{d:Int}{b s:Int×Int×Rat}{M:List (List Int)}{l:List Int}{c r:Nat}{S:Nat->Prop}{f:eY}
theorem Eu:(wJ M r c d).length=M.length:=bW ..
theorem Mz:(putAt M r c d).length=M.length:=bW ..
def JC(M:List (List Int))(t:Int):Prop:=∀l∈M,∀z∈l,-t<=z∧z<=t
theorem JC.set{t t2:Int}{z:Int}(h:JC M t)(ht:t<=t2)(hl:M[r]? =some l)(hz: -t2<=z∧z<=t2):JC (M.set r (l.set c z)) t2:=fun x hx y hy=>by
 rcases bA hx with hx|rfl
 ·have:=h x hx y hy;omega
 ·rcases bA hy with hy|rfl
  ·have:=h l (aD hl) y hy;omega
  ·exact hz
theorem I2(f:eY):∀i,(di f i).length=3*f.nodes.length
 |0=>aU ..
 |i+1=>by
  have h:=I2 f i;have key:∀k,(e9 f (di f i) i k).length=3*f.nodes.length:=fun k=>by
   induction k with
   |zero=>exact h
   |succ k ih=>rw[e9,Eu,Eu];exact ih
  exact key 3
theorem pG(f:eY):∀i,(fT f i).length=3*f.nodes.length
 |0=>I2 f _
 |i+1=>by rw[fT,Mz];exact pG f i
theorem aAg{i k ka kb:Nat}{za zb:Int}{la lb:List Int}(hb:f.bars[i]? =some b)(ea:b.1=ka)(eb:b.2.1=kb)(hd:(j2 f b).getD k 0=d)
  (Qa:(e9 f M i k)[3*ka+k]? =some la) (Ww:la[i]? =some za) (PA:((e9 f M i k).set (3*ka+k) (la.set i (za+d)))[3*kb+k]? =some lb) (Ud:lb[i]? =some zb):
  ((e9 f M i k).set (3*ka+k) (la.set i (za+d))).set (3*kb+k) (lb.set i (zb-d))=e9 f M i (k+1):=by
 have h1:f.bars.getD i (0,0,0)=b:=by rw[List.getD,hb];rfl
 have e1:(3*b.1+(k:Int)).toNat=3*ka+k:=by rw[ea];omega
 have e2:(3*b.2.1+(k:Int)).toNat=3*kb+k:=by rw[eb];omega
 have ha:wJ (e9 f M i k) (3*ka+k) i d=(e9 f M i k).set (3*ka+k) (la.set i (za+d)):=by
  rw[wJ,show(e9 f M i k).getD (3*ka+k) []=la by rw[List.getD,Qa];rfl,show la.getD i 0=za by rw[List.getD,Ww];rfl]
 rw[e9];simp only[h1,hd,e1,e2,ha]
 rw[wJ,show((e9 f M i k).set (3*ka+k) (la.set i (za+d))).getD (3*kb+k) []=lb by rw[List.getD,PA];rfl,show lb.getD i 0=zb by rw[List.getD,Ud];rfl,Int.sub_eq_add_neg]
theorem I4{i ks:Nat}(hs:f.cV[i]? =some s)(es:3*s.1+s.2.1=ks)(hl:(fT f i)[ks]? =some l):(fT f i).set ks (l.set (f.bars.length+i) 1)=fT f (i+1):=by
 rw[fT,putAt];simp only[show f.cV.getD i (0,0,0)=s by rw[List.getD,hs];rfl,es,aF,show(fT f i).getD ks []=l by rw[List.getD,hl];rfl]
set_option maxHeartbeats 2000000 in
theorem NA{w:World}{vn vb vs:Value}(hS:Old S w)(hf:dX w S vn vb vs f)(Oc:xc f):
  eA PG N.sC #[.agg #[vn,vb,vs]] w (eL w fun v' w2=>o7 w2 (Nf w w2) v' (iS f)∧JC (iS f) 800000000∧(∀l∈iS f,l.length=f.cols)∧(iS f).length=3*f.nodes.length):=by
 have hw:=bR w;obtain⟨an,cn,ab,cb,aq,cq,rfl,rfl,rfl,RN,RJ,SF⟩:=hf.shape;obtain⟨VN,Tn,TG⟩:=And.intro Oc.n (And.intro Oc.b Oc.s);refine xQ (by simp) ?_;refine⟨((3*f.nodes.length:Nat):Int),wo,?_⟩;obtain⟨m,hm⟩:∃m,3*f.nodes.length=m:=⟨_,rfl⟩
 rw[hm]
 refine⟨m,m,rfl,rfl,Nat.le_refl _,by omega,by omega,Nat×List Value×World×Iv,fun z=>⟨[(1,pP 0 0),(3,.o (.s 1 0 m m)),(17,iZ m),(18,iN z.1)],[(1,.arr T.Lint (z.2.1++List.replicate (m-z.1) (.slice none 0 0))),(0,.box T.Frame [.v (.slice an f.nodes.length cn),.v (.slice ab f.bars.length cb),.v (.slice aq f.cV.length cq)])],2,z.2.2.2,z.2.2.1⟩,fun z=>m-z.1,
  fun z=>z.1<=m∧z.2.1.length=z.1∧dg w.heap.size w z.2.2.1∧ig z.2.2.1 w.heap.size z.2.2.2 z.2.1 f.cols (List.replicate z.1 (List.replicate f.cols 0)),?_,?_⟩
 ·intro O w' r3;exact⟨(0,[],w',[]),⟨aO _,rfl,hw.tr r3.cS,ig.nil⟩,Sub.gn [] r3⟩
 rintro⟨i,rv,w1,iv⟩ ⟨hi,Ot,hw,hE⟩;dsimp only at hi Ot hw hE ⊢;refine dG.mk ?_ ?_<;>intro OW
 ·have OW:i<m:=by simpa using OW
  refine⟨((f.cols:Nat):Int),by rw[wrap64]<;>first|rfl|omega,f.cols,f.cols,rfl,rfl,Nat.le_refl _,by unfold eY.cols;omega,by unfold eY.cols;omega,by omega,?_⟩;refine MD hτ (id:=1) (id2:=2) (tH:=[(1,.arr T.Lint (rv++List.replicate (m-i) (.slice none 0 0))),(0,.box T.Frame [.v (.slice an f.nodes.length cn),.v (.slice ab f.bars.length cb),.v (.slice aq f.cV.length cq)])]) rfl rfl (by decide) rfl ⟨rfl,rfl,trivial⟩ rfl (fun O w' r=>?_);have hn:=(r.fits (id:=2) rfl).1;have OX:w'.ownsRow 0 T.int 1 (.slice (some ⟨(O 2).g,0,none⟩) f.cols f.cols) f.cols ((List.replicate f.cols (0:Int)).map fun z=>.int .i64 z):=
   ⟨by simp,.inr ⟨(O 2).g,f.cols,(List.replicate f.cols (Value.int .i64 0)).toArray,rfl,aO _,r.arr 2 _ _ rfl,Nat.le_refl _,by unfold eY.cols maxLen;omega,by simp,by simp⟩⟩
  have PE:=(hE.rel r).push (gx:=(O 2).g) (l:=List.replicate f.cols 0) (fun g hg e=>Rel.not r (dN _) hg 2 _ rfl hn e.symm) (r.low 2 _ rfl hn).1 (by simp) OX;rw[<-List.replicate_succ']at PE;have PI:=hw.tr r.cS;generalize (O 2).g=gx at*
  generalize (gx,gx+1)::iv=Oa at*
  refine⟨by simp[Ot];omega,(rv++[.slice (some ⟨gx,0,none⟩) f.cols f.cols])++List.replicate (m-(i+1)) (.slice none 0 0),?_,?_⟩
  ·rw[aF,aY,aW];exact aAf Ot OW
  refine⟨((i+1:Nat):Int),wo,?_⟩;intro ρ3 w3 r3;exact⟨(i+1,rv++[.slice (some ⟨gx,0,none⟩) f.cols f.cols],w3,_),⟨OW,by simp[Ot],PI.tr r3.cS,PE.rel r3⟩,Sub.gn [] r3,by dsimp only;omega⟩
 have OW:i=m:=aQ hi (by simpa using OW);subst OW;have hE0:ig w1 w.heap.size iv rv f.cols (di f 0):=by rw[di,hm];exact hE
 have XT:JC (di f 0) 0:=fun l hl z hz=>by
  rw[di]at hl;rw[ah hl]at hz;rw[ah hz];exact⟨Int.le_refl _,Int.le_refl _⟩
 refine⟨Nat×World×Iv,fun z=>⟨[(1,pP 0 0),(3,.o (.s 1 0 i i)),(34,sV ab f.bars.length cb),(35,iZ f.bars.length),(36,iN z.1)],[(1,.arr T.Lint rv),(0,.box T.Frame [.v (.slice an f.nodes.length cn),.v (.slice ab f.bars.length cb),.v (.slice aq f.cV.length cq)])],2,z.2.2,z.2.1⟩,fun z=>f.bars.length-z.1,
  fun z=>z.1<=f.bars.length∧dg w.heap.size w z.2.1∧ig z.2.1 w.heap.size z.2.2 rv f.cols (di f z.1)∧JC (di f z.1) (12000000*z.1),?_,?_⟩
 ·intro O w' r3;exact⟨(0,w',_),⟨aO _,hw.tr r3.cS,hE0.rel r3,XT⟩,Sub.gn [] r3 ⟨by simp;rfl,rfl,trivial⟩⟩
 rintro⟨j,w2,iv⟩ ⟨hj,hw,hE,PN⟩;dsimp only at hj hw hE PN ⊢;refine dG.mk ?_ ?_<;>intro PQ
 ·have PQ:j<f.bars.length:=by simpa using PQ
  obtain⟨b,hb⟩:∃b,f.bars[j]? =some b:=⟨_,aB PQ⟩
  obtain⟨hA,hB⟩:=Oc.Hq b (aD hb);obtain⟨ka,pa,ea,US,-,Vh,⟨_,_⟩,⟨_,_⟩,⟨_,_⟩⟩:=Oc.node hA.1 hA.2;obtain⟨kb,pb,eb,OY,-,S8,⟨_,_⟩,⟨_,_⟩,⟨_,_⟩⟩:=Oc.node hB.1 hB.2;obtain⟨adb,cs,QA,hF,-,PA⟩:=hf.bars.load (by decide) hb;obtain⟨g0,g1,g2,g3,g4,g5,g6,g7,rfl,hF⟩:=hF;refine⟨adb,QA,by omega,[.int .i64 b.1,.int .i64 b.2.1,.bool g0,.slice g1 g2 g3,.bool g4,.slice g5 g6 g7],rfl,rdO PA hw hS,?_⟩;refine cH (cP (Φ:=fun _ w' v w2=>v= .agg #[.int .i64 ((f.node b.2.1).1-(f.node b.1).1),.int .i64 ((f.node b.2.1).2.1-(f.node b.1).2.1),.int .i64 ((f.node b.2.1).2.2-(f.node b.1).2.2)]) (fun O w' r=>uH (S:=S) (oS hS r) (hf.cJ (kS hw r hS)).nodes Oc hA hB) ?_);rintro O Pa v1 PJ r he Oh rfl;replace hw:=hw.tr Oh;replace hE:=hE.cK (iv':=(Pa.heap.size,PJ.heap.size)::iv) r he fun x hx=>aC _ hx;generalize (Pa.heap.size,PJ.heap.size)::iv=Od at*
  rw[Vh,S8];have hbD:j2 f b=[pb.1-pa.1,pb.2.1-pa.2.1,pb.2.2-pa.2.2]:=by rw[j2,Vh,S8]
  refine⟨Nat×World×Iv,fun z=>⟨[(1,pP 0 0),(3,.o (.s 1 0 i i)),(5,iN j),(6,pP 2 0),(43,.o (.v (.agg #[.int .i64 (pb.1-pa.1),.int .i64 (pb.2.1-pa.2.1),.int .i64 (pb.2.2-pa.2.2)]))),(34,sV ab f.bars.length cb),(35,iZ f.bars.length),(36,iN j),(44,iN z.1)],[(2,.box T.Bar [.v (.int .i64 b.1),.v (.int .i64 b.2.1),.v (.bool g0),.v (.slice g1 g2 g3),.v (.bool g4),.v (.slice g5 g6 g7)]),(1,.arr T.Lint rv),(0,.box T.Frame [.v (.slice an f.nodes.length cn),.v (.slice ab f.bars.length cb),.v (.slice aq f.cV.length cq)])],3,z.2.2,z.2.1⟩,fun z=>3-z.1,
   fun z=>z.1<=3∧dg w.heap.size w z.2.1∧ig z.2.1 w.heap.size z.2.2 rv f.cols (e9 f (di f j) j z.1)∧JC (e9 f (di f j) j z.1) (12000000*j+4000000*z.1),?_,?_⟩
  ·intro O w' r3;exact⟨(0,w',_),⟨aO _,hw.tr r3.cS,hE.rel r3,PN⟩,Sub.gn [] r3⟩
  rintro⟨k,w3,iv⟩ ⟨hk,hw,hE,PN⟩;dsimp only at hk hw hE PN ⊢;refine dG.mk ?_ ?_<;>intro OY
  ·have OY:k<3:=by have:=aH OY;omega
   obtain⟨d,hd⟩:∃d,(j2 f b).getD k 0=d:=⟨_,rfl⟩
   have hdb: -2000000<=d∧d<=2000000:=by
    rw[<-hd,hbD];rcases(show k=0∨k=1∨k=2 by omega)with rfl|rfl|rfl<;>simp[List.getD]<;>omega
   have hMl:(e9 f (di f j) j k).length=3*f.nodes.length:=by rw[<-hE.len];have:=hE.len;omega
   have Pt:f.cols=f.bars.length+f.cV.length:=rfl;refine DI hτ rfl rfl rfl (fun _=>rfl) rfl ⟨by omega,by omega⟩ (u:=.int .i64 d) ?_ (fun O w4 r=>?_)
   ·rw[<-hd,hbD,aF];rcases(show k=0∨k=1∨k=2 by omega)with rfl|rfl|rfl<;>rfl
   replace hw:=hw.tr r.cS;replace hE:=hE.rel r;obtain⟨la,Qa⟩:∃l,(e9 f (di f j) j k)[3*ka+k]? =some l:=⟨_,aB (by first|omega|(rw [bW];omega))⟩
   have hlaw:=hE.wid la (aD Qa);obtain⟨za,Ww⟩:∃z,la[j]? =some z:=⟨_,aB (by omega)⟩
   have hzab:=PN la (aD Qa) za (aD Ww);obtain⟨va,XU⟩:∃v,rv[3*ka+k]? =some v:=⟨_,aB (by have:=(aE.1 Qa).1;rw[hE.len];exact this)⟩
   obtain⟨aa5,ca5,rfl⟩:=hE.form XU;obtain⟨ada5,Ue,hxa1,hxa2⟩:=hE.load XU Qa Ww;refine⟨((3*ka:Nat):Int),by rw[ea,wrap64]<;>omega,((3*ka+k:Nat):Int),wo,by omega,.slice aa5 f.cols ca5,by rw[aF,aY,aW];exact XU,ada5,Ue,by omega,.int .i64 za,fun O w' r=>?_,?_⟩
   ·rw[aF,cM (w:=w4) (w2:=w') (by rw[dD];exact Rel.same r (dN _) hxa1)];exact hxa2
   refine⟨za+d,wo,ada5,Ue,by omega,?_⟩;intro O w' r;obtain⟨g,hg,h1,h2,h3,h4⟩:=hE.store r (z:=za+d) XU Qa (show j<f.cols by omega);rw[Ue]at hg;injection hg with hg;subst hg;refine⟨h1,h2,h3,fun w5 Qd=>?_⟩;obtain⟨k1,k2,k3,-,-⟩:=h4 w5 Qd;replace hw:=(hw.tr r.cS).tr k2;replace PN:=PN.set (r:=3*ka+k) (c:=j) (z:=za+d) (t2:=12000000*j+4000000*k+2000000) (by omega) Qa (by omega);replace hE:=k1;obtain⟨lb,PA⟩:∃l,((e9 f (di f j) j k).set (3*ka+k) (la.set j (za+d)))[3*kb+k]? =some l:=⟨_,aB (by first|omega|(rw [bW];omega))⟩
   have hlbw:=hE.wid lb (aD PA);obtain⟨zb,Ud⟩:∃z,lb[j]? =some z:=⟨_,aB (by omega)⟩
   have hzbb:=PN lb (aD PA) zb (aD Ud);obtain⟨vb,WO⟩:∃v,rv[3*kb+k]? =some v:=⟨_,aB (by have:=(aE.1 PA).1;rw[hE.len];exact this)⟩
   obtain⟨ab5,cb5,rfl⟩:=hE.form WO;obtain⟨adb5,Uf,hxb1,hxb2⟩:=hE.load WO PA Ud;refine⟨((3*kb:Nat):Int),by rw[eb,wrap64]<;>omega,((3*kb+k:Nat):Int),wo,by omega,.slice ab5 f.cols cb5,by rw[aF,aY,aW];exact WO,adb5,Uf,by omega,.int .i64 zb,fun O w' r=>?_,?_⟩
   ·rw[aF,cM (w:=w5) (w2:=w') (by rw[dD];exact Rel.same r (dN _) hxb1)];exact hxb2
   refine⟨zb-d,wo,adb5,Uf,by omega,?_⟩;intro O w' r;obtain⟨g,hg,h1,h2,h3,h4⟩:=hE.store r (z:=zb-d) WO PA (show j<f.cols by omega);rw[Uf]at hg;injection hg with hg;subst hg;refine⟨h1,h2,h3,fun w5 Qd=>?_⟩;obtain⟨k1,k2,k3,-,-⟩:=h4 w5 Qd;replace hw:=(hw.tr r.cS).tr k2;replace PN:=PN.set (r:=3*kb+k) (c:=j) (z:=zb-d) (t2:=12000000*j+4000000*(k+1:Nat)) (by omega) PA (by omega);replace hE:=k1;rw[aAg hb ea eb hd Qa Ww PA Ud]at hE PN;refine⟨((k+1:Nat):Int),wo,?_⟩;intro ρ3 w6 r3;exact⟨(k+1,w6,_),⟨OY,hw.tr r3.cS,hE.rel r3,PN⟩,Sub.gn [] r3,by dsimp only;omega⟩
  have OY:k=3:=by have:=aG OY;omega
  subst OY;refine⟨((j+1:Nat):Int),wo,?_⟩;intro ρ3 w6 r3;exact⟨(j+1,w6,_),⟨PQ,hw.tr r3.cS,hE.rel r3,fun l hl z hz=>by have:=PN l hl z hz;dsimp only;omega⟩,Sub.gn [] r3,by dsimp only;omega⟩
 have PQ:j=f.bars.length:=aQ hj (by simpa using PQ);subst PQ
 refine⟨Nat×World×Iv,fun z=>⟨[(1,pP 0 0),(3,.o (.s 1 0 i i)),(79,sV aq f.cV.length cq),(80,iZ f.cV.length),(81,iN z.1)],[(1,.arr T.Lint rv),(0,.box T.Frame [.v (.slice an f.nodes.length cn),.v (.slice ab f.bars.length cb),.v (.slice aq f.cV.length cq)])],2,z.2.2,z.2.1⟩,fun z=>f.cV.length-z.1,
  fun z=>z.1<=f.cV.length∧dg w.heap.size w z.2.1∧ig z.2.1 w.heap.size z.2.2 rv f.cols (fT f z.1)∧JC (fT f z.1) 800000000,?_,?_⟩
 ·intro O w' r3;exact⟨(0,w',_),⟨aO _,hw.tr r3.cS,hE.rel r3,fun l hl z hz=>by have:=PN l hl z hz;omega⟩,Sub.gn [] r3⟩
 rintro⟨j,w2,iv⟩ ⟨hj,hw,hE,PN⟩;dsimp only at hj hw hE PN ⊢;refine dG.mk ?_ ?_<;>intro PQ
 ·have PQ:j<f.cV.length:=by simpa using PQ
  obtain⟨s,hs⟩:∃b,f.cV[j]? =some b:=⟨_,aB PQ⟩
  obtain⟨hA,hB⟩:=Oc.sup s (aD hs);obtain⟨ks,Wx⟩:=Int.eq_ofNat_of_zero_le (show 0<=3*s.1+s.2.1 by omega);have Pt:f.cols=f.bars.length+f.cV.length:=rfl;have hMl:=pG f j;obtain⟨l,hl⟩:∃l,(fT f j)[ks]? =some l:=⟨_,aB (by omega)⟩
  have hlw:=hE.wid l (aD hl);obtain⟨v,hv⟩:∃v,rv[ks]? =some v:=⟨_,aB (by rw[hE.len];omega)⟩
  obtain⟨a5,c5,rfl⟩:=hE.form hv;obtain⟨z0,Ow⟩:∃z,l[f.bars.length+j]? =some z:=⟨_,aB (by omega)⟩
  obtain⟨ad5,ha5,-,-⟩:=hE.load hv hl Ow;obtain⟨adb,cs,QA,hF,-,PA⟩:=hf.cV.load (by decide) hs;obtain⟨g0,g1,g2,g3,g4,g5,g6,g7,rfl,hF⟩:=hF;refine⟨adb,QA,by omega,[.int .i64 s.1,.int .i64 s.2.1,.bool g0,.slice g1 g2 g3,.bool g4,.slice g5 g6 g7],rfl,rdO PA hw hS,?_⟩;refine cO hτ dZ [.x 0,.x 1,.x 2,.x 3,.x 4,.x 5,.x 6,.x 7,.x 8,.x 9,.x 10,.x 11,.x 12,.x 13,.x 14,.x 15] (by kernel_rfl) (by kernel_rfl) ?_;refine⟨3*s.1,wo,((ks:Nat):Int),wo,by omega,.slice a5 f.cols c5,by rw[aF,aY,aW];exact hv,((f.bars.length+j:Nat):Int),wo,ad5,ha5,by omega,?_⟩;intro O w' r;obtain⟨g,hg,h1,h2,h3,h4⟩:=hE.store r (z:=1) hv hl (show f.bars.length+j<f.cols by omega);rw[ha5]at hg;injection hg with hg;subst hg;refine⟨h1,h2,h3,fun w5 Qd=>?_⟩;obtain⟨k1,k2,k3,-,-⟩:=h4 w5 Qd;replace hw:=(hw.tr r.cS).tr k2;have To:=PN.set (r:=ks) (c:=f.bars.length+j) (z:=1) (t2:=800000000) (by omega) hl (by omega);rw[I4 hs Wx hl]at k1 To;refine⟨((j+1:Nat):Int),wo,?_⟩;intro ρ3 w6 r3;exact⟨(j+1,w6,_),⟨PQ,hw.tr r3.cS,k1.rel r3,To⟩,Sub.gn [] r3,by dsimp only;omega⟩
 have PQ:j=f.cV.length:=aQ hj (by simpa using PQ);subst PQ;intro ρe we re;have PE:=hE.rel re;have hMl:=pG f f.cV.length;have RL:=hE.len;refine⟨_,rfl,hw.tr re.cS,⟨rv,?_,hE.len,fun i u x k1 k2=>?_⟩,PN,hE.wid,by rw[<-hm];exact hMl⟩
 ·rw[show (iS f).length=rv.length from hE.len.symm];have h5:=re.aBz (id:=1) (sz:=1) (m:=rv.length) rfl (by simp) (by unfold maxLen;omega) hE.one;rw[show (i:Nat)=rv.length by omega];exact h5.cL fun g hg=>.inr hg
 ·obtain⟨a,c,rfl⟩:=hE.form k1;have Pr:=hE.wid x (aD k2);refine⟨by rw[Pr];unfold eY.cols maxLen;omega,by simp,fun v hv=>by obtain⟨z,_,rfl⟩:=aT.1 hv;rfl,a,c,by rw[Pr],?_,fun t v hv=>?_⟩
  ·rw[Pr];obtain⟨a2,c2,e,h⟩:=iX (hE.row i _ x k1 k2);injection e with e1 e2 e3;omega
  ·rw[aN]at hv
   cases ht:x[t]? with
   |none=>rw[ht]at hv;cases hv
   |some z=>
    rw[ht]at hv;simp only[bh,Option.some.injEq]at hv;subst hv;obtain⟨ad,h1,h2,h3⟩:=PE.load k1 k2 ht;exact⟨ad,h1,Cv.nw h2 re,by rw[aY]at h3;exact h3⟩
end Go.Ex
namespace Go.Ex
open Go Go.Sx Go.Proofs
variable{z:Int}{p:Int×Int×Int}{b:Int×Int×Rat}{iv:Iv}{x:Ld}{xs:List (Int×Int×Int)}{seen:List (Int×Int×Rat)}{css:List (List Value)}{s:List Int}{l:List Ld}{qs:List Rat}{cs:List Value}{B id j n:Nat}{S:Nat->Prop}{O:Nat->Sx.eE}{a an:Option Addr}{q:Rat}{v vb vl vn vs:Value}{w:World}{f:eY}
theorem I6(f:eY):(cU f).length=3*f.nodes.length:=by rw[cU,aL];exact pG f _
theorem Ev(h1: -2000000000<=z)(h2:z<=2000000000):rl (z:Rat)<=1:=by
 have e1:((z:Rat)).num=z:=rfl;have e2:((z:Rat)).den=1:=rfl;rw[rl,e1,e2];have a1:ln z.natAbs<=1:=gX.2 (by rw[yE];omega);have a2:ln 1<=1:=by decide
 omega
set_option maxHeartbeats 1000000 in
theorem vK(hS:Old S w)(hf:dX w S vn vb vs f)(Oc:xc f):
  eA PG N.qj #[.agg #[vn,vb,vs]] w (eL w fun v' w2=>(∃vr,v'= .agg #[vr,.int .i64 f.cols]∧cW w2 (Nf w w2) vr (cU f))∧fq f.cols (cU f)∧Ht (cU f) 2):=by
 have hw:=bR w;obtain⟨an,cn,ab,cb,aq,cq,rfl,rfl,rfl,RN,RJ,SF⟩:=hf.shape;obtain⟨VN,Tn,TG⟩:=And.intro Oc.n (And.intro Oc.b Oc.s);have Pt:f.cols=f.bars.length+f.cV.length:=rfl;refine uw (by simp) ?_;refine⟨((f.cols:Nat):Int),by rw[wrap64]<;>first|rfl|omega,?_⟩;refine cH (cP (Φ:=fun _ w' v w2=>o7 w2 (Nf w' w2) v (iS f)∧JC (iS f) 800000000∧(∀l∈iS f,l.length=f.cols)∧(iS f).length=3*f.nodes.length) (fun O w' r=>NA (S:=S) (oS hS r) (hf.cJ (kS hw r hS)) Oc) ?_);rintro O Pa v1 PJ r he Oh ⟨k1,PN,XV,Rh⟩;replace hw:=hw.tr Oh;have hM:=o7.cL k1 fun g hg=>hg.dK (B:=w.heap.size) (S:=FF) r.cI (iv:=(Pa.heap.size,PJ.heap.size)::[]) aI;generalize (Pa.heap.size,PJ.heap.size)::[]=Od at*
 obtain⟨am,cm,rfl,Ri,Q9⟩:=dA.shape hM;unfold maxLen at Q9
 refine⟨Nat×List Value×World×Iv,fun z=>⟨[(20,iN z.1),(2,pP 1 0),(3,pP 2 0),(18,.o (.v (.slice am (iS f).length cm))),(19,.o (.v (.int .i64 (iS f).length)))],[(2,.box T.eG [.w 3 z.2.1.length,.v (.int .i64 ((f.cols:Nat):Int))]),(3,.vec T.fz 1 z.2.1),(1,.box T.eG [.v (.slice none 0 0),.v (.int .i64 0)])],4,z.2.2.2,z.2.2.1⟩,fun z=>(iS f).length-z.1,
  fun z=>z.1<=(iS f).length∧dg w.heap.size w z.2.2.1∧o7 z.2.2.1 (Cf w z.2.2.2) (.slice am (iS f).length cm) (iS f)∧dS z.2.2.1 (Cf w z.2.2.2) z.2.1 ((cU f).take z.1),?_,?_⟩
 ·intro O w' r;exact⟨(0,[],w',_),⟨aO _,hw.tr r.cS,hM.cJ fun g hg=>Rel.same r (cG w) hg,by simp[dS]⟩,Sub.Du 2 0 T.fz 1 rfl rfl (by simp[jw,SV.sc,At.sc,fQ]) r fun ρ1 r1=>Sub.gn [] r1⟩
 rintro⟨k,rv,w1,iv⟩ ⟨hk,hw,hM,hK⟩;dsimp only at hk hw hM hK ⊢;have Ot:rv.length=k:=by rw[hK.1,aZ,cU,aL];omega
 refine dG.mk ?_ ?_<;>intro OY
 ·have OY:k<(iS f).length:=by simpa using OY
  obtain⟨l,hl⟩:∃l,(iS f)[k]? =some l:=⟨_,aB OY⟩
  have hlw:=XV l (aD hl);have Oq:(cU f).take (k+1)=(cU f).take k++[dH l]:=by rw[List.take_add_one,show(cU f)[k]? =some (dH l) by rw[cU,aN,hl];rfl];rfl
  obtain⟨adm,um,SN,YE,km1,km2⟩:=dA.load hM hl;obtain⟨a0,c0,rfl,Xs,-⟩:=DJ.shape YE;refine⟨adm,SN,by omega,.slice a0 l.length c0,fun O w' r=>?_,?_⟩
  ·rw[aF,cM (w:=w1) (w2:=w') (by rw[dD];exact Rel.same r (cG w) km1)];exact km2
  refine⟨l.length,l.length,rfl,rfl,Nat.le_refl _,by omega,by omega,Nat×Nat×World×Iv,fun z=>⟨[(6,.o (.v (.slice (some ⟨z.2.1,0,none⟩) l.length l.length))),(5,sV a0 l.length c0),(27,sV a0 l.length c0),(28,iZ l.length),(29,iN z.1),(20,iN k),(2,pP 1 0),(3,pP 2 0),(18,.o (.v (.slice am (iS f).length cm))),(19,.o (.v (.int .i64 (iS f).length)))],[(2,.box T.eG [.w 3 rv.length,.v (.int .i64 ((f.cols:Nat):Int))]),(3,.vec T.fz 1 rv),(1,.box T.eG [.v (.slice none 0 0),.v (.int .i64 0)])],5,z.2.2.2,z.2.2.1⟩,fun z=>l.length-z.1,
   fun z=>z.1<=l.length∧dg w.heap.size w z.2.2.1∧o7 z.2.2.1 (Bs FF w.heap.size z.2.2.2 (.slice (some ⟨z.2.1,0,none⟩) l.length l.length)) (.slice am (iS f).length cm) (iS f)∧DJ z.2.2.1 (Bs FF w.heap.size z.2.2.2 (.slice (some ⟨z.2.1,0,none⟩) l.length l.length)) (.slice a0 l.length c0) l∧dS z.2.2.1 (Bs FF w.heap.size z.2.2.2 (.slice (some ⟨z.2.1,0,none⟩) l.length l.length)) rv ((cU f).take k)∧jb z.2.2.1 FF w.heap.size z.2.2.2 (.slice (some ⟨z.2.1,0,none⟩) l.length l.length) l.length z.1 (dH l),?_,?_⟩
  ·intro O w' r;have hf:=jb.pC (S:=FF) (n:=l.length) r (id:=4) rfl (by unfold maxLen;omega) (dH l);have hbs:∀g,Cf w iv g->Bs FF w.heap.size (((O 4).g,(O 4).g+1)::iv) (.slice (some ⟨(O 4).g,0,none⟩) l.length l.length) g:=fun g hg=>⟨hg.mono fun p hp=>aC _ hp,fun e=>Rel.not r (cG w) hg 4 _ rfl (r.fits (id:=4) rfl).1 (by injection e)⟩
   exact⟨(0,(O 4).g,w',((O 4).g,(O 4).g+1)::iv),⟨aO _,hw.tr r.cS,(hM.cJ fun g hg=>Rel.same r (cG w) hg).cL hbs,(YE.cJ fun g hg=>Rel.same r (cG w) hg).cL hbs,dS.cL (hK.rel r (cG w)) hbs,hf⟩,
    Sub.pC r (id:=4) (t:=6) rfl rfl ⟨rfl,rfl,rfl,trivial⟩ rfl ⟨rfl,rfl,rfl,rfl,rfl,rfl,rfl,rfl,rfl,trivial⟩ (by simp[jw,SV.sc,At.sc])⟩
  rintro⟨i,gx,w2,iv⟩ ⟨hi,hw,hM,YE,hK,hX⟩;dsimp only at hi hw hM YE hK hX ⊢;refine dG.mk ?_ ?_<;>intro OW
  ·have OW:i<l.length:=by simpa using OW
   obtain⟨z,hz⟩:∃z,l[i]? =some z:=⟨_,aB OW⟩
   have Ud:=PN l (aD hl) z (aD hz);obtain⟨adz,haz,kz1,kz2⟩:=YE.at hz;refine⟨adz,haz,by omega,.int .i64 z,fun O w' r=>?_,?_⟩
   ·rw[aF,cM (w:=w2) (w2:=w') (by rw[dD];exact Rel.same r (cG w) kz1.1)];exact kz2
   refine cH (cP (Φ:=fun _ w' v w2=>cT w2 (Nf w' w2) v (z:Rat)) (fun O w' r=>k8 z w' (by omega) (by omega)) ?_);rintro O Pg v3 Pc r he Oh RR;replace hw:=hw.tr Oh;have hbs:∀g,Bs FF w.heap.size iv (.slice (some ⟨gx,0,none⟩) l.length l.length) g->Bs FF w.heap.size ((Pg.heap.size,Pc.heap.size)::iv) (.slice (some ⟨gx,0,none⟩) l.length l.length) g:=fun g hg=>Bs.mono (fun x hx=>aC _ hx) hg;have hbk:∀g,Bs FF w.heap.size iv (.slice (some ⟨gx,0,none⟩) l.length l.length) g->Pc.heap[g]? =w2.heap[g]? :=fun g hg=>(he.block g (Rel.old r (cG w) g hg.1)).trans (Bs.same r (cG w) g hg);replace hM:=(hM.cJ hbk).cL hbs;replace YE:=(YE.cJ hbk).cL hbs;replace hK:=dS.cL (dS.cJ hK hbk) hbs;have hd:=RR.cL (S':=Bs FF w.heap.size ((Pg.heap.size,Pc.heap.size)::iv) (.slice (some ⟨gx,0,none⟩) l.length l.length)) fun g hg=>hg.elim (fun h=>h.elim) fun h=>⟨.inr ⟨by have:=r.cI;omega,_,_,aI,h.1,h.2⟩,fun e=>by have:=Rel.old r (cG w) g (hX.new g e);omega⟩
   replace hX:=hX.cK (iv':=(Pg.heap.size,Pc.heap.size)::iv) r (cG w) he fun x hx=>aC _ hx;generalize (Pg.heap.size,Pc.heap.size)::iv=Oj at*
   obtain⟨A0,A1,A2,A3,A4,A5,A6,A7,rfl⟩:=hd.shape;refine⟨⟨gx,0,none⟩,rfl,by omega,?_⟩;intro O w' r;obtain⟨g,hg,h1,h2,h3,h4⟩:=hX.store (j:=i) OW (by rw[dH,aN,hz];rfl) hd r (cG w);injection hg with hg;injection hg with hg;subst hg;refine⟨h1,h2,h3,fun w5 Qd=>?_⟩;obtain⟨k1,k2,k3,k4⟩:=h4 w5 Qd;have PI:=(hw.tr r.cS).tr k3;have SB:=Bs.kept (v:=(.slice (some ⟨gx,0,none⟩) l.length l.length)) r (cG w) k2 fun g e=>e;have Q2:=hM.cJ SB;have hLm2:=YE.cJ SB;have RM:=dS.cJ hK SB;refine⟨((i+1:Nat):Int),wo,?_⟩;intro ρ3 w6 r3;exact⟨(i+1,gx,w6,_),⟨OW,PI.tr r3.cS,Q2.cJ (Bs.same r3 (cG w)),hLm2.cJ (Bs.same r3 (cG w)),dS.cJ RM (Bs.same r3 (cG w)),k1.rel r3 (cG w)⟩,Sub.gn [] r3,by dsimp only;omega⟩
  have OW:i=l.length:=aQ hi (by simpa using OW);rw[OW]at hX;have hX2:=(hX.done (by simp[dH])).c;replace hK:=(dS.cL hK fun g hg=>hg.1).push (u:=(.slice (some ⟨gx,0,none⟩) l.length l.length)) (x:=dH l) rfl (by rw[show l.length=(dH l).length by simp[dH]]at hX2 ⊢;exact hX2);rw[<-Oq]at hK;replace hM:=hM.cL fun g hg=>hg.1;refine .inl ?_;refine⟨by simp,by omega,by unfold maxLen;omega,((k+1:Nat):Int),wo,?_⟩;intro ρ3 w3 r3;exact⟨(k+1,rv++[(.slice (some ⟨gx,0,none⟩) l.length l.length)],w3,_),⟨OY,hw.tr r3.cS,hM.cJ fun g hg=>Rel.same r3 (cG w) hg,hK.rel r3 (cG w)⟩,Sub.gn [(3,6)] r3 ⟨by dsimp only;rw[List.length_append,List.length_singleton];rfl,rfl,rfl,trivial⟩,by dsimp only;omega⟩
 have OY:k=(iS f).length:=aQ hk (by simpa using OY);rw[List.take_of_length_le (by rw[cU,aL];omega)]at hK;intro ρe we re;refine⟨_,rfl,hw.tr re.cS,⟨_,rfl,rv,?_,hK.1,fun i u x k1 k2=>cR.cL (cR.rel (hK.2.2 i u x k1 k2) re (cG w)) fun g hg=>Cv.nw hg re⟩,fun x hx=>?_,fun x hx q hq=>?_⟩
 ·rw[<-hK.1];exact(re.gz (id:=3) (sz:=1) (m:=rv.length) rfl (by simp) (by unfold maxLen;omega) (by decide) hK.2.1).cL fun g hg=>.inr hg
 ·obtain⟨l,hl,rfl⟩:=aT.1 hx;rw[dH,aL];exact XV l hl
 ·obtain⟨l,hl,rfl⟩:=aT.1 hx;obtain⟨z,hz,rfl⟩:=aT.1 hq;have:=PN l hl z hz;have:=Ev (z:=z) (by omega) (by omega);omega
def ldC(x:Ld):List Int:=[x.2.1,x.2.2.1,x.2.2.2]
def jS(s:List Int)(x:Ld):Nat->List Int
 |0=>s
 |k+1=>Ky (jS s x k) (3*x.1+k).toNat ((ldC x).getD k 0)
def jE(n:Nat)(l:List Ld):Nat->List Int
 |0=>List.replicate (3*n) 0
 |i+1=>jS (jE n l i) (l.getD i (0,0,0,0)) 3
def ki(f:eY)(l:List Ld):List Rat:=dH (jE f.nodes.length l l.length)
structure I7(n:Nat)(l:List Ld):Prop where
 len:l.length<=200
 ld:∀x∈l,(0<=x.1∧x.1<n)∧(-1000000<=x.2.1∧x.2.1<=1000000)∧(-1000000<=x.2.2.1∧x.2.2.1<=1000000)∧(-1000000<=x.2.2.2∧x.2.2.2<=1000000)
theorem vL(s:List Int)(x:Ld):∀k,(jS s x k).length=s.length
 |0=>rfl
 |k+1=>by rw[jS,Ky,bW];exact vL s x k
theorem qP(n:Nat)(l:List Ld):∀i,(jE n l i).length=3*n
 |0=>aU ..
 |i+1=>by rw[jE,vL];exact qP n l i
theorem I8{k:Nat}{d:Int}(e:3*x.1+(k:Int)=j)(hd:(ldC x).getD k 0=d)(hz:(jS s x k)[j]? =some z):(jS s x k).set j (z+d)=jS s x (k+1):=by
 rw[jS,Ky,hd,e,aF,show(jS s x k).getD j 0=z by rw[List.getD,hz];rfl]
def LBd(s:List Int)(t:Int):Prop:=∀z∈s,-t<=z∧z<=t
theorem LBd.set{t t2:Int}(h:LBd s t)(ht:t<=t2)(hz: -t2<=z∧z<=t2):LBd (s.set j z) t2:=fun y hy=>by
 rcases bA hy with hy|rfl
 ·have:=h y hy;omega
 ·exact hz
def zv(l:List Int):List Value:=l.map fun z=>.int .i64 z
theorem Ge(l:List Int):(zv l).length=l.length:=aL ..
theorem Lh{l:List Int}(h:l[j]? =some z):(zv l)[j]? =some (.int .i64 z):=by rw[zv,aN,h];rfl
theorem KD{l:List Int}(h:j<l.length):(zv l).take j++[.int .i64 z]++(zv l).drop (j+1)=zv (l.set j z):=by
 rw[zv,zv,List.map_set];exact gP (by rw[aL];exact h)
theorem qQ(f:eY):(dE f).length=f.cols:=by simp[dE,eY.cols]
theorem dB.aC5(h:css.length=qs.length∧∀(j:Nat) cs q,css[j]? =some cs->qs[j]? =some q->mD w S cs q)(hc:mD w S cs q):
  (css++[cs]).length=(qs++[q]).length∧∀(j:Nat) c p,(css++[cs])[j]? =some c->(qs++[q])[j]? =some p->mD w S c p:=by
 refine⟨by simp[h.1],fun j x p h1 h2=>?_⟩;rcases aP j css.length with hi|hi
 ·rw[aJ hi]at h1;rw[aJ (by rw[<-h.1];exact hi)]at h2;exact h.2 j x p h1 h2
 ·have Ra:j=css.length:=by have:=(aE.1 h1).1;simp at this;omega
  subst Ra;rw[aM (Nat.le_refl _),bI]at h1;rw[h.1,aM (Nat.le_refl _),bI]at h2;simp at h1 h2;subst h1 h2;exact hc
set_option maxHeartbeats 1000000 in
theorem Ew{cn:Nat}(hS:Old S w)(hl:oY w S vl l)(VN:f.nodes.length<=20)(Oc:I7 f.nodes.length l)
  {ab aq:Option Addr} {nb cb nq cq:Nat} (WO:vb= .slice ab nb cb) (Re:vs= .slice aq nq cq):
  eA PG N.ry #[.agg #[.slice an f.nodes.length cn,vb,vs],vl] w (eL w fun v' w2=>eO w2 FF w.heap.size [(w.heap.size,w2.heap.size)] v' (3*f.nodes.length) (ki f l)∧∀q∈ki f l,rl q<=1):=by
 subst WO Re;have hw:=bR w;obtain⟨al,cl,rfl,QB,Rh⟩:=hl.shape;have hl200:=Oc.len;refine xM (by simp) ?_;refine⟨((3*f.nodes.length:Nat):Int),wo,?_⟩;obtain⟨m,hm⟩:∃m,3*f.nodes.length=m:=⟨_,rfl⟩
 rw[hm]
 refine⟨m,m,rfl,rfl,Nat.le_refl _,by omega,by omega,Nat×World,fun z=>⟨[(5,.o (.s 1 0 m m)),(18,sV al l.length cl),(19,iZ l.length),(20,iN z.1)],[(1,.arr T.int (zv (jE f.nodes.length l z.1)))],2,[],z.2⟩,fun z=>l.length-z.1,
  fun z=>z.1<=l.length∧dg w.heap.size w z.2∧LBd (jE f.nodes.length l z.1) (3000000*z.1),?_,?_⟩
 ·intro O w' r3;exact⟨(0,w'),⟨aO _,hw.tr r3.cS,fun z hz=>by rw[jE]at hz;rw[ah hz];exact⟨Int.le_refl _,Int.le_refl _⟩⟩,Sub.gn [] r3 ⟨by dsimp only;rw[jE,hm,zv,List.map_replicate];rfl,trivial⟩⟩
 rintro⟨i,w1⟩ ⟨hi,hw,PN⟩;dsimp only at hi hw PN ⊢;refine dG.mk ?_ ?_<;>intro OW
 ·have OW:i<l.length:=by simpa using OW
  obtain⟨x,hx⟩:∃x,l[i]? =some x:=⟨_,aB OW⟩
  obtain⟨hn,Sb,RI,hx3⟩:=Oc.ld x (aD hx);obtain⟨kn,Vb⟩:=Int.eq_ofNat_of_zero_le hn.1;obtain⟨adx,cs,Pz,hP,-,PS⟩:=hl.load (by decide) hx;have hP:cs=[.int .i64 x.1,.int .i64 x.2.1,.int .i64 x.2.2.1,.int .i64 x.2.2.2]:=hP;subst hP
  refine⟨adx,Pz,by omega,[.int .i64 x.1,.int .i64 x.2.1,.int .i64 x.2.2.1,.int .i64 x.2.2.2],rfl,rdO PS hw hS,Nat×World,fun z=>⟨[(5,.o (.s 1 0 m m)),(7,pP 2 0),(30,.a [.v (.int .i64 x.2.1),.v (.int .i64 x.2.2.1),.v (.int .i64 x.2.2.2)]),(31,iN z.1),(18,sV al l.length cl),(19,iZ l.length),(20,iN i)],[(2,.box T.aDt [.v (.int .i64 x.1),.v (.int .i64 x.2.1),.v (.int .i64 x.2.2.1),.v (.int .i64 x.2.2.2)]),(1,.arr T.int (zv (jS (jE f.nodes.length l i) x z.1)))],3,[],z.2⟩,fun z=>3-z.1,
   fun z=>z.1<=3∧dg w.heap.size w z.2∧LBd (jS (jE f.nodes.length l i) x z.1) (3000000*i+1000000*z.1),?_,?_⟩
  ·intro O w' r3;exact⟨(0,w'),⟨aO _,hw.tr r3.cS,PN⟩,Sub.gn [] r3⟩
  rintro⟨k,w3⟩ ⟨hk,hw,PN⟩;dsimp only at hk hw PN ⊢;refine dG.mk ?_ ?_<;>intro OY
  ·have OY:k<3:=by have:=aH OY;omega
   obtain⟨d,hd⟩:∃d,(ldC x).getD k 0=d:=⟨_,rfl⟩
   have hdb: -1000000<=d∧d<=1000000:=by
    rw[<-hd,ldC];rcases(show k=0∨k=1∨k=2 by omega)with rfl|rfl|rfl<;>simp[List.getD]<;>omega
   have hLl:(jS (jE f.nodes.length l i) x k).length=m:=by rw[vL,qP,hm]
   obtain⟨z,hz⟩:∃z,(jS (jE f.nodes.length l i) x k)[3*kn+k]? =some z:=⟨_,aB (by omega)⟩
   have Ud:=PN z (aD hz);have WM:3*x.1+(k:Int)=((3*kn+k:Nat):Int):=by omega
   have QW:=I8 WM hd hz;have To:=PN.set (j:=3*kn+k) (z:=z+d) (t2:=3000000*i+1000000*(k+1:Nat)) (by omega) (by omega);rw[QW]at To;refine DI hτ (cs:= #[.int .i64 x.2.1,.int .i64 x.2.2.1,.int .i64 x.2.2.2]) rfl rfl rfl (fun _=>rfl) rfl ⟨by omega,by omega⟩ (u:=.int .i64 d) ?_ (fun O w4 r=>?_)
   ·rw[<-hd,ldC,aF];rcases(show k=0∨k=1∨k=2 by omega)with rfl|rfl|rfl<;>rfl
   replace hw:=hw.tr r.cS;refine⟨3*x.1,wo,((3*kn+k:Nat):Int),wo,by omega,.int .i64 z,by rw[aF,aY,aW];exact Lh hz,z+d,wo,by omega,by rw[Ge];omega,zv (jS (jE f.nodes.length l i) x (k+1)),?_,?_⟩
   ·rw[aF,aY,aW,<-QW];exact KD (by omega)
   refine⟨((k+1:Nat):Int),wo,?_⟩;intro ρ3 w6 r3;exact⟨(k+1,w6),⟨OY,hw.tr r3.cS,To⟩,Sub.gn [] r3,by dsimp only;omega⟩
  have OY:k=3:=by have:=aG OY;omega
  subst OY;have QW:jS (jE f.nodes.length l i) x 3=jE f.nodes.length l (i+1):=by rw[jE,show l.getD i (0,0,0,0)=x by rw[List.getD,hx];rfl]
  rw[QW]at PN ⊢;refine⟨((i+1:Nat):Int),wo,?_⟩;intro ρ3 w6 r3;exact⟨(i+1,w6),⟨OW,hw.tr r3.cS,fun z hz=>by have:=PN z hz;dsimp only;omega⟩,Sub.gn [] r3,by dsimp only;omega⟩
 have OW:i=l.length:=aQ hi (by simpa using OW);subst OW;obtain⟨s,hs⟩:∃s,jE f.nodes.length l l.length=s:=⟨_,rfl⟩
 have So:s.length=m:=by rw[<-hs,qP,hm]
 rw[hs]at PN ⊢;unfold ki;rw[hs]
 refine⟨m,m,rfl,rfl,Nat.le_refl _,by omega,by omega,Nat×List (List Value)×Iv×World,fun z=>⟨[(10,.o (.s 2 0 m m)),(51,.o (.s 1 0 m m)),(52,iZ m),(53,iN z.1)],[(2,.arr T.Rat z.2.1.flatten),(1,.arr T.int (zv s))],3,z.2.2.1,z.2.2.2⟩,fun z=>m-z.1,
  fun z=>z.1<=m∧dg w.heap.size w z.2.2.2∧gh z.2.2.2 (Cf w z.2.2.1) m z.1 z.2.1 (dH s),?_,?_⟩
 ·intro O w' r;exact⟨(0,List.replicate m f0,_,w'),⟨aO _,hw.tr r.cS,gh.start _ _ _ _⟩,Sub.gn [] r⟩
 rintro⟨i,css,iv,w1⟩ ⟨Sq,hw,hF⟩;dsimp only at Sq hw hF ⊢;refine dG.mk ?_ ?_<;>intro OW
 ·have OW:i<m:=by simpa using OW
  obtain⟨z,hz⟩:∃z,s[i]? =some z:=⟨_,aB (by omega)⟩
  have Ud:=PN z (aD hz);refine⟨by omega,.int .i64 z,by rw[aF,aY,aW];exact Lh hz,?_⟩;refine cH (cE hw (fun _ w' v w2=>cT w2 (Nf w' w2) v (z:Rat)) (fun O w' r=>k8 z w' (by omega) (by omega)) ?_);rintro O _ _ _ Od r he hw h_ hn;replace hF:=hF.cK r (cG w) he (mC h_);have hd:=hn.dK (S:=FF) r.cI (mN h_);obtain⟨A0,A1,A2,A3,A4,A5,A6,A7,rfl⟩:=hd.shape;have Oq:=hF.next OW (q:=_) (by rw[dH,aN,hz];rfl) hd
  refine⟨by omega,by have:=hF.flat;omega,(css.set i [.bool A0,.slice A1 A2 A3,.bool A4,.slice A5 A6 A7]).flatten,?_,?_⟩
  ·have:=jt (cs:=[.bool A0,.slice A1 A2 A3,.bool A4,.slice A5 A6 A7]) hF.four (show i<css.length by rw[hF.len];exact OW);rw[<-this];simp
  refine⟨((i+1:Nat):Int),wo,?_⟩;intro ρ3 w3 r3;exact⟨(i+1,css.set i [.bool A0,.slice A1 A2 A3,.bool A4,.slice A5 A6 A7],_,w3),⟨OW,hw.tr r3.cS,Oq.rel r3 (cG w)⟩,Sub.gn [] r3,by dsimp only;omega⟩
 have OW:i=m:=aQ Sq (by simpa using OW);subst OW;intro ρe we re
 exact⟨_,rfl,hw.tr re.cS,hF.done (by rw[dH,aL];exact So) (by unfold maxLen;omega) re (id:=2) rfl (re.nn 2 _ rfl (by intros;simp) (by simp)),fun q hq=>by
  obtain⟨z,hz,rfl⟩:=aT.1 hq;have:=PN z hz
  exact Ev (by omega) (by omega)⟩
set_option maxHeartbeats 1000000 in
theorem Ey(hS:Old S w)(hf:dX w S vn vb vs f)(Oc:xc f):
  eA PG N.sB #[.agg #[vn,vb,vs]] w (eL w fun v' w2=>dB w2 (Nw S w w2) v' (dE f)):=by
 have hw:=bR w;obtain⟨an,cn,ab,cb,aq,cq,rfl,rfl,rfl,RN,RJ,SF⟩:=hf.shape;have XP:=hf;refine xP (by simp) ?_
 refine⟨Nat×List (List Value)×World,fun z=>⟨[(3,.o (.w 1 z.2.1.length)),(9,sV ab f.bars.length cb),(10,iZ f.bars.length),(11,iN z.1),(1,pP 0 0)],[(1,.vec T.Rat 4 z.2.1.flatten),(0,.box T.Frame [.v (.slice an f.nodes.length cn),.v (.slice ab f.bars.length cb),.v (.slice aq f.cV.length cq)])],2,[],z.2.2⟩,fun z=>f.bars.length-z.1,
  fun z=>z.1<=f.bars.length∧dg w.heap.size w z.2.2∧(∀cs∈z.2.1,cs.length=4)∧(z.2.1.length=((fun i=>(f.bars.take i).map (·.2.2)) z.1).length∧∀(j:Nat) cs q,z.2.1[j]? =some cs->((fun i=>(f.bars.take i).map (·.2.2)) z.1)[j]? =some q->mD z.2.2 S cs q),?_,?_⟩
 ·intro O w' r;exact⟨(0,[],w'),⟨aO _,hw.tr r.cS,fun cs h=>(by cases h),rfl,fun j cs q h=>by cases h⟩,Sub.nil 3 T.Rat 4 rfl (by simp[jw,SV.sc,At.sc,fQ]) r fun ρ1 r1=>Sub.gn [] r1⟩
 rintro⟨k,css,w1⟩ ⟨hk,hw,Uz,hR⟩;dsimp only at hk hw Uz hR ⊢;have Ok:=eD Uz;refine dG.mk ?_ ?_<;>intro OY
 ·have OY:k<f.bars.length:=by simpa using OY
  have Tn:=Oc.b;have TG:=Oc.s;obtain⟨b,hb⟩:∃b,f.bars[k]? =some b:=⟨_,aB OY⟩
  have QW:(fun i=>(f.bars.take i).map (·.2.2)) (k+1)=(fun i=>(f.bars.take i).map (·.2.2)) k++[b.2.2]:=by dsimp only;rw[List.take_add_one,hb];simp
  obtain⟨adb,cs,QA,hF,-,PA⟩:=XP.bars.load (by decide) hb;obtain⟨g0,g1,g2,g3,g4,g5,g6,g7,rfl,hF⟩:=hF;refine⟨adb,QA,by omega,[.int .i64 b.1,.int .i64 b.2.1,.bool g0,.slice g1 g2 g3,.bool g4,.slice g5 g6 g7],rfl,rdO PA hw hS,?_⟩;have Sr:mD w1 S [.bool g0,.slice g1 g2 g3,.bool g4,.slice g5 g6 g7] b.2.2:=⟨_,_,_,_,_,_,_,_,rfl,hF.cJ fun g hg=>hw.block g (hS g hg)⟩
  have QJ:=dB.aC5 hR Sr;rw[<-QW]at QJ;have PR:css.flatten++([.bool g0,.slice g1 g2 g3,.bool g4,.slice g5 g6 g7]:List Value)=(css++([[.bool g0,.slice g1 g2 g3,.bool g4,.slice g5 g6 g7]]:List (List Value))).flatten:=by simp
  have Uu:css.length<=200:=by rw[hR.1,aL,aZ];have:=Oc.b;omega
  refine .inl ?_;refine⟨by omega,by omega,by unfold maxLen;omega,((k+1:Nat):Int),wo,?_⟩;intro ρ3 w3 r3
  exact⟨(k+1,css++[[.bool g0,.slice g1 g2 g3,.bool g4,.slice g5 g6 g7]],w3),⟨OY,hw.tr r3.cS,fun cs hc=>by
   rcases List.mem_append.1 hc with hc|hc
   ·exact Uz cs hc
   ·rw[bE.1 hc];rfl,QJ.1,fun j cs q h1 h2=>(QJ.2 j cs q h1 h2).cJ fun g hg=>(r3.cS).block g (hS g hg)⟩,Sub.gn [(1,4)] r3 ⟨by dsimp only;rw[<-PR];rfl,rfl,trivial⟩ ⟨by dsimp only;rw[List.length_append,List.length_singleton];rfl,rfl,rfl,rfl,rfl,trivial⟩,by dsimp only;omega⟩
 have OY:k=f.bars.length:=aQ hk (by simpa using OY);subst OY;have Ot:css.length=f.bars.length:=by rw[hR.1,aL,aZ];omega
 rw[bH,show f.bars.map (·.2.2)=f.bars.map (·.2.2)++(f.cV.take 0).map (·.2.2) by simp]at hR
 refine⟨Nat×List (List Value)×World,fun z=>⟨[(3,.o (.w 1 z.2.1.length)),(22,sV aq f.cV.length cq),(23,iZ f.cV.length),(24,iN z.1)],[(1,.vec T.Rat 4 z.2.1.flatten),(0,.box T.Frame [.v (.slice an f.nodes.length cn),.v (.slice ab f.bars.length cb),.v (.slice aq f.cV.length cq)])],2,[],z.2.2⟩,fun z=>f.cV.length-z.1,
  fun z=>z.1<=f.cV.length∧dg w.heap.size w z.2.2∧(∀cs∈z.2.1,cs.length=4)∧(z.2.1.length=((fun i=>f.bars.map (·.2.2)++(f.cV.take i).map (·.2.2)) z.1).length∧∀(j:Nat) cs q,z.2.1[j]? =some cs->((fun i=>f.bars.map (·.2.2)++(f.cV.take i).map (·.2.2)) z.1)[j]? =some q->mD z.2.2 S cs q),?_,?_⟩
 ·intro O w' r3;exact⟨(0,css,w'),⟨aO _,hw.tr r3.cS,Uz,hR.1,fun j cs q h1 h2=>(hR.2 j cs q h1 h2).cJ fun g hg=>(r3.cS).block g (hS g hg)⟩,Sub.gn [] r3⟩
 rintro⟨k,css,w1⟩ ⟨hk,hw,Uz,hR⟩;dsimp only at hk hw Uz hR ⊢;have Ok:=eD Uz;refine dG.mk ?_ ?_<;>intro OY
 ·have OY:k<f.cV.length:=by simpa using OY
  have Tn:=Oc.b;have TG:=Oc.s;obtain⟨b,hb⟩:∃b,f.cV[k]? =some b:=⟨_,aB OY⟩
  have QW:(fun i=>f.bars.map (·.2.2)++(f.cV.take i).map (·.2.2)) (k+1)=(fun i=>f.bars.map (·.2.2)++(f.cV.take i).map (·.2.2)) k++[b.2.2]:=by dsimp only;rw[List.take_add_one,hb];simp
  obtain⟨adb,cs,QA,hF,-,PA⟩:=XP.cV.load (by decide) hb;obtain⟨g0,g1,g2,g3,g4,g5,g6,g7,rfl,hF⟩:=hF;refine⟨adb,QA,by omega,[.int .i64 b.1,.int .i64 b.2.1,.bool g0,.slice g1 g2 g3,.bool g4,.slice g5 g6 g7],rfl,rdO PA hw hS,?_⟩;have Sr:mD w1 S [.bool g0,.slice g1 g2 g3,.bool g4,.slice g5 g6 g7] b.2.2:=⟨_,_,_,_,_,_,_,_,rfl,hF.cJ fun g hg=>hw.block g (hS g hg)⟩
  have QJ:=dB.aC5 hR Sr;rw[<-QW]at QJ;have PR:css.flatten++([.bool g0,.slice g1 g2 g3,.bool g4,.slice g5 g6 g7]:List Value)=(css++([[.bool g0,.slice g1 g2 g3,.bool g4,.slice g5 g6 g7]]:List (List Value))).flatten:=by simp
  have Uu:css.length<=200:=by rw[hR.1,List.length_append,aL,aL,aZ];have:=Oc.b;have:=Oc.s;omega
  refine .inl ?_;refine⟨by omega,by omega,by unfold maxLen;omega,((k+1:Nat):Int),wo,?_⟩;intro ρ3 w3 r3
  exact⟨(k+1,css++[[.bool g0,.slice g1 g2 g3,.bool g4,.slice g5 g6 g7]],w3),⟨OY,hw.tr r3.cS,fun cs hc=>by
   rcases List.mem_append.1 hc with hc|hc
   ·exact Uz cs hc
   ·rw[bE.1 hc];rfl,QJ.1,fun j cs q h1 h2=>(QJ.2 j cs q h1 h2).cJ fun g hg=>(r3.cS).block g (hS g hg)⟩,Sub.gn [(1,4)] r3 ⟨by dsimp only;rw[<-PR];rfl,rfl,trivial⟩ ⟨by dsimp only;rw[List.length_append,List.length_singleton];rfl,rfl,rfl,rfl,trivial⟩,by dsimp only;omega⟩
 have OY:k=f.cV.length:=aQ hk (by simpa using OY);subst OY;intro ρe we re;have hfull:f.bars.map (·.2.2)++(f.cV.take f.cV.length).map (·.2.2)=dE f:=by rw[bH];rfl
 rw[hfull]at hR;refine⟨_,rfl,hw.tr re.cS,css,?_,hR.1,Uz,fun j cs q k1 k2=>((hR.2 j cs q k1 k2).cJ fun g hg=>(re.cS).block g (hS g hg)).cL fun g hg=>.inl hg⟩;have QB:=hR.1
 have h5:=re.gz (id:=1) (sz:=4) (m:=css.length) rfl Ok (by have:=Oc.b;have:=Oc.s;rw[QB,qQ];unfold eY.cols maxLen;omega) (by decide) (fun u hu=>by
  obtain⟨cs,hc,hu⟩:=List.mem_flatten.1 hu;obtain⟨j,hj⟩:=aS hc;obtain⟨_,_,_,_,_,_,_,_,rfl,_⟩:=hR.2 j cs _ hj (aB (by rw[<-QB];exact(aE.1 hj).1));simp at hu
  rcases hu with rfl|rfl|rfl|rfl<;>rfl)
 rw[<-QB];exact h5.cL fun g hg=>.inr hg
def fV{α:Type}(e:List α->α->Int):List α->List α->Int
 |_,[]=>0
 |seen,x::r=>if e seen x=0 then fV e (seen++[x]) r else e seen x
section
variable{α:Type}{e:List α->α->Int}{xs:List α}
theorem iw{k:Nat}{x:α}(hx:xs[k]? =some x)(h0:e (xs.take k) x=0):fV e (xs.take k) (xs.drop k)=fV e (xs.take (k+1)) (xs.drop (k+1)):=by
 have hk:=(aE.1 hx).1;have h2:=(aE.1 hx).2;rw[List.drop_eq_getElem_cons hk,h2,fV,if_pos h0,List.take_add_one,hx];rfl
theorem cZ{k:Nat}{x:α}{c:Int}(hx:xs[k]? =some x)(h0:e (xs.take k) x=c)(hc:c≠0):fV e (xs.take k) (xs.drop k)=c:=by
 have hk:=(aE.1 hx).1;have h2:=(aE.1 hx).2;rw[List.drop_eq_getElem_cons hk,h2,fV,aK (by rw[h0];exact hc),h0]
theorem kE{k:Nat}(hk:xs.length<=k):fV e (xs.take k) (xs.drop k)=0:=by
 rw[List.drop_eq_nil_of_le hk];rfl
theorem j5(h:fV e [] xs=0):∀k x,xs[k]? =some x->e (xs.take k) x=0:=by
 have key:∀k,k<=xs.length->fV e (xs.take k) (xs.drop k)=0∧∀j x,j<k->xs[j]? =some x->e (xs.take j) x=0:=fun k=>by
  induction k with
  |zero=>intro _;exact⟨by simpa using h,fun j x hj=>by omega⟩
  |succ k ih=>
   intro hk;obtain⟨h1,h2⟩:=ih (by omega);obtain⟨x,hx⟩:∃x,xs[k]? =some x:=⟨_,aB (by omega)⟩
   have h0:e (xs.take k) x=0:=by
    by_cases h0:e (xs.take k) x=0
    ·exact h0
    ·rw[cZ hx rfl h0]at h1;exact h1
   refine⟨by rw[<-iw hx h0];exact h1,fun j y hj hy=>?_⟩;rcases aP j k with Sp|Sp
   ·exact h2 j y Sp hy
   ·have:j=k:=by omega
    subst this;rw[hx]at hy;injection hy with hy;rw[<-hy];exact h0
 exact fun k x hx=>(key xs.length (Nat.le_refl _)).2 k x (aE.1 hx).1 hx
end
def rA(n:Int):Prop:= -1000000<=n∧n<=1000000
instance (n : Int) : Decidable (rA n) := by unfold rA; infer_instance
def fW(seen:List (Int×Int×Int))(p:Int×Int×Int):Int:=if rA p.1∧rA p.2.1∧rA p.2.2 then(if p∈seen then 12 else 0)else 2
def hJ(b:Int×Int×Rat):Int×Int:=(min b.1 b.2.1,max b.1 b.2.1)
def jr(n:Nat)(i:Int):Prop:=0<=i∧i<n
instance (n : Nat) (i : Int) : Decidable (jr n i) := by unfold jr; infer_instance
def fh(n:Nat)(seen:List (Int×Int×Rat))(b:Int×Int×Rat):Int:=
 if jr n b.1∧jr n b.2.1 then(if b.1=b.2.1 then 3 else if hJ b∈seen.map hJ then 5 else if b.2.2<=0 then 2 else 0)else 6
def j4(s:Int×Int×Rat):Int×Int:=(s.1,s.2.1)
def lg(n:Nat)(seen:List (Int×Int×Rat))(s:Int×Int×Rat):Int:=
 if jr n s.1 then(if 0<=s.2.1∧s.2.1<=2 then(if j4 s∈seen.map j4 then 5 else if s.2.2<0 then 2 else 0)else 2)else 6
def eP(f:eY):Int:=
 if 20<f.nodes.length∨60<f.bars.length∨60<f.cV.length then 8 else
  if fV fW [] f.nodes≠0 then fV fW [] f.nodes else
   if fV (fh f.nodes.length) [] f.bars≠0 then fV (fh f.nodes.length) [] f.bars else fV (lg f.nodes.length) [] f.cV
def pH(n:Nat)(x:Ld):Int:=if jr n x.1 then(if rA x.2.1∧rA x.2.2.1∧rA x.2.2.2 then 0 else 2)else 6
def Gf(n:Nat)(l:List Ld):Int:=if 200<l.length then 8 else fV (fun _=>pH n) [] l
def mF(f:eY)(l:List Ld):Int:=if eP f≠0 then eP f else Gf f.nodes.length l
theorem vM{seen:List (Int×Int×Int)}:fW seen p=0↔(rA p.1∧rA p.2.1∧rA p.2.2)∧p∉seen:=by
 unfold fW;split<;>rename_i h
 ·split<;>rename_i h2<;>simp[h,h2]
 ·simp[h]
theorem oo:fh n seen b=0↔(jr n b.1∧jr n b.2.1)∧b.1≠b.2.1∧hJ b∉seen.map hJ∧0<b.2.2:=by
 unfold fh;rw[<-Rat.not_le];by_cases h:jr n b.1∧jr n b.2.1
 ·rw[if_pos h];by_cases h2:b.1=b.2.1
  ·rw[if_pos h2];exact⟨(fun e=>by cases e),fun e=>absurd h2 e.2.1⟩
  ·rw[aK h2];by_cases h3:hJ b∈seen.map hJ
   ·rw[if_pos h3];exact⟨(fun e=>by cases e),fun e=>absurd h3 e.2.2.1⟩
   ·rw[aK h3];by_cases h4:b.2.2<=0
    ·rw[if_pos h4];exact⟨(fun e=>by cases e),fun e=>absurd h4 e.2.2.2⟩
    ·rw[aK h4];exact⟨fun _=>⟨h,h2,h3,h4⟩,fun _=>rfl⟩
 ·rw[aK h];exact⟨(fun e=>by cases e),fun e=>absurd e.1 h⟩
theorem tL{s:Int×Int×Rat}:lg n seen s=0↔jr n s.1∧(0<=s.2.1∧s.2.1<=2)∧j4 s∉seen.map j4∧0<=s.2.2:=by
 unfold lg;rw[<-Rat.not_lt];by_cases h:jr n s.1<;>by_cases h2:0<=s.2.1∧s.2.1<=2<;>by_cases h3:j4 s∈seen.map j4<;>by_cases h4:s.2.2<0<;>simp only[h,h2,h3,h4]<;>simp
theorem KE:pH n x=0↔jr n x.1∧rA x.2.1∧rA x.2.2.1∧rA x.2.2.2:=by
 unfold pH;split<;>rename_i h
 ·split<;>rename_i h2<;>simp[h,h2]
 ·simp[h]
theorem yO(h:eP f=0):(f.nodes.length<=20∧f.bars.length<=60∧f.cV.length<=60)∧fV fW [] f.nodes=0∧fV (fh f.nodes.length) [] f.bars=0∧fV (lg f.nodes.length) [] f.cV=0:=by
 unfold eP at h;split at h<;>rename_i h1
 ·cases h
 ·split at h<;>rename_i h2
  ·exact absurd h h2
  ·split at h<;>rename_i h3
   ·exact absurd h h3
   ·exact⟨by omega,by simpa using h2,by simpa using h3,h⟩
theorem lM(h:eP f=0):xc f:=by
 obtain⟨⟨h1,h2,h3⟩,hn,hb,hs⟩:=yO h;refine⟨fun p hp=>?_,fun b QC=>?_,fun s Ur=>?_,h1,h2,h3⟩
 ·obtain⟨k,hk⟩:=aS hp;exact(vM.1 (j5 hn k p hk)).1
 ·obtain⟨k,hk⟩:=aS QC;exact(oo.1 (j5 hb k b hk)).1
 ·obtain⟨k,hk⟩:=aS Ur;have:=tL.1 (j5 hs k s hk);exact⟨this.1,this.2.1⟩
theorem Li(h:Gf n l=0):I7 n l:=by
 unfold Gf at h;split at h<;>rename_i h1
 ·cases h
 ·refine⟨by omega,fun x hx=>?_⟩;obtain⟨k,hk⟩:=aS hx;exact KE.1 (j5 h k x hk)
theorem qR(h:mF f l=0):eP f=0∧Gf f.nodes.length l=0:=by
 unfold mF at h;split at h<;>rename_i h1
 ·exact absurd h h1
 ·exact⟨by simpa using h1,h⟩
theorem mb(n:Int)(w:World):eA PG N.rz #[.int .i64 n,.int .i64 1000000] w (eL w fun v' _=>∃d,v'= .bool d∧(d=true↔rA n)):=by
 have hw:=bR w;refine xN (by simp) ?_;refine⟨-1000000,by decide,?_⟩;refine dG.mk ?_ ?_<;>intro h1
 ·intro ρe we re;have h1:=aH h1;exact⟨_,rfl,hw.tr re.cS,_,rfl,by rw[decide_eq_true_iff];exact⟨fun h=>⟨h1,h⟩,fun h=>h.2⟩⟩
 ·intro ρe we re;have h1:=aG h1;exact⟨_,rfl,hw.tr re.cS,_,rfl,(fun h=>by cases h),fun h=>absurd h.1 h1⟩
theorem KF(n:Int)(w:World)(an ab aq:Option Addr)(ln cn nb cb nq cq:Nat):eA PG N.zl #[.agg #[.slice an ln cn,.slice ab nb cb,.slice aq nq cq],.int .i64 n] w (eL w fun v' _=>∃d,v'= .bool d∧(d=true↔jr ln n)):=by
 have hw:=bR w;refine Cx (by simp) ?_;refine dG.mk ?_ ?_<;>intro h1
 ·intro ρe we re;have h1:=aH h1;exact⟨_,rfl,hw.tr re.cS,_,rfl,by rw[decide_eq_true_iff];exact⟨fun h=>⟨h1,h⟩,fun h=>h.2⟩⟩
 ·intro ρe we re;have h1:=aG h1;exact⟨_,rfl,hw.tr re.cS,_,rfl,(fun h=>by cases h),fun h=>absurd h.1 h1⟩
theorem Gg(x y0 y1 y2:Int)(n:Nat)(w:World):eA PG N.nm #[.agg #[.int .i64 x,.int .i64 y0,.int .i64 y1,.int .i64 y2],.int .i64 n] w (eL w fun v' _=>v'= .int .i64 (pH n (x,y0,y1,y2))):=by
 have hw:=bR w;refine sL (by simp) ?_;refine dG.mk ?_ ?_<;>intro h1
 ·have h1:=aH h1;exact rtn hw fun ρe we re=>by show Value.int .i64 _=_;rw[pH,aK (by unfold jr;omega)]
 have h1:=aG h1;refine dG.mk ?_ ?_<;>intro h2
 ·have h2:=aH h2;exact rtn hw fun ρe we re=>by show Value.int .i64 _=_;rw[pH,aK (by unfold jr;omega)]
 have h2:=aG h2;have hh:jr n x:=by unfold jr;omega
 refine cH (cE hw (fun _ w' v w2=>∃d,v= .bool d∧(d=true↔rA y0)) (fun O w' r=>mb _ w') ?_);rintro O _ _ _ Od r he hw h_ ⟨d0,rfl,Ow⟩
 cases d0
 ·have Ow:¬rA y0:=fun h=>by have:=Ow.2 h;cases this
  exact rtn hw fun ρe we re=>by show Value.int .i64 _=_;rw[pH,if_pos hh,aK (fun h=>Ow h.1)]
 replace Ow:=Ow.1 rfl;refine cH (cE hw (fun _ w' v w2=>∃d,v= .bool d∧(d=true↔rA y1)) (fun O w' r=>mb _ w') ?_);rintro O _ _ _ Oa r he hw h_ ⟨d1,rfl,PM⟩
 cases d1
 ·have PM:¬rA y1:=fun h=>by have:=PM.2 h;cases this
  exact rtn hw fun ρe we re=>by show Value.int .i64 _=_;rw[pH,if_pos hh,aK (fun h=>PM h.2.1)]
 replace PM:=PM.1 rfl;refine cH (cE hw (fun _ w' v w2=>∃d,v= .bool d∧(d=true↔rA y2)) (fun O w' r=>mb _ w') ?_);rintro O _ _ _ Oj r he hw h_ ⟨d2,rfl,QD⟩
 cases d2
 ·have QD:¬rA y2:=fun h=>by have:=QD.2 h;cases this
  exact rtn hw fun ρe we re=>by show Value.int .i64 _=_;rw[pH,if_pos hh,aK (fun h=>QD h.2.2)]
 replace QD:=QD.1 rfl;exact rtn hw fun ρe we re=>by show Value.int .i64 _=_;rw[pH,if_pos hh,if_pos ⟨Ow,PM,QD⟩]
theorem Dw(hS:Old S w)(hl:oY w S vl l):eA PG N.mx #[vl,.int .i64 n] w (eL w fun v' _=>v'= .int .i64 (Gf n l)):=by
 have hw:=bR w;obtain⟨al,cl,rfl,QB,Rh⟩:=hl.shape;unfold maxLen at Rh;refine qq (by simp) ?_;refine dG.mk ?_ ?_<;>intro h1
 ·have h1:=aH h1;exact rtn hw fun ρe we re=>by show Value.int .i64 _=_;rw[Gf,if_pos (by omega)]
 have h1:=aG h1
 refine⟨Nat×World×Iv,fun z=>⟨[(1,iZ n),(11,sV al l.length cl),(12,iZ l.length),(13,iN z.1)],[],0,z.2.2,z.2.1⟩,fun z=>l.length-z.1,
  fun z=>z.1<=l.length∧dg w.heap.size w z.2.1∧Gf n l=fV (fun _=>pH n) (l.take z.1) (l.drop z.1),?_,?_⟩
 ·intro O w' r3;exact⟨(0,w',[]),⟨aO _,hw.tr r3.cS,by rw[Gf,aK (by omega)];rfl⟩,Sub.gn [] r3⟩
 rintro⟨i,w1,iv⟩ ⟨hi,hw,hE⟩;dsimp only at hi hw hE ⊢;refine dG.mk ?_ ?_<;>intro OW
 ·have OW:i<l.length:=by simpa using OW
  obtain⟨x,hx⟩:∃x,l[i]? =some x:=⟨_,aB OW⟩
  obtain⟨adx,cs,Pz,hP,-,PS⟩:=hl.load (by decide) hx;have hP:cs=[.int .i64 x.1,.int .i64 x.2.1,.int .i64 x.2.2.1,.int .i64 x.2.2.2]:=hP;subst hP;refine⟨adx,Pz,by omega,[.int .i64 x.1,.int .i64 x.2.1,.int .i64 x.2.2.1,.int .i64 x.2.2.2],rfl,rdO PS hw hS,?_⟩;refine cH (cE hw (fun _ w' v w2=>v= .int .i64 (pH n x)) (fun O w' r=>Gg _ _ _ _ n w') ?_);rintro O _ _ _ Od r he hw h_ rfl;obtain⟨c,hc⟩:∃c,pH n x=c:=⟨_,rfl⟩
  rw[hc];refine dG.mk ?_ ?_<;>intro hd
  ·have hd:c≠0:=by simpa using hd
   exact rtn hw fun ρe we re=>by show Value.int .i64 _=_;rw[hE,cZ hx hc hd]
  have hd:c=0:=by simpa using hd
  rw[hd]at hc;rw[iw hx hc]at hE;refine⟨((i+1:Nat):Int),wo,?_⟩;intro ρ3 w6 r3;exact⟨(i+1,w6,_),⟨OW,hw.tr r3.cS,hE⟩,Sub.gn [] r3,by dsimp only;omega⟩
 have OW:i=l.length:=aQ hi (by simpa using OW);rw[kE (by omega)]at hE;exact rtn hw fun ρe we re=>by show Value.int .i64 _=_;rw[hE]
theorem fo{cs:Array Value}(h:cs[j]? =some v)(w:World):(part T.int cs j).run PG w= .ok v w:=by
 have:=(hτ T.int _ rfl).isAgg w;simp only[part,Sem.run_bind,this,Result.andThen]
 simp[h]
theorem eq_int(d:Nat)(a b:Int)(w:World):(Op.equalIn (d+1) T.int (.int .i64 a) (.int .i64 b)).run PG w= .ok (a==b) w:=by
 unfold Op.equalIn;simp[run_underlying ((hτ T.int _ rfl).i1 rfl)]
theorem aCA(p0 p1 p2 q0 q1 q2:Int)(w:World):(Op.equal T.Node (.agg #[.int .i64 p0,.int .i64 p1,.int .i64 p2]) (.agg #[.int .i64 q0,.int .i64 q1,.int .i64 q2])).run PG w= .ok (decide (p0=q0∧p1=q1∧p2=q2)) w:=by
 have h:=run_underlying Tryz.underlying195;simp only[Op.equal,Op.maxDepth]
 unfold Op.equalIn;have a0:=fo (cs:= #[Value.int .i64 p0,Value.int .i64 p1,Value.int .i64 p2]) (j:=0) rfl;have a1:=fo (cs:= #[Value.int .i64 p0,Value.int .i64 p1,Value.int .i64 p2]) (j:=1) rfl;have a2:=fo (cs:= #[Value.int .i64 p0,Value.int .i64 p1,Value.int .i64 p2]) (j:=2) rfl;have b0:=fo (cs:= #[Value.int .i64 q0,Value.int .i64 q1,Value.int .i64 q2]) (j:=0) rfl;have b1:=fo (cs:= #[Value.int .i64 q0,Value.int .i64 q1,Value.int .i64 q2]) (j:=1) rfl;have b2:=fo (cs:= #[Value.int .i64 q0,Value.int .i64 q1,Value.int .i64 q2]) (j:=2) rfl;simp[h,a0,a1,a2,b0,b1,b2,eq_int 9998];by_cases h0:p0=q0
 ·by_cases h1:p1=q1
  ·by_cases h2:p2=q2<;>simp[h0,h1,h2]
  ·simp[h0,h1]
 ·simp[h0]
theorem aCB(p0 p1 q0 q1:Int)(w:World):(Op.equal T.GJ (.agg #[.int .i64 p0,.int .i64 p1]) (.agg #[.int .i64 q0,.int .i64 q1])).run PG w= .ok (decide (p0=q0∧p1=q1)) w:=by
 have h:=run_underlying Tryz.underlying281;simp only[Op.equal,Op.maxDepth]
 unfold Op.equalIn;have a0:=fo (cs:= #[Value.int .i64 p0,Value.int .i64 p1]) (j:=0) rfl;have a1:=fo (cs:= #[Value.int .i64 p0,Value.int .i64 p1]) (j:=1) rfl;have b0:=fo (cs:= #[Value.int .i64 q0,Value.int .i64 q1]) (j:=0) rfl;have b1:=fo (cs:= #[Value.int .i64 q0,Value.int .i64 q1]) (j:=1) rfl;simp[h,a0,a1,b0,b1,eq_int 9998];by_cases h0:p0=q0
 ·by_cases h1:p1=q1<;>simp[h0,h1]
 ·simp[h0]
abbrev Ez(p:Int×Int×Int):Value:=.agg #[.int .i64 p.1,.int .i64 p.2.1,.int .i64 p.2.2]
theorem I9(p q:Int×Int×Int)(w:World)(o1 o2:Operand):(do eqGuard .eql T.Node o1 o2 (Ez p) (Ez q);binOp .eql T.Node (Ez p) (Ez q)).run PG w= .ok (.bool (decide (p=q))) w:=by
 have h:=aCA p.1 p.2.1 p.2.2 q.1 q.2.1 q.2.2 w;simp[eqGuard,binOp,h];obtain⟨a,b,c⟩:=p;obtain⟨a2,b2,c2⟩:=q;by_cases h0:a=a2
 ·by_cases h1:b=b2
  ·by_cases h2:c=c2<;>simp[h0,h1,h2]
  ·simp[h0,h1]
 ·simp[h0]
def pI(k:Int×Int):Value:=.agg #[.int .i64 k.1,.int .i64 k.2]
theorem s5{a b:Int×Int}(h:pI a=pI b):a=b:=by
 unfold pI at h;injection h with h;have h1:=congrArg (fun x=>x[0]?) h;have h2:=congrArg (fun x=>x[1]?) h;simp at h1 h2;exact Prod.ext h1 h2
theorem NB(d:Nat)(a:Int)(em:Bool)(w:World):(Instr.checkKey em (d+1) T.int (.int .i64 a)).run PG w= .ok () w:=by
 unfold Instr.checkKey;simp[run_underlying ((hτ T.int _ rfl).i1 rfl)]
theorem KG(p0 p1:Int)(em:Bool)(w:World):(Instr.checkKey em 10000 T.GJ (.agg #[.int .i64 p0,.int .i64 p1])).run PG w= .ok () w:=by
 have h:=run_underlying Tryz.underlying281;have a0:=fo (cs:= #[Value.int .i64 p0,Value.int .i64 p1]) (j:=0) rfl;have a1:=fo (cs:= #[Value.int .i64 p0,Value.int .i64 p1]) (j:=1) rfl;unfold Instr.checkKey;simp[h,a0,a1,NB 9998]
theorem BC:Np PG T.GJ (fun v=>∃k,v=pI k) where
 desc:=⟨_,Tryz.underlying281⟩
 check:=fun w em v ⟨k,e⟩=>by subst e;exact KG k.1 k.2 em w
 eq:=fun w a b ⟨p,e1⟩ ⟨q,e2⟩=>by
  subst e1 e2;refine⟨_,aCB p.1 p.2 q.1 q.2 w,?_⟩;rw[decide_eq_true_iff];exact⟨fun h=>by rw[show p=q from Prod.ext h.1 h.2],fun h=>by have:=s5 h;subst this;exact⟨rfl,rfl⟩⟩
theorem xd:PG.underlying T.AF=some (.map T.GJ T.bool):=Tryz.underlying279
theorem FA(w:World):(zeroValue T.bool).run PG w= .ok (.bool false) w:=by kernel_rfl
theorem aAi(ad:Option Addr)(k:Nat):ad.map (·.add (0*k))=ad:=by
 rw[Nat.zero_mul]
 cases ad with
 |none=>rfl
 |some a=>simp only[bh,Option.some.injEq];unfold Addr.add;split<;>simp_all
theorem fR.take{α:Type}{k:Nat}{P:World->(Nat->Prop)->List Value->α->Prop}{c:Nat}{xs:List α}(h:fR k P w S (.slice a n c) xs){i:Nat}(hi:i<=xs.length):
  fR k P w S (.slice a i c) (xs.take i):=by
 obtain⟨css,⟨h0,h1,h2,a',c',e,h3,h4⟩,hl,hlk,hf⟩:=h;injection e with e1 e2 e3;subst e1 e2 e3;have hlen:(css.take i).length=i:=by rw[aZ,hl];omega
 have UB:(xs.take i).length=i:=by rw[aZ];omega
 have WQ:css.flatten=(css.take i).flatten++(css.drop i).flatten:=by rw[<-List.flatten_append,List.take_append_drop]
 refine⟨css.take i,⟨by omega,?_,fun u hu=>h2 u (by rw[WQ];exact List.mem_append_left _ hu),a,c,by rw[UB],by omega,fun j u hj=>h4 j u ?_⟩,by rw[hlen,UB],fun cs hc=>hlk cs (bc hc),fun j cs x k1 k2=>?_⟩
 ·rw[yt fun cs hc=>hlk cs (bc hc),hlen,UB]
 ·rw[WQ,aJ (aE.1 hj).1];exact hj
 ·have hj:=(aE.1 k1).1;rw[hlen]at hj;rw[bZ hj]at k1 k2;exact hf j cs x k1 k2
theorem oX.cJ{w2:World}(h:oX w S v xs)(hk:∀g,S g->w2.heap[g]? =w.heap[g]?):oX w2 S v xs:=fR.cJ (w:=w) (fun _ _ h=>h) h hk
theorem Gi(hS:Old S w)(hn:oX w S vn xs)(p:Int×Int×Int):eA PG N.gM #[vn,Ez p] w (eL w fun v' _=>∃r,v'= .int .i64 r∧(-1<=r)∧(0<=r↔p∈xs)):=by
 have hw:=bR w;obtain⟨an,cn,rfl,hcn,RN⟩:=hn.shape;unfold maxLen at RN;refine jX (by simp) ?_
 refine⟨Nat×World,fun z=>⟨[(0,sV an xs.length cn),(3,pP 0 0),(7,iZ xs.length),(8,iN z.1)],[(0,.box T.Node [.v (.int .i64 p.1),.v (.int .i64 p.2.1),.v (.int .i64 p.2.2)])],1,[],z.2⟩,fun z=>xs.length-z.1,
  fun z=>z.1<=xs.length∧dg w.heap.size w z.2∧(p∈xs↔p∈xs.drop z.1),?_,?_⟩
 ·intro O w' r3;exact⟨(0,w'),⟨aO _,hw.tr r3.cS,Iff.rfl⟩,Sub.gn [] r3⟩
 rintro⟨i,w1⟩ ⟨hi,hw,hE⟩;dsimp only at hi hw hE ⊢;refine dG.mk ?_ ?_<;>intro OW
 ·have OW:i<xs.length:=by simpa using OW
  obtain⟨q,hx⟩:∃x,xs[i]? =some x:=⟨_,aB OW⟩
  have hdr:xs.drop i=q::xs.drop (i+1):=by rw[List.drop_eq_getElem_cons OW,(aE.1 hx).2]
  obtain⟨adx,cs,Pz,hP,-,PS⟩:=hn.load (by decide) hx;have hP:cs=[.int .i64 q.1,.int .i64 q.2.1,.int .i64 q.2.2]:=hP;subst hP;refine ja hτ dZ (.x 1 (.x 2 (.x 3 (.ld 0 32 (.ld 4 32 (.x 5 .nil)))))) (by kernel_rfl) (by kernel_rfl) ?_;refine⟨adx,Pz,by omega,[.int .i64 q.1,.int .i64 q.2.1,.int .i64 q.2.2],rfl,rdO PS hw hS,decide (p=q),fun O w o1 o2=>I9 p q w o1 o2,?_⟩;refine dG.mk ?_ ?_<;>intro hd
  ·have hd:p=q:=aH hd;exact rtn hw fun ρe we re=>⟨_,rfl,by omega,iff_of_true (by omega) (hE.2 (by rw[hdr,hd];exact aI))⟩
  have hd:p≠q:=aG hd;rw[hdr,List.mem_cons,or_iff_right hd]at hE;refine⟨((i+1:Nat):Int),wo,?_⟩;intro ρ3 w6 r3;exact⟨(i+1,w6),⟨OW,hw.tr r3.cS,hE⟩,Sub.gn [] r3,by dsimp only;omega⟩
 have OW:i=xs.length:=aQ hi (by simpa using OW);rw[OW,List.drop_length]at hE;exact rtn hw fun ρe we re=>⟨_,rfl,by omega,iff_of_false (by omega) fun h=>by cases hE.1 h⟩
theorem Ad(hS:Old S w)(hn:oX w S vn xs)(p:Int×Int×Int):eA PG N.fy #[vn,Ez p] w (eL w fun v' _=>∃d,v'= .bool d∧(d=true↔p∈xs)):=by
 have hw:=bR w;obtain⟨an,cn,rfl,hcn,RN⟩:=hn.shape;refine jD (by simp) ?_;refine cH (cE hw (fun _ w' v w2=>∃r,v= .int .i64 r∧(-1<=r)∧(0<=r↔p∈xs)) (fun O w' r=>Gi (p:=p) (oS hS r) (oX.cJ hn (kS hw r hS))) ?_);rintro O _ _ _ Od r he hw h_ ⟨r0,rfl,hr0,TQ⟩;exact rtn hw fun ρe we re=>⟨_,rfl,by rw[decide_eq_true_iff];exact TQ⟩
def Ae(w:World)(S:Nat->Prop)(g:Nat)(ks:List Value):Prop:=S g∧HT w g ks
section
variable{S:Nat->Prop}{H:Hp}{nx:Nat}{iv iv':Iv}{B:Nat}{w w' w2:World}{O:Nat->Sx.eE}{g:Nat}{ks:List Value}
theorem Ae.rel(h:Ae w (Cv S B iv) g ks)(r:Rel H nx iv B w O w')(hS:∀g,S g->g<B):Ae w' (Cv S B iv) g ks:=⟨h.1,h.2.cJ (Rel.same r hS h.1)⟩
theorem Ae.cK(h:Ae w (Cv S B iv) g ks)(r:Rel H nx iv B w O w')(hS:∀g,S g->g<B)(he:Ext w' w2)(hm:∀p,p∈iv->p∈iv'):Ae w2 (Cv S B iv') g ks:=
 ⟨h.1.mono hm,(h.rel r hS).2.cJ (he.block g (Rel.old r hS g h.1))⟩
end
set_option maxHeartbeats 2000000 in
theorem DK(hS:Old S w)(hf:dX w S vn vb vs f):eA PG N.tv #[.agg #[vn,vb,vs]] w (eL w fun v' _=>v'= .int .i64 (eP f)):=by
 have hw:=bR w;obtain⟨an,cn,ab,cb,aq,cq,rfl,rfl,rfl,RN,RJ,SF⟩:=hf.shape;obtain⟨_,_,hsh,hcn,_⟩:=hf.nodes.shape;injection hsh with e1 e2 e3;subst e1 e3;refine yb (by simp) ?_;refine dG.mk ?_ ?_<;>intro h0
 ·have h0:=aH h0;exact rtn hw fun ρe we re=>by show Value.int .i64 _=_;rw[eP,if_pos (by omega)]
 have h0:=aG h0;refine dG.mk ?_ ?_<;>intro h1
 ·have h1:=aH h1;exact rtn hw fun ρe we re=>by show Value.int .i64 _=_;rw[eP,if_pos (by omega)]
 have h1:=aG h1;refine dG.mk ?_ ?_<;>intro h2
 ·have h2:=aH h2;exact rtn hw fun ρe we re=>by show Value.int .i64 _=_;rw[eP,if_pos (by omega)]
 have h2:=aG h2
 refine⟨Nat×World×Iv,fun z=>⟨[(1,pP 0 0),(30,sV an f.nodes.length cn),(31,iZ f.nodes.length),(32,iN z.1)],[(0,.box T.Frame [.v (.slice an f.nodes.length cn),.v (.slice ab f.bars.length cb),.v (.slice aq f.cV.length cq)])],1,z.2.2,z.2.1⟩,fun z=>f.nodes.length-z.1,
  fun z=>z.1<=f.nodes.length∧dg w.heap.size w z.2.1∧fV fW [] f.nodes=fV fW (f.nodes.take z.1) (f.nodes.drop z.1),?_,?_⟩
 ·intro O w' r3;exact⟨(0,w',[]),⟨aO _,hw.tr r3.cS,rfl⟩,Sub.gn [] r3⟩
 rintro⟨i,w1,iv⟩ ⟨hi,hw,hE⟩;dsimp only at hi hw hE ⊢;refine dG.mk ?_ ?_<;>intro OW
 ·have OW:i<f.nodes.length:=by simpa using OW
  obtain⟨q,hx⟩:∃x,f.nodes[i]? =some x:=⟨_,aB OW⟩
  obtain⟨adx,cs,Pz,hP,-,PS⟩:=hf.nodes.load (by decide) hx;have hP:cs=[.int .i64 q.1,.int .i64 q.2.1,.int .i64 q.2.2]:=hP;subst hP;refine⟨adx,Pz,by omega,[.int .i64 q.1,.int .i64 q.2.1,.int .i64 q.2.2],rfl,rdO PS hw hS,?_⟩;refine cH (cE hw (fun _ w' v w2=>∃d,v= .bool d∧(d=true↔rA q.1)) (fun O w' r=>mb _ w') ?_);rintro O Pa v1 PJ Od r he hw h_ ⟨d0,rfl,Ow⟩
  cases d0
  ·have Ow:¬rA q.1:=fun h=>by have:=Ow.2 h;cases this
   exact rtn hw fun ρe we re=>by show Value.int .i64 _=_;rw[eP,aK (by omega),if_pos (by rw[hE,cZ hx (show fW (f.nodes.take i) q=2 by rw[fW,aK (fun h=>Ow h.1)]) (by decide)];decide),hE,cZ hx (show fW (f.nodes.take i) q=2 by rw[fW,aK (fun h=>Ow h.1)]) (by decide)]
  replace Ow:=Ow.1 rfl;refine cH (cE hw (fun _ w' v w2=>∃d,v= .bool d∧(d=true↔rA q.2.1)) (fun O w' r=>mb _ w') ?_);rintro O QR v2 PY Oa r he hw h_ ⟨d1,rfl,PM⟩
  cases d1
  ·have PM:¬rA q.2.1:=fun h=>by have:=PM.2 h;cases this
   exact rtn hw fun ρe we re=>by show Value.int .i64 _=_;rw[eP,aK (by omega),if_pos (by rw[hE,cZ hx (show fW (f.nodes.take i) q=2 by rw[fW,aK (fun h=>PM h.2.1)]) (by decide)];decide),hE,cZ hx (show fW (f.nodes.take i) q=2 by rw[fW,aK (fun h=>PM h.2.1)]) (by decide)]
  replace PM:=PM.1 rfl;refine cH (cE hw (fun _ w' v w2=>∃d,v= .bool d∧(d=true↔rA q.2.2)) (fun O w' r=>mb _ w') ?_);rintro O Pg v3 Pc Oj r he hw h_ ⟨d2,rfl,QD⟩
  cases d2
  ·have QD:¬rA q.2.2:=fun h=>by have:=QD.2 h;cases this
   exact rtn hw fun ρe we re=>by show Value.int .i64 _=_;rw[eP,aK (by omega),if_pos (by rw[hE,cZ hx (show fW (f.nodes.take i) q=2 by rw[fW,aK (fun h=>QD h.2.2)]) (by decide)];decide),hE,cZ hx (show fW (f.nodes.take i) q=2 by rw[fW,aK (fun h=>QD h.2.2)]) (by decide)]
  replace QD:=QD.1 rfl;refine ja hτ dZ (.x 0 (.x 2 (.ld 1 104 (.x 3 (.ld 4 96 (.x 5 (.x 6 .nil))))))) (by kernel_rfl) (by kernel_rfl) ?_;refine⟨⟨by omega,by omega,by omega⟩,an,i,cn,by rw[show ((0:Int).toNat*3)=0*3 from rfl,aAi];split<;>rfl,by simp,by simp,?_⟩;refine cE hw (fun _ w' v w2=>∃d,v= .bool d∧(d=true↔q∈f.nodes.take i)) (fun O w' r=>Ad (p:=q) (oS hS r) (oX.cJ (hf.nodes.take (Nat.le_of_lt OW)) (kS hw r hS))) ?_;rintro O _ _ _ Oz r he hw h_ ⟨d3,rfl,hz3⟩
  cases d3
  ·have hz3:q∉f.nodes.take i:=fun h=>by have:=hz3.2 h;cases this
   rw[iw hx (vM.2 ⟨⟨Ow,PM,QD⟩,hz3⟩)]at hE;refine⟨((i+1:Nat):Int),wo,?_⟩;intro ρ3 w6 r3;exact⟨(i+1,w6,_),⟨OW,hw.tr r3.cS,hE⟩,Sub.gn [] r3,by dsimp only;omega⟩
  replace hz3:=hz3.1 rfl;exact rtn hw fun ρe we re=>by show Value.int .i64 _=_;rw[eP,aK (by omega),if_pos (by rw[hE,cZ hx (show fW (f.nodes.take i) q=12 by rw[fW,if_pos ⟨Ow,PM,QD⟩,if_pos hz3]) (by decide)];decide),hE,cZ hx (show fW (f.nodes.take i) q=12 by rw[fW,if_pos ⟨Ow,PM,QD⟩,if_pos hz3]) (by decide)]
 have OW:i=f.nodes.length:=aQ hi (by simpa using OW);rw[kE (by omega)]at hE;refine zG (fun O wa wb r TR hg Oo=>?_);have PI:=(hw.tr r.cS).tr (dg.grown hg (fun x e=>by cases e) r.cI);have hB:w.heap.size<=wa.heap.size:=r.cI;have hM:Ae wb (Cf w ((wa.heap.size,wa.heap.size+1)::iv)) wa.heap.size []:=⟨.inr ⟨hB,_,_,aI,Nat.le_refl _,bU _⟩,TR⟩
 generalize (wa.heap.size,wa.heap.size+1)::iv=Oa at*
 obtain⟨gm,YF⟩:∃gm,wa.heap.size=gm:=⟨_,rfl⟩
 rw[YF]at hM ⊢;have hw:=PI
 refine⟨Nat×World×Iv,fun z=>⟨[(1,pP 0 0),(5,.o (.v (.map (some gm)))),(64,sV ab f.bars.length cb),(65,iZ f.bars.length),(66,iN z.1)],[(0,.box T.Frame [.v (.slice an f.nodes.length cn),.v (.slice ab f.bars.length cb),.v (.slice aq f.cV.length cq)])],1,z.2.2,z.2.1⟩,fun z=>f.bars.length-z.1,
  fun z=>z.1<=f.bars.length∧dg w.heap.size w z.2.1∧fV (fh f.nodes.length) [] f.bars=fV (fh f.nodes.length) (f.bars.take z.1) (f.bars.drop z.1)∧Ae z.2.1 (Cf w z.2.2) gm ((f.bars.take z.1).map fun b=>pI (hJ b)),?_,?_⟩
 ·intro O w' r3;exact⟨(0,w',Oa),⟨aO _,hw.tr r3.cS,rfl,hM.rel r3 (cG w)⟩,Sub.gn [] r3⟩
 rintro⟨i,w1,iv⟩ ⟨hi,hw,PE,hM⟩;dsimp only at hi hw PE hM ⊢;refine dG.mk ?_ ?_<;>intro OW
 ·have OW:i<f.bars.length:=by simpa using OW
  obtain⟨b,hx⟩:∃b,f.bars[i]? =some b:=⟨_,aB OW⟩
  obtain⟨adb,cs,QA,hF,-,PA⟩:=hf.bars.load (by decide) hx;obtain⟨g0,g1,g2,g3,g4,g5,g6,g7,rfl,hF⟩:=hF;refine⟨adb,QA,by omega,[.int .i64 b.1,.int .i64 b.2.1,.bool g0,.slice g1 g2 g3,.bool g4,.slice g5 g6 g7],rfl,rdO PA hw hS,?_⟩;refine cH (cE hw (fun _ w' v w2=>∃d,v= .bool d∧(d=true↔jr f.nodes.length b.1)) (fun O w' r=>KF _ w' _ _ _ _ _ _ _ _ _) ?_);rintro O Pa v1 PJ Od r he hw h_ ⟨d0,rfl,Ow⟩;replace hM:=hM.cK r (cG w) he (mC h_)
  cases d0
  ·have Ow:¬jr f.nodes.length b.1:=fun h=>by have:=Ow.2 h;cases this
   exact rtn hw fun ρe we re=>by show Value.int .i64 _=_;rw[eP,aK (by omega),aK (by rw[hE];decide),if_pos (by rw[PE,cZ hx (show fh f.nodes.length (f.bars.take i) b=6 by rw[fh,aK (fun h=>Ow h.1)]) (by decide)];decide),PE,cZ hx (show fh f.nodes.length (f.bars.take i) b=6 by rw[fh,aK (fun h=>Ow h.1)]) (by decide)]
  replace Ow:=Ow.1 rfl;refine cH (cE hw (fun _ w' v w2=>∃d,v= .bool d∧(d=true↔jr f.nodes.length b.2.1)) (fun O w' r=>KF _ w' _ _ _ _ _ _ _ _ _) ?_);rintro O QR v2 PY Oa r he hw h_ ⟨d1,rfl,PM⟩;replace hM:=hM.cK r (cG w) he (mC h_)
  cases d1
  ·have PM:¬jr f.nodes.length b.2.1:=fun h=>by have:=PM.2 h;cases this
   exact rtn hw fun ρe we re=>by show Value.int .i64 _=_;rw[eP,aK (by omega),aK (by rw[hE];decide),if_pos (by rw[PE,cZ hx (show fh f.nodes.length (f.bars.take i) b=6 by rw[fh,aK (fun h=>PM h.2)]) (by decide)];decide),PE,cZ hx (show fh f.nodes.length (f.bars.take i) b=6 by rw[fh,aK (fun h=>PM h.2)]) (by decide)]
  replace PM:=PM.1 rfl;refine dG.mk ?_ ?_<;>intro Px
  ·have Px:b.1=b.2.1:=by simpa using Px
   exact rtn hw fun ρe we re=>by show Value.int .i64 _=_;rw[eP,aK (by omega),aK (by rw[hE];decide),if_pos (by rw[PE,cZ hx (show fh f.nodes.length (f.bars.take i) b=3 by rw[fh,if_pos ⟨Ow,PM⟩,if_pos Px]) (by decide)];decide),PE,cZ hx (show fh f.nodes.length (f.bars.take i) b=3 by rw[fh,if_pos ⟨Ow,PM⟩,if_pos Px]) (by decide)]
  have Px:b.1≠b.2.1:=by simpa using Px
  refine BU BC xd FA rfl rfl (key:=pI (hJ b)) (fun _=>rfl) ⟨_,rfl⟩ (fun k hk=>by obtain⟨x,_,rfl⟩:=aT.1 hk;exact⟨_,rfl⟩) (fun O w' r=>(hM.rel r (cG w)).2) (fun O w' d r hd=>?_);replace hw:=hw.tr r.cS;replace hM:=hM.rel r (cG w);replace hd:d=true↔hJ b∈(f.bars.take i).map hJ:=by
   rw[hd];constructor
   ·intro h;obtain⟨x,h1,h2⟩:=aT.1 h;exact aT.2 ⟨x,h1,s5 h2⟩
   ·intro h;obtain⟨x,h1,h2⟩:=aT.1 h;exact aT.2 ⟨x,h1,congrArg pI h2⟩
  cases d
  ·have Qq:hJ b∉(f.bars.take i).map hJ:=fun h=>by have:=hd.2 h;cases this
   refine cH (cE hw (fun _ w' v w2=>v= .int .i64 (rs b.2.2)) (fun O w' r=>(Jw (oS hS r) (hF.v.cJ (kS hw r hS)) (eS.zero (S:=S)).v).mono fun _ _ ⟨v2,e1,e2,e3⟩=>⟨v2,e1,e2,by rw[e3,oF]⟩) ?_);rintro O _ _ _ Oj r he hw h_ rfl;replace hM:=hM.cK r (cG w) he (mC h_);obtain⟨cf,hcf⟩:∃c,rs b.2.2=c:=⟨_,rfl⟩
   rw[hcf];refine dG.mk ?_ ?_<;>intro PF
   ·have PF:b.2.2<=0:=by have:=aH PF;rw[<-Rat.not_lt,<-j9];omega
    exact rtn hw fun ρe we re=>by show Value.int .i64 _=_;rw[eP,aK (by omega),aK (by rw[hE];decide),if_pos (by rw[PE,cZ hx (show fh f.nodes.length (f.bars.take i) b=2 by rw[fh,if_pos ⟨Ow,PM⟩,aK Px,aK Qq,if_pos PF]) (by decide)];decide),PE,cZ hx (show fh f.nodes.length (f.bars.take i) b=2 by rw[fh,if_pos ⟨Ow,PM⟩,aK Px,aK Qq,if_pos PF]) (by decide)]
   ·have PF:0<b.2.2:=by have:=aG PF;rw[<-j9];omega
    refine tf BC xd rfl rfl (key:=pI (hJ b)) (fun _=>rfl) rfl ⟨_,rfl⟩ (fun k hk=>by obtain⟨x,_,rfl⟩:=aT.1 hk;exact⟨_,rfl⟩) (fun h=>by
     obtain⟨x,h1,h2⟩:=aT.1 h
     exact Qq (aT.2 ⟨x,h1,s5 h2⟩)) (fun O w' r=>⟨(hM.rel r (cG w)).2,Rel.not r (cG w) hM.1⟩) (fun O wa wb r Q2 hg Oo=>?_)
    replace hw:=(hw.tr r.cS).tr (dg.grown hg (fun x e=>by injection e with e;subst e;exact hM.1.elim (fun h=>h.elim) fun h=>h.1) r.cI);rw[show ((f.bars.take i).map fun b=>pI (hJ b))++[pI (hJ b)]=(f.bars.take (i+1)).map fun b=>pI (hJ b) by rw[List.take_add_one,hx];simp]at Q2;replace hM:Ae wb (Cf w Oj) gm ((f.bars.take (i+1)).map fun b=>pI (hJ b)):=⟨hM.1,Q2⟩
    rw[iw hx (oo.2 ⟨⟨Ow,PM⟩,Px,Qq,PF⟩)]at PE;refine⟨((i+1:Nat):Int),wo,?_⟩;intro ρ3 w6 r3;exact⟨(i+1,w6,_),⟨OW,hw.tr r3.cS,PE,hM.rel r3 (cG w)⟩,Sub.gn [] r3,by dsimp only;omega⟩
  ·have hd:=hd.1 rfl;exact rtn hw fun ρe we re=>by show Value.int .i64 _=_;rw[eP,aK (by omega),aK (by rw[hE];decide),if_pos (by rw[PE,cZ hx (show fh f.nodes.length (f.bars.take i) b=5 by rw[fh,if_pos ⟨Ow,PM⟩,aK Px,if_pos hd]) (by decide)];decide),PE,cZ hx (show fh f.nodes.length (f.bars.take i) b=5 by rw[fh,if_pos ⟨Ow,PM⟩,aK Px,if_pos hd]) (by decide)]
 have OW:i=f.bars.length:=aQ hi (by simpa using OW);rw[kE (by omega)]at PE;have Vi:=PE;refine zG (fun O wa wb r TR hg Oo=>?_);have PI:=(hw.tr r.cS).tr (dg.grown hg (fun x e=>by cases e) r.cI);have hB:w.heap.size<=wa.heap.size:=r.cI;have hM:Ae wb (Cf w ((wa.heap.size,wa.heap.size+1)::iv)) wa.heap.size []:=⟨.inr ⟨hB,_,_,aI,Nat.le_refl _,bU _⟩,TR⟩
 generalize (wa.heap.size,wa.heap.size+1)::iv=Oa at*
 obtain⟨gm,YF⟩:∃gm,wa.heap.size=gm:=⟨_,rfl⟩
 rw[YF]at hM ⊢;have hw:=PI
 refine⟨Nat×World×Iv,fun z=>⟨[(1,pP 0 0),(9,.o (.v (.map (some gm)))),(115,sV aq f.cV.length cq),(116,iZ f.cV.length),(117,iN z.1)],[(0,.box T.Frame [.v (.slice an f.nodes.length cn),.v (.slice ab f.bars.length cb),.v (.slice aq f.cV.length cq)])],1,z.2.2,z.2.1⟩,fun z=>f.cV.length-z.1,
  fun z=>z.1<=f.cV.length∧dg w.heap.size w z.2.1∧fV (lg f.nodes.length) [] f.cV=fV (lg f.nodes.length) (f.cV.take z.1) (f.cV.drop z.1)∧Ae z.2.1 (Cf w z.2.2) gm ((f.cV.take z.1).map fun b=>pI (j4 b)),?_,?_⟩
 ·intro O w' r3;exact⟨(0,w',Oa),⟨aO _,hw.tr r3.cS,rfl,hM.rel r3 (cG w)⟩,Sub.gn [] r3⟩
 rintro⟨i,w1,iv⟩ ⟨hi,hw,PE,hM⟩;dsimp only at hi hw PE hM ⊢;refine dG.mk ?_ ?_<;>intro OW
 ·have OW:i<f.cV.length:=by simpa using OW
  obtain⟨b,hx⟩:∃b,f.cV[i]? =some b:=⟨_,aB OW⟩
  obtain⟨adb,cs,QA,hF,-,PA⟩:=hf.cV.load (by decide) hx;obtain⟨g0,g1,g2,g3,g4,g5,g6,g7,rfl,hF⟩:=hF;refine⟨adb,QA,by omega,[.int .i64 b.1,.int .i64 b.2.1,.bool g0,.slice g1 g2 g3,.bool g4,.slice g5 g6 g7],rfl,rdO PA hw hS,?_⟩;refine cH (cE hw (fun _ w' v w2=>∃d,v= .bool d∧(d=true↔jr f.nodes.length b.1)) (fun O w' r=>KF _ w' _ _ _ _ _ _ _ _ _) ?_);rintro O _ _ _ Od r he hw h_ ⟨d0,rfl,Ow⟩;replace hM:=hM.cK r (cG w) he (mC h_)
  cases d0
  ·have Ow:¬jr f.nodes.length b.1:=fun h=>by have:=Ow.2 h;cases this
   exact rtn hw fun ρe we re=>by show Value.int .i64 _=_;rw[eP,aK (by omega),aK (by rw[hE];decide),aK (by rw[Vi];decide),PE,cZ hx (show lg f.nodes.length (f.cV.take i) b=6 by rw[lg,aK Ow]) (by decide)]
  replace Ow:=Ow.1 rfl;refine dG.mk ?_ ?_<;>intro Sb
  ·have Sb:=aH Sb;exact rtn hw fun ρe we re=>by show Value.int .i64 _=_;rw[eP,aK (by omega),aK (by rw[hE];decide),aK (by rw[Vi];decide),PE,cZ hx (show lg f.nodes.length (f.cV.take i) b=2 by rw[lg,if_pos Ow,aK (fun h=>by omega)]) (by decide)]
  have Sb:=aG Sb;refine dG.mk ?_ ?_<;>intro RI
  ·have RI:=aH RI;exact rtn hw fun ρe we re=>by show Value.int .i64 _=_;rw[eP,aK (by omega),aK (by rw[hE];decide),aK (by rw[Vi];decide),PE,cZ hx (show lg f.nodes.length (f.cV.take i) b=2 by rw[lg,if_pos Ow,aK (fun h=>by omega)]) (by decide)]
  have RI:=aG RI;have Pz:0<=b.2.1∧b.2.1<=2:=by omega
  refine BU BC xd FA rfl rfl (key:=pI (j4 b)) (fun _=>rfl) ⟨_,rfl⟩ (fun k hk=>by obtain⟨x,_,rfl⟩:=aT.1 hk;exact⟨_,rfl⟩) (fun O w' r=>(hM.rel r (cG w)).2) (fun O w' d r hd=>?_);replace hw:=hw.tr r.cS;replace hM:=hM.rel r (cG w);replace hd:d=true↔j4 b∈(f.cV.take i).map j4:=by
   rw[hd];constructor
   ·intro h;obtain⟨x,h1,h2⟩:=aT.1 h;exact aT.2 ⟨x,h1,s5 h2⟩
   ·intro h;obtain⟨x,h1,h2⟩:=aT.1 h;exact aT.2 ⟨x,h1,congrArg pI h2⟩
  cases d
  ·have Qq:j4 b∉(f.cV.take i).map j4:=fun h=>by have:=hd.2 h;cases this
   refine cH (cE hw (fun _ w' v w2=>v= .int .i64 (rs b.2.2)) (fun O w' r=>(Jw (oS hS r) (hF.v.cJ (kS hw r hS)) (eS.zero (S:=S)).v).mono fun _ _ ⟨v2,e1,e2,e3⟩=>⟨v2,e1,e2,by rw[e3,oF]⟩) ?_);rintro O _ _ _ Oa r he hw h_ rfl;replace hM:=hM.cK r (cG w) he (mC h_);obtain⟨cf,hcf⟩:∃c,rs b.2.2=c:=⟨_,rfl⟩
   rw[hcf];refine dG.mk ?_ ?_<;>intro PF
   ·have PF:b.2.2<0:=by have:=aH PF;rw[<-nG];omega
    exact rtn hw fun ρe we re=>by show Value.int .i64 _=_;rw[eP,aK (by omega),aK (by rw[hE];decide),aK (by rw[Vi];decide),PE,cZ hx (show lg f.nodes.length (f.cV.take i) b=2 by rw[lg,if_pos Ow,if_pos Pz,aK Qq,if_pos PF]) (by decide)]
   ·have PF:0<=b.2.2:=by have:=aG PF;rw[<-Rat.not_lt,<-nG];omega
    refine tf BC xd rfl rfl (key:=pI (j4 b)) (fun _=>rfl) rfl ⟨_,rfl⟩ (fun k hk=>by obtain⟨x,_,rfl⟩:=aT.1 hk;exact⟨_,rfl⟩) (fun h=>by
     obtain⟨x,h1,h2⟩:=aT.1 h
     exact Qq (aT.2 ⟨x,h1,s5 h2⟩)) (fun O w' r=>⟨(hM.rel r (cG w)).2,Rel.not r (cG w) hM.1⟩) (fun O wa wb r Q2 hg Oo=>?_)
    replace hw:=(hw.tr r.cS).tr (dg.grown hg (fun x e=>by injection e with e;subst e;exact hM.1.elim (fun h=>h.elim) fun h=>h.1) r.cI);rw[show ((f.cV.take i).map fun b=>pI (j4 b))++[pI (j4 b)]=(f.cV.take (i+1)).map fun b=>pI (j4 b) by rw[List.take_add_one,hx];simp]at Q2;replace hM:Ae wb (Cf w Oa) gm ((f.cV.take (i+1)).map fun b=>pI (j4 b)):=⟨hM.1,Q2⟩
    rw[iw hx (tL.2 ⟨Ow,Pz,Qq,PF⟩)]at PE;refine⟨((i+1:Nat):Int),wo,?_⟩;intro ρ3 w6 r3;exact⟨(i+1,w6,_),⟨OW,hw.tr r3.cS,PE,hM.rel r3 (cG w)⟩,Sub.gn [] r3,by dsimp only;omega⟩
  ·have hd:=hd.1 rfl;exact rtn hw fun ρe we re=>by show Value.int .i64 _=_;rw[eP,aK (by omega),aK (by rw[hE];decide),aK (by rw[Vi];decide),PE,cZ hx (show lg f.nodes.length (f.cV.take i) b=5 by rw[lg,if_pos Ow,if_pos Pz,if_pos hd]) (by decide)]
 have OW:i=f.cV.length:=aQ hi (by simpa using OW);rw[kE (by omega)]at PE;exact rtn hw fun ρe we re=>by show Value.int .i64 _=_;rw[eP,aK (by omega),aK (by rw[hE];decide),aK (by rw[Vi];decide),PE]
theorem s6(hS:Old S w)(hf:dX w S vn vb vs f)(hl:oY w S vl l):eA PG N.my #[.agg #[vn,vb,vs],vl] w (eL w fun v' _=>v'= .int .i64 (mF f l)):=by
 have hw:=bR w;obtain⟨an,cn,ab,cb,aq,cq,rfl,rfl,rfl,RN,RJ,SF⟩:=hf.shape;obtain⟨al,cl,rfl,QB,Rh⟩:=hl.shape;refine qt (by simp) ?_;refine cH (cE hw (fun _ w' v w2=>v= .int .i64 (eP f)) (fun O w' r=>DK (oS hS r) (hf.cJ (kS hw r hS))) ?_);rintro O _ _ _ Od r he hw h_ rfl;obtain⟨c,hc⟩:∃c,eP f=c:=⟨_,rfl⟩
 rw[hc];refine dG.mk ?_ ?_<;>intro hd
 ·have hd:c≠0:=by simpa using hd
  exact rtn hw fun ρe we re=>by show Value.int .i64 _=_;rw[mF,if_pos (by rw[hc];exact hd),hc]
 have hd:c=0:=by simpa using hd
 refine cH (cE hw (fun _ w' v w2=>v= .int .i64 (Gf f.nodes.length l)) (fun O w' r=>Dw (oS hS r) (hl.cJ (kS hw r hS))) ?_);rintro O _ _ _ Oa r he hw h_ rfl;exact rtn hw fun ρe we re=>by show Value.int .i64 _=_;rw[mF,aK (by rw[hc,hd];decide)]
structure Calm(f:eY)(h:Nat):Prop where
 ok:xc f
 c0:0<f.cols
 b2:Ga (cU f) f.cols h
 a2:Ht (db (cU f) f.cols).1 h
 st:mO (cU f) f.cols=[]
 hh:3*h<=90000
structure aED(f:eY)(l:List Ld)(h:Nat)(x:List Rat):Prop where
 ok:I7 f.nodes.length l
 b1:Ga (kl (cU f) (eB (ki f l) (-1))) (f.cols+1) h
 x:pf (cU f) (eB (ki f l) (-1)) f.cols=some x
theorem zo(f:eY)(l:List Ld):(ki f l).length=3*f.nodes.length:=by rw[ki,dH,aL,qP]
theorem k9(a b:List Rat):(fm a b).length=a.length:=List.length_mapIdx ..
theorem aDG{r s:Nat}(h1:r*r<=n)(h2:n<(r+1)*(r+1))(h3:s*s<=n)(h4:n<(s+1)*(s+1)):r=s:=by
 rcases bs r s with h|h|h
 ·have:=Nat.mul_le_mul (show r+1<=s from h) (show r+1<=s from h);omega
 ·exact h
 ·have:=Nat.mul_le_mul (show s+1<=r from h) (show s+1<=r from h);omega
theorem aCC(n:Nat)(w:World)(hn:n<4000000004000000001):eA PG N.xB #[.int .i64 n] w (eL w fun v' _=>∃r:Nat,v'= .int .i64 r∧r*r<=n∧n<(r+1)*(r+1)):=by
 have hw:=bR w;refine AY (by simp) ?_
 refine⟨Nat×Int×World,fun z=>⟨[(0,iZ n),(3,iN z.1),(4,iZ z.2.1)],[],0,[],z.2.2⟩,fun z=>(z.2.1-z.1).toNat,
  fun z=>(z.1:Int)<=z.2.1∧z.2.1<=2000000000∧dg w.heap.size w z.2.2∧z.1*z.1<=n∧(n:Int)<(z.2.1+1)*(z.2.1+1),?_,?_⟩
 ·intro O w' r3;exact⟨(0,2000000000,w'),⟨by simp,by simp,hw.tr r3.cS,by simp,by dsimp only;omega⟩,Sub.gn [] r3⟩
 rintro⟨lo,hi,w1⟩ ⟨hlh,UD,hw,S6,Q8⟩;dsimp only at hlh UD hw S6 Q8 ⊢;obtain⟨hi,rfl⟩:=Int.eq_ofNat_of_zero_le (show 0<=hi by omega);replace Q8:n<(hi+1)*(hi+1):=by
  have h:((hi:Int)+1)*((hi:Int)+1)=(((hi+1)*(hi+1):Nat):Int):=by push_cast;rfl
  rw[h]at Q8;omega
 refine dG.mk ?_ ?_<;>intro OW
 ·have OW:lo<hi:=by have:=aH OW;omega
  obtain⟨m,hm⟩:∃m,(lo+hi+1) / 2=m:=⟨_,rfl⟩
  have SP:lo<m:=by omega
  have Th:m<=hi:=by omega
  have Q9:m*m<=2000000000*2000000000:=Nat.mul_le_mul (by omega) (by omega);refine⟨((lo+hi:Nat):Int),wo,((lo+hi+1:Nat):Int),wo,by decide,(m:Int),by rw[show ((lo+hi+1:Nat):Int).tdiv 2=(((lo+hi+1) / 2:Nat):Int)from rfl,hm,wrap64]<;>omega,((m*m:Nat):Int),by rw[wrap64]<;>push_cast<;>first|rfl|omega,?_⟩;refine dG.mk ?_ ?_<;>intro hd
  ·have hd:m*m<=n:=by have:=aH hd;omega
   intro ρ3 w6 r3;exact⟨(m,hi,w6),⟨by dsimp only;omega,UD,hw.tr r3.cS,hd,by dsimp only;rw[show ((hi:Int)+1)*((hi:Int)+1)=(((hi+1)*(hi+1):Nat):Int) by push_cast;rfl];omega⟩,Sub.gn [] r3,by dsimp only;omega⟩
  ·have hd:n<m*m:=by have:=aG hd;omega
   have hu3:(lo:Int)<=((m-1:Nat):Int):=by omega
   have hu4:((m-1:Nat):Int)<=2000000000:=by omega
   have UR:(n:Int)<(((m-1:Nat):Int)+1)*(((m-1:Nat):Int)+1):=by rw[show ((m-1:Nat):Int)+1=m by omega];exact_mod_cast hd
   refine⟨((m-1:Nat):Int),wo,?_⟩;intro ρ3 w6 r3;exact⟨(lo,((m-1:Nat):Int),w6),⟨hu3,hu4,hw.tr r3.cS,S6,UR⟩,Sub.gn [] r3,by dsimp only;omega⟩
 have OW:lo=hi:=by have:=aG OW;omega
 subst OW;exact rtn hw fun ρe we re=>⟨_,rfl,S6,Q8⟩
theorem aCD(n:Int)(w:World):eA PG N.l8 #[.int .i64 n] w (eL w fun v' _=>∃d,v'= .bool d∧(d=true↔0<=n∧n<=1000000)):=by
 have hw:=bR w;refine oz (by simp) ?_;refine dG.mk ?_ ?_<;>intro h1
 ·intro ρe we re;have h1:=aH h1;exact⟨_,rfl,hw.tr re.cS,_,rfl,by rw[decide_eq_true_iff];exact⟨fun h=>⟨h1,h⟩,fun h=>h.2⟩⟩
 ·intro ρe we re;have h1:=aG h1;exact⟨_,rfl,hw.tr re.cS,_,rfl,(fun h=>by cases h),fun h=>absurd h.1 h1⟩
theorem aAj(sq st:Nat)(w:World)(h0:0<sq)(h1:st<=1000000):eA PG N.tw #[.int .i64 sq,.int .i64 st] w (eL w fun v' w2=>∃r:Nat,r*r<=st*st*1000*1000 / sq∧st*st*1000*1000 / sq<(r+1)*(r+1)∧cT w2 (Nf w w2) v' (Rat.divInt r 1000)):=by
 have hw:=bR w;have h2:st*st<=1000000*1000000:=Nat.mul_le_mul h1 h1;have h4:st*st*1000*1000 / sq<=st*st*1000*1000:=Nat.div_le_self _ _;obtain⟨m,hm⟩:∃m,st*st*1000*1000 / sq=m:=⟨_,rfl⟩
 refine yd (by simp) ?_;refine⟨((st*st:Nat):Int),by rw[wrap64]<;>push_cast<;>first|rfl|omega,((st*st*1000:Nat):Int),wo,((st*st*1000*1000:Nat):Int),wo,by omega,(m:Int),by rw[show ((st*st*1000*1000:Nat):Int).tdiv (sq:Int)=((st*st*1000*1000 / sq:Nat):Int)from rfl,hm,wrap64]<;>omega,?_⟩;refine cH (cE hw (fun _ w' v w2=>∃r:Nat,v= .int .i64 r∧r*r<=m∧m<(r+1)*(r+1)) (fun O w' r=>aCC m w' (by omega)) ?_);rintro O _ _ _ Od r he hw h_ ⟨rt,rfl,TQ,Sc⟩;have hrt:rt<=2000000000:=by
  rcases aP 2000000000 rt with h|h
  ·have:=Nat.mul_le_mul h h;omega
  ·exact h
 refine cH (cE hw (fun _ w' v w2=>∃r,v= .tuple #[r,.int .i64 0]∧cT w2 (Nf w' w2) r (Rat.divInt rt 1000)) (fun O w' r=>(KH rt 1000 w' (by omega) (by omega) (by decide) (by decide)).mono fun _ _ ⟨v2,e1,e2,e3⟩=>⟨v2,e1,e2,e3.elim (fun k=>absurd k.1 (by decide)) fun h=>h.2⟩) ?_);rintro O _ _ _ Oa r he hw h_ ⟨q1,rfl,k1⟩;have hd:=k1.dK (S:=FF) r.cI (mN h_);obtain⟨s2_0a,s2_0b,s2_0c,s2_0d,s2_0e,s2_0f,s2_0g,s2_0h,rfl⟩:=hd.shape;exact rtn hw fun ρe we re=>⟨rt,hm▸TQ,hm▸Sc,hd.out re (cG w)⟩
theorem KI(sq st:Nat)(w:World)(h0:0<sq)(h2:sq<=20000000000000)(h1:st<=1000000):eA PG N.tu #[.int .i64 sq,.int .i64 st] w (eL w fun v' w2=>∃vr,∃r:Nat,v'= .tuple #[vr,.int .i64 0]∧r*r<=st*st*1000*1000 / sq∧st*st*1000*1000 / sq<(r+1)*(r+1)∧cT w2 (Nf w w2) vr (Rat.divInt r 1000)):=by
 have hw:=bR w;refine ya (by simp) ?_;refine dG.mk (fun k1=>absurd (aH k1) (by omega)) (fun _=>?_);refine dG.mk (fun k1=>absurd (aH k1) (by omega)) (fun _=>?_);refine cH (cE hw (fun _ w' v w2=>v= .bool true) (fun O w' r=>(aCD st w').mono fun _ _ ⟨v2,e1,e2,d,e3,e4⟩=>⟨v2,e1,e2,by rw[e3,e4.2 ⟨by omega,by omega⟩]⟩) ?_);rintro O _ _ _ Od r he hw h_ rfl;refine cH (cE hw (fun _ w' v w2=>∃r:Nat,r*r<=st*st*1000*1000 / sq∧st*st*1000*1000 / sq<(r+1)*(r+1)∧cT w2 (Nf w' w2) v (Rat.divInt r 1000)) (fun O w' r=>aAj sq st w' h0 h1) ?_);rintro O _ _ _ Oa r he hw h_ ⟨rt,TQ,Sc,k1⟩;have hd:=k1.dK (S:=FF) r.cI (mN h_);obtain⟨s2_0a,s2_0b,s2_0c,s2_0d,s2_0e,s2_0f,s2_0g,s2_0h,rfl⟩:=hd.shape;exact rtn hw fun ρe we re=>⟨_,rt,rfl,TQ,Sc,hd.out re (cG w)⟩
set_option maxRecDepth 100000
def aDe(m:Nat):List Value:=[.int .i64 ((m / 3:Nat):Int),.int .i64 ((m % 3:Nat):Int),.bool false,.slice none 0 0,.bool false,.slice none 0 0]
def uI(m:Nat):List (List Value):=(List.range m).map aDe
theorem KJ{i k:Nat}(hk:k<3):(uI (3*i+k)).flatten++[.int .i64 (i:Int),.int .i64 (k:Int),.bool false,.slice none 0 0,.bool false,.slice none 0 0]=(uI (3*i+(k+1))).flatten:=by
 rw[uI,uI,<-Nat.add_assoc,bM,List.map_append,List.flatten_append];simp only[List.map_cons,List.map_nil,aDe,show(3*i+k) / 3=i by omega,show(3*i+k) % 3=k by omega]
 simp
theorem NC(m:Nat):(uI m).length=m:=by rw[uI,aL,List.length_range]
theorem ND(m:Nat):∀cs∈uI m,cs.length=6:=fun cs hc=>by
 obtain⟨j,_,rfl⟩:=aT.1 hc;rfl
theorem eS.zeroV:eS w S (.agg #[.bool false,.slice none 0 0,.bool false,.slice none 0 0]) 0:=eS.zero
theorem yv(w:World):eA PG N.tq #[] w (eL w fun v' w2=>∃vn vb vs,v'= .agg #[vn,vb,vs]∧dX w2 (Nf w w2) vn vb vs gC):=by
 have hw:=bR w;refine y8 (by simp) ?_;refine cH (cE hw (fun _ w' v w2=>cT w2 (Nf w' w2) v ((1:Int):Rat)) (fun O w' r=>ic 1 w' (by decide)) ?_);rintro O _ _ _ Od r he hw h_ hn;have hd:=hn.dK (S:=FF) r.cI (mN h_);obtain⟨A0,A1,A2,A3,A4,A5,A6,A7,rfl⟩:=hd.shape;conv=>whnf
 refine⟨Nat×World,fun z=>⟨[(0,pP 0 0),(2,pP 4 0),(3,iN z.1)],[(5,.vec T.Ax 6 (uI (3*z.1)).flatten),(4,.box T.Frame [.s 2 0 3 3,.s 3 0 2 2,.w 5 (3*z.1)]),(3,.box T.Bar [.v (.int .i64 0),.v (.int .i64 2),.v (.bool A0),.v (.slice A1 A2 A3),.v (.bool A4),.v (.slice A5 A6 A7),.v (.int .i64 1),.v (.int .i64 2),.v (.bool A0),.v (.slice A1 A2 A3),.v (.bool A4),.v (.slice A5 A6 A7)]),(2,.box T.Node [.v (.int .i64 0),.v (.int .i64 0),.v (.int .i64 0),.v (.int .i64 0),.v (.int .i64 0),.v (.int .i64 4),.v (.int .i64 3),.v (.int .i64 0),.v (.int .i64 0)]),(0,.box T.Frame [.v (.slice none 0 0),.v (.slice none 0 0),.v (.slice none 0 0)])],6,Od,z.2⟩,fun z=>2-z.1,
  fun z=>z.1<=2∧dg w.heap.size w z.2∧cT z.2 (Cf w Od) (.agg #[.bool A0,.slice A1 A2 A3,.bool A4,.slice A5 A6 A7]) ((1:Int):Rat),?_,?_⟩
 ·intro O w' r;exact⟨(0,w'),⟨aO _,hw.tr r.cS,hd.rel r (cG w)⟩,Sub.Du 4 2 T.Ax 6 rfl rfl (by simp[jw,SV.sc,At.sc,fQ]) r fun ρ1 r1=>Sub.gn [] r1⟩
 rintro⟨i,w1⟩ ⟨hi,hw,hd⟩;dsimp only at hi hw hd ⊢;conv=>whnf
 refine dG.mk ?_ ?_<;>intro OW
 ·have OW:i<2:=by have:=aH OW;omega
  refine⟨Nat×World,fun z=>⟨[(0,pP 0 0),(2,pP 4 0),(3,iN i),(4,iN z.1)],[(5,.vec T.Ax 6 (uI (3*i+z.1)).flatten),(4,.box T.Frame [.s 2 0 3 3,.s 3 0 2 2,.w 5 (3*i+z.1)]),(3,.box T.Bar [.v (.int .i64 0),.v (.int .i64 2),.v (.bool A0),.v (.slice A1 A2 A3),.v (.bool A4),.v (.slice A5 A6 A7),.v (.int .i64 1),.v (.int .i64 2),.v (.bool A0),.v (.slice A1 A2 A3),.v (.bool A4),.v (.slice A5 A6 A7)]),(2,.box T.Node [.v (.int .i64 0),.v (.int .i64 0),.v (.int .i64 0),.v (.int .i64 0),.v (.int .i64 0),.v (.int .i64 4),.v (.int .i64 3),.v (.int .i64 0),.v (.int .i64 0)]),(0,.box T.Frame [.v (.slice none 0 0),.v (.slice none 0 0),.v (.slice none 0 0)])],6,Od,z.2⟩,fun z=>3-z.1,
   fun z=>z.1<=3∧dg w.heap.size w z.2∧cT z.2 (Cf w Od) (.agg #[.bool A0,.slice A1 A2 A3,.bool A4,.slice A5 A6 A7]) ((1:Int):Rat),?_,?_⟩
  ·intro O w' r3;exact⟨(0,w'),⟨aO _,hw.tr r3.cS,hd.rel r3 (cG w)⟩,Sub.gn [] r3⟩
  rintro⟨k,w3⟩ ⟨hk,hw,hd⟩;dsimp only at hk hw hd ⊢;refine dG.mk ?_ ?_<;>intro OY
  ·have OY:k<3:=by have:=aH OY;omega
   have hs:=KJ (i:=i) OY;have Ok:=yt (ND (3*i+k));have So:=NC (3*i+k);refine .inl ?_;refine⟨by omega,by omega,by unfold maxLen;omega,((k+1:Nat):Int),wo,?_⟩;intro ρ3 w6 r3;exact⟨(k+1,w6),⟨OY,hw.tr r3.cS,hd.rel r3 (cG w)⟩,Sub.gn [(5,7)] r3 ⟨by dsimp only;rw[<-hs];rfl,rfl,rfl,rfl,rfl,trivial⟩,by dsimp only;omega⟩
  have OY:k=3:=by have:=aG OY;omega
  subst OY;refine⟨((i+1:Nat):Int),wo,?_⟩;intro ρ3 w6 r3;exact⟨(i+1,w6),⟨OW,hw.tr r3.cS,hd.rel r3 (cG w)⟩,Sub.gn [] r3,by dsimp only;omega⟩
 have OW:i=2:=by have:=aG OW;omega
 subst OW;refine .inl ?_;refine⟨by decide,by decide,by decide,?_⟩;intro ρe we re;have hN:∀{id:Nat} {bk:kj},dM _ id=some bk->(ρe id).nil=false->Nf w we (ρe id).g:=fun h hn=>by
  obtain⟨h1,h2⟩:=re.low _ _ h hn;exact .inr ⟨h1,h2⟩
 have hR:=hd.out re (cG w);have hL:eS we (Nf w we) (.agg #[.bool A0,.slice A1 A2 A3,.bool A4,.slice A5 A6 A7]) 1:=hR.l (by decide);refine⟨_,rfl,hw.tr re.cS,_,_,_,rfl,?_,?_,?_⟩
 ·refine⟨[[.int .i64 0,.int .i64 0,.int .i64 0],[.int .i64 0,.int .i64 0,.int .i64 4],[.int .i64 3,.int .i64 0,.int .i64 0]],(re.qN (id:=2) (sz:=3) (n:=3) rfl rfl (by decide) (by repeat' first|refine List.forall_mem_cons.2 ⟨rfl,?_⟩|exact fun u hu=>absurd hu List.not_mem_nil)).cL fun g hg=>by subst hg;exact hN (id:=2) rfl (re.nn 2 _ rfl (by intros;simp) (by simp)),rfl,by simp,fun j cs x h1 h2=>?_⟩;rcases j with _|_|_|j
  ·cases h1;cases h2;rfl
  ·cases h1;cases h2;rfl
  ·cases h1;cases h2;rfl
  ·cases h2
 ·refine⟨[[.int .i64 0,.int .i64 2,.bool A0,.slice A1 A2 A3,.bool A4,.slice A5 A6 A7],[.int .i64 1,.int .i64 2,.bool A0,.slice A1 A2 A3,.bool A4,.slice A5 A6 A7]],(re.qN (id:=3) (sz:=6) (n:=2) rfl rfl (by decide) (by repeat' first|refine List.forall_mem_cons.2 ⟨rfl,?_⟩|exact fun u hu=>absurd hu List.not_mem_nil)).cL fun g hg=>by subst hg;exact hN (id:=3) rfl (re.nn 3 _ rfl (by intros;simp) (by simp)),rfl,by simp,fun j cs x h1 h2=>?_⟩;rcases j with _|_|j
  ·cases h1;cases h2;exact⟨_,_,_,_,_,_,_,_,rfl,hL⟩
  ·cases h1;cases h2;exact⟨_,_,_,_,_,_,_,_,rfl,hL⟩
  ·cases h2
 ·refine⟨uI 6++[[.int .i64 2,.int .i64 1,.bool false,.slice none 0 0,.bool false,.slice none 0 0]],?_,rfl,by decide,fun j cs x h1 h2=>?_⟩
  ·have h5:=re.gz (id:=7) (sz:=6) (m:=7) rfl (by decide) (by decide) (by decide) (by decide);rw[List.flatten_append];exact h5.cL fun g hg=>.inr hg
  ·rcases j with _|_|_|_|_|_|_|j
   ·cases h1;cases h2;exact⟨_,_,_,_,_,_,_,_,rfl,eS.zeroV⟩
   ·cases h1;cases h2;exact⟨_,_,_,_,_,_,_,_,rfl,eS.zeroV⟩
   ·cases h1;cases h2;exact⟨_,_,_,_,_,_,_,_,rfl,eS.zeroV⟩
   ·cases h1;cases h2;exact⟨_,_,_,_,_,_,_,_,rfl,eS.zeroV⟩
   ·cases h1;cases h2;exact⟨_,_,_,_,_,_,_,_,rfl,eS.zeroV⟩
   ·cases h1;cases h2;exact⟨_,_,_,_,_,_,_,_,rfl,eS.zeroV⟩
   ·cases h1;cases h2;exact⟨_,_,_,_,_,_,_,_,rfl,eS.zeroV⟩
   ·cases h2
structure dR(w:World)(S:Nat->Prop)(css:List (List Value))(qs:List Rat):Prop where
 len:css.length=qs.length
 four:∀cs∈css,cs.length=4
 at_:∀(j:Nat) cs q,css[j]? =some cs->qs[j]? =some q->jn w S cs q
section
variable{S S':Nat->Prop}{H:Hp}{nx:Nat}{iv iv':Iv}{B:Nat}{w w' w2:World}{O:Nat->Sx.eE}{css:List (List Value)}{qs:List Rat}
theorem dR.nil:dR w S [] []:=⟨rfl,fun _ h=>(by cases h),fun _ _ _ h=>by cases h⟩
theorem dR.cJ(h:dR w S css qs)(hk:∀g,S g->w2.heap[g]? =w.heap[g]?):dR w2 S css qs:=⟨h.len,h.four,fun j cs q h1 h2=>by
 obtain⟨b,a,n,c,b2,a2,n2,c2,e,hr⟩:=h.at_ j cs q h1 h2
 exact⟨b,a,n,c,b2,a2,n2,c2,e,hr.cJ hk⟩⟩
theorem dR.cL(h:dR w S css qs)(hk:∀g,S g->S' g):dR w S' css qs:=⟨h.len,h.four,fun j cs q h1 h2=>by
 obtain⟨b,a,n,c,b2,a2,n2,c2,e,hr⟩:=h.at_ j cs q h1 h2
 exact⟨b,a,n,c,b2,a2,n2,c2,e,hr.cL hk⟩⟩
theorem dR.rel(h:dR w (Cv S B iv) css qs)(r:Rel H nx iv B w O w')(hS:∀g,S g->g<B):dR w' (Cv S B iv) css qs:=h.cJ fun _ hg=>Rel.same r hS hg
theorem dR.cK(h:dR w (Cv S B iv) css qs)(r:Rel H nx iv B w O w')(hS:∀g,S g->g<B)(he:Ext w' w2)(hm:∀p,p∈iv->p∈iv'):dR w2 (Cv S B iv') css qs:=
 ((h.rel r hS).cJ fun g hg=>he.block g (Rel.old r hS g hg)).cL fun _ hg=>hg.mono hm
theorem dR.push(h:dR w S css qs)(hc:jn w S cs q)(h4:cs.length=4):dR w S (css++[cs]) (qs++[q]):=by
 refine⟨by simp[h.len],fun x hx=>?_,fun j x p h1 h2=>?_⟩
 ·rcases List.mem_append.1 hx with hx|hx
  ·exact h.four x hx
  ·rw[bE.1 hx];exact h4
 ·rcases aP j css.length with hi|hi
  ·rw[aJ hi]at h1;rw[aJ (by rw[<-h.len];exact hi)]at h2;exact h.at_ j x p h1 h2
  ·have Ra:j=css.length:=by have:=(aE.1 h1).1;simp at this;omega
   subst Ra;rw[aM (Nat.le_refl _),bI]at h1;rw[h.len,aM (Nat.le_refl _),bI]at h2;simp at h1 h2;subst h1 h2;exact hc
theorem dR.one(h:dR w S css qs):∀u∈css.flatten,u.oneCell'=true:=fun u hu=>by
 obtain⟨cs,hc,hu⟩:=List.mem_flatten.1 hu;obtain⟨j,hj⟩:=aS hc;obtain⟨_,_,_,_,_,_,_,_,rfl,_⟩:=h.at_ j cs _ hj (aB (by rw[<-h.len];exact(aE.1 hj).1));simp at hu;rcases hu with rfl|rfl|rfl|rfl<;>rfl
theorem dR.pC(h:dR w (Cv FF B iv) css qs)(r:Rel H nx iv B w O w')(Pk:dM H id=some (.vec T.Rat 4 css.flatten))(h0:0<css.length)(hm:css.length<=maxLen):
  eO w' FF B [(B,w'.heap.size)] ((SV.o (.w id css.length)).den O) css.length qs:=by
 have h2:=h.rel r (dN B);obtain⟨k1,k2,k3,k4⟩:=aBx r Pk rfl h0 hm ⟨h2.len,h2.at_⟩;have Rq:(SV.o (.w id css.length)).den O= .slice (some ⟨(O id).g,0,none⟩) css.length (O id).cap:=by simp[SV.den,At.den,k1]
 rw[Rq];have key:∀g,Cv FF B iv g->Cv FF B [(B,w'.heap.size)] g:=fun g hg=>
  .inr ⟨hg.elim (fun h=>h.elim) fun h=>h.1,B,w'.heap.size,bE.2 rfl,hg.elim (fun h=>h.elim) fun h=>h.1,Rel.old r (dN B) g hg⟩
 refine⟨k4.cL fun g hg=>⟨key g hg,fun e=>?_⟩,fun g hg=>?_⟩
 ·injection e with e;exact Rel.not r (dN B) hg id _ Pk k1 e
 ·injection hg with hg;subst hg;have:=(r.low id _ Pk k1).2;exact .inr ⟨k2,B,w'.heap.size,bE.2 rfl,k2,this⟩
theorem dR.list(h:dR w S css qs)(hs:jY w S 4 v css.flatten css.length):cR w S v qs:=⟨css,h.len▸hs,h.len,h.four,h.at_⟩
end
theorem Ia{l:List Int}(hS:Old S w)(hl:DJ w S v l)(hl0:0<l.length)(PU:l.length<=1000)(hb:∀z∈l,z.natAbs<1073741824):
  eA PG N.wX #[v] w (eL w fun v' w2=>eO w2 FF w.heap.size [(w.heap.size,w2.heap.size)] v' l.length (dH l)):=by
 have hw:=bR w;obtain⟨al,cl,rfl,QB,Rh⟩:=hl.shape;unfold maxLen at Rh;refine AH (by simp) ?_
 refine⟨Nat×List (List Value)×World×Iv,fun z=>⟨[(0,sV al l.length cl),(3,.o (.w 0 z.2.1.length)),(4,iN z.1)],[(0,.vec T.Rat 4 z.2.1.flatten)],1,z.2.2.2,z.2.2.1⟩,fun z=>l.length-z.1,
  fun z=>z.1<=l.length∧dg w.heap.size w z.2.2.1∧dR z.2.2.1 (Cf w z.2.2.2) z.2.1 (dH (l.take z.1)),?_,?_⟩
 ·intro O w' r;exact⟨(0,[],w',[]),⟨aO _,hw.tr r.cS,dR.nil⟩,Sub.nil 3 T.Rat 4 rfl (by simp[jw,SV.sc,At.sc,fQ]) r fun ρ1 r1=>Sub.gn [] r1⟩
 rintro⟨i,css,w1,iv⟩ ⟨hi,hw,hG⟩;dsimp only at hi hw hG ⊢;have Ok:=eD hG.four;have RT:css.length=i:=by rw[hG.len,dH,aL,aZ];omega
 refine dG.mk ?_ ?_<;>intro OW
 ·have OW:i<l.length:=by simpa using OW
  obtain⟨z,hz⟩:∃z,l[i]? =some z:=⟨_,aB OW⟩
  have Ud:=hb z (aD hz);have QW:dH (l.take (i+1))=dH (l.take i)++[(z:Rat)]:=by rw[dH,List.take_add_one,hz,List.map_append];rfl
  obtain⟨adx,Pz,hSx,PS⟩:=DJ.at hl hz;refine⟨adx,Pz,by omega,.int .i64 z,rd1 PS hw (hS _ hSx),?_⟩;refine cH (cE hw (fun _ w' v w2=>cT w2 (Nf w' w2) v (z:Rat)) (fun O w' r=>ic z w' (by omega)) ?_);rintro O _ _ _ Od r he hw h_ hn;replace hG:=hG.cK r (cG w) he (mC h_);have hd:=hn.dK (S:=FF) r.cI (mN h_);obtain⟨A0,A1,A2,A3,A4,A5,A6,A7,rfl⟩:=hd.shape;have RE:=hG.push (cs:=[.bool A0,.slice A1 A2 A3,.bool A4,.slice A5 A6 A7]) (q:=(z:Rat)) ⟨_,_,_,_,_,_,_,_,rfl,hd⟩ rfl;rw[<-QW]at RE;have PR:css.flatten++([.bool A0,.slice A1 A2 A3,.bool A4,.slice A5 A6 A7]:List Value)=(css++([[.bool A0,.slice A1 A2 A3,.bool A4,.slice A5 A6 A7]]:List (List Value))).flatten:=by simp
  refine .inl ?_;refine⟨by omega,by omega,by unfold maxLen;omega,((i+1:Nat):Int),wo,?_⟩;intro ρ3 w3 r3;exact⟨(i+1,css++[[.bool A0,.slice A1 A2 A3,.bool A4,.slice A5 A6 A7]],w3,_),⟨OW,hw.tr r3.cS,RE.rel r3 (cG w)⟩,Sub.gn [(0,2)] r3 ⟨by dsimp only;rw[<-PR];rfl,trivial⟩ ⟨rfl,by dsimp only;rw[List.length_append,List.length_singleton];rfl,rfl,trivial⟩,by dsimp only;omega⟩
 have OW:i=l.length:=aQ hi (by simpa using OW);subst OW;rw[bH]at hG;intro ρe we re;refine⟨_,rfl,hw.tr re.cS,?_⟩;have h5:=hG.pC re (id:=0) rfl (by omega) (by unfold maxLen;omega);have h6:css.length=l.length:=RT;rw[<-h6];exact h5
theorem dX.dK{w' w2:World}(h:dX w2 (Nf w' w2) vn vb vs f)(hB:B<=w'.heap.size)(hm:(w'.heap.size,w2.heap.size)∈iv):dX w2 (Cv FF B iv) vn vb vs f:=h.cL fun _ hg=>hg.dK hB hm
abbrev KK(a b c:Int):Value:=.agg #[.int .i64 a,.int .i64 b,.int .i64 c]
theorem aDI(p0 p1 p2 q0 q1 q2:Int)(w:World):(Op.equal T.CO (KK p0 p1 p2) (KK q0 q1 q2)).run PG w= .ok (decide (p0=q0∧p1=q1∧p2=q2)) w:=by
 have h:=run_underlying Tryz.underlying97;simp only[Op.equal,Op.maxDepth]
 unfold Op.equalIn;have a0:=fo (cs:= #[Value.int .i64 p0,Value.int .i64 p1,Value.int .i64 p2]) (j:=0) rfl;have a1:=fo (cs:= #[Value.int .i64 p0,Value.int .i64 p1,Value.int .i64 p2]) (j:=1) rfl;have a2:=fo (cs:= #[Value.int .i64 p0,Value.int .i64 p1,Value.int .i64 p2]) (j:=2) rfl;have b0:=fo (cs:= #[Value.int .i64 q0,Value.int .i64 q1,Value.int .i64 q2]) (j:=0) rfl;have b1:=fo (cs:= #[Value.int .i64 q0,Value.int .i64 q1,Value.int .i64 q2]) (j:=1) rfl;have b2:=fo (cs:= #[Value.int .i64 q0,Value.int .i64 q1,Value.int .i64 q2]) (j:=2) rfl;simp[h,a0,a1,a2,b0,b1,b2,eq_int 9998];by_cases h0:p0=q0
 ·by_cases h1:p1=q1
  ·by_cases h2:p2=q2<;>simp[h0,h1,h2]
  ·simp[h0,h1]
 ·simp[h0]
theorem aCE(p0 p1 p2 q0 q1 q2:Int)(w:World)(o1 o2:Operand):(do eqGuard .eql T.CO o1 o2 (KK p0 p1 p2) (KK q0 q1 q2);binOp .eql T.CO (KK p0 p1 p2) (KK q0 q1 q2)).run PG w= .ok (.bool (decide (p0=q0∧p1=q1∧p2=q2))) w:=by
 have h:=aDI p0 p1 p2 q0 q1 q2 w;simp[eqGuard,binOp,h]
theorem aC6{H:Hp}{nx:Nat}{w':World}(r:Rel H nx iv B w O w'){l:List Int}(h:dM H id=some (.box T.int (l.map fun z=>At.v (.int .i64 z))))(hn:l.length=n)(hm:n<=maxLen):
  DJ w' (fun g=>g=(O id).g) (.slice (some ⟨(O id).g,0,none⟩) n n) l:=by
 subst hn;have h5:=r.qN (sz:=1) (n:=l.length) h (by simp) hm (fun u hu=>by obtain⟨z,_,rfl⟩:=aT.1 hu;rfl);rw[List.map_map]at h5;exact h5
end Go.Ex
