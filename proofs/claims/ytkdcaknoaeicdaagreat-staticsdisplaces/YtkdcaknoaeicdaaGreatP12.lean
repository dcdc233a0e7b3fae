/- Texts X139 to X151: lemmas, each with its conditions. -/
import Derived.Test.YtkdcaknoaeicdaaGreatP11
namespace Go.Ex
open Go Go.Sx Go.Proofs
theorem KF{α:Type}{rv:List α}{a b:α}{i m:Nat}(hl:rv.length=i)(h:i<m):(rv++List.replicate (m-i) b).take i++[a]++(rv++List.replicate (m-i) b).drop (i+1)=(rv++[a])++List.replicate (m-(i+1)) b:=by
 rw[List.take_left' hl,List.drop_append,hl,List.drop_of_length_le (by omega),List.nil_append,List.drop_replicate];congr 2;omega
end Go.Ex
namespace Go.Sx
open Go Go.Ex Go.Proofs
variable{cs:List Value}{O:Nat->Sx.dg}
theorem Rel.Ll{H:Hp}{nx:Nat}{iv:Iv}{B:Nat}{w w':World}(r:Rel H nx iv B w O w'){id t m sz:Nat}(h:dB H id=some (.arr t cs))(hm:cs.length=m*sz)(Rb:m<=maxLen)(h1:∀u∈cs,u.oneCell'=true):
  iB w' (fun g=>B<=g∧g<w'.heap.size) sz (.slice (some ⟨(O id).g,0,none⟩) m m) cs m:=by
 have hl:=r.low id _ h (r.fits h).1;refine⟨Rb,hm,h1,_,m,rfl,aF _,fun j u hu=>⟨_,rfl,hl,?_⟩⟩;rw[dQ,cell_of (r.arr id _ _ h),aQ];exact hu
end Go.Sx
namespace Go.Ex
open Go Go.Sx Go.Proofs
variable{d:Int}{b s:Int×Int×Rat}{M:List (List Int)}{l:List Int}{c r:Nat}{S:Nat->Prop}{f:fM}
theorem Ba:(so M r c d).length=M.length:=bE ..
theorem IH:(putAt M r c d).length=M.length:=bE ..
def FG(M:List (List Int))(t:Int):Prop:=∀l∈M,∀z∈l,-t<=z∧z<=t
theorem FG.set{t t2:Int}{z:Int}(h:FG M t)(ht:t<=t2)(hl:M[r]? =some l)(hz: -t2<=z∧z<=t2):FG (M.set r (l.set c z)) t2:=fun x hx y hy=>by
 rcases bJ hx with hx|rfl
 ·have:=h x hx y hy;omega
 ·rcases bJ hy with hy|rfl
  ·have:=h l (aC hl) y hy;omega
  ·exact hz
theorem Ed(f:fM):∀i,(df f i).length=3*f.nodes.length
 |0=>bC ..
 |i+1=>by
  have h:=Ed f i;have key:∀k,(eQ f (df f i) i k).length=3*f.nodes.length:=fun k=>by
   induction k with
   |zero=>exact h
   |succ k ih=>rw[eQ,Ba,Ba];exact ih
  exact key 3
theorem nG(f:fM):∀i,(eu f i).length=3*f.nodes.length
 |0=>Ed f _
 |i+1=>by rw[eu,IH];exact nG f i
theorem KG{i k ka kb:Nat}{za zb:Int}{la lb:List Int}(hb:f.bars[i]? =some b)(ea:b.1=ka)(eb:b.2.1=kb)(hd:(r8 f b).getD k 0=d)
  (Pj:(eQ f M i k)[3*ka+k]? =some la) (Us:la[i]? =some za) (Oa:((eQ f M i k).set (3*ka+k) (la.set i (za+d)))[3*kb+k]? =some lb) (Rq:lb[i]? =some zb):
  ((eQ f M i k).set (3*ka+k) (la.set i (za+d))).set (3*kb+k) (lb.set i (zb-d))=eQ f M i (k+1):=by
 have h1:f.bars.getD i (0,0,0)=b:=by rw[List.getD,hb];rfl
 have e1:(3*b.1+(k:Int)).toNat=3*ka+k:=by rw[ea];omega
 have e2:(3*b.2.1+(k:Int)).toNat=3*kb+k:=by rw[eb];omega
 have ha:so (eQ f M i k) (3*ka+k) i d=(eQ f M i k).set (3*ka+k) (la.set i (za+d)):=by
  rw[so,show(eQ f M i k).getD (3*ka+k) []=la by rw[List.getD,Pj];rfl,show la.getD i 0=za by rw[List.getD,Us];rfl]
 rw[eQ];simp only[h1,hd,e1,e2,ha]
 rw[so,show((eQ f M i k).set (3*ka+k) (la.set i (za+d))).getD (3*kb+k) []=lb by rw[List.getD,Oa];rfl,show lb.getD i 0=zb by rw[List.getD,Rq];rfl,Int.sub_eq_add_neg]
theorem Ee{i ks:Nat}(hs:f.cU[i]? =some s)(es:3*s.1+s.2.1=ks)(hl:(eu f i)[ks]? =some l):(eu f i).set ks (l.set (f.bars.length+i) 1)=eu f (i+1):=by
 rw[eu,putAt];simp only[show f.cU.getD i (0,0,0)=s by rw[List.getD,hs];rfl,es,aE,show(eu f i).getD ks []=l by rw[List.getD,hl];rfl]
set_option maxHeartbeats 2000000 in
theorem II{w:World}{vn vb vs:Value}(hS:Old S w)(hf:du w S vn vb vs f)(OJ:tx f):
  eD PG N.pV #[.agg #[vn,vb,vs]] w (eG w fun v' w2=>j1 w2 (Nf w w2) v' (fD f)∧FG (fD f) 800000000∧(∀l∈fD f,l.length=f.cols)∧(fD f).length=3*f.nodes.length):=by
 have hw:=bR w;obtain⟨an,cn,ab,cb,aq,cq,rfl,rfl,rfl,Qw,RX,SG⟩:=hf.shape;obtain⟨UO,TY,TZ⟩:=And.intro OJ.n (And.intro OJ.b OJ.s);refine tk (by simp) ?_;refine⟨((3*f.nodes.length:Nat):Int),wo,?_⟩;obtain⟨m,hm⟩:∃m,3*f.nodes.length=m:=⟨_,rfl⟩
 rw[hm]
 refine⟨m,m,rfl,rfl,aF _,by omega,by omega,Nat×List Value×World×Iv,fun z=>⟨[(1,pP 0 0),(3,.o (.s 1 0 m m)),(17,iZ m),(18,iN z.1)],[(1,.arr T.Lint (z.2.1++List.replicate (m-z.1) (.slice none 0 0))),(0,.box T.Frame [.v (.slice an f.nodes.length cn),.v (.slice ab f.bars.length cb),.v (.slice aq f.cU.length cq)])],2,z.2.2.2,z.2.2.1⟩,fun z=>m-z.1,
  fun z=>z.1<=m∧z.2.1.length=z.1∧eB w.heap.size w z.2.2.1∧gl z.2.2.1 w.heap.size z.2.2.2 z.2.1 f.cols (List.replicate z.1 (List.replicate f.cols 0)),?_,?_⟩
 ·intro O w' r3;exact⟨(0,[],w',[]),⟨aO _,rfl,hw.tr r3.cQ,gl.nil⟩,Sub.gn [] r3⟩
 rintro⟨i,rv,w1,iv⟩ ⟨hi,Oh,hw,hE⟩;dsimp only at hi Oh hw hE ⊢;refine dN.mk ?_ ?_<;>intro OF
 ·have OF:i<m:=by simpa using OF
  refine⟨((f.cols:Nat):Int),by rw[wrap64]<;>first|rfl|omega,f.cols,f.cols,rfl,rfl,aF _,by unfold fM.cols;omega,by unfold fM.cols;omega,by omega,?_⟩;refine Ha hτ (id:=1) (id2:=2) (tH:=[(1,.arr T.Lint (rv++List.replicate (m-i) (.slice none 0 0))),(0,.box T.Frame [.v (.slice an f.nodes.length cn),.v (.slice ab f.bars.length cb),.v (.slice aq f.cU.length cq)])]) rfl rfl (by decide) rfl ⟨rfl,rfl,trivial⟩ rfl (fun O w' r=>?_);have hn:=(r.fits (id:=2) rfl).1;have OH:w'.ownsRow 0 T.int 1 (.slice (some ⟨(O 2).g,0,none⟩) f.cols f.cols) f.cols ((List.replicate f.cols (0:Int)).map fun z=>.int .i64 z):=
   ⟨by simp,.inr ⟨(O 2).g,f.cols,(List.replicate f.cols (Value.int .i64 0)).toArray,rfl,aO _,r.arr 2 _ _ rfl,aF _,by unfold fM.cols maxLen;omega,by simp,by simp⟩⟩
  have OY:=(hE.rel r).push (gx:=(O 2).g) (l:=List.replicate f.cols 0) (fun g hg e=>Rel.not r (gH _) hg 2 _ rfl hn e.symm) (r.low 2 _ rfl hn).1 (by simp) OH;rw[<-List.replicate_succ']at OY;have Ow:=hw.tr r.cQ;generalize (O 2).g=gx at*
  generalize (gx,gx+1)::iv=OK at*
  refine⟨by simp[Oh];omega,(rv++[.slice (some ⟨gx,0,none⟩) f.cols f.cols])++List.replicate (m-(i+1)) (.slice none 0 0),?_,?_⟩
  ·rw[aE,aS,aQ];exact KF Oh OF
  refine⟨((i+1:Nat):Int),wo,?_⟩;intro ρ3 w3 r3;exact⟨(i+1,rv++[.slice (some ⟨gx,0,none⟩) f.cols f.cols],w3,_),⟨OF,by simp[Oh],Ow.tr r3.cQ,OY.rel r3⟩,Sub.gn [] r3,by dsimp only;omega⟩
 have OF:i=m:=aR hi (by simpa using OF);subst OF;have hE0:gl w1 w.heap.size iv rv f.cols (df f 0):=by rw[df,hm];exact hE
 have VJ:FG (df f 0) 0:=fun l hl z hz=>by
  rw[df]at hl;rw[bL hl]at hz;rw[bL hz];exact⟨Int.le_refl _,Int.le_refl _⟩
 refine⟨Nat×World×Iv,fun z=>⟨[(1,pP 0 0),(3,.o (.s 1 0 i i)),(34,sV ab f.bars.length cb),(35,iZ f.bars.length),(36,iN z.1)],[(1,.arr T.Lint rv),(0,.box T.Frame [.v (.slice an f.nodes.length cn),.v (.slice ab f.bars.length cb),.v (.slice aq f.cU.length cq)])],2,z.2.2,z.2.1⟩,fun z=>f.bars.length-z.1,
  fun z=>z.1<=f.bars.length∧eB w.heap.size w z.2.1∧gl z.2.1 w.heap.size z.2.2 rv f.cols (df f z.1)∧FG (df f z.1) (12000000*z.1),?_,?_⟩
 ·intro O w' r3;exact⟨(0,w',_),⟨aO _,hw.tr r3.cQ,hE0.rel r3,VJ⟩,Sub.gn [] r3 ⟨by simp;rfl,rfl,trivial⟩⟩
 rintro⟨j,w2,iv⟩ ⟨hj,hw,hE,Oc⟩;dsimp only at hj hw hE Oc ⊢;refine dN.mk ?_ ?_<;>intro PH
 ·have PH:j<f.bars.length:=by simpa using PH
  obtain⟨b,hb⟩:∃b,f.bars[j]? =some b:=⟨_,aB PH⟩
  obtain⟨hA,hB⟩:=OJ.Lb b (aC hb);obtain⟨ka,pa,ea,hka,-,VH,⟨_,_⟩,⟨_,_⟩,⟨_,_⟩⟩:=OJ.node hA.1 hA.2;obtain⟨kb,pb,eb,OI,-,VI,⟨_,_⟩,⟨_,_⟩,⟨_,_⟩⟩:=OJ.node hB.1 hB.2;obtain⟨adb,cs,Pg,hF,-,Oa⟩:=hf.bars.load (by decide) hb;obtain⟨g0,g1,g2,g3,g4,g5,g6,g7,rfl,hF⟩:=hF;refine⟨adb,Pg,by omega,[.int .i64 b.1,.int .i64 b.2.1,.bool g0,.slice g1 g2 g3,.bool g4,.slice g5 g6 g7],rfl,rdO Oa hw hS,?_⟩;refine cD (cO (Φ:=fun _ w' v w2=>v= .agg #[.int .i64 ((f.node b.2.1).1-(f.node b.1).1),.int .i64 ((f.node b.2.1).2.1-(f.node b.1).2.1),.int .i64 ((f.node b.2.1).2.2-(f.node b.1).2.2)]) (fun O w' r=>Am (S:=S) (oS hS r) (hf.cI (kS hw r hS)).nodes OJ hA hB) ?_);rintro O Pq v1 Pa r he PB rfl;replace hw:=hw.tr PB;replace hE:=hE.cG (iv':=(Pq.heap.size,Pa.heap.size)::iv) r he fun x hx=>List.mem_cons_of_mem _ hx;generalize (Pq.heap.size,Pa.heap.size)::iv=OM at*
  rw[VH,VI];have hbD:r8 f b=[pb.1-pa.1,pb.2.1-pa.2.1,pb.2.2-pa.2.2]:=by rw[r8,VH,VI]
  refine⟨Nat×World×Iv,fun z=>⟨[(1,pP 0 0),(3,.o (.s 1 0 i i)),(5,iN j),(6,pP 2 0),(43,.o (.v (.agg #[.int .i64 (pb.1-pa.1),.int .i64 (pb.2.1-pa.2.1),.int .i64 (pb.2.2-pa.2.2)]))),(34,sV ab f.bars.length cb),(35,iZ f.bars.length),(36,iN j),(44,iN z.1)],[(2,.box T.OC [.v (.int .i64 b.1),.v (.int .i64 b.2.1),.v (.bool g0),.v (.slice g1 g2 g3),.v (.bool g4),.v (.slice g5 g6 g7)]),(1,.arr T.Lint rv),(0,.box T.Frame [.v (.slice an f.nodes.length cn),.v (.slice ab f.bars.length cb),.v (.slice aq f.cU.length cq)])],3,z.2.2,z.2.1⟩,fun z=>3-z.1,
   fun z=>z.1<=3∧eB w.heap.size w z.2.1∧gl z.2.1 w.heap.size z.2.2 rv f.cols (eQ f (df f j) j z.1)∧FG (eQ f (df f j) j z.1) (12000000*j+4000000*z.1),?_,?_⟩
  ·intro O w' r3;exact⟨(0,w',_),⟨aO _,hw.tr r3.cQ,hE.rel r3,Oc⟩,Sub.gn [] r3⟩
  rintro⟨k,w3,iv⟩ ⟨hk,hw,hE,Oc⟩;dsimp only at hk hw hE Oc ⊢;refine dN.mk ?_ ?_<;>intro OI
  ·have OI:k<3:=by have:=aI OI;omega
   obtain⟨d,hd⟩:∃d,(r8 f b).getD k 0=d:=⟨_,rfl⟩
   have hdb: -2000000<=d∧d<=2000000:=by
    rw[<-hd,hbD];rcases(show k=0∨k=1∨k=2 by omega)with rfl|rfl|rfl<;>simp[List.getD]<;>omega
   have hMl:(eQ f (df f j) j k).length=3*f.nodes.length:=by rw[<-hE.len];have:=hE.len;omega
   have Pr:f.cols=f.bars.length+f.cU.length:=rfl;refine zu hτ rfl rfl rfl (fun _=>rfl) rfl ⟨by omega,by omega⟩ (u:=.int .i64 d) ?_ (fun O w4 r=>?_)
   ·rw[<-hd,hbD,aE];rcases(show k=0∨k=1∨k=2 by omega)with rfl|rfl|rfl<;>rfl
   replace hw:=hw.tr r.cQ;replace hE:=hE.rel r;obtain⟨la,Pj⟩:∃l,(eQ f (df f j) j k)[3*ka+k]? =some l:=⟨_,aB (by first|omega|(rw [bE];omega))⟩
   have hlaw:=hE.wid la (aC Pj);obtain⟨za,Us⟩:∃z,la[j]? =some z:=⟨_,aB (by omega)⟩
   have hzab:=Oc la (aC Pj) za (aC Us);obtain⟨va,VK⟩:∃v,rv[3*ka+k]? =some v:=⟨_,aB (by have:=(aD.1 Pj).1;rw[hE.len];exact this)⟩
   obtain⟨aa5,ca5,rfl⟩:=hE.form VK;obtain⟨ada5,Sr,hxa1,hxa2⟩:=hE.load VK Pj Us;refine⟨((3*ka:Nat):Int),by rw[ea,wrap64]<;>omega,((3*ka+k:Nat):Int),wo,by omega,.slice aa5 f.cols ca5,by rw[aE,aS,aQ];exact VK,ada5,Sr,by omega,.int .i64 za,fun O w' r=>?_,?_⟩
   ·rw[aE,cH (w:=w4) (w2:=w') (by rw[dH];exact Rel.same r (gH _) hxa1)];exact hxa2
   refine⟨za+d,wo,ada5,Sr,by omega,?_⟩;intro O w' r;obtain⟨g,hg,h1,h2,h3,h4⟩:=hE.store r (z:=za+d) VK Pj (show j<f.cols by omega);rw[Sr]at hg;injection hg with hg;subst hg;refine⟨h1,h2,h3,fun w5 QZ=>?_⟩;obtain⟨k1,k2,k3,-,-⟩:=h4 w5 QZ;replace hw:=(hw.tr r.cQ).tr k2;replace Oc:=Oc.set (r:=3*ka+k) (c:=j) (z:=za+d) (t2:=12000000*j+4000000*k+2000000) (by omega) Pj (by omega);replace hE:=k1;obtain⟨lb,Oa⟩:∃l,((eQ f (df f j) j k).set (3*ka+k) (la.set j (za+d)))[3*kb+k]? =some l:=⟨_,aB (by first|omega|(rw [bE];omega))⟩
   have hlbw:=hE.wid lb (aC Oa);obtain⟨zb,Rq⟩:∃z,lb[j]? =some z:=⟨_,aB (by omega)⟩
   have hzbb:=Oc lb (aC Oa) zb (aC Rq);obtain⟨vb,UP⟩:∃v,rv[3*kb+k]? =some v:=⟨_,aB (by have:=(aD.1 Oa).1;rw[hE.len];exact this)⟩
   obtain⟨ab5,cb5,rfl⟩:=hE.form UP;obtain⟨adb5,Ss,hxb1,hxb2⟩:=hE.load UP Oa Rq;refine⟨((3*kb:Nat):Int),by rw[eb,wrap64]<;>omega,((3*kb+k:Nat):Int),wo,by omega,.slice ab5 f.cols cb5,by rw[aE,aS,aQ];exact UP,adb5,Ss,by omega,.int .i64 zb,fun O w' r=>?_,?_⟩
   ·rw[aE,cH (w:=w5) (w2:=w') (by rw[dH];exact Rel.same r (gH _) hxb1)];exact hxb2
   refine⟨zb-d,wo,adb5,Ss,by omega,?_⟩;intro O w' r;obtain⟨g,hg,h1,h2,h3,h4⟩:=hE.store r (z:=zb-d) UP Oa (show j<f.cols by omega);rw[Ss]at hg;injection hg with hg;subst hg;refine⟨h1,h2,h3,fun w5 QZ=>?_⟩;obtain⟨k1,k2,k3,-,-⟩:=h4 w5 QZ;replace hw:=(hw.tr r.cQ).tr k2;replace Oc:=Oc.set (r:=3*kb+k) (c:=j) (z:=zb-d) (t2:=12000000*j+4000000*(k+1:Nat)) (by omega) Oa (by omega);replace hE:=k1;rw[KG hb ea eb hd Pj Us Oa Rq]at hE Oc;refine⟨((k+1:Nat):Int),wo,?_⟩;intro ρ3 w6 r3;exact⟨(k+1,w6,_),⟨OI,hw.tr r3.cQ,hE.rel r3,Oc⟩,Sub.gn [] r3,by dsimp only;omega⟩
  have OI:k=3:=by have:=aH OI;omega
  subst OI;refine⟨((j+1:Nat):Int),wo,?_⟩;intro ρ3 w6 r3;exact⟨(j+1,w6,_),⟨PH,hw.tr r3.cQ,hE.rel r3,fun l hl z hz=>by have:=Oc l hl z hz;dsimp only;omega⟩,Sub.gn [] r3,by dsimp only;omega⟩
 have PH:j=f.bars.length:=aR hj (by simpa using PH);subst PH
 refine⟨Nat×World×Iv,fun z=>⟨[(1,pP 0 0),(3,.o (.s 1 0 i i)),(79,sV aq f.cU.length cq),(80,iZ f.cU.length),(81,iN z.1)],[(1,.arr T.Lint rv),(0,.box T.Frame [.v (.slice an f.nodes.length cn),.v (.slice ab f.bars.length cb),.v (.slice aq f.cU.length cq)])],2,z.2.2,z.2.1⟩,fun z=>f.cU.length-z.1,
  fun z=>z.1<=f.cU.length∧eB w.heap.size w z.2.1∧gl z.2.1 w.heap.size z.2.2 rv f.cols (eu f z.1)∧FG (eu f z.1) 800000000,?_,?_⟩
 ·intro O w' r3;exact⟨(0,w',_),⟨aO _,hw.tr r3.cQ,hE.rel r3,fun l hl z hz=>by have:=Oc l hl z hz;omega⟩,Sub.gn [] r3⟩
 rintro⟨j,w2,iv⟩ ⟨hj,hw,hE,Oc⟩;dsimp only at hj hw hE Oc ⊢;refine dN.mk ?_ ?_<;>intro PH
 ·have PH:j<f.cU.length:=by simpa using PH
  obtain⟨s,hs⟩:∃b,f.cU[j]? =some b:=⟨_,aB PH⟩
  obtain⟨hA,hB⟩:=OJ.sup s (aC hs);obtain⟨ks,Ut⟩:=Int.eq_ofNat_of_zero_le (show 0<=3*s.1+s.2.1 by omega);have Pr:f.cols=f.bars.length+f.cU.length:=rfl;have hMl:=nG f j;obtain⟨l,hl⟩:∃l,(eu f j)[ks]? =some l:=⟨_,aB (by omega)⟩
  have hlw:=hE.wid l (aC hl);obtain⟨v,hv⟩:∃v,rv[ks]? =some v:=⟨_,aB (by rw[hE.len];omega)⟩
  obtain⟨a5,c5,rfl⟩:=hE.form hv;obtain⟨z0,OQ⟩:∃z,l[f.bars.length+j]? =some z:=⟨_,aB (by omega)⟩
  obtain⟨ad5,ha5,-,-⟩:=hE.load hv hl OQ;obtain⟨adb,cs,Pg,hF,-,Oa⟩:=hf.cU.load (by decide) hs;obtain⟨g0,g1,g2,g3,g4,g5,g6,g7,rfl,hF⟩:=hF;refine⟨adb,Pg,by omega,[.int .i64 s.1,.int .i64 s.2.1,.bool g0,.slice g1 g2 g3,.bool g4,.slice g5 g6 g7],rfl,rdO Oa hw hS,?_⟩;refine cN hτ dm [.x 0,.x 1,.x 2,.x 3,.x 4,.x 5,.x 6,.x 7,.x 8,.x 9,.x 10,.x 11,.x 12,.x 13,.x 14,.x 15] (by kernel_rfl) (by kernel_rfl) ?_;refine⟨3*s.1,wo,((ks:Nat):Int),wo,by omega,.slice a5 f.cols c5,by rw[aE,aS,aQ];exact hv,((f.bars.length+j:Nat):Int),wo,ad5,ha5,by omega,?_⟩;intro O w' r;obtain⟨g,hg,h1,h2,h3,h4⟩:=hE.store r (z:=1) hv hl (show f.bars.length+j<f.cols by omega);rw[ha5]at hg;injection hg with hg;subst hg;refine⟨h1,h2,h3,fun w5 QZ=>?_⟩;obtain⟨k1,k2,k3,-,-⟩:=h4 w5 QZ;replace hw:=(hw.tr r.cQ).tr k2;have Re:=Oc.set (r:=ks) (c:=f.bars.length+j) (z:=1) (t2:=800000000) (by omega) hl (by omega);rw[Ee hs Ut hl]at k1 Re;refine⟨((j+1:Nat):Int),wo,?_⟩;intro ρ3 w6 r3;exact⟨(j+1,w6,_),⟨PH,hw.tr r3.cQ,k1.rel r3,Re⟩,Sub.gn [] r3,by dsimp only;omega⟩
 have PH:j=f.cU.length:=aR hj (by simpa using PH);subst PH;intro ρe we re;have OY:=hE.rel re;have hMl:=nG f f.cU.length;have QT:=hE.len;refine⟨_,rfl,hw.tr re.cQ,⟨rv,?_,hE.len,fun i u x k1 k2=>?_⟩,Oc,hE.wid,by rw[<-hm];exact hMl⟩
 ·rw[show (fD f).length=rv.length from hE.len.symm];have h5:=re.Ll (id:=1) (sz:=1) (m:=rv.length) rfl (by simp) (by unfold maxLen;omega) hE.one;rw[show (i:Nat)=rv.length by omega];exact h5.cJ fun g hg=>.inr hg
 ·obtain⟨a,c,rfl⟩:=hE.form k1;have PW:=hE.wid x (aC k2);refine⟨by rw[PW];unfold fM.cols maxLen;omega,by simp,fun v hv=>by obtain⟨z,_,rfl⟩:=aT.1 hv;rfl,a,c,by rw[PW],?_,fun t v hv=>?_⟩
  ·rw[PW];obtain⟨a2,c2,e,h⟩:=jc (hE.row i _ x k1 k2);injection e with e1 e2 e3;omega
  ·rw[aN]at hv
   cases ht:x[t]? with
   |none=>rw[ht]at hv;cases hv
   |some z=>
    rw[ht]at hv;simp only[Option.map_some,Option.some.injEq]at hv;subst hv;obtain⟨ad,h1,h2,h3⟩:=OY.load k1 k2 ht;exact⟨ad,h1,Cv.nw h2 re,by rw[aS]at h3;exact h3⟩
end Go.Ex
namespace Go.Ex
open Go Go.Sx Go.Proofs
variable{z:Int}{p:Int×Int×Int}{b:Int×Int×Rat}{iv:Iv}{x:Ld}{xs:List (Int×Int×Int)}{seen:List (Int×Int×Rat)}{css:List (List Value)}{s:List Int}{l:List Ld}{qs:List Rat}{cs:List Value}{B id j n:Nat}{S:Nat->Prop}{O:Nat->Sx.dg}{a an:Option Addr}{q:Rat}{v vb vl vn vs:Value}{w:World}{f:fM}
theorem Eg(f:fM):(cP f).length=3*f.nodes.length:=by rw[cP,aJ];exact nG f _
theorem vM(h1: -2000000000<=z)(h2:z<=2000000000):rl (z:Rat)<=1:=by
 have e1:((z:Rat)).num=z:=rfl;have e2:((z:Rat)).den=1:=rfl;rw[rl,e1,e2];have a1:ln z.natAbs<=1:=gQ.2 (by rw[uW];omega);have a2:ln 1<=1:=by decide
 omega
set_option maxHeartbeats 1000000 in
theorem sL(hS:Old S w)(hf:du w S vn vb vs f)(OJ:tx f):
  eD PG N.oW #[.agg #[vn,vb,vs]] w (eG w fun v' w2=>(∃vr,v'= .agg #[vr,.int .i64 f.cols]∧cT w2 (Nf w w2) vr (cP f))∧fX f.cols (cP f)∧Ht (cP f) 2):=by
 have hw:=bR w;obtain⟨an,cn,ab,cb,aq,cq,rfl,rfl,rfl,Qw,RX,SG⟩:=hf.shape;obtain⟨UO,TY,TZ⟩:=And.intro OJ.n (And.intro OJ.b OJ.s);have Pr:f.cols=f.bars.length+f.cU.length:=rfl;refine sA (by simp) ?_;refine⟨((f.cols:Nat):Int),by rw[wrap64]<;>first|rfl|omega,?_⟩;refine cD (cO (Φ:=fun _ w' v w2=>j1 w2 (Nf w' w2) v (fD f)∧FG (fD f) 800000000∧(∀l∈fD f,l.length=f.cols)∧(fD f).length=3*f.nodes.length) (fun O w' r=>II (S:=S) (oS hS r) (hf.cI (kS hw r hS)) OJ) ?_);rintro O Pq v1 Pa r he PB ⟨k1,Oc,hwid,Qu⟩;replace hw:=hw.tr PB;have hM:=j1.cJ k1 fun g hg=>hg.dE (B:=w.heap.size) (S:=FF) r.cF (iv:=(Pq.heap.size,Pa.heap.size)::[]) aG;generalize (Pq.heap.size,Pa.heap.size)::[]=OM at*
 obtain⟨am,cm,rfl,SR,R1⟩:=db.shape hM;unfold maxLen at R1
 refine⟨Nat×List Value×World×Iv,fun z=>⟨[(20,iN z.1),(2,pP 1 0),(3,pP 2 0),(18,.o (.v (.slice am (fD f).length cm))),(19,.o (.v (.int .i64 (fD f).length)))],[(2,.box T.dq [.w 3 z.2.1.length,.v (.int .i64 ((f.cols:Nat):Int))]),(3,.vec T.fa 1 z.2.1),(1,.box T.dq [.v (.slice none 0 0),.v (.int .i64 0)])],4,z.2.2.2,z.2.2.1⟩,fun z=>(fD f).length-z.1,
  fun z=>z.1<=(fD f).length∧eB w.heap.size w z.2.2.1∧j1 z.2.2.1 (Cf w z.2.2.2) (.slice am (fD f).length cm) (fD f)∧dV z.2.2.1 (Cf w z.2.2.2) z.2.1 ((cP f).take z.1),?_,?_⟩
 ·intro O w' r;exact⟨(0,[],w',_),⟨aO _,hw.tr r.cQ,hM.cI fun g hg=>Rel.same r (cC w) hg,by simp[dV]⟩,Sub.Ak 2 0 T.fa 1 rfl rfl (by simp[jN,SV.sc,At.sc,fW]) r fun ρ1 r1=>Sub.gn [] r1⟩
 rintro⟨k,rv,w1,iv⟩ ⟨hk,hw,hM,hK⟩;dsimp only at hk hw hM hK ⊢;have Oh:rv.length=k:=by rw[hK.1,aV,cP,aJ];omega
 refine dN.mk ?_ ?_<;>intro OI
 ·have OI:k<(fD f).length:=by simpa using OI
  obtain⟨l,hl⟩:∃l,(fD f)[k]? =some l:=⟨_,aB OI⟩
  have hlw:=hwid l (aC hl);have OO:(cP f).take (k+1)=(cP f).take k++[cd l]:=by rw[List.take_add_one,show(cP f)[k]? =some (cd l) by rw[cP,aN,hl];rfl];rfl
  obtain⟨adm,um,RL,Vl,km1,km2⟩:=db.load hM hl;obtain⟨a0,c0,rfl,hc0,-⟩:=Cu.shape Vl;refine⟨adm,RL,by omega,.slice a0 l.length c0,fun O w' r=>?_,?_⟩
  ·rw[aE,cH (w:=w1) (w2:=w') (by rw[dH];exact Rel.same r (cC w) km1)];exact km2
  refine⟨l.length,l.length,rfl,rfl,aF _,by omega,by omega,Nat×Nat×World×Iv,fun z=>⟨[(6,.o (.v (.slice (some ⟨z.2.1,0,none⟩) l.length l.length))),(5,sV a0 l.length c0),(27,sV a0 l.length c0),(28,iZ l.length),(29,iN z.1),(20,iN k),(2,pP 1 0),(3,pP 2 0),(18,.o (.v (.slice am (fD f).length cm))),(19,.o (.v (.int .i64 (fD f).length)))],[(2,.box T.dq [.w 3 rv.length,.v (.int .i64 ((f.cols:Nat):Int))]),(3,.vec T.fa 1 rv),(1,.box T.dq [.v (.slice none 0 0),.v (.int .i64 0)])],5,z.2.2.2,z.2.2.1⟩,fun z=>l.length-z.1,
   fun z=>z.1<=l.length∧eB w.heap.size w z.2.2.1∧j1 z.2.2.1 (Bs FF w.heap.size z.2.2.2 (.slice (some ⟨z.2.1,0,none⟩) l.length l.length)) (.slice am (fD f).length cm) (fD f)∧Cu z.2.2.1 (Bs FF w.heap.size z.2.2.2 (.slice (some ⟨z.2.1,0,none⟩) l.length l.length)) (.slice a0 l.length c0) l∧dV z.2.2.1 (Bs FF w.heap.size z.2.2.2 (.slice (some ⟨z.2.1,0,none⟩) l.length l.length)) rv ((cP f).take k)∧ig z.2.2.1 FF w.heap.size z.2.2.2 (.slice (some ⟨z.2.1,0,none⟩) l.length l.length) l.length z.1 (cd l),?_,?_⟩
  ·intro O w' r;have hf:=ig.jw (S:=FF) (n:=l.length) r (id:=4) rfl (by unfold maxLen;omega) (cd l);have hbs:∀g,Cf w iv g->Bs FF w.heap.size (((O 4).g,(O 4).g+1)::iv) (.slice (some ⟨(O 4).g,0,none⟩) l.length l.length) g:=fun g hg=>⟨hg.mono fun p hp=>List.mem_cons_of_mem _ hp,fun e=>Rel.not r (cC w) hg 4 _ rfl (r.fits (id:=4) rfl).1 (by injection e)⟩
   exact⟨(0,(O 4).g,w',((O 4).g,(O 4).g+1)::iv),⟨aO _,hw.tr r.cQ,(hM.cI fun g hg=>Rel.same r (cC w) hg).cJ hbs,(Vl.cI fun g hg=>Rel.same r (cC w) hg).cJ hbs,dV.cJ (hK.rel r (cC w)) hbs,hf⟩,
    Sub.jw r (id:=4) (t:=6) rfl rfl ⟨rfl,rfl,rfl,trivial⟩ rfl ⟨rfl,rfl,rfl,rfl,rfl,rfl,rfl,rfl,rfl,trivial⟩ (by simp[jN,SV.sc,At.sc])⟩
  rintro⟨i,gx,w2,iv⟩ ⟨hi,hw,hM,Vl,hK,hX⟩;dsimp only at hi hw hM Vl hK hX ⊢;refine dN.mk ?_ ?_<;>intro OF
  ·have OF:i<l.length:=by simpa using OF
   obtain⟨z,hz⟩:∃z,l[i]? =some z:=⟨_,aB OF⟩
   have Rq:=Oc l (aC hl) z (aC hz);obtain⟨adz,haz,kz1,kz2⟩:=Vl.at hz;refine⟨adz,haz,by omega,.int .i64 z,fun O w' r=>?_,?_⟩
   ·rw[aE,cH (w:=w2) (w2:=w') (by rw[dH];exact Rel.same r (cC w) kz1.1)];exact kz2
   refine cD (cO (Φ:=fun _ w' v w2=>cS w2 (Nf w' w2) v (z:Rat)) (fun O w' r=>lO z w' (by omega) (by omega)) ?_);rintro O PQ v3 PN r he PB Qj;replace hw:=hw.tr PB;have hbs:∀g,Bs FF w.heap.size iv (.slice (some ⟨gx,0,none⟩) l.length l.length) g->Bs FF w.heap.size ((PQ.heap.size,PN.heap.size)::iv) (.slice (some ⟨gx,0,none⟩) l.length l.length) g:=fun g hg=>Bs.mono (fun x hx=>List.mem_cons_of_mem _ hx) hg;have hbk:∀g,Bs FF w.heap.size iv (.slice (some ⟨gx,0,none⟩) l.length l.length) g->PN.heap[g]? =w2.heap[g]? :=fun g hg=>(he.block g (Rel.old r (cC w) g hg.1)).trans (Bs.same r (cC w) g hg);replace hM:=(hM.cI hbk).cJ hbs;replace Vl:=(Vl.cI hbk).cJ hbs;replace hK:=dV.cJ (dV.cI hK hbk) hbs;have hd:=Qj.cJ (S':=Bs FF w.heap.size ((PQ.heap.size,PN.heap.size)::iv) (.slice (some ⟨gx,0,none⟩) l.length l.length)) fun g hg=>hg.elim (fun h=>h.elim) fun h=>⟨.inr ⟨by have:=r.cF;omega,_,_,aG,h.1,h.2⟩,fun e=>by have:=Rel.old r (cC w) g (hX.new g e);omega⟩
   replace hX:=hX.cG (iv':=(PQ.heap.size,PN.heap.size)::iv) r (cC w) he fun x hx=>List.mem_cons_of_mem _ hx;generalize (PQ.heap.size,PN.heap.size)::iv=OS at*
   obtain⟨A0,A1,A2,A3,A4,A5,A6,A7,rfl⟩:=hd.shape;refine⟨⟨gx,0,none⟩,rfl,by omega,?_⟩;intro O w' r;obtain⟨g,hg,h1,h2,h3,h4⟩:=hX.store (j:=i) OF (by rw[cd,aN,hz];rfl) hd r (cC w);injection hg with hg;injection hg with hg;subst hg;refine⟨h1,h2,h3,fun w5 QZ=>?_⟩;obtain⟨k1,k2,k3,k4⟩:=h4 w5 QZ;have Ow:=(hw.tr r.cQ).tr k3;have Uy:=Bs.kept (v:=(.slice (some ⟨gx,0,none⟩) l.length l.length)) r (cC w) k2 fun g e=>e;have hM2:=hM.cI Uy;have hLm2:=Vl.cI Uy;have Q1:=dV.cI hK Uy;refine⟨((i+1:Nat):Int),wo,?_⟩;intro ρ3 w6 r3;exact⟨(i+1,gx,w6,_),⟨OF,Ow.tr r3.cQ,hM2.cI (Bs.same r3 (cC w)),hLm2.cI (Bs.same r3 (cC w)),dV.cI Q1 (Bs.same r3 (cC w)),k1.rel r3 (cC w)⟩,Sub.gn [] r3,by dsimp only;omega⟩
  have OF:i=l.length:=aR hi (by simpa using OF);rw[OF]at hX;have hX2:=(hX.done (by simp[cd])).c;replace hK:=(dV.cJ hK fun g hg=>hg.1).push (u:=(.slice (some ⟨gx,0,none⟩) l.length l.length)) (x:=cd l) rfl (by rw[show l.length=(cd l).length by simp[cd]]at hX2 ⊢;exact hX2);rw[<-OO]at hK;replace hM:=hM.cJ fun g hg=>hg.1;refine .inl ?_;refine⟨by simp,by omega,by unfold maxLen;omega,((k+1:Nat):Int),wo,?_⟩;intro ρ3 w3 r3;exact⟨(k+1,rv++[(.slice (some ⟨gx,0,none⟩) l.length l.length)],w3,_),⟨OI,hw.tr r3.cQ,hM.cI fun g hg=>Rel.same r3 (cC w) hg,hK.rel r3 (cC w)⟩,Sub.gn [(3,6)] r3 ⟨by dsimp only;rw[List.length_append,List.length_singleton];rfl,rfl,rfl,trivial⟩,by dsimp only;omega⟩
 have OI:k=(fD f).length:=aR hk (by simpa using OI);rw[List.take_of_length_le (by rw[cP,aJ];omega)]at hK;intro ρe we re;refine⟨_,rfl,hw.tr re.cQ,⟨_,rfl,rv,?_,hK.1,fun i u x k1 k2=>cL.cJ (cL.rel (hK.2.2 i u x k1 k2) re (cC w)) fun g hg=>Cv.nw hg re⟩,fun x hx=>?_,fun x hx q hq=>?_⟩
 ·rw[<-hK.1];exact(re.ie (id:=3) (sz:=1) (m:=rv.length) rfl (by simp) (by unfold maxLen;omega) (by decide) hK.2.1).cJ fun g hg=>.inr hg
 ·obtain⟨l,hl,rfl⟩:=aT.1 hx;rw[cd,aJ];exact hwid l hl
 ·obtain⟨l,hl,rfl⟩:=aT.1 hx;obtain⟨z,hz,rfl⟩:=aT.1 hq;have:=Oc l hl z hz;have:=vM (z:=z) (by omega) (by omega);omega
def My(x:Ld):List Int:=[x.2.1,x.2.2.1,x.2.2.2]
def gN(s:List Int)(x:Ld):Nat->List Int
 |0=>s
 |k+1=>Gp (gN s x k) (3*x.1+k).toNat ((My x).getD k 0)
def fO(n:Nat)(l:List Ld):Nat->List Int
 |0=>List.replicate (3*n) 0
 |i+1=>gN (fO n l i) (l.getD i (0,0,0,0)) 3
def fJ(f:fM)(l:List Ld):List Rat:=cd (fO f.nodes.length l l.length)
structure tz(n:Nat)(l:List Ld):Prop where
 len:l.length<=200
 ld:∀x∈l,(0<=x.1∧x.1<n)∧(-1000000<=x.2.1∧x.2.1<=1000000)∧(-1000000<=x.2.2.1∧x.2.2.1<=1000000)∧(-1000000<=x.2.2.2∧x.2.2.2<=1000000)
theorem sM(s:List Int)(x:Ld):∀k,(gN s x k).length=s.length
 |0=>rfl
 |k+1=>by rw[gN,Gp,bE];exact sM s x k
theorem jx(n:Nat)(l:List Ld):∀i,(fO n l i).length=3*n
 |0=>bC ..
 |i+1=>by rw[fO,sM];exact jx n l i
theorem mL{k:Nat}{d:Int}(e:3*x.1+(k:Int)=j)(hd:(My x).getD k 0=d)(hz:(gN s x k)[j]? =some z):(gN s x k).set j (z+d)=gN s x (k+1):=by
 rw[gN,Gp,hd,e,aE,show(gN s x k).getD j 0=z by rw[List.getD,hz];rfl]
def LK(s:List Int)(t:Int):Prop:=∀z∈s,-t<=z∧z<=t
theorem LK.set{t t2:Int}(h:LK s t)(ht:t<=t2)(hz: -t2<=z∧z<=t2):LK (s.set j z) t2:=fun y hy=>by
 rcases bJ hy with hy|rfl
 ·have:=h y hy;omega
 ·exact hz
def zv(l:List Int):List Value:=l.map fun z=>.int .i64 z
theorem Cx(l:List Int):(zv l).length=l.length:=aJ ..
theorem Bb{l:List Int}(h:l[j]? =some z):(zv l)[j]? =some (.int .i64 z):=by rw[zv,aN,h];rfl
theorem Cy{l:List Int}(h:j<l.length):(zv l).take j++[.int .i64 z]++(zv l).drop (j+1)=zv (l.set j z):=by
 rw[zv,zv,List.map_set];exact fu (by rw[aJ];exact h)
theorem oG(f:fM):(cX f).length=f.cols:=by simp[cX,fM.cols]
theorem cV.MS(h:css.length=qs.length∧∀(j:Nat) cs q,css[j]? =some cs->qs[j]? =some q->jd w S cs q)(hc:jd w S cs q):
  (css++[cs]).length=(qs++[q]).length∧∀(j:Nat) c p,(css++[cs])[j]? =some c->(qs++[q])[j]? =some p->jd w S c p:=by
 refine⟨by simp[h.1],fun j x p h1 h2=>?_⟩;rcases aP j css.length with hi|hi
 ·rw[aL hi]at h1;rw[aL (by rw[<-h.1];exact hi)]at h2;exact h.2 j x p h1 h2
 ·have RV:j=css.length:=by have:=(aD.1 h1).1;simp at this;omega
  subst RV;rw[aM (aF _),bK]at h1;rw[h.1,aM (aF _),bK]at h2;simp at h1 h2;subst h1 h2;exact hc
set_option maxHeartbeats 1000000 in
theorem Bd{cn:Nat}(hS:Old S w)(hl:jB w S vl l)(UO:f.nodes.length<=20)(OJ:tz f.nodes.length l)
  {ab aq:Option Addr} {nb cb nq cq:Nat} (UP:vb= .slice ab nb cb) (QU:vs= .slice aq nq cq):
  eD PG N.pO #[.agg #[.slice an f.nodes.length cn,vb,vs],vl] w (eG w fun v' w2=>da w2 FF w.heap.size [(w.heap.size,w2.heap.size)] v' (3*f.nodes.length) (fJ f l)∧∀q∈fJ f l,rl q<=1):=by
 subst UP QU;have hw:=bR w;obtain⟨al,cl,rfl,Po,Qu⟩:=hl.shape;have hl200:=OJ.len;refine te (by simp) ?_;refine⟨((3*f.nodes.length:Nat):Int),wo,?_⟩;obtain⟨m,hm⟩:∃m,3*f.nodes.length=m:=⟨_,rfl⟩
 rw[hm]
 refine⟨m,m,rfl,rfl,aF _,by omega,by omega,Nat×World,fun z=>⟨[(5,.o (.s 1 0 m m)),(18,sV al l.length cl),(19,iZ l.length),(20,iN z.1)],[(1,.arr T.int (zv (fO f.nodes.length l z.1)))],2,[],z.2⟩,fun z=>l.length-z.1,
  fun z=>z.1<=l.length∧eB w.heap.size w z.2∧LK (fO f.nodes.length l z.1) (3000000*z.1),?_,?_⟩
 ·intro O w' r3;exact⟨(0,w'),⟨aO _,hw.tr r3.cQ,fun z hz=>by rw[fO]at hz;rw[bL hz];exact⟨Int.le_refl _,Int.le_refl _⟩⟩,Sub.gn [] r3 ⟨by dsimp only;rw[fO,hm,zv,List.map_replicate];rfl,trivial⟩⟩
 rintro⟨i,w1⟩ ⟨hi,hw,Oc⟩;dsimp only at hi hw Oc ⊢;refine dN.mk ?_ ?_<;>intro OF
 ·have OF:i<l.length:=by simpa using OF
  obtain⟨x,hx⟩:∃x,l[i]? =some x:=⟨_,aB OF⟩
  obtain⟨hn,QK,QM,hx3⟩:=OJ.ld x (aC hx);obtain⟨kn,hkn⟩:=Int.eq_ofNat_of_zero_le hn.1;obtain⟨adx,cs,PI,hP,-,Of⟩:=hl.load (by decide) hx;have hP:cs=[.int .i64 x.1,.int .i64 x.2.1,.int .i64 x.2.2.1,.int .i64 x.2.2.2]:=hP;subst hP
  refine⟨adx,PI,by omega,[.int .i64 x.1,.int .i64 x.2.1,.int .i64 x.2.2.1,.int .i64 x.2.2.2],rfl,rdO Of hw hS,Nat×World,fun z=>⟨[(5,.o (.s 1 0 m m)),(7,pP 2 0),(30,.a [.v (.int .i64 x.2.1),.v (.int .i64 x.2.2.1),.v (.int .i64 x.2.2.2)]),(31,iN z.1),(18,sV al l.length cl),(19,iZ l.length),(20,iN i)],[(2,.box T.aAH [.v (.int .i64 x.1),.v (.int .i64 x.2.1),.v (.int .i64 x.2.2.1),.v (.int .i64 x.2.2.2)]),(1,.arr T.int (zv (gN (fO f.nodes.length l i) x z.1)))],3,[],z.2⟩,fun z=>3-z.1,
   fun z=>z.1<=3∧eB w.heap.size w z.2∧LK (gN (fO f.nodes.length l i) x z.1) (3000000*i+1000000*z.1),?_,?_⟩
  ·intro O w' r3;exact⟨(0,w'),⟨aO _,hw.tr r3.cQ,Oc⟩,Sub.gn [] r3⟩
  rintro⟨k,w3⟩ ⟨hk,hw,Oc⟩;dsimp only at hk hw Oc ⊢;refine dN.mk ?_ ?_<;>intro OI
  ·have OI:k<3:=by have:=aI OI;omega
   obtain⟨d,hd⟩:∃d,(My x).getD k 0=d:=⟨_,rfl⟩
   have hdb: -1000000<=d∧d<=1000000:=by
    rw[<-hd,My];rcases(show k=0∨k=1∨k=2 by omega)with rfl|rfl|rfl<;>simp[List.getD]<;>omega
   have hLl:(gN (fO f.nodes.length l i) x k).length=m:=by rw[sM,jx,hm]
   obtain⟨z,hz⟩:∃z,(gN (fO f.nodes.length l i) x k)[3*kn+k]? =some z:=⟨_,aB (by omega)⟩
   have Rq:=Oc z (aC hz);have UM:3*x.1+(k:Int)=((3*kn+k:Nat):Int):=by omega
   have QS:=mL UM hd hz;have Re:=Oc.set (j:=3*kn+k) (z:=z+d) (t2:=3000000*i+1000000*(k+1:Nat)) (by omega) (by omega);rw[QS]at Re;refine zu hτ (cs:= #[.int .i64 x.2.1,.int .i64 x.2.2.1,.int .i64 x.2.2.2]) rfl rfl rfl (fun _=>rfl) rfl ⟨by omega,by omega⟩ (u:=.int .i64 d) ?_ (fun O w4 r=>?_)
   ·rw[<-hd,My,aE];rcases(show k=0∨k=1∨k=2 by omega)with rfl|rfl|rfl<;>rfl
   replace hw:=hw.tr r.cQ;refine⟨3*x.1,wo,((3*kn+k:Nat):Int),wo,by omega,.int .i64 z,by rw[aE,aS,aQ];exact Bb hz,z+d,wo,by omega,by rw[Cx];omega,zv (gN (fO f.nodes.length l i) x (k+1)),?_,?_⟩
   ·rw[aE,aS,aQ,<-QS];exact Cy (by omega)
   refine⟨((k+1:Nat):Int),wo,?_⟩;intro ρ3 w6 r3;exact⟨(k+1,w6),⟨OI,hw.tr r3.cQ,Re⟩,Sub.gn [] r3,by dsimp only;omega⟩
  have OI:k=3:=by have:=aH OI;omega
  subst OI;have QS:gN (fO f.nodes.length l i) x 3=fO f.nodes.length l (i+1):=by rw[fO,show l.getD i (0,0,0,0)=x by rw[List.getD,hx];rfl]
  rw[QS]at Oc ⊢;refine⟨((i+1:Nat):Int),wo,?_⟩;intro ρ3 w6 r3;exact⟨(i+1,w6),⟨OF,hw.tr r3.cQ,fun z hz=>by have:=Oc z hz;dsimp only;omega⟩,Sub.gn [] r3,by dsimp only;omega⟩
 have OF:i=l.length:=aR hi (by simpa using OF);subst OF;obtain⟨s,hs⟩:∃s,fO f.nodes.length l l.length=s:=⟨_,rfl⟩
 have Qd:s.length=m:=by rw[<-hs,jx,hm]
 rw[hs]at Oc ⊢;unfold fJ;rw[hs]
 refine⟨m,m,rfl,rfl,aF _,by omega,by omega,Nat×List (List Value)×Iv×World,fun z=>⟨[(10,.o (.s 2 0 m m)),(51,.o (.s 1 0 m m)),(52,iZ m),(53,iN z.1)],[(2,.arr T.Rat z.2.1.flatten),(1,.arr T.int (zv s))],3,z.2.2.1,z.2.2.2⟩,fun z=>m-z.1,
  fun z=>z.1<=m∧eB w.heap.size w z.2.2.2∧gG z.2.2.2 (Cf w z.2.2.1) m z.1 z.2.1 (cd s),?_,?_⟩
 ·intro O w' r;exact⟨(0,List.replicate m f0,_,w'),⟨aO _,hw.tr r.cQ,gG.start _ _ _ _⟩,Sub.gn [] r⟩
 rintro⟨i,css,iv,w1⟩ ⟨RJ,hw,hF⟩;dsimp only at RJ hw hF ⊢;refine dN.mk ?_ ?_<;>intro OF
 ·have OF:i<m:=by simpa using OF
  obtain⟨z,hz⟩:∃z,s[i]? =some z:=⟨_,aB (by omega)⟩
  have Rq:=Oc z (aC hz);refine⟨by omega,.int .i64 z,by rw[aE,aS,aQ];exact Bb hz,?_⟩;refine cD (cE hw (fun _ w' v w2=>cS w2 (Nf w' w2) v (z:Rat)) (fun O w' r=>lO z w' (by omega) (by omega)) ?_);rintro O _ _ _ OM r he hw h_ hn;replace hF:=hF.cG r (cC w) he (mC h_);have hd:=hn.dE (S:=FF) r.cF (mN h_);obtain⟨A0,A1,A2,A3,A4,A5,A6,A7,rfl⟩:=hd.shape;have OO:=hF.next OF (q:=_) (by rw[cd,aN,hz];rfl) hd
  refine⟨by omega,by have:=hF.flat;omega,(css.set i [.bool A0,.slice A1 A2 A3,.bool A4,.slice A5 A6 A7]).flatten,?_,?_⟩
  ·have:=jH (cs:=[.bool A0,.slice A1 A2 A3,.bool A4,.slice A5 A6 A7]) hF.four (show i<css.length by rw[hF.len];exact OF);rw[<-this];simp
  refine⟨((i+1:Nat):Int),wo,?_⟩;intro ρ3 w3 r3;exact⟨(i+1,css.set i [.bool A0,.slice A1 A2 A3,.bool A4,.slice A5 A6 A7],_,w3),⟨OF,hw.tr r3.cQ,OO.rel r3 (cC w)⟩,Sub.gn [] r3,by dsimp only;omega⟩
 have OF:i=m:=aR RJ (by simpa using OF);subst OF;intro ρe we re
 exact⟨_,rfl,hw.tr re.cQ,hF.done (by rw[cd,aJ];exact Qd) (by unfold maxLen;omega) re (id:=2) rfl (re.nn 2 _ rfl (by intros;simp) (by simp)),fun q hq=>by
  obtain⟨z,hz,rfl⟩:=aT.1 hq;have:=Oc z hz
  exact vM (by omega) (by omega)⟩
set_option maxHeartbeats 1000000 in
theorem Be(hS:Old S w)(hf:du w S vn vb vs f)(OJ:tx f):
  eD PG N.pR #[.agg #[vn,vb,vs]] w (eG w fun v' w2=>cV w2 (Nw S w w2) v' (cX f)):=by
 have hw:=bR w;obtain⟨an,cn,ab,cb,aq,cq,rfl,rfl,rfl,Qw,RX,SG⟩:=hf.shape;have hf0:=hf;refine th (by simp) ?_
 refine⟨Nat×List (List Value)×World,fun z=>⟨[(3,.o (.w 1 z.2.1.length)),(9,sV ab f.bars.length cb),(10,iZ f.bars.length),(11,iN z.1),(1,pP 0 0)],[(1,.vec T.Rat 4 z.2.1.flatten),(0,.box T.Frame [.v (.slice an f.nodes.length cn),.v (.slice ab f.bars.length cb),.v (.slice aq f.cU.length cq)])],2,[],z.2.2⟩,fun z=>f.bars.length-z.1,
  fun z=>z.1<=f.bars.length∧eB w.heap.size w z.2.2∧(∀cs∈z.2.1,cs.length=4)∧(z.2.1.length=((fun i=>(f.bars.take i).map (·.2.2)) z.1).length∧∀(j:Nat) cs q,z.2.1[j]? =some cs->((fun i=>(f.bars.take i).map (·.2.2)) z.1)[j]? =some q->jd z.2.2 S cs q),?_,?_⟩
 ·intro O w' r;exact⟨(0,[],w'),⟨aO _,hw.tr r.cQ,fun cs h=>(by cases h),rfl,fun j cs q h=>by cases h⟩,Sub.nil 3 T.Rat 4 rfl (by simp[jN,SV.sc,At.sc,fW]) r fun ρ1 r1=>Sub.gn [] r1⟩
 rintro⟨k,css,w1⟩ ⟨hk,hw,R4,hR⟩;dsimp only at hk hw R4 hR ⊢;have OX:=eH R4;refine dN.mk ?_ ?_<;>intro OI
 ·have OI:k<f.bars.length:=by simpa using OI
  have TY:=OJ.b;have TZ:=OJ.s;obtain⟨b,hb⟩:∃b,f.bars[k]? =some b:=⟨_,aB OI⟩
  have QS:(fun i=>(f.bars.take i).map (·.2.2)) (k+1)=(fun i=>(f.bars.take i).map (·.2.2)) k++[b.2.2]:=by dsimp only;rw[List.take_add_one,hb];simp
  obtain⟨adb,cs,Pg,hF,-,Oa⟩:=hf0.bars.load (by decide) hb;obtain⟨g0,g1,g2,g3,g4,g5,g6,g7,rfl,hF⟩:=hF;refine⟨adb,Pg,by omega,[.int .i64 b.1,.int .i64 b.2.1,.bool g0,.slice g1 g2 g3,.bool g4,.slice g5 g6 g7],rfl,rdO Oa hw hS,?_⟩;have Vh:jd w1 S [.bool g0,.slice g1 g2 g3,.bool g4,.slice g5 g6 g7] b.2.2:=⟨_,_,_,_,_,_,_,_,rfl,hF.cI fun g hg=>hw.block g (hS g hg)⟩
  have Qs:=cV.MS hR Vh;rw[<-QS]at Qs;have Pm:css.flatten++([.bool g0,.slice g1 g2 g3,.bool g4,.slice g5 g6 g7]:List Value)=(css++([[.bool g0,.slice g1 g2 g3,.bool g4,.slice g5 g6 g7]]:List (List Value))).flatten:=by simp
  have hlen2:css.length<=200:=by rw[hR.1,aJ,aV];have:=OJ.b;omega
  refine .inl ?_;refine⟨by omega,by omega,by unfold maxLen;omega,((k+1:Nat):Int),wo,?_⟩;intro ρ3 w3 r3
  exact⟨(k+1,css++[[.bool g0,.slice g1 g2 g3,.bool g4,.slice g5 g6 g7]],w3),⟨OI,hw.tr r3.cQ,fun cs hc=>by
   rcases bG.1 hc with hc|hc
   ·exact R4 cs hc
   ·rw[aw.1 hc];rfl,Qs.1,fun j cs q h1 h2=>(Qs.2 j cs q h1 h2).cI fun g hg=>(r3.cQ).block g (hS g hg)⟩,Sub.gn [(1,4)] r3 ⟨by dsimp only;rw[<-Pm];rfl,rfl,trivial⟩ ⟨by dsimp only;rw[List.length_append,List.length_singleton];rfl,rfl,rfl,rfl,rfl,trivial⟩,by dsimp only;omega⟩
 have OI:k=f.bars.length:=aR hk (by simpa using OI);subst OI;have Oh:css.length=f.bars.length:=by rw[hR.1,aJ,aV];omega
 rw[bF,show f.bars.map (·.2.2)=f.bars.map (·.2.2)++(f.cU.take 0).map (·.2.2) by simp]at hR
 refine⟨Nat×List (List Value)×World,fun z=>⟨[(3,.o (.w 1 z.2.1.length)),(22,sV aq f.cU.length cq),(23,iZ f.cU.length),(24,iN z.1)],[(1,.vec T.Rat 4 z.2.1.flatten),(0,.box T.Frame [.v (.slice an f.nodes.length cn),.v (.slice ab f.bars.length cb),.v (.slice aq f.cU.length cq)])],2,[],z.2.2⟩,fun z=>f.cU.length-z.1,
  fun z=>z.1<=f.cU.length∧eB w.heap.size w z.2.2∧(∀cs∈z.2.1,cs.length=4)∧(z.2.1.length=((fun i=>f.bars.map (·.2.2)++(f.cU.take i).map (·.2.2)) z.1).length∧∀(j:Nat) cs q,z.2.1[j]? =some cs->((fun i=>f.bars.map (·.2.2)++(f.cU.take i).map (·.2.2)) z.1)[j]? =some q->jd z.2.2 S cs q),?_,?_⟩
 ·intro O w' r3;exact⟨(0,css,w'),⟨aO _,hw.tr r3.cQ,R4,hR.1,fun j cs q h1 h2=>(hR.2 j cs q h1 h2).cI fun g hg=>(r3.cQ).block g (hS g hg)⟩,Sub.gn [] r3⟩
 rintro⟨k,css,w1⟩ ⟨hk,hw,R4,hR⟩;dsimp only at hk hw R4 hR ⊢;have OX:=eH R4;refine dN.mk ?_ ?_<;>intro OI
 ·have OI:k<f.cU.length:=by simpa using OI
  have TY:=OJ.b;have TZ:=OJ.s;obtain⟨b,hb⟩:∃b,f.cU[k]? =some b:=⟨_,aB OI⟩
  have QS:(fun i=>f.bars.map (·.2.2)++(f.cU.take i).map (·.2.2)) (k+1)=(fun i=>f.bars.map (·.2.2)++(f.cU.take i).map (·.2.2)) k++[b.2.2]:=by dsimp only;rw[List.take_add_one,hb];simp
  obtain⟨adb,cs,Pg,hF,-,Oa⟩:=hf0.cU.load (by decide) hb;obtain⟨g0,g1,g2,g3,g4,g5,g6,g7,rfl,hF⟩:=hF;refine⟨adb,Pg,by omega,[.int .i64 b.1,.int .i64 b.2.1,.bool g0,.slice g1 g2 g3,.bool g4,.slice g5 g6 g7],rfl,rdO Oa hw hS,?_⟩;have Vh:jd w1 S [.bool g0,.slice g1 g2 g3,.bool g4,.slice g5 g6 g7] b.2.2:=⟨_,_,_,_,_,_,_,_,rfl,hF.cI fun g hg=>hw.block g (hS g hg)⟩
  have Qs:=cV.MS hR Vh;rw[<-QS]at Qs;have Pm:css.flatten++([.bool g0,.slice g1 g2 g3,.bool g4,.slice g5 g6 g7]:List Value)=(css++([[.bool g0,.slice g1 g2 g3,.bool g4,.slice g5 g6 g7]]:List (List Value))).flatten:=by simp
  have hlen2:css.length<=200:=by rw[hR.1,List.length_append,aJ,aJ,aV];have:=OJ.b;have:=OJ.s;omega
  refine .inl ?_;refine⟨by omega,by omega,by unfold maxLen;omega,((k+1:Nat):Int),wo,?_⟩;intro ρ3 w3 r3
  exact⟨(k+1,css++[[.bool g0,.slice g1 g2 g3,.bool g4,.slice g5 g6 g7]],w3),⟨OI,hw.tr r3.cQ,fun cs hc=>by
   rcases bG.1 hc with hc|hc
   ·exact R4 cs hc
   ·rw[aw.1 hc];rfl,Qs.1,fun j cs q h1 h2=>(Qs.2 j cs q h1 h2).cI fun g hg=>(r3.cQ).block g (hS g hg)⟩,Sub.gn [(1,4)] r3 ⟨by dsimp only;rw[<-Pm];rfl,rfl,trivial⟩ ⟨by dsimp only;rw[List.length_append,List.length_singleton];rfl,rfl,rfl,rfl,trivial⟩,by dsimp only;omega⟩
 have OI:k=f.cU.length:=aR hk (by simpa using OI);subst OI;intro ρe we re;have hfull:f.bars.map (·.2.2)++(f.cU.take f.cU.length).map (·.2.2)=cX f:=by rw[bF];rfl
 rw[hfull]at hR;refine⟨_,rfl,hw.tr re.cQ,css,?_,hR.1,R4,fun j cs q k1 k2=>((hR.2 j cs q k1 k2).cI fun g hg=>(re.cQ).block g (hS g hg)).cJ fun g hg=>.inl hg⟩;have Po:=hR.1
 have h5:=re.ie (id:=1) (sz:=4) (m:=css.length) rfl OX (by have:=OJ.b;have:=OJ.s;rw[Po,oG];unfold fM.cols maxLen;omega) (by decide) (fun u hu=>by
  obtain⟨cs,hc,hu⟩:=List.mem_flatten.1 hu;obtain⟨j,hj⟩:=aU hc;obtain⟨_,_,_,_,_,_,_,_,rfl,_⟩:=hR.2 j cs _ hj (aB (by rw[<-Po];exact(aD.1 hj).1));simp at hu
  rcases hu with rfl|rfl|rfl|rfl<;>rfl)
 rw[<-Po];exact h5.cJ fun g hg=>.inr hg
theorem cL.Ln:cL w S (.slice none 0 0) []:=⟨[],⟨aO _,rfl,by simp,none,0,rfl,aF _,fun j u h=>by cases h⟩,rfl,by simp,fun j cs x h=>by cases h⟩
def ed{α:Type}(e:List α->α->Int):List α->List α->Int
 |_,[]=>0
 |seen,x::r=>if e seen x=0 then ed e (seen++[x]) r else e seen x
section
variable{α:Type}{e:List α->α->Int}{xs:List α}
theorem gU{k:Nat}{x:α}(hx:xs[k]? =some x)(h0:e (xs.take k) x=0):ed e (xs.take k) (xs.drop k)=ed e (xs.take (k+1)) (xs.drop (k+1)):=by
 have hk:=(aD.1 hx).1;have h2:=(aD.1 hx).2;rw[List.drop_eq_getElem_cons hk,h2,ed,if_pos h0,List.take_add_one,hx];rfl
theorem cR{k:Nat}{x:α}{c:Int}(hx:xs[k]? =some x)(h0:e (xs.take k) x=c)(hc:c≠0):ed e (xs.take k) (xs.drop k)=c:=by
 have hk:=(aD.1 hx).1;have h2:=(aD.1 hx).2;rw[List.drop_eq_getElem_cons hk,h2,ed,aK (by rw[h0];exact hc),h0]
theorem ij{k:Nat}(hk:xs.length<=k):ed e (xs.take k) (xs.drop k)=0:=by
 rw[List.drop_eq_nil_of_le hk];rfl
theorem iX(h:ed e [] xs=0):∀k x,xs[k]? =some x->e (xs.take k) x=0:=by
 have key:∀k,k<=xs.length->ed e (xs.take k) (xs.drop k)=0∧∀j x,j<k->xs[j]? =some x->e (xs.take j) x=0:=fun k=>by
  induction k with
  |zero=>intro _;exact⟨by simpa using h,fun j x hj=>by omega⟩
  |succ k ih=>
   intro hk;obtain⟨h1,h2⟩:=ih (by omega);obtain⟨x,hx⟩:∃x,xs[k]? =some x:=⟨_,aB (by omega)⟩
   have h0:e (xs.take k) x=0:=by
    by_cases h0:e (xs.take k) x=0
    ·exact h0
    ·rw[cR hx rfl h0]at h1;exact h1
   refine⟨by rw[<-gU hx h0];exact h1,fun j y hj hy=>?_⟩;rcases aP j k with Rn|Rn
   ·exact h2 j y Rn hy
   ·have:j=k:=by omega
    subst this;rw[hx]at hy;injection hy with hy;rw[<-hy];exact h0
 exact fun k x hx=>(key xs.length (aF _)).2 k x (aD.1 hx).1 hx
end
def mh(n:Int):Prop:= -1000000<=n∧n<=1000000
instance (n : Int) : Decidable (mh n) := by unfold mh; infer_instance
def ei(seen:List (Int×Int×Int))(p:Int×Int×Int):Int:=if mh p.1∧mh p.2.1∧mh p.2.2 then(if p∈seen then 12 else 0)else 2
def gO(b:Int×Int×Rat):Int×Int:=(min b.1 b.2.1,max b.1 b.2.1)
def iz(n:Nat)(i:Int):Prop:=0<=i∧i<n
instance (n : Nat) (i : Int) : Decidable (iz n i) := by unfold iz; infer_instance
def fF(n:Nat)(seen:List (Int×Int×Rat))(b:Int×Int×Rat):Int:=
 if iz n b.1∧iz n b.2.1 then(if b.1=b.2.1 then 3 else if gO b∈seen.map gO then 5 else if b.2.2<=0 then 2 else 0)else 6
def iW(s:Int×Int×Rat):Int×Int:=(s.1,s.2.1)
def kN(n:Nat)(seen:List (Int×Int×Rat))(s:Int×Int×Rat):Int:=
 if iz n s.1 then(if 0<=s.2.1∧s.2.1<=2 then(if iW s∈seen.map iW then 5 else if s.2.2<0 then 2 else 0)else 2)else 6
def eO(f:fM):Int:=
 if 20<f.nodes.length∨60<f.bars.length∨60<f.cU.length then 8 else
  if ed ei [] f.nodes≠0 then ed ei [] f.nodes else
   if ed (fF f.nodes.length) [] f.bars≠0 then ed (fF f.nodes.length) [] f.bars else ed (kN f.nodes.length) [] f.cU
def j2(n:Nat)(x:Ld):Int:=if iz n x.1 then(if mh x.2.1∧mh x.2.2.1∧mh x.2.2.2 then 0 else 2)else 6
def uA(n:Nat)(l:List Ld):Int:=if 200<l.length then 8 else ed (fun _=>j2 n) [] l
def j3(f:fM)(l:List Ld):Int:=if eO f≠0 then eO f else uA f.nodes.length l
theorem sN{seen:List (Int×Int×Int)}:ei seen p=0↔(mh p.1∧mh p.2.1∧mh p.2.2)∧p∉seen:=by
 unfold ei;split<;>rename_i h
 ·split<;>rename_i h2<;>simp[h,h2]
 ·simp[h]
theorem mu:fF n seen b=0↔(iz n b.1∧iz n b.2.1)∧b.1≠b.2.1∧gO b∉seen.map gO∧0<b.2.2:=by
 unfold fF;rw[<-Rat.not_le];by_cases h:iz n b.1∧iz n b.2.1
 ·rw[if_pos h];by_cases h2:b.1=b.2.1
  ·rw[if_pos h2];exact⟨(fun e=>by cases e),fun e=>absurd h2 e.2.1⟩
  ·rw[aK h2];by_cases h3:gO b∈seen.map gO
   ·rw[if_pos h3];exact⟨(fun e=>by cases e),fun e=>absurd h3 e.2.2.1⟩
   ·rw[aK h3];by_cases h4:b.2.2<=0
    ·rw[if_pos h4];exact⟨(fun e=>by cases e),fun e=>absurd h4 e.2.2.2⟩
    ·rw[aK h4];exact⟨fun _=>⟨h,h2,h3,h4⟩,fun _=>rfl⟩
 ·rw[aK h];exact⟨(fun e=>by cases e),fun e=>absurd e.1 h⟩
theorem qT{s:Int×Int×Rat}:kN n seen s=0↔iz n s.1∧(0<=s.2.1∧s.2.1<=2)∧iW s∉seen.map iW∧0<=s.2.2:=by
 unfold kN;rw[<-Rat.not_lt];by_cases h:iz n s.1<;>by_cases h2:0<=s.2.1∧s.2.1<=2<;>by_cases h3:iW s∈seen.map iW<;>by_cases h4:s.2.2<0<;>simp only[h,h2,h3,h4]<;>simp
theorem GA:j2 n x=0↔iz n x.1∧mh x.2.1∧mh x.2.2.1∧mh x.2.2.2:=by
 unfold j2;split<;>rename_i h
 ·split<;>rename_i h2<;>simp[h,h2]
 ·simp[h]
theorem ua(h:eO f=0):(f.nodes.length<=20∧f.bars.length<=60∧f.cU.length<=60)∧ed ei [] f.nodes=0∧ed (fF f.nodes.length) [] f.bars=0∧ed (kN f.nodes.length) [] f.cU=0:=by
 unfold eO at h;split at h<;>rename_i h1
 ·cases h
 ·split at h<;>rename_i h2
  ·exact absurd h h2
  ·split at h<;>rename_i h3
   ·exact absurd h h3
   ·exact⟨by omega,by simpa using h2,by simpa using h3,h⟩
theorem ni(h:eO f=0):tx f:=by
 obtain⟨⟨h1,h2,h3⟩,hn,hb,hs⟩:=ua h;refine⟨fun p hp=>?_,fun b QJ=>?_,fun s TG=>?_,h1,h2,h3⟩
 ·obtain⟨k,hk⟩:=aU hp;exact(sN.1 (iX hn k p hk)).1
 ·obtain⟨k,hk⟩:=aU QJ;exact(mu.1 (iX hb k b hk)).1
 ·obtain⟨k,hk⟩:=aU TG;have:=qT.1 (iX hs k s hk);exact⟨this.1,this.2.1⟩
theorem Cz(h:uA n l=0):tz n l:=by
 unfold uA at h;split at h<;>rename_i h1
 ·cases h
 ·refine⟨by omega,fun x hx=>?_⟩;obtain⟨k,hk⟩:=aU hx;exact GA.1 (iX h k x hk)
theorem lQ(h:j3 f l=0):eO f=0∧uA f.nodes.length l=0:=by
 unfold j3 at h;split at h<;>rename_i h1
 ·exact absurd h h1
 ·exact⟨by simpa using h1,h⟩
theorem ko(n:Int)(w:World):eD PG N.pW #[.int .i64 n,.int .i64 1000000] w (eG w fun v' _=>∃d,v'= .bool d∧(d=true↔mh n)):=by
 have hw:=bR w;refine tm (by simp) ?_;refine⟨-1000000,by decide,?_⟩;refine dN.mk ?_ ?_<;>intro h1
 ·intro ρe we re;have h1:=aI h1;exact⟨_,rfl,hw.tr re.cQ,_,rfl,by rw[decide_eq_true_iff];exact⟨fun h=>⟨h1,h⟩,fun h=>h.2⟩⟩
 ·intro ρe we re;have h1:=aH h1;exact⟨_,rfl,hw.tr re.cQ,_,rfl,(fun h=>by cases h),fun h=>absurd h.1 h1⟩
theorem GB(n:Int)(w:World)(an ab aq:Option Addr)(ln cn nb cb nq cq:Nat):eD PG N.wM #[.agg #[.slice an ln cn,.slice ab nb cb,.slice aq nq cq],.int .i64 n] w (eG w fun v' _=>∃d,v'= .bool d∧(d=true↔iz ln n)):=by
 have hw:=bR w;refine z7 (by simp) ?_;refine dN.mk ?_ ?_<;>intro h1
 ·intro ρe we re;have h1:=aI h1;exact⟨_,rfl,hw.tr re.cQ,_,rfl,by rw[decide_eq_true_iff];exact⟨fun h=>⟨h1,h⟩,fun h=>h.2⟩⟩
 ·intro ρe we re;have h1:=aH h1;exact⟨_,rfl,hw.tr re.cQ,_,rfl,(fun h=>by cases h),fun h=>absurd h.1 h1⟩
theorem DA(x y0 y1 y2:Int)(n:Nat)(w:World):eD PG N.mA #[.agg #[.int .i64 x,.int .i64 y0,.int .i64 y1,.int .i64 y2],.int .i64 n] w (eG w fun v' _=>v'= .int .i64 (j2 n (x,y0,y1,y2))):=by
 have hw:=bR w;refine pc (by simp) ?_;refine dN.mk ?_ ?_<;>intro h1
 ·have h1:=aI h1;exact rtn hw fun ρe we re=>by show Value.int .i64 _=_;rw[j2,aK (by unfold iz;omega)]
 have h1:=aH h1;refine dN.mk ?_ ?_<;>intro h2
 ·have h2:=aI h2;exact rtn hw fun ρe we re=>by show Value.int .i64 _=_;rw[j2,aK (by unfold iz;omega)]
 have h2:=aH h2;have hh:iz n x:=by unfold iz;omega
 refine cD (cE hw (fun _ w' v w2=>∃d,v= .bool d∧(d=true↔mh y0)) (fun O w' r=>ko _ w') ?_);rintro O _ _ _ OM r he hw h_ ⟨d0,rfl,OQ⟩
 cases d0
 ·have OQ:¬mh y0:=fun h=>by have:=OQ.2 h;cases this
  exact rtn hw fun ρe we re=>by show Value.int .i64 _=_;rw[j2,if_pos hh,aK (fun h=>OQ h.1)]
 replace OQ:=OQ.1 rfl;refine cD (cE hw (fun _ w' v w2=>∃d,v= .bool d∧(d=true↔mh y1)) (fun O w' r=>ko _ w') ?_);rintro O _ _ _ OK r he hw h_ ⟨d1,rfl,OV⟩
 cases d1
 ·have OV:¬mh y1:=fun h=>by have:=OV.2 h;cases this
  exact rtn hw fun ρe we re=>by show Value.int .i64 _=_;rw[j2,if_pos hh,aK (fun h=>OV h.2.1)]
 replace OV:=OV.1 rfl;refine cD (cE hw (fun _ w' v w2=>∃d,v= .bool d∧(d=true↔mh y2)) (fun O w' r=>ko _ w') ?_);rintro O _ _ _ OS r he hw h_ ⟨d2,rfl,Ov⟩
 cases d2
 ·have Ov:¬mh y2:=fun h=>by have:=Ov.2 h;cases this
  exact rtn hw fun ρe we re=>by show Value.int .i64 _=_;rw[j2,if_pos hh,aK (fun h=>Ov h.2.2)]
 replace Ov:=Ov.1 rfl;exact rtn hw fun ρe we re=>by show Value.int .i64 _=_;rw[j2,if_pos hh,if_pos ⟨OQ,OV,Ov⟩]
theorem An(hS:Old S w)(hl:jB w S vl l):eD PG N.lJ #[vl,.int .i64 n] w (eG w fun v' _=>v'= .int .i64 (uA n l)):=by
 have hw:=bR w;obtain⟨al,cl,rfl,Po,Qu⟩:=hl.shape;unfold maxLen at Qu;refine o8 (by simp) ?_;refine dN.mk ?_ ?_<;>intro h1
 ·have h1:=aI h1;exact rtn hw fun ρe we re=>by show Value.int .i64 _=_;rw[uA,if_pos (by omega)]
 have h1:=aH h1
 refine⟨Nat×World×Iv,fun z=>⟨[(1,iZ n),(11,sV al l.length cl),(12,iZ l.length),(13,iN z.1)],[],0,z.2.2,z.2.1⟩,fun z=>l.length-z.1,
  fun z=>z.1<=l.length∧eB w.heap.size w z.2.1∧uA n l=ed (fun _=>j2 n) (l.take z.1) (l.drop z.1),?_,?_⟩
 ·intro O w' r3;exact⟨(0,w',[]),⟨aO _,hw.tr r3.cQ,by rw[uA,aK (by omega)];rfl⟩,Sub.gn [] r3⟩
 rintro⟨i,w1,iv⟩ ⟨hi,hw,hE⟩;dsimp only at hi hw hE ⊢;refine dN.mk ?_ ?_<;>intro OF
 ·have OF:i<l.length:=by simpa using OF
  obtain⟨x,hx⟩:∃x,l[i]? =some x:=⟨_,aB OF⟩
  obtain⟨adx,cs,PI,hP,-,Of⟩:=hl.load (by decide) hx;have hP:cs=[.int .i64 x.1,.int .i64 x.2.1,.int .i64 x.2.2.1,.int .i64 x.2.2.2]:=hP;subst hP;refine⟨adx,PI,by omega,[.int .i64 x.1,.int .i64 x.2.1,.int .i64 x.2.2.1,.int .i64 x.2.2.2],rfl,rdO Of hw hS,?_⟩;refine cD (cE hw (fun _ w' v w2=>v= .int .i64 (j2 n x)) (fun O w' r=>DA _ _ _ _ n w') ?_);rintro O _ _ _ OM r he hw h_ rfl;obtain⟨c,hc⟩:∃c,j2 n x=c:=⟨_,rfl⟩
  rw[hc];refine dN.mk ?_ ?_<;>intro hd
  ·have hd:c≠0:=by simpa using hd
   exact rtn hw fun ρe we re=>by show Value.int .i64 _=_;rw[hE,cR hx hc hd]
  have hd:c=0:=by simpa using hd
  rw[hd]at hc;rw[gU hx hc]at hE;refine⟨((i+1:Nat):Int),wo,?_⟩;intro ρ3 w6 r3;exact⟨(i+1,w6,_),⟨OF,hw.tr r3.cQ,hE⟩,Sub.gn [] r3,by dsimp only;omega⟩
 have OF:i=l.length:=aR hi (by simpa using OF);rw[ij (by omega)]at hE;exact rtn hw fun ρe we re=>by show Value.int .i64 _=_;rw[hE]
theorem fK{cs:Array Value}(h:cs[j]? =some v)(w:World):(part T.int cs j).run PG w= .ok v w:=by
 have:=(hτ T.int _ rfl).isAgg w;simp only[part,Sem.run_bind,this,Result.andThen]
 simp[h]
theorem eq_int(d:Nat)(a b:Int)(w:World):(Op.equalIn (d+1) T.int (.int .i64 a) (.int .i64 b)).run PG w= .ok (a==b) w:=by
 unfold Op.equalIn;simp[run_underlying ((hτ T.int _ rfl).i1 rfl)]
theorem Lo(p0 p1 p2 q0 q1 q2:Int)(w:World):(Op.equal T.Node (.agg #[.int .i64 p0,.int .i64 p1,.int .i64 p2]) (.agg #[.int .i64 q0,.int .i64 q1,.int .i64 q2])).run PG w= .ok (decide (p0=q0∧p1=q1∧p2=q2)) w:=by
 have h:=run_underlying Tryz.underlying169;simp only[Op.equal,Op.maxDepth]
 unfold Op.equalIn;have a0:=fK (cs:= #[Value.int .i64 p0,Value.int .i64 p1,Value.int .i64 p2]) (j:=0) rfl;have a1:=fK (cs:= #[Value.int .i64 p0,Value.int .i64 p1,Value.int .i64 p2]) (j:=1) rfl;have a2:=fK (cs:= #[Value.int .i64 p0,Value.int .i64 p1,Value.int .i64 p2]) (j:=2) rfl;have b0:=fK (cs:= #[Value.int .i64 q0,Value.int .i64 q1,Value.int .i64 q2]) (j:=0) rfl;have b1:=fK (cs:= #[Value.int .i64 q0,Value.int .i64 q1,Value.int .i64 q2]) (j:=1) rfl;have b2:=fK (cs:= #[Value.int .i64 q0,Value.int .i64 q1,Value.int .i64 q2]) (j:=2) rfl;simp[h,a0,a1,a2,b0,b1,b2,eq_int 9998];by_cases h0:p0=q0
 ·by_cases h1:p1=q1
  ·by_cases h2:p2=q2<;>simp[h0,h1,h2]
  ·simp[h0,h1]
 ·simp[h0]
theorem Lp(p0 p1 q0 q1:Int)(w:World):(Op.equal T.CY (.agg #[.int .i64 p0,.int .i64 p1]) (.agg #[.int .i64 q0,.int .i64 q1])).run PG w= .ok (decide (p0=q0∧p1=q1)) w:=by
 have h:=run_underlying Tryz.underlying187;simp only[Op.equal,Op.maxDepth]
 unfold Op.equalIn;have a0:=fK (cs:= #[Value.int .i64 p0,Value.int .i64 p1]) (j:=0) rfl;have a1:=fK (cs:= #[Value.int .i64 p0,Value.int .i64 p1]) (j:=1) rfl;have b0:=fK (cs:= #[Value.int .i64 q0,Value.int .i64 q1]) (j:=0) rfl;have b1:=fK (cs:= #[Value.int .i64 q0,Value.int .i64 q1]) (j:=1) rfl;simp[h,a0,a1,b0,b1,eq_int 9998];by_cases h0:p0=q0
 ·by_cases h1:p1=q1<;>simp[h0,h1]
 ·simp[h0]
abbrev Bf(p:Int×Int×Int):Value:=.agg #[.int .i64 p.1,.int .i64 p.2.1,.int .i64 p.2.2]
theorem Eh(p q:Int×Int×Int)(w:World)(o1 o2:Operand):(do eqGuard .eql T.Node o1 o2 (Bf p) (Bf q);binOp .eql T.Node (Bf p) (Bf q)).run PG w= .ok (.bool (decide (p=q))) w:=by
 have h:=Lo p.1 p.2.1 p.2.2 q.1 q.2.1 q.2.2 w;simp[eqGuard,binOp,h];obtain⟨a,b,c⟩:=p;obtain⟨a2,b2,c2⟩:=q;by_cases h0:a=a2
 ·by_cases h1:b=b2
  ·by_cases h2:c=c2<;>simp[h0,h1,h2]
  ·simp[h0,h1]
 ·simp[h0]
def nH(k:Int×Int):Value:=.agg #[.int .i64 k.1,.int .i64 k.2]
theorem pt{a b:Int×Int}(h:nH a=nH b):a=b:=by
 unfold nH at h;injection h with h;have h1:=congrArg (fun x=>x[0]?) h;have h2:=congrArg (fun x=>x[1]?) h;simp at h1 h2;exact Prod.ext h1 h2
theorem IJ(d:Nat)(a:Int)(em:Bool)(w:World):(Instr.checkKey em (d+1) T.int (.int .i64 a)).run PG w= .ok () w:=by
 unfold Instr.checkKey;simp[run_underlying ((hτ T.int _ rfl).i1 rfl)]
theorem GC(p0 p1:Int)(em:Bool)(w:World):(Instr.checkKey em 10000 T.CY (.agg #[.int .i64 p0,.int .i64 p1])).run PG w= .ok () w:=by
 have h:=run_underlying Tryz.underlying187;have a0:=fK (cs:= #[Value.int .i64 p0,Value.int .i64 p1]) (j:=0) rfl;have a1:=fK (cs:= #[Value.int .i64 p0,Value.int .i64 p1]) (j:=1) rfl;unfold Instr.checkKey;simp[h,a0,a1,IJ 9998]
theorem xj:Iu PG T.CY (fun v=>∃k,v=nH k) where
 desc:=⟨_,Tryz.underlying187⟩
 check:=fun w em v ⟨k,e⟩=>by subst e;exact GC k.1 k.2 em w
 eq:=fun w a b ⟨p,e1⟩ ⟨q,e2⟩=>by
  subst e1 e2;refine⟨_,Lp p.1 p.2 q.1 q.2 w,?_⟩;rw[decide_eq_true_iff];exact⟨fun h=>by rw[show p=q from Prod.ext h.1 h.2],fun h=>by have:=pt h;subst this;exact⟨rfl,rfl⟩⟩
theorem uB:PG.underlying T.xA=some (.map T.CY T.bool):=Tryz.underlying185
theorem Bg(w:World):(zeroValue T.bool).run PG w= .ok (.bool false) w:=by kernel_rfl
theorem KI(ad:Option Addr)(k:Nat):ad.map (·.add (0*k))=ad:=by
 rw[Nat.zero_mul]
 cases ad with
 |none=>rfl
 |some a=>simp only[Option.map_some,Option.some.injEq];unfold Addr.add;split<;>simp_all
theorem eX.take{α:Type}{k:Nat}{P:World->(Nat->Prop)->List Value->α->Prop}{c:Nat}{xs:List α}(h:eX k P w S (.slice a n c) xs){i:Nat}(hi:i<=xs.length):
  eX k P w S (.slice a i c) (xs.take i):=by
 obtain⟨css,⟨h0,h1,h2,a',c',e,h3,h4⟩,hl,hlk,hf⟩:=h;injection e with e1 e2 e3;subst e1 e2 e3;have hlen:(css.take i).length=i:=by rw[aV,hl];omega
 have Ub:(xs.take i).length=i:=by rw[aV];omega
 have RZ:css.flatten=(css.take i).flatten++(css.drop i).flatten:=by rw[<-List.flatten_append,List.take_append_drop]
 refine⟨css.take i,⟨by omega,?_,fun u hu=>h2 u (by rw[RZ];exact List.mem_append_left _ hu),a,c,by rw[Ub],by omega,fun j u hj=>h4 j u ?_⟩,by rw[hlen,Ub],fun cs hc=>hlk cs (bc hc),fun j cs x k1 k2=>?_⟩
 ·rw[qV fun cs hc=>hlk cs (bc hc),hlen,Ub]
 ·rw[RZ,aL (aD.1 hj).1];exact hj
 ·have hj:=(aD.1 k1).1;rw[hlen]at hj;rw[bU hj]at k1 k2;exact hf j cs x k1 k2
theorem mb.cI{w2:World}(h:mb w S v xs)(hk:∀g,S g->w2.heap[g]? =w.heap[g]?):mb w2 S v xs:=eX.cI (w:=w) (fun _ _ h=>h) h hk
theorem DB(hS:Old S w)(hn:mb w S vn xs)(p:Int×Int×Int):eD PG N.fo #[vn,Bf p] w (eG w fun v' _=>∃r,v'= .int .i64 r∧(-1<=r)∧(0<=r↔p∈xs)):=by
 have hw:=bR w;obtain⟨an,cn,rfl,hcn,Qw⟩:=hn.shape;unfold maxLen at Qw;refine iQ (by simp) ?_
 refine⟨Nat×World,fun z=>⟨[(0,sV an xs.length cn),(3,pP 0 0),(7,iZ xs.length),(8,iN z.1)],[(0,.box T.Node [.v (.int .i64 p.1),.v (.int .i64 p.2.1),.v (.int .i64 p.2.2)])],1,[],z.2⟩,fun z=>xs.length-z.1,
  fun z=>z.1<=xs.length∧eB w.heap.size w z.2∧(p∈xs↔p∈xs.drop z.1),?_,?_⟩
 ·intro O w' r3;exact⟨(0,w'),⟨aO _,hw.tr r3.cQ,Iff.rfl⟩,Sub.gn [] r3⟩
 rintro⟨i,w1⟩ ⟨hi,hw,hE⟩;dsimp only at hi hw hE ⊢;refine dN.mk ?_ ?_<;>intro OF
 ·have OF:i<xs.length:=by simpa using OF
  obtain⟨q,hx⟩:∃x,xs[i]? =some x:=⟨_,aB OF⟩
  have hdr:xs.drop i=q::xs.drop (i+1):=by rw[List.drop_eq_getElem_cons OF,(aD.1 hx).2]
  obtain⟨adx,cs,PI,hP,-,Of⟩:=hn.load (by decide) hx;have hP:cs=[.int .i64 q.1,.int .i64 q.2.1,.int .i64 q.2.2]:=hP;subst hP;refine ic hτ dm (.x 1 (.x 2 (.x 3 (.ld 0 32 (.ld 4 32 (.x 5 .nil)))))) (by kernel_rfl) (by kernel_rfl) ?_;refine⟨adx,PI,by omega,[.int .i64 q.1,.int .i64 q.2.1,.int .i64 q.2.2],rfl,rdO Of hw hS,decide (p=q),fun O w o1 o2=>Eh p q w o1 o2,?_⟩;refine dN.mk ?_ ?_<;>intro hd
  ·have hd:p=q:=aI hd;exact rtn hw fun ρe we re=>⟨_,rfl,by omega,iff_of_true (by omega) (hE.2 (by rw[hdr,hd];exact aG))⟩
  have hd:p≠q:=aH hd;rw[hdr,List.mem_cons,or_iff_right hd]at hE;refine⟨((i+1:Nat):Int),wo,?_⟩;intro ρ3 w6 r3;exact⟨(i+1,w6),⟨OF,hw.tr r3.cQ,hE⟩,Sub.gn [] r3,by dsimp only;omega⟩
 have OF:i=xs.length:=aR hi (by simpa using OF);rw[OF,List.drop_length]at hE;exact rtn hw fun ρe we re=>⟨_,rfl,by omega,iff_of_false (by omega) fun h=>by cases hE.1 h⟩
theorem xU(hS:Old S w)(hn:mb w S vn xs)(p:Int×Int×Int):eD PG N.fQ #[vn,Bf p] w (eG w fun v' _=>∃d,v'= .bool d∧(d=true↔p∈xs)):=by
 have hw:=bR w;obtain⟨an,cn,rfl,hcn,Qw⟩:=hn.shape;refine iA (by simp) ?_;refine cD (cE hw (fun _ w' v w2=>∃r,v= .int .i64 r∧(-1<=r)∧(0<=r↔p∈xs)) (fun O w' r=>DB (p:=p) (oS hS r) (mb.cI hn (kS hw r hS))) ?_);rintro O _ _ _ OM r he hw h_ ⟨r0,rfl,hr0,Sf⟩;exact rtn hw fun ρe we re=>⟨_,rfl,by rw[decide_eq_true_iff];exact Sf⟩
def xV(w:World)(S:Nat->Prop)(g:Nat)(ks:List Value):Prop:=S g∧D7 w g ks
section
variable{S:Nat->Prop}{H:Hp}{nx:Nat}{iv iv':Iv}{B:Nat}{w w' w2:World}{O:Nat->Sx.dg}{g:Nat}{ks:List Value}
theorem xV.rel(h:xV w (Cv S B iv) g ks)(r:Rel H nx iv B w O w')(hS:∀g,S g->g<B):xV w' (Cv S B iv) g ks:=⟨h.1,h.2.cI (Rel.same r hS h.1)⟩
theorem xV.cG(h:xV w (Cv S B iv) g ks)(r:Rel H nx iv B w O w')(hS:∀g,S g->g<B)(he:Ext w' w2)(hm:∀p,p∈iv->p∈iv'):xV w2 (Cv S B iv') g ks:=
 ⟨h.1.mono hm,(h.rel r hS).2.cI (he.block g (Rel.old r hS g h.1))⟩
end
set_option maxHeartbeats 2000000 in
theorem Ei(hS:Old S w)(hf:du w S vn vb vs f):eD PG N.qo #[.agg #[vn,vb,vs]] w (eG w fun v' _=>v'= .int .i64 (eO f)):=by
 have hw:=bR w;obtain⟨an,cn,ab,cb,aq,cq,rfl,rfl,rfl,Qw,RX,SG⟩:=hf.shape;obtain⟨_,_,hsh,hcn,_⟩:=hf.nodes.shape;injection hsh with e1 e2 e3;subst e1 e3;refine uw (by simp) ?_;refine dN.mk ?_ ?_<;>intro h0
 ·have h0:=aI h0;exact rtn hw fun ρe we re=>by show Value.int .i64 _=_;rw[eO,if_pos (by omega)]
 have h0:=aH h0;refine dN.mk ?_ ?_<;>intro h1
 ·have h1:=aI h1;exact rtn hw fun ρe we re=>by show Value.int .i64 _=_;rw[eO,if_pos (by omega)]
 have h1:=aH h1;refine dN.mk ?_ ?_<;>intro h2
 ·have h2:=aI h2;exact rtn hw fun ρe we re=>by show Value.int .i64 _=_;rw[eO,if_pos (by omega)]
 have h2:=aH h2
 refine⟨Nat×World×Iv,fun z=>⟨[(1,pP 0 0),(30,sV an f.nodes.length cn),(31,iZ f.nodes.length),(32,iN z.1)],[(0,.box T.Frame [.v (.slice an f.nodes.length cn),.v (.slice ab f.bars.length cb),.v (.slice aq f.cU.length cq)])],1,z.2.2,z.2.1⟩,fun z=>f.nodes.length-z.1,
  fun z=>z.1<=f.nodes.length∧eB w.heap.size w z.2.1∧ed ei [] f.nodes=ed ei (f.nodes.take z.1) (f.nodes.drop z.1),?_,?_⟩
 ·intro O w' r3;exact⟨(0,w',[]),⟨aO _,hw.tr r3.cQ,rfl⟩,Sub.gn [] r3⟩
 rintro⟨i,w1,iv⟩ ⟨hi,hw,hE⟩;dsimp only at hi hw hE ⊢;refine dN.mk ?_ ?_<;>intro OF
 ·have OF:i<f.nodes.length:=by simpa using OF
  obtain⟨q,hx⟩:∃x,f.nodes[i]? =some x:=⟨_,aB OF⟩
  obtain⟨adx,cs,PI,hP,-,Of⟩:=hf.nodes.load (by decide) hx;have hP:cs=[.int .i64 q.1,.int .i64 q.2.1,.int .i64 q.2.2]:=hP;subst hP;refine⟨adx,PI,by omega,[.int .i64 q.1,.int .i64 q.2.1,.int .i64 q.2.2],rfl,rdO Of hw hS,?_⟩;refine cD (cE hw (fun _ w' v w2=>∃d,v= .bool d∧(d=true↔mh q.1)) (fun O w' r=>ko _ w') ?_);rintro O Pq v1 Pa OM r he hw h_ ⟨d0,rfl,OQ⟩
  cases d0
  ·have OQ:¬mh q.1:=fun h=>by have:=OQ.2 h;cases this
   exact rtn hw fun ρe we re=>by show Value.int .i64 _=_;rw[eO,aK (by omega),if_pos (by rw[hE,cR hx (show ei (f.nodes.take i) q=2 by rw[ei,aK (fun h=>OQ h.1)]) (by decide)];decide),hE,cR hx (show ei (f.nodes.take i) q=2 by rw[ei,aK (fun h=>OQ h.1)]) (by decide)]
  replace OQ:=OQ.1 rfl;refine cD (cE hw (fun _ w' v w2=>∃d,v= .bool d∧(d=true↔mh q.2.1)) (fun O w' r=>ko _ w') ?_);rintro O Ph v2 PD OK r he hw h_ ⟨d1,rfl,OV⟩
  cases d1
  ·have OV:¬mh q.2.1:=fun h=>by have:=OV.2 h;cases this
   exact rtn hw fun ρe we re=>by show Value.int .i64 _=_;rw[eO,aK (by omega),if_pos (by rw[hE,cR hx (show ei (f.nodes.take i) q=2 by rw[ei,aK (fun h=>OV h.2.1)]) (by decide)];decide),hE,cR hx (show ei (f.nodes.take i) q=2 by rw[ei,aK (fun h=>OV h.2.1)]) (by decide)]
  replace OV:=OV.1 rfl;refine cD (cE hw (fun _ w' v w2=>∃d,v= .bool d∧(d=true↔mh q.2.2)) (fun O w' r=>ko _ w') ?_);rintro O PQ v3 PN OS r he hw h_ ⟨d2,rfl,Ov⟩
  cases d2
  ·have Ov:¬mh q.2.2:=fun h=>by have:=Ov.2 h;cases this
   exact rtn hw fun ρe we re=>by show Value.int .i64 _=_;rw[eO,aK (by omega),if_pos (by rw[hE,cR hx (show ei (f.nodes.take i) q=2 by rw[ei,aK (fun h=>Ov h.2.2)]) (by decide)];decide),hE,cR hx (show ei (f.nodes.take i) q=2 by rw[ei,aK (fun h=>Ov h.2.2)]) (by decide)]
  replace Ov:=Ov.1 rfl;refine ic hτ dm (.x 0 (.x 2 (.ld 1 104 (.x 3 (.ld 4 96 (.x 5 (.x 6 .nil))))))) (by kernel_rfl) (by kernel_rfl) ?_;refine⟨⟨by omega,by omega,by omega⟩,an,i,cn,by rw[show ((0:Int).toNat*3)=0*3 from rfl,KI];split<;>rfl,by simp,by simp,?_⟩;refine cE hw (fun _ w' v w2=>∃d,v= .bool d∧(d=true↔q∈f.nodes.take i)) (fun O w' r=>xU (p:=q) (oS hS r) (mb.cI (hf.nodes.take (Nat.le_of_lt OF)) (kS hw r hS))) ?_;rintro O _ _ _ Oe r he hw h_ ⟨d3,rfl,hz3⟩
  cases d3
  ·have hz3:q∉f.nodes.take i:=fun h=>by have:=hz3.2 h;cases this
   rw[gU hx (sN.2 ⟨⟨OQ,OV,Ov⟩,hz3⟩)]at hE;refine⟨((i+1:Nat):Int),wo,?_⟩;intro ρ3 w6 r3;exact⟨(i+1,w6,_),⟨OF,hw.tr r3.cQ,hE⟩,Sub.gn [] r3,by dsimp only;omega⟩
  replace hz3:=hz3.1 rfl;exact rtn hw fun ρe we re=>by show Value.int .i64 _=_;rw[eO,aK (by omega),if_pos (by rw[hE,cR hx (show ei (f.nodes.take i) q=12 by rw[ei,if_pos ⟨OQ,OV,Ov⟩,if_pos hz3]) (by decide)];decide),hE,cR hx (show ei (f.nodes.take i) q=12 by rw[ei,if_pos ⟨OQ,OV,Ov⟩,if_pos hz3]) (by decide)]
 have OF:i=f.nodes.length:=aR hi (by simpa using OF);rw[ij (by omega)]at hE;refine vX (fun O wa wb r hM0 hg Oq=>?_);have Ow:=(hw.tr r.cQ).tr (eB.grown hg (fun x e=>by cases e) r.cF);have hB:w.heap.size<=wa.heap.size:=r.cF;have hM:xV wb (Cf w ((wa.heap.size,wa.heap.size+1)::iv)) wa.heap.size []:=⟨.inr ⟨hB,_,_,aG,aF _,bY _⟩,hM0⟩
 generalize (wa.heap.size,wa.heap.size+1)::iv=OK at*
 obtain⟨gm,hgm⟩:∃gm,wa.heap.size=gm:=⟨_,rfl⟩
 rw[hgm]at hM ⊢;have hw:=Ow
 refine⟨Nat×World×Iv,fun z=>⟨[(1,pP 0 0),(5,.o (.v (.map (some gm)))),(64,sV ab f.bars.length cb),(65,iZ f.bars.length),(66,iN z.1)],[(0,.box T.Frame [.v (.slice an f.nodes.length cn),.v (.slice ab f.bars.length cb),.v (.slice aq f.cU.length cq)])],1,z.2.2,z.2.1⟩,fun z=>f.bars.length-z.1,
  fun z=>z.1<=f.bars.length∧eB w.heap.size w z.2.1∧ed (fF f.nodes.length) [] f.bars=ed (fF f.nodes.length) (f.bars.take z.1) (f.bars.drop z.1)∧xV z.2.1 (Cf w z.2.2) gm ((f.bars.take z.1).map fun b=>nH (gO b)),?_,?_⟩
 ·intro O w' r3;exact⟨(0,w',OK),⟨aO _,hw.tr r3.cQ,rfl,hM.rel r3 (cC w)⟩,Sub.gn [] r3⟩
 rintro⟨i,w1,iv⟩ ⟨hi,hw,OY,hM⟩;dsimp only at hi hw OY hM ⊢;refine dN.mk ?_ ?_<;>intro OF
 ·have OF:i<f.bars.length:=by simpa using OF
  obtain⟨b,hx⟩:∃b,f.bars[i]? =some b:=⟨_,aB OF⟩
  obtain⟨adb,cs,Pg,hF,-,Oa⟩:=hf.bars.load (by decide) hx;obtain⟨g0,g1,g2,g3,g4,g5,g6,g7,rfl,hF⟩:=hF;refine⟨adb,Pg,by omega,[.int .i64 b.1,.int .i64 b.2.1,.bool g0,.slice g1 g2 g3,.bool g4,.slice g5 g6 g7],rfl,rdO Oa hw hS,?_⟩;refine cD (cE hw (fun _ w' v w2=>∃d,v= .bool d∧(d=true↔iz f.nodes.length b.1)) (fun O w' r=>GB _ w' _ _ _ _ _ _ _ _ _) ?_);rintro O Pq v1 Pa OM r he hw h_ ⟨d0,rfl,OQ⟩;replace hM:=hM.cG r (cC w) he (mC h_)
  cases d0
  ·have OQ:¬iz f.nodes.length b.1:=fun h=>by have:=OQ.2 h;cases this
   exact rtn hw fun ρe we re=>by show Value.int .i64 _=_;rw[eO,aK (by omega),aK (by rw[hE];decide),if_pos (by rw[OY,cR hx (show fF f.nodes.length (f.bars.take i) b=6 by rw[fF,aK (fun h=>OQ h.1)]) (by decide)];decide),OY,cR hx (show fF f.nodes.length (f.bars.take i) b=6 by rw[fF,aK (fun h=>OQ h.1)]) (by decide)]
  replace OQ:=OQ.1 rfl;refine cD (cE hw (fun _ w' v w2=>∃d,v= .bool d∧(d=true↔iz f.nodes.length b.2.1)) (fun O w' r=>GB _ w' _ _ _ _ _ _ _ _ _) ?_);rintro O Ph v2 PD OK r he hw h_ ⟨d1,rfl,OV⟩;replace hM:=hM.cG r (cC w) he (mC h_)
  cases d1
  ·have OV:¬iz f.nodes.length b.2.1:=fun h=>by have:=OV.2 h;cases this
   exact rtn hw fun ρe we re=>by show Value.int .i64 _=_;rw[eO,aK (by omega),aK (by rw[hE];decide),if_pos (by rw[OY,cR hx (show fF f.nodes.length (f.bars.take i) b=6 by rw[fF,aK (fun h=>OV h.2)]) (by decide)];decide),OY,cR hx (show fF f.nodes.length (f.bars.take i) b=6 by rw[fF,aK (fun h=>OV h.2)]) (by decide)]
  replace OV:=OV.1 rfl;refine dN.mk ?_ ?_<;>intro PJ
  ·have PJ:b.1=b.2.1:=by simpa using PJ
   exact rtn hw fun ρe we re=>by show Value.int .i64 _=_;rw[eO,aK (by omega),aK (by rw[hE];decide),if_pos (by rw[OY,cR hx (show fF f.nodes.length (f.bars.take i) b=3 by rw[fF,if_pos ⟨OQ,OV⟩,if_pos PJ]) (by decide)];decide),OY,cR hx (show fF f.nodes.length (f.bars.take i) b=3 by rw[fF,if_pos ⟨OQ,OV⟩,if_pos PJ]) (by decide)]
  have PJ:b.1≠b.2.1:=by simpa using PJ
  refine yF xj uB Bg rfl rfl (key:=nH (gO b)) (fun _=>rfl) ⟨_,rfl⟩ (fun k hk=>by obtain⟨x,_,rfl⟩:=aT.1 hk;exact⟨_,rfl⟩) (fun O w' r=>(hM.rel r (cC w)).2) (fun O w' d r hd=>?_);replace hw:=hw.tr r.cQ;replace hM:=hM.rel r (cC w);replace hd:d=true↔gO b∈(f.bars.take i).map gO:=by
   rw[hd];constructor
   ·intro h;obtain⟨x,h1,h2⟩:=aT.1 h;exact aT.2 ⟨x,h1,pt h2⟩
   ·intro h;obtain⟨x,h1,h2⟩:=aT.1 h;exact aT.2 ⟨x,h1,congrArg nH h2⟩
  cases d
  ·have QG:gO b∉(f.bars.take i).map gO:=fun h=>by have:=hd.2 h;cases this
   refine cD (cE hw (fun _ w' v w2=>v= .int .i64 (rs b.2.2)) (fun O w' r=>(Ft (oS hS r) (hF.v.cI (kS hw r hS)) (eR.zero (S:=S)).v).mono fun _ _ ⟨v2,e1,e2,e3⟩=>⟨v2,e1,e2,by rw[e3,pr]⟩) ?_);rintro O _ _ _ OS r he hw h_ rfl;replace hM:=hM.cG r (cC w) he (mC h_);obtain⟨cf,hcf⟩:∃c,rs b.2.2=c:=⟨_,rfl⟩
   rw[hcf];refine dN.mk ?_ ?_<;>intro PC
   ·have PC:b.2.2<=0:=by have:=aI PC;rw[<-Rat.not_lt,<-oH];omega
    exact rtn hw fun ρe we re=>by show Value.int .i64 _=_;rw[eO,aK (by omega),aK (by rw[hE];decide),if_pos (by rw[OY,cR hx (show fF f.nodes.length (f.bars.take i) b=2 by rw[fF,if_pos ⟨OQ,OV⟩,aK PJ,aK QG,if_pos PC]) (by decide)];decide),OY,cR hx (show fF f.nodes.length (f.bars.take i) b=2 by rw[fF,if_pos ⟨OQ,OV⟩,aK PJ,aK QG,if_pos PC]) (by decide)]
   ·have PC:0<b.2.2:=by have:=aH PC;rw[<-oH];omega
    refine qi xj uB rfl rfl (key:=nH (gO b)) (fun _=>rfl) rfl ⟨_,rfl⟩ (fun k hk=>by obtain⟨x,_,rfl⟩:=aT.1 hk;exact⟨_,rfl⟩) (fun h=>by
     obtain⟨x,h1,h2⟩:=aT.1 h
     exact QG (aT.2 ⟨x,h1,pt h2⟩)) (fun O w' r=>⟨(hM.rel r (cC w)).2,Rel.not r (cC w) hM.1⟩) (fun O wa wb r hM2 hg Oq=>?_)
    replace hw:=(hw.tr r.cQ).tr (eB.grown hg (fun x e=>by injection e with e;subst e;exact hM.1.elim (fun h=>h.elim) fun h=>h.1) r.cF);rw[show ((f.bars.take i).map fun b=>nH (gO b))++[nH (gO b)]=(f.bars.take (i+1)).map fun b=>nH (gO b) by rw[List.take_add_one,hx];simp]at hM2;replace hM:xV wb (Cf w OS) gm ((f.bars.take (i+1)).map fun b=>nH (gO b)):=⟨hM.1,hM2⟩
    rw[gU hx (mu.2 ⟨⟨OQ,OV⟩,PJ,QG,PC⟩)]at OY;refine⟨((i+1:Nat):Int),wo,?_⟩;intro ρ3 w6 r3;exact⟨(i+1,w6,_),⟨OF,hw.tr r3.cQ,OY,hM.rel r3 (cC w)⟩,Sub.gn [] r3,by dsimp only;omega⟩
  ·have hd:=hd.1 rfl;exact rtn hw fun ρe we re=>by show Value.int .i64 _=_;rw[eO,aK (by omega),aK (by rw[hE];decide),if_pos (by rw[OY,cR hx (show fF f.nodes.length (f.bars.take i) b=5 by rw[fF,if_pos ⟨OQ,OV⟩,aK PJ,if_pos hd]) (by decide)];decide),OY,cR hx (show fF f.nodes.length (f.bars.take i) b=5 by rw[fF,if_pos ⟨OQ,OV⟩,aK PJ,if_pos hd]) (by decide)]
 have OF:i=f.bars.length:=aR hi (by simpa using OF);rw[ij (by omega)]at OY;have Tu:=OY;refine vX (fun O wa wb r hM0 hg Oq=>?_);have Ow:=(hw.tr r.cQ).tr (eB.grown hg (fun x e=>by cases e) r.cF);have hB:w.heap.size<=wa.heap.size:=r.cF;have hM:xV wb (Cf w ((wa.heap.size,wa.heap.size+1)::iv)) wa.heap.size []:=⟨.inr ⟨hB,_,_,aG,aF _,bY _⟩,hM0⟩
 generalize (wa.heap.size,wa.heap.size+1)::iv=OK at*
 obtain⟨gm,hgm⟩:∃gm,wa.heap.size=gm:=⟨_,rfl⟩
 rw[hgm]at hM ⊢;have hw:=Ow
 refine⟨Nat×World×Iv,fun z=>⟨[(1,pP 0 0),(9,.o (.v (.map (some gm)))),(115,sV aq f.cU.length cq),(116,iZ f.cU.length),(117,iN z.1)],[(0,.box T.Frame [.v (.slice an f.nodes.length cn),.v (.slice ab f.bars.length cb),.v (.slice aq f.cU.length cq)])],1,z.2.2,z.2.1⟩,fun z=>f.cU.length-z.1,
  fun z=>z.1<=f.cU.length∧eB w.heap.size w z.2.1∧ed (kN f.nodes.length) [] f.cU=ed (kN f.nodes.length) (f.cU.take z.1) (f.cU.drop z.1)∧xV z.2.1 (Cf w z.2.2) gm ((f.cU.take z.1).map fun b=>nH (iW b)),?_,?_⟩
 ·intro O w' r3;exact⟨(0,w',OK),⟨aO _,hw.tr r3.cQ,rfl,hM.rel r3 (cC w)⟩,Sub.gn [] r3⟩
 rintro⟨i,w1,iv⟩ ⟨hi,hw,OY,hM⟩;dsimp only at hi hw OY hM ⊢;refine dN.mk ?_ ?_<;>intro OF
 ·have OF:i<f.cU.length:=by simpa using OF
  obtain⟨b,hx⟩:∃b,f.cU[i]? =some b:=⟨_,aB OF⟩
  obtain⟨adb,cs,Pg,hF,-,Oa⟩:=hf.cU.load (by decide) hx;obtain⟨g0,g1,g2,g3,g4,g5,g6,g7,rfl,hF⟩:=hF;refine⟨adb,Pg,by omega,[.int .i64 b.1,.int .i64 b.2.1,.bool g0,.slice g1 g2 g3,.bool g4,.slice g5 g6 g7],rfl,rdO Oa hw hS,?_⟩;refine cD (cE hw (fun _ w' v w2=>∃d,v= .bool d∧(d=true↔iz f.nodes.length b.1)) (fun O w' r=>GB _ w' _ _ _ _ _ _ _ _ _) ?_);rintro O _ _ _ OM r he hw h_ ⟨d0,rfl,OQ⟩;replace hM:=hM.cG r (cC w) he (mC h_)
  cases d0
  ·have OQ:¬iz f.nodes.length b.1:=fun h=>by have:=OQ.2 h;cases this
   exact rtn hw fun ρe we re=>by show Value.int .i64 _=_;rw[eO,aK (by omega),aK (by rw[hE];decide),aK (by rw[Tu];decide),OY,cR hx (show kN f.nodes.length (f.cU.take i) b=6 by rw[kN,aK OQ]) (by decide)]
  replace OQ:=OQ.1 rfl;refine dN.mk ?_ ?_<;>intro QK
  ·have QK:=aI QK;exact rtn hw fun ρe we re=>by show Value.int .i64 _=_;rw[eO,aK (by omega),aK (by rw[hE];decide),aK (by rw[Tu];decide),OY,cR hx (show kN f.nodes.length (f.cU.take i) b=2 by rw[kN,if_pos OQ,aK (fun h=>by omega)]) (by decide)]
  have QK:=aH QK;refine dN.mk ?_ ?_<;>intro QM
  ·have QM:=aI QM;exact rtn hw fun ρe we re=>by show Value.int .i64 _=_;rw[eO,aK (by omega),aK (by rw[hE];decide),aK (by rw[Tu];decide),OY,cR hx (show kN f.nodes.length (f.cU.take i) b=2 by rw[kN,if_pos OQ,aK (fun h=>by omega)]) (by decide)]
  have QM:=aH QM;have PI:0<=b.2.1∧b.2.1<=2:=by omega
  refine yF xj uB Bg rfl rfl (key:=nH (iW b)) (fun _=>rfl) ⟨_,rfl⟩ (fun k hk=>by obtain⟨x,_,rfl⟩:=aT.1 hk;exact⟨_,rfl⟩) (fun O w' r=>(hM.rel r (cC w)).2) (fun O w' d r hd=>?_);replace hw:=hw.tr r.cQ;replace hM:=hM.rel r (cC w);replace hd:d=true↔iW b∈(f.cU.take i).map iW:=by
   rw[hd];constructor
   ·intro h;obtain⟨x,h1,h2⟩:=aT.1 h;exact aT.2 ⟨x,h1,pt h2⟩
   ·intro h;obtain⟨x,h1,h2⟩:=aT.1 h;exact aT.2 ⟨x,h1,congrArg nH h2⟩
  cases d
  ·have QG:iW b∉(f.cU.take i).map iW:=fun h=>by have:=hd.2 h;cases this
   refine cD (cE hw (fun _ w' v w2=>v= .int .i64 (rs b.2.2)) (fun O w' r=>(Ft (oS hS r) (hF.v.cI (kS hw r hS)) (eR.zero (S:=S)).v).mono fun _ _ ⟨v2,e1,e2,e3⟩=>⟨v2,e1,e2,by rw[e3,pr]⟩) ?_);rintro O _ _ _ OK r he hw h_ rfl;replace hM:=hM.cG r (cC w) he (mC h_);obtain⟨cf,hcf⟩:∃c,rs b.2.2=c:=⟨_,rfl⟩
   rw[hcf];refine dN.mk ?_ ?_<;>intro PC
   ·have PC:b.2.2<0:=by have:=aI PC;rw[<-lS];omega
    exact rtn hw fun ρe we re=>by show Value.int .i64 _=_;rw[eO,aK (by omega),aK (by rw[hE];decide),aK (by rw[Tu];decide),OY,cR hx (show kN f.nodes.length (f.cU.take i) b=2 by rw[kN,if_pos OQ,if_pos PI,aK QG,if_pos PC]) (by decide)]
   ·have PC:0<=b.2.2:=by have:=aH PC;rw[<-Rat.not_lt,<-lS];omega
    refine qi xj uB rfl rfl (key:=nH (iW b)) (fun _=>rfl) rfl ⟨_,rfl⟩ (fun k hk=>by obtain⟨x,_,rfl⟩:=aT.1 hk;exact⟨_,rfl⟩) (fun h=>by
     obtain⟨x,h1,h2⟩:=aT.1 h
     exact QG (aT.2 ⟨x,h1,pt h2⟩)) (fun O w' r=>⟨(hM.rel r (cC w)).2,Rel.not r (cC w) hM.1⟩) (fun O wa wb r hM2 hg Oq=>?_)
    replace hw:=(hw.tr r.cQ).tr (eB.grown hg (fun x e=>by injection e with e;subst e;exact hM.1.elim (fun h=>h.elim) fun h=>h.1) r.cF);rw[show ((f.cU.take i).map fun b=>nH (iW b))++[nH (iW b)]=(f.cU.take (i+1)).map fun b=>nH (iW b) by rw[List.take_add_one,hx];simp]at hM2;replace hM:xV wb (Cf w OK) gm ((f.cU.take (i+1)).map fun b=>nH (iW b)):=⟨hM.1,hM2⟩
    rw[gU hx (qT.2 ⟨OQ,PI,QG,PC⟩)]at OY;refine⟨((i+1:Nat):Int),wo,?_⟩;intro ρ3 w6 r3;exact⟨(i+1,w6,_),⟨OF,hw.tr r3.cQ,OY,hM.rel r3 (cC w)⟩,Sub.gn [] r3,by dsimp only;omega⟩
  ·have hd:=hd.1 rfl;exact rtn hw fun ρe we re=>by show Value.int .i64 _=_;rw[eO,aK (by omega),aK (by rw[hE];decide),aK (by rw[Tu];decide),OY,cR hx (show kN f.nodes.length (f.cU.take i) b=5 by rw[kN,if_pos OQ,if_pos PI,if_pos hd]) (by decide)]
 have OF:i=f.cU.length:=aR hi (by simpa using OF);rw[ij (by omega)]at OY;exact rtn hw fun ρe we re=>by show Value.int .i64 _=_;rw[eO,aK (by omega),aK (by rw[hE];decide),aK (by rw[Tu];decide),OY]
theorem pw(hS:Old S w)(hf:du w S vn vb vs f)(hl:jB w S vl l):eD PG N.lI #[.agg #[vn,vb,vs],vl] w (eG w fun v' _=>v'= .int .i64 (j3 f l)):=by
 have hw:=bR w;obtain⟨an,cn,ab,cb,aq,cq,rfl,rfl,rfl,Qw,RX,SG⟩:=hf.shape;obtain⟨al,cl,rfl,Po,Qu⟩:=hl.shape;refine o7 (by simp) ?_;refine cD (cE hw (fun _ w' v w2=>v= .int .i64 (eO f)) (fun O w' r=>Ei (oS hS r) (hf.cI (kS hw r hS))) ?_);rintro O _ _ _ OM r he hw h_ rfl;obtain⟨c,hc⟩:∃c,eO f=c:=⟨_,rfl⟩
 rw[hc];refine dN.mk ?_ ?_<;>intro hd
 ·have hd:c≠0:=by simpa using hd
  exact rtn hw fun ρe we re=>by show Value.int .i64 _=_;rw[j3,if_pos (by rw[hc];exact hd),hc]
 have hd:c=0:=by simpa using hd
 refine cD (cE hw (fun _ w' v w2=>v= .int .i64 (uA f.nodes.length l)) (fun O w' r=>An (oS hS r) (hl.cI (kS hw r hS))) ?_);rintro O _ _ _ OK r he hw h_ rfl;exact rtn hw fun ρe we re=>by show Value.int .i64 _=_;rw[j3,aK (by rw[hc,hd];decide)]
structure Calm(f:fM)(h:Nat):Prop where
 ok:tx f
 c0:0<f.cols
 b2:Cr (cP f) f.cols h
 a2:Ht (dR (cP f) f.cols).1 h
 st:k7 (cP f) f.cols=[]
 hh:3*h<=90000
structure aAU(f:fM)(l:List Ld)(h:Nat)(x:List Rat):Prop where
 ok:tz f.nodes.length l
 b1:Cr (jl (cP f) (cZ (fJ f l) (-1))) (f.cols+1) h
 x:nZ (cP f) (cZ (fJ f l) (-1)) f.cols=some x
theorem mM(f:fM)(l:List Ld):(fJ f l).length=3*f.nodes.length:=by rw[fJ,cd,aJ,jx]
theorem je(a b:List Rat):(ew a b).length=a.length:=List.length_mapIdx ..
theorem Mz{r s:Nat}(h1:r*r<=n)(h2:n<(r+1)*(r+1))(h3:s*s<=n)(h4:n<(s+1)*(s+1)):r=s:=by
 rcases bs r s with h|h|h
 ·have:=Nat.mul_le_mul (show r+1<=s from h) (show r+1<=s from h);omega
 ·exact h
 ·have:=Nat.mul_le_mul (show s+1<=r from h) (show s+1<=r from h);omega
theorem Lq(n:Nat)(w:World)(hn:n<4000000004000000001):eD PG N.tU #[.int .i64 n] w (eG w fun v' _=>∃r:Nat,v'= .int .i64 r∧r*r<=n∧n<(r+1)*(r+1)):=by
 have hw:=bR w;refine xP (by simp) ?_
 refine⟨Nat×Int×World,fun z=>⟨[(0,iZ n),(3,iN z.1),(4,iZ z.2.1)],[],0,[],z.2.2⟩,fun z=>(z.2.1-z.1).toNat,
  fun z=>(z.1:Int)<=z.2.1∧z.2.1<=2000000000∧eB w.heap.size w z.2.2∧z.1*z.1<=n∧(n:Int)<(z.2.1+1)*(z.2.1+1),?_,?_⟩
 ·intro O w' r3;exact⟨(0,2000000000,w'),⟨by simp,by simp,hw.tr r3.cQ,by simp,by dsimp only;omega⟩,Sub.gn [] r3⟩
 rintro⟨lo,hi,w1⟩ ⟨hlh,Sd,hw,Rz,PT⟩;dsimp only at hlh Sd hw Rz PT ⊢;obtain⟨hi,rfl⟩:=Int.eq_ofNat_of_zero_le (show 0<=hi by omega);replace PT:n<(hi+1)*(hi+1):=by
  have h:((hi:Int)+1)*((hi:Int)+1)=(((hi+1)*(hi+1):Nat):Int):=by push_cast;rfl
  rw[h]at PT;omega
 refine dN.mk ?_ ?_<;>intro OF
 ·have OF:lo<hi:=by have:=aI OF;omega
  obtain⟨m,hm⟩:∃m,(lo+hi+1) / 2=m:=⟨_,rfl⟩
  have Rb:lo<m:=by omega
  have Ta:m<=hi:=by omega
  have R1:m*m<=2000000000*2000000000:=Nat.mul_le_mul (by omega) (by omega);refine⟨((lo+hi:Nat):Int),wo,((lo+hi+1:Nat):Int),wo,by decide,(m:Int),by rw[show ((lo+hi+1:Nat):Int).tdiv 2=(((lo+hi+1) / 2:Nat):Int)from rfl,hm,wrap64]<;>omega,((m*m:Nat):Int),by rw[wrap64]<;>push_cast<;>first|rfl|omega,?_⟩;refine dN.mk ?_ ?_<;>intro hd
  ·have hd:m*m<=n:=by have:=aI hd;omega
   intro ρ3 w6 r3;exact⟨(m,hi,w6),⟨by dsimp only;omega,Sd,hw.tr r3.cQ,hd,by dsimp only;rw[show ((hi:Int)+1)*((hi:Int)+1)=(((hi+1)*(hi+1):Nat):Int) by push_cast;rfl];omega⟩,Sub.gn [] r3,by dsimp only;omega⟩
  ·have hd:n<m*m:=by have:=aH hd;omega
   have hu3:(lo:Int)<=((m-1:Nat):Int):=by omega
   have hu4:((m-1:Nat):Int)<=2000000000:=by omega
   have RI:(n:Int)<(((m-1:Nat):Int)+1)*(((m-1:Nat):Int)+1):=by rw[show ((m-1:Nat):Int)+1=m by omega];exact_mod_cast hd
   refine⟨((m-1:Nat):Int),wo,?_⟩;intro ρ3 w6 r3;exact⟨(lo,((m-1:Nat):Int),w6),⟨hu3,hu4,hw.tr r3.cQ,Rz,RI⟩,Sub.gn [] r3,by dsimp only;omega⟩
 have OF:lo=hi:=by have:=aH OF;omega
 subst OF;exact rtn hw fun ρe we re=>⟨_,rfl,Rz,PT⟩
theorem Ls(n:Int)(w:World):eD PG N.kJ #[.int .i64 n] w (eG w fun v' _=>∃d,v'= .bool d∧(d=true↔0<=n∧n<=1000000)):=by
 have hw:=bR w;refine nC (by simp) ?_;refine dN.mk ?_ ?_<;>intro h1
 ·intro ρe we re;have h1:=aI h1;exact⟨_,rfl,hw.tr re.cQ,_,rfl,by rw[decide_eq_true_iff];exact⟨fun h=>⟨h1,h⟩,fun h=>h.2⟩⟩
 ·intro ρe we re;have h1:=aH h1;exact⟨_,rfl,hw.tr re.cQ,_,rfl,(fun h=>by cases h),fun h=>absurd h.1 h1⟩
theorem KJ(sq st:Nat)(w:World)(h0:0<sq)(h1:st<=1000000):eD PG N.qu #[.int .i64 sq,.int .i64 st] w (eG w fun v' w2=>∃r:Nat,r*r<=st*st*1000*1000 / sq∧st*st*1000*1000 / sq<(r+1)*(r+1)∧cS w2 (Nf w w2) v' (Rat.divInt r 1000)):=by
 have hw:=bR w;have h2:st*st<=1000000*1000000:=Nat.mul_le_mul h1 h1;have h4:st*st*1000*1000 / sq<=st*st*1000*1000:=Nat.div_le_self _ _;obtain⟨m,hm⟩:∃m,st*st*1000*1000 / sq=m:=⟨_,rfl⟩
 refine vB (by simp) ?_;refine⟨((st*st:Nat):Int),by rw[wrap64]<;>push_cast<;>first|rfl|omega,((st*st*1000:Nat):Int),wo,((st*st*1000*1000:Nat):Int),wo,by omega,(m:Int),by rw[show ((st*st*1000*1000:Nat):Int).tdiv (sq:Int)=((st*st*1000*1000 / sq:Nat):Int)from rfl,hm,wrap64]<;>omega,?_⟩;refine cD (cE hw (fun _ w' v w2=>∃r:Nat,v= .int .i64 r∧r*r<=m∧m<(r+1)*(r+1)) (fun O w' r=>Lq m w' (by omega)) ?_);rintro O _ _ _ OM r he hw h_ ⟨rt,rfl,Sf,SB⟩;have hrt:rt<=2000000000:=by
  rcases aP 2000000000 rt with h|h
  ·have:=Nat.mul_le_mul h h;omega
  ·exact h
 refine cD (cE hw (fun _ w' v w2=>∃r,v= .tuple #[r,.int .i64 0]∧cS w2 (Nf w' w2) r (Rat.divInt rt 1000)) (fun O w' r=>(GD rt 1000 w' (by omega) (by omega) (by decide) (by decide)).mono fun _ _ ⟨v2,e1,e2,e3⟩=>⟨v2,e1,e2,e3.elim (fun k=>absurd k.1 (by decide)) fun h=>h.2⟩) ?_);rintro O _ _ _ OK r he hw h_ ⟨q1,rfl,k1⟩;have hd:=k1.dE (S:=FF) r.cF (mN h_);obtain⟨s2_0a,s2_0b,s2_0c,s2_0d,s2_0e,s2_0f,s2_0g,s2_0h,rfl⟩:=hd.shape;exact rtn hw fun ρe we re=>⟨rt,hm▸Sf,hm▸SB,hd.out re (cC w)⟩
theorem GF(sq st:Nat)(w:World)(h0:0<sq)(h2:sq<=20000000000000)(h1:st<=1000000):eD PG N.qp #[.int .i64 sq,.int .i64 st] w (eG w fun v' w2=>∃vr,∃r:Nat,v'= .tuple #[vr,.int .i64 0]∧r*r<=st*st*1000*1000 / sq∧st*st*1000*1000 / sq<(r+1)*(r+1)∧cS w2 (Nf w w2) vr (Rat.divInt r 1000)):=by
 have hw:=bR w;refine ux (by simp) ?_;refine dN.mk (fun k1=>absurd (aI k1) (by omega)) (fun _=>?_);refine dN.mk (fun k1=>absurd (aI k1) (by omega)) (fun _=>?_);refine cD (cE hw (fun _ w' v w2=>v= .bool true) (fun O w' r=>(Ls st w').mono fun _ _ ⟨v2,e1,e2,d,e3,e4⟩=>⟨v2,e1,e2,by rw[e3,e4.2 ⟨by omega,by omega⟩]⟩) ?_);rintro O _ _ _ OM r he hw h_ rfl;refine cD (cE hw (fun _ w' v w2=>∃r:Nat,r*r<=st*st*1000*1000 / sq∧st*st*1000*1000 / sq<(r+1)*(r+1)∧cS w2 (Nf w' w2) v (Rat.divInt r 1000)) (fun O w' r=>KJ sq st w' h0 h1) ?_);rintro O _ _ _ OK r he hw h_ ⟨rt,Sf,SB,k1⟩;have hd:=k1.dE (S:=FF) r.cF (mN h_);obtain⟨s2_0a,s2_0b,s2_0c,s2_0d,s2_0e,s2_0f,s2_0g,s2_0h,rfl⟩:=hd.shape;exact rtn hw fun ρe we re=>⟨_,rt,rfl,Sf,SB,hd.out re (cC w)⟩
set_option maxRecDepth 100000
def Nl(m:Nat):List Value:=[.int .i64 ((m / 3:Nat):Int),.int .i64 ((m % 3:Nat):Int),.bool false,.slice none 0 0,.bool false,.slice none 0 0]
def rG(m:Nat):List (List Value):=(List.range m).map Nl
theorem GG{i k:Nat}(hk:k<3):(rG (3*i+k)).flatten++[.int .i64 (i:Int),.int .i64 (k:Int),.bool false,.slice none 0 0,.bool false,.slice none 0 0]=(rG (3*i+(k+1))).flatten:=by
 rw[rG,rG,<-Nat.add_assoc,bO,List.map_append,List.flatten_append];simp only[List.map_cons,List.map_nil,Nl,show(3*i+k) / 3=i by omega,show(3*i+k) % 3=k by omega]
 simp
theorem IK(m:Nat):(rG m).length=m:=by rw[rG,aJ,List.length_range]
theorem IL(m:Nat):∀cs∈rG m,cs.length=6:=fun cs hc=>by
 obtain⟨j,_,rfl⟩:=aT.1 hc;rfl
theorem eR.zeroV:eR w S (.agg #[.bool false,.slice none 0 0,.bool false,.slice none 0 0]) 0:=eR.zero
theorem vN(w:World):eD PG N.qq #[] w (eG w fun v' w2=>∃vn vb vs,v'= .agg #[vn,vb,vs]∧du w2 (Nf w w2) vn vb vs fY):=by
 have hw:=bR w;refine uy (by simp) ?_;refine cD (cE hw (fun _ w' v w2=>cS w2 (Nf w' w2) v ((1:Int):Rat)) (fun O w' r=>jI 1 w' (by decide)) ?_);rintro O _ _ _ OM r he hw h_ hn;have hd:=hn.dE (S:=FF) r.cF (mN h_);obtain⟨A0,A1,A2,A3,A4,A5,A6,A7,rfl⟩:=hd.shape;conv=>whnf
 refine⟨Nat×World,fun z=>⟨[(0,pP 0 0),(2,pP 4 0),(3,iN z.1)],[(5,.vec T.xf 6 (rG (3*z.1)).flatten),(4,.box T.Frame [.s 2 0 3 3,.s 3 0 2 2,.w 5 (3*z.1)]),(3,.box T.OC [.v (.int .i64 0),.v (.int .i64 2),.v (.bool A0),.v (.slice A1 A2 A3),.v (.bool A4),.v (.slice A5 A6 A7),.v (.int .i64 1),.v (.int .i64 2),.v (.bool A0),.v (.slice A1 A2 A3),.v (.bool A4),.v (.slice A5 A6 A7)]),(2,.box T.Node [.v (.int .i64 0),.v (.int .i64 0),.v (.int .i64 0),.v (.int .i64 0),.v (.int .i64 0),.v (.int .i64 4),.v (.int .i64 3),.v (.int .i64 0),.v (.int .i64 0)]),(0,.box T.Frame [.v (.slice none 0 0),.v (.slice none 0 0),.v (.slice none 0 0)])],6,OM,z.2⟩,fun z=>2-z.1,
  fun z=>z.1<=2∧eB w.heap.size w z.2∧cS z.2 (Cf w OM) (.agg #[.bool A0,.slice A1 A2 A3,.bool A4,.slice A5 A6 A7]) ((1:Int):Rat),?_,?_⟩
 ·intro O w' r;exact⟨(0,w'),⟨aO _,hw.tr r.cQ,hd.rel r (cC w)⟩,Sub.Ak 4 2 T.xf 6 rfl rfl (by simp[jN,SV.sc,At.sc,fW]) r fun ρ1 r1=>Sub.gn [] r1⟩
 rintro⟨i,w1⟩ ⟨hi,hw,hd⟩;dsimp only at hi hw hd ⊢;conv=>whnf
 refine dN.mk ?_ ?_<;>intro OF
 ·have OF:i<2:=by have:=aI OF;omega
  refine⟨Nat×World,fun z=>⟨[(0,pP 0 0),(2,pP 4 0),(3,iN i),(4,iN z.1)],[(5,.vec T.xf 6 (rG (3*i+z.1)).flatten),(4,.box T.Frame [.s 2 0 3 3,.s 3 0 2 2,.w 5 (3*i+z.1)]),(3,.box T.OC [.v (.int .i64 0),.v (.int .i64 2),.v (.bool A0),.v (.slice A1 A2 A3),.v (.bool A4),.v (.slice A5 A6 A7),.v (.int .i64 1),.v (.int .i64 2),.v (.bool A0),.v (.slice A1 A2 A3),.v (.bool A4),.v (.slice A5 A6 A7)]),(2,.box T.Node [.v (.int .i64 0),.v (.int .i64 0),.v (.int .i64 0),.v (.int .i64 0),.v (.int .i64 0),.v (.int .i64 4),.v (.int .i64 3),.v (.int .i64 0),.v (.int .i64 0)]),(0,.box T.Frame [.v (.slice none 0 0),.v (.slice none 0 0),.v (.slice none 0 0)])],6,OM,z.2⟩,fun z=>3-z.1,
   fun z=>z.1<=3∧eB w.heap.size w z.2∧cS z.2 (Cf w OM) (.agg #[.bool A0,.slice A1 A2 A3,.bool A4,.slice A5 A6 A7]) ((1:Int):Rat),?_,?_⟩
  ·intro O w' r3;exact⟨(0,w'),⟨aO _,hw.tr r3.cQ,hd.rel r3 (cC w)⟩,Sub.gn [] r3⟩
  rintro⟨k,w3⟩ ⟨hk,hw,hd⟩;dsimp only at hk hw hd ⊢;refine dN.mk ?_ ?_<;>intro OI
  ·have OI:k<3:=by have:=aI OI;omega
   have hs:=GG (i:=i) OI;have OX:=qV (IL (3*i+k));have Qd:=IK (3*i+k);refine .inl ?_;refine⟨by omega,by omega,by unfold maxLen;omega,((k+1:Nat):Int),wo,?_⟩;intro ρ3 w6 r3;exact⟨(k+1,w6),⟨OI,hw.tr r3.cQ,hd.rel r3 (cC w)⟩,Sub.gn [(5,7)] r3 ⟨by dsimp only;rw[<-hs];rfl,rfl,rfl,rfl,rfl,trivial⟩,by dsimp only;omega⟩
  have OI:k=3:=by have:=aH OI;omega
  subst OI;refine⟨((i+1:Nat):Int),wo,?_⟩;intro ρ3 w6 r3;exact⟨(i+1,w6),⟨OF,hw.tr r3.cQ,hd.rel r3 (cC w)⟩,Sub.gn [] r3,by dsimp only;omega⟩
 have OF:i=2:=by have:=aH OF;omega
 subst OF;refine .inl ?_;refine⟨by decide,by decide,by decide,?_⟩;intro ρe we re;have hN:∀{id:Nat} {bk:ji},dB _ id=some bk->(ρe id).nil=false->Nf w we (ρe id).g:=fun h hn=>by
  obtain⟨h1,h2⟩:=re.low _ _ h hn;exact .inr ⟨h1,h2⟩
 have hR:=hd.out re (cC w);have hL:eR we (Nf w we) (.agg #[.bool A0,.slice A1 A2 A3,.bool A4,.slice A5 A6 A7]) 1:=hR.l (by decide);refine⟨_,rfl,hw.tr re.cQ,_,_,_,rfl,?_,?_,?_⟩
 ·refine⟨[[.int .i64 0,.int .i64 0,.int .i64 0],[.int .i64 0,.int .i64 0,.int .i64 4],[.int .i64 3,.int .i64 0,.int .i64 0]],(re.pz (id:=2) (sz:=3) (n:=3) rfl rfl (by decide) (by repeat' first|refine List.forall_mem_cons.2 ⟨rfl,?_⟩|exact fun u hu=>absurd hu List.not_mem_nil)).cJ fun g hg=>by subst hg;exact hN (id:=2) rfl (re.nn 2 _ rfl (by intros;simp) (by simp)),rfl,by simp,fun j cs x h1 h2=>?_⟩;rcases j with _|_|_|j
  ·cases h1;cases h2;rfl
  ·cases h1;cases h2;rfl
  ·cases h1;cases h2;rfl
  ·cases h2
 ·refine⟨[[.int .i64 0,.int .i64 2,.bool A0,.slice A1 A2 A3,.bool A4,.slice A5 A6 A7],[.int .i64 1,.int .i64 2,.bool A0,.slice A1 A2 A3,.bool A4,.slice A5 A6 A7]],(re.pz (id:=3) (sz:=6) (n:=2) rfl rfl (by decide) (by repeat' first|refine List.forall_mem_cons.2 ⟨rfl,?_⟩|exact fun u hu=>absurd hu List.not_mem_nil)).cJ fun g hg=>by subst hg;exact hN (id:=3) rfl (re.nn 3 _ rfl (by intros;simp) (by simp)),rfl,by simp,fun j cs x h1 h2=>?_⟩;rcases j with _|_|j
  ·cases h1;cases h2;exact⟨_,_,_,_,_,_,_,_,rfl,hL⟩
  ·cases h1;cases h2;exact⟨_,_,_,_,_,_,_,_,rfl,hL⟩
  ·cases h2
 ·refine⟨rG 6++[[.int .i64 2,.int .i64 1,.bool false,.slice none 0 0,.bool false,.slice none 0 0]],?_,rfl,by decide,fun j cs x h1 h2=>?_⟩
  ·have h5:=re.ie (id:=7) (sz:=6) (m:=7) rfl (by decide) (by decide) (by decide) (by decide);rw[List.flatten_append];exact h5.cJ fun g hg=>.inr hg
  ·rcases j with _|_|_|_|_|_|_|j
   ·cases h1;cases h2;exact⟨_,_,_,_,_,_,_,_,rfl,eR.zeroV⟩
   ·cases h1;cases h2;exact⟨_,_,_,_,_,_,_,_,rfl,eR.zeroV⟩
   ·cases h1;cases h2;exact⟨_,_,_,_,_,_,_,_,rfl,eR.zeroV⟩
   ·cases h1;cases h2;exact⟨_,_,_,_,_,_,_,_,rfl,eR.zeroV⟩
   ·cases h1;cases h2;exact⟨_,_,_,_,_,_,_,_,rfl,eR.zeroV⟩
   ·cases h1;cases h2;exact⟨_,_,_,_,_,_,_,_,rfl,eR.zeroV⟩
   ·cases h1;cases h2;exact⟨_,_,_,_,_,_,_,_,rfl,eR.zeroV⟩
   ·cases h2
structure dW(w:World)(S:Nat->Prop)(css:List (List Value))(qs:List Rat):Prop where
 len:css.length=qs.length
 four:∀cs∈css,cs.length=4
 at_:∀(j:Nat) cs q,css[j]? =some cs->qs[j]? =some q->iM w S cs q
section
variable{S S':Nat->Prop}{H:Hp}{nx:Nat}{iv iv':Iv}{B:Nat}{w w' w2:World}{O:Nat->Sx.dg}{css:List (List Value)}{qs:List Rat}
theorem dW.nil:dW w S [] []:=⟨rfl,fun _ h=>(by cases h),fun _ _ _ h=>by cases h⟩
theorem dW.cI(h:dW w S css qs)(hk:∀g,S g->w2.heap[g]? =w.heap[g]?):dW w2 S css qs:=⟨h.len,h.four,fun j cs q h1 h2=>by
 obtain⟨b,a,n,c,b2,a2,n2,c2,e,hr⟩:=h.at_ j cs q h1 h2
 exact⟨b,a,n,c,b2,a2,n2,c2,e,hr.cI hk⟩⟩
theorem dW.cJ(h:dW w S css qs)(hk:∀g,S g->S' g):dW w S' css qs:=⟨h.len,h.four,fun j cs q h1 h2=>by
 obtain⟨b,a,n,c,b2,a2,n2,c2,e,hr⟩:=h.at_ j cs q h1 h2
 exact⟨b,a,n,c,b2,a2,n2,c2,e,hr.cJ hk⟩⟩
theorem dW.rel(h:dW w (Cv S B iv) css qs)(r:Rel H nx iv B w O w')(hS:∀g,S g->g<B):dW w' (Cv S B iv) css qs:=h.cI fun _ hg=>Rel.same r hS hg
theorem dW.cG(h:dW w (Cv S B iv) css qs)(r:Rel H nx iv B w O w')(hS:∀g,S g->g<B)(he:Ext w' w2)(hm:∀p,p∈iv->p∈iv'):dW w2 (Cv S B iv') css qs:=
 ((h.rel r hS).cI fun g hg=>he.block g (Rel.old r hS g hg)).cJ fun _ hg=>hg.mono hm
theorem dW.push(h:dW w S css qs)(hc:iM w S cs q)(h4:cs.length=4):dW w S (css++[cs]) (qs++[q]):=by
 refine⟨by simp[h.len],fun x hx=>?_,fun j x p h1 h2=>?_⟩
 ·rcases bG.1 hx with hx|hx
  ·exact h.four x hx
  ·rw[aw.1 hx];exact h4
 ·rcases aP j css.length with hi|hi
  ·rw[aL hi]at h1;rw[aL (by rw[<-h.len];exact hi)]at h2;exact h.at_ j x p h1 h2
  ·have RV:j=css.length:=by have:=(aD.1 h1).1;simp at this;omega
   subst RV;rw[aM (aF _),bK]at h1;rw[h.len,aM (aF _),bK]at h2;simp at h1 h2;subst h1 h2;exact hc
theorem dW.one(h:dW w S css qs):∀u∈css.flatten,u.oneCell'=true:=fun u hu=>by
 obtain⟨cs,hc,hu⟩:=List.mem_flatten.1 hu;obtain⟨j,hj⟩:=aU hc;obtain⟨_,_,_,_,_,_,_,_,rfl,_⟩:=h.at_ j cs _ hj (aB (by rw[<-h.len];exact(aD.1 hj).1));simp at hu;rcases hu with rfl|rfl|rfl|rfl<;>rfl
theorem dW.jw(h:dW w (Cv FF B iv) css qs)(r:Rel H nx iv B w O w')(Oj:dB H id=some (.vec T.Rat 4 css.flatten))(h0:0<css.length)(hm:css.length<=maxLen):
  da w' FF B [(B,w'.heap.size)] ((SV.o (.w id css.length)).den O) css.length qs:=by
 have h2:=h.rel r (gH B);obtain⟨k1,k2,k3,k4⟩:=Lk r Oj rfl h0 hm ⟨h2.len,h2.at_⟩;have Q8:(SV.o (.w id css.length)).den O= .slice (some ⟨(O id).g,0,none⟩) css.length (O id).cap:=by simp[SV.den,At.den,k1]
 rw[Q8];have key:∀g,Cv FF B iv g->Cv FF B [(B,w'.heap.size)] g:=fun g hg=>
  .inr ⟨hg.elim (fun h=>h.elim) fun h=>h.1,B,w'.heap.size,aw.2 rfl,hg.elim (fun h=>h.elim) fun h=>h.1,Rel.old r (gH B) g hg⟩
 refine⟨k4.cJ fun g hg=>⟨key g hg,fun e=>?_⟩,fun g hg=>?_⟩
 ·injection e with e;exact Rel.not r (gH B) hg id _ Oj k1 e
 ·injection hg with hg;subst hg;have:=(r.low id _ Oj k1).2;exact .inr ⟨k2,B,w'.heap.size,aw.2 rfl,k2,this⟩
theorem dW.list(h:dW w S css qs)(hs:iB w S 4 v css.flatten css.length):cL w S v qs:=⟨css,h.len▸hs,h.len,h.four,h.at_⟩
end
theorem Ej{l:List Int}(hS:Old S w)(hl:Cu w S v l)(S4:0<l.length)(Pn:l.length<=1000)(hb:∀z∈l,z.natAbs<1073741824):
  eD PG N.tL #[v] w (eG w fun v' w2=>da w2 FF w.heap.size [(w.heap.size,w2.heap.size)] v' l.length (cd l)):=by
 have hw:=bR w;obtain⟨al,cl,rfl,Po,Qu⟩:=hl.shape;unfold maxLen at Qu;refine xE (by simp) ?_
 refine⟨Nat×List (List Value)×World×Iv,fun z=>⟨[(0,sV al l.length cl),(3,.o (.w 0 z.2.1.length)),(4,iN z.1)],[(0,.vec T.Rat 4 z.2.1.flatten)],1,z.2.2.2,z.2.2.1⟩,fun z=>l.length-z.1,
  fun z=>z.1<=l.length∧eB w.heap.size w z.2.2.1∧dW z.2.2.1 (Cf w z.2.2.2) z.2.1 (cd (l.take z.1)),?_,?_⟩
 ·intro O w' r;exact⟨(0,[],w',[]),⟨aO _,hw.tr r.cQ,dW.nil⟩,Sub.nil 3 T.Rat 4 rfl (by simp[jN,SV.sc,At.sc,fW]) r fun ρ1 r1=>Sub.gn [] r1⟩
 rintro⟨i,css,w1,iv⟩ ⟨hi,hw,hG⟩;dsimp only at hi hw hG ⊢;have OX:=eH hG.four;have RM:css.length=i:=by rw[hG.len,cd,aJ,aV];omega
 refine dN.mk ?_ ?_<;>intro OF
 ·have OF:i<l.length:=by simpa using OF
  obtain⟨z,hz⟩:∃z,l[i]? =some z:=⟨_,aB OF⟩
  have Rq:=hb z (aC hz);have QS:cd (l.take (i+1))=cd (l.take i)++[(z:Rat)]:=by rw[cd,List.take_add_one,hz,List.map_append];rfl
  obtain⟨adx,PI,VL,Of⟩:=Cu.at hl hz;refine⟨adx,PI,by omega,.int .i64 z,rd1 Of hw (hS _ VL),?_⟩;refine cD (cE hw (fun _ w' v w2=>cS w2 (Nf w' w2) v (z:Rat)) (fun O w' r=>jI z w' (by omega)) ?_);rintro O _ _ _ OM r he hw h_ hn;replace hG:=hG.cG r (cC w) he (mC h_);have hd:=hn.dE (S:=FF) r.cF (mN h_);obtain⟨A0,A1,A2,A3,A4,A5,A6,A7,rfl⟩:=hd.shape;have Qt:=hG.push (cs:=[.bool A0,.slice A1 A2 A3,.bool A4,.slice A5 A6 A7]) (q:=(z:Rat)) ⟨_,_,_,_,_,_,_,_,rfl,hd⟩ rfl;rw[<-QS]at Qt;have Pm:css.flatten++([.bool A0,.slice A1 A2 A3,.bool A4,.slice A5 A6 A7]:List Value)=(css++([[.bool A0,.slice A1 A2 A3,.bool A4,.slice A5 A6 A7]]:List (List Value))).flatten:=by simp
  refine .inl ?_;refine⟨by omega,by omega,by unfold maxLen;omega,((i+1:Nat):Int),wo,?_⟩;intro ρ3 w3 r3;exact⟨(i+1,css++[[.bool A0,.slice A1 A2 A3,.bool A4,.slice A5 A6 A7]],w3,_),⟨OF,hw.tr r3.cQ,Qt.rel r3 (cC w)⟩,Sub.gn [(0,2)] r3 ⟨by dsimp only;rw[<-Pm];rfl,trivial⟩ ⟨rfl,by dsimp only;rw[List.length_append,List.length_singleton];rfl,rfl,trivial⟩,by dsimp only;omega⟩
 have OF:i=l.length:=aR hi (by simpa using OF);subst OF;rw[bF]at hG;intro ρe we re;refine⟨_,rfl,hw.tr re.cQ,?_⟩;have h5:=hG.jw re (id:=0) rfl (by omega) (by unfold maxLen;omega);have h6:css.length=l.length:=RM;rw[<-h6];exact h5
theorem du.dE{w' w2:World}(h:du w2 (Nf w' w2) vn vb vs f)(hB:B<=w'.heap.size)(hm:(w'.heap.size,w2.heap.size)∈iv):du w2 (Cv FF B iv) vn vb vs f:=h.cJ fun _ hg=>hg.dE hB hm
abbrev GH(a b c:Int):Value:=.agg #[.int .i64 a,.int .i64 b,.int .i64 c]
theorem NB(p0 p1 p2 q0 q1 q2:Int)(w:World):(Op.equal T.zE (GH p0 p1 p2) (GH q0 q1 q2)).run PG w= .ok (decide (p0=q0∧p1=q1∧p2=q2)) w:=by
 have h:=run_underlying Tryz.underlying68;simp only[Op.equal,Op.maxDepth]
 unfold Op.equalIn;have a0:=fK (cs:= #[Value.int .i64 p0,Value.int .i64 p1,Value.int .i64 p2]) (j:=0) rfl;have a1:=fK (cs:= #[Value.int .i64 p0,Value.int .i64 p1,Value.int .i64 p2]) (j:=1) rfl;have a2:=fK (cs:= #[Value.int .i64 p0,Value.int .i64 p1,Value.int .i64 p2]) (j:=2) rfl;have b0:=fK (cs:= #[Value.int .i64 q0,Value.int .i64 q1,Value.int .i64 q2]) (j:=0) rfl;have b1:=fK (cs:= #[Value.int .i64 q0,Value.int .i64 q1,Value.int .i64 q2]) (j:=1) rfl;have b2:=fK (cs:= #[Value.int .i64 q0,Value.int .i64 q1,Value.int .i64 q2]) (j:=2) rfl;simp[h,a0,a1,a2,b0,b1,b2,eq_int 9998];by_cases h0:p0=q0
 ·by_cases h1:p1=q1
  ·by_cases h2:p2=q2<;>simp[h0,h1,h2]
  ·simp[h0,h1]
 ·simp[h0]
theorem Lt(p0 p1 p2 q0 q1 q2:Int)(w:World)(o1 o2:Operand):(do eqGuard .eql T.zE o1 o2 (GH p0 p1 p2) (GH q0 q1 q2);binOp .eql T.zE (GH p0 p1 p2) (GH q0 q1 q2)).run PG w= .ok (.bool (decide (p0=q0∧p1=q1∧p2=q2))) w:=by
 have h:=NB p0 p1 p2 q0 q1 q2 w;simp[eqGuard,binOp,h]
theorem MT{H:Hp}{nx:Nat}{w':World}(r:Rel H nx iv B w O w'){l:List Int}(h:dB H id=some (.box T.int (l.map fun z=>At.v (.int .i64 z))))(hn:l.length=n)(hm:n<=maxLen):
  Cu w' (fun g=>g=(O id).g) (.slice (some ⟨(O id).g,0,none⟩) n n) l:=by
 subst hn;have h5:=r.pz (sz:=1) (n:=l.length) h (by simp) hm (fun u hu=>by obtain⟨z,_,rfl⟩:=aT.1 hu;rfl);rw[List.map_map]at h5;exact h5
end Go.Ex
