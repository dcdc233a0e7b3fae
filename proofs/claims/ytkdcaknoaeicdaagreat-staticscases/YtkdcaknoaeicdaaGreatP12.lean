/- Texts X139 to X151: lemmas, each with its conditions. -/
import Derived.Test.YtkdcaknoaeicdaaGreatP11
namespace Go.Ex
open Go Go.Sx Go.Proofs
theorem MA{α:Type}{rv:List α}{a b:α}{i m:Nat}(hl:rv.length=i)(h:i<m):(rv++List.replicate (m-i) b).take i++[a]++(rv++List.replicate (m-i) b).drop (i+1)=(rv++[a])++List.replicate (m-(i+1)) b:=by
 rw[List.take_left' hl,List.drop_append,hl,List.drop_of_length_le (by omega),List.nil_append,List.drop_replicate];congr 2;omega
end Go.Ex
namespace Go.Sx
open Go Go.Ex Go.Proofs
variable{cs:List Value}{O:Nat->Sx.di}
theorem Rel.Iy{H:Hp}{nx:Nat}{iv:Iv}{B:Nat}{w w':World}(r:Rel H nx iv B w O w'){id t m sz:Nat}(h:dE H id=some (.arr t cs))(hm:cs.length=m*sz)(SK:m<=maxLen)(h1:∀u∈cs,u.oneCell'=true):
  gO w' (fun g=>B<=g∧g<w'.heap.size) sz (.slice (some ⟨(O id).g,0,none⟩) m m) cs m:=by
 have hl:=r.low id _ h (r.fits h).1;refine⟨SK,hm,h1,_,m,rfl,aF _,fun j u hu=>⟨_,rfl,hl,?_⟩⟩;rw[dZ,cell_of (r.arr id _ _ h),aS];exact hu
end Go.Sx
namespace Go.Ex
open Go Go.Sx Go.Proofs
variable{d:Int}{b s:Int×Int×Rat}{M:List (List Int)}{l:List Int}{c r:Nat}{S:Nat->Prop}{f:ew}
theorem DJ:(uL M r c d).length=M.length:=ah ..
theorem KA:(putAt M r c d).length=M.length:=ah ..
def GM(M:List (List Int))(t:Int):Prop:=∀l∈M,∀z∈l,-t<=z∧z<=t
theorem GM.set{t t2:Int}{z:Int}(h:GM M t)(ht:t<=t2)(hl:M[r]? =some l)(hz: -t2<=z∧z<=t2):GM (M.set r (l.set c z)) t2:=fun x hx y hy=>by
 rcases bF hx with hx|rfl
 ·have:=h x hx y hy;omega
 ·rcases bF hy with hy|rfl
  ·have:=h l (aC hl) y hy;omega
  ·exact hz
theorem GN(f:ew):∀i,(dh f i).length=3*f.nodes.length
 |0=>bE ..
 |i+1=>by
  have h:=GN f i;have key:∀k,(eV f (dh f i) i k).length=3*f.nodes.length:=fun k=>by
   induction k with
   |zero=>exact h
   |succ k ih=>rw[eV,DJ,DJ];exact ih
  exact key 3
theorem oI(f:ew):∀i,(fG f i).length=3*f.nodes.length
 |0=>GN f _
 |i+1=>by rw[fG,KA];exact oI f i
theorem MB{i k ka kb:Nat}{za zb:Int}{la lb:List Int}(hb:f.bars[i]? =some b)(ea:b.1=ka)(eb:b.2.1=kb)(hd:(tF f b).getD k 0=d)
  (QC:(eV f M i k)[3*ka+k]? =some la) (Vp:la[i]? =some za) (Oq:((eV f M i k).set (3*ka+k) (la.set i (za+d)))[3*kb+k]? =some lb) (Sh:lb[i]? =some zb):
  ((eV f M i k).set (3*ka+k) (la.set i (za+d))).set (3*kb+k) (lb.set i (zb-d))=eV f M i (k+1):=by
 have h1:f.bars.getD i (0,0,0)=b:=by rw[List.getD,hb];rfl
 have e1:(3*b.1+(k:Int)).toNat=3*ka+k:=by rw[ea];omega
 have e2:(3*b.2.1+(k:Int)).toNat=3*kb+k:=by rw[eb];omega
 have ha:uL (eV f M i k) (3*ka+k) i d=(eV f M i k).set (3*ka+k) (la.set i (za+d)):=by
  rw[uL,show(eV f M i k).getD (3*ka+k) []=la by rw[List.getD,QC];rfl,show la.getD i 0=za by rw[List.getD,Vp];rfl]
 rw[eV];simp only[h1,hd,e1,e2,ha]
 rw[uL,show((eV f M i k).set (3*ka+k) (la.set i (za+d))).getD (3*kb+k) []=lb by rw[List.getD,Oq];rfl,show lb.getD i 0=zb by rw[List.getD,Sh];rfl,Int.sub_eq_add_neg]
theorem GO{i ks:Nat}(hs:f.cV[i]? =some s)(es:3*s.1+s.2.1=ks)(hl:(fG f i)[ks]? =some l):(fG f i).set ks (l.set (f.bars.length+i) 1)=fG f (i+1):=by
 rw[fG,putAt];simp only[show f.cV.getD i (0,0,0)=s by rw[List.getD,hs];rfl,es,aE,show(fG f i).getD ks []=l by rw[List.getD,hl];rfl]
set_option maxHeartbeats 2000000 in
theorem KB{w:World}{vn vb vs:Value}(hS:Old S w)(hf:dT w S vn vb vs f)(OM:vM f):
  eD PG N.qX #[.agg #[vn,vb,vs]] w (eG w fun v' w2=>ta w2 (Nf w w2) v' (iD f)∧GM (iD f) 800000000∧(∀l∈iD f,l.length=f.cols)∧(iD f).length=3*f.nodes.length):=by
 have hw:=bR w;obtain⟨an,cn,ab,cb,aq,cq,rfl,rfl,rfl,Qj,RJ,R6⟩:=hf.shape;obtain⟨Ux,UC,UD⟩:=And.intro OM.n (And.intro OM.b OM.s);refine vD (by simp) ?_;refine⟨((3*f.nodes.length:Nat):Int),wo,?_⟩;obtain⟨m,hm⟩:∃m,3*f.nodes.length=m:=⟨_,rfl⟩
 rw[hm]
 refine⟨m,m,rfl,rfl,aF _,by omega,by omega,Nat×List Value×World×Iv,fun z=>⟨[(1,pP 0 0),(3,.o (.s 1 0 m m)),(17,iZ m),(18,iN z.1)],[(1,.arr T.Lint (z.2.1++List.replicate (m-z.1) (.slice none 0 0))),(0,.box T.Frame [.v (.slice an f.nodes.length cn),.v (.slice ab f.bars.length cb),.v (.slice aq f.cV.length cq)])],2,z.2.2.2,z.2.2.1⟩,fun z=>m-z.1,
  fun z=>z.1<=m∧z.2.1.length=z.1∧dm w.heap.size w z.2.2.1∧iE z.2.2.1 w.heap.size z.2.2.2 z.2.1 f.cols (List.replicate z.1 (List.replicate f.cols 0)),?_,?_⟩
 ·intro O w' r3;exact⟨(0,[],w',[]),⟨aO _,rfl,hw.tr r3.cQ,iE.nil⟩,Sub.gn [] r3⟩
 rintro⟨i,rv,w1,iv⟩ ⟨hi,Ou,hw,hE⟩;dsimp only at hi Ou hw hE ⊢;refine dI.mk ?_ ?_<;>intro OI
 ·have OI:i<m:=by simpa using OI
  refine⟨((f.cols:Nat):Int),by rw[wrap64]<;>first|rfl|omega,f.cols,f.cols,rfl,rfl,aF _,by unfold ew.cols;omega,by unfold ew.cols;omega,by omega,?_⟩;refine JT hτ (id:=1) (id2:=2) (tH:=[(1,.arr T.Lint (rv++List.replicate (m-i) (.slice none 0 0))),(0,.box T.Frame [.v (.slice an f.nodes.length cn),.v (.slice ab f.bars.length cb),.v (.slice aq f.cV.length cq)])]) rfl rfl (by decide) rfl ⟨rfl,rfl,trivial⟩ rfl (fun O w' r=>?_);have hn:=(r.fits (id:=2) rfl).1;have OK:w'.ownsRow 0 T.int 1 (.slice (some ⟨(O 2).g,0,none⟩) f.cols f.cols) f.cols ((List.replicate f.cols (0:Int)).map fun z=>.int .i64 z):=
   ⟨by simp,.inr ⟨(O 2).g,f.cols,(List.replicate f.cols (Value.int .i64 0)).toArray,rfl,aO _,r.arr 2 _ _ rfl,aF _,by unfold ew.cols maxLen;omega,by simp,by simp⟩⟩
  have Oh:=(hE.rel r).push (gx:=(O 2).g) (l:=List.replicate f.cols 0) (fun g hg e=>Rel.not r (gg _) hg 2 _ rfl hn e.symm) (r.low 2 _ rfl hn).1 (by simp) OK;rw[<-List.replicate_succ']at Oh;have PN:=hw.tr r.cQ;generalize (O 2).g=gx at*
  generalize (gx,gx+1)::iv=ON at*
  refine⟨by simp[Ou];omega,(rv++[.slice (some ⟨gx,0,none⟩) f.cols f.cols])++List.replicate (m-(i+1)) (.slice none 0 0),?_,?_⟩
  ·rw[aE,aU,aS];exact MA Ou OI
  refine⟨((i+1:Nat):Int),wo,?_⟩;intro ρ3 w3 r3;exact⟨(i+1,rv++[.slice (some ⟨gx,0,none⟩) f.cols f.cols],w3,_),⟨OI,by simp[Ou],PN.tr r3.cQ,Oh.rel r3⟩,Sub.gn [] r3,by dsimp only;omega⟩
 have OI:i=m:=aP hi (by simpa using OI);subst OI;have Wn:iE w1 w.heap.size iv rv f.cols (dh f 0):=by rw[dh,hm];exact hE
 have WJ:GM (dh f 0) 0:=fun l hl z hz=>by
  rw[dh]at hl;rw[bH hl]at hz;rw[bH hz];exact⟨Int.le_refl _,Int.le_refl _⟩
 refine⟨Nat×World×Iv,fun z=>⟨[(1,pP 0 0),(3,.o (.s 1 0 i i)),(34,sV ab f.bars.length cb),(35,iZ f.bars.length),(36,iN z.1)],[(1,.arr T.Lint rv),(0,.box T.Frame [.v (.slice an f.nodes.length cn),.v (.slice ab f.bars.length cb),.v (.slice aq f.cV.length cq)])],2,z.2.2,z.2.1⟩,fun z=>f.bars.length-z.1,
  fun z=>z.1<=f.bars.length∧dm w.heap.size w z.2.1∧iE z.2.1 w.heap.size z.2.2 rv f.cols (dh f z.1)∧GM (dh f z.1) (12000000*z.1),?_,?_⟩
 ·intro O w' r3;exact⟨(0,w',_),⟨aO _,hw.tr r3.cQ,Wn.rel r3,WJ⟩,Sub.gn [] r3 ⟨by simp;rfl,rfl,trivial⟩⟩
 rintro⟨j,w2,iv⟩ ⟨hj,hw,hE,Ok⟩;dsimp only at hj hw hE Ok ⊢;refine dI.mk ?_ ?_<;>intro PO
 ·have PO:j<f.bars.length:=by simpa using PO
  obtain⟨b,hb⟩:∃b,f.bars[j]? =some b:=⟨_,aB PO⟩
  obtain⟨hA,hB⟩:=OM.NH b (aC hb);obtain⟨ka,pa,ea,hka,-,WH,⟨_,_⟩,⟨_,_⟩,⟨_,_⟩⟩:=OM.node hA.1 hA.2;obtain⟨kb,pb,eb,OL,-,WI,⟨_,_⟩,⟨_,_⟩,⟨_,_⟩⟩:=OM.node hB.1 hB.2;obtain⟨adb,cs,Py,hF,-,Oq⟩:=hf.bars.load (by decide) hb;obtain⟨g0,g1,g2,g3,g4,g5,g6,g7,rfl,hF⟩:=hF;refine⟨adb,Py,by omega,[.int .i64 b.1,.int .i64 b.2.1,.bool g0,.slice g1 g2 g3,.bool g4,.slice g5 g6 g7],rfl,rdO Oq hw hS,?_⟩;refine cD (cO (Φ:=fun _ w' v w2=>v= .agg #[.int .i64 ((f.node b.2.1).1-(f.node b.1).1),.int .i64 ((f.node b.2.1).2.1-(f.node b.1).2.1),.int .i64 ((f.node b.2.1).2.2-(f.node b.1).2.2)]) (fun O w' r=>CH (S:=S) (oS hS r) (hf.cI (kS hw r hS)).nodes OM hA hB) ?_);rintro O QA v1 Pg r he PL rfl;replace hw:=hw.tr PL;replace hE:=hE.cG (iv':=(QA.heap.size,Pg.heap.size)::iv) r he fun x hx=>List.mem_cons_of_mem _ hx;generalize (QA.heap.size,Pg.heap.size)::iv=OP at*
  rw[WH,WI];have hbD:tF f b=[pb.1-pa.1,pb.2.1-pa.2.1,pb.2.2-pa.2.2]:=by rw[tF,WH,WI]
  refine⟨Nat×World×Iv,fun z=>⟨[(1,pP 0 0),(3,.o (.s 1 0 i i)),(5,iN j),(6,pP 2 0),(43,.o (.v (.agg #[.int .i64 (pb.1-pa.1),.int .i64 (pb.2.1-pa.2.1),.int .i64 (pb.2.2-pa.2.2)]))),(34,sV ab f.bars.length cb),(35,iZ f.bars.length),(36,iN j),(44,iN z.1)],[(2,.box T.Bar [.v (.int .i64 b.1),.v (.int .i64 b.2.1),.v (.bool g0),.v (.slice g1 g2 g3),.v (.bool g4),.v (.slice g5 g6 g7)]),(1,.arr T.Lint rv),(0,.box T.Frame [.v (.slice an f.nodes.length cn),.v (.slice ab f.bars.length cb),.v (.slice aq f.cV.length cq)])],3,z.2.2,z.2.1⟩,fun z=>3-z.1,
   fun z=>z.1<=3∧dm w.heap.size w z.2.1∧iE z.2.1 w.heap.size z.2.2 rv f.cols (eV f (dh f j) j z.1)∧GM (eV f (dh f j) j z.1) (12000000*j+4000000*z.1),?_,?_⟩
  ·intro O w' r3;exact⟨(0,w',_),⟨aO _,hw.tr r3.cQ,hE.rel r3,Ok⟩,Sub.gn [] r3⟩
  rintro⟨k,w3,iv⟩ ⟨hk,hw,hE,Ok⟩;dsimp only at hk hw hE Ok ⊢;refine dI.mk ?_ ?_<;>intro OL
  ·have OL:k<3:=by have:=aI OL;omega
   obtain⟨d,hd⟩:∃d,(tF f b).getD k 0=d:=⟨_,rfl⟩
   have hdb: -2000000<=d∧d<=2000000:=by
    rw[<-hd,hbD];rcases(show k=0∨k=1∨k=2 by omega)with rfl|rfl|rfl<;>simp[List.getD]<;>omega
   have hMl:(eV f (dh f j) j k).length=3*f.nodes.length:=by rw[<-hE.len];have:=hE.len;omega
   have Pz:f.cols=f.bars.length+f.cV.length:=rfl;refine BS hτ rfl rfl rfl (fun _=>rfl) rfl ⟨by omega,by omega⟩ (u:=.int .i64 d) ?_ (fun O w4 r=>?_)
   ·rw[<-hd,hbD,aE];rcases(show k=0∨k=1∨k=2 by omega)with rfl|rfl|rfl<;>rfl
   replace hw:=hw.tr r.cQ;replace hE:=hE.rel r;obtain⟨la,QC⟩:∃l,(eV f (dh f j) j k)[3*ka+k]? =some l:=⟨_,aB (by first|omega|(rw [ah];omega))⟩
   have hlaw:=hE.wid la (aC QC);obtain⟨za,Vp⟩:∃z,la[j]? =some z:=⟨_,aB (by omega)⟩
   have hzab:=Ok la (aC QC) za (aC Vp);obtain⟨va,WK⟩:∃v,rv[3*ka+k]? =some v:=⟨_,aB (by have:=(aD.1 QC).1;rw[hE.len];exact this)⟩
   obtain⟨aa5,ca5,rfl⟩:=hE.form WK;obtain⟨ada5,TU,hxa1,hxa2⟩:=hE.load WK QC Vp;refine⟨((3*ka:Nat):Int),by rw[ea,wrap64]<;>omega,((3*ka+k:Nat):Int),wo,by omega,.slice aa5 f.cols ca5,by rw[aE,aU,aS];exact WK,ada5,TU,by omega,.int .i64 za,fun O w' r=>?_,?_⟩
   ·rw[aE,cH (w:=w4) (w2:=w') (by rw[dD];exact Rel.same r (gg _) hxa1)];exact hxa2
   refine⟨za+d,wo,ada5,TU,by omega,?_⟩;intro O w' r;obtain⟨g,hg,h1,h2,h3,h4⟩:=hE.store r (z:=za+d) WK QC (show j<f.cols by omega);rw[TU]at hg;injection hg with hg;subst hg;refine⟨h1,h2,h3,fun w5 Qr=>?_⟩;obtain⟨k1,k2,k3,-,-⟩:=h4 w5 Qr;replace hw:=(hw.tr r.cQ).tr k2;replace Ok:=Ok.set (r:=3*ka+k) (c:=j) (z:=za+d) (t2:=12000000*j+4000000*k+2000000) (by omega) QC (by omega);replace hE:=k1;obtain⟨lb,Oq⟩:∃l,((eV f (dh f j) j k).set (3*ka+k) (la.set j (za+d)))[3*kb+k]? =some l:=⟨_,aB (by first|omega|(rw [ah];omega))⟩
   have hlbw:=hE.wid lb (aC Oq);obtain⟨zb,Sh⟩:∃z,lb[j]? =some z:=⟨_,aB (by omega)⟩
   have hzbb:=Ok lb (aC Oq) zb (aC Sh);obtain⟨vb,Uy⟩:∃v,rv[3*kb+k]? =some v:=⟨_,aB (by have:=(aD.1 Oq).1;rw[hE.len];exact this)⟩
   obtain⟨ab5,cb5,rfl⟩:=hE.form Uy;obtain⟨adb5,TV,hxb1,hxb2⟩:=hE.load Uy Oq Sh;refine⟨((3*kb:Nat):Int),by rw[eb,wrap64]<;>omega,((3*kb+k:Nat):Int),wo,by omega,.slice ab5 f.cols cb5,by rw[aE,aU,aS];exact Uy,adb5,TV,by omega,.int .i64 zb,fun O w' r=>?_,?_⟩
   ·rw[aE,cH (w:=w5) (w2:=w') (by rw[dD];exact Rel.same r (gg _) hxb1)];exact hxb2
   refine⟨zb-d,wo,adb5,TV,by omega,?_⟩;intro O w' r;obtain⟨g,hg,h1,h2,h3,h4⟩:=hE.store r (z:=zb-d) Uy Oq (show j<f.cols by omega);rw[TV]at hg;injection hg with hg;subst hg;refine⟨h1,h2,h3,fun w5 Qr=>?_⟩;obtain⟨k1,k2,k3,-,-⟩:=h4 w5 Qr;replace hw:=(hw.tr r.cQ).tr k2;replace Ok:=Ok.set (r:=3*kb+k) (c:=j) (z:=zb-d) (t2:=12000000*j+4000000*(k+1:Nat)) (by omega) Oq (by omega);replace hE:=k1;rw[MB hb ea eb hd QC Vp Oq Sh]at hE Ok;refine⟨((k+1:Nat):Int),wo,?_⟩;intro ρ3 w6 r3;exact⟨(k+1,w6,_),⟨OL,hw.tr r3.cQ,hE.rel r3,Ok⟩,Sub.gn [] r3,by dsimp only;omega⟩
  have OL:k=3:=by have:=aH OL;omega
  subst OL;refine⟨((j+1:Nat):Int),wo,?_⟩;intro ρ3 w6 r3;exact⟨(j+1,w6,_),⟨PO,hw.tr r3.cQ,hE.rel r3,fun l hl z hz=>by have:=Ok l hl z hz;dsimp only;omega⟩,Sub.gn [] r3,by dsimp only;omega⟩
 have PO:j=f.bars.length:=aP hj (by simpa using PO);subst PO
 refine⟨Nat×World×Iv,fun z=>⟨[(1,pP 0 0),(3,.o (.s 1 0 i i)),(79,sV aq f.cV.length cq),(80,iZ f.cV.length),(81,iN z.1)],[(1,.arr T.Lint rv),(0,.box T.Frame [.v (.slice an f.nodes.length cn),.v (.slice ab f.bars.length cb),.v (.slice aq f.cV.length cq)])],2,z.2.2,z.2.1⟩,fun z=>f.cV.length-z.1,
  fun z=>z.1<=f.cV.length∧dm w.heap.size w z.2.1∧iE z.2.1 w.heap.size z.2.2 rv f.cols (fG f z.1)∧GM (fG f z.1) 800000000,?_,?_⟩
 ·intro O w' r3;exact⟨(0,w',_),⟨aO _,hw.tr r3.cQ,hE.rel r3,fun l hl z hz=>by have:=Ok l hl z hz;omega⟩,Sub.gn [] r3⟩
 rintro⟨j,w2,iv⟩ ⟨hj,hw,hE,Ok⟩;dsimp only at hj hw hE Ok ⊢;refine dI.mk ?_ ?_<;>intro PO
 ·have PO:j<f.cV.length:=by simpa using PO
  obtain⟨s,hs⟩:∃b,f.cV[j]? =some b:=⟨_,aB PO⟩
  obtain⟨hA,hB⟩:=OM.sup s (aC hs);obtain⟨ks,Vq⟩:=Int.eq_ofNat_of_zero_le (show 0<=3*s.1+s.2.1 by omega);have Pz:f.cols=f.bars.length+f.cV.length:=rfl;have hMl:=oI f j;obtain⟨l,hl⟩:∃l,(fG f j)[ks]? =some l:=⟨_,aB (by omega)⟩
  have Wo:=hE.wid l (aC hl);obtain⟨v,hv⟩:∃v,rv[ks]? =some v:=⟨_,aB (by rw[hE.len];omega)⟩
  obtain⟨a5,c5,rfl⟩:=hE.form hv;obtain⟨z0,OT⟩:∃z,l[f.bars.length+j]? =some z:=⟨_,aB (by omega)⟩
  obtain⟨ad5,ha5,-,-⟩:=hE.load hv hl OT;obtain⟨adb,cs,Py,hF,-,Oq⟩:=hf.cV.load (by decide) hs;obtain⟨g0,g1,g2,g3,g4,g5,g6,g7,rfl,hF⟩:=hF;refine⟨adb,Py,by omega,[.int .i64 s.1,.int .i64 s.2.1,.bool g0,.slice g1 g2 g3,.bool g4,.slice g5 g6 g7],rfl,rdO Oq hw hS,?_⟩;refine cK hτ da [.x 0,.x 1,.x 2,.x 3,.x 4,.x 5,.x 6,.x 7,.x 8,.x 9,.x 10,.x 11,.x 12,.x 13,.x 14,.x 15] (by kernel_rfl) (by kernel_rfl) ?_;refine⟨3*s.1,wo,((ks:Nat):Int),wo,by omega,.slice a5 f.cols c5,by rw[aE,aU,aS];exact hv,((f.bars.length+j:Nat):Int),wo,ad5,ha5,by omega,?_⟩;intro O w' r;obtain⟨g,hg,h1,h2,h3,h4⟩:=hE.store r (z:=1) hv hl (show f.bars.length+j<f.cols by omega);rw[ha5]at hg;injection hg with hg;subst hg;refine⟨h1,h2,h3,fun w5 Qr=>?_⟩;obtain⟨k1,k2,k3,-,-⟩:=h4 w5 Qr;replace hw:=(hw.tr r.cQ).tr k2;have SQ:=Ok.set (r:=ks) (c:=f.bars.length+j) (z:=1) (t2:=800000000) (by omega) hl (by omega);rw[GO hs Vq hl]at k1 SQ;refine⟨((j+1:Nat):Int),wo,?_⟩;intro ρ3 w6 r3;exact⟨(j+1,w6,_),⟨PO,hw.tr r3.cQ,k1.rel r3,SQ⟩,Sub.gn [] r3,by dsimp only;omega⟩
 have PO:j=f.cV.length:=aP hj (by simpa using PO);subst PO;intro ρe we re;have Oh:=hE.rel re;have hMl:=oI f f.cV.length;have Qi:=hE.len;refine⟨_,rfl,hw.tr re.cQ,⟨rv,?_,hE.len,fun i u x k1 k2=>?_⟩,Ok,hE.wid,by rw[<-hm];exact hMl⟩
 ·rw[show (iD f).length=rv.length from hE.len.symm];have h5:=re.Iy (id:=1) (sz:=1) (m:=rv.length) rfl (by simp) (by unfold maxLen;omega) hE.one;rw[show (i:Nat)=rv.length by omega];exact h5.cJ fun g hg=>.inr hg
 ·obtain⟨a,c,rfl⟩:=hE.form k1;have Pk:=hE.wid x (aC k2);refine⟨by rw[Pk];unfold ew.cols maxLen;omega,by simp,fun v hv=>by obtain⟨z,_,rfl⟩:=aT.1 hv;rfl,a,c,by rw[Pk],?_,fun t v hv=>?_⟩
  ·rw[Pk];obtain⟨a2,c2,e,h⟩:=fJ (hE.row i _ x k1 k2);injection e with e1 e2 e3;omega
  ·rw[aM]at hv
   cases ht:x[t]? with
   |none=>rw[ht]at hv;cases hv
   |some z=>
    rw[ht]at hv;simp only[Option.map_some,Option.some.injEq]at hv;subst hv;obtain⟨ad,h1,h2,h3⟩:=Oh.load k1 k2 ht;exact⟨ad,h1,Cv.nw h2 re,by rw[aU]at h3;exact h3⟩
end Go.Ex
namespace Go.Ex
open Go Go.Sx Go.Proofs
variable{z:Int}{p:Int×Int×Int}{b:Int×Int×Rat}{iv:Iv}{x:Ld}{xs:List (Int×Int×Int)}{seen:List (Int×Int×Rat)}{css:List (List Value)}{s:List Int}{l:List Ld}{qs:List Rat}{cs:List Value}{B id j n:Nat}{S:Nat->Prop}{O:Nat->Sx.di}{a an:Option Addr}{q:Rat}{v vb vl vn vs:Value}{w:World}{f:ew}
theorem GQ(f:ew):(cP f).length=3*f.nodes.length:=by rw[cP,aJ];exact oI f _
theorem xF(h1: -2000000000<=z)(h2:z<=2000000000):rl (z:Rat)<=1:=by
 have e1:((z:Rat)).num=z:=rfl;have e2:((z:Rat)).den=1:=rfl;rw[rl,e1,e2];have a1:ln z.natAbs<=1:=gP.2 (by rw[wD];omega);have a2:ln 1<=1:=by decide
 omega
set_option maxHeartbeats 1000000 in
theorem tc(hS:Old S w)(hf:dT w S vn vb vs f)(OM:vM f):
  eD PG N.pR #[.agg #[vn,vb,vs]] w (eG w fun v' w2=>(∃vr,v'= .agg #[vr,.int .i64 f.cols]∧cR w2 (Nf w w2) vr (cP f))∧fZ f.cols (cP f)∧Ht (cP f) 2):=by
 have hw:=bR w;obtain⟨an,cn,ab,cb,aq,cq,rfl,rfl,rfl,Qj,RJ,R6⟩:=hf.shape;obtain⟨Ux,UC,UD⟩:=And.intro OM.n (And.intro OM.b OM.s);have Pz:f.cols=f.bars.length+f.cV.length:=rfl;refine tP (by simp) ?_;refine⟨((f.cols:Nat):Int),by rw[wrap64]<;>first|rfl|omega,?_⟩;refine cD (cO (Φ:=fun _ w' v w2=>ta w2 (Nf w' w2) v (iD f)∧GM (iD f) 800000000∧(∀l∈iD f,l.length=f.cols)∧(iD f).length=3*f.nodes.length) (fun O w' r=>KB (S:=S) (oS hS r) (hf.cI (kS hw r hS)) OM) ?_);rintro O QA v1 Pg r he PL ⟨k1,Ok,hwid,Qg⟩;replace hw:=hw.tr PL;have hM:=ta.cJ k1 fun g hg=>hg.dB (B:=w.heap.size) (S:=FF) r.cF (iv:=(QA.heap.size,Pg.heap.size)::[]) aG;generalize (QA.heap.size,Pg.heap.size)::[]=OP at*
 obtain⟨am,cm,rfl,SC,SA⟩:=c9.shape hM;unfold maxLen at SA
 refine⟨Nat×List Value×World×Iv,fun z=>⟨[(20,iN z.1),(2,pP 1 0),(3,pP 2 0),(18,.o (.v (.slice am (iD f).length cm))),(19,.o (.v (.int .i64 (iD f).length)))],[(2,.box T.dx [.w 3 z.2.1.length,.v (.int .i64 ((f.cols:Nat):Int))]),(3,.vec T.fc 1 z.2.1),(1,.box T.dx [.v (.slice none 0 0),.v (.int .i64 0)])],4,z.2.2.2,z.2.2.1⟩,fun z=>(iD f).length-z.1,
  fun z=>z.1<=(iD f).length∧dm w.heap.size w z.2.2.1∧ta z.2.2.1 (Cf w z.2.2.2) (.slice am (iD f).length cm) (iD f)∧dQ z.2.2.1 (Cf w z.2.2.2) z.2.1 ((cP f).take z.1),?_,?_⟩
 ·intro O w' r;exact⟨(0,[],w',_),⟨aO _,hw.tr r.cQ,hM.cI fun g hg=>Rel.same r (cC w) hg,by simp[dQ]⟩,Sub.CF 2 0 T.fc 1 rfl rfl (by simp[jQ,SV.sc,At.sc,fP]) r fun ρ1 r1=>Sub.gn [] r1⟩
 rintro⟨k,rv,w1,iv⟩ ⟨hk,hw,hM,hK⟩;dsimp only at hk hw hM hK ⊢;have Ou:rv.length=k:=by rw[hK.1,aW,cP,aJ];omega
 refine dI.mk ?_ ?_<;>intro OL
 ·have OL:k<(iD f).length:=by simpa using OL
  obtain⟨l,hl⟩:∃l,(iD f)[k]? =some l:=⟨_,aB OL⟩
  have Wo:=hwid l (aC hl);have OR:(cP f).take (k+1)=(cP f).take k++[dM l]:=by rw[List.take_add_one,show(cP f)[k]? =some (dM l) by rw[cP,aM,hl];rfl];rfl
  obtain⟨adm,um,QE,Wp,km1,km2⟩:=c9.load hM hl;obtain⟨a0,c0,rfl,Qw,-⟩:=oR.shape Wp;refine⟨adm,QE,by omega,.slice a0 l.length c0,fun O w' r=>?_,?_⟩
  ·rw[aE,cH (w:=w1) (w2:=w') (by rw[dD];exact Rel.same r (cC w) km1)];exact km2
  refine⟨l.length,l.length,rfl,rfl,aF _,by omega,by omega,Nat×Nat×World×Iv,fun z=>⟨[(6,.o (.v (.slice (some ⟨z.2.1,0,none⟩) l.length l.length))),(5,sV a0 l.length c0),(27,sV a0 l.length c0),(28,iZ l.length),(29,iN z.1),(20,iN k),(2,pP 1 0),(3,pP 2 0),(18,.o (.v (.slice am (iD f).length cm))),(19,.o (.v (.int .i64 (iD f).length)))],[(2,.box T.dx [.w 3 rv.length,.v (.int .i64 ((f.cols:Nat):Int))]),(3,.vec T.fc 1 rv),(1,.box T.dx [.v (.slice none 0 0),.v (.int .i64 0)])],5,z.2.2.2,z.2.2.1⟩,fun z=>l.length-z.1,
   fun z=>z.1<=l.length∧dm w.heap.size w z.2.2.1∧ta z.2.2.1 (Bs FF w.heap.size z.2.2.2 (.slice (some ⟨z.2.1,0,none⟩) l.length l.length)) (.slice am (iD f).length cm) (iD f)∧oR z.2.2.1 (Bs FF w.heap.size z.2.2.2 (.slice (some ⟨z.2.1,0,none⟩) l.length l.length)) (.slice a0 l.length c0) l∧dQ z.2.2.1 (Bs FF w.heap.size z.2.2.2 (.slice (some ⟨z.2.1,0,none⟩) l.length l.length)) rv ((cP f).take k)∧jA z.2.2.1 FF w.heap.size z.2.2.2 (.slice (some ⟨z.2.1,0,none⟩) l.length l.length) l.length z.1 (dM l),?_,?_⟩
  ·intro O w' r;have hf:=jA.kD (S:=FF) (n:=l.length) r (id:=4) rfl (by unfold maxLen;omega) (dM l);have hbs:∀g,Cf w iv g->Bs FF w.heap.size (((O 4).g,(O 4).g+1)::iv) (.slice (some ⟨(O 4).g,0,none⟩) l.length l.length) g:=fun g hg=>⟨hg.mono fun p hp=>List.mem_cons_of_mem _ hp,fun e=>Rel.not r (cC w) hg 4 _ rfl (r.fits (id:=4) rfl).1 (by injection e)⟩
   exact⟨(0,(O 4).g,w',((O 4).g,(O 4).g+1)::iv),⟨aO _,hw.tr r.cQ,(hM.cI fun g hg=>Rel.same r (cC w) hg).cJ hbs,(Wp.cI fun g hg=>Rel.same r (cC w) hg).cJ hbs,dQ.cJ (hK.rel r (cC w)) hbs,hf⟩,
    Sub.kD r (id:=4) (t:=6) rfl rfl ⟨rfl,rfl,rfl,trivial⟩ rfl ⟨rfl,rfl,rfl,rfl,rfl,rfl,rfl,rfl,rfl,trivial⟩ (by simp[jQ,SV.sc,At.sc])⟩
  rintro⟨i,gx,w2,iv⟩ ⟨hi,hw,hM,Wp,hK,hX⟩;dsimp only at hi hw hM Wp hK hX ⊢;refine dI.mk ?_ ?_<;>intro OI
  ·have OI:i<l.length:=by simpa using OI
   obtain⟨z,hz⟩:∃z,l[i]? =some z:=⟨_,aB OI⟩
   have Sh:=Ok l (aC hl) z (aC hz);obtain⟨adz,haz,kz1,kz2⟩:=Wp.at hz;refine⟨adz,haz,by omega,.int .i64 z,fun O w' r=>?_,?_⟩
   ·rw[aE,cH (w:=w2) (w2:=w') (by rw[dD];exact Rel.same r (cC w) kz1.1)];exact kz2
   refine cD (cO (Φ:=fun _ w' v w2=>cS w2 (Nf w' w2) v (z:Rat)) (fun O w' r=>kC z w' (by omega) (by omega)) ?_);rintro O PX v3 PT r he PL Rr;replace hw:=hw.tr PL;have hbs:∀g,Bs FF w.heap.size iv (.slice (some ⟨gx,0,none⟩) l.length l.length) g->Bs FF w.heap.size ((PX.heap.size,PT.heap.size)::iv) (.slice (some ⟨gx,0,none⟩) l.length l.length) g:=fun g hg=>Bs.mono (fun x hx=>List.mem_cons_of_mem _ hx) hg;have hbk:∀g,Bs FF w.heap.size iv (.slice (some ⟨gx,0,none⟩) l.length l.length) g->PT.heap[g]? =w2.heap[g]? :=fun g hg=>(he.block g (Rel.old r (cC w) g hg.1)).trans (Bs.same r (cC w) g hg);replace hM:=(hM.cI hbk).cJ hbs;replace Wp:=(Wp.cI hbk).cJ hbs;replace hK:=dQ.cJ (dQ.cI hK hbk) hbs;have hd:=Rr.cJ (S':=Bs FF w.heap.size ((PX.heap.size,PT.heap.size)::iv) (.slice (some ⟨gx,0,none⟩) l.length l.length)) fun g hg=>hg.elim (fun h=>h.elim) fun h=>⟨.inr ⟨by have:=r.cF;omega,_,_,aG,h.1,h.2⟩,fun e=>by have:=Rel.old r (cC w) g (hX.new g e);omega⟩
   replace hX:=hX.cG (iv':=(PX.heap.size,PT.heap.size)::iv) r (cC w) he fun x hx=>List.mem_cons_of_mem _ hx;generalize (PX.heap.size,PT.heap.size)::iv=OU at*
   obtain⟨A0,A1,A2,A3,A4,A5,A6,A7,rfl⟩:=hd.shape;refine⟨⟨gx,0,none⟩,rfl,by omega,?_⟩;intro O w' r;obtain⟨g,hg,h1,h2,h3,h4⟩:=hX.store (j:=i) OI (by rw[dM,aM,hz];rfl) hd r (cC w);injection hg with hg;injection hg with hg;subst hg;refine⟨h1,h2,h3,fun w5 Qr=>?_⟩;obtain⟨k1,k2,k3,k4⟩:=h4 w5 Qr;have PN:=(hw.tr r.cQ).tr k3;have Vu:=Bs.kept (v:=(.slice (some ⟨gx,0,none⟩) l.length l.length)) r (cC w) k2 fun g e=>e;have hM2:=hM.cI Vu;have hLm2:=Wp.cI Vu;have RE:=dQ.cI hK Vu;refine⟨((i+1:Nat):Int),wo,?_⟩;intro ρ3 w6 r3;exact⟨(i+1,gx,w6,_),⟨OI,PN.tr r3.cQ,hM2.cI (Bs.same r3 (cC w)),hLm2.cI (Bs.same r3 (cC w)),dQ.cI RE (Bs.same r3 (cC w)),k1.rel r3 (cC w)⟩,Sub.gn [] r3,by dsimp only;omega⟩
  have OI:i=l.length:=aP hi (by simpa using OI);rw[OI]at hX;have Vg:=(hX.done (by simp[dM])).c;replace hK:=(dQ.cJ hK fun g hg=>hg.1).push (u:=(.slice (some ⟨gx,0,none⟩) l.length l.length)) (x:=dM l) rfl (by rw[show l.length=(dM l).length by simp[dM]]at Vg ⊢;exact Vg);rw[<-OR]at hK;replace hM:=hM.cJ fun g hg=>hg.1;refine .inl ?_;refine⟨by simp,by omega,by unfold maxLen;omega,((k+1:Nat):Int),wo,?_⟩;intro ρ3 w3 r3;exact⟨(k+1,rv++[(.slice (some ⟨gx,0,none⟩) l.length l.length)],w3,_),⟨OL,hw.tr r3.cQ,hM.cI fun g hg=>Rel.same r3 (cC w) hg,hK.rel r3 (cC w)⟩,Sub.gn [(3,6)] r3 ⟨by dsimp only;rw[List.length_append,List.length_singleton];rfl,rfl,rfl,trivial⟩,by dsimp only;omega⟩
 have OL:k=(iD f).length:=aP hk (by simpa using OL);rw[List.take_of_length_le (by rw[cP,aJ];omega)]at hK;intro ρe we re;refine⟨_,rfl,hw.tr re.cQ,⟨_,rfl,rv,?_,hK.1,fun i u x k1 k2=>cN.cJ (cN.rel (hK.2.2 i u x k1 k2) re (cC w)) fun g hg=>Cv.nw hg re⟩,fun x hx=>?_,fun x hx q hq=>?_⟩
 ·rw[<-hK.1];exact(re.iC (id:=3) (sz:=1) (m:=rv.length) rfl (by simp) (by unfold maxLen;omega) (by decide) hK.2.1).cJ fun g hg=>.inr hg
 ·obtain⟨l,hl,rfl⟩:=aT.1 hx;rw[dM,aJ];exact hwid l hl
 ·obtain⟨l,hl,rfl⟩:=aT.1 hx;obtain⟨z,hz,rfl⟩:=aT.1 hq;have:=Ok l hl z hz;have:=xF (z:=z) (by omega) (by omega);omega
def ldC(x:Ld):List Int:=[x.2.1,x.2.2.1,x.2.2.2]
def gU(s:List Int)(x:Ld):Nat->List Int
 |0=>s
 |k+1=>I5 (gU s x k) (3*x.1+k).toNat ((ldC x).getD k 0)
def fV(n:Nat)(l:List Ld):Nat->List Int
 |0=>List.replicate (3*n) 0
 |i+1=>gU (fV n l i) (l.getD i (0,0,0,0)) 3
def eh(f:ew)(l:List Ld):List Rat:=dM (fV f.nodes.length l l.length)
structure nB(n:Nat)(l:List Ld):Prop where
 len:l.length<=200
 ld:∀x∈l,(0<=x.1∧x.1<n)∧(-1000000<=x.2.1∧x.2.1<=1000000)∧(-1000000<=x.2.2.1∧x.2.2.1<=1000000)∧(-1000000<=x.2.2.2∧x.2.2.2<=1000000)
theorem td(s:List Int)(x:Ld):∀k,(gU s x k).length=s.length
 |0=>rfl
 |k+1=>by rw[gU,I5,ah];exact td s x k
theorem k5(n:Nat)(l:List Ld):∀i,(fV n l i).length=3*n
 |0=>bE ..
 |i+1=>by rw[fV,td];exact k5 n l i
theorem nC{k:Nat}{d:Int}(e:3*x.1+(k:Int)=j)(hd:(ldC x).getD k 0=d)(hz:(gU s x k)[j]? =some z):(gU s x k).set j (z+d)=gU s x (k+1):=by
 rw[gU,I5,hd,e,aE,show(gU s x k).getD j 0=z by rw[List.getD,hz];rfl]
def Mo(s:List Int)(t:Int):Prop:=∀z∈s,-t<=z∧z<=t
theorem Mo.set{t t2:Int}(h:Mo s t)(ht:t<=t2)(hz: -t2<=z∧z<=t2):Mo (s.set j z) t2:=fun y hy=>by
 rcases bF hy with hy|rfl
 ·have:=h y hy;omega
 ·exact hz
def zv(l:List Int):List Value:=l.map fun z=>.int .i64 z
theorem E3(l:List Int):(zv l).length=l.length:=aJ ..
theorem DK{l:List Int}(h:l[j]? =some z):(zv l)[j]? =some (.int .i64 z):=by rw[zv,aM,h];rfl
theorem E4{l:List Int}(h:j<l.length):(zv l).take j++[.int .i64 z]++(zv l).drop (j+1)=zv (l.set j z):=by
 rw[zv,zv,List.map_set];exact gC (by rw[aJ];exact h)
theorem pE(f:ew):(cY f).length=f.cols:=by simp[cY,ew.cols]
theorem cX.Nv(h:css.length=qs.length∧∀(j:Nat) cs q,css[j]? =some cs->qs[j]? =some q->nD w S cs q)(hc:nD w S cs q):
  (css++[cs]).length=(qs++[q]).length∧∀(j:Nat) c p,(css++[cs])[j]? =some c->(qs++[q])[j]? =some p->nD w S c p:=by
 refine⟨by simp[h.1],fun j x p h1 h2=>?_⟩;rcases aQ j css.length with hi|hi
 ·rw[aL hi]at h1;rw[aL (by rw[<-h.1];exact hi)]at h2;exact h.2 j x p h1 h2
 ·have Rp:j=css.length:=by have:=(aD.1 h1).1;simp at this;omega
  subst Rp;rw[aN (aF _),bL]at h1;rw[h.1,aN (aF _),bL]at h2;simp at h1 h2;subst h1 h2;exact hc
set_option maxHeartbeats 1000000 in
theorem rU{cn:Nat}(hS:Old S w)(hl:fu w S vl l)(Ux:f.nodes.length<=20)(OM:nB f.nodes.length l)
  {ab aq:Option Addr} {nb cb nq cq:Nat} (Uy:vb= .slice ab nb cb) (Qp:vs= .slice aq nq cq):
  eD PG N.qS #[.agg #[.slice an f.nodes.length cn,vb,vs],vl] w (eG w fun v' w2=>df w2 FF w.heap.size [(w.heap.size,w2.heap.size)] v' (3*f.nodes.length) (eh f l)∧∀q∈eh f l,rl q<=1):=by
 subst Uy Qp;have hw:=bR w;obtain⟨al,cl,rfl,PQ,Qg⟩:=hl.shape;have hl200:=OM.len;refine uy (by simp) ?_;refine⟨((3*f.nodes.length:Nat):Int),wo,?_⟩;obtain⟨m,hm⟩:∃m,3*f.nodes.length=m:=⟨_,rfl⟩
 rw[hm]
 refine⟨m,m,rfl,rfl,aF _,by omega,by omega,Nat×World,fun z=>⟨[(5,.o (.s 1 0 m m)),(18,sV al l.length cl),(19,iZ l.length),(20,iN z.1)],[(1,.arr T.int (zv (fV f.nodes.length l z.1)))],2,[],z.2⟩,fun z=>l.length-z.1,
  fun z=>z.1<=l.length∧dm w.heap.size w z.2∧Mo (fV f.nodes.length l z.1) (3000000*z.1),?_,?_⟩
 ·intro O w' r3;exact⟨(0,w'),⟨aO _,hw.tr r3.cQ,fun z hz=>by rw[fV]at hz;rw[bH hz];exact⟨Int.le_refl _,Int.le_refl _⟩⟩,Sub.gn [] r3 ⟨by dsimp only;rw[fV,hm,zv,List.map_replicate];rfl,trivial⟩⟩
 rintro⟨i,w1⟩ ⟨hi,hw,Ok⟩;dsimp only at hi hw Ok ⊢;refine dI.mk ?_ ?_<;>intro OI
 ·have OI:i<l.length:=by simpa using OI
  obtain⟨x,hx⟩:∃x,l[i]? =some x:=⟨_,aB OI⟩
  obtain⟨hn,Sm,SD,hx3⟩:=OM.ld x (aC hx);obtain⟨kn,hkn⟩:=Int.eq_ofNat_of_zero_le hn.1;obtain⟨adx,cs,PS,hP,-,Oo⟩:=hl.load (by decide) hx;have hP:cs=[.int .i64 x.1,.int .i64 x.2.1,.int .i64 x.2.2.1,.int .i64 x.2.2.2]:=hP;subst hP
  refine⟨adx,PS,by omega,[.int .i64 x.1,.int .i64 x.2.1,.int .i64 x.2.2.1,.int .i64 x.2.2.2],rfl,rdO Oo hw hS,Nat×World,fun z=>⟨[(5,.o (.s 1 0 m m)),(7,pP 2 0),(30,.a [.v (.int .i64 x.2.1),.v (.int .i64 x.2.2.1),.v (.int .i64 x.2.2.2)]),(31,iN z.1),(18,sV al l.length cl),(19,iZ l.length),(20,iN i)],[(2,.box T.aBS [.v (.int .i64 x.1),.v (.int .i64 x.2.1),.v (.int .i64 x.2.2.1),.v (.int .i64 x.2.2.2)]),(1,.arr T.int (zv (gU (fV f.nodes.length l i) x z.1)))],3,[],z.2⟩,fun z=>3-z.1,
   fun z=>z.1<=3∧dm w.heap.size w z.2∧Mo (gU (fV f.nodes.length l i) x z.1) (3000000*i+1000000*z.1),?_,?_⟩
  ·intro O w' r3;exact⟨(0,w'),⟨aO _,hw.tr r3.cQ,Ok⟩,Sub.gn [] r3⟩
  rintro⟨k,w3⟩ ⟨hk,hw,Ok⟩;dsimp only at hk hw Ok ⊢;refine dI.mk ?_ ?_<;>intro OL
  ·have OL:k<3:=by have:=aI OL;omega
   obtain⟨d,hd⟩:∃d,(ldC x).getD k 0=d:=⟨_,rfl⟩
   have hdb: -1000000<=d∧d<=1000000:=by
    rw[<-hd,ldC];rcases(show k=0∨k=1∨k=2 by omega)with rfl|rfl|rfl<;>simp[List.getD]<;>omega
   have hLl:(gU (fV f.nodes.length l i) x k).length=m:=by rw[td,k5,hm]
   obtain⟨z,hz⟩:∃z,(gU (fV f.nodes.length l i) x k)[3*kn+k]? =some z:=⟨_,aB (by omega)⟩
   have Sh:=Ok z (aC hz);have Uv:3*x.1+(k:Int)=((3*kn+k:Nat):Int):=by omega
   have Ph:=nC Uv hd hz;have SQ:=Ok.set (j:=3*kn+k) (z:=z+d) (t2:=3000000*i+1000000*(k+1:Nat)) (by omega) (by omega);rw[Ph]at SQ;refine BS hτ (cs:= #[.int .i64 x.2.1,.int .i64 x.2.2.1,.int .i64 x.2.2.2]) rfl rfl rfl (fun _=>rfl) rfl ⟨by omega,by omega⟩ (u:=.int .i64 d) ?_ (fun O w4 r=>?_)
   ·rw[<-hd,ldC,aE];rcases(show k=0∨k=1∨k=2 by omega)with rfl|rfl|rfl<;>rfl
   replace hw:=hw.tr r.cQ;refine⟨3*x.1,wo,((3*kn+k:Nat):Int),wo,by omega,.int .i64 z,by rw[aE,aU,aS];exact DK hz,z+d,wo,by omega,by rw[E3];omega,zv (gU (fV f.nodes.length l i) x (k+1)),?_,?_⟩
   ·rw[aE,aU,aS,<-Ph];exact E4 (by omega)
   refine⟨((k+1:Nat):Int),wo,?_⟩;intro ρ3 w6 r3;exact⟨(k+1,w6),⟨OL,hw.tr r3.cQ,SQ⟩,Sub.gn [] r3,by dsimp only;omega⟩
  have OL:k=3:=by have:=aH OL;omega
  subst OL;have Ph:gU (fV f.nodes.length l i) x 3=fV f.nodes.length l (i+1):=by rw[fV,show l.getD i (0,0,0,0)=x by rw[List.getD,hx];rfl]
  rw[Ph]at Ok ⊢;refine⟨((i+1:Nat):Int),wo,?_⟩;intro ρ3 w6 r3;exact⟨(i+1,w6),⟨OI,hw.tr r3.cQ,fun z hz=>by have:=Ok z hz;dsimp only;omega⟩,Sub.gn [] r3,by dsimp only;omega⟩
 have OI:i=l.length:=aP hi (by simpa using OI);subst OI;obtain⟨s,hs⟩:∃s,fV f.nodes.length l l.length=s:=⟨_,rfl⟩
 have Ro:s.length=m:=by rw[<-hs,k5,hm]
 rw[hs]at Ok ⊢;unfold eh;rw[hs]
 refine⟨m,m,rfl,rfl,aF _,by omega,by omega,Nat×List (List Value)×Iv×World,fun z=>⟨[(10,.o (.s 2 0 m m)),(51,.o (.s 1 0 m m)),(52,iZ m),(53,iN z.1)],[(2,.arr T.Rat z.2.1.flatten),(1,.arr T.int (zv s))],3,z.2.2.1,z.2.2.2⟩,fun z=>m-z.1,
  fun z=>z.1<=m∧dm w.heap.size w z.2.2.2∧gM z.2.2.2 (Cf w z.2.2.1) m z.1 z.2.1 (dM s),?_,?_⟩
 ·intro O w' r;exact⟨(0,List.replicate m f0,_,w'),⟨aO _,hw.tr r.cQ,gM.start _ _ _ _⟩,Sub.gn [] r⟩
 rintro⟨i,css,iv,w1⟩ ⟨Qh,hw,hF⟩;dsimp only at Qh hw hF ⊢;refine dI.mk ?_ ?_<;>intro OI
 ·have OI:i<m:=by simpa using OI
  obtain⟨z,hz⟩:∃z,s[i]? =some z:=⟨_,aB (by omega)⟩
  have Sh:=Ok z (aC hz);refine⟨by omega,.int .i64 z,by rw[aE,aU,aS];exact DK hz,?_⟩;refine cD (cE hw (fun _ w' v w2=>cS w2 (Nf w' w2) v (z:Rat)) (fun O w' r=>kC z w' (by omega) (by omega)) ?_);rintro O _ _ _ OP r he hw h_ hn;replace hF:=hF.cG r (cC w) he (mC h_);have hd:=hn.dB (S:=FF) r.cF (mN h_);obtain⟨A0,A1,A2,A3,A4,A5,A6,A7,rfl⟩:=hd.shape;have OR:=hF.next OI (q:=_) (by rw[dM,aM,hz];rfl) hd
  refine⟨by omega,by have:=hF.flat;omega,(css.set i [.bool A0,.slice A1 A2 A3,.bool A4,.slice A5 A6 A7]).flatten,?_,?_⟩
  ·have:=iy (cs:=[.bool A0,.slice A1 A2 A3,.bool A4,.slice A5 A6 A7]) hF.four (show i<css.length by rw[hF.len];exact OI);rw[<-this];simp
  refine⟨((i+1:Nat):Int),wo,?_⟩;intro ρ3 w3 r3;exact⟨(i+1,css.set i [.bool A0,.slice A1 A2 A3,.bool A4,.slice A5 A6 A7],_,w3),⟨OI,hw.tr r3.cQ,OR.rel r3 (cC w)⟩,Sub.gn [] r3,by dsimp only;omega⟩
 have OI:i=m:=aP Qh (by simpa using OI);subst OI;intro ρe we re
 exact⟨_,rfl,hw.tr re.cQ,hF.done (by rw[dM,aJ];exact Ro) (by unfold maxLen;omega) re (id:=2) rfl (re.nn 2 _ rfl (by intros;simp) (by simp)),fun q hq=>by
  obtain⟨z,hz,rfl⟩:=aT.1 hq;have:=Ok z hz
  exact xF (by omega) (by omega)⟩
set_option maxHeartbeats 1000000 in
theorem DL(hS:Old S w)(hf:dT w S vn vb vs f)(OM:vM f):
  eD PG N.qU #[.agg #[vn,vb,vs]] w (eG w fun v' w2=>cX w2 (Nw S w w2) v' (cY f)):=by
 have hw:=bR w;obtain⟨an,cn,ab,cb,aq,cq,rfl,rfl,rfl,Qj,RJ,R6⟩:=hf.shape;have hf0:=hf;refine vA (by simp) ?_
 refine⟨Nat×List (List Value)×World,fun z=>⟨[(3,.o (.w 1 z.2.1.length)),(9,sV ab f.bars.length cb),(10,iZ f.bars.length),(11,iN z.1),(1,pP 0 0)],[(1,.vec T.Rat 4 z.2.1.flatten),(0,.box T.Frame [.v (.slice an f.nodes.length cn),.v (.slice ab f.bars.length cb),.v (.slice aq f.cV.length cq)])],2,[],z.2.2⟩,fun z=>f.bars.length-z.1,
  fun z=>z.1<=f.bars.length∧dm w.heap.size w z.2.2∧(∀cs∈z.2.1,cs.length=4)∧(z.2.1.length=((fun i=>(f.bars.take i).map (·.2.2)) z.1).length∧∀(j:Nat) cs q,z.2.1[j]? =some cs->((fun i=>(f.bars.take i).map (·.2.2)) z.1)[j]? =some q->nD z.2.2 S cs q),?_,?_⟩
 ·intro O w' r;exact⟨(0,[],w'),⟨aO _,hw.tr r.cQ,fun cs h=>(by cases h),rfl,fun j cs q h=>by cases h⟩,Sub.nil 3 T.Rat 4 rfl (by simp[jQ,SV.sc,At.sc,fP]) r fun ρ1 r1=>Sub.gn [] r1⟩
 rintro⟨k,css,w1⟩ ⟨hk,hw,RL,hR⟩;dsimp only at hk hw RL hR ⊢;have OY:=eK RL;refine dI.mk ?_ ?_<;>intro OL
 ·have OL:k<f.bars.length:=by simpa using OL
  have UC:=OM.b;have UD:=OM.s;obtain⟨b,hb⟩:∃b,f.bars[k]? =some b:=⟨_,aB OL⟩
  have Ph:(fun i=>(f.bars.take i).map (·.2.2)) (k+1)=(fun i=>(f.bars.take i).map (·.2.2)) k++[b.2.2]:=by dsimp only;rw[List.take_add_one,hb];simp
  obtain⟨adb,cs,Py,hF,-,Oq⟩:=hf0.bars.load (by decide) hb;obtain⟨g0,g1,g2,g3,g4,g5,g6,g7,rfl,hF⟩:=hF;refine⟨adb,Py,by omega,[.int .i64 b.1,.int .i64 b.2.1,.bool g0,.slice g1 g2 g3,.bool g4,.slice g5 g6 g7],rfl,rdO Oq hw hS,?_⟩;have Wi:nD w1 S [.bool g0,.slice g1 g2 g3,.bool g4,.slice g5 g6 g7] b.2.2:=⟨_,_,_,_,_,_,_,_,rfl,hF.cI fun g hg=>hw.block g (hS g hg)⟩
  have Qc:=cX.Nv hR Wi;rw[<-Ph]at Qc;have Po:css.flatten++([.bool g0,.slice g1 g2 g3,.bool g4,.slice g5 g6 g7]:List Value)=(css++([[.bool g0,.slice g1 g2 g3,.bool g4,.slice g5 g6 g7]]:List (List Value))).flatten:=by simp
  have hlen2:css.length<=200:=by rw[hR.1,aJ,aW];have:=OM.b;omega
  refine .inl ?_;refine⟨by omega,by omega,by unfold maxLen;omega,((k+1:Nat):Int),wo,?_⟩;intro ρ3 w3 r3
  exact⟨(k+1,css++[[.bool g0,.slice g1 g2 g3,.bool g4,.slice g5 g6 g7]],w3),⟨OL,hw.tr r3.cQ,fun cs hc=>by
   rcases bK.1 hc with hc|hc
   ·exact RL cs hc
   ·rw[bB.1 hc];rfl,Qc.1,fun j cs q h1 h2=>(Qc.2 j cs q h1 h2).cI fun g hg=>(r3.cQ).block g (hS g hg)⟩,Sub.gn [(1,4)] r3 ⟨by dsimp only;rw[<-Po];rfl,rfl,trivial⟩ ⟨by dsimp only;rw[List.length_append,List.length_singleton];rfl,rfl,rfl,rfl,rfl,trivial⟩,by dsimp only;omega⟩
 have OL:k=f.bars.length:=aP hk (by simpa using OL);subst OL;have Ou:css.length=f.bars.length:=by rw[hR.1,aJ,aW];omega
 rw[bG,show f.bars.map (·.2.2)=f.bars.map (·.2.2)++(f.cV.take 0).map (·.2.2) by simp]at hR
 refine⟨Nat×List (List Value)×World,fun z=>⟨[(3,.o (.w 1 z.2.1.length)),(22,sV aq f.cV.length cq),(23,iZ f.cV.length),(24,iN z.1)],[(1,.vec T.Rat 4 z.2.1.flatten),(0,.box T.Frame [.v (.slice an f.nodes.length cn),.v (.slice ab f.bars.length cb),.v (.slice aq f.cV.length cq)])],2,[],z.2.2⟩,fun z=>f.cV.length-z.1,
  fun z=>z.1<=f.cV.length∧dm w.heap.size w z.2.2∧(∀cs∈z.2.1,cs.length=4)∧(z.2.1.length=((fun i=>f.bars.map (·.2.2)++(f.cV.take i).map (·.2.2)) z.1).length∧∀(j:Nat) cs q,z.2.1[j]? =some cs->((fun i=>f.bars.map (·.2.2)++(f.cV.take i).map (·.2.2)) z.1)[j]? =some q->nD z.2.2 S cs q),?_,?_⟩
 ·intro O w' r3;exact⟨(0,css,w'),⟨aO _,hw.tr r3.cQ,RL,hR.1,fun j cs q h1 h2=>(hR.2 j cs q h1 h2).cI fun g hg=>(r3.cQ).block g (hS g hg)⟩,Sub.gn [] r3⟩
 rintro⟨k,css,w1⟩ ⟨hk,hw,RL,hR⟩;dsimp only at hk hw RL hR ⊢;have OY:=eK RL;refine dI.mk ?_ ?_<;>intro OL
 ·have OL:k<f.cV.length:=by simpa using OL
  have UC:=OM.b;have UD:=OM.s;obtain⟨b,hb⟩:∃b,f.cV[k]? =some b:=⟨_,aB OL⟩
  have Ph:(fun i=>f.bars.map (·.2.2)++(f.cV.take i).map (·.2.2)) (k+1)=(fun i=>f.bars.map (·.2.2)++(f.cV.take i).map (·.2.2)) k++[b.2.2]:=by dsimp only;rw[List.take_add_one,hb];simp
  obtain⟨adb,cs,Py,hF,-,Oq⟩:=hf0.cV.load (by decide) hb;obtain⟨g0,g1,g2,g3,g4,g5,g6,g7,rfl,hF⟩:=hF;refine⟨adb,Py,by omega,[.int .i64 b.1,.int .i64 b.2.1,.bool g0,.slice g1 g2 g3,.bool g4,.slice g5 g6 g7],rfl,rdO Oq hw hS,?_⟩;have Wi:nD w1 S [.bool g0,.slice g1 g2 g3,.bool g4,.slice g5 g6 g7] b.2.2:=⟨_,_,_,_,_,_,_,_,rfl,hF.cI fun g hg=>hw.block g (hS g hg)⟩
  have Qc:=cX.Nv hR Wi;rw[<-Ph]at Qc;have Po:css.flatten++([.bool g0,.slice g1 g2 g3,.bool g4,.slice g5 g6 g7]:List Value)=(css++([[.bool g0,.slice g1 g2 g3,.bool g4,.slice g5 g6 g7]]:List (List Value))).flatten:=by simp
  have hlen2:css.length<=200:=by rw[hR.1,List.length_append,aJ,aJ,aW];have:=OM.b;have:=OM.s;omega
  refine .inl ?_;refine⟨by omega,by omega,by unfold maxLen;omega,((k+1:Nat):Int),wo,?_⟩;intro ρ3 w3 r3
  exact⟨(k+1,css++[[.bool g0,.slice g1 g2 g3,.bool g4,.slice g5 g6 g7]],w3),⟨OL,hw.tr r3.cQ,fun cs hc=>by
   rcases bK.1 hc with hc|hc
   ·exact RL cs hc
   ·rw[bB.1 hc];rfl,Qc.1,fun j cs q h1 h2=>(Qc.2 j cs q h1 h2).cI fun g hg=>(r3.cQ).block g (hS g hg)⟩,Sub.gn [(1,4)] r3 ⟨by dsimp only;rw[<-Po];rfl,rfl,trivial⟩ ⟨by dsimp only;rw[List.length_append,List.length_singleton];rfl,rfl,rfl,rfl,trivial⟩,by dsimp only;omega⟩
 have OL:k=f.cV.length:=aP hk (by simpa using OL);subst OL;intro ρe we re;have hfull:f.bars.map (·.2.2)++(f.cV.take f.cV.length).map (·.2.2)=cY f:=by rw[bG];rfl
 rw[hfull]at hR;refine⟨_,rfl,hw.tr re.cQ,css,?_,hR.1,RL,fun j cs q k1 k2=>((hR.2 j cs q k1 k2).cI fun g hg=>(re.cQ).block g (hS g hg)).cJ fun g hg=>.inl hg⟩;have PQ:=hR.1
 have h5:=re.iC (id:=1) (sz:=4) (m:=css.length) rfl OY (by have:=OM.b;have:=OM.s;rw[PQ,pE];unfold ew.cols maxLen;omega) (by decide) (fun u hu=>by
  obtain⟨cs,hc,hu⟩:=List.mem_flatten.1 hu;obtain⟨j,hj⟩:=aR hc;obtain⟨_,_,_,_,_,_,_,_,rfl,_⟩:=hR.2 j cs _ hj (aB (by rw[<-PQ];exact(aD.1 hj).1));simp at hu
  rcases hu with rfl|rfl|rfl|rfl<;>rfl)
 rw[<-PQ];exact h5.cJ fun g hg=>.inr hg
def eO{α:Type}(e:List α->α->Int):List α->List α->Int
 |_,[]=>0
 |seen,x::r=>if e seen x=0 then eO e (seen++[x]) r else e seen x
section
variable{α:Type}{e:List α->α->Int}{xs:List α}
theorem ff{k:Nat}{x:α}(hx:xs[k]? =some x)(h0:e (xs.take k) x=0):eO e (xs.take k) (xs.drop k)=eO e (xs.take (k+1)) (xs.drop (k+1)):=by
 have hk:=(aD.1 hx).1;have h2:=(aD.1 hx).2;rw[List.drop_eq_getElem_cons hk,h2,eO,if_pos h0,List.take_add_one,hx];rfl
theorem cU{k:Nat}{x:α}{c:Int}(hx:xs[k]? =some x)(h0:e (xs.take k) x=c)(hc:c≠0):eO e (xs.take k) (xs.drop k)=c:=by
 have hk:=(aD.1 hx).1;have h2:=(aD.1 hx).2;rw[List.drop_eq_getElem_cons hk,h2,eO,aK (by rw[h0];exact hc),h0]
theorem gv{k:Nat}(hk:xs.length<=k):eO e (xs.take k) (xs.drop k)=0:=by
 rw[List.drop_eq_nil_of_le hk];rfl
theorem ga(h:eO e [] xs=0):∀k x,xs[k]? =some x->e (xs.take k) x=0:=by
 have key:∀k,k<=xs.length->eO e (xs.take k) (xs.drop k)=0∧∀j x,j<k->xs[j]? =some x->e (xs.take j) x=0:=fun k=>by
  induction k with
  |zero=>intro _;exact⟨by simpa using h,fun j x hj=>by omega⟩
  |succ k ih=>
   intro hk;obtain⟨h1,h2⟩:=ih (by omega);obtain⟨x,hx⟩:∃x,xs[k]? =some x:=⟨_,aB (by omega)⟩
   have h0:e (xs.take k) x=0:=by
    by_cases h0:e (xs.take k) x=0
    ·exact h0
    ·rw[cU hx rfl h0]at h1;exact h1
   refine⟨by rw[<-ff hx h0];exact h1,fun j y hj hy=>?_⟩;rcases aQ j k with S2|S2
   ·exact h2 j y S2 hy
   ·have:j=k:=by omega
    subst this;rw[hx]at hy;injection hy with hy;rw[<-hy];exact h0
 exact fun k x hx=>(key xs.length (aF _)).2 k x (aD.1 hx).1 hx
end
def nX(n:Int):Prop:= -1000000<=n∧n<=1000000
instance (n : Int) : Decidable (nX n) := by unfold nX; infer_instance
def fE(seen:List (Int×Int×Int))(p:Int×Int×Int):Int:=if nX p.1∧nX p.2.1∧nX p.2.2 then(if p∈seen then 12 else 0)else 2
def gV(b:Int×Int×Rat):Int×Int:=(min b.1 b.2.1,max b.1 b.2.1)
def jR(n:Nat)(i:Int):Prop:=0<=i∧i<n
instance (n : Nat) (i : Int) : Decidable (jR n i) := by unfold jR; infer_instance
def fL(n:Nat)(seen:List (Int×Int×Rat))(b:Int×Int×Rat):Int:=
 if jR n b.1∧jR n b.2.1 then(if b.1=b.2.1 then 3 else if gV b∈seen.map gV then 5 else if b.2.2<=0 then 2 else 0)else 6
def iu(s:Int×Int×Rat):Int×Int:=(s.1,s.2.1)
def kv(n:Nat)(seen:List (Int×Int×Rat))(s:Int×Int×Rat):Int:=
 if jR n s.1 then(if 0<=s.2.1∧s.2.1<=2 then(if iu s∈seen.map iu then 5 else if s.2.2<0 then 2 else 0)else 2)else 6
def eJ(f:ew):Int:=
 if 20<f.nodes.length∨60<f.bars.length∨60<f.cV.length then 8 else
  if eO fE [] f.nodes≠0 then eO fE [] f.nodes else
   if eO (fL f.nodes.length) [] f.bars≠0 then eO (fL f.nodes.length) [] f.bars else eO (kv f.nodes.length) [] f.cV
def jq(n:Nat)(x:Ld):Int:=if jR n x.1 then(if nX x.2.1∧nX x.2.2.1∧nX x.2.2.2 then 0 else 2)else 6
def lE(n:Nat)(l:List Ld):Int:=if 200<l.length then 8 else eO (fun _=>jq n) [] l
def lM(f:ew)(l:List Ld):Int:=if eJ f≠0 then eJ f else lE f.nodes.length l
theorem te{seen:List (Int×Int×Int)}:fE seen p=0↔(nX p.1∧nX p.2.1∧nX p.2.2)∧p∉seen:=by
 unfold fE;split<;>rename_i h
 ·split<;>rename_i h2<;>simp[h,h2]
 ·simp[h]
theorem np:fL n seen b=0↔(jR n b.1∧jR n b.2.1)∧b.1≠b.2.1∧gV b∉seen.map gV∧0<b.2.2:=by
 unfold fL;rw[<-Rat.not_le];by_cases h:jR n b.1∧jR n b.2.1
 ·rw[if_pos h];by_cases h2:b.1=b.2.1
  ·rw[if_pos h2];exact⟨(fun e=>by cases e),fun e=>absurd h2 e.2.1⟩
  ·rw[aK h2];by_cases h3:gV b∈seen.map gV
   ·rw[if_pos h3];exact⟨(fun e=>by cases e),fun e=>absurd h3 e.2.2.1⟩
   ·rw[aK h3];by_cases h4:b.2.2<=0
    ·rw[if_pos h4];exact⟨(fun e=>by cases e),fun e=>absurd h4 e.2.2.2⟩
    ·rw[aK h4];exact⟨fun _=>⟨h,h2,h3,h4⟩,fun _=>rfl⟩
 ·rw[aK h];exact⟨(fun e=>by cases e),fun e=>absurd e.1 h⟩
theorem rQ{s:Int×Int×Rat}:kv n seen s=0↔jR n s.1∧(0<=s.2.1∧s.2.1<=2)∧iu s∉seen.map iu∧0<=s.2.2:=by
 unfold kv;rw[<-Rat.not_lt];by_cases h:jR n s.1<;>by_cases h2:0<=s.2.1∧s.2.1<=2<;>by_cases h3:iu s∈seen.map iu<;>by_cases h4:s.2.2<0<;>simp only[h,h2,h3,h4]<;>simp
theorem Hi:jq n x=0↔jR n x.1∧nX x.2.1∧nX x.2.2.1∧nX x.2.2.2:=by
 unfold jq;split<;>rename_i h
 ·split<;>rename_i h2<;>simp[h,h2]
 ·simp[h]
theorem wL(h:eJ f=0):(f.nodes.length<=20∧f.bars.length<=60∧f.cV.length<=60)∧eO fE [] f.nodes=0∧eO (fL f.nodes.length) [] f.bars=0∧eO (kv f.nodes.length) [] f.cV=0:=by
 unfold eJ at h;split at h<;>rename_i h1
 ·cases h
 ·split at h<;>rename_i h2
  ·exact absurd h h2
  ·split at h<;>rename_i h3
   ·exact absurd h h3
   ·exact⟨by omega,by simpa using h2,by simpa using h3,h⟩
theorem kA(h:eJ f=0):vM f:=by
 obtain⟨⟨h1,h2,h3⟩,hn,hb,hs⟩:=wL h;refine⟨fun p hp=>?_,fun b Q3=>?_,fun s Tl=>?_,h1,h2,h3⟩
 ·obtain⟨k,hk⟩:=aR hp;exact(te.1 (ga hn k p hk)).1
 ·obtain⟨k,hk⟩:=aR Q3;exact(np.1 (ga hb k b hk)).1
 ·obtain⟨k,hk⟩:=aR Tl;have:=rQ.1 (ga hs k s hk);exact⟨this.1,this.2.1⟩
theorem zL(h:lE n l=0):nB n l:=by
 unfold lE at h;split at h<;>rename_i h1
 ·cases h
 ·refine⟨by omega,fun x hx=>?_⟩;obtain⟨k,hk⟩:=aR hx;exact Hi.1 (ga h k x hk)
theorem pF(h:lM f l=0):eJ f=0∧lE f.nodes.length l=0:=by
 unfold lM at h;split at h<;>rename_i h1
 ·exact absurd h h1
 ·exact⟨by simpa using h1,h⟩
theorem lh(n:Int)(w:World):eD PG N.qY #[.int .i64 n,.int .i64 1000000] w (eG w fun v' _=>∃d,v'= .bool d∧(d=true↔nX n)):=by
 have hw:=bR w;refine vE (by simp) ?_;refine⟨-1000000,by decide,?_⟩;refine dI.mk ?_ ?_<;>intro h1
 ·intro ρe we re;have h1:=aI h1;exact⟨_,rfl,hw.tr re.cQ,_,rfl,by rw[decide_eq_true_iff];exact⟨fun h=>⟨h1,h⟩,fun h=>h.2⟩⟩
 ·intro ρe we re;have h1:=aH h1;exact⟨_,rfl,hw.tr re.cQ,_,rfl,(fun h=>by cases h),fun h=>absurd h.1 h1⟩
theorem Hj(n:Int)(w:World)(an ab aq:Option Addr)(ln cn nb cb nq cq:Nat):eD PG N.xq #[.agg #[.slice an ln cn,.slice ab nb cb,.slice aq nq cq],.int .i64 n] w (eG w fun v' _=>∃d,v'= .bool d∧(d=true↔jR ln n)):=by
 have hw:=bR w;refine BB (by simp) ?_;refine dI.mk ?_ ?_<;>intro h1
 ·intro ρe we re;have h1:=aI h1;exact⟨_,rfl,hw.tr re.cQ,_,rfl,by rw[decide_eq_true_iff];exact⟨fun h=>⟨h1,h⟩,fun h=>h.2⟩⟩
 ·intro ρe we re;have h1:=aH h1;exact⟨_,rfl,hw.tr re.cQ,_,rfl,(fun h=>by cases h),fun h=>absurd h.1 h1⟩
theorem E5(x y0 y1 y2:Int)(n:Nat)(w:World):eD PG N.mo #[.agg #[.int .i64 x,.int .i64 y0,.int .i64 y1,.int .i64 y2],.int .i64 n] w (eG w fun v' _=>v'= .int .i64 (jq n (x,y0,y1,y2))):=by
 have hw:=bR w;refine qe (by simp) ?_;refine dI.mk ?_ ?_<;>intro h1
 ·have h1:=aI h1;exact rtn hw fun ρe we re=>by show Value.int .i64 _=_;rw[jq,aK (by unfold jR;omega)]
 have h1:=aH h1;refine dI.mk ?_ ?_<;>intro h2
 ·have h2:=aI h2;exact rtn hw fun ρe we re=>by show Value.int .i64 _=_;rw[jq,aK (by unfold jR;omega)]
 have h2:=aH h2;have hh:jR n x:=by unfold jR;omega
 refine cD (cE hw (fun _ w' v w2=>∃d,v= .bool d∧(d=true↔nX y0)) (fun O w' r=>lh _ w') ?_);rintro O _ _ _ OP r he hw h_ ⟨d0,rfl,OT⟩
 cases d0
 ·have OT:¬nX y0:=fun h=>by have:=OT.2 h;cases this
  exact rtn hw fun ρe we re=>by show Value.int .i64 _=_;rw[jq,if_pos hh,aK (fun h=>OT h.1)]
 replace OT:=OT.1 rfl;refine cD (cE hw (fun _ w' v w2=>∃d,v= .bool d∧(d=true↔nX y1)) (fun O w' r=>lh _ w') ?_);rintro O _ _ _ ON r he hw h_ ⟨d1,rfl,OV⟩
 cases d1
 ·have OV:¬nX y1:=fun h=>by have:=OV.2 h;cases this
  exact rtn hw fun ρe we re=>by show Value.int .i64 _=_;rw[jq,if_pos hh,aK (fun h=>OV h.2.1)]
 replace OV:=OV.1 rfl;refine cD (cE hw (fun _ w' v w2=>∃d,v= .bool d∧(d=true↔nX y2)) (fun O w' r=>lh _ w') ?_);rintro O _ _ _ OU r he hw h_ ⟨d2,rfl,Ot⟩
 cases d2
 ·have Ot:¬nX y2:=fun h=>by have:=Ot.2 h;cases this
  exact rtn hw fun ρe we re=>by show Value.int .i64 _=_;rw[jq,if_pos hh,aK (fun h=>Ot h.2.2)]
 replace Ot:=Ot.1 rfl;exact rtn hw fun ρe we re=>by show Value.int .i64 _=_;rw[jq,if_pos hh,if_pos ⟨OT,OV,Ot⟩]
theorem sW(hS:Old S w)(hl:fu w S vl l):eD PG N.mL #[vl,.int .i64 n] w (eG w fun v' _=>v'= .int .i64 (lE n l)):=by
 have hw:=bR w;obtain⟨al,cl,rfl,PQ,Qg⟩:=hl.shape;unfold maxLen at Qg;refine p8 (by simp) ?_;refine dI.mk ?_ ?_<;>intro h1
 ·have h1:=aI h1;exact rtn hw fun ρe we re=>by show Value.int .i64 _=_;rw[lE,if_pos (by omega)]
 have h1:=aH h1
 refine⟨Nat×World×Iv,fun z=>⟨[(1,iZ n),(11,sV al l.length cl),(12,iZ l.length),(13,iN z.1)],[],0,z.2.2,z.2.1⟩,fun z=>l.length-z.1,
  fun z=>z.1<=l.length∧dm w.heap.size w z.2.1∧lE n l=eO (fun _=>jq n) (l.take z.1) (l.drop z.1),?_,?_⟩
 ·intro O w' r3;exact⟨(0,w',[]),⟨aO _,hw.tr r3.cQ,by rw[lE,aK (by omega)];rfl⟩,Sub.gn [] r3⟩
 rintro⟨i,w1,iv⟩ ⟨hi,hw,hE⟩;dsimp only at hi hw hE ⊢;refine dI.mk ?_ ?_<;>intro OI
 ·have OI:i<l.length:=by simpa using OI
  obtain⟨x,hx⟩:∃x,l[i]? =some x:=⟨_,aB OI⟩
  obtain⟨adx,cs,PS,hP,-,Oo⟩:=hl.load (by decide) hx;have hP:cs=[.int .i64 x.1,.int .i64 x.2.1,.int .i64 x.2.2.1,.int .i64 x.2.2.2]:=hP;subst hP;refine⟨adx,PS,by omega,[.int .i64 x.1,.int .i64 x.2.1,.int .i64 x.2.2.1,.int .i64 x.2.2.2],rfl,rdO Oo hw hS,?_⟩;refine cD (cE hw (fun _ w' v w2=>v= .int .i64 (jq n x)) (fun O w' r=>E5 _ _ _ _ n w') ?_);rintro O _ _ _ OP r he hw h_ rfl;obtain⟨c,hc⟩:∃c,jq n x=c:=⟨_,rfl⟩
  rw[hc];refine dI.mk ?_ ?_<;>intro hd
  ·have hd:c≠0:=by simpa using hd
   exact rtn hw fun ρe we re=>by show Value.int .i64 _=_;rw[hE,cU hx hc hd]
  have hd:c=0:=by simpa using hd
  rw[hd]at hc;rw[ff hx hc]at hE;refine⟨((i+1:Nat):Int),wo,?_⟩;intro ρ3 w6 r3;exact⟨(i+1,w6,_),⟨OI,hw.tr r3.cQ,hE⟩,Sub.gn [] r3,by dsimp only;omega⟩
 have OI:i=l.length:=aP hi (by simpa using OI);rw[gv (by omega)]at hE;exact rtn hw fun ρe we re=>by show Value.int .i64 _=_;rw[hE]
theorem fS{cs:Array Value}(h:cs[j]? =some v)(w:World):(part T.int cs j).run PG w= .ok v w:=by
 have:=(hτ T.int _ rfl).isAgg w;simp only[part,Sem.run_bind,this,Result.andThen]
 simp[h]
theorem eq_int(d:Nat)(a b:Int)(w:World):(Op.equalIn (d+1) T.int (.int .i64 a) (.int .i64 b)).run PG w= .ok (a==b) w:=by
 unfold Op.equalIn;simp[run_underlying ((hτ T.int _ rfl).i1 rfl)]
theorem NR(p0 p1 p2 q0 q1 q2:Int)(w:World):(Op.equal T.Node (.agg #[.int .i64 p0,.int .i64 p1,.int .i64 p2]) (.agg #[.int .i64 q0,.int .i64 q1,.int .i64 q2])).run PG w= .ok (decide (p0=q0∧p1=q1∧p2=q2)) w:=by
 have h:=run_underlying Tryz.underlying169;simp only[Op.equal,Op.maxDepth]
 unfold Op.equalIn;have a0:=fS (cs:= #[Value.int .i64 p0,Value.int .i64 p1,Value.int .i64 p2]) (j:=0) rfl;have a1:=fS (cs:= #[Value.int .i64 p0,Value.int .i64 p1,Value.int .i64 p2]) (j:=1) rfl;have a2:=fS (cs:= #[Value.int .i64 p0,Value.int .i64 p1,Value.int .i64 p2]) (j:=2) rfl;have b0:=fS (cs:= #[Value.int .i64 q0,Value.int .i64 q1,Value.int .i64 q2]) (j:=0) rfl;have b1:=fS (cs:= #[Value.int .i64 q0,Value.int .i64 q1,Value.int .i64 q2]) (j:=1) rfl;have b2:=fS (cs:= #[Value.int .i64 q0,Value.int .i64 q1,Value.int .i64 q2]) (j:=2) rfl;simp[h,a0,a1,a2,b0,b1,b2,eq_int 9998];by_cases h0:p0=q0
 ·by_cases h1:p1=q1
  ·by_cases h2:p2=q2<;>simp[h0,h1,h2]
  ·simp[h0,h1]
 ·simp[h0]
theorem NS(p0 p1 q0 q1:Int)(w:World):(Op.equal T.Dz (.agg #[.int .i64 p0,.int .i64 p1]) (.agg #[.int .i64 q0,.int .i64 q1])).run PG w= .ok (decide (p0=q0∧p1=q1)) w:=by
 have h:=run_underlying Tryz.underlying187;simp only[Op.equal,Op.maxDepth]
 unfold Op.equalIn;have a0:=fS (cs:= #[Value.int .i64 p0,Value.int .i64 p1]) (j:=0) rfl;have a1:=fS (cs:= #[Value.int .i64 p0,Value.int .i64 p1]) (j:=1) rfl;have b0:=fS (cs:= #[Value.int .i64 q0,Value.int .i64 q1]) (j:=0) rfl;have b1:=fS (cs:= #[Value.int .i64 q0,Value.int .i64 q1]) (j:=1) rfl;simp[h,a0,a1,b0,b1,eq_int 9998];by_cases h0:p0=q0
 ·by_cases h1:p1=q1<;>simp[h0,h1]
 ·simp[h0]
abbrev DM(p:Int×Int×Int):Value:=.agg #[.int .i64 p.1,.int .i64 p.2.1,.int .i64 p.2.2]
theorem GR(p q:Int×Int×Int)(w:World)(o1 o2:Operand):(do eqGuard .eql T.Node o1 o2 (DM p) (DM q);binOp .eql T.Node (DM p) (DM q)).run PG w= .ok (.bool (decide (p=q))) w:=by
 have h:=NR p.1 p.2.1 p.2.2 q.1 q.2.1 q.2.2 w;simp[eqGuard,binOp,h];obtain⟨a,b,c⟩:=p;obtain⟨a2,b2,c2⟩:=q;by_cases h0:a=a2
 ·by_cases h1:b=b2
  ·by_cases h2:c=c2<;>simp[h0,h1,h2]
  ·simp[h0,h1]
 ·simp[h0]
def oJ(k:Int×Int):Value:=.agg #[.int .i64 k.1,.int .i64 k.2]
theorem qn{a b:Int×Int}(h:oJ a=oJ b):a=b:=by
 unfold oJ at h;injection h with h;have h1:=congrArg (fun x=>x[0]?) h;have h2:=congrArg (fun x=>x[1]?) h;simp at h1 h2;exact Prod.ext h1 h2
theorem KC(d:Nat)(a:Int)(em:Bool)(w:World):(Instr.checkKey em (d+1) T.int (.int .i64 a)).run PG w= .ok () w:=by
 unfold Instr.checkKey;simp[run_underlying ((hτ T.int _ rfl).i1 rfl)]
theorem Hk(p0 p1:Int)(em:Bool)(w:World):(Instr.checkKey em 10000 T.Dz (.agg #[.int .i64 p0,.int .i64 p1])).run PG w= .ok () w:=by
 have h:=run_underlying Tryz.underlying187;have a0:=fS (cs:= #[Value.int .i64 p0,Value.int .i64 p1]) (j:=0) rfl;have a1:=fS (cs:= #[Value.int .i64 p0,Value.int .i64 p1]) (j:=1) rfl;unfold Instr.checkKey;simp[h,a0,a1,KC 9998]
theorem zM:Kn PG T.Dz (fun v=>∃k,v=oJ k) where
 desc:=⟨_,Tryz.underlying187⟩
 check:=fun w em v ⟨k,e⟩=>by subst e;exact Hk k.1 k.2 em w
 eq:=fun w a b ⟨p,e1⟩ ⟨q,e2⟩=>by
  subst e1 e2;refine⟨_,NS p.1 p.2 q.1 q.2 w,?_⟩;rw[decide_eq_true_iff];exact⟨fun h=>by rw[show p=q from Prod.ext h.1 h.2],fun h=>by have:=qn h;subst this;exact⟨rfl,rfl⟩⟩
theorem vN:PG.underlying T.yT=some (.map T.Dz T.bool):=Tryz.underlying185
theorem DN(w:World):(zeroValue T.bool).run PG w= .ok (.bool false) w:=by kernel_rfl
theorem MD(ad:Option Addr)(k:Nat):ad.map (·.add (0*k))=ad:=by
 rw[Nat.zero_mul]
 cases ad with
 |none=>rfl
 |some a=>simp only[Option.map_some,Option.some.injEq];unfold Addr.add;split<;>simp_all
theorem eN.take{α:Type}{k:Nat}{P:World->(Nat->Prop)->List Value->α->Prop}{c:Nat}{xs:List α}(h:eN k P w S (.slice a n c) xs){i:Nat}(hi:i<=xs.length):
  eN k P w S (.slice a i c) (xs.take i):=by
 obtain⟨css,⟨h0,h1,h2,a',c',e,h3,h4⟩,hl,hlk,hf⟩:=h;injection e with e1 e2 e3;subst e1 e2 e3;have hlen:(css.take i).length=i:=by rw[aW,hl];omega
 have hli:(xs.take i).length=i:=by rw[aW];omega
 have Uz:css.flatten=(css.take i).flatten++(css.drop i).flatten:=by rw[<-List.flatten_append,List.take_append_drop]
 refine⟨css.take i,⟨by omega,?_,fun u hu=>h2 u (by rw[Uz];exact List.mem_append_left _ hu),a,c,by rw[hli],by omega,fun j u hj=>h4 j u ?_⟩,by rw[hlen,hli],fun cs hc=>hlk cs (List.mem_of_mem_take hc),fun j cs x k1 k2=>?_⟩
 ·rw[jo fun cs hc=>hlk cs (List.mem_of_mem_take hc),hlen,hli]
 ·rw[Uz,aL (aD.1 hj).1];exact hj
 ·have hj:=(aD.1 k1).1;rw[hlen]at hj;rw[bV hj]at k1 k2;exact hf j cs x k1 k2
theorem nS.cI{w2:World}(h:nS w S v xs)(hk:∀g,S g->w2.heap[g]? =w.heap[g]?):nS w2 S v xs:=eN.cI (w:=w) (fun _ _ h=>h) h hk
theorem E6(hS:Old S w)(hn:nS w S vn xs)(p:Int×Int×Int):eD PG N.fz #[vn,DM p] w (eG w fun v' _=>∃r,v'= .int .i64 r∧(-1<=r)∧(0<=r↔p∈xs)):=by
 have hw:=bR w;obtain⟨an,cn,rfl,hcn,Qj⟩:=hn.shape;unfold maxLen at Qj;refine ij (by simp) ?_
 refine⟨Nat×World,fun z=>⟨[(0,sV an xs.length cn),(3,pP 0 0),(7,iZ xs.length),(8,iN z.1)],[(0,.box T.Node [.v (.int .i64 p.1),.v (.int .i64 p.2.1),.v (.int .i64 p.2.2)])],1,[],z.2⟩,fun z=>xs.length-z.1,
  fun z=>z.1<=xs.length∧dm w.heap.size w z.2∧(p∈xs↔p∈xs.drop z.1),?_,?_⟩
 ·intro O w' r3;exact⟨(0,w'),⟨aO _,hw.tr r3.cQ,Iff.rfl⟩,Sub.gn [] r3⟩
 rintro⟨i,w1⟩ ⟨hi,hw,hE⟩;dsimp only at hi hw hE ⊢;refine dI.mk ?_ ?_<;>intro OI
 ·have OI:i<xs.length:=by simpa using OI
  obtain⟨q,hx⟩:∃x,xs[i]? =some x:=⟨_,aB OI⟩
  have hdr:xs.drop i=q::xs.drop (i+1):=by rw[List.drop_eq_getElem_cons OI,(aD.1 hx).2]
  obtain⟨adx,cs,PS,hP,-,Oo⟩:=hn.load (by decide) hx;have hP:cs=[.int .i64 q.1,.int .i64 q.2.1,.int .i64 q.2.2]:=hP;subst hP;refine iz hτ da (.x 1 (.x 2 (.x 3 (.ld 0 32 (.ld 4 32 (.x 5 .nil)))))) (by kernel_rfl) (by kernel_rfl) ?_;refine⟨adx,PS,by omega,[.int .i64 q.1,.int .i64 q.2.1,.int .i64 q.2.2],rfl,rdO Oo hw hS,decide (p=q),fun O w o1 o2=>GR p q w o1 o2,?_⟩;refine dI.mk ?_ ?_<;>intro hd
  ·have hd:p=q:=aI hd;exact rtn hw fun ρe we re=>⟨_,rfl,by omega,iff_of_true (by omega) (hE.2 (by rw[hdr,hd];exact aG))⟩
  have hd:p≠q:=aH hd;rw[hdr,List.mem_cons,or_iff_right hd]at hE;refine⟨((i+1:Nat):Int),wo,?_⟩;intro ρ3 w6 r3;exact⟨(i+1,w6),⟨OI,hw.tr r3.cQ,hE⟩,Sub.gn [] r3,by dsimp only;omega⟩
 have OI:i=xs.length:=aP hi (by simpa using OI);rw[OI,List.drop_length]at hE;exact rtn hw fun ρe we re=>⟨_,rfl,by omega,iff_of_false (by omega) fun h=>by cases hE.1 h⟩
theorem yp(hS:Old S w)(hn:nS w S vn xs)(p:Int×Int×Int):eD PG N.fX #[vn,DM p] w (eG w fun v' _=>∃d,v'= .bool d∧(d=true↔p∈xs)):=by
 have hw:=bR w;obtain⟨an,cn,rfl,hcn,Qj⟩:=hn.shape;refine iO (by simp) ?_;refine cD (cE hw (fun _ w' v w2=>∃r,v= .int .i64 r∧(-1<=r)∧(0<=r↔p∈xs)) (fun O w' r=>E6 (p:=p) (oS hS r) (nS.cI hn (kS hw r hS))) ?_);rintro O _ _ _ OP r he hw h_ ⟨r0,rfl,hr0,Sn⟩;exact rtn hw fun ρe we re=>⟨_,rfl,by rw[decide_eq_true_iff];exact Sn⟩
def yq(w:World)(S:Nat->Prop)(g:Nat)(ks:List Value):Prop:=S g∧FG w g ks
section
variable{S:Nat->Prop}{H:Hp}{nx:Nat}{iv iv':Iv}{B:Nat}{w w' w2:World}{O:Nat->Sx.di}{g:Nat}{ks:List Value}
theorem yq.rel(h:yq w (Cv S B iv) g ks)(r:Rel H nx iv B w O w')(hS:∀g,S g->g<B):yq w' (Cv S B iv) g ks:=⟨h.1,h.2.cI (Rel.same r hS h.1)⟩
theorem yq.cG(h:yq w (Cv S B iv) g ks)(r:Rel H nx iv B w O w')(hS:∀g,S g->g<B)(he:Ext w' w2)(hm:∀p,p∈iv->p∈iv'):yq w2 (Cv S B iv') g ks:=
 ⟨h.1.mono hm,(h.rel r hS).2.cI (he.block g (Rel.old r hS g h.1))⟩
end
set_option maxHeartbeats 2000000 in
theorem BT(hS:Old S w)(hf:dT w S vn vb vs f):eD PG N.sG #[.agg #[vn,vb,vs]] w (eG w fun v' _=>v'= .int .i64 (eJ f)):=by
 have hw:=bR w;obtain⟨an,cn,ab,cb,aq,cq,rfl,rfl,rfl,Qj,RJ,R6⟩:=hf.shape;obtain⟨_,_,hsh,hcn,_⟩:=hf.nodes.shape;injection hsh with e1 e2 e3;subst e1 e3;refine wW (by simp) ?_;refine dI.mk ?_ ?_<;>intro h0
 ·have h0:=aI h0;exact rtn hw fun ρe we re=>by show Value.int .i64 _=_;rw[eJ,if_pos (by omega)]
 have h0:=aH h0;refine dI.mk ?_ ?_<;>intro h1
 ·have h1:=aI h1;exact rtn hw fun ρe we re=>by show Value.int .i64 _=_;rw[eJ,if_pos (by omega)]
 have h1:=aH h1;refine dI.mk ?_ ?_<;>intro h2
 ·have h2:=aI h2;exact rtn hw fun ρe we re=>by show Value.int .i64 _=_;rw[eJ,if_pos (by omega)]
 have h2:=aH h2
 refine⟨Nat×World×Iv,fun z=>⟨[(1,pP 0 0),(30,sV an f.nodes.length cn),(31,iZ f.nodes.length),(32,iN z.1)],[(0,.box T.Frame [.v (.slice an f.nodes.length cn),.v (.slice ab f.bars.length cb),.v (.slice aq f.cV.length cq)])],1,z.2.2,z.2.1⟩,fun z=>f.nodes.length-z.1,
  fun z=>z.1<=f.nodes.length∧dm w.heap.size w z.2.1∧eO fE [] f.nodes=eO fE (f.nodes.take z.1) (f.nodes.drop z.1),?_,?_⟩
 ·intro O w' r3;exact⟨(0,w',[]),⟨aO _,hw.tr r3.cQ,rfl⟩,Sub.gn [] r3⟩
 rintro⟨i,w1,iv⟩ ⟨hi,hw,hE⟩;dsimp only at hi hw hE ⊢;refine dI.mk ?_ ?_<;>intro OI
 ·have OI:i<f.nodes.length:=by simpa using OI
  obtain⟨q,hx⟩:∃x,f.nodes[i]? =some x:=⟨_,aB OI⟩
  obtain⟨adx,cs,PS,hP,-,Oo⟩:=hf.nodes.load (by decide) hx;have hP:cs=[.int .i64 q.1,.int .i64 q.2.1,.int .i64 q.2.2]:=hP;subst hP;refine⟨adx,PS,by omega,[.int .i64 q.1,.int .i64 q.2.1,.int .i64 q.2.2],rfl,rdO Oo hw hS,?_⟩;refine cD (cE hw (fun _ w' v w2=>∃d,v= .bool d∧(d=true↔nX q.1)) (fun O w' r=>lh _ w') ?_);rintro O QA v1 Pg OP r he hw h_ ⟨d0,rfl,OT⟩
  cases d0
  ·have OT:¬nX q.1:=fun h=>by have:=OT.2 h;cases this
   exact rtn hw fun ρe we re=>by show Value.int .i64 _=_;rw[eJ,aK (by omega),if_pos (by rw[hE,cU hx (show fE (f.nodes.take i) q=2 by rw[fE,aK (fun h=>OT h.1)]) (by decide)];decide),hE,cU hx (show fE (f.nodes.take i) q=2 by rw[fE,aK (fun h=>OT h.1)]) (by decide)]
  replace OT:=OT.1 rfl;refine cD (cE hw (fun _ w' v w2=>∃d,v= .bool d∧(d=true↔nX q.2.1)) (fun O w' r=>lh _ w') ?_);rintro O QB v2 PI ON r he hw h_ ⟨d1,rfl,OV⟩
  cases d1
  ·have OV:¬nX q.2.1:=fun h=>by have:=OV.2 h;cases this
   exact rtn hw fun ρe we re=>by show Value.int .i64 _=_;rw[eJ,aK (by omega),if_pos (by rw[hE,cU hx (show fE (f.nodes.take i) q=2 by rw[fE,aK (fun h=>OV h.2.1)]) (by decide)];decide),hE,cU hx (show fE (f.nodes.take i) q=2 by rw[fE,aK (fun h=>OV h.2.1)]) (by decide)]
  replace OV:=OV.1 rfl;refine cD (cE hw (fun _ w' v w2=>∃d,v= .bool d∧(d=true↔nX q.2.2)) (fun O w' r=>lh _ w') ?_);rintro O PX v3 PT OU r he hw h_ ⟨d2,rfl,Ot⟩
  cases d2
  ·have Ot:¬nX q.2.2:=fun h=>by have:=Ot.2 h;cases this
   exact rtn hw fun ρe we re=>by show Value.int .i64 _=_;rw[eJ,aK (by omega),if_pos (by rw[hE,cU hx (show fE (f.nodes.take i) q=2 by rw[fE,aK (fun h=>Ot h.2.2)]) (by decide)];decide),hE,cU hx (show fE (f.nodes.take i) q=2 by rw[fE,aK (fun h=>Ot h.2.2)]) (by decide)]
  replace Ot:=Ot.1 rfl;refine iz hτ da (.x 0 (.x 2 (.ld 1 104 (.x 3 (.ld 4 96 (.x 5 (.x 6 .nil))))))) (by kernel_rfl) (by kernel_rfl) ?_;refine⟨⟨by omega,by omega,by omega⟩,an,i,cn,by rw[show ((0:Int).toNat*3)=0*3 from rfl,MD];split<;>rfl,by simp,by simp,?_⟩;refine cE hw (fun _ w' v w2=>∃d,v= .bool d∧(d=true↔q∈f.nodes.take i)) (fun O w' r=>yp (p:=q) (oS hS r) (nS.cI (hf.nodes.take (Nat.le_of_lt OI)) (kS hw r hS))) ?_;rintro O _ _ _ OW r he hw h_ ⟨d3,rfl,hz3⟩
  cases d3
  ·have hz3:q∉f.nodes.take i:=fun h=>by have:=hz3.2 h;cases this
   rw[ff hx (te.2 ⟨⟨OT,OV,Ot⟩,hz3⟩)]at hE;refine⟨((i+1:Nat):Int),wo,?_⟩;intro ρ3 w6 r3;exact⟨(i+1,w6,_),⟨OI,hw.tr r3.cQ,hE⟩,Sub.gn [] r3,by dsimp only;omega⟩
  replace hz3:=hz3.1 rfl;exact rtn hw fun ρe we re=>by show Value.int .i64 _=_;rw[eJ,aK (by omega),if_pos (by rw[hE,cU hx (show fE (f.nodes.take i) q=12 by rw[fE,if_pos ⟨OT,OV,Ot⟩,if_pos hz3]) (by decide)];decide),hE,cU hx (show fE (f.nodes.take i) q=12 by rw[fE,if_pos ⟨OT,OV,Ot⟩,if_pos hz3]) (by decide)]
 have OI:i=f.nodes.length:=aP hi (by simpa using OI);rw[gv (by omega)]at hE;refine xW (fun O wa wb r hM0 hg Om=>?_);have PN:=(hw.tr r.cQ).tr (dm.grown hg (fun x e=>by cases e) r.cF);have hB:w.heap.size<=wa.heap.size:=r.cF;have hM:yq wb (Cf w ((wa.heap.size,wa.heap.size+1)::iv)) wa.heap.size []:=⟨.inr ⟨hB,_,_,aG,aF _,b9 _⟩,hM0⟩
 generalize (wa.heap.size,wa.heap.size+1)::iv=ON at*
 obtain⟨gm,hgm⟩:∃gm,wa.heap.size=gm:=⟨_,rfl⟩
 rw[hgm]at hM ⊢;have hw:=PN
 refine⟨Nat×World×Iv,fun z=>⟨[(1,pP 0 0),(5,.o (.v (.map (some gm)))),(64,sV ab f.bars.length cb),(65,iZ f.bars.length),(66,iN z.1)],[(0,.box T.Frame [.v (.slice an f.nodes.length cn),.v (.slice ab f.bars.length cb),.v (.slice aq f.cV.length cq)])],1,z.2.2,z.2.1⟩,fun z=>f.bars.length-z.1,
  fun z=>z.1<=f.bars.length∧dm w.heap.size w z.2.1∧eO (fL f.nodes.length) [] f.bars=eO (fL f.nodes.length) (f.bars.take z.1) (f.bars.drop z.1)∧yq z.2.1 (Cf w z.2.2) gm ((f.bars.take z.1).map fun b=>oJ (gV b)),?_,?_⟩
 ·intro O w' r3;exact⟨(0,w',ON),⟨aO _,hw.tr r3.cQ,rfl,hM.rel r3 (cC w)⟩,Sub.gn [] r3⟩
 rintro⟨i,w1,iv⟩ ⟨hi,hw,Oh,hM⟩;dsimp only at hi hw Oh hM ⊢;refine dI.mk ?_ ?_<;>intro OI
 ·have OI:i<f.bars.length:=by simpa using OI
  obtain⟨b,hx⟩:∃b,f.bars[i]? =some b:=⟨_,aB OI⟩
  obtain⟨adb,cs,Py,hF,-,Oq⟩:=hf.bars.load (by decide) hx;obtain⟨g0,g1,g2,g3,g4,g5,g6,g7,rfl,hF⟩:=hF;refine⟨adb,Py,by omega,[.int .i64 b.1,.int .i64 b.2.1,.bool g0,.slice g1 g2 g3,.bool g4,.slice g5 g6 g7],rfl,rdO Oq hw hS,?_⟩;refine cD (cE hw (fun _ w' v w2=>∃d,v= .bool d∧(d=true↔jR f.nodes.length b.1)) (fun O w' r=>Hj _ w' _ _ _ _ _ _ _ _ _) ?_);rintro O QA v1 Pg OP r he hw h_ ⟨d0,rfl,OT⟩;replace hM:=hM.cG r (cC w) he (mC h_)
  cases d0
  ·have OT:¬jR f.nodes.length b.1:=fun h=>by have:=OT.2 h;cases this
   exact rtn hw fun ρe we re=>by show Value.int .i64 _=_;rw[eJ,aK (by omega),aK (by rw[hE];decide),if_pos (by rw[Oh,cU hx (show fL f.nodes.length (f.bars.take i) b=6 by rw[fL,aK (fun h=>OT h.1)]) (by decide)];decide),Oh,cU hx (show fL f.nodes.length (f.bars.take i) b=6 by rw[fL,aK (fun h=>OT h.1)]) (by decide)]
  replace OT:=OT.1 rfl;refine cD (cE hw (fun _ w' v w2=>∃d,v= .bool d∧(d=true↔jR f.nodes.length b.2.1)) (fun O w' r=>Hj _ w' _ _ _ _ _ _ _ _ _) ?_);rintro O QB v2 PI ON r he hw h_ ⟨d1,rfl,OV⟩;replace hM:=hM.cG r (cC w) he (mC h_)
  cases d1
  ·have OV:¬jR f.nodes.length b.2.1:=fun h=>by have:=OV.2 h;cases this
   exact rtn hw fun ρe we re=>by show Value.int .i64 _=_;rw[eJ,aK (by omega),aK (by rw[hE];decide),if_pos (by rw[Oh,cU hx (show fL f.nodes.length (f.bars.take i) b=6 by rw[fL,aK (fun h=>OV h.2)]) (by decide)];decide),Oh,cU hx (show fL f.nodes.length (f.bars.take i) b=6 by rw[fL,aK (fun h=>OV h.2)]) (by decide)]
  replace OV:=OV.1 rfl;refine dI.mk ?_ ?_<;>intro PU
  ·have PU:b.1=b.2.1:=by simpa using PU
   exact rtn hw fun ρe we re=>by show Value.int .i64 _=_;rw[eJ,aK (by omega),aK (by rw[hE];decide),if_pos (by rw[Oh,cU hx (show fL f.nodes.length (f.bars.take i) b=3 by rw[fL,if_pos ⟨OT,OV⟩,if_pos PU]) (by decide)];decide),Oh,cU hx (show fL f.nodes.length (f.bars.take i) b=3 by rw[fL,if_pos ⟨OT,OV⟩,if_pos PU]) (by decide)]
  have PU:b.1≠b.2.1:=by simpa using PU
  refine z7 zM vN DN rfl rfl (key:=oJ (gV b)) (fun _=>rfl) ⟨_,rfl⟩ (fun k hk=>by obtain⟨x,_,rfl⟩:=aT.1 hk;exact⟨_,rfl⟩) (fun O w' r=>(hM.rel r (cC w)).2) (fun O w' d r hd=>?_);replace hw:=hw.tr r.cQ;replace hM:=hM.rel r (cC w);replace hd:d=true↔gV b∈(f.bars.take i).map gV:=by
   rw[hd];constructor
   ·intro h;obtain⟨x,h1,h2⟩:=aT.1 h;exact aT.2 ⟨x,h1,qn h2⟩
   ·intro h;obtain⟨x,h1,h2⟩:=aT.1 h;exact aT.2 ⟨x,h1,congrArg oJ h2⟩
  cases d
  ·have QW:gV b∉(f.bars.take i).map gV:=fun h=>by have:=hd.2 h;cases this
   refine cD (cE hw (fun _ w' v w2=>v= .int .i64 (rs b.2.2)) (fun O w' r=>(xB (oS hS r) (hF.v.cI (kS hw r hS)) (eS.zero (S:=S)).v).mono fun _ _ ⟨v2,e1,e2,e3⟩=>⟨v2,e1,e2,by rw[e3,jn]⟩) ?_);rintro O _ _ _ OU r he hw h_ rfl;replace hM:=hM.cG r (cC w) he (mC h_);obtain⟨cf,hcf⟩:∃c,rs b.2.2=c:=⟨_,rfl⟩
   rw[hcf];refine dI.mk ?_ ?_<;>intro PM
   ·have PM:b.2.2<=0:=by have:=aI PM;rw[<-Rat.not_lt,<-k6];omega
    exact rtn hw fun ρe we re=>by show Value.int .i64 _=_;rw[eJ,aK (by omega),aK (by rw[hE];decide),if_pos (by rw[Oh,cU hx (show fL f.nodes.length (f.bars.take i) b=2 by rw[fL,if_pos ⟨OT,OV⟩,aK PU,aK QW,if_pos PM]) (by decide)];decide),Oh,cU hx (show fL f.nodes.length (f.bars.take i) b=2 by rw[fL,if_pos ⟨OT,OV⟩,aK PU,aK QW,if_pos PM]) (by decide)]
   ·have PM:0<b.2.2:=by have:=aH PM;rw[<-k6];omega
    refine sA zM vN rfl rfl (key:=oJ (gV b)) (fun _=>rfl) rfl ⟨_,rfl⟩ (fun k hk=>by obtain⟨x,_,rfl⟩:=aT.1 hk;exact⟨_,rfl⟩) (fun h=>by
     obtain⟨x,h1,h2⟩:=aT.1 h
     exact QW (aT.2 ⟨x,h1,qn h2⟩)) (fun O w' r=>⟨(hM.rel r (cC w)).2,Rel.not r (cC w) hM.1⟩) (fun O wa wb r hM2 hg Om=>?_)
    replace hw:=(hw.tr r.cQ).tr (dm.grown hg (fun x e=>by injection e with e;subst e;exact hM.1.elim (fun h=>h.elim) fun h=>h.1) r.cF);rw[show ((f.bars.take i).map fun b=>oJ (gV b))++[oJ (gV b)]=(f.bars.take (i+1)).map fun b=>oJ (gV b) by rw[List.take_add_one,hx];simp]at hM2;replace hM:yq wb (Cf w OU) gm ((f.bars.take (i+1)).map fun b=>oJ (gV b)):=⟨hM.1,hM2⟩
    rw[ff hx (np.2 ⟨⟨OT,OV⟩,PU,QW,PM⟩)]at Oh;refine⟨((i+1:Nat):Int),wo,?_⟩;intro ρ3 w6 r3;exact⟨(i+1,w6,_),⟨OI,hw.tr r3.cQ,Oh,hM.rel r3 (cC w)⟩,Sub.gn [] r3,by dsimp only;omega⟩
  ·have hd:=hd.1 rfl;exact rtn hw fun ρe we re=>by show Value.int .i64 _=_;rw[eJ,aK (by omega),aK (by rw[hE];decide),if_pos (by rw[Oh,cU hx (show fL f.nodes.length (f.bars.take i) b=5 by rw[fL,if_pos ⟨OT,OV⟩,aK PU,if_pos hd]) (by decide)];decide),Oh,cU hx (show fL f.nodes.length (f.bars.take i) b=5 by rw[fL,if_pos ⟨OT,OV⟩,aK PU,if_pos hd]) (by decide)]
 have OI:i=f.bars.length:=aP hi (by simpa using OI);rw[gv (by omega)]at Oh;have UY:=Oh;refine xW (fun O wa wb r hM0 hg Om=>?_);have PN:=(hw.tr r.cQ).tr (dm.grown hg (fun x e=>by cases e) r.cF);have hB:w.heap.size<=wa.heap.size:=r.cF;have hM:yq wb (Cf w ((wa.heap.size,wa.heap.size+1)::iv)) wa.heap.size []:=⟨.inr ⟨hB,_,_,aG,aF _,b9 _⟩,hM0⟩
 generalize (wa.heap.size,wa.heap.size+1)::iv=ON at*
 obtain⟨gm,hgm⟩:∃gm,wa.heap.size=gm:=⟨_,rfl⟩
 rw[hgm]at hM ⊢;have hw:=PN
 refine⟨Nat×World×Iv,fun z=>⟨[(1,pP 0 0),(9,.o (.v (.map (some gm)))),(115,sV aq f.cV.length cq),(116,iZ f.cV.length),(117,iN z.1)],[(0,.box T.Frame [.v (.slice an f.nodes.length cn),.v (.slice ab f.bars.length cb),.v (.slice aq f.cV.length cq)])],1,z.2.2,z.2.1⟩,fun z=>f.cV.length-z.1,
  fun z=>z.1<=f.cV.length∧dm w.heap.size w z.2.1∧eO (kv f.nodes.length) [] f.cV=eO (kv f.nodes.length) (f.cV.take z.1) (f.cV.drop z.1)∧yq z.2.1 (Cf w z.2.2) gm ((f.cV.take z.1).map fun b=>oJ (iu b)),?_,?_⟩
 ·intro O w' r3;exact⟨(0,w',ON),⟨aO _,hw.tr r3.cQ,rfl,hM.rel r3 (cC w)⟩,Sub.gn [] r3⟩
 rintro⟨i,w1,iv⟩ ⟨hi,hw,Oh,hM⟩;dsimp only at hi hw Oh hM ⊢;refine dI.mk ?_ ?_<;>intro OI
 ·have OI:i<f.cV.length:=by simpa using OI
  obtain⟨b,hx⟩:∃b,f.cV[i]? =some b:=⟨_,aB OI⟩
  obtain⟨adb,cs,Py,hF,-,Oq⟩:=hf.cV.load (by decide) hx;obtain⟨g0,g1,g2,g3,g4,g5,g6,g7,rfl,hF⟩:=hF;refine⟨adb,Py,by omega,[.int .i64 b.1,.int .i64 b.2.1,.bool g0,.slice g1 g2 g3,.bool g4,.slice g5 g6 g7],rfl,rdO Oq hw hS,?_⟩;refine cD (cE hw (fun _ w' v w2=>∃d,v= .bool d∧(d=true↔jR f.nodes.length b.1)) (fun O w' r=>Hj _ w' _ _ _ _ _ _ _ _ _) ?_);rintro O _ _ _ OP r he hw h_ ⟨d0,rfl,OT⟩;replace hM:=hM.cG r (cC w) he (mC h_)
  cases d0
  ·have OT:¬jR f.nodes.length b.1:=fun h=>by have:=OT.2 h;cases this
   exact rtn hw fun ρe we re=>by show Value.int .i64 _=_;rw[eJ,aK (by omega),aK (by rw[hE];decide),aK (by rw[UY];decide),Oh,cU hx (show kv f.nodes.length (f.cV.take i) b=6 by rw[kv,aK OT]) (by decide)]
  replace OT:=OT.1 rfl;refine dI.mk ?_ ?_<;>intro Sm
  ·have Sm:=aI Sm;exact rtn hw fun ρe we re=>by show Value.int .i64 _=_;rw[eJ,aK (by omega),aK (by rw[hE];decide),aK (by rw[UY];decide),Oh,cU hx (show kv f.nodes.length (f.cV.take i) b=2 by rw[kv,if_pos OT,aK (fun h=>by omega)]) (by decide)]
  have Sm:=aH Sm;refine dI.mk ?_ ?_<;>intro SD
  ·have SD:=aI SD;exact rtn hw fun ρe we re=>by show Value.int .i64 _=_;rw[eJ,aK (by omega),aK (by rw[hE];decide),aK (by rw[UY];decide),Oh,cU hx (show kv f.nodes.length (f.cV.take i) b=2 by rw[kv,if_pos OT,aK (fun h=>by omega)]) (by decide)]
  have SD:=aH SD;have PS:0<=b.2.1∧b.2.1<=2:=by omega
  refine z7 zM vN DN rfl rfl (key:=oJ (iu b)) (fun _=>rfl) ⟨_,rfl⟩ (fun k hk=>by obtain⟨x,_,rfl⟩:=aT.1 hk;exact⟨_,rfl⟩) (fun O w' r=>(hM.rel r (cC w)).2) (fun O w' d r hd=>?_);replace hw:=hw.tr r.cQ;replace hM:=hM.rel r (cC w);replace hd:d=true↔iu b∈(f.cV.take i).map iu:=by
   rw[hd];constructor
   ·intro h;obtain⟨x,h1,h2⟩:=aT.1 h;exact aT.2 ⟨x,h1,qn h2⟩
   ·intro h;obtain⟨x,h1,h2⟩:=aT.1 h;exact aT.2 ⟨x,h1,congrArg oJ h2⟩
  cases d
  ·have QW:iu b∉(f.cV.take i).map iu:=fun h=>by have:=hd.2 h;cases this
   refine cD (cE hw (fun _ w' v w2=>v= .int .i64 (rs b.2.2)) (fun O w' r=>(xB (oS hS r) (hF.v.cI (kS hw r hS)) (eS.zero (S:=S)).v).mono fun _ _ ⟨v2,e1,e2,e3⟩=>⟨v2,e1,e2,by rw[e3,jn]⟩) ?_);rintro O _ _ _ ON r he hw h_ rfl;replace hM:=hM.cG r (cC w) he (mC h_);obtain⟨cf,hcf⟩:∃c,rs b.2.2=c:=⟨_,rfl⟩
   rw[hcf];refine dI.mk ?_ ?_<;>intro PM
   ·have PM:b.2.2<0:=by have:=aI PM;rw[<-ja];omega
    exact rtn hw fun ρe we re=>by show Value.int .i64 _=_;rw[eJ,aK (by omega),aK (by rw[hE];decide),aK (by rw[UY];decide),Oh,cU hx (show kv f.nodes.length (f.cV.take i) b=2 by rw[kv,if_pos OT,if_pos PS,aK QW,if_pos PM]) (by decide)]
   ·have PM:0<=b.2.2:=by have:=aH PM;rw[<-Rat.not_lt,<-ja];omega
    refine sA zM vN rfl rfl (key:=oJ (iu b)) (fun _=>rfl) rfl ⟨_,rfl⟩ (fun k hk=>by obtain⟨x,_,rfl⟩:=aT.1 hk;exact⟨_,rfl⟩) (fun h=>by
     obtain⟨x,h1,h2⟩:=aT.1 h
     exact QW (aT.2 ⟨x,h1,qn h2⟩)) (fun O w' r=>⟨(hM.rel r (cC w)).2,Rel.not r (cC w) hM.1⟩) (fun O wa wb r hM2 hg Om=>?_)
    replace hw:=(hw.tr r.cQ).tr (dm.grown hg (fun x e=>by injection e with e;subst e;exact hM.1.elim (fun h=>h.elim) fun h=>h.1) r.cF);rw[show ((f.cV.take i).map fun b=>oJ (iu b))++[oJ (iu b)]=(f.cV.take (i+1)).map fun b=>oJ (iu b) by rw[List.take_add_one,hx];simp]at hM2;replace hM:yq wb (Cf w ON) gm ((f.cV.take (i+1)).map fun b=>oJ (iu b)):=⟨hM.1,hM2⟩
    rw[ff hx (rQ.2 ⟨OT,PS,QW,PM⟩)]at Oh;refine⟨((i+1:Nat):Int),wo,?_⟩;intro ρ3 w6 r3;exact⟨(i+1,w6,_),⟨OI,hw.tr r3.cQ,Oh,hM.rel r3 (cC w)⟩,Sub.gn [] r3,by dsimp only;omega⟩
  ·have hd:=hd.1 rfl;exact rtn hw fun ρe we re=>by show Value.int .i64 _=_;rw[eJ,aK (by omega),aK (by rw[hE];decide),aK (by rw[UY];decide),Oh,cU hx (show kv f.nodes.length (f.cV.take i) b=5 by rw[kv,if_pos OT,if_pos PS,if_pos hd]) (by decide)]
 have OI:i=f.cV.length:=aP hi (by simpa using OI);rw[gv (by omega)]at Oh;exact rtn hw fun ρe we re=>by show Value.int .i64 _=_;rw[eJ,aK (by omega),aK (by rw[hE];decide),aK (by rw[UY];decide),Oh]
theorem qo(hS:Old S w)(hf:dT w S vn vb vs f)(hl:fu w S vl l):eD PG N.mJ #[.agg #[vn,vb,vs],vl] w (eG w fun v' _=>v'= .int .i64 (lM f l)):=by
 have hw:=bR w;obtain⟨an,cn,ab,cb,aq,cq,rfl,rfl,rfl,Qj,RJ,R6⟩:=hf.shape;obtain⟨al,cl,rfl,PQ,Qg⟩:=hl.shape;refine pZ (by simp) ?_;refine cD (cE hw (fun _ w' v w2=>v= .int .i64 (eJ f)) (fun O w' r=>BT (oS hS r) (hf.cI (kS hw r hS))) ?_);rintro O _ _ _ OP r he hw h_ rfl;obtain⟨c,hc⟩:∃c,eJ f=c:=⟨_,rfl⟩
 rw[hc];refine dI.mk ?_ ?_<;>intro hd
 ·have hd:c≠0:=by simpa using hd
  exact rtn hw fun ρe we re=>by show Value.int .i64 _=_;rw[lM,if_pos (by rw[hc];exact hd),hc]
 have hd:c=0:=by simpa using hd
 refine cD (cE hw (fun _ w' v w2=>v= .int .i64 (lE f.nodes.length l)) (fun O w' r=>sW (oS hS r) (hl.cI (kS hw r hS))) ?_);rintro O _ _ _ ON r he hw h_ rfl;exact rtn hw fun ρe we re=>by show Value.int .i64 _=_;rw[lM,aK (by rw[hc,hd];decide)]
structure Calm(f:ew)(h:Nat):Prop where
 ok:vM f
 c0:0<f.cols
 b2:EZ (cP f) f.cols h
 a2:Ht (dS (cP f) f.cols).1 h
 st:lQ (cP f) f.cols=[]
 hh:3*h<=90000
structure aB4(f:ew)(l:List Ld)(h:Nat)(x:List Rat):Prop where
 ok:nB f.nodes.length l
 b1:EZ (kP (cP f) (cW (eh f l) (-1))) (f.cols+1) h
 x:od (cP f) (cW (eh f l) (-1)) f.cols=some x
theorem fg(f:ew)(l:List Ld):(eh f l).length=3*f.nodes.length:=by rw[eh,dM,aJ,k5]
theorem kE(a b:List Rat):(fR a b).length=a.length:=List.length_mapIdx ..
theorem aA3{r s:Nat}(h1:r*r<=n)(h2:n<(r+1)*(r+1))(h3:s*s<=n)(h4:n<(s+1)*(s+1)):r=s:=by
 rcases bs r s with h|h|h
 ·have:=Nat.mul_le_mul (show r+1<=s from h) (show r+1<=s from h);omega
 ·exact h
 ·have:=Nat.mul_le_mul (show s+1<=r from h) (show s+1<=r from h);omega
theorem NT(n:Nat)(w:World)(hn:n<4000000004000000001):eD PG N.ug #[.int .i64 n] w (eG w fun v' _=>∃r:Nat,v'= .int .i64 r∧r*r<=n∧n<(r+1)*(r+1)):=by
 have hw:=bR w;refine yj (by simp) ?_
 refine⟨Nat×Int×World,fun z=>⟨[(0,iZ n),(3,iN z.1),(4,iZ z.2.1)],[],0,[],z.2.2⟩,fun z=>(z.2.1-z.1).toNat,
  fun z=>(z.1:Int)<=z.2.1∧z.2.1<=2000000000∧dm w.heap.size w z.2.2∧z.1*z.1<=n∧(n:Int)<(z.2.1+1)*(z.2.1+1),?_,?_⟩
 ·intro O w' r3;exact⟨(0,2000000000,w'),⟨by simp,by simp,hw.tr r3.cQ,by simp,by dsimp only;omega⟩,Sub.gn [] r3⟩
 rintro⟨lo,hi,w1⟩ ⟨hlh,RX,hw,R4,Pf⟩;dsimp only at hlh RX hw R4 Pf ⊢;obtain⟨hi,rfl⟩:=Int.eq_ofNat_of_zero_le (show 0<=hi by omega);replace Pf:n<(hi+1)*(hi+1):=by
  have h:((hi:Int)+1)*((hi:Int)+1)=(((hi+1)*(hi+1):Nat):Int):=by push_cast;rfl
  rw[h]at Pf;omega
 refine dI.mk ?_ ?_<;>intro OI
 ·have OI:lo<hi:=by have:=aI OI;omega
  obtain⟨m,hm⟩:∃m,(lo+hi+1) / 2=m:=⟨_,rfl⟩
  have SK:lo<m:=by omega
  have UE:m<=hi:=by omega
  have SA:m*m<=2000000000*2000000000:=Nat.mul_le_mul (by omega) (by omega);refine⟨((lo+hi:Nat):Int),wo,((lo+hi+1:Nat):Int),wo,by decide,(m:Int),by rw[show ((lo+hi+1:Nat):Int).tdiv 2=(((lo+hi+1) / 2:Nat):Int)from rfl,hm,wrap64]<;>omega,((m*m:Nat):Int),by rw[wrap64]<;>push_cast<;>first|rfl|omega,?_⟩;refine dI.mk ?_ ?_<;>intro hd
  ·have hd:m*m<=n:=by have:=aI hd;omega
   intro ρ3 w6 r3;exact⟨(m,hi,w6),⟨by dsimp only;omega,RX,hw.tr r3.cQ,hd,by dsimp only;rw[show ((hi:Int)+1)*((hi:Int)+1)=(((hi+1)*(hi+1):Nat):Int) by push_cast;rfl];omega⟩,Sub.gn [] r3,by dsimp only;omega⟩
  ·have hd:n<m*m:=by have:=aH hd;omega
   have hu3:(lo:Int)<=((m-1:Nat):Int):=by omega
   have hu4:((m-1:Nat):Int)<=2000000000:=by omega
   have Tm:(n:Int)<(((m-1:Nat):Int)+1)*(((m-1:Nat):Int)+1):=by rw[show ((m-1:Nat):Int)+1=m by omega];exact_mod_cast hd
   refine⟨((m-1:Nat):Int),wo,?_⟩;intro ρ3 w6 r3;exact⟨(lo,((m-1:Nat):Int),w6),⟨hu3,hu4,hw.tr r3.cQ,R4,Tm⟩,Sub.gn [] r3,by dsimp only;omega⟩
 have OI:lo=hi:=by have:=aH OI;omega
 subst OI;exact rtn hw fun ρe we re=>⟨_,rfl,R4,Pf⟩
theorem NU(n:Int)(w:World):eD PG N.kp #[.int .i64 n] w (eG w fun v' _=>∃d,v'= .bool d∧(d=true↔0<=n∧n<=1000000)):=by
 have hw:=bR w;refine oE (by simp) ?_;refine dI.mk ?_ ?_<;>intro h1
 ·intro ρe we re;have h1:=aI h1;exact⟨_,rfl,hw.tr re.cQ,_,rfl,by rw[decide_eq_true_iff];exact⟨fun h=>⟨h1,h⟩,fun h=>h.2⟩⟩
 ·intro ρe we re;have h1:=aH h1;exact⟨_,rfl,hw.tr re.cQ,_,rfl,(fun h=>by cases h),fun h=>absurd h.1 h1⟩
theorem ME(sq st:Nat)(w:World)(h0:0<sq)(h1:st<=1000000):eD PG N.sM #[.int .i64 sq,.int .i64 st] w (eG w fun v' w2=>∃r:Nat,r*r<=st*st*1000*1000 / sq∧st*st*1000*1000 / sq<(r+1)*(r+1)∧cS w2 (Nf w w2) v' (Rat.divInt r 1000)):=by
 have hw:=bR w;have h2:st*st<=1000000*1000000:=Nat.mul_le_mul h1 h1;have h4:st*st*1000*1000 / sq<=st*st*1000*1000:=Nat.div_le_self _ _;obtain⟨m,hm⟩:∃m,st*st*1000*1000 / sq=m:=⟨_,rfl⟩
 refine wk (by simp) ?_;refine⟨((st*st:Nat):Int),by rw[wrap64]<;>push_cast<;>first|rfl|omega,((st*st*1000:Nat):Int),wo,((st*st*1000*1000:Nat):Int),wo,by omega,(m:Int),by rw[show ((st*st*1000*1000:Nat):Int).tdiv (sq:Int)=((st*st*1000*1000 / sq:Nat):Int)from rfl,hm,wrap64]<;>omega,?_⟩;refine cD (cE hw (fun _ w' v w2=>∃r:Nat,v= .int .i64 r∧r*r<=m∧m<(r+1)*(r+1)) (fun O w' r=>NT m w' (by omega)) ?_);rintro O _ _ _ OP r he hw h_ ⟨rt,rfl,Sn,Sf⟩;have hrt:rt<=2000000000:=by
  rcases aQ 2000000000 rt with h|h
  ·have:=Nat.mul_le_mul h h;omega
  ·exact h
 refine cD (cE hw (fun _ w' v w2=>∃r,v= .tuple #[r,.int .i64 0]∧cS w2 (Nf w' w2) r (Rat.divInt rt 1000)) (fun O w' r=>(Hl rt 1000 w' (by omega) (by omega) (by decide) (by decide)).mono fun _ _ ⟨v2,e1,e2,e3⟩=>⟨v2,e1,e2,e3.elim (fun k=>absurd k.1 (by decide)) fun h=>h.2⟩) ?_);rintro O _ _ _ ON r he hw h_ ⟨q1,rfl,k1⟩;have hd:=k1.dB (S:=FF) r.cF (mN h_);obtain⟨s2_0a,s2_0b,s2_0c,s2_0d,s2_0e,s2_0f,s2_0g,s2_0h,rfl⟩:=hd.shape;exact rtn hw fun ρe we re=>⟨rt,hm▸Sn,hm▸Sf,hd.out re (cC w)⟩
theorem Hm(sq st:Nat)(w:World)(h0:0<sq)(h2:sq<=20000000000000)(h1:st<=1000000):eD PG N.sI #[.int .i64 sq,.int .i64 st] w (eG w fun v' w2=>∃vr,∃r:Nat,v'= .tuple #[vr,.int .i64 0]∧r*r<=st*st*1000*1000 / sq∧st*st*1000*1000 / sq<(r+1)*(r+1)∧cS w2 (Nf w w2) vr (Rat.divInt r 1000)):=by
 have hw:=bR w;refine wY (by simp) ?_;refine dI.mk (fun k1=>absurd (aI k1) (by omega)) (fun _=>?_);refine dI.mk (fun k1=>absurd (aI k1) (by omega)) (fun _=>?_);refine cD (cE hw (fun _ w' v w2=>v= .bool true) (fun O w' r=>(NU st w').mono fun _ _ ⟨v2,e1,e2,d,e3,e4⟩=>⟨v2,e1,e2,by rw[e3,e4.2 ⟨by omega,by omega⟩]⟩) ?_);rintro O _ _ _ OP r he hw h_ rfl;refine cD (cE hw (fun _ w' v w2=>∃r:Nat,r*r<=st*st*1000*1000 / sq∧st*st*1000*1000 / sq<(r+1)*(r+1)∧cS w2 (Nf w' w2) v (Rat.divInt r 1000)) (fun O w' r=>ME sq st w' h0 h1) ?_);rintro O _ _ _ ON r he hw h_ ⟨rt,Sn,Sf,k1⟩;have hd:=k1.dB (S:=FF) r.cF (mN h_);obtain⟨s2_0a,s2_0b,s2_0c,s2_0d,s2_0e,s2_0f,s2_0g,s2_0h,rfl⟩:=hd.shape;exact rtn hw fun ρe we re=>⟨_,rt,rfl,Sn,Sf,hd.out re (cC w)⟩
set_option maxRecDepth 100000
def aBB(m:Nat):List Value:=[.int .i64 ((m / 3:Nat):Int),.int .i64 ((m % 3:Nat):Int),.bool false,.slice none 0 0,.bool false,.slice none 0 0]
def sX(m:Nat):List (List Value):=(List.range m).map aBB
theorem Hn{i k:Nat}(hk:k<3):(sX (3*i+k)).flatten++[.int .i64 (i:Int),.int .i64 (k:Int),.bool false,.slice none 0 0,.bool false,.slice none 0 0]=(sX (3*i+(k+1))).flatten:=by
 rw[sX,sX,<-Nat.add_assoc,bT,List.map_append,List.flatten_append];simp only[List.map_cons,List.map_nil,aBB,show(3*i+k) / 3=i by omega,show(3*i+k) % 3=k by omega]
 simp
theorem KD(m:Nat):(sX m).length=m:=by rw[sX,aJ,List.length_range]
theorem KE(m:Nat):∀cs∈sX m,cs.length=6:=fun cs hc=>by
 obtain⟨j,_,rfl⟩:=aT.1 hc;rfl
theorem eS.zeroV:eS w S (.agg #[.bool false,.slice none 0 0,.bool false,.slice none 0 0]) 0:=eS.zero
theorem xG(w:World):eD PG N.sJ #[] w (eG w fun v' w2=>∃vn vb vs,v'= .agg #[vn,vb,vs]∧dT w2 (Nf w w2) vn vb vs fb):=by
 have hw:=bR w;refine wZ (by simp) ?_;refine cD (cE hw (fun _ w' v w2=>cS w2 (Nf w' w2) v ((1:Int):Rat)) (fun O w' r=>kF 1 w' (by decide)) ?_);rintro O _ _ _ OP r he hw h_ hn;have hd:=hn.dB (S:=FF) r.cF (mN h_);obtain⟨A0,A1,A2,A3,A4,A5,A6,A7,rfl⟩:=hd.shape;conv=>whnf
 refine⟨Nat×World,fun z=>⟨[(0,pP 0 0),(2,pP 4 0),(3,iN z.1)],[(5,.vec T.zI 6 (sX (3*z.1)).flatten),(4,.box T.Frame [.s 2 0 3 3,.s 3 0 2 2,.w 5 (3*z.1)]),(3,.box T.Bar [.v (.int .i64 0),.v (.int .i64 2),.v (.bool A0),.v (.slice A1 A2 A3),.v (.bool A4),.v (.slice A5 A6 A7),.v (.int .i64 1),.v (.int .i64 2),.v (.bool A0),.v (.slice A1 A2 A3),.v (.bool A4),.v (.slice A5 A6 A7)]),(2,.box T.Node [.v (.int .i64 0),.v (.int .i64 0),.v (.int .i64 0),.v (.int .i64 0),.v (.int .i64 0),.v (.int .i64 4),.v (.int .i64 3),.v (.int .i64 0),.v (.int .i64 0)]),(0,.box T.Frame [.v (.slice none 0 0),.v (.slice none 0 0),.v (.slice none 0 0)])],6,OP,z.2⟩,fun z=>2-z.1,
  fun z=>z.1<=2∧dm w.heap.size w z.2∧cS z.2 (Cf w OP) (.agg #[.bool A0,.slice A1 A2 A3,.bool A4,.slice A5 A6 A7]) ((1:Int):Rat),?_,?_⟩
 ·intro O w' r;exact⟨(0,w'),⟨aO _,hw.tr r.cQ,hd.rel r (cC w)⟩,Sub.CF 4 2 T.zI 6 rfl rfl (by simp[jQ,SV.sc,At.sc,fP]) r fun ρ1 r1=>Sub.gn [] r1⟩
 rintro⟨i,w1⟩ ⟨hi,hw,hd⟩;dsimp only at hi hw hd ⊢;conv=>whnf
 refine dI.mk ?_ ?_<;>intro OI
 ·have OI:i<2:=by have:=aI OI;omega
  refine⟨Nat×World,fun z=>⟨[(0,pP 0 0),(2,pP 4 0),(3,iN i),(4,iN z.1)],[(5,.vec T.zI 6 (sX (3*i+z.1)).flatten),(4,.box T.Frame [.s 2 0 3 3,.s 3 0 2 2,.w 5 (3*i+z.1)]),(3,.box T.Bar [.v (.int .i64 0),.v (.int .i64 2),.v (.bool A0),.v (.slice A1 A2 A3),.v (.bool A4),.v (.slice A5 A6 A7),.v (.int .i64 1),.v (.int .i64 2),.v (.bool A0),.v (.slice A1 A2 A3),.v (.bool A4),.v (.slice A5 A6 A7)]),(2,.box T.Node [.v (.int .i64 0),.v (.int .i64 0),.v (.int .i64 0),.v (.int .i64 0),.v (.int .i64 0),.v (.int .i64 4),.v (.int .i64 3),.v (.int .i64 0),.v (.int .i64 0)]),(0,.box T.Frame [.v (.slice none 0 0),.v (.slice none 0 0),.v (.slice none 0 0)])],6,OP,z.2⟩,fun z=>3-z.1,
   fun z=>z.1<=3∧dm w.heap.size w z.2∧cS z.2 (Cf w OP) (.agg #[.bool A0,.slice A1 A2 A3,.bool A4,.slice A5 A6 A7]) ((1:Int):Rat),?_,?_⟩
  ·intro O w' r3;exact⟨(0,w'),⟨aO _,hw.tr r3.cQ,hd.rel r3 (cC w)⟩,Sub.gn [] r3⟩
  rintro⟨k,w3⟩ ⟨hk,hw,hd⟩;dsimp only at hk hw hd ⊢;refine dI.mk ?_ ?_<;>intro OL
  ·have OL:k<3:=by have:=aI OL;omega
   have hs:=Hn (i:=i) OL;have OY:=jo (KE (3*i+k));have Ro:=KD (3*i+k);refine .inl ?_;refine⟨by omega,by omega,by unfold maxLen;omega,((k+1:Nat):Int),wo,?_⟩;intro ρ3 w6 r3;exact⟨(k+1,w6),⟨OL,hw.tr r3.cQ,hd.rel r3 (cC w)⟩,Sub.gn [(5,7)] r3 ⟨by dsimp only;rw[<-hs];rfl,rfl,rfl,rfl,rfl,trivial⟩,by dsimp only;omega⟩
  have OL:k=3:=by have:=aH OL;omega
  subst OL;refine⟨((i+1:Nat):Int),wo,?_⟩;intro ρ3 w6 r3;exact⟨(i+1,w6),⟨OI,hw.tr r3.cQ,hd.rel r3 (cC w)⟩,Sub.gn [] r3,by dsimp only;omega⟩
 have OI:i=2:=by have:=aH OI;omega
 subst OI;refine .inl ?_;refine⟨by decide,by decide,by decide,?_⟩;intro ρe we re;have hN:∀{id:Nat} {bk:kN},dE _ id=some bk->(ρe id).nil=false->Nf w we (ρe id).g:=fun h hn=>by
  obtain⟨h1,h2⟩:=re.low _ _ h hn;exact .inr ⟨h1,h2⟩
 have hR:=hd.out re (cC w);have hL:eS we (Nf w we) (.agg #[.bool A0,.slice A1 A2 A3,.bool A4,.slice A5 A6 A7]) 1:=hR.l (by decide);refine⟨_,rfl,hw.tr re.cQ,_,_,_,rfl,?_,?_,?_⟩
 ·refine⟨[[.int .i64 0,.int .i64 0,.int .i64 0],[.int .i64 0,.int .i64 0,.int .i64 4],[.int .i64 3,.int .i64 0,.int .i64 0]],(re.lF (id:=2) (sz:=3) (n:=3) rfl rfl (by decide) (by repeat' first|refine List.forall_mem_cons.2 ⟨rfl,?_⟩|exact fun u hu=>absurd hu List.not_mem_nil)).cJ fun g hg=>by subst hg;exact hN (id:=2) rfl (re.nn 2 _ rfl (by intros;simp) (by simp)),rfl,by simp,fun j cs x h1 h2=>?_⟩;rcases j with _|_|_|j
  ·cases h1;cases h2;rfl
  ·cases h1;cases h2;rfl
  ·cases h1;cases h2;rfl
  ·cases h2
 ·refine⟨[[.int .i64 0,.int .i64 2,.bool A0,.slice A1 A2 A3,.bool A4,.slice A5 A6 A7],[.int .i64 1,.int .i64 2,.bool A0,.slice A1 A2 A3,.bool A4,.slice A5 A6 A7]],(re.lF (id:=3) (sz:=6) (n:=2) rfl rfl (by decide) (by repeat' first|refine List.forall_mem_cons.2 ⟨rfl,?_⟩|exact fun u hu=>absurd hu List.not_mem_nil)).cJ fun g hg=>by subst hg;exact hN (id:=3) rfl (re.nn 3 _ rfl (by intros;simp) (by simp)),rfl,by simp,fun j cs x h1 h2=>?_⟩;rcases j with _|_|j
  ·cases h1;cases h2;exact⟨_,_,_,_,_,_,_,_,rfl,hL⟩
  ·cases h1;cases h2;exact⟨_,_,_,_,_,_,_,_,rfl,hL⟩
  ·cases h2
 ·refine⟨sX 6++[[.int .i64 2,.int .i64 1,.bool false,.slice none 0 0,.bool false,.slice none 0 0]],?_,rfl,by decide,fun j cs x h1 h2=>?_⟩
  ·have h5:=re.iC (id:=7) (sz:=6) (m:=7) rfl (by decide) (by decide) (by decide) (by decide);rw[List.flatten_append];exact h5.cJ fun g hg=>.inr hg
  ·rcases j with _|_|_|_|_|_|_|j
   ·cases h1;cases h2;exact⟨_,_,_,_,_,_,_,_,rfl,eS.zeroV⟩
   ·cases h1;cases h2;exact⟨_,_,_,_,_,_,_,_,rfl,eS.zeroV⟩
   ·cases h1;cases h2;exact⟨_,_,_,_,_,_,_,_,rfl,eS.zeroV⟩
   ·cases h1;cases h2;exact⟨_,_,_,_,_,_,_,_,rfl,eS.zeroV⟩
   ·cases h1;cases h2;exact⟨_,_,_,_,_,_,_,_,rfl,eS.zeroV⟩
   ·cases h1;cases h2;exact⟨_,_,_,_,_,_,_,_,rfl,eS.zeroV⟩
   ·cases h1;cases h2;exact⟨_,_,_,_,_,_,_,_,rfl,eS.zeroV⟩
   ·cases h2
structure dU(w:World)(S:Nat->Prop)(css:List (List Value))(qs:List Rat):Prop where
 len:css.length=qs.length
 four:∀cs∈css,cs.length=4
 at_:∀(j:Nat) cs q,css[j]? =some cs->qs[j]? =some q->iB w S cs q
section
variable{S S':Nat->Prop}{H:Hp}{nx:Nat}{iv iv':Iv}{B:Nat}{w w' w2:World}{O:Nat->Sx.di}{css:List (List Value)}{qs:List Rat}
theorem dU.nil:dU w S [] []:=⟨rfl,fun _ h=>(by cases h),fun _ _ _ h=>by cases h⟩
theorem dU.cI(h:dU w S css qs)(hk:∀g,S g->w2.heap[g]? =w.heap[g]?):dU w2 S css qs:=⟨h.len,h.four,fun j cs q h1 h2=>by
 obtain⟨b,a,n,c,b2,a2,n2,c2,e,hr⟩:=h.at_ j cs q h1 h2
 exact⟨b,a,n,c,b2,a2,n2,c2,e,hr.cI hk⟩⟩
theorem dU.cJ(h:dU w S css qs)(hk:∀g,S g->S' g):dU w S' css qs:=⟨h.len,h.four,fun j cs q h1 h2=>by
 obtain⟨b,a,n,c,b2,a2,n2,c2,e,hr⟩:=h.at_ j cs q h1 h2
 exact⟨b,a,n,c,b2,a2,n2,c2,e,hr.cJ hk⟩⟩
theorem dU.rel(h:dU w (Cv S B iv) css qs)(r:Rel H nx iv B w O w')(hS:∀g,S g->g<B):dU w' (Cv S B iv) css qs:=h.cI fun _ hg=>Rel.same r hS hg
theorem dU.cG(h:dU w (Cv S B iv) css qs)(r:Rel H nx iv B w O w')(hS:∀g,S g->g<B)(he:Ext w' w2)(hm:∀p,p∈iv->p∈iv'):dU w2 (Cv S B iv') css qs:=
 ((h.rel r hS).cI fun g hg=>he.block g (Rel.old r hS g hg)).cJ fun _ hg=>hg.mono hm
theorem dU.push(h:dU w S css qs)(hc:iB w S cs q)(h4:cs.length=4):dU w S (css++[cs]) (qs++[q]):=by
 refine⟨by simp[h.len],fun x hx=>?_,fun j x p h1 h2=>?_⟩
 ·rcases bK.1 hx with hx|hx
  ·exact h.four x hx
  ·rw[bB.1 hx];exact h4
 ·rcases aQ j css.length with hi|hi
  ·rw[aL hi]at h1;rw[aL (by rw[<-h.len];exact hi)]at h2;exact h.at_ j x p h1 h2
  ·have Rp:j=css.length:=by have:=(aD.1 h1).1;simp at this;omega
   subst Rp;rw[aN (aF _),bL]at h1;rw[h.len,aN (aF _),bL]at h2;simp at h1 h2;subst h1 h2;exact hc
theorem dU.one(h:dU w S css qs):∀u∈css.flatten,u.oneCell'=true:=fun u hu=>by
 obtain⟨cs,hc,hu⟩:=List.mem_flatten.1 hu;obtain⟨j,hj⟩:=aR hc;obtain⟨_,_,_,_,_,_,_,_,rfl,_⟩:=h.at_ j cs _ hj (aB (by rw[<-h.len];exact(aD.1 hj).1));simp at hu;rcases hu with rfl|rfl|rfl|rfl<;>rfl
theorem dU.kD(h:dU w (Cv FF B iv) css qs)(r:Rel H nx iv B w O w')(Ox:dE H id=some (.vec T.Rat 4 css.flatten))(h0:0<css.length)(hm:css.length<=maxLen):
  df w' FF B [(B,w'.heap.size)] ((SV.o (.w id css.length)).den O) css.length qs:=by
 have h2:=h.rel r (gg B);obtain⟨k1,k2,k3,k4⟩:=aAz r Ox rfl h0 hm ⟨h2.len,h2.at_⟩;have Qv:(SV.o (.w id css.length)).den O= .slice (some ⟨(O id).g,0,none⟩) css.length (O id).cap:=by simp[SV.den,At.den,k1]
 rw[Qv];have key:∀g,Cv FF B iv g->Cv FF B [(B,w'.heap.size)] g:=fun g hg=>
  .inr ⟨hg.elim (fun h=>h.elim) fun h=>h.1,B,w'.heap.size,bB.2 rfl,hg.elim (fun h=>h.elim) fun h=>h.1,Rel.old r (gg B) g hg⟩
 refine⟨k4.cJ fun g hg=>⟨key g hg,fun e=>?_⟩,fun g hg=>?_⟩
 ·injection e with e;exact Rel.not r (gg B) hg id _ Ox k1 e
 ·injection hg with hg;subst hg;have:=(r.low id _ Ox k1).2;exact .inr ⟨k2,B,w'.heap.size,bB.2 rfl,k2,this⟩
theorem dU.list(h:dU w S css qs)(hs:gO w S 4 v css.flatten css.length):cN w S v qs:=⟨css,h.len▸hs,h.len,h.four,h.at_⟩
end
theorem GS{l:List Int}(hS:Old S w)(hl:oR w S v l)(hl0:0<l.length)(Pa:l.length<=1000)(hb:∀z∈l,z.natAbs<1073741824):
  eD PG N.u6 #[v] w (eG w fun v' w2=>df w2 FF w.heap.size [(w.heap.size,w2.heap.size)] v' l.length (dM l)):=by
 have hw:=bR w;obtain⟨al,cl,rfl,PQ,Qg⟩:=hl.shape;unfold maxLen at Qg;refine yZ (by simp) ?_
 refine⟨Nat×List (List Value)×World×Iv,fun z=>⟨[(0,sV al l.length cl),(3,.o (.w 0 z.2.1.length)),(4,iN z.1)],[(0,.vec T.Rat 4 z.2.1.flatten)],1,z.2.2.2,z.2.2.1⟩,fun z=>l.length-z.1,
  fun z=>z.1<=l.length∧dm w.heap.size w z.2.2.1∧dU z.2.2.1 (Cf w z.2.2.2) z.2.1 (dM (l.take z.1)),?_,?_⟩
 ·intro O w' r;exact⟨(0,[],w',[]),⟨aO _,hw.tr r.cQ,dU.nil⟩,Sub.nil 3 T.Rat 4 rfl (by simp[jQ,SV.sc,At.sc,fP]) r fun ρ1 r1=>Sub.gn [] r1⟩
 rintro⟨i,css,w1,iv⟩ ⟨hi,hw,hG⟩;dsimp only at hi hw hG ⊢;have OY:=eK hG.four;have R7:css.length=i:=by rw[hG.len,dM,aJ,aW];omega
 refine dI.mk ?_ ?_<;>intro OI
 ·have OI:i<l.length:=by simpa using OI
  obtain⟨z,hz⟩:∃z,l[i]? =some z:=⟨_,aB OI⟩
  have Sh:=hb z (aC hz);have Ph:dM (l.take (i+1))=dM (l.take i)++[(z:Rat)]:=by rw[dM,List.take_add_one,hz,List.map_append];rfl
  obtain⟨adx,PS,hSx,Oo⟩:=oR.at hl hz;refine⟨adx,PS,by omega,.int .i64 z,rd1 Oo hw (hS _ hSx),?_⟩;refine cD (cE hw (fun _ w' v w2=>cS w2 (Nf w' w2) v (z:Rat)) (fun O w' r=>kF z w' (by omega)) ?_);rintro O _ _ _ OP r he hw h_ hn;replace hG:=hG.cG r (cC w) he (mC h_);have hd:=hn.dB (S:=FF) r.cF (mN h_);obtain⟨A0,A1,A2,A3,A4,A5,A6,A7,rfl⟩:=hd.shape;have RZ:=hG.push (cs:=[.bool A0,.slice A1 A2 A3,.bool A4,.slice A5 A6 A7]) (q:=(z:Rat)) ⟨_,_,_,_,_,_,_,_,rfl,hd⟩ rfl;rw[<-Ph]at RZ;have Po:css.flatten++([.bool A0,.slice A1 A2 A3,.bool A4,.slice A5 A6 A7]:List Value)=(css++([[.bool A0,.slice A1 A2 A3,.bool A4,.slice A5 A6 A7]]:List (List Value))).flatten:=by simp
  refine .inl ?_;refine⟨by omega,by omega,by unfold maxLen;omega,((i+1:Nat):Int),wo,?_⟩;intro ρ3 w3 r3;exact⟨(i+1,css++[[.bool A0,.slice A1 A2 A3,.bool A4,.slice A5 A6 A7]],w3,_),⟨OI,hw.tr r3.cQ,RZ.rel r3 (cC w)⟩,Sub.gn [(0,2)] r3 ⟨by dsimp only;rw[<-Po];rfl,trivial⟩ ⟨rfl,by dsimp only;rw[List.length_append,List.length_singleton];rfl,rfl,trivial⟩,by dsimp only;omega⟩
 have OI:i=l.length:=aP hi (by simpa using OI);subst OI;rw[bG]at hG;intro ρe we re;refine⟨_,rfl,hw.tr re.cQ,?_⟩;have h5:=hG.kD re (id:=0) rfl (by omega) (by unfold maxLen;omega);have h6:css.length=l.length:=R7;rw[<-h6];exact h5
theorem dT.dB{w' w2:World}(h:dT w2 (Nf w' w2) vn vb vs f)(hB:B<=w'.heap.size)(hm:(w'.heap.size,w2.heap.size)∈iv):dT w2 (Cv FF B iv) vn vb vs f:=h.cJ fun _ hg=>hg.dB hB hm
abbrev Ho(a b c:Int):Value:=.agg #[.int .i64 a,.int .i64 b,.int .i64 c]
theorem aA5(p0 p1 p2 q0 q1 q2:Int)(w:World):(Op.equal T.Ae (Ho p0 p1 p2) (Ho q0 q1 q2)).run PG w= .ok (decide (p0=q0∧p1=q1∧p2=q2)) w:=by
 have h:=run_underlying Tryz.underlying68;simp only[Op.equal,Op.maxDepth]
 unfold Op.equalIn;have a0:=fS (cs:= #[Value.int .i64 p0,Value.int .i64 p1,Value.int .i64 p2]) (j:=0) rfl;have a1:=fS (cs:= #[Value.int .i64 p0,Value.int .i64 p1,Value.int .i64 p2]) (j:=1) rfl;have a2:=fS (cs:= #[Value.int .i64 p0,Value.int .i64 p1,Value.int .i64 p2]) (j:=2) rfl;have b0:=fS (cs:= #[Value.int .i64 q0,Value.int .i64 q1,Value.int .i64 q2]) (j:=0) rfl;have b1:=fS (cs:= #[Value.int .i64 q0,Value.int .i64 q1,Value.int .i64 q2]) (j:=1) rfl;have b2:=fS (cs:= #[Value.int .i64 q0,Value.int .i64 q1,Value.int .i64 q2]) (j:=2) rfl;simp[h,a0,a1,a2,b0,b1,b2,eq_int 9998];by_cases h0:p0=q0
 ·by_cases h1:p1=q1
  ·by_cases h2:p2=q2<;>simp[h0,h1,h2]
  ·simp[h0,h1]
 ·simp[h0]
theorem NV(p0 p1 p2 q0 q1 q2:Int)(w:World)(o1 o2:Operand):(do eqGuard .eql T.Ae o1 o2 (Ho p0 p1 p2) (Ho q0 q1 q2);binOp .eql T.Ae (Ho p0 p1 p2) (Ho q0 q1 q2)).run PG w= .ok (.bool (decide (p0=q0∧p1=q1∧p2=q2))) w:=by
 have h:=aA5 p0 p1 p2 q0 q1 q2 w;simp[eqGuard,binOp,h]
theorem Nx{H:Hp}{nx:Nat}{w':World}(r:Rel H nx iv B w O w'){l:List Int}(h:dE H id=some (.box T.int (l.map fun z=>At.v (.int .i64 z))))(hn:l.length=n)(hm:n<=maxLen):
  oR w' (fun g=>g=(O id).g) (.slice (some ⟨(O id).g,0,none⟩) n n) l:=by
 subst hn;have h5:=r.lF (sz:=1) (n:=l.length) h (by simp) hm (fun u hu=>by obtain⟨z,_,rfl⟩:=aT.1 hu;rfl);rw[List.map_map]at h5;exact h5
end Go.Ex
