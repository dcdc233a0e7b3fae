/- Texts X139 to X155: lemmas, each with its conditions. -/
import Derived.Test.YtgkpbdkechfgmaaGreatP13
namespace Go.Ex
open Go Go.Sx Go.Proofs
theorem Lf{α:Type}{rv:List α}{a b:α}{i m:Nat}(hl:rv.length=i)(h:i<m):(rv++List.replicate (m-i) b).take i++[a]++(rv++List.replicate (m-i) b).drop (i+1)=(rv++[a])++List.replicate (m-(i+1)) b:=by
 rw[List.take_left' hl,List.drop_append,hl,List.drop_of_length_le (by omega),List.nil_append,List.drop_replicate];congr 2;omega
end Go.Ex
namespace Go.Sx
open Go Go.Ex Go.Proofs
variable{cs:List Value}{O:Nat->Sx.dw}
theorem Rel.NJ{H:Hp}{nx:Nat}{iv:Iv}{B:Nat}{w w':World}(r:Rel H nx iv B w O w'){id t m sz:Nat}(h:dD H id=some (.arr t cs))(hm:cs.length=m*sz)(Qx:m<=maxLen)(h1:∀u∈cs,u.oneCell'=true):
  iR w' (fun g=>B<=g∧g<w'.heap.size) sz (.slice (some ⟨(O id).g,0,none⟩) m m) cs m:=by
 have hl:=r.low id _ h (r.fits h).1;refine⟨Qx,hm,h1,_,m,rfl,Nat.le_refl _,fun j u hu=>⟨_,rfl,hl,?_⟩⟩;rw[dI,cell_of (r.arr id _ _ h),aW];exact hu
end Go.Sx
namespace Go.Ex
open Go Go.Sx Go.Proofs
variable{d:Int}{b s:Int×Int×Rat}{M:List (List Int)}{l:List Int}{c r:Nat}{S:Nat->Prop}{f:eu}
theorem Ca:(tt M r c d).length=M.length:=bM ..
theorem Ja:(putAt M r c d).length=M.length:=bM ..
def HO(M:List (List Int))(t:Int):Prop:=∀l∈M,∀z∈l,-t<=z∧z<=t
theorem HO.set{t t2:Int}{z:Int}(h:HO M t)(ht:t<=t2)(hl:M[r]? =some l)(hz: -t2<=z∧z<=t2):HO (M.set r (l.set c z)) t2:=fun x hx y hy=>by
 rcases av hx with hx|rfl
 ·have:=h x hx y hy;omega
 ·rcases av hy with hy|rfl
  ·have:=h l (aD hl) y hy;omega
  ·exact hz
theorem Fj(f:eu):∀i,(dm f i).length=3*f.nodes.length
 |0=>bc ..
 |i+1=>by
  have h:=Fj f i;have key:∀k,(e9 f (dm f i) i k).length=3*f.nodes.length:=fun k=>by
   induction k with
   |zero=>exact h
   |succ k ih=>rw[e9,Ca,Ca];exact ih
  exact key 3
theorem nd(f:eu):∀i,(fN f i).length=3*f.nodes.length
 |0=>Fj f _
 |i+1=>by rw[fN,Ja];exact nd f i
theorem Lg{i k ka kb:Nat}{za zb:Int}{la lb:List Int}(hb:f.bars[i]? =some b)(ea:b.1=ka)(eb:b.2.1=kb)(hd:(s5 f b).getD k 0=d)
  (QM:(e9 f M i k)[3*ka+k]? =some la) (WL:la[i]? =some za) (PT:((e9 f M i k).set (3*ka+k) (la.set i (za+d)))[3*kb+k]? =some lb) (UY:lb[i]? =some zb):
  ((e9 f M i k).set (3*ka+k) (la.set i (za+d))).set (3*kb+k) (lb.set i (zb-d))=e9 f M i (k+1):=by
 have h1:f.bars.getD i (0,0,0)=b:=by rw[List.getD,hb];rfl
 have e1:(3*b.1+(k:Int)).toNat=3*ka+k:=by rw[ea];omega
 have e2:(3*b.2.1+(k:Int)).toNat=3*kb+k:=by rw[eb];omega
 have ha:tt (e9 f M i k) (3*ka+k) i d=(e9 f M i k).set (3*ka+k) (la.set i (za+d)):=by
  rw[tt,show(e9 f M i k).getD (3*ka+k) []=la by rw[List.getD,QM];rfl,show la.getD i 0=za by rw[List.getD,WL];rfl]
 rw[e9];simp only[h1,hd,e1,e2,ha]
 rw[tt,show((e9 f M i k).set (3*ka+k) (la.set i (za+d))).getD (3*kb+k) []=lb by rw[List.getD,PT];rfl,show lb.getD i 0=zb by rw[List.getD,UY];rfl,Int.sub_eq_add_neg]
theorem Fk{i ks:Nat}(hs:f.cY[i]? =some s)(es:3*s.1+s.2.1=ks)(hl:(fN f i)[ks]? =some l):(fN f i).set ks (l.set (f.bars.length+i) 1)=fN f (i+1):=by
 rw[fN,putAt];simp only[show f.cY.getD i (0,0,0)=s by rw[List.getD,hs];rfl,es,aF,show(fN f i).getD ks []=l by rw[List.getD,hl];rfl]
set_option maxHeartbeats 2000000 in
theorem Cb{w:World}{vn vb vs:Value}(hS:Old S w)(hf:eF w S vn vb vs f)(OZ:uh f):
  eG PG N.qP #[.agg #[vn,vb,vs]] w (eL w fun v' w2=>kV w2 (Nf w w2) v' (gY f)∧HO (gY f) 800000000∧(∀l∈gY f,l.length=f.cols)∧(gY f).length=3*f.nodes.length):=by
 have hw:=bR w;obtain⟨an,cn,ab,cb,aq,cq,rfl,rfl,rfl,RH,Re,SB⟩:=hf.shape;obtain⟨Ry,SK,SL⟩:=And.intro OZ.n (And.intro OZ.b OZ.s);refine u6 (by simp) ?_;refine⟨((3*f.nodes.length:Nat):Int),wo,?_⟩;obtain⟨m,hm⟩:∃m,3*f.nodes.length=m:=⟨_,rfl⟩
 rw[hm]
 refine⟨m,m,rfl,rfl,Nat.le_refl _,by omega,by omega,Nat×List Value×World×Iv,fun z=>⟨[(1,pP 0 0),(3,.o (.s 1 0 m m)),(17,iZ m),(18,iN z.1)],[(1,.arr T.Lint (z.2.1++List.replicate (m-z.1) (.slice none 0 0))),(0,.box T.Frame [.v (.slice an f.nodes.length cn),.v (.slice ab f.bars.length cb),.v (.slice aq f.cY.length cq)])],2,z.2.2.2,z.2.2.1⟩,fun z=>m-z.1,
  fun z=>z.1<=m∧z.2.1.length=z.1∧dq w.heap.size w z.2.2.1∧iS z.2.2.1 w.heap.size z.2.2.2 z.2.1 f.cols (List.replicate z.1 (List.replicate f.cols 0)),?_,?_⟩
 ·intro O w' r3;exact⟨(0,[],w',[]),⟨aR _,rfl,hw.tr r3.cU,iS.nil⟩,Sub.gn [] r3⟩
 rintro⟨i,rv,w1,iv⟩ ⟨hi,Pm,hw,hE⟩;dsimp only at hi Pm hw hE ⊢;refine dN.mk ?_ ?_<;>intro OU
 ·have OU:i<m:=by simpa using OU
  refine⟨((f.cols:Nat):Int),by rw[wrap64]<;>first|rfl|omega,f.cols,f.cols,rfl,rfl,Nat.le_refl _,by unfold eu.cols;omega,by unfold eu.cols;omega,by omega,?_⟩;refine Ir hτ (id:=1) (id2:=2) (tH:=[(1,.arr T.Lint (rv++List.replicate (m-i) (.slice none 0 0))),(0,.box T.Frame [.v (.slice an f.nodes.length cn),.v (.slice ab f.bars.length cb),.v (.slice aq f.cY.length cq)])]) rfl rfl (by decide) rfl ⟨rfl,rfl,trivial⟩ rfl (fun O w' r=>?_);have hn:=(r.fits (id:=2) rfl).1;have OV:w'.ownsRow 0 T.int 1 (.slice (some ⟨(O 2).g,0,none⟩) f.cols f.cols) f.cols ((List.replicate f.cols (0:Int)).map fun z=>.int .i64 z):=
   ⟨by simp,.inr ⟨(O 2).g,f.cols,(List.replicate f.cols (Value.int .i64 0)).toArray,rfl,aR _,r.arr 2 _ _ rfl,Nat.le_refl _,by unfold eu.cols maxLen;omega,by simp,by simp⟩⟩
  have PB:=(hE.rel r).push (gx:=(O 2).g) (l:=List.replicate f.cols 0) (fun g hg e=>Rel.not r (gq _) hg 2 _ rfl hn e.symm) (r.low 2 _ rfl hn).1 (by simp) OV;rw[<-List.replicate_succ']at PB;have Oz:=hw.tr r.cU;generalize (O 2).g=gx at*
  generalize (gx,gx+1)::iv=OX at*
  refine⟨by simp[Pm];omega,(rv++[.slice (some ⟨gx,0,none⟩) f.cols f.cols])++List.replicate (m-(i+1)) (.slice none 0 0),?_,?_⟩
  ·rw[aF,aZ,aW];exact Lf Pm OU
  refine⟨((i+1:Nat):Int),wo,?_⟩;intro ρ3 w3 r3;exact⟨(i+1,rv++[.slice (some ⟨gx,0,none⟩) f.cols f.cols],w3,_),⟨OU,by simp[Pm],Oz.tr r3.cU,PB.rel r3⟩,Sub.gn [] r3,by dsimp only;omega⟩
 have OU:i=m:=aU hi (by simpa using OU);subst OU;have hE0:iS w1 w.heap.size iv rv f.cols (dm f 0):=by rw[dm,hm];exact hE
 have Wh:HO (dm f 0) 0:=fun l hl z hz=>by
  rw[dm]at hl;rw[bJ hl]at hz;rw[bJ hz];exact⟨Int.le_refl _,Int.le_refl _⟩
 refine⟨Nat×World×Iv,fun z=>⟨[(1,pP 0 0),(3,.o (.s 1 0 i i)),(34,sV ab f.bars.length cb),(35,iZ f.bars.length),(36,iN z.1)],[(1,.arr T.Lint rv),(0,.box T.Frame [.v (.slice an f.nodes.length cn),.v (.slice ab f.bars.length cb),.v (.slice aq f.cY.length cq)])],2,z.2.2,z.2.1⟩,fun z=>f.bars.length-z.1,
  fun z=>z.1<=f.bars.length∧dq w.heap.size w z.2.1∧iS z.2.1 w.heap.size z.2.2 rv f.cols (dm f z.1)∧HO (dm f z.1) (12000000*z.1),?_,?_⟩
 ·intro O w' r3;exact⟨(0,w',_),⟨aR _,hw.tr r3.cU,hE0.rel r3,Wh⟩,Sub.gn [] r3 ⟨by simp;rfl,rfl,trivial⟩⟩
 rintro⟨j,w2,iv⟩ ⟨hj,hw,hE,Ow⟩;dsimp only at hj hw hE Ow ⊢;refine dN.mk ?_ ?_<;>intro Pt
 ·have Pt:j<f.bars.length:=by simpa using Pt
  obtain⟨b,hb⟩:∃b,f.bars[j]? =some b:=⟨_,aA Pt⟩
  obtain⟨hA,hB⟩:=OZ.Mv b (aD hb);obtain⟨ka,pa,ea,hka,-,Wf,⟨_,_⟩,⟨_,_⟩,⟨_,_⟩⟩:=OZ.node hA.1 hA.2;obtain⟨kb,pb,eb,Oc,-,Wg,⟨_,_⟩,⟨_,_⟩,⟨_,_⟩⟩:=OZ.node hB.1 hB.2;obtain⟨adb,cs,QP,hF,-,PT⟩:=hf.bars.load (by decide) hb;obtain⟨g0,g1,g2,g3,g4,g5,g6,g7,rfl,hF⟩:=hF;refine⟨adb,QP,by omega,[.int .i64 b.1,.int .i64 b.2.1,.bool g0,.slice g1 g2 g3,.bool g4,.slice g5 g6 g7],rfl,rdO PT hw hS,?_⟩;refine cH (cM (Φ:=fun _ w' v w2=>v= .agg #[.int .i64 ((f.node b.2.1).1-(f.node b.1).1),.int .i64 ((f.node b.2.1).2.1-(f.node b.1).2.1),.int .i64 ((f.node b.2.1).2.2-(f.node b.1).2.2)]) (fun O w' r=>Ba (S:=S) (oS hS r) (hf.cJ (kS hw r hS)).nodes OZ hA hB) ?_);rintro O QU v1 QJ r he Pa rfl;replace hw:=hw.tr Pa;replace hE:=hE.cK (iv':=(QU.heap.size,QJ.heap.size)::iv) r he fun x hx=>aC _ hx;generalize (QU.heap.size,QJ.heap.size)::iv=Og at*
  rw[Wf,Wg];have hbD:s5 f b=[pb.1-pa.1,pb.2.1-pa.2.1,pb.2.2-pa.2.2]:=by rw[s5,Wf,Wg]
  refine⟨Nat×World×Iv,fun z=>⟨[(1,pP 0 0),(3,.o (.s 1 0 i i)),(5,iN j),(6,pP 2 0),(43,.o (.v (.agg #[.int .i64 (pb.1-pa.1),.int .i64 (pb.2.1-pa.2.1),.int .i64 (pb.2.2-pa.2.2)]))),(34,sV ab f.bars.length cb),(35,iZ f.bars.length),(36,iN j),(44,iN z.1)],[(2,.box T.Bar [.v (.int .i64 b.1),.v (.int .i64 b.2.1),.v (.bool g0),.v (.slice g1 g2 g3),.v (.bool g4),.v (.slice g5 g6 g7)]),(1,.arr T.Lint rv),(0,.box T.Frame [.v (.slice an f.nodes.length cn),.v (.slice ab f.bars.length cb),.v (.slice aq f.cY.length cq)])],3,z.2.2,z.2.1⟩,fun z=>3-z.1,
   fun z=>z.1<=3∧dq w.heap.size w z.2.1∧iS z.2.1 w.heap.size z.2.2 rv f.cols (e9 f (dm f j) j z.1)∧HO (e9 f (dm f j) j z.1) (12000000*j+4000000*z.1),?_,?_⟩
  ·intro O w' r3;exact⟨(0,w',_),⟨aR _,hw.tr r3.cU,hE.rel r3,Ow⟩,Sub.gn [] r3⟩
  rintro⟨k,w3,iv⟩ ⟨hk,hw,hE,Ow⟩;dsimp only at hk hw hE Ow ⊢;refine dN.mk ?_ ?_<;>intro Oc
  ·have Oc:k<3:=by have:=aI Oc;omega
   obtain⟨d,hd⟩:∃d,(s5 f b).getD k 0=d:=⟨_,rfl⟩
   have hdb: -2000000<=d∧d<=2000000:=by
    rw[<-hd,hbD];rcases(show k=0∨k=1∨k=2 by omega)with rfl|rfl|rfl<;>simp[List.getD]<;>omega
   have hMl:(e9 f (dm f j) j k).length=3*f.nodes.length:=by rw[<-hE.len];have:=hE.len;omega
   have Pw:f.cols=f.bars.length+f.cY.length:=rfl;refine Ar hτ rfl rfl rfl (fun _=>rfl) rfl ⟨by omega,by omega⟩ (u:=.int .i64 d) ?_ (fun O w4 r=>?_)
   ·rw[<-hd,hbD,aF];rcases(show k=0∨k=1∨k=2 by omega)with rfl|rfl|rfl<;>rfl
   replace hw:=hw.tr r.cU;replace hE:=hE.rel r;obtain⟨la,QM⟩:∃l,(e9 f (dm f j) j k)[3*ka+k]? =some l:=⟨_,aA (by first|omega|(rw [bM];omega))⟩
   have hlaw:=hE.wid la (aD QM);obtain⟨za,WL⟩:∃z,la[j]? =some z:=⟨_,aA (by omega)⟩
   have hzab:=Ow la (aD QM) za (aD WL);obtain⟨va,UE⟩:∃v,rv[3*ka+k]? =some v:=⟨_,aA (by have:=(aE.1 QM).1;rw[hE.len];exact this)⟩
   obtain⟨aa5,ca5,rfl⟩:=hE.form UE;obtain⟨ada5,Ta,hxa1,hxa2⟩:=hE.load UE QM WL;refine⟨((3*ka:Nat):Int),by rw[ea,wrap64]<;>omega,((3*ka+k:Nat):Int),wo,by omega,.slice aa5 f.cols ca5,by rw[aF,aZ,aW];exact UE,ada5,Ta,by omega,.int .i64 za,fun O w' r=>?_,?_⟩
   ·rw[aF,cI (w:=w4) (w2:=w') (by rw[dC];exact Rel.same r (gq _) hxa1)];exact hxa2
   refine⟨za+d,wo,ada5,Ta,by omega,?_⟩;intro O w' r;obtain⟨g,hg,h1,h2,h3,h4⟩:=hE.store r (z:=za+d) UE QM (show j<f.cols by omega);rw[Ta]at hg;injection hg with hg;subst hg;refine⟨h1,h2,h3,fun w5 RP=>?_⟩;obtain⟨k1,k2,k3,-,-⟩:=h4 w5 RP;replace hw:=(hw.tr r.cU).tr k2;replace Ow:=Ow.set (r:=3*ka+k) (c:=j) (z:=za+d) (t2:=12000000*j+4000000*k+2000000) (by omega) QM (by omega);replace hE:=k1;obtain⟨lb,PT⟩:∃l,((e9 f (dm f j) j k).set (3*ka+k) (la.set j (za+d)))[3*kb+k]? =some l:=⟨_,aA (by first|omega|(rw [bM];omega))⟩
   have hlbw:=hE.wid lb (aD PT);obtain⟨zb,UY⟩:∃z,lb[j]? =some z:=⟨_,aA (by omega)⟩
   have hzbb:=Ow lb (aD PT) zb (aD UY);obtain⟨vb,VP⟩:∃v,rv[3*kb+k]? =some v:=⟨_,aA (by have:=(aE.1 PT).1;rw[hE.len];exact this)⟩
   obtain⟨ab5,cb5,rfl⟩:=hE.form VP;obtain⟨adb5,Tb,hxb1,hxb2⟩:=hE.load VP PT UY;refine⟨((3*kb:Nat):Int),by rw[eb,wrap64]<;>omega,((3*kb+k:Nat):Int),wo,by omega,.slice ab5 f.cols cb5,by rw[aF,aZ,aW];exact VP,adb5,Tb,by omega,.int .i64 zb,fun O w' r=>?_,?_⟩
   ·rw[aF,cI (w:=w5) (w2:=w') (by rw[dC];exact Rel.same r (gq _) hxb1)];exact hxb2
   refine⟨zb-d,wo,adb5,Tb,by omega,?_⟩;intro O w' r;obtain⟨g,hg,h1,h2,h3,h4⟩:=hE.store r (z:=zb-d) VP PT (show j<f.cols by omega);rw[Tb]at hg;injection hg with hg;subst hg;refine⟨h1,h2,h3,fun w5 RP=>?_⟩;obtain⟨k1,k2,k3,-,-⟩:=h4 w5 RP;replace hw:=(hw.tr r.cU).tr k2;replace Ow:=Ow.set (r:=3*kb+k) (c:=j) (z:=zb-d) (t2:=12000000*j+4000000*(k+1:Nat)) (by omega) PT (by omega);replace hE:=k1;rw[Lg hb ea eb hd QM WL PT UY]at hE Ow;refine⟨((k+1:Nat):Int),wo,?_⟩;intro ρ3 w6 r3;exact⟨(k+1,w6,_),⟨Oc,hw.tr r3.cU,hE.rel r3,Ow⟩,Sub.gn [] r3,by dsimp only;omega⟩
  have Oc:k=3:=by have:=aH Oc;omega
  subst Oc;refine⟨((j+1:Nat):Int),wo,?_⟩;intro ρ3 w6 r3;exact⟨(j+1,w6,_),⟨Pt,hw.tr r3.cU,hE.rel r3,fun l hl z hz=>by have:=Ow l hl z hz;dsimp only;omega⟩,Sub.gn [] r3,by dsimp only;omega⟩
 have Pt:j=f.bars.length:=aU hj (by simpa using Pt);subst Pt
 refine⟨Nat×World×Iv,fun z=>⟨[(1,pP 0 0),(3,.o (.s 1 0 i i)),(79,sV aq f.cY.length cq),(80,iZ f.cY.length),(81,iN z.1)],[(1,.arr T.Lint rv),(0,.box T.Frame [.v (.slice an f.nodes.length cn),.v (.slice ab f.bars.length cb),.v (.slice aq f.cY.length cq)])],2,z.2.2,z.2.1⟩,fun z=>f.cY.length-z.1,
  fun z=>z.1<=f.cY.length∧dq w.heap.size w z.2.1∧iS z.2.1 w.heap.size z.2.2 rv f.cols (fN f z.1)∧HO (fN f z.1) 800000000,?_,?_⟩
 ·intro O w' r3;exact⟨(0,w',_),⟨aR _,hw.tr r3.cU,hE.rel r3,fun l hl z hz=>by have:=Ow l hl z hz;omega⟩,Sub.gn [] r3⟩
 rintro⟨j,w2,iv⟩ ⟨hj,hw,hE,Ow⟩;dsimp only at hj hw hE Ow ⊢;refine dN.mk ?_ ?_<;>intro Pt
 ·have Pt:j<f.cY.length:=by simpa using Pt
  obtain⟨s,hs⟩:∃b,f.cY[j]? =some b:=⟨_,aA Pt⟩
  obtain⟨hA,hB⟩:=OZ.sup s (aD hs);obtain⟨ks,WM⟩:=Int.eq_ofNat_of_zero_le (show 0<=3*s.1+s.2.1 by omega);have Pw:f.cols=f.bars.length+f.cY.length:=rfl;have hMl:=nd f j;obtain⟨l,hl⟩:∃l,(fN f j)[ks]? =some l:=⟨_,aA (by omega)⟩
  have hlw:=hE.wid l (aD hl);obtain⟨v,hv⟩:∃v,rv[ks]? =some v:=⟨_,aA (by rw[hE.len];omega)⟩
  obtain⟨a5,c5,rfl⟩:=hE.form hv;obtain⟨z0,Ok⟩:∃z,l[f.bars.length+j]? =some z:=⟨_,aA (by omega)⟩
  obtain⟨ad5,ha5,-,-⟩:=hE.load hv hl Ok;obtain⟨adb,cs,QP,hF,-,PT⟩:=hf.cY.load (by decide) hs;obtain⟨g0,g1,g2,g3,g4,g5,g6,g7,rfl,hF⟩:=hF;refine⟨adb,QP,by omega,[.int .i64 s.1,.int .i64 s.2.1,.bool g0,.slice g1 g2 g3,.bool g4,.slice g5 g6 g7],rfl,rdO PT hw hS,?_⟩;refine cQ hτ dx [.x 0,.x 1,.x 2,.x 3,.x 4,.x 5,.x 6,.x 7,.x 8,.x 9,.x 10,.x 11,.x 12,.x 13,.x 14,.x 15] (by kernel_rfl) (by kernel_rfl) ?_;refine⟨3*s.1,wo,((ks:Nat):Int),wo,by omega,.slice a5 f.cols c5,by rw[aF,aZ,aW];exact hv,((f.bars.length+j:Nat):Int),wo,ad5,ha5,by omega,?_⟩;intro O w' r;obtain⟨g,hg,h1,h2,h3,h4⟩:=hE.store r (z:=1) hv hl (show f.bars.length+j<f.cols by omega);rw[ha5]at hg;injection hg with hg;subst hg;refine⟨h1,h2,h3,fun w5 RP=>?_⟩;obtain⟨k1,k2,k3,-,-⟩:=h4 w5 RP;replace hw:=(hw.tr r.cU).tr k2;have SM:=Ow.set (r:=ks) (c:=f.bars.length+j) (z:=1) (t2:=800000000) (by omega) hl (by omega);rw[Fk hs WM hl]at k1 SM;refine⟨((j+1:Nat):Int),wo,?_⟩;intro ρ3 w6 r3;exact⟨(j+1,w6,_),⟨Pt,hw.tr r3.cU,k1.rel r3,SM⟩,Sub.gn [] r3,by dsimp only;omega⟩
 have Pt:j=f.cY.length:=aU hj (by simpa using Pt);subst Pt;intro ρe we re;have PB:=hE.rel re;have hMl:=nd f f.cY.length;have SI:=hE.len;refine⟨_,rfl,hw.tr re.cU,⟨rv,?_,hE.len,fun i u x k1 k2=>?_⟩,Ow,hE.wid,by rw[<-hm];exact hMl⟩
 ·rw[show (gY f).length=rv.length from hE.len.symm];have h5:=re.NJ (id:=1) (sz:=1) (m:=rv.length) rfl (by simp) (by unfold maxLen;omega) hE.one;rw[show (i:Nat)=rv.length by omega];exact h5.cL fun g hg=>.inr hg
 ·obtain⟨a,c,rfl⟩:=hE.form k1;have QO:=hE.wid x (aD k2);refine⟨by rw[QO];unfold eu.cols maxLen;omega,by simp,fun v hv=>by obtain⟨z,_,rfl⟩:=aV.1 hv;rfl,a,c,by rw[QO],?_,fun t v hv=>?_⟩
  ·rw[QO];obtain⟨a2,c2,e,h⟩:=fF (hE.row i _ x k1 k2);injection e with e1 e2 e3;omega
  ·rw[aM]at hv
   cases ht:x[t]? with
   |none=>rw[ht]at hv;cases hv
   |some z=>
    rw[ht]at hv;simp only[bf,Option.some.injEq]at hv;subst hv;obtain⟨ad,h1,h2,h3⟩:=PB.load k1 k2 ht;exact⟨ad,h1,Cv.nw h2 re,by rw[aZ]at h3;exact h3⟩
end Go.Ex
namespace Go.Ex
open Go Go.Sx Go.Proofs
variable{z:Int}{p:Int×Int×Int}{b:Int×Int×Rat}{x:Ld}{xs:List (Int×Int×Int)}{seen:List (Int×Int×Rat)}{css:List (List Value)}{s:List Int}{l:List Ld}{qs:List Rat}{cs:List Value}{j n:Nat}{S:Nat->Prop}{a an:Option Addr}{q:Rat}{v vb vl vn vs:Value}{w:World}{f:eu}
theorem xY(f:eu):(cS f).length=3*f.nodes.length:=by rw[cS,aL];exact nd f _
theorem wL(h1: -2000000000<=z)(h2:z<=2000000000):rl (z:Rat)<=1:=by
 have e1:((z:Rat)).num=z:=rfl;have e2:((z:Rat)).den=1:=rfl;rw[rl,e1,e2];have a1:ln z.natAbs<=1:=gT.2 (by rw[vO];omega);have a2:ln 1<=1:=by decide
 omega
set_option maxHeartbeats 1000000 in
theorem oq(hS:Old S w)(hf:eF w S vn vb vs f)(OZ:uh f):
  eG PG N.pH #[.agg #[vn,vb,vs]] w (eL w fun v' w2=>(∃vr,v'= .agg #[vr,.int .i64 f.cols]∧cV w2 (Nf w w2) vr (cS f))∧gX f.cols (cS f)∧Ht (cS f) 2):=by
 have hw:=bR w;obtain⟨an,cn,ab,cb,aq,cq,rfl,rfl,rfl,RH,Re,SB⟩:=hf.shape;obtain⟨Ry,SK,SL⟩:=And.intro OZ.n (And.intro OZ.b OZ.s);have Pw:f.cols=f.bars.length+f.cY.length:=rfl;refine si (by simp) ?_;refine⟨((f.cols:Nat):Int),by rw[wrap64]<;>first|rfl|omega,?_⟩;refine cH (cM (Φ:=fun _ w' v w2=>kV w2 (Nf w' w2) v (gY f)∧HO (gY f) 800000000∧(∀l∈gY f,l.length=f.cols)∧(gY f).length=3*f.nodes.length) (fun O w' r=>Cb (S:=S) (oS hS r) (hf.cJ (kS hw r hS)) OZ) ?_);rintro O QU v1 QJ r he Pa ⟨k1,Ow,UZ,Qt⟩;replace hw:=hw.tr Pa;have hM:=kV.cL k1 fun g hg=>hg.dF (B:=w.heap.size) (S:=FF) r.cG (iv:=(QU.heap.size,QJ.heap.size)::[]) aG;generalize (QU.heap.size,QJ.heap.size)::[]=Og at*
 obtain⟨am,cm,rfl,Rt,Ra⟩:=cd.shape hM;unfold maxLen at Ra
 refine⟨Nat×List Value×World×Iv,fun z=>⟨[(20,iN z.1),(2,pP 1 0),(3,pP 2 0),(18,.o (.v (.slice am (gY f).length cm))),(19,.o (.v (.int .i64 (gY f).length)))],[(2,.box T.du [.w 3 z.2.1.length,.v (.int .i64 ((f.cols:Nat):Int))]),(3,.vec T.iQ 1 z.2.1),(1,.box T.du [.v (.slice none 0 0),.v (.int .i64 0)])],4,z.2.2.2,z.2.2.1⟩,fun z=>(gY f).length-z.1,
  fun z=>z.1<=(gY f).length∧dq w.heap.size w z.2.2.1∧kV z.2.2.1 (Cf w z.2.2.2) (.slice am (gY f).length cm) (gY f)∧de z.2.2.1 (Cf w z.2.2.2) z.2.1 ((cS f).take z.1),?_,?_⟩
 ·intro O w' r;exact⟨(0,[],w',_),⟨aR _,hw.tr r.cU,hM.cJ fun g hg=>Rel.same r (cF w) hg,by simp[de]⟩,Sub.Dk 2 0 T.iQ 1 rfl rfl (by simp[kF,SV.sc,At.sc,fm]) r fun ρ1 r1=>Sub.gn [] r1⟩
 rintro⟨k,rv,w1,iv⟩ ⟨hk,hw,hM,hK⟩;dsimp only at hk hw hM hK ⊢;have Pm:rv.length=k:=by rw[hK.1,ai,cS,aL];omega
 refine dN.mk ?_ ?_<;>intro Oc
 ·have Oc:k<(gY f).length:=by simpa using Oc
  obtain⟨l,hl⟩:∃l,(gY f)[k]? =some l:=⟨_,aA Oc⟩
  have hlw:=UZ l (aD hl);have Oi:(cS f).take (k+1)=(cS f).take k++[dH l]:=by rw[List.take_add_one,show(cS f)[k]? =some (dH l) by rw[cS,aM,hl];rfl];rfl
  obtain⟨adm,um,Qs,XR,km1,km2⟩:=cd.load hM hl;obtain⟨a0,c0,rfl,XQ,-⟩:=HN.shape XR;refine⟨adm,Qs,by omega,.slice a0 l.length c0,fun O w' r=>?_,?_⟩
  ·rw[aF,cI (w:=w1) (w2:=w') (by rw[dC];exact Rel.same r (cF w) km1)];exact km2
  refine⟨l.length,l.length,rfl,rfl,Nat.le_refl _,by omega,by omega,Nat×Nat×World×Iv,fun z=>⟨[(6,.o (.v (.slice (some ⟨z.2.1,0,none⟩) l.length l.length))),(5,sV a0 l.length c0),(27,sV a0 l.length c0),(28,iZ l.length),(29,iN z.1),(20,iN k),(2,pP 1 0),(3,pP 2 0),(18,.o (.v (.slice am (gY f).length cm))),(19,.o (.v (.int .i64 (gY f).length)))],[(2,.box T.du [.w 3 rv.length,.v (.int .i64 ((f.cols:Nat):Int))]),(3,.vec T.iQ 1 rv),(1,.box T.du [.v (.slice none 0 0),.v (.int .i64 0)])],5,z.2.2.2,z.2.2.1⟩,fun z=>l.length-z.1,
   fun z=>z.1<=l.length∧dq w.heap.size w z.2.2.1∧kV z.2.2.1 (Bs FF w.heap.size z.2.2.2 (.slice (some ⟨z.2.1,0,none⟩) l.length l.length)) (.slice am (gY f).length cm) (gY f)∧HN z.2.2.1 (Bs FF w.heap.size z.2.2.2 (.slice (some ⟨z.2.1,0,none⟩) l.length l.length)) (.slice a0 l.length c0) l∧de z.2.2.1 (Bs FF w.heap.size z.2.2.2 (.slice (some ⟨z.2.1,0,none⟩) l.length l.length)) rv ((cS f).take k)∧jO z.2.2.1 FF w.heap.size z.2.2.2 (.slice (some ⟨z.2.1,0,none⟩) l.length l.length) l.length z.1 (dH l),?_,?_⟩
  ·intro O w' r;have hf:=jO.wI (S:=FF) (n:=l.length) r (id:=4) rfl (by unfold maxLen;omega) (dH l);have hbs:∀g,Cf w iv g->Bs FF w.heap.size (((O 4).g,(O 4).g+1)::iv) (.slice (some ⟨(O 4).g,0,none⟩) l.length l.length) g:=fun g hg=>⟨hg.mono fun p hp=>aC _ hp,fun e=>Rel.not r (cF w) hg 4 _ rfl (r.fits (id:=4) rfl).1 (by injection e)⟩
   exact⟨(0,(O 4).g,w',((O 4).g,(O 4).g+1)::iv),⟨aR _,hw.tr r.cU,(hM.cJ fun g hg=>Rel.same r (cF w) hg).cL hbs,(XR.cJ fun g hg=>Rel.same r (cF w) hg).cL hbs,de.cL (hK.rel r (cF w)) hbs,hf⟩,
    Sub.wI r (id:=4) (t:=6) rfl rfl ⟨rfl,rfl,rfl,trivial⟩ rfl ⟨rfl,rfl,rfl,rfl,rfl,rfl,rfl,rfl,rfl,trivial⟩ (by simp[kF,SV.sc,At.sc])⟩
  rintro⟨i,gx,w2,iv⟩ ⟨hi,hw,hM,XR,hK,hX⟩;dsimp only at hi hw hM XR hK hX ⊢;refine dN.mk ?_ ?_<;>intro OU
  ·have OU:i<l.length:=by simpa using OU
   obtain⟨z,hz⟩:∃z,l[i]? =some z:=⟨_,aA OU⟩
   have UY:=Ow l (aD hl) z (aD hz);obtain⟨adz,haz,kz1,kz2⟩:=XR.at hz;refine⟨adz,haz,by omega,.int .i64 z,fun O w' r=>?_,?_⟩
   ·rw[aF,cI (w:=w2) (w2:=w') (by rw[dC];exact Rel.same r (cF w) kz1.1)];exact kz2
   refine cH (cM (Φ:=fun _ w' v w2=>dA w2 (Nf w' w2) v (z:Rat)) (fun O w' r=>jx z w' (by omega) (by omega)) ?_);rintro O Pz v3 Px r he Pa Rx;replace hw:=hw.tr Pa;have hbs:∀g,Bs FF w.heap.size iv (.slice (some ⟨gx,0,none⟩) l.length l.length) g->Bs FF w.heap.size ((Pz.heap.size,Px.heap.size)::iv) (.slice (some ⟨gx,0,none⟩) l.length l.length) g:=fun g hg=>Bs.mono (fun x hx=>aC _ hx) hg;have hbk:∀g,Bs FF w.heap.size iv (.slice (some ⟨gx,0,none⟩) l.length l.length) g->Px.heap[g]? =w2.heap[g]? :=fun g hg=>(he.block g (Rel.old r (cF w) g hg.1)).trans (Bs.same r (cF w) g hg);replace hM:=(hM.cJ hbk).cL hbs;replace XR:=(XR.cJ hbk).cL hbs;replace hK:=de.cL (de.cJ hK hbk) hbs;have hd:=Rx.cL (S':=Bs FF w.heap.size ((Pz.heap.size,Px.heap.size)::iv) (.slice (some ⟨gx,0,none⟩) l.length l.length)) fun g hg=>hg.elim (fun h=>h.elim) fun h=>⟨.inr ⟨by have:=r.cG;omega,_,_,aG,h.1,h.2⟩,fun e=>by have:=Rel.old r (cF w) g (hX.new g e);omega⟩
   replace hX:=hX.cK (iv':=(Pz.heap.size,Px.heap.size)::iv) r (cF w) he fun x hx=>aC _ hx;generalize (Pz.heap.size,Px.heap.size)::iv=Oh at*
   obtain⟨A0,A1,A2,A3,A4,A5,A6,A7,rfl⟩:=hd.shape;refine⟨⟨gx,0,none⟩,rfl,by omega,?_⟩;intro O w' r;obtain⟨g,hg,h1,h2,h3,h4⟩:=hX.store (j:=i) OU (by rw[dH,aM,hz];rfl) hd r (cF w);injection hg with hg;injection hg with hg;subst hg;refine⟨h1,h2,h3,fun w5 RP=>?_⟩;obtain⟨k1,k2,k3,k4⟩:=h4 w5 RP;have Oz:=(hw.tr r.cU).tr k3;have Tv:=Bs.kept (v:=(.slice (some ⟨gx,0,none⟩) l.length l.length)) r (cF w) k2 fun g e=>e;have Rs:=hM.cJ Tv;have hLm2:=XR.cJ Tv;have Q7:=de.cJ hK Tv;refine⟨((i+1:Nat):Int),wo,?_⟩;intro ρ3 w6 r3;exact⟨(i+1,gx,w6,_),⟨OU,Oz.tr r3.cU,Rs.cJ (Bs.same r3 (cF w)),hLm2.cJ (Bs.same r3 (cF w)),de.cJ Q7 (Bs.same r3 (cF w)),k1.rel r3 (cF w)⟩,Sub.gn [] r3,by dsimp only;omega⟩
  have OU:i=l.length:=aU hi (by simpa using OU);rw[OU]at hX;have hX2:=(hX.done (by simp[dH])).c;replace hK:=(de.cL hK fun g hg=>hg.1).push (u:=(.slice (some ⟨gx,0,none⟩) l.length l.length)) (x:=dH l) rfl (by rw[show l.length=(dH l).length by simp[dH]]at hX2 ⊢;exact hX2);rw[<-Oi]at hK;replace hM:=hM.cL fun g hg=>hg.1;refine .inl ?_;refine⟨by simp,by omega,by unfold maxLen;omega,((k+1:Nat):Int),wo,?_⟩;intro ρ3 w3 r3;exact⟨(k+1,rv++[(.slice (some ⟨gx,0,none⟩) l.length l.length)],w3,_),⟨Oc,hw.tr r3.cU,hM.cJ fun g hg=>Rel.same r3 (cF w) hg,hK.rel r3 (cF w)⟩,Sub.gn [(3,6)] r3 ⟨by dsimp only;rw[List.length_append,List.length_singleton];rfl,rfl,rfl,trivial⟩,by dsimp only;omega⟩
 have Oc:k=(gY f).length:=aU hk (by simpa using Oc);rw[List.take_of_length_le (by rw[cS,aL];omega)]at hK;intro ρe we re;refine⟨_,rfl,hw.tr re.cU,⟨_,rfl,rv,?_,hK.1,fun i u x k1 k2=>cO.cL (cO.rel (hK.2.2 i u x k1 k2) re (cF w)) fun g hg=>Cv.nw hg re⟩,fun x hx=>?_,fun x hx q hq=>?_⟩
 ·rw[<-hK.1];exact(re.iD (id:=3) (sz:=1) (m:=rv.length) rfl (by simp) (by unfold maxLen;omega) (by decide) hK.2.1).cL fun g hg=>.inr hg
 ·obtain⟨l,hl,rfl⟩:=aV.1 hx;rw[dH,aL];exact UZ l hl
 ·obtain⟨l,hl,rfl⟩:=aV.1 hx;obtain⟨z,hz,rfl⟩:=aV.1 hq;have:=Ow l hl z hz;have:=wL (z:=z) (by omega) (by omega);omega
def ldC(x:Ld):List Int:=[x.2.1,x.2.2.1,x.2.2.2]
def ga(s:List Int)(x:Ld):Nat->List Int
 |0=>s
 |k+1=>ID (ga s x k) (3*x.1+k).toNat ((ldC x).getD k 0)
def fb(n:Nat)(l:List Ld):Nat->List Int
 |0=>List.replicate (3*n) 0
 |i+1=>ga (fb n l i) (l.getD i (0,0,0,0)) 3
def eN(f:eu)(l:List Ld):List Rat:=dH (fb f.nodes.length l l.length)
structure As(n:Nat)(l:List Ld):Prop where
 len:l.length<=200
 ld:∀x∈l,(0<=x.1∧x.1<n)∧(-1000000<=x.2.1∧x.2.1<=1000000)∧(-1000000<=x.2.2.1∧x.2.2.1<=1000000)∧(-1000000<=x.2.2.2∧x.2.2.2<=1000000)
theorem tD(s:List Int)(x:Ld):∀k,(ga s x k).length=s.length
 |0=>rfl
 |k+1=>by rw[ga,ID,bM];exact tD s x k
theorem kM(n:Nat)(l:List Ld):∀i,(fb n l i).length=3*n
 |0=>bc ..
 |i+1=>by rw[fb,tD];exact kM n l i
theorem mg{k:Nat}{d:Int}(e:3*x.1+(k:Int)=j)(hd:(ldC x).getD k 0=d)(hz:(ga s x k)[j]? =some z):(ga s x k).set j (z+d)=ga s x (k+1):=by
 rw[ga,ID,hd,e,aF,show(ga s x k).getD j 0=z by rw[List.getD,hz];rfl]
def Md(s:List Int)(t:Int):Prop:=∀z∈s,-t<=z∧z<=t
theorem Md.set{t t2:Int}(h:Md s t)(ht:t<=t2)(hz: -t2<=z∧z<=t2):Md (s.set j z) t2:=fun y hy=>by
 rcases av hy with hy|rfl
 ·have:=h y hy;omega
 ·exact hz
def zv(l:List Int):List Value:=l.map fun z=>.int .i64 z
theorem Dp(l:List Int):(zv l).length=l.length:=aL ..
theorem Cc{l:List Int}(h:l[j]? =some z):(zv l)[j]? =some (.int .i64 z):=by rw[zv,aM,h];rfl
theorem Dq{l:List Int}(h:j<l.length):(zv l).take j++[.int .i64 z]++(zv l).drop (j+1)=zv (l.set j z):=by
 rw[zv,zv,List.map_set];exact kO (by rw[aL];exact h)
theorem ui(f:eu):(eB f).length=f.cols:=by simp[eB,eu.cols]
theorem dQ.OA(h:css.length=qs.length∧∀(j:Nat) cs q,css[j]? =some cs->qs[j]? =some q->kv w S cs q)(hc:kv w S cs q):
  (css++[cs]).length=(qs++[q]).length∧∀(j:Nat) c p,(css++[cs])[j]? =some c->(qs++[q])[j]? =some p->kv w S c p:=by
 refine⟨by simp[h.1],fun j x p h1 h2=>?_⟩;rcases aS j css.length with hi|hi
 ·rw[aK hi]at h1;rw[aK (by rw[<-h.1];exact hi)]at h2;exact h.2 j x p h1 h2
 ·have SF:j=css.length:=by have:=(aE.1 h1).1;simp at this;omega
  subst SF;rw[aO (Nat.le_refl _),bK]at h1;rw[h.1,aO (Nat.le_refl _),bK]at h2;simp at h1 h2;subst h1 h2;exact hc
set_option maxHeartbeats 1000000 in
theorem wM{cn:Nat}(hS:Old S w)(hl:iE w S vl l)(Ry:f.nodes.length<=20)(OZ:As f.nodes.length l)
  {ab aq:Option Addr} {nb cb nq cq:Nat} (VP:vb= .slice ab nb cb) (RV:vs= .slice aq nq cq):
  eG PG N.qJ #[.agg #[.slice an f.nodes.length cn,vb,vs],vl] w (eL w fun v' w2=>eR w2 FF w.heap.size [(w.heap.size,w2.heap.size)] v' (3*f.nodes.length) (eN f l)∧∀q∈eN f l,rl q<=1):=by
 subst VP RV;have hw:=bR w;obtain⟨al,cl,rfl,Pf,Qt⟩:=hl.shape;have hl200:=OZ.len;refine uV (by simp) ?_;refine⟨((3*f.nodes.length:Nat):Int),wo,?_⟩;obtain⟨m,hm⟩:∃m,3*f.nodes.length=m:=⟨_,rfl⟩
 rw[hm]
 refine⟨m,m,rfl,rfl,Nat.le_refl _,by omega,by omega,Nat×World,fun z=>⟨[(5,.o (.s 1 0 m m)),(18,sV al l.length cl),(19,iZ l.length),(20,iN z.1)],[(1,.arr T.int (zv (fb f.nodes.length l z.1)))],2,[],z.2⟩,fun z=>l.length-z.1,
  fun z=>z.1<=l.length∧dq w.heap.size w z.2∧Md (fb f.nodes.length l z.1) (3000000*z.1),?_,?_⟩
 ·intro O w' r3;exact⟨(0,w'),⟨aR _,hw.tr r3.cU,fun z hz=>by rw[fb]at hz;rw[bJ hz];exact⟨Int.le_refl _,Int.le_refl _⟩⟩,Sub.gn [] r3 ⟨by dsimp only;rw[fb,hm,zv,List.map_replicate];rfl,trivial⟩⟩
 rintro⟨i,w1⟩ ⟨hi,hw,Ow⟩;dsimp only at hi hw Ow ⊢;refine dN.mk ?_ ?_<;>intro OU
 ·have OU:i<l.length:=by simpa using OU
  obtain⟨x,hx⟩:∃x,l[i]? =some x:=⟨_,aA OU⟩
  obtain⟨hn,Sl,RG,hx3⟩:=OZ.ld x (aD hx);obtain⟨kn,hkn⟩:=Int.eq_ofNat_of_zero_le hn.1;obtain⟨adx,cs,Pq,hP,-,PO⟩:=hl.load (by decide) hx;have hP:cs=[.int .i64 x.1,.int .i64 x.2.1,.int .i64 x.2.2.1,.int .i64 x.2.2.2]:=hP;subst hP
  refine⟨adx,Pq,by omega,[.int .i64 x.1,.int .i64 x.2.1,.int .i64 x.2.2.1,.int .i64 x.2.2.2],rfl,rdO PO hw hS,Nat×World,fun z=>⟨[(5,.o (.s 1 0 m m)),(7,pP 2 0),(30,.a [.v (.int .i64 x.2.1),.v (.int .i64 x.2.2.1),.v (.int .i64 x.2.2.2)]),(31,iN z.1),(18,sV al l.length cl),(19,iZ l.length),(20,iN i)],[(2,.box T.aAq [.v (.int .i64 x.1),.v (.int .i64 x.2.1),.v (.int .i64 x.2.2.1),.v (.int .i64 x.2.2.2)]),(1,.arr T.int (zv (ga (fb f.nodes.length l i) x z.1)))],3,[],z.2⟩,fun z=>3-z.1,
   fun z=>z.1<=3∧dq w.heap.size w z.2∧Md (ga (fb f.nodes.length l i) x z.1) (3000000*i+1000000*z.1),?_,?_⟩
  ·intro O w' r3;exact⟨(0,w'),⟨aR _,hw.tr r3.cU,Ow⟩,Sub.gn [] r3⟩
  rintro⟨k,w3⟩ ⟨hk,hw,Ow⟩;dsimp only at hk hw Ow ⊢;refine dN.mk ?_ ?_<;>intro Oc
  ·have Oc:k<3:=by have:=aI Oc;omega
   obtain⟨d,hd⟩:∃d,(ldC x).getD k 0=d:=⟨_,rfl⟩
   have hdb: -1000000<=d∧d<=1000000:=by
    rw[<-hd,ldC];rcases(show k=0∨k=1∨k=2 by omega)with rfl|rfl|rfl<;>simp[List.getD]<;>omega
   have hLl:(ga (fb f.nodes.length l i) x k).length=m:=by rw[tD,kM,hm]
   obtain⟨z,hz⟩:∃z,(ga (fb f.nodes.length l i) x k)[3*kn+k]? =some z:=⟨_,aA (by omega)⟩
   have UY:=Ow z (aD hz);have VN:3*x.1+(k:Int)=((3*kn+k:Nat):Int):=by omega
   have Qv:=mg VN hd hz;have SM:=Ow.set (j:=3*kn+k) (z:=z+d) (t2:=3000000*i+1000000*(k+1:Nat)) (by omega) (by omega);rw[Qv]at SM;refine Ar hτ (cs:= #[.int .i64 x.2.1,.int .i64 x.2.2.1,.int .i64 x.2.2.2]) rfl rfl rfl (fun _=>rfl) rfl ⟨by omega,by omega⟩ (u:=.int .i64 d) ?_ (fun O w4 r=>?_)
   ·rw[<-hd,ldC,aF];rcases(show k=0∨k=1∨k=2 by omega)with rfl|rfl|rfl<;>rfl
   replace hw:=hw.tr r.cU;refine⟨3*x.1,wo,((3*kn+k:Nat):Int),wo,by omega,.int .i64 z,by rw[aF,aZ,aW];exact Cc hz,z+d,wo,by omega,by rw[Dp];omega,zv (ga (fb f.nodes.length l i) x (k+1)),?_,?_⟩
   ·rw[aF,aZ,aW,<-Qv];exact Dq (by omega)
   refine⟨((k+1:Nat):Int),wo,?_⟩;intro ρ3 w6 r3;exact⟨(k+1,w6),⟨Oc,hw.tr r3.cU,SM⟩,Sub.gn [] r3,by dsimp only;omega⟩
  have Oc:k=3:=by have:=aH Oc;omega
  subst Oc;have Qv:ga (fb f.nodes.length l i) x 3=fb f.nodes.length l (i+1):=by rw[fb,show l.getD i (0,0,0,0)=x by rw[List.getD,hx];rfl]
  rw[Qv]at Ow ⊢;refine⟨((i+1:Nat):Int),wo,?_⟩;intro ρ3 w6 r3;exact⟨(i+1,w6),⟨OU,hw.tr r3.cU,fun z hz=>by have:=Ow z hz;dsimp only;omega⟩,Sub.gn [] r3,by dsimp only;omega⟩
 have OU:i=l.length:=aU hi (by simpa using OU);subst OU;obtain⟨s,hs⟩:∃s,fb f.nodes.length l l.length=s:=⟨_,rfl⟩
 have Rc:s.length=m:=by rw[<-hs,kM,hm]
 rw[hs]at Ow ⊢;unfold eN;rw[hs]
 refine⟨m,m,rfl,rfl,Nat.le_refl _,by omega,by omega,Nat×List (List Value)×Iv×World,fun z=>⟨[(10,.o (.s 2 0 m m)),(51,.o (.s 1 0 m m)),(52,iZ m),(53,iN z.1)],[(2,.arr T.Rat z.2.1.flatten),(1,.arr T.int (zv s))],3,z.2.2.1,z.2.2.2⟩,fun z=>m-z.1,
  fun z=>z.1<=m∧dq w.heap.size w z.2.2.2∧gF z.2.2.2 (Cf w z.2.2.1) m z.1 z.2.1 (dH s),?_,?_⟩
 ·intro O w' r;exact⟨(0,List.replicate m f0,_,w'),⟨aR _,hw.tr r.cU,gF.start _ _ _ _⟩,Sub.gn [] r⟩
 rintro⟨i,css,iv,w1⟩ ⟨Rq,hw,hF⟩;dsimp only at Rq hw hF ⊢;refine dN.mk ?_ ?_<;>intro OU
 ·have OU:i<m:=by simpa using OU
  obtain⟨z,hz⟩:∃z,s[i]? =some z:=⟨_,aA (by omega)⟩
  have UY:=Ow z (aD hz);refine⟨by omega,.int .i64 z,by rw[aF,aZ,aW];exact Cc hz,?_⟩;refine cH (cE hw (fun _ w' v w2=>dA w2 (Nf w' w2) v (z:Rat)) (fun O w' r=>jx z w' (by omega) (by omega)) ?_);rintro O _ _ _ Og r he hw h_ hn;replace hF:=hF.cK r (cF w) he (mC h_);have hd:=hn.dF (S:=FF) r.cG (mN h_);obtain⟨A0,A1,A2,A3,A4,A5,A6,A7,rfl⟩:=hd.shape;have Oi:=hF.next OU (q:=_) (by rw[dH,aM,hz];rfl) hd
  refine⟨by omega,by have:=hF.flat;omega,(css.set i [.bool A0,.slice A1 A2 A3,.bool A4,.slice A5 A6 A7]).flatten,?_,?_⟩
  ·have:=gp (cs:=[.bool A0,.slice A1 A2 A3,.bool A4,.slice A5 A6 A7]) hF.four (show i<css.length by rw[hF.len];exact OU);rw[<-this];simp
  refine⟨((i+1:Nat):Int),wo,?_⟩;intro ρ3 w3 r3;exact⟨(i+1,css.set i [.bool A0,.slice A1 A2 A3,.bool A4,.slice A5 A6 A7],_,w3),⟨OU,hw.tr r3.cU,Oi.rel r3 (cF w)⟩,Sub.gn [] r3,by dsimp only;omega⟩
 have OU:i=m:=aU Rq (by simpa using OU);subst OU;intro ρe we re
 exact⟨_,rfl,hw.tr re.cU,hF.done (by rw[dH,aL];exact Rc) (by unfold maxLen;omega) re (id:=2) rfl (re.nn 2 _ rfl (by intros;simp) (by simp)),fun q hq=>by
  obtain⟨z,hz,rfl⟩:=aV.1 hq;have:=Ow z hz
  exact wL (by omega) (by omega)⟩
set_option maxHeartbeats 1000000 in
theorem Jb(hS:Old S w)(hf:eF w S vn vb vs f)(OZ:uh f):
  eG PG N.qO #[.agg #[vn,vb,vs]] w (eL w fun v' w2=>dQ w2 (Nw S w w2) v' (eB f)):=by
 have hw:=bR w;obtain⟨an,cn,ab,cb,aq,cq,rfl,rfl,rfl,RH,Re,SB⟩:=hf.shape;have hf0:=hf;refine u5 (by simp) ?_
 refine⟨Nat×List (List Value)×World,fun z=>⟨[(3,.o (.w 1 z.2.1.length)),(9,sV ab f.bars.length cb),(10,iZ f.bars.length),(11,iN z.1),(1,pP 0 0)],[(1,.vec T.Rat 4 z.2.1.flatten),(0,.box T.Frame [.v (.slice an f.nodes.length cn),.v (.slice ab f.bars.length cb),.v (.slice aq f.cY.length cq)])],2,[],z.2.2⟩,fun z=>f.bars.length-z.1,
  fun z=>z.1<=f.bars.length∧dq w.heap.size w z.2.2∧(∀cs∈z.2.1,cs.length=4)∧(z.2.1.length=((fun i=>(f.bars.take i).map (·.2.2)) z.1).length∧∀(j:Nat) cs q,z.2.1[j]? =some cs->((fun i=>(f.bars.take i).map (·.2.2)) z.1)[j]? =some q->kv z.2.2 S cs q),?_,?_⟩
 ·intro O w' r;exact⟨(0,[],w'),⟨aR _,hw.tr r.cU,fun cs h=>(by cases h),rfl,fun j cs q h=>by cases h⟩,Sub.nil 3 T.Rat 4 rfl (by simp[kF,SV.sc,At.sc,fm]) r fun ρ1 r1=>Sub.gn [] r1⟩
 rintro⟨k,css,w1⟩ ⟨hk,hw,UC,hR⟩;dsimp only at hk hw UC hR ⊢;have PA:=ei UC;refine dN.mk ?_ ?_<;>intro Oc
 ·have Oc:k<f.bars.length:=by simpa using Oc
  have SK:=OZ.b;have SL:=OZ.s;obtain⟨b,hb⟩:∃b,f.bars[k]? =some b:=⟨_,aA Oc⟩
  have Qv:(fun i=>(f.bars.take i).map (·.2.2)) (k+1)=(fun i=>(f.bars.take i).map (·.2.2)) k++[b.2.2]:=by dsimp only;rw[List.take_add_one,hb];simp
  obtain⟨adb,cs,QP,hF,-,PT⟩:=hf0.bars.load (by decide) hb;obtain⟨g0,g1,g2,g3,g4,g5,g6,g7,rfl,hF⟩:=hF;refine⟨adb,QP,by omega,[.int .i64 b.1,.int .i64 b.2.1,.bool g0,.slice g1 g2 g3,.bool g4,.slice g5 g6 g7],rfl,rdO PT hw hS,?_⟩;have Vy:kv w1 S [.bool g0,.slice g1 g2 g3,.bool g4,.slice g5 g6 g7] b.2.2:=⟨_,_,_,_,_,_,_,_,rfl,hF.cJ fun g hg=>hw.block g (hS g hg)⟩
  have Ri:=dQ.OA hR Vy;rw[<-Qv]at Ri;have Qy:css.flatten++([.bool g0,.slice g1 g2 g3,.bool g4,.slice g5 g6 g7]:List Value)=(css++([[.bool g0,.slice g1 g2 g3,.bool g4,.slice g5 g6 g7]]:List (List Value))).flatten:=by simp
  have hlen2:css.length<=200:=by rw[hR.1,aL,ai];have:=OZ.b;omega
  refine .inl ?_;refine⟨by omega,by omega,by unfold maxLen;omega,((k+1:Nat):Int),wo,?_⟩;intro ρ3 w3 r3
  exact⟨(k+1,css++[[.bool g0,.slice g1 g2 g3,.bool g4,.slice g5 g6 g7]],w3),⟨Oc,hw.tr r3.cU,fun cs hc=>by
   rcases bE.1 hc with hc|hc
   ·exact UC cs hc
   ·rw[bL.1 hc];rfl,Ri.1,fun j cs q h1 h2=>(Ri.2 j cs q h1 h2).cJ fun g hg=>(r3.cU).block g (hS g hg)⟩,Sub.gn [(1,4)] r3 ⟨by dsimp only;rw[<-Qy];rfl,rfl,trivial⟩ ⟨by dsimp only;rw[List.length_append,List.length_singleton];rfl,rfl,rfl,rfl,rfl,trivial⟩,by dsimp only;omega⟩
 have Oc:k=f.bars.length:=aU hk (by simpa using Oc);subst Oc;have Pm:css.length=f.bars.length:=by rw[hR.1,aL,ai];omega
 rw[bF,show f.bars.map (·.2.2)=f.bars.map (·.2.2)++(f.cY.take 0).map (·.2.2) by simp]at hR
 refine⟨Nat×List (List Value)×World,fun z=>⟨[(3,.o (.w 1 z.2.1.length)),(22,sV aq f.cY.length cq),(23,iZ f.cY.length),(24,iN z.1)],[(1,.vec T.Rat 4 z.2.1.flatten),(0,.box T.Frame [.v (.slice an f.nodes.length cn),.v (.slice ab f.bars.length cb),.v (.slice aq f.cY.length cq)])],2,[],z.2.2⟩,fun z=>f.cY.length-z.1,
  fun z=>z.1<=f.cY.length∧dq w.heap.size w z.2.2∧(∀cs∈z.2.1,cs.length=4)∧(z.2.1.length=((fun i=>f.bars.map (·.2.2)++(f.cY.take i).map (·.2.2)) z.1).length∧∀(j:Nat) cs q,z.2.1[j]? =some cs->((fun i=>f.bars.map (·.2.2)++(f.cY.take i).map (·.2.2)) z.1)[j]? =some q->kv z.2.2 S cs q),?_,?_⟩
 ·intro O w' r3;exact⟨(0,css,w'),⟨aR _,hw.tr r3.cU,UC,hR.1,fun j cs q h1 h2=>(hR.2 j cs q h1 h2).cJ fun g hg=>(r3.cU).block g (hS g hg)⟩,Sub.gn [] r3⟩
 rintro⟨k,css,w1⟩ ⟨hk,hw,UC,hR⟩;dsimp only at hk hw UC hR ⊢;have PA:=ei UC;refine dN.mk ?_ ?_<;>intro Oc
 ·have Oc:k<f.cY.length:=by simpa using Oc
  have SK:=OZ.b;have SL:=OZ.s;obtain⟨b,hb⟩:∃b,f.cY[k]? =some b:=⟨_,aA Oc⟩
  have Qv:(fun i=>f.bars.map (·.2.2)++(f.cY.take i).map (·.2.2)) (k+1)=(fun i=>f.bars.map (·.2.2)++(f.cY.take i).map (·.2.2)) k++[b.2.2]:=by dsimp only;rw[List.take_add_one,hb];simp
  obtain⟨adb,cs,QP,hF,-,PT⟩:=hf0.cY.load (by decide) hb;obtain⟨g0,g1,g2,g3,g4,g5,g6,g7,rfl,hF⟩:=hF;refine⟨adb,QP,by omega,[.int .i64 b.1,.int .i64 b.2.1,.bool g0,.slice g1 g2 g3,.bool g4,.slice g5 g6 g7],rfl,rdO PT hw hS,?_⟩;have Vy:kv w1 S [.bool g0,.slice g1 g2 g3,.bool g4,.slice g5 g6 g7] b.2.2:=⟨_,_,_,_,_,_,_,_,rfl,hF.cJ fun g hg=>hw.block g (hS g hg)⟩
  have Ri:=dQ.OA hR Vy;rw[<-Qv]at Ri;have Qy:css.flatten++([.bool g0,.slice g1 g2 g3,.bool g4,.slice g5 g6 g7]:List Value)=(css++([[.bool g0,.slice g1 g2 g3,.bool g4,.slice g5 g6 g7]]:List (List Value))).flatten:=by simp
  have hlen2:css.length<=200:=by rw[hR.1,List.length_append,aL,aL,ai];have:=OZ.b;have:=OZ.s;omega
  refine .inl ?_;refine⟨by omega,by omega,by unfold maxLen;omega,((k+1:Nat):Int),wo,?_⟩;intro ρ3 w3 r3
  exact⟨(k+1,css++[[.bool g0,.slice g1 g2 g3,.bool g4,.slice g5 g6 g7]],w3),⟨Oc,hw.tr r3.cU,fun cs hc=>by
   rcases bE.1 hc with hc|hc
   ·exact UC cs hc
   ·rw[bL.1 hc];rfl,Ri.1,fun j cs q h1 h2=>(Ri.2 j cs q h1 h2).cJ fun g hg=>(r3.cU).block g (hS g hg)⟩,Sub.gn [(1,4)] r3 ⟨by dsimp only;rw[<-Qy];rfl,rfl,trivial⟩ ⟨by dsimp only;rw[List.length_append,List.length_singleton];rfl,rfl,rfl,rfl,trivial⟩,by dsimp only;omega⟩
 have Oc:k=f.cY.length:=aU hk (by simpa using Oc);subst Oc;intro ρe we re;have hfull:f.bars.map (·.2.2)++(f.cY.take f.cY.length).map (·.2.2)=eB f:=by rw[bF];rfl
 rw[hfull]at hR;refine⟨_,rfl,hw.tr re.cU,css,?_,hR.1,UC,fun j cs q k1 k2=>((hR.2 j cs q k1 k2).cJ fun g hg=>(re.cU).block g (hS g hg)).cL fun g hg=>.inl hg⟩;have Pf:=hR.1
 have h5:=re.iD (id:=1) (sz:=4) (m:=css.length) rfl PA (by have:=OZ.b;have:=OZ.s;rw[Pf,ui];unfold eu.cols maxLen;omega) (by decide) (fun u hu=>by
  obtain⟨cs,hc,hu⟩:=List.mem_flatten.1 hu;obtain⟨j,hj⟩:=aN hc;obtain⟨_,_,_,_,_,_,_,_,rfl,_⟩:=hR.2 j cs _ hj (aA (by rw[<-Pf];exact(aE.1 hj).1));simp at hu
  rcases hu with rfl|rfl|rfl|rfl<;>rfl)
 rw[<-Pf];exact h5.cL fun g hg=>.inr hg
def fG{α:Type}(e:List α->α->Int):List α->List α->Int
 |_,[]=>0
 |seen,x::r=>if e seen x=0 then fG e (seen++[x]) r else e seen x
section
variable{α:Type}{e:List α->α->Int}{xs:List α}
theorem gu{k:Nat}{x:α}(hx:xs[k]? =some x)(h0:e (xs.take k) x=0):fG e (xs.take k) (xs.drop k)=fG e (xs.take (k+1)) (xs.drop (k+1)):=by
 have hk:=(aE.1 hx).1;have h2:=(aE.1 hx).2;rw[List.drop_eq_getElem_cons hk,h2,fG,if_pos h0,List.take_add_one,hx];rfl
theorem cW{k:Nat}{x:α}{c:Int}(hx:xs[k]? =some x)(h0:e (xs.take k) x=c)(hc:c≠0):fG e (xs.take k) (xs.drop k)=c:=by
 have hk:=(aE.1 hx).1;have h2:=(aE.1 hx).2;rw[List.drop_eq_getElem_cons hk,h2,fG,aJ (by rw[h0];exact hc),h0]
theorem jP{k:Nat}(hk:xs.length<=k):fG e (xs.take k) (xs.drop k)=0:=by
 rw[List.drop_eq_nil_of_le hk];rfl
theorem jI(h:fG e [] xs=0):∀k x,xs[k]? =some x->e (xs.take k) x=0:=by
 have key:∀k,k<=xs.length->fG e (xs.take k) (xs.drop k)=0∧∀j x,j<k->xs[j]? =some x->e (xs.take j) x=0:=fun k=>by
  induction k with
  |zero=>intro _;exact⟨by simpa using h,fun j x hj=>by omega⟩
  |succ k ih=>
   intro hk;obtain⟨h1,h2⟩:=ih (by omega);obtain⟨x,hx⟩:∃x,xs[k]? =some x:=⟨_,aA (by omega)⟩
   have h0:e (xs.take k) x=0:=by
    by_cases h0:e (xs.take k) x=0
    ·exact h0
    ·rw[cW hx rfl h0]at h1;exact h1
   refine⟨by rw[<-gu hx h0];exact h1,fun j y hj hy=>?_⟩;rcases aS j k with S2|S2
   ·exact h2 j y S2 hy
   ·have:j=k:=by omega
    subst this;rw[hx]at hy;injection hy with hy;rw[<-hy];exact h0
 exact fun k x hx=>(key xs.length (Nat.le_refl _)).2 k x (aE.1 hx).1 hx
end
def nE(n:Int):Prop:= -1000000<=n∧n<=1000000
instance (n : Int) : Decidable (nE n) := by unfold nE; infer_instance
def fL(seen:List (Int×Int×Int))(p:Int×Int×Int):Int:=if nE p.1∧nE p.2.1∧nE p.2.2 then(if p∈seen then 12 else 0)else 2
def gb(b:Int×Int×Rat):Int×Int:=(min b.1 b.2.1,max b.1 b.2.1)
def jZ(n:Nat)(i:Int):Prop:=0<=i∧i<n
instance (n : Nat) (i : Int) : Decidable (jZ n i) := by unfold jZ; infer_instance
def fW(n:Nat)(seen:List (Int×Int×Rat))(b:Int×Int×Rat):Int:=
 if jZ n b.1∧jZ n b.2.1 then(if b.1=b.2.1 then 3 else if gb b∈seen.map gb then 5 else if b.2.2<=0 then 2 else 0)else 6
def jH(s:Int×Int×Rat):Int×Int:=(s.1,s.2.1)
def kf(n:Nat)(seen:List (Int×Int×Rat))(s:Int×Int×Rat):Int:=
 if jZ n s.1 then(if 0<=s.2.1∧s.2.1<=2 then(if jH s∈seen.map jH then 5 else if s.2.2<0 then 2 else 0)else 2)else 6
def eY(f:eu):Int:=
 if 20<f.nodes.length∨60<f.bars.length∨60<f.cY.length then 8 else
  if fG fL [] f.nodes≠0 then fG fL [] f.nodes else
   if fG (fW f.nodes.length) [] f.bars≠0 then fG (fW f.nodes.length) [] f.bars else fG (kf f.nodes.length) [] f.cY
def jk(n:Nat)(x:Ld):Int:=if jZ n x.1 then(if nE x.2.1∧nE x.2.2.1∧nE x.2.2.2 then 0 else 2)else 6
def uj(n:Nat)(l:List Ld):Int:=if 200<l.length then 8 else fG (fun _=>jk n) [] l
def iF(f:eu)(l:List Ld):Int:=if eY f≠0 then eY f else uj f.nodes.length l
theorem tE{seen:List (Int×Int×Int)}:fL seen p=0↔(nE p.1∧nE p.2.1∧nE p.2.2)∧p∉seen:=by
 unfold fL;split<;>rename_i h
 ·split<;>rename_i h2<;>simp[h,h2]
 ·simp[h]
theorem nQ:fW n seen b=0↔(jZ n b.1∧jZ n b.2.1)∧b.1≠b.2.1∧gb b∉seen.map gb∧0<b.2.2:=by
 unfold fW;rw[<-Rat.not_le];by_cases h:jZ n b.1∧jZ n b.2.1
 ·rw[if_pos h];by_cases h2:b.1=b.2.1
  ·rw[if_pos h2];exact⟨(fun e=>by cases e),fun e=>absurd h2 e.2.1⟩
  ·rw[aJ h2];by_cases h3:gb b∈seen.map gb
   ·rw[if_pos h3];exact⟨(fun e=>by cases e),fun e=>absurd h3 e.2.2.1⟩
   ·rw[aJ h3];by_cases h4:b.2.2<=0
    ·rw[if_pos h4];exact⟨(fun e=>by cases e),fun e=>absurd h4 e.2.2.2⟩
    ·rw[aJ h4];exact⟨fun _=>⟨h,h2,h3,h4⟩,fun _=>rfl⟩
 ·rw[aJ h];exact⟨(fun e=>by cases e),fun e=>absurd e.1 h⟩
theorem rK{s:Int×Int×Rat}:kf n seen s=0↔jZ n s.1∧(0<=s.2.1∧s.2.1<=2)∧jH s∉seen.map jH∧0<=s.2.2:=by
 unfold kf;rw[<-Rat.not_lt];by_cases h:jZ n s.1<;>by_cases h2:0<=s.2.1∧s.2.1<=2<;>by_cases h3:jH s∈seen.map jH<;>by_cases h4:s.2.2<0<;>simp only[h,h2,h3,h4]<;>simp
theorem HP:jk n x=0↔jZ n x.1∧nE x.2.1∧nE x.2.2.1∧nE x.2.2.2:=by
 unfold jk;split<;>rename_i h
 ·split<;>rename_i h2<;>simp[h,h2]
 ·simp[h]
theorem vV(h:eY f=0):(f.nodes.length<=20∧f.bars.length<=60∧f.cY.length<=60)∧fG fL [] f.nodes=0∧fG (fW f.nodes.length) [] f.bars=0∧fG (kf f.nodes.length) [] f.cY=0:=by
 unfold eY at h;split at h<;>rename_i h1
 ·cases h
 ·split at h<;>rename_i h2
  ·exact absurd h h2
  ·split at h<;>rename_i h3
   ·exact absurd h h3
   ·exact⟨by omega,by simpa using h2,by simpa using h3,h⟩
theorem lC(h:eY f=0):uh f:=by
 obtain⟨⟨h1,h2,h3⟩,hn,hb,hs⟩:=vV h;refine⟨fun p hp=>?_,fun b Qf=>?_,fun s Tw=>?_,h1,h2,h3⟩
 ·obtain⟨k,hk⟩:=aN hp;exact(tE.1 (jI hn k p hk)).1
 ·obtain⟨k,hk⟩:=aN Qf;exact(nQ.1 (jI hb k b hk)).1
 ·obtain⟨k,hk⟩:=aN Tw;have:=rK.1 (jI hs k s hk);exact⟨this.1,this.2.1⟩
theorem yb(h:uj n l=0):As n l:=by
 unfold uj at h;split at h<;>rename_i h1
 ·cases h
 ·refine⟨by omega,fun x hx=>?_⟩;obtain⟨k,hk⟩:=aN hx;exact HP.1 (jI h k x hk)
theorem lj(h:iF f l=0):eY f=0∧uj f.nodes.length l=0:=by
 unfold iF at h;split at h<;>rename_i h1
 ·exact absurd h h1
 ·exact⟨by simpa using h1,h⟩
theorem lN(n:Int)(w:World):eG PG N.qK #[.int .i64 n,.int .i64 1000000] w (eL w fun v' _=>∃d,v'= .bool d∧(d=true↔nE n)):=by
 have hw:=bR w;refine uW (by simp) ?_;refine⟨-1000000,by decide,?_⟩;refine dN.mk ?_ ?_<;>intro h1
 ·intro ρe we re;have h1:=aI h1;exact⟨_,rfl,hw.tr re.cU,_,rfl,by rw[decide_eq_true_iff];exact⟨fun h=>⟨h1,h⟩,fun h=>h.2⟩⟩
 ·intro ρe we re;have h1:=aH h1;exact⟨_,rfl,hw.tr re.cU,_,rfl,(fun h=>by cases h),fun h=>absurd h.1 h1⟩
theorem HQ(n:Int)(w:World)(an ab aq:Option Addr)(ln cn nb cb nq cq:Nat):eG PG N.xU #[.agg #[.slice an ln cn,.slice ab nb cb,.slice aq nq cq],.int .i64 n] w (eL w fun v' _=>∃d,v'= .bool d∧(d=true↔jZ ln n)):=by
 have hw:=bR w;refine Ah (by simp) ?_;refine dN.mk ?_ ?_<;>intro h1
 ·intro ρe we re;have h1:=aI h1;exact⟨_,rfl,hw.tr re.cU,_,rfl,by rw[decide_eq_true_iff];exact⟨fun h=>⟨h1,h⟩,fun h=>h.2⟩⟩
 ·intro ρe we re;have h1:=aH h1;exact⟨_,rfl,hw.tr re.cU,_,rfl,(fun h=>by cases h),fun h=>absurd h.1 h1⟩
theorem Dr(x y0 y1 y2:Int)(n:Nat)(w:World):eG PG N.mU #[.agg #[.int .i64 x,.int .i64 y0,.int .i64 y1,.int .i64 y2],.int .i64 n] w (eL w fun v' _=>v'= .int .i64 (jk n (x,y0,y1,y2))):=by
 have hw:=bR w;refine qV (by simp) ?_;refine dN.mk ?_ ?_<;>intro h1
 ·have h1:=aI h1;exact rtn hw fun ρe we re=>by show Value.int .i64 _=_;rw[jk,aJ (by unfold jZ;omega)]
 have h1:=aH h1;refine dN.mk ?_ ?_<;>intro h2
 ·have h2:=aI h2;exact rtn hw fun ρe we re=>by show Value.int .i64 _=_;rw[jk,aJ (by unfold jZ;omega)]
 have h2:=aH h2;have hh:jZ n x:=by unfold jZ;omega
 refine cH (cE hw (fun _ w' v w2=>∃d,v= .bool d∧(d=true↔nE y0)) (fun O w' r=>lN _ w') ?_);rintro O _ _ _ Og r he hw h_ ⟨d0,rfl,Ok⟩
 cases d0
 ·have Ok:¬nE y0:=fun h=>by have:=Ok.2 h;cases this
  exact rtn hw fun ρe we re=>by show Value.int .i64 _=_;rw[jk,if_pos hh,aJ (fun h=>Ok h.1)]
 replace Ok:=Ok.1 rfl;refine cH (cE hw (fun _ w' v w2=>∃d,v= .bool d∧(d=true↔nE y1)) (fun O w' r=>lN _ w') ?_);rintro O _ _ _ OX r he hw h_ ⟨d1,rfl,Ov⟩
 cases d1
 ·have Ov:¬nE y1:=fun h=>by have:=Ov.2 h;cases this
  exact rtn hw fun ρe we re=>by show Value.int .i64 _=_;rw[jk,if_pos hh,aJ (fun h=>Ov h.2.1)]
 replace Ov:=Ov.1 rfl;refine cH (cE hw (fun _ w' v w2=>∃d,v= .bool d∧(d=true↔nE y2)) (fun O w' r=>lN _ w') ?_);rintro O _ _ _ Oh r he hw h_ ⟨d2,rfl,Ps⟩
 cases d2
 ·have Ps:¬nE y2:=fun h=>by have:=Ps.2 h;cases this
  exact rtn hw fun ρe we re=>by show Value.int .i64 _=_;rw[jk,if_pos hh,aJ (fun h=>Ps h.2.2)]
 replace Ps:=Ps.1 rfl;exact rtn hw fun ρe we re=>by show Value.int .i64 _=_;rw[jk,if_pos hh,if_pos ⟨Ok,Ov,Ps⟩]
theorem Bb(hS:Old S w)(hl:iE w S vl l):eG PG N.l5 #[vl,.int .i64 n] w (eL w fun v' _=>v'= .int .i64 (uj n l)):=by
 have hw:=bR w;obtain⟨al,cl,rfl,Pf,Qt⟩:=hl.shape;unfold maxLen at Qt;refine pR (by simp) ?_;refine dN.mk ?_ ?_<;>intro h1
 ·have h1:=aI h1;exact rtn hw fun ρe we re=>by show Value.int .i64 _=_;rw[uj,if_pos (by omega)]
 have h1:=aH h1
 refine⟨Nat×World×Iv,fun z=>⟨[(1,iZ n),(11,sV al l.length cl),(12,iZ l.length),(13,iN z.1)],[],0,z.2.2,z.2.1⟩,fun z=>l.length-z.1,
  fun z=>z.1<=l.length∧dq w.heap.size w z.2.1∧uj n l=fG (fun _=>jk n) (l.take z.1) (l.drop z.1),?_,?_⟩
 ·intro O w' r3;exact⟨(0,w',[]),⟨aR _,hw.tr r3.cU,by rw[uj,aJ (by omega)];rfl⟩,Sub.gn [] r3⟩
 rintro⟨i,w1,iv⟩ ⟨hi,hw,hE⟩;dsimp only at hi hw hE ⊢;refine dN.mk ?_ ?_<;>intro OU
 ·have OU:i<l.length:=by simpa using OU
  obtain⟨x,hx⟩:∃x,l[i]? =some x:=⟨_,aA OU⟩
  obtain⟨adx,cs,Pq,hP,-,PO⟩:=hl.load (by decide) hx;have hP:cs=[.int .i64 x.1,.int .i64 x.2.1,.int .i64 x.2.2.1,.int .i64 x.2.2.2]:=hP;subst hP;refine⟨adx,Pq,by omega,[.int .i64 x.1,.int .i64 x.2.1,.int .i64 x.2.2.1,.int .i64 x.2.2.2],rfl,rdO PO hw hS,?_⟩;refine cH (cE hw (fun _ w' v w2=>v= .int .i64 (jk n x)) (fun O w' r=>Dr _ _ _ _ n w') ?_);rintro O _ _ _ Og r he hw h_ rfl;obtain⟨c,hc⟩:∃c,jk n x=c:=⟨_,rfl⟩
  rw[hc];refine dN.mk ?_ ?_<;>intro hd
  ·have hd:c≠0:=by simpa using hd
   exact rtn hw fun ρe we re=>by show Value.int .i64 _=_;rw[hE,cW hx hc hd]
  have hd:c=0:=by simpa using hd
  rw[hd]at hc;rw[gu hx hc]at hE;refine⟨((i+1:Nat):Int),wo,?_⟩;intro ρ3 w6 r3;exact⟨(i+1,w6,_),⟨OU,hw.tr r3.cU,hE⟩,Sub.gn [] r3,by dsimp only;omega⟩
 have OU:i=l.length:=aU hi (by simpa using OU);rw[jP (by omega)]at hE;exact rtn hw fun ρe we re=>by show Value.int .i64 _=_;rw[hE]
theorem ir{cs:Array Value}(h:cs[j]? =some v)(w:World):(part T.int cs j).run PG w= .ok v w:=by
 have:=(hτ T.int _ rfl).isAgg w;simp only[part,Sem.run_bind,this,Result.andThen]
 simp[h]
theorem eq_int(d:Nat)(a b:Int)(w:World):(Op.equalIn (d+1) T.int (.int .i64 a) (.int .i64 b)).run PG w= .ok (a==b) w:=by
 unfold Op.equalIn;simp[run_underlying ((hτ T.int _ rfl).i1 rfl)]
theorem NK(p0 p1 p2 q0 q1 q2:Int)(w:World):(Op.equal T.Node (.agg #[.int .i64 p0,.int .i64 p1,.int .i64 p2]) (.agg #[.int .i64 q0,.int .i64 q1,.int .i64 q2])).run PG w= .ok (decide (p0=q0∧p1=q1∧p2=q2)) w:=by
 have h:=run_underlying Tryz.underlying195;simp only[Op.equal,Op.maxDepth]
 unfold Op.equalIn;have a0:=ir (cs:= #[Value.int .i64 p0,Value.int .i64 p1,Value.int .i64 p2]) (j:=0) rfl;have a1:=ir (cs:= #[Value.int .i64 p0,Value.int .i64 p1,Value.int .i64 p2]) (j:=1) rfl;have a2:=ir (cs:= #[Value.int .i64 p0,Value.int .i64 p1,Value.int .i64 p2]) (j:=2) rfl;have b0:=ir (cs:= #[Value.int .i64 q0,Value.int .i64 q1,Value.int .i64 q2]) (j:=0) rfl;have b1:=ir (cs:= #[Value.int .i64 q0,Value.int .i64 q1,Value.int .i64 q2]) (j:=1) rfl;have b2:=ir (cs:= #[Value.int .i64 q0,Value.int .i64 q1,Value.int .i64 q2]) (j:=2) rfl;simp[h,a0,a1,a2,b0,b1,b2,eq_int 9998];by_cases h0:p0=q0
 ·by_cases h1:p1=q1
  ·by_cases h2:p2=q2<;>simp[h0,h1,h2]
  ·simp[h0,h1]
 ·simp[h0]
theorem NL(p0 p1 q0 q1:Int)(w:World):(Op.equal T.DY (.agg #[.int .i64 p0,.int .i64 p1]) (.agg #[.int .i64 q0,.int .i64 q1])).run PG w= .ok (decide (p0=q0∧p1=q1)) w:=by
 have h:=run_underlying Tryz.underlying281;simp only[Op.equal,Op.maxDepth]
 unfold Op.equalIn;have a0:=ir (cs:= #[Value.int .i64 p0,Value.int .i64 p1]) (j:=0) rfl;have a1:=ir (cs:= #[Value.int .i64 p0,Value.int .i64 p1]) (j:=1) rfl;have b0:=ir (cs:= #[Value.int .i64 q0,Value.int .i64 q1]) (j:=0) rfl;have b1:=ir (cs:= #[Value.int .i64 q0,Value.int .i64 q1]) (j:=1) rfl;simp[h,a0,a1,b0,b1,eq_int 9998];by_cases h0:p0=q0
 ·by_cases h1:p1=q1<;>simp[h0,h1]
 ·simp[h0]
abbrev Cd(p:Int×Int×Int):Value:=.agg #[.int .i64 p.1,.int .i64 p.2.1,.int .i64 p.2.2]
theorem Fm(p q:Int×Int×Int)(w:World)(o1 o2:Operand):(do eqGuard .eql T.Node o1 o2 (Cd p) (Cd q);binOp .eql T.Node (Cd p) (Cd q)).run PG w= .ok (.bool (decide (p=q))) w:=by
 have h:=NK p.1 p.2.1 p.2.2 q.1 q.2.1 q.2.2 w;simp[eqGuard,binOp,h];obtain⟨a,b,c⟩:=p;obtain⟨a2,b2,c2⟩:=q;by_cases h0:a=a2
 ·by_cases h1:b=b2
  ·by_cases h2:c=c2<;>simp[h0,h1,h2]
  ·simp[h0,h1]
 ·simp[h0]
def nf(k:Int×Int):Value:=.agg #[.int .i64 k.1,.int .i64 k.2]
theorem qj{a b:Int×Int}(h:nf a=nf b):a=b:=by
 unfold nf at h;injection h with h;have h1:=congrArg (fun x=>x[0]?) h;have h2:=congrArg (fun x=>x[1]?) h;simp at h1 h2;exact Prod.ext h1 h2
theorem Jc(d:Nat)(a:Int)(em:Bool)(w:World):(Instr.checkKey em (d+1) T.int (.int .i64 a)).run PG w= .ok () w:=by
 unfold Instr.checkKey;simp[run_underlying ((hτ T.int _ rfl).i1 rfl)]
theorem HR(p0 p1:Int)(em:Bool)(w:World):(Instr.checkKey em 10000 T.DY (.agg #[.int .i64 p0,.int .i64 p1])).run PG w= .ok () w:=by
 have h:=run_underlying Tryz.underlying281;have a0:=ir (cs:= #[Value.int .i64 p0,Value.int .i64 p1]) (j:=0) rfl;have a1:=ir (cs:= #[Value.int .i64 p0,Value.int .i64 p1]) (j:=1) rfl;unfold Instr.checkKey;simp[h,a0,a1,Jc 9998]
theorem yc:KM PG T.DY (fun v=>∃k,v=nf k) where
 desc:=⟨_,Tryz.underlying281⟩
 check:=fun w em v ⟨k,e⟩=>by subst e;exact HR k.1 k.2 em w
 eq:=fun w a b ⟨p,e1⟩ ⟨q,e2⟩=>by
  subst e1 e2;refine⟨_,NL p.1 p.2 q.1 q.2 w,?_⟩;rw[decide_eq_true_iff];exact⟨fun h=>by rw[show p=q from Prod.ext h.1 h.2],fun h=>by have:=qj h;subst this;exact⟨rfl,rfl⟩⟩
theorem uk:PG.underlying T.xj=some (.map T.DY T.bool):=Tryz.underlying279
theorem Ce(w:World):(zeroValue T.bool).run PG w= .ok (.bool false) w:=by kernel_rfl
theorem Li(ad:Option Addr)(k:Nat):ad.map (·.add (0*k))=ad:=by
 rw[Nat.zero_mul]
 cases ad with
 |none=>rfl
 |some a=>simp only[bf,Option.some.injEq];unfold Addr.add;split<;>simp_all
theorem ed.take{α:Type}{k:Nat}{P:World->(Nat->Prop)->List Value->α->Prop}{c:Nat}{xs:List α}(h:ed k P w S (.slice a n c) xs){i:Nat}(hi:i<=xs.length):
  ed k P w S (.slice a i c) (xs.take i):=by
 obtain⟨css,⟨h0,h1,h2,a',c',e,h3,h4⟩,hl,hlk,hf⟩:=h;injection e with e1 e2 e3;subst e1 e2 e3;have hlen:(css.take i).length=i:=by rw[ai,hl];omega
 have Ts:(xs.take i).length=i:=by rw[ai];omega
 have VQ:css.flatten=(css.take i).flatten++(css.drop i).flatten:=by rw[<-List.flatten_append,List.take_append_drop]
 refine⟨css.take i,⟨by omega,?_,fun u hu=>h2 u (by rw[VQ];exact List.mem_append_left _ hu),a,c,by rw[Ts],by omega,fun j u hj=>h4 j u ?_⟩,by rw[hlen,Ts],fun cs hc=>hlk cs (List.mem_of_mem_take hc),fun j cs x k1 k2=>?_⟩
 ·rw[wJ fun cs hc=>hlk cs (List.mem_of_mem_take hc),hlen,Ts]
 ·rw[VQ,aK (aE.1 hj).1];exact hj
 ·have hj:=(aE.1 k1).1;rw[hlen]at hj;rw[bV hj]at k1 k2;exact hf j cs x k1 k2
theorem nA.cJ{w2:World}(h:nA w S v xs)(hk:∀g,S g->w2.heap[g]? =w.heap[g]?):nA w2 S v xs:=ed.cJ (w:=w) (fun _ _ h=>h) h hk
theorem Ds(hS:Old S w)(hn:nA w S vn xs)(p:Int×Int×Int):eG PG N.gE #[vn,Cd p] w (eL w fun v' _=>∃r,v'= .int .i64 r∧(-1<=r)∧(0<=r↔p∈xs)):=by
 have hw:=bR w;obtain⟨an,cn,rfl,hcn,RH⟩:=hn.shape;unfold maxLen at RH;refine jA (by simp) ?_
 refine⟨Nat×World,fun z=>⟨[(0,sV an xs.length cn),(3,pP 0 0),(7,iZ xs.length),(8,iN z.1)],[(0,.box T.Node [.v (.int .i64 p.1),.v (.int .i64 p.2.1),.v (.int .i64 p.2.2)])],1,[],z.2⟩,fun z=>xs.length-z.1,
  fun z=>z.1<=xs.length∧dq w.heap.size w z.2∧(p∈xs↔p∈xs.drop z.1),?_,?_⟩
 ·intro O w' r3;exact⟨(0,w'),⟨aR _,hw.tr r3.cU,Iff.rfl⟩,Sub.gn [] r3⟩
 rintro⟨i,w1⟩ ⟨hi,hw,hE⟩;dsimp only at hi hw hE ⊢;refine dN.mk ?_ ?_<;>intro OU
 ·have OU:i<xs.length:=by simpa using OU
  obtain⟨q,hx⟩:∃x,xs[i]? =some x:=⟨_,aA OU⟩
  have hdr:xs.drop i=q::xs.drop (i+1):=by rw[List.drop_eq_getElem_cons OU,(aE.1 hx).2]
  obtain⟨adx,cs,Pq,hP,-,PO⟩:=hn.load (by decide) hx;have hP:cs=[.int .i64 q.1,.int .i64 q.2.1,.int .i64 q.2.2]:=hP;subst hP;refine jN hτ dx (.x 1 (.x 2 (.x 3 (.ld 0 32 (.ld 4 32 (.x 5 .nil)))))) (by kernel_rfl) (by kernel_rfl) ?_;refine⟨adx,Pq,by omega,[.int .i64 q.1,.int .i64 q.2.1,.int .i64 q.2.2],rfl,rdO PO hw hS,decide (p=q),fun O w o1 o2=>Fm p q w o1 o2,?_⟩;refine dN.mk ?_ ?_<;>intro hd
  ·have hd:p=q:=aI hd;exact rtn hw fun ρe we re=>⟨_,rfl,by omega,iff_of_true (by omega) (hE.2 (by rw[hdr,hd];exact aG))⟩
  have hd:p≠q:=aH hd;rw[hdr,List.mem_cons,or_iff_right hd]at hE;refine⟨((i+1:Nat):Int),wo,?_⟩;intro ρ3 w6 r3;exact⟨(i+1,w6),⟨OU,hw.tr r3.cU,hE⟩,Sub.gn [] r3,by dsimp only;omega⟩
 have OU:i=xs.length:=aU hi (by simpa using OU);rw[OU,List.drop_length]at hE;exact rtn hw fun ρe we re=>⟨_,rfl,by omega,iff_of_false (by omega) fun h=>by cases hE.1 h⟩
theorem yJ(hS:Old S w)(hn:nA w S vn xs)(p:Int×Int×Int):eG PG N.fe #[vn,Cd p] w (eL w fun v' _=>∃d,v'= .bool d∧(d=true↔p∈xs)):=by
 have hw:=bR w;obtain⟨an,cn,rfl,hcn,RH⟩:=hn.shape;refine ie (by simp) ?_;refine cH (cE hw (fun _ w' v w2=>∃r,v= .int .i64 r∧(-1<=r)∧(0<=r↔p∈xs)) (fun O w' r=>Ds (p:=p) (oS hS r) (nA.cJ hn (kS hw r hS))) ?_);rintro O _ _ _ Og r he hw h_ ⟨r0,rfl,WX,SG⟩;exact rtn hw fun ρe we re=>⟨_,rfl,by rw[decide_eq_true_iff];exact SG⟩
def yK(w:World)(S:Nat->Prop)(g:Nat)(ks:List Value):Prop:=S g∧Ed w g ks
section
variable{S:Nat->Prop}{H:Hp}{nx:Nat}{iv iv':Iv}{B:Nat}{w w' w2:World}{O:Nat->Sx.dw}{g:Nat}{ks:List Value}
theorem yK.rel(h:yK w (Cv S B iv) g ks)(r:Rel H nx iv B w O w')(hS:∀g,S g->g<B):yK w' (Cv S B iv) g ks:=⟨h.1,h.2.cJ (Rel.same r hS h.1)⟩
theorem yK.cK(h:yK w (Cv S B iv) g ks)(r:Rel H nx iv B w O w')(hS:∀g,S g->g<B)(he:Ext w' w2)(hm:∀p,p∈iv->p∈iv'):yK w2 (Cv S B iv') g ks:=
 ⟨h.1.mono hm,(h.rel r hS).2.cJ (he.block g (Rel.old r hS g h.1))⟩
end
set_option maxHeartbeats 2000000 in
theorem Au(hS:Old S w)(hf:eF w S vn vb vs f):eG PG N.sA #[.agg #[vn,vb,vs]] w (eL w fun v' _=>v'= .int .i64 (eY f)):=by
 have hw:=bR w;obtain⟨an,cn,ab,cb,aq,cq,rfl,rfl,rfl,RH,Re,SB⟩:=hf.shape;obtain⟨_,_,hsh,hcn,_⟩:=hf.nodes.shape;injection hsh with e1 e2 e3;subst e1 e3;refine vv (by simp) ?_;refine dN.mk ?_ ?_<;>intro h0
 ·have h0:=aI h0;exact rtn hw fun ρe we re=>by show Value.int .i64 _=_;rw[eY,if_pos (by omega)]
 have h0:=aH h0;refine dN.mk ?_ ?_<;>intro h1
 ·have h1:=aI h1;exact rtn hw fun ρe we re=>by show Value.int .i64 _=_;rw[eY,if_pos (by omega)]
 have h1:=aH h1;refine dN.mk ?_ ?_<;>intro h2
 ·have h2:=aI h2;exact rtn hw fun ρe we re=>by show Value.int .i64 _=_;rw[eY,if_pos (by omega)]
 have h2:=aH h2
 refine⟨Nat×World×Iv,fun z=>⟨[(1,pP 0 0),(30,sV an f.nodes.length cn),(31,iZ f.nodes.length),(32,iN z.1)],[(0,.box T.Frame [.v (.slice an f.nodes.length cn),.v (.slice ab f.bars.length cb),.v (.slice aq f.cY.length cq)])],1,z.2.2,z.2.1⟩,fun z=>f.nodes.length-z.1,
  fun z=>z.1<=f.nodes.length∧dq w.heap.size w z.2.1∧fG fL [] f.nodes=fG fL (f.nodes.take z.1) (f.nodes.drop z.1),?_,?_⟩
 ·intro O w' r3;exact⟨(0,w',[]),⟨aR _,hw.tr r3.cU,rfl⟩,Sub.gn [] r3⟩
 rintro⟨i,w1,iv⟩ ⟨hi,hw,hE⟩;dsimp only at hi hw hE ⊢;refine dN.mk ?_ ?_<;>intro OU
 ·have OU:i<f.nodes.length:=by simpa using OU
  obtain⟨q,hx⟩:∃x,f.nodes[i]? =some x:=⟨_,aA OU⟩
  obtain⟨adx,cs,Pq,hP,-,PO⟩:=hf.nodes.load (by decide) hx;have hP:cs=[.int .i64 q.1,.int .i64 q.2.1,.int .i64 q.2.2]:=hP;subst hP;refine⟨adx,Pq,by omega,[.int .i64 q.1,.int .i64 q.2.1,.int .i64 q.2.2],rfl,rdO PO hw hS,?_⟩;refine cH (cE hw (fun _ w' v w2=>∃d,v= .bool d∧(d=true↔nE q.1)) (fun O w' r=>lN _ w') ?_);rintro O QU v1 QJ Og r he hw h_ ⟨d0,rfl,Ok⟩
  cases d0
  ·have Ok:¬nE q.1:=fun h=>by have:=Ok.2 h;cases this
   exact rtn hw fun ρe we re=>by show Value.int .i64 _=_;rw[eY,aJ (by omega),if_pos (by rw[hE,cW hx (show fL (f.nodes.take i) q=2 by rw[fL,aJ (fun h=>Ok h.1)]) (by decide)];decide),hE,cW hx (show fL (f.nodes.take i) q=2 by rw[fL,aJ (fun h=>Ok h.1)]) (by decide)]
  replace Ok:=Ok.1 rfl;refine cH (cE hw (fun _ w' v w2=>∃d,v= .bool d∧(d=true↔nE q.2.1)) (fun O w' r=>lN _ w') ?_);rintro O QQ v2 Pn OX r he hw h_ ⟨d1,rfl,Ov⟩
  cases d1
  ·have Ov:¬nE q.2.1:=fun h=>by have:=Ov.2 h;cases this
   exact rtn hw fun ρe we re=>by show Value.int .i64 _=_;rw[eY,aJ (by omega),if_pos (by rw[hE,cW hx (show fL (f.nodes.take i) q=2 by rw[fL,aJ (fun h=>Ov h.2.1)]) (by decide)];decide),hE,cW hx (show fL (f.nodes.take i) q=2 by rw[fL,aJ (fun h=>Ov h.2.1)]) (by decide)]
  replace Ov:=Ov.1 rfl;refine cH (cE hw (fun _ w' v w2=>∃d,v= .bool d∧(d=true↔nE q.2.2)) (fun O w' r=>lN _ w') ?_);rintro O Pz v3 Px Oh r he hw h_ ⟨d2,rfl,Ps⟩
  cases d2
  ·have Ps:¬nE q.2.2:=fun h=>by have:=Ps.2 h;cases this
   exact rtn hw fun ρe we re=>by show Value.int .i64 _=_;rw[eY,aJ (by omega),if_pos (by rw[hE,cW hx (show fL (f.nodes.take i) q=2 by rw[fL,aJ (fun h=>Ps h.2.2)]) (by decide)];decide),hE,cW hx (show fL (f.nodes.take i) q=2 by rw[fL,aJ (fun h=>Ps h.2.2)]) (by decide)]
  replace Ps:=Ps.1 rfl;refine jN hτ dx (.x 0 (.x 2 (.ld 1 104 (.x 3 (.ld 4 96 (.x 5 (.x 6 .nil))))))) (by kernel_rfl) (by kernel_rfl) ?_;refine⟨⟨by omega,by omega,by omega⟩,an,i,cn,by rw[show ((0:Int).toNat*3)=0*3 from rfl,Li];split<;>rfl,by simp,by simp,?_⟩;refine cE hw (fun _ w' v w2=>∃d,v= .bool d∧(d=true↔q∈f.nodes.take i)) (fun O w' r=>yJ (p:=q) (oS hS r) (nA.cJ (hf.nodes.take (Nat.le_of_lt OU)) (kS hw r hS))) ?_;rintro O _ _ _ On r he hw h_ ⟨d3,rfl,hz3⟩
  cases d3
  ·have hz3:q∉f.nodes.take i:=fun h=>by have:=hz3.2 h;cases this
   rw[gu hx (tE.2 ⟨⟨Ok,Ov,Ps⟩,hz3⟩)]at hE;refine⟨((i+1:Nat):Int),wo,?_⟩;intro ρ3 w6 r3;exact⟨(i+1,w6,_),⟨OU,hw.tr r3.cU,hE⟩,Sub.gn [] r3,by dsimp only;omega⟩
  replace hz3:=hz3.1 rfl;exact rtn hw fun ρe we re=>by show Value.int .i64 _=_;rw[eY,aJ (by omega),if_pos (by rw[hE,cW hx (show fL (f.nodes.take i) q=12 by rw[fL,if_pos ⟨Ok,Ov,Ps⟩,if_pos hz3]) (by decide)];decide),hE,cW hx (show fL (f.nodes.take i) q=12 by rw[fL,if_pos ⟨Ok,Ov,Ps⟩,if_pos hz3]) (by decide)]
 have OU:i=f.nodes.length:=aU hi (by simpa using OU);rw[jP (by omega)]at hE;refine wZ (fun O wa wb r hM0 hg PH=>?_);have Oz:=(hw.tr r.cU).tr (dq.grown hg (fun x e=>by cases e) r.cG);have hB:w.heap.size<=wa.heap.size:=r.cG;have hM:yK wb (Cf w ((wa.heap.size,wa.heap.size+1)::iv)) wa.heap.size []:=⟨.inr ⟨hB,_,_,aG,Nat.le_refl _,bY _⟩,hM0⟩
 generalize (wa.heap.size,wa.heap.size+1)::iv=OX at*
 obtain⟨gm,Qd⟩:∃gm,wa.heap.size=gm:=⟨_,rfl⟩
 rw[Qd]at hM ⊢;have hw:=Oz
 refine⟨Nat×World×Iv,fun z=>⟨[(1,pP 0 0),(5,.o (.v (.map (some gm)))),(64,sV ab f.bars.length cb),(65,iZ f.bars.length),(66,iN z.1)],[(0,.box T.Frame [.v (.slice an f.nodes.length cn),.v (.slice ab f.bars.length cb),.v (.slice aq f.cY.length cq)])],1,z.2.2,z.2.1⟩,fun z=>f.bars.length-z.1,
  fun z=>z.1<=f.bars.length∧dq w.heap.size w z.2.1∧fG (fW f.nodes.length) [] f.bars=fG (fW f.nodes.length) (f.bars.take z.1) (f.bars.drop z.1)∧yK z.2.1 (Cf w z.2.2) gm ((f.bars.take z.1).map fun b=>nf (gb b)),?_,?_⟩
 ·intro O w' r3;exact⟨(0,w',OX),⟨aR _,hw.tr r3.cU,rfl,hM.rel r3 (cF w)⟩,Sub.gn [] r3⟩
 rintro⟨i,w1,iv⟩ ⟨hi,hw,PB,hM⟩;dsimp only at hi hw PB hM ⊢;refine dN.mk ?_ ?_<;>intro OU
 ·have OU:i<f.bars.length:=by simpa using OU
  obtain⟨b,hx⟩:∃b,f.bars[i]? =some b:=⟨_,aA OU⟩
  obtain⟨adb,cs,QP,hF,-,PT⟩:=hf.bars.load (by decide) hx;obtain⟨g0,g1,g2,g3,g4,g5,g6,g7,rfl,hF⟩:=hF;refine⟨adb,QP,by omega,[.int .i64 b.1,.int .i64 b.2.1,.bool g0,.slice g1 g2 g3,.bool g4,.slice g5 g6 g7],rfl,rdO PT hw hS,?_⟩;refine cH (cE hw (fun _ w' v w2=>∃d,v= .bool d∧(d=true↔jZ f.nodes.length b.1)) (fun O w' r=>HQ _ w' _ _ _ _ _ _ _ _ _) ?_);rintro O QU v1 QJ Og r he hw h_ ⟨d0,rfl,Ok⟩;replace hM:=hM.cK r (cF w) he (mC h_)
  cases d0
  ·have Ok:¬jZ f.nodes.length b.1:=fun h=>by have:=Ok.2 h;cases this
   exact rtn hw fun ρe we re=>by show Value.int .i64 _=_;rw[eY,aJ (by omega),aJ (by rw[hE];decide),if_pos (by rw[PB,cW hx (show fW f.nodes.length (f.bars.take i) b=6 by rw[fW,aJ (fun h=>Ok h.1)]) (by decide)];decide),PB,cW hx (show fW f.nodes.length (f.bars.take i) b=6 by rw[fW,aJ (fun h=>Ok h.1)]) (by decide)]
  replace Ok:=Ok.1 rfl;refine cH (cE hw (fun _ w' v w2=>∃d,v= .bool d∧(d=true↔jZ f.nodes.length b.2.1)) (fun O w' r=>HQ _ w' _ _ _ _ _ _ _ _ _) ?_);rintro O QQ v2 Pn OX r he hw h_ ⟨d1,rfl,Ov⟩;replace hM:=hM.cK r (cF w) he (mC h_)
  cases d1
  ·have Ov:¬jZ f.nodes.length b.2.1:=fun h=>by have:=Ov.2 h;cases this
   exact rtn hw fun ρe we re=>by show Value.int .i64 _=_;rw[eY,aJ (by omega),aJ (by rw[hE];decide),if_pos (by rw[PB,cW hx (show fW f.nodes.length (f.bars.take i) b=6 by rw[fW,aJ (fun h=>Ov h.2)]) (by decide)];decide),PB,cW hx (show fW f.nodes.length (f.bars.take i) b=6 by rw[fW,aJ (fun h=>Ov h.2)]) (by decide)]
  replace Ov:=Ov.1 rfl;refine dN.mk ?_ ?_<;>intro Pu
  ·have Pu:b.1=b.2.1:=by simpa using Pu
   exact rtn hw fun ρe we re=>by show Value.int .i64 _=_;rw[eY,aJ (by omega),aJ (by rw[hE];decide),if_pos (by rw[PB,cW hx (show fW f.nodes.length (f.bars.take i) b=3 by rw[fW,if_pos ⟨Ok,Ov⟩,if_pos Pu]) (by decide)];decide),PB,cW hx (show fW f.nodes.length (f.bars.take i) b=3 by rw[fW,if_pos ⟨Ok,Ov⟩,if_pos Pu]) (by decide)]
  have Pu:b.1≠b.2.1:=by simpa using Pu
  refine yw yc uk Ce rfl rfl (key:=nf (gb b)) (fun _=>rfl) ⟨_,rfl⟩ (fun k hk=>by obtain⟨x,_,rfl⟩:=aV.1 hk;exact⟨_,rfl⟩) (fun O w' r=>(hM.rel r (cF w)).2) (fun O w' d r hd=>?_);replace hw:=hw.tr r.cU;replace hM:=hM.rel r (cF w);replace hd:d=true↔gb b∈(f.bars.take i).map gb:=by
   rw[hd];constructor
   ·intro h;obtain⟨x,h1,h2⟩:=aV.1 h;exact aV.2 ⟨x,h1,qj h2⟩
   ·intro h;obtain⟨x,h1,h2⟩:=aV.1 h;exact aV.2 ⟨x,h1,congrArg nf h2⟩
  cases d
  ·have Q8:gb b∉(f.bars.take i).map gb:=fun h=>by have:=hd.2 h;cases this
   refine cH (cE hw (fun _ w' v w2=>v= .int .i64 (rs b.2.2)) (fun O w' r=>(Dj (oS hS r) (hF.v.cJ (kS hw r hS)) (fE.zero (S:=S)).v).mono fun _ _ ⟨v2,e1,e2,e3⟩=>⟨v2,e1,e2,by rw[e3,qf]⟩) ?_);rintro O _ _ _ Oh r he hw h_ rfl;replace hM:=hM.cK r (cF w) he (mC h_);obtain⟨cf,UF⟩:∃c,rs b.2.2=c:=⟨_,rfl⟩
   rw[UF];refine dN.mk ?_ ?_<;>intro Pg
   ·have Pg:b.2.2<=0:=by have:=aI Pg;rw[<-Rat.not_lt,<-ot];omega
    exact rtn hw fun ρe we re=>by show Value.int .i64 _=_;rw[eY,aJ (by omega),aJ (by rw[hE];decide),if_pos (by rw[PB,cW hx (show fW f.nodes.length (f.bars.take i) b=2 by rw[fW,if_pos ⟨Ok,Ov⟩,aJ Pu,aJ Q8,if_pos Pg]) (by decide)];decide),PB,cW hx (show fW f.nodes.length (f.bars.take i) b=2 by rw[fW,if_pos ⟨Ok,Ov⟩,aJ Pu,aJ Q8,if_pos Pg]) (by decide)]
   ·have Pg:0<b.2.2:=by have:=aH Pg;rw[<-ot];omega
    refine rh yc uk rfl rfl (key:=nf (gb b)) (fun _=>rfl) rfl ⟨_,rfl⟩ (fun k hk=>by obtain⟨x,_,rfl⟩:=aV.1 hk;exact⟨_,rfl⟩) (fun h=>by
     obtain⟨x,h1,h2⟩:=aV.1 h
     exact Q8 (aV.2 ⟨x,h1,qj h2⟩)) (fun O w' r=>⟨(hM.rel r (cF w)).2,Rel.not r (cF w) hM.1⟩) (fun O wa wb r Rs hg PH=>?_)
    replace hw:=(hw.tr r.cU).tr (dq.grown hg (fun x e=>by injection e with e;subst e;exact hM.1.elim (fun h=>h.elim) fun h=>h.1) r.cG);rw[show ((f.bars.take i).map fun b=>nf (gb b))++[nf (gb b)]=(f.bars.take (i+1)).map fun b=>nf (gb b) by rw[List.take_add_one,hx];simp]at Rs;replace hM:yK wb (Cf w Oh) gm ((f.bars.take (i+1)).map fun b=>nf (gb b)):=⟨hM.1,Rs⟩
    rw[gu hx (nQ.2 ⟨⟨Ok,Ov⟩,Pu,Q8,Pg⟩)]at PB;refine⟨((i+1:Nat):Int),wo,?_⟩;intro ρ3 w6 r3;exact⟨(i+1,w6,_),⟨OU,hw.tr r3.cU,PB,hM.rel r3 (cF w)⟩,Sub.gn [] r3,by dsimp only;omega⟩
  ·have hd:=hd.1 rfl;exact rtn hw fun ρe we re=>by show Value.int .i64 _=_;rw[eY,aJ (by omega),aJ (by rw[hE];decide),if_pos (by rw[PB,cW hx (show fW f.nodes.length (f.bars.take i) b=5 by rw[fW,if_pos ⟨Ok,Ov⟩,aJ Pu,if_pos hd]) (by decide)];decide),PB,cW hx (show fW f.nodes.length (f.bars.take i) b=5 by rw[fW,if_pos ⟨Ok,Ov⟩,aJ Pu,if_pos hd]) (by decide)]
 have OU:i=f.bars.length:=aU hi (by simpa using OU);rw[jP (by omega)]at PB;have Us:=PB;refine wZ (fun O wa wb r hM0 hg PH=>?_);have Oz:=(hw.tr r.cU).tr (dq.grown hg (fun x e=>by cases e) r.cG);have hB:w.heap.size<=wa.heap.size:=r.cG;have hM:yK wb (Cf w ((wa.heap.size,wa.heap.size+1)::iv)) wa.heap.size []:=⟨.inr ⟨hB,_,_,aG,Nat.le_refl _,bY _⟩,hM0⟩
 generalize (wa.heap.size,wa.heap.size+1)::iv=OX at*
 obtain⟨gm,Qd⟩:∃gm,wa.heap.size=gm:=⟨_,rfl⟩
 rw[Qd]at hM ⊢;have hw:=Oz
 refine⟨Nat×World×Iv,fun z=>⟨[(1,pP 0 0),(9,.o (.v (.map (some gm)))),(115,sV aq f.cY.length cq),(116,iZ f.cY.length),(117,iN z.1)],[(0,.box T.Frame [.v (.slice an f.nodes.length cn),.v (.slice ab f.bars.length cb),.v (.slice aq f.cY.length cq)])],1,z.2.2,z.2.1⟩,fun z=>f.cY.length-z.1,
  fun z=>z.1<=f.cY.length∧dq w.heap.size w z.2.1∧fG (kf f.nodes.length) [] f.cY=fG (kf f.nodes.length) (f.cY.take z.1) (f.cY.drop z.1)∧yK z.2.1 (Cf w z.2.2) gm ((f.cY.take z.1).map fun b=>nf (jH b)),?_,?_⟩
 ·intro O w' r3;exact⟨(0,w',OX),⟨aR _,hw.tr r3.cU,rfl,hM.rel r3 (cF w)⟩,Sub.gn [] r3⟩
 rintro⟨i,w1,iv⟩ ⟨hi,hw,PB,hM⟩;dsimp only at hi hw PB hM ⊢;refine dN.mk ?_ ?_<;>intro OU
 ·have OU:i<f.cY.length:=by simpa using OU
  obtain⟨b,hx⟩:∃b,f.cY[i]? =some b:=⟨_,aA OU⟩
  obtain⟨adb,cs,QP,hF,-,PT⟩:=hf.cY.load (by decide) hx;obtain⟨g0,g1,g2,g3,g4,g5,g6,g7,rfl,hF⟩:=hF;refine⟨adb,QP,by omega,[.int .i64 b.1,.int .i64 b.2.1,.bool g0,.slice g1 g2 g3,.bool g4,.slice g5 g6 g7],rfl,rdO PT hw hS,?_⟩;refine cH (cE hw (fun _ w' v w2=>∃d,v= .bool d∧(d=true↔jZ f.nodes.length b.1)) (fun O w' r=>HQ _ w' _ _ _ _ _ _ _ _ _) ?_);rintro O _ _ _ Og r he hw h_ ⟨d0,rfl,Ok⟩;replace hM:=hM.cK r (cF w) he (mC h_)
  cases d0
  ·have Ok:¬jZ f.nodes.length b.1:=fun h=>by have:=Ok.2 h;cases this
   exact rtn hw fun ρe we re=>by show Value.int .i64 _=_;rw[eY,aJ (by omega),aJ (by rw[hE];decide),aJ (by rw[Us];decide),PB,cW hx (show kf f.nodes.length (f.cY.take i) b=6 by rw[kf,aJ Ok]) (by decide)]
  replace Ok:=Ok.1 rfl;refine dN.mk ?_ ?_<;>intro Sl
  ·have Sl:=aI Sl;exact rtn hw fun ρe we re=>by show Value.int .i64 _=_;rw[eY,aJ (by omega),aJ (by rw[hE];decide),aJ (by rw[Us];decide),PB,cW hx (show kf f.nodes.length (f.cY.take i) b=2 by rw[kf,if_pos Ok,aJ (fun h=>by omega)]) (by decide)]
  have Sl:=aH Sl;refine dN.mk ?_ ?_<;>intro RG
  ·have RG:=aI RG;exact rtn hw fun ρe we re=>by show Value.int .i64 _=_;rw[eY,aJ (by omega),aJ (by rw[hE];decide),aJ (by rw[Us];decide),PB,cW hx (show kf f.nodes.length (f.cY.take i) b=2 by rw[kf,if_pos Ok,aJ (fun h=>by omega)]) (by decide)]
  have RG:=aH RG;have Pq:0<=b.2.1∧b.2.1<=2:=by omega
  refine yw yc uk Ce rfl rfl (key:=nf (jH b)) (fun _=>rfl) ⟨_,rfl⟩ (fun k hk=>by obtain⟨x,_,rfl⟩:=aV.1 hk;exact⟨_,rfl⟩) (fun O w' r=>(hM.rel r (cF w)).2) (fun O w' d r hd=>?_);replace hw:=hw.tr r.cU;replace hM:=hM.rel r (cF w);replace hd:d=true↔jH b∈(f.cY.take i).map jH:=by
   rw[hd];constructor
   ·intro h;obtain⟨x,h1,h2⟩:=aV.1 h;exact aV.2 ⟨x,h1,qj h2⟩
   ·intro h;obtain⟨x,h1,h2⟩:=aV.1 h;exact aV.2 ⟨x,h1,congrArg nf h2⟩
  cases d
  ·have Q8:jH b∉(f.cY.take i).map jH:=fun h=>by have:=hd.2 h;cases this
   refine cH (cE hw (fun _ w' v w2=>v= .int .i64 (rs b.2.2)) (fun O w' r=>(Dj (oS hS r) (hF.v.cJ (kS hw r hS)) (fE.zero (S:=S)).v).mono fun _ _ ⟨v2,e1,e2,e3⟩=>⟨v2,e1,e2,by rw[e3,qf]⟩) ?_);rintro O _ _ _ OX r he hw h_ rfl;replace hM:=hM.cK r (cF w) he (mC h_);obtain⟨cf,UF⟩:∃c,rs b.2.2=c:=⟨_,rfl⟩
   rw[UF];refine dN.mk ?_ ?_<;>intro Pg
   ·have Pg:b.2.2<0:=by have:=aI Pg;rw[<-lk];omega
    exact rtn hw fun ρe we re=>by show Value.int .i64 _=_;rw[eY,aJ (by omega),aJ (by rw[hE];decide),aJ (by rw[Us];decide),PB,cW hx (show kf f.nodes.length (f.cY.take i) b=2 by rw[kf,if_pos Ok,if_pos Pq,aJ Q8,if_pos Pg]) (by decide)]
   ·have Pg:0<=b.2.2:=by have:=aH Pg;rw[<-Rat.not_lt,<-lk];omega
    refine rh yc uk rfl rfl (key:=nf (jH b)) (fun _=>rfl) rfl ⟨_,rfl⟩ (fun k hk=>by obtain⟨x,_,rfl⟩:=aV.1 hk;exact⟨_,rfl⟩) (fun h=>by
     obtain⟨x,h1,h2⟩:=aV.1 h
     exact Q8 (aV.2 ⟨x,h1,qj h2⟩)) (fun O w' r=>⟨(hM.rel r (cF w)).2,Rel.not r (cF w) hM.1⟩) (fun O wa wb r Rs hg PH=>?_)
    replace hw:=(hw.tr r.cU).tr (dq.grown hg (fun x e=>by injection e with e;subst e;exact hM.1.elim (fun h=>h.elim) fun h=>h.1) r.cG);rw[show ((f.cY.take i).map fun b=>nf (jH b))++[nf (jH b)]=(f.cY.take (i+1)).map fun b=>nf (jH b) by rw[List.take_add_one,hx];simp]at Rs;replace hM:yK wb (Cf w OX) gm ((f.cY.take (i+1)).map fun b=>nf (jH b)):=⟨hM.1,Rs⟩
    rw[gu hx (rK.2 ⟨Ok,Pq,Q8,Pg⟩)]at PB;refine⟨((i+1:Nat):Int),wo,?_⟩;intro ρ3 w6 r3;exact⟨(i+1,w6,_),⟨OU,hw.tr r3.cU,PB,hM.rel r3 (cF w)⟩,Sub.gn [] r3,by dsimp only;omega⟩
  ·have hd:=hd.1 rfl;exact rtn hw fun ρe we re=>by show Value.int .i64 _=_;rw[eY,aJ (by omega),aJ (by rw[hE];decide),aJ (by rw[Us];decide),PB,cW hx (show kf f.nodes.length (f.cY.take i) b=5 by rw[kf,if_pos Ok,if_pos Pq,if_pos hd]) (by decide)]
 have OU:i=f.cY.length:=aU hi (by simpa using OU);rw[jP (by omega)]at PB;exact rtn hw fun ρe we re=>by show Value.int .i64 _=_;rw[eY,aJ (by omega),aJ (by rw[hE];decide),aJ (by rw[Us];decide),PB]
theorem ll(hS:Old S w)(hf:eF w S vn vb vs f)(hl:iE w S vl l):eG PG N.l6 #[.agg #[vn,vb,vs],vl] w (eL w fun v' _=>v'= .int .i64 (iF f l)):=by
 have hw:=bR w;obtain⟨an,cn,ab,cb,aq,cq,rfl,rfl,rfl,RH,Re,SB⟩:=hf.shape;obtain⟨al,cl,rfl,Pf,Qt⟩:=hl.shape;refine pS (by simp) ?_;refine cH (cE hw (fun _ w' v w2=>v= .int .i64 (eY f)) (fun O w' r=>Au (oS hS r) (hf.cJ (kS hw r hS))) ?_);rintro O _ _ _ Og r he hw h_ rfl;obtain⟨c,hc⟩:∃c,eY f=c:=⟨_,rfl⟩
 rw[hc];refine dN.mk ?_ ?_<;>intro hd
 ·have hd:c≠0:=by simpa using hd
  exact rtn hw fun ρe we re=>by show Value.int .i64 _=_;rw[iF,if_pos (by rw[hc];exact hd),hc]
 have hd:c=0:=by simpa using hd
 refine cH (cE hw (fun _ w' v w2=>v= .int .i64 (uj f.nodes.length l)) (fun O w' r=>Bb (oS hS r) (hl.cJ (kS hw r hS))) ?_);rintro O _ _ _ OX r he hw h_ rfl;exact rtn hw fun ρe we re=>by show Value.int .i64 _=_;rw[iF,aJ (by rw[hc,hd];decide)]
structure Calm(f:eu)(h:Nat):Prop where
 ok:uh f
 c0:0<f.cols
 b2:Ff (cS f) f.cols h
 a2:Ht (eK (cS f) f.cols).1 h
 st:kQ (cS f) f.cols=[]
 hh:3*h<=90000
structure aBG(f:eu)(l:List Ld)(h:Nat)(x:List Rat):Prop where
 ok:As f.nodes.length l
 b1:Ff (k6 (cS f) (dR (eN f l) (-1))) (f.cols+1) h
 x:oR (cS f) (dR (eN f l) (-1)) f.cols=some x
theorem gj(f:eu)(l:List Ld):(eN f l).length=3*f.nodes.length:=by rw[eN,dH,aL,kM]
theorem uo(a b:List Rat):(mO a b).length=a.length:=List.length_mapIdx ..
set_option maxRecDepth 100000
theorem fE.zeroV:fE w S (.agg #[.bool false,.slice none 0 0,.bool false,.slice none 0 0]) 0:=fE.zero
structure ew(w:World)(S:Nat->Prop)(css:List (List Value))(qs:List Rat):Prop where
 len:css.length=qs.length
 four:∀cs∈css,cs.length=4
 at_:∀(j:Nat) cs q,css[j]? =some cs->qs[j]? =some q->iz w S cs q
section
variable{S S':Nat->Prop}{H:Hp}{nx:Nat}{iv iv':Iv}{B:Nat}{w w' w2:World}{O:Nat->Sx.dw}{css:List (List Value)}{qs:List Rat}
theorem ew.nil:ew w S [] []:=⟨rfl,fun _ h=>(by cases h),fun _ _ _ h=>by cases h⟩
theorem ew.cJ(h:ew w S css qs)(hk:∀g,S g->w2.heap[g]? =w.heap[g]?):ew w2 S css qs:=⟨h.len,h.four,fun j cs q h1 h2=>by
 obtain⟨b,a,n,c,b2,a2,n2,c2,e,hr⟩:=h.at_ j cs q h1 h2
 exact⟨b,a,n,c,b2,a2,n2,c2,e,hr.cJ hk⟩⟩
theorem ew.cL(h:ew w S css qs)(hk:∀g,S g->S' g):ew w S' css qs:=⟨h.len,h.four,fun j cs q h1 h2=>by
 obtain⟨b,a,n,c,b2,a2,n2,c2,e,hr⟩:=h.at_ j cs q h1 h2
 exact⟨b,a,n,c,b2,a2,n2,c2,e,hr.cL hk⟩⟩
theorem ew.rel(h:ew w (Cv S B iv) css qs)(r:Rel H nx iv B w O w')(hS:∀g,S g->g<B):ew w' (Cv S B iv) css qs:=h.cJ fun _ hg=>Rel.same r hS hg
theorem ew.cK(h:ew w (Cv S B iv) css qs)(r:Rel H nx iv B w O w')(hS:∀g,S g->g<B)(he:Ext w' w2)(hm:∀p,p∈iv->p∈iv'):ew w2 (Cv S B iv') css qs:=
 ((h.rel r hS).cJ fun g hg=>he.block g (Rel.old r hS g hg)).cL fun _ hg=>hg.mono hm
theorem ew.push(h:ew w S css qs)(hc:iz w S cs q)(h4:cs.length=4):ew w S (css++[cs]) (qs++[q]):=by
 refine⟨by simp[h.len],fun x hx=>?_,fun j x p h1 h2=>?_⟩
 ·rcases bE.1 hx with hx|hx
  ·exact h.four x hx
  ·rw[bL.1 hx];exact h4
 ·rcases aS j css.length with hi|hi
  ·rw[aK hi]at h1;rw[aK (by rw[<-h.len];exact hi)]at h2;exact h.at_ j x p h1 h2
  ·have SF:j=css.length:=by have:=(aE.1 h1).1;simp at this;omega
   subst SF;rw[aO (Nat.le_refl _),bK]at h1;rw[h.len,aO (Nat.le_refl _),bK]at h2;simp at h1 h2;subst h1 h2;exact hc
theorem ew.one(h:ew w S css qs):∀u∈css.flatten,u.oneCell'=true:=fun u hu=>by
 obtain⟨cs,hc,hu⟩:=List.mem_flatten.1 hu;obtain⟨j,hj⟩:=aN hc;obtain⟨_,_,_,_,_,_,_,_,rfl,_⟩:=h.at_ j cs _ hj (aA (by rw[<-h.len];exact(aE.1 hj).1));simp at hu;rcases hu with rfl|rfl|rfl|rfl<;>rfl
theorem ew.list(h:ew w S css qs)(hs:iR w S 4 v css.flatten css.length):cO w S v qs:=⟨css,h.len▸hs,h.len,h.four,h.at_⟩
end
theorem eF.dF{w' w2:World}{B:Nat}{iv:Iv}(h:eF w2 (Nf w' w2) vn vb vs f)(hB:B<=w'.heap.size)(hm:(w'.heap.size,w2.heap.size)∈iv):eF w2 (Cv FF B iv) vn vb vs f:=h.cL fun _ hg=>hg.dF hB hm
def Fo(cs:List Value):Prop:=∃b a n c b2 a2 n2 c2,cs=[.bool b,.slice a n c,.bool b2,.slice a2 n2 c2]∧n<=3∧n2<=3
theorem jy(a:Addr)(m n:Nat):(a.add m).add n=a.add (m+n):=by
 unfold Addr.add;split<;>split<;>simp_all<;>omega
theorem iP.l3{b1 b2:Bool}{a1 a2:Option Addr}{n1 n2 c1 c2:Nat}{a b:Int}(h:iP w S (.agg #[.bool b1,.slice a1 n1 c1,.bool b2,.slice a2 n2 c2]) a b)(hf:Fo [.bool b1,.slice a1 n1 c1,.bool b2,.slice a2 n2 c2]):
  fE w S (.agg #[.bool b1,.slice a1 n1 c1,.bool b2,.slice a2 n2 c2]) (ratio a b)∧rl (ratio a b)<=3:=by
 obtain⟨_,_,_,_,_,_,_,_,e,k1,k2⟩:=hf;simp only[List.cons.injEq,Value.slice.injEq,Value.bool.injEq,and_true]at e;obtain⟨rfl,⟨rfl,rfl,rfl⟩,rfl,rfl,rfl,rfl⟩:=e;obtain⟨b1,l1,b2,l2,e,h1,h2⟩:=h;simp only[Value.agg.injEq,Array.mk.injEq,List.cons.injEq,Value.bool.injEq,and_true]at e;obtain⟨rfl,rfl,rfl,rfl⟩:=e;have g1:=h1.short k1;have g2:=h2.short k2;have r1:=g1.ln;have r2:=g2.ln;have hr:=iK a b;refine⟨⟨_,_,_,_,a,b,rfl,?_,?_,rfl⟩,by omega⟩
 ·obtain⟨ng,ls,i1,i2,i3⟩:=g1;exact⟨ng,ls,i1,i2,by omega⟩
 ·obtain⟨ng,ls,i1,i2,i3⟩:=g2;exact⟨ng,ls,i1,i2,by omega⟩
end Go.Ex
namespace Go.Ex
theorem aAk{a b x p q:Rat}(h1:a<x)(h2:x<=b):(p<=q->p<=p+(x-a) / (b-a)*(q-p)∧p+(x-a) / (b-a)*(q-p)<=q)∧(q<=p->q<=p+(x-a) / (b-a)*(q-p)∧p+(x-a) / (b-a)*(q-p)<=p):=by
 have hd:0<b-a:=by grind
 have hi:0<=(b-a)⁻¹:=Rat.le_of_lt (Rat.inv_pos.2 hd);obtain⟨t,ht⟩:∃t,(x-a) / (b-a)=t:=⟨_,rfl⟩
 have t0:0<=t:=by rw[<-ht,bo];exact Rat.mul_nonneg (by grind) hi
 have t1:t<=1:=by
  rw[<-ht,bo,<-Rat.mul_inv_cancel (b-a) (by grind)];exact Rat.mul_le_mul_of_nonneg_right (by grind) hi
 rw[ht];refine⟨fun h=>?_,fun h=>?_⟩
 ·have k1:0<=t*(q-p):=Rat.mul_nonneg t0 (by grind);have k2:t*(q-p)<=1*(q-p):=Rat.mul_le_mul_of_nonneg_right t1 (by grind);grind
 ·have k1:0<=t*(p-q):=Rat.mul_nonneg t0 (by grind);have k2:t*(p-q)<=1*(p-q):=Rat.mul_le_mul_of_nonneg_right t1 (by grind);have k3:t*(q-p)= -(t*(p-q)):=by grind
  grind
end Go.Ex
namespace Go.Ex
open Go Go.Sx Go.Proofs
end Go.Ex
