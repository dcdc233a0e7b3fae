/- A part of the proof: texts X139 to X146. Each tells its conditions in its theorems. -/
import Derived.Test.YtkdcaknoaeicdaaGreatP11
namespace Go.Ex
open Go Go.Sx Go.Proofs
theorem I8{α:Type}{rv:List α}{a b:α}{i m:Nat}(hl:rv.length=i)(h:i<m):(rv++List.replicate (m-i) b).take i++[a]++(rv++List.replicate (m-i) b).drop (i+1)=(rv++[a])++List.replicate (m-(i+1)) b:=by
 rw[List.take_left' hl,List.drop_append,hl,List.drop_of_length_le (by omega),List.nil_append,List.drop_replicate];congr 2;omega
end Go.Ex
namespace Go.Sx
open Go Go.Ex Go.Proofs
variable{cs:List Value}{O:Nat->Sx.df}
theorem Rel.Jt{H:Hp}{nx:Nat}{iv:Iv}{B:Nat}{w w':World}(r:Rel H nx iv B w O w'){id t m sz:Nat}(h:dA H id=some (.arr t cs))(hm:cs.length=m*sz)(hm1:m<=maxLen)(h1:∀u∈cs,u.oneCell'=true):
  ig w' (fun g=>B<=g∧g<w'.heap.size) sz (.slice (some ⟨(O id).g,0,none⟩) m m) cs m:=by
 have hl:=r.low id _ h (r.fits h).1;refine⟨hm1,hm,h1,_,m,rfl,aG _,fun j u hu=>⟨_,rfl,hl,?_⟩⟩;rw[dP,cell_of (r.arr id _ _ h),aV];exact hu
end Go.Sx
namespace Go.Ex
open Go Go.Sx Go.Proofs
variable{d:Int}{b s:Int×Int×Rat}{M:List (List Int)}{l:List Int}{c r:Nat}{S:Nat->Prop}{f:eh}
theorem Ay:(sU M r c d).length=M.length:=bY ..
theorem Gs:(putAt M r c d).length=M.length:=bY ..
def Ep(M:List (List Int))(t:Int):Prop:=∀l∈M,∀z∈l,-t<=z∧z<=t
theorem Ep.set{t t2:Int}{z:Int}(h:Ep M t)(ht:t<=t2)(hl:M[r]? =some l)(hz: -t2<=z∧z<=t2):Ep (M.set r (l.set c z)) t2:=fun x hx y hy=>by
 rcases bI hx with hx|rfl
 ·have:=h x hx y hy;omega
 ·rcases bI hy with hy|rfl
  ·have:=h l (aD hl) y hy;omega
  ·exact hz
theorem Db(f:eh):∀i,(dZ f i).length=3*f.nodes.length
 |0=>bH ..
 |i+1=>by
  have h:=Db f i;have key:∀k,(eL f (dZ f i) i k).length=3*f.nodes.length:=fun k=>by
   induction k with
   |zero=>exact h
   |succ k ih=>rw[eL,Ay,Ay];exact ih
  exact key 3
theorem mh(f:eh):∀i,(ee f i).length=3*f.nodes.length
 |0=>Db f _
 |i+1=>by rw[ee,Gs];exact mh f i
theorem I9{i k ka kb:Nat}{za zb:Int}{la lb:List Int}(hb:f.bars[i]? =some b)(ea:b.1=ka)(eb:b.2.1=kb)(hd:(rN f b).getD k 0=d)
  (hla:(eL f M i k)[3*ka+k]? =some la) (hza:la[i]? =some za) (hlb:((eL f M i k).set (3*ka+k) (la.set i (za+d)))[3*kb+k]? =some lb) (hzb:lb[i]? =some zb):
  ((eL f M i k).set (3*ka+k) (la.set i (za+d))).set (3*kb+k) (lb.set i (zb-d))=eL f M i (k+1):=by
 have h1:f.bars.getD i (0,0,0)=b:=by rw[List.getD,hb];rfl
 have e1:(3*b.1+(k:Int)).toNat=3*ka+k:=by rw[ea];omega
 have e2:(3*b.2.1+(k:Int)).toNat=3*kb+k:=by rw[eb];omega
 have ha:sU (eL f M i k) (3*ka+k) i d=(eL f M i k).set (3*ka+k) (la.set i (za+d)):=by
  rw[sU,show(eL f M i k).getD (3*ka+k) []=la by rw[List.getD,hla];rfl,show la.getD i 0=za by rw[List.getD,hza];rfl]
 rw[eL];simp only[h1,hd,e1,e2,ha]
 rw[sU,show((eL f M i k).set (3*ka+k) (la.set i (za+d))).getD (3*kb+k) []=lb by rw[List.getD,hlb];rfl,show lb.getD i 0=zb by rw[List.getD,hzb];rfl,Int.sub_eq_add_neg]
theorem Dc{i ks:Nat}(hs:f.cU[i]? =some s)(es:3*s.1+s.2.1=ks)(hl:(ee f i)[ks]? =some l):(ee f i).set ks (l.set (f.bars.length+i) 1)=ee f (i+1):=by
 rw[ee,putAt];simp only[show f.cU.getD i (0,0,0)=s by rw[List.getD,hs];rfl,es,aF,show(ee f i).getD ks []=l by rw[List.getD,hl];rfl]
set_option maxHeartbeats 2000000 in
theorem Gt{w:World}{vn vb vs:Value}(hS:Old S w)(hf:dV w S vn vb vs f)(hok:qp f):
  dm PG N.pB #[.agg #[vn,vb,vs]] w (eB w fun v' w2=>wX w2 (Nf w w2) v' (gw f)∧Ep (gw f) 800000000∧(∀l∈gw f,l.length=f.cols)∧(gw f).length=3*f.nodes.length):=by
 have hw:cV w.heap.size w w:=cV.refl;obtain⟨an,cn,ab,cb,aq,cq,rfl,rfl,rfl,hmn,hmb,hms⟩:=hf.shape;obtain⟨hn20,hb60,hs60⟩:=And.intro hok.n (And.intro hok.b hok.s);refine tK (by simp) ?_;refine⟨((3*f.nodes.length:Nat):Int),wo,?_⟩;obtain⟨m,hm⟩:∃m,3*f.nodes.length=m:=⟨_,rfl⟩
 rw[hm]
 refine⟨m,m,rfl,rfl,aG _,by omega,by omega,Nat×List Value×World×Iv,fun z=>⟨[(1,.o (.p 0 0)),(3,.o (.s 1 0 m m)),(17,.o (.v (.int .i64 m))),(18,.o (.v (.int .i64 ((z.1:Nat):Int))))],[(1,.arr T.Lint (z.2.1++List.replicate (m-z.1) (.slice none 0 0))),(0,.box T.Frame [.v (.slice an f.nodes.length cn),.v (.slice ab f.bars.length cb),.v (.slice aq f.cU.length cq)])],2,z.2.2.2,z.2.2.1⟩,fun z=>m-z.1,
  fun z=>z.1<=m∧z.2.1.length=z.1∧cV w.heap.size w z.2.2.1∧gP z.2.2.1 w.heap.size z.2.2.2 z.2.1 f.cols (List.replicate z.1 (List.replicate f.cols 0)),?_,?_⟩
 ·intro O w' r3;exact⟨(0,[],w',[]),⟨aP _,rfl,hw.tr r3.cM,gP.nil⟩,Sub.gn [] r3⟩
 rintro⟨i,rv,w1,iv⟩ ⟨hi,hrl,hw,hE⟩;dsimp only at hi hrl hw hE ⊢;refine dI.mk (fun hib=>?_) (fun hib=>?_)
 ·have hib:i<m:=by simpa using hib
  refine⟨((f.cols:Nat):Int),by rw[wrap64]<;>first|rfl|omega,f.cols,f.cols,rfl,rfl,aG _,by unfold eh.cols;omega,by unfold eh.cols;omega,by omega,?_⟩;refine GW hτ (id:=1) (id2:=2) (tH:=[(1,.arr T.Lint (rv++List.replicate (m-i) (.slice none 0 0))),(0,.box T.Frame [.v (.slice an f.nodes.length cn),.v (.slice ab f.bars.length cb),.v (.slice aq f.cU.length cq)])]) rfl rfl (by decide) rfl ⟨rfl,rfl,trivial⟩ rfl (fun O w' r=>?_);have hn:=(r.fits (id:=2) rfl).1;have hrow:w'.ownsRow 0 T.int 1 (.slice (some ⟨(O 2).g,0,none⟩) f.cols f.cols) f.cols ((List.replicate f.cols (0:Int)).map fun z=>.int .i64 z):=
   ⟨by simp,.inr ⟨(O 2).g,f.cols,(List.replicate f.cols (Value.int .i64 0)).toArray,rfl,aP _,r.arr 2 _ _ rfl,aG _,by unfold eh.cols maxLen;omega,by simp,by simp⟩⟩
  have hE2:=(hE.rel r).push (gx:=(O 2).g) (l:=List.replicate f.cols 0) (fun g hg e=>Rel.not r (fz _) hg 2 _ rfl hn e.symm) (r.low 2 _ rfl hn).1 (by simp) hrow;rw[<-List.replicate_succ']at hE2;have hw2:=hw.tr r.cM;generalize (O 2).g=gx at*
  generalize (gx,gx+1)::iv=iv2 at*
  refine⟨by simp[hrl];omega,(rv++[.slice (some ⟨gx,0,none⟩) f.cols f.cols])++List.replicate (m-(i+1)) (.slice none 0 0),?_,?_⟩
  ·rw[aF,aU,aV];exact I8 hrl hib
  refine⟨((i+1:Nat):Int),wo,?_⟩;intro ρ3 w3 r3;exact⟨(i+1,rv++[.slice (some ⟨gx,0,none⟩) f.cols f.cols],w3,_),⟨hib,by simp[hrl],hw2.tr r3.cM,hE2.rel r3⟩,Sub.gn [] r3,by dsimp only;omega⟩
 have hib:i=m:=aR hi (by simpa using hib);subst hib;have hE0:gP w1 w.heap.size iv rv f.cols (dZ f 0):=by rw[dZ,hm];exact hE
 have hbd0:Ep (dZ f 0) 0:=fun l hl z hz=>by
  rw[dZ]at hl;rw[bV hl]at hz;rw[bV hz];exact⟨Int.le_refl _,Int.le_refl _⟩
 refine⟨Nat×World×Iv,fun z=>⟨[(1,.o (.p 0 0)),(3,.o (.s 1 0 i i)),(34,.o (.v (.slice ab f.bars.length cb))),(35,.o (.v (.int .i64 f.bars.length))),(36,.o (.v (.int .i64 ((z.1:Nat):Int))))],[(1,.arr T.Lint rv),(0,.box T.Frame [.v (.slice an f.nodes.length cn),.v (.slice ab f.bars.length cb),.v (.slice aq f.cU.length cq)])],2,z.2.2,z.2.1⟩,fun z=>f.bars.length-z.1,
  fun z=>z.1<=f.bars.length∧cV w.heap.size w z.2.1∧gP z.2.1 w.heap.size z.2.2 rv f.cols (dZ f z.1)∧Ep (dZ f z.1) (12000000*z.1),?_,?_⟩
 ·intro O w' r3;exact⟨(0,w',_),⟨aP _,hw.tr r3.cM,hE0.rel r3,hbd0⟩,Sub.gn [] r3 ⟨by simp;rfl,rfl,trivial⟩⟩
 rintro⟨j,w2,iv⟩ ⟨hj,hw,hE,hbd⟩;dsimp only at hj hw hE hbd ⊢;refine dI.mk (fun hjb=>?_) (fun hjb=>?_)
 ·have hjb:j<f.bars.length:=by simpa using hjb
  obtain⟨b,hb⟩:∃b,f.bars[j]? =some b:=⟨_,aB hjb⟩
  obtain⟨hA,hB⟩:=hok.Jg b (aD hb);obtain⟨ka,pa,ea,hka,-,hna,⟨_,_⟩,⟨_,_⟩,⟨_,_⟩⟩:=hok.node hA.1 hA.2;obtain⟨kb,pb,eb,hkb,-,hnb,⟨_,_⟩,⟨_,_⟩,⟨_,_⟩⟩:=hok.node hB.1 hB.2;obtain⟨adb,cs,hab,hF,-,hlb⟩:=hf.bars.load (by decide) hb;obtain⟨g0,g1,g2,g3,g4,g5,g6,g7,rfl,hF⟩:=hF;refine⟨adb,hab,by omega,[.int .i64 b.1,.int .i64 b.2.1,.bool g0,.slice g1 g2 g3,.bool g4,.slice g5 g6 g7],rfl,rdO hlb hw hS,?_⟩;refine cC (cL (Φ:=fun _ w' v w2=>v= .agg #[.int .i64 ((f.node b.2.1).1-(f.node b.1).1),.int .i64 ((f.node b.2.1).2.1-(f.node b.1).2.1),.int .i64 ((f.node b.2.1).2.2-(f.node b.1).2.2)]) (fun O w' r=>zz (S:=S) (oS hS r) (hf.cG (kS hw r hS)).nodes hok hA hB) ?_);rintro O wa1 v1 wb1 r he hb1 rfl;replace hw:=hw.tr hb1;replace hE:=hE.cF (iv':=(wa1.heap.size,wb1.heap.size)::iv) r he fun x hx=>aC _ hx;generalize (wa1.heap.size,wb1.heap.size)::iv=iv1 at*
  rw[hna,hnb];have hbD:rN f b=[pb.1-pa.1,pb.2.1-pa.2.1,pb.2.2-pa.2.2]:=by rw[rN,hna,hnb]
  refine⟨Nat×World×Iv,fun z=>⟨[(1,.o (.p 0 0)),(3,.o (.s 1 0 i i)),(5,.o (.v (.int .i64 ((j:Nat):Int)))),(6,.o (.p 2 0)),(43,.o (.v (.agg #[.int .i64 (pb.1-pa.1),.int .i64 (pb.2.1-pa.2.1),.int .i64 (pb.2.2-pa.2.2)]))),(34,.o (.v (.slice ab f.bars.length cb))),(35,.o (.v (.int .i64 f.bars.length))),(36,.o (.v (.int .i64 ((j:Nat):Int)))),(44,.o (.v (.int .i64 ((z.1:Nat):Int))))],[(2,.box T.MU [.v (.int .i64 b.1),.v (.int .i64 b.2.1),.v (.bool g0),.v (.slice g1 g2 g3),.v (.bool g4),.v (.slice g5 g6 g7)]),(1,.arr T.Lint rv),(0,.box T.Frame [.v (.slice an f.nodes.length cn),.v (.slice ab f.bars.length cb),.v (.slice aq f.cU.length cq)])],3,z.2.2,z.2.1⟩,fun z=>3-z.1,
   fun z=>z.1<=3∧cV w.heap.size w z.2.1∧gP z.2.1 w.heap.size z.2.2 rv f.cols (eL f (dZ f j) j z.1)∧Ep (eL f (dZ f j) j z.1) (12000000*j+4000000*z.1),?_,?_⟩
  ·intro O w' r3;exact⟨(0,w',_),⟨aP _,hw.tr r3.cM,hE.rel r3,hbd⟩,Sub.gn [] r3⟩
  rintro⟨k,w3,iv⟩ ⟨hk,hw,hE,hbd⟩;dsimp only at hk hw hE hbd ⊢;refine dI.mk (fun hkb=>?_) (fun hkb=>?_)
  ·have hkb:k<3:=by have:=aI hkb;omega
   obtain⟨d,hd⟩:∃d,(rN f b).getD k 0=d:=⟨_,rfl⟩
   have hdb: -2000000<=d∧d<=2000000:=by
    rw[<-hd,hbD];rcases(show k=0∨k=1∨k=2 by omega)with rfl|rfl|rfl<;>simp[List.getD]<;>omega
   have hMl:(eL f (dZ f j) j k).length=3*f.nodes.length:=by rw[<-hE.len];have:=hE.len;omega
   have hcols:f.cols=f.bars.length+f.cU.length:=rfl;refine zI hτ rfl rfl rfl (fun _=>rfl) rfl ⟨by omega,by omega⟩ (u:=.int .i64 d) ?_ (fun O w4 r=>?_)
   ·rw[<-hd,hbD,aF];rcases(show k=0∨k=1∨k=2 by omega)with rfl|rfl|rfl<;>rfl
   replace hw:=hw.tr r.cM;replace hE:=hE.rel r;obtain⟨la,hla⟩:∃l,(eL f (dZ f j) j k)[3*ka+k]? =some l:=⟨_,aB (by first|omega|(rw [bY];omega))⟩
   have hlaw:=hE.wid la (aD hla);obtain⟨za,hza⟩:∃z,la[j]? =some z:=⟨_,aB (by omega)⟩
   have hzab:=hbd la (aD hla) za (aD hza);obtain⟨va,hva⟩:∃v,rv[3*ka+k]? =some v:=⟨_,aB (by have:=(aE.1 hla).1;rw[hE.len];exact this)⟩
   obtain⟨aa5,ca5,rfl⟩:=hE.form hva;obtain⟨ada5,haa5,hxa1,hxa2⟩:=hE.load hva hla hza;refine⟨((3*ka:Nat):Int),by rw[ea,wrap64]<;>omega,((3*ka+k:Nat):Int),wo,by omega,.slice aa5 f.cols ca5,by rw[aF,aU,aV];exact hva,ada5,haa5,by omega,.int .i64 za,fun O w' r=>?_,?_⟩
   ·rw[aF,cH (w:=w4) (w2:=w') (by rw[dQ];exact Rel.same r (fz _) hxa1)];exact hxa2
   refine⟨za+d,wo,ada5,haa5,by omega,?_⟩;intro O w' r;obtain⟨g,hg,h1,h2,h3,h4⟩:=hE.store r (z:=za+d) hva hla (show j<f.cols by omega);rw[haa5]at hg;injection hg with hg;subst hg;refine⟨h1,h2,h3,fun w5 hw5=>?_⟩;obtain⟨k1,k2,k3,-,-⟩:=h4 w5 hw5;replace hw:=(hw.tr r.cM).tr k2;replace hbd:=hbd.set (r:=3*ka+k) (c:=j) (z:=za+d) (t2:=12000000*j+4000000*k+2000000) (by omega) hla (by omega);replace hE:=k1;obtain⟨lb,hlb⟩:∃l,((eL f (dZ f j) j k).set (3*ka+k) (la.set j (za+d)))[3*kb+k]? =some l:=⟨_,aB (by first|omega|(rw [bY];omega))⟩
   have hlbw:=hE.wid lb (aD hlb);obtain⟨zb,hzb⟩:∃z,lb[j]? =some z:=⟨_,aB (by omega)⟩
   have hzbb:=hbd lb (aD hlb) zb (aD hzb);obtain⟨vb,hvb⟩:∃v,rv[3*kb+k]? =some v:=⟨_,aB (by have:=(aE.1 hlb).1;rw[hE.len];exact this)⟩
   obtain⟨ab5,cb5,rfl⟩:=hE.form hvb;obtain⟨adb5,hab5,hxb1,hxb2⟩:=hE.load hvb hlb hzb;refine⟨((3*kb:Nat):Int),by rw[eb,wrap64]<;>omega,((3*kb+k:Nat):Int),wo,by omega,.slice ab5 f.cols cb5,by rw[aF,aU,aV];exact hvb,adb5,hab5,by omega,.int .i64 zb,fun O w' r=>?_,?_⟩
   ·rw[aF,cH (w:=w5) (w2:=w') (by rw[dQ];exact Rel.same r (fz _) hxb1)];exact hxb2
   refine⟨zb-d,wo,adb5,hab5,by omega,?_⟩;intro O w' r;obtain⟨g,hg,h1,h2,h3,h4⟩:=hE.store r (z:=zb-d) hvb hlb (show j<f.cols by omega);rw[hab5]at hg;injection hg with hg;subst hg;refine⟨h1,h2,h3,fun w5 hw5=>?_⟩;obtain⟨k1,k2,k3,-,-⟩:=h4 w5 hw5;replace hw:=(hw.tr r.cM).tr k2;replace hbd:=hbd.set (r:=3*kb+k) (c:=j) (z:=zb-d) (t2:=12000000*j+4000000*(k+1:Nat)) (by omega) hlb (by omega);replace hE:=k1;rw[I9 hb ea eb hd hla hza hlb hzb]at hE hbd;refine⟨((k+1:Nat):Int),wo,?_⟩;intro ρ3 w6 r3;exact⟨(k+1,w6,_),⟨hkb,hw.tr r3.cM,hE.rel r3,hbd⟩,Sub.gn [] r3,by dsimp only;omega⟩
  have hkb:k=3:=by have:=aH hkb;omega
  subst hkb;refine⟨((j+1:Nat):Int),wo,?_⟩;intro ρ3 w6 r3;exact⟨(j+1,w6,_),⟨hjb,hw.tr r3.cM,hE.rel r3,fun l hl z hz=>by have:=hbd l hl z hz;dsimp only;omega⟩,Sub.gn [] r3,by dsimp only;omega⟩
 have hjb:j=f.bars.length:=aR hj (by simpa using hjb);subst hjb
 refine⟨Nat×World×Iv,fun z=>⟨[(1,.o (.p 0 0)),(3,.o (.s 1 0 i i)),(79,.o (.v (.slice aq f.cU.length cq))),(80,.o (.v (.int .i64 f.cU.length))),(81,.o (.v (.int .i64 ((z.1:Nat):Int))))],[(1,.arr T.Lint rv),(0,.box T.Frame [.v (.slice an f.nodes.length cn),.v (.slice ab f.bars.length cb),.v (.slice aq f.cU.length cq)])],2,z.2.2,z.2.1⟩,fun z=>f.cU.length-z.1,
  fun z=>z.1<=f.cU.length∧cV w.heap.size w z.2.1∧gP z.2.1 w.heap.size z.2.2 rv f.cols (ee f z.1)∧Ep (ee f z.1) 800000000,?_,?_⟩
 ·intro O w' r3;exact⟨(0,w',_),⟨aP _,hw.tr r3.cM,hE.rel r3,fun l hl z hz=>by have:=hbd l hl z hz;omega⟩,Sub.gn [] r3⟩
 rintro⟨j,w2,iv⟩ ⟨hj,hw,hE,hbd⟩;dsimp only at hj hw hE hbd ⊢;refine dI.mk (fun hjb=>?_) (fun hjb=>?_)
 ·have hjb:j<f.cU.length:=by simpa using hjb
  obtain⟨s,hs⟩:∃b,f.cU[j]? =some b:=⟨_,aB hjb⟩
  obtain⟨hA,hB⟩:=hok.sup s (aD hs);obtain⟨ks,hks⟩:=Int.eq_ofNat_of_zero_le (show 0<=3*s.1+s.2.1 by omega);have hcols:f.cols=f.bars.length+f.cU.length:=rfl;have hMl:=mh f j;obtain⟨l,hl⟩:∃l,(ee f j)[ks]? =some l:=⟨_,aB (by omega)⟩
  have hlw:=hE.wid l (aD hl);obtain⟨v,hv⟩:∃v,rv[ks]? =some v:=⟨_,aB (by rw[hE.len];omega)⟩
  obtain⟨a5,c5,rfl⟩:=hE.form hv;obtain⟨z0,hz0⟩:∃z,l[f.bars.length+j]? =some z:=⟨_,aB (by omega)⟩
  obtain⟨ad5,ha5,-,-⟩:=hE.load hv hl hz0;obtain⟨adb,cs,hab,hF,-,hlb⟩:=hf.cU.load (by decide) hs;obtain⟨g0,g1,g2,g3,g4,g5,g6,g7,rfl,hF⟩:=hF;refine⟨adb,hab,by omega,[.int .i64 s.1,.int .i64 s.2.1,.bool g0,.slice g1 g2 g3,.bool g4,.slice g5 g6 g7],rfl,rdO hlb hw hS,?_⟩;refine cJ hτ db [.x 0,.x 1,.x 2,.x 3,.x 4,.x 5,.x 6,.x 7,.x 8,.x 9,.x 10,.x 11,.x 12,.x 13,.x 14,.x 15] (by kernel_rfl) (by kernel_rfl) ?_;refine⟨3*s.1,wo,((ks:Nat):Int),wo,by omega,.slice a5 f.cols c5,by rw[aF,aU,aV];exact hv,((f.bars.length+j:Nat):Int),wo,ad5,ha5,by omega,?_⟩;intro O w' r;obtain⟨g,hg,h1,h2,h3,h4⟩:=hE.store r (z:=1) hv hl (show f.bars.length+j<f.cols by omega);rw[ha5]at hg;injection hg with hg;subst hg;refine⟨h1,h2,h3,fun w5 hw5=>?_⟩;obtain⟨k1,k2,k3,-,-⟩:=h4 w5 hw5;replace hw:=(hw.tr r.cM).tr k2;have hbd2:=hbd.set (r:=ks) (c:=f.bars.length+j) (z:=1) (t2:=800000000) (by omega) hl (by omega);rw[Dc hs hks hl]at k1 hbd2;refine⟨((j+1:Nat):Int),wo,?_⟩;intro ρ3 w6 r3;exact⟨(j+1,w6,_),⟨hjb,hw.tr r3.cM,k1.rel r3,hbd2⟩,Sub.gn [] r3,by dsimp only;omega⟩
 have hjb:j=f.cU.length:=aR hj (by simpa using hjb);subst hjb;intro ρe we re;have hE2:=hE.rel re;have hMl:=mh f f.cU.length;have hrl2:=hE.len;refine⟨_,rfl,hw.tr re.cM,⟨rv,?_,hE.len,fun i u x k1 k2=>?_⟩,hbd,hE.wid,by rw[<-hm];exact hMl⟩
 ·rw[show (gw f).length=rv.length from hE.len.symm];have h5:=re.Jt (id:=1) (sz:=1) (m:=rv.length) rfl (by simp) (by unfold maxLen;omega) hE.one;rw[show (i:Nat)=rv.length by omega];exact h5.cI fun g hg=>.inr hg
 ·obtain⟨a,c,rfl⟩:=hE.form k1;have hxl:=hE.wid x (aD k2);refine⟨by rw[hxl];unfold eh.cols maxLen;omega,by simp,fun v hv=>by obtain⟨z,_,rfl⟩:=aT.1 hv;rfl,a,c,by rw[hxl],?_,fun t v hv=>?_⟩
  ·rw[hxl];obtain⟨a2,c2,e,h⟩:=jL (hE.row i _ x k1 k2);injection e with e1 e2 e3;omega
  ·rw[aN]at hv
   cases ht:x[t]? with
   |none=>rw[ht]at hv;cases hv
   |some z=>
    rw[ht]at hv;simp only[Option.map_some,Option.some.injEq]at hv;subst hv;obtain⟨ad,h1,h2,h3⟩:=hE2.load k1 k2 ht;exact⟨ad,h1,Cv.nw h2 re,by rw[aU]at h3;exact h3⟩
end Go.Ex
namespace Go.Ex
open Go Go.Sx Go.Proofs
variable{cs:Array Value}{z:Int}{p:Int×Int×Int}{b:Int×Int×Rat}{xs:List (Int×Int×Int)}{seen:List (Int×Int×Rat)}{css:List (List Value)}{s:List Int}{l:List Ld}{qs x:List Rat}{h j n:Nat}{S:Nat->Prop}{a an:Option Addr}{v vb vl vn vs:Value}{w:World}{f:eh}
theorem lg(f:eh):(cQ f).length=3*f.nodes.length:=by rw[cQ,aL];exact mh f _
theorem Az(h1: -2000000000<=z)(h2:z<=2000000000):rl (z:Rat)<=1:=by
 have e1:((z:Rat)).num=z:=rfl;have e2:((z:Rat)).den=1:=rfl;rw[rl,e1,e2];have a1:ln z.natAbs<=1:=fg.2 (by rw[tw];omega);have a2:ln 1<=1:=by decide
 omega
set_option maxHeartbeats 1000000 in
theorem n9(hS:Old S w)(hf:dV w S vn vb vs f)(hok:qp f):
  dm PG N.oB #[.agg #[vn,vb,vs]] w (eB w fun v' w2=>(∃vr,v'= .agg #[vr,.int .i64 f.cols]∧cR w2 (Nf w w2) vr (cQ f))∧fe f.cols (cQ f)∧Ht (cQ f) 2):=by
 have hw:cV w.heap.size w w:=cV.refl;obtain⟨an,cn,ab,cb,aq,cq,rfl,rfl,rfl,hmn,hmb,hms⟩:=hf.shape;obtain⟨hn20,hb60,hs60⟩:=And.intro hok.n (And.intro hok.b hok.s);have hcols:f.cols=f.bars.length+f.cU.length:=rfl;refine rW (by simp) ?_;refine⟨((f.cols:Nat):Int),by rw[wrap64]<;>first|rfl|omega,?_⟩;refine cC (cL (Φ:=fun _ w' v w2=>wX w2 (Nf w' w2) v (gw f)∧Ep (gw f) 800000000∧(∀l∈gw f,l.length=f.cols)∧(gw f).length=3*f.nodes.length) (fun O w' r=>Gt (S:=S) (oS hS r) (hf.cG (kS hw r hS)) hok) ?_);rintro O wa1 v1 wb1 r he hb1 ⟨k1,hbd,hwid,hml⟩;replace hw:=hw.tr hb1;have hM:=wX.cI k1 fun g hg=>hg.c9 (B:=w.heap.size) (S:=fun _=>False) r.cD (iv:=(wa1.heap.size,wb1.heap.size)::[]) aJ;generalize (wa1.heap.size,wb1.heap.size)::[]=iv1 at*
 obtain⟨am,cm,rfl,hcm,hmm⟩:=de.shape hM;unfold maxLen at hmm
 refine⟨Nat×List Value×World×Iv,fun z=>⟨[(20,.o (.v (.int .i64 ((z.1:Nat):Int)))),(2,.o (.p 1 0)),(3,.o (.p 2 0)),(18,.o (.v (.slice am (gw f).length cm))),(19,.o (.v (.int .i64 (gw f).length)))],[(2,.box T.dc [.w 3 z.2.1.length,.v (.int .i64 ((f.cols:Nat):Int))]),(3,.vec T.gO 1 z.2.1),(1,.box T.dc [.v (.slice none 0 0),.v (.int .i64 0)])],4,z.2.2.2,z.2.2.1⟩,fun z=>(gw f).length-z.1,
  fun z=>z.1<=(gw f).length∧cV w.heap.size w z.2.2.1∧wX z.2.2.1 (Cf w z.2.2.2) (.slice am (gw f).length cm) (gw f)∧dU z.2.2.1 (Cf w z.2.2.2) z.2.1 ((cQ f).take z.1),?_,?_⟩
 ·intro O w' r;exact⟨(0,[],w',_),⟨aP _,hw.tr r.cM,hM.cG fun g hg=>Rel.same r (cB w) hg,by simp[dU]⟩,Sub.zx 2 0 T.gO 1 rfl rfl (by simp[jn,SV.sc,At.sc,fW]) r fun ρ1 r1=>Sub.gn [] r1⟩
 rintro⟨k,rv,w1,iv⟩ ⟨hk,hw,hM,hK⟩;dsimp only at hk hw hM hK ⊢;have hrl:rv.length=k:=by rw[hK.1,aY,cQ,aL];omega
 refine dI.mk (fun hkb=>?_) (fun hkb=>?_)
 ·have hkb:k<(gw f).length:=by simpa using hkb
  obtain⟨l,hl⟩:∃l,(gw f)[k]? =some l:=⟨_,aB hkb⟩
  have hlw:=hwid l (aD hl);have hnext:(cQ f).take (k+1)=(cQ f).take k++[dK l]:=by rw[List.take_add_one,show(cQ f)[k]? =some (dK l) by rw[cQ,aN,hl];rfl];rfl
  obtain⟨adm,um,ham,hLm,km1,km2⟩:=de.load hM hl;obtain⟨a0,c0,rfl,hc0,-⟩:=Da.shape hLm;refine⟨adm,ham,by omega,.slice a0 l.length c0,fun O w' r=>?_,?_⟩
  ·rw[aF,cH (w:=w1) (w2:=w') (by rw[dQ];exact Rel.same r (cB w) km1)];exact km2
  refine⟨l.length,l.length,rfl,rfl,aG _,by omega,by omega,Nat×Nat×World×Iv,fun z=>⟨[(6,.o (.v (.slice (some ⟨z.2.1,0,none⟩) l.length l.length))),(5,.o (.v (.slice a0 l.length c0))),(27,.o (.v (.slice a0 l.length c0))),(28,.o (.v (.int .i64 l.length))),(29,.o (.v (.int .i64 ((z.1:Nat):Int)))),(20,.o (.v (.int .i64 ((k:Nat):Int)))),(2,.o (.p 1 0)),(3,.o (.p 2 0)),(18,.o (.v (.slice am (gw f).length cm))),(19,.o (.v (.int .i64 (gw f).length)))],[(2,.box T.dc [.w 3 rv.length,.v (.int .i64 ((f.cols:Nat):Int))]),(3,.vec T.gO 1 rv),(1,.box T.dc [.v (.slice none 0 0),.v (.int .i64 0)])],5,z.2.2.2,z.2.2.1⟩,fun z=>l.length-z.1,
   fun z=>z.1<=l.length∧cV w.heap.size w z.2.2.1∧wX z.2.2.1 (Bs (fun _=>False) w.heap.size z.2.2.2 (.slice (some ⟨z.2.1,0,none⟩) l.length l.length)) (.slice am (gw f).length cm) (gw f)∧Da z.2.2.1 (Bs (fun _=>False) w.heap.size z.2.2.2 (.slice (some ⟨z.2.1,0,none⟩) l.length l.length)) (.slice a0 l.length c0) l∧dU z.2.2.1 (Bs (fun _=>False) w.heap.size z.2.2.2 (.slice (some ⟨z.2.1,0,none⟩) l.length l.length)) rv ((cQ f).take k)∧iJ z.2.2.1 (fun _=>False) w.heap.size z.2.2.2 (.slice (some ⟨z.2.1,0,none⟩) l.length l.length) l.length z.1 (dK l),?_,?_⟩
  ·intro O w' r;have hf:=iJ.oN (S:=fun _=>False) (n:=l.length) r (id:=4) rfl (by unfold maxLen;omega) (dK l);have hbs:∀g,Cf w iv g->Bs (fun _=>False) w.heap.size (((O 4).g,(O 4).g+1)::iv) (.slice (some ⟨(O 4).g,0,none⟩) l.length l.length) g:=fun g hg=>⟨hg.mono fun p hp=>aC _ hp,fun e=>Rel.not r (cB w) hg 4 _ rfl (r.fits (id:=4) rfl).1 (by injection e)⟩
   exact⟨(0,(O 4).g,w',((O 4).g,(O 4).g+1)::iv),⟨aP _,hw.tr r.cM,(hM.cG fun g hg=>Rel.same r (cB w) hg).cI hbs,(hLm.cG fun g hg=>Rel.same r (cB w) hg).cI hbs,dU.cI (hK.rel r (cB w)) hbs,hf⟩,
    Sub.oN r (id:=4) (t:=6) rfl rfl ⟨rfl,rfl,rfl,trivial⟩ rfl ⟨rfl,rfl,rfl,rfl,rfl,rfl,rfl,rfl,rfl,trivial⟩ (by simp[jn,SV.sc,At.sc])⟩
  rintro⟨i,gx,w2,iv⟩ ⟨hi,hw,hM,hLm,hK,hX⟩;dsimp only at hi hw hM hLm hK hX ⊢;refine dI.mk (fun hib=>?_) (fun hib=>?_)
  ·have hib:i<l.length:=by simpa using hib
   obtain⟨z,hz⟩:∃z,l[i]? =some z:=⟨_,aB hib⟩
   have hzb:=hbd l (aD hl) z (aD hz);obtain⟨adz,haz,kz1,kz2⟩:=hLm.at hz;refine⟨adz,haz,by omega,.int .i64 z,fun O w' r=>?_,?_⟩
   ·rw[aF,cH (w:=w2) (w2:=w') (by rw[dQ];exact Rel.same r (cB w) kz1.1)];exact kz2
   refine cC (cL (Φ:=fun _ w' v w2=>cP w2 (Nf w' w2) v (z:Rat)) (fun O w' r=>jK z w' (by omega) (by omega)) ?_);rintro O wa3 v3 wb3 r he hb1 hn2;replace hw:=hw.tr hb1;have hbs:∀g,Bs (fun _=>False) w.heap.size iv (.slice (some ⟨gx,0,none⟩) l.length l.length) g->Bs (fun _=>False) w.heap.size ((wa3.heap.size,wb3.heap.size)::iv) (.slice (some ⟨gx,0,none⟩) l.length l.length) g:=fun g hg=>Bs.mono (fun x hx=>aC _ hx) hg;have hbk:∀g,Bs (fun _=>False) w.heap.size iv (.slice (some ⟨gx,0,none⟩) l.length l.length) g->wb3.heap[g]? =w2.heap[g]? :=fun g hg=>(he.block g (Rel.old r (cB w) g hg.1)).trans (Bs.same r (cB w) g hg);replace hM:=(hM.cG hbk).cI hbs;replace hLm:=(hLm.cG hbk).cI hbs;replace hK:=dU.cI (dU.cG hK hbk) hbs;have hd:=hn2.cI (S':=Bs (fun _=>False) w.heap.size ((wa3.heap.size,wb3.heap.size)::iv) (.slice (some ⟨gx,0,none⟩) l.length l.length)) fun g hg=>hg.elim (fun h=>h.elim) fun h=>⟨.inr ⟨by have:=r.cD;omega,_,_,aJ,h.1,h.2⟩,fun e=>by have:=Rel.old r (cB w) g (hX.new g e);omega⟩
   replace hX:=hX.cF (iv':=(wa3.heap.size,wb3.heap.size)::iv) r (cB w) he fun x hx=>aC _ hx;generalize (wa3.heap.size,wb3.heap.size)::iv=iv3 at*
   obtain⟨s3_0,s3_1,s3_2,s3_3,s3_4,s3_5,s3_6,s3_7,rfl⟩:=hd.shape;refine⟨⟨gx,0,none⟩,rfl,by omega,?_⟩;intro O w' r;obtain⟨g,hg,h1,h2,h3,h4⟩:=hX.store (j:=i) hib (by rw[dK,aN,hz];rfl) hd r (cB w);injection hg with hg;injection hg with hg;subst hg;refine⟨h1,h2,h3,fun w5 hw5=>?_⟩;obtain⟨k1,k2,k3,k4⟩:=h4 w5 hw5;have hw2:=(hw.tr r.cM).tr k3;have hkk:=Bs.kept (v:=(.slice (some ⟨gx,0,none⟩) l.length l.length)) r (cB w) k2 fun g e=>e;have hM2:=hM.cG hkk;have hLm2:=hLm.cG hkk;have hK2:=dU.cG hK hkk;refine⟨((i+1:Nat):Int),wo,?_⟩;intro ρ3 w6 r3;exact⟨(i+1,gx,w6,_),⟨hib,hw2.tr r3.cM,hM2.cG (Bs.same r3 (cB w)),hLm2.cG (Bs.same r3 (cB w)),dU.cG hK2 (Bs.same r3 (cB w)),k1.rel r3 (cB w)⟩,Sub.gn [] r3,by dsimp only;omega⟩
  have hib:i=l.length:=aR hi (by simpa using hib);rw[hib]at hX;have hX2:=(hX.done (by simp[dK])).c;replace hK:=(dU.cI hK fun g hg=>hg.1).push (u:=(.slice (some ⟨gx,0,none⟩) l.length l.length)) (x:=dK l) rfl (by rw[show l.length=(dK l).length by simp[dK]]at hX2 ⊢;exact hX2);rw[<-hnext]at hK;replace hM:=hM.cI fun g hg=>hg.1;refine .inl ?_;refine⟨by simp,by omega,by unfold maxLen;omega,((k+1:Nat):Int),wo,?_⟩;intro ρ3 w3 r3;exact⟨(k+1,rv++[(.slice (some ⟨gx,0,none⟩) l.length l.length)],w3,_),⟨hkb,hw.tr r3.cM,hM.cG fun g hg=>Rel.same r3 (cB w) hg,hK.rel r3 (cB w)⟩,Sub.gn [(3,6)] r3 ⟨by dsimp only;rw[List.length_append,List.length_singleton];rfl,rfl,rfl,trivial⟩,by dsimp only;omega⟩
 have hkb:k=(gw f).length:=aR hk (by simpa using hkb);rw[List.take_of_length_le (by rw[cQ,aL];omega)]at hK;intro ρe we re;refine⟨_,rfl,hw.tr re.cM,⟨_,rfl,rv,?_,hK.1,fun i u x k1 k2=>cO.cI (cO.rel (hK.2.2 i u x k1 k2) re (cB w)) fun g hg=>Cv.nw hg re⟩,fun x hx=>?_,fun x hx q hq=>?_⟩
 ·rw[<-hK.1];exact(re.iX (id:=3) (sz:=1) (m:=rv.length) rfl (by simp) (by unfold maxLen;omega) (by decide) hK.2.1).cI fun g hg=>.inr hg
 ·obtain⟨l,hl,rfl⟩:=aT.1 hx;rw[dK,aL];exact hwid l hl
 ·obtain⟨l,hl,rfl⟩:=aT.1 hx;obtain⟨z,hz,rfl⟩:=aT.1 hq;have:=hbd l hl z hz;have:=Az (z:=z) (by omega) (by omega);omega
def LM(x:Ld):List Int:=[x.2.1,x.2.2.1,x.2.2.2]
def gl(s:List Int)(x:Ld):Nat->List Int
 |0=>s
 |k+1=>Fb (gl s x k) (3*x.1+k).toNat ((LM x).getD k 0)
def gY(n:Nat)(l:List Ld):Nat->List Int
 |0=>List.replicate (3*n) 0
 |i+1=>gl (gY n l i) (l.getD i (0,0,0,0)) 3
def jT(f:eh)(l:List Ld):List Rat:=dK (gY f.nodes.length l l.length)
structure De(n:Nat)(l:List Ld):Prop where
 len:l.length<=200
 ld:∀x∈l,(0<=x.1∧x.1<n)∧(-1000000<=x.2.1∧x.2.1<=1000000)∧(-1000000<=x.2.2.1∧x.2.2.1<=1000000)∧(-1000000<=x.2.2.2∧x.2.2.2<=1000000)
theorem rp(s:List Int)(x:Ld):∀k,(gl s x k).length=s.length
 |0=>rfl
 |k+1=>by rw[gl,Fb,bY];exact rp s x k
theorem nc(n:Nat)(l:List Ld):∀i,(gY n l i).length=3*n
 |0=>bH ..
 |i+1=>by rw[gY,rp];exact nc n l i
theorem Df{x:Ld}{k:Nat}{d:Int}(e:3*x.1+(k:Int)=j)(hd:(LM x).getD k 0=d)(hz:(gl s x k)[j]? =some z):(gl s x k).set j (z+d)=gl s x (k+1):=by
 rw[gl,Fb,hd,e,aF,show(gl s x k).getD j 0=z by rw[List.getD,hz];rfl]
def Ju(s:List Int)(t:Int):Prop:=∀z∈s,-t<=z∧z<=t
theorem Ju.set{t t2:Int}(h:Ju s t)(ht:t<=t2)(hz: -t2<=z∧z<=t2):Ju (s.set j z) t2:=fun y hy=>by
 rcases bI hy with hy|rfl
 ·have:=h y hy;omega
 ·exact hz
def zv(l:List Int):List Value:=l.map fun z=>.int .i64 z
theorem LN(l:List Int):(zv l).length=l.length:=aL ..
theorem K2{l:List Int}(h:l[j]? =some z):(zv l)[j]? =some (.int .i64 z):=by rw[zv,aN,h];rfl
theorem LO{l:List Int}(h:j<l.length):(zv l).take j++[.int .i64 z]++(zv l).drop (j+1)=zv (l.set j z):=by
 rw[zv,zv,List.map_set];exact fT (by rw[aL];exact h)
theorem kL(f:eh):(cW f).length=f.cols:=by simp[cW,eh.cols]
theorem cX.K3{cs:List Value}{q:Rat}(h:css.length=qs.length∧∀(j:Nat) cs q,css[j]? =some cs->qs[j]? =some q->kk w S cs q)(hc:kk w S cs q):
  (css++[cs]).length=(qs++[q]).length∧∀(j:Nat) c p,(css++[cs])[j]? =some c->(qs++[q])[j]? =some p->kk w S c p:=by
 refine⟨by simp[h.1],fun j x p h1 h2=>?_⟩;rcases aQ j css.length with hi|hi
 ·rw[aM hi]at h1;rw[aM (by rw[<-h.1];exact hi)]at h2;exact h.2 j x p h1 h2
 ·have hi0:j=css.length:=by have:=(aE.1 h1).1;simp at this;omega
  subst hi0;rw[aO (aG _),bM]at h1;rw[h.1,aO (aG _),bM]at h2;simp at h1 h2;subst h1 h2;exact hc
set_option maxHeartbeats 1000000 in
theorem uf{cn:Nat}(hS:Old S w)(hl:jM w S vl l)(hn20:f.nodes.length<=20)(hok:De f.nodes.length l)
  {ab aq:Option Addr} {nb cb nq cq:Nat} (hvb:vb= .slice ab nb cb) (hvs:vs= .slice aq nq cq):
  dm PG N.ox #[.agg #[.slice an f.nodes.length cn,vb,vs],vl] w (eB w fun v' w2=>dS w2 (fun _=>False) w.heap.size [(w.heap.size,w2.heap.size)] v' (3*f.nodes.length) (jT f l)∧∀q∈jT f l,rl q<=1):=by
 subst hvb hvs;have hw:cV w.heap.size w w:=cV.refl;obtain⟨al,cl,rfl,hcl,hml⟩:=hl.shape;have hl200:=hok.len;refine tF (by simp) ?_;refine⟨((3*f.nodes.length:Nat):Int),wo,?_⟩;obtain⟨m,hm⟩:∃m,3*f.nodes.length=m:=⟨_,rfl⟩
 rw[hm]
 refine⟨m,m,rfl,rfl,aG _,by omega,by omega,Nat×World,fun z=>⟨[(5,.o (.s 1 0 m m)),(18,.o (.v (.slice al l.length cl))),(19,.o (.v (.int .i64 l.length))),(20,.o (.v (.int .i64 ((z.1:Nat):Int))))],[(1,.arr T.int (zv (gY f.nodes.length l z.1)))],2,[],z.2⟩,fun z=>l.length-z.1,
  fun z=>z.1<=l.length∧cV w.heap.size w z.2∧Ju (gY f.nodes.length l z.1) (3000000*z.1),?_,?_⟩
 ·intro O w' r3;exact⟨(0,w'),⟨aP _,hw.tr r3.cM,fun z hz=>by rw[gY]at hz;rw[bV hz];exact⟨Int.le_refl _,Int.le_refl _⟩⟩,Sub.gn [] r3 ⟨by dsimp only;rw[gY,hm,zv,List.map_replicate];rfl,trivial⟩⟩
 rintro⟨i,w1⟩ ⟨hi,hw,hbd⟩;dsimp only at hi hw hbd ⊢;refine dI.mk (fun hib=>?_) (fun hib=>?_)
 ·have hib:i<l.length:=by simpa using hib
  obtain⟨x,hx⟩:∃x,l[i]? =some x:=⟨_,aB hib⟩
  obtain⟨hn,hx1,hx2,hx3⟩:=hok.ld x (aD hx);obtain⟨kn,hkn⟩:=Int.eq_ofNat_of_zero_le hn.1;obtain⟨adx,cs,hax,hP,-,hlx⟩:=hl.load (by decide) hx;have hP:cs=[.int .i64 x.1,.int .i64 x.2.1,.int .i64 x.2.2.1,.int .i64 x.2.2.2]:=hP;subst hP
  refine⟨adx,hax,by omega,[.int .i64 x.1,.int .i64 x.2.1,.int .i64 x.2.2.1,.int .i64 x.2.2.2],rfl,rdO hlx hw hS,Nat×World,fun z=>⟨[(5,.o (.s 1 0 m m)),(7,.o (.p 2 0)),(30,.a [.v (.int .i64 x.2.1),.v (.int .i64 x.2.2.1),.v (.int .i64 x.2.2.2)]),(31,.o (.v (.int .i64 ((z.1:Nat):Int)))),(18,.o (.v (.slice al l.length cl))),(19,.o (.v (.int .i64 l.length))),(20,.o (.v (.int .i64 ((i:Nat):Int))))],[(2,.box T.M9 [.v (.int .i64 x.1),.v (.int .i64 x.2.1),.v (.int .i64 x.2.2.1),.v (.int .i64 x.2.2.2)]),(1,.arr T.int (zv (gl (gY f.nodes.length l i) x z.1)))],3,[],z.2⟩,fun z=>3-z.1,
   fun z=>z.1<=3∧cV w.heap.size w z.2∧Ju (gl (gY f.nodes.length l i) x z.1) (3000000*i+1000000*z.1),?_,?_⟩
  ·intro O w' r3;exact⟨(0,w'),⟨aP _,hw.tr r3.cM,hbd⟩,Sub.gn [] r3⟩
  rintro⟨k,w3⟩ ⟨hk,hw,hbd⟩;dsimp only at hk hw hbd ⊢;refine dI.mk (fun hkb=>?_) (fun hkb=>?_)
  ·have hkb:k<3:=by have:=aI hkb;omega
   obtain⟨d,hd⟩:∃d,(LM x).getD k 0=d:=⟨_,rfl⟩
   have hdb: -1000000<=d∧d<=1000000:=by
    rw[<-hd,LM];rcases(show k=0∨k=1∨k=2 by omega)with rfl|rfl|rfl<;>simp[List.getD]<;>omega
   have hLl:(gl (gY f.nodes.length l i) x k).length=m:=by rw[rp,nc,hm]
   obtain⟨z,hz⟩:∃z,(gl (gY f.nodes.length l i) x k)[3*kn+k]? =some z:=⟨_,aB (by omega)⟩
   have hzb:=hbd z (aD hz);have hej:3*x.1+(k:Int)=((3*kn+k:Nat):Int):=by omega
   have hnx:=Df hej hd hz;have hbd2:=hbd.set (j:=3*kn+k) (z:=z+d) (t2:=3000000*i+1000000*(k+1:Nat)) (by omega) (by omega);rw[hnx]at hbd2;refine zI hτ (cs:= #[.int .i64 x.2.1,.int .i64 x.2.2.1,.int .i64 x.2.2.2]) rfl rfl rfl (fun _=>rfl) rfl ⟨by omega,by omega⟩ (u:=.int .i64 d) ?_ (fun O w4 r=>?_)
   ·rw[<-hd,LM,aF];rcases(show k=0∨k=1∨k=2 by omega)with rfl|rfl|rfl<;>rfl
   replace hw:=hw.tr r.cM;refine⟨3*x.1,wo,((3*kn+k:Nat):Int),wo,by omega,.int .i64 z,by rw[aF,aU,aV];exact K2 hz,z+d,wo,by omega,by rw[LN];omega,zv (gl (gY f.nodes.length l i) x (k+1)),?_,?_⟩
   ·rw[aF,aU,aV,<-hnx];exact LO (by omega)
   refine⟨((k+1:Nat):Int),wo,?_⟩;intro ρ3 w6 r3;exact⟨(k+1,w6),⟨hkb,hw.tr r3.cM,hbd2⟩,Sub.gn [] r3,by dsimp only;omega⟩
  have hkb:k=3:=by have:=aH hkb;omega
  subst hkb;have hnx:gl (gY f.nodes.length l i) x 3=gY f.nodes.length l (i+1):=by rw[gY,show l.getD i (0,0,0,0)=x by rw[List.getD,hx];rfl]
  rw[hnx]at hbd ⊢;refine⟨((i+1:Nat):Int),wo,?_⟩;intro ρ3 w6 r3;exact⟨(i+1,w6),⟨hib,hw.tr r3.cM,fun z hz=>by have:=hbd z hz;dsimp only;omega⟩,Sub.gn [] r3,by dsimp only;omega⟩
 have hib:i=l.length:=aR hi (by simpa using hib);subst hib;obtain⟨s,hs⟩:∃s,gY f.nodes.length l l.length=s:=⟨_,rfl⟩
 have hsl:s.length=m:=by rw[<-hs,nc,hm]
 rw[hs]at hbd ⊢;unfold jT;rw[hs]
 refine⟨m,m,rfl,rfl,aG _,by omega,by omega,Nat×List (List Value)×Iv×World,fun z=>⟨[(10,.o (.s 2 0 m m)),(51,.o (.s 1 0 m m)),(52,.o (.v (.int .i64 m))),(53,.o (.v (.int .i64 ((z.1:Nat):Int))))],[(2,.arr T.Rat z.2.1.flatten),(1,.arr T.int (zv s))],3,z.2.2.1,z.2.2.2⟩,fun z=>m-z.1,
  fun z=>z.1<=m∧cV w.heap.size w z.2.2.2∧fb z.2.2.2 (Cf w z.2.2.1) m z.1 z.2.1 (dK s),?_,?_⟩
 ·intro O w' r;exact⟨(0,List.replicate m f0,_,w'),⟨aP _,hw.tr r.cM,fb.start _ _ _ _⟩,Sub.gn [] r⟩
 rintro⟨i,css,iv,w1⟩ ⟨hi2,hw,hF⟩;dsimp only at hi2 hw hF ⊢;refine dI.mk (fun hib=>?_) (fun hib=>?_)
 ·have hib:i<m:=by simpa using hib
  obtain⟨z,hz⟩:∃z,s[i]? =some z:=⟨_,aB (by omega)⟩
  have hzb:=hbd z (aD hz);refine⟨by omega,.int .i64 z,by rw[aF,aU,aV];exact K2 hz,?_⟩;refine cC (cE hw (fun _ w' v w2=>cP w2 (Nf w' w2) v (z:Rat)) (fun O w' r=>jK z w' (by omega) (by omega)) ?_);rintro O wa1 v1 wb1 iv1 r he hw h_ hn;replace hF:=hF.cF r (cB w) he (mC h_);have hd:=hn.c9 (S:=fun _=>False) r.cD (mN h_);obtain⟨s1_0,s1_1,s1_2,s1_3,s1_4,s1_5,s1_6,s1_7,rfl⟩:=hd.shape;have hnext:=hF.next hib (q:=_) (by rw[dK,aN,hz];rfl) hd
  refine⟨by omega,by have:=hF.flat;omega,(css.set i [.bool s1_0,.slice s1_1 s1_2 s1_3,.bool s1_4,.slice s1_5 s1_6 s1_7]).flatten,?_,?_⟩
  ·have:=ie (cs:=[.bool s1_0,.slice s1_1 s1_2 s1_3,.bool s1_4,.slice s1_5 s1_6 s1_7]) hF.four (show i<css.length by rw[hF.len];exact hib);rw[<-this];simp
  refine⟨((i+1:Nat):Int),wo,?_⟩;intro ρ3 w3 r3;exact⟨(i+1,css.set i [.bool s1_0,.slice s1_1 s1_2 s1_3,.bool s1_4,.slice s1_5 s1_6 s1_7],_,w3),⟨hib,hw.tr r3.cM,hnext.rel r3 (cB w)⟩,Sub.gn [] r3,by dsimp only;omega⟩
 have hib:i=m:=aR hi2 (by simpa using hib);subst hib;intro ρe we re
 exact⟨_,rfl,hw.tr re.cM,hF.done (by rw[dK,aL];exact hsl) (by unfold maxLen;omega) re (id:=2) rfl (re.nn 2 _ rfl (by intros;simp) (by simp)),fun q hq=>by
  obtain⟨z,hz,rfl⟩:=aT.1 hq;have:=hbd z hz
  exact Az (by omega) (by omega)⟩
set_option maxHeartbeats 1000000 in
theorem qF(hS:Old S w)(hf:dV w S vn vb vs f)(hok:qp f):
  dm PG N.oz #[.agg #[vn,vb,vs]] w (eB w fun v' w2=>cX w2 (Nw S w w2) v' (cW f)):=by
 have hw:cV w.heap.size w w:=cV.refl;obtain⟨an,cn,ab,cb,aq,cq,rfl,rfl,rfl,hmn,hmb,hms⟩:=hf.shape;have hf0:=hf;refine tI (by simp) ?_
 refine⟨Nat×List (List Value)×World,fun z=>⟨[(3,.o (.w 1 z.2.1.length)),(9,.o (.v (.slice ab f.bars.length cb))),(10,.o (.v (.int .i64 f.bars.length))),(11,.o (.v (.int .i64 ((z.1:Nat):Int)))),(1,.o (.p 0 0))],[(1,.vec T.Rat 4 z.2.1.flatten),(0,.box T.Frame [.v (.slice an f.nodes.length cn),.v (.slice ab f.bars.length cb),.v (.slice aq f.cU.length cq)])],2,[],z.2.2⟩,fun z=>f.bars.length-z.1,
  fun z=>z.1<=f.bars.length∧cV w.heap.size w z.2.2∧(∀cs∈z.2.1,cs.length=4)∧(z.2.1.length=((fun i=>(f.bars.take i).map (·.2.2)) z.1).length∧∀(j:Nat) cs q,z.2.1[j]? =some cs->((fun i=>(f.bars.take i).map (·.2.2)) z.1)[j]? =some q->kk z.2.2 S cs q),?_,?_⟩
 ·intro O w' r;exact⟨(0,[],w'),⟨aP _,hw.tr r.cM,fun cs h=>(by cases h),rfl,fun j cs q h=>by cases h⟩,Sub.nil 3 T.Rat 4 rfl (by simp[jn,SV.sc,At.sc,fW]) r fun ρ1 r1=>Sub.gn [] r1⟩
 rintro⟨k,css,w1⟩ ⟨hk,hw,hc4,hR⟩;dsimp only at hk hw hc4 hR ⊢;have hfl:=e9 hc4;refine dI.mk (fun hkb=>?_) (fun hkb=>?_)
 ·have hkb:k<f.bars.length:=by simpa using hkb
  have hb60:=hok.b;have hs60:=hok.s;obtain⟨b,hb⟩:∃b,f.bars[k]? =some b:=⟨_,aB hkb⟩
  have hnx:(fun i=>(f.bars.take i).map (·.2.2)) (k+1)=(fun i=>(f.bars.take i).map (·.2.2)) k++[b.2.2]:=by dsimp only;rw[List.take_add_one,hb];simp
  obtain⟨adb,cs,hab,hF,-,hlb⟩:=hf0.bars.load (by decide) hb;obtain⟨g0,g1,g2,g3,g4,g5,g6,g7,rfl,hF⟩:=hF;refine⟨adb,hab,by omega,[.int .i64 b.1,.int .i64 b.2.1,.bool g0,.slice g1 g2 g3,.bool g4,.slice g5 g6 g7],rfl,rdO hlb hw hS,?_⟩;have hC2:kk w1 S [.bool g0,.slice g1 g2 g3,.bool g4,.slice g5 g6 g7] b.2.2:=⟨_,_,_,_,_,_,_,_,rfl,hF.cG fun g hg=>hw.block g (hS g hg)⟩
  have hR2:=cX.K3 hR hC2;rw[<-hnx]at hR2;have hfl2:css.flatten++([.bool g0,.slice g1 g2 g3,.bool g4,.slice g5 g6 g7]:List Value)=(css++([[.bool g0,.slice g1 g2 g3,.bool g4,.slice g5 g6 g7]]:List (List Value))).flatten:=by simp
  have hlen2:css.length<=200:=by rw[hR.1,aL,aY];have:=hok.b;omega
  refine .inl ?_;refine⟨by omega,by omega,by unfold maxLen;omega,((k+1:Nat):Int),wo,?_⟩;intro ρ3 w3 r3
  exact⟨(k+1,css++[[.bool g0,.slice g1 g2 g3,.bool g4,.slice g5 g6 g7]],w3),⟨hkb,hw.tr r3.cM,fun cs hc=>by
   rcases bQ.1 hc with hc|hc
   ·exact hc4 cs hc
   ·rw[bD.1 hc];rfl,hR2.1,fun j cs q h1 h2=>(hR2.2 j cs q h1 h2).cG fun g hg=>(r3.cM).block g (hS g hg)⟩,Sub.gn [(1,4)] r3 ⟨by dsimp only;rw[<-hfl2];rfl,rfl,trivial⟩ ⟨by dsimp only;rw[List.length_append,List.length_singleton];rfl,rfl,rfl,rfl,rfl,trivial⟩,by dsimp only;omega⟩
 have hkb:k=f.bars.length:=aR hk (by simpa using hkb);subst hkb;have hrl:css.length=f.bars.length:=by rw[hR.1,aL,aY];omega
 rw[bE,show f.bars.map (·.2.2)=f.bars.map (·.2.2)++(f.cU.take 0).map (·.2.2) by simp]at hR
 refine⟨Nat×List (List Value)×World,fun z=>⟨[(3,.o (.w 1 z.2.1.length)),(22,.o (.v (.slice aq f.cU.length cq))),(23,.o (.v (.int .i64 f.cU.length))),(24,.o (.v (.int .i64 ((z.1:Nat):Int))))],[(1,.vec T.Rat 4 z.2.1.flatten),(0,.box T.Frame [.v (.slice an f.nodes.length cn),.v (.slice ab f.bars.length cb),.v (.slice aq f.cU.length cq)])],2,[],z.2.2⟩,fun z=>f.cU.length-z.1,
  fun z=>z.1<=f.cU.length∧cV w.heap.size w z.2.2∧(∀cs∈z.2.1,cs.length=4)∧(z.2.1.length=((fun i=>f.bars.map (·.2.2)++(f.cU.take i).map (·.2.2)) z.1).length∧∀(j:Nat) cs q,z.2.1[j]? =some cs->((fun i=>f.bars.map (·.2.2)++(f.cU.take i).map (·.2.2)) z.1)[j]? =some q->kk z.2.2 S cs q),?_,?_⟩
 ·intro O w' r3;exact⟨(0,css,w'),⟨aP _,hw.tr r3.cM,hc4,hR.1,fun j cs q h1 h2=>(hR.2 j cs q h1 h2).cG fun g hg=>(r3.cM).block g (hS g hg)⟩,Sub.gn [] r3⟩
 rintro⟨k,css,w1⟩ ⟨hk,hw,hc4,hR⟩;dsimp only at hk hw hc4 hR ⊢;have hfl:=e9 hc4;refine dI.mk (fun hkb=>?_) (fun hkb=>?_)
 ·have hkb:k<f.cU.length:=by simpa using hkb
  have hb60:=hok.b;have hs60:=hok.s;obtain⟨b,hb⟩:∃b,f.cU[k]? =some b:=⟨_,aB hkb⟩
  have hnx:(fun i=>f.bars.map (·.2.2)++(f.cU.take i).map (·.2.2)) (k+1)=(fun i=>f.bars.map (·.2.2)++(f.cU.take i).map (·.2.2)) k++[b.2.2]:=by dsimp only;rw[List.take_add_one,hb];simp
  obtain⟨adb,cs,hab,hF,-,hlb⟩:=hf0.cU.load (by decide) hb;obtain⟨g0,g1,g2,g3,g4,g5,g6,g7,rfl,hF⟩:=hF;refine⟨adb,hab,by omega,[.int .i64 b.1,.int .i64 b.2.1,.bool g0,.slice g1 g2 g3,.bool g4,.slice g5 g6 g7],rfl,rdO hlb hw hS,?_⟩;have hC2:kk w1 S [.bool g0,.slice g1 g2 g3,.bool g4,.slice g5 g6 g7] b.2.2:=⟨_,_,_,_,_,_,_,_,rfl,hF.cG fun g hg=>hw.block g (hS g hg)⟩
  have hR2:=cX.K3 hR hC2;rw[<-hnx]at hR2;have hfl2:css.flatten++([.bool g0,.slice g1 g2 g3,.bool g4,.slice g5 g6 g7]:List Value)=(css++([[.bool g0,.slice g1 g2 g3,.bool g4,.slice g5 g6 g7]]:List (List Value))).flatten:=by simp
  have hlen2:css.length<=200:=by rw[hR.1,List.length_append,aL,aL,aY];have:=hok.b;have:=hok.s;omega
  refine .inl ?_;refine⟨by omega,by omega,by unfold maxLen;omega,((k+1:Nat):Int),wo,?_⟩;intro ρ3 w3 r3
  exact⟨(k+1,css++[[.bool g0,.slice g1 g2 g3,.bool g4,.slice g5 g6 g7]],w3),⟨hkb,hw.tr r3.cM,fun cs hc=>by
   rcases bQ.1 hc with hc|hc
   ·exact hc4 cs hc
   ·rw[bD.1 hc];rfl,hR2.1,fun j cs q h1 h2=>(hR2.2 j cs q h1 h2).cG fun g hg=>(r3.cM).block g (hS g hg)⟩,Sub.gn [(1,4)] r3 ⟨by dsimp only;rw[<-hfl2];rfl,rfl,trivial⟩ ⟨by dsimp only;rw[List.length_append,List.length_singleton];rfl,rfl,rfl,rfl,trivial⟩,by dsimp only;omega⟩
 have hkb:k=f.cU.length:=aR hk (by simpa using hkb);subst hkb;intro ρe we re;have hfull:f.bars.map (·.2.2)++(f.cU.take f.cU.length).map (·.2.2)=cW f:=by rw[bE];rfl
 rw[hfull]at hR;refine⟨_,rfl,hw.tr re.cM,css,?_,hR.1,hc4,fun j cs q k1 k2=>((hR.2 j cs q k1 k2).cG fun g hg=>(re.cM).block g (hS g hg)).cI fun g hg=>.inl hg⟩;have hcl:=hR.1
 have h5:=re.iX (id:=1) (sz:=4) (m:=css.length) rfl hfl (by have:=hok.b;have:=hok.s;rw[hcl,kL];unfold eh.cols maxLen;omega) (by decide) (fun u hu=>by
  obtain⟨cs,hc,hu⟩:=List.mem_flatten.1 hu;obtain⟨j,hj⟩:=aS hc;obtain⟨_,_,_,_,_,_,_,_,rfl,_⟩:=hR.2 j cs _ hj (aB (by rw[<-hcl];exact(aE.1 hj).1));simp at hu
  rcases hu with rfl|rfl|rfl|rfl<;>rfl)
 rw[<-hcl];exact h5.cI fun g hg=>.inr hg
theorem Ic(cols h:Nat):tS [] cols h:=by
 refine⟨fun i hi r hr=>?_,fun i hi=>absurd hi (Nat.not_lt_zero i)⟩;have:i=0:=Nat.le_zero.1 hi;subst this
 cases hr
theorem Gu:iU [] [] 0=some []:=by decide +kernel
theorem jq.nil{C:Nat->Prop}:jq w C S (.slice none 0 0) []:=⟨[],⟨aP _,rfl,by simp,none,0,rfl,aG _,fun j u h=>by cases h⟩,rfl,fun i u x h=>by cases h⟩
theorem cO.Me:cO w S (.slice none 0 0) []:=⟨[],⟨aP _,rfl,by simp,none,0,rfl,aG _,fun j u h=>by cases h⟩,rfl,by simp,fun j cs x h=>by cases h⟩
set_option maxHeartbeats 1000000 in
theorem zJ{u:Value}{p:List Rat}(hS:Old S w)(hf:dV w S vn vb vs f)(hok:qp f)(hp:cO w S u p)(hpl:p.length=3*f.nodes.length)(hpq:∀q∈p,rl q<=100000)(hc0:0<f.cols)
  (hB1:tS (iz (cQ f) (da p (-1))) (f.cols+1) h) (hB2:tS (cQ f) f.cols h) (hA2:Ht (dR (cQ f) f.cols).1 h) (hst:j7 (cQ f) f.cols=[]) (hh:3*h<=90000):
  dm PG N.k9 #[.agg #[vn,vb,vs],u] w (eB w fun v' w2=>(iU (cQ f) (da p (-1)) f.cols=none∧v'= .tuple #[.slice none 0 0,.bool false])∨∃x vx,iU (cQ f) (da p (-1)) f.cols=some x∧v'= .tuple #[vx,.bool true]∧dS w2 (fun _=>False) w.heap.size [(w.heap.size,w2.heap.size)] vx f.cols x):=by
 have hw:cV w.heap.size w w:=cV.refl;obtain⟨an,cn,ab,cb,aq,cq,rfl,rfl,rfl,hmn,hmb,hms⟩:=hf.shape;obtain⟨hn20,hb60,hs60⟩:=And.intro hok.n (And.intro hok.b hok.s);have hcols:f.cols=f.bars.length+f.cU.length:=rfl;obtain⟨ap,cp,rfl,hcp,hmp⟩:=dL.shape hp;refine l8 (by simp) ?_;refine cC (cE hw (fun _ w' v w2=>(∃vr,v= .agg #[vr,.int .i64 f.cols]∧cR w2 (Nf w' w2) vr (cQ f))∧fe f.cols (cQ f)∧Ht (cQ f) 2) (fun O w' r=>n9 (S:=S) (oS hS r) (hf.cG (kS hw r hS)) hok) ?_);rintro O wa1 v1 wb1 iv1 r he hw h_ ⟨⟨vr,rfl,k1⟩,hlen,hht⟩;have hM:=cR.c9 (S:=fun _=>False) k1 r.cD (mN h_);obtain⟨am,cm,rfl,hcm,hmm⟩:=de.shape hM;have htl:=lg f;refine cJ hτ db [.x 0,.x 1,.x 2,.x 3,.x 4,.x 5,.x 6,.x 7,.x 8,.x 9] (by kernel_rfl) (by kernel_rfl) ?_;refine cE hw (fun _ w' v w2=>cP w2 (Nf w' w2) v ((-1:Int):Rat)) (fun O w' r=>jK (-1) w' (by decide) (by decide)) ?_;rintro O wa2 v2 wb2 iv2 r he hw h_ hn;replace hM:=cR.cF hM r (cB w) he (mC h_);have hd:=hn.c9 (S:=fun _=>False) r.cD (mN h_);obtain⟨s2_0,s2_1,s2_2,s2_3,s2_4,s2_5,s2_6,s2_7,rfl⟩:=hd.shape;refine cE hw (fun _ w' v w2=>dS w2 (fun _=>False) w'.heap.size [(w'.heap.size,w2.heap.size)] v p.length (da p (-1))) (fun O w' r=>ub (S:=Cv S w.heap.size iv2) (Rel.old r hS) (cX.cI (cO.l (cO.cG hp (kS hw r hS)) fun q hq=>by have:=hpq q hq;omega) fun g hg=>.inl hg) (((hd.rel r (cB w)).l (by decide)).cI fun g hg=>Av hg) (by omega)) ?_;rintro O wa3 v3 wb3 iv3 r he hw h_ hn;replace hM:=cR.cF hM r (cB w) he (mC h_);have hB:=hn.c9 (S:=fun _=>False) r.cD (mN h_);obtain⟨a3,c3,rfl,hc3⟩:=hB.row.form;refine cL (Φ:=fun _ w' v w2=>(iU (cQ f) (da p (-1)) f.cols=none∧v= .tuple #[.slice none 0 0,.bool false])∨∃x vx,iU (cQ f) (da p (-1)) f.cols=some x∧v= .tuple #[vx,.bool true]∧dS w2 (Cf w iv3) w'.heap.size [(w'.heap.size,w2.heap.size)] vx f.cols x) (fun O w' r=>tU (C:=Cf w iv3) (S:=Cf w iv3) (h:=h) (Rel.old r (cB w)) (Rel.old r (cB w)) (cR.rel hM r (cB w)) ((hB.rel r (cB w)).c) (by rw[da,aL,htl];exact hpl) hlen (by omega) (by omega) hB1 hh) ?_;rintro O wa4 v4 wb4 r he hb (⟨hno,rfl⟩|⟨x,vx,hx,rfl,k2⟩)
 ·replace hw:=hw.tr hb;intro ρe we re;exact⟨_,rfl,hw.tr re.cM,.inl ⟨hno,rfl⟩⟩
 replace hw:=hw.tr hb;replace hM:=cR.cF (iv':=(wa4.heap.size,wb4.heap.size)::iv3) hM r (cB w) he fun x hx=>aC _ hx;have hX:=k2.LL r.cD;generalize (wa4.heap.size,wb4.heap.size)::iv3=iv4 at*
 obtain⟨ax,cx,rfl,hcx⟩:=hX.row.form;refine cJ hτ db [.x 0,.x 2,.x 1,.x 3,.x 4,.x 5] (by kernel_rfl) (by kernel_rfl) ?_;refine cE hw (fun _ w' v w2=>cR w2 (Nf w' w2) v []) (fun O w' r=>hst▸Ax (C:=Cf w iv4) (S:=Cf w iv4) (h:=h) (Rel.old r (cB w)) (Rel.old r (cB w)) (cR.rel hM r (cB w)) hlen hc0 (by omega) (by omega) hB2 hA2 hh) ?_;rintro O wa5 v5 wb5 iv5 r he hw h_ hn;replace hX:=hX.cF r (cB w) he (mC h_);obtain⟨ak,ck,rfl,-,-⟩:=de.shape hn;refine cE hw (fun _ w' v w2=>cX w2 (Nw S w' w2) v (cW f)) (fun O w' r=>qF (S:=S) (oS hS r) (hf.cG (kS hw r hS)) hok) ?_;rintro O wa6 v6 wb6 iv6 r he hw h_ hn;replace hX:=hX.cF r (cB w) he (mC h_);obtain⟨al,cl,rfl,-,-⟩:=dL.shape hn
 refine⟨World×Iv,fun z=>⟨[(7,.o (.v (.slice ax f.cols cx))),(9,.o (.v (.slice ak 0 ck))),(11,.o (.p 2 0)),(12,.o (.v (.slice none 0 0))),(43,.o (.v (.slice ak 0 ck))),(44,.o (.v (.int .i64 0))),(45,.o (.v (.int .i64 0)))],[(2,.box T.dc [.v (.slice none 0 0),.v (.int .i64 0)])],3,z.2,z.1⟩,fun _=>0,
  fun z=>cV w.heap.size w z.1∧dS z.1 (fun _=>False) w.heap.size z.2 (.slice ax f.cols cx) f.cols x,?_,?_⟩
 ·intro O w' r3;exact⟨(w',_),⟨hw.tr r3.cM,hX.rel r3 (cB w)⟩,Sub.gn [] r3⟩
 rintro⟨w7,iv⟩ ⟨hw,hX⟩;dsimp only at hw hX ⊢
 refine cC (cE hw (fun _ w' v w2=>∃vx,v= .tuple #[vx,.bool true]∧∃a c,vx= .slice a 0 c) (fun O w' r=>(tU (C:=fun _=>False) (S:=fun _=>False) (M:=[]) (b:=[]) (cols:=0) (h:=h) (fun g hg=>hg.elim) (fun g hg=>hg.elim) jq.nil cO.Me rfl (fun r hr=>by cases hr) (by decide) (by decide) (Ic _ _) hh).mono fun e w2 ⟨v2,e1,e2,e3⟩=>⟨v2,e1,e2,by
  rcases e3 with⟨h1,_⟩|⟨x2,vx,h1,h2,h3⟩
  ·rw[Gu]at h1;cases h1
  ·obtain⟨a,c,h4,_⟩:=h3.row.form
   exact⟨vx,h2,a,c,h4⟩⟩) ?_)
 rintro O wa8 v8 wb8 iv8 r he hw h_ ⟨vx2,rfl,a8,c8,rfl⟩;replace hX:=hX.cF r (cB w) he (mC h_)
 refine⟨World×Iv,fun z=>⟨[(7,.o (.v (.slice ax f.cols cx))),(87,.o (.v (.slice ak 0 ck))),(88,.o (.v (.int .i64 0))),(89,.o (.v (.int .i64 0)))],[],0,z.2,z.1⟩,fun _=>0,
  fun z=>cV w.heap.size w z.1∧dS z.1 (fun _=>False) w.heap.size z.2 (.slice ax f.cols cx) f.cols x,?_,?_⟩
 ·intro O w' r3;exact⟨(w',_),⟨hw.tr r3.cM,hX.rel r3 (cB w)⟩,Sub.gn [] r3⟩
 rintro⟨w7,iv⟩ ⟨hw,hX⟩;dsimp only at hw hX ⊢;intro ρe we re;exact⟨_,rfl,hw.tr re.cM,.inr ⟨x,_,hx,rfl,hX.out re⟩⟩
def eX{α:Type}(e:List α->α->Int):List α->List α->Int
 |_,[]=>0
 |seen,x::r=>if e seen x=0 then eX e (seen++[x]) r else e seen x
section
variable{α:Type}{e:List α->α->Int}{xs:List α}
theorem gA{k:Nat}{x:α}(hx:xs[k]? =some x)(h0:e (xs.take k) x=0):eX e (xs.take k) (xs.drop k)=eX e (xs.take (k+1)) (xs.drop (k+1)):=by
 have hk:=(aE.1 hx).1;have h2:=(aE.1 hx).2;rw[List.drop_eq_getElem_cons hk,h2,eX,if_pos h0,List.take_add_one,hx];rfl
theorem cS{k:Nat}{x:α}{c:Int}(hx:xs[k]? =some x)(h0:e (xs.take k) x=c)(hc:c≠0):eX e (xs.take k) (xs.drop k)=c:=by
 have hk:=(aE.1 hx).1;have h2:=(aE.1 hx).2;rw[List.drop_eq_getElem_cons hk,h2,eX,aK (by rw[h0];exact hc),h0]
theorem iK{k:Nat}(hk:xs.length<=k):eX e (xs.take k) (xs.drop k)=0:=by
 rw[List.drop_eq_nil_of_le hk];rfl
theorem iD(h:eX e [] xs=0):∀k x,xs[k]? =some x->e (xs.take k) x=0:=by
 have key:∀k,k<=xs.length->eX e (xs.take k) (xs.drop k)=0∧∀j x,j<k->xs[j]? =some x->e (xs.take j) x=0:=fun k=>by
  induction k with
  |zero=>intro _;exact⟨by simpa using h,fun j x hj=>by omega⟩
  |succ k ih=>
   intro hk;obtain⟨h1,h2⟩:=ih (by omega);obtain⟨x,hx⟩:∃x,xs[k]? =some x:=⟨_,aB (by omega)⟩
   have h0:e (xs.take k) x=0:=by
    by_cases h0:e (xs.take k) x=0
    ·exact h0
    ·rw[cS hx rfl h0]at h1;exact h1
   refine⟨by rw[<-gA hx h0];exact h1,fun j y hj hy=>?_⟩;rcases aQ j k with hjk|hjk
   ·exact h2 j y hjk hy
   ·have:j=k:=by omega
    subst this;rw[hx]at hy;injection hy with hy;rw[<-hy];exact h0
 exact fun k x hx=>(key xs.length (aG _)).2 k x (aE.1 hx).1 hx
end
def mK(n:Int):Prop:= -1000000<=n∧n<=1000000
instance (n : Int) : Decidable (mK n) := by unfold mK; infer_instance
def ec(seen:List (Int×Int×Int))(p:Int×Int×Int):Int:=if mK p.1∧mK p.2.1∧mK p.2.2 then(if p∈seen then 12 else 0)else 2
def fo(b:Int×Int×Rat):Int×Int:=(min b.1 b.2.1,max b.1 b.2.1)
def iV(n:Nat)(i:Int):Prop:=0<=i∧i<n
instance (n : Nat) (i : Int) : Decidable (iV n i) := by unfold iV; infer_instance
def eo(n:Nat)(seen:List (Int×Int×Rat))(b:Int×Int×Rat):Int:=
 if iV n b.1∧iV n b.2.1 then(if b.1=b.2.1 then 3 else if fo b∈seen.map fo then 5 else if b.2.2<=0 then 2 else 0)else 6
def iC(s:Int×Int×Rat):Int×Int:=(s.1,s.2.1)
def jl(n:Nat)(seen:List (Int×Int×Rat))(s:Int×Int×Rat):Int:=
 if iV n s.1 then(if 0<=s.2.1∧s.2.1<=2 then(if iC s∈seen.map iC then 5 else if s.2.2<0 then 2 else 0)else 2)else 6
def eK(f:eh):Int:=
 if 20<f.nodes.length∨60<f.bars.length∨60<f.cU.length then 8 else
  if eX ec [] f.nodes≠0 then eX ec [] f.nodes else
   if eX (eo f.nodes.length) [] f.bars≠0 then eX (eo f.nodes.length) [] f.bars else eX (jl f.nodes.length) [] f.cU
def jD(n:Nat)(x:Ld):Int:=if iV n x.1 then(if mK x.2.1∧mK x.2.2.1∧mK x.2.2.2 then 0 else 2)else 6
def tW(n:Nat)(l:List Ld):Int:=if 200<l.length then 8 else eX (fun _=>jD n) [] l
def kl(f:eh)(l:List Ld):Int:=if eK f≠0 then eK f else tW f.nodes.length l
theorem ry{seen:List (Int×Int×Int)}:ec seen p=0↔(mK p.1∧mK p.2.1∧mK p.2.2)∧p∉seen:=by
 unfold ec;split<;>rename_i h
 ·split<;>rename_i h2<;>simp[h,h2]
 ·simp[h]
theorem mW:eo n seen b=0↔(iV n b.1∧iV n b.2.1)∧b.1≠b.2.1∧fo b∉seen.map fo∧0<b.2.2:=by
 unfold eo;rw[<-Rat.not_le];by_cases h:iV n b.1∧iV n b.2.1
 ·rw[if_pos h];by_cases h2:b.1=b.2.1
  ·rw[if_pos h2];exact⟨(fun e=>by cases e),fun e=>absurd h2 e.2.1⟩
  ·rw[aK h2];by_cases h3:fo b∈seen.map fo
   ·rw[if_pos h3];exact⟨(fun e=>by cases e),fun e=>absurd h3 e.2.2.1⟩
   ·rw[aK h3];by_cases h4:b.2.2<=0
    ·rw[if_pos h4];exact⟨(fun e=>by cases e),fun e=>absurd h4 e.2.2.2⟩
    ·rw[aK h4];exact⟨fun _=>⟨h,h2,h3,h4⟩,fun _=>rfl⟩
 ·rw[aK h];exact⟨(fun e=>by cases e),fun e=>absurd e.1 h⟩
theorem qB{s:Int×Int×Rat}:jl n seen s=0↔iV n s.1∧(0<=s.2.1∧s.2.1<=2)∧iC s∉seen.map iC∧0<=s.2.2:=by
 unfold jl;rw[<-Rat.not_lt];by_cases h:iV n s.1<;>by_cases h2:0<=s.2.1∧s.2.1<=2<;>by_cases h3:iC s∈seen.map iC<;>by_cases h4:s.2.2<0<;>simp only[h,h2,h3,h4]<;>simp
theorem Er{x:Ld}:jD n x=0↔iV n x.1∧mK x.2.1∧mK x.2.2.1∧mK x.2.2.2:=by
 unfold jD;split<;>rename_i h
 ·split<;>rename_i h2<;>simp[h,h2]
 ·simp[h]
theorem uE(h:eK f=0):(f.nodes.length<=20∧f.bars.length<=60∧f.cU.length<=60)∧eX ec [] f.nodes=0∧eX (eo f.nodes.length) [] f.bars=0∧eX (jl f.nodes.length) [] f.cU=0:=by
 unfold eK at h;split at h<;>rename_i h1
 ·cases h
 ·split at h<;>rename_i h2
  ·exact absurd h h2
  ·split at h<;>rename_i h3
   ·exact absurd h h3
   ·exact⟨by omega,by simpa using h2,by simpa using h3,h⟩
theorem qA(h:eK f=0):qp f:=by
 obtain⟨⟨h1,h2,h3⟩,hn,hb,hs⟩:=uE h;refine⟨fun p hp=>?_,fun b hb'=>?_,fun s hs'=>?_,h1,h2,h3⟩
 ·obtain⟨k,hk⟩:=aS hp;exact(ry.1 (iD hn k p hk)).1
 ·obtain⟨k,hk⟩:=aS hb';exact(mW.1 (iD hb k b hk)).1
 ·obtain⟨k,hk⟩:=aS hs';have:=qB.1 (iD hs k s hk);exact⟨this.1,this.2.1⟩
theorem CE(h:tW n l=0):De n l:=by
 unfold tW at h;split at h<;>rename_i h1
 ·cases h
 ·refine⟨by omega,fun x hx=>?_⟩;obtain⟨k,hk⟩:=aS hx;exact Er.1 (iD h k x hk)
theorem nd(h:kl f l=0):eK f=0∧tW f.nodes.length l=0:=by
 unfold kl at h;split at h<;>rename_i h1
 ·exact absurd h h1
 ·exact⟨by simpa using h1,h⟩
theorem kP(n:Int)(w:World):dm PG N.pC #[.int .i64 n,.int .i64 1000000] w (eB w fun v' _=>∃d,v'= .bool d∧(d=true↔mK n)):=by
 have hw:cV w.heap.size w w:=cV.refl;refine tL (by simp) ?_;refine⟨-1000000,by decide,?_⟩;refine dI.mk (fun h1=>?_) (fun h1=>?_)
 ·intro ρe we re;have h1:=aI h1;exact⟨_,rfl,hw.tr re.cM,_,rfl,by rw[decide_eq_true_iff];exact⟨fun h=>⟨h1,h⟩,fun h=>h.2⟩⟩
 ·intro ρe we re;have h1:=aH h1;exact⟨_,rfl,hw.tr re.cM,_,rfl,(fun h=>by cases h),fun h=>absurd h.1 h1⟩
theorem Es(n:Int)(w:World)(an ab aq:Option Addr)(ln cn nb cb nq cq:Nat):dm PG N.vP #[.agg #[.slice an ln cn,.slice ab nb cb,.slice aq nq cq],.int .i64 n] w (eB w fun v' _=>∃d,v'= .bool d∧(d=true↔iV ln n)):=by
 have hw:cV w.heap.size w w:=cV.refl;refine yr (by simp) ?_;refine dI.mk (fun h1=>?_) (fun h1=>?_)
 ·intro ρe we re;have h1:=aI h1;exact⟨_,rfl,hw.tr re.cM,_,rfl,by rw[decide_eq_true_iff];exact⟨fun h=>⟨h1,h⟩,fun h=>h.2⟩⟩
 ·intro ρe we re;have h1:=aH h1;exact⟨_,rfl,hw.tr re.cM,_,rfl,(fun h=>by cases h),fun h=>absurd h.1 h1⟩
theorem CF(x y0 y1 y2:Int)(n:Nat)(w:World):dm PG N.lQ #[.agg #[.int .i64 x,.int .i64 y0,.int .i64 y1,.int .i64 y2],.int .i64 n] w (eB w fun v' _=>v'= .int .i64 (jD n (x,y0,y1,y2))):=by
 have hw:cV w.heap.size w w:=cV.refl;refine pI (by simp) ?_;refine dI.mk (fun h1=>?_) (fun h1=>?_)
 ·have h1:=aI h1;intro ρe we re;exact⟨_,rfl,hw.tr re.cM,by show Value.int .i64 _=_;rw[jD,aK (by unfold iV;omega)]⟩
 have h1:=aH h1;refine dI.mk (fun h2=>?_) (fun h2=>?_)
 ·have h2:=aI h2;intro ρe we re;exact⟨_,rfl,hw.tr re.cM,by show Value.int .i64 _=_;rw[jD,aK (by unfold iV;omega)]⟩
 have h2:=aH h2;have hh:iV n x:=by unfold iV;omega
 refine cC (cE hw (fun _ w' v w2=>∃d,v= .bool d∧(d=true↔mK y0)) (fun O w' r=>kP _ w') ?_);rintro O wa1 v1 wb1 iv1 r he hw h_ ⟨d0,rfl,hz0⟩
 cases d0
 ·have hz0:¬mK y0:=fun h=>by have:=hz0.2 h;cases this
  intro ρe we re;exact⟨_,rfl,hw.tr re.cM,by show Value.int .i64 _=_;rw[jD,if_pos hh,aK (fun h=>hz0 h.1)]⟩
 replace hz0:=hz0.1 rfl;refine cC (cE hw (fun _ w' v w2=>∃d,v= .bool d∧(d=true↔mK y1)) (fun O w' r=>kP _ w') ?_);rintro O wa2 v2 wb2 iv2 r he hw h_ ⟨d1,rfl,hz1⟩
 cases d1
 ·have hz1:¬mK y1:=fun h=>by have:=hz1.2 h;cases this
  intro ρe we re;exact⟨_,rfl,hw.tr re.cM,by show Value.int .i64 _=_;rw[jD,if_pos hh,aK (fun h=>hz1 h.2.1)]⟩
 replace hz1:=hz1.1 rfl;refine cC (cE hw (fun _ w' v w2=>∃d,v= .bool d∧(d=true↔mK y2)) (fun O w' r=>kP _ w') ?_);rintro O wa3 v3 wb3 iv3 r he hw h_ ⟨d2,rfl,hz2⟩
 cases d2
 ·have hz2:¬mK y2:=fun h=>by have:=hz2.2 h;cases this
  intro ρe we re;exact⟨_,rfl,hw.tr re.cM,by show Value.int .i64 _=_;rw[jD,if_pos hh,aK (fun h=>hz2 h.2.2)]⟩
 replace hz2:=hz2.1 rfl;intro ρe we re;exact⟨_,rfl,hw.tr re.cM,by show Value.int .i64 _=_;rw[jD,if_pos hh,if_pos ⟨hz0,hz1,hz2⟩]⟩
theorem AA(hS:Old S w)(hl:jM w S vl l):dm PG N.kc #[vl,.int .i64 n] w (eB w fun v' _=>v'= .int .i64 (tW n l)):=by
 have hw:cV w.heap.size w w:=cV.refl;obtain⟨al,cl,rfl,hcl,hml⟩:=hl.shape;unfold maxLen at hml;refine oI (by simp) ?_;refine dI.mk (fun h1=>?_) (fun h1=>?_)
 ·have h1:=aI h1;intro ρe we re;exact⟨_,rfl,hw.tr re.cM,by show Value.int .i64 _=_;rw[tW,if_pos (by omega)]⟩
 have h1:=aH h1
 refine⟨Nat×World×Iv,fun z=>⟨[(1,.o (.v (.int .i64 n))),(11,.o (.v (.slice al l.length cl))),(12,.o (.v (.int .i64 l.length))),(13,.o (.v (.int .i64 ((z.1:Nat):Int))))],[],0,z.2.2,z.2.1⟩,fun z=>l.length-z.1,
  fun z=>z.1<=l.length∧cV w.heap.size w z.2.1∧tW n l=eX (fun _=>jD n) (l.take z.1) (l.drop z.1),?_,?_⟩
 ·intro O w' r3;exact⟨(0,w',[]),⟨aP _,hw.tr r3.cM,by rw[tW,aK (by omega)];rfl⟩,Sub.gn [] r3⟩
 rintro⟨i,w1,iv⟩ ⟨hi,hw,hE⟩;dsimp only at hi hw hE ⊢;refine dI.mk (fun hib=>?_) (fun hib=>?_)
 ·have hib:i<l.length:=by simpa using hib
  obtain⟨x,hx⟩:∃x,l[i]? =some x:=⟨_,aB hib⟩
  obtain⟨adx,cs,hax,hP,-,hlx⟩:=hl.load (by decide) hx;have hP:cs=[.int .i64 x.1,.int .i64 x.2.1,.int .i64 x.2.2.1,.int .i64 x.2.2.2]:=hP;subst hP;refine⟨adx,hax,by omega,[.int .i64 x.1,.int .i64 x.2.1,.int .i64 x.2.2.1,.int .i64 x.2.2.2],rfl,rdO hlx hw hS,?_⟩;refine cC (cE hw (fun _ w' v w2=>v= .int .i64 (jD n x)) (fun O w' r=>CF _ _ _ _ n w') ?_);rintro O wa1 v1 wb1 iv1 r he hw h_ rfl;obtain⟨c,hc⟩:∃c,jD n x=c:=⟨_,rfl⟩
  rw[hc];refine dI.mk (fun hd=>?_) (fun hd=>?_)
  ·have hd:c≠0:=by simpa using hd
   intro ρe we re;exact⟨_,rfl,hw.tr re.cM,by show Value.int .i64 _=_;rw[hE,cS hx hc hd]⟩
  have hd:c=0:=by simpa using hd
  rw[hd]at hc;rw[gA hx hc]at hE;refine⟨((i+1:Nat):Int),wo,?_⟩;intro ρ3 w6 r3;exact⟨(i+1,w6,_),⟨hib,hw.tr r3.cM,hE⟩,Sub.gn [] r3,by dsimp only;omega⟩
 have hib:i=l.length:=aR hi (by simpa using hib);rw[iK (by omega)]at hE;intro ρe we re;exact⟨_,rfl,hw.tr re.cM,by show Value.int .i64 _=_;rw[hE]⟩
theorem ew(h:cs[j]? =some v)(w:World):(part T.int cs j).run PG w= .ok v w:=by
 have:=(hτ T.int _ rfl).isAgg w;simp only[part,Sem.run_bind,this,Result.andThen]
 simp[h]
theorem eq_int(d:Nat)(a b:Int)(w:World):(Op.equalIn (d+1) T.int (.int .i64 a) (.int .i64 b)).run PG w= .ok (a==b) w:=by
 unfold Op.equalIn;simp[run_underlying ((hτ T.int _ rfl).i1 rfl)]
theorem Jv(p0 p1 p2 q0 q1 q2:Int)(w:World):(Op.equal T.Node (.agg #[.int .i64 p0,.int .i64 p1,.int .i64 p2]) (.agg #[.int .i64 q0,.int .i64 q1,.int .i64 q2])).run PG w= .ok (decide (p0=q0∧p1=q1∧p2=q2)) w:=by
 have h:=run_underlying Tryz.underlying169;simp only[Op.equal,Op.maxDepth]
 unfold Op.equalIn;have a0:=ew (cs:= #[Value.int .i64 p0,Value.int .i64 p1,Value.int .i64 p2]) (j:=0) rfl;have a1:=ew (cs:= #[Value.int .i64 p0,Value.int .i64 p1,Value.int .i64 p2]) (j:=1) rfl;have a2:=ew (cs:= #[Value.int .i64 p0,Value.int .i64 p1,Value.int .i64 p2]) (j:=2) rfl;have b0:=ew (cs:= #[Value.int .i64 q0,Value.int .i64 q1,Value.int .i64 q2]) (j:=0) rfl;have b1:=ew (cs:= #[Value.int .i64 q0,Value.int .i64 q1,Value.int .i64 q2]) (j:=1) rfl;have b2:=ew (cs:= #[Value.int .i64 q0,Value.int .i64 q1,Value.int .i64 q2]) (j:=2) rfl;simp[h,a0,a1,a2,b0,b1,b2,eq_int 9998];by_cases h0:p0=q0
 ·by_cases h1:p1=q1
  ·by_cases h2:p2=q2<;>simp[h0,h1,h2]
  ·simp[h0,h1]
 ·simp[h0]
theorem Jw(p0 p1 q0 q1:Int)(w:World):(Op.equal T.Bd (.agg #[.int .i64 p0,.int .i64 p1]) (.agg #[.int .i64 q0,.int .i64 q1])).run PG w= .ok (decide (p0=q0∧p1=q1)) w:=by
 have h:=run_underlying Tryz.underlying187;simp only[Op.equal,Op.maxDepth]
 unfold Op.equalIn;have a0:=ew (cs:= #[Value.int .i64 p0,Value.int .i64 p1]) (j:=0) rfl;have a1:=ew (cs:= #[Value.int .i64 p0,Value.int .i64 p1]) (j:=1) rfl;have b0:=ew (cs:= #[Value.int .i64 q0,Value.int .i64 q1]) (j:=0) rfl;have b1:=ew (cs:= #[Value.int .i64 q0,Value.int .i64 q1]) (j:=1) rfl;simp[h,a0,a1,b0,b1,eq_int 9998];by_cases h0:p0=q0
 ·by_cases h1:p1=q1<;>simp[h0,h1]
 ·simp[h0]
abbrev BA(p:Int×Int×Int):Value:=.agg #[.int .i64 p.1,.int .i64 p.2.1,.int .i64 p.2.2]
theorem Dh(p q:Int×Int×Int)(w:World)(o1 o2:Operand):(do eqGuard .eql T.Node o1 o2 (BA p) (BA q);binOp .eql T.Node (BA p) (BA q)).run PG w= .ok (.bool (decide (p=q))) w:=by
 have h:=Jv p.1 p.2.1 p.2.2 q.1 q.2.1 q.2.2 w;simp[eqGuard,binOp,h];obtain⟨a,b,c⟩:=p;obtain⟨a2,b2,c2⟩:=q;by_cases h0:a=a2
 ·by_cases h1:b=b2
  ·by_cases h2:c=c2<;>simp[h0,h1,h2]
  ·simp[h0,h1]
 ·simp[h0]
def mi(k:Int×Int):Value:=.agg #[.int .i64 k.1,.int .i64 k.2]
theorem pT{a b:Int×Int}(h:mi a=mi b):a=b:=by
 unfold mi at h;injection h with h;have h1:=congrArg (fun x=>x[0]?) h;have h2:=congrArg (fun x=>x[1]?) h;simp at h1 h2;exact Prod.ext h1 h2
theorem Gv(d:Nat)(a:Int)(em:Bool)(w:World):(Instr.checkKey em (d+1) T.int (.int .i64 a)).run PG w= .ok () w:=by
 unfold Instr.checkKey;simp[run_underlying ((hτ T.int _ rfl).i1 rfl)]
theorem Et(p0 p1:Int)(em:Bool)(w:World):(Instr.checkKey em 10000 T.Bd (.agg #[.int .i64 p0,.int .i64 p1])).run PG w= .ok () w:=by
 have h:=run_underlying Tryz.underlying187;have a0:=ew (cs:= #[Value.int .i64 p0,Value.int .i64 p1]) (j:=0) rfl;have a1:=ew (cs:= #[Value.int .i64 p0,Value.int .i64 p1]) (j:=1) rfl;unfold Instr.checkKey;simp[h,a0,a1,Gv 9998]
theorem xI:H5 PG T.Bd (fun v=>∃k,v=mi k) where
 desc:=⟨_,Tryz.underlying187⟩
 check:=fun w em v ⟨k,e⟩=>by subst e;exact Et k.1 k.2 em w
 eq:=fun w a b ⟨p,e1⟩ ⟨q,e2⟩=>by
  subst e1 e2;refine⟨_,Jw p.1 p.2 q.1 q.2 w,?_⟩;rw[decide_eq_true_iff];exact⟨fun h=>by rw[show p=q from Prod.ext h.1 h.2],fun h=>by have:=pT h;subst this;exact⟨rfl,rfl⟩⟩
theorem tX:PG.underlying T.wB=some (.map T.Bd T.bool):=Tryz.underlying185
theorem BB(w:World):(zeroValue T.bool).run PG w= .ok (.bool false) w:=by kernel_rfl
theorem Ie(ad:Option Addr)(k:Nat):ad.map (·.add (0*k))=ad:=by
 rw[Nat.zero_mul]
 cases ad with
 |none=>rfl
 |some a=>simp only[Option.map_some,Option.some.injEq];unfold Addr.add;split<;>simp_all
theorem eS.take{α:Type}{k:Nat}{P:World->(Nat->Prop)->List Value->α->Prop}{c:Nat}{xs:List α}(h:eS k P w S (.slice a n c) xs){i:Nat}(hi:i<=xs.length):
  eS k P w S (.slice a i c) (xs.take i):=by
 obtain⟨css,⟨h0,h1,h2,a',c',e,h3,h4⟩,hl,hlk,hf⟩:=h;injection e with e1 e2 e3;subst e1 e2 e3;have hlen:(css.take i).length=i:=by rw[aY,hl];omega
 have hli:(xs.take i).length=i:=by rw[aY];omega
 have hsplit:css.flatten=(css.take i).flatten++(css.drop i).flatten:=by rw[<-List.flatten_append,List.take_append_drop]
 refine⟨css.take i,⟨by omega,?_,fun u hu=>h2 u (by rw[hsplit];exact List.mem_append_left _ hu),a,c,by rw[hli],by omega,fun j u hj=>h4 j u ?_⟩,by rw[hlen,hli],fun cs hc=>hlk cs (List.mem_of_mem_take hc),fun j cs x k1 k2=>?_⟩
 ·rw[ud fun cs hc=>hlk cs (List.mem_of_mem_take hc),hlen,hli]
 ·rw[hsplit,aM (aE.1 hj).1];exact hj
 ·have hj:=(aE.1 k1).1;rw[hlen]at hj;rw[bP hj]at k1 k2;exact hf j cs x k1 k2
theorem mF.cG{w2:World}(h:mF w S v xs)(hk:∀g,S g->w2.heap[g]? =w.heap[g]?):mF w2 S v xs:=eS.cG (w:=w) (fun _ _ h=>h) h hk
theorem CG(hS:Old S w)(hn:mF w S vn xs)(p:Int×Int×Int):dm PG N.fR #[vn,BA p] w (eB w fun v' _=>∃r,v'= .int .i64 r∧(-1<=r)∧(0<=r↔p∈xs)):=by
 have hw:cV w.heap.size w w:=cV.refl;obtain⟨an,cn,rfl,hcn,hmn⟩:=hn.shape;unfold maxLen at hmn;refine gz (by simp) ?_
 refine⟨Nat×World,fun z=>⟨[(0,.o (.v (.slice an xs.length cn))),(3,.o (.p 0 0)),(7,.o (.v (.int .i64 xs.length))),(8,.o (.v (.int .i64 ((z.1:Nat):Int))))],[(0,.box T.Node [.v (.int .i64 p.1),.v (.int .i64 p.2.1),.v (.int .i64 p.2.2)])],1,[],z.2⟩,fun z=>xs.length-z.1,
  fun z=>z.1<=xs.length∧cV w.heap.size w z.2∧(p∈xs↔p∈xs.drop z.1),?_,?_⟩
 ·intro O w' r3;exact⟨(0,w'),⟨aP _,hw.tr r3.cM,Iff.rfl⟩,Sub.gn [] r3⟩
 rintro⟨i,w1⟩ ⟨hi,hw,hE⟩;dsimp only at hi hw hE ⊢;refine dI.mk (fun hib=>?_) (fun hib=>?_)
 ·have hib:i<xs.length:=by simpa using hib
  obtain⟨q,hx⟩:∃x,xs[i]? =some x:=⟨_,aB hib⟩
  have hdr:xs.drop i=q::xs.drop (i+1):=by rw[List.drop_eq_getElem_cons hib,(aE.1 hx).2]
  obtain⟨adx,cs,hax,hP,-,hlx⟩:=hn.load (by decide) hx;have hP:cs=[.int .i64 q.1,.int .i64 q.2.1,.int .i64 q.2.2]:=hP;subst hP;refine iI hτ db (.x 1 (.x 2 (.x 3 (.ld 0 32 (.ld 4 32 (.x 5 .nil)))))) (by kernel_rfl) (by kernel_rfl) ?_;refine⟨adx,hax,by omega,[.int .i64 q.1,.int .i64 q.2.1,.int .i64 q.2.2],rfl,rdO hlx hw hS,decide (p=q),fun O w o1 o2=>Dh p q w o1 o2,?_⟩;refine dI.mk (fun hd=>?_) (fun hd=>?_)
  ·have hd:p=q:=aI hd;intro ρe we re;exact⟨_,rfl,hw.tr re.cM,_,rfl,by omega,iff_of_true (by omega) (hE.2 (by rw[hdr,hd];exact aJ))⟩
  have hd:p≠q:=aH hd;rw[hdr,List.mem_cons,or_iff_right hd]at hE;refine⟨((i+1:Nat):Int),wo,?_⟩;intro ρ3 w6 r3;exact⟨(i+1,w6),⟨hib,hw.tr r3.cM,hE⟩,Sub.gn [] r3,by dsimp only;omega⟩
 have hib:i=xs.length:=aR hi (by simpa using hib);rw[hib,List.drop_length]at hE;intro ρe we re;exact⟨_,rfl,hw.tr re.cM,_,rfl,by omega,iff_of_false (by omega) fun h=>by cases hE.1 h⟩
theorem wY(hS:Old S w)(hn:mF w S vn xs)(p:Int×Int×Int):dm PG N.fD #[vn,BA p] w (eB w fun v' _=>∃d,v'= .bool d∧(d=true↔p∈xs)):=by
 have hw:cV w.heap.size w w:=cV.refl;obtain⟨an,cn,rfl,hcn,hmn⟩:=hn.shape;refine gX (by simp) ?_;refine cC (cE hw (fun _ w' v w2=>∃r,v= .int .i64 r∧(-1<=r)∧(0<=r↔p∈xs)) (fun O w' r=>CG (p:=p) (oS hS r) (mF.cG hn (kS hw r hS))) ?_);rintro O wa1 v1 wb1 iv1 r he hw h_ ⟨r0,rfl,hr0,hr1⟩;intro ρe we re;exact⟨_,rfl,hw.tr re.cM,_,rfl,by rw[decide_eq_true_iff];exact hr1⟩
def wZ(w:World)(S:Nat->Prop)(g:Nat)(ks:List Value):Prop:=S g∧Ck w g ks
section
variable{S:Nat->Prop}{H:Hp}{nx:Nat}{iv iv':Iv}{B:Nat}{w w' w2:World}{O:Nat->Sx.df}{g:Nat}{ks:List Value}
theorem wZ.rel(h:wZ w (Cv S B iv) g ks)(r:Rel H nx iv B w O w')(hS:∀g,S g->g<B):wZ w' (Cv S B iv) g ks:=⟨h.1,h.2.cG (Rel.same r hS h.1)⟩
theorem wZ.cF(h:wZ w (Cv S B iv) g ks)(r:Rel H nx iv B w O w')(hS:∀g,S g->g<B)(he:Ext w' w2)(hm:∀p,p∈iv->p∈iv'):wZ w2 (Cv S B iv') g ks:=
 ⟨h.1.mono hm,(h.rel r hS).2.cG (he.block g (Rel.old r hS g h.1))⟩
end
set_option maxHeartbeats 2000000 in
theorem zK(hS:Old S w)(hf:dV w S vn vb vs f):dm PG N.qc #[.agg #[vn,vb,vs]] w (eB w fun v' _=>v'= .int .i64 (eK f)):=by
 have hw:cV w.heap.size w w:=cV.refl;obtain⟨an,cn,ab,cb,aq,cq,rfl,rfl,rfl,hmn,hmb,hms⟩:=hf.shape;obtain⟨_,_,hsh,hcn,_⟩:=hf.nodes.shape;injection hsh with e1 e2 e3;subst e1 e3;refine uP (by simp) ?_;refine dI.mk (fun h0=>?_) (fun h0=>?_)
 ·have h0:=aI h0;intro ρe we re;exact⟨_,rfl,hw.tr re.cM,by show Value.int .i64 _=_;rw[eK,if_pos (by omega)]⟩
 have h0:=aH h0;refine dI.mk (fun h1=>?_) (fun h1=>?_)
 ·have h1:=aI h1;intro ρe we re;exact⟨_,rfl,hw.tr re.cM,by show Value.int .i64 _=_;rw[eK,if_pos (by omega)]⟩
 have h1:=aH h1;refine dI.mk (fun h2=>?_) (fun h2=>?_)
 ·have h2:=aI h2;intro ρe we re;exact⟨_,rfl,hw.tr re.cM,by show Value.int .i64 _=_;rw[eK,if_pos (by omega)]⟩
 have h2:=aH h2
 refine⟨Nat×World×Iv,fun z=>⟨[(1,.o (.p 0 0)),(30,.o (.v (.slice an f.nodes.length cn))),(31,.o (.v (.int .i64 f.nodes.length))),(32,.o (.v (.int .i64 ((z.1:Nat):Int))))],[(0,.box T.Frame [.v (.slice an f.nodes.length cn),.v (.slice ab f.bars.length cb),.v (.slice aq f.cU.length cq)])],1,z.2.2,z.2.1⟩,fun z=>f.nodes.length-z.1,
  fun z=>z.1<=f.nodes.length∧cV w.heap.size w z.2.1∧eX ec [] f.nodes=eX ec (f.nodes.take z.1) (f.nodes.drop z.1),?_,?_⟩
 ·intro O w' r3;exact⟨(0,w',[]),⟨aP _,hw.tr r3.cM,rfl⟩,Sub.gn [] r3⟩
 rintro⟨i,w1,iv⟩ ⟨hi,hw,hE⟩;dsimp only at hi hw hE ⊢;refine dI.mk (fun hib=>?_) (fun hib=>?_)
 ·have hib:i<f.nodes.length:=by simpa using hib
  obtain⟨q,hx⟩:∃x,f.nodes[i]? =some x:=⟨_,aB hib⟩
  obtain⟨adx,cs,hax,hP,-,hlx⟩:=hf.nodes.load (by decide) hx;have hP:cs=[.int .i64 q.1,.int .i64 q.2.1,.int .i64 q.2.2]:=hP;subst hP;refine⟨adx,hax,by omega,[.int .i64 q.1,.int .i64 q.2.1,.int .i64 q.2.2],rfl,rdO hlx hw hS,?_⟩;refine cC (cE hw (fun _ w' v w2=>∃d,v= .bool d∧(d=true↔mK q.1)) (fun O w' r=>kP _ w') ?_);rintro O wa1 v1 wb1 iv1 r he hw h_ ⟨d0,rfl,hz0⟩
  cases d0
  ·have hz0:¬mK q.1:=fun h=>by have:=hz0.2 h;cases this
   intro ρe we re;exact⟨_,rfl,hw.tr re.cM,by show Value.int .i64 _=_;rw[eK,aK (by omega),if_pos (by rw[hE,cS hx (show ec (f.nodes.take i) q=2 by rw[ec,aK (fun h=>hz0 h.1)]) (by decide)];decide),hE,cS hx (show ec (f.nodes.take i) q=2 by rw[ec,aK (fun h=>hz0 h.1)]) (by decide)]⟩
  replace hz0:=hz0.1 rfl;refine cC (cE hw (fun _ w' v w2=>∃d,v= .bool d∧(d=true↔mK q.2.1)) (fun O w' r=>kP _ w') ?_);rintro O wa2 v2 wb2 iv2 r he hw h_ ⟨d1,rfl,hz1⟩
  cases d1
  ·have hz1:¬mK q.2.1:=fun h=>by have:=hz1.2 h;cases this
   intro ρe we re;exact⟨_,rfl,hw.tr re.cM,by show Value.int .i64 _=_;rw[eK,aK (by omega),if_pos (by rw[hE,cS hx (show ec (f.nodes.take i) q=2 by rw[ec,aK (fun h=>hz1 h.2.1)]) (by decide)];decide),hE,cS hx (show ec (f.nodes.take i) q=2 by rw[ec,aK (fun h=>hz1 h.2.1)]) (by decide)]⟩
  replace hz1:=hz1.1 rfl;refine cC (cE hw (fun _ w' v w2=>∃d,v= .bool d∧(d=true↔mK q.2.2)) (fun O w' r=>kP _ w') ?_);rintro O wa3 v3 wb3 iv3 r he hw h_ ⟨d2,rfl,hz2⟩
  cases d2
  ·have hz2:¬mK q.2.2:=fun h=>by have:=hz2.2 h;cases this
   intro ρe we re;exact⟨_,rfl,hw.tr re.cM,by show Value.int .i64 _=_;rw[eK,aK (by omega),if_pos (by rw[hE,cS hx (show ec (f.nodes.take i) q=2 by rw[ec,aK (fun h=>hz2 h.2.2)]) (by decide)];decide),hE,cS hx (show ec (f.nodes.take i) q=2 by rw[ec,aK (fun h=>hz2 h.2.2)]) (by decide)]⟩
  replace hz2:=hz2.1 rfl;refine iI hτ db (.x 0 (.x 2 (.ld 1 104 (.x 3 (.ld 4 96 (.x 5 (.x 6 .nil))))))) (by kernel_rfl) (by kernel_rfl) ?_;refine⟨⟨by omega,by omega,by omega⟩,an,i,cn,by rw[show ((0:Int).toNat*3)=0*3 from rfl,Ie];split<;>rfl,by simp,by simp,?_⟩;refine cE hw (fun _ w' v w2=>∃d,v= .bool d∧(d=true↔q∈f.nodes.take i)) (fun O w' r=>wY (p:=q) (oS hS r) (mF.cG (hf.nodes.take (Nat.le_of_lt hib)) (kS hw r hS))) ?_;rintro O wa4 v4 wb4 iv4 r he hw h_ ⟨d3,rfl,hz3⟩
  cases d3
  ·have hz3:q∉f.nodes.take i:=fun h=>by have:=hz3.2 h;cases this
   rw[gA hx (ry.2 ⟨⟨hz0,hz1,hz2⟩,hz3⟩)]at hE;refine⟨((i+1:Nat):Int),wo,?_⟩;intro ρ3 w6 r3;exact⟨(i+1,w6,_),⟨hib,hw.tr r3.cM,hE⟩,Sub.gn [] r3,by dsimp only;omega⟩
  replace hz3:=hz3.1 rfl;intro ρe we re;exact⟨_,rfl,hw.tr re.cM,by show Value.int .i64 _=_;rw[eK,aK (by omega),if_pos (by rw[hE,cS hx (show ec (f.nodes.take i) q=12 by rw[ec,if_pos ⟨hz0,hz1,hz2⟩,if_pos hz3]) (by decide)];decide),hE,cS hx (show ec (f.nodes.take i) q=12 by rw[ec,if_pos ⟨hz0,hz1,hz2⟩,if_pos hz3]) (by decide)]⟩
 have hib:i=f.nodes.length:=aR hi (by simpa using hib);rw[iK (by omega)]at hE;refine uv (fun O wa wb r hM0 hg hsz=>?_);have hw2:=(hw.tr r.cM).tr (cV.grown hg (fun x e=>by cases e) r.cD);have hB:w.heap.size<=wa.heap.size:=r.cD;have hM:wZ wb (Cf w ((wa.heap.size,wa.heap.size+1)::iv)) wa.heap.size []:=⟨.inr ⟨hB,_,_,aJ,aG _,bf _⟩,hM0⟩
 generalize (wa.heap.size,wa.heap.size+1)::iv=iv2 at*
 obtain⟨gm,hgm⟩:∃gm,wa.heap.size=gm:=⟨_,rfl⟩
 rw[hgm]at hM ⊢;have hw:=hw2
 refine⟨Nat×World×Iv,fun z=>⟨[(1,.o (.p 0 0)),(5,.o (.v (.map (some gm)))),(64,.o (.v (.slice ab f.bars.length cb))),(65,.o (.v (.int .i64 f.bars.length))),(66,.o (.v (.int .i64 ((z.1:Nat):Int))))],[(0,.box T.Frame [.v (.slice an f.nodes.length cn),.v (.slice ab f.bars.length cb),.v (.slice aq f.cU.length cq)])],1,z.2.2,z.2.1⟩,fun z=>f.bars.length-z.1,
  fun z=>z.1<=f.bars.length∧cV w.heap.size w z.2.1∧eX (eo f.nodes.length) [] f.bars=eX (eo f.nodes.length) (f.bars.take z.1) (f.bars.drop z.1)∧wZ z.2.1 (Cf w z.2.2) gm ((f.bars.take z.1).map fun b=>mi (fo b)),?_,?_⟩
 ·intro O w' r3;exact⟨(0,w',iv2),⟨aP _,hw.tr r3.cM,rfl,hM.rel r3 (cB w)⟩,Sub.gn [] r3⟩
 rintro⟨i,w1,iv⟩ ⟨hi,hw,hE2,hM⟩;dsimp only at hi hw hE2 hM ⊢;refine dI.mk (fun hib=>?_) (fun hib=>?_)
 ·have hib:i<f.bars.length:=by simpa using hib
  obtain⟨b,hx⟩:∃b,f.bars[i]? =some b:=⟨_,aB hib⟩
  obtain⟨adb,cs,hab,hF,-,hlb⟩:=hf.bars.load (by decide) hx;obtain⟨g0,g1,g2,g3,g4,g5,g6,g7,rfl,hF⟩:=hF;refine⟨adb,hab,by omega,[.int .i64 b.1,.int .i64 b.2.1,.bool g0,.slice g1 g2 g3,.bool g4,.slice g5 g6 g7],rfl,rdO hlb hw hS,?_⟩;refine cC (cE hw (fun _ w' v w2=>∃d,v= .bool d∧(d=true↔iV f.nodes.length b.1)) (fun O w' r=>Es _ w' _ _ _ _ _ _ _ _ _) ?_);rintro O wa1 v1 wb1 iv1 r he hw h_ ⟨d0,rfl,hz0⟩;replace hM:=hM.cF r (cB w) he (mC h_)
  cases d0
  ·have hz0:¬iV f.nodes.length b.1:=fun h=>by have:=hz0.2 h;cases this
   intro ρe we re;exact⟨_,rfl,hw.tr re.cM,by show Value.int .i64 _=_;rw[eK,aK (by omega),aK (by rw[hE];decide),if_pos (by rw[hE2,cS hx (show eo f.nodes.length (f.bars.take i) b=6 by rw[eo,aK (fun h=>hz0 h.1)]) (by decide)];decide),hE2,cS hx (show eo f.nodes.length (f.bars.take i) b=6 by rw[eo,aK (fun h=>hz0 h.1)]) (by decide)]⟩
  replace hz0:=hz0.1 rfl;refine cC (cE hw (fun _ w' v w2=>∃d,v= .bool d∧(d=true↔iV f.nodes.length b.2.1)) (fun O w' r=>Es _ w' _ _ _ _ _ _ _ _ _) ?_);rintro O wa2 v2 wb2 iv2 r he hw h_ ⟨d1,rfl,hz1⟩;replace hM:=hM.cF r (cB w) he (mC h_)
  cases d1
  ·have hz1:¬iV f.nodes.length b.2.1:=fun h=>by have:=hz1.2 h;cases this
   intro ρe we re;exact⟨_,rfl,hw.tr re.cM,by show Value.int .i64 _=_;rw[eK,aK (by omega),aK (by rw[hE];decide),if_pos (by rw[hE2,cS hx (show eo f.nodes.length (f.bars.take i) b=6 by rw[eo,aK (fun h=>hz1 h.2)]) (by decide)];decide),hE2,cS hx (show eo f.nodes.length (f.bars.take i) b=6 by rw[eo,aK (fun h=>hz1 h.2)]) (by decide)]⟩
  replace hz1:=hz1.1 rfl;refine dI.mk (fun hab2=>?_) (fun hab2=>?_)
  ·have hab2:b.1=b.2.1:=by simpa using hab2
   intro ρe we re;exact⟨_,rfl,hw.tr re.cM,by show Value.int .i64 _=_;rw[eK,aK (by omega),aK (by rw[hE];decide),if_pos (by rw[hE2,cS hx (show eo f.nodes.length (f.bars.take i) b=3 by rw[eo,if_pos ⟨hz0,hz1⟩,if_pos hab2]) (by decide)];decide),hE2,cS hx (show eo f.nodes.length (f.bars.take i) b=3 by rw[eo,if_pos ⟨hz0,hz1⟩,if_pos hab2]) (by decide)]⟩
  have hab2:b.1≠b.2.1:=by simpa using hab2
  refine xZ xI tX BB rfl rfl (key:=mi (fo b)) (fun _=>rfl) ⟨_,rfl⟩ (fun k hk=>by obtain⟨x,_,rfl⟩:=aT.1 hk;exact⟨_,rfl⟩) (fun O w' r=>(hM.rel r (cB w)).2) (fun O w' d r hd=>?_);replace hw:=hw.tr r.cM;replace hM:=hM.rel r (cB w);replace hd:d=true↔fo b∈(f.bars.take i).map fo:=by
   rw[hd];constructor
   ·intro h;obtain⟨x,h1,h2⟩:=aT.1 h;exact aT.2 ⟨x,h1,pT h2⟩
   ·intro h;obtain⟨x,h1,h2⟩:=aT.1 h;exact aT.2 ⟨x,h1,congrArg mi h2⟩
  cases d
  ·have hdup:fo b∉(f.bars.take i).map fo:=fun h=>by have:=hd.2 h;cases this
   refine cC (cE hw (fun _ w' v w2=>v= .int .i64 (rs b.2.2)) (fun O w' r=>(Eh (oS hS r) (hF.v.cG (kS hw r hS)) (eI.zero (S:=S)).v).mono fun _ _ ⟨v2,e1,e2,e3⟩=>⟨v2,e1,e2,by rw[e3,pR]⟩) ?_);rintro O wa3 v3 wb3 iv3 r he hw h_ rfl;replace hM:=hM.cF r (cB w) he (mC h_);obtain⟨cf,hcf⟩:∃c,rs b.2.2=c:=⟨_,rfl⟩
   rw[hcf];refine dI.mk (fun hd2=>?_) (fun hd2=>?_)
   ·have hd2:b.2.2<=0:=by have:=aI hd2;rw[<-Rat.not_lt,<-ko];omega
    intro ρe we re;exact⟨_,rfl,hw.tr re.cM,by show Value.int .i64 _=_;rw[eK,aK (by omega),aK (by rw[hE];decide),if_pos (by rw[hE2,cS hx (show eo f.nodes.length (f.bars.take i) b=2 by rw[eo,if_pos ⟨hz0,hz1⟩,aK hab2,aK hdup,if_pos hd2]) (by decide)];decide),hE2,cS hx (show eo f.nodes.length (f.bars.take i) b=2 by rw[eo,if_pos ⟨hz0,hz1⟩,aK hab2,aK hdup,if_pos hd2]) (by decide)]⟩
   ·have hd2:0<b.2.2:=by have:=aH hd2;rw[<-ko];omega
    refine qX xI tX rfl rfl (key:=mi (fo b)) (fun _=>rfl) rfl ⟨_,rfl⟩ (fun k hk=>by obtain⟨x,_,rfl⟩:=aT.1 hk;exact⟨_,rfl⟩) (fun h=>by
     obtain⟨x,h1,h2⟩:=aT.1 h
     exact hdup (aT.2 ⟨x,h1,pT h2⟩)) (fun O w' r=>⟨(hM.rel r (cB w)).2,Rel.not r (cB w) hM.1⟩) (fun O wa wb r hM2 hg hsz=>?_)
    replace hw:=(hw.tr r.cM).tr (cV.grown hg (fun x e=>by injection e with e;subst e;exact hM.1.elim (fun h=>h.elim) fun h=>h.1) r.cD);rw[show ((f.bars.take i).map fun b=>mi (fo b))++[mi (fo b)]=(f.bars.take (i+1)).map fun b=>mi (fo b) by rw[List.take_add_one,hx];simp]at hM2;replace hM:wZ wb (Cf w iv3) gm ((f.bars.take (i+1)).map fun b=>mi (fo b)):=⟨hM.1,hM2⟩
    rw[gA hx (mW.2 ⟨⟨hz0,hz1⟩,hab2,hdup,hd2⟩)]at hE2;refine⟨((i+1:Nat):Int),wo,?_⟩;intro ρ3 w6 r3;exact⟨(i+1,w6,_),⟨hib,hw.tr r3.cM,hE2,hM.rel r3 (cB w)⟩,Sub.gn [] r3,by dsimp only;omega⟩
  ·have hd:=hd.1 rfl;intro ρe we re;exact⟨_,rfl,hw.tr re.cM,by show Value.int .i64 _=_;rw[eK,aK (by omega),aK (by rw[hE];decide),if_pos (by rw[hE2,cS hx (show eo f.nodes.length (f.bars.take i) b=5 by rw[eo,if_pos ⟨hz0,hz1⟩,aK hab2,if_pos hd]) (by decide)];decide),hE2,cS hx (show eo f.nodes.length (f.bars.take i) b=5 by rw[eo,if_pos ⟨hz0,hz1⟩,aK hab2,if_pos hd]) (by decide)]⟩
 have hib:i=f.bars.length:=aR hi (by simpa using hib);rw[iK (by omega)]at hE2;have hE1:=hE2;refine uv (fun O wa wb r hM0 hg hsz=>?_);have hw2:=(hw.tr r.cM).tr (cV.grown hg (fun x e=>by cases e) r.cD);have hB:w.heap.size<=wa.heap.size:=r.cD;have hM:wZ wb (Cf w ((wa.heap.size,wa.heap.size+1)::iv)) wa.heap.size []:=⟨.inr ⟨hB,_,_,aJ,aG _,bf _⟩,hM0⟩
 generalize (wa.heap.size,wa.heap.size+1)::iv=iv2 at*
 obtain⟨gm,hgm⟩:∃gm,wa.heap.size=gm:=⟨_,rfl⟩
 rw[hgm]at hM ⊢;have hw:=hw2
 refine⟨Nat×World×Iv,fun z=>⟨[(1,.o (.p 0 0)),(9,.o (.v (.map (some gm)))),(115,.o (.v (.slice aq f.cU.length cq))),(116,.o (.v (.int .i64 f.cU.length))),(117,.o (.v (.int .i64 ((z.1:Nat):Int))))],[(0,.box T.Frame [.v (.slice an f.nodes.length cn),.v (.slice ab f.bars.length cb),.v (.slice aq f.cU.length cq)])],1,z.2.2,z.2.1⟩,fun z=>f.cU.length-z.1,
  fun z=>z.1<=f.cU.length∧cV w.heap.size w z.2.1∧eX (jl f.nodes.length) [] f.cU=eX (jl f.nodes.length) (f.cU.take z.1) (f.cU.drop z.1)∧wZ z.2.1 (Cf w z.2.2) gm ((f.cU.take z.1).map fun b=>mi (iC b)),?_,?_⟩
 ·intro O w' r3;exact⟨(0,w',iv2),⟨aP _,hw.tr r3.cM,rfl,hM.rel r3 (cB w)⟩,Sub.gn [] r3⟩
 rintro⟨i,w1,iv⟩ ⟨hi,hw,hE2,hM⟩;dsimp only at hi hw hE2 hM ⊢;refine dI.mk (fun hib=>?_) (fun hib=>?_)
 ·have hib:i<f.cU.length:=by simpa using hib
  obtain⟨b,hx⟩:∃b,f.cU[i]? =some b:=⟨_,aB hib⟩
  obtain⟨adb,cs,hab,hF,-,hlb⟩:=hf.cU.load (by decide) hx;obtain⟨g0,g1,g2,g3,g4,g5,g6,g7,rfl,hF⟩:=hF;refine⟨adb,hab,by omega,[.int .i64 b.1,.int .i64 b.2.1,.bool g0,.slice g1 g2 g3,.bool g4,.slice g5 g6 g7],rfl,rdO hlb hw hS,?_⟩;refine cC (cE hw (fun _ w' v w2=>∃d,v= .bool d∧(d=true↔iV f.nodes.length b.1)) (fun O w' r=>Es _ w' _ _ _ _ _ _ _ _ _) ?_);rintro O wa1 v1 wb1 iv1 r he hw h_ ⟨d0,rfl,hz0⟩;replace hM:=hM.cF r (cB w) he (mC h_)
  cases d0
  ·have hz0:¬iV f.nodes.length b.1:=fun h=>by have:=hz0.2 h;cases this
   intro ρe we re;exact⟨_,rfl,hw.tr re.cM,by show Value.int .i64 _=_;rw[eK,aK (by omega),aK (by rw[hE];decide),aK (by rw[hE1];decide),hE2,cS hx (show jl f.nodes.length (f.cU.take i) b=6 by rw[jl,aK hz0]) (by decide)]⟩
  replace hz0:=hz0.1 rfl;refine dI.mk (fun hx1=>?_) (fun hx1=>?_)
  ·have hx1:=aI hx1;intro ρe we re;exact⟨_,rfl,hw.tr re.cM,by show Value.int .i64 _=_;rw[eK,aK (by omega),aK (by rw[hE];decide),aK (by rw[hE1];decide),hE2,cS hx (show jl f.nodes.length (f.cU.take i) b=2 by rw[jl,if_pos hz0,aK (fun h=>by omega)]) (by decide)]⟩
  have hx1:=aH hx1;refine dI.mk (fun hx2=>?_) (fun hx2=>?_)
  ·have hx2:=aI hx2;intro ρe we re;exact⟨_,rfl,hw.tr re.cM,by show Value.int .i64 _=_;rw[eK,aK (by omega),aK (by rw[hE];decide),aK (by rw[hE1];decide),hE2,cS hx (show jl f.nodes.length (f.cU.take i) b=2 by rw[jl,if_pos hz0,aK (fun h=>by omega)]) (by decide)]⟩
  have hx2:=aH hx2;have hax:0<=b.2.1∧b.2.1<=2:=by omega
  refine xZ xI tX BB rfl rfl (key:=mi (iC b)) (fun _=>rfl) ⟨_,rfl⟩ (fun k hk=>by obtain⟨x,_,rfl⟩:=aT.1 hk;exact⟨_,rfl⟩) (fun O w' r=>(hM.rel r (cB w)).2) (fun O w' d r hd=>?_);replace hw:=hw.tr r.cM;replace hM:=hM.rel r (cB w);replace hd:d=true↔iC b∈(f.cU.take i).map iC:=by
   rw[hd];constructor
   ·intro h;obtain⟨x,h1,h2⟩:=aT.1 h;exact aT.2 ⟨x,h1,pT h2⟩
   ·intro h;obtain⟨x,h1,h2⟩:=aT.1 h;exact aT.2 ⟨x,h1,congrArg mi h2⟩
  cases d
  ·have hdup:iC b∉(f.cU.take i).map iC:=fun h=>by have:=hd.2 h;cases this
   refine cC (cE hw (fun _ w' v w2=>v= .int .i64 (rs b.2.2)) (fun O w' r=>(Eh (oS hS r) (hF.v.cG (kS hw r hS)) (eI.zero (S:=S)).v).mono fun _ _ ⟨v2,e1,e2,e3⟩=>⟨v2,e1,e2,by rw[e3,pR]⟩) ?_);rintro O wa2 v2 wb2 iv2 r he hw h_ rfl;replace hM:=hM.cF r (cB w) he (mC h_);obtain⟨cf,hcf⟩:∃c,rs b.2.2=c:=⟨_,rfl⟩
   rw[hcf];refine dI.mk (fun hd2=>?_) (fun hd2=>?_)
   ·have hd2:b.2.2<0:=by have:=aI hd2;rw[<-kp];omega
    intro ρe we re;exact⟨_,rfl,hw.tr re.cM,by show Value.int .i64 _=_;rw[eK,aK (by omega),aK (by rw[hE];decide),aK (by rw[hE1];decide),hE2,cS hx (show jl f.nodes.length (f.cU.take i) b=2 by rw[jl,if_pos hz0,if_pos hax,aK hdup,if_pos hd2]) (by decide)]⟩
   ·have hd2:0<=b.2.2:=by have:=aH hd2;rw[<-Rat.not_lt,<-kp];omega
    refine qX xI tX rfl rfl (key:=mi (iC b)) (fun _=>rfl) rfl ⟨_,rfl⟩ (fun k hk=>by obtain⟨x,_,rfl⟩:=aT.1 hk;exact⟨_,rfl⟩) (fun h=>by
     obtain⟨x,h1,h2⟩:=aT.1 h
     exact hdup (aT.2 ⟨x,h1,pT h2⟩)) (fun O w' r=>⟨(hM.rel r (cB w)).2,Rel.not r (cB w) hM.1⟩) (fun O wa wb r hM2 hg hsz=>?_)
    replace hw:=(hw.tr r.cM).tr (cV.grown hg (fun x e=>by injection e with e;subst e;exact hM.1.elim (fun h=>h.elim) fun h=>h.1) r.cD);rw[show ((f.cU.take i).map fun b=>mi (iC b))++[mi (iC b)]=(f.cU.take (i+1)).map fun b=>mi (iC b) by rw[List.take_add_one,hx];simp]at hM2;replace hM:wZ wb (Cf w iv2) gm ((f.cU.take (i+1)).map fun b=>mi (iC b)):=⟨hM.1,hM2⟩
    rw[gA hx (qB.2 ⟨hz0,hax,hdup,hd2⟩)]at hE2;refine⟨((i+1:Nat):Int),wo,?_⟩;intro ρ3 w6 r3;exact⟨(i+1,w6,_),⟨hib,hw.tr r3.cM,hE2,hM.rel r3 (cB w)⟩,Sub.gn [] r3,by dsimp only;omega⟩
  ·have hd:=hd.1 rfl;intro ρe we re;exact⟨_,rfl,hw.tr re.cM,by show Value.int .i64 _=_;rw[eK,aK (by omega),aK (by rw[hE];decide),aK (by rw[hE1];decide),hE2,cS hx (show jl f.nodes.length (f.cU.take i) b=5 by rw[jl,if_pos hz0,if_pos hax,if_pos hd]) (by decide)]⟩
 have hib:i=f.cU.length:=aR hi (by simpa using hib);rw[iK (by omega)]at hE2;intro ρe we re;exact⟨_,rfl,hw.tr re.cM,by show Value.int .i64 _=_;rw[eK,aK (by omega),aK (by rw[hE];decide),aK (by rw[hE1];decide),hE2]⟩
theorem kr(hS:Old S w)(hf:dV w S vn vb vs f)(hl:jM w S vl l):dm PG N.k8 #[.agg #[vn,vb,vs],vl] w (eB w fun v' _=>v'= .int .i64 (kl f l)):=by
 have hw:cV w.heap.size w w:=cV.refl;obtain⟨an,cn,ab,cb,aq,cq,rfl,rfl,rfl,hmn,hmb,hms⟩:=hf.shape;obtain⟨al,cl,rfl,hcl,hml⟩:=hl.shape;refine oH (by simp) ?_;refine cC (cE hw (fun _ w' v w2=>v= .int .i64 (eK f)) (fun O w' r=>zK (oS hS r) (hf.cG (kS hw r hS))) ?_);rintro O wa1 v1 wb1 iv1 r he hw h_ rfl;obtain⟨c,hc⟩:∃c,eK f=c:=⟨_,rfl⟩
 rw[hc];refine dI.mk (fun hd=>?_) (fun hd=>?_)
 ·have hd:c≠0:=by simpa using hd
  intro ρe we re;exact⟨_,rfl,hw.tr re.cM,by show Value.int .i64 _=_;rw[kl,if_pos (by rw[hc];exact hd),hc]⟩
 have hd:c=0:=by simpa using hd
 refine cC (cE hw (fun _ w' v w2=>v= .int .i64 (tW f.nodes.length l)) (fun O w' r=>AA (oS hS r) (hl.cG (kS hw r hS))) ?_);rintro O wa2 v2 wb2 iv2 r he hw h_ rfl;intro ρe we re;exact⟨_,rfl,hw.tr re.cM,by show Value.int .i64 _=_;rw[kl,aK (by rw[hc,hd];decide)]⟩
structure Calm(f:eh)(h:Nat):Prop where
 ok:qp f
 c0:0<f.cols
 b2:tS (cQ f) f.cols h
 a2:Ht (dR (cQ f) f.cols).1 h
 st:j7 (cQ f) f.cols=[]
 hh:3*h<=90000
structure Ig(f:eh)(l:List Ld)(h:Nat)(x:List Rat):Prop where
 ok:De f.nodes.length l
 b1:tS (iz (cQ f) (da (jT f l) (-1))) (f.cols+1) h
 x:iU (cQ f) (da (jT f l) (-1)) f.cols=some x
theorem lh(f:eh)(l:List Ld):(jT f l).length=3*f.nodes.length:=by rw[jT,dK,aL,nc]
theorem iQ(a b:List Rat):(eJ a b).length=a.length:=List.length_mapIdx ..
theorem Eu(M:List (List Rat))(n:Nat):fe M.length (fL M n):=fun r hr=>by
 obtain⟨k,_,rfl⟩:=aT.1 hr;exact aL ..
theorem Ev(hS:Old S w)(hf:dV w S vn vb vs f)(hl:jM w S vl l)(hc:Calm f h)(hB:Ig f l h x)(herr:kl f l=0):
  dm PG N.k7 #[.agg #[vn,vb,vs],vl] w (eB w fun v' w2=>∃vx,v'= .tuple #[vx,.int .i64 0]∧cO w2 (Nf w w2) vx x):=by
 have hw:cV w.heap.size w w:=cV.refl;obtain⟨an,cn,ab,cb,aq,cq,rfl,rfl,rfl,hmn,hmb,hms⟩:=hf.shape;obtain⟨al,cl,rfl,hcl,hml⟩:=hl.shape;obtain⟨hn20,hb60,hs60⟩:=And.intro hc.ok.n (And.intro hc.ok.b hc.ok.s);have hcols:f.cols=f.bars.length+f.cU.length:=rfl;have htl:=lg f;refine lZ (by simp) ?_;refine cC (cE hw (fun _ w' v w2=>v= .int .i64 0) (fun O w' r=>(kr (oS hS r) (hf.cG (kS hw r hS)) (hl.cG (kS hw r hS))).mono fun _ _ ⟨v2,e1,e2,e3⟩=>⟨v2,e1,e2,by rw[e3,herr]⟩) ?_);rintro O wa1 v1 wb1 iv1 r he hw h_ rfl;refine cJ hτ db [.x 0,.x 1,.x 2,.x 3,.x 4,.x 5,.x 6,.x 7,.x 8,.x 9] (by kernel_rfl) (by kernel_rfl) ?_;refine cE hw (fun _ w' v w2=>dS w2 (fun _=>False) w'.heap.size [(w'.heap.size,w2.heap.size)] v (3*f.nodes.length) (jT f l)∧∀q∈jT f l,rl q<=1) (fun O w' r=>uf (oS hS r) (hl.cG (kS hw r hS)) hn20 hB.ok rfl rfl) ?_;rintro O wa2 v2 wb2 iv2 r he hw h_ ⟨hn,hvq⟩;have hP:=hn.c9 (S:=fun _=>False) r.cD (mN h_);obtain⟨ap,cp,rfl,hcp⟩:=hP.row.form
 refine cE hw (fun _ w' v w2=>∃vx,v= .tuple #[vx,.bool true]∧dS w2 (fun _=>False) w'.heap.size [(w'.heap.size,w2.heap.size)] vx f.cols x) (fun O w' r=>(zJ (S:=fun g=>S g∨Cf w iv2 g) (p:=jT f l) (h:=h) (fun g hg=>hg.elim (oS hS r g) (Rel.old r (cB w) g)) ((hf.cG (kS hw r hS)).cI fun g hg=>.inl hg) hc.ok (cO.cI ((hP.rel r (cB w)).c) fun g hg=>.inr hg) (lh f l) (fun q hq=>by have:=hvq q hq;omega) hc.c0 hB.b1 hc.b2 hc.a2 hc.st hc.hh).mono fun _ _ ⟨v2,e1,e2,e3⟩=>⟨v2,e1,e2,by
  rcases e3 with⟨k1,_⟩|⟨x2,vx,k1,k2,k3⟩
  ·rw[hB.x]at k1;cases k1
  ·rw[hB.x]at k1;injection k1 with k1;subst k1;exact⟨vx,k2,k3⟩⟩) ?_
 rintro O wa3 v3 wb3 iv3 r he hw h_ ⟨vx,rfl,hn⟩;have hX:=hn.c9 (S:=fun _=>False) r.cD (mN h_);obtain⟨ax,cx,rfl,hcx⟩:=hX.row.form;intro ρe we re;exact⟨_,rfl,hw.tr re.cM,_,rfl,cO.out hX.c re (cB w)⟩
theorem Gw(hS:Old S w)(hf:dV w S vn vb vs f)(hc:Calm f h)(herr:eK f=0)(hnr0:(dR (cQ f) f.cols).1.length<=f.cols):
  dm PG N.q9 #[.agg #[vn,vb,vs]] w (eB w fun v' _=>v'= .tuple #[.agg #[.int .i64 (dR (cQ f) f.cols).1.length,.int .i64 ((f.cols:Int)-(dR (cQ f) f.cols).1.length),.int .i64 ((3*f.nodes.length:Nat)-(dR (cQ f) f.cols).1.length)],.int .i64 0]):=by
 have hw:cV w.heap.size w w:=cV.refl;obtain⟨an,cn,ab,cb,aq,cq,rfl,rfl,rfl,hmn,hmb,hms⟩:=hf.shape;obtain⟨hn20,hb60,hs60⟩:=And.intro hc.ok.n (And.intro hc.ok.b hc.ok.s);have hcols:f.cols=f.bars.length+f.cU.length:=rfl;have htl:=lg f;refine uO (by simp) ?_;refine cC (cE hw (fun _ w' v w2=>v= .int .i64 0) (fun O w' r=>(zK (oS hS r) (hf.cG (kS hw r hS))).mono fun _ _ ⟨v2,e1,e2,e3⟩=>⟨v2,e1,e2,by rw[e3,herr]⟩) ?_);rintro O wa1 v1 wb1 iv1 r he hw h_ rfl;refine cC (cE hw (fun _ w' v w2=>(∃vr,v= .agg #[vr,.int .i64 f.cols]∧cR w2 (Nf w' w2) vr (cQ f))∧fe f.cols (cQ f)∧Ht (cQ f) 2) (fun O w' r=>n9 (S:=S) (oS hS r) (hf.cG (kS hw r hS)) hc.ok) ?_);rintro O wa1 v1 wb1 ivt r he hw h_ ⟨⟨vr,rfl,k1⟩,hlen,hht⟩;have hM:=cR.c9 (S:=fun _=>False) k1 r.cD (mN h_);obtain⟨am,cm,rfl,hcm,hmm⟩:=de.shape hM;have hmt:=htl;have hhc:=hc.c0;refine cC (cE hw (fun _ w' v w2=>∃vr vp vf,v= .agg #[vr,.int .i64 f.cols,vp,vf]∧cR w2 (Nw (Cf w ivt) w' w2) vr (dR (cQ f) f.cols).1) (fun O w' r=>(qE (C:=Cf w ivt) (S:=Cf w ivt) (h:=h) (Rel.old r (cB w)) (Rel.old r (cB w)) (cR.rel hM r (cB w)) hlen hc.c0 (by omega) (by omega) (aG _) hc.b2 hc.hh).mono fun _ _ ⟨v2,e1,e2,vr,vp,vf,k1,k2,_,_⟩=>⟨v2,e1,e2,vr,vp,vf,k1,k2⟩) ?_);rintro O wa2 v2 wb2 iv2 r he hw h_ ⟨vr2,vp2,vf2,rfl,hn⟩;replace hM:=cR.cF hM r (cB w) he (mC h_);obtain⟨ar,cr,rfl,-,-⟩:=de.shape hn;obtain⟨nr,hnr⟩:∃nr,(dR (cQ f) f.cols).1.length=nr:=⟨_,rfl⟩
 rw[hnr];refine⟨(f.cols:Int)-nr,wo,((cQ f).length:Int)-nr,wo,?_⟩;intro ρe we re;exact⟨_,rfl,hw.tr re.cM,by rw[htl];rfl⟩
set_option maxHeartbeats 1000000 in
theorem CH{u:List Rat}(hS:Old S w)(hf:dV w S vn vb vs f)(hl:jM w S vl l)(hc:Calm f h)(hB:Ig f l h x)(herr:kl f l=0)
  (hrank:(dR (cQ f) f.cols).1.length=3*f.nodes.length) (hxl:x.length=f.cols) (hxq:∀q∈x,rl q<=100000) (heq:∀q∈eJ x (cW f),rl q<=100000)
  (hB3:tS (iz (fL (cQ f) f.cols) (da (eJ x (cW f)) (-1))) (3*f.nodes.length+1) h) (hu:iU (fL (cQ f) f.cols) (da (eJ x (cW f)) (-1)) (3*f.nodes.length)=some u):
  dm PG N.mX #[.agg #[vn,vb,vs],vl] w (eB w fun v' w2=>∃vu vx,v'= .tuple #[vu,vx,.int .i64 0]∧cO w2 (Nf w w2) vu u∧cO w2 (Nf w w2) vx x):=by
 have hw:cV w.heap.size w w:=cV.refl;obtain⟨an,cn,ab,cb,aq,cq,rfl,rfl,rfl,hmn,hmb,hms⟩:=hf.shape;obtain⟨al,cl,rfl,hcl,hml⟩:=hl.shape;obtain⟨hn20,hb60,hs60⟩:=And.intro hc.ok.n (And.intro hc.ok.b hc.ok.s);have hcols:f.cols=f.bars.length+f.cU.length:=rfl;have htl:=lg f;refine qP (by simp) ?_;refine cC (cE hw (fun _ w' v w2=>v= .int .i64 0) (fun O w' r=>(kr (oS hS r) (hf.cG (kS hw r hS)) (hl.cG (kS hw r hS))).mono fun _ _ ⟨v2,e1,e2,e3⟩=>⟨v2,e1,e2,by rw[e3,herr]⟩) ?_);rintro O wa1 v1 wb1 iv1 r he hw h_ rfl;refine cC (cE hw (fun _ w' v w2=>(∃vr,v= .agg #[vr,.int .i64 f.cols]∧cR w2 (Nf w' w2) vr (cQ f))∧fe f.cols (cQ f)∧Ht (cQ f) 2) (fun O w' r=>n9 (S:=S) (oS hS r) (hf.cG (kS hw r hS)) hc.ok) ?_);rintro O wa1 v1 wb1 ivt r he hw h_ ⟨⟨vr,rfl,k1⟩,hlen,hht⟩;have hM:=cR.c9 (S:=fun _=>False) k1 r.cD (mN h_);obtain⟨am,cm,rfl,hcm,hmm⟩:=de.shape hM;have hmt:=htl;have hhc:=hc.c0;refine cJ hτ db [.x 0,.x 1,.x 2,.x 7,.x 8,.x 9,.x 3,.x 4,.x 5,.x 6,.x 10] (by kernel_rfl) (by kernel_rfl) ?_;refine cE hw (fun _ w' v w2=>∃vr vp vf,v= .agg #[vr,.int .i64 f.cols,vp,vf]∧cR w2 (Nw (Cf w ivt) w' w2) vr (dR (cQ f) f.cols).1) (fun O w' r=>(qE (C:=Cf w ivt) (S:=Cf w ivt) (h:=h) (Rel.old r (cB w)) (Rel.old r (cB w)) (cR.rel hM r (cB w)) hlen hc.c0 (by omega) (by omega) (aG _) hc.b2 hc.hh).mono fun _ _ ⟨v2,e1,e2,vr,vp,vf,k1,k2,_,_⟩=>⟨v2,e1,e2,vr,vp,vf,k1,k2⟩) ?_;rintro O wa2 v2 wb2 iv2 r he hw h_ ⟨vr2,vp2,vf2,rfl,hn⟩;replace hM:=cR.cF hM r (cB w) he (mC h_);obtain⟨ar,cr,rfl,-,-⟩:=de.shape hn;obtain⟨nr,hnr⟩:∃nr,(dR (cQ f) f.cols).1.length=nr:=⟨_,rfl⟩
 rw[hnr];have hnr2:(nr:Int)=(cQ f).length:=by rw[<-hnr,hrank,htl]
 refine dI.mk (fun h1=>absurd (aI h1) (by omega)) (fun _=>?_);refine cJ hτ db [.x 0,.x 1,.x 2,.x 3,.x 4,.x 5,.x 6,.x 7,.x 8,.x 9] (by kernel_rfl) (by kernel_rfl) ?_;refine cE hw (fun _ w' v w2=>dS w2 (fun _=>False) w'.heap.size [(w'.heap.size,w2.heap.size)] v (3*f.nodes.length) (jT f l)∧∀q∈jT f l,rl q<=1) (fun O w' r=>uf (oS hS r) (hl.cG (kS hw r hS)) hn20 hB.ok rfl rfl) ?_;rintro O wa3 v3 wb3 iv3 r he hw h_ ⟨hn,hvq⟩;replace hM:=cR.cF hM r (cB w) he (mC h_);have hP:=hn.c9 (S:=fun _=>False) r.cD (mN h_);obtain⟨ap,cp,rfl,hcp⟩:=hP.row.form
 refine cE hw (fun _ w' v w2=>∃vx,v= .tuple #[vx,.bool true]∧dS w2 (fun _=>False) w'.heap.size [(w'.heap.size,w2.heap.size)] vx f.cols x) (fun O w' r=>(zJ (S:=fun g=>S g∨Cf w iv3 g) (p:=jT f l) (h:=h) (fun g hg=>hg.elim (oS hS r g) (Rel.old r (cB w) g)) ((hf.cG (kS hw r hS)).cI fun g hg=>.inl hg) hc.ok (cO.cI ((hP.rel r (cB w)).c) fun g hg=>.inr hg) (lh f l) (fun q hq=>by have:=hvq q hq;omega) hc.c0 hB.b1 hc.b2 hc.a2 hc.st hc.hh).mono fun _ _ ⟨v2,e1,e2,e3⟩=>⟨v2,e1,e2,by
  rcases e3 with⟨k1,_⟩|⟨x2,vx,k1,k2,k3⟩
  ·rw[hB.x]at k1;cases k1
  ·rw[hB.x]at k1;injection k1 with k1;subst k1;exact⟨vx,k2,k3⟩⟩) ?_
 rintro O wa4 v4 wb4 iv4 r he hw h_ ⟨vx,rfl,hn⟩;replace hM:=cR.cF hM r (cB w) he (mC h_);have hX:=hn.c9 (S:=fun _=>False) r.cD (mN h_);obtain⟨ax,cx,rfl,hcx⟩:=hX.row.form;refine cJ hτ db [.x 0,.x 2,.x 3,.x 1,.x 4,.x 5,.x 6,.x 7,.x 8,.x 9,.x 10,.x 11,.x 12,.x 13] (by kernel_rfl) (by kernel_rfl) ?_;refine cL (Φ:=fun _ w' v w2=>∃vr,v= .agg #[vr,.int .i64 (cQ f).length]∧cR w2 (Nw (Cf w iv4) w' w2) vr (fL (cQ f) f.cols)) (fun O w' r=>zy (C:=Cf w iv4) (S:=Cf w iv4) (Rel.old r (cB w)) (Rel.old r (cB w)) (cR.rel hM r (cB w)) hlen (by omega) (by omega)) ?_;rintro O wa5 v5 wb5 r he hb ⟨vt,rfl,hn⟩;replace hw:=hw.tr hb;replace hX:=hX.cF (iv':=(wa5.heap.size,wb5.heap.size)::iv4) r (cB w) he fun x hx=>aC _ hx;have hT:=cR.old hn r.cD;generalize (wa5.heap.size,wb5.heap.size)::iv4=iv5 at*
 obtain⟨at_,ct,rfl,-,-⟩:=de.shape hT;refine cL (Φ:=fun _ w' v w2=>cX w2 (Nw (Cv S w.heap.size iv5) w' w2) v (cW f)) (fun O w' r=>qF (S:=Cv S w.heap.size iv5) (Rel.old r hS) (dV.cI (hf.cG (kS hw r hS)) fun g hg=>.inl hg) hc.ok) ?_;rintro O wa6 v6 wb6 r he hb hn;replace hw:=hw.tr hb;replace hX:=hX.cF (iv':=(wa6.heap.size,wb6.heap.size)::iv5) r (cB w) he fun x hx=>aC _ hx;replace hT:=cR.cF (iv':=(wa6.heap.size,wb6.heap.size)::iv5) hT r (cB w) he fun x hx=>aC _ hx;have hF:=cX.old hn r.cD;generalize (wa6.heap.size,wb6.heap.size)::iv5=iv6 at*
 obtain⟨afl,cfl,rfl,-,-⟩:=dL.shape hF;refine cE hw (fun _ w' v w2=>dS w2 (fun _=>False) w'.heap.size [(w'.heap.size,w2.heap.size)] v x.length (eJ x (cW f))) (fun O w' r=>CB (S:=Cv S w.heap.size iv6) (Rel.old r hS) (cX.cI (cO.l ((hX.rel r (cB w)).c) fun q hq=>hxq q hq) fun g hg=>Av hg) (cX.rel hF r hS) (by rw[hxl,kL];exact aG _) (by omega)) ?_;rintro O wa7 v7 wb7 iv7 r he hw h_ hn;replace hX:=hX.cF r (cB w) he (mC h_);replace hT:=cR.cF hT r (cB w) he (mC h_);have hE:=hn.c9 (S:=fun _=>False) r.cD (mN h_);obtain⟨ae,ce,rfl,hce⟩:=hE.row.form;refine cE hw (fun _ w' v w2=>cP w2 (Nf w' w2) v ((-1:Int):Rat)) (fun O w' r=>jK (-1) w' (by decide) (by decide)) ?_;rintro O wa8 v8 wb8 iv8 r he hw h_ hn;replace hX:=hX.cF r (cB w) he (mC h_);replace hT:=cR.cF hT r (cB w) he (mC h_);replace hE:=hE.cF r (cB w) he (mC h_);have hd:=hn.c9 (S:=fun _=>False) r.cD (mN h_);obtain⟨s8_0,s8_1,s8_2,s8_3,s8_4,s8_5,s8_6,s8_7,rfl⟩:=hd.shape;refine cE hw (fun _ w' v w2=>dS w2 (fun _=>False) w'.heap.size [(w'.heap.size,w2.heap.size)] v (eJ x (cW f)).length (da (eJ x (cW f)) (-1))) (fun O w' r=>ub (S:=Cf w iv8) (Rel.old r (cB w)) (cO.l ((hE.rel r (cB w)).c) heq) ((hd.rel r (cB w)).l (by decide)) (by rw[iQ];omega)) ?_;rintro O wa9 v9 wb9 iv9 r he hw h_ hn;replace hX:=hX.cF r (cB w) he (mC h_);replace hT:=cR.cF hT r (cB w) he (mC h_);have hG:=hn.c9 (S:=fun _=>False) r.cD (mN h_);obtain⟨ag,cg,rfl,hcg⟩:=hG.row.form
 refine cL (Φ:=fun _ w' v w2=>∃vu,v= .tuple #[vu,.bool true]∧dS w2 (Cf w iv9) w'.heap.size [(w'.heap.size,w2.heap.size)] vu (cQ f).length u) (fun O w' r=>(tU (C:=Cf w iv9) (S:=Cf w iv9) (h:=h) (Rel.old r (cB w)) (Rel.old r (cB w)) (cR.rel hT r (cB w)) ((hG.rel r (cB w)).c) (by rw[da,aL,iQ,jb];exact hxl) (Eu _ _) (by omega) (by rw[jb];omega) (by rw[htl];exact hB3) hc.hh).mono fun _ _ ⟨v2,e1,e2,e3⟩=>⟨v2,e1,e2,by
  rcases e3 with⟨k1,_⟩|⟨x2,vx,k1,k2,k3⟩
  ·rw[htl,hu]at k1;cases k1
  ·rw[htl,hu]at k1;injection k1 with k1;subst k1;exact⟨vx,k2,k3⟩⟩) ?_
 rintro O wa10 v10 wb10 r he hb ⟨vu,rfl,hn⟩;replace hw:=hw.tr hb;replace hX:=hX.cF (iv':=(wa10.heap.size,wb10.heap.size)::iv9) r (cB w) he fun x hx=>aC _ hx;have hU:=hn.LL r.cD;generalize (wa10.heap.size,wb10.heap.size)::iv9=iv10 at*
 obtain⟨au,cu,rfl,hcu⟩:=hU.row.form;intro ρe we re;exact⟨_,rfl,hw.tr re.cM,_,_,rfl,cO.out hU.c re (cB w),cO.out hX.c re (cB w)⟩
end Go.Ex
