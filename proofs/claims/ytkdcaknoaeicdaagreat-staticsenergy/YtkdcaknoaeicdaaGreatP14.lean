/- A part of the proof: texts L46 to L50. Each tells its conditions in its theorems. -/
import Derived.Test.YtkdcaknoaeicdaaGreatP9
import Derived.Test.YtkdcaknoaeicdaaGreatP11
import Derived.Test.YtkdcaknoaeicdaaGreatP12
import Derived.Test.YtkdcaknoaeicdaaGreatP13
namespace Go.Ex
variable{d:Int}{M:List (List Int)}{f:eh}
def ez(M:List (List Int))(r c:Nat):Int:=(M.getD r []).getD c 0
theorem getD_set_ne{α:Type}{l:List α}{i j:Nat}{x d:α}(h:i≠j):(l.set i x).getD j d=l.getD j d:=by rw[List.getD,bA h,<-List.getD]
theorem lL{α:Type}{l:List α}{i:Nat}{x d:α}(h:i<l.length):(l.set i x).getD i d=x:=by rw[List.getD,aW h];rfl
theorem ia{r c r' c':Nat}(h:r'≠r∨c'≠c):ez (putAt M r c d) r' c'=ez M r' c':=by
 unfold ez putAt;by_cases h1:r'=r
 ·subst h1;have h2:c≠c':=h.elim (fun h=>absurd rfl h) fun h=>h.symm;rcases aQ r' M.length with h3|h3
  ·rw[lL h3,getD_set_ne h2]
  ·rw[List.set_eq_of_length_le h3]
 ·rw[getD_set_ne (Ne.symm h1)]
theorem DL{r c:Nat}(hr:r<M.length)(hc:c<(M.getD r []).length):ez (putAt M r c d) r c=d:=by
 unfold ez putAt;rw[lL hr,lL hc]
theorem gL(M:List (List Int))(r c:Nat)(d:Int):sU M r c d=putAt M r c (ez M r c+d):=rfl
theorem B1{i:Nat}{b:Int×Int×Rat}(hb:f.bars[i]? =some b):f.bars.getD i (0,0,0)=b:=by rw[List.getD,hb];rfl
theorem uD{f:eh}{M:List (List Int)}{i c r:Nat}(h:c≠i):∀k,ez (eL f M i k) r c=ez M r c
 |0=>rfl
 |k+1=>by
  rw[eL];rw[gL,ia (.inr h),gL,ia (.inr h)];exact uD h k
theorem lM(f:eh){r c:Nat}:∀i,i<=c->ez (dZ f i) r c=0
 |0,_=>by
  unfold ez dZ;rcases aQ r (3*f.nodes.length)with h|h
  ·rw[show (List.replicate (3*f.nodes.length) (List.replicate f.cols (0:Int))).getD r []=List.replicate f.cols 0 by rw[List.getD,List.getElem?_replicate,if_pos h];rfl,List.getD,List.getElem?_replicate];split<;>rfl
  ·rw[show (List.replicate (3*f.nodes.length) (List.replicate f.cols (0:Int))).getD r []=[] by rw[List.getD,List.getElem?_replicate,aK (by omega)];rfl];rfl
 |i+1,h=>by rw[dZ,uD (by omega)];exact lM f i (by omega)
theorem toNat_add{a:Int}{k ka:Nat}(h:a=ka):(3*a+(k:Int)).toNat=3*ka+k:=by omega
theorem Ac{f:eh}{M:List (List Int)}{i r ka kb:Nat}{b:Int×Int×Rat}(hb:f.bars[i]? =some b)(ea:b.1=ka)(eb:b.2.1=kb):∀k,k<=3->k<=r % 3->ez (eL f M i k) r i=ez M r i
 |0,_,_=>rfl
 |k+1,h3,h=>by
  rw[eL];rw[B1 hb,toNat_add ea,toNat_add eb,gL,ia (.inl (by omega)),gL,ia (.inl (by omega))];exact Ac hb ea eb k (by omega) (by omega)
theorem nJ{i r ka kb k:Nat}{b:Int×Int×Rat}(hb:f.bars[i]? =some b)(ea:b.1=ka)(eb:b.2.1=kb)(hk:k<=3)(h:k<=r % 3):ez (eL f (dZ f i) i k) r i=0:=by
 rw[Ac hb ea eb k hk h];exact lM f i (aG _)
theorem yO{f:eh}{r c:Nat}(h:c<f.bars.length):∀k,ez (ee f k) r c=ez (dZ f f.bars.length) r c
 |0=>rfl
 |k+1=>by
  rw[ee];rw[ia (.inr (by omega))];exact yO h k
theorem vG{f:eh}{r i:Nat}:∀k,k<=i->ez (ee f k) r (f.bars.length+i)=0
 |0,_=>lM f _ (by omega)
 |k+1,h=>by
  rw[ee];rw[ia (.inr (by omega))];exact vG k (by omega)
def gF(s:Int×Int×Rat):Nat:=(3*s.1+s.2.1).toNat
theorem Ad{f:eh}(hw:∀k,∀l∈ee f k,l.length=f.cols)(hlen:∀k,(ee f k).length=3*f.nodes.length)(hrow:∀s∈f.cU,gF s<3*f.nodes.length){r i:Nat}{s:Int×Int×Rat}(hs:f.cU[i]? =some s):
  ∀k,i<k->ez (ee f k) r (f.bars.length+i)=if r=gF s then 1 else 0
 |0,h=>by omega
 |k+1,h=>by
  rw[ee];rcases aQ i k with h1|h1
  ·rw[ia (.inr (by omega))];exact Ad hw hlen hrow hs k h1
  ·have:i=k:=by omega
   subst this;have hg:f.cU.getD i (0,0,0)=s:=by rw[List.getD,hs];rfl
   have hsr:=hrow s (aD hs);have hi:=(aE.1 hs).1;rw[hg];by_cases h2:r=gF s
   ·rw[if_pos h2,h2];have hm:gF s<(ee f i).length:=by rw[hlen];exact hsr
    exact DL hm (by
     show f.bars.length+i<((ee f i).getD (gF s) []).length;rw[List.getD,aB hm];show f.bars.length+i<((ee f i)[gF s]).length;rw[hw i _ (aX hm),eh.cols]
     omega)
   ·rw[aK h2];exact(ia (r:=gF s) (.inl h2)).trans (vG i (aG _))
end Go.Ex
namespace Go.Ex
open Go Go.Sx Go.Proofs
end Go.Ex
namespace Go.Sx
open Go Go.Ex Go.Proofs
variable{cs:List Value}{O:Nat->Sx.df}
theorem Rel.LZ{H:Hp}{nx:Nat}{iv:Iv}{B:Nat}{w w':World}(r:Rel H nx iv B w O w'){id t m sz:Nat}(h:dA H id=some (.vec t sz cs))(hm:cs.length=m*sz)(hm1:m<=maxLen)(hs:0<sz)(h1:∀u∈cs,u.oneCell'=true):
  ig w' (Cv (fun _=>False) B (kR (O id) iv)) sz ((At.w id m).den O) cs m:=by
 rcases r.fits h with⟨hn,rfl⟩|⟨hn,spare,h2,h3,h4⟩
 ·have hm0:m=0:=by
   rcases bJ m with h|h
   ·exact h
   ·have:=Nat.mul_pos h hs;simp at hm;omega
  subst hm0;have hden:(At.w id 0).den O= .slice none 0 0:=by simp[At.den,hn]
  rw[hden];exact⟨aP _,by simp,by simp,none,0,rfl,aG _,fun j u h=>by cases h⟩
 ·have hden:(At.w id m).den O= .slice (some ⟨(O id).g,0,none⟩) m (O id).cap:=by simp[At.den,hn]
  rw[hden];have hlow:=r.low id _ h hn;refine⟨hm1,hm,h1,_,_,rfl,?_,fun j u hu=>⟨_,rfl,.inr ⟨hlow.1,_,_,Cl hn,aG _,bf _⟩,?_⟩⟩
  ·rw[List.length_append,hm]at h3;exact bo (show m*sz<=(O id).cap*sz by omega) hs
  ·rw[dP,cell_of h2,aV,aM (aE.1 hu).1];exact hu
end Go.Sx
namespace Go.Ex
open Go Go.Sx Go.Proofs
variable{S:Nat->Prop}{f:eh}
theorem KB{i k ka kb:Nat}{b:Int×Int×Rat}{d:Int}{la lb:List Int}(hb:f.bars[i]? =some b)(ea:b.1=ka)(eb:b.2.1=kb)(hab:ka≠kb)(hk:k<3)(hd:(rN f b).getD k 0=d)
  (hla:(eL f (dZ f i) i k)[3*ka+k]? =some la) (hlb:((eL f (dZ f i) i k).set (3*ka+k) (la.set i d))[3*kb+k]? =some lb):
  ((eL f (dZ f i) i k).set (3*ka+k) (la.set i d)).set (3*kb+k) (lb.set i (-d))=eL f (dZ f i) i (k+1):=by
 have z1:=nJ (r:=3*ka+k) hb ea eb (show k<=3 by omega) (by omega);have z2:=nJ (r:=3*kb+k) hb ea eb (show k<=3 by omega) (by omega);have hga:(eL f (dZ f i) i k).getD (3*ka+k) []=la:=by rw[List.getD,hla];rfl
 have hgb:((eL f (dZ f i) i k).set (3*ka+k) (la.set i d)).getD (3*kb+k) []=lb:=by rw[List.getD,hlb];rfl
 have e1:sU (eL f (dZ f i) i k) (3*ka+k) i d=(eL f (dZ f i) i k).set (3*ka+k) (la.set i d):=by
  rw[gL,z1,Int.zero_add,putAt,hga]
 rw[eL];rw[B1 hb,hd,toNat_add ea,toNat_add eb,e1,sU,hgb];have z3:lb.getD i 0=0:=by
  rw[<-hgb,getD_set_ne (show 3*ka+k≠3*kb+k by omega)];exact z2
 rw[z3,Int.zero_add]
set_option maxHeartbeats 2000000 in
theorem HG{w:World}{vn vb vs:Value}(hS:Old S w)(hf:dV w S vn vb vs f)(herr:eK f=0):
  dm PG N.s8 #[.agg #[vn,vb,vs]] w (eB w fun v' w2=>wX w2 (Nf w w2) v' (gw f)∧Ep (gw f) 2000000):=by
 have hw:cV w.heap.size w w:=cV.refl;have hok:=qA herr;obtain⟨an,cn,ab,cb,aq,cq,rfl,rfl,rfl,hmn,hmb,hms⟩:=hf.shape;obtain⟨hn20,hb60,hs60⟩:=And.intro hok.n (And.intro hok.b hok.s);have hcols:f.cols=f.bars.length+f.cU.length:=rfl;obtain⟨m,hm⟩:∃m,3*f.nodes.length=m:=⟨_,rfl⟩
 refine wE (by simp) ?_
 refine⟨Nat×List Value×World×Iv,fun z=>⟨[(1,.o (.p 0 0)),(3,.o (.w 1 z.2.1.length)),(4,.o (.v (.int .i64 ((z.1:Nat):Int))))],[(1,.vec T.Lint 1 z.2.1),(0,.box T.Frame [.v (.slice an f.nodes.length cn),.v (.slice ab f.bars.length cb),.v (.slice aq f.cU.length cq)])],2,z.2.2.2,z.2.2.1⟩,fun z=>m-z.1,
  fun z=>z.1<=m∧z.2.1.length=z.1∧cV w.heap.size w z.2.2.1∧gP z.2.2.1 w.heap.size z.2.2.2 z.2.1 f.cols (List.replicate z.1 (List.replicate f.cols 0)),?_,?_⟩
 ·intro O w' r3;exact⟨(0,[],w',[]),⟨aP _,rfl,hw.tr r3.cM,gP.nil⟩,Sub.nil 3 T.Lint 1 rfl (by simp[jn,SV.sc,At.sc,fW]) r3 fun ρ1 r1=>Sub.gn [] r1⟩
 clear hw;rintro⟨i,rv,w1,iv⟩ ⟨hi,hrl,hw,hE⟩;dsimp only at hi hrl hw hE ⊢;refine⟨(m:Int),wo,?_⟩;refine dI.mk (fun hib=>?_) (fun hib=>?_)
 ·have hib:i<m:=by simpa using hib
  refine cC (cE hw (fun _ w' v w2=>v= .int .i64 f.cols) (fun O w' r=>pX (hf.cG (kS hw r hS)) ⟨hb60,hs60⟩) ?_);rintro O wa1 v1 wb1 iv1 r he hw h_ rfl;have hE1:=gP.cF hE r he (mC h_);clear r;clear hE;refine⟨f.cols,f.cols,rfl,rfl,aG _,by omega,by omega,?_⟩;refine rC hτ (id3:=3) (id2:=2) (tH:=[(1,.vec T.Lint 1 rv),(0,.box T.Frame [.v (.slice an f.nodes.length cn),.v (.slice ab f.bars.length cb),.v (.slice aq f.cU.length cq)])]) rfl rfl rfl rfl (by simp) ⟨rfl,rfl,trivial⟩ rfl rfl (fun O w' r r2 hbx=>?_);have hn:=(r.fits (id:=2) rfl).1;have hrow:w'.ownsRow 0 T.int 1 (.slice (some ⟨(O 2).g,0,none⟩) f.cols f.cols) f.cols ((List.replicate f.cols (0:Int)).map fun z=>.int .i64 z):=
   ⟨by simp,.inr ⟨(O 2).g,f.cols,(List.replicate f.cols (Value.int .i64 0)).toArray,rfl,aP _,r.arr 2 _ _ rfl,aG _,by unfold maxLen;omega,by simp,by simp⟩⟩
  have hE2:=(hE1.rel r).push (gx:=(O 2).g) (l:=List.replicate f.cols 0) (fun g hg e=>Rel.not r (fz _) hg 2 _ rfl hn e.symm) (r.low 2 _ rfl hn).1 (by simp) hrow;rw[<-List.replicate_succ']at hE2;have hgv:kR (O 2) iv1=((O 2).g,(O 2).g+1)::iv1:=by unfold kR;rw[hn]
  have hlo3:=r.low 3 _ rfl (r.fits (id:=3) rfl).1;have hbx:w'.heap[(O 3).g]? =some (.cells #[.slice (some ⟨(O 2).g,0,none⟩) f.cols f.cols] T.Lint (0,0)):=hbx;have hE3:=hE2.mono (iv':=((O 3).g,(O 3).g+1)::((O 2).g,(O 2).g+1)::iv1) fun p hp=>aC _ hp;have hw2:=hw.tr r.cM;have hC3:Cf w (((O 3).g,(O 3).g+1)::((O 2).g,(O 2).g+1)::iv1) (O 3).g:=.inr ⟨hlo3.1,_,_,aJ,aG _,bf _⟩;rw[hgv];clear hE1 hw r hrow hn hE2 hgv r2 hlo3;generalize (O 2).g=gx at*
  generalize (O 3).g=gy at*
  generalize (gy,gy+1)::(gx,gx+1)::iv1=iv2 at*
  refine⟨[.slice (some ⟨gx,0,none⟩) f.cols f.cols],rfl,by simp[Value.oneCell'],fun ρ2 w2 r2 _=>⟨_,rfl,fun j u hu=>?_⟩,?_⟩
  ·have h5:=Rel.same r2 (fz _) hC3;rw[dP,cell_of (h5.trans hbx)];rcases j with _|j
   ·exact hu
   ·cases hu
  refine⟨by omega,by omega,by unfold maxLen;omega,((i+1:Nat):Int),wo,?_⟩;intro ρ3 w6 r3;exact⟨(i+1,rv++[.slice (some ⟨gx,0,none⟩) f.cols f.cols],w6,_),⟨hib,by simp[hrl],hw2.tr r3.cM,hE3.rel r3⟩,Sub.gn [(1,4)] r3 (hE:=⟨rfl,by dsimp only;rw[List.length_append,List.length_singleton];rfl,rfl,trivial⟩),by dsimp only;omega⟩
 have hib:i=m:=aR hi (by simpa using hib);subst hib;have hE0:gP w1 w.heap.size iv rv f.cols (dZ f 0):=by rw[dZ,hm];exact hE
 have hbd0:Ep (dZ f 0) 2000000:=fun l hl z hz=>by
  rw[dZ]at hl;rw[bV hl]at hz;rw[bV hz];exact⟨by decide,by decide⟩
 clear hE;rw[hrl]
 refine⟨Nat×World×Iv,fun z=>⟨[(1,.o (.p 0 0)),(3,.o (.w 1 i)),(5,.o (.v (.int .i64 ((z.1:Nat):Int))))],[(1,.vec T.Lint 1 rv),(0,.box T.Frame [.v (.slice an f.nodes.length cn),.v (.slice ab f.bars.length cb),.v (.slice aq f.cU.length cq)])],2,z.2.2,z.2.1⟩,fun z=>f.bars.length-z.1,
  fun z=>z.1<=f.bars.length∧cV w.heap.size w z.2.1∧gP z.2.1 w.heap.size z.2.2 rv f.cols (dZ f z.1)∧Ep (dZ f z.1) 2000000,?_,?_⟩
 ·intro O w' r3;exact⟨(0,w',_),⟨aP _,hw.tr r3.cM,hE0.rel r3,hbd0⟩,Sub.gn [] r3⟩
 clear hw hE0 hbd0 hi;rintro⟨j,w2,iv⟩ ⟨hj,hw,hE,hbd⟩;dsimp only at hj hw hE hbd ⊢;refine dI.mk (fun hjb=>?_) (fun hjb=>?_)
 ·have hjb:j<f.bars.length:=by simpa using hjb
  obtain⟨b,hb⟩:∃b,f.bars[j]? =some b:=⟨_,aB hjb⟩
  obtain⟨hA,hB⟩:=hok.Jg b (aD hb);have hne:=(Io herr (aD hb)).1;obtain⟨ka,pa,ea,hka,-,hna,⟨_,_⟩,⟨_,_⟩,⟨_,_⟩⟩:=hok.node hA.1 hA.2;obtain⟨kb,pb,eb,hkb,-,hnb,⟨_,_⟩,⟨_,_⟩,⟨_,_⟩⟩:=hok.node hB.1 hB.2;have hab:ka≠kb:=fun e=>hne (by rw[ea,eb,e]);obtain⟨adb,cs,hadb,hF,-,hlb0⟩:=hf.bars.load (by decide) hb;obtain⟨g0,g1,g2,g3,g4,g5,g6,g7,rfl,hF⟩:=hF;have hbD:rN f b=[pb.1-pa.1,pb.2.1-pa.2.1,pb.2.2-pa.2.2]:=by rw[rN,hna,hnb]
  refine cC (cE hw (fun _ w' v w2=>v= .agg #[.int .i64 (pb.1-pa.1),.int .i64 (pb.2.1-pa.2.1),.int .i64 (pb.2.2-pa.2.2)]) (fun O w' r=>(AB (S:=S) (oS hS r) (hf.cG (kS hw r hS)) hok hb).mono fun _ _ ⟨v2,e1,e2,e3⟩=>⟨v2,e1,e2,by rw[e3,hna,hnb]⟩) ?_);rintro O wa2 v2 wb2 iv2 r he hw h_ rfl;have hE1:=gP.cF hE r he (mC h_);clear r;clear hE hF;rw[ea,eb]at hlb0;obtain⟨ds,hds⟩:∃ds:List Value,ds=[.int .i64 (pb.1-pa.1),.int .i64 (pb.2.1-pa.2.1),.int .i64 (pb.2.2-pa.2.2)]:=⟨_,rfl⟩
  refine⟨Nat×World×Iv,fun z=>⟨[(1,.o (.p 0 0)),(3,.o (.w 1 i)),(5,.o (.v (.int .i64 ((j:Nat):Int)))),(6,.o (.p 2 0)),(7,.o (.v (.int .i64 ((z.1:Nat):Int))))],[(2,.arr 189 ds),(1,.vec T.Lint 1 rv),(0,.box T.Frame [.v (.slice an f.nodes.length cn),.v (.slice ab f.bars.length cb),.v (.slice aq f.cU.length cq)])],3,z.2.2,z.2.1⟩,fun z=>3-z.1,
   fun z=>z.1<=3∧cV w.heap.size w z.2.1∧gP z.2.1 w.heap.size z.2.2 rv f.cols (eL f (dZ f j) j z.1)∧Ep (eL f (dZ f j) j z.1) 2000000,?_,?_⟩
  ·intro O w' r3;exact⟨(0,w',_),⟨aP _,hw.tr r3.cM,hE1.rel r3,hbd⟩,Sub.Mi 2 (vs:=ds) (by rw[hds];rfl) r3 fun r4=>Sub.gn [] r4⟩
  clear hw hE1 hbd;rintro⟨k,w3,iv⟩ ⟨hk,hw,hE,hbd⟩;dsimp only at hk hw hE hbd ⊢;refine dI.mk (fun hkb2=>?_) (fun hkb2=>?_)
  ·have hk3:k<3:=by have:=aI hkb2;omega
   obtain⟨d,hd⟩:∃d,(rN f b).getD k 0=d:=⟨_,rfl⟩
   have hdb: -2000000<=d∧d<=2000000:=by
    rw[<-hd,hbD];rcases(show k=0∨k=1∨k=2 by omega)with rfl|rfl|rfl<;>simp[List.getD]<;>omega
   have hdk:ds[k]? =some (.int .i64 d):=by
    rw[hds,<-hd,hbD];rcases(show k=0∨k=1∨k=2 by omega)with rfl|rfl|rfl<;>rfl
   have hMl:(eL f (dZ f j) j k).length=3*f.nodes.length:=by rw[<-hE.len];have:=hE.len;omega
   obtain⟨la,hla⟩:∃l,(eL f (dZ f j) j k)[3*ka+k]? =some l:=⟨_,aB (by first|omega|(rw [bY];omega))⟩
   have hlaw:=hE.wid la (aD hla);obtain⟨za,hza⟩:∃z,la[j]? =some z:=⟨_,aB (by omega)⟩
   obtain⟨va,hva⟩:∃v,rv[3*ka+k]? =some v:=⟨_,aB (by have:=(aE.1 hla).1;rw[hE.len];exact this)⟩
   obtain⟨aa5,ca5,rfl⟩:=hE.form hva;obtain⟨ada5,haa5,-,-⟩:=hE.load hva hla hza;refine cJ hτ db [.x 0,.x 1,.x 2,.x 3,.x 4,.x 5,.x 6,.x 7,.x 8,.x 9,.x 10,.x 11,.x 12,.x 13,.x 14,.x 15,.x 16,.x 17] (by kernel_rfl) (by kernel_rfl) ?_;refine⟨adb,hadb,by omega,.int .i64 (ka:Int),fun O w' r=>?_,?_⟩
   ·obtain⟨k1,k2⟩:=hlb0 0 _ rfl;rw[cH (w:=w) (w2:=w') (by simp only[dQ];exact(hw.tr r.cM).block _ (hS _ k1))];simp only[aF,ku]at k2 ⊢;exact k2
   refine⟨((3*ka:Nat):Int),wo,((3*ka+k:Nat):Int),wo,by rw[hrl,aV,aU],by omega,.slice aa5 f.cols ca5,by rw[aF,aU];exact hva,by omega,.int .i64 d,by rw[aV,aF,aU];exact hdk,ada5,haa5,by omega,?_⟩;intro O w' r;obtain⟨g,hg,h1,h2,h3,h4⟩:=hE.store r (z:=d) hva hla (show j<f.cols by omega);rw[haa5]at hg;injection hg with hg;subst hg;refine⟨h1,h2,h3,fun w5 hw5=>?_⟩;obtain⟨k1,k2,k3,-,-⟩:=h4 w5 hw5;replace hw:=(hw.tr r.cM).tr k2;replace hbd:=hbd.set (r:=3*ka+k) (c:=j) (z:=d) (t2:=2000000) (by omega) hla (by omega);replace hE:=k1;clear h1 h2 h3 h4 hw5 k1 k2 k3 r haa5;obtain⟨lb,hlb⟩:∃l,((eL f (dZ f j) j k).set (3*ka+k) (la.set j d))[3*kb+k]? =some l:=⟨_,aB (by first|omega|(rw [bY];omega))⟩
   have hlbw:=hE.wid lb (aD hlb);obtain⟨zb,hzb⟩:∃z,lb[j]? =some z:=⟨_,aB (by omega)⟩
   obtain⟨vb,hvb⟩:∃v,rv[3*kb+k]? =some v:=⟨_,aB (by have:=(aE.1 hlb).1;rw[hE.len];exact this)⟩
   obtain⟨ab5,cb5,rfl⟩:=hE.form hvb;obtain⟨adb5,hab5,-,-⟩:=hE.load hvb hlb hzb;refine cJ hτ db [.x 0,.x 1,.x 2,.x 3,.x 4,.x 5,.x 6,.x 7,.x 8,.x 9,.x 10,.x 11,.x 12,.x 13,.x 14,.x 15,.x 16,.x 17,.x 18] (by kernel_rfl) (by kernel_rfl) ?_;refine⟨adb,hadb,by omega,.int .i64 (kb:Int),fun O w' r=>?_,?_⟩
   ·obtain⟨k1,k2⟩:=hlb0 1 _ rfl;rw[cH (w:=w) (w2:=w') (by simp only[dQ];exact(hw.tr r.cM).block _ (hS _ k1))];simp only[aF,ku]at k2 ⊢;exact k2
   refine⟨((3*kb:Nat):Int),wo,((3*kb+k:Nat):Int),wo,by rw[hrl,aV,aU],by omega,.slice ab5 f.cols cb5,by rw[aF,aU];exact hvb,by omega,.int .i64 d,by rw[aV,aF,aU];exact hdk,-d,wo,adb5,hab5,by omega,?_⟩;intro O w' r;obtain⟨g,hg,h1,h2,h3,h4⟩:=hE.store r (z:=(-d)) hvb hlb (show j<f.cols by omega);rw[hab5]at hg;injection hg with hg;subst hg;refine⟨h1,h2,h3,fun w5 hw5=>?_⟩;obtain⟨k1,k2,k3,-,-⟩:=h4 w5 hw5;replace hw:=(hw.tr r.cM).tr k2;replace hbd:=hbd.set (r:=3*kb+k) (c:=j) (z:=(-d)) (t2:=2000000) (by omega) hlb (by omega);replace hE:=k1;clear h1 h2 h3 h4 hw5 k1 k2 k3 r hab5;rw[KB hb ea eb hab hk3 hd hla hlb]at hE hbd;refine⟨((k+1:Nat):Int),wo,?_⟩;intro ρ3 w6 r3;exact⟨(k+1,w6,_),⟨hk3,hw.tr r3.cM,hE.rel r3,hbd⟩,Sub.gn [] r3,by dsimp only;omega⟩
  have hkb2:k=3:=by have:=aH hkb2;omega
  subst hkb2;refine⟨((j+1:Nat):Int),wo,?_⟩;intro ρ3 w6 r3;exact⟨(j+1,w6,_),⟨hjb,hw.tr r3.cM,hE.rel r3,hbd⟩,Sub.gn [] r3,by dsimp only;omega⟩
 have hjb:j=f.bars.length:=aR hj (by simpa using hjb);subst hjb
 refine⟨Nat×World×Iv,fun z=>⟨[(1,.o (.p 0 0)),(3,.o (.w 1 i)),(8,.o (.v (.int .i64 ((z.1:Nat):Int))))],[(1,.vec T.Lint 1 rv),(0,.box T.Frame [.v (.slice an f.nodes.length cn),.v (.slice ab f.bars.length cb),.v (.slice aq f.cU.length cq)])],2,z.2.2,z.2.1⟩,fun z=>f.cU.length-z.1,
  fun z=>z.1<=f.cU.length∧cV w.heap.size w z.2.1∧gP z.2.1 w.heap.size z.2.2 rv f.cols (ee f z.1)∧Ep (ee f z.1) 2000000,?_,?_⟩
 ·intro O w' r3;exact⟨(0,w',_),⟨aP _,hw.tr r3.cM,hE.rel r3,hbd⟩,Sub.gn [] r3⟩
 clear hw hE hbd hj;rintro⟨j,w2,iv⟩ ⟨hj,hw,hE,hbd⟩;dsimp only at hj hw hE hbd ⊢;refine dI.mk (fun hjb=>?_) (fun hjb=>?_)
 ·have hjb:j<f.cU.length:=by simpa using hjb
  obtain⟨s,hs⟩:∃b,f.cU[j]? =some b:=⟨_,aB hjb⟩
  obtain⟨hA,hB⟩:=hok.sup s (aD hs);obtain⟨ks,hks⟩:=Int.eq_ofNat_of_zero_le (show 0<=3*s.1+s.2.1 by omega);have hMl:=mh f j;obtain⟨l,hl⟩:∃l,(ee f j)[ks]? =some l:=⟨_,aB (by omega)⟩
  have hlw:=hE.wid l (aD hl);obtain⟨v,hv⟩:∃v,rv[ks]? =some v:=⟨_,aB (by rw[hE.len];omega)⟩
  obtain⟨a5,c5,rfl⟩:=hE.form hv;obtain⟨z0,hz0⟩:∃z,l[f.bars.length+j]? =some z:=⟨_,aB (by omega)⟩
  obtain⟨ad5,ha5,-,-⟩:=hE.load hv hl hz0;obtain⟨adb,cs,hab,hF,-,hlb⟩:=hf.cU.load (by decide) hs;obtain⟨g0,g1,g2,g3,g4,g5,g6,g7,rfl,hF⟩:=hF;refine cJ hτ db [.x 0,.x 1,.x 2,.x 3,.x 4,.x 5,.x 6,.x 7,.x 8,.x 9,.x 10,.x 11,.x 12,.x 13,.x 14,.x 15,.x 16,.x 17,.x 18,.x 19,.x 20,.x 21,.x 22,.x 23] (by kernel_rfl) (by kernel_rfl) ?_;refine⟨adb,hab,by omega,.int .i64 s.1,fun O w' r=>?_,?_⟩
  ·obtain⟨k1,k2⟩:=hlb 0 _ rfl;rw[cH (w:=w) (w2:=w') (by simp only[dQ];exact(hw.tr r.cM).block _ (hS _ k1))];simp only[aF,ku]at k2 ⊢;exact k2
  refine⟨3*s.1,wo,adb,hab,by omega,.int .i64 s.2.1,fun O w' r=>?_,?_⟩
  ·obtain⟨k1,k2⟩:=hlb 1 _ rfl;rw[cH (w:=w) (w2:=w') (by simp only[dQ];exact(hw.tr r.cM).block _ (hS _ k1))];simp only[aF,ku]at k2 ⊢;exact k2
  refine⟨((ks:Nat):Int),wo,by rw[hrl,aU],by omega,.slice a5 f.cols c5,by rw[aF,aU];exact hv,((f.bars.length+j:Nat):Int),wo,ad5,ha5,by omega,?_⟩;intro O w' r;obtain⟨g,hg,h1,h2,h3,h4⟩:=hE.store r (z:=1) hv hl (show f.bars.length+j<f.cols by omega);rw[ha5]at hg;injection hg with hg;subst hg;refine⟨h1,h2,h3,fun w5 hw5=>?_⟩;obtain⟨k1,k2,k3,-,-⟩:=h4 w5 hw5;replace hw:=(hw.tr r.cM).tr k2;have hbd2:=hbd.set (r:=ks) (c:=f.bars.length+j) (z:=1) (t2:=2000000) (by omega) hl (by omega);rw[Dc hs hks hl]at k1 hbd2;clear h1 h2 h3 h4 hw5 k2 k3 r hE;refine⟨((j+1:Nat):Int),wo,?_⟩;intro ρ3 w6 r3;exact⟨(j+1,w6,_),⟨hjb,hw.tr r3.cM,k1.rel r3,hbd2⟩,Sub.gn [] r3,by dsimp only;omega⟩
 have hjb:j=f.cU.length:=aR hj (by simpa using hjb);subst hjb;intro ρe we re;have hE2:=hE.rel re;have hMl:=mh f f.cU.length;have hrl2:=hE.len;refine⟨_,rfl,hw.tr re.cM,⟨rv,?_,hE.len,fun i u x k1 k2=>?_⟩,hbd⟩
 ·rw[show (gw f).length=rv.length from hE.len.symm];have h5:=re.iX (id:=1) (sz:=1) (m:=rv.length) rfl (by simp) (by unfold maxLen;omega) (by decide) hE.one;rw[show (i:Nat)=rv.length by omega];exact h5.cI fun g hg=>.inr hg
 ·obtain⟨a,c,rfl⟩:=hE.form k1;have hxl:=hE.wid x (aD k2);refine⟨by rw[hxl];unfold maxLen;omega,by simp,fun v hv=>by obtain⟨z,_,rfl⟩:=aT.1 hv;rfl,a,c,by rw[hxl],?_,fun t v hv=>?_⟩
  ·rw[hxl];obtain⟨a2,c2,e,h⟩:=jL (hE.row i _ x k1 k2);injection e with e1 e2 e3;omega
  ·rw[aN]at hv
   cases ht:x[t]? with
   |none=>rw[ht]at hv;cases hv
   |some z=>
    rw[ht]at hv;simp only[Option.map_some,Option.some.injEq]at hv;subst hv;obtain⟨ad,h1,h2,h3⟩:=hE2.load k1 k2 ht;exact⟨ad,h1,Cv.nw h2 re,by rw[aU]at h3;exact h3⟩
end Go.Ex
namespace Go.Ex
open Go Go.Sx Go.Proofs
variable{M:List (List Int)}{l:List Int}{xs:List Value}{g:Nat}{S:Nat->Prop}{O:Nat->Sx.df}{v:Value}
theorem CQ{i:Nat}{z:Int}(h:l[i]? =some z):dK (l.take (i+1))=dK (l.take i)++[(z:Rat)]:=by rw[dK,List.take_add_one,h,List.map_append];rfl
theorem CR{w:World}{B e sz n:Nat}(h:w.ownsRow B e sz v n xs):w.ownsRow 0 e sz v n xs:=⟨h.1,h.2.imp id fun⟨g,cap,cur,e1,_,rest⟩=>⟨g,cap,cur,e1,aP _,rest⟩⟩
theorem Cv.fin{H:Hp}{nx:Nat}{iv:Iv}{w0 w1 w':World}(hg:Cf w0 iv g)(r:Rel H nx iv w0.heap.size w1 O w'):Cf w0 [(w0.heap.size,w'.heap.size)] g:=by
 rcases hg with hg|⟨h1,lo,hi,h2,h3,h4⟩
 ·exact hg.elim
 ·exact .inr ⟨h1,_,_,bD.2 rfl,h1,by have:=r.qV lo hi h2;have:=r.size;omega⟩
theorem Cv.new{w w2:World}(hg:Cf w [(w.heap.size,w2.heap.size)] g):Nf w w2 g:=by
 rcases hg with hg|⟨h1,lo,hi,h2,h3,h4⟩
 ·exact hg.elim
 ·simp at h2;obtain⟨rfl,rfl⟩:=h2;exact .inr ⟨h3,h4⟩
structure L0(w:World)(B:Nat)(iv:Iv)(v:Value)(M:List (List Rat)):Prop where
 row:∃rv,w.ownsRow 0 T.gO 1 v M.length rv∧rv.length=M.length∧(∀u∈rv,u.oneCell'=true)∧∀(i:Nat) u x,rv[i]? =some u->M[i]? =some x->cO w (Bs (fun _=>False) B iv v) u x
 new:∀g,v.ownBlock=some g->Cv (fun _=>False) B iv g
section
variable{H:Hp}{nx:Nat}{iv iv':Iv}{B:Nat}{w w' w2:World}{O:Nat->Sx.df}{v:Value}{M:List (List Rat)}
theorem L0.c(h:L0 w B iv v M):cR w (Cv (fun _=>False) B iv) v M:=by
 obtain⟨⟨rv,h1,h2,h3,h4⟩,h5⟩:=h;refine⟨rv,?_,h2,fun i u x k1 k2=>cO.cI (h4 i u x k1 k2) fun g hg=>hg.1⟩;rcases h1.2 with⟨e,h0⟩|⟨g,cap,cur,e,_,hc,hn,hm,hs,ht⟩
 ·have:rv=[]:=List.eq_nil_of_length_eq_zero (by rw[h2,h0]);subst this;rw[e,h0];exact⟨aP _,rfl,by simp,none,0,rfl,aG _,fun j u h=>by cases h⟩
 ·subst e;refine⟨a9 hn hm,h1.1,h3,_,cap,rfl,hn,fun j u hu=>⟨_,rfl,h5 g rfl,?_⟩⟩;have:=h1.cells (g:=g) rfl j u hu;exact this
end
theorem At.K6{id n:Nat}:((At.w id n).den O).oneCell'=true:=by
 cases h:(O id).nil<;>simp[At.den,h,Value.oneCell']
theorem Iq{w:World}(hS:Old S w)(hM:wX w S v M)(hR:M.length<=1000)(hn:∀l∈M,l.length<=1000)(hb:∀l∈M,∀z∈l,-1000000000<=z∧z<=1000000000):
  dm PG N.rV #[v] w (eB w fun v' w2=>L0 w2 w.heap.size [(w.heap.size,w2.heap.size)] v' (M.map dK)):=by
 have hw:cV w.heap.size w w:=cV.refl;obtain⟨am,cm,rfl,-,hmm⟩:=de.shape hM;unfold maxLen at hmm;refine zk (by simp) ?_
 refine⟨Nat×List Value×World×Iv,fun z=>⟨[(0,.o (.v (.slice am M.length cm))),(3,.o (.w 0 z.2.1.length)),(4,.o (.v (.int .i64 ((z.1:Nat):Int))))],[(0,.vec T.gO 1 z.2.1)],1,z.2.2.2,z.2.2.1⟩,fun z=>M.length-z.1,
  fun z=>z.1<=M.length∧cV w.heap.size w z.2.2.1∧dU z.2.2.1 (Cf w z.2.2.2) z.2.1 ((M.take z.1).map dK),?_,?_⟩
 ·intro O w' r;exact⟨(0,[],w',[]),⟨aP _,hw.tr r.cM,by simp[dU]⟩,Sub.nil 3 T.gO 1 rfl (by simp[jn,SV.sc,At.sc,fW]) r fun ρ1 r1=>Sub.gn [] r1⟩
 clear hw;rintro⟨i,rv,w1,iv⟩ ⟨hi,hw,hK⟩;dsimp only at hi hw hK ⊢;have hrl:rv.length=i:=by rw[hK.1,aL,aY];omega
 refine dI.mk (fun hib=>?_) (fun hib=>?_)
 ·have hib:i<M.length:=by simpa using hib
  obtain⟨l,hl⟩:∃x,M[i]? =some x:=⟨_,aB hib⟩
  have hln:=hn l (aD hl);have hlb:=hb l (aD hl);obtain⟨adm,um,ham,hRm,km1,km2⟩:=de.load hM hl;obtain⟨al,cl,rfl,-,hml⟩:=hRm.shape
  refine⟨Nat×List (List Value)×World×Iv,fun z=>⟨[(0,.o (.v (.slice am M.length cm))),(3,.o (.w 0 rv.length)),(4,.o (.v (.int .i64 ((i:Nat):Int)))),(5,.o (.w 1 z.2.1.length)),(6,.o (.v (.int .i64 ((z.1:Nat):Int))))],[(1,.vec T.Rat 4 z.2.1.flatten),(0,.vec T.gO 1 rv)],2,z.2.2.2,z.2.2.1⟩,fun z=>l.length-z.1,
   fun z=>z.1<=l.length∧cV w.heap.size w z.2.2.1∧dU z.2.2.1 (Cf w z.2.2.2) rv ((M.take i).map dK)∧eP z.2.2.1 (Cf w z.2.2.2) z.2.1 (dK (l.take z.1)),?_,?_⟩
  ·intro O w' r;exact⟨(0,[],w',_),⟨aP _,hw.tr r.cM,hK.rel r (cB w),eP.nil⟩,Sub.nil 5 T.Rat 4 rfl (by simp[jn,SV.sc,At.sc,fW]) r fun ρ1 r1=>Sub.gn [] r1⟩
  clear hw hK;rintro⟨k,css,w3,iv⟩ ⟨hk,hw,hK,hG⟩;dsimp only at hk hw hK hG ⊢;have hfl:=e9 hG.four;have hcl2:css.length=k:=by rw[hG.len,dK,aL,aY];omega
  refine⟨adm,ham,by omega,.slice al l.length cl,rd1 km2 hw (hS _ km1),?_⟩;refine dI.mk (fun hkb=>?_) (fun hkb=>?_)
  ·have hkb:k<l.length:=by simpa using hkb
   obtain⟨z,hz⟩:∃x,l[k]? =some x:=⟨_,aB hkb⟩
   have hzb:=hlb z (aD hz);obtain⟨adx,hax,hSx,hlx⟩:=Da.at hRm hz;refine⟨adm,ham,by omega,.slice al l.length cl,rd1 km2 hw (hS _ km1),adx,hax,by omega,.int .i64 z,rd1 hlx hw (hS _ hSx),?_⟩;refine cC (cE hw (fun _ w' v w2=>cP w2 (Nf w' w2) v (z:Rat)) (fun O w' r=>pU z w' (by omega)) ?_);rintro O wa1 v1 wb1 iv1 r he hw h_ hn;replace hK:=hK.cF r (cB w) he (mC h_);replace hG:=hG.cF r (cB w) he (mC h_);have hd:=hn.c9 (S:=fun _=>False) r.cD (mN h_);clear r hn;obtain⟨s1_0,s1_1,s1_2,s1_3,s1_4,s1_5,s1_6,s1_7,rfl⟩:=hd.shape;have hG2:=hG.push (cs:=[.bool s1_0,.slice s1_1 s1_2 s1_3,.bool s1_4,.slice s1_5 s1_6 s1_7]) (q:=(z:Rat)) ⟨_,_,_,_,_,_,_,_,rfl,hd⟩ rfl;rw[<-CQ hz]at hG2;have hfl2:css.flatten++([.bool s1_0,.slice s1_1 s1_2 s1_3,.bool s1_4,.slice s1_5 s1_6 s1_7]:List Value)=(css++([[.bool s1_0,.slice s1_1 s1_2 s1_3,.bool s1_4,.slice s1_5 s1_6 s1_7]]:List (List Value))).flatten:=by simp
   refine .inl ?_;refine⟨by omega,by omega,by unfold maxLen;omega,((k+1:Nat):Int),wo,?_⟩;intro ρ3 w6 r3;exact⟨(k+1,css++[[.bool s1_0,.slice s1_1 s1_2 s1_3,.bool s1_4,.slice s1_5 s1_6 s1_7]],w6,_),⟨hkb,hw.tr r3.cM,hK.rel r3 (cB w),hG2.rel r3 (cB w)⟩,Sub.gn [(1,3)] r3 ⟨by dsimp only;rw[<-hfl2];rfl,rfl,trivial⟩ ⟨rfl,rfl,rfl,by dsimp only;rw[List.length_append,List.length_singleton];rfl,rfl,trivial⟩,by dsimp only;omega⟩
  have hkb:k=l.length:=aR hk (by simpa using hkb);have hwl:dK (l.take k)=dK l:=by rw[hkb,bE]
  rw[hwl]at hG;refine rC hτ (id3:=2) (id2:=1) (tH:=[(0,.vec T.gO 1 rv)]) rfl rfl rfl rfl (by simp) (by first|exact⟨rfl,trivial⟩|exact⟨rfl,rfl,trivial⟩) rfl rfl (fun O w' r r2 hbx=>?_);have hrow:=eP.list ((hG.rel r (cB w)).cI fun g hg=>Cv.mono (iv':=((O 2).g,(O 2).g+1)::kR (O 1) iv) hg fun p hp=>aC _ (tq p hp)) ((r.LZ (id:=1) (sz:=4) (m:=css.length) rfl hfl (by unfold maxLen;omega) (by decide) hG.one).cI fun g hg=>Cv.mono hg fun p hp=>aC _ hp);have hone:((At.w 1 css.length).den O).oneCell'=true:=At.K6;have hlo3:=r.low 2 _ rfl (r.fits (id:=2) rfl).1;have hC3:Cf w (((O 2).g,(O 2).g+1)::kR (O 1) iv) (O 2).g:=.inr ⟨hlo3.1,_,_,aJ,aG _,bf _⟩;have hmono:∀p,p∈iv->p∈((O 2).g,(O 2).g+1)::kR (O 1) iv:=fun p hp=>aC _ (tq p hp);have hw2:=hw.tr r.cM;have hK1:=(hK.rel r (cB w)).cI fun g hg=>Cv.mono hg hmono;clear r2 hlo3;generalize (At.w 1 css.length).den O=ur at*
  generalize (O 2).g=gy at*
  generalize (gy,gy+1)::kR (O 1) iv=iv2 at*
  refine⟨[ur],rfl,by simpa using hone,fun ρ2 w2 r2 _=>⟨_,rfl,fun j u hu=>?_⟩,?_⟩
  ·have h5:=Rel.same r2 (fz _) hC3;rw[dP,cell_of (h5.trans hbx)];rcases j with _|j
   ·exact hu
   ·cases hu
  refine⟨by simp,by omega,by unfold maxLen;omega,?_⟩;have hK2:=hK1.push hone hrow;rw[show (M.take i).map dK++[dK l]=(M.take (i+1)).map dK by rw[List.take_add_one,hl];simp]at hK2;refine⟨((i+1:Nat):Int),wo,?_⟩;intro ρ3 w6 r3;exact⟨(i+1,rv++[ur],w6,_),⟨hib,hw2.tr r3.cM,hK2.rel r3 (cB w)⟩,Sub.gn [(0,3)] r3 (hE:=⟨rfl,by dsimp only;rw[List.length_append,List.length_singleton];rfl,rfl,trivial⟩),by dsimp only;omega⟩
 have hib:i=M.length:=aR hi (by simpa using hib);rw[show (M.take i).map dK=M.map dK by rw[hib,bE]]at hK;intro ρe we re;refine⟨_,rfl,hw.tr re.cM,⟨rv,by rw[<-hK.1];exact CR (x9 re (id:=0) rfl (by simp) (by decide)),hK.1,hK.2.1,fun i u x k1 k2=>cO.cI (cO.cG (hK.2.2 i u x k1 k2) fun g hg=>Rel.same re (cB w) hg) fun g hg=>⟨hg.fin re,fun e=>Rel.not re (cB w) hg 0 _ rfl (BD e).1 (BD e).2⟩⟩,fun g e=>?_⟩;have hl:=re.low 0 _ rfl (BD e).1;rw[(BD e).2]at hl;exact .inr ⟨hl.1,_,_,bD.2 rfl,hl.1,hl.2⟩
theorem KC{w:World}(hS:Old S w)(hM:wX w S v M)(hR:M.length<=1000)(hn:∀l∈M,l.length<=1000)(hb:∀l∈M,∀z∈l,-1000000000<=z∧z<=1000000000):
  dm PG N.rV #[v] w (eB w fun v' w2=>cR w2 (Nf w w2) v' (M.map dK)):=
 (Iq hS hM hR hn hb).mono fun _ _ ⟨v2,e1,e2,e3⟩=>⟨v2,e1,e2,cR.cI e3.c fun _ hg=>hg.new⟩
end Go.Ex
namespace Go.Ex
variable{s:Int×Int×Rat}{M:List (List Int)}{fl x:List Rat}{t:Nat}{u y z:Nat->Rat}{f:eh}
theorem Jf{r c:Nat}:dG (M.map dK) r c=((ez M r c:Int):Rat):=by
 have key:∀l:List Int,(dK l).getD c 0=((l.getD c 0:Int):Rat):=fun l=>by
  rw[dK,List.getD,List.getD,aN]
  cases l[c]? <;>rfl
 unfold dG ez;rw[<-key];congr 1;rw[List.getD,List.getD,aN]
 cases M[r]? <;>rfl
theorem E6(f:eh)(r c:Nat):dG (cQ f) r c=((ez (gw f) r c:Int):Rat):=Jf
def Kw(n:Nat)(M:List (List Int)):Prop:=∀l∈M,l.length=n
theorem Kw.put{n r c:Nat}{d:Int}(h:Kw n M):Kw n (putAt M r c d):=fun l hl=>by
 unfold putAt at hl;rcases aQ r M.length with hr|hr
 ·rcases bI hl with hl|rfl
  ·exact h l hl
  ·rw[bY,List.getD,aB hr];exact h _ (aX hr)
 ·rw[List.set_eq_of_length_le hr]at hl;exact h l hl
theorem Ae{f:eh}{M:List (List Int)}{n i:Nat}(h:Kw n M):∀k,Kw n (eL f M i k)
 |0=>h
 |k+1=>by rw[eL];rw[gL,gL];exact((Ae h k).put).put
theorem yP(f:eh):∀i,Kw f.cols (dZ f i)
 |0=>fun l hl=>by rw[dZ]at hl;rw[bV hl,bH]
 |i+1=>by rw[dZ];exact Ae (yP f i) 3
theorem k6(f:eh):∀i,Kw f.cols (ee f i)
 |0=>yP f _
 |i+1=>by rw[ee];exact(k6 f i).put
theorem nK(M:List (List Int))(r c:Nat)(d:Int):(putAt M r c d).length=M.length:=bY ..
theorem s0(f:eh)(M:List (List Int))(i:Nat):∀k,(eL f M i k).length=M.length
 |0=>rfl
 |k+1=>by rw[eL];rw[gL,gL,nK,nK];exact s0 f M i k
theorem q8(f:eh):∀i,(dZ f i).length=3*f.nodes.length
 |0=>bH ..
 |i+1=>by rw[dZ,s0];exact q8 f i
theorem mB(f:eh):∀i,(ee f i).length=3*f.nodes.length
 |0=>q8 f _
 |i+1=>by rw[ee,nK];exact mB f i
theorem ff(f:eh):fe f.cols (cQ f):=fun r hr=>by
 obtain⟨l,hl,rfl⟩:=aT.1 hr;rw[dK,aL];exact k6 f _ l hl
theorem j1(f:eh):(cQ f).length=3*f.nodes.length:=by rw[cQ,aL];exact mB f _
structure Af(f:eh):Prop where
 co:∀p∈f.nodes,(-1000000<=p.1∧p.1<=1000000)∧(-1000000<=p.2.1∧p.2.1<=1000000)∧(-1000000<=p.2.2∧p.2.2<=1000000)
 Jg:∀b∈f.bars,∃ka kb:Nat,b.1=ka∧b.2.1=kb∧ka<f.nodes.length∧kb<f.nodes.length∧ka≠kb∧0<b.2.2
 sup:∀s∈f.cU,gF s<3*f.nodes.length∧0<=s.2.2
 one:∀(i j:Nat) s t,f.cU[i]? =some s->f.cU[j]? =some t->gF s=gF t->i=j
 n:f.nodes.length<=20
 b:f.bars.length<=60
 s:f.cU.length<=60
theorem Fo{α:Type}{l:List α}{x:α}(h:x∈l):∃i:Nat,l[i]? =some x:=by
 obtain⟨i,hi,rfl⟩:=List.mem_iff_getElem.1 h;exact⟨i,aB hi⟩
theorem Kx(h:eK f=0):Af f:=by
 have hok:=qA h;obtain⟨⟨h1,h2,h3⟩,h4,h5,h6⟩:=uE h;have hsup:∀(k:Nat) s,f.cU[k]? =some s->iV f.nodes.length s.1∧(0<=s.2.1∧s.2.1<=2)∧iC s∉(f.cU.take k).map iC∧0<=s.2.2:=fun k s hs=>qB.1 (iD h6 k s hs);have hrow:∀(k:Nat) s,f.cU[k]? =some s->(gF s:Int)=3*s.1+s.2.1∧gF s<3*f.nodes.length:=fun k s hs=>by
  obtain⟨⟨a1,a2⟩,⟨a3,a4⟩,-,-⟩:=hsup k s hs;unfold gF;omega
 have lt:∀(i j:Nat) s t,i<j->f.cU[i]? =some s->f.cU[j]? =some t->gF s≠gF t:=fun i j s t hij hs ht e=>by
  obtain⟨⟨a1,a2⟩,⟨a3,a4⟩,-,-⟩:=hsup i s hs;obtain⟨⟨b1,b2⟩,⟨b3,b4⟩,b5,-⟩:=hsup j t ht;have e1:=(hrow i s hs).1;have e2:=(hrow j t ht).1;refine b5 (aT.2 ⟨s,aD (i:=i) (by rw[bP hij];exact hs),?_⟩);exact Prod.ext (by show s.1=t.1;omega) (by show s.2.1=t.2.1;omega)
 refine⟨hok.co,fun b hb=>?_,fun s hs=>?_,fun i j s t hs ht e=>?_,h1,h2,h3⟩
 ·obtain⟨k,hk⟩:=Fo hb;obtain⟨⟨⟨a1,a2⟩,a3,a4⟩,a5,-,a6⟩:=mW.1 (iD h5 k b hk);exact⟨b.1.toNat,b.2.1.toNat,by omega,by omega,by omega,by omega,by omega,a6⟩
 ·obtain⟨k,hk⟩:=Fo hs;exact⟨(hrow k s hk).2,(hsup k s hk).2.2.2⟩
 ·rcases bq i j with h7|h7|h7
  ·exact absurd e (lt i j s t h7 hs ht)
  ·exact h7
  ·exact absurd e.symm (lt j i t s h7 ht hs)
theorem DM(M:List (List Int))(r c r' c':Nat)(d:Int):ez (putAt M r c d) r' c'=d∨ez (putAt M r c d) r' c'=ez M r' c':=by
 by_cases h:r'=r∧c'=c
 ·obtain⟨rfl,rfl⟩:=h;rcases aQ r' M.length with h1|h1
  ·rcases aQ c' (M.getD r' []).length with h2|h2
   ·exact .inl (DL h1 h2)
   ·refine .inr ?_;unfold ez putAt;rw[lL h1,List.set_eq_of_length_le h2]
  ·refine .inr ?_;unfold ez putAt;rw[List.set_eq_of_length_le h1]
 ·exact .inr (ia (by
   by_cases h1:r'=r
   ·exact .inr fun h2=>h ⟨h1,h2⟩
   ·exact .inl h1))
theorem DN{k:Nat}(hk:k<f.nodes.length):f.node (k:Int)∈f.nodes:=by
 rw[eh.node,aF,List.getD,aB hk];exact aX hk
section
variable{f:eh}(h:Af f)
include h
theorem Af.Mw{b:Int×Int×Rat}(hb:b∈f.bars)(k:Nat): -2000000<=(rN f b).getD k 0∧(rN f b).getD k 0<=2000000:=by
 obtain⟨ka,kb,ea,eb,hka,hkb,-,-⟩:=h.Jg b hb;obtain⟨⟨a1,a2⟩,⟨a3,a4⟩,a5,a6⟩:=h.co _ (DN hka);obtain⟨⟨b1,b2⟩,⟨b3,b4⟩,b5,b6⟩:=h.co _ (DN hkb);rw[rN,ea,eb]
 match k with
 |0=>simp[List.getD];omega
 |1=>simp[List.getD];omega
 |2=>simp[List.getD];omega
 |k+3=>simp[List.getD]
theorem Af.DO{i:Nat}{b:Int×Int×Rat}(hb:f.bars[i]? =some b)(r:Nat):∀k,k<=3-> -2000000<=ez (eL f (dZ f i) i k) r i∧ez (eL f (dZ f i) i k) r i<=2000000
 |0,_=>by
  have:=lM f (r:=r) i (aG i);rw[eL,this];omega
 |k+1,hk=>by
  obtain⟨ka,kb,ea,eb,-,-,hne,-⟩:=h.Jg b (aD hb);have ih:=Af.DO hb r k (by omega);have hd:=h.Mw (aD hb) k;have z1:=nJ (r:=3*ka+k) hb ea eb (show k<=3 by omega) (by omega);have z2:=nJ (r:=3*kb+k) hb ea eb (show k<=3 by omega) (by omega);rw[eL];rw[B1 hb,toNat_add ea,toNat_add eb,gL,gL,z1,ia (r':=3*kb+k) (.inl (by omega)),z2];rcases DM (putAt (eL f (dZ f i) i k) (3*ka+k) i (0+(rN f b).getD k 0)) (3*kb+k) i r i (0+ -(rN f b).getD k 0)with e|e
  ·rw[e];omega
  ·rw[e];rcases DM (eL f (dZ f i) i k) (3*ka+k) i r i (0+(rN f b).getD k 0)with e|e
   ·rw[e];omega
   ·rw[e];exact ih
theorem Af.Fp{i r:Nat}(hi:i<f.bars.length):∀j,i<j->j<=f.bars.length-> -2000000<=ez (dZ f j) r i∧ez (dZ f j) r i<=2000000
 |0,h1,_=>by omega
 |j+1,h1,h2=>by
  rw[dZ];rcases aQ i j with h3|h3
  ·rw[uD (by omega)];exact Af.Fp hi j h3 (by omega)
  ·rw[show j=i by omega];exact h.DO (aB hi) r 3 (aG _)
theorem Af.E7{r i:Nat}(hs:f.cU[i]? =some s):ez (gw f) r (f.bars.length+i)=if r=gF s then 1 else 0:=
 Ad (k6 f) (mB f) (fun s hs=>(h.sup s hs).1) hs _ (aE.1 hs).1
theorem Af.Ky(r c:Nat): -2000000<=ez (gw f) r c∧ez (gw f) r c<=2000000:=by
 rcases aQ c f.bars.length with hc|hc
 ·rw[gw,yO hc];exact h.Fp hc _ hc (aG _)
 ·rcases aQ c f.cols with h1|h1
  ·obtain⟨i,rfl⟩:∃i,c=f.bars.length+i:=⟨c-f.bars.length,by omega⟩
   rw[eh.cols]at h1;rw[h.E7 (aB (show i<f.cU.length by omega))];split<;>omega
  ·have:ez (gw f) r c=0:=by
    unfold ez;rw[List.getD,List.getElem?_eq_none]
    ·rfl
    ·rcases aQ r (gw f).length with h2|h2
     ·rw[List.getD,aB h2];show((gw f)[r]).length<=c;rw[k6 f _ _ (aX h2)];exact h1
     ·rw[List.getD,List.getElem?_eq_none h2];exact aP _
   rw[this];omega
theorem Af.B2(r c:Nat):Ib 2000000 (dG (cQ f) r c):=by
 rw[E6];have:=h.Ky r c;exact Ib.int (by omega)
theorem Af.s3:C3 (cQ f) f.cols 2000000:=fun j _=>⟨1,by decide,Ib.one (by decide),fun t _=>by rw[bu];exact h.B2 j t⟩
theorem Af.only{x:Nat->Rat}(hx:∀j,j<(cQ f).length->mulR (cQ f) f.cols x j=0)(h0:∀t,t<f.bars.length->x t=0):∀t,t<f.cols->x t=0:=fun t ht=>by
 rcases aQ t f.bars.length with h1|h1
 ·exact h0 t h1
 ·obtain⟨i,rfl⟩:∃i,t=f.bars.length+i:=⟨t-f.bars.length,by omega⟩
  have hi:i<f.cU.length:=by unfold eh.cols at ht;omega
  have hs:=aB hi;have hr:=h.sup _ (aX hi);have h2:=hx (gF f.cU[i]) (by rw[j1];exact hr.1);unfold mulR at h2;rw[fP ht fun k hk hne=>?_,E6,h.E7 hs,if_pos rfl]at h2
  ·have e:((1:Int):Rat)*x (f.bars.length+i)=x (f.bars.length+i):=bu _
   rwa [e]at h2
  ·rcases aQ k f.bars.length with h3|h3
   ·rw[h0 k h3,bC]
   ·obtain⟨i',rfl⟩:∃i,k=f.bars.length+i:=⟨k-f.bars.length,by omega⟩
    have hi':i'<f.cU.length:=by unfold eh.cols at hk;omega
    have hs':=aB hi';rw[E6,h.E7 hs',aK fun e=>hne (by rw[h.one i i' _ _ hs hs' e])];exact bG _
theorem Af.ID(ht:t<f.bars.length):0<(cW f).getD t 0:=by
 obtain⟨_,_,_,_,_,_,_,h1⟩:=h.Jg _ (aX ht);rw[cW,List.getD,aM (by rw[aL];exact ht),aN,aB ht];exact h1
theorem Af.DP(t:Nat):0<=(cW f).getD t 0:=by
 rw[List.getD]
 cases ht:(cW f)[t]? with
 |none=>exact Rat.le_refl
 |some q=>
  show 0<=q;have hm:=aD ht;rcases bQ.1 hm with hm|hm
  ·obtain⟨b,hb,rfl⟩:=aT.1 hm;obtain⟨_,_,_,_,_,_,_,h1⟩:=h.Jg b hb;exact Rat.le_of_lt h1
  ·obtain⟨s,hs,rfl⟩:=aT.1 hm;exact(h.sup s hs).2
theorem Af.Gf:yM (cQ f) f.cols fun t=>(cW f).getD t 0:=by
 refine⟨ff f,fun t _=>h.DP t,fun x hx h0=>h.only hx fun t ht=>?_⟩;have h1:=vC (f:=fun t=>(cW f).getD t 0*(x t*x t)) (n:=f.cols) (fun k _=>Rat.mul_nonneg (h.DP k) (sq_nonneg _)) (by rw[h0];exact Rat.le_refl) t (by unfold eh.cols;omega);have h2:=h.ID ht;rcases Rat.mul_eq_zero.1 h1 with h3|h3
 ·rw[h3]at h2;exact absurd h2 (Rat.lt_irrefl)
 ·rcases Rat.mul_eq_zero.1 h3 with h4|h4<;>exact h4
end
theorem rR(f:Nat->Rat)(a:Nat):∀b,cZ f (a+b)=cZ f a+cZ (fun k=>f (a+k)) b
 |0=>(bX _).symm
 |b+1=>by rw[show a+(b+1)=a+b+1 by omega,cZ,cZ,rR f a b,Rat.add_assoc]
theorem Gg{M:List (List Rat)}{n k:Nat}(hk:k<n):(fL M n).getD k []=M.map fun r=>r.getD k 0:=by
 unfold fL;exact getD_some (by rw[aN,bp hk];rfl)
theorem DQ{M:List (List Rat)}{n k i:Nat}(hk:k<n):dG (fL M n) k i=dG M i k:=by
 rw[dG,dG,Gg hk];rcases aQ i M.length with h|h
 ·have hr:=aB h;rw[getD_some (show (M.map fun r=>r.getD k 0)[i]? =some (M[i].getD k 0) by rw[aN,hr];rfl),getD_some hr]
 ·rw[iZ (by rw[aL];exact h),show M.getD i []=[] by rw[List.getD,List.getElem?_eq_none h];rfl];rfl
theorem Ag(M:List (List Rat))(n:Nat):fe M.length (fL M n):=fun r hr=>by
 obtain⟨k,_,rfl⟩:=aT.1 hr;exact aL ..
theorem s4(M:List (List Rat))(n:Nat):(fL M n).length=n:=by simp[fL]
section
variable{M:List (List Rat)}{n:Nat}
theorem Gi{k:Nat}(hk:k<n):mulR (fL M n) M.length y k=cZ (fun i=>dG M i k*y i) M.length:=cK fun i _=>by rw[DQ hk]
def jW(M:List (List Rat))(n:Nat)(fl:List Rat):List (List Rat):=(M.map fun r=>List.replicate M.length 0++r)++(List.range n).map fun j=>(M.map fun r=>r.getD j 0)++(List.replicate n 0).set j (fl.getD j 0)
theorem iO(fl:List Rat):(jW M n fl).length=M.length+n:=by unfold jW;rw[List.length_append,aL,aL,List.length_range]
theorem qC(hM:fe n M)(fl:List Rat):fe (M.length+n) (jW M n fl):=fun r hr=>by
 rcases bQ.1 hr with hr|hr
 ·obtain⟨x,hx,rfl⟩:=aT.1 hr;rw[List.length_append,bH,hM x hx]
 ·obtain⟨x,hx,rfl⟩:=aT.1 hr;rw[List.length_append,aL,bY,bH]
theorem B3{i:Nat}(hi:i<M.length):(t<M.length->dG (jW M n fl) i t=0)∧dG (jW M n fl) i (M.length+t)=dG M i t:=by
 have hr:=aB hi;have h:(jW M n fl)[i]? =some (List.replicate M.length 0++M[i]):=by
  unfold jW;rw[aM (by rw[aL];exact hi),aN,hr];rfl
 refine⟨fun ht=>?_,?_⟩
 ·rw[dG,getD_some h];exact getD_some (by rw[aM (by rw[bH];exact ht),List.getElem?_replicate,if_pos ht])
 ·rw[dG,dG,getD_some h,getD_some hr,List.getD,List.getD,aO (by rw[bH];exact Nat.le_add_right _ _),bH,Nat.add_sub_cancel_left]
theorem yQ{j:Nat}(hj:j<n):(t<M.length->dG (jW M n fl) (M.length+j) t=dG M t j)∧(t<n->dG (jW M n fl) (M.length+j) (M.length+t)=if t=j then fl.getD j 0 else 0):=by
 have h:(jW M n fl)[M.length+j]? =some ((M.map fun r=>r.getD j 0)++(List.replicate n 0).set j (fl.getD j 0)):=by
  unfold jW;rw[aO (by rw[aL];exact Nat.le_add_right _ _),aL,Nat.add_sub_cancel_left,aN,bp hj];rfl
 refine⟨fun ht=>?_,fun ht=>?_⟩
 ·have hr:=aB ht;rw[dG,dG,getD_some h,getD_some hr];exact getD_some (by rw[aM (by rw[aL];exact ht),aN,hr];rfl)
 ·rw[dG,getD_some h];by_cases e:t=j
  ·subst e;rw[if_pos rfl];exact getD_some (by rw[aO (by rw[aL];exact Nat.le_add_right _ _),aL,Nat.add_sub_cancel_left,aW (by rw[bH];exact ht)])
  ·rw[aK e];exact getD_some (by rw[aO (by rw[aL];exact Nat.le_add_right _ _),aL,Nat.add_sub_cancel_left,bA (Ne.symm e),List.getElem?_replicate,if_pos ht])
theorem Ah{i:Nat}(hi:i<M.length):mulR (jW M n fl) (M.length+n) z i=mulR M n (fun t=>z (M.length+t)) i:=by
 unfold mulR;rw[rR,cK (g:=fun _=>0) fun t ht=>by rw[(B3 hi).1 ht,bG],dx,Rat.zero_add];exact cK fun t _=>by rw[(B3 hi).2]
theorem Ai{j:Nat}(hj:j<n):mulR (jW M n fl) (M.length+n) z (M.length+j)=cZ (fun i=>dG M i j*z i) M.length+fl.getD j 0*z (M.length+j):=by
 unfold mulR;rw[rR,cK fun t ht=>by rw[(yQ hj).1 ht]];congr 1;rw[fP hj fun t ht hne=>by rw[(yQ hj).2 ht,aK hne,bG],(yQ hj).2 hj,if_pos rfl]
theorem Gj(h:∀j,j<M.length->mulR M n y j=0):cZ (fun t=>y t*cZ (fun i=>dG M i t*u i) M.length) n=0:=by
 rw[cK (g:=fun t=>cZ (fun i=>y t*(dG M i t*u i)) M.length) fun t _=>by rw[eN],o9,cK (g:=fun _=>0) fun i hi=>?_,dx];have h1:=h i hi;unfold mulR at h1;rw[cK (g:=fun t=>dG M i t*y t*u i) fun t _=>by grind,pq,h1,bG]
end
section
variable{M:List (List Rat)}{n:Nat}{fl b:List Rat}
theorem mV.M6(hM:fe n M)(h:mV M n (fun t=>fl.getD t 0) b x):∃u,gR (fL M n) (da (eJ x fl) (-1)) M.length=some u:=by
 cases e:gR (fL M n) (da (eJ x fl) (-1)) M.length with
 |some u=>exact⟨u,rfl⟩
 |none=>
  obtain⟨y,y1,y2⟩:=rP (Ag M n) e;rw[s4]at y1 y2;refine absurd ?_ y2;have hnull:∀j,j<M.length->mulR M n y j=0:=fun j hj=>Eq.trans (cK fun t ht=>by rw[DQ ht,bl]) (y1 j hj);obtain⟨c,hc⟩:=Fg hM hnull;have hb:∀t,t<n->(da (eJ x fl) (-1)).getD t 0= -(fl.getD t 0*x.getD t 0):=fun t ht=>by
   have h1:=k5 (a:=x) (b:=fl) (t:=t) (by rw[h.len];exact ht);have hl:t<(eJ x fl).length:=by rw[eJ,List.length_mapIdx,h.len];exact ht
   rw[getD_some (aB hl)]at h1;rw[getD_some (show (da (eJ x fl) (-1))[t]? =some ((eJ x fl)[t]* -1) by rw[da,aN,aB hl];rfl),h1];grind
  have e1:cZ (fun t=>y t*(da (eJ x fl) (-1)).getD t 0) n= -(oG (fun t=>fl.getD t 0) (fun t=>x.getD t 0) y n):=by
   unfold oG;rw[<-mS];exact cK fun t ht=>by rw[hb t ht];grind
  rw[e1,uA (x':=fun t=>x.getD t 0) (fun _ _=>rfl) hc,sZ,cK (g:=fun _=>0) fun k hk=>by rw[sY,h.st k hk,bC],dx];rfl
theorem E8(x fl:List Rat){n:Nat}(hx:x.length=n)(ht:t<n):(da (eJ x fl) (-1)).getD t 0= -(fl.getD t 0*x.getD t 0):=by
 have h1:=k5 (a:=x) (b:=fl) (t:=t) (by rw[hx];exact ht);have hl:t<(eJ x fl).length:=by rw[eJ,List.length_mapIdx,hx];exact ht
 rw[getD_some (aB hl)]at h1;rw[getD_some (show (da (eJ x fl) (-1))[t]? =some ((eJ x fl)[t]* -1) by rw[da,aN,aB hl];rfl),h1];grind
theorem IE(hM:fe n M){u:List Rat}(hb:b.length=M.length)(h:mV M n (fun t=>fl.getD t 0) b x)(hu:gR (fL M n) (da (eJ x fl) (-1)) M.length=some u):
  (u++x).length=M.length+n∧∀j,j<(jW M n fl).length->mulR (jW M n fl) (M.length+n) (fun t=>(u++x).getD t 0) j=(b++uB n).getD j 0:=by
 obtain⟨u1,u2⟩:=kY (Ag M n) hu;rw[s4]at u2;have ha:∀t,t<M.length->(u++x).getD t 0=u.getD t 0:=fun t ht=>by rw[List.getD,aM (by omega),<-List.getD]
 have hc:∀t,(u++x).getD (M.length+t) 0=x.getD t 0:=fun t=>by rw[List.getD,aO (by omega),u1,Nat.add_sub_cancel_left,<-List.getD]
 refine⟨by rw[List.length_append,u1,h.len],fun j hj=>?_⟩;rw[iO]at hj;rw[oe];rcases aQ j M.length with h1|h1
 ·rw[Ah h1,rQ (y:=fun t=>x.getD t 0) fun t _=>hc t];exact h.eq j h1
 ·obtain⟨k,rfl⟩:∃k,j=M.length+k:=⟨j-M.length,by omega⟩
  have hk:k<n:=by omega
  rw[Ai hk,hc,iZ (l:=b) (by omega),cK (g:=fun i=>dG M i k*u.getD i 0) fun i hi=>by rw[ha i hi]];have h2:=u2 k hk;rw[Gi hk,E8 x fl h.len hk]at h2;rw[h2];grind
theorem IF(hM:fe n M){z:List Rat}(hb:b.length=M.length)(hz:gR (jW M n fl) (b++uB n) (M.length+n)=some z):mV M n (fun t=>fl.getD t 0) b (z.drop M.length):=by
 obtain⟨z1,z2⟩:=kY (qC hM fl) hz;have hd:∀t,(z.drop M.length).getD t 0=z.getD (M.length+t) 0:=fun t=>by rw[List.getD,List.getD,List.getElem?_drop]
 refine⟨by rw[List.length_drop,z1];omega,fun j hj=>?_,fun k hk=>?_⟩
 ·have h1:=z2 j (by rw[iO];omega);rw[Ah hj,oe]at h1;rw[<-h1];exact rQ (fun t _=>hd t) j
 ·have h0:=Gj (u:=fun i=>z.getD i 0) (sX hM hk);unfold oG;have e:cZ (fun t=>fl.getD t 0*(dG (cT M n) k t*(z.drop M.length).getD t 0)) n= -cZ (fun t=>dG (cT M n) k t*cZ (fun i=>dG M i t*z.getD i 0) M.length) n:=by
   rw[<-mS];refine cK fun t ht=>?_;have h1:=z2 (M.length+t) (by rw[iO];omega);rw[Ai ht,oe,iZ (l:=b) (by omega)]at h1;rw[hd];grind
  rw[e,h0];rfl
end
end Go.Ex
namespace Go.Ex
open Go Go.Sx Go.Proofs
section
variable{S S':Nat->Prop}{H:Hp}{nx:Nat}{iv iv':Iv}{B:Nat}{w w' w2:World}{O:Nat->Sx.df}{v:Value}{M:List (List Int)}
theorem wX.rel(h:wX w (Cv S B iv) v M)(r:Rel H nx iv B w O w')(hS:∀g,S g->g<B):wX w' (Cv S B iv) v M:=wX.cG h fun _ hg=>Rel.same r hS hg
theorem wX.c9(h:wX w2 (Nf w' w2) v M)(hB:B<=w'.heap.size)(hm:(w'.heap.size,w2.heap.size)∈iv):wX w2 (Cv S B iv) v M:=wX.cI h fun _ hg=>hg.c9 hB hm
end
end Go.Ex
namespace Go.Ex
open Go
theorem E9:∀(N m:Nat) (g:Nat->Nat),(∀i,i<m->g i<N)->(∀i j,i<m->j<m->g i=g j->i=j)->m<=N
 |0,m,g,h1,_=>by
  rcases bJ m with h|h
  ·omega
  ·exact absurd (h1 0 h) (Nat.not_lt_zero _)
 |N+1,m,g,h1,h2=>by
  by_cases h:∃i,i<m∧g i=N
  ·obtain⟨i0,hi,e⟩:=h
   have:=E9 N (m-1) (fun i=>if i<i0 then g i else g (i+1)) (fun i hi'=>by
    show(if i<i0 then g i else g (i+1))<N;split
    ·rename_i hlt;have:=h1 i (by omega);have:g i≠N:=fun e2=>by have:=h2 i i0 (by omega) hi (by rw[e2,e]);omega
     omega
    ·have:=h1 (i+1) (by omega);have:g (i+1)≠N:=fun e2=>by have:=h2 (i+1) i0 (by omega) hi (by rw[e2,e]);omega
     omega) (fun i j hi' hj' e2=>by
    have e3:(if i<i0 then g i else g (i+1))=(if j<i0 then g j else g (j+1)):=e2;split at e3<;>split at e3
    ·exact h2 _ _ (by omega) (by omega) e3
    ·have:=h2 _ _ (by omega) (by omega) e3;omega
    ·have:=h2 _ _ (by omega) (by omega) e3;omega
    ·have:=h2 _ _ (by omega) (by omega) e3;omega)
   omega
  ·exact Nat.le_succ_of_le (E9 N m g (fun i hi=>by
    have:=h1 i hi;have:g i≠N:=fun e=>h ⟨i,hi,e⟩
    omega) h2)
structure FrS(f:eh):Prop extends Af f where
 n4:f.nodes.length<=4
 b6:f.bars.length<=6
variable{f:eh}
theorem FrS.My(h:FrS f):f.cU.length<=12:=by
 have:=E9 (3*f.nodes.length) f.cU.length (fun i=>gF (f.cU.getD i (0,0,0))) (fun i hi=>by
  have e:f.cU.getD i (0,0,0)=f.cU[i]:=getD_some (aB hi);show gF (f.cU.getD i (0,0,0))<_;rw[e]
  exact(h.sup _ (aX hi)).1) (fun i j hi hj e=>by
  have e1:f.cU.getD i (0,0,0)=f.cU[i]:=getD_some (aB hi);have e2:f.cU.getD j (0,0,0)=f.cU[j]:=getD_some (aB hj);have e:gF (f.cU.getD i (0,0,0))=gF (f.cU.getD j (0,0,0)):=e;rw[e1,e2]at e
  exact h.one i j _ _ (aB hi) (aB hj) e)
 have:=h.n4;omega
theorem FrS.IG(h:FrS f):f.cols<=18:=by
 have h1:=h.My;have h2:=h.b6;unfold eh.cols;omega
theorem FrS.Kz(h:FrS f):(cQ f).length<=12:=by
 rw[j1];have:=h.n4;omega
theorem Ly:18*2000000<=wt 1:=by decide
theorem FrS.size(h:FrS f):ln (fB 2000000 (cQ f).length)<=13:=by
 have:=h.Kz;have h2:=KY (B:=2000000) (R:=18) (l:=1) (n:=(cQ f).length) (by omega) Ly;omega
theorem FrS.ht{c:Nat}(h:FrS f)(hc:c<=f.cols):Ht (cN (cQ f) c).1 20:=fun r hr q hq=>by
 have:=yG (ff f) h.s3 (by decide) hc r hr q hq;have:=h.size;omega
end Go.Ex
namespace Go.Ex
open Go Go.Sx Go.Proofs
variable{M:List (List Rat)}{s:List Int}{l:List Ld}{n:Nat}{S:Nat->Prop}{vl:Value}{f:eh}
theorem zP{B h:Nat}(hM:fe n M)(hW:C3 M n B)(hB:1<=B)(hh:ln (fB B M.length)+1<=h):tS M n h:=
 ⟨fun i hi r hr q hq=>by have:=Hr hM hW hB hi r hr q hq;omega,fun i hi k hk q hq=>by have:=Hs hM hW hB hi hk q hq;omega⟩
theorem FL{B h:Nat}(hM:fe n M)(hW:C3 M n B)(hB:1<=B)(hh:ln (fB B M.length)+1<=h):Ht (dR M n).1 h:=fun r hr q hq=>by
 rw[(rO hM hW).2]at hr;have:=yG hM hW hB (aG n) r (List.mem_of_mem_take hr) q hq;omega
theorem HH{α β:Type}(g:List α->List β)(hg:∀r,(g r).length=r.length):∀M:List (List α),gv (M.map g)=gv M
 |[]=>rfl
 |r::M=>hg r
theorem Ir(hlen:fe n M)(hcol:0<M.length∨n=0):gv (M.map jO)=n:=by
 rw[HH jO fun r=>BE r]
 cases M with
 |nil=>
  rcases hcol with h|h
  ·exact absurd h (Nat.lt_irrefl 0)
  ·exact h.symm
 |cons r M=>exact hlen r aJ
section
variable{S:Nat->Prop}{w:World}{v u:Value}{M:List (List Rat)}{b:List Rat}{n h0:Nat}
theorem HI(hlen:fe n M)(hc:gv (M.map jO)=n):∀r∈M.map jO,r.length=gv (M.map jO):=fun r hr=>by
 obtain⟨x,hx,rfl⟩:=aT.1 hr;rw[hc,BE];exact hlen x hx
theorem KD(hB:∀c,c<=n->Ht (cN M c).1 h0):Ht M h0:=hB 0 (aP _)
theorem Is(h:cR w S v M)(hq:Ht M h0)(hh:3*h0<=90000):eD w S v (kA (M.map Ex.jO)):=by
 rw[FM];exact h.l fun r hr q hq2=>by have:=hq r hr q hq2;omega
theorem FN(hS:Old S w)(h:cR w S v M)(hlen:fe n M)(hcol:0<M.length∨n=0)(hR:M.length<=1000)(hn:n<=1000)(hB:∀c,c<=n->Ht (cN M c).1 h0)(hh:3*h0<=90000):
  dm PG N.nM #[v] w (eB w fun v' w2=>cR w2 (Nf w w2) v' (cT M n)):=by
 have hc:=Ir hlen hcol;refine(FH (h0:=h0) hS h.jO (Is h (KD hB) hh) (HI hlen hc) (by rw[aL];exact hR) (by rw[hc];exact hn) (by rw[hc,FM];exact hB) hh).mono fun e w2 ⟨v2,e1,e2,e3⟩=>⟨v2,e1,e2,by rw[FM,hc]at e3;exact e3⟩
end
theorem FrS.NA(h:FrS f):0<3*f.nodes.length∨f.cols=0:=by
 rcases bJ f.nodes.length with h0|h0
 ·right;have h1:f.bars=[]:=List.eq_nil_iff_forall_not_mem.2 fun b hb=>by
   obtain⟨ka,kb,_,_,h3,_⟩:=h.Jg b hb;omega
  have h2:f.cU=[]:=List.eq_nil_iff_forall_not_mem.2 fun s hs=>by
   have:=(h.sup s hs).1;omega
  unfold eh.cols;rw[h1,h2];rfl
 ·left;omega
theorem Dq{w:World}{vn vb vs:Value}(hS:Old S w)(hf:dV w S vn vb vs f)(herr:eK f=0)(hfs:FrS f):
  dm PG N.ov #[.agg #[vn,vb,vs]] w (eB w fun v' w2=>cR w2 (Nf w w2) v' (cT (cQ f) f.cols)):=by
 have hw:cV w.heap.size w w:=cV.refl;obtain⟨an,cn,ab,cb,aq,cq,rfl,rfl,rfl,hmn,hmb,hms⟩:=hf.shape;have hcols:f.cols=f.bars.length+f.cU.length:=rfl;have htl:=j1 f;have hc18:=hfs.IG;have hr12:=hfs.Kz;have hlen:=ff f;refine tE (by simp) ?_;refine cC (cE hw (fun _ w' v w2=>wX w2 (Nf w' w2) v (gw f)∧Ep (gw f) 2000000) (fun O w' r=>HG (oS hS r) (hf.cG (kS hw r hS)) herr) ?_);rintro O wa1 v1 wb1 iv1 r he hw h_ ⟨hn,hzb⟩;have hZ:=wX.c9 (S:=fun _=>False) hn r.cD (mN h_);obtain⟨az,cz,rfl,-,-⟩:=de.shape hZ;refine cC (cE hw (fun _ w' v w2=>cR w2 (Nf w' w2) v (cQ f)) (fun O w' r=>KC (Rel.old r (cB w)) (wX.rel hZ r (cB w)) (by rw[<-aL (f:=dK)];exact a9 hr12 (by decide)) (fun l hl=>by rw[k6 f _ l hl];omega) (fun l hl z hz=>by have:=hzb l hl z hz;omega)) ?_);rintro O wa2 v2 wb2 iv2 r he hw h_ hn;have hM:=cR.c9 (S:=fun _=>False) hn r.cD (mN h_);obtain⟨am,cm,rfl,-,-⟩:=de.shape hM;refine cC (cE hw (fun _ w' v w2=>cR w2 (Nf w' w2) v (cT (cQ f) f.cols)) (fun O w' r=>FN (h0:=20) (Rel.old r (cB w)) (cR.rel hM r (cB w)) hlen (by rw[htl];exact hfs.NA) (by omega) (by omega) (fun c hc=>hfs.ht hc) (by decide)) ?_);rintro O wa3 v3 wb3 iv3 r he hw h_ hn;have hK:=cR.c9 (S:=fun _=>False) hn r.cD (mN h_);obtain⟨ak,ck,rfl,-,-⟩:=de.shape hK;intro ρe we re;exact⟨_,rfl,hw.tr re.cM,cR.cI (cR.rel hK re (cB w)) fun g hg=>Cv.nw hg re⟩
theorem La{w:World}(hl:jM w S vl l):dm PG N.Aj #[vl] w (eB w fun v' _=>∃d,v'= .bool d):=by
 have hw:cV w.heap.size w w:=cV.refl;obtain⟨al,cl,rfl,-,hml⟩:=hl.shape;refine Be (by simp) ?_;refine dI.mk (fun h1=>?_) (fun h1=>?_)
 ·conv=>whnf
  intro ρe we re;exact⟨_,rfl,hw.tr re.cM,_,rfl⟩
 refine dI.mk (fun h1=>?_) (fun h1=>?_)
 ·conv=>whnf
  intro ρe we re;exact⟨_,rfl,hw.tr re.cM,_,rfl⟩
 intro ρe we re;exact⟨_,rfl,hw.tr re.cM,_,rfl⟩
theorem AD{w:World}{vn vb vs:Value}(hS:Old S w)(hf:dV w S vn vb vs f)(hl:jM w S vl l):dm PG N.mY #[.agg #[vn,vb,vs],vl] w (eB w fun v' _=>v'= .int .i64 (tW f.nodes.length l)):=by
 have hw:cV w.heap.size w w:=cV.refl;obtain⟨an,cn,ab,cb,aq,cq,rfl,rfl,rfl,hmn,hmb,hms⟩:=hf.shape;obtain⟨al,cl,rfl,hcl,hml⟩:=hl.shape;unfold maxLen at hml;refine qQ (by simp) ?_;refine dI.mk (fun h1=>?_) (fun h1=>?_)
 ·have h1:=aI h1;intro ρe we re;exact⟨_,rfl,hw.tr re.cM,by show Value.int .i64 _=_;rw[tW,if_pos (by omega)]⟩
 have h1:=aH h1
 refine⟨Nat×World×Iv,fun z=>⟨[(1,.o (.v (.slice al l.length cl))),(2,.o (.p 0 0)),(5,.o (.v (.int .i64 ((z.1:Nat):Int))))],[(0,.box T.Frame [.v (.slice an f.nodes.length cn),.v (.slice ab f.bars.length cb),.v (.slice aq f.cU.length cq)])],1,z.2.2,z.2.1⟩,fun z=>l.length-z.1,
  fun z=>z.1<=l.length∧cV w.heap.size w z.2.1∧tW f.nodes.length l=eX (fun _=>jD f.nodes.length) (l.take z.1) (l.drop z.1),?_,?_⟩
 ·intro O w' r3;exact⟨(0,w',[]),⟨aP _,hw.tr r3.cM,by rw[tW,aK (by omega)];rfl⟩,Sub.gn [] r3⟩
 clear hw;rintro⟨i,w1,iv⟩ ⟨hi,hw,hE⟩;dsimp only at hi hw hE ⊢;refine dI.mk (fun hib=>?_) (fun hib=>?_)
 ·have hib:i<l.length:=by simpa using hib
  obtain⟨x,hx⟩:∃x,l[i]? =some x:=⟨_,aB hib⟩
  obtain⟨adx,cs,hax,hP,-,hlx⟩:=hl.load (by decide) hx;have hP:cs=[.int .i64 x.1,.int .i64 x.2.1,.int .i64 x.2.2.1,.int .i64 x.2.2.2]:=hP;subst hP;refine cJ hτ db [.x 0,.x 1,.x 2,.x 3,.x 4,.x 5,.x 6,.x 7] (by kernel_rfl) (by kernel_rfl) ?_;refine⟨adx,hax,by omega,.int .i64 x.1,fun O w' r=>?_,?_⟩
  ·obtain⟨k1,k2⟩:=hlx 0 _ rfl;rw[cH (w:=w) (w2:=w') (by simp only[dQ];exact(hw.tr r.cM).block _ (hS _ k1))];simp only[aF,ku]at k2 ⊢;exact k2
  refine cE hw (fun _ w' v w2=>∃d,v= .bool d∧(d=true↔iV f.nodes.length x.1)) (fun O w' r=>qG _ _ _ _ _ _ _ _ _ _ w') ?_;rintro O wa1 v1 wb1 iv1 r he hw h_ ⟨d,rfl,hd⟩;clear r
  cases d
  ·have hc:jD f.nodes.length x=6:=by
    unfold jD;rw[aK fun h=>by have:=hd.2 h;cases this]
   intro ρe we re;exact⟨_,rfl,hw.tr re.cM,by show Value.int .i64 _=_;rw[hE,cS hx hc (by decide)]⟩
  have hd:=hd.1 rfl;refine⟨adx,hax,by omega,[.int .i64 x.1,.int .i64 x.2.1,.int .i64 x.2.2.1,.int .i64 x.2.2.2],rfl,rdO hlx hw hS,?_⟩;refine cC (cE hw (fun _ w' v w2=>∃d,v= .bool d∧(d=true↔J9 x.2)) (fun O w' r=>HD x w') ?_);rintro O wa2 v2 wb2 iv2 r he hw h_ ⟨d2,rfl,hd2⟩;clear r
  cases d2
  ·have hc:jD f.nodes.length x=2:=by
    unfold jD;rw[if_pos hd,aK fun h=>by have:=hd2.2 h;cases this]
   intro ρe we re;exact⟨_,rfl,hw.tr re.cM,by show Value.int .i64 _=_;rw[hE,cS hx hc (by decide)]⟩
  have hd2:=hd2.1 rfl;have hc:jD f.nodes.length x=0:=by
   unfold jD;rw[if_pos hd];exact if_pos hd2
  rw[gA hx hc]at hE;refine⟨((i+1:Nat):Int),wo,?_⟩;intro ρ3 w6 r3;exact⟨(i+1,w6,_),⟨hib,hw.tr r3.cM,hE⟩,Sub.gn [] r3,by dsimp only;omega⟩
 have hib:i=l.length:=aR hi (by simpa using hib);rw[iK (by omega)]at hE;intro ρe we re;exact⟨_,rfl,hw.tr re.cM,by show Value.int .i64 _=_;rw[hE]⟩
theorem Lb(h:eK f≠0∨f.nodes.length<=4∧f.bars.length<=6)(h0:eK f=0):FrS f:=⟨Kx h0,(h.resolve_left fun e=>e h0).1,(h.resolve_left fun e=>e h0).2⟩
theorem Iw{t:Int}(h:Ju s t)(ht:0<=t)(j:Nat): -t<=s.getD j 0∧s.getD j 0<=t:=by
 rcases aQ j s.length with hj|hj
 ·rw[getD_some (aB hj)];exact h _ (aX hj)
 ·rw[List.getD,List.getElem?_eq_none hj];show -t<=0∧0<=t;omega
theorem BG{s:List Int}{x:Ld}{t:Int}(h:Ju s t)(ht:0<=t)(hx:(-1000000<=x.2.1∧x.2.1<=1000000)∧(-1000000<=x.2.2.1∧x.2.2.1<=1000000)∧(-1000000<=x.2.2.2∧x.2.2.2<=1000000)):∀k,k<=3->Ju (gl s x k) (t+1000000*(k:Int))
 |0,_=>by rw[gl];simpa using h
 |k+1,hk=>by
  have ih:=BG h ht hx k (by omega);have hd: -1000000<=(LM x).getD k 0∧(LM x).getD k 0<=1000000:=by
   rcases(show k=0∨k=1∨k=2 by omega)with rfl|rfl|rfl
   ·exact hx.1
   ·exact hx.2.1
   ·exact hx.2.2
  have hg:=Iw ih (by omega) (3*x.1+k).toNat;rw[gl,Fb];exact ih.set (by omega) (by omega)
theorem BH{n:Nat}{l:List Ld}(hok:De n l):∀i,i<=l.length->Ju (gY n l i) (3000000*(i:Int))
 |0,_=>fun z hz=>by rw[bV hz];decide
 |i+1,hi=>by
  have ih:=BH hok i (by omega);have hm:l.getD i (0,0,0,0)∈l:=by rw[getD_some (aB (show i<l.length by omega))];exact aX _
  have:=BG ih (by omega) (hok.ld _ hm).2 3 (aG _);rw[gY];intro z hz;have:=this z hz;omega
end Go.Ex
namespace Go.Ex
variable{M:List (List Rat)}{l:Nat}{g:Nat->Rat}{D p q:Rat}
structure uF(f:eh):Prop extends FrS f where
 fx:∀q∈cW f,rl q<=3
def Bl(b:List Rat):Prop:=∀t,Ib 1000000000 (b.getD t 0)
theorem Ib.w{B:Nat}(h:Ib B q)(k:B<=wt l):Ib (wt l) q:=h.mono k
theorem uG(a b:Nat)(h:a+b<=l):wt a*wt b<=wt l:=by rw[<-BY];exact A2 h
theorem Ib.zg{a b:Nat}(h:Ib (wt a) p)(k:Ib (wt b) q)(hl:a+b<=l):Ib (wt l) (p*q):=(h.mul k).mono (uG a b hl)
theorem Ib.up{a:Nat}(h:Ib (wt a) p)(hl:a<=l):Ib (wt l) p:=h.mono (A2 hl)
theorem Ib.Lz{a n:Nat}(hn:n<=18)(h:∀k,k<n->Ib (wt a) (g k))(hl:a+1<=l):Ib (wt l) (cZ g n):=
 (Ib.sum n h).mono (a9 (Nat.mul_le_mul_right _ (a9 hn (by decide:18<=wt 1))) (uG 1 a (by omega)))
theorem Den.mono{K L:Nat}{l:List Rat}(h:Den K D l)(k:K<=L):Den L D l:=⟨h.1,h.2.1.mono k,fun t=>(h.2.2 t).mono k⟩
theorem E5.mono{K L:Nat}(h:E5 K D M)(k:K<=L):E5 L D M:=⟨h.1,h.2.1.mono k,fun i t=>(h.2.2 i t).mono k⟩
theorem Fq{k n R m:Nat}(hn:n<=R)(hR:R<=4294967295)(hl:k+1<=l)(hm:l*R+1<=m):ln (fB (wt k) n)<=m∧fB (wt k) n<=wt m:=by
 have h1:=KY (B:=wt k) (l:=l) hn (a9 (Nat.mul_le_mul_right _ (a9 hR (by decide:4294967295<=wt 1))) (uG 1 k (by omega)));have h2:l*n+1<=m:=a9 (Nat.succ_le_succ (bW _ hn)) hm;exact⟨a9 h1 h2,Nat.le_of_lt (fg.1 (a9 h1 h2))⟩
section
variable{f:eh}{b x x0 c u:List Rat}
theorem FrS.Fs(h:FrS f)(hb:Bl b):C3 (dq (cQ f) b) (f.cols+1) (wt 1):=fun j hj=>by
 rw[ef]at hj;have hw:=fun t=>kO (b:=b) (t:=t) (ff f) hj;refine⟨1,by decide,Ib.one od,fun t ht=>?_⟩;rw[bu];rcases aQ t f.cols with h1|h1
 ·rw[(hw t).1 h1];exact(h.B2 j t).w (by decide)
 ·rw[show t=f.cols by omega,(hw 0).2];exact(hb j).w (by decide)
theorem FrS.II(h:FrS f):ln (fB (wt 1) (dq (cQ f) b).length)<=25:=by
 rw[ef];exact(Fq (l:=2) h.Kz (by decide) (by decide) (by decide)).1
theorem FrS.MA(h:FrS f)(hb:Bl b)(h0:gR (cQ f) b f.cols=some x0):∃D,Den (wt 25) D x0:=by
 obtain⟨D,hD⟩:=yK (ff f) (h.Fs hb) od h0;exact⟨D,hD.mono (Fq (l:=2) h.Kz (by decide) (by decide) (by decide)).2⟩
theorem FrS.M7(h:FrS f):∃D,E5 (wt 13) D (cT (cQ f) f.cols):=by
 obtain⟨D,hD⟩:=Je (ff f) h.s3 (by decide);exact⟨D,hD.mono (Nat.le_of_lt (fg.1 h.size))⟩
theorem FrS.KZ(h:FrS f):(cT (cQ f) f.cols).length<=18:=by
 have h1:=yJ (ff f);have h2:=h.IG;omega
theorem yS(f:eh):(cW f).length=f.cols:=by simp[cW,eh.cols]
theorem uF.M8(h:uF f):Den (wt 54) (lK (cW f) 18) (cW f):=IA (by rw[yS];exact h.IG) h.fx
theorem uF.IJ(h:uF f)(hx:∃D,Den (wt 25) D x0):C3 (dq (eM (cT (cQ f) f.cols) (cW f)) (gE (cT (cQ f) f.cols) (cW f) x0)) ((cT (cQ f) f.cols).length+1) (wt 106):=fun i hi=>by
 rw[ef,eM,aL]at hi;obtain⟨D0,a1,a2,a3⟩:=hx;obtain⟨D1,b1,b2,b3⟩:=h.M7;obtain⟨c1,c2,c3⟩:=h.M8;have hn:=h.IG;have hw:=fun t=>kO (b:=gE (cT (cQ f) f.cols) (cW f) x0) (t:=t) (nI (cT (cQ f) f.cols) (cW f)) (j:=i) (by rw[eM,aL];exact hi);refine⟨lK (cW f) 18*(D1*D1)*D0,xC (xC c1 (xC b1 b1)) a1,(((c2.zg (b2.zg b2 (aG _)) (aG _)).zg a2 (by decide))),fun t ht=>?_⟩;rcases aQ t (cT (cQ f) f.cols).length with h1|h1
 ·rw[(hw t).1 h1,uC _ _ _ hi h1];unfold Fm oG;rw[<-eN];refine Ib.Lz hn (fun k _=>?_) (aG _);rw[show lK (cW f) 18*(D1*D1)*D0*((cW f).getD k 0*(dG (cT (cQ f) f.cols) i k*dG (cT (cQ f) f.cols) t k))=(lK (cW f) 18*(cW f).getD k 0)*((D1*dG (cT (cQ f) f.cols) i k)*(D1*dG (cT (cQ f) f.cols) t k))*D0 by grind];exact((c3 k).zg ((b3 i k).zg (b3 t k) (aG _)) (aG _)).zg a2 (by decide)
 ·rw[show t=(cT (cQ f) f.cols).length by omega,(hw 0).2,DK _ _ _ _ hi];unfold oG;rw[show lK (cW f) 18*(D1*D1)*D0* -(cZ (fun t=>(cW f).getD t 0*(dG (cT (cQ f) f.cols) i t*x0.getD t 0)) f.cols)= -(lK (cW f) 18*(D1*D1)*D0*cZ (fun t=>(cW f).getD t 0*(dG (cT (cQ f) f.cols) i t*x0.getD t 0)) f.cols) by grind,<-eN];refine(Ib.Lz hn (fun k _=>?_) (aG _)).neg;rw[show lK (cW f) 18*(D1*D1)*D0*((cW f).getD k 0*(dG (cT (cQ f) f.cols) i k*x0.getD k 0))=(lK (cW f) 18*(cW f).getD k 0)*((D1*dG (cT (cQ f) f.cols) i k)*D1)*(D0*x0.getD k 0) by grind];exact((c3 k).zg ((b3 i k).zg b2 (aG _)) (aG _)).zg (a3 k) (by decide)
theorem uF.Ft(h:uF f){b:List Rat}:ln (fB (wt 106) (dq (eM (cT (cQ f) f.cols) (cW f)) b).length)<=1927:=by
 rw[ef,eM,aL];exact(Fq (l:=107) h.KZ (by decide) (by decide) (by decide)).1
theorem uF.LB(h:uF f)(hx:∃D,Den (wt 25) D x0)(hc:gR (eM (cT (cQ f) f.cols) (cW f)) (gE (cT (cQ f) f.cols) (cW f) x0) (cT (cQ f) f.cols).length=some c):∀q∈c,rl q<=1927:=fun q hq=>by
 obtain⟨D,hD⟩:=yK (nI _ _) (h.IJ hx) od hc;have h1:=hD.rl q hq;have h2:=h.Ft (b:=[]);rw[ef]at h2;omega
theorem IK(h:rl q<=3):Ib (wt 3) (q.den:Rat):=⟨(q.den:Int),rfl,by have:=(Fk h).2;omega⟩
theorem LC(h:rl q<=3):Ib (wt 3) ((q.den:Rat)*q):=by rw[Fj];exact⟨q.num,rfl,Nat.le_of_lt (Fk h).1⟩
theorem Ji(q:Rat):(q.den:Rat)≠0:=fun e=>by
 have:((q.den:Int):Rat)=((0:Int):Rat):=e;exact q.den_nz (by have:=Rat.intCast_inj.1 this;omega)
theorem uF.MT(h:uF f){t:Nat}(ht:t<f.cols):rl ((cW f).getD t 0)<=3:=by
 have hl:t<(cW f).length:=by rw[yS];exact ht
 rw[getD_some (aB hl)];exact h.fx _ (aX hl)
theorem uF.Jj(h:uF f)(hb:Bl b)(hbl:b.length=(cQ f).length):C3 (dq (jW (cQ f) f.cols (cW f)) (b++uB f.cols)) ((cQ f).length+f.cols+1) (wt 4):=fun j hj=>by
 rw[ef,iO]at hj;have hw:=fun t=>kO (b:=b++uB f.cols) (t:=t) (qC (ff f) (cW f)) (j:=j) (by rw[iO];exact hj);rcases aQ j (cQ f).length with h2|h2
 ·refine⟨1,by decide,Ib.one od,fun t ht=>?_⟩;rw[bu];rcases aQ t ((cQ f).length+f.cols)with h1|h1
  ·rw[(hw t).1 h1];rcases aQ t (cQ f).length with h3|h3
   ·rw[(B3 h2).1 h3];exact Ib.zero _
   ·obtain⟨s,rfl⟩:∃s,t=(cQ f).length+s:=⟨t-(cQ f).length,by omega⟩
    rw[(B3 (t:=s) h2).2];exact((h.B2 j s).w (by decide:2000000<=wt 1)).up (by decide)
  ·rw[show t=(cQ f).length+f.cols by omega,(hw 0).2,oe];exact((hb j).w (by decide:1000000000<=wt 1)).up (by decide)
 ·obtain⟨k,rfl⟩:∃k,j=(cQ f).length+k:=⟨j-(cQ f).length,by omega⟩
  have hk:k<f.cols:=by omega
  have hq:=h.MT hk;refine⟨(((cW f).getD k 0).den:Rat),Ji _,(IK hq).up (by decide),fun t ht=>?_⟩;rcases aQ t ((cQ f).length+f.cols)with h1|h1
  ·rw[(hw t).1 h1];rcases aQ t (cQ f).length with h3|h3
   ·rw[(yQ (t:=t) hk).1 h3];exact(IK hq).zg ((h.B2 t k).w (by decide:2000000<=wt 1)) (by decide)
   ·obtain⟨s,rfl⟩:∃s,t=(cQ f).length+s:=⟨t-(cQ f).length,by omega⟩
    rw[(yQ (t:=s) hk).2 (by omega)];split
    ·exact(LC hq).up (by decide)
    ·rw[bC];exact Ib.zero _
  ·rw[show t=(cQ f).length+f.cols by omega,(hw 0).2,oe,iZ (l:=b) (by omega),bC];exact Ib.zero _
theorem uF.LD(h:uF f)(hb:Bl b)(hbl:b.length=(cQ f).length)(hx:mV (cQ f) f.cols (fun t=>(cW f).getD t 0) b x):∃D,Den (wt 151) D x:=by
 obtain⟨u,hu⟩:=hx.M6 (ff f);obtain⟨s1,s2⟩:=IE (ff f) hbl hx hu;obtain⟨z,hz⟩:=A9 (qC (ff f) (cW f)) s2;have h1:=IF (ff f) hbl hz;have h2:=h.Gf.one hx h1;obtain⟨D,d1,d2,d3⟩:=yK (qC (ff f) (cW f)) (h.Jj hb hbl) od hz;have h3:fB (wt 4) (jW (cQ f) f.cols (cW f)).length<=wt 151:=by
  rw[iO];have h1:=h.IG;have h2:=h.Kz;exact(Fq (l:=5) (R:=30) (by omega) (by decide) (by decide) (by decide)).2
 refine⟨D,d1,d2.mono h3,fun t=>?_⟩;rw[h2,List.getD,List.getElem?_drop,<-List.getD];exact(d3 _).mono h3
theorem uF.MB(h:uF f)(hb:Bl b)(hbl:b.length=(cQ f).length)(hx:mV (cQ f) f.cols (fun t=>(cW f).getD t 0) b x):∀q∈x,rl q<=152:=fun q hq=>by
 obtain⟨D,hD⟩:=h.LD hb hbl hx;have:=hD.rl q hq;have h2:ln (wt 151)<=152:=fg.2 (F6 (by decide));omega
end
end Go.Ex
