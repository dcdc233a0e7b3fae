/- A part of the proof: texts X142 to X148. Each tells its conditions in its theorems. -/
import Derived.Test.YtkdcaknoaeicdaaGreatP11
namespace Go.Ex
open Go Go.Sx Go.Proofs
def Fh(x:Ld):List Int:=[x.2.1,x.2.2.1,x.2.2.2]
def eu(s:List Int)(x:Ld):Nat->List Int
 |0=>s
 |k+1=>B6 (eu s x k) (3*x.1+k).toNat ((Fh x).getD k 0)
def eL(n:Nat)(l:List Ld):Nat->List Int
 |0=>List.replicate (3*n) 0
 |i+1=>eu (eL n l i) (l.getD i (0,0,0,0)) 3
def e9(f:eX)(l:List Ld):List Rat:=cK (eL f.nodes.length l l.length)
structure qS(n:Nat)(l:List Ld):Prop where
 len:l.length<=200
 ld:∀x∈l,(0<=x.1∧x.1<n)∧(-1000000<=x.2.1∧x.2.1<=1000000)∧(-1000000<=x.2.2.1∧x.2.2.1<=1000000)∧(-1000000<=x.2.2.2∧x.2.2.2<=1000000)
theorem pA(s:List Int)(x:Ld):∀k,(eu s x k).length=s.length
 |0=>rfl
 |k+1=>by rw[eu,B6,bC];exact pA s x k
theorem iA(n:Nat)(l:List Ld):∀i,(eL n l i).length=3*n
 |0=>bR ..
 |i+1=>by rw[eL,pA];exact iA n l i
theorem js{s:List Int}{x:Ld}{k j:Nat}{d z:Int}(e:3*x.1+(k:Int)=j)(hd:(Fh x).getD k 0=d)(hz:(eu s x k)[j]? =some z):(eu s x k).set j (z+d)=eu s x (k+1):=by
 rw[eu,B6,hd,e,aB,show(eu s x k).getD j 0=z by rw[List.getD,hz];rfl]
def EV(s:List Int)(t:Int):Prop:=∀z∈s,-t<=z∧z<=t
theorem EV.set{s:List Int}{t t2 z:Int}{j:Nat}(h:EV s t)(ht:t<=t2)(hz: -t2<=z∧z<=t2):EV (s.set j z) t2:=fun y hy=>by
 rcases bS hy with hy|rfl
 ·have:=h y hy;omega
 ·exact hz
def zv(l:List Int):List Value:=l.map fun z=>.int .i64 z
theorem yX(l:List Int):(zv l).length=l.length:=aK ..
theorem xT{l:List Int}{j:Nat}{z:Int}(h:l[j]? =some z):(zv l)[j]? =some (.int .i64 z):=by rw[zv,aN,h];rfl
theorem yY{l:List Int}{j:Nat}{z:Int}(h:j<l.length):(zv l).take j++[.int .i64 z]++(zv l).drop (j+1)=zv (l.set j z):=by
 rw[zv,zv,List.map_set];exact iC (by rw[aK];exact h)
theorem qT(f:eX):(jM f).length=f.cols:=by simp[jM,eX.cols]
theorem cS.FI{S:Nat->Prop}{w:World}{css:List (List Value)}{qs:List Rat}{cs:List Value}{q:Rat}(h:css.length=qs.length∧∀(j:Nat) cs q,css[j]? =some cs->qs[j]? =some q->jW w S cs q)(hc:jW w S cs q):
  (css++[cs]).length=(qs++[q]).length∧∀(j:Nat) c p,(css++[cs])[j]? =some c->(qs++[q])[j]? =some p->jW w S c p:=by
 refine⟨by simp[h.1],fun j x p h1 h2=>?_⟩;rcases bA j css.length with hi|hi
 ·rw[aJ hi]at h1;rw[aJ (by rw[<-h.1];exact hi)]at h2;exact h.2 j x p h1 h2
 ·have hi0:j=css.length:=by have:=(aE.1 h1).1;simp at this;omega
  subst hi0;rw[aT (aI _),bP]at h1;rw[h.1,aT (aI _),bP]at h2;simp at h1 h2;subst h1 h2;exact hc
set_option maxHeartbeats 1000000 in
theorem rQ{S:Nat->Prop}{w:World}{vl vb vs:Value}{an:Option Addr}{cn:Nat}{f:eX}{l:List Ld}(hS:Old S w)(hl:eh w S vl l)(hn20:f.nodes.length<=20)(hok:qS f.nodes.length l)
  {ab aq:Option Addr} {nb cb nq cq:Nat} (hvb:vb= .slice ab nb cb) (hvs:vs= .slice aq nq cq):
  dQ PG N.ma #[.agg #[.slice an f.nodes.length cn,vb,vs],vl] w (dU w fun v' w2=>dK w2 (fun _=>False) w.heap.size [(w.heap.size,w2.heap.size)] v' (3*f.nodes.length) (e9 f l)∧∀q∈e9 f l,rl q<=1):=by
 subst hvb hvs;have hw:cF w.heap.size w w:=cF.refl;obtain⟨al,cl,rfl,hcl,hml⟩:=hl.shape;have hl200:=hok.len;refine qG (by simp) ?_;conv=>whnf
 refine⟨((3*f.nodes.length:Nat):Int),by rw[wrap64]<;>omega,?_⟩;conv=>whnf
 obtain⟨m,hm⟩:∃m,3*f.nodes.length=m:=⟨_,rfl⟩
 rw[hm];refine⟨m,m,rfl,rfl,aI _,by omega,by omega,?_⟩;conv=>whnf
 refine⟨Nat×World,fun z=>⟨[(5,.o (.s 1 0 m m)),(18,.o (.v (.slice al l.length cl))),(19,.o (.v (.int .i64 l.length))),(20,.o (.v (.int .i64 ((z.1:Nat):Int))))],[(1,.arr T.int (zv (eL f.nodes.length l z.1)))],2,[],z.2⟩,fun z=>l.length-z.1,
  fun z=>z.1<=l.length∧cF w.heap.size w z.2∧EV (eL f.nodes.length l z.1) (3000000*z.1),?_,?_⟩
 ·intro ρ w' r3;exact⟨(0,w'),⟨aO _,hw.tr r3.bs,fun z hz=>by rw[eL]at hz;rw[bF hz];exact⟨Int.le_refl _,Int.le_refl _⟩⟩,Sub.gen [] r3 ⟨by dsimp only;rw[eL,hm,zv,List.map_replicate];rfl,trivial⟩ ⟨rfl,rfl,rfl,rfl,trivial⟩ (by simp[cY,cN.scopd,At.sc]) (by simp[cO,SV.sc,At.sc,cJ]) (by rfl) (fun lo hi h=>h)⟩
 clear hw;rintro⟨i,w1⟩ ⟨hi,hw,hbd⟩;dsimp only at hi hw hbd ⊢;conv=>whnf
 refine cW.mk (fun hib=>?_) (fun hib=>?_)
 ·have hib:i<l.length:=by simpa using hib
  obtain⟨x,hx⟩:∃x,l[i]? =some x:=⟨_,aA hib⟩
  obtain⟨hn,hx1,hx2,hx3⟩:=hok.ld x (aD hx);obtain⟨kn,hkn⟩:=Int.eq_ofNat_of_zero_le hn.1;obtain⟨adx,cs,hax,hP,-,hlx⟩:=hl.load (by decide) hx;have hP:cs=[.int .i64 x.1,.int .i64 x.2.1,.int .i64 x.2.2.1,.int .i64 x.2.2.2]:=hP;subst hP;conv=>whnf
  refine⟨adx,hax,⟨by omega,by omega⟩,?_⟩;conv=>whnf
  refine⟨[.int .i64 x.1,.int .i64 x.2.1,.int .i64 x.2.2.1,.int .i64 x.2.2.2],rfl,fun ρ w' r j u hu=>?_,?_⟩
  ·obtain⟨k1,k2⟩:=hlx j u hu;rw[aB,bo (w:=w) (w2:=w') (by rw[cC,cC];exact(hw.tr r.bs).block _ (hS _ k1))];exact k2
  conv=>whnf
  refine⟨Nat×World,fun z=>⟨[(5,.o (.s 1 0 m m)),(7,.o (.p 2 0)),(30,.a [.v (.int .i64 x.2.1),.v (.int .i64 x.2.2.1),.v (.int .i64 x.2.2.2)]),(31,.o (.v (.int .i64 ((z.1:Nat):Int)))),(18,.o (.v (.slice al l.length cl))),(19,.o (.v (.int .i64 l.length))),(20,.o (.v (.int .i64 ((i:Nat):Int))))],[(2,.box T.Gg [.v (.int .i64 x.1),.v (.int .i64 x.2.1),.v (.int .i64 x.2.2.1),.v (.int .i64 x.2.2.2)]),(1,.arr T.int (zv (eu (eL f.nodes.length l i) x z.1)))],3,[],z.2⟩,fun z=>3-z.1,
   fun z=>z.1<=3∧cF w.heap.size w z.2∧EV (eu (eL f.nodes.length l i) x z.1) (3000000*i+1000000*z.1),?_,?_⟩
  ·intro ρ w' r3;exact⟨(0,w'),⟨aO _,hw.tr r3.bs,hbd⟩,Sub.gen [] r3 ⟨rfl,rfl,trivial⟩ ⟨rfl,rfl,rfl,rfl,rfl,rfl,rfl,trivial⟩ (by simp[cY,cN.scopd,At.sc]) (by simp[cO,SV.sc,At.sc,cJ]) (by rfl) (fun lo hi h=>h)⟩
  clear hw hbd;rintro⟨k,w3⟩ ⟨hk,hw,hbd⟩;dsimp only at hk hw hbd ⊢;conv=>whnf
  refine cW.mk (fun hkb=>?_) (fun hkb=>?_)
  ·have hkb:k<3:=by have:=aG hkb;omega
   obtain⟨d,hd⟩:∃d,(Fh x).getD k 0=d:=⟨_,rfl⟩
   have hdb: -1000000<=d∧d<=1000000:=by
    rw[<-hd,Fh];rcases(show k=0∨k=1∨k=2 by omega)with rfl|rfl|rfl<;>simp[List.getD]<;>omega
   have hLl:(eu (eL f.nodes.length l i) x k).length=m:=by rw[pA,iA,hm]
   obtain⟨z,hz⟩:∃z,(eu (eL f.nodes.length l i) x k)[3*kn+k]? =some z:=⟨_,aA (by omega)⟩
   have hzb:=hbd z (aD hz);have hej:3*x.1+(k:Int)=((3*kn+k:Nat):Int):=by omega
   have hnx:=js hej hd hz;have hbd2:=hbd.set (j:=3*kn+k) (z:=z+d) (t2:=3000000*i+1000000*(k+1:Nat)) (by omega) (by omega);rw[hnx]at hbd2;refine vN hτ (cs:= #[.int .i64 x.2.1,.int .i64 x.2.2.1,.int .i64 x.2.2.2]) rfl rfl rfl (fun _=>rfl) rfl ⟨by omega,by omega⟩ (u:=.int .i64 d) ?_ (fun ρ w4 r=>?_)
   ·rw[<-hd,Fh,aB];rcases(show k=0∨k=1∨k=2 by omega)with rfl|rfl|rfl<;>rfl
   replace hw:=hw.tr r.bs;clear r;conv=>whnf
   refine⟨3*x.1,by rw[wrap64]<;>omega,?_⟩;conv=>whnf
   refine⟨((3*kn+k:Nat):Int),by rw[wrap64]<;>omega,?_⟩;conv=>whnf
   refine⟨⟨by omega,by omega⟩,?_⟩;conv=>whnf
   refine⟨.int .i64 z,by rw[aB,aR,aP];exact xT hz,?_⟩;conv=>whnf
   refine⟨z+d,by rw[wrap64]<;>omega,?_⟩;conv=>whnf
   refine⟨⟨by omega,by omega⟩,?_⟩;conv=>whnf
   refine⟨by rw[yX];omega,zv (eu (eL f.nodes.length l i) x (k+1)),?_,?_⟩
   ·rw[aB,aR,aP,<-hnx];exact yY (by omega)
   conv=>whnf
   refine⟨((k+1:Nat):Int),by rw[wrap64]<;>omega,?_⟩;conv=>whnf
   intro ρ3 w6 r3;exact⟨(k+1,w6),⟨hkb,hw.tr r3.bs,hbd2⟩,Sub.gen [] r3 ⟨rfl,rfl,trivial⟩ ⟨rfl,rfl,rfl,rfl,rfl,rfl,rfl,trivial⟩ (by simp[cY,cN.scopd,At.sc]) (by simp[cO,SV.sc,At.sc,cJ]) (by rfl) (fun lo hi h=>h),by dsimp only;omega⟩
  have hkb:k=3:=by have:=aF hkb;omega
  subst hkb;have hnx:eu (eL f.nodes.length l i) x 3=eL f.nodes.length l (i+1):=by rw[eL,show l.getD i (0,0,0,0)=x by rw[List.getD,hx];rfl]
  rw[hnx]at hbd ⊢;conv=>whnf
  refine⟨((i+1:Nat):Int),by rw[wrap64]<;>omega,?_⟩;conv=>whnf
  intro ρ3 w6 r3;exact⟨(i+1,w6),⟨hib,hw.tr r3.bs,fun z hz=>by have:=hbd z hz;dsimp only;omega⟩,Sub.gen [] r3 ⟨rfl,trivial⟩ ⟨rfl,rfl,rfl,rfl,trivial⟩ (by simp[cY,cN.scopd,At.sc]) (by simp[cO,SV.sc,At.sc,cJ]) (by rfl) (fun lo hi h=>h),by dsimp only;omega⟩
 have hib:i=l.length:=aM hi (by simpa using hib);subst hib;obtain⟨s,hs⟩:∃s,eL f.nodes.length l l.length=s:=⟨_,rfl⟩
 have hsl:s.length=m:=by rw[<-hs,iA,hm]
 rw[hs]at hbd ⊢;unfold e9;rw[hs];conv=>whnf
 refine⟨m,m,rfl,rfl,aI _,by omega,by omega,?_⟩;conv=>whnf
 refine⟨Nat×List (List Value)×Iv×World,fun z=>⟨[(10,.o (.s 2 0 m m)),(51,.o (.s 1 0 m m)),(52,.o (.v (.int .i64 m))),(53,.o (.v (.int .i64 ((z.1:Nat):Int))))],[(2,.arr T.Rat z.2.1.flatten),(1,.arr T.int (zv s))],3,z.2.2.1,z.2.2.2⟩,fun z=>m-z.1,
  fun z=>z.1<=m∧cF w.heap.size w z.2.2.2∧e8 z.2.2.2 (Cv (fun _=>False) w.heap.size z.2.2.1) m z.1 z.2.1 (cK s),?_,?_⟩
 ·intro ρ w' r;exact⟨(0,List.replicate m f0,_,w'),⟨aO _,hw.tr r.bs,e8.start _ _ _ _⟩,Sub.gen [] r ⟨rfl,rfl,trivial⟩ ⟨rfl,rfl,rfl,rfl,trivial⟩ (by simp[cY,cN.scopd,At.sc]) (by simp[cO,SV.sc,At.sc,cJ]) (by rfl) (fun lo hi h=>h)⟩
 clear hw;rintro⟨i,css,iv,w1⟩ ⟨hi2,hw,hF⟩;dsimp only at hi2 hw hF ⊢;conv=>whnf
 refine cW.mk (fun hib=>?_) (fun hib=>?_)
 ·have hib:i<m:=by simpa using hib
  obtain⟨z,hz⟩:∃z,s[i]? =some z:=⟨_,aA (by omega)⟩
  have hzb:=hbd z (aD hz);conv=>whnf
  refine⟨⟨by omega,by omega⟩,?_⟩;conv=>whnf
  refine⟨.int .i64 z,by rw[aB,aR,aP];exact xT hz,?_⟩;conv=>whnf
  refine bp (cE hw (Φ:=fun _ w' v w2=>cH w2 (Nw (fun _=>False) w' w2) v (z:Rat)) (fun ρ w' r=>iQ z w' (by omega) (by omega)) ?_);rintro ρ wa1 v1 wb1 iv1 r he hw h_ hn;replace hF:=hF.bq r (bl w) he (mC h_);have hd:=hn.cQ (S:=fun _=>False) r.bm (mN h_);clear r hn;obtain⟨s1_0,s1_1,s1_2,s1_3,s1_4,s1_5,s1_6,s1_7,rfl⟩:=hd.shape;have hnext:=hF.next hib (q:=_) (by rw[cK,aN,hz];rfl) hd
  conv=>whnf
  refine⟨⟨by omega,by omega⟩,?_⟩;conv=>whnf
  refine⟨by have:=hF.flat;omega,(css.set i [.bool s1_0,.slice s1_1 s1_2 s1_3,.bool s1_4,.slice s1_5 s1_6 s1_7]).flatten,?_,?_⟩
  ·have:=gn (cs:=[.bool s1_0,.slice s1_1 s1_2 s1_3,.bool s1_4,.slice s1_5 s1_6 s1_7]) hF.four (show i<css.length by rw[hF.len];exact hib);rw[<-this];simp
  conv=>whnf
  refine⟨((i+1:Nat):Int),by rw[wrap64]<;>omega,?_⟩;conv=>whnf
  intro ρ3 w3 r3;exact⟨(i+1,css.set i [.bool s1_0,.slice s1_1 s1_2 s1_3,.bool s1_4,.slice s1_5 s1_6 s1_7],_,w3),⟨hib,hw.tr r3.bs,hnext.rel r3 (bl w)⟩,Sub.gen [] r3 ⟨rfl,rfl,trivial⟩ ⟨rfl,rfl,rfl,rfl,trivial⟩ (by simp[cY,cN.scopd,At.sc]) (by simp[cO,SV.sc,At.sc,cJ]) (by rfl) (fun lo hi h=>h),by dsimp only;omega⟩
 have hib:i=m:=aM hi2 (by simpa using hib);subst hib;conv=>whnf
 intro ρe we re
 exact⟨_,rfl,hw.tr re.bs,hF.done (by rw[cK,aK];exact hsl) (by unfold maxLen;omega) re (id:=2) rfl (re.nn 2 _ rfl (by intros;simp) (by simp)),fun q hq=>by
  obtain⟨z,hz,rfl⟩:=aS.1 hq;have:=hbd z hz
  exact rP (by omega) (by omega)⟩
set_option maxHeartbeats 1000000 in
theorem xU{S:Nat->Prop}{w:World}{vn vb vs:Value}{f:eX}(hS:Old S w)(hf:dE w S vn vb vs f)(hok:oO f):
  dQ PG N.mc #[.agg #[vn,vb,vs]] w (dU w fun v' w2=>cS w2 (Nw S w w2) v' (jM f)):=by
 have hw:cF w.heap.size w w:=cF.refl;obtain⟨an,cn,ab,cb,aq,cq,rfl,rfl,rfl,hmn,hmb,hms⟩:=hf.shape;have hf0:=hf;refine qI (by simp) ?_;conv=>whnf
 refine⟨Nat×List (List Value)×World,fun z=>⟨[(3,.o (.w 1 z.2.1.length)),(9,.o (.v (.slice ab f.bars.length cb))),(10,.o (.v (.int .i64 f.bars.length))),(11,.o (.v (.int .i64 ((z.1:Nat):Int)))),(1,.o (.p 0 0))],[(1,.vec T.Rat 4 z.2.1.flatten),(0,.box T.Frame [.v (.slice an f.nodes.length cn),.v (.slice ab f.bars.length cb),.v (.slice aq f.cG.length cq)])],2,[],z.2.2⟩,fun z=>f.bars.length-z.1,
  fun z=>z.1<=f.bars.length∧cF w.heap.size w z.2.2∧(∀cs∈z.2.1,cs.length=4)∧(z.2.1.length=((fun i=>(f.bars.take i).map (·.2.2)) z.1).length∧∀(j:Nat) cs q,z.2.1[j]? =some cs->((fun i=>(f.bars.take i).map (·.2.2)) z.1)[j]? =some q->jW z.2.2 S cs q),?_,?_⟩
 ·intro ρ w' r;exact⟨(0,[],w'),⟨aO _,hw.tr r.bs,fun cs h=>(by cases h),rfl,fun j cs q h=>by cases h⟩,Sub.nil 3 T.Rat 4 rfl (by simp[cO,SV.sc,At.sc,cJ]) r fun ρ1 r1=>Sub.gen [] r1 ⟨rfl,rfl,trivial⟩ ⟨rfl,rfl,rfl,rfl,rfl,trivial⟩ (by simp[cY,cN.scopd,At.sc]) (by simp[cO,SV.sc,At.sc,cJ]) (by rfl) (fun lo hi h=>h)⟩
 clear hw;rintro⟨k,css,w1⟩ ⟨hk,hw,hc4,hR⟩;dsimp only at hk hw hc4 hR ⊢;have hfl:=eH hc4;conv=>whnf
 refine cW.mk (fun hkb=>?_) (fun hkb=>?_)
 ·have hkb:k<f.bars.length:=by simpa using hkb
  have hb60:=hok.b;have hs60:=hok.s;obtain⟨b,hb⟩:∃b,f.bars[k]? =some b:=⟨_,aA hkb⟩
  have hnx:(fun i=>(f.bars.take i).map (·.2.2)) (k+1)=(fun i=>(f.bars.take i).map (·.2.2)) k++[b.2.2]:=by dsimp only;rw[List.take_add_one,hb];simp
  obtain⟨adb,cs,hab,hF,-,hlb⟩:=hf0.bars.load (by decide) hb;obtain⟨g0,g1,g2,g3,g4,g5,g6,g7,rfl,hF⟩:=hF;conv=>whnf
  refine⟨adb,hab,⟨by omega,by omega⟩,?_⟩;conv=>whnf
  refine⟨[.int .i64 b.1,.int .i64 b.2.1,.bool g0,.slice g1 g2 g3,.bool g4,.slice g5 g6 g7],rfl,fun ρ w' r j u hu=>?_,?_⟩
  ·obtain⟨k1,k2⟩:=hlb j u hu;rw[aB,bo (w:=w) (w2:=w') (by rw[cC,cC];exact(hw.tr r.bs).block _ (hS _ k1))];exact k2
  conv=>whnf
  have hC2:jW w1 S [.bool g0,.slice g1 g2 g3,.bool g4,.slice g5 g6 g7] b.2.2:=⟨_,_,_,_,_,_,_,_,rfl,hF.bu fun g hg=>hw.block g (hS g hg)⟩
  have hR2:=cS.FI hR hC2;rw[<-hnx]at hR2;have hfl2:css.flatten++([.bool g0,.slice g1 g2 g3,.bool g4,.slice g5 g6 g7]:List Value)=(css++([[.bool g0,.slice g1 g2 g3,.bool g4,.slice g5 g6 g7]]:List (List Value))).flatten:=by simp
  have hlen2:css.length<=200:=by rw[hR.1,aK,aW];have:=hok.b;omega
  refine .inl ?_;conv=>whnf
  refine⟨by omega,by omega,by unfold maxLen;omega,?_⟩;conv=>whnf
  refine⟨((k+1:Nat):Int),by rw[wrap64]<;>omega,?_⟩;conv=>whnf
  intro ρ3 w3 r3
  exact⟨(k+1,css++[[.bool g0,.slice g1 g2 g3,.bool g4,.slice g5 g6 g7]],w3),⟨hkb,hw.tr r3.bs,fun cs hc=>by
   rcases bT.1 hc with hc|hc
   ·exact hc4 cs hc
   ·rw[bB.1 hc];rfl,hR2.1,fun j cs q h1 h2=>(hR2.2 j cs q h1 h2).bu fun g hg=>(r3.bs).block g (hS g hg)⟩,Sub.gen [(1,4)] r3 ⟨by dsimp only;rw[<-hfl2];rfl,rfl,trivial⟩ ⟨by dsimp only;rw[List.length_append,List.length_singleton];rfl,rfl,rfl,rfl,rfl,trivial⟩ (by simp[cY,cN.scopd,At.sc]) (by simp[cO,SV.sc,At.sc,cJ]) (by rfl) (fun lo hi h=>h),by dsimp only;omega⟩
 have hkb:k=f.bars.length:=aM hk (by simpa using hkb);subst hkb;have hrl:css.length=f.bars.length:=by rw[hR.1,aK,aW];omega
 rw[ah,show f.bars.map (·.2.2)=f.bars.map (·.2.2)++(f.cG.take 0).map (·.2.2) by simp]at hR;conv=>whnf
 refine⟨Nat×List (List Value)×World,fun z=>⟨[(3,.o (.w 1 z.2.1.length)),(22,.o (.v (.slice aq f.cG.length cq))),(23,.o (.v (.int .i64 f.cG.length))),(24,.o (.v (.int .i64 ((z.1:Nat):Int))))],[(1,.vec T.Rat 4 z.2.1.flatten),(0,.box T.Frame [.v (.slice an f.nodes.length cn),.v (.slice ab f.bars.length cb),.v (.slice aq f.cG.length cq)])],2,[],z.2.2⟩,fun z=>f.cG.length-z.1,
  fun z=>z.1<=f.cG.length∧cF w.heap.size w z.2.2∧(∀cs∈z.2.1,cs.length=4)∧(z.2.1.length=((fun i=>f.bars.map (·.2.2)++(f.cG.take i).map (·.2.2)) z.1).length∧∀(j:Nat) cs q,z.2.1[j]? =some cs->((fun i=>f.bars.map (·.2.2)++(f.cG.take i).map (·.2.2)) z.1)[j]? =some q->jW z.2.2 S cs q),?_,?_⟩
 ·intro ρ w' r3;exact⟨(0,css,w'),⟨aO _,hw.tr r3.bs,hc4,hR.1,fun j cs q h1 h2=>(hR.2 j cs q h1 h2).bu fun g hg=>(r3.bs).block g (hS g hg)⟩,Sub.gen [] r3 ⟨rfl,rfl,trivial⟩ ⟨rfl,rfl,rfl,rfl,trivial⟩ (by simp[cY,cN.scopd,At.sc]) (by simp[cO,SV.sc,At.sc,cJ]) (by rfl) (fun lo hi h=>h)⟩
 clear hw hc4 hR hk hrl;rintro⟨k,css,w1⟩ ⟨hk,hw,hc4,hR⟩;dsimp only at hk hw hc4 hR ⊢;have hfl:=eH hc4;conv=>whnf
 refine cW.mk (fun hkb=>?_) (fun hkb=>?_)
 ·have hkb:k<f.cG.length:=by simpa using hkb
  have hb60:=hok.b;have hs60:=hok.s;obtain⟨b,hb⟩:∃b,f.cG[k]? =some b:=⟨_,aA hkb⟩
  have hnx:(fun i=>f.bars.map (·.2.2)++(f.cG.take i).map (·.2.2)) (k+1)=(fun i=>f.bars.map (·.2.2)++(f.cG.take i).map (·.2.2)) k++[b.2.2]:=by dsimp only;rw[List.take_add_one,hb];simp
  obtain⟨adb,cs,hab,hF,-,hlb⟩:=hf0.cG.load (by decide) hb;obtain⟨g0,g1,g2,g3,g4,g5,g6,g7,rfl,hF⟩:=hF;conv=>whnf
  refine⟨adb,hab,⟨by omega,by omega⟩,?_⟩;conv=>whnf
  refine⟨[.int .i64 b.1,.int .i64 b.2.1,.bool g0,.slice g1 g2 g3,.bool g4,.slice g5 g6 g7],rfl,fun ρ w' r j u hu=>?_,?_⟩
  ·obtain⟨k1,k2⟩:=hlb j u hu;rw[aB,bo (w:=w) (w2:=w') (by rw[cC,cC];exact(hw.tr r.bs).block _ (hS _ k1))];exact k2
  conv=>whnf
  have hC2:jW w1 S [.bool g0,.slice g1 g2 g3,.bool g4,.slice g5 g6 g7] b.2.2:=⟨_,_,_,_,_,_,_,_,rfl,hF.bu fun g hg=>hw.block g (hS g hg)⟩
  have hR2:=cS.FI hR hC2;rw[<-hnx]at hR2;have hfl2:css.flatten++([.bool g0,.slice g1 g2 g3,.bool g4,.slice g5 g6 g7]:List Value)=(css++([[.bool g0,.slice g1 g2 g3,.bool g4,.slice g5 g6 g7]]:List (List Value))).flatten:=by simp
  have hlen2:css.length<=200:=by rw[hR.1,List.length_append,aK,aK,aW];have:=hok.b;have:=hok.s;omega
  refine .inl ?_;conv=>whnf
  refine⟨by omega,by omega,by unfold maxLen;omega,?_⟩;conv=>whnf
  refine⟨((k+1:Nat):Int),by rw[wrap64]<;>omega,?_⟩;conv=>whnf
  intro ρ3 w3 r3
  exact⟨(k+1,css++[[.bool g0,.slice g1 g2 g3,.bool g4,.slice g5 g6 g7]],w3),⟨hkb,hw.tr r3.bs,fun cs hc=>by
   rcases bT.1 hc with hc|hc
   ·exact hc4 cs hc
   ·rw[bB.1 hc];rfl,hR2.1,fun j cs q h1 h2=>(hR2.2 j cs q h1 h2).bu fun g hg=>(r3.bs).block g (hS g hg)⟩,Sub.gen [(1,4)] r3 ⟨by dsimp only;rw[<-hfl2];rfl,rfl,trivial⟩ ⟨by dsimp only;rw[List.length_append,List.length_singleton];rfl,rfl,rfl,rfl,trivial⟩ (by simp[cY,cN.scopd,At.sc]) (by simp[cO,SV.sc,At.sc,cJ]) (by rfl) (fun lo hi h=>h),by dsimp only;omega⟩
 have hkb:k=f.cG.length:=aM hk (by simpa using hkb);subst hkb;conv=>whnf
 intro ρe we re;have hfull:f.bars.map (·.2.2)++(f.cG.take f.cG.length).map (·.2.2)=jM f:=by rw[ah];rfl
 rw[hfull]at hR;refine⟨_,rfl,hw.tr re.bs,css,?_,hR.1,hc4,fun j cs q k1 k2=>((hR.2 j cs q k1 k2).bu fun g hg=>(re.bs).block g (hS g hg)).bz fun g hg=>.inl hg⟩;have hcl:=hR.1
 have h5:=re.gB (id:=1) (sz:=4) (m:=css.length) rfl hfl (by have:=hok.b;have:=hok.s;rw[hcl,qT];unfold eX.cols maxLen;omega) (by decide) (fun u hu=>by
  obtain⟨cs,hc,hu⟩:=List.mem_flatten.1 hu;obtain⟨j,hj⟩:=aU hc;obtain⟨_,_,_,_,_,_,_,_,rfl,_⟩:=hR.2 j cs _ hj (aA (by rw[<-hcl];exact(aE.1 hj).1));simp at hu
  rcases hu with rfl|rfl|rfl|rfl<;>rfl)
 rw[<-hcl];exact h5.bz fun g hg=>.inr hg
theorem D9(cols h:Nat):tG [] cols h:=by
 refine⟨fun i hi r hr=>?_,fun i hi=>absurd hi (bj i)⟩;have:i=0:=Nat.le_zero.1 hi;subst this
 cases hr
theorem C0:gk [] [] 0=some []:=by decide +kernel
theorem lO.nil{w:World}{C S:Nat->Prop}:lO w C S (.slice none 0 0) []:=⟨[],⟨aO _,rfl,by simp,none,0,rfl,aI _,fun j u h=>by cases h⟩,rfl,fun i u x h=>by cases h⟩
theorem cB.Gl{w:World}{S:Nat->Prop}:cB w S (.slice none 0 0) []:=⟨[],⟨aO _,rfl,by simp,none,0,rfl,aI _,fun j u h=>by cases h⟩,rfl,by simp,fun j cs x h=>by cases h⟩
set_option maxHeartbeats 1000000 in
theorem vO{S:Nat->Prop}{w:World}{vn vb vs u:Value}{f:eX}{p:List Rat}{h:Nat}(hS:Old S w)(hf:dE w S vn vb vs f)(hok:oO f)(hp:cB w S u p)(hpl:p.length=3*f.nodes.length)(hpq:∀q∈p,rl q<=100000)(hc0:0<f.cols)
  (hB1:tG (gj (dM f) (eO p (-1))) (f.cols+1) h) (hB2:tG (dM f) f.cols h) (hA2:Ht (dF (dM f) f.cols).1 h) (hst:tU (dM f) f.cols=[]) (hh:3*h<=90000):
  dQ PG N.mZ #[.agg #[vn,vb,vs],u] w (dU w fun v' w2=>(gk (dM f) (eO p (-1)) f.cols=none∧v'= .tuple #[.slice none 0 0,.bool false])∨∃x vx,gk (dM f) (eO p (-1)) f.cols=some x∧v'= .tuple #[vx,.bool true]∧dK w2 (fun _=>False) w.heap.size [(w.heap.size,w2.heap.size)] vx f.cols x):=by
 have hw:cF w.heap.size w w:=cF.refl;obtain⟨an,cn,ab,cb,aq,cq,rfl,rfl,rfl,hmn,hmb,hms⟩:=hf.shape;obtain⟨hn20,hb60,hs60⟩:=And.intro hok.n (And.intro hok.b hok.s);have hcols:f.cols=f.bars.length+f.cG.length:=rfl;obtain⟨ap,cp,rfl,hcp,hmp⟩:=cd.shape hp;refine qF (by simp) ?_;conv=>whnf
 refine bp (cE hw (Φ:=fun _ w' v w2=>(∃vr,v= .agg #[vr,.int .i64 f.cols]∧cI w2 (Nw (fun _=>False) w' w2) vr (dM f))∧qo f.cols (dM f)∧Ht (dM f) 2) (fun ρ w' r=>lP (S:=S) (fun g hg=>by have:=hS g hg;have:=r.bm;omega) (hf.bu fun g hg=>(hw.tr r.bs).block g (hS g hg)) hok) ?_);rintro ρ wa1 v1 wb1 iv1 r he hw h_ ⟨⟨vr,rfl,k1⟩,hlen,hht⟩;have hM:=cI.cQ (S:=fun _=>False) k1 r.bm (mN h_);clear r;obtain⟨am,cm,rfl,hcm,hmm⟩:=dS.shape hM;have htl:=jr f;conv=>whnf
 refine bw hτ dH [.x 0,.x 1,.x 2,.x 3,.x 4,.x 5,.x 6,.x 7,.x 8,.x 9] (by kernel_rfl) (by kernel_rfl) ?_;conv=>whnf
 refine cE hw (Φ:=fun _ w' v w2=>cH w2 (Nw (fun _=>False) w' w2) v ((-1:Int):Rat)) (fun ρ w' r=>iQ (-1) w' (by decide) (by decide)) ?_;rintro ρ wa2 v2 wb2 iv2 r he hw h_ hn;replace hM:=cI.bq hM r (bl w) he (mC h_);have hd:=hn.cQ (S:=fun _=>False) r.bm (mN h_);clear r;obtain⟨s2_0,s2_1,s2_2,s2_3,s2_4,s2_5,s2_6,s2_7,rfl⟩:=hd.shape;conv=>whnf
 refine cE hw (Φ:=fun _ w' v w2=>dK w2 (fun _=>False) w'.heap.size [(w'.heap.size,w2.heap.size)] v p.length (eO p (-1))) (fun ρ w' r=>xQ (S:=Cv S w.heap.size iv2) (Rel.old r hS) (cS.bz (cB.l (cB.bu hp fun g hg=>(hw.tr r.bs).block g (hS g hg)) fun q hq=>by have:=hpq q hq;omega) fun g hg=>.inl hg) (((hd.rel r (bl w)).l (by decide)).bz fun g hg=>ET hg) (by omega)) ?_;rintro ρ wa3 v3 wb3 iv3 r he hw h_ hn;replace hM:=cI.bq hM r (bl w) he (mC h_);have hB:=hn.cQ (S:=fun _=>False) r.bm (mN h_);clear r;obtain⟨a3,c3,rfl,hc3⟩:=hB.row.form;conv=>whnf
 refine cA (Φ:=fun _ w' v w2=>(gk (dM f) (eO p (-1)) f.cols=none∧v= .tuple #[.slice none 0 0,.bool false])∨∃x vx,gk (dM f) (eO p (-1)) f.cols=some x∧v= .tuple #[vx,.bool true]∧dK w2 (Cv (fun _=>False) w.heap.size iv3) w'.heap.size [(w'.heap.size,w2.heap.size)] vx f.cols x) (fun ρ w' r=>vM (C:=Cv (fun _=>False) w.heap.size iv3) (S:=Cv (fun _=>False) w.heap.size iv3) (h:=h) (Rel.old r (bl w)) (Rel.old r (bl w)) (cI.rel hM r (bl w)) ((hB.rel r (bl w)).c) (by rw[eO,aK,htl];exact hpl) hlen (by omega) (by omega) hB1 hh) ?_;rintro ρ wa4 v4 wb4 r he hb (⟨hno,rfl⟩|⟨x,vx,hx,rfl,k2⟩)
 ·replace hw:=hw.tr hb;clear r he hb;conv=>whnf
  intro ρe we re;exact⟨_,rfl,hw.tr re.bs,.inl ⟨hno,rfl⟩⟩
 replace hw:=hw.tr hb;replace hM:=cI.bq (iv':=(wa4.heap.size,wb4.heap.size)::iv3) hM r (bl w) he fun x hx=>aC _ hx;have hX:=k2.GR r.bm;clear r he hb k2 hB;generalize (wa4.heap.size,wb4.heap.size)::iv3=iv4 at*
 obtain⟨ax,cx,rfl,hcx⟩:=hX.row.form;conv=>whnf
 refine bw hτ dH [.x 0,.x 2,.x 1,.x 3,.x 4,.x 5] (by kernel_rfl) (by kernel_rfl) ?_;conv=>whnf
 refine cE hw (Φ:=fun _ w' v w2=>cI w2 (Nw (fun _=>False) w' w2) v []) (fun ρ w' r=>hst▸CW (C:=Cv (fun _=>False) w.heap.size iv4) (S:=Cv (fun _=>False) w.heap.size iv4) (h:=h) (Rel.old r (bl w)) (Rel.old r (bl w)) (cI.rel hM r (bl w)) hlen hc0 (by omega) (by omega) hB2 hA2 hh) ?_;rintro ρ wa5 v5 wb5 iv5 r he hw h_ hn;replace hX:=hX.bq r (bl w) he (mC h_);obtain⟨ak,ck,rfl,-,-⟩:=dS.shape hn;clear r he;conv=>whnf
 refine cE hw (Φ:=fun _ w' v w2=>cS w2 (Nw S w' w2) v (jM f)) (fun ρ w' r=>xU (S:=S) (fun g hg=>by have:=hS g hg;have:=r.bm;omega) (hf.bu fun g hg=>(hw.tr r.bs).block g (hS g hg)) hok) ?_;rintro ρ wa6 v6 wb6 iv6 r he hw h_ hn;replace hX:=hX.bq r (bl w) he (mC h_);obtain⟨al,cl,rfl,-,-⟩:=cd.shape hn;clear r he;conv=>whnf
 refine⟨World×Iv,fun z=>⟨[(7,.o (.v (.slice ax f.cols cx))),(9,.o (.v (.slice ak 0 ck))),(11,.o (.p 2 0)),(12,.o (.v (.slice none 0 0))),(43,.o (.v (.slice ak 0 ck))),(44,.o (.v (.int .i64 0))),(45,.o (.v (.int .i64 0)))],[(2,.box T.dW [.v (.slice none 0 0),.v (.int .i64 0)])],3,z.2,z.1⟩,fun _=>0,
  fun z=>cF w.heap.size w z.1∧dK z.1 (fun _=>False) w.heap.size z.2 (.slice ax f.cols cx) f.cols x,?_,?_⟩
 ·intro ρ w' r3;exact⟨(w',_),⟨hw.tr r3.bs,hX.rel r3 (bl w)⟩,Sub.gen [] r3 ⟨rfl,trivial⟩ ⟨rfl,rfl,rfl,rfl,rfl,rfl,rfl,trivial⟩ (by simp[cY,cN.scopd,At.sc]) (by simp[cO,SV.sc,At.sc]) (by rfl) (fun lo hi h=>h)⟩
 clear hw hX;rintro⟨w7,iv⟩ ⟨hw,hX⟩;dsimp only at hw hX ⊢;conv=>whnf
 refine bp (cE hw (Φ:=fun _ w' v w2=>∃vx,v= .tuple #[vx,.bool true]∧∃a c,vx= .slice a 0 c) (fun ρ w' r=>(vM (C:=fun _=>False) (S:=fun _=>False) (M:=[]) (b:=[]) (cols:=0) (h:=h) (fun g hg=>hg.elim) (fun g hg=>hg.elim) lO.nil cB.Gl rfl (fun r hr=>by cases hr) (by decide) (by decide) (D9 _ _) hh).mono fun e w2 ⟨v2,e1,e2,e3⟩=>⟨v2,e1,e2,by
  rcases e3 with⟨h1,_⟩|⟨x2,vx,h1,h2,h3⟩
  ·rw[C0]at h1;cases h1
  ·obtain⟨a,c,h4,_⟩:=h3.row.form
   exact⟨vx,h2,a,c,h4⟩⟩) ?_)
 rintro ρ wa8 v8 wb8 iv8 r he hw h_ ⟨vx2,rfl,a8,c8,rfl⟩;replace hX:=hX.bq r (bl w) he (mC h_);clear r he;conv=>whnf
 refine⟨World×Iv,fun z=>⟨[(7,.o (.v (.slice ax f.cols cx))),(87,.o (.v (.slice ak 0 ck))),(88,.o (.v (.int .i64 0))),(89,.o (.v (.int .i64 0)))],[],0,z.2,z.1⟩,fun _=>0,
  fun z=>cF w.heap.size w z.1∧dK z.1 (fun _=>False) w.heap.size z.2 (.slice ax f.cols cx) f.cols x,?_,?_⟩
 ·intro ρ w' r3;exact⟨(w',_),⟨hw.tr r3.bs,hX.rel r3 (bl w)⟩,Sub.gen [] r3 trivial ⟨rfl,rfl,rfl,rfl,trivial⟩ (by simp[cY]) (by simp[cO,SV.sc,At.sc]) (by rfl) (fun lo hi h=>h)⟩
 clear hw hX;rintro⟨w7,iv⟩ ⟨hw,hX⟩;dsimp only at hw hX ⊢;conv=>whnf
 intro ρe we re;exact⟨_,rfl,hw.tr re.bs,.inr ⟨x,_,hx,rfl,hX.out re⟩⟩
def dq{α:Type}(e:List α->α->Int):List α->List α->Int
 |_,[]=>0
 |seen,x::r=>if e seen x=0 then dq e (seen++[x]) r else e seen x
section
variable{α:Type}{e:List α->α->Int}{xs:List α}
theorem fD{k:Nat}{x:α}(hx:xs[k]? =some x)(h0:e (xs.take k) x=0):dq e (xs.take k) (xs.drop k)=dq e (xs.take (k+1)) (xs.drop (k+1)):=by
 have hk:=(aE.1 hx).1;have h2:=(aE.1 hx).2;rw[List.drop_eq_getElem_cons hk,h2,dq,aQ h0,List.take_add_one,hx];rfl
theorem cD{k:Nat}{x:α}{c:Int}(hx:xs[k]? =some x)(h0:e (xs.take k) x=c)(hc:c≠0):dq e (xs.take k) (xs.drop k)=c:=by
 have hk:=(aE.1 hx).1;have h2:=(aE.1 hx).2;rw[List.drop_eq_getElem_cons hk,h2,dq,aL (by rw[h0];exact hc),h0]
theorem gD{k:Nat}(hk:xs.length<=k):dq e (xs.take k) (xs.drop k)=0:=by
 rw[List.drop_eq_nil_of_le hk];rfl
theorem fw(h:dq e [] xs=0):∀k x,xs[k]? =some x->e (xs.take k) x=0:=by
 have key:∀k,k<=xs.length->dq e (xs.take k) (xs.drop k)=0∧∀j x,j<k->xs[j]? =some x->e (xs.take j) x=0:=fun k=>by
  induction k with
  |zero=>intro _;exact⟨by simpa using h,fun j x hj=>by omega⟩
  |succ k ih=>
   intro hk;obtain⟨h1,h2⟩:=ih (by omega);obtain⟨x,hx⟩:∃x,xs[k]? =some x:=⟨_,aA (by omega)⟩
   have h0:e (xs.take k) x=0:=by
    by_cases h0:e (xs.take k) x=0
    ·exact h0
    ·rw[cD hx rfl h0]at h1;exact h1
   refine⟨by rw[<-fD hx h0];exact h1,fun j y hj hy=>?_⟩;rcases bA j k with hjk|hjk
   ·exact h2 j y hjk hy
   ·have:j=k:=by omega
    subst this;rw[hx]at hy;injection hy with hy;rw[<-hy];exact h0
 exact fun k x hx=>(key xs.length (aI _)).2 k x (aE.1 hx).1 hx
end
def kH(n:Int):Prop:= -1000000<=n∧n<=1000000
instance (n : Int) : Decidable (kH n) := by unfold kH; infer_instance
def dx(seen:List (Int×Int×Int))(p:Int×Int×Int):Int:=if kH p.1∧kH p.2.1∧kH p.2.2 then(if p∈seen then 12 else 0)else 2
def ew(b:Int×Int×Rat):Int×Int:=(min b.1 b.2.1,max b.1 b.2.1)
def gJ(n:Nat)(i:Int):Prop:=0<=i∧i<n
instance (n : Nat) (i : Int) : Decidable (gJ n i) := by unfold gJ; infer_instance
def eE(n:Nat)(seen:List (Int×Int×Rat))(b:Int×Int×Rat):Int:=
 if gJ n b.1∧gJ n b.2.1 then(if b.1=b.2.1 then 3 else if ew b∈seen.map ew then 5 else if b.2.2<=0 then 2 else 0)else 6
def fu(s:Int×Int×Rat):Int×Int:=(s.1,s.2.1)
def iR(n:Nat)(seen:List (Int×Int×Rat))(s:Int×Int×Rat):Int:=
 if gJ n s.1 then(if 0<=s.2.1∧s.2.1<=2 then(if fu s∈seen.map fu then 5 else if s.2.2<0 then 2 else 0)else 2)else 6
def dh(f:eX):Int:=
 if 20<f.nodes.length∨60<f.bars.length∨60<f.cG.length then 8 else
  if dq dx [] f.nodes≠0 then dq dx [] f.nodes else
   if dq (eE f.nodes.length) [] f.bars≠0 then dq (eE f.nodes.length) [] f.bars else dq (iR f.nodes.length) [] f.cG
def gb(n:Nat)(x:Ld):Int:=if gJ n x.1 then(if kH x.2.1∧kH x.2.2.1∧kH x.2.2.2 then 0 else 2)else 6
def qU(n:Nat)(l:List Ld):Int:=if 200<l.length then 8 else dq (fun _=>gb n) [] l
def iS(f:eX)(l:List Ld):Int:=if dh f≠0 then dh f else qU f.nodes.length l
theorem pB{seen:List (Int×Int×Int)}{p:Int×Int×Int}:dx seen p=0↔(kH p.1∧kH p.2.1∧kH p.2.2)∧p∉seen:=by
 unfold dx;split<;>rename_i h
 ·split<;>rename_i h2<;>simp[h,h2]
 ·simp[h]
theorem kO{n:Nat}{seen:List (Int×Int×Rat)}{b:Int×Int×Rat}:eE n seen b=0↔(gJ n b.1∧gJ n b.2.1)∧b.1≠b.2.1∧ew b∉seen.map ew∧0<b.2.2:=by
 unfold eE;rw[<-Rat.not_le];by_cases h:gJ n b.1∧gJ n b.2.1
 ·rw[aQ h];by_cases h2:b.1=b.2.1
  ·rw[aQ h2];exact⟨(fun e=>by cases e),fun e=>absurd h2 e.2.1⟩
  ·rw[aL h2];by_cases h3:ew b∈seen.map ew
   ·rw[aQ h3];exact⟨(fun e=>by cases e),fun e=>absurd h3 e.2.2.1⟩
   ·rw[aL h3];by_cases h4:b.2.2<=0
    ·rw[aQ h4];exact⟨(fun e=>by cases e),fun e=>absurd h4 e.2.2.2⟩
    ·rw[aL h4];exact⟨fun _=>⟨h,h2,h3,h4⟩,fun _=>rfl⟩
 ·rw[aL h];exact⟨(fun e=>by cases e),fun e=>absurd e.1 h⟩
theorem nQ{n:Nat}{seen:List (Int×Int×Rat)}{s:Int×Int×Rat}:iR n seen s=0↔gJ n s.1∧(0<=s.2.1∧s.2.1<=2)∧fu s∉seen.map fu∧0<=s.2.2:=by
 unfold iR;rw[<-Rat.not_lt];by_cases h:gJ n s.1<;>by_cases h2:0<=s.2.1∧s.2.1<=2<;>by_cases h3:fu s∈seen.map fu<;>by_cases h4:s.2.2<0<;>simp only[h,h2,h3,h4]<;>simp
theorem Aw{n:Nat}{x:Ld}:gb n x=0↔gJ n x.1∧kH x.2.1∧kH x.2.2.1∧kH x.2.2.2:=by
 unfold gb;split<;>rename_i h
 ·split<;>rename_i h2<;>simp[h,h2]
 ·simp[h]
theorem qq{f:eX}(h:dh f=0):(f.nodes.length<=20∧f.bars.length<=60∧f.cG.length<=60)∧dq dx [] f.nodes=0∧dq (eE f.nodes.length) [] f.bars=0∧dq (iR f.nodes.length) [] f.cG=0:=by
 unfold dh at h;split at h<;>rename_i h1
 ·cases h
 ·split at h<;>rename_i h2
  ·exact absurd h h2
  ·split at h<;>rename_i h3
   ·exact absurd h h3
   ·exact⟨by omega,by simpa using h2,by simpa using h3,h⟩
theorem lA{f:eX}(h:dh f=0):oO f:=by
 obtain⟨⟨h1,h2,h3⟩,hn,hb,hs⟩:=qq h;refine⟨fun p hp=>?_,fun b hb'=>?_,fun s hs'=>?_,h1,h2,h3⟩
 ·obtain⟨k,hk⟩:=aU hp;exact(pB.1 (fw hn k p hk)).1
 ·obtain⟨k,hk⟩:=aU hb';exact(kO.1 (fw hb k b hk)).1
 ·obtain⟨k,hk⟩:=aU hs';have:=nQ.1 (fw hs k s hk);exact⟨this.1,this.2.1⟩
theorem yZ{n:Nat}{l:List Ld}(h:qU n l=0):qS n l:=by
 unfold qU at h;split at h<;>rename_i h1
 ·cases h
 ·refine⟨by omega,fun x hx=>?_⟩;obtain⟨k,hk⟩:=aU hx;exact Aw.1 (fw h k x hk)
theorem jX{f:eX}{l:List Ld}(h:iS f l=0):dh f=0∧qU f.nodes.length l=0:=by
 unfold iS at h;split at h<;>rename_i h1
 ·exact absurd h h1
 ·exact⟨by simpa using h1,h⟩
theorem jH(n:Int)(w:World):dQ PG N.mf #[.int .i64 n,.int .i64 1000000] w (dU w fun v' _=>∃d,v'= .bool d∧(d=true↔kH n)):=by
 have hw:cF w.heap.size w w:=cF.refl;refine qK (by simp) ?_;conv=>whnf
 refine⟨-1000000,by decide,?_⟩;conv=>whnf
 refine cW.mk (fun h1=>?_) (fun h1=>?_)
 ·conv=>whnf
  intro ρe we re;have h1:=aG h1;exact⟨_,rfl,hw.tr re.bs,_,rfl,by rw[decide_eq_true_iff];exact⟨fun h=>⟨h1,h⟩,fun h=>h.2⟩⟩
 ·conv=>whnf
  intro ρe we re;have h1:=aF h1;exact⟨_,rfl,hw.tr re.bs,_,rfl,(fun h=>by cases h),fun h=>absurd h.1 h1⟩
theorem Ax(n:Int)(w:World)(an ab aq:Option Addr)(ln cn nb cb nq cq:Nat):dQ PG N.sF #[.agg #[.slice an ln cn,.slice ab nb cb,.slice aq nq cq],.int .i64 n] w (dU w fun v' _=>∃d,v'= .bool d∧(d=true↔gJ ln n)):=by
 have hw:cF w.heap.size w w:=cF.refl;refine uu (by simp) ?_;conv=>whnf
 refine cW.mk (fun h1=>?_) (fun h1=>?_)
 ·conv=>whnf
  intro ρe we re;have h1:=aG h1;exact⟨_,rfl,hw.tr re.bs,_,rfl,by rw[decide_eq_true_iff];exact⟨fun h=>⟨h1,h⟩,fun h=>h.2⟩⟩
 ·conv=>whnf
  intro ρe we re;have h1:=aF h1;exact⟨_,rfl,hw.tr re.bs,_,rfl,(fun h=>by cases h),fun h=>absurd h.1 h1⟩
theorem y4(x y0 y1 y2:Int)(n:Nat)(w:World):dQ PG N.jg #[.agg #[.int .i64 x,.int .i64 y0,.int .i64 y1,.int .i64 y2],.int .i64 n] w (dU w fun v' _=>v'= .int .i64 (gb n (x,y0,y1,y2))):=by
 have hw:cF w.heap.size w w:=cF.refl;refine ml (by simp) ?_;conv=>whnf
 refine cW.mk (fun h1=>?_) (fun h1=>?_)
 ·have h1:=aG h1;conv=>whnf
  intro ρe we re;exact⟨_,rfl,hw.tr re.bs,by show Value.int .i64 _=_;rw[gb,aL (by unfold gJ;omega)]⟩
 have h1:=aF h1;conv=>whnf
 refine cW.mk (fun h2=>?_) (fun h2=>?_)
 ·have h2:=aG h2;conv=>whnf
  intro ρe we re;exact⟨_,rfl,hw.tr re.bs,by show Value.int .i64 _=_;rw[gb,aL (by unfold gJ;omega)]⟩
 have h2:=aF h2;have hh:gJ n x:=by unfold gJ;omega
 conv=>whnf
 refine bp (cE hw (Φ:=fun _ w' v w2=>∃d,v= .bool d∧(d=true↔kH y0)) (fun ρ w' r=>jH _ w') ?_);rintro ρ wa1 v1 wb1 iv1 r he hw h_ ⟨d0,rfl,hz0⟩;clear r
 cases d0
 ·have hz0:¬kH y0:=fun h=>by have:=hz0.2 h;cases this
  conv=>whnf
  intro ρe we re;exact⟨_,rfl,hw.tr re.bs,by show Value.int .i64 _=_;rw[gb,aQ hh,aL (fun h=>hz0 h.1)]⟩
 replace hz0:=hz0.1 rfl;conv=>whnf
 refine bp (cE hw (Φ:=fun _ w' v w2=>∃d,v= .bool d∧(d=true↔kH y1)) (fun ρ w' r=>jH _ w') ?_);rintro ρ wa2 v2 wb2 iv2 r he hw h_ ⟨d1,rfl,hz1⟩;clear r
 cases d1
 ·have hz1:¬kH y1:=fun h=>by have:=hz1.2 h;cases this
  conv=>whnf
  intro ρe we re;exact⟨_,rfl,hw.tr re.bs,by show Value.int .i64 _=_;rw[gb,aQ hh,aL (fun h=>hz1 h.2.1)]⟩
 replace hz1:=hz1.1 rfl;conv=>whnf
 refine bp (cE hw (Φ:=fun _ w' v w2=>∃d,v= .bool d∧(d=true↔kH y2)) (fun ρ w' r=>jH _ w') ?_);rintro ρ wa3 v3 wb3 iv3 r he hw h_ ⟨d2,rfl,hz2⟩;clear r
 cases d2
 ·have hz2:¬kH y2:=fun h=>by have:=hz2.2 h;cases this
  conv=>whnf
  intro ρe we re;exact⟨_,rfl,hw.tr re.bs,by show Value.int .i64 _=_;rw[gb,aQ hh,aL (fun h=>hz2 h.2.2)]⟩
 replace hz2:=hz2.1 rfl;conv=>whnf
 intro ρe we re;exact⟨_,rfl,hw.tr re.bs,by show Value.int .i64 _=_;rw[gb,aQ hh,aQ ⟨hz0,hz1,hz2⟩]⟩
theorem wR{S:Nat->Prop}{w:World}{vl:Value}{l:List Ld}{n:Nat}(hS:Old S w)(hl:eh w S vl l):dQ PG N.jQ #[vl,.int .i64 n] w (dU w fun v' _=>v'= .int .i64 (qU n l)):=by
 have hw:cF w.heap.size w w:=cF.refl;obtain⟨al,cl,rfl,hcl,hml⟩:=hl.shape;unfold maxLen at hml;refine ll (by simp) ?_;conv=>whnf
 refine cW.mk (fun h1=>?_) (fun h1=>?_)
 ·have h1:=aG h1;conv=>whnf
  intro ρe we re;exact⟨_,rfl,hw.tr re.bs,by show Value.int .i64 _=_;rw[qU,aQ (by omega)]⟩
 have h1:=aF h1;conv=>whnf
 refine⟨Nat×World×Iv,fun z=>⟨[(1,.o (.v (.int .i64 n))),(11,.o (.v (.slice al l.length cl))),(12,.o (.v (.int .i64 l.length))),(13,.o (.v (.int .i64 ((z.1:Nat):Int))))],[],0,z.2.2,z.2.1⟩,fun z=>l.length-z.1,
  fun z=>z.1<=l.length∧cF w.heap.size w z.2.1∧qU n l=dq (fun _=>gb n) (l.take z.1) (l.drop z.1),?_,?_⟩
 ·intro ρ w' r3;exact⟨(0,w',[]),⟨aO _,hw.tr r3.bs,by rw[qU,aL (by omega)];rfl⟩,Sub.gen [] r3 trivial ⟨rfl,rfl,rfl,rfl,trivial⟩ (by simp[cY,cN.scopd,At.sc]) (by simp[cO,SV.sc,At.sc,cJ]) (by rfl) (fun lo hi h=>h)⟩
 clear hw;rintro⟨i,w1,iv⟩ ⟨hi,hw,hE⟩;dsimp only at hi hw hE ⊢;conv=>whnf
 refine cW.mk (fun hib=>?_) (fun hib=>?_)
 ·have hib:i<l.length:=by simpa using hib
  obtain⟨x,hx⟩:∃x,l[i]? =some x:=⟨_,aA hib⟩
  obtain⟨adx,cs,hax,hP,-,hlx⟩:=hl.load (by decide) hx;have hP:cs=[.int .i64 x.1,.int .i64 x.2.1,.int .i64 x.2.2.1,.int .i64 x.2.2.2]:=hP;subst hP;conv=>whnf
  refine⟨adx,hax,⟨by omega,by omega⟩,?_⟩;conv=>whnf
  refine⟨[.int .i64 x.1,.int .i64 x.2.1,.int .i64 x.2.2.1,.int .i64 x.2.2.2],rfl,fun ρ w' r j u hu=>?_,?_⟩
  ·obtain⟨k1,k2⟩:=hlx j u hu;rw[aB,bo (w:=w) (w2:=w') (by rw[cC,cC];exact(hw.tr r.bs).block _ (hS _ k1))];exact k2
  conv=>whnf
  refine bp (cE hw (Φ:=fun _ w' v w2=>v= .int .i64 (gb n x)) (fun ρ w' r=>y4 _ _ _ _ n w') ?_);rintro ρ wa1 v1 wb1 iv1 r he hw h_ rfl;clear r;obtain⟨c,hc⟩:∃c,gb n x=c:=⟨_,rfl⟩
  rw[hc];conv=>whnf
  refine cW.mk (fun hd=>?_) (fun hd=>?_)
  ·have hd:c≠0:=by simpa using hd
   conv=>whnf
   intro ρe we re;exact⟨_,rfl,hw.tr re.bs,by show Value.int .i64 _=_;rw[hE,cD hx hc hd]⟩
  have hd:c=0:=by simpa using hd
  rw[hd]at hc;rw[fD hx hc]at hE;conv=>whnf
  refine⟨((i+1:Nat):Int),by rw[wrap64]<;>omega,?_⟩;conv=>whnf
  intro ρ3 w6 r3;exact⟨(i+1,w6,_),⟨hib,hw.tr r3.bs,hE⟩,Sub.gen [] r3 trivial ⟨rfl,rfl,rfl,rfl,trivial⟩ (by simp[cY,cN.scopd,At.sc]) (by simp[cO,SV.sc,At.sc,cJ]) (by rfl) (fun lo hi h=>h),by dsimp only;omega⟩
 have hib:i=l.length:=aM hi (by simpa using hib);rw[gD (by omega)]at hE;conv=>whnf
 intro ρe we re;exact⟨_,rfl,hw.tr re.bs,by show Value.int .i64 _=_;rw[hE]⟩
theorem eI{cs:Array Value}{j:Nat}{v:Value}(h:cs[j]? =some v)(w:World):(part T.int cs j).run PG w= .ok v w:=by
 have:=(hτ T.int _ rfl).isAgg w;simp only[part,Sem.run_bind,this,Result.andThen]
 simp[h]
theorem eq_int(d:Nat)(a b:Int)(w:World):(Op.equalIn (d+1) T.int (.int .i64 a) (.int .i64 b)).run PG w= .ok (a==b) w:=by
 unfold Op.equalIn;simp[run_underlying ((hτ T.int _ rfl).i1 rfl)]
theorem Eg(p0 p1 p2 q0 q1 q2:Int)(w:World):(Op.equal T.Node (.agg #[.int .i64 p0,.int .i64 p1,.int .i64 p2]) (.agg #[.int .i64 q0,.int .i64 q1,.int .i64 q2])).run PG w= .ok (decide (p0=q0∧p1=q1∧p2=q2)) w:=by
 have h:=run_underlying Tryz.underlying169;simp only[Op.equal,Op.maxDepth]
 unfold Op.equalIn;have a0:=eI (cs:= #[Value.int .i64 p0,Value.int .i64 p1,Value.int .i64 p2]) (j:=0) rfl;have a1:=eI (cs:= #[Value.int .i64 p0,Value.int .i64 p1,Value.int .i64 p2]) (j:=1) rfl;have a2:=eI (cs:= #[Value.int .i64 p0,Value.int .i64 p1,Value.int .i64 p2]) (j:=2) rfl;have b0:=eI (cs:= #[Value.int .i64 q0,Value.int .i64 q1,Value.int .i64 q2]) (j:=0) rfl;have b1:=eI (cs:= #[Value.int .i64 q0,Value.int .i64 q1,Value.int .i64 q2]) (j:=1) rfl;have b2:=eI (cs:= #[Value.int .i64 q0,Value.int .i64 q1,Value.int .i64 q2]) (j:=2) rfl;simp[h,a0,a1,a2,b0,b1,b2,eq_int 9998];by_cases h0:p0=q0
 ·by_cases h1:p1=q1
  ·by_cases h2:p2=q2<;>simp[h0,h1,h2]
  ·simp[h0,h1]
 ·simp[h0]
theorem Eh(p0 p1 q0 q1:Int)(w:World):(Op.equal T.xx (.agg #[.int .i64 p0,.int .i64 p1]) (.agg #[.int .i64 q0,.int .i64 q1])).run PG w= .ok (decide (p0=q0∧p1=q1)) w:=by
 have h:=run_underlying Tryz.underlying187;simp only[Op.equal,Op.maxDepth]
 unfold Op.equalIn;have a0:=eI (cs:= #[Value.int .i64 p0,Value.int .i64 p1]) (j:=0) rfl;have a1:=eI (cs:= #[Value.int .i64 p0,Value.int .i64 p1]) (j:=1) rfl;have b0:=eI (cs:= #[Value.int .i64 q0,Value.int .i64 q1]) (j:=0) rfl;have b1:=eI (cs:= #[Value.int .i64 q0,Value.int .i64 q1]) (j:=1) rfl;simp[h,a0,a1,b0,b1,eq_int 9998];by_cases h0:p0=q0
 ·by_cases h1:p1=q1<;>simp[h0,h1]
 ·simp[h0]
abbrev xV(p:Int×Int×Int):Value:=.agg #[.int .i64 p.1,.int .i64 p.2.1,.int .i64 p.2.2]
theorem zz(p q:Int×Int×Int)(w:World)(o1 o2:Operand):(do eqGuard .eql T.Node o1 o2 (xV p) (xV q);binOp .eql T.Node (xV p) (xV q)).run PG w= .ok (.bool (decide (p=q))) w:=by
 have h:=Eg p.1 p.2.1 p.2.2 q.1 q.2.1 q.2.2 w;simp[eqGuard,binOp,h];obtain⟨a,b,c⟩:=p;obtain⟨a2,b2,c2⟩:=q;by_cases h0:a=a2
 ·by_cases h1:b=b2
  ·by_cases h2:c=c2<;>simp[h0,h1,h2]
  ·simp[h0,h1]
 ·simp[h0]
def kf(k:Int×Int):Value:=.agg #[.int .i64 k.1,.int .i64 k.2]
theorem mz{a b:Int×Int}(h:kf a=kf b):a=b:=by
 unfold kf at h;injection h with h;have h1:=congrArg (fun x=>x[0]?) h;have h2:=congrArg (fun x=>x[1]?) h;simp at h1 h2;exact Prod.ext h1 h2
theorem C1(d:Nat)(a:Int)(em:Bool)(w:World):(Instr.checkKey em (d+1) T.int (.int .i64 a)).run PG w= .ok () w:=by
 unfold Instr.checkKey;simp[run_underlying ((hτ T.int _ rfl).i1 rfl)]
theorem Ay(p0 p1:Int)(em:Bool)(w:World):(Instr.checkKey em 10000 T.xx (.agg #[.int .i64 p0,.int .i64 p1])).run PG w= .ok () w:=by
 have h:=run_underlying Tryz.underlying187;have a0:=eI (cs:= #[Value.int .i64 p0,Value.int .i64 p1]) (j:=0) rfl;have a1:=eI (cs:= #[Value.int .i64 p0,Value.int .i64 p1]) (j:=1) rfl;unfold Instr.checkKey;simp[h,a0,a1,C1 9998]
theorem td:Cz PG T.xx (fun v=>∃k,v=kf k) where
 desc:=⟨_,Tryz.underlying187⟩
 check:=fun w em v ⟨k,e⟩=>by subst e;exact Ay k.1 k.2 em w
 eq:=fun w a b ⟨p,e1⟩ ⟨q,e2⟩=>by
  subst e1 e2;refine⟨_,Eh p.1 p.2 q.1 q.2 w,?_⟩;rw[decide_eq_true_iff];exact⟨fun h=>by rw[show p=q from Prod.ext h.1 h.2],fun h=>by have:=mz h;subst this;exact⟨rfl,rfl⟩⟩
theorem qV:PG.underlying T.s4=some (.map T.xx T.bool):=Tryz.underlying185
theorem xW(w:World):(zeroValue T.bool).run PG w= .ok (.bool false) w:=by kernel_rfl
theorem Da(ad:Option Addr)(k:Nat):ad.map (·.add (0*k))=ad:=by
 rw[Nat.zero_mul]
 cases ad with
 |none=>rfl
 |some a=>simp only[Option.map_some,Option.some.injEq];unfold Addr.add;split<;>simp_all
theorem df.take{α:Type}{k:Nat}{P:World->(Nat->Prop)->List Value->α->Prop}{w:World}{S:Nat->Prop}{a:Option Addr}{n c:Nat}{xs:List α}(h:df k P w S (.slice a n c) xs){i:Nat}(hi:i<=xs.length):
  df k P w S (.slice a i c) (xs.take i):=by
 obtain⟨css,⟨h0,h1,h2,a',c',e,h3,h4⟩,hl,hlk,hf⟩:=h;injection e with e1 e2 e3;subst e1 e2 e3;have hlen:(css.take i).length=i:=by rw[aW,hl];omega
 have hli:(xs.take i).length=i:=by rw[aW];omega
 have hsplit:css.flatten=(css.take i).flatten++(css.drop i).flatten:=by rw[<-List.flatten_append,List.take_append_drop]
 refine⟨css.take i,⟨by omega,?_,fun u hu=>h2 u (by rw[hsplit];exact List.mem_append_left _ hu),a,c,by rw[hli],by omega,fun j u hj=>h4 j u ?_⟩,by rw[hlen,hli],fun cs hc=>hlk cs (List.mem_of_mem_take hc),fun j cs x k1 k2=>?_⟩
 ·rw[rN fun cs hc=>hlk cs (List.mem_of_mem_take hc),hlen,hli]
 ·rw[hsplit,aJ (aE.1 hj).1];exact hj
 ·have hj:=(aE.1 k1).1;rw[hlen]at hj;rw[bQ hj]at k1 k2;exact hf j cs x k1 k2
theorem kE.bu{w w2:World}{S:Nat->Prop}{v:Value}{xs:List (Int×Int×Int)}(h:kE w S v xs)(hk:∀g,S g->w2.heap[g]? =w.heap[g]?):kE w2 S v xs:=df.bu (w:=w) (fun _ _ h=>h) h hk
theorem y5{S:Nat->Prop}{w:World}{vn:Value}{xs:List (Int×Int×Int)}(hS:Old S w)(hn:kE w S vn xs)(p:Int×Int×Int):dQ PG N.e7 #[vn,xV p] w (dU w fun v' _=>∃r,v'= .int .i64 r∧(-1<=r)∧(0<=r↔p∈xs)):=by
 have hw:cF w.heap.size w w:=cF.refl;obtain⟨an,cn,rfl,hcn,hmn⟩:=hn.shape;unfold maxLen at hmn;refine fo (by simp) ?_;conv=>whnf
 refine⟨Nat×World,fun z=>⟨[(0,.o (.v (.slice an xs.length cn))),(3,.o (.p 0 0)),(7,.o (.v (.int .i64 xs.length))),(8,.o (.v (.int .i64 ((z.1:Nat):Int))))],[(0,.box T.Node [.v (.int .i64 p.1),.v (.int .i64 p.2.1),.v (.int .i64 p.2.2)])],1,[],z.2⟩,fun z=>xs.length-z.1,
  fun z=>z.1<=xs.length∧cF w.heap.size w z.2∧(p∈xs↔p∈xs.drop z.1),?_,?_⟩
 ·intro ρ w' r3;exact⟨(0,w'),⟨aO _,hw.tr r3.bs,Iff.rfl⟩,Sub.gen [] r3 ⟨rfl,trivial⟩ ⟨rfl,rfl,rfl,rfl,trivial⟩ (by simp[cY,cN.scopd,At.sc]) (by simp[cO,SV.sc,At.sc,cJ]) (by rfl) (fun lo hi h=>h)⟩
 clear hw;rintro⟨i,w1⟩ ⟨hi,hw,hE⟩;dsimp only at hi hw hE ⊢;conv=>whnf
 refine cW.mk (fun hib=>?_) (fun hib=>?_)
 ·have hib:i<xs.length:=by simpa using hib
  obtain⟨q,hx⟩:∃x,xs[i]? =some x:=⟨_,aA hib⟩
  have hdr:xs.drop i=q::xs.drop (i+1):=by rw[List.drop_eq_getElem_cons hib,(aE.1 hx).2]
  obtain⟨adx,cs,hax,hP,-,hlx⟩:=hn.load (by decide) hx;have hP:cs=[.int .i64 q.1,.int .i64 q.2.1,.int .i64 q.2.2]:=hP;subst hP;conv=>whnf
  refine gA hτ dH (.x 1 (.x 2 (.x 3 (.ld 0 32 (.ld 4 32 (.x 5 .nil)))))) (by kernel_rfl) (by kernel_rfl) ?_;conv=>whnf
  refine⟨adx,hax,⟨by omega,by omega⟩,?_⟩;conv=>whnf
  refine⟨[.int .i64 q.1,.int .i64 q.2.1,.int .i64 q.2.2],rfl,fun ρ w' r j u hu=>?_,?_⟩
  ·obtain⟨k1,k2⟩:=hlx j u hu;rw[aB,bo (w:=w) (w2:=w') (by rw[cC,cC];exact(hw.tr r.bs).block _ (hS _ k1))];exact k2
  conv=>whnf
  refine⟨decide (p=q),fun ρ w o1 o2=>zz p q w o1 o2,?_⟩;conv=>whnf
  refine cW.mk (fun hd=>?_) (fun hd=>?_)
  ·have hd:p=q:=aG hd;conv=>whnf
   intro ρe we re;exact⟨_,rfl,hw.tr re.bs,_,rfl,by omega,iff_of_true (by omega) (hE.2 (by rw[hdr,hd];exact aH))⟩
  have hd:p≠q:=aF hd;rw[hdr,List.mem_cons,or_iff_right hd]at hE;conv=>whnf
  refine⟨((i+1:Nat):Int),by rw[wrap64]<;>omega,?_⟩;conv=>whnf
  intro ρ3 w6 r3;exact⟨(i+1,w6),⟨hib,hw.tr r3.bs,hE⟩,Sub.gen [] r3 ⟨rfl,trivial⟩ ⟨rfl,rfl,rfl,rfl,trivial⟩ (by simp[cY,cN.scopd,At.sc]) (by simp[cO,SV.sc,At.sc,cJ]) (by rfl) (fun lo hi h=>h),by dsimp only;omega⟩
 have hib:i=xs.length:=aM hi (by simpa using hib);rw[hib,List.drop_length]at hE;conv=>whnf
 intro ρe we re;exact⟨_,rfl,hw.tr re.bs,_,rfl,by omega,iff_of_false (by omega) fun h=>by cases hE.1 h⟩
theorem tI{S:Nat->Prop}{w:World}{vn:Value}{xs:List (Int×Int×Int)}(hS:Old S w)(hn:kE w S vn xs)(p:Int×Int×Int):dQ PG N.eM #[vn,xV p] w (dU w fun v' _=>∃d,v'= .bool d∧(d=true↔p∈xs)):=by
 have hw:cF w.heap.size w w:=cF.refl;obtain⟨an,cn,rfl,hcn,hmn⟩:=hn.shape;refine fW (by simp) ?_;conv=>whnf
 refine bp (cE hw (Φ:=fun _ w' v w2=>∃r,v= .int .i64 r∧(-1<=r)∧(0<=r↔p∈xs)) (fun ρ w' r=>y5 (p:=p) (fun g hg=>by have:=hS g hg;have:=r.bm;omega) (kE.bu hn fun g hg=>(hw.tr r.bs).block g (hS g hg))) ?_);rintro ρ wa1 v1 wb1 iv1 r he hw h_ ⟨r0,rfl,hr0,hr1⟩;clear r;conv=>whnf
 intro ρe we re;exact⟨_,rfl,hw.tr re.bs,_,rfl,by rw[decide_eq_true_iff];exact hr1⟩
def tJ(w:World)(S:Nat->Prop)(g:Nat)(ks:List Value):Prop:=S g∧zK w g ks
section
variable{S:Nat->Prop}{H:Hp}{nx:Nat}{iv iv':Iv}{B:Nat}{w w' w2:World}{ρ:Nat->Sx.dN}{g:Nat}{ks:List Value}
theorem tJ.rel(h:tJ w (Cv S B iv) g ks)(r:Rel H nx iv B w ρ w')(hS:∀g,S g->g<B):tJ w' (Cv S B iv) g ks:=⟨h.1,h.2.bu (Rel.same r hS h.1)⟩
theorem tJ.bq(h:tJ w (Cv S B iv) g ks)(r:Rel H nx iv B w ρ w')(hS:∀g,S g->g<B)(he:Ext w' w2)(hm:∀p,p∈iv->p∈iv'):tJ w2 (Cv S B iv') g ks:=
 ⟨h.1.mono hm,(h.rel r hS).2.bu (he.block g (Rel.old r hS g h.1))⟩
end
set_option maxHeartbeats 2000000 in
theorem AA{S:Nat->Prop}{w:World}{vn vb vs:Value}{f:eX}(hS:Old S w)(hf:dE w S vn vb vs f):dQ PG N.oC #[.agg #[vn,vb,vs]] w (dU w fun v' _=>v'= .int .i64 (dh f)):=by
 have hw:cF w.heap.size w w:=cF.refl;obtain⟨an,cn,ab,cb,aq,cq,rfl,rfl,rfl,hmn,hmb,hms⟩:=hf.shape;obtain⟨_,_,hsh,hcn,_⟩:=hf.nodes.shape;injection hsh with e1 e2 e3;subst e1 e3;refine rC (by simp) ?_;conv=>whnf
 refine cW.mk (fun h0=>?_) (fun h0=>?_)
 ·have h0:=aG h0;conv=>whnf
  intro ρe we re;exact⟨_,rfl,hw.tr re.bs,by show Value.int .i64 _=_;rw[dh,aQ (by omega)]⟩
 have h0:=aF h0;conv=>whnf
 refine cW.mk (fun h1=>?_) (fun h1=>?_)
 ·have h1:=aG h1;conv=>whnf
  intro ρe we re;exact⟨_,rfl,hw.tr re.bs,by show Value.int .i64 _=_;rw[dh,aQ (by omega)]⟩
 have h1:=aF h1;conv=>whnf
 refine cW.mk (fun h2=>?_) (fun h2=>?_)
 ·have h2:=aG h2;conv=>whnf
  intro ρe we re;exact⟨_,rfl,hw.tr re.bs,by show Value.int .i64 _=_;rw[dh,aQ (by omega)]⟩
 have h2:=aF h2;conv=>whnf
 refine⟨Nat×World×Iv,fun z=>⟨[(1,.o (.p 0 0)),(30,.o (.v (.slice an f.nodes.length cn))),(31,.o (.v (.int .i64 f.nodes.length))),(32,.o (.v (.int .i64 ((z.1:Nat):Int))))],[(0,.box T.Frame [.v (.slice an f.nodes.length cn),.v (.slice ab f.bars.length cb),.v (.slice aq f.cG.length cq)])],1,z.2.2,z.2.1⟩,fun z=>f.nodes.length-z.1,
  fun z=>z.1<=f.nodes.length∧cF w.heap.size w z.2.1∧dq dx [] f.nodes=dq dx (f.nodes.take z.1) (f.nodes.drop z.1),?_,?_⟩
 ·intro ρ w' r3;exact⟨(0,w',[]),⟨aO _,hw.tr r3.bs,rfl⟩,Sub.gen [] r3 ⟨rfl,trivial⟩ ⟨rfl,rfl,rfl,rfl,trivial⟩ (by simp[cY,cN.scopd,At.sc]) (by simp[cO,SV.sc,At.sc,cJ]) (by rfl) (fun lo hi h=>h)⟩
 clear hw;rintro⟨i,w1,iv⟩ ⟨hi,hw,hE⟩;dsimp only at hi hw hE ⊢;conv=>whnf
 refine cW.mk (fun hib=>?_) (fun hib=>?_)
 ·have hib:i<f.nodes.length:=by simpa using hib
  obtain⟨q,hx⟩:∃x,f.nodes[i]? =some x:=⟨_,aA hib⟩
  obtain⟨adx,cs,hax,hP,-,hlx⟩:=hf.nodes.load (by decide) hx;have hP:cs=[.int .i64 q.1,.int .i64 q.2.1,.int .i64 q.2.2]:=hP;subst hP;conv=>whnf
  refine⟨adx,hax,⟨by omega,by omega⟩,?_⟩;conv=>whnf
  refine⟨[.int .i64 q.1,.int .i64 q.2.1,.int .i64 q.2.2],rfl,fun ρ w' r j u hu=>?_,?_⟩
  ·obtain⟨k1,k2⟩:=hlx j u hu;rw[aB,bo (w:=w) (w2:=w') (by rw[cC,cC];exact(hw.tr r.bs).block _ (hS _ k1))];exact k2
  conv=>whnf
  refine bp (cE hw (Φ:=fun _ w' v w2=>∃d,v= .bool d∧(d=true↔kH q.1)) (fun ρ w' r=>jH _ w') ?_);rintro ρ wa1 v1 wb1 iv1 r he hw h_ ⟨d0,rfl,hz0⟩;clear r
  cases d0
  ·have hz0:¬kH q.1:=fun h=>by have:=hz0.2 h;cases this
   conv=>whnf
   intro ρe we re;exact⟨_,rfl,hw.tr re.bs,by show Value.int .i64 _=_;rw[dh,aL (by omega),aQ (by rw[hE,cD hx (show dx (f.nodes.take i) q=2 by rw[dx,aL (fun h=>hz0 h.1)]) (by decide)];decide),hE,cD hx (show dx (f.nodes.take i) q=2 by rw[dx,aL (fun h=>hz0 h.1)]) (by decide)]⟩
  replace hz0:=hz0.1 rfl;conv=>whnf
  refine bp (cE hw (Φ:=fun _ w' v w2=>∃d,v= .bool d∧(d=true↔kH q.2.1)) (fun ρ w' r=>jH _ w') ?_);rintro ρ wa2 v2 wb2 iv2 r he hw h_ ⟨d1,rfl,hz1⟩;clear r
  cases d1
  ·have hz1:¬kH q.2.1:=fun h=>by have:=hz1.2 h;cases this
   conv=>whnf
   intro ρe we re;exact⟨_,rfl,hw.tr re.bs,by show Value.int .i64 _=_;rw[dh,aL (by omega),aQ (by rw[hE,cD hx (show dx (f.nodes.take i) q=2 by rw[dx,aL (fun h=>hz1 h.2.1)]) (by decide)];decide),hE,cD hx (show dx (f.nodes.take i) q=2 by rw[dx,aL (fun h=>hz1 h.2.1)]) (by decide)]⟩
  replace hz1:=hz1.1 rfl;conv=>whnf
  refine bp (cE hw (Φ:=fun _ w' v w2=>∃d,v= .bool d∧(d=true↔kH q.2.2)) (fun ρ w' r=>jH _ w') ?_);rintro ρ wa3 v3 wb3 iv3 r he hw h_ ⟨d2,rfl,hz2⟩;clear r
  cases d2
  ·have hz2:¬kH q.2.2:=fun h=>by have:=hz2.2 h;cases this
   conv=>whnf
   intro ρe we re;exact⟨_,rfl,hw.tr re.bs,by show Value.int .i64 _=_;rw[dh,aL (by omega),aQ (by rw[hE,cD hx (show dx (f.nodes.take i) q=2 by rw[dx,aL (fun h=>hz2 h.2.2)]) (by decide)];decide),hE,cD hx (show dx (f.nodes.take i) q=2 by rw[dx,aL (fun h=>hz2 h.2.2)]) (by decide)]⟩
  replace hz2:=hz2.1 rfl;conv=>whnf
  refine gA hτ dH (.x 0 (.x 2 (.ld 1 104 (.x 3 (.ld 4 96 (.x 5 (.x 6 .nil))))))) (by kernel_rfl) (by kernel_rfl) ?_;conv=>whnf
  refine⟨⟨by omega,by omega,by omega⟩,?_⟩;refine⟨an,i,cn,by rw[show ((0:Int).toNat*3)=0*3 from rfl,Da];split<;>rfl,by simp,by simp,?_⟩;conv=>whnf
  refine cE hw (Φ:=fun _ w' v w2=>∃d,v= .bool d∧(d=true↔q∈f.nodes.take i)) (fun ρ w' r=>tI (p:=q) (fun g hg=>by have:=hS g hg;have:=r.bm;omega) (kE.bu (hf.nodes.take (Nat.le_of_lt hib)) fun g hg=>(hw.tr r.bs).block g (hS g hg))) ?_;rintro ρ wa4 v4 wb4 iv4 r he hw h_ ⟨d3,rfl,hz3⟩;clear r;conv=>whnf
  cases d3
  ·have hz3:q∉f.nodes.take i:=fun h=>by have:=hz3.2 h;cases this
   rw[fD hx (pB.2 ⟨⟨hz0,hz1,hz2⟩,hz3⟩)]at hE;conv=>whnf
   refine⟨((i+1:Nat):Int),by rw[wrap64]<;>omega,?_⟩;conv=>whnf
   intro ρ3 w6 r3;exact⟨(i+1,w6,_),⟨hib,hw.tr r3.bs,hE⟩,Sub.gen [] r3 ⟨rfl,trivial⟩ ⟨rfl,rfl,rfl,rfl,trivial⟩ (by simp[cY,cN.scopd,At.sc]) (by simp[cO,SV.sc,At.sc,cJ]) (by rfl) (fun lo hi h=>h),by dsimp only;omega⟩
  replace hz3:=hz3.1 rfl;conv=>whnf
  intro ρe we re;exact⟨_,rfl,hw.tr re.bs,by show Value.int .i64 _=_;rw[dh,aL (by omega),aQ (by rw[hE,cD hx (show dx (f.nodes.take i) q=12 by rw[dx,aQ ⟨hz0,hz1,hz2⟩,aQ hz3]) (by decide)];decide),hE,cD hx (show dx (f.nodes.take i) q=12 by rw[dx,aQ ⟨hz0,hz1,hz2⟩,aQ hz3]) (by decide)]⟩
 have hib:i=f.nodes.length:=aM hi (by simpa using hib);rw[gD (by omega)]at hE;clear hib hi;conv=>whnf
 refine r8 (fun ρ wa wb r hM0 hg hsz=>?_);have hw2:=(hw.tr r.bs).tr (cF.grown hg (fun x e=>by cases e) r.bm);have hB:w.heap.size<=wa.heap.size:=r.bm;have hM:tJ wb (Cv (fun _=>False) w.heap.size ((wa.heap.size,wa.heap.size+1)::iv)) wa.heap.size []:=⟨.inr ⟨hB,_,_,aH,aI _,bZ _⟩,hM0⟩
 generalize (wa.heap.size,wa.heap.size+1)::iv=iv2 at*
 obtain⟨gm,hgm⟩:∃gm,wa.heap.size=gm:=⟨_,rfl⟩
 rw[hgm]at hM ⊢;clear r hg hsz hM0 hw;have hw:=hw2;clear hw2;conv=>whnf
 refine⟨Nat×World×Iv,fun z=>⟨[(1,.o (.p 0 0)),(5,.o (.v (.map (some gm)))),(64,.o (.v (.slice ab f.bars.length cb))),(65,.o (.v (.int .i64 f.bars.length))),(66,.o (.v (.int .i64 ((z.1:Nat):Int))))],[(0,.box T.Frame [.v (.slice an f.nodes.length cn),.v (.slice ab f.bars.length cb),.v (.slice aq f.cG.length cq)])],1,z.2.2,z.2.1⟩,fun z=>f.bars.length-z.1,
  fun z=>z.1<=f.bars.length∧cF w.heap.size w z.2.1∧dq (eE f.nodes.length) [] f.bars=dq (eE f.nodes.length) (f.bars.take z.1) (f.bars.drop z.1)∧tJ z.2.1 (Cv (fun _=>False) w.heap.size z.2.2) gm ((f.bars.take z.1).map fun b=>kf (ew b)),?_,?_⟩
 ·intro ρ w' r3;exact⟨(0,w',iv2),⟨aO _,hw.tr r3.bs,rfl,hM.rel r3 (bl w)⟩,Sub.gen [] r3 ⟨rfl,trivial⟩ ⟨rfl,rfl,rfl,rfl,rfl,trivial⟩ (by simp[cY,cN.scopd,At.sc]) (by simp[cO,SV.sc,At.sc,cJ]) (by rfl) (fun lo hi h=>h)⟩
 clear hw hM hB hgm;rintro⟨i,w1,iv⟩ ⟨hi,hw,hE2,hM⟩;dsimp only at hi hw hE2 hM ⊢;conv=>whnf
 refine cW.mk (fun hib=>?_) (fun hib=>?_)
 ·have hib:i<f.bars.length:=by simpa using hib
  obtain⟨b,hx⟩:∃b,f.bars[i]? =some b:=⟨_,aA hib⟩
  obtain⟨adb,cs,hab,hF,-,hlb⟩:=hf.bars.load (by decide) hx;obtain⟨g0,g1,g2,g3,g4,g5,g6,g7,rfl,hF⟩:=hF;conv=>whnf
  refine⟨adb,hab,⟨by omega,by omega⟩,?_⟩;conv=>whnf
  refine⟨[.int .i64 b.1,.int .i64 b.2.1,.bool g0,.slice g1 g2 g3,.bool g4,.slice g5 g6 g7],rfl,fun ρ w' r j u hu=>?_,?_⟩
  ·obtain⟨k1,k2⟩:=hlb j u hu;rw[aB,bo (w:=w) (w2:=w') (by rw[cC,cC];exact(hw.tr r.bs).block _ (hS _ k1))];exact k2
  conv=>whnf
  refine bp (cE hw (Φ:=fun _ w' v w2=>∃d,v= .bool d∧(d=true↔gJ f.nodes.length b.1)) (fun ρ w' r=>Ax _ w' _ _ _ _ _ _ _ _ _) ?_);rintro ρ wa1 v1 wb1 iv1 r he hw h_ ⟨d0,rfl,hz0⟩;replace hM:=hM.bq r (bl w) he (mC h_);clear r
  cases d0
  ·have hz0:¬gJ f.nodes.length b.1:=fun h=>by have:=hz0.2 h;cases this
   conv=>whnf
   intro ρe we re;exact⟨_,rfl,hw.tr re.bs,by show Value.int .i64 _=_;rw[dh,aL (by omega),aL (by rw[hE];decide),aQ (by rw[hE2,cD hx (show eE f.nodes.length (f.bars.take i) b=6 by rw[eE,aL (fun h=>hz0 h.1)]) (by decide)];decide),hE2,cD hx (show eE f.nodes.length (f.bars.take i) b=6 by rw[eE,aL (fun h=>hz0 h.1)]) (by decide)]⟩
  replace hz0:=hz0.1 rfl;conv=>whnf
  refine bp (cE hw (Φ:=fun _ w' v w2=>∃d,v= .bool d∧(d=true↔gJ f.nodes.length b.2.1)) (fun ρ w' r=>Ax _ w' _ _ _ _ _ _ _ _ _) ?_);rintro ρ wa2 v2 wb2 iv2 r he hw h_ ⟨d1,rfl,hz1⟩;replace hM:=hM.bq r (bl w) he (mC h_);clear r
  cases d1
  ·have hz1:¬gJ f.nodes.length b.2.1:=fun h=>by have:=hz1.2 h;cases this
   conv=>whnf
   intro ρe we re;exact⟨_,rfl,hw.tr re.bs,by show Value.int .i64 _=_;rw[dh,aL (by omega),aL (by rw[hE];decide),aQ (by rw[hE2,cD hx (show eE f.nodes.length (f.bars.take i) b=6 by rw[eE,aL (fun h=>hz1 h.2)]) (by decide)];decide),hE2,cD hx (show eE f.nodes.length (f.bars.take i) b=6 by rw[eE,aL (fun h=>hz1 h.2)]) (by decide)]⟩
  replace hz1:=hz1.1 rfl;conv=>whnf
  refine cW.mk (fun hab2=>?_) (fun hab2=>?_)
  ·have hab2:b.1=b.2.1:=by simpa using hab2
   conv=>whnf
   intro ρe we re;exact⟨_,rfl,hw.tr re.bs,by show Value.int .i64 _=_;rw[dh,aL (by omega),aL (by rw[hE];decide),aQ (by rw[hE2,cD hx (show eE f.nodes.length (f.bars.take i) b=3 by rw[eE,aQ ⟨hz0,hz1⟩,aQ hab2]) (by decide)];decide),hE2,cD hx (show eE f.nodes.length (f.bars.take i) b=3 by rw[eE,aQ ⟨hz0,hz1⟩,aQ hab2]) (by decide)]⟩
  have hab2:b.1≠b.2.1:=by simpa using hab2
  conv=>whnf
  refine uA td qV xW rfl rfl (key:=kf (ew b)) (fun _=>rfl) ⟨_,rfl⟩ (fun k hk=>by obtain⟨x,_,rfl⟩:=aS.1 hk;exact⟨_,rfl⟩) (fun ρ w' r=>(hM.rel r (bl w)).2) (fun ρ w' d r hd=>?_);replace hw:=hw.tr r.bs;replace hM:=hM.rel r (bl w);replace hd:d=true↔ew b∈(f.bars.take i).map ew:=by
   rw[hd];constructor
   ·intro h;obtain⟨x,h1,h2⟩:=aS.1 h;exact aS.2 ⟨x,h1,mz h2⟩
   ·intro h;obtain⟨x,h1,h2⟩:=aS.1 h;exact aS.2 ⟨x,h1,congrArg kf h2⟩
  clear r
  cases d
  ·have hdup:ew b∉(f.bars.take i).map ew:=fun h=>by have:=hd.2 h;cases this
   clear hd;conv=>whnf
   refine bp (cE hw (Φ:=fun _ w' v w2=>v= .int .i64 (rs b.2.2)) (fun ρ w' r=>(yR (fun g hg=>by have:=hS g hg;have:=r.bm;omega) (hF.v.bu fun g hg=>(hw.tr r.bs).block g (hS g hg)) (dc.zero (S:=S)).v).mono fun _ _ ⟨v2,e1,e2,e3⟩=>⟨v2,e1,e2,by rw[e3,my]⟩) ?_);rintro ρ wa3 v3 wb3 iv3 r he hw h_ rfl;replace hM:=hM.bq r (bl w) he (mC h_);clear r;obtain⟨cf,hcf⟩:∃c,rs b.2.2=c:=⟨_,rfl⟩
   rw[hcf];conv=>whnf
   refine cW.mk (fun hd2=>?_) (fun hd2=>?_)
   ·have hd2:b.2.2<=0:=by have:=aG hd2;rw[<-Rat.not_lt,<-lQ];omega
    conv=>whnf
    intro ρe we re;exact⟨_,rfl,hw.tr re.bs,by show Value.int .i64 _=_;rw[dh,aL (by omega),aL (by rw[hE];decide),aQ (by rw[hE2,cD hx (show eE f.nodes.length (f.bars.take i) b=2 by rw[eE,aQ ⟨hz0,hz1⟩,aL hab2,aL hdup,aQ hd2]) (by decide)];decide),hE2,cD hx (show eE f.nodes.length (f.bars.take i) b=2 by rw[eE,aQ ⟨hz0,hz1⟩,aL hab2,aL hdup,aQ hd2]) (by decide)]⟩
   ·have hd2:0<b.2.2:=by have:=aF hd2;rw[<-lQ];omega
    conv=>whnf
    refine ns td qV rfl rfl (key:=kf (ew b)) (fun _=>rfl) rfl ⟨_,rfl⟩ (fun k hk=>by obtain⟨x,_,rfl⟩:=aS.1 hk;exact⟨_,rfl⟩) (fun h=>by
     obtain⟨x,h1,h2⟩:=aS.1 h
     exact hdup (aS.2 ⟨x,h1,mz h2⟩)) (fun ρ w' r=>⟨(hM.rel r (bl w)).2,Rel.not r (bl w) hM.1⟩) (fun ρ wa wb r hM2 hg hsz=>?_)
    replace hw:=(hw.tr r.bs).tr (cF.grown hg (fun x e=>by injection e with e;subst e;exact hM.1.elim (fun h=>h.elim) fun h=>h.1) r.bm);rw[show ((f.bars.take i).map fun b=>kf (ew b))++[kf (ew b)]=(f.bars.take (i+1)).map fun b=>kf (ew b) by rw[List.take_add_one,hx];simp]at hM2;replace hM:tJ wb (Cv (fun _=>False) w.heap.size iv3) gm ((f.bars.take (i+1)).map fun b=>kf (ew b)):=⟨hM.1,hM2⟩
    rw[fD hx (kO.2 ⟨⟨hz0,hz1⟩,hab2,hdup,hd2⟩)]at hE2;clear r hg hsz hM2;conv=>whnf
    refine⟨((i+1:Nat):Int),by rw[wrap64]<;>omega,?_⟩;conv=>whnf
    intro ρ3 w6 r3;exact⟨(i+1,w6,_),⟨hib,hw.tr r3.bs,hE2,hM.rel r3 (bl w)⟩,Sub.gen [] r3 ⟨rfl,trivial⟩ ⟨rfl,rfl,rfl,rfl,rfl,trivial⟩ (by simp[cY,cN.scopd,At.sc]) (by simp[cO,SV.sc,At.sc,cJ]) (by rfl) (fun lo hi h=>h),by dsimp only;omega⟩
  ·have hd:=hd.1 rfl;conv=>whnf
   intro ρe we re;exact⟨_,rfl,hw.tr re.bs,by show Value.int .i64 _=_;rw[dh,aL (by omega),aL (by rw[hE];decide),aQ (by rw[hE2,cD hx (show eE f.nodes.length (f.bars.take i) b=5 by rw[eE,aQ ⟨hz0,hz1⟩,aL hab2,aQ hd]) (by decide)];decide),hE2,cD hx (show eE f.nodes.length (f.bars.take i) b=5 by rw[eE,aQ ⟨hz0,hz1⟩,aL hab2,aQ hd]) (by decide)]⟩
 have hib:i=f.bars.length:=aM hi (by simpa using hib);rw[gD (by omega)]at hE2;have hE1:=hE2;clear hib hi hE2 hM;conv=>whnf
 refine r8 (fun ρ wa wb r hM0 hg hsz=>?_);have hw2:=(hw.tr r.bs).tr (cF.grown hg (fun x e=>by cases e) r.bm);have hB:w.heap.size<=wa.heap.size:=r.bm;have hM:tJ wb (Cv (fun _=>False) w.heap.size ((wa.heap.size,wa.heap.size+1)::iv)) wa.heap.size []:=⟨.inr ⟨hB,_,_,aH,aI _,bZ _⟩,hM0⟩
 generalize (wa.heap.size,wa.heap.size+1)::iv=iv2 at*
 obtain⟨gm,hgm⟩:∃gm,wa.heap.size=gm:=⟨_,rfl⟩
 rw[hgm]at hM ⊢;clear r hg hsz hM0 hw;have hw:=hw2;clear hw2;conv=>whnf
 refine⟨Nat×World×Iv,fun z=>⟨[(1,.o (.p 0 0)),(9,.o (.v (.map (some gm)))),(115,.o (.v (.slice aq f.cG.length cq))),(116,.o (.v (.int .i64 f.cG.length))),(117,.o (.v (.int .i64 ((z.1:Nat):Int))))],[(0,.box T.Frame [.v (.slice an f.nodes.length cn),.v (.slice ab f.bars.length cb),.v (.slice aq f.cG.length cq)])],1,z.2.2,z.2.1⟩,fun z=>f.cG.length-z.1,
  fun z=>z.1<=f.cG.length∧cF w.heap.size w z.2.1∧dq (iR f.nodes.length) [] f.cG=dq (iR f.nodes.length) (f.cG.take z.1) (f.cG.drop z.1)∧tJ z.2.1 (Cv (fun _=>False) w.heap.size z.2.2) gm ((f.cG.take z.1).map fun b=>kf (fu b)),?_,?_⟩
 ·intro ρ w' r3;exact⟨(0,w',iv2),⟨aO _,hw.tr r3.bs,rfl,hM.rel r3 (bl w)⟩,Sub.gen [] r3 ⟨rfl,trivial⟩ ⟨rfl,rfl,rfl,rfl,rfl,trivial⟩ (by simp[cY,cN.scopd,At.sc]) (by simp[cO,SV.sc,At.sc,cJ]) (by rfl) (fun lo hi h=>h)⟩
 clear hw hM hB hgm;rintro⟨i,w1,iv⟩ ⟨hi,hw,hE2,hM⟩;dsimp only at hi hw hE2 hM ⊢;conv=>whnf
 refine cW.mk (fun hib=>?_) (fun hib=>?_)
 ·have hib:i<f.cG.length:=by simpa using hib
  obtain⟨b,hx⟩:∃b,f.cG[i]? =some b:=⟨_,aA hib⟩
  obtain⟨adb,cs,hab,hF,-,hlb⟩:=hf.cG.load (by decide) hx;obtain⟨g0,g1,g2,g3,g4,g5,g6,g7,rfl,hF⟩:=hF;conv=>whnf
  refine⟨adb,hab,⟨by omega,by omega⟩,?_⟩;conv=>whnf
  refine⟨[.int .i64 b.1,.int .i64 b.2.1,.bool g0,.slice g1 g2 g3,.bool g4,.slice g5 g6 g7],rfl,fun ρ w' r j u hu=>?_,?_⟩
  ·obtain⟨k1,k2⟩:=hlb j u hu;rw[aB,bo (w:=w) (w2:=w') (by rw[cC,cC];exact(hw.tr r.bs).block _ (hS _ k1))];exact k2
  conv=>whnf
  refine bp (cE hw (Φ:=fun _ w' v w2=>∃d,v= .bool d∧(d=true↔gJ f.nodes.length b.1)) (fun ρ w' r=>Ax _ w' _ _ _ _ _ _ _ _ _) ?_);rintro ρ wa1 v1 wb1 iv1 r he hw h_ ⟨d0,rfl,hz0⟩;replace hM:=hM.bq r (bl w) he (mC h_);clear r
  cases d0
  ·have hz0:¬gJ f.nodes.length b.1:=fun h=>by have:=hz0.2 h;cases this
   conv=>whnf
   intro ρe we re;exact⟨_,rfl,hw.tr re.bs,by show Value.int .i64 _=_;rw[dh,aL (by omega),aL (by rw[hE];decide),aL (by rw[hE1];decide),hE2,cD hx (show iR f.nodes.length (f.cG.take i) b=6 by rw[iR,aL hz0]) (by decide)]⟩
  replace hz0:=hz0.1 rfl;conv=>whnf
  refine cW.mk (fun hx1=>?_) (fun hx1=>?_)
  ·have hx1:=aG hx1;conv=>whnf
   intro ρe we re;exact⟨_,rfl,hw.tr re.bs,by show Value.int .i64 _=_;rw[dh,aL (by omega),aL (by rw[hE];decide),aL (by rw[hE1];decide),hE2,cD hx (show iR f.nodes.length (f.cG.take i) b=2 by rw[iR,aQ hz0,aL (fun h=>by omega)]) (by decide)]⟩
  have hx1:=aF hx1;conv=>whnf
  refine cW.mk (fun hx2=>?_) (fun hx2=>?_)
  ·have hx2:=aG hx2;conv=>whnf
   intro ρe we re;exact⟨_,rfl,hw.tr re.bs,by show Value.int .i64 _=_;rw[dh,aL (by omega),aL (by rw[hE];decide),aL (by rw[hE1];decide),hE2,cD hx (show iR f.nodes.length (f.cG.take i) b=2 by rw[iR,aQ hz0,aL (fun h=>by omega)]) (by decide)]⟩
  have hx2:=aF hx2;conv=>whnf
  have hax:0<=b.2.1∧b.2.1<=2:=by omega
  refine uA td qV xW rfl rfl (key:=kf (fu b)) (fun _=>rfl) ⟨_,rfl⟩ (fun k hk=>by obtain⟨x,_,rfl⟩:=aS.1 hk;exact⟨_,rfl⟩) (fun ρ w' r=>(hM.rel r (bl w)).2) (fun ρ w' d r hd=>?_);replace hw:=hw.tr r.bs;replace hM:=hM.rel r (bl w);replace hd:d=true↔fu b∈(f.cG.take i).map fu:=by
   rw[hd];constructor
   ·intro h;obtain⟨x,h1,h2⟩:=aS.1 h;exact aS.2 ⟨x,h1,mz h2⟩
   ·intro h;obtain⟨x,h1,h2⟩:=aS.1 h;exact aS.2 ⟨x,h1,congrArg kf h2⟩
  clear r
  cases d
  ·have hdup:fu b∉(f.cG.take i).map fu:=fun h=>by have:=hd.2 h;cases this
   clear hd;conv=>whnf
   refine bp (cE hw (Φ:=fun _ w' v w2=>v= .int .i64 (rs b.2.2)) (fun ρ w' r=>(yR (fun g hg=>by have:=hS g hg;have:=r.bm;omega) (hF.v.bu fun g hg=>(hw.tr r.bs).block g (hS g hg)) (dc.zero (S:=S)).v).mono fun _ _ ⟨v2,e1,e2,e3⟩=>⟨v2,e1,e2,by rw[e3,my]⟩) ?_);rintro ρ wa2 v2 wb2 iv2 r he hw h_ rfl;replace hM:=hM.bq r (bl w) he (mC h_);clear r;obtain⟨cf,hcf⟩:∃c,rs b.2.2=c:=⟨_,rfl⟩
   rw[hcf];conv=>whnf
   refine cW.mk (fun hd2=>?_) (fun hd2=>?_)
   ·have hd2:b.2.2<0:=by have:=aG hd2;rw[<-jY];omega
    conv=>whnf
    intro ρe we re;exact⟨_,rfl,hw.tr re.bs,by show Value.int .i64 _=_;rw[dh,aL (by omega),aL (by rw[hE];decide),aL (by rw[hE1];decide),hE2,cD hx (show iR f.nodes.length (f.cG.take i) b=2 by rw[iR,aQ hz0,aQ hax,aL hdup,aQ hd2]) (by decide)]⟩
   ·have hd2:0<=b.2.2:=by have:=aF hd2;rw[<-Rat.not_lt,<-jY];omega
    conv=>whnf
    refine ns td qV rfl rfl (key:=kf (fu b)) (fun _=>rfl) rfl ⟨_,rfl⟩ (fun k hk=>by obtain⟨x,_,rfl⟩:=aS.1 hk;exact⟨_,rfl⟩) (fun h=>by
     obtain⟨x,h1,h2⟩:=aS.1 h
     exact hdup (aS.2 ⟨x,h1,mz h2⟩)) (fun ρ w' r=>⟨(hM.rel r (bl w)).2,Rel.not r (bl w) hM.1⟩) (fun ρ wa wb r hM2 hg hsz=>?_)
    replace hw:=(hw.tr r.bs).tr (cF.grown hg (fun x e=>by injection e with e;subst e;exact hM.1.elim (fun h=>h.elim) fun h=>h.1) r.bm);rw[show ((f.cG.take i).map fun b=>kf (fu b))++[kf (fu b)]=(f.cG.take (i+1)).map fun b=>kf (fu b) by rw[List.take_add_one,hx];simp]at hM2;replace hM:tJ wb (Cv (fun _=>False) w.heap.size iv2) gm ((f.cG.take (i+1)).map fun b=>kf (fu b)):=⟨hM.1,hM2⟩
    rw[fD hx (nQ.2 ⟨hz0,hax,hdup,hd2⟩)]at hE2;clear r hg hsz hM2;conv=>whnf
    refine⟨((i+1:Nat):Int),by rw[wrap64]<;>omega,?_⟩;conv=>whnf
    intro ρ3 w6 r3;exact⟨(i+1,w6,_),⟨hib,hw.tr r3.bs,hE2,hM.rel r3 (bl w)⟩,Sub.gen [] r3 ⟨rfl,trivial⟩ ⟨rfl,rfl,rfl,rfl,rfl,trivial⟩ (by simp[cY,cN.scopd,At.sc]) (by simp[cO,SV.sc,At.sc,cJ]) (by rfl) (fun lo hi h=>h),by dsimp only;omega⟩
  ·have hd:=hd.1 rfl;conv=>whnf
   intro ρe we re;exact⟨_,rfl,hw.tr re.bs,by show Value.int .i64 _=_;rw[dh,aL (by omega),aL (by rw[hE];decide),aL (by rw[hE1];decide),hE2,cD hx (show iR f.nodes.length (f.cG.take i) b=5 by rw[iR,aQ hz0,aQ hax,aQ hd]) (by decide)]⟩
 have hib:i=f.cG.length:=aM hi (by simpa using hib);rw[gD (by omega)]at hE2;conv=>whnf
 intro ρe we re;exact⟨_,rfl,hw.tr re.bs,by show Value.int .i64 _=_;rw[dh,aL (by omega),aL (by rw[hE];decide),aL (by rw[hE1];decide),hE2]⟩
theorem jZ{S:Nat->Prop}{w:World}{vn vb vs vl:Value}{f:eX}{l:List Ld}(hS:Old S w)(hf:dE w S vn vb vs f)(hl:eh w S vl l):dQ PG N.jO #[.agg #[vn,vb,vs],vl] w (dU w fun v' _=>v'= .int .i64 (iS f l)):=by
 have hw:cF w.heap.size w w:=cF.refl;obtain⟨an,cn,ab,cb,aq,cq,rfl,rfl,rfl,hmn,hmb,hms⟩:=hf.shape;obtain⟨al,cl,rfl,hcl,hml⟩:=hl.shape;refine lj (by simp) ?_;conv=>whnf
 refine bp (cE hw (Φ:=fun _ w' v w2=>v= .int .i64 (dh f)) (fun ρ w' r=>AA (fun g hg=>by have:=hS g hg;have:=r.bm;omega) (hf.bu fun g hg=>(hw.tr r.bs).block g (hS g hg))) ?_);rintro ρ wa1 v1 wb1 iv1 r he hw h_ rfl;clear r;obtain⟨c,hc⟩:∃c,dh f=c:=⟨_,rfl⟩
 rw[hc];conv=>whnf
 refine cW.mk (fun hd=>?_) (fun hd=>?_)
 ·have hd:c≠0:=by simpa using hd
  conv=>whnf
  intro ρe we re;exact⟨_,rfl,hw.tr re.bs,by show Value.int .i64 _=_;rw[iS,aQ (by rw[hc];exact hd),hc]⟩
 have hd:c=0:=by simpa using hd
 conv=>whnf
 refine bp (cE hw (Φ:=fun _ w' v w2=>v= .int .i64 (qU f.nodes.length l)) (fun ρ w' r=>wR (fun g hg=>by have:=hS g hg;have:=r.bm;omega) (hl.bu fun g hg=>(hw.tr r.bs).block g (hS g hg))) ?_);rintro ρ wa2 v2 wb2 iv2 r he hw h_ rfl;clear r;conv=>whnf
 intro ρe we re;exact⟨_,rfl,hw.tr re.bs,by show Value.int .i64 _=_;rw[iS,aL (by rw[hc,hd];decide)]⟩
structure Calm(f:eX)(h:Nat):Prop where
 ok:oO f
 c0:0<f.cols
 b2:tG (dM f) f.cols h
 a2:Ht (dF (dM f) f.cols).1 h
 st:tU (dM f) f.cols=[]
 hh:3*h<=90000
structure Db(f:eX)(l:List Ld)(h:Nat)(x:List Rat):Prop where
 ok:qS f.nodes.length l
 b1:tG (gj (dM f) (eO (e9 f l) (-1))) (f.cols+1) h
 x:gk (dM f) (eO (e9 f l) (-1)) f.cols=some x
theorem gE(f:eX)(l:List Ld):(e9 f l).length=3*f.nodes.length:=by rw[e9,cK,aK,iA]
theorem qW(a b:List Rat):(jb a b).length=a.length:=List.length_mapIdx ..
theorem Az(M:List (List Rat))(n:Nat):qo M.length (dR M n):=fun r hr=>by
 obtain⟨k,_,rfl⟩:=aS.1 hr;exact aK ..
theorem BA{S:Nat->Prop}{w:World}{vn vb vs vl:Value}{f:eX}{l:List Ld}{x:List Rat}{h:Nat}(hS:Old S w)(hf:dE w S vn vb vs f)(hl:eh w S vl l)(hc:Calm f h)(hB:Db f l h x)(herr:iS f l=0):
  dQ PG N.mW #[.agg #[vn,vb,vs],vl] w (dU w fun v' w2=>∃vx,v'= .tuple #[vx,.int .i64 0]∧cB w2 (Nw (fun _=>False) w w2) vx x):=by
 have hw:cF w.heap.size w w:=cF.refl;obtain⟨an,cn,ab,cb,aq,cq,rfl,rfl,rfl,hmn,hmb,hms⟩:=hf.shape;obtain⟨al,cl,rfl,hcl,hml⟩:=hl.shape;obtain⟨hn20,hb60,hs60⟩:=And.intro hc.ok.n (And.intro hc.ok.b hc.ok.s);have hcols:f.cols=f.bars.length+f.cG.length:=rfl;have htl:=jr f;refine qD (by simp) ?_;conv=>whnf
 refine bp (cE hw (Φ:=fun _ w' v w2=>v= .int .i64 0) (fun ρ w' r=>(jZ (fun g hg=>by have:=hS g hg;have:=r.bm;omega) (hf.bu fun g hg=>(hw.tr r.bs).block g (hS g hg)) (hl.bu fun g hg=>(hw.tr r.bs).block g (hS g hg))).mono fun _ _ ⟨v2,e1,e2,e3⟩=>⟨v2,e1,e2,by rw[e3,herr]⟩) ?_);rintro ρ wa1 v1 wb1 iv1 r he hw h_ rfl;clear r;conv=>whnf
 refine bw hτ dH [.x 0,.x 1,.x 2,.x 3,.x 4,.x 5,.x 6,.x 7,.x 8,.x 9] (by kernel_rfl) (by kernel_rfl) ?_;conv=>whnf
 refine cE hw (Φ:=fun _ w' v w2=>dK w2 (fun _=>False) w'.heap.size [(w'.heap.size,w2.heap.size)] v (3*f.nodes.length) (e9 f l)∧∀q∈e9 f l,rl q<=1) (fun ρ w' r=>rQ (fun g hg=>by have:=hS g hg;have:=r.bm;omega) (hl.bu fun g hg=>(hw.tr r.bs).block g (hS g hg)) hn20 hB.ok rfl rfl) ?_;rintro ρ wa2 v2 wb2 iv2 r he hw h_ ⟨hn,hvq⟩;have hP:=hn.cQ (S:=fun _=>False) r.bm (mN h_);clear r;clear hn;obtain⟨ap,cp,rfl,hcp⟩:=hP.row.form;conv=>whnf
 refine cE hw (Φ:=fun _ w' v w2=>∃vx,v= .tuple #[vx,.bool true]∧dK w2 (fun _=>False) w'.heap.size [(w'.heap.size,w2.heap.size)] vx f.cols x) (fun ρ w' r=>(vO (S:=fun g=>S g∨Cv (fun _=>False) w.heap.size iv2 g) (p:=e9 f l) (h:=h) (fun g hg=>hg.elim (fun hg=>by have:=hS g hg;have:=r.bm;omega) (Rel.old r (bl w) g)) ((hf.bu fun g hg=>(hw.tr r.bs).block g (hS g hg)).bz fun g hg=>.inl hg) hc.ok (cB.bz ((hP.rel r (bl w)).c) fun g hg=>.inr hg) (gE f l) (fun q hq=>by have:=hvq q hq;omega) hc.c0 hB.b1 hc.b2 hc.a2 hc.st hc.hh).mono fun _ _ ⟨v2,e1,e2,e3⟩=>⟨v2,e1,e2,by
  rcases e3 with⟨k1,_⟩|⟨x2,vx,k1,k2,k3⟩
  ·rw[hB.x]at k1;cases k1
  ·rw[hB.x]at k1;injection k1 with k1;subst k1;exact⟨vx,k2,k3⟩⟩) ?_
 rintro ρ wa3 v3 wb3 iv3 r he hw h_ ⟨vx,rfl,hn⟩;clear hP;have hX:=hn.cQ (S:=fun _=>False) r.bm (mN h_);clear r;clear hn;obtain⟨ax,cx,rfl,hcx⟩:=hX.row.form;conv=>whnf
 intro ρe we re;exact⟨_,rfl,hw.tr re.bs,_,rfl,cB.out hX.c re (bl w)⟩
theorem C2{S:Nat->Prop}{w:World}{vn vb vs:Value}{f:eX}{h:Nat}(hS:Old S w)(hf:dE w S vn vb vs f)(hc:Calm f h)(herr:dh f=0)(hnr0:(dF (dM f) f.cols).1.length<=f.cols):
  dQ PG N.oB #[.agg #[vn,vb,vs]] w (dU w fun v' _=>v'= .tuple #[.agg #[.int .i64 (dF (dM f) f.cols).1.length,.int .i64 ((f.cols:Int)-(dF (dM f) f.cols).1.length),.int .i64 ((3*f.nodes.length:Nat)-(dF (dM f) f.cols).1.length)],.int .i64 0]):=by
 have hw:cF w.heap.size w w:=cF.refl;obtain⟨an,cn,ab,cb,aq,cq,rfl,rfl,rfl,hmn,hmb,hms⟩:=hf.shape;obtain⟨hn20,hb60,hs60⟩:=And.intro hc.ok.n (And.intro hc.ok.b hc.ok.s);have hcols:f.cols=f.bars.length+f.cG.length:=rfl;have htl:=jr f;refine rB (by simp) ?_;conv=>whnf
 refine bp (cE hw (Φ:=fun _ w' v w2=>v= .int .i64 0) (fun ρ w' r=>(AA (fun g hg=>by have:=hS g hg;have:=r.bm;omega) (hf.bu fun g hg=>(hw.tr r.bs).block g (hS g hg))).mono fun _ _ ⟨v2,e1,e2,e3⟩=>⟨v2,e1,e2,by rw[e3,herr]⟩) ?_);rintro ρ wa1 v1 wb1 iv1 r he hw h_ rfl;clear r;conv=>whnf
 refine bp (cE hw (Φ:=fun _ w' v w2=>(∃vr,v= .agg #[vr,.int .i64 f.cols]∧cI w2 (Nw (fun _=>False) w' w2) vr (dM f))∧qo f.cols (dM f)∧Ht (dM f) 2) (fun ρ w' r=>lP (S:=S) (fun g hg=>by have:=hS g hg;have:=r.bm;omega) (hf.bu fun g hg=>(hw.tr r.bs).block g (hS g hg)) hc.ok) ?_);rintro ρ wa1 v1 wb1 ivt r he hw h_ ⟨⟨vr,rfl,k1⟩,hlen,hht⟩;have hM:=cI.cQ (S:=fun _=>False) k1 r.bm (mN h_);clear r;obtain⟨am,cm,rfl,hcm,hmm⟩:=dS.shape hM;have hmt:=htl;have hhc:=hc.c0;conv=>whnf
 refine bp (cE hw (Φ:=fun _ w' v w2=>∃vr vp vf,v= .agg #[vr,.int .i64 f.cols,vp,vf]∧cI w2 (Nw (Cv (fun _=>False) w.heap.size ivt) w' w2) vr (dF (dM f) f.cols).1) (fun ρ w' r=>(nS (C:=Cv (fun _=>False) w.heap.size ivt) (S:=Cv (fun _=>False) w.heap.size ivt) (h:=h) (Rel.old r (bl w)) (Rel.old r (bl w)) (cI.rel hM r (bl w)) hlen hc.c0 (by omega) (by omega) (aI _) hc.b2 hc.hh).mono fun _ _ ⟨v2,e1,e2,vr,vp,vf,k1,k2,_,_⟩=>⟨v2,e1,e2,vr,vp,vf,k1,k2⟩) ?_);rintro ρ wa2 v2 wb2 iv2 r he hw h_ ⟨vr2,vp2,vf2,rfl,hn⟩;replace hM:=cI.bq hM r (bl w) he (mC h_);clear r;obtain⟨ar,cr,rfl,-,-⟩:=dS.shape hn;obtain⟨nr,hnr⟩:∃nr,(dF (dM f) f.cols).1.length=nr:=⟨_,rfl⟩
 rw[hnr];clear hn;conv=>whnf
 refine⟨(f.cols:Int)-nr,by rw[wrap64]<;>omega,?_⟩;conv=>whnf
 refine⟨((dM f).length:Int)-nr,by rw[wrap64]<;>omega,?_⟩;conv=>whnf
 intro ρe we re;exact⟨_,rfl,hw.tr re.bs,by rw[htl];rfl⟩
set_option maxHeartbeats 1000000 in
theorem y6{S:Nat->Prop}{w:World}{vn vb vs vl:Value}{f:eX}{l:List Ld}{x u:List Rat}{h:Nat}(hS:Old S w)(hf:dE w S vn vb vs f)(hl:eh w S vl l)(hc:Calm f h)(hB:Db f l h x)(herr:iS f l=0)
  (hrank:(dF (dM f) f.cols).1.length=3*f.nodes.length) (hxl:x.length=f.cols) (hxq:∀q∈x,rl q<=100000) (heq:∀q∈jb x (jM f),rl q<=100000)
  (hB3:tG (gj (dR (dM f) f.cols) (eO (jb x (jM f)) (-1))) (3*f.nodes.length+1) h) (hu:gk (dR (dM f) f.cols) (eO (jb x (jM f)) (-1)) (3*f.nodes.length)=some u):
  dQ PG N.kP #[.agg #[vn,vb,vs],vl] w (dU w fun v' w2=>∃vu vx,v'= .tuple #[vu,vx,.int .i64 0]∧cB w2 (Nw (fun _=>False) w w2) vu u∧cB w2 (Nw (fun _=>False) w w2) vx x):=by
 have hw:cF w.heap.size w w:=cF.refl;obtain⟨an,cn,ab,cb,aq,cq,rfl,rfl,rfl,hmn,hmb,hms⟩:=hf.shape;obtain⟨al,cl,rfl,hcl,hml⟩:=hl.shape;obtain⟨hn20,hb60,hs60⟩:=And.intro hc.ok.n (And.intro hc.ok.b hc.ok.s);have hcols:f.cols=f.bars.length+f.cG.length:=rfl;have htl:=jr f;refine nc (by simp) ?_;conv=>whnf
 refine bp (cE hw (Φ:=fun _ w' v w2=>v= .int .i64 0) (fun ρ w' r=>(jZ (fun g hg=>by have:=hS g hg;have:=r.bm;omega) (hf.bu fun g hg=>(hw.tr r.bs).block g (hS g hg)) (hl.bu fun g hg=>(hw.tr r.bs).block g (hS g hg))).mono fun _ _ ⟨v2,e1,e2,e3⟩=>⟨v2,e1,e2,by rw[e3,herr]⟩) ?_);rintro ρ wa1 v1 wb1 iv1 r he hw h_ rfl;clear r;conv=>whnf
 refine bp (cE hw (Φ:=fun _ w' v w2=>(∃vr,v= .agg #[vr,.int .i64 f.cols]∧cI w2 (Nw (fun _=>False) w' w2) vr (dM f))∧qo f.cols (dM f)∧Ht (dM f) 2) (fun ρ w' r=>lP (S:=S) (fun g hg=>by have:=hS g hg;have:=r.bm;omega) (hf.bu fun g hg=>(hw.tr r.bs).block g (hS g hg)) hc.ok) ?_);rintro ρ wa1 v1 wb1 ivt r he hw h_ ⟨⟨vr,rfl,k1⟩,hlen,hht⟩;have hM:=cI.cQ (S:=fun _=>False) k1 r.bm (mN h_);clear r;obtain⟨am,cm,rfl,hcm,hmm⟩:=dS.shape hM;have hmt:=htl;have hhc:=hc.c0;conv=>whnf
 refine bw hτ dH [.x 0,.x 1,.x 2,.x 7,.x 8,.x 9,.x 3,.x 4,.x 5,.x 6,.x 10] (by kernel_rfl) (by kernel_rfl) ?_;conv=>whnf
 refine cE hw (Φ:=fun _ w' v w2=>∃vr vp vf,v= .agg #[vr,.int .i64 f.cols,vp,vf]∧cI w2 (Nw (Cv (fun _=>False) w.heap.size ivt) w' w2) vr (dF (dM f) f.cols).1) (fun ρ w' r=>(nS (C:=Cv (fun _=>False) w.heap.size ivt) (S:=Cv (fun _=>False) w.heap.size ivt) (h:=h) (Rel.old r (bl w)) (Rel.old r (bl w)) (cI.rel hM r (bl w)) hlen hc.c0 (by omega) (by omega) (aI _) hc.b2 hc.hh).mono fun _ _ ⟨v2,e1,e2,vr,vp,vf,k1,k2,_,_⟩=>⟨v2,e1,e2,vr,vp,vf,k1,k2⟩) ?_;rintro ρ wa2 v2 wb2 iv2 r he hw h_ ⟨vr2,vp2,vf2,rfl,hn⟩;replace hM:=cI.bq hM r (bl w) he (mC h_);clear r;obtain⟨ar,cr,rfl,-,-⟩:=dS.shape hn;obtain⟨nr,hnr⟩:∃nr,(dF (dM f) f.cols).1.length=nr:=⟨_,rfl⟩
 rw[hnr];clear hn;conv=>whnf
 have hnr2:(nr:Int)=(dM f).length:=by rw[<-hnr,hrank,htl]
 refine cW.mk (fun h1=>absurd (aG h1) (by omega)) (fun _=>?_);conv=>whnf
 refine bw hτ dH [.x 0,.x 1,.x 2,.x 3,.x 4,.x 5,.x 6,.x 7,.x 8,.x 9] (by kernel_rfl) (by kernel_rfl) ?_;conv=>whnf
 refine cE hw (Φ:=fun _ w' v w2=>dK w2 (fun _=>False) w'.heap.size [(w'.heap.size,w2.heap.size)] v (3*f.nodes.length) (e9 f l)∧∀q∈e9 f l,rl q<=1) (fun ρ w' r=>rQ (fun g hg=>by have:=hS g hg;have:=r.bm;omega) (hl.bu fun g hg=>(hw.tr r.bs).block g (hS g hg)) hn20 hB.ok rfl rfl) ?_;rintro ρ wa3 v3 wb3 iv3 r he hw h_ ⟨hn,hvq⟩;replace hM:=cI.bq hM r (bl w) he (mC h_);have hP:=hn.cQ (S:=fun _=>False) r.bm (mN h_);clear r;clear hn;obtain⟨ap,cp,rfl,hcp⟩:=hP.row.form;conv=>whnf
 refine cE hw (Φ:=fun _ w' v w2=>∃vx,v= .tuple #[vx,.bool true]∧dK w2 (fun _=>False) w'.heap.size [(w'.heap.size,w2.heap.size)] vx f.cols x) (fun ρ w' r=>(vO (S:=fun g=>S g∨Cv (fun _=>False) w.heap.size iv3 g) (p:=e9 f l) (h:=h) (fun g hg=>hg.elim (fun hg=>by have:=hS g hg;have:=r.bm;omega) (Rel.old r (bl w) g)) ((hf.bu fun g hg=>(hw.tr r.bs).block g (hS g hg)).bz fun g hg=>.inl hg) hc.ok (cB.bz ((hP.rel r (bl w)).c) fun g hg=>.inr hg) (gE f l) (fun q hq=>by have:=hvq q hq;omega) hc.c0 hB.b1 hc.b2 hc.a2 hc.st hc.hh).mono fun _ _ ⟨v2,e1,e2,e3⟩=>⟨v2,e1,e2,by
  rcases e3 with⟨k1,_⟩|⟨x2,vx,k1,k2,k3⟩
  ·rw[hB.x]at k1;cases k1
  ·rw[hB.x]at k1;injection k1 with k1;subst k1;exact⟨vx,k2,k3⟩⟩) ?_
 rintro ρ wa4 v4 wb4 iv4 r he hw h_ ⟨vx,rfl,hn⟩;replace hM:=cI.bq hM r (bl w) he (mC h_);clear hP;have hX:=hn.cQ (S:=fun _=>False) r.bm (mN h_);clear r;clear hn;obtain⟨ax,cx,rfl,hcx⟩:=hX.row.form;conv=>whnf
 refine bw hτ dH [.x 0,.x 2,.x 3,.x 1,.x 4,.x 5,.x 6,.x 7,.x 8,.x 9,.x 10,.x 11,.x 12,.x 13] (by kernel_rfl) (by kernel_rfl) ?_;conv=>whnf
 refine cA (Φ:=fun _ w' v w2=>∃vr,v= .agg #[vr,.int .i64 (dM f).length]∧cI w2 (Nw (Cv (fun _=>False) w.heap.size iv4) w' w2) vr (dR (dM f) f.cols)) (fun ρ w' r=>oN (C:=Cv (fun _=>False) w.heap.size iv4) (S:=Cv (fun _=>False) w.heap.size iv4) (Rel.old r (bl w)) (Rel.old r (bl w)) (cI.rel hM r (bl w)) hlen (by omega) (by omega)) ?_;rintro ρ wa5 v5 wb5 r he hb ⟨vt,rfl,hn⟩;replace hw:=hw.tr hb;clear hM;replace hX:=hX.bq (iv':=(wa5.heap.size,wb5.heap.size)::iv4) r (bl w) he fun x hx=>aC _ hx;have hT:=cI.old hn r.bm;clear r he hb;generalize (wa5.heap.size,wb5.heap.size)::iv4=iv5 at*
 clear hn;obtain⟨at_,ct,rfl,-,-⟩:=dS.shape hT;conv=>whnf
 refine cA (Φ:=fun _ w' v w2=>cS w2 (Nw (Cv S w.heap.size iv5) w' w2) v (jM f)) (fun ρ w' r=>xU (S:=Cv S w.heap.size iv5) (Rel.old r hS) (dE.bz (hf.bu fun g hg=>(hw.tr r.bs).block g (hS g hg)) fun g hg=>.inl hg) hc.ok) ?_;rintro ρ wa6 v6 wb6 r he hb hn;replace hw:=hw.tr hb;replace hX:=hX.bq (iv':=(wa6.heap.size,wb6.heap.size)::iv5) r (bl w) he fun x hx=>aC _ hx;replace hT:=cI.bq (iv':=(wa6.heap.size,wb6.heap.size)::iv5) hT r (bl w) he fun x hx=>aC _ hx;have hF:=cS.old hn r.bm;clear r he hb hn;generalize (wa6.heap.size,wb6.heap.size)::iv5=iv6 at*
 obtain⟨afl,cfl,rfl,-,-⟩:=cd.shape hF;conv=>whnf
 refine cE hw (Φ:=fun _ w' v w2=>dK w2 (fun _=>False) w'.heap.size [(w'.heap.size,w2.heap.size)] v x.length (jb x (jM f))) (fun ρ w' r=>Ec (S:=Cv S w.heap.size iv6) (Rel.old r hS) (cS.bz (cB.l ((hX.rel r (bl w)).c) fun q hq=>hxq q hq) fun g hg=>ET hg) (cS.rel hF r hS) (by rw[hxl,qT];exact aI _) (by omega)) ?_;rintro ρ wa7 v7 wb7 iv7 r he hw h_ hn;replace hX:=hX.bq r (bl w) he (mC h_);replace hT:=cI.bq hT r (bl w) he (mC h_);clear hF;have hE:=hn.cQ (S:=fun _=>False) r.bm (mN h_);clear r he hn;obtain⟨ae,ce,rfl,hce⟩:=hE.row.form;conv=>whnf
 refine cE hw (Φ:=fun _ w' v w2=>cH w2 (Nw (fun _=>False) w' w2) v ((-1:Int):Rat)) (fun ρ w' r=>iQ (-1) w' (by decide) (by decide)) ?_;rintro ρ wa8 v8 wb8 iv8 r he hw h_ hn;replace hX:=hX.bq r (bl w) he (mC h_);replace hT:=cI.bq hT r (bl w) he (mC h_);replace hE:=hE.bq r (bl w) he (mC h_);have hd:=hn.cQ (S:=fun _=>False) r.bm (mN h_);clear r he hn;obtain⟨s8_0,s8_1,s8_2,s8_3,s8_4,s8_5,s8_6,s8_7,rfl⟩:=hd.shape;conv=>whnf
 refine cE hw (Φ:=fun _ w' v w2=>dK w2 (fun _=>False) w'.heap.size [(w'.heap.size,w2.heap.size)] v (jb x (jM f)).length (eO (jb x (jM f)) (-1))) (fun ρ w' r=>xQ (S:=Cv (fun _=>False) w.heap.size iv8) (Rel.old r (bl w)) (cB.l ((hE.rel r (bl w)).c) heq) ((hd.rel r (bl w)).l (by decide)) (by rw[qW];omega)) ?_;rintro ρ wa9 v9 wb9 iv9 r he hw h_ hn;replace hX:=hX.bq r (bl w) he (mC h_);replace hT:=cI.bq hT r (bl w) he (mC h_);clear hE;clear hd;have hG:=hn.cQ (S:=fun _=>False) r.bm (mN h_);clear r he hn;obtain⟨ag,cg,rfl,hcg⟩:=hG.row.form;conv=>whnf
 refine cA (Φ:=fun _ w' v w2=>∃vu,v= .tuple #[vu,.bool true]∧dK w2 (Cv (fun _=>False) w.heap.size iv9) w'.heap.size [(w'.heap.size,w2.heap.size)] vu (dM f).length u) (fun ρ w' r=>(vM (C:=Cv (fun _=>False) w.heap.size iv9) (S:=Cv (fun _=>False) w.heap.size iv9) (h:=h) (Rel.old r (bl w)) (Rel.old r (bl w)) (cI.rel hT r (bl w)) ((hG.rel r (bl w)).c) (by rw[eO,aK,qW,gQ];exact hxl) (Az _ _) (by omega) (by rw[gQ];omega) (by rw[htl];exact hB3) hc.hh).mono fun _ _ ⟨v2,e1,e2,e3⟩=>⟨v2,e1,e2,by
  rcases e3 with⟨k1,_⟩|⟨x2,vx,k1,k2,k3⟩
  ·rw[htl,hu]at k1;cases k1
  ·rw[htl,hu]at k1;injection k1 with k1;subst k1;exact⟨vx,k2,k3⟩⟩) ?_
 rintro ρ wa10 v10 wb10 r he hb ⟨vu,rfl,hn⟩;replace hw:=hw.tr hb;replace hX:=hX.bq (iv':=(wa10.heap.size,wb10.heap.size)::iv9) r (bl w) he fun x hx=>aC _ hx;clear hT;clear hG;have hU:=hn.GR r.bm;clear r he hb;generalize (wa10.heap.size,wb10.heap.size)::iv9=iv10 at*
 clear hn;obtain⟨au,cu,rfl,hcu⟩:=hU.row.form;conv=>whnf
 intro ρe we re;exact⟨_,rfl,hw.tr re.bs,_,_,rfl,cB.out hU.c re (bl w),cB.out hX.c re (bl w)⟩
theorem Fi{r s n:Nat}(h1:r*r<=n)(h2:n<(r+1)*(r+1))(h3:s*s<=n)(h4:n<(s+1)*(s+1)):r=s:=by
 rcases Nat.lt_trichotomy r s with h|h|h
 ·have:=Nat.mul_le_mul (show r+1<=s from h) (show r+1<=s from h);omega
 ·exact h
 ·have:=Nat.mul_le_mul (show s+1<=r from h) (show s+1<=r from h);omega
theorem Ei(n:Nat)(w:World)(hn:n<4000000004000000001):dQ PG N.pw #[.int .i64 n] w (dU w fun v' _=>∃r:Nat,v'= .int .i64 r∧r*r<=n∧n<(r+1)*(r+1)):=by
 have hw:cF w.heap.size w w:=cF.refl;refine tA (by simp) ?_;conv=>whnf
 refine⟨Nat×Int×World,fun z=>⟨[(0,.o (.v (.int .i64 n))),(3,.o (.v (.int .i64 ((z.1:Nat):Int)))),(4,.o (.v (.int .i64 z.2.1)))],[],0,[],z.2.2⟩,fun z=>(z.2.1-z.1).toNat,
  fun z=>(z.1:Int)<=z.2.1∧z.2.1<=2000000000∧cF w.heap.size w z.2.2∧z.1*z.1<=n∧(n:Int)<(z.2.1+1)*(z.2.1+1),?_,?_⟩
 ·intro ρ w' r3;exact⟨(0,2000000000,w'),⟨by simp,by simp,hw.tr r3.bs,by simp,by dsimp only;omega⟩,Sub.gen [] r3 trivial ⟨rfl,rfl,rfl,trivial⟩ (by simp[cY,cN.scopd,At.sc]) (by simp[cO,SV.sc,At.sc,cJ]) (by rfl) (fun lo hi h=>h)⟩
 clear hw;rintro⟨lo,hi,w1⟩ ⟨hlh,hhi,hw,hlo,hup⟩;dsimp only at hlh hhi hw hlo hup ⊢;obtain⟨hi,rfl⟩:=Int.eq_ofNat_of_zero_le (show 0<=hi by omega);replace hup:n<(hi+1)*(hi+1):=by
  have h:((hi:Int)+1)*((hi:Int)+1)=(((hi+1)*(hi+1):Nat):Int):=by push_cast;rfl
  rw[h]at hup;omega
 conv=>whnf
 refine cW.mk (fun hib=>?_) (fun hib=>?_)
 ·have hib:lo<hi:=by have:=aG hib;omega
  obtain⟨m,hm⟩:∃m,(lo+hi+1) / 2=m:=⟨_,rfl⟩
  have hm1:lo<m:=by omega
  have hm2:m<=hi:=by omega
  have hmm:m*m<=2000000000*2000000000:=Nat.mul_le_mul (by omega) (by omega);conv=>whnf
  refine⟨((lo+hi:Nat):Int),by rw[wrap64]<;>omega,?_⟩;conv=>whnf
  refine⟨((lo+hi+1:Nat):Int),by rw[wrap64]<;>omega,?_⟩;conv=>whnf
  refine⟨by decide,(m:Int),by rw[show ((lo+hi+1:Nat):Int).tdiv 2=(((lo+hi+1) / 2:Nat):Int)from rfl,hm,wrap64]<;>omega,?_⟩;conv=>whnf
  refine⟨((m*m:Nat):Int),by rw[wrap64]<;>push_cast<;>first|rfl|omega,?_⟩;conv=>whnf
  refine cW.mk (fun hd=>?_) (fun hd=>?_)
  ·have hd:m*m<=n:=by have:=aG hd;omega
   conv=>whnf
   intro ρ3 w6 r3;exact⟨(m,hi,w6),⟨by dsimp only;omega,hhi,hw.tr r3.bs,hd,by dsimp only;rw[show ((hi:Int)+1)*((hi:Int)+1)=(((hi+1)*(hi+1):Nat):Int) by push_cast;rfl];omega⟩,Sub.gen [] r3 trivial ⟨rfl,rfl,rfl,trivial⟩ (by simp[cY,cN.scopd,At.sc]) (by simp[cO,SV.sc,At.sc,cJ]) (by rfl) (fun lo hi h=>h),by dsimp only;omega⟩
  ·have hd:n<m*m:=by have:=aF hd;omega
   conv=>whnf
   have hu3:(lo:Int)<=((m-1:Nat):Int):=by omega
   have hu4:((m-1:Nat):Int)<=2000000000:=by omega
   have hu2:(n:Int)<(((m-1:Nat):Int)+1)*(((m-1:Nat):Int)+1):=by rw[show ((m-1:Nat):Int)+1=m by omega];exact_mod_cast hd
   refine⟨((m-1:Nat):Int),by rw[wrap64]<;>omega,?_⟩;conv=>whnf
   intro ρ3 w6 r3;exact⟨(lo,((m-1:Nat):Int),w6),⟨hu3,hu4,hw.tr r3.bs,hlo,hu2⟩,Sub.gen [] r3 trivial ⟨rfl,rfl,rfl,trivial⟩ (by simp[cY,cN.scopd,At.sc]) (by simp[cO,SV.sc,At.sc,cJ]) (by rfl) (fun lo hi h=>h),by dsimp only;omega⟩
 have hib:lo=hi:=by have:=aF hib;omega
 subst hib;conv=>whnf
 intro ρe we re;exact⟨_,rfl,hw.tr re.bs,_,rfl,hlo,hup⟩
theorem Ej(n:Int)(w:World):dQ PG N.iN #[.int .i64 n] w (dU w fun v' _=>∃d,v'= .bool d∧(d=true↔0<=n∧n<=1000000)):=by
 have hw:cF w.heap.size w w:=cF.refl;refine k5 (by simp) ?_;conv=>whnf
 refine cW.mk (fun h1=>?_) (fun h1=>?_)
 ·conv=>whnf
  intro ρe we re;have h1:=aG h1;exact⟨_,rfl,hw.tr re.bs,_,rfl,by rw[decide_eq_true_iff];exact⟨fun h=>⟨h1,h⟩,fun h=>h.2⟩⟩
 ·conv=>whnf
  intro ρe we re;have h1:=aF h1;exact⟨_,rfl,hw.tr re.bs,_,rfl,(fun h=>by cases h),fun h=>absurd h.1 h1⟩
theorem Dc(sq st:Nat)(w:World)(h0:0<sq)(h1:st<=1000000):dQ PG N.oG #[.int .i64 sq,.int .i64 st] w (dU w fun v' w2=>∃r:Nat,r*r<=st*st*1000*1000 / sq∧st*st*1000*1000 / sq<(r+1)*(r+1)∧cH w2 (Nw (fun _=>False) w w2) v' (Rat.divInt r 1000)):=by
 have hw:cF w.heap.size w w:=cF.refl;have h2:st*st<=1000000*1000000:=Nat.mul_le_mul h1 h1;have h4:st*st*1000*1000 / sq<=st*st*1000*1000:=Nat.div_le_self _ _;obtain⟨m,hm⟩:∃m,st*st*1000*1000 / sq=m:=⟨_,rfl⟩
 refine rH (by simp) ?_;conv=>whnf
 refine⟨((st*st:Nat):Int),by rw[wrap64]<;>push_cast<;>first|rfl|omega,?_⟩;conv=>whnf
 refine⟨((st*st*1000:Nat):Int),by rw[wrap64]<;>omega,?_⟩;conv=>whnf
 refine⟨((st*st*1000*1000:Nat):Int),by rw[wrap64]<;>omega,?_⟩;conv=>whnf
 refine⟨by omega,(m:Int),by rw[show ((st*st*1000*1000:Nat):Int).tdiv (sq:Int)=((st*st*1000*1000 / sq:Nat):Int)from rfl,hm,wrap64]<;>omega,?_⟩;conv=>whnf
 refine bp (cE hw (Φ:=fun _ w' v w2=>∃r:Nat,v= .int .i64 r∧r*r<=m∧m<(r+1)*(r+1)) (fun ρ w' r=>Ei m w' (by omega)) ?_);rintro ρ wa1 v1 wb1 iv1 r he hw h_ ⟨rt,rfl,hr1,hr2⟩;clear r;have hrt:rt<=2000000000:=by
  rcases bA 2000000000 rt with h|h
  ·have:=Nat.mul_le_mul h h;omega
  ·exact h
 conv=>whnf
 refine bp (cE hw (Φ:=fun _ w' v w2=>∃r,v= .tuple #[r,.int .i64 0]∧cH w2 (Nw (fun _=>False) w' w2) r (Rat.divInt rt 1000)) (fun ρ w' r=>(BB rt 1000 w' (by omega) (by omega) (by decide) (by decide)).mono fun _ _ ⟨v2,e1,e2,e3⟩=>⟨v2,e1,e2,e3.elim (fun k=>absurd k.1 (by decide)) fun h=>h.2⟩) ?_);rintro ρ wa2 v2 wb2 iv2 r he hw h_ ⟨q1,rfl,k1⟩;have hd:=k1.cQ (S:=fun _=>False) r.bm (mN h_);clear r;obtain⟨s2_0a,s2_0b,s2_0c,s2_0d,s2_0e,s2_0f,s2_0g,s2_0h,rfl⟩:=hd.shape;clear k1;conv=>whnf
 intro ρe we re;exact⟨_,rfl,hw.tr re.bs,rt,hm▸hr1,hm▸hr2,hd.out re (bl w)⟩
theorem BC(sq st:Nat)(w:World)(h0:0<sq)(h2:sq<=20000000000000)(h1:st<=1000000):dQ PG N.oD #[.int .i64 sq,.int .i64 st] w (dU w fun v' w2=>∃vr,∃r:Nat,v'= .tuple #[vr,.int .i64 0]∧r*r<=st*st*1000*1000 / sq∧st*st*1000*1000 / sq<(r+1)*(r+1)∧cH w2 (Nw (fun _=>False) w w2) vr (Rat.divInt r 1000)):=by
 have hw:cF w.heap.size w w:=cF.refl;refine rD (by simp) ?_;conv=>whnf
 refine cW.mk (fun k1=>absurd (aG k1) (by omega)) (fun _=>?_);conv=>whnf
 refine cW.mk (fun k1=>absurd (aG k1) (by omega)) (fun _=>?_);conv=>whnf
 refine bp (cE hw (Φ:=fun _ w' v w2=>v= .bool true) (fun ρ w' r=>(Ej st w').mono fun _ _ ⟨v2,e1,e2,d,e3,e4⟩=>⟨v2,e1,e2,by rw[e3,e4.2 ⟨by omega,by omega⟩]⟩) ?_);rintro ρ wa1 v1 wb1 iv1 r he hw h_ rfl;clear r;conv=>whnf
 refine bp (cE hw (Φ:=fun _ w' v w2=>∃r:Nat,r*r<=st*st*1000*1000 / sq∧st*st*1000*1000 / sq<(r+1)*(r+1)∧cH w2 (Nw (fun _=>False) w' w2) v (Rat.divInt r 1000)) (fun ρ w' r=>Dc sq st w' h0 h1) ?_);rintro ρ wa2 v2 wb2 iv2 r he hw h_ ⟨rt,hr1,hr2,k1⟩;have hd:=k1.cQ (S:=fun _=>False) r.bm (mN h_);clear r;obtain⟨s2_0a,s2_0b,s2_0c,s2_0d,s2_0e,s2_0f,s2_0g,s2_0h,rfl⟩:=hd.shape;clear k1;conv=>whnf
 intro ρe we re;exact⟨_,rfl,hw.tr re.bs,_,rt,rfl,hr1,hr2,hd.out re (bl w)⟩
def C3:List Ld:=[(2,0,0,-12)]
theorem y7{M:List (List Rat)}{cols h:Nat}(h1:∀i,i<M.length+1->∀r∈(iJ M cols i).1,∀q∈r,rl q+1<=h)(h2:∀i,i<M.length->∀k,k<cols+1->∀q∈fA (iJ M cols i).1 (iJ M cols i).2.1 (M.getD i []) k,rl q+1<=h):tG M cols h:=
 ⟨fun i hi=>h1 i (by omega),fun i hi k hk=>h2 i hi k (by omega)⟩
def BD:List Rat:=[-3,3,9,0,0,-9,0,12,0]
def Fj:List Rat:=[0,0,0,0,0,0,-1,0,-3 / 2]
theorem vP:iS eZ C3=0:=by decide +kernel
set_option maxRecDepth 100000
theorem y8:Calm eZ 2:=by
 refine⟨lA (jX vP).1,by decide,y7 (by decide +kernel) (by decide +kernel),?_,by decide +kernel,by decide⟩;unfold Ht;decide +kernel
theorem AB:Db eZ C3 2 BD:=⟨yZ (jX vP).2,y7 (by decide +kernel) (by decide +kernel),by decide +kernel⟩
theorem y9:(dF (dM eZ) eZ.cols).1.length=9:=by decide +kernel
theorem GS:tG (gj (dR (dM eZ) eZ.cols) (eO (jb BD (jM eZ)) (-1))) 10 2:=y7 (by decide +kernel) (by decide +kernel)
theorem Gm:gk (dR (dM eZ) eZ.cols) (eO (jb BD (jM eZ)) (-1)) 9=some Fj:=by decide +kernel
end Go.Ex
