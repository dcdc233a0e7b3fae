/- A part of the proof: texts X142 to X148. Each tells its conditions in its theorems. -/
import Derived.Test.YtkdcaknoaeicdaaGreatP12
namespace Go.Ex
open Go Go.Sx Go.Proofs
def JQ(x:Ld):List Int:=[x.2.1,x.2.2.1,x.2.2.2]
def iT(s:List Int)(x:Ld):Nat->List Int
 |0=>s
 |k+1=>F9 (iT s x k) (3*x.1+k).toNat ((JQ x).getD k 0)
def gp(n:Nat)(l:List Ld):Nat->List Int
 |0=>List.replicate (3*n) 0
 |i+1=>iT (gp n l i) (l.getD i (0,0,0,0)) 3
def tL(f:fK)(l:List Ld):List Rat:=cU (gp f.nodes.length l l.length)
structure GM(n:Nat)(l:List Ld):Prop where
 len:l.length<=200
 ld:∀x∈l,(0<=x.1∧x.1<n)∧(-1000000<=x.2.1∧x.2.1<=1000000)∧(-1000000<=x.2.2.1∧x.2.2.1<=1000000)∧(-1000000<=x.2.2.2∧x.2.2.2<=1000000)
theorem qL(s:List Int)(x:Ld):∀k,(iT s x k).length=s.length
 |0=>rfl
 |k+1=>by rw[iT,F9,bV];exact qL s x k
theorem mR(n:Nat)(l:List Ld):∀i,(gp n l i).length=3*n
 |0=>bQ ..
 |i+1=>by rw[gp,qL];exact mR n l i
theorem Bw{s:List Int}{x:Ld}{k j:Nat}{d z:Int}(e:3*x.1+(k:Int)=j)(hd:(JQ x).getD k 0=d)(hz:(iT s x k)[j]? =some z):(iT s x k).set j (z+d)=iT s x (k+1):=by
 rw[iT,F9,hd,e,aC,show(iT s x k).getD j 0=z by rw[List.getD,hz];rfl]
def JR(s:List Int)(t:Int):Prop:=∀z∈s,-t<=z∧z<=t
theorem JR.set{s:List Int}{t t2 z:Int}{j:Nat}(h:JR s t)(ht:t<=t2)(hz: -t2<=z∧z<=t2):JR (s.set j z) t2:=fun y hy=>by
 rcases bD hy with hy|rfl
 ·have:=h y hy;omega
 ·exact hz
def zv(l:List Int):List Value:=l.map fun z=>.int .i64 z
theorem Ic(l:List Int):(zv l).length=l.length:=aM ..
theorem Hs{l:List Int}{j:Nat}{z:Int}(h:l[j]? =some z):(zv l)[j]? =some (.int .i64 z):=by rw[zv,aO,h];rfl
theorem Ie{l:List Int}{j:Nat}{z:Int}(h:j<l.length):(zv l).take j++[.int .i64 z]++(zv l).drop (j+1)=zv (l.set j z):=by
 rw[zv,zv,List.map_set];exact fG (by rw[aM];exact h)
theorem rz(f:fK):(jq f).length=f.cols:=by simp[jq,fK.cols]
theorem dY.Hu{S:Nat->Prop}{w:World}{css:List (List Value)}{qs:List Rat}{cs:List Value}{q:Rat}(h:css.length=qs.length∧∀(j:Nat) cs q,css[j]? =some cs->qs[j]? =some q->k7 w S cs q)(hc:k7 w S cs q):
  (css++[cs]).length=(qs++[q]).length∧∀(j:Nat) c p,(css++[cs])[j]? =some c->(qs++[q])[j]? =some p->k7 w S c p:=by
 refine⟨by simp[h.1],fun j x p h1 h2=>?_⟩;rcases aV j css.length with hi|hi
 ·rw[aL hi]at h1;rw[aL (by rw[<-h.1];exact hi)]at h2;exact h.2 j x p h1 h2
 ·have hi0:j=css.length:=by have:=(aE.1 h1).1;simp at this;omega
  subst hi0;rw[aQ (aG _),bI]at h1;rw[h.1,aQ (aG _),bI]at h2;simp at h1 h2;subst h1 h2;exact hc
set_option maxHeartbeats 1000000 in
theorem zY{S:Nat->Prop}{w:World}{vl vb vs:Value}{an:Option Addr}{cn:Nat}{f:fK}{l:List Ld}(hS:Old S w)(hl:ix w S vl l)(hn20:f.nodes.length<=20)(hok:GM f.nodes.length l)
  {ab aq:Option Addr} {nb cb nq cq:Nat} (hvb:vb= .slice ab nb cb) (hvs:vs= .slice aq nq cq):
  dh PG N.nV #[.agg #[.slice an f.nodes.length cn,vb,vs],vl] w (dw w fun v' w2=>dQ w2 (fun _=>False) w.heap.size [(w.heap.size,w2.heap.size)] v' (3*f.nodes.length) (tL f l)∧∀q∈tL f l,rl q<=1):=by
 subst hvb hvs;have hw:cN w.heap.size w w:=cN.refl;obtain⟨al,cl,rfl,hcl,hml⟩:=hl.shape;have hl200:=hok.len;refine rW (by simp) ?_;conv=>whnf
 refine⟨((3*f.nodes.length:Nat):Int),by rw[wrap64]<;>omega,?_⟩;conv=>whnf
 obtain⟨m,hm⟩:∃m,3*f.nodes.length=m:=⟨_,rfl⟩
 rw[hm];refine⟨m,m,rfl,rfl,aG _,by omega,by omega,?_⟩;conv=>whnf
 refine⟨Nat×World,fun z=>⟨[(5,.o (.s 1 0 m m)),(18,.o (.v (.slice al l.length cl))),(19,.o (.v (.int .i64 l.length))),(20,.o (.v (.int .i64 ((z.1:Nat):Int))))],[(1,.arr T.int (zv (gp f.nodes.length l z.1)))],2,[],z.2⟩,fun z=>l.length-z.1,
  fun z=>z.1<=l.length∧cN w.heap.size w z.2∧JR (gp f.nodes.length l z.1) (3000000*z.1),?_,?_⟩
 ·intro ρ w' r3;exact⟨(0,w'),⟨aN _,hw.tr r3.cC,fun z hz=>by rw[gp]at hz;rw[bT hz];exact⟨Int.le_refl _,Int.le_refl _⟩⟩,Sub.gen [] r3 ⟨by dsimp only;rw[gp,hm,zv,List.map_replicate];rfl,trivial⟩ ⟨rfl,rfl,rfl,rfl,trivial⟩ (by simp[dG,cW.scopd,At.sc]) (by simp[cV,SV.sc,At.sc,cQ]) (by rfl) (fun lo hi h=>h)⟩
 clear hw;rintro⟨i,w1⟩ ⟨hi,hw,hbd⟩;dsimp only at hi hw hbd ⊢;conv=>whnf
 refine dE.mk (fun hib=>?_) (fun hib=>?_)
 ·have hib:i<l.length:=by simpa using hib
  obtain⟨x,hx⟩:∃x,l[i]? =some x:=⟨_,aB hib⟩
  obtain⟨hn,hx1,hx2,hx3⟩:=hok.ld x (aF hx);obtain⟨kn,hkn⟩:=Int.eq_ofNat_of_zero_le hn.1;obtain⟨adx,cs,hax,hP,-,hlx⟩:=hl.load (by decide) hx;have hP:cs=[.int .i64 x.1,.int .i64 x.2.1,.int .i64 x.2.2.1,.int .i64 x.2.2.2]:=hP;subst hP;conv=>whnf
  refine⟨adx,hax,⟨by omega,by omega⟩,?_⟩;conv=>whnf
  refine⟨[.int .i64 x.1,.int .i64 x.2.1,.int .i64 x.2.2.1,.int .i64 x.2.2.2],rfl,fun ρ w' r j u hu=>?_,?_⟩
  ·obtain⟨k1,k2⟩:=hlx j u hu;rw[aC,bw (w:=w) (w2:=w') (by rw[cL,cL];exact(hw.tr r.cC).block _ (hS _ k1))];exact k2
  conv=>whnf
  refine⟨Nat×World,fun z=>⟨[(5,.o (.s 1 0 m m)),(7,.o (.p 2 0)),(30,.a [.v (.int .i64 x.2.1),.v (.int .i64 x.2.2.1),.v (.int .i64 x.2.2.2)]),(31,.o (.v (.int .i64 ((z.1:Nat):Int)))),(18,.o (.v (.slice al l.length cl))),(19,.o (.v (.int .i64 l.length))),(20,.o (.v (.int .i64 ((i:Nat):Int))))],[(2,.box T.Ja [.v (.int .i64 x.1),.v (.int .i64 x.2.1),.v (.int .i64 x.2.2.1),.v (.int .i64 x.2.2.2)]),(1,.arr T.int (zv (iT (gp f.nodes.length l i) x z.1)))],3,[],z.2⟩,fun z=>3-z.1,
   fun z=>z.1<=3∧cN w.heap.size w z.2∧JR (iT (gp f.nodes.length l i) x z.1) (3000000*i+1000000*z.1),?_,?_⟩
  ·intro ρ w' r3;exact⟨(0,w'),⟨aN _,hw.tr r3.cC,hbd⟩,Sub.gen [] r3 ⟨rfl,rfl,trivial⟩ ⟨rfl,rfl,rfl,rfl,rfl,rfl,rfl,trivial⟩ (by simp[dG,cW.scopd,At.sc]) (by simp[cV,SV.sc,At.sc,cQ]) (by rfl) (fun lo hi h=>h)⟩
  clear hw hbd;rintro⟨k,w3⟩ ⟨hk,hw,hbd⟩;dsimp only at hk hw hbd ⊢;conv=>whnf
  refine dE.mk (fun hkb=>?_) (fun hkb=>?_)
  ·have hkb:k<3:=by have:=aI hkb;omega
   obtain⟨d,hd⟩:∃d,(JQ x).getD k 0=d:=⟨_,rfl⟩
   have hdb: -1000000<=d∧d<=1000000:=by
    rw[<-hd,JQ];rcases(show k=0∨k=1∨k=2 by omega)with rfl|rfl|rfl<;>simp[List.getD]<;>omega
   have hLl:(iT (gp f.nodes.length l i) x k).length=m:=by rw[qL,mR,hm]
   obtain⟨z,hz⟩:∃z,(iT (gp f.nodes.length l i) x k)[3*kn+k]? =some z:=⟨_,aB (by omega)⟩
   have hzb:=hbd z (aF hz);have hej:3*x.1+(k:Int)=((3*kn+k:Nat):Int):=by omega
   have hnx:=Bw hej hd hz;have hbd2:=hbd.set (j:=3*kn+k) (z:=z+d) (t2:=3000000*i+1000000*(k+1:Nat)) (by omega) (by omega);rw[hnx]at hbd2;refine xh hτ (cs:= #[.int .i64 x.2.1,.int .i64 x.2.2.1,.int .i64 x.2.2.2]) rfl rfl rfl (fun _=>rfl) rfl ⟨by omega,by omega⟩ (u:=.int .i64 d) ?_ (fun ρ w4 r=>?_)
   ·rw[<-hd,JQ,aC];rcases(show k=0∨k=1∨k=2 by omega)with rfl|rfl|rfl<;>rfl
   replace hw:=hw.tr r.cC;clear r;conv=>whnf
   refine⟨3*x.1,by rw[wrap64]<;>omega,?_⟩;conv=>whnf
   refine⟨((3*kn+k:Nat):Int),by rw[wrap64]<;>omega,?_⟩;conv=>whnf
   refine⟨⟨by omega,by omega⟩,?_⟩;conv=>whnf
   refine⟨.int .i64 z,by rw[aC,aR,aS];exact Hs hz,?_⟩;conv=>whnf
   refine⟨z+d,by rw[wrap64]<;>omega,?_⟩;conv=>whnf
   refine⟨⟨by omega,by omega⟩,?_⟩;conv=>whnf
   refine⟨by rw[Ic];omega,zv (iT (gp f.nodes.length l i) x (k+1)),?_,?_⟩
   ·rw[aC,aR,aS,<-hnx];exact Ie (by omega)
   conv=>whnf
   refine⟨((k+1:Nat):Int),by rw[wrap64]<;>omega,?_⟩;conv=>whnf
   intro ρ3 w6 r3;exact⟨(k+1,w6),⟨hkb,hw.tr r3.cC,hbd2⟩,Sub.gen [] r3 ⟨rfl,rfl,trivial⟩ ⟨rfl,rfl,rfl,rfl,rfl,rfl,rfl,trivial⟩ (by simp[dG,cW.scopd,At.sc]) (by simp[cV,SV.sc,At.sc,cQ]) (by rfl) (fun lo hi h=>h),by dsimp only;omega⟩
  have hkb:k=3:=by have:=aH hkb;omega
  subst hkb;have hnx:iT (gp f.nodes.length l i) x 3=gp f.nodes.length l (i+1):=by rw[gp,show l.getD i (0,0,0,0)=x by rw[List.getD,hx];rfl]
  rw[hnx]at hbd ⊢;conv=>whnf
  refine⟨((i+1:Nat):Int),by rw[wrap64]<;>omega,?_⟩;conv=>whnf
  intro ρ3 w6 r3;exact⟨(i+1,w6),⟨hib,hw.tr r3.cC,fun z hz=>by have:=hbd z hz;dsimp only;omega⟩,Sub.gen [] r3 ⟨rfl,trivial⟩ ⟨rfl,rfl,rfl,rfl,trivial⟩ (by simp[dG,cW.scopd,At.sc]) (by simp[cV,SV.sc,At.sc,cQ]) (by rfl) (fun lo hi h=>h),by dsimp only;omega⟩
 have hib:i=l.length:=aP hi (by simpa using hib);subst hib;obtain⟨s,hs⟩:∃s,gp f.nodes.length l l.length=s:=⟨_,rfl⟩
 have hsl:s.length=m:=by rw[<-hs,mR,hm]
 rw[hs]at hbd ⊢;unfold tL;rw[hs];conv=>whnf
 refine⟨m,m,rfl,rfl,aG _,by omega,by omega,?_⟩;conv=>whnf
 refine⟨Nat×List (List Value)×Iv×World,fun z=>⟨[(10,.o (.s 2 0 m m)),(51,.o (.s 1 0 m m)),(52,.o (.v (.int .i64 m))),(53,.o (.v (.int .i64 ((z.1:Nat):Int))))],[(2,.arr T.Rat z.2.1.flatten),(1,.arr T.int (zv s))],3,z.2.2.1,z.2.2.2⟩,fun z=>m-z.1,
  fun z=>z.1<=m∧cN w.heap.size w z.2.2.2∧fQ z.2.2.2 (Cv (fun _=>False) w.heap.size z.2.2.1) m z.1 z.2.1 (cU s),?_,?_⟩
 ·intro ρ w' r;exact⟨(0,List.replicate m f0,_,w'),⟨aN _,hw.tr r.cC,fQ.start _ _ _ _⟩,Sub.gen [] r ⟨rfl,rfl,trivial⟩ ⟨rfl,rfl,rfl,rfl,trivial⟩ (by simp[dG,cW.scopd,At.sc]) (by simp[cV,SV.sc,At.sc,cQ]) (by rfl) (fun lo hi h=>h)⟩
 clear hw;rintro⟨i,css,iv,w1⟩ ⟨hi2,hw,hF⟩;dsimp only at hi2 hw hF ⊢;conv=>whnf
 refine dE.mk (fun hib=>?_) (fun hib=>?_)
 ·have hib:i<m:=by simpa using hib
  obtain⟨z,hz⟩:∃z,s[i]? =some z:=⟨_,aB (by omega)⟩
  have hzb:=hbd z (aF hz);conv=>whnf
  refine⟨⟨by omega,by omega⟩,?_⟩;conv=>whnf
  refine⟨.int .i64 z,by rw[aC,aR,aS];exact Hs hz,?_⟩;conv=>whnf
  refine bz (cE hw (Φ:=fun _ w' v w2=>cR w2 (Nw (fun _=>False) w' w2) v (z:Rat)) (fun ρ w' r=>lT z w' (by omega) (by omega)) ?_);rintro ρ wa1 v1 wb1 iv1 r he hw h_ hn;replace hF:=hF.cB r (bs w) he (mC h_);have hd:=hn.cw (S:=fun _=>False) r.bu (mN h_);clear r hn;obtain⟨s1_0,s1_1,s1_2,s1_3,s1_4,s1_5,s1_6,s1_7,rfl⟩:=hd.shape;have hnext:=hF.next hib (q:=_) (by rw[cU,aO,hz];rfl) hd
  conv=>whnf
  refine⟨⟨by omega,by omega⟩,?_⟩;conv=>whnf
  refine⟨by have:=hF.flat;omega,(css.set i [.bool s1_0,.slice s1_1 s1_2 s1_3,.bool s1_4,.slice s1_5 s1_6 s1_7]).flatten,?_,?_⟩
  ·have:=iJ (cs:=[.bool s1_0,.slice s1_1 s1_2 s1_3,.bool s1_4,.slice s1_5 s1_6 s1_7]) hF.four (show i<css.length by rw[hF.len];exact hib);rw[<-this];simp
  conv=>whnf
  refine⟨((i+1:Nat):Int),by rw[wrap64]<;>omega,?_⟩;conv=>whnf
  intro ρ3 w3 r3;exact⟨(i+1,css.set i [.bool s1_0,.slice s1_1 s1_2 s1_3,.bool s1_4,.slice s1_5 s1_6 s1_7],_,w3),⟨hib,hw.tr r3.cC,hnext.rel r3 (bs w)⟩,Sub.gen [] r3 ⟨rfl,rfl,trivial⟩ ⟨rfl,rfl,rfl,rfl,trivial⟩ (by simp[dG,cW.scopd,At.sc]) (by simp[cV,SV.sc,At.sc,cQ]) (by rfl) (fun lo hi h=>h),by dsimp only;omega⟩
 have hib:i=m:=aP hi2 (by simpa using hib);subst hib;conv=>whnf
 intro ρe we re
 exact⟨_,rfl,hw.tr re.cC,hF.done (by rw[cU,aM];exact hsl) (by unfold maxLen;omega) re (id:=2) rfl (re.nn 2 _ rfl (by intros;simp) (by simp)),fun q hq=>by
  obtain⟨z,hz,rfl⟩:=aU.1 hq;have:=hbd z hz
  exact zX (by omega) (by omega)⟩
set_option maxHeartbeats 1000000 in
theorem zZ{S:Nat->Prop}{w:World}{vn vb vs:Value}{f:fK}(hS:Old S w)(hf:dT w S vn vb vs f)(hok:pM f):
  dh PG N.nX #[.agg #[vn,vb,vs]] w (dw w fun v' w2=>dY w2 (Nw S w w2) v' (jq f)):=by
 have hw:cN w.heap.size w w:=cN.refl;obtain⟨an,cn,ab,cb,aq,cq,rfl,rfl,rfl,hmn,hmb,hms⟩:=hf.shape;have hf0:=hf;refine rY (by simp) ?_;conv=>whnf
 refine⟨Nat×List (List Value)×World,fun z=>⟨[(3,.o (.w 1 z.2.1.length)),(9,.o (.v (.slice ab f.bars.length cb))),(10,.o (.v (.int .i64 f.bars.length))),(11,.o (.v (.int .i64 ((z.1:Nat):Int)))),(1,.o (.p 0 0))],[(1,.vec T.Rat 4 z.2.1.flatten),(0,.box T.Frame [.v (.slice an f.nodes.length cn),.v (.slice ab f.bars.length cb),.v (.slice aq f.cO.length cq)])],2,[],z.2.2⟩,fun z=>f.bars.length-z.1,
  fun z=>z.1<=f.bars.length∧cN w.heap.size w z.2.2∧(∀cs∈z.2.1,cs.length=4)∧(z.2.1.length=((fun i=>(f.bars.take i).map (·.2.2)) z.1).length∧∀(j:Nat) cs q,z.2.1[j]? =some cs->((fun i=>(f.bars.take i).map (·.2.2)) z.1)[j]? =some q->k7 z.2.2 S cs q),?_,?_⟩
 ·intro ρ w' r;exact⟨(0,[],w'),⟨aN _,hw.tr r.cC,fun cs h=>(by cases h),rfl,fun j cs q h=>by cases h⟩,Sub.nil 3 T.Rat 4 rfl (by simp[cV,SV.sc,At.sc,cQ]) r fun ρ1 r1=>Sub.gen [] r1 ⟨rfl,rfl,trivial⟩ ⟨rfl,rfl,rfl,rfl,rfl,trivial⟩ (by simp[dG,cW.scopd,At.sc]) (by simp[cV,SV.sc,At.sc,cQ]) (by rfl) (fun lo hi h=>h)⟩
 clear hw;rintro⟨k,css,w1⟩ ⟨hk,hw,hc4,hR⟩;dsimp only at hk hw hc4 hR ⊢;have hfl:=eX hc4;conv=>whnf
 refine dE.mk (fun hkb=>?_) (fun hkb=>?_)
 ·have hkb:k<f.bars.length:=by simpa using hkb
  have hb60:=hok.b;have hs60:=hok.s;obtain⟨b,hb⟩:∃b,f.bars[k]? =some b:=⟨_,aB hkb⟩
  have hnx:(fun i=>(f.bars.take i).map (·.2.2)) (k+1)=(fun i=>(f.bars.take i).map (·.2.2)) k++[b.2.2]:=by dsimp only;rw[List.take_add_one,hb];simp
  obtain⟨adb,cs,hab,hF,-,hlb⟩:=hf0.bars.load (by decide) hb;obtain⟨g0,g1,g2,g3,g4,g5,g6,g7,rfl,hF⟩:=hF;conv=>whnf
  refine⟨adb,hab,⟨by omega,by omega⟩,?_⟩;conv=>whnf
  refine⟨[.int .i64 b.1,.int .i64 b.2.1,.bool g0,.slice g1 g2 g3,.bool g4,.slice g5 g6 g7],rfl,fun ρ w' r j u hu=>?_,?_⟩
  ·obtain⟨k1,k2⟩:=hlb j u hu;rw[aC,bw (w:=w) (w2:=w') (by rw[cL,cL];exact(hw.tr r.cC).block _ (hS _ k1))];exact k2
  conv=>whnf
  have hC2:k7 w1 S [.bool g0,.slice g1 g2 g3,.bool g4,.slice g5 g6 g7] b.2.2:=⟨_,_,_,_,_,_,_,_,rfl,hF.cD fun g hg=>hw.block g (hS g hg)⟩
  have hR2:=dY.Hu hR hC2;rw[<-hnx]at hR2;have hfl2:css.flatten++([.bool g0,.slice g1 g2 g3,.bool g4,.slice g5 g6 g7]:List Value)=(css++([[.bool g0,.slice g1 g2 g3,.bool g4,.slice g5 g6 g7]]:List (List Value))).flatten:=by simp
  have hlen2:css.length<=200:=by rw[hR.1,aM,aX];have:=hok.b;omega
  refine .inl ?_;conv=>whnf
  refine⟨by omega,by omega,by unfold maxLen;omega,?_⟩;conv=>whnf
  refine⟨((k+1:Nat):Int),by rw[wrap64]<;>omega,?_⟩;conv=>whnf
  intro ρ3 w3 r3
  exact⟨(k+1,css++[[.bool g0,.slice g1 g2 g3,.bool g4,.slice g5 g6 g7]],w3),⟨hkb,hw.tr r3.cC,fun cs hc=>by
   rcases bR.1 hc with hc|hc
   ·exact hc4 cs hc
   ·rw[bA.1 hc];rfl,hR2.1,fun j cs q h1 h2=>(hR2.2 j cs q h1 h2).cD fun g hg=>(r3.cC).block g (hS g hg)⟩,Sub.gen [(1,4)] r3 ⟨by dsimp only;rw[<-hfl2];rfl,rfl,trivial⟩ ⟨by dsimp only;rw[List.length_append,List.length_singleton];rfl,rfl,rfl,rfl,rfl,trivial⟩ (by simp[dG,cW.scopd,At.sc]) (by simp[cV,SV.sc,At.sc,cQ]) (by rfl) (fun lo hi h=>h),by dsimp only;omega⟩
 have hkb:k=f.bars.length:=aP hk (by simpa using hkb);subst hkb;have hrl:css.length=f.bars.length:=by rw[hR.1,aM,aX];omega
 rw[ai,show f.bars.map (·.2.2)=f.bars.map (·.2.2)++(f.cO.take 0).map (·.2.2) by simp]at hR;conv=>whnf
 refine⟨Nat×List (List Value)×World,fun z=>⟨[(3,.o (.w 1 z.2.1.length)),(22,.o (.v (.slice aq f.cO.length cq))),(23,.o (.v (.int .i64 f.cO.length))),(24,.o (.v (.int .i64 ((z.1:Nat):Int))))],[(1,.vec T.Rat 4 z.2.1.flatten),(0,.box T.Frame [.v (.slice an f.nodes.length cn),.v (.slice ab f.bars.length cb),.v (.slice aq f.cO.length cq)])],2,[],z.2.2⟩,fun z=>f.cO.length-z.1,
  fun z=>z.1<=f.cO.length∧cN w.heap.size w z.2.2∧(∀cs∈z.2.1,cs.length=4)∧(z.2.1.length=((fun i=>f.bars.map (·.2.2)++(f.cO.take i).map (·.2.2)) z.1).length∧∀(j:Nat) cs q,z.2.1[j]? =some cs->((fun i=>f.bars.map (·.2.2)++(f.cO.take i).map (·.2.2)) z.1)[j]? =some q->k7 z.2.2 S cs q),?_,?_⟩
 ·intro ρ w' r3;exact⟨(0,css,w'),⟨aN _,hw.tr r3.cC,hc4,hR.1,fun j cs q h1 h2=>(hR.2 j cs q h1 h2).cD fun g hg=>(r3.cC).block g (hS g hg)⟩,Sub.gen [] r3 ⟨rfl,rfl,trivial⟩ ⟨rfl,rfl,rfl,rfl,trivial⟩ (by simp[dG,cW.scopd,At.sc]) (by simp[cV,SV.sc,At.sc,cQ]) (by rfl) (fun lo hi h=>h)⟩
 clear hw hc4 hR hk hrl;rintro⟨k,css,w1⟩ ⟨hk,hw,hc4,hR⟩;dsimp only at hk hw hc4 hR ⊢;have hfl:=eX hc4;conv=>whnf
 refine dE.mk (fun hkb=>?_) (fun hkb=>?_)
 ·have hkb:k<f.cO.length:=by simpa using hkb
  have hb60:=hok.b;have hs60:=hok.s;obtain⟨b,hb⟩:∃b,f.cO[k]? =some b:=⟨_,aB hkb⟩
  have hnx:(fun i=>f.bars.map (·.2.2)++(f.cO.take i).map (·.2.2)) (k+1)=(fun i=>f.bars.map (·.2.2)++(f.cO.take i).map (·.2.2)) k++[b.2.2]:=by dsimp only;rw[List.take_add_one,hb];simp
  obtain⟨adb,cs,hab,hF,-,hlb⟩:=hf0.cO.load (by decide) hb;obtain⟨g0,g1,g2,g3,g4,g5,g6,g7,rfl,hF⟩:=hF;conv=>whnf
  refine⟨adb,hab,⟨by omega,by omega⟩,?_⟩;conv=>whnf
  refine⟨[.int .i64 b.1,.int .i64 b.2.1,.bool g0,.slice g1 g2 g3,.bool g4,.slice g5 g6 g7],rfl,fun ρ w' r j u hu=>?_,?_⟩
  ·obtain⟨k1,k2⟩:=hlb j u hu;rw[aC,bw (w:=w) (w2:=w') (by rw[cL,cL];exact(hw.tr r.cC).block _ (hS _ k1))];exact k2
  conv=>whnf
  have hC2:k7 w1 S [.bool g0,.slice g1 g2 g3,.bool g4,.slice g5 g6 g7] b.2.2:=⟨_,_,_,_,_,_,_,_,rfl,hF.cD fun g hg=>hw.block g (hS g hg)⟩
  have hR2:=dY.Hu hR hC2;rw[<-hnx]at hR2;have hfl2:css.flatten++([.bool g0,.slice g1 g2 g3,.bool g4,.slice g5 g6 g7]:List Value)=(css++([[.bool g0,.slice g1 g2 g3,.bool g4,.slice g5 g6 g7]]:List (List Value))).flatten:=by simp
  have hlen2:css.length<=200:=by rw[hR.1,List.length_append,aM,aM,aX];have:=hok.b;have:=hok.s;omega
  refine .inl ?_;conv=>whnf
  refine⟨by omega,by omega,by unfold maxLen;omega,?_⟩;conv=>whnf
  refine⟨((k+1:Nat):Int),by rw[wrap64]<;>omega,?_⟩;conv=>whnf
  intro ρ3 w3 r3
  exact⟨(k+1,css++[[.bool g0,.slice g1 g2 g3,.bool g4,.slice g5 g6 g7]],w3),⟨hkb,hw.tr r3.cC,fun cs hc=>by
   rcases bR.1 hc with hc|hc
   ·exact hc4 cs hc
   ·rw[bA.1 hc];rfl,hR2.1,fun j cs q h1 h2=>(hR2.2 j cs q h1 h2).cD fun g hg=>(r3.cC).block g (hS g hg)⟩,Sub.gen [(1,4)] r3 ⟨by dsimp only;rw[<-hfl2];rfl,rfl,trivial⟩ ⟨by dsimp only;rw[List.length_append,List.length_singleton];rfl,rfl,rfl,rfl,trivial⟩ (by simp[dG,cW.scopd,At.sc]) (by simp[cV,SV.sc,At.sc,cQ]) (by rfl) (fun lo hi h=>h),by dsimp only;omega⟩
 have hkb:k=f.cO.length:=aP hk (by simpa using hkb);subst hkb;conv=>whnf
 intro ρe we re;have hfull:f.bars.map (·.2.2)++(f.cO.take f.cO.length).map (·.2.2)=jq f:=by rw[ai];rfl
 rw[hfull]at hR;refine⟨_,rfl,hw.tr re.cC,css,?_,hR.1,hc4,fun j cs q k1 k2=>((hR.2 j cs q k1 k2).cD fun g hg=>(re.cC).block g (hS g hg)).cG fun g hg=>.inl hg⟩;have hcl:=hR.1
 have h5:=re.gR (id:=1) (sz:=4) (m:=css.length) rfl hfl (by have:=hok.b;have:=hok.s;rw[hcl,rz];unfold fK.cols maxLen;omega) (by decide) (fun u hu=>by
  obtain⟨cs,hc,hu⟩:=List.mem_flatten.1 hu;obtain⟨j,hj⟩:=ah hc;obtain⟨_,_,_,_,_,_,_,_,rfl,_⟩:=hR.2 j cs _ hj (aB (by rw[<-hcl];exact(aE.1 hj).1));simp at hu
  rcases hu with rfl|rfl|rfl|rfl<;>rfl)
 rw[<-hcl];exact h5.cG fun g hg=>.inr hg
theorem GN(cols h:Nat):qH [] cols h:=by
 refine⟨fun i hi r hr=>?_,fun i hi=>absurd hi (Nat.not_lt_zero i)⟩;have:i=0:=Nat.le_zero.1 hi;subst this
 cases hr
theorem Ec:ir [] [] 0=some []:=by decide +kernel
theorem jH.nil{w:World}{C S:Nat->Prop}:jH w C S (.slice none 0 0) []:=⟨[],⟨aN _,rfl,by simp,none,0,rfl,aG _,fun j u h=>by cases h⟩,rfl,fun i u x h=>by cases h⟩
theorem cP.Je{w:World}{S:Nat->Prop}:cP w S (.slice none 0 0) []:=⟨[],⟨aN _,rfl,by simp,none,0,rfl,aG _,fun j u h=>by cases h⟩,rfl,by simp,fun j cs x h=>by cases h⟩
set_option maxHeartbeats 1000000 in
theorem xj{S:Nat->Prop}{w:World}{vn vb vs u:Value}{f:fK}{p:List Rat}{h:Nat}(hS:Old S w)(hf:dT w S vn vb vs f)(hok:pM f)(hp:cP w S u p)(hpl:p.length=3*f.nodes.length)(hpq:∀q∈p,rl q<=100000)(hc0:0<f.cols)
  (hB1:qH (iq (dD f) (gG p (-1))) (f.cols+1) h) (hB2:qH (dD f) f.cols h) (hA2:Ht (cZ (dD f) f.cols).1 h) (hst:iN (dD f) f.cols=[]) (hh:3*h<=90000):
  dh PG N.nU #[.agg #[vn,vb,vs],u] w (dw w fun v' w2=>(ir (dD f) (gG p (-1)) f.cols=none∧v'= .tuple #[.slice none 0 0,.bool false])∨∃x vx,ir (dD f) (gG p (-1)) f.cols=some x∧v'= .tuple #[vx,.bool true]∧dQ w2 (fun _=>False) w.heap.size [(w.heap.size,w2.heap.size)] vx f.cols x):=by
 have hw:cN w.heap.size w w:=cN.refl;obtain⟨an,cn,ab,cb,aq,cq,rfl,rfl,rfl,hmn,hmb,hms⟩:=hf.shape;obtain⟨hn20,hb60,hs60⟩:=And.intro hok.n (And.intro hok.b hok.s);have hcols:f.cols=f.bars.length+f.cO.length:=rfl;obtain⟨ap,cp,rfl,hcp,hmp⟩:=dx.shape hp;refine rV (by simp) ?_;conv=>whnf
 refine bz (cE hw (Φ:=fun _ w' v w2=>(∃vr,v= .agg #[vr,.int .i64 f.cols]∧cI w2 (Nw (fun _=>False) w' w2) vr (dD f))∧fk f.cols (dD f)∧Ht (dD f) 2) (fun ρ w' r=>jI (S:=S) (fun g hg=>by have:=hS g hg;have:=r.bu;omega) (hf.cD fun g hg=>(hw.tr r.cC).block g (hS g hg)) hok) ?_);rintro ρ wa1 v1 wb1 iv1 r he hw h_ ⟨⟨vr,rfl,k1⟩,hlen,hht⟩;have hM:=cI.cw (S:=fun _=>False) k1 r.bu (mN h_);clear r;obtain⟨am,cm,rfl,hcm,hmm⟩:=cT.shape hM;have htl:=gB f;conv=>whnf
 refine cF hτ dV [.x 0,.x 1,.x 2,.x 3,.x 4,.x 5,.x 6,.x 7,.x 8,.x 9] (by kernel_rfl) (by kernel_rfl) ?_;conv=>whnf
 refine cE hw (Φ:=fun _ w' v w2=>cR w2 (Nw (fun _=>False) w' w2) v ((-1:Int):Rat)) (fun ρ w' r=>lT (-1) w' (by decide) (by decide)) ?_;rintro ρ wa2 v2 wb2 iv2 r he hw h_ hn;replace hM:=cI.cB hM r (bs w) he (mC h_);have hd:=hn.cw (S:=fun _=>False) r.bu (mN h_);clear r;obtain⟨s2_0,s2_1,s2_2,s2_3,s2_4,s2_5,s2_6,s2_7,rfl⟩:=hd.shape;conv=>whnf
 refine cE hw (Φ:=fun _ w' v w2=>dQ w2 (fun _=>False) w'.heap.size [(w'.heap.size,w2.heap.size)] v p.length (gG p (-1))) (fun ρ w' r=>zS (S:=Cv S w.heap.size iv2) (Rel.old r hS) (dY.cG (cP.l (cP.cD hp fun g hg=>(hw.tr r.cC).block g (hS g hg)) fun q hq=>by have:=hpq q hq;omega) fun g hg=>.inl hg) (((hd.rel r (bs w)).l (by decide)).cG fun g hg=>Aq hg) (by omega)) ?_;rintro ρ wa3 v3 wb3 iv3 r he hw h_ hn;replace hM:=cI.cB hM r (bs w) he (mC h_);have hB:=hn.cw (S:=fun _=>False) r.bu (mN h_);clear r;obtain⟨a3,c3,rfl,hc3⟩:=hB.row.form;conv=>whnf
 refine cH (Φ:=fun _ w' v w2=>(ir (dD f) (gG p (-1)) f.cols=none∧v= .tuple #[.slice none 0 0,.bool false])∨∃x vx,ir (dD f) (gG p (-1)) f.cols=some x∧v= .tuple #[vx,.bool true]∧dQ w2 (Cv (fun _=>False) w.heap.size iv3) w'.heap.size [(w'.heap.size,w2.heap.size)] vx f.cols x) (fun ρ w' r=>xg (C:=Cv (fun _=>False) w.heap.size iv3) (S:=Cv (fun _=>False) w.heap.size iv3) (h:=h) (Rel.old r (bs w)) (Rel.old r (bs w)) (cI.rel hM r (bs w)) ((hB.rel r (bs w)).c) (by rw[gG,aM,htl];exact hpl) hlen (by omega) (by omega) hB1 hh) ?_;rintro ρ wa4 v4 wb4 r he hb (⟨hno,rfl⟩|⟨x,vx,hx,rfl,k2⟩)
 ·replace hw:=hw.tr hb;clear r he hb;conv=>whnf
  intro ρe we re;exact⟨_,rfl,hw.tr re.cC,.inl ⟨hno,rfl⟩⟩
 replace hw:=hw.tr hb;replace hM:=cI.cB (iv':=(wa4.heap.size,wb4.heap.size)::iv3) hM r (bs w) he fun x hx=>aD _ hx;have hX:=k2.JP r.bu;clear r he hb k2 hB;generalize (wa4.heap.size,wb4.heap.size)::iv3=iv4 at*
 obtain⟨ax,cx,rfl,hcx⟩:=hX.row.form;conv=>whnf
 refine cF hτ dV [.x 0,.x 2,.x 1,.x 3,.x 4,.x 5] (by kernel_rfl) (by kernel_rfl) ?_;conv=>whnf
 refine cE hw (Φ:=fun _ w' v w2=>cI w2 (Nw (fun _=>False) w' w2) v []) (fun ρ w' r=>hst▸zU (C:=Cv (fun _=>False) w.heap.size iv4) (S:=Cv (fun _=>False) w.heap.size iv4) (h:=h) (Rel.old r (bs w)) (Rel.old r (bs w)) (cI.rel hM r (bs w)) hlen hc0 (by omega) (by omega) hB2 hA2 hh) ?_;rintro ρ wa5 v5 wb5 iv5 r he hw h_ hn;replace hX:=hX.cB r (bs w) he (mC h_);obtain⟨ak,ck,rfl,-,-⟩:=cT.shape hn;clear r he;conv=>whnf
 refine cE hw (Φ:=fun _ w' v w2=>dY w2 (Nw S w' w2) v (jq f)) (fun ρ w' r=>zZ (S:=S) (fun g hg=>by have:=hS g hg;have:=r.bu;omega) (hf.cD fun g hg=>(hw.tr r.cC).block g (hS g hg)) hok) ?_;rintro ρ wa6 v6 wb6 iv6 r he hw h_ hn;replace hX:=hX.cB r (bs w) he (mC h_);obtain⟨al,cl,rfl,-,-⟩:=dx.shape hn;clear r he;conv=>whnf
 refine⟨World×Iv,fun z=>⟨[(7,.o (.v (.slice ax f.cols cx))),(9,.o (.v (.slice ak 0 ck))),(11,.o (.p 2 0)),(12,.o (.v (.slice none 0 0))),(43,.o (.v (.slice ak 0 ck))),(44,.o (.v (.int .i64 0))),(45,.o (.v (.int .i64 0)))],[(2,.box T.de [.v (.slice none 0 0),.v (.int .i64 0)])],3,z.2,z.1⟩,fun _=>0,
  fun z=>cN w.heap.size w z.1∧dQ z.1 (fun _=>False) w.heap.size z.2 (.slice ax f.cols cx) f.cols x,?_,?_⟩
 ·intro ρ w' r3;exact⟨(w',_),⟨hw.tr r3.cC,hX.rel r3 (bs w)⟩,Sub.gen [] r3 ⟨rfl,trivial⟩ ⟨rfl,rfl,rfl,rfl,rfl,rfl,rfl,trivial⟩ (by simp[dG,cW.scopd,At.sc]) (by simp[cV,SV.sc,At.sc]) (by rfl) (fun lo hi h=>h)⟩
 clear hw hX;rintro⟨w7,iv⟩ ⟨hw,hX⟩;dsimp only at hw hX ⊢;conv=>whnf
 refine bz (cE hw (Φ:=fun _ w' v w2=>∃vx,v= .tuple #[vx,.bool true]∧∃a c,vx= .slice a 0 c) (fun ρ w' r=>(xg (C:=fun _=>False) (S:=fun _=>False) (M:=[]) (b:=[]) (cols:=0) (h:=h) (fun g hg=>hg.elim) (fun g hg=>hg.elim) jH.nil cP.Je rfl (fun r hr=>by cases hr) (by decide) (by decide) (GN _ _) hh).mono fun e w2 ⟨v2,e1,e2,e3⟩=>⟨v2,e1,e2,by
  rcases e3 with⟨h1,_⟩|⟨x2,vx,h1,h2,h3⟩
  ·rw[Ec]at h1;cases h1
  ·obtain⟨a,c,h4,_⟩:=h3.row.form
   exact⟨vx,h2,a,c,h4⟩⟩) ?_)
 rintro ρ wa8 v8 wb8 iv8 r he hw h_ ⟨vx2,rfl,a8,c8,rfl⟩;replace hX:=hX.cB r (bs w) he (mC h_);clear r he;conv=>whnf
 refine⟨World×Iv,fun z=>⟨[(7,.o (.v (.slice ax f.cols cx))),(87,.o (.v (.slice ak 0 ck))),(88,.o (.v (.int .i64 0))),(89,.o (.v (.int .i64 0)))],[],0,z.2,z.1⟩,fun _=>0,
  fun z=>cN w.heap.size w z.1∧dQ z.1 (fun _=>False) w.heap.size z.2 (.slice ax f.cols cx) f.cols x,?_,?_⟩
 ·intro ρ w' r3;exact⟨(w',_),⟨hw.tr r3.cC,hX.rel r3 (bs w)⟩,Sub.gen [] r3 trivial ⟨rfl,rfl,rfl,rfl,trivial⟩ (by simp[dG]) (by simp[cV,SV.sc,At.sc]) (by rfl) (fun lo hi h=>h)⟩
 clear hw hX;rintro⟨w7,iv⟩ ⟨hw,hX⟩;dsimp only at hw hX ⊢;conv=>whnf
 intro ρe we re;exact⟨_,rfl,hw.tr re.cC,.inr ⟨x,_,hx,rfl,hX.out re⟩⟩
def eL{α:Type}(e:List α->α->Int):List α->List α->Int
 |_,[]=>0
 |seen,x::r=>if e seen x=0 then eL e (seen++[x]) r else e seen x
section
variable{α:Type}{e:List α->α->Int}{xs:List α}
theorem fb{k:Nat}{x:α}(hx:xs[k]? =some x)(h0:e (xs.take k) x=0):eL e (xs.take k) (xs.drop k)=eL e (xs.take (k+1)) (xs.drop (k+1)):=by
 have hk:=(aE.1 hx).1;have h2:=(aE.1 hx).2;rw[List.drop_eq_getElem_cons hk,h2,eL,if_pos h0,List.take_add_one,hx];rfl
theorem cK{k:Nat}{x:α}{c:Int}(hx:xs[k]? =some x)(h0:e (xs.take k) x=c)(hc:c≠0):eL e (xs.take k) (xs.drop k)=c:=by
 have hk:=(aE.1 hx).1;have h2:=(aE.1 hx).2;rw[List.drop_eq_getElem_cons hk,h2,eL,aK (by rw[h0];exact hc),h0]
theorem gq{k:Nat}(hk:xs.length<=k):eL e (xs.take k) (xs.drop k)=0:=by
 rw[List.drop_eq_nil_of_le hk];rfl
theorem gh(h:eL e [] xs=0):∀k x,xs[k]? =some x->e (xs.take k) x=0:=by
 have key:∀k,k<=xs.length->eL e (xs.take k) (xs.drop k)=0∧∀j x,j<k->xs[j]? =some x->e (xs.take j) x=0:=fun k=>by
  induction k with
  |zero=>intro _;exact⟨by simpa using h,fun j x hj=>by omega⟩
  |succ k ih=>
   intro hk;obtain⟨h1,h2⟩:=ih (by omega);obtain⟨x,hx⟩:∃x,xs[k]? =some x:=⟨_,aB (by omega)⟩
   have h0:e (xs.take k) x=0:=by
    by_cases h0:e (xs.take k) x=0
    ·exact h0
    ·rw[cK hx rfl h0]at h1;exact h1
   refine⟨by rw[<-fb hx h0];exact h1,fun j y hj hy=>?_⟩;rcases aV j k with hjk|hjk
   ·exact h2 j y hjk hy
   ·have:j=k:=by omega
    subst this;rw[hx]at hy;injection hy with hy;rw[<-hy];exact h0
 exact fun k x hx=>(key xs.length (aG _)).2 k x (aE.1 hx).1 hx
end
def kx(n:Int):Prop:= -1000000<=n∧n<=1000000
instance (n : Int) : Decidable (kx n) := by unfold kx; infer_instance
def eP(seen:List (Int×Int×Int))(p:Int×Int×Int):Int:=if kx p.1∧kx p.2.1∧kx p.2.2 then(if p∈seen then 12 else 0)else 2
def fU(b:Int×Int×Rat):Int×Int:=(min b.1 b.2.1,max b.1 b.2.1)
def iC(n:Nat)(i:Int):Prop:=0<=i∧i<n
instance (n : Nat) (i : Int) : Decidable (iC n i) := by unfold iC; infer_instance
def eV(n:Nat)(seen:List (Int×Int×Rat))(b:Int×Int×Rat):Int:=
 if iC n b.1∧iC n b.2.1 then(if b.1=b.2.1 then 3 else if fU b∈seen.map fU then 5 else if b.2.2<=0 then 2 else 0)else 6
def gg(s:Int×Int×Rat):Int×Int:=(s.1,s.2.1)
def jU(n:Nat)(seen:List (Int×Int×Rat))(s:Int×Int×Rat):Int:=
 if iC n s.1 then(if 0<=s.2.1∧s.2.1<=2 then(if gg s∈seen.map gg then 5 else if s.2.2<0 then 2 else 0)else 2)else 6
def df(f:fK):Int:=
 if 20<f.nodes.length∨60<f.bars.length∨60<f.cO.length then 8 else
  if eL eP [] f.nodes≠0 then eL eP [] f.nodes else
   if eL (eV f.nodes.length) [] f.bars≠0 then eL (eV f.nodes.length) [] f.bars else eL (jU f.nodes.length) [] f.cO
def iZ(n:Nat)(x:Ld):Int:=if iC n x.1 then(if kx x.2.1∧kx x.2.2.1∧kx x.2.2.2 then 0 else 2)else 6
def sA(n:Nat)(l:List Ld):Int:=if 200<l.length then 8 else eL (fun _=>iZ n) [] l
def lX(f:fK)(l:List Ld):Int:=if df f≠0 then df f else sA f.nodes.length l
theorem qM{seen:List (Int×Int×Int)}{p:Int×Int×Int}:eP seen p=0↔(kx p.1∧kx p.2.1∧kx p.2.2)∧p∉seen:=by
 unfold eP;split<;>rename_i h
 ·split<;>rename_i h2<;>simp[h,h2]
 ·simp[h]
theorem lG{n:Nat}{seen:List (Int×Int×Rat)}{b:Int×Int×Rat}:eV n seen b=0↔(iC n b.1∧iC n b.2.1)∧b.1≠b.2.1∧fU b∉seen.map fU∧0<b.2.2:=by
 unfold eV;rw[<-Rat.not_le];by_cases h:iC n b.1∧iC n b.2.1
 ·rw[if_pos h];by_cases h2:b.1=b.2.1
  ·rw[if_pos h2];exact⟨(fun e=>by cases e),fun e=>absurd h2 e.2.1⟩
  ·rw[aK h2];by_cases h3:fU b∈seen.map fU
   ·rw[if_pos h3];exact⟨(fun e=>by cases e),fun e=>absurd h3 e.2.2.1⟩
   ·rw[aK h3];by_cases h4:b.2.2<=0
    ·rw[if_pos h4];exact⟨(fun e=>by cases e),fun e=>absurd h4 e.2.2.2⟩
    ·rw[aK h4];exact⟨fun _=>⟨h,h2,h3,h4⟩,fun _=>rfl⟩
 ·rw[aK h];exact⟨(fun e=>by cases e),fun e=>absurd e.1 h⟩
theorem oW{n:Nat}{seen:List (Int×Int×Rat)}{s:Int×Int×Rat}:jU n seen s=0↔iC n s.1∧(0<=s.2.1∧s.2.1<=2)∧gg s∉seen.map gg∧0<=s.2.2:=by
 unfold jU;rw[<-Rat.not_lt];by_cases h:iC n s.1<;>by_cases h2:0<=s.2.1∧s.2.1<=2<;>by_cases h3:gg s∈seen.map gg<;>by_cases h4:s.2.2<0<;>simp only[h,h2,h3,h4]<;>simp
theorem Cr{n:Nat}{x:Ld}:iZ n x=0↔iC n x.1∧kx x.2.1∧kx x.2.2.1∧kx x.2.2.2:=by
 unfold iZ;split<;>rename_i h
 ·split<;>rename_i h2<;>simp[h,h2]
 ·simp[h]
theorem s4{f:fK}(h:df f=0):(f.nodes.length<=20∧f.bars.length<=60∧f.cO.length<=60)∧eL eP [] f.nodes=0∧eL (eV f.nodes.length) [] f.bars=0∧eL (jU f.nodes.length) [] f.cO=0:=by
 unfold df at h;split at h<;>rename_i h1
 ·cases h
 ·split at h<;>rename_i h2
  ·exact absurd h h2
  ·split at h<;>rename_i h3
   ·exact absurd h h3
   ·exact⟨by omega,by simpa using h2,by simpa using h3,h⟩
theorem mD{f:fK}(h:df f=0):pM f:=by
 obtain⟨⟨h1,h2,h3⟩,hn,hb,hs⟩:=s4 h;refine⟨fun p hp=>?_,fun b hb'=>?_,fun s hs'=>?_,h1,h2,h3⟩
 ·obtain⟨k,hk⟩:=ah hp;exact(qM.1 (gh hn k p hk)).1
 ·obtain⟨k,hk⟩:=ah hb';exact(lG.1 (gh hb k b hk)).1
 ·obtain⟨k,hk⟩:=ah hs';have:=oW.1 (gh hs k s hk);exact⟨this.1,this.2.1⟩
theorem HZ{n:Nat}{l:List Ld}(h:sA n l=0):GM n l:=by
 unfold sA at h;split at h<;>rename_i h1
 ·cases h
 ·refine⟨by omega,fun x hx=>?_⟩;obtain⟨k,hk⟩:=ah hx;exact Cr.1 (gh h k x hk)
theorem qN{f:fK}{l:List Ld}(h:lX f l=0):df f=0∧sA f.nodes.length l=0:=by
 unfold lX at h;split at h<;>rename_i h1
 ·exact absurd h h1
 ·exact⟨by simpa using h1,h⟩
theorem ji(n:Int)(w:World):dh PG N.nZ #[.int .i64 n,.int .i64 1000000] w (dw w fun v' _=>∃d,v'= .bool d∧(d=true↔kx n)):=by
 have hw:cN w.heap.size w w:=cN.refl;refine r8 (by simp) ?_;conv=>whnf
 refine⟨-1000000,by decide,?_⟩;conv=>whnf
 refine dE.mk (fun h1=>?_) (fun h1=>?_)
 ·conv=>whnf
  intro ρe we re;have h1:=aI h1;exact⟨_,rfl,hw.tr re.cC,_,rfl,by rw[decide_eq_true_iff];exact⟨fun h=>⟨h1,h⟩,fun h=>h.2⟩⟩
 ·conv=>whnf
  intro ρe we re;have h1:=aH h1;exact⟨_,rfl,hw.tr re.cC,_,rfl,(fun h=>by cases h),fun h=>absurd h.1 h1⟩
theorem Cs(n:Int)(w:World)(an ab aq:Option Addr)(ln cn nb cb nq cq:Nat):dh PG N.tt #[.agg #[.slice an ln cn,.slice ab nb cb,.slice aq nq cq],.int .i64 n] w (dw w fun v' _=>∃d,v'= .bool d∧(d=true↔iC ln n)):=by
 have hw:cN w.heap.size w w:=cN.refl;refine xW (by simp) ?_;conv=>whnf
 refine dE.mk (fun h1=>?_) (fun h1=>?_)
 ·conv=>whnf
  intro ρe we re;have h1:=aI h1;exact⟨_,rfl,hw.tr re.cC,_,rfl,by rw[decide_eq_true_iff];exact⟨fun h=>⟨h1,h⟩,fun h=>h.2⟩⟩
 ·conv=>whnf
  intro ρe we re;have h1:=aH h1;exact⟨_,rfl,hw.tr re.cC,_,rfl,(fun h=>by cases h),fun h=>absurd h.1 h1⟩
theorem A8(x y0 y1 y2:Int)(n:Nat)(w:World):dh PG N.kT #[.agg #[.int .i64 x,.int .i64 y0,.int .i64 y1,.int .i64 y2],.int .i64 n] w (dw w fun v' _=>v'= .int .i64 (iZ n (x,y0,y1,y2))):=by
 have hw:cN w.heap.size w w:=cN.refl;refine nh (by simp) ?_;conv=>whnf
 refine dE.mk (fun h1=>?_) (fun h1=>?_)
 ·have h1:=aI h1;conv=>whnf
  intro ρe we re;exact⟨_,rfl,hw.tr re.cC,by show Value.int .i64 _=_;rw[iZ,aK (by unfold iC;omega)]⟩
 have h1:=aH h1;conv=>whnf
 refine dE.mk (fun h2=>?_) (fun h2=>?_)
 ·have h2:=aI h2;conv=>whnf
  intro ρe we re;exact⟨_,rfl,hw.tr re.cC,by show Value.int .i64 _=_;rw[iZ,aK (by unfold iC;omega)]⟩
 have h2:=aH h2;have hh:iC n x:=by unfold iC;omega
 conv=>whnf
 refine bz (cE hw (Φ:=fun _ w' v w2=>∃d,v= .bool d∧(d=true↔kx y0)) (fun ρ w' r=>ji _ w') ?_);rintro ρ wa1 v1 wb1 iv1 r he hw h_ ⟨d0,rfl,hz0⟩;clear r
 cases d0
 ·have hz0:¬kx y0:=fun h=>by have:=hz0.2 h;cases this
  conv=>whnf
  intro ρe we re;exact⟨_,rfl,hw.tr re.cC,by show Value.int .i64 _=_;rw[iZ,if_pos hh,aK (fun h=>hz0 h.1)]⟩
 replace hz0:=hz0.1 rfl;conv=>whnf
 refine bz (cE hw (Φ:=fun _ w' v w2=>∃d,v= .bool d∧(d=true↔kx y1)) (fun ρ w' r=>ji _ w') ?_);rintro ρ wa2 v2 wb2 iv2 r he hw h_ ⟨d1,rfl,hz1⟩;clear r
 cases d1
 ·have hz1:¬kx y1:=fun h=>by have:=hz1.2 h;cases this
  conv=>whnf
  intro ρe we re;exact⟨_,rfl,hw.tr re.cC,by show Value.int .i64 _=_;rw[iZ,if_pos hh,aK (fun h=>hz1 h.2.1)]⟩
 replace hz1:=hz1.1 rfl;conv=>whnf
 refine bz (cE hw (Φ:=fun _ w' v w2=>∃d,v= .bool d∧(d=true↔kx y2)) (fun ρ w' r=>ji _ w') ?_);rintro ρ wa3 v3 wb3 iv3 r he hw h_ ⟨d2,rfl,hz2⟩;clear r
 cases d2
 ·have hz2:¬kx y2:=fun h=>by have:=hz2.2 h;cases this
  conv=>whnf
  intro ρe we re;exact⟨_,rfl,hw.tr re.cC,by show Value.int .i64 _=_;rw[iZ,if_pos hh,aK (fun h=>hz2 h.2.2)]⟩
 replace hz2:=hz2.1 rfl;conv=>whnf
 intro ρe we re;exact⟨_,rfl,hw.tr re.cC,by show Value.int .i64 _=_;rw[iZ,if_pos hh,if_pos ⟨hz0,hz1,hz2⟩]⟩
theorem yd{S:Nat->Prop}{w:World}{vl:Value}{l:List Ld}{n:Nat}(hS:Old S w)(hl:ix w S vl l):dh PG N.js #[vl,.int .i64 n] w (dw w fun v' _=>v'= .int .i64 (sA n l)):=by
 have hw:cN w.heap.size w w:=cN.refl;obtain⟨al,cl,rfl,hcl,hml⟩:=hl.shape;unfold maxLen at hml;refine mn (by simp) ?_;conv=>whnf
 refine dE.mk (fun h1=>?_) (fun h1=>?_)
 ·have h1:=aI h1;conv=>whnf
  intro ρe we re;exact⟨_,rfl,hw.tr re.cC,by show Value.int .i64 _=_;rw[sA,if_pos (by omega)]⟩
 have h1:=aH h1;conv=>whnf
 refine⟨Nat×World×Iv,fun z=>⟨[(1,.o (.v (.int .i64 n))),(11,.o (.v (.slice al l.length cl))),(12,.o (.v (.int .i64 l.length))),(13,.o (.v (.int .i64 ((z.1:Nat):Int))))],[],0,z.2.2,z.2.1⟩,fun z=>l.length-z.1,
  fun z=>z.1<=l.length∧cN w.heap.size w z.2.1∧sA n l=eL (fun _=>iZ n) (l.take z.1) (l.drop z.1),?_,?_⟩
 ·intro ρ w' r3;exact⟨(0,w',[]),⟨aN _,hw.tr r3.cC,by rw[sA,aK (by omega)];rfl⟩,Sub.gen [] r3 trivial ⟨rfl,rfl,rfl,rfl,trivial⟩ (by simp[dG,cW.scopd,At.sc]) (by simp[cV,SV.sc,At.sc,cQ]) (by rfl) (fun lo hi h=>h)⟩
 clear hw;rintro⟨i,w1,iv⟩ ⟨hi,hw,hE⟩;dsimp only at hi hw hE ⊢;conv=>whnf
 refine dE.mk (fun hib=>?_) (fun hib=>?_)
 ·have hib:i<l.length:=by simpa using hib
  obtain⟨x,hx⟩:∃x,l[i]? =some x:=⟨_,aB hib⟩
  obtain⟨adx,cs,hax,hP,-,hlx⟩:=hl.load (by decide) hx;have hP:cs=[.int .i64 x.1,.int .i64 x.2.1,.int .i64 x.2.2.1,.int .i64 x.2.2.2]:=hP;subst hP;conv=>whnf
  refine⟨adx,hax,⟨by omega,by omega⟩,?_⟩;conv=>whnf
  refine⟨[.int .i64 x.1,.int .i64 x.2.1,.int .i64 x.2.2.1,.int .i64 x.2.2.2],rfl,fun ρ w' r j u hu=>?_,?_⟩
  ·obtain⟨k1,k2⟩:=hlx j u hu;rw[aC,bw (w:=w) (w2:=w') (by rw[cL,cL];exact(hw.tr r.cC).block _ (hS _ k1))];exact k2
  conv=>whnf
  refine bz (cE hw (Φ:=fun _ w' v w2=>v= .int .i64 (iZ n x)) (fun ρ w' r=>A8 _ _ _ _ n w') ?_);rintro ρ wa1 v1 wb1 iv1 r he hw h_ rfl;clear r;obtain⟨c,hc⟩:∃c,iZ n x=c:=⟨_,rfl⟩
  rw[hc];conv=>whnf
  refine dE.mk (fun hd=>?_) (fun hd=>?_)
  ·have hd:c≠0:=by simpa using hd
   conv=>whnf
   intro ρe we re;exact⟨_,rfl,hw.tr re.cC,by show Value.int .i64 _=_;rw[hE,cK hx hc hd]⟩
  have hd:c=0:=by simpa using hd
  rw[hd]at hc;rw[fb hx hc]at hE;conv=>whnf
  refine⟨((i+1:Nat):Int),by rw[wrap64]<;>omega,?_⟩;conv=>whnf
  intro ρ3 w6 r3;exact⟨(i+1,w6,_),⟨hib,hw.tr r3.cC,hE⟩,Sub.gen [] r3 trivial ⟨rfl,rfl,rfl,rfl,trivial⟩ (by simp[dG,cW.scopd,At.sc]) (by simp[cV,SV.sc,At.sc,cQ]) (by rfl) (fun lo hi h=>h),by dsimp only;omega⟩
 have hib:i=l.length:=aP hi (by simpa using hib);rw[gq (by omega)]at hE;conv=>whnf
 intro ρe we re;exact⟨_,rfl,hw.tr re.cC,by show Value.int .i64 _=_;rw[hE]⟩
theorem eY{cs:Array Value}{j:Nat}{v:Value}(h:cs[j]? =some v)(w:World):(part T.int cs j).run PG w= .ok v w:=by
 have:=(hτ T.int _ rfl).isAgg w;simp only[part,Sem.run_bind,this,Result.andThen]
 simp[h]
theorem eq_int(d:Nat)(a b:Int)(w:World):(Op.equalIn (d+1) T.int (.int .i64 a) (.int .i64 b)).run PG w= .ok (a==b) w:=by
 unfold Op.equalIn;simp[run_underlying ((hτ T.int _ rfl).i1 rfl)]
theorem H0(p0 p1 p2 q0 q1 q2:Int)(w:World):(Op.equal T.Node (.agg #[.int .i64 p0,.int .i64 p1,.int .i64 p2]) (.agg #[.int .i64 q0,.int .i64 q1,.int .i64 q2])).run PG w= .ok (decide (p0=q0∧p1=q1∧p2=q2)) w:=by
 have h:=run_underlying Tryz.underlying169;simp only[Op.equal,Op.maxDepth]
 unfold Op.equalIn;have a0:=eY (cs:= #[Value.int .i64 p0,Value.int .i64 p1,Value.int .i64 p2]) (j:=0) rfl;have a1:=eY (cs:= #[Value.int .i64 p0,Value.int .i64 p1,Value.int .i64 p2]) (j:=1) rfl;have a2:=eY (cs:= #[Value.int .i64 p0,Value.int .i64 p1,Value.int .i64 p2]) (j:=2) rfl;have b0:=eY (cs:= #[Value.int .i64 q0,Value.int .i64 q1,Value.int .i64 q2]) (j:=0) rfl;have b1:=eY (cs:= #[Value.int .i64 q0,Value.int .i64 q1,Value.int .i64 q2]) (j:=1) rfl;have b2:=eY (cs:= #[Value.int .i64 q0,Value.int .i64 q1,Value.int .i64 q2]) (j:=2) rfl;simp[h,a0,a1,a2,b0,b1,b2,eq_int 9998];by_cases h0:p0=q0
 ·by_cases h1:p1=q1
  ·by_cases h2:p2=q2<;>simp[h0,h1,h2]
  ·simp[h0,h1]
 ·simp[h0]
theorem H2(p0 p1 q0 q1:Int)(w:World):(Op.equal T.AM (.agg #[.int .i64 p0,.int .i64 p1]) (.agg #[.int .i64 q0,.int .i64 q1])).run PG w= .ok (decide (p0=q0∧p1=q1)) w:=by
 have h:=run_underlying Tryz.underlying187;simp only[Op.equal,Op.maxDepth]
 unfold Op.equalIn;have a0:=eY (cs:= #[Value.int .i64 p0,Value.int .i64 p1]) (j:=0) rfl;have a1:=eY (cs:= #[Value.int .i64 p0,Value.int .i64 p1]) (j:=1) rfl;have b0:=eY (cs:= #[Value.int .i64 q0,Value.int .i64 q1]) (j:=0) rfl;have b1:=eY (cs:= #[Value.int .i64 q0,Value.int .i64 q1]) (j:=1) rfl;simp[h,a0,a1,b0,b1,eq_int 9998];by_cases h0:p0=q0
 ·by_cases h1:p1=q1<;>simp[h0,h1]
 ·simp[h0]
abbrev z4(p:Int×Int×Int):Value:=.agg #[.int .i64 p.1,.int .i64 p.2.1,.int .i64 p.2.2]
theorem Bx(p q:Int×Int×Int)(w:World)(o1 o2:Operand):(do eqGuard .eql T.Node o1 o2 (z4 p) (z4 q);binOp .eql T.Node (z4 p) (z4 q)).run PG w= .ok (.bool (decide (p=q))) w:=by
 have h:=H0 p.1 p.2.1 p.2.2 q.1 q.2.1 q.2.2 w;simp[eqGuard,binOp,h];obtain⟨a,b,c⟩:=p;obtain⟨a2,b2,c2⟩:=q;by_cases h0:a=a2
 ·by_cases h1:b=b2
  ·by_cases h2:c=c2<;>simp[h0,h1,h2]
  ·simp[h0,h1]
 ·simp[h0]
def lY(k:Int×Int):Value:=.agg #[.int .i64 k.1,.int .i64 k.2]
theorem oD{a b:Int×Int}(h:lY a=lY b):a=b:=by
 unfold lY at h;injection h with h;have h1:=congrArg (fun x=>x[0]?) h;have h2:=congrArg (fun x=>x[1]?) h;simp at h1 h2;exact Prod.ext h1 h2
theorem Ed(d:Nat)(a:Int)(em:Bool)(w:World):(Instr.checkKey em (d+1) T.int (.int .i64 a)).run PG w= .ok () w:=by
 unfold Instr.checkKey;simp[run_underlying ((hτ T.int _ rfl).i1 rfl)]
theorem Ct(p0 p1:Int)(em:Bool)(w:World):(Instr.checkKey em 10000 T.AM (.agg #[.int .i64 p0,.int .i64 p1])).run PG w= .ok () w:=by
 have h:=run_underlying Tryz.underlying187;have a0:=eY (cs:= #[Value.int .i64 p0,Value.int .i64 p1]) (j:=0) rfl;have a1:=eY (cs:= #[Value.int .i64 p0,Value.int .i64 p1]) (j:=1) rfl;unfold Instr.checkKey;simp[h,a0,a1,Ed 9998]
theorem vQ:FO PG T.AM (fun v=>∃k,v=lY k) where
 desc:=⟨_,Tryz.underlying187⟩
 check:=fun w em v ⟨k,e⟩=>by subst e;exact Ct k.1 k.2 em w
 eq:=fun w a b ⟨p,e1⟩ ⟨q,e2⟩=>by
  subst e1 e2;refine⟨_,H2 p.1 p.2 q.1 q.2 w,?_⟩;rw[decide_eq_true_iff];exact⟨fun h=>by rw[show p=q from Prod.ext h.1 h.2],fun h=>by have:=oD h;subst this;exact⟨rfl,rfl⟩⟩
theorem sB:PG.underlying T.uU=some (.map T.AM T.bool):=Tryz.underlying185
theorem z5(w:World):(zeroValue T.bool).run PG w= .ok (.bool false) w:=by kernel_rfl
theorem GO(ad:Option Addr)(k:Nat):ad.map (·.add (0*k))=ad:=by
 rw[Nat.zero_mul]
 cases ad with
 |none=>rfl
 |some a=>simp only[Option.map_some,Option.some.injEq];unfold Addr.add;split<;>simp_all
theorem eH.take{α:Type}{k:Nat}{P:World->(Nat->Prop)->List Value->α->Prop}{w:World}{S:Nat->Prop}{a:Option Addr}{n c:Nat}{xs:List α}(h:eH k P w S (.slice a n c) xs){i:Nat}(hi:i<=xs.length):
  eH k P w S (.slice a i c) (xs.take i):=by
 obtain⟨css,⟨h0,h1,h2,a',c',e,h3,h4⟩,hl,hlk,hf⟩:=h;injection e with e1 e2 e3;subst e1 e2 e3;have hlen:(css.take i).length=i:=by rw[aX,hl];omega
 have hli:(xs.take i).length=i:=by rw[aX];omega
 have hsplit:css.flatten=(css.take i).flatten++(css.drop i).flatten:=by rw[<-List.flatten_append,List.take_append_drop]
 refine⟨css.take i,⟨by omega,?_,fun u hu=>h2 u (by rw[hsplit];exact List.mem_append_left _ hu),a,c,by rw[hli],by omega,fun j u hj=>h4 j u ?_⟩,by rw[hlen,hli],fun cs hc=>hlk cs (List.mem_of_mem_take hc),fun j cs x k1 k2=>?_⟩
 ·rw[tJ fun cs hc=>hlk cs (List.mem_of_mem_take hc),hlen,hli]
 ·rw[hsplit,aL (aE.1 hj).1];exact hj
 ·have hj:=(aE.1 k1).1;rw[hlen]at hj;rw[bM hj]at k1 k2;exact hf j cs x k1 k2
theorem kp.cD{w w2:World}{S:Nat->Prop}{v:Value}{xs:List (Int×Int×Int)}(h:kp w S v xs)(hk:∀g,S g->w2.heap[g]? =w.heap[g]?):kp w2 S v xs:=eH.cD (w:=w) (fun _ _ h=>h) h hk
theorem A9{S:Nat->Prop}{w:World}{vn:Value}{xs:List (Int×Int×Int)}(hS:Old S w)(hn:kp w S vn xs)(p:Int×Int×Int):dh PG N.fC #[vn,z4 p] w (dw w fun v' _=>∃r,v'= .int .i64 r∧(-1<=r)∧(0<=r↔p∈xs)):=by
 have hw:cN w.heap.size w w:=cN.refl;obtain⟨an,cn,rfl,hcn,hmn⟩:=hn.shape;unfold maxLen at hmn;refine gW (by simp) ?_;conv=>whnf
 refine⟨Nat×World,fun z=>⟨[(0,.o (.v (.slice an xs.length cn))),(3,.o (.p 0 0)),(7,.o (.v (.int .i64 xs.length))),(8,.o (.v (.int .i64 ((z.1:Nat):Int))))],[(0,.box T.Node [.v (.int .i64 p.1),.v (.int .i64 p.2.1),.v (.int .i64 p.2.2)])],1,[],z.2⟩,fun z=>xs.length-z.1,
  fun z=>z.1<=xs.length∧cN w.heap.size w z.2∧(p∈xs↔p∈xs.drop z.1),?_,?_⟩
 ·intro ρ w' r3;exact⟨(0,w'),⟨aN _,hw.tr r3.cC,Iff.rfl⟩,Sub.gen [] r3 ⟨rfl,trivial⟩ ⟨rfl,rfl,rfl,rfl,trivial⟩ (by simp[dG,cW.scopd,At.sc]) (by simp[cV,SV.sc,At.sc,cQ]) (by rfl) (fun lo hi h=>h)⟩
 clear hw;rintro⟨i,w1⟩ ⟨hi,hw,hE⟩;dsimp only at hi hw hE ⊢;conv=>whnf
 refine dE.mk (fun hib=>?_) (fun hib=>?_)
 ·have hib:i<xs.length:=by simpa using hib
  obtain⟨q,hx⟩:∃x,xs[i]? =some x:=⟨_,aB hib⟩
  have hdr:xs.drop i=q::xs.drop (i+1):=by rw[List.drop_eq_getElem_cons hib,(aE.1 hx).2]
  obtain⟨adx,cs,hax,hP,-,hlx⟩:=hn.load (by decide) hx;have hP:cs=[.int .i64 q.1,.int .i64 q.2.1,.int .i64 q.2.2]:=hP;subst hP;conv=>whnf
  refine gl hτ dV (.x 1 (.x 2 (.x 3 (.ld 0 32 (.ld 4 32 (.x 5 .nil)))))) (by kernel_rfl) (by kernel_rfl) ?_;conv=>whnf
  refine⟨adx,hax,⟨by omega,by omega⟩,?_⟩;conv=>whnf
  refine⟨[.int .i64 q.1,.int .i64 q.2.1,.int .i64 q.2.2],rfl,fun ρ w' r j u hu=>?_,?_⟩
  ·obtain⟨k1,k2⟩:=hlx j u hu;rw[aC,bw (w:=w) (w2:=w') (by rw[cL,cL];exact(hw.tr r.cC).block _ (hS _ k1))];exact k2
  conv=>whnf
  refine⟨decide (p=q),fun ρ w o1 o2=>Bx p q w o1 o2,?_⟩;conv=>whnf
  refine dE.mk (fun hd=>?_) (fun hd=>?_)
  ·have hd:p=q:=aI hd;conv=>whnf
   intro ρe we re;exact⟨_,rfl,hw.tr re.cC,_,rfl,by omega,iff_of_true (by omega) (hE.2 (by rw[hdr,hd];exact aJ))⟩
  have hd:p≠q:=aH hd;rw[hdr,List.mem_cons,or_iff_right hd]at hE;conv=>whnf
  refine⟨((i+1:Nat):Int),by rw[wrap64]<;>omega,?_⟩;conv=>whnf
  intro ρ3 w6 r3;exact⟨(i+1,w6),⟨hib,hw.tr r3.cC,hE⟩,Sub.gen [] r3 ⟨rfl,trivial⟩ ⟨rfl,rfl,rfl,rfl,trivial⟩ (by simp[dG,cW.scopd,At.sc]) (by simp[cV,SV.sc,At.sc,cQ]) (by rfl) (fun lo hi h=>h),by dsimp only;omega⟩
 have hib:i=xs.length:=aP hi (by simpa using hib);rw[hib,List.drop_length]at hE;conv=>whnf
 intro ρe we re;exact⟨_,rfl,hw.tr re.cC,_,rfl,by omega,iff_of_false (by omega) fun h=>by cases hE.1 h⟩
theorem uv{S:Nat->Prop}{w:World}{vn:Value}{xs:List (Int×Int×Int)}(hS:Old S w)(hn:kp w S vn xs)(p:Int×Int×Int):dh PG N.ec #[vn,z4 p] w (dw w fun v' _=>∃d,v'= .bool d∧(d=true↔p∈xs)):=by
 have hw:cN w.heap.size w w:=cN.refl;obtain⟨an,cn,rfl,hcn,hmn⟩:=hn.shape;refine gH (by simp) ?_;conv=>whnf
 refine bz (cE hw (Φ:=fun _ w' v w2=>∃r,v= .int .i64 r∧(-1<=r)∧(0<=r↔p∈xs)) (fun ρ w' r=>A9 (p:=p) (fun g hg=>by have:=hS g hg;have:=r.bu;omega) (kp.cD hn fun g hg=>(hw.tr r.cC).block g (hS g hg))) ?_);rintro ρ wa1 v1 wb1 iv1 r he hw h_ ⟨r0,rfl,hr0,hr1⟩;clear r;conv=>whnf
 intro ρe we re;exact⟨_,rfl,hw.tr re.cC,_,rfl,by rw[decide_eq_true_iff];exact hr1⟩
def uw(w:World)(S:Nat->Prop)(g:Nat)(ks:List Value):Prop:=S g∧BK w g ks
section
variable{S:Nat->Prop}{H:Hp}{nx:Nat}{iv iv':Iv}{B:Nat}{w w' w2:World}{ρ:Nat->Sx.dc}{g:Nat}{ks:List Value}
theorem uw.rel(h:uw w (Cv S B iv) g ks)(r:Rel H nx iv B w ρ w')(hS:∀g,S g->g<B):uw w' (Cv S B iv) g ks:=⟨h.1,h.2.cD (Rel.same r hS h.1)⟩
theorem uw.cB(h:uw w (Cv S B iv) g ks)(r:Rel H nx iv B w ρ w')(hS:∀g,S g->g<B)(he:Ext w' w2)(hm:∀p,p∈iv->p∈iv'):uw w2 (Cv S B iv') g ks:=
 ⟨h.1.mono hm,(h.rel r hS).2.cD (he.block g (Rel.old r hS g h.1))⟩
end
set_option maxHeartbeats 2000000 in
theorem jV{S:Nat->Prop}{w:World}{vn vb vs:Value}{f:fK}(hS:Old S w)(hf:dT w S vn vb vs f):dh PG N.oy #[.agg #[vn,vb,vs]] w (dw w fun v' _=>v'= .int .i64 (df f)):=by
 have hw:cN w.heap.size w w:=cN.refl;obtain⟨an,cn,ab,cb,aq,cq,rfl,rfl,rfl,hmn,hmb,hms⟩:=hf.shape;obtain⟨_,_,hsh,hcn,_⟩:=hf.nodes.shape;injection hsh with e1 e2 e3;subst e1 e3;refine sj (by simp) ?_;conv=>whnf
 refine dE.mk (fun h0=>?_) (fun h0=>?_)
 ·have h0:=aI h0;conv=>whnf
  intro ρe we re;exact⟨_,rfl,hw.tr re.cC,by show Value.int .i64 _=_;rw[df,if_pos (by omega)]⟩
 have h0:=aH h0;conv=>whnf
 refine dE.mk (fun h1=>?_) (fun h1=>?_)
 ·have h1:=aI h1;conv=>whnf
  intro ρe we re;exact⟨_,rfl,hw.tr re.cC,by show Value.int .i64 _=_;rw[df,if_pos (by omega)]⟩
 have h1:=aH h1;conv=>whnf
 refine dE.mk (fun h2=>?_) (fun h2=>?_)
 ·have h2:=aI h2;conv=>whnf
  intro ρe we re;exact⟨_,rfl,hw.tr re.cC,by show Value.int .i64 _=_;rw[df,if_pos (by omega)]⟩
 have h2:=aH h2;conv=>whnf
 refine⟨Nat×World×Iv,fun z=>⟨[(1,.o (.p 0 0)),(30,.o (.v (.slice an f.nodes.length cn))),(31,.o (.v (.int .i64 f.nodes.length))),(32,.o (.v (.int .i64 ((z.1:Nat):Int))))],[(0,.box T.Frame [.v (.slice an f.nodes.length cn),.v (.slice ab f.bars.length cb),.v (.slice aq f.cO.length cq)])],1,z.2.2,z.2.1⟩,fun z=>f.nodes.length-z.1,
  fun z=>z.1<=f.nodes.length∧cN w.heap.size w z.2.1∧eL eP [] f.nodes=eL eP (f.nodes.take z.1) (f.nodes.drop z.1),?_,?_⟩
 ·intro ρ w' r3;exact⟨(0,w',[]),⟨aN _,hw.tr r3.cC,rfl⟩,Sub.gen [] r3 ⟨rfl,trivial⟩ ⟨rfl,rfl,rfl,rfl,trivial⟩ (by simp[dG,cW.scopd,At.sc]) (by simp[cV,SV.sc,At.sc,cQ]) (by rfl) (fun lo hi h=>h)⟩
 clear hw;rintro⟨i,w1,iv⟩ ⟨hi,hw,hE⟩;dsimp only at hi hw hE ⊢;conv=>whnf
 refine dE.mk (fun hib=>?_) (fun hib=>?_)
 ·have hib:i<f.nodes.length:=by simpa using hib
  obtain⟨q,hx⟩:∃x,f.nodes[i]? =some x:=⟨_,aB hib⟩
  obtain⟨adx,cs,hax,hP,-,hlx⟩:=hf.nodes.load (by decide) hx;have hP:cs=[.int .i64 q.1,.int .i64 q.2.1,.int .i64 q.2.2]:=hP;subst hP;conv=>whnf
  refine⟨adx,hax,⟨by omega,by omega⟩,?_⟩;conv=>whnf
  refine⟨[.int .i64 q.1,.int .i64 q.2.1,.int .i64 q.2.2],rfl,fun ρ w' r j u hu=>?_,?_⟩
  ·obtain⟨k1,k2⟩:=hlx j u hu;rw[aC,bw (w:=w) (w2:=w') (by rw[cL,cL];exact(hw.tr r.cC).block _ (hS _ k1))];exact k2
  conv=>whnf
  refine bz (cE hw (Φ:=fun _ w' v w2=>∃d,v= .bool d∧(d=true↔kx q.1)) (fun ρ w' r=>ji _ w') ?_);rintro ρ wa1 v1 wb1 iv1 r he hw h_ ⟨d0,rfl,hz0⟩;clear r
  cases d0
  ·have hz0:¬kx q.1:=fun h=>by have:=hz0.2 h;cases this
   conv=>whnf
   intro ρe we re;exact⟨_,rfl,hw.tr re.cC,by show Value.int .i64 _=_;rw[df,aK (by omega),if_pos (by rw[hE,cK hx (show eP (f.nodes.take i) q=2 by rw[eP,aK (fun h=>hz0 h.1)]) (by decide)];decide),hE,cK hx (show eP (f.nodes.take i) q=2 by rw[eP,aK (fun h=>hz0 h.1)]) (by decide)]⟩
  replace hz0:=hz0.1 rfl;conv=>whnf
  refine bz (cE hw (Φ:=fun _ w' v w2=>∃d,v= .bool d∧(d=true↔kx q.2.1)) (fun ρ w' r=>ji _ w') ?_);rintro ρ wa2 v2 wb2 iv2 r he hw h_ ⟨d1,rfl,hz1⟩;clear r
  cases d1
  ·have hz1:¬kx q.2.1:=fun h=>by have:=hz1.2 h;cases this
   conv=>whnf
   intro ρe we re;exact⟨_,rfl,hw.tr re.cC,by show Value.int .i64 _=_;rw[df,aK (by omega),if_pos (by rw[hE,cK hx (show eP (f.nodes.take i) q=2 by rw[eP,aK (fun h=>hz1 h.2.1)]) (by decide)];decide),hE,cK hx (show eP (f.nodes.take i) q=2 by rw[eP,aK (fun h=>hz1 h.2.1)]) (by decide)]⟩
  replace hz1:=hz1.1 rfl;conv=>whnf
  refine bz (cE hw (Φ:=fun _ w' v w2=>∃d,v= .bool d∧(d=true↔kx q.2.2)) (fun ρ w' r=>ji _ w') ?_);rintro ρ wa3 v3 wb3 iv3 r he hw h_ ⟨d2,rfl,hz2⟩;clear r
  cases d2
  ·have hz2:¬kx q.2.2:=fun h=>by have:=hz2.2 h;cases this
   conv=>whnf
   intro ρe we re;exact⟨_,rfl,hw.tr re.cC,by show Value.int .i64 _=_;rw[df,aK (by omega),if_pos (by rw[hE,cK hx (show eP (f.nodes.take i) q=2 by rw[eP,aK (fun h=>hz2 h.2.2)]) (by decide)];decide),hE,cK hx (show eP (f.nodes.take i) q=2 by rw[eP,aK (fun h=>hz2 h.2.2)]) (by decide)]⟩
  replace hz2:=hz2.1 rfl;conv=>whnf
  refine gl hτ dV (.x 0 (.x 2 (.ld 1 104 (.x 3 (.ld 4 96 (.x 5 (.x 6 .nil))))))) (by kernel_rfl) (by kernel_rfl) ?_;conv=>whnf
  refine⟨⟨by omega,by omega,by omega⟩,?_⟩;refine⟨an,i,cn,by rw[show ((0:Int).toNat*3)=0*3 from rfl,GO];split<;>rfl,by simp,by simp,?_⟩;conv=>whnf
  refine cE hw (Φ:=fun _ w' v w2=>∃d,v= .bool d∧(d=true↔q∈f.nodes.take i)) (fun ρ w' r=>uv (p:=q) (fun g hg=>by have:=hS g hg;have:=r.bu;omega) (kp.cD (hf.nodes.take (Nat.le_of_lt hib)) fun g hg=>(hw.tr r.cC).block g (hS g hg))) ?_;rintro ρ wa4 v4 wb4 iv4 r he hw h_ ⟨d3,rfl,hz3⟩;clear r;conv=>whnf
  cases d3
  ·have hz3:q∉f.nodes.take i:=fun h=>by have:=hz3.2 h;cases this
   rw[fb hx (qM.2 ⟨⟨hz0,hz1,hz2⟩,hz3⟩)]at hE;conv=>whnf
   refine⟨((i+1:Nat):Int),by rw[wrap64]<;>omega,?_⟩;conv=>whnf
   intro ρ3 w6 r3;exact⟨(i+1,w6,_),⟨hib,hw.tr r3.cC,hE⟩,Sub.gen [] r3 ⟨rfl,trivial⟩ ⟨rfl,rfl,rfl,rfl,trivial⟩ (by simp[dG,cW.scopd,At.sc]) (by simp[cV,SV.sc,At.sc,cQ]) (by rfl) (fun lo hi h=>h),by dsimp only;omega⟩
  replace hz3:=hz3.1 rfl;conv=>whnf
  intro ρe we re;exact⟨_,rfl,hw.tr re.cC,by show Value.int .i64 _=_;rw[df,aK (by omega),if_pos (by rw[hE,cK hx (show eP (f.nodes.take i) q=12 by rw[eP,if_pos ⟨hz0,hz1,hz2⟩,if_pos hz3]) (by decide)];decide),hE,cK hx (show eP (f.nodes.take i) q=12 by rw[eP,if_pos ⟨hz0,hz1,hz2⟩,if_pos hz3]) (by decide)]⟩
 have hib:i=f.nodes.length:=aP hi (by simpa using hib);rw[gq (by omega)]at hE;clear hib hi;conv=>whnf
 refine tU (fun ρ wa wb r hM0 hg hsz=>?_);have hw2:=(hw.tr r.cC).tr (cN.grown hg (fun x e=>by cases e) r.bu);have hB:w.heap.size<=wa.heap.size:=r.bu;have hM:uw wb (Cv (fun _=>False) w.heap.size ((wa.heap.size,wa.heap.size+1)::iv)) wa.heap.size []:=⟨.inr ⟨hB,_,_,aJ,aG _,bY _⟩,hM0⟩
 generalize (wa.heap.size,wa.heap.size+1)::iv=iv2 at*
 obtain⟨gm,hgm⟩:∃gm,wa.heap.size=gm:=⟨_,rfl⟩
 rw[hgm]at hM ⊢;clear r hg hsz hM0 hw;have hw:=hw2;clear hw2;conv=>whnf
 refine⟨Nat×World×Iv,fun z=>⟨[(1,.o (.p 0 0)),(5,.o (.v (.map (some gm)))),(64,.o (.v (.slice ab f.bars.length cb))),(65,.o (.v (.int .i64 f.bars.length))),(66,.o (.v (.int .i64 ((z.1:Nat):Int))))],[(0,.box T.Frame [.v (.slice an f.nodes.length cn),.v (.slice ab f.bars.length cb),.v (.slice aq f.cO.length cq)])],1,z.2.2,z.2.1⟩,fun z=>f.bars.length-z.1,
  fun z=>z.1<=f.bars.length∧cN w.heap.size w z.2.1∧eL (eV f.nodes.length) [] f.bars=eL (eV f.nodes.length) (f.bars.take z.1) (f.bars.drop z.1)∧uw z.2.1 (Cv (fun _=>False) w.heap.size z.2.2) gm ((f.bars.take z.1).map fun b=>lY (fU b)),?_,?_⟩
 ·intro ρ w' r3;exact⟨(0,w',iv2),⟨aN _,hw.tr r3.cC,rfl,hM.rel r3 (bs w)⟩,Sub.gen [] r3 ⟨rfl,trivial⟩ ⟨rfl,rfl,rfl,rfl,rfl,trivial⟩ (by simp[dG,cW.scopd,At.sc]) (by simp[cV,SV.sc,At.sc,cQ]) (by rfl) (fun lo hi h=>h)⟩
 clear hw hM hB hgm;rintro⟨i,w1,iv⟩ ⟨hi,hw,hE2,hM⟩;dsimp only at hi hw hE2 hM ⊢;conv=>whnf
 refine dE.mk (fun hib=>?_) (fun hib=>?_)
 ·have hib:i<f.bars.length:=by simpa using hib
  obtain⟨b,hx⟩:∃b,f.bars[i]? =some b:=⟨_,aB hib⟩
  obtain⟨adb,cs,hab,hF,-,hlb⟩:=hf.bars.load (by decide) hx;obtain⟨g0,g1,g2,g3,g4,g5,g6,g7,rfl,hF⟩:=hF;conv=>whnf
  refine⟨adb,hab,⟨by omega,by omega⟩,?_⟩;conv=>whnf
  refine⟨[.int .i64 b.1,.int .i64 b.2.1,.bool g0,.slice g1 g2 g3,.bool g4,.slice g5 g6 g7],rfl,fun ρ w' r j u hu=>?_,?_⟩
  ·obtain⟨k1,k2⟩:=hlb j u hu;rw[aC,bw (w:=w) (w2:=w') (by rw[cL,cL];exact(hw.tr r.cC).block _ (hS _ k1))];exact k2
  conv=>whnf
  refine bz (cE hw (Φ:=fun _ w' v w2=>∃d,v= .bool d∧(d=true↔iC f.nodes.length b.1)) (fun ρ w' r=>Cs _ w' _ _ _ _ _ _ _ _ _) ?_);rintro ρ wa1 v1 wb1 iv1 r he hw h_ ⟨d0,rfl,hz0⟩;replace hM:=hM.cB r (bs w) he (mC h_);clear r
  cases d0
  ·have hz0:¬iC f.nodes.length b.1:=fun h=>by have:=hz0.2 h;cases this
   conv=>whnf
   intro ρe we re;exact⟨_,rfl,hw.tr re.cC,by show Value.int .i64 _=_;rw[df,aK (by omega),aK (by rw[hE];decide),if_pos (by rw[hE2,cK hx (show eV f.nodes.length (f.bars.take i) b=6 by rw[eV,aK (fun h=>hz0 h.1)]) (by decide)];decide),hE2,cK hx (show eV f.nodes.length (f.bars.take i) b=6 by rw[eV,aK (fun h=>hz0 h.1)]) (by decide)]⟩
  replace hz0:=hz0.1 rfl;conv=>whnf
  refine bz (cE hw (Φ:=fun _ w' v w2=>∃d,v= .bool d∧(d=true↔iC f.nodes.length b.2.1)) (fun ρ w' r=>Cs _ w' _ _ _ _ _ _ _ _ _) ?_);rintro ρ wa2 v2 wb2 iv2 r he hw h_ ⟨d1,rfl,hz1⟩;replace hM:=hM.cB r (bs w) he (mC h_);clear r
  cases d1
  ·have hz1:¬iC f.nodes.length b.2.1:=fun h=>by have:=hz1.2 h;cases this
   conv=>whnf
   intro ρe we re;exact⟨_,rfl,hw.tr re.cC,by show Value.int .i64 _=_;rw[df,aK (by omega),aK (by rw[hE];decide),if_pos (by rw[hE2,cK hx (show eV f.nodes.length (f.bars.take i) b=6 by rw[eV,aK (fun h=>hz1 h.2)]) (by decide)];decide),hE2,cK hx (show eV f.nodes.length (f.bars.take i) b=6 by rw[eV,aK (fun h=>hz1 h.2)]) (by decide)]⟩
  replace hz1:=hz1.1 rfl;conv=>whnf
  refine dE.mk (fun hab2=>?_) (fun hab2=>?_)
  ·have hab2:b.1=b.2.1:=by simpa using hab2
   conv=>whnf
   intro ρe we re;exact⟨_,rfl,hw.tr re.cC,by show Value.int .i64 _=_;rw[df,aK (by omega),aK (by rw[hE];decide),if_pos (by rw[hE2,cK hx (show eV f.nodes.length (f.bars.take i) b=3 by rw[eV,if_pos ⟨hz0,hz1⟩,if_pos hab2]) (by decide)];decide),hE2,cK hx (show eV f.nodes.length (f.bars.take i) b=3 by rw[eV,if_pos ⟨hz0,hz1⟩,if_pos hab2]) (by decide)]⟩
  have hab2:b.1≠b.2.1:=by simpa using hab2
  conv=>whnf
  refine vv vQ sB z5 rfl rfl (key:=lY (fU b)) (fun _=>rfl) ⟨_,rfl⟩ (fun k hk=>by obtain⟨x,_,rfl⟩:=aU.1 hk;exact⟨_,rfl⟩) (fun ρ w' r=>(hM.rel r (bs w)).2) (fun ρ w' d r hd=>?_);replace hw:=hw.tr r.cC;replace hM:=hM.rel r (bs w);replace hd:d=true↔fU b∈(f.bars.take i).map fU:=by
   rw[hd];constructor
   ·intro h;obtain⟨x,h1,h2⟩:=aU.1 h;exact aU.2 ⟨x,h1,oD h2⟩
   ·intro h;obtain⟨x,h1,h2⟩:=aU.1 h;exact aU.2 ⟨x,h1,congrArg lY h2⟩
  clear r
  cases d
  ·have hdup:fU b∉(f.bars.take i).map fU:=fun h=>by have:=hd.2 h;cases this
   clear hd;conv=>whnf
   refine bz (cE hw (Φ:=fun _ w' v w2=>v= .int .i64 (rs b.2.2)) (fun ρ w' r=>(Cj (fun g hg=>by have:=hS g hg;have:=r.bu;omega) (hF.v.cD fun g hg=>(hw.tr r.cC).block g (hS g hg)) (eG.zero (S:=S)).v).mono fun _ _ ⟨v2,e1,e2,e3⟩=>⟨v2,e1,e2,by rw[e3,oB]⟩) ?_);rintro ρ wa3 v3 wb3 iv3 r he hw h_ rfl;replace hM:=hM.cB r (bs w) he (mC h_);clear r;obtain⟨cf,hcf⟩:∃c,rs b.2.2=c:=⟨_,rfl⟩
   rw[hcf];conv=>whnf
   refine dE.mk (fun hd2=>?_) (fun hd2=>?_)
   ·have hd2:b.2.2<=0:=by have:=aI hd2;rw[<-Rat.not_lt,<-mS];omega
    conv=>whnf
    intro ρe we re;exact⟨_,rfl,hw.tr re.cC,by show Value.int .i64 _=_;rw[df,aK (by omega),aK (by rw[hE];decide),if_pos (by rw[hE2,cK hx (show eV f.nodes.length (f.bars.take i) b=2 by rw[eV,if_pos ⟨hz0,hz1⟩,aK hab2,aK hdup,if_pos hd2]) (by decide)];decide),hE2,cK hx (show eV f.nodes.length (f.bars.take i) b=2 by rw[eV,if_pos ⟨hz0,hz1⟩,aK hab2,aK hdup,if_pos hd2]) (by decide)]⟩
   ·have hd2:0<b.2.2:=by have:=aH hd2;rw[<-mS];omega
    conv=>whnf
    refine ot vQ sB rfl rfl (key:=lY (fU b)) (fun _=>rfl) rfl ⟨_,rfl⟩ (fun k hk=>by obtain⟨x,_,rfl⟩:=aU.1 hk;exact⟨_,rfl⟩) (fun h=>by
     obtain⟨x,h1,h2⟩:=aU.1 h
     exact hdup (aU.2 ⟨x,h1,oD h2⟩)) (fun ρ w' r=>⟨(hM.rel r (bs w)).2,Rel.not r (bs w) hM.1⟩) (fun ρ wa wb r hM2 hg hsz=>?_)
    replace hw:=(hw.tr r.cC).tr (cN.grown hg (fun x e=>by injection e with e;subst e;exact hM.1.elim (fun h=>h.elim) fun h=>h.1) r.bu);rw[show ((f.bars.take i).map fun b=>lY (fU b))++[lY (fU b)]=(f.bars.take (i+1)).map fun b=>lY (fU b) by rw[List.take_add_one,hx];simp]at hM2;replace hM:uw wb (Cv (fun _=>False) w.heap.size iv3) gm ((f.bars.take (i+1)).map fun b=>lY (fU b)):=⟨hM.1,hM2⟩
    rw[fb hx (lG.2 ⟨⟨hz0,hz1⟩,hab2,hdup,hd2⟩)]at hE2;clear r hg hsz hM2;conv=>whnf
    refine⟨((i+1:Nat):Int),by rw[wrap64]<;>omega,?_⟩;conv=>whnf
    intro ρ3 w6 r3;exact⟨(i+1,w6,_),⟨hib,hw.tr r3.cC,hE2,hM.rel r3 (bs w)⟩,Sub.gen [] r3 ⟨rfl,trivial⟩ ⟨rfl,rfl,rfl,rfl,rfl,trivial⟩ (by simp[dG,cW.scopd,At.sc]) (by simp[cV,SV.sc,At.sc,cQ]) (by rfl) (fun lo hi h=>h),by dsimp only;omega⟩
  ·have hd:=hd.1 rfl;conv=>whnf
   intro ρe we re;exact⟨_,rfl,hw.tr re.cC,by show Value.int .i64 _=_;rw[df,aK (by omega),aK (by rw[hE];decide),if_pos (by rw[hE2,cK hx (show eV f.nodes.length (f.bars.take i) b=5 by rw[eV,if_pos ⟨hz0,hz1⟩,aK hab2,if_pos hd]) (by decide)];decide),hE2,cK hx (show eV f.nodes.length (f.bars.take i) b=5 by rw[eV,if_pos ⟨hz0,hz1⟩,aK hab2,if_pos hd]) (by decide)]⟩
 have hib:i=f.bars.length:=aP hi (by simpa using hib);rw[gq (by omega)]at hE2;have hE1:=hE2;clear hib hi hE2 hM;conv=>whnf
 refine tU (fun ρ wa wb r hM0 hg hsz=>?_);have hw2:=(hw.tr r.cC).tr (cN.grown hg (fun x e=>by cases e) r.bu);have hB:w.heap.size<=wa.heap.size:=r.bu;have hM:uw wb (Cv (fun _=>False) w.heap.size ((wa.heap.size,wa.heap.size+1)::iv)) wa.heap.size []:=⟨.inr ⟨hB,_,_,aJ,aG _,bY _⟩,hM0⟩
 generalize (wa.heap.size,wa.heap.size+1)::iv=iv2 at*
 obtain⟨gm,hgm⟩:∃gm,wa.heap.size=gm:=⟨_,rfl⟩
 rw[hgm]at hM ⊢;clear r hg hsz hM0 hw;have hw:=hw2;clear hw2;conv=>whnf
 refine⟨Nat×World×Iv,fun z=>⟨[(1,.o (.p 0 0)),(9,.o (.v (.map (some gm)))),(115,.o (.v (.slice aq f.cO.length cq))),(116,.o (.v (.int .i64 f.cO.length))),(117,.o (.v (.int .i64 ((z.1:Nat):Int))))],[(0,.box T.Frame [.v (.slice an f.nodes.length cn),.v (.slice ab f.bars.length cb),.v (.slice aq f.cO.length cq)])],1,z.2.2,z.2.1⟩,fun z=>f.cO.length-z.1,
  fun z=>z.1<=f.cO.length∧cN w.heap.size w z.2.1∧eL (jU f.nodes.length) [] f.cO=eL (jU f.nodes.length) (f.cO.take z.1) (f.cO.drop z.1)∧uw z.2.1 (Cv (fun _=>False) w.heap.size z.2.2) gm ((f.cO.take z.1).map fun b=>lY (gg b)),?_,?_⟩
 ·intro ρ w' r3;exact⟨(0,w',iv2),⟨aN _,hw.tr r3.cC,rfl,hM.rel r3 (bs w)⟩,Sub.gen [] r3 ⟨rfl,trivial⟩ ⟨rfl,rfl,rfl,rfl,rfl,trivial⟩ (by simp[dG,cW.scopd,At.sc]) (by simp[cV,SV.sc,At.sc,cQ]) (by rfl) (fun lo hi h=>h)⟩
 clear hw hM hB hgm;rintro⟨i,w1,iv⟩ ⟨hi,hw,hE2,hM⟩;dsimp only at hi hw hE2 hM ⊢;conv=>whnf
 refine dE.mk (fun hib=>?_) (fun hib=>?_)
 ·have hib:i<f.cO.length:=by simpa using hib
  obtain⟨b,hx⟩:∃b,f.cO[i]? =some b:=⟨_,aB hib⟩
  obtain⟨adb,cs,hab,hF,-,hlb⟩:=hf.cO.load (by decide) hx;obtain⟨g0,g1,g2,g3,g4,g5,g6,g7,rfl,hF⟩:=hF;conv=>whnf
  refine⟨adb,hab,⟨by omega,by omega⟩,?_⟩;conv=>whnf
  refine⟨[.int .i64 b.1,.int .i64 b.2.1,.bool g0,.slice g1 g2 g3,.bool g4,.slice g5 g6 g7],rfl,fun ρ w' r j u hu=>?_,?_⟩
  ·obtain⟨k1,k2⟩:=hlb j u hu;rw[aC,bw (w:=w) (w2:=w') (by rw[cL,cL];exact(hw.tr r.cC).block _ (hS _ k1))];exact k2
  conv=>whnf
  refine bz (cE hw (Φ:=fun _ w' v w2=>∃d,v= .bool d∧(d=true↔iC f.nodes.length b.1)) (fun ρ w' r=>Cs _ w' _ _ _ _ _ _ _ _ _) ?_);rintro ρ wa1 v1 wb1 iv1 r he hw h_ ⟨d0,rfl,hz0⟩;replace hM:=hM.cB r (bs w) he (mC h_);clear r
  cases d0
  ·have hz0:¬iC f.nodes.length b.1:=fun h=>by have:=hz0.2 h;cases this
   conv=>whnf
   intro ρe we re;exact⟨_,rfl,hw.tr re.cC,by show Value.int .i64 _=_;rw[df,aK (by omega),aK (by rw[hE];decide),aK (by rw[hE1];decide),hE2,cK hx (show jU f.nodes.length (f.cO.take i) b=6 by rw[jU,aK hz0]) (by decide)]⟩
  replace hz0:=hz0.1 rfl;conv=>whnf
  refine dE.mk (fun hx1=>?_) (fun hx1=>?_)
  ·have hx1:=aI hx1;conv=>whnf
   intro ρe we re;exact⟨_,rfl,hw.tr re.cC,by show Value.int .i64 _=_;rw[df,aK (by omega),aK (by rw[hE];decide),aK (by rw[hE1];decide),hE2,cK hx (show jU f.nodes.length (f.cO.take i) b=2 by rw[jU,if_pos hz0,aK (fun h=>by omega)]) (by decide)]⟩
  have hx1:=aH hx1;conv=>whnf
  refine dE.mk (fun hx2=>?_) (fun hx2=>?_)
  ·have hx2:=aI hx2;conv=>whnf
   intro ρe we re;exact⟨_,rfl,hw.tr re.cC,by show Value.int .i64 _=_;rw[df,aK (by omega),aK (by rw[hE];decide),aK (by rw[hE1];decide),hE2,cK hx (show jU f.nodes.length (f.cO.take i) b=2 by rw[jU,if_pos hz0,aK (fun h=>by omega)]) (by decide)]⟩
  have hx2:=aH hx2;conv=>whnf
  have hax:0<=b.2.1∧b.2.1<=2:=by omega
  refine vv vQ sB z5 rfl rfl (key:=lY (gg b)) (fun _=>rfl) ⟨_,rfl⟩ (fun k hk=>by obtain⟨x,_,rfl⟩:=aU.1 hk;exact⟨_,rfl⟩) (fun ρ w' r=>(hM.rel r (bs w)).2) (fun ρ w' d r hd=>?_);replace hw:=hw.tr r.cC;replace hM:=hM.rel r (bs w);replace hd:d=true↔gg b∈(f.cO.take i).map gg:=by
   rw[hd];constructor
   ·intro h;obtain⟨x,h1,h2⟩:=aU.1 h;exact aU.2 ⟨x,h1,oD h2⟩
   ·intro h;obtain⟨x,h1,h2⟩:=aU.1 h;exact aU.2 ⟨x,h1,congrArg lY h2⟩
  clear r
  cases d
  ·have hdup:gg b∉(f.cO.take i).map gg:=fun h=>by have:=hd.2 h;cases this
   clear hd;conv=>whnf
   refine bz (cE hw (Φ:=fun _ w' v w2=>v= .int .i64 (rs b.2.2)) (fun ρ w' r=>(Cj (fun g hg=>by have:=hS g hg;have:=r.bu;omega) (hF.v.cD fun g hg=>(hw.tr r.cC).block g (hS g hg)) (eG.zero (S:=S)).v).mono fun _ _ ⟨v2,e1,e2,e3⟩=>⟨v2,e1,e2,by rw[e3,oB]⟩) ?_);rintro ρ wa2 v2 wb2 iv2 r he hw h_ rfl;replace hM:=hM.cB r (bs w) he (mC h_);clear r;obtain⟨cf,hcf⟩:∃c,rs b.2.2=c:=⟨_,rfl⟩
   rw[hcf];conv=>whnf
   refine dE.mk (fun hd2=>?_) (fun hd2=>?_)
   ·have hd2:b.2.2<0:=by have:=aI hd2;rw[<-jy];omega
    conv=>whnf
    intro ρe we re;exact⟨_,rfl,hw.tr re.cC,by show Value.int .i64 _=_;rw[df,aK (by omega),aK (by rw[hE];decide),aK (by rw[hE1];decide),hE2,cK hx (show jU f.nodes.length (f.cO.take i) b=2 by rw[jU,if_pos hz0,if_pos hax,aK hdup,if_pos hd2]) (by decide)]⟩
   ·have hd2:0<=b.2.2:=by have:=aH hd2;rw[<-Rat.not_lt,<-jy];omega
    conv=>whnf
    refine ot vQ sB rfl rfl (key:=lY (gg b)) (fun _=>rfl) rfl ⟨_,rfl⟩ (fun k hk=>by obtain⟨x,_,rfl⟩:=aU.1 hk;exact⟨_,rfl⟩) (fun h=>by
     obtain⟨x,h1,h2⟩:=aU.1 h
     exact hdup (aU.2 ⟨x,h1,oD h2⟩)) (fun ρ w' r=>⟨(hM.rel r (bs w)).2,Rel.not r (bs w) hM.1⟩) (fun ρ wa wb r hM2 hg hsz=>?_)
    replace hw:=(hw.tr r.cC).tr (cN.grown hg (fun x e=>by injection e with e;subst e;exact hM.1.elim (fun h=>h.elim) fun h=>h.1) r.bu);rw[show ((f.cO.take i).map fun b=>lY (gg b))++[lY (gg b)]=(f.cO.take (i+1)).map fun b=>lY (gg b) by rw[List.take_add_one,hx];simp]at hM2;replace hM:uw wb (Cv (fun _=>False) w.heap.size iv2) gm ((f.cO.take (i+1)).map fun b=>lY (gg b)):=⟨hM.1,hM2⟩
    rw[fb hx (oW.2 ⟨hz0,hax,hdup,hd2⟩)]at hE2;clear r hg hsz hM2;conv=>whnf
    refine⟨((i+1:Nat):Int),by rw[wrap64]<;>omega,?_⟩;conv=>whnf
    intro ρ3 w6 r3;exact⟨(i+1,w6,_),⟨hib,hw.tr r3.cC,hE2,hM.rel r3 (bs w)⟩,Sub.gen [] r3 ⟨rfl,trivial⟩ ⟨rfl,rfl,rfl,rfl,rfl,trivial⟩ (by simp[dG,cW.scopd,At.sc]) (by simp[cV,SV.sc,At.sc,cQ]) (by rfl) (fun lo hi h=>h),by dsimp only;omega⟩
  ·have hd:=hd.1 rfl;conv=>whnf
   intro ρe we re;exact⟨_,rfl,hw.tr re.cC,by show Value.int .i64 _=_;rw[df,aK (by omega),aK (by rw[hE];decide),aK (by rw[hE1];decide),hE2,cK hx (show jU f.nodes.length (f.cO.take i) b=5 by rw[jU,if_pos hz0,if_pos hax,if_pos hd]) (by decide)]⟩
 have hib:i=f.cO.length:=aP hi (by simpa using hib);rw[gq (by omega)]at hE2;conv=>whnf
 intro ρe we re;exact⟨_,rfl,hw.tr re.cC,by show Value.int .i64 _=_;rw[df,aK (by omega),aK (by rw[hE];decide),aK (by rw[hE1];decide),hE2]⟩
theorem iy{S:Nat->Prop}{w:World}{vn vb vs vl:Value}{f:fK}{l:List Ld}(hS:Old S w)(hf:dT w S vn vb vs f)(hl:ix w S vl l):dh PG N.jr #[.agg #[vn,vb,vs],vl] w (dw w fun v' _=>v'= .int .i64 (lX f l)):=by
 have hw:cN w.heap.size w w:=cN.refl;obtain⟨an,cn,ab,cb,aq,cq,rfl,rfl,rfl,hmn,hmb,hms⟩:=hf.shape;obtain⟨al,cl,rfl,hcl,hml⟩:=hl.shape;refine mm (by simp) ?_;conv=>whnf
 refine bz (cE hw (Φ:=fun _ w' v w2=>v= .int .i64 (df f)) (fun ρ w' r=>jV (fun g hg=>by have:=hS g hg;have:=r.bu;omega) (hf.cD fun g hg=>(hw.tr r.cC).block g (hS g hg))) ?_);rintro ρ wa1 v1 wb1 iv1 r he hw h_ rfl;clear r;obtain⟨c,hc⟩:∃c,df f=c:=⟨_,rfl⟩
 rw[hc];conv=>whnf
 refine dE.mk (fun hd=>?_) (fun hd=>?_)
 ·have hd:c≠0:=by simpa using hd
  conv=>whnf
  intro ρe we re;exact⟨_,rfl,hw.tr re.cC,by show Value.int .i64 _=_;rw[lX,if_pos (by rw[hc];exact hd),hc]⟩
 have hd:c=0:=by simpa using hd
 conv=>whnf
 refine bz (cE hw (Φ:=fun _ w' v w2=>v= .int .i64 (sA f.nodes.length l)) (fun ρ w' r=>yd (fun g hg=>by have:=hS g hg;have:=r.bu;omega) (hl.cD fun g hg=>(hw.tr r.cC).block g (hS g hg))) ?_);rintro ρ wa2 v2 wb2 iv2 r he hw h_ rfl;clear r;conv=>whnf
 intro ρe we re;exact⟨_,rfl,hw.tr re.cC,by show Value.int .i64 _=_;rw[lX,aK (by rw[hc,hd];decide)]⟩
structure Calm(f:fK)(h:Nat):Prop where
 ok:pM f
 c0:0<f.cols
 b2:qH (dD f) f.cols h
 a2:Ht (cZ (dD f) f.cols).1 h
 st:iN (dD f) f.cols=[]
 hh:3*h<=90000
structure GP(f:fK)(l:List Ld)(h:Nat)(x:List Rat):Prop where
 ok:GM f.nodes.length l
 b1:qH (iq (dD f) (gG (tL f l) (-1))) (f.cols+1) h
 x:ir (dD f) (gG (tL f l) (-1)) f.cols=some x
theorem uF(f:fK)(l:List Ld):(tL f l).length=3*f.nodes.length:=by rw[tL,cU,aM,mR]
theorem sC(a b:List Rat):(kP a b).length=a.length:=List.length_mapIdx ..
theorem Cu(M:List (List Rat))(n:Nat):fk M.length (dW M n):=fun r hr=>by
 obtain⟨k,_,rfl⟩:=aU.1 hr;exact aM ..
theorem Cw{S:Nat->Prop}{w:World}{vn vb vs vl:Value}{f:fK}{l:List Ld}{x:List Rat}{h:Nat}(hS:Old S w)(hf:dT w S vn vb vs f)(hl:ix w S vl l)(hc:Calm f h)(hB:GP f l h x)(herr:lX f l=0):
  dh PG N.nP #[.agg #[vn,vb,vs],vl] w (dw w fun v' w2=>∃vx,v'= .tuple #[vx,.int .i64 0]∧cP w2 (Nw (fun _=>False) w w2) vx x):=by
 have hw:cN w.heap.size w w:=cN.refl;obtain⟨an,cn,ab,cb,aq,cq,rfl,rfl,rfl,hmn,hmb,hms⟩:=hf.shape;obtain⟨al,cl,rfl,hcl,hml⟩:=hl.shape;obtain⟨hn20,hb60,hs60⟩:=And.intro hc.ok.n (And.intro hc.ok.b hc.ok.s);have hcols:f.cols=f.bars.length+f.cO.length:=rfl;have htl:=gB f;refine rR (by simp) ?_;conv=>whnf
 refine bz (cE hw (Φ:=fun _ w' v w2=>v= .int .i64 0) (fun ρ w' r=>(iy (fun g hg=>by have:=hS g hg;have:=r.bu;omega) (hf.cD fun g hg=>(hw.tr r.cC).block g (hS g hg)) (hl.cD fun g hg=>(hw.tr r.cC).block g (hS g hg))).mono fun _ _ ⟨v2,e1,e2,e3⟩=>⟨v2,e1,e2,by rw[e3,herr]⟩) ?_);rintro ρ wa1 v1 wb1 iv1 r he hw h_ rfl;clear r;conv=>whnf
 refine cF hτ dV [.x 0,.x 1,.x 2,.x 3,.x 4,.x 5,.x 6,.x 7,.x 8,.x 9] (by kernel_rfl) (by kernel_rfl) ?_;conv=>whnf
 refine cE hw (Φ:=fun _ w' v w2=>dQ w2 (fun _=>False) w'.heap.size [(w'.heap.size,w2.heap.size)] v (3*f.nodes.length) (tL f l)∧∀q∈tL f l,rl q<=1) (fun ρ w' r=>zY (fun g hg=>by have:=hS g hg;have:=r.bu;omega) (hl.cD fun g hg=>(hw.tr r.cC).block g (hS g hg)) hn20 hB.ok rfl rfl) ?_;rintro ρ wa2 v2 wb2 iv2 r he hw h_ ⟨hn,hvq⟩;have hP:=hn.cw (S:=fun _=>False) r.bu (mN h_);clear r;clear hn;obtain⟨ap,cp,rfl,hcp⟩:=hP.row.form;conv=>whnf
 refine cE hw (Φ:=fun _ w' v w2=>∃vx,v= .tuple #[vx,.bool true]∧dQ w2 (fun _=>False) w'.heap.size [(w'.heap.size,w2.heap.size)] vx f.cols x) (fun ρ w' r=>(xj (S:=fun g=>S g∨Cv (fun _=>False) w.heap.size iv2 g) (p:=tL f l) (h:=h) (fun g hg=>hg.elim (fun hg=>by have:=hS g hg;have:=r.bu;omega) (Rel.old r (bs w) g)) ((hf.cD fun g hg=>(hw.tr r.cC).block g (hS g hg)).cG fun g hg=>.inl hg) hc.ok (cP.cG ((hP.rel r (bs w)).c) fun g hg=>.inr hg) (uF f l) (fun q hq=>by have:=hvq q hq;omega) hc.c0 hB.b1 hc.b2 hc.a2 hc.st hc.hh).mono fun _ _ ⟨v2,e1,e2,e3⟩=>⟨v2,e1,e2,by
  rcases e3 with⟨k1,_⟩|⟨x2,vx,k1,k2,k3⟩
  ·rw[hB.x]at k1;cases k1
  ·rw[hB.x]at k1;injection k1 with k1;subst k1;exact⟨vx,k2,k3⟩⟩) ?_
 rintro ρ wa3 v3 wb3 iv3 r he hw h_ ⟨vx,rfl,hn⟩;clear hP;have hX:=hn.cw (S:=fun _=>False) r.bu (mN h_);clear r;clear hn;obtain⟨ax,cx,rfl,hcx⟩:=hX.row.form;conv=>whnf
 intro ρe we re;exact⟨_,rfl,hw.tr re.cC,_,rfl,cP.out hX.c re (bs w)⟩
theorem Ee{S:Nat->Prop}{w:World}{vn vb vs:Value}{f:fK}{h:Nat}(hS:Old S w)(hf:dT w S vn vb vs f)(hc:Calm f h)(herr:df f=0)(hnr0:(cZ (dD f) f.cols).1.length<=f.cols):
  dh PG N.kl #[.agg #[vn,vb,vs]] w (dw w fun v' _=>v'= .tuple #[.agg #[.int .i64 (cZ (dD f) f.cols).1.length,.int .i64 ((f.cols:Int)-(cZ (dD f) f.cols).1.length),.int .i64 ((3*f.nodes.length:Nat)-(cZ (dD f) f.cols).1.length)],.int .i64 0]):=by
 have hw:cN w.heap.size w w:=cN.refl;obtain⟨an,cn,ab,cb,aq,cq,rfl,rfl,rfl,hmn,hmb,hms⟩:=hf.shape;obtain⟨hn20,hb60,hs60⟩:=And.intro hc.ok.n (And.intro hc.ok.b hc.ok.s);have hcols:f.cols=f.bars.length+f.cO.length:=rfl;have htl:=gB f;refine lN (by simp) ?_;conv=>whnf
 refine bz (cE hw (Φ:=fun _ w' v w2=>v= .int .i64 0) (fun ρ w' r=>(jV (fun g hg=>by have:=hS g hg;have:=r.bu;omega) (hf.cD fun g hg=>(hw.tr r.cC).block g (hS g hg))).mono fun _ _ ⟨v2,e1,e2,e3⟩=>⟨v2,e1,e2,by rw[e3,herr]⟩) ?_);rintro ρ wa1 v1 wb1 iv1 r he hw h_ rfl;clear r;conv=>whnf
 refine bz (cE hw (Φ:=fun _ w' v w2=>(∃vr,v= .agg #[vr,.int .i64 f.cols]∧cI w2 (Nw (fun _=>False) w' w2) vr (dD f))∧fk f.cols (dD f)∧Ht (dD f) 2) (fun ρ w' r=>jI (S:=S) (fun g hg=>by have:=hS g hg;have:=r.bu;omega) (hf.cD fun g hg=>(hw.tr r.cC).block g (hS g hg)) hc.ok) ?_);rintro ρ wa1 v1 wb1 ivt r he hw h_ ⟨⟨vr,rfl,k1⟩,hlen,hht⟩;have hM:=cI.cw (S:=fun _=>False) k1 r.bu (mN h_);clear r;obtain⟨am,cm,rfl,hcm,hmm⟩:=cT.shape hM;have hmt:=htl;have hhc:=hc.c0;conv=>whnf
 refine bz (cE hw (Φ:=fun _ w' v w2=>∃vr vp vf,v= .agg #[vr,.int .i64 f.cols,vp,vf]∧cI w2 (Nw (Cv (fun _=>False) w.heap.size ivt) w' w2) vr (cZ (dD f) f.cols).1) (fun ρ w' r=>(lV (C:=Cv (fun _=>False) w.heap.size ivt) (S:=Cv (fun _=>False) w.heap.size ivt) (h:=h) (Rel.old r (bs w)) (Rel.old r (bs w)) (cI.rel hM r (bs w)) hlen hc.c0 (by omega) (by omega) (aG _) hc.b2 hc.hh).mono fun _ _ ⟨v2,e1,e2,vr,vp,vf,k1,k2,_,_⟩=>⟨v2,e1,e2,vr,vp,vf,k1,k2⟩) ?_);rintro ρ wa2 v2 wb2 iv2 r he hw h_ ⟨vr2,vp2,vf2,rfl,hn⟩;replace hM:=cI.cB hM r (bs w) he (mC h_);clear r;obtain⟨ar,cr,rfl,-,-⟩:=cT.shape hn;obtain⟨nr,hnr⟩:∃nr,(cZ (dD f) f.cols).1.length=nr:=⟨_,rfl⟩
 rw[hnr];clear hn;conv=>whnf
 refine⟨(f.cols:Int)-nr,by rw[wrap64]<;>omega,?_⟩;conv=>whnf
 refine⟨((dD f).length:Int)-nr,by rw[wrap64]<;>omega,?_⟩;conv=>whnf
 intro ρe we re;exact⟨_,rfl,hw.tr re.cC,by rw[htl];rfl⟩
set_option maxHeartbeats 1000000 in
theorem Aa{S:Nat->Prop}{w:World}{vn vb vs vl:Value}{f:fK}{l:List Ld}{x u:List Rat}{h:Nat}(hS:Old S w)(hf:dT w S vn vb vs f)(hl:ix w S vl l)(hc:Calm f h)(hB:GP f l h x)(herr:lX f l=0)
  (hrank:(cZ (dD f) f.cols).1.length=3*f.nodes.length) (hxl:x.length=f.cols) (hxq:∀q∈x,rl q<=100000) (heq:∀q∈kP x (jq f),rl q<=100000)
  (hB3:qH (iq (dW (dD f) f.cols) (gG (kP x (jq f)) (-1))) (3*f.nodes.length+1) h) (hu:ir (dW (dD f) f.cols) (gG (kP x (jq f)) (-1)) (3*f.nodes.length)=some u):
  dh PG N.lH #[.agg #[vn,vb,vs],vl] w (dw w fun v' w2=>∃vu vx,v'= .tuple #[vu,vx,.int .i64 0]∧cP w2 (Nw (fun _=>False) w w2) vu u∧cP w2 (Nw (fun _=>False) w w2) vx x):=by
 have hw:cN w.heap.size w w:=cN.refl;obtain⟨an,cn,ab,cb,aq,cq,rfl,rfl,rfl,hmn,hmb,hms⟩:=hf.shape;obtain⟨al,cl,rfl,hcl,hml⟩:=hl.shape;obtain⟨hn20,hb60,hs60⟩:=And.intro hc.ok.n (And.intro hc.ok.b hc.ok.s);have hcols:f.cols=f.bars.length+f.cO.length:=rfl;have htl:=gB f;refine oc (by simp) ?_;conv=>whnf
 refine bz (cE hw (Φ:=fun _ w' v w2=>v= .int .i64 0) (fun ρ w' r=>(iy (fun g hg=>by have:=hS g hg;have:=r.bu;omega) (hf.cD fun g hg=>(hw.tr r.cC).block g (hS g hg)) (hl.cD fun g hg=>(hw.tr r.cC).block g (hS g hg))).mono fun _ _ ⟨v2,e1,e2,e3⟩=>⟨v2,e1,e2,by rw[e3,herr]⟩) ?_);rintro ρ wa1 v1 wb1 iv1 r he hw h_ rfl;clear r;conv=>whnf
 refine bz (cE hw (Φ:=fun _ w' v w2=>(∃vr,v= .agg #[vr,.int .i64 f.cols]∧cI w2 (Nw (fun _=>False) w' w2) vr (dD f))∧fk f.cols (dD f)∧Ht (dD f) 2) (fun ρ w' r=>jI (S:=S) (fun g hg=>by have:=hS g hg;have:=r.bu;omega) (hf.cD fun g hg=>(hw.tr r.cC).block g (hS g hg)) hc.ok) ?_);rintro ρ wa1 v1 wb1 ivt r he hw h_ ⟨⟨vr,rfl,k1⟩,hlen,hht⟩;have hM:=cI.cw (S:=fun _=>False) k1 r.bu (mN h_);clear r;obtain⟨am,cm,rfl,hcm,hmm⟩:=cT.shape hM;have hmt:=htl;have hhc:=hc.c0;conv=>whnf
 refine cF hτ dV [.x 0,.x 1,.x 2,.x 7,.x 8,.x 9,.x 3,.x 4,.x 5,.x 6,.x 10] (by kernel_rfl) (by kernel_rfl) ?_;conv=>whnf
 refine cE hw (Φ:=fun _ w' v w2=>∃vr vp vf,v= .agg #[vr,.int .i64 f.cols,vp,vf]∧cI w2 (Nw (Cv (fun _=>False) w.heap.size ivt) w' w2) vr (cZ (dD f) f.cols).1) (fun ρ w' r=>(lV (C:=Cv (fun _=>False) w.heap.size ivt) (S:=Cv (fun _=>False) w.heap.size ivt) (h:=h) (Rel.old r (bs w)) (Rel.old r (bs w)) (cI.rel hM r (bs w)) hlen hc.c0 (by omega) (by omega) (aG _) hc.b2 hc.hh).mono fun _ _ ⟨v2,e1,e2,vr,vp,vf,k1,k2,_,_⟩=>⟨v2,e1,e2,vr,vp,vf,k1,k2⟩) ?_;rintro ρ wa2 v2 wb2 iv2 r he hw h_ ⟨vr2,vp2,vf2,rfl,hn⟩;replace hM:=cI.cB hM r (bs w) he (mC h_);clear r;obtain⟨ar,cr,rfl,-,-⟩:=cT.shape hn;obtain⟨nr,hnr⟩:∃nr,(cZ (dD f) f.cols).1.length=nr:=⟨_,rfl⟩
 rw[hnr];clear hn;conv=>whnf
 have hnr2:(nr:Int)=(dD f).length:=by rw[<-hnr,hrank,htl]
 refine dE.mk (fun h1=>absurd (aI h1) (by omega)) (fun _=>?_);conv=>whnf
 refine cF hτ dV [.x 0,.x 1,.x 2,.x 3,.x 4,.x 5,.x 6,.x 7,.x 8,.x 9] (by kernel_rfl) (by kernel_rfl) ?_;conv=>whnf
 refine cE hw (Φ:=fun _ w' v w2=>dQ w2 (fun _=>False) w'.heap.size [(w'.heap.size,w2.heap.size)] v (3*f.nodes.length) (tL f l)∧∀q∈tL f l,rl q<=1) (fun ρ w' r=>zY (fun g hg=>by have:=hS g hg;have:=r.bu;omega) (hl.cD fun g hg=>(hw.tr r.cC).block g (hS g hg)) hn20 hB.ok rfl rfl) ?_;rintro ρ wa3 v3 wb3 iv3 r he hw h_ ⟨hn,hvq⟩;replace hM:=cI.cB hM r (bs w) he (mC h_);have hP:=hn.cw (S:=fun _=>False) r.bu (mN h_);clear r;clear hn;obtain⟨ap,cp,rfl,hcp⟩:=hP.row.form;conv=>whnf
 refine cE hw (Φ:=fun _ w' v w2=>∃vx,v= .tuple #[vx,.bool true]∧dQ w2 (fun _=>False) w'.heap.size [(w'.heap.size,w2.heap.size)] vx f.cols x) (fun ρ w' r=>(xj (S:=fun g=>S g∨Cv (fun _=>False) w.heap.size iv3 g) (p:=tL f l) (h:=h) (fun g hg=>hg.elim (fun hg=>by have:=hS g hg;have:=r.bu;omega) (Rel.old r (bs w) g)) ((hf.cD fun g hg=>(hw.tr r.cC).block g (hS g hg)).cG fun g hg=>.inl hg) hc.ok (cP.cG ((hP.rel r (bs w)).c) fun g hg=>.inr hg) (uF f l) (fun q hq=>by have:=hvq q hq;omega) hc.c0 hB.b1 hc.b2 hc.a2 hc.st hc.hh).mono fun _ _ ⟨v2,e1,e2,e3⟩=>⟨v2,e1,e2,by
  rcases e3 with⟨k1,_⟩|⟨x2,vx,k1,k2,k3⟩
  ·rw[hB.x]at k1;cases k1
  ·rw[hB.x]at k1;injection k1 with k1;subst k1;exact⟨vx,k2,k3⟩⟩) ?_
 rintro ρ wa4 v4 wb4 iv4 r he hw h_ ⟨vx,rfl,hn⟩;replace hM:=cI.cB hM r (bs w) he (mC h_);clear hP;have hX:=hn.cw (S:=fun _=>False) r.bu (mN h_);clear r;clear hn;obtain⟨ax,cx,rfl,hcx⟩:=hX.row.form;conv=>whnf
 refine cF hτ dV [.x 0,.x 2,.x 3,.x 1,.x 4,.x 5,.x 6,.x 7,.x 8,.x 9,.x 10,.x 11,.x 12,.x 13] (by kernel_rfl) (by kernel_rfl) ?_;conv=>whnf
 refine cH (Φ:=fun _ w' v w2=>∃vr,v= .agg #[vr,.int .i64 (dD f).length]∧cI w2 (Nw (Cv (fun _=>False) w.heap.size iv4) w' w2) vr (dW (dD f) f.cols)) (fun ρ w' r=>pL (C:=Cv (fun _=>False) w.heap.size iv4) (S:=Cv (fun _=>False) w.heap.size iv4) (Rel.old r (bs w)) (Rel.old r (bs w)) (cI.rel hM r (bs w)) hlen (by omega) (by omega)) ?_;rintro ρ wa5 v5 wb5 r he hb ⟨vt,rfl,hn⟩;replace hw:=hw.tr hb;clear hM;replace hX:=hX.cB (iv':=(wa5.heap.size,wb5.heap.size)::iv4) r (bs w) he fun x hx=>aD _ hx;have hT:=cI.old hn r.bu;clear r he hb;generalize (wa5.heap.size,wb5.heap.size)::iv4=iv5 at*
 clear hn;obtain⟨at_,ct,rfl,-,-⟩:=cT.shape hT;conv=>whnf
 refine cH (Φ:=fun _ w' v w2=>dY w2 (Nw (Cv S w.heap.size iv5) w' w2) v (jq f)) (fun ρ w' r=>zZ (S:=Cv S w.heap.size iv5) (Rel.old r hS) (dT.cG (hf.cD fun g hg=>(hw.tr r.cC).block g (hS g hg)) fun g hg=>.inl hg) hc.ok) ?_;rintro ρ wa6 v6 wb6 r he hb hn;replace hw:=hw.tr hb;replace hX:=hX.cB (iv':=(wa6.heap.size,wb6.heap.size)::iv5) r (bs w) he fun x hx=>aD _ hx;replace hT:=cI.cB (iv':=(wa6.heap.size,wb6.heap.size)::iv5) hT r (bs w) he fun x hx=>aD _ hx;have hF:=dY.old hn r.bu;clear r he hb hn;generalize (wa6.heap.size,wb6.heap.size)::iv5=iv6 at*
 obtain⟨afl,cfl,rfl,-,-⟩:=dx.shape hF;conv=>whnf
 refine cE hw (Φ:=fun _ w' v w2=>dQ w2 (fun _=>False) w'.heap.size [(w'.heap.size,w2.heap.size)] v x.length (kP x (jq f))) (fun ρ w' r=>HU (S:=Cv S w.heap.size iv6) (Rel.old r hS) (dY.cG (cP.l ((hX.rel r (bs w)).c) fun q hq=>hxq q hq) fun g hg=>Aq hg) (dY.rel hF r hS) (by rw[hxl,rz];exact aG _) (by omega)) ?_;rintro ρ wa7 v7 wb7 iv7 r he hw h_ hn;replace hX:=hX.cB r (bs w) he (mC h_);replace hT:=cI.cB hT r (bs w) he (mC h_);clear hF;have hE:=hn.cw (S:=fun _=>False) r.bu (mN h_);clear r he hn;obtain⟨ae,ce,rfl,hce⟩:=hE.row.form;conv=>whnf
 refine cE hw (Φ:=fun _ w' v w2=>cR w2 (Nw (fun _=>False) w' w2) v ((-1:Int):Rat)) (fun ρ w' r=>lT (-1) w' (by decide) (by decide)) ?_;rintro ρ wa8 v8 wb8 iv8 r he hw h_ hn;replace hX:=hX.cB r (bs w) he (mC h_);replace hT:=cI.cB hT r (bs w) he (mC h_);replace hE:=hE.cB r (bs w) he (mC h_);have hd:=hn.cw (S:=fun _=>False) r.bu (mN h_);clear r he hn;obtain⟨s8_0,s8_1,s8_2,s8_3,s8_4,s8_5,s8_6,s8_7,rfl⟩:=hd.shape;conv=>whnf
 refine cE hw (Φ:=fun _ w' v w2=>dQ w2 (fun _=>False) w'.heap.size [(w'.heap.size,w2.heap.size)] v (kP x (jq f)).length (gG (kP x (jq f)) (-1))) (fun ρ w' r=>zS (S:=Cv (fun _=>False) w.heap.size iv8) (Rel.old r (bs w)) (cP.l ((hE.rel r (bs w)).c) heq) ((hd.rel r (bs w)).l (by decide)) (by rw[sC];omega)) ?_;rintro ρ wa9 v9 wb9 iv9 r he hw h_ hn;replace hX:=hX.cB r (bs w) he (mC h_);replace hT:=cI.cB hT r (bs w) he (mC h_);clear hE;clear hd;have hG:=hn.cw (S:=fun _=>False) r.bu (mN h_);clear r he hn;obtain⟨ag,cg,rfl,hcg⟩:=hG.row.form;conv=>whnf
 refine cH (Φ:=fun _ w' v w2=>∃vu,v= .tuple #[vu,.bool true]∧dQ w2 (Cv (fun _=>False) w.heap.size iv9) w'.heap.size [(w'.heap.size,w2.heap.size)] vu (dD f).length u) (fun ρ w' r=>(xg (C:=Cv (fun _=>False) w.heap.size iv9) (S:=Cv (fun _=>False) w.heap.size iv9) (h:=h) (Rel.old r (bs w)) (Rel.old r (bs w)) (cI.rel hT r (bs w)) ((hG.rel r (bs w)).c) (by rw[gG,aM,sC,gQ];exact hxl) (Cu _ _) (by omega) (by rw[gQ];omega) (by rw[htl];exact hB3) hc.hh).mono fun _ _ ⟨v2,e1,e2,e3⟩=>⟨v2,e1,e2,by
  rcases e3 with⟨k1,_⟩|⟨x2,vx,k1,k2,k3⟩
  ·rw[htl,hu]at k1;cases k1
  ·rw[htl,hu]at k1;injection k1 with k1;subst k1;exact⟨vx,k2,k3⟩⟩) ?_
 rintro ρ wa10 v10 wb10 r he hb ⟨vu,rfl,hn⟩;replace hw:=hw.tr hb;replace hX:=hX.cB (iv':=(wa10.heap.size,wb10.heap.size)::iv9) r (bs w) he fun x hx=>aD _ hx;clear hT;clear hG;have hU:=hn.JP r.bu;clear r he hb;generalize (wa10.heap.size,wb10.heap.size)::iv9=iv10 at*
 clear hn;obtain⟨au,cu,rfl,hcu⟩:=hU.row.form;conv=>whnf
 intro ρe we re;exact⟨_,rfl,hw.tr re.cC,_,_,rfl,cP.out hU.c re (bs w),cP.out hX.c re (bs w)⟩
theorem Ig{r s n:Nat}(h1:r*r<=n)(h2:n<(r+1)*(r+1))(h3:s*s<=n)(h4:n<(s+1)*(s+1)):r=s:=by
 rcases bj r s with h|h|h
 ·have:=Nat.mul_le_mul (show r+1<=s from h) (show r+1<=s from h);omega
 ·exact h
 ·have:=Nat.mul_le_mul (show s+1<=r from h) (show s+1<=r from h);omega
theorem H3(n:Nat)(w:World)(hn:n<4000000004000000001):dh PG N.rM #[.int .i64 n] w (dw w fun v' _=>∃r:Nat,v'= .int .i64 r∧r*r<=n∧n<(r+1)*(r+1)):=by
 have hw:cN w.heap.size w w:=cN.refl;refine uh (by simp) ?_;conv=>whnf
 refine⟨Nat×Int×World,fun z=>⟨[(0,.o (.v (.int .i64 n))),(3,.o (.v (.int .i64 ((z.1:Nat):Int)))),(4,.o (.v (.int .i64 z.2.1)))],[],0,[],z.2.2⟩,fun z=>(z.2.1-z.1).toNat,
  fun z=>(z.1:Int)<=z.2.1∧z.2.1<=2000000000∧cN w.heap.size w z.2.2∧z.1*z.1<=n∧(n:Int)<(z.2.1+1)*(z.2.1+1),?_,?_⟩
 ·intro ρ w' r3;exact⟨(0,2000000000,w'),⟨by simp,by simp,hw.tr r3.cC,by simp,by dsimp only;omega⟩,Sub.gen [] r3 trivial ⟨rfl,rfl,rfl,trivial⟩ (by simp[dG,cW.scopd,At.sc]) (by simp[cV,SV.sc,At.sc,cQ]) (by rfl) (fun lo hi h=>h)⟩
 clear hw;rintro⟨lo,hi,w1⟩ ⟨hlh,hhi,hw,hlo,hup⟩;dsimp only at hlh hhi hw hlo hup ⊢;obtain⟨hi,rfl⟩:=Int.eq_ofNat_of_zero_le (show 0<=hi by omega);replace hup:n<(hi+1)*(hi+1):=by
  have h:((hi:Int)+1)*((hi:Int)+1)=(((hi+1)*(hi+1):Nat):Int):=by push_cast;rfl
  rw[h]at hup;omega
 conv=>whnf
 refine dE.mk (fun hib=>?_) (fun hib=>?_)
 ·have hib:lo<hi:=by have:=aI hib;omega
  obtain⟨m,hm⟩:∃m,(lo+hi+1) / 2=m:=⟨_,rfl⟩
  have hm1:lo<m:=by omega
  have hm2:m<=hi:=by omega
  have hmm:m*m<=2000000000*2000000000:=Nat.mul_le_mul (by omega) (by omega);conv=>whnf
  refine⟨((lo+hi:Nat):Int),by rw[wrap64]<;>omega,?_⟩;conv=>whnf
  refine⟨((lo+hi+1:Nat):Int),by rw[wrap64]<;>omega,?_⟩;conv=>whnf
  refine⟨by decide,(m:Int),by rw[show ((lo+hi+1:Nat):Int).tdiv 2=(((lo+hi+1) / 2:Nat):Int)from rfl,hm,wrap64]<;>omega,?_⟩;conv=>whnf
  refine⟨((m*m:Nat):Int),by rw[wrap64]<;>push_cast<;>first|rfl|omega,?_⟩;conv=>whnf
  refine dE.mk (fun hd=>?_) (fun hd=>?_)
  ·have hd:m*m<=n:=by have:=aI hd;omega
   conv=>whnf
   intro ρ3 w6 r3;exact⟨(m,hi,w6),⟨by dsimp only;omega,hhi,hw.tr r3.cC,hd,by dsimp only;rw[show ((hi:Int)+1)*((hi:Int)+1)=(((hi+1)*(hi+1):Nat):Int) by push_cast;rfl];omega⟩,Sub.gen [] r3 trivial ⟨rfl,rfl,rfl,trivial⟩ (by simp[dG,cW.scopd,At.sc]) (by simp[cV,SV.sc,At.sc,cQ]) (by rfl) (fun lo hi h=>h),by dsimp only;omega⟩
  ·have hd:n<m*m:=by have:=aH hd;omega
   conv=>whnf
   have hu3:(lo:Int)<=((m-1:Nat):Int):=by omega
   have hu4:((m-1:Nat):Int)<=2000000000:=by omega
   have hu2:(n:Int)<(((m-1:Nat):Int)+1)*(((m-1:Nat):Int)+1):=by rw[show ((m-1:Nat):Int)+1=m by omega];exact_mod_cast hd
   refine⟨((m-1:Nat):Int),by rw[wrap64]<;>omega,?_⟩;conv=>whnf
   intro ρ3 w6 r3;exact⟨(lo,((m-1:Nat):Int),w6),⟨hu3,hu4,hw.tr r3.cC,hlo,hu2⟩,Sub.gen [] r3 trivial ⟨rfl,rfl,rfl,trivial⟩ (by simp[dG,cW.scopd,At.sc]) (by simp[cV,SV.sc,At.sc,cQ]) (by rfl) (fun lo hi h=>h),by dsimp only;omega⟩
 have hib:lo=hi:=by have:=aH hib;omega
 subst hib;conv=>whnf
 intro ρe we re;exact⟨_,rfl,hw.tr re.cC,_,rfl,hlo,hup⟩
theorem H4(n:Int)(w:World):dh PG N.jR #[.int .i64 n] w (dw w fun v' _=>∃d,v'= .bool d∧(d=true↔0<=n∧n<=1000000)):=by
 have hw:cN w.heap.size w w:=cN.refl;refine lO (by simp) ?_;conv=>whnf
 refine dE.mk (fun h1=>?_) (fun h1=>?_)
 ·conv=>whnf
  intro ρe we re;have h1:=aI h1;exact⟨_,rfl,hw.tr re.cC,_,rfl,by rw[decide_eq_true_iff];exact⟨fun h=>⟨h1,h⟩,fun h=>h.2⟩⟩
 ·conv=>whnf
  intro ρe we re;have h1:=aH h1;exact⟨_,rfl,hw.tr re.cC,_,rfl,(fun h=>by cases h),fun h=>absurd h.1 h1⟩
theorem GQ(sq st:Nat)(w:World)(h0:0<sq)(h1:st<=1000000):dh PG N.pD #[.int .i64 sq,.int .i64 st] w (dw w fun v' w2=>∃r:Nat,r*r<=st*st*1000*1000 / sq∧st*st*1000*1000 / sq<(r+1)*(r+1)∧cR w2 (Nw (fun _=>False) w w2) v' (Rat.divInt r 1000)):=by
 have hw:cN w.heap.size w w:=cN.refl;have h2:st*st<=1000000*1000000:=Nat.mul_le_mul h1 h1;have h4:st*st*1000*1000 / sq<=st*st*1000*1000:=Nat.div_le_self _ _;obtain⟨m,hm⟩:∃m,st*st*1000*1000 / sq=m:=⟨_,rfl⟩
 refine tA (by simp) ?_;conv=>whnf
 refine⟨((st*st:Nat):Int),by rw[wrap64]<;>push_cast<;>first|rfl|omega,?_⟩;conv=>whnf
 refine⟨((st*st*1000:Nat):Int),by rw[wrap64]<;>omega,?_⟩;conv=>whnf
 refine⟨((st*st*1000*1000:Nat):Int),by rw[wrap64]<;>omega,?_⟩;conv=>whnf
 refine⟨by omega,(m:Int),by rw[show ((st*st*1000*1000:Nat):Int).tdiv (sq:Int)=((st*st*1000*1000 / sq:Nat):Int)from rfl,hm,wrap64]<;>omega,?_⟩;conv=>whnf
 refine bz (cE hw (Φ:=fun _ w' v w2=>∃r:Nat,v= .int .i64 r∧r*r<=m∧m<(r+1)*(r+1)) (fun ρ w' r=>H3 m w' (by omega)) ?_);rintro ρ wa1 v1 wb1 iv1 r he hw h_ ⟨rt,rfl,hr1,hr2⟩;clear r;have hrt:rt<=2000000000:=by
  rcases aV 2000000000 rt with h|h
  ·have:=Nat.mul_le_mul h h;omega
  ·exact h
 conv=>whnf
 refine bz (cE hw (Φ:=fun _ w' v w2=>∃r,v= .tuple #[r,.int .i64 0]∧cR w2 (Nw (fun _=>False) w' w2) r (Rat.divInt rt 1000)) (fun ρ w' r=>(Cx rt 1000 w' (by omega) (by omega) (by decide) (by decide)).mono fun _ _ ⟨v2,e1,e2,e3⟩=>⟨v2,e1,e2,e3.elim (fun k=>absurd k.1 (by decide)) fun h=>h.2⟩) ?_);rintro ρ wa2 v2 wb2 iv2 r he hw h_ ⟨q1,rfl,k1⟩;have hd:=k1.cw (S:=fun _=>False) r.bu (mN h_);clear r;obtain⟨s2_0a,s2_0b,s2_0c,s2_0d,s2_0e,s2_0f,s2_0g,s2_0h,rfl⟩:=hd.shape;clear k1;conv=>whnf
 intro ρe we re;exact⟨_,rfl,hw.tr re.cC,rt,hm▸hr1,hm▸hr2,hd.out re (bs w)⟩
theorem Cy(sq st:Nat)(w:World)(h0:0<sq)(h2:sq<=20000000000000)(h1:st<=1000000):dh PG N.pA #[.int .i64 sq,.int .i64 st] w (dw w fun v' w2=>∃vr,∃r:Nat,v'= .tuple #[vr,.int .i64 0]∧r*r<=st*st*1000*1000 / sq∧st*st*1000*1000 / sq<(r+1)*(r+1)∧cR w2 (Nw (fun _=>False) w w2) vr (Rat.divInt r 1000)):=by
 have hw:cN w.heap.size w w:=cN.refl;refine sn (by simp) ?_;conv=>whnf
 refine dE.mk (fun k1=>absurd (aI k1) (by omega)) (fun _=>?_);conv=>whnf
 refine dE.mk (fun k1=>absurd (aI k1) (by omega)) (fun _=>?_);conv=>whnf
 refine bz (cE hw (Φ:=fun _ w' v w2=>v= .bool true) (fun ρ w' r=>(H4 st w').mono fun _ _ ⟨v2,e1,e2,d,e3,e4⟩=>⟨v2,e1,e2,by rw[e3,e4.2 ⟨by omega,by omega⟩]⟩) ?_);rintro ρ wa1 v1 wb1 iv1 r he hw h_ rfl;clear r;conv=>whnf
 refine bz (cE hw (Φ:=fun _ w' v w2=>∃r:Nat,r*r<=st*st*1000*1000 / sq∧st*st*1000*1000 / sq<(r+1)*(r+1)∧cR w2 (Nw (fun _=>False) w' w2) v (Rat.divInt r 1000)) (fun ρ w' r=>GQ sq st w' h0 h1) ?_);rintro ρ wa2 v2 wb2 iv2 r he hw h_ ⟨rt,hr1,hr2,k1⟩;have hd:=k1.cw (S:=fun _=>False) r.bu (mN h_);clear r;obtain⟨s2_0a,s2_0b,s2_0c,s2_0d,s2_0e,s2_0f,s2_0g,s2_0h,rfl⟩:=hd.shape;clear k1;conv=>whnf
 intro ρe we re;exact⟨_,rfl,hw.tr re.cC,_,rt,rfl,hr1,hr2,hd.out re (bs w)⟩
def Ef:List Ld:=[(2,0,0,-12)]
theorem Ab{M:List (List Rat)}{cols h:Nat}(h1:∀i,i<M.length+1->∀r∈(fX M cols i).1,∀q∈r,rl q+1<=h)(h2:∀i,i<M.length->∀k,k<cols+1->∀q∈ek (fX M cols i).1 (fX M cols i).2.1 (M.getD i []) k,rl q+1<=h):qH M cols h:=
 ⟨fun i hi=>h1 i (by omega),fun i hi k hk=>h2 i hi k (by omega)⟩
def Cz:List Rat:=[-3,3,9,0,0,-9,0,12,0]
def Ih:List Rat:=[0,0,0,0,0,0,-1,0,-3 / 2]
theorem xl:lX fA Ef=0:=by decide +kernel
set_option maxRecDepth 100000
theorem Ac:Calm fA 2:=by
 refine⟨mD (qN xl).1,by decide,Ab (by decide +kernel) (by decide +kernel),?_,by decide +kernel,by decide⟩;unfold Ht;decide +kernel
theorem By:GP fA Ef 2 Cz:=⟨HZ (qN xl).2,Ab (by decide +kernel) (by decide +kernel),by decide +kernel⟩
theorem Ad:(cZ (dD fA) fA.cols).1.length=9:=by decide +kernel
theorem JS:qH (iq (dW (dD fA) fA.cols) (gG (kP Cz (jq fA)) (-1))) 10 2:=Ab (by decide +kernel) (by decide +kernel)
theorem Jf:ir (dW (dD fA) fA.cols) (gG (kP Cz (jq fA)) (-1)) 9=some Ih:=by decide +kernel
end Go.Ex
