/- A part of the proof: texts X191 to X192. Each tells its conditions in its theorems. -/
import Derived.Test.YtkdcaknoaeicdaaGreatP14
namespace Go.Ex
open Go Go.Sx Go.Proofs
theorem x6{S:Nat->Prop}{w:World}{v u:Value}{x y:List Rat}(hS:Old S w)(hx:cS w S v x)(hy:cS w S u y):dQ PG N.sL #[v,u] w (dU w fun v' _=>∃d,v'= .bool d∧(d=true↔x=y)):=by
 have hw:cF w.heap.size w w:=cF.refl;obtain⟨ax,cx,rfl,-,hmx⟩:=cd.shape hx;obtain⟨ay,cy,rfl,-,hmy⟩:=cd.shape hy;unfold maxLen at hmx hmy;refine vB (by simp) ?_;conv=>whnf
 refine cW.mk (fun hl=>?_) (fun hl=>?_)
 ·have hl:x.length≠y.length:=fun e=>by rw[e]at hl;simp at hl
  conv=>whnf
  intro ρe we re;exact⟨_,rfl,hw.tr re.bs,false,rfl,iff_of_false (by simp) fun h=>hl (by rw[h])⟩
 have hl1:(x.length:Int)=y.length:=by simpa using hl
 have hl2:x.length=y.length:=by omega
 clear hl hl1;conv=>whnf
 refine⟨Nat×World×Iv,fun z=>⟨[(0,.o (.v (.slice ax x.length cx))),(1,.o (.v (.slice ay y.length cy))),(5,.o (.v (.int .i64 ((z.1:Nat):Int))))],[],0,z.2.2,z.2.1⟩,fun z=>x.length-z.1,
  fun z=>z.1<=x.length∧cF w.heap.size w z.2.1∧∀(j:Nat),j<z.1->x.getD j 0=y.getD j 0,?_,?_⟩
 ·intro ρ w' r3;exact⟨(0,w',_),⟨aO _,hw.tr r3.bs,fun j hj=>absurd hj (bj j)⟩,Sub.gen [] r3 trivial ⟨rfl,rfl,rfl,trivial⟩ (by simp[cY,cN.scopd,At.sc]) (by simp[cO,SV.sc,At.sc,cJ]) (by rfl) (fun lo hi h=>h)⟩
 clear hw;rintro⟨i,w1,iv⟩ ⟨hi,hw,ht⟩;dsimp only at hi hw ht ⊢;conv=>whnf
 refine cW.mk (fun hib=>?_) (fun hib=>?_)
 ·have hib:i<x.length:=by simpa using hib
  obtain⟨a,ha⟩:∃q,x[i]? =some q:=⟨_,aA hib⟩
  obtain⟨b,hb1⟩:∃q,y[i]? =some q:=⟨_,aA (by omega)⟩
  obtain⟨ada,csa,haa,hFa,-,hla⟩:=cd.load hx ha;obtain⟨f0,f1,f2,f3,f4,f5,f6,f7,rfl,hFa⟩:=hFa;obtain⟨adb,csb,hab,hFb,-,hlb⟩:=cd.load hy hb1;obtain⟨q0,q1,q2,q3,q4,q5,q6,q7,rfl,hFb⟩:=hFb;conv=>whnf
  refine bw hτ dH [.x 0,.x 1,.x 2,.x 3,.x 4,.x 5,.x 6,.x 7,.x 8,.x 9] (by kernel_rfl) (by kernel_rfl) ?_;conv=>whnf
  refine⟨ada,haa,⟨by omega,by omega⟩,?_⟩;conv=>whnf
  refine⟨[.bool f0,.slice f1 f2 f3,.bool f4,.slice f5 f6 f7],rfl,fun ρ w' r j u hu=>?_,?_⟩
  ·obtain⟨k1,k2⟩:=hla j u hu;rw[aB,bo (w:=w) (w2:=w') (by rw[cC,cC];exact(hw.tr r.bs).block _ (hS _ k1))];exact k2
  conv=>whnf
  refine⟨adb,hab,⟨by omega,by omega⟩,?_⟩;conv=>whnf
  refine⟨[.bool q0,.slice q1 q2 q3,.bool q4,.slice q5 q6 q7],rfl,fun ρ w' r j u hu=>?_,?_⟩
  ·obtain⟨k1,k2⟩:=hlb j u hu;rw[aB,bo (w:=w) (w2:=w') (by rw[cC,cC];exact(hw.tr r.bs).block _ (hS _ k1))];exact k2
  conv=>whnf
  refine cE hw (Φ:=fun _ w' v w2=>v= .int .i64 (rs (a-b))) (fun ρ w' r=>Dr (fun g hg=>by have:=hS g hg;have:=r.bm;omega) (hFa.bu fun g hg=>(hw.tr r.bs).block g (hS g hg)) (hFb.bu fun g hg=>(hw.tr r.bs).block g (hS g hg))) ?_;rintro ρ wa1 v1 wb1 iv1 r he hw h_ rfl;clear r;obtain⟨cf,hcf⟩:∃c,rs (a-b)=c:=⟨_,rfl⟩
  rw[hcf];conv=>whnf
  refine cW.mk (fun he=>?_) (fun he=>?_)
  ·have he:cf≠0:=by simpa using he
   conv=>whnf
   intro ρe we re;exact⟨_,rfl,hw.tr re.bs,false,rfl,iff_of_false (by simp) fun h=>he (by rw[<-hcf];refine AM.2 ?_;rw[h,hb1]at ha;injection ha with ha;exact ha.symm)⟩
  have he:cf=0:=by simpa using he
  rw[he]at hcf;have hab2:=AM.1 hcf;conv=>whnf
  refine⟨((i+1:Nat):Int),by rw[wrap64]<;>omega,?_⟩;conv=>whnf
  intro ρ3 w3 r3;refine⟨(i+1,w3,_),⟨hib,hw.tr r3.bs,fun j hj=>?_⟩,Sub.gen [] r3 trivial ⟨rfl,rfl,rfl,trivial⟩ (by simp[cY]) (by simp[cO,SV.sc,At.sc,cJ]) (by rfl) (fun lo hi h=>h),by dsimp only;omega⟩;rcases bA j i with h|h
  ·exact ht j h
  obtain rfl:j=i:=by dsimp only at hj;omega
  rw[getD_some ha,getD_some hb1,hab2]
 have hib:i=x.length:=aM hi (by simpa using hib);conv=>whnf
 intro ρe we re;exact⟨_,rfl,hw.tr re.bs,true,rfl,iff_of_true rfl (nu 0 hl2 fun j hj=>ht j (by omega))⟩
theorem Ds{s:List Int}{t:Int}(h:EV s t)(ht:0<=t)(j:Nat): -t<=s.getD j 0∧s.getD j 0<=t:=by
 rcases bA j s.length with hj|hj
 ·rw[getD_some (aA hj)];exact h _ (List.getElem_mem hj)
 ·rw[List.getD,List.getElem?_eq_none hj];show -t<=0∧0<=t;omega
theorem x7{s:List Int}{x:Ld}{t:Int}(h:EV s t)(ht:0<=t)(hx:(-1000000<=x.2.1∧x.2.1<=1000000)∧(-1000000<=x.2.2.1∧x.2.2.1<=1000000)∧(-1000000<=x.2.2.2∧x.2.2.2<=1000000)):∀k,k<=3->EV (eu s x k) (t+1000000*(k:Int))
 |0,_=>by rw[eu];simpa using h
 |k+1,hk=>by
  have ih:=x7 h ht hx k (by omega);have hd: -1000000<=(Fh x).getD k 0∧(Fh x).getD k 0<=1000000:=by
   rcases(show k=0∨k=1∨k=2 by omega)with rfl|rfl|rfl
   ·exact hx.1
   ·exact hx.2.1
   ·exact hx.2.2
  have hg:=Ds ih (by omega) (3*x.1+k).toNat;rw[eu,B6];exact ih.set (by omega) (by omega)
theorem x8{n:Nat}{l:List Ld}(hok:qS n l):∀i,i<=l.length->EV (eL n l i) (3000000*(i:Int))
 |0,_=>fun z hz=>by rw[bF hz];decide
 |i+1,hi=>by
  have ih:=x8 hok i (by omega);have hm:l.getD i (0,0,0,0)∈l:=by rw[getD_some (aA (show i<l.length by omega))];exact List.getElem_mem _
  have:=x7 ih (by omega) (hok.ld _ hm).2 3 (aI _);rw[eL];intro z hz;have:=this z hz;omega
theorem Bm{f:eX}{l:List Ld}(hn:f.nodes.length<=20)(hok:qS f.nodes.length l):∀q∈e9 f l,rl q<=1:=fun q hq=>by
 obtain⟨z,hz,rfl⟩:=aS.1 hq;have:=x8 hok l.length (aI _) z hz;have hl:=hok.len;exact rP (by omega) (by omega)
set_option maxHeartbeats 1000000 in
set_option maxRecDepth 8000 in
theorem rT{S:Nat->Prop}{w:World}{vn vb vs vl:Value}{f:eX}{l:List Ld}(hS:Old S w)(hf:dE w S vn vb vs f)(hl:eh w S vl l)(herr:dh f=0)(hfs:Ai f)(hld:qS f.nodes.length l){vx vb2:Value}{x:List Rat}{b:Rat}(hx:cS w S vx x)(hxq:∀q∈x,rl q<=3)(hx80:x.length<=80)(hb:dc w S vb2 b)(hbq:rl b<=1000):
  dQ PG N.iY #[.agg #[vn,vb,vs],vl,vb2,vx] w (dU w fun v' _=>∃d,v'= .bool d∧(d=true↔GX f l b x)):=by
 have hw:cF w.heap.size w w:=cF.refl;obtain⟨an,cn,ab,cb,aq,cq,rfl,rfl,rfl,hmn,hmb,hms⟩:=hf.shape;obtain⟨al,cl,rfl,hcl,hml⟩:=hl.shape;obtain⟨ax,cx,rfl,hcx,hmx⟩:=cd.shape hx;obtain⟨b0,b1,b2,b3,b4,b5,b6,b7,rfl⟩:=hb.shape;unfold maxLen at hmx;have hc18:=hfs.G4;have hr12:=hfs.G5;have htl:=gW f;have hlen:=tV f;have hn4:=hfs.n4;have hok:=lA herr;have hvl:=gE f l;have hc0:f.cols=f.bars.length+f.cG.length:=rfl;refine lG (by simp) ?_;conv=>whnf
 refine bw hτ dH [.x 0,.x 1,.x 2,.x 3,.x 4,.x 5,.x 6,.x 9,.x 11,.x 12,.x 14,.x 7,.x 8,.x 10,.x 13,.x 15,.x 16,.x 17,.x 18,.x 19] (by kernel_rfl) (by kernel_rfl) ?_;conv=>whnf
 refine cE hw (Φ:=fun _ w' v w2=>v= .int .i64 f.cols) (fun ρ w' r=>jt (hf.bu fun g hg=>(hw.tr r.bs).block g (hS g hg)) ⟨hfs.b,hfs.s⟩) ?_;rintro ρ wa1 v1 wb1 iv1 r he hw h_ rfl;clear r;conv=>whnf
 refine cW.mk (fun hl1=>?_) (fun hl1=>?_)
 ·have hl1:(x.length:Int)=f.cols:=by simpa using hl1
  have hl2:x.length=f.cols:=by omega
  conv=>whnf
  refine cE hw (Φ:=fun _ w' v w2=>kc w2 (Nw (fun _=>False) w' w2) v (fR f)∧AX (fR f) 2000000) (fun ρ w' r=>xZ (fun g hg=>by have:=hS g hg;have:=r.bm;omega) (hf.bu fun g hg=>(hw.tr r.bs).block g (hS g hg)) herr) ?_;rintro ρ wa2 v2 wb2 iv2 r he hw h_ ⟨hn,hzb⟩;have hZ:=kc.cQ (S:=fun _=>False) hn r.bm (mN h_);clear r;clear hn;obtain⟨az,cz,rfl,-,-⟩:=dS.shape hZ;conv=>whnf
  refine cE hw (Φ:=fun _ w' v w2=>cI w2 (Nw (fun _=>False) w' w2) v (dM f)) (fun ρ w' r=>En (Rel.old r (bl w)) (kc.rel hZ r (bl w)) (by rw[<-aK (f:=cK)];exact bH hr12 (by decide)) (fun l hl=>by rw[hJ f _ l hl];omega) (fun l hl z hz=>by have:=hzb l hl z hz;omega)) ?_;rintro ρ wa3 v3 wb3 iv3 r he hw h_ hn;clear hZ;have hM:=cI.cQ (S:=fun _=>False) hn r.bm (mN h_);clear r;clear hn;obtain⟨am,cm,rfl,-,-⟩:=dS.shape hM;conv=>whnf
  refine cE hw (Φ:=fun _ w' v w2=>cB w2 (Nw (fun _=>False) w' w2) v (dy (dM f) x)) (fun ρ w' r=>AN (S:=fun g=>S g∨Cv (fun _=>False) w.heap.size iv3 g) (h:=4) (fun g hg=>hg.elim (fun hg=>by have:=hS g hg;have:=r.bm;omega) (Rel.old r (bl w) g)) (vV.bz (cI.l (cI.rel hM r (bl w)) fun y hy q hq=>by have:=(yd hfs) y hy q hq;omega) fun g hg=>.inr hg) (cS.bz (cS.bu hx fun g hg=>(hw.tr r.bs).block g (hS g hg)) fun g hg=>.inl hg) (fun y hy=>by rw[hlen y hy,hl2]) (yd hfs) (fun q hq=>by have:=hxq q hq;omega) (by decide) (by omega) (by omega)) ?_;rintro ρ wa4 v4 wb4 iv4 r he hw h_ hn;clear hM;have hT:=cB.cQ (S:=fun _=>False) hn r.bm (mN h_);clear r;clear hn;obtain⟨at_,ct,rfl,-,-⟩:=cd.shape hT;have htb:=nU (x:=x) hlen (yd hfs) (fun q hq=>by have:=hxq q hq;omega) (by decide);conv=>whnf
  refine cE hw (Φ:=fun _ w' v w2=>cB w2 (Nw (fun _=>False) w' w2) v (e9 f l)) (fun ρ w' r=>x4 (fun g hg=>by have:=hS g hg;have:=r.bm;omega) (hf.bu fun g hg=>(hw.tr r.bs).block g (hS g hg)) (hl.bu fun g hg=>(hw.tr r.bs).block g (hS g hg)) hfs.n hld) ?_;rintro ρ wa5 v5 wb5 iv5 r he hw h_ hn;replace hT:=cB.bq hT r (bl w) he (mC h_);have hP:=cB.cQ (S:=fun _=>False) hn r.bm (mN h_);clear r;clear hn;obtain⟨ap,cp,rfl,-,-⟩:=cd.shape hP;have hvq:=Bm hfs.n hld
  (try rw[hvl])
  conv=>whnf
  refine cE hw (Φ:=fun _ w' v w2=>cH w2 (Nw (fun _=>False) w' w2) v (-b)) (fun ρ w' r=>Dt (fun g hg=>by have:=hS g hg;have:=r.bm;omega) (hb.bu fun g hg=>(hw.tr r.bs).block g (hS g hg))) ?_;rintro ρ wa6 v6 wb6 iv6 r he hw h_ hn;replace hT:=cB.bq hT r (bl w) he (mC h_);replace hP:=cB.bq hP r (bl w) he (mC h_);have hg:=hn.cQ (S:=fun _=>False) r.bm (mN h_);clear r;obtain⟨s6_0,s6_1,s6_2,s6_3,s6_4,s6_5,s6_6,s6_7,rfl⟩:=hg.shape;conv=>whnf
  refine cE hw (Φ:=fun _ w' v w2=>cB w2 (Nw (fun _=>False) w' w2) v (eO (e9 f l) (-b))) (fun ρ w' r=>(show sS [] (e9 f l) (-b)=eO (e9 f l) (-b)from Cc (e9 f l) (-b))▸Ep (S:=Cv (fun _=>False) w.heap.size iv6) (Rel.old r (bl w)) (cS.nil w' _) (cB.l (by have:=cB.rel hP r (bl w);try rw[hvl]at this;exact this) fun q hq=>by have:=hvq q hq;omega) ((hg.rel r (bl w)).l (by rw[kA];omega)) (.inl rfl) (by omega) (fun y hy=>by have:=hvq y hy;rw[kA];omega)) ?_;rintro ρ wa7 v7 wb7 iv7 r he hw h_ hn;replace hT:=cB.bq hT r (bl w) he (mC h_);clear hP;clear hg;have hQ:=cB.cQ (S:=fun _=>False) hn r.bm (mN h_);clear r;clear hn;obtain⟨aq2,cq2,rfl,-,-⟩:=cd.shape hQ;conv=>whnf
  refine cE hw (Φ:=fun _ w' v w2=>∃d,v= .bool d∧(d=true↔dy (dM f) x=eO (e9 f l) (-b))) (fun ρ w' r=>x6 (S:=Cv (fun _=>False) w.heap.size iv7) (Rel.old r (bl w)) (cB.l (cB.rel hT r (bl w)) fun q hq=>by have:=htb q hq;omega) (cB.l (cB.rel hQ r (bl w)) fun q hq=>by obtain⟨y,hy,rfl⟩:=aS.1 hq;have:=hvq y hy;have:=jN y (-b);rw[kA]at this;omega)) ?_;rintro ρ wa8 v8 wb8 iv8 r he hw h_ ⟨d,rfl,hd⟩;clear hT;clear hQ;clear r;conv=>whnf
  intro ρe we re;exact⟨_,rfl,hw.tr re.bs,d,rfl,hd.trans ⟨fun h=>⟨hl2,h⟩,fun h=>h.2⟩⟩
 have hl1:(x.length:Int)≠f.cols:=by simpa using hl1
 conv=>whnf
 intro ρe we re;exact⟨_,rfl,hw.tr re.bs,false,rfl,iff_of_false (by simp) fun h=>hl1 (by rw[h.1])⟩
theorem Du{S:Nat->Prop}{w:World}{vn vb vs:Value}{f:eX}(hS:Old S w)(hf:dE w S vn vb vs f)(herr:dh f=0)(hfs:Ai f){vu:Value}{u:List Rat}(hu:cS w S vu u)(huq:∀q∈u,rl q<=3)(hu80:u.length<=80)(hul:u.length=3*f.nodes.length):
  dQ PG N.sN #[.agg #[vn,vb,vs],vu] w (dU w fun v' w2=>cB w2 (Nw (fun _=>False) w w2) v' (dy (dR (dM f) f.cols) u)):=by
 have hw:cF w.heap.size w w:=cF.refl;obtain⟨an,cn,ab,cb,aq,cq,rfl,rfl,rfl,hmn,hmb,hms⟩:=hf.shape;obtain⟨au,cu,rfl,hcu,hmu⟩:=cd.shape hu;unfold maxLen at hmu;have hc18:=hfs.G4;have hr12:=hfs.G5;have htl:=gW f;have hlen:=tV f;have hn4:=hfs.n4;have hok:=lA herr;have hc0:f.cols=f.bars.length+f.cG.length:=rfl;refine vD (by simp) ?_;conv=>whnf
 refine bp (cE hw (Φ:=fun _ w' v w2=>cI w2 (Nw (fun _=>False) w' w2) v (dR (dM f) f.cols)) (fun ρ w' r=>Ca (fun g hg=>by have:=hS g hg;have:=r.bm;omega) (hf.bu fun g hg=>(hw.tr r.bs).block g (hS g hg)) herr) ?_);rintro ρ wa1 v1 wb1 iv1 r he hw h_ hn;have hM:=cI.cQ (S:=fun _=>False) hn r.bm (mN h_);clear r;clear hn;obtain⟨am,cm,rfl,-,-⟩:=dS.shape hM;conv=>whnf
 refine bp (cE hw (Φ:=fun _ w' v w2=>cB w2 (Nw (fun _=>False) w' w2) v (dy (dR (dM f) f.cols) u)) (fun ρ w' r=>AN (S:=fun g=>S g∨Cv (fun _=>False) w.heap.size iv1 g) (h:=4) (fun g hg=>hg.elim (fun hg=>by have:=hS g hg;have:=r.bm;omega) (Rel.old r (bl w) g)) (vV.bz (cI.l (cI.rel hM r (bl w)) fun y hy q hq=>by have:=(nC hfs) y hy q hq;omega) fun g hg=>.inr hg) (cS.bz (cS.bu hu fun g hg=>(hw.tr r.bs).block g (hS g hg)) fun g hg=>.inl hg) (fun y hy=>by rw[nR _ _ y hy,hul,htl]) (nC hfs) (fun q hq=>by have:=huq q hq;omega) (by decide) (by omega) (by rw[ix];omega)) ?_);rintro ρ wa2 v2 wb2 iv2 r he hw h_ hn;clear hM;have hT:=cB.cQ (S:=fun _=>False) hn r.bm (mN h_);clear r;clear hn;obtain⟨at_,ct,rfl,-,-⟩:=cd.shape hT;conv=>whnf
 intro ρe we re;exact⟨_,rfl,hw.tr re.bs,cB.out hT re (bl w)⟩
set_option maxHeartbeats 1000000 in
set_option maxRecDepth 8000 in
theorem Cd{S:Nat->Prop}{w:World}{vn vb vs vl:Value}{f:eX}{l:List Ld}(hS:Old S w)(hf:dE w S vn vb vs f)(hl:eh w S vl l)(herr:dh f=0)(hfs:Ai f)(hld:qS f.nodes.length l){vu:Value}{u:List Rat}(hu:cS w S vu u)(huq:∀q∈u,rl q<=3)(hu80:u.length<=80):
  dQ PG N.pq #[.agg #[vn,vb,vs],vl,vu] w (dU w fun v' _=>∃d,v'= .bool d∧(d=true↔Dq f l u)):=by
 have hw:cF w.heap.size w w:=cF.refl;obtain⟨an,cn,ab,cb,aq,cq,rfl,rfl,rfl,hmn,hmb,hms⟩:=hf.shape;obtain⟨al,cl,rfl,hcl,hml⟩:=hl.shape;obtain⟨au,cu,rfl,hcu,hmu⟩:=cd.shape hu;unfold maxLen at hmu;have hc18:=hfs.G4;have hr12:=hfs.G5;have htl:=gW f;have hlen:=tV f;have hn4:=hfs.n4;have hok:=lA herr;have hvl:=gE f l;have hc0:f.cols=f.bars.length+f.cG.length:=rfl;refine sk (by simp) ?_;conv=>whnf
 refine bw hτ dH [.x 0,.x 1,.x 2,.x 3,.x 4,.x 5,.x 6,.x 7,.x 8,.x 9,.x 11,.x 10,.x 12,.x 13,.x 14,.x 15,.x 16,.x 17,.x 18,.x 20,.x 19,.x 21,.x 22,.x 23,.x 24,.x 25,.x 26] (by kernel_rfl) (by kernel_rfl) ?_;conv=>whnf
 refine⟨((3*f.nodes.length:Nat):Int),by rw[wrap64]<;>omega,?_⟩;conv=>whnf
 refine cW.mk (fun hl1=>?_) (fun hl1=>?_)
 ·have hl1:(u.length:Int)=((3*f.nodes.length:Nat):Int):=by simpa using hl1
  have hul:u.length=3*f.nodes.length:=by omega
  conv=>whnf
  refine cE hw (Φ:=fun _ w' v w2=>cB w2 (Nw (fun _=>False) w' w2) v (dy (dR (dM f) f.cols) u)) (fun ρ w' r=>Du (fun g hg=>by have:=hS g hg;have:=r.bm;omega) (hf.bu fun g hg=>(hw.tr r.bs).block g (hS g hg)) herr hfs (cS.bu hu fun g hg=>(hw.tr r.bs).block g (hS g hg)) huq hu80 hul) ?_;rintro ρ wa1 v1 wb1 iv1 r he hw h_ hn;have hT:=cB.cQ (S:=fun _=>False) hn r.bm (mN h_);clear r;clear hn;obtain⟨at_,ct,rfl,-,-⟩:=cd.shape hT;have htb:=nU (x:=u) (nR (dM f) f.cols) (nC hfs) (fun q hq=>by have:=huq q hq;omega) (by decide);conv=>whnf
  refine cE hw (Φ:=fun _ w' v w2=>v= .int .i64 f.cols) (fun ρ w' r=>jt (hf.bu fun g hg=>(hw.tr r.bs).block g (hS g hg)) ⟨hfs.b,hfs.s⟩) ?_;rintro ρ wa2 v2 wb2 iv2 r he hw h_ rfl;replace hT:=cB.bq hT r (bl w) he (mC h_);clear r;conv=>whnf
  refine cE hw (Φ:=fun _ w' v w2=>cB w2 (Nw (fun _=>False) w' w2) v (List.replicate f.cols 0)) (fun ρ w' r=>Dn f.cols w' (by omega)) ?_;rintro ρ wa3 v3 wb3 iv3 r he hw h_ hn;replace hT:=cB.bq hT r (bl w) he (mC h_);have hz:=cB.cQ (S:=fun _=>False) hn r.bm (mN h_);clear r;clear hn;obtain⟨az,cz,rfl,-,-⟩:=cd.shape hz;conv=>whnf
  refine cE hw (Φ:=fun _ w' v w2=>∃d,v= .bool d∧(d=true↔dy (dR (dM f) f.cols) u=List.replicate f.cols 0)) (fun ρ w' r=>x6 (S:=Cv (fun _=>False) w.heap.size iv3) (Rel.old r (bl w)) (cB.l (cB.rel hT r (bl w)) fun q hq=>by have:=htb q hq;omega) (cB.l (cB.rel hz r (bl w)) fun q hq=>by rw[bF hq];decide)) ?_;rintro ρ wa4 v4 wb4 iv4 r he hw h_ ⟨d,rfl,hd⟩;clear hT;clear hz;clear r
  cases d
  ·conv=>whnf
   intro ρe we re;exact⟨_,rfl,hw.tr re.bs,false,rfl,iff_of_false (by simp) fun h=>by have:=hd.2 h.2.1;cases this⟩
  have hfree:=hd.1 rfl;conv=>whnf
  refine cE hw (Φ:=fun _ w' v w2=>cB w2 (Nw (fun _=>False) w' w2) v (e9 f l)) (fun ρ w' r=>x4 (fun g hg=>by have:=hS g hg;have:=r.bm;omega) (hf.bu fun g hg=>(hw.tr r.bs).block g (hS g hg)) (hl.bu fun g hg=>(hw.tr r.bs).block g (hS g hg)) hfs.n hld) ?_;rintro ρ wa5 v5 wb5 iv5 r he hw h_ hn;have hP:=cB.cQ (S:=fun _=>False) hn r.bm (mN h_);clear r;clear hn;obtain⟨ap,cp,rfl,-,-⟩:=cd.shape hP;have hvq:=Bm hfs.n hld
  (try rw[hvl])
  conv=>whnf
  refine cE hw (Φ:=fun _ w' v w2=>cH w2 (Nw (fun _=>False) w' w2) v (eG (e9 f l) u (e9 f l).length)) (fun ρ w' r=>Dv (S:=fun g=>S g∨Cv (fun _=>False) w.heap.size iv5 g) (h:=4) (fun g hg=>hg.elim (fun hg=>by have:=hS g hg;have:=r.bm;omega) (Rel.old r (bl w) g)) (cS.bz (cB.l (by have:=cB.rel hP r (bl w);try rw[hvl]at this;exact this) fun q hq=>by have:=hvq q hq;omega) fun g hg=>.inr hg) (cS.bz (cS.bu hu fun g hg=>(hw.tr r.bs).block g (hS g hg)) fun g hg=>.inl hg) (by omega) (fun q hq=>by have:=hvq q hq;omega) (fun q hq=>by have:=huq q hq;omega) (by decide) (by omega)) ?_;rintro ρ wa6 v6 wb6 iv6 r he hw h_ hn;clear hP;have hd2:=hn.cQ (S:=fun _=>False) r.bm (mN h_);clear r;obtain⟨s6_0,s6_1,s6_2,s6_3,s6_4,s6_5,s6_6,s6_7,rfl⟩:=hd2.shape;have hdr:=k9 (h:=4) (xs:=e9 f l) (ys:=u) (fun q hq=>by have:=hvq q hq;omega) (fun q hq=>by have:=huq q hq;omega) (by decide) (e9 f l).length;conv=>whnf
  refine cE hw (Φ:=fun _ w' v w2=>cH w2 (Nw (fun _=>False) w' w2) v ((1:Int):Rat)) (fun ρ w' r=>gq 1 w' (by decide)) ?_;rintro ρ wa7 v7 wb7 iv7 r he hw h_ hn;replace hd2:=hd2.bq r (bl w) he (mC h_);have ho:=hn.cQ (S:=fun _=>False) r.bm (mN h_);clear r;obtain⟨s7_0,s7_1,s7_2,s7_3,s7_4,s7_5,s7_6,s7_7,rfl⟩:=ho.shape;conv=>whnf
  refine cE hw (Φ:=fun _ w' v w2=>v= .int .i64 (rs (eG (e9 f l) u (e9 f l).length-((1:Int):Rat)))) (fun ρ w' r=>Dr (S:=Cv (fun _=>False) w.heap.size iv7) (Rel.old r (bl w)) ((hd2.rel r (bl w)).l (by omega)) ((ho.rel r (bl w)).l (by decide))) ?_;rintro ρ wa8 v8 wb8 iv8 r he hw h_ rfl;clear hd2;clear ho;clear r;obtain⟨cf,hcf⟩:∃c,rs (eG (e9 f l) u (e9 f l).length-((1:Int):Rat))=c:=⟨_,rfl⟩
  rw[hcf];conv=>whnf
  intro ρe we re;refine⟨_,rfl,hw.tr re.bs,cf==0,rfl,?_⟩;rw[beq_iff_eq,<-hcf,AM];exact⟨fun h=>⟨hul,hfree,h⟩,fun h=>h.2.2⟩
 have hl1:(u.length:Int)≠((3*f.nodes.length:Nat):Int):=by simpa using hl1
 conv=>whnf
 intro ρe we re;exact⟨_,rfl,hw.tr re.bs,false,rfl,iff_of_false (by simp) fun h=>hl1 (by rw[h.1])⟩
set_option maxHeartbeats 1000000 in
set_option maxRecDepth 8000 in
theorem wU{S:Nat->Prop}{w:World}{vn vb vs vl:Value}{f:eX}{l:List Ld}(hS:Old S w)(hf:dE w S vn vb vs f)(hl:eh w S vl l)(herr:dh f=0)(hfs:Ai f)(hld:qS f.nodes.length l){vx vu:Value}{x u:List Rat}{k:Int}(hx:cS w S vx x)(hu:cS w S vu u)(hxq:∀q∈x,rl q<=3)(huq:∀q∈u,rl q<=3)(hx80:x.length<=80)(hu80:u.length<=80):
  dQ PG N.kR #[.agg #[vn,vb,vs],vl,.agg #[.int .i64 k,vx,vu]] w (dU w fun v' _=>(v'= .int .i64 0∧vU f l k x u)∨(v'= .int .i64 25∧¬vU f l k x u)):=by
 have hw:cF w.heap.size w w:=cF.refl;obtain⟨an,cn,ab,cb,aq,cq,rfl,rfl,rfl,hmn,hmb,hms⟩:=hf.shape;obtain⟨al,cl,rfl,hcl,hml⟩:=hl.shape;obtain⟨ax,cx,rfl,hcx,hmx⟩:=cd.shape hx;obtain⟨au,cu,rfl,hcu,hmu⟩:=cd.shape hu;unfold maxLen at hmx hmu;refine nf (by simp) ?_;conv=>whnf
 refine bw hτ dH [.x 0,.x 1,.x 2,.x 3,.x 4,.x 5,.x 6,.x 7,.x 8,.x 9,.x 10,.x 11,.x 13,.x 14,.x 12,.x 15,.x 16] (by kernel_rfl) (by kernel_rfl) ?_;conv=>whnf
 rcases(show k=0∨k=1∨k≠0∧k≠1 by omega)with rfl|rfl|⟨hk0,hk1⟩
 ·conv=>whnf
  refine cW.mk (fun h0=>?_) (fun h0=>?_)
  ·have h0:u.length=0:=by simpa using h0
   conv=>whnf
   refine cE hw (Φ:=fun _ w' v w2=>cH w2 (Nw (fun _=>False) w' w2) v ((1:Int):Rat)) (fun ρ w' r=>gq 1 w' (by decide)) ?_;rintro ρ wa1 v1 wb1 iv1 r he hw h_ hn;have ho:=hn.cQ (S:=fun _=>False) r.bm (mN h_);clear r;obtain⟨s1_0,s1_1,s1_2,s1_3,s1_4,s1_5,s1_6,s1_7,rfl⟩:=ho.shape;conv=>whnf
   refine cE hw (Φ:=fun _ w' v w2=>∃d,v= .bool d∧(d=true↔GX f l ((1:Int):Rat) x)) (fun ρ w' r=>rT (S:=fun g=>S g∨Cv (fun _=>False) w.heap.size iv1 g) (fun g hg=>hg.elim (fun hg=>by have:=hS g hg;have:=r.bm;omega) (Rel.old r (bl w) g)) (dE.bz (hf.bu fun g hg=>(hw.tr r.bs).block g (hS g hg)) fun g hg=>.inl hg) (eh.bz (hl.bu fun g hg=>(hw.tr r.bs).block g (hS g hg)) fun g hg=>.inl hg) herr hfs hld (cS.bz (cS.bu hx fun g hg=>(hw.tr r.bs).block g (hS g hg)) fun g hg=>.inl hg) hxq hx80 (((ho.rel r (bl w)).l (by decide)).bz fun g hg=>.inr hg) (by decide)) ?_;rintro ρ wa2 v2 wb2 iv2 r he hw h_ ⟨d,rfl,hd⟩;clear ho;clear r
   cases d
   ·conv=>whnf
    intro ρe we re;exact⟨_,rfl,hw.tr re.bs,.inr ⟨rfl,fun h=>by rcases h with⟨_,_,h⟩|⟨h,_⟩;(have:=hd.2 h;cases this);cases h⟩⟩
   conv=>whnf
   intro ρe we re;exact⟨_,rfl,hw.tr re.bs,.inl ⟨rfl,.inl ⟨rfl,h0,hd.1 rfl⟩⟩⟩
  have h0:u.length≠0:=by simpa using h0
  conv=>whnf
  intro ρe we re;exact⟨_,rfl,hw.tr re.bs,.inr ⟨rfl,fun h=>by rcases h with⟨_,h,_⟩|⟨h,_⟩;exact h0 h;cases h⟩⟩
 ·conv=>whnf
  refine cW.mk (fun h0=>?_) (fun h0=>?_)
  ·have h0:x.length=0:=by simpa using h0
   conv=>whnf
   refine bp (cE hw (Φ:=fun _ w' v w2=>∃d,v= .bool d∧(d=true↔Dq f l u)) (fun ρ w' r=>Cd (fun g hg=>by have:=hS g hg;have:=r.bm;omega) (hf.bu fun g hg=>(hw.tr r.bs).block g (hS g hg)) (hl.bu fun g hg=>(hw.tr r.bs).block g (hS g hg)) herr hfs hld (cS.bu hu fun g hg=>(hw.tr r.bs).block g (hS g hg)) huq hu80) ?_);rintro ρ wa1 v1 wb1 iv1 r he hw h_ ⟨d,rfl,hd⟩;clear r
   cases d
   ·conv=>whnf
    intro ρe we re;exact⟨_,rfl,hw.tr re.bs,.inr ⟨rfl,fun h=>by rcases h with⟨h,_⟩|⟨_,_,h⟩;cases h;(have:=hd.2 h;cases this)⟩⟩
   conv=>whnf
   intro ρe we re;exact⟨_,rfl,hw.tr re.bs,.inl ⟨rfl,.inr ⟨rfl,h0,hd.1 rfl⟩⟩⟩
  have h0:x.length≠0:=by simpa using h0
  conv=>whnf
  intro ρe we re;exact⟨_,rfl,hw.tr re.bs,.inr ⟨rfl,fun h=>by rcases h with⟨h,_⟩|⟨_,h,_⟩;cases h;exact h0 h⟩⟩
 conv=>whnf
 refine cW.mk (fun h0=>absurd (by simpa using h0) hk0) (fun _=>?_);conv=>whnf
 refine cW.mk (fun h0=>absurd (by simpa using h0) hk1) (fun _=>?_);conv=>whnf
 intro ρe we re;exact⟨_,rfl,hw.tr re.bs,.inr ⟨rfl,fun h=>by rcases h with⟨h,_⟩|⟨h,_⟩;exact hk0 h;exact hk1 h⟩⟩
set_option maxHeartbeats 1000000 in
theorem rU{S:Nat->Prop}{w:World}{vn vb vs v vx vu:Value}{f:BG}{l:List Ld}{xs us:List (Int×Int)}{k:Int}(hS:Old S w)(hF:nB w S vn vb vs f)(hl:eh w S v l)(hx:lh w S vx xs)(hu:lh w S vu us):
  dQ PG N.iK #[.agg #[vn,vb,vs],v,.agg #[.int .i64 k,vx,vu]] w (dU w fun v' _=>v'= .bool true):=by
 have hw:cF w.heap.size w w:=cF.refl;obtain⟨an,cn,rfl,-,-⟩:=hF.nodes.shape;obtain⟨ab,cb,rfl,-,-⟩:=hF.bars.shape;obtain⟨aq,cq,rfl,-,-⟩:=hF.cG.shape;obtain⟨al,cl,rfl,-,-⟩:=hl.shape;obtain⟨ax,cx,rfl,hcx,hmx⟩:=cd.shape hx;obtain⟨au,cu,rfl,hcu,hmu⟩:=cd.shape hu;refine kW (by simp) ?_;conv=>whnf
 refine bp (cE hw (Φ:=fun _ w' v w2=>∃d,v= .bool d∧(d=true->dE w S (.slice an f.nodes.length cn) (.slice ab f.bars.length cb) (.slice aq f.cG.length cq) f.val∧(∀b∈f.val.bars,rl b.2.2<=3)∧(∀b∈f.val.cG,rl b.2.2<=3)∧(dh f.val≠0∨f.val.nodes.length<=4∧f.val.bars.length<=6))) (fun ρ w' r=>C7 hS hw r hF) ?_);rintro ρ wa1 v1 wb1 iv1 r he hw h_ ⟨d1,rfl,hz1⟩;clear r
 cases d1
 ·conv=>whnf
  refine bp (cE hw (Φ:=fun _ w' v w2=>v= .bool true) (fun ρ w' r=>kg w') ?_);rintro ρ wa2 v2 wb2 iv2 r he hw h_ rfl;clear r;conv=>whnf
  intro ρe we re;exact⟨_,rfl,hw.tr re.bs,rfl⟩
 have hz1:=hz1 rfl;conv=>whnf
 refine bp (cE hw (Φ:=fun _ w' v w2=>∃d,v= .bool d) (fun ρ w' r=>Fs (hl.bu fun g hg=>(hw.tr r.bs).block g (hS g hg))) ?_);rintro ρ wa2 v2 wb2 iv2 r he hw h_ ⟨d2,rfl⟩;clear r
 cases d2
 ·conv=>whnf
  refine bp (cE hw (Φ:=fun _ w' v w2=>v= .bool true) (fun ρ w' r=>kg w') ?_);rintro ρ wa3 v3 wb3 iv3 r he hw h_ rfl;clear r;conv=>whnf
  intro ρe we re;exact⟨_,rfl,hw.tr re.bs,rfl⟩
 conv=>whnf
 refine bp (cE hw (Φ:=fun _ w' v w2=>∃d,v= .bool d∧(d=true->xs.length<=80∧cS w S (.slice ax xs.length cx) (xs.map rq)∧∀q∈xs.map rq,rl q<=3)) (fun ρ w' r=>xX hS hw r hx) ?_);rintro ρ wa3 v3 wb3 iv3 r he hw h_ ⟨d3,rfl,hz3⟩;clear r
 cases d3
 ·conv=>whnf
  refine bp (cE hw (Φ:=fun _ w' v w2=>v= .bool true) (fun ρ w' r=>kg w') ?_);rintro ρ wa4 v4 wb4 iv4 r he hw h_ rfl;clear r;conv=>whnf
  intro ρe we re;exact⟨_,rfl,hw.tr re.bs,rfl⟩
 have hz3:=hz3 rfl;conv=>whnf
 refine bp (cE hw (Φ:=fun _ w' v w2=>∃d,v= .bool d∧(d=true->us.length<=80∧cS w S (.slice au us.length cu) (us.map rq)∧∀q∈us.map rq,rl q<=3)) (fun ρ w' r=>xX hS hw r hu) ?_);rintro ρ wa4 v4 wb4 iv4 r he hw h_ ⟨d4,rfl,hz4⟩;clear r
 cases d4
 ·conv=>whnf
  refine bp (cE hw (Φ:=fun _ w' v w2=>v= .bool true) (fun ρ w' r=>kg w') ?_);rintro ρ wa5 v5 wb5 iv5 r he hw h_ rfl;clear r;conv=>whnf
  intro ρe we re;exact⟨_,rfl,hw.tr re.bs,rfl⟩
 have hz4:=hz4 rfl;obtain⟨hR,hrb,hrs,hsm⟩:=hz1;obtain⟨fv,hfv⟩:∃fv,f.val=fv:=⟨_,rfl⟩
 rw[hfv]at hR hrb hrs hsm;obtain⟨en,eb,es⟩:f.nodes.length=fv.nodes.length∧f.bars.length=fv.bars.length∧f.cG.length=fv.cG.length:=by rw[<-hfv];exact⟨rfl,(aK ..).symm,(aK ..).symm⟩
 rw[en,eb,es]at hR ⊢;clear hF hfv en eb es;obtain⟨hx80,hX,hxq⟩:=hz3;obtain⟨hu80,hU,huq⟩:=hz4;obtain⟨xv,hxv⟩:∃xv,xs.map rq=xv:=⟨_,rfl⟩
 obtain⟨uv,huv⟩:∃uv,us.map rq=uv:=⟨_,rfl⟩
 rw[hxv]at hX hxq;rw[huv]at hU huq;have hxl:xs.length=xv.length:=by rw[<-hxv,aK]
 have hul:us.length=uv.length:=by rw[<-huv,aK]
 rw[hxl]at hX hx80 ⊢;rw[hul]at hU hu80 ⊢;clear hx hu hxv huv hmx hcx hmu hcu hxl hul;have hsf:dh fv=0->Ai fv:=Ft hsm;obtain⟨e0,EE⟩:∃e,iS fv l=e:=⟨_,rfl⟩
 by_cases he0:e0=0
 ·rw[he0]at EE;obtain⟨herr,hld⟩:=jX EE;have hfs:=hsf herr;have hld:=yZ hld;obtain⟨e,hE⟩:∃e:Int,(e=0∧vU fv l k xv uv)∨(e=25∧¬vU fv l k xv uv):=(Classical.em (vU fv l k xv uv)).elim (fun h=>⟨0,.inl ⟨rfl,h⟩⟩) fun h=>⟨25,.inr ⟨rfl,h⟩⟩
  conv=>whnf
  refine bp (cE hw (Φ:=fun _ w' v w2=>v= .int .i64 e) (fun ρ w' r=>(oQ (fun g hg=>by have:=hS g hg;have:=r.bm;omega) (hR.bu fun g hg=>(hw.tr r.bs).block g (hS g hg)) (hl.bu fun g hg=>(hw.tr r.bs).block g (hS g hg)) hsf (cS.bu hX fun g hg=>(hw.tr r.bs).block g (hS g hg)) (cS.bu hU fun g hg=>(hw.tr r.bs).block g (hS g hg)) hxq huq hx80 hu80).mono fun _ _ ⟨v2,e1,e2,e3⟩=>⟨v2,e1,e2,e3.elim (fun h=>absurd EE h.1) fun h=>h.2.elim (fun h=>hE.elim (fun g=>by rw[g.1];exact h.1) fun g=>absurd h.2 g.2) fun h=>hE.elim (fun g=>absurd g.2 h.2) fun g=>by rw[g.1];exact h.1⟩) ?_);rintro ρ wa5 v5 wb5 iv5 r he hw h_ rfl;clear r;conv=>whnf
  refine bp (cE hw (Φ:=fun _ w' v w2=>v= .int .i64 0) (fun ρ w' r=>(q8 (fun g hg=>by have:=hS g hg;have:=r.bm;omega) (hR.bu fun g hg=>(hw.tr r.bs).block g (hS g hg)) (hl.bu fun g hg=>(hw.tr r.bs).block g (hS g hg))).mono fun _ _ ⟨v2,e1,e2,e3⟩=>⟨v2,e1,e2,by rw[e3,EE]⟩) ?_);rintro ρ wa6 v6 wb6 iv6 r he hw h_ rfl;clear r;conv=>whnf
  refine bp (cE hw (Φ:=fun _ w' v w2=>v= .int .i64 e) (fun ρ w' r=>(wU (fun g hg=>by have:=hS g hg;have:=r.bm;omega) (hR.bu fun g hg=>(hw.tr r.bs).block g (hS g hg)) (hl.bu fun g hg=>(hw.tr r.bs).block g (hS g hg)) herr hfs hld (cS.bu hX fun g hg=>(hw.tr r.bs).block g (hS g hg)) (cS.bu hU fun g hg=>(hw.tr r.bs).block g (hS g hg)) hxq huq hx80 hu80).mono fun _ _ ⟨v2,e1,e2,e3⟩=>⟨v2,e1,e2,e3.elim (fun h=>hE.elim (fun g=>by rw[g.1];exact h.1) fun g=>absurd h.2 g.2) fun h=>hE.elim (fun g=>absurd g.2 h.2) fun g=>by rw[g.1];exact h.1⟩) ?_);rintro ρ wa7 v7 wb7 iv7 r he hw h_ rfl;clear r;conv=>whnf
  refine cW.mk (fun _=>?_) (fun hd=>by simp at hd);conv=>whnf
  refine bp (cE hw (Φ:=fun _ w' v w2=>v= .bool true) (fun ρ w' r=>kg w') ?_);rintro ρ wa8 v8 wb8 iv8 r he hw h_ rfl;clear r;conv=>whnf
  intro ρe we re;exact⟨_,rfl,hw.tr re.bs,rfl⟩
 conv=>whnf
 refine bp (cE hw (Φ:=fun _ w' v w2=>v= .int .i64 e0) (fun ρ w' r=>(oQ (fun g hg=>by have:=hS g hg;have:=r.bm;omega) (hR.bu fun g hg=>(hw.tr r.bs).block g (hS g hg)) (hl.bu fun g hg=>(hw.tr r.bs).block g (hS g hg)) hsf (cS.bu hX fun g hg=>(hw.tr r.bs).block g (hS g hg)) (cS.bu hU fun g hg=>(hw.tr r.bs).block g (hS g hg)) hxq huq hx80 hu80).mono fun _ _ ⟨v2,e1,e2,e3⟩=>⟨v2,e1,e2,e3.elim (fun h=>by rw[h.2,EE]) fun h=>absurd (EE.symm.trans h.1) he0⟩) ?_);rintro ρ wa5 v5 wb5 iv5 r he hw h_ rfl;clear r;conv=>whnf
 refine bp (cE hw (Φ:=fun _ w' v w2=>v= .int .i64 e0) (fun ρ w' r=>(q8 (fun g hg=>by have:=hS g hg;have:=r.bm;omega) (hR.bu fun g hg=>(hw.tr r.bs).block g (hS g hg)) (hl.bu fun g hg=>(hw.tr r.bs).block g (hS g hg))).mono fun _ _ ⟨v2,e1,e2,e3⟩=>⟨v2,e1,e2,by rw[e3,EE]⟩) ?_);rintro ρ wa6 v6 wb6 iv6 r he hw h_ rfl;clear r;conv=>whnf
 refine cW.mk (fun _=>?_) (fun hd=>absurd (by simpa using hd) he0);conv=>whnf
 refine cW.mk (fun _=>?_) (fun hd=>by simp at hd);conv=>whnf
 refine bp (cE hw (Φ:=fun _ w' v w2=>v= .bool true) (fun ρ w' r=>kg w') ?_);rintro ρ wa7 v7 wb7 iv7 r he hw h_ rfl;clear r;conv=>whnf
 intro ρe we re;exact⟨_,rfl,hw.tr re.bs,rfl⟩
end Go.Ex
