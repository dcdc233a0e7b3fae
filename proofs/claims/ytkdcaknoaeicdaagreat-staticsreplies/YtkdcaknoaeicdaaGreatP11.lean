/- A part of the proof: texts X136 to X141. Each tells its conditions in its theorems. -/
import Derived.Test.YtkdcaknoaeicdaaGreatP2
import Derived.Test.YtkdcaknoaeicdaaGreatP8
import Derived.Test.YtkdcaknoaeicdaaGreatP9
import Derived.Test.YtkdcaknoaeicdaaGreatP10
namespace Go.Ex
open Go Go.Sx Go.Proofs
def oz(pv:List Nat)(n i:Nat):List Value:=(List.range n).map fun c=>.bool (decide (c∈pv.take i))
theorem CU(pv:List Nat)(n:Nat):oz pv n 0=List.replicate n (.bool false):=by
 refine bN fun j=>?_;rw[oz,aN,List.getElem?_replicate];by_cases h:j<n
 ·rw[List.getElem?_range h,aQ h];rfl
 ·rw[List.getElem?_eq_none (by simp;omega),aL h];rfl
theorem yU{pv:List Nat}{n i c:Nat}(h:c<n):(oz pv n i)[c]? =some (.bool (decide (c∈pv.take i))):=by
 rw[oz,aN,List.getElem?_range h];rfl
theorem CV{pv:List Nat}{n i p:Nat}(hp:pv[i]? =some p):(oz pv n i).set p (.bool true)=oz pv n (i+1):=by
 refine bN fun j=>?_;by_cases hj:j<n
 ·rw[yU hj,List.take_add_one,hp];by_cases hpj:p=j
  ·subst hpj;rw[aZ (by simp[oz];exact hj)];simp
  ·rw[ai hpj,yU hj];have:j≠p:=fun e=>hpj e.symm;simp[this]
 ·rw[List.getElem?_eq_none (by simp[oz];omega),List.getElem?_eq_none (by simp[oz];omega)]
theorem dK.at{S:Nat->Prop}{B n:Nat}{iv:Iv}{w:World}{qs:List Rat}{ax:Option Addr}{cx:Nat}(h:dK w S B iv (.slice ax n cx) n qs)(h0:0<n):∃g,ax=some ⟨g,0,none⟩:=by
 obtain⟨css,h1,h2,h3⟩:=h.row;rcases h1.2 with⟨_,h0⟩|⟨g,cap,cur,e,_⟩
 ·omega
 ·injection e with e;exact⟨g,e⟩
set_option maxHeartbeats 2000000 in
theorem CW{C S:Nat->Prop}{w:World}{v:Value}{M:List (List Rat)}{n h:Nat}(hC:Old C w)(hS:Old S w)(hM:lO w C S v M)(hlen:qo n M)(hn0:0<n)(hn:n<=1000)(hR:M.length<=1000)(hB:tG M n h)(hAb:Ht (dF M n).1 h)(hh:3*h<=90000):
  dQ PG N.iM #[.agg #[v,.int .i64 n]] w (dU w fun v' w2=>cI w2 (Nw (fun _=>False) w w2) v' (tU M n)):=by
 have hw:cF w.heap.size w w:=cF.refl;obtain⟨am,cm,rfl,hcm,hmm⟩:=lO.shape hM;unfold maxLen at hmm;obtain⟨f1,f2,f3,f4,f5⟩:=oM n hlen;refine kY (by simp) ?_;conv=>whnf
 unfold tU;generalize hA:(dF M n).1=A at*
 generalize hP:(dF M n).2.1=pv at*
 refine bp (cA (Φ:=fun _ w' v w2=>∃vr vp vf,v= .agg #[vr,.int .i64 n,vp,vf]∧cI w2 (Nw S w' w2) vr A∧dL w2 (Nw (fun _=>False) w' w2) vp pv∧dL w2 (Nw (fun _=>False) w' w2) vf (dF M n).2.2) (fun ρ w' r=>by
  rw[<-hA,<-hP];obtain⟨rv,m1,m2,m3⟩:=hM
  exact nS (C:=C) (S:=S) (fun g hg=>by have:=hC g hg;have:=r.bm;omega) (fun g hg=>by have:=hS g hg;have:=r.bm;omega) ⟨rv,m1.bu fun g hg=>(hw.tr r.bs).block g (hC g hg),m2,fun i u x h1 h2=>cB.bu (m3 i u x h1 h2) fun g hg=>(hw.tr r.bs).block g (hS g hg)⟩ hlen hn0 hn hR (aI _) hB hh) ?_)
 rintro ρ wa1 v1 wb1 r he hb1 ⟨vr,vp,vf,rfl,k1,k2,k3⟩;replace hw:=hw.tr hb1;have hR:=cI.old (cI.bz k1 fun g hg=>hg.imp (fun h=>(Or.inl h:Cv S w.heap.size [] g)) id) r.bm;have hV:=dL.cQ (S:=fun _=>False) k2 r.bm (iv:=(wa1.heap.size,wb1.heap.size)::[]) aH;have hX:=dL.cQ (S:=fun _=>False) k3 r.bm (iv:=(wa1.heap.size,wb1.heap.size)::[]) aH;clear r he hb1 k1 k2 k3;generalize (wa1.heap.size,wb1.heap.size)::[]=iv1 at*
 obtain⟨ar,cr,rfl,hcr,hmr⟩:=dS.shape hR;obtain⟨ap,cp,rfl,hcp,hmp⟩:=dL.shape hV;obtain⟨af,cf,rfl,-,-⟩:=dL.shape hX;clear hX;conv=>whnf
 refine⟨n,n,rfl,rfl,aI _,by omega,by omega,?_⟩;conv=>whnf
 refine⟨Nat×World×Iv,fun z=>⟨[(1,.o (.p 0 0)),(3,.o (.p 1 0)),(4,.o (.s 2 0 n n)),(20,.o (.v (.slice ap pv.length cp))),(21,.o (.v (.int .i64 pv.length))),(22,.o (.v (.int .i64 ((z.1:Nat):Int))))],[(2,.arr T.bool (oz pv n z.1)),(1,.box T.db [.v (.slice ar A.length cr),.v (.int .i64 n),.v (.slice ap pv.length cp),.v (.slice af (dF M n).2.2.length cf)]),(0,.box T.dW [.v (.slice am M.length cm),.v (.int .i64 n)])],3,z.2.2,z.2.1⟩,fun z=>pv.length-z.1,
  fun z=>z.1<=pv.length∧cF w.heap.size w z.2.1∧cI z.2.1 (Cv S w.heap.size z.2.2) (.slice ar A.length cr) A∧dL z.2.1 (Cv (fun _=>False) w.heap.size z.2.2) (.slice ap pv.length cp) pv,?_,?_⟩
 ·intro ρ w' r3;exact⟨(0,w',_),⟨aO _,hw.tr r3.bs,cI.rel hR r3 hS,dL.rel hV r3 (bl w)⟩,Sub.gen [] r3 ⟨by dsimp only;rw[CU];rfl,rfl,rfl,trivial⟩ ⟨rfl,rfl,rfl,rfl,rfl,rfl,trivial⟩ (by simp[cY,cN.scopd,At.sc]) (by simp[cO,SV.sc,At.sc]) (by rfl) (fun lo hi h=>h)⟩
 clear hw hR hV;rintro⟨i,w1,iv⟩ ⟨hi,hw,hR,hV⟩;dsimp only at hi hw hR hV ⊢;conv=>whnf
 refine cW.mk (fun hib=>?_) (fun hib=>?_)
 ·have hib:i<pv.length:=by simpa using hib
  obtain⟨p,hp⟩:∃p,pv[i]? =some p:=⟨_,aA hib⟩
  have hpc:=f4 p (aD hp);obtain⟨adp,hap,kp1,kp2⟩:=hV.at hp;conv=>whnf
  refine⟨adp,hap,⟨by omega,by omega⟩,?_⟩;conv=>whnf
  refine⟨.int .i64 (p:Int),fun ρ w' r=>?_,?_⟩
  ·rw[aB,bo (w:=w1) (w2:=w') (by rw[cC];exact Rel.same r (bl w) kp1)];exact kp2
  conv=>whnf
  refine⟨⟨by omega,by omega⟩,?_⟩;conv=>whnf
  refine⟨by simp[oz];omega,oz pv n (i+1),?_,?_⟩
  ·rw[aB,aR,aP,<-CV hp];exact iC (by simp[oz];omega)
  conv=>whnf
  refine⟨((i+1:Nat):Int),by rw[wrap64]<;>omega,?_⟩;conv=>whnf
  intro ρ3 w3 r3;exact⟨(i+1,w3,_),⟨hib,hw.tr r3.bs,cI.rel hR r3 hS,dL.rel hV r3 (bl w)⟩,Sub.gen [] r3 ⟨rfl,rfl,rfl,trivial⟩ ⟨rfl,rfl,rfl,rfl,rfl,rfl,trivial⟩ (by simp[cY,cN.scopd,At.sc]) (by simp[cO,SV.sc,At.sc]) (by rfl) (fun lo hi h=>h),by dsimp only;omega⟩
 have hib:i=pv.length:=aM hi (by simpa using hib);subst hib;conv=>whnf
 refine⟨Nat×List Value×World×Iv,fun z=>⟨[(32,.o (.v (.int .i64 ((z.1:Nat):Int)))),(7,.o (.w 3 z.2.1.length)),(1,.o (.p 0 0)),(3,.o (.p 1 0)),(4,.o (.s 2 0 n n)),(31,.o (.v (.int .i64 n)))],[(2,.arr T.bool (oz pv n pv.length)),(3,.vec T.gX 1 z.2.1),(1,.box T.db [.v (.slice ar A.length cr),.v (.int .i64 n),.v (.slice ap pv.length cp),.v (.slice af (dF M n).2.2.length cf)]),(0,.box T.dW [.v (.slice am M.length cm),.v (.int .i64 n)])],4,z.2.2.2,z.2.2.1⟩,fun z=>n-z.1,
  fun z=>z.1<=n∧cF w.heap.size w z.2.2.1∧cI z.2.2.1 (Cv S w.heap.size z.2.2.2) (.slice ar A.length cr) A∧dL z.2.2.1 (Cv (fun _=>False) w.heap.size z.2.2.2) (.slice ap pv.length cp) pv∧dP z.2.2.1 (Cv (fun _=>False) w.heap.size z.2.2.2) z.2.1 (eY A pv n z.1),?_,?_⟩
 ·intro ρ w' r;exact⟨(0,[],w',_),⟨aO _,hw.tr r.bs,cI.rel hR r hS,dL.rel hV r (bl w),by simp[dP,eY]⟩,Sub.nil 7 T.gX 1 rfl (by simp[cO,SV.sc,At.sc]) r fun ρ1 r1=>Sub.gen [] r1 ⟨rfl,rfl,rfl,rfl,trivial⟩ ⟨rfl,rfl,rfl,rfl,rfl,rfl,trivial⟩ (by simp[cY,cN.scopd,At.sc]) (by simp[cO,SV.sc,At.sc]) (by rfl) (fun lo hi h=>h)⟩
 clear hw hR hV;rintro⟨c,rv,w1,iv⟩ ⟨hc,hw,hR,hV,hK⟩;dsimp only at hc hw hR hV hK ⊢;have hrl:rv.length=(eY A pv n c).length:=hK.1;have hrc:=zq A pv n c;conv=>whnf
 refine cW.mk (fun hcb=>?_) (fun hcb=>?_)
 ·have hcb:c<n:=by simpa using hcb
  conv=>whnf
  refine⟨⟨by omega,by omega⟩,?_⟩;conv=>whnf
  refine⟨.bool (decide (c∈pv)),by rw[aB,aR,aP,yU hcb,ah],?_⟩;conv=>whnf
  refine cW.mk (fun hm=>?_) (fun hm=>?_)
  ·have hm:c∈pv:=by simpa using hm
   conv=>whnf
   refine⟨((c+1:Nat):Int),by rw[wrap64]<;>omega,?_⟩;conv=>whnf
   intro ρ3 w3 r3;exact⟨(c+1,rv,w3,_),⟨hcb,hw.tr r3.bs,cI.rel hR r3 hS,dL.rel hV r3 (bl w),by dsimp only;rw[zt hm];exact hK.rel r3 (bl w)⟩,Sub.gen [] r3 ⟨rfl,rfl,rfl,rfl,trivial⟩ ⟨rfl,rfl,rfl,rfl,rfl,rfl,trivial⟩ (by simp[cY,cN.scopd,At.sc]) (by simp[cO,SV.sc,At.sc]) (by rfl) (fun lo hi h=>h),by dsimp only;omega⟩
  have hm:c∉pv:=by simpa using hm
  conv=>whnf
  refine bp (cA (Φ:=fun _ w' v w2=>dK w2 (fun _=>False) w'.heap.size [(w'.heap.size,w2.heap.size)] v n (List.replicate n 0)) (fun ρ w' r=>zk n w' (by omega)) ?_);rintro ρ wa2 v2 wb2 r he hb1 hn2;replace hw:=hw.tr hb1;replace hR:=cI.bz (S':=Bs S w.heap.size ((wa2.heap.size,wb2.heap.size)::iv) v2) (cI.bu (cI.rel hR r hS) fun g hg=>he.block g (Rel.old r hS g hg)) fun g hg=>Bs.of r hS (fun x hx=>aC _ hx) hn2 hg;replace hV:=dL.bz (S':=Bs (fun _=>False) w.heap.size ((wa2.heap.size,wb2.heap.size)::iv) v2) (dL.bu (dL.rel hV r (bl w)) fun g hg=>he.block g (Rel.old r (bl w) g hg)) fun g hg=>Bs.of r (bl w) (fun x hx=>aC _ hx) hn2 hg;replace hK:=dP.bz (S':=Bs (fun _=>False) w.heap.size ((wa2.heap.size,wb2.heap.size)::iv) v2) (dP.bu (dP.rel hK r (bl w)) fun g hg=>he.block g (Rel.old r (bl w) g hg)) fun g hg=>Bs.of r (bl w) (fun x hx=>aC _ hx) hn2 hg;have hX:=hn2.cQ (S:=fun _=>False) r.bm (iv:=(wa2.heap.size,wb2.heap.size)::iv) aH;clear r he hb1 hn2;generalize (wa2.heap.size,wb2.heap.size)::iv=iv2 at*
  obtain⟨ax,cx,rfl,hcx⟩:=hX.row.form;obtain⟨gx,rfl⟩:=hX.at hn0;conv=>whnf
  refine bp (cA (Φ:=fun _ w' v w2=>cH w2 (Nw (fun _=>False) w' w2) v ((1:Int):Rat)) (fun ρ w' r=>iQ 1 w' (by decide) (by decide)) ?_);rintro ρ wa3 v3 wb3 r he hb1 hn2;replace hw:=hw.tr hb1;replace hR:=cI.bz (S':=Bs S w.heap.size ((wa3.heap.size,wb3.heap.size)::iv2) (.slice (some ⟨gx,0,none⟩) n cx)) (cI.bu (cI.bu hR (Bs.same r hS)) fun g hg=>he.block g (Rel.old r hS g hg.1)) fun g hg=>Bs.mono (fun x hx=>aC _ hx) hg;replace hV:=dL.bz (S':=Bs (fun _=>False) w.heap.size ((wa3.heap.size,wb3.heap.size)::iv2) (.slice (some ⟨gx,0,none⟩) n cx)) (dL.bu (dL.bu hV (Bs.same r (bl w))) fun g hg=>he.block g (Rel.old r (bl w) g hg.1)) fun g hg=>Bs.mono (fun x hx=>aC _ hx) hg;replace hK:=dP.bz (S':=Bs (fun _=>False) w.heap.size ((wa3.heap.size,wb3.heap.size)::iv2) (.slice (some ⟨gx,0,none⟩) n cx)) (dP.bu (dP.bu hK (Bs.same r (bl w))) fun g hg=>he.block g (Rel.old r (bl w) g hg.1)) fun g hg=>Bs.mono (fun x hx=>aC _ hx) hg;have hd:=(hn2.bz (S':=Bs (fun _=>False) w.heap.size ((wa3.heap.size,wb3.heap.size)::iv2) (.slice (some ⟨gx,0,none⟩) n cx)) fun g hg=>hg.elim (fun h=>h.elim) fun h=>⟨.inr ⟨by have:=r.bm;omega,_,_,aH,h.1,h.2⟩,fun e=>by have:=Rel.old r (bl w) g (hX.new g e);omega⟩)
  replace hX:=hX.bq (iv':=(wa3.heap.size,wb3.heap.size)::iv2) r (bl w) he fun x hx=>aC _ hx;clear r he hb1 hn2;generalize (wa3.heap.size,wb3.heap.size)::iv2=iv3 at*
  obtain⟨s3_0,s3_1,s3_2,s3_3,s3_4,s3_5,s3_6,s3_7,rfl⟩:=hd.shape;conv=>whnf
  refine⟨⟨gx,0,none⟩,rfl,⟨by omega,by omega⟩,?_⟩;conv=>whnf
  intro ρ w' r;obtain⟨g,hg,h1,h2,h3,h4,h5⟩:=(hX.rel r (bl w)).store (j:=c) hcb (hd.bu (Bs.same r (bl w))) r (bl w);injection hg with hg;injection hg with hg;subst hg;refine⟨h1,h2,h3,fun w5 hw5=>?_⟩;obtain⟨k1,k2,k3⟩:=h5 w5 hw5;have hw2:cF w.heap.size w w5:=(hw.tr r.bs).tr (cF.grown k2 (fun g e=>by injection e with e;subst e;exact h4.elim (fun h=>h.elim) fun h=>h.1) r.bm);have hR2:=cI.bu hR (Bs.kept r hS k2 fun g e=>e);have hV2:=dL.bu hV (Bs.kept r (bl w) k2 fun g e=>e);have hK2:=dP.bu hK (Bs.kept r (bl w) k2 fun g e=>e);have hnext:(List.replicate n (0:Rat)).set c ((1:Int):Rat)=kD A pv n c 0:=rfl;rw[hnext]at k1;clear hX hR hV hK hw h1 h2 h3 h4 h5 hw5 k2 k3 r hd;conv=>whnf
  refine⟨Nat×World×Iv,fun z=>⟨[(49,.o (.v (.int .i64 ((z.1:Nat):Int)))),(8,.o (.v (.int .i64 ((c:Nat):Int)))),(9,.o (.v (.slice (some ⟨gx,0,none⟩) n cx))),(32,.o (.v (.int .i64 ((c:Nat):Int)))),(47,.o (.v (.slice ap pv.length cp))),(48,.o (.v (.int .i64 pv.length))),(7,.o (.w 3 rv.length)),(1,.o (.p 0 0)),(3,.o (.p 1 0)),(4,.o (.s 2 0 n n)),(31,.o (.v (.int .i64 n)))],[(2,.arr T.bool (oz pv n pv.length)),(3,.vec T.gX 1 rv),(1,.box T.db [.v (.slice ar A.length cr),.v (.int .i64 n),.v (.slice ap pv.length cp),.v (.slice af (dF M n).2.2.length cf)]),(0,.box T.dW [.v (.slice am M.length cm),.v (.int .i64 n)])],4,z.2.2,z.2.1⟩,fun z=>pv.length-z.1,
   fun z=>z.1<=pv.length∧cF w.heap.size w z.2.1∧cI z.2.1 (Bs S w.heap.size z.2.2 (.slice (some ⟨gx,0,none⟩) n cx)) (.slice ar A.length cr) A∧dL z.2.1 (Bs (fun _=>False) w.heap.size z.2.2 (.slice (some ⟨gx,0,none⟩) n cx)) (.slice ap pv.length cp) pv∧dP z.2.1 (Bs (fun _=>False) w.heap.size z.2.2 (.slice (some ⟨gx,0,none⟩) n cx)) rv (eY A pv n c)∧dK z.2.1 (fun _=>False) w.heap.size z.2.2 (.slice (some ⟨gx,0,none⟩) n cx) n (kD A pv n c z.1),?_,?_⟩
  ·intro ρ w' r3;exact⟨(0,w',_),⟨aO _,hw2.tr r3.bs,cI.bu hR2 (Bs.same r3 hS),dL.bu hV2 (Bs.same r3 (bl w)),dP.bu hK2 (Bs.same r3 (bl w)),k1.rel r3 (bl w)⟩,Sub.gen [] r3 ⟨rfl,rfl,rfl,rfl,trivial⟩ ⟨rfl,rfl,rfl,rfl,rfl,rfl,rfl,rfl,rfl,rfl,rfl,trivial⟩ (by simp[cY,cN.scopd,At.sc]) (by simp[cO,SV.sc,At.sc]) (by rfl) (fun lo hi h=>h)⟩
  clear hw2 hR2 hV2 hK2 k1;rintro⟨k,w3,iv⟩ ⟨hk,hw,hR,hV,hK,hX⟩;dsimp only at hk hw hR hV hK hX ⊢;conv=>whnf
  refine cW.mk (fun hkb=>?_) (fun hkb=>?_)
  ·have hkb:k<pv.length:=by simpa using hkb
   obtain⟨p,hp⟩:∃p,pv[k]? =some p:=⟨_,aA hkb⟩
   have hpc:=f4 p (aD hp);obtain⟨adp,hap,kp1,kp2⟩:=hV.at hp;obtain⟨x,hx⟩:∃x,A[k]? =some x:=⟨_,aA (by omega)⟩
   have hxl:=f3 x (aD hx);obtain⟨q,hq⟩:∃q,x[c]? =some q:=⟨_,aA (by omega)⟩
   have hat:l0 A k c=q:=by simp[l0,List.getD,hx,hq]
   have hql:=hAb x (aD hx) q (aD hq);obtain⟨adm,um,ham,hRm,km1,km2⟩:=dS.load hR hx;obtain⟨a0,c0,rfl,hc0,-⟩:=cd.shape hRm;obtain⟨adq,cs,haq,hF,_,hl⟩:=cd.load hRm hq;obtain⟨g0,g1,g2,g3,g4,g5,g6,g7,rfl,hF⟩:=hF;conv=>whnf
   refine⟨adp,hap,⟨by omega,by omega⟩,?_⟩;conv=>whnf
   refine⟨.int .i64 (p:Int),fun ρ w' r=>?_,?_⟩
   ·rw[aB,bo (w:=w3) (w2:=w') (by rw[cC];exact Rel.same r (bl w) kp1.1)];exact kp2
   conv=>whnf
   refine⟨adm,ham,⟨by omega,by omega⟩,?_⟩;conv=>whnf
   refine⟨.slice a0 x.length c0,fun ρ w' r=>?_,?_⟩
   ·rw[aB,bo (w:=w3) (w2:=w') (by rw[cC];exact Rel.same r hS km1.1)];exact km2
   conv=>whnf
   refine⟨adq,haq,⟨by omega,by omega⟩,?_⟩;conv=>whnf
   refine⟨[.bool g0,.slice g1 g2 g3,.bool g4,.slice g5 g6 g7],rfl,fun ρ w' r j u hu=>?_,?_⟩
   ·obtain⟨k1,k2⟩:=hl j u hu;rw[aB,bo (w:=w3) (w2:=w') (by rw[cC,cC];exact Rel.same r hS k1.1)];exact k2
   conv=>whnf
   refine bp (cA (Φ:=fun _ w' v w2=>cH w2 (Nw (fun _=>False) w' w2) v (-q)) (fun ρ w' r=>Fg (S:=Bs S w.heap.size iv (.slice (some ⟨gx,0,none⟩) n cx)) (fun g hg=>Rel.old r hS g hg.1) ((hF.bu (Bs.same r hS)).l (by omega))) ?_);rintro ρ wa4 v4 wb4 r he hb1 hn2;clear hF hl;replace hw:=hw.tr hb1;replace hR:=cI.bz (S':=Bs S w.heap.size ((wa4.heap.size,wb4.heap.size)::iv) (.slice (some ⟨gx,0,none⟩) n cx)) (cI.bu (cI.bu hR (Bs.same r hS)) fun g hg=>he.block g (Rel.old r hS g hg.1)) fun g hg=>Bs.mono (fun x hx=>aC _ hx) hg;replace hV:=dL.bz (S':=Bs (fun _=>False) w.heap.size ((wa4.heap.size,wb4.heap.size)::iv) (.slice (some ⟨gx,0,none⟩) n cx)) (dL.bu (dL.bu hV (Bs.same r (bl w))) fun g hg=>he.block g (Rel.old r (bl w) g hg.1)) fun g hg=>Bs.mono (fun x hx=>aC _ hx) hg;replace hK:=dP.bz (S':=Bs (fun _=>False) w.heap.size ((wa4.heap.size,wb4.heap.size)::iv) (.slice (some ⟨gx,0,none⟩) n cx)) (dP.bu (dP.bu hK (Bs.same r (bl w))) fun g hg=>he.block g (Rel.old r (bl w) g hg.1)) fun g hg=>Bs.mono (fun x hx=>aC _ hx) hg;have hd:=(hn2.bz (S':=Bs (fun _=>False) w.heap.size ((wa4.heap.size,wb4.heap.size)::iv) (.slice (some ⟨gx,0,none⟩) n cx)) fun g hg=>hg.elim (fun h=>h.elim) fun h=>⟨.inr ⟨by have:=r.bm;omega,_,_,aH,h.1,h.2⟩,fun e=>by have:=Rel.old r (bl w) g (hX.new g e);omega⟩)
   replace hX:=hX.bq (iv':=(wa4.heap.size,wb4.heap.size)::iv) r (bl w) he fun x hx=>aC _ hx;clear r he hb1 hn2;generalize (wa4.heap.size,wb4.heap.size)::iv=iv4 at*
   obtain⟨s4_0,s4_1,s4_2,s4_3,s4_4,s4_5,s4_6,s4_7,rfl⟩:=hd.shape;conv=>whnf
   refine⟨⟨gx,0,none⟩,rfl,⟨by omega,by omega⟩,?_⟩;conv=>whnf
   intro ρ w' r;obtain⟨g,hg,h1,h2,h3,h4,h5⟩:=(hX.rel r (bl w)).store (j:=p) (by omega) (hd.bu (Bs.same r (bl w))) r (bl w);injection hg with hg;injection hg with hg;subst hg;refine⟨h1,h2,h3,fun w5 hw5=>?_⟩;obtain⟨k1,k2,k3⟩:=h5 w5 hw5;have hw2:cF w.heap.size w w5:=(hw.tr r.bs).tr (cF.grown k2 (fun g e=>by injection e with e;subst e;exact h4.elim (fun h=>h.elim) fun h=>h.1) r.bm);have hR2:=cI.bu hR (Bs.kept r hS k2 fun g e=>e);have hV2:=dL.bu hV (Bs.kept r (bl w) k2 fun g e=>e);have hK2:=dP.bu hK (Bs.kept r (bl w) k2 fun g e=>e);have hnext:(kD A pv n c k).set p (-q)=kD A pv n c (k+1):=by rw[zu,hat,List.getD,hp];rfl
   rw[hnext]at k1;clear hX hR hV hK hw h1 h2 h3 h4 h5 hw5 k2 k3 r hd;conv=>whnf
   refine⟨((k+1:Nat):Int),by rw[wrap64]<;>omega,?_⟩;conv=>whnf
   intro ρ3 w6 r3;exact⟨(k+1,w6,_),⟨hkb,hw2.tr r3.bs,cI.bu hR2 (Bs.same r3 hS),dL.bu hV2 (Bs.same r3 (bl w)),dP.bu hK2 (Bs.same r3 (bl w)),k1.rel r3 (bl w)⟩,Sub.gen [] r3 ⟨rfl,rfl,rfl,rfl,trivial⟩ ⟨rfl,rfl,rfl,rfl,rfl,rfl,rfl,rfl,rfl,rfl,rfl,trivial⟩ (by simp[cY,cN.scopd,At.sc]) (by simp[cO,SV.sc,At.sc]) (by rfl) (fun lo hi h=>h),by dsimp only;omega⟩
  have hkb:k=pv.length:=aM hk (by simpa using hkb);rw[hkb]at hX;replace hR:=cI.bz hR fun g hg=>hg.1;replace hV:=dL.bz hV fun g hg=>hg.1;replace hK:=(dP.bz hK fun g hg=>hg.1).push (u:=(.slice (some ⟨gx,0,none⟩) n cx)) (x:=kD A pv n c pv.length) rfl (by have:=hX.c;exact this);rw[<-yV hm]at hK;clear hX;conv=>whnf
  refine .inl ?_;conv=>whnf
  refine⟨by simp,by omega,by unfold maxLen;omega,?_⟩;conv=>whnf
  refine⟨((c+1:Nat):Int),by rw[wrap64]<;>omega,?_⟩;conv=>whnf
  intro ρ3 w3 r3;exact⟨(c+1,rv++[(.slice (some ⟨gx,0,none⟩) n cx)],w3,_),⟨hcb,hw.tr r3.bs,cI.rel hR r3 hS,dL.rel hV r3 (bl w),hK.rel r3 (bl w)⟩,Sub.gen [(3,5)] r3 ⟨rfl,rfl,rfl,rfl,trivial⟩ ⟨rfl,by dsimp only;rw[List.length_append,List.length_singleton];rfl,rfl,rfl,rfl,rfl,trivial⟩ (by simp[cY,cN.scopd,At.sc]) (by simp[cO,SV.sc,At.sc]) (by rfl) (fun lo hi h=>h),by dsimp only;omega⟩
 have hcb:c=n:=aM hc (by simpa using hcb);subst hcb;conv=>whnf
 intro ρe we re;refine⟨_,rfl,hw.tr re.bs,rv,?_,hK.1,fun i u x k1 k2=>cB.bz (cB.rel (hK.2.2 i u x k1 k2) re (bl w)) fun g hg=>Cv.nw hg re⟩;rw[<-hK.1];exact(re.gB (id:=3) (sz:=1) (m:=rv.length) rfl (by simp) (by unfold maxLen;omega) (by decide) hK.2.1).bz fun g hg=>.inr hg
structure gC(w:World)(S:Nat->Prop)(B:Nat)(iv:Iv)(v:Value)(n i:Nat)(qs:List Rat):Prop where
 row:∃css,w.ownsRow 0 T.Rat 4 v n css.flatten∧e8 w (Bs S B iv v) n i css qs
 new:∀g,v.ownBlock=some g->Cv (fun _=>False) B iv g
section
variable{S S':Nat->Prop}{H:Hp}{nx n i:Nat}{iv iv':Iv}{B:Nat}{w w' w2:World}{ρ:Nat->Sx.dN}{v:Value}{qs:List Rat}
theorem gC.bu(h:gC w S B iv v n i qs)(hk:∀g,Cv S B iv g->w2.heap[g]? =w.heap[g]?):gC w2 S B iv v n i qs:=by
 obtain⟨⟨css,h1,h2⟩,h3⟩:=h;exact⟨⟨css,ownsRow.bu h1 fun g hg=>hk g (ET (h3 g hg)),h2.bu fun g hg=>hk g hg.1⟩,h3⟩
theorem gC.rel(h:gC w S B iv v n i qs)(r:Rel H nx iv B w ρ w')(hS:∀g,S g->g<B):gC w' S B iv v n i qs:=h.bu fun _ hg=>Rel.same r hS hg
theorem gC.mono(h:gC w S B iv v n i qs)(hm:∀p,p∈iv->p∈iv'):gC w S B iv' v n i qs:=by
 obtain⟨⟨css,h1,h2⟩,h3⟩:=h;exact⟨⟨css,h1,h2.bz fun g hg=>hg.mono hm⟩,fun g hg=>(h3 g hg).mono hm⟩
theorem gC.bq(h:gC w S B iv v n i qs)(r:Rel H nx iv B w ρ w')(hS:∀g,S g->g<B)(he:Ext w' w2)(hm:∀p,p∈iv->p∈iv'):gC w2 S B iv' v n i qs:=
 ((h.rel r hS).bu fun g hg=>he.block g (Rel.old r hS g hg)).mono hm
theorem gC.oy(r:Rel H nx iv B w ρ w'){id:Nat}(h:cT H id=some (.arr T.Rat (List.replicate n [Value.bool false,.slice none 0 0,.bool false,.slice none 0 0]).flatten))(hn:n<=maxLen)(qs:List Rat):
  gC w' S B (((ρ id).g,(ρ id).g+1)::iv) (.slice (some ⟨(ρ id).g,0,none⟩) n n) n 0 qs:=by
 have hnil:=(r.fits h).1;have h4:∀cs∈List.replicate n [Value.bool false,.slice none 0 0,.bool false,.slice none 0 0],cs.length=4:=fun cs hc=>by rw[bF hc];rfl
 have hf:=eH h4;rw[bR]at hf;refine⟨⟨List.replicate n [.bool false,.slice none 0 0,.bool false,.slice none 0 0],⟨hf,.inr ⟨(ρ id).g,n,_,rfl,aO _,r.arr id _ _ h,aI _,hn,by simp,by rw[<-hf];exact ah⟩⟩,e8.start w' _ n qs⟩,fun g hg=>?_⟩;injection hg with hg;have hg:(ρ id).g=g:=hg;subst hg;exact .inr ⟨(r.low id _ h hnil).1,_,_,aH,aI _,bZ _⟩
theorem gC.store{a a1 a2:Option Addr}{c j n1 c1 n2 c2:Nat}{b b2:Bool}{q:Rat}(h:gC w S B iv (.slice a n c) n j qs)(hj:j<n)(hq:qs[j]? =some q)(hf:cH w (Bs S B iv (.slice a n c)) (.agg #[.bool b,.slice a1 n1 c1,.bool b2,.slice a2 n2 c2]) q)
  (r:Rel H nx iv B w ρ w') (hS:∀g,S g->g<B):
  ∃g,a=some ⟨g,0,none⟩∧((⟨g,0,none⟩:Addr).add ((j:Int).toNat*4)).spot=none∧
   (∀k,k<4->(w'.cell? (((⟨g,0,none⟩:Addr).add ((j:Int).toNat*4)).add k)).isSome=true∧w'.frozen? (((⟨g,0,none⟩:Addr).add ((j:Int).toNat*4)).add k)=false)∧
   (∀id b,cT H id=some b->(ρ id).nil=false->(ρ id).g≠((⟨g,0,none⟩:Addr).add ((j:Int).toNat*4)).block)∧
   ∀w2,w2=setCells w' ((⟨g,0,none⟩:Addr).add ((j:Int).toNat*4)) [.bool b,.slice a1 n1 c1,.bool b2,.slice a2 n2 c2]->gC w2 S B iv (.slice a n c) n (j+1) qs∧w'.grownBy w2 (some g)∧cF B w' w2∧Rel H nx iv B w2 ρ w2:=by
 obtain⟨⟨css,h1,h2⟩,h3⟩:=h.rel r hS;have hf:=hf.bu (Bs.same r hS);obtain⟨g,rfl,hok,hst,hgr,hsz⟩:=mL (nv:=[.bool b,.slice a1 n1 c1,.bool b2,.slice a2 n2 c2]) h1 rfl hj rfl (by decide);have had:(⟨g,0,none⟩:Addr).add ((j:Int).toNat*4)=⟨g,j*4,none⟩:=by rw[aB,dA,aP]
 have hnot:=Rel.not r (fQ B) (h3 g rfl);refine⟨g,rfl,by rw[had],fun k hk=>by rw[had];exact hok k hk,fun id b hb hn=>by rw[had];exact hnot id b hb hn,fun w2 hw2=>?_⟩;rw[had]at hw2;subst hw2;have hset:=gn (cs:=[.bool b,.slice a1 n1 c1,.bool b2,.slice a2 n2 c2]) h2.four (show j<css.length by rw[h2.len];exact hj);rw[hset]at hst;have hkeep:∀x,Bs S B iv (.slice (some ⟨g,0,none⟩) n c) x->(setCells w' ⟨g,j*4,none⟩ [.bool b,.slice a1 n1 c1,.bool b2,.slice a2 n2 c2]).heap[x]? =w'.heap[x]? :=fun x hx=>
  hgr.block x (Rel.old r hS x hx.1) fun e=>hx.2 e.symm
 refine⟨⟨⟨_,hst,(h2.bu hkeep).next hj hq (hf.bu hkeep)⟩,h3⟩,hgr,cF.grown hgr (fun x e=>by injection e with e;subst e;exact(h3 g rfl).elim (fun h=>h.elim) fun h=>h.1) r.bm,r.tz hnot hgr⟩
theorem gC.done(h:gC w S B iv v n n qs)(hl:qs.length=n):dK w S B iv v n qs:=by
 obtain⟨⟨css,h1,h2⟩,h3⟩:=h;exact⟨⟨css,h1,h2.len,by rw[h2.len,hl],fun j cs q k1 k2=>h2.at_ j cs q (by rw[<-hl];exact(aE.1 k2).1) k1 k2⟩,h3⟩
end
theorem gQ(M:List (List Rat))(n:Nat):(dR M n).length=n:=by simp[dR]
theorem CX{M:List (List Rat)}{n k:Nat}(h:k<n):(dR M n)[k]? =some (M.map fun r=>r.getD k 0):=by rw[dR,aN,List.getElem?_range h];rfl
set_option maxHeartbeats 1000000 in
theorem oN{C S:Nat->Prop}{w:World}{v:Value}{M:List (List Rat)}{n:Nat}(hC:Old C w)(hS:Old S w)(hM:lO w C S v M)(hlen:qo n M)(hn:n<=1000)(hR:M.length<=1000):
  dQ PG N.gO #[.agg #[v,.int .i64 n]] w (dU w fun v' w2=>∃vr,v'= .agg #[vr,.int .i64 M.length]∧cI w2 (Nw S w w2) vr (dR M n)):=by
 have hw:cF w.heap.size w w:=cF.refl;obtain⟨am,cm,rfl,hcm,hmm⟩:=lO.shape hM;unfold maxLen at hmm;refine jB (by simp) ?_;conv=>whnf
 refine⟨Nat×List Value×World×Iv,fun z=>⟨[(13,.o (.v (.int .i64 ((z.1:Nat):Int)))),(1,.o (.p 0 0)),(2,.o (.p 1 0)),(3,.o (.p 2 0)),(12,.o (.v (.int .i64 n)))],[(2,.box T.dW [.w 3 z.2.1.length,.v (.int .i64 M.length)]),(3,.vec T.gX 1 z.2.1),(1,.box T.dW [.v (.slice none 0 0),.v (.int .i64 0)]),(0,.box T.dW [.v (.slice am M.length cm),.v (.int .i64 n)])],4,z.2.2.2,z.2.2.1⟩,fun z=>n-z.1,
  fun z=>z.1<=n∧cF w.heap.size w z.2.2.1∧dP z.2.2.1 (Cv S w.heap.size z.2.2.2) z.2.1 ((dR M n).take z.1),?_,?_⟩
 ·intro ρ w' r;exact⟨(0,[],w',[]),⟨aO _,hw.tr r.bs,by simp[dP]⟩,Sub.yT 2 0 T.gX 1 rfl rfl (by simp[cO,SV.sc,At.sc,cJ]) r fun ρ1 r1=>Sub.gen [] r1 ⟨rfl,rfl,rfl,rfl,trivial⟩ ⟨rfl,rfl,rfl,rfl,rfl,trivial⟩ (by simp[cY,cN.scopd,At.sc]) (by simp[cO,SV.sc,At.sc]) (by rfl) (fun lo hi h=>h)⟩
 clear hw;rintro⟨k,rv,w1,iv⟩ ⟨hk,hw,hK⟩;dsimp only at hk hw hK ⊢;have hrl:rv.length=k:=by rw[hK.1,aW,gQ];omega
 conv=>whnf
 refine cW.mk (fun hkb=>?_) (fun hkb=>?_)
 ·have hkb:k<n:=by simpa using hkb
  have htk:=CX (M:=M) hkb;have hnext:(dR M n).take (k+1)=(dR M n).take k++[M.map fun r=>r.getD k 0]:=by rw[List.take_add_one,htk];rfl
  conv=>whnf
  refine⟨M.length,M.length,rfl,rfl,aI _,by omega,by omega,?_⟩;conv=>whnf
  refine⟨Nat×Nat×World×Iv,fun z=>⟨[(5,.o (.v (.slice (some ⟨z.2.1,0,none⟩) M.length M.length))),(4,.o (.v (.int .i64 ((k:Nat):Int)))),(13,.o (.v (.int .i64 ((k:Nat):Int)))),(22,.o (.v (.int .i64 M.length))),(23,.o (.v (.int .i64 ((z.1:Nat):Int)))),(1,.o (.p 0 0)),(2,.o (.p 1 0)),(3,.o (.p 2 0)),(12,.o (.v (.int .i64 n)))],[(2,.box T.dW [.w 3 rv.length,.v (.int .i64 M.length)]),(3,.vec T.gX 1 rv),(1,.box T.dW [.v (.slice none 0 0),.v (.int .i64 0)]),(0,.box T.dW [.v (.slice am M.length cm),.v (.int .i64 n)])],5,z.2.2.2,z.2.2.1⟩,fun z=>M.length-z.1,
   fun z=>z.1<=M.length∧cF w.heap.size w z.2.2.1∧dP z.2.2.1 (Bs S w.heap.size z.2.2.2 (.slice (some ⟨z.2.1,0,none⟩) M.length M.length)) rv ((dR M n).take k)∧gC z.2.2.1 S w.heap.size z.2.2.2 (.slice (some ⟨z.2.1,0,none⟩) M.length M.length) M.length z.1 (M.map fun r=>r.getD k 0),?_,?_⟩
  ·intro ρ w' r;have hf:=gC.oy (S:=S) (n:=M.length) r (id:=4) rfl (by unfold maxLen;omega) (M.map fun r=>r.getD k 0)
   exact⟨(0,(ρ 4).g,w',((ρ 4).g,(ρ 4).g+1)::iv),⟨aO _,hw.tr r.bs,dP.bz (hK.rel r hS) fun g hg=>⟨hg.mono fun p hp=>aC _ hp,fun e=>Rel.not r hS hg 4 _ rfl (r.fits (id:=4) rfl).1 (by injection e)⟩,hf⟩,
    Sub.oy r (id:=4) (t:=5) rfl rfl ⟨rfl,rfl,rfl,rfl,trivial⟩ rfl ⟨rfl,rfl,rfl,rfl,rfl,rfl,rfl,rfl,trivial⟩ (by simp[cO,SV.sc,At.sc])⟩
  clear hw hK;rintro⟨i,gx,w2,iv⟩ ⟨hi,hw,hK,hX⟩;dsimp only at hi hw hK hX ⊢;conv=>whnf
  refine cW.mk (fun hib=>?_) (fun hib=>?_)
  ·have hib:i<M.length:=by simpa using hib
   obtain⟨x,hx⟩:∃r,M[i]? =some r:=⟨_,aA hib⟩
   have hxl:=hlen x (aD hx);obtain⟨q,hq⟩:∃q,x[k]? =some q:=⟨_,aA (by omega)⟩
   have hqd:x.getD k 0=q:=by rw[List.getD,hq];rfl
   obtain⟨adm,um,ham,hRm,km1,km2⟩:=lO.load hM hx;obtain⟨a0,c0,rfl,hc0,-⟩:=cd.shape hRm;obtain⟨adq,cs,haq,hF,_,hl⟩:=cd.load hRm hq;obtain⟨g0,g1,g2,g3,g4,g5,g6,g7,rfl,hF⟩:=hF;conv=>whnf
   refine⟨adm,ham,⟨by omega,by omega⟩,?_⟩;conv=>whnf
   refine⟨.slice a0 x.length c0,fun ρ w' r=>?_,?_⟩
   ·rw[aB,bo (w:=w) (w2:=w') (by rw[cC];exact(hw.tr r.bs).block _ (hC _ km1))];exact km2
   conv=>whnf
   refine⟨adq,haq,⟨by omega,by omega⟩,?_⟩;conv=>whnf
   refine⟨[.bool g0,.slice g1 g2 g3,.bool g4,.slice g5 g6 g7],rfl,fun ρ w' r j u hu=>?_,?_⟩
   ·obtain⟨k1,k2⟩:=hl j u hu;rw[aB,bo (w:=w) (w2:=w') (by rw[cC,cC];exact(hw.tr r.bs).block _ (hS _ k1))];exact k2
   conv=>whnf
   refine⟨⟨gx,0,none⟩,rfl,⟨by omega,by omega⟩,?_⟩;conv=>whnf
   intro ρ w' r
   have hF2:cH w2 (Bs S w.heap.size iv (.slice (some ⟨gx,0,none⟩) M.length M.length)) (.agg #[.bool g0,.slice g1 g2 g3,.bool g4,.slice g5 g6 g7]) q:=(hF.bu fun g hg=>hw.block g (hS g hg)).bz fun g hg=>⟨.inl hg,fun e=>by
    have h1:=hS g hg;rcases hX.new g e with h2|⟨h2,_⟩
    ·exact h2
    ·omega⟩
   obtain⟨g,hg,h1,h2,h3,h4⟩:=hX.store (j:=i) hib (by rw[aN,hx,<-hqd];rfl) hF2 r hS;injection hg with hg;injection hg with hg;subst hg;refine⟨h1,h2,h3,fun w5 hw5=>?_⟩;obtain⟨k1,k2,k3,k4⟩:=h4 w5 hw5;have hw2:=(hw.tr r.bs).tr k3;have hK2:=dP.bu hK (Bs.kept r hS k2 fun g e=>e);clear hX hK hw h1 h2 h3 h4 hw5 k2 k3 k4 r hF hF2 hl;conv=>whnf
   refine⟨((i+1:Nat):Int),by rw[wrap64]<;>omega,?_⟩;conv=>whnf
   intro ρ3 w6 r3;exact⟨(i+1,gx,w6,_),⟨hib,hw2.tr r3.bs,dP.bu hK2 (Bs.same r3 hS),k1.rel r3 hS⟩,Sub.gen [] r3 ⟨rfl,rfl,rfl,rfl,trivial⟩ ⟨rfl,rfl,rfl,rfl,rfl,rfl,rfl,rfl,rfl,trivial⟩ (by simp[cY,cN.scopd,At.sc]) (by simp[cO,SV.sc,At.sc]) (by rfl) (fun lo hi h=>h),by dsimp only;omega⟩
  have hib:i=M.length:=aM hi (by simpa using hib);rw[hib]at hX;have hX2:=(hX.done (by simp)).c;replace hK:=(dP.bz hK fun g hg=>hg.1).push (u:=(.slice (some ⟨gx,0,none⟩) M.length M.length)) (x:=M.map fun r=>r.getD k 0) rfl hX2;rw[<-hnext]at hK;clear hX hX2;conv=>whnf
  refine .inl ?_;conv=>whnf
  refine⟨by simp,by omega,by unfold maxLen;omega,?_⟩;conv=>whnf
  refine⟨((k+1:Nat):Int),by rw[wrap64]<;>omega,?_⟩;conv=>whnf
  intro ρ3 w3 r3;exact⟨(k+1,rv++[(.slice (some ⟨gx,0,none⟩) M.length M.length)],w3,_),⟨hkb,hw.tr r3.bs,hK.rel r3 hS⟩,Sub.gen [(3,6)] r3 ⟨by dsimp only;rw[List.length_append,List.length_singleton];rfl,rfl,rfl,rfl,trivial⟩ ⟨rfl,rfl,rfl,rfl,rfl,trivial⟩ (by simp[cY,cN.scopd,At.sc]) (by simp[cO,SV.sc,At.sc]) (by rfl) (fun lo hi h=>h),by dsimp only;omega⟩
 have hkb:k=n:=aM hk (by simpa using hkb);rw[List.take_of_length_le (by rw[gQ];omega)]at hK;conv=>whnf
 intro ρe we re;refine⟨_,rfl,hw.tr re.bs,_,rfl,rv,?_,hK.1,fun i u x k1 k2=>cB.bz (cB.rel (hK.2.2 i u x k1 k2) re hS) fun g hg=>Cv.nw hg re⟩;rw[<-hK.1];exact(re.gB (id:=3) (sz:=1) (m:=rv.length) rfl (by simp) (by unfold maxLen;omega) (by decide) hK.2.1).bz fun g hg=>.inr hg
end Go.Ex
namespace Go.Ex
def mulR(M:List (List Rat))(n:Nat)(x:Nat->Rat)(j:Nat):Rat:=Ae (fun t=>l0 M j t*x t) n
section
variable{M:List (List Rat)}{n:Nat}{x:Nat->Rat}{b:List Rat}
abbrev GK(M:List (List Rat))(n:Nat):List (List Rat):=eY (B7 M n).1 (B7 M n).2 n n
end
end Go.Ex
namespace Go.Ex
open Go Go.Sx Go.Proofs
theorem rN{k:Nat}{css:List (List Value)}(h:∀cs∈css,cs.length=k):css.flatten.length=css.length*k:=by
 induction css with
 |nil=>simp
 |cons c r ih=>rw[List.flatten_cons,List.length_append,h c aH,ih fun x hx=>h x (aC _ hx),List.length_cons,Nat.succ_mul];omega
theorem rO{k:Nat}{css:List (List Value)}(h:∀cs∈css,cs.length=k){j:Nat}{cs:List Value}(hj:css[j]? =some cs)(i:Nat)(u:Value)(hu:cs[i]? =some u):css.flatten[j*k+i]? =some u:=by
 induction css generalizing j with
 |nil=>cases hj
 |cons c r ih=>
  have hc:=h c aH;have hi:=(aE.1 hu).1
  cases j with
  |zero=>
   injection hj with hj;subst hj;rw[List.flatten_cons,Nat.zero_mul,aP,aJ hi];exact hu
  |succ j=>
   rw[List.flatten_cons,aT (by rw[hc,Nat.succ_mul];omega),hc,show(j+1)*k+i-k=j*k+i by rw[Nat.succ_mul];omega];exact ih (fun x hx=>h x (aC _ hx)) hj
def df{α:Type}(k:Nat)(P:World->(Nat->Prop)->List Value->α->Prop)(w:World)(S:Nat->Prop)(v:Value)(xs:List α):Prop:=
 ∃css:List (List Value),gw w S k v css.flatten xs.length∧css.length=xs.length∧(∀cs∈css,cs.length=k)∧∀(j:Nat) cs x,css[j]? =some cs->xs[j]? =some x->P w S cs x
section
variable{α:Type}{k:Nat}{P:World->(Nat->Prop)->List Value->α->Prop}{w w2:World}{S S':Nat->Prop}{v:Value}{xs:List α}
theorem df.bu(hP:∀cs x,P w S cs x->P w2 S cs x)(h:df k P w S v xs)(hk:∀g,S g->w2.heap[g]? =w.heap[g]?):df k P w2 S v xs:=by
 obtain⟨css,h1,h2,h3,h4⟩:=h;exact⟨css,h1.bu hk,h2,h3,fun j cs x k1 k2=>hP cs x (h4 j cs x k1 k2)⟩
theorem df.bz(hP:∀cs x,P w S cs x->P w S' cs x)(h:df k P w S v xs)(hk:∀g,S g->S' g):df k P w S' v xs:=by
 obtain⟨css,h1,h2,h3,h4⟩:=h;exact⟨css,h1.bz hk,h2,h3,fun j cs x k1 k2=>hP cs x (h4 j cs x k1 k2)⟩
theorem df.shape(h:df k P w S v xs):∃a c,v= .slice a xs.length c∧xs.length<=c∧xs.length<=maxLen:=by
 obtain⟨css,⟨h0,_,_,a,c,h1,h2,_⟩,_⟩:=h;exact⟨a,c,h1,h2,h0⟩
theorem df.load{a:Option Addr}{m c j:Nat}{x:α}(hk:0<k)(h:df k P w S (.slice a m c) xs)(hq:xs[j]? =some x):
  ∃ad cs,a=some ad∧P w S cs x∧cs.length=k∧∀i u,cs[i]? =some u->S ad.block∧w.cell? ((ad.add (j*k)).add i)=some u:=by
 obtain⟨css,⟨h0,h1,h2,a',c',e,h3,h4⟩,hl,hl4,hf⟩:=h;injection e with e1 e2 e3;subst e1;obtain⟨cs,hcs⟩:∃cs,css[j]? =some cs:=⟨_,aA (by rw[hl];exact(aE.1 hq).1)⟩
 have hl:=hl4 cs (aD hcs);obtain⟨ad,k1,k2,k3⟩:=h4 (j*k+0) _ (rO hl4 hcs 0 _ (aA (show 0<cs.length by omega)));refine⟨ad,cs,k1,hf j cs x hcs hq,hl,fun i u hu=>?_⟩;obtain⟨ad2,m1,m2,m3⟩:=h4 (j*k+i) u (rO hl4 hcs i u hu);rw[k1]at m1;injection m1 with m1;subst m1;refine⟨m2,?_⟩;rw[<-m3];have:(ad.add (j*k)).add i=ad.add (j*k+i):=by
  unfold Addr.add;split<;>split<;>simp_all<;>omega
 rw[this]
end
def Bj(_w:World)(_S:Nat->Prop)(cs:List Value)(p:Int×Int×Int):Prop:=cs=[.int .i64 p.1,.int .i64 p.2.1,.int .i64 p.2.2]
def Bk(_w:World)(_S:Nat->Prop)(cs:List Value)(p:Ld):Prop:=cs=[.int .i64 p.1,.int .i64 p.2.1,.int .i64 p.2.2.1,.int .i64 p.2.2.2]
def yW(w:World)(S:Nat->Prop)(cs:List Value)(p:Int×Int×Rat):Prop:=∃b a n c b2 a2 n2 c2,cs=[.int .i64 p.1,.int .i64 p.2.1,.bool b,.slice a n c,.bool b2,.slice a2 n2 c2]∧dc w S (.agg #[.bool b,.slice a n c,.bool b2,.slice a2 n2 c2]) p.2.2
theorem yW.bu{w w2:World}{S:Nat->Prop}{cs:List Value}{p:Int×Int×Rat}(h:yW w S cs p)(hk:∀g,S g->w2.heap[g]? =w.heap[g]?):yW w2 S cs p:=by
 obtain⟨b,a,n,c,b2,a2,n2,c2,h1,h2⟩:=h;exact⟨b,a,n,c,b2,a2,n2,c2,h1,h2.bu hk⟩
theorem yW.bz{w:World}{S S':Nat->Prop}{cs:List Value}{p:Int×Int×Rat}(h:yW w S cs p)(hk:∀g,S g->S' g):yW w S' cs p:=by
 obtain⟨b,a,n,c,b2,a2,n2,c2,h1,h2⟩:=h;exact⟨b,a,n,c,b2,a2,n2,c2,h1,h2.bz hk⟩
abbrev kE:=df 3 Bj
abbrev eh:=df 4 Bk
abbrev D8:=df 6 yW
structure dE(w:World)(S:Nat->Prop)(vn vb vs:Value)(f:eX):Prop where
 nodes:kE w S vn f.nodes
 bars:D8 w S vb f.bars
 cG:D8 w S vs f.cG
section
variable{S S':Nat->Prop}{H:Hp}{nx:Nat}{iv iv':Iv}{B:Nat}{w w' w2:World}{ρ:Nat->Sx.dN}{v vn vb vs:Value}{f:eX}{l:List Ld}
theorem eh.bu(h:eh w S v l)(hk:∀g,S g->w2.heap[g]? =w.heap[g]?):eh w2 S v l:=df.bu (w:=w) (fun _ _ h=>h) h hk
theorem eh.bz(h:eh w S v l)(hk:∀g,S g->S' g):eh w S' v l:=df.bz (S:=S) (fun _ _ h=>h) h hk
theorem dE.bu(h:dE w S vn vb vs f)(hk:∀g,S g->w2.heap[g]? =w.heap[g]?):dE w2 S vn vb vs f:=
 ⟨df.bu (w:=w) (fun _ _ h=>h) h.nodes hk,df.bu (fun _ _ h=>h.bu hk) h.bars hk,df.bu (fun _ _ h=>h.bu hk) h.cG hk⟩
theorem dE.bz(h:dE w S vn vb vs f)(hk:∀g,S g->S' g):dE w S' vn vb vs f:=
 ⟨df.bz (S:=S) (fun _ _ h=>h) h.nodes hk,df.bz (fun _ _ h=>h.bz hk) h.bars hk,df.bz (fun _ _ h=>h.bz hk) h.cG hk⟩
theorem dE.rel(h:dE w (Cv S B iv) vn vb vs f)(r:Rel H nx iv B w ρ w')(hS:∀g,S g->g<B):dE w' (Cv S B iv) vn vb vs f:=h.bu fun _ hg=>Rel.same r hS hg
theorem dE.shape(h:dE w S vn vb vs f):∃an cn ab cb aq cs,vn= .slice an f.nodes.length cn∧vb= .slice ab f.bars.length cb∧vs= .slice aq f.cG.length cs∧f.nodes.length<=maxLen∧f.bars.length<=maxLen∧f.cG.length<=maxLen:=by
 obtain⟨an,cn,h1,_,h2⟩:=h.nodes.shape;obtain⟨ab,cb,h3,_,h4⟩:=h.bars.shape;obtain⟨aq,cs,h5,_,h6⟩:=h.cG.shape;exact⟨an,cn,ab,cb,aq,cs,h1,h3,h5,h2,h4,h6⟩
end
theorem vN{P:Program}{τ:kI}{B nx:Nat}{l:Env}{H:Hp}{iv:Iv}{w:World}(hτ:eS P τ){dst:Option Tmp}{t ty len e sz by_:Nat}{ag:Bool}{ze ze2:List Value}{ik ik2:IntKind}{b2 tag2 al2 e0:Nat}{fs fs2:List (Nat×Nat)}{x i:Operand}{pos:String}{after:Array Edge}{guard:Option (Nat×Bool)}{K:SV->Hp->Nat->Iv->World->Prop}{vx:SV}{cs:Array Value}{k:IntKind}{m:Int}{u:Value}
  (ht:τ t=some ⟨sz,ag,by_,ze,6,ik,e,len,fs⟩) (hte:τ e=some ⟨1,false,b2,ze2,tag2,ik2,e0,al2,fs2⟩) (hx:ev l x=some vx) (hxd:∀ρ,vx.den ρ= .agg cs) (hi:ev l i=some (.o (.v (.int k m)))) (hm:0<=m∧m<len) (hc:cs[m.toNat]? =some u)
  (hK:∀ρ w',Rel H nx iv B w ρ w'->K (.o (.v u)) H nx iv w'):tx P B ⟨dst,.index t x i,ty,pos,after,guard⟩ l H nx iv w K:=by
 have hto:=(hτ t _ ht).i6 rfl;have hteo:=hτ e _ hte;refine A8 hto (fun w=>hteo.sizeOf w) (fun w j v hv=>?_) hx hxd hi hm hc hK;simp[part,hteo.isAgg,hv]
structure fS(w:World)(B:Nat)(iv:Iv)(rv:List Value)(n:Nat)(M:List (List Int)):Prop where
 len:rv.length=M.length
 wid:∀l∈M,l.length=n
 row:∀(i:Nat) v l,rv[i]? =some v->M[i]? =some l->w.ownsRow 0 T.int 1 v n (l.map fun z=>.int .i64 z)
 AW:∀(i j:Nat) a b g,rv[i]? =some a->rv[j]? =some b->a.ownBlock=some g->b.ownBlock=some g->i=j
 new:∀g,Ob rv g->Cv (fun _=>False) B iv g
section
variable{H:Hp}{nx n:Nat}{iv iv':Iv}{B:Nat}{w w' w2:World}{ρ:Nat->Sx.dN}{rv:List Value}{M:List (List Int)}
theorem fS.nil:fS w B iv [] n []:=⟨rfl,fun l h=>(by cases h),fun i v l h=>(by cases h),fun i j a b g h=>(by cases h),fun g ⟨v,hv,_⟩=>by cases hv⟩
theorem fS.bu(h:fS w B iv rv n M)(hk:∀g,Cv (fun _=>False) B iv g->w2.heap[g]? =w.heap[g]?):fS w2 B iv rv n M:=
 ⟨h.len,h.wid,fun i v l h1 h2=>ownsRow.bu (h.row i v l h1 h2) fun g hg=>hk g (h.new g ⟨v,aD h1,hg⟩),h.AW,h.new⟩
theorem fS.rel(h:fS w B iv rv n M)(r:Rel H nx iv B w ρ w'):fS w' B iv rv n M:=h.bu fun _ hg=>Rel.same r (fQ B) hg
theorem fS.mono(h:fS w B iv rv n M)(hm:∀p,p∈iv->p∈iv'):fS w B iv' rv n M:=⟨h.len,h.wid,h.row,h.AW,fun g hg=>(h.new g hg).mono hm⟩
theorem fS.bq(h:fS w B iv rv n M)(r:Rel H nx iv B w ρ w')(he:Ext w' w2)(hm:∀p,p∈iv->p∈iv'):fS w2 B iv' rv n M:=
 ((h.rel r).bu fun g hg=>he.block g (Rel.old r (fQ B) g hg)).mono hm
theorem fS.form(hM:fS w B iv rv n M){i:Nat}{v:Value}(hv:rv[i]? =some v):∃a c,v= .slice a n c:=by
 obtain⟨l,hl⟩:∃l,M[i]? =some l:=⟨_,aA (by rw[<-hM.len];exact(aE.1 hv).1)⟩
 obtain⟨a,c,h,_⟩:=gp (hM.row i v l hv hl);exact⟨a,c,h⟩
theorem fS.one(hM:fS w B iv rv n M):∀u∈rv,u.oneCell'=true:=fun u hu=>by
 obtain⟨i,hi⟩:=aU hu;obtain⟨a,c,rfl⟩:=hM.form hi;rfl
theorem fS.load(hM:fS w B iv rv n M){i k:Nat}{a:Option Addr}{c:Nat}{l:List Int}{z:Int}(hv:rv[i]? =some (.slice a n c))(hl:M[i]? =some l)(hk:l[k]? =some z):
  ∃ad,a=some ad∧Cv (fun _=>False) B iv ad.block∧w.cell? (ad.add (k*1))=some (.int .i64 z):=by
 have h:=hM.row i _ l hv hl;have hlen:=hM.wid l (aD hl);rcases h.2 with⟨_,h0⟩|⟨g,cap,cur,e,_⟩
 ·have:=(aE.1 hk).1;omega
 ·injection e with e;refine⟨⟨g,0,none⟩,e,hM.new g ⟨_,aD hv,by rw[e];rfl⟩,?_⟩;have:=h.cells (g:=g) (by rw[e];rfl) k (.int .i64 z) (by rw[aN,hk];rfl);rw[aR];exact this
theorem fS.store(hM:fS w B iv rv n M)(r:Rel H nx iv B w ρ w'){i k:Nat}{a:Option Addr}{c:Nat}{l:List Int}{z:Int}(hv:rv[i]? =some (.slice a n c))(hl:M[i]? =some l)(hk:k<n):
  ∃g,a=some ⟨g,0,none⟩∧((⟨g,0,none⟩:Addr).add ((k:Int).toNat*1)).spot=none∧
   (∀j,j<1->(w'.cell? (((⟨g,0,none⟩:Addr).add ((k:Int).toNat*1)).add j)).isSome=true∧w'.frozen? (((⟨g,0,none⟩:Addr).add ((k:Int).toNat*1)).add j)=false)∧
   (∀id b,cT H id=some b->(ρ id).nil=false->(ρ id).g≠((⟨g,0,none⟩:Addr).add ((k:Int).toNat*1)).block)∧
   ∀w2,w2=setCells w' ((⟨g,0,none⟩:Addr).add ((k:Int).toNat*1)) [.int .i64 z]->fS w2 B iv rv n (M.set i (l.set k z))∧cF B w' w2∧Rel H nx iv B w2 ρ w2∧w'.grownBy w2 (some g)∧Ob rv g:=by
 have hMr:=hM.rel r;have h1:=hMr.row i _ l hv hl;have hlen:=hM.wid l (aD hl);obtain⟨g,rfl,hok,hst,hgr,hsz⟩:=mL (nv:=[.int .i64 z]) h1 rfl hk rfl (by decide);have hob:Ob rv g:=⟨_,aD hv,rfl⟩
 have had:(⟨g,0,none⟩:Addr).add ((k:Int).toNat*1)=⟨g,k*1,none⟩:=by rw[aB,dA,aP]
 have hnot:=Rel.not r (fQ B) (hM.new g hob);refine⟨g,rfl,by rw[had],fun j hj=>by rw[had];exact hok j hj,fun id b hb hn=>by rw[had];exact hnot id b hb hn,fun w2 hw2=>?_⟩;rw[had]at hw2;subst hw2;refine⟨⟨by rw[bC];exact hM.len,fun x hx=>?_,fun j v l2 h3 h4=>?_,hM.AW,hM.new⟩,cF.grown hgr (fun x e=>by injection e with e;subst e;exact(hM.new g hob).elim (fun h=>h.elim) fun h=>h.1) r.bm,r.tz hnot hgr,hgr,hob⟩
 ·rcases bS hx with hx|rfl
  ·exact hM.wid x hx
  ·rw[bC];exact hlen
 ·by_cases hij:i=j
  ·subst hij;rw[hv]at h3;injection h3 with h3;subst h3;rw[aZ (by rw[<-hM.len];exact(aE.1 hv).1)]at h4;injection h4 with h4;subst h4;rw[List.map_set,<-iC (by rw[aK];omega)];simp only[aR]at hst ⊢;exact hst
  ·rw[ai hij]at h4;refine ownsRow.bu (hMr.row j v l2 h3 h4) fun x hx=>hgr.block x ?_ fun e=>?_
   ·exact Rel.old r (fQ B) x (hM.new x ⟨v,aD h3,hx⟩)
   ·injection e with e;exact hij (hM.AW i j _ v x hv h3 (by rw[<-e];rfl) hx)
theorem fS.push(hM:fS w B iv rv n M){gx:Nat}{l:List Int}(hgx:∀g,Cv (fun _=>False) B iv g->g≠gx)(hBx:B<=gx)(hl:l.length=n)(hrow:w.ownsRow 0 T.int 1 (.slice (some ⟨gx,0,none⟩) n n) n (l.map fun z=>.int .i64 z)):
  fS w B ((gx,gx+1)::iv) (rv++[.slice (some ⟨gx,0,none⟩) n n]) n (M++[l]):=by
 have hob:∀g,Ob rv g->g≠gx:=fun g hg=>hgx g (hM.new g hg);have key:∀(k:Nat) v,(rv++[Value.slice (some ⟨gx,0,none⟩) n n])[k]? =some v->(k<rv.length∧rv[k]? =some v)∨(k=rv.length∧v= .slice (some ⟨gx,0,none⟩) n n):=fun k v hk=>by
  rcases bA k rv.length with hi|hi
  ·rw[aJ hi]at hk;exact .inl ⟨hi,hk⟩
  ·have hi0:k=rv.length:=by have:=(aE.1 hk).1;simp at this;omega
   rw[hi0,aT (aI _),bP]at hk;simp at hk;exact .inr ⟨hi0,hk.symm⟩
 refine⟨by simp[hM.len],fun x hx=>?_,fun i v x h1 h2=>?_,fun i j a b g h1 h2 h3 h4=>?_,fun g hg=>?_⟩
 ·rcases bT.1 hx with hx|hx
  ·exact hM.wid x hx
  ·rw[bB.1 hx];exact hl
 ·rcases key i v h1 with⟨hi,k1⟩|⟨e1,rfl⟩
  ·rw[aJ (by rw[<-hM.len];exact hi)]at h2;exact hM.row i v x k1 h2
  ·rw[e1,hM.len,aT (aI _),bP]at h2;simp at h2;subst h2;exact hrow
 ·rcases key i a h1 with⟨_,k1⟩|⟨e1,rfl⟩<;>rcases key j b h2 with⟨_,k2⟩|⟨e2,rfl⟩
  ·exact hM.AW i j a b g k1 k2 h3 h4
  ·injection h4 with h4;exact absurd h4.symm (hob g ⟨a,aD k1,h3⟩)
  ·injection h3 with h3;exact absurd h3.symm (hob g ⟨b,aD k2,h4⟩)
  ·rw[e1,e2]
 ·rcases Ob.append.1 hg with h|h
  ·exact(hM.new g h).mono fun p hp=>aC _ hp
  ·injection h with h;have h:gx=g:=h;subst h;exact .inr ⟨hBx,_,_,aH,aI _,bZ _⟩
end
def yq(w:World)(S:Nat->Prop)(v:Value)(l:List Int):Prop:=gw w S 1 v (l.map fun z=>.int .i64 z) l.length
abbrev kc:=dS yq
theorem yq.bu{w w2:World}{S:Nat->Prop}{v:Value}{l:List Int}(h:yq w S v l)(hk:∀g,S g->w2.heap[g]? =w.heap[g]?):yq w2 S v l:=gw.bu h hk
theorem yq.bz{w:World}{S S':Nat->Prop}{v:Value}{l:List Int}(h:yq w S v l)(hk:∀g,S g->S' g):yq w S' v l:=gw.bz h hk
theorem kc.bu{w w2:World}{S:Nat->Prop}{v:Value}{M:List (List Int)}(h:kc w S v M)(hk:∀g,S g->w2.heap[g]? =w.heap[g]?):kc w2 S v M:=by
 obtain⟨rv,h1,h2,h3⟩:=h;exact⟨rv,h1.bu hk,h2,fun i u x k1 k2=>(h3 i u x k1 k2).bu hk⟩
theorem kc.bz{w:World}{S S':Nat->Prop}{v:Value}{M:List (List Int)}(h:kc w S v M)(hk:∀g,S g->S' g):kc w S' v M:=by
 obtain⟨rv,h1,h2,h3⟩:=h;exact⟨rv,h1.bz hk,h2,fun i u x k1 k2=>(h3 i u x k1 k2).bz hk⟩
theorem yq.at{w:World}{S:Nat->Prop}{a:Option Addr}{m c j:Nat}{l:List Int}{z:Int}(h:yq w S (.slice a m c) l)(hj:l[j]? =some z):∃ad,a=some ad∧S ad.block∧w.cell? (ad.add (j*1))=some (.int .i64 z):=by
 obtain⟨h0,h1,h2,a',c',e,h3,h4⟩:=h;injection e with e1 e2 e3;subst e1;obtain⟨ad,k1,k2,k3⟩:=h4 j (.int .i64 z) (by rw[aN,hj];rfl);exact⟨ad,k1,k2,by rw[aR];exact k3⟩
theorem yq.shape{w:World}{S:Nat->Prop}{v:Value}{l:List Int}(h:yq w S v l):∃a c,v= .slice a l.length c∧l.length<=c∧l.length<=maxLen:=by
 obtain⟨h0,h1,h2,a,c,e,h3,h4⟩:=h;exact⟨a,c,e,h3,h0⟩
structure oO(f:eX):Prop where
 co:∀p∈f.nodes,(-1000000<=p.1∧p.1<=1000000)∧(-1000000<=p.2.1∧p.2.1<=1000000)∧(-1000000<=p.2.2∧p.2.2<=1000000)
 GB:∀b∈f.bars,(0<=b.1∧b.1<f.nodes.length)∧(0<=b.2.1∧b.2.1<f.nodes.length)
 sup:∀s∈f.cG,(0<=s.1∧s.1<f.nodes.length)∧(0<=s.2.1∧s.2.1<=2)
 n:f.nodes.length<=20
 b:f.bars.length<=60
 s:f.cG.length<=60
theorem oO.node{f:eX}(h:oO f){i:Int}(h0:0<=i)(h1:i<f.nodes.length):∃k:Nat,∃p,i=k∧k<f.nodes.length∧f.nodes[k]? =some p∧f.node i=p∧(-1000000<=p.1∧p.1<=1000000)∧(-1000000<=p.2.1∧p.2.1<=1000000)∧(-1000000<=p.2.2∧p.2.2<=1000000):=by
 obtain⟨k,rfl⟩:=Int.eq_ofNat_of_zero_le h0;have hk:k<f.nodes.length:=by omega
 refine⟨k,f.nodes[k],rfl,hk,aA hk,?_,h.co _ (List.getElem_mem hk)⟩;rw[eX.node,aB,List.getD,aA hk];rfl
theorem wQ{S:Nat->Prop}{w:World}{vn vb vs:Value}{f:eX}{a b:Int}{b3 b6:Bool}{a4 a7:Option Addr}{n4 c4 n7 c7:Nat}(hS:Old S w)(hn:kE w S vn f.nodes)(hok:oO f)(hA:0<=a∧a<f.nodes.length)(hB:0<=b∧b<f.nodes.length):
  dQ PG N.jR #[.agg #[vn,vb,vs],.agg #[.int .i64 a,.int .i64 b,.bool b3,.slice a4 n4 c4,.bool b6,.slice a7 n7 c7]] w (dU w fun v' _=>v'= .agg #[.int .i64 ((f.node b).1-(f.node a).1),.int .i64 ((f.node b).2.1-(f.node a).2.1),.int .i64 ((f.node b).2.2-(f.node a).2.2)]):=by
 have hw:cF w.heap.size w w:=cF.refl;obtain⟨an,cn,rfl,hcn,hmn⟩:=hn.shape;unfold maxLen at hmn;obtain⟨ka,pa,ea,hka,hpa,hna,⟨_,_⟩,⟨_,_⟩,⟨_,_⟩⟩:=hok.node hA.1 hA.2;obtain⟨kb,pb,eb,hkb,hpb,hnb,⟨_,_⟩,⟨_,_⟩,⟨_,_⟩⟩:=hok.node hB.1 hB.2;obtain⟨ada,csa,haa,hPa,-,hla⟩:=hn.load (by decide) hpa;obtain⟨adb,csb,hab,hPb,-,hlb⟩:=hn.load (by decide) hpb;have hPa:csa=[.int .i64 pa.1,.int .i64 pa.2.1,.int .i64 pa.2.2]:=hPa;have hPb:csb=[.int .i64 pb.1,.int .i64 pb.2.1,.int .i64 pb.2.2]:=hPb;subst hPa hPb;rw[hna,hnb];subst ea eb;refine lr (by simp) ?_;conv=>whnf
 refine gA hτ dH (.x 0 (.x 2 (.x 6 (.x 8 (.ld 1 49200 (.ld 3 49200 (.x 4 (.ld 5 49152 (.ld 7 35840 (.ld 9 35840 (.x 10 (.ld 11 32768 (.two 12 (.x 13 (.x 14 (.x 15 .nil))) 13 (.x 12 (.x 14 (.x 15 .nil)))))))))))))))) (by kernel_rfl) (by kernel_rfl) ?_;conv=>whnf
 refine⟨ada,haa,⟨by omega,by omega⟩,?_⟩;conv=>whnf
 refine⟨[.int .i64 pa.1,.int .i64 pa.2.1,.int .i64 pa.2.2],rfl,fun ρ w' r j u hu=>?_,?_⟩
 ·obtain⟨k1,k2⟩:=hla j u hu;rw[aB,bo (w:=w) (w2:=w') (by rw[cC,cC];exact(hw.tr r.bs).block _ (hS _ k1))];exact k2
 conv=>whnf
 refine⟨adb,hab,⟨by omega,by omega⟩,?_⟩;conv=>whnf
 refine⟨[.int .i64 pb.1,.int .i64 pb.2.1,.int .i64 pb.2.2],rfl,fun ρ w' r j u hu=>?_,?_⟩
 ·obtain⟨k1,k2⟩:=hlb j u hu;rw[aB,bo (w:=w) (w2:=w') (by rw[cC,cC];exact(hw.tr r.bs).block _ (hS _ k1))];exact k2
 conv=>whnf
 refine⟨?_,?_⟩
 ·conv=>whnf
  refine⟨[.int .i64 pb.1,.int .i64 pb.2.1,.int .i64 pb.2.2],rfl,fun ρ w' r j u hu=>?_,?_⟩
  ·obtain⟨k1,k2⟩:=hlb j u hu;rw[aB,bo (w:=w) (w2:=w') (by rw[cC,cC];exact(hw.tr r.bs).block _ (hS _ k1))];exact k2
  conv=>whnf
  refine⟨rfl,?_⟩;conv=>whnf
  refine⟨rfl,?_⟩;conv=>whnf
  refine⟨rfl,?_⟩;conv=>whnf
  refine⟨[.int .i64 pa.1,.int .i64 pa.2.1,.int .i64 pa.2.2],rfl,fun ρ w' r j u hu=>?_,?_⟩
  ·obtain⟨k1,k2⟩:=hla j u hu;rw[aB,bo (w:=w) (w2:=w') (by rw[cC,cC];exact(hw.tr r.bs).block _ (hS _ k1))];exact k2
  conv=>whnf
  refine⟨rfl,?_⟩;conv=>whnf
  refine⟨rfl,?_⟩;conv=>whnf
  refine⟨rfl,?_⟩;conv=>whnf
  refine⟨[.int .i64 pb.1,.int .i64 pb.2.1,.int .i64 pb.2.2],rfl,fun ρ w' r j u hu=>?_,?_⟩
  ·obtain⟨k1,k2⟩:=hlb j u hu;rw[aB,bo (w:=w) (w2:=w') (by rw[cC,cC];exact(hw.tr r.bs).block _ (hS _ k1))];exact k2
  conv=>whnf
  refine⟨rfl,?_⟩;conv=>whnf
  refine⟨rfl,?_⟩;conv=>whnf
  refine⟨rfl,?_⟩;conv=>whnf
  refine⟨[.int .i64 pa.1,.int .i64 pa.2.1,.int .i64 pa.2.2],rfl,fun ρ w' r j u hu=>?_,?_⟩
  ·obtain⟨k1,k2⟩:=hla j u hu;rw[aB,bo (w:=w) (w2:=w') (by rw[cC,cC];exact(hw.tr r.bs).block _ (hS _ k1))];exact k2
  conv=>whnf
  refine⟨rfl,?_⟩;conv=>whnf
  refine⟨rfl,?_⟩;conv=>whnf
  refine⟨rfl,?_⟩;conv=>whnf
  refine⟨[.int .i64 pb.1,.int .i64 pb.2.1,.int .i64 pb.2.2],rfl,fun ρ w' r j u hu=>?_,?_⟩
  ·obtain⟨k1,k2⟩:=hlb j u hu;rw[aB,bo (w:=w) (w2:=w') (by rw[cC,cC];exact(hw.tr r.bs).block _ (hS _ k1))];exact k2
  conv=>whnf
  refine⟨rfl,?_⟩;conv=>whnf
  refine⟨rfl,?_⟩;conv=>whnf
  refine⟨rfl,?_⟩;conv=>whnf
  refine⟨pb.1-pa.1,by rw[wrap64]<;>omega,?_⟩;conv=>whnf
  refine⟨pb.2.1-pa.2.1,by rw[wrap64]<;>omega,?_⟩;conv=>whnf
  refine⟨pb.2.2-pa.2.2,by rw[wrap64]<;>omega,?_⟩;conv=>whnf
  intro ρe we re;exact⟨_,rfl,hw.tr re.bs,rfl⟩
 ·conv=>whnf
  refine⟨[.int .i64 pb.1,.int .i64 pb.2.1,.int .i64 pb.2.2],rfl,fun ρ w' r j u hu=>?_,?_⟩
  ·obtain⟨k1,k2⟩:=hlb j u hu;rw[aB,bo (w:=w) (w2:=w') (by rw[cC,cC];exact(hw.tr r.bs).block _ (hS _ k1))];exact k2
  conv=>whnf
  refine⟨rfl,?_⟩;conv=>whnf
  refine⟨rfl,?_⟩;conv=>whnf
  refine⟨rfl,?_⟩;conv=>whnf
  refine⟨[.int .i64 pa.1,.int .i64 pa.2.1,.int .i64 pa.2.2],rfl,fun ρ w' r j u hu=>?_,?_⟩
  ·obtain⟨k1,k2⟩:=hla j u hu;rw[aB,bo (w:=w) (w2:=w') (by rw[cC,cC];exact(hw.tr r.bs).block _ (hS _ k1))];exact k2
  conv=>whnf
  refine⟨rfl,?_⟩;conv=>whnf
  refine⟨rfl,?_⟩;conv=>whnf
  refine⟨rfl,?_⟩;conv=>whnf
  refine⟨[.int .i64 pb.1,.int .i64 pb.2.1,.int .i64 pb.2.2],rfl,fun ρ w' r j u hu=>?_,?_⟩
  ·obtain⟨k1,k2⟩:=hlb j u hu;rw[aB,bo (w:=w) (w2:=w') (by rw[cC,cC];exact(hw.tr r.bs).block _ (hS _ k1))];exact k2
  conv=>whnf
  refine⟨rfl,?_⟩;conv=>whnf
  refine⟨rfl,?_⟩;conv=>whnf
  refine⟨rfl,?_⟩;conv=>whnf
  refine⟨[.int .i64 pa.1,.int .i64 pa.2.1,.int .i64 pa.2.2],rfl,fun ρ w' r j u hu=>?_,?_⟩
  ·obtain⟨k1,k2⟩:=hla j u hu;rw[aB,bo (w:=w) (w2:=w') (by rw[cC,cC];exact(hw.tr r.bs).block _ (hS _ k1))];exact k2
  conv=>whnf
  refine⟨rfl,?_⟩;conv=>whnf
  refine⟨rfl,?_⟩;conv=>whnf
  refine⟨rfl,?_⟩;conv=>whnf
  refine⟨[.int .i64 pb.1,.int .i64 pb.2.1,.int .i64 pb.2.2],rfl,fun ρ w' r j u hu=>?_,?_⟩
  ·obtain⟨k1,k2⟩:=hlb j u hu;rw[aB,bo (w:=w) (w2:=w') (by rw[cC,cC];exact(hw.tr r.bs).block _ (hS _ k1))];exact k2
  conv=>whnf
  refine⟨rfl,?_⟩;conv=>whnf
  refine⟨rfl,?_⟩;conv=>whnf
  refine⟨rfl,?_⟩;conv=>whnf
  refine⟨pb.1-pa.1,by rw[wrap64]<;>omega,?_⟩;conv=>whnf
  refine⟨pb.2.1-pa.2.1,by rw[wrap64]<;>omega,?_⟩;conv=>whnf
  refine⟨pb.2.2-pa.2.2,by rw[wrap64]<;>omega,?_⟩;conv=>whnf
  intro ρe we re;exact⟨_,rfl,hw.tr re.bs,rfl⟩
theorem D6{α:Type}{rv:List α}{a b:α}{i m:Nat}(hl:rv.length=i)(h:i<m):(rv++List.replicate (m-i) b).take i++[a]++(rv++List.replicate (m-i) b).drop (i+1)=(rv++[a])++List.replicate (m-(i+1)) b:=by
 rw[List.take_left' hl,List.drop_append,hl,List.drop_of_length_le (by omega),List.nil_append,List.drop_replicate];congr 2;omega
end Go.Ex
namespace Go.Sx
open Go Go.Ex Go.Proofs
theorem Rel.Ef{H:Hp}{nx:Nat}{iv:Iv}{B:Nat}{w w':World}{ρ:Nat->Sx.dN}(r:Rel H nx iv B w ρ w'){id t m sz:Nat}{cs:List Value}(h:cT H id=some (.arr t cs))(hm:cs.length=m*sz)(hm1:m<=maxLen)(h1:∀u∈cs,u.oneCell'=true):
  gw w' (fun g=>B<=g∧g<w'.heap.size) sz (.slice (some ⟨(ρ id).g,0,none⟩) m m) cs m:=by
 have hl:=r.low id _ h (r.fits h).1;refine⟨hm1,hm,h1,_,m,rfl,aI _,fun j u hu=>⟨_,rfl,hl,?_⟩⟩;rw[dA,cell_of (r.arr id _ _ h),aP];exact hu
end Go.Sx
namespace Go.Ex
open Go Go.Sx Go.Proofs
theorem xS{M:List (List Int)}{r c:Nat}{d:Int}:(pW M r c d).length=M.length:=bC ..
theorem CY{M:List (List Int)}{r c:Nat}{d:Int}:(putAt M r c d).length=M.length:=bC ..
def AX(M:List (List Int))(t:Int):Prop:=∀l∈M,∀z∈l,-t<=z∧z<=t
theorem AX.set{M:List (List Int)}{t t2:Int}{r c:Nat}{l:List Int}{z:Int}(h:AX M t)(ht:t<=t2)(hl:M[r]? =some l)(hz: -t2<=z∧z<=t2):AX (M.set r (l.set c z)) t2:=fun x hx y hy=>by
 rcases bS hx with hx|rfl
 ·have:=h x hx y hy;omega
 ·rcases bS hy with hy|rfl
  ·have:=h l (aD hl) y hy;omega
  ·exact hz
theorem zw(f:eX):∀i,(dD f i).length=3*f.nodes.length
 |0=>bR ..
 |i+1=>by
  have h:=zw f i;have key:∀k,(da f (dD f i) i k).length=3*f.nodes.length:=fun k=>by
   induction k with
   |zero=>exact h
   |succ k ih=>rw[da,xS,xS];exact ih
  exact key 3
theorem ke(f:eX):∀i,(eA f i).length=3*f.nodes.length
 |0=>zw f _
 |i+1=>by rw[eA,CY];exact ke f i
theorem D7{f:eX}{M:List (List Int)}{i k ka kb:Nat}{b:Int×Int×Rat}{d za zb:Int}{la lb:List Int}(hb:f.bars[i]? =some b)(ea:b.1=ka)(eb:b.2.1=kb)(hd:(oa f b).getD k 0=d)
  (hla:(da f M i k)[3*ka+k]? =some la) (hza:la[i]? =some za) (hlb:((da f M i k).set (3*ka+k) (la.set i (za+d)))[3*kb+k]? =some lb) (hzb:lb[i]? =some zb):
  ((da f M i k).set (3*ka+k) (la.set i (za+d))).set (3*kb+k) (lb.set i (zb-d))=da f M i (k+1):=by
 have h1:f.bars.getD i (0,0,0)=b:=by rw[List.getD,hb];rfl
 have e1:(3*b.1+(k:Int)).toNat=3*ka+k:=by rw[ea];omega
 have e2:(3*b.2.1+(k:Int)).toNat=3*kb+k:=by rw[eb];omega
 have ha:pW (da f M i k) (3*ka+k) i d=(da f M i k).set (3*ka+k) (la.set i (za+d)):=by
  rw[pW,show(da f M i k).getD (3*ka+k) []=la by rw[List.getD,hla];rfl,show la.getD i 0=za by rw[List.getD,hza];rfl]
 rw[da];simp only[h1,hd,e1,e2,ha]
 rw[pW,show((da f M i k).set (3*ka+k) (la.set i (za+d))).getD (3*kb+k) []=lb by rw[List.getD,hlb];rfl,show lb.getD i 0=zb by rw[List.getD,hzb];rfl,Int.sub_eq_add_neg]
theorem zx{f:eX}{i ks:Nat}{s:Int×Int×Rat}{l:List Int}(hs:f.cG[i]? =some s)(es:3*s.1+s.2.1=ks)(hl:(eA f i)[ks]? =some l):(eA f i).set ks (l.set (f.bars.length+i) 1)=eA f (i+1):=by
 rw[eA,putAt];simp only[show f.cG.getD i (0,0,0)=s by rw[List.getD,hs];rfl,es,aB,show(eA f i).getD ks []=l by rw[List.getD,hl];rfl]
set_option maxHeartbeats 2000000 in
theorem CZ{S:Nat->Prop}{w:World}{vn vb vs:Value}{f:eX}(hS:Old S w)(hf:dE w S vn vb vs f)(hok:oO f):
  dQ PG N.me #[.agg #[vn,vb,vs]] w (dU w fun v' w2=>kc w2 (Nw (fun _=>False) w w2) v' (fR f)∧AX (fR f) 800000000∧(∀l∈fR f,l.length=f.cols)∧(fR f).length=3*f.nodes.length):=by
 have hw:cF w.heap.size w w:=cF.refl;obtain⟨an,cn,ab,cb,aq,cq,rfl,rfl,rfl,hmn,hmb,hms⟩:=hf.shape;obtain⟨hn20,hb60,hs60⟩:=And.intro hok.n (And.intro hok.b hok.s);refine qJ (by simp) ?_;conv=>whnf
 refine⟨((3*f.nodes.length:Nat):Int),by rw[wrap64]<;>omega,?_⟩;conv=>whnf
 obtain⟨m,hm⟩:∃m,3*f.nodes.length=m:=⟨_,rfl⟩
 rw[hm];refine⟨m,m,rfl,rfl,aI _,by omega,by omega,?_⟩;conv=>whnf
 refine⟨Nat×List Value×World×Iv,fun z=>⟨[(1,.o (.p 0 0)),(3,.o (.s 1 0 m m)),(17,.o (.v (.int .i64 m))),(18,.o (.v (.int .i64 ((z.1:Nat):Int))))],[(1,.arr T.Lint (z.2.1++List.replicate (m-z.1) (.slice none 0 0))),(0,.box T.Frame [.v (.slice an f.nodes.length cn),.v (.slice ab f.bars.length cb),.v (.slice aq f.cG.length cq)])],2,z.2.2.2,z.2.2.1⟩,fun z=>m-z.1,
  fun z=>z.1<=m∧z.2.1.length=z.1∧cF w.heap.size w z.2.2.1∧fS z.2.2.1 w.heap.size z.2.2.2 z.2.1 f.cols (List.replicate z.1 (List.replicate f.cols 0)),?_,?_⟩
 ·intro ρ w' r3;exact⟨(0,[],w',[]),⟨aO _,rfl,hw.tr r3.bs,fS.nil⟩,Sub.gen [] r3 ⟨rfl,rfl,trivial⟩ ⟨rfl,rfl,rfl,rfl,trivial⟩ (by simp[cY,cN.scopd,At.sc]) (by simp[cO,SV.sc,At.sc,cJ]) (by rfl) (fun lo hi h=>h)⟩
 clear hw;rintro⟨i,rv,w1,iv⟩ ⟨hi,hrl,hw,hE⟩;dsimp only at hi hrl hw hE ⊢;conv=>whnf
 refine cW.mk (fun hib=>?_) (fun hib=>?_)
 ·have hib:i<m:=by simpa using hib
  conv=>whnf
  refine⟨((f.cols:Nat):Int),by rw[wrap64]<;>first|rfl|omega,?_⟩;conv=>whnf
  refine⟨f.cols,f.cols,rfl,rfl,aI _,by unfold eX.cols;omega,by unfold eX.cols;omega,?_⟩;conv=>whnf
  refine⟨⟨by omega,by omega⟩,?_⟩;conv=>whnf
  refine CD hτ (id:=1) (id2:=2) (tH:=[(1,.arr T.Lint (rv++List.replicate (m-i) (.slice none 0 0))),(0,.box T.Frame [.v (.slice an f.nodes.length cn),.v (.slice ab f.bars.length cb),.v (.slice aq f.cG.length cq)])]) rfl rfl (by decide) rfl ⟨rfl,rfl,trivial⟩ rfl (fun ρ w' r=>?_);have hn:=(r.fits (id:=2) rfl).1;have hrow:w'.ownsRow 0 T.int 1 (.slice (some ⟨(ρ 2).g,0,none⟩) f.cols f.cols) f.cols ((List.replicate f.cols (0:Int)).map fun z=>.int .i64 z):=
   ⟨by simp,.inr ⟨(ρ 2).g,f.cols,(List.replicate f.cols (Value.int .i64 0)).toArray,rfl,aO _,r.arr 2 _ _ rfl,aI _,by unfold eX.cols maxLen;omega,by simp,by simp⟩⟩
  have hE2:=(hE.rel r).push (gx:=(ρ 2).g) (l:=List.replicate f.cols 0) (fun g hg e=>Rel.not r (fQ _) hg 2 _ rfl hn e.symm) (r.low 2 _ rfl hn).1 (by simp) hrow;rw[<-List.replicate_succ']at hE2;have hw2:=hw.tr r.bs;clear hE hw r hrow hn;generalize (ρ 2).g=gx at*
  generalize (gx,gx+1)::iv=iv2 at*
  conv=>whnf
  refine⟨by simp[hrl];omega,(rv++[.slice (some ⟨gx,0,none⟩) f.cols f.cols])++List.replicate (m-(i+1)) (.slice none 0 0),?_,?_⟩
  ·rw[aB,aR,aP];exact D6 hrl hib
  conv=>whnf
  refine⟨((i+1:Nat):Int),by rw[wrap64]<;>omega,?_⟩;conv=>whnf
  intro ρ3 w3 r3;exact⟨(i+1,rv++[.slice (some ⟨gx,0,none⟩) f.cols f.cols],w3,_),⟨hib,by simp[hrl],hw2.tr r3.bs,hE2.rel r3⟩,Sub.gen [] r3 ⟨rfl,rfl,trivial⟩ ⟨rfl,rfl,rfl,rfl,trivial⟩ (by simp[cY,cN.scopd,At.sc]) (by simp[cO,SV.sc,At.sc,cJ]) (by rfl) (fun lo hi h=>h),by dsimp only;omega⟩
 have hib:i=m:=aM hi (by simpa using hib);subst hib;have hE0:fS w1 w.heap.size iv rv f.cols (dD f 0):=by rw[dD,hm];exact hE
 have hbd0:AX (dD f 0) 0:=fun l hl z hz=>by
  rw[dD]at hl;rw[bF hl]at hz;rw[bF hz];exact⟨Int.le_refl _,Int.le_refl _⟩
 clear hE;conv=>whnf
 refine⟨Nat×World×Iv,fun z=>⟨[(1,.o (.p 0 0)),(3,.o (.s 1 0 i i)),(34,.o (.v (.slice ab f.bars.length cb))),(35,.o (.v (.int .i64 f.bars.length))),(36,.o (.v (.int .i64 ((z.1:Nat):Int))))],[(1,.arr T.Lint rv),(0,.box T.Frame [.v (.slice an f.nodes.length cn),.v (.slice ab f.bars.length cb),.v (.slice aq f.cG.length cq)])],2,z.2.2,z.2.1⟩,fun z=>f.bars.length-z.1,
  fun z=>z.1<=f.bars.length∧cF w.heap.size w z.2.1∧fS z.2.1 w.heap.size z.2.2 rv f.cols (dD f z.1)∧AX (dD f z.1) (12000000*z.1),?_,?_⟩
 ·intro ρ w' r3;exact⟨(0,w',_),⟨aO _,hw.tr r3.bs,hE0.rel r3,hbd0⟩,Sub.gen [] r3 ⟨by simp;rfl,rfl,trivial⟩ ⟨rfl,rfl,rfl,rfl,rfl,trivial⟩ (by simp[cY,cN.scopd,At.sc]) (by simp[cO,SV.sc,At.sc,cJ]) (by rfl) (fun lo hi h=>h)⟩
 clear hw hE0 hbd0 hi;rintro⟨j,w2,iv⟩ ⟨hj,hw,hE,hbd⟩;dsimp only at hj hw hE hbd ⊢;conv=>whnf
 refine cW.mk (fun hjb=>?_) (fun hjb=>?_)
 ·have hjb:j<f.bars.length:=by simpa using hjb
  obtain⟨b,hb⟩:∃b,f.bars[j]? =some b:=⟨_,aA hjb⟩
  obtain⟨hA,hB⟩:=hok.GB b (aD hb);obtain⟨ka,pa,ea,hka,-,hna,⟨_,_⟩,⟨_,_⟩,⟨_,_⟩⟩:=hok.node hA.1 hA.2;obtain⟨kb,pb,eb,hkb,-,hnb,⟨_,_⟩,⟨_,_⟩,⟨_,_⟩⟩:=hok.node hB.1 hB.2;obtain⟨adb,cs,hab,hF,-,hlb⟩:=hf.bars.load (by decide) hb;obtain⟨g0,g1,g2,g3,g4,g5,g6,g7,rfl,hF⟩:=hF;conv=>whnf
  refine⟨adb,hab,⟨by omega,by omega⟩,?_⟩;conv=>whnf
  refine⟨[.int .i64 b.1,.int .i64 b.2.1,.bool g0,.slice g1 g2 g3,.bool g4,.slice g5 g6 g7],rfl,fun ρ w' r j u hu=>?_,?_⟩
  ·obtain⟨k1,k2⟩:=hlb j u hu;rw[aB,bo (w:=w) (w2:=w') (by rw[cC,cC];exact(hw.tr r.bs).block _ (hS _ k1))];exact k2
  conv=>whnf
  refine bp (cA (Φ:=fun _ w' v w2=>v= .agg #[.int .i64 ((f.node b.2.1).1-(f.node b.1).1),.int .i64 ((f.node b.2.1).2.1-(f.node b.1).2.1),.int .i64 ((f.node b.2.1).2.2-(f.node b.1).2.2)]) (fun ρ w' r=>wQ (S:=S) (fun g hg=>by have:=hS g hg;have:=r.bm;omega) (hf.bu fun g hg=>(hw.tr r.bs).block g (hS g hg)).nodes hok hA hB) ?_);rintro ρ wa1 v1 wb1 r he hb1 rfl;replace hw:=hw.tr hb1;replace hE:=hE.bq (iv':=(wa1.heap.size,wb1.heap.size)::iv) r he fun x hx=>aC _ hx;clear r he hb1 hF hlb;generalize (wa1.heap.size,wb1.heap.size)::iv=iv1 at*
  rw[hna,hnb];have hbD:oa f b=[pb.1-pa.1,pb.2.1-pa.2.1,pb.2.2-pa.2.2]:=by rw[oa,hna,hnb]
  conv=>whnf
  refine⟨Nat×World×Iv,fun z=>⟨[(1,.o (.p 0 0)),(3,.o (.s 1 0 i i)),(5,.o (.v (.int .i64 ((j:Nat):Int)))),(6,.o (.p 2 0)),(43,.o (.v (.agg #[.int .i64 (pb.1-pa.1),.int .i64 (pb.2.1-pa.2.1),.int .i64 (pb.2.2-pa.2.2)]))),(34,.o (.v (.slice ab f.bars.length cb))),(35,.o (.v (.int .i64 f.bars.length))),(36,.o (.v (.int .i64 ((j:Nat):Int)))),(44,.o (.v (.int .i64 ((z.1:Nat):Int))))],[(2,.box T.G6 [.v (.int .i64 b.1),.v (.int .i64 b.2.1),.v (.bool g0),.v (.slice g1 g2 g3),.v (.bool g4),.v (.slice g5 g6 g7)]),(1,.arr T.Lint rv),(0,.box T.Frame [.v (.slice an f.nodes.length cn),.v (.slice ab f.bars.length cb),.v (.slice aq f.cG.length cq)])],3,z.2.2,z.2.1⟩,fun z=>3-z.1,
   fun z=>z.1<=3∧cF w.heap.size w z.2.1∧fS z.2.1 w.heap.size z.2.2 rv f.cols (da f (dD f j) j z.1)∧AX (da f (dD f j) j z.1) (12000000*j+4000000*z.1),?_,?_⟩
  ·intro ρ w' r3;exact⟨(0,w',_),⟨aO _,hw.tr r3.bs,hE.rel r3,hbd⟩,Sub.gen [] r3 ⟨rfl,rfl,rfl,trivial⟩ ⟨rfl,rfl,rfl,rfl,rfl,rfl,rfl,rfl,rfl,trivial⟩ (by simp[cY,cN.scopd,At.sc]) (by simp[cO,SV.sc,At.sc,cJ]) (by rfl) (fun lo hi h=>h)⟩
  clear hw hE hbd;rintro⟨k,w3,iv⟩ ⟨hk,hw,hE,hbd⟩;dsimp only at hk hw hE hbd ⊢;conv=>whnf
  refine cW.mk (fun hkb=>?_) (fun hkb=>?_)
  ·have hkb:k<3:=by have:=aG hkb;omega
   obtain⟨d,hd⟩:∃d,(oa f b).getD k 0=d:=⟨_,rfl⟩
   have hdb: -2000000<=d∧d<=2000000:=by
    rw[<-hd,hbD];rcases(show k=0∨k=1∨k=2 by omega)with rfl|rfl|rfl<;>simp[List.getD]<;>omega
   have hMl:(da f (dD f j) j k).length=3*f.nodes.length:=by rw[<-hE.len];have:=hE.len;omega
   have hcols:f.cols=f.bars.length+f.cG.length:=rfl;refine vN hτ rfl rfl rfl (fun _=>rfl) rfl ⟨by omega,by omega⟩ (u:=.int .i64 d) ?_ (fun ρ w4 r=>?_)
   ·rw[<-hd,hbD,aB];rcases(show k=0∨k=1∨k=2 by omega)with rfl|rfl|rfl<;>rfl
   replace hw:=hw.tr r.bs;replace hE:=hE.rel r;clear r;conv=>whnf
   obtain⟨la,hla⟩:∃l,(da f (dD f j) j k)[3*ka+k]? =some l:=⟨_,aA (by first|omega|(rw [bC];omega))⟩
   have hlaw:=hE.wid la (aD hla);obtain⟨za,hza⟩:∃z,la[j]? =some z:=⟨_,aA (by omega)⟩
   have hzab:=hbd la (aD hla) za (aD hza);obtain⟨va,hva⟩:∃v,rv[3*ka+k]? =some v:=⟨_,aA (by have:=(aE.1 hla).1;rw[hE.len];exact this)⟩
   obtain⟨aa5,ca5,rfl⟩:=hE.form hva;obtain⟨ada5,haa5,hxa1,hxa2⟩:=hE.load hva hla hza;conv=>whnf
   refine⟨((3*ka:Nat):Int),by rw[ea,wrap64]<;>omega,?_⟩;conv=>whnf
   refine⟨((3*ka+k:Nat):Int),by rw[wrap64]<;>omega,?_⟩;conv=>whnf
   refine⟨⟨by omega,by omega⟩,?_⟩;conv=>whnf
   refine⟨.slice aa5 f.cols ca5,by rw[aB,aR,aP];exact hva,?_⟩;conv=>whnf
   refine⟨ada5,haa5,⟨by omega,by omega⟩,?_⟩;conv=>whnf
   refine⟨.int .i64 za,fun ρ w' r=>?_,?_⟩
   ·rw[aB,bo (w:=w4) (w2:=w') (by rw[cC];exact Rel.same r (fQ _) hxa1)];exact hxa2
   conv=>whnf
   refine⟨za+d,by rw[wrap64]<;>omega,?_⟩;conv=>whnf
   refine⟨ada5,haa5,⟨by omega,by omega⟩,?_⟩;conv=>whnf
   intro ρ w' r;obtain⟨g,hg,h1,h2,h3,h4⟩:=hE.store r (z:=za+d) hva hla (show j<f.cols by omega);rw[haa5]at hg;injection hg with hg;subst hg;refine⟨h1,h2,h3,fun w5 hw5=>?_⟩;obtain⟨k1,k2,k3,-,-⟩:=h4 w5 hw5;replace hw:=(hw.tr r.bs).tr k2;replace hbd:=hbd.set (r:=3*ka+k) (c:=j) (z:=za+d) (t2:=12000000*j+4000000*k+2000000) (by omega) hla (by omega);replace hE:=k1;clear h1 h2 h3 h4 hw5 k1 k2 k3 r hxa1 hxa2 haa5;obtain⟨lb,hlb⟩:∃l,((da f (dD f j) j k).set (3*ka+k) (la.set j (za+d)))[3*kb+k]? =some l:=⟨_,aA (by first|omega|(rw [bC];omega))⟩
   have hlbw:=hE.wid lb (aD hlb);obtain⟨zb,hzb⟩:∃z,lb[j]? =some z:=⟨_,aA (by omega)⟩
   have hzbb:=hbd lb (aD hlb) zb (aD hzb);obtain⟨vb,hvb⟩:∃v,rv[3*kb+k]? =some v:=⟨_,aA (by have:=(aE.1 hlb).1;rw[hE.len];exact this)⟩
   obtain⟨ab5,cb5,rfl⟩:=hE.form hvb;obtain⟨adb5,hab5,hxb1,hxb2⟩:=hE.load hvb hlb hzb;conv=>whnf
   refine⟨((3*kb:Nat):Int),by rw[eb,wrap64]<;>omega,?_⟩;conv=>whnf
   refine⟨((3*kb+k:Nat):Int),by rw[wrap64]<;>omega,?_⟩;conv=>whnf
   refine⟨⟨by omega,by omega⟩,?_⟩;conv=>whnf
   refine⟨.slice ab5 f.cols cb5,by rw[aB,aR,aP];exact hvb,?_⟩;conv=>whnf
   refine⟨adb5,hab5,⟨by omega,by omega⟩,?_⟩;conv=>whnf
   refine⟨.int .i64 zb,fun ρ w' r=>?_,?_⟩
   ·rw[aB,bo (w:=w5) (w2:=w') (by rw[cC];exact Rel.same r (fQ _) hxb1)];exact hxb2
   conv=>whnf
   refine⟨zb-d,by rw[wrap64]<;>omega,?_⟩;conv=>whnf
   refine⟨adb5,hab5,⟨by omega,by omega⟩,?_⟩;conv=>whnf
   intro ρ w' r;obtain⟨g,hg,h1,h2,h3,h4⟩:=hE.store r (z:=zb-d) hvb hlb (show j<f.cols by omega);rw[hab5]at hg;injection hg with hg;subst hg;refine⟨h1,h2,h3,fun w5 hw5=>?_⟩;obtain⟨k1,k2,k3,-,-⟩:=h4 w5 hw5;replace hw:=(hw.tr r.bs).tr k2;replace hbd:=hbd.set (r:=3*kb+k) (c:=j) (z:=zb-d) (t2:=12000000*j+4000000*(k+1:Nat)) (by omega) hlb (by omega);replace hE:=k1;clear h1 h2 h3 h4 hw5 k1 k2 k3 r hxb1 hxb2 hab5;rw[D7 hb ea eb hd hla hza hlb hzb]at hE hbd;conv=>whnf
   refine⟨((k+1:Nat):Int),by rw[wrap64]<;>omega,?_⟩;conv=>whnf
   intro ρ3 w6 r3;exact⟨(k+1,w6,_),⟨hkb,hw.tr r3.bs,hE.rel r3,hbd⟩,Sub.gen [] r3 ⟨rfl,rfl,rfl,trivial⟩ ⟨rfl,rfl,rfl,rfl,rfl,rfl,rfl,rfl,rfl,trivial⟩ (by simp[cY,cN.scopd,At.sc]) (by simp[cO,SV.sc,At.sc,cJ]) (by rfl) (fun lo hi h=>h),by dsimp only;omega⟩
  have hkb:k=3:=by have:=aF hkb;omega
  subst hkb;conv=>whnf
  refine⟨((j+1:Nat):Int),by rw[wrap64]<;>omega,?_⟩;conv=>whnf
  intro ρ3 w6 r3;exact⟨(j+1,w6,_),⟨hjb,hw.tr r3.bs,hE.rel r3,fun l hl z hz=>by have:=hbd l hl z hz;dsimp only;omega⟩,Sub.gen [] r3 ⟨rfl,rfl,trivial⟩ ⟨rfl,rfl,rfl,rfl,rfl,trivial⟩ (by simp[cY,cN.scopd,At.sc]) (by simp[cO,SV.sc,At.sc,cJ]) (by rfl) (fun lo hi h=>h),by dsimp only;omega⟩
 have hjb:j=f.bars.length:=aM hj (by simpa using hjb);subst hjb;conv=>whnf
 refine⟨Nat×World×Iv,fun z=>⟨[(1,.o (.p 0 0)),(3,.o (.s 1 0 i i)),(79,.o (.v (.slice aq f.cG.length cq))),(80,.o (.v (.int .i64 f.cG.length))),(81,.o (.v (.int .i64 ((z.1:Nat):Int))))],[(1,.arr T.Lint rv),(0,.box T.Frame [.v (.slice an f.nodes.length cn),.v (.slice ab f.bars.length cb),.v (.slice aq f.cG.length cq)])],2,z.2.2,z.2.1⟩,fun z=>f.cG.length-z.1,
  fun z=>z.1<=f.cG.length∧cF w.heap.size w z.2.1∧fS z.2.1 w.heap.size z.2.2 rv f.cols (eA f z.1)∧AX (eA f z.1) 800000000,?_,?_⟩
 ·intro ρ w' r3;exact⟨(0,w',_),⟨aO _,hw.tr r3.bs,hE.rel r3,fun l hl z hz=>by have:=hbd l hl z hz;omega⟩,Sub.gen [] r3 ⟨rfl,rfl,trivial⟩ ⟨rfl,rfl,rfl,rfl,rfl,trivial⟩ (by simp[cY,cN.scopd,At.sc]) (by simp[cO,SV.sc,At.sc,cJ]) (by rfl) (fun lo hi h=>h)⟩
 clear hw hE hbd hj;rintro⟨j,w2,iv⟩ ⟨hj,hw,hE,hbd⟩;dsimp only at hj hw hE hbd ⊢;conv=>whnf
 refine cW.mk (fun hjb=>?_) (fun hjb=>?_)
 ·have hjb:j<f.cG.length:=by simpa using hjb
  obtain⟨s,hs⟩:∃b,f.cG[j]? =some b:=⟨_,aA hjb⟩
  obtain⟨hA,hB⟩:=hok.sup s (aD hs);obtain⟨ks,hks⟩:=Int.eq_ofNat_of_zero_le (show 0<=3*s.1+s.2.1 by omega);have hcols:f.cols=f.bars.length+f.cG.length:=rfl;have hMl:=ke f j;obtain⟨l,hl⟩:∃l,(eA f j)[ks]? =some l:=⟨_,aA (by omega)⟩
  have hlw:=hE.wid l (aD hl);obtain⟨v,hv⟩:∃v,rv[ks]? =some v:=⟨_,aA (by rw[hE.len];omega)⟩
  obtain⟨a5,c5,rfl⟩:=hE.form hv;obtain⟨z0,hz0⟩:∃z,l[f.bars.length+j]? =some z:=⟨_,aA (by omega)⟩
  obtain⟨ad5,ha5,-,-⟩:=hE.load hv hl hz0;obtain⟨adb,cs,hab,hF,-,hlb⟩:=hf.cG.load (by decide) hs;obtain⟨g0,g1,g2,g3,g4,g5,g6,g7,rfl,hF⟩:=hF;conv=>whnf
  refine⟨adb,hab,⟨by omega,by omega⟩,?_⟩;conv=>whnf
  refine⟨[.int .i64 s.1,.int .i64 s.2.1,.bool g0,.slice g1 g2 g3,.bool g4,.slice g5 g6 g7],rfl,fun ρ w' r j u hu=>?_,?_⟩
  ·obtain⟨k1,k2⟩:=hlb j u hu;rw[aB,bo (w:=w) (w2:=w') (by rw[cC,cC];exact(hw.tr r.bs).block _ (hS _ k1))];exact k2
  conv=>whnf
  refine bw hτ dH [.x 0,.x 1,.x 2,.x 3,.x 4,.x 5,.x 6,.x 7,.x 8,.x 9,.x 10,.x 11,.x 12,.x 13,.x 14,.x 15] (by kernel_rfl) (by kernel_rfl) ?_;conv=>whnf
  refine⟨3*s.1,by rw[wrap64]<;>omega,?_⟩;conv=>whnf
  refine⟨((ks:Nat):Int),by rw[wrap64]<;>omega,?_⟩;conv=>whnf
  refine⟨⟨by omega,by omega⟩,?_⟩;conv=>whnf
  refine⟨.slice a5 f.cols c5,by rw[aB,aR,aP];exact hv,?_⟩;conv=>whnf
  refine⟨((f.bars.length+j:Nat):Int),by rw[wrap64]<;>omega,?_⟩;conv=>whnf
  refine⟨ad5,ha5,⟨by omega,by omega⟩,?_⟩;conv=>whnf
  intro ρ w' r;obtain⟨g,hg,h1,h2,h3,h4⟩:=hE.store r (z:=1) hv hl (show f.bars.length+j<f.cols by omega);rw[ha5]at hg;injection hg with hg;subst hg;refine⟨h1,h2,h3,fun w5 hw5=>?_⟩;obtain⟨k1,k2,k3,-,-⟩:=h4 w5 hw5;replace hw:=(hw.tr r.bs).tr k2;have hbd2:=hbd.set (r:=ks) (c:=f.bars.length+j) (z:=1) (t2:=800000000) (by omega) hl (by omega);rw[zx hs hks hl]at k1 hbd2;clear h1 h2 h3 h4 hw5 k2 k3 r hE;conv=>whnf
  refine⟨((j+1:Nat):Int),by rw[wrap64]<;>omega,?_⟩;conv=>whnf
  intro ρ3 w6 r3;exact⟨(j+1,w6,_),⟨hjb,hw.tr r3.bs,k1.rel r3,hbd2⟩,Sub.gen [] r3 ⟨rfl,rfl,trivial⟩ ⟨rfl,rfl,rfl,rfl,rfl,trivial⟩ (by simp[cY,cN.scopd,At.sc]) (by simp[cO,SV.sc,At.sc,cJ]) (by rfl) (fun lo hi h=>h),by dsimp only;omega⟩
 have hjb:j=f.cG.length:=aM hj (by simpa using hjb);subst hjb;conv=>whnf
 intro ρe we re;have hE2:=hE.rel re;have hMl:=ke f f.cG.length;have hrl2:=hE.len;refine⟨_,rfl,hw.tr re.bs,⟨rv,?_,hE.len,fun i u x k1 k2=>?_⟩,hbd,hE.wid,by rw[<-hm];exact hMl⟩
 ·rw[show (fR f).length=rv.length from hE.len.symm];have h5:=re.Ef (id:=1) (sz:=1) (m:=rv.length) rfl (by simp) (by unfold maxLen;omega) hE.one;rw[show (i:Nat)=rv.length by omega];exact h5.bz fun g hg=>.inr hg
 ·obtain⟨a,c,rfl⟩:=hE.form k1;have hxl:=hE.wid x (aD k2);refine⟨by rw[hxl];unfold eX.cols maxLen;omega,by simp,fun v hv=>by obtain⟨z,_,rfl⟩:=aS.1 hv;rfl,a,c,by rw[hxl],?_,fun t v hv=>?_⟩
  ·rw[hxl];obtain⟨a2,c2,e,h⟩:=gp (hE.row i _ x k1 k2);injection e with e1 e2 e3;omega
  ·rw[aN]at hv
   cases ht:x[t]? with
   |none=>rw[ht]at hv;cases hv
   |some z=>
    rw[ht]at hv;simp only[Option.map_some,Option.some.injEq]at hv;subst hv;obtain⟨ad,h1,h2,h3⟩:=hE2.load k1 k2 ht;exact⟨ad,h1,Cv.nw h2 re,by rw[aR]at h3;exact h3⟩
end Go.Ex
namespace Go.Ex
open Go Go.Sx Go.Proofs
theorem jr(f:eX):(dM f).length=3*f.nodes.length:=by rw[dM,aK];exact ke f _
theorem rP{z:Int}(h1: -2000000000<=z)(h2:z<=2000000000):rl (z:Rat)<=1:=by
 have e1:((z:Rat)).num=z:=rfl;have e2:((z:Rat)).den=1:=rfl;rw[rl,e1,e2];have a1:ln z.natAbs<=1:=gM.2 (by rw[DG];omega);have a2:ln 1<=1:=by decide
 omega
set_option maxHeartbeats 1000000 in
theorem lP{S:Nat->Prop}{w:World}{vn vb vs:Value}{f:eX}(hS:Old S w)(hf:dE w S vn vb vs f)(hok:oO f):
  dQ PG N.l7 #[.agg #[vn,vb,vs]] w (dU w fun v' w2=>(∃vr,v'= .agg #[vr,.int .i64 f.cols]∧cI w2 (Nw (fun _=>False) w w2) vr (dM f))∧qo f.cols (dM f)∧Ht (dM f) 2):=by
 have hw:cF w.heap.size w w:=cF.refl;obtain⟨an,cn,ab,cb,aq,cq,rfl,rfl,rfl,hmn,hmb,hms⟩:=hf.shape;obtain⟨hn20,hb60,hs60⟩:=And.intro hok.n (And.intro hok.b hok.s);have hcols:f.cols=f.bars.length+f.cG.length:=rfl;refine og (by simp) ?_;conv=>whnf
 refine⟨((f.cols:Nat):Int),by rw[wrap64]<;>first|rfl|omega,?_⟩;conv=>whnf
 refine bp (cA (Φ:=fun _ w' v w2=>kc w2 (Nw (fun _=>False) w' w2) v (fR f)∧AX (fR f) 800000000∧(∀l∈fR f,l.length=f.cols)∧(fR f).length=3*f.nodes.length) (fun ρ w' r=>CZ (S:=S) (fun g hg=>by have:=hS g hg;have:=r.bm;omega) (hf.bu fun g hg=>(hw.tr r.bs).block g (hS g hg)) hok) ?_);rintro ρ wa1 v1 wb1 r he hb1 ⟨k1,hbd,hwid,hml⟩;replace hw:=hw.tr hb1;have hM:=kc.bz k1 fun g hg=>hg.cQ (B:=w.heap.size) (S:=fun _=>False) r.bm (iv:=(wa1.heap.size,wb1.heap.size)::[]) aH;clear r he hb1 k1;generalize (wa1.heap.size,wb1.heap.size)::[]=iv1 at*
 obtain⟨am,cm,rfl,hcm,hmm⟩:=dS.shape hM;unfold maxLen at hmm;conv=>whnf
 refine⟨Nat×List Value×World×Iv,fun z=>⟨[(20,.o (.v (.int .i64 ((z.1:Nat):Int)))),(2,.o (.p 1 0)),(3,.o (.p 2 0)),(18,.o (.v (.slice am (fR f).length cm))),(19,.o (.v (.int .i64 (fR f).length)))],[(2,.box T.dW [.w 3 z.2.1.length,.v (.int .i64 ((f.cols:Nat):Int))]),(3,.vec T.gX 1 z.2.1),(1,.box T.dW [.v (.slice none 0 0),.v (.int .i64 0)])],4,z.2.2.2,z.2.2.1⟩,fun z=>(fR f).length-z.1,
  fun z=>z.1<=(fR f).length∧cF w.heap.size w z.2.2.1∧kc z.2.2.1 (Cv (fun _=>False) w.heap.size z.2.2.2) (.slice am (fR f).length cm) (fR f)∧dP z.2.2.1 (Cv (fun _=>False) w.heap.size z.2.2.2) z.2.1 ((dM f).take z.1),?_,?_⟩
 ·intro ρ w' r;exact⟨(0,[],w',_),⟨aO _,hw.tr r.bs,hM.bu fun g hg=>Rel.same r (bl w) hg,by simp[dP]⟩,Sub.yT 2 0 T.gX 1 rfl rfl (by simp[cO,SV.sc,At.sc,cJ]) r fun ρ1 r1=>Sub.gen [] r1 ⟨rfl,rfl,rfl,trivial⟩ ⟨rfl,rfl,rfl,rfl,rfl,trivial⟩ (by simp[cY,cN.scopd,At.sc]) (by simp[cO,SV.sc,At.sc]) (by rfl) (fun lo hi h=>h)⟩
 clear hw hM;rintro⟨k,rv,w1,iv⟩ ⟨hk,hw,hM,hK⟩;dsimp only at hk hw hM hK ⊢;have hrl:rv.length=k:=by rw[hK.1,aW,dM,aK];omega
 conv=>whnf
 refine cW.mk (fun hkb=>?_) (fun hkb=>?_)
 ·have hkb:k<(fR f).length:=by simpa using hkb
  obtain⟨l,hl⟩:∃l,(fR f)[k]? =some l:=⟨_,aA hkb⟩
  have hlw:=hwid l (aD hl);have hnext:(dM f).take (k+1)=(dM f).take k++[cK l]:=by rw[List.take_add_one,show(dM f)[k]? =some (cK l) by rw[dM,aN,hl];rfl];rfl
  obtain⟨adm,um,ham,hLm,km1,km2⟩:=dS.load hM hl;obtain⟨a0,c0,rfl,hc0,-⟩:=yq.shape hLm;conv=>whnf
  refine⟨adm,ham,⟨by omega,by omega⟩,?_⟩;conv=>whnf
  refine⟨.slice a0 l.length c0,fun ρ w' r=>?_,?_⟩
  ·rw[aB,bo (w:=w1) (w2:=w') (by rw[cC];exact Rel.same r (bl w) km1)];exact km2
  conv=>whnf
  refine⟨l.length,l.length,rfl,rfl,aI _,by omega,by omega,?_⟩;conv=>whnf
  refine⟨Nat×Nat×World×Iv,fun z=>⟨[(6,.o (.v (.slice (some ⟨z.2.1,0,none⟩) l.length l.length))),(5,.o (.v (.slice a0 l.length c0))),(27,.o (.v (.slice a0 l.length c0))),(28,.o (.v (.int .i64 l.length))),(29,.o (.v (.int .i64 ((z.1:Nat):Int)))),(20,.o (.v (.int .i64 ((k:Nat):Int)))),(2,.o (.p 1 0)),(3,.o (.p 2 0)),(18,.o (.v (.slice am (fR f).length cm))),(19,.o (.v (.int .i64 (fR f).length)))],[(2,.box T.dW [.w 3 rv.length,.v (.int .i64 ((f.cols:Nat):Int))]),(3,.vec T.gX 1 rv),(1,.box T.dW [.v (.slice none 0 0),.v (.int .i64 0)])],5,z.2.2.2,z.2.2.1⟩,fun z=>l.length-z.1,
   fun z=>z.1<=l.length∧cF w.heap.size w z.2.2.1∧kc z.2.2.1 (Bs (fun _=>False) w.heap.size z.2.2.2 (.slice (some ⟨z.2.1,0,none⟩) l.length l.length)) (.slice am (fR f).length cm) (fR f)∧yq z.2.2.1 (Bs (fun _=>False) w.heap.size z.2.2.2 (.slice (some ⟨z.2.1,0,none⟩) l.length l.length)) (.slice a0 l.length c0) l∧dP z.2.2.1 (Bs (fun _=>False) w.heap.size z.2.2.2 (.slice (some ⟨z.2.1,0,none⟩) l.length l.length)) rv ((dM f).take k)∧gC z.2.2.1 (fun _=>False) w.heap.size z.2.2.2 (.slice (some ⟨z.2.1,0,none⟩) l.length l.length) l.length z.1 (cK l),?_,?_⟩
  ·intro ρ w' r;have hf:=gC.oy (S:=fun _=>False) (n:=l.length) r (id:=4) rfl (by unfold maxLen;omega) (cK l);have hbs:∀g,Cv (fun _=>False) w.heap.size iv g->Bs (fun _=>False) w.heap.size (((ρ 4).g,(ρ 4).g+1)::iv) (.slice (some ⟨(ρ 4).g,0,none⟩) l.length l.length) g:=fun g hg=>⟨hg.mono fun p hp=>aC _ hp,fun e=>Rel.not r (bl w) hg 4 _ rfl (r.fits (id:=4) rfl).1 (by injection e)⟩
   exact⟨(0,(ρ 4).g,w',((ρ 4).g,(ρ 4).g+1)::iv),⟨aO _,hw.tr r.bs,(hM.bu fun g hg=>Rel.same r (bl w) hg).bz hbs,(hLm.bu fun g hg=>Rel.same r (bl w) hg).bz hbs,dP.bz (hK.rel r (bl w)) hbs,hf⟩,
    Sub.oy r (id:=4) (t:=6) rfl rfl ⟨rfl,rfl,rfl,trivial⟩ rfl ⟨rfl,rfl,rfl,rfl,rfl,rfl,rfl,rfl,rfl,trivial⟩ (by simp[cO,SV.sc,At.sc])⟩
  clear hw hM hK hLm;rintro⟨i,gx,w2,iv⟩ ⟨hi,hw,hM,hLm,hK,hX⟩;dsimp only at hi hw hM hLm hK hX ⊢;conv=>whnf
  refine cW.mk (fun hib=>?_) (fun hib=>?_)
  ·have hib:i<l.length:=by simpa using hib
   obtain⟨z,hz⟩:∃z,l[i]? =some z:=⟨_,aA hib⟩
   have hzb:=hbd l (aD hl) z (aD hz);obtain⟨adz,haz,kz1,kz2⟩:=hLm.at hz;conv=>whnf
   refine⟨adz,haz,⟨by omega,by omega⟩,?_⟩;conv=>whnf
   refine⟨.int .i64 z,fun ρ w' r=>?_,?_⟩
   ·rw[aB,bo (w:=w2) (w2:=w') (by rw[cC];exact Rel.same r (bl w) kz1.1)];exact kz2
   conv=>whnf
   refine bp (cA (Φ:=fun _ w' v w2=>cH w2 (Nw (fun _=>False) w' w2) v (z:Rat)) (fun ρ w' r=>iQ z w' (by omega) (by omega)) ?_);rintro ρ wa3 v3 wb3 r he hb1 hn2;replace hw:=hw.tr hb1;have hbs:∀g,Bs (fun _=>False) w.heap.size iv (.slice (some ⟨gx,0,none⟩) l.length l.length) g->Bs (fun _=>False) w.heap.size ((wa3.heap.size,wb3.heap.size)::iv) (.slice (some ⟨gx,0,none⟩) l.length l.length) g:=fun g hg=>Bs.mono (fun x hx=>aC _ hx) hg;have hbk:∀g,Bs (fun _=>False) w.heap.size iv (.slice (some ⟨gx,0,none⟩) l.length l.length) g->wb3.heap[g]? =w2.heap[g]? :=fun g hg=>(he.block g (Rel.old r (bl w) g hg.1)).trans (Bs.same r (bl w) g hg);replace hM:=(hM.bu hbk).bz hbs;replace hLm:=(hLm.bu hbk).bz hbs;replace hK:=dP.bz (dP.bu hK hbk) hbs;have hd:=hn2.bz (S':=Bs (fun _=>False) w.heap.size ((wa3.heap.size,wb3.heap.size)::iv) (.slice (some ⟨gx,0,none⟩) l.length l.length)) fun g hg=>hg.elim (fun h=>h.elim) fun h=>⟨.inr ⟨by have:=r.bm;omega,_,_,aH,h.1,h.2⟩,fun e=>by have:=Rel.old r (bl w) g (hX.new g e);omega⟩
   replace hX:=hX.bq (iv':=(wa3.heap.size,wb3.heap.size)::iv) r (bl w) he fun x hx=>aC _ hx;clear r he hb1 hn2 hbs hbk;generalize (wa3.heap.size,wb3.heap.size)::iv=iv3 at*
   obtain⟨s3_0,s3_1,s3_2,s3_3,s3_4,s3_5,s3_6,s3_7,rfl⟩:=hd.shape;conv=>whnf
   refine⟨⟨gx,0,none⟩,rfl,⟨by omega,by omega⟩,?_⟩;conv=>whnf
   intro ρ w' r;obtain⟨g,hg,h1,h2,h3,h4⟩:=hX.store (j:=i) hib (by rw[cK,aN,hz];rfl) hd r (bl w);injection hg with hg;injection hg with hg;subst hg;refine⟨h1,h2,h3,fun w5 hw5=>?_⟩;obtain⟨k1,k2,k3,k4⟩:=h4 w5 hw5;have hw2:=(hw.tr r.bs).tr k3;have hkk:=Bs.kept (v:=(.slice (some ⟨gx,0,none⟩) l.length l.length)) r (bl w) k2 fun g e=>e;have hM2:=hM.bu hkk;have hLm2:=hLm.bu hkk;have hK2:=dP.bu hK hkk;clear hX hK hM hLm hw h1 h2 h3 h4 hw5 k2 k3 k4 r hd hkk;conv=>whnf
   refine⟨((i+1:Nat):Int),by rw[wrap64]<;>omega,?_⟩;conv=>whnf
   intro ρ3 w6 r3;exact⟨(i+1,gx,w6,_),⟨hib,hw2.tr r3.bs,hM2.bu (Bs.same r3 (bl w)),hLm2.bu (Bs.same r3 (bl w)),dP.bu hK2 (Bs.same r3 (bl w)),k1.rel r3 (bl w)⟩,Sub.gen [] r3 ⟨rfl,rfl,rfl,trivial⟩ ⟨rfl,rfl,rfl,rfl,rfl,rfl,rfl,rfl,rfl,rfl,trivial⟩ (by simp[cY,cN.scopd,At.sc]) (by simp[cO,SV.sc,At.sc]) (by rfl) (fun lo hi h=>h),by dsimp only;omega⟩
  have hib:i=l.length:=aM hi (by simpa using hib);rw[hib]at hX;have hX2:=(hX.done (by simp[cK])).c;replace hK:=(dP.bz hK fun g hg=>hg.1).push (u:=(.slice (some ⟨gx,0,none⟩) l.length l.length)) (x:=cK l) rfl (by rw[show l.length=(cK l).length by simp[cK]]at hX2 ⊢;exact hX2);rw[<-hnext]at hK;replace hM:=hM.bz fun g hg=>hg.1;clear hX hX2 hLm;conv=>whnf
  refine .inl ?_;conv=>whnf
  refine⟨by simp,by omega,by unfold maxLen;omega,?_⟩;conv=>whnf
  refine⟨((k+1:Nat):Int),by rw[wrap64]<;>omega,?_⟩;conv=>whnf
  intro ρ3 w3 r3;exact⟨(k+1,rv++[(.slice (some ⟨gx,0,none⟩) l.length l.length)],w3,_),⟨hkb,hw.tr r3.bs,hM.bu fun g hg=>Rel.same r3 (bl w) hg,hK.rel r3 (bl w)⟩,Sub.gen [(3,6)] r3 ⟨by dsimp only;rw[List.length_append,List.length_singleton];rfl,rfl,rfl,trivial⟩ ⟨rfl,rfl,rfl,rfl,rfl,trivial⟩ (by simp[cY,cN.scopd,At.sc]) (by simp[cO,SV.sc,At.sc]) (by rfl) (fun lo hi h=>h),by dsimp only;omega⟩
 have hkb:k=(fR f).length:=aM hk (by simpa using hkb);rw[List.take_of_length_le (by rw[dM,aK];omega)]at hK;conv=>whnf
 intro ρe we re;refine⟨_,rfl,hw.tr re.bs,⟨_,rfl,rv,?_,hK.1,fun i u x k1 k2=>cB.bz (cB.rel (hK.2.2 i u x k1 k2) re (bl w)) fun g hg=>Cv.nw hg re⟩,fun x hx=>?_,fun x hx q hq=>?_⟩
 ·rw[<-hK.1];exact(re.gB (id:=3) (sz:=1) (m:=rv.length) rfl (by simp) (by unfold maxLen;omega) (by decide) hK.2.1).bz fun g hg=>.inr hg
 ·obtain⟨l,hl,rfl⟩:=aS.1 hx;rw[cK,aK];exact hwid l hl
 ·obtain⟨l,hl,rfl⟩:=aS.1 hx;obtain⟨z,hz,rfl⟩:=aS.1 hq;have:=hbd l hl z hz;have:=rP (z:=z) (by omega) (by omega);omega
end Go.Ex
