/- A part of the proof: texts X136 to X141. Each tells its conditions in its theorems. -/
import Derived.Test.YtkdcaknoaeicdaaGreatP2
import Derived.Test.YtkdcaknoaeicdaaGreatP9
import Derived.Test.YtkdcaknoaeicdaaGreatP10
import Derived.Test.YtkdcaknoaeicdaaGreatP11
namespace Go.Ex
open Go Go.Sx Go.Proofs
def qK(pv:List Nat)(n i:Nat):List Value:=(List.range n).map fun c=>.bool (decide (c∈pv.take i))
theorem E8(pv:List Nat)(n:Nat):qK pv n 0=List.replicate n (.bool false):=by
 refine bF fun j=>?_;rw[qK,aO,List.getElem?_replicate];by_cases h:j<n
 ·rw[List.getElem?_range h,if_pos h];rfl
 ·rw[List.getElem?_eq_none (by simp;omega),aK h];rfl
theorem A6{pv:List Nat}{n i c:Nat}(h:c<n):(qK pv n i)[c]? =some (.bool (decide (c∈pv.take i))):=by
 rw[qK,aO,List.getElem?_range h];rfl
theorem E9{pv:List Nat}{n i p:Nat}(hp:pv[i]? =some p):(qK pv n i).set p (.bool true)=qK pv n (i+1):=by
 refine bF fun j=>?_;by_cases hj:j<n
 ·rw[A6 hj,List.take_add_one,hp];by_cases hpj:p=j
  ·subst hpj;rw[aT (by simp[qK];exact hj)];simp
  ·rw[a9 hpj,A6 hj];have:j≠p:=fun e=>hpj e.symm;simp[this]
 ·rw[List.getElem?_eq_none (by simp[qK];omega),List.getElem?_eq_none (by simp[qK];omega)]
theorem dQ.at{S:Nat->Prop}{B n:Nat}{iv:Iv}{w:World}{qs:List Rat}{ax:Option Addr}{cx:Nat}(h:dQ w S B iv (.slice ax n cx) n qs)(h0:0<n):∃g,ax=some ⟨g,0,none⟩:=by
 obtain⟨css,h1,h2,h3⟩:=h.row;rcases h1.2 with⟨_,h0⟩|⟨g,cap,cur,e,_⟩
 ·omega
 ·injection e with e;exact⟨g,e⟩
set_option maxHeartbeats 2000000 in
theorem zU{C S:Nat->Prop}{w:World}{v:Value}{M:List (List Rat)}{n h:Nat}(hC:Old C w)(hS:Old S w)(hM:jH w C S v M)(hlen:fk n M)(hn0:0<n)(hn:n<=1000)(hR:M.length<=1000)(hB:qH M n h)(hAb:Ht (cZ M n).1 h)(hh:3*h<=90000):
  dh PG N.fY #[.agg #[v,.int .i64 n]] w (dw w fun v' w2=>cI w2 (Nw (fun _=>False) w w2) v' (iN M n)):=by
 have hw:cN w.heap.size w w:=cN.refl;obtain⟨am,cm,rfl,hcm,hmm⟩:=jH.shape hM;unfold maxLen at hmm;obtain⟨f1,f2,f3,f4,f5⟩:=pK n hlen;refine iY (by simp) ?_;conv=>whnf
 unfold iN;generalize hA:(cZ M n).1=A at*
 generalize hP:(cZ M n).2.1=pv at*
 refine bz (cH (Φ:=fun _ w' v w2=>∃vr vp vf,v= .agg #[vr,.int .i64 n,vp,vf]∧cI w2 (Nw S w' w2) vr A∧cY w2 (Nw (fun _=>False) w' w2) vp pv∧cY w2 (Nw (fun _=>False) w' w2) vf (cZ M n).2.2) (fun ρ w' r=>by
  rw[<-hA,<-hP];obtain⟨rv,m1,m2,m3⟩:=hM
  exact lV (C:=C) (S:=S) (fun g hg=>by have:=hC g hg;have:=r.bu;omega) (fun g hg=>by have:=hS g hg;have:=r.bu;omega) ⟨rv,m1.cD fun g hg=>(hw.tr r.cC).block g (hC g hg),m2,fun i u x h1 h2=>cP.cD (m3 i u x h1 h2) fun g hg=>(hw.tr r.cC).block g (hS g hg)⟩ hlen hn0 hn hR (aG _) hB hh) ?_)
 rintro ρ wa1 v1 wb1 r he hb1 ⟨vr,vp,vf,rfl,k1,k2,k3⟩;replace hw:=hw.tr hb1;have hR:=cI.old (cI.cG k1 fun g hg=>hg.imp (fun h=>(Or.inl h:Cv S w.heap.size [] g)) id) r.bu;have hV:=cY.cw (S:=fun _=>False) k2 r.bu (iv:=(wa1.heap.size,wb1.heap.size)::[]) aJ;have hX:=cY.cw (S:=fun _=>False) k3 r.bu (iv:=(wa1.heap.size,wb1.heap.size)::[]) aJ;clear r he hb1 k1 k2 k3;generalize (wa1.heap.size,wb1.heap.size)::[]=iv1 at*
 obtain⟨ar,cr,rfl,hcr,hmr⟩:=cT.shape hR;obtain⟨ap,cp,rfl,hcp,hmp⟩:=cY.shape hV;obtain⟨af,cf,rfl,-,-⟩:=cY.shape hX;clear hX;conv=>whnf
 refine⟨n,n,rfl,rfl,aG _,by omega,by omega,?_⟩;conv=>whnf
 refine⟨Nat×World×Iv,fun z=>⟨[(1,.o (.p 0 0)),(3,.o (.p 1 0)),(4,.o (.s 2 0 n n)),(20,.o (.v (.slice ap pv.length cp))),(21,.o (.v (.int .i64 pv.length))),(22,.o (.v (.int .i64 ((z.1:Nat):Int))))],[(2,.arr T.bool (qK pv n z.1)),(1,.box T.dI [.v (.slice ar A.length cr),.v (.int .i64 n),.v (.slice ap pv.length cp),.v (.slice af (cZ M n).2.2.length cf)]),(0,.box T.de [.v (.slice am M.length cm),.v (.int .i64 n)])],3,z.2.2,z.2.1⟩,fun z=>pv.length-z.1,
  fun z=>z.1<=pv.length∧cN w.heap.size w z.2.1∧cI z.2.1 (Cv S w.heap.size z.2.2) (.slice ar A.length cr) A∧cY z.2.1 (Cv (fun _=>False) w.heap.size z.2.2) (.slice ap pv.length cp) pv,?_,?_⟩
 ·intro ρ w' r3;exact⟨(0,w',_),⟨aN _,hw.tr r3.cC,cI.rel hR r3 hS,cY.rel hV r3 (bs w)⟩,Sub.gen [] r3 ⟨by dsimp only;rw[E8];rfl,rfl,rfl,trivial⟩ ⟨rfl,rfl,rfl,rfl,rfl,rfl,trivial⟩ (by simp[dG,cW.scopd,At.sc]) (by simp[cV,SV.sc,At.sc]) (by rfl) (fun lo hi h=>h)⟩
 clear hw hR hV;rintro⟨i,w1,iv⟩ ⟨hi,hw,hR,hV⟩;dsimp only at hi hw hR hV ⊢;conv=>whnf
 refine dE.mk (fun hib=>?_) (fun hib=>?_)
 ·have hib:i<pv.length:=by simpa using hib
  obtain⟨p,hp⟩:∃p,pv[i]? =some p:=⟨_,aB hib⟩
  have hpc:=f4 p (aF hp);obtain⟨adp,hap,kp1,kp2⟩:=hV.at hp;conv=>whnf
  refine⟨adp,hap,⟨by omega,by omega⟩,?_⟩;conv=>whnf
  refine⟨.int .i64 (p:Int),fun ρ w' r=>?_,?_⟩
  ·rw[aC,bw (w:=w1) (w2:=w') (by rw[cL];exact Rel.same r (bs w) kp1)];exact kp2
  conv=>whnf
  refine⟨⟨by omega,by omega⟩,?_⟩;conv=>whnf
  refine⟨by simp[qK];omega,qK pv n (i+1),?_,?_⟩
  ·rw[aC,aR,aS,<-E9 hp];exact fG (by simp[qK];omega)
  conv=>whnf
  refine⟨((i+1:Nat):Int),by rw[wrap64]<;>omega,?_⟩;conv=>whnf
  intro ρ3 w3 r3;exact⟨(i+1,w3,_),⟨hib,hw.tr r3.cC,cI.rel hR r3 hS,cY.rel hV r3 (bs w)⟩,Sub.gen [] r3 ⟨rfl,rfl,rfl,trivial⟩ ⟨rfl,rfl,rfl,rfl,rfl,rfl,trivial⟩ (by simp[dG,cW.scopd,At.sc]) (by simp[cV,SV.sc,At.sc]) (by rfl) (fun lo hi h=>h),by dsimp only;omega⟩
 have hib:i=pv.length:=aP hi (by simpa using hib);subst hib;conv=>whnf
 refine⟨Nat×List Value×World×Iv,fun z=>⟨[(32,.o (.v (.int .i64 ((z.1:Nat):Int)))),(7,.o (.w 3 z.2.1.length)),(1,.o (.p 0 0)),(3,.o (.p 1 0)),(4,.o (.s 2 0 n n)),(31,.o (.v (.int .i64 n)))],[(2,.arr T.bool (qK pv n pv.length)),(3,.vec T.fz 1 z.2.1),(1,.box T.dI [.v (.slice ar A.length cr),.v (.int .i64 n),.v (.slice ap pv.length cp),.v (.slice af (cZ M n).2.2.length cf)]),(0,.box T.de [.v (.slice am M.length cm),.v (.int .i64 n)])],4,z.2.2.2,z.2.2.1⟩,fun z=>n-z.1,
  fun z=>z.1<=n∧cN w.heap.size w z.2.2.1∧cI z.2.2.1 (Cv S w.heap.size z.2.2.2) (.slice ar A.length cr) A∧cY z.2.2.1 (Cv (fun _=>False) w.heap.size z.2.2.2) (.slice ap pv.length cp) pv∧dK z.2.2.1 (Cv (fun _=>False) w.heap.size z.2.2.2) z.2.1 (db A pv n z.1),?_,?_⟩
 ·intro ρ w' r;exact⟨(0,[],w',_),⟨aN _,hw.tr r.cC,cI.rel hR r hS,cY.rel hV r (bs w),by simp[dK,db]⟩,Sub.nil 7 T.fz 1 rfl (by simp[cV,SV.sc,At.sc]) r fun ρ1 r1=>Sub.gen [] r1 ⟨rfl,rfl,rfl,rfl,trivial⟩ ⟨rfl,rfl,rfl,rfl,rfl,rfl,trivial⟩ (by simp[dG,cW.scopd,At.sc]) (by simp[cV,SV.sc,At.sc]) (by rfl) (fun lo hi h=>h)⟩
 clear hw hR hV;rintro⟨c,rv,w1,iv⟩ ⟨hc,hw,hR,hV,hK⟩;dsimp only at hc hw hR hV hK ⊢;have hrl:rv.length=(db A pv n c).length:=hK.1;have hrc:=Br A pv n c;conv=>whnf
 refine dE.mk (fun hcb=>?_) (fun hcb=>?_)
 ·have hcb:c<n:=by simpa using hcb
  conv=>whnf
  refine⟨⟨by omega,by omega⟩,?_⟩;conv=>whnf
  refine⟨.bool (decide (c∈pv)),by rw[aC,aR,aS,A6 hcb,ai],?_⟩;conv=>whnf
  refine dE.mk (fun hm=>?_) (fun hm=>?_)
  ·have hm:c∈pv:=by simpa using hm
   conv=>whnf
   refine⟨((c+1:Nat):Int),by rw[wrap64]<;>omega,?_⟩;conv=>whnf
   intro ρ3 w3 r3;exact⟨(c+1,rv,w3,_),⟨hcb,hw.tr r3.cC,cI.rel hR r3 hS,cY.rel hV r3 (bs w),by dsimp only;rw[uE hm];exact hK.rel r3 (bs w)⟩,Sub.gen [] r3 ⟨rfl,rfl,rfl,rfl,trivial⟩ ⟨rfl,rfl,rfl,rfl,rfl,rfl,trivial⟩ (by simp[dG,cW.scopd,At.sc]) (by simp[cV,SV.sc,At.sc]) (by rfl) (fun lo hi h=>h),by dsimp only;omega⟩
  have hm:c∉pv:=by simpa using hm
  conv=>whnf
  refine bz (cH (Φ:=fun _ w' v w2=>dQ w2 (fun _=>False) w'.heap.size [(w'.heap.size,w2.heap.size)] v n (List.replicate n 0)) (fun ρ w' r=>Bl n w' (by omega)) ?_);rintro ρ wa2 v2 wb2 r he hb1 hn2;replace hw:=hw.tr hb1;replace hR:=cI.cG (S':=Bs S w.heap.size ((wa2.heap.size,wb2.heap.size)::iv) v2) (cI.cD (cI.rel hR r hS) fun g hg=>he.block g (Rel.old r hS g hg)) fun g hg=>Bs.of r hS (fun x hx=>aD _ hx) hn2 hg;replace hV:=cY.cG (S':=Bs (fun _=>False) w.heap.size ((wa2.heap.size,wb2.heap.size)::iv) v2) (cY.cD (cY.rel hV r (bs w)) fun g hg=>he.block g (Rel.old r (bs w) g hg)) fun g hg=>Bs.of r (bs w) (fun x hx=>aD _ hx) hn2 hg;replace hK:=dK.cG (S':=Bs (fun _=>False) w.heap.size ((wa2.heap.size,wb2.heap.size)::iv) v2) (dK.cD (dK.rel hK r (bs w)) fun g hg=>he.block g (Rel.old r (bs w) g hg)) fun g hg=>Bs.of r (bs w) (fun x hx=>aD _ hx) hn2 hg;have hX:=hn2.cw (S:=fun _=>False) r.bu (iv:=(wa2.heap.size,wb2.heap.size)::iv) aJ;clear r he hb1 hn2;generalize (wa2.heap.size,wb2.heap.size)::iv=iv2 at*
  obtain⟨ax,cx,rfl,hcx⟩:=hX.row.form;obtain⟨gx,rfl⟩:=hX.at hn0;conv=>whnf
  refine bz (cH (Φ:=fun _ w' v w2=>cR w2 (Nw (fun _=>False) w' w2) v ((1:Int):Rat)) (fun ρ w' r=>lT 1 w' (by decide) (by decide)) ?_);rintro ρ wa3 v3 wb3 r he hb1 hn2;replace hw:=hw.tr hb1;replace hR:=cI.cG (S':=Bs S w.heap.size ((wa3.heap.size,wb3.heap.size)::iv2) (.slice (some ⟨gx,0,none⟩) n cx)) (cI.cD (cI.cD hR (Bs.same r hS)) fun g hg=>he.block g (Rel.old r hS g hg.1)) fun g hg=>Bs.mono (fun x hx=>aD _ hx) hg;replace hV:=cY.cG (S':=Bs (fun _=>False) w.heap.size ((wa3.heap.size,wb3.heap.size)::iv2) (.slice (some ⟨gx,0,none⟩) n cx)) (cY.cD (cY.cD hV (Bs.same r (bs w))) fun g hg=>he.block g (Rel.old r (bs w) g hg.1)) fun g hg=>Bs.mono (fun x hx=>aD _ hx) hg;replace hK:=dK.cG (S':=Bs (fun _=>False) w.heap.size ((wa3.heap.size,wb3.heap.size)::iv2) (.slice (some ⟨gx,0,none⟩) n cx)) (dK.cD (dK.cD hK (Bs.same r (bs w))) fun g hg=>he.block g (Rel.old r (bs w) g hg.1)) fun g hg=>Bs.mono (fun x hx=>aD _ hx) hg;have hd:=(hn2.cG (S':=Bs (fun _=>False) w.heap.size ((wa3.heap.size,wb3.heap.size)::iv2) (.slice (some ⟨gx,0,none⟩) n cx)) fun g hg=>hg.elim (fun h=>h.elim) fun h=>⟨.inr ⟨by have:=r.bu;omega,_,_,aJ,h.1,h.2⟩,fun e=>by have:=Rel.old r (bs w) g (hX.new g e);omega⟩)
  replace hX:=hX.cB (iv':=(wa3.heap.size,wb3.heap.size)::iv2) r (bs w) he fun x hx=>aD _ hx;clear r he hb1 hn2;generalize (wa3.heap.size,wb3.heap.size)::iv2=iv3 at*
  obtain⟨s3_0,s3_1,s3_2,s3_3,s3_4,s3_5,s3_6,s3_7,rfl⟩:=hd.shape;conv=>whnf
  refine⟨⟨gx,0,none⟩,rfl,⟨by omega,by omega⟩,?_⟩;conv=>whnf
  intro ρ w' r;obtain⟨g,hg,h1,h2,h3,h4,h5⟩:=(hX.rel r (bs w)).store (j:=c) hcb (hd.cD (Bs.same r (bs w))) r (bs w);injection hg with hg;injection hg with hg;subst hg;refine⟨h1,h2,h3,fun w5 hw5=>?_⟩;obtain⟨k1,k2,k3⟩:=h5 w5 hw5;have hw2:cN w.heap.size w w5:=(hw.tr r.cC).tr (cN.grown k2 (fun g e=>by injection e with e;subst e;exact h4.elim (fun h=>h.elim) fun h=>h.1) r.bu);have hR2:=cI.cD hR (Bs.kept r hS k2 fun g e=>e);have hV2:=cY.cD hV (Bs.kept r (bs w) k2 fun g e=>e);have hK2:=dK.cD hK (Bs.kept r (bs w) k2 fun g e=>e);have hnext:(List.replicate n (0:Rat)).set c ((1:Int):Rat)=ff A pv n c 0:=rfl;rw[hnext]at k1;clear hX hR hV hK hw h1 h2 h3 h4 h5 hw5 k2 k3 r hd;conv=>whnf
  refine⟨Nat×World×Iv,fun z=>⟨[(49,.o (.v (.int .i64 ((z.1:Nat):Int)))),(8,.o (.v (.int .i64 ((c:Nat):Int)))),(9,.o (.v (.slice (some ⟨gx,0,none⟩) n cx))),(32,.o (.v (.int .i64 ((c:Nat):Int)))),(47,.o (.v (.slice ap pv.length cp))),(48,.o (.v (.int .i64 pv.length))),(7,.o (.w 3 rv.length)),(1,.o (.p 0 0)),(3,.o (.p 1 0)),(4,.o (.s 2 0 n n)),(31,.o (.v (.int .i64 n)))],[(2,.arr T.bool (qK pv n pv.length)),(3,.vec T.fz 1 rv),(1,.box T.dI [.v (.slice ar A.length cr),.v (.int .i64 n),.v (.slice ap pv.length cp),.v (.slice af (cZ M n).2.2.length cf)]),(0,.box T.de [.v (.slice am M.length cm),.v (.int .i64 n)])],4,z.2.2,z.2.1⟩,fun z=>pv.length-z.1,
   fun z=>z.1<=pv.length∧cN w.heap.size w z.2.1∧cI z.2.1 (Bs S w.heap.size z.2.2 (.slice (some ⟨gx,0,none⟩) n cx)) (.slice ar A.length cr) A∧cY z.2.1 (Bs (fun _=>False) w.heap.size z.2.2 (.slice (some ⟨gx,0,none⟩) n cx)) (.slice ap pv.length cp) pv∧dK z.2.1 (Bs (fun _=>False) w.heap.size z.2.2 (.slice (some ⟨gx,0,none⟩) n cx)) rv (db A pv n c)∧dQ z.2.1 (fun _=>False) w.heap.size z.2.2 (.slice (some ⟨gx,0,none⟩) n cx) n (ff A pv n c z.1),?_,?_⟩
  ·intro ρ w' r3;exact⟨(0,w',_),⟨aN _,hw2.tr r3.cC,cI.cD hR2 (Bs.same r3 hS),cY.cD hV2 (Bs.same r3 (bs w)),dK.cD hK2 (Bs.same r3 (bs w)),k1.rel r3 (bs w)⟩,Sub.gen [] r3 ⟨rfl,rfl,rfl,rfl,trivial⟩ ⟨rfl,rfl,rfl,rfl,rfl,rfl,rfl,rfl,rfl,rfl,rfl,trivial⟩ (by simp[dG,cW.scopd,At.sc]) (by simp[cV,SV.sc,At.sc]) (by rfl) (fun lo hi h=>h)⟩
  clear hw2 hR2 hV2 hK2 k1;rintro⟨k,w3,iv⟩ ⟨hk,hw,hR,hV,hK,hX⟩;dsimp only at hk hw hR hV hK hX ⊢;conv=>whnf
  refine dE.mk (fun hkb=>?_) (fun hkb=>?_)
  ·have hkb:k<pv.length:=by simpa using hkb
   obtain⟨p,hp⟩:∃p,pv[k]? =some p:=⟨_,aB hkb⟩
   have hpc:=f4 p (aF hp);obtain⟨adp,hap,kp1,kp2⟩:=hV.at hp;obtain⟨x,hx⟩:∃x,A[k]? =some x:=⟨_,aB (by omega)⟩
   have hxl:=f3 x (aF hx);obtain⟨q,hq⟩:∃q,x[c]? =some q:=⟨_,aB (by omega)⟩
   have hat:di A k c=q:=by simp[di,List.getD,hx,hq]
   have hql:=hAb x (aF hx) q (aF hq);obtain⟨adm,um,ham,hRm,km1,km2⟩:=cT.load hR hx;obtain⟨a0,c0,rfl,hc0,-⟩:=dx.shape hRm;obtain⟨adq,cs,haq,hF,_,hl⟩:=dx.load hRm hq;obtain⟨g0,g1,g2,g3,g4,g5,g6,g7,rfl,hF⟩:=hF;conv=>whnf
   refine⟨adp,hap,⟨by omega,by omega⟩,?_⟩;conv=>whnf
   refine⟨.int .i64 (p:Int),fun ρ w' r=>?_,?_⟩
   ·rw[aC,bw (w:=w3) (w2:=w') (by rw[cL];exact Rel.same r (bs w) kp1.1)];exact kp2
   conv=>whnf
   refine⟨adm,ham,⟨by omega,by omega⟩,?_⟩;conv=>whnf
   refine⟨.slice a0 x.length c0,fun ρ w' r=>?_,?_⟩
   ·rw[aC,bw (w:=w3) (w2:=w') (by rw[cL];exact Rel.same r hS km1.1)];exact km2
   conv=>whnf
   refine⟨adq,haq,⟨by omega,by omega⟩,?_⟩;conv=>whnf
   refine⟨[.bool g0,.slice g1 g2 g3,.bool g4,.slice g5 g6 g7],rfl,fun ρ w' r j u hu=>?_,?_⟩
   ·obtain⟨k1,k2⟩:=hl j u hu;rw[aC,bw (w:=w3) (w2:=w') (by rw[cL,cL];exact Rel.same r hS k1.1)];exact k2
   conv=>whnf
   refine bz (cH (Φ:=fun _ w' v w2=>cR w2 (Nw (fun _=>False) w' w2) v (-q)) (fun ρ w' r=>Ia (S:=Bs S w.heap.size iv (.slice (some ⟨gx,0,none⟩) n cx)) (fun g hg=>Rel.old r hS g hg.1) ((hF.cD (Bs.same r hS)).l (by omega))) ?_);rintro ρ wa4 v4 wb4 r he hb1 hn2;clear hF hl;replace hw:=hw.tr hb1;replace hR:=cI.cG (S':=Bs S w.heap.size ((wa4.heap.size,wb4.heap.size)::iv) (.slice (some ⟨gx,0,none⟩) n cx)) (cI.cD (cI.cD hR (Bs.same r hS)) fun g hg=>he.block g (Rel.old r hS g hg.1)) fun g hg=>Bs.mono (fun x hx=>aD _ hx) hg;replace hV:=cY.cG (S':=Bs (fun _=>False) w.heap.size ((wa4.heap.size,wb4.heap.size)::iv) (.slice (some ⟨gx,0,none⟩) n cx)) (cY.cD (cY.cD hV (Bs.same r (bs w))) fun g hg=>he.block g (Rel.old r (bs w) g hg.1)) fun g hg=>Bs.mono (fun x hx=>aD _ hx) hg;replace hK:=dK.cG (S':=Bs (fun _=>False) w.heap.size ((wa4.heap.size,wb4.heap.size)::iv) (.slice (some ⟨gx,0,none⟩) n cx)) (dK.cD (dK.cD hK (Bs.same r (bs w))) fun g hg=>he.block g (Rel.old r (bs w) g hg.1)) fun g hg=>Bs.mono (fun x hx=>aD _ hx) hg;have hd:=(hn2.cG (S':=Bs (fun _=>False) w.heap.size ((wa4.heap.size,wb4.heap.size)::iv) (.slice (some ⟨gx,0,none⟩) n cx)) fun g hg=>hg.elim (fun h=>h.elim) fun h=>⟨.inr ⟨by have:=r.bu;omega,_,_,aJ,h.1,h.2⟩,fun e=>by have:=Rel.old r (bs w) g (hX.new g e);omega⟩)
   replace hX:=hX.cB (iv':=(wa4.heap.size,wb4.heap.size)::iv) r (bs w) he fun x hx=>aD _ hx;clear r he hb1 hn2;generalize (wa4.heap.size,wb4.heap.size)::iv=iv4 at*
   obtain⟨s4_0,s4_1,s4_2,s4_3,s4_4,s4_5,s4_6,s4_7,rfl⟩:=hd.shape;conv=>whnf
   refine⟨⟨gx,0,none⟩,rfl,⟨by omega,by omega⟩,?_⟩;conv=>whnf
   intro ρ w' r;obtain⟨g,hg,h1,h2,h3,h4,h5⟩:=(hX.rel r (bs w)).store (j:=p) (by omega) (hd.cD (Bs.same r (bs w))) r (bs w);injection hg with hg;injection hg with hg;subst hg;refine⟨h1,h2,h3,fun w5 hw5=>?_⟩;obtain⟨k1,k2,k3⟩:=h5 w5 hw5;have hw2:cN w.heap.size w w5:=(hw.tr r.cC).tr (cN.grown k2 (fun g e=>by injection e with e;subst e;exact h4.elim (fun h=>h.elim) fun h=>h.1) r.bu);have hR2:=cI.cD hR (Bs.kept r hS k2 fun g e=>e);have hV2:=cY.cD hV (Bs.kept r (bs w) k2 fun g e=>e);have hK2:=dK.cD hK (Bs.kept r (bs w) k2 fun g e=>e);have hnext:(ff A pv n c k).set p (-q)=ff A pv n c (k+1):=by rw[ga,hat,List.getD,hp];rfl
   rw[hnext]at k1;clear hX hR hV hK hw h1 h2 h3 h4 h5 hw5 k2 k3 r hd;conv=>whnf
   refine⟨((k+1:Nat):Int),by rw[wrap64]<;>omega,?_⟩;conv=>whnf
   intro ρ3 w6 r3;exact⟨(k+1,w6,_),⟨hkb,hw2.tr r3.cC,cI.cD hR2 (Bs.same r3 hS),cY.cD hV2 (Bs.same r3 (bs w)),dK.cD hK2 (Bs.same r3 (bs w)),k1.rel r3 (bs w)⟩,Sub.gen [] r3 ⟨rfl,rfl,rfl,rfl,trivial⟩ ⟨rfl,rfl,rfl,rfl,rfl,rfl,rfl,rfl,rfl,rfl,rfl,trivial⟩ (by simp[dG,cW.scopd,At.sc]) (by simp[cV,SV.sc,At.sc]) (by rfl) (fun lo hi h=>h),by dsimp only;omega⟩
  have hkb:k=pv.length:=aP hk (by simpa using hkb);rw[hkb]at hX;replace hR:=cI.cG hR fun g hg=>hg.1;replace hV:=cY.cG hV fun g hg=>hg.1;replace hK:=(dK.cG hK fun g hg=>hg.1).push (u:=(.slice (some ⟨gx,0,none⟩) n cx)) (x:=ff A pv n c pv.length) rfl (by have:=hX.c;exact this);rw[<-ry hm]at hK;clear hX;conv=>whnf
  refine .inl ?_;conv=>whnf
  refine⟨by simp,by omega,by unfold maxLen;omega,?_⟩;conv=>whnf
  refine⟨((c+1:Nat):Int),by rw[wrap64]<;>omega,?_⟩;conv=>whnf
  intro ρ3 w3 r3;exact⟨(c+1,rv++[(.slice (some ⟨gx,0,none⟩) n cx)],w3,_),⟨hcb,hw.tr r3.cC,cI.rel hR r3 hS,cY.rel hV r3 (bs w),hK.rel r3 (bs w)⟩,Sub.gen [(3,5)] r3 ⟨rfl,rfl,rfl,rfl,trivial⟩ ⟨rfl,by dsimp only;rw[List.length_append,List.length_singleton];rfl,rfl,rfl,rfl,rfl,trivial⟩ (by simp[dG,cW.scopd,At.sc]) (by simp[cV,SV.sc,At.sc]) (by rfl) (fun lo hi h=>h),by dsimp only;omega⟩
 have hcb:c=n:=aP hc (by simpa using hcb);subst hcb;conv=>whnf
 intro ρe we re;refine⟨_,rfl,hw.tr re.cC,rv,?_,hK.1,fun i u x k1 k2=>cP.cG (cP.rel (hK.2.2 i u x k1 k2) re (bs w)) fun g hg=>Cv.nw hg re⟩;rw[<-hK.1];exact(re.gR (id:=3) (sz:=1) (m:=rv.length) rfl (by simp) (by unfold maxLen;omega) (by decide) hK.2.1).cG fun g hg=>.inr hg
structure gn(w:World)(S:Nat->Prop)(B:Nat)(iv:Iv)(v:Value)(n i:Nat)(qs:List Rat):Prop where
 row:∃css,w.ownsRow 0 T.Rat 4 v n css.flatten∧fQ w (Bs S B iv v) n i css qs
 new:∀g,v.ownBlock=some g->Cv (fun _=>False) B iv g
section
variable{S S':Nat->Prop}{H:Hp}{nx n i:Nat}{iv iv':Iv}{B:Nat}{w w' w2:World}{ρ:Nat->Sx.dc}{v:Value}{qs:List Rat}
theorem gn.cD(h:gn w S B iv v n i qs)(hk:∀g,Cv S B iv g->w2.heap[g]? =w.heap[g]?):gn w2 S B iv v n i qs:=by
 obtain⟨⟨css,h1,h2⟩,h3⟩:=h;exact⟨⟨css,ownsRow.cD h1 fun g hg=>hk g (Aq (h3 g hg)),h2.cD fun g hg=>hk g hg.1⟩,h3⟩
theorem gn.rel(h:gn w S B iv v n i qs)(r:Rel H nx iv B w ρ w')(hS:∀g,S g->g<B):gn w' S B iv v n i qs:=h.cD fun _ hg=>Rel.same r hS hg
theorem gn.mono(h:gn w S B iv v n i qs)(hm:∀p,p∈iv->p∈iv'):gn w S B iv' v n i qs:=by
 obtain⟨⟨css,h1,h2⟩,h3⟩:=h;exact⟨⟨css,h1,h2.cG fun g hg=>hg.mono hm⟩,fun g hg=>(h3 g hg).mono hm⟩
theorem gn.cB(h:gn w S B iv v n i qs)(r:Rel H nx iv B w ρ w')(hS:∀g,S g->g<B)(he:Ext w' w2)(hm:∀p,p∈iv->p∈iv'):gn w2 S B iv' v n i qs:=
 ((h.rel r hS).cD fun g hg=>he.block g (Rel.old r hS g hg)).mono hm
theorem gn.mw(r:Rel H nx iv B w ρ w'){id:Nat}(h:dA H id=some (.arr T.Rat (List.replicate n [Value.bool false,.slice none 0 0,.bool false,.slice none 0 0]).flatten))(hn:n<=maxLen)(qs:List Rat):
  gn w' S B (((ρ id).g,(ρ id).g+1)::iv) (.slice (some ⟨(ρ id).g,0,none⟩) n n) n 0 qs:=by
 have hnil:=(r.fits h).1;have h4:∀cs∈List.replicate n [Value.bool false,.slice none 0 0,.bool false,.slice none 0 0],cs.length=4:=fun cs hc=>by rw[bT hc];rfl
 have hf:=eX h4;rw[bQ]at hf;refine⟨⟨List.replicate n [.bool false,.slice none 0 0,.bool false,.slice none 0 0],⟨hf,.inr ⟨(ρ id).g,n,_,rfl,aN _,r.arr id _ _ h,aG _,hn,by simp,by rw[<-hf];exact ai⟩⟩,fQ.start w' _ n qs⟩,fun g hg=>?_⟩;injection hg with hg;have hg:(ρ id).g=g:=hg;subst hg;exact .inr ⟨(r.low id _ h hnil).1,_,_,aJ,aG _,bY _⟩
theorem gn.store{a a1 a2:Option Addr}{c j n1 c1 n2 c2:Nat}{b b2:Bool}{q:Rat}(h:gn w S B iv (.slice a n c) n j qs)(hj:j<n)(hq:qs[j]? =some q)(hf:cR w (Bs S B iv (.slice a n c)) (.agg #[.bool b,.slice a1 n1 c1,.bool b2,.slice a2 n2 c2]) q)
  (r:Rel H nx iv B w ρ w') (hS:∀g,S g->g<B):
  ∃g,a=some ⟨g,0,none⟩∧((⟨g,0,none⟩:Addr).add ((j:Int).toNat*4)).spot=none∧
   (∀k,k<4->(w'.cell? (((⟨g,0,none⟩:Addr).add ((j:Int).toNat*4)).add k)).isSome=true∧w'.frozen? (((⟨g,0,none⟩:Addr).add ((j:Int).toNat*4)).add k)=false)∧
   (∀id b,dA H id=some b->(ρ id).nil=false->(ρ id).g≠((⟨g,0,none⟩:Addr).add ((j:Int).toNat*4)).block)∧
   ∀w2,w2=setCells w' ((⟨g,0,none⟩:Addr).add ((j:Int).toNat*4)) [.bool b,.slice a1 n1 c1,.bool b2,.slice a2 n2 c2]->gn w2 S B iv (.slice a n c) n (j+1) qs∧w'.grownBy w2 (some g)∧cN B w' w2∧Rel H nx iv B w2 ρ w2:=by
 obtain⟨⟨css,h1,h2⟩,h3⟩:=h.rel r hS;have hf:=hf.cD (Bs.same r hS);obtain⟨g,rfl,hok,hst,hgr,hsz⟩:=nG (nv:=[.bool b,.slice a1 n1 c1,.bool b2,.slice a2 n2 c2]) h1 rfl hj rfl (by decide);have had:(⟨g,0,none⟩:Addr).add ((j:Int).toNat*4)=⟨g,j*4,none⟩:=by rw[aC,dM,aS]
 have hnot:=Rel.not r (fa B) (h3 g rfl);refine⟨g,rfl,by rw[had],fun k hk=>by rw[had];exact hok k hk,fun id b hb hn=>by rw[had];exact hnot id b hb hn,fun w2 hw2=>?_⟩;rw[had]at hw2;subst hw2;have hset:=iJ (cs:=[.bool b,.slice a1 n1 c1,.bool b2,.slice a2 n2 c2]) h2.four (show j<css.length by rw[h2.len];exact hj);rw[hset]at hst;have hkeep:∀x,Bs S B iv (.slice (some ⟨g,0,none⟩) n c) x->(setCells w' ⟨g,j*4,none⟩ [.bool b,.slice a1 n1 c1,.bool b2,.slice a2 n2 c2]).heap[x]? =w'.heap[x]? :=fun x hx=>
  hgr.block x (Rel.old r hS x hx.1) fun e=>hx.2 e.symm
 refine⟨⟨⟨_,hst,(h2.cD hkeep).next hj hq (hf.cD hkeep)⟩,h3⟩,hgr,cN.grown hgr (fun x e=>by injection e with e;subst e;exact(h3 g rfl).elim (fun h=>h.elim) fun h=>h.1) r.bu,r.vq hnot hgr⟩
theorem gn.done(h:gn w S B iv v n n qs)(hl:qs.length=n):dQ w S B iv v n qs:=by
 obtain⟨⟨css,h1,h2⟩,h3⟩:=h;exact⟨⟨css,h1,h2.len,by rw[h2.len,hl],fun j cs q k1 k2=>h2.at_ j cs q (by rw[<-hl];exact(aE.1 k2).1) k1 k2⟩,h3⟩
end
theorem gQ(M:List (List Rat))(n:Nat):(dW M n).length=n:=by simp[dW]
theorem Ea{M:List (List Rat)}{n k:Nat}(h:k<n):(dW M n)[k]? =some (M.map fun r=>r.getD k 0):=by rw[dW,aO,List.getElem?_range h];rfl
set_option maxHeartbeats 1000000 in
theorem pL{C S:Nat->Prop}{w:World}{v:Value}{M:List (List Rat)}{n:Nat}(hC:Old C w)(hS:Old S w)(hM:jH w C S v M)(hlen:fk n M)(hn:n<=1000)(hR:M.length<=1000):
  dh PG N.iI #[.agg #[v,.int .i64 n]] w (dw w fun v' w2=>∃vr,v'= .agg #[vr,.int .i64 M.length]∧cI w2 (Nw S w w2) vr (dW M n)):=by
 have hw:cN w.heap.size w w:=cN.refl;obtain⟨am,cm,rfl,hcm,hmm⟩:=jH.shape hM;unfold maxLen at hmm;refine je (by simp) ?_;conv=>whnf
 refine⟨Nat×List Value×World×Iv,fun z=>⟨[(13,.o (.v (.int .i64 ((z.1:Nat):Int)))),(1,.o (.p 0 0)),(2,.o (.p 1 0)),(3,.o (.p 2 0)),(12,.o (.v (.int .i64 n)))],[(2,.box T.de [.w 3 z.2.1.length,.v (.int .i64 M.length)]),(3,.vec T.fz 1 z.2.1),(1,.box T.de [.v (.slice none 0 0),.v (.int .i64 0)]),(0,.box T.de [.v (.slice am M.length cm),.v (.int .i64 n)])],4,z.2.2.2,z.2.2.1⟩,fun z=>n-z.1,
  fun z=>z.1<=n∧cN w.heap.size w z.2.2.1∧dK z.2.2.1 (Cv S w.heap.size z.2.2.2) z.2.1 ((dW M n).take z.1),?_,?_⟩
 ·intro ρ w' r;exact⟨(0,[],w',[]),⟨aN _,hw.tr r.cC,by simp[dK]⟩,Sub.A5 2 0 T.fz 1 rfl rfl (by simp[cV,SV.sc,At.sc,cQ]) r fun ρ1 r1=>Sub.gen [] r1 ⟨rfl,rfl,rfl,rfl,trivial⟩ ⟨rfl,rfl,rfl,rfl,rfl,trivial⟩ (by simp[dG,cW.scopd,At.sc]) (by simp[cV,SV.sc,At.sc]) (by rfl) (fun lo hi h=>h)⟩
 clear hw;rintro⟨k,rv,w1,iv⟩ ⟨hk,hw,hK⟩;dsimp only at hk hw hK ⊢;have hrl:rv.length=k:=by rw[hK.1,aX,gQ];omega
 conv=>whnf
 refine dE.mk (fun hkb=>?_) (fun hkb=>?_)
 ·have hkb:k<n:=by simpa using hkb
  have htk:=Ea (M:=M) hkb;have hnext:(dW M n).take (k+1)=(dW M n).take k++[M.map fun r=>r.getD k 0]:=by rw[List.take_add_one,htk];rfl
  conv=>whnf
  refine⟨M.length,M.length,rfl,rfl,aG _,by omega,by omega,?_⟩;conv=>whnf
  refine⟨Nat×Nat×World×Iv,fun z=>⟨[(5,.o (.v (.slice (some ⟨z.2.1,0,none⟩) M.length M.length))),(4,.o (.v (.int .i64 ((k:Nat):Int)))),(13,.o (.v (.int .i64 ((k:Nat):Int)))),(22,.o (.v (.int .i64 M.length))),(23,.o (.v (.int .i64 ((z.1:Nat):Int)))),(1,.o (.p 0 0)),(2,.o (.p 1 0)),(3,.o (.p 2 0)),(12,.o (.v (.int .i64 n)))],[(2,.box T.de [.w 3 rv.length,.v (.int .i64 M.length)]),(3,.vec T.fz 1 rv),(1,.box T.de [.v (.slice none 0 0),.v (.int .i64 0)]),(0,.box T.de [.v (.slice am M.length cm),.v (.int .i64 n)])],5,z.2.2.2,z.2.2.1⟩,fun z=>M.length-z.1,
   fun z=>z.1<=M.length∧cN w.heap.size w z.2.2.1∧dK z.2.2.1 (Bs S w.heap.size z.2.2.2 (.slice (some ⟨z.2.1,0,none⟩) M.length M.length)) rv ((dW M n).take k)∧gn z.2.2.1 S w.heap.size z.2.2.2 (.slice (some ⟨z.2.1,0,none⟩) M.length M.length) M.length z.1 (M.map fun r=>r.getD k 0),?_,?_⟩
  ·intro ρ w' r;have hf:=gn.mw (S:=S) (n:=M.length) r (id:=4) rfl (by unfold maxLen;omega) (M.map fun r=>r.getD k 0)
   exact⟨(0,(ρ 4).g,w',((ρ 4).g,(ρ 4).g+1)::iv),⟨aN _,hw.tr r.cC,dK.cG (hK.rel r hS) fun g hg=>⟨hg.mono fun p hp=>aD _ hp,fun e=>Rel.not r hS hg 4 _ rfl (r.fits (id:=4) rfl).1 (by injection e)⟩,hf⟩,
    Sub.mw r (id:=4) (t:=5) rfl rfl ⟨rfl,rfl,rfl,rfl,trivial⟩ rfl ⟨rfl,rfl,rfl,rfl,rfl,rfl,rfl,rfl,trivial⟩ (by simp[cV,SV.sc,At.sc])⟩
  clear hw hK;rintro⟨i,gx,w2,iv⟩ ⟨hi,hw,hK,hX⟩;dsimp only at hi hw hK hX ⊢;conv=>whnf
  refine dE.mk (fun hib=>?_) (fun hib=>?_)
  ·have hib:i<M.length:=by simpa using hib
   obtain⟨x,hx⟩:∃r,M[i]? =some r:=⟨_,aB hib⟩
   have hxl:=hlen x (aF hx);obtain⟨q,hq⟩:∃q,x[k]? =some q:=⟨_,aB (by omega)⟩
   have hqd:x.getD k 0=q:=by rw[List.getD,hq];rfl
   obtain⟨adm,um,ham,hRm,km1,km2⟩:=jH.load hM hx;obtain⟨a0,c0,rfl,hc0,-⟩:=dx.shape hRm;obtain⟨adq,cs,haq,hF,_,hl⟩:=dx.load hRm hq;obtain⟨g0,g1,g2,g3,g4,g5,g6,g7,rfl,hF⟩:=hF;conv=>whnf
   refine⟨adm,ham,⟨by omega,by omega⟩,?_⟩;conv=>whnf
   refine⟨.slice a0 x.length c0,fun ρ w' r=>?_,?_⟩
   ·rw[aC,bw (w:=w) (w2:=w') (by rw[cL];exact(hw.tr r.cC).block _ (hC _ km1))];exact km2
   conv=>whnf
   refine⟨adq,haq,⟨by omega,by omega⟩,?_⟩;conv=>whnf
   refine⟨[.bool g0,.slice g1 g2 g3,.bool g4,.slice g5 g6 g7],rfl,fun ρ w' r j u hu=>?_,?_⟩
   ·obtain⟨k1,k2⟩:=hl j u hu;rw[aC,bw (w:=w) (w2:=w') (by rw[cL,cL];exact(hw.tr r.cC).block _ (hS _ k1))];exact k2
   conv=>whnf
   refine⟨⟨gx,0,none⟩,rfl,⟨by omega,by omega⟩,?_⟩;conv=>whnf
   intro ρ w' r
   have hF2:cR w2 (Bs S w.heap.size iv (.slice (some ⟨gx,0,none⟩) M.length M.length)) (.agg #[.bool g0,.slice g1 g2 g3,.bool g4,.slice g5 g6 g7]) q:=(hF.cD fun g hg=>hw.block g (hS g hg)).cG fun g hg=>⟨.inl hg,fun e=>by
    have h1:=hS g hg;rcases hX.new g e with h2|⟨h2,_⟩
    ·exact h2
    ·omega⟩
   obtain⟨g,hg,h1,h2,h3,h4⟩:=hX.store (j:=i) hib (by rw[aO,hx,<-hqd];rfl) hF2 r hS;injection hg with hg;injection hg with hg;subst hg;refine⟨h1,h2,h3,fun w5 hw5=>?_⟩;obtain⟨k1,k2,k3,k4⟩:=h4 w5 hw5;have hw2:=(hw.tr r.cC).tr k3;have hK2:=dK.cD hK (Bs.kept r hS k2 fun g e=>e);clear hX hK hw h1 h2 h3 h4 hw5 k2 k3 k4 r hF hF2 hl;conv=>whnf
   refine⟨((i+1:Nat):Int),by rw[wrap64]<;>omega,?_⟩;conv=>whnf
   intro ρ3 w6 r3;exact⟨(i+1,gx,w6,_),⟨hib,hw2.tr r3.cC,dK.cD hK2 (Bs.same r3 hS),k1.rel r3 hS⟩,Sub.gen [] r3 ⟨rfl,rfl,rfl,rfl,trivial⟩ ⟨rfl,rfl,rfl,rfl,rfl,rfl,rfl,rfl,rfl,trivial⟩ (by simp[dG,cW.scopd,At.sc]) (by simp[cV,SV.sc,At.sc]) (by rfl) (fun lo hi h=>h),by dsimp only;omega⟩
  have hib:i=M.length:=aP hi (by simpa using hib);rw[hib]at hX;have hX2:=(hX.done (by simp)).c;replace hK:=(dK.cG hK fun g hg=>hg.1).push (u:=(.slice (some ⟨gx,0,none⟩) M.length M.length)) (x:=M.map fun r=>r.getD k 0) rfl hX2;rw[<-hnext]at hK;clear hX hX2;conv=>whnf
  refine .inl ?_;conv=>whnf
  refine⟨by simp,by omega,by unfold maxLen;omega,?_⟩;conv=>whnf
  refine⟨((k+1:Nat):Int),by rw[wrap64]<;>omega,?_⟩;conv=>whnf
  intro ρ3 w3 r3;exact⟨(k+1,rv++[(.slice (some ⟨gx,0,none⟩) M.length M.length)],w3,_),⟨hkb,hw.tr r3.cC,hK.rel r3 hS⟩,Sub.gen [(3,6)] r3 ⟨by dsimp only;rw[List.length_append,List.length_singleton];rfl,rfl,rfl,rfl,trivial⟩ ⟨rfl,rfl,rfl,rfl,rfl,trivial⟩ (by simp[dG,cW.scopd,At.sc]) (by simp[cV,SV.sc,At.sc]) (by rfl) (fun lo hi h=>h),by dsimp only;omega⟩
 have hkb:k=n:=aP hk (by simpa using hkb);rw[List.take_of_length_le (by rw[gQ];omega)]at hK;conv=>whnf
 intro ρe we re;refine⟨_,rfl,hw.tr re.cC,_,rfl,rv,?_,hK.1,fun i u x k1 k2=>cP.cG (cP.rel (hK.2.2 i u x k1 k2) re hS) fun g hg=>Cv.nw hg re⟩;rw[<-hK.1];exact(re.gR (id:=3) (sz:=1) (m:=rv.length) rfl (by simp) (by unfold maxLen;omega) (by decide) hK.2.1).cG fun g hg=>.inr hg
end Go.Ex
namespace Go.Ex
def mulR(M:List (List Rat))(n:Nat)(x:Nat->Rat)(j:Nat):Rat:=dU (fun t=>di M j t*x t) n
theorem du.dot{E:Mx}{r n:Nat}{v:Nat->Rat}(h:du E r n v):∃c:Nat->Rat,(∀t,t<n->v t=dU (fun i=>c i*E i t) r)∧∀x:Nat->Rat,dU (fun t=>v t*x t) n=dU (fun i=>c i*dU (fun t=>E i t*x t) n) r:=by
 obtain⟨c,hc⟩:=h;refine⟨c,hc,fun x=>?_⟩;rw[cM (g:=fun t=>dU (fun i=>c i*E i t*x t) r) fun t ht=>by rw[hc t ht,<-s0],wQ];exact cM fun i _=>by rw[<-gK];exact cM fun t _=>Rat.mul_assoc _ _ _
section
variable{M:List (List Rat)}{n:Nat}{x:Nat->Rat}{b:List Rat}
theorem Fg(hM:fk n M){c:Nat}(hc:c<=n)(h:∀i,i<M.length->mulR (cJ M c).1 n x i=0):∀j,j<M.length->mulR M n x j=0:=fun j hj=>by
 obtain⟨c,_,h2⟩:=((jo hM c hc).2 j hj).dot;unfold mulR;rw[h2 x,cM (g:=fun _=>0) fun i hi=>by rw[show dU (fun t=>di (cJ M _).1 i t*x t) n=0 from h i hi,bU],fJ]
theorem Fh{A:List (List Rat)}{r i t:Nat}(h:i<r):di (A.take r) i t=di A i t:=by
 rw[di,di,show(A.take r).getD i []=A.getD i [] by rw[List.getD,bM h,<-List.getD]]
theorem ta(A:List (List Rat))(pv:List Nat)(n c:Nat):∀k,k<=pv.length->ff (A.take pv.length) pv n c k=ff A pv n c k
 |0,_=>rfl
 |k+1,h=>by rw[ga,ga,ta A pv n c k (by omega),Fh (by omega)]
abbrev fq(M:List (List Rat))(n:Nat):List (List Rat):=db (cJ M n).1 (cJ M n).2 n n
theorem wg{B:Nat}(hM:fk n M)(hW:FB M n B):iN M n=fq M n:=by
 obtain⟨e1,e2⟩:=pj hM hW;unfold iN fq db;rw[e1,e2];exact List.map_congr_left fun c _=>ta _ _ n c _ (aG _)
theorem qt(M:List (List Rat))(n:Nat):(fq M n).length=(im (cJ M n).2 n).length:=by unfold fq db;rw[aM]
theorem Fi(M:List (List Rat))(n:Nat){k:Nat}(hk:k<(fq M n).length):(fq M n).getD k []=ff (cJ M n).1 (cJ M n).2 n ((im (cJ M n).2 n).getD k 0) (cJ M n).2.length:=by
 obtain⟨r,hr⟩:∃r,(fq M n)[k]? =some r:=⟨_,aB hk⟩
 rw[List.getD,hr];exact(pe hr).2
theorem Fj(hM:fk n M){k:Nat}(hk:k<(fq M n).length):∀j,j<M.length->mulR M n (di (fq M n) k) j=0:=by
 obtain⟨r1,r2,r3,r4,r5⟩:=eC hM n (aG _);have hpc:=ll M n;have hl:=eK M n;have hf:=qh.1 (qi (by rw[<-qt];exact hk));refine Fg hM (aG n) fun i hi=>?_;have hrow:=Fi M n hk;generalize hc:(im (cJ M n).2 n).getD k 0=c at hf hrow;have hin:∀j,j<(cJ M n).2.length->di (fq M n) k ((cJ M n).2.getD j 0)= -(di (cJ M n).1 j c):=fun j hj=>by
  rw[di,hrow];exact D2 (F:=ff (cJ M n).1 (cJ M n).2 n c) (f:=fun i=> -(di (cJ M n).1 i c)) (fun i=>ga _ _ n c i) (yR _ _ n c) hpc.2.1 r4 _ (aG _) hj
 have hout:∀t,t∉(cJ M n).2->di (fq M n) k t=if t=c then 1 else 0:=fun t ht=>by rw[di,hrow];exact BV ht hf.1
 unfold mulR;rcases aV i (cJ M n).2.length with h1|h1
 ·have hpi:(cJ M n).2.getD i 0∈(cJ M n).2:=by rw[List.getD,aB h1];exact bL _
  have hne:(cJ M n).2.getD i 0≠c:=fun e=>hf.2 (e▸hpi);have e:dU (fun t=>di (cJ M n).1 i t*di (fq M n) k t) n=dU (fun t=>(if t=(cJ M n).2.getD i 0 then -(di (cJ M n).1 i c)else 0)+(if t=c then di (cJ M n).1 i c else 0)) n:=by
   refine cM fun t ht=>?_;by_cases hp:t∈(cJ M n).2
   ·obtain⟨j,hj,rfl⟩:=IP hp;rw[hin j hj,r5 j i hj (by omega),aK (show ¬(cJ M n).2.getD j 0=c from fun e=>hf.2 (e▸hp)),Rat.add_zero];by_cases hij:i=j
    ·rw[if_pos hij,if_pos (by rw[hij]),hij,bq]
    ·have hne2:(cJ M n).2.getD j 0≠(cJ M n).2.getD i 0:=fun e2=>hij (by
      rcases bj i j with h5|h5|h5
      ·have:(cJ M n).2.getD i 0<(cJ M n).2.getD j 0:=FY hpc.2.1 h5 hj;omega
      ·exact h5
      ·have:(cJ M n).2.getD j 0<(cJ M n).2.getD i 0:=FY hpc.2.1 h5 h1
       omega)
     rw[aK hij,aK hne2,bS]
   ·rw[hout t hp,aK (show ¬t=(cJ M n).2.getD i 0 from fun e2=>hp (e2▸hpi)),Rat.zero_add];by_cases htc:t=c
    ·rw[if_pos htc,if_pos htc,htc,Rat.mul_one]
    ·rw[aK htc,aK htc,bU]
  rw[e,gb,fW (i:=(cJ M n).2.getD i 0) (r4 _ hpi) fun t _ hne=>aK hne,fW (i:=c) hf.1 fun t _ hne=>aK hne,if_pos rfl,if_pos rfl];grind
 ·rw[cM (g:=fun _=>0) fun t ht=>by rw[r3 i t h1 (by omega) ht,bS],fJ]
theorem HM{c:Nat->Rat}(h:∀t,t<n->dU (fun k=>c k*di (fq M n) k t) (fq M n).length=0):∀k,k<(fq M n).length->c k=0:=fun k hk=>by
 have hk2:k<(im (cJ M n).2 n).length:=by rw[<-qt];exact hk
 have hf:=qh.1 (qi hk2);have h1:=h _ hf.1;obtain⟨r,hr⟩:∃r,(fq M n)[k]? =some r:=⟨_,aB hk⟩
 rw[fW hk fun i hi hne=>?_]at h1
 ·rw[di,show(fq M n).getD k []=r by rw[List.getD,hr];rfl,wN hr hr,if_pos rfl,Rat.mul_one]at h1;exact h1
 ·obtain⟨s,hs⟩:∃s,(fq M n)[i]? =some s:=⟨_,aB hi⟩
  rw[di,show(fq M n).getD i []=s by rw[List.getD,hs];rfl,wN hr hs,aK hne,bU]
end
theorem wh(p:Nat->Bool):∀l:List Nat,l.length=(l.filter p).length+(l.filter fun c=> !p c).length
 |[]=>rfl
 |c::l=>by
  have ih:=wh p l;rw[List.filter_cons,List.filter_cons]
  cases p c with
  |true=>simp;omega
  |false=>simp;omega
theorem Fk{pv:List Nat}{n:Nat}(hn:pv.Nodup)(hl:∀p∈pv,p<n):(im pv n).length=n-pv.length:=by
 have h1:(List.range n).length=((List.range n).filter fun c=>decide (c∉pv)).length+((List.range n).filter fun c=>decide (c∈pv)).length:=by
  refine(wh (fun c=>decide (c∉pv)) (List.range n)).trans ?_;congr 2;refine List.filter_congr fun c _=>?_;by_cases h:c∈pv<;>simp[h]
 have h2:((List.range n).filter fun c=>decide (c∈pv)).length=pv.length:=by
  refine(List.Perm.length_eq ?_);refine(List.perm_ext_iff_of_nodup (List.Pairwise.filter _ List.nodup_range) hn).2 fun c=>?_;rw[List.mem_filter,List.mem_range,decide_eq_true_eq];exact⟨fun h=>h.2,fun h=>⟨hl c h,h⟩⟩
 rw[List.length_range]at h1;unfold im;omega
theorem wi{M:List (List Rat)}{n:Nat}(hM:fk n M):(fq M n).length=n-(cJ M n).2.length:=by
 obtain⟨r1,r2,r3,r4,r5⟩:=eC hM n (aG _);have hpc:=ll M n;rw[qt];exact Fk (hpc.2.1.imp fun h=>Nat.ne_of_lt h) r4
end Go.Ex
namespace Go.Ex
open Go Go.Sx Go.Proofs
theorem cI.nil{w:World}{S:Nat->Prop}:cI w S (.slice none 0 0) []:=⟨[],⟨by decide,rfl,fun u hu=>absurd hu (by simp),none,0,rfl,aG _,fun j u hu=>absurd hu (by simp)⟩,rfl,fun i u x h1 h2=>absurd h2 (by simp)⟩
theorem cY.nil{w:World}{S:Nat->Prop}:cY w S (.slice none 0 0) []:=⟨by decide,rfl,fun u hu=>absurd hu (by simp),none,0,rfl,aG _,fun j u hu=>absurd hu (by simp)⟩
theorem Ag(M:List (List Rat)):(cZ M 0).1=[]∧(cZ M 0).2.1=[]∧(cZ M 0).2.2=[]:=by simp[cZ,cX]
theorem Ah(M:List (List Rat)):iN M 0=[]:=by simp[iN,db]
set_option maxHeartbeats 1000000 in
theorem uH{C S:Nat->Prop}{w:World}{v:Value}{M:List (List Rat)}(hC:Old C w)(hS:Old S w)(hM:jH w C S v M)(hlen:fk 0 M)(hR:M.length<=1000):
  dh PG N.ee #[.agg #[v,.int .i64 0],.int .i64 0] w (dw w fun v' w2=>v'= .agg #[.slice none 0 0,.int .i64 0,.slice none 0 0,.slice none 0 0]):=by
 have hw:cN w.heap.size w w:=cN.refl;obtain⟨am,cm,rfl,hcm,hmm⟩:=jH.shape hM;unfold maxLen at hmm;refine iX (by simp) ?_;conv=>whnf
 refine⟨0,0,rfl,rfl,aG _,by omega,by omega,?_⟩;conv=>whnf
 refine⟨World,fun z=>⟨[(1,.o (.v (.int .i64 0))),(2,.o (.p 0 0)),(4,.o (.p 1 0)),(5,.o (.p 2 0)),(6,.o (.s 3 0 0 0)),(27,.o (.v (.int .i64 0))),(28,.o (.v (.int .i64 0)))],[(3,.arr T.int []),(2,.box T.dI [.v (.slice none 0 0),.v (.int .i64 0),.v (.slice none 0 0),.v (.slice none 0 0)]),(1,.box T.dI [.v (.slice none 0 0),.v (.int .i64 0),.v (.slice none 0 0),.v (.slice none 0 0)]),(0,.box T.de [.v (.slice am M.length cm),.v (.int .i64 0)])],4,[],z⟩,fun z=>0,fun z=>cN w.heap.size w z,?_,?_⟩
 ·intro ρ w' r3;exact⟨w',hw.tr r3.cC,Sub.gen [] r3 ⟨rfl,rfl,rfl,rfl,trivial⟩ ⟨rfl,rfl,rfl,rfl,rfl,rfl,rfl,trivial⟩ (by simp[dG,cW.scopd,At.sc]) (by simp[cV,SV.sc,At.sc]) (by rfl) (fun lo hi h=>h)⟩
 clear hw;rintro w1 hw;dsimp only at hw ⊢;conv=>whnf
 refine⟨Nat×World,fun z=>⟨[(38,.o (.v (.int .i64 ((z.1:Nat):Int)))),(1,.o (.v (.int .i64 0))),(2,.o (.p 0 0)),(4,.o (.p 1 0)),(5,.o (.p 2 0)),(6,.o (.s 3 0 0 0)),(36,.o (.v (.slice am M.length cm))),(37,.o (.v (.int .i64 M.length)))],[(3,.arr T.int []),(2,.box T.dI [.v (.slice none 0 0),.v (.int .i64 0),.v (.slice none 0 0),.v (.slice none 0 0)]),(1,.box T.dI [.v (.slice none 0 0),.v (.int .i64 0),.v (.slice none 0 0),.v (.slice none 0 0)]),(0,.box T.de [.v (.slice am M.length cm),.v (.int .i64 0)])],5,[],z.2⟩,fun z=>M.length-z.1,
  fun z=>z.1<=M.length∧cN w.heap.size w z.2,?_,?_⟩
 ·intro ρ w' r3;exact⟨(0,w'),⟨aN _,hw.tr r3.cC⟩,Sub.gen [] r3 ⟨rfl,rfl,rfl,rfl,trivial⟩ ⟨rfl,rfl,rfl,rfl,rfl,rfl,rfl,rfl,trivial⟩ (by simp[dG,cW.scopd,At.sc]) (by simp[cV,SV.sc,At.sc]) (by rfl) (fun lo hi h=>h)⟩
 clear hw;rintro⟨i,w1⟩ ⟨hi,hw⟩;dsimp only at hi hw ⊢;conv=>whnf
 refine dE.mk (fun hib=>?_) (fun hib=>?_)
 ·have hib:i<M.length:=by simpa using hib
  obtain⟨x,hx⟩:∃r,M[i]? =some r:=⟨_,aB hib⟩
  have hxl:=hlen x (aF hx);obtain rfl:=List.eq_nil_of_length_eq_zero hxl;obtain⟨adm,um,ham,hRm,km1,km2⟩:=jH.load hM hx;obtain⟨css,⟨-,g1,g2,a0,c0,rfl,g4,g5⟩,hcl,hc4,hcs⟩:=hRm;obtain rfl:=List.eq_nil_of_length_eq_zero hcl;conv=>whnf
  refine⟨adm,ham,⟨by omega,by omega⟩,?_⟩;conv=>whnf
  refine⟨.slice a0 0 c0,fun ρ w' r=>?_,?_⟩
  ·rw[aC,bw (w:=w) (w2:=w') (by rw[cL];exact(hw.tr r.cC).block _ (hC _ km1))];exact km2
  conv=>whnf
  refine .inl ?_;conv=>whnf
  refine⟨[],rfl,g2,fun ρ w' r hpos=>absurd hpos (by simp),?_⟩;conv=>whnf
  refine⟨rfl,by omega,by unfold maxLen;omega,?_⟩;conv=>whnf
  refine⟨World,fun z=>⟨[(9,.o (.w 6 0)),(46,.o (.v (.int .i64 0))),(47,.o (.v (.int .i64 0))),(2,.o (.p 0 0)),(4,.o (.p 1 0)),(5,.o (.p 2 0)),(6,.o (.s 3 0 0 0)),(8,.o (.v (.int .i64 ((i:Nat):Int)))),(36,.o (.v (.slice am M.length cm))),(37,.o (.v (.int .i64 M.length))),(38,.o (.v (.int .i64 ((i:Nat):Int)))),(1,.o (.v (.int .i64 0)))],[(6,.vec T.Rat 4 []),(3,.arr T.int []),(2,.box T.dI [.v (.slice none 0 0),.v (.int .i64 0),.v (.slice none 0 0),.v (.slice none 0 0)]),(1,.box T.dI [.v (.slice none 0 0),.v (.int .i64 0),.v (.slice none 0 0),.v (.slice none 0 0)]),(0,.box T.de [.v (.slice am M.length cm),.v (.int .i64 0)])],7,[],z⟩,fun z=>0,fun z=>cN w.heap.size w z,?_,?_⟩
  ·intro ρ w' r3;exact⟨w',hw.tr r3.cC,Sub.gen [] r3 ⟨rfl,rfl,rfl,rfl,rfl,trivial⟩ ⟨rfl,rfl,rfl,rfl,rfl,rfl,rfl,rfl,rfl,rfl,rfl,rfl,trivial⟩ (by simp[dG,cW.scopd,At.sc]) (by simp[cV,SV.sc,At.sc]) (by rfl) (fun lo hi h=>h)⟩
  clear hw;rintro w1 hw;dsimp only at hw ⊢;conv=>whnf
  refine⟨World,fun z=>⟨[(9,.o (.w 6 0)),(12,.o (.v (.int .i64 0))),(2,.o (.p 0 0)),(4,.o (.p 1 0)),(5,.o (.p 2 0)),(6,.o (.s 3 0 0 0)),(8,.o (.v (.int .i64 ((i:Nat):Int)))),(36,.o (.v (.slice am M.length cm))),(37,.o (.v (.int .i64 M.length))),(38,.o (.v (.int .i64 ((i:Nat):Int)))),(1,.o (.v (.int .i64 0)))],[(6,.vec T.Rat 4 []),(3,.arr T.int []),(2,.box T.dI [.v (.slice none 0 0),.v (.int .i64 0),.v (.slice none 0 0),.v (.slice none 0 0)]),(1,.box T.dI [.v (.slice none 0 0),.v (.int .i64 0),.v (.slice none 0 0),.v (.slice none 0 0)]),(0,.box T.de [.v (.slice am M.length cm),.v (.int .i64 0)])],7,[],z⟩,fun z=>0,fun z=>cN w.heap.size w z,?_,?_⟩
  ·intro ρ w' r3;exact⟨w',hw.tr r3.cC,Sub.gen [] r3 ⟨rfl,rfl,rfl,rfl,rfl,trivial⟩ ⟨rfl,rfl,rfl,rfl,rfl,rfl,rfl,rfl,rfl,rfl,rfl,trivial⟩ (by simp[dG,cW.scopd,At.sc]) (by simp[cV,SV.sc,At.sc]) (by rfl) (fun lo hi h=>h)⟩
  clear hw;rintro w1 hw;dsimp only at hw ⊢;conv=>whnf
  refine⟨((i+1:Nat):Int),by rw[wrap64]<;>omega,?_⟩;conv=>whnf
  intro ρ3 w3 r3;exact⟨(i+1,w3),⟨hib,hw.tr r3.cC⟩,Sub.gen [] r3 ⟨rfl,rfl,rfl,rfl,trivial⟩ ⟨rfl,rfl,rfl,rfl,rfl,rfl,rfl,rfl,trivial⟩ (by simp[dG,cW.scopd,At.sc]) (by simp[cV,SV.sc,At.sc]) (by rfl) (fun lo hi h=>h),by dsimp only;omega⟩
 refine⟨World,fun z=>⟨[(4,.o (.p 1 0)),(5,.o (.p 2 0)),(17,.o (.p 5 0)),(159,.o (.s 3 0 0 0)),(160,.o (.v (.int .i64 0))),(161,.o (.v (.int .i64 0)))],[(5,.box T.dI [.v (.slice none 0 0),.v (.int .i64 0),.v (.slice none 0 0),.v (.slice none 0 0)]),(3,.arr T.int []),(2,.box T.dI [.v (.slice none 0 0),.v (.int .i64 0),.v (.slice none 0 0),.v (.slice none 0 0)]),(1,.box T.dI [.v (.slice none 0 0),.v (.int .i64 0),.v (.slice none 0 0),.v (.slice none 0 0)]),(0,.box T.de [.v (.slice am M.length cm),.v (.int .i64 0)])],6,[],z⟩,fun z=>0,fun z=>cN w.heap.size w z,?_,?_⟩
 ·intro ρ w' r3;exact⟨w',hw.tr r3.cC,Sub.gen [] r3 ⟨rfl,rfl,rfl,rfl,rfl,trivial⟩ ⟨rfl,rfl,rfl,rfl,rfl,rfl,trivial⟩ (by simp[dG,cW.scopd,At.sc]) (by simp[cV,SV.sc,At.sc]) (by rfl) (fun lo hi h=>h)⟩
 clear hw;rintro w1 hw;dsimp only at hw ⊢;conv=>whnf
 intro ρe we re;exact⟨_,rfl,hw.tr re.cC,rfl⟩
theorem DG{C S:Nat->Prop}{w:World}{v:Value}{M:List (List Rat)}(hC:Old C w)(hS:Old S w)(hM:jH w C S v M)(hlen:fk 0 M)(hR:M.length<=1000):
  dh PG N.ee #[.agg #[v,.int .i64 0],.int .i64 0] w (dw w fun v' w2=>∃vr vp vf,v'= .agg #[vr,.int .i64 0,vp,vf]∧cI w2 (Nw S w w2) vr (cZ M 0).1∧cY w2 (Nw (fun _=>False) w w2) vp (cZ M 0).2.1∧cY w2 (Nw (fun _=>False) w w2) vf (cZ M 0).2.2):=by
 refine(uH hC hS hM hlen hR).mono fun v1 w1 h1=>?_;obtain⟨_,e,hb,rfl⟩:=h1;obtain⟨e1,e2,e3⟩:=Ag M;rw[e1,e2,e3];exact⟨_,e,hb,_,_,_,rfl,cI.nil,cY.nil,cY.nil⟩
theorem DH{C S:Nat->Prop}{w:World}{v:Value}{M:List (List Rat)}{n h:Nat}(hC:Old C w)(hS:Old S w)(hM:jH w C S v M)(hlen:fk n M)(hR:M.length<=1000)(hn:n<=1000)(hB:qH M n h)(hh:3*h<=90000):
  dh PG N.ee #[.agg #[v,.int .i64 n],.int .i64 n] w (dw w fun v' w2=>∃vr vp vf,v'= .agg #[vr,.int .i64 n,vp,vf]∧cI w2 (Nw S w w2) vr (cZ M n).1∧cY w2 (Nw (fun _=>False) w w2) vp (cZ M n).2.1∧cY w2 (Nw (fun _=>False) w w2) vf (cZ M n).2.2):=by
 rcases bE n with h0|h0
 ·subst h0;exact DG hC hS hM hlen hR
 ·exact lV hC hS hM hlen h0 hn hR (aG _) hB hh
set_option maxHeartbeats 1000000 in
theorem DI{C S:Nat->Prop}{w:World}{v:Value}{M:List (List Rat)}(hC:Old C w)(hS:Old S w)(hM:jH w C S v M)(hlen:fk 0 M)(hR:M.length<=1000):
  dh PG N.fY #[.agg #[v,.int .i64 0]] w (dw w fun v' w2=>cI w2 (Nw (fun _=>False) w w2) v' (iN M 0)):=by
 have hw:cN w.heap.size w w:=cN.refl;obtain⟨am,cm,rfl,hcm,hmm⟩:=jH.shape hM;unfold maxLen at hmm;refine iY (by simp) ?_;conv=>whnf
 refine bz (cH (Φ:=fun _ w' v w2=>v= .agg #[.slice none 0 0,.int .i64 0,.slice none 0 0,.slice none 0 0]) (fun ρ w' r=>by
  obtain⟨rv,m1,m2,m3⟩:=hM
  exact uH (C:=C) (S:=S) (fun g hg=>by have:=hC g hg;have:=r.bu;omega) (fun g hg=>by have:=hS g hg;have:=r.bu;omega) ⟨rv,m1.cD fun g hg=>(hw.tr r.cC).block g (hC g hg),m2,fun i u x h1 h2=>cP.cD (m3 i u x h1 h2) fun g hg=>(hw.tr r.cC).block g (hS g hg)⟩ hlen hR) ?_)
 rintro ρ wa1 v1 wb1 r he hb1 rfl;replace hw:=hw.tr hb1;clear r he hb1;generalize (wa1.heap.size,wb1.heap.size)::[]=iv1 at*
 conv=>whnf
 refine⟨0,0,rfl,rfl,aG _,by omega,by omega,?_⟩;conv=>whnf
 refine⟨World×Iv,fun z=>⟨[(1,.o (.p 0 0)),(3,.o (.p 1 0)),(4,.o (.s 2 0 0 0)),(20,.o (.v (.slice none 0 0))),(21,.o (.v (.int .i64 0))),(22,.o (.v (.int .i64 0)))],[(2,.arr T.bool []),(1,.box T.dI [.v (.slice none 0 0),.v (.int .i64 0),.v (.slice none 0 0),.v (.slice none 0 0)]),(0,.box T.de [.v (.slice am M.length cm),.v (.int .i64 0)])],3,z.2,z.1⟩,fun z=>0,fun z=>cN w.heap.size w z.1,?_,?_⟩
 ·intro ρ w' r3;exact⟨(w',_),hw.tr r3.cC,Sub.gen [] r3 ⟨rfl,rfl,rfl,trivial⟩ ⟨rfl,rfl,rfl,rfl,rfl,rfl,trivial⟩ (by simp[dG,cW.scopd,At.sc]) (by simp[cV,SV.sc,At.sc]) (by rfl) (fun lo hi h=>h)⟩
 clear hw;rintro⟨w1,iv⟩ hw;dsimp only at hw ⊢;conv=>whnf
 refine⟨World×Iv,fun z=>⟨[(32,.o (.v (.int .i64 0))),(7,.o (.v (.slice none 0 0))),(1,.o (.p 0 0)),(3,.o (.p 1 0)),(4,.o (.s 2 0 0 0)),(31,.o (.v (.int .i64 0)))],[(2,.arr T.bool []),(1,.box T.dI [.v (.slice none 0 0),.v (.int .i64 0),.v (.slice none 0 0),.v (.slice none 0 0)]),(0,.box T.de [.v (.slice am M.length cm),.v (.int .i64 0)])],3,z.2,z.1⟩,fun z=>0,fun z=>cN w.heap.size w z.1,?_,?_⟩
 ·intro ρ w' r3;exact⟨(w',_),hw.tr r3.cC,Sub.gen [] r3 ⟨rfl,rfl,rfl,trivial⟩ ⟨rfl,rfl,rfl,rfl,rfl,rfl,trivial⟩ (by simp[dG,cW.scopd,At.sc]) (by simp[cV,SV.sc,At.sc]) (by rfl) (fun lo hi h=>h)⟩
 clear hw;rintro⟨w1,iv⟩ hw;dsimp only at hw ⊢;conv=>whnf
 intro ρe we re;rw[Ah];exact⟨_,rfl,hw.tr re.cC,cI.nil⟩
theorem xq{C S:Nat->Prop}{w:World}{v:Value}{M:List (List Rat)}{n h:Nat}(hC:Old C w)(hS:Old S w)(hM:jH w C S v M)(hlen:fk n M)(hR:M.length<=1000)(hn:n<=1000)(hB:qH M n h)(hAb:Ht (cZ M n).1 h)(hh:3*h<=90000):
  dh PG N.fY #[.agg #[v,.int .i64 n]] w (dw w fun v' w2=>cI w2 (Nw (fun _=>False) w w2) v' (iN M n)):=by
 rcases bE n with h0|h0
 ·subst h0;exact DI hC hS hM hlen hR
 ·exact zU hC hS hM hlen h0 hn hR hB hAb hh
theorem tJ{k:Nat}{css:List (List Value)}(h:∀cs∈css,cs.length=k):css.flatten.length=css.length*k:=by
 induction css with
 |nil=>simp
 |cons c r ih=>rw[List.flatten_cons,List.length_append,h c aJ,ih fun x hx=>h x (aD _ hx),List.length_cons,Nat.succ_mul];omega
theorem tK{k:Nat}{css:List (List Value)}(h:∀cs∈css,cs.length=k){j:Nat}{cs:List Value}(hj:css[j]? =some cs)(i:Nat)(u:Value)(hu:cs[i]? =some u):css.flatten[j*k+i]? =some u:=by
 induction css generalizing j with
 |nil=>cases hj
 |cons c r ih=>
  have hc:=h c aJ;have hi:=(aE.1 hu).1
  cases j with
  |zero=>
   injection hj with hj;subst hj;rw[List.flatten_cons,Nat.zero_mul,aS,aL hi];exact hu
  |succ j=>
   rw[List.flatten_cons,aQ (by rw[hc,Nat.succ_mul];omega),hc,show(j+1)*k+i-k=j*k+i by rw[Nat.succ_mul];omega];exact ih (fun x hx=>h x (aD _ hx)) hj
def eH{α:Type}(k:Nat)(P:World->(Nat->Prop)->List Value->α->Prop)(w:World)(S:Nat->Prop)(v:Value)(xs:List α):Prop:=
 ∃css:List (List Value),iS w S k v css.flatten xs.length∧css.length=xs.length∧(∀cs∈css,cs.length=k)∧∀(j:Nat) cs x,css[j]? =some cs->xs[j]? =some x->P w S cs x
section
variable{α:Type}{k:Nat}{P:World->(Nat->Prop)->List Value->α->Prop}{w w2:World}{S S':Nat->Prop}{v:Value}{xs:List α}
theorem eH.cD(hP:∀cs x,P w S cs x->P w2 S cs x)(h:eH k P w S v xs)(hk:∀g,S g->w2.heap[g]? =w.heap[g]?):eH k P w2 S v xs:=by
 obtain⟨css,h1,h2,h3,h4⟩:=h;exact⟨css,h1.cD hk,h2,h3,fun j cs x k1 k2=>hP cs x (h4 j cs x k1 k2)⟩
theorem eH.cG(hP:∀cs x,P w S cs x->P w S' cs x)(h:eH k P w S v xs)(hk:∀g,S g->S' g):eH k P w S' v xs:=by
 obtain⟨css,h1,h2,h3,h4⟩:=h;exact⟨css,h1.cG hk,h2,h3,fun j cs x k1 k2=>hP cs x (h4 j cs x k1 k2)⟩
theorem eH.shape(h:eH k P w S v xs):∃a c,v= .slice a xs.length c∧xs.length<=c∧xs.length<=maxLen:=by
 obtain⟨css,⟨h0,_,_,a,c,h1,h2,_⟩,_⟩:=h;exact⟨a,c,h1,h2,h0⟩
theorem eH.load{a:Option Addr}{m c j:Nat}{x:α}(hk:0<k)(h:eH k P w S (.slice a m c) xs)(hq:xs[j]? =some x):
  ∃ad cs,a=some ad∧P w S cs x∧cs.length=k∧∀i u,cs[i]? =some u->S ad.block∧w.cell? ((ad.add (j*k)).add i)=some u:=by
 obtain⟨css,⟨h0,h1,h2,a',c',e,h3,h4⟩,hl,hl4,hf⟩:=h;injection e with e1 e2 e3;subst e1;obtain⟨cs,hcs⟩:∃cs,css[j]? =some cs:=⟨_,aB (by rw[hl];exact(aE.1 hq).1)⟩
 have hl:=hl4 cs (aF hcs);obtain⟨ad,k1,k2,k3⟩:=h4 (j*k+0) _ (tK hl4 hcs 0 _ (aB (show 0<cs.length by omega)));refine⟨ad,cs,k1,hf j cs x hcs hq,hl,fun i u hu=>?_⟩;obtain⟨ad2,m1,m2,m3⟩:=h4 (j*k+i) u (tK hl4 hcs i u hu);rw[k1]at m1;injection m1 with m1;subst m1;refine⟨m2,?_⟩;rw[<-m3];have:(ad.add (j*k)).add i=ad.add (j*k+i):=by
  unfold Addr.add;split<;>split<;>simp_all<;>omega
 rw[this]
end
def Dj(_w:World)(_S:Nat->Prop)(cs:List Value)(p:Int×Int×Int):Prop:=cs=[.int .i64 p.1,.int .i64 p.2.1,.int .i64 p.2.2]
def Dk(_w:World)(_S:Nat->Prop)(cs:List Value)(p:Ld):Prop:=cs=[.int .i64 p.1,.int .i64 p.2.1,.int .i64 p.2.2.1,.int .i64 p.2.2.2]
def A7(w:World)(S:Nat->Prop)(cs:List Value)(p:Int×Int×Rat):Prop:=∃b a n c b2 a2 n2 c2,cs=[.int .i64 p.1,.int .i64 p.2.1,.bool b,.slice a n c,.bool b2,.slice a2 n2 c2]∧eG w S (.agg #[.bool b,.slice a n c,.bool b2,.slice a2 n2 c2]) p.2.2
theorem A7.cD{w w2:World}{S:Nat->Prop}{cs:List Value}{p:Int×Int×Rat}(h:A7 w S cs p)(hk:∀g,S g->w2.heap[g]? =w.heap[g]?):A7 w2 S cs p:=by
 obtain⟨b,a,n,c,b2,a2,n2,c2,h1,h2⟩:=h;exact⟨b,a,n,c,b2,a2,n2,c2,h1,h2.cD hk⟩
theorem A7.cG{w:World}{S S':Nat->Prop}{cs:List Value}{p:Int×Int×Rat}(h:A7 w S cs p)(hk:∀g,S g->S' g):A7 w S' cs p:=by
 obtain⟨b,a,n,c,b2,a2,n2,c2,h1,h2⟩:=h;exact⟨b,a,n,c,b2,a2,n2,c2,h1,h2.cG hk⟩
abbrev kp:=eH 3 Dj
abbrev ix:=eH 4 Dk
abbrev GL:=eH 6 A7
structure dT(w:World)(S:Nat->Prop)(vn vb vs:Value)(f:fK):Prop where
 nodes:kp w S vn f.nodes
 bars:GL w S vb f.bars
 cO:GL w S vs f.cO
section
variable{S S':Nat->Prop}{H:Hp}{nx:Nat}{iv iv':Iv}{B:Nat}{w w' w2:World}{ρ:Nat->Sx.dc}{v vn vb vs:Value}{f:fK}{l:List Ld}
theorem ix.cD(h:ix w S v l)(hk:∀g,S g->w2.heap[g]? =w.heap[g]?):ix w2 S v l:=eH.cD (w:=w) (fun _ _ h=>h) h hk
theorem dT.cD(h:dT w S vn vb vs f)(hk:∀g,S g->w2.heap[g]? =w.heap[g]?):dT w2 S vn vb vs f:=
 ⟨eH.cD (w:=w) (fun _ _ h=>h) h.nodes hk,eH.cD (fun _ _ h=>h.cD hk) h.bars hk,eH.cD (fun _ _ h=>h.cD hk) h.cO hk⟩
theorem dT.cG(h:dT w S vn vb vs f)(hk:∀g,S g->S' g):dT w S' vn vb vs f:=
 ⟨eH.cG (S:=S) (fun _ _ h=>h) h.nodes hk,eH.cG (fun _ _ h=>h.cG hk) h.bars hk,eH.cG (fun _ _ h=>h.cG hk) h.cO hk⟩
theorem dT.rel(h:dT w (Cv S B iv) vn vb vs f)(r:Rel H nx iv B w ρ w')(hS:∀g,S g->g<B):dT w' (Cv S B iv) vn vb vs f:=h.cD fun _ hg=>Rel.same r hS hg
theorem dT.shape(h:dT w S vn vb vs f):∃an cn ab cb aq cs,vn= .slice an f.nodes.length cn∧vb= .slice ab f.bars.length cb∧vs= .slice aq f.cO.length cs∧f.nodes.length<=maxLen∧f.bars.length<=maxLen∧f.cO.length<=maxLen:=by
 obtain⟨an,cn,h1,_,h2⟩:=h.nodes.shape;obtain⟨ab,cb,h3,_,h4⟩:=h.bars.shape;obtain⟨aq,cs,h5,_,h6⟩:=h.cO.shape;exact⟨an,cn,ab,cb,aq,cs,h1,h3,h5,h2,h4,h6⟩
end
theorem xh{P:Program}{τ:ky}{B nx:Nat}{l:Env}{H:Hp}{iv:Iv}{w:World}(hτ:eh P τ){dst:Option Tmp}{t ty len e sz by_:Nat}{ag:Bool}{ze ze2:List Value}{ik ik2:IntKind}{b2 tag2 al2 e0:Nat}{fs fs2:List (Nat×Nat)}{x i:Operand}{pos:String}{after:Array Edge}{guard:Option (Nat×Bool)}{K:SV->Hp->Nat->Iv->World->Prop}{vx:SV}{cs:Array Value}{k:IntKind}{m:Int}{u:Value}
  (ht:τ t=some ⟨sz,ag,by_,ze,6,ik,e,len,fs⟩) (hte:τ e=some ⟨1,false,b2,ze2,tag2,ik2,e0,al2,fs2⟩) (hx:ev l x=some vx) (hxd:∀ρ,vx.den ρ= .agg cs) (hi:ev l i=some (.o (.v (.int k m)))) (hm:0<=m∧m<len) (hc:cs[m.toNat]? =some u)
  (hK:∀ρ w',Rel H nx iv B w ρ w'->K (.o (.v u)) H nx iv w'):vo P B ⟨dst,.index t x i,ty,pos,after,guard⟩ l H nx iv w K:=by
 have hto:=(hτ t _ ht).i6 rfl;have hteo:=hτ e _ hte;refine C0 hto (fun w=>hteo.sizeOf w) (fun w j v hv=>?_) hx hxd hi hm hc hK;simp[part,hteo.isAgg,hv]
structure gA(w:World)(B:Nat)(iv:Iv)(rv:List Value)(n:Nat)(M:List (List Int)):Prop where
 len:rv.length=M.length
 wid:∀l∈M,l.length=n
 row:∀(i:Nat) v l,rv[i]? =some v->M[i]? =some l->w.ownsRow 0 T.int 1 v n (l.map fun z=>.int .i64 z)
 CP:∀(i j:Nat) a b g,rv[i]? =some a->rv[j]? =some b->a.ownBlock=some g->b.ownBlock=some g->i=j
 new:∀g,Ob rv g->Cv (fun _=>False) B iv g
section
variable{H:Hp}{nx n:Nat}{iv iv':Iv}{B:Nat}{w w' w2:World}{ρ:Nat->Sx.dc}{rv:List Value}{M:List (List Int)}
theorem gA.nil:gA w B iv [] n []:=⟨rfl,fun l h=>(by cases h),fun i v l h=>(by cases h),fun i j a b g h=>(by cases h),fun g ⟨v,hv,_⟩=>by cases hv⟩
theorem gA.cD(h:gA w B iv rv n M)(hk:∀g,Cv (fun _=>False) B iv g->w2.heap[g]? =w.heap[g]?):gA w2 B iv rv n M:=
 ⟨h.len,h.wid,fun i v l h1 h2=>ownsRow.cD (h.row i v l h1 h2) fun g hg=>hk g (h.new g ⟨v,aF h1,hg⟩),h.CP,h.new⟩
theorem gA.rel(h:gA w B iv rv n M)(r:Rel H nx iv B w ρ w'):gA w' B iv rv n M:=h.cD fun _ hg=>Rel.same r (fa B) hg
theorem gA.mono(h:gA w B iv rv n M)(hm:∀p,p∈iv->p∈iv'):gA w B iv' rv n M:=⟨h.len,h.wid,h.row,h.CP,fun g hg=>(h.new g hg).mono hm⟩
theorem gA.cB(h:gA w B iv rv n M)(r:Rel H nx iv B w ρ w')(he:Ext w' w2)(hm:∀p,p∈iv->p∈iv'):gA w2 B iv' rv n M:=
 ((h.rel r).cD fun g hg=>he.block g (Rel.old r (fa B) g hg)).mono hm
theorem gA.form(hM:gA w B iv rv n M){i:Nat}{v:Value}(hv:rv[i]? =some v):∃a c,v= .slice a n c:=by
 obtain⟨l,hl⟩:∃l,M[i]? =some l:=⟨_,aB (by rw[<-hM.len];exact(aE.1 hv).1)⟩
 obtain⟨a,c,h,_⟩:=iw (hM.row i v l hv hl);exact⟨a,c,h⟩
theorem gA.one(hM:gA w B iv rv n M):∀u∈rv,u.oneCell'=true:=fun u hu=>by
 obtain⟨i,hi⟩:=ah hu;obtain⟨a,c,rfl⟩:=hM.form hi;rfl
theorem gA.load(hM:gA w B iv rv n M){i k:Nat}{a:Option Addr}{c:Nat}{l:List Int}{z:Int}(hv:rv[i]? =some (.slice a n c))(hl:M[i]? =some l)(hk:l[k]? =some z):
  ∃ad,a=some ad∧Cv (fun _=>False) B iv ad.block∧w.cell? (ad.add (k*1))=some (.int .i64 z):=by
 have h:=hM.row i _ l hv hl;have hlen:=hM.wid l (aF hl);rcases h.2 with⟨_,h0⟩|⟨g,cap,cur,e,_⟩
 ·have:=(aE.1 hk).1;omega
 ·injection e with e;refine⟨⟨g,0,none⟩,e,hM.new g ⟨_,aF hv,by rw[e];rfl⟩,?_⟩;have:=h.cells (g:=g) (by rw[e];rfl) k (.int .i64 z) (by rw[aO,hk];rfl);rw[aR];exact this
theorem gA.store(hM:gA w B iv rv n M)(r:Rel H nx iv B w ρ w'){i k:Nat}{a:Option Addr}{c:Nat}{l:List Int}{z:Int}(hv:rv[i]? =some (.slice a n c))(hl:M[i]? =some l)(hk:k<n):
  ∃g,a=some ⟨g,0,none⟩∧((⟨g,0,none⟩:Addr).add ((k:Int).toNat*1)).spot=none∧
   (∀j,j<1->(w'.cell? (((⟨g,0,none⟩:Addr).add ((k:Int).toNat*1)).add j)).isSome=true∧w'.frozen? (((⟨g,0,none⟩:Addr).add ((k:Int).toNat*1)).add j)=false)∧
   (∀id b,dA H id=some b->(ρ id).nil=false->(ρ id).g≠((⟨g,0,none⟩:Addr).add ((k:Int).toNat*1)).block)∧
   ∀w2,w2=setCells w' ((⟨g,0,none⟩:Addr).add ((k:Int).toNat*1)) [.int .i64 z]->gA w2 B iv rv n (M.set i (l.set k z))∧cN B w' w2∧Rel H nx iv B w2 ρ w2∧w'.grownBy w2 (some g)∧Ob rv g:=by
 have hMr:=hM.rel r;have h1:=hMr.row i _ l hv hl;have hlen:=hM.wid l (aF hl);obtain⟨g,rfl,hok,hst,hgr,hsz⟩:=nG (nv:=[.int .i64 z]) h1 rfl hk rfl (by decide);have hob:Ob rv g:=⟨_,aF hv,rfl⟩
 have had:(⟨g,0,none⟩:Addr).add ((k:Int).toNat*1)=⟨g,k*1,none⟩:=by rw[aC,dM,aS]
 have hnot:=Rel.not r (fa B) (hM.new g hob);refine⟨g,rfl,by rw[had],fun j hj=>by rw[had];exact hok j hj,fun id b hb hn=>by rw[had];exact hnot id b hb hn,fun w2 hw2=>?_⟩;rw[had]at hw2;subst hw2;refine⟨⟨by rw[bV];exact hM.len,fun x hx=>?_,fun j v l2 h3 h4=>?_,hM.CP,hM.new⟩,cN.grown hgr (fun x e=>by injection e with e;subst e;exact(hM.new g hob).elim (fun h=>h.elim) fun h=>h.1) r.bu,r.vq hnot hgr,hgr,hob⟩
 ·rcases bD hx with hx|rfl
  ·exact hM.wid x hx
  ·rw[bV];exact hlen
 ·by_cases hij:i=j
  ·subst hij;rw[hv]at h3;injection h3 with h3;subst h3;rw[aT (by rw[<-hM.len];exact(aE.1 hv).1)]at h4;injection h4 with h4;subst h4;rw[List.map_set,<-fG (by rw[aM];omega)];simp only[aR]at hst ⊢;exact hst
  ·rw[a9 hij]at h4;refine ownsRow.cD (hMr.row j v l2 h3 h4) fun x hx=>hgr.block x ?_ fun e=>?_
   ·exact Rel.old r (fa B) x (hM.new x ⟨v,aF h3,hx⟩)
   ·injection e with e;exact hij (hM.CP i j _ v x hv h3 (by rw[<-e];rfl) hx)
theorem gA.push(hM:gA w B iv rv n M){gx:Nat}{l:List Int}(hgx:∀g,Cv (fun _=>False) B iv g->g≠gx)(hBx:B<=gx)(hl:l.length=n)(hrow:w.ownsRow 0 T.int 1 (.slice (some ⟨gx,0,none⟩) n n) n (l.map fun z=>.int .i64 z)):
  gA w B ((gx,gx+1)::iv) (rv++[.slice (some ⟨gx,0,none⟩) n n]) n (M++[l]):=by
 have hob:∀g,Ob rv g->g≠gx:=fun g hg=>hgx g (hM.new g hg);have key:∀(k:Nat) v,(rv++[Value.slice (some ⟨gx,0,none⟩) n n])[k]? =some v->(k<rv.length∧rv[k]? =some v)∨(k=rv.length∧v= .slice (some ⟨gx,0,none⟩) n n):=fun k v hk=>by
  rcases aV k rv.length with hi|hi
  ·rw[aL hi]at hk;exact .inl ⟨hi,hk⟩
  ·have hi0:k=rv.length:=by have:=(aE.1 hk).1;simp at this;omega
   rw[hi0,aQ (aG _),bI]at hk;simp at hk;exact .inr ⟨hi0,hk.symm⟩
 refine⟨by simp[hM.len],fun x hx=>?_,fun i v x h1 h2=>?_,fun i j a b g h1 h2 h3 h4=>?_,fun g hg=>?_⟩
 ·rcases bR.1 hx with hx|hx
  ·exact hM.wid x hx
  ·rw[bA.1 hx];exact hl
 ·rcases key i v h1 with⟨hi,k1⟩|⟨e1,rfl⟩
  ·rw[aL (by rw[<-hM.len];exact hi)]at h2;exact hM.row i v x k1 h2
  ·rw[e1,hM.len,aQ (aG _),bI]at h2;simp at h2;subst h2;exact hrow
 ·rcases key i a h1 with⟨_,k1⟩|⟨e1,rfl⟩<;>rcases key j b h2 with⟨_,k2⟩|⟨e2,rfl⟩
  ·exact hM.CP i j a b g k1 k2 h3 h4
  ·injection h4 with h4;exact absurd h4.symm (hob g ⟨a,aF k1,h3⟩)
  ·injection h3 with h3;exact absurd h3.symm (hob g ⟨b,aF k2,h4⟩)
  ·rw[e1,e2]
 ·rcases Ob.append.1 hg with h|h
  ·exact(hM.new g h).mono fun p hp=>aD _ hp
  ·injection h with h;have h:gx=g:=h;subst h;exact .inr ⟨hBx,_,_,aJ,aG _,bY _⟩
end
def yM(w:World)(S:Nat->Prop)(v:Value)(l:List Int):Prop:=iS w S 1 v (l.map fun z=>.int .i64 z) l.length
abbrev iK:=cT yM
theorem yM.cD{w w2:World}{S:Nat->Prop}{v:Value}{l:List Int}(h:yM w S v l)(hk:∀g,S g->w2.heap[g]? =w.heap[g]?):yM w2 S v l:=iS.cD h hk
theorem yM.cG{w:World}{S S':Nat->Prop}{v:Value}{l:List Int}(h:yM w S v l)(hk:∀g,S g->S' g):yM w S' v l:=iS.cG h hk
theorem iK.cD{w w2:World}{S:Nat->Prop}{v:Value}{M:List (List Int)}(h:iK w S v M)(hk:∀g,S g->w2.heap[g]? =w.heap[g]?):iK w2 S v M:=by
 obtain⟨rv,h1,h2,h3⟩:=h;exact⟨rv,h1.cD hk,h2,fun i u x k1 k2=>(h3 i u x k1 k2).cD hk⟩
theorem iK.cG{w:World}{S S':Nat->Prop}{v:Value}{M:List (List Int)}(h:iK w S v M)(hk:∀g,S g->S' g):iK w S' v M:=by
 obtain⟨rv,h1,h2,h3⟩:=h;exact⟨rv,h1.cG hk,h2,fun i u x k1 k2=>(h3 i u x k1 k2).cG hk⟩
theorem yM.at{w:World}{S:Nat->Prop}{a:Option Addr}{m c j:Nat}{l:List Int}{z:Int}(h:yM w S (.slice a m c) l)(hj:l[j]? =some z):∃ad,a=some ad∧S ad.block∧w.cell? (ad.add (j*1))=some (.int .i64 z):=by
 obtain⟨h0,h1,h2,a',c',e,h3,h4⟩:=h;injection e with e1 e2 e3;subst e1;obtain⟨ad,k1,k2,k3⟩:=h4 j (.int .i64 z) (by rw[aO,hj];rfl);exact⟨ad,k1,k2,by rw[aR];exact k3⟩
theorem yM.shape{w:World}{S:Nat->Prop}{v:Value}{l:List Int}(h:yM w S v l):∃a c,v= .slice a l.length c∧l.length<=c∧l.length<=maxLen:=by
 obtain⟨h0,h1,h2,a,c,e,h3,h4⟩:=h;exact⟨a,c,e,h3,h0⟩
structure pM(f:fK):Prop where
 co:∀p∈f.nodes,(-1000000<=p.1∧p.1<=1000000)∧(-1000000<=p.2.1∧p.2.1<=1000000)∧(-1000000<=p.2.2∧p.2.2<=1000000)
 IX:∀b∈f.bars,(0<=b.1∧b.1<f.nodes.length)∧(0<=b.2.1∧b.2.1<f.nodes.length)
 sup:∀s∈f.cO,(0<=s.1∧s.1<f.nodes.length)∧(0<=s.2.1∧s.2.1<=2)
 n:f.nodes.length<=20
 b:f.bars.length<=60
 s:f.cO.length<=60
theorem pM.node{f:fK}(h:pM f){i:Int}(h0:0<=i)(h1:i<f.nodes.length):∃k:Nat,∃p,i=k∧k<f.nodes.length∧f.nodes[k]? =some p∧f.node i=p∧(-1000000<=p.1∧p.1<=1000000)∧(-1000000<=p.2.1∧p.2.1<=1000000)∧(-1000000<=p.2.2∧p.2.2<=1000000):=by
 obtain⟨k,rfl⟩:=Int.eq_ofNat_of_zero_le h0;have hk:k<f.nodes.length:=by omega
 refine⟨k,f.nodes[k],rfl,hk,aB hk,?_,h.co _ (bL hk)⟩;rw[fK.node,aC,List.getD,aB hk];rfl
theorem yc{S:Nat->Prop}{w:World}{vn vb vs:Value}{f:fK}{a b:Int}{b3 b6:Bool}{a4 a7:Option Addr}{n4 c4 n7 c7:Nat}(hS:Old S w)(hn:kp w S vn f.nodes)(hok:pM f)(hA:0<=a∧a<f.nodes.length)(hB:0<=b∧b<f.nodes.length):
  dh PG N.jt #[.agg #[vn,vb,vs],.agg #[.int .i64 a,.int .i64 b,.bool b3,.slice a4 n4 c4,.bool b6,.slice a7 n7 c7]] w (dw w fun v' _=>v'= .agg #[.int .i64 ((f.node b).1-(f.node a).1),.int .i64 ((f.node b).2.1-(f.node a).2.1),.int .i64 ((f.node b).2.2-(f.node a).2.2)]):=by
 have hw:cN w.heap.size w w:=cN.refl;obtain⟨an,cn,rfl,hcn,hmn⟩:=hn.shape;unfold maxLen at hmn;obtain⟨ka,pa,ea,hka,hpa,hna,⟨_,_⟩,⟨_,_⟩,⟨_,_⟩⟩:=hok.node hA.1 hA.2;obtain⟨kb,pb,eb,hkb,hpb,hnb,⟨_,_⟩,⟨_,_⟩,⟨_,_⟩⟩:=hok.node hB.1 hB.2;obtain⟨ada,csa,haa,hPa,-,hla⟩:=hn.load (by decide) hpa;obtain⟨adb,csb,hab,hPb,-,hlb⟩:=hn.load (by decide) hpb;have hPa:csa=[.int .i64 pa.1,.int .i64 pa.2.1,.int .i64 pa.2.2]:=hPa;have hPb:csb=[.int .i64 pb.1,.int .i64 pb.2.1,.int .i64 pb.2.2]:=hPb;subst hPa hPb;rw[hna,hnb];subst ea eb;refine mo (by simp) ?_;conv=>whnf
 refine gl hτ dV (.x 0 (.x 2 (.x 6 (.x 8 (.ld 1 49200 (.ld 3 49200 (.x 4 (.ld 5 49152 (.ld 7 35840 (.ld 9 35840 (.x 10 (.ld 11 32768 (.two 12 (.x 13 (.x 14 (.x 15 .nil))) 13 (.x 12 (.x 14 (.x 15 .nil)))))))))))))))) (by kernel_rfl) (by kernel_rfl) ?_;conv=>whnf
 refine⟨ada,haa,⟨by omega,by omega⟩,?_⟩;conv=>whnf
 refine⟨[.int .i64 pa.1,.int .i64 pa.2.1,.int .i64 pa.2.2],rfl,fun ρ w' r j u hu=>?_,?_⟩
 ·obtain⟨k1,k2⟩:=hla j u hu;rw[aC,bw (w:=w) (w2:=w') (by rw[cL,cL];exact(hw.tr r.cC).block _ (hS _ k1))];exact k2
 conv=>whnf
 refine⟨adb,hab,⟨by omega,by omega⟩,?_⟩;conv=>whnf
 refine⟨[.int .i64 pb.1,.int .i64 pb.2.1,.int .i64 pb.2.2],rfl,fun ρ w' r j u hu=>?_,?_⟩
 ·obtain⟨k1,k2⟩:=hlb j u hu;rw[aC,bw (w:=w) (w2:=w') (by rw[cL,cL];exact(hw.tr r.cC).block _ (hS _ k1))];exact k2
 conv=>whnf
 refine⟨?_,?_⟩
 ·conv=>whnf
  refine⟨[.int .i64 pb.1,.int .i64 pb.2.1,.int .i64 pb.2.2],rfl,fun ρ w' r j u hu=>?_,?_⟩
  ·obtain⟨k1,k2⟩:=hlb j u hu;rw[aC,bw (w:=w) (w2:=w') (by rw[cL,cL];exact(hw.tr r.cC).block _ (hS _ k1))];exact k2
  conv=>whnf
  refine⟨rfl,?_⟩;conv=>whnf
  refine⟨rfl,?_⟩;conv=>whnf
  refine⟨rfl,?_⟩;conv=>whnf
  refine⟨[.int .i64 pa.1,.int .i64 pa.2.1,.int .i64 pa.2.2],rfl,fun ρ w' r j u hu=>?_,?_⟩
  ·obtain⟨k1,k2⟩:=hla j u hu;rw[aC,bw (w:=w) (w2:=w') (by rw[cL,cL];exact(hw.tr r.cC).block _ (hS _ k1))];exact k2
  conv=>whnf
  refine⟨rfl,?_⟩;conv=>whnf
  refine⟨rfl,?_⟩;conv=>whnf
  refine⟨rfl,?_⟩;conv=>whnf
  refine⟨[.int .i64 pb.1,.int .i64 pb.2.1,.int .i64 pb.2.2],rfl,fun ρ w' r j u hu=>?_,?_⟩
  ·obtain⟨k1,k2⟩:=hlb j u hu;rw[aC,bw (w:=w) (w2:=w') (by rw[cL,cL];exact(hw.tr r.cC).block _ (hS _ k1))];exact k2
  conv=>whnf
  refine⟨rfl,?_⟩;conv=>whnf
  refine⟨rfl,?_⟩;conv=>whnf
  refine⟨rfl,?_⟩;conv=>whnf
  refine⟨[.int .i64 pa.1,.int .i64 pa.2.1,.int .i64 pa.2.2],rfl,fun ρ w' r j u hu=>?_,?_⟩
  ·obtain⟨k1,k2⟩:=hla j u hu;rw[aC,bw (w:=w) (w2:=w') (by rw[cL,cL];exact(hw.tr r.cC).block _ (hS _ k1))];exact k2
  conv=>whnf
  refine⟨rfl,?_⟩;conv=>whnf
  refine⟨rfl,?_⟩;conv=>whnf
  refine⟨rfl,?_⟩;conv=>whnf
  refine⟨[.int .i64 pb.1,.int .i64 pb.2.1,.int .i64 pb.2.2],rfl,fun ρ w' r j u hu=>?_,?_⟩
  ·obtain⟨k1,k2⟩:=hlb j u hu;rw[aC,bw (w:=w) (w2:=w') (by rw[cL,cL];exact(hw.tr r.cC).block _ (hS _ k1))];exact k2
  conv=>whnf
  refine⟨rfl,?_⟩;conv=>whnf
  refine⟨rfl,?_⟩;conv=>whnf
  refine⟨rfl,?_⟩;conv=>whnf
  refine⟨pb.1-pa.1,by rw[wrap64]<;>omega,?_⟩;conv=>whnf
  refine⟨pb.2.1-pa.2.1,by rw[wrap64]<;>omega,?_⟩;conv=>whnf
  refine⟨pb.2.2-pa.2.2,by rw[wrap64]<;>omega,?_⟩;conv=>whnf
  intro ρe we re;exact⟨_,rfl,hw.tr re.cC,rfl⟩
 ·conv=>whnf
  refine⟨[.int .i64 pb.1,.int .i64 pb.2.1,.int .i64 pb.2.2],rfl,fun ρ w' r j u hu=>?_,?_⟩
  ·obtain⟨k1,k2⟩:=hlb j u hu;rw[aC,bw (w:=w) (w2:=w') (by rw[cL,cL];exact(hw.tr r.cC).block _ (hS _ k1))];exact k2
  conv=>whnf
  refine⟨rfl,?_⟩;conv=>whnf
  refine⟨rfl,?_⟩;conv=>whnf
  refine⟨rfl,?_⟩;conv=>whnf
  refine⟨[.int .i64 pa.1,.int .i64 pa.2.1,.int .i64 pa.2.2],rfl,fun ρ w' r j u hu=>?_,?_⟩
  ·obtain⟨k1,k2⟩:=hla j u hu;rw[aC,bw (w:=w) (w2:=w') (by rw[cL,cL];exact(hw.tr r.cC).block _ (hS _ k1))];exact k2
  conv=>whnf
  refine⟨rfl,?_⟩;conv=>whnf
  refine⟨rfl,?_⟩;conv=>whnf
  refine⟨rfl,?_⟩;conv=>whnf
  refine⟨[.int .i64 pb.1,.int .i64 pb.2.1,.int .i64 pb.2.2],rfl,fun ρ w' r j u hu=>?_,?_⟩
  ·obtain⟨k1,k2⟩:=hlb j u hu;rw[aC,bw (w:=w) (w2:=w') (by rw[cL,cL];exact(hw.tr r.cC).block _ (hS _ k1))];exact k2
  conv=>whnf
  refine⟨rfl,?_⟩;conv=>whnf
  refine⟨rfl,?_⟩;conv=>whnf
  refine⟨rfl,?_⟩;conv=>whnf
  refine⟨[.int .i64 pa.1,.int .i64 pa.2.1,.int .i64 pa.2.2],rfl,fun ρ w' r j u hu=>?_,?_⟩
  ·obtain⟨k1,k2⟩:=hla j u hu;rw[aC,bw (w:=w) (w2:=w') (by rw[cL,cL];exact(hw.tr r.cC).block _ (hS _ k1))];exact k2
  conv=>whnf
  refine⟨rfl,?_⟩;conv=>whnf
  refine⟨rfl,?_⟩;conv=>whnf
  refine⟨rfl,?_⟩;conv=>whnf
  refine⟨[.int .i64 pb.1,.int .i64 pb.2.1,.int .i64 pb.2.2],rfl,fun ρ w' r j u hu=>?_,?_⟩
  ·obtain⟨k1,k2⟩:=hlb j u hu;rw[aC,bw (w:=w) (w2:=w') (by rw[cL,cL];exact(hw.tr r.cC).block _ (hS _ k1))];exact k2
  conv=>whnf
  refine⟨rfl,?_⟩;conv=>whnf
  refine⟨rfl,?_⟩;conv=>whnf
  refine⟨rfl,?_⟩;conv=>whnf
  refine⟨pb.1-pa.1,by rw[wrap64]<;>omega,?_⟩;conv=>whnf
  refine⟨pb.2.1-pa.2.1,by rw[wrap64]<;>omega,?_⟩;conv=>whnf
  refine⟨pb.2.2-pa.2.2,by rw[wrap64]<;>omega,?_⟩;conv=>whnf
  intro ρe we re;exact⟨_,rfl,hw.tr re.cC,rfl⟩
theorem GJ{α:Type}{rv:List α}{a b:α}{i m:Nat}(hl:rv.length=i)(h:i<m):(rv++List.replicate (m-i) b).take i++[a]++(rv++List.replicate (m-i) b).drop (i+1)=(rv++[a])++List.replicate (m-(i+1)) b:=by
 rw[List.take_left' hl,List.drop_append,hl,List.drop_of_length_le (by omega),List.nil_append,List.drop_replicate];congr 2;omega
end Go.Ex
namespace Go.Sx
open Go Go.Ex Go.Proofs
theorem Rel.HY{H:Hp}{nx:Nat}{iv:Iv}{B:Nat}{w w':World}{ρ:Nat->Sx.dc}(r:Rel H nx iv B w ρ w'){id t m sz:Nat}{cs:List Value}(h:dA H id=some (.arr t cs))(hm:cs.length=m*sz)(hm1:m<=maxLen)(h1:∀u∈cs,u.oneCell'=true):
  iS w' (fun g=>B<=g∧g<w'.heap.size) sz (.slice (some ⟨(ρ id).g,0,none⟩) m m) cs m:=by
 have hl:=r.low id _ h (r.fits h).1;refine⟨hm1,hm,h1,_,m,rfl,aG _,fun j u hu=>⟨_,rfl,hl,?_⟩⟩;rw[dM,cell_of (r.arr id _ _ h),aS];exact hu
end Go.Sx
namespace Go.Ex
open Go Go.Sx Go.Proofs
theorem zV{M:List (List Int)}{r c:Nat}{d:Int}:(qo M r c d).length=M.length:=bV ..
theorem Eb{M:List (List Int)}{r c:Nat}{d:Int}:(putAt M r c d).length=M.length:=bV ..
def Ar(M:List (List Int))(t:Int):Prop:=∀l∈M,∀z∈l,-t<=z∧z<=t
theorem Ar.set{M:List (List Int)}{t t2:Int}{r c:Nat}{l:List Int}{z:Int}(h:Ar M t)(ht:t<=t2)(hl:M[r]? =some l)(hz: -t2<=z∧z<=t2):Ar (M.set r (l.set c z)) t2:=fun x hx y hy=>by
 rcases bD hx with hx|rfl
 ·have:=h x hx y hy;omega
 ·rcases bD hy with hy|rfl
  ·have:=h l (aF hl) y hy;omega
  ·exact hz
theorem Bt(f:fK):∀i,(dS f i).length=3*f.nodes.length
 |0=>bQ ..
 |i+1=>by
  have h:=Bt f i;have key:∀k,(eD f (dS f i) i k).length=3*f.nodes.length:=fun k=>by
   induction k with
   |zero=>exact h
   |succ k ih=>rw[eD,zV,zV];exact ih
  exact key 3
theorem lW(f:fK):∀i,(eR f i).length=3*f.nodes.length
 |0=>Bt f _
 |i+1=>by rw[eR,Eb];exact lW f i
theorem GK{f:fK}{M:List (List Int)}{i k ka kb:Nat}{b:Int×Int×Rat}{d za zb:Int}{la lb:List Int}(hb:f.bars[i]? =some b)(ea:b.1=ka)(eb:b.2.1=kb)(hd:(pg f b).getD k 0=d)
  (hla:(eD f M i k)[3*ka+k]? =some la) (hza:la[i]? =some za) (hlb:((eD f M i k).set (3*ka+k) (la.set i (za+d)))[3*kb+k]? =some lb) (hzb:lb[i]? =some zb):
  ((eD f M i k).set (3*ka+k) (la.set i (za+d))).set (3*kb+k) (lb.set i (zb-d))=eD f M i (k+1):=by
 have h1:f.bars.getD i (0,0,0)=b:=by rw[List.getD,hb];rfl
 have e1:(3*b.1+(k:Int)).toNat=3*ka+k:=by rw[ea];omega
 have e2:(3*b.2.1+(k:Int)).toNat=3*kb+k:=by rw[eb];omega
 have ha:qo (eD f M i k) (3*ka+k) i d=(eD f M i k).set (3*ka+k) (la.set i (za+d)):=by
  rw[qo,show(eD f M i k).getD (3*ka+k) []=la by rw[List.getD,hla];rfl,show la.getD i 0=za by rw[List.getD,hza];rfl]
 rw[eD];simp only[h1,hd,e1,e2,ha]
 rw[qo,show((eD f M i k).set (3*ka+k) (la.set i (za+d))).getD (3*kb+k) []=lb by rw[List.getD,hlb];rfl,show lb.getD i 0=zb by rw[List.getD,hzb];rfl,Int.sub_eq_add_neg]
theorem Bu{f:fK}{i ks:Nat}{s:Int×Int×Rat}{l:List Int}(hs:f.cO[i]? =some s)(es:3*s.1+s.2.1=ks)(hl:(eR f i)[ks]? =some l):(eR f i).set ks (l.set (f.bars.length+i) 1)=eR f (i+1):=by
 rw[eR,putAt];simp only[show f.cO.getD i (0,0,0)=s by rw[List.getD,hs];rfl,es,aC,show(eR f i).getD ks []=l by rw[List.getD,hl];rfl]
set_option maxHeartbeats 2000000 in
theorem zW{S:Nat->Prop}{w:World}{vn vb vs:Value}{f:fK}(hS:Old S w)(hf:dT w S vn vb vs f)(hok:pM f):
  dh PG N.nY #[.agg #[vn,vb,vs]] w (dw w fun v' w2=>iK w2 (Nw (fun _=>False) w w2) v' (fN f)∧Ar (fN f) 800000000∧(∀l∈fN f,l.length=f.cols)∧(fN f).length=3*f.nodes.length):=by
 have hw:cN w.heap.size w w:=cN.refl;obtain⟨an,cn,ab,cb,aq,cq,rfl,rfl,rfl,hmn,hmb,hms⟩:=hf.shape;obtain⟨hn20,hb60,hs60⟩:=And.intro hok.n (And.intro hok.b hok.s);refine rZ (by simp) ?_;conv=>whnf
 refine⟨((3*f.nodes.length:Nat):Int),by rw[wrap64]<;>omega,?_⟩;conv=>whnf
 obtain⟨m,hm⟩:∃m,3*f.nodes.length=m:=⟨_,rfl⟩
 rw[hm];refine⟨m,m,rfl,rfl,aG _,by omega,by omega,?_⟩;conv=>whnf
 refine⟨Nat×List Value×World×Iv,fun z=>⟨[(1,.o (.p 0 0)),(3,.o (.s 1 0 m m)),(17,.o (.v (.int .i64 m))),(18,.o (.v (.int .i64 ((z.1:Nat):Int))))],[(1,.arr T.Lint (z.2.1++List.replicate (m-z.1) (.slice none 0 0))),(0,.box T.Frame [.v (.slice an f.nodes.length cn),.v (.slice ab f.bars.length cb),.v (.slice aq f.cO.length cq)])],2,z.2.2.2,z.2.2.1⟩,fun z=>m-z.1,
  fun z=>z.1<=m∧z.2.1.length=z.1∧cN w.heap.size w z.2.2.1∧gA z.2.2.1 w.heap.size z.2.2.2 z.2.1 f.cols (List.replicate z.1 (List.replicate f.cols 0)),?_,?_⟩
 ·intro ρ w' r3;exact⟨(0,[],w',[]),⟨aN _,rfl,hw.tr r3.cC,gA.nil⟩,Sub.gen [] r3 ⟨rfl,rfl,trivial⟩ ⟨rfl,rfl,rfl,rfl,trivial⟩ (by simp[dG,cW.scopd,At.sc]) (by simp[cV,SV.sc,At.sc,cQ]) (by rfl) (fun lo hi h=>h)⟩
 clear hw;rintro⟨i,rv,w1,iv⟩ ⟨hi,hrl,hw,hE⟩;dsimp only at hi hrl hw hE ⊢;conv=>whnf
 refine dE.mk (fun hib=>?_) (fun hib=>?_)
 ·have hib:i<m:=by simpa using hib
  conv=>whnf
  refine⟨((f.cols:Nat):Int),by rw[wrap64]<;>first|rfl|omega,?_⟩;conv=>whnf
  refine⟨f.cols,f.cols,rfl,rfl,aG _,by unfold fK.cols;omega,by unfold fK.cols;omega,?_⟩;conv=>whnf
  refine⟨⟨by omega,by omega⟩,?_⟩;conv=>whnf
  refine EH hτ (id:=1) (id2:=2) (tH:=[(1,.arr T.Lint (rv++List.replicate (m-i) (.slice none 0 0))),(0,.box T.Frame [.v (.slice an f.nodes.length cn),.v (.slice ab f.bars.length cb),.v (.slice aq f.cO.length cq)])]) rfl rfl (by decide) rfl ⟨rfl,rfl,trivial⟩ rfl (fun ρ w' r=>?_);have hn:=(r.fits (id:=2) rfl).1;have hrow:w'.ownsRow 0 T.int 1 (.slice (some ⟨(ρ 2).g,0,none⟩) f.cols f.cols) f.cols ((List.replicate f.cols (0:Int)).map fun z=>.int .i64 z):=
   ⟨by simp,.inr ⟨(ρ 2).g,f.cols,(List.replicate f.cols (Value.int .i64 0)).toArray,rfl,aN _,r.arr 2 _ _ rfl,aG _,by unfold fK.cols maxLen;omega,by simp,by simp⟩⟩
  have hE2:=(hE.rel r).push (gx:=(ρ 2).g) (l:=List.replicate f.cols 0) (fun g hg e=>Rel.not r (fa _) hg 2 _ rfl hn e.symm) (r.low 2 _ rfl hn).1 (by simp) hrow;rw[<-List.replicate_succ']at hE2;have hw2:=hw.tr r.cC;clear hE hw r hrow hn;generalize (ρ 2).g=gx at*
  generalize (gx,gx+1)::iv=iv2 at*
  conv=>whnf
  refine⟨by simp[hrl];omega,(rv++[.slice (some ⟨gx,0,none⟩) f.cols f.cols])++List.replicate (m-(i+1)) (.slice none 0 0),?_,?_⟩
  ·rw[aC,aR,aS];exact GJ hrl hib
  conv=>whnf
  refine⟨((i+1:Nat):Int),by rw[wrap64]<;>omega,?_⟩;conv=>whnf
  intro ρ3 w3 r3;exact⟨(i+1,rv++[.slice (some ⟨gx,0,none⟩) f.cols f.cols],w3,_),⟨hib,by simp[hrl],hw2.tr r3.cC,hE2.rel r3⟩,Sub.gen [] r3 ⟨rfl,rfl,trivial⟩ ⟨rfl,rfl,rfl,rfl,trivial⟩ (by simp[dG,cW.scopd,At.sc]) (by simp[cV,SV.sc,At.sc,cQ]) (by rfl) (fun lo hi h=>h),by dsimp only;omega⟩
 have hib:i=m:=aP hi (by simpa using hib);subst hib;have hE0:gA w1 w.heap.size iv rv f.cols (dS f 0):=by rw[dS,hm];exact hE
 have hbd0:Ar (dS f 0) 0:=fun l hl z hz=>by
  rw[dS]at hl;rw[bT hl]at hz;rw[bT hz];exact⟨Int.le_refl _,Int.le_refl _⟩
 clear hE;conv=>whnf
 refine⟨Nat×World×Iv,fun z=>⟨[(1,.o (.p 0 0)),(3,.o (.s 1 0 i i)),(34,.o (.v (.slice ab f.bars.length cb))),(35,.o (.v (.int .i64 f.bars.length))),(36,.o (.v (.int .i64 ((z.1:Nat):Int))))],[(1,.arr T.Lint rv),(0,.box T.Frame [.v (.slice an f.nodes.length cn),.v (.slice ab f.bars.length cb),.v (.slice aq f.cO.length cq)])],2,z.2.2,z.2.1⟩,fun z=>f.bars.length-z.1,
  fun z=>z.1<=f.bars.length∧cN w.heap.size w z.2.1∧gA z.2.1 w.heap.size z.2.2 rv f.cols (dS f z.1)∧Ar (dS f z.1) (12000000*z.1),?_,?_⟩
 ·intro ρ w' r3;exact⟨(0,w',_),⟨aN _,hw.tr r3.cC,hE0.rel r3,hbd0⟩,Sub.gen [] r3 ⟨by simp;rfl,rfl,trivial⟩ ⟨rfl,rfl,rfl,rfl,rfl,trivial⟩ (by simp[dG,cW.scopd,At.sc]) (by simp[cV,SV.sc,At.sc,cQ]) (by rfl) (fun lo hi h=>h)⟩
 clear hw hE0 hbd0 hi;rintro⟨j,w2,iv⟩ ⟨hj,hw,hE,hbd⟩;dsimp only at hj hw hE hbd ⊢;conv=>whnf
 refine dE.mk (fun hjb=>?_) (fun hjb=>?_)
 ·have hjb:j<f.bars.length:=by simpa using hjb
  obtain⟨b,hb⟩:∃b,f.bars[j]? =some b:=⟨_,aB hjb⟩
  obtain⟨hA,hB⟩:=hok.IX b (aF hb);obtain⟨ka,pa,ea,hka,-,hna,⟨_,_⟩,⟨_,_⟩,⟨_,_⟩⟩:=hok.node hA.1 hA.2;obtain⟨kb,pb,eb,hkb,-,hnb,⟨_,_⟩,⟨_,_⟩,⟨_,_⟩⟩:=hok.node hB.1 hB.2;obtain⟨adb,cs,hab,hF,-,hlb⟩:=hf.bars.load (by decide) hb;obtain⟨g0,g1,g2,g3,g4,g5,g6,g7,rfl,hF⟩:=hF;conv=>whnf
  refine⟨adb,hab,⟨by omega,by omega⟩,?_⟩;conv=>whnf
  refine⟨[.int .i64 b.1,.int .i64 b.2.1,.bool g0,.slice g1 g2 g3,.bool g4,.slice g5 g6 g7],rfl,fun ρ w' r j u hu=>?_,?_⟩
  ·obtain⟨k1,k2⟩:=hlb j u hu;rw[aC,bw (w:=w) (w2:=w') (by rw[cL,cL];exact(hw.tr r.cC).block _ (hS _ k1))];exact k2
  conv=>whnf
  refine bz (cH (Φ:=fun _ w' v w2=>v= .agg #[.int .i64 ((f.node b.2.1).1-(f.node b.1).1),.int .i64 ((f.node b.2.1).2.1-(f.node b.1).2.1),.int .i64 ((f.node b.2.1).2.2-(f.node b.1).2.2)]) (fun ρ w' r=>yc (S:=S) (fun g hg=>by have:=hS g hg;have:=r.bu;omega) (hf.cD fun g hg=>(hw.tr r.cC).block g (hS g hg)).nodes hok hA hB) ?_);rintro ρ wa1 v1 wb1 r he hb1 rfl;replace hw:=hw.tr hb1;replace hE:=hE.cB (iv':=(wa1.heap.size,wb1.heap.size)::iv) r he fun x hx=>aD _ hx;clear r he hb1 hF hlb;generalize (wa1.heap.size,wb1.heap.size)::iv=iv1 at*
  rw[hna,hnb];have hbD:pg f b=[pb.1-pa.1,pb.2.1-pa.2.1,pb.2.2-pa.2.2]:=by rw[pg,hna,hnb]
  conv=>whnf
  refine⟨Nat×World×Iv,fun z=>⟨[(1,.o (.p 0 0)),(3,.o (.s 1 0 i i)),(5,.o (.v (.int .i64 ((j:Nat):Int)))),(6,.o (.p 2 0)),(43,.o (.v (.agg #[.int .i64 (pb.1-pa.1),.int .i64 (pb.2.1-pa.2.1),.int .i64 (pb.2.2-pa.2.2)]))),(34,.o (.v (.slice ab f.bars.length cb))),(35,.o (.v (.int .i64 f.bars.length))),(36,.o (.v (.int .i64 ((j:Nat):Int)))),(44,.o (.v (.int .i64 ((z.1:Nat):Int))))],[(2,.box T.J2 [.v (.int .i64 b.1),.v (.int .i64 b.2.1),.v (.bool g0),.v (.slice g1 g2 g3),.v (.bool g4),.v (.slice g5 g6 g7)]),(1,.arr T.Lint rv),(0,.box T.Frame [.v (.slice an f.nodes.length cn),.v (.slice ab f.bars.length cb),.v (.slice aq f.cO.length cq)])],3,z.2.2,z.2.1⟩,fun z=>3-z.1,
   fun z=>z.1<=3∧cN w.heap.size w z.2.1∧gA z.2.1 w.heap.size z.2.2 rv f.cols (eD f (dS f j) j z.1)∧Ar (eD f (dS f j) j z.1) (12000000*j+4000000*z.1),?_,?_⟩
  ·intro ρ w' r3;exact⟨(0,w',_),⟨aN _,hw.tr r3.cC,hE.rel r3,hbd⟩,Sub.gen [] r3 ⟨rfl,rfl,rfl,trivial⟩ ⟨rfl,rfl,rfl,rfl,rfl,rfl,rfl,rfl,rfl,trivial⟩ (by simp[dG,cW.scopd,At.sc]) (by simp[cV,SV.sc,At.sc,cQ]) (by rfl) (fun lo hi h=>h)⟩
  clear hw hE hbd;rintro⟨k,w3,iv⟩ ⟨hk,hw,hE,hbd⟩;dsimp only at hk hw hE hbd ⊢;conv=>whnf
  refine dE.mk (fun hkb=>?_) (fun hkb=>?_)
  ·have hkb:k<3:=by have:=aI hkb;omega
   obtain⟨d,hd⟩:∃d,(pg f b).getD k 0=d:=⟨_,rfl⟩
   have hdb: -2000000<=d∧d<=2000000:=by
    rw[<-hd,hbD];rcases(show k=0∨k=1∨k=2 by omega)with rfl|rfl|rfl<;>simp[List.getD]<;>omega
   have hMl:(eD f (dS f j) j k).length=3*f.nodes.length:=by rw[<-hE.len];have:=hE.len;omega
   have hcols:f.cols=f.bars.length+f.cO.length:=rfl;refine xh hτ rfl rfl rfl (fun _=>rfl) rfl ⟨by omega,by omega⟩ (u:=.int .i64 d) ?_ (fun ρ w4 r=>?_)
   ·rw[<-hd,hbD,aC];rcases(show k=0∨k=1∨k=2 by omega)with rfl|rfl|rfl<;>rfl
   replace hw:=hw.tr r.cC;replace hE:=hE.rel r;clear r;conv=>whnf
   obtain⟨la,hla⟩:∃l,(eD f (dS f j) j k)[3*ka+k]? =some l:=⟨_,aB (by first|omega|(rw [bV];omega))⟩
   have hlaw:=hE.wid la (aF hla);obtain⟨za,hza⟩:∃z,la[j]? =some z:=⟨_,aB (by omega)⟩
   have hzab:=hbd la (aF hla) za (aF hza);obtain⟨va,hva⟩:∃v,rv[3*ka+k]? =some v:=⟨_,aB (by have:=(aE.1 hla).1;rw[hE.len];exact this)⟩
   obtain⟨aa5,ca5,rfl⟩:=hE.form hva;obtain⟨ada5,haa5,hxa1,hxa2⟩:=hE.load hva hla hza;conv=>whnf
   refine⟨((3*ka:Nat):Int),by rw[ea,wrap64]<;>omega,?_⟩;conv=>whnf
   refine⟨((3*ka+k:Nat):Int),by rw[wrap64]<;>omega,?_⟩;conv=>whnf
   refine⟨⟨by omega,by omega⟩,?_⟩;conv=>whnf
   refine⟨.slice aa5 f.cols ca5,by rw[aC,aR,aS];exact hva,?_⟩;conv=>whnf
   refine⟨ada5,haa5,⟨by omega,by omega⟩,?_⟩;conv=>whnf
   refine⟨.int .i64 za,fun ρ w' r=>?_,?_⟩
   ·rw[aC,bw (w:=w4) (w2:=w') (by rw[cL];exact Rel.same r (fa _) hxa1)];exact hxa2
   conv=>whnf
   refine⟨za+d,by rw[wrap64]<;>omega,?_⟩;conv=>whnf
   refine⟨ada5,haa5,⟨by omega,by omega⟩,?_⟩;conv=>whnf
   intro ρ w' r;obtain⟨g,hg,h1,h2,h3,h4⟩:=hE.store r (z:=za+d) hva hla (show j<f.cols by omega);rw[haa5]at hg;injection hg with hg;subst hg;refine⟨h1,h2,h3,fun w5 hw5=>?_⟩;obtain⟨k1,k2,k3,-,-⟩:=h4 w5 hw5;replace hw:=(hw.tr r.cC).tr k2;replace hbd:=hbd.set (r:=3*ka+k) (c:=j) (z:=za+d) (t2:=12000000*j+4000000*k+2000000) (by omega) hla (by omega);replace hE:=k1;clear h1 h2 h3 h4 hw5 k1 k2 k3 r hxa1 hxa2 haa5;obtain⟨lb,hlb⟩:∃l,((eD f (dS f j) j k).set (3*ka+k) (la.set j (za+d)))[3*kb+k]? =some l:=⟨_,aB (by first|omega|(rw [bV];omega))⟩
   have hlbw:=hE.wid lb (aF hlb);obtain⟨zb,hzb⟩:∃z,lb[j]? =some z:=⟨_,aB (by omega)⟩
   have hzbb:=hbd lb (aF hlb) zb (aF hzb);obtain⟨vb,hvb⟩:∃v,rv[3*kb+k]? =some v:=⟨_,aB (by have:=(aE.1 hlb).1;rw[hE.len];exact this)⟩
   obtain⟨ab5,cb5,rfl⟩:=hE.form hvb;obtain⟨adb5,hab5,hxb1,hxb2⟩:=hE.load hvb hlb hzb;conv=>whnf
   refine⟨((3*kb:Nat):Int),by rw[eb,wrap64]<;>omega,?_⟩;conv=>whnf
   refine⟨((3*kb+k:Nat):Int),by rw[wrap64]<;>omega,?_⟩;conv=>whnf
   refine⟨⟨by omega,by omega⟩,?_⟩;conv=>whnf
   refine⟨.slice ab5 f.cols cb5,by rw[aC,aR,aS];exact hvb,?_⟩;conv=>whnf
   refine⟨adb5,hab5,⟨by omega,by omega⟩,?_⟩;conv=>whnf
   refine⟨.int .i64 zb,fun ρ w' r=>?_,?_⟩
   ·rw[aC,bw (w:=w5) (w2:=w') (by rw[cL];exact Rel.same r (fa _) hxb1)];exact hxb2
   conv=>whnf
   refine⟨zb-d,by rw[wrap64]<;>omega,?_⟩;conv=>whnf
   refine⟨adb5,hab5,⟨by omega,by omega⟩,?_⟩;conv=>whnf
   intro ρ w' r;obtain⟨g,hg,h1,h2,h3,h4⟩:=hE.store r (z:=zb-d) hvb hlb (show j<f.cols by omega);rw[hab5]at hg;injection hg with hg;subst hg;refine⟨h1,h2,h3,fun w5 hw5=>?_⟩;obtain⟨k1,k2,k3,-,-⟩:=h4 w5 hw5;replace hw:=(hw.tr r.cC).tr k2;replace hbd:=hbd.set (r:=3*kb+k) (c:=j) (z:=zb-d) (t2:=12000000*j+4000000*(k+1:Nat)) (by omega) hlb (by omega);replace hE:=k1;clear h1 h2 h3 h4 hw5 k1 k2 k3 r hxb1 hxb2 hab5;rw[GK hb ea eb hd hla hza hlb hzb]at hE hbd;conv=>whnf
   refine⟨((k+1:Nat):Int),by rw[wrap64]<;>omega,?_⟩;conv=>whnf
   intro ρ3 w6 r3;exact⟨(k+1,w6,_),⟨hkb,hw.tr r3.cC,hE.rel r3,hbd⟩,Sub.gen [] r3 ⟨rfl,rfl,rfl,trivial⟩ ⟨rfl,rfl,rfl,rfl,rfl,rfl,rfl,rfl,rfl,trivial⟩ (by simp[dG,cW.scopd,At.sc]) (by simp[cV,SV.sc,At.sc,cQ]) (by rfl) (fun lo hi h=>h),by dsimp only;omega⟩
  have hkb:k=3:=by have:=aH hkb;omega
  subst hkb;conv=>whnf
  refine⟨((j+1:Nat):Int),by rw[wrap64]<;>omega,?_⟩;conv=>whnf
  intro ρ3 w6 r3;exact⟨(j+1,w6,_),⟨hjb,hw.tr r3.cC,hE.rel r3,fun l hl z hz=>by have:=hbd l hl z hz;dsimp only;omega⟩,Sub.gen [] r3 ⟨rfl,rfl,trivial⟩ ⟨rfl,rfl,rfl,rfl,rfl,trivial⟩ (by simp[dG,cW.scopd,At.sc]) (by simp[cV,SV.sc,At.sc,cQ]) (by rfl) (fun lo hi h=>h),by dsimp only;omega⟩
 have hjb:j=f.bars.length:=aP hj (by simpa using hjb);subst hjb;conv=>whnf
 refine⟨Nat×World×Iv,fun z=>⟨[(1,.o (.p 0 0)),(3,.o (.s 1 0 i i)),(79,.o (.v (.slice aq f.cO.length cq))),(80,.o (.v (.int .i64 f.cO.length))),(81,.o (.v (.int .i64 ((z.1:Nat):Int))))],[(1,.arr T.Lint rv),(0,.box T.Frame [.v (.slice an f.nodes.length cn),.v (.slice ab f.bars.length cb),.v (.slice aq f.cO.length cq)])],2,z.2.2,z.2.1⟩,fun z=>f.cO.length-z.1,
  fun z=>z.1<=f.cO.length∧cN w.heap.size w z.2.1∧gA z.2.1 w.heap.size z.2.2 rv f.cols (eR f z.1)∧Ar (eR f z.1) 800000000,?_,?_⟩
 ·intro ρ w' r3;exact⟨(0,w',_),⟨aN _,hw.tr r3.cC,hE.rel r3,fun l hl z hz=>by have:=hbd l hl z hz;omega⟩,Sub.gen [] r3 ⟨rfl,rfl,trivial⟩ ⟨rfl,rfl,rfl,rfl,rfl,trivial⟩ (by simp[dG,cW.scopd,At.sc]) (by simp[cV,SV.sc,At.sc,cQ]) (by rfl) (fun lo hi h=>h)⟩
 clear hw hE hbd hj;rintro⟨j,w2,iv⟩ ⟨hj,hw,hE,hbd⟩;dsimp only at hj hw hE hbd ⊢;conv=>whnf
 refine dE.mk (fun hjb=>?_) (fun hjb=>?_)
 ·have hjb:j<f.cO.length:=by simpa using hjb
  obtain⟨s,hs⟩:∃b,f.cO[j]? =some b:=⟨_,aB hjb⟩
  obtain⟨hA,hB⟩:=hok.sup s (aF hs);obtain⟨ks,hks⟩:=Int.eq_ofNat_of_zero_le (show 0<=3*s.1+s.2.1 by omega);have hcols:f.cols=f.bars.length+f.cO.length:=rfl;have hMl:=lW f j;obtain⟨l,hl⟩:∃l,(eR f j)[ks]? =some l:=⟨_,aB (by omega)⟩
  have hlw:=hE.wid l (aF hl);obtain⟨v,hv⟩:∃v,rv[ks]? =some v:=⟨_,aB (by rw[hE.len];omega)⟩
  obtain⟨a5,c5,rfl⟩:=hE.form hv;obtain⟨z0,hz0⟩:∃z,l[f.bars.length+j]? =some z:=⟨_,aB (by omega)⟩
  obtain⟨ad5,ha5,-,-⟩:=hE.load hv hl hz0;obtain⟨adb,cs,hab,hF,-,hlb⟩:=hf.cO.load (by decide) hs;obtain⟨g0,g1,g2,g3,g4,g5,g6,g7,rfl,hF⟩:=hF;conv=>whnf
  refine⟨adb,hab,⟨by omega,by omega⟩,?_⟩;conv=>whnf
  refine⟨[.int .i64 s.1,.int .i64 s.2.1,.bool g0,.slice g1 g2 g3,.bool g4,.slice g5 g6 g7],rfl,fun ρ w' r j u hu=>?_,?_⟩
  ·obtain⟨k1,k2⟩:=hlb j u hu;rw[aC,bw (w:=w) (w2:=w') (by rw[cL,cL];exact(hw.tr r.cC).block _ (hS _ k1))];exact k2
  conv=>whnf
  refine cF hτ dV [.x 0,.x 1,.x 2,.x 3,.x 4,.x 5,.x 6,.x 7,.x 8,.x 9,.x 10,.x 11,.x 12,.x 13,.x 14,.x 15] (by kernel_rfl) (by kernel_rfl) ?_;conv=>whnf
  refine⟨3*s.1,by rw[wrap64]<;>omega,?_⟩;conv=>whnf
  refine⟨((ks:Nat):Int),by rw[wrap64]<;>omega,?_⟩;conv=>whnf
  refine⟨⟨by omega,by omega⟩,?_⟩;conv=>whnf
  refine⟨.slice a5 f.cols c5,by rw[aC,aR,aS];exact hv,?_⟩;conv=>whnf
  refine⟨((f.bars.length+j:Nat):Int),by rw[wrap64]<;>omega,?_⟩;conv=>whnf
  refine⟨ad5,ha5,⟨by omega,by omega⟩,?_⟩;conv=>whnf
  intro ρ w' r;obtain⟨g,hg,h1,h2,h3,h4⟩:=hE.store r (z:=1) hv hl (show f.bars.length+j<f.cols by omega);rw[ha5]at hg;injection hg with hg;subst hg;refine⟨h1,h2,h3,fun w5 hw5=>?_⟩;obtain⟨k1,k2,k3,-,-⟩:=h4 w5 hw5;replace hw:=(hw.tr r.cC).tr k2;have hbd2:=hbd.set (r:=ks) (c:=f.bars.length+j) (z:=1) (t2:=800000000) (by omega) hl (by omega);rw[Bu hs hks hl]at k1 hbd2;clear h1 h2 h3 h4 hw5 k2 k3 r hE;conv=>whnf
  refine⟨((j+1:Nat):Int),by rw[wrap64]<;>omega,?_⟩;conv=>whnf
  intro ρ3 w6 r3;exact⟨(j+1,w6,_),⟨hjb,hw.tr r3.cC,k1.rel r3,hbd2⟩,Sub.gen [] r3 ⟨rfl,rfl,trivial⟩ ⟨rfl,rfl,rfl,rfl,rfl,trivial⟩ (by simp[dG,cW.scopd,At.sc]) (by simp[cV,SV.sc,At.sc,cQ]) (by rfl) (fun lo hi h=>h),by dsimp only;omega⟩
 have hjb:j=f.cO.length:=aP hj (by simpa using hjb);subst hjb;conv=>whnf
 intro ρe we re;have hE2:=hE.rel re;have hMl:=lW f f.cO.length;have hrl2:=hE.len;refine⟨_,rfl,hw.tr re.cC,⟨rv,?_,hE.len,fun i u x k1 k2=>?_⟩,hbd,hE.wid,by rw[<-hm];exact hMl⟩
 ·rw[show (fN f).length=rv.length from hE.len.symm];have h5:=re.HY (id:=1) (sz:=1) (m:=rv.length) rfl (by simp) (by unfold maxLen;omega) hE.one;rw[show (i:Nat)=rv.length by omega];exact h5.cG fun g hg=>.inr hg
 ·obtain⟨a,c,rfl⟩:=hE.form k1;have hxl:=hE.wid x (aF k2);refine⟨by rw[hxl];unfold fK.cols maxLen;omega,by simp,fun v hv=>by obtain⟨z,_,rfl⟩:=aU.1 hv;rfl,a,c,by rw[hxl],?_,fun t v hv=>?_⟩
  ·rw[hxl];obtain⟨a2,c2,e,h⟩:=iw (hE.row i _ x k1 k2);injection e with e1 e2 e3;omega
  ·rw[aO]at hv
   cases ht:x[t]? with
   |none=>rw[ht]at hv;cases hv
   |some z=>
    rw[ht]at hv;simp only[Option.map_some,Option.some.injEq]at hv;subst hv;obtain⟨ad,h1,h2,h3⟩:=hE2.load k1 k2 ht;exact⟨ad,h1,Cv.nw h2 re,by rw[aR]at h3;exact h3⟩
end Go.Ex
namespace Go.Ex
open Go Go.Sx Go.Proofs
theorem gB(f:fK):(dD f).length=3*f.nodes.length:=by rw[dD,aM];exact lW f _
theorem zX{z:Int}(h1: -2000000000<=z)(h2:z<=2000000000):rl (z:Rat)<=1:=by
 have e1:((z:Rat)).num=z:=rfl;have e2:((z:Rat)).den=1:=rfl;rw[rl,e1,e2];have a1:ln z.natAbs<=1:=iA.2 (by rw[zz];omega);have a2:ln 1<=1:=by decide
 omega
set_option maxHeartbeats 1000000 in
theorem jI{S:Nat->Prop}{w:World}{vn vb vs:Value}{f:fK}(hS:Old S w)(hf:dT w S vn vb vs f)(hok:pM f):
  dh PG N.mg #[.agg #[vn,vb,vs]] w (dw w fun v' w2=>(∃vr,v'= .agg #[vr,.int .i64 f.cols]∧cI w2 (Nw (fun _=>False) w w2) vr (dD f))∧fk f.cols (dD f)∧Ht (dD f) 2):=by
 have hw:cN w.heap.size w w:=cN.refl;obtain⟨an,cn,ab,cb,aq,cq,rfl,rfl,rfl,hmn,hmb,hms⟩:=hf.shape;obtain⟨hn20,hb60,hs60⟩:=And.intro hok.n (And.intro hok.b hok.s);have hcols:f.cols=f.bars.length+f.cO.length:=rfl;refine pz (by simp) ?_;conv=>whnf
 refine⟨((f.cols:Nat):Int),by rw[wrap64]<;>first|rfl|omega,?_⟩;conv=>whnf
 refine bz (cH (Φ:=fun _ w' v w2=>iK w2 (Nw (fun _=>False) w' w2) v (fN f)∧Ar (fN f) 800000000∧(∀l∈fN f,l.length=f.cols)∧(fN f).length=3*f.nodes.length) (fun ρ w' r=>zW (S:=S) (fun g hg=>by have:=hS g hg;have:=r.bu;omega) (hf.cD fun g hg=>(hw.tr r.cC).block g (hS g hg)) hok) ?_);rintro ρ wa1 v1 wb1 r he hb1 ⟨k1,hbd,hwid,hml⟩;replace hw:=hw.tr hb1;have hM:=iK.cG k1 fun g hg=>hg.cw (B:=w.heap.size) (S:=fun _=>False) r.bu (iv:=(wa1.heap.size,wb1.heap.size)::[]) aJ;clear r he hb1 k1;generalize (wa1.heap.size,wb1.heap.size)::[]=iv1 at*
 obtain⟨am,cm,rfl,hcm,hmm⟩:=cT.shape hM;unfold maxLen at hmm;conv=>whnf
 refine⟨Nat×List Value×World×Iv,fun z=>⟨[(20,.o (.v (.int .i64 ((z.1:Nat):Int)))),(2,.o (.p 1 0)),(3,.o (.p 2 0)),(18,.o (.v (.slice am (fN f).length cm))),(19,.o (.v (.int .i64 (fN f).length)))],[(2,.box T.de [.w 3 z.2.1.length,.v (.int .i64 ((f.cols:Nat):Int))]),(3,.vec T.fz 1 z.2.1),(1,.box T.de [.v (.slice none 0 0),.v (.int .i64 0)])],4,z.2.2.2,z.2.2.1⟩,fun z=>(fN f).length-z.1,
  fun z=>z.1<=(fN f).length∧cN w.heap.size w z.2.2.1∧iK z.2.2.1 (Cv (fun _=>False) w.heap.size z.2.2.2) (.slice am (fN f).length cm) (fN f)∧dK z.2.2.1 (Cv (fun _=>False) w.heap.size z.2.2.2) z.2.1 ((dD f).take z.1),?_,?_⟩
 ·intro ρ w' r;exact⟨(0,[],w',_),⟨aN _,hw.tr r.cC,hM.cD fun g hg=>Rel.same r (bs w) hg,by simp[dK]⟩,Sub.A5 2 0 T.fz 1 rfl rfl (by simp[cV,SV.sc,At.sc,cQ]) r fun ρ1 r1=>Sub.gen [] r1 ⟨rfl,rfl,rfl,trivial⟩ ⟨rfl,rfl,rfl,rfl,rfl,trivial⟩ (by simp[dG,cW.scopd,At.sc]) (by simp[cV,SV.sc,At.sc]) (by rfl) (fun lo hi h=>h)⟩
 clear hw hM;rintro⟨k,rv,w1,iv⟩ ⟨hk,hw,hM,hK⟩;dsimp only at hk hw hM hK ⊢;have hrl:rv.length=k:=by rw[hK.1,aX,dD,aM];omega
 conv=>whnf
 refine dE.mk (fun hkb=>?_) (fun hkb=>?_)
 ·have hkb:k<(fN f).length:=by simpa using hkb
  obtain⟨l,hl⟩:∃l,(fN f)[k]? =some l:=⟨_,aB hkb⟩
  have hlw:=hwid l (aF hl);have hnext:(dD f).take (k+1)=(dD f).take k++[cU l]:=by rw[List.take_add_one,show(dD f)[k]? =some (cU l) by rw[dD,aO,hl];rfl];rfl
  obtain⟨adm,um,ham,hLm,km1,km2⟩:=cT.load hM hl;obtain⟨a0,c0,rfl,hc0,-⟩:=yM.shape hLm;conv=>whnf
  refine⟨adm,ham,⟨by omega,by omega⟩,?_⟩;conv=>whnf
  refine⟨.slice a0 l.length c0,fun ρ w' r=>?_,?_⟩
  ·rw[aC,bw (w:=w1) (w2:=w') (by rw[cL];exact Rel.same r (bs w) km1)];exact km2
  conv=>whnf
  refine⟨l.length,l.length,rfl,rfl,aG _,by omega,by omega,?_⟩;conv=>whnf
  refine⟨Nat×Nat×World×Iv,fun z=>⟨[(6,.o (.v (.slice (some ⟨z.2.1,0,none⟩) l.length l.length))),(5,.o (.v (.slice a0 l.length c0))),(27,.o (.v (.slice a0 l.length c0))),(28,.o (.v (.int .i64 l.length))),(29,.o (.v (.int .i64 ((z.1:Nat):Int)))),(20,.o (.v (.int .i64 ((k:Nat):Int)))),(2,.o (.p 1 0)),(3,.o (.p 2 0)),(18,.o (.v (.slice am (fN f).length cm))),(19,.o (.v (.int .i64 (fN f).length)))],[(2,.box T.de [.w 3 rv.length,.v (.int .i64 ((f.cols:Nat):Int))]),(3,.vec T.fz 1 rv),(1,.box T.de [.v (.slice none 0 0),.v (.int .i64 0)])],5,z.2.2.2,z.2.2.1⟩,fun z=>l.length-z.1,
   fun z=>z.1<=l.length∧cN w.heap.size w z.2.2.1∧iK z.2.2.1 (Bs (fun _=>False) w.heap.size z.2.2.2 (.slice (some ⟨z.2.1,0,none⟩) l.length l.length)) (.slice am (fN f).length cm) (fN f)∧yM z.2.2.1 (Bs (fun _=>False) w.heap.size z.2.2.2 (.slice (some ⟨z.2.1,0,none⟩) l.length l.length)) (.slice a0 l.length c0) l∧dK z.2.2.1 (Bs (fun _=>False) w.heap.size z.2.2.2 (.slice (some ⟨z.2.1,0,none⟩) l.length l.length)) rv ((dD f).take k)∧gn z.2.2.1 (fun _=>False) w.heap.size z.2.2.2 (.slice (some ⟨z.2.1,0,none⟩) l.length l.length) l.length z.1 (cU l),?_,?_⟩
  ·intro ρ w' r;have hf:=gn.mw (S:=fun _=>False) (n:=l.length) r (id:=4) rfl (by unfold maxLen;omega) (cU l);have hbs:∀g,Cv (fun _=>False) w.heap.size iv g->Bs (fun _=>False) w.heap.size (((ρ 4).g,(ρ 4).g+1)::iv) (.slice (some ⟨(ρ 4).g,0,none⟩) l.length l.length) g:=fun g hg=>⟨hg.mono fun p hp=>aD _ hp,fun e=>Rel.not r (bs w) hg 4 _ rfl (r.fits (id:=4) rfl).1 (by injection e)⟩
   exact⟨(0,(ρ 4).g,w',((ρ 4).g,(ρ 4).g+1)::iv),⟨aN _,hw.tr r.cC,(hM.cD fun g hg=>Rel.same r (bs w) hg).cG hbs,(hLm.cD fun g hg=>Rel.same r (bs w) hg).cG hbs,dK.cG (hK.rel r (bs w)) hbs,hf⟩,
    Sub.mw r (id:=4) (t:=6) rfl rfl ⟨rfl,rfl,rfl,trivial⟩ rfl ⟨rfl,rfl,rfl,rfl,rfl,rfl,rfl,rfl,rfl,trivial⟩ (by simp[cV,SV.sc,At.sc])⟩
  clear hw hM hK hLm;rintro⟨i,gx,w2,iv⟩ ⟨hi,hw,hM,hLm,hK,hX⟩;dsimp only at hi hw hM hLm hK hX ⊢;conv=>whnf
  refine dE.mk (fun hib=>?_) (fun hib=>?_)
  ·have hib:i<l.length:=by simpa using hib
   obtain⟨z,hz⟩:∃z,l[i]? =some z:=⟨_,aB hib⟩
   have hzb:=hbd l (aF hl) z (aF hz);obtain⟨adz,haz,kz1,kz2⟩:=hLm.at hz;conv=>whnf
   refine⟨adz,haz,⟨by omega,by omega⟩,?_⟩;conv=>whnf
   refine⟨.int .i64 z,fun ρ w' r=>?_,?_⟩
   ·rw[aC,bw (w:=w2) (w2:=w') (by rw[cL];exact Rel.same r (bs w) kz1.1)];exact kz2
   conv=>whnf
   refine bz (cH (Φ:=fun _ w' v w2=>cR w2 (Nw (fun _=>False) w' w2) v (z:Rat)) (fun ρ w' r=>lT z w' (by omega) (by omega)) ?_);rintro ρ wa3 v3 wb3 r he hb1 hn2;replace hw:=hw.tr hb1;have hbs:∀g,Bs (fun _=>False) w.heap.size iv (.slice (some ⟨gx,0,none⟩) l.length l.length) g->Bs (fun _=>False) w.heap.size ((wa3.heap.size,wb3.heap.size)::iv) (.slice (some ⟨gx,0,none⟩) l.length l.length) g:=fun g hg=>Bs.mono (fun x hx=>aD _ hx) hg;have hbk:∀g,Bs (fun _=>False) w.heap.size iv (.slice (some ⟨gx,0,none⟩) l.length l.length) g->wb3.heap[g]? =w2.heap[g]? :=fun g hg=>(he.block g (Rel.old r (bs w) g hg.1)).trans (Bs.same r (bs w) g hg);replace hM:=(hM.cD hbk).cG hbs;replace hLm:=(hLm.cD hbk).cG hbs;replace hK:=dK.cG (dK.cD hK hbk) hbs;have hd:=hn2.cG (S':=Bs (fun _=>False) w.heap.size ((wa3.heap.size,wb3.heap.size)::iv) (.slice (some ⟨gx,0,none⟩) l.length l.length)) fun g hg=>hg.elim (fun h=>h.elim) fun h=>⟨.inr ⟨by have:=r.bu;omega,_,_,aJ,h.1,h.2⟩,fun e=>by have:=Rel.old r (bs w) g (hX.new g e);omega⟩
   replace hX:=hX.cB (iv':=(wa3.heap.size,wb3.heap.size)::iv) r (bs w) he fun x hx=>aD _ hx;clear r he hb1 hn2 hbs hbk;generalize (wa3.heap.size,wb3.heap.size)::iv=iv3 at*
   obtain⟨s3_0,s3_1,s3_2,s3_3,s3_4,s3_5,s3_6,s3_7,rfl⟩:=hd.shape;conv=>whnf
   refine⟨⟨gx,0,none⟩,rfl,⟨by omega,by omega⟩,?_⟩;conv=>whnf
   intro ρ w' r;obtain⟨g,hg,h1,h2,h3,h4⟩:=hX.store (j:=i) hib (by rw[cU,aO,hz];rfl) hd r (bs w);injection hg with hg;injection hg with hg;subst hg;refine⟨h1,h2,h3,fun w5 hw5=>?_⟩;obtain⟨k1,k2,k3,k4⟩:=h4 w5 hw5;have hw2:=(hw.tr r.cC).tr k3;have hkk:=Bs.kept (v:=(.slice (some ⟨gx,0,none⟩) l.length l.length)) r (bs w) k2 fun g e=>e;have hM2:=hM.cD hkk;have hLm2:=hLm.cD hkk;have hK2:=dK.cD hK hkk;clear hX hK hM hLm hw h1 h2 h3 h4 hw5 k2 k3 k4 r hd hkk;conv=>whnf
   refine⟨((i+1:Nat):Int),by rw[wrap64]<;>omega,?_⟩;conv=>whnf
   intro ρ3 w6 r3;exact⟨(i+1,gx,w6,_),⟨hib,hw2.tr r3.cC,hM2.cD (Bs.same r3 (bs w)),hLm2.cD (Bs.same r3 (bs w)),dK.cD hK2 (Bs.same r3 (bs w)),k1.rel r3 (bs w)⟩,Sub.gen [] r3 ⟨rfl,rfl,rfl,trivial⟩ ⟨rfl,rfl,rfl,rfl,rfl,rfl,rfl,rfl,rfl,rfl,trivial⟩ (by simp[dG,cW.scopd,At.sc]) (by simp[cV,SV.sc,At.sc]) (by rfl) (fun lo hi h=>h),by dsimp only;omega⟩
  have hib:i=l.length:=aP hi (by simpa using hib);rw[hib]at hX;have hX2:=(hX.done (by simp[cU])).c;replace hK:=(dK.cG hK fun g hg=>hg.1).push (u:=(.slice (some ⟨gx,0,none⟩) l.length l.length)) (x:=cU l) rfl (by rw[show l.length=(cU l).length by simp[cU]]at hX2 ⊢;exact hX2);rw[<-hnext]at hK;replace hM:=hM.cG fun g hg=>hg.1;clear hX hX2 hLm;conv=>whnf
  refine .inl ?_;conv=>whnf
  refine⟨by simp,by omega,by unfold maxLen;omega,?_⟩;conv=>whnf
  refine⟨((k+1:Nat):Int),by rw[wrap64]<;>omega,?_⟩;conv=>whnf
  intro ρ3 w3 r3;exact⟨(k+1,rv++[(.slice (some ⟨gx,0,none⟩) l.length l.length)],w3,_),⟨hkb,hw.tr r3.cC,hM.cD fun g hg=>Rel.same r3 (bs w) hg,hK.rel r3 (bs w)⟩,Sub.gen [(3,6)] r3 ⟨by dsimp only;rw[List.length_append,List.length_singleton];rfl,rfl,rfl,trivial⟩ ⟨rfl,rfl,rfl,rfl,rfl,trivial⟩ (by simp[dG,cW.scopd,At.sc]) (by simp[cV,SV.sc,At.sc]) (by rfl) (fun lo hi h=>h),by dsimp only;omega⟩
 have hkb:k=(fN f).length:=aP hk (by simpa using hkb);rw[List.take_of_length_le (by rw[dD,aM];omega)]at hK;conv=>whnf
 intro ρe we re;refine⟨_,rfl,hw.tr re.cC,⟨_,rfl,rv,?_,hK.1,fun i u x k1 k2=>cP.cG (cP.rel (hK.2.2 i u x k1 k2) re (bs w)) fun g hg=>Cv.nw hg re⟩,fun x hx=>?_,fun x hx q hq=>?_⟩
 ·rw[<-hK.1];exact(re.gR (id:=3) (sz:=1) (m:=rv.length) rfl (by simp) (by unfold maxLen;omega) (by decide) hK.2.1).cG fun g hg=>.inr hg
 ·obtain⟨l,hl,rfl⟩:=aU.1 hx;rw[cU,aM];exact hwid l hl
 ·obtain⟨l,hl,rfl⟩:=aU.1 hx;obtain⟨z,hz,rfl⟩:=aU.1 hq;have:=hbd l hl z hz;have:=zX (z:=z) (by omega) (by omega);omega
end Go.Ex
