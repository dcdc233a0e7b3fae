/- Texts X212 to X227: lemmas, each with its conditions. -/
import Derived.Test.YtgkpbdkechfgmaaGreatP16
namespace Go.Ex
open Go Go.Sx Go.Proofs
variable{x:List Rat}{S:Nat->Prop}{O:Nat->Sx.dw}{w:World}{f:eu}
theorem eR.cvc{H:Hp}{nx n:Nat}{iv:Iv}{B:Nat}{w' w2:World}{v:Value}(h:eR w2 (Cv FF B iv) w'.heap.size [(w'.heap.size,w2.heap.size)] v n x)(r:Rel H nx iv B w O w'):cO w2 (Cv FF B ((w'.heap.size,w2.heap.size)::iv)) v x:=
 cO.cL h.c fun g hg=>by
  rcases hg with hg|⟨h1,lo,hi,h2,h3,h4⟩
  ·exact hg.mono fun p hp=>aC _ hp
  ·simp at h2;obtain⟨rfl,rfl⟩:=h2;exact .inr ⟨by have:=r.cG;omega,_,_,aG,h3,h4⟩
theorem NS(h:FrS f):∀u∈cX (dY (cS f) f.cols) (cS f).length,∀q∈u,rl q<=19:=fun u hu q hq=>by
 obtain⟨D,hD⟩:=II (gg (cS f) f.cols) h.tw (by decide);exact aX (hD.rl u hu q hq) h.LC
set_option maxRecDepth 8000 in
set_option maxHeartbeats 1000000 in
theorem GA{vn vb vs vl:Value}{l:List Ld}(hS:Old S w)(hf:eF w S vn vb vs f)(hl:iE w S vl l)(Rj:eY f=0->GQ f):
  eG PG N.ry #[.agg #[vn,vb,vs],vl] w (eL w fun v' w2=>(iF f l≠0∧v'= .tuple #[.agg #[.int .i64 0,.slice none 0 0,.slice none 0 0],.int .i64 (iF f l)])∨(iF f l=0∧((∃x vx,fz (cS f) (dR (eN f l) (-1)) f.cols=some x∧v'= .tuple #[.agg #[.int .i64 0,vx,.slice none 0 0],.int .i64 0]∧cO w2 (Nf w w2) vx x)∨(fz (cS f) (dR (eN f l) (-1)) f.cols=none∧∃u vu,u∈cX (dY (cS f) f.cols) (cS f).length∧dT (eN f l) u (eN f l).length≠0∧v'= .tuple #[.agg #[.int .i64 1,.slice none 0 0,vu],.int .i64 0]∧cO w2 (Nf w w2) vu (dR u (1 / dT (eN f l) u (eN f l).length)))))):=by
 have hw:=bR w;obtain⟨an,cn,ab,cb,aq,cq,rfl,rfl,rfl,RH,Re,SB⟩:=hf.shape;obtain⟨al,cl,rfl,Pf,Qt⟩:=hl.shape;obtain⟨e0,EE⟩:∃e,iF f l=e:=⟨_,rfl⟩
 refine vo (by simp) ?_;conv=>whnf
 refine cH (cE hw (fun _ w' v w2=>v= .int .i64 e0) (fun O w' r=>(ll (oS hS r) (hf.cJ (kS hw r hS)) (hl.cJ (kS hw r hS))).mono fun _ _ ⟨v2,e1,e2,e3⟩=>⟨v2,e1,e2,by rw[e3,EE]⟩) ?_);rintro O _ _ _ Og r he hw h_ rfl;clear r;conv=>whnf
 refine dN.mk ?_ ?_<;>intro he
 ·have he:e0≠0:=by simpa using he
  conv=>whnf
  exact rtn hw fun ρe we re=>.inl ⟨by rw[EE];exact he,by rw[EE];rfl⟩
 have he:e0=0:=by simpa using he
 have Qk:iF f l=0:=by rw[EE,he]
 obtain⟨Ou,Qr⟩:=lj Qk;have RJ:=Rj Ou;have PE:=RJ.toFrS;have Qr:=yb Qr;clear EE he;have Td:=PE.Jy;have VW:=PE.Ma;have R5:=fK f;have hlen:=gH f;have hn4:=PE.n4;have OZ:=lC Ou;have Sp:=gj f l;have XQ:f.cols=f.bars.length+f.cY.length:=rfl;conv=>whnf
 have PQ:=HX Qr;have Wp:(dR (eN f l) (-1)).length=(cS f).length:=by rw[dR,aL,Sp,R5]
 have hw0:=PE.DQ PQ;have Ok:=PE.zt (b:=dR (eN f l) (-1));refine cQ hτ dx [.x 0,.x 2,.x 3,.p 5,.x 1,.x 4,.x 5,.x 6,.x 7] (by kernel_rfl) (by kernel_rfl) ?_;conv=>whnf
 refine cE hw (fun _ w' v w2=>∃vr,v= .agg #[vr,.int .i64 f.cols]∧cV w2 (Nf w' w2) vr (cS f)) (fun O w' r=>(oq (S:=S) (oS hS r) (hf.cJ (kS hw r hS)) OZ).mono fun _ _ ⟨v2,e1,e2,e3,_⟩=>⟨v2,e1,e2,e3⟩) ?_;rintro O _ v2 _ OX r he hw h_ ⟨vr,rfl,hn⟩;have hM:=cV.dF (S:=FF) hn r.cG (mN h_);clear r he;clear hn;obtain⟨am,cm,rfl,-,-⟩:=cd.shape hM;conv=>whnf
 refine cE hw (fun _ w' v w2=>cO w2 (Nf w' w2) v (eN f l)∧∀q∈eN f l,rl q<=1) (fun O w' r=>(wM (oS hS r) (hl.cJ (kS hw r hS)) PE.n Qr rfl rfl).mono fun _ _ ⟨v2,e1,e2,e3,e4⟩=>⟨v2,e1,e2,cO.cL e3.c fun g hg=>hg.new,e4⟩) ?_;rintro O _ _ _ Oh r he hw h_ ⟨hn,VX⟩;replace hM:=cV.cK hM r (cF w) he (mC h_);have hP:=cO.dF (S:=FF) hn r.cG (mN h_);clear r he;clear hn;obtain⟨ap,cp,rfl,-,-⟩:=dO.shape hP;rw[Sp];conv=>whnf
 refine cQ hτ dx [.x 0,.x 1,.x 2,.x 3,.x 4,.x 5,.x 6,.x 7,.x 8,.x 9] (by kernel_rfl) (by kernel_rfl) ?_;conv=>whnf
 refine cE hw (fun _ w' v w2=>dA w2 (Nf w' w2) v ((-1:Int):Rat)) (fun O w' r=>jx (-1) w' (by decide) (by decide)) ?_;rintro O _ _ _ On r he hw h_ hn;replace hM:=cV.cK hM r (cF w) he (mC h_);replace hP:=cO.cK hP r (cF w) he (mC h_);have hd:=hn.dF (S:=FF) r.cG (mN h_);clear r he;obtain⟨A0,A1,A2,A3,A4,A5,A6,A7,rfl⟩:=hd.shape;conv=>whnf
 refine cE hw (fun _ w' v w2=>cO w2 (Nf w' w2) v (dR (eN f l) (-1))) (fun O w' r=>(wH (S:=Cf w On) (Rel.old r (cF w)) (cO.l (by have:=cO.rel hP r (cF w);rw[Sp]at this;exact this) fun q hq=>by have:=VX q hq;omega) ((hd.rel r (cF w)).l (by decide)) (by omega)).mono fun _ _ ⟨v2,e1,e2,e3⟩=>⟨v2,e1,e2,cO.cL e3.c fun g hg=>hg.new⟩) ?_;rintro O _ _ _ PN r he hw h_ hn;replace hM:=cV.cK hM r (cF w) he (mC h_);replace hP:=cO.cK hP r (cF w) he (mC h_);clear hd;have hG:=cO.dF (S:=FF) hn r.cG (mN h_);clear r he;clear hn;obtain⟨ag,cg,rfl,-,-⟩:=dO.shape hG;conv=>whnf
 refine cM (Φ:=fun _ w' v w2=>(fz (cS f) (dR (eN f l) (-1)) f.cols=none∧v= .tuple #[.slice none 0 0,.bool false])∨∃x vx,fz (cS f) (dR (eN f l) (-1)) f.cols=some x∧v= .tuple #[vx,.bool true]∧eR w2 (Cf w PN) w'.heap.size [(w'.heap.size,w2.heap.size)] vx f.cols x) (fun O w' r=>vS (M:=cS f) (b:=dR (eN f l) (-1)) hlen hw0▸Fi (C:=Cf w PN) (S:=Cf w PN) (h:=30) (Rel.old r (cF w)) (Rel.old r (cF w)) (cV.rel hM r (cF w)) (cO.rel hG r (cF w)) Wp hlen (by omega) (by omega) (nh (jE hlen) hw0 oU (by rw[qA]at *;omega)) (by decide)) ?_;rintro O SQ v6 S6 r he hb (⟨SD,rfl⟩|⟨x0,vx,Rg,rfl,k2⟩)
 ·replace hw:=hw.tr hb;replace hM:=cV.cK (iv':=(SQ.heap.size,S6.heap.size)::PN) hM r (cF w) he fun x hx=>aC _ hx;replace hP:=cO.cK (iv':=(SQ.heap.size,S6.heap.size)::PN) hP r (cF w) he fun x hx=>aC _ hx;clear hG r he hb;generalize (SQ.heap.size,S6.heap.size)::PN=ivn at*
  conv=>whnf
  refine cH (cM (Φ:=fun _ w' v w2=>∃vr,v= .agg #[vr,.int .i64 (cS f).length]∧cV w2 (Nw (Cf w ivn) w' w2) vr (dY (cS f) f.cols)) (fun O w' r=>sJ (C:=Cf w ivn) (S:=Cf w ivn) (Rel.old r (cF w)) (Rel.old r (cF w)) (cV.rel hM r (cF w)) hlen (by omega) (by omega)) ?_);rintro O XU v7 XV r he hb ⟨vt,rfl,hn⟩;replace hw:=hw.tr hb;clear hM;replace hP:=cO.cK (iv':=(XU.heap.size,XV.heap.size)::ivn) hP r (cF w) he fun x hx=>aC _ hx;have hT:=cV.old hn r.cG;clear r he hb;generalize (XU.heap.size,XV.heap.size)::ivn=RR at*
  clear hn;obtain⟨at_,ct,rfl,-,-⟩:=cd.shape hT;conv=>whnf
  refine cH (cE hw (fun _ w' v w2=>cV w2 (Nf w' w2) v (cX (dY (cS f) f.cols) (cS f).length)) (fun O w' r=>s8 (M:=dY (cS f) f.cols) (n:=(cS f).length) (gg _ _) PE.tw▸tI (C:=Cf w RR) (S:=Cf w RR) (h:=20) (Rel.old r (cF w)) (Rel.old r (cF w)) (cV.rel hT r (cF w)) (gg (cS f) f.cols) (by simp only[kU];omega) (by omega) (nh (gg (cS f) f.cols) PE.tw (by decide) (by have:=PE.LC;omega)) (tJ (gg (cS f) f.cols) PE.tw (by decide) (by have:=PE.LC;omega)) (by decide)) ?_);rintro O _ _ _ SP r he hw h_ hn;replace hP:=cO.cK hP r (cF w) he (mC h_);clear hT;have hK:=cV.dF (S:=FF) hn r.cG (mN h_);clear r he;clear hn;obtain⟨ak,ck,rfl,-,hKm⟩:=cd.shape hK;unfold maxLen at hKm;have hKl:=jG (dY (cS f) f.cols) (cS f).length;have hKr:=NS PE;obtain⟨y,hy1,XP⟩:=Gy SD;have QX:∃u∈cX (dY (cS f) f.cols) (cS f).length,dT (eN f l) u (eN f l).length≠0:=⟨y,hy1,XP⟩
  clear hy1 XP;obtain⟨K,Wq⟩:∃K,cX (dY (cS f) f.cols) (cS f).length=K:=⟨_,rfl⟩
  obtain⟨P,hP0⟩:∃P,eN f l=P:=⟨_,rfl⟩
  have hmem:∀u,u∈K->u∈cX (dY (cS f) f.cols) (cS f).length:=fun u hu=>by rw[Wq];exact hu
  rw[Wq]at hK hKl hKr QX hKm;rw[hP0]at hP VX Sp QX;rw[Wq];conv=>whnf
  refine⟨Nat×World×Iv,fun z=>⟨[(4,pP 1 0),(5,iZ 0),(8,.o (.v (.slice ap (3*f.nodes.length) cp))),(39,sV ak K.length ck),(40,iZ K.length),(41,iN z.1)],[(1,.box T.aA8 [.v (.int .i64 0),.v (.slice none 0 0),.v (.slice none 0 0)])],3,z.2.2,z.2.1⟩,fun z=>K.length-z.1,
   fun z=>z.1<=K.length∧dq w.heap.size w z.2.1∧cO z.2.1 (Cf w z.2.2) (.slice ap (3*f.nodes.length) cp) P∧cV z.2.1 (Cf w z.2.2) (.slice ak K.length ck) K∧∀(j:Nat) u,j<z.1->K[j]? =some u->dT P u P.length=0,?_,?_⟩
  ·intro O w' r;exact⟨(0,w',_),⟨aR _,hw.tr r.cU,cO.rel (by rw[Sp]at hP;exact hP) r (cF w),cV.rel hK r (cF w),fun j u h=>absurd h (Nat.not_lt_zero j)⟩,Sub.gn [] r⟩
  clear hw hP hK;rintro⟨i,w9,iv⟩ ⟨hi,hw,hP,hK,hz⟩;dsimp only at hi hw hP hK hz ⊢;conv=>whnf
  refine dN.mk ?_ ?_<;>intro OU
  ·have OU:i<K.length:=by have:=aI OU;omega
   obtain⟨u,hu⟩:∃u,K[i]? =some u:=⟨_,aA OU⟩
   have hum:=aD hu;have hul:=hKl u hum;have UD:=hKr u hum;obtain⟨adm,um,Qs,PD,km1,km2⟩:=cd.load hK hu;obtain⟨au,cu,rfl,-,-⟩:=dO.shape PD;conv=>whnf
   refine⟨adm,Qs,by omega,?_⟩;conv=>whnf
   refine⟨.slice au u.length cu,fun O w' r=>?_,?_⟩
   ·rw[aF,cI (w:=w9) (w2:=w') (by rw[dC];exact Rel.same r (cF w) km1)];exact km2
   conv=>whnf
   clear km1 km2;rw[<-Sp]at hP;have Sg:∀q∈P,rl q<=19:=fun q hq=>by have:=VX q hq;omega
   rw[show (3*f.nodes.length)=P.length from Sp.symm];conv=>whnf
   refine cH (cE hw (fun _ w' v w2=>dA w2 (Nf w' w2) v (dT P u P.length)) (fun O w' r=>Al (S:=Cf w iv) (h:=20) (Rel.old r (cF w)) (cO.l (cO.rel hP r (cF w)) fun q hq=>by have:=Sg q hq;omega) (cO.l (cO.rel PD r (cF w)) fun q hq=>by have:=UD q hq;omega) (by omega) (fun q hq=>by have:=Sg q hq;omega) (fun q hq=>by have:=UD q hq;omega) (by decide) (by omega)) ?_);rintro O _ _ _ TL r he hw h_ hn;replace hP:=cO.cK hP r (cF w) he (mC h_);replace hK:=cV.cK hK r (cF w) he (mC h_);replace PD:=cO.cK PD r (cF w) he (mC h_);have hd:=hn.dF (S:=FF) r.cG (mN h_);clear r he;obtain⟨C0,C1,C2,C3,C4,C5,C6,C7,rfl⟩:=hd.shape;have hdr:=ke (h:=20) (xs:=P) (ys:=u) (fun q hq=>by have:=Sg q hq;omega) (fun q hq=>by have:=UD q hq;omega) (by decide) P.length;conv=>whnf
   refine cH (cE hw (fun _ w' v w2=>∃d,v= .bool d∧(d=true↔dT P u P.length=0)) (fun O w' r=>lI (S:=Cf w TL) (Rel.old r (cF w)) ((hd.rel r (cF w)).l (by omega))) ?_);rintro O _ _ _ Tk r he hw h_ ⟨d,rfl,RW⟩;replace hP:=cO.cK hP r (cF w) he (mC h_);replace hK:=cV.cK hK r (cF w) he (mC h_);replace PD:=cO.cK PD r (cF w) he (mC h_);replace hd:=hd.cK r (cF w) he (mC h_);clear r he
   cases d
   ·have OY:dT P u P.length≠0:=fun e=>by have:=RW.2 e;cases this
    conv=>whnf
    refine cQ hτ dx [.x 0,.x 2,.x 1,.x 3,.x 4,.x 5,.x 6,.x 7] (by kernel_rfl) (by kernel_rfl) ?_;conv=>whnf
    refine cE hw (fun _ w' v w2=>dA w2 (Nf w' w2) v ((1:Int):Rat)) (fun O w' r=>jx 1 w' (by decide) (by decide)) ?_;rintro O _ _ _ RS r he hw h_ hn;replace hP:=cO.cK hP r (cF w) he (mC h_);replace hK:=cV.cK hK r (cF w) he (mC h_);replace PD:=cO.cK PD r (cF w) he (mC h_);replace hd:=hd.cK r (cF w) he (mC h_);have h1:=hn.dF (S:=FF) r.cG (mN h_);clear r he;obtain⟨E0,E1,E2,E3,E4,E5,E6,E7,rfl⟩:=h1.shape;conv=>whnf
    refine cE hw (fun _ w' v w2=>dA w2 (Nf w' w2) v (1 / dT P u P.length)) (fun O w' r=>LZ (S:=Cf w RS) (Rel.old r (cF w)) ((h1.rel r (cF w)).l (by decide)) ((hd.rel r (cF w)).l (by omega)) OY) ?_;rintro O _ _ _ Va r he hw h_ hn;replace hP:=cO.cK hP r (cF w) he (mC h_);replace hK:=cV.cK hK r (cF w) he (mC h_);replace PD:=cO.cK PD r (cF w) he (mC h_);clear hd;clear h1;have hq:=hn.dF (S:=FF) r.cG (mN h_);clear r he;obtain⟨F0,F1,F2,F3,F4,F5,F6,F7,rfl⟩:=hq.shape;have hqr:=zx OY;conv=>whnf
    refine cE hw (fun _ w' v w2=>cO w2 (Nf w' w2) v (dR u (1 / dT P u P.length))) (fun O w' r=>(wH (S:=Cf w Va) (Rel.old r (cF w)) (cO.l (cO.rel PD r (cF w)) fun q hq=>by have:=UD q hq;omega) ((hq.rel r (cF w)).l (by omega)) (by omega)).mono fun _ _ ⟨v2,e1,e2,e3⟩=>⟨v2,e1,e2,cO.cL e3.c fun g hg=>hg.new⟩) ?_;rintro O _ _ _ iv13 r he hw h_ hn;clear hP;clear hK;clear PD;clear hq;have hG:=cO.dF (S:=FF) hn r.cG (mN h_);clear r he;clear hn;obtain⟨ag2,cg2,rfl,-,-⟩:=dO.shape hG;conv=>whnf
    exact rtn hw fun ρe we re=>.inr ⟨Qk,.inr ⟨SD,u,_,hum,by rw[hP0];exact OY,rfl,by rw[hP0];exact cO.out hG re (cF w)⟩⟩
   have he0:dT P u P.length=0:=RW.1 rfl;conv=>whnf
   refine⟨((i+1:Nat):Int),wo,?_⟩;conv=>whnf
   intro ρ3 w6 r3;exact⟨(i+1,w6,_),⟨OU,hw.tr r3.cU,cO.rel hP r3 (cF w),cV.rel hK r3 (cF w),fun j u2 h1 h2=>by rcases aS j i with h|h;exact hz j u2 h h2;obtain rfl:j=i:=aU (Nat.le_of_lt_succ h1) h;rw[hu]at h2;injection h2 with h2;rw[<-h2];exact he0⟩,Sub.gn [] r3,by dsimp only;omega⟩
  have OU:i=K.length:=by have:=aH OU;omega
  obtain⟨u,hu1,WU⟩:=QX;obtain⟨j,hj⟩:=aN hu1;exact absurd (hz j u (by rw[OU];exact(aE.1 hj).1) hj) WU
 replace hw:=hw.tr hb;have hX:=eR.cvc k2 r;clear hG hM hP k2 r he hb;generalize (SQ.heap.size,S6.heap.size)::PN=ivn at*
 obtain⟨ax,cx,rfl,-,-⟩:=dO.shape hX;conv=>whnf
 exact rtn hw fun ρe we re=>.inr ⟨Qk,.inl ⟨x0,_,Rg,rfl,cO.out hX re (cF w)⟩⟩
end Go.Ex
namespace Go.Ex
section
variable{w:Nat->Rat}{e:Nat->Nat->Rat}{c:Nat->Rat}{d:Nat->Nat}{N n:Nat}
end
def aA6(f:eu)(r:Nat):Bool:=f.cY.any fun s=>decide (gZ s=r)&&decide (s.2.2=0)
section
variable{f:eu}{x y z:List Rat}
end
def aAp(f:eu)(r:Nat):Nat:=((List.range r).filter fun r=> !aA6 f r).length
def placeF(f:eu):List Int:=(List.range (3*f.nodes.length)).map fun r=>if aA6 f r then -1 else(aAp f r:Int)
structure Sqr(n:Nat)(M:List (List Rat)):Prop where
 l:M.length=n
 w:gX n M
section
variable{f:eu}{x:List Rat}{M:List (List Rat)}
end
section
variable{f:eu}{x:List Rat}
end
end Go.Ex
namespace Go.Ex
open Go Go.Sx Go.Proofs
section
variable{f:eu}{x:List Rat}{M:List (List Rat)}
end
def Lq(S:Nat->Prop)(rv:List Value)(g:Nat):Prop:=S g∧∀v∈rv,v.ownBlock≠some g
structure SqM(w:World)(S:Nat->Prop)(rv:List Value)(n:Nat)(M:List (List Rat)):Prop where
 len:rv.length=M.length
 row:∀(i:Nat) v x,rv[i]? =some v->M[i]? =some x->iq w (Lq S rv) v n x
 uf:∀(i j:Nat) a b g,rv[i]? =some a->rv[j]? =some b->a.ownBlock=some g->b.ownBlock=some g->i=j
section
variable{S S':Nat->Prop}{H:Hp}{nx n:Nat}{iv iv':Iv}{B:Nat}{w w' w2:World}{O:Nat->Sx.dw}{rv:List Value}{M:List (List Rat)}
end
end Go.Ex
namespace Go.Ex
section
variable{f:eu}
end
end Go.Ex
namespace Go.Ex
open Go Go.Sx Go.Proofs
variable{u:List Rat}{cs:List Value}{T:Nat->Prop}{f:eu}
theorem Lx(h:eY f≠0∨f.nodes.length<=4∧f.bars.length<=6)(hb:∀b∈f.bars,rl b.2.2<=3)(hs:∀b∈f.cY,rl b.2.2<=3)(h0:eY f=0):GQ f:=
 ⟨aAR h h0,fun q hq=>by
  rcases bE.1 hq with h|h
  ·obtain⟨b,QW,rfl⟩:=aV.1 h;exact hb b QW
  ·obtain⟨b,QW,rfl⟩:=aV.1 h;exact hs b QW⟩
def AA(f:eu)(u:List Rat):List Rat:=fM (dY (cS f) f.cols) u
section
variable{f:eu}{x:List Rat}
end
theorem Ly(PE:FrS f)(hu:∀q∈u,rl q<=3):∀q∈AA f u,rl q<=100:=fun q hq=>by
 have h:=Jj (h:=4) (n:=12) (Fw PE) (fun q hq=>by have:=hu q hq;omega) (by decide) (fun r hr=>by rw[gg (cS f) f.cols r hr];exact PE.Ma) q hq;omega
section
variable{S:Nat->Prop}{H:Hp}{nx n:Nat}{iv iv':Iv}{B:Nat}{w w' w2:World}{O:Nat->Sx.dw}{rv:List Value}{M:List (List Rat)}
end
section
variable{H:Hp}{nx n m:Nat}{iv:Iv}{B:Nat}{w w' w2:World}{O:Nat->Sx.dw}{rv:List Value}{M:List (List Rat)}{pl:List Int}
theorem Lz(r:Rel H nx iv B w O w'){id t sz k:Nat}(h:dD H id=some (.arr t cs))(hm:cs.length=k*sz)(Qx:k<=maxLen)(h1:∀u∈cs,u.oneCell'=true)(hT:T (O id).g):
  iR w' T sz (.slice (some ⟨(O id).g,0,none⟩) k k) cs k:=by
 refine⟨Qx,hm,h1,_,_,rfl,Nat.le_refl _,fun j u hu=>⟨_,rfl,hT,?_⟩⟩;rw[dI,cell_of (r.arr id t cs h),aW];exact hu
end
theorem pick{α β γ:Type}{P:β->γ->Prop}(f:γ->α):∀(cs:List β) (xs:List α),cs.length=xs.length->(∀(j:Nat) c x,cs[j]? =some c->xs[j]? =some x->∃y,P c y∧f y=x)->∃ys:List γ,ys.map f=xs∧∀(j:Nat) c y,cs[j]? =some c->ys[j]? =some y->P c y
 |[],[],_,_=>⟨[],rfl,fun _ _ _ h=>by simp at h⟩
 |c::cs,x::xs,hl,h=>by
  obtain⟨y,h1,h2⟩:=h 0 c x rfl rfl;obtain⟨ys,h3,h4⟩:=pick f cs xs (by simpa using hl) fun j=>h (j+1);refine⟨y::ys,by rw[List.map_cons,h2,h3],fun j=>?_⟩
  cases j with
  |zero=>intro c' y' e1 e2;injection e1 with e1;injection e2 with e2;subst e1 e2;exact h1
  |succ j=>exact h4 j
 |[],_::_,hl,_=>by cases hl
 |_::_,[],hl,_=>by cases hl
section
variable{S:Nat->Prop}{w:World}{v u:Value}{M:List (List Rat)}{b:List Rat}{n h0:Nat}
end
def NR:List Ld:=[(2,0,0,-12)]
end Go.Ex
namespace Go.Sx
open Go Go.Ex Go.Proofs
variable{vs:List Value}{O:Nat->Sx.dw}
theorem Sub.aAy{B nx:Nat}{l:Env}{H H':Hp}{iv:Iv}{w w':World}{t:yv}(id fid p e sz n:Nat){ft:Nat}{cs:List At}
  (PV:dD H id=some (.box e (vs.map At.v))) (hs:vJ H H') (ho:DD id H'=true) (hf:dD H' fid=some (.box ft cs)) (hp:cs[p]? =some (.s id 0 n n)) (hn:vs.length=n*sz) (WK:n<=maxLen) (R1:kF nx l) (r:Rel H nx iv B w O w')
  (h:∀ρ1,Rel ((fid,.box ft (cs.set p (.w nx n)))::(nx,.vec e sz vs)::H') (nx+1) iv B w' ρ1 w'->Sx.Sub B l (nx+1) ρ1 w' t):Sx.Sub B l nx O w' t:=by
 have WB:=r.nn id _ PV (by intros;simp) (by simp);have PC:=r.box id _ _ PV;have Sh:(vs.map At.v).map (At.den O)=vs:=by
  rw[List.map_map];exact List.map_id _
 rw[Sh]at PC;have hidn:id<nx:=r.keys id _ PV;have r0:=r.free PV (by simp) WB hs ho;have OV:w'.ownsRow 0 e sz (.slice (some ⟨(O id).g,0,none⟩) n n) n vs:=⟨hn,.inr ⟨(O id).g,n,vs.toArray,rfl,aR _,PC,Nat.le_refl _,WK,by simpa using hn,by rw[<-hn];simp⟩⟩
 obtain⟨u,r1,hw⟩:=r0.KF OV (fun g hg=>by injection hg with hg;subst hg;exact(r.low id _ PV WB).1) (fun g hg j c hj XF he=>by
  injection hg with hg;subst hg;obtain⟨h2,h3⟩:=DD.get ho hj
  exact h2 (r.inj j id c _ (hs.get hj) PV h3 (by simp) XF WB he))
 have hug:u.nil=false∧u.g=(O id).g:=by
  simp only[At.den,Sx.eS]at hw
  cases hu:u.nil with
  |true=>rw[hu]at hw;cases hw
  |false=>
   rw[hu]at hw;injection hw with h1;injection h1 with h1;injection h1 with h1;exact⟨rfl,h1⟩
 have QC:∀j,j<nx->Sx.gS O nx u j=O j:=fun j hj=>(gM j hj).symm
 have r2:Rel ((nx,.vec e sz vs)::H') (nx+1) iv B w' (Sx.gS O nx u) w':=Rel.mk' rfl rfl rfl (Nat.le_refl _) r1.base (fun lo hi hm=>by have:=r.pC lo hi hm;have:=r.size;omega) r1.keys (fun j c h=>r1.fits h) (fun j c h=>r1.scopd h) r1.inj r1.low (fun _ _ _=>rfl) (fun lo hi hm j c hj XF=>by
  rw[dB]at hj;split at hj
  ·rename_i e2;subst e2;rw[Sx.eS,hug.2];exact r.jb lo hi hm id _ PV WB
  ·have hjx:=r.keys j c (hs.get hj);rw[QC j hjx]at XF ⊢
   exact r.jb lo hi hm j c (hs.get hj) XF)
 have hfx:fid≠nx:=Nat.ne_of_lt (r.keys fid _ (hs.get hf));have hf1:dD ((nx,.vec e sz vs)::H') fid=some (.box ft cs):=by rw[dB,aJ (fun h=>hfx h.symm)];exact hf
 have hnf:=r2.nn fid _ hf1 (by intros;simp) (by simp);have UF:=r2.box fid ft cs hf1;have R7:(cs.set p (.w nx n)).map (At.den (Sx.gS O nx u))=cs.map (At.den (Sx.gS O nx u)):=by
  refine bH fun j=>?_;rw[aM,aM];by_cases hj:p=j
  ·subst hj;rw[aQ (aE.1 hp).1,hp,bf,bf,hw];simp only[At.den,QC id hidn]
  ·rw[aY hj]
 have r3:=r2.store (b':=.box ft (cs.set p (.w nx n))) (H':=(fid,.box ft (cs.set p (.w nx n)))::(nx,.vec e sz vs)::H') (w2:=w') hf1 (by simp) hnf (fun j=>by
  rw[dB];by_cases hj:fid=j
  ·subst hj;rw[if_pos rfl]
  ·rw[aJ hj,aJ (fun h=>hj h.symm)]) rfl rfl rfl rfl (fun _ _=>rfl) ⟨hnf,by rw[R7];exact UF⟩ (fun x hx=>by
   rcases av hx with hx|rfl
   ·exact r2.KA fid ft cs hf1 x hx
   ·exact bY nx)
 obtain⟨ρ',h1,h2⟩:=h _ r3;refine⟨ρ',h1,fun x v hv=>?_⟩;obtain⟨h3,v0,h4,h5⟩:=h2 x v hv;refine⟨h3,v0,h4,?_⟩;rw[<-h5];exact SV.je (fun id PV=>gM id PV) (R1.get _ _ h4)
end Go.Sx
namespace Go.Ex
open Go Go.Sx Go.Proofs
end Go.Ex
namespace Go.Ex
open Go Go.Sx Go.Proofs
variable{b2:Bool}{us xs:List (Int×Int)}{M:List (List Rat)}{l:List Ld}{P b:List Rat}{j most:Nat}{S:Nat->Prop}{O:Nat->Sx.dw}{a a2:Option Addr}{v vb vn vs:Value}{w:World}{f:eu}
def NT(n k:Nat):List Value:=[.int .i64 ((n:Nat):Int),.int .i64 ((k:Nat):Int),.bool false,.slice none 0 0,.bool false,.slice none 0 0]
def mB:Nat->List (List Value)
 |0=>[NT 2 1]
 |k+1=>mB k++[NT 0 k,NT 1 k]
theorem BD:∀k,(mB k).length=2*k+1
 |0=>rfl
 |k+1=>by rw[mB,List.length_append,BD k];simp;omega
theorem BE:∀k,∀cs∈mB k,cs.length=6
 |0,cs,h=>by simp[mB]at h;subst h;rfl
 |k+1,cs,h=>by
  rw[mB]at h;rcases bE.1 h with h|h
  ·exact BE k cs h
  ·simp at h;rcases h with rfl|rfl<;>rfl
theorem GB(k:Nat):(mB k).flatten++[.int .i64 0,.int .i64 (k:Int),.bool false,.slice none 0 0,.bool false,.slice none 0 0,.int .i64 1,.int .i64 (k:Int),.bool false,.slice none 0 0,.bool false,.slice none 0 0]=(mB (k+1)).flatten:=by
 rw[mB,List.flatten_append];rfl
def EB:eu:=⟨[(0,0,0),(0,0,4),(3,0,0)],[(0,2,1),(1,2,1)],[(2,1,0),(0,0,0),(1,0,0),(0,1,0),(1,1,0),(0,2,0),(1,2,0)]⟩
def NU:List Int:=[-3,3,0,9,-9,0,0,0,12]
theorem I5:iF EB NR=0:=by decide +kernel
theorem OH:GQ EB:=Lx (.inr ⟨by decide,by decide⟩) (by decide +kernel) (by decide +kernel) (lj I5).1
theorem I6:zk (cS EB) EB.cols (aAS EB) (dR (eN EB NR) (-1)) (dH NU):=⟨by decide +kernel,by decide +kernel,by decide +kernel⟩
theorem HZ(w:World):eG PG N.top_bracket #[] w (eL w fun v' w2=>∃vn vb vs,v'= .agg #[vn,vb,vs]∧eF w2 (Nf w w2) vn vb vs EB):=by
 have hw:=bR w;refine AV (by simp) ?_;conv=>whnf
 refine cH (cE hw (fun _ w' v w2=>dA w2 (Nf w' w2) v ((1:Int):Rat)) (fun O w' r=>jz 1 w' (by decide)) ?_);rintro O _ _ _ Og r he hw h_ hn;have hd:=hn.dF (S:=FF) r.cG (mN h_);clear r;obtain⟨A0,A1,A2,A3,A4,A5,A6,A7,rfl⟩:=hd.shape;conv=>whnf
 refine⟨Nat×World,fun z=>⟨[(0,pP 0 0),(2,pP 5 0),(3,iN z.1)],[(5,.box T.Frame [.s 2 0 3 3,.s 3 0 2 2,.w 6 (2*(z.1)+1)]),(6,.vec T.DX 6 (mB (z.1)).flatten),(3,.box T.Bar [.v (.int .i64 0),.v (.int .i64 2),.v (.bool A0),.v (.slice A1 A2 A3),.v (.bool A4),.v (.slice A5 A6 A7),.v (.int .i64 1),.v (.int .i64 2),.v (.bool A0),.v (.slice A1 A2 A3),.v (.bool A4),.v (.slice A5 A6 A7)]),(2,.box T.Node [.v (.int .i64 0),.v (.int .i64 0),.v (.int .i64 0),.v (.int .i64 0),.v (.int .i64 0),.v (.int .i64 4),.v (.int .i64 3),.v (.int .i64 0),.v (.int .i64 0)]),(0,.box T.Frame [.v (.slice none 0 0),.v (.slice none 0 0),.v (.slice none 0 0)])],7,Og,z.2⟩,fun z=>3-z.1,
  fun z=>z.1<=3∧dq w.heap.size w z.2∧dA z.2 (Cf w Og) (.agg #[.bool A0,.slice A1 A2 A3,.bool A4,.slice A5 A6 A7]) ((1:Int):Rat),?_,?_⟩
 ·intro O w' r;exact⟨(0,w'),⟨aR _,hw.tr r.cU,hd.rel r (cF w)⟩,Sub.aAy (H':=[(5,.box T.Frame [.s 2 0 3 3,.s 3 0 2 2,.s 4 0 1 1]),(3,.box T.Bar [.v (.int .i64 0),.v (.int .i64 2),.v (.bool A0),.v (.slice A1 A2 A3),.v (.bool A4),.v (.slice A5 A6 A7),.v (.int .i64 1),.v (.int .i64 2),.v (.bool A0),.v (.slice A1 A2 A3),.v (.bool A4),.v (.slice A5 A6 A7)]),(2,.box T.Node [.v (.int .i64 0),.v (.int .i64 0),.v (.int .i64 0),.v (.int .i64 0),.v (.int .i64 0),.v (.int .i64 4),.v (.int .i64 3),.v (.int .i64 0),.v (.int .i64 0)]),(0,.box T.Frame [.v (.slice none 0 0),.v (.slice none 0 0),.v (.slice none 0 0)])]) 4 5 2 T.DX 6 1 (vs:=NT 2 1) rfl ⟨rfl,rfl,rfl,rfl,trivial⟩ rfl rfl rfl rfl (by decide) (by simp[kF,SV.sc,At.sc,fm]) r fun ρ1 r1=>Sub.gn [] r1⟩
 clear hw hd;rintro⟨k,w1⟩ ⟨hk,hw,hd⟩;dsimp only at hk hw hd ⊢;conv=>whnf
 refine dN.mk ?_ ?_<;>intro Oc
 ·have Oc:k<3:=by have:=aI Oc;omega
  have hs:=GB k;have PA:=wJ (BE k);have Rc:=BD k;conv=>whnf
  refine .inl ?_;conv=>whnf
  refine⟨by omega,by omega,by unfold maxLen;omega,?_⟩;conv=>whnf
  refine⟨((k+1:Nat):Int),wo,?_⟩;conv=>whnf
  intro ρ3 w6 r3;exact⟨(k+1,w6),⟨Oc,hw.tr r3.cU,hd.rel r3 (cF w)⟩,Sub.gn [(6,8)] r3 ⟨by dsimp only;rw[show 2*(k+1)+1=2*k+1+2 by omega];rfl,by dsimp only;rw[<-hs];rfl,rfl,rfl,rfl,trivial⟩,by dsimp only;omega⟩
 have Oc:k=3:=by have:=aH Oc;omega
 subst Oc;conv=>whnf
 intro ρe we re;have hN:∀{id:Nat} {bk:jq},dD _ id=some bk->(ρe id).nil=false->Nf w we (ρe id).g:=fun h hn=>by
  obtain⟨h1,h2⟩:=re.low _ _ h hn;exact .inr ⟨h1,h2⟩
 have hR:=hd.out re (cF w);have hL:fE we (Nf w we) (.agg #[.bool A0,.slice A1 A2 A3,.bool A4,.slice A5 A6 A7]) 1:=hR.l (by decide);refine⟨_,rfl,hw.tr re.cU,_,_,_,rfl,?_,?_,?_⟩
 ·refine⟨[[.int .i64 0,.int .i64 0,.int .i64 0],[.int .i64 0,.int .i64 0,.int .i64 4],[.int .i64 3,.int .i64 0,.int .i64 0]],(re.wP (id:=2) (sz:=3) (n:=3) rfl rfl (by decide) (by repeat' first|refine List.forall_mem_cons.2 ⟨rfl,?_⟩|exact fun u hu=>absurd hu List.not_mem_nil)).cL fun g hg=>by subst hg;exact hN (id:=2) rfl (re.nn 2 _ rfl (by intros;simp) (by simp)),rfl,by simp,fun j cs x h1 h2=>?_⟩;rcases j with _|_|_|j
  ·cases h1;cases h2;rfl
  ·cases h1;cases h2;rfl
  ·cases h1;cases h2;rfl
  ·cases h2
 ·refine⟨[[.int .i64 0,.int .i64 2,.bool A0,.slice A1 A2 A3,.bool A4,.slice A5 A6 A7],[.int .i64 1,.int .i64 2,.bool A0,.slice A1 A2 A3,.bool A4,.slice A5 A6 A7]],(re.wP (id:=3) (sz:=6) (n:=2) rfl rfl (by decide) (by repeat' first|refine List.forall_mem_cons.2 ⟨rfl,?_⟩|exact fun u hu=>absurd hu List.not_mem_nil)).cL fun g hg=>by subst hg;exact hN (id:=3) rfl (re.nn 3 _ rfl (by intros;simp) (by simp)),rfl,by simp,fun j cs x h1 h2=>?_⟩;rcases j with _|_|j
  ·cases h1;cases h2;exact⟨_,_,_,_,_,_,_,_,rfl,hL⟩
  ·cases h1;cases h2;exact⟨_,_,_,_,_,_,_,_,rfl,hL⟩
  ·cases h2
 ·refine⟨mB 3,?_,rfl,by decide,fun j cs x h1 h2=>?_⟩
  ·have h5:=re.iD (id:=6) (sz:=6) (m:=7) rfl (by decide) (by decide) (by decide) (by decide);exact h5.cL fun g hg=>.inr hg
  ·rcases j with _|_|_|_|_|_|_|j
   ·cases h1;cases h2;exact⟨_,_,_,_,_,_,_,_,rfl,fE.zeroV⟩
   ·cases h1;cases h2;exact⟨_,_,_,_,_,_,_,_,rfl,fE.zeroV⟩
   ·cases h1;cases h2;exact⟨_,_,_,_,_,_,_,_,rfl,fE.zeroV⟩
   ·cases h1;cases h2;exact⟨_,_,_,_,_,_,_,_,rfl,fE.zeroV⟩
   ·cases h1;cases h2;exact⟨_,_,_,_,_,_,_,_,rfl,fE.zeroV⟩
   ·cases h1;cases h2;exact⟨_,_,_,_,_,_,_,_,rfl,fE.zeroV⟩
   ·cases h1;cases h2;exact⟨_,_,_,_,_,_,_,_,rfl,fE.zeroV⟩
   ·cases h2
theorem mh(w:World):eG PG N.top_bears #[] w (eL w fun v' _=>v'= .bool true):=by
 have hw:=bR w;refine DZ (by simp) ?_;conv=>whnf
 refine cH (cE hw (fun _ w' v w2=>∃vn vb vs,v= .agg #[vn,vb,vs]∧eF w2 (Nf w' w2) vn vb vs EB) (fun O w' r=>HZ w') ?_);rintro O _ _ _ Og r he hw h_ ⟨vn,vb,vs,rfl,hn⟩;have hf:=hn.dF r.cG (mN h_);clear r;clear hn;obtain⟨an,cn,ab,cb,aq,cq,rfl,rfl,rfl,-,-,-⟩:=hf.shape;conv=>whnf
 refine cH (cE hw (fun _ w' v w2=>∃vx,v= .tuple #[vx,.int .i64 0]∧cO w2 (Nf w' w2) vx (dH NU)) (fun O w' r=>(HY (S:=(fun g=>Cf w Og g∨g=(O 0).g)) (l:=NR) (fun g hg=>hg.elim (Rel.old r (cF w) g) fun e=>by subst e;exact Rel.lt r (id:=0) rfl) (eF.cL (eF.rel hf r (cF w)) fun g hg=>.inl hg) (show iE w' (fun g=>Cf w Og g∨g=(O 0).g) (.slice (some ⟨(O 0).g,0,none⟩) 1 1) NR from⟨[[.int .i64 2,.int .i64 0,.int .i64 0,.int .i64 (-12)]],(r.wP (id:=0) (sz:=4) (n:=1) rfl rfl (by decide) (by repeat' first|refine List.forall_mem_cons.2 ⟨rfl,?_⟩|exact fun u hu=>absurd hu List.not_mem_nil)).cL fun g hg=>.inr hg,rfl,by simp,fun j cs x h1 h2=>by cases j with|zero=>(cases h1;cases h2;rfl)|succ j=>cases h2⟩) (fun _=>OH)).mono fun _ _ ⟨v2,e1,e2,e3⟩=>⟨v2,e1,e2,e3.elim (fun h=>absurd I5 h.1) fun h=>h.2.elim (fun g=>by obtain⟨z,hz⟩:=JO (gH EB) (x:=fun t=>(dH NU).getD t 0) I6.eq;rw[g.1]at hz;cases hz) fun⟨x,vx,g,k1,k2⟩=>⟨vx,k1,OH.aA4.one g I6▸k2⟩⟩) ?_);rintro O _ v2 Pn OX r he hw h_ ⟨vx,rfl,hn⟩;clear hf;have hX:=cO.dF (S:=FF) hn r.cG (mN h_);clear r;clear hn;obtain⟨ax,cx,rfl,-,-⟩:=dO.shape hX;have hl9:(dH NU).length=9:=rfl;obtain⟨ad0,cs0,ha0,hF0,hS0,hl0⟩:=dO.load hX (j:=0) (x:=((-3:Int):Rat)) rfl;obtain⟨x0,x1,x2,x3,x4,x5,x6,x7,rfl,hF0⟩:=hF0;rw[hl9];conv=>whnf
 refine cQ hτ dx [.x 0,.x 1,.x 2,.x 3,.x 4,.x 5,.x 6,.x 7,.x 8,.x 9,.x 10,.x 11,.x 12,.x 13,.x 14,.x 15,.x 16,.x 17,.x 18,.x 19,.x 20,.x 21] (by kernel_rfl) (by kernel_rfl) ?_;conv=>whnf
 refine⟨ad0,ha0,⟨by decide,by decide⟩,?_⟩;conv=>whnf
 refine⟨[.bool x0,.slice x1 x2 x3,.bool x4,.slice x5 x6 x7],rfl,fun O w' r j u hu=>?_,?_⟩
 ·obtain⟨k1,k2⟩:=hl0 j u hu;rw[show (0:Int).toNat=0 from rfl,cI (w:=Pn) (w2:=w') (by rw[dC,dC];exact Rel.same r (cF w) k1)];exact k2
 conv=>whnf
 refine cE hw (fun _ w' v w2=>dA w2 (Nf w' w2) v (((-3):Int):Rat)) (fun O w' r=>jz (-3) w' (by decide)) ?_;rintro O _ _ _ Oh r he hw h_ hn;replace hF0:=hF0.cK r (cF w) he (mC h_);replace hX:=cO.cK hX r (cF w) he (mC h_);have Sh:=hn.dF (S:=FF) r.cG (mN h_);clear r;obtain⟨A0,A1,A2,A3,A4,A5,A6,A7,rfl⟩:=Sh.shape;conv=>whnf
 refine cE hw (fun _ w' v w2=>v= .bool true) (fun O w' r=>(MB (S:=Cf w Oh) (Rel.old r (cF w)) (hF0.rel r (cF w)) (Sh.rel r (cF w))).mono fun _ _ ⟨v2,e1,e2,e3⟩=>⟨v2,e1,e2,by rw[e3];exact congrArg _ (bh rfl)⟩) ?_;rintro O _ _ Qh On r he hw h_ rfl;clear hF0;replace hX:=cO.cK hX r (cF w) he (mC h_);clear Sh;clear r;conv=>whnf
 obtain⟨ad1,cs1,ha1,hF1,hS1,RK⟩:=dO.load hX (j:=1) (x:=((3:Int):Rat)) rfl;obtain⟨y0,y1,y2,y3,y4,y5,y6,y7,rfl,hF1⟩:=hF1;refine⟨ad1,ha1,⟨by decide,by decide⟩,?_⟩;conv=>whnf
 refine⟨[.bool y0,.slice y1 y2 y3,.bool y4,.slice y5 y6 y7],rfl,fun O w' r j u hu=>?_,?_⟩
 ·obtain⟨k1,k2⟩:=RK j u hu;rw[show (1:Int).toNat=1 from rfl,cI (w:=Qh) (w2:=w') (by rw[dC,dC];exact Rel.same r (cF w) k1)];exact k2
 conv=>whnf
 refine cE hw (fun _ w' v w2=>dA w2 (Nf w' w2) v ((3:Int):Rat)) (fun O w' r=>jz 3 w' (by decide)) ?_;rintro O _ _ _ PN r he hw h_ hn;replace hF1:=hF1.cK r (cF w) he (mC h_);have RW:=hn.dF (S:=FF) r.cG (mN h_);clear r;obtain⟨C0,C1,C2,C3,C4,C5,C6,C7,rfl⟩:=RW.shape;conv=>whnf
 refine cE hw (fun _ w' v w2=>v= .bool true) (fun O w' r=>(MB (S:=Cf w PN) (Rel.old r (cF w)) (hF1.rel r (cF w)) (RW.rel r (cF w))).mono fun _ _ ⟨v2,e1,e2,e3⟩=>⟨v2,e1,e2,by rw[e3];exact congrArg _ (bh rfl)⟩) ?_;rintro O _ _ _ RI r he hw h_ rfl;clear hF1;clear RW;clear r;conv=>whnf
 exact rtn hw fun ρe we re=>rfl
theorem I7{b:Bool}{n c:Nat}{n2 c2:Nat}(h1:n<=2)(h2:n2<=2):Fo [.bool b,.slice a n c,.bool b2,.slice a2 n2 c2]:=⟨_,_,_,_,_,_,_,_,rfl,by omega,by omega⟩
theorem MC{vl:Value}{f:HS}(hS:Old S w)(hf:qk w S vn vb vs f)(hl:iE w S vl l):eG PG N.top_slight #[.agg #[vn,vb,vs],vl,.int .i64 most] w (eL w fun v' _=>∃d,v'= .bool d∧
  (d=true->eF w S vn vb vs f.val∧(∀b∈f.val.bars,rl b.2.2<=3)∧(∀b∈f.val.cY,rl b.2.2<=3)∧f.nodes.length<=most∧f.val.bars.length<=6∧f.val.cY.length<=12∧l.length<=12∧iF f.val l=0)):=by
 have hw:=bR w;obtain⟨an,cn,rfl,hcn,RH⟩:=hf.nodes.shape;obtain⟨bcs,PQ,hbz,SZ,hbQ⟩:=hf.bars.cells;obtain⟨qcs,SJ,hqz,hq4,hqQ⟩:=hf.cY.cells;obtain⟨ab,cb,rfl,QT,Re⟩:=hf.bars.shape;obtain⟨aq,cq,rfl,hcq,SB⟩:=hf.cY.shape;obtain⟨al,cl,rfl,Pf,Qt⟩:=hl.shape;unfold maxLen at RH Re SB Qt;refine BX (by simp) ?_;conv=>whnf
 refine dN.mk ?_ ?_<;>intro h0
 ·conv=>whnf
  exact rtn hw fun ρe we re=>⟨_,rfl,fun h=>by cases h⟩
 have h0:=aH h0;conv=>whnf
 refine dN.mk ?_ ?_<;>intro h1
 ·conv=>whnf
  exact rtn hw fun ρe we re=>⟨_,rfl,fun h=>by cases h⟩
 have h1:=aH h1;conv=>whnf
 refine dN.mk ?_ ?_<;>intro h2
 ·conv=>whnf
  exact rtn hw fun ρe we re=>⟨_,rfl,fun h=>by cases h⟩
 have h2:=aH h2;conv=>whnf
 refine dN.mk ?_ ?_<;>intro h3
 ·conv=>whnf
  exact rtn hw fun ρe we re=>⟨_,rfl,fun h=>by cases h⟩
 have h3:=aH h3;conv=>whnf
 refine⟨Nat×World×Iv,fun z=>⟨[(1,sV al l.length cl),(3,pP 0 0),(7,iN z.1)],[(0,.box T.Frame [.v (.slice an f.nodes.length cn),.v (.slice ab f.bars.length cb),.v (.slice aq f.cY.length cq)])],1,z.2.2,z.2.1⟩,fun z=>f.bars.length-z.1,
  fun z=>z.1<=f.bars.length∧dq w.heap.size w z.2.1∧∀(j:Nat) (cs:List Value),j<z.1->bcs[j]? =some cs->Fo (cs.drop 2),?_,?_⟩
 ·intro O w' r;exact⟨(0,w',_),⟨aR _,hw.tr r.cU,fun j cs hj=>absurd hj (Nat.not_lt_zero j)⟩,Sub.gn [] r⟩
 clear hw;rintro⟨i,w1,iv⟩ ⟨hi,hw,hB⟩;dsimp only at hi hw hB ⊢;conv=>whnf
 refine dN.mk ?_ ?_<;>intro OU
 ·have OU:i<f.bars.length:=by simpa using OU
  obtain⟨cs,PI⟩:∃cs,bcs[i]? =some cs:=⟨_,aA (by omega)⟩
  obtain⟨p,hp⟩:∃p,f.bars[i]? =some p:=⟨_,aA OU⟩
  obtain⟨g0,g1,g2,g3,g4,g5,g6,g7,rfl,-⟩:=SZ i cs p PI hp;obtain⟨adx,cs2,Pq,⟨Vc,-⟩,-,Pp⟩:=hbz.load (by decide) (show (bcs.zip f.bars)[i]? =some (_,p) by rw[List.getElem?_zip_eq_some];exact⟨PI,hp⟩);have Vc:cs2=[.int .i64 p.1,.int .i64 p.2.1,.bool g0,.slice g1 g2 g3,.bool g4,.slice g5 g6 g7]:=Vc;subst Vc;conv=>whnf
  refine⟨adx,Pq,by omega,?_⟩;conv=>whnf
  refine⟨.slice g1 g2 g3,fun O w' r=>?_,?_⟩
  ·obtain⟨k1,k2⟩:=Pp 3 _ rfl;rw[cI (w:=w) (w2:=w') (by simp only[dC];exact(hw.tr r.cU).block _ (hS _ k1))];simp only[aF,jy]at k2 ⊢
   first|exact k2|(rw [<-k2];congr 2;omega)
  conv=>whnf
  refine dN.mk ?_ ?_<;>intro k3
  ·conv=>whnf
   exact rtn hw fun ρe we re=>⟨_,rfl,fun h=>by cases h⟩
  have k3:=aH k3;conv=>whnf
  refine⟨adx,Pq,by omega,?_⟩;conv=>whnf
  refine⟨.slice g5 g6 g7,fun O w' r=>?_,?_⟩
  ·obtain⟨k1,k2⟩:=Pp 5 _ rfl;rw[cI (w:=w) (w2:=w') (by simp only[dC];exact(hw.tr r.cU).block _ (hS _ k1))];simp only[aF,jy]at k2 ⊢
   first|exact k2|(rw [<-k2];congr 2;omega)
  conv=>whnf
  refine dN.mk ?_ ?_<;>intro k5
  ·conv=>whnf
   exact rtn hw fun ρe we re=>⟨_,rfl,fun h=>by cases h⟩
  have k5:=aH k5;conv=>whnf
  have PB:∀j cs,j<i+1->bcs[j]? =some cs->Fo (cs.drop 2):=fun j cs hj hc=>by
   rcases aS j i with h|h
   ·exact hB j cs h hc
   ·have:j=i:=by omega
    subst this;rw[PI]at hc;injection hc with hc;subst hc;exact I7 (by omega) (by omega)
  refine⟨((i+1:Nat):Int),wo,?_⟩;conv=>whnf
  intro ρ3 w6 r3;exact⟨(i+1,w6,_),⟨OU,hw.tr r3.cU,PB⟩,Sub.gn [] r3,by dsimp only;omega⟩
 have OU:i=f.bars.length:=aU hi (by simpa using OU);subst OU;clear hi;conv=>whnf
 refine⟨Nat×World×Iv,fun z=>⟨[(1,sV al l.length cl),(3,pP 0 0),(8,iN z.1)],[(0,.box T.Frame [.v (.slice an f.nodes.length cn),.v (.slice ab f.bars.length cb),.v (.slice aq f.cY.length cq)])],1,z.2.2,z.2.1⟩,fun z=>f.cY.length-z.1,
  fun z=>z.1<=f.cY.length∧dq w.heap.size w z.2.1∧∀(j:Nat) (cs:List Value),j<z.1->qcs[j]? =some cs->Fo (cs.drop 2),?_,?_⟩
 ·intro O w' r;exact⟨(0,w',_),⟨aR _,hw.tr r.cU,fun j cs hj=>absurd hj (Nat.not_lt_zero j)⟩,Sub.gn [] r⟩
 clear hw;rintro⟨i,w1,iv⟩ ⟨hi,hw,hQ⟩;dsimp only at hi hw hQ ⊢;conv=>whnf
 refine dN.mk ?_ ?_<;>intro OU
 ·have OU:i<f.cY.length:=by simpa using OU
  obtain⟨cs,PI⟩:∃cs,qcs[i]? =some cs:=⟨_,aA (by omega)⟩
  obtain⟨p,hp⟩:∃p,f.cY[i]? =some p:=⟨_,aA OU⟩
  obtain⟨g0,g1,g2,g3,g4,g5,g6,g7,rfl,-⟩:=hq4 i cs p PI hp;obtain⟨adx,cs2,Pq,⟨Vc,-⟩,-,Pp⟩:=hqz.load (by decide) (show (qcs.zip f.cY)[i]? =some (_,p) by rw[List.getElem?_zip_eq_some];exact⟨PI,hp⟩);have Vc:cs2=[.int .i64 p.1,.int .i64 p.2.1,.bool g0,.slice g1 g2 g3,.bool g4,.slice g5 g6 g7]:=Vc;subst Vc;conv=>whnf
  refine⟨adx,Pq,by omega,?_⟩;conv=>whnf
  refine⟨.slice g1 g2 g3,fun O w' r=>?_,?_⟩
  ·obtain⟨k1,k2⟩:=Pp 3 _ rfl;rw[cI (w:=w) (w2:=w') (by simp only[dC];exact(hw.tr r.cU).block _ (hS _ k1))];simp only[aF,jy]at k2 ⊢
   first|exact k2|(rw [<-k2];congr 2;omega)
  conv=>whnf
  refine dN.mk ?_ ?_<;>intro k3
  ·conv=>whnf
   exact rtn hw fun ρe we re=>⟨_,rfl,fun h=>by cases h⟩
  have k3:=aH k3;conv=>whnf
  refine⟨adx,Pq,by omega,?_⟩;conv=>whnf
  refine⟨.slice g5 g6 g7,fun O w' r=>?_,?_⟩
  ·obtain⟨k1,k2⟩:=Pp 5 _ rfl;rw[cI (w:=w) (w2:=w') (by simp only[dC];exact(hw.tr r.cU).block _ (hS _ k1))];simp only[aF,jy]at k2 ⊢
   first|exact k2|(rw [<-k2];congr 2;omega)
  conv=>whnf
  refine dN.mk ?_ ?_<;>intro k5
  ·conv=>whnf
   exact rtn hw fun ρe we re=>⟨_,rfl,fun h=>by cases h⟩
  have k5:=aH k5;conv=>whnf
  have PB:∀j cs,j<i+1->qcs[j]? =some cs->Fo (cs.drop 2):=fun j cs hj hc=>by
   rcases aS j i with h|h
   ·exact hQ j cs h hc
   ·have:j=i:=by omega
    subst this;rw[PI]at hc;injection hc with hc;subst hc;exact I7 (by omega) (by omega)
  refine⟨((i+1:Nat):Int),wo,?_⟩;conv=>whnf
  intro ρ3 w6 r3;exact⟨(i+1,w6,_),⟨OU,hw.tr r3.cU,PB⟩,Sub.gn [] r3,by dsimp only;omega⟩
 have OU:i=f.cY.length:=aU hi (by simpa using OU);subst OU;clear hi;conv=>whnf
 obtain⟨kb,kb2⟩:=OB.of SZ hbQ PQ hB;obtain⟨kq,kq2⟩:=OB.of hq4 hqQ SJ hQ;have hR:eF w S (.slice an f.nodes.length cn) (.slice ab f.bars.length cb) (.slice aq f.cY.length cq) f.val:=⟨hf.nodes,kb,kq⟩
 refine cH (cE hw (fun _ w' v w2=>v= .int .i64 (iF f.val l)) (fun O w' r=>Dw (oS hS r) (hR.cJ (kS hw r hS)) (hl.cJ (kS hw r hS))) ?_);rintro O _ _ _ OX r he hw h_ rfl;clear r;conv=>whnf
 exact rtn hw fun ρe we re=>⟨_,rfl,fun h=>⟨hR,kb2,kq2,by omega,by show(f.bars.map Fp).length<=6;rw[aL];omega,by show(f.cY.map Fp).length<=12;rw[aL];omega,by omega,by simpa using h⟩⟩
theorem Jk{H:Hp}{nx:Nat}{iv:Iv}{w1 w':World}{vl:Value}{f:HS}(hS:Old S w)(hw:dq w.heap.size w w1)(r:Rel H nx iv w.heap.size w1 O w')(hf:qk w S vn vb vs f)(hl:iE w S vl l):eG PG N.top_slight #[.agg #[vn,vb,vs],vl,.int .i64 most] w' (eL w' fun v' _=>∃d,v'= .bool d∧
  (d=true->eF w S vn vb vs f.val∧(∀b∈f.val.bars,rl b.2.2<=3)∧(∀b∈f.val.cY,rl b.2.2<=3)∧f.nodes.length<=most∧f.val.bars.length<=6∧f.val.cY.length<=12∧l.length<=12∧iF f.val l=0)):=by
 have hk:∀g,S g->w'.heap[g]? =w.heap[g]? :=fun g hg=>(hw.tr r.cU).block g (hS g hg);have hO:Old S w':=fun g hg=>by have:=hS g hg;have:=r.cG;omega
 refine(MC hO (hf.cJ hk) (hl.cJ hk)).mono fun _ _ ⟨v2,e1,e2,d,e3,e4⟩=>⟨v2,e1,e2,d,e3,fun h=>?_⟩
 obtain⟨h1,h2⟩:=e4 h;exact⟨h1.cJ fun g hg=>(hk g hg).symm,h2⟩
theorem NV{b1:Bool}{a1:Option Addr}{n1 n2 c1 c2:Nat}{a b:Int}(h:iP w S (.agg #[.bool b1,.slice a1 n1 c1,.bool b2,.slice a2 n2 c2]) a b)(k1:n1<=2)(k2:n2<=2):
  fE w S (.agg #[.bool b1,.slice a1 n1 c1,.bool b2,.slice a2 n2 c2]) (ratio a b)∧rl (ratio a b)<=2:=by
 obtain⟨b1,l1,b2,l2,e,h1,h2⟩:=h;simp only[Value.agg.injEq,Array.mk.injEq,List.cons.injEq,Value.bool.injEq,and_true]at e;obtain⟨rfl,rfl,rfl,rfl⟩:=e;have g1:=h1.short k1;have g2:=h2.short k2;have r1:=g1.ln;have r2:=g2.ln;have hr:=iK a b;refine⟨⟨_,_,_,_,a,b,rfl,?_,?_,rfl⟩,by omega⟩
 ·obtain⟨ng,ls,i1,i2,i3⟩:=g1;exact⟨ng,ls,i1,i2,by omega⟩
 ·obtain⟨ng,ls,i1,i2,i3⟩:=g2;exact⟨ng,ls,i1,i2,by omega⟩
def NW(cs:List Value):Prop:=∃b a n c b2 a2 n2 c2,cs=[.bool b,.slice a n c,.bool b2,.slice a2 n2 c2]∧n<=2∧n2<=2
theorem aAc(h:eP w S v xs):∃css:List (List Value),css.length=xs.length∧ed 4 (fun w S cs (y:List Value×(Int×Int))=>cs=y.1∧wQ w S cs y.2) w S v (css.zip xs)∧(∀(j:Nat) cs x,css[j]? =some cs->xs[j]? =some x->wQ w S cs x)∧
  ((∀j cs,j<xs.length->css[j]? =some cs->NW cs)->dQ w S v (xs.map rq)∧∀q∈xs.map rq,rl q<=2):=by
 obtain⟨css,h1,h2,h3,h4⟩:=ed.cells (k:=4) (P:=fun w S cs x=>wQ w S cs x) h;have key:∀j cs x,css[j]? =some cs->xs[j]? =some x->NW cs->kv w S cs (rq x)∧rl (rq x)<=2:=fun j cs x k1 k2 k3=>by
  obtain⟨b,a,n,c,b2,a2,n2,c2,rfl,hr⟩:=h3 j cs x k1 k2;obtain⟨_,_,_,_,_,_,_,_,e,m1,m2⟩:=k3;simp only[List.cons.injEq,Value.slice.injEq,Value.bool.injEq,and_true]at e;obtain⟨rfl,⟨rfl,rfl,rfl⟩,rfl,rfl,rfl,rfl⟩:=e;obtain⟨g1,g2⟩:=NV hr m1 m2;exact⟨⟨_,_,_,_,_,_,_,_,rfl,g1⟩,g2⟩
 refine⟨css,h1,h2,h3,fun hf=>⟨h4 kv _ (aL ..) fun j cs y k1 k2=>?_,fun q hq=>?_⟩⟩
 ·rw[aM]at k2;obtain⟨p,hp,rfl⟩:=Option.map_eq_some_iff.1 k2;exact(key j cs p k1 hp (hf j cs (aE.1 hp).1 k1)).1
 ·obtain⟨p,hp,rfl⟩:=aV.1 hq;obtain⟨j,hj⟩:=aN hp;have Sa:=(aE.1 hj).1;have hc:css[j]? =some css[j]:=aA (by omega);exact(key j _ p hc hj (hf j _ Sa hc)).2
theorem Gw(hv:FrV f):∀l∈gY f,∀z∈l,z.natAbs<=2000000:=fun l hl z hz=>by
 obtain⟨i,hi⟩:=aN hl;obtain⟨k,hk⟩:=aN hz;obtain⟨y,h1,h2⟩:=hv.s9 i k;have h3:dK (cS f) i k=((z:Int):Rat):=by
  unfold dK cS;rw[show (List.map dH (gY f)).getD i []=dH l by rw[List.getD,aM,hi];rfl,dH,List.getD,aM,hk];rfl
 rw[h3]at h1;have:z=y:=by have:=congrArg Rat.num h1;simpa using this
 rw[this];exact h2
set_option maxHeartbeats 1000000 in
theorem MD(hS:Old S w)(hf:eF w S vn vb vs f)(Ou:eY f=0)(PE:FrS f):
  eG PG N.top_table #[.agg #[vn,vb,vs]] w (eL w fun v' w2=>∃vm,v'= .tuple #[vm,.bool true]∧cV w2 (Nf w w2) vm (cS f)):=by
 have hw:=bR w;have hv:=PE.toFrV;obtain⟨an,cn,ab,cb,aq,cq,rfl,rfl,rfl,RH,Re,SB⟩:=hf.shape;obtain⟨Ry,SK,SL⟩:=And.intro hv.n (And.intro hv.b hv.s);have Pw:f.cols=f.bars.length+f.cY.length:=rfl;have hZl:(gY f).length=3*f.nodes.length:=j6 f _;refine D3 (by simp) ?_;conv=>whnf
 refine cH (cE hw (fun _ w' v w2=>∃vz,v= .tuple #[vz,.int .i64 0]∧kV w2 (Nf w' w2) vz (gY f)) (fun O w' r=>(HV (S:=S) (oS hS r) (hf.cJ (kS hw r hS)) (fun _=>PE)).mono fun _ _ ⟨v2,e1,e2,e3⟩=>⟨v2,e1,e2,e3.elim (fun h=>absurd Ou h.1) fun h=>h.2⟩) ?_);rintro O _ _ _ Og r he hw h_ ⟨vz,rfl,hn⟩;have hM:=kV.dF (S:=FF) hn r.cG (mN h_);clear r;clear hn;obtain⟨am,cm,rfl,-,Ra⟩:=cd.shape hM;have Ow:=Gw hv;obtain⟨Z,hZ⟩:∃Z,gY f=Z:=⟨_,rfl⟩
 have htab:cS f=Z.map dH:=by rw[cS,hZ]
 have UZ:∀l∈Z,l.length=f.cols:=by rw[<-hZ];exact kL f _
 rw[hZ]at hM Ow hZl Ra ⊢;conv=>whnf
 refine⟨((3*f.nodes.length:Nat):Int),wo,?_⟩;conv=>whnf
 refine dN.mk (fun hd=>absurd (show (Z.length:Int)=((3*f.nodes.length:Nat):Int) by omega) (by simpa using hd)) (fun _=>?_);conv=>whnf
 refine⟨Nat×List Value×World×Iv,fun z=>⟨[(1,pP 0 0),(4,sV am Z.length cm),(6,.o (.w 1 z.2.1.length)),(7,iN z.1)],[(1,.vec T.iQ 1 z.2.1),(0,.box T.Frame [.v (.slice an f.nodes.length cn),.v (.slice ab f.bars.length cb),.v (.slice aq f.cY.length cq)])],2,z.2.2.2,z.2.2.1⟩,fun z=>Z.length-z.1,
  fun z=>z.1<=Z.length∧dq w.heap.size w z.2.2.1∧kV z.2.2.1 (Cf w z.2.2.2) (.slice am Z.length cm) Z∧de z.2.2.1 (Cf w z.2.2.2) z.2.1 ((Z.take z.1).map dH),?_,?_⟩
 ·intro O w' r;exact⟨(0,[],w',_),⟨aR _,hw.tr r.cU,kV.rel hM r (cF w),by simp[de]⟩,Sub.nil 6 T.iQ 1 rfl (by simp[kF,SV.sc,At.sc,fm]) r fun ρ1 r1=>Sub.gn [] r1⟩
 clear hw hM;rintro⟨i,rv,w1,iv⟩ ⟨hi,hw,hM,hK⟩;dsimp only at hi hw hM hK ⊢;have Pm:rv.length=i:=by rw[hK.1,aL,ai];omega
 conv=>whnf
 refine dN.mk ?_ ?_<;>intro OU
 ·have OU:i<Z.length:=by simpa using OU
  obtain⟨l,hl⟩:∃x,Z[i]? =some x:=⟨_,aA OU⟩
  have hlw:=UZ l (aD hl);obtain⟨adm,um,Qs,PD,km1,km2⟩:=cd.load hM hl;obtain⟨al,cl,rfl,-,Qt⟩:=PD.shape;conv=>whnf
  refine cQ hτ dx [.x 0,.x 1,.x 2,.x 3,.x 4,.x 5,.x 6,.x 7] (by kernel_rfl) (by kernel_rfl) ?_;conv=>whnf
  refine⟨adm,Qs,by omega,?_⟩;conv=>whnf
  refine⟨.slice al l.length cl,fun O w' r=>?_,?_⟩
  ·rw[aF,cI (w:=w1) (w2:=w') (by rw[dC];exact Rel.same r (cF w) km1)];exact km2
  conv=>whnf
  clear PD km1 km2;refine cE hw (fun _ w' v w2=>v= .int .i64 f.cols) (fun O w' r=>ql (hf.cJ (kS hw r hS)) ⟨SK,SL⟩) ?_;rintro O _ _ _ OX r he hw h_ rfl;replace hM:=kV.cK hM r (cF w) he (mC h_);replace hK:=hK.cK r (cF w) he (mC h_);clear r;conv=>whnf
  refine dN.mk (fun hd=>absurd (show (l.length:Int)=(f.cols:Int) by omega) (by simpa using hd)) (fun _=>?_);conv=>whnf
  refine⟨Nat×List (List Value)×World×Iv,fun z=>⟨[(1,pP 0 0),(4,sV am Z.length cm),(6,.o (.w 1 rv.length)),(7,iN i),(8,.o (.w 2 z.2.1.length)),(9,iN z.1)],[(2,.vec T.Rat 4 z.2.1.flatten),(1,.vec T.iQ 1 rv),(0,.box T.Frame [.v (.slice an f.nodes.length cn),.v (.slice ab f.bars.length cb),.v (.slice aq f.cY.length cq)])],3,z.2.2.2,z.2.2.1⟩,fun z=>l.length-z.1,
   fun z=>z.1<=l.length∧dq w.heap.size w z.2.2.1∧kV z.2.2.1 (Cf w z.2.2.2) (.slice am Z.length cm) Z∧de z.2.2.1 (Cf w z.2.2.2) rv ((Z.take i).map dH)∧ew z.2.2.1 (Cf w z.2.2.2) z.2.1 (dH (l.take z.1)),?_,?_⟩
  ·intro O w' r;exact⟨(0,[],w',_),⟨aR _,hw.tr r.cU,kV.rel hM r (cF w),hK.rel r (cF w),ew.nil⟩,Sub.nil 8 T.Rat 4 rfl (by simp[kF,SV.sc,At.sc,fm]) r fun ρ1 r1=>Sub.gn [] r1⟩
  clear hw hM hK;rintro⟨k,css,w3,iv⟩ ⟨hk,hw,hM,hK,hG⟩;dsimp only at hk hw hM hK hG ⊢;have PA:=ei hG.four;have VT:css.length=k:=by rw[hG.len,dH,aL,ai];omega
  obtain⟨adm,um,Qs,PD,km1,km2⟩:=cd.load hM hl;obtain⟨al2,cl2,rfl,-,hml2⟩:=PD.shape;conv=>whnf
  refine⟨adm,Qs,by omega,?_⟩;conv=>whnf
  refine⟨.slice al2 l.length cl2,fun O w' r=>?_,?_⟩
  ·rw[aF,cI (w:=w3) (w2:=w') (by rw[dC];exact Rel.same r (cF w) km1)];exact km2
  conv=>whnf
  refine dN.mk ?_ ?_<;>intro Oc
  ·have Oc:k<l.length:=by simpa using Oc
   obtain⟨z,hz⟩:∃x,l[k]? =some x:=⟨_,aA Oc⟩
   have UY:=Ow l (aD hl) z (aD hz);obtain⟨adx,Pq,hSx,PO⟩:=HN.at PD hz;conv=>whnf
   refine⟨adm,Qs,by omega,?_⟩;conv=>whnf
   refine⟨.slice al2 l.length cl2,fun O w' r=>?_,?_⟩
   ·rw[aF,cI (w:=w3) (w2:=w') (by rw[dC];exact Rel.same r (cF w) km1)];exact km2
   conv=>whnf
   refine⟨adx,Pq,by omega,?_⟩;conv=>whnf
   refine⟨.int .i64 z,fun O w' r=>?_,?_⟩
   ·rw[aF,cI (w:=w3) (w2:=w') (by rw[dC];exact Rel.same r (cF w) hSx)];exact PO
   conv=>whnf
   clear PD km1 km2 hSx PO;refine cH (cE hw (fun _ w' v w2=>dA w2 (Nf w' w2) v (z:Rat)) (fun O w' r=>jz z w' (by omega)) ?_);rintro O _ _ _ Oh r he hw h_ hn;replace hM:=kV.cK hM r (cF w) he (mC h_);replace hK:=hK.cK r (cF w) he (mC h_);replace hG:=hG.cK r (cF w) he (mC h_);have hd:=hn.dF (S:=FF) r.cG (mN h_);clear r;obtain⟨A0,A1,A2,A3,A4,A5,A6,A7,rfl⟩:=hd.shape;conv=>whnf
   have VU:=hG.push (cs:=[.bool A0,.slice A1 A2 A3,.bool A4,.slice A5 A6 A7]) (q:=(z:Rat)) ⟨_,_,_,_,_,_,_,_,rfl,hd⟩ rfl;rw[<-ow hz]at VU;have Qy:css.flatten++([.bool A0,.slice A1 A2 A3,.bool A4,.slice A5 A6 A7]:List Value)=(css++([[.bool A0,.slice A1 A2 A3,.bool A4,.slice A5 A6 A7]]:List (List Value))).flatten:=by simp
   refine .inl ?_;conv=>whnf
   refine⟨by omega,by omega,by unfold maxLen;omega,?_⟩;conv=>whnf
   refine⟨((k+1:Nat):Int),wo,?_⟩;conv=>whnf
   intro ρ3 w6 r3;exact⟨(k+1,css++[[.bool A0,.slice A1 A2 A3,.bool A4,.slice A5 A6 A7]],w6,_),⟨Oc,hw.tr r3.cU,kV.rel hM r3 (cF w),hK.rel r3 (cF w),VU.rel r3 (cF w)⟩,Sub.gn [(2,4)] r3 ⟨by dsimp only;rw[<-Qy];rfl,rfl,rfl,trivial⟩ ⟨rfl,rfl,rfl,rfl,by dsimp only;rw[List.length_append,List.length_singleton];rfl,rfl,trivial⟩,by dsimp only;omega⟩
  have Oc:k=l.length:=aU hk (by simpa using Oc);have Tz:dH (l.take k)=dH l:=by rw[Oc,bF]
  rw[Tz]at hG;clear PD km1 km2;conv=>whnf
  refine oF hτ (id3:=3) (id2:=2) (tH:=[(1,.vec T.iQ 1 rv),(0,.box T.Frame [.v (.slice an f.nodes.length cn),.v (.slice ab f.bars.length cb),.v (.slice aq f.cY.length cq)])]) rfl rfl rfl rfl (by simp) (by first|exact⟨rfl,trivial⟩|exact⟨rfl,rfl,trivial⟩) rfl rfl (fun O w' r r2 SN=>?_);have OV:=ew.list ((hG.rel r (cF w)).cL fun g hg=>Cv.mono (iv':=((O 3).g,(O 3).g+1)::kJ (O 2) iv) hg fun p hp=>aC _ (nJ p hp)) ((r.Lp (id:=2) (sz:=4) (m:=css.length) rfl PA (by unfold maxLen;omega) (by decide) hG.one).cL fun g hg=>Cv.mono hg fun p hp=>aC _ hp);have Po:((At.w 2 css.length).den O).oneCell'=true:=At.Ls;have SO:=r.low 3 _ rfl (r.fits (id:=3) rfl).1;have hC3:Cf w (((O 3).g,(O 3).g+1)::kJ (O 2) iv) (O 3).g:=.inr ⟨SO.1,_,_,aG,Nat.le_refl _,bY _⟩;have QK:∀p,p∈iv->p∈((O 3).g,(O 3).g+1)::kJ (O 2) iv:=fun p hp=>aC _ (nJ p hp);have Oz:=hw.tr r.cU;have hK1:=(hK.rel r (cF w)).cL fun g hg=>Cv.mono hg QK;have hM1:=kV.cL (kV.rel hM r (cF w)) fun g hg=>Cv.mono hg QK;clear r2 SO;generalize (At.w 2 css.length).den O=ur at*
  generalize (O 3).g=gy at*
  generalize (gy,gy+1)::kJ (O 2) iv=OX at*
  conv=>whnf
  refine⟨[ur],rfl,by simpa using Po,fun ρ2 w2 r2 _=>⟨_,rfl,fun j u hu=>?_⟩,?_⟩
  ·have h5:=Rel.same r2 (gq _) hC3;rw[dI,cell_of (h5.trans SN)];rcases j with _|j
   ·exact hu
   ·cases hu
  conv=>whnf
  refine⟨by simp,by omega,by unfold maxLen;omega,?_⟩;conv=>whnf
  have Q7:=hK1.push Po OV;rw[show (Z.take i).map dH++[dH l]=(Z.take (i+1)).map dH by rw[List.take_add_one,hl];simp]at Q7;refine⟨((i+1:Nat):Int),wo,?_⟩;conv=>whnf
  intro ρ3 w6 r3;exact⟨(i+1,rv++[ur],w6,_),⟨OU,Oz.tr r3.cU,kV.rel hM1 r3 (cF w),Q7.rel r3 (cF w)⟩,Sub.gn [(1,4)] r3 (hE:=⟨rfl,rfl,by dsimp only;rw[List.length_append,List.length_singleton];rfl,rfl,trivial⟩),by dsimp only;omega⟩
 have OU:i=Z.length:=aU hi (by simpa using OU);rw[OU,bF]at hK;rw[htab];conv=>whnf
 intro ρe we re;refine⟨_,rfl,hw.tr re.cU,_,rfl,rv,?_,hK.1,fun i u x k1 k2=>cO.out (hK.2.2 i u x k1 k2) re (cF w)⟩;have h5:=re.iD (id:=1) (sz:=1) (m:=rv.length) rfl (by simp) (by unfold maxLen;omega) (by decide) hK.2.1;rw[show (Z.map dH).length=rv.length from hK.1.symm];exact h5.cL fun g hg=>.inr hg
section
variable{M:List (List Rat)}{b:List Rat}{n:Nat}
theorem LM(hl:gX n M)(hz:∀k,(cN (fH M b) n).2.length<=k->k<M.length->dK (cN (fH M b) n).1 k n=0):fz M b n=some (fD (cN (fH M b) n).1 (cN (fH M b) n).2 n (cN (fH M b) n).2.length):=by
 unfold fz;rw[rn hl];dsimp only
 rw[if_pos fun j hj h=>by rw[zH (bY n)];exact hz j h hj,JC]
theorem LN(hl:gX n M)(hj:(cN (fH M b) n).2.length<=j)(Sa:j<M.length)(h0:dK (cN (fH M b) n).1 j n≠0):fz M b n=none:=by
 unfold fz;rw[rn hl];dsimp only
 rw[aJ fun h=>h0 (by have:=h j Sa hj;rwa [zH (bY n)]at this)]
theorem JR{B:Nat}(h:∀r∈M,∀q∈r,Ib B q)(hB:1<=B):DM M n B:=fun j hj=>⟨1,by decide,Ib.one hB,fun t _=>by
 rw[bz];unfold dK;rw[getD_some (aA hj)];rcases aS t (M[j]).length with h1|h1
 ·rw[getD_some (aA h1)];exact h _ (ah hj) _ (ah h1)
 ·rw[jt h1];exact Ib.zero B⟩
theorem LO{R i:Nat}:∀q∈kY R i,Ib 1 q:=fun q hq=>by
 rcases av hq with hq|rfl
 ·rw[bJ hq];exact Ib.zero 1
 ·exact Ib.one (Nat.le_refl 1)
end
section
variable{f:eu}{l:List Ld}
theorem My(hv:FrV f)(hb:Bl b):∀r∈fH (cS f) b,∀q∈r,Ib (wt 1) q:=fun r hr q hq=>by
 obtain⟨i,hi⟩:=aN hr;unfold fH at hi;rw[List.getElem?_mapIdx]at hi;obtain⟨y,hy,rfl⟩:=Option.map_eq_some_iff.1 hi;rcases bE.1 hq with hq|hq
 ·obtain⟨k,hk⟩:=aN hq;have:=hv.s9 i k;rw[dK,getD_some hy,getD_some hk]at this;exact this.mono (zq (k:=1) (by decide) (by decide))
 ·rcases List.mem_cons.1 hq with rfl|hq
  ·exact(hb i).mono (zq (k:=1) (by decide) (by decide))
  ·exact(LO q hq).mono (zq (k:=1) (by decide) (by decide))
theorem aAK(h:FrS f)(hb:Bl b){c:Nat}(hc:c<=f.cols+1+(cS f).length):∀r∈(cN (fH (cS f) b) c).1,∀q∈r,rl q<=25:=fun r hr q hq=>by
 have h1:=zd (lV (gH f)) (JR (My h.toFrV hb) oU) oU hc r hr q hq;have h2:=h.zt (b:=b);rw[fP]at h2;rw[kZ]at h1;exact aX h1 h2
theorem Mz{a:Nat}(h:∀r∈M,∀q∈r,rl q<=a)(ha:1<=a)(r c:Nat):rl (dK M r c)<=a:=by
 unfold dK;rcases aS r M.length with h1|h1
 ·rw[getD_some (aA h1)];rcases aS c (M[r]).length with h2|h2
  ·rw[getD_some (aA h2)];exact h _ (ah h1) _ (ah h2)
  ·rw[jt h2,show rl 0=1 by decide];exact ha
 ·rw[show M.getD r []=[] by rw[List.getD,List.getElem?_eq_none h1];rfl,jt (aR _),show rl 0=1 by decide];exact ha
theorem LP(h:FrS f)(hb:Bl b)(h1:(cN (fH (cS f) b) f.cols).2.length<=j)(h2:j<(cS f).length)(h3:dK (cN (fH (cS f) b) f.cols).1 j f.cols≠0)(h4:∀k,(cN (fH (cS f) b) f.cols).2.length<=k->k<j->dK (cN (fH (cS f) b) f.cols).1 k f.cols=0):
  ∀q∈(((cN (fH (cS f) b) f.cols).1.getD j []).drop (f.cols+1)).map (· *(1 / dK (cN (fH (cS f) b) f.cols).1 j f.cols)),rl q<=25:=fun q hq=>by
 have TY:(cN (fH (cS f) b) f.cols).1.length=(cS f).length:=by rw[<-kZ (cS f) b];exact fR _ _
 obtain⟨y,hy,rfl⟩:=aV.1 hq;obtain⟨k,hk⟩:=aN hy;rw[List.getElem?_drop]at hk;have hs:cN (fH (cS f) b) (f.cols+1)=dX (cN (fH (cS f) b) f.cols) f.cols:=by
  unfold cN;rw[bS,List.foldl_append];rfl
 have e:=zF h1 (by omega) h4 h3;have hr:=(lT (mL (lV (b:=b) (gH f))) h1 (by omega) h3 e).1 (f.cols+1+k);have Pp:dK (cN (fH (cS f) b) f.cols).1 j (f.cols+1+k)=y:=by rw[dK,getD_some hk]
 rw[Pp]at hr;rw[<-hr,<-hs];exact Mz (aAK h hb (c:=f.cols+1) (by omega)) (by decide) _ _
theorem HB(hP:P.length=(cS f).length)(h0:∀q∈te P (cS f) f.cols (cS f).length,q=0)(h1:dT P (dR (eN f l) (-1)) P.length=1):Nv f l (dR P (-1)):=by
 have R5:=fK f;have hT:=gg (cS f) f.cols;refine⟨by rw[dR,aL,hP,R5],iA 0 (by rw[eV,ef,bc]) fun c hc=>?_,?_⟩
 ·rw[eV]at hc;have VG:c<f.cols:=by rwa [ef]at hc
  have h2:=h0 (dT P (zO (cS f) c) (cS f).length) (aV.2 ⟨c,List.mem_range.2 VG,rfl⟩);rw[k7]at h2;rw[sd hT _ hc];unfold mulR
  rw[cR (g:=fun t=>(P.getD t 0*(zO (cS f) c).getD t 0)*(-1)) fun t _=>by
   dsimp only
   rw[qB VG,o0,show(zO (cS f) c).getD t 0=dK (cS f) t c by
    unfold zO dK;rw[show ((cS f).map (·.getD c 0)).getD t 0=(((cS f).map (·.getD c 0))[t]?).getD 0 from rfl,aM,show(cS f).getD t []=((cS f)[t]?).getD []from rfl]
    cases (cS f)[t]? <;>rfl]
   grind,nM,h2,bI,List.getD,List.getElem?_replicate]
  split<;>rfl
 ·rw[k7]at h1 ⊢;rw[hP]at h1;rw[gj,<-R5,<-h1];exact cR fun t _=>by rw[o0,o0];grind
theorem xD{s u:List Rat}(hs:s∈cX (cS f) f.cols):dT s (fM (dY (cS f) f.cols) u) s.length=0:=by
 have hT:=gg (cS f) f.cols;obtain⟨k,hk⟩:=aN hs;have Rc:=jG (cS f) f.cols s hs;rw[k7,Rc]
 rw[cR (g:=fun t=>dJ (fun i=>u.getD i 0*(dK (cS f) i t*s.getD t 0)) (cS f).length) fun t ht=>by
  rw[sd hT _ (by rw[ef];exact ht)];unfold mulR;rw[<-e8];exact cR fun i _=>by rw[qB ht];grind,nN,cR (g:=fun _=>0) fun i hi=>by
  rw[e8];have h0:=zg (gH f) (aE.1 hk).1 i hi;unfold mulR at h0
  rw[cR (g:=fun t=>dK (cS f) i t*dK (cX (cS f) f.cols) k t) fun t _=>by rw[show dK (cX (cS f) f.cols) k t=s.getD t 0 by rw[dK,getD_some hk]],h0,bD],eM]
end
theorem ME(hv:FrV f):dg ((cS f).map jl)=f.cols:=by
 have R5:=fK f
 cases h:cS f with
 |nil=>
  rw[h]at R5;have h0:f.nodes.length=0:=by simp at R5;omega
  have hb:f.bars=[]:=by
   cases hb:f.bars with
   |nil=>rfl
   |cons b t=>
    obtain⟨ka,kb,_,_,h1,_⟩:=hv.Mv b (by rw[hb];exact aG ..);omega
  have hs:f.cY=[]:=by
   cases hs:f.cY with
   |nil=>rfl
   |cons b t=>
    have:=(hv.sup b (by rw[hs];exact aG ..)).1;omega
  unfold eu.cols;rw[hb,hs];rfl
 |cons r t=>
  show(jl r).length=f.cols;rw[wR];exact gH f r (by rw[h];exact aG ..)
theorem GC{vm:Value}(hS:Old S w)(PE:FrS f)(hM:cV w S vm (cS f))(hB:cO w S vb b)(hb:Bl b)(PQ:b.length=(cS f).length)(VY:∀q∈b,rl q<=3):
  eG PG N.qH #[vm,vb] w (eL w fun v' w2=>(∃P vp,fz (cS f) b f.cols=none∧P.length=(cS f).length∧(∀q∈te P (cS f) f.cols (cS f).length,q=0)∧dT P b P.length=1∧(∀q∈P,rl q<=25)∧v'= .tuple #[.agg #[.int .i64 1,.slice none 0 0,.slice none 0 0,vp],.int .i64 0]∧cO w2 (Nf w w2) vp P)∨
   (∃x vx ak nk ck,fz (cS f) b f.cols=some x∧v'= .tuple #[.agg #[.int .i64 0,vx,.slice ak nk ck,.slice none 0 0],.int .i64 0]∧cO w2 (Nf w w2) vx x)):=by
 have hlen:=gH f;have R5:=fK f;have hn4:=PE.n4;have Td:=PE.Jy;have Ua:=ME PE.toFrV;have Ou:BF ((cS f).map jl) (jl b)=0:=by
  have hE:rb ((cS f).map jl)=0:=by
   unfold rb;rw[if_pos fun r hr=>by rw[Ua];obtain⟨y,hy,rfl⟩:=aV.1 hr;rw[wR];exact hlen y hy,aJ (by rw[Ua,aL];omega)]
  unfold BF;rw[hE,aJ (by simp),wR,aL,aJ (by simp[PQ])]
 have VV:Ht (fH (cS f) b) 4:=NX (HW PE) (fun q hq=>by have:=VY q hq;omega) (by decide);refine(H0 (h0:=4) hS (cV.jl hM) (cO.jl hB) fun _=>⟨fun y hy=>by obtain⟨y0,QH,rfl⟩:=aV.1 hy;exact Cn fun q hq=>by have:=HW PE y0 QH q hq;omega,Cn fun q hq=>by have:=VY q hq;omega,by rw[MF,qo];exact VV,by decide,by rw[aL];exact aX (Nat.mul_le_mul_right 4 (Nat.pow_le_pow_right (by decide) (show (cS f).length<=12 by omega))) (by decide)⟩).mono fun _ w2 ⟨v2,e1,e2,e3⟩=>⟨v2,e1,e2,?_⟩
 rcases e3 with⟨h,_⟩|⟨_,s,rfl,A,pv,hA,hs⟩
 ·exact absurd Ou h
 rw[MF,qo,Ua]at hA;rw[Ua]at hs;simp only[aL]at hs;have e1:A=(cN (fH (cS f) b) f.cols).1:=congrArg Prod.fst hA;have e2:pv=(cN (fH (cS f) b) f.cols).2:=congrArg Prod.snd hA;subst e1 e2;rcases hs with⟨j,vp,h1,h2,h3,h4,rfl,h5⟩|⟨vx,vk,h1,rfl,h2,h3⟩
 ·obtain⟨k1,k2,k3⟩:=DL hlen h1 h2 h3 rfl;exact .inl ⟨_,vp,LN hlen h1 h2 h3,k1,k2,k3,LP PE hb h1 h2 h3 h4,rfl,h5⟩
 ·obtain⟨ak,ck,rfl,-,-⟩:=cd.shape h3;exact .inr ⟨_,vx,_,_,_,LM hlen h1,rfl,h2⟩
theorem GD(h:FrS f):∀s∈cX (cS f) f.cols,∀q∈s,rl q<=14:=fun s hs q hq=>by
 obtain⟨D,hD⟩:=h.ker;have h1:=hD.rl s hs q hq;have h2:ln (wt 13)<=14:=gT.2 (Hu (by decide));omega
set_option maxHeartbeats 2000000 in
set_option maxRecDepth 8000 in
theorem topMechanism_c{vl:Value}{f:HS}(hS:Old S w)(hF:qk w S vn vb vs f)(hl:iE w S vl l)(hu:eP w S v us):
  eG PG N.top_TopMechanismOrEquilibrium #[.agg #[vn,vb,vs],vl,v] w (eL w fun v' _=>v'= .bool true):=by
 have hw:=bR w;obtain⟨css,VT,hz,hR4,hQ⟩:=aAc hu;obtain⟨an,cn,rfl,-,-⟩:=hF.nodes.shape;obtain⟨ab,cb,rfl,-,-⟩:=hF.bars.shape;obtain⟨aq,cq,rfl,-,-⟩:=hF.cY.shape;obtain⟨al,cl,rfl,-,-⟩:=hl.shape;obtain⟨au,cu,rfl,hcu,hmu⟩:=dO.shape hu;unfold maxLen at hmu;refine jv (by simp) ?_;conv=>whnf
 refine cH (cE hw (fun _ w' v w2=>∃d,v= .bool d∧(d=true->eF w S (.slice an f.nodes.length cn) (.slice ab f.bars.length cb) (.slice aq f.cY.length cq) f.val∧(∀b∈f.val.bars,rl b.2.2<=3)∧(∀b∈f.val.cY,rl b.2.2<=3)∧f.nodes.length<=4∧f.val.bars.length<=6∧iF f.val l=0)) (fun O w' r=>(Jk (most:=4) hS hw r hF hl).mono fun _ _ ⟨v2,e1,e2,d,e3,e4⟩=>⟨v2,e1,e2,d,e3,fun h=>let k:=e4 h;⟨k.1,k.2.1,k.2.2.1,k.2.2.2.1,k.2.2.2.2.1,k.2.2.2.2.2.2.2⟩⟩) ?_);rintro O _ _ _ Og r he hw h_ ⟨d1,rfl,Ov⟩;clear r
 cases d1
 ·conv=>whnf
  refine cH (cE hw (fun _ w' v w2=>v= .bool true) (fun O w' r=>mh w') ?_);rintro O QQ v2 Pn OX r he hw h_ rfl;clear r;conv=>whnf
  exact rtn hw fun ρe we re=>rfl
 obtain⟨hR,hrb,WS,hn4,XO,Qk⟩:=Ov rfl;clear Ov;obtain⟨fv,hfv⟩:∃fv,f.val=fv:=⟨_,rfl⟩
 rw[hfv]at hR hrb WS XO Qk;obtain⟨en,eb,es⟩:f.nodes.length=fv.nodes.length∧f.bars.length=fv.bars.length∧f.cY.length=fv.cY.length:=by rw[<-hfv];exact⟨rfl,(aL ..).symm,(aL ..).symm⟩
 rw[en]at hn4;rw[en,eb,es]at hR ⊢;clear hF hfv en eb es;obtain⟨Ou,Qr⟩:=lj Qk;have Qr:=yb Qr;have RJ:GQ fv:=Lx (.inr ⟨hn4,XO⟩) hrb WS Ou;have PE:=RJ.toFrS;have hv:=PE.toFrV;have Ry:=PE.n;have Td:=PE.Jy;have PQ:=HX Qr;have R5:=fK fv;have Sp:(eN fv l).length=3*fv.nodes.length:=gj fv l;have Sg:∀q∈eN fv l,rl q<=1:=NP Ry Qr;have VY:∀q∈dR (eN fv l) (-1),rl q<=3:=fun q hq=>by
  obtain⟨y,hy,rfl⟩:=aV.1 hq;have:=ic y (-1);have:=Sg y hy;have:rl (-1)<=1:=by decide
  omega
 have Wp:(dR (eN fv l) (-1)).length=(cS fv).length:=by rw[dR,aL,Sp,R5]
 conv=>whnf
 refine dN.mk (fun _=>?_) (fun h12=>?_)
 ·conv=>whnf
  refine cH (cE hw (fun _ w' v w2=>v= .bool true) (fun O w' r=>mh w') ?_);rintro O QQ v2 Pn OX r he hw h_ rfl;clear r;conv=>whnf
  exact rtn hw fun ρe we re=>rfl
 have h12:us.length<=12:=by have:=aH h12;omega
 conv=>whnf
 refine⟨Nat×World×Iv,fun z=>⟨[(1,sV al l.length cl),(2,sV au us.length cu),(3,pP 0 0),(7,iN z.1)],[(0,.box T.Frame [.v (.slice an fv.nodes.length cn),.v (.slice ab fv.bars.length cb),.v (.slice aq fv.cY.length cq)])],1,z.2.2,z.2.1⟩,fun z=>us.length-z.1,
  fun z=>z.1<=us.length∧dq w.heap.size w z.2.1∧∀j cs,j<z.1->css[j]? =some cs->NW cs,?_,?_⟩
 ·intro O w' r;exact⟨(0,w',_),⟨aR _,hw.tr r.cU,fun j cs hj=>absurd hj (Nat.not_lt_zero j)⟩,Sub.gn [] r⟩
 clear hw;rintro⟨i,w1,iv⟩ ⟨hi,hw,hB⟩;dsimp only at hi hw hB ⊢;conv=>whnf
 refine dN.mk ?_ ?_<;>intro OU
 ·have OU:i<us.length:=by simpa using OU
  obtain⟨cs,PI⟩:∃cs,css[i]? =some cs:=⟨_,aA (by omega)⟩
  obtain⟨p,hp⟩:∃p,us[i]? =some p:=⟨_,aA OU⟩
  obtain⟨g0,g1,g2,g3,g4,g5,g6,g7,rfl,-⟩:=hR4 i cs p PI hp;obtain⟨adx,cs2,Pq,⟨Vc,-⟩,-,Pp⟩:=hz.load (by decide) (show (css.zip us)[i]? =some (_,p) by rw[List.getElem?_zip_eq_some];exact⟨PI,hp⟩);have Vc:cs2=[.bool g0,.slice g1 g2 g3,.bool g4,.slice g5 g6 g7]:=Vc;subst Vc;conv=>whnf
  refine⟨adx,Pq,by omega,?_⟩;conv=>whnf
  refine⟨.slice g1 g2 g3,fun O w' r=>?_,?_⟩
  ·obtain⟨k1,k2⟩:=Pp 1 _ rfl;rw[cI (w:=w) (w2:=w') (by simp only[dC];exact(hw.tr r.cU).block _ (hS _ k1))];simp only[aF,jy]at k2 ⊢
   first|exact k2|(rw [<-k2];congr 2;omega)
  conv=>whnf
  refine dN.mk ?_ ?_<;>intro k1
  ·conv=>whnf
   refine cH (cE hw (fun _ w' v w2=>v= .bool true) (fun O w' r=>mh w') ?_);rintro O QQ v2 Pn OX r he hw h_ rfl;clear r;conv=>whnf
   exact rtn hw fun ρe we re=>rfl
  have k1:=aH k1;conv=>whnf
  refine⟨adx,Pq,by omega,?_⟩;conv=>whnf
  refine⟨.slice g5 g6 g7,fun O w' r=>?_,?_⟩
  ·obtain⟨k1,k2⟩:=Pp 3 _ rfl;rw[cI (w:=w) (w2:=w') (by simp only[dC];exact(hw.tr r.cU).block _ (hS _ k1))];simp only[aF,jy]at k2 ⊢
   first|exact k2|(rw [<-k2];congr 2;omega)
  conv=>whnf
  refine dN.mk ?_ ?_<;>intro k3
  ·conv=>whnf
   refine cH (cE hw (fun _ w' v w2=>v= .bool true) (fun O w' r=>mh w') ?_);rintro O QQ v2 Pn OX r he hw h_ rfl;clear r;conv=>whnf
   exact rtn hw fun ρe we re=>rfl
  have k3:=aH k3;conv=>whnf
  have PB:∀j cs,j<i+1->css[j]? =some cs->NW cs:=fun j cs hj hc=>by
   rcases aS j i with h|h
   ·exact hB j cs h hc
   ·have:j=i:=by omega
    subst this;rw[PI]at hc;injection hc with hc;subst hc;exact⟨_,_,_,_,_,_,_,_,rfl,by omega,by omega⟩
  refine⟨((i+1:Nat):Int),wo,?_⟩;conv=>whnf
  intro ρ3 w6 r3;exact⟨(i+1,w6,_),⟨OU,hw.tr r3.cU,PB⟩,Sub.gn [] r3,by dsimp only;omega⟩
 have OU:i=us.length:=aU hi (by simpa using OU);subst OU;obtain⟨hU,Ut⟩:=hQ hB;clear hQ hB hi hR4 hz VT;obtain⟨uv,huv⟩:∃uv,us.map rq=uv:=⟨_,rfl⟩
 rw[huv]at hU Ut;have hul:us.length=uv.length:=by rw[<-huv,aL]
 rw[hul]at hU h12 ⊢;clear hu huv hcu hul hmu;conv=>whnf
 refine cH (cE hw (fun _ w' v w2=>∃vm,v= .tuple #[vm,.bool true]∧cV w2 (Nf w' w2) vm (cS fv)) (fun O w' r=>MD (oS hS r) (hR.cJ (kS hw r hS)) Ou PE) ?_);rintro O _ v2 _ OX r he hw h_ ⟨vm,rfl,hn⟩;have hM:=cV.dF (S:=FF) hn r.cG (mN h_);clear r;clear hn;obtain⟨am,cm,rfl,-,-⟩:=cd.shape hM;obtain⟨o,ho⟩:∃o,fz (cS fv) (dR (eN fv l) (-1)) fv.cols=o:=⟨_,rfl⟩
 cases o with
 |none=>
  conv=>whnf
  refine cH (cE hw (fun _ w' v w2=>∃a n c,v= .tuple #[.agg #[.int .i64 1,.slice none 0 0,.slice a n c],.int .i64 0]) (fun O w' r=>(GA (oS hS r) (hR.cJ (kS hw r hS)) (hl.cJ (kS hw r hS)) (fun _=>RJ)).mono fun _ _ ⟨v2,e1,e2,e3⟩=>⟨v2,e1,e2,e3.elim (fun h=>absurd Qk h.1) fun h=>h.2.elim (fun ⟨x,vx,g,_⟩=>by rw[ho]at g;cases g) fun⟨_,u,vu,_,_,k3,k4⟩=>by obtain⟨a,c,h,_⟩:=dO.shape k4;subst h;exact⟨a,_,c,k3⟩⟩) ?_);rintro O Pz v3 Px Oh r he hw h_ ⟨a0,n0,c0,rfl⟩;replace hM:=cV.cK hM r (cF w) he (mC h_);clear r;conv=>whnf
  refine cH (cE hw (fun _ w' v w2=>cO w2 (Nf w' w2) v (eN fv l)) (fun O w' r=>Ch (oS hS r) (hR.cJ (kS hw r hS)) (hl.cJ (kS hw r hS)) Ry Qr) ?_);rintro O Ro v4 Qh On r he hw h_ hn;replace hM:=cV.cK hM r (cF w) he (mC h_);have hP:=cO.dF (S:=FF) hn r.cG (mN h_);clear r;clear hn;obtain⟨ap,cp,rfl,-,-⟩:=dO.shape hP;conv=>whnf
  refine cH (cE hw (fun _ w' v w2=>dA w2 (Nf w' w2) v ((-1:Int):Rat)) (fun O w' r=>jz (-1) w' (by decide)) ?_);rintro O Tf v5 UH PN r he hw h_ hn;replace hM:=cV.cK hM r (cF w) he (mC h_);replace hP:=cO.cK hP r (cF w) he (mC h_);have Qx:=hn.dF (S:=FF) r.cG (mN h_);clear r;obtain⟨A0,A1,A2,A3,A4,A5,A6,A7,rfl⟩:=Qx.shape;conv=>whnf
  refine cH (cE hw (fun _ w' v w2=>cO w2 (Nf w' w2) v (dR (eN fv l) (-1))) (fun O w' r=>(show pN [] (eN fv l) ((-1:Int):Rat)=dR (eN fv l) (-1)from wS _ _)▸EC (S:=Cf w PN) (Rel.old r (cF w)) (dQ.nil _ _) (cO.l (cO.rel hP r (cF w)) fun q hq=>by have:=Sg q hq;omega) ((Qx.rel r (cF w)).l (by decide)) (.inl rfl) (by omega) (fun y hy=>by have:=Sg y hy;have:rl ((-1:Int):Rat)<=1:=(by decide);omega)) ?_);rintro O SQ v6 S6 RI r he hw h_ hn;replace hM:=cV.cK hM r (cF w) he (mC h_);clear hP;clear Qx;have hB:=cO.dF (S:=FF) hn r.cG (mN h_);clear r;clear hn;obtain⟨aB,cB,rfl,-,-⟩:=dO.shape hB;conv=>whnf
  refine cH (cE hw (fun _ w' v w2=>∃P vp,P.length=(cS fv).length∧(∀q∈te P (cS fv) fv.cols (cS fv).length,q=0)∧dT P (dR (eN fv l) (-1)) P.length=1∧(∀q∈P,rl q<=25)∧v= .tuple #[.agg #[.int .i64 1,.slice none 0 0,.slice none 0 0,vp],.int .i64 0]∧cO w2 (Nf w' w2) vp P) (fun O w' r=>(GC (S:=Cf w RI) (Rel.old r (cF w)) PE (cV.rel hM r (cF w)) (cO.rel hB r (cF w)) PQ Wp (fun q hq=>by have:=VY q hq;omega)).mono fun _ _ ⟨v2,e1,e2,e3⟩=>⟨v2,e1,e2,e3.elim (fun ⟨P,vp,_,k⟩=>⟨P,vp,k⟩) fun⟨x,_,_,_,_,g,_⟩=>by rw[ho]at g;cases g⟩) ?_);rintro O XU v7 XV RR r he hw h_ ⟨P,vp,hPl,hP0,hP1,Wo,rfl,hn⟩;clear hM;clear hB;have hPf:=cO.dF (S:=FF) hn r.cG (mN h_);clear r;clear hn;have Q2:=HB hPl hP0 hP1;have hPr2:∀q∈dR P (-1),rl q<=40:=fun q hq=>by
   obtain⟨y,hy,rfl⟩:=aV.1 hq;have:=ic y (-1);have:=Wo y hy;have:rl (-1)<=1:=by decide
   omega
  obtain⟨aP,cP,rfl,-,-⟩:=dO.shape hPf;conv=>whnf
  refine cQ hτ dx [.x 0,.x 1,.p 5,.x 2,.x 3,.x 4,.x 5,.x 6] (by kernel_rfl) (by kernel_rfl) ?_;conv=>whnf
  refine cE hw (fun _ w' v w2=>dA w2 (Nf w' w2) v ((-1:Int):Rat)) (fun O w' r=>jz (-1) w' (by decide)) ?_;rintro O Uu v8 VZ SP r he hw h_ hn;replace hPf:=cO.cK hPf r (cF w) he (mC h_);have Qx:=hn.dF (S:=FF) r.cG (mN h_);clear r;obtain⟨C0,C1,C2,C3,C4,C5,C6,C7,rfl⟩:=Qx.shape;conv=>whnf
  refine cE hw (fun _ w' v w2=>cO w2 (Nf w' w2) v (dR P (-1))) (fun O w' r=>(show pN [] P ((-1:Int):Rat)=dR P (-1)from wS _ _)▸EC (S:=Cf w SP) (Rel.old r (cF w)) (dQ.nil _ _) (cO.l (cO.rel hPf r (cF w)) fun q hq=>by have:=Wo q hq;omega) ((Qx.rel r (cF w)).l (by decide)) (.inl rfl) (by omega) (fun y hy=>by have:=Wo y hy;have:rl ((-1:Int):Rat)<=1:=(by decide);omega)) ?_;rintro O Ti v9 UI TL r he hw h_ hn;clear hPf;clear Qx;have hT:=cO.dF (S:=FF) hn r.cG (mN h_);clear r;clear hn;obtain⟨aT,cT,rfl,-,-⟩:=dO.shape hT;have hTl:(dR P (-1)).length<=80:=by rw[dR,aL];omega
  conv=>whnf
  refine cH (cE hw (fun _ w' v w2=>v= .int .i64 0) (fun O w' r=>(sK (k:=1) (S:=fun g=>S g∨Cf w TL g) (fun g hg=>hg.elim (oS hS r g) (Rel.old r (cF w) g)) (eF.cL (hR.cJ (kS hw r hS)) fun g hg=>.inl hg) (iE.cL (hl.cJ (kS hw r hS)) fun g hg=>.inl hg) (fun _=>PE) (dQ.nil _ _) (dQ.cL (cO.l (cO.rel hT r (cF w)) fun q hq=>by have:=hPr2 q hq;omega) fun g hg=>.inr hg) (fun q hq=>by cases hq) hPr2 (by decide) hTl).mono fun _ _ ⟨v2,e1,e2,e3⟩=>⟨v2,e1,e2,e3.elim (fun h=>absurd Qk h.1) fun h=>h.2.elim (fun g=>g.1) fun g=>absurd (.inr ⟨rfl,rfl,Q2⟩) g.2⟩) ?_);rintro O Wr v10 Ws Tk r he hw h_ rfl;replace hT:=cO.cK hT r (cF w) he (mC h_);clear r;conv=>whnf
  refine cH (cE hw (fun _ w' v w2=>∃vk,v= .tuple #[vk,.int .i64 0]∧cV w2 (Nf w' w2) vk (cX (cS fv) fv.cols)) (fun O w' r=>(xZ (oS hS r) (hR.cJ (kS hw r hS)) (fun _=>PE)).mono fun _ _ ⟨v2,e1,e2,e3⟩=>⟨v2,e1,e2,e3.elim (fun h=>absurd Ou h.1) fun h=>h.2⟩) ?_);rintro O _ _ _ RS r he hw h_ ⟨vk,rfl,hn⟩;have hK:=cV.dF (S:=FF) hn r.cG (mN h_);clear r;clear hn;obtain⟨ak,ck,rfl,-,hkm⟩:=cd.shape hK;unfold maxLen at hkm;have hkw:=jG (cS fv) fv.cols;have hkr:∀s∈cX (cS fv) fv.cols,∀q∈s,rl q<=14:=GD PE;have QB:=fun s (hs:s∈cX (cS fv) fv.cols)=>xD (u:=uv) hs;obtain⟨K,Wq⟩:∃K,cX (cS fv) fv.cols=K:=⟨_,rfl⟩
  rw[Wq]at hK hkm hkw hkr QB;rw[Wq];conv=>whnf
  refine⟨((3*fv.nodes.length:Nat):Int),wo,?_⟩;conv=>whnf
  refine dN.mk (fun SC=>?_) (fun _=>?_)
  ·have SC:uv.length=3*fv.nodes.length:=by have SC:=(show (uv.length:Int)=((3*fv.nodes.length:Nat):Int)from(by simpa using SC));omega
   have UD:=Ly PE (u:=uv) fun q hq=>by have:=Ut q hq;omega
   conv=>whnf
   refine cH (cE hw (fun _ w' v w2=>cO w2 (Nf w' w2) v (AA fv uv)) (fun O w' r=>Fy (oS hS r) (hR.cJ (kS hw r hS)) Ou PE (dQ.cJ hU (kS hw r hS)) (fun q hq=>by have:=Ut q hq;omega) (by omega) SC) ?_);rintro O Sj v12 TA Va r he hw h_ hn;replace hK:=cV.cK hK r (cF w) he (mC h_);have hA:=cO.dF (S:=FF) hn r.cG (mN h_);clear r;clear hn;have TY:(AA fv uv).length=fv.cols:=by rw[AA,eV,ef]
   have TB:∀s∈K,dT s (AA fv uv) s.length=0:=QB;obtain⟨A,hA0⟩:∃A,AA fv uv=A:=⟨_,rfl⟩
   rw[hA0]at hA TY UD TB;obtain⟨aa,ca,rfl,-,-⟩:=dO.shape hA;conv=>whnf
   refine⟨Nat×World×Iv,fun z=>⟨[(16,sV ak K.length ck),(18,sV aa A.length ca),(19,iN z.1)],[],0,z.2.2,z.2.1⟩,fun z=>K.length-z.1,
    fun z=>z.1<=K.length∧dq w.heap.size w z.2.1∧cV z.2.1 (Cf w z.2.2) (.slice ak K.length ck) K∧cO z.2.1 (Cf w z.2.2) (.slice aa A.length ca) A,?_,?_⟩
   ·intro O w' r;exact⟨(0,w',_),⟨aR _,hw.tr r.cU,cV.rel hK r (cF w),cO.rel hA r (cF w)⟩,Sub.gn [] r⟩
   clear hw hK hA;rintro⟨i,w7,iv⟩ ⟨hi,hw,hK,hA⟩;dsimp only at hi hw hK hA ⊢;conv=>whnf
   refine dN.mk ?_ ?_<;>intro OU
   ·have OU:i<K.length:=by simpa using OU
    obtain⟨s,hs⟩:∃s,K[i]? =some s:=⟨_,aA OU⟩
    have Rj:=aD hs;have Rc:=hkw s Rj;have Ul:=hkr s Rj;have UG:=TB s Rj;obtain⟨adm,um,Qs,PD,km1,km2⟩:=cd.load hK hs;obtain⟨as_,cs,rfl,-,-⟩:=dO.shape PD;conv=>whnf
    refine⟨adm,Qs,by omega,?_⟩;conv=>whnf
    refine⟨.slice as_ s.length cs,fun O w' r=>?_,?_⟩
    ·rw[aF,cI (w:=w7) (w2:=w') (by rw[dC];exact Rel.same r (cF w) km1)];exact km2
    conv=>whnf
    refine dN.mk (fun hd=>absurd (show (s.length:Int)=(A.length:Int) by omega) (by simpa using hd)) (fun _=>?_);conv=>whnf
    refine⟨adm,Qs,by omega,?_⟩;conv=>whnf
    refine⟨.slice as_ s.length cs,fun O w' r=>?_,?_⟩
    ·rw[aF,cI (w:=w7) (w2:=w') (by rw[dC];exact Rel.same r (cF w) km1)];exact km2
    conv=>whnf
    clear km1 km2;refine cH (cE hw (fun _ w' v w2=>dA w2 (Nf w' w2) v 0) (fun O w' r=>UG▸H3 (S:=Cf w iv) (h:=101) (Rel.old r (cF w)) (cO.l (cO.rel PD r (cF w)) fun q hq=>by have:=Ul q hq;omega) (cO.l (cO.rel hA r (cF w)) fun q hq=>by have:=UD q hq;omega) (by omega) (fun q hq=>by have:=Ul q hq;omega) (fun q hq=>by have:=UD q hq;omega) (by decide) (by omega)) ?_);rintro O wa31 v31 wb31 Vd r he hw h_ hn;replace hK:=cV.cK hK r (cF w) he (mC h_);replace hA:=cO.cK hA r (cF w) he (mC h_);clear PD;have hd:=hn.dF (S:=FF) r.cG (mN h_);clear r;obtain⟨E0,E1,E2,E3,E4,E5,E6,E7,rfl⟩:=hd.shape;conv=>whnf
    refine cH (cE hw (fun _ w' v w2=>v= .int .i64 0) (fun O w' r=>(Co (S:=Cf w Vd) (Rel.old r (cF w)) (hd.rel r (cF w))).mono fun _ _ ⟨v2,e1,e2,e3⟩=>⟨v2,e1,e2,by rw[e3];rfl⟩) ?_);rintro O wa32 v32 wb32 iv32 r he hw h_ rfl;replace hK:=cV.cK hK r (cF w) he (mC h_);replace hA:=cO.cK hA r (cF w) he (mC h_);clear hd;clear r;conv=>whnf
    refine⟨((i+1:Nat):Int),wo,?_⟩;conv=>whnf
    intro ρ3 w6 r3;exact⟨(i+1,w6,_),⟨OU,hw.tr r3.cU,cV.rel hK r3 (cF w),cO.rel hA r3 (cF w)⟩,Sub.gn [] r3,by dsimp only;omega⟩
   conv=>whnf
   refine cH (cE hw (fun _ w' v w2=>v= .bool true) (fun O w' r=>mh w') ?_);rintro O wa31 v31 wb31 Vd r he hw h_ rfl;clear r;conv=>whnf
   exact rtn hw fun ρe we re=>rfl
  conv=>whnf
  refine cH (cE hw (fun _ w' v w2=>v= .bool true) (fun O w' r=>mh w') ?_);rintro O _ _ _ Va r he hw h_ rfl;clear r;conv=>whnf
  exact rtn hw fun ρe we re=>rfl
 |some x0=>
  conv=>whnf
  refine cH (cE hw (fun _ w' v w2=>∃a n c,v= .tuple #[.agg #[.int .i64 0,.slice a n c,.slice none 0 0],.int .i64 0]) (fun O w' r=>(GA (oS hS r) (hR.cJ (kS hw r hS)) (hl.cJ (kS hw r hS)) (fun _=>RJ)).mono fun _ _ ⟨v2,e1,e2,e3⟩=>⟨v2,e1,e2,e3.elim (fun h=>absurd Qk h.1) fun h=>h.2.elim (fun ⟨x,vx,g,k1,k4⟩=>by obtain⟨a,c,h,_⟩:=dO.shape k4;subst h;exact⟨a,_,c,k1⟩) fun h=>by rw[ho]at h;cases h.1⟩) ?_);rintro O _ _ _ Oh r he hw h_ ⟨a0,n0,c0,rfl⟩;replace hM:=cV.cK hM r (cF w) he (mC h_);clear r;conv=>whnf
  refine cH (cE hw (fun _ w' v w2=>cO w2 (Nf w' w2) v (eN fv l)) (fun O w' r=>Ch (oS hS r) (hR.cJ (kS hw r hS)) (hl.cJ (kS hw r hS)) Ry Qr) ?_);rintro O _ _ _ On r he hw h_ hn;replace hM:=cV.cK hM r (cF w) he (mC h_);have hP:=cO.dF (S:=FF) hn r.cG (mN h_);clear r;clear hn;obtain⟨ap,cp,rfl,-,-⟩:=dO.shape hP;conv=>whnf
  refine cH (cE hw (fun _ w' v w2=>dA w2 (Nf w' w2) v ((-1:Int):Rat)) (fun O w' r=>jz (-1) w' (by decide)) ?_);rintro O _ _ _ PN r he hw h_ hn;replace hM:=cV.cK hM r (cF w) he (mC h_);replace hP:=cO.cK hP r (cF w) he (mC h_);have Qx:=hn.dF (S:=FF) r.cG (mN h_);clear r;obtain⟨A0,A1,A2,A3,A4,A5,A6,A7,rfl⟩:=Qx.shape;conv=>whnf
  refine cH (cE hw (fun _ w' v w2=>cO w2 (Nf w' w2) v (dR (eN fv l) (-1))) (fun O w' r=>(show pN [] (eN fv l) ((-1:Int):Rat)=dR (eN fv l) (-1)from wS _ _)▸EC (S:=Cf w PN) (Rel.old r (cF w)) (dQ.nil _ _) (cO.l (cO.rel hP r (cF w)) fun q hq=>by have:=Sg q hq;omega) ((Qx.rel r (cF w)).l (by decide)) (.inl rfl) (by omega) (fun y hy=>by have:=Sg y hy;have:rl ((-1:Int):Rat)<=1:=(by decide);omega)) ?_);rintro O _ _ _ RI r he hw h_ hn;replace hM:=cV.cK hM r (cF w) he (mC h_);clear hP;clear Qx;have hB:=cO.dF (S:=FF) hn r.cG (mN h_);clear r;clear hn;obtain⟨aB,cB,rfl,-,-⟩:=dO.shape hB;conv=>whnf
  refine cH (cE hw (fun _ w' v w2=>∃vx ak nk ck,v= .tuple #[.agg #[.int .i64 0,vx,.slice ak nk ck,.slice none 0 0],.int .i64 0]∧cO w2 (Nf w' w2) vx x0) (fun O w' r=>(GC (S:=Cf w RI) (Rel.old r (cF w)) PE (cV.rel hM r (cF w)) (cO.rel hB r (cF w)) PQ Wp (fun q hq=>by have:=VY q hq;omega)).mono fun _ _ ⟨v2,e1,e2,e3⟩=>⟨v2,e1,e2,e3.elim (fun ⟨_,_,g,_⟩=>by rw[ho]at g;cases g) fun⟨x,vx,ak,nk,ck,g,k1,k2⟩=>by rw[ho]at g;injection g with g;subst g;exact⟨vx,ak,nk,ck,k1,k2⟩⟩) ?_);rintro O _ _ _ RR r he hw h_ ⟨vx2,ak2,nk2,ck2,rfl,hn⟩;clear hM;clear hB;have hX:=cO.dF (S:=FF) hn r.cG (mN h_);clear r;clear hn;have heq:=LH ho;obtain⟨Dn,hD⟩:=PE.Nt PQ ho;have Sn:∀q∈x0,rl q<=40:=fun q hq=>by have:=hD.rl q hq;have h2:ln (wt 25)<=26:=gT.2 (Hu (by decide));omega
  have QO:=heq.1;obtain⟨ax,cx,rfl,-,-⟩:=dO.shape hX;conv=>whnf
  refine cH (cE hw (fun _ w' v w2=>v= .int .i64 0) (fun O w' r=>(sK (k:=0) (S:=fun g=>S g∨Cf w RR g) (fun g hg=>hg.elim (oS hS r g) (Rel.old r (cF w) g)) (eF.cL (hR.cJ (kS hw r hS)) fun g hg=>.inl hg) (iE.cL (hl.cJ (kS hw r hS)) fun g hg=>.inl hg) (fun _=>PE) (dQ.cL (cO.l (cO.rel hX r (cF w)) fun q hq=>by have:=Sn q hq;omega) fun g hg=>.inr hg) (dQ.nil _ _) Sn (fun q hq=>by cases hq) (by omega) (by decide)).mono fun _ _ ⟨v2,e1,e2,e3⟩=>⟨v2,e1,e2,e3.elim (fun h=>absurd Qk h.1) fun h=>h.2.elim (fun g=>g.1) fun g=>absurd (.inl ⟨rfl,rfl,heq⟩) g.2⟩) ?_);rintro O _ _ _ SP r he hw h_ rfl;replace hX:=cO.cK hX r (cF w) he (mC h_);clear r;conv=>whnf
  refine cH (cE hw (fun _ w' v w2=>∃vk,v= .tuple #[vk,.int .i64 0]∧cV w2 (Nf w' w2) vk (cX (cS fv) fv.cols)) (fun O w' r=>(xZ (oS hS r) (hR.cJ (kS hw r hS)) (fun _=>PE)).mono fun _ _ ⟨v2,e1,e2,e3⟩=>⟨v2,e1,e2,e3.elim (fun h=>absurd Ou h.1) fun h=>h.2⟩) ?_);rintro O _ _ _ TL r he hw h_ ⟨vk,rfl,hn⟩;have hK:=cV.dF (S:=FF) hn r.cG (mN h_);clear r;clear hn;obtain⟨ak,ck,rfl,-,hkm⟩:=cd.shape hK;unfold maxLen at hkm;have hkw:=jG (cS fv) fv.cols;have hkr:∀s∈cX (cS fv) fv.cols,∀q∈s,rl q<=14:=GD PE;have QB:=fun s (hs:s∈cX (cS fv) fv.cols)=>xD (u:=uv) hs;obtain⟨K,Wq⟩:∃K,cX (cS fv) fv.cols=K:=⟨_,rfl⟩
  rw[Wq]at hK hkm hkw hkr QB;rw[Wq];conv=>whnf
  refine⟨((3*fv.nodes.length:Nat):Int),wo,?_⟩;conv=>whnf
  refine dN.mk (fun SC=>?_) (fun _=>?_)
  ·have SC:uv.length=3*fv.nodes.length:=by have SC:=(show (uv.length:Int)=((3*fv.nodes.length:Nat):Int)from(by simpa using SC));omega
   have UD:=Ly PE (u:=uv) fun q hq=>by have:=Ut q hq;omega
   conv=>whnf
   refine cH (cE hw (fun _ w' v w2=>cO w2 (Nf w' w2) v (AA fv uv)) (fun O w' r=>Fy (oS hS r) (hR.cJ (kS hw r hS)) Ou PE (dQ.cJ hU (kS hw r hS)) (fun q hq=>by have:=Ut q hq;omega) (by omega) SC) ?_);rintro O Wr v10 Ws Tk r he hw h_ hn;replace hK:=cV.cK hK r (cF w) he (mC h_);have hA:=cO.dF (S:=FF) hn r.cG (mN h_);clear r;clear hn;have TY:(AA fv uv).length=fv.cols:=by rw[AA,eV,ef]
   have TB:∀s∈K,dT s (AA fv uv) s.length=0:=QB;obtain⟨A,hA0⟩:∃A,AA fv uv=A:=⟨_,rfl⟩
   rw[hA0]at hA TY UD TB;obtain⟨aa,ca,rfl,-,-⟩:=dO.shape hA;conv=>whnf
   refine⟨Nat×World×Iv,fun z=>⟨[(16,sV ak K.length ck),(18,sV aa A.length ca),(19,iN z.1)],[],0,z.2.2,z.2.1⟩,fun z=>K.length-z.1,
    fun z=>z.1<=K.length∧dq w.heap.size w z.2.1∧cV z.2.1 (Cf w z.2.2) (.slice ak K.length ck) K∧cO z.2.1 (Cf w z.2.2) (.slice aa A.length ca) A,?_,?_⟩
   ·intro O w' r;exact⟨(0,w',_),⟨aR _,hw.tr r.cU,cV.rel hK r (cF w),cO.rel hA r (cF w)⟩,Sub.gn [] r⟩
   clear hw hK hA;rintro⟨i,w7,iv⟩ ⟨hi,hw,hK,hA⟩;dsimp only at hi hw hK hA ⊢;conv=>whnf
   refine dN.mk ?_ ?_<;>intro OU
   ·have OU:i<K.length:=by simpa using OU
    obtain⟨s,hs⟩:∃s,K[i]? =some s:=⟨_,aA OU⟩
    have Rj:=aD hs;have Rc:=hkw s Rj;have Ul:=hkr s Rj;have UG:=TB s Rj;obtain⟨adm,um,Qs,PD,km1,km2⟩:=cd.load hK hs;obtain⟨as_,cs,rfl,-,-⟩:=dO.shape PD;conv=>whnf
    refine⟨adm,Qs,by omega,?_⟩;conv=>whnf
    refine⟨.slice as_ s.length cs,fun O w' r=>?_,?_⟩
    ·rw[aF,cI (w:=w7) (w2:=w') (by rw[dC];exact Rel.same r (cF w) km1)];exact km2
    conv=>whnf
    refine dN.mk (fun hd=>absurd (show (s.length:Int)=(A.length:Int) by omega) (by simpa using hd)) (fun _=>?_);conv=>whnf
    refine⟨adm,Qs,by omega,?_⟩;conv=>whnf
    refine⟨.slice as_ s.length cs,fun O w' r=>?_,?_⟩
    ·rw[aF,cI (w:=w7) (w2:=w') (by rw[dC];exact Rel.same r (cF w) km1)];exact km2
    conv=>whnf
    clear km1 km2;refine cH (cE hw (fun _ w' v w2=>dA w2 (Nf w' w2) v 0) (fun O w' r=>UG▸H3 (S:=Cf w iv) (h:=101) (Rel.old r (cF w)) (cO.l (cO.rel PD r (cF w)) fun q hq=>by have:=Ul q hq;omega) (cO.l (cO.rel hA r (cF w)) fun q hq=>by have:=UD q hq;omega) (by omega) (fun q hq=>by have:=Ul q hq;omega) (fun q hq=>by have:=UD q hq;omega) (by decide) (by omega)) ?_);rintro O wa31 v31 wb31 Vd r he hw h_ hn;replace hK:=cV.cK hK r (cF w) he (mC h_);replace hA:=cO.cK hA r (cF w) he (mC h_);clear PD;have hd:=hn.dF (S:=FF) r.cG (mN h_);clear r;obtain⟨E0,E1,E2,E3,E4,E5,E6,E7,rfl⟩:=hd.shape;conv=>whnf
    refine cH (cE hw (fun _ w' v w2=>v= .int .i64 0) (fun O w' r=>(Co (S:=Cf w Vd) (Rel.old r (cF w)) (hd.rel r (cF w))).mono fun _ _ ⟨v2,e1,e2,e3⟩=>⟨v2,e1,e2,by rw[e3];rfl⟩) ?_);rintro O _ _ _ iv32 r he hw h_ rfl;replace hK:=cV.cK hK r (cF w) he (mC h_);replace hA:=cO.cK hA r (cF w) he (mC h_);clear hd;clear r;conv=>whnf
    refine⟨((i+1:Nat):Int),wo,?_⟩;conv=>whnf
    intro ρ3 w6 r3;exact⟨(i+1,w6,_),⟨OU,hw.tr r3.cU,cV.rel hK r3 (cF w),cO.rel hA r3 (cF w)⟩,Sub.gn [] r3,by dsimp only;omega⟩
   conv=>whnf
   refine cH (cE hw (fun _ w' v w2=>v= .bool true) (fun O w' r=>mh w') ?_);rintro O _ _ _ Vd r he hw h_ rfl;clear r;conv=>whnf
   exact rtn hw fun ρe we re=>rfl
  conv=>whnf
  refine cH (cE hw (fun _ w' v w2=>v= .bool true) (fun O w' r=>mh w') ?_);rintro O _ _ _ Tk r he hw h_ rfl;clear r;conv=>whnf
  exact rtn hw fun ρe we re=>rfl
end Go.Ex
