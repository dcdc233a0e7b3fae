/- Texts L49 to L85: lemmas, each with its conditions. -/
import Derived.Test.YtgkpbdkechfgmaaGreatP15
namespace Go.Ex
open Go
section
theorem Gx:∀(N m:Nat) (g:Nat->Nat),(∀i,i<m->g i<N)->(∀i j,i<m->j<m->g i=g j->i=j)->m<=N
 |0,m,g,h1,_=>by
  rcases bN m with h|h
  ·omega
  ·exact absurd (h1 0 h) (Nat.not_lt_zero _)
 |N+1,m,g,h1,h2=>by
  by_cases h:∃i,i<m∧g i=N
  ·obtain⟨i0,hi,e⟩:=h
   have:=Gx N (m-1) (fun i=>if i<i0 then g i else g (i+1)) (fun i Qo=>by
    show(if i<i0 then g i else g (i+1))<N;split
    ·rename_i PF;have:=h1 i (by omega);have:g i≠N:=fun e2=>by have:=h2 i i0 (by omega) hi (by rw[e2,e]);omega
     omega
    ·have:=h1 (i+1) (by omega);have:g (i+1)≠N:=fun e2=>by have:=h2 (i+1) i0 (by omega) hi (by rw[e2,e]);omega
     omega) (fun i j Qo hj' e2=>by
    have e3:(if i<i0 then g i else g (i+1))=(if j<i0 then g j else g (j+1)):=e2;split at e3<;>split at e3
    ·exact h2 _ _ (by omega) (by omega) e3
    ·have:=h2 _ _ (by omega) (by omega) e3;omega
    ·have:=h2 _ _ (by omega) (by omega) e3;omega
    ·have:=h2 _ _ (by omega) (by omega) e3;omega)
   omega
  ·exact Nat.le_succ_of_le (Gx N m g (fun i hi=>by
    have:=h1 i hi;have:g i≠N:=fun e=>h ⟨i,hi,e⟩
    omega) h2)
structure FrS(f:eu):Prop extends FrV f where
 n4:f.nodes.length<=4
 b6:f.bars.length<=6
variable{f:eu}
theorem FrS.s12(h:FrS f):f.cY.length<=12:=by
 have:=Gx (3*f.nodes.length) f.cY.length (fun i=>gZ (f.cY.getD i (0,0,0))) (fun i hi=>by
  have e:f.cY.getD i (0,0,0)=f.cY[i]:=getD_some (aA hi);show gZ (f.cY.getD i (0,0,0))<_;rw[e]
  exact(h.sup _ (ah hi)).1) (fun i j hi hj e=>by
  have e1:f.cY.getD i (0,0,0)=f.cY[i]:=getD_some (aA hi);have e2:f.cY.getD j (0,0,0)=f.cY[j]:=getD_some (aA hj);have e:gZ (f.cY.getD i (0,0,0))=gZ (f.cY.getD j (0,0,0)):=e;rw[e1,e2]at e
  exact h.one i j _ _ (aA hi) (aA hj) e)
 have:=h.n4;omega
theorem FrS.Jy(h:FrS f):f.cols<=18:=by
 have h1:=h.s12;have h2:=h.b6;unfold eu.cols;omega
theorem FrS.Ma(h:FrS f):(cS f).length<=12:=by
 rw[fK];have:=h.n4;omega
theorem Ns:18*2000000<=wt 1:=by decide
theorem FrS.size(h:FrS f):ln (fB 2000000 (cS f).length)<=13:=by
 have:=h.Ma;have h2:=Kl (B:=2000000) (R:=18) (l:=1) (n:=(cS f).length) (by omega) Ns;omega
theorem FrS.LC(h:FrS f):ln (fB 2000000 (dY (cS f) f.cols).length)<=19:=by
 have:=h.Jy;have h2:=Kl (B:=2000000) (R:=18) (l:=1) (n:=(dY (cS f) f.cols).length) (by rw[ef];omega) Ns;rw[ef]at h2 ⊢;omega
theorem FrS.tw(h:FrS f):DM (dY (cS f) f.cols) (cS f).length 2000000:=fun j hj=>by
 rw[ef]at hj;exact⟨1,by decide,Ib.one (by decide),fun t _=>by rw[bz,qB hj];exact h.s9 t j⟩
end
end Go.Ex
namespace Go.Ex
open Go Go.Sx Go.Proofs
variable{M:List (List Rat)}{s:List Int}{l:List Ld}{u x xs:List Rat}{h0 n:Nat}{S:Nat->Prop}{v vb vl vn vs vu:Value}{f:eu}
theorem nh{B h:Nat}(hM:gX n M)(hW:DM M n B)(hB:1<=B)(hh:ln (fB B M.length)+1<=h):Ff M n h:=
 ⟨fun i hi r hr q hq=>by have:=Ko hM hW hB hi r hr q hq;omega,fun i hi k hk q hq=>by have:=Kp hM hW hB hi hk q hq;omega⟩
theorem tJ{B h:Nat}(hM:gX n M)(hW:DM M n B)(hB:1<=B)(hh:ln (fB B M.length)+1<=h):Ht (eK M n).1 h:=fun r hr q hq=>by
 rw[(s6 hM hW).2]at hr;have:=zd hM hW hB (Nat.le_refl n) r (List.mem_of_mem_take hr) q hq;omega
theorem HV{w:World}(hS:Old S w)(hf:eF w S vn vb vs f)(Rj:eY f=0->FrS f):
  eG PG N.qM #[.agg #[vn,vb,vs]] w (eL w fun v' w2=>(eY f≠0∧v'= .tuple #[.slice none 0 0,.int .i64 (eY f)])∨(eY f=0∧∃vz,v'= .tuple #[vz,.int .i64 0]∧kV w2 (Nf w w2) vz (gY f))):=by
 have hw:=bR w;obtain⟨an,cn,ab,cb,aq,cq,rfl,rfl,rfl,RH,Re,SB⟩:=hf.shape;have Pw:f.cols=f.bars.length+f.cY.length:=rfl;have R5:=xY f;obtain⟨e0,EE⟩:∃e,eY f=e:=⟨_,rfl⟩
 refine uY (by simp) ?_;refine cH (cE hw (fun _ w' v w2=>v= .int .i64 e0) (fun O w' r=>(Au (oS hS r) (hf.cJ (kS hw r hS))).mono fun _ _ ⟨v2,e1,e2,e3⟩=>⟨v2,e1,e2,by rw[e3,EE]⟩) ?_);rintro O _ _ _ Og r he hw h_ rfl;refine dN.mk ?_ ?_<;>intro he
 ·have he:e0≠0:=by simpa using he
  exact rtn hw fun ρe we re=>.inl ⟨by rw[EE];exact he,by rw[EE];rfl⟩
 have he:e0=0:=by simpa using he
 have Ou:eY f=0:=by rw[EE,he]
 have PE:=Rj Ou;have OZ:=lC Ou;refine cH (cE hw (fun _ w' v w2=>kV w2 (Nf w' w2) v (gY f)) (fun O w' r=>(Cb (oS hS r) (hf.cJ (kS hw r hS)) OZ).mono fun _ _ ⟨v2,e1,e2,e3,_⟩=>⟨v2,e1,e2,e3⟩) ?_);rintro O _ _ _ OX r he hw h_ hn;have hZ:=kV.dF (S:=FF) hn r.cG (mN h_);obtain⟨az,cz,rfl,-,-⟩:=cd.shape hZ;exact rtn hw fun ρe we re=>.inr ⟨Ou,_,rfl,kV.cL (kV.rel hZ re (cF w)) fun g hg=>Cv.nw hg re⟩
theorem xZ{w:World}(hS:Old S w)(hf:eF w S vn vb vs f)(Rj:eY f=0->FrS f):
  eG PG N.nR #[.agg #[vn,vb,vs]] w (eL w fun v' w2=>(eY f≠0∧v'= .tuple #[.slice none 0 0,.int .i64 (eY f)])∨(eY f=0∧∃vz,v'= .tuple #[vz,.int .i64 0]∧cV w2 (Nf w w2) vz (cX (cS f) f.cols))):=by
 have hw:=bR w;obtain⟨an,cn,ab,cb,aq,cq,rfl,rfl,rfl,RH,Re,SB⟩:=hf.shape;have Pw:f.cols=f.bars.length+f.cY.length:=rfl;have R5:=xY f;obtain⟨e0,EE⟩:∃e,eY f=e:=⟨_,rfl⟩
 refine rW (by simp) ?_;refine cH (cE hw (fun _ w' v w2=>v= .int .i64 e0) (fun O w' r=>(Au (oS hS r) (hf.cJ (kS hw r hS))).mono fun _ _ ⟨v2,e1,e2,e3⟩=>⟨v2,e1,e2,by rw[e3,EE]⟩) ?_);rintro O QU v1 QJ Og r he hw h_ rfl;refine dN.mk ?_ ?_<;>intro he
 ·have he:e0≠0:=by simpa using he
  exact rtn hw fun ρe we re=>.inl ⟨by rw[EE];exact he,by rw[EE];rfl⟩
 have he:e0=0:=by simpa using he
 have Ou:eY f=0:=by rw[EE,he]
 have PE:=Rj Ou;have OZ:=lC Ou;refine cH (cE hw (fun _ w' v w2=>(∃vr,v= .agg #[vr,.int .i64 f.cols]∧cV w2 (Nf w' w2) vr (cS f))∧gX f.cols (cS f)∧Ht (cS f) 2) (fun O w' r=>oq (S:=S) (oS hS r) (hf.cJ (kS hw r hS)) OZ) ?_);rintro O _ _ _ ivt r he hw h_ ⟨⟨vr,rfl,k1⟩,hlen,VV⟩;have hM:=cV.dF (S:=FF) k1 r.cG (mN h_);obtain⟨am,cm,rfl,Rt,Ra⟩:=cd.shape hM;have Td:=PE.Jy;have VW:=PE.Ma;refine cH (cE hw (fun _ w' v w2=>cV w2 (Nf w' w2) v (kQ (cS f) f.cols)) (fun O w' r=>tI (C:=Cf w ivt) (S:=Cf w ivt) (h:=20) (Rel.old r (cF w)) (Rel.old r (cF w)) (cV.rel hM r (cF w)) hlen (by omega) (by omega) (nh hlen PE.oY (by decide) (by have:=PE.size;omega)) (tJ hlen PE.oY (by decide) (by have:=PE.size;omega)) (by decide)) ?_);rintro O _ _ _ OX r he hw h_ hn;have hK:=cV.dF (S:=FF) hn r.cG (mN h_);rw[s8 hlen PE.oY]at hK;obtain⟨ak,ck,rfl,-,-⟩:=cd.shape hK;exact rtn hw fun ρe we re=>.inr ⟨Ou,_,rfl,cV.cL (cV.rel hK re (cF w)) fun g hg=>Cv.nw hg re⟩
section
variable{S:Nat->Prop}{w:World}{v u:Value}{M:List (List Rat)}{b:List Rat}{n h0:Nat}
end
theorem Be{w:World}(hS:Old S w)(hf:eF w S vn vb vs f)(hl:iE w S vl l):eG PG N.nS #[.agg #[vn,vb,vs],vl] w (eL w fun v' _=>v'= .int .i64 (uj f.nodes.length l)):=by
 have hw:=bR w;obtain⟨an,cn,ab,cb,aq,cq,rfl,rfl,rfl,RH,Re,SB⟩:=hf.shape;obtain⟨al,cl,rfl,Pf,Qt⟩:=hl.shape;unfold maxLen at Qt;refine rX (by simp) ?_;refine dN.mk ?_ ?_<;>intro h1
 ·have h1:=aI h1;exact rtn hw fun ρe we re=>by show Value.int .i64 _=_;rw[uj,if_pos (by omega)]
 have h1:=aH h1
 refine⟨Nat×World×Iv,fun z=>⟨[(1,sV al l.length cl),(2,pP 0 0),(5,iN z.1)],[(0,.box T.Frame [.v (.slice an f.nodes.length cn),.v (.slice ab f.bars.length cb),.v (.slice aq f.cY.length cq)])],1,z.2.2,z.2.1⟩,fun z=>l.length-z.1,
  fun z=>z.1<=l.length∧dq w.heap.size w z.2.1∧uj f.nodes.length l=fG (fun _=>jk f.nodes.length) (l.take z.1) (l.drop z.1),?_,?_⟩
 ·intro O w' r3;exact⟨(0,w',[]),⟨aR _,hw.tr r3.cU,by rw[uj,aJ (by omega)];rfl⟩,Sub.gn [] r3⟩
 clear hw;rintro⟨i,w1,iv⟩ ⟨hi,hw,hE⟩;dsimp only at hi hw hE ⊢;refine dN.mk ?_ ?_<;>intro OU
 ·have OU:i<l.length:=by simpa using OU
  obtain⟨x,hx⟩:∃x,l[i]? =some x:=⟨_,aA OU⟩
  obtain⟨adx,cs,Pq,hP,-,PO⟩:=hl.load (by decide) hx;have hP:cs=[.int .i64 x.1,.int .i64 x.2.1,.int .i64 x.2.2.1,.int .i64 x.2.2.2]:=hP;subst hP;refine cQ hτ dx [.x 0,.x 1,.x 2,.x 3,.x 4,.x 5,.x 6,.x 7] (by kernel_rfl) (by kernel_rfl) ?_;refine⟨adx,Pq,by omega,.int .i64 x.1,fun O w' r=>?_,?_⟩
  ·obtain⟨k1,k2⟩:=PO 0 _ rfl;rw[cI (w:=w) (w2:=w') (by simp only[dC];exact(hw.tr r.cU).block _ (hS _ k1))];simp only[aF,jy]at k2 ⊢;exact k2
  refine cE hw (fun _ w' v w2=>∃d,v= .bool d∧(d=true↔jZ f.nodes.length x.1)) (fun O w' r=>rM _ _ _ _ _ _ _ _ _ _ w') ?_;rintro O _ _ _ Og r he hw h_ ⟨d,rfl,hd⟩;clear r
  cases d
  ·have hc:jk f.nodes.length x=6:=by
    unfold jk;rw[aJ fun h=>by have:=hd.2 h;cases this]
   exact rtn hw fun ρe we re=>by show Value.int .i64 _=_;rw[hE,cW hx hc (by decide)]
  have hd:=hd.1 rfl;refine⟨adx,Pq,by omega,[.int .i64 x.1,.int .i64 x.2.1,.int .i64 x.2.2.1,.int .i64 x.2.2.2],rfl,rdO PO hw hS,?_⟩;refine cH (cE hw (fun _ w' v w2=>∃d,v= .bool d∧(d=true↔Mn x.2)) (fun O w' r=>Je x w') ?_);rintro O _ _ _ OX r he hw h_ ⟨d2,rfl,Pg⟩;clear r
  cases d2
  ·have hc:jk f.nodes.length x=2:=by
    unfold jk;rw[if_pos hd,aJ fun h=>by have:=Pg.2 h;cases this]
   exact rtn hw fun ρe we re=>by show Value.int .i64 _=_;rw[hE,cW hx hc (by decide)]
  have Pg:=Pg.1 rfl;have hc:jk f.nodes.length x=0:=by
   unfold jk;rw[if_pos hd];exact if_pos Pg
  rw[gu hx hc]at hE;refine⟨((i+1:Nat):Int),wo,?_⟩;intro ρ3 w6 r3;exact⟨(i+1,w6,_),⟨OU,hw.tr r3.cU,hE⟩,Sub.gn [] r3,by dsimp only;omega⟩
 have OU:i=l.length:=aU hi (by simpa using OU);rw[jP (by omega)]at hE;exact rtn hw fun ρe we re=>by show Value.int .i64 _=_;rw[hE]
theorem Dw{w:World}(hS:Old S w)(hf:eF w S vn vb vs f)(hl:iE w S vl l):eG PG N.pG #[.agg #[vn,vb,vs],vl] w (eL w fun v' _=>v'= .int .i64 (iF f l)):=by
 have hw:=bR w;obtain⟨an,cn,ab,cb,aq,cq,rfl,rfl,rfl,RH,Re,SB⟩:=hf.shape;obtain⟨al,cl,rfl,Pf,Qt⟩:=hl.shape;obtain⟨e0,EE⟩:∃e,eY f=e:=⟨_,rfl⟩
 refine sh (by simp) ?_;refine cH (cE hw (fun _ w' v w2=>v= .int .i64 e0) (fun O w' r=>(Ll (oS hS r) (hf.cJ (kS hw r hS))).mono fun _ _ ⟨v2,e1,e2,e3⟩=>⟨v2,e1,e2,by rw[e3,EE]⟩) ?_);rintro O _ _ _ Og r he hw h_ rfl;clear r;refine dN.mk ?_ ?_<;>intro he
 ·have he:e0≠0:=by simpa using he
  exact rtn hw fun ρe we re=>by show Value.int .i64 _=_;rw[iF,if_pos (by rw[EE];exact he),EE]
 have he:e0=0:=by simpa using he
 refine cH (cE hw (fun _ w' v w2=>v= .int .i64 (uj f.nodes.length l)) (fun O w' r=>Be (oS hS r) (hf.cJ (kS hw r hS)) (hl.cJ (kS hw r hS))) ?_);rintro O _ _ _ OX r he hw h_ rfl;clear r he;exact rtn hw fun ρe we re=>by show Value.int .i64 _=_;rw[iF,aJ (by rw[EE,he];decide)]
theorem aAR(h:eY f≠0∨f.nodes.length<=4∧f.bars.length<=6)(h0:eY f=0):FrS f:=⟨Kz h0,(h.resolve_left fun e=>e h0).1,(h.resolve_left fun e=>e h0).2⟩
theorem CR{r:List Rat}{i:Nat}(h:M[i]? =some r):(fM M x)[i]? =some (dT r x r.length):=by rw[fM,aM,h];rfl
theorem Ci{h:Nat}(hlen:gX n M)(hM:Ht M h)(hx:∀q∈x,rl q+1<=h)(h2:2<=h):∀q∈fM M x,rl q<=2*h*n+2:=fun q hq=>by
 obtain⟨r,hr,rfl⟩:=aV.1 hq;have:=ke (fun q hq=>hM r hr q hq) hx h2 r.length;rw[hlen r hr]at this ⊢;exact this
theorem Ft{w:World}{u:Value}(OV:∀r∈M,r.length=x.length)(hqM:Ht M h0)(Un:∀q∈x,rl q+1<=h0)(h2:2<=h0)(hb:2*h0*x.length<=90000)(hh:h0<=90000)(hR:M.length<=1000)(hS:Old S w)(hM:cV w S v M)(hx:dQ w S u x):
  eG PG N.kl #[.agg #[v,.int .i64 n],u] w (eL w fun v' w2=>eR w2 FF w.heap.size [(w.heap.size,w2.heap.size)] v' M.length (fM M x)):=by
 have hw:=bR w;obtain⟨am,cm,rfl,Rt,Ra⟩:=cd.shape hM;obtain⟨ax,cx,rfl,UW,Uo⟩:=dO.shape hx;refine o9 (by simp) ?_
 refine⟨M.length,M.length,rfl,rfl,Nat.le_refl _,by omega,by omega,Nat×List (List Value)×Iv×World,fun z=>⟨[(1,sV ax x.length cx),(5,.o (.s 1 0 M.length M.length)),(13,sV am M.length cm),(14,iZ M.length),(15,iN z.1)],[(0,.box T.du [.v (.slice am M.length cm),.v (.int .i64 n)]),(1,.arr T.Rat z.2.1.flatten)],2,z.2.2.1,z.2.2.2⟩,fun z=>M.length-z.1,
  fun z=>z.1<=M.length∧dq w.heap.size w z.2.2.2∧gF z.2.2.2 (Cf w z.2.2.1) (M.length) z.1 z.2.1 (fM M x),?_,?_⟩
 ·intro O w' r;exact⟨(0,List.replicate (M.length) f0,_,w'),⟨by simp,hw.tr r.cU,gF.start _ _ _ _⟩,Sub.gn [] r⟩
 clear hw;rintro⟨i,css,iv,w1⟩ ⟨hi,hw,hF⟩;dsimp only at hi hw hF ⊢;refine dN.mk ?_ ?_<;>intro h
 ·have h:i<M.length:=by simpa using h
  obtain⟨y,hy⟩:∃r,M[i]? =some r:=⟨_,aA h⟩
  have WT:=OV y (aD hy);obtain⟨adm,um,Qs,PD,km1,km2⟩:=cd.load hM hy;obtain⟨a0,c0,rfl,XQ,-⟩:=dO.shape PD;refine⟨adm,Qs,by omega,.slice a0 y.length c0,rd1 km2 hw (hS _ km1),?_⟩;refine cH (cE hw (fun _ w' v w2=>dA w2 (Nf w' w2) v (dT y x y.length)) (fun O w' r=>Al (h:=h0) (oS hS r) (dQ.cJ (cO.l PD fun q hq=>by have:=hqM y (aD hy) q hq;omega) (kS hw r hS)) (dQ.cJ hx (kS hw r hS)) (by omega) (fun q hq=>hqM y (aD hy) q hq) Un h2 (by rw[WT];exact hb)) ?_);rintro O _ _ _ Og r he hw h_ hn;replace hF:=hF.cK r (cF w) he (mC h_);have hd:=hn.dF (S:=FF) r.cG (mN h_);clear r;obtain⟨A0,A1,A2,A3,A4,A5,A6,A7,rfl⟩:=hd.shape;have Oi:=hF.next h (q:=_) (CR hy) hd
  refine⟨by omega,by have:=hF.flat;omega,(css.set i [.bool A0,.slice A1 A2 A3,.bool A4,.slice A5 A6 A7]).flatten,?_,?_⟩
  ·have:=gp (cs:=[.bool A0,.slice A1 A2 A3,.bool A4,.slice A5 A6 A7]) hF.four (show i<css.length by rw[hF.len];exact h);rw[<-this];simp
  refine⟨((i+1:Nat):Int),wo,?_⟩;intro ρ3 w3 r3;exact⟨(i+1,css.set i [.bool A0,.slice A1 A2 A3,.bool A4,.slice A5 A6 A7],_,w3),⟨h,hw.tr r3.cU,Oi.rel r3 (cF w)⟩,Sub.gn [] r3,by dsimp only;omega⟩
 have h:i=M.length:=aU hi (by simpa using h);subst h;exact rtn hw fun ρe we re=>hF.done (by rw[eV]) (by unfold maxLen;omega) re (id:=1) rfl (re.nn 1 _ rfl (by intros;simp) (by simp))
theorem NN{w:World}{q:Rat}(hS:Old S w)(hq:fE w S v q):eG PG N.fp #[v] w (eL w fun v' _=>v'= .bool (decide (q≠0))):=by
 have hw:=bR w;obtain⟨f0,f1,f2,f3,f4,f5,f6,f7,rfl⟩:=hq.shape;refine nX (by simp) ?_;refine cH (cE hw (fun _ w' v w2=>∃d,v= .bool d∧(d=true↔q=0)) (fun O w' r=>lI (oS hS r) (hq.cJ (kS hw r hS))) ?_);rintro O _ _ _ Og r he hw h_ ⟨d,rfl,hd⟩;clear r;intro ρe we re
 exact⟨_,rfl,hw.tr re.cU,by show Value.bool (!d)=_;cases d with
  |true=>simp[hd.1 rfl]
  |false=>
   have h0:q≠0:=fun h=>by have:=hd.2 h;cases this
   simp[h0]⟩
theorem Fu{w:World}(hS:Old S w)(hx:dQ w S v xs):
  eG PG N.fq #[v,fnV N.fp] w (eL w fun v' _=>∃z:Int,v'= .int .i64 z∧ -1<=z∧z<=9223372036854775807∧(0<=z↔∃x∈xs,x≠0)):=by
 have hw:=bR w;obtain⟨ax,cx,rfl,UW,Uo⟩:=dO.shape hx;unfold maxLen at Uo;refine il (by simp) ?_
 refine⟨Nat×World×Iv,fun z=>⟨[(0,sV ax xs.length cx),(1,.o (.v (fnV N.fp))),(7,iZ xs.length),(8,iN z.1)],[],0,z.2.2,z.2.1⟩,fun z=>xs.length-z.1,
  fun z=>z.1<=xs.length∧dq w.heap.size w z.2.1∧∀j x,j<z.1->xs[j]? =some x->x=0,?_,?_⟩
 ·intro O w' r;exact⟨(0,w',[]),⟨by simp,r.cU,by simp⟩,Sub.gn [] r⟩
 clear hw;rintro⟨i,w1,iv⟩ ⟨hi,hw,ht⟩;dsimp only at hi hw ht ⊢;refine dN.mk ?_ ?_<;>intro OU
 ·have OU:i<xs.length:=by simpa using OU
  obtain⟨x,QG⟩:∃x,xs[i]? =some x:=⟨_,aA OU⟩
  obtain⟨adx,csx,Pq,R6,-,PO⟩:=dO.load hx QG;obtain⟨p0,p1,p2,p3,p4,p5,p6,p7,rfl,R6⟩:=R6;refine⟨adx,Pq,by omega,[.bool p0,.slice p1 p2 p3,.bool p4,.slice p5 p6 p7],rfl,rdO PO hw hS,?_⟩;refine cH (cE hw (fun _ w' v w2=>v= .bool (decide (x≠0))) (fun O w' r=>NN (oS hS r) (R6.cJ (kS hw r hS))) ?_);rintro O _ _ _ Og r he hw h_ rfl;clear r;refine dN.mk ?_ ?_<;>intro he
  ·have Uz:x≠0:=by simpa using he
   exact rtn hw fun ρe we re=>⟨_,rfl,by omega,by omega,iff_of_true (by omega) ⟨x,aD QG,Uz⟩⟩
  have Uz:x=0:=by simpa using he
  refine⟨((i+1:Nat):Int),wo,?_⟩;intro ρ3 w3 r3;refine⟨(i+1,w3,_),⟨OU,hw.tr r3.cU,fun j y hj hy=>?_⟩,Sub.gn [] r3,by dsimp only;omega⟩;rcases aS j i with h|h
  ·exact ht j y h hy
  obtain rfl:j=i:=by dsimp only at hj;omega
  rw[QG]at hy;injection hy with hy;rw[<-hy,Uz]
 have OU:i=xs.length:=aU hi (by simpa using OU);intro ρe we re
 exact⟨_,rfl,hw.tr re.cU,⟨_,rfl,by omega,by omega,iff_of_false (by omega) fun⟨x,hm,h0⟩=>by
   obtain⟨j,hj⟩:=aN hm;have Sa:j<xs.length:=(aE.1 hj).1
   exact h0 (ht j x (by omega) hj)⟩⟩
theorem Ay{w:World}(hS:Old S w)(hx:dQ w S v xs):
  eG PG N.fV #[v,fnV N.fp] w (eL w fun v' _=>v'= .bool (decide (∃x∈xs,x≠0))):=by
 have hw:=bR w;have Rg:=hx;obtain⟨ax,cx,rfl,UW,-⟩:=dO.shape Rg;refine iM (by simp) ?_;refine cH (cE hw (fun _ w' v w2=>∃z:Int,v= .int .i64 z∧ -1<=z∧z<=9223372036854775807∧(0<=z↔∃x∈xs,x≠0)) (fun O w' r=>Fu (oS hS r) (dQ.cJ hx (kS hw r hS))) ?_);rintro O _ _ _ Og r he hw h_ ⟨z,rfl,Ov,Ps,hz⟩;clear r;exact rtn hw fun ρe we re=>by rw[show decide (∃x∈xs,x≠0)=decide (z≥0)from Bool.eq_iff_iff.2 (by rw[decide_eq_true_eq,decide_eq_true_eq];exact hz.symm)];rfl
set_option maxHeartbeats 400000 in
theorem Fv{w:World}{u t:Value}{p:List Rat}(hlen:gX n M)(hqM:Ht M h0)(Un:∀q∈x,rl q+1<=h0)(h2:2<=h0)(hb:2*h0*x.length<=90000)(hh:h0<=90000)(hR:M.length<=1000)(hS:Old S w)(hM:cV w S v M)(hx:dQ w S u x)(hp:dQ w S t p)(Pb:p.length=M.length)(hqp:∀q∈p,rl q<=1):
  eG PG N.nT #[.agg #[v,.int .i64 n],u,t] w (eL w fun v' _=>∃d,v'= .bool d∧(d=true↔x.length=n∧∀(j:Nat) a b,(fM M x)[j]? =some a->p[j]? =some b->a+b=0)):=by
 have hw:=bR w;obtain⟨am,cm,rfl,Rt,Ra⟩:=cd.shape hM;obtain⟨ax,cx,rfl,UW,Uo⟩:=dO.shape hx;obtain⟨ap,cp,rfl,hcp,hmp⟩:=dO.shape hp;refine rY (by simp) ?_;refine dN.mk ?_ ?_<;>intro hl
 ·have hl:x.length≠n:=fun e=>by rw[e]at hl;simp at hl
  exact rtn hw fun ρe we re=>⟨false,rfl,iff_of_false (by simp) fun h=>hl h.1⟩
 have RK:(x.length:Int)=n:=by simpa using hl
 have QA:x.length=n:=by omega
 clear hl RK;refine cH (cE hw (fun _ w' v w2=>eR w2 FF w'.heap.size [(w'.heap.size,w2.heap.size)] v M.length (fM M x)) (fun O w' r=>Ft (h0:=h0) (fun y hy=>(hlen y hy).trans QA.symm) hqM Un h2 hb hh hR (oS hS r) (cV.cJ hM (kS hw r hS)) (dQ.cJ hx (kS hw r hS))) ?_);rintro O _ _ _ Og r he hw h_ hn;have hT:=(hn.dF (S:=FF) r.cG (mN h_)).c;clear r;clear hn;have R5:(fM M x).length=M.length:=eV M x;have htb:=Ci hlen hqM Un h2;have h2n:2*h0*n<=90000:=by rw[<-QA];exact hb
 obtain⟨at_,ct,rfl,-,-⟩:=dO.shape hT;rw[R5];generalize fM M x=t at*
 refine⟨Nat×World×Iv,fun z=>⟨[(2,sV ap p.length cp),(16,sV at_ M.length ct),(17,iZ M.length),(18,iN z.1)],[],1,z.2.2,z.2.1⟩,fun z=>M.length-z.1,
  fun z=>z.1<=M.length∧dq w.heap.size w z.2.1∧cO z.2.1 (Cf w z.2.2) (.slice at_ M.length ct) t∧∀j a b,j<z.1->t[j]? =some a->p[j]? =some b->a+b=0,?_,?_⟩
 ·intro O w' r3;exact⟨(0,w',_),⟨aR _,hw.tr r3.cU,by have:=cO.rel hT r3 (cF w);rw[R5]at this;exact this,fun j a b hj=>absurd hj (Nat.not_lt_zero j)⟩,Sub.gn [] r3⟩
 clear hw hT;rintro⟨i,w1,iv⟩ ⟨hi,hw,hT,hz⟩;dsimp only at hi hw hT hz ⊢;refine dN.mk ?_ ?_<;>intro OU
 ·have OU:i<M.length:=by simpa using OU
  obtain⟨a,ha⟩:∃q,t[i]? =some q:=⟨_,aA (by omega)⟩
  obtain⟨b,Pa⟩:∃q,p[i]? =some q:=⟨_,aA (by omega)⟩
  obtain⟨ada,csa,haa,hFa,-,QM⟩:=dO.load hT ha;obtain⟨f0,f1,f2,f3,f4,f5,f6,f7,rfl,hFa⟩:=hFa;have hFa:=hFa.l (by have:=htb a (aD ha);omega);obtain⟨adb,csb,QP,hFb,-,PT⟩:=dO.load hp Pa;obtain⟨q0,q1,q2,q3,q4,q5,q6,q7,rfl,hFb⟩:=hFb;refine⟨ada,haa,by omega,[.bool f0,.slice f1 f2 f3,.bool f4,.slice f5 f6 f7],rfl,fun O w' r j u hu=>?_,?_⟩
  ·obtain⟨k1,k2⟩:=QM j u hu;rw[aF,cI (w:=w1) (w2:=w') (by rw[dC,dC];exact Rel.same r (cF w) k1)];exact k2
  refine cQ hτ dx [.x 0,.x 1,.x 2,.x 3,.x 4,.x 5,.x 6,.x 7] (by kernel_rfl) (by kernel_rfl) ?_;refine⟨adb,QP,by omega,[.bool q0,.slice q1 q2 q3,.bool q4,.slice q5 q6 q7],rfl,rdO PT hw hS,?_⟩;refine cE hw (fun _ w' v w2=>dA w2 (Nf w' w2) v (a+b)) (fun O w' r=>HH (S:=Cv S w.heap.size iv) (Rel.old r hS) ((hFa.rel r (cF w)).cL fun g hg=>EP hg).v ((hFb.cJ (kS hw r hS)).cL fun g hg=>.inl hg).v) ?_;rintro O _ _ _ OX r he hw h_ hn;replace hT:=cO.cK hT r (cF w) he (mC h_);have hd:=hn.dF (S:=FF) r.cG (mN h_);clear r;obtain⟨A0,A1,A2,A3,A4,A5,A6,A7,rfl⟩:=hd.shape;refine cE hw (fun _ w' v w2=>∃d,v= .bool d∧(d=true↔a+b=0)) (fun O w' r=>lI (S:=Cf w OX) (Rel.old r (cF w)) ((hd.rel r (cF w)).l (by have:=mw a b;have:=htb a (aD ha);have:=hqp b (aD Pa);omega))) ?_;rintro O _ _ _ Oh r he hw h_ ⟨d,rfl,RW⟩;replace hT:=cO.cK hT r (cF w) he (mC h_);clear hd;clear r
  cases d
  ·conv=>whnf
   exact rtn hw fun ρe we re=>⟨false,rfl,iff_of_false (by simp) fun h=>by have:=RW.2 (h.2 i a b ha Pa);cases this⟩
  refine⟨((i+1:Nat):Int),wo,?_⟩;intro ρ3 w3 r3;refine⟨(i+1,w3,_),⟨OU,hw.tr r3.cU,cO.rel hT r3 (cF w),fun j a2 b2 hj h5 h6=>?_⟩,Sub.gn [] r3,by dsimp only;omega⟩;rcases aS j i with h|h
  ·exact hz j a2 b2 h h5 h6
  obtain rfl:j=i:=by dsimp only at hj;omega
  rw[ha]at h5;rw[Pa]at h6;injection h5 with h5;injection h6 with h6;rw[<-h5,<-h6];exact RW.1 rfl
 have OU:i=M.length:=aU hi (by simpa using OU);exact rtn hw fun ρe we re=>⟨true,rfl,iff_of_true rfl ⟨QA,fun j a b h5 h6=>hz j a b (by have:=(aE.1 h5).1;omega) h5 h6⟩⟩
def EqB(f:eu)(l:List Ld)(b:Rat)(x:List Rat):Prop:=x.length=f.cols∧fM (cS f) x=dR (eN f l) (-b)
def Nv(f:eu)(l:List Ld)(u:List Rat):Prop:=u.length=3*f.nodes.length∧fM (dY (cS f) f.cols) u=List.replicate f.cols 0∧dT (eN f l) u (eN f l).length=1
def OC(f:eu)(l:List Ld)(k:Int)(x u:List Rat):Prop:=(k=0∧u.length=0∧EqB f l 1 x)∨(k=1∧x.length=0∧Nv f l u)
theorem HW(h:FrS f):Ht (cS f) 4:=fun r hr q hq=>by
 obtain⟨i,hi⟩:=aN hr;obtain⟨t,ht⟩:=aN hq;have:=h.s9 i t;rw[dK,getD_some hi,getD_some ht]at this;obtain⟨z,rfl,hz⟩:=this;have:rl ((z:Int):Rat)<=2:=I1 (by omega);omega
theorem Fw(h:FrS f):Ht (dY (cS f) f.cols) 4:=fun r hr q hq=>by
 obtain⟨i,hi⟩:=aN hr;obtain⟨t,ht⟩:=aN hq;have hil:i<f.cols:=by have:=(aE.1 hi).1;rwa [ef]at this
 have:=h.s9 t i;rw[<-qB (M:=cS f) hil,dK,getD_some hi,getD_some ht]at this;obtain⟨z,rfl,hz⟩:=this;have:rl ((z:Int):Rat)<=2:=I1 (by omega);omega
theorem NO(h:FrS f):Ht (cS f) 41:=fun r hr q hq=>by have:=HW h r hr q hq;omega
theorem rN(h:FrS f):Ht (dY (cS f) f.cols) 41:=fun r hr q hq=>by have:=Fw h r hr q hq;omega
theorem Dx:(x.length=f.cols∧∀(j:Nat) a b,(fM (cS f) x)[j]? =some a->(eN f l)[j]? =some b->a+b=0)↔EqB f l 1 x:=by
 refine and_congr_right fun _=>⟨fun h=>?_,fun h j a b h1 h2=>?_⟩
 ·refine iA 0 (by rw[eV,dR,aL,gj,fK]) fun i hi=>?_;have TR:i<(eN f l).length:=by rw[eV,fK]at hi;rw[gj];exact hi
  have:=h i _ _ (aA hi) (aA TR);rw[List.getD,aA hi,dR,List.getD,aM,aA TR];show(fM (cS f) x)[i]=(eN f l)[i]* -1;grind
 ·rw[h,dR,aM,h2]at h1;injection h1 with h1;have h1:b* -1=a:=h1;rw[<-h1];grind
theorem Fx:(¬∃q∈fM (dY (cS f) f.cols) u,q≠0)↔fM (dY (cS f) f.cols) u=List.replicate f.cols 0:=by
 have hl:(fM (dY (cS f) f.cols) u).length=f.cols:=by rw[eV,ef]
 constructor
 ·intro h;rw[List.eq_replicate_iff];exact⟨hl,fun q hq=>Decidable.byContradiction fun h0=>h ⟨q,hq,h0⟩⟩
 ·rintro h ⟨q,hq,h0⟩;rw[h]at hq;exact h0 (bJ hq)
set_option maxHeartbeats 1000000 in
theorem sK{w:World}(hS:Old S w)(hf:eF w S vn vb vs f)(hl:iE w S vl l)(Rj:eY f=0->FrS f){vx:Value}{k:Int}(hx:dQ w S vx x)(hu:dQ w S vu u)(hxq:∀q∈x,rl q<=40)(Ut:∀q∈u,rl q<=40)(hx80:x.length<=80)(hu80:u.length<=80):
  eG PG N.l0 #[.agg #[vn,vb,vs],vl,.agg #[.int .i64 k,vx,vu]] w (eL w fun v' _=>(iF f l≠0∧v'= .int .i64 (iF f l))∨(iF f l=0∧((v'= .int .i64 0∧OC f l k x u)∨(v'= .int .i64 25∧¬OC f l k x u)))):=by
 have hw:=bR w;obtain⟨an,cn,ab,cb,aq,cq,rfl,rfl,rfl,RH,Re,SB⟩:=hf.shape;obtain⟨al,cl,rfl,Pf,Qt⟩:=hl.shape;obtain⟨ax,cx,rfl,UW,Uo⟩:=dO.shape hx;obtain⟨au,cu,rfl,hcu,hmu⟩:=dO.shape hu;unfold maxLen at Uo hmu;obtain⟨e0,EE⟩:∃e,iF f l=e:=⟨_,rfl⟩
 refine pQ (by simp) ?_;refine cH (cE hw (fun _ w' v w2=>v= .int .i64 e0) (fun O w' r=>(ll (oS hS r) (hf.cJ (kS hw r hS)) (hl.cJ (kS hw r hS))).mono fun _ _ ⟨v2,e1,e2,e3⟩=>⟨v2,e1,e2,by rw[e3,EE]⟩) ?_);rintro O QU v1 QJ Og r he hw h_ rfl;clear r;refine dN.mk ?_ ?_<;>intro he
 ·have he:e0≠0:=by simpa using he
  exact rtn hw fun ρe we re=>.inl ⟨by rw[EE];exact he,by rw[EE];rfl⟩
 have he:e0=0:=by simpa using he
 have Qk:iF f l=0:=by rw[EE,he]
 obtain⟨Ou,Qr⟩:=lj Qk;have PE:=Rj Ou;have Qr:=yb Qr;clear EE he;have Td:=PE.Jy;have VW:=PE.Ma;have R5:=fK f;have hlen:=gH f;have hn4:=PE.n4;have OZ:=lC Ou;have Sp:=gj f l;have XQ:f.cols=f.bars.length+f.cY.length:=rfl;refine cQ hτ dx [.x 0,.x 2,.x 3,.p 5,.x 1,.x 4,.x 5,.x 6,.x 7] (by kernel_rfl) (by kernel_rfl) ?_;refine cE hw (fun _ w' v w2=>(∃vr,v= .agg #[vr,.int .i64 f.cols]∧cV w2 (Nf w' w2) vr (cS f))∧gX f.cols (cS f)∧Ht (cS f) 2) (fun O w' r=>oq (S:=S) (oS hS r) (hf.cJ (kS hw r hS)) OZ) ?_;rintro O _ _ _ ivt r he hw h_ ⟨⟨vr,rfl,k1⟩,-,-⟩;have hM:=cV.dF (S:=FF) k1 r.cG (mN h_);clear r he;obtain⟨am,cm,rfl,Rt,Ra⟩:=cd.shape hM
 refine cE hw (fun _ w' v w2=>cO w2 (Nf w' w2) v (eN f l)∧∀q∈eN f l,rl q<=1) (fun O w' r=>(wM (oS hS r) (hl.cJ (kS hw r hS)) PE.n Qr rfl rfl).mono fun _ _ ⟨v2,e1,e2,e3,e4⟩=>⟨v2,e1,e2,cO.cL e3.c fun g hg=>hg.elim (fun h=>h.elim) fun⟨_,lo,hi,h2,h3,h4⟩=>by
  simp at h2;obtain⟨rfl,rfl⟩:=h2
  exact .inr ⟨h3,h4⟩,e4⟩) ?_
 rintro O _ v2 _ OX r he hw h_ ⟨hn,VX⟩;replace hM:=cV.cK hM r (cF w) he (mC h_);have hP:=cO.dF (S:=FF) hn r.cG (mN h_);clear r he;clear hn;obtain⟨ap,cp,rfl,-,-⟩:=dO.shape hP;rw[Sp];rcases(show k=0∨k=1∨k≠0∧k≠1 by omega)with rfl|rfl|⟨Tx,hk1⟩
 ·conv=>whnf
  refine dN.mk ?_ ?_<;>intro h0
  ·have h0:u.length=0:=by simpa using h0
   refine cH (cE hw (fun _ w' v w2=>∃d,v= .bool d∧(d=true↔EqB f l 1 x)) (fun O w' r=>(Fv (S:=fun g=>S g∨Cf w OX g) (h0:=41) (p:=eN f l) hlen (NO PE) (fun q hq=>by have:=hxq q hq;omega) (by decide) (by omega) (by decide) (by omega) (fun g hg=>hg.elim (oS hS r g) (Rel.old r (cF w) g)) (cV.cL (cV.rel hM r (cF w)) fun g hg=>.inr hg) (dQ.cL (dQ.cJ hx (kS hw r hS)) fun g hg=>.inl hg) (dQ.cL (cO.l (by have:=cO.rel hP r (cF w);rw[Sp]at this;exact this) fun q hq=>by have:=VX q hq;omega) fun g hg=>.inr hg) (by rw[Sp,R5]) VX).mono fun _ _ ⟨v2,e1,e2,d,e3,e4⟩=>⟨v2,e1,e2,d,e3,e4.trans Dx⟩) ?_);rintro O Pz v3 Px Oh r he hw h_ ⟨d,rfl,hd⟩;replace hM:=cV.cK hM r (cF w) he (mC h_);replace hP:=cO.cK hP r (cF w) he (mC h_);clear r he
   cases d
   ·conv=>whnf
    exact rtn hw fun ρe we re=>.inr ⟨Qk,.inr ⟨rfl,fun h=>by rcases h with⟨_,_,h⟩|⟨h,_⟩;(have:=hd.2 h;cases this);cases h⟩⟩
   exact rtn hw fun ρe we re=>.inr ⟨Qk,.inl ⟨rfl,.inl ⟨rfl,h0,hd.1 rfl⟩⟩⟩
  have h0:u.length≠0:=by simpa using h0
  exact rtn hw fun ρe we re=>.inr ⟨Qk,.inr ⟨rfl,fun h=>by rcases h with⟨_,h,_⟩|⟨h,_⟩;exact h0 h;cases h⟩⟩
 ·conv=>whnf
  refine dN.mk ?_ ?_<;>intro h0
  ·have h0:x.length=0:=by simpa using h0
   refine dN.mk ?_ ?_<;>intro h1
   ·have h1:(u.length:Int)=((3*f.nodes.length:Nat):Int):=by simpa using h1
    have h1:u.length=3*f.nodes.length:=by omega
    refine cQ hτ dx [.x 0,.x 2,.x 3,.x 1,.x 4,.x 5,.x 6] (by kernel_rfl) (by kernel_rfl) ?_;refine cM (Φ:=fun _ w' v w2=>∃vr,v= .agg #[vr,.int .i64 (cS f).length]∧cV w2 (Nw (Cf w OX) w' w2) vr (dY (cS f) f.cols)) (fun O w' r=>sJ (C:=Cf w OX) (S:=Cf w OX) (Rel.old r (cF w)) (Rel.old r (cF w)) (cV.rel hM r (cF w)) hlen (by omega) (by omega)) ?_;rintro O Pz v3 Px r he hb ⟨vt,rfl,hn⟩;replace hw:=hw.tr hb;clear hM;replace hP:=cO.cK (iv':=(Pz.heap.size,Px.heap.size)::OX) hP r (cF w) he fun x hx=>aC _ hx;have hT:=cV.old hn r.cG;clear r he hb;generalize (Pz.heap.size,Px.heap.size)::OX=Oh at*
    clear hn;obtain⟨at_,ct,rfl,-,-⟩:=cd.shape hT
    refine cE hw (fun _ w' v w2=>cO w2 (Nf w' w2) v (fM (dY (cS f) f.cols) u)) (fun O w' r=>(Ft (S:=fun g=>S g∨Cf w Oh g) (h0:=41) (fun y hy=>by rw[gg _ _ y hy,h1,R5]) (rN PE) (fun q hq=>by have:=Ut q hq;omega) (by decide) (by omega) (by decide) (by rw[ef];omega) (fun g hg=>hg.elim (oS hS r g) (Rel.old r (cF w) g)) (cV.cL (cV.rel hT r (cF w)) fun g hg=>.inr hg) (dQ.cL (dQ.cJ hu (kS hw r hS)) fun g hg=>.inl hg)).mono fun _ _ ⟨v2,e1,e2,e3⟩=>⟨v2,e1,e2,cO.cL e3.c fun g hg=>hg.elim (fun h=>h.elim) fun⟨_,lo,hi,h2,h3,h4⟩=>by
     simp at h2;obtain⟨rfl,rfl⟩:=h2
     exact .inr ⟨h3,h4⟩⟩) ?_
    rintro O _ _ _ On r he hw h_ hn;replace hP:=cO.cK hP r (cF w) he (mC h_);clear hT;have hU:=cO.dF (S:=FF) hn r.cG (mN h_);clear r he;clear hn;obtain⟨aw,cw,rfl,-,-⟩:=dO.shape hU;have htb:=Ci (x:=u) (gg (cS f) f.cols) (rN PE) (fun q hq=>by have:=Ut q hq;omega) (by decide);obtain⟨b,VD⟩:∃b,decide (∃q∈fM (dY (cS f) f.cols) u,q≠0)=b:=⟨_,rfl⟩
    refine cE hw (fun _ w' v w2=>v= .bool b) (fun O w' r=>(Ay (S:=Cf w On) (Rel.old r (cF w)) (cO.l (cO.rel hU r (cF w)) fun q hq=>by have:=htb q hq;omega)).mono fun _ _ ⟨v2,e1,e2,e3⟩=>⟨v2,e1,e2,by rw[e3,<-VD]⟩) ?_;rintro O _ _ _ PN r he hw h_ rfl;replace hP:=cO.cK hP r (cF w) he (mC h_);clear hU;clear r he
    cases b
    ·have Q2:=Fx.1 (aH VD);refine cH (cE hw (fun _ w' v w2=>dA w2 (Nf w' w2) v (dT (eN f l) u (eN f l).length)) (fun O w' r=>Al (S:=fun g=>S g∨Cf w PN g) (h:=41) (fun g hg=>hg.elim (oS hS r g) (Rel.old r (cF w) g)) (dQ.cL (cO.l (by have:=cO.rel hP r (cF w);rw[Sp]at this;exact this) fun q hq=>by have:=VX q hq;omega) fun g hg=>.inr hg) (dQ.cL (dQ.cJ hu (kS hw r hS)) fun g hg=>.inl hg) (by omega) (fun q hq=>by have:=VX q hq;omega) (fun q hq=>by have:=Ut q hq;omega) (by decide) (by omega)) ?_);rintro O _ _ _ RI r he hw h_ hn;replace hP:=cO.cK hP r (cF w) he (mC h_);have hd:=hn.dF (S:=FF) r.cG (mN h_);clear r he;obtain⟨A0,A1,A2,A3,A4,A5,A6,A7,rfl⟩:=hd.shape;have hdr:=ke (h:=41) (xs:=eN f l) (ys:=u) (fun q hq=>by have:=VX q hq;omega) (fun q hq=>by have:=Ut q hq;omega) (by decide) (eN f l).length;refine cH (cE hw (fun _ w' v w2=>dA w2 (Nf w' w2) v ((1:Int):Rat)) (fun O w' r=>jx 1 w' (by decide) (by decide)) ?_);rintro O _ _ _ RR r he hw h_ hn;replace hP:=cO.cK hP r (cF w) he (mC h_);replace hd:=hd.cK r (cF w) he (mC h_);have ho:=hn.dF (S:=FF) r.cG (mN h_);clear r he;obtain⟨C0,C1,C2,C3,C4,C5,C6,C7,rfl⟩:=ho.shape;refine cH (cE hw (fun _ w' v w2=>v= .int .i64 (rs (dT (eN f l) u (eN f l).length-((1:Int):Rat)))) (fun O w' r=>Dj (S:=Cf w RR) (Rel.old r (cF w)) ((hd.rel r (cF w)).l (by omega)).v ((ho.rel r (cF w)).l (by decide)).v) ?_);rintro O _ _ _ SP r he hw h_ rfl;replace hP:=cO.cK hP r (cF w) he (mC h_);clear hd;clear ho;clear r he;obtain⟨cf,UF⟩:∃c,rs (dT (eN f l) u (eN f l).length-((1:Int):Rat))=c:=⟨_,rfl⟩
     rw[UF];refine dN.mk ?_ ?_<;>intro h2
     ·have h2:cf=0:=by simpa using h2
      rw[h2]at UF;have hdot:=OD.1 UF;exact rtn hw fun ρe we re=>.inr ⟨Qk,.inl ⟨rfl,.inr ⟨rfl,h0,h1,Q2,hdot⟩⟩⟩
     have h2:cf≠0:=by simpa using h2
     exact rtn hw fun ρe we re=>.inr ⟨Qk,.inr ⟨rfl,fun h=>by rcases h with⟨h,_⟩|⟨_,Rg,Uq,Sm,Sh⟩;cases h;exact h2 (by rw[<-UF];exact OD.2 Sh)⟩⟩
    exact rtn hw fun ρe we re=>.inr ⟨Qk,.inr ⟨rfl,fun h=>by rcases h with⟨h,_⟩|⟨_,Rg,Uq,Sm,Sh⟩;cases h;exact(Fx.2 Sm) (aI VD)⟩⟩
   have h1:(u.length:Int)≠((3*f.nodes.length:Nat):Int):=by simpa using h1
   exact rtn hw fun ρe we re=>.inr ⟨Qk,.inr ⟨rfl,fun h=>by rcases h with⟨h,_⟩|⟨_,Rg,Uq,Sm,Sh⟩;cases h;exact h1 (by rw[Uq])⟩⟩
  have h0:x.length≠0:=by simpa using h0
  exact rtn hw fun ρe we re=>.inr ⟨Qk,.inr ⟨rfl,fun h=>by rcases h with⟨h,_⟩|⟨_,Rg,Uq,Sm,Sh⟩;cases h;exact h0 Rg⟩⟩
 refine dN.mk (fun h0=>absurd (by simpa using h0) Tx) (fun _=>?_);refine dN.mk (fun h0=>absurd (by simpa using h0) hk1) (fun _=>?_);exact rtn hw fun ρe we re=>.inr ⟨Qk,.inr ⟨rfl,fun h=>by rcases h with⟨h,_⟩|⟨h,_⟩;exact Tx h;exact hk1 h⟩⟩
theorem Lu{t:Int}(h:Md s t)(ht:0<=t)(j:Nat): -t<=s.getD j 0∧s.getD j 0<=t:=by
 rcases aS j s.length with hj|hj
 ·rw[getD_some (aA hj)];exact h _ (ah hj)
 ·rw[List.getD,List.getElem?_eq_none hj];show -t<=0∧0<=t;omega
theorem Ck{s:List Int}{x:Ld}{t:Int}(h:Md s t)(ht:0<=t)(hx:(-1000000<=x.2.1∧x.2.1<=1000000)∧(-1000000<=x.2.2.1∧x.2.2.1<=1000000)∧(-1000000<=x.2.2.2∧x.2.2.2<=1000000)):∀k,k<=3->Md (ga s x k) (t+1000000*(k:Int))
 |0,_=>by rw[ga];simpa using h
 |k+1,hk=>by
  have ih:=Ck h ht hx k (by omega);have hd: -1000000<=(ldC x).getD k 0∧(ldC x).getD k 0<=1000000:=by
   rcases(show k=0∨k=1∨k=2 by omega)with rfl|rfl|rfl
   ·exact hx.1
   ·exact hx.2.1
   ·exact hx.2.2
  have hg:=Lu ih (by omega) (3*x.1+k).toNat;rw[ga,ID];exact ih.set (by omega) (by omega)
theorem wO{n:Nat}{l:List Ld}(OZ:As n l):∀i,i<=l.length->Md (fb n l i) (3000000*(i:Int))
 |0,_=>fun z hz=>by rw[bJ hz];decide
 |i+1,hi=>by
  have ih:=wO OZ i (by omega);have hm:l.getD i (0,0,0,0)∈l:=by rw[getD_some (aA (show i<l.length by omega))];exact ah _
  have:=Ck ih (by omega) (OZ.ld _ hm).2 3 (Nat.le_refl _);rw[fb];intro z hz;have:=this z hz;omega
theorem NP(hn:f.nodes.length<=20)(OZ:As f.nodes.length l):∀q∈eN f l,rl q<=1:=fun q hq=>by
 obtain⟨z,hz,rfl⟩:=aV.1 hq;have:=wO OZ l.length (Nat.le_refl _) z hz;have hl:=OZ.len;exact wL (by omega) (by omega)
theorem Fy{w:World}(hS:Old S w)(hf:eF w S vn vb vs f)(Ou:eY f=0)(PE:FrS f)(hu:dQ w S vu u)(Ut:∀q∈u,rl q<=40)(hu80:u.length<=80)(hul:u.length=3*f.nodes.length):
  eG PG N.xI #[.agg #[vn,vb,vs],vu] w (eL w fun v' w2=>cO w2 (Nf w w2) v' (fM (dY (cS f) f.cols) u)):=by
 have hw:=bR w;obtain⟨an,cn,ab,cb,aq,cq,rfl,rfl,rfl,RH,Re,SB⟩:=hf.shape;obtain⟨au,cu,rfl,hcu,hmu⟩:=dO.shape hu;unfold maxLen at hmu;have Td:=PE.Jy;have VW:=PE.Ma;have R5:=fK f;have hlen:=gH f;have hn4:=PE.n4;have OZ:=lC Ou;have XQ:f.cols=f.bars.length+f.cY.length:=rfl;refine AU (by simp) ?_;refine cH (cE hw (fun _ w' v w2=>cV w2 (Nf w' w2) v (dY (cS f) f.cols)) (fun O w' r=>Jg (oS hS r) (hf.cJ (kS hw r hS)) Ou) ?_);rintro O _ _ _ Og r he hw h_ hn;have hM:=cV.dF (S:=FF) hn r.cG (mN h_);clear r;clear hn;obtain⟨am,cm,rfl,-,-⟩:=cd.shape hM;refine cH (cE hw (fun _ w' v w2=>cO w2 (Nf w' w2) v (fM (dY (cS f) f.cols) u)) (fun O w' r=>Lv (S:=fun g=>S g∨Cf w Og g) (h:=41) (fun g hg=>hg.elim (oS hS r g) (Rel.old r (cF w) g)) (Cl.cL (cV.l (cV.rel hM r (cF w)) fun y hy q hq=>by have:=(rN PE) y hy q hq;omega) fun g hg=>.inr hg) (dQ.cL (dQ.cJ hu (kS hw r hS)) fun g hg=>.inl hg) (fun y hy=>by rw[gg _ _ y hy,hul,R5]) (rN PE) (fun q hq=>by have:=Ut q hq;omega) (by decide) (by omega) (by rw[ef];omega)) ?_);rintro O _ _ _ OX r he hw h_ hn;clear hM;have hT:=cO.dF (S:=FF) hn r.cG (mN h_);clear r;clear hn;obtain⟨at_,ct,rfl,-,-⟩:=dO.shape hT;exact rtn hw fun ρe we re=>cO.out hT re (cF w)
end Go.Ex
namespace Go.Ex
variable{M:List (List Rat)}{l:Nat}{g:Nat->Rat}{D q:Rat}
structure GQ(f:eu):Prop extends FrS f where
 fx:∀q∈eB f,rl q<=3
def Bl(b:List Rat):Prop:=∀t,Ib 1000000000 (b.getD t 0)
theorem Ib.w{B:Nat}(h:Ib B q)(k:B<=wt l):Ib (wt l) q:=h.mono k
theorem vW(a b:Nat)(h:a+b<=l):wt a*wt b<=wt l:=by rw[<-DJ];exact CC h
theorem Ib.DP{a b:Nat}{p:Rat}(h:Ib (wt a) p)(k:Ib (wt b) q)(hl:a+b<=l):Ib (wt l) (p*q):=(h.mul k).mono (vW a b hl)
theorem Ib.aA5{a n:Nat}(hn:n<=18)(h:∀k,k<n->Ib (wt a) (g k))(hl:a+1<=l):Ib (wt l) (dJ g n):=
 (Ib.sum n h).mono (aX (Nat.mul_le_mul_right _ (aX hn (by decide:18<=wt 1))) (vW 1 a (by omega)))
theorem Den.mono{K L:Nat}{l:List Rat}(h:Den K D l)(k:K<=L):Den L D l:=⟨h.1,h.2.1.mono k,fun t=>(h.2.2 t).mono k⟩
theorem Gs.mono{K L:Nat}(h:Gs K D M)(k:K<=L):Gs L D M:=⟨h.1,h.2.1.mono k,fun i t=>(h.2.2 i t).mono k⟩
theorem zq{a k:Nat}(h:a<=4294967295)(hk:1<=k):a<=wt k:=aX h (aX (by decide:4294967295<=wt 1) (CC hk))
theorem LF{k n R m:Nat}(hn:n<=R)(hR:R<=4294967295)(hl:k+1<=l)(hm:l*R+1<=m):ln (fB (wt k) n)<=m∧fB (wt k) n<=wt m:=by
 have h1:=Kl (B:=wt k) (l:=l) hn (aX (Nat.mul_le_mul_right _ (aX hR (by decide:4294967295<=wt 1))) (vW 1 k (by omega)));have h2:l*n+1<=m:=aX (Nat.succ_le_succ (bW _ hn)) hm;exact⟨aX h1 h2,Nat.le_of_lt (gT.1 (aX h1 h2))⟩
section
variable{f:eu}{b x x0 c u:List Rat}
theorem FrS.DQ(h:FrS f)(hb:Bl b):DM (eE (cS f) b) (f.cols+1) (wt 1):=fun j hj=>by
 rw[fP]at hj;have hw:=fun t=>nO (b:=b) (t:=t) (gH f) hj;refine⟨1,by decide,Ib.one oU,fun t ht=>?_⟩;rw[bz];rcases aS t f.cols with h1|h1
 ·rw[(hw t).1 h1];exact(h.s9 j t).w (by decide)
 ·rw[show t=f.cols by omega,(hw 0).2];exact(hb j).w (by decide)
theorem FrS.zt(h:FrS f):ln (fB (wt 1) (eE (cS f) b).length)<=25:=by
 rw[fP];exact(LF (l:=2) h.Ma (by decide) (by decide) (by decide)).1
theorem FrS.Nt(h:FrS f)(hb:Bl b)(h0:fz (cS f) b f.cols=some x0):∃D,Den (wt 25) D x0:=by
 obtain⟨D,hD⟩:=FH (gH f) (h.DQ hb) oU h0;exact⟨D,hD.mono (LF (l:=2) h.Ma (by decide) (by decide) (by decide)).2⟩
theorem FrS.ker(h:FrS f):∃D,Gs (wt 13) D (cX (cS f) f.cols):=by
 obtain⟨D,hD⟩:=II (gH f) h.oY (by decide);exact⟨D,hD.mono (Nat.le_of_lt (gT.1 h.size))⟩
theorem FrS.Nu(h:FrS f):(cX (cS f) f.cols).length<=18:=by
 have h1:=Gr (gH f);have h2:=h.Jy;omega
theorem zu(f:eu):(eB f).length=f.cols:=by simp[eB,eu.cols]
theorem GQ.aAo(h:GQ f):Den (wt 54) (mP (eB f) 18) (eB f):=Kw (by rw[zu];exact h.Jy) h.fx
theorem GQ.LG(h:GQ f)(hx:∃D,Den (wt 25) D x0):DM (eE (ee (cX (cS f) f.cols) (eB f)) (hJ (cX (cS f) f.cols) (eB f) x0)) ((cX (cS f) f.cols).length+1) (wt 106):=fun i hi=>by
 rw[fP,ee,aL]at hi;obtain⟨D0,a1,a2,a3⟩:=hx;obtain⟨D1,b1,b2,b3⟩:=h.ker;obtain⟨c1,c2,c3⟩:=h.aAo;have hn:=h.Jy;have hw:=fun t=>nO (b:=hJ (cX (cS f) f.cols) (eB f) x0) (t:=t) (oV (cX (cS f) f.cols) (eB f)) (j:=i) (by rw[ee,aL];exact hi);refine⟨mP (eB f) 18*(D1*D1)*D0,yV (yV c1 (yV b1 b1)) a1,(((c2.DP (b2.DP b2 (Nat.le_refl _)) (Nat.le_refl _)).DP a2 (by decide))),fun t ht=>?_⟩;rcases aS t (cX (cS f) f.cols).length with h1|h1
 ·rw[(hw t).1 h1,vT _ _ _ hi h1];unfold IK yW;rw[<-e8];refine Ib.aA5 hn (fun k _=>?_) (Nat.le_refl _);rw[show mP (eB f) 18*(D1*D1)*D0*((eB f).getD k 0*(dK (cX (cS f) f.cols) i k*dK (cX (cS f) f.cols) t k))=(mP (eB f) 18*(eB f).getD k 0)*((D1*dK (cX (cS f) f.cols) i k)*(D1*dK (cX (cS f) f.cols) t k))*D0 by grind];exact((c3 k).DP ((b3 i k).DP (b3 t k) (Nat.le_refl _)) (Nat.le_refl _)).DP a2 (by decide)
 ·rw[show t=(cX (cS f) f.cols).length by omega,(hw 0).2,FL _ _ _ _ hi];unfold yW;rw[show mP (eB f) 18*(D1*D1)*D0* -(dJ (fun t=>(eB f).getD t 0*(dK (cX (cS f) f.cols) i t*x0.getD t 0)) f.cols)= -(mP (eB f) 18*(D1*D1)*D0*dJ (fun t=>(eB f).getD t 0*(dK (cX (cS f) f.cols) i t*x0.getD t 0)) f.cols) by grind,<-e8];refine(Ib.aA5 hn (fun k _=>?_) (Nat.le_refl _)).neg;rw[show mP (eB f) 18*(D1*D1)*D0*((eB f).getD k 0*(dK (cX (cS f) f.cols) i k*x0.getD k 0))=(mP (eB f) 18*(eB f).getD k 0)*((D1*dK (cX (cS f) f.cols) i k)*D1)*(D0*x0.getD k 0) by grind];exact((c3 k).DP ((b3 i k).DP b2 (Nat.le_refl _)) (Nat.le_refl _)).DP (a3 k) (by decide)
theorem GQ.IP(h:GQ f){b:List Rat}:ln (fB (wt 106) (eE (ee (cX (cS f) f.cols) (eB f)) b).length)<=1927:=by
 rw[fP,ee,aL];exact(LF (l:=107) h.Nu (by decide) (by decide) (by decide)).1
theorem GQ.aAJ(h:GQ f)(hx:∃D,Den (wt 25) D x0)(hc:fz (ee (cX (cS f) f.cols) (eB f)) (hJ (cX (cS f) f.cols) (eB f) x0) (cX (cS f) f.cols).length=some c):∀q∈c,rl q<=1927:=fun q hq=>by
 obtain⟨D,hD⟩:=FH (oV _ _) (h.LG hx) oU hc;have h1:=hD.rl q hq;have h2:=h.IP (b:=[]);rw[fP]at h2;omega
theorem GQ.fxD(h:GQ f){t:Nat}(ht:t<f.cols):rl ((eB f).getD t 0)<=3:=by
 have hl:t<(eB f).length:=by rw[zu];exact ht
 rw[getD_some (aA hl)];exact h.fx _ (ah hl)
end
end Go.Ex
namespace Go.Ex
open Go Go.Sx Go.Proofs
end Go.Ex
namespace Go.Sx
open Go Go.Ex Go.Proofs
variable{cs:List Value}{T:Nat->Prop}{O:Nat->Sx.dw}
theorem Rel.Dy{H:Hp}{nx:Nat}{iv:Iv}{B:Nat}{w w':World}(r:Rel H nx iv B w O w'){id t m sz:Nat}(h:dD H id=some (.vec t sz cs))(hm:cs.length=m*sz)(Qx:m<=maxLen)(hs:0<sz)(h1:∀u∈cs,u.oneCell'=true)(hT:(O id).nil=false->T (O id).g):
  iR w' T sz ((At.w id m).den O) cs m:=by
 rcases r.fits h with⟨hn,rfl⟩|⟨hn,spare,h2,h3,h4⟩
 ·have Sm:m=0:=by
   rcases bN m with h|h
   ·exact h
   ·have:=Nat.mul_pos h hs;simp at hm;omega
  subst Sm;have R7:(At.w id 0).den O= .slice none 0 0:=by simp[At.den,hn]
  rw[R7];exact⟨aR _,by simp,by simp,none,0,rfl,Nat.le_refl _,fun j u h=>by cases h⟩
 ·have R7:(At.w id m).den O= .slice (some ⟨(O id).g,0,none⟩) m (O id).cap:=by simp[At.den,hn]
  rw[R7];refine⟨Qx,hm,h1,_,_,rfl,?_,fun j u hu=>⟨_,rfl,hT hn,?_⟩⟩
  ·rw[List.length_append,hm]at h3;exact bw (show m*sz<=(O id).cap*sz by omega) hs
  ·rw[dI,cell_of h2,aW,aK (aE.1 hu).1];exact hu
end Go.Sx
namespace Go.Ex
open Go Go.Sx Go.Proofs
variable{p:List Rat}{g:Nat}{S T:Nat->Prop}
section
variable{S:Nat->Prop}{H:Hp}{nx:Nat}{iv iv':Iv}{B n:Nat}{w w' w2:World}{O:Nat->Sx.dw}{v:Value}{qs:List Rat}
theorem Bs.fresh(r:Rel H nx iv B w O w')(hx:∀g,v.ownBlock=some g->g<w'.heap.size)(hg:Nf w' w2 g):Bs S B ((w'.heap.size,w2.heap.size)::iv) v g:=by
 rcases hg with hg|hg
 ·exact hg.elim
 ·exact⟨.inr ⟨by have:=r.cG;omega,_,_,aG,hg.1,hg.2⟩,fun e=>by have:=hx g e;omega⟩
theorem Bs.solved(r:Rel H nx iv B w O w')(hx:∀g,v.ownBlock=some g->g<w'.heap.size)(hT:∀g,T g->Bs S B iv v g)(hg:Cv T w'.heap.size [(w'.heap.size,w2.heap.size)] g):Bs S B ((w'.heap.size,w2.heap.size)::iv) v g:=by
 rcases hg with hg|⟨h1,lo,hi,h2,h3,h4⟩
 ·exact Bs.mono (fun p hp=>aC _ hp) (hT g hg)
 ·simp at h2;obtain⟨rfl,rfl⟩:=h2;exact Bs.fresh r hx (.inr ⟨h3,h4⟩)
end
section
variable{S:Nat->Prop}{H:Hp}{nx:Nat}{iv iv':Iv}{B:Nat}{w w' w2:World}{O:Nat->Sx.dw}{v v0:Value}{q:Rat}
theorem mA.rel(h:dA w (Bs S B iv v) v0 q)(r:Rel H nx iv B w O w')(hS:∀g,S g->g<B):dA w' (Bs S B iv v) v0 q:=dA.cJ h (Bs.same r hS)
theorem mA.fresh(h:dA w2 (Nf w' w2) v0 q)(r:Rel H nx iv B w O w')(hx:∀g,v.ownBlock=some g->g<w'.heap.size):dA w2 (Bs S B ((w'.heap.size,w2.heap.size)::iv) v) v0 q:=dA.cL h fun _ hg=>Bs.fresh r hx hg
theorem mA.cv(h:dA w (Bs S B iv v) v0 q):dA w (Cv S B iv) v0 q:=dA.cL h fun _ hg=>hg.1
end
section
variable{S:Nat->Prop}{H:Hp}{nx:Nat}{iv iv':Iv}{B:Nat}{w w' w2:World}{O:Nat->Sx.dw}{v v0:Value}{K:List (List Rat)}
theorem gR.rel(h:cV w (Bs S B iv v) v0 K)(r:Rel H nx iv B w O w')(hS:∀g,S g->g<B):cV w' (Bs S B iv v) v0 K:=cV.cJ h (Bs.same r hS)
theorem gR.cK(h:cV w (Bs S B iv v) v0 K)(r:Rel H nx iv B w O w')(hS:∀g,S g->g<B)(he:Ext w' w2)(hm:∀p,p∈iv->p∈iv'):cV w2 (Bs S B iv' v) v0 K:=
 cV.cL (cV.cJ (gR.rel h r hS) fun g hg=>he.block g (Rel.old r hS g hg.1)) fun _ hg=>Bs.mono hm hg
theorem gR.fresh(h:cV w2 (Nf w' w2) v0 K)(r:Rel H nx iv B w O w')(hx:∀g,v.ownBlock=some g->g<w'.heap.size):cV w2 (Bs S B ((w'.heap.size,w2.heap.size)::iv) v) v0 K:=cV.cL h fun _ hg=>Bs.fresh r hx hg
theorem gR.kept(h:cV w (Bs S B iv v) v0 K)(r:Rel H nx iv B w O w')(hS:∀g,S g->g<B)(hg:w'.grownBy w2 v.ownBlock):cV w2 (Bs S B iv v) v0 K:=cV.cJ h (Bs.kept r hS hg fun _ e=>e)
end
section
variable{S:Nat->Prop}{H:Hp}{nx:Nat}{iv iv':Iv}{B:Nat}{w w' w2:World}{O:Nat->Sx.dw}{v v0:Value}{xs:List Rat}
theorem eo.rel(h:cO w (Bs S B iv v) v0 xs)(r:Rel H nx iv B w O w')(hS:∀g,S g->g<B):cO w' (Bs S B iv v) v0 xs:=cO.cJ h (Bs.same r hS)
theorem eo.cK(h:cO w (Bs S B iv v) v0 xs)(r:Rel H nx iv B w O w')(hS:∀g,S g->g<B)(he:Ext w' w2)(hm:∀p,p∈iv->p∈iv'):cO w2 (Bs S B iv' v) v0 xs:=
 cO.cL (cO.cJ (eo.rel h r hS) fun g hg=>he.block g (Rel.old r hS g hg.1)) fun _ hg=>Bs.mono hm hg
theorem eo.fresh(h:cO w2 (Nf w' w2) v0 xs)(r:Rel H nx iv B w O w')(hx:∀g,v.ownBlock=some g->g<w'.heap.size):cO w2 (Bs S B ((w'.heap.size,w2.heap.size)::iv) v) v0 xs:=cO.cL h fun _ hg=>Bs.fresh r hx hg
theorem eo.cv(h:cO w (Bs S B iv v) v0 xs):cO w (Cv S B iv) v0 xs:=cO.cL h fun _ hg=>hg.1
theorem eo.kept(h:cO w (Bs S B iv v) v0 xs)(r:Rel H nx iv B w O w')(hS:∀g,S g->g<B)(hg:w'.grownBy w2 v.ownBlock):cO w2 (Bs S B iv v) v0 xs:=cO.cJ h (Bs.kept r hS hg fun _ e=>e)
end
section
variable{S:Nat->Prop}{H:Hp}{nx:Nat}{iv iv':Iv}{B:Nat}{w w' w2:World}{O:Nat->Sx.dw}{v v0:Value}{rv:List Value}{K:List (List Rat)}
theorem nB.rel(h:de w (Bs S B iv v) rv K)(r:Rel H nx iv B w O w')(hS:∀g,S g->g<B):de w' (Bs S B iv v) rv K:=de.cJ h (Bs.same r hS)
theorem nB.cK(h:de w (Bs S B iv v) rv K)(r:Rel H nx iv B w O w')(hS:∀g,S g->g<B)(he:Ext w' w2)(hm:∀p,p∈iv->p∈iv'):de w2 (Bs S B iv' v) rv K:=
 de.cL (de.cJ (nB.rel h r hS) fun g hg=>he.block g (Rel.old r hS g hg.1)) fun _ hg=>Bs.mono hm hg
end
section
variable{S:Nat->Prop}{H:Hp}{nx:Nat}{iv iv':Iv}{B:Nat}{w w' w2:World}{O:Nat->Sx.dw}{v v0:Value}{css:List (List Value)}{xs:List Rat}
theorem kA.rel(h:ew w (Bs S B iv v) css xs)(r:Rel H nx iv B w O w')(hS:∀g,S g->g<B):ew w' (Bs S B iv v) css xs:=ew.cJ h (Bs.same r hS)
theorem kA.cK(h:ew w (Bs S B iv v) css xs)(r:Rel H nx iv B w O w')(hS:∀g,S g->g<B)(he:Ext w' w2)(hm:∀p,p∈iv->p∈iv'):ew w2 (Bs S B iv' v) css xs:=
 ew.cL (ew.cJ (kA.rel h r hS) fun g hg=>he.block g (Rel.old r hS g hg.1)) fun _ hg=>Bs.mono hm hg
end
theorem Fz{st:List (List Rat)}{c x:List Rat}{a b:Nat}(hx:∀q∈x,rl q<=a)(hs:∀r∈st,∀q∈r,rl q<=b)(hc:∀q∈c,rl q<=b):∀i,∀q∈lY st c x i,rl q<=a+i*(2*b+5)
 |0,q,hq=>by have:=hx q hq;omega
 |i+1,q,hq=>by
  rw[lY]at hq;obtain⟨k,hk⟩:=aN hq;rw[List.getElem?_mapIdx]at hk;obtain⟨p,hp,rfl⟩:=Option.map_eq_some_iff.1 hk;have h1:=Fz hx hs hc i p (aD hp);have h0:rl 0<=2:=by decide
  have h2:rl (c.getD i 0)<=b+2:=by
   rcases aS i c.length with h|h
   ·rw[getD_some (aA h)];have:=hc _ (ah h);omega
   ·rw[jt h];omega
  have h3:rl ((st.getD i []).getD k 0)<=b+2:=by
   rcases aS i st.length with h|h
   ·rw[getD_some (d:=[]) (aA h)];rcases aS k (st[i]).length with h4|h4
    ·rw[getD_some (aA h4)];have:=hs _ (ah h) _ (ah h4);omega
    ·rw[jt h4];omega
   ·rw[show st.getD i []=[] by rw[List.getD,List.getElem?_eq_none h];rfl];exact aX h0 (Nat.le_add_left _ _)
  have h4:=mw p (c.getD i 0*(st.getD i []).getD k 0);have h5:=ic (c.getD i 0) ((st.getD i []).getD k 0);rw[Nat.add_mul];omega
set_option maxHeartbeats 2000000 in
set_option maxRecDepth 8000 in
theorem Jh{w:World}{vn vb vs u:Value}{f:eu}(hS:Old S w)(hf:eF w S vn vb vs f)(Ou:eY f=0)(RJ:GQ f)(hp:cO w S u p)(Pb:p.length=3*f.nodes.length)(Wj:∀q∈p,rl q<=100000)(hb:Bl (dR p (-1))):
  eG PG N.qI #[.agg #[vn,vb,vs],u] w (eL w fun v' w2=>(fz (cS f) (dR p (-1)) f.cols=none∧v'= .tuple #[.slice none 0 0,.bool false])∨∃x vx,zk (cS f) f.cols (fun t=>(eB f).getD t 0) (dR p (-1)) x∧v'= .tuple #[vx,.bool true]∧cO w2 (Nf w w2) vx x):=by
 have hw:=bR w;obtain⟨an,cn,ab,cb,aq,cq,rfl,rfl,rfl,RH,Re,SB⟩:=hf.shape;have OZ:=lC Ou;have hlen:=gH f;have R5:=fK f;have Td:=RJ.Jy;have VW:=RJ.Ma;have PA:=ui f;have Pw:f.cols=f.bars.length+f.cY.length:=rfl;obtain⟨ap,cp,rfl,hcp,hmp⟩:=dO.shape hp;have PQ:(dR p (-1)).length=(cS f).length:=by rw[dR,aL,R5];exact Pb
 have hw0:=RJ.DQ hb;have Ok:=RJ.zt (b:=dR p (-1));refine uU (by simp) ?_;refine cH (cE hw (fun _ w' v w2=>(∃vr,v= .agg #[vr,.int .i64 f.cols]∧cV w2 (Nf w' w2) vr (cS f))∧gX f.cols (cS f)∧Ht (cS f) 2) (fun O w' r=>oq (S:=S) (oS hS r) (hf.cJ (kS hw r hS)) OZ) ?_);rintro O _ _ _ Og r he hw h_ ⟨⟨vr,rfl,k1⟩,-,-⟩;have hM:=cV.dF (S:=FF) k1 r.cG (mN h_);clear r;obtain⟨am,cm,rfl,Rt,Ra⟩:=cd.shape hM;refine cQ hτ dx [.x 0,.x 1,.x 2,.x 3,.x 4,.x 5,.x 6,.x 7,.x 8,.x 9] (by kernel_rfl) (by kernel_rfl) ?_;refine cE hw (fun _ w' v w2=>dA w2 (Nf w' w2) v ((-1:Int):Rat)) (fun O w' r=>jx (-1) w' (by decide) (by decide)) ?_;rintro O _ v2 _ OX r he hw h_ hn;replace hM:=cV.cK hM r (cF w) he (mC h_);have hd:=hn.dF (S:=FF) r.cG (mN h_);clear r;obtain⟨A0,A1,A2,A3,A4,A5,A6,A7,rfl⟩:=hd.shape;refine cE hw (fun _ w' v w2=>eR w2 FF w'.heap.size [(w'.heap.size,w2.heap.size)] v p.length (dR p (-1))) (fun O w' r=>wH (S:=Cv S w.heap.size OX) (Rel.old r hS) (dQ.cL (cO.l (cO.cJ hp (kS hw r hS)) fun q hq=>by have:=Wj q hq;omega) fun g hg=>.inl hg) (((hd.rel r (cF w)).l (by decide)).cL fun g hg=>EP hg) (by omega)) ?_;rintro O _ _ _ Oh r he hw h_ hn;replace hM:=cV.cK hM r (cF w) he (mC h_);clear hd;have hB:=hn.dF (S:=FF) r.cG (mN h_);clear r;clear hn;obtain⟨a3,c3,rfl,hc3⟩:=hB.row.form;refine cM (Φ:=fun _ w' v w2=>(fz (cS f) (dR p (-1)) f.cols=none∧v= .tuple #[.slice none 0 0,.bool false])∨∃x vx,fz (cS f) (dR p (-1)) f.cols=some x∧v= .tuple #[vx,.bool true]∧eR w2 (Cf w Oh) w'.heap.size [(w'.heap.size,w2.heap.size)] vx f.cols x) (fun O w' r=>vS (M:=cS f) (b:=dR p (-1)) hlen hw0▸Fi (C:=Cf w Oh) (S:=Cf w Oh) (h:=30) (Rel.old r (cF w)) (Rel.old r (cF w)) (cV.rel hM r (cF w)) ((hB.rel r (cF w)).c) PQ hlen (by omega) (by omega) (nh (jE hlen) hw0 oU (by rw[qA]at *;omega)) (by decide)) ?_;rintro O Ro v4 Qh r he hb (⟨SD,rfl⟩|⟨x0,vx,Rg,rfl,k2⟩)
 ·replace hw:=hw.tr hb;clear r he hb;exact rtn hw fun ρe we re=>.inl ⟨SD,rfl⟩
 replace hw:=hw.tr hb;replace hM:=cV.cK (iv':=(Ro.heap.size,Qh.heap.size)::Oh) hM r (cF w) he fun x hx=>aC _ hx;have hX:=k2.aAv r.cG;clear r he hb k2 hB;generalize (Ro.heap.size,Qh.heap.size)::Oh=On at*
 obtain⟨ax,cx,rfl,UW⟩:=hX.row.form;obtain⟨hx0l,-⟩:=oT hlen Rg;have hx0D:=RJ.Nt hb Rg;have Wk:∀q∈x0,rl q<=26:=fun q hq=>by
  obtain⟨D,hD⟩:=hx0D;have h1:=hD.rl q hq;have h2:ln (wt 25)<=26:=gT.2 (Hu (by decide));omega
 have hw1:=RJ.LG hx0D;have Ov:=RJ.IP (b:=hJ (cX (cS f) f.cols) (eB f) x0);obtain⟨c,hc,Pf,hfrc⟩:=RJ.aA4.force (fl:=eB f) Rg;have TJ:=RJ.aAJ hx0D hc;have hKr:∀r∈cX (cS f) f.cols,∀q∈r,rl q<=14:=fun r hr q hq=>by
  obtain⟨D,hD⟩:=RJ.ker;have h1:=hD.rl r hr q hq;have h2:ln (wt 13)<=14:=gT.2 (Hu (by decide));omega
 have hKl:=jG (cS f) f.cols;have hK18:=RJ.Nu;have hSl:=oV (cX (cS f) f.cols) (eB f);have hfx:=RJ.fx;have Te:=vS (M:=ee (cX (cS f) f.cols) (eB f)) (b:=hJ (cX (cS f) f.cols) (eB f) x0) hSl hw1;rw[hc]at Te;have hredB:=nh (M:=eE (ee (cX (cS f) f.cols) (eB f)) (hJ (cX (cS f) f.cols) (eB f) x0)) (h:=1930) (jE hSl) hw1 oU (by omega);refine cQ hτ dx [.x 0,.x 2,.x 1,.x 3,.x 4,.x 5] (by kernel_rfl) (by kernel_rfl) ?_;refine cM (Φ:=fun _ w' v w2=>cV w2 (Nf w' w2) v (cX (cS f) f.cols)) (fun O w' r=>s8 (M:=cS f) (n:=f.cols) hlen RJ.oY▸tI (C:=Cf w On) (S:=Cf w On) (h:=20) (Rel.old r (cF w)) (Rel.old r (cF w)) (cV.rel hM r (cF w)) hlen (by omega) (by omega) (nh hlen RJ.oY (by decide) (by have:=RJ.size;omega)) (tJ hlen RJ.oY (by decide) (by have:=RJ.size;omega)) (by decide)) ?_;rintro O Tf v5 UH r he Pa hn;replace hw:=hw.tr Pa;have Qz:∀g,(Value.slice ax f.cols cx).ownBlock=some g->g<Tf.heap.size:=fun g e=>Rel.old r (cF w) g (hX.new g e);clear hM;replace hX:=hX.cK (iv':=(Tf.heap.size,UH.heap.size)::On) r (cF w) he fun x hx=>aC _ hx;have hK:=gR.fresh (S:=FF) (v:=(.slice ax f.cols cx)) hn r Qz;clear r he Pa Qz hn;generalize (Tf.heap.size,UH.heap.size)::On=PN at*
 obtain⟨ak,ck,rfl,hck,WI⟩:=cd.shape hK;refine cM (Φ:=fun _ w' v w2=>dQ w2 (Nw S w' w2) v (eB f)) (fun O w' r=>Jb (S:=S) (oS hS r) (hf.cJ (kS hw r hS)) OZ) ?_;rintro O SQ v6 S6 r he Pa hn;replace hw:=hw.tr Pa;have Qz:∀g,(Value.slice ax f.cols cx).ownBlock=some g->g<SQ.heap.size:=fun g e=>Rel.old r (cF w) g (hX.new g e);replace hX:=hX.cK (iv':=(SQ.heap.size,S6.heap.size)::PN) r (cF w) he fun x hx=>aC _ hx;replace hK:=gR.cK (iv':=(SQ.heap.size,S6.heap.size)::PN) hK r (cF w) he fun x hx=>aC _ hx;have hL:=dQ.cL (S':=Cv S w.heap.size ((SQ.heap.size,S6.heap.size)::PN)) hn fun g hg=>hg.elim .inl fun h=>.inr ⟨by have:=r.cG;omega,_,_,aG,h.1,h.2⟩;clear r he Pa Qz hn;generalize (SQ.heap.size,S6.heap.size)::PN=RI at*
 obtain⟨al,cl,rfl,VT,Qt⟩:=dO.shape hL;rw[PA]
 refine⟨Nat×List Value×List (List Value)×World×Iv,fun z=>⟨[(7,sV ax f.cols cx),(9,.o (.v (.slice ak (cX (cS f) f.cols).length ck))),(10,sV al f.cols cl),(11,pP 2 0),(43,.o (.v (.slice ak (cX (cS f) f.cols).length ck))),(44,.o (.v (.int .i64 (cX (cS f) f.cols).length))),(12,.o (.w 4 z.2.2.1.length)),(45,iN z.1)],[(2,.box T.du [.w 3 z.2.1.length,.v (.int .i64 (cX (cS f) f.cols).length)]),(3,.vec T.iQ 1 z.2.1),(4,.vec T.Rat 4 z.2.2.1.flatten)],5,z.2.2.2.2,z.2.2.2.1⟩,fun z=>(cX (cS f) f.cols).length-z.1,
  fun z=>z.1<=(cX (cS f) f.cols).length∧dq w.heap.size w z.2.2.2.1∧eR z.2.2.2.1 FF w.heap.size z.2.2.2.2 (.slice ax f.cols cx) f.cols x0∧cV z.2.2.2.1 (Bs FF w.heap.size z.2.2.2.2 (.slice ax f.cols cx)) (.slice ak (cX (cS f) f.cols).length ck) (cX (cS f) f.cols)∧dQ z.2.2.2.1 (Cv S w.heap.size z.2.2.2.2) (.slice al f.cols cl) (eB f)∧de z.2.2.2.1 (Bs FF w.heap.size z.2.2.2.2 (.slice ax f.cols cx)) z.2.1 ((ee (cX (cS f) f.cols) (eB f)).take z.1)∧ew z.2.2.2.1 (Bs FF w.heap.size z.2.2.2.2 (.slice ax f.cols cx)) z.2.2.1 ((hJ (cX (cS f) f.cols) (eB f) x0).take z.1),?_,?_⟩
 ·intro O w' r3;exact⟨(0,[],[],w',_),⟨aR _,hw.tr r3.cU,hX.rel r3 (cF w),gR.rel hK r3 (cF w),by have:=dQ.rel hL r3 hS;rw[PA]at this;exact this,by simp[de],ew.nil⟩,Sub.Dk 2 0 T.iQ 1 rfl rfl (by simp[kF,SV.sc,At.sc,fm]) r3 fun ρ1 r1=>Sub.nil 12 T.Rat 4 rfl (by simp[kF,SV.sc,At.sc,fm]) r1 fun ρ2 r2=>Sub.gn [] r2⟩
 clear hw hX hK hL;rintro⟨i,rv,rc,w7,iv⟩ ⟨hi,hw,hX,hK,hL,hR,hG⟩;dsimp only at hi hw hX hK hL hR hG ⊢;have Pm:rv.length=i:=by rw[hR.1,ai,ee,aL];omega
 have hgl:rc.length=i:=by rw[hG.len,ai,hJ,aL];omega
 have hgf:=ei hG.four;refine dN.mk ?_ ?_<;>intro OU
 ·have OU:i<(cX (cS f) f.cols).length:=by have:=aI OU;omega
  obtain⟨s,hs⟩:∃s,(cX (cS f) f.cols)[i]? =some s:=⟨_,aA OU⟩
  have Rc:s.length=f.cols:=hKl s (aD hs);have Ul:=hKr s (aD hs);obtain⟨adm1,um,ham1,PD,km1,kn1⟩:=cd.load hK hs;obtain⟨as1,cs1,rfl,-,-⟩:=dO.shape PD;obtain⟨bent,Sz⟩:∃b,mO s (eB f)=b:=⟨_,rfl⟩
  have Th:bent.length=f.cols:=by rw[<-Sz,uo,Rc]
  have VY:∀q∈bent,rl q<=20:=fun q hq=>by
   rw[<-Sz]at hq;obtain⟨t,ht⟩:=aN hq;have htl2:t<s.length:=by have:=(aE.1 ht).1;rw[uo]at this;exact this
   have h1:=zl (a:=s) (b:=eB f) htl2;rw[getD_some ht]at h1;have h2:=ic (s.getD t 0) ((eB f).getD t 0);have h3:=Ul (s.getD t 0) (by rw[getD_some (aA htl2)];exact ah _);have h4:=RJ.fxD (t:=t) (by omega);rw[h1];omega
  refine⟨adm1,ham1,by omega,.slice as1 s.length cs1,fun O w' r=>?_,?_⟩
  ·rw[aF,cI (w:=w7) (w2:=w') (by rw[dC];exact Rel.same r (cF w) km1.1)];exact kn1
  refine cH (cM (Φ:=fun _ w' v w2=>cO w2 (Nf w' w2) v bent) (fun O w' r=>(Sz▸NG (S:=Cv S w.heap.size iv) (Rel.old r hS) (dQ.cL (cO.l (eo.cv (eo.rel PD r (cF w))) fun q hq=>by have:=Ul q hq;omega) fun g hg=>EP hg) (dQ.rel hL r hS) (by rw[Rc,PA];exact Nat.le_refl _) (by omega)).mono fun _ _ ⟨v2,e1,e2,e3⟩=>⟨v2,e1,e2,cO.cL e3.c fun g hg=>hg.elim (fun h=>h.elim) fun⟨_,lo,hi,h2,h3,h4⟩=>by
   simp at h2;obtain⟨rfl,rfl⟩:=h2
   exact .inr ⟨h3,h4⟩⟩) ?_)
  rintro O Uu v8 VZ r he Pa hn;replace hw:=hw.tr Pa;have Qz:∀g,(Value.slice ax f.cols cx).ownBlock=some g->g<Uu.heap.size:=fun g e=>Rel.old r (cF w) g (hX.new g e);replace hX:=hX.cK (iv':=(Uu.heap.size,VZ.heap.size)::iv) r (cF w) he fun x hx=>aC _ hx;replace hK:=gR.cK (iv':=(Uu.heap.size,VZ.heap.size)::iv) hK r (cF w) he fun x hx=>aC _ hx;replace hL:=dQ.cK (iv':=(Uu.heap.size,VZ.heap.size)::iv) hL r hS he fun x hx=>aC _ hx;replace hR:=nB.cK (iv':=(Uu.heap.size,VZ.heap.size)::iv) hR r (cF w) he fun x hx=>aC _ hx;replace hG:=kA.cK (iv':=(Uu.heap.size,VZ.heap.size)::iv) hG r (cF w) he fun x hx=>aC _ hx;have hE:=eo.fresh (S:=FF) (v:=(.slice ax f.cols cx)) hn r Qz;clear r he Pa Qz hn;generalize (Uu.heap.size,VZ.heap.size)::iv=SP at*
  clear PD;obtain⟨ae,ce,rfl,-,-⟩:=dO.shape hE;rw[Th]
  refine⟨Nat×List (List Value)×World×Iv,fun z=>⟨[(7,sV ax f.cols cx),(9,.o (.v (.slice ak (cX (cS f) f.cols).length ck))),(10,sV al f.cols cl),(11,pP 2 0),(43,.o (.v (.slice ak (cX (cS f) f.cols).length ck))),(44,.o (.v (.int .i64 (cX (cS f) f.cols).length))),(12,.o (.w 4 rc.length)),(45,iN i),(15,sV ae f.cols ce),(52,.o (.v (.slice ak (cX (cS f) f.cols).length ck))),(53,.o (.v (.int .i64 (cX (cS f) f.cols).length))),(16,.o (.w 5 z.2.1.length)),(54,iN z.1)],[(5,.vec T.Rat 4 z.2.1.flatten),(2,.box T.du [.w 3 rv.length,.v (.int .i64 (cX (cS f) f.cols).length)]),(3,.vec T.iQ 1 rv),(4,.vec T.Rat 4 rc.flatten)],6,z.2.2.2,z.2.2.1⟩,fun z=>(cX (cS f) f.cols).length-z.1,
   fun z=>z.1<=(cX (cS f) f.cols).length∧dq w.heap.size w z.2.2.1∧(eR z.2.2.1 FF w.heap.size z.2.2.2 (.slice ax f.cols cx) f.cols x0∧cV z.2.2.1 (Bs FF w.heap.size z.2.2.2 (.slice ax f.cols cx)) (.slice ak (cX (cS f) f.cols).length ck) (cX (cS f) f.cols)∧dQ z.2.2.1 (Cv S w.heap.size z.2.2.2) (.slice al f.cols cl) (eB f)∧de z.2.2.1 (Bs FF w.heap.size z.2.2.2 (.slice ax f.cols cx)) rv ((ee (cX (cS f) f.cols) (eB f)).take i)∧ew z.2.2.1 (Bs FF w.heap.size z.2.2.2 (.slice ax f.cols cx)) rc ((hJ (cX (cS f) f.cols) (eB f) x0).take i)∧cO z.2.2.1 (Bs FF w.heap.size z.2.2.2 (.slice ax f.cols cx)) (.slice ae f.cols ce) bent)∧ew z.2.2.1 (Bs FF w.heap.size z.2.2.2 (.slice ax f.cols cx)) z.2.1 (((cX (cS f) f.cols).map fun r=>dT bent r f.cols).take z.1),?_,?_⟩
  ·intro O w' r3;exact⟨(0,[],w',_),⟨aR _,hw.tr r3.cU,⟨hX.rel r3 (cF w),gR.rel hK r3 (cF w),dQ.rel hL r3 hS,nB.rel hR r3 (cF w),kA.rel hG r3 (cF w),by have:=eo.rel hE r3 (cF w);rw[Th]at this;exact this⟩,ew.nil⟩,Sub.nil 16 T.Rat 4 rfl (by simp[kF,SV.sc,At.sc,fm]) r3 fun ρ2 r2=>Sub.gn [] r2⟩
  clear hw hX hK hL hR hG hE;rintro⟨j,css,w8,iv⟩ ⟨hj,hw,⟨hX,hK,hL,hR,hG,hE⟩,hD⟩;dsimp only at hj hw hX hK hL hR hG hE hD ⊢;have S3:css.length=j:=by rw[hD.len,ai,aL];omega
  have hdf:=ei hD.four;refine dN.mk ?_ ?_<;>intro Pt
  ·have Pt:j<(cX (cS f) f.cols).length:=by have:=aI Pt;omega
   obtain⟨t,ht⟩:∃s,(cX (cS f) f.cols)[j]? =some s:=⟨_,aA Pt⟩
   have htl2:t.length=f.cols:=hKl t (aD ht);have htr:=hKr t (aD ht);obtain⟨adm2,um2,ham2,PD,km2,kn2⟩:=cd.load hK ht;obtain⟨as2,cs2,rfl,-,-⟩:=dO.shape PD;refine⟨adm2,ham2,by omega,.slice as2 t.length cs2,fun O w' r=>?_,?_⟩
   ·rw[aF,cI (w:=w8) (w2:=w') (by rw[dC];exact Rel.same r (cF w) km2.1)];exact kn2
   refine cH (cM (Φ:=fun _ w' v w2=>dA w2 (Nf w' w2) v (dT bent t f.cols)) (fun O w' r=>Th▸Al (S:=Cf w iv) (h:=21) (Rel.old r (cF w)) (cO.l (by have:=eo.cv (eo.rel hE r (cF w));rw[<-Th]at this;exact this) fun q hq=>by have:=VY q hq;omega) (cO.l (eo.cv (eo.rel PD r (cF w))) fun q hq=>by have:=htr q hq;omega) (by omega) (fun q hq=>by have:=VY q hq;omega) (fun q hq=>by have:=htr q hq;omega) (by decide) (by omega)) ?_);rintro O Ti v9 UI r he Pa hn;replace hw:=hw.tr Pa;have Qz:∀g,(Value.slice ax f.cols cx).ownBlock=some g->g<Ti.heap.size:=fun g e=>Rel.old r (cF w) g (hX.new g e);replace hX:=hX.cK (iv':=(Ti.heap.size,UI.heap.size)::iv) r (cF w) he fun x hx=>aC _ hx;replace hK:=gR.cK (iv':=(Ti.heap.size,UI.heap.size)::iv) hK r (cF w) he fun x hx=>aC _ hx;replace hL:=dQ.cK (iv':=(Ti.heap.size,UI.heap.size)::iv) hL r hS he fun x hx=>aC _ hx;replace hR:=nB.cK (iv':=(Ti.heap.size,UI.heap.size)::iv) hR r (cF w) he fun x hx=>aC _ hx;replace hG:=kA.cK (iv':=(Ti.heap.size,UI.heap.size)::iv) hG r (cF w) he fun x hx=>aC _ hx;replace hE:=eo.cK (iv':=(Ti.heap.size,UI.heap.size)::iv) hE r (cF w) he fun x hx=>aC _ hx;replace hD:=kA.cK (iv':=(Ti.heap.size,UI.heap.size)::iv) hD r (cF w) he fun x hx=>aC _ hx;have hd:=mA.fresh (S:=FF) (v:=(.slice ax f.cols cx)) hn r Qz;clear r he Pa Qz hn;generalize (Ti.heap.size,UI.heap.size)::iv=TL at*
   obtain⟨C0,C1,C2,C3,C4,C5,C6,C7,rfl⟩:=hd.shape;clear PD;have hD2:=hD.push (cs:=[.bool C0,.slice C1 C2 C3,.bool C4,.slice C5 C6 C7]) (q:=dT bent t f.cols) ⟨_,_,_,_,_,_,_,_,rfl,hd⟩ rfl;rw[show (((cX (cS f) f.cols).map fun r=>dT bent r f.cols).take j)++[dT bent t f.cols]=((cX (cS f) f.cols).map fun r=>dT bent r f.cols).take (j+1) by rw[List.take_add_one,aM,ht];rfl]at hD2;have Qy:css.flatten++([.bool C0,.slice C1 C2 C3,.bool C4,.slice C5 C6 C7]:List Value)=(css++([[.bool C0,.slice C1 C2 C3,.bool C4,.slice C5 C6 C7]]:List (List Value))).flatten:=by simp
   refine .inl ?_;refine⟨by omega,by omega,by unfold maxLen;omega,((j+1:Nat):Int),wo,?_⟩;intro ρ3 w6 r3;exact⟨(j+1,css++[[.bool C0,.slice C1 C2 C3,.bool C4,.slice C5 C6 C7]],w6,_),⟨Pt,hw.tr r3.cU,⟨hX.rel r3 (cF w),gR.rel hK r3 (cF w),dQ.rel hL r3 hS,nB.rel hR r3 (cF w),kA.rel hG r3 (cF w),eo.rel hE r3 (cF w)⟩,kA.rel hD2 r3 (cF w)⟩,Sub.gn [(5,7)] r3 ⟨by dsimp only;rw[<-Qy];rfl,rfl,rfl,rfl,trivial⟩ ⟨rfl,rfl,rfl,rfl,rfl,rfl,rfl,rfl,rfl,rfl,rfl,by dsimp only;rw[List.length_append,List.length_singleton];rfl,rfl,trivial⟩,by dsimp only;omega⟩
  have Pt:j=(cX (cS f) f.cols).length:=by have:=aH Pt;omega
  rw[Pt,List.take_of_length_le (by rw[aL];exact Nat.le_refl _)]at hD;have OV:(ee (cX (cS f) f.cols) (eB f)).take i++[((cX (cS f) f.cols).map fun r=>dT bent r f.cols)]=(ee (cX (cS f) f.cols) (eB f)).take (i+1):=by
   rw[List.take_add_one,ee,aM,hs,<-Sz,<-Rc];rfl
  have hrgt:(hJ (cX (cS f) f.cols) (eB f) x0).take i++[-(dT bent x0 f.cols)]=(hJ (cX (cS f) f.cols) (eB f) x0).take (i+1):=by
   rw[List.take_add_one,hJ,aM,hs,<-Sz,<-Rc];rfl
  refine oF hτ (id3:=6) (id2:=5) (tH:=[(2,.box T.du [.w 3 rv.length,.v (.int .i64 (cX (cS f) f.cols).length)]),(3,.vec T.iQ 1 rv),(4,.vec T.Rat 4 rc.flatten)]) rfl rfl rfl rfl (by simp) ⟨rfl,rfl,rfl,trivial⟩ rfl rfl (fun O w' r r2 SN=>?_);have Qv:∀g,(Value.slice ax f.cols cx).ownBlock=some g->∀id b,dD [(6,.box T.iQ [.w 5 css.length]),(5,.vec T.Rat 4 css.flatten),(2,.box T.du [.w 3 rv.length,.v (.int .i64 (cX (cS f) f.cols).length)]),(3,.vec T.iQ 1 rv),(4,.vec T.Rat 4 rc.flatten)] id=some b->(O id).nil=false->(O id).g≠g:=fun g e id b h1 h2=>Rel.not r (cF w) (hX.new g e) id b h1 h2;have SO:=r.low 6 _ rfl (r.fits (id:=6) rfl).1;have hB3:Bs FF w.heap.size (((O 6).g,(O 6).g+1)::kJ (O 5) iv) (.slice ax f.cols cx) (O 6).g:=⟨.inr ⟨SO.1,_,_,aG,Nat.le_refl _,bY _⟩,fun e=>Qv _ e 6 _ rfl (r.fits (id:=6) rfl).1 rfl⟩
  have QK:∀p,p∈iv->p∈((O 6).g,(O 6).g+1)::kJ (O 5) iv:=fun p hp=>aC _ (nJ p hp);have XT:=ew.list ((kA.rel hD r (cF w)).cL fun g hg=>Bs.mono QK hg) (r.Dy (T:=Bs FF w.heap.size (((O 6).g,(O 6).g+1)::kJ (O 5) iv) (.slice ax f.cols cx)) (id:=5) (sz:=4) (m:=css.length) rfl hdf (by unfold maxLen;omega) (by decide) hD.one fun hn=>⟨.inr ⟨(r.low 5 _ rfl hn).1,_,_,aC _ (Ee hn),Nat.le_refl _,bY _⟩,fun e=>Qv _ e 5 _ rfl hn rfl⟩);have Po:((At.w 5 css.length).den O).oneCell'=true:=At.Ls;have Oz:=hw.tr r.cU;replace hX:eR w' FF w.heap.size (((O 6).g,(O 6).g+1)::kJ (O 5) iv) (.slice ax f.cols cx) f.cols x0:=by
   have h1:=hX.rel r (cF w);exact⟨h1.row.cL fun g hg=>⟨hg.1.mono QK,hg.2⟩,fun g hg=>(h1.new g hg).mono QK⟩
  replace hK:=cV.cL (gR.rel hK r (cF w)) fun g hg=>Bs.mono QK hg;replace hL:=dQ.cL (dQ.rel hL r hS) fun g hg=>hg.mono QK;replace hR:=de.cL (nB.rel hR r (cF w)) fun g hg=>Bs.mono QK hg;replace hG:=ew.cL (kA.rel hG r (cF w)) fun g hg=>Bs.mono QK hg;replace hE:=cO.cL (eo.rel hE r (cF w)) fun g hg=>Bs.mono QK hg;clear r2 SO hD Qv hw;generalize (At.w 5 css.length).den O=ur at*
  generalize (O 6).g=gy at*
  generalize (gy,gy+1)::kJ (O 5) iv=ivg at*
  clear r;refine⟨[ur],rfl,by simpa using Po,fun ρ2 w2 r2 _=>⟨_,rfl,fun j u hu=>?_⟩,?_⟩
  ·have h5:=Rel.same r2 (gq _) hB3.1;rw[dI,cell_of (h5.trans SN)];rcases j with _|j
   ·exact hu
   ·cases hu
  refine⟨by simp,by omega,by unfold maxLen;omega,?_⟩;have Ri:=hR.push Po XT;rw[OV]at Ri;clear XT hR SN hB3;rename_i wg _;have hw:=Oz;clear Oz;refine cH (cM (Φ:=fun _ w' v w2=>dA w2 (Nf w' w2) v (dT bent x0 f.cols)) (fun O w' r=>Th▸Al (S:=Cf w ivg) (h:=30) (Rel.old r (cF w)) (cO.l (by have:=eo.cv (eo.rel hE r (cF w));rw[<-Th]at this;exact this) fun q hq=>by have:=VY q hq;omega) (cO.l (by have:=(hX.rel r (cF w)).c;rw[<-Th]at this;exact this) fun q hq=>by have:=Wk q hq;omega) (by omega) (fun q hq=>by have:=VY q hq;omega) (fun q hq=>by have:=Wk q hq;omega) (by decide) (by omega)) ?_);rintro O SR v11 Si r he Pa hn;replace hw:=hw.tr Pa;have Qz:∀g,(Value.slice ax f.cols cx).ownBlock=some g->g<SR.heap.size:=fun g e=>Rel.old r (cF w) g (hX.new g e);replace hX:=hX.cK (iv':=(SR.heap.size,Si.heap.size)::ivg) r (cF w) he fun x hx=>aC _ hx;replace hK:=gR.cK (iv':=(SR.heap.size,Si.heap.size)::ivg) hK r (cF w) he fun x hx=>aC _ hx;replace hL:=dQ.cK (iv':=(SR.heap.size,Si.heap.size)::ivg) hL r hS he fun x hx=>aC _ hx;replace Ri:=nB.cK (iv':=(SR.heap.size,Si.heap.size)::ivg) Ri r (cF w) he fun x hx=>aC _ hx;replace hG:=kA.cK (iv':=(SR.heap.size,Si.heap.size)::ivg) hG r (cF w) he fun x hx=>aC _ hx;replace hE:=eo.cK (iv':=(SR.heap.size,Si.heap.size)::ivg) hE r (cF w) he fun x hx=>aC _ hx;have hd:=mA.fresh (S:=FF) (v:=(.slice ax f.cols cx)) hn r Qz;clear r he Pa Qz hn;generalize (SR.heap.size,Si.heap.size)::ivg=RS at*
  obtain⟨E0,E1,E2,E3,E4,E5,E6,E7,rfl⟩:=hd.shape;have hdr:=ke (h:=30) (xs:=bent) (ys:=x0) (fun q hq=>by have:=VY q hq;omega) (fun q hq=>by have:=Wk q hq;omega) (by decide) f.cols;refine cH (cM (Φ:=fun _ w' v w2=>dA w2 (Nf w' w2) v (-(dT bent x0 f.cols))) (fun O w' r=>L0 (S:=Cf w RS) (Rel.old r (cF w)) (dA.l (mA.cv (mA.rel hd r (cF w))) (by omega))) ?_);rintro O Sj v12 TA r he Pa hn;replace hw:=hw.tr Pa;have Qz:∀g,(Value.slice ax f.cols cx).ownBlock=some g->g<Sj.heap.size:=fun g e=>Rel.old r (cF w) g (hX.new g e);replace hX:=hX.cK (iv':=(Sj.heap.size,TA.heap.size)::RS) r (cF w) he fun x hx=>aC _ hx;replace hK:=gR.cK (iv':=(Sj.heap.size,TA.heap.size)::RS) hK r (cF w) he fun x hx=>aC _ hx;replace hL:=dQ.cK (iv':=(Sj.heap.size,TA.heap.size)::RS) hL r hS he fun x hx=>aC _ hx;replace Ri:=nB.cK (iv':=(Sj.heap.size,TA.heap.size)::RS) Ri r (cF w) he fun x hx=>aC _ hx;replace hG:=kA.cK (iv':=(Sj.heap.size,TA.heap.size)::RS) hG r (cF w) he fun x hx=>aC _ hx;replace hE:=eo.cK (iv':=(Sj.heap.size,TA.heap.size)::RS) hE r (cF w) he fun x hx=>aC _ hx;clear hd;have Pg:=mA.fresh (S:=FF) (v:=(.slice ax f.cols cx)) hn r Qz;clear r he Pa Qz hn;generalize (Sj.heap.size,TA.heap.size)::RS=Va at*
  obtain⟨F0,F1,F2,F3,F4,F5,F6,F7,rfl⟩:=Pg.shape;have VU:=hG.push (cs:=[.bool F0,.slice F1 F2 F3,.bool F4,.slice F5 F6 F7]) (q:= -(dT bent x0 f.cols)) ⟨_,_,_,_,_,_,_,_,rfl,Pg⟩ rfl;rw[hrgt]at VU;have Qy:rc.flatten++([.bool F0,.slice F1 F2 F3,.bool F4,.slice F5 F6 F7]:List Value)=(rc++([[.bool F0,.slice F1 F2 F3,.bool F4,.slice F5 F6 F7]]:List (List Value))).flatten:=by simp
  refine .inl ?_;refine⟨by omega,by omega,by unfold maxLen;omega,((i+1:Nat):Int),wo,?_⟩;intro ρ3 w6 r3;exact⟨(i+1,rv++[ur],rc++[[.bool F0,.slice F1 F2 F3,.bool F4,.slice F5 F6 F7]],w6,_),⟨OU,hw.tr r3.cU,hX.rel r3 (cF w),gR.rel hK r3 (cF w),dQ.rel hL r3 hS,nB.rel Ri r3 (cF w),kA.rel VU r3 (cF w)⟩,Sub.gn [(3,7),(4,9)] r3 ⟨by dsimp only;rw[List.length_append,List.length_singleton];rfl,rfl,by dsimp only;rw[<-Qy];rfl,trivial⟩ ⟨rfl,rfl,rfl,rfl,rfl,rfl,by dsimp only;rw[List.length_append,List.length_singleton];rfl,rfl,trivial⟩,by dsimp only;omega⟩
 have OU:i=(cX (cS f) f.cols).length:=by have:=aH OU;omega
 rw[OU,List.take_of_length_le (by rw[ee,aL];exact Nat.le_refl _)]at hR;rw[OU,List.take_of_length_le (by rw[hJ,aL];exact Nat.le_refl _)]at hG;have SI:rv.length=(ee (cX (cS f) f.cols) (eB f)).length:=hR.1
 refine cH (cM (Φ:=fun _ w' v w2=>∃vc,v= .tuple #[vc,.bool true]∧eR w2 (Bs FF w.heap.size iv (.slice ax f.cols cx)) w'.heap.size [(w'.heap.size,w2.heap.size)] vc (cX (cS f) f.cols).length c) (fun O w' r=>(CZ (C:=(fun g=>g<w'.heap.size)) (D:=(fun g=>g<w'.heap.size)) (S:=Bs FF w.heap.size iv (.slice ax f.cols cx)) (M:=ee (cX (cS f) f.cols) (eB f)) (b:=hJ (cX (cS f) f.cols) (eB f) x0) (cols:=(cX (cS f) f.cols).length) (h:=1930) (fun g hg=>hg) (fun g hg=>hg) (fun g hg=>Rel.old r (cF w) g hg.1) ⟨rv,by rw[<-SI];exact r.Dy (T:=(fun g=>g<w'.heap.size)) (id:=3) (sz:=1) (m:=rv.length) rfl (by simp) (by unfold maxLen;omega) (by decide) hR.2.1 fun hn=>(r.low 3 _ rfl hn).2,hR.1,fun a u x h1 h2=>eo.rel (hR.2.2 a u x h1 h2) r (cF w)⟩ ⟨rc,by rw[<-hG.len];exact r.Dy (T:=(fun g=>g<w'.heap.size)) (id:=4) (sz:=4) (m:=rc.length) rfl hgf (by unfold maxLen;omega) (by decide) hG.one fun hn=>(r.low 4 _ rfl hn).2,hG.len,fun a cs x h1 h2=>(kA.rel hG r (cF w)).at_ a cs x h1 h2⟩ (by rw[hJ,ee,aL,aL]) hSl (by omega) (by rw[ee,aL];omega) hredB (by decide)).mono fun _ _ ⟨v2,e1,e2,e3⟩=>⟨v2,e1,e2,by
  rcases e3 with⟨h1,_⟩|⟨x2,vx,h1,h2,h3⟩
  ·rw[Te]at h1;cases h1
  ·rw[Te]at h1;injection h1 with h1;subst h1;exact⟨vx,h2,h3⟩⟩) ?_)
 rintro O Wl v13 wb13 r he Pa ⟨vc,rfl,hn⟩;replace hw:=hw.tr Pa;have Qz:∀g,(Value.slice ax f.cols cx).ownBlock=some g->g<Wl.heap.size:=fun g e=>Rel.old r (cF w) g (hX.new g e);replace hX:=hX.cK (iv':=(Wl.heap.size,wb13.heap.size)::iv) r (cF w) he fun x hx=>aC _ hx;replace hK:=gR.cK (iv':=(Wl.heap.size,wb13.heap.size)::iv) hK r (cF w) he fun x hx=>aC _ hx;have hC:=cO.cL hn.c fun g hg=>Bs.solved r Qz (fun _ h=>h) hg;clear r he Pa Qz;generalize (Wl.heap.size,wb13.heap.size)::iv=iv13 at*
 clear hn hR hG hL;obtain⟨ac,cc,rfl,-,-⟩:=dO.shape hC;rw[Pf]
 refine⟨Nat×World×Iv,fun z=>⟨[(7,sV ax f.cols cx),(19,.o (.v (.slice ac (cX (cS f) f.cols).length cc))),(87,.o (.v (.slice ak (cX (cS f) f.cols).length ck))),(88,.o (.v (.int .i64 (cX (cS f) f.cols).length))),(89,iN z.1)],[],0,z.2.2,z.2.1⟩,fun z=>(cX (cS f) f.cols).length-z.1,
  fun z=>z.1<=(cX (cS f) f.cols).length∧dq w.heap.size w z.2.1∧eR z.2.1 FF w.heap.size z.2.2 (.slice ax f.cols cx) f.cols (lY (cX (cS f) f.cols) c x0 z.1)∧cV z.2.1 (Bs FF w.heap.size z.2.2 (.slice ax f.cols cx)) (.slice ak (cX (cS f) f.cols).length ck) (cX (cS f) f.cols)∧cO z.2.1 (Bs FF w.heap.size z.2.2 (.slice ax f.cols cx)) (.slice ac (cX (cS f) f.cols).length cc) c,?_,?_⟩
 ·intro O w' r3;exact⟨(0,w',_),⟨aR _,hw.tr r3.cU,hX.rel r3 (cF w),gR.rel hK r3 (cF w),by have:=eo.rel hC r3 (cF w);rw[Pf]at this;exact this⟩,Sub.gn [] r3⟩
 clear hw hX hK hC;rintro⟨i,w13,iv⟩ ⟨hi,hw,hX,hK,hC⟩;dsimp only at hi hw hX hK hC ⊢;refine dN.mk ?_ ?_<;>intro OU
 ·have OU:i<(cX (cS f) f.cols).length:=by have:=aI OU;omega
  obtain⟨s,hs⟩:∃s,(cX (cS f) f.cols)[i]? =some s:=⟨_,aA OU⟩
  have Rc:s.length=f.cols:=hKl s (aD hs);have Ul:=hKr s (aD hs);obtain⟨ci,hci⟩:∃q,c[i]? =some q:=⟨_,aA (by omega)⟩
  have hcir:=TJ ci (aD hci);obtain⟨y0,QH⟩:∃y,lY (cX (cS f) f.cols) c x0 i=y:=⟨_,rfl⟩
  have hy0l:y0.length=f.cols:=by rw[<-QH,rJ,hx0l]
  have hy0r:∀q∈y0,rl q<=75000:=fun q hq=>by
   rw[<-QH]at hq;have h1:=Fz (a:=26) (b:=1927) Wk (fun r hr q hq=>by have:=hKr r hr q hq;omega) TJ i q hq;have h2:i*(2*1927+5)<=18*(2*1927+5):=Nat.mul_le_mul_right _ (by omega);omega
  have hnextA:lY (cX (cS f) f.cols) c x0 (i+1)=y0.mapIdx fun k q=>q+ci*s.getD k 0:=by rw[lY,QH,getD_some hci,getD_some (d:=[]) hs]
  rw[QH]at hX;obtain⟨adm3,um,ham3,PD,km3,kn3⟩:=cd.load hK hs;obtain⟨as3,cs3,rfl,-,-⟩:=dO.shape PD;refine⟨adm3,ham3,by omega,.slice as3 s.length cs3,fun O w' r=>?_,?_⟩
  ·rw[aF,cI (w:=w13) (w2:=w') (by rw[dC];exact Rel.same r (cF w) km3.1)];exact kn3
  rw[Rc]
  refine⟨Nat×World×Iv,fun z=>⟨[(7,sV ax f.cols cx),(19,.o (.v (.slice ac (cX (cS f) f.cols).length cc))),(87,.o (.v (.slice ak (cX (cS f) f.cols).length ck))),(88,.o (.v (.int .i64 (cX (cS f) f.cols).length))),(89,iN i),(20,iN i),(94,sV as3 f.cols cs3),(95,iZ f.cols),(96,iN z.1)],[],0,z.2.2,z.2.1⟩,fun z=>f.cols-z.1,
   fun z=>z.1<=f.cols∧dq w.heap.size w z.2.1∧eR z.2.1 FF w.heap.size z.2.2 (.slice ax f.cols cx) f.cols ((iO z.1 (fun k q=>q+ci*s.getD k 0) y0))∧cV z.2.1 (Bs FF w.heap.size z.2.2 (.slice ax f.cols cx)) (.slice ak (cX (cS f) f.cols).length ck) (cX (cS f) f.cols)∧cO z.2.1 (Bs FF w.heap.size z.2.2 (.slice ax f.cols cx)) (.slice ac (cX (cS f) f.cols).length cc) c∧cO z.2.1 (Bs FF w.heap.size z.2.2 (.slice ax f.cols cx)) (.slice as3 f.cols cs3) s,?_,?_⟩
  ·intro O w' r3;exact⟨(0,w',_),⟨aR _,hw.tr r3.cU,by dsimp only;rw[om];exact hX.rel r3 (cF w),gR.rel hK r3 (cF w),eo.rel hC r3 (cF w),by have:=eo.rel PD r3 (cF w);rw[Rc]at this;exact this⟩,Sub.gn [] r3⟩
  clear hw hX hK hC PD;rintro⟨k,w14,iv⟩ ⟨hk,hw,hX,hK,hC,PD⟩;dsimp only at hk hw hX hK hC PD ⊢;refine dN.mk ?_ ?_<;>intro Oc
  ·have Oc:k<f.cols:=by have:=aI Oc;omega
   obtain⟨gx,rfl⟩:=hX.at (by omega);obtain⟨q,hq⟩:∃q,s[k]? =some q:=⟨_,aA (by omega)⟩
   obtain⟨y,hy⟩:∃q,y0[k]? =some q:=⟨_,aA (by omega)⟩
   have hyu:=ue (f:=fun k q=>q+ci*s.getD k 0) hy;have hqr:=Ul q (aD hq);have hyr:=hy0r y (aD hy);obtain⟨adq,csq,We,hFq,_,hlq⟩:=dO.load PD hq;obtain⟨q0,q1,q2,q3,q4,q5,q6,q7,rfl,hFq⟩:=hFq;obtain⟨ady,csy,Up,Rn,_,Qj⟩:=dO.load hX.c hyu;obtain⟨y0',y1,y2,y3,y4,y5,y6,y7,rfl,Rn⟩:=Rn;obtain⟨adc,csc,XS,hFc,_,TV⟩:=dO.load hC hci;obtain⟨c0,c1,c2,c3,c4,c5,c6,c7,rfl,hFc⟩:=hFc;refine⟨adq,We,by omega,[.bool q0,.slice q1 q2 q3,.bool q4,.slice q5 q6 q7],rfl,fun O w' r j u hu=>?_,?_⟩
   ·obtain⟨k1,k2⟩:=hlq j u hu;rw[aF,cI (w:=w14) (w2:=w') (by rw[dC,dC];exact Rel.same r (cF w) k1.1)];exact k2
   refine cQ hτ dx [.x 0,.x 1,.x 2,.x 3,.x 4,.x 5,.x 6,.x 7,.x 8,.x 9,.x 10,.x 11,.x 12,.x 13,.x 14] (by kernel_rfl) (by kernel_rfl) ?_;refine⟨ady,Up,by omega,[.bool y0',.slice y1 y2 y3,.bool y4,.slice y5 y6 y7],rfl,fun O w' r j u hu=>?_,?_⟩
   ·obtain⟨k1,k2⟩:=Qj j u hu;rw[aF,cI (w:=w14) (w2:=w') (by rw[dC,dC];exact Rel.same r (cF w) k1)];exact k2
   refine⟨adc,XS,by omega,[.bool c0,.slice c1 c2 c3,.bool c4,.slice c5 c6 c7],rfl,fun O w' r j u hu=>?_,?_⟩
   ·obtain⟨k1,k2⟩:=TV j u hu;rw[aF,cI (w:=w14) (w2:=w') (by rw[dC,dC];exact Rel.same r (cF w) k1.1)];exact k2
   refine cM (Φ:=fun _ w' v w2=>dA w2 (Nf w' w2) v (ci*q)) (fun O w' r=>Am (S:=Cf w iv) (Rel.old r (cF w)) ((dA.l (mA.cv (mA.rel hFc r (cF w))) (by omega)).v) ((dA.l (mA.cv (mA.rel hFq r (cF w))) (by omega)).v)) ?_;rintro O Tj v15 Ub r he Pa hn;replace hw:=hw.tr Pa;have Qz:∀g,(Value.slice (some ⟨gx,0,none⟩) f.cols cx).ownBlock=some g->g<Tj.heap.size:=fun g e=>Rel.old r (cF w) g (hX.new g e);replace hX:=hX.cK (iv':=(Tj.heap.size,Ub.heap.size)::iv) r (cF w) he fun x hx=>aC _ hx;replace hK:=gR.cK (iv':=(Tj.heap.size,Ub.heap.size)::iv) hK r (cF w) he fun x hx=>aC _ hx;replace hC:=eo.cK (iv':=(Tj.heap.size,Ub.heap.size)::iv) hC r (cF w) he fun x hx=>aC _ hx;replace PD:=eo.cK (iv':=(Tj.heap.size,Ub.heap.size)::iv) PD r (cF w) he fun x hx=>aC _ hx;replace Rn:=dA.cK (iv':=(Tj.heap.size,Ub.heap.size)::iv) Rn r (cF w) he fun x hx=>aC _ hx;have hm:=mA.fresh (S:=FF) (v:=(.slice (some ⟨gx,0,none⟩) f.cols cx)) hn r Qz;clear r he Pa Qz hn;generalize (Tj.heap.size,Ub.heap.size)::iv=Uc at*
   obtain⟨G0,G1,G2,G3,G4,G5,G6,G7,rfl⟩:=hm.shape;refine cM (Φ:=fun _ w' v w2=>dA w2 (Nf w' w2) v (y+ci*q)) (fun O w' r=>HH (S:=Cf w Uc) (Rel.old r (cF w)) ((dA.l (dA.rel Rn r (cF w)) (by omega)).v) ((dA.l (mA.cv (mA.rel hm r (cF w))) (by have:=ic ci q;omega)).v)) ?_;rintro O Ud v16 Vb r he Pa hn;replace hw:=hw.tr Pa;have Qz:∀g,(Value.slice (some ⟨gx,0,none⟩) f.cols cx).ownBlock=some g->g<Ud.heap.size:=fun g e=>Rel.old r (cF w) g (hX.new g e);replace hX:=hX.cK (iv':=(Ud.heap.size,Vb.heap.size)::Uc) r (cF w) he fun x hx=>aC _ hx;replace hK:=gR.cK (iv':=(Ud.heap.size,Vb.heap.size)::Uc) hK r (cF w) he fun x hx=>aC _ hx;replace hC:=eo.cK (iv':=(Ud.heap.size,Vb.heap.size)::Uc) hC r (cF w) he fun x hx=>aC _ hx;replace PD:=eo.cK (iv':=(Ud.heap.size,Vb.heap.size)::Uc) PD r (cF w) he fun x hx=>aC _ hx;clear Rn;clear hm;have hd:=mA.fresh (S:=FF) (v:=(.slice (some ⟨gx,0,none⟩) f.cols cx)) hn r Qz;clear r he Pa Qz hn;generalize (Ud.heap.size,Vb.heap.size)::Uc=iv16 at*
   obtain⟨J0,J1,J2,J3,J4,J5,J6,J7,rfl⟩:=hd.shape;refine⟨⟨gx,0,none⟩,rfl,by omega,?_⟩;intro O w' r;obtain⟨g,hg,h1,h2,h3,h4,h5⟩:=(hX.rel r (cF w)).store (j:=k) Oc (hd.cJ (Bs.same r (cF w))) r (cF w);injection hg with hg;injection hg with hg;subst hg;refine⟨h1,h2,h3,fun w5 RP=>?_⟩;obtain⟨k1,k2,k3⟩:=h5 w5 RP;have Oz:dq w.heap.size w w5:=(hw.tr r.cU).tr (dq.grown k2 (fun g e=>by injection e with e;subst e;exact h4.elim (fun h=>h.elim) fun h=>h.1) r.cG);have Q7:=gR.kept hK r (cF w) k2;have Vy:=eo.kept hC r (cF w) k2;have Ri:=eo.kept PD r (cF w) k2;have Oi:(iO k (fun k q=>q+ci*s.getD k 0) y0).set k (y+ci*q)=(iO (k+1) (fun k q=>q+ci*s.getD k 0) y0):=by rw[<-lg hy,getD_some hq]
   rw[Oi]at k1;clear hX hK hC PD hw h1 h2 h3 h4 h5 RP k2 k3 r hd;refine⟨((k+1:Nat):Int),wo,?_⟩;intro ρ3 w6 r3;exact⟨(k+1,w6,_),⟨Oc,Oz.tr r3.cU,k1.rel r3 (cF w),gR.rel Q7 r3 (cF w),eo.rel Vy r3 (cF w),eo.rel Ri r3 (cF w)⟩,Sub.gn [] r3,by dsimp only;omega⟩
  have Oc:k=f.cols:=by have:=aH Oc;omega
  rw[Oc,<-hy0l,rL,<-hnextA,hy0l]at hX;refine⟨((i+1:Nat):Int),wo,?_⟩;intro ρ3 w6 r3;exact⟨(i+1,w6,_),⟨OU,hw.tr r3.cU,hX.rel r3 (cF w),gR.rel hK r3 (cF w),eo.rel hC r3 (cF w)⟩,Sub.gn [] r3,by dsimp only;omega⟩
 have OU:i=(cX (cS f) f.cols).length:=by have:=aH OU;omega
 rw[OU]at hX;exact rtn hw fun ρe we re=>.inr ⟨_,_,hfrc,rfl,cO.out hX.c re (cF w)⟩
end Go.Ex
namespace Go.Ex
open Go Go.Sx Go.Proofs
def Lw(g:Nat):Iv->Iv
 |[]=>[]
 |(lo,hi)::iv=>(lo,min hi g)::(max lo (g+1),hi)::Lw g iv
def Ji(v:Value)(iv:Iv):Iv:=match v.ownBlock with
 |some g=>Lw g iv
 |none=>iv
theorem Cm{g lo hi:Nat}:∀{iv:Iv},(lo,hi)∈Lw g iv->∃a b,(a,b)∈iv∧a<=lo∧hi<=b∧¬(lo<=g∧g<hi)
 |[],h=>by cases h
 |(x,y)::iv,h=>by
  rcases List.mem_cons.1 h with h|h
  ·injection h with h1 h2;exact⟨x,y,aG,by omega,by omega,by omega⟩
  ·rcases List.mem_cons.1 h with h|h
   ·injection h with h1 h2;exact⟨x,y,aG,by omega,by omega,by omega⟩
   ·obtain⟨a,b,h1,h2⟩:=Cm h;exact⟨a,b,aC _ h1,h2⟩
theorem Az{v:Value}{iv:Iv}{lo hi:Nat}(h:(lo,hi)∈Ji v iv):∃a b,(a,b)∈iv∧a<=lo∧hi<=b∧∀g,v.ownBlock=some g->¬(lo<=g∧g<hi):=by
 unfold Ji at h
 cases e:v.ownBlock with
 |none=>rw[e]at h;exact⟨lo,hi,h,Nat.le_refl _,Nat.le_refl _,fun g e2=>by cases e2⟩
 |some g=>
  rw[e]at h;obtain⟨a,b,h1,h2,h3,h4⟩:=Cm h;exact⟨a,b,h1,h2,h3,fun g2 e2=>by injection e2 with e2;subst e2;exact h4⟩
end Go.Ex
namespace Go.Sx
open Go Go.Ex Go.Proofs
variable{xs:List Value}{O:Nat->Sx.dw}
theorem Rel.KF{H:Hp}{nx:Nat}{iv:Iv}{B:Nat}{w w':World}(r:Rel H nx iv B w O w'){e sz n:Nat}{v:Value}(OV:w'.ownsRow 0 e sz v n xs)(Oa:∀g,v.ownBlock=some g->B<=g)
  (OY:∀g,v.ownBlock=some g->∀id b,dD H id=some b->(O id).nil=false->(O id).g≠g):
  ∃u:Sx.dw,Rel ((nx,.vec e sz xs)::H) (nx+1) (Ji v iv) B w' (Sx.gS O nx u) w'∧(At.w nx n).den (Sx.gS O nx u)=v:=by
 have r0:Rel H nx (Ji v iv) B w' O w':=Rel.mk' rfl rfl rfl (Nat.le_refl _) (by have:=r.base;have:=r.size;omega)
  (fun lo hi hm=>by obtain⟨a,b,h1,h2,h3,_⟩:=Az hm;have:=r.pC a b h1;have:=r.size;omega) r.keys (fun j c h=>r.fits h) (fun j c h=>r.scopd h) r.inj r.low (fun _ _ _=>rfl)
  (fun lo hi hm id b h hn hh=>by obtain⟨a,c,h1,h2,h3,_⟩:=Az hm;exact r.jb a c h1 id b h hn ⟨by omega,by omega⟩)
 have hcut:∀lo hi,(lo,hi)∈Ji v iv->∀g,v.ownBlock=some g->¬(lo<=g∧g<hi):=fun lo hi hm=>by obtain⟨a,c,h1,h2,h3,h4⟩:=Az hm;exact h4
 obtain⟨h1,h2⟩:=OV;rcases h2 with⟨rfl,rfl⟩|⟨g,cap,cur,rfl,_,hc,hn,hm,hs,ht⟩
 ·have:xs=[]:=List.eq_nil_of_length_eq_zero (by rw[h1,Nat.zero_mul]);subst this;exact⟨⟨0,0,true⟩,r0.push (.vec e sz []) ⟨0,0,true⟩ rfl rfl rfl (Nat.le_refl _) (fun _ _=>rfl) (fun h=>by cases h) (.inl ⟨rfl,rfl⟩) trivial,by simp[At.den,Sx.gS]⟩
 ·generalize Ji (.slice (some ⟨g,0,none⟩) n cap) iv=OX at*
  have OY:=OY g rfl;have Oa:=Oa g rfl;have hgl:g<w'.heap.size:=(bA.1 hc).1;have PF:∀id b,dD H id=some b->id≠nx:=fun id b h=>Nat.ne_of_lt (r.keys id b h);have QC:∀id b,dD H id=some b->Sx.gS O nx ⟨g,cap,false⟩ id=O id:=fun id b h=>by simp[Sx.gS,PF id b h]
  have XK:xs++cur.toList.drop (n*sz)=cur.toList:=by rw[<-ht,List.take_append_drop]
  refine⟨⟨g,cap,false⟩,Rel.mk' rfl rfl rfl (Nat.le_refl _) r0.base r0.pC ?_ ?_ ?_ ?_ ?_ (fun _ _ _=>rfl) ?_,by simp[At.den,Sx.gS]⟩
  ·intro id b' h;rw[dB]at h;split at h
   ·omega
   ·have:=r.keys id b' h;omega
  ·intro id b' h;rw[dB]at h;split at h
   ·rename_i e2;subst e2;injection h with h;subst h;rw[Sx.eS];exact .inr ⟨rfl,cur.toList.drop (n*sz),by rw[XK];simpa using hc,by rw[XK];simpa using hs,hm⟩
   ·rw[QC id b' h];exact jq.gf (r.fits h) Sx.gM (r.scopd h) (fun _ _=>rfl)
  ·intro id b' h;rw[dB]at h;split at h
   ·injection h with h;subst h;exact trivial
   ·exact jq.jC (by omega) (r.scopd h)
  ·intro id id' b1 b2 h1 h2 d1 d2 n1 n2 e2;rw[dB]at h1 h2;split at h1<;>split at h2
   ·omega
   ·rename_i e1 e3;subst e1;rw[Sx.eS]at e2 n1;rw[QC id' b2 h2]at e2 n2;exact absurd e2.symm (OY id' b2 h2 n2)
   ·rename_i e1 e3;subst e3;rw[Sx.eS]at e2 n2;rw[QC id b1 h1]at e2 n1;exact absurd e2 (OY id b1 h1 n1)
   ·rw[QC id b1 h1]at e2 n1;rw[QC id' b2 h2]at e2 n2;exact r.inj id id' b1 b2 h1 h2 d1 d2 n1 n2 e2
  ·intro id b' h n1;rw[dB]at h;split at h
   ·rename_i e2;subst e2;rw[Sx.eS];exact⟨Oa,hgl⟩
   ·rw[QC id b' h]at n1 ⊢;exact r.low id b' h n1
  ·intro lo hi Wm id b' h n1;rw[dB]at h;split at h
   ·rename_i e2;subst e2;rw[Sx.eS];exact hcut lo hi Wm g rfl
   ·rw[QC id b' h]at n1 ⊢;exact r0.jb lo hi Wm id b' h n1
end Go.Sx
namespace Go.Ex
open Go Go.Sx Go.Proofs
end Go.Ex
namespace Go.Ex
open Go Go.Sx Go.Proofs
variable{l:List Ld}{S:Nat->Prop}{f:eu}
theorem HX(OZ:As f.nodes.length l):Bl (dR (eN f l) (-1)):=fun t=>by
 rcases aS t (dR (eN f l) (-1)).length with h|h
 ·have h2:t<(eN f l).length:=by rw[dR,aL]at h;exact h
  have h3:(eN f l)[t]∈eN f l:=ah h2;rw[getD_some (show (dR (eN f l) (-1))[t]? =some ((eN f l)[t]* -1) by rw[dR,aM,aA h2];rfl)];obtain⟨z,hz,Ps⟩:=aV.1 h3;have hb:=wO OZ l.length (Nat.le_refl _) z hz;have hl:=OZ.len;rw[<-Ps,show(z:Rat)* -1=((-z:Int):Rat) by rw[Rat.intCast_neg];grind];exact Ib.int (by omega)
 ·rw[jt h];exact Ib.zero _
abbrev aAS(f:eu):Nat->Rat:=fun t=>(eB f).getD t 0
set_option maxRecDepth 8000 in
theorem HY{w:World}{vn vb vs vl:Value}(hS:Old S w)(hf:eF w S vn vb vs f)(hl:iE w S vl l)(Rj:eY f=0->GQ f):
  eG PG N.qF #[.agg #[vn,vb,vs],vl] w (eL w fun v' w2=>(iF f l≠0∧v'= .tuple #[.slice none 0 0,.int .i64 (iF f l)])∨(iF f l=0∧((fz (cS f) (dR (eN f l) (-1)) f.cols=none∧v'= .tuple #[.slice none 0 0,.int .i64 17])∨∃x vx,zk (cS f) f.cols (aAS f) (dR (eN f l) (-1)) x∧v'= .tuple #[vx,.int .i64 0]∧cO w2 (Nf w w2) vx x))):=by
 have hw:=bR w;obtain⟨an,cn,ab,cb,aq,cq,rfl,rfl,rfl,RH,Re,SB⟩:=hf.shape;obtain⟨al,cl,rfl,Pf,Qt⟩:=hl.shape;obtain⟨e0,EE⟩:∃e,iF f l=e:=⟨_,rfl⟩
 refine uT (by simp) ?_;refine cH (cE hw (fun _ w' v w2=>v= .int .i64 e0) (fun O w' r=>(ll (oS hS r) (hf.cJ (kS hw r hS)) (hl.cJ (kS hw r hS))).mono fun _ _ ⟨v2,e1,e2,e3⟩=>⟨v2,e1,e2,by rw[e3,EE]⟩) ?_);rintro O _ _ _ Og r he hw h_ rfl;refine dN.mk ?_ ?_<;>intro he
 ·have he:e0≠0:=by simpa using he
  exact rtn hw fun ρe we re=>.inl ⟨by rw[EE];exact he,by rw[EE];rfl⟩
 have he:e0=0:=by simpa using he
 have Qk:iF f l=0:=by rw[EE,he]
 obtain⟨Ou,Qr⟩:=lj Qk;have RJ:=Rj Ou;have PE:=RJ.toFrS;have Qr:=yb Qr;have Td:=PE.Jy;have VW:=PE.Ma;have R5:=fK f;have hlen:=gH f;have hn4:=PE.n4;have OZ:=lC Ou;have Sp:=gj f l;have XQ:f.cols=f.bars.length+f.cY.length:=rfl;refine cQ hτ dx [.x 0,.x 1,.x 2,.x 3,.x 4,.x 5,.x 6,.x 7,.x 8,.x 9] (by kernel_rfl) (by kernel_rfl) ?_;refine cE hw (fun _ w' v w2=>cO w2 (Nf w' w2) v (eN f l)∧∀q∈eN f l,rl q<=1) (fun O w' r=>(wM (oS hS r) (hl.cJ (kS hw r hS)) PE.n Qr rfl rfl).mono fun _ _ ⟨v2,e1,e2,e3,e4⟩=>⟨v2,e1,e2,cO.cL e3.c fun g hg=>hg.new,e4⟩) ?_;rintro O _ _ _ OX r he hw h_ ⟨hn,VX⟩;have hP:=cO.dF (S:=FF) hn r.cG (mN h_);obtain⟨ap,cp,rfl,-,-⟩:=dO.shape hP;rw[Sp];refine cM (Φ:=fun _ w' v w2=>(fz (cS f) (dR (eN f l) (-1)) f.cols=none∧v= .tuple #[.slice none 0 0,.bool false])∨∃x vx,zk (cS f) f.cols (aAS f) (dR (eN f l) (-1)) x∧v= .tuple #[vx,.bool true]∧cO w2 (Nf w' w2) vx x) (fun O w' r=>Jh (S:=fun g=>S g∨Cf w OX g) (fun g hg=>hg.elim (oS hS r g) (Rel.old r (cF w) g)) (eF.cL (hf.cJ (kS hw r hS)) fun g hg=>.inl hg) Ou RJ (cO.cL (by have:=cO.rel hP r (cF w);rw[Sp]at this;exact this) fun g hg=>.inr hg) Sp (fun q hq=>by have:=VX q hq;omega) (HX Qr)) ?_;rintro O Pz v3 Px r he hb (⟨SD,rfl⟩|⟨x,vx,hx,rfl,hn⟩)
 ·replace hw:=hw.tr hb;exact rtn hw fun ρe we re=>.inr ⟨Qk,.inl ⟨SD,rfl⟩⟩
 replace hw:=hw.tr hb;have hX:=cO.dF (S:=FF) hn r.cG (iv:=(Pz.heap.size,Px.heap.size)::OX) aG;generalize (Pz.heap.size,Px.heap.size)::OX=ivx at*
 obtain⟨ax,cx,rfl,-,-⟩:=dO.shape hX;exact rtn hw fun ρe we re=>.inr ⟨Qk,.inr ⟨x,_,hx,rfl,cO.out hX re (cF w)⟩⟩
end Go.Ex
namespace Go.Ex
section
variable{f:eu}{b y s z:List Rat}{c:Rat}
end
section
variable{M:List (List Rat)}{n:Nat}{fl p q x y u v:List Rat}
theorem o0(p:List Rat)(c:Rat)(i:Nat):(dR p c).getD i 0=p.getD i 0*c:=by
 rw[dR,List.getD,aM,List.getD]
 cases p[i]? with
 |none=>exact(bI c).symm
 |some a=>rfl
end
end Go.Ex
namespace Go.Ex
open Go Go.Sx Go.Proofs
variable{M:List (List Rat)}{l:List Ld}{x:List Rat}{f:eu}
theorem sd{n:Nat}(hM:gX n M)(x:List Rat){j:Nat}(hj:j<M.length):(fM M x).getD j 0=mulR M n (fun t=>x.getD t 0) j:=by
 have hr:=aA hj;rw[getD_some (CR hr),k7,hM _ (ah hj)];exact cR fun t _=>by rw[dK,getD_some hr]
theorem LH(h:fz (cS f) (dR (eN f l) (-1)) f.cols=some x):EqB f l 1 x:=by
 obtain⟨h1,h2⟩:=oT (gH f) h;refine⟨h1,iA 0 (by rw[eV,dR,aL,gj,fK]) fun i hi=>?_⟩;rw[eV]at hi;rw[sd (gH f) x hi,h2 i hi]
theorem Gy(h:fz (cS f) (dR (eN f l) (-1)) f.cols=none):
  ∃u∈cX (dY (cS f) f.cols) (cS f).length,dT (eN f l) u (eN f l).length≠0:=by
 obtain⟨y,y1,y2⟩:=s7 (gH f) h;have hT:=gg (cS f) f.cols;obtain⟨c,hc⟩:=IG (x:=y) hT fun j hj=>by
  rw[ef]at hj;rw[JQ hj];exact Eq.trans (cR fun i _=>bs _ _) (y1 j hj)
 refine Decidable.byContradiction fun SD=>y2 ?_;have h0:∀k,k<(cX (dY (cS f) f.cols) (cS f).length).length->dJ (fun t=>dK (cX (dY (cS f) f.cols) (cS f).length) k t*(dR (eN f l) (-1)).getD t 0) (cS f).length=0:=fun k hk=>by
  have hz:dT (eN f l) (cX (dY (cS f) f.cols) (cS f).length)[k] (eN f l).length=0:=Decidable.byContradiction fun OY=>SD ⟨_,ah hk,OY⟩;rw[k7,gj,<-fK f]at hz;rw[cR (g:=fun t=>(-1)*((eN f l).getD t 0*((cX (dY (cS f) f.cols) (cS f).length)[k]).getD t 0)) fun t _=>by rw[dK,getD_some (aA hk),o0];grind,e8,hz];grind
 rw[cR (g:=fun t=>dJ (fun k=>c k*(dK (cX (dY (cS f) f.cols) (cS f).length) k t*(dR (eN f l) (-1)).getD t 0)) (cX (dY (cS f) f.cols) (cS f).length).length) fun t ht=>by
  rw[hc t ht,<-nM]
  exact cR fun k _=>by rw[Rat.mul_assoc],nN,cR (g:=fun _=>0) fun k hk=>by rw[e8,h0 k hk,bD],eM]
end Go.Ex
