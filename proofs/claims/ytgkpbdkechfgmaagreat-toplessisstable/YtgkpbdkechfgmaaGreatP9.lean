/- Texts X102 to L30: lemmas, each with its conditions. -/
import Derived.Test.YtgkpbdkechfgmaaGreatP8
namespace Go.Ex
open Go Go.Sx Go.Proofs
variable{M:List (List Rat)}{qs r:List Rat}{rv:List Value}{S:Nat->Prop}{a:Option Addr}{w:World}
theorem gj.take{C:Nat->Prop}{m n c:Nat}(h:gj w C S (.slice a m c) qs)(hn:n<=m):gj w C S (.slice a n c) (qs.take n):=by
 obtain⟨css,⟨h0,h1,h2,a',c',e,h3,h4⟩,hf⟩:=h;injection e with e1 e2 e3;subst e1 e2 e3;have hl:(css.take n).length=(qs.take n).length:=by rw[aZ,aZ,hf.1]
 have hq:(qs.take n).length=n:=by rw[aZ];omega
 have Ud:∀(j:Nat) u,(css.take n).flatten[j]? =some u->css.flatten[j]? =some u:=fun j u hu=>by
  have:css.flatten=(css.take n).flatten++(css.drop n).flatten:=by rw[<-List.flatten_append,List.take_append_drop]
  rw[this,aJ (aD.1 hu).1];exact hu
 refine⟨css.take n,⟨by rw[hq];omega,?_,fun u hu=>h2 u ?_,a,c,by rw[hq],by rw[hq];omega,fun j u hu=>h4 j u (Ud j u hu)⟩,hl,fun j cs q k1 k2=>hf.2 j cs q ?_ ?_⟩
 ·rw[eo fun cs hc=>hf.nH cs (bS hc),hl]
 ·obtain⟨j,hj⟩:=aQ hu;exact aE (Ud j u hj)
 ·rw[List.getElem?_take]at k1;split at k1;exact k1;cases k1
 ·rw[List.getElem?_take]at k2;split at k2;exact k2;cases k2
theorem KZ{n i j:Nat}(hl:gh n M)(hi:i<M.length)(hj:j<M.length):gh n (fV [] M i j):=fun r hr=>by
 unfold fV at hr;rcases a9 hr with h1|h1
 ·rcases a9 h1 with h2|h2
  ·exact hl r h2
  ·rw[h2];exact hl _ (Di hj)
 ·rw[h1];exact hl _ (Di hi)
theorem I7{n k:Nat}(h:M[k]? =some r)(hk:k<n):(tk n (M.take n)).take (k+1)=(tk n (M.take n)).take k++[r.take n]:=by
 rw[List.take_add_one,tk,aM,List.getElem?_take,if_pos hk,h];rfl
theorem fS.nI{B:Nat}{iv:Iv}{gm R n k c:Nat}(h:fS w S B iv gm R n rv M)(hk:k<R)(hc:c<n):
  ∃g ck q d1 e1 m1 k1 d2 e2 m2 k2,Mm w (j4 S B iv gm R rv) rv n M gm k c g ck q d1 e1 m1 k1 d2 e2 m2 k2∧Mb (DR gm R) rv g:=by
 obtain⟨gm',g,ck,q,d1,e1,m1,k1,d2,e2,m2,k2,e,hE⟩:=h.I6.elem (k:=k) (c:=c) (by rw[h.rows];exact hk) hc;injection e with e;injection e with e;subst e;exact⟨g,ck,q,d1,e1,m1,k1,d2,e2,m2,k2,hE,.inr ⟨_,aE hE.rv,rfl⟩⟩
theorem aAD{vm:Value}{n R h:Nat}(hS0:Old S w)(Te:uH w S vm M)(OR:∀r∈M,r.length=R)(hnR:n<=R)(hnM:n<=M.length)(hR:R<=1000)(Q8:Ht M h)(h2:2<=h)(Pe:4^n*h<=800000000):
  dx PG N.B4 #[vm,.int .i64 n] w (eH w fun v' w2=>cP w2 (Nf w w2) v' (jo M 0 n)):=by
 have hS:=hS0;have hw:=bR w;obtain⟨am,cm,rfl,S1,Rc⟩:=dG.shape Te;unfold maxLen at Rc;refine Cc (by simp) ?_;conv=>whnf
 refine⟨n,n,rfl,rfl,Nat.le_refl _,by omega,by omega,?_⟩;conv=>whnf
 refine⟨List Value×World×Iv,fun z=>⟨[(0,sV am M.length cm),(1,iZ n),(4,pP 0 0),(5,.o (.s 1 0 n n)),(14,iZ n),(15,.o (.v (.int .i64 (z.1.length:Nat))))],[(1,.arr T.row (z.1++List.replicate (n-z.1.length) (.slice none 0 0))),(0,.box T.dK [.v (.bool false),.v (.slice none 0 0),.v (.bool false),.v (.slice none 0 0)])],2,z.2.2,z.2.1⟩,fun z=>n-z.1.length,
  fun z=>z.1.length<=n∧dT w.heap.size w z.2.1∧iR z.2.1 S w.heap.size z.2.2 z.1 n ((tk n (M.take n)).take z.1.length)∧(∀u∈z.1,u.oneCell'=true),?_,?_⟩
 ·intro O w' r;exact⟨([],w',[]),⟨aS _,hw.tr r.cL,by simpa using iR.nil _ _ _ _ _,by simp⟩,Sub.gn [] r⟩
 clear hw;rintro⟨rv,w1,iv⟩ ⟨hi,hw,hF,h1c⟩;dsimp only at hi hw hF h1c ⊢;conv=>whnf
 refine dB.mk ?_ ?_<;>intro OQ
 ·have OQ:rv.length<n:=by simpa using OQ
  obtain⟨ra,VL⟩:∃r,M[rv.length]? =some r:=⟨_,aB (by omega)⟩
  have hral:=OR ra (aE VL);obtain⟨adx,ux,rfl,Qg,Rn,RZ⟩:=dG.load Te VL;obtain⟨aux,cux,rfl,hcux,-⟩:=Qg.shape;conv=>whnf
  refine⟨adx,rfl,by omega,?_⟩;conv=>whnf
  refine⟨.slice aux ra.length cux,rd1 RZ hw (hS _ Rn),?_⟩;conv=>whnf
  have Ud:=gj.take (n:=n) (Qg.from (k:=0) (by omega)) (by omega);refine⟨⟨by omega,by omega,by omega⟩,(if (cux:Int)=((0:Nat):Int)then aux else aux.map (·.add (0*4))),n,cux-0,rfl,by omega,by omega,?_⟩;rw[List.drop_zero]at Ud;generalize (if (cux:Int)=((0:Nat):Int)then aux else aux.map (·.add (0*4)))=adp at*
  generalize cux-0=cdp at*
  have hprl:(ra.take n).length=n:=by rw[aZ];omega
  conv=>whnf
  refine cB (cI (Φ:=fun _ w' v w2=>lf w2 S v n (ra.take n)∧∀g,v.ownBlock=some g->w'.heap.size<=g∧g<w2.heap.size) (fun O w' r=>?_) ?_)
  ·have:=Ec (w:=w') (oS hS r) (oS hS r) (Ud.cC fun g hg=>(hw.tr r.cL).block g (hS g (hg.elim id id))) (by omega) (by omega);rw[hprl]at this;exact this
  rintro O PV v1 PL r he hb ⟨SZ,Qf⟩;have Rz:=hF.snoc r hS he (SZ.cF fun g hg=>⟨.inl hg,fun e=>by have:=hS g hg;have:=Qf g e;have:=r.bz;omega,fun⟨u,hu,e⟩=>(hF.new u hu g e).elim (fun h=>h.elim) fun h=>by have:=hS g hg;omega⟩) Qf;rw[<-I7 VL OQ]at Rz;replace hw:=hw.tr hb;obtain⟨a3,c3,rfl,-⟩:=SZ.form;clear r he hb SZ Qf hF;generalize (PV.heap.size,PL.heap.size)::iv=OZ at*
  conv=>whnf
  refine⟨by omega,?_⟩;conv=>whnf
  refine⟨by simp;omega,(rv++[.slice a3 n c3])++List.replicate (n-(rv.length+1)) (.slice none 0 0),?_,?_⟩
  ·have h5:n-rv.length=(n-(rv.length+1))+1:=by omega
   simp[h5,List.replicate_succ]
  conv=>whnf
  refine⟨((rv.length+1:Nat):Int),wo,?_⟩;conv=>whnf
  intro ρ3 w3 r3;have QH:(rv++[Value.slice a3 n c3]).length=rv.length+1:=by simp
  refine⟨(rv++[.slice a3 n c3],w3,OZ),⟨by dsimp only;rw[QH];exact OQ,hw.tr r3.cL,by dsimp only;rw[QH];exact Rz.rel r3 hS,fun u hu=>?_⟩,Sub.gn [] r3 ⟨by dsimp only;rw[QH];rfl,rfl,trivial⟩ ⟨rfl,rfl,rfl,rfl,rfl,by dsimp only;rw[QH];rfl,trivial⟩,by dsimp only;rw[QH];omega⟩;rcases List.mem_append.1 hu with hu|hu
  ·exact h1c u hu
  ·simp at hu;subst hu;rfl
 have OQ:rv.length=n:=aU hi (by simpa using OQ);rw[OQ,List.take_of_length_le (by rw[IG,aZ];exact Nat.min_le_left ..)]at hF;rw[OQ,bB,List.replicate_zero,List.append_nil];conv=>whnf
 refine cB (cI (Φ:=fun _ w' v w2=>cP w2 (Nf w' w2) v ((1:Int):Rat)) (fun O w' r=>xo 1 w' (by decide) (by decide)) ?_);rintro O PV v1 PL r he hb hn;replace hw:=hw.tr hb;have hO:=hn.lim (rv:=rv) r fun u hu g hg=>hF.new u hu g hg;replace hF:iR PL S w.heap.size ((PV.heap.size,PL.heap.size)::iv) rv n (tk n (M.take n)):=hF.cD r hS he fun x hx=>aC _ hx;clear r he hb hn;generalize (PV.heap.size,PL.heap.size)::iv=OZ at*
 obtain⟨A0,A1,A2,A3,A4,A5,A6,A7,rfl⟩:=hO.shape;rw[show ((1:Int):Rat)=1 by decide]at hO;conv=>whnf
 have WR:gh n (tk n (M.take n)):=fun r hr=>by
  obtain⟨x,hx,rfl⟩:=aR.1 hr;rw[aZ,OR x (bS hx)];omega
 have hDht:Ht (tk n (M.take n)) h:=fun r hr q hq=>by
  obtain⟨x,hx,rfl⟩:=aR.1 hr;exact Q8 x (bS hx) q (bS hq)
 refine⟨Nat×(Nat×List Value×List (List Rat)×Rat)×((Bool×Bool)×(Option Addr×Option Addr)×(Nat×Nat×Nat×Nat))×World×Iv,fun z=>⟨[(5,.o (.v (.slice (some ⟨z.2.1.1,0,none⟩) n n))),(1,iZ n),(4,pP 0 0),(7,pP 2 0),(30,iZ n),(31,iN z.1)],[(2,.box T.dK [.v (.bool z.2.2.1.1.1),.v (.slice z.2.2.1.2.1.1 z.2.2.1.2.2.1 z.2.2.1.2.2.2.1),.v (.bool z.2.2.1.1.2),.v (.slice z.2.2.1.2.1.2 z.2.2.1.2.2.2.2.1 z.2.2.1.2.2.2.2.2)]),(0,.box T.dK [.v (.bool false),.v (.slice none 0 0),.v (.bool false),.v (.slice none 0 0)])],3,z.2.2.2.2,z.2.2.2.1⟩,fun z=>n-z.1,
  fun z=>z.1<=n∧dT w.heap.size w z.2.2.2.1∧fS z.2.2.2.1 S w.heap.size z.2.2.2.2 z.2.1.1 n n z.2.1.2.1 z.2.1.2.2.1∧cP z.2.2.2.1 (j4 FF w.heap.size z.2.2.2.2 z.2.1.1 n z.2.1.2.1) (.agg #[.bool z.2.2.1.1.1,.slice z.2.2.1.2.1.1 z.2.2.1.2.2.1 z.2.2.1.2.2.2.1,.bool z.2.2.1.1.2,.slice z.2.2.1.2.1.2 z.2.2.1.2.2.2.2.1 z.2.2.1.2.2.2.2.2]) z.2.1.2.2.2∧gh n z.2.1.2.2.1∧Ht z.2.1.2.2.1 (4^z.1*h)∧rl z.2.1.2.2.2<=4^z.1*h∧z.2.1.2.2.2*jo z.2.1.2.2.1 z.1 n=jo M 0 n,?_,?_⟩
 ·intro O w' r;have Oe:=r.nn 1 _ rfl (by intros;simp) (by simp);have hG:=hF.rK r hS (id:=1) rfl Oe (by unfold maxLen;omega) h1c;rw[OQ]at hG;refine⟨(0,((O 1).g,rv,tk n (M.take n),1),((A0,A4),(A1,A5),(A2,A3,A6,A7)),w',((O 1).g,(O 1).g+1)::OZ),⟨aS _,hw.tr r.cL,hG,(hO.cC fun g hg=>Rel.same r (bw w) hg.1).cF fun g hg=>⟨hg.1.mono fun p hp=>aC _ hp,fun hm=>?_⟩,WR,by rw[Nat.pow_zero,Nat.one_mul];exact hDht,by rw[GA,Nat.pow_zero];omega,by rw[Dn,bm]⟩,Sub.rK r (id:=1) (t:=5) rfl rfl ⟨rfl,rfl,trivial⟩ rfl ⟨rfl,rfl,rfl,rfl,rfl,trivial⟩ (by simp[l6,SV.sc,At.sc])⟩;rcases hm with hm|⟨u,hu,hm⟩
  ·injection hm with hm;exact Rel.not r (bw w) hg.1 1 _ rfl Oe hm
  ·exact hg.2 ⟨u,hu,hm⟩
 clear hw hF hO WR hDht OQ hi h1c;rintro⟨c,⟨gm,rv1,M1,q0⟩,⟨⟨p0,p4⟩,⟨p1,p5⟩,⟨p2,p3,p6,p7⟩⟩,w1,iv⟩ ⟨hc,hw,hM,hO,hlen,Qz,SA,hD⟩;dsimp only at hc hw hM hO hlen Qz SA hD ⊢;conv=>whnf
 refine dB.mk ?_ ?_<;>intro PB
 ·have PB:c<n:=by simpa using PB
  have hHb:4^(c+1)*h<=800000000:=aW (Nat.mul_le_mul_right _ (Nat.pow_le_pow_right (by decide) PB)) Pe;have R0:4^(c+1)*h=4*(4^c*h):=by rw[Nat.pow_succ,bL (4^c) 4,bc]
  have Vi:2<=4^c*h:=aW h2 (Nat.le_mul_of_pos_left _ (Nat.pow_pos (by decide)));rw[R0]at hHb;obtain⟨hh,hhe⟩:∃x,x=4^c*h:=⟨_,rfl⟩
  rw[<-hhe]at Qz SA Vi hHb R0;have hM1l:=hM.len;conv=>whnf
  refine⟨Nat×World×Iv,fun z=>⟨[(5,.o (.v (.slice (some ⟨gm,0,none⟩) n n))),(1,iZ n),(4,pP 0 0),(7,pP 2 0),(30,iZ n),(31,iN c),(8,iN c),(9,iN z.1)],[(2,.box T.dK [.v (.bool p0),.v (.slice p1 p2 p3),.v (.bool p4),.v (.slice p5 p6 p7)]),(0,.box T.dK [.v (.bool false),.v (.slice none 0 0),.v (.bool false),.v (.slice none 0 0)])],3,z.2.2,z.2.1⟩,fun z=>n-z.1,
   fun z=>c<=z.1∧z.1<=n∧dT w.heap.size w z.2.1∧fS z.2.1 S w.heap.size z.2.2 gm n n rv1 M1∧cP z.2.1 (j4 FF w.heap.size z.2.2 gm n rv1) (.agg #[.bool p0,.slice p1 p2 p3,.bool p4,.slice p5 p6 p7]) q0∧∀j,c<=j->j<z.1->cW M1 j c=0,?_,?_⟩
  ·intro O w' r;exact⟨(c,w',iv),⟨Nat.le_refl _,Nat.le_of_lt PB,hw.tr r.cL,hM.rel r hS,hO.iH r (bw w),fun j h1 h2=>by dsimp only at h2;omega⟩,Sub.gn [] r⟩
  clear hw hM hO;rintro⟨k,w2,iv⟩ ⟨VI,hk,hw,hM,hO,hz⟩;dsimp only at VI hk hw hM hO hz ⊢;conv=>whnf
  refine dB.mk ?_ ?_<;>intro OT
  ·have OT:k<n:=by simpa using OT
   obtain⟨gk,cd,qd,d1,d2,d3,d4,d5,d6,d7,d8,QI,QD⟩:=hM.nI (k:=k) (c:=c) (by omega) (by omega);conv=>whnf
   refine⟨⟨gm,0,none⟩,rfl,by omega,?_⟩;conv=>whnf
   refine⟨_,fun O w' r=>hM.cell r (.inl (by rw[c9];rfl)) QI.outer,?_⟩;conv=>whnf
   refine⟨⟨gk,0,none⟩,rfl,by omega,?_⟩;conv=>whnf
   refine⟨[.bool d1,.slice d2 d3 d4,.bool d5,.slice d6 d7 d8],rfl,fun O w' r j x hx=>hM.cell r (by rw[c9,c9];exact QD) (QI.cells j x hx),?_⟩;conv=>whnf
   have Qt:=QI.at_;refine cB (cE hw (fun _ w' v w2=>v= .int .i64 (rs qd)) (fun O w' r=>qp (j4.old r hS) (QI.zg.iH r hS)) ?_);rintro O QJ v11 QQ Pq r he hw h_ rfl;replace hM:=fS.cD hM r hS he (mC h_);replace hO:=cP.nG hO r (bw w) he (mC h_);clear r he;clear QI QD;conv=>whnf
   refine dB.mk ?_ ?_<;>intro hs
   ·have hs:qd=0:=oN.1 (by simpa using hs);conv=>whnf
    refine⟨((k+1:Nat):Int),wo,?_⟩;conv=>whnf
    intro ρ3 w3 r3;refine⟨(k+1,w3,_),⟨by dsimp only;omega,OT,hw.tr r3.cL,hM.rel r3 hS,hO.iH r3 (bw w),fun j h1 h2=>?_⟩,Sub.gn [] r3,by dsimp only;omega⟩;rcases aP j k with h3|h3
    ·exact hz j h1 h3
    ·rw[show j=k by dsimp only at h2;omega,Qt,hs]
   have hs:qd≠0:=fun e=>by rw[oN.2 e]at hs;simp at hs
   rw[<-Qt]at hs;clear Qt hz;conv=>whnf
   refine dB.mk (fun UN=>absurd (eq_of_beq UN) (by omega)) (fun _=>?_);conv=>whnf
   refine dB.mk ?_ ?_<;>intro UW
   ·have UW:k≠c:=fun e=>by rw[e]at UW;simp at UW
    obtain⟨gk,cd,qd,d1,d2,d3,d4,d5,d6,d7,d8,QI,QD⟩:=hM.nI (k:=k) (c:=c) (by omega) (by omega);obtain⟨gc,ce,qe,e1,e2,e3,e4,e5,e6,e7,e8,RA,UO⟩:=hM.nI (k:=c) (c:=c) (by omega) (by omega);have hvk:=QI.rv;have hvc:=RA.rv;have hgB:w.heap.size<=gm:=hM.base (.inl rfl);have hMbg:∀g,some gm=some g->Mb (DR gm n) rv1 g:=fun g e=>by injection e with e;subst e;exact .inl rfl
    conv=>whnf
    refine cH hτ dN [.x 0,.x 1,.x 2,.x 3,.x 4,.x 5,.x 6,.x 7,.x 8,.x 9,.x 10,.x 11,.x 12,.x 13,.x 14,.x 15] (by kernel_rfl) (by kernel_rfl) ?_;conv=>whnf
    refine⟨⟨gm,0,none⟩,rfl,by omega,?_⟩;conv=>whnf
    refine⟨_,fun O w' r=>hM.cell r (.inl (by rw[c9];rfl)) QI.outer,?_⟩;conv=>whnf
    refine⟨⟨gm,0,none⟩,rfl,by omega,?_⟩;conv=>whnf
    refine⟨_,fun O w' r=>hM.cell r (.inl (by rw[c9];rfl)) RA.outer,?_⟩;conv=>whnf
    refine⟨⟨gm,0,none⟩,rfl,by omega,?_⟩;conv=>whnf
    intro O w' r;obtain⟨x1,x2,x3,x4⟩:=hM.OO r hS (i:=c) (vb:=.slice (some ⟨gk,0,none⟩) n cd) PB;replace hw:=hw.tr r.cL;refine⟨x1,x2,x3,fun w4 hw4=>?_⟩;obtain⟨hH,Oc⟩:=x4 w4 hw4;replace hO:=hO.cC (j4.grown r (bw w) Oc hMbg);replace hw:=hw.tr (dT.grown Oc (fun g e=>by injection e with e;subst e;exact hgB) r.bz);clear r hM x1 x2 x3 x4 hw4 Oc QI RA QD UO;conv=>whnf
    refine⟨⟨gm,0,none⟩,rfl,by omega,?_⟩;conv=>whnf
    intro O w' r;obtain⟨x1,x2,x3,x4⟩:=hH.OP r hS hvc hvk;replace hw:=hw.tr r.cL;refine⟨x1,x2,x3,fun w6 hw6=>?_⟩;obtain⟨hM,TB,Oc⟩:=x4 w6 hw6;replace hO:=(hO.cC (j4.grown r (bw w) Oc hMbg)).cF (S':=j4 FF w.heap.size Pq gm n ((rv1.set c (.slice (some ⟨gk,0,none⟩) n cd)).set k (.slice (some ⟨gc,0,none⟩) n ce))) fun g hg=>⟨hg.1,fun hm=>hg.2 ((TB g).1 hm)⟩
    replace hw:=hw.tr (dT.grown Oc (fun g e=>by injection e with e;subst e;exact hgB) r.bz);have h0:cW (fV [] M1 c k) c c≠0:=by rw[Dj (by omega) (by omega)];exact hs
    replace Qz:=Qz.swap (i:=c) (j:=k) (by omega) (by omega);have Vh: -q0*jo (fV [] M1 c k) c n=jo M 0 n:=by
     rw[IJ (Nat.lt_of_le_of_ne VI (Ne.symm UW)) OT (by omega),<-hD];grind
    have Tf:gh n (fV [] M1 c k):=KZ hlen (by omega) (by omega);have hM2l:=hM.len;clear r hH x1 x2 x3 x4 hw6 Oc TB hvk hvc hs hMbg hD hlen hM1l;generalize (rv1.set c (Value.slice (some ⟨gk,0,none⟩) n cd)).set k (Value.slice (some ⟨gc,0,none⟩) n ce)=rv2 at*
    generalize fV [] M1 c k=M2 at*
    conv=>whnf
    refine cB (cE hw (fun _ w' v w2=>cP w2 (Nw (j4 FF w.heap.size Pq gm n rv2) w' w2) v (-q0)) (fun O w' r=>qE (j4.old r (bw w)) (hO.iH r (bw w))) ?_);rintro O _ _ _ S7 r he hw h_ hn;have TH:=hn.xn hM r;replace hM:=fS.cD hM r hS he (mC h_);clear r he hn;clear hO;have hql2:rl (-q0)<=hh:=by rw[j9];exact SA
    obtain⟨C0,C1,C2,C3,C4,C5,C6,C7,rfl⟩:=TH.shape;conv=>whnf
    obtain⟨gf,cf,qf,f1,f2,f3,f4,f5,f6,f7,f8,S8,VN⟩:=hM.nI (k:=c) (c:=c) (by omega) (by omega);have Tw:qf=cW M2 c c:=S8.at_.symm;have VO:=ni Qz Vi c c;rw[<-Tw]at VO h0;have PN:=hJ (-q0) qf;conv=>whnf
    refine cH hτ dN [.x 0,.x 1,.x 2,.x 3,.x 4,.x 5,.x 6,.x 7,.x 8,.x 9] (by kernel_rfl) (by kernel_rfl) ?_;conv=>whnf
    refine⟨⟨gm,0,none⟩,rfl,by omega,?_⟩;conv=>whnf
    refine⟨_,fun O w' r=>hM.cell r (.inl (by rw[c9];rfl)) S8.outer,?_⟩;conv=>whnf
    refine⟨⟨gf,0,none⟩,rfl,by omega,?_⟩;conv=>whnf
    refine⟨[.bool f1,.slice f2 f3 f4,.bool f5,.slice f6 f7 f8],rfl,fun O w' r j x hx=>hM.cell r (by rw[c9,c9];exact VN) (S8.cells j x hx),?_⟩;conv=>whnf
    refine cE hw (fun _ w' v w2=>cP w2 (Nf w' w2) v (-q0*qf)) (fun O w' r=>qF (j4.old r hS) (cP.cF (TH.iH r (bw w)) fun _ hg=>(⟨Cg hg.1,hg.2⟩:j4 S _ _ _ _ _ _)) (S8.zg.iH r hS) (by omega) (by omega)) ?_;rintro O _ _ _ Tx r he hw h_ hn;have WS:=hn.beside (S0:=fun _=>False) hM r;replace hM:=fS.cD hM r hS he (mC h_);clear r he hn;clear S8 VN TH;have hO:=WS;clear WS;obtain⟨E0,E1,E2,E3,E4,E5,E6,E7,rfl⟩:=hO.shape;conv=>whnf
    refine⟨((c+1:Nat):Int),wo,?_⟩;conv=>whnf
    have Q8:=Qz;rw[Tw]at h0
    refine⟨Nat×World×Iv,fun z=>⟨[(5,.o (.v (.slice (some ⟨gm,0,none⟩) n n))),(1,iZ n),(4,pP 0 0),(7,pP 2 0),(30,iZ n),(31,iN c),(8,iN c),(10,iN z.1)],[(2,.box T.dK [.v (.bool E0),.v (.slice E1 E2 E3),.v (.bool E4),.v (.slice E5 E6 E7)]),(0,.box T.dK [.v (.bool false),.v (.slice none 0 0),.v (.bool false),.v (.slice none 0 0)])],3,z.2.2,z.2.1⟩,fun z=>n-z.1,
     fun z=>c<z.1∧z.1<=n∧dT w.heap.size w z.2.1∧fS z.2.1 S w.heap.size z.2.2 gm n n rv2 (eF M2 c z.1)∧cP z.2.1 (j4 FF w.heap.size z.2.2 gm n rv2) (.agg #[.bool E0,.slice E1 E2 E3,.bool E4,.slice E5 E6 E7]) (-q0*qf),?_,?_⟩
    ·intro O w' r
     exact⟨(c+1,w',_),⟨bV _,by dsimp only;omega,hw.tr r.cL,by rw[nh _ _ _ (Nat.le_refl _)];exact hM.rel r hS,hO.iH r (bw w)⟩,
      Sub.gn [] r⟩
    clear hw hM hO;rintro⟨i,w7,iv⟩ ⟨TJ,hi,hw,hM,hO⟩;dsimp only at TJ hi hw hM hO ⊢;conv=>whnf
    refine dB.mk ?_ ?_<;>intro OQ
    ·have OQ:i<n:=by simpa using OQ
     obtain⟨ri,S5⟩:∃r,M2[i]? =some r:=⟨_,aB (by omega)⟩
     obtain⟨rc,Tc⟩:∃r,M2[c]? =some r:=⟨_,aB (by omega)⟩
     have S9:(eF M2 c i)[i]? =some ri:=by rw[jq _ _ _ _ (.inr (Nat.le_refl _))];exact S5
     have Ue:(eF M2 c i)[c]? =some rc:=by rw[jq _ _ _ _ (.inl (Nat.le_refl _))];exact Tc
     obtain⟨gi,cd,qd,d1,d2,d3,d4,d5,d6,d7,d8,QI,QD⟩:=hM.nI (k:=i) (c:=c) (by omega) (by omega);obtain⟨gc,ce,qe,e1,e2,e3,e4,e5,e6,e7,e8,RA,UO⟩:=hM.nI (k:=c) (c:=c) (by omega) (by omega);have Qt:qd=ri.getD c 0:=by
      rw[<-QI.at_];unfold cW;rw[show (eF M2 c i).getD i []=ri by simp only[List.getD,S9,Option.getD_some]]
     have TK:qe=cW M2 c c:=by rw[<-RA.at_,pM (.inl (Nat.le_refl _))]
     have WT:=Q8.at S5;have Th:=Q8.at Tc;have QT:=nk WT (by omega) c;have Ps:=ni Q8 (by omega) c c;rw[<-Qt]at QT;rw[<-TK]at Ps;have Sa:qe≠0:=TK▸h0;have QH:=pN qd Sa;have VP:=j9 (qd / qe);have hvd:=QI.rv;have hve:=RA.rv;conv=>whnf
     refine cH hτ dN [.x 0,.x 1,.x 2,.x 3,.x 4,.x 5,.x 6,.x 7,.x 8,.x 9,.x 10,.x 11,.x 12,.x 13,.x 14,.x 15,.x 16,.x 17,.x 20,.x 21,.x 22,.x 23,.x 18,.x 19,.x 24] (by kernel_rfl) (by kernel_rfl) ?_;conv=>whnf
     refine⟨⟨gm,0,none⟩,rfl,by omega,?_⟩;conv=>whnf
     refine⟨_,fun O w' r=>hM.cell r (.inl (by rw[c9];rfl)) QI.outer,?_⟩;conv=>whnf
     refine⟨⟨gm,0,none⟩,rfl,by omega,?_⟩;conv=>whnf
     refine⟨_,fun O w' r=>hM.cell r (.inl (by rw[c9];rfl)) QI.outer,?_⟩;conv=>whnf
     refine⟨⟨gi,0,none⟩,rfl,by omega,?_⟩;conv=>whnf
     refine⟨[.bool d1,.slice d2 d3 d4,.bool d5,.slice d6 d7 d8],rfl,fun O w' r j x hx=>hM.cell r (by rw[c9,c9];exact QD) (QI.cells j x hx),?_⟩;conv=>whnf
     refine⟨⟨gm,0,none⟩,rfl,by omega,?_⟩;conv=>whnf
     refine⟨_,fun O w' r=>hM.cell r (.inl (by rw[c9];rfl)) RA.outer,?_⟩;conv=>whnf
     refine⟨⟨gc,0,none⟩,rfl,by omega,?_⟩;conv=>whnf
     refine⟨[.bool e1,.slice e2 e3 e4,.bool e5,.slice e6 e7 e8],rfl,fun O w' r j x hx=>hM.cell r (by rw[c9,c9];exact UO) (RA.cells j x hx),?_⟩;conv=>whnf
     refine⟨⟨gm,0,none⟩,rfl,by omega,?_⟩;conv=>whnf
     refine⟨_,fun O w' r=>hM.cell r (.inl (by rw[c9];rfl)) RA.outer,?_⟩;conv=>whnf
     refine cE hw (fun _ w' v w2=>cP w2 (Nf w' w2) v (qd / qe)) (fun O w' r=>H4 (j4.old r hS) (QI.zg.iH r hS) (RA.zg.iH r hS) (by omega) (by omega) Sa) ?_;rintro O _ _ _ Uf r he hw h_ hn;have hB:=hn.beside (S0:=S) hM r;replace hM:=fS.cD hM r hS he (mC h_);replace hO:=cP.nG hO r (bw w) he (mC h_);clear r he hn;clear QI RA QD UO;obtain⟨F0,F1,F2,F3,F4,F5,F6,F7,rfl⟩:=hB.shape;conv=>whnf
     refine cE hw (fun _ w' v w2=>cP w2 (Nw (j4 S w.heap.size Uf gm n rv2) w' w2) v (-(qd / qe))) (fun O w' r=>qE (j4.old r hS) (hB.iH r hS)) ?_;rintro O _ _ _ Vj r he hw h_ hn;have Ug:=hn.xn hM r;replace hM:=fS.cD hM r hS he (mC h_);replace hO:=cP.nG hO r (bw w) he (mC h_);clear r he hn;clear hB;obtain⟨G0,G1,G2,G3,G4,G5,G6,G7,rfl⟩:=Ug.shape;conv=>whnf
     refine⟨fun O w' r=>?_⟩;refine(hM.Eb r hS (by unfold maxLen;omega) (Nat.ne_of_gt TJ) hvd hve S9 Ue Ug (fun q hq=>by have:=WT q hq;omega) (fun q hq=>by have:=Th q hq;omega) (by omega)).mono fun e w8 he=>?_;obtain⟨rfl,Oc,QZ,Py⟩:=he;have PO:=(hw.tr r.cL).tr (hM.cL r Oc QZ);have TH:=hO.cC (j4.grown r (bw w) Oc QZ);replace TH:=TH.cF (S':=j4 FF w.heap.size ((w'.heap.size,w8.heap.size)::Vj) gm n rv2) fun _ hg=>⟨hg.1.mono fun p hp=>aC _ hp,hg.2⟩
     refine⟨.tuple #[],_,(w'.heap.size,w8.heap.size)::Vj,rfl,r.nJ (fun x hx=>Rel.not r (eI _) (hM.oz x (QZ x hx))) Oc,?_⟩;rw[Qt,TK,show rc=M2.getD c [] by rw[List.getD,Tc];rfl,pL S5 TJ]at Py;clear hM hO hw Oc QZ r Ug;generalize (w'.heap.size,w8.heap.size)::Vj=RU at*
     conv=>whnf
     refine⟨((i+1:Nat):Int),wo,?_⟩;conv=>whnf
     intro ρ3 w3 r3
     exact⟨(i+1,w3,_),⟨by dsimp only;omega,OQ,PO.tr r3.cL,Py.rel r3 hS,TH.iH r3 (bw w)⟩,
      Sub.gn [] r3,by dsimp only;omega⟩
    have OQ:i=n:=aU hi (by simpa using OQ);rw[OQ]at hM;conv=>whnf
    refine⟨((c+1:Nat):Int),wo,?_⟩;conv=>whnf
    intro ρ3 w3 r3;refine⟨(c+1,(gm,rv2,eF M2 c n,-q0*qf),((E0,E4),(E1,E5),(E2,E3,E6,E7)),w3,_),⟨PB,hw.tr r3.cL,hM.rel r3 hS,hO.iH r3 (bw w),sG Tf,by dsimp only;rw[R0];exact Q8.elim Vi h0,by dsimp only;rw[R0];omega,?_⟩,Sub.gn [] r3,by dsimp only;omega⟩;dsimp only
    rw[<-Vh,qg (M:=M2) Tf (Nat.le_refl n) (by omega) PB h0 (Nat.le_refl n),Tw,Rat.mul_assoc]
   have UW:c=k:=by
    have h4:((k:Int)==(c:Int))=true:=by simpa using UW
    have:=eq_of_beq h4;omega
   subst UW;have h0:=hs;clear hs;conv=>whnf
   obtain⟨gf,cf,qf,f1,f2,f3,f4,f5,f6,f7,f8,S8,VN⟩:=hM.nI (k:=c) (c:=c) (by omega) (by omega);have Tw:qf=cW M1 c c:=S8.at_.symm;have VO:=ni Qz Vi c c;rw[<-Tw]at VO h0;have PN:=hJ (q0) qf;conv=>whnf
   refine cH hτ dN [.x 0,.x 1,.x 2,.x 3,.x 4,.x 5,.x 6,.x 7,.x 8,.x 9] (by kernel_rfl) (by kernel_rfl) ?_;conv=>whnf
   refine⟨⟨gm,0,none⟩,rfl,by omega,?_⟩;conv=>whnf
   refine⟨_,fun O w' r=>hM.cell r (.inl (by rw[c9];rfl)) S8.outer,?_⟩;conv=>whnf
   refine⟨⟨gf,0,none⟩,rfl,by omega,?_⟩;conv=>whnf
   refine⟨[.bool f1,.slice f2 f3 f4,.bool f5,.slice f6 f7 f8],rfl,fun O w' r j x hx=>hM.cell r (by rw[c9,c9];exact VN) (S8.cells j x hx),?_⟩;conv=>whnf
   refine cE hw (fun _ w' v w2=>cP w2 (Nf w' w2) v (q0*qf)) (fun O w' r=>qF (j4.old r hS) (cP.cF (hO.iH r (bw w)) fun _ hg=>(⟨Cg hg.1,hg.2⟩:j4 S _ _ _ _ _ _)) (S8.zg.iH r hS) (by omega) (by omega)) ?_;rintro O _ _ _ iv31 r he hw h_ hn;have WS:=hn.beside (S0:=fun _=>False) hM r;replace hM:=fS.cD hM r hS he (mC h_);clear r he hn;clear S8 VN hO;have hO:=WS;clear WS;obtain⟨J0,J1,J2,J3,J4,J5,J6,J7,rfl⟩:=hO.shape;conv=>whnf
   refine⟨((c+1:Nat):Int),wo,?_⟩;conv=>whnf
   have Q8:=Qz;rw[Tw]at h0
   refine⟨Nat×World×Iv,fun z=>⟨[(5,.o (.v (.slice (some ⟨gm,0,none⟩) n n))),(1,iZ n),(4,pP 0 0),(7,pP 2 0),(30,iZ n),(31,iN c),(8,iN c),(10,iN z.1)],[(2,.box T.dK [.v (.bool J0),.v (.slice J1 J2 J3),.v (.bool J4),.v (.slice J5 J6 J7)]),(0,.box T.dK [.v (.bool false),.v (.slice none 0 0),.v (.bool false),.v (.slice none 0 0)])],3,z.2.2,z.2.1⟩,fun z=>n-z.1,
    fun z=>c<z.1∧z.1<=n∧dT w.heap.size w z.2.1∧fS z.2.1 S w.heap.size z.2.2 gm n n rv1 (eF M1 c z.1)∧cP z.2.1 (j4 FF w.heap.size z.2.2 gm n rv1) (.agg #[.bool J0,.slice J1 J2 J3,.bool J4,.slice J5 J6 J7]) (q0*qf),?_,?_⟩
   ·intro O w' r
    exact⟨(c+1,w',_),⟨bV _,by dsimp only;omega,hw.tr r.cL,by rw[nh _ _ _ (Nat.le_refl _)];exact hM.rel r hS,hO.iH r (bw w)⟩,
     Sub.gn [] r⟩
   clear hw hM hO;rintro⟨i,w7,iv⟩ ⟨TJ,hi,hw,hM,hO⟩;dsimp only at TJ hi hw hM hO ⊢;conv=>whnf
   refine dB.mk ?_ ?_<;>intro OQ
   ·have OQ:i<n:=by simpa using OQ
    obtain⟨ri,S5⟩:∃r,M1[i]? =some r:=⟨_,aB (by omega)⟩
    obtain⟨rc,Tc⟩:∃r,M1[c]? =some r:=⟨_,aB (by omega)⟩
    have S9:(eF M1 c i)[i]? =some ri:=by rw[jq _ _ _ _ (.inr (Nat.le_refl _))];exact S5
    have Ue:(eF M1 c i)[c]? =some rc:=by rw[jq _ _ _ _ (.inl (Nat.le_refl _))];exact Tc
    obtain⟨gi,cd,qd,d1,d2,d3,d4,d5,d6,d7,d8,QI,QD⟩:=hM.nI (k:=i) (c:=c) (by omega) (by omega);obtain⟨gc,ce,qe,e1,e2,e3,e4,e5,e6,e7,e8,RA,UO⟩:=hM.nI (k:=c) (c:=c) (by omega) (by omega);have Qt:qd=ri.getD c 0:=by
     rw[<-QI.at_];unfold cW;rw[show (eF M1 c i).getD i []=ri by simp only[List.getD,S9,Option.getD_some]]
    have TK:qe=cW M1 c c:=by rw[<-RA.at_,pM (.inl (Nat.le_refl _))]
    have WT:=Q8.at S5;have Th:=Q8.at Tc;have QT:=nk WT (by omega) c;have Ps:=ni Q8 (by omega) c c;rw[<-Qt]at QT;rw[<-TK]at Ps;have Sa:qe≠0:=TK▸h0;have QH:=pN qd Sa;have VP:=j9 (qd / qe);have hvd:=QI.rv;have hve:=RA.rv;conv=>whnf
    refine cH hτ dN [.x 0,.x 1,.x 2,.x 3,.x 4,.x 5,.x 6,.x 7,.x 8,.x 9,.x 10,.x 11,.x 12,.x 13,.x 14,.x 15,.x 16,.x 17,.x 20,.x 21,.x 22,.x 23,.x 18,.x 19,.x 24] (by kernel_rfl) (by kernel_rfl) ?_;conv=>whnf
    refine⟨⟨gm,0,none⟩,rfl,by omega,?_⟩;conv=>whnf
    refine⟨_,fun O w' r=>hM.cell r (.inl (by rw[c9];rfl)) QI.outer,?_⟩;conv=>whnf
    refine⟨⟨gm,0,none⟩,rfl,by omega,?_⟩;conv=>whnf
    refine⟨_,fun O w' r=>hM.cell r (.inl (by rw[c9];rfl)) QI.outer,?_⟩;conv=>whnf
    refine⟨⟨gi,0,none⟩,rfl,by omega,?_⟩;conv=>whnf
    refine⟨[.bool d1,.slice d2 d3 d4,.bool d5,.slice d6 d7 d8],rfl,fun O w' r j x hx=>hM.cell r (by rw[c9,c9];exact QD) (QI.cells j x hx),?_⟩;conv=>whnf
    refine⟨⟨gm,0,none⟩,rfl,by omega,?_⟩;conv=>whnf
    refine⟨_,fun O w' r=>hM.cell r (.inl (by rw[c9];rfl)) RA.outer,?_⟩;conv=>whnf
    refine⟨⟨gc,0,none⟩,rfl,by omega,?_⟩;conv=>whnf
    refine⟨[.bool e1,.slice e2 e3 e4,.bool e5,.slice e6 e7 e8],rfl,fun O w' r j x hx=>hM.cell r (by rw[c9,c9];exact UO) (RA.cells j x hx),?_⟩;conv=>whnf
    refine⟨⟨gm,0,none⟩,rfl,by omega,?_⟩;conv=>whnf
    refine⟨_,fun O w' r=>hM.cell r (.inl (by rw[c9];rfl)) RA.outer,?_⟩;conv=>whnf
    refine cE hw (fun _ w' v w2=>cP w2 (Nf w' w2) v (qd / qe)) (fun O w' r=>H4 (j4.old r hS) (QI.zg.iH r hS) (RA.zg.iH r hS) (by omega) (by omega) Sa) ?_;rintro O _ _ _ iv32 r he hw h_ hn;have hB:=hn.beside (S0:=S) hM r;replace hM:=fS.cD hM r hS he (mC h_);replace hO:=cP.nG hO r (bw w) he (mC h_);clear r he hn;clear QI RA QD UO;obtain⟨K0,K1,K2,K3,K4,K5,K6,K7,rfl⟩:=hB.shape;conv=>whnf
    refine cE hw (fun _ w' v w2=>cP w2 (Nw (j4 S w.heap.size iv32 gm n rv1) w' w2) v (-(qd / qe))) (fun O w' r=>qE (j4.old r hS) (hB.iH r hS)) ?_;rintro O _ _ _ iv33 r he hw h_ hn;have Ug:=hn.xn hM r;replace hM:=fS.cD hM r hS he (mC h_);replace hO:=cP.nG hO r (bw w) he (mC h_);clear r he hn;clear hB;obtain⟨N0,N1,N2,N3,N4,N5,N6,N7,rfl⟩:=Ug.shape;conv=>whnf
    refine⟨fun O w' r=>?_⟩;refine(hM.Eb r hS (by unfold maxLen;omega) (Nat.ne_of_gt TJ) hvd hve S9 Ue Ug (fun q hq=>by have:=WT q hq;omega) (fun q hq=>by have:=Th q hq;omega) (by omega)).mono fun e w8 he=>?_;obtain⟨rfl,Oc,QZ,Py⟩:=he;have PO:=(hw.tr r.cL).tr (hM.cL r Oc QZ);have TH:=hO.cC (j4.grown r (bw w) Oc QZ);replace TH:=TH.cF (S':=j4 FF w.heap.size ((w'.heap.size,w8.heap.size)::iv33) gm n rv1) fun _ hg=>⟨hg.1.mono fun p hp=>aC _ hp,hg.2⟩
    refine⟨.tuple #[],_,(w'.heap.size,w8.heap.size)::iv33,rfl,r.nJ (fun x hx=>Rel.not r (eI _) (hM.oz x (QZ x hx))) Oc,?_⟩;rw[Qt,TK,show rc=M1.getD c [] by rw[List.getD,Tc];rfl,pL S5 TJ]at Py;clear hM hO hw Oc QZ r Ug;generalize (w'.heap.size,w8.heap.size)::iv33=RU at*
    conv=>whnf
    refine⟨((i+1:Nat):Int),wo,?_⟩;conv=>whnf
    intro ρ3 w3 r3
    exact⟨(i+1,w3,_),⟨by dsimp only;omega,OQ,PO.tr r3.cL,Py.rel r3 hS,TH.iH r3 (bw w)⟩,
     Sub.gn [] r3,by dsimp only;omega⟩
   have OQ:i=n:=aU hi (by simpa using OQ);rw[OQ]at hM;conv=>whnf
   refine⟨((c+1:Nat):Int),wo,?_⟩;conv=>whnf
   intro ρ3 w3 r3;refine⟨(c+1,(gm,rv1,eF M1 c n,q0*qf),((J0,J4),(J1,J5),(J2,J3,J6,J7)),w3,_),⟨PB,hw.tr r3.cL,hM.rel r3 hS,hO.iH r3 (bw w),sG hlen,by dsimp only;rw[R0];exact Q8.elim Vi h0,by dsimp only;rw[R0];omega,?_⟩,Sub.gn [] r3,by dsimp only;omega⟩;dsimp only
   rw[<-hD,qg (M:=M1) hlen (Nat.le_refl n) (by omega) PB h0 (Nat.le_refl n),Tw,Rat.mul_assoc]
  have OT:k=n:=aU hk (by simpa using OT);subst OT;conv=>whnf
  refine dB.mk (fun _=>?_) (fun OS=>by simp at OS);conv=>whnf
  refine cB (cE hw (fun _ w' v w2=>cP w2 (Nf w' w2) v ((0:Int):Rat)) (fun O w' r=>xo 0 w' (by decide) (by decide)) ?_);rintro O _ _ _ Pq r he hw h_ hn;have hZ:=hn.dD (S:=FF) r.bz (mN h_);clear r he hn;obtain⟨O0,O1,O2,O3,O4,O5,O6,O7,rfl⟩:=hZ.shape;conv=>whnf
  intro ρe we re;refine⟨_,rfl,hw.tr re.cL,?_⟩;rw[<-hD,IK PB hz,az];exact hZ.out re (bw w)
 have PB:c=n:=aU hc (by simpa using PB);subst PB;rw[BN,Rat.mul_one]at hD;conv=>whnf
 intro ρe we re;refine⟨_,rfl,hw.tr re.cL,?_⟩;rw[<-hD];exact(hO.iH re (bw w)).cF fun g hg=>Cv.nw hg.1 re
end Go.Ex
namespace Go.Sx
open Go Go.Ex Go.Proofs
variable{O:Nat->Sx.dL}
theorem Sub.trans{B nx:Nat}{l:Env}{w':World}{t t2:vt}(h:Sub B l nx O w' t)(k:∀ρ1,Rel t.H t.nx t.iv B t.w ρ1 w'->Sub B t.l t.nx ρ1 w' t2):Sub B l nx O w' t2:=by
 obtain⟨ρ1,r1,e1⟩:=h;obtain⟨ρ2,r2,e2⟩:=k ρ1 r1
 exact⟨ρ2,r2,fun u v hv=>by
  obtain⟨s,v1,g1,d1⟩:=e2 u v hv;obtain⟨_,v0,g0,d0⟩:=e1 u v1 g1
  exact⟨s,v0,g0,d0.trans d1⟩⟩
end Go.Sx
namespace Go.Ex
open Go Go.Sx Go.Proofs
variable{M:List (List Rat)}{cs:List Value}{S:Nat->Prop}
section
variable{S:Nat->Prop}{H:Hp}{nx gm R:Nat}{iv iv':Iv}{B:Nat}{w w' w2:World}{O:Nat->Sx.dL}{rv:List Value}{css:List (List Value)}{qs:List Rat}
theorem Fr.iH(h:Fr w (j4 S B iv gm R rv) css qs)(r:Rel H nx iv B w O w')(hS:∀g,S g->g<B):Fr w' (j4 S B iv gm R rv) css qs:=h.cC fun _ hg=>Rel.same r hS hg.1
theorem Fr.nG(h:Fr w (j4 S B iv gm R rv) css qs)(r:Rel H nx iv B w O w')(hS:∀g,S g->g<B)(he:Ext w' w2)(hm:∀p,p∈iv->p∈iv'):Fr w2 (j4 S B iv' gm R rv) css qs:=
 ((h.iH r hS).cC fun g hg=>he.block g (Rel.old r hS g hg.1)).cF fun _ hg=>⟨hg.1.mono hm,hg.2⟩
theorem Fr.push(h:Fr w S css qs){q:Rat}(hq:mQ w S cs q):Fr w S (css++[cs]) (qs++[q]):=by
 refine⟨by simp[h.1],fun j c x h1 h2=>?_⟩;rcases aP j css.length with hj|hj
 ·rw[aJ hj]at h1;rw[aJ (by rw[<-h.1];exact hj)]at h2;exact h.2 j c x h1 h2
 ·rw[aN hj]at h1;rw[aN (by rw[<-h.1];exact hj),<-h.1]at h2;have:j-css.length=0:=by have:=(aD.1 h1).1;simp at this;omega
  rw[this]at h1 h2;injection h1 with h1;injection h2 with h2;subst h1 h2;exact hq
end
theorem Ka{w:World}{vm:Value}{h:Nat}(hS0:Old S w)(Te:uH w S vm M)(OR:∀r∈M,r.length=M.length)(hR:M.length<=1000)(Q8:Ht M h)(h2:2<=h)(Pe:4^M.length*h<=800000000):
  dx PG N.ta #[vm] w (eH w fun v' w2=>oO w2 (Nf w w2) v' (gT M)):=by
 have hw:=bR w;have hS:=hS0;obtain⟨am,cm,rfl,S1,Rc⟩:=dG.shape Te;obtain⟨R,hRe⟩:∃R,R=M.length:=⟨_,rfl⟩
 rw[<-hRe]at S1 Rc OR hR Pe Te ⊢;unfold maxLen at Rc;refine xF (by simp) ?_;conv=>whnf
 refine⟨R,R,rfl,rfl,Nat.le_refl _,by omega,by omega,?_⟩;conv=>whnf
 refine⟨List Value×World×Iv,fun z=>⟨[(0,sV am R cm),(3,sV none 0 0),(4,.o (.s 0 0 R R)),(14,iZ R),(15,.o (.v (.int .i64 (z.1.length:Nat))))],[(0,.arr T.row (z.1++List.replicate (R-z.1.length) (.slice none 0 0)))],1,z.2.2,z.2.1⟩,fun z=>R-z.1.length,
  fun z=>z.1.length<=R∧dT w.heap.size w z.2.1∧iR z.2.1 S w.heap.size z.2.2 z.1 R (M.take z.1.length)∧(∀u∈z.1,u.oneCell'=true),?_,?_⟩
 ·intro O w' r;exact⟨([],w',[]),⟨aS _,hw.tr r.cL,by simpa using iR.nil _ _ _ _ _,by simp⟩,Sub.gn [] r⟩
 clear hw;rintro⟨rv,w1,iv⟩ ⟨hi,hw,hF,h1c⟩;dsimp only at hi hw hF h1c ⊢;conv=>whnf
 refine dB.mk ?_ ?_<;>intro OQ
 ·have OQ:rv.length<R:=by simpa using OQ
  obtain⟨ra,VL⟩:∃r,M[rv.length]? =some r:=⟨_,aB (by omega)⟩
  have hral:=OR ra (aE VL);obtain⟨adx,ux,rfl,Qg,Rn,RZ⟩:=dG.load Te VL;obtain⟨aux,cux,rfl,hcux,-⟩:=Qg.shape;conv=>whnf
  refine⟨adx,rfl,by omega,?_⟩;conv=>whnf
  refine⟨.slice aux ra.length cux,rd1 RZ hw (hS _ Rn),?_⟩;conv=>whnf
  refine cB (cI (Φ:=fun _ w' v w2=>lf w2 S v R ra∧∀g,v.ownBlock=some g->w'.heap.size<=g∧g<w2.heap.size) (fun O w' r=>?_) ?_)
  ·have:=Ec (w:=w') (oS hS r) (oS hS r) (Qg.cC fun g hg=>(hw.tr r.cL).block g (hS g (hg.elim id id))) (by omega) (by omega);rw[hral]at this ⊢;exact this
  rintro O PV v1 PL r he hb ⟨SZ,Qf⟩;have Rz:=hF.snoc r hS he (SZ.cF fun g hg=>⟨.inl hg,fun e=>by have:=hS g hg;have:=Qf g e;have:=r.bz;omega,fun⟨u,hu,e⟩=>(hF.new u hu g e).elim (fun h=>h.elim) fun h=>by have:=hS g hg;omega⟩) Qf;rw[show M.take rv.length++[ra]=M.take (rv.length+1) by rw[List.take_add_one,VL];rfl]at Rz;replace hw:=hw.tr hb;obtain⟨a3,c3,rfl,-⟩:=SZ.form;clear r he hb SZ Qf hF;generalize (PV.heap.size,PL.heap.size)::iv=OZ at*
  conv=>whnf
  refine⟨by omega,?_⟩;conv=>whnf
  refine⟨by simp;omega,(rv++[.slice a3 R c3])++List.replicate (R-(rv.length+1)) (.slice none 0 0),?_,?_⟩
  ·have h5:R-rv.length=(R-(rv.length+1))+1:=by omega
   simp[h5,List.replicate_succ]
  conv=>whnf
  refine⟨((rv.length+1:Nat):Int),wo,?_⟩;conv=>whnf
  intro ρ3 w3 r3;have QH:(rv++[Value.slice a3 R c3]).length=rv.length+1:=by simp
  refine⟨(rv++[.slice a3 R c3],w3,OZ),⟨by dsimp only;rw[QH];exact OQ,hw.tr r3.cL,by dsimp only;rw[QH];exact Rz.rel r3 hS,fun u hu=>?_⟩,Sub.gn [] r3 ⟨by dsimp only;rw[QH];rfl,trivial⟩ ⟨rfl,rfl,rfl,rfl,by dsimp only;rw[QH];rfl,trivial⟩,by dsimp only;rw[QH];omega⟩;rcases List.mem_append.1 hu with hu|hu
  ·exact h1c u hu
  ·simp at hu;subst hu;rfl
 have OQ:rv.length=R:=aU hi (by simpa using OQ);rw[OQ,List.take_of_length_le (by omega)]at hF;rw[OQ,bB,List.replicate_zero,List.append_nil];conv=>whnf
 refine cB (cI (Φ:=fun _ w' v w2=>cP w2 (Nf w' w2) v ((1:Int):Rat)) (fun O w' r=>xo 1 w' (by decide) (by decide)) ?_);rintro O PV v1 PL r he hb hn;replace hw:=hw.tr hb;have hO:=hn.lim (rv:=rv) r fun u hu g hg=>hF.new u hu g hg;replace hF:iR PL S w.heap.size ((PV.heap.size,PL.heap.size)::iv) rv R M:=hF.cD r hS he fun x hx=>aC _ hx;clear r he hb hn;generalize (PV.heap.size,PL.heap.size)::iv=OZ at*
 obtain⟨A0,A1,A2,A3,A4,A5,A6,A7,rfl⟩:=hO.shape;rw[show ((1:Int):Rat)=1 by decide]at hO;conv=>whnf
 refine⟨Nat×(Nat×List Value×List (List Rat)×Rat)×List (List Value)×((Bool×Bool)×(Option Addr×Option Addr)×(Nat×Nat×Nat×Nat))×World×Iv,fun z=>⟨[(4,.o (.v (.slice (some ⟨z.2.1.1,0,none⟩) R R))),(3,.o (.w 2 z.2.2.1.length)),(0,sV am R cm),(6,pP 1 0),(29,iZ R),(30,iN z.1)],[(2,.vec T.dK 4 z.2.2.1.flatten),(1,.box T.dK [.v (.bool z.2.2.2.1.1.1),.v (.slice z.2.2.2.1.2.1.1 z.2.2.2.1.2.2.1 z.2.2.2.1.2.2.2.1),.v (.bool z.2.2.2.1.1.2),.v (.slice z.2.2.2.1.2.1.2 z.2.2.2.1.2.2.2.2.1 z.2.2.2.1.2.2.2.2.2)])],3,z.2.2.2.2.2,z.2.2.2.2.1⟩,fun z=>R-z.1,
  fun z=>z.1<=R∧dT w.heap.size w z.2.2.2.2.1∧fS z.2.2.2.2.1 S w.heap.size z.2.2.2.2.2 z.2.1.1 R R z.2.1.2.1 z.2.1.2.2.1∧cP z.2.2.2.2.1 (j4 FF w.heap.size z.2.2.2.2.2 z.2.1.1 R z.2.1.2.1) (.agg #[.bool z.2.2.2.1.1.1,.slice z.2.2.2.1.2.1.1 z.2.2.2.1.2.2.1 z.2.2.2.1.2.2.2.1,.bool z.2.2.2.1.1.2,.slice z.2.2.2.1.2.1.2 z.2.2.2.1.2.2.2.2.1 z.2.2.2.1.2.2.2.2.2]) z.2.1.2.2.2∧Fr z.2.2.2.2.1 (j4 FF w.heap.size z.2.2.2.2.2 z.2.1.1 R z.2.1.2.1) z.2.2.1 ((gT M).take z.1)∧gh R z.2.1.2.2.1∧Ht z.2.1.2.2.1 (4^z.1*h)∧rl z.2.1.2.2.2<=4^z.1*h∧∀k,z.1<=k->k<=R->z.2.1.2.2.2*jo z.2.1.2.2.1 z.1 k=jo M 0 k,?_,?_⟩
 ·intro O w' r;have Oe:=r.nn 0 _ rfl (by intros;simp) (by simp);have hG:=hF.rK r hS (id:=0) rfl Oe (by unfold maxLen;omega) h1c;rw[OQ]at hG
  refine⟨(0,((O 0).g,rv,M,1),[],((A0,A4),(A1,A5),(A2,A3,A6,A7)),w',((O 0).g,(O 0).g+1)::OZ),⟨aS _,hw.tr r.cL,hG,(hO.cC fun g hg=>Rel.same r (bw w) hg.1).cF fun g hg=>⟨hg.1.mono fun p hp=>aC _ hp,fun hm=>?_⟩,by simp[Fr],OR,by rw[Nat.pow_zero,Nat.one_mul];exact Q8,by rw[GA,Nat.pow_zero];omega,fun k _ _=>bm _⟩,
   Sub.trans (Sub.rK (tl:=[(3,sV none 0 0),(0,sV am R cm),(6,pP 1 0),(29,iZ R),(30,iN 0)]) (tH:=[(1,.box T.dK [.v (.bool A0),.v (.slice A1 A2 A3),.v (.bool A4),.v (.slice A5 A6 A7)])]) r (id:=0) (t:=4) rfl rfl ⟨rfl,trivial⟩ rfl ⟨rfl,rfl,rfl,rfl,rfl,trivial⟩ (by simp[l6,SV.sc,At.sc])) fun ρ1 r1=>
    Sub.nil 3 T.dK 4 rfl (by simp[l6,SV.sc,At.sc]) r1 fun ρ2 r2=>Sub.gn [] r2⟩
  rcases hm with hm|⟨u,hu,hm⟩
  ·injection hm with hm;exact Rel.not r (bw w) hg.1 0 _ rfl Oe hm
  ·exact hg.2 ⟨u,hu,hm⟩
 clear hw hF hO OQ hi h1c;rintro⟨c,⟨gm,rv1,M1,q0⟩,css,⟨⟨p0,p4⟩,⟨p1,p5⟩,⟨p2,p3,p6,p7⟩⟩,w1,iv⟩ ⟨hc,hw,hM,hO,hC,hlen,Qz,SA,hD⟩;dsimp only at hc hw hM hO hC hlen Qz SA hD ⊢;have Ot:=eo hC.nH;have hmf:=pO M;have PY:css.length=c:=by rw[hC.1,aZ];omega
 rw[PY]at Ot;conv=>whnf
 refine dB.mk ?_ ?_<;>intro PB
 ·have PB:c<R:=by simpa using PB
  have hHb:4^(c+1)*h<=800000000:=aW (Nat.mul_le_mul_right _ (Nat.pow_le_pow_right (by decide) PB)) Pe;have R0:4^(c+1)*h=4*(4^c*h):=by rw[Nat.pow_succ,bL (4^c) 4,bc]
  have Vi:2<=4^c*h:=aW h2 (Nat.le_mul_of_pos_left _ (Nat.pow_pos (by decide)));rw[R0]at hHb;obtain⟨hh,hhe⟩:∃x,x=4^c*h:=⟨_,rfl⟩
  rw[<-hhe]at Qz SA Vi hHb R0;have hM1l:=hM.len;obtain⟨gk,cd,qd,d1,d2,d3,d4,d5,d6,d7,d8,QI,QD⟩:=hM.nI (k:=c) (c:=c) (by omega) (by omega);conv=>whnf
  refine⟨⟨gm,0,none⟩,rfl,by omega,?_⟩;conv=>whnf
  refine⟨_,fun O w' r=>hM.cell r (.inl (by rw[c9];rfl)) QI.outer,?_⟩;conv=>whnf
  refine⟨⟨gk,0,none⟩,rfl,by omega,?_⟩;conv=>whnf
  refine⟨[.bool d1,.slice d2 d3 d4,.bool d5,.slice d6 d7 d8],rfl,fun O w' r j x hx=>hM.cell r (by rw[c9,c9];exact QD) (QI.cells j x hx),?_⟩;conv=>whnf
  have Qt:=QI.at_;refine cB (cE hw (fun _ w' v w2=>v= .int .i64 (rs qd)) (fun O w' r=>qp (j4.old r hS) (QI.zg.iH r hS)) ?_);rintro O _ _ _ Pq r he hw h_ rfl;replace hM:=fS.cD hM r hS he (mC h_);replace hO:=cP.nG hO r (bw w) he (mC h_);replace hC:=Fr.nG hC r (bw w) he (mC h_);clear r he;clear QI QD;conv=>whnf
  refine dB.mk ?_ ?_<;>intro hs
  ·clear hs Qt;conv=>whnf
   refine⟨((c+1:Nat):Int),wo,?_⟩;conv=>whnf
   refine⟨Nat×List (List Value)×World×Iv,fun z=>⟨[(3,.o (.w 2 z.2.1.length)),(0,sV am R cm),(8,iN z.1)],[(2,.vec T.dK 4 z.2.1.flatten)],3,z.2.2.2,z.2.2.1⟩,fun z=>R+1-z.1,
    fun z=>c<z.1∧z.1<=R+1∧dT w.heap.size w z.2.2.1∧Fr z.2.2.1 (Cf w z.2.2.2) z.2.1 ((gT M).take (z.1-1)),?_,?_⟩
   ·intro O w' r;exact⟨(c+1,css,w',_),⟨bV _,by dsimp only;omega,hw.tr r.cL,by dsimp only;rw[Nat.add_sub_cancel];exact(Fr.iH hC r (bw w)).cF fun g hg=>hg.1⟩,Sub.gn [] r⟩
   clear hw hM hO hC Ot PY;rintro⟨k,css,w2,iv⟩ ⟨VI,hk,hw,hC⟩;dsimp only at VI hk hw hC ⊢;have Ot:=eo hC.nH;have PY:css.length=k-1:=by rw[hC.1,aZ];omega
   conv=>whnf
   refine dB.mk ?_ ?_<;>intro OT
   ·have OT:k<=R:=by have:(k:Int)<=R:=(by simpa using OT);omega
    conv=>whnf
    refine cB (cE hw (fun _ w' v w2=>cP w2 (Nf w' w2) v (jo M 0 k)) (fun O w' r=>aAD (h:=h) (oS hS r) (lg.cC Te ((kS hw r hS))) OR OT (by omega) (by omega) Q8 h2 (aW (Nat.mul_le_mul_right _ (Nat.pow_le_pow_right (by decide) OT)) Pe)) ?_);rintro O _ _ Uh S7 r he hw h_ hn;replace hC:=hC.cD r (bw w) he (mC h_);have hd:=hn.dD (S:=FF) r.bz (mN h_);clear r he hn;obtain⟨C0,C1,C2,C3,C4,C5,C6,C7,rfl⟩:=hd.shape;conv=>whnf
    have Sp:Fr Uh (Cf w S7) (css++[[.bool C0,.slice C1 C2 C3,.bool C4,.slice C5 C6 C7]]) ((gT M).take k):=by
     obtain⟨d,rfl⟩:∃d,k=d+1:=⟨k-1,by omega⟩
     rw[List.take_add_one,lr (by omega)];exact hC.push hd.four
    have R1:css.flatten++([.bool C0,.slice C1 C2 C3,.bool C4,.slice C5 C6 C7]:List Value)=(css++([[.bool C0,.slice C1 C2 C3,.bool C4,.slice C5 C6 C7]]:List (List Value))).flatten:=by simp
    clear hC hd;refine .inl ?_;conv=>whnf
    refine⟨by omega,by omega,by unfold maxLen;omega,?_⟩;conv=>whnf
    refine⟨((k+1:Nat):Int),wo,?_⟩;conv=>whnf
    intro ρ3 w3 r3;exact⟨(k+1,css++[[.bool C0,.slice C1 C2 C3,.bool C4,.slice C5 C6 C7]],w3,_),⟨by dsimp only;omega,by dsimp only;omega,hw.tr r3.cL,by dsimp only;rw[Nat.add_sub_cancel];exact Sp.rel r3 (bw w)⟩,Sub.gn [(2,4)] r3 ⟨by dsimp only;rw[<-R1];rfl,trivial⟩ ⟨by dsimp only;rw[List.length_append,List.length_singleton];rfl,rfl,rfl,trivial⟩,by dsimp only;omega⟩
   have OT:k=R+1:=by have:¬(k:Int)<=R:=(by simpa using OT);omega
   conv=>whnf
   intro ρe we re;refine⟨_,rfl,hw.tr re.cL,?_⟩;have h5:=re.kR (id:=2) (sz:=4) (m:=css.length) rfl Ot (by unfold maxLen;omega) (by decide) hC.one;have h6:=hC.rel re (bw w);rw[List.take_of_length_le (by omega)]at h6;refine⟨css,?_,h6.cF fun _ hg=>Cv.nw hg re⟩;rw[<-h6.1];exact h5.cF fun g hg=>.inr hg
  have h0:cW M1 c c≠0:=fun e=>by rw[<-Qt,oN.2 e]at hs;simp at hs
  clear hs Qt;conv=>whnf
  obtain⟨gf,cf,qf,f1,f2,f3,f4,f5,f6,f7,f8,S8,VN⟩:=hM.nI (k:=c) (c:=c) (by omega) (by omega);have Tw:qf=cW M1 c c:=S8.at_.symm;have VO:=ni Qz Vi c c;rw[<-Tw]at VO h0;have PN:=hJ q0 qf;conv=>whnf
  refine cH hτ dN [.x 0,.x 1,.x 2,.x 3,.x 4,.x 5,.x 6,.x 7,.x 8,.x 9] (by kernel_rfl) (by kernel_rfl) ?_;conv=>whnf
  refine⟨⟨gm,0,none⟩,rfl,by omega,?_⟩;conv=>whnf
  refine⟨_,fun O w' r=>hM.cell r (.inl (by rw[c9];rfl)) S8.outer,?_⟩;conv=>whnf
  refine⟨⟨gf,0,none⟩,rfl,by omega,?_⟩;conv=>whnf
  refine⟨[.bool f1,.slice f2 f3 f4,.bool f5,.slice f6 f7 f8],rfl,fun O w' r j x hx=>hM.cell r (by rw[c9,c9];exact VN) (S8.cells j x hx),?_⟩;conv=>whnf
  refine cE hw (fun _ w' v w2=>cP w2 (Nf w' w2) v (q0*qf)) (fun O w' r=>qF (j4.old r hS) (cP.cF (hO.iH r (bw w)) fun _ hg=>(⟨Cg hg.1,hg.2⟩:j4 S _ _ _ _ _ _)) (S8.zg.iH r hS) (by omega) (by omega)) ?_;rintro O _ _ _ Vk r he hw h_ hn;have WS:=hn.beside (S0:=fun _=>False) hM r;replace hM:=fS.cD hM r hS he (mC h_);replace hC:=Fr.nG hC r (bw w) he (mC h_);clear r he hn;clear S8 VN hO;have hO:=WS;clear WS;obtain⟨E0,E1,E2,E3,E4,E5,E6,E7,rfl⟩:=hO.shape;conv=>whnf
  have TL:q0*qf=jo M 0 (c+1):=by
   rw[<-hD (c+1) (by omega) (by omega),qg (M:=M1) hlen (n:=c+1) (by omega) (by omega) (by omega) (Tw▸h0) (Nat.le_refl _),BN,Rat.mul_one,Tw]
  obtain⟨Ty,hcss⟩:∃x,x=css++[[.bool E0,.slice E1 E2 E3,.bool E4,.slice E5 E6 E7]]:=⟨_,rfl⟩
  have Sp:=hC.push hO.four;rw[<-hcss,TL,show(gT M).take c++[jo M 0 (c+1)]=(gT M).take (c+1) by rw[List.take_add_one,lr (by omega)];rfl]at Sp;have R1:css.flatten++([.bool E0,.slice E1 E2 E3,.bool E4,.slice E5 E6 E7]:List Value)=Ty.flatten:=by rw[hcss];simp
  have hcl2:Ty.length=css.length+1:=by rw[hcss];simp
  clear hC;have hC:=Sp;clear Sp;refine .inl ?_;conv=>whnf
  refine⟨by omega,by omega,by unfold maxLen;omega,?_⟩;conv=>whnf
  refine⟨((c+1:Nat):Int),wo,?_⟩;conv=>whnf
  have Q8:=Qz;rw[Tw]at h0
  refine⟨Nat×World×Iv,fun z=>⟨[(4,.o (.v (.slice (some ⟨gm,0,none⟩) R R))),(3,.o (.w 2 Ty.length)),(0,sV am R cm),(6,pP 1 0),(29,iZ R),(30,iN c),(7,iN c),(9,iN z.1)],[(2,.vec T.dK 4 Ty.flatten),(1,.box T.dK [.v (.bool E0),.v (.slice E1 E2 E3),.v (.bool E4),.v (.slice E5 E6 E7)])],3,z.2.2,z.2.1⟩,fun z=>R-z.1,
   fun z=>c<z.1∧z.1<=R∧dT w.heap.size w z.2.1∧fS z.2.1 S w.heap.size z.2.2 gm R R rv1 (eF M1 c z.1)∧cP z.2.1 (j4 FF w.heap.size z.2.2 gm R rv1) (.agg #[.bool E0,.slice E1 E2 E3,.bool E4,.slice E5 E6 E7]) (q0*qf)∧Fr z.2.1 (j4 FF w.heap.size z.2.2 gm R rv1) Ty ((gT M).take (c+1)),?_,?_⟩
  ·intro O w' r
   exact⟨(c+1,w',_),⟨bV _,by dsimp only;omega,hw.tr r.cL,by rw[nh _ _ _ (Nat.le_refl _)];exact hM.rel r hS,hO.iH r (bw w),Fr.iH hC r (bw w)⟩,
    Sub.gn [(2,4)] r ⟨by rw[<-R1];rfl,rfl,trivial⟩ ⟨rfl,by rw[hcl2];rfl,rfl,rfl,rfl,rfl,rfl,rfl,trivial⟩⟩
  clear hw hM hO hC;rintro⟨i,w7,iv⟩ ⟨TJ,hi,hw,hM,hO,hC⟩;dsimp only at TJ hi hw hM hO hC ⊢;conv=>whnf
  refine dB.mk ?_ ?_<;>intro OQ
  ·have OQ:i<R:=by simpa using OQ
   obtain⟨ri,S5⟩:∃r,M1[i]? =some r:=⟨_,aB (by omega)⟩
   obtain⟨rc,Tc⟩:∃r,M1[c]? =some r:=⟨_,aB (by omega)⟩
   have S9:(eF M1 c i)[i]? =some ri:=by rw[jq _ _ _ _ (.inr (Nat.le_refl _))];exact S5
   have Ue:(eF M1 c i)[c]? =some rc:=by rw[jq _ _ _ _ (.inl (Nat.le_refl _))];exact Tc
   obtain⟨gi,cd,qd,d1,d2,d3,d4,d5,d6,d7,d8,QI,QD⟩:=hM.nI (k:=i) (c:=c) (by omega) (by omega);obtain⟨gc,ce,qe,e1,e2,e3,e4,e5,e6,e7,e8,RA,UO⟩:=hM.nI (k:=c) (c:=c) (by omega) (by omega);have Qt:qd=ri.getD c 0:=by
    rw[<-QI.at_];unfold cW;rw[show (eF M1 c i).getD i []=ri by simp only[List.getD,S9,Option.getD_some]]
   have TK:qe=cW M1 c c:=by rw[<-RA.at_,pM (.inl (Nat.le_refl _))]
   have WT:=Q8.at S5;have Th:=Q8.at Tc;have QT:=nk WT (by omega) c;have Ps:=ni Q8 (by omega) c c;rw[<-Qt]at QT;rw[<-TK]at Ps;have Sa:qe≠0:=TK▸h0;have QH:=pN qd Sa;have VP:=j9 (qd / qe);have hvd:=QI.rv;have hve:=RA.rv;conv=>whnf
   refine cH hτ dN [.x 0,.x 1,.x 2,.x 3,.x 4,.x 5,.x 6,.x 7,.x 8,.x 9,.x 10,.x 11,.x 12,.x 13,.x 14,.x 15,.x 16,.x 17,.x 20,.x 21,.x 22,.x 23,.x 18,.x 19,.x 24] (by kernel_rfl) (by kernel_rfl) ?_;conv=>whnf
   refine⟨⟨gm,0,none⟩,rfl,by omega,?_⟩;conv=>whnf
   refine⟨_,fun O w' r=>hM.cell r (.inl (by rw[c9];rfl)) QI.outer,?_⟩;conv=>whnf
   refine⟨⟨gm,0,none⟩,rfl,by omega,?_⟩;conv=>whnf
   refine⟨_,fun O w' r=>hM.cell r (.inl (by rw[c9];rfl)) QI.outer,?_⟩;conv=>whnf
   refine⟨⟨gi,0,none⟩,rfl,by omega,?_⟩;conv=>whnf
   refine⟨[.bool d1,.slice d2 d3 d4,.bool d5,.slice d6 d7 d8],rfl,fun O w' r j x hx=>hM.cell r (by rw[c9,c9];exact QD) (QI.cells j x hx),?_⟩;conv=>whnf
   refine⟨⟨gm,0,none⟩,rfl,by omega,?_⟩;conv=>whnf
   refine⟨_,fun O w' r=>hM.cell r (.inl (by rw[c9];rfl)) RA.outer,?_⟩;conv=>whnf
   refine⟨⟨gc,0,none⟩,rfl,by omega,?_⟩;conv=>whnf
   refine⟨[.bool e1,.slice e2 e3 e4,.bool e5,.slice e6 e7 e8],rfl,fun O w' r j x hx=>hM.cell r (by rw[c9,c9];exact UO) (RA.cells j x hx),?_⟩;conv=>whnf
   refine⟨⟨gm,0,none⟩,rfl,by omega,?_⟩;conv=>whnf
   refine⟨_,fun O w' r=>hM.cell r (.inl (by rw[c9];rfl)) RA.outer,?_⟩;conv=>whnf
   refine cE hw (fun _ w' v w2=>cP w2 (Nf w' w2) v (qd / qe)) (fun O w' r=>H4 (j4.old r hS) (QI.zg.iH r hS) (RA.zg.iH r hS) (by omega) (by omega) Sa) ?_;rintro O _ _ _ iv13 r he hw h_ hn;have hB:=hn.beside (S0:=S) hM r;replace hM:=fS.cD hM r hS he (mC h_);replace hO:=cP.nG hO r (bw w) he (mC h_);replace hC:=Fr.nG hC r (bw w) he (mC h_);clear r he hn;clear QI RA QD UO;obtain⟨F0,F1,F2,F3,F4,F5,F6,F7,rfl⟩:=hB.shape;conv=>whnf
   refine cE hw (fun _ w' v w2=>cP w2 (Nw (j4 S w.heap.size iv13 gm R rv1) w' w2) v (-(qd / qe))) (fun O w' r=>qE (j4.old r hS) (hB.iH r hS)) ?_;rintro O _ _ _ Vl r he hw h_ hn;have Ug:=hn.xn hM r;replace hM:=fS.cD hM r hS he (mC h_);replace hO:=cP.nG hO r (bw w) he (mC h_);replace hC:=Fr.nG hC r (bw w) he (mC h_);clear r he hn;clear hB;obtain⟨G0,G1,G2,G3,G4,G5,G6,G7,rfl⟩:=Ug.shape;conv=>whnf
   refine⟨fun O w' r=>?_⟩;refine(hM.Eb r hS (by unfold maxLen;omega) (Nat.ne_of_gt TJ) hvd hve S9 Ue Ug (fun q hq=>by have:=WT q hq;omega) (fun q hq=>by have:=Th q hq;omega) (by omega)).mono fun e w8 he=>?_;obtain⟨rfl,Oc,QZ,Py⟩:=he;have PO:=(hw.tr r.cL).tr (hM.cL r Oc QZ);have TH:=hO.cC (j4.grown r (bw w) Oc QZ);replace TH:=TH.cF (S':=j4 FF w.heap.size ((w'.heap.size,w8.heap.size)::Vl) gm R rv1) fun _ hg=>⟨hg.1.mono fun p hp=>aC _ hp,hg.2⟩
   have Sp:=(hC.cC (j4.grown r (bw w) Oc QZ)).cF (S':=j4 FF w.heap.size ((w'.heap.size,w8.heap.size)::Vl) gm R rv1) fun _ hg=>⟨hg.1.mono fun p hp=>aC _ hp,hg.2⟩
   refine⟨.tuple #[],_,(w'.heap.size,w8.heap.size)::Vl,rfl,r.nJ (fun x hx=>Rel.not r (eI _) (hM.oz x (QZ x hx))) Oc,?_⟩;rw[Qt,TK,show rc=M1.getD c [] by rw[List.getD,Tc];rfl,pL S5 TJ]at Py;clear hM hO hw Oc QZ r Ug hC;generalize (w'.heap.size,w8.heap.size)::Vl=RU at*
   conv=>whnf
   refine⟨((i+1:Nat):Int),wo,?_⟩;conv=>whnf
   intro ρ3 w3 r3
   exact⟨(i+1,w3,_),⟨by dsimp only;omega,OQ,PO.tr r3.cL,Py.rel r3 hS,TH.iH r3 (bw w),Fr.iH Sp r3 (bw w)⟩,
    Sub.gn [] r3,by dsimp only;omega⟩
  have OQ:i=R:=aU hi (by simpa using OQ);rw[OQ]at hM;conv=>whnf
  refine⟨((c+1:Nat):Int),wo,?_⟩;conv=>whnf
  intro ρ3 w3 r3;refine⟨(c+1,(gm,rv1,eF M1 c R,q0*qf),Ty,((E0,E4),(E1,E5),(E2,E3,E6,E7)),w3,_),⟨PB,hw.tr r3.cL,hM.rel r3 hS,hO.iH r3 (bw w),Fr.iH hC r3 (bw w),sG hlen,by dsimp only;rw[R0];exact Q8.elim Vi h0,by dsimp only;rw[R0];omega,fun k h3 h4=>?_⟩,Sub.gn [] r3,by dsimp only;omega⟩;dsimp only at h3 ⊢;rw[<-hD k (by omega) h4,qg (M:=M1) hlen h4 (by omega) h3 h0 h4,Tw,Rat.mul_assoc]
 have PB:c=R:=aU hc (by simpa using PB);replace hC:=hC.cF (S':=Cf w iv) fun g hg=>hg.1;rw[<-PY]at Ot;conv=>whnf
 intro ρe we re;refine⟨_,rfl,hw.tr re.cL,?_⟩;have h5:=re.kR (id:=2) (sz:=4) (m:=css.length) rfl Ot (by unfold maxLen;omega) (by decide) hC.one;have h6:=hC.rel re (bw w);rw[List.take_of_length_le (by omega)]at h6;refine⟨css,?_,h6.cF fun _ hg=>Cv.nw hg re⟩;rw[<-h6.1];exact h5.cF fun g hg=>.inr hg
end Go.Ex
namespace Go.Ex
open Go Go.Sx Go.Proofs
variable{cs:List Value}{O:Nat->Sx.dL}
inductive Tp where
 |nil
 |x (i:Nat) (t:Tp)
 |two (i:Nat) (t:Tp) (j:Nat) (u:Tp)
 |rK (id:Nat) (t:Tp)
section
variable{P:Program}{τ:mo}{ops:Array Oper}{B n nx:Nat}{l:Env}{H:Hp}{iv:Iv}{w w':World}{O:Nat->Sx.dL}{a:Act}
end
theorem uI{l tl:Env}{nx t id n:Nat}(hn:(O id).nil=false)(ht:fR l t=some (.o (.w id n)))(h1:D4 l tl)(h2:l6 nx tl):∀u v,fR ((t,.o (.v (.slice (some ⟨(O id).g,0,none⟩) n (O id).cap)))::tl) u=some v->v.sc nx∧∃v',fR l u=some v'∧v'.den O=v.den O:=fun u v hv=>by
 rw[eW]at hv;split at hv
 ·rename_i e;subst e;injection hv with hv;subst hv;exact⟨trivial,_,ht,by simp[SV.den,At.den,hn]⟩
 ·exact⟨h2.get u v hv,v,h1.get u v hv,rfl⟩
theorem MR{H:Hp}{nx:Nat}{iv:Iv}{B:Nat}{w w':World}(r:Rel H nx iv B w O w'){id t m sz:Nat}(h:cV H id=some (.vec t sz cs))(hm:cs.length=m*sz)(Sd:m<=maxLen)(hs:0<sz)(h0:0<m)(h1:∀u∈cs,u.oneCell'=true):
  (O id).nil=false∧B<=(O id).g∧iu w' (fun g=>g=(O id).g) sz (.slice (some ⟨(O id).g,0,none⟩) m (O id).cap) cs m:=by
 rcases r.vec id t sz _ h with⟨hn,rfl⟩|⟨hn,spare,hb,hc,QF⟩
 ·have:=Nat.mul_pos h0 hs;simp at hm;omega
 ·refine⟨hn,(r.low id _ h hn).1,Sd,hm,h1,some ⟨(O id).g,0,none⟩,(O id).cap,rfl,?_,fun j x hx=>⟨_,rfl,rfl,?_⟩⟩
  ·have h1:(cs++spare).length=cs.length+spare.length:=List.length_append;have h2:m*sz<=(O id).cap*sz:=by omega
   exact Nat.le_of_mul_le_mul_right h2 hs
  ·rw[dA,cell_of hb,aV,aJ (aD.1 hx).1];exact hx
end Go.Ex
namespace Go.Ex
section
variable{M:List (List Rat)}{b:List Rat}{n:Nat}
def dX(M:List (List Rat))(b:List Rat):List (List Rat):=M.mapIdx fun i r=>r++[b.getD i 0]
theorem jP(hl:gh n M):gh (n+1) (dX M b):=fun r hr=>by
 obtain⟨i,hi⟩:=aQ hr;unfold dX at hi;rw[List.getElem?_mapIdx]at hi
 cases hx:M[i]? with
 |none=>rw[hx]at hi;cases hi
 |some x=>
  rw[hx]at hi;injection hi with hi;subst hi;rw[List.length_append,hl x (aE hx)];rfl
theorem fP:(dX M b).length=M.length:=by simp[dX]
end
end Go.Ex
namespace Go.Ex
open Go Go.Sx Go.Proofs
variable{M:List (List (Int×Int))}{xs:List Rat}{S:Nat->Prop}{q:Rat}{v:Value}{w:World}
section
variable{S:Nat->Prop}{H:Hp}{nx:Nat}{iv0:Iv}{B:Nat}{w w' w2:World}{O:Nat->Sx.dL}{v:Value}{xs:List Rat}
end
theorem lS:rs q<0↔q<0:=by rw[rs,Int.sign_neg_iff,<-Int.not_le,Rat.num_nonneg,Rat.not_le]
theorem lO:0<rs q↔0<q:=by
 have h:=lS (q:= -q);rw[NM]at h;constructor
 ·intro k;have:=h.1 (by omega);grind
 ·intro k;have:=h.2 (by grind);omega
theorem Dq(M:List (List Rat))(n:Nat):jo M 0 n=eV n (cW M):=by
 unfold jo;rw[Nat.sub_zero];exact eh fun i j _ _=>by rw[aV,aV]
def ov{α:Type}(M:List (List α)):Nat:=if sZ M≠0 then sZ M else if iS M≠M.length then 11 else 0
theorem I8{α:Type}{M:List (List α)}(h:ov M=0):sZ M=0∧iS M=M.length:=by
 unfold ov at h;split at h
 ·rename_i h3;exact absurd h h3
 ·split at h
  ·cases h
  ·rename_i h3 h4;exact⟨by omega,by omega⟩
def sI(M:List (List Rat)):Prop:=(∀i k,i<M.length->k<i->cW M i k=cW M k i)∧∀q∈gT M,0<q
theorem zh(hS:Old S w)(h:ee w S v M):dx PG N.mG #[v] w (eH w fun v' _=>v'= .int .i64 (ov M)):=by
 have hw:=bR w;obtain⟨am,cm,rfl,S1,Rc⟩:=dG.shape h;unfold maxLen at Rc;refine pq (by simp) ?_;conv=>whnf
 refine cB (cE hw (fun _ w' v w2=>v= .int .i64 (sZ M)) (fun O w' r=>Aj (oS hS r) (ee.cC h ((kS hw r hS)))) ?_);rintro O _ _ _ OZ r he hw h_ rfl;clear r;conv=>whnf
 refine dB.mk ?_ ?_<;>intro he
 ·have he:sZ M≠0:=fun e=>by rw[e]at he;simp at he
  conv=>whnf
  exact rtn hw fun ρe we re=>by unfold ov;rw[if_pos he];rfl
 have he:(sZ M:Nat)=0:=by
  have h4:(((sZ M:Nat):Int)==(0:Int))=true:=by simpa using he
  have:=eq_of_beq h4;omega
 conv=>whnf
 refine cB (cE hw (fun _ w' v w2=>v= .int .i64 (iS M)) (fun O w' r=>vT (oS hS r) (ee.cC h ((kS hw r hS)))) ?_);rintro O _ _ _ OU r he hw h_ rfl;clear r he;conv=>whnf
 refine dB.mk ?_ ?_<;>intro hl
 ·have hl:iS M≠M.length:=fun e=>by rw[e]at hl;simp at hl
  conv=>whnf
  exact rtn hw fun ρe we re=>by unfold ov;rw[aI (by omega),if_pos hl];rfl
 have hl:(iS M:Nat)=(M.length:Nat):=by
  have h4:(((iS M:Nat):Int)==((M.length:Nat):Int))=true:=by simpa using hl
  have:=eq_of_beq h4;omega
 conv=>whnf
 exact rtn hw fun ρe we re=>by unfold ov;rw[aI (by omega),aI (by omega)];rfl
theorem Nc{f:Rat}(hS:Old S w)(hf:cP w S v f):
  dx PG N.ga #[v] w (eH w fun v' _=>v'= .bool (decide (f<=0))):=by
 have hw:=bR w;obtain⟨b1,a1,n1,c1,b2,a2,n2,c2,rfl⟩:=hf.shape;refine rH (by simp) ?_;conv=>whnf
 refine cB (cE hw (fun _ w' v w2=>v= .int .i64 (rs f)) (fun O w' r=>qp (oS hS r) (hf.cC (kS hw r hS))) ?_);rintro O _ _ _ OZ r he hw h_ rfl;clear r;conv=>whnf
 exact rtn hw fun ρe we re=>by rw[show decide (f<=0)=decide (rs f<=0)from Bool.eq_iff_iff.2 (by rw[decide_eq_true_eq,decide_eq_true_eq,<-Rat.not_lt,<-Int.not_lt,lO])];rfl
theorem GI(hS:Old S w)(hx:gj w S S v xs):
  dx PG N.eU #[v,fnV N.ga] w (eH w fun v' _=>∃z:Int,v'= .int .i64 z∧ -1<=z∧z<=9223372036854775807∧(0<=z↔∃x∈xs,x<=0)):=by
 have hw:=bR w;obtain⟨ax,cx,rfl,Tz,UA⟩:=hx.shape;unfold maxLen at UA;refine fy (by simp) ?_;conv=>whnf
 refine⟨Nat×World×Iv,fun z=>⟨[(0,sV ax xs.length cx),(1,.o (.v (fnV N.ga))),(7,iZ xs.length),(8,iN z.1)],[],0,z.2.2,z.2.1⟩,fun z=>xs.length-z.1,
  fun z=>z.1<=xs.length∧dT w.heap.size w z.2.1∧∀j x,j<z.1->xs[j]? =some x->¬x<=0,?_,?_⟩
 ·intro O w' r;exact⟨(0,w',[]),⟨by simp,r.cL,by simp⟩,Sub.gn [] r⟩
 clear hw;rintro⟨i,w1,iv⟩ ⟨hi,hw,ht⟩;dsimp only at hi hw ht ⊢;conv=>whnf
 refine dB.mk ?_ ?_<;>intro OQ
 ·have OQ:i<xs.length:=by simpa using OQ
  obtain⟨x,Pz⟩:∃x,xs[i]? =some x:=⟨_,aB OQ⟩
  obtain⟨adx,csx,Pu,Qg,Pt⟩:=hx.load Pz;obtain⟨p0,p1,p2,p3,p4,p5,p6,p7,rfl,Qg⟩:=Qg;conv=>whnf
  refine⟨adx,Pu,by omega,?_⟩;conv=>whnf
  refine⟨[.bool p0,.slice p1 p2 p3,.bool p4,.slice p5 p6 p7],rfl,rdO Pt hw hS,?_⟩;conv=>whnf
  refine cB (cE hw (fun _ w' v w2=>v= .bool (decide (x<=0))) (fun O w' r=>Nc (oS hS r) (Qg.cC (kS hw r hS))) ?_);rintro O _ _ _ OZ r he hw h_ rfl;clear r;conv=>whnf
  refine dB.mk ?_ ?_<;>intro he
  ·have UU:x<=0:=aK he;conv=>whnf
   exact rtn hw fun ρe we re=>⟨_,rfl,by omega,by omega,iff_of_true (by omega) ⟨x,aE Pz,UU⟩⟩
  have UU:¬x<=0:=aH he;conv=>whnf
  refine⟨((i+1:Nat):Int),wo,?_⟩;conv=>whnf
  intro ρ3 w3 r3;refine⟨(i+1,w3,_),⟨OQ,hw.tr r3.cL,fun j y hj hy=>?_⟩,Sub.gn [] r3,by dsimp only;omega⟩;rcases aP j i with h|h
  ·exact ht j y h hy
  obtain rfl:j=i:=by dsimp only at hj;omega
  rw[Pz]at hy;injection hy with hy;rw[<-hy];exact UU
 have OQ:i=xs.length:=aU hi (by simpa using OQ);conv=>whnf
 intro ρe we re
 exact⟨_,rfl,hw.tr re.cL,⟨_,rfl,by omega,by omega,iff_of_false (by omega) fun⟨x,hm,h0⟩=>by
   obtain⟨j,hj⟩:=aQ hm;have Sn:j<xs.length:=(aD.1 hj).1
   exact ht j x (by omega) hj h0⟩⟩
theorem Ak(hS:Old S w)(hx:gj w S S v xs):
  dx PG N.eM #[v,fnV N.ga] w (eH w fun v' _=>v'= .bool (decide (∃x∈xs,x<=0))):=by
 have hw:=bR w;have Rh:=hx;obtain⟨ax,cx,rfl,Tz,-⟩:=Rh.shape;refine fc (by simp) ?_;conv=>whnf
 refine cB (cE hw (fun _ w' v w2=>∃z:Int,v= .int .i64 z∧ -1<=z∧z<=9223372036854775807∧(0<=z↔∃x∈xs,x<=0)) (fun O w' r=>GI (oS hS r) (hx.cC fun g hg=>(hw.tr r.cL).block g (hS g (hg.elim id id)))) ?_);rintro O _ _ _ OZ r he hw h_ ⟨z,rfl,Ol,Pf,hz⟩;clear r;conv=>whnf
 exact rtn hw fun ρe we re=>by rw[show decide (∃x∈xs,x<=0)=decide (z≥0)from Bool.eq_iff_iff.2 (by rw[decide_eq_true_eq,decide_eq_true_eq];exact hz.symm)];rfl
theorem rX{h0:Nat}(hS:Old S w)(h:ee w S v M)(hf:ov M=0->(∀r∈M,Few r)∧Ht (kY M) h0∧2<=h0∧4^M.length*h0<=800000000)(h0b:h0<=1000000000):
  dx PG N.pX #[v] w (eH w fun v' _=>(ov M≠0∧v'= .tuple #[.bool false,.int .i64 (ov M)])∨(ov M=0∧∃d,v'= .tuple #[.bool d,.int .i64 0]∧(d=true->sI (kY M))∧(sI (kY M)->d=true))):=by
 have hw:=bR w;obtain⟨am,cm,rfl,S1,Rc⟩:=dG.shape h;refine tu (by simp) ?_;conv=>whnf
 refine cB (cE hw (fun _ w' v w2=>v= .int .i64 ((ov M:Nat):Int)) (fun O w' r=>zh (oS hS r) (ee.cC h ((kS hw r hS)))) ?_);rintro O _ _ _ OZ r he hw h_ rfl;clear r;conv=>whnf
 refine dB.mk ?_ ?_<;>intro he
 ·have he:ov M≠0:=fun e=>by rw[e]at he;simp at he
  conv=>whnf
  exact rtn hw fun ρe we re=>.inl ⟨he,rfl⟩
 have he:(ov M:Nat)=0:=by
  have h4:(((ov M:Nat):Int)==(0:Int))=true:=by simpa using he
  have:=eq_of_beq h4;omega
 obtain⟨hfM,Q8,h2,Pe⟩:=hf he;obtain⟨hE,hsq⟩:=I8 he;obtain⟨OR,hRl,PY⟩:=I9 hE;have hAl:(kY M).length=M.length:=by simp[kY]
 have Ti:∀r∈kY M,r.length=(kY M).length:=fun r hr=>by
  obtain⟨x,hx,rfl⟩:=aR.1 hr;rw[aL,hAl,OR x hx,hsq]
 conv=>whnf
 refine cB (cE hw (fun _ w' v w2=>lg w2 (Nf w' w2) v (kY M)) (fun O w' r=>Ia (oS hS r) (ee.cC h ((kS hw r hS))) hfM (fun r hr=>by rw[OR r hr];omega) (by omega)) ?_);rintro O _ _ _ OU r he hw h_ hn;have gA:=hn.dD (S:=FF) r.bz (mN h_);clear r he;obtain⟨aA,cA,rfl⟩:=gA.shape;rw[hAl]at gA Ti ⊢;clear hf h hfM;generalize kY M=A at*
 generalize M.length=R at*
 conv=>whnf
 refine⟨Nat×World×Iv,fun z=>⟨[(5,sV aA R cA),(16,iZ R),(17,iN z.1)],[],0,z.2.2,z.2.1⟩,fun z=>R-z.1,
  fun z=>z.1<=R∧dT w.heap.size w z.2.1∧lg z.2.1 (Cf w z.2.2) (.slice aA R cA) A∧∀i k,i<z.1->k<i->cW A i k=cW A k i,?_,?_⟩
 ·intro O w' r;exact⟨(0,w',_),⟨aS _,hw.tr r.cL,gA.rel r (bw w),fun i k hi=>by dsimp only at hi;omega⟩,Sub.gn [] r⟩
 clear hw gA;rintro⟨i,w1,iv⟩ ⟨hi,hw,gA,hs⟩;dsimp only at hi hw gA hs ⊢;conv=>whnf
 refine dB.mk ?_ ?_<;>intro OQ
 ·have OQ:i<R:=by simpa using OQ
  conv=>whnf
  refine⟨Nat×World×Iv,fun z=>⟨[(5,sV aA R cA),(16,iZ R),(17,iN i),(6,iN i),(20,iN i),(21,iN z.1)],[],0,z.2.2,z.2.1⟩,fun z=>i-z.1,
   fun z=>z.1<=i∧dT w.heap.size w z.2.1∧lg z.2.1 (Cf w z.2.2) (.slice aA R cA) A∧∀k,k<z.1->cW A i k=cW A k i,?_,?_⟩
  ·intro O w' r;exact⟨(0,w',_),⟨aS _,hw.tr r.cL,gA.rel r (bw w),fun k hk=>by dsimp only at hk;omega⟩,Sub.gn [] r⟩
  clear hw gA;rintro⟨k,w1,iv⟩ ⟨hk,hw,gA,ht⟩;dsimp only at hk hw gA ht ⊢;conv=>whnf
  refine dB.mk ?_ ?_<;>intro OT
  ·have OT:k<i:=by simpa using OT
   obtain⟨rd,hrd⟩:∃r,A[i]? =some r:=⟨_,aB (by omega)⟩
   have Sb:=Ti rd (aE hrd);obtain⟨qd,Qt⟩:∃q,rd[k]? =some q:=⟨_,aB (by omega)⟩
   have hed:cW A i k=qd:=by unfold cW;simp[List.getD,hrd,Qt]
   obtain⟨add,ud,Om,hRd,k1d,k2d⟩:=dG.load (show uH _ _ _ _ from gA) hrd;obtain⟨aud,cud,rfl⟩:=dG.rowOf hRd;obtain⟨aed,csd,haed,hFd,hled⟩:=hRd.load Qt;obtain⟨d0,d1,d2,d3,d4,d5,d6,d7,rfl,hFd⟩:=hFd;obtain⟨re,hre⟩:∃r,A[k]? =some r:=⟨_,aB (by omega)⟩
   have hle:=Ti re (aE hre);obtain⟨qe,TK⟩:∃q,re[i]? =some q:=⟨_,aB (by omega)⟩
   have hee:cW A k i=qe:=by unfold cW;simp[List.getD,hre,TK]
   obtain⟨ade,ue,hae,hRe,k1e,k2e⟩:=dG.load (show uH _ _ _ _ from gA) hre;obtain⟨aue,cue,rfl⟩:=dG.rowOf hRe;obtain⟨aee,cse,haee,hFe,hlee⟩:=hRe.load TK;obtain⟨e0,e1,e2,e3,e4,e5,e6,e7,rfl,hFe⟩:=hFe;have hqd2:=Q8.at hrd qd (aE Qt);have hqe2:=Q8.at hre qe (aE TK);conv=>whnf
   refine cH hτ dN [.x 0,.x 1,.x 2,.x 3,.x 4,.x 5,.x 6,.x 7,.x 8,.x 9,.x 10,.x 11,.x 12,.x 13,.x 14,.x 15] (by kernel_rfl) (by kernel_rfl) ?_;conv=>whnf
   refine⟨add,Om,by omega,?_⟩;conv=>whnf
   refine⟨.slice aud rd.length cud,fun O w' r=>?_,?_⟩
   ·rw[aF,cJ (w:=w1) (w2:=w') (by rw[c9];exact Rel.same r (bw w) k1d)];exact k2d
   conv=>whnf
   refine⟨aed,haed,by omega,?_⟩;conv=>whnf
   refine⟨[.bool d0,.slice d1 d2 d3,.bool d4,.slice d5 d6 d7],rfl,fun O w' r j u hu=>?_,?_⟩
   ·obtain⟨z1,z2⟩:=hled j u hu;rw[aF,cJ (w:=w1) (w2:=w') (by rw[c9,c9];exact Rel.same r (bw w) z1)];exact z2
   conv=>whnf
   refine⟨ade,hae,by omega,?_⟩;conv=>whnf
   refine⟨.slice aue re.length cue,fun O w' r=>?_,?_⟩
   ·rw[aF,cJ (w:=w1) (w2:=w') (by rw[c9];exact Rel.same r (bw w) k1e)];exact k2e
   conv=>whnf
   refine⟨aee,haee,by omega,?_⟩;conv=>whnf
   refine⟨[.bool e0,.slice e1 e2 e3,.bool e4,.slice e5 e6 e7],rfl,fun O w' r j u hu=>?_,?_⟩
   ·obtain⟨z1,z2⟩:=hlee j u hu;rw[aF,cJ (w:=w1) (w2:=w') (by rw[c9,c9];exact Rel.same r (bw w) z1)];exact z2
   conv=>whnf
   refine cE hw (fun _ w' v w2=>v= .int .i64 (rs (qd-qe))) (fun O w' r=>Kb (Rel.old r (bw w)) (hFd.rel r (bw w)) (hFe.rel r (bw w)) (by have:=h0b;omega) (by have:=h0b;omega)) ?_;rintro O _ _ _ Pq r he hw h_ rfl;replace gA:=gA.cD r (bw w) he (mC h_);clear r he;conv=>whnf
   clear hRd hRe hFd hFe hled hlee k1d k1e k2d k2e;refine dB.mk ?_ ?_<;>intro hc
   ·have hc:qd≠qe:=fun e=>by rw[Mn.2 e]at hc;simp at hc
    conv=>whnf
    exact rtn hw fun ρe we re=>.inr ⟨he,false,rfl,fun h=>(by cases h),fun h=>absurd (by rw[<-hed,<-hee];exact h.1 i k (by omega) OT) hc⟩
   have hc:qd=qe:=Mn.1 (by simpa using hc);conv=>whnf
   refine⟨((k+1:Nat):Int),wo,?_⟩;conv=>whnf
   intro ρ3 w3 r3;refine⟨(k+1,w3,_),⟨OT,hw.tr r3.cL,gA.rel r3 (bw w),fun j hj=>?_⟩,Sub.gn [] r3,by dsimp only;omega⟩;rcases aP j k with h1|h1
   ·exact ht j h1
   ·rw[show j=k by dsimp only at hj;omega,hed,hee,hc]
  have OT:k=i:=aU hk (by simpa using OT);conv=>whnf
  refine⟨((i+1:Nat):Int),wo,?_⟩;conv=>whnf
  intro ρ3 w3 r3;refine⟨(i+1,w3,_),⟨OQ,hw.tr r3.cL,gA.rel r3 (bw w),fun i2 k2 h1 h2=>?_⟩,Sub.gn [] r3,by dsimp only;omega⟩;rcases aP i2 i with h3|h3
  ·exact hs i2 k2 h3 h2
  ·obtain rfl:i2=i:=by dsimp only at h1;omega
   exact ht k2 (by omega)
 have OQ:i=R:=aU hi (by simpa using OQ);subst OQ;conv=>whnf
 refine cB (cE hw (fun _ w' v w2=>oO w2 (Nf w' w2) v (gT A)) (fun O w' r=>Ka (h:=h0) (Rel.old r (bw w)) (gA.rel r (bw w)) (fun r hr=>(Ti r hr).trans hAl.symm) (by omega) Q8 h2 (by rw[hAl];exact Pe)) ?_);rintro O _ _ _ S7 r he hw h_ hn;clear gA;have gm:=hn.dD (S:=FF) r.bz (mN h_);clear r he;obtain⟨ag,cg,rfl⟩:=gm.shape;conv=>whnf
 refine cB (cE hw (fun _ w' v w2=>v= .bool (decide (∃x∈gT A,x<=0))) (fun O w' r=>Ak (Rel.old r (bw w)) (gm.rel r (bw w))) ?_);rintro O _ _ _ Tx r he hw h_ rfl;clear gm;clear r he;conv=>whnf
 exact rtn hw fun ρe we re=>.inr ⟨he,_,rfl,fun h=>⟨fun i k hi hk=>hs i k (by omega) hk,fun q hq=>Rat.not_le.1 fun h0=>by rw[bU (⟨q,hq,h0⟩:∃x∈gT A,x<=0)]at h;cases h⟩,fun h=>by rw[bE (fun ⟨q,hq,h0⟩=>absurd (h.2 q hq) (Rat.not_lt.2 h0):¬ ∃x∈gT A,x<=0)];rfl⟩
end Go.Ex
namespace Go.Ex
variable{E M:List (List Rat)}{s:List (List Rat)×List Nat}{pv:List Nat}{l r:List Rat}{j:Nat}{p q:Nat->Nat}{u v:Nat->Rat}
def jn:List Nat->(Nat->Rat)->Rat
 |[],_=>0
 |t::l,g=>g t+jn l g
theorem yS{g h:Nat->Rat}:∀{l:List Nat},(∀t∈l,g t=h t)->jn l g=jn l h
 |[],_=>rfl
 |t::l,e=>by show g t+_=h t+_;rw[e t aG,yS fun s hs=>e s (aC _ hs)]
theorem BK{g:Nat->Rat}:∀{l:List Nat},(∀t∈l,g t=0)->jn l g=0
 |[],_=>rfl
 |t::l,e=>by show g t+_=0;rw[e t aG,BK fun s hs=>e s (aC _ hs),bD]
theorem wA(g:Nat->Rat):∀l k:List Nat,jn (l++k) g=jn l g+jn k g
 |[],k=>(Rat.zero_add _).symm
 |t::l,k=>by show g t+jn (l++k) g=g t+jn l g+jn k g;rw[wA g l k,Rat.add_assoc]
theorem Dk(g:Nat->Rat):∀l:List Nat,jn l (fun t=> -g t)= -jn l g
 |[]=>rfl
 |t::l=>by show -g t+jn l _= -(g t+jn l g);rw[Dk g l,Rat.neg_add]
theorem wB(p:Nat->Bool)(g:Nat->Rat):∀l:List Nat,jn l g=jn (l.filter p) g+jn (l.filter fun t=> !p t) g
 |[]=>(bD 0).symm
 |t::l=>by
  show g t+jn l g=_;rw[wB p g l,List.filter_cons,List.filter_cons]
  cases p t with
  |true=>show _=g t+_+_;rw[Rat.add_assoc];rfl
  |false=>
   show _=jn (l.filter p) g+(g t+_)
   rw[<-Rat.add_assoc,Rat.add_comm (g t),Rat.add_assoc]
theorem yT{g:Nat->Rat}{s:Nat}:∀{l:List Nat},l.Nodup->s∈l->(∀t∈l,t≠s->g t=0)->jn l g=g s
 |[],_,hm,_=>by cases hm
 |t::l,hn,hm,h=>by
  show g t+jn l g=g s;have Qf:=List.nodup_cons.1 hn;rcases List.mem_cons.1 hm with rfl|hm
  ·rw[BK fun u hu=>h u (aC _ hu) fun e=>Qf.1 (e▸hu),bD]
  ·rw[h t aG (fun e=>Qf.1 (e▸hm)),Rat.zero_add,yT Qf.2 hm fun u hu=>h u (aC _ hu)]
theorem yU{i t:Nat}{v:Rat}:(l.set i v).getD t 0=if i=t∧i<l.length then v else l.getD t 0:=by
 simp only[List.getD,List.getElem?_set]
 by_cases h:i=t
 ·subst h;by_cases hl:i<l.length
  ·simp[hl]
  ·simp[hl]
 ·simp[h]
theorem yV{F:Nat->List Rat}{pv:List Nat}{f:Nat->Rat}(hF:∀i,F (i+1)=(F i).set (pv.getD i 0) (f i)){t:Nat}(ht:t∉pv):∀i,i<=pv.length->(F i).getD t 0=(F 0).getD t 0
 |0,_=>rfl
 |i+1,h=>by
  rw[hF,yU,aI fun e=>ht (by rw[<-e.1,List.getD,aB (by omega)];exact aX _)];exact yV hF ht i (by omega)
theorem Jf(hp:pv.Pairwise (· < ·)){i:Nat}(PE:j<i)(hi:i<pv.length):pv.getD j 0<pv.getD i 0:=by
 rw[List.getD,List.getD,aB hi,aB (by omega)];exact List.pairwise_iff_getElem.1 hp j i _ _ PE
theorem nd{F:Nat->List Rat}{pv:List Nat}{f:Nat->Rat}{n:Nat}(hF:∀i,F (i+1)=(F i).set (pv.getD i 0) (f i))(hl:∀i,(F i).length=n)(hp:pv.Pairwise (· < ·))(hn:∀p∈pv,p<n){j:Nat}:∀i,i<=pv.length->j<i->(F i).getD (pv.getD j 0) 0=f j
 |0,_,h=>by omega
 |i+1,h,hj=>by
  rw[hF,yU];rcases aP j i with h1|h1
  ·have:=Jf hp h1 (by omega);rw[aI (by omega)];exact nd hF hl hp hn i (by omega) h1
  ·have e:j=i:=by omega
   subst e;have hm:pv.getD j 0<(F j).length:=by rw[hl];exact hn _ (by rw[List.getD,aB (by omega)];exact aX _)
   rw[if_pos ⟨rfl,hm⟩]
abbrev iz(pv:List Nat)(n:Nat):List Nat:=(List.range n).filter fun c=>decide (c∉pv)
section
variable{M:List (List Rat)}{x:List Rat}{n:Nat}
end
structure Diff(A:List (List Rat))(pv:List Nat)(n:Nat)(x:List Rat):Prop where
 up:pv.Pairwise (· < ·)
 lt:∀p∈pv,p<n
 le:pv.length<=A.length
 unit:∀i j,i<pv.length->j<A.length->cW A j (pv.getD i 0)=if j=i then 1 else 0
 sum:∀j,j<A.length->jn (List.range n) (fun t=>cW A j t*x.getD t 0)=cW A j n
section
variable{A:List (List Rat)}{pv:List Nat}{n:Nat}{x:List Rat}
theorem sD{t:Nat}(h:t∈pv):∃j,j<pv.length∧pv.getD j 0=t:=by
 obtain⟨j,hj,rfl⟩:=List.mem_iff_getElem.1 h;exact⟨j,hj,by rw[List.getD,aB hj];rfl⟩
theorem pJ{c t:Nat}(ht:t∉pv)(hc:c<n):(fq A pv n c pv.length).getD t 0=if t=c then 1 else 0:=by
 rw[yV (F:=fq A pv n c) (fun i=>gl A pv n c i) ht _ (Nat.le_refl _)];show((List.replicate n (0:Rat)).set c 1).getD t 0=_;rw[yU,bN];by_cases h:c=t
 ·rw[if_pos ⟨h,hc⟩,if_pos h.symm]
 ·rw[aI (fun e=>h e.1),aI (fun e=>h e.symm)];simp only[List.getD,List.getElem?_replicate]
  split<;>rfl
theorem Diff.kin(h:Diff A pv n x){c:Nat}(hj:j<pv.length):(fq A pv n c pv.length).getD (pv.getD j 0) 0= -(cW A j c):=
 nd (F:=fq A pv n c) (f:=fun i=> -(cW A i c)) (fun i=>gl A pv n c i) (jv A pv n c) h.up h.lt _ (Nat.le_refl _) hj
theorem tG{t:Nat}(ht:t∉pv):(gW A pv n pv.length).getD t 0=0:=by
 rw[yV (F:=gW A pv n) (fun i=>gp A pv n i) ht _ (Nat.le_refl _)];show(List.replicate n (0:Rat)).getD t 0=0;simp only[List.getD,List.getElem?_replicate]
 split<;>rfl
theorem Diff.xin(h:Diff A pv n x)(hj:j<pv.length):(gW A pv n pv.length).getD (pv.getD j 0) 0=cW A j n:=
 nd (F:=gW A pv n) (f:=fun i=>cW A i n) (fun i=>gp A pv n i) (jw A pv n) h.up h.lt _ (Nat.le_refl _) hj
theorem sE:(iz pv n).Nodup:=List.Pairwise.filter _ List.nodup_range
theorem ky{c:Nat}:c∈iz pv n↔c<n∧c∉pv:=by
 unfold iz;rw[List.mem_filter,List.mem_range,decide_eq_true_eq]
theorem Diff.rest(h:Diff A pv n x){t:Nat}(ht:t<n):x.getD t 0+(gW A pv n pv.length).getD t 0* -1=jn (iz pv n) fun c=>x.getD c 0*(fq A pv n c pv.length).getD t 0:=by
 by_cases hp:t∈pv
 ·obtain⟨j,hj,rfl⟩:=sD hp;have hs:=h.sum j (Nat.lt_of_lt_of_le hj h.le);rw[wB (fun c=>decide (c∉pv)),yT (s:=pv.getD j 0) (l:=(List.range n).filter fun t=> !decide (t∉pv)) (List.Pairwise.filter _ List.nodup_range) (List.mem_filter.2 ⟨List.mem_range.2 ht,by rw[bE fun e=>e hp];rfl⟩) (fun s hs OS=>?_),h.unit j j hj (Nat.lt_of_lt_of_le hj h.le),if_pos rfl,bm]at hs
  ·rw[h.xin hj,yS (h:=fun c=> -(cW A j c*x.getD c 0)) fun c hc=>by rw[h.kin hj,Rat.mul_neg,bs],Dk,<-hs];generalize x.getD (pv.getD j 0) 0=q;generalize jn _ _=s;rw[Rat.mul_neg,Rat.mul_one,Rat.neg_add,<-Rat.add_assoc,Rat.add_comm q,Rat.add_assoc,Rat.add_neg_cancel,bD]
  ·have Q6:s∈pv:=by simpa using(List.mem_filter.1 hs).2
   obtain⟨i,hi,rfl⟩:=sD Q6;rw[h.unit i j hi (Nat.lt_of_lt_of_le hj h.le),aI (fun e=>OS (by rw[e])),bC]
 ·rw[tG hp,bC,bD,yT (s:=t) sE (ky.2 ⟨ht,hp⟩) fun c hc OS=>by rw[pJ hp (ky.1 hc).1,aI (Ne.symm OS),az],pJ hp ht,if_pos rfl,Rat.mul_one]
theorem pK{k:Nat}(hk:k<(iz pv n).length):(iz pv n).getD k 0∈iz pv n:=by rw[List.getD,aB hk];exact aX hk
theorem nf{k:Nat}(h:(eL A pv n n)[k]? =some r):k<(iz pv n).length∧r=fq A pv n ((iz pv n).getD k 0) pv.length:=by
 unfold eL at h;rw[aM]at h;obtain⟨c,hc,rfl⟩:=Option.map_eq_some_iff.1 h;refine⟨(aD.1 hc).1,?_⟩;rw[List.getD,hc];rfl
theorem Jg{i k:Nat}(hi:i<(iz pv n).length)(hk:k<(iz pv n).length)(e:(iz pv n).getD i 0=(iz pv n).getD k 0):i=k:=by
 rw[List.getD,List.getD,aB hi,aB hk]at e;rcases bp i k with h|h|h
 ·exact absurd e (List.pairwise_iff_getElem.1 sE i k hi hk h)
 ·exact h
 ·exact absurd e.symm (List.pairwise_iff_getElem.1 sE k i hk hi h)
theorem yW{k i:Nat}{s:List Rat}(hr:(eL A pv n n)[k]? =some r)(hs:(eL A pv n n)[i]? =some s):s.getD ((iz pv n).getD k 0) 0=if i=k then 1 else 0:=by
 obtain⟨hk,-⟩:=nf hr;obtain⟨hi,rfl⟩:=nf hs;have hm:=ky.1 (pK hk);rw[pJ hm.2 (ky.1 (pK hi)).1];by_cases h:i=k
 ·rw[h,if_pos rfl,if_pos rfl]
 ·rw[aI (fun e=>h (Jg hi hk e.symm)),aI h]
end
theorem mx(f:Nat->Nat->Rat)(m:Nat):∀n,cQ (fun i=>cQ (f i) m) n=cQ (fun j=>cQ (fun i=>f i j) n) m
 |0=>(dU m).symm
 |n+1=>by
  show cQ (fun i=>cQ (f i) m) n+cQ (f n) m=cQ (fun j=>cQ (fun i=>f i j) n+f n j) m;rw[fK,mx f m n]
theorem sH(x y:List Rat):∀n,fL x y n=cQ (fun t=>x.getD t 0*y.getD t 0) n
 |0=>rfl
 |n+1=>by rw[fL,sH x y n];rfl
theorem wC{f:Nat->Rat}:∀{n:Nat},(∀k,k<n->0<=f k)->0<=cQ f n
 |0,_=>Rat.le_refl
 |n+1,h=>by
  have h1:=wC (n:=n) fun k hk=>h k (by omega);have h2:=h n (by omega);show 0<=cQ f n+f n;grind
theorem wD{f:Nat->Rat}:∀{n:Nat},(∀k,k<n->0<=f k)->cQ f n<=0->∀k,k<n->f k=0
 |0,_,_,k,hk=>by omega
 |n+1,h,h0,k,hk=>by
  have h1:=wC (n:=n) fun k hk=>h k (by omega);have h2:=h n (by omega);have h3:cQ f n+f n<=0:=h0;rcases aP k n with h4|h4
  ·exact wD (fun k hk=>h k (by omega)) (by grind) k h4
  ·rw[show k=n by omega];grind
section
variable{m m':Mx}{n w p:Nat}{κ:Rat}{q:Nat->Rat}
end
theorem Ji(M:List (List Rat)):sI M↔Sy (cW M) M.length∧Po (cW M) M.length:=by
 constructor
 ·intro⟨h1,h2⟩;refine⟨fun i j hi hj=>?_,fun k hk=>?_⟩
  ·rcases bp j i with h|h|h
   ·exact h1 i j hi h
   ·rw[h]
   ·exact(h1 j i hj h).symm
  ·have:=h2 _ (aE (lr hk))
   rwa [Dq]at this
 ·intro⟨h1,h2⟩;refine⟨fun i k hi hk=>h1 i k hi (by omega),fun q hq=>?_⟩;obtain⟨k,hk⟩:=aQ hq;have hl:=(aD.1 hk).1;rw[pO]at hl;rw[lr hl]at hk;injection hk with hk;rw[<-hk,Dq];exact h2 k hl
theorem Dr{m m':Mx}{x:Nat->Rat}{n:Nat}(h:∀i j,i<n->j<n->m i j=m' i j):qf m x n=qf m' x n:=cG fun i hi=>by rw[cG fun j hj=>by rw[h i j hi hj]]
def dq(E:Mx)(r n:Nat)(v:Nat->Rat):Prop:=∃c:Nat->Rat,∀t,t<n->v t=cQ (fun i=>c i*E i t) r
structure Rf(E:Mx)(p:Nat->Nat)(r n:Nat):Prop where
 lt:∀i,i<r->p i<n
 mono:∀i j,i<j->j<r->p i<p j
 unit:∀i j,i<r->j<r->E j (p i)=if j=i then 1 else 0
 lead:∀i t,i<r->t<p i->E i t=0
section
variable{E F:Mx}{p q:Nat->Nat}{r s n:Nat}{v:Nat->Rat}
theorem Rf.coeff(h:Rf E p r n)(hv:dq E r n v):∀t,t<n->v t=cQ (fun i=>v (p i)*E i t) r:=by
 obtain⟨c,hc⟩:=hv;intro t ht;rw[hc t ht];refine cG fun i hi=>?_;rw[hc (p i) (h.lt i hi),fY hi fun k hk OS=>by rw[h.unit i k hi hk,aI OS,az],h.unit i i hi hi,if_pos rfl,Rat.mul_one]
theorem Rf.Lo(h:Rf E p r n)(hv:dq E r n v){t:Nat}(ht:t<n)(h0:v t≠0)(hz:∀k,k<t->v k=0):∃i,i<r∧p i=t:=by
 refine Decidable.byContradiction fun Rw=>h0 ?_;rw[h.coeff hv t ht,cG (g:=fun _=>0) fun i hi=>?_,dU];rcases bp (p i) t with h1|h1|h1
 ·rw[hz _ h1,bC]
 ·exact absurd ⟨i,hi,h1⟩ Rw
 ·rw[h.lead i t hi h1,az]
theorem Rf.Mi(h:Rf E p r n)(k:Rf F q s n)(hE:∀i,i<r->dq F s n (E i)){i:Nat}(hi:i<r):∃j,j<s∧q j=p i:=
 k.Lo (hE i hi) (h.lt i hi) (by rw[h.unit i i hi hi,if_pos rfl];decide) fun t ht=>h.lead i t hi ht
theorem Rf.Jj(h:Rf E p r n)(k:Rf F q s n)(hE:∀i,i<r->dq F s n (E i))(hF:∀j,j<s->dq E r n (F j)):∀i,i<r->i<s∧p i=q i:=by
 intro i
 induction i using Nat.strongRecOn with
 |ind i ih=>
  intro hi;obtain⟨j,hj,e1⟩:=h.Mi k hE hi;have PK:i<=j:=by
   refine Nat.le_of_not_lt fun Ou=>?_;have h1:=(ih j Ou (by omega)).2;have h2:=h.mono j i Ou hi;omega
  have his:i<s:=by omega
  refine⟨his,?_⟩;obtain⟨l,hl,e2⟩:=k.Mi h hF his;have Sm:i<=l:=by
   refine Nat.le_of_not_lt fun Ou=>?_;have h1:=(ih l Ou hl).2;have h2:=k.mono l i Ou his;omega
  have h3:q i<=q j:=by
   rcases aP i j with h4|h4
   ·exact Nat.le_of_lt (k.mono i j h4 hj)
   ·rw[show i=j by omega];exact Nat.le_refl _
  have h5:p i<=p l:=by
   rcases aP i l with h4|h4
   ·exact Nat.le_of_lt (h.mono i l h4 hl)
   ·rw[show i=l by omega];exact Nat.le_refl _
  omega
theorem Rf.one(h:Rf E p r n)(k:Rf F q s n)(hE:∀i,i<r->dq F s n (E i))(hF:∀j,j<s->dq E r n (F j)):r=s∧(∀i,i<r->p i=q i)∧∀i t,i<r->t<n->E i t=F i t:=by
 have h1:=h.Jj k hE hF;have h2:=k.Jj h hF hE;have Vd:r=s:=by
  rcases bp r s with h3|h3|h3
  ·have:=(h2 r h3).1;omega
  ·exact h3
  ·have:=(h1 s h3).1;omega
 refine⟨Vd,fun i hi=>(h1 i hi).2,fun i t hi ht=>?_⟩;rw[k.coeff (hE i hi) t ht,fY (i:=i) (by omega) fun j hj OS=>by rw[<-(h1 j (by omega)).2,h.unit j i (by omega) hi,aI (Ne.symm OS),bC],<-(h1 i hi).2,h.unit i i hi hi,if_pos rfl,bm]
end
theorem dq.row{E:Mx}{r n i:Nat}(hi:i<r):dq E r n (E i):=⟨fun k=>if k=i then 1 else 0,fun t _=>by
 rw[fY hi fun k _ OS=>by simp only[aI OS,bC]]
 simp only[if_pos,bm]⟩
theorem dq.add{E:Mx}{r n:Nat}(h:dq E r n u)(k:dq E r n v)(x:Rat):dq E r n fun t=>u t+x*v t:=by
 obtain⟨c,hc⟩:=h;obtain⟨d,hd⟩:=k;refine⟨fun i=>c i+x*d i,fun t ht=>?_⟩;show u t+x*v t=cQ (fun i=>(c i+x*d i)*E i t) r;rw[hc t ht,hd t ht,<-dY,<-fK];exact cG fun i _=>by grind
theorem dq.mul{E:Mx}{r n:Nat}(h:dq E r n u)(x:Rat):dq E r n fun t=>u t*x:=by
 obtain⟨c,hc⟩:=h;refine⟨fun i=>c i*x,fun t ht=>?_⟩;show u t*x=cQ (fun i=>(c i*x)*E i t) r;rw[hc t ht,<-ko];exact cG fun i _=>by grind
theorem dq.congr{E:Mx}{r n:Nat}(h:dq E r n u)(e:∀t,t<n->v t=u t):dq E r n v:=by
 obtain⟨c,hc⟩:=h;exact⟨c,fun t ht=>by rw[e t ht,hc t ht]⟩
theorem dq.trans{E F:Mx}{r s n:Nat}(h:dq E r n v)(k:∀i,i<r->dq F s n (E i)):dq F s n v:=by
 obtain⟨c,hc⟩:=h;have key:∀m,m<=r->dq F s n fun t=>cQ (fun i=>c i*E i t) m:=by
  intro m
  induction m with
  |zero=>intro _;exact⟨fun _=>0,fun t _=>by rw[cG (g:=fun _=>0) fun i _=>bC _,dU];rfl⟩
  |succ m ih=>
   intro hm;exact(ih (by omega)).add (k m (by omega)) (c m)
 exact(key r (Nat.le_refl _)).congr fun t ht=>hc t ht
def Jk(s:List (List Rat)×List Nat):Prop:=(∀i j,i<j->j<s.2.length->s.2.getD i 0<s.2.getD j 0)∧∀i t,i<s.2.length->t<s.2.getD i 0->cW s.1 i t=0
theorem Jk.step{n c:Nat}(h:Jk s)(hr:Nt n c s)(hc:c<n):Jk (dg s c):=by
 obtain⟨hl,hle,hz,Qe,hu⟩:=hr;rcases kF c hle with⟨e,-⟩|⟨k,h1,h2,h3,e⟩
 ·rw[e];exact h
 ·obtain⟨r1,r2⟩:=nc hl h1 h2 h3 e;have e2:(dg s c).2=s.2++[c]:=by rw[e]
  have hold:∀i,i<s.2.length->(dg s c).2.getD i 0=s.2.getD i 0:=fun i hi=>by rw[e2,List.getD,aJ hi,<-List.getD]
  have Q5:(dg s c).2.getD s.2.length 0=c:=by rw[e2,List.getD,aN (Nat.le_refl _),bB];rfl
  have Ou:∀i,i<s.2.length->s.2.getD i 0<c:=fun i hi=>Qe _ (by rw[List.getD,aB hi];exact aX _);have hlen:(dg s c).2.length=s.2.length+1:=by rw[e2];simp
  refine⟨fun i j PE hj=>?_,fun i t hi ht=>?_⟩
  ·rw[hlen]at hj;rcases aP j s.2.length with h4|h4
   ·rw[hold i (by omega),hold j h4];exact h.1 i j PE h4
   ·rw[show j=s.2.length by omega,Q5,hold i (by omega)];exact Ou i (by omega)
  ·rw[hlen]at hi;rcases aP i s.2.length with h4|h4
   ·rw[hold i h4]at ht;have h5:=Ou i h4;rw[r2 i (by omega) (by omega) t (by omega),hz k t h1 h2 (by omega),aI (by omega),h.2 i t h4 ht,bC,az,Rat.zero_add]
   ·rw[show i=s.2.length by omega]at ht ⊢;rw[Q5]at ht;rw[r1,hz k t h1 h2 ht,bC]
theorem tK{M:List (List Rat)}{n:Nat}(hl:gh n M):∀cols,cols<=n->Jk (cK M cols)
 |0,_=>⟨fun _ _ _ h=>(by cases h),fun _ _ h=>(by cases h)⟩
 |c+1,h=>by
  have ih:=tK hl c (by omega);have hr:=eK hl c (by omega);unfold cK at ih hr ⊢;rw[bW,List.foldl_append];exact ih.step hr (by omega)
theorem Fk{n:Nat}(hl:gh n M):Rf (cW (cK M n).1) (fun i=>(cK M n).2.getD i 0) (cK M n).2.length n:=by
 obtain⟨h1,h2,h3,h4,h5⟩:=eK hl n (Nat.le_refl _);obtain⟨k1,k2⟩:=tK hl n (Nat.le_refl _);refine⟨fun i hi=>h4 _ (by rw[List.getD,aB hi];exact aX _),k1,fun i j hi hj=>h5 i j hi (by omega),k2⟩
theorem Lp{c n:Nat}(hl:gh n s.1)(hle:s.2.length<=s.1.length):(∀j,j<s.1.length->dq (cW s.1) s.1.length n (cW (dg s c).1 j))∧∀j,j<s.1.length->dq (cW (dg s c).1) s.1.length n (cW s.1 j):=by
 rcases kF c hle with⟨e,-⟩|⟨k,h1,h2,h3,e⟩
 ·rw[e];exact⟨fun j hj=>dq.row hj,fun j hj=>dq.row hj⟩
 ·obtain⟨r1,r2⟩:=nc hl h1 h2 h3 e;have hp:s.2.length<s.1.length:=by omega
  have a1:dq (cW s.1) s.1.length n (cW (dg s c).1 s.2.length):=((dq.row h2).mul (1 / cW s.1 k c)).congr fun t _=>r1 t;have b1:dq (cW (dg s c).1) s.1.length n (cW s.1 k):=((dq.row hp).mul (cW s.1 k c)).congr fun t _=>by rw[r1,Rat.mul_assoc,bs (1 / _),yR h3,Rat.mul_one]
  refine⟨fun j hj=>?_,fun j hj=>?_⟩
  ·by_cases h4:j=s.2.length
   ·rw[h4];exact a1
   ·exact((dq.row (show (if j=k then s.2.length else j)<s.1.length by split<;>omega)).add (dq.row h2) (-(cW s.1 (if j=k then s.2.length else j) c)*(1 / cW s.1 k c))).congr fun t ht=>by rw[r2 j hj h4 t ht];grind
  ·by_cases h4:j=k
   ·rw[h4];exact b1
   ·obtain⟨i,hi,OS,PE⟩:∃i,i<s.1.length∧i≠s.2.length∧(if i=k then s.2.length else i)=j:=by
     by_cases h5:j=s.2.length
     ·exact⟨k,h2,fun e6=>h4 (h5.trans e6.symm),by rw[if_pos rfl,h5]⟩
     ·exact⟨j,hj,h5,aI h4⟩
    refine((dq.row hi).add (dq.row hp) (cW s.1 j c)).congr fun t ht=>?_;rw[r2 i hi OS t ht,PE,r1];grind
theorem lD{M:List (List Rat)}{n:Nat}(hl:gh n M):∀cols,cols<=n->(∀j,j<M.length->dq (cW M) M.length n (cW (cK M cols).1 j))∧∀j,j<M.length->dq (cW (cK M cols).1) M.length n (cW M j)
 |0,_=>⟨fun j hj=>dq.row hj,fun j hj=>dq.row hj⟩
 |c+1,h=>by
  obtain⟨i1,i2⟩:=lD hl c (by omega);have hr:=eK hl c (by omega);have h1:=fp M c;have h2:=Lp (c:=c) hr.1 hr.2.1;rw[h1]at h2;have e:(cK M (c+1))=dg (cK M c) c:=by unfold cK;rw[bW,List.foldl_append];rfl
  rw[e];exact⟨fun j hj=>(h2.1 j hj).trans i1,fun j hj=>(i2 j hj).trans h2.2⟩
theorem dq.cut{E:Mx}{r m n:Nat}(h:dq E m n v)(hz:∀i t,r<=i->i<m->t<n->E i t=0):dq E r n v:=by
 refine h.trans fun i hi=>?_;rcases aP i r with h1|h1
 ·exact dq.row h1
 ·exact⟨fun _=>0,fun t ht=>by rw[hz i t h1 hi ht,cG (g:=fun _=>0) fun k _=>bC _,dU]⟩
theorem Ds{n r:Nat}{F:Mx}(hl:gh n M)(k:Rf F q r n)(h1:∀i,i<r->dq (cW M) M.length n (F i))(h2:∀j,j<M.length->dq F r n (cW M j)):
  (cK M n).2.length=r∧(∀i,i<r->(cK M n).2.getD i 0=q i)∧∀i t,i<r->t<n->cW (cK M n).1 i t=F i t:=by
 obtain⟨a1,a2⟩:=lD hl n (Nat.le_refl _);obtain⟨-,hle,hz,-,-⟩:=eK hl n (Nat.le_refl _);rw[fp]at hle hz;have h:=Fk hl;obtain⟨e1,e2,e3⟩:=h.one k (fun i hi=>(a1 i (by omega)).trans h2) fun j hj=>((h1 j hj).trans a2).cut fun i t hi hm ht=>hz i t hi hm ht;exact⟨e1,fun i hi=>e2 i (by omega),fun i t hi ht=>e3 i t (by omega) ht⟩
structure Ru(E:Mx)(p:Nat->Nat)(r n:Nat):Prop where
 lt:∀i,i<r->p i<n
 inj:∀i j,i<r->j<r->p i=p j->i=j
 unit:∀i j,i<r->j<r->E j (p i)=if j=i then 1 else 0
 lead:∀i t,i<r->t<p i->E i t=0
def l7(E:Mx)(p:Nat->Nat)(r:Nat)(v:Nat->Rat)(k t:Nat):Rat:=v t-cQ (fun i=>if p i<k then v (p i)*E i t else 0) r
theorem Jl(E:Mx)(p:Nat->Nat)(r:Nat)(v:Nat->Rat)(t:Nat):l7 E p r v 0 t=v t:=by
 unfold l7;rw[cG (g:=fun _=>0) fun i _=>aI (by omega),dU];grind
section
variable{E:Mx}{p:Nat->Nat}{r n:Nat}{v:Nat->Rat}
theorem Jm{k t:Nat}(h:∀i,i<r->p i≠k):l7 E p r v (k+1) t=l7 E p r v k t:=by
 unfold l7;rw[cG fun i hi=>?_];have:=h i hi;by_cases h1:p i<k
 ·rw[if_pos h1,if_pos (by omega)]
 ·rw[aI h1,aI (by omega)]
theorem NO(h:Ru E p r n){i:Nat}(hi:i<r):l7 E p r v (p i) (p i)=v (p i):=by
 unfold l7;rw[cG (g:=fun _=>0) fun j hj=>?_,dU]
 ·grind
 ·by_cases h1:p j<p i
  ·rw[if_pos h1,h.unit i j hi hj,aI (fun e=>by rw[e]at h1;omega),az]
  ·rw[aI h1]
theorem Jn(h:Ru E p r n){i t:Nat}(hi:i<r):l7 E p r v (p i+1) t=l7 E p r v (p i) t+ -(l7 E p r v (p i) (p i))*E i t:=by
 rw[NO h hi];unfold l7;have e:cQ (fun j=>if p j<p i+1 then v (p j)*E j t else 0) r=cQ (fun j=>(if p j<p i then v (p j)*E j t else 0)+(if j=i then v (p i)*E i t else 0)) r:=by
  refine cG fun j hj=>?_;by_cases h1:j=i
  ·subst h1;rw[if_pos (by omega),aI (by omega),if_pos rfl,Rat.zero_add]
  ·have h2:p j≠p i:=fun e=>h1 (h.inj j i hj hi e);rw[aI h1,bD];by_cases h3:p j<p i
   ·rw[if_pos h3,if_pos (by omega)]
   ·rw[aI h3,aI (by omega)]
 rw[e,fK,fY hi fun k _ OS=>aI OS,if_pos rfl];grind
theorem HB(h:Ru E p r n){i:Nat}(hi:i<r):l7 E p r v n (p i)=0:=by
 unfold l7;rw[fY hi fun k hk OS=>?_,if_pos (h.lt i hi),h.unit i i hi hi,if_pos rfl]
 ·grind
 ·rw[if_pos (h.lt k hk),h.unit i k hi hk,aI OS,az]
end
def kT(E:Mx)(r:Nat)(u:Nat->Rat)(k:Nat):Mx:=fun i t=>if i=r then u t / u k else E i t+ -(E i k)*(u t / u k)
theorem Ru.push{E:Mx}{r n k:Nat}(h:Ru E p r n)(hk:k<n)(hu:∀i,i<r->u (p i)=0)(h0:u k≠0)(hz:∀t,t<k->u t=0):
  Ru (kT E r u k) (fun i=>if i=r then k else p i) (r+1) n:=by
 have OS:∀i,i<r->p i≠k:=fun i hi e=>h0 (e▸hu i hi);have PI:u k / u k=1:=by rw[bK,Rat.mul_inv_cancel _ h0]
 have Of:∀i,i<r->u (p i) / u k=0:=fun i hi=>by rw[hu i hi,bK,bC]
 refine⟨fun i hi=>?_,fun i j hi hj e=>?_,fun i j hi hj=>?_,fun i t hi ht=>?_⟩
 ·split
  ·exact hk
  ·exact h.lt i (by omega)
 ·by_cases h1:i=r
  ·by_cases h2:j=r
   ·omega
   ·rw[if_pos h1,aI h2]at e;exact absurd e.symm (OS j (by omega))
  ·by_cases h2:j=r
   ·rw[aI h1,if_pos h2]at e;exact absurd e (OS i (by omega))
   ·rw[aI h1,aI h2]at e;exact h.inj i j (by omega) (by omega) e
 ·unfold kT;by_cases h1:i=r
  ·rw[if_pos h1];by_cases h2:j=r
   ·rw[if_pos h2,if_pos (by omega),PI]
   ·rw[aI h2,aI (by omega),PI];grind
  ·rw[aI h1];by_cases h2:j=r
   ·rw[if_pos h2,aI (by omega),Of i (by omega)]
   ·rw[aI h2,Of i (by omega),az,bD];exact h.unit i j (by omega) (by omega)
 ·unfold kT;by_cases h1:i=r
  ·rw[if_pos h1]at ht;rw[if_pos h1,hz t ht,bK,bC]
  ·rw[aI h1]at ht;rw[aI h1,h.lead i t (by omega) ht,Rat.zero_add];rcases aP t k with h2|h2
   ·rw[hz t h2,bK,bC,az]
   ·rw[h.lead i k (by omega) (by omega)];grind
def jk(E:Mx)(r:Nat)(v:Nat->Rat):Mx:=fun i t=>if i=r then v t else E i t
section
variable{E:Mx}{p:Nat->Nat}{r n k:Nat}{u v:Nat->Rat}
theorem IL(i:Nat)(hi:i<r):dq (jk E r v) (r+1) n (E i):=(dq.row (show i<r+1 by omega)).congr fun t _=>by unfold jk;rw[aI (by omega)]
theorem NP(hu:∀t,t<n->u t=l7 E p r v n t)(hl:∀i,i<r->p i<n):dq (jk E r v) (r+1) n u:=by
 refine⟨fun i=>if i=r then 1 else -(v (p i)),fun t ht=>?_⟩;rw[hu t ht];show l7 E p r v n t=cQ (fun i=>(if i=r then 1 else -(v (p i)))*jk E r v i t) r+(if r=r then 1 else -(v (p r)))*jk E r v r t;rw[if_pos rfl,cG (g:=fun i=> -(v (p i)*E i t)) fun i hi=>by unfold jk;rw[aI (by omega),aI (by omega),Rat.neg_mul],tI];unfold l7 jk;rw[if_pos rfl,cG (g:=fun i=>v (p i)*E i t) fun i hi=>if_pos (hl i hi)];grind
theorem Jo(hu:dq (jk E r v) (r+1) n u):∀i,i<r+1->dq (jk E r v) (r+1) n (kT E r u k i):=fun i hi=>by
 by_cases h1:i=r
 ·exact(hu.mul (1 / u k)).congr fun t _=>by unfold kT;rw[if_pos h1,bK,bK,bm]
 ·exact((IL i (by omega)).add hu (-(E i k)*(1 / u k))).congr fun t _=>by unfold kT;rw[aI h1,bK,bK];grind
theorem HC(h0:u k≠0):dq (kT E r u k) (r+1) n u:=((dq.row (show r<r+1 by omega)).mul (u k)).congr fun t _=>by
 unfold kT;rw[if_pos rfl,Rat.div_mul_cancel h0]
theorem qh(h0:u k≠0)(i:Nat)(hi:i<r):dq (kT E r u k) (r+1) n (E i):=((dq.row (show i<r+1 by omega)).add (HC h0) (E i k / u k)).congr fun t _=>by
 unfold kT;rw[aI (by omega),bK,bK];grind
theorem BP(h0:u k≠0)(hu:∀t,t<n->u t=l7 E p r v n t)(hl:∀i,i<r->p i<n):dq (kT E r u k) (r+1) n v:=by
 have h1:dq (jk E r u) (r+1) n v:=by
  refine⟨fun i=>if i=r then 1 else v (p i),fun t ht=>?_⟩;show v t=cQ (fun i=>(if i=r then 1 else v (p i))*jk E r u i t) r+(if r=r then 1 else v (p r))*jk E r u r t;rw[if_pos rfl,cG (g:=fun i=>v (p i)*E i t) fun i hi=>by unfold jk;rw[aI (by omega),aI (by omega)]];unfold jk;rw[if_pos rfl,hu t ht];unfold l7;rw[cG (g:=fun i=>v (p i)*E i t) fun i hi=>if_pos (hl i hi)];grind
 refine h1.trans fun i hi=>?_;by_cases h2:i=r
 ·exact(HC h0).congr fun t _=>by unfold jk;rw[if_pos h2]
 ·exact(qh h0 i (by omega)).congr fun t _=>by unfold jk;rw[aI h2]
end
def lu(row ub:List Rat)(by_:Rat):List Rat:=row.mapIdx (rE (-by_) ub)
theorem tL(row ub:List Rat)(b:Rat):(lu row ub b).length=row.length:=List.length_mapIdx
theorem y8(row ub:List Rat):lu row ub 0=row:=by
 refine bG fun j=>?_;rw[lu,List.getElem?_mapIdx]
 cases row[j]? with
 |none=>rfl
 |some q=>exact congrArg some (by rw[rE,Rat.neg_zero,bC,bD])
def o0(row:List Rat):Nat->Nat->Nat
 |0,k=>k
 |f+1,k=>if row.getD k 0=0 then o0 row f (k+1)else k
def tM(row:List Rat)(cols:Nat):Nat:=o0 row cols 0
theorem Jq{row:List Rat}{k:Nat}:∀(f j:Nat),(∀i,j<=i->i<j+k->row.getD i 0=0)->k<=f->(k<f->row.getD (j+k) 0≠0)->o0 row f j=j+k:=by
 induction k with
 |zero=>
  intro f j _ _ h
  cases f with
  |zero=>rfl
  |succ f=>rw[o0,aI (by have:=h (by omega);rwa [bj]at this)];rfl
 |succ k ih=>
  intro f j h0 hf h
  cases f with
  |zero=>omega
  |succ f=>
   rw[o0,if_pos (h0 j (Nat.le_refl _) (by omega)),ih f (j+1) (fun i h1 h2=>h0 i (by omega) (by omega)) (by omega) (fun h1=>by rw[Nat.add_assoc,Nat.add_comm 1 k];exact h (by omega))];omega
theorem HD{row:List Rat}{cols k:Nat}(h0:∀i,i<k->row.getD i 0=0)(hk:k<=cols)(h:k<cols->row.getD k 0≠0):tM row cols=k:=by
 rw[tM,Jq (k:=k) cols 0 (fun i _ h2=>h0 i (by omega)) hk (fun h1=>by rw[aV];exact h h1),aV]
abbrev wu:=List (List Rat)×List (Option Nat)×List Nat
def fZ(E:List (List Rat))(at_:List (Option Nat))(row:List Rat):Nat->List Rat
 |0=>row
 |k+1=>match at_.getD k none with
  |some j=>lu (fZ E at_ row k) (E.getD j []) ((fZ E at_ row k).getD k 0)
  |none=>fZ E at_ row k
theorem iA(E:List (List Rat))(at_:List (Option Nat))(row:List Rat):∀k,(fZ E at_ row k).length=row.length
 |0=>rfl
 |k+1=>by
  rw[fZ];split
  ·rw[tL,iA E at_ row k]
  ·exact iA E at_ row k
def gE(E:List (List Rat))(u:List Rat)(p i:Nat):List (List Rat):=E.mapIdx fun j r=>if j<i then lu r u (r.getD p 0)else r
def jx(cols:Nat)(s:wu)(i:Nat)(row:List Rat):wu:=
 let r:=fZ s.1 s.2.1 row cols
 let p:=tM r cols
 if p=cols then s else
  let u:=r.map (· / r.getD p 0)
  (gE s.1 u p s.1.length++[u],s.2.1.set p (some s.1.length),s.2.2++[i])
def gq(M:List (List Rat))(cols:Nat):Nat->wu
 |0=>([],List.replicate cols none,[])
 |i+1=>jx cols (gq M cols i) i (M.getD i [])
def cZ(s:wu):Nat->List (List Rat)×List Nat×List Nat
 |0=>([],[],[])
 |k+1=>match s.2.1.getD k none with
  |some r=>((cZ s k).1++[s.1.getD r []],(cZ s k).2.1++[k],(cZ s k).2.2++[s.2.2.getD r 0])
  |none=>cZ s k
def dh(M:List (List Rat))(cols:Nat):List (List Rat)×List Nat×List Nat:=cZ (gq M cols M.length) cols
structure tN(n cols i:Nat)(s:wu):Prop where
 len:gh n s.1
 at_:s.2.1.length=cols
 ub:s.2.2.length=s.1.length
 lt:∀(k r:Nat),s.2.1[k]? =some (some r)->r<s.1.length
 le:s.1.length<=i
 fr:∀j∈s.2.2,j<i
theorem fe(E:List (List Rat))(u:List Rat)(p i:Nat):(gE E u p i).length=E.length:=List.length_mapIdx
theorem Fl(E:List (List Rat))(u:List Rat)(p:Nat):gE E u p 0=E:=by
 refine bG fun j=>?_;rw[gE,List.getElem?_mapIdx]
 cases E[j]? <;>rfl
theorem Du{u:List Rat}{p i:Nat}(h:E[i]? =some r):(gE E u p i)[i]? =some r:=by
 rw[gE,List.getElem?_mapIdx,h];exact congrArg some (aI (Nat.lt_irrefl i))
theorem y9{u:List Rat}{p i:Nat}(h:E[i]? =some r):gE E u p (i+1)=(gE E u p i).set i (lu r u (r.getD p 0)):=by
 refine bG fun j=>?_;have hi:=(aD.1 h).1;by_cases hj:i=j
 ·subst hj;rw[aO (by rw[fe];exact hi),gE,List.getElem?_mapIdx,h];exact congrArg some (if_pos (bV i))
 ·rw[aT hj,gE,gE,List.getElem?_mapIdx,List.getElem?_mapIdx]
  cases E[j]? with
  |none=>rfl
  |some r=>
   have e:(j<i+1)↔(j<i):=by omega
   simp only[bY,e]
theorem IP{u:List Rat}{p i n:Nat}(h:gh n E):gh n (gE E u p i):=fun r hr=>by
 obtain⟨j,hj⟩:=aQ hr;rw[gE,List.getElem?_mapIdx]at hj
 cases hE:E[j]? with
 |none=>rw[hE]at hj;cases hj
 |some x=>
  rw[hE]at hj;have hx:=h x (aE hE);simp only[bY,Option.some.injEq]at hj;subst hj;split
  ·rw[tL];exact hx
  ·exact hx
theorem tN.start(n cols:Nat):tN n cols 0 ([],List.replicate cols none,[]):=
 ⟨(fun r hr=>by cases hr),bN ..,rfl,(fun (k r:Nat) h=>by rw[List.getElem?_replicate]at h;split at h<;>cases h),Nat.le_refl _,fun j hj=>by cases hj⟩
theorem tN.step{n cols i:Nat}{s:wu}(h:tN n cols i s){row:List Rat}(hr:row.length=n):tN n cols (i+1) (jx cols s i row):=by
 unfold jx;dsimp only
 split
 ·exact⟨h.len,h.at_,h.ub,h.lt,Nat.le_succ_of_le h.le,fun j hj=>Nat.lt_succ_of_lt (h.fr j hj)⟩
 ·refine⟨fun r hm=>?_,by simp[h.at_],by simp[h.ub,fe],fun k r hk=>?_,?_,fun j hj=>?_⟩
  ·rcases List.mem_append.1 hm with hm|hm
   ·exact IP h.len r hm
   ·rw[bF]at hm;subst hm;rw[aL,iA,hr]
  ·dsimp only at hk ⊢;rw[List.length_append,fe,List.length_singleton];rw[List.getElem?_set]at hk;split at hk
   ·split at hk
    ·injection hk with hk;injection hk with hk;omega
    ·cases hk
   ·have:=h.lt k r hk;omega
  ·dsimp only
   rw[List.length_append,fe,List.length_singleton];have:=h.le;omega
  ·rcases List.mem_append.1 hj with hj|hj
   ·exact Nat.lt_succ_of_lt (h.fr j hj)
   ·rw[bF]at hj;omega
theorem ya{M:List (List Rat)}{n:Nat}(cols:Nat)(hM:gh n M):∀i,i<=M.length->tN n cols i (gq M cols i)
 |0,_=>tN.start n cols
 |i+1,hi=>by
  have hm:=aB (l:=M) (show i<M.length by omega);refine(ya cols hM i (by omega)).step ?_;rw[List.getD,hm];exact hM _ (aE hm)
end Go.Ex
