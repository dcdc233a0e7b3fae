/- Texts X102 to L30: lemmas, each with its conditions. -/
import Derived.Test.YtgkpbdkechfgmaaGreatP8
namespace Go.Ex
open Go Go.Sx Go.Proofs
variable{M:List (List Rat)}{qs r:List Rat}{rv:List Value}{S:Nat->Prop}{a:Option Addr}{w:World}
theorem gj.take{C:Nat->Prop}{m n c:Nat}(h:gj w C S (.slice a m c) qs)(Z:n<=m):gj w C S (.slice a n c) (qs.take n):=by
 obtain⟨A,⟨h0,I,X,a',c',e,N,h4⟩,hf⟩:=h;injection e with e1 e2 e3;subst e1 e2 e3;have hl:(A.take n).length=(qs.take n).length:=by rw[aZ,aZ,hf.1]
 have hq:(qs.take n).length=n:=by rw[aZ];omega
 have Up:∀(j:Nat) u,(A.take n).flatten[j]? =some u->A.flatten[j]? =some u:=fun j u hu=>by
  have:A.flatten=(A.take n).flatten++(A.drop n).flatten:=by rw[<-List.flatten_append,List.take_append_drop]
  rw[this,aJ (aD.1 hu).1];exact hu
 refine⟨A.take n,⟨by rw[hq];omega,?_,fun u hu=>X u ?_,a,c,by rw[hq],by rw[hq];omega,fun j u hu=>h4 j u (Up j u hu)⟩,hl,fun j U q k1 k2=>hf.2 j U q ?_ ?_⟩
 ·rw[eo fun U hc=>hf.nH U (bS hc),hl]
 ·obtain⟨j,hj⟩:=aQ hu;exact aE (Up j u hj)
 ·rw[List.getElem?_take]at k1;split at k1;exact k1;cases k1
 ·rw[List.getElem?_take]at k2;split at k2;exact k2;cases k2
theorem KZ{n i j:Nat}(hl:gh n M)(D:i<M.length)(hj:j<M.length):gh n (fV [] M i j):=fun r hr=>by
 unfold fV at hr;rcases a9 hr with I|I
 ·rcases a9 I with X|X
  ·exact hl r X
  ·rw[X];exact hl _ (Di hj)
 ·rw[I];exact hl _ (Di D)
theorem I7{n k:Nat}(h:M[k]? =some r)(R:k<n):(tk n (M.take n)).take (k+1)=(tk n (M.take n)).take k++[r.take n]:=by
 rw[List.take_add_one,tk,aM,List.getElem?_take,if_pos R,h];rfl
theorem fS.nI{B:Nat}{iv:Iv}{gm FS n k c:Nat}(h:fS w S B iv gm FS n rv M)(R:k<FS)(hc:c<n):
  ∃g ck q d1 e1 m1 k1 d2 e2 m2 k2,Mm w (j4 S B iv gm FS rv) rv n M gm k c g ck q d1 e1 m1 k1 d2 e2 m2 k2/\Mb (DR gm FS) rv g:=by
 obtain⟨gm',g,ck,q,d1,e1,m1,k1,d2,e2,m2,k2,e,hE⟩:=h.I6.elem (k:=k) (c:=c) (by rw[h.rows];exact R) hc;injection e with e;injection e with e;subst e;exact⟨g,ck,q,d1,e1,m1,k1,d2,e2,m2,k2,hE,.inr ⟨_,aE hE.rv,rfl⟩⟩
theorem aAD{vm:Value}{n FS h:Nat}(hS0:Old S w)(To:uH w S vm M)(OR:∀r∈M,r.length=FS)(hnR:n<=FS)(hnM:n<=M.length)(hR:FS<=1000)(Q8:Ht M h)(X:2<=h)(Pf:4^n*h<=800000000):
  dx PG F'.B4 #[vm,.int .i64 n] w (eH w fun v' V=>cP V (Nf w V) v' (jn M 0 n)):=by
 have F:=hS0;have Y:=bR w;obtain⟨am,cm,rfl,S3,Rd⟩:=dG.shape To;unfold maxLen at Rd;refine Cc (by simp) ?_;conv=>whnf
 refine⟨n,n,rfl,rfl,Nat.le_refl _,by omega,by omega,?_⟩;conv=>whnf
 refine⟨List Value×World×Iv,fun z=>⟨[(0,sV am M.length cm),(1,iZ n),(4,pP 0 0),(5,.o (.s 1 0 n n)),(14,iZ n),(15,.o (.v (.int .i64 (z.1.length:Nat))))],[(1,.arr T.row (z.1++List.replicate (n-z.1.length) (.slice none 0 0))),(0,.box T.dK [.v (.bool false),.v (.slice none 0 0),.v (.bool false),.v (.slice none 0 0)])],2,z.2.2,z.2.1⟩,fun z=>n-z.1.length,
  fun z=>z.1.length<=n/\dT w.heap.size w z.2.1/\iR z.2.1 S w.heap.size z.2.2 z.1 n ((tk n (M.take n)).take z.1.length)/\(∀u∈z.1,u.oneCell'=true),?_,?_⟩
 ·intro O J r;exact⟨([],J,[]),⟨aS _,Y.tr r.cL,by simpa using iR.nil _ _ _ _ _,by simp⟩,Sub.gn [] r⟩
 clear Y;rintro⟨rv,w1,iv⟩ ⟨D,Y,hF,h1c⟩;dsimp only at D Y hF h1c ⊢;conv=>whnf
 refine dB.mk ?_ ?_<;>intro OQ
 ·have OQ:rv.length<n:=by simpa using OQ
  obtain⟨ra,VV⟩:∃r,M[rv.length]? =some r:=⟨_,aB (by omega)⟩
  have hral:=OR ra (aE VV);obtain⟨adx,ux,rfl,Qg,Ro,R1⟩:=dG.load To VV;obtain⟨aux,cux,rfl,hcux,-⟩:=Qg.shape;conv=>whnf
  refine⟨adx,rfl,by omega,?_⟩;conv=>whnf
  refine⟨.slice aux ra.length cux,rd1 R1 Y (F _ Ro),?_⟩;conv=>whnf
  have Up:=gj.take (n:=n) (Qg.from (k:=0) (by omega)) (by omega);refine⟨⟨by omega,by omega,by omega⟩,(if (cux:Int)=((0:Nat):Int)then aux else aux.map (·.add (0*4))),n,cux-0,rfl,by omega,by omega,?_⟩;rw[List.drop_zero]at Up;generalize (if (cux:Int)=((0:Nat):Int)then aux else aux.map (·.add (0*4)))=adp at*
  generalize cux-0=cdp at*
  have hprl:(ra.take n).length=n:=by rw[aZ];omega
  conv=>whnf
  refine cB (cG (Id:=fun _ J v V=>l9 V S v n (ra.take n)/\∀g,v.ownBlock=some g->J.heap.size<=g/\g<V.heap.size) (fun O J r=>?_) ?_)
  ·have:=Ec (w:=J) (oS F r) (oS F r) (Up.cC fun g G=>(Y.tr r.cL).block g (F g (G.elim id id))) (by omega) (by omega);rw[hprl]at this;exact this
  rintro O PQ v1 PE r W hb ⟨S2,Qf⟩;have SA:=hF.snoc r F W (S2.cF fun g G=>⟨.inl G,fun e=>by have:=F g G;have:=Qf g e;have:=r.bz;omega,fun⟨u,hu,e⟩=>(hF.new u hu g e).elim (fun h=>h.elim) fun h=>by have:=F g G;omega⟩) Qf;rw[<-I7 VV OQ]at SA;replace Y:=Y.tr hb;obtain⟨a3,c3,rfl,-⟩:=S2.form;clear r W hb S2 Qf hF;generalize (PQ.heap.size,PE.heap.size)::iv=OZ at*
  conv=>whnf
  refine⟨by omega,?_⟩;conv=>whnf
  refine⟨by simp;omega,(rv++[.slice a3 n c3])++List.replicate (n-(rv.length+1)) (.slice none 0 0),?_,?_⟩
  ·have h5:n-rv.length=(n-(rv.length+1))+1:=by omega
   simp[h5,List.replicate_succ]
  conv=>whnf
  refine⟨((rv.length+1:Nat):Int),wo,?_⟩;conv=>whnf
  intro IR w3 K;have QH:(rv++[Value.slice a3 n c3]).length=rv.length+1:=by simp
  refine⟨(rv++[.slice a3 n c3],w3,OZ),⟨by dsimp only;rw[QH];exact OQ,Y.tr K.cL,by dsimp only;rw[QH];exact SA.rel K F,fun u hu=>?_⟩,Sub.gn [] K ⟨by dsimp only;rw[QH];rfl,rfl,trivial⟩ ⟨rfl,rfl,rfl,rfl,rfl,by dsimp only;rw[QH];rfl,trivial⟩,by dsimp only;rw[QH];omega⟩;rcases List.mem_append.1 hu with hu|hu
  ·exact h1c u hu
  ·simp at hu;subst hu;rfl
 have OQ:rv.length=n:=aU D (by simpa using OQ);rw[OQ,List.take_of_length_le (by rw[IG,aZ];exact Nat.min_le_left ..)]at hF;rw[OQ,bB,List.replicate_zero,List.append_nil];conv=>whnf
 refine cB (cG (Id:=fun _ J v V=>cP V (Nf J V) v ((1:Int):Rat)) (fun O J r=>xo 1 J (by decide) (by decide)) ?_);rintro O PQ v1 PE r W hb Z;replace Y:=Y.tr hb;have hO:=Z.lim (rv:=rv) r fun u hu g G=>hF.new u hu g G;replace hF:iR PE S w.heap.size ((PQ.heap.size,PE.heap.size)::iv) rv n (tk n (M.take n)):=hF.cD r F W fun x L=>aC _ L;clear r W hb Z;generalize (PQ.heap.size,PE.heap.size)::iv=OZ at*
 obtain⟨A0,A1,A2,A3,A4,A5,A6,A7,rfl⟩:=hO.shape;rw[show ((1:Int):Rat)=1 by decide]at hO;conv=>whnf
 have Wb:gh n (tk n (M.take n)):=fun r hr=>by
  obtain⟨x,L,rfl⟩:=aR.1 hr;rw[aZ,OR x (bS L)];omega
 have hDht:Ht (tk n (M.take n)) h:=fun r hr q hq=>by
  obtain⟨x,L,rfl⟩:=aR.1 hr;exact Q8 x (bS L) q (bS hq)
 refine⟨Nat×(Nat×List Value×List (List Rat)×Rat)×((Bool×Bool)×(Option Addr×Option Addr)×(Nat×Nat×Nat×Nat))×World×Iv,fun z=>⟨[(5,.o (.v (.slice (some ⟨z.2.1.1,0,none⟩) n n))),(1,iZ n),(4,pP 0 0),(7,pP 2 0),(30,iZ n),(31,iN z.1)],[(2,.box T.dK [.v (.bool z.2.2.1.1.1),.v (.slice z.2.2.1.2.1.1 z.2.2.1.2.2.1 z.2.2.1.2.2.2.1),.v (.bool z.2.2.1.1.2),.v (.slice z.2.2.1.2.1.2 z.2.2.1.2.2.2.2.1 z.2.2.1.2.2.2.2.2)]),(0,.box T.dK [.v (.bool false),.v (.slice none 0 0),.v (.bool false),.v (.slice none 0 0)])],3,z.2.2.2.2,z.2.2.2.1⟩,fun z=>n-z.1,
  fun z=>z.1<=n/\dT w.heap.size w z.2.2.2.1/\fS z.2.2.2.1 S w.heap.size z.2.2.2.2 z.2.1.1 n n z.2.1.2.1 z.2.1.2.2.1/\cP z.2.2.2.1 (j4 FF w.heap.size z.2.2.2.2 z.2.1.1 n z.2.1.2.1) (.agg #[.bool z.2.2.1.1.1,.slice z.2.2.1.2.1.1 z.2.2.1.2.2.1 z.2.2.1.2.2.2.1,.bool z.2.2.1.1.2,.slice z.2.2.1.2.1.2 z.2.2.1.2.2.2.2.1 z.2.2.1.2.2.2.2.2]) z.2.1.2.2.2/\gh n z.2.1.2.2.1/\Ht z.2.1.2.2.1 (4^z.1*h)/\rl z.2.1.2.2.2<=4^z.1*h/\z.2.1.2.2.2*jn z.2.1.2.2.1 z.1 n=jn M 0 n,?_,?_⟩
 ·intro O J r;have Oe:=r.nn 1 _ rfl (by intros;simp) (by simp);have hG:=hF.rK r F (id:=1) rfl Oe (by unfold maxLen;omega) h1c;rw[OQ]at hG;refine⟨(0,((O 1).g,rv,tk n (M.take n),1),((A0,A4),(A1,A5),(A2,A3,A6,A7)),J,((O 1).g,(O 1).g+1)::OZ),⟨aS _,Y.tr r.cL,hG,(hO.cC fun g G=>Rel.same r (bw w) G.1).cF fun g G=>⟨G.1.mono fun p hp=>aC _ hp,fun hm=>?_⟩,Wb,by rw[Nat.pow_zero,Nat.one_mul];exact hDht,by rw[GA,Nat.pow_zero];omega,by rw[Dn,bm]⟩,Sub.rK r (id:=1) (t:=5) rfl rfl ⟨rfl,rfl,trivial⟩ rfl ⟨rfl,rfl,rfl,rfl,rfl,trivial⟩ (by simp[l5,SV.sc,At.sc])⟩;rcases hm with hm|⟨u,hu,hm⟩
  ·injection hm with hm;exact Rel.not r (bw w) G.1 1 _ rfl Oe hm
  ·exact G.2 ⟨u,hu,hm⟩
 clear Y hF hO Wb hDht OQ D h1c;rintro⟨c,⟨gm,rv1,M1,q0⟩,⟨⟨p0,p4⟩,⟨p1,p5⟩,⟨p2,p3,p6,p7⟩⟩,w1,iv⟩ ⟨hc,Y,hM,hO,hlen,RB,SB,hD⟩;dsimp only at hc Y hM hO hlen RB SB hD ⊢;conv=>whnf
 refine dB.mk ?_ ?_<;>intro PB
 ·have PB:c<n:=by simpa using PB
  have hHb:4^(c+1)*h<=800000000:=aW (Nat.mul_le_mul_right _ (Nat.pow_le_pow_right (by decide) PB)) Pf;have R4:4^(c+1)*h=4*(4^c*h):=by rw[Nat.pow_succ,bL (4^c) 4,bc]
  have Vs:2<=4^c*h:=aW X (Nat.le_mul_of_pos_left _ (Nat.pow_pos (by decide)));rw[R4]at hHb;obtain⟨hh,hhe⟩:∃x,x=4^c*h:=⟨_,rfl⟩
  rw[<-hhe]at RB SB Vs hHb R4;have hM1l:=hM.len;conv=>whnf
  refine⟨Nat×World×Iv,fun z=>⟨[(5,.o (.v (.slice (some ⟨gm,0,none⟩) n n))),(1,iZ n),(4,pP 0 0),(7,pP 2 0),(30,iZ n),(31,iN c),(8,iN c),(9,iN z.1)],[(2,.box T.dK [.v (.bool p0),.v (.slice p1 p2 p3),.v (.bool p4),.v (.slice p5 p6 p7)]),(0,.box T.dK [.v (.bool false),.v (.slice none 0 0),.v (.bool false),.v (.slice none 0 0)])],3,z.2.2,z.2.1⟩,fun z=>n-z.1,
   fun z=>c<=z.1/\z.1<=n/\dT w.heap.size w z.2.1/\fS z.2.1 S w.heap.size z.2.2 gm n n rv1 M1/\cP z.2.1 (j4 FF w.heap.size z.2.2 gm n rv1) (.agg #[.bool p0,.slice p1 p2 p3,.bool p4,.slice p5 p6 p7]) q0/\∀j,c<=j->j<z.1->cW M1 j c=0,?_,?_⟩
  ·intro O J r;exact⟨(c,J,iv),⟨Nat.le_refl _,Nat.le_of_lt PB,Y.tr r.cL,hM.rel r F,hO.iH r (bw w),fun j I X=>by dsimp only at X;omega⟩,Sub.gn [] r⟩
  clear Y hM hO;rintro⟨k,V,iv⟩ ⟨VS,R,Y,hM,hO,hz⟩;dsimp only at VS R Y hM hO hz ⊢;conv=>whnf
  refine dB.mk ?_ ?_<;>intro OT
  ·have OT:k<n:=by simpa using OT
   obtain⟨gk,cd,qd,d1,d2,d3,d4,d5,d6,d7,d8,QI,QD⟩:=hM.nI (k:=k) (c:=c) (by omega) (by omega);conv=>whnf
   refine⟨⟨gm,0,none⟩,rfl,by omega,?_⟩;conv=>whnf
   refine⟨_,fun O J r=>hM.cell r (.inl (by rw[c9];rfl)) QI.outer,?_⟩;conv=>whnf
   refine⟨⟨gk,0,none⟩,rfl,by omega,?_⟩;conv=>whnf
   refine⟨[.bool d1,.slice d2 d3 d4,.bool d5,.slice d6 d7 d8],rfl,fun O J r j x L=>hM.cell r (by rw[c9,c9];exact QD) (QI.cells j x L),?_⟩;conv=>whnf
   have Qu:=QI.at_;refine cB (cE Y (fun _ J v V=>v= .int .i64 (rs qd)) (fun O J r=>qp (j4.old r F) (QI.zg.iH r F)) ?_);rintro O QJ v11 QQ PD r W Y h_ rfl;replace hM:=fS.cD hM r F W (mC h_);replace hO:=cP.nG hO r (bw w) W (mC h_);clear r W;clear QI QD;conv=>whnf
   refine dB.mk ?_ ?_<;>intro hs
   ·have hs:qd=0:=oN.1 (by simpa using hs);conv=>whnf
    refine⟨((k+1:Nat):Int),wo,?_⟩;conv=>whnf
    intro IR w3 K;refine⟨(k+1,w3,_),⟨by dsimp only;omega,OT,Y.tr K.cL,hM.rel K F,hO.iH K (bw w),fun j I X=>?_⟩,Sub.gn [] K,by dsimp only;omega⟩;rcases aP j k with N|N
    ·exact hz j I N
    ·rw[show j=k by dsimp only at X;omega,Qu,hs]
   have hs:qd≠0:=fun e=>by rw[oN.2 e]at hs;simp at hs
   rw[<-Qu]at hs;clear Qu hz;conv=>whnf
   refine dB.mk (fun Ua=>absurd (eq_of_beq Ua) (by omega)) (fun _=>?_);conv=>whnf
   refine dB.mk ?_ ?_<;>intro Ui
   ·have Ui:k≠c:=fun e=>by rw[e]at Ui;simp at Ui
    obtain⟨gk,cd,qd,d1,d2,d3,d4,d5,d6,d7,d8,QI,QD⟩:=hM.nI (k:=k) (c:=c) (by omega) (by omega);obtain⟨gc,ce,qe,e1,e2,e3,e4,e5,e6,e7,e8,RC,Ub⟩:=hM.nI (k:=c) (c:=c) (by omega) (by omega);have hvk:=QI.rv;have hvc:=RC.rv;have hgB:w.heap.size<=gm:=hM.base (.inl rfl);have hMbg:∀g,some gm=some g->Mb (DR gm n) rv1 g:=fun g e=>by injection e with e;subst e;exact .inl rfl
    conv=>whnf
    refine cI hτ dN [.x 0,.x 1,.x 2,.x 3,.x 4,.x 5,.x 6,.x 7,.x 8,.x 9,.x 10,.x 11,.x 12,.x 13,.x 14,.x 15] (by kernel_rfl) (by kernel_rfl) ?_;conv=>whnf
    refine⟨⟨gm,0,none⟩,rfl,by omega,?_⟩;conv=>whnf
    refine⟨_,fun O J r=>hM.cell r (.inl (by rw[c9];rfl)) QI.outer,?_⟩;conv=>whnf
    refine⟨⟨gm,0,none⟩,rfl,by omega,?_⟩;conv=>whnf
    refine⟨_,fun O J r=>hM.cell r (.inl (by rw[c9];rfl)) RC.outer,?_⟩;conv=>whnf
    refine⟨⟨gm,0,none⟩,rfl,by omega,?_⟩;conv=>whnf
    intro O J r;obtain⟨x1,x2,x3,x4⟩:=hM.OO r F (i:=c) (vb:=.slice (some ⟨gk,0,none⟩) n cd) PB;replace Y:=Y.tr r.cL;refine⟨x1,x2,x3,fun w4 hw4=>?_⟩;obtain⟨hH,Oc⟩:=x4 w4 hw4;replace hO:=hO.cC (j4.grown r (bw w) Oc hMbg);replace Y:=Y.tr (dT.grown Oc (fun g e=>by injection e with e;subst e;exact hgB) r.bz);clear r hM x1 x2 x3 x4 hw4 Oc QI RC QD Ub;conv=>whnf
    refine⟨⟨gm,0,none⟩,rfl,by omega,?_⟩;conv=>whnf
    intro O J r;obtain⟨x1,x2,x3,x4⟩:=hH.OP r F hvc hvk;replace Y:=Y.tr r.cL;refine⟨x1,x2,x3,fun w6 hw6=>?_⟩;obtain⟨hM,TF,Oc⟩:=x4 w6 hw6;replace hO:=(hO.cC (j4.grown r (bw w) Oc hMbg)).cF (S':=j4 FF w.heap.size PD gm n ((rv1.set c (.slice (some ⟨gk,0,none⟩) n cd)).set k (.slice (some ⟨gc,0,none⟩) n ce))) fun g G=>⟨G.1,fun hm=>G.2 ((TF g).1 hm)⟩
    replace Y:=Y.tr (dT.grown Oc (fun g e=>by injection e with e;subst e;exact hgB) r.bz);have h0:cW (fV [] M1 c k) c c≠0:=by rw[Dj (by omega) (by omega)];exact hs
    replace RB:=RB.swap (i:=c) (j:=k) (by omega) (by omega);have Vr: -q0*jn (fV [] M1 c k) c n=jn M 0 n:=by
     rw[IJ (Nat.lt_of_le_of_ne VS (Ne.symm Ui)) OT (by omega),<-hD];grind
    have Ts:gh n (fV [] M1 c k):=KZ hlen (by omega) (by omega);have hM2l:=hM.len;clear r hH x1 x2 x3 x4 hw6 Oc TF hvk hvc hs hMbg hD hlen hM1l;generalize (rv1.set c (Value.slice (some ⟨gk,0,none⟩) n cd)).set k (Value.slice (some ⟨gc,0,none⟩) n ce)=rv2 at*
    generalize fV [] M1 c k=M2 at*
    conv=>whnf
    refine cB (cG (Id:=fun _ J v V=>cP V (Nw (j4 FF w.heap.size PD gm n rv2) J V) v (-q0)) (fun O J r=>qE (j4.old r (bw w)) (hO.iH r (bw w))) ?_);rintro O UG v21 S9 r W hb Z;replace Y:=Y.tr hb;have TM:=Z.xn hM r;replace hM:=fS.cD (E:=(UG.heap.size,S9.heap.size)::PD) hM r F W fun x L=>aC _ L;clear r W hb Z;generalize (UG.heap.size,S9.heap.size)::PD=Rp at*
    clear hO;have hql2:rl (-q0)<=hh:=by rw[j9];exact SB
    obtain⟨C0,C1,C2,C3,C4,C5,C6,C7,rfl⟩:=TM.shape;conv=>whnf
    obtain⟨gf,cf,qf,f1,f2,f3,f4,f5,f6,f7,f8,Sa,VX⟩:=hM.nI (k:=c) (c:=c) (by omega) (by omega);have UH:qf=cW M2 c c:=Sa.at_.symm;have VY:=ni RB Vs c c;rw[<-UH]at VY h0;have PO:=hJ (-q0) qf;conv=>whnf
    refine cI hτ dN [.x 0,.x 1,.x 2,.x 3,.x 4,.x 5,.x 6,.x 7,.x 8,.x 9] (by kernel_rfl) (by kernel_rfl) ?_;conv=>whnf
    refine⟨⟨gm,0,none⟩,rfl,by omega,?_⟩;conv=>whnf
    refine⟨_,fun O J r=>hM.cell r (.inl (by rw[c9];rfl)) Sa.outer,?_⟩;conv=>whnf
    refine⟨⟨gf,0,none⟩,rfl,by omega,?_⟩;conv=>whnf
    refine⟨[.bool f1,.slice f2 f3 f4,.bool f5,.slice f6 f7 f8],rfl,fun O J r j x L=>hM.cell r (by rw[c9,c9];exact VX) (Sa.cells j x L),?_⟩;conv=>whnf
    refine cG (Id:=fun _ J v V=>cP V (Nf J V) v (-q0*qf)) (fun O J r=>qF (j4.old r F) (cP.cF (TM.iH r (bw w)) fun _ G=>(⟨Cg G.1,G.2⟩:j4 S _ _ _ _ _ _)) (Sa.zg.iH r F) (by omega) (by omega)) ?_;rintro O TN v22 TO r W hb Z;replace Y:=Y.tr hb;have Wc:=Z.beside (S0:=fun _=>False) hM r;replace hM:=fS.cD (E:=(TN.heap.size,TO.heap.size)::Rp) hM r F W fun x L=>aC _ L;clear r W hb Z;generalize (TN.heap.size,TO.heap.size)::Rp=UI at*
    clear Sa VX TM;have hO:=Wc;clear Wc;obtain⟨E0,E1,E2,E3,E4,E5,E6,E7,rfl⟩:=hO.shape;conv=>whnf
    refine⟨((c+1:Nat):Int),wo,?_⟩;conv=>whnf
    have Q8:=RB;rw[UH]at h0
    refine⟨Nat×World×Iv,fun z=>⟨[(5,.o (.v (.slice (some ⟨gm,0,none⟩) n n))),(1,iZ n),(4,pP 0 0),(7,pP 2 0),(30,iZ n),(31,iN c),(8,iN c),(10,iN z.1)],[(2,.box T.dK [.v (.bool E0),.v (.slice E1 E2 E3),.v (.bool E4),.v (.slice E5 E6 E7)]),(0,.box T.dK [.v (.bool false),.v (.slice none 0 0),.v (.bool false),.v (.slice none 0 0)])],3,z.2.2,z.2.1⟩,fun z=>n-z.1,
     fun z=>c<z.1/\z.1<=n/\dT w.heap.size w z.2.1/\fS z.2.1 S w.heap.size z.2.2 gm n n rv2 (eF M2 c z.1)/\cP z.2.1 (j4 FF w.heap.size z.2.2 gm n rv2) (.agg #[.bool E0,.slice E1 E2 E3,.bool E4,.slice E5 E6 E7]) (-q0*qf),?_,?_⟩
    ·intro O J r
     exact⟨(c+1,J,_),⟨bV _,by dsimp only;omega,Y.tr r.cL,by rw[nh _ _ _ (Nat.le_refl _)];exact hM.rel r F,hO.iH r (bw w)⟩,
      Sub.gn [] r⟩
    clear Y hM hO;rintro⟨i,w7,iv⟩ ⟨TP,D,Y,hM,hO⟩;dsimp only at TP D Y hM hO ⊢;conv=>whnf
    refine dB.mk ?_ ?_<;>intro OQ
    ·have OQ:i<n:=by simpa using OQ
     obtain⟨ri,S7⟩:∃r,M2[i]? =some r:=⟨_,aB (by omega)⟩
     obtain⟨rc,Tm⟩:∃r,M2[c]? =some r:=⟨_,aB (by omega)⟩
     have Sb:(eF M2 c i)[i]? =some ri:=by rw[jo _ _ _ _ (.inr (Nat.le_refl _))];exact S7
     have Uq:(eF M2 c i)[c]? =some rc:=by rw[jo _ _ _ _ (.inl (Nat.le_refl _))];exact Tm
     obtain⟨gi,cd,qd,d1,d2,d3,d4,d5,d6,d7,d8,QI,QD⟩:=hM.nI (k:=i) (c:=c) (by omega) (by omega);obtain⟨gc,ce,qe,e1,e2,e3,e4,e5,e6,e7,e8,RC,Ub⟩:=hM.nI (k:=c) (c:=c) (by omega) (by omega);have Qu:qd=ri.getD c 0:=by
      rw[<-QI.at_];unfold cW;rw[show (eF M2 c i).getD i []=ri by simp only[List.getD,Sb,Option.getD_some]]
     have TQ:qe=cW M2 c c:=by rw[<-RC.at_,pM (.inl (Nat.le_refl _))]
     have Wd:=Q8.at S7;have Tt:=Q8.at Tm;have QT:=nk Wd (by omega) c;have Ps:=ni Q8 (by omega) c c;rw[<-Qu]at QT;rw[<-TQ]at Ps;have Sc:qe≠0:=TQ▸h0;have QH:=pN qd Sc;have VZ:=j9 (qd / qe);have hvd:=QI.rv;have hve:=RC.rv;conv=>whnf
     refine cI hτ dN [.x 0,.x 1,.x 2,.x 3,.x 4,.x 5,.x 6,.x 7,.x 8,.x 9,.x 10,.x 11,.x 12,.x 13,.x 14,.x 15,.x 16,.x 17,.x 20,.x 21,.x 22,.x 23,.x 18,.x 19,.x 24] (by kernel_rfl) (by kernel_rfl) ?_;conv=>whnf
     refine⟨⟨gm,0,none⟩,rfl,by omega,?_⟩;conv=>whnf
     refine⟨_,fun O J r=>hM.cell r (.inl (by rw[c9];rfl)) QI.outer,?_⟩;conv=>whnf
     refine⟨⟨gm,0,none⟩,rfl,by omega,?_⟩;conv=>whnf
     refine⟨_,fun O J r=>hM.cell r (.inl (by rw[c9];rfl)) QI.outer,?_⟩;conv=>whnf
     refine⟨⟨gi,0,none⟩,rfl,by omega,?_⟩;conv=>whnf
     refine⟨[.bool d1,.slice d2 d3 d4,.bool d5,.slice d6 d7 d8],rfl,fun O J r j x L=>hM.cell r (by rw[c9,c9];exact QD) (QI.cells j x L),?_⟩;conv=>whnf
     refine⟨⟨gm,0,none⟩,rfl,by omega,?_⟩;conv=>whnf
     refine⟨_,fun O J r=>hM.cell r (.inl (by rw[c9];rfl)) RC.outer,?_⟩;conv=>whnf
     refine⟨⟨gc,0,none⟩,rfl,by omega,?_⟩;conv=>whnf
     refine⟨[.bool e1,.slice e2 e3 e4,.bool e5,.slice e6 e7 e8],rfl,fun O J r j x L=>hM.cell r (by rw[c9,c9];exact Ub) (RC.cells j x L),?_⟩;conv=>whnf
     refine⟨⟨gm,0,none⟩,rfl,by omega,?_⟩;conv=>whnf
     refine⟨_,fun O J r=>hM.cell r (.inl (by rw[c9];rfl)) RC.outer,?_⟩;conv=>whnf
     refine cG (Id:=fun _ J v V=>cP V (Nf J V) v (qd / qe)) (fun O J r=>H4 (j4.old r F) (QI.zg.iH r F) (RC.zg.iH r F) (by omega) (by omega) Sc) ?_;rintro O TR v23 TS r W hb Z;replace Y:=Y.tr hb;have hB:=Z.beside (S0:=S) hM r;replace hM:=fS.cD (E:=(TR.heap.size,TS.heap.size)::iv) hM r F W fun x L=>aC _ L;replace hO:=cP.nG (E:=(TR.heap.size,TS.heap.size)::iv) hO r (bw w) W fun x L=>aC _ L;clear r W hb Z;generalize (TR.heap.size,TS.heap.size)::iv=Sd at*
     clear QI RC QD Ub;obtain⟨F0,F1,F2,F3,F4,F5,F6,F7,rfl⟩:=hB.shape;conv=>whnf
     refine cG (Id:=fun _ J v V=>cP V (Nw (j4 S w.heap.size Sd gm n rv2) J V) v (-(qd / qe))) (fun O J r=>qE (j4.old r F) (hB.iH r F)) ?_;rintro O UJ v24 UK r W hb Z;replace Y:=Y.tr hb;have Ur:=Z.xn hM r;replace hM:=fS.cD (E:=(UJ.heap.size,UK.heap.size)::Sd) hM r F W fun x L=>aC _ L;replace hO:=cP.nG (E:=(UJ.heap.size,UK.heap.size)::Sd) hO r (bw w) W fun x L=>aC _ L;clear r W hb Z;generalize (UJ.heap.size,UK.heap.size)::Sd=Vt at*
     clear hB;obtain⟨G0,G1,G2,G3,G4,G5,G6,G7,rfl⟩:=Ur.shape;conv=>whnf
     refine⟨fun O J r=>?_⟩;refine(hM.Eb r F (by unfold maxLen;omega) (Nat.ne_of_gt TP) hvd hve Sb Uq Ur (fun q hq=>by have:=Wd q hq;omega) (fun q hq=>by have:=Tt q hq;omega) (by omega)).mono fun e w8 W=>?_;obtain⟨rfl,Oc,QZ,Py⟩:=W;have PR:=(Y.tr r.cL).tr (hM.cL r Oc QZ);have TM:=hO.cC (j4.grown r (bw w) Oc QZ);replace TM:=TM.cF (S':=j4 FF w.heap.size ((J.heap.size,w8.heap.size)::Vt) gm n rv2) fun _ G=>⟨G.1.mono fun p hp=>aC _ hp,G.2⟩
     refine⟨.tuple #[],_,(J.heap.size,w8.heap.size)::Vt,rfl,r.nJ (fun x L=>Rel.not r (eI _) (hM.oz x (QZ x L))) Oc,?_⟩;rw[Qu,TQ,show rc=M2.getD c [] by rw[List.getD,Tm];rfl,pL S7 TP]at Py;clear hM hO Y Oc QZ r Ur;generalize (J.heap.size,w8.heap.size)::Vt=RW at*
     conv=>whnf
     refine⟨((i+1:Nat):Int),wo,?_⟩;conv=>whnf
     intro IR w3 K
     exact⟨(i+1,w3,_),⟨by dsimp only;omega,OQ,PR.tr K.cL,Py.rel K F,TM.iH K (bw w)⟩,
      Sub.gn [] K,by dsimp only;omega⟩
    have OQ:i=n:=aU D (by simpa using OQ);rw[OQ]at hM;conv=>whnf
    refine⟨((c+1:Nat):Int),wo,?_⟩;conv=>whnf
    intro IR w3 K;refine⟨(c+1,(gm,rv2,eF M2 c n,-q0*qf),((E0,E4),(E1,E5),(E2,E3,E6,E7)),w3,_),⟨PB,Y.tr K.cL,hM.rel K F,hO.iH K (bw w),sG Ts,by dsimp only;rw[R4];exact Q8.elim Vs h0,by dsimp only;rw[R4];omega,?_⟩,Sub.gn [] K,by dsimp only;omega⟩;dsimp only
    rw[<-Vr,qg (M:=M2) Ts (Nat.le_refl n) (by omega) PB h0 (Nat.le_refl n),UH,Rat.mul_assoc]
   have Ui:c=k:=by
    have h4:((k:Int)==(c:Int))=true:=by simpa using Ui
    have:=eq_of_beq h4;omega
   subst Ui;have h0:=hs;clear hs;conv=>whnf
   obtain⟨gf,cf,qf,f1,f2,f3,f4,f5,f6,f7,f8,Sa,VX⟩:=hM.nI (k:=c) (c:=c) (by omega) (by omega);have UH:qf=cW M1 c c:=Sa.at_.symm;have VY:=ni RB Vs c c;rw[<-UH]at VY h0;have PO:=hJ (q0) qf;conv=>whnf
   refine cI hτ dN [.x 0,.x 1,.x 2,.x 3,.x 4,.x 5,.x 6,.x 7,.x 8,.x 9] (by kernel_rfl) (by kernel_rfl) ?_;conv=>whnf
   refine⟨⟨gm,0,none⟩,rfl,by omega,?_⟩;conv=>whnf
   refine⟨_,fun O J r=>hM.cell r (.inl (by rw[c9];rfl)) Sa.outer,?_⟩;conv=>whnf
   refine⟨⟨gf,0,none⟩,rfl,by omega,?_⟩;conv=>whnf
   refine⟨[.bool f1,.slice f2 f3 f4,.bool f5,.slice f6 f7 f8],rfl,fun O J r j x L=>hM.cell r (by rw[c9,c9];exact VX) (Sa.cells j x L),?_⟩;conv=>whnf
   refine cG (Id:=fun _ J v V=>cP V (Nf J V) v (q0*qf)) (fun O J r=>qF (j4.old r F) (cP.cF (hO.iH r (bw w)) fun _ G=>(⟨Cg G.1,G.2⟩:j4 S _ _ _ _ _ _)) (Sa.zg.iH r F) (by omega) (by omega)) ?_;rintro O wa31 v31 wb31 r W hb Z;replace Y:=Y.tr hb;have Wc:=Z.beside (S0:=fun _=>False) hM r;replace hM:=fS.cD (E:=(wa31.heap.size,wb31.heap.size)::PD) hM r F W fun x L=>aC _ L;clear r W hb Z;generalize (wa31.heap.size,wb31.heap.size)::PD=iv31 at*
   clear Sa VX hO;have hO:=Wc;clear Wc;obtain⟨J0,J1,J2,J3,J4,J5,J6,J7,rfl⟩:=hO.shape;conv=>whnf
   refine⟨((c+1:Nat):Int),wo,?_⟩;conv=>whnf
   have Q8:=RB;rw[UH]at h0
   refine⟨Nat×World×Iv,fun z=>⟨[(5,.o (.v (.slice (some ⟨gm,0,none⟩) n n))),(1,iZ n),(4,pP 0 0),(7,pP 2 0),(30,iZ n),(31,iN c),(8,iN c),(10,iN z.1)],[(2,.box T.dK [.v (.bool J0),.v (.slice J1 J2 J3),.v (.bool J4),.v (.slice J5 J6 J7)]),(0,.box T.dK [.v (.bool false),.v (.slice none 0 0),.v (.bool false),.v (.slice none 0 0)])],3,z.2.2,z.2.1⟩,fun z=>n-z.1,
    fun z=>c<z.1/\z.1<=n/\dT w.heap.size w z.2.1/\fS z.2.1 S w.heap.size z.2.2 gm n n rv1 (eF M1 c z.1)/\cP z.2.1 (j4 FF w.heap.size z.2.2 gm n rv1) (.agg #[.bool J0,.slice J1 J2 J3,.bool J4,.slice J5 J6 J7]) (q0*qf),?_,?_⟩
   ·intro O J r
    exact⟨(c+1,J,_),⟨bV _,by dsimp only;omega,Y.tr r.cL,by rw[nh _ _ _ (Nat.le_refl _)];exact hM.rel r F,hO.iH r (bw w)⟩,
     Sub.gn [] r⟩
   clear Y hM hO;rintro⟨i,w7,iv⟩ ⟨TP,D,Y,hM,hO⟩;dsimp only at TP D Y hM hO ⊢;conv=>whnf
   refine dB.mk ?_ ?_<;>intro OQ
   ·have OQ:i<n:=by simpa using OQ
    obtain⟨ri,S7⟩:∃r,M1[i]? =some r:=⟨_,aB (by omega)⟩
    obtain⟨rc,Tm⟩:∃r,M1[c]? =some r:=⟨_,aB (by omega)⟩
    have Sb:(eF M1 c i)[i]? =some ri:=by rw[jo _ _ _ _ (.inr (Nat.le_refl _))];exact S7
    have Uq:(eF M1 c i)[c]? =some rc:=by rw[jo _ _ _ _ (.inl (Nat.le_refl _))];exact Tm
    obtain⟨gi,cd,qd,d1,d2,d3,d4,d5,d6,d7,d8,QI,QD⟩:=hM.nI (k:=i) (c:=c) (by omega) (by omega);obtain⟨gc,ce,qe,e1,e2,e3,e4,e5,e6,e7,e8,RC,Ub⟩:=hM.nI (k:=c) (c:=c) (by omega) (by omega);have Qu:qd=ri.getD c 0:=by
     rw[<-QI.at_];unfold cW;rw[show (eF M1 c i).getD i []=ri by simp only[List.getD,Sb,Option.getD_some]]
    have TQ:qe=cW M1 c c:=by rw[<-RC.at_,pM (.inl (Nat.le_refl _))]
    have Wd:=Q8.at S7;have Tt:=Q8.at Tm;have QT:=nk Wd (by omega) c;have Ps:=ni Q8 (by omega) c c;rw[<-Qu]at QT;rw[<-TQ]at Ps;have Sc:qe≠0:=TQ▸h0;have QH:=pN qd Sc;have VZ:=j9 (qd / qe);have hvd:=QI.rv;have hve:=RC.rv;conv=>whnf
    refine cI hτ dN [.x 0,.x 1,.x 2,.x 3,.x 4,.x 5,.x 6,.x 7,.x 8,.x 9,.x 10,.x 11,.x 12,.x 13,.x 14,.x 15,.x 16,.x 17,.x 20,.x 21,.x 22,.x 23,.x 18,.x 19,.x 24] (by kernel_rfl) (by kernel_rfl) ?_;conv=>whnf
    refine⟨⟨gm,0,none⟩,rfl,by omega,?_⟩;conv=>whnf
    refine⟨_,fun O J r=>hM.cell r (.inl (by rw[c9];rfl)) QI.outer,?_⟩;conv=>whnf
    refine⟨⟨gm,0,none⟩,rfl,by omega,?_⟩;conv=>whnf
    refine⟨_,fun O J r=>hM.cell r (.inl (by rw[c9];rfl)) QI.outer,?_⟩;conv=>whnf
    refine⟨⟨gi,0,none⟩,rfl,by omega,?_⟩;conv=>whnf
    refine⟨[.bool d1,.slice d2 d3 d4,.bool d5,.slice d6 d7 d8],rfl,fun O J r j x L=>hM.cell r (by rw[c9,c9];exact QD) (QI.cells j x L),?_⟩;conv=>whnf
    refine⟨⟨gm,0,none⟩,rfl,by omega,?_⟩;conv=>whnf
    refine⟨_,fun O J r=>hM.cell r (.inl (by rw[c9];rfl)) RC.outer,?_⟩;conv=>whnf
    refine⟨⟨gc,0,none⟩,rfl,by omega,?_⟩;conv=>whnf
    refine⟨[.bool e1,.slice e2 e3 e4,.bool e5,.slice e6 e7 e8],rfl,fun O J r j x L=>hM.cell r (by rw[c9,c9];exact Ub) (RC.cells j x L),?_⟩;conv=>whnf
    refine⟨⟨gm,0,none⟩,rfl,by omega,?_⟩;conv=>whnf
    refine⟨_,fun O J r=>hM.cell r (.inl (by rw[c9];rfl)) RC.outer,?_⟩;conv=>whnf
    refine cG (Id:=fun _ J v V=>cP V (Nf J V) v (qd / qe)) (fun O J r=>H4 (j4.old r F) (QI.zg.iH r F) (RC.zg.iH r F) (by omega) (by omega) Sc) ?_;rintro O wa32 v32 wb32 r W hb Z;replace Y:=Y.tr hb;have hB:=Z.beside (S0:=S) hM r;replace hM:=fS.cD (E:=(wa32.heap.size,wb32.heap.size)::iv) hM r F W fun x L=>aC _ L;replace hO:=cP.nG (E:=(wa32.heap.size,wb32.heap.size)::iv) hO r (bw w) W fun x L=>aC _ L;clear r W hb Z;generalize (wa32.heap.size,wb32.heap.size)::iv=Vu at*
    clear QI RC QD Ub;obtain⟨K0,K1,K2,K3,K4,K5,K6,K7,rfl⟩:=hB.shape;conv=>whnf
    refine cG (Id:=fun _ J v V=>cP V (Nw (j4 S w.heap.size Vu gm n rv1) J V) v (-(qd / qe))) (fun O J r=>qE (j4.old r F) (hB.iH r F)) ?_;rintro O wa33 v33 wb33 r W hb Z;replace Y:=Y.tr hb;have Ur:=Z.xn hM r;replace hM:=fS.cD (E:=(wa33.heap.size,wb33.heap.size)::Vu) hM r F W fun x L=>aC _ L;replace hO:=cP.nG (E:=(wa33.heap.size,wb33.heap.size)::Vu) hO r (bw w) W fun x L=>aC _ L;clear r W hb Z;generalize (wa33.heap.size,wb33.heap.size)::Vu=iv33 at*
    clear hB;obtain⟨N0,N1,N2,N3,N4,N5,N6,N7,rfl⟩:=Ur.shape;conv=>whnf
    refine⟨fun O J r=>?_⟩;refine(hM.Eb r F (by unfold maxLen;omega) (Nat.ne_of_gt TP) hvd hve Sb Uq Ur (fun q hq=>by have:=Wd q hq;omega) (fun q hq=>by have:=Tt q hq;omega) (by omega)).mono fun e w8 W=>?_;obtain⟨rfl,Oc,QZ,Py⟩:=W;have PR:=(Y.tr r.cL).tr (hM.cL r Oc QZ);have TM:=hO.cC (j4.grown r (bw w) Oc QZ);replace TM:=TM.cF (S':=j4 FF w.heap.size ((J.heap.size,w8.heap.size)::iv33) gm n rv1) fun _ G=>⟨G.1.mono fun p hp=>aC _ hp,G.2⟩
    refine⟨.tuple #[],_,(J.heap.size,w8.heap.size)::iv33,rfl,r.nJ (fun x L=>Rel.not r (eI _) (hM.oz x (QZ x L))) Oc,?_⟩;rw[Qu,TQ,show rc=M1.getD c [] by rw[List.getD,Tm];rfl,pL S7 TP]at Py;clear hM hO Y Oc QZ r Ur;generalize (J.heap.size,w8.heap.size)::iv33=RW at*
    conv=>whnf
    refine⟨((i+1:Nat):Int),wo,?_⟩;conv=>whnf
    intro IR w3 K
    exact⟨(i+1,w3,_),⟨by dsimp only;omega,OQ,PR.tr K.cL,Py.rel K F,TM.iH K (bw w)⟩,
     Sub.gn [] K,by dsimp only;omega⟩
   have OQ:i=n:=aU D (by simpa using OQ);rw[OQ]at hM;conv=>whnf
   refine⟨((c+1:Nat):Int),wo,?_⟩;conv=>whnf
   intro IR w3 K;refine⟨(c+1,(gm,rv1,eF M1 c n,q0*qf),((J0,J4),(J1,J5),(J2,J3,J6,J7)),w3,_),⟨PB,Y.tr K.cL,hM.rel K F,hO.iH K (bw w),sG hlen,by dsimp only;rw[R4];exact Q8.elim Vs h0,by dsimp only;rw[R4];omega,?_⟩,Sub.gn [] K,by dsimp only;omega⟩;dsimp only
   rw[<-hD,qg (M:=M1) hlen (Nat.le_refl n) (by omega) PB h0 (Nat.le_refl n),UH,Rat.mul_assoc]
  have OT:k=n:=aU R (by simpa using OT);subst OT;conv=>whnf
  refine dB.mk (fun _=>?_) (fun OS=>by simp at OS);conv=>whnf
  refine cB (cE Y (fun _ J v V=>cP V (Nf J V) v ((0:Int):Rat)) (fun O J r=>xo 0 J (by decide) (by decide)) ?_);rintro O _ _ _ PD r W Y h_ Z;have hZ:=Z.dD (S:=FF) r.bz (mN h_);clear r W Z;obtain⟨O0,O1,O2,O3,O4,O5,O6,O7,rfl⟩:=hZ.shape;conv=>whnf
  intro GT we re;refine⟨_,rfl,Y.tr re.cL,?_⟩;rw[<-hD,IK PB hz,az];exact hZ.out re (bw w)
 have PB:c=n:=aU hc (by simpa using PB);subst PB;rw[BN,Rat.mul_one]at hD;conv=>whnf
 intro GT we re;refine⟨_,rfl,Y.tr re.cL,?_⟩;rw[<-hD];exact(hO.iH re (bw w)).cF fun g G=>Cv.nw G.1 re
end Go.Ex
namespace Go.Sx
open Go Go.Ex Go.Proofs
variable{O:Nat->Sx.dL}
theorem Sub.trans{B nx:Nat}{l:Env}{J:World}{t t2:vt}(h:Sub B l nx O J t)(k:∀In,Rel t.H t.nx t.iv B t.w In J->Sub B t.l t.nx In J t2):Sub B l nx O J t2:=by
 obtain⟨In,r1,e1⟩:=h;obtain⟨GE,r2,e2⟩:=k In r1
 exact⟨GE,r2,fun u v hv=>by
  obtain⟨s,v1,g1,d1⟩:=e2 u v hv;obtain⟨_,v0,g0,d0⟩:=e1 u v1 g1
  exact⟨s,v0,g0,d0.trans d1⟩⟩
end Go.Sx
namespace Go.Ex
open Go Go.Sx Go.Proofs
variable{M:List (List Rat)}{U:List Value}{S:Nat->Prop}
section
variable{S:Nat->Prop}{H:Hp}{nx gm FS:Nat}{iv E:Iv}{B:Nat}{w J V:World}{O:Nat->Sx.dL}{rv:List Value}{A:List (List Value)}{qs:List Rat}
theorem Fr.iH(h:Fr w (j4 S B iv gm FS rv) A qs)(r:Rel H nx iv B w O J)(F:∀g,S g->g<B):Fr J (j4 S B iv gm FS rv) A qs:=h.cC fun _ G=>Rel.same r F G.1
theorem Fr.nG(h:Fr w (j4 S B iv gm FS rv) A qs)(r:Rel H nx iv B w O J)(F:∀g,S g->g<B)(W:Ext J V)(hm:∀p,p∈iv->p∈E):Fr V (j4 S B E gm FS rv) A qs:=
 ((h.iH r F).cC fun g G=>W.block g (Rel.old r F g G.1)).cF fun _ G=>⟨G.1.mono hm,G.2⟩
theorem Fr.push(h:Fr w S A qs){q:Rat}(hq:mP w S U q):Fr w S (A++[U]) (qs++[q]):=by
 refine⟨by simp[h.1],fun j c x I X=>?_⟩;rcases aP j A.length with hj|hj
 ·rw[aJ hj]at I;rw[aJ (by rw[<-h.1];exact hj)]at X;exact h.2 j c x I X
 ·rw[aN hj]at I;rw[aN (by rw[<-h.1];exact hj),<-h.1]at X;have:j-A.length=0:=by have:=(aD.1 I).1;simp at this;omega
  rw[this]at I X;injection I with I;injection X with X;subst I X;exact hq
end
theorem Ka{w:World}{vm:Value}{h:Nat}(hS0:Old S w)(To:uH w S vm M)(OR:∀r∈M,r.length=M.length)(hR:M.length<=1000)(Q8:Ht M h)(X:2<=h)(Pf:4^M.length*h<=800000000):
  dx PG F'.ta #[vm] w (eH w fun v' V=>oO V (Nf w V) v' (gT M)):=by
 have Y:=bR w;have F:=hS0;obtain⟨am,cm,rfl,S3,Rd⟩:=dG.shape To;obtain⟨FS,hRe⟩:∃FS,FS=M.length:=⟨_,rfl⟩
 rw[<-hRe]at S3 Rd OR hR Pf To ⊢;unfold maxLen at Rd;refine xF (by simp) ?_;conv=>whnf
 refine⟨FS,FS,rfl,rfl,Nat.le_refl _,by omega,by omega,?_⟩;conv=>whnf
 refine⟨List Value×World×Iv,fun z=>⟨[(0,sV am FS cm),(3,sV none 0 0),(4,.o (.s 0 0 FS FS)),(14,iZ FS),(15,.o (.v (.int .i64 (z.1.length:Nat))))],[(0,.arr T.row (z.1++List.replicate (FS-z.1.length) (.slice none 0 0)))],1,z.2.2,z.2.1⟩,fun z=>FS-z.1.length,
  fun z=>z.1.length<=FS/\dT w.heap.size w z.2.1/\iR z.2.1 S w.heap.size z.2.2 z.1 FS (M.take z.1.length)/\(∀u∈z.1,u.oneCell'=true),?_,?_⟩
 ·intro O J r;exact⟨([],J,[]),⟨aS _,Y.tr r.cL,by simpa using iR.nil _ _ _ _ _,by simp⟩,Sub.gn [] r⟩
 clear Y;rintro⟨rv,w1,iv⟩ ⟨D,Y,hF,h1c⟩;dsimp only at D Y hF h1c ⊢;conv=>whnf
 refine dB.mk ?_ ?_<;>intro OQ
 ·have OQ:rv.length<FS:=by simpa using OQ
  obtain⟨ra,VV⟩:∃r,M[rv.length]? =some r:=⟨_,aB (by omega)⟩
  have hral:=OR ra (aE VV);obtain⟨adx,ux,rfl,Qg,Ro,R1⟩:=dG.load To VV;obtain⟨aux,cux,rfl,hcux,-⟩:=Qg.shape;conv=>whnf
  refine⟨adx,rfl,by omega,?_⟩;conv=>whnf
  refine⟨.slice aux ra.length cux,rd1 R1 Y (F _ Ro),?_⟩;conv=>whnf
  refine cB (cG (Id:=fun _ J v V=>l9 V S v FS ra/\∀g,v.ownBlock=some g->J.heap.size<=g/\g<V.heap.size) (fun O J r=>?_) ?_)
  ·have:=Ec (w:=J) (oS F r) (oS F r) (Qg.cC fun g G=>(Y.tr r.cL).block g (F g (G.elim id id))) (by omega) (by omega);rw[hral]at this ⊢;exact this
  rintro O PQ v1 PE r W hb ⟨S2,Qf⟩;have SA:=hF.snoc r F W (S2.cF fun g G=>⟨.inl G,fun e=>by have:=F g G;have:=Qf g e;have:=r.bz;omega,fun⟨u,hu,e⟩=>(hF.new u hu g e).elim (fun h=>h.elim) fun h=>by have:=F g G;omega⟩) Qf;rw[show M.take rv.length++[ra]=M.take (rv.length+1) by rw[List.take_add_one,VV];rfl]at SA;replace Y:=Y.tr hb;obtain⟨a3,c3,rfl,-⟩:=S2.form;clear r W hb S2 Qf hF;generalize (PQ.heap.size,PE.heap.size)::iv=OZ at*
  conv=>whnf
  refine⟨by omega,?_⟩;conv=>whnf
  refine⟨by simp;omega,(rv++[.slice a3 FS c3])++List.replicate (FS-(rv.length+1)) (.slice none 0 0),?_,?_⟩
  ·have h5:FS-rv.length=(FS-(rv.length+1))+1:=by omega
   simp[h5,List.replicate_succ]
  conv=>whnf
  refine⟨((rv.length+1:Nat):Int),wo,?_⟩;conv=>whnf
  intro IR w3 K;have QH:(rv++[Value.slice a3 FS c3]).length=rv.length+1:=by simp
  refine⟨(rv++[.slice a3 FS c3],w3,OZ),⟨by dsimp only;rw[QH];exact OQ,Y.tr K.cL,by dsimp only;rw[QH];exact SA.rel K F,fun u hu=>?_⟩,Sub.gn [] K ⟨by dsimp only;rw[QH];rfl,trivial⟩ ⟨rfl,rfl,rfl,rfl,by dsimp only;rw[QH];rfl,trivial⟩,by dsimp only;rw[QH];omega⟩;rcases List.mem_append.1 hu with hu|hu
  ·exact h1c u hu
  ·simp at hu;subst hu;rfl
 have OQ:rv.length=FS:=aU D (by simpa using OQ);rw[OQ,List.take_of_length_le (by omega)]at hF;rw[OQ,bB,List.replicate_zero,List.append_nil];conv=>whnf
 refine cB (cG (Id:=fun _ J v V=>cP V (Nf J V) v ((1:Int):Rat)) (fun O J r=>xo 1 J (by decide) (by decide)) ?_);rintro O PQ v1 PE r W hb Z;replace Y:=Y.tr hb;have hO:=Z.lim (rv:=rv) r fun u hu g G=>hF.new u hu g G;replace hF:iR PE S w.heap.size ((PQ.heap.size,PE.heap.size)::iv) rv FS M:=hF.cD r F W fun x L=>aC _ L;clear r W hb Z;generalize (PQ.heap.size,PE.heap.size)::iv=OZ at*
 obtain⟨A0,A1,A2,A3,A4,A5,A6,A7,rfl⟩:=hO.shape;rw[show ((1:Int):Rat)=1 by decide]at hO;conv=>whnf
 refine⟨Nat×(Nat×List Value×List (List Rat)×Rat)×List (List Value)×((Bool×Bool)×(Option Addr×Option Addr)×(Nat×Nat×Nat×Nat))×World×Iv,fun z=>⟨[(4,.o (.v (.slice (some ⟨z.2.1.1,0,none⟩) FS FS))),(3,.o (.w 2 z.2.2.1.length)),(0,sV am FS cm),(6,pP 1 0),(29,iZ FS),(30,iN z.1)],[(2,.vec T.dK 4 z.2.2.1.flatten),(1,.box T.dK [.v (.bool z.2.2.2.1.1.1),.v (.slice z.2.2.2.1.2.1.1 z.2.2.2.1.2.2.1 z.2.2.2.1.2.2.2.1),.v (.bool z.2.2.2.1.1.2),.v (.slice z.2.2.2.1.2.1.2 z.2.2.2.1.2.2.2.2.1 z.2.2.2.1.2.2.2.2.2)])],3,z.2.2.2.2.2,z.2.2.2.2.1⟩,fun z=>FS-z.1,
  fun z=>z.1<=FS/\dT w.heap.size w z.2.2.2.2.1/\fS z.2.2.2.2.1 S w.heap.size z.2.2.2.2.2 z.2.1.1 FS FS z.2.1.2.1 z.2.1.2.2.1/\cP z.2.2.2.2.1 (j4 FF w.heap.size z.2.2.2.2.2 z.2.1.1 FS z.2.1.2.1) (.agg #[.bool z.2.2.2.1.1.1,.slice z.2.2.2.1.2.1.1 z.2.2.2.1.2.2.1 z.2.2.2.1.2.2.2.1,.bool z.2.2.2.1.1.2,.slice z.2.2.2.1.2.1.2 z.2.2.2.1.2.2.2.2.1 z.2.2.2.1.2.2.2.2.2]) z.2.1.2.2.2/\Fr z.2.2.2.2.1 (j4 FF w.heap.size z.2.2.2.2.2 z.2.1.1 FS z.2.1.2.1) z.2.2.1 ((gT M).take z.1)/\gh FS z.2.1.2.2.1/\Ht z.2.1.2.2.1 (4^z.1*h)/\rl z.2.1.2.2.2<=4^z.1*h/\∀k,z.1<=k->k<=FS->z.2.1.2.2.2*jn z.2.1.2.2.1 z.1 k=jn M 0 k,?_,?_⟩
 ·intro O J r;have Oe:=r.nn 0 _ rfl (by intros;simp) (by simp);have hG:=hF.rK r F (id:=0) rfl Oe (by unfold maxLen;omega) h1c;rw[OQ]at hG
  refine⟨(0,((O 0).g,rv,M,1),[],((A0,A4),(A1,A5),(A2,A3,A6,A7)),J,((O 0).g,(O 0).g+1)::OZ),⟨aS _,Y.tr r.cL,hG,(hO.cC fun g G=>Rel.same r (bw w) G.1).cF fun g G=>⟨G.1.mono fun p hp=>aC _ hp,fun hm=>?_⟩,by simp[Fr],OR,by rw[Nat.pow_zero,Nat.one_mul];exact Q8,by rw[GA,Nat.pow_zero];omega,fun k _ _=>bm _⟩,
   Sub.trans (Sub.rK (tl:=[(3,sV none 0 0),(0,sV am FS cm),(6,pP 1 0),(29,iZ FS),(30,iN 0)]) (tH:=[(1,.box T.dK [.v (.bool A0),.v (.slice A1 A2 A3),.v (.bool A4),.v (.slice A5 A6 A7)])]) r (id:=0) (t:=4) rfl rfl ⟨rfl,trivial⟩ rfl ⟨rfl,rfl,rfl,rfl,rfl,trivial⟩ (by simp[l5,SV.sc,At.sc])) fun In r1=>
    Sub.nil 3 T.dK 4 rfl (by simp[l5,SV.sc,At.sc]) r1 fun GE r2=>Sub.gn [] r2⟩
  rcases hm with hm|⟨u,hu,hm⟩
  ·injection hm with hm;exact Rel.not r (bw w) G.1 0 _ rfl Oe hm
  ·exact G.2 ⟨u,hu,hm⟩
 clear Y hF hO OQ D h1c;rintro⟨c,⟨gm,rv1,M1,q0⟩,A,⟨⟨p0,p4⟩,⟨p1,p5⟩,⟨p2,p3,p6,p7⟩⟩,w1,iv⟩ ⟨hc,Y,hM,hO,hC,hlen,RB,SB,hD⟩;dsimp only at hc Y hM hO hC hlen RB SB hD ⊢;have Ot:=eo hC.nH;have hmf:=pO M;have PZ:A.length=c:=by rw[hC.1,aZ];omega
 rw[PZ]at Ot;conv=>whnf
 refine dB.mk ?_ ?_<;>intro PB
 ·have PB:c<FS:=by simpa using PB
  have hHb:4^(c+1)*h<=800000000:=aW (Nat.mul_le_mul_right _ (Nat.pow_le_pow_right (by decide) PB)) Pf;have R4:4^(c+1)*h=4*(4^c*h):=by rw[Nat.pow_succ,bL (4^c) 4,bc]
  have Vs:2<=4^c*h:=aW X (Nat.le_mul_of_pos_left _ (Nat.pow_pos (by decide)));rw[R4]at hHb;obtain⟨hh,hhe⟩:∃x,x=4^c*h:=⟨_,rfl⟩
  rw[<-hhe]at RB SB Vs hHb R4;have hM1l:=hM.len;obtain⟨gk,cd,qd,d1,d2,d3,d4,d5,d6,d7,d8,QI,QD⟩:=hM.nI (k:=c) (c:=c) (by omega) (by omega);conv=>whnf
  refine⟨⟨gm,0,none⟩,rfl,by omega,?_⟩;conv=>whnf
  refine⟨_,fun O J r=>hM.cell r (.inl (by rw[c9];rfl)) QI.outer,?_⟩;conv=>whnf
  refine⟨⟨gk,0,none⟩,rfl,by omega,?_⟩;conv=>whnf
  refine⟨[.bool d1,.slice d2 d3 d4,.bool d5,.slice d6 d7 d8],rfl,fun O J r j x L=>hM.cell r (by rw[c9,c9];exact QD) (QI.cells j x L),?_⟩;conv=>whnf
  have Qu:=QI.at_;refine cB (cE Y (fun _ J v V=>v= .int .i64 (rs qd)) (fun O J r=>qp (j4.old r F) (QI.zg.iH r F)) ?_);rintro O _ _ _ PD r W Y h_ rfl;replace hM:=fS.cD hM r F W (mC h_);replace hO:=cP.nG hO r (bw w) W (mC h_);replace hC:=Fr.nG hC r (bw w) W (mC h_);clear r W;clear QI QD;conv=>whnf
  refine dB.mk ?_ ?_<;>intro hs
  ·clear hs Qu;conv=>whnf
   refine⟨((c+1:Nat):Int),wo,?_⟩;conv=>whnf
   refine⟨Nat×List (List Value)×World×Iv,fun z=>⟨[(3,.o (.w 2 z.2.1.length)),(0,sV am FS cm),(8,iN z.1)],[(2,.vec T.dK 4 z.2.1.flatten)],3,z.2.2.2,z.2.2.1⟩,fun z=>FS+1-z.1,
    fun z=>c<z.1/\z.1<=FS+1/\dT w.heap.size w z.2.2.1/\Fr z.2.2.1 (Cf w z.2.2.2) z.2.1 ((gT M).take (z.1-1)),?_,?_⟩
   ·intro O J r;exact⟨(c+1,A,J,_),⟨bV _,by dsimp only;omega,Y.tr r.cL,by dsimp only;rw[Nat.add_sub_cancel];exact(Fr.iH hC r (bw w)).cF fun g G=>G.1⟩,Sub.gn [] r⟩
   clear Y hM hO hC Ot PZ;rintro⟨k,A,V,iv⟩ ⟨VS,R,Y,hC⟩;dsimp only at VS R Y hC ⊢;have Ot:=eo hC.nH;have PZ:A.length=k-1:=by rw[hC.1,aZ];omega
   conv=>whnf
   refine dB.mk ?_ ?_<;>intro OT
   ·have OT:k<=FS:=by have:(k:Int)<=FS:=(by simpa using OT);omega
    conv=>whnf
    refine cB (cE Y (fun _ J v V=>cP V (Nf J V) v (jn M 0 k)) (fun O J r=>aAD (h:=h) (oS F r) (lf.cC To ((kS Y r F))) OR OT (by omega) (by omega) Q8 X (aW (Nat.mul_le_mul_right _ (Nat.pow_le_pow_right (by decide) OT)) Pf)) ?_);rintro O _ _ S9 Rp r W Y h_ Z;replace hC:=hC.cD r (bw w) W (mC h_);have hd:=Z.dD (S:=FF) r.bz (mN h_);clear r W Z;obtain⟨C0,C1,C2,C3,C4,C5,C6,C7,rfl⟩:=hd.shape;conv=>whnf
    have St:Fr S9 (Cf w Rp) (A++[[.bool C0,.slice C1 C2 C3,.bool C4,.slice C5 C6 C7]]) ((gT M).take k):=by
     obtain⟨d,rfl⟩:∃d,k=d+1:=⟨k-1,by omega⟩
     rw[List.take_add_one,ll (by omega)];exact hC.push hd.four
    have R5:A.flatten++([.bool C0,.slice C1 C2 C3,.bool C4,.slice C5 C6 C7]:List Value)=(A++([[.bool C0,.slice C1 C2 C3,.bool C4,.slice C5 C6 C7]]:List (List Value))).flatten:=by simp
    clear hC hd;refine .inl ?_;conv=>whnf
    refine⟨by omega,by omega,by unfold maxLen;omega,?_⟩;conv=>whnf
    refine⟨((k+1:Nat):Int),wo,?_⟩;conv=>whnf
    intro IR w3 K;exact⟨(k+1,A++[[.bool C0,.slice C1 C2 C3,.bool C4,.slice C5 C6 C7]],w3,_),⟨by dsimp only;omega,by dsimp only;omega,Y.tr K.cL,by dsimp only;rw[Nat.add_sub_cancel];exact St.rel K (bw w)⟩,Sub.gn [(2,4)] K ⟨by dsimp only;rw[<-R5];rfl,trivial⟩ ⟨by dsimp only;rw[List.length_append,List.length_singleton];rfl,rfl,rfl,trivial⟩,by dsimp only;omega⟩
   have OT:k=FS+1:=by have:¬(k:Int)<=FS:=(by simpa using OT);omega
   conv=>whnf
   intro GT we re;refine⟨_,rfl,Y.tr re.cL,?_⟩;have h5:=re.kQ (id:=2) (sz:=4) (m:=A.length) rfl Ot (by unfold maxLen;omega) (by decide) hC.one;have h6:=hC.rel re (bw w);rw[List.take_of_length_le (by omega)]at h6;refine⟨A,?_,h6.cF fun _ G=>Cv.nw G re⟩;rw[<-h6.1];exact h5.cF fun g G=>.inr G
  have h0:cW M1 c c≠0:=fun e=>by rw[<-Qu,oN.2 e]at hs;simp at hs
  clear hs Qu;conv=>whnf
  obtain⟨gf,cf,qf,f1,f2,f3,f4,f5,f6,f7,f8,Sa,VX⟩:=hM.nI (k:=c) (c:=c) (by omega) (by omega);have UH:qf=cW M1 c c:=Sa.at_.symm;have VY:=ni RB Vs c c;rw[<-UH]at VY h0;have PO:=hJ q0 qf;conv=>whnf
  refine cI hτ dN [.x 0,.x 1,.x 2,.x 3,.x 4,.x 5,.x 6,.x 7,.x 8,.x 9] (by kernel_rfl) (by kernel_rfl) ?_;conv=>whnf
  refine⟨⟨gm,0,none⟩,rfl,by omega,?_⟩;conv=>whnf
  refine⟨_,fun O J r=>hM.cell r (.inl (by rw[c9];rfl)) Sa.outer,?_⟩;conv=>whnf
  refine⟨⟨gf,0,none⟩,rfl,by omega,?_⟩;conv=>whnf
  refine⟨[.bool f1,.slice f2 f3 f4,.bool f5,.slice f6 f7 f8],rfl,fun O J r j x L=>hM.cell r (by rw[c9,c9];exact VX) (Sa.cells j x L),?_⟩;conv=>whnf
  refine cG (Id:=fun _ J v V=>cP V (Nf J V) v (q0*qf)) (fun O J r=>qF (j4.old r F) (cP.cF (hO.iH r (bw w)) fun _ G=>(⟨Cg G.1,G.2⟩:j4 S _ _ _ _ _ _)) (Sa.zg.iH r F) (by omega) (by omega)) ?_;rintro O Qh v12 Qv r W hb Z;replace Y:=Y.tr hb;have Wc:=Z.beside (S0:=fun _=>False) hM r;replace hM:=fS.cD (E:=(Qh.heap.size,Qv.heap.size)::PD) hM r F W fun x L=>aC _ L;replace hC:=Fr.nG (E:=(Qh.heap.size,Qv.heap.size)::PD) hC r (bw w) W fun x L=>aC _ L;clear r W hb Z;generalize (Qh.heap.size,Qv.heap.size)::PD=Vv at*
  clear Sa VX hO;have hO:=Wc;clear Wc;obtain⟨E0,E1,E2,E3,E4,E5,E6,E7,rfl⟩:=hO.shape;conv=>whnf
  have TT:q0*qf=jn M 0 (c+1):=by
   rw[<-hD (c+1) (by omega) (by omega),qg (M:=M1) hlen (n:=c+1) (by omega) (by omega) (by omega) (UH▸h0) (Nat.le_refl _),BN,Rat.mul_one,UH]
  obtain⟨UL,hcss⟩:∃x,x=A++[[.bool E0,.slice E1 E2 E3,.bool E4,.slice E5 E6 E7]]:=⟨_,rfl⟩
  have St:=hC.push hO.four;rw[<-hcss,TT,show(gT M).take c++[jn M 0 (c+1)]=(gT M).take (c+1) by rw[List.take_add_one,ll (by omega)];rfl]at St;have R5:A.flatten++([.bool E0,.slice E1 E2 E3,.bool E4,.slice E5 E6 E7]:List Value)=UL.flatten:=by rw[hcss];simp
  have hcl2:UL.length=A.length+1:=by rw[hcss];simp
  clear hC;have hC:=St;clear St;refine .inl ?_;conv=>whnf
  refine⟨by omega,by omega,by unfold maxLen;omega,?_⟩;conv=>whnf
  refine⟨((c+1:Nat):Int),wo,?_⟩;conv=>whnf
  have Q8:=RB;rw[UH]at h0
  refine⟨Nat×World×Iv,fun z=>⟨[(4,.o (.v (.slice (some ⟨gm,0,none⟩) FS FS))),(3,.o (.w 2 UL.length)),(0,sV am FS cm),(6,pP 1 0),(29,iZ FS),(30,iN c),(7,iN c),(9,iN z.1)],[(2,.vec T.dK 4 UL.flatten),(1,.box T.dK [.v (.bool E0),.v (.slice E1 E2 E3),.v (.bool E4),.v (.slice E5 E6 E7)])],3,z.2.2,z.2.1⟩,fun z=>FS-z.1,
   fun z=>c<z.1/\z.1<=FS/\dT w.heap.size w z.2.1/\fS z.2.1 S w.heap.size z.2.2 gm FS FS rv1 (eF M1 c z.1)/\cP z.2.1 (j4 FF w.heap.size z.2.2 gm FS rv1) (.agg #[.bool E0,.slice E1 E2 E3,.bool E4,.slice E5 E6 E7]) (q0*qf)/\Fr z.2.1 (j4 FF w.heap.size z.2.2 gm FS rv1) UL ((gT M).take (c+1)),?_,?_⟩
  ·intro O J r
   exact⟨(c+1,J,_),⟨bV _,by dsimp only;omega,Y.tr r.cL,by rw[nh _ _ _ (Nat.le_refl _)];exact hM.rel r F,hO.iH r (bw w),Fr.iH hC r (bw w)⟩,
    Sub.gn [(2,4)] r ⟨by rw[<-R5];rfl,rfl,trivial⟩ ⟨rfl,by rw[hcl2];rfl,rfl,rfl,rfl,rfl,rfl,rfl,trivial⟩⟩
  clear Y hM hO hC;rintro⟨i,w7,iv⟩ ⟨TP,D,Y,hM,hO,hC⟩;dsimp only at TP D Y hM hO hC ⊢;conv=>whnf
  refine dB.mk ?_ ?_<;>intro OQ
  ·have OQ:i<FS:=by simpa using OQ
   obtain⟨ri,S7⟩:∃r,M1[i]? =some r:=⟨_,aB (by omega)⟩
   obtain⟨rc,Tm⟩:∃r,M1[c]? =some r:=⟨_,aB (by omega)⟩
   have Sb:(eF M1 c i)[i]? =some ri:=by rw[jo _ _ _ _ (.inr (Nat.le_refl _))];exact S7
   have Uq:(eF M1 c i)[c]? =some rc:=by rw[jo _ _ _ _ (.inl (Nat.le_refl _))];exact Tm
   obtain⟨gi,cd,qd,d1,d2,d3,d4,d5,d6,d7,d8,QI,QD⟩:=hM.nI (k:=i) (c:=c) (by omega) (by omega);obtain⟨gc,ce,qe,e1,e2,e3,e4,e5,e6,e7,e8,RC,Ub⟩:=hM.nI (k:=c) (c:=c) (by omega) (by omega);have Qu:qd=ri.getD c 0:=by
    rw[<-QI.at_];unfold cW;rw[show (eF M1 c i).getD i []=ri by simp only[List.getD,Sb,Option.getD_some]]
   have TQ:qe=cW M1 c c:=by rw[<-RC.at_,pM (.inl (Nat.le_refl _))]
   have Wd:=Q8.at S7;have Tt:=Q8.at Tm;have QT:=nk Wd (by omega) c;have Ps:=ni Q8 (by omega) c c;rw[<-Qu]at QT;rw[<-TQ]at Ps;have Sc:qe≠0:=TQ▸h0;have QH:=pN qd Sc;have VZ:=j9 (qd / qe);have hvd:=QI.rv;have hve:=RC.rv;conv=>whnf
   refine cI hτ dN [.x 0,.x 1,.x 2,.x 3,.x 4,.x 5,.x 6,.x 7,.x 8,.x 9,.x 10,.x 11,.x 12,.x 13,.x 14,.x 15,.x 16,.x 17,.x 20,.x 21,.x 22,.x 23,.x 18,.x 19,.x 24] (by kernel_rfl) (by kernel_rfl) ?_;conv=>whnf
   refine⟨⟨gm,0,none⟩,rfl,by omega,?_⟩;conv=>whnf
   refine⟨_,fun O J r=>hM.cell r (.inl (by rw[c9];rfl)) QI.outer,?_⟩;conv=>whnf
   refine⟨⟨gm,0,none⟩,rfl,by omega,?_⟩;conv=>whnf
   refine⟨_,fun O J r=>hM.cell r (.inl (by rw[c9];rfl)) QI.outer,?_⟩;conv=>whnf
   refine⟨⟨gi,0,none⟩,rfl,by omega,?_⟩;conv=>whnf
   refine⟨[.bool d1,.slice d2 d3 d4,.bool d5,.slice d6 d7 d8],rfl,fun O J r j x L=>hM.cell r (by rw[c9,c9];exact QD) (QI.cells j x L),?_⟩;conv=>whnf
   refine⟨⟨gm,0,none⟩,rfl,by omega,?_⟩;conv=>whnf
   refine⟨_,fun O J r=>hM.cell r (.inl (by rw[c9];rfl)) RC.outer,?_⟩;conv=>whnf
   refine⟨⟨gc,0,none⟩,rfl,by omega,?_⟩;conv=>whnf
   refine⟨[.bool e1,.slice e2 e3 e4,.bool e5,.slice e6 e7 e8],rfl,fun O J r j x L=>hM.cell r (by rw[c9,c9];exact Ub) (RC.cells j x L),?_⟩;conv=>whnf
   refine⟨⟨gm,0,none⟩,rfl,by omega,?_⟩;conv=>whnf
   refine⟨_,fun O J r=>hM.cell r (.inl (by rw[c9];rfl)) RC.outer,?_⟩;conv=>whnf
   refine cG (Id:=fun _ J v V=>cP V (Nf J V) v (qd / qe)) (fun O J r=>H4 (j4.old r F) (QI.zg.iH r F) (RC.zg.iH r F) (by omega) (by omega) Sc) ?_;rintro O SK v13 Se r W hb Z;replace Y:=Y.tr hb;have hB:=Z.beside (S0:=S) hM r;replace hM:=fS.cD (E:=(SK.heap.size,Se.heap.size)::iv) hM r F W fun x L=>aC _ L;replace hO:=cP.nG (E:=(SK.heap.size,Se.heap.size)::iv) hO r (bw w) W fun x L=>aC _ L;replace hC:=Fr.nG (E:=(SK.heap.size,Se.heap.size)::iv) hC r (bw w) W fun x L=>aC _ L;clear r W hb Z;generalize (SK.heap.size,Se.heap.size)::iv=TU at*
   clear QI RC QD Ub;obtain⟨F0,F1,F2,F3,F4,F5,F6,F7,rfl⟩:=hB.shape;conv=>whnf
   refine cG (Id:=fun _ J v V=>cP V (Nw (j4 S w.heap.size TU gm FS rv1) J V) v (-(qd / qe))) (fun O J r=>qE (j4.old r F) (hB.iH r F)) ?_;rintro O Vw v14 Vx r W hb Z;replace Y:=Y.tr hb;have Ur:=Z.xn hM r;replace hM:=fS.cD (E:=(Vw.heap.size,Vx.heap.size)::TU) hM r F W fun x L=>aC _ L;replace hO:=cP.nG (E:=(Vw.heap.size,Vx.heap.size)::TU) hO r (bw w) W fun x L=>aC _ L;replace hC:=Fr.nG (E:=(Vw.heap.size,Vx.heap.size)::TU) hC r (bw w) W fun x L=>aC _ L;clear r W hb Z;generalize (Vw.heap.size,Vx.heap.size)::TU=Vy at*
   clear hB;obtain⟨G0,G1,G2,G3,G4,G5,G6,G7,rfl⟩:=Ur.shape;conv=>whnf
   refine⟨fun O J r=>?_⟩;refine(hM.Eb r F (by unfold maxLen;omega) (Nat.ne_of_gt TP) hvd hve Sb Uq Ur (fun q hq=>by have:=Wd q hq;omega) (fun q hq=>by have:=Tt q hq;omega) (by omega)).mono fun e w8 W=>?_;obtain⟨rfl,Oc,QZ,Py⟩:=W;have PR:=(Y.tr r.cL).tr (hM.cL r Oc QZ);have TM:=hO.cC (j4.grown r (bw w) Oc QZ);replace TM:=TM.cF (S':=j4 FF w.heap.size ((J.heap.size,w8.heap.size)::Vy) gm FS rv1) fun _ G=>⟨G.1.mono fun p hp=>aC _ hp,G.2⟩
   have St:=(hC.cC (j4.grown r (bw w) Oc QZ)).cF (S':=j4 FF w.heap.size ((J.heap.size,w8.heap.size)::Vy) gm FS rv1) fun _ G=>⟨G.1.mono fun p hp=>aC _ hp,G.2⟩
   refine⟨.tuple #[],_,(J.heap.size,w8.heap.size)::Vy,rfl,r.nJ (fun x L=>Rel.not r (eI _) (hM.oz x (QZ x L))) Oc,?_⟩;rw[Qu,TQ,show rc=M1.getD c [] by rw[List.getD,Tm];rfl,pL S7 TP]at Py;clear hM hO Y Oc QZ r Ur hC;generalize (J.heap.size,w8.heap.size)::Vy=RW at*
   conv=>whnf
   refine⟨((i+1:Nat):Int),wo,?_⟩;conv=>whnf
   intro IR w3 K
   exact⟨(i+1,w3,_),⟨by dsimp only;omega,OQ,PR.tr K.cL,Py.rel K F,TM.iH K (bw w),Fr.iH St K (bw w)⟩,
    Sub.gn [] K,by dsimp only;omega⟩
  have OQ:i=FS:=aU D (by simpa using OQ);rw[OQ]at hM;conv=>whnf
  refine⟨((c+1:Nat):Int),wo,?_⟩;conv=>whnf
  intro IR w3 K;refine⟨(c+1,(gm,rv1,eF M1 c FS,q0*qf),UL,((E0,E4),(E1,E5),(E2,E3,E6,E7)),w3,_),⟨PB,Y.tr K.cL,hM.rel K F,hO.iH K (bw w),Fr.iH hC K (bw w),sG hlen,by dsimp only;rw[R4];exact Q8.elim Vs h0,by dsimp only;rw[R4];omega,fun k N h4=>?_⟩,Sub.gn [] K,by dsimp only;omega⟩;dsimp only at N ⊢;rw[<-hD k (by omega) h4,qg (M:=M1) hlen h4 (by omega) N h0 h4,UH,Rat.mul_assoc]
 have PB:c=FS:=aU hc (by simpa using PB);replace hC:=hC.cF (S':=Cf w iv) fun g G=>G.1;rw[<-PZ]at Ot;conv=>whnf
 intro GT we re;refine⟨_,rfl,Y.tr re.cL,?_⟩;have h5:=re.kQ (id:=2) (sz:=4) (m:=A.length) rfl Ot (by unfold maxLen;omega) (by decide) hC.one;have h6:=hC.rel re (bw w);rw[List.take_of_length_le (by omega)]at h6;refine⟨A,?_,h6.cF fun _ G=>Cv.nw G re⟩;rw[<-h6.1];exact h5.cF fun g G=>.inr G
end Go.Ex
namespace Go.Ex
open Go Go.Sx Go.Proofs
variable{U:List Value}{O:Nat->Sx.dL}
inductive Tp where
 |nil
 |x (i:Nat) (t:Tp)
 |two (i:Nat) (t:Tp) (j:Nat) (u:Tp)
 |rK (id:Nat) (t:Tp)
section
variable{P:Program}{τ:mn}{ops:Array Oper}{B n nx:Nat}{l:Env}{H:Hp}{iv:Iv}{w J:World}{O:Nat->Sx.dL}{a:Act}
end
theorem uI{l tl:Env}{nx t id n:Nat}(Z:(O id).nil=false)(ht:fR l t=some (.o (.w id n)))(I:D4 l tl)(X:l5 nx tl):∀u v,fR ((t,.o (.v (.slice (some ⟨(O id).g,0,none⟩) n (O id).cap)))::tl) u=some v->v.sc nx/\∃v',fR l u=some v'/\v'.den O=v.den O:=fun u v hv=>by
 rw[eW]at hv;split at hv
 ·rename_i e;subst e;injection hv with hv;subst hv;exact⟨trivial,_,ht,by simp[SV.den,At.den,Z]⟩
 ·exact⟨X.get u v hv,v,I.get u v hv,rfl⟩
theorem MR{H:Hp}{nx:Nat}{iv:Iv}{B:Nat}{w J:World}(r:Rel H nx iv B w O J){id t m sz:Nat}(h:cV H id=some (.vec t sz U))(hm:U.length=m*sz)(Sh:m<=maxLen)(hs:0<sz)(h0:0<m)(I:∀u∈U,u.oneCell'=true):
  (O id).nil=false/\B<=(O id).g/\iu J (fun g=>g=(O id).g) sz (.slice (some ⟨(O id).g,0,none⟩) m (O id).cap) U m:=by
 rcases r.vec id t sz _ h with⟨Z,rfl⟩|⟨Z,spare,hb,hc,QF⟩
 ·have:=Nat.mul_pos h0 hs;simp at hm;omega
 ·refine⟨Z,(r.low id _ h Z).1,Sh,hm,I,some ⟨(O id).g,0,none⟩,(O id).cap,rfl,?_,fun j x L=>⟨_,rfl,rfl,?_⟩⟩
  ·have I:(U++spare).length=U.length+spare.length:=List.length_append;have X:m*sz<=(O id).cap*sz:=by omega
   exact Nat.le_of_mul_le_mul_right X hs
  ·rw[dA,cell_of hb,aV,aJ (aD.1 L).1];exact L
end Go.Ex
namespace Go.Ex
section
variable{M:List (List Rat)}{b:List Rat}{n:Nat}
def dX(M:List (List Rat))(b:List Rat):List (List Rat):=M.mapIdx fun i r=>r++[b.getD i 0]
theorem jP(hl:gh n M):gh (n+1) (dX M b):=fun r hr=>by
 obtain⟨i,D⟩:=aQ hr;unfold dX at D;rw[List.getElem?_mapIdx]at D
 cases L:M[i]? with
 |none=>rw[L]at D;cases D
 |some x=>
  rw[L]at D;injection D with D;subst D;rw[List.length_append,hl x (aE L)];rfl
theorem fP:(dX M b).length=M.length:=by simp[dX]
end
end Go.Ex
namespace Go.Ex
open Go Go.Sx Go.Proofs
variable{M:List (List (Int×Int))}{xs:List Rat}{S:Nat->Prop}{q:Rat}{v:Value}{w:World}
section
variable{S:Nat->Prop}{H:Hp}{nx:Nat}{iv0:Iv}{B:Nat}{w J V:World}{O:Nat->Sx.dL}{v:Value}{xs:List Rat}
end
theorem lQ:rs q<0↔q<0:=by rw[rs,Int.sign_neg_iff,<-Int.not_le,Rat.num_nonneg,Rat.not_le]
theorem lN:0<rs q↔0<q:=by
 have h:=lQ (q:= -q);rw[NM]at h;constructor
 ·intro k;have:=h.1 (by omega);grind
 ·intro k;have:=h.2 (by grind);omega
theorem Dq(M:List (List Rat))(n:Nat):jn M 0 n=eV n (cW M):=by
 unfold jn;rw[Nat.sub_zero];exact eh fun i j _ _=>by rw[aV,aV]
def ov{α:Type}(M:List (List α)):Nat:=if sZ M≠0 then sZ M else if iS M≠M.length then 11 else 0
theorem I8{α:Type}{M:List (List α)}(h:ov M=0):sZ M=0/\iS M=M.length:=by
 unfold ov at h;split at h
 ·rename_i N;exact absurd h N
 ·split at h
  ·cases h
  ·rename_i N h4;exact⟨by omega,by omega⟩
def sI(M:List (List Rat)):Prop:=(∀i k,i<M.length->k<i->cW M i k=cW M k i)/\∀q∈gT M,0<q
theorem zh(F:Old S w)(h:ee w S v M):dx PG F'.mF #[v] w (eH w fun v' _=>v'= .int .i64 (ov M)):=by
 have Y:=bR w;obtain⟨am,cm,rfl,S3,Rd⟩:=dG.shape h;unfold maxLen at Rd;refine pq (by simp) ?_;conv=>whnf
 refine cB (cE Y (fun _ J v V=>v= .int .i64 (sZ M)) (fun O J r=>Aj (oS F r) (ee.cC h ((kS Y r F)))) ?_);rintro O _ _ _ OZ r W Y h_ rfl;clear r;conv=>whnf
 refine dB.mk ?_ ?_<;>intro W
 ·have W:sZ M≠0:=fun e=>by rw[e]at W;simp at W
  conv=>whnf
  exact rtn Y fun GT we re=>by unfold ov;rw[if_pos W];rfl
 have W:(sZ M:Nat)=0:=by
  have h4:(((sZ M:Nat):Int)==(0:Int))=true:=by simpa using W
  have:=eq_of_beq h4;omega
 conv=>whnf
 refine cB (cE Y (fun _ J v V=>v= .int .i64 (iS M)) (fun O J r=>vT (oS F r) (ee.cC h ((kS Y r F)))) ?_);rintro O _ _ _ OU r W Y h_ rfl;clear r W;conv=>whnf
 refine dB.mk ?_ ?_<;>intro hl
 ·have hl:iS M≠M.length:=fun e=>by rw[e]at hl;simp at hl
  conv=>whnf
  exact rtn Y fun GT we re=>by unfold ov;rw[aI (by omega),if_pos hl];rfl
 have hl:(iS M:Nat)=(M.length:Nat):=by
  have h4:(((iS M:Nat):Int)==((M.length:Nat):Int))=true:=by simpa using hl
  have:=eq_of_beq h4;omega
 conv=>whnf
 exact rtn Y fun GT we re=>by unfold ov;rw[aI (by omega),aI (by omega)];rfl
theorem Nc{f:Rat}(F:Old S w)(hf:cP w S v f):
  dx PG F'.ga #[v] w (eH w fun v' _=>v'= .bool (decide (f<=0))):=by
 have Y:=bR w;obtain⟨b1,a1,n1,c1,b2,a2,n2,c2,rfl⟩:=hf.shape;refine rH (by simp) ?_;conv=>whnf
 refine cB (cE Y (fun _ J v V=>v= .int .i64 (rs f)) (fun O J r=>qp (oS F r) (hf.cC (kS Y r F))) ?_);rintro O _ _ _ OZ r W Y h_ rfl;clear r;conv=>whnf
 exact rtn Y fun GT we re=>by rw[show decide (f<=0)=decide (rs f<=0)from Bool.eq_iff_iff.2 (by rw[decide_eq_true_eq,decide_eq_true_eq,<-Rat.not_lt,<-Int.not_lt,lN])];rfl
theorem GI(F:Old S w)(L:gj w S S v xs):
  dx PG F'.eU #[v,fnV F'.ga] w (eH w fun v' _=>∃z:Int,v'= .int .i64 z/\ -1<=z/\z<=9223372036854775807/\(0<=z↔∃x∈xs,x<=0)):=by
 have Y:=bR w;obtain⟨ax,cx,rfl,UM,UN⟩:=L.shape;unfold maxLen at UN;refine fy (by simp) ?_;conv=>whnf
 refine⟨Nat×World×Iv,fun z=>⟨[(0,sV ax xs.length cx),(1,.o (.v (fnV F'.ga))),(7,iZ xs.length),(8,iN z.1)],[],0,z.2.2,z.2.1⟩,fun z=>xs.length-z.1,
  fun z=>z.1<=xs.length/\dT w.heap.size w z.2.1/\∀j x,j<z.1->xs[j]? =some x->¬x<=0,?_,?_⟩
 ·intro O J r;exact⟨(0,J,[]),⟨by simp,r.cL,by simp⟩,Sub.gn [] r⟩
 clear Y;rintro⟨i,w1,iv⟩ ⟨D,Y,ht⟩;dsimp only at D Y ht ⊢;conv=>whnf
 refine dB.mk ?_ ?_<;>intro OQ
 ·have OQ:i<xs.length:=by simpa using OQ
  obtain⟨x,Pz⟩:∃x,xs[i]? =some x:=⟨_,aB OQ⟩
  obtain⟨adx,csx,Pu,Qg,Pt⟩:=L.load Pz;obtain⟨p0,p1,p2,p3,p4,p5,p6,p7,rfl,Qg⟩:=Qg;conv=>whnf
  refine⟨adx,Pu,by omega,?_⟩;conv=>whnf
  refine⟨[.bool p0,.slice p1 p2 p3,.bool p4,.slice p5 p6 p7],rfl,rdO Pt Y F,?_⟩;conv=>whnf
  refine cB (cE Y (fun _ J v V=>v= .bool (decide (x<=0))) (fun O J r=>Nc (oS F r) (Qg.cC (kS Y r F))) ?_);rintro O _ _ _ OZ r W Y h_ rfl;clear r;conv=>whnf
  refine dB.mk ?_ ?_<;>intro W
  ·have Uh:x<=0:=aK W;conv=>whnf
   exact rtn Y fun GT we re=>⟨_,rfl,by omega,by omega,iff_of_true (by omega) ⟨x,aE Pz,Uh⟩⟩
  have Uh:¬x<=0:=aH W;conv=>whnf
  refine⟨((i+1:Nat):Int),wo,?_⟩;conv=>whnf
  intro IR w3 K;refine⟨(i+1,w3,_),⟨OQ,Y.tr K.cL,fun j y hj hy=>?_⟩,Sub.gn [] K,by dsimp only;omega⟩;rcases aP j i with h|h
  ·exact ht j y h hy
  obtain rfl:j=i:=by dsimp only at hj;omega
  rw[Pz]at hy;injection hy with hy;rw[<-hy];exact Uh
 have OQ:i=xs.length:=aU D (by simpa using OQ);conv=>whnf
 intro GT we re
 exact⟨_,rfl,Y.tr re.cL,⟨_,rfl,by omega,by omega,iff_of_false (by omega) fun⟨x,hm,h0⟩=>by
   obtain⟨j,hj⟩:=aQ hm;have Sr:j<xs.length:=(aD.1 hj).1
   exact ht j x (by omega) hj h0⟩⟩
theorem Ak(F:Old S w)(L:gj w S S v xs):
  dx PG F'.eM #[v,fnV F'.ga] w (eH w fun v' _=>v'= .bool (decide (∃x∈xs,x<=0))):=by
 have Y:=bR w;have Ri:=L;obtain⟨ax,cx,rfl,UM,-⟩:=Ri.shape;refine fc (by simp) ?_;conv=>whnf
 refine cB (cE Y (fun _ J v V=>∃z:Int,v= .int .i64 z/\ -1<=z/\z<=9223372036854775807/\(0<=z↔∃x∈xs,x<=0)) (fun O J r=>GI (oS F r) (L.cC fun g G=>(Y.tr r.cL).block g (F g (G.elim id id)))) ?_);rintro O _ _ _ OZ r W Y h_ ⟨z,rfl,Ol,Pg,hz⟩;clear r;conv=>whnf
 exact rtn Y fun GT we re=>by rw[show decide (∃x∈xs,x<=0)=decide (z≥0)from Bool.eq_iff_iff.2 (by rw[decide_eq_true_eq,decide_eq_true_eq];exact hz.symm)];rfl
theorem rX{h0:Nat}(F:Old S w)(h:ee w S v M)(hf:ov M=0->(∀r∈M,Few r)/\Ht (kX M) h0/\2<=h0/\4^M.length*h0<=800000000)(h0b:h0<=1000000000):
  dx PG F'.pX #[v] w (eH w fun v' _=>(ov M≠0/\v'= .tuple #[.bool false,.int .i64 (ov M)])\/(ov M=0/\∃d,v'= .tuple #[.bool d,.int .i64 0]/\(d=true->sI (kX M))/\(sI (kX M)->d=true))):=by
 have Y:=bR w;obtain⟨am,cm,rfl,S3,Rd⟩:=dG.shape h;refine tu (by simp) ?_;conv=>whnf
 refine cB (cE Y (fun _ J v V=>v= .int .i64 ((ov M:Nat):Int)) (fun O J r=>zh (oS F r) (ee.cC h ((kS Y r F)))) ?_);rintro O _ _ _ OZ r W Y h_ rfl;clear r;conv=>whnf
 refine dB.mk ?_ ?_<;>intro W
 ·have W:ov M≠0:=fun e=>by rw[e]at W;simp at W
  conv=>whnf
  exact rtn Y fun GT we re=>.inl ⟨W,rfl⟩
 have W:(ov M:Nat)=0:=by
  have h4:(((ov M:Nat):Int)==(0:Int))=true:=by simpa using W
  have:=eq_of_beq h4;omega
 obtain⟨hfM,Q8,X,Pf⟩:=hf W;obtain⟨hE,hsq⟩:=I8 W;obtain⟨OR,hRl,PZ⟩:=I9 hE;have hAl:(kX M).length=M.length:=by simp[kX]
 have Tu:∀r∈kX M,r.length=(kX M).length:=fun r hr=>by
  obtain⟨x,L,rfl⟩:=aR.1 hr;rw[aL,hAl,OR x L,hsq]
 conv=>whnf
 refine cB (cE Y (fun _ J v V=>lf V (Nf J V) v (kX M)) (fun O J r=>Ia (oS F r) (ee.cC h ((kS Y r F))) hfM (fun r hr=>by rw[OR r hr];omega) (by omega)) ?_);rintro O _ _ _ OU r W Y h_ Z;have gA:=Z.dD (S:=FF) r.bz (mN h_);clear r W;obtain⟨aA,cA,rfl⟩:=gA.shape;rw[hAl]at gA Tu ⊢;clear hf h hfM;generalize kX M=F8 at*
 generalize M.length=FS at*
 conv=>whnf
 refine⟨Nat×World×Iv,fun z=>⟨[(5,sV aA FS cA),(16,iZ FS),(17,iN z.1)],[],0,z.2.2,z.2.1⟩,fun z=>FS-z.1,
  fun z=>z.1<=FS/\dT w.heap.size w z.2.1/\lf z.2.1 (Cf w z.2.2) (.slice aA FS cA) F8/\∀i k,i<z.1->k<i->cW F8 i k=cW F8 k i,?_,?_⟩
 ·intro O J r;exact⟨(0,J,_),⟨aS _,Y.tr r.cL,gA.rel r (bw w),fun i k D=>by dsimp only at D;omega⟩,Sub.gn [] r⟩
 clear Y gA;rintro⟨i,w1,iv⟩ ⟨D,Y,gA,hs⟩;dsimp only at D Y gA hs ⊢;conv=>whnf
 refine dB.mk ?_ ?_<;>intro OQ
 ·have OQ:i<FS:=by simpa using OQ
  conv=>whnf
  refine⟨Nat×World×Iv,fun z=>⟨[(5,sV aA FS cA),(16,iZ FS),(17,iN i),(6,iN i),(20,iN i),(21,iN z.1)],[],0,z.2.2,z.2.1⟩,fun z=>i-z.1,
   fun z=>z.1<=i/\dT w.heap.size w z.2.1/\lf z.2.1 (Cf w z.2.2) (.slice aA FS cA) F8/\∀k,k<z.1->cW F8 i k=cW F8 k i,?_,?_⟩
  ·intro O J r;exact⟨(0,J,_),⟨aS _,Y.tr r.cL,gA.rel r (bw w),fun k R=>by dsimp only at R;omega⟩,Sub.gn [] r⟩
  clear Y gA;rintro⟨k,w1,iv⟩ ⟨R,Y,gA,ht⟩;dsimp only at R Y gA ht ⊢;conv=>whnf
  refine dB.mk ?_ ?_<;>intro OT
  ·have OT:k<i:=by simpa using OT
   obtain⟨rd,hrd⟩:∃r,F8[i]? =some r:=⟨_,aB (by omega)⟩
   have Sf:=Tu rd (aE hrd);obtain⟨qd,Qu⟩:∃q,rd[k]? =some q:=⟨_,aB (by omega)⟩
   have hed:cW F8 i k=qd:=by unfold cW;simp[List.getD,hrd,Qu]
   obtain⟨add,ud,Om,hRd,k1d,k2d⟩:=dG.load (show uH _ _ _ _ from gA) hrd;obtain⟨aud,cud,rfl⟩:=dG.rowOf hRd;obtain⟨aed,csd,haed,hFd,hled⟩:=hRd.load Qu;obtain⟨d0,d1,d2,d3,d4,d5,d6,d7,rfl,hFd⟩:=hFd;obtain⟨re,hre⟩:∃r,F8[k]? =some r:=⟨_,aB (by omega)⟩
   have hle:=Tu re (aE hre);obtain⟨qe,TQ⟩:∃q,re[i]? =some q:=⟨_,aB (by omega)⟩
   have hee:cW F8 k i=qe:=by unfold cW;simp[List.getD,hre,TQ]
   obtain⟨ade,ue,hae,hRe,k1e,k2e⟩:=dG.load (show uH _ _ _ _ from gA) hre;obtain⟨aue,cue,rfl⟩:=dG.rowOf hRe;obtain⟨aee,cse,haee,hFe,hlee⟩:=hRe.load TQ;obtain⟨e0,e1,e2,e3,e4,e5,e6,e7,rfl,hFe⟩:=hFe;have hqd2:=Q8.at hrd qd (aE Qu);have hqe2:=Q8.at hre qe (aE TQ);conv=>whnf
   refine cI hτ dN [.x 0,.x 1,.x 2,.x 3,.x 4,.x 5,.x 6,.x 7,.x 8,.x 9,.x 10,.x 11,.x 12,.x 13,.x 14,.x 15] (by kernel_rfl) (by kernel_rfl) ?_;conv=>whnf
   refine⟨add,Om,by omega,?_⟩;conv=>whnf
   refine⟨.slice aud rd.length cud,fun O J r=>?_,?_⟩
   ·rw[aF,cJ (w:=w1) (V:=J) (by rw[c9];exact Rel.same r (bw w) k1d)];exact k2d
   conv=>whnf
   refine⟨aed,haed,by omega,?_⟩;conv=>whnf
   refine⟨[.bool d0,.slice d1 d2 d3,.bool d4,.slice d5 d6 d7],rfl,fun O J r j u hu=>?_,?_⟩
   ·obtain⟨z1,z2⟩:=hled j u hu;rw[aF,cJ (w:=w1) (V:=J) (by rw[c9,c9];exact Rel.same r (bw w) z1)];exact z2
   conv=>whnf
   refine⟨ade,hae,by omega,?_⟩;conv=>whnf
   refine⟨.slice aue re.length cue,fun O J r=>?_,?_⟩
   ·rw[aF,cJ (w:=w1) (V:=J) (by rw[c9];exact Rel.same r (bw w) k1e)];exact k2e
   conv=>whnf
   refine⟨aee,haee,by omega,?_⟩;conv=>whnf
   refine⟨[.bool e0,.slice e1 e2 e3,.bool e4,.slice e5 e6 e7],rfl,fun O J r j u hu=>?_,?_⟩
   ·obtain⟨z1,z2⟩:=hlee j u hu;rw[aF,cJ (w:=w1) (V:=J) (by rw[c9,c9];exact Rel.same r (bw w) z1)];exact z2
   conv=>whnf
   refine cE Y (fun _ J v V=>v= .int .i64 (rs (qd-qe))) (fun O J r=>Kb (Rel.old r (bw w)) (hFd.rel r (bw w)) (hFe.rel r (bw w)) (by have:=h0b;omega) (by have:=h0b;omega)) ?_;rintro O _ _ _ PD r W Y h_ rfl;replace gA:=gA.cD r (bw w) W (mC h_);clear r W;conv=>whnf
   clear hRd hRe hFd hFe hled hlee k1d k1e k2d k2e;refine dB.mk ?_ ?_<;>intro hc
   ·have hc:qd≠qe:=fun e=>by rw[Mn.2 e]at hc;simp at hc
    conv=>whnf
    exact rtn Y fun GT we re=>.inr ⟨W,false,rfl,fun h=>(by cases h),fun h=>absurd (by rw[<-hed,<-hee];exact h.1 i k (by omega) OT) hc⟩
   have hc:qd=qe:=Mn.1 (by simpa using hc);conv=>whnf
   refine⟨((k+1:Nat):Int),wo,?_⟩;conv=>whnf
   intro IR w3 K;refine⟨(k+1,w3,_),⟨OT,Y.tr K.cL,gA.rel K (bw w),fun j hj=>?_⟩,Sub.gn [] K,by dsimp only;omega⟩;rcases aP j k with I|I
   ·exact ht j I
   ·rw[show j=k by dsimp only at hj;omega,hed,hee,hc]
  have OT:k=i:=aU R (by simpa using OT);conv=>whnf
  refine⟨((i+1:Nat):Int),wo,?_⟩;conv=>whnf
  intro IR w3 K;refine⟨(i+1,w3,_),⟨OQ,Y.tr K.cL,gA.rel K (bw w),fun i2 k2 I X=>?_⟩,Sub.gn [] K,by dsimp only;omega⟩;rcases aP i2 i with N|N
  ·exact hs i2 k2 N X
  ·obtain rfl:i2=i:=by dsimp only at I;omega
   exact ht k2 (by omega)
 have OQ:i=FS:=aU D (by simpa using OQ);subst OQ;conv=>whnf
 refine cB (cE Y (fun _ J v V=>oO V (Nf J V) v (gT F8)) (fun O J r=>Ka (h:=h0) (Rel.old r (bw w)) (gA.rel r (bw w)) (fun r hr=>(Tu r hr).trans hAl.symm) (by omega) Q8 X (by rw[hAl];exact Pf)) ?_);rintro O _ _ _ Rp r W Y h_ Z;clear gA;have gm:=Z.dD (S:=FF) r.bz (mN h_);clear r W;obtain⟨ag,cg,rfl⟩:=gm.shape;conv=>whnf
 refine cB (cE Y (fun _ J v V=>v= .bool (decide (∃x∈gT F8,x<=0))) (fun O J r=>Ak (Rel.old r (bw w)) (gm.rel r (bw w))) ?_);rintro O _ _ _ UI r W Y h_ rfl;clear gm;clear r W;conv=>whnf
 exact rtn Y fun GT we re=>.inr ⟨W,_,rfl,fun h=>⟨fun i k D R=>hs i k (by omega) R,fun q hq=>Rat.not_le.1 fun h0=>by rw[bU (⟨q,hq,h0⟩:∃x∈gT F8,x<=0)]at h;cases h⟩,fun h=>by rw[bE (fun ⟨q,hq,h0⟩=>absurd (h.2 q hq) (Rat.not_lt.2 h0):¬ ∃x∈gT F8,x<=0)];rfl⟩
end Go.Ex
namespace Go.Ex
variable{Fd M:List (List Rat)}{s:List (List Rat)×List Nat}{pv:List Nat}{l r:List Rat}{j:Nat}{p q:Nat->Nat}{u v:Nat->Rat}
def jm:List Nat->(Nat->Rat)->Rat
 |[],_=>0
 |t::l,g=>g t+jm l g
theorem yS{g h:Nat->Rat}:∀{l:List Nat},(∀t∈l,g t=h t)->jm l g=jm l h
 |[],_=>rfl
 |t::l,e=>by show g t+_=h t+_;rw[e t aG,yS fun s hs=>e s (aC _ hs)]
theorem BK{g:Nat->Rat}:∀{l:List Nat},(∀t∈l,g t=0)->jm l g=0
 |[],_=>rfl
 |t::l,e=>by show g t+_=0;rw[e t aG,BK fun s hs=>e s (aC _ hs),bD]
theorem wA(g:Nat->Rat):∀l k:List Nat,jm (l++k) g=jm l g+jm k g
 |[],k=>(Rat.zero_add _).symm
 |t::l,k=>by show g t+jm (l++k) g=g t+jm l g+jm k g;rw[wA g l k,Rat.add_assoc]
theorem Dk(g:Nat->Rat):∀l:List Nat,jm l (fun t=> -g t)= -jm l g
 |[]=>rfl
 |t::l=>by show -g t+jm l _= -(g t+jm l g);rw[Dk g l,Rat.neg_add]
theorem wB(p:Nat->Bool)(g:Nat->Rat):∀l:List Nat,jm l g=jm (l.filter p) g+jm (l.filter fun t=> !p t) g
 |[]=>(bD 0).symm
 |t::l=>by
  show g t+jm l g=_;rw[wB p g l,List.filter_cons,List.filter_cons]
  cases p t with
  |true=>show _=g t+_+_;rw[Rat.add_assoc];rfl
  |false=>
   show _=jm (l.filter p) g+(g t+_)
   rw[<-Rat.add_assoc,Rat.add_comm (g t),Rat.add_assoc]
theorem yT{g:Nat->Rat}{s:Nat}:∀{l:List Nat},l.Nodup->s∈l->(∀t∈l,t≠s->g t=0)->jm l g=g s
 |[],_,hm,_=>by cases hm
 |t::l,Z,hm,h=>by
  show g t+jm l g=g s;have Qf:=List.nodup_cons.1 Z;rcases List.mem_cons.1 hm with rfl|hm
  ·rw[BK fun u hu=>h u (aC _ hu) fun e=>Qf.1 (e▸hu),bD]
  ·rw[h t aG (fun e=>Qf.1 (e▸hm)),Rat.zero_add,yT Qf.2 hm fun u hu=>h u (aC _ hu)]
theorem yU{i t:Nat}{v:Rat}:(l.set i v).getD t 0=if i=t/\i<l.length then v else l.getD t 0:=by
 simp only[List.getD,List.getElem?_set]
 by_cases h:i=t
 ·subst h;by_cases hl:i<l.length
  ·simp[hl]
  ·simp[hl]
 ·simp[h]
theorem yV{D':Nat->List Rat}{pv:List Nat}{f:Nat->Rat}(hF:∀i,D' (i+1)=(D' i).set (pv.getD i 0) (f i)){t:Nat}(ht:t∉pv):∀i,i<=pv.length->(D' i).getD t 0=(D' 0).getD t 0
 |0,_=>rfl
 |i+1,h=>by
  rw[hF,yU,aI fun e=>ht (by rw[<-e.1,List.getD,aB (by omega)];exact aX _)];exact yV hF ht i (by omega)
theorem Jf(hp:pv.Pairwise (· < ·)){i:Nat}(PH:j<i)(D:i<pv.length):pv.getD j 0<pv.getD i 0:=by
 rw[List.getD,List.getD,aB D,aB (by omega)];exact List.pairwise_iff_getElem.1 hp j i _ _ PH
theorem nd{D':Nat->List Rat}{pv:List Nat}{f:Nat->Rat}{n:Nat}(hF:∀i,D' (i+1)=(D' i).set (pv.getD i 0) (f i))(hl:∀i,(D' i).length=n)(hp:pv.Pairwise (· < ·))(Z:∀p∈pv,p<n){j:Nat}:∀i,i<=pv.length->j<i->(D' i).getD (pv.getD j 0) 0=f j
 |0,_,h=>by omega
 |i+1,h,hj=>by
  rw[hF,yU];rcases aP j i with I|I
  ·have:=Jf hp I (by omega);rw[aI (by omega)];exact nd hF hl hp Z i (by omega) I
  ·have e:j=i:=by omega
   subst e;have hm:pv.getD j 0<(D' j).length:=by rw[hl];exact Z _ (by rw[List.getD,aB (by omega)];exact aX _)
   rw[if_pos ⟨rfl,hm⟩]
abbrev iz(pv:List Nat)(n:Nat):List Nat:=(List.range n).filter fun c=>decide (c∉pv)
section
variable{M:List (List Rat)}{x:List Rat}{n:Nat}
end
structure Diff(F8:List (List Rat))(pv:List Nat)(n:Nat)(x:List Rat):Prop where
 up:pv.Pairwise (· < ·)
 lt:∀p∈pv,p<n
 le:pv.length<=F8.length
 unit:∀i j,i<pv.length->j<F8.length->cW F8 j (pv.getD i 0)=if j=i then 1 else 0
 sum:∀j,j<F8.length->jm (List.range n) (fun t=>cW F8 j t*x.getD t 0)=cW F8 j n
section
variable{F8:List (List Rat)}{pv:List Nat}{n:Nat}{x:List Rat}
theorem sD{t:Nat}(h:t∈pv):∃j,j<pv.length/\pv.getD j 0=t:=by
 obtain⟨j,hj,rfl⟩:=List.mem_iff_getElem.1 h;exact⟨j,hj,by rw[List.getD,aB hj];rfl⟩
theorem pJ{c t:Nat}(ht:t∉pv)(hc:c<n):(fq F8 pv n c pv.length).getD t 0=if t=c then 1 else 0:=by
 rw[yV (D':=fq F8 pv n c) (fun i=>gl F8 pv n c i) ht _ (Nat.le_refl _)];show((List.replicate n (0:Rat)).set c 1).getD t 0=_;rw[yU,bN];by_cases h:c=t
 ·rw[if_pos ⟨h,hc⟩,if_pos h.symm]
 ·rw[aI (fun e=>h e.1),aI (fun e=>h e.symm)];simp only[List.getD,List.getElem?_replicate]
  split<;>rfl
theorem Diff.kin(h:Diff F8 pv n x){c:Nat}(hj:j<pv.length):(fq F8 pv n c pv.length).getD (pv.getD j 0) 0= -(cW F8 j c):=
 nd (D':=fq F8 pv n c) (f:=fun i=> -(cW F8 i c)) (fun i=>gl F8 pv n c i) (ju F8 pv n c) h.up h.lt _ (Nat.le_refl _) hj
theorem tG{t:Nat}(ht:t∉pv):(gW F8 pv n pv.length).getD t 0=0:=by
 rw[yV (D':=gW F8 pv n) (fun i=>gp F8 pv n i) ht _ (Nat.le_refl _)];show(List.replicate n (0:Rat)).getD t 0=0;simp only[List.getD,List.getElem?_replicate]
 split<;>rfl
theorem Diff.xin(h:Diff F8 pv n x)(hj:j<pv.length):(gW F8 pv n pv.length).getD (pv.getD j 0) 0=cW F8 j n:=
 nd (D':=gW F8 pv n) (f:=fun i=>cW F8 i n) (fun i=>gp F8 pv n i) (jv F8 pv n) h.up h.lt _ (Nat.le_refl _) hj
theorem sE:(iz pv n).Nodup:=List.Pairwise.filter _ List.nodup_range
theorem kx{c:Nat}:c∈iz pv n↔c<n/\c∉pv:=by
 unfold iz;rw[List.mem_filter,List.mem_range,decide_eq_true_eq]
theorem Diff.rest(h:Diff F8 pv n x){t:Nat}(ht:t<n):x.getD t 0+(gW F8 pv n pv.length).getD t 0* -1=jm (iz pv n) fun c=>x.getD c 0*(fq F8 pv n c pv.length).getD t 0:=by
 by_cases hp:t∈pv
 ·obtain⟨j,hj,rfl⟩:=sD hp;have hs:=h.sum j (Nat.lt_of_lt_of_le hj h.le);rw[wB (fun c=>decide (c∉pv)),yT (s:=pv.getD j 0) (l:=(List.range n).filter fun t=> !decide (t∉pv)) (List.Pairwise.filter _ List.nodup_range) (List.mem_filter.2 ⟨List.mem_range.2 ht,by rw[bE fun e=>e hp];rfl⟩) (fun s hs OS=>?_),h.unit j j hj (Nat.lt_of_lt_of_le hj h.le),if_pos rfl,bm]at hs
  ·rw[h.xin hj,yS (h:=fun c=> -(cW F8 j c*x.getD c 0)) fun c hc=>by rw[h.kin hj,Rat.mul_neg,bs],Dk,<-hs];generalize x.getD (pv.getD j 0) 0=q;generalize jm _ _=s;rw[Rat.mul_neg,Rat.mul_one,Rat.neg_add,<-Rat.add_assoc,Rat.add_comm q,Rat.add_assoc,Rat.add_neg_cancel,bD]
  ·have Q6:s∈pv:=by simpa using(List.mem_filter.1 hs).2
   obtain⟨i,D,rfl⟩:=sD Q6;rw[h.unit i j D (Nat.lt_of_lt_of_le hj h.le),aI (fun e=>OS (by rw[e])),bC]
 ·rw[tG hp,bC,bD,yT (s:=t) sE (kx.2 ⟨ht,hp⟩) fun c hc OS=>by rw[pJ hp (kx.1 hc).1,aI (Ne.symm OS),az],pJ hp ht,if_pos rfl,Rat.mul_one]
theorem pK{k:Nat}(R:k<(iz pv n).length):(iz pv n).getD k 0∈iz pv n:=by rw[List.getD,aB R];exact aX R
theorem nf{k:Nat}(h:(eL F8 pv n n)[k]? =some r):k<(iz pv n).length/\r=fq F8 pv n ((iz pv n).getD k 0) pv.length:=by
 unfold eL at h;rw[aM]at h;obtain⟨c,hc,rfl⟩:=Option.map_eq_some_iff.1 h;refine⟨(aD.1 hc).1,?_⟩;rw[List.getD,hc];rfl
theorem Jg{i k:Nat}(D:i<(iz pv n).length)(R:k<(iz pv n).length)(e:(iz pv n).getD i 0=(iz pv n).getD k 0):i=k:=by
 rw[List.getD,List.getD,aB D,aB R]at e;rcases bp i k with h|h|h
 ·exact absurd e (List.pairwise_iff_getElem.1 sE i k D R h)
 ·exact h
 ·exact absurd e.symm (List.pairwise_iff_getElem.1 sE k i R D h)
theorem yW{k i:Nat}{s:List Rat}(hr:(eL F8 pv n n)[k]? =some r)(hs:(eL F8 pv n n)[i]? =some s):s.getD ((iz pv n).getD k 0) 0=if i=k then 1 else 0:=by
 obtain⟨R,-⟩:=nf hr;obtain⟨D,rfl⟩:=nf hs;have hm:=kx.1 (pK R);rw[pJ hm.2 (kx.1 (pK D)).1];by_cases h:i=k
 ·rw[h,if_pos rfl,if_pos rfl]
 ·rw[aI (fun e=>h (Jg D R e.symm)),aI h]
end
theorem mx(f:Nat->Nat->Rat)(m:Nat):∀n,cQ (fun i=>cQ (f i) m) n=cQ (fun j=>cQ (fun i=>f i j) n) m
 |0=>(dU m).symm
 |n+1=>by
  show cQ (fun i=>cQ (f i) m) n+cQ (f n) m=cQ (fun j=>cQ (fun i=>f i j) n+f n j) m;rw[fK,mx f m n]
theorem sH(x y:List Rat):∀n,fL x y n=cQ (fun t=>x.getD t 0*y.getD t 0) n
 |0=>rfl
 |n+1=>by rw[fL,sH x y n];rfl
theorem wC{f:Nat->Rat}:∀{n:Nat},(∀k,k<n->0<=f k)->0<=cQ f n
 |0,_=>Rat.le_refl
 |n+1,h=>by
  have I:=wC (n:=n) fun k R=>h k (by omega);have X:=h n (by omega);show 0<=cQ f n+f n;grind
theorem wD{f:Nat->Rat}:∀{n:Nat},(∀k,k<n->0<=f k)->cQ f n<=0->∀k,k<n->f k=0
 |0,_,_,k,R=>by omega
 |n+1,h,h0,k,R=>by
  have I:=wC (n:=n) fun k R=>h k (by omega);have X:=h n (by omega);have N:cQ f n+f n<=0:=h0;rcases aP k n with h4|h4
  ·exact wD (fun k R=>h k (by omega)) (by grind) k h4
  ·rw[show k=n by omega];grind
section
variable{m m':Mx}{n w p:Nat}{κ:Rat}{q:Nat->Rat}
end
theorem Ji(M:List (List Rat)):sI M↔Sy (cW M) M.length/\Po (cW M) M.length:=by
 constructor
 ·intro⟨I,X⟩;refine⟨fun i j D hj=>?_,fun k R=>?_⟩
  ·rcases bp j i with h|h|h
   ·exact I i j D h
   ·rw[h]
   ·exact(I j i hj h).symm
  ·have:=X _ (aE (ll R))
   rwa [Dq]at this
 ·intro⟨I,X⟩;refine⟨fun i k D R=>I i k D (by omega),fun q hq=>?_⟩;obtain⟨k,R⟩:=aQ hq;have hl:=(aD.1 R).1;rw[pO]at hl;rw[ll hl]at R;injection R with R;rw[<-R,Dq];exact X k hl
theorem Dr{m m':Mx}{x:Nat->Rat}{n:Nat}(h:∀i j,i<n->j<n->m i j=m' i j):qf m x n=qf m' x n:=cH fun i D=>by rw[cH fun j hj=>by rw[h i j D hj]]
def dq(Fd:Mx)(r n:Nat)(v:Nat->Rat):Prop:=∃c:Nat->Rat,∀t,t<n->v t=cQ (fun i=>c i*Fd i t) r
structure Rf(Fd:Mx)(p:Nat->Nat)(r n:Nat):Prop where
 lt:∀i,i<r->p i<n
 mono:∀i j,i<j->j<r->p i<p j
 unit:∀i j,i<r->j<r->Fd j (p i)=if j=i then 1 else 0
 lead:∀i t,i<r->t<p i->Fd i t=0
section
variable{Fd D':Mx}{p q:Nat->Nat}{r s n:Nat}{v:Nat->Rat}
theorem Rf.coeff(h:Rf Fd p r n)(hv:dq Fd r n v):∀t,t<n->v t=cQ (fun i=>v (p i)*Fd i t) r:=by
 obtain⟨c,hc⟩:=hv;intro t ht;rw[hc t ht];refine cH fun i D=>?_;rw[hc (p i) (h.lt i D),fY D fun k R OS=>by rw[h.unit i k D R,aI OS,az],h.unit i i D D,if_pos rfl,Rat.mul_one]
theorem Rf.Lo(h:Rf Fd p r n)(hv:dq Fd r n v){t:Nat}(ht:t<n)(h0:v t≠0)(hz:∀k,k<t->v k=0):∃i,i<r/\p i=t:=by
 refine Decidable.byContradiction fun Rx=>h0 ?_;rw[h.coeff hv t ht,cH (g:=fun _=>0) fun i D=>?_,dU];rcases bp (p i) t with I|I|I
 ·rw[hz _ I,bC]
 ·exact absurd ⟨i,D,I⟩ Rx
 ·rw[h.lead i t D I,az]
theorem Rf.Mi(h:Rf Fd p r n)(k:Rf D' q s n)(hE:∀i,i<r->dq D' s n (Fd i)){i:Nat}(D:i<r):∃j,j<s/\q j=p i:=
 k.Lo (hE i D) (h.lt i D) (by rw[h.unit i i D D,if_pos rfl];decide) fun t ht=>h.lead i t D ht
theorem Rf.Jj(h:Rf Fd p r n)(k:Rf D' q s n)(hE:∀i,i<r->dq D' s n (Fd i))(hF:∀j,j<s->dq Fd r n (D' j)):∀i,i<r->i<s/\p i=q i:=by
 intro i
 induction i using Nat.strongRecOn with
 |ind i ih=>
  intro D;obtain⟨j,hj,e1⟩:=h.Mi k hE D;have PM:i<=j:=by
   refine Nat.le_of_not_lt fun Ou=>?_;have I:=(ih j Ou (by omega)).2;have X:=h.mono j i Ou D;omega
  have his:i<s:=by omega
  refine⟨his,?_⟩;obtain⟨l,hl,e2⟩:=k.Mi h hF his;have Sq:i<=l:=by
   refine Nat.le_of_not_lt fun Ou=>?_;have I:=(ih l Ou hl).2;have X:=k.mono l i Ou his;omega
  have N:q i<=q j:=by
   rcases aP i j with h4|h4
   ·exact Nat.le_of_lt (k.mono i j h4 hj)
   ·rw[show i=j by omega];exact Nat.le_refl _
  have h5:p i<=p l:=by
   rcases aP i l with h4|h4
   ·exact Nat.le_of_lt (h.mono i l h4 hl)
   ·rw[show i=l by omega];exact Nat.le_refl _
  omega
theorem Rf.one(h:Rf Fd p r n)(k:Rf D' q s n)(hE:∀i,i<r->dq D' s n (Fd i))(hF:∀j,j<s->dq Fd r n (D' j)):r=s/\(∀i,i<r->p i=q i)/\∀i t,i<r->t<n->Fd i t=D' i t:=by
 have I:=h.Jj k hE hF;have X:=k.Jj h hF hE;have Vn:r=s:=by
  rcases bp r s with N|N|N
  ·have:=(X r N).1;omega
  ·exact N
  ·have:=(I s N).1;omega
 refine⟨Vn,fun i D=>(I i D).2,fun i t D ht=>?_⟩;rw[k.coeff (hE i D) t ht,fY (i:=i) (by omega) fun j hj OS=>by rw[<-(I j (by omega)).2,h.unit j i (by omega) D,aI (Ne.symm OS),bC],<-(I i D).2,h.unit i i D D,if_pos rfl,bm]
end
theorem dq.row{Fd:Mx}{r n i:Nat}(D:i<r):dq Fd r n (Fd i):=⟨fun k=>if k=i then 1 else 0,fun t _=>by
 rw[fY D fun k _ OS=>by simp only[aI OS,bC]]
 simp only[if_pos,bm]⟩
theorem dq.add{Fd:Mx}{r n:Nat}(h:dq Fd r n u)(k:dq Fd r n v)(x:Rat):dq Fd r n fun t=>u t+x*v t:=by
 obtain⟨c,hc⟩:=h;obtain⟨d,hd⟩:=k;refine⟨fun i=>c i+x*d i,fun t ht=>?_⟩;show u t+x*v t=cQ (fun i=>(c i+x*d i)*Fd i t) r;rw[hc t ht,hd t ht,<-dY,<-fK];exact cH fun i _=>by grind
theorem dq.mul{Fd:Mx}{r n:Nat}(h:dq Fd r n u)(x:Rat):dq Fd r n fun t=>u t*x:=by
 obtain⟨c,hc⟩:=h;refine⟨fun i=>c i*x,fun t ht=>?_⟩;show u t*x=cQ (fun i=>(c i*x)*Fd i t) r;rw[hc t ht,<-km];exact cH fun i _=>by grind
theorem dq.congr{Fd:Mx}{r n:Nat}(h:dq Fd r n u)(e:∀t,t<n->v t=u t):dq Fd r n v:=by
 obtain⟨c,hc⟩:=h;exact⟨c,fun t ht=>by rw[e t ht,hc t ht]⟩
theorem dq.trans{Fd D':Mx}{r s n:Nat}(h:dq Fd r n v)(k:∀i,i<r->dq D' s n (Fd i)):dq D' s n v:=by
 obtain⟨c,hc⟩:=h;have key:∀m,m<=r->dq D' s n fun t=>cQ (fun i=>c i*Fd i t) m:=by
  intro m
  induction m with
  |zero=>intro _;exact⟨fun _=>0,fun t _=>by rw[cH (g:=fun _=>0) fun i _=>bC _,dU];rfl⟩
  |succ m ih=>
   intro hm;exact(ih (by omega)).add (k m (by omega)) (c m)
 exact(key r (Nat.le_refl _)).congr fun t ht=>hc t ht
def Jk(s:List (List Rat)×List Nat):Prop:=(∀i j,i<j->j<s.2.length->s.2.getD i 0<s.2.getD j 0)/\∀i t,i<s.2.length->t<s.2.getD i 0->cW s.1 i t=0
theorem Jk.step{n c:Nat}(h:Jk s)(hr:Nt n c s)(hc:c<n):Jk (dg s c):=by
 obtain⟨hl,hle,hz,Qe,hu⟩:=hr;rcases kE c hle with⟨e,-⟩|⟨k,I,X,N,e⟩
 ·rw[e];exact h
 ·obtain⟨r1,r2⟩:=nc hl I X N e;have e2:(dg s c).2=s.2++[c]:=by rw[e]
  have hold:∀i,i<s.2.length->(dg s c).2.getD i 0=s.2.getD i 0:=fun i D=>by rw[e2,List.getD,aJ D,<-List.getD]
  have Q5:(dg s c).2.getD s.2.length 0=c:=by rw[e2,List.getD,aN (Nat.le_refl _),bB];rfl
  have Ou:∀i,i<s.2.length->s.2.getD i 0<c:=fun i D=>Qe _ (by rw[List.getD,aB D];exact aX _);have hlen:(dg s c).2.length=s.2.length+1:=by rw[e2];simp
  refine⟨fun i j PH hj=>?_,fun i t D ht=>?_⟩
  ·rw[hlen]at hj;rcases aP j s.2.length with h4|h4
   ·rw[hold i (by omega),hold j h4];exact h.1 i j PH h4
   ·rw[show j=s.2.length by omega,Q5,hold i (by omega)];exact Ou i (by omega)
  ·rw[hlen]at D;rcases aP i s.2.length with h4|h4
   ·rw[hold i h4]at ht;have h5:=Ou i h4;rw[r2 i (by omega) (by omega) t (by omega),hz k t I X (by omega),aI (by omega),h.2 i t h4 ht,bC,az,Rat.zero_add]
   ·rw[show i=s.2.length by omega]at ht ⊢;rw[Q5]at ht;rw[r1,hz k t I X ht,bC]
theorem tK{M:List (List Rat)}{n:Nat}(hl:gh n M):∀cols,cols<=n->Jk (cK M cols)
 |0,_=>⟨fun _ _ _ h=>(by cases h),fun _ _ h=>(by cases h)⟩
 |c+1,h=>by
  have ih:=tK hl c (by omega);have hr:=eK hl c (by omega);unfold cK at ih hr ⊢;rw[bW,List.foldl_append];exact ih.step hr (by omega)
theorem Fk{n:Nat}(hl:gh n M):Rf (cW (cK M n).1) (fun i=>(cK M n).2.getD i 0) (cK M n).2.length n:=by
 obtain⟨I,X,N,h4,h5⟩:=eK hl n (Nat.le_refl _);obtain⟨k1,k2⟩:=tK hl n (Nat.le_refl _);refine⟨fun i D=>h4 _ (by rw[List.getD,aB D];exact aX _),k1,fun i j D hj=>h5 i j D (by omega),k2⟩
theorem Lp{c n:Nat}(hl:gh n s.1)(hle:s.2.length<=s.1.length):(∀j,j<s.1.length->dq (cW s.1) s.1.length n (cW (dg s c).1 j))/\∀j,j<s.1.length->dq (cW (dg s c).1) s.1.length n (cW s.1 j):=by
 rcases kE c hle with⟨e,-⟩|⟨k,I,X,N,e⟩
 ·rw[e];exact⟨fun j hj=>dq.row hj,fun j hj=>dq.row hj⟩
 ·obtain⟨r1,r2⟩:=nc hl I X N e;have hp:s.2.length<s.1.length:=by omega
  have a1:dq (cW s.1) s.1.length n (cW (dg s c).1 s.2.length):=((dq.row X).mul (1 / cW s.1 k c)).congr fun t _=>r1 t;have b1:dq (cW (dg s c).1) s.1.length n (cW s.1 k):=((dq.row hp).mul (cW s.1 k c)).congr fun t _=>by rw[r1,Rat.mul_assoc,bs (1 / _),yR N,Rat.mul_one]
  refine⟨fun j hj=>?_,fun j hj=>?_⟩
  ·by_cases h4:j=s.2.length
   ·rw[h4];exact a1
   ·exact((dq.row (show (if j=k then s.2.length else j)<s.1.length by split<;>omega)).add (dq.row X) (-(cW s.1 (if j=k then s.2.length else j) c)*(1 / cW s.1 k c))).congr fun t ht=>by rw[r2 j hj h4 t ht];grind
  ·by_cases h4:j=k
   ·rw[h4];exact b1
   ·obtain⟨i,D,OS,PH⟩:∃i,i<s.1.length/\i≠s.2.length/\(if i=k then s.2.length else i)=j:=by
     by_cases h5:j=s.2.length
     ·exact⟨k,X,fun e6=>h4 (h5.trans e6.symm),by rw[if_pos rfl,h5]⟩
     ·exact⟨j,hj,h5,aI h4⟩
    refine((dq.row D).add (dq.row hp) (cW s.1 j c)).congr fun t ht=>?_;rw[r2 i D OS t ht,PH,r1];grind
theorem lC{M:List (List Rat)}{n:Nat}(hl:gh n M):∀cols,cols<=n->(∀j,j<M.length->dq (cW M) M.length n (cW (cK M cols).1 j))/\∀j,j<M.length->dq (cW (cK M cols).1) M.length n (cW M j)
 |0,_=>⟨fun j hj=>dq.row hj,fun j hj=>dq.row hj⟩
 |c+1,h=>by
  obtain⟨i1,i2⟩:=lC hl c (by omega);have hr:=eK hl c (by omega);have I:=fp M c;have X:=Lp (c:=c) hr.1 hr.2.1;rw[I]at X;have e:(cK M (c+1))=dg (cK M c) c:=by unfold cK;rw[bW,List.foldl_append];rfl
  rw[e];exact⟨fun j hj=>(X.1 j hj).trans i1,fun j hj=>(i2 j hj).trans X.2⟩
theorem dq.cut{Fd:Mx}{r m n:Nat}(h:dq Fd m n v)(hz:∀i t,r<=i->i<m->t<n->Fd i t=0):dq Fd r n v:=by
 refine h.trans fun i D=>?_;rcases aP i r with I|I
 ·exact dq.row I
 ·exact⟨fun _=>0,fun t ht=>by rw[hz i t I D ht,cH (g:=fun _=>0) fun k _=>bC _,dU]⟩
theorem Ds{n r:Nat}{D':Mx}(hl:gh n M)(k:Rf D' q r n)(I:∀i,i<r->dq (cW M) M.length n (D' i))(X:∀j,j<M.length->dq D' r n (cW M j)):
  (cK M n).2.length=r/\(∀i,i<r->(cK M n).2.getD i 0=q i)/\∀i t,i<r->t<n->cW (cK M n).1 i t=D' i t:=by
 obtain⟨a1,a2⟩:=lC hl n (Nat.le_refl _);obtain⟨-,hle,hz,-,-⟩:=eK hl n (Nat.le_refl _);rw[fp]at hle hz;have h:=Fk hl;obtain⟨e1,e2,e3⟩:=h.one k (fun i D=>(a1 i (by omega)).trans X) fun j hj=>((I j hj).trans a2).cut fun i t D hm ht=>hz i t D hm ht;exact⟨e1,fun i D=>e2 i (by omega),fun i t D ht=>e3 i t (by omega) ht⟩
structure Ru(Fd:Mx)(p:Nat->Nat)(r n:Nat):Prop where
 lt:∀i,i<r->p i<n
 inj:∀i j,i<r->j<r->p i=p j->i=j
 unit:∀i j,i<r->j<r->Fd j (p i)=if j=i then 1 else 0
 lead:∀i t,i<r->t<p i->Fd i t=0
def l6(Fd:Mx)(p:Nat->Nat)(r:Nat)(v:Nat->Rat)(k t:Nat):Rat:=v t-cQ (fun i=>if p i<k then v (p i)*Fd i t else 0) r
theorem Jl(Fd:Mx)(p:Nat->Nat)(r:Nat)(v:Nat->Rat)(t:Nat):l6 Fd p r v 0 t=v t:=by
 unfold l6;rw[cH (g:=fun _=>0) fun i _=>aI (by omega),dU];grind
section
variable{Fd:Mx}{p:Nat->Nat}{r n:Nat}{v:Nat->Rat}
theorem Jm{k t:Nat}(h:∀i,i<r->p i≠k):l6 Fd p r v (k+1) t=l6 Fd p r v k t:=by
 unfold l6;rw[cH fun i D=>?_];have:=h i D;by_cases I:p i<k
 ·rw[if_pos I,if_pos (by omega)]
 ·rw[aI I,aI (by omega)]
theorem NO(h:Ru Fd p r n){i:Nat}(D:i<r):l6 Fd p r v (p i) (p i)=v (p i):=by
 unfold l6;rw[cH (g:=fun _=>0) fun j hj=>?_,dU]
 ·grind
 ·by_cases I:p j<p i
  ·rw[if_pos I,h.unit i j D hj,aI (fun e=>by rw[e]at I;omega),az]
  ·rw[aI I]
theorem Jn(h:Ru Fd p r n){i t:Nat}(D:i<r):l6 Fd p r v (p i+1) t=l6 Fd p r v (p i) t+ -(l6 Fd p r v (p i) (p i))*Fd i t:=by
 rw[NO h D];unfold l6;have e:cQ (fun j=>if p j<p i+1 then v (p j)*Fd j t else 0) r=cQ (fun j=>(if p j<p i then v (p j)*Fd j t else 0)+(if j=i then v (p i)*Fd i t else 0)) r:=by
  refine cH fun j hj=>?_;by_cases I:j=i
  ·subst I;rw[if_pos (by omega),aI (by omega),if_pos rfl,Rat.zero_add]
  ·have X:p j≠p i:=fun e=>I (h.inj j i hj D e);rw[aI I,bD];by_cases N:p j<p i
   ·rw[if_pos N,if_pos (by omega)]
   ·rw[aI N,aI (by omega)]
 rw[e,fK,fY D fun k _ OS=>aI OS,if_pos rfl];grind
theorem HB(h:Ru Fd p r n){i:Nat}(D:i<r):l6 Fd p r v n (p i)=0:=by
 unfold l6;rw[fY D fun k R OS=>?_,if_pos (h.lt i D),h.unit i i D D,if_pos rfl]
 ·grind
 ·rw[if_pos (h.lt k R),h.unit i k D R,aI OS,az]
end
def kR(Fd:Mx)(r:Nat)(u:Nat->Rat)(k:Nat):Mx:=fun i t=>if i=r then u t / u k else Fd i t+ -(Fd i k)*(u t / u k)
theorem Ru.push{Fd:Mx}{r n k:Nat}(h:Ru Fd p r n)(R:k<n)(hu:∀i,i<r->u (p i)=0)(h0:u k≠0)(hz:∀t,t<k->u t=0):
  Ru (kR Fd r u k) (fun i=>if i=r then k else p i) (r+1) n:=by
 have OS:∀i,i<r->p i≠k:=fun i D e=>h0 (e▸hu i D);have PK:u k / u k=1:=by rw[bK,Rat.mul_inv_cancel _ h0]
 have Of:∀i,i<r->u (p i) / u k=0:=fun i D=>by rw[hu i D,bK,bC]
 refine⟨fun i D=>?_,fun i j D hj e=>?_,fun i j D hj=>?_,fun i t D ht=>?_⟩
 ·split
  ·exact R
  ·exact h.lt i (by omega)
 ·by_cases I:i=r
  ·by_cases X:j=r
   ·omega
   ·rw[if_pos I,aI X]at e;exact absurd e.symm (OS j (by omega))
  ·by_cases X:j=r
   ·rw[aI I,if_pos X]at e;exact absurd e (OS i (by omega))
   ·rw[aI I,aI X]at e;exact h.inj i j (by omega) (by omega) e
 ·unfold kR;by_cases I:i=r
  ·rw[if_pos I];by_cases X:j=r
   ·rw[if_pos X,if_pos (by omega),PK]
   ·rw[aI X,aI (by omega),PK];grind
  ·rw[aI I];by_cases X:j=r
   ·rw[if_pos X,aI (by omega),Of i (by omega)]
   ·rw[aI X,Of i (by omega),az,bD];exact h.unit i j (by omega) (by omega)
 ·unfold kR;by_cases I:i=r
  ·rw[if_pos I]at ht;rw[if_pos I,hz t ht,bK,bC]
  ·rw[aI I]at ht;rw[aI I,h.lead i t (by omega) ht,Rat.zero_add];rcases aP t k with X|X
   ·rw[hz t X,bK,bC,az]
   ·rw[h.lead i k (by omega) (by omega)];grind
def jk(Fd:Mx)(r:Nat)(v:Nat->Rat):Mx:=fun i t=>if i=r then v t else Fd i t
section
variable{Fd:Mx}{p:Nat->Nat}{r n k:Nat}{u v:Nat->Rat}
theorem IL(i:Nat)(D:i<r):dq (jk Fd r v) (r+1) n (Fd i):=(dq.row (show i<r+1 by omega)).congr fun t _=>by unfold jk;rw[aI (by omega)]
theorem NP(hu:∀t,t<n->u t=l6 Fd p r v n t)(hl:∀i,i<r->p i<n):dq (jk Fd r v) (r+1) n u:=by
 refine⟨fun i=>if i=r then 1 else -(v (p i)),fun t ht=>?_⟩;rw[hu t ht];show l6 Fd p r v n t=cQ (fun i=>(if i=r then 1 else -(v (p i)))*jk Fd r v i t) r+(if r=r then 1 else -(v (p r)))*jk Fd r v r t;rw[if_pos rfl,cH (g:=fun i=> -(v (p i)*Fd i t)) fun i D=>by unfold jk;rw[aI (by omega),aI (by omega),Rat.neg_mul],tI];unfold l6 jk;rw[if_pos rfl,cH (g:=fun i=>v (p i)*Fd i t) fun i D=>if_pos (hl i D)];grind
theorem Jo(hu:dq (jk Fd r v) (r+1) n u):∀i,i<r+1->dq (jk Fd r v) (r+1) n (kR Fd r u k i):=fun i D=>by
 by_cases I:i=r
 ·exact(hu.mul (1 / u k)).congr fun t _=>by unfold kR;rw[if_pos I,bK,bK,bm]
 ·exact((IL i (by omega)).add hu (-(Fd i k)*(1 / u k))).congr fun t _=>by unfold kR;rw[aI I,bK,bK];grind
theorem HC(h0:u k≠0):dq (kR Fd r u k) (r+1) n u:=((dq.row (show r<r+1 by omega)).mul (u k)).congr fun t _=>by
 unfold kR;rw[if_pos rfl,Rat.div_mul_cancel h0]
theorem qh(h0:u k≠0)(i:Nat)(D:i<r):dq (kR Fd r u k) (r+1) n (Fd i):=((dq.row (show i<r+1 by omega)).add (HC h0) (Fd i k / u k)).congr fun t _=>by
 unfold kR;rw[aI (by omega),bK,bK];grind
theorem BP(h0:u k≠0)(hu:∀t,t<n->u t=l6 Fd p r v n t)(hl:∀i,i<r->p i<n):dq (kR Fd r u k) (r+1) n v:=by
 have I:dq (jk Fd r u) (r+1) n v:=by
  refine⟨fun i=>if i=r then 1 else v (p i),fun t ht=>?_⟩;show v t=cQ (fun i=>(if i=r then 1 else v (p i))*jk Fd r u i t) r+(if r=r then 1 else v (p r))*jk Fd r u r t;rw[if_pos rfl,cH (g:=fun i=>v (p i)*Fd i t) fun i D=>by unfold jk;rw[aI (by omega),aI (by omega)]];unfold jk;rw[if_pos rfl,hu t ht];unfold l6;rw[cH (g:=fun i=>v (p i)*Fd i t) fun i D=>if_pos (hl i D)];grind
 refine I.trans fun i D=>?_;by_cases X:i=r
 ·exact(HC h0).congr fun t _=>by unfold jk;rw[if_pos X]
 ·exact(qh h0 i (by omega)).congr fun t _=>by unfold jk;rw[aI X]
end
def lr(row ub:List Rat)(by_:Rat):List Rat:=row.mapIdx (rE (-by_) ub)
theorem tL(row ub:List Rat)(b:Rat):(lr row ub b).length=row.length:=List.length_mapIdx
theorem y8(row ub:List Rat):lr row ub 0=row:=by
 refine bG fun j=>?_;rw[lr,List.getElem?_mapIdx]
 cases row[j]? with
 |none=>rfl
 |some q=>exact congrArg some (by rw[rE,Rat.neg_zero,bC,bD])
def o0(row:List Rat):Nat->Nat->Nat
 |0,k=>k
 |f+1,k=>if row.getD k 0=0 then o0 row f (k+1)else k
def tM(row:List Rat)(cols:Nat):Nat:=o0 row cols 0
theorem Jq{row:List Rat}{k:Nat}:∀(f j:Nat),(∀i,j<=i->i<j+k->row.getD i 0=0)->k<=f->(k<f->row.getD (j+k) 0≠0)->o0 row f j=j+k:=by
 induction k with
 |zero=>
  intro f j _ _ h
  cases f with
  |zero=>rfl
  |succ f=>rw[o0,aI (by have:=h (by omega);rwa [bj]at this)];rfl
 |succ k ih=>
  intro f j h0 hf h
  cases f with
  |zero=>omega
  |succ f=>
   rw[o0,if_pos (h0 j (Nat.le_refl _) (by omega)),ih f (j+1) (fun i I X=>h0 i (by omega) (by omega)) (by omega) (fun I=>by rw[Nat.add_assoc,Nat.add_comm 1 k];exact h (by omega))];omega
theorem HD{row:List Rat}{cols k:Nat}(h0:∀i,i<k->row.getD i 0=0)(R:k<=cols)(h:k<cols->row.getD k 0≠0):tM row cols=k:=by
 rw[tM,Jq (k:=k) cols 0 (fun i _ X=>h0 i (by omega)) R (fun I=>by rw[aV];exact h I),aV]
abbrev wu:=List (List Rat)×List (Option Nat)×List Nat
def fZ(Fd:List (List Rat))(at_:List (Option Nat))(row:List Rat):Nat->List Rat
 |0=>row
 |k+1=>match at_.getD k none with
  |some j=>lr (fZ Fd at_ row k) (Fd.getD j []) ((fZ Fd at_ row k).getD k 0)
  |none=>fZ Fd at_ row k
theorem iA(Fd:List (List Rat))(at_:List (Option Nat))(row:List Rat):∀k,(fZ Fd at_ row k).length=row.length
 |0=>rfl
 |k+1=>by
  rw[fZ];split
  ·rw[tL,iA Fd at_ row k]
  ·exact iA Fd at_ row k
def gE(Fd:List (List Rat))(u:List Rat)(p i:Nat):List (List Rat):=Fd.mapIdx fun j r=>if j<i then lr r u (r.getD p 0)else r
def jw(cols:Nat)(s:wu)(i:Nat)(row:List Rat):wu:=
 let r:=fZ s.1 s.2.1 row cols
 let p:=tM r cols
 if p=cols then s else
  let u:=r.map (· / r.getD p 0)
  (gE s.1 u p s.1.length++[u],s.2.1.set p (some s.1.length),s.2.2++[i])
def gq(M:List (List Rat))(cols:Nat):Nat->wu
 |0=>([],List.replicate cols none,[])
 |i+1=>jw cols (gq M cols i) i (M.getD i [])
def cZ(s:wu):Nat->List (List Rat)×List Nat×List Nat
 |0=>([],[],[])
 |k+1=>match s.2.1.getD k none with
  |some r=>((cZ s k).1++[s.1.getD r []],(cZ s k).2.1++[k],(cZ s k).2.2++[s.2.2.getD r 0])
  |none=>cZ s k
def dh(M:List (List Rat))(cols:Nat):List (List Rat)×List Nat×List Nat:=cZ (gq M cols M.length) cols
structure tN(n cols i:Nat)(s:wu):Prop where
 len:gh n s.1
 at_:s.2.1.length=cols
 ub:s.2.2.length=s.1.length
 lt:∀(k r:Nat),s.2.1[k]? =some (some r)->r<s.1.length
 le:s.1.length<=i
 fr:∀j∈s.2.2,j<i
theorem fe(Fd:List (List Rat))(u:List Rat)(p i:Nat):(gE Fd u p i).length=Fd.length:=List.length_mapIdx
theorem Fl(Fd:List (List Rat))(u:List Rat)(p:Nat):gE Fd u p 0=Fd:=by
 refine bG fun j=>?_;rw[gE,List.getElem?_mapIdx]
 cases Fd[j]? <;>rfl
theorem Du{u:List Rat}{p i:Nat}(h:Fd[i]? =some r):(gE Fd u p i)[i]? =some r:=by
 rw[gE,List.getElem?_mapIdx,h];exact congrArg some (aI (Nat.lt_irrefl i))
theorem y9{u:List Rat}{p i:Nat}(h:Fd[i]? =some r):gE Fd u p (i+1)=(gE Fd u p i).set i (lr r u (r.getD p 0)):=by
 refine bG fun j=>?_;have D:=(aD.1 h).1;by_cases hj:i=j
 ·subst hj;rw[aO (by rw[fe];exact D),gE,List.getElem?_mapIdx,h];exact congrArg some (if_pos (bV i))
 ·rw[aT hj,gE,gE,List.getElem?_mapIdx,List.getElem?_mapIdx]
  cases Fd[j]? with
  |none=>rfl
  |some r=>
   have e:(j<i+1)↔(j<i):=by omega
   simp only[bY,e]
theorem IP{u:List Rat}{p i n:Nat}(h:gh n Fd):gh n (gE Fd u p i):=fun r hr=>by
 obtain⟨j,hj⟩:=aQ hr;rw[gE,List.getElem?_mapIdx]at hj
 cases hE:Fd[j]? with
 |none=>rw[hE]at hj;cases hj
 |some x=>
  rw[hE]at hj;have L:=h x (aE hE);simp only[bY,Option.some.injEq]at hj;subst hj;split
  ·rw[tL];exact L
  ·exact L
theorem tN.start(n cols:Nat):tN n cols 0 ([],List.replicate cols none,[]):=
 ⟨(fun r hr=>by cases hr),bN ..,rfl,(fun (k r:Nat) h=>by rw[List.getElem?_replicate]at h;split at h<;>cases h),Nat.le_refl _,fun j hj=>by cases hj⟩
theorem tN.step{n cols i:Nat}{s:wu}(h:tN n cols i s){row:List Rat}(hr:row.length=n):tN n cols (i+1) (jw cols s i row):=by
 unfold jw;dsimp only
 split
 ·exact⟨h.len,h.at_,h.ub,h.lt,Nat.le_succ_of_le h.le,fun j hj=>Nat.lt_succ_of_lt (h.fr j hj)⟩
 ·refine⟨fun r hm=>?_,by simp[h.at_],by simp[h.ub,fe],fun k r R=>?_,?_,fun j hj=>?_⟩
  ·rcases List.mem_append.1 hm with hm|hm
   ·exact IP h.len r hm
   ·rw[bF]at hm;subst hm;rw[aL,iA,hr]
  ·dsimp only at R ⊢;rw[List.length_append,fe,List.length_singleton];rw[List.getElem?_set]at R;split at R
   ·split at R
    ·injection R with R;injection R with R;omega
    ·cases R
   ·have:=h.lt k r R;omega
  ·dsimp only
   rw[List.length_append,fe,List.length_singleton];have:=h.le;omega
  ·rcases List.mem_append.1 hj with hj|hj
   ·exact Nat.lt_succ_of_lt (h.fr j hj)
   ·rw[bF]at hj;omega
theorem ya{M:List (List Rat)}{n:Nat}(cols:Nat)(hM:gh n M):∀i,i<=M.length->tN n cols i (gq M cols i)
 |0,_=>tN.start n cols
 |i+1,D=>by
  have hm:=aB (l:=M) (show i<M.length by omega);refine(ya cols hM i (by omega)).step ?_;rw[List.getD,hm];exact hM _ (aE hm)
end Go.Ex
