/- Texts X223 to X225: lemmas, each with its conditions. -/
import Derived.Test.YtgkpbdkechfgmaaGreatP15
namespace Go.Ex
open Go Go.Sx Go.Proofs
variable{b2:Bool}{f:GX}{xs:List (Int×Int)}{l:List Ld}{most:Nat}{S:Nat->Prop}{O:Nat->Sx.dL}{a a2:Option Addr}{v vb vn vs:Value}{w:World}
def M3(n k:Nat):List Value:=[.int .i64 ((n:Nat):Int),.int .i64 ((k:Nat):Int),.bool false,.slice none 0 0,.bool false,.slice none 0 0]
def lX:Nat->List (List Value)
 |0=>[M3 2 1]
 |k+1=>lX k++[M3 0 k,M3 1 k]
theorem AE:∀k,(lX k).length=2*k+1
 |0=>rfl
 |k+1=>by rw[lX,List.length_append,AE k];simp;omega
theorem AF:∀k,∀U∈lX k,U.length=6
 |0,U,h=>by simp[lX]at h;subst h;rfl
 |k+1,U,h=>by
  rw[lX]at h;rcases List.mem_append.1 h with h|h
  ·exact AF k U h
  ·simp at h;rcases h with rfl|rfl<;>rfl
theorem Ey(k:Nat):(lX k).flatten++[.int .i64 0,.int .i64 (k:Int),.bool false,.slice none 0 0,.bool false,.slice none 0 0,.int .i64 1,.int .i64 (k:Int),.bool false,.slice none 0 0,.bool false,.slice none 0 0]=(lX (k+1)).flatten:=by
 rw[lX,List.flatten_append];rfl
def DF:ed:=⟨[(0,0,0),(0,0,4),(3,0,0)],[(0,2,1),(1,2,1)],[(2,1,0),(0,0,0),(1,0,0),(0,1,0),(1,1,0),(0,2,0),(1,2,0)]⟩
def M4:List Int:=[-3,3,0,9,-9,0,0,0,12]
theorem Hf:kM DF MZ=0:=by decide +kernel
theorem Mw:yv DF:=LC (.inr ⟨by decide,by decide⟩) (by decide +kernel) (by decide +kernel) (sd Hf).1
theorem Hg:yo (cY DF) DF.cols (Nn DF) (df (mh DF MZ) (-1)) (ew M4):=⟨by decide +kernel,by decide +kernel,by decide +kernel⟩
theorem Gc(w:World):dx PG F'.top_bracket #[] w (eH w fun v' V=>∃vn vb vs,v'= .agg #[vn,vb,vs]/\dm V (Nf w V) vn vb vs DF):=by
 have Y:=bR w;refine zX (by simp) ?_;conv=>whnf
 refine cB (cE Y (fun _ J v V=>cN V (Nf J V) v ((1:Int):Rat)) (fun O J r=>uV 1 J (by decide)) ?_);rintro O _ _ _ OZ r W Y h_ Z;have hd:=Z.dD (S:=FF) r.bz (mN h_);clear r;obtain⟨A0,A1,A2,A3,A4,A5,A6,A7,rfl⟩:=hd.shape;conv=>whnf
 refine⟨Nat×World,fun z=>⟨[(0,pP 0 0),(2,pP 5 0),(3,iN z.1)],[(5,.box T.Frame [.s 2 0 3 3,.s 3 0 2 2,.w 6 (2*(z.1)+1)]),(6,.vec T.CS 6 (lX (z.1)).flatten),(3,.box T.Nx [.v (.int .i64 0),.v (.int .i64 2),.v (.bool A0),.v (.slice A1 A2 A3),.v (.bool A4),.v (.slice A5 A6 A7),.v (.int .i64 1),.v (.int .i64 2),.v (.bool A0),.v (.slice A1 A2 A3),.v (.bool A4),.v (.slice A5 A6 A7)]),(2,.box T.Node [.v (.int .i64 0),.v (.int .i64 0),.v (.int .i64 0),.v (.int .i64 0),.v (.int .i64 0),.v (.int .i64 4),.v (.int .i64 3),.v (.int .i64 0),.v (.int .i64 0)]),(0,.box T.Frame [.v (.slice none 0 0),.v (.slice none 0 0),.v (.slice none 0 0)])],7,OZ,z.2⟩,fun z=>3-z.1,
  fun z=>z.1<=3/\dT w.heap.size w z.2/\cN z.2 (Cf w OZ) (.agg #[.bool A0,.slice A1 A2 A3,.bool A4,.slice A5 A6 A7]) ((1:Int):Rat),?_,?_⟩
 ·intro O J r;exact⟨(0,J),⟨aS _,Y.tr r.cL,hd.rel r (bw w)⟩,Sub.aA1 (H':=[(5,.box T.Frame [.s 2 0 3 3,.s 3 0 2 2,.s 4 0 1 1]),(3,.box T.Nx [.v (.int .i64 0),.v (.int .i64 2),.v (.bool A0),.v (.slice A1 A2 A3),.v (.bool A4),.v (.slice A5 A6 A7),.v (.int .i64 1),.v (.int .i64 2),.v (.bool A0),.v (.slice A1 A2 A3),.v (.bool A4),.v (.slice A5 A6 A7)]),(2,.box T.Node [.v (.int .i64 0),.v (.int .i64 0),.v (.int .i64 0),.v (.int .i64 0),.v (.int .i64 0),.v (.int .i64 4),.v (.int .i64 3),.v (.int .i64 0),.v (.int .i64 0)]),(0,.box T.Frame [.v (.slice none 0 0),.v (.slice none 0 0),.v (.slice none 0 0)])]) 4 5 2 T.CS 6 1 (vs:=M3 2 1) rfl ⟨rfl,rfl,rfl,rfl,trivial⟩ rfl rfl rfl rfl (by decide) (by simp[l5,SV.sc,At.sc,iW]) r fun In r1=>Sub.gn [] r1⟩
 clear Y hd;rintro⟨k,w1⟩ ⟨R,Y,hd⟩;dsimp only at R Y hd ⊢;conv=>whnf
 refine dB.mk ?_ ?_<;>intro OT
 ·have OT:k<3:=by have:=aK OT;omega
  have hs:=Ey k;have Ot:=vV (AF k);have SJ:=AE k;conv=>whnf
  refine .inl ?_;conv=>whnf
  refine⟨by omega,by omega,by unfold maxLen;omega,?_⟩;conv=>whnf
  refine⟨((k+1:Nat):Int),wo,?_⟩;conv=>whnf
  intro IR w6 K;exact⟨(k+1,w6),⟨OT,Y.tr K.cL,hd.rel K (bw w)⟩,Sub.gn [(6,8)] K ⟨by dsimp only;rw[show 2*(k+1)+1=2*k+1+2 by omega];rfl,by dsimp only;rw[<-hs];rfl,rfl,rfl,rfl,trivial⟩,by dsimp only;omega⟩
 have OT:k=3:=by have:=aH OT;omega
 subst OT;conv=>whnf
 intro GT we re;have hN:∀{id:Nat} {bk:jh},cV _ id=some bk->(GT id).nil=false->Nf w we (GT id).g:=fun h Z=>by
  obtain⟨I,X⟩:=re.low _ _ h Z;exact .inr ⟨I,X⟩
 have hR:=hd.out re (bw w);have hL:eJ we (Nf w we) (.agg #[.bool A0,.slice A1 A2 A3,.bool A4,.slice A5 A6 A7]) 1:=hR.l (by decide);refine⟨_,rfl,Y.tr re.cL,_,_,_,rfl,?_,?_,?_⟩
 ·refine⟨[[.int .i64 0,.int .i64 0,.int .i64 0],[.int .i64 0,.int .i64 0,.int .i64 4],[.int .i64 3,.int .i64 0,.int .i64 0]],(re.DG (id:=2) (sz:=3) (n:=3) rfl rfl (by decide) (by repeat' first|refine List.forall_mem_cons.2 ⟨rfl,?_⟩|exact fun u hu=>absurd hu List.not_mem_nil)).cF fun g G=>by subst G;exact hN (id:=2) rfl (re.nn 2 _ rfl (by intros;simp) (by simp)),rfl,by simp,fun j U x I X=>?_⟩;rcases j with _|_|_|j
  ·cases I;cases X;rfl
  ·cases I;cases X;rfl
  ·cases I;cases X;rfl
  ·cases X
 ·refine⟨[[.int .i64 0,.int .i64 2,.bool A0,.slice A1 A2 A3,.bool A4,.slice A5 A6 A7],[.int .i64 1,.int .i64 2,.bool A0,.slice A1 A2 A3,.bool A4,.slice A5 A6 A7]],(re.DG (id:=3) (sz:=6) (n:=2) rfl rfl (by decide) (by repeat' first|refine List.forall_mem_cons.2 ⟨rfl,?_⟩|exact fun u hu=>absurd hu List.not_mem_nil)).cF fun g G=>by subst G;exact hN (id:=3) rfl (re.nn 3 _ rfl (by intros;simp) (by simp)),rfl,by simp,fun j U x I X=>?_⟩;rcases j with _|_|j
  ·cases I;cases X;exact⟨_,_,_,_,_,_,_,_,rfl,hL⟩
  ·cases I;cases X;exact⟨_,_,_,_,_,_,_,_,rfl,hL⟩
  ·cases X
 ·refine⟨lX 3,?_,rfl,by decide,fun j U x I X=>?_⟩
  ·have h5:=re.kQ (id:=6) (sz:=6) (m:=7) rfl (by decide) (by decide) (by decide) (by decide);exact h5.cF fun g G=>.inr G
  ·rcases j with _|_|_|_|_|_|_|j
   ·cases I;cases X;exact⟨_,_,_,_,_,_,_,_,rfl,eJ.zeroV⟩
   ·cases I;cases X;exact⟨_,_,_,_,_,_,_,_,rfl,eJ.zeroV⟩
   ·cases I;cases X;exact⟨_,_,_,_,_,_,_,_,rfl,eJ.zeroV⟩
   ·cases I;cases X;exact⟨_,_,_,_,_,_,_,_,rfl,eJ.zeroV⟩
   ·cases I;cases X;exact⟨_,_,_,_,_,_,_,_,rfl,eJ.zeroV⟩
   ·cases I;cases X;exact⟨_,_,_,_,_,_,_,_,rfl,eJ.zeroV⟩
   ·cases I;cases X;exact⟨_,_,_,_,_,_,_,_,rfl,eJ.zeroV⟩
   ·cases X
theorem oW(w:World):dx PG F'.top_bears #[] w (eH w fun v' _=>v'= .bool true):=by
 have Y:=bR w;refine CU (by simp) ?_;conv=>whnf
 refine cB (cE Y (fun _ J v V=>∃vn vb vs,v= .agg #[vn,vb,vs]/\dm V (Nf J V) vn vb vs DF) (fun O J r=>Gc J) ?_);rintro O _ _ _ OZ r W Y h_ ⟨vn,vb,vs,rfl,Z⟩;have hf:=Z.dD r.bz (mN h_);clear r;clear Z;obtain⟨an,cn,ab,cb,aq,cq,rfl,rfl,rfl,-,-,-⟩:=hf.shape;conv=>whnf
 refine cB (cE Y (fun _ J v V=>∃vx,v= .tuple #[vx,.int .i64 0]/\cS V (Nf J V) vx (ew M4)) (fun O J r=>(Gb (S:=(fun g=>Cf w OZ g\/g=(O 0).g)) (l:=MZ) (fun g G=>G.elim (Rel.old r (bw w) g) fun e=>by subst e;exact Rel.lt r (id:=0) rfl) (dm.cF (dm.rel hf r (bw w)) fun g G=>.inl G) (show jS J (fun g=>Cf w OZ g\/g=(O 0).g) (.slice (some ⟨(O 0).g,0,none⟩) 1 1) MZ from⟨[[.int .i64 2,.int .i64 0,.int .i64 0,.int .i64 (-12)]],(r.DG (id:=0) (sz:=4) (n:=1) rfl rfl (by decide) (by repeat' first|refine List.forall_mem_cons.2 ⟨rfl,?_⟩|exact fun u hu=>absurd hu List.not_mem_nil)).cF fun g G=>.inr G,rfl,by simp,fun j U x I X=>by cases j with|zero=>(cases I;cases X;rfl)|succ j=>cases X⟩) (fun _=>Mw)).mono fun _ _ ⟨v2,e1,e2,e3⟩=>⟨v2,e1,e2,e3.elim (fun h=>absurd Hf h.1) fun h=>h.2.elim (fun g=>by obtain⟨z,hz⟩:=IV (lz DF) (x:=fun t=>(ew M4).getD t 0) Hg.eq;rw[g.1]at hz;cases hz) fun⟨x,vx,g,k1,k2⟩=>⟨vx,k1,Mw.OI.one g Hg▸k2⟩⟩) ?_);rintro O _ v2 PT OU r W Y h_ ⟨vx,rfl,Z⟩;clear hf;have hX:=cS.dD (S:=FF) Z r.bz (mN h_);clear r;clear Z;obtain⟨ax,cx,rfl,-,-⟩:=eD.shape hX;have hl9:(ew M4).length=9:=rfl;obtain⟨ad0,cs0,ha0,hF0,hS0,hl0⟩:=eD.load hX (j:=0) (x:=((-3:Int):Rat)) rfl;obtain⟨x0,x1,x2,x3,x4,x5,x6,x7,rfl,hF0⟩:=hF0;rw[hl9];conv=>whnf
 refine cI hτ dN [.x 0,.x 1,.x 2,.x 3,.x 4,.x 5,.x 6,.x 7,.x 8,.x 9,.x 10,.x 11,.x 12,.x 13,.x 14,.x 15,.x 16,.x 17,.x 18,.x 19,.x 20,.x 21] (by kernel_rfl) (by kernel_rfl) ?_;conv=>whnf
 refine⟨ad0,ha0,⟨by decide,by decide⟩,?_⟩;conv=>whnf
 refine⟨[.bool x0,.slice x1 x2 x3,.bool x4,.slice x5 x6 x7],rfl,fun O J r j u hu=>?_,?_⟩
 ·obtain⟨k1,k2⟩:=hl0 j u hu;rw[show (0:Int).toNat=0 from rfl,cJ (w:=PT) (V:=J) (by rw[c9,c9];exact Rel.same r (bw w) k1)];exact k2
 conv=>whnf
 refine cE Y (fun _ J v V=>cN V (Nf J V) v (((-3):Int):Rat)) (fun O J r=>uV (-3) J (by decide)) ?_;rintro O _ _ _ Oi r W Y h_ Z;replace hF0:=hF0.cD r (bw w) W (mC h_);replace hX:=cS.cD hX r (bw w) W (mC h_);have TC:=Z.dD (S:=FF) r.bz (mN h_);clear r;obtain⟨A0,A1,A2,A3,A4,A5,A6,A7,rfl⟩:=TC.shape;conv=>whnf
 refine cE Y (fun _ J v V=>v= .bool true) (fun O J r=>(LG (S:=Cf w Oi) (Rel.old r (bw w)) (hF0.rel r (bw w)) (TC.rel r (bw w))).mono fun _ _ ⟨v2,e1,e2,e3⟩=>⟨v2,e1,e2,by rw[e3];exact congrArg _ (bU rfl)⟩) ?_;rintro O _ _ Q9 Ow r W Y h_ rfl;clear hF0;replace hX:=cS.cD hX r (bw w) W (mC h_);clear TC;clear r;conv=>whnf
 obtain⟨ad1,cs1,ha1,hF1,hS1,QT⟩:=eD.load hX (j:=1) (x:=((3:Int):Rat)) rfl;obtain⟨y0,y1,y2,y3,y4,y5,y6,y7,rfl,hF1⟩:=hF1;refine⟨ad1,ha1,⟨by decide,by decide⟩,?_⟩;conv=>whnf
 refine⟨[.bool y0,.slice y1 y2 y3,.bool y4,.slice y5 y6 y7],rfl,fun O J r j u hu=>?_,?_⟩
 ·obtain⟨k1,k2⟩:=QT j u hu;rw[show (1:Int).toNat=1 from rfl,cJ (w:=Q9) (V:=J) (by rw[c9,c9];exact Rel.same r (bw w) k1)];exact k2
 conv=>whnf
 refine cE Y (fun _ J v V=>cN V (Nf J V) v ((3:Int):Rat)) (fun O J r=>uV 3 J (by decide)) ?_;rintro O _ _ _ QO r W Y h_ Z;replace hF1:=hF1.cD r (bw w) W (mC h_);have RO:=Z.dD (S:=FF) r.bz (mN h_);clear r;obtain⟨C0,C1,C2,C3,C4,C5,C6,C7,rfl⟩:=RO.shape;conv=>whnf
 refine cE Y (fun _ J v V=>v= .bool true) (fun O J r=>(LG (S:=Cf w QO) (Rel.old r (bw w)) (hF1.rel r (bw w)) (RO.rel r (bw w))).mono fun _ _ ⟨v2,e1,e2,e3⟩=>⟨v2,e1,e2,by rw[e3];exact congrArg _ (bU rfl)⟩) ?_;rintro O _ _ _ R8 r W Y h_ rfl;clear hF1;clear RO;clear r;conv=>whnf
 exact rtn Y fun GT we re=>rfl
theorem Hh{b:Bool}{n c:Nat}{n2 c2:Nat}(I:n<=2)(X:n2<=2):Es [.bool b,.slice a n c,.bool b2,.slice a2 n2 c2]:=⟨_,_,_,_,_,_,_,_,rfl,by omega,by omega⟩
theorem LH{vl:Value}(F:Old S w)(hf:qL w S vn vb vs f)(hl:jS w S vl l):dx PG F'.top_slight #[.agg #[vn,vb,vs],vl,.int .i64 most] w (eH w fun v' _=>∃d,v'= .bool d/\
  (d=true->dm w S vn vb vs f.val/\(∀b∈f.val.bars,rl b.2.2<=3)/\(∀b∈f.val.cM,rl b.2.2<=3)/\f.nodes.length<=most/\f.val.bars.length<=6/\f.val.cM.length<=12/\l.length<=12/\kM f.val l=0)):=by
 have Y:=bR w;obtain⟨an,cn,rfl,hcn,RX⟩:=hf.nodes.shape;obtain⟨bcs,QL,hbz,SU,hbQ⟩:=hf.bars.cells;obtain⟨qcs,SB,hqz,hq4,hqQ⟩:=hf.cM.cells;obtain⟨ab,cb,rfl,PB,RP⟩:=hf.bars.shape;obtain⟨aq,cq,rfl,hcq,Sk⟩:=hf.cM.shape;obtain⟨al,cl,rfl,PZ,Qq⟩:=hl.shape;unfold maxLen at RX RP Sk Qq;refine AX (by simp) ?_;conv=>whnf
 refine dB.mk ?_ ?_<;>intro h0
 ·conv=>whnf
  exact rtn Y fun GT we re=>⟨_,rfl,fun h=>by cases h⟩
 have h0:=aH h0;conv=>whnf
 refine dB.mk ?_ ?_<;>intro I
 ·conv=>whnf
  exact rtn Y fun GT we re=>⟨_,rfl,fun h=>by cases h⟩
 have I:=aH I;conv=>whnf
 refine dB.mk ?_ ?_<;>intro X
 ·conv=>whnf
  exact rtn Y fun GT we re=>⟨_,rfl,fun h=>by cases h⟩
 have X:=aH X;conv=>whnf
 refine dB.mk ?_ ?_<;>intro N
 ·conv=>whnf
  exact rtn Y fun GT we re=>⟨_,rfl,fun h=>by cases h⟩
 have N:=aH N;conv=>whnf
 refine⟨Nat×World×Iv,fun z=>⟨[(1,sV al l.length cl),(3,pP 0 0),(7,iN z.1)],[(0,.box T.Frame [.v (.slice an f.nodes.length cn),.v (.slice ab f.bars.length cb),.v (.slice aq f.cM.length cq)])],1,z.2.2,z.2.1⟩,fun z=>f.bars.length-z.1,
  fun z=>z.1<=f.bars.length/\dT w.heap.size w z.2.1/\∀(j:Nat) (U:List Value),j<z.1->bcs[j]? =some U->Es (U.drop 2),?_,?_⟩
 ·intro O J r;exact⟨(0,J,_),⟨aS _,Y.tr r.cL,fun j U hj=>absurd hj (Nat.not_lt_zero j)⟩,Sub.gn [] r⟩
 clear Y;rintro⟨i,w1,iv⟩ ⟨D,Y,hB⟩;dsimp only at D Y hB ⊢;conv=>whnf
 refine dB.mk ?_ ?_<;>intro OQ
 ·have OQ:i<f.bars.length:=by simpa using OQ
  obtain⟨U,Ok⟩:∃U,bcs[i]? =some U:=⟨_,aB (by omega)⟩
  obtain⟨p,hp⟩:∃p,f.bars[i]? =some p:=⟨_,aB OQ⟩
  obtain⟨g0,g1,g2,g3,g4,g5,g6,g7,rfl,-⟩:=SU i U p Ok hp;obtain⟨adx,cs2,Pu,⟨VJ,-⟩,-,Q4⟩:=hbz.load (by decide) (show (bcs.zip f.bars)[i]? =some (_,p) by rw[List.getElem?_zip_eq_some];exact⟨Ok,hp⟩);have VJ:cs2=[.int .i64 p.1,.int .i64 p.2.1,.bool g0,.slice g1 g2 g3,.bool g4,.slice g5 g6 g7]:=VJ;subst VJ;conv=>whnf
  refine⟨adx,Pu,by omega,?_⟩;conv=>whnf
  refine⟨.slice g1 g2 g3,fun O J r=>?_,?_⟩
  ·obtain⟨k1,k2⟩:=Q4 3 _ rfl;rw[cJ (w:=w) (V:=J) (by simp only[c9];exact(Y.tr r.cL).block _ (F _ k1))];simp only[aF,Cu]at k2 ⊢
   first|exact k2|(rw [<-k2];congr 2;omega)
  conv=>whnf
  refine dB.mk ?_ ?_<;>intro k3
  ·conv=>whnf
   exact rtn Y fun GT we re=>⟨_,rfl,fun h=>by cases h⟩
  have k3:=aH k3;conv=>whnf
  refine⟨adx,Pu,by omega,?_⟩;conv=>whnf
  refine⟨.slice g5 g6 g7,fun O J r=>?_,?_⟩
  ·obtain⟨k1,k2⟩:=Q4 5 _ rfl;rw[cJ (w:=w) (V:=J) (by simp only[c9];exact(Y.tr r.cL).block _ (F _ k1))];simp only[aF,Cu]at k2 ⊢
   first|exact k2|(rw [<-k2];congr 2;omega)
  conv=>whnf
  refine dB.mk ?_ ?_<;>intro k5
  ·conv=>whnf
   exact rtn Y fun GT we re=>⟨_,rfl,fun h=>by cases h⟩
  have k5:=aH k5;conv=>whnf
  have Ov:∀j U,j<i+1->bcs[j]? =some U->Es (U.drop 2):=fun j U hj hc=>by
   rcases aP j i with h|h
   ·exact hB j U h hc
   ·have:j=i:=by omega
    subst this;rw[Ok]at hc;injection hc with hc;subst hc;exact Hh (by omega) (by omega)
  refine⟨((i+1:Nat):Int),wo,?_⟩;conv=>whnf
  intro IR w6 K;exact⟨(i+1,w6,_),⟨OQ,Y.tr K.cL,Ov⟩,Sub.gn [] K,by dsimp only;omega⟩
 have OQ:i=f.bars.length:=aU D (by simpa using OQ);subst OQ;clear D;conv=>whnf
 refine⟨Nat×World×Iv,fun z=>⟨[(1,sV al l.length cl),(3,pP 0 0),(8,iN z.1)],[(0,.box T.Frame [.v (.slice an f.nodes.length cn),.v (.slice ab f.bars.length cb),.v (.slice aq f.cM.length cq)])],1,z.2.2,z.2.1⟩,fun z=>f.cM.length-z.1,
  fun z=>z.1<=f.cM.length/\dT w.heap.size w z.2.1/\∀(j:Nat) (U:List Value),j<z.1->qcs[j]? =some U->Es (U.drop 2),?_,?_⟩
 ·intro O J r;exact⟨(0,J,_),⟨aS _,Y.tr r.cL,fun j U hj=>absurd hj (Nat.not_lt_zero j)⟩,Sub.gn [] r⟩
 clear Y;rintro⟨i,w1,iv⟩ ⟨D,Y,hQ⟩;dsimp only at D Y hQ ⊢;conv=>whnf
 refine dB.mk ?_ ?_<;>intro OQ
 ·have OQ:i<f.cM.length:=by simpa using OQ
  obtain⟨U,Ok⟩:∃U,qcs[i]? =some U:=⟨_,aB (by omega)⟩
  obtain⟨p,hp⟩:∃p,f.cM[i]? =some p:=⟨_,aB OQ⟩
  obtain⟨g0,g1,g2,g3,g4,g5,g6,g7,rfl,-⟩:=hq4 i U p Ok hp;obtain⟨adx,cs2,Pu,⟨VJ,-⟩,-,Q4⟩:=hqz.load (by decide) (show (qcs.zip f.cM)[i]? =some (_,p) by rw[List.getElem?_zip_eq_some];exact⟨Ok,hp⟩);have VJ:cs2=[.int .i64 p.1,.int .i64 p.2.1,.bool g0,.slice g1 g2 g3,.bool g4,.slice g5 g6 g7]:=VJ;subst VJ;conv=>whnf
  refine⟨adx,Pu,by omega,?_⟩;conv=>whnf
  refine⟨.slice g1 g2 g3,fun O J r=>?_,?_⟩
  ·obtain⟨k1,k2⟩:=Q4 3 _ rfl;rw[cJ (w:=w) (V:=J) (by simp only[c9];exact(Y.tr r.cL).block _ (F _ k1))];simp only[aF,Cu]at k2 ⊢
   first|exact k2|(rw [<-k2];congr 2;omega)
  conv=>whnf
  refine dB.mk ?_ ?_<;>intro k3
  ·conv=>whnf
   exact rtn Y fun GT we re=>⟨_,rfl,fun h=>by cases h⟩
  have k3:=aH k3;conv=>whnf
  refine⟨adx,Pu,by omega,?_⟩;conv=>whnf
  refine⟨.slice g5 g6 g7,fun O J r=>?_,?_⟩
  ·obtain⟨k1,k2⟩:=Q4 5 _ rfl;rw[cJ (w:=w) (V:=J) (by simp only[c9];exact(Y.tr r.cL).block _ (F _ k1))];simp only[aF,Cu]at k2 ⊢
   first|exact k2|(rw [<-k2];congr 2;omega)
  conv=>whnf
  refine dB.mk ?_ ?_<;>intro k5
  ·conv=>whnf
   exact rtn Y fun GT we re=>⟨_,rfl,fun h=>by cases h⟩
  have k5:=aH k5;conv=>whnf
  have Ov:∀j U,j<i+1->qcs[j]? =some U->Es (U.drop 2):=fun j U hj hc=>by
   rcases aP j i with h|h
   ·exact hQ j U h hc
   ·have:j=i:=by omega
    subst this;rw[Ok]at hc;injection hc with hc;subst hc;exact Hh (by omega) (by omega)
  refine⟨((i+1:Nat):Int),wo,?_⟩;conv=>whnf
  intro IR w6 K;exact⟨(i+1,w6,_),⟨OQ,Y.tr K.cL,Ov⟩,Sub.gn [] K,by dsimp only;omega⟩
 have OQ:i=f.cM.length:=aU D (by simpa using OQ);subst OQ;clear D;conv=>whnf
 obtain⟨kb,kb2⟩:=Mr.of SU hbQ QL hB;obtain⟨kq,kq2⟩:=Mr.of hq4 hqQ SB hQ;have hR:dm w S (.slice an f.nodes.length cn) (.slice ab f.bars.length cb) (.slice aq f.cM.length cq) f.val:=⟨hf.nodes,kb,kq⟩
 refine cB (cE Y (fun _ J v V=>v= .int .i64 (kM f.val l)) (fun O J r=>DA (oS F r) (hR.cC (kS Y r F)) (hl.cC (kS Y r F))) ?_);rintro O _ _ _ OU r W Y h_ rfl;clear r;conv=>whnf
 exact rtn Y fun GT we re=>⟨_,rfl,fun h=>⟨hR,kb2,kq2,by omega,by show(f.bars.map Et).length<=6;rw[aL];omega,by show(f.cM.map Et).length<=12;rw[aL];omega,by omega,by simpa using h⟩⟩
theorem Iy{H:Hp}{nx:Nat}{iv:Iv}{w1 J:World}{vl:Value}(F:Old S w)(Y:dT w.heap.size w w1)(r:Rel H nx iv w.heap.size w1 O J)(hf:qL w S vn vb vs f)(hl:jS w S vl l):dx PG F'.top_slight #[.agg #[vn,vb,vs],vl,.int .i64 most] J (eH J fun v' _=>∃d,v'= .bool d/\
  (d=true->dm w S vn vb vs f.val/\(∀b∈f.val.bars,rl b.2.2<=3)/\(∀b∈f.val.cM,rl b.2.2<=3)/\f.nodes.length<=most/\f.val.bars.length<=6/\f.val.cM.length<=12/\l.length<=12/\kM f.val l=0)):=by
 have R:∀g,S g->J.heap[g]? =w.heap[g]? :=fun g G=>(Y.tr r.cL).block g (F g G);have hO:Old S J:=fun g G=>by have:=F g G;have:=r.bz;omega
 refine(LH hO (hf.cC R) (hl.cC R)).mono fun _ _ ⟨v2,e1,e2,d,e3,e4⟩=>⟨v2,e1,e2,d,e3,fun h=>?_⟩
 obtain⟨I,X⟩:=e4 h;exact⟨I.cC fun g G=>(R g G).symm,X⟩
theorem M5{b1:Bool}{a1:Option Addr}{n1 n2 c1 c2:Nat}{a b:Int}(h:iD w S (.agg #[.bool b1,.slice a1 n1 c1,.bool b2,.slice a2 n2 c2]) a b)(k1:n1<=2)(k2:n2<=2):
  eJ w S (.agg #[.bool b1,.slice a1 n1 c1,.bool b2,.slice a2 n2 c2]) (ratio a b)/\rl (ratio a b)<=2:=by
 obtain⟨b1,l1,b2,l2,e,I,X⟩:=h;simp only[Value.agg.injEq,Array.mk.injEq,List.cons.injEq,Value.bool.injEq,and_true]at e;obtain⟨rfl,rfl,rfl,rfl⟩:=e;have g1:=I.short k1;have g2:=X.short k2;have r1:=g1.ln;have r2:=g2.ln;have hr:=gY a b;refine⟨⟨_,_,_,_,a,b,rfl,?_,?_,rfl⟩,by omega⟩
 ·obtain⟨ng,ls,i1,i2,i3⟩:=g1;exact⟨ng,ls,i1,i2,by omega⟩
 ·obtain⟨ng,ls,i1,i2,i3⟩:=g2;exact⟨ng,ls,i1,i2,by omega⟩
def M6(U:List Value):Prop:=∃b a n c b2 a2 n2 c2,U=[.bool b,.slice a n c,.bool b2,.slice a2 n2 c2]/\n<=2/\n2<=2
theorem aAJ(h:fO w S v xs):∃A:List (List Value),A.length=xs.length/\eY 4 (fun w S U (y:List Value×(Int×Int))=>U=y.1/\ve w S U y.2) w S v (A.zip xs)/\(∀(j:Nat) U x,A[j]? =some U->xs[j]? =some x->ve w S U x)/\
  ((∀j U,j<xs.length->A[j]? =some U->M6 U)->dM w S v (xs.map rq)/\∀q∈xs.map rq,rl q<=2):=by
 obtain⟨A,I,X,N,h4⟩:=eY.cells (k:=4) (P:=fun w S U x=>ve w S U x) h;have key:∀j U x,A[j]? =some U->xs[j]? =some x->M6 U->kZ w S U (rq x)/\rl (rq x)<=2:=fun j U x k1 k2 k3=>by
  obtain⟨b,a,n,c,b2,a2,n2,c2,rfl,hr⟩:=N j U x k1 k2;obtain⟨_,_,_,_,_,_,_,_,e,m1,m2⟩:=k3;simp only[List.cons.injEq,Value.slice.injEq,Value.bool.injEq,and_true]at e;obtain⟨rfl,⟨rfl,rfl,rfl⟩,rfl,rfl,rfl,rfl⟩:=e;obtain⟨g1,g2⟩:=M5 hr m1 m2;exact⟨⟨_,_,_,_,_,_,_,_,rfl,g1⟩,g2⟩
 refine⟨A,I,X,N,fun hf=>⟨h4 kZ _ (aL ..) fun j U y k1 k2=>?_,fun q hq=>?_⟩⟩
 ·rw[aM]at k2;obtain⟨p,hp,rfl⟩:=Option.map_eq_some_iff.1 k2;exact(key j U p k1 hp (hf j U (aD.1 hp).1 k1)).1
 ·obtain⟨p,hp,rfl⟩:=aR.1 hq;obtain⟨j,hj⟩:=aQ hp;have Sr:=(aD.1 hj).1;have hc:A[j]? =some A[j]:=aB (by omega);exact(key j _ p hc hj (hf j _ Sr hc)).2
set_option maxHeartbeats 2000000 in
set_option maxRecDepth 8000 in
theorem topLessIsStable_c(F:Old S w)(hF:qL w S vn vb vs f)(L:fO w S v xs):
  dx PG F'.top_TopLessIsStable #[.agg #[vn,vb,vs],v] w (eH w fun v' _=>v'= .bool true):=by
 have Y:=bR w;obtain⟨A,PZ,hz,hR4,hQ⟩:=aAJ L;obtain⟨an,cn,rfl,-,-⟩:=hF.nodes.shape;obtain⟨ab,cb,rfl,-,-⟩:=hF.bars.shape;obtain⟨aq,cq,rfl,-,-⟩:=hF.cM.shape;obtain⟨ax,cx,rfl,UM,UN⟩:=eD.shape L;unfold maxLen at UN;refine oE (by simp) ?_;conv=>whnf
 refine cB (cE Y (fun _ J v V=>∃d,v= .bool d/\(d=true->dm w S (.slice an f.nodes.length cn) (.slice ab f.bars.length cb) (.slice aq f.cM.length cq) f.val/\(∀b∈f.val.bars,rl b.2.2<=3)/\(∀b∈f.val.cM,rl b.2.2<=3)/\f.nodes.length<=4/\f.val.bars.length<=6/\eN f.val=0)) (fun O J r=>(Iy (most:=4) F Y r hF jS.aA0).mono fun _ _ ⟨v2,e1,e2,d,e3,e4⟩=>⟨v2,e1,e2,d,e3,fun h=>let k:=e4 h;⟨k.1,k.2.1,k.2.2.1,k.2.2.2.1,k.2.2.2.2.1,(sd k.2.2.2.2.2.2.2).1⟩⟩) ?_);rintro O _ _ _ OZ r W Y h_ ⟨d1,rfl,Ol⟩;clear r
 cases d1
 ·conv=>whnf
  refine cB (cE Y (fun _ J v V=>v= .bool true) (fun O J r=>oW J) ?_);rintro O QK v2 PT OU r W Y h_ rfl;clear r;conv=>whnf
  exact rtn Y fun GT we re=>rfl
 obtain⟨hR,hrb,Vn,hn4,Tl,PV⟩:=Ol rfl;clear Ol;obtain⟨fv,hfv⟩:∃fv,f.val=fv:=⟨_,rfl⟩
 rw[hfv]at hR hrb Vn Tl PV;obtain⟨en,eb,es⟩:f.nodes.length=fv.nodes.length/\f.bars.length=fv.bars.length/\f.cM.length=fv.cM.length:=by rw[<-hfv];exact⟨rfl,(aL ..).symm,(aL ..).symm⟩
 rw[en]at hn4;rw[en,eb,es]at hR ⊢;clear hF hfv en eb es;have Pw:yv fv:=LC (.inr ⟨hn4,Tl⟩) hrb Vn PV;have RF:=Pw.toFrS;have hv:=RF.toFrV;have hc18:=RF.Nv;have Rq:=CM (f:=fv);conv=>whnf
 refine cB (cE Y (fun _ J v V=>v= .int .i64 fv.cols) (fun O J r=>Eu (hR.cC (kS Y r F)) ⟨RF.b,RF.s⟩) ?_);rintro O _ v2 _ OU r W Y h_ rfl;clear r;conv=>whnf
 refine dB.mk (fun _=>?_) (fun Oj=>?_)
 ·conv=>whnf
  refine cB (cE Y (fun _ J v V=>v= .bool true) (fun O J r=>oW J) ?_);rintro O PY v3 PX Oi r W Y h_ rfl;clear r;conv=>whnf
  exact rtn Y fun GT we re=>rfl
 have Oj:xs.length=fv.cols:=by have Oj:=(show (xs.length:Int)=(fv.cols:Int)from(by simpa using Oj));omega
 conv=>whnf
 refine⟨Nat×World×Iv,fun z=>⟨[(1,sV ax xs.length cx),(2,pP 0 0),(5,iN z.1)],[(0,.box T.Frame [.v (.slice an fv.nodes.length cn),.v (.slice ab fv.bars.length cb),.v (.slice aq fv.cM.length cq)])],1,z.2.2,z.2.1⟩,fun z=>xs.length-z.1,
  fun z=>z.1<=xs.length/\dT w.heap.size w z.2.1/\∀j U,j<z.1->A[j]? =some U->M6 U,?_,?_⟩
 ·intro O J r;exact⟨(0,J,_),⟨aS _,Y.tr r.cL,fun j U hj=>absurd hj (Nat.not_lt_zero j)⟩,Sub.gn [] r⟩
 clear Y;rintro⟨i,w1,iv⟩ ⟨D,Y,hB⟩;dsimp only at D Y hB ⊢;conv=>whnf
 refine dB.mk ?_ ?_<;>intro OQ
 ·have OQ:i<xs.length:=by simpa using OQ
  obtain⟨U,Ok⟩:∃U,A[i]? =some U:=⟨_,aB (by omega)⟩
  obtain⟨p,hp⟩:∃p,xs[i]? =some p:=⟨_,aB OQ⟩
  obtain⟨g0,g1,g2,g3,g4,g5,g6,g7,rfl,-⟩:=hR4 i U p Ok hp;obtain⟨adx,cs2,Pu,⟨VJ,-⟩,-,Q4⟩:=hz.load (by decide) (show (A.zip xs)[i]? =some (_,p) by rw[List.getElem?_zip_eq_some];exact⟨Ok,hp⟩);have VJ:cs2=[.bool g0,.slice g1 g2 g3,.bool g4,.slice g5 g6 g7]:=VJ;subst VJ;conv=>whnf
  refine⟨adx,Pu,by omega,?_⟩;conv=>whnf
  refine⟨.slice g1 g2 g3,fun O J r=>?_,?_⟩
  ·obtain⟨k1,k2⟩:=Q4 1 _ rfl;rw[cJ (w:=w) (V:=J) (by simp only[c9];exact(Y.tr r.cL).block _ (F _ k1))];simp only[aF,Cu]at k2 ⊢
   first|exact k2|(rw [<-k2];congr 2;omega)
  conv=>whnf
  refine dB.mk ?_ ?_<;>intro k1
  ·conv=>whnf
   refine cB (cE Y (fun _ J v V=>v= .bool true) (fun O J r=>oW J) ?_);rintro O PY v3 PX Oi r W Y h_ rfl;clear r;conv=>whnf
   exact rtn Y fun GT we re=>rfl
  have k1:=aH k1;conv=>whnf
  refine⟨adx,Pu,by omega,?_⟩;conv=>whnf
  refine⟨.slice g5 g6 g7,fun O J r=>?_,?_⟩
  ·obtain⟨k1,k2⟩:=Q4 3 _ rfl;rw[cJ (w:=w) (V:=J) (by simp only[c9];exact(Y.tr r.cL).block _ (F _ k1))];simp only[aF,Cu]at k2 ⊢
   first|exact k2|(rw [<-k2];congr 2;omega)
  conv=>whnf
  refine dB.mk ?_ ?_<;>intro k3
  ·conv=>whnf
   refine cB (cE Y (fun _ J v V=>v= .bool true) (fun O J r=>oW J) ?_);rintro O PY v3 PX Oi r W Y h_ rfl;clear r;conv=>whnf
   exact rtn Y fun GT we re=>rfl
  have k3:=aH k3;conv=>whnf
  have Ov:∀j U,j<i+1->A[j]? =some U->M6 U:=fun j U hj hc=>by
   rcases aP j i with h|h
   ·exact hB j U h hc
   ·have:j=i:=by omega
    subst this;rw[Ok]at hc;injection hc with hc;subst hc;exact⟨_,_,_,_,_,_,_,_,rfl,by omega,by omega⟩
  refine⟨((i+1:Nat):Int),wo,?_⟩;conv=>whnf
  intro IR w6 K;exact⟨(i+1,w6,_),⟨OQ,Y.tr K.cL,Ov⟩,Sub.gn [] K,by dsimp only;omega⟩
 have OQ:i=xs.length:=aU D (by simpa using OQ);subst OQ;obtain⟨hX,Rh⟩:=hQ hB;clear hQ hB D hR4 hz PZ;obtain⟨xv,hxv⟩:∃xv,xs.map rq=xv:=⟨_,rfl⟩
 rw[hxv]at hX Rh;have QC:xs.length=xv.length:=by rw[<-hxv,aL]
 rw[QC]at hX Oj ⊢;have hxq3:∀q∈xv,rl q<=3:=fun q hq=>by have:=Rh q hq;omega
 have h0l:(df xv ((0:Int):Rat)).length=fv.cols:=by rw[df,aL,Oj]
 have hhl:(df xv (Rat.divInt 1 2)).length=fv.cols:=by rw[df,aL,Oj]
 have h0q:∀q∈df xv ((0:Int):Rat),rl q<=3:=fun q hq=>by
  obtain⟨y,hy,rfl⟩:=aR.1 hq;have:=hJ y ((0:Int):Rat);have:=Rh y hy;have:rl (((0:Int)):Rat)<=1:=by decide
  omega
 have hhq:∀q∈df xv (Rat.divInt 1 2),rl q<=3:=fun q hq=>by
  obtain⟨y,hy,rfl⟩:=aR.1 hq;have:=hJ y (Rat.divInt 1 2);have:=Rh y hy;have:rl (Rat.divInt 1 2)<=1:=by decide
  omega
 have hless:sI (fE fv xv)->sI (fE fv (df xv ((0:Int):Rat)))->sI (fE fv (df xv (Rat.divInt 1 2))):=fun I X=>Fx (p:=Rat.divInt 1 2) (q:=Rat.divInt 1 2) I X (by decide) (by decide) (fun i=>by rw[yx,yx];grind) (by decide +kernel);clear L hxv UM;refine cI hτ dN [.x 0,.x 1,.x 2,.x 3,.x 4,.x 5,.x 6,.x 7,.x 8,.x 9] (by kernel_rfl) (by kernel_rfl) ?_;conv=>whnf
 refine cE Y (fun _ J v V=>cN V (Nf J V) v ((0:Int):Rat)) (fun O J r=>uV 0 J (by decide)) ?_;rintro O _ _ _ Oi r W Y h_ Z;have Of:=Z.dD (S:=FF) r.bz (mN h_);clear r;obtain⟨A0,A1,A2,A3,A4,A5,A6,A7,rfl⟩:=Of.shape;conv=>whnf
 refine cE Y (fun _ J v V=>cS V (Nf J V) v (df xv (((0:Int):Rat)))) (fun O J r=>(show qO [] xv (((0:Int):Rat))=df xv (((0:Int):Rat))from Bm xv _)▸Hi (S:=fun g=>S g\/Cf w Oi g) (fun g G=>G.elim (oS F r g) (Rel.old r (bw w) g)) (dM.nil _ _) (dM.cF (dM.cC hX (kS Y r F)) fun g G=>.inl G) (eJ.cF ((Of.rel r (bw w)).l (by decide)) fun g G=>.inr G) (.inl rfl) (by omega) (fun y hy=>by have:=Rh y hy;have:rl (((0:Int):Rat))<=1:=(by decide);omega)) ?_;rintro O _ _ _ Ow r W Y h_ Z;clear Of;have hN:=cS.dD (S:=FF) Z r.bz (mN h_);clear r;clear Z;obtain⟨ahN,chN,rfl,-,-⟩:=eD.shape hN;conv=>whnf
 refine cE Y (fun _ J v V=>∃d,v= .tuple #[.bool d,.int .i64 0]/\(d=true↔sI (fE fv (df xv ((0:Int):Rat))))) (fun O J r=>(vZ (S:=fun g=>S g\/Cf w Ow g) (fun g G=>G.elim (oS F r g) (Rel.old r (bw w) g)) (dm.cF (hR.cC (kS Y r F)) fun g G=>.inl G) (fun _=>Pw) (dM.cF (cS.l (cS.rel hN r (bw w)) fun q hq=>by have:=h0q q hq;omega) fun g G=>.inr G) h0q).mono fun _ _ ⟨v2,e1,e2,e3⟩=>⟨v2,e1,e2,e3.elim (fun h=>absurd PV h.1) fun h=>h.2.elim (fun g=>absurd h0l g.1) fun g=>g.2⟩) ?_;rintro O _ _ _ QO r W Y h_ ⟨da,rfl,hda⟩;clear hN;clear r;conv=>whnf
 refine cB (cE Y (fun _ J v V=>∃d,v= .tuple #[.bool d,.int .i64 0]/\(d=true↔sI (fE fv xv))) (fun O J r=>(vZ (S:=fun g=>S g\/Cf w QO g) (fun g G=>G.elim (oS F r g) (Rel.old r (bw w) g)) (dm.cF (hR.cC (kS Y r F)) fun g G=>.inl G) (fun _=>Pw) (dM.cF (dM.cC hX (kS Y r F)) fun g G=>.inl G) hxq3).mono fun _ _ ⟨v2,e1,e2,e3⟩=>⟨v2,e1,e2,e3.elim (fun h=>absurd PV h.1) fun h=>h.2.elim (fun g=>absurd Oj g.1) fun g=>g.2⟩) ?_);rintro O _ _ _ R8 r W Y h_ ⟨db,rfl,hdb⟩;clear r;conv=>whnf
 cases da
 ·conv=>whnf
  refine cB (cE Y (fun _ J v V=>v= .bool true) (fun O J r=>oW J) ?_);rintro O Ty v7 Tz Ra r W Y h_ rfl;clear r;conv=>whnf
  exact rtn Y fun GT we re=>rfl
 cases db
 ·conv=>whnf
  refine cB (cE Y (fun _ J v V=>v= .bool true) (fun O J r=>oW J) ?_);rintro O Ty v7 Tz Ra r W Y h_ rfl;clear r;conv=>whnf
  exact rtn Y fun GT we re=>rfl
 have TC:=hda.1 rfl;have RO:=hdb.1 rfl;have PN:=hless RO TC;conv=>whnf
 refine cB (cE Y (fun _ J v V=>∃q,v= .tuple #[q,.int .i64 0]/\cN V (Nf J V) q (Rat.divInt 1 2)) (fun O J r=>(Gd 1 2 J (by decide) (by decide) (by decide) (by decide)).mono fun _ _ ⟨v2,e1,e2,e3⟩=>⟨v2,e1,e2,e3.elim (fun h=>absurd h.1 (by decide)) fun h=>h.2⟩) ?_);rintro O _ _ _ Ra r W Y h_ ⟨q,rfl,Z⟩;have hh:=cN.dD (S:=FF) Z r.bz (mN h_);clear r;clear Z;obtain⟨u0,u1,u2,u3,u4,u5,u6,u7,rfl⟩:=hh.shape;conv=>whnf
 refine cI hτ dN [.x 0,.x 1,.x 2,.x 3,.x 4,.x 5,.x 6,.x 7,.x 8,.x 9] (by kernel_rfl) (by kernel_rfl) ?_;conv=>whnf
 refine cE Y (fun _ J v V=>cS V (Nf J V) v (df xv (Rat.divInt 1 2))) (fun O J r=>(show qO [] xv (Rat.divInt 1 2)=df xv (Rat.divInt 1 2)from Bm xv _)▸Hi (S:=fun g=>S g\/Cf w Ra g) (fun g G=>G.elim (oS F r g) (Rel.old r (bw w) g)) (dM.nil _ _) (dM.cF (dM.cC hX (kS Y r F)) fun g G=>.inl G) (eJ.cF ((hh.rel r (bw w)).l (by decide)) fun g G=>.inr G) (.inl rfl) (by omega) (fun y hy=>by have:=Rh y hy;have:rl (Rat.divInt 1 2)<=1:=(by decide);omega)) ?_;rintro O _ _ _ SF r W Y h_ Z;clear hh;have hH:=cS.dD (S:=FF) Z r.bz (mN h_);clear r;clear Z;obtain⟨ahH,chH,rfl,-,-⟩:=eD.shape hH;conv=>whnf
 refine cE Y (fun _ J v V=>∃d,v= .tuple #[.bool d,.int .i64 0]/\(d=true↔sI (fE fv (df xv (Rat.divInt 1 2))))) (fun O J r=>(vZ (S:=fun g=>S g\/Cf w SF g) (fun g G=>G.elim (oS F r g) (Rel.old r (bw w) g)) (dm.cF (hR.cC (kS Y r F)) fun g G=>.inl G) (fun _=>Pw) (dM.cF (cS.l (cS.rel hH r (bw w)) fun q hq=>by have:=hhq q hq;omega) fun g G=>.inr G) hhq).mono fun _ _ ⟨v2,e1,e2,e3⟩=>⟨v2,e1,e2,e3.elim (fun h=>absurd PV h.1) fun h=>h.2.elim (fun g=>absurd hhl g.1) fun g=>g.2⟩) ?_;rintro O _ _ _ RW r W Y h_ ⟨dc,rfl,Tt⟩;clear hH;clear r;conv=>whnf
 obtain rfl:dc=true:=Tt.2 PN;conv=>whnf
 refine cB (cE Y (fun _ J v V=>∃vm,v= .tuple #[vm,.int .i64 0]/\cT V (Nf J V) vm (fE fv xv)) (fun O J r=>(r8 (oS F r) (hR.cC (kS Y r F)) (fun _=>Pw) (dM.cC hX (kS Y r F)) hxq3).mono fun _ _ ⟨v2,e1,e2,e3⟩=>⟨v2,e1,e2,e3.elim (fun h=>absurd PV h.1) fun h=>h.2.elim (fun g=>absurd Oj g.1) fun g=>g.2⟩) ?_);rintro O _ _ _ Qj r W Y h_ ⟨vm,rfl,Z⟩;have hM:=cT.dD (S:=FF) Z r.bz (mN h_);clear r;clear Z;have Q8:=EP Pw Tl hxq3;have Qq:((fE fv xv).map jf).length=(dy fv).length:=by rw[aL,jH]
 have Uy:ov ((fE fv xv).map jf)=0:=Hd (n:=(dy fv).length) Qq (fun r hr=>by obtain⟨y,hy,rfl⟩:=aR.1 hr;rw[Bj];exact sO y hy) (by omega);obtain⟨am,cm,rfl,-,-⟩:=dG.shape hM;conv=>whnf
 refine cB (cE Y (fun _ J v V=>v= .tuple #[.bool true,.int .i64 0]) (fun O J r=>(rX (S:=Cf w Qj) (h0:=44) (Rel.old r (bw w)) (cT.jf (cT.rel hM r (bw w))) (fun _=>⟨fun y hy=>by obtain⟨y0,Ph,rfl⟩:=aR.1 hy;exact Bk fun q hq=>by have:=Q8 y0 Ph q hq;omega,by rw[DE];exact Q8,by decide,by rw[Qq];exact He (by omega)⟩) (by decide)).mono fun _ _ ⟨v2,e1,e2,e3⟩=>⟨v2,e1,e2,e3.elim (fun h=>absurd Uy h.1) fun⟨_,d,k1,k2,k3⟩=>by rw[DE]at k3;rw[k1,k3 RO]⟩) ?_);rintro O _ _ _ PD r W Y h_ rfl;clear hM;clear r;conv=>whnf
 refine cB (cE Y (fun _ J v V=>v= .bool true) (fun O J r=>oW J) ?_);rintro O _ _ _ Vv r W Y h_ rfl;clear r;conv=>whnf
 exact rtn Y fun GT we re=>rfl
end Go.Ex
