/- Texts X223 to X225: lemmas, each with its conditions. -/
import Derived.Test.YtgkpbdkechfgmaaGreatP15
namespace Go.Ex
open Go Go.Sx Go.Proofs
variable{b2:Bool}{f:GX}{xs:List (Int×Int)}{l:List Ld}{most:Nat}{S:Nat->Prop}{O:Nat->Sx.dL}{a a2:Option Addr}{v vb vn vs:Value}{w:World}
def M3(n k:Nat):List Value:=[.int .i64 ((n:Nat):Int),.int .i64 ((k:Nat):Int),.bool false,.slice none 0 0,.bool false,.slice none 0 0]
def lY:Nat->List (List Value)
 |0=>[M3 2 1]
 |k+1=>lY k++[M3 0 k,M3 1 k]
theorem AE:∀k,(lY k).length=2*k+1
 |0=>rfl
 |k+1=>by rw[lY,List.length_append,AE k];simp;omega
theorem AF:∀k,∀cs∈lY k,cs.length=6
 |0,cs,h=>by simp[lY]at h;subst h;rfl
 |k+1,cs,h=>by
  rw[lY]at h;rcases List.mem_append.1 h with h|h
  ·exact AF k cs h
  ·simp at h;rcases h with rfl|rfl<;>rfl
theorem Ey(k:Nat):(lY k).flatten++[.int .i64 0,.int .i64 (k:Int),.bool false,.slice none 0 0,.bool false,.slice none 0 0,.int .i64 1,.int .i64 (k:Int),.bool false,.slice none 0 0,.bool false,.slice none 0 0]=(lY (k+1)).flatten:=by
 rw[lY,List.flatten_append];rfl
def DF:ed:=⟨[(0,0,0),(0,0,4),(3,0,0)],[(0,2,1),(1,2,1)],[(2,1,0),(0,0,0),(1,0,0),(0,1,0),(1,1,0),(0,2,0),(1,2,0)]⟩
def M4:List Int:=[-3,3,0,9,-9,0,0,0,12]
theorem Hf:kN DF MZ=0:=by decide +kernel
theorem Mw:yv DF:=LC (.inr ⟨by decide,by decide⟩) (by decide +kernel) (by decide +kernel) (sd Hf).1
theorem Hg:yo (cY DF) DF.cols (Nn DF) (df (mi DF MZ) (-1)) (ew M4):=⟨by decide +kernel,by decide +kernel,by decide +kernel⟩
theorem Gc(w:World):dx PG N.top_bracket #[] w (eH w fun v' w2=>∃vn vb vs,v'= .agg #[vn,vb,vs]∧dm w2 (Nf w w2) vn vb vs DF):=by
 have hw:=bR w;refine zX (by simp) ?_;conv=>whnf
 refine cB (cE hw (fun _ w' v w2=>cN w2 (Nf w' w2) v ((1:Int):Rat)) (fun O w' r=>uV 1 w' (by decide)) ?_);rintro O _ _ _ OZ r he hw h_ hn;have hd:=hn.dD (S:=FF) r.bz (mN h_);clear r;obtain⟨A0,A1,A2,A3,A4,A5,A6,A7,rfl⟩:=hd.shape;conv=>whnf
 refine⟨Nat×World,fun z=>⟨[(0,pP 0 0),(2,pP 5 0),(3,iN z.1)],[(5,.box T.Frame [.s 2 0 3 3,.s 3 0 2 2,.w 6 (2*(z.1)+1)]),(6,.vec T.CS 6 (lY (z.1)).flatten),(3,.box T.Nx [.v (.int .i64 0),.v (.int .i64 2),.v (.bool A0),.v (.slice A1 A2 A3),.v (.bool A4),.v (.slice A5 A6 A7),.v (.int .i64 1),.v (.int .i64 2),.v (.bool A0),.v (.slice A1 A2 A3),.v (.bool A4),.v (.slice A5 A6 A7)]),(2,.box T.Node [.v (.int .i64 0),.v (.int .i64 0),.v (.int .i64 0),.v (.int .i64 0),.v (.int .i64 0),.v (.int .i64 4),.v (.int .i64 3),.v (.int .i64 0),.v (.int .i64 0)]),(0,.box T.Frame [.v (.slice none 0 0),.v (.slice none 0 0),.v (.slice none 0 0)])],7,OZ,z.2⟩,fun z=>3-z.1,
  fun z=>z.1<=3∧dT w.heap.size w z.2∧cN z.2 (Cf w OZ) (.agg #[.bool A0,.slice A1 A2 A3,.bool A4,.slice A5 A6 A7]) ((1:Int):Rat),?_,?_⟩
 ·intro O w' r;exact⟨(0,w'),⟨aS _,hw.tr r.cL,hd.rel r (bw w)⟩,Sub.aA1 (H':=[(5,.box T.Frame [.s 2 0 3 3,.s 3 0 2 2,.s 4 0 1 1]),(3,.box T.Nx [.v (.int .i64 0),.v (.int .i64 2),.v (.bool A0),.v (.slice A1 A2 A3),.v (.bool A4),.v (.slice A5 A6 A7),.v (.int .i64 1),.v (.int .i64 2),.v (.bool A0),.v (.slice A1 A2 A3),.v (.bool A4),.v (.slice A5 A6 A7)]),(2,.box T.Node [.v (.int .i64 0),.v (.int .i64 0),.v (.int .i64 0),.v (.int .i64 0),.v (.int .i64 0),.v (.int .i64 4),.v (.int .i64 3),.v (.int .i64 0),.v (.int .i64 0)]),(0,.box T.Frame [.v (.slice none 0 0),.v (.slice none 0 0),.v (.slice none 0 0)])]) 4 5 2 T.CS 6 1 (vs:=M3 2 1) rfl ⟨rfl,rfl,rfl,rfl,trivial⟩ rfl rfl rfl rfl (by decide) (by simp[l6,SV.sc,At.sc,iW]) r fun ρ1 r1=>Sub.gn [] r1⟩
 clear hw hd;rintro⟨k,w1⟩ ⟨hk,hw,hd⟩;dsimp only at hk hw hd ⊢;conv=>whnf
 refine dB.mk ?_ ?_<;>intro OT
 ·have OT:k<3:=by have:=aK OT;omega
  have hs:=Ey k;have Ot:=vV (AF k);have SI:=AE k;conv=>whnf
  refine .inl ?_;conv=>whnf
  refine⟨by omega,by omega,by unfold maxLen;omega,?_⟩;conv=>whnf
  refine⟨((k+1:Nat):Int),wo,?_⟩;conv=>whnf
  intro ρ3 w6 r3;exact⟨(k+1,w6),⟨OT,hw.tr r3.cL,hd.rel r3 (bw w)⟩,Sub.gn [(6,8)] r3 ⟨by dsimp only;rw[show 2*(k+1)+1=2*k+1+2 by omega];rfl,by dsimp only;rw[<-hs];rfl,rfl,rfl,rfl,trivial⟩,by dsimp only;omega⟩
 have OT:k=3:=by have:=aH OT;omega
 subst OT;conv=>whnf
 intro ρe we re;have hN:∀{id:Nat} {bk:jh},cV _ id=some bk->(ρe id).nil=false->Nf w we (ρe id).g:=fun h hn=>by
  obtain⟨h1,h2⟩:=re.low _ _ h hn;exact .inr ⟨h1,h2⟩
 have hR:=hd.out re (bw w);have hL:eJ we (Nf w we) (.agg #[.bool A0,.slice A1 A2 A3,.bool A4,.slice A5 A6 A7]) 1:=hR.l (by decide);refine⟨_,rfl,hw.tr re.cL,_,_,_,rfl,?_,?_,?_⟩
 ·refine⟨[[.int .i64 0,.int .i64 0,.int .i64 0],[.int .i64 0,.int .i64 0,.int .i64 4],[.int .i64 3,.int .i64 0,.int .i64 0]],(re.DG (id:=2) (sz:=3) (n:=3) rfl rfl (by decide) (by repeat' first|refine List.forall_mem_cons.2 ⟨rfl,?_⟩|exact fun u hu=>absurd hu List.not_mem_nil)).cF fun g hg=>by subst hg;exact hN (id:=2) rfl (re.nn 2 _ rfl (by intros;simp) (by simp)),rfl,by simp,fun j cs x h1 h2=>?_⟩;rcases j with _|_|_|j
  ·cases h1;cases h2;rfl
  ·cases h1;cases h2;rfl
  ·cases h1;cases h2;rfl
  ·cases h2
 ·refine⟨[[.int .i64 0,.int .i64 2,.bool A0,.slice A1 A2 A3,.bool A4,.slice A5 A6 A7],[.int .i64 1,.int .i64 2,.bool A0,.slice A1 A2 A3,.bool A4,.slice A5 A6 A7]],(re.DG (id:=3) (sz:=6) (n:=2) rfl rfl (by decide) (by repeat' first|refine List.forall_mem_cons.2 ⟨rfl,?_⟩|exact fun u hu=>absurd hu List.not_mem_nil)).cF fun g hg=>by subst hg;exact hN (id:=3) rfl (re.nn 3 _ rfl (by intros;simp) (by simp)),rfl,by simp,fun j cs x h1 h2=>?_⟩;rcases j with _|_|j
  ·cases h1;cases h2;exact⟨_,_,_,_,_,_,_,_,rfl,hL⟩
  ·cases h1;cases h2;exact⟨_,_,_,_,_,_,_,_,rfl,hL⟩
  ·cases h2
 ·refine⟨lY 3,?_,rfl,by decide,fun j cs x h1 h2=>?_⟩
  ·have h5:=re.kR (id:=6) (sz:=6) (m:=7) rfl (by decide) (by decide) (by decide) (by decide);exact h5.cF fun g hg=>.inr hg
  ·rcases j with _|_|_|_|_|_|_|j
   ·cases h1;cases h2;exact⟨_,_,_,_,_,_,_,_,rfl,eJ.zeroV⟩
   ·cases h1;cases h2;exact⟨_,_,_,_,_,_,_,_,rfl,eJ.zeroV⟩
   ·cases h1;cases h2;exact⟨_,_,_,_,_,_,_,_,rfl,eJ.zeroV⟩
   ·cases h1;cases h2;exact⟨_,_,_,_,_,_,_,_,rfl,eJ.zeroV⟩
   ·cases h1;cases h2;exact⟨_,_,_,_,_,_,_,_,rfl,eJ.zeroV⟩
   ·cases h1;cases h2;exact⟨_,_,_,_,_,_,_,_,rfl,eJ.zeroV⟩
   ·cases h1;cases h2;exact⟨_,_,_,_,_,_,_,_,rfl,eJ.zeroV⟩
   ·cases h2
theorem oW(w:World):dx PG N.top_bears #[] w (eH w fun v' _=>v'= .bool true):=by
 have hw:=bR w;refine CU (by simp) ?_;conv=>whnf
 refine cB (cE hw (fun _ w' v w2=>∃vn vb vs,v= .agg #[vn,vb,vs]∧dm w2 (Nf w' w2) vn vb vs DF) (fun O w' r=>Gc w') ?_);rintro O _ _ _ OZ r he hw h_ ⟨vn,vb,vs,rfl,hn⟩;have hf:=hn.dD r.bz (mN h_);clear r;clear hn;obtain⟨an,cn,ab,cb,aq,cq,rfl,rfl,rfl,-,-,-⟩:=hf.shape;conv=>whnf
 refine cB (cE hw (fun _ w' v w2=>∃vx,v= .tuple #[vx,.int .i64 0]∧cS w2 (Nf w' w2) vx (ew M4)) (fun O w' r=>(Gb (S:=(fun g=>Cf w OZ g∨g=(O 0).g)) (l:=MZ) (fun g hg=>hg.elim (Rel.old r (bw w) g) fun e=>by subst e;exact Rel.lt r (id:=0) rfl) (dm.cF (dm.rel hf r (bw w)) fun g hg=>.inl hg) (show jS w' (fun g=>Cf w OZ g∨g=(O 0).g) (.slice (some ⟨(O 0).g,0,none⟩) 1 1) MZ from⟨[[.int .i64 2,.int .i64 0,.int .i64 0,.int .i64 (-12)]],(r.DG (id:=0) (sz:=4) (n:=1) rfl rfl (by decide) (by repeat' first|refine List.forall_mem_cons.2 ⟨rfl,?_⟩|exact fun u hu=>absurd hu List.not_mem_nil)).cF fun g hg=>.inr hg,rfl,by simp,fun j cs x h1 h2=>by cases j with|zero=>(cases h1;cases h2;rfl)|succ j=>cases h2⟩) (fun _=>Mw)).mono fun _ _ ⟨v2,e1,e2,e3⟩=>⟨v2,e1,e2,e3.elim (fun h=>absurd Hf h.1) fun h=>h.2.elim (fun g=>by obtain⟨z,hz⟩:=IV (mA DF) (x:=fun t=>(ew M4).getD t 0) Hg.eq;rw[g.1]at hz;cases hz) fun⟨x,vx,g,k1,k2⟩=>⟨vx,k1,Mw.OI.one g Hg▸k2⟩⟩) ?_);rintro O _ v2 PR OU r he hw h_ ⟨vx,rfl,hn⟩;clear hf;have hX:=cS.dD (S:=FF) hn r.bz (mN h_);clear r;clear hn;obtain⟨ax,cx,rfl,-,-⟩:=eD.shape hX;have hl9:(ew M4).length=9:=rfl;obtain⟨ad0,cs0,ha0,hF0,hS0,hl0⟩:=eD.load hX (j:=0) (x:=((-3:Int):Rat)) rfl;obtain⟨x0,x1,x2,x3,x4,x5,x6,x7,rfl,hF0⟩:=hF0;rw[hl9];conv=>whnf
 refine cH hτ dN [.x 0,.x 1,.x 2,.x 3,.x 4,.x 5,.x 6,.x 7,.x 8,.x 9,.x 10,.x 11,.x 12,.x 13,.x 14,.x 15,.x 16,.x 17,.x 18,.x 19,.x 20,.x 21] (by kernel_rfl) (by kernel_rfl) ?_;conv=>whnf
 refine⟨ad0,ha0,⟨by decide,by decide⟩,?_⟩;conv=>whnf
 refine⟨[.bool x0,.slice x1 x2 x3,.bool x4,.slice x5 x6 x7],rfl,fun O w' r j u hu=>?_,?_⟩
 ·obtain⟨k1,k2⟩:=hl0 j u hu;rw[show (0:Int).toNat=0 from rfl,cJ (w:=PR) (w2:=w') (by rw[c9,c9];exact Rel.same r (bw w) k1)];exact k2
 conv=>whnf
 refine cE hw (fun _ w' v w2=>cN w2 (Nf w' w2) v (((-3):Int):Rat)) (fun O w' r=>uV (-3) w' (by decide)) ?_;rintro O _ _ _ Oi r he hw h_ hn;replace hF0:=hF0.cD r (bw w) he (mC h_);replace hX:=cS.cD hX r (bw w) he (mC h_);have Sw:=hn.dD (S:=FF) r.bz (mN h_);clear r;obtain⟨A0,A1,A2,A3,A4,A5,A6,A7,rfl⟩:=Sw.shape;conv=>whnf
 refine cE hw (fun _ w' v w2=>v= .bool true) (fun O w' r=>(LG (S:=Cf w Oi) (Rel.old r (bw w)) (hF0.rel r (bw w)) (Sw.rel r (bw w))).mono fun _ _ ⟨v2,e1,e2,e3⟩=>⟨v2,e1,e2,by rw[e3];exact congrArg _ (bU rfl)⟩) ?_;rintro O _ _ Q9 Ow r he hw h_ rfl;clear hF0;replace hX:=cS.cD hX r (bw w) he (mC h_);clear Sw;clear r;conv=>whnf
 obtain⟨ad1,cs1,ha1,hF1,hS1,QT⟩:=eD.load hX (j:=1) (x:=((3:Int):Rat)) rfl;obtain⟨y0,y1,y2,y3,y4,y5,y6,y7,rfl,hF1⟩:=hF1;refine⟨ad1,ha1,⟨by decide,by decide⟩,?_⟩;conv=>whnf
 refine⟨[.bool y0,.slice y1 y2 y3,.bool y4,.slice y5 y6 y7],rfl,fun O w' r j u hu=>?_,?_⟩
 ·obtain⟨k1,k2⟩:=QT j u hu;rw[show (1:Int).toNat=1 from rfl,cJ (w:=Q9) (w2:=w') (by rw[c9,c9];exact Rel.same r (bw w) k1)];exact k2
 conv=>whnf
 refine cE hw (fun _ w' v w2=>cN w2 (Nf w' w2) v ((3:Int):Rat)) (fun O w' r=>uV 3 w' (by decide)) ?_;rintro O _ _ _ QO r he hw h_ hn;replace hF1:=hF1.cD r (bw w) he (mC h_);have RM:=hn.dD (S:=FF) r.bz (mN h_);clear r;obtain⟨C0,C1,C2,C3,C4,C5,C6,C7,rfl⟩:=RM.shape;conv=>whnf
 refine cE hw (fun _ w' v w2=>v= .bool true) (fun O w' r=>(LG (S:=Cf w QO) (Rel.old r (bw w)) (hF1.rel r (bw w)) (RM.rel r (bw w))).mono fun _ _ ⟨v2,e1,e2,e3⟩=>⟨v2,e1,e2,by rw[e3];exact congrArg _ (bU rfl)⟩) ?_;rintro O _ _ _ R6 r he hw h_ rfl;clear hF1;clear RM;clear r;conv=>whnf
 exact rtn hw fun ρe we re=>rfl
theorem Hh{b:Bool}{n c:Nat}{n2 c2:Nat}(h1:n<=2)(h2:n2<=2):Es [.bool b,.slice a n c,.bool b2,.slice a2 n2 c2]:=⟨_,_,_,_,_,_,_,_,rfl,by omega,by omega⟩
theorem LH{vl:Value}(hS:Old S w)(hf:qL w S vn vb vs f)(hl:jS w S vl l):dx PG N.top_slight #[.agg #[vn,vb,vs],vl,.int .i64 most] w (eH w fun v' _=>∃d,v'= .bool d∧
  (d=true->dm w S vn vb vs f.val∧(∀b∈f.val.bars,rl b.2.2<=3)∧(∀b∈f.val.cM,rl b.2.2<=3)∧f.nodes.length<=most∧f.val.bars.length<=6∧f.val.cM.length<=12∧l.length<=12∧kN f.val l=0)):=by
 have hw:=bR w;obtain⟨an,cn,rfl,hcn,RV⟩:=hf.nodes.shape;obtain⟨bcs,QL,hbz,SR,hbQ⟩:=hf.bars.cells;obtain⟨qcs,SA,hqz,hq4,hqQ⟩:=hf.cM.cells;obtain⟨ab,cb,rfl,PB,RN⟩:=hf.bars.shape;obtain⟨aq,cq,rfl,hcq,Sg⟩:=hf.cM.shape;obtain⟨al,cl,rfl,PY,Qo⟩:=hl.shape;unfold maxLen at RV RN Sg Qo;refine AX (by simp) ?_;conv=>whnf
 refine dB.mk ?_ ?_<;>intro h0
 ·conv=>whnf
  exact rtn hw fun ρe we re=>⟨_,rfl,fun h=>by cases h⟩
 have h0:=aH h0;conv=>whnf
 refine dB.mk ?_ ?_<;>intro h1
 ·conv=>whnf
  exact rtn hw fun ρe we re=>⟨_,rfl,fun h=>by cases h⟩
 have h1:=aH h1;conv=>whnf
 refine dB.mk ?_ ?_<;>intro h2
 ·conv=>whnf
  exact rtn hw fun ρe we re=>⟨_,rfl,fun h=>by cases h⟩
 have h2:=aH h2;conv=>whnf
 refine dB.mk ?_ ?_<;>intro h3
 ·conv=>whnf
  exact rtn hw fun ρe we re=>⟨_,rfl,fun h=>by cases h⟩
 have h3:=aH h3;conv=>whnf
 refine⟨Nat×World×Iv,fun z=>⟨[(1,sV al l.length cl),(3,pP 0 0),(7,iN z.1)],[(0,.box T.Frame [.v (.slice an f.nodes.length cn),.v (.slice ab f.bars.length cb),.v (.slice aq f.cM.length cq)])],1,z.2.2,z.2.1⟩,fun z=>f.bars.length-z.1,
  fun z=>z.1<=f.bars.length∧dT w.heap.size w z.2.1∧∀(j:Nat) (cs:List Value),j<z.1->bcs[j]? =some cs->Es (cs.drop 2),?_,?_⟩
 ·intro O w' r;exact⟨(0,w',_),⟨aS _,hw.tr r.cL,fun j cs hj=>absurd hj (Nat.not_lt_zero j)⟩,Sub.gn [] r⟩
 clear hw;rintro⟨i,w1,iv⟩ ⟨hi,hw,hB⟩;dsimp only at hi hw hB ⊢;conv=>whnf
 refine dB.mk ?_ ?_<;>intro OQ
 ·have OQ:i<f.bars.length:=by simpa using OQ
  obtain⟨cs,Ok⟩:∃cs,bcs[i]? =some cs:=⟨_,aB (by omega)⟩
  obtain⟨p,hp⟩:∃p,f.bars[i]? =some p:=⟨_,aB OQ⟩
  obtain⟨g0,g1,g2,g3,g4,g5,g6,g7,rfl,-⟩:=SR i cs p Ok hp;obtain⟨adx,cs2,Pu,⟨Uz,-⟩,-,Q4⟩:=hbz.load (by decide) (show (bcs.zip f.bars)[i]? =some (_,p) by rw[List.getElem?_zip_eq_some];exact⟨Ok,hp⟩);have Uz:cs2=[.int .i64 p.1,.int .i64 p.2.1,.bool g0,.slice g1 g2 g3,.bool g4,.slice g5 g6 g7]:=Uz;subst Uz;conv=>whnf
  refine⟨adx,Pu,by omega,?_⟩;conv=>whnf
  refine⟨.slice g1 g2 g3,fun O w' r=>?_,?_⟩
  ·obtain⟨k1,k2⟩:=Q4 3 _ rfl;rw[cJ (w:=w) (w2:=w') (by simp only[c9];exact(hw.tr r.cL).block _ (hS _ k1))];simp only[aF,Cu]at k2 ⊢
   first|exact k2|(rw [<-k2];congr 2;omega)
  conv=>whnf
  refine dB.mk ?_ ?_<;>intro k3
  ·conv=>whnf
   exact rtn hw fun ρe we re=>⟨_,rfl,fun h=>by cases h⟩
  have k3:=aH k3;conv=>whnf
  refine⟨adx,Pu,by omega,?_⟩;conv=>whnf
  refine⟨.slice g5 g6 g7,fun O w' r=>?_,?_⟩
  ·obtain⟨k1,k2⟩:=Q4 5 _ rfl;rw[cJ (w:=w) (w2:=w') (by simp only[c9];exact(hw.tr r.cL).block _ (hS _ k1))];simp only[aF,Cu]at k2 ⊢
   first|exact k2|(rw [<-k2];congr 2;omega)
  conv=>whnf
  refine dB.mk ?_ ?_<;>intro k5
  ·conv=>whnf
   exact rtn hw fun ρe we re=>⟨_,rfl,fun h=>by cases h⟩
  have k5:=aH k5;conv=>whnf
  have Ov:∀j cs,j<i+1->bcs[j]? =some cs->Es (cs.drop 2):=fun j cs hj hc=>by
   rcases aP j i with h|h
   ·exact hB j cs h hc
   ·have:j=i:=by omega
    subst this;rw[Ok]at hc;injection hc with hc;subst hc;exact Hh (by omega) (by omega)
  refine⟨((i+1:Nat):Int),wo,?_⟩;conv=>whnf
  intro ρ3 w6 r3;exact⟨(i+1,w6,_),⟨OQ,hw.tr r3.cL,Ov⟩,Sub.gn [] r3,by dsimp only;omega⟩
 have OQ:i=f.bars.length:=aU hi (by simpa using OQ);subst OQ;clear hi;conv=>whnf
 refine⟨Nat×World×Iv,fun z=>⟨[(1,sV al l.length cl),(3,pP 0 0),(8,iN z.1)],[(0,.box T.Frame [.v (.slice an f.nodes.length cn),.v (.slice ab f.bars.length cb),.v (.slice aq f.cM.length cq)])],1,z.2.2,z.2.1⟩,fun z=>f.cM.length-z.1,
  fun z=>z.1<=f.cM.length∧dT w.heap.size w z.2.1∧∀(j:Nat) (cs:List Value),j<z.1->qcs[j]? =some cs->Es (cs.drop 2),?_,?_⟩
 ·intro O w' r;exact⟨(0,w',_),⟨aS _,hw.tr r.cL,fun j cs hj=>absurd hj (Nat.not_lt_zero j)⟩,Sub.gn [] r⟩
 clear hw;rintro⟨i,w1,iv⟩ ⟨hi,hw,hQ⟩;dsimp only at hi hw hQ ⊢;conv=>whnf
 refine dB.mk ?_ ?_<;>intro OQ
 ·have OQ:i<f.cM.length:=by simpa using OQ
  obtain⟨cs,Ok⟩:∃cs,qcs[i]? =some cs:=⟨_,aB (by omega)⟩
  obtain⟨p,hp⟩:∃p,f.cM[i]? =some p:=⟨_,aB OQ⟩
  obtain⟨g0,g1,g2,g3,g4,g5,g6,g7,rfl,-⟩:=hq4 i cs p Ok hp;obtain⟨adx,cs2,Pu,⟨Uz,-⟩,-,Q4⟩:=hqz.load (by decide) (show (qcs.zip f.cM)[i]? =some (_,p) by rw[List.getElem?_zip_eq_some];exact⟨Ok,hp⟩);have Uz:cs2=[.int .i64 p.1,.int .i64 p.2.1,.bool g0,.slice g1 g2 g3,.bool g4,.slice g5 g6 g7]:=Uz;subst Uz;conv=>whnf
  refine⟨adx,Pu,by omega,?_⟩;conv=>whnf
  refine⟨.slice g1 g2 g3,fun O w' r=>?_,?_⟩
  ·obtain⟨k1,k2⟩:=Q4 3 _ rfl;rw[cJ (w:=w) (w2:=w') (by simp only[c9];exact(hw.tr r.cL).block _ (hS _ k1))];simp only[aF,Cu]at k2 ⊢
   first|exact k2|(rw [<-k2];congr 2;omega)
  conv=>whnf
  refine dB.mk ?_ ?_<;>intro k3
  ·conv=>whnf
   exact rtn hw fun ρe we re=>⟨_,rfl,fun h=>by cases h⟩
  have k3:=aH k3;conv=>whnf
  refine⟨adx,Pu,by omega,?_⟩;conv=>whnf
  refine⟨.slice g5 g6 g7,fun O w' r=>?_,?_⟩
  ·obtain⟨k1,k2⟩:=Q4 5 _ rfl;rw[cJ (w:=w) (w2:=w') (by simp only[c9];exact(hw.tr r.cL).block _ (hS _ k1))];simp only[aF,Cu]at k2 ⊢
   first|exact k2|(rw [<-k2];congr 2;omega)
  conv=>whnf
  refine dB.mk ?_ ?_<;>intro k5
  ·conv=>whnf
   exact rtn hw fun ρe we re=>⟨_,rfl,fun h=>by cases h⟩
  have k5:=aH k5;conv=>whnf
  have Ov:∀j cs,j<i+1->qcs[j]? =some cs->Es (cs.drop 2):=fun j cs hj hc=>by
   rcases aP j i with h|h
   ·exact hQ j cs h hc
   ·have:j=i:=by omega
    subst this;rw[Ok]at hc;injection hc with hc;subst hc;exact Hh (by omega) (by omega)
  refine⟨((i+1:Nat):Int),wo,?_⟩;conv=>whnf
  intro ρ3 w6 r3;exact⟨(i+1,w6,_),⟨OQ,hw.tr r3.cL,Ov⟩,Sub.gn [] r3,by dsimp only;omega⟩
 have OQ:i=f.cM.length:=aU hi (by simpa using OQ);subst OQ;clear hi;conv=>whnf
 obtain⟨kb,kb2⟩:=Mr.of SR hbQ QL hB;obtain⟨kq,kq2⟩:=Mr.of hq4 hqQ SA hQ;have hR:dm w S (.slice an f.nodes.length cn) (.slice ab f.bars.length cb) (.slice aq f.cM.length cq) f.val:=⟨hf.nodes,kb,kq⟩
 refine cB (cE hw (fun _ w' v w2=>v= .int .i64 (kN f.val l)) (fun O w' r=>DA (oS hS r) (hR.cC (kS hw r hS)) (hl.cC (kS hw r hS))) ?_);rintro O _ _ _ OU r he hw h_ rfl;clear r;conv=>whnf
 exact rtn hw fun ρe we re=>⟨_,rfl,fun h=>⟨hR,kb2,kq2,by omega,by show(f.bars.map Et).length<=6;rw[aL];omega,by show(f.cM.map Et).length<=12;rw[aL];omega,by omega,by simpa using h⟩⟩
theorem Iy{H:Hp}{nx:Nat}{iv:Iv}{w1 w':World}{vl:Value}(hS:Old S w)(hw:dT w.heap.size w w1)(r:Rel H nx iv w.heap.size w1 O w')(hf:qL w S vn vb vs f)(hl:jS w S vl l):dx PG N.top_slight #[.agg #[vn,vb,vs],vl,.int .i64 most] w' (eH w' fun v' _=>∃d,v'= .bool d∧
  (d=true->dm w S vn vb vs f.val∧(∀b∈f.val.bars,rl b.2.2<=3)∧(∀b∈f.val.cM,rl b.2.2<=3)∧f.nodes.length<=most∧f.val.bars.length<=6∧f.val.cM.length<=12∧l.length<=12∧kN f.val l=0)):=by
 have hk:∀g,S g->w'.heap[g]? =w.heap[g]? :=fun g hg=>(hw.tr r.cL).block g (hS g hg);have hO:Old S w':=fun g hg=>by have:=hS g hg;have:=r.bz;omega
 refine(LH hO (hf.cC hk) (hl.cC hk)).mono fun _ _ ⟨v2,e1,e2,d,e3,e4⟩=>⟨v2,e1,e2,d,e3,fun h=>?_⟩
 obtain⟨h1,h2⟩:=e4 h;exact⟨h1.cC fun g hg=>(hk g hg).symm,h2⟩
theorem M5{b1:Bool}{a1:Option Addr}{n1 n2 c1 c2:Nat}{a b:Int}(h:iD w S (.agg #[.bool b1,.slice a1 n1 c1,.bool b2,.slice a2 n2 c2]) a b)(k1:n1<=2)(k2:n2<=2):
  eJ w S (.agg #[.bool b1,.slice a1 n1 c1,.bool b2,.slice a2 n2 c2]) (ratio a b)∧rl (ratio a b)<=2:=by
 obtain⟨b1,l1,b2,l2,e,h1,h2⟩:=h;simp only[Value.agg.injEq,Array.mk.injEq,List.cons.injEq,Value.bool.injEq,and_true]at e;obtain⟨rfl,rfl,rfl,rfl⟩:=e;have g1:=h1.short k1;have g2:=h2.short k2;have r1:=g1.ln;have r2:=g2.ln;have hr:=gY a b;refine⟨⟨_,_,_,_,a,b,rfl,?_,?_,rfl⟩,by omega⟩
 ·obtain⟨ng,ls,i1,i2,i3⟩:=g1;exact⟨ng,ls,i1,i2,by omega⟩
 ·obtain⟨ng,ls,i1,i2,i3⟩:=g2;exact⟨ng,ls,i1,i2,by omega⟩
def M6(cs:List Value):Prop:=∃b a n c b2 a2 n2 c2,cs=[.bool b,.slice a n c,.bool b2,.slice a2 n2 c2]∧n<=2∧n2<=2
theorem aAJ(h:fO w S v xs):∃css:List (List Value),css.length=xs.length∧eY 4 (fun w S cs (y:List Value×(Int×Int))=>cs=y.1∧ve w S cs y.2) w S v (css.zip xs)∧(∀(j:Nat) cs x,css[j]? =some cs->xs[j]? =some x->ve w S cs x)∧
  ((∀j cs,j<xs.length->css[j]? =some cs->M6 cs)->dM w S v (xs.map rq)∧∀q∈xs.map rq,rl q<=2):=by
 obtain⟨css,h1,h2,h3,h4⟩:=eY.cells (k:=4) (P:=fun w S cs x=>ve w S cs x) h;have key:∀j cs x,css[j]? =some cs->xs[j]? =some x->M6 cs->k6 w S cs (rq x)∧rl (rq x)<=2:=fun j cs x k1 k2 k3=>by
  obtain⟨b,a,n,c,b2,a2,n2,c2,rfl,hr⟩:=h3 j cs x k1 k2;obtain⟨_,_,_,_,_,_,_,_,e,m1,m2⟩:=k3;simp only[List.cons.injEq,Value.slice.injEq,Value.bool.injEq,and_true]at e;obtain⟨rfl,⟨rfl,rfl,rfl⟩,rfl,rfl,rfl,rfl⟩:=e;obtain⟨g1,g2⟩:=M5 hr m1 m2;exact⟨⟨_,_,_,_,_,_,_,_,rfl,g1⟩,g2⟩
 refine⟨css,h1,h2,h3,fun hf=>⟨h4 k6 _ (aL ..) fun j cs y k1 k2=>?_,fun q hq=>?_⟩⟩
 ·rw[aM]at k2;obtain⟨p,hp,rfl⟩:=Option.map_eq_some_iff.1 k2;exact(key j cs p k1 hp (hf j cs (aD.1 hp).1 k1)).1
 ·obtain⟨p,hp,rfl⟩:=aR.1 hq;obtain⟨j,hj⟩:=aQ hp;have Sn:=(aD.1 hj).1;have hc:css[j]? =some css[j]:=aB (by omega);exact(key j _ p hc hj (hf j _ Sn hc)).2
set_option maxHeartbeats 2000000 in
set_option maxRecDepth 8000 in
theorem topLessIsStable_c(hS:Old S w)(hF:qL w S vn vb vs f)(hx:fO w S v xs):
  dx PG N.top_TopLessIsStable #[.agg #[vn,vb,vs],v] w (eH w fun v' _=>v'= .bool true):=by
 have hw:=bR w;obtain⟨css,PY,hz,hR4,hQ⟩:=aAJ hx;obtain⟨an,cn,rfl,-,-⟩:=hF.nodes.shape;obtain⟨ab,cb,rfl,-,-⟩:=hF.bars.shape;obtain⟨aq,cq,rfl,-,-⟩:=hF.cM.shape;obtain⟨ax,cx,rfl,Tz,UA⟩:=eD.shape hx;unfold maxLen at UA;refine oE (by simp) ?_;conv=>whnf
 refine cB (cE hw (fun _ w' v w2=>∃d,v= .bool d∧(d=true->dm w S (.slice an f.nodes.length cn) (.slice ab f.bars.length cb) (.slice aq f.cM.length cq) f.val∧(∀b∈f.val.bars,rl b.2.2<=3)∧(∀b∈f.val.cM,rl b.2.2<=3)∧f.nodes.length<=4∧f.val.bars.length<=6∧eN f.val=0)) (fun O w' r=>(Iy (most:=4) hS hw r hF jS.aA0).mono fun _ _ ⟨v2,e1,e2,d,e3,e4⟩=>⟨v2,e1,e2,d,e3,fun h=>let k:=e4 h;⟨k.1,k.2.1,k.2.2.1,k.2.2.2.1,k.2.2.2.2.1,(sd k.2.2.2.2.2.2.2).1⟩⟩) ?_);rintro O _ _ _ OZ r he hw h_ ⟨d1,rfl,Ol⟩;clear r
 cases d1
 ·conv=>whnf
  refine cB (cE hw (fun _ w' v w2=>v= .bool true) (fun O w' r=>oW w') ?_);rintro O QK v2 PR OU r he hw h_ rfl;clear r;conv=>whnf
  exact rtn hw fun ρe we re=>rfl
 obtain⟨hR,hrb,Vd,hn4,Tb,PT⟩:=Ol rfl;clear Ol;obtain⟨fv,hfv⟩:∃fv,f.val=fv:=⟨_,rfl⟩
 rw[hfv]at hR hrb Vd Tb PT;obtain⟨en,eb,es⟩:f.nodes.length=fv.nodes.length∧f.bars.length=fv.bars.length∧f.cM.length=fv.cM.length:=by rw[<-hfv];exact⟨rfl,(aL ..).symm,(aL ..).symm⟩
 rw[en]at hn4;rw[en,eb,es]at hR ⊢;clear hF hfv en eb es;have Pw:yv fv:=LC (.inr ⟨hn4,Tb⟩) hrb Vd PT;have RD:=Pw.toFrS;have hv:=RD.toFrV;have hc18:=RD.Nv;have Ro:=CM (f:=fv);conv=>whnf
 refine cB (cE hw (fun _ w' v w2=>v= .int .i64 fv.cols) (fun O w' r=>Eu (hR.cC (kS hw r hS)) ⟨RD.b,RD.s⟩) ?_);rintro O _ v2 _ OU r he hw h_ rfl;clear r;conv=>whnf
 refine dB.mk (fun _=>?_) (fun Oj=>?_)
 ·conv=>whnf
  refine cB (cE hw (fun _ w' v w2=>v= .bool true) (fun O w' r=>oW w') ?_);rintro O PX v3 PW Oi r he hw h_ rfl;clear r;conv=>whnf
  exact rtn hw fun ρe we re=>rfl
 have Oj:xs.length=fv.cols:=by have Oj:=(show (xs.length:Int)=(fv.cols:Int)from(by simpa using Oj));omega
 conv=>whnf
 refine⟨Nat×World×Iv,fun z=>⟨[(1,sV ax xs.length cx),(2,pP 0 0),(5,iN z.1)],[(0,.box T.Frame [.v (.slice an fv.nodes.length cn),.v (.slice ab fv.bars.length cb),.v (.slice aq fv.cM.length cq)])],1,z.2.2,z.2.1⟩,fun z=>xs.length-z.1,
  fun z=>z.1<=xs.length∧dT w.heap.size w z.2.1∧∀j cs,j<z.1->css[j]? =some cs->M6 cs,?_,?_⟩
 ·intro O w' r;exact⟨(0,w',_),⟨aS _,hw.tr r.cL,fun j cs hj=>absurd hj (Nat.not_lt_zero j)⟩,Sub.gn [] r⟩
 clear hw;rintro⟨i,w1,iv⟩ ⟨hi,hw,hB⟩;dsimp only at hi hw hB ⊢;conv=>whnf
 refine dB.mk ?_ ?_<;>intro OQ
 ·have OQ:i<xs.length:=by simpa using OQ
  obtain⟨cs,Ok⟩:∃cs,css[i]? =some cs:=⟨_,aB (by omega)⟩
  obtain⟨p,hp⟩:∃p,xs[i]? =some p:=⟨_,aB OQ⟩
  obtain⟨g0,g1,g2,g3,g4,g5,g6,g7,rfl,-⟩:=hR4 i cs p Ok hp;obtain⟨adx,cs2,Pu,⟨Uz,-⟩,-,Q4⟩:=hz.load (by decide) (show (css.zip xs)[i]? =some (_,p) by rw[List.getElem?_zip_eq_some];exact⟨Ok,hp⟩);have Uz:cs2=[.bool g0,.slice g1 g2 g3,.bool g4,.slice g5 g6 g7]:=Uz;subst Uz;conv=>whnf
  refine⟨adx,Pu,by omega,?_⟩;conv=>whnf
  refine⟨.slice g1 g2 g3,fun O w' r=>?_,?_⟩
  ·obtain⟨k1,k2⟩:=Q4 1 _ rfl;rw[cJ (w:=w) (w2:=w') (by simp only[c9];exact(hw.tr r.cL).block _ (hS _ k1))];simp only[aF,Cu]at k2 ⊢
   first|exact k2|(rw [<-k2];congr 2;omega)
  conv=>whnf
  refine dB.mk ?_ ?_<;>intro k1
  ·conv=>whnf
   refine cB (cE hw (fun _ w' v w2=>v= .bool true) (fun O w' r=>oW w') ?_);rintro O PX v3 PW Oi r he hw h_ rfl;clear r;conv=>whnf
   exact rtn hw fun ρe we re=>rfl
  have k1:=aH k1;conv=>whnf
  refine⟨adx,Pu,by omega,?_⟩;conv=>whnf
  refine⟨.slice g5 g6 g7,fun O w' r=>?_,?_⟩
  ·obtain⟨k1,k2⟩:=Q4 3 _ rfl;rw[cJ (w:=w) (w2:=w') (by simp only[c9];exact(hw.tr r.cL).block _ (hS _ k1))];simp only[aF,Cu]at k2 ⊢
   first|exact k2|(rw [<-k2];congr 2;omega)
  conv=>whnf
  refine dB.mk ?_ ?_<;>intro k3
  ·conv=>whnf
   refine cB (cE hw (fun _ w' v w2=>v= .bool true) (fun O w' r=>oW w') ?_);rintro O PX v3 PW Oi r he hw h_ rfl;clear r;conv=>whnf
   exact rtn hw fun ρe we re=>rfl
  have k3:=aH k3;conv=>whnf
  have Ov:∀j cs,j<i+1->css[j]? =some cs->M6 cs:=fun j cs hj hc=>by
   rcases aP j i with h|h
   ·exact hB j cs h hc
   ·have:j=i:=by omega
    subst this;rw[Ok]at hc;injection hc with hc;subst hc;exact⟨_,_,_,_,_,_,_,_,rfl,by omega,by omega⟩
  refine⟨((i+1:Nat):Int),wo,?_⟩;conv=>whnf
  intro ρ3 w6 r3;exact⟨(i+1,w6,_),⟨OQ,hw.tr r3.cL,Ov⟩,Sub.gn [] r3,by dsimp only;omega⟩
 have OQ:i=xs.length:=aU hi (by simpa using OQ);subst OQ;obtain⟨hX,Rg⟩:=hQ hB;clear hQ hB hi hR4 hz PY;obtain⟨xv,hxv⟩:∃xv,xs.map rq=xv:=⟨_,rfl⟩
 rw[hxv]at hX Rg;have QC:xs.length=xv.length:=by rw[<-hxv,aL]
 rw[QC]at hX Oj ⊢;have hxq3:∀q∈xv,rl q<=3:=fun q hq=>by have:=Rg q hq;omega
 have h0l:(df xv ((0:Int):Rat)).length=fv.cols:=by rw[df,aL,Oj]
 have hhl:(df xv (Rat.divInt 1 2)).length=fv.cols:=by rw[df,aL,Oj]
 have h0q:∀q∈df xv ((0:Int):Rat),rl q<=3:=fun q hq=>by
  obtain⟨y,hy,rfl⟩:=aR.1 hq;have:=hJ y ((0:Int):Rat);have:=Rg y hy;have:rl (((0:Int)):Rat)<=1:=by decide
  omega
 have hhq:∀q∈df xv (Rat.divInt 1 2),rl q<=3:=fun q hq=>by
  obtain⟨y,hy,rfl⟩:=aR.1 hq;have:=hJ y (Rat.divInt 1 2);have:=Rg y hy;have:rl (Rat.divInt 1 2)<=1:=by decide
  omega
 have hless:sI (fE fv xv)->sI (fE fv (df xv ((0:Int):Rat)))->sI (fE fv (df xv (Rat.divInt 1 2))):=fun h1 h2=>Fx (p:=Rat.divInt 1 2) (q:=Rat.divInt 1 2) h1 h2 (by decide) (by decide) (fun i=>by rw[yx,yx];grind) (by decide +kernel);clear hx hxv Tz;refine cH hτ dN [.x 0,.x 1,.x 2,.x 3,.x 4,.x 5,.x 6,.x 7,.x 8,.x 9] (by kernel_rfl) (by kernel_rfl) ?_;conv=>whnf
 refine cE hw (fun _ w' v w2=>cN w2 (Nf w' w2) v ((0:Int):Rat)) (fun O w' r=>uV 0 w' (by decide)) ?_;rintro O _ _ _ Oi r he hw h_ hn;have Of:=hn.dD (S:=FF) r.bz (mN h_);clear r;obtain⟨A0,A1,A2,A3,A4,A5,A6,A7,rfl⟩:=Of.shape;conv=>whnf
 refine cE hw (fun _ w' v w2=>cS w2 (Nf w' w2) v (df xv (((0:Int):Rat)))) (fun O w' r=>(show qO [] xv (((0:Int):Rat))=df xv (((0:Int):Rat))from Bm xv _)▸Hi (S:=fun g=>S g∨Cf w Oi g) (fun g hg=>hg.elim (oS hS r g) (Rel.old r (bw w) g)) (dM.nil _ _) (dM.cF (dM.cC hX (kS hw r hS)) fun g hg=>.inl hg) (eJ.cF ((Of.rel r (bw w)).l (by decide)) fun g hg=>.inr hg) (.inl rfl) (by omega) (fun y hy=>by have:=Rg y hy;have:rl (((0:Int):Rat))<=1:=(by decide);omega)) ?_;rintro O _ _ _ Ow r he hw h_ hn;clear Of;have hN:=cS.dD (S:=FF) hn r.bz (mN h_);clear r;clear hn;obtain⟨ahN,chN,rfl,-,-⟩:=eD.shape hN;conv=>whnf
 refine cE hw (fun _ w' v w2=>∃d,v= .tuple #[.bool d,.int .i64 0]∧(d=true↔sI (fE fv (df xv ((0:Int):Rat))))) (fun O w' r=>(vZ (S:=fun g=>S g∨Cf w Ow g) (fun g hg=>hg.elim (oS hS r g) (Rel.old r (bw w) g)) (dm.cF (hR.cC (kS hw r hS)) fun g hg=>.inl hg) (fun _=>Pw) (dM.cF (cS.l (cS.rel hN r (bw w)) fun q hq=>by have:=h0q q hq;omega) fun g hg=>.inr hg) h0q).mono fun _ _ ⟨v2,e1,e2,e3⟩=>⟨v2,e1,e2,e3.elim (fun h=>absurd PT h.1) fun h=>h.2.elim (fun g=>absurd h0l g.1) fun g=>g.2⟩) ?_;rintro O _ _ _ QO r he hw h_ ⟨da,rfl,hda⟩;clear hN;clear r;conv=>whnf
 refine cB (cE hw (fun _ w' v w2=>∃d,v= .tuple #[.bool d,.int .i64 0]∧(d=true↔sI (fE fv xv))) (fun O w' r=>(vZ (S:=fun g=>S g∨Cf w QO g) (fun g hg=>hg.elim (oS hS r g) (Rel.old r (bw w) g)) (dm.cF (hR.cC (kS hw r hS)) fun g hg=>.inl hg) (fun _=>Pw) (dM.cF (dM.cC hX (kS hw r hS)) fun g hg=>.inl hg) hxq3).mono fun _ _ ⟨v2,e1,e2,e3⟩=>⟨v2,e1,e2,e3.elim (fun h=>absurd PT h.1) fun h=>h.2.elim (fun g=>absurd Oj g.1) fun g=>g.2⟩) ?_);rintro O _ _ _ R6 r he hw h_ ⟨db,rfl,hdb⟩;clear r;conv=>whnf
 cases da
 ·conv=>whnf
  refine cB (cE hw (fun _ w' v w2=>v= .bool true) (fun O w' r=>oW w') ?_);rintro O Tl v7 Tm R9 r he hw h_ rfl;clear r;conv=>whnf
  exact rtn hw fun ρe we re=>rfl
 cases db
 ·conv=>whnf
  refine cB (cE hw (fun _ w' v w2=>v= .bool true) (fun O w' r=>oW w') ?_);rintro O Tl v7 Tm R9 r he hw h_ rfl;clear r;conv=>whnf
  exact rtn hw fun ρe we re=>rfl
 have Sw:=hda.1 rfl;have RM:=hdb.1 rfl;have PM:=hless RM Sw;conv=>whnf
 refine cB (cE hw (fun _ w' v w2=>∃q,v= .tuple #[q,.int .i64 0]∧cN w2 (Nf w' w2) q (Rat.divInt 1 2)) (fun O w' r=>(Gd 1 2 w' (by decide) (by decide) (by decide) (by decide)).mono fun _ _ ⟨v2,e1,e2,e3⟩=>⟨v2,e1,e2,e3.elim (fun h=>absurd h.1 (by decide)) fun h=>h.2⟩) ?_);rintro O _ _ _ R9 r he hw h_ ⟨q,rfl,hn⟩;have hh:=cN.dD (S:=FF) hn r.bz (mN h_);clear r;clear hn;obtain⟨u0,u1,u2,u3,u4,u5,u6,u7,rfl⟩:=hh.shape;conv=>whnf
 refine cH hτ dN [.x 0,.x 1,.x 2,.x 3,.x 4,.x 5,.x 6,.x 7,.x 8,.x 9] (by kernel_rfl) (by kernel_rfl) ?_;conv=>whnf
 refine cE hw (fun _ w' v w2=>cS w2 (Nf w' w2) v (df xv (Rat.divInt 1 2))) (fun O w' r=>(show qO [] xv (Rat.divInt 1 2)=df xv (Rat.divInt 1 2)from Bm xv _)▸Hi (S:=fun g=>S g∨Cf w R9 g) (fun g hg=>hg.elim (oS hS r g) (Rel.old r (bw w) g)) (dM.nil _ _) (dM.cF (dM.cC hX (kS hw r hS)) fun g hg=>.inl hg) (eJ.cF ((hh.rel r (bw w)).l (by decide)) fun g hg=>.inr hg) (.inl rfl) (by omega) (fun y hy=>by have:=Rg y hy;have:rl (Rat.divInt 1 2)<=1:=(by decide);omega)) ?_;rintro O _ _ _ SE r he hw h_ hn;clear hh;have hH:=cS.dD (S:=FF) hn r.bz (mN h_);clear r;clear hn;obtain⟨ahH,chH,rfl,-,-⟩:=eD.shape hH;conv=>whnf
 refine cE hw (fun _ w' v w2=>∃d,v= .tuple #[.bool d,.int .i64 0]∧(d=true↔sI (fE fv (df xv (Rat.divInt 1 2))))) (fun O w' r=>(vZ (S:=fun g=>S g∨Cf w SE g) (fun g hg=>hg.elim (oS hS r g) (Rel.old r (bw w) g)) (dm.cF (hR.cC (kS hw r hS)) fun g hg=>.inl hg) (fun _=>Pw) (dM.cF (cS.l (cS.rel hH r (bw w)) fun q hq=>by have:=hhq q hq;omega) fun g hg=>.inr hg) hhq).mono fun _ _ ⟨v2,e1,e2,e3⟩=>⟨v2,e1,e2,e3.elim (fun h=>absurd PT h.1) fun h=>h.2.elim (fun g=>absurd hhl g.1) fun g=>g.2⟩) ?_;rintro O _ _ _ RU r he hw h_ ⟨dc,rfl,Th⟩;clear hH;clear r;conv=>whnf
 obtain rfl:dc=true:=Th.2 PM;conv=>whnf
 refine cB (cE hw (fun _ w' v w2=>∃vm,v= .tuple #[vm,.int .i64 0]∧cT w2 (Nf w' w2) vm (fE fv xv)) (fun O w' r=>(r8 (oS hS r) (hR.cC (kS hw r hS)) (fun _=>Pw) (dM.cC hX (kS hw r hS)) hxq3).mono fun _ _ ⟨v2,e1,e2,e3⟩=>⟨v2,e1,e2,e3.elim (fun h=>absurd PT h.1) fun h=>h.2.elim (fun g=>absurd Oj g.1) fun g=>g.2⟩) ?_);rintro O _ _ _ Qi r he hw h_ ⟨vm,rfl,hn⟩;have hM:=cT.dD (S:=FF) hn r.bz (mN h_);clear r;clear hn;have Q8:=EP Pw Tb hxq3;have Qo:((fE fv xv).map jf).length=(dy fv).length:=by rw[aL,jH]
 have Uo:ov ((fE fv xv).map jf)=0:=Hd (n:=(dy fv).length) Qo (fun r hr=>by obtain⟨y,hy,rfl⟩:=aR.1 hr;rw[Bj];exact sO y hy) (by omega);obtain⟨am,cm,rfl,-,-⟩:=dG.shape hM;conv=>whnf
 refine cB (cE hw (fun _ w' v w2=>v= .tuple #[.bool true,.int .i64 0]) (fun O w' r=>(rX (S:=Cf w Qi) (h0:=44) (Rel.old r (bw w)) (cT.jf (cT.rel hM r (bw w))) (fun _=>⟨fun y hy=>by obtain⟨y0,Pg,rfl⟩:=aR.1 hy;exact Bk fun q hq=>by have:=Q8 y0 Pg q hq;omega,by rw[DE];exact Q8,by decide,by rw[Qo];exact He (by omega)⟩) (by decide)).mono fun _ _ ⟨v2,e1,e2,e3⟩=>⟨v2,e1,e2,e3.elim (fun h=>absurd Uo h.1) fun⟨_,d,k1,k2,k3⟩=>by rw[DE]at k3;rw[k1,k3 RM]⟩) ?_);rintro O _ _ _ Pq r he hw h_ rfl;clear hM;clear r;conv=>whnf
 refine cB (cE hw (fun _ w' v w2=>v= .bool true) (fun O w' r=>oW w') ?_);rintro O _ _ _ Vk r he hw h_ rfl;clear r;conv=>whnf
 exact rtn hw fun ρe we re=>rfl
end Go.Ex
