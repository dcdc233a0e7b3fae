/- Texts X209 to X230: lemmas, each with its conditions. -/
import Derived.Test.YtgkpbdkechfgmaaGreatP12
namespace Go.Ex
open Go Go.Sx Go.Proofs
variable{ad:Addr}{H:Hp}{z:Int}{iv:Iv}{G:List (List Ld)}{M:List (List Rat)}{U:List (List Value)}{fs l:List Int}{G8:List gR}{B nx:Nat}{s:Nat->I3}{S S':Nat->Prop}{J8:Nat->Rat}{O:Nat->Sx.cd}{q:Rat}{v:Value}{w Y:World}{f:eS}{e:gR}
theorem tM(n:Nat)(F9:List (List Rat))(y:List Rat):∀c,c<=F9.length->eK n (F9++[y]) c=eK n F9 c
 |0,_=>rfl
 |c+1,hc=>by
  rw[eK,eK,tM n F9 y c (by omega)];congr 1;rw[List.getD,aJ (by omega),<-List.getD]
theorem zl(n:Nat)(F9:List (List Rat))(y:List Rat):eK n (F9++[y]) (F9.length+1)=gL (eK n F9 F9.length) y F9.length n:=by
 rw[eK,tM n F9 y _ (aE _)];congr 1;rw[List.getD,aN (aE _),bC];rfl
def B2(w:World)(S:Nat->Prop)(G:List Value)(e:gR):Prop:=xA w S G e.1/\∀k,me w S (slot G k) (ia e k)
def Ja(G8:List gR)(h c:Nat):Prop:=∀e∈G8,rl e.1.1<=h/\rl e.1.2<=h/\e.2.1.length<=c/\e.2.2.length<=c
def JR:List Value:=[.bool false,.slice none 0 0,.bool false,.slice none 0 0,.bool false,.slice none 0 0,.bool false,.slice none 0 0,.slice none 0 0,.slice none 0 0]
theorem Rz.nil{n:Nat}(hl:U.length=n)(hs:∀G∈U,∀k,slot G k= .slice none 0 0):Rz w B iv U (List.replicate n ((0,0),[],[])):=by
 refine⟨by rw[hl,aa],fun j G e k V I=>?_,fun i j G ds k m g V I K=>?_⟩
 ·have h0:=hs G (aD V) k;rw[List.getElem?_replicate]at I;split at I
  ·injection I with I;subst I;rw[h0]
   cases k<;>exact⟨⟨rfl,.inl ⟨rfl,rfl⟩⟩,fun g R=>by cases R⟩
  ·cases I
 ·rw[hs G (aD V) k]at K
  cases K
theorem Os.nil(hs:∀G∈U,∀k,slot G k= .slice none 0 0){g:Nat}(h:Cv FF B iv g):Os U B iv g:=⟨h,fun G hc k e=>by rw[hs G hc k]at e;cases e⟩
theorem B3{c:Nat}(V:e.2.1.length<=c)(I:e.2.2.length<=c):(ei e q z).2.1.length<=c+1/\(ei e q z).2.2.length<=c+1:=by
 unfold ei;split
 ·exact⟨by dsimp only;rw[List.length_append,List.length_singleton];omega,by dsimp only;omega⟩
 ·split
  ·exact⟨by dsimp only;omega,by dsimp only;rw[List.length_append,List.length_singleton];omega⟩
  ·exact⟨by omega,by omega⟩
theorem vq{h c:Nat}{x:List Rat}(hE:Ja G8 h c)(F:∀q∈x,rl q<=152)(i:Nat):Ja (gL G8 x z i) (h+153) (c+1):=fun e Z=>by
 obtain⟨k,W⟩:=aQ Z;have Qi:=(aC.1 W).1;rw[iO]at Qi;have hm:G8.getD k ((0,0),[],[])∈G8:=by rw[List.getD,aA Qi];exact aV _
 obtain⟨V,I,K,h4⟩:=hE _ hm;have hs:=oh G8 x z Qi ((0,0),[],[]) i;rw[getD_some W]at hs;rw[hs];split
 ·have hq:rl (x.getD k 0)<=152:=by
   rcases aO k x.length with h5|h5
   ·exact F _ (by rw[List.getD,aA h5];exact aV _)
   ·rw[gV h5];exact a9 (by decide:rl 0<=2) (by decide)
  have k1:=Cq (c:=z) hq V I;have k2:=B3 (q:=x.getD k 0) (z:=z) K h4;exact⟨k1.1,k1.2,k2.1,k2.2⟩
 ·exact⟨by omega,by omega,by omega,by omega⟩
theorem Gw{α:Type}{l:List α}{j:Nat}{x:α}(h:l[j]? =some x):l.set j x=l:=by
 refine bJ fun i=>?_;rw[List.getElem?_set];split
 ·rename_i e;subst e;rw[h,if_pos (aC.1 h).1]
 ·rfl
theorem B4{x:List Rat}{c:Int}{j:Nat}(Z:(gL G8 x c j)[j]? =some e)(hq:x[j]? =some q):gL G8 x c (j+1)=(gL G8 x c j).set j (ei e q c):=by
 rw[gL,getD_some Z,getD_some hq]
theorem iu.one(h:iu w S U G8)(hz:Rz Y B iv U G8):∀u∈U.flatten,u.oneCell'=true:=fun u hu=>by
 obtain⟨G,hc,hu⟩:=List.mem_flatten.1 hu;obtain⟨j,hj⟩:=aQ hc;obtain⟨e,Z⟩:∃e,G8[j]? =some e:=⟨_,aA (by have:=(aC.1 hj).1;have:=h.1;omega)⟩
 obtain⟨a1,c1,e1,-⟩:=fQ (hz.row j G e false hj Z).1;obtain⟨a2,c2,e2,-⟩:=fQ (hz.row j G e true hj Z).1;obtain⟨_,_,vl,vh,rfl,⟨_,_,_,_,_,_,_,_,rfl,_⟩,⟨_,_,_,_,_,_,_,_,rfl,_⟩⟩:=h.2 j G e hj Z;have e1:vl=_:=e1;have e2:vh=_:=e2;subst e1 e2;simp at hu;rcases hu with rfl|rfl|rfl|rfl|rfl|rfl|rfl|rfl|rfl|rfl<;>rfl
theorem IC{n:Nat}(hM:iu w (Os U B iv) U G8)(hZ:Rz w B iv U G8)(X:∀g,Cv FF B iv g->S g)(hv:gi w S 10 v U.flatten n)(A:G8.length=n):dT 10 B2 w S v G8:=by
 subst A;refine⟨U,hv,hM.1,hM.wid,fun j G e V I=>⟨(hM.2 j G e V I).map fun g R=>⟨rfl,X g R.1⟩,fun k=>?_⟩⟩;obtain⟨k1,k2⟩:=hZ.row j G e k V I;exact ownsRow.seq k1 (fun u hu=>by obtain⟨z,_,rfl⟩:=aT.1 hu;rfl) fun g R=>X g (k2 g R)
set_option maxHeartbeats 2000000 in
theorem B5{vn vb vs:Value}(X:Old S w)(hf:dN w S vn vb vs f)(hC:gB w S v G)(hsm:eB f=0->uF f):
  eF PG F'.pE #[.agg #[vn,vb,vs],v] w (eM w fun v' Y=>(jZ f G≠0/\v'= .tuple #[.slice none 0 0,.int .i64 (jZ f G)])\/(jZ f G=0/\((xD f G/\v'= .tuple #[.slice none 0 0,.int .i64 17])\/∃F9 vw,kP f G F9/\F9.length=G.length/\v'= .tuple #[vw,.int .i64 0]/\dT 10 B2 Y (Nf w Y) vw (eK f.cols F9 G.length)))):=by
 have L:=bR w;obtain⟨an,cn,ab,cb,aq,cq,rfl,rfl,rfl,Nd,OK,PW⟩:=hf.shape;obtain⟨ac,cc,rfl,-,Ph⟩:=dZ.shape hC;unfold maxLen at Ph;refine sH (by simp) ?_;obtain⟨e0,EE⟩:∃e,jZ f G=e:=⟨_,rfl⟩
 refine bp (cE L (fun _ J v Y=>v= .int .i64 e0) (fun O J r=>(xg (oS X r) (hf.br (kS L r X)) (gB.br hC (kS L r X))).mono fun _ _ ⟨v2,e1,e2,e3⟩=>⟨v2,e1,e2,by rw[e3,EE]⟩) ?_);rintro O _ _ _ LC r Z L h_ rfl;clear r;refine ct.mk ?_ ?_<;>intro Z
 ·have Z:e0≠0:=by simpa using Z
  exact rtn L fun I' we re=>.inl ⟨by rw[EE];exact Z,by rw[EE];rfl⟩
 have Z:e0=0:=by simpa using Z
 subst Z;obtain⟨Mu,h16,Lo⟩:=Cr EE;have Lb:=hsm Mu;have Nx:=Lb.toFrS;have hc18:=Nx.IU;have hr12:=Nx.JA;have Rp:=fE f;have hlen:=fH f;have hn4:=Nx.n4;have Kt:=uD Mu;have Mt:f.cols=f.bars.length+f.cJ.length:=rfl;obtain⟨n,A⟩:∃n,f.cols=n:=⟨_,rfl⟩
 refine⟨((f.cols:Nat):Int),wo,n,n,by rw[A],by rw[A],aE _,by omega,by omega,Nat×List (List Value)×World×Iv,fun z=>⟨[(1,sV ac G.length cc),(2,pP 0 0),(7,.o (.s 1 0 n n)),(30,.o (.s 1 0 n n)),(31,iZ n),(32,iN z.1)],[(1,.arr T.Envelope z.2.1.flatten),(0,.box T.Frame [.v (.slice an f.nodes.length cn),.v (.slice ab f.bars.length cb),.v (.slice aq f.cJ.length cq)])],2,z.2.2.2,z.2.2.1⟩,fun z=>n-z.1,
  fun z=>z.1<=n/\dO w.heap.size w z.2.2.1/\z.2.1.length=n/\(∀G∈z.2.1,G.length=10)/\(∀G∈z.2.1,∀k,slot G k= .slice none 0 0)/\(∀(j:Nat) G,j<z.1->z.2.1[j]? =some G->xA z.2.2.1 (Cf w z.2.2.2) G (0,0)),?_,?_⟩
 ·intro O J r;exact⟨(0,List.replicate n JR,J,_),⟨aP _,L.tr r.cG,aa,fun G hc=>by rw[bN hc];rfl,fun G hc k=>by rw[bN hc];cases k<;>rfl,fun j G hj=>by omega⟩,Sub.gn [] r⟩
 clear L;rintro⟨i,U,w1,iv⟩ ⟨N,L,OZ,M6,LD,hE⟩;dsimp only at N L OZ M6 LD hE ⊢;have LN:=gj M6;refine ct.mk ?_ ?_<;>intro Kp
 ·have Kp:i<n:=by simpa using Kp
  refine bp (cE L (fun _ J v Y=>cI Y (Nf J Y) v ((0:Int):Rat)) (fun O J r=>jT 0 J (by decide) (by decide)) ?_);rintro O _ _ _ NM r Z L h_ A;replace hE:=B1.bu hE r (bo w) Z (mC h_);have Kw:=A.df (S:=FF) r.bs (mN h_);clear r Z A;obtain⟨A0,A1,A2,A3,A4,A5,A6,A7,rfl⟩:=Kw.shape;refine bp (cE L (fun _ J v Y=>cI Y (Nf J Y) v ((0:Int):Rat)) (fun O J r=>jT 0 J (by decide) (by decide)) ?_);rintro O _ _ Mh PE r Z L h_ A;replace hE:=B1.bu hE r (bo w) Z (mC h_);replace Kw:=Kw.bu r (bo w) Z (mC h_);have LQ:=A.df (S:=FF) r.bs (mN h_);clear r Z A;obtain⟨C0,C1,C2,C3,C4,C5,C6,C7,rfl⟩:=LQ.shape;refine⟨by omega,?_⟩;obtain⟨c0,Mt⟩:∃c,U[i]? =some c:=⟨_,aA (by omega)⟩
  have Q1:=aD Mt;have hd8:=Jr (M6 c0 Q1);rw[LD c0 Q1,LD c0 Q1]at hd8;have RT:=l8 (off:=0+(i:Int).toNat*10+0) (nv:=[.bool A0,.slice A1 A2 A3,.bool A4,.slice A5 A6 A7,.bool C0,.slice C1 C2 C3,.bool C4,.slice C5 C6 C7]) (m:=8) (o:=0) M6 Mt (by omega) rfl (by decide);rw[hd8]at RT;have RT:_=(U.set i [.bool A0,.slice A1 A2 A3,.bool A4,.slice A5 A6 A7,.bool C0,.slice C1 C2 C3,.bool C4,.slice C5 C6 C7,.slice none 0 0,.slice none 0 0]).flatten:=RT;refine⟨by omega,_,RT,((i+1:Nat):Int),wo,?_⟩;have Kr:xA Mh (Cf w PE) [.bool A0,.slice A1 A2 A3,.bool A4,.slice A5 A6 A7,.bool C0,.slice C1 C2 C3,.bool C4,.slice C5 C6 C7,.slice none 0 0,.slice none 0 0] (0,0):=⟨_,_,_,_,rfl,⟨_,_,_,_,_,_,_,_,rfl,Kw⟩,⟨_,_,_,_,_,_,_,_,rfl,LQ⟩⟩
  intro In w6 D;refine⟨(i+1,U.set i [.bool A0,.slice A1 A2 A3,.bool A4,.slice A5 A6 A7,.bool C0,.slice C1 C2 C3,.bool C4,.slice C5 C6 C7,.slice none 0 0,.slice none 0 0],w6,_),⟨Kp,L.tr D.cG,by rw[bH];exact OZ,fun d hd=>?_,fun d hd k=>?_,fun j d hj hd=>?_⟩,Sub.gn [] D,by dsimp only;omega⟩
  ·rcases bB hd with h|rfl
   ·exact M6 d h
   ·rfl
  ·rcases bB hd with h|rfl
   ·exact LD d h k
   ·cases k<;>rfl
  ·have W:∀g,Cf w PE g->w6.heap[g]? =Mh.heap[g]? /\Cf w PE g:=fun g R=>⟨Rel.same D (bo w) R,R⟩
   dsimp only at hd hj;rw[List.getElem?_set]at hd;split at hd
   ·split at hd
    ·injection hd with hd;subst hd;exact Kr.map W
    ·cases hd
   ·exact(hE j d (by omega) hd).map W
 have Kp:i=n:=aS N (by simpa using Kp);rw[Kp]at hE
 have hM:iu w1 (Os U w.heap.size iv) U (eK n [] 0):=⟨by rw[OZ];exact List.length_replicate.symm,fun j d e V I=>by
  have I:(List.replicate n (((0,0),[],[]):gR))[j]? =some e:=I;rw[List.getElem?_replicate]at I;split at I
  ·injection I with I;subst I;exact(hE j d (by assumption) V).map fun g R=>⟨rfl,Os.nil LD R⟩
  ·cases I⟩
 have hZ:Rz w1 w.heap.size iv U (eK n [] 0):=Rz.nil OZ LD;have hR:Ja (eK n [] 0) (153*0+2) 0:=fun e Z=>by
  rw[bN Z];exact⟨by decide,by decide,by decide,by decide⟩
 clear hE LD Kp N LN M6 OZ
 refine⟨Nat×List (List Value)×List (List Rat)×World×Iv,fun z=>⟨[(1,sV ac G.length cc),(2,pP 0 0),(7,.o (.s 1 0 n n)),(43,sV ac G.length cc),(44,iZ G.length),(45,iN z.1)],[(1,.arr T.Envelope z.2.1.flatten),(0,.box T.Frame [.v (.slice an f.nodes.length cn),.v (.slice ab f.bars.length cb),.v (.slice aq f.cJ.length cq)])],2,z.2.2.2.2,z.2.2.2.1⟩,fun z=>G.length-z.1,
  fun z=>z.1<=G.length/\dO w.heap.size w z.2.2.2.1/\kP f G z.2.2.1/\z.2.2.1.length=z.1/\iu z.2.2.2.1 (Os z.2.1 w.heap.size z.2.2.2.2) z.2.1 (eK n z.2.2.1 z.1)/\Rz z.2.2.2.1 w.heap.size z.2.2.2.2 z.2.1 (eK n z.2.2.1 z.1)/\Ja (eK n z.2.2.1 z.1) (153*z.1+2) z.1,?_,?_⟩
 ·intro O J D;exact⟨(0,U,[],J,_),⟨aP _,L.tr D.cG,fun c x F=>by simp at F,rfl,hM.rel D,hZ.rel D,hR⟩,Sub.gn [] D⟩
 clear L hM hZ hR;rintro⟨i,U,F9,w1,iv⟩ ⟨N,L,hX,RK,hM,hZ,hR⟩;dsimp only at N L hX RK hM hZ hR ⊢;refine ct.mk ?_ ?_<;>intro Kp
 ·have Kp:i<G.length:=by simpa using Kp
  obtain⟨x,F⟩:∃x,G[i]? =some x:=⟨_,aA Kp⟩
  obtain⟨adm,um,Nk,Lj,km1,km2⟩:=dZ.load hC F;obtain⟨al,cl,rfl,-,ND⟩:=Lj.shape;refine⟨adm,Nk,by omega,.slice al x.length cl,rd1 km2 L (X _ km1),?_⟩;refine cC hτ eG [.x 0,.x 1,.x 2,.x 3,.x 4,.x 5,.x 6,.x 7,.x 8,.x 9] (by kernel_rfl) (by kernel_rfl) ?_;have Ni:gP f.nodes.length x:=Lo i x F;have RS:=jW f x;refine cE L (fun _ J v Y=>cF Y (Nf J Y) v (gg f x)/\∀q∈gg f x,rl q<=1) (fun O J r=>(yY (oS X r) (dQ.br Lj (kS L r X)) Nx.n Ni rfl rfl).mono fun _ _ ⟨v2,e1,e2,e3,e4⟩=>⟨v2,e1,e2,cF.bw e3.c fun g R=>R.new,e4⟩) ?_;rintro O _ _ _ Pv r Z L h_ ⟨A,hvq⟩;replace hM:=iu.bu hM r (bo w) Z (mC h_);replace hZ:=Rz.bu hZ r (bo w) Z (mC h_);have hP:=cF.df (S:=FF) A r.bs (mN h_);clear r Z;clear A;obtain⟨ap,cp,rfl,-,-⟩:=eE.shape hP;rw[RS];obtain⟨o,ho⟩:∃o,ff (cK f) (cz (gg f x) (-1)) f.cols=o:=⟨_,rfl⟩
  cases o with
  |none=>
   refine cE L (fun _ J v Y=>v= .tuple #[.slice none 0 0,.bool false]) (fun O J r=>(sU (S:=fun g=>S g\/Cf w Pv g) (fun g R=>R.elim (oS X r g) (Rel.old r (bo w) g)) (dN.bw (hf.br (kS L r X)) fun g R=>.inl R) Mu Lb (cF.bw (by have:=cF.rel hP r (bo w);rw[RS]at this;exact this) fun g R=>.inr R) RS (fun q hq=>by have:=hvq q hq;omega) (sW Ni)).mono fun _ _ ⟨v2,e1,e2,e3⟩=>⟨v2,e1,e2,e3.elim (fun g=>g.2) fun⟨x2,vx,g,_⟩=>by obtain⟨z,hz⟩:=lN (fH f) (x:=fun t=>x2.getD t 0) g.eq;rw[ho]at hz;cases hz⟩) ?_;rintro O Q2 v22 Q3 iv22 r Z L h_ rfl;clear hM;clear hZ;clear hP;clear r Z;have NZ:xD f G:=⟨i,x,F,ho⟩
   exact rtn L fun I' we re=>.inr ⟨EE,.inl ⟨NZ,rfl⟩⟩
  |some x0=>
   obtain⟨c,-,-,hy⟩:=Lb.Au.force (fl:=cX f) ho;obtain⟨y,hye⟩:∃y,j6 (cH (cK f) f.cols) c x0 (cH (cK f) f.cols).length=y:=⟨_,rfl⟩
   rw[hye]at hy;clear hye;have hyr:=Lb.GD (sW Ni) (by rw[cz,aK,jW,fE]) hy;have RB:=hy.len;refine bz (Id:=fun _ J v Y=>∃vx,v= .tuple #[vx,.bool true]/\cF Y (Nf J Y) vx y) (fun O J r=>(sU (S:=fun g=>S g\/Cf w Pv g) (fun g R=>R.elim (oS X r g) (Rel.old r (bo w) g)) (dN.bw (hf.br (kS L r X)) fun g R=>.inl R) Mu Lb (cF.bw (by have:=cF.rel hP r (bo w);rw[RS]at this;exact this) fun g R=>.inr R) RS (fun q hq=>by have:=hvq q hq;omega) (sW Ni)).mono fun _ _ ⟨v2,e1,e2,e3⟩=>⟨v2,e1,e2,e3.elim (fun g=>by rw[ho]at g;cases g.1) fun⟨x2,vx,g,k1,k2⟩=>⟨vx,k1,Lb.Au.one g hy▸k2⟩⟩) ?_;rintro O Q2 v22 Q3 r Z hb ⟨vy,rfl,A⟩;replace L:=L.tr hb;replace hM:=iu.bu (E:=(Q2.heap.size,Q3.heap.size)::Pv) hM r (bo w) Z fun x F=>aB _ F;clear hP;have hY:=cF.bw (S':=Os U w.heap.size ((Q2.heap.size,Q3.heap.size)::Pv)) A fun g R=>Os.df hZ r r.bs aH R;have PK:=Rz.bu (E:=(Q2.heap.size,Q3.heap.size)::Pv) hZ r (bo w) Z fun x F=>aB _ F;clear r Z hb;generalize (Q2.heap.size,Q3.heap.size)::Pv=iv22 at*
   clear hZ;have hZ:=PK;clear PK;clear A;obtain⟨ay,cy,rfl,-,-⟩:=eE.shape hY;obtain⟨E0,hE0⟩:∃G8,eK n F9 i=G8:=⟨_,rfl⟩
   have hEl:E0.length=n:=by rw[<-hE0,iY]
   rw[hE0]at hM hZ hR;have OW:y.length=n:=by omega
   refine⟨Nat×List (List Value)×World×Iv,fun z=>⟨[(1,sV ac G.length cc),(2,pP 0 0),(7,.o (.s 1 0 n n)),(43,sV ac G.length cc),(44,iZ G.length),(45,iN i),(9,iN i),(60,sV ay y.length cy),(61,iZ y.length),(62,iN z.1)],[(1,.arr T.Envelope z.2.1.flatten),(0,.box T.Frame [.v (.slice an f.nodes.length cn),.v (.slice ab f.bars.length cb),.v (.slice aq f.cJ.length cq)])],2,z.2.2.2,z.2.2.1⟩,fun z=>n-z.1,
    fun z=>z.1<=n/\dO w.heap.size w z.2.2.1/\cF z.2.2.1 (Os z.2.1 w.heap.size z.2.2.2) (.slice ay y.length cy) y/\iu z.2.2.1 (Os z.2.1 w.heap.size z.2.2.2) z.2.1 (gL E0 y i z.1)/\Rz z.2.2.1 w.heap.size z.2.2.2 z.2.1 (gL E0 y i z.1),?_,?_⟩
   ·intro O J D;exact⟨(0,U,J,_),⟨aP _,L.tr D.cG,lY.map hY fun g R=>⟨Os.same D R,R⟩,hM.rel D,hZ.rel D⟩,Sub.gn [] D⟩
   clear L hY hM hZ;rintro⟨j,U,w1,iv⟩ ⟨hj,L,hY,hM,hZ⟩;dsimp only at hj L hY hM hZ ⊢;have M6:=hM.wid;have LN:=gj M6;have OZ:U.length=n:=by rw[hM.1,iO,hEl]
   refine ct.mk ?_ ?_<;>intro Lu
   ·have Lu:j<n:=by
     have:j<y.length:=by simpa using Lu
     omega
    obtain⟨q,hq⟩:∃q,y[j]? =some q:=⟨_,aA (by omega)⟩
    have hqr:=hyr q (aD hq);obtain⟨adq,csq,Om,Lf,-,hlq⟩:=eE.load hY hq;obtain⟨q0,q1,q2,q3,q4,q5,q6,q7,rfl,Lf⟩:=Lf;obtain⟨e,Z⟩:∃e,(gL E0 y i j)[j]? =some e:=⟨_,aA (by rw[iO];omega)⟩
    have her:=vq (z:=i) hR hyr j e (aD Z);have MA:=B4 Z hq;obtain⟨c0,Mt⟩:∃c,U[j]? =some c:=⟨_,aA (by omega)⟩
    refine⟨adq,Om,by omega,[.bool q0,.slice q1 q2 q3,.bool q4,.slice q5 q6 q7],rfl,fun O J r j u hu=>?_,?_⟩
    ·obtain⟨k1,k2⟩:=hlq j u hu;rw[aG,cA (w:=w1) (Y:=J) (by rw[dP,dP];exact Os.same r k1)];exact k2
    refine⟨by omega,?_⟩;have Pn:=FR q;by_cases MK:q<0
    ·conv=>whnf
     refine bp (cE L (fun _ J v Y=>v= .int .i64 (-1)) (fun O J r=>(j3 (S:=Os U w.heap.size iv) (q:=0) (fun g R=>Os.old r R) ((lZ.map Lf fun g R=>⟨Os.same r R,R⟩).l (by omega)).v eP.zero.v).mono fun _ _ ⟨v2,e1,e2,e3⟩=>⟨v2,e1,e2,by rw[e3,iV,show rs q= -1 by have:=iM.2 MK;omega]⟩) ?_);rintro O wa41 v41 wb41 Lz r Z L h_ rfl;replace hM:=iu.bu hM r (bo w) Z (mC h_);replace hZ:=Rz.bu hZ r (bo w) Z (mC h_);replace hY:=lY.bu hY r (bo w) Z (mC h_);replace Lf:=lZ.bu Lf r (bo w) Z (mC h_);clear r Z;obtain⟨lo,OG,vl,vh,rfl,⟨l0,l1,l2,l3,l4,l5,l6,l7,rfl,RU⟩,⟨h0_,h1_,h2_,h3_,h4_,h5_,h6_,h7_,rfl,RV⟩⟩:=hM.2 j c0 e Mt Z;have Q1:=aD Mt;obtain⟨k1,k2⟩:=hZ.row j _ e false Mt Z;obtain⟨al_,cl_,rfl,OS⟩:∃a c,vl= .slice a (ia e false).length c/\(ia e false).length<=c:=fQ k1;have hll:(ia e false).length<=i+1:=her.2.2.1;clear k1 k2;refine cC hτ eG [.x 0,.x 1,.x 2,.x 3,.x 4,.x 5,.x 6,.x 7,.x 9,.x 10,.x 11,.x 12,.x 13,.p 14,.x 8,.x 14,.x 15,.x 16,.x 17,.x 18,.x 19,.x 20,.x 21,.x 22] (by kernel_rfl) (by kernel_rfl) ?_;refine⟨[.bool l0,.slice l1 l2 l3,.bool l4,.slice l5 l6 l7],by rw[xC (j:=j) (o:=0) M6 Mt (by omega) (by decide)];rfl,rfl,_,yf (j:=j) (o:=8) M6 Mt (by omega) rfl,?_⟩;refine bz (Id:=fun _ J v Y=>cI Y (Nf J Y) v (e.1.1+q)) (fun O J r=>zZ (S:=Os U w.heap.size Lz) (fun g R=>Os.old r R) ((lZ.map RU fun g R=>⟨Os.same r R,R⟩).l (by omega)).v ((lZ.map Lf fun g R=>⟨Os.same r R,R⟩).l (by omega)).v) ?_;rintro O Mi v42 Mj r Z hb A;replace L:=L.tr hb;replace hM:=iu.bu (E:=(Mi.heap.size,Mj.heap.size)::Lz) hM r (bo w) Z fun x F=>aB _ F;replace hY:=lY.bu (E:=(Mi.heap.size,Mj.heap.size)::Lz) hY r (bo w) Z fun x F=>aB _ F;clear Lf;replace RU:=lZ.bu (E:=(Mi.heap.size,Mj.heap.size)::Lz) RU r (bo w) Z fun x F=>aB _ F;replace RV:=lZ.bu (E:=(Mi.heap.size,Mj.heap.size)::Lz) RV r (bo w) Z fun x F=>aB _ F;have hs:=cI.bw (S':=Os U w.heap.size ((Mi.heap.size,Mj.heap.size)::Lz)) A fun g R=>Os.df hZ r r.bs aH R;have PK:=Rz.bu (E:=(Mi.heap.size,Mj.heap.size)::Lz) hZ r (bo w) Z fun x F=>aB _ F;clear r Z hb;generalize (Mi.heap.size,Mj.heap.size)::Lz=RW at*
     clear hZ A;obtain⟨s0,s1,s2,s3,s4,s5,s6,s7,rfl⟩:=hs.shape;have Oy:=PK.row j _ e false Mt Z
     refine .inr (lk hτ (aP _) (xs:=zv (ia e false)) (news:=[.int .i64 (i:Int)]) (m:=(ia e false).length) (k:=1) (by rfl) (by rfl) (by decide) (by rfl) (by rfl) (fun O J r=>⟨ownsRow.br Oy.1 fun g R=>Rel.same r (bo w) (Oy.2 g R),fun g R=>Rel.not r (bo w) (Oy.2 g R)⟩) rfl (by simp;rfl) (by unfold maxLen;omega) (by omega)
      (fun O J r=>?_) (fun v' Y=>jY v'++RW) (fun O J v' Y r LL M7=>Gu r (fun g R=>Rel.not r (bo w) (Oy.2 g R)) LL M7) (fun O J v' Y r h5 h6 h7=>?_))
     ·exact(gi.src (r.sX (id:=3) (sz:=1) (n:=1) rfl rfl (by decide) (by simp;rfl)) (by decide)).imp id fun⟨ad,c,e1,e2⟩=>⟨ad,c,e1,fun j u hu=>(e2 j u hu).2⟩
     obtain⟨an_,cn_,rfl,-⟩:=fQ h5;have hcA:(U.set j [.bool s0,.slice s1 s2 s3,.bool s4,.slice s5 s6 s7,.bool h0_,.slice h1_ h2_ h3_,.bool h4_,.slice h5_ h6_ h7_,.slice al_ (ia e false).length cl_,vh])[j]? =some [.bool s0,.slice s1 s2 s3,.bool s4,.slice s5 s6 s7,.bool h0_,.slice h1_ h2_ h3_,.bool h4_,.slice h5_ h6_ h7_,.slice al_ (ia e false).length cl_,vh]:=by rw[aR (by omega)]
     have hwA:∀d∈U.set j [.bool s0,.slice s1 s2 s3,.bool s4,.slice s5 s6 s7,.bool h0_,.slice h1_ h2_ h3_,.bool h4_,.slice h5_ h6_ h7_,.slice al_ (ia e false).length cl_,vh],d.length=10:=fun d hd=>(bB hd).elim (M6 d) fun h=>by rw[h];rfl
     have Q4:_=(U.set j [.bool s0,.slice s1 s2 s3,.bool s4,.slice s5 s6 s7,.bool h0_,.slice h1_ h2_ h3_,.bool h4_,.slice h5_ h6_ h7_,.slice al_ (ia e false).length cl_,vh]).flatten:=l8 (off:=0+(j:Int).toNat*10+0+0) (nv:=[.bool s0,.slice s1 s2 s3,.bool s4,.slice s5 s6 s7]) (m:=4) (o:=0) M6 Mt (by omega) rfl (by decide);have Oa:_=((U.set j [.bool s0,.slice s1 s2 s3,.bool s4,.slice s5 s6 s7,.bool h0_,.slice h1_ h2_ h3_,.bool h4_,.slice h5_ h6_ h7_,.slice al_ (ia e false).length cl_,vh]).set j [.bool s0,.slice s1 s2 s3,.bool s4,.slice s5 s6 s7,.bool h0_,.slice h1_ h2_ h3_,.bool h4_,.slice h5_ h6_ h7_,.slice an_ ((ia e false).length+1) cn_,vh]).flatten:=l8 (off:=0+(j:Int).toNat*10+8) (nv:=[.slice an_ ((ia e false).length+1) cn_]) (m:=1) (o:=8) hwA hcA (by omega) rfl (by decide);rw[List.set_set]at Oa;obtain⟨hZ3,Q5⟩:=Rz.app (cs2:=[.bool s0,.slice s1 s2 s3,.bool s4,.slice s5 s6 s7,.bool h0_,.slice h1_ h2_ h3_,.bool h4_,.slice h5_ h6_ h7_,.slice an_ ((ia e false).length+1) cn_,vh]) (e2:=((e.1.1+q,e.1.2),e.2.1++[(i:Int)],e.2.2)) (k:=false) PK r r.bs Mt Z rfl rfl rfl rfl h5 h6 h7;have hM3:=iu.set (a:=j) (G:=[.bool s0,.slice s1 s2 s3,.bool s4,.slice s5 s6 s7,.bool h0_,.slice h1_ h2_ h3_,.bool h4_,.slice h5_ h6_ h7_,.slice an_ ((ia e false).length+1) cn_,vh]) (e:=((e.1.1+q,e.1.2),e.2.1++[(i:Int)],e.2.2)) (hM.map Q5) ⟨_,_,_,_,rfl,⟨_,_,_,_,_,_,_,_,rfl,lZ.map hs Q5⟩,⟨_,_,_,_,_,_,_,_,rfl,lZ.map RV Q5⟩⟩;have hY3:=lY.map hY Q5;have hw3:dO w.heap.size w Y:=(L.tr r.cG).tr (dO.grown h6 (fun g R=>(Oy.2 g R).elim (fun h=>h.elim) fun h=>h.1) r.bs);have MG:ei e q i=((e.1.1+q,e.1.2),e.2.1++[(i:Int)],e.2.2):=by rw[ei,if_pos MK]
     rw[<-MG,<-MA]at hZ3 hM3;have NG:(U.set j [.bool s0,.slice s1 s2 s3,.bool s4,.slice s5 s6 s7,.bool h0_,.slice h1_ h2_ h3_,.bool h4_,.slice h5_ h6_ h7_,.slice al_ (ia e false).length cl_,vh]).flatten.length=U.length*10:=by rw[gj hwA,bH]
     clear hM hY PK hs RU RV Oy h5 h6 h7 L Q5 r;refine⟨by omega,_,Q4,by omega,_,Oa,((j+1:Nat):Int),wo,?_⟩;intro In w6 D;exact⟨(j+1,U.set j [.bool s0,.slice s1 s2 s3,.bool s4,.slice s5 s6 s7,.bool h0_,.slice h1_ h2_ h3_,.bool h4_,.slice h5_ h6_ h7_,.slice an_ ((ia e false).length+1) cn_,vh],w6,_),⟨Lu,hw3.tr D.cG,lY.map hY3 fun g R=>⟨Os.same D R,R⟩,hM3.rel D,hZ3.rel D⟩,Sub.gn [] D,by dsimp only;omega⟩
    by_cases LU:0<q
    ·conv=>whnf
     refine bp (cE L (fun _ J v Y=>v= .int .i64 (1)) (fun O J r=>(j3 (S:=Os U w.heap.size iv) (q:=0) (fun g R=>Os.old r R) ((lZ.map Lf fun g R=>⟨Os.same r R,R⟩).l (by omega)).v eP.zero.v).mono fun _ _ ⟨v2,e1,e2,e3⟩=>⟨v2,e1,e2,by rw[e3,iV,show rs q=1 by have:=jD.2 LU;omega]⟩) ?_);rintro O wa41 v41 wb41 Lz r Z L h_ rfl;replace hM:=iu.bu hM r (bo w) Z (mC h_);replace hZ:=Rz.bu hZ r (bo w) Z (mC h_);replace hY:=lY.bu hY r (bo w) Z (mC h_);replace Lf:=lZ.bu Lf r (bo w) Z (mC h_);clear r Z;obtain⟨lo,OG,vl,vh,rfl,⟨l0,l1,l2,l3,l4,l5,l6,l7,rfl,RU⟩,⟨h0_,h1_,h2_,h3_,h4_,h5_,h6_,h7_,rfl,RV⟩⟩:=hM.2 j c0 e Mt Z;have Q1:=aD Mt;obtain⟨k1,k2⟩:=hZ.row j _ e true Mt Z;obtain⟨al_,cl_,rfl,OS⟩:∃a c,vh= .slice a (ia e true).length c/\(ia e true).length<=c:=fQ k1;have hll:(ia e true).length<=i+1:=her.2.2.2;clear k1 k2;refine cC hτ eG [.x 0,.x 1,.x 2,.x 3,.x 4,.x 5,.x 6,.x 7,.x 9,.x 10,.x 11,.x 12,.x 13,.p 14,.x 8,.x 14,.x 15,.x 16,.x 17,.x 18,.x 19,.x 20,.x 21,.x 22] (by kernel_rfl) (by kernel_rfl) ?_;refine⟨[.bool h0_,.slice h1_ h2_ h3_,.bool h4_,.slice h5_ h6_ h7_],by rw[xC (j:=j) (o:=4) M6 Mt (by omega) (by decide)];rfl,rfl,_,yf (j:=j) (o:=9) M6 Mt (by omega) rfl,?_⟩;refine bz (Id:=fun _ J v Y=>cI Y (Nf J Y) v (e.1.2+q)) (fun O J r=>zZ (S:=Os U w.heap.size Lz) (fun g R=>Os.old r R) ((lZ.map RV fun g R=>⟨Os.same r R,R⟩).l (by omega)).v ((lZ.map Lf fun g R=>⟨Os.same r R,R⟩).l (by omega)).v) ?_;rintro O Mi v42 Mj r Z hb A;replace L:=L.tr hb;replace hM:=iu.bu (E:=(Mi.heap.size,Mj.heap.size)::Lz) hM r (bo w) Z fun x F=>aB _ F;replace hY:=lY.bu (E:=(Mi.heap.size,Mj.heap.size)::Lz) hY r (bo w) Z fun x F=>aB _ F;clear Lf;replace RU:=lZ.bu (E:=(Mi.heap.size,Mj.heap.size)::Lz) RU r (bo w) Z fun x F=>aB _ F;replace RV:=lZ.bu (E:=(Mi.heap.size,Mj.heap.size)::Lz) RV r (bo w) Z fun x F=>aB _ F;have hs:=cI.bw (S':=Os U w.heap.size ((Mi.heap.size,Mj.heap.size)::Lz)) A fun g R=>Os.df hZ r r.bs aH R;have PK:=Rz.bu (E:=(Mi.heap.size,Mj.heap.size)::Lz) hZ r (bo w) Z fun x F=>aB _ F;clear r Z hb;generalize (Mi.heap.size,Mj.heap.size)::Lz=RW at*
     clear hZ A;obtain⟨s0,s1,s2,s3,s4,s5,s6,s7,rfl⟩:=hs.shape;have Oy:=PK.row j _ e true Mt Z
     refine .inr (lk hτ (aP _) (xs:=zv (ia e true)) (news:=[.int .i64 (i:Int)]) (m:=(ia e true).length) (k:=1) (by rfl) (by rfl) (by decide) (by rfl) (by rfl) (fun O J r=>⟨ownsRow.br Oy.1 fun g R=>Rel.same r (bo w) (Oy.2 g R),fun g R=>Rel.not r (bo w) (Oy.2 g R)⟩) rfl (by simp;rfl) (by unfold maxLen;omega) (by omega)
      (fun O J r=>?_) (fun v' Y=>jY v'++RW) (fun O J v' Y r LL M7=>Gu r (fun g R=>Rel.not r (bo w) (Oy.2 g R)) LL M7) (fun O J v' Y r h5 h6 h7=>?_))
     ·exact(gi.src (r.sX (id:=3) (sz:=1) (n:=1) rfl rfl (by decide) (by simp;rfl)) (by decide)).imp id fun⟨ad,c,e1,e2⟩=>⟨ad,c,e1,fun j u hu=>(e2 j u hu).2⟩
     obtain⟨an_,cn_,rfl,-⟩:=fQ h5;have hcA:(U.set j [.bool l0,.slice l1 l2 l3,.bool l4,.slice l5 l6 l7,.bool s0,.slice s1 s2 s3,.bool s4,.slice s5 s6 s7,vl,.slice al_ (ia e true).length cl_])[j]? =some [.bool l0,.slice l1 l2 l3,.bool l4,.slice l5 l6 l7,.bool s0,.slice s1 s2 s3,.bool s4,.slice s5 s6 s7,vl,.slice al_ (ia e true).length cl_]:=by rw[aR (by omega)]
     have hwA:∀d∈U.set j [.bool l0,.slice l1 l2 l3,.bool l4,.slice l5 l6 l7,.bool s0,.slice s1 s2 s3,.bool s4,.slice s5 s6 s7,vl,.slice al_ (ia e true).length cl_],d.length=10:=fun d hd=>(bB hd).elim (M6 d) fun h=>by rw[h];rfl
     have Q4:_=(U.set j [.bool l0,.slice l1 l2 l3,.bool l4,.slice l5 l6 l7,.bool s0,.slice s1 s2 s3,.bool s4,.slice s5 s6 s7,vl,.slice al_ (ia e true).length cl_]).flatten:=l8 (off:=0+(j:Int).toNat*10+0+4) (nv:=[.bool s0,.slice s1 s2 s3,.bool s4,.slice s5 s6 s7]) (m:=4) (o:=4) M6 Mt (by omega) rfl (by decide);have Oa:_=((U.set j [.bool l0,.slice l1 l2 l3,.bool l4,.slice l5 l6 l7,.bool s0,.slice s1 s2 s3,.bool s4,.slice s5 s6 s7,vl,.slice al_ (ia e true).length cl_]).set j [.bool l0,.slice l1 l2 l3,.bool l4,.slice l5 l6 l7,.bool s0,.slice s1 s2 s3,.bool s4,.slice s5 s6 s7,vl,.slice an_ ((ia e true).length+1) cn_]).flatten:=l8 (off:=0+(j:Int).toNat*10+9) (nv:=[.slice an_ ((ia e true).length+1) cn_]) (m:=1) (o:=9) hwA hcA (by omega) rfl (by decide);rw[List.set_set]at Oa;obtain⟨hZ3,Q5⟩:=Rz.app (cs2:=[.bool l0,.slice l1 l2 l3,.bool l4,.slice l5 l6 l7,.bool s0,.slice s1 s2 s3,.bool s4,.slice s5 s6 s7,vl,.slice an_ ((ia e true).length+1) cn_]) (e2:=((e.1.1,e.1.2+q),e.2.1,e.2.2++[(i:Int)])) (k:=true) PK r r.bs Mt Z rfl rfl rfl rfl h5 h6 h7;have hM3:=iu.set (a:=j) (G:=[.bool l0,.slice l1 l2 l3,.bool l4,.slice l5 l6 l7,.bool s0,.slice s1 s2 s3,.bool s4,.slice s5 s6 s7,vl,.slice an_ ((ia e true).length+1) cn_]) (e:=((e.1.1,e.1.2+q),e.2.1,e.2.2++[(i:Int)])) (hM.map Q5) ⟨_,_,_,_,rfl,⟨_,_,_,_,_,_,_,_,rfl,lZ.map RU Q5⟩,⟨_,_,_,_,_,_,_,_,rfl,lZ.map hs Q5⟩⟩;have hY3:=lY.map hY Q5;have hw3:dO w.heap.size w Y:=(L.tr r.cG).tr (dO.grown h6 (fun g R=>(Oy.2 g R).elim (fun h=>h.elim) fun h=>h.1) r.bs);have MG:ei e q i=((e.1.1,e.1.2+q),e.2.1,e.2.2++[(i:Int)]):=by rw[ei,aF MK,if_pos LU]
     rw[<-MG,<-MA]at hZ3 hM3;have NG:(U.set j [.bool l0,.slice l1 l2 l3,.bool l4,.slice l5 l6 l7,.bool s0,.slice s1 s2 s3,.bool s4,.slice s5 s6 s7,vl,.slice al_ (ia e true).length cl_]).flatten.length=U.length*10:=by rw[gj hwA,bH]
     clear hM hY PK hs RU RV Oy h5 h6 h7 L Q5 r;refine⟨by omega,_,Q4,by omega,_,Oa,((j+1:Nat):Int),wo,?_⟩;intro In w6 D;exact⟨(j+1,U.set j [.bool l0,.slice l1 l2 l3,.bool l4,.slice l5 l6 l7,.bool s0,.slice s1 s2 s3,.bool s4,.slice s5 s6 s7,vl,.slice an_ ((ia e true).length+1) cn_],w6,_),⟨Lu,hw3.tr D.cG,lY.map hY3 fun g R=>⟨Os.same D R,R⟩,hM3.rel D,hZ3.rel D⟩,Sub.gn [] D,by dsimp only;omega⟩
    have RJ:q=0:=by grind
    refine bp (cE L (fun _ J v Y=>v= .int .i64 (0)) (fun O J r=>(j3 (S:=Os U w.heap.size iv) (q:=0) (fun g R=>Os.old r R) ((lZ.map Lf fun g R=>⟨Os.same r R,R⟩).l (by omega)).v eP.zero.v).mono fun _ _ ⟨v2,e1,e2,e3⟩=>⟨v2,e1,e2,by rw[e3,iV,zY.2 RJ]⟩) ?_);rintro O _ _ _ Lz r Z L h_ rfl;replace hM:=iu.bu hM r (bo w) Z (mC h_);replace hZ:=Rz.bu hZ r (bo w) Z (mC h_);replace hY:=lY.bu hY r (bo w) Z (mC h_);replace Lf:=lZ.bu Lf r (bo w) Z (mC h_);clear r Z;have MG:ei e q i=e:=by rw[ei,aF MK,aF LU]
    rw[MG,Gw Z]at MA;rw[<-MA]at hM hZ;refine⟨((j+1:Nat):Int),wo,?_⟩;intro In w6 D;exact⟨(j+1,U,w6,_),⟨Lu,L.tr D.cG,lY.map hY fun g R=>⟨Os.same D R,R⟩,hM.rel D,hZ.rel D⟩,Sub.gn [] D,by dsimp only;omega⟩
   have Lu:j=n:=by
    have:¬j<y.length:=by simpa using Lu
    omega
   have hX2:=hX.push (by rw[RK];exact F) hy;have hps:=zl n F9 y;rw[RK,hE0]at hps;rw[Lu,<-hps]at hM hZ;have NJ:=vq (z:=i) hR hyr n;rw[<-hps]at NJ;refine⟨((i+1:Nat):Int),wo,?_⟩;intro In w6 D;exact⟨(i+1,U,F9++[y],w6,_),⟨Kp,L.tr D.cG,hX2,by dsimp only;rw[List.length_append,RK];rfl,hM.rel D,hZ.rel D,(show 153*i+2+153=153*(i+1)+2 by omega)▸NJ⟩,Sub.gn [] D,by dsimp only;omega⟩
 have Kp:i=G.length:=aS N (by simpa using Kp);subst Kp;have LN:=gj hM.wid;have OZ:U.length=n:=by rw[hM.1,iY]
 intro I' we re;refine⟨_,rfl,L.tr re.cG,.inr ⟨EE,.inr ⟨F9,_,hX,RK,rfl,?_⟩⟩⟩;have h5:=re.De (id:=1) (sz:=10) (m:=n) rfl (by rw[LN,OZ]) (by unfold maxLen;omega) (hM.one hZ);have h6:=IC (S:=Nf w we) (hM.rel re) (hZ.rel re) (fun g R=>Cv.nw R re) (h5.bw fun g R=>.inr R) (iY n F9 _);rw[A];exact h6
def c3(p:I3)(k:Nat):Int:=([p.1,p.2.1,p.2.2]:List Int).getD k 0
theorem JF(x:Ld)(k:Nat):(IW x).getD k 0=c3 x.2 k:=rfl
theorem CS{i j:Nat}{x:Int}:(l.set i x).getD j 0=if i=j/\i<l.length then x else l.getD j 0:=by
 rw[List.getD,List.getElem?_set,List.getD];split
 ·rename_i e;subst e;split
  ·rw[if_pos ⟨rfl,by assumption⟩];rfl
  ·rename_i h;rw[aF fun g=>h g.2,List.getElem?_eq_none (by omega)]
 ·rename_i e;rw[aF fun g=>e g.1]
theorem rz{s:List Int}{x:Ld}{n a b:Nat}(hs:s.length=3*n)(hb:x.1=(b:Int))(hbn:b<n){k:Nat}(W:k<3):∀j,j<=3->
  (fY s x j).getD (3*a+k) 0=s.getD (3*a+k) 0+if b=a/\k<j then c3 x.2 k else 0
 |0,_=>by rw[fY,aF (by omega)];omega
 |j+1,hj=>by
  have ih:=rz (a:=a) hs hb hbn W j (by omega);rw[fY,Ae,hb,show(3*(b:Int)+(j:Int)).toNat=3*b+j by omega,CS,mQ,hs,JF];by_cases e:3*b+j=3*a+k
  ·obtain⟨rfl,rfl⟩:b=a/\j=k:=by omega
   rw[if_pos (by omega),if_pos (by omega),ih,aF (by omega)];omega
  ·rw[aF (by omega),ih];by_cases g:b=a
   ·subst g;by_cases g2:k<j
    ·rw[if_pos (by omega),if_pos (by omega)]
    ·rw[aF (by omega),aF (by omega)]
   ·rw[aF (by omega),aF (by omega)]
theorem Hd{fa:Int}{x:Ld}{b a k:Nat}(hb:x.1=(b:Int))(W:k<3):c3 (r9 s fa x a) k=c3 (s a) k+fa*(if b=a/\k<3 then c3 x.2 k else 0):=by
 rw[r9];by_cases e:b=a
 ·subst e;rw[if_pos hb.symm,if_pos ⟨rfl,W⟩];rcases k with _|_|_|k
  ·rfl
  ·rfl
  ·rfl
  ·omega
 ·rw[aF (by omega),aF (by omega)];omega
theorem D4{s:Nat->I3}{fa:Int}{l:List Ld}{n a k:Nat}(Kt:gP n l)(W:k<3):∀i,i<=l.length->c3 (pc s fa l i a) k=c3 (s a) k+fa*(dw n l i).getD (3*a+k) 0
 |0,_=>by
  rw[pc,dw];have:(List.replicate (3*n) (0:Int)).getD (3*a+k) 0=0:=by
   rw[List.getD,List.getElem?_replicate];split<;>rfl
  rw[this];omega
 |i+1,N=>by
  obtain⟨x,F⟩:∃x,l[i]? =some x:=⟨_,aA (by omega)⟩
  obtain⟨⟨h0,V⟩,-⟩:=Kt.ld x (aD F);obtain⟨b,hb⟩:=Int.eq_ofNat_of_zero_le h0;have Pc:l.getD i (0,0,0,0)=x:=by rw[List.getD,F];rfl
  rw[pc,dw,Pc,Hd hb W,rz (iL n l i) hb (by omega) W 3 (aE _),D4 Kt W i (by omega),Int.mul_add];omega
theorem Aw{s:Nat->I3}{fa:Int}{l:List Ld}{n a:Nat}(Kt:gP n l)(ha:n<=a):∀i,i<=l.length->pc s fa l i a=s a
 |0,_=>rfl
 |i+1,N=>by
  obtain⟨x,F⟩:∃x,l[i]? =some x:=⟨_,aA (by omega)⟩
  obtain⟨⟨h0,V⟩,-⟩:=Kt.ld x (aD F);rw[pc,show l.getD i (0,0,0,0)=x by rw[List.getD,F];rfl,r9,aF (by omega)];exact Aw Kt ha i (by omega)
theorem sA{n a:Nat}{G:List (List Ld)}{fs:List Int}(Kt:∀l∈G,gP n l)(ha:n<=a):∀c,c<=G.length->e7 G fs c a=(0,0,0)
 |0,_=>rfl
 |c+1,hc=>by
  have hm:G.getD c []∈G:=by
   rw[List.getD,aA (show c<G.length by omega)];exact aV _
  rw[e7,Aw (Kt _ hm) ha _ (aE _)];exact sA Kt ha c (by omega)
def GF(n:Nat)(G:List (List Ld))(fs:List Int)(j:Nat):Nat->Int
 |0=>0
 |c+1=>GF n G fs j c+fs.getD c 0*(dw n (G.getD c []) (G.getD c []).length).getD j 0
theorem Ax{n a k:Nat}{G:List (List Ld)}{fs:List Int}(Kt:∀l∈G,gP n l)(W:k<3):∀c,c<=G.length->c3 (e7 G fs c a) k=GF n G fs (3*a+k) c
 |0,_=>by
  rcases k with _|_|_|k
  ·rfl
  ·rfl
  ·rfl
  ·omega
 |c+1,hc=>by
  have hm:G.getD c []∈G:=by
   rw[List.getD,aA (show c<G.length by omega)];exact aV _
  rw[e7,D4 (Kt _ hm) W _ (aE _),Ax Kt W c (by omega)];rfl
theorem vX(n:Nat)(l:List Ld)(x:Ld):∀i,i<=l.length->dw n (l++[x]) i=dw n l i
 |0,_=>rfl
 |i+1,N=>by
  rw[dw,dw,vX n l x i (by omega)];congr 1;rw[List.getD,aJ (by omega),<-List.getD]
theorem D5{s:Nat->I3}{n a k:Nat}(h0:∀m,n<=m->s m=(0,0,0))(W:k<3):∀F',(dw n (e9 s F') (e9 s F').length).getD (3*a+k) 0=if a<F' then c3 (s a) k else 0
 |0=>by
  rw[aF (by omega)];show(List.replicate (3*n) (0:Int)).getD (3*a+k) 0=0;rw[List.getD,List.getElem?_replicate];split<;>rfl
 |F'+1=>by
  have ih:=D5 (a:=a) h0 W F';have hz:c3 (0,0,0) k=0:=by
   rcases k with _|_|_|k
   ·rfl
   ·rfl
   ·rfl
   ·omega
  rw[e9];split
  ·rename_i e;rw[ih];by_cases h:a=F'
   ·subst h;rw[aF (by omega),if_pos (by omega),e,hz]
   ·by_cases I:a<F'
    ·rw[if_pos I,if_pos (by omega)]
    ·rw[aF I,aF (by omega)]
  ·rename_i e;have hN:F'<n:=by
    rcases aO F' n with h|h
    ·exact h
    ·exact absurd (h0 F' h) e
   rw[List.length_append,List.length_singleton,dw,vX n _ _ _ (aE _),show(e9 s F'++[((F':Int),s F')]).getD (e9 s F').length (0,0,0,0)=((F':Int),s F') by rw[List.getD,aN (aE _),bC];rfl,rz (b:=F') (iL _ _ _) rfl hN W 3 (aE _),ih];have e2:c3 ((F':Int),s F').2 k=c3 (s F') k:=rfl;by_cases h:F'=a
   ·subst h;rw[aF (Nat.lt_irrefl F'),if_pos (bV F'),if_pos ⟨rfl,W⟩,e2];omega
   ·by_cases I:a<F'
    ·rw[if_pos I,if_pos (show a<F'+1 by omega),aF (fun g=>h g.1)];omega
    ·rw[aF I,aF (show ¬a<F'+1 by omega),aF (fun g=>h g.1)];rfl
theorem vY{s:Nat->I3}{x:Ld}:∀F',x∈e9 s F'->∃m,m<F'/\x=((m:Int),s m)/\s m≠(0,0,0)
 |0,h=>by cases h
 |F'+1,h=>by
  rw[e9]at h;split at h
  ·obtain⟨m,V,I⟩:=vY F' h;exact⟨m,by omega,I⟩
  ·rename_i e;rcases bG.1 h with h|h
   ·obtain⟨m,V,I⟩:=vY F' h;exact⟨m,by omega,I⟩
   ·rw[bK]at h;exact⟨F',by omega,h,e⟩
theorem He{n:Nat}(Kt:∀l∈G,gP n l)(hb:∀m,m<20->Af (e7 G fs G.length m)):gP n (e9 (e7 G fs G.length) 20):=by
 refine⟨by have:=pe (e7 G fs G.length) 20;omega,fun x F=>?_⟩;obtain⟨m,V,rfl,I⟩:=vY 20 F;have hm:m<n:=by
  rcases aO m n with h|h
  ·exact h
  ·exact absurd (sA Kt h _ (aE _)) I
 obtain⟨⟨a1,a2⟩,⟨a3,a4⟩,a5,a6⟩:=hb m V;exact⟨⟨by omega,by omega⟩,⟨a1,a2⟩,⟨a3,a4⟩,a5,a6⟩
theorem GG(A:f.nodes.length<=20)(Kt:∀l∈G,gP f.nodes.length l)(j:Nat)(hj:j<3*f.nodes.length):
  (gg f (e9 (e7 G fs G.length) 20)).getD j 0=((GF f.nodes.length G fs j G.length:Int):Rat):=by
 have R:=D5 (s:=e7 G fs G.length) (n:=f.nodes.length) (a:=j / 3) (k:=j % 3) (fun m hm=>sA Kt hm _ (aE _)) (by omega) 20;rw[if_pos (by omega),Ax Kt (by omega) _ (aE _),show 3*(j / 3)+j % 3=j by omega]at R;rw[gg,dh,List.getD,aM];rw[List.getD]at R
 cases e:(dw f.nodes.length (e9 (e7 G fs G.length) 20) (e9 (e7 G fs G.length) 20).length)[j]? with
 |none=>
  have:=List.getElem?_eq_none_iff.1 e;rw[iL]at this;omega
 |some z=>
  rw[e]at R;rw[<-R];rfl
theorem GH(f:eS)(l:List Ld)(j:Nat):(gg f l).getD j 0=(((dw f.nodes.length l l.length).getD j 0:Int):Rat):=by
 rw[gg,dh,List.getD,aM,List.getD]
 cases (dw f.nodes.length l l.length)[j]? with
 |none=>rfl
 |some z=>rfl
theorem Hf{n:Nat}{b c d x y z:List Rat}{p:Rat}(F:gz M n J8 b x)(hy:gz M n J8 c y)(hd:∀j,j<M.length->d.getD j 0=b.getD j 0*p+c.getD j 0*q)(hl:z.length=n)(hz:∀t,t<n->z.getD t 0=x.getD t 0*p+y.getD t 0*q):gz M n J8 d z:=by
 refine⟨hl,fun j hj=>?_,fun k W=>?_⟩
 ·rw[mL (y:=fun t=>p*x.getD t 0+q*y.getD t 0) fun t ht=>by rw[hz t ht];grind,vM,vN,vN,F.eq j hj,hy.eq j hj,hd j hj];grind
 ·have V:=F.st k W;have I:=hy.st k W;unfold qZ at V I ⊢;rw[bq (g:=fun t=>p*(J8 t*(cT (cH M n) k t*x.getD t 0))+q*(J8 t*(cT (cH M n) k t*y.getD t 0))) fun t ht=>by dsimp only;rw[hz t ht];grind,fN,da,da,V,I];grind
theorem uG{n:Nat}{l:List Ld}(h:gP n l):gp n l=0:=by
 rw[gp,aF (by have:=h.len;omega)];exact kA fun k x F=>vZ.2 (h.ld x (aD F))
theorem gP.more{n m:Nat}{l:List Ld}(h:gP n l)(A:n<=m):gP m l:=⟨h.len,fun x F=>by obtain⟨⟨a,b⟩,c⟩:=h.ld x F;exact⟨⟨a,by omega⟩,c⟩⟩
theorem pj{α:Type}{e:List α->α->Int}{c:Int}(Z:∀s x,e s x=0\/e s x=c):∀(xs seen:List α),cS e seen xs=0\/cS e seen xs=c
 |[],_=>.inl rfl
 |x::xs,seen=>by
  rw[cS];split
  ·exact pj Z xs _
  ·exact Z seen x
theorem CT{n:Nat}(A:n<=20)(Kt:∀l∈G,gP n l)(hc:G.length<=16)(hl:fs.length=G.length):
  (jg G fs=2\/jg G fs=8)\/(jg G fs=0/\(∀z∈fs,-100<=z/\z<=100)/\∀m,m<20->Af (e7 G fs G.length m)):=by
 have V:cS (fun _=>gp 20) [] G=0:=kA fun k l W=>uG ((Kt l (aD W)).more A);rw[jg,aF (by omega),aF (by omega)];split
 ·exact .inl (.inl rfl)
 ·rename_i I;rw[aF (by rw[V];decide)];have I:cS (fun _=>CF) [] fs=0:=Decidable.byContradiction I;rcases pj (c:=8) (e:=fun _:List Nat=>zD (e7 G fs G.length)) (fun _ m=>by unfold zD;split<;>simp) (List.range 20) []with K|K
  ·refine .inr ⟨K,fun z hz=>?_,fun m hm=>?_⟩
   ·obtain⟨k,W⟩:=aQ hz;have:=eV I k z W;unfold CF at this;split at this
    ·assumption
    ·cases this
   ·have:=eV K m m (b9 hm);unfold zD at this;split at this
    ·assumption
    ·cases this
  ·exact .inl (.inr K)
theorem B2.map{G:List Value}(h:B2 w S G e)(W:∀g,S g->Y.heap[g]? =w.heap[g]? /\S' g):B2 Y S' G e:=
 ⟨h.1.map W,fun k=>me.bw (me.br (h.2 k) fun g R=>(W g R).1) fun g R=>(W g R).2⟩
def jE(w:World)(S:Nat->Prop)(v:Value)(G8:List gR):Prop:=dT 10 B2 w S v G8
theorem jE.map(h:jE w S v G8)(W:∀g,S g->Y.heap[g]? =w.heap[g]? /\S' g):jE Y S' v G8:=by
 obtain⟨U,V,I,K,h4⟩:=h;exact⟨U,(V.br fun g R=>(W g R).1).bw fun g R=>(W g R).2,I,K,fun j G x k1 k2=>(h4 j G x k1 k2).map W⟩
section
variable{S:Nat->Prop}{H:Hp}{nx:Nat}{iv E:Iv}{B:Nat}{w J Y:World}{O:Nat->Sx.cd}{v:Value}{G8:List gR}
theorem jE.rel(h:jE w (Cv S B iv) v G8)(r:Rel H nx iv B w O J)(X:∀g,S g->g<B):jE J (Cv S B iv) v G8:=h.map fun _ R=>⟨Rel.same r X R,R⟩
theorem jE.bu(h:jE w (Cv S B iv) v G8)(r:Rel H nx iv B w O J)(X:∀g,S g->g<B)(Z:Ext J Y)(hm:∀p,p∈iv->p∈E):jE Y (Cv S B E) v G8:=h.map fun g R=>⟨(Z.block g (Rel.old r X g R)).trans (Rel.same r X R),R.mono hm⟩
theorem yh.bu(h:me w (Cv S B iv) v l)(r:Rel H nx iv B w O J)(X:∀g,S g->g<B)(Z:Ext J Y)(hm:∀p,p∈iv->p∈E):me Y (Cv S B E) v l:=me.bw (me.br h fun g R=>(Z.block g (Rel.old r X g R)).trans (Rel.same r X R)) fun g R=>R.mono hm
end
def eR(w:World)(S:Nat->Prop)(ad:Addr)(G:List Value):Prop:=∀(i:Nat) u,G[i]? =some u->S ad.block/\w.cell? (ad.add i)=some u
theorem eR.bu{E:Iv}{J:World}{G:List Value}(h:eR w (Cv S B iv) ad G)(r:Rel H nx iv B w O J)(X:∀g,S g->g<B)(Z:Ext J Y)(hm:∀p,p∈iv->p∈E):eR Y (Cv S B E) ad G:=fun i u hu=>by
 obtain⟨k1,k2⟩:=h i u hu;exact⟨k1.mono hm,by rw[cA (w:=w) (Y:=Y) (by rw[dP];exact(Z.block _ (Rel.old r X _ k1)).trans (Rel.same r X k1))];exact k2⟩
theorem eR.at_{J:World}{a2:Addr}{G:List Value}{i:Nat}{u:Value}(h:eR w (Cv S B iv) ad G)(r:Rel H nx iv B w O J)(X:∀g,S g->g<B)(hu:G[i]? =some u)(ha:a2=ad.add i):J.cell? a2=some u:=by
 obtain⟨k1,k2⟩:=h i u hu;rw[ha,cA (w:=w) (Y:=J) (by rw[dP];exact Rel.same r X k1)];exact k2
theorem B2.open{G:List Value}(h:B2 w S G e):∃l0 l1 l2 l3 l4 l5 l6 l7 h0 V I K h4 h5 h6 h7 av cv au cu,G=[.bool l0,.slice l1 l2 l3,.bool l4,.slice l5 l6 l7,.bool h0,.slice V I K,.bool h4,.slice h5 h6 h7,.slice av e.2.1.length cv,.slice au e.2.2.length cu]/\
  cI w S (.agg #[.bool l0,.slice l1 l2 l3,.bool l4,.slice l5 l6 l7]) e.1.1/\cI w S (.agg #[.bool h0,.slice V I K,.bool h4,.slice h5 h6 h7]) e.1.2/\me w S (.slice av e.2.1.length cv) e.2.1/\me w S (.slice au e.2.2.length cu) e.2.2:=by
 obtain⟨⟨lo,N,vl,vh,rfl,⟨l0,l1,l2,l3,l4,l5,l6,l7,rfl,k1⟩,⟨h0,V,I,K,h4,h5,h6,h7,rfl,k2⟩⟩,hz⟩:=h;have z1:me w S vl e.2.1:=hz false;have z2:me w S vh e.2.2:=hz true;obtain⟨av,cv,rfl,-⟩:=z1.shape;obtain⟨au,cu,rfl,-⟩:=z2.shape;exact⟨_,_,_,_,_,_,_,_,_,_,_,_,_,_,_,_,_,_,_,_,rfl,k1,k2,z1,z2⟩
end Go.Ex
namespace Go.Ex
variable{G:List (List Ld)}{F9:List (List Rat)}{s:Nat->Bool}
def iA(s:Nat->Bool):Nat->List Int
 |0=>[]
 |i+1=>if s i then iA s i++[(i:Int)]else iA s i
def lP(l:List Rat)(s:Nat->Bool):Nat->Rat
 |0=>0
 |i+1=>if s i then lP l s i+l.getD i 0 else lP l s i
theorem GI(l:List Rat)(s:Nat->Bool):∀n,(jQ l n).1.1<=lP l s n/\lP l s n<=(jQ l n).1.2
 |0=>⟨Rat.le_refl,Rat.le_refl⟩
 |n+1=>by
  obtain⟨V,I⟩:=GI l s n;rw[jQ,lP];unfold ei;constructor<;>(split<;>split<;>(try split)<;>(try dsimp only)<;>grind)
theorem D7(l:List Rat):∀n,lP l (fun i=>decide (l.getD i 0<0)) n=(jQ l n).1.1/\iA (fun i=>decide (l.getD i 0<0)) n=(jQ l n).2.1
 |0=>⟨rfl,rfl⟩
 |n+1=>by
  obtain⟨V,I⟩:=D7 l n;rw[jQ,lP,iA];unfold ei;by_cases g:l.getD n 0<0
  ·simp only[g,decide_true,if_true]
   constructor
   ·rw[V]
   ·rw[I]
  ·simp only[g,decide_false,if_false,Bool.false_eq_true]
   split
   ·exact⟨V,I⟩
   ·exact⟨V,I⟩
theorem Ay(l:List Rat):∀n,lP l (fun i=>decide (0<l.getD i 0)) n=(jQ l n).1.2/\iA (fun i=>decide (0<l.getD i 0)) n=(jQ l n).2.2
 |0=>⟨rfl,rfl⟩
 |n+1=>by
  obtain⟨V,I⟩:=Ay l n;rw[jQ,lP,iA];unfold ei;by_cases g:0<l.getD n 0
  ·have g':¬l.getD n 0<0:=by grind
   simp only[g,g',decide_true,if_true,if_false]
   constructor
   ·rw[V]
   ·rw[I]
  ·simp only[g,decide_false,if_false,Bool.false_eq_true]
   split
   ·exact⟨V,I⟩
   ·exact⟨V,I⟩
theorem bits(s:Nat->Bool):∀n,∃c,c<2^n/\∀i,i<n->c.testBit i=s i
 |0=>⟨0,by decide,fun i h=>by omega⟩
 |n+1=>by
  obtain⟨c,V,I⟩:=bits s n
  cases e:s n with
  |false=>
   refine⟨c,by rw[Nat.pow_succ];omega,fun i N=>?_⟩;rcases aO i n with g|g
   ·exact I i g
   ·rw[show i=n by omega,e,Nat.testBit_lt_two_pow V]
  |true=>
   refine⟨2^n+c,by rw[Nat.pow_succ];omega,fun i N=>?_⟩;rcases aO i n with g|g
   ·rw[Nat.testBit_two_pow_add_gt g];exact I i g
   ·rw[show i=n by omega,e,Nat.testBit_two_pow_add_eq,Nat.testBit_lt_two_pow V];rfl
def mR(s:Nat->Bool)(n:Nat):List Int:=(List.range n).map fun i=>if s i then 1 else 0
def xU(F9:List (List Rat))(t:Nat):List Rat:=F9.map fun x=>x.getD t 0
theorem Hg{n i:Nat}(h:i<n):(mR s n).getD i 0=if s i then 1 else 0:=by
 unfold mR;rw[List.getD,aM,b9 h];rfl
theorem CU{f:eS}(A:f.nodes.length<=20)(Kt:∀l∈G,gP f.nodes.length l)(hX:F9.length=G.length)(h:∀c,c<G.length->gz (cK f) f.cols (Az f) (cz (gg f (G.getD c [])) (-1)) (F9.getD c []))(s:Nat->Bool):
  gz (cK f) f.cols (Az f) (cz (gg f (e9 (e7 G (mR s G.length) G.length) 20)) (-1)) ((List.range f.cols).map fun t=>lP (xU F9 t) s G.length):=by
 have OC:∀(g:Nat->Rat) (n t:Nat),t<n->((List.range n).map g).getD t 0=g t:=fun g n t ht=>by rw[List.getD,aM,b9 ht];rfl
 have hcol:∀c t,c<G.length->(xU F9 t).getD c 0=(F9.getD c []).getD t 0:=fun c t hc=>by
  have hr:=aA (show c<F9.length by omega);unfold xU;rw[show F9.getD c []=F9[c] by rw[List.getD,hr];rfl,List.getD,aM,hr];rfl
 have key:∀c,c<=G.length->gz (cK f) f.cols (Az f) ((List.range (3*f.nodes.length)).map fun j=> -((GF f.nodes.length G (mR s G.length) j c:Int):Rat)) ((List.range f.cols).map fun t=>lP (xU F9 t) s c):=fun c=>by
  induction c with
  |zero=>
   intro _;refine⟨by simp,fun j hj=>?_,fun k W=>?_⟩
   ·rw[fE]at hj;rw[OC _ _ _ hj];unfold mulR;rw[bq (g:=fun _=>0) fun t ht=>by dsimp only;rw[OC _ _ _ ht];exact ai _,dD];rfl
   ·unfold qZ;rw[bq (g:=fun _=>0) fun t ht=>by dsimp only;rw[OC _ _ _ ht];show _*(_*(0:Rat))=0;grind,dD]
  |succ c ih=>
   intro hc;refine Hf (p:=1) (q:=if s c then 1 else 0) (ih (by omega)) (h c (by omega)) (fun j hj=>?_) (by simp) fun t ht=>?_
   ·rw[fE]at hj;rw[OC _ _ _ hj,OC _ _ _ hj,vW,GH,GF,Hg (show c<G.length by omega),Rat.intCast_add,Rat.intCast_mul];split<;>grind
   ·rw[OC _ _ _ ht,OC _ _ _ ht,lP,hcol c t (by omega)];split<;>grind
 have W:=key G.length (aE _);refine⟨W.len,fun j hj=>?_,W.st⟩;rw[W.eq j hj];rw[fE]at hj;rw[OC _ _ _ hj,vW,GG A Kt j hj];grind
end Go.Ex
namespace Go.Ex
open Go Go.Sx Go.Proofs
variable{b:Bool}{G:List (List Ld)}{l:List Bool}{k:Nat}{s:Nat->Bool}{S:Nat->Prop}{v:Value}{w:World}
theorem nY{s t:Nat->Bool}:∀n,(∀i,i<n->s i=t i)->iA s n=iA t n
 |0,_=>rfl
 |n+1,h=>by rw[iA,iA,h n (bV n),nY n fun i N=>h i (by omega)]
theorem pn{l:List Rat}{s t:Nat->Bool}:∀n,(∀i,i<n->s i=t i)->lP l s n=lP l t n
 |0,_=>rfl
 |n+1,h=>by rw[lP,lP,h n (bV n),pn n fun i N=>h i (by omega)]
def Jk(l:List Rat)(m c:Nat):Prop:=iA c.testBit m=(jQ l m).2.1/\lP l c.testBit m=(jQ l m).1.1
def Jl(l:List Rat)(m c:Nat):Prop:=iA c.testBit m=(jQ l m).2.2/\lP l c.testBit m=(jQ l m).1.2
theorem Hh(l:List Rat)(m:Nat):∃c,c<2^m/\Jk l m c:=by
 obtain⟨c,V,I⟩:=bits (fun i=>decide (l.getD i 0<0)) m;obtain⟨k1,k2⟩:=D7 l m;exact⟨c,V,(nY m I).trans k2,(pn m I).trans k1⟩
theorem GM(l:List Rat)(m:Nat):∃c,c<2^m/\Jl l m c:=by
 obtain⟨c,V,I⟩:=bits (fun i=>decide (0<l.getD i 0)) m;obtain⟨k1,k2⟩:=Ay l m;exact⟨c,V,(nY m I).trans k2,(pn m I).trans k1⟩
def Dn(P:Nat->Nat->Prop)(n:Nat)(lo:List Bool)(c k:Nat):Prop:=lo.length=n/\∀t,t<n->∀c',(c'<c\/(c'=c/\t<k))->P t c'->lo.getD t false=true
section
variable{P:Nat->Nat->Prop}{n c k:Nat}{lo:List Bool}
theorem Dn.start(P:Nat->Nat->Prop)(n:Nat):Dn P n (List.replicate n false) 0 0:=⟨aa ..,fun t _ c' h=>by omega⟩
theorem Dn.next(h:Dn P n lo c n):Dn P n lo (c+1) 0:=⟨h.1,fun t ht c' hc hp=>h.2 t ht c' (by omega) hp⟩
theorem Dn.put{b0:Bool}(h:Dn P n lo c k)(W:k<n)(h0:lo[k]? =some b0)(hb:b0=true->b=true)(hp:P k c->b=true):Dn P n (lo.set k b) c (k+1):=by
 refine⟨by rw[bH];exact h.1,fun t ht c' hc hpt=>?_⟩;have hl:=h.1;rw[List.getD,List.getElem?_set];split
 ·rename_i e;subst e;rw[if_pos (by omega),Option.getD_some];rcases aO c' c with g|g
  ·have:=h.2 k ht c' (.inl g) hpt;rw[List.getD,h0,Option.getD_some]at this;exact hb this
  ·have e:c'=c:=by omega
   subst e;exact hp hpt
 ·exact h.2 t ht c' (by omega) hpt
theorem Dn.at_{m:Nat}(h:Dn P n lo m 0)(hp:∀t,t<n->∃c,c<m/\P t c){t:Nat}(ht:lo[t]? =some b):b=true:=by
 have Rp:=(aC.1 ht).1;have hl:=h.1;obtain⟨c,V,I⟩:=hp t (by omega);have:=h.2 t (by omega) c (.inl V) I
 rwa [List.getD,ht,Option.getD_some]at this
end
theorem BA{n:Nat}{F9:List (List Rat)}(hX:∀x∈F9,∀q∈x,rl q<=152):∀c,c<=F9.length->Ja (eK n F9 c) (153*c+2) c
 |0,_=>fun e Z=>by rw[bN Z];exact⟨by decide,by decide,by decide,by decide⟩
 |c+1,hc=>by
  have h:=vq (z:=c) (BA (n:=n) hX c (by omega)) (hX (F9.getD c []) (by rw[List.getD,aA (show c<F9.length by omega)];exact aV _)) n;intro e Z;obtain⟨V,I,K,h4⟩:=h e Z;exact⟨by omega,by omega,K,h4⟩
theorem E2(s:Nat->Bool)(i:Nat):mR s (i+1)=mR s i++[if s i then 1 else 0]:=by
 unfold mR;rw[bc,List.map_append];rfl
theorem vt(s:Nat->Bool)(i:Nat):(mR s i).length=i:=by unfold mR;rw[aK,List.length_range]
theorem yQ(s:Nat->Bool):∀i,(iA s i).length<=i
 |0=>aE _
 |i+1=>by
  rw[iA];have:=yQ s i;split
  ·rw[List.length_append,List.length_singleton];omega
  ·omega
theorem Hi{n:Nat}(A:n<=20)(Kt:∀l∈G,gP n l)(hc:G.length<=16):jg G (mR s G.length)=8\/(jg G (mR s G.length)=0/\∀m,m<20->Af (e7 G (mR s G.length) G.length m)):=by
 rcases CT A Kt hc (vt s G.length)with(h|h)|h
 ·exfalso;have hf:cS (fun _=>CF) [] (mR s G.length)=0:=kA fun k z hz=>by
   unfold mR at hz;rw[aM]at hz;obtain⟨i,-,rfl⟩:=Option.map_eq_some_iff.1 hz;by_cases hs:s i=true
   ·simp[hs,CF]
   ·simp[hs,CF]
  have V:cS (fun _=>gp 20) [] G=0:=kA fun k l W=>uG ((Kt l (aD W)).more A);rw[jg,aF (by omega),aF (by rw[vt];omega),aF (by rw[hf];decide),aF (by rw[V];decide)]at h;rcases pj (c:=8) (e:=fun _:List Nat=>zD (e7 G (mR s G.length) G.length)) (fun _ m=>by unfold zD;split<;>simp) (List.range 20) []with K|K
  ·rw[K]at h;cases h
  ·rw[K]at h;cases h
 ·exact .inl h
 ·exact .inr ⟨h.1,h.2.2⟩
theorem KJ:∀c,c<8->∀i,i<3->((c:Nat):Int).fdiv (2^(min ((i:Nat):Int).toNat IntKind.i64.bits))=((c / 2^i:Nat):Int):=by decide
theorem KK:∀c,c<8->∀i,i<3->IntKind.wrap .i64 ((BitVec.ofInt IntKind.i64.bits ((c / 2^i:Nat):Int) &&& BitVec.ofInt IntKind.i64.bits 1).toNat:Int)=if c.testBit i then 1 else 0:=by decide
theorem KL:∀m,m<=3->IntKind.wrap .i64 (1*2^(min ((m:Nat):Int).toNat IntKind.i64.bits))=((2^m:Nat):Int):=by decide
theorem KM:∀m,m<=3->2^m<=8:=by decide
def bv(l:List Bool):List Value:=l.map Value.bool
theorem yj(h:l[k]? =some b):(bv l)[0+((k:Nat):Int).toNat*1]? =some (.bool b):=by
 rw[aG,az,aU,bv,aM,h];rfl
theorem j4(h:k<l.length):(bv l).take (0+((k:Nat):Int).toNat*1)++[.bool b]++(bv l).drop (0+((k:Nat):Int).toNat*1+1)=bv (l.set k b):=by
 rw[bP,List.singleton_append,aG,az,aU,bv,bv,List.map_set,List.set_eq_take_append_cons_drop,if_pos (by rw[aK];exact h)]
theorem gB.bw{S':Nat->Prop}(h:gB w S v G)(W:∀g,S g->S' g):gB w S' v G:=by
 obtain⟨rv,V,I,K⟩:=h;exact⟨rv,V.bw W,I,fun i u x k1 k2=>dQ.bw (K i u x k1 k2) W⟩
theorem zn(l:List Int)(z:Int):zv (l++[z])=zv l++[.int .i64 z]:=by rw[zv,List.map_append];rfl
theorem zo{u:Value}{l m:List Int}(X:Old S w)(F:me w S v l)(hy:me w S u m):eF PG F'.yR #[v,u] w (eM w fun v' _=>∃d,v'= .bool d/\(l=m->d=true)):=by
 have L:=bR w;obtain⟨a,c,rfl,-,hm⟩:=F.shape;obtain⟨a2,c2,rfl,-,-⟩:=hy.shape;unfold maxLen at hm;refine zO (by simp) ?_;conv=>whnf
 refine ct.mk ?_ ?_<;>intro hd
 ·have Kq:l≠m:=fun e=>by subst e;simp at hd
  conv=>whnf
  exact rtn L fun I' we re=>⟨false,rfl,fun h=>absurd h Kq⟩
 have Lp:l.length=m.length:=by
  have:(l.length:Int)=m.length:=by simpa using hd
  omega
 conv=>whnf
 refine⟨Nat×World×Iv,fun z=>⟨[(0,sV a l.length c),(1,sV a2 m.length c2),(5,iN z.1)],[],0,z.2.2,z.2.1⟩,fun z=>l.length-z.1,
  fun z=>z.1<=l.length/\dO w.heap.size w z.2.1,?_,?_⟩
 ·intro O J D;exact⟨(0,J,_),⟨aP _,L.tr D.cG⟩,Sub.gn [] D⟩
 clear L;rintro⟨i,w1,iv⟩ ⟨N,L⟩;dsimp only at N L ⊢;conv=>whnf
 refine ct.mk ?_ ?_<;>intro Kp
 ·have Kp:i<l.length:=by simpa using Kp
  obtain⟨x,hq⟩:∃q,l[i]? =some q:=⟨_,aA Kp⟩
  obtain⟨y,hp⟩:∃q,m[i]? =some q:=⟨_,aA (by omega)⟩
  obtain⟨adx,Ly,hSx,Lw⟩:=me.at F hq;obtain⟨ady,Rt,hSy,NQ⟩:=me.at hy hp;conv=>whnf
  refine cC hτ eG [.x 0,.x 1,.x 2,.x 3,.x 4,.x 5,.x 6,.x 7,.x 8] (by kernel_rfl) (by kernel_rfl) ?_;conv=>whnf
  refine⟨adx,Ly,by omega,?_⟩;conv=>whnf
  refine⟨.int .i64 x,rd1 Lw L (X _ hSx),?_⟩;conv=>whnf
  refine⟨ady,Rt,by omega,?_⟩;conv=>whnf
  refine⟨.int .i64 y,rd1 NQ L (X _ hSy),?_⟩;conv=>whnf
  refine ct.mk (fun hd=>?_) (fun _=>?_)
  ·have Kq:l≠m:=fun e=>by subst e;rw[hq]at hp;injection hp with hp;subst hp;simp at hd
   conv=>whnf
   exact rtn L fun I' we re=>⟨false,rfl,fun h=>absurd h Kq⟩
  conv=>whnf
  refine⟨((i+1:Nat):Int),wo,?_⟩;conv=>whnf
  intro In w6 D;exact⟨(i+1,w6,_),⟨Kp,L.tr D.cG⟩,Sub.gn [] D,by dsimp only;omega⟩
 conv=>whnf
 exact rtn L fun I' we re=>⟨true,rfl,fun _=>rfl⟩
set_option maxHeartbeats 4000000 in
set_option maxRecDepth 8000 in
theorem topWorst_c{vn vb vs:Value}{f:Ck}(X:Old S w)(hF:oI w S vn vb vs f)(hC:gB w S v G):
  eF PG F'.top_TopWorstIsWorst #[.agg #[vn,vb,vs],v] w (eM w fun v' _=>v'= .bool true):=by
 have L:=bR w;obtain⟨an,cn,rfl,-,-⟩:=hF.nodes.shape;obtain⟨ab,cb,rfl,-,-⟩:=hF.bars.shape;obtain⟨aq,cq,rfl,-,-⟩:=hF.cJ.shape;obtain⟨ac,cc,rfl,-,Ph⟩:=dZ.shape hC;unfold maxLen at Ph;refine mU (by simp) ?_;conv=>whnf
 refine ct.mk (fun _=>?_) (fun K=>?_)
 ·conv=>whnf
  refine bp (cE L (fun _ J v Y=>v= .bool true) (fun O J r=>om J) ?_);rintro O M5 v1 MS LC r Z L h_ rfl;clear r;conv=>whnf
  exact rtn L fun I' we re=>rfl
 have K:G.length<=3:=by have:=aI K;omega
 conv=>whnf
 refine⟨Nat×World×Iv,fun z=>⟨[(1,sV ac G.length cc),(2,pP 0 0),(5,iN z.1)],[(0,.box T.Frame [.v (.slice an f.nodes.length cn),.v (.slice ab f.bars.length cb),.v (.slice aq f.cJ.length cq)])],1,z.2.2,z.2.1⟩,fun z=>G.length-z.1,
  fun z=>z.1<=G.length/\dO w.heap.size w z.2.1/\∀(j:Nat) l,j<z.1->G[j]? =some l->gZ f.val l=0,?_,?_⟩
 ·intro O J D;exact⟨(0,J,_),⟨aP _,L.tr D.cG,fun j l hj=>by omega⟩,Sub.gn [] D⟩
 clear L;rintro⟨i,w1,iv⟩ ⟨N,L,Lo⟩;dsimp only at N L Lo ⊢;conv=>whnf
 refine ct.mk ?_ ?_<;>intro Kp
 ·have Kp:i<G.length:=by simpa using Kp
  obtain⟨l,hl⟩:∃x,G[i]? =some x:=⟨_,aA Kp⟩
  obtain⟨adm,um,Nk,Lj,km1,km2⟩:=dZ.load hC hl;obtain⟨al,cl,rfl,-,-⟩:=Lj.shape;conv=>whnf
  refine cC hτ eG [.x 0,.x 1,.x 2,.x 3,.x 4,.x 5,.x 6] (by kernel_rfl) (by kernel_rfl) ?_;conv=>whnf
  refine⟨adm,Nk,by omega,?_⟩;conv=>whnf
  refine⟨.slice al l.length cl,rd1 km2 L (X _ km1),?_⟩;conv=>whnf
  refine cE L (fun _ J v Y=>∃d,v= .bool d/\(d=true->gZ f.val l=0)) (fun O J r=>(yi (most:=3) X L r hF Lj).mono fun _ _ ⟨v2,e1,e2,d,e3,e4⟩=>⟨v2,e1,e2,d,e3,fun h=>(e4 h).2.2.2.2.2.2.2⟩) ?_;rintro O _ _ _ LC r Z L h_ ⟨d1,rfl,Kw⟩;clear r
  cases d1
  ·conv=>whnf
   refine bp (cE L (fun _ J v Y=>v= .bool true) (fun O J r=>om J) ?_);rintro O _ v2 _ Kx r Z L h_ rfl;clear r;conv=>whnf
   exact rtn L fun I' we re=>rfl
  have hcl2:∀(j:Nat) l,j<i+1->G[j]? =some l->gZ f.val l=0:=fun j l2 hj I=>by
   rcases aO j i with g|g
   ·exact Lo j l2 g I
   ·have e:j=i:=by omega
    subst e;rw[hl]at I;injection I with I;subst I;exact Kw rfl
  conv=>whnf
  refine⟨((i+1:Nat):Int),wo,?_⟩;conv=>whnf
  intro In w6 D;exact⟨(i+1,w6,_),⟨Kp,L.tr D.cG,hcl2⟩,Sub.gn [] D,by dsimp only;omega⟩
 have Kp:i=G.length:=aS N (by simpa using Kp);rw[Kp]at Lo;clear Kp N;conv=>whnf
 refine bp (cE L (fun _ J v Y=>∃d,v= .bool d/\(d=true->dN w S (.slice an f.nodes.length cn) (.slice ab f.bars.length cb) (.slice aq f.cJ.length cq) f.val/\(∀b∈f.val.bars,rl b.2.2<=3)/\(∀b∈f.val.cJ,rl b.2.2<=3)/\f.nodes.length<=3/\f.val.bars.length<=6/\gZ f.val []=0)) (fun O J r=>(yi (most:=3) X L r hF dQ.KW).mono fun _ _ ⟨v2,e1,e2,d,e3,e4⟩=>⟨v2,e1,e2,d,e3,fun h=>let k:=e4 h;⟨k.1,k.2.1,k.2.2.1,k.2.2.2.1,k.2.2.2.2.1,k.2.2.2.2.2.2.2⟩⟩) ?_);rintro O _ _ _ NM r Z L h_ ⟨d1,rfl,Kw⟩;clear r
 cases d1
 ·conv=>whnf
  refine bp (cE L (fun _ J v Y=>v= .bool true) (fun O J r=>om J) ?_);rintro O NA v12 Mh PE r Z L h_ rfl;clear r;conv=>whnf
  exact rtn L fun I' we re=>rfl
 obtain⟨hR,hrb,hrs,hn4,Rs,Ol⟩:=Kw rfl;clear Kw;obtain⟨fv,hfv⟩:∃fv,f.val=fv:=⟨_,rfl⟩
 rw[hfv]at hR hrb hrs Rs Ol Lo;obtain⟨en,eb,es⟩:f.nodes.length=fv.nodes.length/\f.bars.length=fv.bars.length/\f.cJ.length=fv.cJ.length:=by rw[<-hfv];exact⟨rfl,(aK ..).symm,(aK ..).symm⟩
 rw[en]at hn4;rw[en,eb,es]at hR ⊢;clear hF hfv en eb es;obtain⟨Mu,-⟩:=mf Ol;have Lb:uF fv:=Gt (.inr ⟨by omega,Rs⟩) hrb hrs Mu;have Nx:=Lb.toFrS;have Pp:=Nx.n;have hc18:=Nx.IU;have Lo:∀(c:Nat) l,G[c]? =some l->gP fv.nodes.length l:=fun c l h=>uK (mf (Lo c l (aC.1 h).1 h)).2;have Kt:∀l∈G,gP fv.nodes.length l:=fun l h=>by obtain⟨c,hc⟩:=aQ h;exact Lo c l hc
 have EE:jZ fv G=0:=by
  rw[jZ,aF (by rw[Mu];decide),aF (by omega)];exact kA fun k l W=>uG (Lo k l W)
 by_cases NZ:xD fv G
 ·conv=>whnf
  refine bp (cE L (fun _ J v Y=>v= .tuple #[.slice none 0 0,.int .i64 17]) (fun O J r=>(B5 (oS X r) (hR.br (kS L r X)) (gB.br hC (kS L r X)) (fun _=>Lb)).mono fun _ _ ⟨v2,e1,e2,e3⟩=>⟨v2,e1,e2,e3.elim (fun h=>absurd EE h.1) fun h=>h.2.elim (fun g=>g.2) fun⟨F9,_,k1,k2,_⟩=>absurd NZ (k1.not k2)⟩) ?_);rintro O NA v12 Mh PE r Z L h_ rfl;clear r;conv=>whnf
  refine bp (cE L (fun _ J v Y=>v= .bool true) (fun O J r=>om J) ?_);rintro O QY v13 RR iv13 r Z L h_ rfl;clear r;conv=>whnf
  exact rtn L fun I' we re=>rfl
 obtain⟨F9,hX,RK⟩:=kP.exists Lb NZ;obtain⟨EX,hEX⟩:∃G8,eK fv.cols F9 G.length=G8:=⟨_,rfl⟩
 have hEl:EX.length=fv.cols:=by rw[<-hEX,iY]
 have hXr:∀x∈F9,∀q∈x,rl q<=152:=fun x F=>by
  obtain⟨c,hc⟩:=aQ F;have hcl2:=(aC.1 hc).1;obtain⟨l,hl⟩:∃l,G[c]? =some l:=⟨_,aA (by omega)⟩
  have V:=hX c x hc;rw[getD_some hl]at V;exact Lb.GD (sW (Lo c l hl)) (by rw[cz,aK,jW,fE]) V
 have hEr:Ja EX (153*G.length+2) G.length:=by rw[<-hEX];exact BA hXr G.length (by omega)
 have MV:∀(k:Nat) e,EX[k]? =some e->jQ (xU F9 k) G.length=e:=fun k e Z=>by
  have W:=(aC.1 Z).1;have V:=yg (n:=fv.cols) (F9:=F9) (k:=k) (by omega) ((0,0),[],[]) G.length (by omega);rw[hEX,getD_some Z]at V;exact V.symm
 have hch:=fun s=>CU (s:=s) Pp Kt RK fun c hc=>by
  have V:=hX c (F9.getD c []) (by rw[List.getD,aA (show c<F9.length by omega)];rfl);exact V
 obtain⟨PL,hPL⟩:∃P:Nat->Nat->Prop,P=fun t c=>Jk (xU F9 t) G.length c:=⟨_,rfl⟩
 obtain⟨PH,hPH⟩:∃P:Nat->Nat->Prop,P=fun t c=>Jl (xU F9 t) G.length c:=⟨_,rfl⟩
 have hp8:=KM G.length K;conv=>whnf
 refine bp (bz (Id:=fun _ J v Y=>∃vw,v= .tuple #[vw,.int .i64 0]/\jE Y (Nf J Y) vw EX) (fun O J r=>(B5 (oS X r) (hR.br (kS L r X)) (gB.br hC (kS L r X)) (fun _=>Lb)).mono fun _ _ ⟨v2,e1,e2,e3⟩=>⟨v2,e1,e2,e3.elim (fun h=>absurd EE h.1) fun h=>h.2.elim (fun g=>absurd g.1 NZ) fun⟨AC,vl,k1,k2,k3,k4⟩=>⟨vl,k3,by rw[<-hEX,kP.one Lb hX k1 (by omega)];exact k4⟩⟩) ?_);rintro O NA v12 Mh r Z hb ⟨vw,rfl,A⟩;replace L:=L.tr hb;have hW:=jE.map (S':=Cf w ((NA.heap.size,Mh.heap.size)::NM)) A fun g R=>⟨rfl,Nw.df R r.bs aH⟩
 clear r Z hb;generalize (NA.heap.size,Mh.heap.size)::NM=PE at*
 clear A;obtain⟨aw,cw,rfl,Mk,hmw⟩:=dT.shape hW;conv=>whnf
 refine bp (cE L (fun _ J v Y=>v= .int .i64 fv.cols) (fun O J r=>BW (hR.br (kS L r X)) ⟨Nx.b,Nx.s⟩) ?_);rintro O _ _ _ iv13 r Z L h_ rfl;replace hW:=jE.bu hW r (bo w) Z (mC h_);clear r Z;conv=>whnf
 refine ct.mk (fun hd=>absurd (show (EX.length:Int)=(fv.cols:Int) by omega) (by simpa using hd)) (fun _=>?_);conv=>whnf
 refine cC hτ eG [.x 0,.x 1,.x 3,.x 4,.p 2,.p 5,.x 2,.x 6,.x 5,.x 7] (by kernel_rfl) (by kernel_rfl) ?_;conv=>whnf
 refine⟨EX.length,EX.length,rfl,rfl,aE _,by omega,by omega,?_⟩;conv=>whnf
 refine⟨EX.length,EX.length,rfl,rfl,aE _,by omega,by omega,?_⟩;conv=>whnf
 refine⟨EX.length,EX.length,rfl,rfl,aE _,by omega,by omega,?_⟩;conv=>whnf
 refine⟨EX.length,EX.length,rfl,rfl,aE _,by omega,by omega,?_⟩;conv=>whnf
 refine⟨Nat×List Bool×List Bool×World×Iv,fun z=>⟨[(1,sV ac G.length cc),(2,pP 0 0),(6,sV aw EX.length cw),(8,.o (.s 1 0 EX.length EX.length)),(9,.o (.s 2 0 EX.length EX.length)),(10,iN z.1)],[(1,.arr T.bool (bv z.2.1)),(2,.arr T.bool (bv z.2.2.1)),(0,.box T.Frame [.v (.slice an fv.nodes.length cn),.v (.slice ab fv.bars.length cb),.v (.slice aq fv.cJ.length cq)])],3,z.2.2.2.2,z.2.2.2.1⟩,fun z=>2^G.length-z.1,
  fun z=>z.1<=2^G.length/\dO w.heap.size w z.2.2.2.1/\jE z.2.2.2.1 (Cf w z.2.2.2.2) (.slice aw EX.length cw) EX/\Dn PL fv.cols z.2.1 z.1 0/\Dn PH fv.cols z.2.2.1 z.1 0,?_,?_⟩
 ·intro O J D;exact⟨(0,List.replicate fv.cols false,List.replicate fv.cols false,J,_),⟨aP _,L.tr D.cG,hW.rel D (bo w),Dn.start ..,Dn.start ..⟩,Sub.gn [] D ⟨by dsimp only;rw[bv,List.map_replicate,<-hEl];rfl,by dsimp only;rw[bv,List.map_replicate,<-hEl];rfl,rfl,trivial⟩⟩
 clear L hW;rintro⟨c,lo,OG,w3,iv⟩ ⟨hc,L,hW,hL,hH⟩;dsimp only at hc L hW hL hH ⊢;conv=>whnf
 refine⟨by omega,_,KL G.length K,?_⟩;conv=>whnf
 refine ct.mk ?_ ?_<;>intro Nc
 ·have Nc:c<2^G.length:=by have:=aL Nc;omega
  conv=>whnf
  refine⟨Nat×World×Iv,fun z=>⟨[(1,sV ac G.length cc),(2,pP 0 0),(6,sV aw EX.length cw),(8,.o (.s 1 0 EX.length EX.length)),(9,.o (.s 2 0 EX.length EX.length)),(10,iN c),(11,.o (.w 3 (mR c.testBit z.1).length)),(12,.o (.w 4 (iA c.testBit z.1).length)),(13,iN z.1)],[(4,.vec T.int 1 (zv (iA c.testBit z.1))),(3,.vec T.int 1 (zv (mR c.testBit z.1))),(1,.arr T.bool (bv lo)),(2,.arr T.bool (bv OG)),(0,.box T.Frame [.v (.slice an fv.nodes.length cn),.v (.slice ab fv.bars.length cb),.v (.slice aq fv.cJ.length cq)])],5,z.2.2,z.2.1⟩,fun z=>G.length-z.1,
   fun z=>z.1<=G.length/\dO w.heap.size w z.2.1/\jE z.2.1 (Cf w z.2.2) (.slice aw EX.length cw) EX,?_,?_⟩
  ·intro O J D;exact⟨(0,J,_),⟨aP _,L.tr D.cG,hW.rel D (bo w)⟩,Sub.nil 11 T.int 1 rfl (by simp[lj,SV.sc,At.sc]) D fun If r1=>Sub.nil 12 T.int 1 rfl (by simp[lj,SV.sc,At.sc]) r1 fun IR r2=>Sub.gn [] r2⟩
  clear L hW;rintro⟨i,w4,iv⟩ ⟨N,L,hW⟩;dsimp only at N L hW ⊢;have LN:=vt c.testBit i;have NT:=yQ c.testBit i;conv=>whnf
  refine ct.mk ?_ ?_<;>intro Kp
  ·have Kp:i<G.length:=by simpa using Kp
   have hc8:c<8:=by omega
   have hi3:i<3:=by omega
   conv=>whnf
   refine⟨by omega,_,KJ c hc8 i hi3,?_⟩;conv=>whnf
   refine⟨_,KK c hc8 i hi3,?_⟩;conv=>whnf
   have Qn:=E2 c.testBit i;have Li:iA c.testBit (i+1)=if c.testBit i then iA c.testBit i++[(i:Int)]else iA c.testBit i:=rfl
   obtain⟨b,hb⟩:∃b,c.testBit i=b:=⟨_,rfl⟩
   rw[hb]at Qn Li ⊢;obtain⟨FA,hFA⟩:∃C9,mR c.testBit i=C9:=⟨_,rfl⟩
   obtain⟨CH,hCH⟩:∃C9,iA c.testBit i=C9:=⟨_,rfl⟩
   rw[hFA]at Qn LN;rw[hCH]at Li NT;rw[hFA,hCH];have Kw:∀(l:List Int),(zv l).length=l.length:=fun l=>aK ..
   cases b
   ·simp only[if_true,if_false,Bool.false_eq_true]at Qn Li;conv=>whnf
    refine .inl ?_;conv=>whnf
    refine⟨by rw[Kw];omega,by omega,by unfold maxLen;omega,?_⟩;conv=>whnf
    refine⟨((i+1:Nat):Int),wo,?_⟩;conv=>whnf
    intro In w6 D;exact⟨(i+1,w6,_),⟨Kp,L.tr D.cG,hW.rel D (bo w)⟩,Sub.gn [(3,6)] D ⟨by dsimp only;rw[Li];rfl,by dsimp only;rw[Qn,zn];rfl,rfl,rfl,rfl,trivial⟩ ⟨rfl,rfl,rfl,rfl,rfl,rfl,by dsimp only;rw[Qn,List.length_append,List.length_singleton];rfl,by dsimp only;rw[Li];rfl,rfl,trivial⟩,by dsimp only;omega⟩
   ·simp only[if_true,if_false,Bool.false_eq_true]at Qn Li;conv=>whnf
    refine .inl ?_;conv=>whnf
    refine⟨by rw[Kw];omega,by omega,by unfold maxLen;omega,?_⟩;conv=>whnf
    refine .inl ?_;conv=>whnf
    refine⟨by rw[Kw];omega,by omega,by unfold maxLen;omega,?_⟩;conv=>whnf
    refine⟨((i+1:Nat):Int),wo,?_⟩;conv=>whnf
    intro In w6 D;exact⟨(i+1,w6,_),⟨Kp,L.tr D.cG,hW.rel D (bo w)⟩,Sub.gn [(3,6),(4,8)] D ⟨by dsimp only;rw[Li,zn];rfl,by dsimp only;rw[Qn,zn];rfl,rfl,rfl,rfl,trivial⟩ ⟨rfl,rfl,rfl,rfl,rfl,rfl,by dsimp only;rw[Qn,List.length_append,List.length_singleton];rfl,by dsimp only;rw[Li,List.length_append,List.length_singleton];rfl,rfl,trivial⟩,by dsimp only;omega⟩
  have Kp:i=G.length:=aS N (by simpa using Kp);rw[Kp]at LN NT ⊢;obtain⟨FA,hFA⟩:∃C9,mR c.testBit G.length=C9:=⟨_,rfl⟩
  obtain⟨CH,hCH⟩:∃C9,iA c.testBit G.length=C9:=⟨_,rfl⟩
  have hg01:=Hi (s:=c.testBit) Pp Kt (by omega);have hy:=hch c.testBit;obtain⟨y,Nt⟩:∃y,((List.range fv.cols).map fun t=>lP (xU F9 t) c.testBit G.length)=y:=⟨_,rfl⟩
  rw[hFA]at LN hg01 hy;rw[hCH]at NT;rw[Nt]at hy;rw[hFA,hCH];have Mp:∀(l:List Int),(zv l).length=l.length:=fun l=>aK ..;have Kw:∀(l:List Int),∀u∈zv l,u.oneCell'=true:=fun l u hu=>by obtain⟨z,_,rfl⟩:=aT.1 hu;rfl
  obtain⟨ga,hga⟩:∃ga,e9 (e7 G FA G.length) 20=ga:=⟨_,rfl⟩
  rw[hga]at hy;clear Kp N;conv=>whnf
  rcases hg01 with hg8|⟨OH,MX⟩
  ·conv=>whnf
   refine bp (cE L (fun _ J v Y=>v= .tuple #[.slice none 0 0,.int .i64 8]) (fun O J r=>(ya (S:=(fun g=>g<J.heap.size)) (fun g R=>R) (gB.bw (gB.br hC (kS L r X)) fun g R=>by have:=X g R;have:=r.bs;omega) (r.jm (T:=(fun g=>g<J.heap.size)) (id:=3) (sz:=1) (G:=zv FA) (m:=FA.length) rfl (by rw[Mp];omega) (by unfold maxLen;omega) (by decide) (Kw FA) fun A=>(r.low 3 _ rfl A).2) hg8.symm).mono fun _ _ ⟨v2,e1,e2,e3⟩=>⟨v2,e1,e2,e3.elim (fun h=>h.2) fun h=>absurd h.1 (by decide)⟩) ?_);rintro O wa31 v31 wb31 iv31 r Z L h_ rfl;clear hW;clear r Z;conv=>whnf
   refine bp (cE L (fun _ J v Y=>v= .bool true) (fun O J r=>om J) ?_);rintro O wa32 v32 wb32 iv32 r Z L h_ rfl;clear r Z;conv=>whnf
   exact rtn L fun I' we re=>rfl
  have RY:=He (fs:=FA) Kt MX;rw[hga]at RY;have EG:gZ fv ga=0:=by rw[gZ,aF (by rw[Mu];decide),uG RY]
  conv=>whnf
  refine bp (cE L (fun _ J v Y=>∃vr,v= .tuple #[vr,.int .i64 0]/\dQ Y (Nf J Y) vr ga) (fun O J r=>(ya (S:=(fun g=>g<J.heap.size)) (fun g R=>R) (gB.bw (gB.br hC (kS L r X)) fun g R=>by have:=X g R;have:=r.bs;omega) (r.jm (T:=(fun g=>g<J.heap.size)) (id:=3) (sz:=1) (G:=zv FA) (m:=FA.length) rfl (by rw[Mp];omega) (by unfold maxLen;omega) (by decide) (Kw FA) fun A=>(r.low 3 _ rfl A).2) OH.symm).mono fun _ _ ⟨v2,e1,e2,e3⟩=>⟨v2,e1,e2,by rw[hga]at e3;exact e3.elim (fun h=>absurd rfl h.1) fun h=>h.2⟩) ?_);rintro O _ _ _ iv31 r Z L h_ ⟨vg,rfl,A⟩;replace hW:=jE.bu hW r (bo w) Z (mC h_);have hG:=dQ.df (S:=FF) A r.bs (mN h_);clear r Z;clear A;obtain⟨ag,cg,rfl,-,-⟩:=hG.shape;conv=>whnf
  refine bp (cE L (fun _ J v Y=>∃vx,v= .tuple #[vx,.int .i64 0]/\cF Y (Nf J Y) vx y) (fun O J r=>(wz (S:=fun g=>S g\/Cf w iv31 g) (fun g R=>R.elim (oS X r g) (Rel.old r (bo w) g)) (dN.bw (hR.br (kS L r X)) fun g R=>.inl R) (dQ.bw (dQ.rel hG r (bo w)) fun g R=>.inr R) (fun _=>Lb)).mono fun _ _ ⟨v2,e1,e2,e3⟩=>⟨v2,e1,e2,e3.elim (fun h=>absurd EG h.1) fun h=>h.2.elim (fun g=>by obtain⟨z,LQ⟩:=lN (fH fv) (x:=fun t=>y.getD t 0) hy.eq;rw[g.1]at LQ;cases LQ) fun⟨x,vx,g,k1,k2⟩=>⟨vx,k1,Lb.Au.one g hy▸k2⟩⟩) ?_);rintro O _ _ _ iv32 r Z L h_ ⟨vy,rfl,A⟩;replace hW:=jE.bu hW r (bo w) Z (mC h_);clear hG;have hY:=cF.df (S:=FF) A r.bs (mN h_);clear r Z;clear A;have RB:=hy.len;have hyr:=Lb.GD (sW RY) (by rw[cz,aK,jW,fE]) hy;have hya:∀(k:Nat) q,y[k]? =some q->q=lP (xU F9 k) c.testBit G.length:=fun k q h=>by
   rw[<-Nt,aM]at h;obtain⟨t,ht,rfl⟩:=Option.map_eq_some_iff.1 h;rw[(aC.1 ht).2.symm.trans (List.getElem_range ..)]
  clear hy Nt hFA OH MX hga RY EG;obtain⟨ay,cy,rfl,-,-⟩:=eE.shape hY;conv=>whnf
  refine ct.mk (fun hd=>absurd (show (y.length:Int)=(EX.length:Int) by omega) (by simpa using hd)) (fun _=>?_);conv=>whnf
  refine⟨Nat×List Bool×List Bool×World×Iv,fun z=>⟨[(1,sV ac G.length cc),(2,pP 0 0),(6,sV aw EX.length cw),(8,.o (.s 1 0 EX.length EX.length)),(9,.o (.s 2 0 EX.length EX.length)),(10,iN c),(12,.o (.w 3 CH.length)),(17,sV ay y.length cy),(19,iN z.1)],[(3,.vec T.int 1 (zv CH)),(1,.arr T.bool (bv z.2.1)),(2,.arr T.bool (bv z.2.2.1)),(0,.box T.Frame [.v (.slice an fv.nodes.length cn),.v (.slice ab fv.bars.length cb),.v (.slice aq fv.cJ.length cq)])],4,z.2.2.2.2,z.2.2.2.1⟩,fun z=>EX.length-z.1,
   fun z=>z.1<=EX.length/\dO w.heap.size w z.2.2.2.1/\jE z.2.2.2.1 (Cf w z.2.2.2.2) (.slice aw EX.length cw) EX/\cF z.2.2.2.1 (Cf w z.2.2.2.2) (.slice ay y.length cy) y/\Dn PL fv.cols z.2.1 c z.1/\Dn PH fv.cols z.2.2.1 c z.1,?_,?_⟩
  ·intro O J D;exact⟨(0,lo,OG,J,_),⟨aP _,L.tr D.cG,hW.rel D (bo w),cF.rel hY D (bo w),hL,hH⟩,Sub.gn [(3,4)] D⟩
  clear L hW hY hL hH;rintro⟨k,lo,OG,w5,iv⟩ ⟨W,L,hW,hY,hL,hH⟩;dsimp only at W L hW hY hL hH ⊢;have hll:=hL.1;have hhl:=hH.1;conv=>whnf
  refine ct.mk ?_ ?_<;>intro Ks
  ·have Ks:k<EX.length:=by simpa using Ks
   have Oh:k<fv.cols:=by omega
   obtain⟨q,hq⟩:∃q,y[k]? =some q:=⟨_,aA (by omega)⟩
   have hqr:=hyr q (aD hq);have hqs:=hya k q hq;obtain⟨ev,NY⟩:∃e,EX[k]? =some e:=⟨_,aA Ks⟩
   have hee:=MV k ev NY;obtain⟨her1,her2,-,-⟩:=hEr ev (aD NY);have MX:=GI (xU F9 k) c.testBit G.length;rw[hee,<-hqs]at MX;have hPLk:PL k c->CH=ev.2.1/\q=ev.1.1:=fun h=>by
    rw[hPL]at h;obtain⟨V,I⟩:=h;rw[hee]at V I;exact⟨hCH.symm.trans V,hqs.trans I⟩
   have Py:PH k c->CH=ev.2.2/\q=ev.1.2:=fun h=>by
    rw[hPH]at h;obtain⟨V,I⟩:=h;rw[hee]at V I;exact⟨hCH.symm.trans V,hqs.trans I⟩
   obtain⟨b0,Qg⟩:∃b,lo[k]? =some b:=⟨_,aA (by omega)⟩
   obtain⟨b1,LF⟩:∃b,OG[k]? =some b:=⟨_,aA (by omega)⟩
   obtain⟨adq,csq,Om,Lf,-,hlq⟩:=eE.load hY hq;obtain⟨q0,q1,q2,q3,q4,q5,q6,q7,rfl,Lf⟩:=Lf;obtain⟨adw,csw,Qp,hPw,-,hlw⟩:=dT.load (by decide) hW NY;obtain⟨m0,m1,m2,m3,m4,m5,m6,m7,n0_,n1_,n2_,n3_,n4_,n5_,n6_,n7_,ev_,fv_,eu_,fu_,rfl,Ng,ME,Ls,Na⟩:=hPw.open;clear hPw;have Mk:eR w5 (Cf w iv) (adw.add (k*10)) [.bool m0,.slice m1 m2 m3,.bool m4,.slice m5 m6 m7,.bool n0_,.slice n1_ n2_ n3_,.bool n4_,.slice n5_ n6_ n7_,.slice ev_ ev.2.1.length fv_,.slice eu_ ev.2.2.length fu_]:=fun i u hu=>by
    obtain⟨k1,k2⟩:=hlw i u hu;exact⟨by rw[dP];exact k1,k2⟩
   have My:eR w5 (Cf w iv) (adq.add (k*4)) [.bool q0,.slice q1 q2 q3,.bool q4,.slice q5 q6 q7]:=fun i u hu=>by
    obtain⟨k1,k2⟩:=hlq i u hu;exact⟨by rw[dP];exact k1,k2⟩
   clear hlw hlq;conv=>whnf
   refine cC hτ eG [.x 0,.x 1,.x 2,.x 3,.x 4,.x 5,.x 6,.x 7,.x 8,.x 9,.x 10,.x 11,.x 12,.x 13,.x 14,.x 15,.x 16,.x 17,.x 18,.x 19,.x 20,.x 21,.x 22,.x 23,.x 24,.x 25] (by kernel_rfl) (by kernel_rfl) ?_;conv=>whnf
   refine⟨adq,Om,by omega,?_⟩;conv=>whnf
   refine⟨[.bool q0,.slice q1 q2 q3,.bool q4,.slice q5 q6 q7],rfl,fun O J r j u hu=>?_,?_⟩
   ·exact My.at_ (i:=0+j) r (bo w) (by rcases j with _|_|_|_|j<;>first|exact hu|cases hu) (by simp only[eW,kK,aG];try (congr 1;omega))
   conv=>whnf
   refine⟨adw,Qp,by omega,?_⟩;conv=>whnf
   refine⟨[.bool m0,.slice m1 m2 m3,.bool m4,.slice m5 m6 m7],rfl,fun O J r j u hu=>?_,?_⟩
   ·exact Mk.at_ (i:=0+j) r (bo w) (by rcases j with _|_|_|_|j<;>first|exact hu|cases hu) (by simp only[eW,kK,aG];try (congr 1;omega))
   conv=>whnf
   refine cE L (fun _ J v Y=>∃z,v= .int .i64 z/\0<=z) (fun O J r=>(j3 (S:=Cf w iv) (Rel.old r (bo w)) ((cI.rel Lf r (bo w)).v (by omega)) ((cI.rel Ng r (bo w)).v (by omega))).mono fun _ _ ⟨v2,e1,e2,e3⟩=>⟨v2,e1,e2,⟨_,e3,Ef.2 MX.1⟩⟩) ?_;rintro O _ _ _ Lz r Z L h_ ⟨zc,rfl,MW⟩;replace hW:=jE.bu hW r (bo w) Z (mC h_);replace hY:=cF.bu hY r (bo w) Z (mC h_);replace Lf:=cI.bu Lf r (bo w) Z (mC h_);replace Ng:=cI.bu Ng r (bo w) Z (mC h_);replace ME:=cI.bu ME r (bo w) Z (mC h_);replace Ls:=yh.bu Ls r (bo w) Z (mC h_);replace Na:=yh.bu Na r (bo w) Z (mC h_);replace Mk:=eR.bu Mk r (bo w) Z (mC h_);replace My:=eR.bu My r (bo w) Z (mC h_);clear r Z;conv=>whnf
   refine ct.mk (fun hd=>absurd (aL hd) (by omega)) (fun _=>?_);conv=>whnf
   refine⟨adq,Om,by omega,?_⟩;conv=>whnf
   refine⟨[.bool q0,.slice q1 q2 q3,.bool q4,.slice q5 q6 q7],rfl,fun O J r j u hu=>?_,?_⟩
   ·exact My.at_ (i:=0+j) r (bo w) (by rcases j with _|_|_|_|j<;>first|exact hu|cases hu) (by simp only[eW,kK,aG];try (congr 1;omega))
   conv=>whnf
   refine⟨adw,Qp,by omega,?_⟩;conv=>whnf
   refine⟨[.bool n0_,.slice n1_ n2_ n3_,.bool n4_,.slice n5_ n6_ n7_],rfl,fun O J r j u hu=>?_,?_⟩
   ·exact Mk.at_ (i:=4+j) r (bo w) (by rcases j with _|_|_|_|j<;>first|exact hu|cases hu) (by simp only[eW,kK,aG];try (congr 1;omega))
   conv=>whnf
   refine cE L (fun _ J v Y=>∃z,v= .int .i64 z/\z<=0) (fun O J r=>(j3 (S:=Cf w Lz) (Rel.old r (bo w)) ((cI.rel Lf r (bo w)).v (by omega)) ((cI.rel ME r (bo w)).v (by omega))).mono fun _ _ ⟨v2,e1,e2,e3⟩=>⟨v2,e1,e2,⟨_,e3,Ee.2 MX.2⟩⟩) ?_;rintro O _ _ _ RW r Z L h_ ⟨zc,rfl,MW⟩;replace hW:=jE.bu hW r (bo w) Z (mC h_);replace hY:=cF.bu hY r (bo w) Z (mC h_);replace Lf:=cI.bu Lf r (bo w) Z (mC h_);replace Ng:=cI.bu Ng r (bo w) Z (mC h_);replace ME:=cI.bu ME r (bo w) Z (mC h_);replace Ls:=yh.bu Ls r (bo w) Z (mC h_);replace Na:=yh.bu Na r (bo w) Z (mC h_);replace Mk:=eR.bu Mk r (bo w) Z (mC h_);replace My:=eR.bu My r (bo w) Z (mC h_);clear r Z;conv=>whnf
   refine ct.mk (fun hd=>absurd (aL hd) (by omega)) (fun _=>?_);conv=>whnf
   refine cC hτ eG [.x 0,.x 1,.x 2,.x 3,.x 4,.x 5,.x 6,.x 7,.x 8,.x 9,.x 10,.x 11,.x 12,.x 13,.x 14,.x 15,.x 16,.x 17,.x 18,.x 19,.x 20,.x 21,.x 22,.x 23,.x 24,.x 25,.x 26,.x 27,.x 28,.x 29,.x 30] (by kernel_rfl) (by kernel_rfl) ?_;conv=>whnf
   refine⟨by omega,?_⟩;conv=>whnf
   refine⟨_,yj Qg,?_⟩;conv=>whnf
   cases b0
   ·conv=>whnf
    refine⟨adw,Qp,by omega,?_⟩;conv=>whnf
    refine⟨.slice ev_ ev.2.1.length fv_,fun O J r=>Mk.at_ (i:=8) r (bo w) rfl (by simp only[eW,kK,aG];try (congr 1;omega)),?_⟩;conv=>whnf
    refine cE L (fun _ J v Y=>∃d,v= .bool d/\(CH=ev.2.1->d=true)) (fun O J r=>zo (S:=(fun g=>g<J.heap.size)) (fun g R=>R) (r.jm (T:=(fun g=>g<J.heap.size)) (id:=3) (sz:=1) (G:=zv CH) (m:=CH.length) rfl (by rw[Mp];omega) (by unfold maxLen;omega) (by decide) (Kw CH) fun A=>(r.low 3 _ rfl A).2) (me.bw (me.br Ls fun g R=>Rel.same r (bo w) R) fun g R=>Rel.old r (bo w) g R)) ?_;rintro O wa43 v43 wb43 iv43 r Z L h_ ⟨dd,rfl,Q6⟩;replace hW:=jE.bu hW r (bo w) Z (mC h_);replace hY:=cF.bu hY r (bo w) Z (mC h_);replace Lf:=cI.bu Lf r (bo w) Z (mC h_);replace Ng:=cI.bu Ng r (bo w) Z (mC h_);replace ME:=cI.bu ME r (bo w) Z (mC h_);replace Ls:=yh.bu Ls r (bo w) Z (mC h_);replace Na:=yh.bu Na r (bo w) Z (mC h_);replace Mk:=eR.bu Mk r (bo w) Z (mC h_);replace My:=eR.bu My r (bo w) Z (mC h_);clear r Z
    cases dd
    ·conv=>whnf
     have Pq:=hL.put (b:=false) Oh Qg (fun h=>by cases h) (fun h=>Q6 (hPLk h).1);refine⟨by omega,?_⟩;conv=>whnf
     refine⟨by rw[bv,aK];omega,_,j4 (show k<lo.length by omega),?_⟩;conv=>whnf
     refine cC hτ eG [.x 0,.x 1,.x 2,.x 3,.x 4,.x 5,.x 6,.x 7,.x 8,.x 9,.x 10,.x 11,.x 12,.x 13,.x 14,.x 15,.x 16,.x 17,.x 18,.x 19,.x 20,.x 21,.x 22,.x 23,.x 24,.x 25,.x 26,.x 27,.x 28,.x 29,.x 30] (by kernel_rfl) (by kernel_rfl) ?_;conv=>whnf
     refine⟨by omega,?_⟩;conv=>whnf
     refine⟨_,yj LF,?_⟩;conv=>whnf
     cases b1
     ·conv=>whnf
      refine⟨adw,Qp,by omega,?_⟩;conv=>whnf
      refine⟨.slice eu_ ev.2.2.length fu_,fun O J r=>Mk.at_ (i:=9) r (bo w) rfl (by simp only[eW,kK,aG];try (congr 1;omega)),?_⟩;conv=>whnf
      refine cE L (fun _ J v Y=>∃d,v= .bool d/\(CH=ev.2.2->d=true)) (fun O J r=>zo (S:=(fun g=>g<J.heap.size)) (fun g R=>R) (r.jm (T:=(fun g=>g<J.heap.size)) (id:=3) (sz:=1) (G:=zv CH) (m:=CH.length) rfl (by rw[Mp];omega) (by unfold maxLen;omega) (by decide) (Kw CH) fun A=>(r.low 3 _ rfl A).2) (me.bw (me.br Na fun g R=>Rel.same r (bo w) R) fun g R=>Rel.old r (bo w) g R)) ?_;rintro O wa44 v44 wb44 iv44 r Z L h_ ⟨dd,rfl,Q6⟩;replace hW:=jE.bu hW r (bo w) Z (mC h_);replace hY:=cF.bu hY r (bo w) Z (mC h_);replace Lf:=cI.bu Lf r (bo w) Z (mC h_);replace Ng:=cI.bu Ng r (bo w) Z (mC h_);replace ME:=cI.bu ME r (bo w) Z (mC h_);replace Ls:=yh.bu Ls r (bo w) Z (mC h_);replace Na:=yh.bu Na r (bo w) Z (mC h_);replace Mk:=eR.bu Mk r (bo w) Z (mC h_);replace My:=eR.bu My r (bo w) Z (mC h_);clear r Z
      cases dd
      ·conv=>whnf
       have Oc:=hH.put (b:=false) Oh LF (fun h=>by cases h) (fun h=>Q6 (Py h).1);refine⟨by omega,?_⟩;conv=>whnf
       refine⟨by rw[bv,aK];omega,_,j4 (show k<OG.length by omega),?_⟩;conv=>whnf
       refine⟨((k+1:Nat):Int),wo,?_⟩;conv=>whnf
       intro In w6 D;exact⟨(k+1,_,_,w6,_),⟨Ks,L.tr D.cG,hW.rel D (bo w),cF.rel hY D (bo w),Pq,Oc⟩,Sub.gn [] D,by dsimp only;omega⟩
      ·conv=>whnf
       refine⟨adq,Om,by omega,?_⟩;conv=>whnf
       refine⟨[.bool q0,.slice q1 q2 q3,.bool q4,.slice q5 q6 q7],rfl,fun O J r j u hu=>?_,?_⟩
       ·exact My.at_ (i:=0+j) r (bo w) (by rcases j with _|_|_|_|j<;>first|exact hu|cases hu) (by simp only[eW,kK,aG];try (congr 1;omega))
       conv=>whnf
       refine⟨adw,Qp,by omega,?_⟩;conv=>whnf
       refine⟨[.bool n0_,.slice n1_ n2_ n3_,.bool n4_,.slice n5_ n6_ n7_],rfl,fun O J r j u hu=>?_,?_⟩
       ·exact Mk.at_ (i:=4+j) r (bo w) (by rcases j with _|_|_|_|j<;>first|exact hu|cases hu) (by simp only[eW,kK,aG];try (congr 1;omega))
       conv=>whnf
       refine cE L (fun _ J v Y=>∃z,v= .int .i64 z/\(q=ev.1.2->z=0)) (fun O J r=>(j3 (S:=Cf w iv44) (Rel.old r (bo w)) ((cI.rel Lf r (bo w)).v (by omega)) ((cI.rel ME r (bo w)).v (by omega))).mono fun _ _ ⟨v2,e1,e2,e3⟩=>⟨v2,e1,e2,⟨_,e3,fun h=>by rw[h,Rat.sub_self];rfl⟩⟩) ?_;rintro O wa45 v45 wb45 iv45 r Z L h_ ⟨zc,rfl,MW⟩;replace hW:=jE.bu hW r (bo w) Z (mC h_);replace hY:=cF.bu hY r (bo w) Z (mC h_);replace Lf:=cI.bu Lf r (bo w) Z (mC h_);replace Ng:=cI.bu Ng r (bo w) Z (mC h_);replace ME:=cI.bu ME r (bo w) Z (mC h_);replace Ls:=yh.bu Ls r (bo w) Z (mC h_);replace Na:=yh.bu Na r (bo w) Z (mC h_);replace Mk:=eR.bu Mk r (bo w) Z (mC h_);replace My:=eR.bu My r (bo w) Z (mC h_);clear r Z;conv=>whnf
       have Oc:=hH.put (b:=zc==0) Oh LF (fun h=>by cases h) (fun h=>by rw[MW (Py h).2];rfl);refine⟨by omega,?_⟩;conv=>whnf
       refine⟨by rw[bv,aK];omega,_,j4 (show k<OG.length by omega),?_⟩;conv=>whnf
       refine⟨((k+1:Nat):Int),wo,?_⟩;conv=>whnf
       intro In w6 D;exact⟨(k+1,_,_,w6,_),⟨Ks,L.tr D.cG,hW.rel D (bo w),cF.rel hY D (bo w),Pq,Oc⟩,Sub.gn [] D,by dsimp only;omega⟩
     ·conv=>whnf
      have Oc:=hH.put (b:=true) Oh LF (fun _=>rfl) (fun _=>rfl);refine⟨by omega,?_⟩;conv=>whnf
      refine⟨by rw[bv,aK];omega,_,j4 (show k<OG.length by omega),?_⟩;conv=>whnf
      refine⟨((k+1:Nat):Int),wo,?_⟩;conv=>whnf
      intro In w6 D;exact⟨(k+1,_,_,w6,_),⟨Ks,L.tr D.cG,hW.rel D (bo w),cF.rel hY D (bo w),Pq,Oc⟩,Sub.gn [] D,by dsimp only;omega⟩
    ·conv=>whnf
     refine⟨adq,Om,by omega,?_⟩;conv=>whnf
     refine⟨[.bool q0,.slice q1 q2 q3,.bool q4,.slice q5 q6 q7],rfl,fun O J r j u hu=>?_,?_⟩
     ·exact My.at_ (i:=0+j) r (bo w) (by rcases j with _|_|_|_|j<;>first|exact hu|cases hu) (by simp only[eW,kK,aG];try (congr 1;omega))
     conv=>whnf
     refine⟨adw,Qp,by omega,?_⟩;conv=>whnf
     refine⟨[.bool m0,.slice m1 m2 m3,.bool m4,.slice m5 m6 m7],rfl,fun O J r j u hu=>?_,?_⟩
     ·exact Mk.at_ (i:=0+j) r (bo w) (by rcases j with _|_|_|_|j<;>first|exact hu|cases hu) (by simp only[eW,kK,aG];try (congr 1;omega))
     conv=>whnf
     refine cE L (fun _ J v Y=>∃z,v= .int .i64 z/\(q=ev.1.1->z=0)) (fun O J r=>(j3 (S:=Cf w iv43) (Rel.old r (bo w)) ((cI.rel Lf r (bo w)).v (by omega)) ((cI.rel Ng r (bo w)).v (by omega))).mono fun _ _ ⟨v2,e1,e2,e3⟩=>⟨v2,e1,e2,⟨_,e3,fun h=>by rw[h,Rat.sub_self];rfl⟩⟩) ?_;rintro O wa44 v44 wb44 iv44 r Z L h_ ⟨zc,rfl,MW⟩;replace hW:=jE.bu hW r (bo w) Z (mC h_);replace hY:=cF.bu hY r (bo w) Z (mC h_);replace Lf:=cI.bu Lf r (bo w) Z (mC h_);replace Ng:=cI.bu Ng r (bo w) Z (mC h_);replace ME:=cI.bu ME r (bo w) Z (mC h_);replace Ls:=yh.bu Ls r (bo w) Z (mC h_);replace Na:=yh.bu Na r (bo w) Z (mC h_);replace Mk:=eR.bu Mk r (bo w) Z (mC h_);replace My:=eR.bu My r (bo w) Z (mC h_);clear r Z;conv=>whnf
     have Pq:=hL.put (b:=zc==0) Oh Qg (fun h=>by cases h) (fun h=>by rw[MW (hPLk h).2];rfl);refine⟨by omega,?_⟩;conv=>whnf
     refine⟨by rw[bv,aK];omega,_,j4 (show k<lo.length by omega),?_⟩;conv=>whnf
     refine cC hτ eG [.x 0,.x 1,.x 2,.x 3,.x 4,.x 5,.x 6,.x 7,.x 8,.x 9,.x 10,.x 11,.x 12,.x 13,.x 14,.x 15,.x 16,.x 17,.x 18,.x 19,.x 20,.x 21,.x 22,.x 23,.x 24,.x 25,.x 26,.x 27,.x 28,.x 29,.x 30] (by kernel_rfl) (by kernel_rfl) ?_;conv=>whnf
     refine⟨by omega,?_⟩;conv=>whnf
     refine⟨_,yj LF,?_⟩;conv=>whnf
     cases b1
     ·conv=>whnf
      refine⟨adw,Qp,by omega,?_⟩;conv=>whnf
      refine⟨.slice eu_ ev.2.2.length fu_,fun O J r=>Mk.at_ (i:=9) r (bo w) rfl (by simp only[eW,kK,aG];try (congr 1;omega)),?_⟩;conv=>whnf
      refine cE L (fun _ J v Y=>∃d,v= .bool d/\(CH=ev.2.2->d=true)) (fun O J r=>zo (S:=(fun g=>g<J.heap.size)) (fun g R=>R) (r.jm (T:=(fun g=>g<J.heap.size)) (id:=3) (sz:=1) (G:=zv CH) (m:=CH.length) rfl (by rw[Mp];omega) (by unfold maxLen;omega) (by decide) (Kw CH) fun A=>(r.low 3 _ rfl A).2) (me.bw (me.br Na fun g R=>Rel.same r (bo w) R) fun g R=>Rel.old r (bo w) g R)) ?_;rintro O _ _ _ iv45 r Z L h_ ⟨dd,rfl,Q6⟩;replace hW:=jE.bu hW r (bo w) Z (mC h_);replace hY:=cF.bu hY r (bo w) Z (mC h_);replace Lf:=cI.bu Lf r (bo w) Z (mC h_);replace Ng:=cI.bu Ng r (bo w) Z (mC h_);replace ME:=cI.bu ME r (bo w) Z (mC h_);replace Ls:=yh.bu Ls r (bo w) Z (mC h_);replace Na:=yh.bu Na r (bo w) Z (mC h_);replace Mk:=eR.bu Mk r (bo w) Z (mC h_);replace My:=eR.bu My r (bo w) Z (mC h_);clear r Z
      cases dd
      ·conv=>whnf
       have Oc:=hH.put (b:=false) Oh LF (fun h=>by cases h) (fun h=>Q6 (Py h).1);refine⟨by omega,?_⟩;conv=>whnf
       refine⟨by rw[bv,aK];omega,_,j4 (show k<OG.length by omega),?_⟩;conv=>whnf
       refine⟨((k+1:Nat):Int),wo,?_⟩;conv=>whnf
       intro In w6 D;exact⟨(k+1,_,_,w6,_),⟨Ks,L.tr D.cG,hW.rel D (bo w),cF.rel hY D (bo w),Pq,Oc⟩,Sub.gn [] D,by dsimp only;omega⟩
      ·conv=>whnf
       refine⟨adq,Om,by omega,?_⟩;conv=>whnf
       refine⟨[.bool q0,.slice q1 q2 q3,.bool q4,.slice q5 q6 q7],rfl,fun O J r j u hu=>?_,?_⟩
       ·exact My.at_ (i:=0+j) r (bo w) (by rcases j with _|_|_|_|j<;>first|exact hu|cases hu) (by simp only[eW,kK,aG];try (congr 1;omega))
       conv=>whnf
       refine⟨adw,Qp,by omega,?_⟩;conv=>whnf
       refine⟨[.bool n0_,.slice n1_ n2_ n3_,.bool n4_,.slice n5_ n6_ n7_],rfl,fun O J r j u hu=>?_,?_⟩
       ·exact Mk.at_ (i:=4+j) r (bo w) (by rcases j with _|_|_|_|j<;>first|exact hu|cases hu) (by simp only[eW,kK,aG];try (congr 1;omega))
       conv=>whnf
       refine cE L (fun _ J v Y=>∃z,v= .int .i64 z/\(q=ev.1.2->z=0)) (fun O J r=>(j3 (S:=Cf w iv45) (Rel.old r (bo w)) ((cI.rel Lf r (bo w)).v (by omega)) ((cI.rel ME r (bo w)).v (by omega))).mono fun _ _ ⟨v2,e1,e2,e3⟩=>⟨v2,e1,e2,⟨_,e3,fun h=>by rw[h,Rat.sub_self];rfl⟩⟩) ?_;rintro O _ _ _ iv46 r Z L h_ ⟨zc,rfl,MW⟩;replace hW:=jE.bu hW r (bo w) Z (mC h_);replace hY:=cF.bu hY r (bo w) Z (mC h_);replace Lf:=cI.bu Lf r (bo w) Z (mC h_);replace Ng:=cI.bu Ng r (bo w) Z (mC h_);replace ME:=cI.bu ME r (bo w) Z (mC h_);replace Ls:=yh.bu Ls r (bo w) Z (mC h_);replace Na:=yh.bu Na r (bo w) Z (mC h_);replace Mk:=eR.bu Mk r (bo w) Z (mC h_);replace My:=eR.bu My r (bo w) Z (mC h_);clear r Z;conv=>whnf
       have Oc:=hH.put (b:=zc==0) Oh LF (fun h=>by cases h) (fun h=>by rw[MW (Py h).2];rfl);refine⟨by omega,?_⟩;conv=>whnf
       refine⟨by rw[bv,aK];omega,_,j4 (show k<OG.length by omega),?_⟩;conv=>whnf
       refine⟨((k+1:Nat):Int),wo,?_⟩;conv=>whnf
       intro In w6 D;exact⟨(k+1,_,_,w6,_),⟨Ks,L.tr D.cG,hW.rel D (bo w),cF.rel hY D (bo w),Pq,Oc⟩,Sub.gn [] D,by dsimp only;omega⟩
     ·conv=>whnf
      have Oc:=hH.put (b:=true) Oh LF (fun _=>rfl) (fun _=>rfl);refine⟨by omega,?_⟩;conv=>whnf
      refine⟨by rw[bv,aK];omega,_,j4 (show k<OG.length by omega),?_⟩;conv=>whnf
      refine⟨((k+1:Nat):Int),wo,?_⟩;conv=>whnf
      intro In w6 D;exact⟨(k+1,_,_,w6,_),⟨Ks,L.tr D.cG,hW.rel D (bo w),cF.rel hY D (bo w),Pq,Oc⟩,Sub.gn [] D,by dsimp only;omega⟩
   ·conv=>whnf
    have Pq:=hL.put (b:=true) Oh Qg (fun _=>rfl) (fun _=>rfl);refine⟨by omega,?_⟩;conv=>whnf
    refine⟨by rw[bv,aK];omega,_,j4 (show k<lo.length by omega),?_⟩;conv=>whnf
    refine cC hτ eG [.x 0,.x 1,.x 2,.x 3,.x 4,.x 5,.x 6,.x 7,.x 8,.x 9,.x 10,.x 11,.x 12,.x 13,.x 14,.x 15,.x 16,.x 17,.x 18,.x 19,.x 20,.x 21,.x 22,.x 23,.x 24,.x 25,.x 26,.x 27,.x 28,.x 29,.x 30] (by kernel_rfl) (by kernel_rfl) ?_;conv=>whnf
    refine⟨by omega,?_⟩;conv=>whnf
    refine⟨_,yj LF,?_⟩;conv=>whnf
    cases b1
    ·conv=>whnf
     refine⟨adw,Qp,by omega,?_⟩;conv=>whnf
     refine⟨.slice eu_ ev.2.2.length fu_,fun O J r=>Mk.at_ (i:=9) r (bo w) rfl (by simp only[eW,kK,aG];try (congr 1;omega)),?_⟩;conv=>whnf
     refine cE L (fun _ J v Y=>∃d,v= .bool d/\(CH=ev.2.2->d=true)) (fun O J r=>zo (S:=(fun g=>g<J.heap.size)) (fun g R=>R) (r.jm (T:=(fun g=>g<J.heap.size)) (id:=3) (sz:=1) (G:=zv CH) (m:=CH.length) rfl (by rw[Mp];omega) (by unfold maxLen;omega) (by decide) (Kw CH) fun A=>(r.low 3 _ rfl A).2) (me.bw (me.br Na fun g R=>Rel.same r (bo w) R) fun g R=>Rel.old r (bo w) g R)) ?_;rintro O _ _ _ iv43 r Z L h_ ⟨dd,rfl,Q6⟩;replace hW:=jE.bu hW r (bo w) Z (mC h_);replace hY:=cF.bu hY r (bo w) Z (mC h_);replace Lf:=cI.bu Lf r (bo w) Z (mC h_);replace Ng:=cI.bu Ng r (bo w) Z (mC h_);replace ME:=cI.bu ME r (bo w) Z (mC h_);replace Ls:=yh.bu Ls r (bo w) Z (mC h_);replace Na:=yh.bu Na r (bo w) Z (mC h_);replace Mk:=eR.bu Mk r (bo w) Z (mC h_);replace My:=eR.bu My r (bo w) Z (mC h_);clear r Z
     cases dd
     ·conv=>whnf
      have Oc:=hH.put (b:=false) Oh LF (fun h=>by cases h) (fun h=>Q6 (Py h).1);refine⟨by omega,?_⟩;conv=>whnf
      refine⟨by rw[bv,aK];omega,_,j4 (show k<OG.length by omega),?_⟩;conv=>whnf
      refine⟨((k+1:Nat):Int),wo,?_⟩;conv=>whnf
      intro In w6 D;exact⟨(k+1,_,_,w6,_),⟨Ks,L.tr D.cG,hW.rel D (bo w),cF.rel hY D (bo w),Pq,Oc⟩,Sub.gn [] D,by dsimp only;omega⟩
     ·conv=>whnf
      refine⟨adq,Om,by omega,?_⟩;conv=>whnf
      refine⟨[.bool q0,.slice q1 q2 q3,.bool q4,.slice q5 q6 q7],rfl,fun O J r j u hu=>?_,?_⟩
      ·exact My.at_ (i:=0+j) r (bo w) (by rcases j with _|_|_|_|j<;>first|exact hu|cases hu) (by simp only[eW,kK,aG];try (congr 1;omega))
      conv=>whnf
      refine⟨adw,Qp,by omega,?_⟩;conv=>whnf
      refine⟨[.bool n0_,.slice n1_ n2_ n3_,.bool n4_,.slice n5_ n6_ n7_],rfl,fun O J r j u hu=>?_,?_⟩
      ·exact Mk.at_ (i:=4+j) r (bo w) (by rcases j with _|_|_|_|j<;>first|exact hu|cases hu) (by simp only[eW,kK,aG];try (congr 1;omega))
      conv=>whnf
      refine cE L (fun _ J v Y=>∃z,v= .int .i64 z/\(q=ev.1.2->z=0)) (fun O J r=>(j3 (S:=Cf w iv43) (Rel.old r (bo w)) ((cI.rel Lf r (bo w)).v (by omega)) ((cI.rel ME r (bo w)).v (by omega))).mono fun _ _ ⟨v2,e1,e2,e3⟩=>⟨v2,e1,e2,⟨_,e3,fun h=>by rw[h,Rat.sub_self];rfl⟩⟩) ?_;rintro O _ _ _ iv44 r Z L h_ ⟨zc,rfl,MW⟩;replace hW:=jE.bu hW r (bo w) Z (mC h_);replace hY:=cF.bu hY r (bo w) Z (mC h_);replace Lf:=cI.bu Lf r (bo w) Z (mC h_);replace Ng:=cI.bu Ng r (bo w) Z (mC h_);replace ME:=cI.bu ME r (bo w) Z (mC h_);replace Ls:=yh.bu Ls r (bo w) Z (mC h_);replace Na:=yh.bu Na r (bo w) Z (mC h_);replace Mk:=eR.bu Mk r (bo w) Z (mC h_);replace My:=eR.bu My r (bo w) Z (mC h_);clear r Z;conv=>whnf
      have Oc:=hH.put (b:=zc==0) Oh LF (fun h=>by cases h) (fun h=>by rw[MW (Py h).2];rfl);refine⟨by omega,?_⟩;conv=>whnf
      refine⟨by rw[bv,aK];omega,_,j4 (show k<OG.length by omega),?_⟩;conv=>whnf
      refine⟨((k+1:Nat):Int),wo,?_⟩;conv=>whnf
      intro In w6 D;exact⟨(k+1,_,_,w6,_),⟨Ks,L.tr D.cG,hW.rel D (bo w),cF.rel hY D (bo w),Pq,Oc⟩,Sub.gn [] D,by dsimp only;omega⟩
    ·conv=>whnf
     have Oc:=hH.put (b:=true) Oh LF (fun _=>rfl) (fun _=>rfl);refine⟨by omega,?_⟩;conv=>whnf
     refine⟨by rw[bv,aK];omega,_,j4 (show k<OG.length by omega),?_⟩;conv=>whnf
     refine⟨((k+1:Nat):Int),wo,?_⟩;conv=>whnf
     intro In w6 D;exact⟨(k+1,_,_,w6,_),⟨Ks,L.tr D.cG,hW.rel D (bo w),cF.rel hY D (bo w),Pq,Oc⟩,Sub.gn [] D,by dsimp only;omega⟩
  have Ks:k=fv.cols:=by have:=aI Ks;omega
  rw[Ks]at hL hH;replace hL:=hL.next
  replace hH:=hH.next
  conv=>whnf
  refine⟨((c+1:Nat):Int),wo,?_⟩;conv=>whnf
  intro In w6 D;exact⟨(c+1,lo,OG,w6,_),⟨Nc,L.tr D.cG,hW.rel D (bo w),hL,hH⟩,Sub.gn [] D,by dsimp only;omega⟩
 have Nc:c=2^G.length:=by have:=aI Nc;omega
 rw[Nc]at hL hH;have hLt:∀(k:Nat) b,lo[k]? =some b->b=true:=fun k b h=>hL.at_ (fun t _=>by rw[hPL];exact Hh _ _) h;have hHt:∀(k:Nat) b,OG[k]? =some b->b=true:=fun k b h=>hH.at_ (fun t _=>by rw[hPH];exact GM _ _) h;have hll:=hL.1;have hhl:=hH.1;clear hL hH;conv=>whnf
 refine⟨Nat×World×Iv,fun z=>⟨[(6,sV aw EX.length cw),(8,.o (.s 1 0 EX.length EX.length)),(9,.o (.s 2 0 EX.length EX.length)),(20,iN z.1)],[(1,.arr T.bool (bv lo)),(2,.arr T.bool (bv OG))],3,z.2.2,z.2.1⟩,fun z=>EX.length-z.1,
  fun z=>z.1<=EX.length/\dO w.heap.size w z.2.1,?_,?_⟩
 ·intro O J D;exact⟨(0,J,_),⟨aP _,L.tr D.cG⟩,Sub.gn [] D⟩
 clear L hW;rintro⟨k,w7,iv⟩ ⟨W,L⟩;dsimp only at W L ⊢;conv=>whnf
 refine ct.mk ?_ ?_<;>intro Ks
 ·have Ks:k<EX.length:=by simpa using Ks
  obtain⟨b0,Qg⟩:∃b,lo[k]? =some b:=⟨_,aA (by omega)⟩
  obtain⟨b1,LF⟩:∃b,OG[k]? =some b:=⟨_,aA (by omega)⟩
  obtain rfl:=hLt k b0 Qg;obtain rfl:=hHt k b1 LF;conv=>whnf
  refine⟨by omega,?_⟩;conv=>whnf
  refine⟨_,yj Qg,?_⟩;conv=>whnf
  refine⟨by omega,?_⟩;conv=>whnf
  refine⟨_,yj LF,?_⟩;conv=>whnf
  refine⟨((k+1:Nat):Int),wo,?_⟩;conv=>whnf
  intro In w6 D;exact⟨(k+1,w6,_),⟨Ks,L.tr D.cG⟩,Sub.gn [] D,by dsimp only;omega⟩
 conv=>whnf
 refine bp (cE L (fun _ J v Y=>v= .bool true) (fun O J r=>om J) ?_);rintro O _ _ _ iv91 r Z L h_ rfl;clear r Z;conv=>whnf
 exact rtn L fun I' we re=>rfl
end Go.Ex
