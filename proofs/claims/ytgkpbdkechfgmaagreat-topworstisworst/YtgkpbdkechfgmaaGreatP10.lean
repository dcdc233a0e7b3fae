/- Texts X141 to L34: lemmas, each with its conditions. -/
import Derived.Test.YtgkpbdkechfgmaaGreatP9
namespace Go.Ex
open Go Go.Sx Go.Proofs
variable{z:Int}{p:Int×Int×Int}{b:Int×Int×Rat}{x:Ld}{xs:List (Int×Int×Int)}{seen:List (Int×Int×Rat)}{U:List (List Value)}{s:List Int}{l:List Ld}{qs:List Rat}{G:List Value}{j:Nat}{S:Nat->Prop}{a an:Option Addr}{q:Rat}{v vb vl vn vs:Value}{w:World}{f:eS}
theorem yX(V: -2000000000<=z)(I:z<=2000000000):rl (z:Rat)<=1:=by
 have e1:((z:Rat)).num=z:=rfl;have e2:((z:Rat)).den=1:=rfl;rw[rl,e1,e2];have a1:ln z.natAbs<=1:=fc.2 (by rw[rY];omega);have a2:ln 1<=1:=by decide
 omega
set_option maxHeartbeats 1000000 in
theorem Cd(X:Old S w)(hf:dN w S vn vb vs f)(Kt:tL f):
  eF PG F'.mn #[.agg #[vn,vb,vs]] w (eM w fun v' Y=>(∃vr,v'= .agg #[vr,.int .i64 f.cols]/\cQ Y (Nf w Y) vr (cK f))/\gH f.cols (cK f)/\Ht (cK f) 2):=by
 have L:=bR w;obtain⟨an,cn,ab,cb,aq,cq,rfl,rfl,rfl,Nd,OK,PW⟩:=hf.shape;obtain⟨Pp,hb60,hs60⟩:=And.intro Kt.n (And.intro Kt.b Kt.s);have PT:f.cols=f.bars.length+f.cJ.length:=rfl;refine pq (by simp) ?_;refine⟨((f.cols:Nat):Int),by rw[wrap64]<;>first|rfl|omega,?_⟩;refine bp (bz (Id:=fun _ J v Y=>Gc Y (Nf J Y) v (iK f)/\Hu (iK f) 800000000/\(∀l∈iK f,l.length=f.cols)/\(iK f).length=3*f.nodes.length) (fun O J r=>Eb (S:=S) (oS X r) (hf.br (kS L r X)) Kt) ?_);rintro O M5 v1 MS r Z LF ⟨k1,ML,hwid,ND⟩;replace L:=L.tr LF;have hM:=Gc.bw k1 fun g R=>R.df (B:=w.heap.size) (S:=FF) r.bs (iv:=(M5.heap.size,MS.heap.size)::[]) aH;generalize (M5.heap.size,MS.heap.size)::[]=LC at*
 obtain⟨am,cm,rfl,Og,PQ⟩:=dZ.shape hM;unfold maxLen at PQ
 refine⟨Nat×List Value×World×Iv,fun z=>⟨[(20,iN z.1),(2,pP 1 0),(3,pP 2 0),(18,.o (.v (.slice am (iK f).length cm))),(19,.o (.v (.int .i64 (iK f).length)))],[(2,.box T.dJ [.w 3 z.2.1.length,.v (.int .i64 ((f.cols:Nat):Int))]),(3,.vec T.jC 1 z.2.1),(1,.box T.dJ [.v (.slice none 0 0),.v (.int .i64 0)])],4,z.2.2.2,z.2.2.1⟩,fun z=>(iK f).length-z.1,
  fun z=>z.1<=(iK f).length/\dO w.heap.size w z.2.2.1/\Gc z.2.2.1 (Cf w z.2.2.2) (.slice am (iK f).length cm) (iK f)/\dL z.2.2.1 (Cf w z.2.2.2) z.2.1 ((cK f).take z.1),?_,?_⟩
 ·intro O J r;exact⟨(0,[],J,_),⟨aP _,L.tr r.cG,hM.br fun g R=>Rel.same r (bo w) R,by simp[dL]⟩,Sub.BI 2 0 T.jC 1 rfl rfl (by simp[lj,SV.sc,At.sc,ij]) r fun If r1=>Sub.gn [] r1⟩
 rintro⟨k,rv,w1,iv⟩ ⟨W,L,hM,hK⟩;dsimp only at W L hM hK ⊢;have Mz:rv.length=k:=by rw[hK.1,ah,cK,aK];omega
 refine ct.mk ?_ ?_<;>intro Ks
 ·have Ks:k<(iK f).length:=by simpa using Ks
  obtain⟨l,hl⟩:∃l,(iK f)[k]? =some l:=⟨_,aA Ks⟩
  have hlw:=hwid l (aD hl);have Kz:(cK f).take (k+1)=(cK f).take k++[dh l]:=by rw[List.take_add_one,show(cK f)[k]? =some (dh l) by rw[cK,aM,hl];rfl];rfl
  obtain⟨adm,um,Nk,SA,km1,km2⟩:=dZ.load hM hl;obtain⟨a0,c0,rfl,Mt,-⟩:=me.shape SA;refine⟨adm,Nk,by omega,.slice a0 l.length c0,fun O J r=>?_,?_⟩
  ·rw[aG,cA (w:=w1) (Y:=J) (by rw[dP];exact Rel.same r (bo w) km1)];exact km2
  refine⟨l.length,l.length,rfl,rfl,aE _,by omega,by omega,Nat×Nat×World×Iv,fun z=>⟨[(6,.o (.v (.slice (some ⟨z.2.1,0,none⟩) l.length l.length))),(5,sV a0 l.length c0),(27,sV a0 l.length c0),(28,iZ l.length),(29,iN z.1),(20,iN k),(2,pP 1 0),(3,pP 2 0),(18,.o (.v (.slice am (iK f).length cm))),(19,.o (.v (.int .i64 (iK f).length)))],[(2,.box T.dJ [.w 3 rv.length,.v (.int .i64 ((f.cols:Nat):Int))]),(3,.vec T.jC 1 rv),(1,.box T.dJ [.v (.slice none 0 0),.v (.int .i64 0)])],5,z.2.2.2,z.2.2.1⟩,fun z=>l.length-z.1,
   fun z=>z.1<=l.length/\dO w.heap.size w z.2.2.1/\Gc z.2.2.1 (Bs FF w.heap.size z.2.2.2 (.slice (some ⟨z.2.1,0,none⟩) l.length l.length)) (.slice am (iK f).length cm) (iK f)/\me z.2.2.1 (Bs FF w.heap.size z.2.2.2 (.slice (some ⟨z.2.1,0,none⟩) l.length l.length)) (.slice a0 l.length c0) l/\dL z.2.2.1 (Bs FF w.heap.size z.2.2.2 (.slice (some ⟨z.2.1,0,none⟩) l.length l.length)) rv ((cK f).take k)/\iD z.2.2.1 FF w.heap.size z.2.2.2 (.slice (some ⟨z.2.1,0,none⟩) l.length l.length) l.length z.1 (dh l),?_,?_⟩
  ·intro O J r;have hf:=iD.wi (S:=FF) (n:=l.length) r (id:=4) rfl (by unfold maxLen;omega) (dh l);have hbs:∀g,Cf w iv g->Bs FF w.heap.size (((O 4).g,(O 4).g+1)::iv) (.slice (some ⟨(O 4).g,0,none⟩) l.length l.length) g:=fun g R=>⟨R.mono fun p hp=>aB _ hp,fun e=>Rel.not r (bo w) R 4 _ rfl (r.fits (id:=4) rfl).1 (by injection e)⟩
   exact⟨(0,(O 4).g,J,((O 4).g,(O 4).g+1)::iv),⟨aP _,L.tr r.cG,(hM.br fun g R=>Rel.same r (bo w) R).bw hbs,(SA.br fun g R=>Rel.same r (bo w) R).bw hbs,dL.bw (hK.rel r (bo w)) hbs,hf⟩,
    Sub.wi r (id:=4) (t:=6) rfl rfl ⟨rfl,rfl,rfl,trivial⟩ rfl ⟨rfl,rfl,rfl,rfl,rfl,rfl,rfl,rfl,rfl,trivial⟩ (by simp[lj,SV.sc,At.sc])⟩
  rintro⟨i,gx,Y,iv⟩ ⟨N,L,hM,SA,hK,hX⟩;dsimp only at N L hM SA hK hX ⊢;refine ct.mk ?_ ?_<;>intro Kp
  ·have Kp:i<l.length:=by simpa using Kp
   obtain⟨z,hz⟩:∃z,l[i]? =some z:=⟨_,aA Kp⟩
   have Ry:=ML l (aD hl) z (aD hz);obtain⟨adz,haz,kz1,kz2⟩:=SA.at hz;refine⟨adz,haz,by omega,.int .i64 z,fun O J r=>?_,?_⟩
   ·rw[aG,cA (w:=Y) (Y:=J) (by rw[dP];exact Rel.same r (bo w) kz1.1)];exact kz2
   refine bp (bz (Id:=fun _ J v Y=>cI Y (Nf J Y) v (z:Rat)) (fun O J r=>jT z J (by omega) (by omega)) ?_);rintro O M4 v3 MY r Z LF OB;replace L:=L.tr LF;have hbs:∀g,Bs FF w.heap.size iv (.slice (some ⟨gx,0,none⟩) l.length l.length) g->Bs FF w.heap.size ((M4.heap.size,MY.heap.size)::iv) (.slice (some ⟨gx,0,none⟩) l.length l.length) g:=fun g R=>Bs.mono (fun x F=>aB _ F) R;have hbk:∀g,Bs FF w.heap.size iv (.slice (some ⟨gx,0,none⟩) l.length l.length) g->MY.heap[g]? =Y.heap[g]? :=fun g R=>(Z.block g (Rel.old r (bo w) g R.1)).trans (Bs.same r (bo w) g R);replace hM:=(hM.br hbk).bw hbs;replace SA:=(SA.br hbk).bw hbs;replace hK:=dL.bw (dL.br hK hbk) hbs;have hd:=OB.bw (S':=Bs FF w.heap.size ((M4.heap.size,MY.heap.size)::iv) (.slice (some ⟨gx,0,none⟩) l.length l.length)) fun g R=>R.elim (fun h=>h.elim) fun h=>⟨.inr ⟨by have:=r.bs;omega,_,_,aH,h.1,h.2⟩,fun e=>by have:=Rel.old r (bo w) g (hX.new g e);omega⟩
   replace hX:=hX.bu (E:=(M4.heap.size,MY.heap.size)::iv) r (bo w) Z fun x F=>aB _ F;generalize (M4.heap.size,MY.heap.size)::iv=LV at*
   obtain⟨A0,A1,A2,A3,A4,A5,A6,A7,rfl⟩:=hd.shape;refine⟨⟨gx,0,none⟩,rfl,by omega,?_⟩;intro O J r;obtain⟨g,R,V,I,K,h4⟩:=hX.store (j:=i) Kp (by rw[dh,aM,hz];rfl) hd r (bo w);injection R with R;injection R with R;subst R;refine⟨V,I,K,fun w5 OL=>?_⟩;obtain⟨k1,k2,k3,k4⟩:=h4 w5 OL;have Ln:=(L.tr r.cG).tr k3;have Qw:=Bs.kept (v:=(.slice (some ⟨gx,0,none⟩) l.length l.length)) r (bo w) k2 fun g e=>e;have hM2:=hM.br Qw;have hLm2:=SA.br Qw;have Nl:=dL.br hK Qw;refine⟨((i+1:Nat):Int),wo,?_⟩;intro In w6 D;exact⟨(i+1,gx,w6,_),⟨Kp,Ln.tr D.cG,hM2.br (Bs.same D (bo w)),hLm2.br (Bs.same D (bo w)),dL.br Nl (Bs.same D (bo w)),k1.rel D (bo w)⟩,Sub.gn [] D,by dsimp only;omega⟩
  have Kp:i=l.length:=aS N (by simpa using Kp);rw[Kp]at hX;have hX2:=(hX.done (by simp[dh])).c;replace hK:=(dL.bw hK fun g R=>R.1).push (u:=(.slice (some ⟨gx,0,none⟩) l.length l.length)) (x:=dh l) rfl (by rw[show l.length=(dh l).length by simp[dh]]at hX2 ⊢;exact hX2);rw[<-Kz]at hK;replace hM:=hM.bw fun g R=>R.1;refine .inl ?_;refine⟨by simp,by omega,by unfold maxLen;omega,((k+1:Nat):Int),wo,?_⟩;intro In w3 D;exact⟨(k+1,rv++[(.slice (some ⟨gx,0,none⟩) l.length l.length)],w3,_),⟨Ks,L.tr D.cG,hM.br fun g R=>Rel.same D (bo w) R,hK.rel D (bo w)⟩,Sub.gn [(3,6)] D ⟨by dsimp only;rw[List.length_append,List.length_singleton];rfl,rfl,rfl,trivial⟩,by dsimp only;omega⟩
 have Ks:k=(iK f).length:=aS W (by simpa using Ks);rw[List.take_of_length_le (by rw[cK,aK];omega)]at hK;intro I' we re;refine⟨_,rfl,L.tr re.cG,⟨_,rfl,rv,?_,hK.1,fun i u x k1 k2=>cF.bw (cF.rel (hK.2.2 i u x k1 k2) re (bo w)) fun g R=>Cv.nw R re⟩,fun x F=>?_,fun x F q hq=>?_⟩
 ·rw[<-hK.1];exact(re.lB (id:=3) (sz:=1) (m:=rv.length) rfl (by simp) (by unfold maxLen;omega) (by decide) hK.2.1).bw fun g R=>.inr R
 ·obtain⟨l,hl,rfl⟩:=aT.1 F;rw[dh,aK];exact hwid l hl
 ·obtain⟨l,hl,rfl⟩:=aT.1 F;obtain⟨z,hz,rfl⟩:=aT.1 hq;have:=ML l hl z hz;have:=yX (z:=z) (by omega) (by omega);omega
def IW(x:Ld):List Int:=[x.2.1,x.2.2.1,x.2.2.2]
def fY(s:List Int)(x:Ld):Nat->List Int
 |0=>s
 |k+1=>Ae (fY s x k) (3*x.1+k).toNat ((IW x).getD k 0)
def dw(n:Nat)(l:List Ld):Nat->List Int
 |0=>List.replicate (3*n) 0
 |i+1=>fY (dw n l i) (l.getD i (0,0,0,0)) 3
def gg(f:eS)(l:List Ld):List Rat:=dh (dw f.nodes.length l l.length)
structure gP(n:Nat)(l:List Ld):Prop where
 len:l.length<=200
 ld:∀x∈l,(0<=x.1/\x.1<n)/\(-1000000<=x.2.1/\x.2.1<=1000000)/\(-1000000<=x.2.2.1/\x.2.2.1<=1000000)/\(-1000000<=x.2.2.2/\x.2.2.2<=1000000)
theorem mQ(s:List Int)(x:Ld):∀k,(fY s x k).length=s.length
 |0=>rfl
 |k+1=>by rw[fY,Ae,bH];exact mQ s x k
theorem iL(n:Nat)(l:List Ld):∀i,(dw n l i).length=3*n
 |0=>aa ..
 |i+1=>by rw[dw,mQ];exact iL n l i
theorem BR{k:Nat}{d:Int}(e:3*x.1+(k:Int)=j)(hd:(IW x).getD k 0=d)(hz:(fY s x k)[j]? =some z):(fY s x k).set j (z+d)=fY s x (k+1):=by
 rw[fY,Ae,hd,e,aG,show(fY s x k).getD j 0=z by rw[List.getD,hz];rfl]
def Hv(s:List Int)(t:Int):Prop:=∀z∈s,-t<=z/\z<=t
theorem Hv.set{t t2:Int}(h:Hv s t)(ht:t<=t2)(hz: -t2<=z/\z<=t2):Hv (s.set j z) t2:=fun y hy=>by
 rcases bB hy with hy|rfl
 ·have:=h y hy;omega
 ·exact hz
def zv(l:List Int):List Value:=l.map fun z=>.int .i64 z
theorem JL(l:List Int):(zv l).length=l.length:=aK ..
theorem I0{l:List Int}(h:l[j]? =some z):(zv l)[j]? =some (.int .i64 z):=by rw[zv,aM,h];rfl
theorem JM{l:List Int}(h:j<l.length):(zv l).take j++[.int .i64 z]++(zv l).drop (j+1)=zv (l.set j z):=by
 rw[zv,zv,List.map_set];exact gw (by rw[aK];exact h)
theorem rC(f:eS):(cX f).length=f.cols:=by simp[cX,eS.cols]
theorem dx.I1(h:U.length=qs.length/\∀(j:Nat) G q,U[j]? =some G->qs[j]? =some q->kl w S G q)(hc:kl w S G q):
  (U++[G]).length=(qs++[q]).length/\∀(j:Nat) c p,(U++[G])[j]? =some c->(qs++[q])[j]? =some p->kl w S c p:=by
 refine⟨by simp[h.1],fun j x p V I=>?_⟩;rcases aO j U.length with N|N
 ·rw[aJ N]at V;rw[aJ (by rw[<-h.1];exact N)]at I;exact h.2 j x p V I
 ·have NU:j=U.length:=by have:=(aC.1 V).1;simp at this;omega
  subst NU;rw[aN (aE _),bC]at V;rw[h.1,aN (aE _),bC]at I;simp at V I;subst V I;exact hc
set_option maxHeartbeats 1000000 in
theorem yY{cn:Nat}(X:Old S w)(hl:dQ w S vl l)(Pp:f.nodes.length<=20)(Kt:gP f.nodes.length l)
  {ab aq:Option Addr} {nb cb nq cq:Nat} (hvb:vb= .slice ab nb cb) (Mw:vs= .slice aq nq cq):
  eF PG F'.nf #[.agg #[.slice an f.nodes.length cn,vb,vs],vl] w (eM w fun v' Y=>dV Y FF w.heap.size [(w.heap.size,Y.heap.size)] v' (3*f.nodes.length) (gg f l)/\∀q∈gg f l,rl q<=1):=by
 subst hvb Mw;have L:=bR w;obtain⟨al,cl,rfl,Lo,ND⟩:=hl.shape;have hl200:=Kt.len;refine qp (by simp) ?_;refine⟨((3*f.nodes.length:Nat):Int),wo,?_⟩;obtain⟨m,hm⟩:∃m,3*f.nodes.length=m:=⟨_,rfl⟩
 rw[hm]
 refine⟨m,m,rfl,rfl,aE _,by omega,by omega,Nat×World,fun z=>⟨[(5,.o (.s 1 0 m m)),(18,sV al l.length cl),(19,iZ l.length),(20,iN z.1)],[(1,.arr T.int (zv (dw f.nodes.length l z.1)))],2,[],z.2⟩,fun z=>l.length-z.1,
  fun z=>z.1<=l.length/\dO w.heap.size w z.2/\Hv (dw f.nodes.length l z.1) (3000000*z.1),?_,?_⟩
 ·intro O J D;exact⟨(0,J),⟨aP _,L.tr D.cG,fun z hz=>by rw[dw]at hz;rw[bN hz];exact⟨Int.le_refl _,Int.le_refl _⟩⟩,Sub.gn [] D ⟨by dsimp only;rw[dw,hm,zv,List.map_replicate];rfl,trivial⟩⟩
 rintro⟨i,w1⟩ ⟨N,L,ML⟩;dsimp only at N L ML ⊢;refine ct.mk ?_ ?_<;>intro Kp
 ·have Kp:i<l.length:=by simpa using Kp
  obtain⟨x,F⟩:∃x,l[i]? =some x:=⟨_,aA Kp⟩
  obtain⟨A,QK,Pk,hx3⟩:=Kt.ld x (aD F);obtain⟨kn,hkn⟩:=Int.eq_ofNat_of_zero_le A.1;obtain⟨adx,G,Ly,hP,-,Lw⟩:=hl.load (by decide) F;have hP:G=[.int .i64 x.1,.int .i64 x.2.1,.int .i64 x.2.2.1,.int .i64 x.2.2.2]:=hP;subst hP
  refine⟨adx,Ly,by omega,[.int .i64 x.1,.int .i64 x.2.1,.int .i64 x.2.2.1,.int .i64 x.2.2.2],rfl,rdO Lw L X,Nat×World,fun z=>⟨[(5,.o (.s 1 0 m m)),(7,pP 2 0),(30,.a [.v (.int .i64 x.2.1),.v (.int .i64 x.2.2.1),.v (.int .i64 x.2.2.2)]),(31,iN z.1),(18,sV al l.length cl),(19,iZ l.length),(20,iN i)],[(2,.box T.vu [.v (.int .i64 x.1),.v (.int .i64 x.2.1),.v (.int .i64 x.2.2.1),.v (.int .i64 x.2.2.2)]),(1,.arr T.int (zv (fY (dw f.nodes.length l i) x z.1)))],3,[],z.2⟩,fun z=>3-z.1,
   fun z=>z.1<=3/\dO w.heap.size w z.2/\Hv (fY (dw f.nodes.length l i) x z.1) (3000000*i+1000000*z.1),?_,?_⟩
  ·intro O J D;exact⟨(0,J),⟨aP _,L.tr D.cG,ML⟩,Sub.gn [] D⟩
  rintro⟨k,w3⟩ ⟨W,L,ML⟩;dsimp only at W L ML ⊢;refine ct.mk ?_ ?_<;>intro Ks
  ·have Ks:k<3:=by have:=aL Ks;omega
   obtain⟨d,hd⟩:∃d,(IW x).getD k 0=d:=⟨_,rfl⟩
   have hdb: -1000000<=d/\d<=1000000:=by
    rw[<-hd,IW];rcases(show k=0\/k=1\/k=2 by omega)with rfl|rfl|rfl<;>simp[List.getD]<;>omega
   have hLl:(fY (dw f.nodes.length l i) x k).length=m:=by rw[mQ,iL,hm]
   obtain⟨z,hz⟩:∃z,(fY (dw f.nodes.length l i) x k)[3*kn+k]? =some z:=⟨_,aA (by omega)⟩
   have Ry:=ML z (aD hz);have QT:3*x.1+(k:Int)=((3*kn+k:Nat):Int):=by omega
   have MA:=BR QT hd hz;have QV:=ML.set (j:=3*kn+k) (z:=z+d) (t2:=3000000*i+1000000*(k+1:Nat)) (by omega) (by omega);rw[MA]at QV;refine wj hτ (G:= #[.int .i64 x.2.1,.int .i64 x.2.2.1,.int .i64 x.2.2.2]) rfl rfl rfl (fun _=>rfl) rfl ⟨by omega,by omega⟩ (u:=.int .i64 d) ?_ (fun O w4 r=>?_)
   ·rw[<-hd,IW,aG];rcases(show k=0\/k=1\/k=2 by omega)with rfl|rfl|rfl<;>rfl
   replace L:=L.tr r.cG;refine⟨3*x.1,wo,((3*kn+k:Nat):Int),wo,by omega,.int .i64 z,by rw[aG,az,aU];exact I0 hz,z+d,wo,by omega,by rw[JL];omega,zv (fY (dw f.nodes.length l i) x (k+1)),?_,?_⟩
   ·rw[aG,az,aU,<-MA];exact JM (by omega)
   refine⟨((k+1:Nat):Int),wo,?_⟩;intro In w6 D;exact⟨(k+1,w6),⟨Ks,L.tr D.cG,QV⟩,Sub.gn [] D,by dsimp only;omega⟩
  have Ks:k=3:=by have:=aI Ks;omega
  subst Ks;have MA:fY (dw f.nodes.length l i) x 3=dw f.nodes.length l (i+1):=by rw[dw,show l.getD i (0,0,0,0)=x by rw[List.getD,F];rfl]
  rw[MA]at ML ⊢;refine⟨((i+1:Nat):Int),wo,?_⟩;intro In w6 D;exact⟨(i+1,w6),⟨Kp,L.tr D.cG,fun z hz=>by have:=ML z hz;dsimp only;omega⟩,Sub.gn [] D,by dsimp only;omega⟩
 have Kp:i=l.length:=aS N (by simpa using Kp);subst Kp;obtain⟨s,hs⟩:∃s,dw f.nodes.length l l.length=s:=⟨_,rfl⟩
 have NT:s.length=m:=by rw[<-hs,iL,hm]
 rw[hs]at ML ⊢;unfold gg;rw[hs]
 refine⟨m,m,rfl,rfl,aE _,by omega,by omega,Nat×List (List Value)×Iv×World,fun z=>⟨[(10,.o (.s 2 0 m m)),(51,.o (.s 1 0 m m)),(52,iZ m),(53,iN z.1)],[(2,.arr T.Rat z.2.1.flatten),(1,.arr T.int (zv s))],3,z.2.2.1,z.2.2.2⟩,fun z=>m-z.1,
  fun z=>z.1<=m/\dO w.heap.size w z.2.2.2/\fF z.2.2.2 (Cf w z.2.2.1) m z.1 z.2.1 (dh s),?_,?_⟩
 ·intro O J r;exact⟨(0,List.replicate m f0,_,J),⟨aP _,L.tr r.cG,fF.start _ _ _ _⟩,Sub.gn [] r⟩
 rintro⟨i,U,iv,w1⟩ ⟨Qh,L,hF⟩;dsimp only at Qh L hF ⊢;refine ct.mk ?_ ?_<;>intro Kp
 ·have Kp:i<m:=by simpa using Kp
  obtain⟨z,hz⟩:∃z,s[i]? =some z:=⟨_,aA (by omega)⟩
  have Ry:=ML z (aD hz);refine⟨by omega,.int .i64 z,by rw[aG,az,aU];exact I0 hz,?_⟩;refine bp (cE L (fun _ J v Y=>cI Y (Nf J Y) v (z:Rat)) (fun O J r=>jT z J (by omega) (by omega)) ?_);rintro O _ _ _ LC r Z L h_ A;replace hF:=hF.bu r (bo w) Z (mC h_);have hd:=A.df (S:=FF) r.bs (mN h_);obtain⟨A0,A1,A2,A3,A4,A5,A6,A7,rfl⟩:=hd.shape;have Kz:=hF.next Kp (q:=_) (by rw[dh,aM,hz];rfl) hd
  refine⟨by omega,by have:=hF.flat;omega,(U.set i [.bool A0,.slice A1 A2 A3,.bool A4,.slice A5 A6 A7]).flatten,?_,?_⟩
  ·have:=jU (G:=[.bool A0,.slice A1 A2 A3,.bool A4,.slice A5 A6 A7]) hF.four (show i<U.length by rw[hF.len];exact Kp);rw[<-this];simp
  refine⟨((i+1:Nat):Int),wo,?_⟩;intro In w3 D;exact⟨(i+1,U.set i [.bool A0,.slice A1 A2 A3,.bool A4,.slice A5 A6 A7],_,w3),⟨Kp,L.tr D.cG,Kz.rel D (bo w)⟩,Sub.gn [] D,by dsimp only;omega⟩
 have Kp:i=m:=aS Qh (by simpa using Kp);subst Kp;intro I' we re
 exact⟨_,rfl,L.tr re.cG,hF.done (by rw[dh,aK];exact NT) (by unfold maxLen;omega) re (id:=2) rfl (re.nn 2 _ rfl (by intros;simp) (by simp)),fun q hq=>by
  obtain⟨z,hz,rfl⟩:=aT.1 hq;have:=ML z hz
  exact yX (by omega) (by omega)⟩
set_option maxHeartbeats 1000000 in
theorem Ec(X:Old S w)(hf:dN w S vn vb vs f)(Kt:tL f):
  eF PG F'.ni #[.agg #[vn,vb,vs]] w (eM w fun v' Y=>dx Y (Nw S w Y) v' (cX f)):=by
 have L:=bR w;obtain⟨an,cn,ab,cb,aq,cq,rfl,rfl,rfl,Nd,OK,PW⟩:=hf.shape;have Qk:=hf;refine qt (by simp) ?_
 refine⟨Nat×List (List Value)×World,fun z=>⟨[(3,.o (.w 1 z.2.1.length)),(9,sV ab f.bars.length cb),(10,iZ f.bars.length),(11,iN z.1),(1,pP 0 0)],[(1,.vec T.Rat 4 z.2.1.flatten),(0,.box T.Frame [.v (.slice an f.nodes.length cn),.v (.slice ab f.bars.length cb),.v (.slice aq f.cJ.length cq)])],2,[],z.2.2⟩,fun z=>f.bars.length-z.1,
  fun z=>z.1<=f.bars.length/\dO w.heap.size w z.2.2/\(∀G∈z.2.1,G.length=4)/\(z.2.1.length=((fun i=>(f.bars.take i).map (·.2.2)) z.1).length/\∀(j:Nat) G q,z.2.1[j]? =some G->((fun i=>(f.bars.take i).map (·.2.2)) z.1)[j]? =some q->kl z.2.2 S G q),?_,?_⟩
 ·intro O J r;exact⟨(0,[],J),⟨aP _,L.tr r.cG,fun G h=>(by cases h),rfl,fun j G q h=>by cases h⟩,Sub.nil 3 T.Rat 4 rfl (by simp[lj,SV.sc,At.sc,ij]) r fun If r1=>Sub.gn [] r1⟩
 rintro⟨k,U,w1⟩ ⟨W,L,PU,hR⟩;dsimp only at W L PU hR ⊢;have LN:=gD PU;refine ct.mk ?_ ?_<;>intro Ks
 ·have Ks:k<f.bars.length:=by simpa using Ks
  have hb60:=Kt.b;have hs60:=Kt.s;obtain⟨b,hb⟩:∃b,f.bars[k]? =some b:=⟨_,aA Ks⟩
  have MA:(fun i=>(f.bars.take i).map (·.2.2)) (k+1)=(fun i=>(f.bars.take i).map (·.2.2)) k++[b.2.2]:=by dsimp only;rw[List.take_add_one,hb];simp
  obtain⟨adb,G,M8,hF,-,MT⟩:=Qk.bars.load (by decide) hb;obtain⟨g0,g1,g2,g3,g4,g5,g6,g7,rfl,hF⟩:=hF;refine⟨adb,M8,by omega,[.int .i64 b.1,.int .i64 b.2.1,.bool g0,.slice g1 g2 g3,.bool g4,.slice g5 g6 g7],rfl,rdO MT L X,?_⟩;have Rn:kl w1 S [.bool g0,.slice g1 g2 g3,.bool g4,.slice g5 g6 g7] b.2.2:=⟨_,_,_,_,_,_,_,_,rfl,hF.br fun g R=>L.block g (X g R)⟩
  have NJ:=dx.I1 hR Rn;rw[<-MA]at NJ;have OF:U.flatten++([.bool g0,.slice g1 g2 g3,.bool g4,.slice g5 g6 g7]:List Value)=(U++([[.bool g0,.slice g1 g2 g3,.bool g4,.slice g5 g6 g7]]:List (List Value))).flatten:=by simp
  have NF:U.length<=200:=by rw[hR.1,aK,ah];have:=Kt.b;omega
  refine .inl ?_;refine⟨by omega,by omega,by unfold maxLen;omega,((k+1:Nat):Int),wo,?_⟩;intro In w3 D
  exact⟨(k+1,U++[[.bool g0,.slice g1 g2 g3,.bool g4,.slice g5 g6 g7]],w3),⟨Ks,L.tr D.cG,fun G hc=>by
   rcases bG.1 hc with hc|hc
   ·exact PU G hc
   ·rw[bK.1 hc];rfl,NJ.1,fun j G q V I=>(NJ.2 j G q V I).br fun g R=>(D.cG).block g (X g R)⟩,Sub.gn [(1,4)] D ⟨by dsimp only;rw[<-OF];rfl,rfl,trivial⟩ ⟨by dsimp only;rw[List.length_append,List.length_singleton];rfl,rfl,rfl,rfl,rfl,trivial⟩,by dsimp only;omega⟩
 have Ks:k=f.bars.length:=aS W (by simpa using Ks);subst Ks;have Mz:U.length=f.bars.length:=by rw[hR.1,aK,ah];omega
 rw[bQ,show f.bars.map (·.2.2)=f.bars.map (·.2.2)++(f.cJ.take 0).map (·.2.2) by simp]at hR
 refine⟨Nat×List (List Value)×World,fun z=>⟨[(3,.o (.w 1 z.2.1.length)),(22,sV aq f.cJ.length cq),(23,iZ f.cJ.length),(24,iN z.1)],[(1,.vec T.Rat 4 z.2.1.flatten),(0,.box T.Frame [.v (.slice an f.nodes.length cn),.v (.slice ab f.bars.length cb),.v (.slice aq f.cJ.length cq)])],2,[],z.2.2⟩,fun z=>f.cJ.length-z.1,
  fun z=>z.1<=f.cJ.length/\dO w.heap.size w z.2.2/\(∀G∈z.2.1,G.length=4)/\(z.2.1.length=((fun i=>f.bars.map (·.2.2)++(f.cJ.take i).map (·.2.2)) z.1).length/\∀(j:Nat) G q,z.2.1[j]? =some G->((fun i=>f.bars.map (·.2.2)++(f.cJ.take i).map (·.2.2)) z.1)[j]? =some q->kl z.2.2 S G q),?_,?_⟩
 ·intro O J D;exact⟨(0,U,J),⟨aP _,L.tr D.cG,PU,hR.1,fun j G q V I=>(hR.2 j G q V I).br fun g R=>(D.cG).block g (X g R)⟩,Sub.gn [] D⟩
 rintro⟨k,U,w1⟩ ⟨W,L,PU,hR⟩;dsimp only at W L PU hR ⊢;have LN:=gD PU;refine ct.mk ?_ ?_<;>intro Ks
 ·have Ks:k<f.cJ.length:=by simpa using Ks
  have hb60:=Kt.b;have hs60:=Kt.s;obtain⟨b,hb⟩:∃b,f.cJ[k]? =some b:=⟨_,aA Ks⟩
  have MA:(fun i=>f.bars.map (·.2.2)++(f.cJ.take i).map (·.2.2)) (k+1)=(fun i=>f.bars.map (·.2.2)++(f.cJ.take i).map (·.2.2)) k++[b.2.2]:=by dsimp only;rw[List.take_add_one,hb];simp
  obtain⟨adb,G,M8,hF,-,MT⟩:=Qk.cJ.load (by decide) hb;obtain⟨g0,g1,g2,g3,g4,g5,g6,g7,rfl,hF⟩:=hF;refine⟨adb,M8,by omega,[.int .i64 b.1,.int .i64 b.2.1,.bool g0,.slice g1 g2 g3,.bool g4,.slice g5 g6 g7],rfl,rdO MT L X,?_⟩;have Rn:kl w1 S [.bool g0,.slice g1 g2 g3,.bool g4,.slice g5 g6 g7] b.2.2:=⟨_,_,_,_,_,_,_,_,rfl,hF.br fun g R=>L.block g (X g R)⟩
  have NJ:=dx.I1 hR Rn;rw[<-MA]at NJ;have OF:U.flatten++([.bool g0,.slice g1 g2 g3,.bool g4,.slice g5 g6 g7]:List Value)=(U++([[.bool g0,.slice g1 g2 g3,.bool g4,.slice g5 g6 g7]]:List (List Value))).flatten:=by simp
  have NF:U.length<=200:=by rw[hR.1,List.length_append,aK,aK,ah];have:=Kt.b;have:=Kt.s;omega
  refine .inl ?_;refine⟨by omega,by omega,by unfold maxLen;omega,((k+1:Nat):Int),wo,?_⟩;intro In w3 D
  exact⟨(k+1,U++[[.bool g0,.slice g1 g2 g3,.bool g4,.slice g5 g6 g7]],w3),⟨Ks,L.tr D.cG,fun G hc=>by
   rcases bG.1 hc with hc|hc
   ·exact PU G hc
   ·rw[bK.1 hc];rfl,NJ.1,fun j G q V I=>(NJ.2 j G q V I).br fun g R=>(D.cG).block g (X g R)⟩,Sub.gn [(1,4)] D ⟨by dsimp only;rw[<-OF];rfl,rfl,trivial⟩ ⟨by dsimp only;rw[List.length_append,List.length_singleton];rfl,rfl,rfl,rfl,trivial⟩,by dsimp only;omega⟩
 have Ks:k=f.cJ.length:=aS W (by simpa using Ks);subst Ks;intro I' we re;have hfull:f.bars.map (·.2.2)++(f.cJ.take f.cJ.length).map (·.2.2)=cX f:=by rw[bQ];rfl
 rw[hfull]at hR;refine⟨_,rfl,L.tr re.cG,U,?_,hR.1,PU,fun j G q k1 k2=>((hR.2 j G q k1 k2).br fun g R=>(re.cG).block g (X g R)).bw fun g R=>.inl R⟩;have Lo:=hR.1
 have h5:=re.lB (id:=1) (sz:=4) (m:=U.length) rfl LN (by have:=Kt.b;have:=Kt.s;rw[Lo,rC];unfold eS.cols maxLen;omega) (by decide) (fun u hu=>by
  obtain⟨G,hc,hu⟩:=List.mem_flatten.1 hu;obtain⟨j,hj⟩:=aQ hc;obtain⟨_,_,_,_,_,_,_,_,rfl,_⟩:=hR.2 j G _ hj (aA (by rw[<-Lo];exact(aC.1 hj).1));simp at hu
  rcases hu with rfl|rfl|rfl|rfl<;>rfl)
 rw[<-Lo];exact h5.bw fun g R=>.inr R
def cS{α:Type}(e:List α->α->Int):List α->List α->Int
 |_,[]=>0
 |seen,x::r=>if e seen x=0 then cS e (seen++[x]) r else e seen x
section
variable{α:Type}{e:List α->α->Int}{xs:List α}
theorem di{k:Nat}{x:α}(F:xs[k]? =some x)(h0:e (xs.take k) x=0):cS e (xs.take k) (xs.drop k)=cS e (xs.take (k+1)) (xs.drop (k+1)):=by
 have W:=(aC.1 F).1;have I:=(aC.1 F).2;rw[List.drop_eq_getElem_cons W,I,cS,if_pos h0,List.take_add_one,F];rfl
theorem cD{k:Nat}{x:α}{c:Int}(F:xs[k]? =some x)(h0:e (xs.take k) x=c)(hc:c≠0):cS e (xs.take k) (xs.drop k)=c:=by
 have W:=(aC.1 F).1;have I:=(aC.1 F).2;rw[List.drop_eq_getElem_cons W,I,cS,aF (by rw[h0];exact hc),h0]
theorem eQ{k:Nat}(W:xs.length<=k):cS e (xs.take k) (xs.drop k)=0:=by
 rw[List.drop_eq_nil_of_le W];rfl
theorem eV(h:cS e [] xs=0):∀k x,xs[k]? =some x->e (xs.take k) x=0:=by
 have key:∀k,k<=xs.length->cS e (xs.take k) (xs.drop k)=0/\∀j x,j<k->xs[j]? =some x->e (xs.take j) x=0:=fun k=>by
  induction k with
  |zero=>intro _;exact⟨by simpa using h,fun j x hj=>by omega⟩
  |succ k ih=>
   intro W;obtain⟨V,I⟩:=ih (by omega);obtain⟨x,F⟩:∃x,xs[k]? =some x:=⟨_,aA (by omega)⟩
   have h0:e (xs.take k) x=0:=by
    by_cases h0:e (xs.take k) x=0
    ·exact h0
    ·rw[cD F rfl h0]at V;exact V
   refine⟨by rw[<-di F h0];exact V,fun j y hj hy=>?_⟩;rcases aO j k with Ns|Ns
   ·exact I j y Ns hy
   ·have:j=k:=by omega
    subst this;rw[F]at hy;injection hy with hy;rw[<-hy];exact h0
 exact fun k x F=>(key xs.length (aE _)).2 k x (aC.1 F).1 F
theorem kA(h:∀k x,xs[k]? =some x->e (xs.take k) x=0):cS e [] xs=0:=by
 have key:∀k,k<=xs.length->cS e [] xs=cS e (xs.take k) (xs.drop k):=fun k=>by
  induction k with
  |zero=>intro _;simp
  |succ k ih=>
   intro W;obtain⟨x,F⟩:∃x,xs[k]? =some x:=⟨_,aA (by omega)⟩
   rw[ih (by omega),di F (h k x F)]
 rw[key xs.length (aE _),eQ (aE _)]
end
def j2(n:Int):Prop:= -1000000<=n/\n<=1000000
instance (n : Int) : Decidable (j2 n) := by unfold j2; infer_instance
def eC(seen:List (Int×Int×Int))(p:Int×Int×Int):Int:=if j2 p.1/\j2 p.2.1/\j2 p.2.2 then(if p∈seen then 12 else 0)else 2
def fM(b:Int×Int×Rat):Int×Int:=(min b.1 b.2.1,max b.1 b.2.1)
def gq(n:Nat)(i:Int):Prop:=0<=i/\i<n
instance (n : Nat) (i : Int) : Decidable (gq n i) := by unfold gq; infer_instance
def eJ(n:Nat)(seen:List (Int×Int×Rat))(b:Int×Int×Rat):Int:=
 if gq n b.1/\gq n b.2.1 then(if b.1=b.2.1 then 3 else if fM b∈seen.map fM then 5 else if b.2.2<=0 then 2 else 0)else 6
def gW(s:Int×Int×Rat):Int×Int:=(s.1,s.2.1)
def jV(n:Nat)(seen:List (Int×Int×Rat))(s:Int×Int×Rat):Int:=
 if gq n s.1 then(if 0<=s.2.1/\s.2.1<=2 then(if gW s∈seen.map gW then 5 else if s.2.2<0 then 2 else 0)else 2)else 6
def eB(f:eS):Int:=
 if 20<f.nodes.length\/60<f.bars.length\/60<f.cJ.length then 8 else
  if cS eC [] f.nodes≠0 then cS eC [] f.nodes else
   if cS (eJ f.nodes.length) [] f.bars≠0 then cS (eJ f.nodes.length) [] f.bars else cS (jV f.nodes.length) [] f.cJ
def iX(n:Nat)(x:Ld):Int:=if gq n x.1 then(if j2 x.2.1/\j2 x.2.2.1/\j2 x.2.2.2 then 0 else 2)else 6
def gp(n:Nat)(l:List Ld):Int:=if 200<l.length then 8 else cS (fun _=>iX n) [] l
def gZ(f:eS)(l:List Ld):Int:=if eB f≠0 then eB f else gp f.nodes.length l
theorem qE{seen:List (Int×Int×Int)}:eC seen p=0↔(j2 p.1/\j2 p.2.1/\j2 p.2.2)/\p∉seen:=by
 unfold eC;split<;>rename_i h
 ·split<;>rename_i I<;>simp[h,I]
 ·simp[h]
theorem o9{n:Nat}:eJ n seen b=0↔(gq n b.1/\gq n b.2.1)/\b.1≠b.2.1/\fM b∉seen.map fM/\0<b.2.2:=by
 unfold eJ;rw[<-Rat.not_le];by_cases h:gq n b.1/\gq n b.2.1
 ·rw[if_pos h];by_cases I:b.1=b.2.1
  ·rw[if_pos I];exact⟨(fun e=>by cases e),fun e=>absurd I e.2.1⟩
  ·rw[aF I];by_cases K:fM b∈seen.map fM
   ·rw[if_pos K];exact⟨(fun e=>by cases e),fun e=>absurd K e.2.2.1⟩
   ·rw[aF K];by_cases h4:b.2.2<=0
    ·rw[if_pos h4];exact⟨(fun e=>by cases e),fun e=>absurd h4 e.2.2.2⟩
    ·rw[aF h4];exact⟨fun _=>⟨h,I,K,h4⟩,fun _=>rfl⟩
 ·rw[aF h];exact⟨(fun e=>by cases e),fun e=>absurd e.1 h⟩
theorem o8{n:Nat}{s:Int×Int×Rat}:jV n seen s=0↔gq n s.1/\(0<=s.2.1/\s.2.1<=2)/\gW s∉seen.map gW/\0<=s.2.2:=by
 unfold jV;rw[<-Rat.not_lt];by_cases h:gq n s.1<;>by_cases I:0<=s.2.1/\s.2.1<=2<;>by_cases K:gW s∈seen.map gW<;>by_cases h4:s.2.2<0<;>simp only[h,I,K,h4]<;>simp
theorem vZ{n:Nat}:iX n x=0↔gq n x.1/\j2 x.2.1/\j2 x.2.2.1/\j2 x.2.2.2:=by
 unfold iX;split<;>rename_i h
 ·split<;>rename_i I<;>simp[h,I]
 ·simp[h]
theorem yM(h:eB f=0):(f.nodes.length<=20/\f.bars.length<=60/\f.cJ.length<=60)/\cS eC [] f.nodes=0/\cS (eJ f.nodes.length) [] f.bars=0/\cS (jV f.nodes.length) [] f.cJ=0:=by
 unfold eB at h;split at h<;>rename_i V
 ·cases h
 ·split at h<;>rename_i I
  ·exact absurd h I
  ·split at h<;>rename_i K
   ·exact absurd h K
   ·exact⟨by omega,by simpa using I,by simpa using K,h⟩
theorem uD(h:eB f=0):tL f:=by
 obtain⟨⟨V,I,K⟩,A,hb,hs⟩:=yM h;refine⟨fun p hp=>?_,fun b Qe=>?_,fun s PS=>?_,V,I,K⟩
 ·obtain⟨k,W⟩:=aQ hp;exact(qE.1 (eV A k p W)).1
 ·obtain⟨k,W⟩:=aQ Qe;exact(o9.1 (eV hb k b W)).1
 ·obtain⟨k,W⟩:=aQ PS;have:=o8.1 (eV hs k s W);exact⟨this.1,this.2.1⟩
theorem uK{n:Nat}(h:gp n l=0):gP n l:=by
 unfold gp at h;split at h<;>rename_i V
 ·cases h
 ·refine⟨by omega,fun x F=>?_⟩;obtain⟨k,W⟩:=aQ F;exact vZ.1 (eV h k x W)
theorem mf(h:gZ f l=0):eB f=0/\gp f.nodes.length l=0:=by
 unfold gZ at h;split at h<;>rename_i V
 ·exact absurd h V
 ·exact⟨by simpa using V,h⟩
theorem gk(n:Int)(w:World):eF PG F'.kC #[.int .i64 n,.int .i64 1000000] w (eM w fun v' _=>∃d,v'= .bool d/\(d=true↔j2 n)):=by
 have L:=bR w;refine ki (by simp) ?_;refine⟨-1000000,by decide,?_⟩;refine ct.mk ?_ ?_<;>intro V
 ·intro I' we re;have V:=aL V;exact⟨_,rfl,L.tr re.cG,_,rfl,by rw[decide_eq_true_iff];exact⟨fun h=>⟨V,h⟩,fun h=>h.2⟩⟩
 ·intro I' we re;have V:=aI V;exact⟨_,rfl,L.tr re.cG,_,rfl,(fun h=>by cases h),fun h=>absurd h.1 V⟩
theorem Ce(n:Int)(w:World)(an ab aq:Option Addr)(ln cn nb cb nq cq:Nat):eF PG F'.tI #[.agg #[.slice an ln cn,.slice ab nb cb,.slice aq nq cq],.int .i64 n] w (eM w fun v' _=>∃d,v'= .bool d/\(d=true↔gq ln n)):=by
 have L:=bR w;refine wR (by simp) ?_;refine ct.mk ?_ ?_<;>intro V
 ·intro I' we re;have V:=aL V;exact⟨_,rfl,L.tr re.cG,_,rfl,by rw[decide_eq_true_iff];exact⟨fun h=>⟨V,h⟩,fun h=>h.2⟩⟩
 ·intro I' we re;have V:=aI V;exact⟨_,rfl,L.tr re.cG,_,rfl,(fun h=>by cases h),fun h=>absurd h.1 V⟩
theorem z7(x y0 y1 y2:Int)(n:Nat)(w:World):eF PG F'.k8 #[.agg #[.int .i64 x,.int .i64 y0,.int .i64 y1,.int .i64 y2],.int .i64 n] w (eM w fun v' _=>v'= .int .i64 (iX n (x,y0,y1,y2))):=by
 have L:=bR w;refine nt (by simp) ?_;refine ct.mk ?_ ?_<;>intro V
 ·have V:=aL V;exact rtn L fun I' we re=>by show Value.int .i64 _=_;rw[iX,aF (by unfold gq;omega)]
 have V:=aI V;refine ct.mk ?_ ?_<;>intro I
 ·have I:=aL I;exact rtn L fun I' we re=>by show Value.int .i64 _=_;rw[iX,aF (by unfold gq;omega)]
 have I:=aI I;have hh:gq n x:=by unfold gq;omega
 refine bp (cE L (fun _ J v Y=>∃d,v= .bool d/\(d=true↔j2 y0)) (fun O J r=>gk _ J) ?_);rintro O _ _ _ LC r Z L h_ ⟨d0,rfl,Ky⟩
 cases d0
 ·have Ky:¬j2 y0:=fun h=>by have:=Ky.2 h;cases this
  exact rtn L fun I' we re=>by show Value.int .i64 _=_;rw[iX,if_pos hh,aF (fun h=>Ky h.1)]
 replace Ky:=Ky.1 rfl;refine bp (cE L (fun _ J v Y=>∃d,v= .bool d/\(d=true↔j2 y1)) (fun O J r=>gk _ J) ?_);rintro O _ _ _ Kx r Z L h_ ⟨d1,rfl,Kw⟩
 cases d1
 ·have Kw:¬j2 y1:=fun h=>by have:=Kw.2 h;cases this
  exact rtn L fun I' we re=>by show Value.int .i64 _=_;rw[iX,if_pos hh,aF (fun h=>Kw h.2.1)]
 replace Kw:=Kw.1 rfl;refine bp (cE L (fun _ J v Y=>∃d,v= .bool d/\(d=true↔j2 y2)) (fun O J r=>gk _ J) ?_);rintro O _ _ _ LV r Z L h_ ⟨d2,rfl,LQ⟩
 cases d2
 ·have LQ:¬j2 y2:=fun h=>by have:=LQ.2 h;cases this
  exact rtn L fun I' we re=>by show Value.int .i64 _=_;rw[iX,if_pos hh,aF (fun h=>LQ h.2.2)]
 replace LQ:=LQ.1 rfl;exact rtn L fun I' we re=>by show Value.int .i64 _=_;rw[iX,if_pos hh,if_pos ⟨Ky,Kw,LQ⟩]
theorem lD{n:Nat}(X:Old S w)(hl:dQ w S vl l):eF PG F'.kD #[vl,.int .i64 n] w (eM w fun v' _=>v'= .int .i64 (gp n l)):=by
 have L:=bR w;obtain⟨al,cl,rfl,Lo,ND⟩:=hl.shape;unfold maxLen at ND;refine my (by simp) ?_;refine ct.mk ?_ ?_<;>intro V
 ·have V:=aL V;exact rtn L fun I' we re=>by show Value.int .i64 _=_;rw[gp,if_pos (by omega)]
 have V:=aI V
 refine⟨Nat×World×Iv,fun z=>⟨[(1,iZ n),(11,sV al l.length cl),(12,iZ l.length),(13,iN z.1)],[],0,z.2.2,z.2.1⟩,fun z=>l.length-z.1,
  fun z=>z.1<=l.length/\dO w.heap.size w z.2.1/\gp n l=cS (fun _=>iX n) (l.take z.1) (l.drop z.1),?_,?_⟩
 ·intro O J D;exact⟨(0,J,[]),⟨aP _,L.tr D.cG,by rw[gp,aF (by omega)];rfl⟩,Sub.gn [] D⟩
 rintro⟨i,w1,iv⟩ ⟨N,L,hE⟩;dsimp only at N L hE ⊢;refine ct.mk ?_ ?_<;>intro Kp
 ·have Kp:i<l.length:=by simpa using Kp
  obtain⟨x,F⟩:∃x,l[i]? =some x:=⟨_,aA Kp⟩
  obtain⟨adx,G,Ly,hP,-,Lw⟩:=hl.load (by decide) F;have hP:G=[.int .i64 x.1,.int .i64 x.2.1,.int .i64 x.2.2.1,.int .i64 x.2.2.2]:=hP;subst hP;refine⟨adx,Ly,by omega,[.int .i64 x.1,.int .i64 x.2.1,.int .i64 x.2.2.1,.int .i64 x.2.2.2],rfl,rdO Lw L X,?_⟩;refine bp (cE L (fun _ J v Y=>v= .int .i64 (iX n x)) (fun O J r=>z7 _ _ _ _ n J) ?_);rintro O _ _ _ LC r Z L h_ rfl;obtain⟨c,hc⟩:∃c,iX n x=c:=⟨_,rfl⟩
  rw[hc];refine ct.mk ?_ ?_<;>intro hd
  ·have hd:c≠0:=by simpa using hd
   exact rtn L fun I' we re=>by show Value.int .i64 _=_;rw[hE,cD F hc hd]
  have hd:c=0:=by simpa using hd
  rw[hd]at hc;rw[di F hc]at hE;refine⟨((i+1:Nat):Int),wo,?_⟩;intro In w6 D;exact⟨(i+1,w6,_),⟨Kp,L.tr D.cG,hE⟩,Sub.gn [] D,by dsimp only;omega⟩
 have Kp:i=l.length:=aS N (by simpa using Kp);rw[eQ (by omega)]at hE;exact rtn L fun I' we re=>by show Value.int .i64 _=_;rw[hE]
theorem eD{G:Array Value}(h:G[j]? =some v)(w:World):(part T.int G j).run PG w= .ok v w:=by
 have:=(hτ T.int _ rfl).isAgg w;simp only[part,Sem.run_bind,this,Result.andThen]
 simp[h]
theorem eq_int(d:Nat)(a b:Int)(w:World):(Op.equalIn (d+1) T.int (.int .i64 a) (.int .i64 b)).run PG w= .ok (a==b) w:=by
 unfold Op.equalIn;simp[run_underlying ((hτ T.int _ rfl).i1 rfl)]
theorem Hw(p0 p1 p2 q0 q1 q2:Int)(w:World):(Op.equal T.Node (.agg #[.int .i64 p0,.int .i64 p1,.int .i64 p2]) (.agg #[.int .i64 q0,.int .i64 q1,.int .i64 q2])).run PG w= .ok (decide (p0=q0/\p1=q1/\p2=q2)) w:=by
 have h:=run_underlying Tryz.underlying195;simp only[Op.equal,Op.maxDepth]
 unfold Op.equalIn;have a0:=eD (G:= #[Value.int .i64 p0,Value.int .i64 p1,Value.int .i64 p2]) (j:=0) rfl;have a1:=eD (G:= #[Value.int .i64 p0,Value.int .i64 p1,Value.int .i64 p2]) (j:=1) rfl;have a2:=eD (G:= #[Value.int .i64 p0,Value.int .i64 p1,Value.int .i64 p2]) (j:=2) rfl;have b0:=eD (G:= #[Value.int .i64 q0,Value.int .i64 q1,Value.int .i64 q2]) (j:=0) rfl;have b1:=eD (G:= #[Value.int .i64 q0,Value.int .i64 q1,Value.int .i64 q2]) (j:=1) rfl;have b2:=eD (G:= #[Value.int .i64 q0,Value.int .i64 q1,Value.int .i64 q2]) (j:=2) rfl;simp[h,a0,a1,a2,b0,b1,b2,eq_int 9998];by_cases h0:p0=q0
 ·by_cases V:p1=q1
  ·by_cases I:p2=q2<;>simp[h0,V,I]
  ·simp[h0,V]
 ·simp[h0]
theorem Hx(p0 p1 q0 q1:Int)(w:World):(Op.equal T.zL (.agg #[.int .i64 p0,.int .i64 p1]) (.agg #[.int .i64 q0,.int .i64 q1])).run PG w= .ok (decide (p0=q0/\p1=q1)) w:=by
 have h:=run_underlying Tryz.underlying281;simp only[Op.equal,Op.maxDepth]
 unfold Op.equalIn;have a0:=eD (G:= #[Value.int .i64 p0,Value.int .i64 p1]) (j:=0) rfl;have a1:=eD (G:= #[Value.int .i64 p0,Value.int .i64 p1]) (j:=1) rfl;have b0:=eD (G:= #[Value.int .i64 q0,Value.int .i64 q1]) (j:=0) rfl;have b1:=eD (G:= #[Value.int .i64 q0,Value.int .i64 q1]) (j:=1) rfl;simp[h,a0,a1,b0,b1,eq_int 9998];by_cases h0:p0=q0
 ·by_cases V:p1=q1<;>simp[h0,V]
 ·simp[h0]
abbrev yZ(p:Int×Int×Int):Value:=.agg #[.int .i64 p.1,.int .i64 p.2.1,.int .i64 p.2.2]
theorem BS(p q:Int×Int×Int)(w:World)(o1 o2:Operand):(do eqGuard .eql T.Node o1 o2 (yZ p) (yZ q);binOp .eql T.Node (yZ p) (yZ q)).run PG w= .ok (.bool (decide (p=q))) w:=by
 have h:=Hw p.1 p.2.1 p.2.2 q.1 q.2.1 q.2.2 w;simp[eqGuard,binOp,h];obtain⟨a,b,c⟩:=p;obtain⟨a2,b2,c2⟩:=q;by_cases h0:a=a2
 ·by_cases V:b=b2
  ·by_cases I:c=c2<;>simp[h0,V,I]
  ·simp[h0,V]
 ·simp[h0]
def lX(k:Int×Int):Value:=.agg #[.int .i64 k.1,.int .i64 k.2]
theorem oH{a b:Int×Int}(h:lX a=lX b):a=b:=by
 unfold lX at h;injection h with h;have V:=congrArg (fun x=>x[0]?) h;have I:=congrArg (fun x=>x[1]?) h;simp at V I;exact Prod.ext V I
theorem Ed(d:Nat)(a:Int)(em:Bool)(w:World):(Instr.checkKey em (d+1) T.int (.int .i64 a)).run PG w= .ok () w:=by
 unfold Instr.checkKey;simp[run_underlying ((hτ T.int _ rfl).i1 rfl)]
theorem Cg(p0 p1:Int)(em:Bool)(w:World):(Instr.checkKey em 10000 T.zL (.agg #[.int .i64 p0,.int .i64 p1])).run PG w= .ok () w:=by
 have h:=run_underlying Tryz.underlying281;have a0:=eD (G:= #[Value.int .i64 p0,Value.int .i64 p1]) (j:=0) rfl;have a1:=eD (G:= #[Value.int .i64 p0,Value.int .i64 p1]) (j:=1) rfl;unfold Instr.checkKey;simp[h,a0,a1,Ed 9998]
theorem uL:FJ PG T.zL (fun v=>∃k,v=lX k) where
 desc:=⟨_,Tryz.underlying281⟩
 check:=fun w em v ⟨k,e⟩=>by subst e;exact Cg k.1 k.2 em w
 eq:=fun w a b ⟨p,e1⟩ ⟨q,e2⟩=>by
  subst e1 e2;refine⟨_,Hx p.1 p.2 q.1 q.2 w,?_⟩;rw[decide_eq_true_iff];exact⟨fun h=>by rw[show p=q from Prod.ext h.1 h.2],fun h=>by have:=oH h;subst this;exact⟨rfl,rfl⟩⟩
theorem rD:PG.underlying T.tU=some (.map T.zL T.bool):=Tryz.underlying279
theorem y8(w:World):(zeroValue T.bool).run PG w= .ok (.bool false) w:=by kernel_rfl
theorem Gi(ad:Option Addr)(k:Nat):ad.map (·.add (0*k))=ad:=by
 rw[Nat.zero_mul]
 cases ad with
 |none=>rfl
 |some a=>simp only[Option.map_some,Option.some.injEq];unfold Addr.add;split<;>simp_all
theorem dT.take{α:Type}{k:Nat}{P:World->(Nat->Prop)->List Value->α->Prop}{n c:Nat}{xs:List α}(h:dT k P w S (.slice a n c) xs){i:Nat}(N:i<=xs.length):
  dT k P w S (.slice a i c) (xs.take i):=by
 obtain⟨U,⟨h0,V,I,a',c',e,K,h4⟩,hl,hlk,hf⟩:=h;injection e with e1 e2 e3;subst e1 e2 e3;have hlen:(U.take i).length=i:=by rw[ah,hl];omega
 have hli:(xs.take i).length=i:=by rw[ah];omega
 have QW:U.flatten=(U.take i).flatten++(U.drop i).flatten:=by rw[<-List.flatten_append,List.take_append_drop]
 refine⟨U.take i,⟨by omega,?_,fun u hu=>I u (by rw[QW];exact List.mem_append_left _ hu),a,c,by rw[hli],by omega,fun j u hj=>h4 j u ?_⟩,by rw[hlen,hli],fun G hc=>hlk G (List.mem_of_mem_take hc),fun j G x k1 k2=>?_⟩
 ·rw[gj fun G hc=>hlk G (List.mem_of_mem_take hc),hlen,hli]
 ·rw[QW,aJ (aC.1 hj).1];exact hj
 ·have hj:=(aC.1 k1).1;rw[hlen]at hj;rw[bM hj]at k1 k2;exact hf j G x k1 k2
theorem lC.br{Y:World}(h:lC w S v xs)(W:∀g,S g->Y.heap[g]? =w.heap[g]?):lC Y S v xs:=dT.br (w:=w) (fun _ _ h=>h) h W
theorem z8(X:Old S w)(A:lC w S vn xs)(p:Int×Int×Int):eF PG F'.ef #[vn,yZ p] w (eM w fun v' _=>∃r,v'= .int .i64 r/\(-1<=r)/\(0<=r↔p∈xs)):=by
 have L:=bR w;obtain⟨an,cn,rfl,hcn,Nd⟩:=A.shape;unfold maxLen at Nd;refine gQ (by simp) ?_
 refine⟨Nat×World,fun z=>⟨[(0,sV an xs.length cn),(3,pP 0 0),(7,iZ xs.length),(8,iN z.1)],[(0,.box T.Node [.v (.int .i64 p.1),.v (.int .i64 p.2.1),.v (.int .i64 p.2.2)])],1,[],z.2⟩,fun z=>xs.length-z.1,
  fun z=>z.1<=xs.length/\dO w.heap.size w z.2/\(p∈xs↔p∈xs.drop z.1),?_,?_⟩
 ·intro O J D;exact⟨(0,J),⟨aP _,L.tr D.cG,Iff.rfl⟩,Sub.gn [] D⟩
 rintro⟨i,w1⟩ ⟨N,L,hE⟩;dsimp only at N L hE ⊢;refine ct.mk ?_ ?_<;>intro Kp
 ·have Kp:i<xs.length:=by simpa using Kp
  obtain⟨q,F⟩:∃x,xs[i]? =some x:=⟨_,aA Kp⟩
  have hdr:xs.drop i=q::xs.drop (i+1):=by rw[List.drop_eq_getElem_cons Kp,(aC.1 F).2]
  obtain⟨adx,G,Ly,hP,-,Lw⟩:=A.load (by decide) F;have hP:G=[.int .i64 q.1,.int .i64 q.2.1,.int .i64 q.2.2]:=hP;subst hP;refine iW hτ eG (.x 1 (.x 2 (.x 3 (.ld 0 32 (.ld 4 32 (.x 5 .nil)))))) (by kernel_rfl) (by kernel_rfl) ?_;refine⟨adx,Ly,by omega,[.int .i64 q.1,.int .i64 q.2.1,.int .i64 q.2.2],rfl,rdO Lw L X,decide (p=q),fun O w o1 o2=>BS p q w o1 o2,?_⟩;refine ct.mk ?_ ?_<;>intro hd
  ·have hd:p=q:=aL hd;exact rtn L fun I' we re=>⟨_,rfl,by omega,iff_of_true (by omega) (hE.2 (by rw[hdr,hd];exact aH))⟩
  have hd:p≠q:=aI hd;rw[hdr,List.mem_cons,or_iff_right hd]at hE;refine⟨((i+1:Nat):Int),wo,?_⟩;intro In w6 D;exact⟨(i+1,w6),⟨Kp,L.tr D.cG,hE⟩,Sub.gn [] D,by dsimp only;omega⟩
 have Kp:i=xs.length:=aS N (by simpa using Kp);rw[Kp,List.drop_length]at hE;exact rtn L fun I' we re=>⟨_,rfl,by omega,iff_of_false (by omega) fun h=>by cases hE.1 h⟩
theorem tj(X:Old S w)(A:lC w S vn xs)(p:Int×Int×Int):eF PG F'.eU #[vn,yZ p] w (eM w fun v' _=>∃d,v'= .bool d/\(d=true↔p∈xs)):=by
 have L:=bR w;obtain⟨an,cn,rfl,hcn,Nd⟩:=A.shape;refine fz (by simp) ?_;refine bp (cE L (fun _ J v Y=>∃r,v= .int .i64 r/\(-1<=r)/\(0<=r↔p∈xs)) (fun O J r=>z8 (p:=p) (oS X r) (lC.br A (kS L r X))) ?_);rintro O _ _ _ LC r Z L h_ ⟨r0,rfl,hr0,Pn⟩;exact rtn L fun I' we re=>⟨_,rfl,by rw[decide_eq_true_iff];exact Pn⟩
def tk(w:World)(S:Nat->Prop)(g:Nat)(ks:List Value):Prop:=S g/\AO w g ks
section
variable{S:Nat->Prop}{H:Hp}{nx:Nat}{iv E:Iv}{B:Nat}{w J Y:World}{O:Nat->Sx.cd}{g:Nat}{ks:List Value}
theorem tk.rel(h:tk w (Cv S B iv) g ks)(r:Rel H nx iv B w O J)(X:∀g,S g->g<B):tk J (Cv S B iv) g ks:=⟨h.1,h.2.br (Rel.same r X h.1)⟩
theorem tk.bu(h:tk w (Cv S B iv) g ks)(r:Rel H nx iv B w O J)(X:∀g,S g->g<B)(Z:Ext J Y)(hm:∀p,p∈iv->p∈E):tk Y (Cv S B E) g ks:=
 ⟨h.1.mono hm,(h.rel r X).2.br (Z.block g (Rel.old r X g h.1))⟩
end
set_option maxHeartbeats 2000000 in
theorem BT(X:Old S w)(hf:dN w S vn vb vs f):eF PG F'.pG #[.agg #[vn,vb,vs]] w (eM w fun v' _=>v'= .int .i64 (eB f)):=by
 have L:=bR w;obtain⟨an,cn,ab,cb,aq,cq,rfl,rfl,rfl,Nd,OK,PW⟩:=hf.shape;obtain⟨_,_,hsh,hcn,_⟩:=hf.nodes.shape;injection hsh with e1 e2 e3;subst e1 e3;refine sJ (by simp) ?_;refine ct.mk ?_ ?_<;>intro h0
 ·have h0:=aL h0;exact rtn L fun I' we re=>by show Value.int .i64 _=_;rw[eB,if_pos (by omega)]
 have h0:=aI h0;refine ct.mk ?_ ?_<;>intro V
 ·have V:=aL V;exact rtn L fun I' we re=>by show Value.int .i64 _=_;rw[eB,if_pos (by omega)]
 have V:=aI V;refine ct.mk ?_ ?_<;>intro I
 ·have I:=aL I;exact rtn L fun I' we re=>by show Value.int .i64 _=_;rw[eB,if_pos (by omega)]
 have I:=aI I
 refine⟨Nat×World×Iv,fun z=>⟨[(1,pP 0 0),(30,sV an f.nodes.length cn),(31,iZ f.nodes.length),(32,iN z.1)],[(0,.box T.Frame [.v (.slice an f.nodes.length cn),.v (.slice ab f.bars.length cb),.v (.slice aq f.cJ.length cq)])],1,z.2.2,z.2.1⟩,fun z=>f.nodes.length-z.1,
  fun z=>z.1<=f.nodes.length/\dO w.heap.size w z.2.1/\cS eC [] f.nodes=cS eC (f.nodes.take z.1) (f.nodes.drop z.1),?_,?_⟩
 ·intro O J D;exact⟨(0,J,[]),⟨aP _,L.tr D.cG,rfl⟩,Sub.gn [] D⟩
 rintro⟨i,w1,iv⟩ ⟨N,L,hE⟩;dsimp only at N L hE ⊢;refine ct.mk ?_ ?_<;>intro Kp
 ·have Kp:i<f.nodes.length:=by simpa using Kp
  obtain⟨q,F⟩:∃x,f.nodes[i]? =some x:=⟨_,aA Kp⟩
  obtain⟨adx,G,Ly,hP,-,Lw⟩:=hf.nodes.load (by decide) F;have hP:G=[.int .i64 q.1,.int .i64 q.2.1,.int .i64 q.2.2]:=hP;subst hP;refine⟨adx,Ly,by omega,[.int .i64 q.1,.int .i64 q.2.1,.int .i64 q.2.2],rfl,rdO Lw L X,?_⟩;refine bp (cE L (fun _ J v Y=>∃d,v= .bool d/\(d=true↔j2 q.1)) (fun O J r=>gk _ J) ?_);rintro O M5 v1 MS LC r Z L h_ ⟨d0,rfl,Ky⟩
  cases d0
  ·have Ky:¬j2 q.1:=fun h=>by have:=Ky.2 h;cases this
   exact rtn L fun I' we re=>by show Value.int .i64 _=_;rw[eB,aF (by omega),if_pos (by rw[hE,cD F (show eC (f.nodes.take i) q=2 by rw[eC,aF (fun h=>Ky h.1)]) (by decide)];decide),hE,cD F (show eC (f.nodes.take i) q=2 by rw[eC,aF (fun h=>Ky h.1)]) (by decide)]
  replace Ky:=Ky.1 rfl;refine bp (cE L (fun _ J v Y=>∃d,v= .bool d/\(d=true↔j2 q.2.1)) (fun O J r=>gk _ J) ?_);rintro O NX v2 MF Kx r Z L h_ ⟨d1,rfl,Kw⟩
  cases d1
  ·have Kw:¬j2 q.2.1:=fun h=>by have:=Kw.2 h;cases this
   exact rtn L fun I' we re=>by show Value.int .i64 _=_;rw[eB,aF (by omega),if_pos (by rw[hE,cD F (show eC (f.nodes.take i) q=2 by rw[eC,aF (fun h=>Kw h.2.1)]) (by decide)];decide),hE,cD F (show eC (f.nodes.take i) q=2 by rw[eC,aF (fun h=>Kw h.2.1)]) (by decide)]
  replace Kw:=Kw.1 rfl;refine bp (cE L (fun _ J v Y=>∃d,v= .bool d/\(d=true↔j2 q.2.2)) (fun O J r=>gk _ J) ?_);rintro O M4 v3 MY LV r Z L h_ ⟨d2,rfl,LQ⟩
  cases d2
  ·have LQ:¬j2 q.2.2:=fun h=>by have:=LQ.2 h;cases this
   exact rtn L fun I' we re=>by show Value.int .i64 _=_;rw[eB,aF (by omega),if_pos (by rw[hE,cD F (show eC (f.nodes.take i) q=2 by rw[eC,aF (fun h=>LQ h.2.2)]) (by decide)];decide),hE,cD F (show eC (f.nodes.take i) q=2 by rw[eC,aF (fun h=>LQ h.2.2)]) (by decide)]
  replace LQ:=LQ.1 rfl;refine iW hτ eG (.x 0 (.x 2 (.ld 1 104 (.x 3 (.ld 4 96 (.x 5 (.x 6 .nil))))))) (by kernel_rfl) (by kernel_rfl) ?_;refine⟨⟨by omega,by omega,by omega⟩,an,i,cn,by rw[show ((0:Int).toNat*3)=0*3 from rfl,Gi];split<;>rfl,by simp,by simp,?_⟩;refine cE L (fun _ J v Y=>∃d,v= .bool d/\(d=true↔q∈f.nodes.take i)) (fun O J r=>tj (p:=q) (oS X r) (lC.br (hf.nodes.take (Nat.le_of_lt Kp)) (kS L r X))) ?_;rintro O _ _ _ MD r Z L h_ ⟨d3,rfl,hz3⟩
  cases d3
  ·have hz3:q∉f.nodes.take i:=fun h=>by have:=hz3.2 h;cases this
   rw[di F (qE.2 ⟨⟨Ky,Kw,LQ⟩,hz3⟩)]at hE;refine⟨((i+1:Nat):Int),wo,?_⟩;intro In w6 D;exact⟨(i+1,w6,_),⟨Kp,L.tr D.cG,hE⟩,Sub.gn [] D,by dsimp only;omega⟩
  replace hz3:=hz3.1 rfl;exact rtn L fun I' we re=>by show Value.int .i64 _=_;rw[eB,aF (by omega),if_pos (by rw[hE,cD F (show eC (f.nodes.take i) q=12 by rw[eC,if_pos ⟨Ky,Kw,LQ⟩,if_pos hz3]) (by decide)];decide),hE,cD F (show eC (f.nodes.take i) q=12 by rw[eC,if_pos ⟨Ky,Kw,LQ⟩,if_pos hz3]) (by decide)]
 have Kp:i=f.nodes.length:=aS N (by simpa using Kp);rw[eQ (by omega)]at hE;refine s9 (fun O wa wb r hM0 R LL=>?_);have Ln:=(L.tr r.cG).tr (dO.grown R (fun x e=>by cases e) r.bs);have hB:w.heap.size<=wa.heap.size:=r.bs;have hM:tk wb (Cf w ((wa.heap.size,wa.heap.size+1)::iv)) wa.heap.size []:=⟨.inr ⟨hB,_,_,aH,aE _,bV _⟩,hM0⟩
 generalize (wa.heap.size,wa.heap.size+1)::iv=Kx at*
 obtain⟨gm,hgm⟩:∃gm,wa.heap.size=gm:=⟨_,rfl⟩
 rw[hgm]at hM ⊢;have L:=Ln
 refine⟨Nat×World×Iv,fun z=>⟨[(1,pP 0 0),(5,.o (.v (.map (some gm)))),(64,sV ab f.bars.length cb),(65,iZ f.bars.length),(66,iN z.1)],[(0,.box T.Frame [.v (.slice an f.nodes.length cn),.v (.slice ab f.bars.length cb),.v (.slice aq f.cJ.length cq)])],1,z.2.2,z.2.1⟩,fun z=>f.bars.length-z.1,
  fun z=>z.1<=f.bars.length/\dO w.heap.size w z.2.1/\cS (eJ f.nodes.length) [] f.bars=cS (eJ f.nodes.length) (f.bars.take z.1) (f.bars.drop z.1)/\tk z.2.1 (Cf w z.2.2) gm ((f.bars.take z.1).map fun b=>lX (fM b)),?_,?_⟩
 ·intro O J D;exact⟨(0,J,Kx),⟨aP _,L.tr D.cG,rfl,hM.rel D (bo w)⟩,Sub.gn [] D⟩
 rintro⟨i,w1,iv⟩ ⟨N,L,LI,hM⟩;dsimp only at N L LI hM ⊢;refine ct.mk ?_ ?_<;>intro Kp
 ·have Kp:i<f.bars.length:=by simpa using Kp
  obtain⟨b,F⟩:∃b,f.bars[i]? =some b:=⟨_,aA Kp⟩
  obtain⟨adb,G,M8,hF,-,MT⟩:=hf.bars.load (by decide) F;obtain⟨g0,g1,g2,g3,g4,g5,g6,g7,rfl,hF⟩:=hF;refine⟨adb,M8,by omega,[.int .i64 b.1,.int .i64 b.2.1,.bool g0,.slice g1 g2 g3,.bool g4,.slice g5 g6 g7],rfl,rdO MT L X,?_⟩;refine bp (cE L (fun _ J v Y=>∃d,v= .bool d/\(d=true↔gq f.nodes.length b.1)) (fun O J r=>Ce _ J _ _ _ _ _ _ _ _ _) ?_);rintro O M5 v1 MS LC r Z L h_ ⟨d0,rfl,Ky⟩;replace hM:=hM.bu r (bo w) Z (mC h_)
  cases d0
  ·have Ky:¬gq f.nodes.length b.1:=fun h=>by have:=Ky.2 h;cases this
   exact rtn L fun I' we re=>by show Value.int .i64 _=_;rw[eB,aF (by omega),aF (by rw[hE];decide),if_pos (by rw[LI,cD F (show eJ f.nodes.length (f.bars.take i) b=6 by rw[eJ,aF (fun h=>Ky h.1)]) (by decide)];decide),LI,cD F (show eJ f.nodes.length (f.bars.take i) b=6 by rw[eJ,aF (fun h=>Ky h.1)]) (by decide)]
  replace Ky:=Ky.1 rfl;refine bp (cE L (fun _ J v Y=>∃d,v= .bool d/\(d=true↔gq f.nodes.length b.2.1)) (fun O J r=>Ce _ J _ _ _ _ _ _ _ _ _) ?_);rintro O NX v2 MF Kx r Z L h_ ⟨d1,rfl,Kw⟩;replace hM:=hM.bu r (bo w) Z (mC h_)
  cases d1
  ·have Kw:¬gq f.nodes.length b.2.1:=fun h=>by have:=Kw.2 h;cases this
   exact rtn L fun I' we re=>by show Value.int .i64 _=_;rw[eB,aF (by omega),aF (by rw[hE];decide),if_pos (by rw[LI,cD F (show eJ f.nodes.length (f.bars.take i) b=6 by rw[eJ,aF (fun h=>Kw h.2)]) (by decide)];decide),LI,cD F (show eJ f.nodes.length (f.bars.take i) b=6 by rw[eJ,aF (fun h=>Kw h.2)]) (by decide)]
  replace Kw:=Kw.1 rfl;refine ct.mk ?_ ?_<;>intro LX
  ·have LX:b.1=b.2.1:=by simpa using LX
   exact rtn L fun I' we re=>by show Value.int .i64 _=_;rw[eB,aF (by omega),aF (by rw[hE];decide),if_pos (by rw[LI,cD F (show eJ f.nodes.length (f.bars.take i) b=3 by rw[eJ,if_pos ⟨Ky,Kw⟩,if_pos LX]) (by decide)];decide),LI,cD F (show eJ f.nodes.length (f.bars.take i) b=3 by rw[eJ,if_pos ⟨Ky,Kw⟩,if_pos LX]) (by decide)]
  have LX:b.1≠b.2.1:=by simpa using LX
  refine uZ uL rD y8 rfl rfl (key:=lX (fM b)) (fun _=>rfl) ⟨_,rfl⟩ (fun k W=>by obtain⟨x,_,rfl⟩:=aT.1 W;exact⟨_,rfl⟩) (fun O J r=>(hM.rel r (bo w)).2) (fun O J d r hd=>?_);replace L:=L.tr r.cG;replace hM:=hM.rel r (bo w);replace hd:d=true↔fM b∈(f.bars.take i).map fM:=by
   rw[hd];constructor
   ·intro h;obtain⟨x,V,I⟩:=aT.1 h;exact aT.2 ⟨x,V,oH I⟩
   ·intro h;obtain⟨x,V,I⟩:=aT.1 h;exact aT.2 ⟨x,V,congrArg lX I⟩
  cases d
  ·have MJ:fM b∉(f.bars.take i).map fM:=fun h=>by have:=hd.2 h;cases this
   refine bp (cE L (fun _ J v Y=>v= .int .i64 (rs b.2.2)) (fun O J r=>(j3 (oS X r) (hF.v.br (kS L r X)) (eP.zero (S:=S)).v).mono fun _ _ ⟨v2,e1,e2,e3⟩=>⟨v2,e1,e2,by rw[e3,iV]⟩) ?_);rintro O _ _ _ LV r Z L h_ rfl;replace hM:=hM.bu r (bo w) Z (mC h_);obtain⟨cf,RL⟩:∃c,rs b.2.2=c:=⟨_,rfl⟩
   rw[RL];refine ct.mk ?_ ?_<;>intro LZ
   ·have LZ:b.2.2<=0:=by have:=aL LZ;rw[<-Rat.not_lt,<-jD];omega
    exact rtn L fun I' we re=>by show Value.int .i64 _=_;rw[eB,aF (by omega),aF (by rw[hE];decide),if_pos (by rw[LI,cD F (show eJ f.nodes.length (f.bars.take i) b=2 by rw[eJ,if_pos ⟨Ky,Kw⟩,aF LX,aF MJ,if_pos LZ]) (by decide)];decide),LI,cD F (show eJ f.nodes.length (f.bars.take i) b=2 by rw[eJ,if_pos ⟨Ky,Kw⟩,aF LX,aF MJ,if_pos LZ]) (by decide)]
   ·have LZ:0<b.2.2:=by have:=aI LZ;rw[<-jD];omega
    refine pA uL rD rfl rfl (key:=lX (fM b)) (fun _=>rfl) rfl ⟨_,rfl⟩ (fun k W=>by obtain⟨x,_,rfl⟩:=aT.1 W;exact⟨_,rfl⟩) (fun h=>by
     obtain⟨x,V,I⟩:=aT.1 h
     exact MJ (aT.2 ⟨x,V,oH I⟩)) (fun O J r=>⟨(hM.rel r (bo w)).2,Rel.not r (bo w) hM.1⟩) (fun O wa wb r hM2 R LL=>?_)
    replace L:=(L.tr r.cG).tr (dO.grown R (fun x e=>by injection e with e;subst e;exact hM.1.elim (fun h=>h.elim) fun h=>h.1) r.bs);rw[show ((f.bars.take i).map fun b=>lX (fM b))++[lX (fM b)]=(f.bars.take (i+1)).map fun b=>lX (fM b) by rw[List.take_add_one,F];simp]at hM2;replace hM:tk wb (Cf w LV) gm ((f.bars.take (i+1)).map fun b=>lX (fM b)):=⟨hM.1,hM2⟩
    rw[di F (o9.2 ⟨⟨Ky,Kw⟩,LX,MJ,LZ⟩)]at LI;refine⟨((i+1:Nat):Int),wo,?_⟩;intro In w6 D;exact⟨(i+1,w6,_),⟨Kp,L.tr D.cG,LI,hM.rel D (bo w)⟩,Sub.gn [] D,by dsimp only;omega⟩
  ·have hd:=hd.1 rfl;exact rtn L fun I' we re=>by show Value.int .i64 _=_;rw[eB,aF (by omega),aF (by rw[hE];decide),if_pos (by rw[LI,cD F (show eJ f.nodes.length (f.bars.take i) b=5 by rw[eJ,if_pos ⟨Ky,Kw⟩,aF LX,if_pos hd]) (by decide)];decide),LI,cD F (show eJ f.nodes.length (f.bars.take i) b=5 by rw[eJ,if_pos ⟨Ky,Kw⟩,aF LX,if_pos hd]) (by decide)]
 have Kp:i=f.bars.length:=aS N (by simpa using Kp);rw[eQ (by omega)]at LI;have hE1:=LI;refine s9 (fun O wa wb r hM0 R LL=>?_);have Ln:=(L.tr r.cG).tr (dO.grown R (fun x e=>by cases e) r.bs);have hB:w.heap.size<=wa.heap.size:=r.bs;have hM:tk wb (Cf w ((wa.heap.size,wa.heap.size+1)::iv)) wa.heap.size []:=⟨.inr ⟨hB,_,_,aH,aE _,bV _⟩,hM0⟩
 generalize (wa.heap.size,wa.heap.size+1)::iv=Kx at*
 obtain⟨gm,hgm⟩:∃gm,wa.heap.size=gm:=⟨_,rfl⟩
 rw[hgm]at hM ⊢;have L:=Ln
 refine⟨Nat×World×Iv,fun z=>⟨[(1,pP 0 0),(9,.o (.v (.map (some gm)))),(115,sV aq f.cJ.length cq),(116,iZ f.cJ.length),(117,iN z.1)],[(0,.box T.Frame [.v (.slice an f.nodes.length cn),.v (.slice ab f.bars.length cb),.v (.slice aq f.cJ.length cq)])],1,z.2.2,z.2.1⟩,fun z=>f.cJ.length-z.1,
  fun z=>z.1<=f.cJ.length/\dO w.heap.size w z.2.1/\cS (jV f.nodes.length) [] f.cJ=cS (jV f.nodes.length) (f.cJ.take z.1) (f.cJ.drop z.1)/\tk z.2.1 (Cf w z.2.2) gm ((f.cJ.take z.1).map fun b=>lX (gW b)),?_,?_⟩
 ·intro O J D;exact⟨(0,J,Kx),⟨aP _,L.tr D.cG,rfl,hM.rel D (bo w)⟩,Sub.gn [] D⟩
 rintro⟨i,w1,iv⟩ ⟨N,L,LI,hM⟩;dsimp only at N L LI hM ⊢;refine ct.mk ?_ ?_<;>intro Kp
 ·have Kp:i<f.cJ.length:=by simpa using Kp
  obtain⟨b,F⟩:∃b,f.cJ[i]? =some b:=⟨_,aA Kp⟩
  obtain⟨adb,G,M8,hF,-,MT⟩:=hf.cJ.load (by decide) F;obtain⟨g0,g1,g2,g3,g4,g5,g6,g7,rfl,hF⟩:=hF;refine⟨adb,M8,by omega,[.int .i64 b.1,.int .i64 b.2.1,.bool g0,.slice g1 g2 g3,.bool g4,.slice g5 g6 g7],rfl,rdO MT L X,?_⟩;refine bp (cE L (fun _ J v Y=>∃d,v= .bool d/\(d=true↔gq f.nodes.length b.1)) (fun O J r=>Ce _ J _ _ _ _ _ _ _ _ _) ?_);rintro O _ _ _ LC r Z L h_ ⟨d0,rfl,Ky⟩;replace hM:=hM.bu r (bo w) Z (mC h_)
  cases d0
  ·have Ky:¬gq f.nodes.length b.1:=fun h=>by have:=Ky.2 h;cases this
   exact rtn L fun I' we re=>by show Value.int .i64 _=_;rw[eB,aF (by omega),aF (by rw[hE];decide),aF (by rw[hE1];decide),LI,cD F (show jV f.nodes.length (f.cJ.take i) b=6 by rw[jV,aF Ky]) (by decide)]
  replace Ky:=Ky.1 rfl;refine ct.mk ?_ ?_<;>intro QK
  ·have QK:=aL QK;exact rtn L fun I' we re=>by show Value.int .i64 _=_;rw[eB,aF (by omega),aF (by rw[hE];decide),aF (by rw[hE1];decide),LI,cD F (show jV f.nodes.length (f.cJ.take i) b=2 by rw[jV,if_pos Ky,aF (fun h=>by omega)]) (by decide)]
  have QK:=aI QK;refine ct.mk ?_ ?_<;>intro Pk
  ·have Pk:=aL Pk;exact rtn L fun I' we re=>by show Value.int .i64 _=_;rw[eB,aF (by omega),aF (by rw[hE];decide),aF (by rw[hE1];decide),LI,cD F (show jV f.nodes.length (f.cJ.take i) b=2 by rw[jV,if_pos Ky,aF (fun h=>by omega)]) (by decide)]
  have Pk:=aI Pk;have Ly:0<=b.2.1/\b.2.1<=2:=by omega
  refine uZ uL rD y8 rfl rfl (key:=lX (gW b)) (fun _=>rfl) ⟨_,rfl⟩ (fun k W=>by obtain⟨x,_,rfl⟩:=aT.1 W;exact⟨_,rfl⟩) (fun O J r=>(hM.rel r (bo w)).2) (fun O J d r hd=>?_);replace L:=L.tr r.cG;replace hM:=hM.rel r (bo w);replace hd:d=true↔gW b∈(f.cJ.take i).map gW:=by
   rw[hd];constructor
   ·intro h;obtain⟨x,V,I⟩:=aT.1 h;exact aT.2 ⟨x,V,oH I⟩
   ·intro h;obtain⟨x,V,I⟩:=aT.1 h;exact aT.2 ⟨x,V,congrArg lX I⟩
  cases d
  ·have MJ:gW b∉(f.cJ.take i).map gW:=fun h=>by have:=hd.2 h;cases this
   refine bp (cE L (fun _ J v Y=>v= .int .i64 (rs b.2.2)) (fun O J r=>(j3 (oS X r) (hF.v.br (kS L r X)) (eP.zero (S:=S)).v).mono fun _ _ ⟨v2,e1,e2,e3⟩=>⟨v2,e1,e2,by rw[e3,iV]⟩) ?_);rintro O _ _ _ Kx r Z L h_ rfl;replace hM:=hM.bu r (bo w) Z (mC h_);obtain⟨cf,RL⟩:∃c,rs b.2.2=c:=⟨_,rfl⟩
   rw[RL];refine ct.mk ?_ ?_<;>intro LZ
   ·have LZ:b.2.2<0:=by have:=aL LZ;rw[<-iM];omega
    exact rtn L fun I' we re=>by show Value.int .i64 _=_;rw[eB,aF (by omega),aF (by rw[hE];decide),aF (by rw[hE1];decide),LI,cD F (show jV f.nodes.length (f.cJ.take i) b=2 by rw[jV,if_pos Ky,if_pos Ly,aF MJ,if_pos LZ]) (by decide)]
   ·have LZ:0<=b.2.2:=by have:=aI LZ;rw[<-Rat.not_lt,<-iM];omega
    refine pA uL rD rfl rfl (key:=lX (gW b)) (fun _=>rfl) rfl ⟨_,rfl⟩ (fun k W=>by obtain⟨x,_,rfl⟩:=aT.1 W;exact⟨_,rfl⟩) (fun h=>by
     obtain⟨x,V,I⟩:=aT.1 h
     exact MJ (aT.2 ⟨x,V,oH I⟩)) (fun O J r=>⟨(hM.rel r (bo w)).2,Rel.not r (bo w) hM.1⟩) (fun O wa wb r hM2 R LL=>?_)
    replace L:=(L.tr r.cG).tr (dO.grown R (fun x e=>by injection e with e;subst e;exact hM.1.elim (fun h=>h.elim) fun h=>h.1) r.bs);rw[show ((f.cJ.take i).map fun b=>lX (gW b))++[lX (gW b)]=(f.cJ.take (i+1)).map fun b=>lX (gW b) by rw[List.take_add_one,F];simp]at hM2;replace hM:tk wb (Cf w Kx) gm ((f.cJ.take (i+1)).map fun b=>lX (gW b)):=⟨hM.1,hM2⟩
    rw[di F (o8.2 ⟨Ky,Ly,MJ,LZ⟩)]at LI;refine⟨((i+1:Nat):Int),wo,?_⟩;intro In w6 D;exact⟨(i+1,w6,_),⟨Kp,L.tr D.cG,LI,hM.rel D (bo w)⟩,Sub.gn [] D,by dsimp only;omega⟩
  ·have hd:=hd.1 rfl;exact rtn L fun I' we re=>by show Value.int .i64 _=_;rw[eB,aF (by omega),aF (by rw[hE];decide),aF (by rw[hE1];decide),LI,cD F (show jV f.nodes.length (f.cJ.take i) b=5 by rw[jV,if_pos Ky,if_pos Ly,if_pos hd]) (by decide)]
 have Kp:i=f.cJ.length:=aS N (by simpa using Kp);rw[eQ (by omega)]at LI;exact rtn L fun I' we re=>by show Value.int .i64 _=_;rw[eB,aF (by omega),aF (by rw[hE];decide),aF (by rw[hE1];decide),LI]
theorem wm(X:Old S w)(hf:dN w S vn vb vs f)(hl:dQ w S vl l):eF PG F'.kE #[.agg #[vn,vb,vs],vl] w (eM w fun v' _=>v'= .int .i64 (gZ f l)):=by
 have L:=bR w;obtain⟨an,cn,ab,cb,aq,cq,rfl,rfl,rfl,Nd,OK,PW⟩:=hf.shape;obtain⟨al,cl,rfl,Lo,ND⟩:=hl.shape;refine mz (by simp) ?_;refine bp (cE L (fun _ J v Y=>v= .int .i64 (eB f)) (fun O J r=>BT (oS X r) (hf.br (kS L r X))) ?_);rintro O _ _ _ LC r Z L h_ rfl;obtain⟨c,hc⟩:∃c,eB f=c:=⟨_,rfl⟩
 rw[hc];refine ct.mk ?_ ?_<;>intro hd
 ·have hd:c≠0:=by simpa using hd
  exact rtn L fun I' we re=>by show Value.int .i64 _=_;rw[gZ,if_pos (by rw[hc];exact hd),hc]
 have hd:c=0:=by simpa using hd
 refine bp (cE L (fun _ J v Y=>v= .int .i64 (gp f.nodes.length l)) (fun O J r=>lD (oS X r) (hl.br (kS L r X))) ?_);rintro O _ _ _ Kx r Z L h_ rfl;exact rtn L fun I' we re=>by show Value.int .i64 _=_;rw[gZ,aF (by rw[hc,hd];decide)]
structure Calm(f:eS)(h:Nat):Prop where
 ok:tL f
 c0:0<f.cols
 b2:BJ (cK f) f.cols h
 a2:Ht (dI (cK f) f.cols).1 h
 st:jf (cK f) f.cols=[]
 hh:3*h<=90000
structure aAG(f:eS)(l:List Ld)(h:Nat)(x:List Rat):Prop where
 ok:gP f.nodes.length l
 b1:BJ (jP (cK f) (cz (gg f l) (-1))) (f.cols+1) h
 x:mJ (cK f) (cz (gg f l) (-1)) f.cols=some x
theorem jW(f:eS)(l:List Ld):(gg f l).length=3*f.nodes.length:=by rw[gg,dh,aK,iL]
theorem rE(a b:List Rat):(fe a b).length=a.length:=List.length_mapIdx ..
set_option maxRecDepth 100000
theorem eP.zeroV:eP w S (.agg #[.bool false,.slice none 0 0,.bool false,.slice none 0 0]) 0:=eP.zero
structure fS(w:World)(S:Nat->Prop)(U:List (List Value))(qs:List Rat):Prop where
 len:U.length=qs.length
 four:∀G∈U,G.length=4
 at_:∀(j:Nat) G q,U[j]? =some G->qs[j]? =some q->iB w S G q
section
variable{S S':Nat->Prop}{H:Hp}{nx:Nat}{iv E:Iv}{B:Nat}{w J Y:World}{O:Nat->Sx.cd}{U:List (List Value)}{qs:List Rat}
theorem fS.nil:fS w S [] []:=⟨rfl,fun _ h=>(by cases h),fun _ _ _ h=>by cases h⟩
theorem fS.br(h:fS w S U qs)(W:∀g,S g->Y.heap[g]? =w.heap[g]?):fS Y S U qs:=⟨h.len,h.four,fun j G q V I=>by
 obtain⟨b,a,n,c,b2,a2,n2,c2,e,hr⟩:=h.at_ j G q V I
 exact⟨b,a,n,c,b2,a2,n2,c2,e,hr.br W⟩⟩
theorem fS.bw(h:fS w S U qs)(W:∀g,S g->S' g):fS w S' U qs:=⟨h.len,h.four,fun j G q V I=>by
 obtain⟨b,a,n,c,b2,a2,n2,c2,e,hr⟩:=h.at_ j G q V I
 exact⟨b,a,n,c,b2,a2,n2,c2,e,hr.bw W⟩⟩
theorem fS.push(h:fS w S U qs)(hc:iB w S G q)(h4:G.length=4):fS w S (U++[G]) (qs++[q]):=by
 refine⟨by simp[h.len],fun x F=>?_,fun j x p V I=>?_⟩
 ·rcases bG.1 F with F|F
  ·exact h.four x F
  ·rw[bK.1 F];exact h4
 ·rcases aO j U.length with N|N
  ·rw[aJ N]at V;rw[aJ (by rw[<-h.len];exact N)]at I;exact h.at_ j x p V I
  ·have NU:j=U.length:=by have:=(aC.1 V).1;simp at this;omega
   subst NU;rw[aN (aE _),bC]at V;rw[h.len,aN (aE _),bC]at I;simp at V I;subst V I;exact hc
theorem fS.one(h:fS w S U qs):∀u∈U.flatten,u.oneCell'=true:=fun u hu=>by
 obtain⟨G,hc,hu⟩:=List.mem_flatten.1 hu;obtain⟨j,hj⟩:=aQ hc;obtain⟨_,_,_,_,_,_,_,_,rfl,_⟩:=h.at_ j G _ hj (aA (by rw[<-h.len];exact(aC.1 hj).1));simp at hu;rcases hu with rfl|rfl|rfl|rfl<;>rfl
theorem fS.list(h:fS w S U qs)(hs:gi w S 4 v U.flatten U.length):cF w S v qs:=⟨U,h.len▸hs,h.len,h.four,h.at_⟩
end
theorem dN.df{J Y:World}{B:Nat}{iv:Iv}(h:dN Y (Nf J Y) vn vb vs f)(hB:B<=J.heap.size)(hm:(J.heap.size,Y.heap.size)∈iv):dN Y (Cv FF B iv) vn vb vs f:=h.bw fun _ R=>R.df hB hm
def BU(G:List Value):Prop:=∃b a n c b2 a2 n2 c2,G=[.bool b,.slice a n c,.bool b2,.slice a2 n2 c2]/\n<=3/\n2<=3
theorem kK(a:Addr)(m n:Nat):(a.add m).add n=a.add (m+n):=by
 unfold Addr.add;split<;>split<;>simp_all<;>omega
theorem gK.l3{b1 b2:Bool}{a1 a2:Option Addr}{n1 n2 c1 c2:Nat}{a b:Int}(h:gK w S (.agg #[.bool b1,.slice a1 n1 c1,.bool b2,.slice a2 n2 c2]) a b)(hf:BU [.bool b1,.slice a1 n1 c1,.bool b2,.slice a2 n2 c2]):
  eP w S (.agg #[.bool b1,.slice a1 n1 c1,.bool b2,.slice a2 n2 c2]) (ratio a b)/\rl (ratio a b)<=3:=by
 obtain⟨_,_,_,_,_,_,_,_,e,k1,k2⟩:=hf;simp only[List.cons.injEq,Value.slice.injEq,Value.bool.injEq,and_true]at e;obtain⟨rfl,⟨rfl,rfl,rfl⟩,rfl,rfl,rfl,rfl⟩:=e;obtain⟨b1,l1,b2,l2,e,V,I⟩:=h;simp only[Value.agg.injEq,Array.mk.injEq,List.cons.injEq,Value.bool.injEq,and_true]at e;obtain⟨rfl,rfl,rfl,rfl⟩:=e;have g1:=V.short k1;have g2:=I.short k2;have r1:=g1.ln;have r2:=g2.ln;have hr:=gC a b;refine⟨⟨_,_,_,_,a,b,rfl,?_,?_,rfl⟩,by omega⟩
 ·obtain⟨ng,ls,i1,i2,i3⟩:=g1;exact⟨ng,ls,i1,i2,by omega⟩
 ·obtain⟨ng,ls,i1,i2,i3⟩:=g2;exact⟨ng,ls,i1,i2,by omega⟩
end Go.Ex
namespace Go.Ex
theorem aAE{a b x p q:Rat}(V:a<x)(I:x<=b):(p<=q->p<=p+(x-a) / (b-a)*(q-p)/\p+(x-a) / (b-a)*(q-p)<=q)/\(q<=p->q<=p+(x-a) / (b-a)*(q-p)/\p+(x-a) / (b-a)*(q-p)<=p):=by
 have hd:0<b-a:=by grind
 have N:0<=(b-a)⁻¹:=Rat.le_of_lt (Rat.inv_pos.2 hd);obtain⟨t,ht⟩:∃t,(x-a) / (b-a)=t:=⟨_,rfl⟩
 have t0:0<=t:=by rw[<-ht,bf];exact Rat.mul_nonneg (by grind) N
 have t1:t<=1:=by
  rw[<-ht,bf,<-Rat.mul_inv_cancel (b-a) (by grind)];exact Rat.mul_le_mul_of_nonneg_right (by grind) N
 rw[ht];refine⟨fun h=>?_,fun h=>?_⟩
 ·have k1:0<=t*(q-p):=Rat.mul_nonneg t0 (by grind);have k2:t*(q-p)<=1*(q-p):=Rat.mul_le_mul_of_nonneg_right t1 (by grind);grind
 ·have k1:0<=t*(p-q):=Rat.mul_nonneg t0 (by grind);have k2:t*(p-q)<=1*(p-q):=Rat.mul_le_mul_of_nonneg_right t1 (by grind);have k3:t*(q-p)= -(t*(p-q)):=by grind
  grind
end Go.Ex
namespace Go.Ex
open Go Go.Sx Go.Proofs
variable{p:Int×Int×(Int×Int)}{xs:List (Int×Int×(Int×Int))}{U:List (List Value)}{G:List Value}{S:Nat->Prop}{q:Rat}{v vb vn vs:Value}{w:World}{f:eS}
theorem Ee{p:Rat}:rs (p-q)<=0↔p<=q:=by
 rw[<-Int.not_lt,Ch,Rat.not_lt]
theorem Ef{p:Rat}:0<=rs (p-q)↔q<=p:=by
 rw[<-Int.not_lt,Ci,Rat.not_lt]
theorem mh(c b:Int×Int×Rat):fM c=fM b↔(c.1=b.1/\c.2.1=b.2.1)\/(c.1=b.2.1/\c.2.1=b.1):=by
 unfold fM;rw[Prod.mk.injEq];omega
theorem zd(c b:Int×Int×Rat):gW c=gW b↔c.1=b.1/\c.2.1=b.2.1:=by
 unfold gW;rw[Prod.mk.injEq]
section
variable{α β:Type}{C9:List α}{G9:α->β}{x:β}
theorem kL{k:Nat}{c:α}(hc:C9[k]? =some c)(h:G9 c≠x)(hE:x∈C9.map G9↔x∈(C9.drop k).map G9):x∈C9.map G9↔x∈(C9.drop (k+1)).map G9:=by
 rw[hE,List.drop_eq_getElem_cons (aC.1 hc).1,(aC.1 hc).2,List.map_cons,List.mem_cons,or_iff_right fun e=>h e.symm]
theorem rF{k:Nat}{c:α}(hc:C9[k]? =some c)(h:G9 c=x):x∈C9.map G9:=aT.2 ⟨c,aD hc,h⟩
theorem zg{k:Nat}(W:C9.length<=k)(hE:x∈C9.map G9↔x∈(C9.drop k).map G9):x∉C9.map G9:=fun h=>by
 have:=hE.1 h;rw[List.drop_eq_nil_of_le W]at this
 cases this
end
theorem oe(n:Int)(an ab aq:Option Addr)(ln cn nb cb nq cq:Nat)(w:World):eF PG F'.qe #[.agg #[.slice an ln cn,.slice ab nb cb,.slice aq nq cq],.int .i64 n] w (eM w fun v' _=>∃d,v'= .bool d/\(d=true↔gq ln n)):=by
 have L:=bR w;refine tX (by simp) ?_;refine ct.mk ?_ ?_<;>intro V
 ·intro I' we re;have V:=aL V;exact⟨_,rfl,L.tr re.cG,_,rfl,by rw[decide_eq_true_iff];exact⟨fun h=>⟨V,h⟩,fun h=>h.2⟩⟩
 ·intro I' we re;have V:=aI V;exact⟨_,rfl,L.tr re.cG,_,rfl,(fun h=>by cases h),fun h=>absurd h.1 V⟩
theorem kM(n lo N:Int)(w:World):eF PG F'.sy #[.int .i64 n,.int .i64 lo,.int .i64 N] w (eM w fun v' _=>∃d,v'= .bool d/\(d=true↔lo<=n/\n<=N)):=by
 have L:=bR w;refine wI (by simp) ?_;refine ct.mk ?_ ?_<;>intro V
 ·intro I' we re;have V:=aL V;exact⟨_,rfl,L.tr re.cG,_,rfl,by rw[decide_eq_true_iff];exact⟨fun h=>⟨V,h⟩,fun h=>h.2⟩⟩
 ·intro I' we re;have V:=aI V;exact⟨_,rfl,L.tr re.cG,_,rfl,(fun h=>by cases h),fun h=>absurd h.1 V⟩
theorem wv(X:Old S w)(hp:eP w S v q):eF PG F'.mS #[v] w (eM w fun v' _=>v'= .int .i64 (rs q)):=by
 obtain⟨a,b,V,rfl,_,_⟩:=hp.v;exact Cj X V
set_option maxHeartbeats 2000000 in
theorem Gk(X:Old S w)(hf:dN w S vn vb vs f):eF PG F'.sw #[.agg #[vn,vb,vs]] w (eM w fun v' _=>v'= .int .i64 (eB f)):=by
 have L:=bR w;obtain⟨an,cn,ab,cb,aq,cq,rfl,rfl,rfl,Nd,OK,PW⟩:=hf.shape;refine wG (by simp) ?_;refine ct.mk ?_ ?_<;>intro h0
 ·have h0:=aL h0;exact rtn L fun I' we re=>by show Value.int .i64 _=_;rw[eB,if_pos (by omega)]
 have h0:=aI h0;refine ct.mk ?_ ?_<;>intro V
 ·have V:=aL V;exact rtn L fun I' we re=>by show Value.int .i64 _=_;rw[eB,if_pos (by omega)]
 have V:=aI V;refine ct.mk ?_ ?_<;>intro I
 ·have I:=aL I;exact rtn L fun I' we re=>by show Value.int .i64 _=_;rw[eB,if_pos (by omega)]
 have I:=aI I
 refine⟨Nat×World×Iv,fun z=>⟨[(1,pP 0 0),(3,iN z.1)],[(0,.box T.Frame [.v (.slice an f.nodes.length cn),.v (.slice ab f.bars.length cb),.v (.slice aq f.cJ.length cq)])],1,z.2.2,z.2.1⟩,fun z=>f.nodes.length-z.1,
  fun z=>z.1<=f.nodes.length/\dO w.heap.size w z.2.1/\cS eC [] f.nodes=cS eC (f.nodes.take z.1) (f.nodes.drop z.1),?_,?_⟩
 ·intro O J D;exact⟨(0,J,_),⟨aP _,L.tr D.cG,rfl⟩,Sub.gn [] D⟩
 rintro⟨i,w1,iv⟩ ⟨N,L,hE⟩;dsimp only at N L hE ⊢;refine ct.mk ?_ ?_<;>intro Kp
 ·have Kp:i<f.nodes.length:=by simpa using Kp
  obtain⟨b,F⟩:∃b,f.nodes[i]? =some b:=⟨_,aA Kp⟩
  have hLl:(f.nodes.take i).length=i:=by rw[ah];omega
  obtain⟨adb,G,M8,hF,-,MT⟩:=hf.nodes.load (by decide) F;have hF:G=[.int .i64 b.1,.int .i64 b.2.1,.int .i64 b.2.2]:=hF;subst hF;refine⟨adb,M8,by omega,[.int .i64 b.1,.int .i64 b.2.1,.int .i64 b.2.2],rfl,rdO MT L X,?_⟩;refine bp (cE L (fun _ J v Y=>∃d,v= .bool d/\(d=true↔j2 b.1)) (fun O J r=>kM _ _ _ J) ?_);rintro O M5 v1 MS LC r Z L h_ ⟨d0,rfl,Ky⟩
  cases d0
  ·have Ky:¬j2 b.1:=fun h=>by have:=Ky.2 h;cases this
   exact rtn L fun I' we re=>by show Value.int .i64 _=_;rw[eB,aF (by omega),if_pos (by rw[hE,cD F (show eC (f.nodes.take i) b=2 by rw[eC,aF (fun h=>Ky h.1)]) (by decide)];decide),hE,cD F (show eC (f.nodes.take i) b=2 by rw[eC,aF (fun h=>Ky h.1)]) (by decide)]
  replace Ky:=Ky.1 rfl;refine bp (cE L (fun _ J v Y=>∃d,v= .bool d/\(d=true↔j2 b.2.1)) (fun O J r=>kM _ _ _ J) ?_);rintro O NX v2 MF Kx r Z L h_ ⟨d1,rfl,Kw⟩
  cases d1
  ·have Kw:¬j2 b.2.1:=fun h=>by have:=Kw.2 h;cases this
   exact rtn L fun I' we re=>by show Value.int .i64 _=_;rw[eB,aF (by omega),if_pos (by rw[hE,cD F (show eC (f.nodes.take i) b=2 by rw[eC,aF (fun h=>Kw h.2.1)]) (by decide)];decide),hE,cD F (show eC (f.nodes.take i) b=2 by rw[eC,aF (fun h=>Kw h.2.1)]) (by decide)]
  replace Kw:=Kw.1 rfl;refine bp (cE L (fun _ J v Y=>∃d,v= .bool d/\(d=true↔j2 b.2.2)) (fun O J r=>kM _ _ _ J) ?_);rintro O M4 v3 MY LV r Z L h_ ⟨d2,rfl,LQ⟩
  cases d2
  ·have LQ:¬j2 b.2.2:=fun h=>by have:=LQ.2 h;cases this
   exact rtn L fun I' we re=>by show Value.int .i64 _=_;rw[eB,aF (by omega),if_pos (by rw[hE,cD F (show eC (f.nodes.take i) b=2 by rw[eC,aF (fun h=>LQ h.2.2)]) (by decide)];decide),hE,cD F (show eC (f.nodes.take i) b=2 by rw[eC,aF (fun h=>LQ h.2.2)]) (by decide)]
  replace LQ:=LQ.1 rfl
  refine⟨Nat×World,fun z=>⟨[(1,pP 0 0),(3,iN i),(4,pP 1 0),(5,iN z.1)],[(1,.box T.Node [.v (.int .i64 b.1),.v (.int .i64 b.2.1),.v (.int .i64 b.2.2)]),(0,.box T.Frame [.v (.slice an f.nodes.length cn),.v (.slice ab f.bars.length cb),.v (.slice aq f.cJ.length cq)])],2,LV,z.2⟩,fun z=>i-z.1,
   fun z=>z.1<=i/\dO w.heap.size w z.2/\(b∈(f.nodes.take i).map id↔b∈((f.nodes.take i).drop z.1).map id),?_,?_⟩
  ·intro O J D;exact⟨(0,J),⟨aP _,L.tr D.cG,Iff.rfl⟩,Sub.gn [] D⟩
  rintro⟨k,Y⟩ ⟨W,L,hK⟩;dsimp only at W L hK ⊢;refine ct.mk ?_ ?_<;>intro Ks
  ·have Ks:k<i:=by have:=aL Ks;omega
   obtain⟨c,hc⟩:∃c,f.nodes[k]? =some c:=⟨_,aA (by omega)⟩
   have OV:(f.nodes.take i)[k]? =some c:=by rw[bM Ks];exact hc
   obtain⟨adc,cs2,SB,PV,-,OS⟩:=hf.nodes.load (by decide) hc;have PV:cs2=[.int .i64 c.1,.int .i64 c.2.1,.int .i64 c.2.2]:=PV;subst PV;refine cC hτ eG [.x 0,.x 1,.x 2,.x 3,.x 4,.x 5,.x 6] (by kernel_rfl) (by kernel_rfl) ?_;refine⟨adc,SB,by omega,[.int .i64 c.1,.int .i64 c.2.1,.int .i64 c.2.2],rfl,rdO OS L X,decide (c=b),fun O w o1 o2=>BS c b w o1 o2,?_⟩;refine ct.mk ?_ ?_<;>intro hd
   ·have hd:c=b:=aL hd;have MX:b∈f.nodes.take i:=by have:=rF (G9:=id) OV hd;rwa [List.map_id]at this
    exact rtn L fun I' we re=>by show Value.int .i64 _=_;rw[eB,aF (by omega),if_pos (by rw[hE,cD F (show eC (f.nodes.take i) b=12 by rw[eC,if_pos ⟨Ky,Kw,LQ⟩,if_pos MX]) (by decide)];decide),hE,cD F (show eC (f.nodes.take i) b=12 by rw[eC,if_pos ⟨Ky,Kw,LQ⟩,if_pos MX]) (by decide)]
   have hd:c≠b:=aI hd;have Nl:=kL (G9:=id) OV hd hK;refine⟨((k+1:Nat):Int),wo,?_⟩;intro In w6 D;exact⟨(k+1,w6),⟨Ks,L.tr D.cG,Nl⟩,Sub.gn [] D,by dsimp only;omega⟩
  have Ks:k=i:=by have:=aI Ks;omega
  have MJ:=zg (by rw[hLl];omega) hK;rw[List.map_id]at MJ;rw[di F (qE.2 ⟨⟨Ky,Kw,LQ⟩,MJ⟩)]at hE;refine⟨((i+1:Nat):Int),wo,?_⟩;intro In w6 D;exact⟨(i+1,w6,_),⟨Kp,L.tr D.cG,hE⟩,Sub.gn [] D,by dsimp only;omega⟩
 have Kp:i=f.nodes.length:=aS N (by simpa using Kp);rw[eQ (by omega)]at hE
 refine⟨Nat×World×Iv,fun z=>⟨[(1,pP 0 0),(6,iN z.1)],[(0,.box T.Frame [.v (.slice an f.nodes.length cn),.v (.slice ab f.bars.length cb),.v (.slice aq f.cJ.length cq)])],1,z.2.2,z.2.1⟩,fun z=>f.bars.length-z.1,
  fun z=>z.1<=f.bars.length/\dO w.heap.size w z.2.1/\cS (eJ f.nodes.length) [] f.bars=cS (eJ f.nodes.length) (f.bars.take z.1) (f.bars.drop z.1),?_,?_⟩
 ·intro O J D;exact⟨(0,J,_),⟨aP _,L.tr D.cG,rfl⟩,Sub.gn [] D⟩
 rintro⟨i,w1,iv⟩ ⟨N,L,LI⟩;dsimp only at N L LI ⊢;refine ct.mk ?_ ?_<;>intro Kp
 ·have Kp:i<f.bars.length:=by simpa using Kp
  obtain⟨b,F⟩:∃b,f.bars[i]? =some b:=⟨_,aA Kp⟩
  have hLl:(f.bars.take i).length=i:=by rw[ah];omega
  obtain⟨adb,G,M8,hF,-,MT⟩:=hf.bars.load (by decide) F;obtain⟨g0,g1,g2,g3,g4,g5,g6,g7,rfl,hF⟩:=hF;refine⟨adb,M8,by omega,[.int .i64 b.1,.int .i64 b.2.1,.bool g0,.slice g1 g2 g3,.bool g4,.slice g5 g6 g7],rfl,rdO MT L X,?_⟩;refine bp (cE L (fun _ J v Y=>∃d,v= .bool d/\(d=true↔gq f.nodes.length b.1)) (fun O J r=>oe _ _ _ _ _ _ _ _ _ _ J) ?_);rintro O M5 v1 MS LC r Z L h_ ⟨d0,rfl,Ky⟩
  cases d0
  ·have Ky:¬gq f.nodes.length b.1:=fun h=>by have:=Ky.2 h;cases this
   exact rtn L fun I' we re=>by show Value.int .i64 _=_;rw[eB,aF (by omega),aF (by rw[hE];decide),if_pos (by rw[LI,cD F (show eJ f.nodes.length (f.bars.take i) b=6 by rw[eJ,aF (fun h=>Ky h.1)]) (by decide)];decide),LI,cD F (show eJ f.nodes.length (f.bars.take i) b=6 by rw[eJ,aF (fun h=>Ky h.1)]) (by decide)]
  replace Ky:=Ky.1 rfl;refine bp (cE L (fun _ J v Y=>∃d,v= .bool d/\(d=true↔gq f.nodes.length b.2.1)) (fun O J r=>oe _ _ _ _ _ _ _ _ _ _ J) ?_);rintro O NX v2 MF Kx r Z L h_ ⟨d1,rfl,Kw⟩
  cases d1
  ·have Kw:¬gq f.nodes.length b.2.1:=fun h=>by have:=Kw.2 h;cases this
   exact rtn L fun I' we re=>by show Value.int .i64 _=_;rw[eB,aF (by omega),aF (by rw[hE];decide),if_pos (by rw[LI,cD F (show eJ f.nodes.length (f.bars.take i) b=6 by rw[eJ,aF (fun h=>Kw h.2)]) (by decide)];decide),LI,cD F (show eJ f.nodes.length (f.bars.take i) b=6 by rw[eJ,aF (fun h=>Kw h.2)]) (by decide)]
  replace Kw:=Kw.1 rfl;refine ct.mk ?_ ?_<;>intro LX
  ·have LX:b.1=b.2.1:=by simpa using LX
   exact rtn L fun I' we re=>by show Value.int .i64 _=_;rw[eB,aF (by omega),aF (by rw[hE];decide),if_pos (by rw[LI,cD F (show eJ f.nodes.length (f.bars.take i) b=3 by rw[eJ,if_pos ⟨Ky,Kw⟩,if_pos LX]) (by decide)];decide),LI,cD F (show eJ f.nodes.length (f.bars.take i) b=3 by rw[eJ,if_pos ⟨Ky,Kw⟩,if_pos LX]) (by decide)]
  have LX:b.1≠b.2.1:=by simpa using LX
  refine⟨Nat×World,fun z=>⟨[(1,pP 0 0),(6,iN i),(7,pP 1 0),(8,iN z.1)],[(1,.box T.Jy [.v (.int .i64 b.1),.v (.int .i64 b.2.1),.v (.bool g0),.v (.slice g1 g2 g3),.v (.bool g4),.v (.slice g5 g6 g7)]),(0,.box T.Frame [.v (.slice an f.nodes.length cn),.v (.slice ab f.bars.length cb),.v (.slice aq f.cJ.length cq)])],2,Kx,z.2⟩,fun z=>i-z.1,
   fun z=>z.1<=i/\dO w.heap.size w z.2/\(fM b∈(f.bars.take i).map fM↔fM b∈((f.bars.take i).drop z.1).map fM),?_,?_⟩
  ·intro O J D;exact⟨(0,J),⟨aP _,L.tr D.cG,Iff.rfl⟩,Sub.gn [] D⟩
  rintro⟨k,Y⟩ ⟨W,L,hK⟩;dsimp only at W L hK ⊢;refine ct.mk ?_ ?_<;>intro Ks
  ·have Ks:k<i:=by have:=aL Ks;omega
   obtain⟨c,hc⟩:∃c,f.bars[k]? =some c:=⟨_,aA (by omega)⟩
   have OV:(f.bars.take i)[k]? =some c:=by rw[bM Ks];exact hc
   obtain⟨adc,cs2,SB,PV,-,OS⟩:=hf.bars.load (by decide) hc;obtain⟨q0,q1,q2,q3,q4,q5,q6,q7,rfl,-⟩:=PV;refine⟨adc,SB,by omega,[.int .i64 c.1,.int .i64 c.2.1,.bool q0,.slice q1 q2 q3,.bool q4,.slice q5 q6 q7],rfl,rdO OS L X,?_⟩;refine ct.mk ?_ ?_<;>intro e1
   ·have e1:(c.1=b.1):=by simpa using e1
    refine ct.mk ?_ ?_<;>intro e2
    ·have e2:(c.2.1=b.2.1):=by simpa using e2
     have MX:=rF (G9:=fM) OV (show fM c=fM b by rw[mh];omega);exact rtn L fun I' we re=>by show Value.int .i64 _=_;rw[eB,aF (by omega),aF (by rw[hE];decide),if_pos (by rw[LI,cD F (show eJ f.nodes.length (f.bars.take i) b=5 by rw[eJ,if_pos ⟨Ky,Kw⟩,aF LX,if_pos MX]) (by decide)];decide),LI,cD F (show eJ f.nodes.length (f.bars.take i) b=5 by rw[eJ,if_pos ⟨Ky,Kw⟩,aF LX,if_pos MX]) (by decide)]
    ·have e2:¬(c.2.1=b.2.1):=by simpa using e2
     refine ct.mk ?_ ?_<;>intro e3
     ·have e3:(c.1=b.2.1):=by simpa using e3
      refine ct.mk ?_ ?_<;>intro e4
      ·have e4:(c.2.1=b.1):=by simpa using e4
       have MX:=rF (G9:=fM) OV (show fM c=fM b by rw[mh];omega);exact rtn L fun I' we re=>by show Value.int .i64 _=_;rw[eB,aF (by omega),aF (by rw[hE];decide),if_pos (by rw[LI,cD F (show eJ f.nodes.length (f.bars.take i) b=5 by rw[eJ,if_pos ⟨Ky,Kw⟩,aF LX,if_pos MX]) (by decide)];decide),LI,cD F (show eJ f.nodes.length (f.bars.take i) b=5 by rw[eJ,if_pos ⟨Ky,Kw⟩,aF LX,if_pos MX]) (by decide)]
      ·have e4:¬(c.2.1=b.1):=by simpa using e4
       have Nl:=kL (G9:=fM) OV (show fM c≠fM b by rw[Ne,mh];omega) hK;refine⟨((k+1:Nat):Int),wo,?_⟩;intro In w6 D;exact⟨(k+1,w6),⟨Ks,L.tr D.cG,Nl⟩,Sub.gn [] D,by dsimp only;omega⟩
     ·have e3:¬(c.1=b.2.1):=by simpa using e3
      have Nl:=kL (G9:=fM) OV (show fM c≠fM b by rw[Ne,mh];omega) hK;refine⟨((k+1:Nat):Int),wo,?_⟩;intro In w6 D;exact⟨(k+1,w6),⟨Ks,L.tr D.cG,Nl⟩,Sub.gn [] D,by dsimp only;omega⟩
   ·have e1:¬(c.1=b.1):=by simpa using e1
    refine ct.mk ?_ ?_<;>intro e3
    ·have e3:(c.1=b.2.1):=by simpa using e3
     refine ct.mk ?_ ?_<;>intro e4
     ·have e4:(c.2.1=b.1):=by simpa using e4
      have MX:=rF (G9:=fM) OV (show fM c=fM b by rw[mh];omega);exact rtn L fun I' we re=>by show Value.int .i64 _=_;rw[eB,aF (by omega),aF (by rw[hE];decide),if_pos (by rw[LI,cD F (show eJ f.nodes.length (f.bars.take i) b=5 by rw[eJ,if_pos ⟨Ky,Kw⟩,aF LX,if_pos MX]) (by decide)];decide),LI,cD F (show eJ f.nodes.length (f.bars.take i) b=5 by rw[eJ,if_pos ⟨Ky,Kw⟩,aF LX,if_pos MX]) (by decide)]
     ·have e4:¬(c.2.1=b.1):=by simpa using e4
      have Nl:=kL (G9:=fM) OV (show fM c≠fM b by rw[Ne,mh];omega) hK;refine⟨((k+1:Nat):Int),wo,?_⟩;intro In w6 D;exact⟨(k+1,w6),⟨Ks,L.tr D.cG,Nl⟩,Sub.gn [] D,by dsimp only;omega⟩
    ·have e3:¬(c.1=b.2.1):=by simpa using e3
     have Nl:=kL (G9:=fM) OV (show fM c≠fM b by rw[Ne,mh];omega) hK;refine⟨((k+1:Nat):Int),wo,?_⟩;intro In w6 D;exact⟨(k+1,w6),⟨Ks,L.tr D.cG,Nl⟩,Sub.gn [] D,by dsimp only;omega⟩
  have Ks:k=i:=by have:=aI Ks;omega
  have MJ:=zg (by rw[hLl];omega) hK;refine bp (cE L (fun _ J v Y=>v= .int .i64 (rs b.2.2)) (fun O J r=>(wv (oS X r) (hF.br (kS L r X)))) ?_);rintro O M4 v3 MY LV r Z L h_ rfl;obtain⟨cf,RL⟩:∃c,rs b.2.2=c:=⟨_,rfl⟩
  rw[RL];refine ct.mk ?_ ?_<;>intro LZ
  ·have LZ:b.2.2<=0:=by have:=aL LZ;rw[<-Rat.not_lt,<-jD];omega
   exact rtn L fun I' we re=>by show Value.int .i64 _=_;rw[eB,aF (by omega),aF (by rw[hE];decide),if_pos (by rw[LI,cD F (show eJ f.nodes.length (f.bars.take i) b=2 by rw[eJ,if_pos ⟨Ky,Kw⟩,aF LX,aF MJ,if_pos LZ]) (by decide)];decide),LI,cD F (show eJ f.nodes.length (f.bars.take i) b=2 by rw[eJ,if_pos ⟨Ky,Kw⟩,aF LX,aF MJ,if_pos LZ]) (by decide)]
  have LZ:0<b.2.2:=by have:=aI LZ;rw[<-jD];omega
  rw[di F (o9.2 ⟨⟨Ky,Kw⟩,LX,MJ,LZ⟩)]at LI;refine⟨((i+1:Nat):Int),wo,?_⟩;intro In w6 D;exact⟨(i+1,w6,_),⟨Kp,L.tr D.cG,LI⟩,Sub.gn [] D,by dsimp only;omega⟩
 have Kp:i=f.bars.length:=aS N (by simpa using Kp);rw[eQ (by omega)]at LI
 refine⟨Nat×World×Iv,fun z=>⟨[(1,pP 0 0),(10,iN z.1)],[(0,.box T.Frame [.v (.slice an f.nodes.length cn),.v (.slice ab f.bars.length cb),.v (.slice aq f.cJ.length cq)])],1,z.2.2,z.2.1⟩,fun z=>f.cJ.length-z.1,
  fun z=>z.1<=f.cJ.length/\dO w.heap.size w z.2.1/\cS (jV f.nodes.length) [] f.cJ=cS (jV f.nodes.length) (f.cJ.take z.1) (f.cJ.drop z.1),?_,?_⟩
 ·intro O J D;exact⟨(0,J,_),⟨aP _,L.tr D.cG,rfl⟩,Sub.gn [] D⟩
 rintro⟨i,w1,iv⟩ ⟨N,L,RM⟩;dsimp only at N L RM ⊢;refine ct.mk ?_ ?_<;>intro Kp
 ·have Kp:i<f.cJ.length:=by simpa using Kp
  obtain⟨b,F⟩:∃b,f.cJ[i]? =some b:=⟨_,aA Kp⟩
  have hLl:(f.cJ.take i).length=i:=by rw[ah];omega
  obtain⟨adb,G,M8,hF,-,MT⟩:=hf.cJ.load (by decide) F;obtain⟨g0,g1,g2,g3,g4,g5,g6,g7,rfl,hF⟩:=hF;refine⟨adb,M8,by omega,[.int .i64 b.1,.int .i64 b.2.1,.bool g0,.slice g1 g2 g3,.bool g4,.slice g5 g6 g7],rfl,rdO MT L X,?_⟩;refine bp (cE L (fun _ J v Y=>∃d,v= .bool d/\(d=true↔gq f.nodes.length b.1)) (fun O J r=>oe _ _ _ _ _ _ _ _ _ _ J) ?_);rintro O _ _ _ LC r Z L h_ ⟨d0,rfl,Ky⟩
  cases d0
  ·have Ky:¬gq f.nodes.length b.1:=fun h=>by have:=Ky.2 h;cases this
   exact rtn L fun I' we re=>by show Value.int .i64 _=_;rw[eB,aF (by omega),aF (by rw[hE];decide),aF (by rw[LI];decide),RM,cD F (show jV f.nodes.length (f.cJ.take i) b=6 by rw[jV,aF Ky]) (by decide)]
  replace Ky:=Ky.1 rfl;refine bp (cE L (fun _ J v Y=>∃d,v= .bool d/\(d=true↔0<=b.2.1/\b.2.1<=2)) (fun O J r=>kM _ _ _ J) ?_);rintro O _ _ _ Kx r Z L h_ ⟨d1,rfl,Ly⟩
  cases d1
  ·have Ly:¬(0<=b.2.1/\b.2.1<=2):=fun h=>by have:=Ly.2 h;cases this
   exact rtn L fun I' we re=>by show Value.int .i64 _=_;rw[eB,aF (by omega),aF (by rw[hE];decide),aF (by rw[LI];decide),RM,cD F (show jV f.nodes.length (f.cJ.take i) b=2 by rw[jV,if_pos Ky,aF Ly]) (by decide)]
  replace Ly:=Ly.1 rfl
  refine⟨Nat×World,fun z=>⟨[(1,pP 0 0),(10,iN i),(11,pP 1 0),(12,iN z.1)],[(1,.box T.zK [.v (.int .i64 b.1),.v (.int .i64 b.2.1),.v (.bool g0),.v (.slice g1 g2 g3),.v (.bool g4),.v (.slice g5 g6 g7)]),(0,.box T.Frame [.v (.slice an f.nodes.length cn),.v (.slice ab f.bars.length cb),.v (.slice aq f.cJ.length cq)])],2,Kx,z.2⟩,fun z=>i-z.1,
   fun z=>z.1<=i/\dO w.heap.size w z.2/\(gW b∈(f.cJ.take i).map gW↔gW b∈((f.cJ.take i).drop z.1).map gW),?_,?_⟩
  ·intro O J D;exact⟨(0,J),⟨aP _,L.tr D.cG,Iff.rfl⟩,Sub.gn [] D⟩
  rintro⟨k,Y⟩ ⟨W,L,hK⟩;dsimp only at W L hK ⊢;refine ct.mk ?_ ?_<;>intro Ks
  ·have Ks:k<i:=by have:=aL Ks;omega
   obtain⟨c,hc⟩:∃c,f.cJ[k]? =some c:=⟨_,aA (by omega)⟩
   have OV:(f.cJ.take i)[k]? =some c:=by rw[bM Ks];exact hc
   obtain⟨adc,cs2,SB,PV,-,OS⟩:=hf.cJ.load (by decide) hc;obtain⟨q0,q1,q2,q3,q4,q5,q6,q7,rfl,-⟩:=PV;refine cC hτ eG [.x 0,.x 1,.x 2,.x 3,.x 4,.x 5,.x 6,.x 7,.x 8,.x 9,.x 10,.x 11,.x 12,.x 13,.x 14,.x 15,.x 16,.x 17,.x 18,.x 19] (by kernel_rfl) (by kernel_rfl) ?_;refine⟨adc,SB,by omega,.int .i64 c.1,fun O J r=>?_,?_⟩
   ·obtain⟨k1,k2⟩:=OS 0 _ rfl;rw[cA (w:=w) (Y:=J) (by simp only[dP];exact(L.tr r.cG).block _ (X _ k1))];simp only[aG,kK]at k2 ⊢;exact k2
   refine ct.mk ?_ ?_<;>intro e1
   ·have e1:(c.1=b.1):=by simpa using e1
    refine⟨adc,SB,by omega,.int .i64 c.2.1,fun O J r=>?_,?_⟩
    ·obtain⟨k1,k2⟩:=OS 1 _ rfl;rw[cA (w:=w) (Y:=J) (by simp only[dP];exact(L.tr r.cG).block _ (X _ k1))];simp only[aG,kK]at k2 ⊢;exact k2
    refine ct.mk ?_ ?_<;>intro e2
    ·have e2:(c.2.1=b.2.1):=by simpa using e2
     have MX:=rF (G9:=gW) OV (show gW c=gW b by rw[zd];omega);exact rtn L fun I' we re=>by show Value.int .i64 _=_;rw[eB,aF (by omega),aF (by rw[hE];decide),aF (by rw[LI];decide),RM,cD F (show jV f.nodes.length (f.cJ.take i) b=5 by rw[jV,if_pos Ky,if_pos Ly,if_pos MX]) (by decide)]
    ·have e2:¬(c.2.1=b.2.1):=by simpa using e2
     have Nl:=kL (G9:=gW) OV (show gW c≠gW b by rw[Ne,zd];omega) hK;refine⟨((k+1:Nat):Int),wo,?_⟩;intro In w6 D;exact⟨(k+1,w6),⟨Ks,L.tr D.cG,Nl⟩,Sub.gn [] D,by dsimp only;omega⟩
   ·have e1:¬(c.1=b.1):=by simpa using e1
    have Nl:=kL (G9:=gW) OV (show gW c≠gW b by rw[Ne,zd];omega) hK;refine⟨((k+1:Nat):Int),wo,?_⟩;intro In w6 D;exact⟨(k+1,w6),⟨Ks,L.tr D.cG,Nl⟩,Sub.gn [] D,by dsimp only;omega⟩
  have Ks:k=i:=by have:=aI Ks;omega
  have MJ:=zg (by rw[hLl];omega) hK;refine bp (cE L (fun _ J v Y=>v= .int .i64 (rs b.2.2)) (fun O J r=>(wv (oS X r) (hF.br (kS L r X)))) ?_);rintro O _ _ _ LV r Z L h_ rfl;obtain⟨cf,RL⟩:∃c,rs b.2.2=c:=⟨_,rfl⟩
  rw[RL];refine ct.mk ?_ ?_<;>intro LZ
  ·have LZ:b.2.2<0:=by have:=aL LZ;rw[<-iM];omega
   exact rtn L fun I' we re=>by show Value.int .i64 _=_;rw[eB,aF (by omega),aF (by rw[hE];decide),aF (by rw[LI];decide),RM,cD F (show jV f.nodes.length (f.cJ.take i) b=2 by rw[jV,if_pos Ky,if_pos Ly,aF MJ,if_pos LZ]) (by decide)]
  have LZ:0<=b.2.2:=by have:=aI LZ;rw[<-Rat.not_lt,<-iM];omega
  rw[di F (o8.2 ⟨Ky,Ly,MJ,LZ⟩)]at RM;refine⟨((i+1:Nat):Int),wo,?_⟩;intro In w6 D;exact⟨(i+1,w6,_),⟨Kp,L.tr D.cG,RM⟩,Sub.gn [] D,by dsimp only;omega⟩
 have Kp:i=f.cJ.length:=aS N (by simpa using Kp);rw[eQ (by omega)]at RM;exact rtn L fun I' we re=>by show Value.int .i64 _=_;rw[eB,aF (by omega),aF (by rw[hE];decide),aF (by rw[LI];decide),RM]
def rq(p:Int×Int):Rat:=ratio p.1 p.2
structure Ck where
 nodes:List (Int×Int×Int)
 bars:List (Int×Int×(Int×Int))
 cJ:List (Int×Int×(Int×Int))
def BV(p:Int×Int×(Int×Int)):Int×Int×Rat:=(p.1,p.2.1,rq p.2.2)
def Ck.val(f:Ck):eS:=⟨f.nodes,f.bars.map BV,f.cJ.map BV⟩
def rG(w:World)(S:Nat->Prop)(G:List Value)(p:Int×Int×(Int×Int)):Prop:=∃b a n c b2 a2 n2 c2,G=[.int .i64 p.1,.int .i64 p.2.1,.bool b,.slice a n c,.bool b2,.slice a2 n2 c2]/\gK w S (.agg #[.bool b,.slice a n c,.bool b2,.slice a2 n2 c2]) p.2.2.1 p.2.2.2
structure oI(w:World)(S:Nat->Prop)(vn vb vs:Value)(f:Ck):Prop where
 nodes:lC w S vn f.nodes
 bars:dT 6 rG w S vb f.bars
 cJ:dT 6 rG w S vs f.cJ
theorem rG.br{Y:World}(h:rG w S G p)(W:∀g,S g->Y.heap[g]? =w.heap[g]?):rG Y S G p:=by
 obtain⟨b,a,n,c,b2,a2,n2,c2,V,I⟩:=h;exact⟨b,a,n,c,b2,a2,n2,c2,V,I.br W⟩
theorem oI.br{Y:World}{f:Ck}(h:oI w S vn vb vs f)(W:∀g,S g->Y.heap[g]? =w.heap[g]?):oI Y S vn vb vs f:=
 ⟨dT.br (w:=w) (fun _ _ h=>h) h.nodes W,dT.br (fun _ _ h=>h.br W) h.bars W,dT.br (fun _ _ h=>h.br W) h.cJ W⟩
theorem rG.Kh(h:rG w S G p)(hf:BU (G.drop 2)):z6 w S G (BV p)/\rl (BV p).2.2<=3:=by
 obtain⟨b,a,n,c,b2,a2,n2,c2,rfl,I⟩:=h;obtain⟨K,h4⟩:=I.l3 hf;exact⟨⟨b,a,n,c,b2,a2,n2,c2,rfl,K⟩,h4⟩
theorem dT.cells{α:Type}{k:Nat}{P:World->(Nat->Prop)->List Value->α->Prop}{xs:List α}(h:dT k P w S v xs):
  ∃U:List (List Value),U.length=xs.length/\dT k (fun w S G (y:List Value×α)=>G=y.1/\P w S G y.2) w S v (U.zip xs)/\(∀(j:Nat) G x,U[j]? =some G->xs[j]? =some x->P w S G x)/\
   ∀{β:Type} (Q:World->(Nat->Prop)->List Value->β->Prop) (ys:List β),ys.length=xs.length->(∀(j:Nat) G y,U[j]? =some G->ys[j]? =some y->Q w S G y)->dT k Q w S v ys:=by
 obtain⟨U,V,I,K,h4⟩:=h;have hz:(U.zip xs).length=xs.length:=by rw[List.length_zip,I,Nat.min_self]
 refine⟨U,I,⟨U,by rw[hz];exact V,by rw[hz,I],K,fun j G y k1 k2=>?_⟩,h4,fun Q ys hl hQ=>⟨U,by rw[hl];exact V,by rw[hl,I],K,hQ⟩⟩;rw[List.getElem?_zip_eq_some]at k2;rw[k1]at k2;exact⟨by injection k2.1,h4 j G _ k1 k2.2⟩
theorem I2.of(h4:∀(j:Nat) G x,U[j]? =some G->xs[j]? =some x->rG w S G x)
  (hQ:∀{β:Type} (Q:World->(Nat->Prop)->List Value->β->Prop) (ys:List β),ys.length=xs.length->(∀(j:Nat) G y,U[j]? =some G->ys[j]? =some y->Q w S G y)->dT 6 Q w S v ys)
  (hl:U.length=xs.length) (hf:∀j G,j<xs.length->U[j]? =some G->BU (G.drop 2)):Gg w S v (xs.map BV)/\∀b∈xs.map BV,rl b.2.2<=3:=by
 refine⟨hQ z6 _ (aK ..) fun j G y k1 k2=>?_,fun b hb=>?_⟩
 ·rw[aM]at k2;obtain⟨p,hp,rfl⟩:=Option.map_eq_some_iff.1 k2;exact((h4 j G p k1 hp).Kh (hf j G (aC.1 hp).1 k1)).1
 ·obtain⟨p,hp,rfl⟩:=aT.1 hb;obtain⟨j,hj⟩:=aQ hp;have PY:=(aC.1 hj).1;have hc:U[j]? =some U[j]:=aA (by omega);exact((h4 j _ p hc hj).Kh (hf j _ PY hc)).2
section
variable{xs:List Rat}{l:List (Rat×Rat)}{i:Nat}{x:Rat}{r:Rat×Rat}
end
theorem BW(hf:dN w S vn vb vs f)(h60:f.bars.length<=60/\f.cJ.length<=60):eF PG F'.nZ #[.agg #[vn,vb,vs]] w (eM w fun v' _=>v'= .int .i64 f.cols):=by
 have L:=bR w;obtain⟨an,cn,ab,cb,aq,cq,rfl,rfl,rfl,Nd,OK,PW⟩:=hf.shape;refine ql (by simp) ?_;refine⟨((f.bars.length+f.cJ.length:Nat):Int),wo,?_⟩;exact rtn L fun I' we re=>rfl
section
variable{S:Nat->Prop}{w w1 J:World}{H:Hp}{nx:Nat}{iv:Iv}{O:Nat->Sx.cd}
end
end Go.Ex
namespace Go.Ex
end Go.Ex
namespace Go.Ex
open Go Go.Sx Go.Proofs
variable{G:List Value}
structure jX{α:Type}(k:Nat)(P:World->(Nat->Prop)->List Value->α->Prop)(w:World)(S:Nat->Prop)(U:List (List Value))(qs:List α):Prop where
 len:U.length=qs.length
 wid:∀G∈U,G.length=k
 at_:∀(j:Nat) G q,U[j]? =some G->qs[j]? =some q->P w S G q
section
variable{α:Type}{k:Nat}{P:World->(Nat->Prop)->List Value->α->Prop}{w Y:World}{S S':Nat->Prop}{U:List (List Value)}{qs:List α}
theorem jX.nil:jX k P w S [] []:=⟨rfl,fun _ h=>(by cases h),fun _ _ _ h=>by cases h⟩
theorem jX.map{P':World->(Nat->Prop)->List Value->α->Prop}(h:jX k P w S U qs)(hP:∀G q,P w S G q->P' Y S' G q):jX k P' Y S' U qs:=⟨h.len,h.wid,fun j G q V I=>hP G q (h.at_ j G q V I)⟩
theorem jX.push{q:α}(h:jX k P w S U qs)(hc:P w S G q)(h4:G.length=k):jX k P w S (U++[G]) (qs++[q]):=by
 refine⟨by simp[h.len],fun x F=>?_,fun j x p V I=>?_⟩
 ·rcases bG.1 F with F|F
  ·exact h.wid x F
  ·rw[bK.1 F];exact h4
 ·rcases aO j U.length with N|N
  ·rw[aJ N]at V;rw[aJ (by rw[<-h.len];exact N)]at I;exact h.at_ j x p V I
  ·have NU:j=U.length:=by have:=(aC.1 V).1;simp at this;omega
   subst NU;rw[aN (aE _),bC]at V;rw[h.len,aN (aE _),bC]at I;simp at V I;subst V I;exact hc
theorem jX.one(h:jX k P w S U qs)(V:∀G q,P w S G q->∀u∈G,u.oneCell'=true):∀u∈U.flatten,u.oneCell'=true:=fun u hu=>by
 obtain⟨G,hc,hu⟩:=List.mem_flatten.1 hu;obtain⟨j,hj⟩:=aQ hc;exact V G _ (h.at_ j G _ hj (aA (by rw[<-h.len];exact(aC.1 hj).1))) u hu
theorem jX.list{v:Value}(h:jX k P w S U qs)(hs:gi w S k v U.flatten U.length):dT k P w S v qs:=⟨U,h.len▸hs,h.len,h.wid,h.at_⟩
end
section
variable{S S':Nat->Prop}{H:Hp}{nx:Nat}{iv E:Iv}{B:Nat}{w J Y:World}{O:Nat->Sx.cd}{v:Value}{l:List (Rat×Rat)}
end
end Go.Ex
namespace Go.Ex
abbrev I3:=Int×Int×Int
def r9(s:Nat->I3)(fa:Int)(x:Ld):Nat->I3:=fun n=>if(n:Int)=x.1 then((s n).1+fa*x.2.1,(s n).2.1+fa*x.2.2.1,(s n).2.2+fa*x.2.2.2)else s n
def pc(s:Nat->I3)(fa:Int)(l:List Ld):Nat->Nat->I3
 |0=>s
 |k+1=>r9 (pc s fa l k) fa (l.getD k (0,0,0,0))
def e7(G:List (List Ld))(fs:List Int):Nat->Nat->I3
 |0=>fun _=>(0,0,0)
 |c+1=>pc (e7 G fs c) (fs.getD c 0) (G.getD c []) (G.getD c []).length
def Af(p:I3):Prop:=j2 p.1/\j2 p.2.1/\j2 p.2.2
instance (p : I3) : Decidable (Af p) := by unfold Af; infer_instance
def CF(n:Int):Int:=if -100<=n/\n<=100 then 0 else 2
def zD(s:Nat->I3)(n:Nat):Int:=if Af (s n)then 0 else 8
def jg(G:List (List Ld))(fs:List Int):Int:=
 if 16<G.length then 8 else if fs.length≠G.length then 11 else if cS (fun _=>CF) [] fs≠0 then 2 else
  if cS (fun _=>gp 20) [] G≠0 then cS (fun _=>gp 20) [] G else cS (fun _=>zD (e7 G fs G.length)) [] (List.range 20)
def e9(s:Nat->I3):Nat->List Ld
 |0=>[]
 |n+1=>if s n=(0,0,0)then e9 s n else e9 s n++[((n:Int),s n)]
theorem pe(s:Nat->I3):∀n,(e9 s n).length<=n
 |0=>aE _
 |n+1=>by
  have:=pe s n;rw[e9];split
  ·omega
  ·rw[List.length_append,List.length_singleton];omega
def Je(s:Nat->I3)(t:Int):Prop:=∀n,(-t<=(s n).1/\(s n).1<=t)/\(-t<=(s n).2.1/\(s n).2.1<=t)/\(-t<=(s n).2.2/\(s n).2.2<=t)
theorem ra{a b:Int}(V: -100<=a)(I:a<=100)(K: -1000000<=b)(h4:b<=1000000): -100000000<=a*b/\a*b<=100000000:=by
 have e:(a*b).natAbs<=100*1000000:=by rw[Int.natAbs_mul];exact Nat.mul_le_mul (by omega) (by omega)
 omega
theorem Je.add{s:Nat->I3}{t fa:Int}{x:Ld}(h:Je s t)(hf: -100<=fa/\fa<=100)(F:j2 x.2.1/\j2 x.2.2.1/\j2 x.2.2.2):Je (r9 s fa x) (t+100000000):=fun n=>by
 obtain⟨⟨a1,a2⟩,⟨a3,a4⟩,a5,a6⟩:=F;have V:=ra hf.1 hf.2 a1 a2;have I:=ra hf.1 hf.2 a3 a4;have K:=ra hf.1 hf.2 a5 a6;have:=h n;unfold r9;split
 ·dsimp only;omega
 ·omega
def zf(s:Nat->I3)(j:Nat):Int:=if j % 4=1 then(s (j / 4)).1 else if j % 4=2 then(s (j / 4)).2.1 else if j % 4=3 then(s (j / 4)).2.2 else 0
def ou(z:Nat->Int)(j:Nat)(v:Int)(i:Nat):Int:=if i=j then v else z i
theorem Ag(s:Nat->I3)(n:Nat):zf s (4*n)=0/\zf s (4*n+1)=(s n).1/\zf s (4*n+2)=(s n).2.1/\zf s (4*n+3)=(s n).2.2:=by
 unfold zf;refine⟨?_,?_,?_,?_⟩
 ·rw[aF (by omega),aF (by omega),aF (by omega)]
 ·rw[if_pos (by omega),show(4*n+1) / 4=n by omega]
 ·rw[aF (by omega),if_pos (by omega),show(4*n+2) / 4=n by omega]
 ·rw[aF (by omega),aF (by omega),if_pos (by omega),show(4*n+3) / 4=n by omega]
theorem Ir(s:Nat->I3)(fa:Int)(x:Ld){n:Nat}(A:x.1=n)(j:Nat):
  ou (ou (ou (zf s) (4*n+1) ((s n).1+fa*x.2.1)) (4*n+2) ((s n).2.1+fa*x.2.2.1)) (4*n+3) ((s n).2.2+fa*x.2.2.2) j=zf (r9 s fa x) j:=by
 unfold ou;by_cases K:j=4*n+3
 ·subst K;rw[if_pos rfl,(Ag _ n).2.2.2,r9,if_pos A.symm]
 rw[aF K];by_cases I:j=4*n+2
 ·subst I;rw[if_pos rfl,(Ag _ n).2.2.1,r9,if_pos A.symm]
 rw[aF I];by_cases V:j=4*n+1
 ·subst V;rw[if_pos rfl,(Ag _ n).2.1,r9,if_pos A.symm]
 rw[aF V];unfold zf;by_cases hj:j / 4=n
 ·rw[aF (by omega),aF (by omega),aF (by omega),aF (by omega),aF (by omega),aF (by omega)]
 ·have:r9 s fa x (j / 4)=s (j / 4):=by rw[r9,aF (by omega)]
  rw[this]
theorem Fi(z:Nat->Int){j:Nat}(v:Int){m:Nat}(hj:j<m):((List.range m).map z).set j v=(List.range m).map (ou z j v):=by
 refine bJ fun i=>?_;rw[List.getElem?_set,aM];by_cases h:j=i
 ·subst h;rw[if_pos rfl,if_pos (by simpa using hj),aM,b9 hj];simp[ou]
 ·rw[aF h,aM];rcases aO i m with I|I
  ·rw[b9 I];simp only[ou,Option.map_some,aF (fun e:i=j=>h e.symm)]
  ·rw[List.getElem?_eq_none (by simpa using I)];rfl
end Go.Ex
