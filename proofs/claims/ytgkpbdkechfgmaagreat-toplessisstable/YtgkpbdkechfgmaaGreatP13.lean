/- Texts X141 to X166: lemmas, each with its conditions. -/
import Derived.Test.YtgkpbdkechfgmaaGreatP12
namespace Go.Ex
open Go Go.Sx Go.Proofs
variable{z:Int}{p:Int×Int×Int}{b:Int×Int×Rat}{x:Ld}{xs:List (Int×Int×Int)}{seen:List (Int×Int×Rat)}{A:List (List Value)}{s:List Int}{l:List Ld}{qs:List Rat}{U:List Value}{j n:Nat}{S:Nat->Prop}{a an:Option Addr}{q:Rat}{v vb vl vn vs:Value}{w:World}{f:ed}
theorem Ba(I: -2000000000<=z)(X:z<=2000000000):rl (z:Rat)<=1:=by
 have e1:((z:Rat)).num=z:=rfl;have e2:((z:Rat)).den=1:=rfl;rw[rl,e1,e2];have a1:ln z.natAbs<=1:=gD.2 (by rw[uq];omega);have a2:ln 1<=1:=by decide
 omega
set_option maxHeartbeats 1000000 in
theorem GR(F:Old S w)(hf:dm w S vn vb vs f)(OV:wY f):
  dx PG F'.o8 #[.agg #[vn,vb,vs]] w (eH w fun v' V=>(∃vr,v'= .agg #[vr,.int .i64 f.cols]/\cT V (Nf w V) vr (cY f))/\gh f.cols (cY f)/\Ht (cY f) 2):=by
 have Y:=bR w;obtain⟨an,cn,ab,cb,aq,cq,rfl,rfl,rfl,RX,RP,Sk⟩:=hf.shape;obtain⟨hn20,hb60,hs60⟩:=And.intro OV.n (And.intro OV.b OV.s);have Q1:f.cols=f.bars.length+f.cM.length:=rfl;refine sT (by simp) ?_;refine⟨((f.cols:Nat):Int),by rw[wrap64]<;>first|rfl|omega,?_⟩;refine cB (cG (Id:=fun _ J v V=>Ko V (Nf J V) v (jF f)/\MT (jF f) 800000000/\(∀l∈jF f,l.length=f.cols)/\(jF f).length=3*f.nodes.length) (fun O J r=>Im (S:=S) (oS F r) (hf.cC (kS Y r F)) OV) ?_);rintro O PQ v1 PE r W Oa ⟨k1,Pf,hwid,Qq⟩;replace Y:=Y.tr Oa;have hM:=Ko.cF k1 fun g G=>G.dD (B:=w.heap.size) (S:=FF) r.bz (iv:=(PQ.heap.size,PE.heap.size)::[]) aG;generalize (PQ.heap.size,PE.heap.size)::[]=OZ at*
 obtain⟨am,cm,rfl,S3,Rd⟩:=dG.shape hM;unfold maxLen at Rd
 refine⟨Nat×List Value×World×Iv,fun z=>⟨[(20,iN z.1),(2,pP 1 0),(3,pP 2 0),(18,.o (.v (.slice am (jF f).length cm))),(19,.o (.v (.int .i64 (jF f).length)))],[(2,.box T.di [.w 3 z.2.1.length,.v (.int .i64 ((f.cols:Nat):Int))]),(3,.vec T.jC 1 z.2.1),(1,.box T.di [.v (.slice none 0 0),.v (.int .i64 0)])],4,z.2.2.2,z.2.2.1⟩,fun z=>(jF f).length-z.1,
  fun z=>z.1<=(jF f).length/\dT w.heap.size w z.2.2.1/\Ko z.2.2.1 (Cf w z.2.2.2) (.slice am (jF f).length cm) (jF f)/\du z.2.2.1 (Cf w z.2.2.2) z.2.1 ((cY f).take z.1),?_,?_⟩
 ·intro O J r;exact⟨(0,[],J,_),⟨aS _,Y.tr r.cL,hM.cC fun g G=>Rel.same r (bw w) G,by simp[du]⟩,Sub.Ee 2 0 T.jC 1 rfl rfl (by simp[l5,SV.sc,At.sc,iW]) r fun In r1=>Sub.gn [] r1⟩
 rintro⟨k,rv,w1,iv⟩ ⟨R,Y,hM,hK⟩;dsimp only at R Y hM hK ⊢;have Pm:rv.length=k:=by rw[hK.1,aZ,cY,aL];omega
 refine dB.mk ?_ ?_<;>intro OT
 ·have OT:k<(jF f).length:=by simpa using OT
  obtain⟨l,hl⟩:∃l,(jF f)[k]? =some l:=⟨_,aB OT⟩
  have hlw:=hwid l (aE hl);have Oh:(cY f).take (k+1)=(cY f).take k++[ew l]:=by rw[List.take_add_one,show(cY f)[k]? =some (ew l) by rw[cY,aM,hl];rfl];rfl
  obtain⟨adm,um,Ux,Wi,km1,km2⟩:=dG.load hM hl;obtain⟨a0,c0,rfl,hc0,-⟩:=DS.shape Wi;refine⟨adm,Ux,by omega,.slice a0 l.length c0,fun O J r=>?_,?_⟩
  ·rw[aF,cJ (w:=w1) (V:=J) (by rw[c9];exact Rel.same r (bw w) km1)];exact km2
  refine⟨l.length,l.length,rfl,rfl,Nat.le_refl _,by omega,by omega,Nat×Nat×World×Iv,fun z=>⟨[(6,.o (.v (.slice (some ⟨z.2.1,0,none⟩) l.length l.length))),(5,sV a0 l.length c0),(27,sV a0 l.length c0),(28,iZ l.length),(29,iN z.1),(20,iN k),(2,pP 1 0),(3,pP 2 0),(18,.o (.v (.slice am (jF f).length cm))),(19,.o (.v (.int .i64 (jF f).length)))],[(2,.box T.di [.w 3 rv.length,.v (.int .i64 ((f.cols:Nat):Int))]),(3,.vec T.jC 1 rv),(1,.box T.di [.v (.slice none 0 0),.v (.int .i64 0)])],5,z.2.2.2,z.2.2.1⟩,fun z=>l.length-z.1,
   fun z=>z.1<=l.length/\dT w.heap.size w z.2.2.1/\Ko z.2.2.1 (Bs FF w.heap.size z.2.2.2 (.slice (some ⟨z.2.1,0,none⟩) l.length l.length)) (.slice am (jF f).length cm) (jF f)/\DS z.2.2.1 (Bs FF w.heap.size z.2.2.2 (.slice (some ⟨z.2.1,0,none⟩) l.length l.length)) (.slice a0 l.length c0) l/\du z.2.2.1 (Bs FF w.heap.size z.2.2.2 (.slice (some ⟨z.2.1,0,none⟩) l.length l.length)) rv ((cY f).take k)/\jJ z.2.2.1 FF w.heap.size z.2.2.2 (.slice (some ⟨z.2.1,0,none⟩) l.length l.length) l.length z.1 (ew l),?_,?_⟩
  ·intro O J r;have hf:=jJ.rK (S:=FF) (n:=l.length) r (id:=4) rfl (by unfold maxLen;omega) (ew l);have hbs:∀g,Cf w iv g->Bs FF w.heap.size (((O 4).g,(O 4).g+1)::iv) (.slice (some ⟨(O 4).g,0,none⟩) l.length l.length) g:=fun g G=>⟨G.mono fun p hp=>aC _ hp,fun e=>Rel.not r (bw w) G 4 _ rfl (r.fits (id:=4) rfl).1 (by injection e)⟩
   exact⟨(0,(O 4).g,J,((O 4).g,(O 4).g+1)::iv),⟨aS _,Y.tr r.cL,(hM.cC fun g G=>Rel.same r (bw w) G).cF hbs,(Wi.cC fun g G=>Rel.same r (bw w) G).cF hbs,du.cF (hK.rel r (bw w)) hbs,hf⟩,
    Sub.rK r (id:=4) (t:=6) rfl rfl ⟨rfl,rfl,rfl,trivial⟩ rfl ⟨rfl,rfl,rfl,rfl,rfl,rfl,rfl,rfl,rfl,trivial⟩ (by simp[l5,SV.sc,At.sc])⟩
  rintro⟨i,gx,V,iv⟩ ⟨D,Y,hM,Wi,hK,hX⟩;dsimp only at D Y hM Wi hK hX ⊢;refine dB.mk ?_ ?_<;>intro OQ
  ·have OQ:i<l.length:=by simpa using OQ
   obtain⟨z,hz⟩:∃z,l[i]? =some z:=⟨_,aB OQ⟩
   have Wh:=Pf l (aE hl) z (aE hz);obtain⟨adz,haz,kz1,kz2⟩:=Wi.at hz;refine⟨adz,haz,by omega,.int .i64 z,fun O J r=>?_,?_⟩
   ·rw[aF,cJ (w:=V) (V:=J) (by rw[c9];exact Rel.same r (bw w) kz1.1)];exact kz2
   refine cB (cG (Id:=fun _ J v V=>cN V (Nf J V) v (z:Rat)) (fun O J r=>kK z J (by omega) (by omega)) ?_);rintro O PY v3 PX r W Oa Qf;replace Y:=Y.tr Oa;have hbs:∀g,Bs FF w.heap.size iv (.slice (some ⟨gx,0,none⟩) l.length l.length) g->Bs FF w.heap.size ((PY.heap.size,PX.heap.size)::iv) (.slice (some ⟨gx,0,none⟩) l.length l.length) g:=fun g G=>Bs.mono (fun x L=>aC _ L) G;have hbk:∀g,Bs FF w.heap.size iv (.slice (some ⟨gx,0,none⟩) l.length l.length) g->PX.heap[g]? =V.heap[g]? :=fun g G=>(W.block g (Rel.old r (bw w) g G.1)).trans (Bs.same r (bw w) g G);replace hM:=(hM.cC hbk).cF hbs;replace Wi:=(Wi.cC hbk).cF hbs;replace hK:=du.cF (du.cC hK hbk) hbs;have hd:=Qf.cF (S':=Bs FF w.heap.size ((PY.heap.size,PX.heap.size)::iv) (.slice (some ⟨gx,0,none⟩) l.length l.length)) fun g G=>G.elim (fun h=>h.elim) fun h=>⟨.inr ⟨by have:=r.bz;omega,_,_,aG,h.1,h.2⟩,fun e=>by have:=Rel.old r (bw w) g (hX.new g e);omega⟩
   replace hX:=hX.cD (E:=(PY.heap.size,PX.heap.size)::iv) r (bw w) W fun x L=>aC _ L;generalize (PY.heap.size,PX.heap.size)::iv=Oi at*
   obtain⟨A0,A1,A2,A3,A4,A5,A6,A7,rfl⟩:=hd.shape;refine⟨⟨gx,0,none⟩,rfl,by omega,?_⟩;intro O J r;obtain⟨g,G,I,X,N,h4⟩:=hX.store (j:=i) OQ (by rw[ew,aM,hz];rfl) hd r (bw w);injection G with G;injection G with G;subst G;refine⟨I,X,N,fun w5 Rr=>?_⟩;obtain⟨k1,k2,k3,k4⟩:=h4 w5 Rr;have PR:=(Y.tr r.cL).tr k3;have RN:=Bs.kept (v:=(.slice (some ⟨gx,0,none⟩) l.length l.length)) r (bw w) k2 fun g e=>e;have Py:=hM.cC RN;have hLm2:=Wi.cC RN;have Rs:=du.cC hK RN;refine⟨((i+1:Nat):Int),wo,?_⟩;intro IR w6 K;exact⟨(i+1,gx,w6,_),⟨OQ,PR.tr K.cL,Py.cC (Bs.same K (bw w)),hLm2.cC (Bs.same K (bw w)),du.cC Rs (Bs.same K (bw w)),k1.rel K (bw w)⟩,Sub.gn [] K,by dsimp only;omega⟩
  have OQ:i=l.length:=aU D (by simpa using OQ);rw[OQ]at hX;have hX2:=(hX.done (by simp[ew])).c;replace hK:=(du.cF hK fun g G=>G.1).push (u:=(.slice (some ⟨gx,0,none⟩) l.length l.length)) (x:=ew l) rfl (by rw[show l.length=(ew l).length by simp[ew]]at hX2 ⊢;exact hX2);rw[<-Oh]at hK;replace hM:=hM.cF fun g G=>G.1;refine .inl ?_;refine⟨by simp,by omega,by unfold maxLen;omega,((k+1:Nat):Int),wo,?_⟩;intro IR w3 K;exact⟨(k+1,rv++[(.slice (some ⟨gx,0,none⟩) l.length l.length)],w3,_),⟨OT,Y.tr K.cL,hM.cC fun g G=>Rel.same K (bw w) G,hK.rel K (bw w)⟩,Sub.gn [(3,6)] K ⟨by dsimp only;rw[List.length_append,List.length_singleton];rfl,rfl,rfl,trivial⟩,by dsimp only;omega⟩
 have OT:k=(jF f).length:=aU R (by simpa using OT);rw[List.take_of_length_le (by rw[cY,aL];omega)]at hK;intro GT we re;refine⟨_,rfl,Y.tr re.cL,⟨_,rfl,rv,?_,hK.1,fun i u x k1 k2=>cS.cF (cS.rel (hK.2.2 i u x k1 k2) re (bw w)) fun g G=>Cv.nw G re⟩,fun x L=>?_,fun x L q hq=>?_⟩
 ·rw[<-hK.1];exact(re.kQ (id:=3) (sz:=1) (m:=rv.length) rfl (by simp) (by unfold maxLen;omega) (by decide) hK.2.1).cF fun g G=>.inr G
 ·obtain⟨l,hl,rfl⟩:=aR.1 L;rw[ew,aL];exact hwid l hl
 ·obtain⟨l,hl,rfl⟩:=aR.1 L;obtain⟨z,hz,rfl⟩:=aR.1 hq;have:=Pf l hl z hz;have:=Ba (z:=z) (by omega) (by omega);omega
def Ni(x:Ld):List Int:=[x.2.1,x.2.2.1,x.2.2.2]
def iM(s:List Int)(x:Ld):Nat->List Int
 |0=>s
 |k+1=>HE (iM s x k) (3*x.1+k).toNat ((Ni x).getD k 0)
def iC(n:Nat)(l:List Ld):Nat->List Int
 |0=>List.replicate (3*n) 0
 |i+1=>iM (iC n l i) (l.getD i (0,0,0,0)) 3
def mh(f:ed)(l:List Ld):List Rat:=ew (iC f.nodes.length l l.length)
structure Em(n:Nat)(l:List Ld):Prop where
 len:l.length<=200
 ld:∀x∈l,(0<=x.1/\x.1<n)/\(-1000000<=x.2.1/\x.2.1<=1000000)/\(-1000000<=x.2.2.1/\x.2.2.1<=1000000)/\(-1000000<=x.2.2.2/\x.2.2.2<=1000000)
theorem s8(s:List Int)(x:Ld):∀k,(iM s x k).length=s.length
 |0=>rfl
 |k+1=>by rw[iM,HE,bX];exact s8 s x k
theorem oR(n:Nat)(l:List Ld):∀i,(iC n l i).length=3*n
 |0=>bN ..
 |i+1=>by rw[iC,s8];exact oR n l i
theorem En{k:Nat}{d:Int}(e:3*x.1+(k:Int)=j)(hd:(Ni x).getD k 0=d)(hz:(iM s x k)[j]? =some z):(iM s x k).set j (z+d)=iM s x (k+1):=by
 rw[iM,HE,hd,e,aF,show(iM s x k).getD j 0=z by rw[List.getD,hz];rfl]
def MU(s:List Int)(t:Int):Prop:=∀z∈s,-t<=z/\z<=t
theorem MU.set{t t2:Int}(h:MU s t)(ht:t<=t2)(hz: -t2<=z/\z<=t2):MU (s.set j z) t2:=fun y hy=>by
 rcases a9 hy with hy|rfl
 ·have:=h y hy;omega
 ·exact hz
def zv(l:List Int):List Value:=l.map fun z=>.int .i64 z
theorem Cr(l:List Int):(zv l).length=l.length:=aL ..
theorem Ha{l:List Int}(h:l[j]? =some z):(zv l)[j]? =some (.int .i64 z):=by rw[zv,aM,h];rfl
theorem GS{l:List Int}(h:j<l.length):(zv l).take j++[.int .i64 z]++(zv l).drop (j+1)=zv (l.set j z):=by
 rw[zv,zv,List.map_set];exact jt (by rw[aL];exact h)
theorem uN(f:ed):(dI f).length=f.cols:=by simp[dI,ed.cols]
theorem dM.Mq(h:A.length=qs.length/\∀(j:Nat) U q,A[j]? =some U->qs[j]? =some q->kZ w S U q)(hc:kZ w S U q):
  (A++[U]).length=(qs++[q]).length/\∀(j:Nat) c p,(A++[U])[j]? =some c->(qs++[q])[j]? =some p->kZ w S c p:=by
 refine⟨by simp[h.1],fun j x p I X=>?_⟩;rcases aP j A.length with D|D
 ·rw[aJ D]at I;rw[aJ (by rw[<-h.1];exact D)]at X;exact h.2 j x p I X
 ·have RZ:j=A.length:=by have:=(aD.1 I).1;simp at this;omega
  subst RZ;rw[aN (Nat.le_refl _),bB]at I;rw[h.1,aN (Nat.le_refl _),bB]at X;simp at I X;subst I X;exact hc
set_option maxHeartbeats 1000000 in
theorem Io{cn:Nat}(F:Old S w)(hl:jS w S vl l)(hn20:f.nodes.length<=20)(OV:Em f.nodes.length l)
  {ab aq:Option Addr} {nb cb nq cq:Nat} (hvb:vb= .slice ab nb cb) (Qy:vs= .slice aq nq cq):
  dx PG F'.pZ #[.agg #[.slice an f.nodes.length cn,vb,vs],vl] w (eH w fun v' V=>eE V FF w.heap.size [(w.heap.size,V.heap.size)] v' (3*f.nodes.length) (mh f l)/\∀q∈mh f l,rl q<=1):=by
 subst hvb Qy;have Y:=bR w;obtain⟨al,cl,rfl,PZ,Qq⟩:=hl.shape;have hl200:=OV.len;refine tw (by simp) ?_;refine⟨((3*f.nodes.length:Nat):Int),wo,?_⟩;obtain⟨m,hm⟩:∃m,3*f.nodes.length=m:=⟨_,rfl⟩
 rw[hm]
 refine⟨m,m,rfl,rfl,Nat.le_refl _,by omega,by omega,Nat×World,fun z=>⟨[(5,.o (.s 1 0 m m)),(18,sV al l.length cl),(19,iZ l.length),(20,iN z.1)],[(1,.arr T.int (zv (iC f.nodes.length l z.1)))],2,[],z.2⟩,fun z=>l.length-z.1,
  fun z=>z.1<=l.length/\dT w.heap.size w z.2/\MU (iC f.nodes.length l z.1) (3000000*z.1),?_,?_⟩
 ·intro O J K;exact⟨(0,J),⟨aS _,Y.tr K.cL,fun z hz=>by rw[iC]at hz;rw[b9 hz];exact⟨Int.le_refl _,Int.le_refl _⟩⟩,Sub.gn [] K ⟨by dsimp only;rw[iC,hm,zv,List.map_replicate];rfl,trivial⟩⟩
 rintro⟨i,w1⟩ ⟨D,Y,Pf⟩;dsimp only at D Y Pf ⊢;refine dB.mk ?_ ?_<;>intro OQ
 ·have OQ:i<l.length:=by simpa using OQ
  obtain⟨x,L⟩:∃x,l[i]? =some x:=⟨_,aB OQ⟩
  obtain⟨Z,Ro,R1,hx3⟩:=OV.ld x (aE L);obtain⟨kn,Ua⟩:=Int.eq_ofNat_of_zero_le Z.1;obtain⟨adx,U,Pu,hP,-,Pt⟩:=hl.load (by decide) L;have hP:U=[.int .i64 x.1,.int .i64 x.2.1,.int .i64 x.2.2.1,.int .i64 x.2.2.2]:=hP;subst hP
  refine⟨adx,Pu,by omega,[.int .i64 x.1,.int .i64 x.2.1,.int .i64 x.2.2.1,.int .i64 x.2.2.2],rfl,rdO Pt Y F,Nat×World,fun z=>⟨[(5,.o (.s 1 0 m m)),(7,pP 2 0),(30,.a [.v (.int .i64 x.2.1),.v (.int .i64 x.2.2.1),.v (.int .i64 x.2.2.2)]),(31,iN z.1),(18,sV al l.length cl),(19,iZ l.length),(20,iN i)],[(2,.box T.aAS [.v (.int .i64 x.1),.v (.int .i64 x.2.1),.v (.int .i64 x.2.2.1),.v (.int .i64 x.2.2.2)]),(1,.arr T.int (zv (iM (iC f.nodes.length l i) x z.1)))],3,[],z.2⟩,fun z=>3-z.1,
   fun z=>z.1<=3/\dT w.heap.size w z.2/\MU (iM (iC f.nodes.length l i) x z.1) (3000000*i+1000000*z.1),?_,?_⟩
  ·intro O J K;exact⟨(0,J),⟨aS _,Y.tr K.cL,Pf⟩,Sub.gn [] K⟩
  rintro⟨k,w3⟩ ⟨R,Y,Pf⟩;dsimp only at R Y Pf ⊢;refine dB.mk ?_ ?_<;>intro OT
  ·have OT:k<3:=by have:=aK OT;omega
   obtain⟨d,hd⟩:∃d,(Ni x).getD k 0=d:=⟨_,rfl⟩
   have hdb: -1000000<=d/\d<=1000000:=by
    rw[<-hd,Ni];rcases(show k=0\/k=1\/k=2 by omega)with rfl|rfl|rfl<;>simp[List.getD]<;>omega
   have hLl:(iM (iC f.nodes.length l i) x k).length=m:=by rw[s8,oR,hm]
   obtain⟨z,hz⟩:∃z,(iM (iC f.nodes.length l i) x k)[3*kn+k]? =some z:=⟨_,aB (by omega)⟩
   have Wh:=Pf z (aE hz);have Uz:3*x.1+(k:Int)=((3*kn+k:Nat):Int):=by omega
   have QU:=En Uz hd hz;have VC:=Pf.set (j:=3*kn+k) (z:=z+d) (t2:=3000000*i+1000000*(k+1:Nat)) (by omega) (by omega);rw[QU]at VC;refine zt hτ (U:= #[.int .i64 x.2.1,.int .i64 x.2.2.1,.int .i64 x.2.2.2]) rfl rfl rfl (fun _=>rfl) rfl ⟨by omega,by omega⟩ (u:=.int .i64 d) ?_ (fun O w4 r=>?_)
   ·rw[<-hd,Ni,aF];rcases(show k=0\/k=1\/k=2 by omega)with rfl|rfl|rfl<;>rfl
   replace Y:=Y.tr r.cL;refine⟨3*x.1,wo,((3*kn+k:Nat):Int),wo,by omega,.int .i64 z,by rw[aF,aY,aV];exact Ha hz,z+d,wo,by omega,by rw[Cr];omega,zv (iM (iC f.nodes.length l i) x (k+1)),?_,?_⟩
   ·rw[aF,aY,aV,<-QU];exact GS (by omega)
   refine⟨((k+1:Nat):Int),wo,?_⟩;intro IR w6 K;exact⟨(k+1,w6),⟨OT,Y.tr K.cL,VC⟩,Sub.gn [] K,by dsimp only;omega⟩
  have OT:k=3:=by have:=aH OT;omega
  subst OT;have QU:iM (iC f.nodes.length l i) x 3=iC f.nodes.length l (i+1):=by rw[iC,show l.getD i (0,0,0,0)=x by rw[List.getD,L];rfl]
  rw[QU]at Pf ⊢;refine⟨((i+1:Nat):Int),wo,?_⟩;intro IR w6 K;exact⟨(i+1,w6),⟨OQ,Y.tr K.cL,fun z hz=>by have:=Pf z hz;dsimp only;omega⟩,Sub.gn [] K,by dsimp only;omega⟩
 have OQ:i=l.length:=aU D (by simpa using OQ);subst OQ;obtain⟨s,hs⟩:∃s,iC f.nodes.length l l.length=s:=⟨_,rfl⟩
 have SJ:s.length=m:=by rw[<-hs,oR,hm]
 rw[hs]at Pf ⊢;unfold mh;rw[hs]
 refine⟨m,m,rfl,rfl,Nat.le_refl _,by omega,by omega,Nat×List (List Value)×Iv×World,fun z=>⟨[(10,.o (.s 2 0 m m)),(51,.o (.s 1 0 m m)),(52,iZ m),(53,iN z.1)],[(2,.arr T.Rat z.2.1.flatten),(1,.arr T.int (zv s))],3,z.2.2.1,z.2.2.2⟩,fun z=>m-z.1,
  fun z=>z.1<=m/\dT w.heap.size w z.2.2.2/\fz z.2.2.2 (Cf w z.2.2.1) m z.1 z.2.1 (ew s),?_,?_⟩
 ·intro O J r;exact⟨(0,List.replicate m f0,_,J),⟨aS _,Y.tr r.cL,fz.start _ _ _ _⟩,Sub.gn [] r⟩
 rintro⟨i,A,iv,w1⟩ ⟨Tk,Y,hF⟩;dsimp only at Tk Y hF ⊢;refine dB.mk ?_ ?_<;>intro OQ
 ·have OQ:i<m:=by simpa using OQ
  obtain⟨z,hz⟩:∃z,s[i]? =some z:=⟨_,aB (by omega)⟩
  have Wh:=Pf z (aE hz);refine⟨by omega,.int .i64 z,by rw[aF,aY,aV];exact Ha hz,?_⟩;refine cB (cE Y (fun _ J v V=>cN V (Nf J V) v (z:Rat)) (fun O J r=>kK z J (by omega) (by omega)) ?_);rintro O _ _ _ OZ r W Y h_ Z;replace hF:=hF.cD r (bw w) W (mC h_);have hd:=Z.dD (S:=FF) r.bz (mN h_);obtain⟨A0,A1,A2,A3,A4,A5,A6,A7,rfl⟩:=hd.shape;have Oh:=hF.next OQ (q:=_) (by rw[ew,aM,hz];rfl) hd
  refine⟨by omega,by have:=hF.flat;omega,(A.set i [.bool A0,.slice A1 A2 A3,.bool A4,.slice A5 A6 A7]).flatten,?_,?_⟩
  ·have:=jI (U:=[.bool A0,.slice A1 A2 A3,.bool A4,.slice A5 A6 A7]) hF.four (show i<A.length by rw[hF.len];exact OQ);rw[<-this];simp
  refine⟨((i+1:Nat):Int),wo,?_⟩;intro IR w3 K;exact⟨(i+1,A.set i [.bool A0,.slice A1 A2 A3,.bool A4,.slice A5 A6 A7],_,w3),⟨OQ,Y.tr K.cL,Oh.rel K (bw w)⟩,Sub.gn [] K,by dsimp only;omega⟩
 have OQ:i=m:=aU Tk (by simpa using OQ);subst OQ;intro GT we re
 exact⟨_,rfl,Y.tr re.cL,hF.done (by rw[ew,aL];exact SJ) (by unfold maxLen;omega) re (id:=2) rfl (re.nn 2 _ rfl (by intros;simp) (by simp)),fun q hq=>by
  obtain⟨z,hz,rfl⟩:=aR.1 hq;have:=Pf z hz
  exact Ba (by omega) (by omega)⟩
set_option maxHeartbeats 1000000 in
theorem Ip(F:Old S w)(hf:dm w S vn vb vs f)(OV:wY f):
  dx PG F'.pc #[.agg #[vn,vb,vs]] w (eH w fun v' V=>dM V (Nw S w V) v' (dI f)):=by
 have Y:=bR w;obtain⟨an,cn,ab,cb,aq,cq,rfl,rfl,rfl,RX,RP,Sk⟩:=hf.shape;have hf0:=hf;refine uA (by simp) ?_
 refine⟨Nat×List (List Value)×World,fun z=>⟨[(3,.o (.w 1 z.2.1.length)),(9,sV ab f.bars.length cb),(10,iZ f.bars.length),(11,iN z.1),(1,pP 0 0)],[(1,.vec T.Rat 4 z.2.1.flatten),(0,.box T.Frame [.v (.slice an f.nodes.length cn),.v (.slice ab f.bars.length cb),.v (.slice aq f.cM.length cq)])],2,[],z.2.2⟩,fun z=>f.bars.length-z.1,
  fun z=>z.1<=f.bars.length/\dT w.heap.size w z.2.2/\(∀U∈z.2.1,U.length=4)/\(z.2.1.length=((fun i=>(f.bars.take i).map (·.2.2)) z.1).length/\∀(j:Nat) U q,z.2.1[j]? =some U->((fun i=>(f.bars.take i).map (·.2.2)) z.1)[j]? =some q->kZ z.2.2 S U q),?_,?_⟩
 ·intro O J r;exact⟨(0,[],J),⟨aS _,Y.tr r.cL,fun U h=>(by cases h),rfl,fun j U q h=>by cases h⟩,Sub.nil 3 T.Rat 4 rfl (by simp[l5,SV.sc,At.sc,iW]) r fun In r1=>Sub.gn [] r1⟩
 rintro⟨k,A,w1⟩ ⟨R,Y,Tx,hR⟩;dsimp only at R Y Tx hR ⊢;have Ot:=eo Tx;refine dB.mk ?_ ?_<;>intro OT
 ·have OT:k<f.bars.length:=by simpa using OT
  have hb60:=OV.b;have hs60:=OV.s;obtain⟨b,hb⟩:∃b,f.bars[k]? =some b:=⟨_,aB OT⟩
  have QU:(fun i=>(f.bars.take i).map (·.2.2)) (k+1)=(fun i=>(f.bars.take i).map (·.2.2)) k++[b.2.2]:=by dsimp only;rw[List.take_add_one,hb];simp
  obtain⟨adb,U,QM,hF,-,Pn⟩:=hf0.bars.load (by decide) hb;obtain⟨g0,g1,g2,g3,g4,g5,g6,g7,rfl,hF⟩:=hF;refine⟨adb,QM,by omega,[.int .i64 b.1,.int .i64 b.2.1,.bool g0,.slice g1 g2 g3,.bool g4,.slice g5 g6 g7],rfl,rdO Pn Y F,?_⟩;have St:kZ w1 S [.bool g0,.slice g1 g2 g3,.bool g4,.slice g5 g6 g7] b.2.2:=⟨_,_,_,_,_,_,_,_,rfl,hF.cC fun g G=>Y.block g (F g G)⟩
  have RL:=dM.Mq hR St;rw[<-QU]at RL;have R5:A.flatten++([.bool g0,.slice g1 g2 g3,.bool g4,.slice g5 g6 g7]:List Value)=(A++([[.bool g0,.slice g1 g2 g3,.bool g4,.slice g5 g6 g7]]:List (List Value))).flatten:=by simp
  have Ts:A.length<=200:=by rw[hR.1,aL,aZ];have:=OV.b;omega
  refine .inl ?_;refine⟨by omega,by omega,by unfold maxLen;omega,((k+1:Nat):Int),wo,?_⟩;intro IR w3 K
  exact⟨(k+1,A++[[.bool g0,.slice g1 g2 g3,.bool g4,.slice g5 g6 g7]],w3),⟨OT,Y.tr K.cL,fun U hc=>by
   rcases List.mem_append.1 hc with hc|hc
   ·exact Tx U hc
   ·rw[bF.1 hc];rfl,RL.1,fun j U q I X=>(RL.2 j U q I X).cC fun g G=>(K.cL).block g (F g G)⟩,Sub.gn [(1,4)] K ⟨by dsimp only;rw[<-R5];rfl,rfl,trivial⟩ ⟨by dsimp only;rw[List.length_append,List.length_singleton];rfl,rfl,rfl,rfl,rfl,trivial⟩,by dsimp only;omega⟩
 have OT:k=f.bars.length:=aU R (by simpa using OT);subst OT;have Pm:A.length=f.bars.length:=by rw[hR.1,aL,aZ];omega
 rw[bH,show f.bars.map (·.2.2)=f.bars.map (·.2.2)++(f.cM.take 0).map (·.2.2) by simp]at hR
 refine⟨Nat×List (List Value)×World,fun z=>⟨[(3,.o (.w 1 z.2.1.length)),(22,sV aq f.cM.length cq),(23,iZ f.cM.length),(24,iN z.1)],[(1,.vec T.Rat 4 z.2.1.flatten),(0,.box T.Frame [.v (.slice an f.nodes.length cn),.v (.slice ab f.bars.length cb),.v (.slice aq f.cM.length cq)])],2,[],z.2.2⟩,fun z=>f.cM.length-z.1,
  fun z=>z.1<=f.cM.length/\dT w.heap.size w z.2.2/\(∀U∈z.2.1,U.length=4)/\(z.2.1.length=((fun i=>f.bars.map (·.2.2)++(f.cM.take i).map (·.2.2)) z.1).length/\∀(j:Nat) U q,z.2.1[j]? =some U->((fun i=>f.bars.map (·.2.2)++(f.cM.take i).map (·.2.2)) z.1)[j]? =some q->kZ z.2.2 S U q),?_,?_⟩
 ·intro O J K;exact⟨(0,A,J),⟨aS _,Y.tr K.cL,Tx,hR.1,fun j U q I X=>(hR.2 j U q I X).cC fun g G=>(K.cL).block g (F g G)⟩,Sub.gn [] K⟩
 rintro⟨k,A,w1⟩ ⟨R,Y,Tx,hR⟩;dsimp only at R Y Tx hR ⊢;have Ot:=eo Tx;refine dB.mk ?_ ?_<;>intro OT
 ·have OT:k<f.cM.length:=by simpa using OT
  have hb60:=OV.b;have hs60:=OV.s;obtain⟨b,hb⟩:∃b,f.cM[k]? =some b:=⟨_,aB OT⟩
  have QU:(fun i=>f.bars.map (·.2.2)++(f.cM.take i).map (·.2.2)) (k+1)=(fun i=>f.bars.map (·.2.2)++(f.cM.take i).map (·.2.2)) k++[b.2.2]:=by dsimp only;rw[List.take_add_one,hb];simp
  obtain⟨adb,U,QM,hF,-,Pn⟩:=hf0.cM.load (by decide) hb;obtain⟨g0,g1,g2,g3,g4,g5,g6,g7,rfl,hF⟩:=hF;refine⟨adb,QM,by omega,[.int .i64 b.1,.int .i64 b.2.1,.bool g0,.slice g1 g2 g3,.bool g4,.slice g5 g6 g7],rfl,rdO Pn Y F,?_⟩;have St:kZ w1 S [.bool g0,.slice g1 g2 g3,.bool g4,.slice g5 g6 g7] b.2.2:=⟨_,_,_,_,_,_,_,_,rfl,hF.cC fun g G=>Y.block g (F g G)⟩
  have RL:=dM.Mq hR St;rw[<-QU]at RL;have R5:A.flatten++([.bool g0,.slice g1 g2 g3,.bool g4,.slice g5 g6 g7]:List Value)=(A++([[.bool g0,.slice g1 g2 g3,.bool g4,.slice g5 g6 g7]]:List (List Value))).flatten:=by simp
  have Ts:A.length<=200:=by rw[hR.1,List.length_append,aL,aL,aZ];have:=OV.b;have:=OV.s;omega
  refine .inl ?_;refine⟨by omega,by omega,by unfold maxLen;omega,((k+1:Nat):Int),wo,?_⟩;intro IR w3 K
  exact⟨(k+1,A++[[.bool g0,.slice g1 g2 g3,.bool g4,.slice g5 g6 g7]],w3),⟨OT,Y.tr K.cL,fun U hc=>by
   rcases List.mem_append.1 hc with hc|hc
   ·exact Tx U hc
   ·rw[bF.1 hc];rfl,RL.1,fun j U q I X=>(RL.2 j U q I X).cC fun g G=>(K.cL).block g (F g G)⟩,Sub.gn [(1,4)] K ⟨by dsimp only;rw[<-R5];rfl,rfl,trivial⟩ ⟨by dsimp only;rw[List.length_append,List.length_singleton];rfl,rfl,rfl,rfl,trivial⟩,by dsimp only;omega⟩
 have OT:k=f.cM.length:=aU R (by simpa using OT);subst OT;intro GT we re;have hfull:f.bars.map (·.2.2)++(f.cM.take f.cM.length).map (·.2.2)=dI f:=by rw[bH];rfl
 rw[hfull]at hR;refine⟨_,rfl,Y.tr re.cL,A,?_,hR.1,Tx,fun j U q k1 k2=>((hR.2 j U q k1 k2).cC fun g G=>(re.cL).block g (F g G)).cF fun g G=>.inl G⟩;have PZ:=hR.1
 have h5:=re.kQ (id:=1) (sz:=4) (m:=A.length) rfl Ot (by have:=OV.b;have:=OV.s;rw[PZ,uN];unfold ed.cols maxLen;omega) (by decide) (fun u hu=>by
  obtain⟨U,hc,hu⟩:=List.mem_flatten.1 hu;obtain⟨j,hj⟩:=aQ hc;obtain⟨_,_,_,_,_,_,_,_,rfl,_⟩:=hR.2 j U _ hj (aB (by rw[<-PZ];exact(aD.1 hj).1));simp at hu
  rcases hu with rfl|rfl|rfl|rfl<;>rfl)
 rw[<-PZ];exact h5.cF fun g G=>.inr G
def e9{α:Type}(e:List α->α->Int):List α->List α->Int
 |_,[]=>0
 |seen,x::r=>if e seen x=0 then e9 e (seen++[x]) r else e seen x
section
variable{α:Type}{e:List α->α->Int}{xs:List α}
theorem gL{k:Nat}{x:α}(L:xs[k]? =some x)(h0:e (xs.take k) x=0):e9 e (xs.take k) (xs.drop k)=e9 e (xs.take (k+1)) (xs.drop (k+1)):=by
 have R:=(aD.1 L).1;have X:=(aD.1 L).2;rw[List.drop_eq_getElem_cons R,X,e9,if_pos h0,List.take_add_one,L];rfl
theorem cO{k:Nat}{x:α}{c:Int}(L:xs[k]? =some x)(h0:e (xs.take k) x=c)(hc:c≠0):e9 e (xs.take k) (xs.drop k)=c:=by
 have R:=(aD.1 L).1;have X:=(aD.1 L).2;rw[List.drop_eq_getElem_cons R,X,e9,aI (by rw[h0];exact hc),h0]
theorem ij{k:Nat}(R:xs.length<=k):e9 e (xs.take k) (xs.drop k)=0:=by
 rw[List.drop_eq_nil_of_le R];rfl
theorem jW(h:e9 e [] xs=0):∀k x,xs[k]? =some x->e (xs.take k) x=0:=by
 have key:∀k,k<=xs.length->e9 e (xs.take k) (xs.drop k)=0/\∀j x,j<k->xs[j]? =some x->e (xs.take j) x=0:=fun k=>by
  induction k with
  |zero=>intro _;exact⟨by simpa using h,fun j x hj=>by omega⟩
  |succ k ih=>
   intro R;obtain⟨I,X⟩:=ih (by omega);obtain⟨x,L⟩:∃x,xs[k]? =some x:=⟨_,aB (by omega)⟩
   have h0:e (xs.take k) x=0:=by
    by_cases h0:e (xs.take k) x=0
    ·exact h0
    ·rw[cO L rfl h0]at I;exact I
   refine⟨by rw[<-gL L h0];exact I,fun j y hj hy=>?_⟩;rcases aP j k with Rz|Rz
   ·exact X j y Rz hy
   ·have:j=k:=by omega
    subst this;rw[L]at hy;injection hy with hy;rw[<-hy];exact h0
 exact fun k x L=>(key xs.length (Nat.le_refl _)).2 k x (aD.1 L).1 L
end
def mm(n:Int):Prop:= -1000000<=n/\n<=1000000
instance (n : Int) : Decidable (mm n) := by unfold mm; infer_instance
def eu(seen:List (Int×Int×Int))(p:Int×Int×Int):Int:=if mm p.1/\mm p.2.1/\mm p.2.2 then(if p∈seen then 12 else 0)else 2
def gG(b:Int×Int×Rat):Int×Int:=(min b.1 b.2.1,max b.1 b.2.1)
def jB(n:Nat)(i:Int):Prop:=0<=i/\i<n
instance (n : Nat) (i : Int) : Decidable (jB n i) := by unfold jB; infer_instance
def fH(n:Nat)(seen:List (Int×Int×Rat))(b:Int×Int×Rat):Int:=
 if jB n b.1/\jB n b.2.1 then(if b.1=b.2.1 then 3 else if gG b∈seen.map gG then 5 else if b.2.2<=0 then 2 else 0)else 6
def iY(s:Int×Int×Rat):Int×Int:=(s.1,s.2.1)
def kL(n:Nat)(seen:List (Int×Int×Rat))(s:Int×Int×Rat):Int:=
 if jB n s.1 then(if 0<=s.2.1/\s.2.1<=2 then(if iY s∈seen.map iY then 5 else if s.2.2<0 then 2 else 0)else 2)else 6
def eN(f:ed):Int:=
 if 20<f.nodes.length\/60<f.bars.length\/60<f.cM.length then 8 else
  if e9 eu [] f.nodes≠0 then e9 eu [] f.nodes else
   if e9 (fH f.nodes.length) [] f.bars≠0 then e9 (fH f.nodes.length) [] f.bars else e9 (kL f.nodes.length) [] f.cM
def j2(n:Nat)(x:Ld):Int:=if jB n x.1 then(if mm x.2.1/\mm x.2.2.1/\mm x.2.2.2 then 0 else 2)else 6
def uO(n:Nat)(l:List Ld):Int:=if 200<l.length then 8 else e9 (fun _=>j2 n) [] l
def kM(f:ed)(l:List Ld):Int:=if eN f≠0 then eN f else uO f.nodes.length l
theorem s9{seen:List (Int×Int×Int)}:eu seen p=0↔(mm p.1/\mm p.2.1/\mm p.2.2)/\p∉seen:=by
 unfold eu;split<;>rename_i h
 ·split<;>rename_i X<;>simp[h,X]
 ·simp[h]
theorem qo:fH n seen b=0↔(jB n b.1/\jB n b.2.1)/\b.1≠b.2.1/\gG b∉seen.map gG/\0<b.2.2:=by
 unfold fH;rw[<-Rat.not_le];by_cases h:jB n b.1/\jB n b.2.1
 ·rw[if_pos h];by_cases X:b.1=b.2.1
  ·rw[if_pos X];exact⟨(fun e=>by cases e),fun e=>absurd X e.2.1⟩
  ·rw[aI X];by_cases N:gG b∈seen.map gG
   ·rw[if_pos N];exact⟨(fun e=>by cases e),fun e=>absurd N e.2.2.1⟩
   ·rw[aI N];by_cases h4:b.2.2<=0
    ·rw[if_pos h4];exact⟨(fun e=>by cases e),fun e=>absurd h4 e.2.2.2⟩
    ·rw[aI h4];exact⟨fun _=>⟨h,X,N,h4⟩,fun _=>rfl⟩
 ·rw[aI h];exact⟨(fun e=>by cases e),fun e=>absurd e.1 h⟩
theorem qn{s:Int×Int×Rat}:kL n seen s=0↔jB n s.1/\(0<=s.2.1/\s.2.1<=2)/\iY s∉seen.map iY/\0<=s.2.2:=by
 unfold kL;rw[<-Rat.not_lt];by_cases h:jB n s.1<;>by_cases X:0<=s.2.1/\s.2.1<=2<;>by_cases N:iY s∈seen.map iY<;>by_cases h4:s.2.2<0<;>simp only[h,X,N,h4]<;>simp
theorem GU:j2 n x=0↔jB n x.1/\mm x.2.1/\mm x.2.2.1/\mm x.2.2.2:=by
 unfold j2;split<;>rename_i h
 ·split<;>rename_i X<;>simp[h,X]
 ·simp[h]
theorem BY(h:eN f=0):(f.nodes.length<=20/\f.bars.length<=60/\f.cM.length<=60)/\e9 eu [] f.nodes=0/\e9 (fH f.nodes.length) [] f.bars=0/\e9 (kL f.nodes.length) [] f.cM=0:=by
 unfold eN at h;split at h<;>rename_i I
 ·cases h
 ·split at h<;>rename_i X
  ·exact absurd h X
  ·split at h<;>rename_i N
   ·exact absurd h N
   ·exact⟨by omega,by simpa using X,by simpa using N,h⟩
theorem xd(h:eN f=0):wY f:=by
 obtain⟨⟨I,X,N⟩,Z,hb,hs⟩:=BY h;refine⟨fun p hp=>?_,fun b Pk=>?_,fun s Tj=>?_,I,X,N⟩
 ·obtain⟨k,R⟩:=aQ hp;exact(s9.1 (jW Z k p R)).1
 ·obtain⟨k,R⟩:=aQ Pk;exact(qo.1 (jW hb k b R)).1
 ·obtain⟨k,R⟩:=aQ Tj;have:=qn.1 (jW hs k s R);exact⟨this.1,this.2.1⟩
theorem MV(h:uO n l=0):Em n l:=by
 unfold uO at h;split at h<;>rename_i I
 ·cases h
 ·refine⟨by omega,fun x L=>?_⟩;obtain⟨k,R⟩:=aQ L;exact GU.1 (jW h k x R)
theorem sd(h:kM f l=0):eN f=0/\uO f.nodes.length l=0:=by
 unfold kM at h;split at h<;>rename_i I
 ·exact absurd h I
 ·exact⟨by simpa using I,h⟩
theorem ko(n:Int)(w:World):dx PG F'.p8 #[.int .i64 n,.int .i64 1000000] w (eH w fun v' _=>∃d,v'= .bool d/\(d=true↔mm n)):=by
 have Y:=bR w;refine tx (by simp) ?_;refine⟨-1000000,by decide,?_⟩;refine dB.mk ?_ ?_<;>intro I
 ·intro GT we re;have I:=aK I;exact⟨_,rfl,Y.tr re.cL,_,rfl,by rw[decide_eq_true_iff];exact⟨fun h=>⟨I,h⟩,fun h=>h.2⟩⟩
 ·intro GT we re;have I:=aH I;exact⟨_,rfl,Y.tr re.cL,_,rfl,(fun h=>by cases h),fun h=>absurd h.1 I⟩
theorem GV(n:Int)(w:World)(an ab aq:Option Addr)(ln cn nb cb nq cq:Nat):dx PG F'.wW #[.agg #[.slice an ln cn,.slice ab nb cb,.slice aq nq cq],.int .i64 n] w (eH w fun v' _=>∃d,v'= .bool d/\(d=true↔jB ln n)):=by
 have Y:=bR w;refine zc (by simp) ?_;refine dB.mk ?_ ?_<;>intro I
 ·intro GT we re;have I:=aK I;exact⟨_,rfl,Y.tr re.cL,_,rfl,by rw[decide_eq_true_iff];exact⟨fun h=>⟨I,h⟩,fun h=>h.2⟩⟩
 ·intro GT we re;have I:=aH I;exact⟨_,rfl,Y.tr re.cL,_,rfl,(fun h=>by cases h),fun h=>absurd h.1 I⟩
theorem Cs(x y0 y1 y2:Int)(n:Nat)(w:World):dx PG F'.mG #[.agg #[.int .i64 x,.int .i64 y0,.int .i64 y1,.int .i64 y2],.int .i64 n] w (eH w fun v' _=>v'= .int .i64 (j2 n (x,y0,y1,y2))):=by
 have Y:=bR w;refine pr (by simp) ?_;refine dB.mk ?_ ?_<;>intro I
 ·have I:=aK I;exact rtn Y fun GT we re=>by show Value.int .i64 _=_;rw[j2,aI (by unfold jB;omega)]
 have I:=aH I;refine dB.mk ?_ ?_<;>intro X
 ·have X:=aK X;exact rtn Y fun GT we re=>by show Value.int .i64 _=_;rw[j2,aI (by unfold jB;omega)]
 have X:=aH X;have hh:jB n x:=by unfold jB;omega
 refine cB (cE Y (fun _ J v V=>∃d,v= .bool d/\(d=true↔mm y0)) (fun O J r=>ko _ J) ?_);rintro O _ _ _ OZ r W Y h_ ⟨d0,rfl,Of⟩
 cases d0
 ·have Of:¬mm y0:=fun h=>by have:=Of.2 h;cases this
  exact rtn Y fun GT we re=>by show Value.int .i64 _=_;rw[j2,if_pos hh,aI (fun h=>Of h.1)]
 replace Of:=Of.1 rfl;refine cB (cE Y (fun _ J v V=>∃d,v= .bool d/\(d=true↔mm y1)) (fun O J r=>ko _ J) ?_);rintro O _ _ _ OU r W Y h_ ⟨d1,rfl,Ol⟩
 cases d1
 ·have Ol:¬mm y1:=fun h=>by have:=Ol.2 h;cases this
  exact rtn Y fun GT we re=>by show Value.int .i64 _=_;rw[j2,if_pos hh,aI (fun h=>Ol h.2.1)]
 replace Ol:=Ol.1 rfl;refine cB (cE Y (fun _ J v V=>∃d,v= .bool d/\(d=true↔mm y2)) (fun O J r=>ko _ J) ?_);rintro O _ _ _ Oi r W Y h_ ⟨d2,rfl,Pg⟩
 cases d2
 ·have Pg:¬mm y2:=fun h=>by have:=Pg.2 h;cases this
  exact rtn Y fun GT we re=>by show Value.int .i64 _=_;rw[j2,if_pos hh,aI (fun h=>Pg h.2.2)]
 replace Pg:=Pg.1 rfl;exact rtn Y fun GT we re=>by show Value.int .i64 _=_;rw[j2,if_pos hh,if_pos ⟨Of,Ol,Pg⟩]
theorem Al(F:Old S w)(hl:jS w S vl l):dx PG F'.lG #[vl,.int .i64 n] w (eH w fun v' _=>v'= .int .i64 (uO n l)):=by
 have Y:=bR w;obtain⟨al,cl,rfl,PZ,Qq⟩:=hl.shape;unfold maxLen at Qq;refine oh (by simp) ?_;refine dB.mk ?_ ?_<;>intro I
 ·have I:=aK I;exact rtn Y fun GT we re=>by show Value.int .i64 _=_;rw[uO,if_pos (by omega)]
 have I:=aH I
 refine⟨Nat×World×Iv,fun z=>⟨[(1,iZ n),(11,sV al l.length cl),(12,iZ l.length),(13,iN z.1)],[],0,z.2.2,z.2.1⟩,fun z=>l.length-z.1,
  fun z=>z.1<=l.length/\dT w.heap.size w z.2.1/\uO n l=e9 (fun _=>j2 n) (l.take z.1) (l.drop z.1),?_,?_⟩
 ·intro O J K;exact⟨(0,J,[]),⟨aS _,Y.tr K.cL,by rw[uO,aI (by omega)];rfl⟩,Sub.gn [] K⟩
 rintro⟨i,w1,iv⟩ ⟨D,Y,hE⟩;dsimp only at D Y hE ⊢;refine dB.mk ?_ ?_<;>intro OQ
 ·have OQ:i<l.length:=by simpa using OQ
  obtain⟨x,L⟩:∃x,l[i]? =some x:=⟨_,aB OQ⟩
  obtain⟨adx,U,Pu,hP,-,Pt⟩:=hl.load (by decide) L;have hP:U=[.int .i64 x.1,.int .i64 x.2.1,.int .i64 x.2.2.1,.int .i64 x.2.2.2]:=hP;subst hP;refine⟨adx,Pu,by omega,[.int .i64 x.1,.int .i64 x.2.1,.int .i64 x.2.2.1,.int .i64 x.2.2.2],rfl,rdO Pt Y F,?_⟩;refine cB (cE Y (fun _ J v V=>v= .int .i64 (j2 n x)) (fun O J r=>Cs _ _ _ _ n J) ?_);rintro O _ _ _ OZ r W Y h_ rfl;obtain⟨c,hc⟩:∃c,j2 n x=c:=⟨_,rfl⟩
  rw[hc];refine dB.mk ?_ ?_<;>intro hd
  ·have hd:c≠0:=by simpa using hd
   exact rtn Y fun GT we re=>by show Value.int .i64 _=_;rw[hE,cO L hc hd]
  have hd:c=0:=by simpa using hd
  rw[hd]at hc;rw[gL L hc]at hE;refine⟨((i+1:Nat):Int),wo,?_⟩;intro IR w6 K;exact⟨(i+1,w6,_),⟨OQ,Y.tr K.cL,hE⟩,Sub.gn [] K,by dsimp only;omega⟩
 have OQ:i=l.length:=aU D (by simpa using OQ);rw[ij (by omega)]at hE;exact rtn Y fun GT we re=>by show Value.int .i64 _=_;rw[hE]
theorem iI{U:Array Value}(h:U[j]? =some v)(w:World):(part T.int U j).run PG w= .ok v w:=by
 have:=(hτ T.int _ rfl).isAgg w;simp only[part,Sem.run_bind,this,Result.andThen]
 simp[h]
theorem eq_int(d:Nat)(a b:Int)(w:World):(Op.equalIn (d+1) T.int (.int .i64 a) (.int .i64 b)).run PG w= .ok (a==b) w:=by
 unfold Op.equalIn;simp[run_underlying ((hτ T.int _ rfl).i1 rfl)]
theorem MW(p0 p1 p2 q0 q1 q2:Int)(w:World):(Op.equal T.Node (.agg #[.int .i64 p0,.int .i64 p1,.int .i64 p2]) (.agg #[.int .i64 q0,.int .i64 q1,.int .i64 q2])).run PG w= .ok (decide (p0=q0/\p1=q1/\p2=q2)) w:=by
 have h:=run_underlying Tryz.underlying195;simp only[Op.equal,Op.maxDepth]
 unfold Op.equalIn;have a0:=iI (U:= #[Value.int .i64 p0,Value.int .i64 p1,Value.int .i64 p2]) (j:=0) rfl;have a1:=iI (U:= #[Value.int .i64 p0,Value.int .i64 p1,Value.int .i64 p2]) (j:=1) rfl;have a2:=iI (U:= #[Value.int .i64 p0,Value.int .i64 p1,Value.int .i64 p2]) (j:=2) rfl;have b0:=iI (U:= #[Value.int .i64 q0,Value.int .i64 q1,Value.int .i64 q2]) (j:=0) rfl;have b1:=iI (U:= #[Value.int .i64 q0,Value.int .i64 q1,Value.int .i64 q2]) (j:=1) rfl;have b2:=iI (U:= #[Value.int .i64 q0,Value.int .i64 q1,Value.int .i64 q2]) (j:=2) rfl;simp[h,a0,a1,a2,b0,b1,b2,eq_int 9998];by_cases h0:p0=q0
 ·by_cases I:p1=q1
  ·by_cases X:p2=q2<;>simp[h0,I,X]
  ·simp[h0,I]
 ·simp[h0]
theorem MX(p0 p1 q0 q1:Int)(w:World):(Op.equal T.CT (.agg #[.int .i64 p0,.int .i64 p1]) (.agg #[.int .i64 q0,.int .i64 q1])).run PG w= .ok (decide (p0=q0/\p1=q1)) w:=by
 have h:=run_underlying Tryz.underlying281;simp only[Op.equal,Op.maxDepth]
 unfold Op.equalIn;have a0:=iI (U:= #[Value.int .i64 p0,Value.int .i64 p1]) (j:=0) rfl;have a1:=iI (U:= #[Value.int .i64 p0,Value.int .i64 p1]) (j:=1) rfl;have b0:=iI (U:= #[Value.int .i64 q0,Value.int .i64 q1]) (j:=0) rfl;have b1:=iI (U:= #[Value.int .i64 q0,Value.int .i64 q1]) (j:=1) rfl;simp[h,a0,a1,b0,b1,eq_int 9998];by_cases h0:p0=q0
 ·by_cases I:p1=q1<;>simp[h0,I]
 ·simp[h0]
abbrev Bb(p:Int×Int×Int):Value:=.agg #[.int .i64 p.1,.int .i64 p.2.1,.int .i64 p.2.2]
theorem Eo(p q:Int×Int×Int)(w:World)(o1 o2:Operand):(do eqGuard .eql T.Node o1 o2 (Bb p) (Bb q);binOp .eql T.Node (Bb p) (Bb q)).run PG w= .ok (.bool (decide (p=q))) w:=by
 have h:=MW p.1 p.2.1 p.2.2 q.1 q.2.1 q.2.2 w;simp[eqGuard,binOp,h];obtain⟨a,b,c⟩:=p;obtain⟨a2,b2,c2⟩:=q;by_cases h0:a=a2
 ·by_cases I:b=b2
  ·by_cases X:c=c2<;>simp[h0,I,X]
  ·simp[h0,I]
 ·simp[h0]
def nL(k:Int×Int):Value:=.agg #[.int .i64 k.1,.int .i64 k.2]
theorem qK{a b:Int×Int}(h:nL a=nL b):a=b:=by
 unfold nL at h;injection h with h;have I:=congrArg (fun x=>x[0]?) h;have X:=congrArg (fun x=>x[1]?) h;simp at I X;exact Prod.ext I X
theorem Iq(d:Nat)(a:Int)(em:Bool)(w:World):(Instr.checkKey em (d+1) T.int (.int .i64 a)).run PG w= .ok () w:=by
 unfold Instr.checkKey;simp[run_underlying ((hτ T.int _ rfl).i1 rfl)]
theorem GW(p0 p1:Int)(em:Bool)(w:World):(Instr.checkKey em 10000 T.CT (.agg #[.int .i64 p0,.int .i64 p1])).run PG w= .ok () w:=by
 have h:=run_underlying Tryz.underlying281;have a0:=iI (U:= #[Value.int .i64 p0,Value.int .i64 p1]) (j:=0) rfl;have a1:=iI (U:= #[Value.int .i64 p0,Value.int .i64 p1]) (j:=1) rfl;unfold Instr.checkKey;simp[h,a0,a1,Iq 9998]
theorem xp:JW PG T.CT (fun v=>∃k,v=nL k) where
 desc:=⟨_,Tryz.underlying281⟩
 check:=fun w em v ⟨k,e⟩=>by subst e;exact GW k.1 k.2 em w
 eq:=fun w a b ⟨p,e1⟩ ⟨q,e2⟩=>by
  subst e1 e2;refine⟨_,MX p.1 p.2 q.1 q.2 w,?_⟩;rw[decide_eq_true_iff];exact⟨fun h=>by rw[show p=q from Prod.ext h.1 h.2],fun h=>by have:=qK h;subst this;exact⟨rfl,rfl⟩⟩
theorem uP:PG.underlying T.wy=some (.map T.CT T.bool):=Tryz.underlying279
theorem Bd(w:World):(zeroValue T.bool).run PG w= .ok (.bool false) w:=by kernel_rfl
theorem Kt(ad:Option Addr)(k:Nat):ad.map (·.add (0*k))=ad:=by
 rw[Nat.zero_mul]
 cases ad with
 |none=>rfl
 |some a=>simp only[bY,Option.some.injEq];unfold Addr.add;split<;>simp_all
theorem eY.take{α:Type}{k:Nat}{P:World->(Nat->Prop)->List Value->α->Prop}{c:Nat}{xs:List α}(h:eY k P w S (.slice a n c) xs){i:Nat}(D:i<=xs.length):
  eY k P w S (.slice a i c) (xs.take i):=by
 obtain⟨A,⟨h0,I,X,a',c',e,N,h4⟩,hl,hlk,hf⟩:=h;injection e with e1 e2 e3;subst e1 e2 e3;have hlen:(A.take i).length=i:=by rw[aZ,hl];omega
 have Sq:(xs.take i).length=i:=by rw[aZ];omega
 have VD:A.flatten=(A.take i).flatten++(A.drop i).flatten:=by rw[<-List.flatten_append,List.take_append_drop]
 refine⟨A.take i,⟨by omega,?_,fun u hu=>X u (by rw[VD];exact List.mem_append_left _ hu),a,c,by rw[Sq],by omega,fun j u hj=>h4 j u ?_⟩,by rw[hlen,Sq],fun U hc=>hlk U (bS hc),fun j U x k1 k2=>?_⟩
 ·rw[vV fun U hc=>hlk U (bS hc),hlen,Sq]
 ·rw[VD,aJ (aD.1 hj).1];exact hj
 ·have hj:=(aD.1 k1).1;rw[hlen]at hj;rw[bO hj]at k1 k2;exact hf j U x k1 k2
theorem mg.cC{V:World}(h:mg w S v xs)(R:∀g,S g->V.heap[g]? =w.heap[g]?):mg V S v xs:=eY.cC (w:=w) (fun _ _ h=>h) h R
theorem Ct(F:Old S w)(Z:mg w S vn xs)(p:Int×Int×Int):dx PG F'.fb #[vn,Bb p] w (eH w fun v' _=>∃r,v'= .int .i64 r/\(-1<=r)/\(0<=r↔p∈xs)):=by
 have Y:=bR w;obtain⟨an,cn,rfl,hcn,RX⟩:=Z.shape;unfold maxLen at RX;refine iT (by simp) ?_
 refine⟨Nat×World,fun z=>⟨[(0,sV an xs.length cn),(3,pP 0 0),(7,iZ xs.length),(8,iN z.1)],[(0,.box T.Node [.v (.int .i64 p.1),.v (.int .i64 p.2.1),.v (.int .i64 p.2.2)])],1,[],z.2⟩,fun z=>xs.length-z.1,
  fun z=>z.1<=xs.length/\dT w.heap.size w z.2/\(p∈xs↔p∈xs.drop z.1),?_,?_⟩
 ·intro O J K;exact⟨(0,J),⟨aS _,Y.tr K.cL,Iff.rfl⟩,Sub.gn [] K⟩
 rintro⟨i,w1⟩ ⟨D,Y,hE⟩;dsimp only at D Y hE ⊢;refine dB.mk ?_ ?_<;>intro OQ
 ·have OQ:i<xs.length:=by simpa using OQ
  obtain⟨q,L⟩:∃x,xs[i]? =some x:=⟨_,aB OQ⟩
  have hdr:xs.drop i=q::xs.drop (i+1):=by rw[List.drop_eq_getElem_cons OQ,(aD.1 L).2]
  obtain⟨adx,U,Pu,hP,-,Pt⟩:=Z.load (by decide) L;have hP:U=[.int .i64 q.1,.int .i64 q.2.1,.int .i64 q.2.2]:=hP;subst hP;refine j1 hτ dN (.x 1 (.x 2 (.x 3 (.ld 0 32 (.ld 4 32 (.x 5 .nil)))))) (by kernel_rfl) (by kernel_rfl) ?_;refine⟨adx,Pu,by omega,[.int .i64 q.1,.int .i64 q.2.1,.int .i64 q.2.2],rfl,rdO Pt Y F,decide (p=q),fun O w o1 o2=>Eo p q w o1 o2,?_⟩;refine dB.mk ?_ ?_<;>intro hd
  ·have hd:p=q:=aK hd;exact rtn Y fun GT we re=>⟨_,rfl,by omega,iff_of_true (by omega) (hE.2 (by rw[hdr,hd];exact aG))⟩
  have hd:p≠q:=aH hd;rw[hdr,List.mem_cons,or_iff_right hd]at hE;refine⟨((i+1:Nat):Int),wo,?_⟩;intro IR w6 K;exact⟨(i+1,w6),⟨OQ,Y.tr K.cL,hE⟩,Sub.gn [] K,by dsimp only;omega⟩
 have OQ:i=xs.length:=aU D (by simpa using OQ);rw[OQ,List.drop_length]at hE;exact rtn Y fun GT we re=>⟨_,rfl,by omega,iff_of_false (by omega) fun h=>by cases hE.1 h⟩
theorem xR(F:Old S w)(Z:mg w S vn xs)(p:Int×Int×Int):dx PG F'.fN #[vn,Bb p] w (eH w fun v' _=>∃d,v'= .bool d/\(d=true↔p∈xs)):=by
 have Y:=bR w;obtain⟨an,cn,rfl,hcn,RX⟩:=Z.shape;refine iB (by simp) ?_;refine cB (cE Y (fun _ J v V=>∃r,v= .int .i64 r/\(-1<=r)/\(0<=r↔p∈xs)) (fun O J r=>Ct (p:=p) (oS F r) (mg.cC Z (kS Y r F))) ?_);rintro O _ _ _ OZ r W Y h_ ⟨r0,rfl,hr0,Tn⟩;exact rtn Y fun GT we re=>⟨_,rfl,by rw[decide_eq_true_iff];exact Tn⟩
def xS(w:World)(S:Nat->Prop)(g:Nat)(ks:List Value):Prop:=S g/\D7 w g ks
section
variable{S:Nat->Prop}{H:Hp}{nx:Nat}{iv E:Iv}{B:Nat}{w J V:World}{O:Nat->Sx.dL}{g:Nat}{ks:List Value}
theorem xS.rel(h:xS w (Cv S B iv) g ks)(r:Rel H nx iv B w O J)(F:∀g,S g->g<B):xS J (Cv S B iv) g ks:=⟨h.1,h.2.cC (Rel.same r F h.1)⟩
theorem xS.cD(h:xS w (Cv S B iv) g ks)(r:Rel H nx iv B w O J)(F:∀g,S g->g<B)(W:Ext J V)(hm:∀p,p∈iv->p∈E):xS V (Cv S B E) g ks:=
 ⟨h.1.mono hm,(h.rel r F).2.cC (W.block g (Rel.old r F g h.1))⟩
end
set_option maxHeartbeats 2000000 in
theorem Ep(F:Old S w)(hf:dm w S vn vb vs f):dx PG F'.rQ #[.agg #[vn,vb,vs]] w (eH w fun v' _=>v'= .int .i64 (eN f)):=by
 have Y:=bR w;obtain⟨an,cn,ab,cb,aq,cq,rfl,rfl,rfl,RX,RP,Sk⟩:=hf.shape;obtain⟨_,_,hsh,hcn,_⟩:=hf.nodes.shape;injection hsh with e1 e2 e3;subst e1 e3;refine vK (by simp) ?_;refine dB.mk ?_ ?_<;>intro h0
 ·have h0:=aK h0;exact rtn Y fun GT we re=>by show Value.int .i64 _=_;rw[eN,if_pos (by omega)]
 have h0:=aH h0;refine dB.mk ?_ ?_<;>intro I
 ·have I:=aK I;exact rtn Y fun GT we re=>by show Value.int .i64 _=_;rw[eN,if_pos (by omega)]
 have I:=aH I;refine dB.mk ?_ ?_<;>intro X
 ·have X:=aK X;exact rtn Y fun GT we re=>by show Value.int .i64 _=_;rw[eN,if_pos (by omega)]
 have X:=aH X
 refine⟨Nat×World×Iv,fun z=>⟨[(1,pP 0 0),(30,sV an f.nodes.length cn),(31,iZ f.nodes.length),(32,iN z.1)],[(0,.box T.Frame [.v (.slice an f.nodes.length cn),.v (.slice ab f.bars.length cb),.v (.slice aq f.cM.length cq)])],1,z.2.2,z.2.1⟩,fun z=>f.nodes.length-z.1,
  fun z=>z.1<=f.nodes.length/\dT w.heap.size w z.2.1/\e9 eu [] f.nodes=e9 eu (f.nodes.take z.1) (f.nodes.drop z.1),?_,?_⟩
 ·intro O J K;exact⟨(0,J,[]),⟨aS _,Y.tr K.cL,rfl⟩,Sub.gn [] K⟩
 rintro⟨i,w1,iv⟩ ⟨D,Y,hE⟩;dsimp only at D Y hE ⊢;refine dB.mk ?_ ?_<;>intro OQ
 ·have OQ:i<f.nodes.length:=by simpa using OQ
  obtain⟨q,L⟩:∃x,f.nodes[i]? =some x:=⟨_,aB OQ⟩
  obtain⟨adx,U,Pu,hP,-,Pt⟩:=hf.nodes.load (by decide) L;have hP:U=[.int .i64 q.1,.int .i64 q.2.1,.int .i64 q.2.2]:=hP;subst hP;refine⟨adx,Pu,by omega,[.int .i64 q.1,.int .i64 q.2.1,.int .i64 q.2.2],rfl,rdO Pt Y F,?_⟩;refine cB (cE Y (fun _ J v V=>∃d,v= .bool d/\(d=true↔mm q.1)) (fun O J r=>ko _ J) ?_);rintro O PQ v1 PE OZ r W Y h_ ⟨d0,rfl,Of⟩
  cases d0
  ·have Of:¬mm q.1:=fun h=>by have:=Of.2 h;cases this
   exact rtn Y fun GT we re=>by show Value.int .i64 _=_;rw[eN,aI (by omega),if_pos (by rw[hE,cO L (show eu (f.nodes.take i) q=2 by rw[eu,aI (fun h=>Of h.1)]) (by decide)];decide),hE,cO L (show eu (f.nodes.take i) q=2 by rw[eu,aI (fun h=>Of h.1)]) (by decide)]
  replace Of:=Of.1 rfl;refine cB (cE Y (fun _ J v V=>∃d,v= .bool d/\(d=true↔mm q.2.1)) (fun O J r=>ko _ J) ?_);rintro O QK v2 PT OU r W Y h_ ⟨d1,rfl,Ol⟩
  cases d1
  ·have Ol:¬mm q.2.1:=fun h=>by have:=Ol.2 h;cases this
   exact rtn Y fun GT we re=>by show Value.int .i64 _=_;rw[eN,aI (by omega),if_pos (by rw[hE,cO L (show eu (f.nodes.take i) q=2 by rw[eu,aI (fun h=>Ol h.2.1)]) (by decide)];decide),hE,cO L (show eu (f.nodes.take i) q=2 by rw[eu,aI (fun h=>Ol h.2.1)]) (by decide)]
  replace Ol:=Ol.1 rfl;refine cB (cE Y (fun _ J v V=>∃d,v= .bool d/\(d=true↔mm q.2.2)) (fun O J r=>ko _ J) ?_);rintro O PY v3 PX Oi r W Y h_ ⟨d2,rfl,Pg⟩
  cases d2
  ·have Pg:¬mm q.2.2:=fun h=>by have:=Pg.2 h;cases this
   exact rtn Y fun GT we re=>by show Value.int .i64 _=_;rw[eN,aI (by omega),if_pos (by rw[hE,cO L (show eu (f.nodes.take i) q=2 by rw[eu,aI (fun h=>Pg h.2.2)]) (by decide)];decide),hE,cO L (show eu (f.nodes.take i) q=2 by rw[eu,aI (fun h=>Pg h.2.2)]) (by decide)]
  replace Pg:=Pg.1 rfl;refine j1 hτ dN (.x 0 (.x 2 (.ld 1 104 (.x 3 (.ld 4 96 (.x 5 (.x 6 .nil))))))) (by kernel_rfl) (by kernel_rfl) ?_;refine⟨⟨by omega,by omega,by omega⟩,an,i,cn,by rw[show ((0:Int).toNat*3)=0*3 from rfl,Kt];split<;>rfl,by simp,by simp,?_⟩;refine cE Y (fun _ J v V=>∃d,v= .bool d/\(d=true↔q∈f.nodes.take i)) (fun O J r=>xR (p:=q) (oS F r) (mg.cC (hf.nodes.take (Nat.le_of_lt OQ)) (kS Y r F))) ?_;rintro O _ _ _ Ow r W Y h_ ⟨d3,rfl,hz3⟩
  cases d3
  ·have hz3:q∉f.nodes.take i:=fun h=>by have:=hz3.2 h;cases this
   rw[gL L (s9.2 ⟨⟨Of,Ol,Pg⟩,hz3⟩)]at hE;refine⟨((i+1:Nat):Int),wo,?_⟩;intro IR w6 K;exact⟨(i+1,w6,_),⟨OQ,Y.tr K.cL,hE⟩,Sub.gn [] K,by dsimp only;omega⟩
  replace hz3:=hz3.1 rfl;exact rtn Y fun GT we re=>by show Value.int .i64 _=_;rw[eN,aI (by omega),if_pos (by rw[hE,cO L (show eu (f.nodes.take i) q=12 by rw[eu,if_pos ⟨Of,Ol,Pg⟩,if_pos hz3]) (by decide)];decide),hE,cO L (show eu (f.nodes.take i) q=12 by rw[eu,if_pos ⟨Of,Ol,Pg⟩,if_pos hz3]) (by decide)]
 have OQ:i=f.nodes.length:=aU D (by simpa using OQ);rw[ij (by omega)]at hE;refine vu (fun O wa wb r To G Oj=>?_);have PR:=(Y.tr r.cL).tr (dT.grown G (fun x e=>by cases e) r.bz);have hB:w.heap.size<=wa.heap.size:=r.bz;have hM:xS wb (Cf w ((wa.heap.size,wa.heap.size+1)::iv)) wa.heap.size []:=⟨.inr ⟨hB,_,_,aG,Nat.le_refl _,bV _⟩,To⟩
 generalize (wa.heap.size,wa.heap.size+1)::iv=OU at*
 obtain⟨gm,Wj⟩:∃gm,wa.heap.size=gm:=⟨_,rfl⟩
 rw[Wj]at hM ⊢;have Y:=PR
 refine⟨Nat×World×Iv,fun z=>⟨[(1,pP 0 0),(5,.o (.v (.map (some gm)))),(64,sV ab f.bars.length cb),(65,iZ f.bars.length),(66,iN z.1)],[(0,.box T.Frame [.v (.slice an f.nodes.length cn),.v (.slice ab f.bars.length cb),.v (.slice aq f.cM.length cq)])],1,z.2.2,z.2.1⟩,fun z=>f.bars.length-z.1,
  fun z=>z.1<=f.bars.length/\dT w.heap.size w z.2.1/\e9 (fH f.nodes.length) [] f.bars=e9 (fH f.nodes.length) (f.bars.take z.1) (f.bars.drop z.1)/\xS z.2.1 (Cf w z.2.2) gm ((f.bars.take z.1).map fun b=>nL (gG b)),?_,?_⟩
 ·intro O J K;exact⟨(0,J,OU),⟨aS _,Y.tr K.cL,rfl,hM.rel K (bw w)⟩,Sub.gn [] K⟩
 rintro⟨i,w1,iv⟩ ⟨D,Y,Ov,hM⟩;dsimp only at D Y Ov hM ⊢;refine dB.mk ?_ ?_<;>intro OQ
 ·have OQ:i<f.bars.length:=by simpa using OQ
  obtain⟨b,L⟩:∃b,f.bars[i]? =some b:=⟨_,aB OQ⟩
  obtain⟨adb,U,QM,hF,-,Pn⟩:=hf.bars.load (by decide) L;obtain⟨g0,g1,g2,g3,g4,g5,g6,g7,rfl,hF⟩:=hF;refine⟨adb,QM,by omega,[.int .i64 b.1,.int .i64 b.2.1,.bool g0,.slice g1 g2 g3,.bool g4,.slice g5 g6 g7],rfl,rdO Pn Y F,?_⟩;refine cB (cE Y (fun _ J v V=>∃d,v= .bool d/\(d=true↔jB f.nodes.length b.1)) (fun O J r=>GV _ J _ _ _ _ _ _ _ _ _) ?_);rintro O PQ v1 PE OZ r W Y h_ ⟨d0,rfl,Of⟩;replace hM:=hM.cD r (bw w) W (mC h_)
  cases d0
  ·have Of:¬jB f.nodes.length b.1:=fun h=>by have:=Of.2 h;cases this
   exact rtn Y fun GT we re=>by show Value.int .i64 _=_;rw[eN,aI (by omega),aI (by rw[hE];decide),if_pos (by rw[Ov,cO L (show fH f.nodes.length (f.bars.take i) b=6 by rw[fH,aI (fun h=>Of h.1)]) (by decide)];decide),Ov,cO L (show fH f.nodes.length (f.bars.take i) b=6 by rw[fH,aI (fun h=>Of h.1)]) (by decide)]
  replace Of:=Of.1 rfl;refine cB (cE Y (fun _ J v V=>∃d,v= .bool d/\(d=true↔jB f.nodes.length b.2.1)) (fun O J r=>GV _ J _ _ _ _ _ _ _ _ _) ?_);rintro O QK v2 PT OU r W Y h_ ⟨d1,rfl,Ol⟩;replace hM:=hM.cD r (bw w) W (mC h_)
  cases d1
  ·have Ol:¬jB f.nodes.length b.2.1:=fun h=>by have:=Ol.2 h;cases this
   exact rtn Y fun GT we re=>by show Value.int .i64 _=_;rw[eN,aI (by omega),aI (by rw[hE];decide),if_pos (by rw[Ov,cO L (show fH f.nodes.length (f.bars.take i) b=6 by rw[fH,aI (fun h=>Ol h.2)]) (by decide)];decide),Ov,cO L (show fH f.nodes.length (f.bars.take i) b=6 by rw[fH,aI (fun h=>Ol h.2)]) (by decide)]
  replace Ol:=Ol.1 rfl;refine dB.mk ?_ ?_<;>intro PU
  ·have PU:b.1=b.2.1:=by simpa using PU
   exact rtn Y fun GT we re=>by show Value.int .i64 _=_;rw[eN,aI (by omega),aI (by rw[hE];decide),if_pos (by rw[Ov,cO L (show fH f.nodes.length (f.bars.take i) b=3 by rw[fH,if_pos ⟨Of,Ol⟩,if_pos PU]) (by decide)];decide),Ov,cO L (show fH f.nodes.length (f.bars.take i) b=3 by rw[fH,if_pos ⟨Of,Ol⟩,if_pos PU]) (by decide)]
  have PU:b.1≠b.2.1:=by simpa using PU
  refine yI xp uP Bd rfl rfl (key:=nL (gG b)) (fun _=>rfl) ⟨_,rfl⟩ (fun k R=>by obtain⟨x,_,rfl⟩:=aR.1 R;exact⟨_,rfl⟩) (fun O J r=>(hM.rel r (bw w)).2) (fun O J d r hd=>?_);replace Y:=Y.tr r.cL;replace hM:=hM.rel r (bw w);replace hd:d=true↔gG b∈(f.bars.take i).map gG:=by
   rw[hd];constructor
   ·intro h;obtain⟨x,I,X⟩:=aR.1 h;exact aR.2 ⟨x,I,qK X⟩
   ·intro h;obtain⟨x,I,X⟩:=aR.1 h;exact aR.2 ⟨x,I,congrArg nL X⟩
  cases d
  ·have QS:gG b∉(f.bars.take i).map gG:=fun h=>by have:=hd.2 h;cases this
   refine cB (cE Y (fun _ J v V=>v= .int .i64 (rs b.2.2)) (fun O J r=>(GK (oS F r) (hF.v.cC (kS Y r F)) (eJ.zero (S:=S)).v).mono fun _ _ ⟨v2,e1,e2,e3⟩=>⟨v2,e1,e2,by rw[e3,qJ]⟩) ?_);rintro O _ _ _ Oi r W Y h_ rfl;replace hM:=hM.cD r (bw w) W (mC h_);obtain⟨cf,WE⟩:∃c,rs b.2.2=c:=⟨_,rfl⟩
   rw[WE];refine dB.mk ?_ ?_<;>intro PN
   ·have PN:b.2.2<=0:=by have:=aK PN;rw[<-Rat.not_lt,<-lN];omega
    exact rtn Y fun GT we re=>by show Value.int .i64 _=_;rw[eN,aI (by omega),aI (by rw[hE];decide),if_pos (by rw[Ov,cO L (show fH f.nodes.length (f.bars.take i) b=2 by rw[fH,if_pos ⟨Of,Ol⟩,aI PU,aI QS,if_pos PN]) (by decide)];decide),Ov,cO L (show fH f.nodes.length (f.bars.take i) b=2 by rw[fH,if_pos ⟨Of,Ol⟩,aI PU,aI QS,if_pos PN]) (by decide)]
   ·have PN:0<b.2.2:=by have:=aH PN;rw[<-lN];omega
    refine rM xp uP rfl rfl (key:=nL (gG b)) (fun _=>rfl) rfl ⟨_,rfl⟩ (fun k R=>by obtain⟨x,_,rfl⟩:=aR.1 R;exact⟨_,rfl⟩) (fun h=>by
     obtain⟨x,I,X⟩:=aR.1 h
     exact QS (aR.2 ⟨x,I,qK X⟩)) (fun O J r=>⟨(hM.rel r (bw w)).2,Rel.not r (bw w) hM.1⟩) (fun O wa wb r Py G Oj=>?_)
    replace Y:=(Y.tr r.cL).tr (dT.grown G (fun x e=>by injection e with e;subst e;exact hM.1.elim (fun h=>h.elim) fun h=>h.1) r.bz);rw[show ((f.bars.take i).map fun b=>nL (gG b))++[nL (gG b)]=(f.bars.take (i+1)).map fun b=>nL (gG b) by rw[List.take_add_one,L];simp]at Py;replace hM:xS wb (Cf w Oi) gm ((f.bars.take (i+1)).map fun b=>nL (gG b)):=⟨hM.1,Py⟩
    rw[gL L (qo.2 ⟨⟨Of,Ol⟩,PU,QS,PN⟩)]at Ov;refine⟨((i+1:Nat):Int),wo,?_⟩;intro IR w6 K;exact⟨(i+1,w6,_),⟨OQ,Y.tr K.cL,Ov,hM.rel K (bw w)⟩,Sub.gn [] K,by dsimp only;omega⟩
  ·have hd:=hd.1 rfl;exact rtn Y fun GT we re=>by show Value.int .i64 _=_;rw[eN,aI (by omega),aI (by rw[hE];decide),if_pos (by rw[Ov,cO L (show fH f.nodes.length (f.bars.take i) b=5 by rw[fH,if_pos ⟨Of,Ol⟩,aI PU,if_pos hd]) (by decide)];decide),Ov,cO L (show fH f.nodes.length (f.bars.take i) b=5 by rw[fH,if_pos ⟨Of,Ol⟩,aI PU,if_pos hd]) (by decide)]
 have OQ:i=f.bars.length:=aU D (by simpa using OQ);rw[ij (by omega)]at Ov;have hE1:=Ov;refine vu (fun O wa wb r To G Oj=>?_);have PR:=(Y.tr r.cL).tr (dT.grown G (fun x e=>by cases e) r.bz);have hB:w.heap.size<=wa.heap.size:=r.bz;have hM:xS wb (Cf w ((wa.heap.size,wa.heap.size+1)::iv)) wa.heap.size []:=⟨.inr ⟨hB,_,_,aG,Nat.le_refl _,bV _⟩,To⟩
 generalize (wa.heap.size,wa.heap.size+1)::iv=OU at*
 obtain⟨gm,Wj⟩:∃gm,wa.heap.size=gm:=⟨_,rfl⟩
 rw[Wj]at hM ⊢;have Y:=PR
 refine⟨Nat×World×Iv,fun z=>⟨[(1,pP 0 0),(9,.o (.v (.map (some gm)))),(115,sV aq f.cM.length cq),(116,iZ f.cM.length),(117,iN z.1)],[(0,.box T.Frame [.v (.slice an f.nodes.length cn),.v (.slice ab f.bars.length cb),.v (.slice aq f.cM.length cq)])],1,z.2.2,z.2.1⟩,fun z=>f.cM.length-z.1,
  fun z=>z.1<=f.cM.length/\dT w.heap.size w z.2.1/\e9 (kL f.nodes.length) [] f.cM=e9 (kL f.nodes.length) (f.cM.take z.1) (f.cM.drop z.1)/\xS z.2.1 (Cf w z.2.2) gm ((f.cM.take z.1).map fun b=>nL (iY b)),?_,?_⟩
 ·intro O J K;exact⟨(0,J,OU),⟨aS _,Y.tr K.cL,rfl,hM.rel K (bw w)⟩,Sub.gn [] K⟩
 rintro⟨i,w1,iv⟩ ⟨D,Y,Ov,hM⟩;dsimp only at D Y Ov hM ⊢;refine dB.mk ?_ ?_<;>intro OQ
 ·have OQ:i<f.cM.length:=by simpa using OQ
  obtain⟨b,L⟩:∃b,f.cM[i]? =some b:=⟨_,aB OQ⟩
  obtain⟨adb,U,QM,hF,-,Pn⟩:=hf.cM.load (by decide) L;obtain⟨g0,g1,g2,g3,g4,g5,g6,g7,rfl,hF⟩:=hF;refine⟨adb,QM,by omega,[.int .i64 b.1,.int .i64 b.2.1,.bool g0,.slice g1 g2 g3,.bool g4,.slice g5 g6 g7],rfl,rdO Pn Y F,?_⟩;refine cB (cE Y (fun _ J v V=>∃d,v= .bool d/\(d=true↔jB f.nodes.length b.1)) (fun O J r=>GV _ J _ _ _ _ _ _ _ _ _) ?_);rintro O _ _ _ OZ r W Y h_ ⟨d0,rfl,Of⟩;replace hM:=hM.cD r (bw w) W (mC h_)
  cases d0
  ·have Of:¬jB f.nodes.length b.1:=fun h=>by have:=Of.2 h;cases this
   exact rtn Y fun GT we re=>by show Value.int .i64 _=_;rw[eN,aI (by omega),aI (by rw[hE];decide),aI (by rw[hE1];decide),Ov,cO L (show kL f.nodes.length (f.cM.take i) b=6 by rw[kL,aI Of]) (by decide)]
  replace Of:=Of.1 rfl;refine dB.mk ?_ ?_<;>intro Ro
  ·have Ro:=aK Ro;exact rtn Y fun GT we re=>by show Value.int .i64 _=_;rw[eN,aI (by omega),aI (by rw[hE];decide),aI (by rw[hE1];decide),Ov,cO L (show kL f.nodes.length (f.cM.take i) b=2 by rw[kL,if_pos Of,aI (fun h=>by omega)]) (by decide)]
  have Ro:=aH Ro;refine dB.mk ?_ ?_<;>intro R1
  ·have R1:=aK R1;exact rtn Y fun GT we re=>by show Value.int .i64 _=_;rw[eN,aI (by omega),aI (by rw[hE];decide),aI (by rw[hE1];decide),Ov,cO L (show kL f.nodes.length (f.cM.take i) b=2 by rw[kL,if_pos Of,aI (fun h=>by omega)]) (by decide)]
  have R1:=aH R1;have Pu:0<=b.2.1/\b.2.1<=2:=by omega
  refine yI xp uP Bd rfl rfl (key:=nL (iY b)) (fun _=>rfl) ⟨_,rfl⟩ (fun k R=>by obtain⟨x,_,rfl⟩:=aR.1 R;exact⟨_,rfl⟩) (fun O J r=>(hM.rel r (bw w)).2) (fun O J d r hd=>?_);replace Y:=Y.tr r.cL;replace hM:=hM.rel r (bw w);replace hd:d=true↔iY b∈(f.cM.take i).map iY:=by
   rw[hd];constructor
   ·intro h;obtain⟨x,I,X⟩:=aR.1 h;exact aR.2 ⟨x,I,qK X⟩
   ·intro h;obtain⟨x,I,X⟩:=aR.1 h;exact aR.2 ⟨x,I,congrArg nL X⟩
  cases d
  ·have QS:iY b∉(f.cM.take i).map iY:=fun h=>by have:=hd.2 h;cases this
   refine cB (cE Y (fun _ J v V=>v= .int .i64 (rs b.2.2)) (fun O J r=>(GK (oS F r) (hF.v.cC (kS Y r F)) (eJ.zero (S:=S)).v).mono fun _ _ ⟨v2,e1,e2,e3⟩=>⟨v2,e1,e2,by rw[e3,qJ]⟩) ?_);rintro O _ _ _ OU r W Y h_ rfl;replace hM:=hM.cD r (bw w) W (mC h_);obtain⟨cf,WE⟩:∃c,rs b.2.2=c:=⟨_,rfl⟩
   rw[WE];refine dB.mk ?_ ?_<;>intro PN
   ·have PN:b.2.2<0:=by have:=aK PN;rw[<-lQ];omega
    exact rtn Y fun GT we re=>by show Value.int .i64 _=_;rw[eN,aI (by omega),aI (by rw[hE];decide),aI (by rw[hE1];decide),Ov,cO L (show kL f.nodes.length (f.cM.take i) b=2 by rw[kL,if_pos Of,if_pos Pu,aI QS,if_pos PN]) (by decide)]
   ·have PN:0<=b.2.2:=by have:=aH PN;rw[<-Rat.not_lt,<-lQ];omega
    refine rM xp uP rfl rfl (key:=nL (iY b)) (fun _=>rfl) rfl ⟨_,rfl⟩ (fun k R=>by obtain⟨x,_,rfl⟩:=aR.1 R;exact⟨_,rfl⟩) (fun h=>by
     obtain⟨x,I,X⟩:=aR.1 h
     exact QS (aR.2 ⟨x,I,qK X⟩)) (fun O J r=>⟨(hM.rel r (bw w)).2,Rel.not r (bw w) hM.1⟩) (fun O wa wb r Py G Oj=>?_)
    replace Y:=(Y.tr r.cL).tr (dT.grown G (fun x e=>by injection e with e;subst e;exact hM.1.elim (fun h=>h.elim) fun h=>h.1) r.bz);rw[show ((f.cM.take i).map fun b=>nL (iY b))++[nL (iY b)]=(f.cM.take (i+1)).map fun b=>nL (iY b) by rw[List.take_add_one,L];simp]at Py;replace hM:xS wb (Cf w OU) gm ((f.cM.take (i+1)).map fun b=>nL (iY b)):=⟨hM.1,Py⟩
    rw[gL L (qn.2 ⟨Of,Pu,QS,PN⟩)]at Ov;refine⟨((i+1:Nat):Int),wo,?_⟩;intro IR w6 K;exact⟨(i+1,w6,_),⟨OQ,Y.tr K.cL,Ov,hM.rel K (bw w)⟩,Sub.gn [] K,by dsimp only;omega⟩
  ·have hd:=hd.1 rfl;exact rtn Y fun GT we re=>by show Value.int .i64 _=_;rw[eN,aI (by omega),aI (by rw[hE];decide),aI (by rw[hE1];decide),Ov,cO L (show kL f.nodes.length (f.cM.take i) b=5 by rw[kL,if_pos Of,if_pos Pu,if_pos hd]) (by decide)]
 have OQ:i=f.cM.length:=aU D (by simpa using OQ);rw[ij (by omega)]at Ov;exact rtn Y fun GT we re=>by show Value.int .i64 _=_;rw[eN,aI (by omega),aI (by rw[hE];decide),aI (by rw[hE1];decide),Ov]
theorem zw(F:Old S w)(hf:dm w S vn vb vs f)(hl:jS w S vl l):dx PG F'.lH #[.agg #[vn,vb,vs],vl] w (eH w fun v' _=>v'= .int .i64 (kM f l)):=by
 have Y:=bR w;obtain⟨an,cn,ab,cb,aq,cq,rfl,rfl,rfl,RX,RP,Sk⟩:=hf.shape;obtain⟨al,cl,rfl,PZ,Qq⟩:=hl.shape;refine om (by simp) ?_;refine cB (cE Y (fun _ J v V=>v= .int .i64 (eN f)) (fun O J r=>Ep (oS F r) (hf.cC (kS Y r F))) ?_);rintro O _ _ _ OZ r W Y h_ rfl;obtain⟨c,hc⟩:∃c,eN f=c:=⟨_,rfl⟩
 rw[hc];refine dB.mk ?_ ?_<;>intro hd
 ·have hd:c≠0:=by simpa using hd
  exact rtn Y fun GT we re=>by show Value.int .i64 _=_;rw[kM,if_pos (by rw[hc];exact hd),hc]
 have hd:c=0:=by simpa using hd
 refine cB (cE Y (fun _ J v V=>v= .int .i64 (uO f.nodes.length l)) (fun O J r=>Al (oS F r) (hl.cC (kS Y r F))) ?_);rintro O _ _ _ OU r W Y h_ rfl;exact rtn Y fun GT we re=>by show Value.int .i64 _=_;rw[kM,aI (by rw[hc,hd];decide)]
structure Calm(f:ed)(h:Nat):Prop where
 ok:wY f
 c0:0<f.cols
 b2:Ef (cY f) f.cols h
 a2:Ht (dh (cY f) f.cols).1 h
 st:k9 (cY f) f.cols=[]
 hh:3*h<=90000
structure aA6(f:ed)(l:List Ld)(h:Nat)(x:List Rat):Prop where
 ok:Em f.nodes.length l
 b1:Ef (kF (cY f) (df (mh f l) (-1))) (f.cols+1) h
 x:nm (cY f) (df (mh f l) (-1)) f.cols=some x
theorem Er(f:ed)(l:List Ld):(mh f l).length=3*f.nodes.length:=by rw[mh,ew,aL,oR]
theorem uQ(a b:List Rat):(lu a b).length=a.length:=List.length_mapIdx ..
set_option maxRecDepth 100000
theorem eJ.zeroV:eJ w S (.agg #[.bool false,.slice none 0 0,.bool false,.slice none 0 0]) 0:=eJ.zero
structure gM(w:World)(S:Nat->Prop)(A:List (List Value))(qs:List Rat):Prop where
 len:A.length=qs.length
 four:∀U∈A,U.length=4
 at_:∀(j:Nat) U q,A[j]? =some U->qs[j]? =some q->jA w S U q
section
variable{S S':Nat->Prop}{H:Hp}{nx:Nat}{iv E:Iv}{B:Nat}{w J V:World}{O:Nat->Sx.dL}{A:List (List Value)}{qs:List Rat}
theorem gM.nil:gM w S [] []:=⟨rfl,fun _ h=>(by cases h),fun _ _ _ h=>by cases h⟩
theorem gM.cC(h:gM w S A qs)(R:∀g,S g->V.heap[g]? =w.heap[g]?):gM V S A qs:=⟨h.len,h.four,fun j U q I X=>by
 obtain⟨b,a,n,c,b2,a2,n2,c2,e,hr⟩:=h.at_ j U q I X
 exact⟨b,a,n,c,b2,a2,n2,c2,e,hr.cC R⟩⟩
theorem gM.cF(h:gM w S A qs)(R:∀g,S g->S' g):gM w S' A qs:=⟨h.len,h.four,fun j U q I X=>by
 obtain⟨b,a,n,c,b2,a2,n2,c2,e,hr⟩:=h.at_ j U q I X
 exact⟨b,a,n,c,b2,a2,n2,c2,e,hr.cF R⟩⟩
theorem gM.push(h:gM w S A qs)(hc:jA w S U q)(h4:U.length=4):gM w S (A++[U]) (qs++[q]):=by
 refine⟨by simp[h.len],fun x L=>?_,fun j x p I X=>?_⟩
 ·rcases List.mem_append.1 L with L|L
  ·exact h.four x L
  ·rw[bF.1 L];exact h4
 ·rcases aP j A.length with D|D
  ·rw[aJ D]at I;rw[aJ (by rw[<-h.len];exact D)]at X;exact h.at_ j x p I X
  ·have RZ:j=A.length:=by have:=(aD.1 I).1;simp at this;omega
   subst RZ;rw[aN (Nat.le_refl _),bB]at I;rw[h.len,aN (Nat.le_refl _),bB]at X;simp at I X;subst I X;exact hc
theorem gM.one(h:gM w S A qs):∀u∈A.flatten,u.oneCell'=true:=fun u hu=>by
 obtain⟨U,hc,hu⟩:=List.mem_flatten.1 hu;obtain⟨j,hj⟩:=aQ hc;obtain⟨_,_,_,_,_,_,_,_,rfl,_⟩:=h.at_ j U _ hj (aB (by rw[<-h.len];exact(aD.1 hj).1));simp at hu;rcases hu with rfl|rfl|rfl|rfl<;>rfl
theorem gM.list(h:gM w S A qs)(hs:iu w S 4 v A.flatten A.length):cS w S v qs:=⟨A,h.len▸hs,h.len,h.four,h.at_⟩
end
theorem dm.dD{J V:World}{B:Nat}{iv:Iv}(h:dm V (Nf J V) vn vb vs f)(hB:B<=J.heap.size)(hm:(J.heap.size,V.heap.size)∈iv):dm V (Cv FF B iv) vn vb vs f:=h.cF fun _ G=>G.dD hB hm
def Es(U:List Value):Prop:=∃b a n c b2 a2 n2 c2,U=[.bool b,.slice a n c,.bool b2,.slice a2 n2 c2]/\n<=3/\n2<=3
theorem Cu(a:Addr)(m n:Nat):(a.add m).add n=a.add (m+n):=by
 unfold Addr.add;split<;>split<;>simp_all<;>omega
theorem iD.l3{b1 b2:Bool}{a1 a2:Option Addr}{n1 n2 c1 c2:Nat}{a b:Int}(h:iD w S (.agg #[.bool b1,.slice a1 n1 c1,.bool b2,.slice a2 n2 c2]) a b)(hf:Es [.bool b1,.slice a1 n1 c1,.bool b2,.slice a2 n2 c2]):
  eJ w S (.agg #[.bool b1,.slice a1 n1 c1,.bool b2,.slice a2 n2 c2]) (ratio a b)/\rl (ratio a b)<=3:=by
 obtain⟨_,_,_,_,_,_,_,_,e,k1,k2⟩:=hf;simp only[List.cons.injEq,Value.slice.injEq,Value.bool.injEq,and_true]at e;obtain⟨rfl,⟨rfl,rfl,rfl⟩,rfl,rfl,rfl,rfl⟩:=e;obtain⟨b1,l1,b2,l2,e,I,X⟩:=h;simp only[Value.agg.injEq,Array.mk.injEq,List.cons.injEq,Value.bool.injEq,and_true]at e;obtain⟨rfl,rfl,rfl,rfl⟩:=e;have g1:=I.short k1;have g2:=X.short k2;have r1:=g1.ln;have r2:=g2.ln;have hr:=gY a b;refine⟨⟨_,_,_,_,a,b,rfl,?_,?_,rfl⟩,by omega⟩
 ·obtain⟨ng,ls,i1,i2,i3⟩:=g1;exact⟨ng,ls,i1,i2,by omega⟩
 ·obtain⟨ng,ls,i1,i2,i3⟩:=g2;exact⟨ng,ls,i1,i2,by omega⟩
end Go.Ex
namespace Go.Ex
theorem aAN{a b x p q:Rat}(I:a<x)(X:x<=b):(p<=q->p<=p+(x-a) / (b-a)*(q-p)/\p+(x-a) / (b-a)*(q-p)<=q)/\(q<=p->q<=p+(x-a) / (b-a)*(q-p)/\p+(x-a) / (b-a)*(q-p)<=p):=by
 have hd:0<b-a:=by grind
 have D:0<=(b-a)⁻¹:=Rat.le_of_lt (Rat.inv_pos.2 hd);obtain⟨t,ht⟩:∃t,(x-a) / (b-a)=t:=⟨_,rfl⟩
 have t0:0<=t:=by rw[<-ht,bK];exact Rat.mul_nonneg (by grind) D
 have t1:t<=1:=by
  rw[<-ht,bK,<-Rat.mul_inv_cancel (b-a) (by grind)];exact Rat.mul_le_mul_of_nonneg_right (by grind) D
 rw[ht];refine⟨fun h=>?_,fun h=>?_⟩
 ·have k1:0<=t*(q-p):=Rat.mul_nonneg t0 (by grind);have k2:t*(q-p)<=1*(q-p):=Rat.mul_le_mul_of_nonneg_right t1 (by grind);grind
 ·have k1:0<=t*(p-q):=Rat.mul_nonneg t0 (by grind);have k2:t*(p-q)<=1*(p-q):=Rat.mul_le_mul_of_nonneg_right t1 (by grind);have k3:t*(q-p)= -(t*(p-q)):=by grind
  grind
end Go.Ex
namespace Go.Ex
open Go Go.Sx Go.Proofs
variable{p:Int×Int×(Int×Int)}{xs:List (Int×Int×(Int×Int))}{A:List (List Value)}{U:List Value}{S:Nat->Prop}{ax:Option Addr}{v vb vn vs:Value}{w:World}{f:ed}
theorem oU(c b:Int×Int×Rat):gG c=gG b↔(c.1=b.1/\c.2.1=b.2.1)\/(c.1=b.2.1/\c.2.1=b.1):=by
 unfold gG;rw[Prod.mk.injEq];omega
theorem Cw(c b:Int×Int×Rat):iY c=iY b↔c.1=b.1/\c.2.1=b.2.1:=by
 unfold iY;rw[Prod.mk.injEq]
section
variable{α β:Type}{Do:List α}{Fn:α->β}{x:β}
theorem lS{k:Nat}{c:α}(hc:Do[k]? =some c)(h:Fn c≠x)(hE:x∈Do.map Fn↔x∈(Do.drop k).map Fn):x∈Do.map Fn↔x∈(Do.drop (k+1)).map Fn:=by
 rw[hE,List.drop_eq_getElem_cons (aD.1 hc).1,(aD.1 hc).2,List.map_cons,List.mem_cons,or_iff_right fun e=>h e.symm]
theorem uS{k:Nat}{c:α}(hc:Do[k]? =some c)(h:Fn c=x):x∈Do.map Fn:=aR.2 ⟨c,aE hc,h⟩
theorem Cx{k:Nat}(R:Do.length<=k)(hE:x∈Do.map Fn↔x∈(Do.drop k).map Fn):x∉Do.map Fn:=fun h=>by
 have:=hE.1 h;rw[List.drop_eq_nil_of_le R]at this
 cases this
end
theorem qt(n:Int)(an ab aq:Option Addr)(ln cn nb cb nq cq:Nat)(w:World):dx PG F'.tW #[.agg #[.slice an ln cn,.slice ab nb cb,.slice aq nq cq],.int .i64 n] w (eH w fun v' _=>∃d,v'= .bool d/\(d=true↔jB ln n)):=by
 have Y:=bR w;refine xB (by simp) ?_;refine dB.mk ?_ ?_<;>intro I
 ·intro GT we re;have I:=aK I;exact⟨_,rfl,Y.tr re.cL,_,rfl,by rw[decide_eq_true_iff];exact⟨fun h=>⟨I,h⟩,fun h=>h.2⟩⟩
 ·intro GT we re;have I:=aH I;exact⟨_,rfl,Y.tr re.cL,_,rfl,(fun h=>by cases h),fun h=>absurd h.1 I⟩
theorem lT(n lo D:Int)(w:World):dx PG F'.wM #[.int .i64 n,.int .i64 lo,.int .i64 D] w (eH w fun v' _=>∃d,v'= .bool d/\(d=true↔lo<=n/\n<=D)):=by
 have Y:=bR w;refine zV (by simp) ?_;refine dB.mk ?_ ?_<;>intro I
 ·intro GT we re;have I:=aK I;exact⟨_,rfl,Y.tr re.cL,_,rfl,by rw[decide_eq_true_iff];exact⟨fun h=>⟨I,h⟩,fun h=>h.2⟩⟩
 ·intro GT we re;have I:=aH I;exact⟨_,rfl,Y.tr re.cL,_,rfl,(fun h=>by cases h),fun h=>absurd h.1 I⟩
theorem zy{q:Rat}(F:Old S w)(hp:eJ w S v q):dx PG F'.ki #[v] w (eH w fun v' _=>v'= .int .i64 (rs q)):=by
 obtain⟨a,b,I,rfl,_,_⟩:=hp.v;exact zz F I
set_option maxHeartbeats 2000000 in
theorem Kw(F:Old S w)(hf:dm w S vn vb vs f):dx PG F'.wJ #[.agg #[vn,vb,vs]] w (eH w fun v' _=>v'= .int .i64 (eN f)):=by
 have Y:=bR w;obtain⟨an,cn,ab,cb,aq,cq,rfl,rfl,rfl,RX,RP,Sk⟩:=hf.shape;refine zS (by simp) ?_;refine dB.mk ?_ ?_<;>intro h0
 ·have h0:=aK h0;exact rtn Y fun GT we re=>by show Value.int .i64 _=_;rw[eN,if_pos (by omega)]
 have h0:=aH h0;refine dB.mk ?_ ?_<;>intro I
 ·have I:=aK I;exact rtn Y fun GT we re=>by show Value.int .i64 _=_;rw[eN,if_pos (by omega)]
 have I:=aH I;refine dB.mk ?_ ?_<;>intro X
 ·have X:=aK X;exact rtn Y fun GT we re=>by show Value.int .i64 _=_;rw[eN,if_pos (by omega)]
 have X:=aH X
 refine⟨Nat×World×Iv,fun z=>⟨[(1,pP 0 0),(3,iN z.1)],[(0,.box T.Frame [.v (.slice an f.nodes.length cn),.v (.slice ab f.bars.length cb),.v (.slice aq f.cM.length cq)])],1,z.2.2,z.2.1⟩,fun z=>f.nodes.length-z.1,
  fun z=>z.1<=f.nodes.length/\dT w.heap.size w z.2.1/\e9 eu [] f.nodes=e9 eu (f.nodes.take z.1) (f.nodes.drop z.1),?_,?_⟩
 ·intro O J K;exact⟨(0,J,_),⟨aS _,Y.tr K.cL,rfl⟩,Sub.gn [] K⟩
 rintro⟨i,w1,iv⟩ ⟨D,Y,hE⟩;dsimp only at D Y hE ⊢;refine dB.mk ?_ ?_<;>intro OQ
 ·have OQ:i<f.nodes.length:=by simpa using OQ
  obtain⟨b,L⟩:∃b,f.nodes[i]? =some b:=⟨_,aB OQ⟩
  have hLl:(f.nodes.take i).length=i:=by rw[aZ];omega
  obtain⟨adb,U,QM,hF,-,Pn⟩:=hf.nodes.load (by decide) L;have hF:U=[.int .i64 b.1,.int .i64 b.2.1,.int .i64 b.2.2]:=hF;subst hF;refine⟨adb,QM,by omega,[.int .i64 b.1,.int .i64 b.2.1,.int .i64 b.2.2],rfl,rdO Pn Y F,?_⟩;refine cB (cE Y (fun _ J v V=>∃d,v= .bool d/\(d=true↔mm b.1)) (fun O J r=>lT _ _ _ J) ?_);rintro O PQ v1 PE OZ r W Y h_ ⟨d0,rfl,Of⟩
  cases d0
  ·have Of:¬mm b.1:=fun h=>by have:=Of.2 h;cases this
   exact rtn Y fun GT we re=>by show Value.int .i64 _=_;rw[eN,aI (by omega),if_pos (by rw[hE,cO L (show eu (f.nodes.take i) b=2 by rw[eu,aI (fun h=>Of h.1)]) (by decide)];decide),hE,cO L (show eu (f.nodes.take i) b=2 by rw[eu,aI (fun h=>Of h.1)]) (by decide)]
  replace Of:=Of.1 rfl;refine cB (cE Y (fun _ J v V=>∃d,v= .bool d/\(d=true↔mm b.2.1)) (fun O J r=>lT _ _ _ J) ?_);rintro O QK v2 PT OU r W Y h_ ⟨d1,rfl,Ol⟩
  cases d1
  ·have Ol:¬mm b.2.1:=fun h=>by have:=Ol.2 h;cases this
   exact rtn Y fun GT we re=>by show Value.int .i64 _=_;rw[eN,aI (by omega),if_pos (by rw[hE,cO L (show eu (f.nodes.take i) b=2 by rw[eu,aI (fun h=>Ol h.2.1)]) (by decide)];decide),hE,cO L (show eu (f.nodes.take i) b=2 by rw[eu,aI (fun h=>Ol h.2.1)]) (by decide)]
  replace Ol:=Ol.1 rfl;refine cB (cE Y (fun _ J v V=>∃d,v= .bool d/\(d=true↔mm b.2.2)) (fun O J r=>lT _ _ _ J) ?_);rintro O PY v3 PX Oi r W Y h_ ⟨d2,rfl,Pg⟩
  cases d2
  ·have Pg:¬mm b.2.2:=fun h=>by have:=Pg.2 h;cases this
   exact rtn Y fun GT we re=>by show Value.int .i64 _=_;rw[eN,aI (by omega),if_pos (by rw[hE,cO L (show eu (f.nodes.take i) b=2 by rw[eu,aI (fun h=>Pg h.2.2)]) (by decide)];decide),hE,cO L (show eu (f.nodes.take i) b=2 by rw[eu,aI (fun h=>Pg h.2.2)]) (by decide)]
  replace Pg:=Pg.1 rfl
  refine⟨Nat×World,fun z=>⟨[(1,pP 0 0),(3,iN i),(4,pP 1 0),(5,iN z.1)],[(1,.box T.Node [.v (.int .i64 b.1),.v (.int .i64 b.2.1),.v (.int .i64 b.2.2)]),(0,.box T.Frame [.v (.slice an f.nodes.length cn),.v (.slice ab f.bars.length cb),.v (.slice aq f.cM.length cq)])],2,Oi,z.2⟩,fun z=>i-z.1,
   fun z=>z.1<=i/\dT w.heap.size w z.2/\(b∈(f.nodes.take i).map id↔b∈((f.nodes.take i).drop z.1).map id),?_,?_⟩
  ·intro O J K;exact⟨(0,J),⟨aS _,Y.tr K.cL,Iff.rfl⟩,Sub.gn [] K⟩
  rintro⟨k,V⟩ ⟨R,Y,hK⟩;dsimp only at R Y hK ⊢;refine dB.mk ?_ ?_<;>intro OT
  ·have OT:k<i:=by have:=aK OT;omega
   obtain⟨c,hc⟩:∃c,f.nodes[k]? =some c:=⟨_,aB (by omega)⟩
   have Sl:(f.nodes.take i)[k]? =some c:=by rw[bO OT];exact hc
   obtain⟨adc,cs2,Wk,SA,-,TJ⟩:=hf.nodes.load (by decide) hc;have SA:cs2=[.int .i64 c.1,.int .i64 c.2.1,.int .i64 c.2.2]:=SA;subst SA;refine cI hτ dN [.x 0,.x 1,.x 2,.x 3,.x 4,.x 5,.x 6] (by kernel_rfl) (by kernel_rfl) ?_;refine⟨adc,Wk,by omega,[.int .i64 c.1,.int .i64 c.2.1,.int .i64 c.2.2],rfl,rdO TJ Y F,decide (c=b),fun O w o1 o2=>Eo c b w o1 o2,?_⟩;refine dB.mk ?_ ?_<;>intro hd
   ·have hd:c=b:=aK hd;have RA:b∈f.nodes.take i:=by have:=uS (Fn:=id) Sl hd;rwa [List.map_id]at this
    exact rtn Y fun GT we re=>by show Value.int .i64 _=_;rw[eN,aI (by omega),if_pos (by rw[hE,cO L (show eu (f.nodes.take i) b=12 by rw[eu,if_pos ⟨Of,Ol,Pg⟩,if_pos RA]) (by decide)];decide),hE,cO L (show eu (f.nodes.take i) b=12 by rw[eu,if_pos ⟨Of,Ol,Pg⟩,if_pos RA]) (by decide)]
   have hd:c≠b:=aH hd;have Rs:=lS (Fn:=id) Sl hd hK;refine⟨((k+1:Nat):Int),wo,?_⟩;intro IR w6 K;exact⟨(k+1,w6),⟨OT,Y.tr K.cL,Rs⟩,Sub.gn [] K,by dsimp only;omega⟩
  have OT:k=i:=by have:=aH OT;omega
  have QS:=Cx (by rw[hLl];omega) hK;rw[List.map_id]at QS;rw[gL L (s9.2 ⟨⟨Of,Ol,Pg⟩,QS⟩)]at hE;refine⟨((i+1:Nat):Int),wo,?_⟩;intro IR w6 K;exact⟨(i+1,w6,_),⟨OQ,Y.tr K.cL,hE⟩,Sub.gn [] K,by dsimp only;omega⟩
 have OQ:i=f.nodes.length:=aU D (by simpa using OQ);rw[ij (by omega)]at hE
 refine⟨Nat×World×Iv,fun z=>⟨[(1,pP 0 0),(6,iN z.1)],[(0,.box T.Frame [.v (.slice an f.nodes.length cn),.v (.slice ab f.bars.length cb),.v (.slice aq f.cM.length cq)])],1,z.2.2,z.2.1⟩,fun z=>f.bars.length-z.1,
  fun z=>z.1<=f.bars.length/\dT w.heap.size w z.2.1/\e9 (fH f.nodes.length) [] f.bars=e9 (fH f.nodes.length) (f.bars.take z.1) (f.bars.drop z.1),?_,?_⟩
 ·intro O J K;exact⟨(0,J,_),⟨aS _,Y.tr K.cL,rfl⟩,Sub.gn [] K⟩
 rintro⟨i,w1,iv⟩ ⟨D,Y,Ov⟩;dsimp only at D Y Ov ⊢;refine dB.mk ?_ ?_<;>intro OQ
 ·have OQ:i<f.bars.length:=by simpa using OQ
  obtain⟨b,L⟩:∃b,f.bars[i]? =some b:=⟨_,aB OQ⟩
  have hLl:(f.bars.take i).length=i:=by rw[aZ];omega
  obtain⟨adb,U,QM,hF,-,Pn⟩:=hf.bars.load (by decide) L;obtain⟨g0,g1,g2,g3,g4,g5,g6,g7,rfl,hF⟩:=hF;refine⟨adb,QM,by omega,[.int .i64 b.1,.int .i64 b.2.1,.bool g0,.slice g1 g2 g3,.bool g4,.slice g5 g6 g7],rfl,rdO Pn Y F,?_⟩;refine cB (cE Y (fun _ J v V=>∃d,v= .bool d/\(d=true↔jB f.nodes.length b.1)) (fun O J r=>qt _ _ _ _ _ _ _ _ _ _ J) ?_);rintro O PQ v1 PE OZ r W Y h_ ⟨d0,rfl,Of⟩
  cases d0
  ·have Of:¬jB f.nodes.length b.1:=fun h=>by have:=Of.2 h;cases this
   exact rtn Y fun GT we re=>by show Value.int .i64 _=_;rw[eN,aI (by omega),aI (by rw[hE];decide),if_pos (by rw[Ov,cO L (show fH f.nodes.length (f.bars.take i) b=6 by rw[fH,aI (fun h=>Of h.1)]) (by decide)];decide),Ov,cO L (show fH f.nodes.length (f.bars.take i) b=6 by rw[fH,aI (fun h=>Of h.1)]) (by decide)]
  replace Of:=Of.1 rfl;refine cB (cE Y (fun _ J v V=>∃d,v= .bool d/\(d=true↔jB f.nodes.length b.2.1)) (fun O J r=>qt _ _ _ _ _ _ _ _ _ _ J) ?_);rintro O QK v2 PT OU r W Y h_ ⟨d1,rfl,Ol⟩
  cases d1
  ·have Ol:¬jB f.nodes.length b.2.1:=fun h=>by have:=Ol.2 h;cases this
   exact rtn Y fun GT we re=>by show Value.int .i64 _=_;rw[eN,aI (by omega),aI (by rw[hE];decide),if_pos (by rw[Ov,cO L (show fH f.nodes.length (f.bars.take i) b=6 by rw[fH,aI (fun h=>Ol h.2)]) (by decide)];decide),Ov,cO L (show fH f.nodes.length (f.bars.take i) b=6 by rw[fH,aI (fun h=>Ol h.2)]) (by decide)]
  replace Ol:=Ol.1 rfl;refine dB.mk ?_ ?_<;>intro PU
  ·have PU:b.1=b.2.1:=by simpa using PU
   exact rtn Y fun GT we re=>by show Value.int .i64 _=_;rw[eN,aI (by omega),aI (by rw[hE];decide),if_pos (by rw[Ov,cO L (show fH f.nodes.length (f.bars.take i) b=3 by rw[fH,if_pos ⟨Of,Ol⟩,if_pos PU]) (by decide)];decide),Ov,cO L (show fH f.nodes.length (f.bars.take i) b=3 by rw[fH,if_pos ⟨Of,Ol⟩,if_pos PU]) (by decide)]
  have PU:b.1≠b.2.1:=by simpa using PU
  refine⟨Nat×World,fun z=>⟨[(1,pP 0 0),(6,iN i),(7,pP 1 0),(8,iN z.1)],[(1,.box T.Nx [.v (.int .i64 b.1),.v (.int .i64 b.2.1),.v (.bool g0),.v (.slice g1 g2 g3),.v (.bool g4),.v (.slice g5 g6 g7)]),(0,.box T.Frame [.v (.slice an f.nodes.length cn),.v (.slice ab f.bars.length cb),.v (.slice aq f.cM.length cq)])],2,OU,z.2⟩,fun z=>i-z.1,
   fun z=>z.1<=i/\dT w.heap.size w z.2/\(gG b∈(f.bars.take i).map gG↔gG b∈((f.bars.take i).drop z.1).map gG),?_,?_⟩
  ·intro O J K;exact⟨(0,J),⟨aS _,Y.tr K.cL,Iff.rfl⟩,Sub.gn [] K⟩
  rintro⟨k,V⟩ ⟨R,Y,hK⟩;dsimp only at R Y hK ⊢;refine dB.mk ?_ ?_<;>intro OT
  ·have OT:k<i:=by have:=aK OT;omega
   obtain⟨c,hc⟩:∃c,f.bars[k]? =some c:=⟨_,aB (by omega)⟩
   have Sl:(f.bars.take i)[k]? =some c:=by rw[bO OT];exact hc
   obtain⟨adc,cs2,Wk,SA,-,TJ⟩:=hf.bars.load (by decide) hc;obtain⟨q0,q1,q2,q3,q4,q5,q6,q7,rfl,-⟩:=SA;refine⟨adc,Wk,by omega,[.int .i64 c.1,.int .i64 c.2.1,.bool q0,.slice q1 q2 q3,.bool q4,.slice q5 q6 q7],rfl,rdO TJ Y F,?_⟩;refine dB.mk ?_ ?_<;>intro e1
   ·have e1:(c.1=b.1):=by simpa using e1
    refine dB.mk ?_ ?_<;>intro e2
    ·have e2:(c.2.1=b.2.1):=by simpa using e2
     have RA:=uS (Fn:=gG) Sl (show gG c=gG b by rw[oU];omega);exact rtn Y fun GT we re=>by show Value.int .i64 _=_;rw[eN,aI (by omega),aI (by rw[hE];decide),if_pos (by rw[Ov,cO L (show fH f.nodes.length (f.bars.take i) b=5 by rw[fH,if_pos ⟨Of,Ol⟩,aI PU,if_pos RA]) (by decide)];decide),Ov,cO L (show fH f.nodes.length (f.bars.take i) b=5 by rw[fH,if_pos ⟨Of,Ol⟩,aI PU,if_pos RA]) (by decide)]
    ·have e2:¬(c.2.1=b.2.1):=by simpa using e2
     refine dB.mk ?_ ?_<;>intro e3
     ·have e3:(c.1=b.2.1):=by simpa using e3
      refine dB.mk ?_ ?_<;>intro e4
      ·have e4:(c.2.1=b.1):=by simpa using e4
       have RA:=uS (Fn:=gG) Sl (show gG c=gG b by rw[oU];omega);exact rtn Y fun GT we re=>by show Value.int .i64 _=_;rw[eN,aI (by omega),aI (by rw[hE];decide),if_pos (by rw[Ov,cO L (show fH f.nodes.length (f.bars.take i) b=5 by rw[fH,if_pos ⟨Of,Ol⟩,aI PU,if_pos RA]) (by decide)];decide),Ov,cO L (show fH f.nodes.length (f.bars.take i) b=5 by rw[fH,if_pos ⟨Of,Ol⟩,aI PU,if_pos RA]) (by decide)]
      ·have e4:¬(c.2.1=b.1):=by simpa using e4
       have Rs:=lS (Fn:=gG) Sl (show gG c≠gG b by rw[Ne,oU];omega) hK;refine⟨((k+1:Nat):Int),wo,?_⟩;intro IR w6 K;exact⟨(k+1,w6),⟨OT,Y.tr K.cL,Rs⟩,Sub.gn [] K,by dsimp only;omega⟩
     ·have e3:¬(c.1=b.2.1):=by simpa using e3
      have Rs:=lS (Fn:=gG) Sl (show gG c≠gG b by rw[Ne,oU];omega) hK;refine⟨((k+1:Nat):Int),wo,?_⟩;intro IR w6 K;exact⟨(k+1,w6),⟨OT,Y.tr K.cL,Rs⟩,Sub.gn [] K,by dsimp only;omega⟩
   ·have e1:¬(c.1=b.1):=by simpa using e1
    refine dB.mk ?_ ?_<;>intro e3
    ·have e3:(c.1=b.2.1):=by simpa using e3
     refine dB.mk ?_ ?_<;>intro e4
     ·have e4:(c.2.1=b.1):=by simpa using e4
      have RA:=uS (Fn:=gG) Sl (show gG c=gG b by rw[oU];omega);exact rtn Y fun GT we re=>by show Value.int .i64 _=_;rw[eN,aI (by omega),aI (by rw[hE];decide),if_pos (by rw[Ov,cO L (show fH f.nodes.length (f.bars.take i) b=5 by rw[fH,if_pos ⟨Of,Ol⟩,aI PU,if_pos RA]) (by decide)];decide),Ov,cO L (show fH f.nodes.length (f.bars.take i) b=5 by rw[fH,if_pos ⟨Of,Ol⟩,aI PU,if_pos RA]) (by decide)]
     ·have e4:¬(c.2.1=b.1):=by simpa using e4
      have Rs:=lS (Fn:=gG) Sl (show gG c≠gG b by rw[Ne,oU];omega) hK;refine⟨((k+1:Nat):Int),wo,?_⟩;intro IR w6 K;exact⟨(k+1,w6),⟨OT,Y.tr K.cL,Rs⟩,Sub.gn [] K,by dsimp only;omega⟩
    ·have e3:¬(c.1=b.2.1):=by simpa using e3
     have Rs:=lS (Fn:=gG) Sl (show gG c≠gG b by rw[Ne,oU];omega) hK;refine⟨((k+1:Nat):Int),wo,?_⟩;intro IR w6 K;exact⟨(k+1,w6),⟨OT,Y.tr K.cL,Rs⟩,Sub.gn [] K,by dsimp only;omega⟩
  have OT:k=i:=by have:=aH OT;omega
  have QS:=Cx (by rw[hLl];omega) hK;refine cB (cE Y (fun _ J v V=>v= .int .i64 (rs b.2.2)) (fun O J r=>(zy (oS F r) (hF.cC (kS Y r F)))) ?_);rintro O PY v3 PX Oi r W Y h_ rfl;obtain⟨cf,WE⟩:∃c,rs b.2.2=c:=⟨_,rfl⟩
  rw[WE];refine dB.mk ?_ ?_<;>intro PN
  ·have PN:b.2.2<=0:=by have:=aK PN;rw[<-Rat.not_lt,<-lN];omega
   exact rtn Y fun GT we re=>by show Value.int .i64 _=_;rw[eN,aI (by omega),aI (by rw[hE];decide),if_pos (by rw[Ov,cO L (show fH f.nodes.length (f.bars.take i) b=2 by rw[fH,if_pos ⟨Of,Ol⟩,aI PU,aI QS,if_pos PN]) (by decide)];decide),Ov,cO L (show fH f.nodes.length (f.bars.take i) b=2 by rw[fH,if_pos ⟨Of,Ol⟩,aI PU,aI QS,if_pos PN]) (by decide)]
  have PN:0<b.2.2:=by have:=aH PN;rw[<-lN];omega
  rw[gL L (qo.2 ⟨⟨Of,Ol⟩,PU,QS,PN⟩)]at Ov;refine⟨((i+1:Nat):Int),wo,?_⟩;intro IR w6 K;exact⟨(i+1,w6,_),⟨OQ,Y.tr K.cL,Ov⟩,Sub.gn [] K,by dsimp only;omega⟩
 have OQ:i=f.bars.length:=aU D (by simpa using OQ);rw[ij (by omega)]at Ov
 refine⟨Nat×World×Iv,fun z=>⟨[(1,pP 0 0),(10,iN z.1)],[(0,.box T.Frame [.v (.slice an f.nodes.length cn),.v (.slice ab f.bars.length cb),.v (.slice aq f.cM.length cq)])],1,z.2.2,z.2.1⟩,fun z=>f.cM.length-z.1,
  fun z=>z.1<=f.cM.length/\dT w.heap.size w z.2.1/\e9 (kL f.nodes.length) [] f.cM=e9 (kL f.nodes.length) (f.cM.take z.1) (f.cM.drop z.1),?_,?_⟩
 ·intro O J K;exact⟨(0,J,_),⟨aS _,Y.tr K.cL,rfl⟩,Sub.gn [] K⟩
 rintro⟨i,w1,iv⟩ ⟨D,Y,WG⟩;dsimp only at D Y WG ⊢;refine dB.mk ?_ ?_<;>intro OQ
 ·have OQ:i<f.cM.length:=by simpa using OQ
  obtain⟨b,L⟩:∃b,f.cM[i]? =some b:=⟨_,aB OQ⟩
  have hLl:(f.cM.take i).length=i:=by rw[aZ];omega
  obtain⟨adb,U,QM,hF,-,Pn⟩:=hf.cM.load (by decide) L;obtain⟨g0,g1,g2,g3,g4,g5,g6,g7,rfl,hF⟩:=hF;refine⟨adb,QM,by omega,[.int .i64 b.1,.int .i64 b.2.1,.bool g0,.slice g1 g2 g3,.bool g4,.slice g5 g6 g7],rfl,rdO Pn Y F,?_⟩;refine cB (cE Y (fun _ J v V=>∃d,v= .bool d/\(d=true↔jB f.nodes.length b.1)) (fun O J r=>qt _ _ _ _ _ _ _ _ _ _ J) ?_);rintro O _ _ _ OZ r W Y h_ ⟨d0,rfl,Of⟩
  cases d0
  ·have Of:¬jB f.nodes.length b.1:=fun h=>by have:=Of.2 h;cases this
   exact rtn Y fun GT we re=>by show Value.int .i64 _=_;rw[eN,aI (by omega),aI (by rw[hE];decide),aI (by rw[Ov];decide),WG,cO L (show kL f.nodes.length (f.cM.take i) b=6 by rw[kL,aI Of]) (by decide)]
  replace Of:=Of.1 rfl;refine cB (cE Y (fun _ J v V=>∃d,v= .bool d/\(d=true↔0<=b.2.1/\b.2.1<=2)) (fun O J r=>lT _ _ _ J) ?_);rintro O _ _ _ OU r W Y h_ ⟨d1,rfl,Pu⟩
  cases d1
  ·have Pu:¬(0<=b.2.1/\b.2.1<=2):=fun h=>by have:=Pu.2 h;cases this
   exact rtn Y fun GT we re=>by show Value.int .i64 _=_;rw[eN,aI (by omega),aI (by rw[hE];decide),aI (by rw[Ov];decide),WG,cO L (show kL f.nodes.length (f.cM.take i) b=2 by rw[kL,if_pos Of,aI Pu]) (by decide)]
  replace Pu:=Pu.1 rfl
  refine⟨Nat×World,fun z=>⟨[(1,pP 0 0),(10,iN i),(11,pP 1 0),(12,iN z.1)],[(1,.box T.CS [.v (.int .i64 b.1),.v (.int .i64 b.2.1),.v (.bool g0),.v (.slice g1 g2 g3),.v (.bool g4),.v (.slice g5 g6 g7)]),(0,.box T.Frame [.v (.slice an f.nodes.length cn),.v (.slice ab f.bars.length cb),.v (.slice aq f.cM.length cq)])],2,OU,z.2⟩,fun z=>i-z.1,
   fun z=>z.1<=i/\dT w.heap.size w z.2/\(iY b∈(f.cM.take i).map iY↔iY b∈((f.cM.take i).drop z.1).map iY),?_,?_⟩
  ·intro O J K;exact⟨(0,J),⟨aS _,Y.tr K.cL,Iff.rfl⟩,Sub.gn [] K⟩
  rintro⟨k,V⟩ ⟨R,Y,hK⟩;dsimp only at R Y hK ⊢;refine dB.mk ?_ ?_<;>intro OT
  ·have OT:k<i:=by have:=aK OT;omega
   obtain⟨c,hc⟩:∃c,f.cM[k]? =some c:=⟨_,aB (by omega)⟩
   have Sl:(f.cM.take i)[k]? =some c:=by rw[bO OT];exact hc
   obtain⟨adc,cs2,Wk,SA,-,TJ⟩:=hf.cM.load (by decide) hc;obtain⟨q0,q1,q2,q3,q4,q5,q6,q7,rfl,-⟩:=SA;refine cI hτ dN [.x 0,.x 1,.x 2,.x 3,.x 4,.x 5,.x 6,.x 7,.x 8,.x 9,.x 10,.x 11,.x 12,.x 13,.x 14,.x 15,.x 16,.x 17,.x 18,.x 19] (by kernel_rfl) (by kernel_rfl) ?_;refine⟨adc,Wk,by omega,.int .i64 c.1,fun O J r=>?_,?_⟩
   ·obtain⟨k1,k2⟩:=TJ 0 _ rfl;rw[cJ (w:=w) (V:=J) (by simp only[c9];exact(Y.tr r.cL).block _ (F _ k1))];simp only[aF,Cu]at k2 ⊢;exact k2
   refine dB.mk ?_ ?_<;>intro e1
   ·have e1:(c.1=b.1):=by simpa using e1
    refine⟨adc,Wk,by omega,.int .i64 c.2.1,fun O J r=>?_,?_⟩
    ·obtain⟨k1,k2⟩:=TJ 1 _ rfl;rw[cJ (w:=w) (V:=J) (by simp only[c9];exact(Y.tr r.cL).block _ (F _ k1))];simp only[aF,Cu]at k2 ⊢;exact k2
    refine dB.mk ?_ ?_<;>intro e2
    ·have e2:(c.2.1=b.2.1):=by simpa using e2
     have RA:=uS (Fn:=iY) Sl (show iY c=iY b by rw[Cw];omega);exact rtn Y fun GT we re=>by show Value.int .i64 _=_;rw[eN,aI (by omega),aI (by rw[hE];decide),aI (by rw[Ov];decide),WG,cO L (show kL f.nodes.length (f.cM.take i) b=5 by rw[kL,if_pos Of,if_pos Pu,if_pos RA]) (by decide)]
    ·have e2:¬(c.2.1=b.2.1):=by simpa using e2
     have Rs:=lS (Fn:=iY) Sl (show iY c≠iY b by rw[Ne,Cw];omega) hK;refine⟨((k+1:Nat):Int),wo,?_⟩;intro IR w6 K;exact⟨(k+1,w6),⟨OT,Y.tr K.cL,Rs⟩,Sub.gn [] K,by dsimp only;omega⟩
   ·have e1:¬(c.1=b.1):=by simpa using e1
    have Rs:=lS (Fn:=iY) Sl (show iY c≠iY b by rw[Ne,Cw];omega) hK;refine⟨((k+1:Nat):Int),wo,?_⟩;intro IR w6 K;exact⟨(k+1,w6),⟨OT,Y.tr K.cL,Rs⟩,Sub.gn [] K,by dsimp only;omega⟩
  have OT:k=i:=by have:=aH OT;omega
  have QS:=Cx (by rw[hLl];omega) hK;refine cB (cE Y (fun _ J v V=>v= .int .i64 (rs b.2.2)) (fun O J r=>(zy (oS F r) (hF.cC (kS Y r F)))) ?_);rintro O _ _ _ Oi r W Y h_ rfl;obtain⟨cf,WE⟩:∃c,rs b.2.2=c:=⟨_,rfl⟩
  rw[WE];refine dB.mk ?_ ?_<;>intro PN
  ·have PN:b.2.2<0:=by have:=aK PN;rw[<-lQ];omega
   exact rtn Y fun GT we re=>by show Value.int .i64 _=_;rw[eN,aI (by omega),aI (by rw[hE];decide),aI (by rw[Ov];decide),WG,cO L (show kL f.nodes.length (f.cM.take i) b=2 by rw[kL,if_pos Of,if_pos Pu,aI QS,if_pos PN]) (by decide)]
  have PN:0<=b.2.2:=by have:=aH PN;rw[<-Rat.not_lt,<-lQ];omega
  rw[gL L (qn.2 ⟨Of,Pu,QS,PN⟩)]at WG;refine⟨((i+1:Nat):Int),wo,?_⟩;intro IR w6 K;exact⟨(i+1,w6,_),⟨OQ,Y.tr K.cL,WG⟩,Sub.gn [] K,by dsimp only;omega⟩
 have OQ:i=f.cM.length:=aU D (by simpa using OQ);rw[ij (by omega)]at WG;exact rtn Y fun GT we re=>by show Value.int .i64 _=_;rw[eN,aI (by omega),aI (by rw[hE];decide),aI (by rw[Ov];decide),WG]
def rq(p:Int×Int):Rat:=ratio p.1 p.2
structure GX where
 nodes:List (Int×Int×Int)
 bars:List (Int×Int×(Int×Int))
 cM:List (Int×Int×(Int×Int))
def Et(p:Int×Int×(Int×Int)):Int×Int×Rat:=(p.1,p.2.1,rq p.2.2)
def GX.val(f:GX):ed:=⟨f.nodes,f.bars.map Et,f.cM.map Et⟩
def uT(w:World)(S:Nat->Prop)(U:List Value)(p:Int×Int×(Int×Int)):Prop:=∃b a n c b2 a2 n2 c2,U=[.int .i64 p.1,.int .i64 p.2.1,.bool b,.slice a n c,.bool b2,.slice a2 n2 c2]/\iD w S (.agg #[.bool b,.slice a n c,.bool b2,.slice a2 n2 c2]) p.2.2.1 p.2.2.2
structure qL(w:World)(S:Nat->Prop)(vn vb vs:Value)(f:GX):Prop where
 nodes:mg w S vn f.nodes
 bars:eY 6 uT w S vb f.bars
 cM:eY 6 uT w S vs f.cM
theorem uT.cC{V:World}(h:uT w S U p)(R:∀g,S g->V.heap[g]? =w.heap[g]?):uT V S U p:=by
 obtain⟨b,a,n,c,b2,a2,n2,c2,I,X⟩:=h;exact⟨b,a,n,c,b2,a2,n2,c2,I,X.cC R⟩
theorem qL.cC{V:World}{f:GX}(h:qL w S vn vb vs f)(R:∀g,S g->V.heap[g]? =w.heap[g]?):qL V S vn vb vs f:=
 ⟨eY.cC (w:=w) (fun _ _ h=>h) h.nodes R,eY.cC (fun _ _ h=>h.cC R) h.bars R,eY.cC (fun _ _ h=>h.cC R) h.cM R⟩
theorem uT.few(h:uT w S U p)(hf:Es (U.drop 2)):Cq w S U (Et p)/\rl (Et p).2.2<=3:=by
 obtain⟨b,a,n,c,b2,a2,n2,c2,rfl,X⟩:=h;obtain⟨N,h4⟩:=X.l3 hf;exact⟨⟨b,a,n,c,b2,a2,n2,c2,rfl,N⟩,h4⟩
theorem eY.cells{α:Type}{k:Nat}{P:World->(Nat->Prop)->List Value->α->Prop}{xs:List α}(h:eY k P w S v xs):
  ∃A:List (List Value),A.length=xs.length/\eY k (fun w S U (y:List Value×α)=>U=y.1/\P w S U y.2) w S v (A.zip xs)/\(∀(j:Nat) U x,A[j]? =some U->xs[j]? =some x->P w S U x)/\
   ∀{β:Type} (Q:World->(Nat->Prop)->List Value->β->Prop) (ys:List β),ys.length=xs.length->(∀(j:Nat) U y,A[j]? =some U->ys[j]? =some y->Q w S U y)->eY k Q w S v ys:=by
 obtain⟨A,I,X,N,h4⟩:=h;have hz:(A.zip xs).length=xs.length:=by rw[List.length_zip,X,Nat.min_self]
 refine⟨A,X,⟨A,by rw[hz];exact I,by rw[hz,X],N,fun j U y k1 k2=>?_⟩,h4,fun Q ys hl hQ=>⟨A,by rw[hl];exact I,by rw[hl,X],N,hQ⟩⟩;rw[List.getElem?_zip_eq_some]at k2;rw[k1]at k2;exact⟨by injection k2.1,h4 j U _ k1 k2.2⟩
theorem Mr.of(h4:∀(j:Nat) U x,A[j]? =some U->xs[j]? =some x->uT w S U x)
  (hQ:∀{β:Type} (Q:World->(Nat->Prop)->List Value->β->Prop) (ys:List β),ys.length=xs.length->(∀(j:Nat) U y,A[j]? =some U->ys[j]? =some y->Q w S U y)->eY 6 Q w S v ys)
  (hl:A.length=xs.length) (hf:∀j U,j<xs.length->A[j]? =some U->Es (U.drop 2)):Ks w S v (xs.map Et)/\∀b∈xs.map Et,rl b.2.2<=3:=by
 refine⟨hQ Cq _ (aL ..) fun j U y k1 k2=>?_,fun b hb=>?_⟩
 ·rw[aM]at k2;obtain⟨p,hp,rfl⟩:=Option.map_eq_some_iff.1 k2;exact((h4 j U p k1 hp).few (hf j U (aD.1 hp).1 k1)).1
 ·obtain⟨p,hp,rfl⟩:=aR.1 hb;obtain⟨j,hj⟩:=aQ hp;have Sr:=(aD.1 hj).1;have hc:A[j]? =some A[j]:=aB (by omega);exact((h4 j _ p hc hj).few (hf j _ Sr hc)).2
section
variable{xs:List Rat}{l:List (Rat×Rat)}{i:Nat}{x:Rat}{r:Rat×Rat}
end
theorem Cy{n cx:Nat}(hf:dm w S vn vb vs f)(h60:f.bars.length<=60/\f.cM.length<=60):dx PG F'.mD #[.agg #[vn,vb,vs],.slice ax n cx] w (eH w fun v' _=>v'= .int .i64 (if n≠f.cols then 11 else 0)):=by
 have Y:=bR w;obtain⟨an,cn,ab,cb,aq,cq,rfl,rfl,rfl,RX,RP,Sk⟩:=hf.shape;unfold maxLen at RP Sk;refine pn (by simp) ?_;refine⟨((f.bars.length+f.cM.length:Nat):Int),wo,?_⟩;refine dB.mk ?_ ?_<;>intro hd
 ·have hd:n≠f.cols:=by intro h;rw[h]at hd;simp[ed.cols]at hd
  exact rtn Y fun GT we re=>by show Value.int .i64 _=_;rw[if_pos hd]
 have hd:=(show (n:Int)=((f.bars.length+f.cM.length:Nat):Int)from(by simpa using hd))
 replace hd:n=f.cols:=by unfold ed.cols;omega
 exact rtn Y fun GT we re=>by show Value.int .i64 _=_;rw[aI (by simpa using hd)]
theorem Eu(hf:dm w S vn vb vs f)(h60:f.bars.length<=60/\f.cM.length<=60):dx PG F'.pU #[.agg #[vn,vb,vs]] w (eH w fun v' _=>v'= .int .i64 f.cols):=by
 have Y:=bR w;obtain⟨an,cn,ab,cb,aq,cq,rfl,rfl,rfl,RX,RP,Sk⟩:=hf.shape;refine tp (by simp) ?_;refine⟨((f.bars.length+f.cM.length:Nat):Int),wo,?_⟩;exact rtn Y fun GT we re=>rfl
section
variable{S:Nat->Prop}{w w1 J:World}{H:Hp}{nx:Nat}{iv:Iv}{O:Nat->Sx.dL}
end
end Go.Ex
namespace Go.Ex
end Go.Ex
namespace Go.Ex
open Go Go.Sx Go.Proofs
theorem Ir{n:Nat}(h:n<9223372036854775807):ln n<=2:=by have:=uU (n:=(n:Int)) (by omega) (by omega);rwa [Int.natAbs_natCast]at this
structure aA7{α:Type}(k:Nat)(P:World->(Nat->Prop)->List Value->α->Prop)(w:World)(S:Nat->Prop)(A:List (List Value))(qs:List α):Prop where
 len:A.length=qs.length
 wid:∀U∈A,U.length=k
 at_:∀(j:Nat) U q,A[j]? =some U->qs[j]? =some q->P w S U q
section
variable{α:Type}{k:Nat}{P:World->(Nat->Prop)->List Value->α->Prop}{w V:World}{S S':Nat->Prop}{A:List (List Value)}{qs:List α}
end
theorem HX{n:Int}(h:n.natAbs<9223372036854775807):rl (n:Rat)<=2:=by
 have X:ln n.natAbs<=2:=Ir h;unfold rl;rw[Rat.num_intCast,Rat.den_intCast];have N:ln 1=1:=by decide
 omega
section
variable{S S':Nat->Prop}{H:Hp}{nx:Nat}{iv E:Iv}{B:Nat}{w J V:World}{O:Nat->Sx.dL}{v:Value}{l:List (Rat×Rat)}
end
end Go.Ex
namespace Go.Ex
abbrev I3:=Int×Int×Int
def Lt(p:I3):Prop:=mm p.1/\mm p.2.1/\mm p.2.2
instance (p : I3) : Decidable (Lt p) := by unfold Lt; infer_instance
end Go.Ex
namespace Go.Ex
open Go Go.Sx Go.Proofs
end Go.Ex
namespace Go.Sx
open Go Go.Ex Go.Proofs
variable{vs:List Value}{O:Nat->Sx.dL}
theorem Sub.aAZ{B nx:Nat}{l:Env}{H:Hp}{iv:Iv}{w J:World}{t:vt}(id:Nat){bt:Nat}(Oy:cV H id=some (.box bt (vs.map At.v)))(r:Rel H nx iv B w O J)
  (h:Rel ((id,.arr bt vs)::H) nx iv B w O J->Sx.Sub B l nx O J t):Sx.Sub B l nx O J t:=by
 have Tw:=r.nn id _ Oy (by intros;simp) (by simp);have Oz:=r.box id bt _ Oy;have SO:(vs.map At.v).map (At.den O)=vs:=by
  rw[List.map_map];exact List.map_id _
 rw[SO]at Oz
 exact h (r.store (b':=.arr bt vs) (H':=(id,.arr bt vs)::H) (V:=J) Oy (by simp) Tw (fun j=>by
  rw[cU];by_cases hj:id=j
  ·subst hj;simp
  ·rw[aI hj,aI (fun h=>hj h.symm)]) rfl rfl rfl rfl (fun _ _=>rfl) ⟨Tw,Oz⟩ trivial)
end Go.Sx
namespace Go.Ex
open Go Go.Sx Go.Proofs
abbrev aAG(x:Ld):Value:=.agg #[.int .i64 x.1,.int .i64 x.2.1,.int .i64 x.2.2.1,.int .i64 x.2.2.2]
end Go.Ex
namespace Go.Ex
open Go Go.Sx Go.Proofs
variable{S:Nat->Prop}
theorem Is(x:Ld)(w:World):dx PG F'.tX #[aAG x] w (eH w fun v' _=>∃d,v'= .bool d/\(d=true↔Lt x.2)):=by
 have Y:=bR w;obtain⟨x0,x1,x2,x3⟩:=x;refine xC (by simp) ?_;refine cB (cE Y (fun _ J v V=>∃d,v= .bool d/\(d=true↔ -1000000<=x1/\x1<=1000000)) (fun O J r=>lT _ _ _ J) ?_);rintro O _ _ _ OZ r W Y h_ ⟨d0,rfl,Of⟩
 cases d0
 ·have Of:¬mm x1:=fun h=>by have:=Of.2 h;cases this
  exact rtn Y fun GT we re=>⟨_,rfl,(fun h=>by cases h),fun h=>absurd h.1 Of⟩
 replace Of:mm x1:=Of.1 rfl;refine cB (cE Y (fun _ J v V=>∃d,v= .bool d/\(d=true↔ -1000000<=x2/\x2<=1000000)) (fun O J r=>lT _ _ _ J) ?_);rintro O _ _ _ OU r W Y h_ ⟨d1,rfl,Ol⟩
 cases d1
 ·have Ol:¬mm x2:=fun h=>by have:=Ol.2 h;cases this
  exact rtn Y fun GT we re=>⟨_,rfl,(fun h=>by cases h),fun h=>absurd h.2.1 Ol⟩
 replace Ol:mm x2:=Ol.1 rfl;refine cB (cE Y (fun _ J v V=>∃d,v= .bool d/\(d=true↔ -1000000<=x3/\x3<=1000000)) (fun O J r=>lT _ _ _ J) ?_);rintro O _ _ _ Oi r W Y h_ ⟨d2,rfl,Pg⟩
 cases d2
 ·have Pg:¬mm x3:=fun h=>by have:=Pg.2 h;cases this
  exact rtn Y fun GT we re=>⟨_,rfl,(fun h=>by cases h),fun h=>absurd h.2.2 Pg⟩
 replace Pg:mm x3:=Pg.1 rfl;exact rtn Y fun GT we re=>⟨_,rfl,fun _=>⟨Of,Ol,Pg⟩,fun _=>rfl⟩
theorem jS.aA0{w:World}:jS w S (.slice none 0 0) []:=⟨[],⟨aS _,rfl,by simp,none,0,rfl,Nat.le_refl _,fun j u h=>by cases h⟩,rfl,by simp,fun j U x h=>by cases h⟩
section
variable{S S':Nat->Prop}{H:Hp}{nx:Nat}{iv E:Iv}{B:Nat}{w J V:World}{O:Nat->Sx.dL}{v:Value}{l:List Ld}
end
end Go.Ex
