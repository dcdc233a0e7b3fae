/- Texts X141 to X166: lemmas, each with its conditions. -/
import Derived.Test.YtgkpbdkechfgmaaGreatP12
namespace Go.Ex
open Go Go.Sx Go.Proofs
variable{z:Int}{p:Int×Int×Int}{b:Int×Int×Rat}{x:Ld}{xs:List (Int×Int×Int)}{seen:List (Int×Int×Rat)}{css:List (List Value)}{s:List Int}{l:List Ld}{qs:List Rat}{cs:List Value}{j n:Nat}{S:Nat->Prop}{a an:Option Addr}{q:Rat}{v vb vl vn vs:Value}{w:World}{f:ed}
theorem Ba(h1: -2000000000<=z)(h2:z<=2000000000):rl (z:Rat)<=1:=by
 have e1:((z:Rat)).num=z:=rfl;have e2:((z:Rat)).den=1:=rfl;rw[rl,e1,e2];have a1:ln z.natAbs<=1:=gD.2 (by rw[uq];omega);have a2:ln 1<=1:=by decide
 omega
set_option maxHeartbeats 1000000 in
theorem GR(hS:Old S w)(hf:dm w S vn vb vs f)(OV:wY f):
  dx PG N.o8 #[.agg #[vn,vb,vs]] w (eH w fun v' w2=>(∃vr,v'= .agg #[vr,.int .i64 f.cols]∧cT w2 (Nf w w2) vr (cY f))∧gh f.cols (cY f)∧Ht (cY f) 2):=by
 have hw:=bR w;obtain⟨an,cn,ab,cb,aq,cq,rfl,rfl,rfl,RV,RN,Sg⟩:=hf.shape;obtain⟨hn20,hb60,hs60⟩:=And.intro OV.n (And.intro OV.b OV.s);have Q1:f.cols=f.bars.length+f.cM.length:=rfl;refine sT (by simp) ?_;refine⟨((f.cols:Nat):Int),by rw[wrap64]<;>first|rfl|omega,?_⟩;refine cB (cI (Φ:=fun _ w' v w2=>Ko w2 (Nf w' w2) v (jF f)∧MT (jF f) 800000000∧(∀l∈jF f,l.length=f.cols)∧(jF f).length=3*f.nodes.length) (fun O w' r=>Im (S:=S) (oS hS r) (hf.cC (kS hw r hS)) OV) ?_);rintro O PV v1 PL r he Oa ⟨k1,Pe,hwid,Qo⟩;replace hw:=hw.tr Oa;have hM:=Ko.cF k1 fun g hg=>hg.dD (B:=w.heap.size) (S:=FF) r.bz (iv:=(PV.heap.size,PL.heap.size)::[]) aG;generalize (PV.heap.size,PL.heap.size)::[]=OZ at*
 obtain⟨am,cm,rfl,S1,Rc⟩:=dG.shape hM;unfold maxLen at Rc
 refine⟨Nat×List Value×World×Iv,fun z=>⟨[(20,iN z.1),(2,pP 1 0),(3,pP 2 0),(18,.o (.v (.slice am (jF f).length cm))),(19,.o (.v (.int .i64 (jF f).length)))],[(2,.box T.di [.w 3 z.2.1.length,.v (.int .i64 ((f.cols:Nat):Int))]),(3,.vec T.jC 1 z.2.1),(1,.box T.di [.v (.slice none 0 0),.v (.int .i64 0)])],4,z.2.2.2,z.2.2.1⟩,fun z=>(jF f).length-z.1,
  fun z=>z.1<=(jF f).length∧dT w.heap.size w z.2.2.1∧Ko z.2.2.1 (Cf w z.2.2.2) (.slice am (jF f).length cm) (jF f)∧du z.2.2.1 (Cf w z.2.2.2) z.2.1 ((cY f).take z.1),?_,?_⟩
 ·intro O w' r;exact⟨(0,[],w',_),⟨aS _,hw.tr r.cL,hM.cC fun g hg=>Rel.same r (bw w) hg,by simp[du]⟩,Sub.Ee 2 0 T.jC 1 rfl rfl (by simp[l6,SV.sc,At.sc,iW]) r fun ρ1 r1=>Sub.gn [] r1⟩
 rintro⟨k,rv,w1,iv⟩ ⟨hk,hw,hM,hK⟩;dsimp only at hk hw hM hK ⊢;have Pk:rv.length=k:=by rw[hK.1,aZ,cY,aL];omega
 refine dB.mk ?_ ?_<;>intro OT
 ·have OT:k<(jF f).length:=by simpa using OT
  obtain⟨l,hl⟩:∃l,(jF f)[k]? =some l:=⟨_,aB OT⟩
  have hlw:=hwid l (aE hl);have Oh:(cY f).take (k+1)=(cY f).take k++[ew l]:=by rw[List.take_add_one,show(cY f)[k]? =some (ew l) by rw[cY,aM,hl];rfl];rfl
  obtain⟨adm,um,Un,WY,km1,km2⟩:=dG.load hM hl;obtain⟨a0,c0,rfl,hc0,-⟩:=DS.shape WY;refine⟨adm,Un,by omega,.slice a0 l.length c0,fun O w' r=>?_,?_⟩
  ·rw[aF,cJ (w:=w1) (w2:=w') (by rw[c9];exact Rel.same r (bw w) km1)];exact km2
  refine⟨l.length,l.length,rfl,rfl,Nat.le_refl _,by omega,by omega,Nat×Nat×World×Iv,fun z=>⟨[(6,.o (.v (.slice (some ⟨z.2.1,0,none⟩) l.length l.length))),(5,sV a0 l.length c0),(27,sV a0 l.length c0),(28,iZ l.length),(29,iN z.1),(20,iN k),(2,pP 1 0),(3,pP 2 0),(18,.o (.v (.slice am (jF f).length cm))),(19,.o (.v (.int .i64 (jF f).length)))],[(2,.box T.di [.w 3 rv.length,.v (.int .i64 ((f.cols:Nat):Int))]),(3,.vec T.jC 1 rv),(1,.box T.di [.v (.slice none 0 0),.v (.int .i64 0)])],5,z.2.2.2,z.2.2.1⟩,fun z=>l.length-z.1,
   fun z=>z.1<=l.length∧dT w.heap.size w z.2.2.1∧Ko z.2.2.1 (Bs FF w.heap.size z.2.2.2 (.slice (some ⟨z.2.1,0,none⟩) l.length l.length)) (.slice am (jF f).length cm) (jF f)∧DS z.2.2.1 (Bs FF w.heap.size z.2.2.2 (.slice (some ⟨z.2.1,0,none⟩) l.length l.length)) (.slice a0 l.length c0) l∧du z.2.2.1 (Bs FF w.heap.size z.2.2.2 (.slice (some ⟨z.2.1,0,none⟩) l.length l.length)) rv ((cY f).take k)∧jJ z.2.2.1 FF w.heap.size z.2.2.2 (.slice (some ⟨z.2.1,0,none⟩) l.length l.length) l.length z.1 (ew l),?_,?_⟩
  ·intro O w' r;have hf:=jJ.rK (S:=FF) (n:=l.length) r (id:=4) rfl (by unfold maxLen;omega) (ew l);have hbs:∀g,Cf w iv g->Bs FF w.heap.size (((O 4).g,(O 4).g+1)::iv) (.slice (some ⟨(O 4).g,0,none⟩) l.length l.length) g:=fun g hg=>⟨hg.mono fun p hp=>aC _ hp,fun e=>Rel.not r (bw w) hg 4 _ rfl (r.fits (id:=4) rfl).1 (by injection e)⟩
   exact⟨(0,(O 4).g,w',((O 4).g,(O 4).g+1)::iv),⟨aS _,hw.tr r.cL,(hM.cC fun g hg=>Rel.same r (bw w) hg).cF hbs,(WY.cC fun g hg=>Rel.same r (bw w) hg).cF hbs,du.cF (hK.rel r (bw w)) hbs,hf⟩,
    Sub.rK r (id:=4) (t:=6) rfl rfl ⟨rfl,rfl,rfl,trivial⟩ rfl ⟨rfl,rfl,rfl,rfl,rfl,rfl,rfl,rfl,rfl,trivial⟩ (by simp[l6,SV.sc,At.sc])⟩
  rintro⟨i,gx,w2,iv⟩ ⟨hi,hw,hM,WY,hK,hX⟩;dsimp only at hi hw hM WY hK hX ⊢;refine dB.mk ?_ ?_<;>intro OQ
  ·have OQ:i<l.length:=by simpa using OQ
   obtain⟨z,hz⟩:∃z,l[i]? =some z:=⟨_,aB OQ⟩
   have WX:=Pe l (aE hl) z (aE hz);obtain⟨adz,haz,kz1,kz2⟩:=WY.at hz;refine⟨adz,haz,by omega,.int .i64 z,fun O w' r=>?_,?_⟩
   ·rw[aF,cJ (w:=w2) (w2:=w') (by rw[c9];exact Rel.same r (bw w) kz1.1)];exact kz2
   refine cB (cI (Φ:=fun _ w' v w2=>cN w2 (Nf w' w2) v (z:Rat)) (fun O w' r=>kL z w' (by omega) (by omega)) ?_);rintro O PX v3 PW r he Oa Qf;replace hw:=hw.tr Oa;have hbs:∀g,Bs FF w.heap.size iv (.slice (some ⟨gx,0,none⟩) l.length l.length) g->Bs FF w.heap.size ((PX.heap.size,PW.heap.size)::iv) (.slice (some ⟨gx,0,none⟩) l.length l.length) g:=fun g hg=>Bs.mono (fun x hx=>aC _ hx) hg;have hbk:∀g,Bs FF w.heap.size iv (.slice (some ⟨gx,0,none⟩) l.length l.length) g->PW.heap[g]? =w2.heap[g]? :=fun g hg=>(he.block g (Rel.old r (bw w) g hg.1)).trans (Bs.same r (bw w) g hg);replace hM:=(hM.cC hbk).cF hbs;replace WY:=(WY.cC hbk).cF hbs;replace hK:=du.cF (du.cC hK hbk) hbs;have hd:=Qf.cF (S':=Bs FF w.heap.size ((PX.heap.size,PW.heap.size)::iv) (.slice (some ⟨gx,0,none⟩) l.length l.length)) fun g hg=>hg.elim (fun h=>h.elim) fun h=>⟨.inr ⟨by have:=r.bz;omega,_,_,aG,h.1,h.2⟩,fun e=>by have:=Rel.old r (bw w) g (hX.new g e);omega⟩
   replace hX:=hX.cD (iv':=(PX.heap.size,PW.heap.size)::iv) r (bw w) he fun x hx=>aC _ hx;generalize (PX.heap.size,PW.heap.size)::iv=Oi at*
   obtain⟨A0,A1,A2,A3,A4,A5,A6,A7,rfl⟩:=hd.shape;refine⟨⟨gx,0,none⟩,rfl,by omega,?_⟩;intro O w' r;obtain⟨g,hg,h1,h2,h3,h4⟩:=hX.store (j:=i) OQ (by rw[ew,aM,hz];rfl) hd r (bw w);injection hg with hg;injection hg with hg;subst hg;refine⟨h1,h2,h3,fun w5 Rp=>?_⟩;obtain⟨k1,k2,k3,k4⟩:=h4 w5 Rp;have PO:=(hw.tr r.cL).tr k3;have RL:=Bs.kept (v:=(.slice (some ⟨gx,0,none⟩) l.length l.length)) r (bw w) k2 fun g e=>e;have Py:=hM.cC RL;have hLm2:=WY.cC RL;have Rq:=du.cC hK RL;refine⟨((i+1:Nat):Int),wo,?_⟩;intro ρ3 w6 r3;exact⟨(i+1,gx,w6,_),⟨OQ,PO.tr r3.cL,Py.cC (Bs.same r3 (bw w)),hLm2.cC (Bs.same r3 (bw w)),du.cC Rq (Bs.same r3 (bw w)),k1.rel r3 (bw w)⟩,Sub.gn [] r3,by dsimp only;omega⟩
  have OQ:i=l.length:=aU hi (by simpa using OQ);rw[OQ]at hX;have hX2:=(hX.done (by simp[ew])).c;replace hK:=(du.cF hK fun g hg=>hg.1).push (u:=(.slice (some ⟨gx,0,none⟩) l.length l.length)) (x:=ew l) rfl (by rw[show l.length=(ew l).length by simp[ew]]at hX2 ⊢;exact hX2);rw[<-Oh]at hK;replace hM:=hM.cF fun g hg=>hg.1;refine .inl ?_;refine⟨by simp,by omega,by unfold maxLen;omega,((k+1:Nat):Int),wo,?_⟩;intro ρ3 w3 r3;exact⟨(k+1,rv++[(.slice (some ⟨gx,0,none⟩) l.length l.length)],w3,_),⟨OT,hw.tr r3.cL,hM.cC fun g hg=>Rel.same r3 (bw w) hg,hK.rel r3 (bw w)⟩,Sub.gn [(3,6)] r3 ⟨by dsimp only;rw[List.length_append,List.length_singleton];rfl,rfl,rfl,trivial⟩,by dsimp only;omega⟩
 have OT:k=(jF f).length:=aU hk (by simpa using OT);rw[List.take_of_length_le (by rw[cY,aL];omega)]at hK;intro ρe we re;refine⟨_,rfl,hw.tr re.cL,⟨_,rfl,rv,?_,hK.1,fun i u x k1 k2=>cS.cF (cS.rel (hK.2.2 i u x k1 k2) re (bw w)) fun g hg=>Cv.nw hg re⟩,fun x hx=>?_,fun x hx q hq=>?_⟩
 ·rw[<-hK.1];exact(re.kR (id:=3) (sz:=1) (m:=rv.length) rfl (by simp) (by unfold maxLen;omega) (by decide) hK.2.1).cF fun g hg=>.inr hg
 ·obtain⟨l,hl,rfl⟩:=aR.1 hx;rw[ew,aL];exact hwid l hl
 ·obtain⟨l,hl,rfl⟩:=aR.1 hx;obtain⟨z,hz,rfl⟩:=aR.1 hq;have:=Pe l hl z hz;have:=Ba (z:=z) (by omega) (by omega);omega
def Ni(x:Ld):List Int:=[x.2.1,x.2.2.1,x.2.2.2]
def iM(s:List Int)(x:Ld):Nat->List Int
 |0=>s
 |k+1=>HE (iM s x k) (3*x.1+k).toNat ((Ni x).getD k 0)
def iC(n:Nat)(l:List Ld):Nat->List Int
 |0=>List.replicate (3*n) 0
 |i+1=>iM (iC n l i) (l.getD i (0,0,0,0)) 3
def mi(f:ed)(l:List Ld):List Rat:=ew (iC f.nodes.length l l.length)
structure Em(n:Nat)(l:List Ld):Prop where
 len:l.length<=200
 ld:∀x∈l,(0<=x.1∧x.1<n)∧(-1000000<=x.2.1∧x.2.1<=1000000)∧(-1000000<=x.2.2.1∧x.2.2.1<=1000000)∧(-1000000<=x.2.2.2∧x.2.2.2<=1000000)
theorem s8(s:List Int)(x:Ld):∀k,(iM s x k).length=s.length
 |0=>rfl
 |k+1=>by rw[iM,HE,bX];exact s8 s x k
theorem oR(n:Nat)(l:List Ld):∀i,(iC n l i).length=3*n
 |0=>bN ..
 |i+1=>by rw[iC,s8];exact oR n l i
theorem En{k:Nat}{d:Int}(e:3*x.1+(k:Int)=j)(hd:(Ni x).getD k 0=d)(hz:(iM s x k)[j]? =some z):(iM s x k).set j (z+d)=iM s x (k+1):=by
 rw[iM,HE,hd,e,aF,show(iM s x k).getD j 0=z by rw[List.getD,hz];rfl]
def MU(s:List Int)(t:Int):Prop:=∀z∈s,-t<=z∧z<=t
theorem MU.set{t t2:Int}(h:MU s t)(ht:t<=t2)(hz: -t2<=z∧z<=t2):MU (s.set j z) t2:=fun y hy=>by
 rcases a9 hy with hy|rfl
 ·have:=h y hy;omega
 ·exact hz
def zv(l:List Int):List Value:=l.map fun z=>.int .i64 z
theorem Cr(l:List Int):(zv l).length=l.length:=aL ..
theorem Ha{l:List Int}(h:l[j]? =some z):(zv l)[j]? =some (.int .i64 z):=by rw[zv,aM,h];rfl
theorem GS{l:List Int}(h:j<l.length):(zv l).take j++[.int .i64 z]++(zv l).drop (j+1)=zv (l.set j z):=by
 rw[zv,zv,List.map_set];exact ju (by rw[aL];exact h)
theorem uN(f:ed):(dI f).length=f.cols:=by simp[dI,ed.cols]
theorem dM.Mq(h:css.length=qs.length∧∀(j:Nat) cs q,css[j]? =some cs->qs[j]? =some q->k6 w S cs q)(hc:k6 w S cs q):
  (css++[cs]).length=(qs++[q]).length∧∀(j:Nat) c p,(css++[cs])[j]? =some c->(qs++[q])[j]? =some p->k6 w S c p:=by
 refine⟨by simp[h.1],fun j x p h1 h2=>?_⟩;rcases aP j css.length with hi|hi
 ·rw[aJ hi]at h1;rw[aJ (by rw[<-h.1];exact hi)]at h2;exact h.2 j x p h1 h2
 ·have RX:j=css.length:=by have:=(aD.1 h1).1;simp at this;omega
  subst RX;rw[aN (Nat.le_refl _),bB]at h1;rw[h.1,aN (Nat.le_refl _),bB]at h2;simp at h1 h2;subst h1 h2;exact hc
set_option maxHeartbeats 1000000 in
theorem Io{cn:Nat}(hS:Old S w)(hl:jS w S vl l)(hn20:f.nodes.length<=20)(OV:Em f.nodes.length l)
  {ab aq:Option Addr} {nb cb nq cq:Nat} (hvb:vb= .slice ab nb cb) (Qw:vs= .slice aq nq cq):
  dx PG N.pZ #[.agg #[.slice an f.nodes.length cn,vb,vs],vl] w (eH w fun v' w2=>eE w2 FF w.heap.size [(w.heap.size,w2.heap.size)] v' (3*f.nodes.length) (mi f l)∧∀q∈mi f l,rl q<=1):=by
 subst hvb Qw;have hw:=bR w;obtain⟨al,cl,rfl,PY,Qo⟩:=hl.shape;have hl200:=OV.len;refine tw (by simp) ?_;refine⟨((3*f.nodes.length:Nat):Int),wo,?_⟩;obtain⟨m,hm⟩:∃m,3*f.nodes.length=m:=⟨_,rfl⟩
 rw[hm]
 refine⟨m,m,rfl,rfl,Nat.le_refl _,by omega,by omega,Nat×World,fun z=>⟨[(5,.o (.s 1 0 m m)),(18,sV al l.length cl),(19,iZ l.length),(20,iN z.1)],[(1,.arr T.int (zv (iC f.nodes.length l z.1)))],2,[],z.2⟩,fun z=>l.length-z.1,
  fun z=>z.1<=l.length∧dT w.heap.size w z.2∧MU (iC f.nodes.length l z.1) (3000000*z.1),?_,?_⟩
 ·intro O w' r3;exact⟨(0,w'),⟨aS _,hw.tr r3.cL,fun z hz=>by rw[iC]at hz;rw[b9 hz];exact⟨Int.le_refl _,Int.le_refl _⟩⟩,Sub.gn [] r3 ⟨by dsimp only;rw[iC,hm,zv,List.map_replicate];rfl,trivial⟩⟩
 rintro⟨i,w1⟩ ⟨hi,hw,Pe⟩;dsimp only at hi hw Pe ⊢;refine dB.mk ?_ ?_<;>intro OQ
 ·have OQ:i<l.length:=by simpa using OQ
  obtain⟨x,hx⟩:∃x,l[i]? =some x:=⟨_,aB OQ⟩
  obtain⟨hn,Rn,RZ,hx3⟩:=OV.ld x (aE hx);obtain⟨kn,UN⟩:=Int.eq_ofNat_of_zero_le hn.1;obtain⟨adx,cs,Pu,hP,-,Pt⟩:=hl.load (by decide) hx;have hP:cs=[.int .i64 x.1,.int .i64 x.2.1,.int .i64 x.2.2.1,.int .i64 x.2.2.2]:=hP;subst hP
  refine⟨adx,Pu,by omega,[.int .i64 x.1,.int .i64 x.2.1,.int .i64 x.2.2.1,.int .i64 x.2.2.2],rfl,rdO Pt hw hS,Nat×World,fun z=>⟨[(5,.o (.s 1 0 m m)),(7,pP 2 0),(30,.a [.v (.int .i64 x.2.1),.v (.int .i64 x.2.2.1),.v (.int .i64 x.2.2.2)]),(31,iN z.1),(18,sV al l.length cl),(19,iZ l.length),(20,iN i)],[(2,.box T.aAS [.v (.int .i64 x.1),.v (.int .i64 x.2.1),.v (.int .i64 x.2.2.1),.v (.int .i64 x.2.2.2)]),(1,.arr T.int (zv (iM (iC f.nodes.length l i) x z.1)))],3,[],z.2⟩,fun z=>3-z.1,
   fun z=>z.1<=3∧dT w.heap.size w z.2∧MU (iM (iC f.nodes.length l i) x z.1) (3000000*i+1000000*z.1),?_,?_⟩
  ·intro O w' r3;exact⟨(0,w'),⟨aS _,hw.tr r3.cL,Pe⟩,Sub.gn [] r3⟩
  rintro⟨k,w3⟩ ⟨hk,hw,Pe⟩;dsimp only at hk hw Pe ⊢;refine dB.mk ?_ ?_<;>intro OT
  ·have OT:k<3:=by have:=aK OT;omega
   obtain⟨d,hd⟩:∃d,(Ni x).getD k 0=d:=⟨_,rfl⟩
   have hdb: -1000000<=d∧d<=1000000:=by
    rw[<-hd,Ni];rcases(show k=0∨k=1∨k=2 by omega)with rfl|rfl|rfl<;>simp[List.getD]<;>omega
   have hLl:(iM (iC f.nodes.length l i) x k).length=m:=by rw[s8,oR,hm]
   obtain⟨z,hz⟩:∃z,(iM (iC f.nodes.length l i) x k)[3*kn+k]? =some z:=⟨_,aB (by omega)⟩
   have WX:=Pe z (aE hz);have Up:3*x.1+(k:Int)=((3*kn+k:Nat):Int):=by omega
   have QU:=En Up hd hz;have Us:=Pe.set (j:=3*kn+k) (z:=z+d) (t2:=3000000*i+1000000*(k+1:Nat)) (by omega) (by omega);rw[QU]at Us;refine zt hτ (cs:= #[.int .i64 x.2.1,.int .i64 x.2.2.1,.int .i64 x.2.2.2]) rfl rfl rfl (fun _=>rfl) rfl ⟨by omega,by omega⟩ (u:=.int .i64 d) ?_ (fun O w4 r=>?_)
   ·rw[<-hd,Ni,aF];rcases(show k=0∨k=1∨k=2 by omega)with rfl|rfl|rfl<;>rfl
   replace hw:=hw.tr r.cL;refine⟨3*x.1,wo,((3*kn+k:Nat):Int),wo,by omega,.int .i64 z,by rw[aF,aY,aV];exact Ha hz,z+d,wo,by omega,by rw[Cr];omega,zv (iM (iC f.nodes.length l i) x (k+1)),?_,?_⟩
   ·rw[aF,aY,aV,<-QU];exact GS (by omega)
   refine⟨((k+1:Nat):Int),wo,?_⟩;intro ρ3 w6 r3;exact⟨(k+1,w6),⟨OT,hw.tr r3.cL,Us⟩,Sub.gn [] r3,by dsimp only;omega⟩
  have OT:k=3:=by have:=aH OT;omega
  subst OT;have QU:iM (iC f.nodes.length l i) x 3=iC f.nodes.length l (i+1):=by rw[iC,show l.getD i (0,0,0,0)=x by rw[List.getD,hx];rfl]
  rw[QU]at Pe ⊢;refine⟨((i+1:Nat):Int),wo,?_⟩;intro ρ3 w6 r3;exact⟨(i+1,w6),⟨OQ,hw.tr r3.cL,fun z hz=>by have:=Pe z hz;dsimp only;omega⟩,Sub.gn [] r3,by dsimp only;omega⟩
 have OQ:i=l.length:=aU hi (by simpa using OQ);subst OQ;obtain⟨s,hs⟩:∃s,iC f.nodes.length l l.length=s:=⟨_,rfl⟩
 have SI:s.length=m:=by rw[<-hs,oR,hm]
 rw[hs]at Pe ⊢;unfold mi;rw[hs]
 refine⟨m,m,rfl,rfl,Nat.le_refl _,by omega,by omega,Nat×List (List Value)×Iv×World,fun z=>⟨[(10,.o (.s 2 0 m m)),(51,.o (.s 1 0 m m)),(52,iZ m),(53,iN z.1)],[(2,.arr T.Rat z.2.1.flatten),(1,.arr T.int (zv s))],3,z.2.2.1,z.2.2.2⟩,fun z=>m-z.1,
  fun z=>z.1<=m∧dT w.heap.size w z.2.2.2∧fz z.2.2.2 (Cf w z.2.2.1) m z.1 z.2.1 (ew s),?_,?_⟩
 ·intro O w' r;exact⟨(0,List.replicate m f0,_,w'),⟨aS _,hw.tr r.cL,fz.start _ _ _ _⟩,Sub.gn [] r⟩
 rintro⟨i,css,iv,w1⟩ ⟨Ta,hw,hF⟩;dsimp only at Ta hw hF ⊢;refine dB.mk ?_ ?_<;>intro OQ
 ·have OQ:i<m:=by simpa using OQ
  obtain⟨z,hz⟩:∃z,s[i]? =some z:=⟨_,aB (by omega)⟩
  have WX:=Pe z (aE hz);refine⟨by omega,.int .i64 z,by rw[aF,aY,aV];exact Ha hz,?_⟩;refine cB (cE hw (fun _ w' v w2=>cN w2 (Nf w' w2) v (z:Rat)) (fun O w' r=>kL z w' (by omega) (by omega)) ?_);rintro O _ _ _ OZ r he hw h_ hn;replace hF:=hF.cD r (bw w) he (mC h_);have hd:=hn.dD (S:=FF) r.bz (mN h_);obtain⟨A0,A1,A2,A3,A4,A5,A6,A7,rfl⟩:=hd.shape;have Oh:=hF.next OQ (q:=_) (by rw[ew,aM,hz];rfl) hd
  refine⟨by omega,by have:=hF.flat;omega,(css.set i [.bool A0,.slice A1 A2 A3,.bool A4,.slice A5 A6 A7]).flatten,?_,?_⟩
  ·have:=jI (cs:=[.bool A0,.slice A1 A2 A3,.bool A4,.slice A5 A6 A7]) hF.four (show i<css.length by rw[hF.len];exact OQ);rw[<-this];simp
  refine⟨((i+1:Nat):Int),wo,?_⟩;intro ρ3 w3 r3;exact⟨(i+1,css.set i [.bool A0,.slice A1 A2 A3,.bool A4,.slice A5 A6 A7],_,w3),⟨OQ,hw.tr r3.cL,Oh.rel r3 (bw w)⟩,Sub.gn [] r3,by dsimp only;omega⟩
 have OQ:i=m:=aU Ta (by simpa using OQ);subst OQ;intro ρe we re
 exact⟨_,rfl,hw.tr re.cL,hF.done (by rw[ew,aL];exact SI) (by unfold maxLen;omega) re (id:=2) rfl (re.nn 2 _ rfl (by intros;simp) (by simp)),fun q hq=>by
  obtain⟨z,hz,rfl⟩:=aR.1 hq;have:=Pe z hz
  exact Ba (by omega) (by omega)⟩
set_option maxHeartbeats 1000000 in
theorem Ip(hS:Old S w)(hf:dm w S vn vb vs f)(OV:wY f):
  dx PG N.pc #[.agg #[vn,vb,vs]] w (eH w fun v' w2=>dM w2 (Nw S w w2) v' (dI f)):=by
 have hw:=bR w;obtain⟨an,cn,ab,cb,aq,cq,rfl,rfl,rfl,RV,RN,Sg⟩:=hf.shape;have hf0:=hf;refine uA (by simp) ?_
 refine⟨Nat×List (List Value)×World,fun z=>⟨[(3,.o (.w 1 z.2.1.length)),(9,sV ab f.bars.length cb),(10,iZ f.bars.length),(11,iN z.1),(1,pP 0 0)],[(1,.vec T.Rat 4 z.2.1.flatten),(0,.box T.Frame [.v (.slice an f.nodes.length cn),.v (.slice ab f.bars.length cb),.v (.slice aq f.cM.length cq)])],2,[],z.2.2⟩,fun z=>f.bars.length-z.1,
  fun z=>z.1<=f.bars.length∧dT w.heap.size w z.2.2∧(∀cs∈z.2.1,cs.length=4)∧(z.2.1.length=((fun i=>(f.bars.take i).map (·.2.2)) z.1).length∧∀(j:Nat) cs q,z.2.1[j]? =some cs->((fun i=>(f.bars.take i).map (·.2.2)) z.1)[j]? =some q->k6 z.2.2 S cs q),?_,?_⟩
 ·intro O w' r;exact⟨(0,[],w'),⟨aS _,hw.tr r.cL,fun cs h=>(by cases h),rfl,fun j cs q h=>by cases h⟩,Sub.nil 3 T.Rat 4 rfl (by simp[l6,SV.sc,At.sc,iW]) r fun ρ1 r1=>Sub.gn [] r1⟩
 rintro⟨k,css,w1⟩ ⟨hk,hw,Tk,hR⟩;dsimp only at hk hw Tk hR ⊢;have Ot:=eo Tk;refine dB.mk ?_ ?_<;>intro OT
 ·have OT:k<f.bars.length:=by simpa using OT
  have hb60:=OV.b;have hs60:=OV.s;obtain⟨b,hb⟩:∃b,f.bars[k]? =some b:=⟨_,aB OT⟩
  have QU:(fun i=>(f.bars.take i).map (·.2.2)) (k+1)=(fun i=>(f.bars.take i).map (·.2.2)) k++[b.2.2]:=by dsimp only;rw[List.take_add_one,hb];simp
  obtain⟨adb,cs,QM,hF,-,Pm⟩:=hf0.bars.load (by decide) hb;obtain⟨g0,g1,g2,g3,g4,g5,g6,g7,rfl,hF⟩:=hF;refine⟨adb,QM,by omega,[.int .i64 b.1,.int .i64 b.2.1,.bool g0,.slice g1 g2 g3,.bool g4,.slice g5 g6 g7],rfl,rdO Pm hw hS,?_⟩;have Sp:k6 w1 S [.bool g0,.slice g1 g2 g3,.bool g4,.slice g5 g6 g7] b.2.2:=⟨_,_,_,_,_,_,_,_,rfl,hF.cC fun g hg=>hw.block g (hS g hg)⟩
  have RJ:=dM.Mq hR Sp;rw[<-QU]at RJ;have R1:css.flatten++([.bool g0,.slice g1 g2 g3,.bool g4,.slice g5 g6 g7]:List Value)=(css++([[.bool g0,.slice g1 g2 g3,.bool g4,.slice g5 g6 g7]]:List (List Value))).flatten:=by simp
  have Tf:css.length<=200:=by rw[hR.1,aL,aZ];have:=OV.b;omega
  refine .inl ?_;refine⟨by omega,by omega,by unfold maxLen;omega,((k+1:Nat):Int),wo,?_⟩;intro ρ3 w3 r3
  exact⟨(k+1,css++[[.bool g0,.slice g1 g2 g3,.bool g4,.slice g5 g6 g7]],w3),⟨OT,hw.tr r3.cL,fun cs hc=>by
   rcases List.mem_append.1 hc with hc|hc
   ·exact Tk cs hc
   ·rw[bF.1 hc];rfl,RJ.1,fun j cs q h1 h2=>(RJ.2 j cs q h1 h2).cC fun g hg=>(r3.cL).block g (hS g hg)⟩,Sub.gn [(1,4)] r3 ⟨by dsimp only;rw[<-R1];rfl,rfl,trivial⟩ ⟨by dsimp only;rw[List.length_append,List.length_singleton];rfl,rfl,rfl,rfl,rfl,trivial⟩,by dsimp only;omega⟩
 have OT:k=f.bars.length:=aU hk (by simpa using OT);subst OT;have Pk:css.length=f.bars.length:=by rw[hR.1,aL,aZ];omega
 rw[bH,show f.bars.map (·.2.2)=f.bars.map (·.2.2)++(f.cM.take 0).map (·.2.2) by simp]at hR
 refine⟨Nat×List (List Value)×World,fun z=>⟨[(3,.o (.w 1 z.2.1.length)),(22,sV aq f.cM.length cq),(23,iZ f.cM.length),(24,iN z.1)],[(1,.vec T.Rat 4 z.2.1.flatten),(0,.box T.Frame [.v (.slice an f.nodes.length cn),.v (.slice ab f.bars.length cb),.v (.slice aq f.cM.length cq)])],2,[],z.2.2⟩,fun z=>f.cM.length-z.1,
  fun z=>z.1<=f.cM.length∧dT w.heap.size w z.2.2∧(∀cs∈z.2.1,cs.length=4)∧(z.2.1.length=((fun i=>f.bars.map (·.2.2)++(f.cM.take i).map (·.2.2)) z.1).length∧∀(j:Nat) cs q,z.2.1[j]? =some cs->((fun i=>f.bars.map (·.2.2)++(f.cM.take i).map (·.2.2)) z.1)[j]? =some q->k6 z.2.2 S cs q),?_,?_⟩
 ·intro O w' r3;exact⟨(0,css,w'),⟨aS _,hw.tr r3.cL,Tk,hR.1,fun j cs q h1 h2=>(hR.2 j cs q h1 h2).cC fun g hg=>(r3.cL).block g (hS g hg)⟩,Sub.gn [] r3⟩
 rintro⟨k,css,w1⟩ ⟨hk,hw,Tk,hR⟩;dsimp only at hk hw Tk hR ⊢;have Ot:=eo Tk;refine dB.mk ?_ ?_<;>intro OT
 ·have OT:k<f.cM.length:=by simpa using OT
  have hb60:=OV.b;have hs60:=OV.s;obtain⟨b,hb⟩:∃b,f.cM[k]? =some b:=⟨_,aB OT⟩
  have QU:(fun i=>f.bars.map (·.2.2)++(f.cM.take i).map (·.2.2)) (k+1)=(fun i=>f.bars.map (·.2.2)++(f.cM.take i).map (·.2.2)) k++[b.2.2]:=by dsimp only;rw[List.take_add_one,hb];simp
  obtain⟨adb,cs,QM,hF,-,Pm⟩:=hf0.cM.load (by decide) hb;obtain⟨g0,g1,g2,g3,g4,g5,g6,g7,rfl,hF⟩:=hF;refine⟨adb,QM,by omega,[.int .i64 b.1,.int .i64 b.2.1,.bool g0,.slice g1 g2 g3,.bool g4,.slice g5 g6 g7],rfl,rdO Pm hw hS,?_⟩;have Sp:k6 w1 S [.bool g0,.slice g1 g2 g3,.bool g4,.slice g5 g6 g7] b.2.2:=⟨_,_,_,_,_,_,_,_,rfl,hF.cC fun g hg=>hw.block g (hS g hg)⟩
  have RJ:=dM.Mq hR Sp;rw[<-QU]at RJ;have R1:css.flatten++([.bool g0,.slice g1 g2 g3,.bool g4,.slice g5 g6 g7]:List Value)=(css++([[.bool g0,.slice g1 g2 g3,.bool g4,.slice g5 g6 g7]]:List (List Value))).flatten:=by simp
  have Tf:css.length<=200:=by rw[hR.1,List.length_append,aL,aL,aZ];have:=OV.b;have:=OV.s;omega
  refine .inl ?_;refine⟨by omega,by omega,by unfold maxLen;omega,((k+1:Nat):Int),wo,?_⟩;intro ρ3 w3 r3
  exact⟨(k+1,css++[[.bool g0,.slice g1 g2 g3,.bool g4,.slice g5 g6 g7]],w3),⟨OT,hw.tr r3.cL,fun cs hc=>by
   rcases List.mem_append.1 hc with hc|hc
   ·exact Tk cs hc
   ·rw[bF.1 hc];rfl,RJ.1,fun j cs q h1 h2=>(RJ.2 j cs q h1 h2).cC fun g hg=>(r3.cL).block g (hS g hg)⟩,Sub.gn [(1,4)] r3 ⟨by dsimp only;rw[<-R1];rfl,rfl,trivial⟩ ⟨by dsimp only;rw[List.length_append,List.length_singleton];rfl,rfl,rfl,rfl,trivial⟩,by dsimp only;omega⟩
 have OT:k=f.cM.length:=aU hk (by simpa using OT);subst OT;intro ρe we re;have hfull:f.bars.map (·.2.2)++(f.cM.take f.cM.length).map (·.2.2)=dI f:=by rw[bH];rfl
 rw[hfull]at hR;refine⟨_,rfl,hw.tr re.cL,css,?_,hR.1,Tk,fun j cs q k1 k2=>((hR.2 j cs q k1 k2).cC fun g hg=>(re.cL).block g (hS g hg)).cF fun g hg=>.inl hg⟩;have PY:=hR.1
 have h5:=re.kR (id:=1) (sz:=4) (m:=css.length) rfl Ot (by have:=OV.b;have:=OV.s;rw[PY,uN];unfold ed.cols maxLen;omega) (by decide) (fun u hu=>by
  obtain⟨cs,hc,hu⟩:=List.mem_flatten.1 hu;obtain⟨j,hj⟩:=aQ hc;obtain⟨_,_,_,_,_,_,_,_,rfl,_⟩:=hR.2 j cs _ hj (aB (by rw[<-PY];exact(aD.1 hj).1));simp at hu
  rcases hu with rfl|rfl|rfl|rfl<;>rfl)
 rw[<-PY];exact h5.cF fun g hg=>.inr hg
def e9{α:Type}(e:List α->α->Int):List α->List α->Int
 |_,[]=>0
 |seen,x::r=>if e seen x=0 then e9 e (seen++[x]) r else e seen x
section
variable{α:Type}{e:List α->α->Int}{xs:List α}
theorem gL{k:Nat}{x:α}(hx:xs[k]? =some x)(h0:e (xs.take k) x=0):e9 e (xs.take k) (xs.drop k)=e9 e (xs.take (k+1)) (xs.drop (k+1)):=by
 have hk:=(aD.1 hx).1;have h2:=(aD.1 hx).2;rw[List.drop_eq_getElem_cons hk,h2,e9,if_pos h0,List.take_add_one,hx];rfl
theorem cO{k:Nat}{x:α}{c:Int}(hx:xs[k]? =some x)(h0:e (xs.take k) x=c)(hc:c≠0):e9 e (xs.take k) (xs.drop k)=c:=by
 have hk:=(aD.1 hx).1;have h2:=(aD.1 hx).2;rw[List.drop_eq_getElem_cons hk,h2,e9,aI (by rw[h0];exact hc),h0]
theorem ij{k:Nat}(hk:xs.length<=k):e9 e (xs.take k) (xs.drop k)=0:=by
 rw[List.drop_eq_nil_of_le hk];rfl
theorem jW(h:e9 e [] xs=0):∀k x,xs[k]? =some x->e (xs.take k) x=0:=by
 have key:∀k,k<=xs.length->e9 e (xs.take k) (xs.drop k)=0∧∀j x,j<k->xs[j]? =some x->e (xs.take j) x=0:=fun k=>by
  induction k with
  |zero=>intro _;exact⟨by simpa using h,fun j x hj=>by omega⟩
  |succ k ih=>
   intro hk;obtain⟨h1,h2⟩:=ih (by omega);obtain⟨x,hx⟩:∃x,xs[k]? =some x:=⟨_,aB (by omega)⟩
   have h0:e (xs.take k) x=0:=by
    by_cases h0:e (xs.take k) x=0
    ·exact h0
    ·rw[cO hx rfl h0]at h1;exact h1
   refine⟨by rw[<-gL hx h0];exact h1,fun j y hj hy=>?_⟩;rcases aP j k with Ry|Ry
   ·exact h2 j y Ry hy
   ·have:j=k:=by omega
    subst this;rw[hx]at hy;injection hy with hy;rw[<-hy];exact h0
 exact fun k x hx=>(key xs.length (Nat.le_refl _)).2 k x (aD.1 hx).1 hx
end
def mn(n:Int):Prop:= -1000000<=n∧n<=1000000
instance (n : Int) : Decidable (mn n) := by unfold mn; infer_instance
def eu(seen:List (Int×Int×Int))(p:Int×Int×Int):Int:=if mn p.1∧mn p.2.1∧mn p.2.2 then(if p∈seen then 12 else 0)else 2
def gG(b:Int×Int×Rat):Int×Int:=(min b.1 b.2.1,max b.1 b.2.1)
def jB(n:Nat)(i:Int):Prop:=0<=i∧i<n
instance (n : Nat) (i : Int) : Decidable (jB n i) := by unfold jB; infer_instance
def fH(n:Nat)(seen:List (Int×Int×Rat))(b:Int×Int×Rat):Int:=
 if jB n b.1∧jB n b.2.1 then(if b.1=b.2.1 then 3 else if gG b∈seen.map gG then 5 else if b.2.2<=0 then 2 else 0)else 6
def iY(s:Int×Int×Rat):Int×Int:=(s.1,s.2.1)
def kM(n:Nat)(seen:List (Int×Int×Rat))(s:Int×Int×Rat):Int:=
 if jB n s.1 then(if 0<=s.2.1∧s.2.1<=2 then(if iY s∈seen.map iY then 5 else if s.2.2<0 then 2 else 0)else 2)else 6
def eN(f:ed):Int:=
 if 20<f.nodes.length∨60<f.bars.length∨60<f.cM.length then 8 else
  if e9 eu [] f.nodes≠0 then e9 eu [] f.nodes else
   if e9 (fH f.nodes.length) [] f.bars≠0 then e9 (fH f.nodes.length) [] f.bars else e9 (kM f.nodes.length) [] f.cM
def j2(n:Nat)(x:Ld):Int:=if jB n x.1 then(if mn x.2.1∧mn x.2.2.1∧mn x.2.2.2 then 0 else 2)else 6
def uO(n:Nat)(l:List Ld):Int:=if 200<l.length then 8 else e9 (fun _=>j2 n) [] l
def kN(f:ed)(l:List Ld):Int:=if eN f≠0 then eN f else uO f.nodes.length l
theorem s9{seen:List (Int×Int×Int)}:eu seen p=0↔(mn p.1∧mn p.2.1∧mn p.2.2)∧p∉seen:=by
 unfold eu;split<;>rename_i h
 ·split<;>rename_i h2<;>simp[h,h2]
 ·simp[h]
theorem qo:fH n seen b=0↔(jB n b.1∧jB n b.2.1)∧b.1≠b.2.1∧gG b∉seen.map gG∧0<b.2.2:=by
 unfold fH;rw[<-Rat.not_le];by_cases h:jB n b.1∧jB n b.2.1
 ·rw[if_pos h];by_cases h2:b.1=b.2.1
  ·rw[if_pos h2];exact⟨(fun e=>by cases e),fun e=>absurd h2 e.2.1⟩
  ·rw[aI h2];by_cases h3:gG b∈seen.map gG
   ·rw[if_pos h3];exact⟨(fun e=>by cases e),fun e=>absurd h3 e.2.2.1⟩
   ·rw[aI h3];by_cases h4:b.2.2<=0
    ·rw[if_pos h4];exact⟨(fun e=>by cases e),fun e=>absurd h4 e.2.2.2⟩
    ·rw[aI h4];exact⟨fun _=>⟨h,h2,h3,h4⟩,fun _=>rfl⟩
 ·rw[aI h];exact⟨(fun e=>by cases e),fun e=>absurd e.1 h⟩
theorem qn{s:Int×Int×Rat}:kM n seen s=0↔jB n s.1∧(0<=s.2.1∧s.2.1<=2)∧iY s∉seen.map iY∧0<=s.2.2:=by
 unfold kM;rw[<-Rat.not_lt];by_cases h:jB n s.1<;>by_cases h2:0<=s.2.1∧s.2.1<=2<;>by_cases h3:iY s∈seen.map iY<;>by_cases h4:s.2.2<0<;>simp only[h,h2,h3,h4]<;>simp
theorem GU:j2 n x=0↔jB n x.1∧mn x.2.1∧mn x.2.2.1∧mn x.2.2.2:=by
 unfold j2;split<;>rename_i h
 ·split<;>rename_i h2<;>simp[h,h2]
 ·simp[h]
theorem BY(h:eN f=0):(f.nodes.length<=20∧f.bars.length<=60∧f.cM.length<=60)∧e9 eu [] f.nodes=0∧e9 (fH f.nodes.length) [] f.bars=0∧e9 (kM f.nodes.length) [] f.cM=0:=by
 unfold eN at h;split at h<;>rename_i h1
 ·cases h
 ·split at h<;>rename_i h2
  ·exact absurd h h2
  ·split at h<;>rename_i h3
   ·exact absurd h h3
   ·exact⟨by omega,by simpa using h2,by simpa using h3,h⟩
theorem xd(h:eN f=0):wY f:=by
 obtain⟨⟨h1,h2,h3⟩,hn,hb,hs⟩:=BY h;refine⟨fun p hp=>?_,fun b Pj=>?_,fun s TZ=>?_,h1,h2,h3⟩
 ·obtain⟨k,hk⟩:=aQ hp;exact(s9.1 (jW hn k p hk)).1
 ·obtain⟨k,hk⟩:=aQ Pj;exact(qo.1 (jW hb k b hk)).1
 ·obtain⟨k,hk⟩:=aQ TZ;have:=qn.1 (jW hs k s hk);exact⟨this.1,this.2.1⟩
theorem MV(h:uO n l=0):Em n l:=by
 unfold uO at h;split at h<;>rename_i h1
 ·cases h
 ·refine⟨by omega,fun x hx=>?_⟩;obtain⟨k,hk⟩:=aQ hx;exact GU.1 (jW h k x hk)
theorem sd(h:kN f l=0):eN f=0∧uO f.nodes.length l=0:=by
 unfold kN at h;split at h<;>rename_i h1
 ·exact absurd h h1
 ·exact⟨by simpa using h1,h⟩
theorem kp(n:Int)(w:World):dx PG N.p8 #[.int .i64 n,.int .i64 1000000] w (eH w fun v' _=>∃d,v'= .bool d∧(d=true↔mn n)):=by
 have hw:=bR w;refine tx (by simp) ?_;refine⟨-1000000,by decide,?_⟩;refine dB.mk ?_ ?_<;>intro h1
 ·intro ρe we re;have h1:=aK h1;exact⟨_,rfl,hw.tr re.cL,_,rfl,by rw[decide_eq_true_iff];exact⟨fun h=>⟨h1,h⟩,fun h=>h.2⟩⟩
 ·intro ρe we re;have h1:=aH h1;exact⟨_,rfl,hw.tr re.cL,_,rfl,(fun h=>by cases h),fun h=>absurd h.1 h1⟩
theorem GV(n:Int)(w:World)(an ab aq:Option Addr)(ln cn nb cb nq cq:Nat):dx PG N.wW #[.agg #[.slice an ln cn,.slice ab nb cb,.slice aq nq cq],.int .i64 n] w (eH w fun v' _=>∃d,v'= .bool d∧(d=true↔jB ln n)):=by
 have hw:=bR w;refine zc (by simp) ?_;refine dB.mk ?_ ?_<;>intro h1
 ·intro ρe we re;have h1:=aK h1;exact⟨_,rfl,hw.tr re.cL,_,rfl,by rw[decide_eq_true_iff];exact⟨fun h=>⟨h1,h⟩,fun h=>h.2⟩⟩
 ·intro ρe we re;have h1:=aH h1;exact⟨_,rfl,hw.tr re.cL,_,rfl,(fun h=>by cases h),fun h=>absurd h.1 h1⟩
theorem Cs(x y0 y1 y2:Int)(n:Nat)(w:World):dx PG N.mH #[.agg #[.int .i64 x,.int .i64 y0,.int .i64 y1,.int .i64 y2],.int .i64 n] w (eH w fun v' _=>v'= .int .i64 (j2 n (x,y0,y1,y2))):=by
 have hw:=bR w;refine pr (by simp) ?_;refine dB.mk ?_ ?_<;>intro h1
 ·have h1:=aK h1;exact rtn hw fun ρe we re=>by show Value.int .i64 _=_;rw[j2,aI (by unfold jB;omega)]
 have h1:=aH h1;refine dB.mk ?_ ?_<;>intro h2
 ·have h2:=aK h2;exact rtn hw fun ρe we re=>by show Value.int .i64 _=_;rw[j2,aI (by unfold jB;omega)]
 have h2:=aH h2;have hh:jB n x:=by unfold jB;omega
 refine cB (cE hw (fun _ w' v w2=>∃d,v= .bool d∧(d=true↔mn y0)) (fun O w' r=>kp _ w') ?_);rintro O _ _ _ OZ r he hw h_ ⟨d0,rfl,Of⟩
 cases d0
 ·have Of:¬mn y0:=fun h=>by have:=Of.2 h;cases this
  exact rtn hw fun ρe we re=>by show Value.int .i64 _=_;rw[j2,if_pos hh,aI (fun h=>Of h.1)]
 replace Of:=Of.1 rfl;refine cB (cE hw (fun _ w' v w2=>∃d,v= .bool d∧(d=true↔mn y1)) (fun O w' r=>kp _ w') ?_);rintro O _ _ _ OU r he hw h_ ⟨d1,rfl,Ol⟩
 cases d1
 ·have Ol:¬mn y1:=fun h=>by have:=Ol.2 h;cases this
  exact rtn hw fun ρe we re=>by show Value.int .i64 _=_;rw[j2,if_pos hh,aI (fun h=>Ol h.2.1)]
 replace Ol:=Ol.1 rfl;refine cB (cE hw (fun _ w' v w2=>∃d,v= .bool d∧(d=true↔mn y2)) (fun O w' r=>kp _ w') ?_);rintro O _ _ _ Oi r he hw h_ ⟨d2,rfl,Pf⟩
 cases d2
 ·have Pf:¬mn y2:=fun h=>by have:=Pf.2 h;cases this
  exact rtn hw fun ρe we re=>by show Value.int .i64 _=_;rw[j2,if_pos hh,aI (fun h=>Pf h.2.2)]
 replace Pf:=Pf.1 rfl;exact rtn hw fun ρe we re=>by show Value.int .i64 _=_;rw[j2,if_pos hh,if_pos ⟨Of,Ol,Pf⟩]
theorem Al(hS:Old S w)(hl:jS w S vl l):dx PG N.lH #[vl,.int .i64 n] w (eH w fun v' _=>v'= .int .i64 (uO n l)):=by
 have hw:=bR w;obtain⟨al,cl,rfl,PY,Qo⟩:=hl.shape;unfold maxLen at Qo;refine oh (by simp) ?_;refine dB.mk ?_ ?_<;>intro h1
 ·have h1:=aK h1;exact rtn hw fun ρe we re=>by show Value.int .i64 _=_;rw[uO,if_pos (by omega)]
 have h1:=aH h1
 refine⟨Nat×World×Iv,fun z=>⟨[(1,iZ n),(11,sV al l.length cl),(12,iZ l.length),(13,iN z.1)],[],0,z.2.2,z.2.1⟩,fun z=>l.length-z.1,
  fun z=>z.1<=l.length∧dT w.heap.size w z.2.1∧uO n l=e9 (fun _=>j2 n) (l.take z.1) (l.drop z.1),?_,?_⟩
 ·intro O w' r3;exact⟨(0,w',[]),⟨aS _,hw.tr r3.cL,by rw[uO,aI (by omega)];rfl⟩,Sub.gn [] r3⟩
 rintro⟨i,w1,iv⟩ ⟨hi,hw,hE⟩;dsimp only at hi hw hE ⊢;refine dB.mk ?_ ?_<;>intro OQ
 ·have OQ:i<l.length:=by simpa using OQ
  obtain⟨x,hx⟩:∃x,l[i]? =some x:=⟨_,aB OQ⟩
  obtain⟨adx,cs,Pu,hP,-,Pt⟩:=hl.load (by decide) hx;have hP:cs=[.int .i64 x.1,.int .i64 x.2.1,.int .i64 x.2.2.1,.int .i64 x.2.2.2]:=hP;subst hP;refine⟨adx,Pu,by omega,[.int .i64 x.1,.int .i64 x.2.1,.int .i64 x.2.2.1,.int .i64 x.2.2.2],rfl,rdO Pt hw hS,?_⟩;refine cB (cE hw (fun _ w' v w2=>v= .int .i64 (j2 n x)) (fun O w' r=>Cs _ _ _ _ n w') ?_);rintro O _ _ _ OZ r he hw h_ rfl;obtain⟨c,hc⟩:∃c,j2 n x=c:=⟨_,rfl⟩
  rw[hc];refine dB.mk ?_ ?_<;>intro hd
  ·have hd:c≠0:=by simpa using hd
   exact rtn hw fun ρe we re=>by show Value.int .i64 _=_;rw[hE,cO hx hc hd]
  have hd:c=0:=by simpa using hd
  rw[hd]at hc;rw[gL hx hc]at hE;refine⟨((i+1:Nat):Int),wo,?_⟩;intro ρ3 w6 r3;exact⟨(i+1,w6,_),⟨OQ,hw.tr r3.cL,hE⟩,Sub.gn [] r3,by dsimp only;omega⟩
 have OQ:i=l.length:=aU hi (by simpa using OQ);rw[ij (by omega)]at hE;exact rtn hw fun ρe we re=>by show Value.int .i64 _=_;rw[hE]
theorem iI{cs:Array Value}(h:cs[j]? =some v)(w:World):(part T.int cs j).run PG w= .ok v w:=by
 have:=(hτ T.int _ rfl).isAgg w;simp only[part,Sem.run_bind,this,Result.andThen]
 simp[h]
theorem eq_int(d:Nat)(a b:Int)(w:World):(Op.equalIn (d+1) T.int (.int .i64 a) (.int .i64 b)).run PG w= .ok (a==b) w:=by
 unfold Op.equalIn;simp[run_underlying ((hτ T.int _ rfl).i1 rfl)]
theorem MW(p0 p1 p2 q0 q1 q2:Int)(w:World):(Op.equal T.Node (.agg #[.int .i64 p0,.int .i64 p1,.int .i64 p2]) (.agg #[.int .i64 q0,.int .i64 q1,.int .i64 q2])).run PG w= .ok (decide (p0=q0∧p1=q1∧p2=q2)) w:=by
 have h:=run_underlying Tryz.underlying195;simp only[Op.equal,Op.maxDepth]
 unfold Op.equalIn;have a0:=iI (cs:= #[Value.int .i64 p0,Value.int .i64 p1,Value.int .i64 p2]) (j:=0) rfl;have a1:=iI (cs:= #[Value.int .i64 p0,Value.int .i64 p1,Value.int .i64 p2]) (j:=1) rfl;have a2:=iI (cs:= #[Value.int .i64 p0,Value.int .i64 p1,Value.int .i64 p2]) (j:=2) rfl;have b0:=iI (cs:= #[Value.int .i64 q0,Value.int .i64 q1,Value.int .i64 q2]) (j:=0) rfl;have b1:=iI (cs:= #[Value.int .i64 q0,Value.int .i64 q1,Value.int .i64 q2]) (j:=1) rfl;have b2:=iI (cs:= #[Value.int .i64 q0,Value.int .i64 q1,Value.int .i64 q2]) (j:=2) rfl;simp[h,a0,a1,a2,b0,b1,b2,eq_int 9998];by_cases h0:p0=q0
 ·by_cases h1:p1=q1
  ·by_cases h2:p2=q2<;>simp[h0,h1,h2]
  ·simp[h0,h1]
 ·simp[h0]
theorem MX(p0 p1 q0 q1:Int)(w:World):(Op.equal T.CT (.agg #[.int .i64 p0,.int .i64 p1]) (.agg #[.int .i64 q0,.int .i64 q1])).run PG w= .ok (decide (p0=q0∧p1=q1)) w:=by
 have h:=run_underlying Tryz.underlying281;simp only[Op.equal,Op.maxDepth]
 unfold Op.equalIn;have a0:=iI (cs:= #[Value.int .i64 p0,Value.int .i64 p1]) (j:=0) rfl;have a1:=iI (cs:= #[Value.int .i64 p0,Value.int .i64 p1]) (j:=1) rfl;have b0:=iI (cs:= #[Value.int .i64 q0,Value.int .i64 q1]) (j:=0) rfl;have b1:=iI (cs:= #[Value.int .i64 q0,Value.int .i64 q1]) (j:=1) rfl;simp[h,a0,a1,b0,b1,eq_int 9998];by_cases h0:p0=q0
 ·by_cases h1:p1=q1<;>simp[h0,h1]
 ·simp[h0]
abbrev Bb(p:Int×Int×Int):Value:=.agg #[.int .i64 p.1,.int .i64 p.2.1,.int .i64 p.2.2]
theorem Eo(p q:Int×Int×Int)(w:World)(o1 o2:Operand):(do eqGuard .eql T.Node o1 o2 (Bb p) (Bb q);binOp .eql T.Node (Bb p) (Bb q)).run PG w= .ok (.bool (decide (p=q))) w:=by
 have h:=MW p.1 p.2.1 p.2.2 q.1 q.2.1 q.2.2 w;simp[eqGuard,binOp,h];obtain⟨a,b,c⟩:=p;obtain⟨a2,b2,c2⟩:=q;by_cases h0:a=a2
 ·by_cases h1:b=b2
  ·by_cases h2:c=c2<;>simp[h0,h1,h2]
  ·simp[h0,h1]
 ·simp[h0]
def nL(k:Int×Int):Value:=.agg #[.int .i64 k.1,.int .i64 k.2]
theorem qK{a b:Int×Int}(h:nL a=nL b):a=b:=by
 unfold nL at h;injection h with h;have h1:=congrArg (fun x=>x[0]?) h;have h2:=congrArg (fun x=>x[1]?) h;simp at h1 h2;exact Prod.ext h1 h2
theorem Iq(d:Nat)(a:Int)(em:Bool)(w:World):(Instr.checkKey em (d+1) T.int (.int .i64 a)).run PG w= .ok () w:=by
 unfold Instr.checkKey;simp[run_underlying ((hτ T.int _ rfl).i1 rfl)]
theorem GW(p0 p1:Int)(em:Bool)(w:World):(Instr.checkKey em 10000 T.CT (.agg #[.int .i64 p0,.int .i64 p1])).run PG w= .ok () w:=by
 have h:=run_underlying Tryz.underlying281;have a0:=iI (cs:= #[Value.int .i64 p0,Value.int .i64 p1]) (j:=0) rfl;have a1:=iI (cs:= #[Value.int .i64 p0,Value.int .i64 p1]) (j:=1) rfl;unfold Instr.checkKey;simp[h,a0,a1,Iq 9998]
theorem xp:JW PG T.CT (fun v=>∃k,v=nL k) where
 desc:=⟨_,Tryz.underlying281⟩
 check:=fun w em v ⟨k,e⟩=>by subst e;exact GW k.1 k.2 em w
 eq:=fun w a b ⟨p,e1⟩ ⟨q,e2⟩=>by
  subst e1 e2;refine⟨_,MX p.1 p.2 q.1 q.2 w,?_⟩;rw[decide_eq_true_iff];exact⟨fun h=>by rw[show p=q from Prod.ext h.1 h.2],fun h=>by have:=qK h;subst this;exact⟨rfl,rfl⟩⟩
theorem uP:PG.underlying T.wy=some (.map T.CT T.bool):=Tryz.underlying279
theorem Bd(w:World):(zeroValue T.bool).run PG w= .ok (.bool false) w:=by kernel_rfl
theorem Kt(ad:Option Addr)(k:Nat):ad.map (·.add (0*k))=ad:=by
 rw[Nat.zero_mul]
 cases ad with
 |none=>rfl
 |some a=>simp only[bY,Option.some.injEq];unfold Addr.add;split<;>simp_all
theorem eY.take{α:Type}{k:Nat}{P:World->(Nat->Prop)->List Value->α->Prop}{c:Nat}{xs:List α}(h:eY k P w S (.slice a n c) xs){i:Nat}(hi:i<=xs.length):
  eY k P w S (.slice a i c) (xs.take i):=by
 obtain⟨css,⟨h0,h1,h2,a',c',e,h3,h4⟩,hl,hlk,hf⟩:=h;injection e with e1 e2 e3;subst e1 e2 e3;have hlen:(css.take i).length=i:=by rw[aZ,hl];omega
 have Sm:(xs.take i).length=i:=by rw[aZ];omega
 have Ut:css.flatten=(css.take i).flatten++(css.drop i).flatten:=by rw[<-List.flatten_append,List.take_append_drop]
 refine⟨css.take i,⟨by omega,?_,fun u hu=>h2 u (by rw[Ut];exact List.mem_append_left _ hu),a,c,by rw[Sm],by omega,fun j u hj=>h4 j u ?_⟩,by rw[hlen,Sm],fun cs hc=>hlk cs (bS hc),fun j cs x k1 k2=>?_⟩
 ·rw[vV fun cs hc=>hlk cs (bS hc),hlen,Sm]
 ·rw[Ut,aJ (aD.1 hj).1];exact hj
 ·have hj:=(aD.1 k1).1;rw[hlen]at hj;rw[bO hj]at k1 k2;exact hf j cs x k1 k2
theorem mh.cC{w2:World}(h:mh w S v xs)(hk:∀g,S g->w2.heap[g]? =w.heap[g]?):mh w2 S v xs:=eY.cC (w:=w) (fun _ _ h=>h) h hk
theorem Ct(hS:Old S w)(hn:mh w S vn xs)(p:Int×Int×Int):dx PG N.fb #[vn,Bb p] w (eH w fun v' _=>∃r,v'= .int .i64 r∧(-1<=r)∧(0<=r↔p∈xs)):=by
 have hw:=bR w;obtain⟨an,cn,rfl,hcn,RV⟩:=hn.shape;unfold maxLen at RV;refine iT (by simp) ?_
 refine⟨Nat×World,fun z=>⟨[(0,sV an xs.length cn),(3,pP 0 0),(7,iZ xs.length),(8,iN z.1)],[(0,.box T.Node [.v (.int .i64 p.1),.v (.int .i64 p.2.1),.v (.int .i64 p.2.2)])],1,[],z.2⟩,fun z=>xs.length-z.1,
  fun z=>z.1<=xs.length∧dT w.heap.size w z.2∧(p∈xs↔p∈xs.drop z.1),?_,?_⟩
 ·intro O w' r3;exact⟨(0,w'),⟨aS _,hw.tr r3.cL,Iff.rfl⟩,Sub.gn [] r3⟩
 rintro⟨i,w1⟩ ⟨hi,hw,hE⟩;dsimp only at hi hw hE ⊢;refine dB.mk ?_ ?_<;>intro OQ
 ·have OQ:i<xs.length:=by simpa using OQ
  obtain⟨q,hx⟩:∃x,xs[i]? =some x:=⟨_,aB OQ⟩
  have hdr:xs.drop i=q::xs.drop (i+1):=by rw[List.drop_eq_getElem_cons OQ,(aD.1 hx).2]
  obtain⟨adx,cs,Pu,hP,-,Pt⟩:=hn.load (by decide) hx;have hP:cs=[.int .i64 q.1,.int .i64 q.2.1,.int .i64 q.2.2]:=hP;subst hP;refine j1 hτ dN (.x 1 (.x 2 (.x 3 (.ld 0 32 (.ld 4 32 (.x 5 .nil)))))) (by kernel_rfl) (by kernel_rfl) ?_;refine⟨adx,Pu,by omega,[.int .i64 q.1,.int .i64 q.2.1,.int .i64 q.2.2],rfl,rdO Pt hw hS,decide (p=q),fun O w o1 o2=>Eo p q w o1 o2,?_⟩;refine dB.mk ?_ ?_<;>intro hd
  ·have hd:p=q:=aK hd;exact rtn hw fun ρe we re=>⟨_,rfl,by omega,iff_of_true (by omega) (hE.2 (by rw[hdr,hd];exact aG))⟩
  have hd:p≠q:=aH hd;rw[hdr,List.mem_cons,or_iff_right hd]at hE;refine⟨((i+1:Nat):Int),wo,?_⟩;intro ρ3 w6 r3;exact⟨(i+1,w6),⟨OQ,hw.tr r3.cL,hE⟩,Sub.gn [] r3,by dsimp only;omega⟩
 have OQ:i=xs.length:=aU hi (by simpa using OQ);rw[OQ,List.drop_length]at hE;exact rtn hw fun ρe we re=>⟨_,rfl,by omega,iff_of_false (by omega) fun h=>by cases hE.1 h⟩
theorem xR(hS:Old S w)(hn:mh w S vn xs)(p:Int×Int×Int):dx PG N.fN #[vn,Bb p] w (eH w fun v' _=>∃d,v'= .bool d∧(d=true↔p∈xs)):=by
 have hw:=bR w;obtain⟨an,cn,rfl,hcn,RV⟩:=hn.shape;refine iB (by simp) ?_;refine cB (cE hw (fun _ w' v w2=>∃r,v= .int .i64 r∧(-1<=r)∧(0<=r↔p∈xs)) (fun O w' r=>Ct (p:=p) (oS hS r) (mh.cC hn (kS hw r hS))) ?_);rintro O _ _ _ OZ r he hw h_ ⟨r0,rfl,hr0,Td⟩;exact rtn hw fun ρe we re=>⟨_,rfl,by rw[decide_eq_true_iff];exact Td⟩
def xS(w:World)(S:Nat->Prop)(g:Nat)(ks:List Value):Prop:=S g∧D7 w g ks
section
variable{S:Nat->Prop}{H:Hp}{nx:Nat}{iv iv':Iv}{B:Nat}{w w' w2:World}{O:Nat->Sx.dL}{g:Nat}{ks:List Value}
theorem xS.rel(h:xS w (Cv S B iv) g ks)(r:Rel H nx iv B w O w')(hS:∀g,S g->g<B):xS w' (Cv S B iv) g ks:=⟨h.1,h.2.cC (Rel.same r hS h.1)⟩
theorem xS.cD(h:xS w (Cv S B iv) g ks)(r:Rel H nx iv B w O w')(hS:∀g,S g->g<B)(he:Ext w' w2)(hm:∀p,p∈iv->p∈iv'):xS w2 (Cv S B iv') g ks:=
 ⟨h.1.mono hm,(h.rel r hS).2.cC (he.block g (Rel.old r hS g h.1))⟩
end
set_option maxHeartbeats 2000000 in
theorem Ep(hS:Old S w)(hf:dm w S vn vb vs f):dx PG N.rQ #[.agg #[vn,vb,vs]] w (eH w fun v' _=>v'= .int .i64 (eN f)):=by
 have hw:=bR w;obtain⟨an,cn,ab,cb,aq,cq,rfl,rfl,rfl,RV,RN,Sg⟩:=hf.shape;obtain⟨_,_,hsh,hcn,_⟩:=hf.nodes.shape;injection hsh with e1 e2 e3;subst e1 e3;refine vK (by simp) ?_;refine dB.mk ?_ ?_<;>intro h0
 ·have h0:=aK h0;exact rtn hw fun ρe we re=>by show Value.int .i64 _=_;rw[eN,if_pos (by omega)]
 have h0:=aH h0;refine dB.mk ?_ ?_<;>intro h1
 ·have h1:=aK h1;exact rtn hw fun ρe we re=>by show Value.int .i64 _=_;rw[eN,if_pos (by omega)]
 have h1:=aH h1;refine dB.mk ?_ ?_<;>intro h2
 ·have h2:=aK h2;exact rtn hw fun ρe we re=>by show Value.int .i64 _=_;rw[eN,if_pos (by omega)]
 have h2:=aH h2
 refine⟨Nat×World×Iv,fun z=>⟨[(1,pP 0 0),(30,sV an f.nodes.length cn),(31,iZ f.nodes.length),(32,iN z.1)],[(0,.box T.Frame [.v (.slice an f.nodes.length cn),.v (.slice ab f.bars.length cb),.v (.slice aq f.cM.length cq)])],1,z.2.2,z.2.1⟩,fun z=>f.nodes.length-z.1,
  fun z=>z.1<=f.nodes.length∧dT w.heap.size w z.2.1∧e9 eu [] f.nodes=e9 eu (f.nodes.take z.1) (f.nodes.drop z.1),?_,?_⟩
 ·intro O w' r3;exact⟨(0,w',[]),⟨aS _,hw.tr r3.cL,rfl⟩,Sub.gn [] r3⟩
 rintro⟨i,w1,iv⟩ ⟨hi,hw,hE⟩;dsimp only at hi hw hE ⊢;refine dB.mk ?_ ?_<;>intro OQ
 ·have OQ:i<f.nodes.length:=by simpa using OQ
  obtain⟨q,hx⟩:∃x,f.nodes[i]? =some x:=⟨_,aB OQ⟩
  obtain⟨adx,cs,Pu,hP,-,Pt⟩:=hf.nodes.load (by decide) hx;have hP:cs=[.int .i64 q.1,.int .i64 q.2.1,.int .i64 q.2.2]:=hP;subst hP;refine⟨adx,Pu,by omega,[.int .i64 q.1,.int .i64 q.2.1,.int .i64 q.2.2],rfl,rdO Pt hw hS,?_⟩;refine cB (cE hw (fun _ w' v w2=>∃d,v= .bool d∧(d=true↔mn q.1)) (fun O w' r=>kp _ w') ?_);rintro O PV v1 PL OZ r he hw h_ ⟨d0,rfl,Of⟩
  cases d0
  ·have Of:¬mn q.1:=fun h=>by have:=Of.2 h;cases this
   exact rtn hw fun ρe we re=>by show Value.int .i64 _=_;rw[eN,aI (by omega),if_pos (by rw[hE,cO hx (show eu (f.nodes.take i) q=2 by rw[eu,aI (fun h=>Of h.1)]) (by decide)];decide),hE,cO hx (show eu (f.nodes.take i) q=2 by rw[eu,aI (fun h=>Of h.1)]) (by decide)]
  replace Of:=Of.1 rfl;refine cB (cE hw (fun _ w' v w2=>∃d,v= .bool d∧(d=true↔mn q.2.1)) (fun O w' r=>kp _ w') ?_);rintro O QK v2 PR OU r he hw h_ ⟨d1,rfl,Ol⟩
  cases d1
  ·have Ol:¬mn q.2.1:=fun h=>by have:=Ol.2 h;cases this
   exact rtn hw fun ρe we re=>by show Value.int .i64 _=_;rw[eN,aI (by omega),if_pos (by rw[hE,cO hx (show eu (f.nodes.take i) q=2 by rw[eu,aI (fun h=>Ol h.2.1)]) (by decide)];decide),hE,cO hx (show eu (f.nodes.take i) q=2 by rw[eu,aI (fun h=>Ol h.2.1)]) (by decide)]
  replace Ol:=Ol.1 rfl;refine cB (cE hw (fun _ w' v w2=>∃d,v= .bool d∧(d=true↔mn q.2.2)) (fun O w' r=>kp _ w') ?_);rintro O PX v3 PW Oi r he hw h_ ⟨d2,rfl,Pf⟩
  cases d2
  ·have Pf:¬mn q.2.2:=fun h=>by have:=Pf.2 h;cases this
   exact rtn hw fun ρe we re=>by show Value.int .i64 _=_;rw[eN,aI (by omega),if_pos (by rw[hE,cO hx (show eu (f.nodes.take i) q=2 by rw[eu,aI (fun h=>Pf h.2.2)]) (by decide)];decide),hE,cO hx (show eu (f.nodes.take i) q=2 by rw[eu,aI (fun h=>Pf h.2.2)]) (by decide)]
  replace Pf:=Pf.1 rfl;refine j1 hτ dN (.x 0 (.x 2 (.ld 1 104 (.x 3 (.ld 4 96 (.x 5 (.x 6 .nil))))))) (by kernel_rfl) (by kernel_rfl) ?_;refine⟨⟨by omega,by omega,by omega⟩,an,i,cn,by rw[show ((0:Int).toNat*3)=0*3 from rfl,Kt];split<;>rfl,by simp,by simp,?_⟩;refine cE hw (fun _ w' v w2=>∃d,v= .bool d∧(d=true↔q∈f.nodes.take i)) (fun O w' r=>xR (p:=q) (oS hS r) (mh.cC (hf.nodes.take (Nat.le_of_lt OQ)) (kS hw r hS))) ?_;rintro O _ _ _ Ow r he hw h_ ⟨d3,rfl,hz3⟩
  cases d3
  ·have hz3:q∉f.nodes.take i:=fun h=>by have:=hz3.2 h;cases this
   rw[gL hx (s9.2 ⟨⟨Of,Ol,Pf⟩,hz3⟩)]at hE;refine⟨((i+1:Nat):Int),wo,?_⟩;intro ρ3 w6 r3;exact⟨(i+1,w6,_),⟨OQ,hw.tr r3.cL,hE⟩,Sub.gn [] r3,by dsimp only;omega⟩
  replace hz3:=hz3.1 rfl;exact rtn hw fun ρe we re=>by show Value.int .i64 _=_;rw[eN,aI (by omega),if_pos (by rw[hE,cO hx (show eu (f.nodes.take i) q=12 by rw[eu,if_pos ⟨Of,Ol,Pf⟩,if_pos hz3]) (by decide)];decide),hE,cO hx (show eu (f.nodes.take i) q=12 by rw[eu,if_pos ⟨Of,Ol,Pf⟩,if_pos hz3]) (by decide)]
 have OQ:i=f.nodes.length:=aU hi (by simpa using OQ);rw[ij (by omega)]at hE;refine vu (fun O wa wb r Te hg Oj=>?_);have PO:=(hw.tr r.cL).tr (dT.grown hg (fun x e=>by cases e) r.bz);have hB:w.heap.size<=wa.heap.size:=r.bz;have hM:xS wb (Cf w ((wa.heap.size,wa.heap.size+1)::iv)) wa.heap.size []:=⟨.inr ⟨hB,_,_,aG,Nat.le_refl _,bV _⟩,Te⟩
 generalize (wa.heap.size,wa.heap.size+1)::iv=OU at*
 obtain⟨gm,WZ⟩:∃gm,wa.heap.size=gm:=⟨_,rfl⟩
 rw[WZ]at hM ⊢;have hw:=PO
 refine⟨Nat×World×Iv,fun z=>⟨[(1,pP 0 0),(5,.o (.v (.map (some gm)))),(64,sV ab f.bars.length cb),(65,iZ f.bars.length),(66,iN z.1)],[(0,.box T.Frame [.v (.slice an f.nodes.length cn),.v (.slice ab f.bars.length cb),.v (.slice aq f.cM.length cq)])],1,z.2.2,z.2.1⟩,fun z=>f.bars.length-z.1,
  fun z=>z.1<=f.bars.length∧dT w.heap.size w z.2.1∧e9 (fH f.nodes.length) [] f.bars=e9 (fH f.nodes.length) (f.bars.take z.1) (f.bars.drop z.1)∧xS z.2.1 (Cf w z.2.2) gm ((f.bars.take z.1).map fun b=>nL (gG b)),?_,?_⟩
 ·intro O w' r3;exact⟨(0,w',OU),⟨aS _,hw.tr r3.cL,rfl,hM.rel r3 (bw w)⟩,Sub.gn [] r3⟩
 rintro⟨i,w1,iv⟩ ⟨hi,hw,Ov,hM⟩;dsimp only at hi hw Ov hM ⊢;refine dB.mk ?_ ?_<;>intro OQ
 ·have OQ:i<f.bars.length:=by simpa using OQ
  obtain⟨b,hx⟩:∃b,f.bars[i]? =some b:=⟨_,aB OQ⟩
  obtain⟨adb,cs,QM,hF,-,Pm⟩:=hf.bars.load (by decide) hx;obtain⟨g0,g1,g2,g3,g4,g5,g6,g7,rfl,hF⟩:=hF;refine⟨adb,QM,by omega,[.int .i64 b.1,.int .i64 b.2.1,.bool g0,.slice g1 g2 g3,.bool g4,.slice g5 g6 g7],rfl,rdO Pm hw hS,?_⟩;refine cB (cE hw (fun _ w' v w2=>∃d,v= .bool d∧(d=true↔jB f.nodes.length b.1)) (fun O w' r=>GV _ w' _ _ _ _ _ _ _ _ _) ?_);rintro O PV v1 PL OZ r he hw h_ ⟨d0,rfl,Of⟩;replace hM:=hM.cD r (bw w) he (mC h_)
  cases d0
  ·have Of:¬jB f.nodes.length b.1:=fun h=>by have:=Of.2 h;cases this
   exact rtn hw fun ρe we re=>by show Value.int .i64 _=_;rw[eN,aI (by omega),aI (by rw[hE];decide),if_pos (by rw[Ov,cO hx (show fH f.nodes.length (f.bars.take i) b=6 by rw[fH,aI (fun h=>Of h.1)]) (by decide)];decide),Ov,cO hx (show fH f.nodes.length (f.bars.take i) b=6 by rw[fH,aI (fun h=>Of h.1)]) (by decide)]
  replace Of:=Of.1 rfl;refine cB (cE hw (fun _ w' v w2=>∃d,v= .bool d∧(d=true↔jB f.nodes.length b.2.1)) (fun O w' r=>GV _ w' _ _ _ _ _ _ _ _ _) ?_);rintro O QK v2 PR OU r he hw h_ ⟨d1,rfl,Ol⟩;replace hM:=hM.cD r (bw w) he (mC h_)
  cases d1
  ·have Ol:¬jB f.nodes.length b.2.1:=fun h=>by have:=Ol.2 h;cases this
   exact rtn hw fun ρe we re=>by show Value.int .i64 _=_;rw[eN,aI (by omega),aI (by rw[hE];decide),if_pos (by rw[Ov,cO hx (show fH f.nodes.length (f.bars.take i) b=6 by rw[fH,aI (fun h=>Ol h.2)]) (by decide)];decide),Ov,cO hx (show fH f.nodes.length (f.bars.take i) b=6 by rw[fH,aI (fun h=>Ol h.2)]) (by decide)]
  replace Ol:=Ol.1 rfl;refine dB.mk ?_ ?_<;>intro PS
  ·have PS:b.1=b.2.1:=by simpa using PS
   exact rtn hw fun ρe we re=>by show Value.int .i64 _=_;rw[eN,aI (by omega),aI (by rw[hE];decide),if_pos (by rw[Ov,cO hx (show fH f.nodes.length (f.bars.take i) b=3 by rw[fH,if_pos ⟨Of,Ol⟩,if_pos PS]) (by decide)];decide),Ov,cO hx (show fH f.nodes.length (f.bars.take i) b=3 by rw[fH,if_pos ⟨Of,Ol⟩,if_pos PS]) (by decide)]
  have PS:b.1≠b.2.1:=by simpa using PS
  refine yI xp uP Bd rfl rfl (key:=nL (gG b)) (fun _=>rfl) ⟨_,rfl⟩ (fun k hk=>by obtain⟨x,_,rfl⟩:=aR.1 hk;exact⟨_,rfl⟩) (fun O w' r=>(hM.rel r (bw w)).2) (fun O w' d r hd=>?_);replace hw:=hw.tr r.cL;replace hM:=hM.rel r (bw w);replace hd:d=true↔gG b∈(f.bars.take i).map gG:=by
   rw[hd];constructor
   ·intro h;obtain⟨x,h1,h2⟩:=aR.1 h;exact aR.2 ⟨x,h1,qK h2⟩
   ·intro h;obtain⟨x,h1,h2⟩:=aR.1 h;exact aR.2 ⟨x,h1,congrArg nL h2⟩
  cases d
  ·have QS:gG b∉(f.bars.take i).map gG:=fun h=>by have:=hd.2 h;cases this
   refine cB (cE hw (fun _ w' v w2=>v= .int .i64 (rs b.2.2)) (fun O w' r=>(GK (oS hS r) (hF.v.cC (kS hw r hS)) (eJ.zero (S:=S)).v).mono fun _ _ ⟨v2,e1,e2,e3⟩=>⟨v2,e1,e2,by rw[e3,qJ]⟩) ?_);rintro O _ _ _ Oi r he hw h_ rfl;replace hM:=hM.cD r (bw w) he (mC h_);obtain⟨cf,Vr⟩:∃c,rs b.2.2=c:=⟨_,rfl⟩
   rw[Vr];refine dB.mk ?_ ?_<;>intro PM
   ·have PM:b.2.2<=0:=by have:=aK PM;rw[<-Rat.not_lt,<-lO];omega
    exact rtn hw fun ρe we re=>by show Value.int .i64 _=_;rw[eN,aI (by omega),aI (by rw[hE];decide),if_pos (by rw[Ov,cO hx (show fH f.nodes.length (f.bars.take i) b=2 by rw[fH,if_pos ⟨Of,Ol⟩,aI PS,aI QS,if_pos PM]) (by decide)];decide),Ov,cO hx (show fH f.nodes.length (f.bars.take i) b=2 by rw[fH,if_pos ⟨Of,Ol⟩,aI PS,aI QS,if_pos PM]) (by decide)]
   ·have PM:0<b.2.2:=by have:=aH PM;rw[<-lO];omega
    refine rM xp uP rfl rfl (key:=nL (gG b)) (fun _=>rfl) rfl ⟨_,rfl⟩ (fun k hk=>by obtain⟨x,_,rfl⟩:=aR.1 hk;exact⟨_,rfl⟩) (fun h=>by
     obtain⟨x,h1,h2⟩:=aR.1 h
     exact QS (aR.2 ⟨x,h1,qK h2⟩)) (fun O w' r=>⟨(hM.rel r (bw w)).2,Rel.not r (bw w) hM.1⟩) (fun O wa wb r Py hg Oj=>?_)
    replace hw:=(hw.tr r.cL).tr (dT.grown hg (fun x e=>by injection e with e;subst e;exact hM.1.elim (fun h=>h.elim) fun h=>h.1) r.bz);rw[show ((f.bars.take i).map fun b=>nL (gG b))++[nL (gG b)]=(f.bars.take (i+1)).map fun b=>nL (gG b) by rw[List.take_add_one,hx];simp]at Py;replace hM:xS wb (Cf w Oi) gm ((f.bars.take (i+1)).map fun b=>nL (gG b)):=⟨hM.1,Py⟩
    rw[gL hx (qo.2 ⟨⟨Of,Ol⟩,PS,QS,PM⟩)]at Ov;refine⟨((i+1:Nat):Int),wo,?_⟩;intro ρ3 w6 r3;exact⟨(i+1,w6,_),⟨OQ,hw.tr r3.cL,Ov,hM.rel r3 (bw w)⟩,Sub.gn [] r3,by dsimp only;omega⟩
  ·have hd:=hd.1 rfl;exact rtn hw fun ρe we re=>by show Value.int .i64 _=_;rw[eN,aI (by omega),aI (by rw[hE];decide),if_pos (by rw[Ov,cO hx (show fH f.nodes.length (f.bars.take i) b=5 by rw[fH,if_pos ⟨Of,Ol⟩,aI PS,if_pos hd]) (by decide)];decide),Ov,cO hx (show fH f.nodes.length (f.bars.take i) b=5 by rw[fH,if_pos ⟨Of,Ol⟩,aI PS,if_pos hd]) (by decide)]
 have OQ:i=f.bars.length:=aU hi (by simpa using OQ);rw[ij (by omega)]at Ov;have hE1:=Ov;refine vu (fun O wa wb r Te hg Oj=>?_);have PO:=(hw.tr r.cL).tr (dT.grown hg (fun x e=>by cases e) r.bz);have hB:w.heap.size<=wa.heap.size:=r.bz;have hM:xS wb (Cf w ((wa.heap.size,wa.heap.size+1)::iv)) wa.heap.size []:=⟨.inr ⟨hB,_,_,aG,Nat.le_refl _,bV _⟩,Te⟩
 generalize (wa.heap.size,wa.heap.size+1)::iv=OU at*
 obtain⟨gm,WZ⟩:∃gm,wa.heap.size=gm:=⟨_,rfl⟩
 rw[WZ]at hM ⊢;have hw:=PO
 refine⟨Nat×World×Iv,fun z=>⟨[(1,pP 0 0),(9,.o (.v (.map (some gm)))),(115,sV aq f.cM.length cq),(116,iZ f.cM.length),(117,iN z.1)],[(0,.box T.Frame [.v (.slice an f.nodes.length cn),.v (.slice ab f.bars.length cb),.v (.slice aq f.cM.length cq)])],1,z.2.2,z.2.1⟩,fun z=>f.cM.length-z.1,
  fun z=>z.1<=f.cM.length∧dT w.heap.size w z.2.1∧e9 (kM f.nodes.length) [] f.cM=e9 (kM f.nodes.length) (f.cM.take z.1) (f.cM.drop z.1)∧xS z.2.1 (Cf w z.2.2) gm ((f.cM.take z.1).map fun b=>nL (iY b)),?_,?_⟩
 ·intro O w' r3;exact⟨(0,w',OU),⟨aS _,hw.tr r3.cL,rfl,hM.rel r3 (bw w)⟩,Sub.gn [] r3⟩
 rintro⟨i,w1,iv⟩ ⟨hi,hw,Ov,hM⟩;dsimp only at hi hw Ov hM ⊢;refine dB.mk ?_ ?_<;>intro OQ
 ·have OQ:i<f.cM.length:=by simpa using OQ
  obtain⟨b,hx⟩:∃b,f.cM[i]? =some b:=⟨_,aB OQ⟩
  obtain⟨adb,cs,QM,hF,-,Pm⟩:=hf.cM.load (by decide) hx;obtain⟨g0,g1,g2,g3,g4,g5,g6,g7,rfl,hF⟩:=hF;refine⟨adb,QM,by omega,[.int .i64 b.1,.int .i64 b.2.1,.bool g0,.slice g1 g2 g3,.bool g4,.slice g5 g6 g7],rfl,rdO Pm hw hS,?_⟩;refine cB (cE hw (fun _ w' v w2=>∃d,v= .bool d∧(d=true↔jB f.nodes.length b.1)) (fun O w' r=>GV _ w' _ _ _ _ _ _ _ _ _) ?_);rintro O _ _ _ OZ r he hw h_ ⟨d0,rfl,Of⟩;replace hM:=hM.cD r (bw w) he (mC h_)
  cases d0
  ·have Of:¬jB f.nodes.length b.1:=fun h=>by have:=Of.2 h;cases this
   exact rtn hw fun ρe we re=>by show Value.int .i64 _=_;rw[eN,aI (by omega),aI (by rw[hE];decide),aI (by rw[hE1];decide),Ov,cO hx (show kM f.nodes.length (f.cM.take i) b=6 by rw[kM,aI Of]) (by decide)]
  replace Of:=Of.1 rfl;refine dB.mk ?_ ?_<;>intro Rn
  ·have Rn:=aK Rn;exact rtn hw fun ρe we re=>by show Value.int .i64 _=_;rw[eN,aI (by omega),aI (by rw[hE];decide),aI (by rw[hE1];decide),Ov,cO hx (show kM f.nodes.length (f.cM.take i) b=2 by rw[kM,if_pos Of,aI (fun h=>by omega)]) (by decide)]
  have Rn:=aH Rn;refine dB.mk ?_ ?_<;>intro RZ
  ·have RZ:=aK RZ;exact rtn hw fun ρe we re=>by show Value.int .i64 _=_;rw[eN,aI (by omega),aI (by rw[hE];decide),aI (by rw[hE1];decide),Ov,cO hx (show kM f.nodes.length (f.cM.take i) b=2 by rw[kM,if_pos Of,aI (fun h=>by omega)]) (by decide)]
  have RZ:=aH RZ;have Pu:0<=b.2.1∧b.2.1<=2:=by omega
  refine yI xp uP Bd rfl rfl (key:=nL (iY b)) (fun _=>rfl) ⟨_,rfl⟩ (fun k hk=>by obtain⟨x,_,rfl⟩:=aR.1 hk;exact⟨_,rfl⟩) (fun O w' r=>(hM.rel r (bw w)).2) (fun O w' d r hd=>?_);replace hw:=hw.tr r.cL;replace hM:=hM.rel r (bw w);replace hd:d=true↔iY b∈(f.cM.take i).map iY:=by
   rw[hd];constructor
   ·intro h;obtain⟨x,h1,h2⟩:=aR.1 h;exact aR.2 ⟨x,h1,qK h2⟩
   ·intro h;obtain⟨x,h1,h2⟩:=aR.1 h;exact aR.2 ⟨x,h1,congrArg nL h2⟩
  cases d
  ·have QS:iY b∉(f.cM.take i).map iY:=fun h=>by have:=hd.2 h;cases this
   refine cB (cE hw (fun _ w' v w2=>v= .int .i64 (rs b.2.2)) (fun O w' r=>(GK (oS hS r) (hF.v.cC (kS hw r hS)) (eJ.zero (S:=S)).v).mono fun _ _ ⟨v2,e1,e2,e3⟩=>⟨v2,e1,e2,by rw[e3,qJ]⟩) ?_);rintro O _ _ _ OU r he hw h_ rfl;replace hM:=hM.cD r (bw w) he (mC h_);obtain⟨cf,Vr⟩:∃c,rs b.2.2=c:=⟨_,rfl⟩
   rw[Vr];refine dB.mk ?_ ?_<;>intro PM
   ·have PM:b.2.2<0:=by have:=aK PM;rw[<-lS];omega
    exact rtn hw fun ρe we re=>by show Value.int .i64 _=_;rw[eN,aI (by omega),aI (by rw[hE];decide),aI (by rw[hE1];decide),Ov,cO hx (show kM f.nodes.length (f.cM.take i) b=2 by rw[kM,if_pos Of,if_pos Pu,aI QS,if_pos PM]) (by decide)]
   ·have PM:0<=b.2.2:=by have:=aH PM;rw[<-Rat.not_lt,<-lS];omega
    refine rM xp uP rfl rfl (key:=nL (iY b)) (fun _=>rfl) rfl ⟨_,rfl⟩ (fun k hk=>by obtain⟨x,_,rfl⟩:=aR.1 hk;exact⟨_,rfl⟩) (fun h=>by
     obtain⟨x,h1,h2⟩:=aR.1 h
     exact QS (aR.2 ⟨x,h1,qK h2⟩)) (fun O w' r=>⟨(hM.rel r (bw w)).2,Rel.not r (bw w) hM.1⟩) (fun O wa wb r Py hg Oj=>?_)
    replace hw:=(hw.tr r.cL).tr (dT.grown hg (fun x e=>by injection e with e;subst e;exact hM.1.elim (fun h=>h.elim) fun h=>h.1) r.bz);rw[show ((f.cM.take i).map fun b=>nL (iY b))++[nL (iY b)]=(f.cM.take (i+1)).map fun b=>nL (iY b) by rw[List.take_add_one,hx];simp]at Py;replace hM:xS wb (Cf w OU) gm ((f.cM.take (i+1)).map fun b=>nL (iY b)):=⟨hM.1,Py⟩
    rw[gL hx (qn.2 ⟨Of,Pu,QS,PM⟩)]at Ov;refine⟨((i+1:Nat):Int),wo,?_⟩;intro ρ3 w6 r3;exact⟨(i+1,w6,_),⟨OQ,hw.tr r3.cL,Ov,hM.rel r3 (bw w)⟩,Sub.gn [] r3,by dsimp only;omega⟩
  ·have hd:=hd.1 rfl;exact rtn hw fun ρe we re=>by show Value.int .i64 _=_;rw[eN,aI (by omega),aI (by rw[hE];decide),aI (by rw[hE1];decide),Ov,cO hx (show kM f.nodes.length (f.cM.take i) b=5 by rw[kM,if_pos Of,if_pos Pu,if_pos hd]) (by decide)]
 have OQ:i=f.cM.length:=aU hi (by simpa using OQ);rw[ij (by omega)]at Ov;exact rtn hw fun ρe we re=>by show Value.int .i64 _=_;rw[eN,aI (by omega),aI (by rw[hE];decide),aI (by rw[hE1];decide),Ov]
theorem zw(hS:Old S w)(hf:dm w S vn vb vs f)(hl:jS w S vl l):dx PG N.lI #[.agg #[vn,vb,vs],vl] w (eH w fun v' _=>v'= .int .i64 (kN f l)):=by
 have hw:=bR w;obtain⟨an,cn,ab,cb,aq,cq,rfl,rfl,rfl,RV,RN,Sg⟩:=hf.shape;obtain⟨al,cl,rfl,PY,Qo⟩:=hl.shape;refine om (by simp) ?_;refine cB (cE hw (fun _ w' v w2=>v= .int .i64 (eN f)) (fun O w' r=>Ep (oS hS r) (hf.cC (kS hw r hS))) ?_);rintro O _ _ _ OZ r he hw h_ rfl;obtain⟨c,hc⟩:∃c,eN f=c:=⟨_,rfl⟩
 rw[hc];refine dB.mk ?_ ?_<;>intro hd
 ·have hd:c≠0:=by simpa using hd
  exact rtn hw fun ρe we re=>by show Value.int .i64 _=_;rw[kN,if_pos (by rw[hc];exact hd),hc]
 have hd:c=0:=by simpa using hd
 refine cB (cE hw (fun _ w' v w2=>v= .int .i64 (uO f.nodes.length l)) (fun O w' r=>Al (oS hS r) (hl.cC (kS hw r hS))) ?_);rintro O _ _ _ OU r he hw h_ rfl;exact rtn hw fun ρe we re=>by show Value.int .i64 _=_;rw[kN,aI (by rw[hc,hd];decide)]
structure Calm(f:ed)(h:Nat):Prop where
 ok:wY f
 c0:0<f.cols
 b2:Ef (cY f) f.cols h
 a2:Ht (dh (cY f) f.cols).1 h
 st:kc (cY f) f.cols=[]
 hh:3*h<=90000
structure aA6(f:ed)(l:List Ld)(h:Nat)(x:List Rat):Prop where
 ok:Em f.nodes.length l
 b1:Ef (kG (cY f) (df (mi f l) (-1))) (f.cols+1) h
 x:nm (cY f) (df (mi f l) (-1)) f.cols=some x
theorem Er(f:ed)(l:List Ld):(mi f l).length=3*f.nodes.length:=by rw[mi,ew,aL,oR]
theorem uQ(a b:List Rat):(lz a b).length=a.length:=List.length_mapIdx ..
set_option maxRecDepth 100000
theorem eJ.zeroV:eJ w S (.agg #[.bool false,.slice none 0 0,.bool false,.slice none 0 0]) 0:=eJ.zero
structure gM(w:World)(S:Nat->Prop)(css:List (List Value))(qs:List Rat):Prop where
 len:css.length=qs.length
 four:∀cs∈css,cs.length=4
 at_:∀(j:Nat) cs q,css[j]? =some cs->qs[j]? =some q->jA w S cs q
section
variable{S S':Nat->Prop}{H:Hp}{nx:Nat}{iv iv':Iv}{B:Nat}{w w' w2:World}{O:Nat->Sx.dL}{css:List (List Value)}{qs:List Rat}
theorem gM.nil:gM w S [] []:=⟨rfl,fun _ h=>(by cases h),fun _ _ _ h=>by cases h⟩
theorem gM.cC(h:gM w S css qs)(hk:∀g,S g->w2.heap[g]? =w.heap[g]?):gM w2 S css qs:=⟨h.len,h.four,fun j cs q h1 h2=>by
 obtain⟨b,a,n,c,b2,a2,n2,c2,e,hr⟩:=h.at_ j cs q h1 h2
 exact⟨b,a,n,c,b2,a2,n2,c2,e,hr.cC hk⟩⟩
theorem gM.cF(h:gM w S css qs)(hk:∀g,S g->S' g):gM w S' css qs:=⟨h.len,h.four,fun j cs q h1 h2=>by
 obtain⟨b,a,n,c,b2,a2,n2,c2,e,hr⟩:=h.at_ j cs q h1 h2
 exact⟨b,a,n,c,b2,a2,n2,c2,e,hr.cF hk⟩⟩
theorem gM.push(h:gM w S css qs)(hc:jA w S cs q)(h4:cs.length=4):gM w S (css++[cs]) (qs++[q]):=by
 refine⟨by simp[h.len],fun x hx=>?_,fun j x p h1 h2=>?_⟩
 ·rcases List.mem_append.1 hx with hx|hx
  ·exact h.four x hx
  ·rw[bF.1 hx];exact h4
 ·rcases aP j css.length with hi|hi
  ·rw[aJ hi]at h1;rw[aJ (by rw[<-h.len];exact hi)]at h2;exact h.at_ j x p h1 h2
  ·have RX:j=css.length:=by have:=(aD.1 h1).1;simp at this;omega
   subst RX;rw[aN (Nat.le_refl _),bB]at h1;rw[h.len,aN (Nat.le_refl _),bB]at h2;simp at h1 h2;subst h1 h2;exact hc
theorem gM.one(h:gM w S css qs):∀u∈css.flatten,u.oneCell'=true:=fun u hu=>by
 obtain⟨cs,hc,hu⟩:=List.mem_flatten.1 hu;obtain⟨j,hj⟩:=aQ hc;obtain⟨_,_,_,_,_,_,_,_,rfl,_⟩:=h.at_ j cs _ hj (aB (by rw[<-h.len];exact(aD.1 hj).1));simp at hu;rcases hu with rfl|rfl|rfl|rfl<;>rfl
theorem gM.list(h:gM w S css qs)(hs:iu w S 4 v css.flatten css.length):cS w S v qs:=⟨css,h.len▸hs,h.len,h.four,h.at_⟩
end
theorem dm.dD{w' w2:World}{B:Nat}{iv:Iv}(h:dm w2 (Nf w' w2) vn vb vs f)(hB:B<=w'.heap.size)(hm:(w'.heap.size,w2.heap.size)∈iv):dm w2 (Cv FF B iv) vn vb vs f:=h.cF fun _ hg=>hg.dD hB hm
def Es(cs:List Value):Prop:=∃b a n c b2 a2 n2 c2,cs=[.bool b,.slice a n c,.bool b2,.slice a2 n2 c2]∧n<=3∧n2<=3
theorem Cu(a:Addr)(m n:Nat):(a.add m).add n=a.add (m+n):=by
 unfold Addr.add;split<;>split<;>simp_all<;>omega
theorem iD.l3{b1 b2:Bool}{a1 a2:Option Addr}{n1 n2 c1 c2:Nat}{a b:Int}(h:iD w S (.agg #[.bool b1,.slice a1 n1 c1,.bool b2,.slice a2 n2 c2]) a b)(hf:Es [.bool b1,.slice a1 n1 c1,.bool b2,.slice a2 n2 c2]):
  eJ w S (.agg #[.bool b1,.slice a1 n1 c1,.bool b2,.slice a2 n2 c2]) (ratio a b)∧rl (ratio a b)<=3:=by
 obtain⟨_,_,_,_,_,_,_,_,e,k1,k2⟩:=hf;simp only[List.cons.injEq,Value.slice.injEq,Value.bool.injEq,and_true]at e;obtain⟨rfl,⟨rfl,rfl,rfl⟩,rfl,rfl,rfl,rfl⟩:=e;obtain⟨b1,l1,b2,l2,e,h1,h2⟩:=h;simp only[Value.agg.injEq,Array.mk.injEq,List.cons.injEq,Value.bool.injEq,and_true]at e;obtain⟨rfl,rfl,rfl,rfl⟩:=e;have g1:=h1.short k1;have g2:=h2.short k2;have r1:=g1.ln;have r2:=g2.ln;have hr:=gY a b;refine⟨⟨_,_,_,_,a,b,rfl,?_,?_,rfl⟩,by omega⟩
 ·obtain⟨ng,ls,i1,i2,i3⟩:=g1;exact⟨ng,ls,i1,i2,by omega⟩
 ·obtain⟨ng,ls,i1,i2,i3⟩:=g2;exact⟨ng,ls,i1,i2,by omega⟩
end Go.Ex
namespace Go.Ex
theorem aAN{a b x p q:Rat}(h1:a<x)(h2:x<=b):(p<=q->p<=p+(x-a) / (b-a)*(q-p)∧p+(x-a) / (b-a)*(q-p)<=q)∧(q<=p->q<=p+(x-a) / (b-a)*(q-p)∧p+(x-a) / (b-a)*(q-p)<=p):=by
 have hd:0<b-a:=by grind
 have hi:0<=(b-a)⁻¹:=Rat.le_of_lt (Rat.inv_pos.2 hd);obtain⟨t,ht⟩:∃t,(x-a) / (b-a)=t:=⟨_,rfl⟩
 have t0:0<=t:=by rw[<-ht,bK];exact Rat.mul_nonneg (by grind) hi
 have t1:t<=1:=by
  rw[<-ht,bK,<-Rat.mul_inv_cancel (b-a) (by grind)];exact Rat.mul_le_mul_of_nonneg_right (by grind) hi
 rw[ht];refine⟨fun h=>?_,fun h=>?_⟩
 ·have k1:0<=t*(q-p):=Rat.mul_nonneg t0 (by grind);have k2:t*(q-p)<=1*(q-p):=Rat.mul_le_mul_of_nonneg_right t1 (by grind);grind
 ·have k1:0<=t*(p-q):=Rat.mul_nonneg t0 (by grind);have k2:t*(p-q)<=1*(p-q):=Rat.mul_le_mul_of_nonneg_right t1 (by grind);have k3:t*(q-p)= -(t*(p-q)):=by grind
  grind
end Go.Ex
namespace Go.Ex
open Go Go.Sx Go.Proofs
variable{p:Int×Int×(Int×Int)}{xs:List (Int×Int×(Int×Int))}{css:List (List Value)}{cs:List Value}{S:Nat->Prop}{ax:Option Addr}{v vb vn vs:Value}{w:World}{f:ed}
theorem oU(c b:Int×Int×Rat):gG c=gG b↔(c.1=b.1∧c.2.1=b.2.1)∨(c.1=b.2.1∧c.2.1=b.1):=by
 unfold gG;rw[Prod.mk.injEq];omega
theorem Cw(c b:Int×Int×Rat):iY c=iY b↔c.1=b.1∧c.2.1=b.2.1:=by
 unfold iY;rw[Prod.mk.injEq]
section
variable{α β:Type}{L:List α}{K:α->β}{x:β}
theorem lT{k:Nat}{c:α}(hc:L[k]? =some c)(h:K c≠x)(hE:x∈L.map K↔x∈(L.drop k).map K):x∈L.map K↔x∈(L.drop (k+1)).map K:=by
 rw[hE,List.drop_eq_getElem_cons (aD.1 hc).1,(aD.1 hc).2,List.map_cons,List.mem_cons,or_iff_right fun e=>h e.symm]
theorem uS{k:Nat}{c:α}(hc:L[k]? =some c)(h:K c=x):x∈L.map K:=aR.2 ⟨c,aE hc,h⟩
theorem Cx{k:Nat}(hk:L.length<=k)(hE:x∈L.map K↔x∈(L.drop k).map K):x∉L.map K:=fun h=>by
 have:=hE.1 h;rw[List.drop_eq_nil_of_le hk]at this
 cases this
end
theorem qt(n:Int)(an ab aq:Option Addr)(ln cn nb cb nq cq:Nat)(w:World):dx PG N.tW #[.agg #[.slice an ln cn,.slice ab nb cb,.slice aq nq cq],.int .i64 n] w (eH w fun v' _=>∃d,v'= .bool d∧(d=true↔jB ln n)):=by
 have hw:=bR w;refine xB (by simp) ?_;refine dB.mk ?_ ?_<;>intro h1
 ·intro ρe we re;have h1:=aK h1;exact⟨_,rfl,hw.tr re.cL,_,rfl,by rw[decide_eq_true_iff];exact⟨fun h=>⟨h1,h⟩,fun h=>h.2⟩⟩
 ·intro ρe we re;have h1:=aH h1;exact⟨_,rfl,hw.tr re.cL,_,rfl,(fun h=>by cases h),fun h=>absurd h.1 h1⟩
theorem lV(n lo hi:Int)(w:World):dx PG N.wM #[.int .i64 n,.int .i64 lo,.int .i64 hi] w (eH w fun v' _=>∃d,v'= .bool d∧(d=true↔lo<=n∧n<=hi)):=by
 have hw:=bR w;refine zV (by simp) ?_;refine dB.mk ?_ ?_<;>intro h1
 ·intro ρe we re;have h1:=aK h1;exact⟨_,rfl,hw.tr re.cL,_,rfl,by rw[decide_eq_true_iff];exact⟨fun h=>⟨h1,h⟩,fun h=>h.2⟩⟩
 ·intro ρe we re;have h1:=aH h1;exact⟨_,rfl,hw.tr re.cL,_,rfl,(fun h=>by cases h),fun h=>absurd h.1 h1⟩
theorem zy{q:Rat}(hS:Old S w)(hp:eJ w S v q):dx PG N.kj #[v] w (eH w fun v' _=>v'= .int .i64 (rs q)):=by
 obtain⟨a,b,h1,rfl,_,_⟩:=hp.v;exact zz hS h1
set_option maxHeartbeats 2000000 in
theorem Kw(hS:Old S w)(hf:dm w S vn vb vs f):dx PG N.wJ #[.agg #[vn,vb,vs]] w (eH w fun v' _=>v'= .int .i64 (eN f)):=by
 have hw:=bR w;obtain⟨an,cn,ab,cb,aq,cq,rfl,rfl,rfl,RV,RN,Sg⟩:=hf.shape;refine zS (by simp) ?_;refine dB.mk ?_ ?_<;>intro h0
 ·have h0:=aK h0;exact rtn hw fun ρe we re=>by show Value.int .i64 _=_;rw[eN,if_pos (by omega)]
 have h0:=aH h0;refine dB.mk ?_ ?_<;>intro h1
 ·have h1:=aK h1;exact rtn hw fun ρe we re=>by show Value.int .i64 _=_;rw[eN,if_pos (by omega)]
 have h1:=aH h1;refine dB.mk ?_ ?_<;>intro h2
 ·have h2:=aK h2;exact rtn hw fun ρe we re=>by show Value.int .i64 _=_;rw[eN,if_pos (by omega)]
 have h2:=aH h2
 refine⟨Nat×World×Iv,fun z=>⟨[(1,pP 0 0),(3,iN z.1)],[(0,.box T.Frame [.v (.slice an f.nodes.length cn),.v (.slice ab f.bars.length cb),.v (.slice aq f.cM.length cq)])],1,z.2.2,z.2.1⟩,fun z=>f.nodes.length-z.1,
  fun z=>z.1<=f.nodes.length∧dT w.heap.size w z.2.1∧e9 eu [] f.nodes=e9 eu (f.nodes.take z.1) (f.nodes.drop z.1),?_,?_⟩
 ·intro O w' r3;exact⟨(0,w',_),⟨aS _,hw.tr r3.cL,rfl⟩,Sub.gn [] r3⟩
 rintro⟨i,w1,iv⟩ ⟨hi,hw,hE⟩;dsimp only at hi hw hE ⊢;refine dB.mk ?_ ?_<;>intro OQ
 ·have OQ:i<f.nodes.length:=by simpa using OQ
  obtain⟨b,hx⟩:∃b,f.nodes[i]? =some b:=⟨_,aB OQ⟩
  have hLl:(f.nodes.take i).length=i:=by rw[aZ];omega
  obtain⟨adb,cs,QM,hF,-,Pm⟩:=hf.nodes.load (by decide) hx;have hF:cs=[.int .i64 b.1,.int .i64 b.2.1,.int .i64 b.2.2]:=hF;subst hF;refine⟨adb,QM,by omega,[.int .i64 b.1,.int .i64 b.2.1,.int .i64 b.2.2],rfl,rdO Pm hw hS,?_⟩;refine cB (cE hw (fun _ w' v w2=>∃d,v= .bool d∧(d=true↔mn b.1)) (fun O w' r=>lV _ _ _ w') ?_);rintro O PV v1 PL OZ r he hw h_ ⟨d0,rfl,Of⟩
  cases d0
  ·have Of:¬mn b.1:=fun h=>by have:=Of.2 h;cases this
   exact rtn hw fun ρe we re=>by show Value.int .i64 _=_;rw[eN,aI (by omega),if_pos (by rw[hE,cO hx (show eu (f.nodes.take i) b=2 by rw[eu,aI (fun h=>Of h.1)]) (by decide)];decide),hE,cO hx (show eu (f.nodes.take i) b=2 by rw[eu,aI (fun h=>Of h.1)]) (by decide)]
  replace Of:=Of.1 rfl;refine cB (cE hw (fun _ w' v w2=>∃d,v= .bool d∧(d=true↔mn b.2.1)) (fun O w' r=>lV _ _ _ w') ?_);rintro O QK v2 PR OU r he hw h_ ⟨d1,rfl,Ol⟩
  cases d1
  ·have Ol:¬mn b.2.1:=fun h=>by have:=Ol.2 h;cases this
   exact rtn hw fun ρe we re=>by show Value.int .i64 _=_;rw[eN,aI (by omega),if_pos (by rw[hE,cO hx (show eu (f.nodes.take i) b=2 by rw[eu,aI (fun h=>Ol h.2.1)]) (by decide)];decide),hE,cO hx (show eu (f.nodes.take i) b=2 by rw[eu,aI (fun h=>Ol h.2.1)]) (by decide)]
  replace Ol:=Ol.1 rfl;refine cB (cE hw (fun _ w' v w2=>∃d,v= .bool d∧(d=true↔mn b.2.2)) (fun O w' r=>lV _ _ _ w') ?_);rintro O PX v3 PW Oi r he hw h_ ⟨d2,rfl,Pf⟩
  cases d2
  ·have Pf:¬mn b.2.2:=fun h=>by have:=Pf.2 h;cases this
   exact rtn hw fun ρe we re=>by show Value.int .i64 _=_;rw[eN,aI (by omega),if_pos (by rw[hE,cO hx (show eu (f.nodes.take i) b=2 by rw[eu,aI (fun h=>Pf h.2.2)]) (by decide)];decide),hE,cO hx (show eu (f.nodes.take i) b=2 by rw[eu,aI (fun h=>Pf h.2.2)]) (by decide)]
  replace Pf:=Pf.1 rfl
  refine⟨Nat×World,fun z=>⟨[(1,pP 0 0),(3,iN i),(4,pP 1 0),(5,iN z.1)],[(1,.box T.Node [.v (.int .i64 b.1),.v (.int .i64 b.2.1),.v (.int .i64 b.2.2)]),(0,.box T.Frame [.v (.slice an f.nodes.length cn),.v (.slice ab f.bars.length cb),.v (.slice aq f.cM.length cq)])],2,Oi,z.2⟩,fun z=>i-z.1,
   fun z=>z.1<=i∧dT w.heap.size w z.2∧(b∈(f.nodes.take i).map id↔b∈((f.nodes.take i).drop z.1).map id),?_,?_⟩
  ·intro O w' r3;exact⟨(0,w'),⟨aS _,hw.tr r3.cL,Iff.rfl⟩,Sub.gn [] r3⟩
  rintro⟨k,w2⟩ ⟨hk,hw,hK⟩;dsimp only at hk hw hK ⊢;refine dB.mk ?_ ?_<;>intro OT
  ·have OT:k<i:=by have:=aK OT;omega
   obtain⟨c,hc⟩:∃c,f.nodes[k]? =some c:=⟨_,aB (by omega)⟩
   have Sh:(f.nodes.take i)[k]? =some c:=by rw[bO OT];exact hc
   obtain⟨adc,cs2,Wa,Rz,-,TE⟩:=hf.nodes.load (by decide) hc;have Rz:cs2=[.int .i64 c.1,.int .i64 c.2.1,.int .i64 c.2.2]:=Rz;subst Rz;refine cH hτ dN [.x 0,.x 1,.x 2,.x 3,.x 4,.x 5,.x 6] (by kernel_rfl) (by kernel_rfl) ?_;refine⟨adc,Wa,by omega,[.int .i64 c.1,.int .i64 c.2.1,.int .i64 c.2.2],rfl,rdO TE hw hS,decide (c=b),fun O w o1 o2=>Eo c b w o1 o2,?_⟩;refine dB.mk ?_ ?_<;>intro hd
   ·have hd:c=b:=aK hd;have Qy:b∈f.nodes.take i:=by have:=uS (K:=id) Sh hd;rwa [List.map_id]at this
    exact rtn hw fun ρe we re=>by show Value.int .i64 _=_;rw[eN,aI (by omega),if_pos (by rw[hE,cO hx (show eu (f.nodes.take i) b=12 by rw[eu,if_pos ⟨Of,Ol,Pf⟩,if_pos Qy]) (by decide)];decide),hE,cO hx (show eu (f.nodes.take i) b=12 by rw[eu,if_pos ⟨Of,Ol,Pf⟩,if_pos Qy]) (by decide)]
   have hd:c≠b:=aH hd;have Rq:=lT (K:=id) Sh hd hK;refine⟨((k+1:Nat):Int),wo,?_⟩;intro ρ3 w6 r3;exact⟨(k+1,w6),⟨OT,hw.tr r3.cL,Rq⟩,Sub.gn [] r3,by dsimp only;omega⟩
  have OT:k=i:=by have:=aH OT;omega
  have QS:=Cx (by rw[hLl];omega) hK;rw[List.map_id]at QS;rw[gL hx (s9.2 ⟨⟨Of,Ol,Pf⟩,QS⟩)]at hE;refine⟨((i+1:Nat):Int),wo,?_⟩;intro ρ3 w6 r3;exact⟨(i+1,w6,_),⟨OQ,hw.tr r3.cL,hE⟩,Sub.gn [] r3,by dsimp only;omega⟩
 have OQ:i=f.nodes.length:=aU hi (by simpa using OQ);rw[ij (by omega)]at hE
 refine⟨Nat×World×Iv,fun z=>⟨[(1,pP 0 0),(6,iN z.1)],[(0,.box T.Frame [.v (.slice an f.nodes.length cn),.v (.slice ab f.bars.length cb),.v (.slice aq f.cM.length cq)])],1,z.2.2,z.2.1⟩,fun z=>f.bars.length-z.1,
  fun z=>z.1<=f.bars.length∧dT w.heap.size w z.2.1∧e9 (fH f.nodes.length) [] f.bars=e9 (fH f.nodes.length) (f.bars.take z.1) (f.bars.drop z.1),?_,?_⟩
 ·intro O w' r3;exact⟨(0,w',_),⟨aS _,hw.tr r3.cL,rfl⟩,Sub.gn [] r3⟩
 rintro⟨i,w1,iv⟩ ⟨hi,hw,Ov⟩;dsimp only at hi hw Ov ⊢;refine dB.mk ?_ ?_<;>intro OQ
 ·have OQ:i<f.bars.length:=by simpa using OQ
  obtain⟨b,hx⟩:∃b,f.bars[i]? =some b:=⟨_,aB OQ⟩
  have hLl:(f.bars.take i).length=i:=by rw[aZ];omega
  obtain⟨adb,cs,QM,hF,-,Pm⟩:=hf.bars.load (by decide) hx;obtain⟨g0,g1,g2,g3,g4,g5,g6,g7,rfl,hF⟩:=hF;refine⟨adb,QM,by omega,[.int .i64 b.1,.int .i64 b.2.1,.bool g0,.slice g1 g2 g3,.bool g4,.slice g5 g6 g7],rfl,rdO Pm hw hS,?_⟩;refine cB (cE hw (fun _ w' v w2=>∃d,v= .bool d∧(d=true↔jB f.nodes.length b.1)) (fun O w' r=>qt _ _ _ _ _ _ _ _ _ _ w') ?_);rintro O PV v1 PL OZ r he hw h_ ⟨d0,rfl,Of⟩
  cases d0
  ·have Of:¬jB f.nodes.length b.1:=fun h=>by have:=Of.2 h;cases this
   exact rtn hw fun ρe we re=>by show Value.int .i64 _=_;rw[eN,aI (by omega),aI (by rw[hE];decide),if_pos (by rw[Ov,cO hx (show fH f.nodes.length (f.bars.take i) b=6 by rw[fH,aI (fun h=>Of h.1)]) (by decide)];decide),Ov,cO hx (show fH f.nodes.length (f.bars.take i) b=6 by rw[fH,aI (fun h=>Of h.1)]) (by decide)]
  replace Of:=Of.1 rfl;refine cB (cE hw (fun _ w' v w2=>∃d,v= .bool d∧(d=true↔jB f.nodes.length b.2.1)) (fun O w' r=>qt _ _ _ _ _ _ _ _ _ _ w') ?_);rintro O QK v2 PR OU r he hw h_ ⟨d1,rfl,Ol⟩
  cases d1
  ·have Ol:¬jB f.nodes.length b.2.1:=fun h=>by have:=Ol.2 h;cases this
   exact rtn hw fun ρe we re=>by show Value.int .i64 _=_;rw[eN,aI (by omega),aI (by rw[hE];decide),if_pos (by rw[Ov,cO hx (show fH f.nodes.length (f.bars.take i) b=6 by rw[fH,aI (fun h=>Ol h.2)]) (by decide)];decide),Ov,cO hx (show fH f.nodes.length (f.bars.take i) b=6 by rw[fH,aI (fun h=>Ol h.2)]) (by decide)]
  replace Ol:=Ol.1 rfl;refine dB.mk ?_ ?_<;>intro PS
  ·have PS:b.1=b.2.1:=by simpa using PS
   exact rtn hw fun ρe we re=>by show Value.int .i64 _=_;rw[eN,aI (by omega),aI (by rw[hE];decide),if_pos (by rw[Ov,cO hx (show fH f.nodes.length (f.bars.take i) b=3 by rw[fH,if_pos ⟨Of,Ol⟩,if_pos PS]) (by decide)];decide),Ov,cO hx (show fH f.nodes.length (f.bars.take i) b=3 by rw[fH,if_pos ⟨Of,Ol⟩,if_pos PS]) (by decide)]
  have PS:b.1≠b.2.1:=by simpa using PS
  refine⟨Nat×World,fun z=>⟨[(1,pP 0 0),(6,iN i),(7,pP 1 0),(8,iN z.1)],[(1,.box T.Nx [.v (.int .i64 b.1),.v (.int .i64 b.2.1),.v (.bool g0),.v (.slice g1 g2 g3),.v (.bool g4),.v (.slice g5 g6 g7)]),(0,.box T.Frame [.v (.slice an f.nodes.length cn),.v (.slice ab f.bars.length cb),.v (.slice aq f.cM.length cq)])],2,OU,z.2⟩,fun z=>i-z.1,
   fun z=>z.1<=i∧dT w.heap.size w z.2∧(gG b∈(f.bars.take i).map gG↔gG b∈((f.bars.take i).drop z.1).map gG),?_,?_⟩
  ·intro O w' r3;exact⟨(0,w'),⟨aS _,hw.tr r3.cL,Iff.rfl⟩,Sub.gn [] r3⟩
  rintro⟨k,w2⟩ ⟨hk,hw,hK⟩;dsimp only at hk hw hK ⊢;refine dB.mk ?_ ?_<;>intro OT
  ·have OT:k<i:=by have:=aK OT;omega
   obtain⟨c,hc⟩:∃c,f.bars[k]? =some c:=⟨_,aB (by omega)⟩
   have Sh:(f.bars.take i)[k]? =some c:=by rw[bO OT];exact hc
   obtain⟨adc,cs2,Wa,Rz,-,TE⟩:=hf.bars.load (by decide) hc;obtain⟨q0,q1,q2,q3,q4,q5,q6,q7,rfl,-⟩:=Rz;refine⟨adc,Wa,by omega,[.int .i64 c.1,.int .i64 c.2.1,.bool q0,.slice q1 q2 q3,.bool q4,.slice q5 q6 q7],rfl,rdO TE hw hS,?_⟩;refine dB.mk ?_ ?_<;>intro e1
   ·have e1:(c.1=b.1):=by simpa using e1
    refine dB.mk ?_ ?_<;>intro e2
    ·have e2:(c.2.1=b.2.1):=by simpa using e2
     have Qy:=uS (K:=gG) Sh (show gG c=gG b by rw[oU];omega);exact rtn hw fun ρe we re=>by show Value.int .i64 _=_;rw[eN,aI (by omega),aI (by rw[hE];decide),if_pos (by rw[Ov,cO hx (show fH f.nodes.length (f.bars.take i) b=5 by rw[fH,if_pos ⟨Of,Ol⟩,aI PS,if_pos Qy]) (by decide)];decide),Ov,cO hx (show fH f.nodes.length (f.bars.take i) b=5 by rw[fH,if_pos ⟨Of,Ol⟩,aI PS,if_pos Qy]) (by decide)]
    ·have e2:¬(c.2.1=b.2.1):=by simpa using e2
     refine dB.mk ?_ ?_<;>intro e3
     ·have e3:(c.1=b.2.1):=by simpa using e3
      refine dB.mk ?_ ?_<;>intro e4
      ·have e4:(c.2.1=b.1):=by simpa using e4
       have Qy:=uS (K:=gG) Sh (show gG c=gG b by rw[oU];omega);exact rtn hw fun ρe we re=>by show Value.int .i64 _=_;rw[eN,aI (by omega),aI (by rw[hE];decide),if_pos (by rw[Ov,cO hx (show fH f.nodes.length (f.bars.take i) b=5 by rw[fH,if_pos ⟨Of,Ol⟩,aI PS,if_pos Qy]) (by decide)];decide),Ov,cO hx (show fH f.nodes.length (f.bars.take i) b=5 by rw[fH,if_pos ⟨Of,Ol⟩,aI PS,if_pos Qy]) (by decide)]
      ·have e4:¬(c.2.1=b.1):=by simpa using e4
       have Rq:=lT (K:=gG) Sh (show gG c≠gG b by rw[Ne,oU];omega) hK;refine⟨((k+1:Nat):Int),wo,?_⟩;intro ρ3 w6 r3;exact⟨(k+1,w6),⟨OT,hw.tr r3.cL,Rq⟩,Sub.gn [] r3,by dsimp only;omega⟩
     ·have e3:¬(c.1=b.2.1):=by simpa using e3
      have Rq:=lT (K:=gG) Sh (show gG c≠gG b by rw[Ne,oU];omega) hK;refine⟨((k+1:Nat):Int),wo,?_⟩;intro ρ3 w6 r3;exact⟨(k+1,w6),⟨OT,hw.tr r3.cL,Rq⟩,Sub.gn [] r3,by dsimp only;omega⟩
   ·have e1:¬(c.1=b.1):=by simpa using e1
    refine dB.mk ?_ ?_<;>intro e3
    ·have e3:(c.1=b.2.1):=by simpa using e3
     refine dB.mk ?_ ?_<;>intro e4
     ·have e4:(c.2.1=b.1):=by simpa using e4
      have Qy:=uS (K:=gG) Sh (show gG c=gG b by rw[oU];omega);exact rtn hw fun ρe we re=>by show Value.int .i64 _=_;rw[eN,aI (by omega),aI (by rw[hE];decide),if_pos (by rw[Ov,cO hx (show fH f.nodes.length (f.bars.take i) b=5 by rw[fH,if_pos ⟨Of,Ol⟩,aI PS,if_pos Qy]) (by decide)];decide),Ov,cO hx (show fH f.nodes.length (f.bars.take i) b=5 by rw[fH,if_pos ⟨Of,Ol⟩,aI PS,if_pos Qy]) (by decide)]
     ·have e4:¬(c.2.1=b.1):=by simpa using e4
      have Rq:=lT (K:=gG) Sh (show gG c≠gG b by rw[Ne,oU];omega) hK;refine⟨((k+1:Nat):Int),wo,?_⟩;intro ρ3 w6 r3;exact⟨(k+1,w6),⟨OT,hw.tr r3.cL,Rq⟩,Sub.gn [] r3,by dsimp only;omega⟩
    ·have e3:¬(c.1=b.2.1):=by simpa using e3
     have Rq:=lT (K:=gG) Sh (show gG c≠gG b by rw[Ne,oU];omega) hK;refine⟨((k+1:Nat):Int),wo,?_⟩;intro ρ3 w6 r3;exact⟨(k+1,w6),⟨OT,hw.tr r3.cL,Rq⟩,Sub.gn [] r3,by dsimp only;omega⟩
  have OT:k=i:=by have:=aH OT;omega
  have QS:=Cx (by rw[hLl];omega) hK;refine cB (cE hw (fun _ w' v w2=>v= .int .i64 (rs b.2.2)) (fun O w' r=>(zy (oS hS r) (hF.cC (kS hw r hS)))) ?_);rintro O PX v3 PW Oi r he hw h_ rfl;obtain⟨cf,Vr⟩:∃c,rs b.2.2=c:=⟨_,rfl⟩
  rw[Vr];refine dB.mk ?_ ?_<;>intro PM
  ·have PM:b.2.2<=0:=by have:=aK PM;rw[<-Rat.not_lt,<-lO];omega
   exact rtn hw fun ρe we re=>by show Value.int .i64 _=_;rw[eN,aI (by omega),aI (by rw[hE];decide),if_pos (by rw[Ov,cO hx (show fH f.nodes.length (f.bars.take i) b=2 by rw[fH,if_pos ⟨Of,Ol⟩,aI PS,aI QS,if_pos PM]) (by decide)];decide),Ov,cO hx (show fH f.nodes.length (f.bars.take i) b=2 by rw[fH,if_pos ⟨Of,Ol⟩,aI PS,aI QS,if_pos PM]) (by decide)]
  have PM:0<b.2.2:=by have:=aH PM;rw[<-lO];omega
  rw[gL hx (qo.2 ⟨⟨Of,Ol⟩,PS,QS,PM⟩)]at Ov;refine⟨((i+1:Nat):Int),wo,?_⟩;intro ρ3 w6 r3;exact⟨(i+1,w6,_),⟨OQ,hw.tr r3.cL,Ov⟩,Sub.gn [] r3,by dsimp only;omega⟩
 have OQ:i=f.bars.length:=aU hi (by simpa using OQ);rw[ij (by omega)]at Ov
 refine⟨Nat×World×Iv,fun z=>⟨[(1,pP 0 0),(10,iN z.1)],[(0,.box T.Frame [.v (.slice an f.nodes.length cn),.v (.slice ab f.bars.length cb),.v (.slice aq f.cM.length cq)])],1,z.2.2,z.2.1⟩,fun z=>f.cM.length-z.1,
  fun z=>z.1<=f.cM.length∧dT w.heap.size w z.2.1∧e9 (kM f.nodes.length) [] f.cM=e9 (kM f.nodes.length) (f.cM.take z.1) (f.cM.drop z.1),?_,?_⟩
 ·intro O w' r3;exact⟨(0,w',_),⟨aS _,hw.tr r3.cL,rfl⟩,Sub.gn [] r3⟩
 rintro⟨i,w1,iv⟩ ⟨hi,hw,Vs⟩;dsimp only at hi hw Vs ⊢;refine dB.mk ?_ ?_<;>intro OQ
 ·have OQ:i<f.cM.length:=by simpa using OQ
  obtain⟨b,hx⟩:∃b,f.cM[i]? =some b:=⟨_,aB OQ⟩
  have hLl:(f.cM.take i).length=i:=by rw[aZ];omega
  obtain⟨adb,cs,QM,hF,-,Pm⟩:=hf.cM.load (by decide) hx;obtain⟨g0,g1,g2,g3,g4,g5,g6,g7,rfl,hF⟩:=hF;refine⟨adb,QM,by omega,[.int .i64 b.1,.int .i64 b.2.1,.bool g0,.slice g1 g2 g3,.bool g4,.slice g5 g6 g7],rfl,rdO Pm hw hS,?_⟩;refine cB (cE hw (fun _ w' v w2=>∃d,v= .bool d∧(d=true↔jB f.nodes.length b.1)) (fun O w' r=>qt _ _ _ _ _ _ _ _ _ _ w') ?_);rintro O _ _ _ OZ r he hw h_ ⟨d0,rfl,Of⟩
  cases d0
  ·have Of:¬jB f.nodes.length b.1:=fun h=>by have:=Of.2 h;cases this
   exact rtn hw fun ρe we re=>by show Value.int .i64 _=_;rw[eN,aI (by omega),aI (by rw[hE];decide),aI (by rw[Ov];decide),Vs,cO hx (show kM f.nodes.length (f.cM.take i) b=6 by rw[kM,aI Of]) (by decide)]
  replace Of:=Of.1 rfl;refine cB (cE hw (fun _ w' v w2=>∃d,v= .bool d∧(d=true↔0<=b.2.1∧b.2.1<=2)) (fun O w' r=>lV _ _ _ w') ?_);rintro O _ _ _ OU r he hw h_ ⟨d1,rfl,Pu⟩
  cases d1
  ·have Pu:¬(0<=b.2.1∧b.2.1<=2):=fun h=>by have:=Pu.2 h;cases this
   exact rtn hw fun ρe we re=>by show Value.int .i64 _=_;rw[eN,aI (by omega),aI (by rw[hE];decide),aI (by rw[Ov];decide),Vs,cO hx (show kM f.nodes.length (f.cM.take i) b=2 by rw[kM,if_pos Of,aI Pu]) (by decide)]
  replace Pu:=Pu.1 rfl
  refine⟨Nat×World,fun z=>⟨[(1,pP 0 0),(10,iN i),(11,pP 1 0),(12,iN z.1)],[(1,.box T.CS [.v (.int .i64 b.1),.v (.int .i64 b.2.1),.v (.bool g0),.v (.slice g1 g2 g3),.v (.bool g4),.v (.slice g5 g6 g7)]),(0,.box T.Frame [.v (.slice an f.nodes.length cn),.v (.slice ab f.bars.length cb),.v (.slice aq f.cM.length cq)])],2,OU,z.2⟩,fun z=>i-z.1,
   fun z=>z.1<=i∧dT w.heap.size w z.2∧(iY b∈(f.cM.take i).map iY↔iY b∈((f.cM.take i).drop z.1).map iY),?_,?_⟩
  ·intro O w' r3;exact⟨(0,w'),⟨aS _,hw.tr r3.cL,Iff.rfl⟩,Sub.gn [] r3⟩
  rintro⟨k,w2⟩ ⟨hk,hw,hK⟩;dsimp only at hk hw hK ⊢;refine dB.mk ?_ ?_<;>intro OT
  ·have OT:k<i:=by have:=aK OT;omega
   obtain⟨c,hc⟩:∃c,f.cM[k]? =some c:=⟨_,aB (by omega)⟩
   have Sh:(f.cM.take i)[k]? =some c:=by rw[bO OT];exact hc
   obtain⟨adc,cs2,Wa,Rz,-,TE⟩:=hf.cM.load (by decide) hc;obtain⟨q0,q1,q2,q3,q4,q5,q6,q7,rfl,-⟩:=Rz;refine cH hτ dN [.x 0,.x 1,.x 2,.x 3,.x 4,.x 5,.x 6,.x 7,.x 8,.x 9,.x 10,.x 11,.x 12,.x 13,.x 14,.x 15,.x 16,.x 17,.x 18,.x 19] (by kernel_rfl) (by kernel_rfl) ?_;refine⟨adc,Wa,by omega,.int .i64 c.1,fun O w' r=>?_,?_⟩
   ·obtain⟨k1,k2⟩:=TE 0 _ rfl;rw[cJ (w:=w) (w2:=w') (by simp only[c9];exact(hw.tr r.cL).block _ (hS _ k1))];simp only[aF,Cu]at k2 ⊢;exact k2
   refine dB.mk ?_ ?_<;>intro e1
   ·have e1:(c.1=b.1):=by simpa using e1
    refine⟨adc,Wa,by omega,.int .i64 c.2.1,fun O w' r=>?_,?_⟩
    ·obtain⟨k1,k2⟩:=TE 1 _ rfl;rw[cJ (w:=w) (w2:=w') (by simp only[c9];exact(hw.tr r.cL).block _ (hS _ k1))];simp only[aF,Cu]at k2 ⊢;exact k2
    refine dB.mk ?_ ?_<;>intro e2
    ·have e2:(c.2.1=b.2.1):=by simpa using e2
     have Qy:=uS (K:=iY) Sh (show iY c=iY b by rw[Cw];omega);exact rtn hw fun ρe we re=>by show Value.int .i64 _=_;rw[eN,aI (by omega),aI (by rw[hE];decide),aI (by rw[Ov];decide),Vs,cO hx (show kM f.nodes.length (f.cM.take i) b=5 by rw[kM,if_pos Of,if_pos Pu,if_pos Qy]) (by decide)]
    ·have e2:¬(c.2.1=b.2.1):=by simpa using e2
     have Rq:=lT (K:=iY) Sh (show iY c≠iY b by rw[Ne,Cw];omega) hK;refine⟨((k+1:Nat):Int),wo,?_⟩;intro ρ3 w6 r3;exact⟨(k+1,w6),⟨OT,hw.tr r3.cL,Rq⟩,Sub.gn [] r3,by dsimp only;omega⟩
   ·have e1:¬(c.1=b.1):=by simpa using e1
    have Rq:=lT (K:=iY) Sh (show iY c≠iY b by rw[Ne,Cw];omega) hK;refine⟨((k+1:Nat):Int),wo,?_⟩;intro ρ3 w6 r3;exact⟨(k+1,w6),⟨OT,hw.tr r3.cL,Rq⟩,Sub.gn [] r3,by dsimp only;omega⟩
  have OT:k=i:=by have:=aH OT;omega
  have QS:=Cx (by rw[hLl];omega) hK;refine cB (cE hw (fun _ w' v w2=>v= .int .i64 (rs b.2.2)) (fun O w' r=>(zy (oS hS r) (hF.cC (kS hw r hS)))) ?_);rintro O _ _ _ Oi r he hw h_ rfl;obtain⟨cf,Vr⟩:∃c,rs b.2.2=c:=⟨_,rfl⟩
  rw[Vr];refine dB.mk ?_ ?_<;>intro PM
  ·have PM:b.2.2<0:=by have:=aK PM;rw[<-lS];omega
   exact rtn hw fun ρe we re=>by show Value.int .i64 _=_;rw[eN,aI (by omega),aI (by rw[hE];decide),aI (by rw[Ov];decide),Vs,cO hx (show kM f.nodes.length (f.cM.take i) b=2 by rw[kM,if_pos Of,if_pos Pu,aI QS,if_pos PM]) (by decide)]
  have PM:0<=b.2.2:=by have:=aH PM;rw[<-Rat.not_lt,<-lS];omega
  rw[gL hx (qn.2 ⟨Of,Pu,QS,PM⟩)]at Vs;refine⟨((i+1:Nat):Int),wo,?_⟩;intro ρ3 w6 r3;exact⟨(i+1,w6,_),⟨OQ,hw.tr r3.cL,Vs⟩,Sub.gn [] r3,by dsimp only;omega⟩
 have OQ:i=f.cM.length:=aU hi (by simpa using OQ);rw[ij (by omega)]at Vs;exact rtn hw fun ρe we re=>by show Value.int .i64 _=_;rw[eN,aI (by omega),aI (by rw[hE];decide),aI (by rw[Ov];decide),Vs]
def rq(p:Int×Int):Rat:=ratio p.1 p.2
structure GX where
 nodes:List (Int×Int×Int)
 bars:List (Int×Int×(Int×Int))
 cM:List (Int×Int×(Int×Int))
def Et(p:Int×Int×(Int×Int)):Int×Int×Rat:=(p.1,p.2.1,rq p.2.2)
def GX.val(f:GX):ed:=⟨f.nodes,f.bars.map Et,f.cM.map Et⟩
def uT(w:World)(S:Nat->Prop)(cs:List Value)(p:Int×Int×(Int×Int)):Prop:=∃b a n c b2 a2 n2 c2,cs=[.int .i64 p.1,.int .i64 p.2.1,.bool b,.slice a n c,.bool b2,.slice a2 n2 c2]∧iD w S (.agg #[.bool b,.slice a n c,.bool b2,.slice a2 n2 c2]) p.2.2.1 p.2.2.2
structure qL(w:World)(S:Nat->Prop)(vn vb vs:Value)(f:GX):Prop where
 nodes:mh w S vn f.nodes
 bars:eY 6 uT w S vb f.bars
 cM:eY 6 uT w S vs f.cM
theorem uT.cC{w2:World}(h:uT w S cs p)(hk:∀g,S g->w2.heap[g]? =w.heap[g]?):uT w2 S cs p:=by
 obtain⟨b,a,n,c,b2,a2,n2,c2,h1,h2⟩:=h;exact⟨b,a,n,c,b2,a2,n2,c2,h1,h2.cC hk⟩
theorem qL.cC{w2:World}{f:GX}(h:qL w S vn vb vs f)(hk:∀g,S g->w2.heap[g]? =w.heap[g]?):qL w2 S vn vb vs f:=
 ⟨eY.cC (w:=w) (fun _ _ h=>h) h.nodes hk,eY.cC (fun _ _ h=>h.cC hk) h.bars hk,eY.cC (fun _ _ h=>h.cC hk) h.cM hk⟩
theorem uT.few(h:uT w S cs p)(hf:Es (cs.drop 2)):Cq w S cs (Et p)∧rl (Et p).2.2<=3:=by
 obtain⟨b,a,n,c,b2,a2,n2,c2,rfl,h2⟩:=h;obtain⟨h3,h4⟩:=h2.l3 hf;exact⟨⟨b,a,n,c,b2,a2,n2,c2,rfl,h3⟩,h4⟩
theorem eY.cells{α:Type}{k:Nat}{P:World->(Nat->Prop)->List Value->α->Prop}{xs:List α}(h:eY k P w S v xs):
  ∃css:List (List Value),css.length=xs.length∧eY k (fun w S cs (y:List Value×α)=>cs=y.1∧P w S cs y.2) w S v (css.zip xs)∧(∀(j:Nat) cs x,css[j]? =some cs->xs[j]? =some x->P w S cs x)∧
   ∀{β:Type} (Q:World->(Nat->Prop)->List Value->β->Prop) (ys:List β),ys.length=xs.length->(∀(j:Nat) cs y,css[j]? =some cs->ys[j]? =some y->Q w S cs y)->eY k Q w S v ys:=by
 obtain⟨css,h1,h2,h3,h4⟩:=h;have hz:(css.zip xs).length=xs.length:=by rw[List.length_zip,h2,Nat.min_self]
 refine⟨css,h2,⟨css,by rw[hz];exact h1,by rw[hz,h2],h3,fun j cs y k1 k2=>?_⟩,h4,fun Q ys hl hQ=>⟨css,by rw[hl];exact h1,by rw[hl,h2],h3,hQ⟩⟩;rw[List.getElem?_zip_eq_some]at k2;rw[k1]at k2;exact⟨by injection k2.1,h4 j cs _ k1 k2.2⟩
theorem Mr.of(h4:∀(j:Nat) cs x,css[j]? =some cs->xs[j]? =some x->uT w S cs x)
  (hQ:∀{β:Type} (Q:World->(Nat->Prop)->List Value->β->Prop) (ys:List β),ys.length=xs.length->(∀(j:Nat) cs y,css[j]? =some cs->ys[j]? =some y->Q w S cs y)->eY 6 Q w S v ys)
  (hl:css.length=xs.length) (hf:∀j cs,j<xs.length->css[j]? =some cs->Es (cs.drop 2)):Ks w S v (xs.map Et)∧∀b∈xs.map Et,rl b.2.2<=3:=by
 refine⟨hQ Cq _ (aL ..) fun j cs y k1 k2=>?_,fun b hb=>?_⟩
 ·rw[aM]at k2;obtain⟨p,hp,rfl⟩:=Option.map_eq_some_iff.1 k2;exact((h4 j cs p k1 hp).few (hf j cs (aD.1 hp).1 k1)).1
 ·obtain⟨p,hp,rfl⟩:=aR.1 hb;obtain⟨j,hj⟩:=aQ hp;have Sn:=(aD.1 hj).1;have hc:css[j]? =some css[j]:=aB (by omega);exact((h4 j _ p hc hj).few (hf j _ Sn hc)).2
section
variable{xs:List Rat}{l:List (Rat×Rat)}{i:Nat}{x:Rat}{r:Rat×Rat}
end
theorem Cy{n cx:Nat}(hf:dm w S vn vb vs f)(h60:f.bars.length<=60∧f.cM.length<=60):dx PG N.mE #[.agg #[vn,vb,vs],.slice ax n cx] w (eH w fun v' _=>v'= .int .i64 (if n≠f.cols then 11 else 0)):=by
 have hw:=bR w;obtain⟨an,cn,ab,cb,aq,cq,rfl,rfl,rfl,RV,RN,Sg⟩:=hf.shape;unfold maxLen at RN Sg;refine pn (by simp) ?_;refine⟨((f.bars.length+f.cM.length:Nat):Int),wo,?_⟩;refine dB.mk ?_ ?_<;>intro hd
 ·have hd:n≠f.cols:=by intro h;rw[h]at hd;simp[ed.cols]at hd
  exact rtn hw fun ρe we re=>by show Value.int .i64 _=_;rw[if_pos hd]
 have hd:=(show (n:Int)=((f.bars.length+f.cM.length:Nat):Int)from(by simpa using hd))
 replace hd:n=f.cols:=by unfold ed.cols;omega
 exact rtn hw fun ρe we re=>by show Value.int .i64 _=_;rw[aI (by simpa using hd)]
theorem Eu(hf:dm w S vn vb vs f)(h60:f.bars.length<=60∧f.cM.length<=60):dx PG N.pU #[.agg #[vn,vb,vs]] w (eH w fun v' _=>v'= .int .i64 f.cols):=by
 have hw:=bR w;obtain⟨an,cn,ab,cb,aq,cq,rfl,rfl,rfl,RV,RN,Sg⟩:=hf.shape;refine tp (by simp) ?_;refine⟨((f.bars.length+f.cM.length:Nat):Int),wo,?_⟩;exact rtn hw fun ρe we re=>rfl
section
variable{S:Nat->Prop}{w w1 w':World}{H:Hp}{nx:Nat}{iv:Iv}{O:Nat->Sx.dL}
end
end Go.Ex
namespace Go.Ex
end Go.Ex
namespace Go.Ex
open Go Go.Sx Go.Proofs
theorem Ir{n:Nat}(h:n<9223372036854775807):ln n<=2:=by have:=uU (n:=(n:Int)) (by omega) (by omega);rwa [Int.natAbs_natCast]at this
structure aA7{α:Type}(k:Nat)(P:World->(Nat->Prop)->List Value->α->Prop)(w:World)(S:Nat->Prop)(css:List (List Value))(qs:List α):Prop where
 len:css.length=qs.length
 wid:∀cs∈css,cs.length=k
 at_:∀(j:Nat) cs q,css[j]? =some cs->qs[j]? =some q->P w S cs q
section
variable{α:Type}{k:Nat}{P:World->(Nat->Prop)->List Value->α->Prop}{w w2:World}{S S':Nat->Prop}{css:List (List Value)}{qs:List α}
end
theorem HX{n:Int}(h:n.natAbs<9223372036854775807):rl (n:Rat)<=2:=by
 have h2:ln n.natAbs<=2:=Ir h;unfold rl;rw[Rat.num_intCast,Rat.den_intCast];have h3:ln 1=1:=by decide
 omega
section
variable{S S':Nat->Prop}{H:Hp}{nx:Nat}{iv iv':Iv}{B:Nat}{w w' w2:World}{O:Nat->Sx.dL}{v:Value}{l:List (Rat×Rat)}
end
end Go.Ex
namespace Go.Ex
abbrev I3:=Int×Int×Int
def Lt(p:I3):Prop:=mn p.1∧mn p.2.1∧mn p.2.2
instance (p : I3) : Decidable (Lt p) := by unfold Lt; infer_instance
end Go.Ex
namespace Go.Ex
open Go Go.Sx Go.Proofs
end Go.Ex
namespace Go.Sx
open Go Go.Ex Go.Proofs
variable{vs:List Value}{O:Nat->Sx.dL}
theorem Sub.aAZ{B nx:Nat}{l:Env}{H:Hp}{iv:Iv}{w w':World}{t:vt}(id:Nat){bt:Nat}(Oy:cV H id=some (.box bt (vs.map At.v)))(r:Rel H nx iv B w O w')
  (h:Rel ((id,.arr bt vs)::H) nx iv B w O w'->Sx.Sub B l nx O w' t):Sx.Sub B l nx O w' t:=by
 have UC:=r.nn id _ Oy (by intros;simp) (by simp);have Oz:=r.box id bt _ Oy;have SM:(vs.map At.v).map (At.den O)=vs:=by
  rw[List.map_map];exact List.map_id _
 rw[SM]at Oz
 exact h (r.store (b':=.arr bt vs) (H':=(id,.arr bt vs)::H) (w2:=w') Oy (by simp) UC (fun j=>by
  rw[cU];by_cases hj:id=j
  ·subst hj;simp
  ·rw[aI hj,aI (fun h=>hj h.symm)]) rfl rfl rfl rfl (fun _ _=>rfl) ⟨UC,Oz⟩ trivial)
end Go.Sx
namespace Go.Ex
open Go Go.Sx Go.Proofs
abbrev aAG(x:Ld):Value:=.agg #[.int .i64 x.1,.int .i64 x.2.1,.int .i64 x.2.2.1,.int .i64 x.2.2.2]
end Go.Ex
namespace Go.Ex
open Go Go.Sx Go.Proofs
variable{S:Nat->Prop}
theorem Is(x:Ld)(w:World):dx PG N.tX #[aAG x] w (eH w fun v' _=>∃d,v'= .bool d∧(d=true↔Lt x.2)):=by
 have hw:=bR w;obtain⟨x0,x1,x2,x3⟩:=x;refine xC (by simp) ?_;refine cB (cE hw (fun _ w' v w2=>∃d,v= .bool d∧(d=true↔ -1000000<=x1∧x1<=1000000)) (fun O w' r=>lV _ _ _ w') ?_);rintro O _ _ _ OZ r he hw h_ ⟨d0,rfl,Of⟩
 cases d0
 ·have Of:¬mn x1:=fun h=>by have:=Of.2 h;cases this
  exact rtn hw fun ρe we re=>⟨_,rfl,(fun h=>by cases h),fun h=>absurd h.1 Of⟩
 replace Of:mn x1:=Of.1 rfl;refine cB (cE hw (fun _ w' v w2=>∃d,v= .bool d∧(d=true↔ -1000000<=x2∧x2<=1000000)) (fun O w' r=>lV _ _ _ w') ?_);rintro O _ _ _ OU r he hw h_ ⟨d1,rfl,Ol⟩
 cases d1
 ·have Ol:¬mn x2:=fun h=>by have:=Ol.2 h;cases this
  exact rtn hw fun ρe we re=>⟨_,rfl,(fun h=>by cases h),fun h=>absurd h.2.1 Ol⟩
 replace Ol:mn x2:=Ol.1 rfl;refine cB (cE hw (fun _ w' v w2=>∃d,v= .bool d∧(d=true↔ -1000000<=x3∧x3<=1000000)) (fun O w' r=>lV _ _ _ w') ?_);rintro O _ _ _ Oi r he hw h_ ⟨d2,rfl,Pf⟩
 cases d2
 ·have Pf:¬mn x3:=fun h=>by have:=Pf.2 h;cases this
  exact rtn hw fun ρe we re=>⟨_,rfl,(fun h=>by cases h),fun h=>absurd h.2.2 Pf⟩
 replace Pf:mn x3:=Pf.1 rfl;exact rtn hw fun ρe we re=>⟨_,rfl,fun _=>⟨Of,Ol,Pf⟩,fun _=>rfl⟩
theorem jS.aA0{w:World}:jS w S (.slice none 0 0) []:=⟨[],⟨aS _,rfl,by simp,none,0,rfl,Nat.le_refl _,fun j u h=>by cases h⟩,rfl,by simp,fun j cs x h=>by cases h⟩
section
variable{S S':Nat->Prop}{H:Hp}{nx:Nat}{iv iv':Iv}{B:Nat}{w w' w2:World}{O:Nat->Sx.dL}{v:Value}{l:List Ld}
end
end Go.Ex
