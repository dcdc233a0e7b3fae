/- Texts L57 to X222: lemmas, each with its conditions. -/
import Derived.Test.YtgkpbdkechfgmaaGreatP14
namespace Go.Ex
variable{b:Int×Int×Rat}{M:List (List Rat)}{pl:List Int}{l:Nat}{q:Rat}{f:ed}
def rF(p i:Nat):Rat:=if p=i then 1 else 0
def ja(f:ed)(r:Nat):Nat:=((List.range r).filter fun r=> !ke f r).length
def placeF(f:ed):List Int:=(List.range (3*f.nodes.length)).map fun r=>if ke f r then -1 else(ja f r:Int)
theorem xg{r:Nat}(hr:r<3*f.nodes.length)(h:ke f r=false):ja f r<(dy f).length/\fa f (ja f r)=r:=by
 have e:(dy f)[ja f r]? =some r:=by
  obtain⟨k,R⟩:∃k,3*f.nodes.length=r+(k+1):=⟨3*f.nodes.length-r-1,by omega⟩
  unfold dy ja;rw[R,List.range_add,List.filter_append,aN (Nat.le_refl _),bB,List.range_succ_eq_map,List.map_cons,List.filter_cons,if_pos (by simp[h])];rfl
 refine⟨(aD.1 e).1,?_⟩;unfold fa;rw[List.getD,e];rfl
theorem EN{r:Nat}(hr:r<3*f.nodes.length):(placeF f).getD r 0=if ke f r then -1 else(ja f r:Int):=by
 unfold placeF;rw[List.getD,aM,bZ hr];rfl
def fA(pl:List Int)(M:List (List Rat))(i k:Nat)(q:Rat):List (List Rat):=
 if 0<=pl.getD i 0/\0<=pl.getD k 0 then M.set (pl.getD i 0).toNat ((M.getD (pl.getD i 0).toNat []).set (pl.getD k 0).toNat (cW M (pl.getD i 0).toNat (pl.getD k 0).toNat+q))else M
structure si(n:Nat)(M:List (List Rat)):Prop where
 l:M.length=n
 w:gh n M
theorem si.fA{n:Nat}(h:si n M)(i k:Nat)(q:Rat):si n (fA pl M i k q):=by
 unfold Ex.fA;split
 ·rcases aP (pl.getD i 0).toNat M.length with I|I
  ·refine⟨by rw[bX];exact h.l,fun r hr=>?_⟩;rcases a9 hr with hr|hr
   ·exact h.w r hr
   ·rw[hr,bX];exact h.w.getD I
  ·rw[List.set_eq_of_length_le I];exact h
 ·exact h
theorem si.zero(n:Nat):si n (List.replicate n (List.replicate n 0)):=⟨bN,fun r hr=>by rw[(List.mem_replicate.1 hr).2,bN]⟩
theorem KK(n i k:Nat):cW (List.replicate n (List.replicate n (0:Rat))) i k=0:=by
 unfold cW;rcases aP i n with h|h
 ·rw[show (List.replicate n (List.replicate n (0:Rat))).getD i []=List.replicate n 0 by rw[List.getD,List.getElem?_replicate,if_pos h];rfl,List.getD,List.getElem?_replicate];split<;>rfl
 ·rw[show (List.replicate n (List.replicate n (0:Rat))).getD i []=[] by rw[List.getD,List.getElem?_replicate,aI (by omega)];rfl];rfl
theorem MH{n:Nat}(h:si n M){r c a b:Nat}(hr:r<n)(hc:c<n):cW (M.set r ((M.getD r []).set c (cW M r c+q))) a b=cW M a b+if a=r/\b=c then q else 0:=by
 have hl:=h.w.getD (show r<M.length by rw[h.l];exact hr);by_cases e:a=r
 ·subst e;unfold cW;rw[jV (by rw[h.l];exact hr)];by_cases e2:b=c
  ·subst e2;rw[jV (by rw[hl];exact hc),if_pos ⟨rfl,rfl⟩]
  ·rw[getD_set_ne (Ne.symm e2),aI fun g=>e2 g.2,bD]
 ·unfold cW;rw[getD_set_ne (Ne.symm e),aI fun g=>e g.1,bD]
section
variable{f:ed}{x:List Rat}{M:List (List Rat)}
theorem HP{a i:Nat}(ha:a<(dy f).length)(D:i<3*f.nodes.length):rF (fa f a) i=if ke f i then 0 else rF a (ja f i):=by
 unfold rF
 cases e:ke f i with
 |true=>
  rw[if_pos rfl,aI fun g=>?_];have:=(MF ha).2;rw[g,e]at this
  cases this
 |false=>
  obtain⟨I,X⟩:=xg D e;simp only[Bool.false_eq_true,if_false]
  by_cases g:a=ja f i
  ·rw[if_pos g,if_pos (by rw[g];exact X)]
  ·rw[aI g,aI fun k=>g (MG ha I (k.trans X.symm))]
theorem tT(h:si (dy f).length M){a b i k:Nat}(ha:a<(dy f).length)(hb:b<(dy f).length)(D:i<3*f.nodes.length)(R:k<3*f.nodes.length):
  cW (fA (placeF f) M i k q) a b=cW M a b+q*(rF (fa f a) i*rF (fa f b) k):=by
 rw[HP ha D,HP hb R];unfold fA;rw[EN D,EN R]
 cases ei:ke f i with
 |true=>
  rw[aI (by rw[if_pos rfl];omega),if_pos rfl];grind
 |false=>
  cases ek:ke f k with
  |true=>
   rw[aI (by rw[if_pos (rfl:true=true)];omega),if_pos (rfl:true=true)];grind
  |false=>
   simp only[Bool.false_eq_true,if_false,aF]
   rw[if_pos ⟨by omega,by omega⟩,MH h (xg D ei).1 (xg R ek).1];congr 1;unfold rF;by_cases g1:a=ja f i
   ·by_cases g2:b=ja f k
    ·rw[if_pos ⟨g1,g2⟩,if_pos g1,if_pos g2];grind
    ·rw[aI fun g=>g2 g.2,aI g2];grind
   ·rw[aI fun g=>g1 g.1,aI g1];grind
def kB(f:ed)(x:List Rat)(i r c:Nat):Rat:=if r=c then((((jR f (f.bars.getD i (0,0,0))).getD r 0*(jR f (f.bars.getD i (0,0,0))).getD c 0:Int)):Rat) / (f.bars.getD i (0,0,0)).2.2+x.getD i 0 else((((jR f (f.bars.getD i (0,0,0))).getD r 0*(jR f (f.bars.getD i (0,0,0))).getD c 0:Int)):Rat) / (f.bars.getD i (0,0,0)).2.2
def gu(f:ed)(x:List Rat)(i r:Nat)(M:List (List Rat)):Nat->List (List Rat)
 |0=>M
 |c+1=>
  let b:=f.bars.getD i (0,0,0)
  fA (placeF f) (fA (placeF f) (fA (placeF f) (fA (placeF f) (gu f x i r M c) (3*b.1+r).toNat (3*b.1+c).toNat (kB f x i r c)) (3*b.2.1+r).toNat (3*b.2.1+c).toNat (kB f x i r c)) (3*b.1+r).toNat (3*b.2.1+c).toNat (-(kB f x i r c))) (3*b.2.1+r).toNat (3*b.1+c).toNat (-(kB f x i r c))
def kH(f:ed)(x:List Rat)(i:Nat)(M:List (List Rat)):Nat->List (List Rat)
 |0=>M
 |r+1=>gu f x i r (kH f x i M r) 3
def gI(f:ed)(x:List Rat):Nat->List (List Rat)
 |0=>List.replicate (dy f).length (List.replicate (dy f).length 0)
 |i+1=>kH f x i (gI f x i) 3
def jX(f:ed)(x:List Rat):Nat->List (List Rat)
 |0=>gI f x f.bars.length
 |i+1=>
  let s:=f.cM.getD i (0,0,0)
  if s.2.2=0 then jX f x i else fA (placeF f) (jX f x i) (dP s) (dP s) (1 / s.2.2)
def Fy(f:ed)(x:List Rat):List (List Rat):=jX f x f.cM.length
theorem si.cell{n i r:Nat}(h:si n M):∀c,si n (gu f x i r M c)
 |0=>h
 |c+1=>(((((si.cell h c).fA _ _ _).fA _ _ _).fA _ _ _).fA _ _ _)
theorem si.row{n i:Nat}(h:si n M):∀r,si n (kH f x i M r)
 |0=>h
 |r+1=>(si.row h r).cell 3
theorem si.bars:∀i,si (dy f).length (gI f x i)
 |0=>si.zero _
 |i+1=>(si.bars i).row 3
theorem si.cM:∀i,si (dy f).length (jX f x i)
 |0=>si.bars _
 |i+1=>by
  rw[jX];split
  ·exact si.cM i
  ·exact(si.cM i).fA _ _ _
theorem xh{i r p:Nat}(hr:r<3){ka kb:Nat}(hb:f.bars[i]? =some b)(ea:b.1=ka)(eb:b.2.1=kb):l7 f (3*i+r) p=rF p (3*kb+r)-rF p (3*ka+r):=by
 unfold l7 rF;rw[show (3*i+r) / 3=i by omega,show(3*i+r) % 3=r by omega,jx hb,ea,eb];congr 1
 ·by_cases e:p=3*kb+r
  ·rw[if_pos e,if_pos (by omega)]
  ·rw[aI e,aI (by omega)]
 ·by_cases e:p=3*ka+r
  ·rw[if_pos e,if_pos (by omega)]
  ·rw[aI e,aI (by omega)]
theorem HQ(h:si (dy f).length M){a b' i r:Nat}{b:Int×Int×Rat}{ka kb:Nat}(hb:f.bars[i]? =some b)(ea:b.1=ka)(eb:b.2.1=kb)(Uo:ka<f.nodes.length)(OT:kb<f.nodes.length)(hr:r<3)(ha:a<(dy f).length)(Pk:b'<(dy f).length):
  ∀c,c<=3->cW (gu f x i r M c) a b'=cW M a b'+cQ (fun c=>kB f x i r c*(l7 f (3*i+r) (fa f a)*l7 f (3*i+c) (fa f b'))) c
 |0,_=>by rw[gu];exact(bD _).symm
 |c+1,hc=>by
  have h0:=si.cell (f:=f) (x:=x) (i:=i) (r:=r) h c;rw[gu,cQ];rw[jx hb,toNat_add ea,toNat_add eb,toNat_add ea,toNat_add eb];rw[tT (((h0.fA _ _ _).fA _ _ _).fA _ _ _) ha Pk (by omega) (by omega),tT ((h0.fA _ _ _).fA _ _ _) ha Pk (by omega) (by omega),tT (h0.fA _ _ _) ha Pk (by omega) (by omega),tT h0 ha Pk (by omega) (by omega),HQ h hb ea eb Uo OT hr ha Pk c (by omega),xh hr hb ea eb,xh (show c<3 by omega) hb ea eb];grind
theorem KL(h:si (dy f).length M){a b' i:Nat}{b:Int×Int×Rat}{ka kb:Nat}(hb:f.bars[i]? =some b)(ea:b.1=ka)(eb:b.2.1=kb)(Uo:ka<f.nodes.length)(OT:kb<f.nodes.length)(ha:a<(dy f).length)(Pk:b'<(dy f).length):
  ∀r,r<=3->cW (kH f x i M r) a b'=cW M a b'+cQ (fun r=>cQ (fun c=>kB f x i r c*(l7 f (3*i+r) (fa f a)*l7 f (3*i+c) (fa f b'))) 3) r
 |0,_=>by rw[kH];exact(bD _).symm
 |r+1,hr=>by
  rw[kH,HQ (h.row r) hb ea eb Uo OT (by omega) ha Pk 3 (Nat.le_refl _),KL h hb ea eb Uo OT ha Pk r (by omega)];show _=_+(cQ _ r+_)
  rw[Rat.add_assoc]
theorem HR(hf:FrV f){a b':Nat}(ha:a<(dy f).length)(Pk:b'<(dy f).length):
  ∀i,i<=f.bars.length->cW (gI f x i) a b'=cQ (fun i=>cQ (fun r=>cQ (fun c=>kB f x i r c*(l7 f (3*i+r) (fa f a)*l7 f (3*i+c) (fa f b'))) 3) 3) i
 |0,_=>KK _ _ _
 |i+1,D=>by
  have hb:=aB (show i<f.bars.length by omega);obtain⟨ka,kb,ea,eb,I,X,-,-⟩:=hf.JH _ (aX (show i<f.bars.length by omega));rw[gI,KL (si.bars i) hb ea eb I X ha Pk 3 (Nat.le_refl _),HR hf ha Pk i (by omega)];rfl
theorem HS(hf:FrV f){a b':Nat}(ha:a<(dy f).length)(Pk:b'<(dy f).length):
  ∀i,i<=f.cM.length->cW (jX f x i) a b'=cW (gI f x f.bars.length) a b'+cQ (fun i=>(f.cM.getD i (0,0,0)).2.2⁻¹*(rF (fa f a) (dP (f.cM.getD i (0,0,0)))*rF (fa f b') (dP (f.cM.getD i (0,0,0))))) i
 |0,_=>by rw[jX];exact(bD _).symm
 |i+1,D=>by
  have hs:=aB (show i<f.cM.length by omega);have I:=(hf.sup _ (aX (show i<f.cM.length by omega))).1;have ih:=HS hf ha Pk i (by omega);rw[jX,cQ];rw[getD_some hs];split
  ·rename_i e;rw[ih,e,show((0:Rat))⁻¹=0 by decide +kernel,bC,bD]
  ·rw[tT (si.cM i) ha Pk I I,ih,bK,bm,Rat.add_assoc]
theorem yz(g:Nat->Rat):∀n,cQ g (3*n)=cQ (fun i=>cQ (fun r=>g (3*i+r)) 3) n
 |0=>rfl
 |n+1=>by
  rw[show 3*(n+1)=3*n+3 by omega,oB,yz g n];rfl
theorem EO{M:List (List Int)}{i p ka kb:Nat}{b:Int×Int×Rat}(Y:MC f.cols M)(hl:M.length=3*f.nodes.length)(D:i<f.cols)(hb:f.bars[i]? =some b)(ea:b.1=ka)(eb:b.2.1=kb)(Uo:ka<f.nodes.length)(OT:kb<f.nodes.length)(OS:ka≠kb):
  ∀k,k<=3->((ez (fD f M i k) p i:Int):Rat)=((ez M p i:Int):Rat)-cQ (fun r=>(((jR f b).getD r 0:Int):Rat)*l7 f (3*i+r) p) k
 |0,_=>by rw[fD];show _=_-(0:Rat);grind
 |k+1,R=>by
  have ih:=EO (p:=p) Y hl D hb ea eb Uo OT OS k (by omega);have QT:=nu f M i k;have hw1:=vB (f:=f) (i:=i) Y k;have hwr:∀{F':List (List Int)} {r:Nat},MC f.cols F'->r<F'.length->(F'.getD r []).length=f.cols:=fun I X=>by
   rw[List.getD,aB X];exact I _ (aX X)
  rw[fD,cQ];rw[jx hb,toNat_add ea,toNat_add eb,gH,gH,xh (show k<3 by omega) hb ea eb];have hA:3*ka+k<(fD f M i k).length:=by rw[QT,hl];omega
  have hB:3*kb+k<(putAt (fD f M i k) (3*ka+k) i (ez (fD f M i k) (3*ka+k) i+(jR f b).getD k 0)).length:=by rw[kc,QT,hl];omega
  have hneq:3*kb+k≠3*ka+k:=by omega
  unfold rF;by_cases e1:p=3*kb+k
  ·subst e1;rw[tQ hB (by rw[hwr hw1.put hB];exact D),gX (.inl hneq),if_pos rfl,aI hneq,Rat.intCast_add,Rat.intCast_neg,ih];grind
  ·rw[gX (.inl e1),aI e1];by_cases e2:p=3*ka+k
   ·subst e2;rw[tQ hA (by rw[hwr hw1 hA];exact D),if_pos rfl,Rat.intCast_add,ih];grind
   ·rw[gX (.inl e2),aI e2,ih];grind
theorem zA{i p:Nat}:∀j,i<j->ez (eG f j) p i=ez (eG f (i+1)) p i
 |0,h=>by omega
 |j+1,h=>by
  rcases aP i j with I|I
  ·rw[eG,qm (by omega)];exact zA j I
  ·obtain rfl:i=j:=by omega
   rfl
theorem HT(hf:FrV f){i p:Nat}(D:i<f.bars.length):cW (cY f) p i= -(cQ (fun r=>(((jR f (f.bars.getD i (0,0,0))).getD r 0:Int):Rat)*l7 f (3*i+r) p) 3):=by
 have hb:=aB D;obtain⟨ka,kb,ea,eb,I,X,N,-⟩:=hf.JH _ (aX D);have e:=EO (p:=p) (sM f i) (mZ f i) (by unfold ed.cols;omega) hb ea eb I X N 3 (Nat.le_refl _);rw[pR,show jF f=fG f f.cM.length from rfl,sL D,zA _ D,eG,e,kG f i (Nat.le_refl _),jx hb];show(0:Rat)-_=_;grind
theorem Fz(hf:FrV f):Fy f x=fE f x:=by
 have hs:=si.cM (f:=f) (x:=x) f.cM.length;refine iL [] (by rw[jH];exact hs.l) fun a ha=>?_;have ha:a<(dy f).length:=by rw[<-hs.l];exact ha
 have VV:=hs.w.getD (show a<(jX f x f.cM.length).length by rw[hs.l];exact ha);refine iL 0 (by rw[sO.getD (by rw[jH];exact ha)];exact VV) fun b hb=>?_;have hb:b<(dy f).length:=by rw[<-VV];exact hb
 show cW (jX f x f.cM.length) a b=cW (fE f x) a b;rw[nA ha hb,HS hf ha hb _ (Nat.le_refl _),HR hf ha hb _ (Nat.le_refl _)];unfold IW Le;rw[yz,show f.cols=f.bars.length+f.cM.length from rfl,oB];have e2:cQ (fun k=>wE f (f.bars.length+k)*(mb f (f.bars.length+k) (fa f a)*mb f (f.bars.length+k) (fa f b))) f.cM.length=cQ (fun i=>(f.cM.getD i (0,0,0)).2.2⁻¹*(rF (fa f a) (dP (f.cM.getD i (0,0,0)))*rF (fa f b) (dP (f.cM.getD i (0,0,0))))) f.cM.length:=cH fun i D=>by
  have I:=aB D;unfold wE mb rF;rw[pR,pR,hf.sN I,hf.sN I,getD_some I,dI,List.getD,aN (by rw[aL];omega),aL,Nat.add_sub_cancel_left,aM,I];split<;>split<;>rfl
 have e1:cQ (fun i=>cQ (fun r=>cQ (fun c=>kB f x i r c*(l7 f (3*i+r) (fa f a)*l7 f (3*i+c) (fa f b))) 3) 3) f.bars.length=cQ (fun l=>wE f l*(mb f l (fa f a)*mb f l (fa f b))) f.bars.length+cQ (fun i=>cQ (fun r=>x.getD ((3*i+r) / 3) 0*(l7 f (3*i+r) (fa f a)*l7 f (3*i+r) (fa f b))) 3) f.bars.length:=by
  rw[<-fK];refine cH fun i D=>?_;have I:=aB D;unfold wE mb;rw[HT hf D,HT hf D,show(dI f).getD i 0=(f.bars.getD i (0,0,0)).2.2 by rw[dI,List.getD,aJ (by rw[aL];exact D),aM,I,getD_some I];rfl];show 0+(0+_+_+_)+(0+_+_+_)+(0+_+_+_)=_*(-(0+_+_+_)* -(0+_+_+_))+(0+_+_+_)
  unfold kB;simp only[show 3*i / 3=i by omega,show(3*i+0) / 3=i by omega,show(3*i+1) / 3=i by omega,show(3*i+2) / 3=i by omega,bK,Rat.intCast_mul,show((0:Nat)=1)=False by simp,show((0:Nat)=2)=False by simp,show((1:Nat)=0)=False by simp,show((1:Nat)=2)=False by simp,show((2:Nat)=0)=False by simp,show((2:Nat)=1)=False by simp,if_true,if_false]
  grind
 rw[e1,e2];grind
end
theorem HU(h:rl q<=l):rl q⁻¹<=l:=by
 rcases Decidable.em (q=0)with h0|h0
 ·rw[h0,show((0:Rat))⁻¹=0 by decide +kernel];rw[h0]at h;exact h
 ·have I:=KA h;have Z:(q.num:Rat)≠0:=fun e=>by
   have X:=CJ q;rw[e]at X;rcases Rat.mul_eq_zero.1 X with N|N
   ·exact ME q N
   ·exact h0 N
  have e:(q.num:Rat)*q⁻¹=(q.den:Rat):=by
   rw[<-CJ q,Rat.mul_assoc,Rat.mul_inv_cancel _ h0,Rat.mul_one]
  have X:=qj (Fn:=wt l-1) Z (Ib.int (by omega)) (by rw[e];exact⟨(q.den:Int),rfl,by rw[Int.natAbs_natCast];omega⟩);exact aW X (gD.2 (by have:=uo l;omega))
section
variable{f:ed}{x:List Rat}
theorem MI(h:FrV f)(p:Nat):∃σ:Rat,(∀l,(∀q∈dI f,rl q<=l)->rl σ<=l\/σ=0)/\∀i,i<f.cM.length->cW (cY f) p (f.bars.length+i)=0\/(cW (cY f) p (f.bars.length+i)=1/\wE f (f.bars.length+i)=σ):=by
 have Y:∀i s,f.cM[i]? =some s->wE f (f.bars.length+i)=s.2.2⁻¹:=fun i s hs=>by
  unfold wE;rw[dI,List.getD,aN (by rw[aL];omega),aL,Nat.add_sub_cancel_left,aM,hs];rfl
 by_cases g:∃(i:Nat) (s:_),f.cM[i]? =some s/\p=dP s
 ·obtain⟨i0,s0,hs0,hp⟩:=g;refine⟨s0.2.2⁻¹,fun l hl=>.inl (HU (hl _ (List.mem_append_right _ (aR.2 ⟨s0,aE hs0,rfl⟩)))),fun i D=>?_⟩;have hs:=aB D;rw[pR,h.sN hs];by_cases e:p=dP f.cM[i]
  ·rw[if_pos e];have:=h.one i i0 _ _ hs hs0 (e.symm.trans hp);subst this;exact .inr ⟨rfl,Y _ _ hs0⟩
  ·rw[aI e];exact .inl rfl
 ·refine⟨0,fun _ _=>.inr rfl,fun i D=>.inl ?_⟩;have hs:=aB D;rw[pR,h.sN hs,aI fun e=>g ⟨i,_,hs,e⟩];rfl
theorem HV(h:FrV f)(hl:l<3*f.bars.length)(p:Nat):Ib 1 (l7 f l p):=by
 have D:l / 3<f.bars.length:=by omega
 have hb:=aB D;obtain⟨ka,kb,ea,eb,I,X,N,-⟩:=h.JH _ (aX D);have e:=xh (f:=f) (p:=p) (show l % 3<3 by omega) hb ea eb;rw[show 3*(l / 3)+l % 3=l by omega]at e;rw[e];unfold rF;split<;>split
 ·rw[show (1:Rat)-1=0 by decide +kernel];exact Ib.zero _
 ·rw[show (1:Rat)-0=1 by decide +kernel];exact Ib.one (Nat.le_refl _)
 ·rw[show (0:Rat)-1= -1 by decide +kernel];exact(Ib.one (Nat.le_refl _)).neg
 ·rw[show (0:Rat)-0=0 by decide +kernel];exact Ib.zero _
theorem NY(h:yv f)(Tl:f.bars.length<=6)(L:∀q∈x,rl q<=3)(p s:Nat):rl (IW f x p s)<=43:=by
 have hv:=h.toFrS.toFrV;have hx3:∀t,rl (x.getD t 0)<=3:=fun t=>by
  rw[List.getD]
  cases ht:x[t]? with
  |none=>show rl 0<=3;decide
  |some q=>exact L q (aE ht)
 obtain⟨σ,hσ,hs⟩:=MI hv p;have hσ:=hσ 3 h.fx;have hσ:rl σ<=3:=hσ.elim id fun e=>by rw[e];decide
 obtain⟨Do,hL⟩:∃Do,((List.range 6).map fun i=>wE f i)++((List.range 6).map fun i=>x.getD i 0)++[σ]=Do:=⟨_,rfl⟩
 have hflex:∀t,rl ((dI f).getD t 0)<=3:=fun t=>by
  rw[List.getD]
  cases ht:(dI f)[t]? with
  |none=>show rl 0<=3;decide
  |some q=>exact h.fx q (aE ht)
 obtain⟨WZ,hD1,Vr⟩:=ED (I':=Do) (n:=13) (by rw[<-hL];exact Nat.le_refl _) fun q hq=>by
  rw[<-hL]at hq;rcases List.mem_append.1 hq with hq|hq
  ·rcases List.mem_append.1 hq with hq|hq
   ·obtain⟨i,_,rfl⟩:=aR.1 hq;exact HU (hflex i)
   ·obtain⟨i,_,rfl⟩:=aR.1 hq;exact hx3 i
  ·rw[bF.1 hq];exact hσ
 obtain⟨F9,hD⟩:∃F9,lF Do 13=F9:=⟨_,rfl⟩
 rw[hD]at WZ hD1 Vr;have a1:∀i,i<6->Ib (wt 39) (F9*wE f i):=fun i D=>by
  have e:Do.getD i 0=wE f i:=by
   rw[<-hL,List.getD,aJ (by simp;omega),aJ (by simp;omega),aM,bZ D];rfl
  rw[<-e];exact Vr i
 have a2:∀i,i<6->Ib (wt 39) (F9*x.getD i 0):=fun i D=>by
  have e:Do.getD (6+i) 0=x.getD i 0:=by
   rw[<-hL,List.getD,aJ (by simp;omega),aN (by simp),show 6+i-((List.range 6).map fun i=>wE f i).length=i by simp,aM,bZ D];rfl
  rw[<-e];exact Vr _
 have a3:Ib (wt 39) (F9*σ):=by
  have e:Do.getD 12 0=σ:=by rw[<-hL];rfl
  rw[<-e];exact Vr _
 have k1:Ib (6*wt 41) (F9*cQ (fun l=>wE f l*(mb f l p*mb f l s)) f.bars.length):=by
  rw[<-dY];refine(Ib.sum _ fun l hl=>?_).mono (Nat.mul_le_mul_right _ Tl);rw[show F9*(wE f l*(mb f l p*mb f l s))=(F9*wE f l)*(mb f l p*mb f l s) by grind];exact((a1 l (by omega)).mul ((hv.yt p l).mul (hv.yt s l))).mono (aW (bP _ (show 2000000*2000000<=wt 2 by decide)) (jr 39 2 (Nat.le_refl _)))
 have k2:Ib (12*wt 41) (F9*cQ (fun i=>wE f (f.bars.length+i)*(mb f (f.bars.length+i) p*mb f (f.bars.length+i) s)) f.cM.length):=by
  rw[<-dY];refine(Ib.sum _ fun i D=>?_).mono (Nat.mul_le_mul_right _ h.s12);unfold mb;rcases hs i D with e|⟨e,e2⟩
  ·rw[e,bC,az,az];exact Ib.zero _
  ·rw[e,e2,bm,<-Rat.mul_assoc];exact(a3.mul (hv.yt s _)).mono (aW (bP _ (show 2000000<=wt 2 by decide)) (jr 39 2 (Nat.le_refl _)))
 have k3:Ib (18*wt 41) (F9*cQ (fun l=>x.getD (l / 3) 0*(l7 f l p*l7 f l s)) (3*f.bars.length)):=by
  rw[<-dY];refine(Ib.sum _ fun l hl=>?_).mono (Nat.mul_le_mul_right _ (show 3*f.bars.length<=18 by omega));rw[<-Rat.mul_assoc];exact((a2 (l / 3) (by omega)).mul ((HV hv hl p).mul (HV hv hl s))).mono (aW (bP _ (show 1*1<=wt 2 by decide)) (jr 39 2 (Nat.le_refl _)))
 have k:Ib (wt 42) (F9*IW f x p s):=by
  unfold IW Le;rw[show f.cols=f.bars.length+f.cM.length from rfl,oB,show ∀a b c:Rat,F9*(a+b+c)=F9*a+F9*b+F9*c from fun a b c=>by grind];refine((k1.add k2).add k3).mono ?_;rw[<-Nat.add_mul,<-Nat.add_mul];exact aW (Nat.mul_le_mul_right _ (show 6+12+18<=wt 1 by decide)) (jr 1 41 (Nat.le_refl _))
 have h9:=qj WZ (hD1.mono (BI (by decide:3*13<=42))) k;exact aW h9 (gD.2 (Jc (by decide)))
theorem EP(h:yv f)(Tl:f.bars.length<=6)(L:∀q∈x,rl q<=3):Ht (fE f x) 44:=fun r hr q hq=>by
 obtain⟨p,-,rfl⟩:=aR.1 hr;obtain⟨s,-,rfl⟩:=aR.1 hq;exact Nat.succ_le_succ (NY h Tl L p s)
theorem CM:(dy f).length<=3*f.nodes.length:=by
 unfold dy;exact aW (List.length_filter_le _ _) (by rw[List.length_range];exact Nat.le_refl _)
end
end Go.Ex
namespace Go.Ex
open Go Go.Sx Go.Proofs
variable{M:List (List Rat)}{pl:List Int}{x:List Rat}{U rv:List Value}{S:Nat->Prop}{a:Option Addr}{q:Rat}{u v:Value}{w:World}
theorem Na{a:Nat}(h:Ht M a)(ha:2<=a)(r c:Nat):rl (cW M r c)+1<=a:=by
 unfold cW;rcases aP r M.length with I|I
 ·rw[getD_some (aB I)];rcases aP c (M[r]).length with X|X
  ·rw[getD_some (aB X)];exact h _ (aX I) _ (aX X)
  ·rw[lE X,show rl 0=1 by decide];exact ha
 ·rw[show M.getD r []=[] by rw[List.getD,List.getElem?_eq_none I];rfl,lE (aS _),show rl 0=1 by decide];exact ha
theorem jb{i k a b:Nat}(h:Ht M a)(ha:2<=a)(hq:rl q<=b):Ht (fA pl M i k q) (a+(b+1)):=by
 have h0:Ht M (a+(b+1)):=h.mono (by omega);unfold fA;split
 ·intro r hr p hp;rcases a9 hr with hr|hr
  ·exact h0 r hr p hp
  ·subst hr;rcases a9 hp with hp|hp
   ·rcases aP (pl.getD i 0).toNat M.length with I|I
    ·rw[getD_some (aB I)]at hp;exact h0 _ (aX I) p hp
    ·rw[show M.getD (pl.getD i 0).toNat []=[] by rw[List.getD,List.getElem?_eq_none I];rfl]at hp
     cases hp
   ·rw[hp];have I:=lA (cW M (pl.getD i 0).toNat (pl.getD k 0).toNat) q;have X:=Na h ha (pl.getD i 0).toNat (pl.getD k 0).toNat;omega
 ·exact h0
section
variable{f:ed}{x:List Rat}{M:List (List Rat)}
theorem HW(h:yv f)(L:∀q∈x,rl q<=3){i:Nat}(D:i<f.bars.length)(r c:Nat):rl (kB f x i r c)<=9:=by
 have hb:=aB D;have hm:=aX D;have hv:=h.toFrV;obtain⟨ka,kb,-,-,-,-,-,PI⟩:=hv.JH _ hm;have OS:(f.bars[i]).2.2≠0:=fun e=>by rw[e]at PI;exact absurd PI (by decide)
 have Ot:rl (f.bars[i]).2.2<=3:=h.fx _ (List.mem_append_left _ (aR.2 ⟨_,hm,rfl⟩));have Ri:rl (x.getD i 0)<=3:=by
  rw[List.getD]
  cases ht:x[i]? with
  |none=>show rl 0<=3;decide
  |some q=>exact L q (aE ht)
 have I:=hv.OH hm r;have X:=hv.OH hm c
 have N:rl (((jR f f.bars[i]).getD r 0*(jR f f.bars[i]).getD c 0:Int):Rat)<=2:=HX (by
  have a1:((jR f f.bars[i]).getD r 0).natAbs<=2000000:=by omega
  have a2:((jR f f.bars[i]).getD c 0).natAbs<=2000000:=by omega
  rw[Int.natAbs_mul];have:=Nat.mul_le_mul a1 a2
  omega)
 have h4:=pN (((jR f f.bars[i]).getD r 0*(jR f f.bars[i]).getD c 0:Int):Rat) OS;have h5:=lA ((((jR f f.bars[i]).getD r 0*(jR f f.bars[i]).getD c 0:Int):Rat) / (f.bars[i]).2.2) (x.getD i 0);unfold kB;rw[jx hb];split<;>omega
theorem CP{a i r:Nat}(h:Ht M a)(ha:2<=a)(R:∀c,rl (kB f x i r c)<=9):∀c,Ht (gu f x i r M c) (a+c*40)
 |0=>by rw[gu,Nat.zero_mul];exact h
 |c+1=>by
  have h0:=CP h ha R c;have Z:rl (-(kB f x i r c))<=9:=by rw[j9];exact R c
  rw[gu];exact(jb (jb (jb (jb h0 (by omega) (R c)) (by omega) (R c)) (by omega) Z) (by omega) Z).mono (by omega)
theorem GC{a i:Nat}(h:Ht M a)(ha:2<=a)(R:∀r c,rl (kB f x i r c)<=9):∀r,Ht (kH f x i M r) (a+r*120)
 |0=>by rw[kH,Nat.zero_mul];exact h
 |r+1=>by
  rw[kH];exact(CP (GC h ha R r) (by omega) (R r) 3).mono (by omega)
theorem CQ(h:yv f)(L:∀q∈x,rl q<=3):∀i,i<=f.bars.length->Ht (gI f x i) (3+i*360)
 |0,_=>by
  rw[gI,Nat.zero_mul];intro r hr q hq;rw[(List.mem_replicate.1 hr).2]at hq;rw[(List.mem_replicate.1 hq).2];decide
 |i+1,D=>by
  rw[gI];exact(GC (CQ h L i (by omega)) (by omega) (fun r c=>HW h L (by omega) r c) 3).mono (by omega)
theorem HY(h:rl q<=3)(h0:q≠0):rl (1 / q)<=4:=by have:=NZ h0;omega
theorem HZ(h:yv f)(L:∀q∈x,rl q<=3):∀i,i<=f.cM.length->Ht (jX f x i) (3+f.bars.length*360+i*5)
 |0,_=>by rw[jX,Nat.zero_mul];exact CQ h L _ (Nat.le_refl _)
 |i+1,D=>by
  have h0:=HZ h L i (by omega);have hs:=aB (show i<f.cM.length by omega);rw[jX];split
  ·exact h0.mono (by omega)
  ·rename_i OS;rw[getD_some hs]at OS ⊢;have Ot:rl (f.cM[i]).2.2<=3:=h.fx _ (List.mem_append_right _ (aR.2 ⟨_,aX _,rfl⟩));exact(jb h0 (by omega) (HY Ot OS)).mono (by omega)
end
def Lq(S:Nat->Prop)(rv:List Value)(g:Nat):Prop:=S g/\∀v∈rv,v.ownBlock≠some g
structure lg(w:World)(S:Nat->Prop)(rv:List Value)(n:Nat)(M:List (List Rat)):Prop where
 len:rv.length=M.length
 row:∀(i:Nat) v x,rv[i]? =some v->M[i]? =some x->gK w (Lq S rv) v n x
 rW:∀(i j:Nat) a b g,rv[i]? =some a->rv[j]? =some b->a.ownBlock=some g->b.ownBlock=some g->i=j
section
variable{S S':Nat->Prop}{H:Hp}{nx n:Nat}{iv E:Iv}{B:Nat}{w J V:World}{O:Nat->Sx.dL}{rv:List Value}{M:List (List Rat)}
theorem lg.cC(h:lg w S rv n M)(R:∀g,S g\/(∃v∈rv,v.ownBlock=some g)->V.heap[g]? =w.heap[g]?):lg V S rv n M:=
 ⟨h.len,fun i v x I X=>(h.row i v x I X).cC fun g G=>R g (G.imp (fun G=>G.1) fun G=>⟨v,aE I,G⟩),h.rW⟩
theorem lg.cF(h:lg w S rv n M)(R:∀g,S g->S' g):lg w S' rv n M:=
 ⟨h.len,fun i v x I X=>(h.row i v x I X).cF fun g G=>⟨R g G.1,G.2⟩,h.rW⟩
theorem lg.low(h:lg w S rv n M):∀v∈rv,∀g,v.ownBlock=some g->g<w.heap.size:=fun v hv g G=>by
 obtain⟨i,D⟩:=aQ hv;exact(h.row i v _ D (aB (by rw[<-h.len];exact(aD.1 D).1))).low g G
theorem lg.put(h:lg w S rv n M){i:Nat}(hv:rv[i]? =some v)(G:w.grownBy V v.ownBlock)(F:Old S w)(hSS:∀g,S g->S' g)(OR:gK V (Lq S' rv) v n x):lg V S' rv n (M.set i x):=by
 refine⟨by rw[bX];exact h.len,fun j u y I X=>?_,h.rW⟩;by_cases PH:i=j
 ·subst PH;rw[hv]at I;injection I with I;subst I;rw[aO (by rw[<-h.len];exact(aD.1 hv).1)]at X;injection X with X;subst X;exact OR
 ·rw[aT PH]at X;have h0:=h.row j u y I X;refine(h0.cC fun g hgg=>?_).cF fun g G=>⟨hSS g G.1,G.2⟩
  rcases hgg with hgg|hgg
  ·exact G.block g (F g hgg.1) fun e=>hgg.2 v (aE hv) e.symm
  ·exact G.block g (h0.low g hgg) fun e=>PH (h.rW i j v u g hv I e.symm hgg)
theorem lg.push(h:lg J (Cv FF B iv) rv n M)(r:Rel H nx iv B w O J)(W:Ext J V)(OX:∀v∈rv,∀g,v.ownBlock=some g->Cv FF B iv g)(L:eE V FF J.heap.size [(J.heap.size,V.heap.size)] v n x):
  lg V (Cv FF B ((J.heap.size,V.heap.size)::iv)) (rv++[v]) n (M++[x])/\∀u∈rv++[v],∀g,u.ownBlock=some g->Cv FF B ((J.heap.size,V.heap.size)::iv) g:=by
 have Q5:∀g,Cv FF J.heap.size [(J.heap.size,V.heap.size)] g->J.heap.size<=g/\g<V.heap.size:=fun g G=>by
  rcases G with G|⟨_,lo,D,X,N,h4⟩
  ·exact G.elim
  ·simp at X;obtain⟨rfl,rfl⟩:=X;exact⟨N,h4⟩
 have hcv:∀g,J.heap.size<=g/\g<V.heap.size->Cv FF B ((J.heap.size,V.heap.size)::iv) g:=fun g G=>.inr ⟨by have:=r.bz;omega,_,_,aG,G.1,G.2⟩;have hold:∀g,Cv FF B iv g->g<J.heap.size:=fun g G=>Rel.old r (eI B) g G;refine⟨⟨by rw[List.length_append,List.length_append,h.len];rfl,fun i u y I X=>?_,fun i j a b g I X N h4=>?_⟩,fun u hu g G=>?_⟩
 ·rcases aP i rv.length with D|D
  ·rw[aJ D]at I;rw[aJ (by rw[<-h.len];exact D)]at X;have h0:=h.row i u y I X;refine(h0.cC fun g G=>W.block g ?_).cF fun g G=>⟨G.1.mono fun p hp=>aC _ hp,fun z hz e=>?_⟩
   ·rcases G with G|G
    ·exact hold g G.1
    ·exact h0.low g G
   ·rcases List.mem_append.1 hz with hz|hz
    ·exact G.2 z hz e
    ·simp at hz;subst hz;have:=Q5 g (L.new g e);have:=hold g G.1;omega
  ·have e1:i=rv.length:=by have:=(aD.1 I).1;simp at this;omega
   subst e1;rw[aN (Nat.le_refl _),bB]at I;rw[h.len,aN (Nat.le_refl _),bB]at X;injection I with I;injection X with X;subst I X;refine L.row.cF fun g G=>⟨hcv g (Q5 g G.1),fun z hz e=>?_⟩
   rcases List.mem_append.1 hz with hz|hz
   ·have:=hold g (OX z hz g e);have:=Q5 g G.1;omega
   ·simp at hz;subst hz;exact G.2 e
 ·rcases aP i rv.length with D|D<;>rcases aP j rv.length with hj|hj
  ·rw[aJ D]at I;rw[aJ hj]at X;exact h.rW i j a b g I X N h4
  ·rw[aJ D]at I;have e1:j=rv.length:=by have:=(aD.1 X).1;simp at this;omega
   subst e1;rw[aN (Nat.le_refl _),bB]at X;injection X with X;subst X;have:=hold g (OX a (aE I) g N);have:=Q5 g (L.new g h4);omega
  ·rw[aJ hj]at X;have e1:i=rv.length:=by have:=(aD.1 I).1;simp at this;omega
   subst e1;rw[aN (Nat.le_refl _),bB]at I;injection I with I;subst I;have:=hold g (OX b (aE X) g h4);have:=Q5 g (L.new g N);omega
  ·have e1:i=rv.length:=by have:=(aD.1 I).1;simp at this;omega
   have e2:j=rv.length:=by have:=(aD.1 X).1;simp at this;omega
   omega
 ·rcases List.mem_append.1 hu with hu|hu
  ·exact(OX u hu g G).mono fun p hp=>aC _ hp
  ·simp at hu;subst hu;exact hcv g (Q5 g (L.new g G))
theorem lg.rel(h:lg w (Cv FF B iv) rv n M)(OX:∀v∈rv,∀g,v.ownBlock=some g->Cv FF B iv g)(r:Rel H nx iv B w O J):lg J (Cv FF B iv) rv n M:=
 h.cC fun g G=>Rel.same r (eI B) (G.elim id fun⟨v,hv,e⟩=>OX v hv g e)
theorem lg.cD(h:lg w (Cv FF B iv) rv n M)(OX:∀v∈rv,∀g,v.ownBlock=some g->Cv FF B iv g)(r:Rel H nx iv B w O J)(W:Ext J V)(hm:∀p,p∈iv->p∈E):lg V (Cv FF B E) rv n M:=
 ((h.rel OX r).cC fun g G=>W.block g (Rel.old r (eI B) g (G.elim id fun⟨v,hv,e⟩=>OX v hv g e))).cF fun _ G=>G.mono hm
end
theorem dT.Mv{V:World}(h:dT w.heap.size w V):w.grownBy V none:=⟨h.os,h.tape,h.output,h.size,fun k R _=>h.block k R⟩
theorem M0{n c j:Nat}(h:gK w S (.slice a n c) n x)(hj:j<n):∃g,a=some ⟨g,0,none⟩:=by
 obtain⟨A,I,X,N⟩:=h;rcases I.2 with⟨_,h0⟩|⟨g,cap,cur,e,_⟩
 ·omega
 ·injection e with e;exact⟨g,e⟩
theorem iu.at1{m c j:Nat}(h:iu w S 1 (.slice a m c) U m)(hj:U[j]? =some u):∃ad,a=some ad/\S ad.block/\w.cell? (ad.add (j*1))=some u:=by
 obtain⟨h0,I,X,a',c',e,N,h4⟩:=h;injection e with e1 e2 e3;subst e1;obtain⟨ad,e,h5,h6⟩:=h4 j u hj;exact⟨ad,e,h5,by rw[aY];exact h6⟩
set_option maxHeartbeats 1000000 in
theorem LD{C:Nat->Prop}{ap ao:Addr}{apl aot:Option Addr}{m cpl cot n i k h:Nat}(hC:Old C w)(F:Old S w)(hcp:w.cell? ap=some (.slice apl m cpl))(Qz:C ap.block)(hP:DS w C (.slice apl m cpl) pl)(hpm:pl.length=m)(hco:w.cell? ao=some (.slice aot n cot))(hao:C ao.block)(hO:iu w C 1 (.slice aot n cot) rv n)(hM:lg w S rv n M)(Pm:rv.length=n)(D:i<pl.length)(R:k<pl.length)(hm:m<=1000)(Z:n<=1000)(Sw:∀z∈pl,-1<=z/\z<n)(Q8:Ht M h)(hh:h<=80000)(hu:cN w S u q)(hq:rl q<=80000):
  dx PG F'.eR #[.int .i64 i,.int .i64 k,u,.pointer (some ap),.pointer (some ao)] w (fun e V=>∃v row,e= .returned v/\w.grownBy V row/\(∀g,row=some g->∃v∈rv,v.ownBlock=some g)/\lg V (Nw S w V) rv n (fA pl M i k q)):=by
 have Y:=bR w;obtain⟨u0,u1,u2,u3,u4,u5,u6,u7,rfl⟩:=hu.shape;obtain⟨zi,hzi⟩:∃z,pl[i]? =some z:=⟨_,aB D⟩
 obtain⟨zk,hzk⟩:∃z,pl[k]? =some z:=⟨_,aB R⟩
 obtain⟨hi1,Tk⟩:=Sw zi (aE hzi);obtain⟨hk1,UX⟩:=Sw zk (aE hzk);have Vo:pl.getD i 0=zi:=by rw[List.getD,hzi];rfl
 have hgk:pl.getD k 0=zk:=by rw[List.getD,hzk];rfl
 obtain⟨ai,hai,hSi,Sq⟩:=DS.at hP hzi;obtain⟨ak,hak,hSk,hlk⟩:=DS.at hP hzk;have Qq:M.length=n:=by rw[<-hM.len,Pm]
 refine oJ (by simp) ?_;conv=>whnf
 refine cI hτ dN [.x 0,.x 1,.x 2,.x 3,.x 4,.x 5,.x 6,.x 7,.x 8,.x 9] (by kernel_rfl) (by kernel_rfl) ?_;conv=>whnf
 refine⟨.slice apl m cpl,fun O J r=>?_,?_⟩
 ·rw[cJ (w:=w) (V:=J) ((Y.tr r.cL).block _ (hC _ Qz))];exact hcp
 conv=>whnf
 refine⟨ai,hai,by omega,?_⟩;conv=>whnf
 refine⟨.int .i64 zi,rd1 Sq Y (hC _ hSi),?_⟩;conv=>whnf
 refine⟨.slice apl m cpl,fun O J r=>?_,?_⟩
 ·rw[cJ (w:=w) (V:=J) ((Y.tr r.cL).block _ (hC _ Qz))];exact hcp
 conv=>whnf
 refine⟨ak,hak,by omega,?_⟩;conv=>whnf
 refine⟨.int .i64 zk,rd1 hlk Y (hC _ hSk),?_⟩;conv=>whnf
 refine dB.mk ?_ ?_<;>intro hc1
 ·have hc1:0<=zi:=by simpa using hc1
  conv=>whnf
  refine dB.mk ?_ ?_<;>intro UT
  ·have UT:0<=zk:=by simpa using UT
   obtain⟨r,rfl⟩:=Int.eq_ofNat_of_zero_le hc1;obtain⟨c,rfl⟩:=Int.eq_ofNat_of_zero_le UT;have hr:r<n:=by omega
   have hc:c<n:=by omega
   obtain⟨vr,Sv⟩:∃v,rv[r]? =some v:=⟨_,aB (by omega)⟩
   obtain⟨x,L⟩:∃x,M[r]? =some x:=⟨_,aB (by omega)⟩
   have OR:=hM.row r vr x Sv L;have QC:=OR.len;obtain⟨y,hy⟩:∃y,x[c]? =some y:=⟨_,aB (by omega)⟩
   obtain⟨ar,cr,rfl,-⟩:=OR.form;have hyr:rl y<=80000:=by have:=Q8 x (aE L) y (aE hy);omega
   obtain⟨ady,csy,Ud,RR,Q3⟩:=gB.load OR.read hy;obtain⟨y0,y1,y2,y3,y4,y5,y6,y7,rfl,RR⟩:=RR;obtain⟨ao2,hao2,hSo,SW⟩:=iu.at1 hO Sv;have Od:∀g,(Value.slice ar n cr).ownBlock=some g->g<w.heap.size:=OR.low;conv=>whnf
   refine cI hτ dN [.x 0,.x 1,.x 2,.x 3,.x 4,.x 5,.x 6,.x 7,.x 8,.x 9,.x 10,.x 11,.x 12,.x 13,.x 14,.x 15] (by kernel_rfl) (by kernel_rfl) ?_;conv=>whnf
   refine⟨.slice aot n cot,fun O J r=>?_,?_⟩
   ·rw[cJ (w:=w) (V:=J) ((Y.tr r.cL).block _ (hC _ hao))];exact hco
   conv=>whnf
   refine⟨ao2,hao2,by omega,?_⟩;conv=>whnf
   refine⟨.slice ar n cr,rd1 SW Y (hC _ hSo),?_⟩;conv=>whnf
   refine⟨.slice aot n cot,fun O J r=>?_,?_⟩
   ·rw[cJ (w:=w) (V:=J) ((Y.tr r.cL).block _ (hC _ hao))];exact hco
   conv=>whnf
   refine⟨ao2,hao2,by omega,?_⟩;conv=>whnf
   refine⟨.slice ar n cr,rd1 SW Y (hC _ hSo),?_⟩;conv=>whnf
   refine⟨ady,Ud,by omega,?_⟩;conv=>whnf
   refine⟨[.bool y0,.slice y1 y2 y3,.bool y4,.slice y5 y6 y7],rfl,rdO Q3 Y Od,?_⟩;conv=>whnf
   refine cE Y (fun _ J v V=>cN V (Nf J V) v (y+q)) (fun O J r=>Cn (S:=S) (oS F r) ((cN.l (cN.cC (cN.cF RR fun g G=>G.1) (kS Y r F)) (by omega)).v) ((cN.l (cN.cC hu (kS Y r F)) (by omega)).v)) ?_;rintro O _ _ _ OZ r W Y h_ Z;have hd:=Z.dD (S:=FF) r.bz (mN h_);clear r Z;obtain⟨A0,A1,A2,A3,A4,A5,A6,A7,rfl⟩:=hd.shape;conv=>whnf
   obtain⟨g,G⟩:∃g,ar=some ⟨g,0,none⟩:=M0 OR hc;subst G;refine⟨⟨g,0,none⟩,rfl,by omega,?_⟩;conv=>whnf
   intro O J r0;have hbw:=Y.tr r0.cL;have VG:∀v∈rv,∀g,v.ownBlock=some g->g<w.heap.size:=hM.low;have Wj:∃v∈rv,v.ownBlock=some g:=⟨_,aE Sv,rfl⟩
   have hglow:g<w.heap.size:=Od g rfl;have hMk:lg J (Cv S w.heap.size OZ) rv n M:=(hM.cC fun z hz=>hbw.block z (hz.elim (F z) fun⟨v,hv,e⟩=>VG v hv z e)).cF fun z hz=>.inl hz;have Wn:Old (Cv S w.heap.size OZ) J:=Rel.old r0 F;have hdk:cN J (Lq (Cv S w.heap.size OZ) rv) (.agg #[.bool A0,.slice A1 A2 A3,.bool A4,.slice A5 A6 A7]) (y+q):=cN.cF (hd.rel r0 (bw w)) fun z hz=>by
    have I:w.heap.size<=z:=hz.elim (fun h=>h.elim) fun h=>h.1;have X:z<J.heap.size:=Rel.old r0 (bw w) z hz;exact⟨Cg hz,fun v hv e=>by have:=VG v hv z e;omega⟩
   obtain⟨g',R6,I,X,N,h5⟩:=(hMk.row r _ x Sv L).store (j:=c) hc hdk (fun z e hz=>hz.2 _ (aE Sv) e) (fun z hz=>Wn z hz.1);injection R6 with R6;injection R6 with R6;subst R6;refine⟨I,N,fun id b hb Z=>by rw[X];have:=(r0.low id b hb Z).1;omega,fun w5 Rr=>?_⟩;obtain⟨k1,k2,k3⟩:=h5 w5 Rr;have hP2:=hMk.put (S':=Cv S w.heap.size OZ) Sv k2 Wn (fun z hz=>hz) k1;have TW:fA pl M i k q=M.set r (x.set c (y+q)):=by
    unfold fA;rw[Vo,hgk,if_pos ⟨Int.natCast_nonneg _,Int.natCast_nonneg _⟩,aF,aF,cW,show M.getD r []=x by rw[List.getD,L];rfl,show x.getD c 0=y by rw[List.getD,hy];rfl]
   rw[<-TW]at hP2;clear hMk hdk I X N h5 Rr k1;conv=>whnf
   intro GT we re;have hb5:=re.cL;refine⟨_,some g,rfl,⟨(re.os.trans k2.os).trans hbw.os,(re.tape.trans k2.tape).trans hbw.tape,(re.output.trans k2.output).trans hbw.output,aW hbw.size (aW k2.size hb5.size),fun z hz OS=>((hb5.block z hz).trans (k2.block z (Nat.lt_of_lt_of_le hz hbw.size) OS)).trans (hbw.block z hz)⟩,fun z e=>by injection e with e;subst e;exact Wj,?_⟩;exact(hP2.cC fun z hz=>hz.elim (fun h=>Rel.same re F h) fun⟨v,hv,e⟩=>hb5.block z (VG v hv z e)).cF fun z hz=>Cv.nw hz re
  have UT:zk<0:=by simpa using UT
  conv=>whnf
  have Rx:fA pl M i k q=M:=by
   unfold fA;rw[Vo,hgk,aI (by omega)]
  intro GT we re;refine⟨_,none,rfl,dT.Mv (Y.tr re.cL),(fun g G=>by cases G),?_⟩;rw[Rx];exact(hM.cC fun g G=>(Y.tr re.cL).block g (G.elim (F g) fun⟨v,hv,e⟩=>hM.low v hv g e)).cF fun g G=>.inl G
 have hc1:zi<0:=by simpa using hc1
 conv=>whnf
 have Rx:fA pl M i k q=M:=by
  unfold fA;rw[Vo,hgk,aI (by omega)]
 intro GT we re;refine⟨_,none,rfl,dT.Mv (Y.tr re.cL),(fun g G=>by cases G),?_⟩;rw[Rx];exact(hM.cC fun g G=>(Y.tr re.cL).block g (G.elim (F g) fun⟨v,hv,e⟩=>hM.low v hv g e)).cF fun g G=>.inl G
end Go.Ex
namespace Go.Ex
variable{s:Int×Int×Rat}
def tU(f:ed)(k r:Nat):Bool:=(f.cM.take k).any fun s=>decide (dP s=r)&&decide (s.2.2=0)
def vD(f:ed)(k:Nat):List Int:=(List.range (3*f.nodes.length)).map fun r=>if tU f k r then -1 else 0
def og(f:ed)(i:Nat):List Int:=(List.range (3*f.nodes.length)).map fun r=>if ke f r then -1 else if r<i then(ja f r:Int)else 0
section
variable{f:ed}
theorem ER(k:Nat):(vD f k).length=3*f.nodes.length:=by rw[vD,aL,List.length_range]
theorem zE(i:Nat):(og f i).length=3*f.nodes.length:=by rw[og,aL,List.length_range]
theorem IY:vD f 0=List.replicate (3*f.nodes.length) 0:=by
 rw[List.eq_replicate_iff];refine⟨ER 0,fun b hb=>?_⟩;obtain⟨r,-,rfl⟩:=aR.1 hb;rfl
theorem sP{k r:Nat}(hs:f.cM[k]? =some s):tU f (k+1) r=(tU f k r||(decide (dP s=r)&&decide (s.2.2=0))):=by
 unfold tU;rw[List.take_add_one,hs,List.any_append];simp
theorem I0{k:Nat}(hs:f.cM[k]? =some s)(h:s.2.2≠0):vD f (k+1)=vD f k:=by
 unfold vD;exact List.map_congr_left fun r _=>by rw[sP hs,bE h,Bool.and_false,Bool.or_false]
theorem KP{k:Nat}(hs:f.cM[k]? =some s)(h:s.2.2=0):vD f (k+1)=(vD f k).set (dP s) (-1):=by
 refine bG fun r=>?_;unfold vD;by_cases e:dP s=r
 ·subst e;rcases aP (dP s) (3*f.nodes.length)with I|I
  ·rw[aO (by rw[aL,List.length_range];exact I),aM,bZ I];show some (if tU f (k+1) (dP s)then -1 else 0)=_;rw[sP hs,bU rfl,bU h];simp
  ·rw[List.getElem?_eq_none (by simpa using I),List.getElem?_eq_none (by simpa using I)]
 ·rw[aT e,aM,aM]
  cases hr:(List.range (3*f.nodes.length))[r]? with
  |none=>rfl
  |some r'=>
   have:r'=r:=by
    have I:=(aD.1 hr).1;rw[List.length_range]at I;rw[bZ I]at hr;injection hr with hr;exact hr.symm
   subst this;show some (if tU f (k+1) r' then(-1:Int)else 0)=some (if tU f k r' then -1 else 0);rw[sP hs,bE e,Bool.false_and,Bool.or_false]
theorem I1(r:Nat):tU f f.cM.length r=ke f r:=by
 unfold tU ke;rw[bH]
theorem I2:og f 0=vD f f.cM.length:=by
 unfold vD og;exact List.map_congr_left fun r _=>by rw[I1,aI (Nat.not_lt_zero r)]
theorem KQ:og f (3*f.nodes.length)=placeF f:=by
 unfold og placeF;exact List.map_congr_left fun r hr=>by rw[if_pos (List.mem_range.1 hr)]
theorem MJ{i:Nat}(D:i<3*f.nodes.length):(og f i)[i]? =some (if ke f i then -1 else 0):=by
 unfold og;rw[aM,bZ D];show some (if ke f i then -1 else if i<i then(ja f i:Int)else 0)=_;rw[aI (Nat.lt_irrefl i)]
theorem KR(i:Nat):ja f (i+1)=ja f i+if ke f i then 0 else 1:=by
 unfold ja;rw[bW,List.filter_append,List.length_append]
 cases h:ke f i<;>simp[h]
theorem H0{i r:Nat}{x:Int}(e:r≠i):(if r<i+1 then x else 0)=if r<i then x else 0:=by
 by_cases e2:r<i
 ·rw[if_pos e2,if_pos (by omega)]
 ·rw[aI e2,aI (by omega)]
theorem I4{i:Nat}(h:ke f i=true):og f (i+1)=og f i:=by
 unfold og;refine List.map_congr_left fun r _=>?_;by_cases e:r=i
 ·subst e;rw[if_pos h,if_pos h]
 ·rw[H0 e]
theorem KU{i:Nat}(D:i<3*f.nodes.length)(h:ke f i=false):og f (i+1)=(og f i).set i (ja f i):=by
 refine bG fun r=>?_;by_cases e:i=r
 ·subst e;rw[aO (by rw[zE];exact D)];unfold og;rw[aM,bZ D];show some (if ke f i then -1 else if i<i+1 then(ja f i:Int)else 0)=_;rw[h,aI (by decide),if_pos (bV i)]
 ·rw[aT e];unfold og;rw[aM,aM]
  cases hr:(List.range (3*f.nodes.length))[r]? with
  |none=>rfl
  |some r'=>
   have:r'=r:=by
    have I:=(aD.1 hr).1;rw[List.length_range]at I;rw[bZ I]at hr;injection hr with hr;exact hr.symm
   subst this;show some (if ke f r' then(-1:Int)else if r'<i+1 then(ja f r':Int)else 0)=some (if ke f r' then -1 else if r'<i then(ja f r':Int)else 0);rw[H0 (Ne.symm e)]
end
end Go.Ex
namespace Go.Ex
open Go Go.Sx Go.Proofs
theorem LC{f:ed}(h:eN f≠0\/f.nodes.length<=4/\f.bars.length<=6)(hb:∀b∈f.bars,rl b.2.2<=3)(hs:∀b∈f.cM,rl b.2.2<=3)(h0:eN f=0):yv f:=
 ⟨Nl h h0,fun q hq=>by
  rcases List.mem_append.1 hq with h|h
  ·obtain⟨b,Qo,rfl⟩:=aR.1 h;exact hb b Qo
  ·obtain⟨b,Qo,rfl⟩:=aR.1 h;exact hs b Qo⟩
end Go.Ex
namespace Go.Ex
section
variable{f:ed}{b y s z:List Rat}{c:Rat}
end
end Go.Ex
namespace Go.Ex
open Go Go.Sx Go.Proofs
end Go.Ex
namespace Go.Ex
section
variable{M:List (List Rat)}{n:Nat}{fl p q x y u v:List Rat}
theorem yx(p:List Rat)(c:Rat)(i:Nat):(df p c).getD i 0=p.getD i 0*c:=by
 rw[df,List.getD,aM,List.getD]
 cases p[i]? with
 |none=>exact(bC c).symm
 |some a=>rfl
end
end Go.Ex
namespace Go.Ex
open Go Go.Sx Go.Proofs
variable{args:(Nat->Sx.dL)->Array Value}{Id:(Nat->Sx.dL)->World->Value->World->Prop}{x:List Rat}{U:List Value}{g:Nat}{S C9:Nat->Prop}{q:Rat}{Fn:SV->Hp->Iv->World->Prop}{v vb vn vs vx:Value}{w:World}{f:ed}
section
variable{f:ed}{x:List Rat}
end
section
variable{S:Nat->Prop}{H:Hp}{nx n:Nat}{iv E:Iv}{B:Nat}{w J V:World}{O:Nat->Sx.dL}{rv:List Value}{M:List (List Rat)}
theorem lg.nil:lg w S [] n []:=⟨rfl,fun _ _ _ h=>(by cases h),fun _ _ _ _ _ h=>by cases h⟩
theorem Lq.mono(G:Lq (Cv FF B iv) rv g)(hm:∀p,p∈iv->p∈E):Lq (Cv FF B E) rv g:=⟨G.1.mono hm,G.2⟩
theorem Lq.fresh(h:cN V (Nf J V) v q)(r:Rel H nx iv B w O J)(OX:∀v∈rv,∀g,v.ownBlock=some g->Cv FF B iv g):cN V (Lq (Cv FF B ((J.heap.size,V.heap.size)::iv)) rv) v q:=
 cN.cF h fun g G=>G.elim (fun h=>h.elim) fun h=>⟨.inr ⟨by have:=r.bz;omega,_,_,aG,h.1,h.2⟩,fun u hu e=>by have:=Rel.old r (eI B) g (OX u hu g e);omega⟩
theorem lg.rat(h:lg w (Cv FF B iv) rv n M)(OX:∀v∈rv,∀g,v.ownBlock=some g->Cv FF B iv g){i:Nat}(hv:rv[i]? =some v)(L:M[i]? =some x):cS w (Cv FF B iv) v x:=
 ((h.row i v x hv L).read.cF (fun g G=>OX v (aE hv) g G) (fun g G=>G.1)).c
end
theorem Ix{α:Type}{rv:List α}{i n:Nat}{e v:α}(h:rv.length=i)(D:i<n):(rv++List.replicate (n-i) e).take i++[v]++(rv++List.replicate (n-i) e).drop (i+1)=(rv++[v])++List.replicate (n-(i+1)) e:=by
 subst h;rw[List.take_left' rfl,show n-rv.length=(n-(rv.length+1))+1 by omega,List.replicate_succ,List.drop_append];simp
theorem LF{n:Nat}(Z:(dy f).length=n):∀z∈placeF f,-1<=z/\z<(n:Int):=fun z hz=>by
 obtain⟨r,hr,rfl⟩:=aR.1 hz
 cases h:ke f r with
 |true=>rw[if_pos rfl];omega
 |false=>
  have:=(xg (List.mem_range.1 hr) h).1;rw[aI (by decide)];omega
section
variable{H:Hp}{nx n m:Nat}{iv:Iv}{B:Nat}{w J V:World}{O:Nat->Sx.dL}{rv:List Value}{M:List (List Rat)}{pl:List Int}
theorem Lq.kept{row:Option Nat}(r:Rel H nx iv B w O J)(Oc:J.grownBy V row)(L:∀x,row=some x->∃v∈rv,v.ownBlock=some x)(G:Lq (Cv FF B iv) rv g):V.heap[g]? =w.heap[g]? :=
 (Oc.block g (Rel.old r (eI B) g G.1) fun e=>let⟨v,hv,e2⟩:=L g e.symm;G.2 v hv e2).trans (Rel.same r (eI B) G.1)
theorem iF(hX:∀x,C9 x->Cv FF B iv x)
  (h:∀O J,Rel H nx iv B w O J->dx PG g (args O) J (fun e V=>∃v row,e= .returned v/\J.grownBy V row/\(∀x,row=some x->C9 x)/\Id O J v V))
  (hK:∀O J v V row,Rel H nx iv B w O J->J.grownBy V row->(∀x,row=some x->C9 x)->dT B w V->Id O J v V->Fn (.o (.v v)) H ((J.heap.size,V.heap.size)::iv) V):BD PG B g args H nx iv w Fn:=
 ⟨fun O J r=>(h O J r).mono fun e V ⟨v,row,I,X,N,h4⟩=>⟨v,H,(J.heap.size,V.heap.size)::iv,I,r.nJ (fun x L=>Rel.not r (eI _) (hX x (N x L))) X,
  hK O J v V row r X N (r.cL.tr (dT.grown X (fun x L=>(hX x (N x L)).elim (fun h=>h.elim) fun h=>h.1) r.bz)) h4⟩⟩
theorem AD(r:Rel H nx iv B w O J){T:Nat->Prop}{id t sz k:Nat}(h:cV H id=some (.arr t U))(hm:U.length=k*sz)(Sh:k<=maxLen)(I:∀u∈U,u.oneCell'=true)(hT:T (O id).g):
  iu J T sz (.slice (some ⟨(O id).g,0,none⟩) k k) U k:=by
 refine⟨Sh,hm,I,_,_,rfl,Nat.le_refl _,fun j u hu=>⟨_,rfl,hT,?_⟩⟩;rw[dA,cell_of (r.arr id t U h),aV];exact hu
theorem jd{i k h:Nat}{u:Value}(r:Rel H nx iv B w O J)(I:cV H 1=some (.arr T.int (zv pl)))(X:cV H 2=some (.box T.Lint [.s 1 0 m m]))(N:cV H 3=some (.arr T.jC rv))(h4:cV H 4=some (.box T.BZ [.s 3 0 n n]))
  (hM:lg w (Cv FF B iv) rv n M) (OX:∀v∈rv,∀g,v.ownBlock=some g->Cv FF B iv g) (PK:∀u∈rv,u.oneCell'=true) (hpm:pl.length=m) (Pm:rv.length=n) (D:i<m) (R:k<m) (hm:m<=1000) (Z:n<=1000) (Sw:∀z∈pl,-1<=z/\z<n) (Q8:Ht M h) (hh:h<=80000) (hu:cN w (Cv FF B iv) u q) (hq:rl q<=80000):
  dx PG F'.eR #[.int .i64 i,.int .i64 k,u,.pointer (some ⟨(O 2).g,0,none⟩),.pointer (some ⟨(O 4).g,0,none⟩)] J (fun e V=>∃v row,e= .returned v/\J.grownBy V row/\(∀x,row=some x->∃v∈rv,v.ownBlock=some x)/\lg V (Cv FF B ((J.heap.size,V.heap.size)::iv)) rv n (fA pl M i k q)):=by
 have n1:=r.nn 1 _ I (by intros;simp) (by simp);have n2:=r.nn 2 _ X (by intros;simp) (by simp);have n3:=r.nn 3 _ N (by intros;simp) (by simp);have n4:=r.nn 4 _ h4 (by intros;simp) (by simp);have hP:DS J (fun g=>g<J.heap.size) (.slice (some ⟨(O 1).g,0,none⟩) m m) pl:=by
  have:=AD (T:=fun g=>g<J.heap.size) (sz:=1) (k:=m) r I (by rw[Cr,hpm,aY]) (by unfold maxLen;omega) (fun u hu=>by obtain⟨z,-,rfl⟩:=aR.1 hu;rfl) (r.low 1 _ I n1).2;unfold DS;rw[hpm];exact this
 have hO:=AD (T:=fun g=>g<J.heap.size) (sz:=1) (k:=n) r N (by rw[Pm,aY]) (by unfold maxLen;omega) PK (r.low 3 _ N n3).2;have c2:J.cell? ⟨(O 2).g,0,none⟩=some (.slice (some ⟨(O 1).g,0,none⟩) m m):=cell_of (r.box 2 _ _ X);have c4:J.cell? ⟨(O 4).g,0,none⟩=some (.slice (some ⟨(O 3).g,0,none⟩) n n):=cell_of (r.box 4 _ _ h4);refine(LD (C:=fun g=>g<J.heap.size) (S:=Cv FF B iv) (fun g G=>G) (Rel.old r (eI B)) c2 (r.low 2 _ X n2).2 hP hpm c4 (r.low 4 _ h4 n4).2 hO (hM.rel OX r) Pm (by omega) (by omega) hm Z Sw Q8 hh (cN.cC hu fun g G=>Rel.same r (eI B) G) hq).mono fun e V ⟨v,row,e1,e2,e3,e4⟩=>⟨v,row,e1,e2,e3,e4.cF fun g G=>?_⟩
 rcases G with G|G
 ·exact G.mono fun p hp=>aC _ hp
 ·exact .inr ⟨by have:=r.bz;omega,_,_,aG,G.1,G.2⟩
end
set_option maxHeartbeats 1000000 in
theorem An(F:Old S w)(hf:dm w S vn vb vs f)(PV:eN f=0)(Pw:yv f)(L:dM w S vx x)(QC:x.length=f.cols)(Rh:∀q∈x,rl q<=3):
  dx PG F'.mE #[.agg #[vn,vb,vs],vx] w (eH w fun v' V=>cT V (Nf w V) v' (Fy f x)):=by
 have Y:=bR w;obtain⟨an,cn,ab,cb,aq,cq,rfl,rfl,rfl,RX,RP,Sk⟩:=hf.shape;obtain⟨ax,cx,rfl,UM,UN⟩:=eD.shape L;have RF:=Pw.toFrS;have hv:=RF.toFrV;have OV:=xd PV;have hn4:=RF.n4;have Tl:=RF.b6;have hs12:=RF.s12;have Rq:=CM (f:=f);have Q1:f.cols=f.bars.length+f.cM.length:=rfl;refine po (by simp) ?_;conv=>whnf
 refine⟨((3*f.nodes.length:Nat):Int),wo,?_⟩;conv=>whnf
 obtain⟨m,hm⟩:∃m,3*f.nodes.length=m:=⟨_,rfl⟩
 rw[hm]at Rq ⊢;refine⟨m,m,rfl,rfl,Nat.le_refl _,by omega,by omega,?_⟩;conv=>whnf
 refine⟨Nat×World×Iv,fun z=>⟨[(1,sV ax x.length cx),(2,pP 0 0),(5,pP 2 0),(29,sV aq f.cM.length cq),(30,iZ f.cM.length),(31,iN z.1)],[(1,.arr T.int (zv (vD f z.1))),(2,.box T.Lint [.s 1 0 m m]),(0,.box T.Frame [.v (.slice an f.nodes.length cn),.v (.slice ab f.bars.length cb),.v (.slice aq f.cM.length cq)])],3,z.2.2,z.2.1⟩,fun z=>f.cM.length-z.1,
  fun z=>z.1<=f.cM.length/\dT w.heap.size w z.2.1,?_,?_⟩
 ·intro O J r;exact⟨(0,J,_),⟨aS _,Y.tr r.cL⟩,Sub.gn [] r ⟨by dsimp only;rw[IY,hm,zv,List.map_replicate];rfl,rfl,rfl,trivial⟩⟩
 clear Y;rintro⟨k,w1,iv⟩ ⟨R,Y⟩;dsimp only at R Y ⊢;conv=>whnf
 refine dB.mk ?_ ?_<;>intro OT
 ·have OT:k<f.cM.length:=by have:=aK OT;omega
  obtain⟨s,hs⟩:∃s,f.cM[k]? =some s:=⟨_,aB OT⟩
  have TA:=aE hs;obtain⟨OR,PI⟩:=hv.sup s TA;obtain⟨adb,U,QM,hF,-,Pn⟩:=hf.cM.load (by decide) hs;obtain⟨g0,g1,g2,g3,g4,g5,g6,g7,rfl,hF⟩:=hF;have hsok:=OV.sup s TA;have Ot:rl s.2.2<=3:=Pw.fx _ (List.mem_append_right _ (aR.2 ⟨_,TA,rfl⟩));have hrr:3*s.1+s.2.1=((dP s:Nat):Int):=by unfold dP;omega
  have Pj:=ER (f:=f) k;conv=>whnf
  refine⟨adb,QM,by omega,?_⟩;conv=>whnf
  refine⟨[.int .i64 s.1,.int .i64 s.2.1,.bool g0,.slice g1 g2 g3,.bool g4,.slice g5 g6 g7],rfl,rdO Pn Y F,?_⟩;conv=>whnf
  refine cB (cE Y (fun _ J v V=>∃d,v= .bool d/\(d=true↔s.2.2=0)) (fun O J r=>mQ (oS F r) (hF.cC (kS Y r F))) ?_);rintro O _ v2 _ OU r W Y h_ ⟨d,rfl,hd⟩;clear r
  cases d
  ·have OS:s.2.2≠0:=fun e=>by have:=hd.2 e;cases this
   have QU:=I0 hs OS;conv=>whnf
   refine⟨((k+1:Nat):Int),wo,?_⟩;conv=>whnf
   intro IR w6 K;exact⟨(k+1,w6,_),⟨OT,Y.tr K.cL⟩,Sub.gn [] K ⟨by dsimp only;rw[QU];rfl,rfl,rfl,trivial⟩,by dsimp only;omega⟩
  have he0:s.2.2=0:=hd.1 rfl;have QU:=KP hs he0;conv=>whnf
  refine⟨3*s.1,wo,?_⟩;conv=>whnf
  refine⟨((dP s:Nat):Int),by rw[hrr,wrap64]<;>omega,?_⟩;conv=>whnf
  refine⟨by omega,?_⟩;conv=>whnf
  refine⟨by rw[Cr];omega,zv ((vD f k).set (dP s) (-1)),?_,?_⟩
  ·rw[aF,aY,aV];exact GS (by omega)
  conv=>whnf
  refine⟨((k+1:Nat):Int),wo,?_⟩;conv=>whnf
  intro IR w6 K;exact⟨(k+1,w6,_),⟨OT,Y.tr K.cL⟩,Sub.gn [] K ⟨by dsimp only;rw[QU];rfl,rfl,rfl,trivial⟩,by dsimp only;omega⟩
 have OT:k=f.cM.length:=by have:=aH OT;omega
 rw[OT,<-I2];conv=>whnf
 refine⟨Nat×World×Iv,fun z=>⟨[(1,sV ax x.length cx),(2,pP 0 0),(5,pP 2 0),(8,iN (ja f z.1)),(47,.o (.s 1 0 m m)),(48,.o (.v (.int .i64 (m:Int)))),(49,iN z.1)],[(1,.arr T.int (zv (og f z.1))),(2,.box T.Lint [.s 1 0 m m]),(0,.box T.Frame [.v (.slice an f.nodes.length cn),.v (.slice ab f.bars.length cb),.v (.slice aq f.cM.length cq)])],3,z.2.2,z.2.1⟩,fun z=>m-z.1,
  fun z=>z.1<=m/\dT w.heap.size w z.2.1,?_,?_⟩
 ·intro O J r;exact⟨(0,J,_),⟨aS _,Y.tr r.cL⟩,Sub.gn [] r⟩
 clear Y;rintro⟨i,w1,iv⟩ ⟨D,Y⟩;dsimp only at D Y ⊢;conv=>whnf
 refine dB.mk ?_ ?_<;>intro OQ
 ·have OQ:i<m:=by have:=aK OQ;omega
  have Q4:=MJ (f:=f) (i:=i) (by omega);have Pj:=zE (f:=f) i;have Ok:=KR (f:=f) i;have PB:ja f i<=60:=by
   have:ja f i<=(List.range i).length:=List.length_filter_le _ _;rw[List.length_range]at this;omega
  conv=>whnf
  refine⟨by omega,?_⟩;conv=>whnf
  obtain⟨d,hd⟩:∃d,ke f i=d:=⟨_,rfl⟩
  rw[hd]at Q4 Ok
  cases d
  ·have QU:=KU (f:=f) (i:=i) (by omega) hd;have Ok:ja f (i+1)=ja f i+1:=Ok;refine⟨.int .i64 0,by rw[aF,aY,aV];exact Ha Q4,?_⟩;conv=>whnf
   refine⟨by omega,?_⟩;conv=>whnf
   refine⟨by rw[Cr];omega,zv ((og f i).set i (ja f i)),?_,?_⟩
   ·rw[aF,aY,aV];exact GS (by omega)
   conv=>whnf
   refine⟨((ja f i+1:Nat):Int),wo,?_⟩;conv=>whnf
   refine⟨((i+1:Nat):Int),wo,?_⟩;conv=>whnf
   intro IR w6 K;exact⟨(i+1,w6,_),⟨OQ,Y.tr K.cL⟩,Sub.gn [] K ⟨by dsimp only;rw[QU];rfl,rfl,rfl,trivial⟩ ⟨rfl,rfl,rfl,by dsimp only;rw[Ok];rfl,rfl,rfl,rfl,trivial⟩,by dsimp only;omega⟩
  have QU:=I4 hd;have Ok:ja f (i+1)=ja f i:=Ok;refine⟨.int .i64 (-1),by rw[aF,aY,aV];exact Ha Q4,?_⟩;conv=>whnf
  refine⟨((i+1:Nat):Int),wo,?_⟩;conv=>whnf
  intro IR w6 K;exact⟨(i+1,w6,_),⟨OQ,Y.tr K.cL⟩,Sub.gn [] K ⟨by dsimp only;rw[QU];rfl,rfl,rfl,trivial⟩ ⟨rfl,rfl,rfl,by dsimp only;rw[Ok];rfl,rfl,rfl,rfl,trivial⟩,by dsimp only;omega⟩
 have OQ:i=m:=by have:=aH OQ;omega
 have hcn:ja f m=(dy f).length:=by rw[<-hm];rfl
 have hpB:og f m=placeF f:=by rw[<-hm];exact KQ
 have SQ:(placeF f).length=m:=by rw[<-hpB,zE,hm]
 obtain⟨n,Z⟩:∃n,(dy f).length=n:=⟨_,rfl⟩
 rw[Z]at Rq;have SR:=LF Z;rw[OQ,hcn,Z,hpB];conv=>whnf
 refine⟨n,n,rfl,rfl,Nat.le_refl _,by omega,by omega,?_⟩;conv=>whnf
 refine⟨Nat×List Value×World×Iv,fun z=>⟨[(1,sV ax x.length cx),(2,pP 0 0),(5,pP 2 0),(8,.o (.v (.int .i64 (n:Int)))),(11,pP 4 0),(65,.o (.s 3 0 n n)),(66,.o (.v (.int .i64 (n:Int)))),(67,iN z.1)],[(3,.arr T.jC (z.2.1++List.replicate (n-z.1) (Value.slice none 0 0))),(4,.box T.BZ [.s 3 0 n n]),(1,.arr T.int (zv (placeF f))),(2,.box T.Lint [.s 1 0 m m]),(0,.box T.Frame [.v (.slice an f.nodes.length cn),.v (.slice ab f.bars.length cb),.v (.slice aq f.cM.length cq)])],5,z.2.2.2,z.2.2.1⟩,fun z=>n-z.1,
  fun z=>z.1<=n/\dT w.heap.size w z.2.2.1/\z.2.1.length=z.1/\lg z.2.2.1 (Cf w z.2.2.2) z.2.1 n (List.replicate z.1 (List.replicate n (0:Rat)))/\(∀v∈z.2.1,∀g,v.ownBlock=some g->Cf w z.2.2.2 g)/\(∀u∈z.2.1,u.oneCell'=true),?_,?_⟩
 ·intro O J r;exact⟨(0,[],J,_),⟨aS _,Y.tr r.cL,rfl,lg.nil,fun v hv=>(by cases hv),fun v hv=>(by cases hv)⟩,Sub.gn [] r⟩
 clear Y D OQ;rintro⟨i,rv,w1,iv⟩ ⟨D,Y,Pm,hM,OX,PK⟩;dsimp only at D Y Pm hM OX PK ⊢;conv=>whnf
 refine dB.mk ?_ ?_<;>intro OQ
 ·have OQ:i<n:=by have:=aK OQ;omega
  conv=>whnf
  refine cI hτ dN [.x 0,.x 1,.x 2,.x 3,.x 4,.x 5] (by kernel_rfl) (by kernel_rfl) ?_;conv=>whnf
  refine cG (Id:=fun _ J v V=>eE V FF J.heap.size [(J.heap.size,V.heap.size)] v n (List.replicate n 0)) (fun O J r=>zm n J (by omega)) ?_;rintro O PQ v1 PE r W hb Tw;replace Y:=Y.tr hb;obtain⟨hM1,hrv1⟩:=(hM.rel OX r).push r W OX Tw;obtain⟨av,cv,rfl,-⟩:=Tw.row.form;rw[<-List.replicate_succ']at hM1;clear hM OX r W hb Tw;generalize (PQ.heap.size,PE.heap.size)::iv=OZ at*
  conv=>whnf
  refine⟨by omega,?_⟩;conv=>whnf
  refine⟨by rw[List.length_append,bN];omega,(rv++[.slice av n cv])++List.replicate (n-(i+1)) (Value.slice none 0 0),?_,?_⟩
  ·rw[aF,aY,aV];exact Ix Pm OQ
  conv=>whnf
  refine⟨((i+1:Nat):Int),wo,?_⟩;conv=>whnf
  intro IR w6 K;exact⟨(i+1,rv++[.slice av n cv],w6,_),⟨OQ,Y.tr K.cL,by dsimp only;rw[List.length_append,Pm];rfl,hM1.rel hrv1 K,hrv1,fun u hu=>(List.mem_append.1 hu).elim (PK u) fun h=>by simp at h;subst h;rfl⟩,Sub.gn [] K,by dsimp only;omega⟩
 have OQ:i=n:=by have:=aH OQ;omega
 rw[OQ,bB,List.replicate_zero,List.append_nil];rw[OQ]at hM Pm;clear D OQ;conv=>whnf
 have To:lg w1 (Cf w iv) rv n (gI f x 0):=by rw[gI,Z];exact hM
 clear hM
 refine⟨Nat×World×Iv,fun z=>⟨[(1,sV ax x.length cx),(2,pP 0 0),(13,.o (.fn F'.eR [2,4])),(11,pP 4 0),(78,sV ab f.bars.length cb),(79,iZ f.bars.length),(80,iN z.1)],[(3,.arr T.jC rv),(4,.box T.BZ [.s 3 0 n n]),(1,.arr T.int (zv (placeF f))),(2,.box T.Lint [.s 1 0 m m]),(0,.box T.Frame [.v (.slice an f.nodes.length cn),.v (.slice ab f.bars.length cb),.v (.slice aq f.cM.length cq)])],5,z.2.2,z.2.1⟩,fun z=>f.bars.length-z.1,
  fun z=>z.1<=f.bars.length/\dT w.heap.size w z.2.1/\lg z.2.1 (Cf w z.2.2) rv n (gI f x z.1)/\∀v∈rv,∀g,v.ownBlock=some g->Cf w z.2.2 g,?_,?_⟩
 ·intro O J r;exact⟨(0,J,_),⟨aS _,Y.tr r.cL,To.rel OX r,OX⟩,Sub.gn [] r⟩
 clear Y To OX;rintro⟨j,V,iv⟩ ⟨hj,Y,hM,OX⟩;dsimp only at hj Y hM OX ⊢;conv=>whnf
 refine dB.mk ?_ ?_<;>intro Pv
 ·have Pv:j<f.bars.length:=by have:=aK Pv;omega
  obtain⟨b,hb⟩:∃b,f.bars[j]? =some b:=⟨_,aB Pv⟩
  have hbm:=aE hb;obtain⟨hA,hB⟩:=OV.JH b hbm;obtain⟨ka,pa,ea,Uo,-,hna,⟨_,_⟩,⟨_,_⟩,⟨_,_⟩⟩:=OV.node hA.1 hA.2;obtain⟨kb,pb,eb,OT,-,hnb,⟨_,_⟩,⟨_,_⟩,⟨_,_⟩⟩:=OV.node hB.1 hB.2;have hka2:ka<f.nodes.length:=by omega
  have hkb2:kb<f.nodes.length:=by omega
  obtain⟨_,_,_,_,_,_,_,Wo⟩:=hv.JH b hbm;have hbne:b.2.2≠0:=fun e=>by rw[e]at Wo;exact absurd Wo (by decide)
  have hbr:rl b.2.2<=3:=Pw.fx _ (List.mem_append_left _ (aR.2 ⟨_,hbm,rfl⟩));have hbht:=CQ Pw Rh j (by omega);obtain⟨xj,hxj⟩:∃q,x[j]? =some q:=⟨_,aB (by omega)⟩
  have hxjr:=Rh xj (aE hxj);obtain⟨adb,U,QM,hF,-,Pn⟩:=hf.bars.load (by decide) hb;obtain⟨g0,g1,g2,g3,g4,g5,g6,g7,rfl,hF⟩:=hF;conv=>whnf
  refine⟨adb,QM,by omega,?_⟩;conv=>whnf
  refine⟨[.int .i64 b.1,.int .i64 b.2.1,.bool g0,.slice g1 g2 g3,.bool g4,.slice g5 g6 g7],rfl,rdO Pn Y F,?_⟩;conv=>whnf
  refine cB (cG (Id:=fun _ J v V=>v= .agg #[.int .i64 (pb.1-pa.1),.int .i64 (pb.2.1-pa.2.1),.int .i64 (pb.2.2-pa.2.2)]) (fun O J r=>(rZ (S:=S) (b3:=g0) (b6:=g4) (a4:=g1) (a7:=g5) (n4:=g2) (c4:=g3) (n7:=g6) (c7:=g7) (oS F r) (hf.cC (kS Y r F)).nodes OV hA hB).mono fun _ _ ⟨v2,e1,e2,e3⟩=>⟨v2,e1,e2,by rw[e3,hna,hnb]⟩) ?_);rintro O PY v3 PX r W Oa rfl;replace Y:=Y.tr Oa;replace hM:=hM.cD (E:=(PY.heap.size,PX.heap.size)::iv) OX r W fun x L=>aC _ L;replace OX:∀v∈rv,∀g,v.ownBlock=some g->Cf w ((PY.heap.size,PX.heap.size)::iv) g:=fun v hv g e=>(OX v hv g e).mono fun p hp=>aC _ hp;clear r W Oa;generalize (PY.heap.size,PX.heap.size)::iv=Oi at*
  conv=>whnf
  have hbD:jR f b=[pb.1-pa.1,pb.2.1-pa.2.1,pb.2.2-pa.2.2]:=by rw[jR,hna,hnb]
  obtain⟨ds,WS⟩:∃ds:List Value,ds=[.int .i64 (pb.1-pa.1),.int .i64 (pb.2.1-pa.2.1),.int .i64 (pb.2.2-pa.2.2)]:=⟨_,rfl⟩
  have hdat:∀k,k<3->ds[k]? =some (.int .i64 ((jR f b).getD k 0)):=fun k R=>by
   rw[WS,hbD];rcases(show k=0\/k=1\/k=2 by omega)with rfl|rfl|rfl<;>rfl
  have hdl3:ds.length=3:=by rw[WS];rfl
  refine⟨Nat×World×Iv,fun z=>⟨[(1,sV ax x.length cx),(2,pP 0 0),(13,.o (.fn F'.eR [2,4])),(11,pP 4 0),(78,sV ab f.bars.length cb),(79,iZ f.bars.length),(80,iN j),(14,iN j),(15,pP 5 0),(16,pP 6 0),(88,iN z.1)],[(5,.box T.Nx [.v (.int .i64 b.1),.v (.int .i64 b.2.1),.v (.bool g0),.v (.slice g1 g2 g3),.v (.bool g4),.v (.slice g5 g6 g7)]),(6,.arr T.KW ds),(3,.arr T.jC rv),(4,.box T.BZ [.s 3 0 n n]),(1,.arr T.int (zv (placeF f))),(2,.box T.Lint [.s 1 0 m m]),(0,.box T.Frame [.v (.slice an f.nodes.length cn),.v (.slice ab f.bars.length cb),.v (.slice aq f.cM.length cq)])],7,z.2.2,z.2.1⟩,fun z=>3-z.1,
   fun z=>z.1<=3/\dT w.heap.size w z.2.1/\lg z.2.1 (Cf w z.2.2) rv n (kH f x j (gI f x j) z.1)/\∀v∈rv,∀g,v.ownBlock=some g->Cf w z.2.2 g,?_,?_⟩
  ·intro O J r;exact⟨(0,J,_),⟨aS _,Y.tr r.cL,hM.rel OX r,OX⟩,Sub.aAZ 6 (vs:=ds) (by rw[WS];rfl) r fun r4=>Sub.gn [] r4⟩
  clear Y hM OX;rintro⟨p,w3,iv⟩ ⟨hp,Y,hM,OX⟩;dsimp only at hp Y hM OX ⊢;conv=>whnf
  refine dB.mk ?_ ?_<;>intro Sw
  ·have hp3:p<3:=by have:=aK Sw;omega
   have hrht:=GC (r:=p) (i:=j) hbht (by omega) (fun r c=>HW Pw Rh Pv r c);conv=>whnf
   refine⟨Nat×World×Iv,fun z=>⟨[(1,sV ax x.length cx),(2,pP 0 0),(13,.o (.fn F'.eR [2,4])),(11,pP 4 0),(78,sV ab f.bars.length cb),(79,iZ f.bars.length),(80,iN j),(14,iN j),(15,pP 5 0),(16,pP 6 0),(88,iN p),(17,iN p),(91,iN z.1)],[(5,.box T.Nx [.v (.int .i64 b.1),.v (.int .i64 b.2.1),.v (.bool g0),.v (.slice g1 g2 g3),.v (.bool g4),.v (.slice g5 g6 g7)]),(6,.arr T.KW ds),(3,.arr T.jC rv),(4,.box T.BZ [.s 3 0 n n]),(1,.arr T.int (zv (placeF f))),(2,.box T.Lint [.s 1 0 m m]),(0,.box T.Frame [.v (.slice an f.nodes.length cn),.v (.slice ab f.bars.length cb),.v (.slice aq f.cM.length cq)])],7,z.2.2,z.2.1⟩,fun z=>3-z.1,
    fun z=>z.1<=3/\dT w.heap.size w z.2.1/\lg z.2.1 (Cf w z.2.2) rv n (gu f x j p (kH f x j (gI f x j) p) z.1)/\∀v∈rv,∀g,v.ownBlock=some g->Cf w z.2.2 g,?_,?_⟩
   ·intro O J r;exact⟨(0,J,_),⟨aS _,Y.tr r.cL,hM.rel OX r,OX⟩,Sub.gn [] r⟩
   clear Y hM OX;rintro⟨c,w4,iv⟩ ⟨hc,Y,hM,OX⟩;dsimp only at hc Y hM OX ⊢;conv=>whnf
   refine dB.mk ?_ ?_<;>intro PB
   ·have hc3:c<3:=by have:=aK PB;omega
    have hcht:=CP (c:=c) (i:=j) (r:=p) hrht (by omega) (fun c=>HW Pw Rh Pv p c);have hkr:=HW Pw Rh Pv p c;obtain⟨d,hd⟩:∃d,(jR f b).getD p 0=d:=⟨_,rfl⟩
    obtain⟨e,he0⟩:∃d,(jR f b).getD c 0=d:=⟨_,rfl⟩
    have hdp:=hdat p hp3;have Tt:=hdat c hc3;have hdb:=hv.OH hbm p;have heb:=hv.OH hbm c;rw[hd]at hdp hdb;rw[he0]at Tt heb;have hde:(d*e).natAbs<=4000000000000:=by
     have a1:d.natAbs<=2000000:=by omega
     have a2:e.natAbs<=2000000:=by omega
     rw[Int.natAbs_mul];have:=Nat.mul_le_mul a1 a2;omega
    obtain⟨de,hde0⟩:∃z,d*e=z:=⟨_,rfl⟩
    rw[hde0]at hde;have hder:rl ((de:Int):Rat)<=2:=HX (by omega);have hkq:kB f x j p c=if p=c then(de:Rat) / b.2.2+xj else(de:Rat) / b.2.2:=by
     unfold kB;rw[jx hb,hd,he0,hde0,show x.getD j 0=xj from getD_some hxj]
    conv=>whnf
    refine cI hτ dN [.x 0,.x 1,.x 2,.x 3,.x 4,.x 5,.x 6,.x 8,.x 9,.p 11,.x 7,.x 10,.x 11,.x 12] (by kernel_rfl) (by kernel_rfl) ?_;conv=>whnf
    refine⟨by omega,?_⟩;conv=>whnf
    refine⟨.int .i64 d,by rw[aF,aY,aV];exact hdp,?_⟩;conv=>whnf
    refine⟨by omega,?_⟩;conv=>whnf
    refine⟨.int .i64 e,by rw[aF,aY,aV];exact Tt,?_⟩;conv=>whnf
    rw[hde0];refine⟨de,wo,?_⟩;conv=>whnf
    refine cG (Id:=fun _ J v V=>cN V (Nf J V) v (de:Rat)) (fun O J r=>kK de J (by omega) (by omega)) ?_;rintro O Qw v4 Q9 r W Oa Z;replace Y:=Y.tr Oa;replace hM:=hM.cD (E:=(Qw.heap.size,Q9.heap.size)::iv) OX r W fun x L=>aC _ L;replace OX:∀v∈rv,∀g,v.ownBlock=some g->Cf w ((Qw.heap.size,Q9.heap.size)::iv) g:=fun v hv g e=>(OX v hv g e).mono fun p hp=>aC _ hp;have hwd:=Z.dD (S:=FF) r.bz (iv:=(Qw.heap.size,Q9.heap.size)::iv) aG;clear r W Oa Z;generalize (Qw.heap.size,Q9.heap.size)::iv=Ow at*
    obtain⟨A0,A1,A2,A3,A4,A5,A6,A7,rfl⟩:=hwd.shape;have hqr:=pN (de:Rat) hbne;conv=>whnf
    refine cG (Id:=fun _ J v V=>cN V (Nf J V) v ((de:Rat) / b.2.2)) (fun O J r=>GL (S:=fun g=>S g\/Cf w Ow g) (fun g G=>G.elim (oS F r g) (Rel.old r (bw w) g)) (eJ.cF ((hwd.rel r (bw w)).l (by omega)) fun g G=>.inr G) (eJ.cF (hF.cC (kS Y r F)) fun g G=>.inl G) hbne) ?_;rintro O SZ v5 Sm r W Oa Z;replace Y:=Y.tr Oa;have hq:=Lq.fresh Z r OX;replace hM:=hM.cD (E:=(SZ.heap.size,Sm.heap.size)::Ow) OX r W fun x L=>aC _ L;replace OX:∀v∈rv,∀g,v.ownBlock=some g->Cf w ((SZ.heap.size,Sm.heap.size)::Ow) g:=fun v hv g e=>(OX v hv g e).mono fun p hp=>aC _ hp;clear r W Oa Z hwd;generalize (SZ.heap.size,Sm.heap.size)::Ow=QO at*
    obtain⟨C0,C1,C2,C3,C4,C5,C6,C7,rfl⟩:=hq.shape;conv=>whnf
    obtain⟨adx,csx,Pu,Qg,-,Pt⟩:=eD.load L hxj;obtain⟨x0,x1,x2,x3,x4,x5,x6,x7,rfl,Qg⟩:=Qg;refine dB.mk ?_ ?_<;>intro Qe
    ·have Qe:p=c:=by have:=eq_of_beq Qe;omega
     rw[if_pos Qe]at hkq;conv=>whnf
     refine cI hτ dN [.x 0,.x 1,.x 2,.x 3,.x 4,.x 5,.x 6] (by kernel_rfl) (by kernel_rfl) ?_;conv=>whnf
     refine⟨adx,Pu,by omega,?_⟩;conv=>whnf
     refine⟨[.bool x0,.slice x1 x2 x3,.bool x4,.slice x5 x6 x7],rfl,rdO Pt Y F,?_⟩;conv=>whnf
     refine cG (Id:=fun _ J v V=>cN V (Nf J V) v (kB f x j p c)) (fun O J r=>(Cn (S:=fun g=>S g\/Cf w QO g) (fun g G=>G.elim (oS F r g) (Rel.old r (bw w) g)) (eJ.cF (cN.l (cN.cC (cN.cF hq fun g G=>G.1) fun g G=>Rel.same r (bw w) G) (by omega)) fun g G=>.inr G).v (eJ.cF (Qg.cC (kS Y r F)) fun g G=>.inl G).v).mono fun _ _ ⟨v2,e1,e2,e3⟩=>⟨v2,e1,e2,by rw[hkq];exact e3⟩) ?_;rintro O R7 v6 Rj r W Oa Z;replace Y:=Y.tr Oa;have RN:=Lq.fresh Z r OX;replace hM:=hM.cD (E:=(R7.heap.size,Rj.heap.size)::QO) OX r W fun x L=>aC _ L;replace OX:∀v∈rv,∀g,v.ownBlock=some g->Cf w ((R7.heap.size,Rj.heap.size)::QO) g:=fun v hv g e=>(OX v hv g e).mono fun p hp=>aC _ hp;clear r W Oa Z hq;generalize (R7.heap.size,Rj.heap.size)::QO=R8 at*
     obtain⟨E0,E1,E2,E3,E4,E5,E6,E7,rfl⟩:=RN.shape;conv=>whnf
     have t0:Ht (gu f x j p (kH f x j (gI f x j) p) c) 4000:=hcht.mono (by omega);have t1:=jb (pl:=placeF f) (i:=3*ka+p) (k:=3*ka+c) t0 (by omega) hkr;have t2:=jb (pl:=placeF f) (i:=3*kb+p) (k:=3*kb+c) t1 (by omega) hkr;have Ua:rl (-(kB f x j p c))<=9:=by rw[j9];exact hkr
     have t3:=jb (pl:=placeF f) (i:=3*ka+p) (k:=3*kb+c) t2 (by omega) Ua;have hcq:gu f x j p (kH f x j (gI f x j) p) (c+1)=fA (placeF f) (fA (placeF f) (fA (placeF f) (fA (placeF f) (gu f x j p (kH f x j (gI f x j) p) c) (3*ka+p) (3*ka+c) (kB f x j p c)) (3*kb+p) (3*kb+c) (kB f x j p c)) (3*ka+p) (3*kb+c) (-(kB f x j p c))) (3*kb+p) (3*ka+c) (-(kB f x j p c)):=by rw[gu,jx hb,toNat_add ea,toNat_add ea,toNat_add eb,toNat_add eb]
     refine⟨3*b.1,wo,?_⟩;conv=>whnf
     refine⟨((3*ka+p:Nat):Int),by rw[show 3*b.1+(p:Int)=((3*ka+p:Nat):Int) by omega,wrap64]<;>omega,?_⟩;conv=>whnf
     refine⟨3*b.1,wo,?_⟩;conv=>whnf
     refine⟨((3*ka+c:Nat):Int),by rw[show 3*b.1+(c:Int)=((3*ka+c:Nat):Int) by omega,wrap64]<;>omega,?_⟩;conv=>whnf
     refine iF (Id:=fun _ J v V=>lg V (Cf w ((J.heap.size,V.heap.size)::R8)) rv n (fA (placeF f) (gu f x j p (kH f x j (gI f x j) p) c) (3*ka+p) (3*ka+c) (kB f x j p c))) (C9:=fun g=>∃v∈rv,v.ownBlock=some g) (fun g ⟨v,hv,e⟩=>OX v hv g e) (fun O J r=>jd r rfl rfl rfl rfl hM OX PK SQ Pm (by omega) (by omega) (by omega) (by omega) SR t0 (by omega) (cN.cF RN fun g G=>G.1) (by omega)) ?_;rintro O Ty v7 Tz row r Oc L Oa Py;replace Y:=Y.tr Oa;replace RN:=cN.cF (cN.cC RN fun g G=>Lq.kept r Oc L G) fun g G=>Lq.mono (E:=(Ty.heap.size,Tz.heap.size)::R8) G fun p hp=>aC _ hp;replace OX:∀v∈rv,∀g,v.ownBlock=some g->Cf w ((Ty.heap.size,Tz.heap.size)::R8) g:=fun v hv g e=>(OX v hv g e).mono fun p hp=>aC _ hp;clear hM r Oc L Oa;have hM:=Py;clear Py;generalize (Ty.heap.size,Tz.heap.size)::R8=Ra at*
     conv=>whnf
     refine⟨3*b.2.1,wo,?_⟩;conv=>whnf
     refine⟨((3*kb+p:Nat):Int),by rw[show 3*b.2.1+(p:Int)=((3*kb+p:Nat):Int) by omega,wrap64]<;>omega,?_⟩;conv=>whnf
     refine⟨3*b.2.1,wo,?_⟩;conv=>whnf
     refine⟨((3*kb+c:Nat):Int),by rw[show 3*b.2.1+(c:Int)=((3*kb+c:Nat):Int) by omega,wrap64]<;>omega,?_⟩;conv=>whnf
     refine iF (Id:=fun _ J v V=>lg V (Cf w ((J.heap.size,V.heap.size)::Ra)) rv n (fA (placeF f) (fA (placeF f) (gu f x j p (kH f x j (gI f x j) p) c) (3*ka+p) (3*ka+c) (kB f x j p c)) (3*kb+p) (3*kb+c) (kB f x j p c))) (C9:=fun g=>∃v∈rv,v.ownBlock=some g) (fun g ⟨v,hv,e⟩=>OX v hv g e) (fun O J r=>jd r rfl rfl rfl rfl hM OX PK SQ Pm (by omega) (by omega) (by omega) (by omega) SR t1 (by omega) (cN.cF RN fun g G=>G.1) (by omega)) ?_;rintro O SE v8 SP row r Oc L Oa Py;replace Y:=Y.tr Oa;replace RN:=cN.cF (cN.cC RN fun g G=>Lq.kept r Oc L G) fun g G=>Lq.mono (E:=(SE.heap.size,SP.heap.size)::Ra) G fun p hp=>aC _ hp;replace OX:∀v∈rv,∀g,v.ownBlock=some g->Cf w ((SE.heap.size,SP.heap.size)::Ra) g:=fun v hv g e=>(OX v hv g e).mono fun p hp=>aC _ hp;clear hM r Oc L Oa;have hM:=Py;clear Py;generalize (SE.heap.size,SP.heap.size)::Ra=SF at*
     conv=>whnf
     refine cI hτ dN [.x 0,.x 1,.x 2,.x 3,.x 4,.x 5,.x 6,.x 7,.x 8,.x 9,.x 10,.x 11,.x 12,.x 13] (by kernel_rfl) (by kernel_rfl) ?_;conv=>whnf
     refine⟨3*b.1,wo,?_⟩;conv=>whnf
     refine⟨((3*ka+p:Nat):Int),by rw[show 3*b.1+(p:Int)=((3*ka+p:Nat):Int) by omega,wrap64]<;>omega,?_⟩;conv=>whnf
     refine⟨3*b.2.1,wo,?_⟩;conv=>whnf
     refine⟨((3*kb+c:Nat):Int),by rw[show 3*b.2.1+(c:Int)=((3*kb+c:Nat):Int) by omega,wrap64]<;>omega,?_⟩;conv=>whnf
     refine cG (Id:=fun _ J v V=>cN V (Nf J V) v (-(kB f x j p c))) (fun O J r=>vU (S:=Cf w SF) (Rel.old r (bw w)) (cN.l (cN.cC (cN.cF RN fun g G=>G.1) fun g G=>Rel.same r (bw w) G) (by omega))) ?_;rintro O R9 v9 Rk r W Oa Z;replace Y:=Y.tr Oa;have VH:=Lq.fresh Z r OX;replace RN:=cN.cF (cN.cC (cN.cC RN fun g G=>Rel.same r (eI _) G.1) fun g G=>W.block g (Rel.old r (eI _) g G.1)) fun g G=>Lq.mono (E:=(R9.heap.size,Rk.heap.size)::SF) G fun p hp=>aC _ hp;replace hM:=hM.cD (E:=(R9.heap.size,Rk.heap.size)::SF) OX r W fun x L=>aC _ L;replace OX:∀v∈rv,∀g,v.ownBlock=some g->Cf w ((R9.heap.size,Rk.heap.size)::SF) g:=fun v hv g e=>(OX v hv g e).mono fun p hp=>aC _ hp;clear r W Oa Z;generalize (R9.heap.size,Rk.heap.size)::SF=RW at*
     obtain⟨F0,F1,F2,F3,F4,F5,F6,F7,rfl⟩:=VH.shape;conv=>whnf
     refine iF (Id:=fun _ J v V=>lg V (Cf w ((J.heap.size,V.heap.size)::RW)) rv n (fA (placeF f) (fA (placeF f) (fA (placeF f) (gu f x j p (kH f x j (gI f x j) p) c) (3*ka+p) (3*ka+c) (kB f x j p c)) (3*kb+p) (3*kb+c) (kB f x j p c)) (3*ka+p) (3*kb+c) (-(kB f x j p c)))) (C9:=fun g=>∃v∈rv,v.ownBlock=some g) (fun g ⟨v,hv,e⟩=>OX v hv g e) (fun O J r=>jd r rfl rfl rfl rfl hM OX PK SQ Pm (by omega) (by omega) (by omega) (by omega) SR t2 (by omega) (cN.cF VH fun g G=>G.1) (by omega)) ?_;rintro O Rb v10 Rc row r Oc L Oa Py;replace Y:=Y.tr Oa;replace RN:=cN.cF (cN.cC RN fun g G=>Lq.kept r Oc L G) fun g G=>Lq.mono (E:=(Rb.heap.size,Rc.heap.size)::RW) G fun p hp=>aC _ hp;replace OX:∀v∈rv,∀g,v.ownBlock=some g->Cf w ((Rb.heap.size,Rc.heap.size)::RW) g:=fun v hv g e=>(OX v hv g e).mono fun p hp=>aC _ hp;clear hM r Oc L Oa;have hM:=Py;clear Py;generalize (Rb.heap.size,Rc.heap.size)::RW=Qj at*
     conv=>whnf
     refine cI hτ dN [.x 0,.x 1,.x 2,.x 3,.x 4,.x 5,.x 6,.x 7,.x 8,.x 9,.x 10,.x 11,.x 12,.x 13] (by kernel_rfl) (by kernel_rfl) ?_;conv=>whnf
     refine⟨3*b.2.1,wo,?_⟩;conv=>whnf
     refine⟨((3*kb+p:Nat):Int),by rw[show 3*b.2.1+(p:Int)=((3*kb+p:Nat):Int) by omega,wrap64]<;>omega,?_⟩;conv=>whnf
     refine⟨3*b.1,wo,?_⟩;conv=>whnf
     refine⟨((3*ka+c:Nat):Int),by rw[show 3*b.1+(c:Int)=((3*ka+c:Nat):Int) by omega,wrap64]<;>omega,?_⟩;conv=>whnf
     refine cG (Id:=fun _ J v V=>cN V (Nf J V) v (-(kB f x j p c))) (fun O J r=>vU (S:=Cf w Qj) (Rel.old r (bw w)) (cN.l (cN.cC (cN.cF RN fun g G=>G.1) fun g G=>Rel.same r (bw w) G) (by omega))) ?_;rintro O QJ v11 QQ r W Oa Z;replace Y:=Y.tr Oa;have VI:=Lq.fresh Z r OX;replace RN:=cN.cF (cN.cC (cN.cC RN fun g G=>Rel.same r (eI _) G.1) fun g G=>W.block g (Rel.old r (eI _) g G.1)) fun g G=>Lq.mono (E:=(QJ.heap.size,QQ.heap.size)::Qj) G fun p hp=>aC _ hp;replace hM:=hM.cD (E:=(QJ.heap.size,QQ.heap.size)::Qj) OX r W fun x L=>aC _ L;replace OX:∀v∈rv,∀g,v.ownBlock=some g->Cf w ((QJ.heap.size,QQ.heap.size)::Qj) g:=fun v hv g e=>(OX v hv g e).mono fun p hp=>aC _ hp;clear r W Oa Z;generalize (QJ.heap.size,QQ.heap.size)::Qj=PD at*
     obtain⟨G0,G1,G2,G3,G4,G5,G6,G7,rfl⟩:=VI.shape;conv=>whnf
     refine iF (Id:=fun _ J v V=>lg V (Cf w ((J.heap.size,V.heap.size)::PD)) rv n (fA (placeF f) (fA (placeF f) (fA (placeF f) (fA (placeF f) (gu f x j p (kH f x j (gI f x j) p) c) (3*ka+p) (3*ka+c) (kB f x j p c)) (3*kb+p) (3*kb+c) (kB f x j p c)) (3*ka+p) (3*kb+c) (-(kB f x j p c))) (3*kb+p) (3*ka+c) (-(kB f x j p c)))) (C9:=fun g=>∃v∈rv,v.ownBlock=some g) (fun g ⟨v,hv,e⟩=>OX v hv g e) (fun O J r=>jd r rfl rfl rfl rfl hM OX PK SQ Pm (by omega) (by omega) (by omega) (by omega) SR t3 (by omega) (cN.cF VI fun g G=>G.1) (by omega)) ?_;rintro O Qh v12 Qv row r Oc L Oa Py;replace Y:=Y.tr Oa;replace OX:∀v∈rv,∀g,v.ownBlock=some g->Cf w ((Qh.heap.size,Qv.heap.size)::PD) g:=fun v hv g e=>(OX v hv g e).mono fun p hp=>aC _ hp;clear hM r Oc L Oa;have hM:=Py;clear Py;generalize (Qh.heap.size,Qv.heap.size)::PD=Vv at*
     conv=>whnf
     rw[<-hcq]at hM;refine⟨((c+1:Nat):Int),wo,?_⟩;conv=>whnf
     intro IR w6 K;exact⟨(c+1,w6,_),⟨hc3,Y.tr K.cL,hM.rel OX K,OX⟩,Sub.gn [] K,by dsimp only;omega⟩
    have Qe:p≠c:=fun e=>by rw[e]at Qe;simp at Qe
    rw[aI Qe]at hkq;rw[<-hkq]at hq;conv=>whnf
    have t0:Ht (gu f x j p (kH f x j (gI f x j) p) c) 4000:=hcht.mono (by omega);have t1:=jb (pl:=placeF f) (i:=3*ka+p) (k:=3*ka+c) t0 (by omega) hkr;have t2:=jb (pl:=placeF f) (i:=3*kb+p) (k:=3*kb+c) t1 (by omega) hkr;have Ua:rl (-(kB f x j p c))<=9:=by rw[j9];exact hkr
    have t3:=jb (pl:=placeF f) (i:=3*ka+p) (k:=3*kb+c) t2 (by omega) Ua;have hcq:gu f x j p (kH f x j (gI f x j) p) (c+1)=fA (placeF f) (fA (placeF f) (fA (placeF f) (fA (placeF f) (gu f x j p (kH f x j (gI f x j) p) c) (3*ka+p) (3*ka+c) (kB f x j p c)) (3*kb+p) (3*kb+c) (kB f x j p c)) (3*ka+p) (3*kb+c) (-(kB f x j p c))) (3*kb+p) (3*ka+c) (-(kB f x j p c)):=by rw[gu,jx hb,toNat_add ea,toNat_add ea,toNat_add eb,toNat_add eb]
    refine⟨3*b.1,wo,?_⟩;conv=>whnf
    refine⟨((3*ka+p:Nat):Int),by rw[show 3*b.1+(p:Int)=((3*ka+p:Nat):Int) by omega,wrap64]<;>omega,?_⟩;conv=>whnf
    refine⟨3*b.1,wo,?_⟩;conv=>whnf
    refine⟨((3*ka+c:Nat):Int),by rw[show 3*b.1+(c:Int)=((3*ka+c:Nat):Int) by omega,wrap64]<;>omega,?_⟩;conv=>whnf
    refine iF (Id:=fun _ J v V=>lg V (Cf w ((J.heap.size,V.heap.size)::QO)) rv n (fA (placeF f) (gu f x j p (kH f x j (gI f x j) p) c) (3*ka+p) (3*ka+c) (kB f x j p c))) (C9:=fun g=>∃v∈rv,v.ownBlock=some g) (fun g ⟨v,hv,e⟩=>OX v hv g e) (fun O J r=>jd r rfl rfl rfl rfl hM OX PK SQ Pm (by omega) (by omega) (by omega) (by omega) SR t0 (by omega) (cN.cF hq fun g G=>G.1) (by omega)) ?_;rintro O R7 v6 Rj row r Oc L Oa Py;replace Y:=Y.tr Oa;replace hq:=cN.cF (cN.cC hq fun g G=>Lq.kept r Oc L G) fun g G=>Lq.mono (E:=(R7.heap.size,Rj.heap.size)::QO) G fun p hp=>aC _ hp;replace OX:∀v∈rv,∀g,v.ownBlock=some g->Cf w ((R7.heap.size,Rj.heap.size)::QO) g:=fun v hv g e=>(OX v hv g e).mono fun p hp=>aC _ hp;clear hM r Oc L Oa;have hM:=Py;clear Py;generalize (R7.heap.size,Rj.heap.size)::QO=R8 at*
    conv=>whnf
    refine⟨3*b.2.1,wo,?_⟩;conv=>whnf
    refine⟨((3*kb+p:Nat):Int),by rw[show 3*b.2.1+(p:Int)=((3*kb+p:Nat):Int) by omega,wrap64]<;>omega,?_⟩;conv=>whnf
    refine⟨3*b.2.1,wo,?_⟩;conv=>whnf
    refine⟨((3*kb+c:Nat):Int),by rw[show 3*b.2.1+(c:Int)=((3*kb+c:Nat):Int) by omega,wrap64]<;>omega,?_⟩;conv=>whnf
    refine iF (Id:=fun _ J v V=>lg V (Cf w ((J.heap.size,V.heap.size)::R8)) rv n (fA (placeF f) (fA (placeF f) (gu f x j p (kH f x j (gI f x j) p) c) (3*ka+p) (3*ka+c) (kB f x j p c)) (3*kb+p) (3*kb+c) (kB f x j p c))) (C9:=fun g=>∃v∈rv,v.ownBlock=some g) (fun g ⟨v,hv,e⟩=>OX v hv g e) (fun O J r=>jd r rfl rfl rfl rfl hM OX PK SQ Pm (by omega) (by omega) (by omega) (by omega) SR t1 (by omega) (cN.cF hq fun g G=>G.1) (by omega)) ?_;rintro O Ty v7 Tz row r Oc L Oa Py;replace Y:=Y.tr Oa;replace hq:=cN.cF (cN.cC hq fun g G=>Lq.kept r Oc L G) fun g G=>Lq.mono (E:=(Ty.heap.size,Tz.heap.size)::R8) G fun p hp=>aC _ hp;replace OX:∀v∈rv,∀g,v.ownBlock=some g->Cf w ((Ty.heap.size,Tz.heap.size)::R8) g:=fun v hv g e=>(OX v hv g e).mono fun p hp=>aC _ hp;clear hM r Oc L Oa;have hM:=Py;clear Py;generalize (Ty.heap.size,Tz.heap.size)::R8=Ra at*
    conv=>whnf
    refine cI hτ dN [.x 0,.x 1,.x 2,.x 3,.x 4,.x 5,.x 6,.x 7,.x 8,.x 9,.x 10,.x 11,.x 12,.x 13] (by kernel_rfl) (by kernel_rfl) ?_;conv=>whnf
    refine⟨3*b.1,wo,?_⟩;conv=>whnf
    refine⟨((3*ka+p:Nat):Int),by rw[show 3*b.1+(p:Int)=((3*ka+p:Nat):Int) by omega,wrap64]<;>omega,?_⟩;conv=>whnf
    refine⟨3*b.2.1,wo,?_⟩;conv=>whnf
    refine⟨((3*kb+c:Nat):Int),by rw[show 3*b.2.1+(c:Int)=((3*kb+c:Nat):Int) by omega,wrap64]<;>omega,?_⟩;conv=>whnf
    refine cG (Id:=fun _ J v V=>cN V (Nf J V) v (-(kB f x j p c))) (fun O J r=>vU (S:=Cf w Ra) (Rel.old r (bw w)) (cN.l (cN.cC (cN.cF hq fun g G=>G.1) fun g G=>Rel.same r (bw w) G) (by omega))) ?_;rintro O SE v8 SP r W Oa Z;replace Y:=Y.tr Oa;have VH:=Lq.fresh Z r OX;replace hq:=cN.cF (cN.cC (cN.cC hq fun g G=>Rel.same r (eI _) G.1) fun g G=>W.block g (Rel.old r (eI _) g G.1)) fun g G=>Lq.mono (E:=(SE.heap.size,SP.heap.size)::Ra) G fun p hp=>aC _ hp;replace hM:=hM.cD (E:=(SE.heap.size,SP.heap.size)::Ra) OX r W fun x L=>aC _ L;replace OX:∀v∈rv,∀g,v.ownBlock=some g->Cf w ((SE.heap.size,SP.heap.size)::Ra) g:=fun v hv g e=>(OX v hv g e).mono fun p hp=>aC _ hp;clear r W Oa Z;generalize (SE.heap.size,SP.heap.size)::Ra=SF at*
    obtain⟨J0,J1,J2,J3,J4,J5,J6,J7,rfl⟩:=VH.shape;conv=>whnf
    refine iF (Id:=fun _ J v V=>lg V (Cf w ((J.heap.size,V.heap.size)::SF)) rv n (fA (placeF f) (fA (placeF f) (fA (placeF f) (gu f x j p (kH f x j (gI f x j) p) c) (3*ka+p) (3*ka+c) (kB f x j p c)) (3*kb+p) (3*kb+c) (kB f x j p c)) (3*ka+p) (3*kb+c) (-(kB f x j p c)))) (C9:=fun g=>∃v∈rv,v.ownBlock=some g) (fun g ⟨v,hv,e⟩=>OX v hv g e) (fun O J r=>jd r rfl rfl rfl rfl hM OX PK SQ Pm (by omega) (by omega) (by omega) (by omega) SR t2 (by omega) (cN.cF VH fun g G=>G.1) (by omega)) ?_;rintro O R9 v9 Rk row r Oc L Oa Py;replace Y:=Y.tr Oa;replace hq:=cN.cF (cN.cC hq fun g G=>Lq.kept r Oc L G) fun g G=>Lq.mono (E:=(R9.heap.size,Rk.heap.size)::SF) G fun p hp=>aC _ hp;replace OX:∀v∈rv,∀g,v.ownBlock=some g->Cf w ((R9.heap.size,Rk.heap.size)::SF) g:=fun v hv g e=>(OX v hv g e).mono fun p hp=>aC _ hp;clear hM r Oc L Oa;have hM:=Py;clear Py;generalize (R9.heap.size,Rk.heap.size)::SF=RW at*
    conv=>whnf
    refine cI hτ dN [.x 0,.x 1,.x 2,.x 3,.x 4,.x 5,.x 6,.x 7,.x 8,.x 9,.x 10,.x 11,.x 12,.x 13] (by kernel_rfl) (by kernel_rfl) ?_;conv=>whnf
    refine⟨3*b.2.1,wo,?_⟩;conv=>whnf
    refine⟨((3*kb+p:Nat):Int),by rw[show 3*b.2.1+(p:Int)=((3*kb+p:Nat):Int) by omega,wrap64]<;>omega,?_⟩;conv=>whnf
    refine⟨3*b.1,wo,?_⟩;conv=>whnf
    refine⟨((3*ka+c:Nat):Int),by rw[show 3*b.1+(c:Int)=((3*ka+c:Nat):Int) by omega,wrap64]<;>omega,?_⟩;conv=>whnf
    refine cG (Id:=fun _ J v V=>cN V (Nf J V) v (-(kB f x j p c))) (fun O J r=>vU (S:=Cf w RW) (Rel.old r (bw w)) (cN.l (cN.cC (cN.cF hq fun g G=>G.1) fun g G=>Rel.same r (bw w) G) (by omega))) ?_;rintro O Rb v10 Rc r W Oa Z;replace Y:=Y.tr Oa;have VI:=Lq.fresh Z r OX;replace hq:=cN.cF (cN.cC (cN.cC hq fun g G=>Rel.same r (eI _) G.1) fun g G=>W.block g (Rel.old r (eI _) g G.1)) fun g G=>Lq.mono (E:=(Rb.heap.size,Rc.heap.size)::RW) G fun p hp=>aC _ hp;replace hM:=hM.cD (E:=(Rb.heap.size,Rc.heap.size)::RW) OX r W fun x L=>aC _ L;replace OX:∀v∈rv,∀g,v.ownBlock=some g->Cf w ((Rb.heap.size,Rc.heap.size)::RW) g:=fun v hv g e=>(OX v hv g e).mono fun p hp=>aC _ hp;clear r W Oa Z;generalize (Rb.heap.size,Rc.heap.size)::RW=Qj at*
    obtain⟨K0,K1,K2,K3,K4,K5,K6,K7,rfl⟩:=VI.shape;conv=>whnf
    refine iF (Id:=fun _ J v V=>lg V (Cf w ((J.heap.size,V.heap.size)::Qj)) rv n (fA (placeF f) (fA (placeF f) (fA (placeF f) (fA (placeF f) (gu f x j p (kH f x j (gI f x j) p) c) (3*ka+p) (3*ka+c) (kB f x j p c)) (3*kb+p) (3*kb+c) (kB f x j p c)) (3*ka+p) (3*kb+c) (-(kB f x j p c))) (3*kb+p) (3*ka+c) (-(kB f x j p c)))) (C9:=fun g=>∃v∈rv,v.ownBlock=some g) (fun g ⟨v,hv,e⟩=>OX v hv g e) (fun O J r=>jd r rfl rfl rfl rfl hM OX PK SQ Pm (by omega) (by omega) (by omega) (by omega) SR t3 (by omega) (cN.cF VI fun g G=>G.1) (by omega)) ?_;rintro O QJ v11 QQ row r Oc L Oa Py;replace Y:=Y.tr Oa;replace OX:∀v∈rv,∀g,v.ownBlock=some g->Cf w ((QJ.heap.size,QQ.heap.size)::Qj) g:=fun v hv g e=>(OX v hv g e).mono fun p hp=>aC _ hp;clear hM r Oc L Oa;have hM:=Py;clear Py;generalize (QJ.heap.size,QQ.heap.size)::Qj=PD at*
    conv=>whnf
    rw[<-hcq]at hM;refine⟨((c+1:Nat):Int),wo,?_⟩;conv=>whnf
    intro IR w6 K;exact⟨(c+1,w6,_),⟨hc3,Y.tr K.cL,hM.rel OX K,OX⟩,Sub.gn [] K,by dsimp only;omega⟩
   have hc3:c=3:=by have:=aH PB;omega
   rw[hc3,<-kH]at hM;conv=>whnf
   refine⟨((p+1:Nat):Int),wo,?_⟩;conv=>whnf
   intro IR w6 K;exact⟨(p+1,w6,_),⟨hp3,Y.tr K.cL,hM.rel OX K,OX⟩,Sub.gn [] K,by dsimp only;omega⟩
  have hp3:p=3:=by have:=aH Sw;omega
  rw[hp3,<-gI]at hM;conv=>whnf
  refine⟨((j+1:Nat):Int),wo,?_⟩;conv=>whnf
  intro IR w6 K;exact⟨(j+1,w6,_),⟨Pv,Y.tr K.cL,hM.rel OX K,OX⟩,Sub.gn [] K,by dsimp only;omega⟩
 have Pv:j=f.bars.length:=by have:=aH Pv;omega
 rw[Pv,<-jX]at hM;clear hj Pv;conv=>whnf
 refine⟨Nat×World×Iv,fun z=>⟨[(1,sV ax x.length cx),(2,pP 0 0),(13,.o (.fn F'.eR [2,4])),(11,pP 4 0),(172,sV aq f.cM.length cq),(173,iZ f.cM.length),(174,iN z.1)],[(3,.arr T.jC rv),(4,.box T.BZ [.s 3 0 n n]),(1,.arr T.int (zv (placeF f))),(2,.box T.Lint [.s 1 0 m m]),(0,.box T.Frame [.v (.slice an f.nodes.length cn),.v (.slice ab f.bars.length cb),.v (.slice aq f.cM.length cq)])],5,z.2.2,z.2.1⟩,fun z=>f.cM.length-z.1,
  fun z=>z.1<=f.cM.length/\dT w.heap.size w z.2.1/\lg z.2.1 (Cf w z.2.2) rv n (jX f x z.1)/\∀v∈rv,∀g,v.ownBlock=some g->Cf w z.2.2 g,?_,?_⟩
 ·intro O J r;exact⟨(0,J,_),⟨aS _,Y.tr r.cL,hM.rel OX r,OX⟩,Sub.gn [] r⟩
 clear Y hM OX;rintro⟨k,w5,iv⟩ ⟨R,Y,hM,OX⟩;dsimp only at R Y hM OX ⊢;conv=>whnf
 refine dB.mk ?_ ?_<;>intro OT
 ·have OT:k<f.cM.length:=by have:=aK OT;omega
  obtain⟨s,hs⟩:∃s,f.cM[k]? =some s:=⟨_,aB OT⟩
  have TA:=aE hs;obtain⟨OR,PI⟩:=hv.sup s TA;obtain⟨adb,U,QM,hF,-,Pn⟩:=hf.cM.load (by decide) hs;obtain⟨g0,g1,g2,g3,g4,g5,g6,g7,rfl,hF⟩:=hF;have hsok:=OV.sup s TA;have Ot:rl s.2.2<=3:=Pw.fx _ (List.mem_append_right _ (aR.2 ⟨_,TA,rfl⟩));have hrr:3*s.1+s.2.1=((dP s:Nat):Int):=by unfold dP;omega
  have hsht:=HZ Pw Rh k (by omega);have hsq:jX f x (k+1)=if s.2.2=0 then jX f x k else fA (placeF f) (jX f x k) (dP s) (dP s) (1 / s.2.2):=by rw[jX,getD_some hs]
  conv=>whnf
  refine⟨adb,QM,by omega,?_⟩;conv=>whnf
  refine⟨[.int .i64 s.1,.int .i64 s.2.1,.bool g0,.slice g1 g2 g3,.bool g4,.slice g5 g6 g7],rfl,rdO Pn Y F,?_⟩;conv=>whnf
  refine⟨3*s.1,wo,?_⟩;conv=>whnf
  refine⟨((dP s:Nat):Int),by rw[hrr,wrap64]<;>omega,?_⟩;conv=>whnf
  refine cB (cG (Id:=fun _ J v V=>∃d,v= .bool d/\(d=true↔s.2.2=0)) (fun O J r=>mQ (oS F r) (hF.cC (kS Y r F))) ?_);rintro O UG v21 S9 r W Oa ⟨d,rfl,hd⟩;replace Y:=Y.tr Oa;replace hM:=hM.cD (E:=(UG.heap.size,S9.heap.size)::iv) OX r W fun x L=>aC _ L;replace OX:∀v∈rv,∀g,v.ownBlock=some g->Cf w ((UG.heap.size,S9.heap.size)::iv) g:=fun v hv g e=>(OX v hv g e).mono fun p hp=>aC _ hp;clear r W Oa;generalize (UG.heap.size,S9.heap.size)::iv=Rp at*
  cases d
  ·have OS:s.2.2≠0:=fun e=>by have:=hd.2 e;cases this
   rw[aI OS]at hsq;have Vp:=HY Ot OS;conv=>whnf
   refine cI hτ dN [.x 0,.x 1,.x 2,.x 4,.x 5,.x 3,.x 6,.x 7] (by kernel_rfl) (by kernel_rfl) ?_;conv=>whnf
   refine cG (Id:=fun _ J v V=>cN V (Nf J V) v ((1:Int):Rat)) (fun O J r=>kK 1 J (by decide) (by decide)) ?_;rintro O TN v22 TO r W Oa Z;replace Y:=Y.tr Oa;replace hM:=hM.cD (E:=(TN.heap.size,TO.heap.size)::Rp) OX r W fun x L=>aC _ L;replace OX:∀v∈rv,∀g,v.ownBlock=some g->Cf w ((TN.heap.size,TO.heap.size)::Rp) g:=fun v hv g e=>(OX v hv g e).mono fun p hp=>aC _ hp;have hwd:=Z.dD (S:=FF) r.bz (iv:=(TN.heap.size,TO.heap.size)::Rp) aG;clear r W Oa Z;generalize (TN.heap.size,TO.heap.size)::Rp=UI at*
   obtain⟨N0,N1,N2,N3,N4,N5,N6,N7,rfl⟩:=hwd.shape;conv=>whnf
   refine cG (Id:=fun _ J v V=>cN V (Nf J V) v (1 / s.2.2)) (fun O J r=>GL (S:=fun g=>S g\/Cf w UI g) (fun g G=>G.elim (oS F r g) (Rel.old r (bw w) g)) (eJ.cF ((hwd.rel r (bw w)).l (by decide)) fun g G=>.inr G) (eJ.cF (hF.cC (kS Y r F)) fun g G=>.inl G) OS) ?_;rintro O TR v23 TS r W Oa Z;replace Y:=Y.tr Oa;have hq:=Lq.fresh Z r OX;replace hM:=hM.cD (E:=(TR.heap.size,TS.heap.size)::UI) OX r W fun x L=>aC _ L;replace OX:∀v∈rv,∀g,v.ownBlock=some g->Cf w ((TR.heap.size,TS.heap.size)::UI) g:=fun v hv g e=>(OX v hv g e).mono fun p hp=>aC _ hp;clear r W Oa Z hwd;generalize (TR.heap.size,TS.heap.size)::UI=Sd at*
   obtain⟨O0,O1,O2,O3,O4,O5,O6,O7,rfl⟩:=hq.shape;conv=>whnf
   refine iF (Id:=fun _ J v V=>lg V (Cf w ((J.heap.size,V.heap.size)::Sd)) rv n (fA (placeF f) (jX f x k) (dP s) (dP s) (1 / s.2.2))) (C9:=fun g=>∃v∈rv,v.ownBlock=some g) (fun g ⟨v,hv,e⟩=>OX v hv g e) (fun O J r=>jd r rfl rfl rfl rfl hM OX PK SQ Pm (by omega) (by omega) (by omega) (by omega) SR hsht (by omega) (cN.cF hq fun g G=>G.1) (by omega)) ?_;rintro O UJ v24 UK row r Oc L Oa Py;replace Y:=Y.tr Oa;replace OX:∀v∈rv,∀g,v.ownBlock=some g->Cf w ((UJ.heap.size,UK.heap.size)::Sd) g:=fun v hv g e=>(OX v hv g e).mono fun p hp=>aC _ hp;clear hM r Oc L Oa;have hM:=Py;clear Py;generalize (UJ.heap.size,UK.heap.size)::Sd=Vt at*
   conv=>whnf
   rw[<-hsq]at hM;refine⟨((k+1:Nat):Int),wo,?_⟩;conv=>whnf
   intro IR w6 K;exact⟨(k+1,w6,_),⟨OT,Y.tr K.cL,hM.rel OX K,OX⟩,Sub.gn [] K,by dsimp only;omega⟩
  rw[if_pos (hd.1 rfl)]at hsq;rw[<-hsq]at hM;conv=>whnf
  refine⟨((k+1:Nat):Int),wo,?_⟩;conv=>whnf
  intro IR w6 K;exact⟨(k+1,w6,_),⟨OT,Y.tr K.cL,hM.rel OX K,OX⟩,Sub.gn [] K,by dsimp only;omega⟩
 have OT:k=f.cM.length:=by have:=aH OT;omega
 rw[OT]at hM;conv=>whnf
 intro GT we re;refine⟨_,rfl,Y.tr re.cL,rv,?_,hM.len,fun i u y k1 k2=>cS.out (hM.rat OX k1 k2) re (bw w)⟩;have n3:=re.nn 3 _ rfl (by intros;simp) (by simp);have h5:=AD (T:=Nf w we) (sz:=1) (k:=n) re (id:=3) rfl (by rw[Pm,aY]) (by unfold maxLen;omega) PK (.inr (re.low 3 _ rfl n3));rw[show (Fy f x).length=n from(hM.len.symm.trans Pm)];exact h5
section
variable{S:Nat->Prop}{w:World}{v u:Value}{M:List (List Rat)}{b:List Rat}{n h0:Nat}
end
theorem Hd{α:Type}{M:List (List α)}{n:Nat}(hl:M.length=n)(Y:∀r∈M,r.length=n)(Z:n<=60):ov M=0:=by
 have hc:iS M=M.length:=by
  cases M with
  |nil=>rfl
  |cons r t=>rw[hl];exact Y r (aG ..)
 have hE:sZ M=0:=by
  unfold sZ;rw[if_pos fun r hr=>by rw[hc,hl];exact Y r hr,aI (by omega)]
 unfold ov;rw[hE,hc];simp
theorem He{n:Nat}(h:n<=12):4^n*44<=800000000:=aW (Nat.mul_le_mul_right 44 (Nat.pow_le_pow_right (by decide) h)) (by decide)
theorem r8(F:Old S w)(hf:dm w S vn vb vs f)(TA:eN f=0->yv f)(L:dM w S vx x)(Rh:∀q∈x,rl q<=3):
  dx PG F'.mB #[.agg #[vn,vb,vs],vx] w (eH w fun v' V=>(eN f≠0/\v'= .tuple #[.slice none 0 0,.int .i64 (eN f)])\/(eN f=0/\((x.length≠f.cols/\v'= .tuple #[.slice none 0 0,.int .i64 11])\/(x.length=f.cols/\∃vm,v'= .tuple #[vm,.int .i64 0]/\cT V (Nf w V) vm (fE f x))))):=by
 have Y:=bR w;obtain⟨an,cn,ab,cb,aq,cq,rfl,rfl,rfl,RX,RP,Sk⟩:=hf.shape;obtain⟨ax,cx,rfl,UM,UN⟩:=eD.shape L;unfold maxLen at UN;have Q1:f.cols=f.bars.length+f.cM.length:=rfl;obtain⟨e0,EE⟩:∃e,eN f=e:=⟨_,rfl⟩
 refine pj (by simp) ?_;conv=>whnf
 refine cB (cE Y (fun _ J v V=>v= .int .i64 e0) (fun O J r=>(Ep (oS F r) (hf.cC (kS Y r F))).mono fun _ _ ⟨v2,e1,e2,e3⟩=>⟨v2,e1,e2,by rw[e3,EE]⟩) ?_);rintro O _ _ _ OZ r W Y h_ rfl;clear r;conv=>whnf
 refine dB.mk ?_ ?_<;>intro W
 ·have W:e0≠0:=by simpa using W
  conv=>whnf
  exact rtn Y fun GT we re=>.inl ⟨by rw[EE];exact W,by rw[EE];rfl⟩
 have W:e0=0:=by simpa using W
 have PV:eN f=0:=by rw[EE,W]
 have Pw:=TA PV;have RF:=Pw.toFrS;clear EE W;conv=>whnf
 refine cB (cE Y (fun _ J v V=>v= .int .i64 (if x.length≠f.cols then 11 else 0)) (fun O J r=>Cy (hf.cC (kS Y r F)) ⟨RF.b,RF.s⟩) ?_);rintro O _ _ _ OU r W Y h_ rfl;clear r W;by_cases Oj:x.length≠f.cols
 ·rw[if_pos Oj];conv=>whnf
  exact rtn Y fun GT we re=>.inr ⟨PV,.inl ⟨Oj,rfl⟩⟩
 rw[aI Oj];have QC:x.length=f.cols:=by simpa using Oj
 conv=>whnf
 refine cB (cE Y (fun _ J v V=>cT V (Nf J V) v (fE f x)) (fun O J r=>Fz RF.toFrV▸An (oS F r) (hf.cC (kS Y r F)) PV Pw (dM.cC L (kS Y r F)) QC Rh) ?_);rintro O _ _ _ Oi r W Y h_ Z;have hM:=cT.dD (S:=FF) Z r.bz (mN h_);clear r W;clear Z;obtain⟨am,cm,rfl,-,-⟩:=dG.shape hM;conv=>whnf
 exact rtn Y fun GT we re=>.inr ⟨PV,.inr ⟨QC,_,rfl,cT.out hM re (bw w)⟩⟩
theorem vZ(F:Old S w)(hf:dm w S vn vb vs f)(TA:eN f=0->yv f)(L:dM w S vx x)(Rh:∀q∈x,rl q<=3):
  dx PG F'.pW #[.agg #[vn,vb,vs],vx] w (eH w fun v' _=>(eN f≠0/\v'= .tuple #[.bool false,.int .i64 (eN f)])\/(eN f=0/\((x.length≠f.cols/\v'= .tuple #[.bool false,.int .i64 11])\/(x.length=f.cols/\∃d,v'= .tuple #[.bool d,.int .i64 0]/\(d=true↔sI (fE f x)))))):=by
 have Y:=bR w;obtain⟨an,cn,ab,cb,aq,cq,rfl,rfl,rfl,RX,RP,Sk⟩:=hf.shape;obtain⟨ax,cx,rfl,UM,UN⟩:=eD.shape L;unfold maxLen at UN;have Q1:f.cols=f.bars.length+f.cM.length:=rfl;refine tt (by simp) ?_;conv=>whnf
 refine cB (cG (Id:=fun _ J v V=>(eN f≠0/\v= .tuple #[.slice none 0 0,.int .i64 (eN f)])\/(eN f=0/\((x.length≠f.cols/\v= .tuple #[.slice none 0 0,.int .i64 11])\/(x.length=f.cols/\∃vm,v= .tuple #[vm,.int .i64 0]/\cT V (Nf J V) vm (fE f x))))) (fun O J r=>r8 (oS F r) (hf.cC (kS Y r F)) TA (dM.cC L (kS Y r F)) Rh) ?_);rintro O PQ v1 PE r W hb (⟨h0,rfl⟩|⟨PV,⟨Oj,rfl⟩|⟨QC,vm,rfl,Z⟩⟩)
 ·replace Y:=Y.tr hb;clear r W hb;generalize (PQ.heap.size,PE.heap.size)::[]=OZ at*
  conv=>whnf
  refine dB.mk (fun _=>?_) (fun hd=>absurd (by simpa using hd) h0);conv=>whnf
  exact rtn Y fun GT we re=>.inl ⟨h0,rfl⟩
 ·replace Y:=Y.tr hb;clear r W hb;generalize (PQ.heap.size,PE.heap.size)::[]=OZ at*
  conv=>whnf
  exact rtn Y fun GT we re=>.inr ⟨PV,.inl ⟨Oj,rfl⟩⟩
 replace Y:=Y.tr hb;have hM:=cT.dD (S:=FF) Z r.bz (iv:=(PQ.heap.size,PE.heap.size)::[]) aG;clear Z r W hb;generalize (PQ.heap.size,PE.heap.size)::[]=OZ at*
 have Pw:=TA PV;have RF:=Pw.toFrS;have hn4:=RF.n4;have Rq:=CM (f:=f);have Q8:=EP Pw RF.b6 Rh;have Qq:((fE f x).map jf).length=(dy f).length:=by rw[aL,jH]
 have Uy:ov ((fE f x).map jf)=0:=Hd (n:=(dy f).length) Qq (fun r hr=>by obtain⟨y,hy,rfl⟩:=aR.1 hr;rw[Bj];exact sO y hy) (by omega);obtain⟨am,cm,rfl,-,-⟩:=dG.shape hM;conv=>whnf
 refine cB (cE Y (fun _ J v V=>∃d,v= .tuple #[.bool d,.int .i64 0]/\(d=true↔sI (fE f x))) (fun O J r=>(rX (S:=Cf w OZ) (h0:=44) (Rel.old r (bw w)) (cT.jf (cT.rel hM r (bw w))) (fun _=>⟨fun y hy=>by obtain⟨y0,Ph,rfl⟩:=aR.1 hy;exact Bk fun q hq=>by have:=Q8 y0 Ph q hq;omega,by rw[DE];exact Q8,by decide,by rw[Qq];exact He (by omega)⟩) (by decide)).mono fun _ _ ⟨v2,e1,e2,e3⟩=>⟨v2,e1,e2,e3.elim (fun h=>absurd Uy h.1) fun⟨_,d,k1,k2,k3⟩=>⟨d,k1,by rw[DE]at k2 k3;exact⟨k2,k3⟩⟩⟩) ?_);rintro O _ _ _ OU r W Y h_ ⟨d,rfl,hd⟩;clear hM;clear r W;conv=>whnf
 exact rtn Y fun GT we re=>.inr ⟨PV,.inr ⟨QC,d,rfl,hd⟩⟩
def MZ:List Ld:=[(2,0,0,-12)]
end Go.Ex
namespace Go.Sx
open Go Go.Ex Go.Proofs
variable{vs:List Value}{O:Nat->Sx.dL}
theorem Sub.aA1{B nx:Nat}{l:Env}{H H':Hp}{iv:Iv}{w J:World}{t:vt}(id fid p e sz n:Nat){ft:Nat}{U:List At}
  (Oy:cV H id=some (.box e (vs.map At.v))) (hs:ug H H') (ho:CC id H'=true) (hf:cV H' fid=some (.box ft U)) (hp:U[p]? =some (.s id 0 n n)) (Z:vs.length=n*sz) (S2:n<=maxLen) (Rg:l5 nx l) (r:Rel H nx iv B w O J)
  (h:∀In,Rel ((fid,.box ft (U.set p (.w nx n)))::(nx,.vec e sz vs)::H') (nx+1) iv B J In J->Sx.Sub B l (nx+1) In J t):Sx.Sub B l nx O J t:=by
 have Tw:=r.nn id _ Oy (by intros;simp) (by simp);have Oz:=r.box id _ _ Oy;have TC:(vs.map At.v).map (At.den O)=vs:=by
  rw[List.map_map];exact List.map_id _
 rw[TC]at Oz;have hidn:id<nx:=r.keys id _ Oy;have r0:=r.free Oy (by simp) Tw hs ho;have OR:J.ownsRow 0 e sz (.slice (some ⟨(O id).g,0,none⟩) n n) n vs:=⟨Z,.inr ⟨(O id).g,n,vs.toArray,rfl,aS _,Oz,Nat.le_refl _,S2,by simpa using Z,by rw[<-Z];simp⟩⟩
 obtain⟨u,r1,Y⟩:=r0.JO OR (fun g G=>by injection G with G;subst G;exact(r.low id _ Oy Tw).1) (fun g G j c hj WR W=>by
  injection G with G;subst G;obtain⟨X,N⟩:=CC.get ho hj
  exact X (r.inj j id c _ (hs.get hj) Oy N (by simp) WR Tw W))
 have hug:u.nil=false/\u.g=(O id).g:=by
  simp only[At.den,Sx.dw]at Y
  cases hu:u.nil with
  |true=>rw[hu]at Y;cases Y
  |false=>
   rw[hu]at Y;injection Y with I;injection I with I;injection I with I;exact⟨rfl,I⟩
 have Pp:∀j,j<nx->Sx.fh O nx u j=O j:=fun j hj=>(fm j hj).symm
 have r2:Rel ((nx,.vec e sz vs)::H') (nx+1) iv B J (Sx.fh O nx u) J:=Rel.mk' rfl rfl rfl (Nat.le_refl _) r1.base (fun lo D hm=>by have:=r.qW lo D hm;have:=r.size;omega) r1.keys (fun j c h=>r1.fits h) (fun j c h=>r1.scopd h) r1.inj r1.low (fun _ _ _=>rfl) (fun lo D hm j c hj WR=>by
  rw[cU]at hj;split at hj
  ·rename_i e2;subst e2;rw[Sx.dw,hug.2];exact r.ji lo D hm id _ Oy Tw
  ·have hjx:=r.keys j c (hs.get hj);rw[Pp j hjx]at WR ⊢
   exact r.ji lo D hm j c (hs.get hj) WR)
 have hfx:fid≠nx:=Nat.ne_of_lt (r.keys fid _ (hs.get hf));have hf1:cV ((nx,.vec e sz vs)::H') fid=some (.box ft U):=by rw[cU,aI (fun h=>hfx h.symm)];exact hf
 have hnf:=r2.nn fid _ hf1 (by intros;simp) (by simp);have WE:=r2.box fid ft U hf1;have SO:(U.set p (.w nx n)).map (At.den (Sx.fh O nx u))=U.map (At.den (Sx.fh O nx u)):=by
  refine bG fun j=>?_;rw[aM,aM];by_cases hj:p=j
  ·subst hj;rw[aO (aD.1 hp).1,hp,bY,bY,Y];simp only[At.den,Pp id hidn]
  ·rw[aT hj]
 have K:=r2.store (b':=.box ft (U.set p (.w nx n))) (H':=(fid,.box ft (U.set p (.w nx n)))::(nx,.vec e sz vs)::H') (V:=J) hf1 (by simp) hnf (fun j=>by
  rw[cU];by_cases hj:fid=j
  ·subst hj;rw[if_pos rfl]
  ·rw[aI hj,aI (fun h=>hj h.symm)]) rfl rfl rfl rfl (fun _ _=>rfl) ⟨hnf,by rw[SO];exact WE⟩ (fun x L=>by
   rcases a9 L with L|rfl
   ·exact r2.JJ fid ft U hf1 x L
   ·exact bV nx)
 obtain⟨G8,I,X⟩:=h _ K;refine⟨G8,I,fun x v hv=>?_⟩;obtain⟨N,v0,h4,h5⟩:=X x v hv;refine⟨N,v0,h4,?_⟩;rw[<-h5];exact SV.jU (fun id Oy=>fm id Oy) (Rg.get _ _ h4)
end Go.Sx
namespace Go.Ex
open Go Go.Sx Go.Proofs
end Go.Ex
