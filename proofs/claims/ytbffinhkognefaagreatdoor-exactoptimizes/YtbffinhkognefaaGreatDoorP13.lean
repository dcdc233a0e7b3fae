/- Texts L68 to L72: lemmas, each with its conditions. -/
import Derived.Test.YtbffinhkognefaaGreatDoorP12
set_option linter.defProp false
namespace Go.Ex
variable{j v:Nat}{Ds:Nat->Dc}{f r s:Nat->Nat}{x y:Nat->Rat}
def AN(b:List Rat):Nat->Nat
 |0=>0
 |i+1=>if b.getD i 0<b.getD (AN b i) 0 then i else AN b i
def tA(b:List Rat):∀n,(0<n->AN b n<n)/\∀i,i<n->b.getD (AN b n) 0<=b.getD i 0
 |0=>⟨λh=>be,λi h=>be⟩
 |n+1=>by
  obtain⟨Y,I⟩:=tA b n;rw[AN];split
  .rename_i g;refine⟨λ_=>be,λi R=>?_⟩;rcases aW i n with h3|h3
   .exact Rat.le_of_lt ((by have:=I i h3;grind:b.getD n 0<b.getD i 0))
   .rw[show i=n by omega];exact Rat.le_refl
  .rename_i g;refine⟨λ_=>?_,λi R=>?_⟩
   .rcases bB n with h3|h3
    .subst h3;show 0<1;omega
    .have:=Y h3;omega
   .rcases aW i n with h3|h3
    .exact I i h3
    .rw[show i=n by omega];exact Rat.not_lt.1 g
def Tb.begin(Fn:List (List Rat))(b c:List Rat):Tb:=⟨(List.range Fn.length).map λi=>c.length+i,List.range c.length,Fn,b,c,0⟩
def Tb.H3(Fn:List (List Rat))(b c:List Rat):Tb:=⟨(List.range Fn.length).map λi=>c.length+i,List.range c.length++[c.length+Fn.length],Fn.map λr=>r++[-1],b,dm c.length++[-1],0⟩
def Tb.del(t:Tb)(k:Nat):Tb:={t with fs:=t.fs.eraseIdx k,a:=t.a.map λr=>r.eraseIdx k,c:=t.c.eraseIdx k}
def Tb.iq(t:Tb)(n:Nat)(c:List Rat):Nat->List Rat
 |0=>t.fs.map λv=>if v<n then c.getD v 0 else 0
 |i+1=>if t.bs.getD i 0<n then qd (t.iq n c i) (-(c.getD (t.bs.getD i 0) 0)) (t.a.getD i [])else t.iq n c i
def Tb.kC(t:Tb)(n:Nat)(c:List Rat):Nat->Rat
 |0=>0
 |i+1=>if t.bs.getD i 0<n then t.kC n c i+c.getD (t.bs.getD i 0) 0*t.b.getD i 0 else t.kC n c i
def Tb.rest(t:Tb)(n:Nat)(c:List Rat):Tb:={t with c:=t.iq n c t.bs.length,top:=t.kC n c t.bs.length}
section
variable{Fn:List (List Rat)}{b c:List Rat}{t:Tb}{D:Dc}
def Cu{n i:Nat}(h:i<n):(List.range n).getD i 0=i:=by rw[List.getD,cN h];rfl
def Cw{n i:Nat}(h:i<n):((List.range n).map f).getD i 0=f i:=by rw[List.getD,aS,cN h];rfl
def Rp.start(hA:iP c.length Fn)(N:b.length=Fn.length):Rp (Tb.begin Fn b c) (gk Fn.length c.length (dR Fn) (λi=>b.getD i 0) λj=>c.getD j 0):=
 ⟨by simp[Tb.begin,gk],by simp[Tb.begin,gk],rfl,hA,N,rfl,λi R=>Cw R,λj hj=>Cu hj,λi j _ _=>rfl,λi _=>rfl,λj _=>rfl,rfl⟩
def od{α:Type}{l:List α}{x d:α}(h:j<=l.length):(l++[x]).getD j d=if j<l.length then l.getD j d else x:=by
 rcases aW j l.length with Y|Y
 .rw[aM Y,List.getD,aN Y];rfl
 .rw[aJ be,List.getD,aP Y,show j-l.length=0 by omega];rfl
def Rp.H3(hA:iP c.length Fn)(N:b.length=Fn.length):Rp (Tb.H3 Fn b c) (dz Fn.length c.length (dR Fn) λi=>b.getD i 0):=by
 refine⟨by simp[Tb.H3,dz],by simp[Tb.H3,dz],by simp[Tb.H3,dz],λr hr=>?_,N,by simp[Tb.H3,dz,dm],λi R=>Cw R,λj hj=>?_,λi j R hj=>?_,λi _=>rfl,λj hj=>?_,rfl⟩
 .obtain⟨x,Z,rfl⟩:=bA.1 (show r∈Fn.map λr=>r++[-1]from hr);rw[aU,hA x Z];rfl
 .have hj:j<c.length+1:=hj;show(List.range c.length++[c.length+Fn.length]).getD j 0=if j<c.length then j else c.length+Fn.length
  rw[od (by rw[List.length_range];omega),List.length_range];split
  .rename_i g;exact Cu g
  .rfl
 .have R:i<Fn.length:=R;have hj:j<c.length+1:=hj;show((Fn.map λr=>r++[-1]).getD i []).getD j 0=if j<c.length then dR Fn i j else -1
  rw[getD_map [] [] R,od (by rw[hA.getD R];omega),hA.getD R];rfl
 .have hj:j<c.length+1:=hj;show(dm c.length++[-1]).getD j 0=if j<c.length then 0 else -1
  rw[od (by simp[dm];omega),jC];simp[dm]
def getD_erase{α:Type}{l:List α}{d:α}{k:Nat}:(l.eraseIdx k).getD j d=l.getD (eL k j) d:=by
 unfold eL;rw[List.getD,List.getElem?_eraseIdx,List.getD];split<;>rfl
def kV(t:Tb)(n:Nat)(c:List Rat):∀i,(t.iq n c i).length=t.fs.length
 |0=>by rw[Tb.iq,aO]
 |i+1=>by
  rw[Tb.iq];split
  .rw[nV];exact kV t n c i
  .exact kV t n c i
def Fk(t:Tb)(n:Nat)(c:List Rat){j:Nat}(hj:j<t.fs.length):∀i,(t.iq n c i).getD j 0=(if t.fs.getD j 0<n then c.getD (t.fs.getD j 0) 0 else 0)-cj (λi=>if t.bs.getD i 0<n then c.getD (t.bs.getD i 0) 0*dR t.a i j else 0) i
 |0=>by rw[Tb.iq,getD_map 0 0 hj];show _=_-(0:Rat);grind
 |i+1=>by
  have ih:=Fk t n c hj i;rw[Tb.iq,cj];split
  .rw[Du (by rw[kV];exact hj),ih];show _+ -_*dR t.a i j=_;grind
  .rw[ih];grind
def Fl(t:Tb)(n:Nat)(c:List Rat):∀i,t.kC n c i=cj (λi=>if t.bs.getD i 0<n then c.getD (t.bs.getD i 0) 0*t.b.getD i 0 else 0) i
 |0=>rfl
 |i+1=>by
  rw[Tb.kC,cj,Fl t n c i];split
  .rfl
  .rw[cH]
def Rp.cut(h:Rp t D){k n:Nat}(K:k<D.q):Rp ((t.del k).rest n c) (D.cut k n λj=>c.getD j 0):=by
 have SL:∀j,j<D.q-1->eL k j<D.q:=λj hj=>by unfold eL;split<;>omega
 have Qj:(t.del k).fs.length=D.q-1:=by
  show(t.fs.eraseIdx k).length=_;rw[List.length_eraseIdx,aM (by rw[h.Nd];exact K),h.Nd]
 have Qw:∀i j,i<D.m->dR (t.del k).a i j=dR t.a i (eL k j):=λi j R=>by
  show((t.a.map λr=>r.eraseIdx k).getD i []).getD j 0=_;rw[getD_map [] [] (by rw[h.al];exact R),getD_erase];rfl
 have Yk:∀j,(t.del k).fs.getD j 0=t.fs.getD (eL k j) 0:=λj=>getD_erase;refine⟨h.KC,Qj,?_,λr hr=>?_,h.bl,?_,h.eu,λj hj=>?_,λi j R hj=>?_,h.eb,λj hj=>?_,?_⟩
 .show(t.a.map _).length=_;rw[aO];exact h.al
 .obtain⟨x,Z,rfl⟩:=bA.1 (show r∈t.a.map λr=>r.eraseIdx k from hr);rw[List.length_eraseIdx,h.aw x Z,aM K];rfl
 .show((t.del k).iq n c _).length=D.q-1;rw[kV,Qj]
 .show(t.del k).fs.getD j 0=D.eR (eL k j);rw[Yk,h.eR _ (SL j hj)]
 .show dR (t.del k).a i j=D.a i (eL k j);rw[Qw i j R,h.ea _ _ R (SL j hj)]
 .have hj:j<D.q-1:=hj;show((t.del k).iq n c t.bs.length).getD j 0=(if D.eR (eL k j)<n then c.getD (D.eR (eL k j)) 0 else 0)-cj (λi=>if D.eu i<n then c.getD (D.eu i) 0*D.a i (eL k j)else 0) D.m;rw[Fk _ _ _ (by rw[Qj];exact hj),Yk,h.eR _ (SL j hj),h.KC];congr 1;refine cX λi R=>?_;rw[show (t.del k).bs.getD i 0=D.eu i from h.eu i R,Qw i j R,h.ea _ _ R (SL j hj)]
 .show(t.del k).kC n c t.bs.length=cj (λi=>if D.eu i<n then c.getD (D.eu i) 0*D.b i else 0) D.m;rw[Fl,h.KC];refine cX λi R=>?_;rw[show (t.del k).bs.getD i 0=D.eu i from h.eu i R,show(t.del k).b.getD i 0=D.b i from h.eb i R]
end
structure LD(m n B:Nat)(Fn:Nat->Nat->Rat)(b c d:Nat->Rat):Prop where
 nz:∀i,i<m+1->d i≠0
 id:∀i,i<m+1->Ib B (d i)
 ia:∀i j,i<m->j<n->Ib B (d i*Fn i j)
 ib:∀i,i<m->Ib B (d i*b i)
 ic:∀j,j<n->Ib B (d m*c j)
 one:1<=B
section
variable{m n B:Nat}{Fn:Nat->Nat->Rat}{b c d:Nat->Rat}{D:Dc}
def AO{i:Nat}(R:i<m)(hv:v<n+m):(gk m n Fn b c).ext i v=if v<n then Fn i v else iO v (n+i):=by
 unfold Dc.ext;rw[aM (show i<(gk m n Fn b c).m from R),aM (show v<(gk m n Fn b c).m+(gk m n Fn b c).q from(by omega:v<m+n))];show iO v (n+i)+cj (λj=>Fn i j*iO v j) n=_;unfold iO;by_cases h:v<n
 .rw[aM h,aJ be,eN h λj _ e=>by rw[aJ e,bF],aM rfl,Rat.mul_one,Rat.zero_add]
 .rw[aJ h,cX (g:=λ_=>0) λj hj=>by rw[aJ be,bF],dc,cH]
def AP{i:Nat}(R:i<m)(hv:v<n+m):(dz m n Fn b).ext i v=if v<n then Fn i v else iO v (n+i):=by
 unfold Dc.ext;rw[aM (show i<(dz m n Fn b).m from R),aM (show v<(dz m n Fn b).m+(dz m n Fn b).q from(by omega:v<m+(n+1)))];show iO v (n+i)+cj (λj=>(if j<n then Fn i j else -1)*iO v (if j<n then j else n+m)) (n+1)=_;show iO v (n+i)+(cj (λj=>(if j<n then Fn i j else -1)*iO v (if j<n then j else n+m)) n+(if n<n then Fn i n else -1)*iO v (if n<n then n else n+m))=_;rw[aJ (Nat.lt_irrefl n),aJ (Nat.lt_irrefl n),cX (g:=λj=>Fn i j*iO v j) λj hj=>by rw[aM hj,aM hj]];unfold iO;rw[aJ (show ¬n+m=v by omega)];by_cases h:v<n
 .rw[aM h,aJ be,eN h λj _ e=>by rw[aJ e,bF],aM rfl,Rat.mul_one];grind
 .rw[aJ h,cX (g:=λ_=>0) λj hj=>by rw[aJ be,bF],dc];grind
def Ib.ind{B:Nat}{q:Rat}(h:Ib B q)(v w:Nat):Ib B (q*iO v w):=by
 unfold iO;split
 .rw[Rat.mul_one];exact h
 .rw[bF];exact Ib.zero _
def Cx(h:LD m n B Fn b c d):∀i t,i<m+1->t<m+n+2->Ib B (d i*(gk m n Fn b c).ext i t):=λi t R ht=>by
 rcases aW i m with Y|Y
 .rcases aW t (n+m)with I|I
  .rw[AO Y I];split
   .rename_i g;exact h.ia i t Y g
   .exact(h.id i R).ind _ _
  .unfold Dc.ext;rw[aM (show i<(gk m n Fn b c).m from Y),aJ (show ¬t<(gk m n Fn b c).m+(gk m n Fn b c).q from(by omega:¬t<m+n))];split
   .exact h.ib i Y
   .rw[bF];exact Ib.zero _
 .obtain rfl:i=m:=by omega
  unfold Dc.ext;rw[aJ (show ¬i<(gk i n Fn b c).m from Nat.lt_irrefl _)];split
  .show Ib B (d i* -(cj (λj=>c j*iO t j) n));have e:d i* -(cj (λj=>c j*iO t j) n)= -(d i*cj (λj=>c j*iO t j) n):=by grind
   rw[e];refine Ib.neg ?_;unfold iO;by_cases g:t<n
   .rw[eN g λj _ e=>by rw[aJ e,bF],aM rfl,Rat.mul_one];exact h.ic t g
   .rw[cX (g:=λ_=>0) λj hj=>by rw[aJ be,bF],dc,bF];exact Ib.zero _
  .split
   .show Ib B (d i*0);rw[bF];exact Ib.zero _
   .rw[Rat.mul_one];exact h.id i R
def dA(m:Nat)(d:Nat->Rat)(i:Nat):Rat:=if i<m then d i else 1
def KD(h:LD m n B Fn b c d):∀i t,i<m+1->t<m+(n+1)+2->Ib B (dA m d i*(dz m n Fn b).ext i t):=λi t R ht=>by
 unfold dA;rcases aW i m with Y|Y
 .rw[aM Y];rcases aW t (n+m)with I|I
  .rw[AP Y I];split
   .rename_i g;exact h.ia i t Y g
   .exact(h.id i R).ind _ _
  .rcases aW t (n+m+1)with h3|h3
   .obtain rfl:t=n+m:=by omega
    have e:=(dz m n Fn b).Lq (ss m n Fn b) (i:=i) (j:=n) Y (cF n);rw[show (dz m n Fn b).eR n=n+m from aJ (Nat.lt_irrefl n),show(dz m n Fn b).a i n= -1 from aJ (Nat.lt_irrefl n)]at e;rw[e,show d i* -1= -(d i) by grind];exact(h.id i R).neg
   .unfold Dc.ext;rw[aM (show i<(dz m n Fn b).m from Y),aJ (show ¬t<(dz m n Fn b).m+(dz m n Fn b).q from(by omega:¬t<m+(n+1)))];split
    .exact h.ib i Y
    .rw[bF];exact Ib.zero _
 .rw[aJ be,cQ];unfold Dc.ext;rw[aJ (show ¬i<(dz m n Fn b).m from by show ¬i<m;omega)];split
  .show Ib B (-(cj (λj=>(if j<n then 0 else -1)*iO t (if j<n then j else n+m)) n+(if n<n then 0 else -1)*iO t (if n<n then n else n+m)));rw[aJ (Nat.lt_irrefl n),aJ (Nat.lt_irrefl n),cX (g:=λ_=>0) λj hj=>by rw[aM hj,bc],dc,Rat.zero_add];exact((Ib.one h.one).neg.ind _ _).neg
  .split
   .exact Ib.zero _
   .exact Ib.one h.one
def LD.szD(h:LD m n B Fn b c d):(gk m n Fn b c).Sz B λi t=>d i*(gk m n Fn b c).ext i t:=Dc.Sz.start (sq m n Fn b c) d h.nz (Cx h)
def LD.szA(h:LD m n B Fn b c d):(dz m n Fn b).Sz B λi t=>dA m d i*(dz m n Fn b).ext i t:=Dc.Sz.start (ss m n Fn b) (dA m d) (λi R=>by
  unfold dA;split
  .exact h.nz i R
  .decide) (KD h)
def LD.aA8(h:LD m n B Fn b c d)(hs:fe D m n Fn b)(hz:D.Sz B λi t=>dA m d i*(dz m n Fn b).ext i t){k:Nat}(K:k<D.q)(hv:D.eR k=n+m):(D.cut k n c).Sz B λi t=>d i*(gk m n Fn b c).ext i t:=by
 have G:=hs.cut (c:=c) K hv;have hm:(D.cut k n c).m=m:=G.em;have hq:(D.cut k n c).q=n:=G.eq;refine Dc.Sz.of G.ok (sq m n Fn b c) (by rw[hm];rfl) (by rw[hq];rfl) (λx z g=>(G.Fi x z).1 g) d (by rw[hm,hq];exact Cx h) (by rw[hm];exact h.nz m be) ?_;have Y:=hz.part λi R=>by
  rw[hs.em]at R;rw[hs.em,hs.eq];unfold Dc.ext;rw[aM (show i<(dz m n Fn b).m from R),aJ (show ¬m+(n+1)+1<(dz m n Fn b).m+(dz m n Fn b).q from(by omega:¬m+(n+1)+1<m+(n+1))),aJ (show ¬m+(n+1)+1=(dz m n Fn b).m+(dz m n Fn b).q from(by omega:¬m+(n+1)+1=m+(n+1))),bF]
 rw[hm];rw[hs.em]at Y;rw[uP (C9:=λi t=>dA m d i*(dz m n Fn b).ext i t) (q:=D.eu) λi j R hj=>?_]
 .exact Y
 .have N:D.eu j<n+m:=by
   have g1:=hs.ok.bl j (by rw[hs.em];exact hj);have g2:=hs.ok.bf j k (by rw[hs.em];exact hj) K;rw[hv]at g2;rw[hs.em,hs.eq]at g1;omega
  show d i*(gk m n Fn b c).ext i (D.eu j)=dA m d i*(dz m n Fn b).ext i (D.eu j);rw[AO R N,AP R N];unfold dA;rw[aM R]
end
def AQ{a b:Rat}(h:¬a<b):b<=a:=Rat.not_lt.1 h
section
variable{D:Dc}{m n:Nat}{Fn:Nat->Nat->Rat}{b c:Nat->Rat}
def uQ(h:∀i,i<m->0<=b i):(gk m n Fn b c).uO:=λi R=>h i R
def fe.top_le(h:fe D m n Fn b)(hf:D.uO):D.top<=0:=by
 have Y:=h.topVal;have I:=D.Dt hf (n+m);grind
def fe.aA9(h:fe D m n Fn b)(hf:D.uO)(ht:¬D.top<0):(∃r,r<D.m/\D.eu r=n+m/\D.b r=0)\/∃k,k<D.q/\D.eR k=n+m:=by
 have h0:D.val (n+m)=0:=by
  have Y:=h.topVal;have I:=h.top_le hf;have h3:=AQ ht;grind
 rcases h.ok.all (n+m) (by rw[h.em,h.eq];omega)with⟨r,hr,e⟩|⟨k,K,e⟩
 .exact .inl ⟨r,hr,e,by rw[<-e,D.vS h.ok hr]at h0;exact h0⟩
 .exact .inr ⟨k,K,e⟩
def fe.out(h:fe D m n Fn b)(hf:D.uO){r:Nat}(hr:r<D.m)(hv:D.eu r=n+m)(N:D.b r=0)(hj:j<D.q)(ha:D.a r j≠0):fe (D.gP r j) m n Fn b/\(D.gP r j).uO/\(D.gP r j).eR j=n+m:=
 ⟨h.gP hr hj ha,Dc.Lo hf N,by show(if j=j then D.eu r else D.eR j)=_;rw[aM rfl];exact hv⟩
def yW.aAa{k:Nat}(h:yW Ds r s k)(h0:fe (Ds 0) m n Fn b):fe (Ds k) m n Fn b/\(Ds k).uO:=by
 obtain⟨Y,I,h3,h4,h5⟩:=h.at_ k (ae _);exact⟨⟨Y,h3.trans h0.em,h4.trans h0.eq,λx z=>(h5 x z).trans (h0.Fi x z)⟩,I⟩
def yW.same{k:Nat}(h:yW Ds r s k)(h0:jO (Ds 0) m n Fn b c):jO (Ds k) m n Fn b c/\(Ds k).uO:=by
 obtain⟨Y,I,h3,h4,h5⟩:=h.at_ k (ae _);exact⟨⟨Y,h3.trans h0.em,h4.trans h0.eq,λx z=>(h5 x z).trans (h0.Fi x z)⟩,I⟩
def vY(m n:Nat)(Fn:Nat->Nat->Rat)(b y:Nat->Rat):Prop:=(∀i,i<m->0<=y i)/\cj (λi=>y i*b i) m<0/\∀j,j<n->0<=cj (λi=>y i*Fn i j) m
def oH(m n:Nat)(Fn:Nat->Nat->Rat)(b x:Nat->Rat):Prop:=(∀j,j<n->0<=x j)/\∀i,i<m->cj (λj=>Fn i j*x j) n<=b i
def PM(m n:Nat)(Fn:Nat->Nat->Rat)(b c:Nat->Rat):(∃y,vY m n Fn b y)\/∃D,jO D m n Fn b c/\D.uO:=by
 by_cases N:∀i,i<m->0<=b i
 .exact .inr ⟨_,jO.start,uQ N⟩
 .have hm:0<m:=by
   rcases bB m with h|h
   .exact absurd (λi R=>be) N
   .exact h
  obtain⟨low,Pq⟩:∃low,low<m/\∀i,i<m->b low<=b i:=by
   have Y:=tA ((List.range m).map b) m;have I:∀i,i<m->((List.range m).map b).getD i 0=b i:=λi R=>by rw[List.getD,aS,cN R];rfl
   refine⟨_,Y.1 hm,λi R=>?_⟩;have:=Y.2 i R
   rwa [I _ (Y.1 hm),I i R]at this
  have Rv:b low<=0:=by
   refine AQ λg=>N λi R=>?_;have:=Pq.2 i R;grind
  have hs0:fe ((dz m n Fn b).gP low n) m n Fn b:=fe.start.gP Pq.1 (cF n) (by
   show(if n<n then Fn low n else -1)≠0
   rw[aJ (Nat.lt_irrefl n)];decide)
  obtain⟨Ds,r,s,k,hR,h0,hE⟩:=yW.ends hs0.ok (AI (n:=n) (Fn:=Fn) Pq.1 Pq.2 Rv);obtain⟨G,hF⟩:=hR.aAa (by rw[h0];exact hs0);have hbest:∀j,j<(Ds k).q->¬0<(Ds k).c j:=by
   cases hE with
   |By h=>exact h
   |Ll s' Y I h3=>exact absurd (G.bounded hF Y I h3) id
  by_cases ht:(Ds k).top<0
  .obtain⟨k1,k2,k3⟩:=G.none hbest;exact .inl ⟨_,λi _=>k1 i,by rw[k2];exact ht,k3⟩
  .rcases G.aA9 hF ht with⟨r',Y,I,h3⟩|⟨k',Y,I⟩
   .obtain⟨j,hj,ha⟩:=G.Ln Y I h3;obtain⟨g1,g2,g3⟩:=G.out hF Y I h3 hj ha;exact .inr ⟨_,g1.cut (c:=c) (k:=j) hj g3,g2⟩
   .exact .inr ⟨_,G.cut (c:=c) Y I,hF⟩
def Iq(m n:Nat)(Fn:Nat->Nat->Rat)(b c:Nat->Rat):(∃y,vY m n Fn b y)\/∃D,jO D m n Fn b c/\D.uO/\D.End:=by
 rcases PM m n Fn b c with h|⟨D,Y,I⟩
 .exact .inl h
 .obtain⟨Ds,r,s,k,hR,h0,hE⟩:=yW.ends Y.ok I;obtain⟨g1,g2⟩:=hR.same (by rw[h0];exact Y);exact .inr ⟨_,g1,g2,hE⟩
def rN{f g:Nat->Rat}:∀{n:Nat},(∀k,k<n->f k<=g k)->cj f n<=cj g n
 |0,_=>Rat.le_refl
 |n+1,h=>by
  have Y:=rN (f:=f) (g:=g) (n:=n) λk K=>h k be;have I:=h n be;show cj f n+f n<=cj g n+g n;grind
def cU(Z:oH m n Fn b x)(hy:∀i,i<m->0<=y i):cj (λj=>cj (λi=>y i*Fn i j) m*x j) n<=cj (λi=>y i*b i) m:=by
 rw[cX (g:=λj=>cj (λi=>y i*Fn i j*x j) m) λj _=>by rw[jB],jd];refine rN λi R=>?_;rw[cX (g:=λj=>y i*(Fn i j*x j)) λj _=>by grind,fP];have Y:=Z.2 i R;have I:=hy i R;have h3:=Rat.mul_nonneg I (show 0<=b i-cj (λj=>Fn i j*x j) n by grind);grind
def Dv(Z:oH m n Fn b x)(hy:∀i,i<m->0<=y i)(hc:∀j,j<n->c j<=cj (λi=>y i*Fn i j) m):cj (λj=>c j*x j) n<=cj (λi=>y i*b i) m:=by
 refine Rat.le_trans (rN λj hj=>?_) (cU Z hy);have Y:=hc j hj;have I:=Z.1 j hj;have h3:=Rat.mul_nonneg (show 0<=cj (λi=>y i*Fn i j) m-c j by grind) I;grind
def vY.no(h:vY m n Fn b y)(Z:oH m n Fn b x):False:=by
 have Y:=Dv (c:=λ_=>0) Z h.1 h.2.2;rw[cX (g:=λ_=>0) λj _=>bc _,dc]at Y;have:=h.2.1;grind
def jO.aAb(h:jO D m n Fn b c)(hf:D.uO):oH m n Fn b D.val:=by
 obtain⟨Y,I,-⟩:=h.jf hf;exact⟨λj _=>Y j,I⟩
def jO.By(h:jO D m n Fn b c)(N:∀j,j<D.q->¬0<D.c j)(Z:oH m n Fn b x):cj (λj=>c j*x j) n<=D.top:=by
 obtain⟨Y,I,h3⟩:=h.aA6 N;have h4:=Dv Z (λi _=>Y i) h3
 rwa [I]at h4
def KE(m n:Nat)(Fn:Nat->Nat->Rat)(c y:Nat->Rat):Prop:=oH m n Fn (λ_=>0) y/\0<cj (λj=>c j*y j) n
def jO.Ll(h:jO D m n Fn b c){s:Nat}(hs:s<D.q)(hc:0<D.c s)(ha:∀i,i<D.m->D.a i s<=0):KE m n Fn c (D.dir s):=by
 obtain⟨Y,I,h3⟩:=h.ray hs ha;exact⟨⟨λj _=>Y j,I⟩,by rw[h3];exact hc⟩
def Lu{z:Nat->Rat}(hr:KE m n Fn c z)(hy:∀i,i<m->0<=y i)(hc:∀j,j<n->c j<=cj (λi=>y i*Fn i j) m):False:=by
 have Y:=Dv hr.1 hy hc;rw[cX (f:=λi=>y i*0) (g:=λ_=>0) λi _=>bF _,dc]at Y;have:=hr.2;grind
end
def Br:Nat->Nat->List (List Nat)
 |0,_=>[[]]
 |k+1,n=>(List.range' k (n-k)).flatMap λlast=>(Br k last).map λl=>l++[last]
def vZ:∀(k n:Nat) (l:List Nat),l∈Br k n↔l.length=k/\l.Pairwise (· < ·)/\∀x∈l,x<n
 |0,n,l=>by
  rw[Br,aY];constructor
  .rintro rfl;exact⟨rfl,List.Pairwise.nil,λx h=>by cases h⟩
  .rintro⟨h,-⟩;exact List.length_eq_zero_iff.1 h
 |k+1,n,l=>by
  rw[Br,List.mem_flatMap];constructor
  .rintro⟨last,Y,I⟩;obtain⟨l',h3,rfl⟩:=bA.1 I;rw[List.mem_range'_1]at Y;obtain⟨g1,g2,g3⟩:=(vZ k last l').1 h3;refine⟨by rw[aU,g1];rfl,List.pairwise_append.2 ⟨g2,List.pairwise_singleton _ _,λa ha b N=>by rw[aY.1 N];exact g3 a ha⟩,λx Z=>?_⟩;rcases az.1 Z with Z|Z
   .have:=g3 x Z;omega
   .rw[aY.1 Z];omega
  .rintro⟨Y,I,h3⟩;obtain⟨l',last,rfl⟩:∃l' last,l=l'++[last]:=by
    rcases List.eq_nil_or_concat l with h|⟨l',a,h⟩
    .rw[h]at Y;cases Y
    .exact⟨l',a,by rw[h,List.concat_eq_append]⟩
   rw[aU]at Y;have K:l'.length=k:=by have:[last].length=1:=rfl;omega
   obtain⟨g1,-,g2⟩:=List.pairwise_append.1 I;have g2:∀x∈l',x<last:=λx Z=>g2 x Z last (aY.2 rfl);have WD:k<=last:=by
    have:=xB last k (λi=>l'.getD i 0) (λi R=>g2 _ (by rw[List.getD,aE be];exact bm _)) λi j R hj e=>by
     rw[List.getD,aE be,List.getD,aE be]at e;have h4:=List.pairwise_iff_getElem.1 g1;rcases cO i j with g|g|g
     .have:=h4 i j be be g;simp only[Option.getD_some]at e;omega
     .exact g
     .have:=h4 j i be be g;simp only[Option.getD_some]at e;omega
    exact this
   have TY:=h3 last (List.mem_append_right _ (aY.2 rfl));exact⟨last,List.mem_range'_1.2 ⟨WD,be⟩,bA.2 ⟨l',(vZ k last l').2 ⟨K,g1,g2⟩,rfl⟩⟩
def tE(m n v:Nat):Nat:=if v<n then m+v else v-n
def Fm(m:Nat)(Fn:Nat->Nat->Rat)(e k:Nat):Rat:=if e<m then Fn e k else if k=e-m then 1 else 0
def AR(m:Nat)(b:Nat->Rat)(e:Nat):Rat:=if e<m then b e else 0
section
variable{D:Dc}{m n:Nat}{Fn:Nat->Nat->Rat}{b c x:Nat->Rat}
def KF{k:Nat}(K:k<n)(x:Nat->Rat):cj (λj=>Fm m Fn (m+k) j*x j) n=x k:=by
 unfold Fm;rw[eN K λj _ e=>by rw[aJ be,aJ be,bc],aJ be,aM be,cQ]
def Lw{i:Nat}(R:i<m)(x:Nat->Rat):cj (λj=>Fm m Fn i j*x j) n=cj (λj=>Fn i j*x j) n:=cX λj _=>by unfold Fm;rw[aM R]
def Fo(hv:v<m+n)(x:Nat->Rat):cj (λj=>Fm m Fn (tE m n v) j*x j) n=AR m b (tE m n v)↔full m n Fn b x v=0:=by
 unfold tE;rcases aW v n with h|h
 .rw[aM h,KF h,sw h];unfold AR;rw[aJ be]
 .obtain⟨i,rfl⟩:∃i,v=n+i:=⟨v-n,be⟩
  rw[aJ be,Nat.add_sub_cancel_left,Lw be,zI];unfold AR;rw[aM be];constructor<;>intro g<;>grind
def PN{w:Nat}(hv:v<m+n)(W:w<m+n)(e:tE m n v=tE m n w):v=w:=by
 unfold tE at e;split at e<;>split at e<;>omega
def Og(hv:v<m+n):tE m n v<m+n:=by unfold tE;split<;>omega
def jO.uni(h:jO D m n Fn b c)(Z:∀j,j<D.q->full m n Fn b x (D.eR j)=0):∀v,v<n->x v=D.val v:=λv hv=>by
 have Y:=((h.Fi _ _).2 (Fh (c:=c) x)).1;have I:∀i,D.row (full m n Fn b x) i=0:=λi=>by
  unfold Dc.row;rw[cX (g:=λ_=>0) λj hj=>by rw[Z j hj,bF],dc]
 rw[<-sw (m:=m) (Fn:=Fn) (b:=b) (x:=x) hv];rcases h.ok.all v (by rw[h.em,h.eq];omega)with⟨i,R,e⟩|⟨j,hj,e⟩
 .rw[<-e,Y i R,I,D.vS h.ok R];grind
 .rw[<-e,Z j hj,D.vX h.ok hj]
def jO.Lx(h:jO D m n Fn b c)(hv:v<m+n):full m n Fn b D.val v=D.val v:=by
 have Y:=((h.Fi _ _).1 (D.vV h.ok)).1;rcases aW v n with g|g
 .exact sw g
 .obtain⟨i,rfl⟩:∃i,v=n+i:=⟨v-n,be⟩
  rw[zI];exact(Y i (show i<m by omega)).symm
def ee(D:Dc)(m n:Nat):List Nat:=(List.range (m+n)).filter λe=>decide (∃j,j<D.q/\tE m n (D.eR j)=e)
end
end Go.Ex
namespace Go.Ex
open Go Go.Sx Go.Proofs
variable{b:List (Int×Int)}{P:List (List (Int×Int))}{M:List (List Rat)}{ps:List Nat}{qs x xs ys:List Rat}{cs:List Value}{h:Nat}{S:Nat->Prop}{O:Nat->Sx.eD}{q:Rat}{u v:Value}{w:World}
def jk(w:World)(S:Nat->Prop)(rv:List Value)(FS:List (List Nat)):Prop:=rv.length=FS.length/\(∀u∈rv,u.oneCell'=true)/\∀(i:Nat) u r,rv[i]? =some u->FS[i]? =some r->dw w S u r
section
variable{S S':Nat->Prop}{H:Hp}{nx:Nat}{iv A:Iv}{B:Nat}{w J F:World}{O:Nat->Sx.eD}{rv:List Value}{FS:List (List Nat)}{v:Value}
def jk.cW(h:jk w S rv FS)(K:∀g,S g->F.heap[g]? =w.heap[g]?):jk F S rv FS:=⟨h.1,h.2.1,λi u x Y I=>dw.cW (h.2.2 i u x Y I) K⟩
def jk.cU(h:jk w S rv FS)(K:∀g,S g->S' g):jk w S' rv FS:=⟨h.1,h.2.1,λi u x Y I=>dw.cU (h.2.2 i u x Y I) K⟩
def jk.rel(h:jk w (Cv S B iv) rv FS)(r:Rel H nx iv B w O J)(G:∀g,S g->g<B):jk J (Cv S B iv) rv FS:=h.cW λ_ V=>rls r G V
def jk.cV(h:jk w (Cv S B iv) rv FS)(r:Rel H nx iv B w O J)(G:∀g,S g->g<B)(L:Ext J F)(hm:∀p,p∈iv->p∈A):jk F (Cv S B A) rv FS:=
 ((h.rel r G).cW λg V=>L.block g (rlo r G g V)).cU λ_ V=>V.mono hm
def jk.push{x:List Nat}(h:jk w S rv FS)(hu:u.oneCell'=true)(Z:dw w S u x):jk w S (rv++[u]) (FS++[x]):=by
 refine⟨by simp[h.1],λv hv=>?_,λi v y Y I=>?_⟩
 .rcases az.1 hv with hv|hv
  .exact h.2.1 v hv
  .simp at hv;subst hv;exact hu
 .rcases aW i rv.length with R|R
  .rw[aN R]at Y;rw[aN (by rw[<-h.1];exact R)]at I;exact h.2.2 i v y Y I
  .have Vh:i=rv.length:=by have:=(aH.1 Y).1;simp at this;omega
   subst Vh;rw[aP lr,bV]at Y;rw[h.1,aP lr,bV]at I;simp at Y I;subst Y I;exact Z
def dw.cell{a:Option Addr}{m c j p:Nat}(h:dw w S (.slice a m c) ps)(hj:ps[j]? =some p):∃ad,a=some ad/\S ad.block/\w.cell? (ad.add (j*1))=some (iV (p:Int)):=by
 obtain⟨h0,Y,I,a',c',e,h3,h4⟩:=h;injection e with e1 e2 e3;subst e1;obtain⟨ad,k1,k2,k3⟩:=h4 j (iV (p:Int)) (by rw[aS,hj];rfl);exact⟨ad,k1,k2,by rw[ah];exact k3⟩
def dw.form(h:dw w S v ps):∃a c,v= .slice a ps.length c/\ps.length<=c/\ps.length<=maxLen:=by
 obtain⟨h0,Y,I,a,c,e,h3,h4⟩:=h;exact⟨a,c,e,h3,h0⟩
end
abbrev qt:=dG dw
section
variable{S S':Nat->Prop}{iv A:Iv}{B:Nat}{w J F:World}{v:Value}{Do:List (List Nat)}
def qt.cW(h:qt w S v Do)(K:∀g,S g->F.heap[g]? =w.heap[g]?):qt F S v Do:=by
 obtain⟨rv,Y,I,h3⟩:=h;exact⟨rv,fT.cW Y K,I,λi u x k1 k2=>dw.cW (h3 i u x k1 k2) K⟩
def qt.cU(h:qt w S v Do)(K:∀g,S g->S' g):qt w S' v Do:=by
 obtain⟨rv,Y,I,h3⟩:=h;exact⟨rv,fT.cU Y K,I,λi u x k1 k2=>dw.cU (h3 i u x k1 k2) K⟩
end
def OF(k:Nat)(j:Nat):List (List Nat):=(List.range' k j).flatMap λlast=>(Br k last).map λl=>l++[last]
def Mf{k j:Nat}:OF k j++(Br k (k+j)).map (λl=>l++[k+j])=OF k (j+1):=by
 unfold OF;rw[List.range'_1_concat,List.flatMap_append];simp
def EV{α:Type}{β:Type}{f:α->List β}{B:Nat}:∀l:List α,(∀x∈l,(f x).length<=B)->(l.flatMap f).length<=l.length*B
 |[],_=>by simp
 |a::l,h=>by
  have Y:=EV l λx Z=>h x (aD _ Z);have I:=h a aF;rw[List.flatMap_cons,aU,bh,Nat.succ_mul];omega
def zP:∀k n,n<=20->(Br k n).length<=20^k
 |0,_,_=>by simp[Br]
 |k+1,n,E=>by
  rw[Br];refine aR (EV (B:=20^k) _ λx Z=>?_) ?_
  .rw[List.mem_range'_1]at Z;rw[aO];exact zP k x be
  .rw[List.length_range',Nat.pow_succ,bX];exact bC _ be
def JR{k j:Nat}(h:j<=20-k):(OF k j).length<=20*20^k:=by
 refine aR (EV (B:=20^k) _ λx Z=>?_) ?_
 .rw[List.mem_range'_1]at Z;rw[aO];exact zP k x be
 .rw[List.length_range'];exact Nat.mul_le_mul_right _ be
def GW(w:World)(n:Nat):eH PG Fd.jg #[iV (n:Int),iV ((0:Nat):Int)] w (eV w λv' F=>qt F (Nf w F) v' (Br 0 n)):=by
 have W:=bR w;have hF:=iS w.heap.size;refine oy ce ?_;intro GE we re;refine⟨_,rfl,W.tr re.cg,?_⟩;have Y:=re.jt (id:=1) (sz:=1) (n:=1) rfl rfl bv (by intro u hu;simp at hu;rcases hu with rfl;simp[At.den,Value.oneCell']);have l1:=re.low 1 _ rfl (re.fits (id:=1) rfl).1;have Wb:(GE 0).nil=false:=(re.fits (id:=0) rfl).1;refine⟨_,Y.cU λg V=>.inr (by rw[V];exact l1),rfl,λi u x k1 k2=>?_⟩;rcases i with _|i
 .injection k1 with k1;injection k2 with k2;subst k1 k2;exact⟨aZ _,rfl,ce,some ⟨(GE 0).g,0,none⟩,0,by simp[At.den],lr,λj u h=>by cases h⟩
 .cases k2
def GX{k:Nat}(ih:∀(n:Nat) (w:World),n<=20->eH PG Fd.jg #[iV (n:Int),iV (k:Int)] w (eV w λv' F=>qt F (Nf w F) v' (Br k n)))(w:World)(n:Nat)(E:n<=20)(K:k<=4):
  eH PG Fd.jg #[iV (n:Int),iV ((k+1:Nat):Int)] w (eV w λv' F=>qt F (Nf w F) v' (Br (k+1) n)):=by
 have W:=bR w;have hF:=iS w.heap.size;refine oy ce ?_;refine⟨((k:Nat):Int),wo,Nat×List Value×World×Iv,λz=>⟨[(0,.o (.v (iV (n:Int)))),(1,iN (k+1)),(5,.o (.w 0 (z.2.1).length)),(6,iN (k+z.1))],[(0,.vec T.Lint 1 (z.2.1))],1,z.2.2.2,z.2.2.1⟩,λz=>n-k-z.1,λz=>z.1<=n-k/\Bq w z.2.2.1/\jk z.2.2.1 (Cf w z.2.2.2) z.2.1 (OF k z.1),?_,?_⟩
 .intro O J r;exact⟨(0,[],J,[]),⟨aZ _,W.tr r.cg,by simp[jk,OF]⟩,Sub.nil 5 T.Lint 1 rfl (by simp[kN,SV.sc,At.sc,ff]) r λI9 r1=>sbgn [] r1⟩
 clear W;rintro⟨j,rv,w1,iv⟩ ⟨hj,W,hR⟩;dsimp only at hj W hR ⊢;apply bS<;>intro Pk
 .have Pk:k+j<n:=by have:=aK Pk;omega
  refine⟨((k:Nat):Int),wo,?_⟩;refine cS (cR (GT:=λ_ J v F=>qt F (Nf J F) v (Br k (k+j))) (λO J r=>ih (k+j) J be) ?_);rintro O wa v1 wb r L Pu hO;replace hO:=qt.cU (S':=Cf w ((wa.heap.size,wb.heap.size)::iv)) hO λg V=>V.ef r.cY aF;replace hR:=hR.cV (A:=(wa.heap.size,wb.heap.size)::iv) r hF L λp hp=>aD _ hp;replace W:=W.tr Pu;clear r L Pu;generalize (wa.heap.size,wb.heap.size)::iv=ivn at*
  have hLl:=zP k (k+j) be;have Zg:=JR (k:=k) (j:=j) be;have Ze:20^k<=160000:=aR (Nat.pow_le_pow_right bv K) bv;generalize 20^k=pw at hLl Zg Ze;obtain⟨Do,hL⟩:∃Do,Do=Br k (k+j):=⟨_,rfl⟩
  rw[<-hL]at hO hLl;obtain⟨al,cl,rfl,Qa,Um⟩:=dG.shape hO;have QI:=hR.1;refine⟨Nat×List Value×World×Iv,λz=>⟨[(0,.o (.v (iV (n:Int)))),(1,iN (k+1)),(5,.o (.w 0 (z.2.1).length)),(6,iN (k+j)),(7,sV al Do.length cl),(8,iN z.1)],[(0,.vec T.Lint 1 (z.2.1))],1,z.2.2.2,z.2.2.1⟩,λz=>Do.length-z.1,λz=>z.1<=Do.length/\Bq w z.2.2.1/\jk z.2.2.1 (Cf w z.2.2.2) z.2.1 (OF k j++(Do.take z.1).map λl=>l++[k+j])/\qt z.2.2.1 (Cf w z.2.2.2) (.slice al Do.length cl) Do,?_,?_⟩
  .intro O J r;exact⟨(0,rv,J,_),⟨aZ _,W.tr r.cg,by simpa using hR.rel r hF,qt.cW hO λg V=>rls r hF V⟩,sbgn [] r⟩
  clear W hR hO QI;rintro⟨i,rv,w1,iv⟩ ⟨R,W,hR,hO⟩;dsimp only at R W hR hO ⊢;have QI:=hR.1;rw[aU,aO,bI]at QI;apply bS<;>intro WM
  .have WM:=dL WM;obtain⟨li,UL⟩:=gO Do i;have Va:=((vZ k (k+j) li).1 (by rw[<-hL];exact aG UL)).1;obtain⟨adm,um,Tw,SW,km1,km2⟩:=dG.load hO UL;obtain⟨ai,ci,rfl,hci,hmi⟩:=dw.form SW;obtain⟨hq0,S8,Rr,ai',ci',hqe,XA,hq4⟩:=SW;injection hqe with e1 e2 e3;subst e1;subst e3;refine⟨adm,Tw,be,.slice ai li.length ci,λO J r=>?_,?_⟩
   .rw[aI,cZ (w:=w1) (F:=J) (by rw[da];exact rls r hF km1)];exact km2
   refine .inl ?_;refine⟨li.map λc:Nat=>iV (c:Int),S8,Rr,λO J r QV=>?_,?_⟩
   .obtain⟨u0,Vp⟩:∃u,(li.map λc:Nat=>iV (c:Int))[0]? =some u:=⟨_,aE (by rw[aO];omega)⟩
    obtain⟨ad,ha,_,_⟩:=hq4 0 u0 Vp;refine⟨ad,ha,λj u hj=>?_⟩;obtain⟨ad2,RL,q1,q2⟩:=hq4 j u hj;rw[ha]at RL;injection RL with RL;subst RL;rw[cZ (w:=w1) (F:=J) (by rw[da];exact rls r hF q1)];exact q2
   refine⟨ce,be,mx,?_⟩;refine .inl ?_;have Td:([]++li.map (λc:Nat=>iV (c:Int))).length=li.length:=by simp
   refine⟨be,be,mx,?_⟩;have ZE:([]++li.map (λc:Nat=>iV (c:Int)))++[iV (((k+j:Nat):Int))]=(li++[k+j]).map λc:Nat=>iV (c:Int):=by rw[bp];rfl
   refine HP hτ (id3:=5) (id2:=4) (tH:=[(0,.vec T.Lint 1 rv)]) rfl rfl rfl rfl ce (by first|exact⟨rfl,trivial⟩|exact⟨rfl,rfl,trivial⟩) rfl rfl (λO J r r2 Us=>?_);have Pm:dw J (Cf w (((O 5).g,(O 5).g+1)::tN (O 4) iv)) ((At.w 4 (0+li.length+1)).den O) (li++[k+j]):=by
    have h:=r.DR (T:=Cf w (((O 5).g,(O 5).g+1)::tN (O 4) iv)) (id:=4) (sz:=1) (m:=0+li.length+1) rfl (by rw[aU,Td,List.length_singleton];omega) mx bv (by rw[ZE];intro u hu;obtain⟨c,-,rfl⟩:=bA.1 hu;rfl) λE=>.inr ⟨(r.low 4 _ rfl E).1,_,_,aD _ (LP E),lr,cF _⟩;rw[ZE]at h;unfold dw;rw[show (li++[k+j]).length=0+li.length+1 by simp];exact h
   have Rx:((At.w 4 (0+li.length+1)).den O).oneCell'=true:=aAx;have hlo3:=r.low 5 _ rfl (r.fits (id:=5) rfl).1;have hC3:Cf w (((O 5).g,(O 5).g+1)::tN (O 4) iv) (O 5).g:=.inr ⟨hlo3.1,_,_,aF,lr,cF _⟩;have Ss:∀p,p∈iv->p∈((O 5).g,(O 5).g+1)::tN (O 4) iv:=λp hp=>aD _ (Ji p hp);have RK:=W.tr r.cg;have Ty:=(jk.cU (hR.rel r hF) λg V=>Cv.mono V Ss).push Rx Pm;have Sy:=qt.cU (qt.cW hO λg V=>rls r hF V) λg V=>Cv.mono V Ss;rw[show (OF k j++(Do.take i).map λl=>l++[k+j])++[li++[k+j]]=OF k j++(Do.take (i+1)).map λl=>l++[k+j] by rw[bH,UL];simp]at Ty;clear r2 hlo3 Pm;generalize (At.w 4 (0+li.length+1)).den O=ur at*
   generalize (O 5).g=gy at*
   generalize (gy,gy+1)::tN (O 4) iv=iv2 at*
   refine⟨[ur],rfl,by simpa using Rx,λG9 F r2 _=>⟨_,rfl,λj u hu=>?_⟩,?_⟩
   .have h5:=rls r2 (iS _) hC3;rw[dD,cell_of (h5.trans Us)];rcases j with _|j
    .exact hu
    .cases hu
   refine⟨ce,be,mx,((i+1:Nat):Int),wo,?_⟩;intro I8 w6 r3;exact⟨(i+1,rv++[ur],w6,_),⟨WM,RK.tr r3.cg,Ty.rel r3 hF,qt.cW Sy λg V=>rls r3 hF V⟩,sbgn [(0,6)] r3 (hE:=⟨rfl,rfl,by dsimp only;rw[l1];rfl,rfl,rfl,rfl,trivial⟩),dec WM⟩
  have WM:=dE R WM;rw[WM,bE,hL,Mf]at hR;rw[WM,Nat.min_self]at QI;refine⟨((k+(j+1):Nat):Int),wo,?_⟩;intro I8 w3 r3;exact⟨(j+1,rv,w3,_),⟨by dsimp only;omega,W.tr r3.cg,hR.rel r3 hF⟩,sbgn [] r3,by dsimp only;omega⟩
 have Pk:j=n-k:=by have:=aL Pk;omega
 rw[Pk]at hR;have Zg:=JR (k:=k) (j:=n-k) be;have Ze:20^k<=160000:=aR (Nat.pow_le_pow_right bv K) bv;have QI:=hR.1;intro GE we re;have Ty:=jk.cU (jk.rel hR re hF) λg V=>(Cv.nw V re:Nf w we g)
 refine⟨_,rfl,W.tr re.cg,rv,?_,Ty.1,Ty.2.2⟩;rw[show (Br (k+1) n).length=rv.length from QI.symm];exact re.DR (id:=0) (sz:=1) (m:=rv.length) rfl be mx bv Ty.2.1 λE=>.inr (re.low 0 _ rfl E)
def BV:∀(k:Nat),k<=5->∀(n:Nat) (w:World),n<=20->eH PG Fd.jg #[iV (n:Int),iV (k:Int)] w (eV w λv' F=>qt F (Nf w F) v' (Br k n))
 |0,_,n,w,_=>GW w n
 |k+1,K,n,w,E=>GX (BV k be) w n E be
def Mi{M:List (List (Int×Int))}{h0:Nat}(G:Old S w)(h:dQ w S v M)(hL:dZ w S v (dS M))(hu:dB w S u (b.map dC))(Qp:∀r∈M,r.length=dM M)(Pu:b.length=M.length)(hR:M.length<=1000)(E:dM M<=999)
  (TN:Ht (eI (dS M) (b.map dC)) h0) (I:2<=h0) (TJ:4^M.length*h0<=90000):
  eH PG Fd.rj #[v,u] w (eV w λv' F=>(∃j,(dF (eI (dS M) (b.map dC)) (dM M)).2.length<=j/\j<M.length/\dR (dF (eI (dS M) (b.map dC)) (dM M)).1 j (dM M)≠0/\v'= .tuple #[nls,.bool false])\/
   ((∀j,(dF (eI (dS M) (b.map dC)) (dM M)).2.length<=j->j<M.length->dR (dF (eI (dS M) (b.map dC)) (dM M)).1 j (dM M)=0)/\∃vx,v'= .tuple #[vx,.bool true]/\cd F (Nf w F) vx (gj (dF (eI (dS M) (b.map dC)) (dM M)).1 (dF (eI (dS M) (b.map dC)) (dM M)).2 (dM M) (dF (eI (dS M) (b.map dC)) (dM M)).2.length))):=by
 have W:=bR w;have ZE:(dS M).length=M.length:=by simp[dS]
 have hlen0:iP (dM M) (dS M):=λr hr=>by
  rw[dS]at hr;obtain⟨x,Z,rfl⟩:=bA.1 hr;rw[aO];exact Qp x Z
 have hlen:=uH (b:=b.map dC) hlen0;have Yp:(eI (dS M) (b.map dC)).length=M.length:=by rw[jA,ZE]
 replace h:=dQ.arg h [];replace hL:=dZ.arg hL [];replace hu:=dB.arg hu [];obtain⟨am,cm,rfl,Rw,Sv⟩:=dG.shape h;obtain⟨ab,cb,rfl,Qz,-⟩:=dK.shape hu;refine BB ce ?_;refine cS (cE W (pE (iV (dM M))) (λO J r=>qO (rlo r G) (dQ.rel h r G)) ?_);rintro O _ v1 _ Pt r L W h_ rfl;replace hL:=dZ.cV hL r G L (mC h_);replace hu:=dB.cV hu r G L (mC h_);refine cS (cR (GT:=λ_ J v F=>dZ F (Nw (Cv S w.heap.size Pt) J F) v (eI (dS M) (b.map dC))) (λO J r=>NJ (rlo r G) (dZ.rel hL r G) (dB.rel hu r G) (by rw[aO,ZE];exact Pu) (λr hr=>by rw[hlen0 r hr];omega) be) ?_);rintro O Qk v2 QP r L N E;replace W:=W.tr N;have hW:=dZ.old E r.cY;generalize (Qk.heap.size,QP.heap.size)::Pt=iv2 at*
 refine cS (cR (GT:=λ_ J v F=>∃vm vp,v= .tuple #[vm,vp]/\dZ F (Nw (Cv S w.heap.size iv2) J F) vm (dF (eI (dS M) (b.map dC)) (dM M)).1/\dw F (Nf J F) vp (dF (eI (dS M) (b.map dC)) (dM M)).2) (λO J r=>Bj (rlo r G) (dZ.rel hW r G) hlen be be be TN I (by rw[Yp];exact TJ)) ?_);rintro O Qh v3 Q7 r L N ⟨vm,vp,rfl,k1,k2⟩;replace W:=W.tr N;have hA:=dZ.old k1 r.cY;have hP:=dw.ef (S:=FF) k2 r.cY (iv:=(Qh.heap.size,Q7.heap.size)::iv2) aF;generalize (Qh.heap.size,Q7.heap.size)::iv2=Ps at*
 obtain⟨aA,cA,rfl,hcA,-⟩:=dG.shape hA;have hPs:=hP;obtain⟨-,-,-,ap,cp,rfl,hcp,-⟩:=hPs;obtain⟨UU,QL,Th,hAh⟩:=lM (cols:=dM M) TN I;have hAlen:=xq (cols:=dM M) hlen;have ZJ:=Nat.mul_le_mul_right h0 (Nat.pow_le_pow_right (show 0<4 by decide) QL);rw[Yp]at UU QL ZJ;generalize (dF (eI (dS M) (b.map dC)) (dM M)).1=Fn at*
 generalize (dF (eI (dS M) (b.map dC)) (dM M)).2=pv at*
 generalize dM M=cols at*
 rw[<-UU]at hR QL TJ ⊢
 refine⟨cols,cols,rfl,rfl,lr,be,be,Nat×List (List Value)×World×Iv,λz=>⟨[(6,iZ cols),(7,sV aA Fn.length cA),(8,sV ap pv.length cp),(9,.o (.s 0 0 cols cols)),(10,iN z.1)],[(0,.arr T.Rat z.2.1.flatten)],1,z.2.2.2,z.2.2.1⟩,λz=>cols-z.1,
  λz=>z.1<=cols/\z.2.1.length=cols/\(∀x∈z.2.1,x.length=4)/\Bq w z.2.2.1/\dZ z.2.2.1 (Cv S w.heap.size z.2.2.2) (.slice aA Fn.length cA) Fn/\dw z.2.2.1 (Cf w z.2.2.2) (.slice ap pv.length cp) pv/\
   lF z.2.2.1 (Cf w z.2.2.2) z.2.1 z.1,?_,?_⟩
 .intro O J r
  exact⟨(0,List.replicate cols [.bool false,nls,.bool false,nls],J,Ps),⟨aZ _,ce,λx Z=>by rw[bK Z];rfl,W.tr r.cg,dZ.rel hA r G,dw.rel hP r oF,λj cs hj=>by dsimp only at hj;omega⟩,
   sbgn [] r⟩
 rintro⟨k,U,F,iv⟩ ⟨K,Qa,Vb,W,hA,hP,hz⟩;dsimp only at K Qa Vb W hA hP hz ⊢;apply bS<;>intro R1
 .have R1:=dL R1;refine cS (cE W (pR dH (0)) (λO J r=>(show ((0:Int):Rat)=0 from rfl)▸lX 0 J bv bv) ?_);rintro O _ _ _ QA r L W h_ E;replace hA:=dZ.cV hA r G L (mC h_);replace hP:=dw.cV hP r oF L (mC h_);replace hz:=hz.cV r oF L (mC h_);have h_0:=E.cU (nw r h_);obtain⟨A0,A1,A2,A3,A4,A5,A6,A7,rfl⟩:=h_0.shape;refine⟨be,?_⟩;have Qj:=fJ Vb;refine⟨by rw[aI,Qj];omega,(U.set k (rC A0 A1 A2 A3 A4 A5 A6 A7)).flatten,by rw[aI,aV];exact kX (U:=U) (j:=k) Vb be,((k+1:Nat):Int),wo,?_⟩;intro I8 w3 r3
  exact⟨(k+1,U.set k (rC A0 A1 A2 A3 A4 A5 A6 A7),w3,_),⟨R1,by simp[Qa],NH Vb rfl,W.tr r3.cg,dZ.rel hA r3 G,dw.rel hP r3 oF,(hz.rel r3 oF).push (h_0.rel r3 oF).pG⟩,
   sbgn [] r3,by dsimp only;omega⟩
 have R1:=dE K R1;subst R1;have hFc:Fc F (Cf w iv) U (gj Fn pv k 0):=by
  refine⟨by rw[Qa,je],λj cs q Y I=>?_⟩;have hj:=(aH.1 Y).1;simp only[gj,List.range_zero,List.foldl_nil,List.getElem?_replicate]at I;split at I
  .injection I with I;rw[<-I];exact hz j cs be Y
  .cases I
 refine⟨Nat×Nat×World×Iv,λz=>⟨[(9,.o (.v (.slice (some ⟨z.2.1,0,none⟩) k k))),(6,iZ k),(7,sV aA Fn.length cA),(8,sV ap pv.length cp),(11,iN z.1)],[],1,z.2.2.2,z.2.2.1⟩,λz=>Fn.length-z.1,
  λz=>z.1<=Fn.length/\(∀j,pv.length<=j->j<z.1->dR Fn j k=0)/\Bq w z.2.2.1/\(∀p,p∈iv->p∈z.2.2.2)/\¬Cv S w.heap.size iv z.2.1/\w.heap.size<=z.2.1/\dZ z.2.2.1 (Cv S w.heap.size iv) (.slice aA Fn.length cA) Fn/\dw z.2.2.1 (Cf w iv) (.slice ap pv.length cp) pv/\
   fw z.2.2.1 FF w.heap.size z.2.2.2 (.slice (some ⟨z.2.1,0,none⟩) k k) k (gj Fn pv k (min z.1 pv.length)),?_,?_⟩
 .intro O J r
  exact⟨(0,(O 0).g,J,((O 0).g,(O 0).g+1)::iv),⟨aZ _,λj h3 h4=>by dsimp only at h4;omega,W.tr r.cg,λp hp=>List.mem_cons_of_mem _ hp,λV=>Rel.not r G V 0 _ rfl (r.fits (id:=0) rfl).1 rfl,(r.low 0 _ rfl (r.fits (id:=0) rfl).1).1,dZ.rel hA r G,dw.rel hP r oF,by dsimp only;rw[Nat.zero_min];exact fw.Bk r (id:=0) rfl Qa mx hFc⟩,
   Sub.Bk r (id:=0) (t:=9) rfl rfl trivial rfl ⟨rfl,rfl,rfl,rfl,trivial⟩ (by simp[kN,SV.sc,At.sc])⟩
 rintro⟨i,gx,w5,QE⟩ ⟨R,hzr,W,Pn,TO,Yf,hA,hP,hX⟩;dsimp only at R hzr W Pn TO Yf hA hP hX ⊢;apply bS<;>intro Qo
 .have Qo:=dL Qo;obtain⟨ra,Sd⟩:=gO Fn i;have Tq:=hAlen ra (aG Sd);obtain⟨adm,um,Tw,SW,km1,km2⟩:=dG.load hA Sd;obtain⟨au,cu,rfl,hcu,-⟩:=dK.shape SW;obtain⟨q,hq⟩:=gO ra k;have Qw:dR Fn i k=q:=by simp[dR,List.getD,Sd,hq]
  obtain⟨adq,cs,haq,hF,_,hl⟩:=dK.load SW hq;obtain⟨b3,a3,n3,c3,b4,a4,n4,c4,rfl,hF⟩:=hF;have Vc:∀{H nx O J},Rel H nx QE w.heap.size w5 O J->∀{g},Cv S w.heap.size iv g->J.heap[g]? =w5.heap[g]? :=λr g V=>rls r G (V.mono Pn);apply bS<;>intro hp0
  .have hp0:=dL hp0;obtain⟨p,S6⟩:=gO pv i;have hpd:pv.getD i 0=p:=by simp[List.getD,S6]
   have VQ:=Th p (aG S6);have hPs:=hP;obtain⟨_,_,_,_,_,XW,_,Sf⟩:=hPs;injection XW with Vt ZL Vu;subst Vt Vu;obtain⟨adp,Sh,kp1,kp2⟩:=Sf i (iV (p:Int)) (by rw[aS,S6];rfl);rw[Nat.min_eq_left be]at hX;refine dP (idO 15) ?_;refine⟨adp,Sh,be,iV (p:Int),λO J r=>?_,?_⟩
   .rw[aI,ah,cZ (w:=w5) (F:=J) (by rw[da];exact Vc r (qL kp1))];exact kp2
   refine⟨adm,Tw,be,.slice au ra.length cu,λO J r=>?_,?_⟩
   .rw[aI,cZ (w:=w5) (F:=J) (by rw[da];exact Vc r km1)];exact km2
   refine⟨adq,haq,be,rC b3 a3 n3 c3 b4 a4 n4 c4,rfl,λO J r j u hu=>?_,?_⟩
   .obtain⟨k1,k2⟩:=hl j u hu;rw[aI,cZ (w:=w5) (F:=J) (by rw[da,da];exact Vc r k1)];exact k2
   refine cR (GT:=λ_ J v F=>dH F (Nf J F) v q) (λO J r=>gI (λg V=>rlo r G g (V.mono Pn)) (hF.cW λg V=>Vc r V)) ?_;rintro O wa v1 wb r L N hO;have Qb:dH wb (λg=>Cf w ((wa.heap.size,wb.heap.size)::QE) g/\(Value.slice (some ⟨gx,0,none⟩) k k).ownBlock≠some g) v1 q:=hO.cU λg V=>by
    rcases V with V|V
    .exact V.elim
    .have hB:=r.cY;have:=rlo r G gx (qL (hX.new gx rfl));refine⟨.inr ⟨be,_,_,aF,V.1,V.2⟩,λe=>?_⟩;have e2:gx=_:=Option.some.inj e;omega
   replace hX:=hX.cV (A:=(wa.heap.size,wb.heap.size)::QE) r oF L λx Z=>aD _ Z;have RV:∀g,Cv S w.heap.size iv g->wb.heap[g]? =w5.heap[g]? :=λg V=>by rw[L.block g (rlo r G g (V.mono Pn)),rls r G (V.mono Pn)]
   replace hA:=dZ.cW hA RV;replace hP:=fT.cW hP λg V=>RV g (qL V);replace W:=W.tr N;replace Pn:∀p,p∈iv->p∈(wa.heap.size,wb.heap.size)::QE:=λp hp=>aD _ (Pn p hp);generalize (wa.heap.size,wb.heap.size)::QE=Q8 at*
   obtain⟨b1,a1,n1,c1,b2,a2,n2,c2,rfl⟩:=Qb.shape;refine⟨⟨gx,0,none⟩,rfl,be,?_⟩;intro O J r;obtain⟨_,QT,Y,h2',h3,h4,h5⟩:=(hX.rel r oF).store VQ (dH.cW Qb λg V=>rls r oF V.1) r oF;injection QT with QT;injection QT with QT;subst QT;have RV:∀g,Cv S w.heap.size iv g->J.heap[g]? =wb.heap[g]? :=λg V=>rls r G (V.mono Pn);replace W:=W.tr r.cg;have hold:∀g,Cv S w.heap.size Q8 g->g<J.heap.size:=rlo r G;refine⟨Y,h2',h3,λF RK=>?_⟩;obtain⟨hX,QR,-⟩:=h5 F RK;have hkp2:∀g,Cv S w.heap.size iv g->F.heap[g]? =wb.heap[g]? :=λg V=>by
    rw[<-RV g V];exact QR.block g (hold g (V.mono Pn)) λe=>by injection e with e;subst e;exact TO V
   replace hA:=dZ.cW hA hkp2;replace hP:=fT.cW hP λg V=>hkp2 g (qL V);replace W:Bq w F:=W.tr (Bel.grown QR (λg V=>by injection V with V;subst V;exact Yf) (by have:=W.size;omega));rw[<-Qw,<-hpd,<-jz]at hX;refine inc i ?_;intro I8 w3 r3;have RV:∀g,Cv S w.heap.size iv g->w3.heap[g]? =F.heap[g]? :=λg V=>rls r3 G (V.mono Pn)
   exact⟨(i+1,gx,w3,Q8),⟨Qo,λj h3 h4=>by dsimp only at h4;omega,W.tr r3.cg,Pn,TO,Yf,dZ.cW hA RV,fT.cW hP λg V=>RV g (qL V),by dsimp only;rw[Nat.min_eq_left be];exact hX.rel r3 oF⟩,
    sbgn [] r3,by dsimp only;omega⟩
  have hp0:pv.length<=i:=by have:=aL hp0;omega
  refine⟨adm,Tw,be,.slice au ra.length cu,λO J r=>?_,?_⟩
  .rw[aI,cZ (w:=w5) (F:=J) (by rw[da];exact Vc r km1)];exact km2
  refine⟨adq,haq,be,rC b3 a3 n3 c3 b4 a4 n4 c4,rfl,λO J r j u hu=>?_,?_⟩
  .obtain⟨k1,k2⟩:=hl j u hu;rw[aI,cZ (w:=w5) (F:=J) (by rw[da,da];exact Vc r k1)];exact k2
  refine cS (cR (GT:=λ_ J v F=>v=iV (rs q)) (λO J r=>jv (λg V=>rlo r G g (V.mono Pn)) (hF.cW λg V=>Vc r V)) ?_);rintro O wa v1 wb r L N rfl;replace hX:=hX.cV (A:=(wa.heap.size,wb.heap.size)::QE) r oF L λx Z=>aD _ Z;have RV:∀g,Cv S w.heap.size iv g->wb.heap[g]? =w5.heap[g]? :=λg V=>by rw[L.block g (rlo r G g (V.mono Pn)),rls r G (V.mono Pn)]
  replace hA:=dZ.cW hA RV;replace hP:=fT.cW hP λg V=>RV g (qL V);replace W:=W.tr N;replace Pn:∀p,p∈iv->p∈(wa.heap.size,wb.heap.size)::QE:=λp hp=>aD _ (Pn p hp);generalize (wa.heap.size,wb.heap.size)::QE=Q8 at*
  apply bS<;>intro hs
  .have hs:q≠0:=λe=>by rw[kZ.2 e]at hs;exact absurd hs bv
   exact rtn W λGE we re=>.inl ⟨i,hp0,Qo,by rw[Qw];exact hs,rfl⟩
  have hs:q=0:=kZ.1 (by simpa using hs);refine inc i ?_;intro I8 w3 r3;have RV:∀g,Cv S w.heap.size iv g->w3.heap[g]? =wb.heap[g]? :=λg V=>rls r3 G (V.mono Pn)
  exact⟨(i+1,gx,w3,Q8),⟨Qo,λj h3 h4=>by
    by_cases hj:j=i
    .rw[hj,Qw,hs]
    .exact hzr j h3 (by dsimp only at h4;omega),W.tr r3.cg,Pn,TO,Yf,dZ.cW hA RV,fT.cW hP λg V=>RV g (qL V),by dsimp only;rw[Nat.min_eq_right be,<-Nat.min_eq_right hp0];exact hX.rel r3 oF⟩,
   sbgn [] r3,by dsimp only;omega⟩
 have Qo:=dE R Qo;subst Qo;rw[Nat.min_eq_right QL]at hX;intro GE we re;refine⟨_,rfl,W.tr re.cg,.inr ⟨hzr,_,rfl,?_⟩⟩;exact cd.out hX.aAD re oF
def s0(G:Old S w)(Z:dB w S v xs)(hy:dB w S u ys)(hl:xs.length=ys.length)(Vd:∀q∈xs,rl q+1<=h)(VS:∀q∈ys,rl q+1<=h)(I:2<=h)(N:2*h*xs.length<=90000):
  eH PG Fd.DF #[v,u] w (eV w λv' F=>dH F (Nf w F) v' (eG xs ys xs.length)):=by
 have W:=bR w;obtain⟨ax,cx,rfl,Wi,Ue⟩:=Z.shape;obtain⟨ay,cy,rfl,Yc,-⟩:=hy.shape;unfold maxLen at Ue;refine EC ce ?_;refine cS (cE W (pR dH (((0:Int):Rat))) (λO J r=>lX 0 J bv bv) ?_);rintro O _ _ _ Pt r L W h_ E;have hd:=E.cU (nw r h_);obtain⟨A0,A1,A2,A3,A4,A5,A6,A7,rfl⟩:=hd.shape;rw[show ((0:Int):Rat)=eG xs ys 0 from rfl]at hd
 refine⟨Nat×(Bool×Bool)×(Option Addr×Option Addr)×(Nat×Nat×Nat×Nat)×World×Iv,λz=>⟨[(0,sV ax xs.length cx),(1,sV ay ys.length cy),(4,pP 0 0),(5,pP 1 0),(6,iN z.1)],[(1,.box T.Rat [.v (.bool z.2.1.1),.v (.slice z.2.2.1.1 z.2.2.2.1.1 z.2.2.2.1.2.1),.v (.bool z.2.1.2),.v (.slice z.2.2.1.2 z.2.2.2.1.2.2.1 z.2.2.2.1.2.2.2)]),(0,.box T.Rat [.v (.bool false),.v nls,.v (.bool false),.v nls])],2,z.2.2.2.2.2,z.2.2.2.2.1⟩,λz=>xs.length-z.1,
  λz=>z.1<=xs.length/\Bq w z.2.2.2.2.1/\dH z.2.2.2.2.1 (Cf w z.2.2.2.2.2) (.agg #[.bool z.2.1.1,.slice z.2.2.1.1 z.2.2.2.1.1 z.2.2.2.1.2.1,.bool z.2.1.2,.slice z.2.2.1.2 z.2.2.2.1.2.2.1 z.2.2.2.1.2.2.2]) (eG xs ys z.1),?_,?_⟩
 .intro O J r;exact⟨(0,(A0,A4),(A1,A5),(A2,A3,A6,A7),J,Pt),⟨ce,W.tr r.cg,hd.rel r oF⟩,sbgn [] r⟩
 rintro⟨i,⟨p0,p4⟩,⟨p1,p5⟩,⟨p2,p3,p6,p7⟩,w1,iv⟩ ⟨R,W,hd⟩;dsimp only at R W hd ⊢;apply bS<;>intro Pk
 .have Pk:=dL Pk;have hs:=iA Vd VS I i;have TC:2*h*i<=2*h*xs.length:=bC _ R;have hs3:2*h*1<=2*h*xs.length:=bC _ be;obtain⟨x,QY⟩:=gO xs i;obtain⟨y,R5⟩:=gO ys i;have Wr:=Vd x (aG QY);have hy3:=VS y (aG R5);have Q5:xs.getD i 0=x:=by rw[List.getD,QY];rfl
  have RH:ys.getD i 0=y:=by rw[List.getD,R5];rfl
  have hm:=j7 x y;obtain⟨adx,csx,WK,SD,-,RA⟩:=dK.load Z QY;obtain⟨ady,csy,Ux,SO,-,RZ⟩:=dK.load hy R5;obtain⟨f0,f1,f2,f3,f4,f5,f6,f7,rfl,SD⟩:=SD;obtain⟨q0,q1,q2,q3,q4,q5,q6,q7,rfl,SO⟩:=SO;refine dP (idO 12) ?_;refine⟨adx,WK,be,rC f0 f1 f2 f3 f4 f5 f6 f7,rfl,rdO RA W G,ady,Ux,be,rC q0 q1 q2 q3 q4 q5 q6 q7,rfl,rdO RZ W G,?_⟩;refine cE W (pR dH (x*y)) (λO J r=>Ef (oS G r) (SD.cW (kS W r G)) (SO.cW (kS W r G))) ?_;rintro O _ _ _ iv2 r L W h_ E;replace hd:=hd.cV r oF L (mC h_);have hp:=E.cU (nw r h_);obtain⟨C0,C1,C2,C3,C4,C5,C6,C7,rfl⟩:=hp.shape;refine cE W (pR dH (eG xs ys i+x*y)) (λO J r=>Ee (rlo r oF) ((hd.rel r oF).l be) ((hp.rel r oF).l be)) ?_;rintro O _ _ _ Ps r L W h_ E;have RS:=E.cU (nw r h_);obtain⟨E0,E1,E2,E3,E4,E5,E6,E7,rfl⟩:=RS.shape;rw[show eG xs ys i+x*y=eG xs ys (i+1) by rw[eG,Q5,RH]]at RS;refine inc i ?_;intro I8 w3 r3;exact⟨(i+1,(E0,E4),(E1,E5),(E2,E3,E6,E7),w3,_),⟨Pk,W.tr r3.cg,RS.rel r3 oF⟩,sbgn [] r3,dec Pk⟩
 have Pk:=dE R Pk;subst Pk;exact rtn W λGE we re=>hd.out re oF
section
variable{S:Nat->Prop}{H:Hp}{nx:Nat}{iv A:Iv}{B:Nat}{w J F:World}{O:Nat->Sx.eD}{U:List (List Value)}{qs:List Rat}
def Fc.rel(h:Fc w (Cv S B iv) U qs)(r:Rel H nx iv B w O J)(G:∀g,S g->g<B):Fc J (Cv S B iv) U qs:=h.cW λ_ V=>rls r G V
def Fc.cV(h:Fc w (Cv S B iv) U qs)(r:Rel H nx iv B w O J)(G:∀g,S g->g<B)(L:Ext J F)(hm:∀p,p∈iv->p∈A):Fc F (Cv S B A) U qs:=
 ((h.rel r G).cW λg V=>L.block g (rlo r G g V)).cU λ_ V=>V.mono hm
def Fc.push(h:Fc w S U qs)(hc:jV w S cs q):Fc w S (U++[cs]) (qs++[q]):=by
 refine⟨by simp[h.1],λj x p Y I=>?_⟩;rcases aW j U.length with R|R
 .rw[aN R]at Y;rw[aN (by rw[<-h.1];exact R)]at I;exact h.2 j x p Y I
 .have Vh:j=U.length:=by have:=(aH.1 Y).1;simp at this;omega
  subst Vh;rw[aP lr,bV]at Y;rw[h.1,aP lr,bV]at I;simp at Y I;subst Y I;exact hc
end
def DW{n:Nat}(G:Old S w)(hy:dB w S v ys)(hM:dZ w S u M)(VU:ys.length=M.length)(Pm:∀r∈M,r.length=n)(E:n<=1000000)
  (VS:∀q∈ys,rl q+1<=h) (Sn:Ht M h) (I:2<=h) (N:2*h*M.length<=90000):
  eH PG Fd.vl #[v,u,iV n] w (eV w λv' F=>cd F (Nf w F) v' (eO ys M n M.length)):=by
 have W:=bR w;obtain⟨ay,cy,rfl,Yc,hmy⟩:=dK.shape hy;obtain⟨am,cm,rfl,Rw,-⟩:=dG.shape hM;unfold maxLen at hmy;refine ye ce ?_
 refine⟨Nat×List (List Value)×World×Iv,λz=>⟨[(0,sV ay ys.length cy),(1,sV am M.length cm),(2,iZ n),(7,.o (.w 0 z.2.1.length)),(8,iN z.1)],[(0,.vec T.Rat 4 z.2.1.flatten)],1,z.2.2.2,z.2.2.1⟩,λz=>n-z.1,
  λz=>z.1<=n/\Bq w z.2.2.1/\Fc z.2.2.1 (Cf w z.2.2.2) z.2.1 ((eO ys M n M.length).take z.1),?_,?_⟩
 .intro O J r
  exact⟨(0,[],J,[]),⟨aZ _,W.tr r.cg,by simp[Fc]⟩,Sub.nil 7 T.Rat 4 rfl (by simp[kN,SV.sc,At.sc,ff]) r λI9 r1=>
   sbgn [] r1⟩
 clear W;rintro⟨k,U,w1,iv⟩ ⟨K,W,hC⟩;dsimp only at K W hC ⊢;have Qa:U.length=k:=by rw[hC.1,bI,fU];omega
 have Qj:=fJ hC.oP;apply bS<;>intro R1
 .have R1:=dL R1;refine cS (cE W (pR dH (((0:Int):Rat))) (λO J r=>lX 0 J bv bv) ?_);rintro O _ _ _ Pt r L W h_ E;replace hC:=hC.cV r oF L (mC h_);have hd:=E.cU (nw r h_);clear r E;obtain⟨A0,A1,A2,A3,A4,A5,A6,A7,rfl⟩:=hd.shape;rw[show ((0:Int):Rat)=eG ys (nI M k) 0 from rfl]at hd
  refine⟨Nat×(Bool×Bool)×(Option Addr×Option Addr)×(Nat×Nat×Nat×Nat)×World×Iv,λz=>⟨[(0,sV ay ys.length cy),(1,sV am M.length cm),(2,iZ n),(7,.o (.w 0 U.length)),(8,iN k),(9,pP 1 0),(10,iN z.1)],[(1,.box T.Rat [.v (.bool z.2.1.1),.v (.slice z.2.2.1.1 z.2.2.2.1.1 z.2.2.2.1.2.1),.v (.bool z.2.1.2),.v (.slice z.2.2.1.2 z.2.2.2.1.2.2.1 z.2.2.2.1.2.2.2)]),(0,.vec T.Rat 4 U.flatten)],2,z.2.2.2.2.2,z.2.2.2.2.1⟩,λz=>M.length-z.1,
   λz=>z.1<=M.length/\Bq w z.2.2.2.2.1/\Fc z.2.2.2.2.1 (Cf w z.2.2.2.2.2) U ((eO ys M n M.length).take k)/\dH z.2.2.2.2.1 (Cf w z.2.2.2.2.2) (.agg #[.bool z.2.1.1,.slice z.2.2.1.1 z.2.2.2.1.1 z.2.2.2.1.2.1,.bool z.2.1.2,.slice z.2.2.1.2 z.2.2.2.1.2.2.1 z.2.2.2.1.2.2.2]) (eG ys (nI M k) z.1),?_,?_⟩
  .intro O J r;exact⟨(0,(A0,A4),(A1,A5),(A2,A3,A6,A7),J,Pt),⟨ce,W.tr r.cg,hC.rel r oF,hd.rel r oF⟩,sbgn [] r⟩
  clear W hd hC;rintro⟨i,⟨p0,p4⟩,⟨p1,p5⟩,⟨p2,p3,p6,p7⟩,w1,iv⟩ ⟨R,W,hC,hd⟩;dsimp only at R W hC hd ⊢;apply bS<;>intro Pk
  .have Pk:=dL Pk;have hs:=iA VS (Gs Sn I k) I i;have TC:2*h*i<=2*h*M.length:=bC _ R;have hs3:2*h*1<=2*h*M.length:=bC _ be;obtain⟨x,QY⟩:=gO ys i;obtain⟨ra,Sd⟩:=gO M i;have Tq:=Pm ra (aG Sd);obtain⟨y,hyk⟩:=gO ra k;have Wr:=VS x (aG QY);have hy3:=Sn.at Sd y (aG hyk);have Q5:ys.getD i 0=x:=by rw[List.getD,QY];rfl
   have RH:(nI M k).getD i 0=y:=by simp[nI,List.getD,Sd,hyk]
   have hm:=j7 x y;obtain⟨adx,csx,WK,SD,-,RA⟩:=dK.load hy QY;obtain⟨f0,f1,f2,f3,f4,f5,f6,f7,rfl,SD⟩:=SD;obtain⟨adm,um,Tw,SW,km1,km2⟩:=dG.load hM Sd;obtain⟨au,cu,rfl,hcu,-⟩:=dK.shape SW;obtain⟨ady,csy,Ux,SO,-,RZ⟩:=dK.load SW hyk;obtain⟨q0,q1,q2,q3,q4,q5,q6,q7,rfl,SO⟩:=SO;refine dP (idO 15) ?_;refine⟨adx,WK,be,rC f0 f1 f2 f3 f4 f5 f6 f7,rfl,rdO RA W G,adm,Tw,be,.slice au ra.length cu,rd1 km2 W (G _ km1),ady,Ux,be,rC q0 q1 q2 q3 q4 q5 q6 q7,rfl,rdO RZ W G,?_⟩;refine cE W (pR dH (x*y)) (λO J r=>Ef (oS G r) (SD.cW (kS W r G)) (SO.cW (kS W r G))) ?_;rintro O _ _ _ iv2 r L W h_ E;replace hd:=hd.cV r oF L (mC h_);replace hC:=hC.cV r oF L (mC h_);have hp:=E.cU (nw r h_);clear r E;obtain⟨C0,C1,C2,C3,C4,C5,C6,C7,rfl⟩:=hp.shape;refine cE W (pR dH (eG ys (nI M k) i+x*y)) (λO J r=>Ee (rlo r oF) ((hd.rel r oF).l be) ((hp.rel r oF).l be)) ?_;rintro O _ _ _ Ps r L W h_ E;clear hd;replace hC:=hC.cV r oF L (mC h_);clear hp;have RS:=E.cU (nw r h_);clear r E;obtain⟨E0,E1,E2,E3,E4,E5,E6,E7,rfl⟩:=RS.shape;rw[show eG ys (nI M k) i+x*y=eG ys (nI M k) (i+1) by rw[eG,Q5,RH]]at RS;refine inc i ?_;intro I8 w3 r3;exact⟨(i+1,(E0,E4),(E1,E5),(E2,E3,E6,E7),w3,_),⟨Pk,W.tr r3.cg,hC.rel r3 oF,RS.rel r3 oF⟩,sbgn [] r3,dec Pk⟩
  have Pk:=dE R Pk;subst Pk;have YW:Fc w1 (Cf w iv) (U++[rC p0 p1 p2 p3 p4 p5 p6 p7]) ((eO ys M n M.length).take (k+1)):=by
   have e:(eO ys M n M.length)[k]? =some (eG ys (nI M k) M.length):=by simp[eO,R1]
   rw[bH,e];exact hC.push hd.pG
  have Qm:U.flatten++(rC p0 p1 p2 p3 p4 p5 p6 p7:List Value)=(U++([rC p0 p1 p2 p3 p4 p5 p6 p7]:List (List Value))).flatten:=by simp
  clear hC hd;refine .inl ?_;refine⟨be,be,mx,((k+1:Nat):Int),wo,?_⟩;intro I8 w3 r3;exact⟨(k+1,U++[rC p0 p1 p2 p3 p4 p5 p6 p7],w3,_),⟨R1,W.tr r3.cg,YW.rel r3 oF⟩,sbgn [(0,3)] r3 ⟨by dsimp only;rw[<-Qm];rfl,trivial⟩ ⟨rfl,rfl,rfl,by dsimp only;rw[l1];rfl,rfl,trivial⟩,dec R1⟩
 have R1:=dE K R1;subst R1;intro GE we re;refine⟨_,rfl,W.tr re.cg,?_⟩;rw[bU (by rw[fU];omega)]at hC;have h5:=re.ka (id:=0) (sz:=4) (m:=U.length) rfl Qj mx bv hC.one;have h6:=hC.rel re oF;refine⟨U,?_,h6.1,h6.oP,λj cs q k1 k2=>(h6.2 j cs q k1 k2).cU λ_ V=>Cv.nw V re⟩;rw[<-hC.1];exact h5.cU λg V=>.inr V
def qI(w:World)(S:Nat->Prop)(v:Value)(b:List (Int×Int)):Prop:=dB w S v (b.map dC)/\(∀q∈b.map dC,rl q<=3)/\ue b
def qI.cW{F:World}(h:qI w S v b)(K:∀g,S g->F.heap[g]? =w.heap[g]?):qI F S v b:=⟨dB.cW h.1 K,h.2⟩
section
variable{S S':Nat->Prop}{H:Hp}{nx:Nat}{iv A:Iv}{B:Nat}{w J F:World}{O:Nat->Sx.eD}{v:Value}{b:List (Int×Int)}
end
def nJ(qs:List Rat):List (Int×Int):=qs.map λq=>(q.num,(q.den:Int))
theorem x7(qs:List Rat):(nJ qs).length=qs.length:=aO ..
def kJ(qs:List Rat):(nJ qs).map dC=qs:=by
 unfold nJ;rw[List.map_map];exact(List.map_congr_left λq _=>nK q).trans (List.map_id qs)
def cd.nJ(h:cd w S v qs):dJ w S v (nJ qs):=by
 obtain⟨U,Y,I,h3,h4⟩:=h;refine⟨U,by unfold Go.Ex.nJ;rw[aO];exact Y,by unfold Go.Ex.nJ;rw[aO];exact I,h3,λj cs x k1 k2=>?_⟩;unfold Go.Ex.nJ at k2;rw[aS]at k2;obtain⟨q,hq,rfl⟩:=Option.map_eq_some_iff.1 k2;obtain⟨b,a,n,c,b2,a2,n2,c2,rfl,hr⟩:=h4 j cs q k1 hq;exact hr.four
def x8(h:∀q∈qs,rl q<=10000000000):ue (nJ qs):=λx Z=>by
 obtain⟨q,hq,rfl⟩:=bA.1 Z;exact⟨aR (fg q) (h q hq),aR (fD q) (h q hq)⟩
section
variable{S:Nat->Prop}{w:World}{v u:Value}{M:List (List (Int×Int))}{b:List (Int×Int)}
def me(M:List (List (Int×Int))):(dS M).length=M.length:=by simp[dS]
end
theorem lG(M:List (List Rat))(x:List Rat):(iY M x).length=M.length:=aO ..
def Ky{n:Nat}(hM:Ht M h)(Z:∀q∈x,rl q+1<=h)(I:2<=h)(E:∀r∈M,r.length<=n):∀q∈iY M x,rl q<=2*h*n+2:=λq hq=>by
 obtain⟨r,hr,rfl⟩:=bA.1 hq;have h3:=iA (hM r hr) Z I r.length;have:=bC (2*h) (E r hr);omega
def NK(G:Old S w)(hM:dZ w S v M)(Z:dB w S u x)(Pm:∀r∈M,r.length=x.length)(Sn:Ht M h)(Vd:∀q∈x,rl q+1<=h)(I:2<=h)(N:2*h*x.length<=90000)(hR:M.length<=1000000):
  eH PG Fd.yB #[v,u] w (eV w λv' F=>cd F (Nf w F) v' (iY M x)):=by
 have W:=bR w;obtain⟨am,cm,rfl,Rw,Sv⟩:=dG.shape hM;obtain⟨ax,cx,rfl,Wi,-⟩:=dK.shape Z;unfold maxLen at Sv;refine Ar ce ?_
 refine⟨Nat×List (List Value)×World×Iv,λz=>⟨[(0,sV am M.length cm),(1,sV ax x.length cx),(5,.o (.w 0 z.2.1.length)),(6,iN z.1)],[(0,.vec T.Rat 4 z.2.1.flatten)],1,z.2.2.2,z.2.2.1⟩,λz=>M.length-z.1,
  λz=>z.1<=M.length/\Bq w z.2.2.1/\Fc z.2.2.1 (Cf w z.2.2.2) z.2.1 ((iY M x).take z.1),?_,?_⟩
 .intro O J r
  exact⟨(0,[],J,[]),⟨aZ _,W.tr r.cg,by simp[Fc]⟩,Sub.nil 5 T.Rat 4 rfl (by simp[kN,SV.sc,At.sc,ff]) r λI9 r1=>
   sbgn [] r1⟩
 rintro⟨i,U,w1,iv⟩ ⟨R,W,hC⟩;dsimp only at R W hC ⊢;have Qa:U.length=i:=by rw[hC.1,bI,lG];omega
 have Qj:=fJ hC.oP;apply bS<;>intro Pk
 .have Pk:=dL Pk;obtain⟨ra,Sd⟩:=gO M i;have Tq:=Pm ra (aG Sd);obtain⟨adm,um,Tw,SW,km1,km2⟩:=dG.load hM Sd;obtain⟨au,cu,rfl,hcu,-⟩:=dK.shape SW;refine⟨adm,Tw,be,.slice au ra.length cu,rd1 km2 W (G _ km1),?_⟩;refine cS (cE W (pR dH (eG ra x ra.length)) (λO J r=>s0 (oS G r) (dB.cW SW ((kS W r G))) (dB.cW Z ((kS W r G))) Tq (Sn ra (aG Sd)) Vd I (by rw[Tq];exact N)) ?_);rintro O _ _ QH Pt r L W h_ E;replace hC:=hC.cV r oF L (mC h_);have hd:=E.cU (nw r h_);obtain⟨A0,A1,A2,A3,A4,A5,A6,A7,rfl⟩:=hd.shape;have YW:Fc QH (Cf w Pt) (U++[rC A0 A1 A2 A3 A4 A5 A6 A7]) ((iY M x).take (i+1)):=by
   have e:(iY M x)[i]? =some (eG ra x ra.length):=by rw[iY,aS,Sd];rfl
   rw[bH,e];exact hC.push hd.pG
  have Qm:U.flatten++(rC A0 A1 A2 A3 A4 A5 A6 A7:List Value)=(U++([rC A0 A1 A2 A3 A4 A5 A6 A7]:List (List Value))).flatten:=by simp
  refine .inl ?_;refine⟨be,be,mx,((i+1:Nat):Int),wo,?_⟩;intro I8 w3 r3;exact⟨(i+1,U++[rC A0 A1 A2 A3 A4 A5 A6 A7],w3,_),⟨Pk,W.tr r3.cg,YW.rel r3 oF⟩,sbgn [(0,2)] r3 ⟨by dsimp only;rw[<-Qm];rfl,trivial⟩ ⟨rfl,rfl,by dsimp only;rw[l1];rfl,rfl,trivial⟩,dec Pk⟩
 have Pk:=dE R Pk;intro GE we re;refine⟨_,rfl,W.tr re.cg,?_⟩;rw[bU (by rw[lG];omega)]at hC;have h5:=re.ka (id:=0) (sz:=4) (m:=U.length) rfl Qj mx bv hC.one;have h6:=hC.rel re oF;refine⟨U,?_,h6.1,h6.oP,λj cs q k1 k2=>(h6.2 j cs q k1 k2).cU λ_ V=>Cv.nw V re⟩;rw[<-hC.1];exact h5.cU λg V=>.inr V
section
variable{S:Nat->Prop}{w:World}{v u:Value}{M:List (List (Int×Int))}{x:List Rat}
end
def Bm{r:List Rat}{i:Nat}(h:M[i]? =some r):(iY M x).getD i 0=eG r x r.length:=by
 rw[List.getD,iY,aS,h];rfl
def Gt{b:List Rat}(hl:b.length=M.length):uj b (iY M x)↔∀(i:Nat) r,M[i]? =some r->eG r x r.length<=b.getD i 0:=
 ⟨λh i r hr=>Bm (x:=x) hr▸h i (by have:=(aH.1 hr).1;omega),λh i R=>by
  have hr:M[i]? =some (M[i]' be):=aE be
  rw[Bm hr];exact h i _ hr⟩
def s5(n:Nat)(w:World)(E:n<=1000000):eH PG Fd.rf #[iV n] w (eV w λv' F=>cd F (Nf w F) v' (fG n)):=by
 have W:=bR w;refine sD ce ?_
 refine⟨Nat×List (List Value)×World×Iv,λz=>⟨[(0,iZ n),(3,.o (.w 0 z.2.1.length)),(4,iN z.1)],[(0,.vec T.Rat 4 z.2.1.flatten)],1,z.2.2.2,z.2.2.1⟩,λz=>n-z.1,
  λz=>z.1<=n/\Bq w z.2.2.1/\Fc z.2.2.1 (Cf w z.2.2.2) z.2.1 (fG z.1),?_,?_⟩
 .intro O J r
  exact⟨(0,[],J,[]),⟨aZ _,W.tr r.cg,by simp[Fc]⟩,Sub.nil 3 T.Rat 4 rfl (by simp[kN,SV.sc,At.sc,ff]) r λI9 r1=>
   sbgn [] r1⟩
 clear W;rintro⟨i,U,w1,iv⟩ ⟨R,W,hC⟩;dsimp only at R W hC ⊢;have Qa:U.length=i:=by rw[hC.1,jD]
 have Qj:=fJ hC.oP;apply bS<;>intro Pk
 .have Pk:=dL Pk;refine cS (cE W (pR dH ((0:Int):Rat)) (λO J r=>lX 0 J bv bv) ?_);rintro O _ _ QH Pt r L W h_ E;replace hC:=hC.cV r oF L (mC h_);have hd:=E.cU (nw r h_);clear r E;obtain⟨A0,A1,A2,A3,A4,A5,A6,A7,rfl⟩:=hd.shape;have YW:Fc QH (Cf w Pt) (U++[rC A0 A1 A2 A3 A4 A5 A6 A7]) (fG (i+1)):=by
   rw[show fG (i+1)=fG i++[0]from List.replicate_succ'];exact hC.push hd.pG
  have Qm:U.flatten++(rC A0 A1 A2 A3 A4 A5 A6 A7:List Value)=(U++([rC A0 A1 A2 A3 A4 A5 A6 A7]:List (List Value))).flatten:=by simp
  clear hC hd;refine .inl ?_;refine⟨be,be,mx,((i+1:Nat):Int),wo,?_⟩;intro I8 w3 r3;exact⟨(i+1,U++[rC A0 A1 A2 A3 A4 A5 A6 A7],w3,_),⟨Pk,W.tr r3.cg,YW.rel r3 oF⟩,sbgn [(0,2)] r3 ⟨by dsimp only;rw[<-Qm];rfl,trivial⟩ ⟨rfl,by dsimp only;rw[l1];rfl,rfl,trivial⟩,dec Pk⟩
 have Pk:=dE R Pk;subst Pk;intro GE we re;refine⟨_,rfl,W.tr re.cg,?_⟩;have h5:=re.ka (id:=0) (sz:=4) (m:=U.length) rfl Qj mx bv hC.one;have h6:=hC.rel re oF;refine⟨U,?_,h6.1,h6.oP,λj cs q k1 k2=>(h6.2 j cs q k1 k2).cU λ_ V=>Cv.nw V re⟩;rw[<-hC.1];exact h5.cU λg V=>.inr V
def gl{vm vb vc:Value}{M:List (List (Int×Int))}{c:List (Int×Int)}(G:Old S w)(h:dQ w S vm M)(N:dJ w S vb b)(hc:dJ w S vc c):
  eH PG Fd.mo #[.agg #[vm,vb,vc]] w (eV w λv' _=>v'=iV (iH M b c)):=by
 have W:=bR w;obtain⟨am,cm,rfl,Rw,Sv⟩:=dG.shape h;obtain⟨ab,cb,rfl,Qz,TS⟩:=dK.shape N;obtain⟨ac,cc,rfl,VF,SJ⟩:=dK.shape hc;unfold maxLen at Sv TS SJ;refine qe ce ?_;refine cS (cE W (pE (iV (j8 M))) (λO J r=>Bh (oS G r) (dQ.cW h ((kS W r G)))) ?_);rintro O _ _ _ Pt r L W h_ rfl;clear r;apply bS<;>intro L
 .have L:j8 M≠0:=λe=>by rw[e]at L;simp at L
  exact rtn W λGE we re=>by unfold iH;rw[aM L];rfl
 have L:j8 M=0:=by
  have h4:((j8 M:Int)==0)=true:=by simpa using L
  have:=eq_of_beq h4;omega
 refine dP (idO 22) ?_;apply bS<;>intro hl
 .have hl:b.length≠M.length:=λe=>by rw[e]at hl;simp at hl
  exact rtn W λGE we re=>by unfold iH;rw[aJ be,aM (.inl hl)];rfl
 have hl:b.length=M.length:=by
  have h4:((b.length:Int)==(M.length:Int))=true:=by simpa using hl
  have:=eq_of_beq h4;omega
 apply bS<;>intro h0
 .have h0:0<M.length:=by have:(0:Int)<M.length:=(by simpa using h0);omega
  refine cE W (pE (iV (dM M))) (λO J r=>qO (oS G r) (dQ.cW h ((kS W r G)))) ?_;rintro O _ _ _ iv2 r L W h_ rfl;clear r L;apply bS<;>intro Y
  .have Y:c.length≠dM M:=λe=>by rw[e]at Y;simp at Y
   exact rtn W λGE we re=>by unfold iH;rw[aJ be,aM (.inr ⟨h0,Y⟩)];rfl
  have Y:c.length=dM M:=by
   have h4:((c.length:Int)==(dM M:Int))=true:=by simpa using Y
   have:=eq_of_beq h4;omega
  apply bS<;>intro h6
  .have h6:60<c.length:=by have:(60:Int)<c.length:=(by simpa using h6);omega
   exact rtn W λGE we re=>by unfold iH;rw[aJ be,aJ be,aM h6];rfl
  have h6:¬60<c.length:=by have:¬(60:Int)<c.length:=(by simpa using h6);omega
  exact rtn W λGE we re=>by unfold iH;rw[aJ be,aJ be,aJ h6];rfl
 have h0:¬0<M.length:=by have:¬(0:Int)<M.length:=(by simpa using h0);omega
 apply bS<;>intro h6
 .have h6:60<c.length:=by have:(60:Int)<c.length:=(by simpa using h6);omega
  exact rtn W λGE we re=>by unfold iH;rw[aJ be,aJ be,aM h6];rfl
 have h6:¬60<c.length:=by have:¬(60:Int)<c.length:=(by simpa using h6);omega
 exact rtn W λGE we re=>by unfold iH;rw[aJ be,aJ be,aJ h6];rfl
def ku(G:Old S w)(Z:dB w S v xs)(hy:dB w S u ys):
  eH PG Fd.tZ #[v,u] w (eV w λv' _=>∃d,v'= .bool d/\(d=true->xs.length=ys.length/\uj xs ys)/\(xs.length=ys.length/\uj xs ys->d=true)):=by
 have W:=bR w;obtain⟨ax,cx,rfl,Wi,Ue⟩:=dK.shape Z;obtain⟨ay,cy,rfl,Yc,-⟩:=dK.shape hy;unfold maxLen at Ue;refine xH ce ?_;apply bS<;>intro h0
 .have h0:xs.length≠ys.length:=λe=>by rw[e]at h0;simp at h0
  exact rtn W λGE we re=>⟨false,rfl,λh=>(by cases h),λh=>absurd h.1 h0⟩
 have h0:xs.length=ys.length:=by
  have h4:((xs.length:Int)==(ys.length:Int))=true:=by simpa using h0
  have:=eq_of_beq h4;omega
 refine⟨Nat×World×Iv,λz=>⟨[(0,sV ax xs.length cx),(1,sV ay ys.length cy),(5,iN z.1)],[],0,z.2.2,z.2.1⟩,λz=>xs.length-z.1,
  λz=>z.1<=xs.length/\Bq w z.2.1/\∀j,j<z.1->ys.getD j 0<=xs.getD j 0,?_,?_⟩
 .intro O J r;exact⟨(0,J,[]),⟨aZ _,W.tr r.cg,λj hj=>by dsimp only at hj;omega⟩,sbgn [] r⟩
 clear W;rintro⟨i,w1,iv⟩ ⟨R,W,ht⟩;dsimp only at R W ht ⊢;apply bS<;>intro Pk
 .have Pk:=dL Pk;obtain⟨x,QY⟩:=gO xs i;obtain⟨y,R5⟩:=gO ys i;have Q5:xs.getD i 0=x:=by rw[List.getD,QY];rfl
  have RH:ys.getD i 0=y:=by rw[List.getD,R5];rfl
  obtain⟨adx,csx,WK,SD,-,RA⟩:=dK.load Z QY;obtain⟨ady,csy,Ux,SO,-,RZ⟩:=dK.load hy R5;obtain⟨f0,f1,f2,f3,f4,f5,f6,f7,rfl,SD⟩:=SD;obtain⟨q0,q1,q2,q3,q4,q5,q6,q7,rfl,SO⟩:=SO;refine dP (idO 10) ?_;refine⟨adx,WK,be,rC f0 f1 f2 f3 f4 f5 f6 f7,rfl,rdO RA W G,ady,Ux,be,rC q0 q1 q2 q3 q4 q5 q6 q7,rfl,rdO RZ W G,?_⟩;refine cE W (pE (iV (rs (x-y)))) (λO J r=>BZ (oS G r) (SD.cW ((kS W r G))) (SO.cW ((kS W r G)))) ?_;rintro O _ _ _ Pt r L W h_ rfl;clear r;apply bS<;>intro hs
  .have hs:x<y:=iF.1 (by simpa using hs);exact rtn W λGE we re=>⟨false,rfl,λh=>(by cases h),λh=>absurd hs (Rat.not_lt.2 (by have:=h.2 i Pk;rwa [Q5,RH]at this))⟩
  have hs:y<=x:=Rat.not_lt.1 λh=>absurd (iF.2 h) (by simpa using hs);refine inc i ?_;intro I8 w3 r3;refine⟨(i+1,w3,_),⟨Pk,W.tr r3.cg,λj hj=>?_⟩,sbgn [] r3,by dsimp only;omega⟩;rcases aW j i with Y|Y
  .exact ht j Y
  .obtain rfl:j=i:=by dsimp only at hj;omega
   rw[Q5,RH];exact hs
 have Pk:=dE R Pk;exact rtn W λGE we re=>⟨true,rfl,λ_=>⟨h0,λj hj=>ht j be⟩,λ_=>rfl⟩
def lW{vm vx vb:Value}{b:List Rat}{a1 a2:Option Addr}{n1 c1 n c2:Nat}(G:Old S w)(hM:dZ w S vm M)(Z:dB w S vx x)(N:dB w S vb b)(Pu:b.length=M.length)(Pm:∀r∈M,r.length=n)
  (Sn:Ht M h) (Vd:∀q∈x,rl q+1<=h) (I:2<=h) (QZ:2*h*n<=90000) (hR:M.length<=1000000) (E:n<=1000000):
  eH PG Fd.rW #[.agg #[vm,.slice a1 n1 c1,.slice a2 n c2],vx,vb] w (eV w λv' _=>∃d,v'= .bool d/\(d=true->xY M n x b)/\(xY M n x b->d=true)):=by
 have W:=bR w;obtain⟨am,cm,rfl,Rw,Sv⟩:=dG.shape hM;obtain⟨ax,cx,rfl,Wi,Ue⟩:=dK.shape Z;obtain⟨ab,cb,rfl,Qz,-⟩:=dK.shape N;unfold maxLen at Sv Ue;refine wF ce ?_;apply bS<;>intro hl
 .have hl:x.length=n:=by
   have h4:((x.length:Int)==(n:Int))=true:=by simpa using hl
   have:=eq_of_beq h4;omega
  have Xd:=Ky (n:=n) Sn Vd I λr hr=>by rw[Pm r hr];exact ae _
  refine cS (cE W (pR cd (fG n)) (λO J r=>s5 n J be) ?_);rintro O _ _ _ Pt r L W h_ E;have hz:=cd.cU E (nw r h_);clear r E;obtain⟨ahz,chz,rfl,-,-⟩:=dK.shape hz;rw[aq]at hz ⊢;refine cS (cE W (λ_ J v F=>∃d,v= .bool d/\(d=true->x.length=(fG n).length/\uj x (fG n))/\(x.length=(fG n).length/\uj x (fG n)->d=true)) (λO J r=>ku (rlo r G) (dB.cU (dB.cW Z ((kS W r G))) λ_ V=>(.inl V:Cv S w.heap.size _ _)) (dB.cU (cd.l (cd.rel hz r oF) (λq hq=>by rw[bK hq];decide)) λ_ V=>(qL V:Cv S w.heap.size _ _))) ?_);rintro O _ _ _ iv2 r L W h_ ⟨d,rfl,Rd,RS⟩;clear hz;clear r
  cases d with
  |false=>
   have Ud:¬(x.length=(fG n).length/\uj x (fG n)):=λh=>absurd (RS h) bv;clear Rd RS;exact rtn W λGE we re=>⟨false,rfl,λh=>(by cases h),λh=>absurd ⟨hl.trans (jD _).symm,hl▸h.2.1⟩ Ud⟩
  |true=>
   have Ud:x.length=(fG n).length/\uj x (fG n):=Rd rfl;clear Rd RS;refine cS (cE W (pR cd (iY M x)) (λO J r=>NK (oS G r) (dZ.cW hM ((kS W r G))) (dB.cW Z ((kS W r G))) (λr hr=>(Pm r hr).trans hl.symm) Sn Vd I (by rw[hl];exact QZ) be) ?_);rintro O _ _ _ Ps r L W h_ E;have hT:=cd.cU E (nw r h_);clear r;clear E;obtain⟨aT,cT,rfl,-,-⟩:=dK.shape hT;rw[lG]at hT ⊢;refine cS (cE W (λ_ J v F=>∃d,v= .bool d/\(d=true->b.length=(iY M x).length/\uj b (iY M x))/\(b.length=(iY M x).length/\uj b (iY M x)->d=true)) (λO J r=>ku (rlo r G) (dB.cU (dB.cW N ((kS W r G))) λ_ V=>(.inl V:Cv S w.heap.size _ _)) (dB.cU (cd.l (cd.rel hT r oF) (λq hq=>by have:=Xd q hq;omega)) λ_ V=>(qL V:Cv S w.heap.size _ _))) ?_);rintro O _ _ _ QA r L W h_ ⟨d,rfl,Rd,RS⟩;clear hT;clear r
   cases d with
   |false=>
    have HA:¬(b.length=(iY M x).length/\uj b (iY M x)):=λh=>absurd (RS h) bv;clear Rd RS;exact rtn W λGE we re=>⟨false,rfl,λh=>(by cases h),λh=>absurd ⟨Pu.trans (lG ..).symm,(Gt Pu).2 h.2.2⟩ HA⟩
   |true=>
    have HA:b.length=(iY M x).length/\uj b (iY M x):=Rd rfl;clear Rd RS;exact rtn W λGE we re=>⟨true,rfl,λ_=>⟨hl,hl.symm▸Ud.2,(Gt Pu).1 HA.2⟩,λ_=>rfl⟩
 have hl:x.length≠n:=λe=>by rw[e]at hl;simp at hl
 exact rtn W λGE we re=>⟨false,rfl,λh=>(by cases h),λh=>absurd h.1 hl⟩
structure kM(w:World)(S:Nat->Prop)(U:List (List Value))(qs:List Rat):Prop where
 len:U.length=qs.length
 four:∀cs∈U,cs.length=4
 at_:∀(j:Nat) cs q,U[j]? =some cs->qs[j]? =some q->tt w S cs q
section
variable{S S':Nat->Prop}{H:Hp}{nx:Nat}{iv A:Iv}{B:Nat}{w J F:World}{O:Nat->Sx.eD}{U:List (List Value)}{qs:List Rat}
def kM.nil:kM w S [] []:=⟨rfl,λ_ h=>(by cases h),λ_ _ _ h=>by cases h⟩
def kM.cW(h:kM w S U qs)(K:∀g,S g->F.heap[g]? =w.heap[g]?):kM F S U qs:=⟨h.len,h.four,λj cs q Y I=>(h.at_ j cs q Y I).cW K⟩
def kM.cU(h:kM w S U qs)(K:∀g,S g->S' g):kM w S' U qs:=⟨h.len,h.four,λj cs q Y I=>(h.at_ j cs q Y I).cU K⟩
def kM.rel(h:kM w (Cv S B iv) U qs)(r:Rel H nx iv B w O J)(G:∀g,S g->g<B):kM J (Cv S B iv) U qs:=h.cW λ_ V=>rls r G V
def kM.cV(h:kM w (Cv S B iv) U qs)(r:Rel H nx iv B w O J)(G:∀g,S g->g<B)(L:Ext J F)(hm:∀p,p∈iv->p∈A):kM F (Cv S B A) U qs:=
 ((h.rel r G).cW λg V=>L.block g (rlo r G g V)).cU λ_ V=>V.mono hm
def kM.push(h:kM w S U qs)(hc:tt w S cs q)(h4:cs.length=4):kM w S (U++[cs]) (qs++[q]):=by
 refine⟨by simp[h.len],λx Z=>?_,λj x p Y I=>?_⟩
 .rcases az.1 Z with Z|Z
  .exact h.four x Z
  .rw[aY.1 Z];exact h4
 .rcases aW j U.length with R|R
  .rw[aN R]at Y;rw[aN (by rw[<-h.len];exact R)]at I;exact h.at_ j x p Y I
  .have Vh:j=U.length:=by have:=(aH.1 Y).1;simp at this;omega
   subst Vh;rw[aP lr,bV]at Y;rw[h.len,aP lr,bV]at I;simp at Y I;subst Y I;exact hc
def kM.one(h:kM w S U qs):∀u∈U.flatten,u.oneCell'=true:=λu hu=>by
 obtain⟨cs,hc,hu⟩:=List.mem_flatten.1 hu;obtain⟨j,hj⟩:=aj hc;obtain⟨_,_,_,_,_,_,_,_,rfl,_⟩:=h.at_ j cs _ hj (aE (by rw[<-h.len];exact(aH.1 hj).1));simp at hu;rcases hu with rfl|rfl|rfl|rfl<;>rfl
def kM.list(h:kM w S U qs)(hs:fT w S 4 v U.flatten U.length):dB w S v qs:=⟨U,h.len▸hs,h.len,h.four,h.at_⟩
end
def Mg{α β γ:Type}{P:β->γ->Prop}(f:γ->α):∀(cs:List β) (xs:List α),cs.length=xs.length->(∀(j:Nat) c x,cs[j]? =some c->xs[j]? =some x->∃y,P c y/\f y=x)->∃ys:List γ,ys.map f=xs/\∀(j:Nat) c y,cs[j]? =some c->ys[j]? =some y->P c y
 |[],[],_,_=>⟨[],rfl,λ_ _ _ h=>by simp at h⟩
 |c::cs,x::xs,hl,h=>by
  obtain⟨y,Y,I⟩:=h 0 c x rfl rfl;obtain⟨ys,h3,h4⟩:=Mg f cs xs (by simpa using hl) λj=>h (j+1);refine⟨y::ys,by rw[List.map_cons,I,h3],λj=>?_⟩
  cases j with
  |zero=>intro c' y' e1 e2;injection e1 with e1;injection e2 with e2;subst e1 e2;exact Y
  |succ j=>exact h4 j
 |[],_::_,hl,_=>by cases hl
 |_::_,[],hl,_=>by cases hl
section
variable{S:Nat->Prop}{w:World}{v u:Value}{M:List (List Rat)}{b:List Rat}{n h0:Nat}
def dB.prs(h:dB w S v qs):∃xs,dJ w S v xs/\xs.map dC=qs:=by
 obtain⟨U,Y,I,h3,h4⟩:=h;obtain⟨xs,Z,hp⟩:=Mg (P:=λcs x=>yr w S cs x) dC U qs I λj cs q k1 k2=>by
  obtain⟨b,a,n,c,b2,a2,n2,c2,e,hr⟩:=h4 j cs q k1 k2;obtain⟨z1,z2,r1,r2⟩:=hr.r;exact⟨(z1,z2),⟨b,a,n,c,b2,a2,n2,c2,e,r1⟩,r2⟩
 have hl:xs.length=qs.length:=by rw[<-Z,aO]
 exact⟨xs,⟨U,by rw[hl];exact Y,by rw[hl];exact I,h3,hp⟩,Z⟩
def dZ.prs(h:dZ w S v M):∃P,dQ w S v P/\dS P=M:=by
 obtain⟨rv,Y,I,h3⟩:=h;obtain⟨P,Z,hp⟩:=Mg (P:=λu x=>dJ w S u x) (λr:List (Int×Int)=>r.map dC) rv M I λj u r k1 k2=>dB.prs (h3 j u r k1 k2);have hl:P.length=M.length:=by rw[<-Z,aO]
 exact⟨P,⟨rv,by rw[hl];exact Y,by rw[hl];exact I,hp⟩,Z⟩
def Ou(hlen:iP n (dS P))(Wk:0<(dS P).length):dM P=n/\∀r∈P,r.length=n:=by
 have hr:∀r∈P,r.length=n:=λr hr=>by
  rw[<-hlen _ (List.mem_map_of_mem hr)];exact(aO ..).symm
 refine⟨?_,hr⟩;obtain⟨r,h0⟩:∃r,P[0]? =some r:=⟨_,aE (by rw[me]at Wk;exact Wk)⟩
 rw[DS h0];exact hr r (aG h0)
def Mh(G:Old S w)(h:dZ w S v M)(hlen:iP n M)(Wk:0<M.length)(hR:M.length<=1000)(E:n<=999)(TN:Ht M h0)(I:2<=h0)(TJ:4^M.length*h0<=90000):
  eH PG Fd.uU #[v] w (eV w λv' _=>v'=iV (NO M n)):=by
 obtain⟨P,hP,hv⟩:=dZ.prs h;subst hv;obtain⟨hc,hr⟩:=Ou hlen Wk;have:=OG (h0:=h0) G hP h (λr h=>(hr r h).trans hc.symm) (by rw[me]at hR;exact hR) be TN I TJ;rw[hc]at this;exact this
def K9(G:Old S w)(h:dZ w S v M)(N:dB w S u b)(hlen:iP n M)(Wk:0<M.length)(Pu:b.length=M.length)(hR:M.length<=1000)(E:n<=998)(TN:Ht M h0)(hhb:∀q∈b,rl q+1<=h0)(I:2<=h0)(TJ:4^M.length*h0<=90000):
  eH PG Fd.rj #[v,u] w (eV w λv' F=>(lL M b n=none/\v'= .tuple #[nls,.bool false])\/∃x vx,lL M b n=some x/\v'= .tuple #[vx,.bool true]/\cd F (Nf w F) vx x/\x.length=n/\∀q∈x,rl q+1<=4^M.length*h0):=by
 obtain⟨P,hP,hv⟩:=dZ.prs h;obtain⟨xs,Z,hxv⟩:=dB.prs N;subst hv hxv;obtain⟨hc,hr⟩:=Ou hlen Wk;have Zg:(dS P).length=P.length:=me P;have Yp:=jA (M:=dS P) (b:=xs.map dC);have hwh:Ht (eI (dS P) (xs.map dC)) h0:=λr hr q hq=>by
  obtain⟨i,R⟩:=aj hr;rw[eI,List.getElem?_mapIdx]at R
  cases Qo:(dS P)[i]? with
  |none=>rw[Qo]at R;cases R
  |some x=>
   rw[Qo]at R;injection R with R;subst R;rcases az.1 hq with hq|hq
   .exact TN x (aG Qo) q hq
   .rw[aY.1 hq];exact kU hhb I i
 refine(Mi (h0:=h0) G hP h N (λr h=>(hr r h).trans hc.symm) (by rw[aO,Zg]at Pu;exact Pu) be be hwh I (by rw[<-Zg];exact TJ)).mono λe F ⟨v2,e1,e2,e3⟩=>⟨v2,e1,e2,?_⟩
 rw[hc]at e3;obtain⟨i1,i2,-,i4⟩:=lM (cols:=n) hwh I;rw[Yp]at i2;unfold lL;rw[Zg];rcases e3 with⟨j,Y,I,h3,h4⟩|⟨Y,vx,h5,h3⟩
 .left;refine⟨?_,h4⟩;rw[aJ λQp=>h3 (Qp j I Y)]
 .right;refine⟨_,vx,aM λj h4 h5=>Y j h5 h4,h5,h3,je ..,λq hq=>aR (DT i4 ?_ _ _ _ q hq) ?_⟩
  .exact aR I (Nat.le_mul_of_pos_left _ (Nat.pow_pos bv))
  .exact Nat.mul_le_mul_right _ (Nat.pow_le_pow_right bv be)
end
def Mj{B e sz n:Nat}{xs:List Value}(h:w.ownsRow B e sz v n xs):w.ownsRow 0 e sz v n xs:=⟨h.1,h.2.imp id λ⟨g,cap,cur,e1,_,rest⟩=>⟨g,cap,cur,e1,aZ _,rest⟩⟩
def Cv.aB0{H:Hp}{nx:Nat}{iv:Iv}{w0 w1 J:World}{g:Nat}(V:Cf w0 iv g)(r:Rel H nx iv w0.heap.size w1 O J):Cf w0 [(w0.heap.size,J.heap.size)] g:=by
 rcases V with V|⟨Y,lo,R,I,h3,h4⟩
 .exact V.elim
 .exact .inr ⟨Y,_,_,aY.2 rfl,Y,by have:=r.oB lo R I;have:=r.size;omega⟩
def mW(n:Nat)(x:Int)(w:World)(E:n<=1000)(Z:x.natAbs<1073741824):eH PG Fd.AZ #[iV n,iV x] w (eV w λv' F=>cd F (Nf w F) v' (List.replicate n (x:Rat))):=by
 have W:=bR w;have hF:=iS w.heap.size;refine CD ce ?_;refine⟨Nat×List (List Value)×World×Iv,λz=>⟨[(0,iZ n),(1,iZ x),(5,.o (.w 0 z.2.1.length)),(6,iN z.1)],[(0,.vec T.Rat 4 z.2.1.flatten)],1,z.2.2.2,z.2.2.1⟩,λz=>n-z.1,λz=>z.1<=n/\Bq w z.2.2.1/\yN z.2.2.1 (Cf w z.2.2.2) z.2.1 (List.replicate z.1 (x:Rat)),?_,?_⟩
 .intro O J r;exact⟨(0,[],J,[]),⟨aZ _,W.tr r.cg,yN.nil⟩,Sub.nil 5 T.Rat 4 rfl (by simp[kN,SV.sc,At.sc,ff]) r λI9 r1=>sbgn [] r1⟩
 clear W;rintro⟨i,U,w1,iv⟩ ⟨R,W,hG⟩;dsimp only at R W hG ⊢;have Qa:U.length=i:=by rw[hG.len,aq]
 have Qj:=fJ hG.four;apply bS<;>intro Pk
 .have Pk:=dL Pk;refine cS (cR (GT:=λ_ J v F=>dH F (Nf J F) v ((x:Rat))) (λO J r=>fZ x J Z) ?_);rintro O wa v1 wb r L Pu hO;replace hO:=dH.ef (S:=FF) hO r.cY (iv:=(wa.heap.size,wb.heap.size)::iv) aF;replace hG:=hG.cV (A:=(wa.heap.size,wb.heap.size)::iv) r hF L λp hp=>aD _ hp;replace W:=W.tr Pu;clear r L Pu;generalize (wa.heap.size,wb.heap.size)::iv=ivn at*
  obtain⟨o0,o1,o2,o3,o4,o5,o6,o7,rfl⟩:=dH.shape hO;have Wl:=hG.push (cs:=rC o0 o1 o2 o3 o4 o5 o6 o7) (q:=(x:Rat)) ⟨_,_,_,_,_,_,_,_,rfl,hO⟩ rfl;rw[show List.replicate i ((x:Rat))++[(x:Rat)]=List.replicate (i+1) ((x:Rat))from List.replicate_succ'.symm]at Wl;have Qm:U.flatten++(rC o0 o1 o2 o3 o4 o5 o6 o7:List Value)=(U++([rC o0 o1 o2 o3 o4 o5 o6 o7]:List (List Value))).flatten:=by simp
  refine .inl ?_;refine⟨be,be,mx,((i+1:Nat):Int),wo,?_⟩;intro I8 w3 r3;exact⟨(i+1,U++[rC o0 o1 o2 o3 o4 o5 o6 o7],w3,_),⟨Pk,W.tr r3.cg,Wl.rel r3 hF⟩,sbgn [(0,2)] r3 ⟨by dsimp only;rw[<-Qm];rfl,trivial⟩ ⟨rfl,rfl,by dsimp only;rw[l1];rfl,rfl,trivial⟩,dec Pk⟩
 have Pk:=dE R Pk;subst Pk;intro GE we re;refine⟨_,rfl,W.tr re.cg,?_⟩;refine yN.list ((hG.rel re hF).cU λg V=>Cv.nw V re) (re.DR (id:=0) (sz:=4) (m:=U.length) rfl Qj mx bv hG.one λE=>.inr (re.low 0 _ rfl E))
def DU(n:Nat)(w:World)(E:n<=1000):eH PG Fd.rf #[iV n] w (eV w λv' F=>fw F FF w.heap.size [(w.heap.size,F.heap.size)] v' n (List.replicate n ((0:Int):Rat))):=by
 have W:=bR w;have hF:=iS w.heap.size;refine sD ce ?_;refine⟨Nat×List (List Value)×World×Iv,λz=>⟨[(0,iZ n),(3,.o (.w 0 z.2.1.length)),(4,iN z.1)],[(0,.vec T.Rat 4 z.2.1.flatten)],1,z.2.2.2,z.2.2.1⟩,λz=>n-z.1,λz=>z.1<=n/\Bq w z.2.2.1/\yN z.2.2.1 (Cf w z.2.2.2) z.2.1 (List.replicate z.1 ((0:Int):Rat)),?_,?_⟩
 .intro O J r;exact⟨(0,[],J,[]),⟨aZ _,W.tr r.cg,yN.nil⟩,Sub.nil 3 T.Rat 4 rfl (by simp[kN,SV.sc,At.sc,ff]) r λI9 r1=>sbgn [] r1⟩
 clear W;rintro⟨i,U,w1,iv⟩ ⟨R,W,hG⟩;dsimp only at R W hG ⊢;have Qa:U.length=i:=by rw[hG.len,aq]
 have Qj:=fJ hG.four;apply bS<;>intro Pk
 .have Pk:=dL Pk;refine cS (cR (GT:=λ_ J v F=>dH F (Nf J F) v (((0:Int):Rat))) (λO J r=>fZ 0 J bv) ?_);rintro O wa v1 wb r L Pu hO;replace hO:=dH.ef (S:=FF) hO r.cY (iv:=(wa.heap.size,wb.heap.size)::iv) aF;replace hG:=hG.cV (A:=(wa.heap.size,wb.heap.size)::iv) r hF L λp hp=>aD _ hp;replace W:=W.tr Pu;clear r L Pu;generalize (wa.heap.size,wb.heap.size)::iv=ivn at*
  obtain⟨o0,o1,o2,o3,o4,o5,o6,o7,rfl⟩:=dH.shape hO;have Wl:=hG.push (cs:=rC o0 o1 o2 o3 o4 o5 o6 o7) (q:=((0:Int):Rat)) ⟨_,_,_,_,_,_,_,_,rfl,hO⟩ rfl;rw[show List.replicate i (((0:Int):Rat))++[((0:Int):Rat)]=List.replicate (i+1) (((0:Int):Rat))from List.replicate_succ'.symm]at Wl;have Qm:U.flatten++(rC o0 o1 o2 o3 o4 o5 o6 o7:List Value)=(U++([rC o0 o1 o2 o3 o4 o5 o6 o7]:List (List Value))).flatten:=by simp
  refine .inl ?_;refine⟨be,be,mx,((i+1:Nat):Int),wo,?_⟩;intro I8 w3 r3;exact⟨(i+1,U++[rC o0 o1 o2 o3 o4 o5 o6 o7],w3,_),⟨Pk,W.tr r3.cg,Wl.rel r3 hF⟩,sbgn [(0,2)] r3 ⟨by dsimp only;rw[<-Qm];rfl,trivial⟩ ⟨rfl,by dsimp only;rw[l1];rfl,rfl,trivial⟩,dec Pk⟩
 have Pk:=dE R Pk;subst Pk;intro GE we re;have hG1:=hG.rel re hF;refine⟨_,rfl,W.tr re.cg,⟨U,by rw[<-Qa];exact Mj (zc re (id:=0) rfl Qj bv),Qa,hG1.len,λj cs q k1 k2=>(hG1.at_ j cs q k1 k2).cU λg V=>⟨V.aB0 re,λe=>Rel.not re hF V 0 _ rfl (DV e).1 (DV e).2⟩⟩,λg e=>?_⟩;have hl:=re.low 0 _ rfl (DV e).1;rw[(DV e).2]at hl;exact .inr ⟨hl.1,_,_,aY.2 rfl,hl.1,hl.2⟩
end Go.Ex
namespace Go.Ex
variable{l:List Nat}{e m:Nat}{M:Nat->Nat->Rat}{g y z:Nat->Rat}
def kD(Fn:List (List Rat))(n:Nat):List (List Rat):=Fn++(List.range n).map λk=>(dm n).set k 1
def rO(b:List Rat)(n:Nat):List Rat:=b++dm n
def jQ(rows:List (List Rat))(l:List Nat):List (List Rat):=l.map λe=>rows.getD e []
def rP(right:List Rat)(l:List Nat):List Rat:=l.map λe=>right.getD e 0
def Ly{M:List (List Rat)}{n:Nat}(hM:iP n M)(R:Inj M n):NO M n=n:=by
 have hkc:=HW hM;have YT:NO M n=(dF M n).2.length:=rfl;have Th:(dF M n).2.length<=n:=by
  have:=(mQ M n).2.2;show((List.range n).foldl eY (M,[])).2.length<=n;omega
 rcases bB (oG M n).length with h|h
 .omega
 .have hy:=Lf hM h;have Y:=R _ hy
  have h3:=NY (M:=M) (n:=n) (c:=λk=>if k=0 then 1 else 0) (λt ht=>by
   rw[eN h λk _ Po=>by rw[aJ Po,bc],aM rfl,cQ]
   exact Y t ht) 0 h
  exact absurd h3 bv
section
variable{D:Dc}{n:Nat}{Fn:List (List Rat)}{b:List Rat}{c:Nat->Rat}
def ve:(kD Fn n).length=Fn.length+n:=by simp[kD]
def Cy(hA:iP n Fn):iP n (kD Fn n):=λr hr=>by
 rcases az.1 hr with hr|hr
 .exact hA r hr
 .obtain⟨k,_,rfl⟩:=bA.1 hr;simp[dm]
def Lz(hA:iP n Fn){k:Nat}(L:e<Fn.length+n)(K:k<n):dR (kD Fn n) e k=Fm Fn.length (dR Fn) e k:=by
 unfold Fm;rcases aW e Fn.length with h|h
 .rw[aM h,dR,dR,show(kD Fn n).getD e []=Fn.getD e [] by unfold kD;rw[List.getD,aN h];rfl]
 .rw[aJ be,dR,show(kD Fn n).getD e []=(dm n).set (e-Fn.length) 1 by unfold kD;rw[List.getD,aP h,aS,cN be];rfl];rw[kB (by simp[dm];omega),jC]
def Cz(N:b.length=Fn.length):(rO b n).getD e 0=AR Fn.length (λi=>b.getD i 0) e:=by
 unfold rO AR;rw[Lk];split
 .rfl
 .exact AD be
def Nk(rows:List (List Rat)){i:Nat}(R:i<l.length)(k:Nat):dR (jQ rows l) i k=dR rows (l.getD i 0) k:=by
 unfold jQ dR;rw[getD_map 0 [] R]
def Ir(right:List Rat){i:Nat}(R:i<l.length):(rP right l).getD i 0=right.getD (l.getD i 0) 0:=getD_map 0 0 R
def js:e∈ee D m n↔e<m+n/\∃j,j<D.q/\tE m n (D.eR j)=e:=by
 unfold ee;rw[List.mem_filter,List.mem_range,decide_eq_true_iff]
def DA:(ee D m n).Pairwise (· < ·):=List.pairwise_lt_range.filter _
def CA(h:D.Ok)(hm:D.m=m)(hq:D.q=n):(ee D m n).length=n:=by
 have hnd:=DA (D:=D) (n:=n) (m:=m);have Ze:=List.pairwise_iff_getElem.1 hnd;have Yr:∀a b (ha:a<(ee D m n).length) (N:b<(ee D m n).length),(ee D m n)[a]=(ee D m n)[b]->a=b:=λa b ha N e=>by
  rcases cO a b with g|g|g
  .have:=Ze a b ha N g;omega
  .exact g
  .have:=Ze b a N ha g;omega
 refine Nat.le_antisymm ?_ ?_
 .obtain⟨g,V⟩:∃g:Nat->Nat,∀a,a<(ee D m n).length->g a<D.q/\tE m n (D.eR (g a))=(ee D m n).getD a 0:=by
   have:∀a,∃j,a<(ee D m n).length->j<D.q/\tE m n (D.eR j)=(ee D m n).getD a 0:=λa=>by
    by_cases ha:a<(ee D m n).length
    .obtain⟨j,Y,I⟩:=(js.1 (bm ha)).2;exact⟨j,λ_=>⟨Y,by rw[I,List.getD,aE ha];rfl⟩⟩
    .exact⟨0,λg=>absurd g ha⟩
   exact⟨λa=>(this a).choose,λa=>(this a).choose_spec⟩
  refine aR (xB D.q _ g (λa ha=>(V a ha).1) λa b ha N e=>?_) (Nat.le_of_eq hq);have Y:=(V a ha).2;rw[e,(V b N).2,List.getD,aE N,List.getD,aE ha]at Y;exact(Yr b a N ha Y).symm
 .obtain⟨g,V⟩:∃g:Nat->Nat,∀j,j<D.q->g j<(ee D m n).length/\(ee D m n).getD (g j) 0=tE m n (D.eR j):=by
   have:∀j,∃a,j<D.q->a<(ee D m n).length/\(ee D m n).getD a 0=tE m n (D.eR j):=λj=>by
    by_cases hj:j<D.q
    .have hf:=h.fl j hj;rw[hm,hq]at hf;obtain⟨a,ha,e⟩:=List.getElem_of_mem (js.2 ⟨Og hf,j,hj,rfl⟩:tE m n (D.eR j)∈ee D m n);exact⟨a,λ_=>⟨ha,by rw[List.getD,aE ha];exact e⟩⟩
    .exact⟨0,λg=>absurd g hj⟩
   exact⟨λa=>(this a).choose,λa=>(this a).choose_spec⟩
  refine aR (Nat.le_of_eq hq.symm) (xB _ D.q g (λa ha=>(V a ha).1) λa b ha N e=>?_);have Y:=(V a ha).2;rw[e,(V b N).2]at Y;have hfa:=h.fl a ha;have WG:=h.fl b N;rw[hm,hq]at hfa WG;exact h.fi a b ha N (PN hfa WG Y.symm)
def jO.PO(hA:iP n Fn)(N:b.length=Fn.length)(h:jO D Fn.length n (dR Fn) (λi=>b.getD i 0) c):
  ee D Fn.length n∈Br n (Fn.length+n)/\iP n (jQ (kD Fn n) (ee D Fn.length n))/\NO (jQ (kD Fn n) (ee D Fn.length n)) n=n/\lL (jQ (kD Fn n) (ee D Fn.length n)) (rP (rO b n) (ee D Fn.length n)) n=some ((List.range n).map D.val):=by
 have hl:=CA h.ok h.em h.eq;have hlen:iP n (jQ (kD Fn n) (ee D Fn.length n)):=λr hr=>by
  obtain⟨e,L,rfl⟩:=bA.1 hr;exact(Cy hA).getD (by rw[ve];exact(js.1 L).1)
 have Pm:∀(x:Nat->Rat) i,i<n->mulR (jQ (kD Fn n) (ee D Fn.length n)) n x i=cj (λk=>Fm Fn.length (dR Fn) ((ee D Fn.length n).getD i 0) k*x k) n:=λx i R=>by
  unfold mulR;refine cX λk K=>?_;have L:(ee D Fn.length n).getD i 0∈ee D Fn.length n:=by rw[List.getD,aE be];exact bm _
  rw[Nk _ be,Lz hA (js.1 L).1 K]
 have hRl:(jQ (kD Fn n) (ee D Fn.length n)).length=n:=by unfold jQ;rw[aO,hl]
 have huni:∀x:Nat->Rat,(∀i,i<n->mulR (jQ (kD Fn n) (ee D Fn.length n)) n x i=(rP (rO b n) (ee D Fn.length n)).getD i 0)->∀v,v<n->x v=D.val v:=λx Z=>by
  refine h.uni λj hj=>?_;have hf:=h.ok.fl j hj;rw[h.em,h.eq]at hf;obtain⟨a,ha,e⟩:=List.getElem_of_mem (js.2 ⟨Og hf,j,hj,rfl⟩:tE Fn.length n (D.eR j)∈ee D Fn.length n);have e:(ee D Fn.length n).getD a 0=tE Fn.length n (D.eR j):=by rw[List.getD,aE ha];exact e
  have Y:=Z a be;rw[Pm x a be,Ir _ ha,Cz N,e]at Y;exact(Fo hf x).1 Y
 have Ry:∀i,i<n->mulR (jQ (kD Fn n) (ee D Fn.length n)) n D.val i=(rP (rO b n) (ee D Fn.length n)).getD i 0:=λi R=>by
  have L:(ee D Fn.length n).getD i 0∈ee D Fn.length n:=by rw[List.getD,aE be];exact bm _
  obtain⟨-,j,hj,e⟩:=js.1 L;have hf:=h.ok.fl j hj;rw[h.em,h.eq]at hf;rw[Pm _ i R,Ir _ be,Cz N,<-e];refine(Fo hf D.val).2 ?_;rw[h.Lx hf,D.vX h.ok hj]
 have Yr:Inj (jQ (kD Fn n) (ee D Fn.length n)) n:=λx Z v hv=>by
  have Y:=huni (λt=>D.val t+x t) (λi R=>by
   rw[Lj,Ry i R,Z i (by rw[hRl];exact R),cH]) v hv
  grind
 refine⟨(vZ _ _ _).2 ⟨hl,DA,λx Z=>(js.1 Z).1⟩,hlen,Ly hlen Yr,Jy hlen Yr ce λi R=>?_⟩;rw[hRl]at R;rw[<-Ry i R];exact HX (λt ht=>by rw[List.getD,aS,cN ht];rfl) i
end
structure Gz(Fn:List (List Rat))(b:List Rat)(n:Nat)(x:List Rat):Prop where
 ex:∃l∈Br n (Fn.length+n),NO (jQ (kD Fn n) l) n=n/\lL (jQ (kD Fn n) l) (rP (rO b n) l) n=some x
 ok:oH Fn.length n (dR Fn) (λi=>b.getD i 0) λj=>x.getD j 0
def oI(c:List Rat)(x:List Rat)(n:Nat):Rat:=cj (λj=>c.getD j 0*x.getD j 0) n
def ir(Fn:List (List Rat))(n:Nat):List (List Rat):=Fn++[List.replicate n 1,List.replicate n (-1)]
def kE(m:Nat):List Rat:=dm m++[1,-1]
section
variable{D:Dc}{n:Nat}{Fn:List (List Rat)}{b c x:List Rat}
def xt(f:Nat->Rat){n j:Nat}(h:j<n):((List.range n).map f).getD j 0=f j:=by rw[List.getD,aS,cN h];rfl
def oH.congr{r:Nat->Rat}(h:oH m n M r y)(e:∀j,j<n->z j=y j):oH m n M r z:=⟨λj hj=>by rw[e j hj];exact h.1 j hj,λi R=>by rw[cX λj hj=>by rw[e j hj]];exact h.2 i R⟩
def jO.crn(hA:iP n Fn)(N:b.length=Fn.length)(h:jO D Fn.length n (dR Fn) (λi=>b.getD i 0) g)(hf:D.uO):Gz Fn b n ((List.range n).map D.val):=by
 obtain⟨Y,I,h3,h4⟩:=h.PO hA N;exact⟨⟨_,Y,h3,h4⟩,(h.aAb hf).congr λj hj=>xt _ hj⟩
def Is:oI c ((List.range n).map g) n=cj (λj=>c.getD j 0*g j) n:=cX λj hj=>by rw[xt _ hj]
def zJ{i k:Nat}(K:k<n):(i<Fn.length->dR (ir Fn n) i k=dR Fn i k)/\dR (ir Fn n) Fn.length k=1/\dR (ir Fn n) (Fn.length+1) k= -1:=by
 unfold ir;refine⟨λh=>?_,?_,?_⟩
 .rw[dR,dR,show(Fn++[List.replicate n (1:Rat),List.replicate n (-1:Rat)]).getD i []=Fn.getD i [] by rw[List.getD,aN h];rfl]
 .rw[dR,show(Fn++[List.replicate n (1:Rat),List.replicate n (-1:Rat)]).getD Fn.length []=List.replicate n (1:Rat) by rw[List.getD,aP (ae _),bV];rfl,List.getD,List.getElem?_replicate,aM K];rfl
 .rw[dR,show(Fn++[List.replicate n (1:Rat),List.replicate n (-1:Rat)]).getD (Fn.length+1) []=List.replicate n (-1:Rat) by rw[List.getD,aP (Nat.le_add_right _ _),Nat.add_sub_cancel_left];rfl,List.getD,List.getElem?_replicate,aM K];rfl
def oe{i:Nat}:(i<m->(kE m).getD i 0=0)/\(kE m).getD m 0=1/\(kE m).getD (m+1) 0= -1:=by
 unfold kE;have hz:(dm m).length=m:=by simp[dm]
 refine⟨λh=>?_,?_,?_⟩
 .rw[List.getD,aN be,<-List.getD,jC]
 .rw[List.getD,aP be,hz,bV];rfl
 .rw[List.getD,aP be,hz,Nat.add_sub_cancel_left];rfl
def Fp(hA:iP n Fn):iP n (ir Fn n):=λr hr=>by
 rcases az.1 hr with hr|hr
 .exact hA r hr
 .rcases List.mem_cons.1 hr with rfl|hr
  .exact aq
  .rw[aY.1 hr];exact aq
def jR:(ir Fn n).length=Fn.length+2:=by simp[ir]
def vg:(kE Fn.length).length=(ir Fn n).length:=by simp[ir,kE,dm]
def DB:oH (ir Fn n).length n (dR (ir Fn n)) (λi=>(kE Fn.length).getD i 0) z↔oH Fn.length n (dR Fn) (λ_=>0) z/\cj z n=1:=by
 have e1:cj (λj=>dR (ir Fn n) Fn.length j*z j) n=cj z n:=cX λj hj=>by rw[(zJ (Fn:=Fn) (i:=0) hj).2.1,cQ]
 have e2:cj (λj=>dR (ir Fn n) (Fn.length+1) j*z j) n= -(cj z n):=by
  rw[<-gM];exact cX λj hj=>by rw[(zJ (Fn:=Fn) (i:=0) hj).2.2];grind
 have e3:∀i,i<Fn.length->cj (λj=>dR (ir Fn n) i j*z j) n=cj (λj=>dR Fn i j*z j) n:=λi R=>cX λj hj=>by rw[(zJ hj).1 R]
 constructor
 .rintro⟨Y,I⟩;have g1:_<=(kE Fn.length).getD Fn.length 0:=I Fn.length (by rw[jR];omega);have g2:_<=(kE Fn.length).getD (Fn.length+1) 0:=I (Fn.length+1) (by rw[jR];omega);rw[e1,(oe (i:=0)).2.1]at g1;rw[e2,(oe (i:=0)).2.2]at g2;refine⟨⟨Y,λi R=>?_⟩,by grind⟩;have:_<=(kE Fn.length).getD i 0:=I i (by rw[jR];omega)
  rwa [e3 i R,oe.1 R]at this
 .rintro⟨⟨Y,I⟩,h3⟩;refine⟨Y,λi R=>?_⟩;rw[jR]at R;show _<=(kE Fn.length).getD i 0;rcases aW i Fn.length with g|g
  .rw[e3 i g,oe.1 g];exact I i g
  .rcases aW Fn.length i with g2|g2
   .rw[show i=Fn.length+1 by omega,e2,(oe (i:=0)).2.2,h3];exact Rat.le_refl
   .rw[show i=Fn.length by omega,e1,(oe (i:=0)).2.1,h3];exact Rat.le_refl
def H4(hA:iP n Fn)(hz:KE Fn.length n (dR Fn) (λj=>c.getD j 0) z):∃r,Gz (ir Fn n) (kE Fn.length) n r/\0<oI c r n:=by
 obtain⟨⟨Y,I⟩,h3⟩:=hz;have G:0<cj z n:=by
  refine Rat.not_le.1 λhle=>?_;have h0:=rK (f:=z) (n:=n) Y hle;rw[cX (g:=λ_=>0) λj hj=>by rw[h0 j hj,bF],dc]at h3;exact Rat.lt_irrefl h3
 obtain⟨S,hSe⟩:∃S,cj z n=S:=⟨_,rfl⟩
 rw[hSe]at G;have R:=Rat.inv_pos.2 G;have E:oH (ir Fn n).length n (dR (ir Fn n)) (λi=>(kE Fn.length).getD i 0) λj=>S⁻¹*z j:=by
  refine DB.2 ⟨⟨λj hj=>Rat.mul_nonneg (Rat.le_of_lt R) (Y j hj),λi R4=>?_⟩,?_⟩
  .rw[cX (g:=λj=>S⁻¹*(dR Fn i j*z j)) λj _=>by grind,fP];have g1:=I i R4;have g2:=Rat.mul_nonneg (Rat.le_of_lt R) (show 0<= -(cj (λj=>dR Fn i j*z j) n) by grind);grind
  .rw[fP,hSe];exact Rat.inv_mul_cancel _ λe=>by rw[e]at G;exact Rat.lt_irrefl G
 rcases Iq (ir Fn n).length n (dR (ir Fn n)) (λi=>(kE Fn.length).getD i 0) (λj=>c.getD j 0)with⟨y,hy⟩|⟨D,hD,hF,hE⟩
 .exact absurd (hy.no E) id
 .cases hE with
  |By N=>
   refine⟨_,hD.crn (Fp hA) vg hF,?_⟩;rw[Is];have g1:=(hD.jf hF).2.2;have g2:=hD.By N E;rw[cX (g:=λj=>S⁻¹*(c.getD j 0*z j)) λj _=>by grind,fP]at g2;have g3:=Rat.mul_pos R h3;rw[g1];grind
  |Ll s hs hc ha=>
   obtain⟨⟨k1,k2⟩,k3⟩:=hD.Ll hs hc ha;have g1:=k2 Fn.length (by rw[jR];omega);rw[cX (g:=D.dir s) λj hj=>by rw[(zJ (Fn:=Fn) (i:=0) hj).2.1,cQ]]at g1;have h0:=rK (f:=D.dir s) (n:=n) k1 g1;rw[cX (g:=λ_=>0) λj hj=>by rw[h0 j hj,bF],dc]at k3;exact absurd k3 Rat.lt_irrefl
def xu(h:vY Fn.length n (dR Fn) (λi=>b.getD i 0) y)(Z:Gz Fn b n x):False:=h.no Z.ok
def KG(hy:∀i,i<Fn.length->0<=y i)(hc:∀j,j<n->c.getD j 0<=cj (λi=>y i*dR Fn i j) Fn.length)(Z:Gz (ir Fn n) (kE Fn.length) n x):¬0<oI c x n:=λg=>
 Lu (c:=λj=>c.getD j 0) ⟨(DB.1 Z.ok).1,g⟩ hy hc
end
end Go.Ex
