/- Texts X194 to X203: lemmas, each with its conditions. -/
import Derived.Test.YtkdcaknoaeicdaaGreatP14
namespace Go.Ex
open Go Go.Sx Go.Proofs
variable{iv:Iv}{S:Nat->Prop}{v:Value}
def HT(g:Nat):Iv->Iv
 |[]=>[]
 |(lo,hi)::iv=>(lo,min hi g)::(max lo (g+1),hi)::HT g iv
def uG(v:Value)(iv:Iv):Iv:=match v.ownBlock with
 |some g=>HT g iv
 |none=>iv
theorem Br{g lo hi:Nat}:∀{iv:Iv},(lo,hi)∈HT g iv->∃a b,(a,b)∈iv∧a<=lo∧hi<=b∧¬(lo<=g∧g<hi)
 |[],h=>by cases h
 |(x,y)::iv,h=>by
  rcases List.mem_cons.1 h with h|h
  ·injection h with h1 h2;exact⟨x,y,aG,by omega,by omega,by omega⟩
  ·rcases List.mem_cons.1 h with h|h
   ·injection h with h1 h2;exact⟨x,y,aG,by omega,by omega,by omega⟩
   ·obtain⟨a,b,h1,h2⟩:=Br h;exact⟨a,b,List.mem_cons_of_mem _ h1,h2⟩
theorem Ep{g x lo hi:Nat}(h1:lo<=x)(h2:x<hi)(OG:x≠g):∀{iv:Iv},(lo,hi)∈iv->∃a b,(a,b)∈HT g iv∧a<=x∧x<b
 |[],h=>by cases h
 |(p,q)::iv,h=>by
  rcases List.mem_cons.1 h with h|h
  ·injection h with e1 e2;subst e1 e2;rcases aP x g with h3|h3
   ·exact⟨_,_,aG,h1,by omega⟩
   ·exact⟨_,_,List.mem_cons_of_mem _ aG,by omega,h2⟩
  ·obtain⟨a,b,h3,h4⟩:=Ep h1 h2 OG h;exact⟨a,b,List.mem_cons_of_mem _ (List.mem_cons_of_mem _ h3),h4⟩
theorem Cv.cut{B x:Nat}(h:Cv S B iv x)(OG:v.ownBlock≠some x):Cv S B (uG v iv) x:=by
 rcases h with h|⟨hb,lo,hi,h1,h2,h3⟩
 ·exact .inl h
 ·refine .inr ⟨hb,?_⟩;unfold uG
  cases e:v.ownBlock with
  |none=>exact⟨lo,hi,h1,h2,h3⟩
  |some g=>
   obtain⟨a,b,k1,k2,k3⟩:=Ep h2 h3 (fun e2=>OG (by rw[e,e2])) h1;exact⟨a,b,k1,k2,k3⟩
theorem uH{lo hi:Nat}(h:(lo,hi)∈uG v iv):∃a b,(a,b)∈iv∧a<=lo∧hi<=b∧∀g,v.ownBlock=some g->¬(lo<=g∧g<hi):=by
 unfold uG at h
 cases e:v.ownBlock with
 |none=>rw[e]at h;exact⟨lo,hi,h,aF _,aF _,fun g e2=>by cases e2⟩
 |some g=>
  rw[e]at h;obtain⟨a,b,h1,h2,h3,h4⟩:=Br h;exact⟨a,b,h1,h2,h3,fun g2 e2=>by injection e2 with e2;subst e2;exact h4⟩
end Go.Ex
namespace Go.Sx
open Go Go.Ex Go.Proofs
variable{xs:List Value}{O:Nat->Sx.dg}
theorem Rel.DY{H:Hp}{nx:Nat}{iv:Iv}{B:Nat}{w w':World}(r:Rel H nx iv B w O w'){e sz n:Nat}{v:Value}(OH:w'.ownsRow 0 e sz v n xs)(Og:∀g,v.ownBlock=some g->B<=g)
  (OG:∀g,v.ownBlock=some g->∀id b,dB H id=some b->(O id).nil=false->(O id).g≠g):
  ∃u:Sx.dg,Rel ((nx,.vec e sz xs)::H) (nx+1) (uG v iv) B w' (Sx.gP O nx u) w'∧(At.w nx n).den (Sx.gP O nx u)=v:=by
 have r0:Rel H nx (uG v iv) B w' O w':=Rel.mk' rfl rfl rfl (aF _) (by have:=r.base;have:=r.size;omega)
  (fun lo hi hm=>by obtain⟨a,b,h1,h2,h3,_⟩:=uH hm;have:=r.oe a b h1;have:=r.size;omega) r.keys (fun j c h=>r.fits h) (fun j c h=>r.scopd h) r.inj r.low (fun _ _ _=>rfl)
  (fun lo hi hm id b h hn hh=>by obtain⟨a,c,h1,h2,h3,_⟩:=uH hm;exact r.jo a c h1 id b h hn ⟨by omega,by omega⟩)
 have Tk:∀lo hi,(lo,hi)∈uG v iv->∀g,v.ownBlock=some g->¬(lo<=g∧g<hi):=fun lo hi hm=>by obtain⟨a,c,h1,h2,h3,h4⟩:=uH hm;exact h4
 obtain⟨h1,h2⟩:=OH;rcases h2 with⟨rfl,rfl⟩|⟨g,cap,cur,rfl,_,hc,hn,hm,hs,ht⟩
 ·have:xs=[]:=List.eq_nil_of_length_eq_zero (by rw[h1,Nat.zero_mul]);subst this;exact⟨⟨0,0,true⟩,r0.push (.vec e sz []) ⟨0,0,true⟩ rfl rfl rfl (aF _) (fun _ _=>rfl) (fun h=>by cases h) (.inl ⟨rfl,rfl⟩) trivial,by simp[At.den,Sx.gP]⟩
 ·generalize uG (.slice (some ⟨g,0,none⟩) n cap) iv=OK at*
  have OG:=OG g rfl;have Og:=Og g rfl;have hgl:g<w'.heap.size:=(ai.1 hc).1;have OU:∀id b,dB H id=some b->id≠nx:=fun id b h=>Nat.ne_of_lt (r.keys id b h);have PT:∀id b,dB H id=some b->Sx.gP O nx ⟨g,cap,false⟩ id=O id:=fun id b h=>by simp[Sx.gP,OU id b h]
  have Vg:xs++cur.toList.drop (n*sz)=cur.toList:=by rw[<-ht,List.take_append_drop]
  refine⟨⟨g,cap,false⟩,Rel.mk' rfl rfl rfl (aF _) r0.base r0.oe ?_ ?_ ?_ ?_ ?_ (fun _ _ _=>rfl) ?_,by simp[At.den,Sx.gP]⟩
  ·intro id b' h;rw[dA]at h;split at h
   ·omega
   ·have:=r.keys id b' h;omega
  ·intro id b' h;rw[dA]at h;split at h
   ·rename_i e2;subst e2;injection h with h;subst h;rw[Sx.eN];exact .inr ⟨rfl,cur.toList.drop (n*sz),by rw[Vg];simpa using hc,by rw[Vg];simpa using hs,hm⟩
   ·rw[PT id b' h];exact ji.gg (r.fits h) Sx.gA (r.scopd h) (fun _ _=>rfl)
  ·intro id b' h;rw[dA]at h;split at h
   ·injection h with h;subst h;exact trivial
   ·exact ji.iR (by omega) (r.scopd h)
  ·intro id id' b1 b2 h1 h2 d1 d2 n1 n2 e2;rw[dA]at h1 h2;split at h1<;>split at h2
   ·omega
   ·rename_i e1 e3;subst e1;rw[Sx.eN]at e2 n1;rw[PT id' b2 h2]at e2 n2;exact absurd e2.symm (OG id' b2 h2 n2)
   ·rename_i e1 e3;subst e3;rw[Sx.eN]at e2 n2;rw[PT id b1 h1]at e2 n1;exact absurd e2 (OG id b1 h1 n1)
   ·rw[PT id b1 h1]at e2 n1;rw[PT id' b2 h2]at e2 n2;exact r.inj id id' b1 b2 h1 h2 d1 d2 n1 n2 e2
  ·intro id b' h n1;rw[dA]at h;split at h
   ·rename_i e2;subst e2;rw[Sx.eN];exact⟨Og,hgl⟩
   ·rw[PT id b' h]at n1 ⊢;exact r.low id b' h n1
  ·intro lo hi Ta id b' h n1;rw[dA]at h;split at h
   ·rename_i e2;subst e2;rw[Sx.eN];exact Tk lo hi Ta g rfl
   ·rw[PT id b' h]at n1 ⊢;exact r0.jo lo hi Ta id b' h n1
end Go.Sx
namespace Go.Ex
open Go Go.Sx Go.Proofs
end Go.Ex
namespace Go.Sx
open Go Go.Ex Go.Proofs
variable{xs:List Value}{O:Nat->Sx.dg}
theorem Sub.DY{B nx:Nat}{l:Env}{H:Hp}{iv:Iv}{w w':World}{t:yE}(u n:Nat){e sz:Nat}{v:Value}(h9:fL l u=some (.o (.v v)))(Rk:jN nx l)(r:Rel H nx iv B w O w')(OH:w'.ownsRow 0 e sz v n xs)
  (Og:∀g,v.ownBlock=some g->B<=g) (OG:∀g,v.ownBlock=some g->∀id b,dB H id=some b->(O id).nil=false->(O id).g≠g)
  (h:∀ρ1,Rel ((nx,.vec e sz xs)::H) (nx+1) (uG v iv) B w' ρ1 w'->Sx.Sub B ((u,.o (.w nx n))::l) (nx+1) ρ1 w' t):Sx.Sub B l nx O w' t:=by
 obtain⟨u2,r1,Q8⟩:=r.DY OH Og OG;obtain⟨ρ',h1,h2⟩:=h _ r1;refine⟨ρ',h1,fun x v2 hv=>?_⟩;obtain⟨h3,v0,h4,h5⟩:=h2 x v2 hv;refine⟨h3,?_⟩;rw[eS]at h4;split at h4
 ·rename_i e2;subst e2;injection h4 with h4;subst h4;refine⟨_,h9,?_⟩;rw[<-h5];show v=(At.w nx n).den _;exact Q8.symm
 ·refine⟨v0,h4,?_⟩;rw[<-h5];exact SV.jW (fun id Oj=>gA id Oj) (Rk.get _ _ h4)
end Go.Sx
namespace Go.Ex
open Go Go.Sx Go.Proofs
end Go.Ex
namespace Go.Ex
open Go Go.Sx Go.Proofs
variable{b:Int×Int×Rat}{M:List (List Rat)}{l:List Ld}{i:Nat}{S:Nat->Prop}{w:World}{f:fM}
theorem Er(h:f.bars[i]? =some b):(cX f).getD i 0=b.2.2:=by
 have hl:=(aD.1 h).1;rw[List.getD,cX,aL (by rw[aJ];exact hl),aN,h];rfl
theorem Es(h:f.cU[i]? =some b):(cX f).getD (f.bars.length+i) 0=b.2.2:=by
 rw[List.getD,cX,aM (by rw[aJ];omega),aJ,Nat.add_sub_cancel_left,aN,h];rfl
theorem Ly{vn vb vs:Value}(hS:Old S w)(hf:du w S vn vb vs f)(Oc:f.bars.length<=60∧f.cU.length<=60)(hi:i<f.cols):
  eD PG N.zG #[.agg #[vn,vb,vs],.int .i64 i] w (eG w fun v' w2=>eR w2 S v' ((cX f).getD i 0)):=by
 have hw:=bR w;have hf0:=hf;obtain⟨an,cn,ab,cb,aq,cq,rfl,rfl,rfl,Qw,RX,SG⟩:=hf.shape;have Pr:f.cols=f.bars.length+f.cU.length:=rfl;refine AX (by simp) ?_;refine dN.mk ?_ ?_<;>intro OF
 ·have hk:i<f.bars.length:=by have:=aI OF;omega
  obtain⟨b,hb⟩:∃b,f.bars[i]? =some b:=⟨_,aB hk⟩
  obtain⟨adb,cs,Pg,hF,-,Oa⟩:=hf0.bars.load (by decide) hb;obtain⟨g0,g1,g2,g3,g4,g5,g6,g7,rfl,hF⟩:=hF;refine⟨adb,Pg,by omega,[.bool g0,.slice g1 g2 g3,.bool g4,.slice g5 g6 g7],rfl,fun O w' r j u hu=>?_,?_⟩
  ·have Uk:=(aD.1 hu).1;obtain⟨k1,k2⟩:=Oa (2+j) u (by rcases j with _|_|_|_|j<;>first|exact hu|(have:j+4<4:=Uk;omega));rw[cH (w:=w) (w2:=w') (by simp only[dH];exact(hw.tr r.cQ).block _ (hS _ k1))];simp only[aE,Int.toNat_zero,Nat.zero_mul,jy]at k2 ⊢
   first|exact k2|(rw [<-k2];congr 2;omega)
  exact rtn hw fun ρe we re=>by rw[Er hb];exact hF.cI fun g hg=>(hw.tr re.cQ).block g (hS g hg)
 have OF:f.bars.length<=i:=by have:=aH OF;omega
 obtain⟨k,rfl⟩:∃k,i=f.bars.length+k:=⟨i-f.bars.length,by omega⟩
 have hk:k<f.cU.length:=by omega
 refine⟨(k:Int),wo,?_⟩;obtain⟨b,hb⟩:∃b,f.cU[k]? =some b:=⟨_,aB hk⟩
 obtain⟨adb,cs,Pg,hF,-,Oa⟩:=hf0.cU.load (by decide) hb;obtain⟨g0,g1,g2,g3,g4,g5,g6,g7,rfl,hF⟩:=hF;refine⟨adb,Pg,by omega,[.bool g0,.slice g1 g2 g3,.bool g4,.slice g5 g6 g7],rfl,fun O w' r j u hu=>?_,?_⟩
 ·have Uk:=(aD.1 hu).1;obtain⟨k1,k2⟩:=Oa (2+j) u (by rcases j with _|_|_|_|j<;>first|exact hu|(have:j+4<4:=Uk;omega));rw[cH (w:=w) (w2:=w') (by simp only[dH];exact(hw.tr r.cQ).block _ (hS _ k1))];simp only[aE,Int.toNat_zero,Nat.zero_mul,jy]at k2 ⊢
  first|exact k2|(rw [<-k2];congr 2;omega)
 exact rtn hw fun ρe we re=>by rw[Es hb];exact hF.cI fun g hg=>(hw.tr re.cQ).block g (hS g hg)
theorem DH(OJ:tz f.nodes.length l):Bl (cZ (fJ f l) (-1)):=fun t=>by
 rcases aP t (cZ (fJ f l) (-1)).length with h|h
 ·have h2:t<(fJ f l).length:=by rw[cZ,aJ]at h;exact h
  have h3:(fJ f l)[t]∈fJ f l:=aY h2;rw[getD_some (show (cZ (fJ f l) (-1))[t]? =some ((fJ f l)[t]* -1) by rw[cZ,aN,aB h2];rfl)];obtain⟨z,hz,Ov⟩:=aT.1 h3;have hb:=vP OJ l.length (aF _) z hz;have hl:=OJ.len;rw[<-Ov,show(z:Rat)* -1=((-z:Int):Rat) by rw[Rat.intCast_neg];grind];exact Ib.int (by omega)
 ·rw[iU h];exact Ib.zero _
theorem Kd(hn:f.nodes.length<=20)(OJ:tz f.nodes.length l):∀q∈cZ (fJ f l) (-1),rl q<=5:=fun q hq=>by
 obtain⟨y,hy,rfl⟩:=aT.1 hq;have h1:=HS hn OJ y hy;have h2:=j9 y (-1);have h3:rl (-1)=1:=by decide
 omega
theorem Nn{n B h0 c:Nat}(hM:fX n M)(hW:BP M n B)(hB:1<=B)(hs:ln (fB B M.length)+1<=h0)(hc:c<=n):Ht (cM M c).1 h0:=fun r hr q hq=>by
 have:=r9 hM hW hB hc r hr q hq;omega
abbrev GR(f:fM):Nat->Rat:=fun t=>(cX f).getD t 0
set_option maxRecDepth 8000 in
theorem AA{vn vb vs vl:Value}(hS:Old S w)(hf:du w S vn vb vs f)(hl:jB w S vl l)(SN:eO f=0->sU f):
  eD PG N.pK #[.agg #[vn,vb,vs],vl] w (eG w fun v' w2=>(j3 f l≠0∧v'= .tuple #[.slice none 0 0,.int .i64 (j3 f l)])∨(j3 f l=0∧((fE (cP f) (cZ (fJ f l) (-1)) f.cols=none∧v'= .tuple #[.slice none 0 0,.int .i64 17])∨∃x vx,jm (cP f) f.cols (GR f) (cZ (fJ f l) (-1)) x∧v'= .tuple #[vx,.int .i64 0]∧cL w2 (Nf w w2) vx x))):=by
 have hw:=bR w;obtain⟨an,cn,ab,cb,aq,cq,rfl,rfl,rfl,Qw,RX,SG⟩:=hf.shape;obtain⟨al,cl,rfl,Po,Qu⟩:=hl.shape;obtain⟨e0,EE⟩:∃e,j3 f l=e:=⟨_,rfl⟩
 refine ta (by simp) ?_;refine cD (cE hw (fun _ w' v w2=>v= .int .i64 e0) (fun O w' r=>(pw (oS hS r) (hf.cI (kS hw r hS)) (hl.cI (kS hw r hS))).mono fun _ _ ⟨v2,e1,e2,e3⟩=>⟨v2,e1,e2,by rw[e3,EE]⟩) ?_);rintro O _ _ _ OM r he hw h_ rfl;refine dN.mk ?_ ?_<;>intro he
 ·have he:e0≠0:=by simpa using he
  exact rtn hw fun ρe we re=>.inl ⟨by rw[EE];exact he,by rw[EE];rfl⟩
 have he:e0=0:=by simpa using he
 have TX:j3 f l=0:=by rw[EE,he]
 obtain⟨PO,QX⟩:=lQ TX;have Pz:=SN PO;have PU:=Pz.toFrS;have QX:=Cz QX;have US:=PU.Ic;have Td:=PU.Jf;have SD:=iV f;have hlen:=fT f;have hn4:=PU.n4;have OJ:=ni PO;have S6:=mM f l;have hc0:f.cols=f.bars.length+f.cU.length:=rfl;refine cN hτ dm [.x 0,.x 1,.x 2,.x 3,.x 4,.x 5,.x 6,.x 7,.x 8,.x 9] (by kernel_rfl) (by kernel_rfl) ?_;refine cE hw (fun _ w' v w2=>cL w2 (Nf w' w2) v (fJ f l)∧∀q∈fJ f l,rl q<=1) (fun O w' r=>(Bd (oS hS r) (hl.cI (kS hw r hS)) PU.n QX rfl rfl).mono fun _ _ ⟨v2,e1,e2,e3,e4⟩=>⟨v2,e1,e2,cL.cJ e3.c fun g hg=>hg.new,e4⟩) ?_;rintro O _ _ _ OK r he hw h_ ⟨hn,hvq⟩;have hP:=cL.dE (S:=FF) hn r.cF (mN h_);obtain⟨ap,cp,rfl,-,-⟩:=dM.shape hP;rw[S6];refine cO (Φ:=fun _ w' v w2=>(fE (cP f) (cZ (fJ f l) (-1)) f.cols=none∧v= .tuple #[.slice none 0 0,.bool false])∨∃x vx,jm (cP f) f.cols (GR f) (cZ (fJ f l) (-1)) x∧v= .tuple #[vx,.bool true]∧cL w2 (Nf w' w2) vx x) (fun O w' r=>Bq (S:=fun g=>S g∨Cf w OK g) (fun g hg=>hg.elim (oS hS r g) (Rel.old r (cC w) g)) (du.cJ (hf.cI (kS hw r hS)) fun g hg=>.inl hg) PO Pz (cL.cJ (by have:=cL.rel hP r (cC w);rw[S6]at this;exact this) fun g hg=>.inr hg) S6 (fun q hq=>by have:=hvq q hq;omega) (DH QX)) ?_;rintro O PQ v3 PN r he hb (⟨SK,rfl⟩|⟨x,vx,hx,rfl,hn⟩)
 ·replace hw:=hw.tr hb;exact rtn hw fun ρe we re=>.inr ⟨TX,.inl ⟨SK,rfl⟩⟩
 replace hw:=hw.tr hb;have hX:=cL.dE (S:=FF) hn r.cF (iv:=(PQ.heap.size,PN.heap.size)::OK) aG;generalize (PQ.heap.size,PN.heap.size)::OK=ivx at*
 obtain⟨ax,cx,rfl,-,-⟩:=dM.shape hX;exact rtn hw fun ρe we re=>.inr ⟨TX,.inr ⟨x,_,hx,rfl,cL.out hX re (cC w)⟩⟩
theorem Ke(h:eO f≠0∨f.nodes.length<=4∧f.bars.length<=6)(hb:∀b∈f.bars,rl b.2.2<=3)(hs:∀b∈f.cU,rl b.2.2<=3)(h0:eO f=0):sU f:=
 ⟨NI h h0,fun q hq=>by
  rcases bG.1 hq with h|h
  ·obtain⟨b,QH,rfl⟩:=aT.1 h;exact hb b QH
  ·obtain⟨b,QH,rfl⟩:=aT.1 h;exact hs b QH⟩
end Go.Ex
namespace Go.Ex
section
variable{f:fM}{b y s z:List Rat}{c:Rat}
end
end Go.Ex
namespace Go.Ex
open Go Go.Sx Go.Proofs
variable{H:Hp}{iv:Iv}{css:List (List Value)}{l:List Ld}{b qs x:List Rat}{cs xs:List Value}{B nx:Nat}{S:Nat->Prop}{O:Nat->Sx.dg}{a:Option Addr}{v vb vn vs:Value}{w:World}{f:fM}
theorem Kf(h:sU f){h0:Nat}(hx:x.length<=f.cols)(hq:∀q∈x,rl q<=h0):∀q∈ew x (cX f),rl q<=h0+3:=fun q QA=>by
 obtain⟨t,ht⟩:=aU QA;have Tf:t<x.length:=by have:=(aD.1 ht).1;rw[je]at this;exact this
 have h1:=mr (a:=x) (b:=cX f) Tf;rw[getD_some ht]at h1;have h2:=j9 (x.getD t 0) ((cX f).getD t 0);have h3:=hq (x.getD t 0) (by rw[getD_some (aB Tf)];exact aY _);have h4:=h.OB (t:=t) (by omega);rw[h1];omega
set_option maxRecDepth 8000 in
set_option maxHeartbeats 1000000 in
theorem mO{vl:Value}(hS:Old S w)(hf:du w S vn vb vs f)(hl:jB w S vl l)(SN:eO f=0->sU f):
  eD PG N.mx #[.agg #[vn,vb,vs],vl] w (eG w fun v' w2=>(j3 f l≠0∧v'= .tuple #[.slice none 0 0,.slice none 0 0,.int .i64 (j3 f l)])∨(j3 f l=0∧((jn (cP f) f.cols<(cP f).length∧v'= .tuple #[.slice none 0 0,.slice none 0 0,.int .i64 17])∨
   (jn (cP f) f.cols=(cP f).length∧∃x u vx vu,jm (cP f) f.cols (GR f) (cZ (fJ f l) (-1)) x∧fE (eK (cP f) f.cols) (cZ (ew x (cX f)) (-1)) (cP f).length=some u∧v'= .tuple #[vu,vx,.int .i64 0]∧cL w2 (Nf w w2) vu u∧cL w2 (Nf w w2) vx x)))):=by
 have hw:=bR w;obtain⟨an,cn,ab,cb,aq,cq,rfl,rfl,rfl,Qw,RX,SG⟩:=hf.shape;obtain⟨al,cl,rfl,Po,Qu⟩:=hl.shape;obtain⟨e0,EE⟩:∃e,j3 f l=e:=⟨_,rfl⟩
 refine qd (by simp) ?_;conv=>whnf
 refine cD (cE hw (fun _ w' v w2=>v= .int .i64 e0) (fun O w' r=>(pw (oS hS r) (hf.cI (kS hw r hS)) (hl.cI (kS hw r hS))).mono fun _ _ ⟨v2,e1,e2,e3⟩=>⟨v2,e1,e2,by rw[e3,EE]⟩) ?_);rintro O _ _ _ OM r he hw h_ rfl;clear r;conv=>whnf
 refine dN.mk ?_ ?_<;>intro he
 ·have he:e0≠0:=by simpa using he
  conv=>whnf
  exact rtn hw fun ρe we re=>.inl ⟨by rw[EE];exact he,by rw[EE];rfl⟩
 have he:e0=0:=by simpa using he
 have TX:j3 f l=0:=by rw[EE,he]
 obtain⟨PO,QX⟩:=lQ TX;have Pz:=SN PO;have PU:=Pz.toFrS;have QX:=Cz QX;clear EE he;have US:=PU.Ic;have Td:=PU.Jf;have SD:=iV f;have hlen:=fT f;have hn4:=PU.n4;have OJ:=ni PO;have S6:=mM f l;have hc0:f.cols=f.bars.length+f.cU.length:=rfl;conv=>whnf
 refine cD (cE hw (fun _ w' v w2=>∃vr,v= .agg #[vr,.int .i64 f.cols]∧cT w2 (Nf w' w2) vr (cP f)) (fun O w' r=>(sL (S:=S) (oS hS r) (hf.cI (kS hw r hS)) OJ).mono fun _ _ ⟨v2,e1,e2,e3,_⟩=>⟨v2,e1,e2,e3⟩) ?_);rintro O _ v2 _ OK r he hw h_ ⟨vr,rfl,hn⟩;have hM:=cT.dE (S:=FF) hn r.cF (mN h_);clear r he;clear hn;obtain⟨am,cm,rfl,-,-⟩:=db.shape hM;conv=>whnf
 refine cN hτ dm [.x 0,.x 1,.x 2,.x 7,.x 8,.x 9,.x 3,.x 4,.x 5,.x 6,.x 10] (by kernel_rfl) (by kernel_rfl) ?_;conv=>whnf
 refine cE hw (fun _ w' v w2=>∃vr vp vf,v= .agg #[vr,.int .i64 f.cols,vp,vf]∧cT w2 (Nw (Cf w OK) w' w2) vr (dR (cP f) f.cols).1) (fun O w' r=>(zz (C:=Cf w OK) (S:=Cf w OK) (h:=20) (Rel.old r (cC w)) (Rel.old r (cC w)) (cT.rel hM r (cC w)) hlen (by omega) (by omega) (nJ hlen PU.k8 (by decide) (by have:=PU.size;omega)) (by decide)).mono fun _ _ ⟨v2,e1,e2,vr,vp,vf,k1,k2,_,_⟩=>⟨v2,e1,e2,vr,vp,vf,k1,k2⟩) ?_;rintro O _ _ _ OS r he hw h_ ⟨vr2,vp2,vf2,rfl,hn⟩;replace hM:=cT.cG hM r (cC w) he (mC h_);clear r he;obtain⟨ar,cr,rfl,-,-⟩:=db.shape hn;have Ue:(dR (cP f) f.cols).1.length=jn (cP f) f.cols:=by
  rw[(lG hlen PU.k8).2,aV,Nat.min_eq_left (im _ _ hlen).1]
 rw[Ue];obtain⟨nr,Tv⟩:∃nr,jn (cP f) f.cols=nr:=⟨_,rfl⟩
 rw[Tv];clear hn Ue;conv=>whnf
 refine dN.mk ?_ ?_<;>intro OU
 ·have OU:nr<(cP f).length:=by have:=aI OU;omega
  conv=>whnf
  exact rtn hw fun ρe we re=>.inr ⟨TX,.inl ⟨OU,rfl⟩⟩
 have OU:(cP f).length<=nr:=by have:=aH OU;omega
 have Q4:jn (cP f) f.cols=(cP f).length:=by
  have h1:=yt hlen;have h2:=(im (eK (cP f) f.cols) (cP f).length (gi _ _)).2;rw[Tv]at h1 ⊢;have h1:(cM (eK (cP f) f.cols) (cP f).length).2.length=nr:=h1;omega
 have Pf:=DH QX;have S9:(cZ (fJ f l) (-1)).length=(cP f).length:=by rw[cZ,aJ,S6,SD]
 conv=>whnf
 refine cN hτ dm [.x 0,.x 1,.x 2,.x 3,.x 4,.x 5,.x 6,.x 7,.x 8,.x 9] (by kernel_rfl) (by kernel_rfl) ?_;conv=>whnf
 refine cE hw (fun _ w' v w2=>cL w2 (Nf w' w2) v (fJ f l)∧∀q∈fJ f l,rl q<=1) (fun O w' r=>(Bd (oS hS r) (hl.cI (kS hw r hS)) PU.n QX rfl rfl).mono fun _ _ ⟨v2,e1,e2,e3,e4⟩=>⟨v2,e1,e2,cL.cJ e3.c fun g hg=>hg.new,e4⟩) ?_;rintro O _ _ _ Oe r he hw h_ ⟨hn,hvq⟩;replace hM:=cT.cG hM r (cC w) he (mC h_);have hP:=cL.dE (S:=FF) hn r.cF (mN h_);clear r he;clear hn;obtain⟨ap,cp,rfl,-,-⟩:=dM.shape hP;rw[S6];conv=>whnf
 refine cO (Φ:=fun _ w' v w2=>(fE (cP f) (cZ (fJ f l) (-1)) f.cols=none∧v= .tuple #[.slice none 0 0,.bool false])∨∃x vx,jm (cP f) f.cols (GR f) (cZ (fJ f l) (-1)) x∧v= .tuple #[vx,.bool true]∧cL w2 (Nf w' w2) vx x) (fun O w' r=>Bq (S:=fun g=>S g∨Cf w Oe g) (fun g hg=>hg.elim (oS hS r g) (Rel.old r (cC w) g)) (du.cJ (hf.cI (kS hw r hS)) fun g hg=>.inl hg) PO Pz (cL.cJ (by have:=cL.rel hP r (cC w);rw[S6]at this;exact this) fun g hg=>.inr hg) S6 (fun q hq=>by have:=hvq q hq;omega) (DH QX)) ?_;rintro O Rr v5 Rg r he hb (⟨SK,rfl⟩|⟨x,vx,hx,rfl,hn⟩)
 ·obtain⟨x,hx⟩:=BY (b:=cZ (fJ f l) (-1)) hlen Q4;rw[SK]at hx
  cases hx
 replace hw:=hw.tr hb;replace hM:=cT.cG (iv':=(Rr.heap.size,Rg.heap.size)::Oe) hM r (cC w) he fun x hx=>List.mem_cons_of_mem _ hx;have hX:=cL.dE (S:=FF) hn r.cF (iv:=(Rr.heap.size,Rg.heap.size)::Oe) aG;clear r he hb hn;generalize (Rr.heap.size,Rg.heap.size)::Oe=ivx at*
 obtain⟨ax,cx,rfl,-,-⟩:=dM.shape hX;have PW:=hx.len;have Sp:=Pz.Ng Pf S9 hx;obtain⟨u,hu⟩:=hx.Mp hlen;have hwT:=Pz.Hy PW (Pz.Jl Pf S9 hx);have hzT:ln (fB (wt 156) (jl (eK (cP f) f.cols) (cZ (ew x (cX f)) (-1))).length)<=2827:=Pz.Fj;have Q9:=uZ (M:=eK (cP f) f.cols) (b:=cZ (ew x (cX f)) (-1)) (gi _ _) hwT;rw[hu]at Q9;have VS:=Kf Pz (Nat.le_of_eq PW) Sp;conv=>whnf
 refine cN hτ dm [.x 0,.x 2,.x 3,.x 1,.x 4,.x 5,.x 6,.x 7,.x 8,.x 9,.x 10,.x 11,.x 12,.x 13] (by kernel_rfl) (by kernel_rfl) ?_;conv=>whnf
 refine cO (Φ:=fun _ w' v w2=>∃vr,v= .agg #[vr,.int .i64 (cP f).length]∧cT w2 (Nw (Cf w ivx) w' w2) vr (eK (cP f) f.cols)) (fun O w' r=>Al (C:=Cf w ivx) (S:=Cf w ivx) (Rel.old r (cC w)) (Rel.old r (cC w)) (cT.rel hM r (cC w)) hlen (by omega) (by omega)) ?_;rintro O SI v6 SO r he hb ⟨vt,rfl,hn⟩;replace hw:=hw.tr hb;clear hM;replace hX:=cL.cG (iv':=(SI.heap.size,SO.heap.size)::ivx) hX r (cC w) he fun x hx=>List.mem_cons_of_mem _ hx;have hT:=cT.old hn r.cF;clear r he hb;generalize (SI.heap.size,SO.heap.size)::ivx=Qy at*
 clear hn;obtain⟨at_,ct,rfl,-,-⟩:=db.shape hT;conv=>whnf
 refine cO (Φ:=fun _ w' v w2=>cV w2 (Nw S w' w2) v (cX f)) (fun O w' r=>Be (S:=S) (oS hS r) (hf.cI (kS hw r hS)) OJ) ?_;rintro O Um v7 Un r he hb hn;replace hw:=hw.tr hb;replace hX:=cL.cG (iv':=(Um.heap.size,Un.heap.size)::Qy) hX r (cC w) he fun x hx=>List.mem_cons_of_mem _ hx;replace hT:=cT.cG (iv':=(Um.heap.size,Un.heap.size)::Qy) hT r (cC w) he fun x hx=>List.mem_cons_of_mem _ hx;have hL:=cV.cJ (S':=Cv S w.heap.size ((Um.heap.size,Un.heap.size)::Qy)) hn fun g hg=>hg.elim .inl fun h=>.inr ⟨by have:=r.cF;omega,_,_,aG,h.1,h.2⟩;clear r he hb;generalize (Um.heap.size,Un.heap.size)::Qy=TN at*
 clear hn;obtain⟨afl,cfl,rfl,-,-⟩:=dM.shape hL;conv=>whnf
 refine cE hw (fun _ w' v w2=>cL w2 (Nf w' w2) v (ew x (cX f))) (fun O w' r=>(HM (S:=Cv S w.heap.size TN) (Rel.old r hS) (cV.cJ (cL.l (cL.rel hX r (cC w)) fun q hq=>by have:=Sp q hq;omega) fun g hg=>Aj hg) (cV.rel hL r hS) (by rw[PW,oG];exact aF _) (by omega)).mono fun _ _ ⟨v2,e1,e2,e3⟩=>⟨v2,e1,e2,cL.cJ e3.c fun g hg=>hg.new⟩) ?_;rintro O _ _ _ Q2 r he hw h_ hn;replace hX:=cL.cG hX r (cC w) he (mC h_);replace hT:=cT.cG hT r (cC w) he (mC h_);clear hL;have hE:=cL.dE (S:=FF) hn r.cF (mN h_);clear r he;clear hn;obtain⟨ae,ce,rfl,-,-⟩:=dM.shape hE;conv=>whnf
 refine cE hw (fun _ w' v w2=>cS w2 (Nf w' w2) v ((-1:Int):Rat)) (fun O w' r=>lO (-1) w' (by decide) (by decide)) ?_;rintro O _ _ _ R5 r he hw h_ hn;replace hX:=cL.cG hX r (cC w) he (mC h_);replace hT:=cT.cG hT r (cC w) he (mC h_);replace hE:=cL.cG hE r (cC w) he (mC h_);have hd:=hn.dE (S:=FF) r.cF (mN h_);clear r he hn;obtain⟨A0,A1,A2,A3,A4,A5,A6,A7,rfl⟩:=hd.shape;conv=>whnf
 refine cE hw (fun _ w' v w2=>cL w2 (Nf w' w2) v (cZ (ew x (cX f)) (-1))) (fun O w' r=>(B8 (S:=Cf w R5) (Rel.old r (cC w)) (cL.l (cL.rel hE r (cC w)) fun q hq=>by have:=VS q hq;omega) ((hd.rel r (cC w)).l (by decide)) (by rw[je];omega)).mono fun _ _ ⟨v2,e1,e2,e3⟩=>⟨v2,e1,e2,cL.cJ e3.c fun g hg=>hg.new⟩) ?_;rintro O _ _ _ RP r he hw h_ hn;replace hX:=cL.cG hX r (cC w) he (mC h_);replace hT:=cT.cG hT r (cC w) he (mC h_);clear hE;clear hd;have hG:=cL.dE (S:=FF) hn r.cF (mN h_);clear r he;clear hn;obtain⟨ag,cg,rfl,-,-⟩:=dM.shape hG;conv=>whnf
 refine cO (Φ:=fun _ w' v w2=>∃vu,v= .tuple #[vu,.bool true]∧da w2 (Cf w RP) w'.heap.size [(w'.heap.size,w2.heap.size)] vu (cP f).length u) (fun O w' r=>(Ea (C:=Cf w RP) (S:=Cf w RP) (h:=2830) (Rel.old r (cC w)) (Rel.old r (cC w)) (cT.rel hT r (cC w)) (cL.rel hG r (cC w)) (by rw[cZ,aJ,je,eV];exact PW) (gi _ _) (by omega) (by rw[eV];omega) (nJ (gX (gi _ _)) hwT mX (by omega)) (by decide)).mono fun _ _ ⟨v2,e1,e2,e3⟩=>⟨v2,e1,e2,by
  rcases e3 with⟨k1,_⟩|⟨x2,vx,k1,k2,k3⟩
  ·rw[Q9]at k1;cases k1
  ·rw[Q9]at k1;injection k1 with k1;subst k1;exact⟨vx,k2,k3⟩⟩) ?_
 rintro O Qz v11 RO r he hb ⟨vu,rfl,hn⟩;replace hw:=hw.tr hb;replace hX:=cL.cG (iv':=(Qz.heap.size,RO.heap.size)::RP) hX r (cC w) he fun x hx=>List.mem_cons_of_mem _ hx;clear hT;clear hG;have hU:=hn.Nk r.cF;clear r he hb;generalize (Qz.heap.size,RO.heap.size)::RP=Qn at*
 clear hn;obtain⟨au,cu,rfl,hcu⟩:=hU.row.form;conv=>whnf
 exact rtn hw fun ρe we re=>.inr ⟨TX,.inr ⟨Tv.symm.trans Q4,x,u,_,_,hx,hu,rfl,cL.out hU.c re (cC w),cL.out hX re (cC w)⟩⟩
theorem pick{α β γ:Type}{P:β->γ->Prop}(f:γ->α):∀(cs:List β) (xs:List α),cs.length=xs.length->(∀(j:Nat) c x,cs[j]? =some c->xs[j]? =some x->∃y,P c y∧f y=x)->∃ys:List γ,ys.map f=xs∧∀(j:Nat) c y,cs[j]? =some c->ys[j]? =some y->P c y
 |[],[],_,_=>⟨[],rfl,fun _ _ _ h=>by simp at h⟩
 |c::cs,x::xs,hl,h=>by
  obtain⟨y,h1,h2⟩:=h 0 c x rfl rfl;obtain⟨ys,h3,h4⟩:=pick f cs xs (by simpa using hl) fun j=>h (j+1);refine⟨y::ys,by rw[List.map_cons,h2,h3],fun j=>?_⟩
  cases j with
  |zero=>intro c' y' e1 e2;injection e1 with e1;injection e2 with e2;subst e1 e2;exact h1
  |succ j=>exact h4 j
 |[],_::_,hl,_=>by cases hl
 |_::_,[],hl,_=>by cases hl
section
variable{S:Nat->Prop}{w:World}{v u:Value}{M:List (List Rat)}{b:List Rat}{n h0:Nat}
theorem cV.iP(h:cV w S v qs):∃xs,nK w S v xs∧xs.map gI=qs:=by
 obtain⟨css,h1,h2,h3,h4⟩:=h;obtain⟨xs,hx,hp⟩:=pick (P:=fun cs x=>Aq w S cs x) gI css qs h2 fun j cs q k1 k2=>by
  obtain⟨b,a,n,c,b2,a2,n2,c2,e,hr⟩:=h4 j cs q k1 k2;obtain⟨z1,z2,r1,r2⟩:=hr.r;exact⟨(z1,z2),⟨b,a,n,c,b2,a2,n2,c2,e,r1⟩,r2⟩
 have hl:xs.length=qs.length:=by rw[<-hx,aJ]
 exact⟨xs,⟨css,by rw[hl];exact h1,by rw[hl];exact h2,h3,hp⟩,hx⟩
theorem dO.iP(h:dO w S v M):∃P,il w S v P∧fS P=M:=by
 obtain⟨rv,h1,h2,h3⟩:=h;obtain⟨P,hx,hp⟩:=pick (P:=fun u x=>nK w S u x) (fun r:List (Int×Int)=>r.map gI) rv M h2 fun j u r k1 k2=>cV.iP (h3 j u r k1 k2);have hl:P.length=M.length:=by rw[<-hx,aJ]
 exact⟨P,⟨rv,by rw[hl];exact h1,by rw[hl];exact h2,hp⟩,hx⟩
theorem IX(hS:Old S w)(h:dO w S v M)(hb:cV w S u b)(hlen:fX n M)(Te:0<M.length∨n=0)(Pf:b.length=M.length)(hR:M.length<=1000)(hn:n<=999)(hB:∀c,c<=n->Ht (cM (dF M b) c).1 h0)(hh:3*h0<=90000):
  eD PG N.pU #[v,u] w (eG w fun v' w2=>(fE M b n=none∧v'= .tuple #[.slice none 0 0,.bool false])∨∃x vx,fE M b n=some x∧v'= .tuple #[vx,.bool true]∧cL w2 (Nf w w2) vx x):=by
 obtain⟨P,hP,hv⟩:=dO.iP h;obtain⟨xs,hx,hxv⟩:=cV.iP hb;subst hv hxv;have hPl:(fS P).length=P.length:=aJ ..;have hc:ek P=n:=by
  rw[<-Bm (fun r:List (Int×Int)=>r.map gI) (fun r=>aJ ..) P];show ek (fS P)=n;generalize fS P=M at hlen Te
  cases M with
  |nil=>
   rcases Te with h|h
   ·exact absurd h (Nat.lt_irrefl 0)
   ·exact h.symm
  |cons r M=>exact hlen r aG
 have OH:∀r∈P,r.length=ek P:=fun r hr=>by
  rw[hc,<-hlen _ (List.mem_map_of_mem hr)];exact(aJ ..).symm
 refine(IS (h0:=h0) hS hP h hb OH (by rw[aJ,hPl]at Pf;exact Pf) (by omega) (by omega) (by rw[hc];exact hB) hh).mono fun e w2 ⟨v2,e1,e2,e3⟩=>⟨v2,e1,e2,?_⟩
 rw[hc]at e3;unfold fE;rw[hPl];rcases e3 with⟨j,h1,h2,h3,h4⟩|⟨h1,vx,h2,h3⟩
 ·left;refine⟨?_,h4⟩;rw[aK fun Pv=>h3 (Pv j h2 h1)]
 ·right;refine⟨_,vx,if_pos fun j h4 h5=>h1 j h5 h4,h2,h3⟩
end
theorem dM.part{α:Type}{P:World->(Nat->Prop)->List Value->α->Prop}{n c:Nat}{xs:List α}(h:dM P w S (.slice a n c) xs){i m:Nat}(hi:i+m<=xs.length):
  dM P w S (.slice (if (c:Int)=(i:Int)then a else a.map (·.add (i*4))) m (c-i)) ((xs.drop i).take m):=by
 obtain⟨css,⟨h0,h1,h2,a',c',e,h3,h4⟩,hl,Uj,hf⟩:=h;injection e with e1 e2 e3;subst e1 e2 e3;have hlen:((css.drop i).take m).length=m:=by rw[aV,List.length_drop,hl];omega
 have Ub:((xs.drop i).take m).length=m:=by rw[aV,List.length_drop];omega
 have Ps:∀cs∈(css.drop i).take m,cs∈css:=fun cs hc=>List.mem_of_mem_drop (bc hc);have h5:∀cs∈(css.drop i).take m,cs.length=4:=fun cs hc=>Uj cs (Ps cs hc);have RZ:css.flatten=(css.take i).flatten++(((css.drop i).take m).flatten++((css.drop i).drop m).flatten):=by rw[<-List.flatten_append,<-List.flatten_append,List.take_append_drop,List.take_append_drop]
 have QD:(css.take i).flatten.length=i*4:=by rw[eH fun cs hc=>Uj cs (bc hc),aV,hl];omega
 refine⟨(css.drop i).take m,⟨by omega,?_,fun u hu=>h2 u (by rw[RZ];exact List.mem_append_right _ (List.mem_append_left _ hu)),_,c-i,by rw[Ub],by omega,fun j u hj=>?_⟩,by rw[hlen,Ub],h5,fun j cs x k1 k2=>?_⟩
 ·rw[eH h5,hlen,Ub]
 ·have Sc:=(aD.1 hj).1;rw[eH h5,hlen]at Sc;obtain⟨ad,q1,q2,q3⟩:=h4 (i*4+j) u (by rw[RZ,aM (by omega),QD,Nat.add_sub_cancel_left,aL (by rw[eH h5,hlen];exact Sc)];exact hj);subst q1;rw[aK (by omega)];refine⟨ad.add (i*4),rfl,by rw[dH];exact q2,?_⟩;rw[show (ad.add (i*4)).add j=ad.add (i*4+j) by unfold Addr.add;split<;>split<;>simp_all<;>omega];exact q3
 ·have hj:=(aD.1 k1).1;rw[hlen]at hj;rw[bU hj,List.getElem?_drop]at k1 k2;exact hf (i+j) cs x k1 k2
theorem FrV.Bt(h:FrV f)(hb:b.length=(cP f).length)(hr:jn (cP f) f.cols=(cP f).length):
  ∃x u,jm (cP f) f.cols (fun t=>(cX f).getD t 0) b x∧fE (eK (cP f) f.cols) (cZ (ew x (cX f)) (-1)) (cP f).length=some u∧u.length=(cP f).length∧
   fE (iK (cP f) f.cols (cX f)) (b++fg f.cols) ((cP f).length+f.cols)=some (u++x):=by
 have hM:=fT f;obtain⟨x0,h0⟩:=BY (b:=b) hM hr;obtain⟨c,-,-,hx⟩:=h.EF.force h0;obtain⟨u,hu⟩:=hx.Mp hM;obtain⟨k1,k2⟩:=EI hM hb hx hu;exact⟨_,u,hx,hu,(jR (gi _ _) hu).1,Hv (ju hM _) (Je h.EF hr) k1 k2⟩
theorem ownsRow.seq{e sz n:Nat}(h:w.ownsRow 0 e sz v n xs)(PF:∀u∈xs,u.oneCell'=true)(hS:∀g,v.ownBlock=some g->S g):iB w S sz v xs n:=by
 rcases h.2 with⟨e,h0⟩|⟨g,cap,cur,e,_,hc,hn,hm,hs,ht⟩
 ·have:xs=[]:=List.eq_nil_of_length_eq_zero (by rw[h.1,h0,Nat.zero_mul]);subst this;rw[e,h0];exact⟨aO _,by rw[Nat.zero_mul];rfl,by simp,none,0,rfl,aF _,fun j u h=>by cases h⟩
 ·subst e;exact⟨ah hn hm,h.1,PF,_,cap,rfl,hn,fun j u hu=>⟨_,rfl,hS g rfl,h.cells (g:=g) rfl j u hu⟩⟩
theorem iB.src{sz k:Nat}(h:iB w S sz v xs k)(Oq:0<sz):(∃c,v= .slice none 0 c∧k=0)∨∃ad c,v= .slice (some ad) k c∧∀(j:Nat) u,xs[j]? =some u->S ad.block∧w.cell? (ad.add j)=some u:=by
 obtain⟨_,hl,_,a,c,rfl,_,e3⟩:=h
 cases a with
 |none=>
  have h0:k=0:=by
   rcases bI k with h0|h0
   ·exact h0
   ·have:=Nat.mul_pos h0 Oq;obtain⟨ad2,q1,_⟩:=e3 0 _ (aB (show 0<xs.length by omega))
    cases q1
  subst h0;exact .inl ⟨c,rfl,rfl⟩
 |some ad=>
  refine .inr ⟨ad,c,rfl,fun j u hu=>?_⟩;obtain⟨ad2,q1,q2,q3⟩:=e3 j u hu;injection q1 with q1;subst q1;exact⟨q2,q3⟩
theorem dW.app{Qo:List (List Value)}{qs2:List Rat}(h:dW w S css qs)(h2:dW w S Qo qs2):dW w S (css++Qo) (qs++qs2):=by
 refine⟨by rw[List.length_append,List.length_append,h.len,h2.len],fun cs hc=>(bG.1 hc).elim (h.four cs) (h2.four cs),fun j cs q k1 k2=>?_⟩;rcases aP j css.length with hj|hj
 ·rw[aL hj]at k1;rw[aL (by rw[<-h.len];exact hj)]at k2;exact h.at_ j cs q k1 k2
 ·rw[aM hj]at k1;rw[aM (by rw[<-h.len];exact hj),<-h.len]at k2;exact h2.at_ _ cs q k1 k2
theorem Cv.Np{x:Nat}(h:Cv S B (uG v iv) x):Cv S B iv x:=by
 rcases h with h|⟨hb,lo,hi,h1,h2,h3⟩
 ·exact .inl h
 ·obtain⟨a,b,k1,k2,k3,_⟩:=uH h1;exact .inr ⟨hb,a,b,k1,by omega,by omega⟩
theorem dW.toL(h:dW w S css qs)(hr:∀q∈qs,rl q<=100000):nI 4 jd w S css qs:=
 ⟨h.len,h.four,fun j cs q k1 k2=>by
  obtain⟨b,a,n,c,b2,a2,n2,c2,e,hq⟩:=h.at_ j cs q k1 k2
  exact⟨b,a,n,c,b2,a2,n2,c2,e,hq.l (hr q (aC k2))⟩⟩
theorem nI.put{α:Type}{k m:Nat}{P:World->(Nat->Prop)->List Value->α->Prop}{qs:List α}{c:List Value}{q:α}(h:nI k P w S css qs)(hc:c.length=k)(hq:P w S c q):nI k P w S (css.set m c) (qs.set m q):=by
 refine⟨by rw[bE,bE,h.len],fun cs Om=>?_,fun j cs p k1 k2=>?_⟩
 ·rcases bJ Om with h1|h1
  ·exact h.wid cs h1
  ·rw[h1];exact hc
 ·rw[List.getElem?_set]at k1 k2;by_cases e:m=j
  ·subst e;rw[if_pos rfl]at k1 k2;split at k1
   ·injection k1 with k1;rw[if_pos (by rw[<-h.len];assumption)]at k2;injection k2 with k2;rw[<-k1,<-k2];exact hq
   ·cases k1
  ·rw[aK e]at k1 k2;exact h.at_ j cs p k1 k2
theorem IY{q:Rat}(h:jd w S cs q):∀u∈cs,u.oneCell'=true:=fun u hu=>by
 obtain⟨_,_,_,_,_,_,_,_,rfl,_⟩:=h;simp at hu;rcases hu with rfl|rfl|rfl|rfl<;>rfl
theorem oS0{w1 w':World}(hS:Old S w)(r:Rel H nx iv w.heap.size w1 O w'):Old S w':=fun g hg=>by have:=hS g hg;have:=r.cF;omega
theorem NJ{w' w2:World}{v':Value}(r:Rel H nx iv B w O w')(OG:∀g,v.ownBlock=some g->∀id b,dB H id=some b->(O id).nil=false->(O id).g≠g)(Oq:w'.heap.size<=w2.heap.size)(Qc:∀g,v'.ownBlock=some g->g<w2.heap.size∧(v.ownBlock=some g∨g=w'.heap.size)):
  ∀lo hi,(lo,hi)∈mP v'++iv->hi<=w2.heap.size∧∀id b,dB H id=some b->(O id).nil=false->¬(lo<=(O id).g∧(O id).g<hi):=fun lo hi hm=>by
 rcases bG.1 hm with hm|hm
 ·obtain⟨hg,rfl⟩:=qX.1 hm;obtain⟨h1,h2⟩:=Qc _ hg;refine⟨by omega,fun id c hc hn he=>?_⟩;rcases h2 with h2|h2
  ·exact OG _ h2 id c hc hn (by omega)
  ·have:=(r.low id c hc hn).2;omega
 ·have:=r.oe lo hi hm;have:=r.size;exact⟨by omega,fun id c hc hn=>r.jo lo hi hm id c hc hn⟩
set_option maxRecDepth 8000 in
set_option maxHeartbeats 2000000 in
theorem wh{vl:Value}(hS:Old S w)(hf:du w S vn vb vs f)(hl:jB w S vl l)(PO:eO f=0)(Pz:sU f)(QX:tz f.nodes.length l):
  eD PG N.pI #[.agg #[vn,vb,vs],vl] w (eG w fun v' w2=>(jn (cP f) f.cols<(cP f).length∧v'= .tuple #[.slice none 0 0,.slice none 0 0,.int .i64 17])∨(jn (cP f) f.cols=(cP f).length∧∃x u vx vu,jm (cP f) f.cols (GR f) (cZ (fJ f l) (-1)) x∧fE (eK (cP f) f.cols) (cZ (ew x (cX f)) (-1)) (cP f).length=some u∧v'= .tuple #[vu,vx,.int .i64 0]∧cL w2 (Nf w w2) vu u∧cL w2 (Nf w w2) vx x)):=by
 have hw:=bR w;obtain⟨an,cn,ab,cb,aq,cq,rfl,rfl,rfl,Qw,RX,SG⟩:=hf.shape;obtain⟨al,cl,rfl,Po,Qu⟩:=hl.shape;have PU:=Pz.toFrS;have US:=PU.Ic;have Td:=PU.Jf;have SD:=iV f;have hlen:=fT f;have hn4:=PU.n4;have OJ:=ni PO;have S6:=mM f l;have hc0:f.cols=f.bars.length+f.cU.length:=rfl;have Pf:=DH QX;have VS:=Kd PU.n QX;have S9:(cZ (fJ f l) (-1)).length=(cP f).length:=by rw[cZ,aJ,S6,SD]
 obtain⟨nr,Tv⟩:∃nr,jn (cP f) f.cols=nr:=⟨_,rfl⟩
 have Ue:=yt hlen;refine tY (by simp) ?_;refine cD (cE hw (fun _ w' v w2=>v= .agg #[.int .i64 nr,.int .i64 ((f.cols:Int)-nr),.int .i64 ((3*f.nodes.length:Nat)-nr)]) (fun O w' r=>(KY (oS hS r) (hf.cI (kS hw r hS)) PO PU).mono fun _ _ ⟨v2,e1,e2,e3⟩=>⟨v2,e1,e2,by rw[<-Tv];exact e3⟩) ?_);rintro O _ _ _ OM r he hw h_ rfl;clear r;refine dN.mk ?_ ?_<;>intro hk
 ·have OU:nr<(cP f).length:=by have:=aI hk;omega
  exact rtn hw fun ρe we re=>.inl ⟨by rw[Tv];exact OU,rfl⟩
 have hle:(cP f).length<=nr:=by have:=aH hk;omega
 have Q4:jn (cP f) f.cols=(cP f).length:=by
  have h2:=(im (eK (cP f) f.cols) (cP f).length (gi _ _)).2;rw[Tv]at Ue ⊢;have h3:jn (eK (cP f) f.cols) (cP f).length<=(cP f).length:=h2;omega
 clear hk hle Tv Ue;refine cN hτ dm [.x 0,.x 1,.x 2,.x 3,.x 4,.x 5,.x 6,.x 7] (by kernel_rfl) (by kernel_rfl) ?_;refine⟨((3*f.nodes.length:Nat):Int),wo,?_⟩;refine cE hw (fun _ w' v w2=>v= .int .i64 f.cols) (fun O w' r=>qB (hf.cI (kS hw r hS)) ⟨PU.b,PU.s⟩) ?_;rintro O _ v2 _ OK r he hw h_ rfl;clear r;refine cD (cE hw (fun _ w' v w2=>j1 w2 (Nf w' w2) v (fD f)∧FG (fD f) 2000000) (fun O w' r=>Bj (oS hS r) (hf.cI (kS hw r hS)) PO) ?_);rintro O _ _ _ OS r he hw h_ ⟨hn,Rq⟩;have hZ:=j1.dE (S:=FF) hn r.cF (mN h_);clear r;clear hn;obtain⟨az,cz,rfl,-,-⟩:=db.shape hZ;refine cD (cE hw (fun _ w' v w2=>cL w2 (Nf w' w2) v (fJ f l)) (fun O w' r=>IT (oS hS r) (hf.cI (kS hw r hS)) (hl.cI (kS hw r hS)) PU.n QX) ?_);rintro O _ _ _ Oe r he hw h_ hn;replace hZ:=j1.cG hZ r (cC w) he (mC h_);have hP:=cL.dE (S:=FF) hn r.cF (mN h_);clear r;clear hn;obtain⟨ap,cp,rfl,-,-⟩:=dM.shape hP;have hvq:=HS PU.n QX
 (try rw[S6])
 refine cD (cO (Φ:=fun _ w' v w2=>da w2 FF w'.heap.size [(w'.heap.size,w2.heap.size)] v (3*f.nodes.length) (cZ (fJ f l) (-1))) (fun O w' r=>(DE (Rel.old r (cC w)) (cL.l (by have:=cL.rel hP r (cC w);try rw[S6]at this;exact this) fun q hq=>by have:=hvq q hq;omega) (by omega) (fun q hq=>by have:=hvq q hq;omega)).mono fun _ _ ⟨v2,e1,e2,e3⟩=>⟨v2,e1,e2,S6▸e3⟩) ?_);rintro O RT v8 Qm r he hb hn;replace hw:=hw.tr hb;have So:∀g,Cf w Oe g->v8.ownBlock≠some g:=fun g hg e=>by
  have h1:=Rel.old r (cC w) g hg;rcases(hn.new g e).new with h|h
  ·exact h
  ·omega
 have OP:∀p,p∈Oe->p∈(RT.heap.size,Qm.heap.size)::Oe:=fun p hp=>List.mem_cons_of_mem _ hp;have VU:j1 Qm (fun g=>Cf w ((RT.heap.size,Qm.heap.size)::Oe) g∧v8.ownBlock≠some g) _ _:=j1.cJ (j1.cI (hZ.rel r (cC w)) fun g hg=>he.block g (Rel.old r (cC w) g hg)) fun g hg=>⟨hg.mono OP,So g hg⟩
 obtain⟨⟨css,b1,b2,b3⟩,b4⟩:=hn;have Qp:∀g,v8.ownBlock=some g->Cf w ((RT.heap.size,Qm.heap.size)::Oe) g:=fun g hg=>(b4 g hg).new.dE r.cF aG;have hGb:dW Qm (fun g=>Cf w ((RT.heap.size,Qm.heap.size)::Oe) g∧v8.ownBlock≠some g) css (cZ (fJ f l) (-1)):=
  ⟨b3.1,b3.tv,fun j cs q k1 k2=>(b3.2 j cs q k1 k2).cJ fun g hg=>⟨hg.1.new.dE r.cF aG,hg.2⟩⟩
 clear r he hb hZ hP So b3 b4 OP;generalize (RT.heap.size,Qm.heap.size)::Oe=Q2 at*
 obtain⟨a8,c8,rfl,hc8⟩:∃a c,v8= .slice a (3*f.nodes.length) c∧3*f.nodes.length<=c:=by
  rcases b1.2 with⟨e,h0⟩|⟨g,cap,cur,e,_,_,hn,_⟩
  ·exact⟨none,0,by rw[e,h0],by omega⟩
  ·exact⟨_,_,e,hn⟩
 refine cD (cO (Φ:=fun _ w' v w2=>cL w2 (Nf w' w2) v (fg f.cols)) (fun O w' r=>Em f.cols w' (by omega)) ?_);rintro O Qf v9 Q3 r he hb hn;replace hw:=hw.tr hb;have OP:∀p,p∈Q2->p∈(Qf.heap.size,Q3.heap.size)::Q2:=fun p hp=>List.mem_cons_of_mem _ hp;have OW:∀g,Cf w Q2 g->Q3.heap[g]? =Qm.heap[g]? :=fun g hg=>(he.block g (Rel.old r (cC w) g hg)).trans (Rel.same r (cC w) hg);have OU:∀g,Cf w Q2 g->g<Qf.heap.size:=fun g hg=>Rel.old r (cC w) g hg;replace b1:=ownsRow.cI b1 fun g hg=>OW g (Qp g hg);replace VU:=j1.cJ (S':=(fun g=>Cf w ((Qf.heap.size,Q3.heap.size)::Q2) g∧(Value.slice a8 (3*f.nodes.length) c8).ownBlock≠some g)) (j1.cI VU fun g hg=>OW g hg.1) fun g hg=>⟨hg.1.mono OP,hg.2⟩
 replace hGb:=dW.cJ (S':=(fun g=>Cf w ((Qf.heap.size,Q3.heap.size)::Q2) g∧(Value.slice a8 (3*f.nodes.length) c8).ownBlock≠some g)) (dW.cI hGb fun g hg=>OW g hg.1) fun g hg=>⟨hg.1.mono OP,hg.2⟩
 obtain⟨Qo,z1,z2,z3,z4⟩:=cL.cJ (S':=(fun g=>Cf w ((Qf.heap.size,Q3.heap.size)::Q2) g∧(Value.slice a8 (3*f.nodes.length) c8).ownBlock≠some g)) hn fun g hg=>⟨hg.dE r.cF aG,fun e=>by
  have h1:=OU g (Qp g e);rcases hg with h|h
  ·exact h
  ·omega⟩
 replace Qp:∀g,(Value.slice a8 (3*f.nodes.length) c8).ownBlock=some g->Cf w ((Qf.heap.size,Q3.heap.size)::Q2) g:=fun g hg=>(Qp g hg).mono OP;have Uo:dW Q3 (fun g=>Cf w ((Qf.heap.size,Q3.heap.size)::Q2) g∧(Value.slice a8 (3*f.nodes.length) c8).ownBlock≠some g) Qo (fg f.cols):=⟨z2,z3,z4⟩
 have RG:(fg f.cols).length=f.cols:=bC;rw[RG]at z1;clear r he hb hn OW OU OP z2 z3 z4;generalize (Qf.heap.size,Q3.heap.size)::Q2=R5 at*
 have Ux:=z1.src (by decide);obtain⟨-,Qd,Ou,a9,c9,rfl,-,-⟩:=z1
 refine .inr (rN hτ (aO _) (xs:=css.flatten) (news:=Qo.flatten) (m:=3*f.nodes.length) (k:=f.cols) (by rfl) (by rfl) (by decide) (by rfl) (by rfl) (fun O w' r=>⟨ownsRow.cI b1 fun g hg=>Rel.same r (cC w) (Qp g hg),fun g hg=>Rel.not r (cC w) (Qp g hg)⟩) Qd Ou (by unfold maxLen;omega) (by omega)
  (fun O w' r=>?_) (fun v' w2=>mP v'++R5) (fun O w' v' w2 r Oq Qc=>NJ r (fun g hg=>Rel.not r (cC w) (Qp g hg)) Oq Qc) (fun O w' v' w2 r h5 h6 h7=>?_))
 ·rcases Ux with⟨c,e1,e2⟩|⟨ad,c,e1,e2⟩
  ·exact .inl ⟨c,e1,e2⟩
  ·exact .inr ⟨ad,c,e1,fun j u hu=>by
    obtain⟨k1,k2⟩:=e2 j u hu;rw[cH (w:=Q3) (w2:=w') (by rw[dH];exact Rel.same r (cC w) k1.1)]
    exact k2⟩
 have Qg:∀g,(fun g=>Cf w R5 g∧(Value.slice a8 (3*f.nodes.length) c8).ownBlock≠some g) g->w2.heap[g]? =Q3.heap[g]? :=fun g hg=>(h6.block g (Rel.old r (cC w) g hg.1) (fun e=>hg.2 e.symm)).trans (Rel.same r (cC w) hg.1);have OP:∀g,(fun g=>Cf w R5 g∧(Value.slice a8 (3*f.nodes.length) c8).ownBlock≠some g) g->Cf w (mP v'++R5) g:=fun g hg=>hg.1.mono fun p hp=>List.mem_append_right _ hp;have hZ:=j1.cJ (j1.cI VU Qg) OP
 have hB:=dW.list (v:=v') (dW.cJ (dW.cI (hGb.app Uo) Qg) OP) (by
  rw[List.length_append,b2,Uo.len,RG,List.flatten_append];refine ownsRow.seq h5 (fun u hu=>(bG.1 hu).elim (hGb.one u) (Uo.one u)) fun g hg=>.inr ⟨?_,g,g+1,List.mem_append_left _ (qX.2 ⟨hg,rfl⟩),aF _,bY _⟩;rcases h7 with h|h
  ·exact(Qp g (h▸hg)).elim (fun h=>h.elim) fun h=>h.1
  ·rw[h]at hg;injection hg with hg;have:=r.cF
   omega)
 replace hw:eB w.heap.size w w2:=(hw.tr r.cQ).tr (eB.grown h6 (fun g hg=>(Qp g hg).elim (fun h=>h.elim) fun h=>h.1) r.cF);have hv7:∀g,v'.ownBlock=some g->True:=fun _ _=>trivial;generalize hivA:mP v'++R5=ivA at*
 clear hivA hv7;obtain⟨ab2,cb2,rfl,-,-⟩:=dM.shape hB;clear r b1 b2 hGb Uo Qp Ux Qd Ou Qg OP VU h5 h6 h7
 refine⟨Nat×List Value×World×Iv,fun z=>⟨[(2,pP 0 0),(7,iN (3*f.nodes.length)),(8,.o (.v (.int .i64 (f.cols:Int)))),(9,.o (.v (.slice az (fD f).length cz))),(11,.o (.v (.slice ab2 (cZ (fJ f l) (-1)++fg f.cols).length cb2))),(10,.o (.w 1 z.2.1.length)),(12,iN z.1)],[(1,.vec T.fa 1 z.2.1),(0,.box T.Frame [.v (.slice an f.nodes.length cn),.v (.slice ab f.bars.length cb),.v (.slice aq f.cU.length cq)])],2,z.2.2.2,z.2.2.1⟩,fun z=>3*f.nodes.length-z.1,
  fun z=>z.1<=3*f.nodes.length∧eB w.heap.size w z.2.2.1∧dV z.2.2.1 (Cf w z.2.2.2) z.2.1 (((fD f).take z.1).map fun l=>List.replicate (3*f.nodes.length) 0++cd l)∧j1 z.2.2.1 (Cf w z.2.2.2) (.slice az (fD f).length cz) (fD f)∧cL z.2.2.1 (Cf w z.2.2.2) (.slice ab2 (cZ (fJ f l) (-1)++fg f.cols).length cb2) (cZ (fJ f l) (-1)++fg f.cols),?_,?_⟩
 ·intro O w' r;exact⟨(0,[],w',_),⟨aO _,hw.tr r.cQ,by simp[dV],j1.rel hZ r (cC w),cL.rel hB r (cC w)⟩,Sub.nil 10 T.fa 1 rfl (by simp[jN,SV.sc,At.sc,fW]) r fun ρ1 r1=>Sub.gn [] r1⟩
 clear hw hZ hB;rintro⟨i,rv,w1,iv⟩ ⟨hi,hw,hK,hZ,hB⟩;dsimp only at hi hw hK hZ hB ⊢;have hml2:(fD f).length=3*f.nodes.length:=by rw[<-SD,cP,aJ]
 have Oh:rv.length=i:=by rw[hK.1,aJ,aV];omega
 refine dN.mk ?_ ?_<;>intro OF
 ·have OF:i<3*f.nodes.length:=by have:=aI OF;omega
  obtain⟨l0,S4⟩:∃x,(fD f)[i]? =some x:=⟨_,aB (by omega)⟩
  have hl0n:l0.length=f.cols:=jS f _ l0 (aC S4);have Oa:=Rq l0 (aC S4);refine cD (cO (Φ:=fun _ w' v w2=>da w2 FF w'.heap.size [(w'.heap.size,w2.heap.size)] v (3*f.nodes.length) (List.replicate (3*f.nodes.length) 0)) (fun O w' r=>IW (3*f.nodes.length) w' (by omega) (by omega)) ?_);rintro O RT v8 Qm r he hb hn;replace hw:=hw.tr hb;have So:∀g,Cf w iv g->v8.ownBlock≠some g:=fun g hg e=>by
   have h1:=Rel.old r (cC w) g hg;rcases(hn.new g e).new with h|h
   ·exact h
   ·omega
  have OP:∀p,p∈iv->p∈(RT.heap.size,Qm.heap.size)::iv:=fun p hp=>List.mem_cons_of_mem _ hp;have Tk:∀g,Cf w iv g->Cf w (uG v8 ((RT.heap.size,Qm.heap.size)::iv)) g:=fun g hg=>(hg.mono OP).cut (So g hg);have OW:∀g,Cf w iv g->Qm.heap[g]? =w1.heap[g]? :=fun g hg=>(he.block g (Rel.old r (cC w) g hg)).trans (Rel.same r (cC w) hg);replace hK:=dV.cJ (dV.cI hK OW) Tk;replace hZ:=j1.cJ (j1.cI hZ OW) Tk;replace hB:=cL.cJ (cL.cI hB OW) Tk;obtain⟨⟨css,b1,b2,b3⟩,b4⟩:=hn;have Qp:∀g,v8.ownBlock=some g->Cf w ((RT.heap.size,Qm.heap.size)::iv) g:=fun g hg=>(b4 g hg).new.dE r.cF aG;have hG:dW Qm (Cf w (uG v8 ((RT.heap.size,Qm.heap.size)::iv))) css (List.replicate (3*f.nodes.length) 0):=
   ⟨b3.1,b3.tv,fun j cs q k1 k2=>(b3.2 j cs q k1 k2).cJ fun g hg=>(hg.1.new.dE r.cF aG).cut hg.2⟩
  clear r he hb So b3 b4 OP Tk OW;generalize (RT.heap.size,Qm.heap.size)::iv=Q2 at*
  obtain⟨a8,c8,rfl,hc8⟩:∃a c,v8= .slice a (3*f.nodes.length) c∧3*f.nodes.length<=c:=by
   rcases b1.2 with⟨e,h0⟩|⟨g,cap,cur,e,_,_,hn,_⟩
   ·exact⟨none,0,by rw[e,h0],by omega⟩
   ·exact⟨_,_,e,hn⟩
  refine⟨Nat×List (List Value)×World×Iv,fun z=>⟨[(2,pP 0 0),(7,iN (3*f.nodes.length)),(8,.o (.v (.int .i64 (f.cols:Int)))),(9,.o (.v (.slice az (fD f).length cz))),(11,.o (.v (.slice ab2 (cZ (fJ f l) (-1)++fg f.cols).length cb2))),(10,.o (.w 1 rv.length)),(12,iN i),(13,.o (.w 2 z.2.1.length)),(14,iN z.1)],[(2,.vec T.Rat 4 z.2.1.flatten),(1,.vec T.fa 1 rv),(0,.box T.Frame [.v (.slice an f.nodes.length cn),.v (.slice ab f.bars.length cb),.v (.slice aq f.cU.length cq)])],3,z.2.2.2,z.2.2.1⟩,fun z=>f.cols-z.1,
   fun z=>z.1<=f.cols∧eB w.heap.size w z.2.2.1∧dV z.2.2.1 (Cf w z.2.2.2) rv (((fD f).take i).map fun l=>List.replicate (3*f.nodes.length) 0++cd l)∧j1 z.2.2.1 (Cf w z.2.2.2) (.slice az (fD f).length cz) (fD f)∧cL z.2.2.1 (Cf w z.2.2.2) (.slice ab2 (cZ (fJ f l) (-1)++fg f.cols).length cb2) (cZ (fJ f l) (-1)++fg f.cols)∧dW z.2.2.1 (Cf w z.2.2.2) z.2.1 (List.replicate (3*f.nodes.length) 0++cd (l0.take z.1)),?_,?_⟩
  ·intro O w' r3;have OW:∀g,Cf w (uG (.slice a8 (3*f.nodes.length) c8) Q2) g->w'.heap[g]? =Qm.heap[g]? :=fun g hg=>Rel.same r3 (cC w) (hg.Np);refine⟨(0,css,w',uG (.slice a8 (3*f.nodes.length) c8) Q2),⟨aO _,hw.tr r3.cQ,dV.cI hK OW,j1.cI hZ OW,cL.cI hB OW,by simpa [cd]using dW.cI hG OW⟩,?_⟩;refine Sub.DY 13 (3*f.nodes.length) rfl (by simp[jN,SV.sc,At.sc,fW]) r3 (ownsRow.cI b1 fun g hg=>Rel.same r3 (cC w) (Qp g hg)) (fun g hg=>(Qp g hg).elim (fun h=>h.elim) fun h=>h.1) (fun g hg=>Rel.not r3 (cC w) (Qp g hg)) fun ρ1 r1=>?_;exact Sub.gn [] r1 (hE:=⟨rfl,rfl,rfl,rfl,rfl,rfl,rfl,by dsimp only;rw[b2];rfl,rfl,trivial⟩)
  clear hw hK hZ hB hG b1 b2 Qp;rintro⟨k,css,w3,iv⟩ ⟨hk,hw,hK,hZ,hB,hG⟩;dsimp only at hk hw hK hZ hB hG ⊢;have OX:=eH hG.four;have RM:css.length=3*f.nodes.length+k:=by rw[hG.len,List.length_append,bC,cd,aJ,aV];omega
  refine dN.mk ?_ ?_<;>intro OI
  ·have OI:k<f.cols:=by have:=aI OI;omega
   obtain⟨z,hz⟩:∃x,l0[k]? =some x:=⟨_,aB (by omega)⟩
   have Rq:=Oa z (aC hz);obtain⟨adm,um,RL,PS,km,kn⟩:=db.load hZ S4;obtain⟨al2,cl2,rfl,-,-⟩:=PS.shape;obtain⟨adx,PI,VL,Of⟩:=Cu.at PS hz;refine⟨adm,RL,by omega,.slice al2 l0.length cl2,fun O w' r=>?_,?_⟩
   ·rw[aE,cH (w:=w3) (w2:=w') (by rw[dH];exact Rel.same r (cC w) km)];exact kn
   refine⟨adx,PI,by omega,.int .i64 z,fun O w' r=>?_,?_⟩
   ·rw[aE,cH (w:=w3) (w2:=w') (by rw[dH];exact Rel.same r (cC w) VL)];exact Of
   clear PS km kn VL Of;refine cD (cE hw (fun _ w' v w2=>cS w2 (Nf w' w2) v (z:Rat)) (fun O w' r=>jI z w' (by omega)) ?_);rintro O _ _ _ iv31 r he hw h_ hn;replace hK:=dV.cG hK r (cC w) he (mC h_);replace hG:=dW.cG hG r (cC w) he (mC h_);replace hZ:=j1.cG hZ r (cC w) he (mC h_);replace hB:=cL.cG hB r (cC w) he (mC h_);have hd:=hn.dE (S:=FF) r.cF (mN h_);clear r he hn;obtain⟨A0,A1,A2,A3,A4,A5,A6,A7,rfl⟩:=hd.shape;have Qt:=hG.push (cs:=[.bool A0,.slice A1 A2 A3,.bool A4,.slice A5 A6 A7]) (q:=(z:Rat)) ⟨_,_,_,_,_,_,_,_,rfl,hd⟩ rfl;rw[bZ,<-oM hz]at Qt;have Pm:css.flatten++([.bool A0,.slice A1 A2 A3,.bool A4,.slice A5 A6 A7]:List Value)=(css++([[.bool A0,.slice A1 A2 A3,.bool A4,.slice A5 A6 A7]]:List (List Value))).flatten:=by simp
   refine .inl ?_;refine⟨by omega,by omega,by unfold maxLen;omega,((k+1:Nat):Int),wo,?_⟩;intro ρ3 w6 r3;exact⟨(k+1,css++[[.bool A0,.slice A1 A2 A3,.bool A4,.slice A5 A6 A7]],w6,_),⟨OI,hw.tr r3.cQ,hK.rel r3 (cC w),j1.rel hZ r3 (cC w),cL.rel hB r3 (cC w),Qt.rel r3 (cC w)⟩,Sub.gn [(2,4)] r3 ⟨by dsimp only;rw[<-Pm];rfl,rfl,rfl,trivial⟩ ⟨rfl,rfl,rfl,rfl,rfl,rfl,rfl,by dsimp only;rw[show ∀a b:List (List Value),(a++b).length=a.length+b.length from fun _ _=>List.length_append,List.length_singleton];rfl,rfl,trivial⟩,by dsimp only;omega⟩
  have OI:k=f.cols:=by have:=aH OI;omega
  rw[OI,List.take_of_length_le (by omega)]at hG;refine kx hτ (id3:=3) (id2:=2) (tH:=[(1,.vec T.fa 1 rv),(0,.box T.Frame [.v (.slice an f.nodes.length cn),.v (.slice ab f.bars.length cb),.v (.slice aq f.cU.length cq)])]) rfl rfl rfl rfl (by simp) (by first|exact⟨rfl,trivial⟩|exact⟨rfl,rfl,trivial⟩) rfl rfl (fun O w' r r2 SH=>?_);have OH:=dW.list ((hG.rel r (cC w)).cJ fun g hg=>Cv.mono (iv':=((O 3).g,(O 3).g+1)::jO (O 2) iv) hg fun p hp=>List.mem_cons_of_mem _ (jq p hp)) ((r.GL (id:=2) (sz:=4) (m:=css.length) rfl OX (by unfold maxLen;omega) (by decide) hG.one).cJ fun g hg=>Cv.mono hg fun p hp=>List.mem_cons_of_mem _ hp);have PF:((At.w 2 css.length).den O).oneCell'=true:=At.HR;have Ql:=r.low 3 _ rfl (r.fits (id:=3) rfl).1;have hC3:Cf w (((O 3).g,(O 3).g+1)::jO (O 2) iv) (O 3).g:=.inr ⟨Ql.1,_,_,aG,aF _,bY _⟩;have OP:∀p,p∈iv->p∈((O 3).g,(O 3).g+1)::jO (O 2) iv:=fun p hp=>List.mem_cons_of_mem _ (jq p hp);have Ow:=hw.tr r.cQ;have hK1:=(hK.rel r (cC w)).cJ fun g hg=>Cv.mono hg OP;have hZ1:=j1.cJ (j1.rel hZ r (cC w)) fun g hg=>Cv.mono hg OP;have hB1:=cL.cJ (cL.rel hB r (cC w)) fun g hg=>Cv.mono hg OP;clear r2 Ql;generalize (At.w 2 css.length).den O=ur at*
  generalize (O 3).g=gy at*
  generalize (gy,gy+1)::jO (O 2) iv=OK at*
  refine⟨[ur],rfl,by simpa using PF,fun ρ2 w2 r2 _=>⟨_,rfl,fun j u hu=>?_⟩,?_⟩
  ·have h5:=Rel.same r2 (gH _) hC3;rw[dQ,cell_of (h5.trans SH)];rcases j with _|j
   ·exact hu
   ·cases hu
  refine⟨by simp,by omega,by unfold maxLen;omega,?_⟩;have Q1:=hK1.push PF OH;rw[show (((fD f).take i).map fun l=>List.replicate (3*f.nodes.length) 0++cd l)++[List.replicate (3*f.nodes.length) 0++cd l0]=((fD f).take (i+1)).map (fun l=>List.replicate (3*f.nodes.length) 0++cd l) by rw[List.take_add_one,S4];simp]at Q1;refine⟨((i+1:Nat):Int),wo,?_⟩;intro ρ3 w6 r3;exact⟨(i+1,rv++[ur],w6,_),⟨OF,Ow.tr r3.cQ,Q1.rel r3 (cC w),j1.rel hZ1 r3 (cC w),cL.rel hB1 r3 (cC w)⟩,Sub.gn [(1,4)] r3 (hE:=⟨rfl,rfl,rfl,rfl,rfl,by dsimp only;rw[show ∀a b:List Value,(a++b).length=a.length+b.length from fun _ _=>List.length_append,List.length_singleton];rfl,rfl,trivial⟩),by dsimp only;omega⟩
 have OF:i=3*f.nodes.length:=by have:=aH OF;omega
 rw[OF,List.take_of_length_le (by omega)]at hK;have hK:dV w1 (Cf w iv) rv (((cP f).map fun r=>List.replicate (cP f).length 0++r)++(List.range 0).map fun j=>((cP f).map fun r=>r.getD j 0)++(List.replicate f.cols 0).set j ((cX f).getD j 0)):=by
  rw[show (((cP f).map fun r=>List.replicate (cP f).length 0++r)++(List.range 0).map fun j=>((cP f).map fun r=>r.getD j 0)++(List.replicate f.cols 0).set j ((cX f).getD j 0))=(fD f).map fun l=>List.replicate (3*f.nodes.length) 0++cd l by rw[List.range_zero,List.map_nil,List.append_nil,SD,cP,List.map_map];rfl];exact hK
 replace hK:fR w1 (Cv S w.heap.size iv) rv (((cP f).map fun r=>List.replicate (cP f).length 0++r)++(List.range 0).map fun j=>((cP f).map fun r=>r.getD j 0)++(List.replicate f.cols 0).set j ((cX f).getD j 0)):=⟨hK.1,hK.2.1,fun a u x k1 k2=>cV.cJ (cL.l (hK.2.2 a u x k1 k2) fun q hq=>by
  have hx:=aC k2;rw[List.range_zero,List.map_nil,List.append_nil]at hx;obtain⟨r,hr,rfl⟩:=aT.1 hx;rcases bG.1 hq with h|h
  ·rw[bL h];decide
  ·have:=Ka PU r hr q h;omega) fun g hg=>Aj hg⟩
 refine⟨Nat×List Value×World×Iv,fun z=>⟨[(2,pP 0 0),(7,iN (3*f.nodes.length)),(8,.o (.v (.int .i64 (f.cols:Int)))),(9,.o (.v (.slice az (fD f).length cz))),(11,.o (.v (.slice ab2 (cZ (fJ f l) (-1)++fg f.cols).length cb2))),(10,.o (.w 1 z.2.1.length)),(15,iN z.1)],[(1,.vec T.fa 1 z.2.1),(0,.box T.Frame [.v (.slice an f.nodes.length cn),.v (.slice ab f.bars.length cb),.v (.slice aq f.cU.length cq)])],2,z.2.2.2,z.2.2.1⟩,fun z=>f.cols-z.1,
  fun z=>z.1<=f.cols∧eB w.heap.size w z.2.2.1∧fR z.2.2.1 (Cv S w.heap.size z.2.2.2) z.2.1 (((cP f).map fun r=>List.replicate (cP f).length 0++r)++(List.range z.1).map fun j=>((cP f).map fun r=>r.getD j 0)++(List.replicate f.cols 0).set j ((cX f).getD j 0))∧j1 z.2.2.1 (Cf w z.2.2.2) (.slice az (fD f).length cz) (fD f)∧cL z.2.2.1 (Cf w z.2.2.2) (.slice ab2 (cZ (fJ f l) (-1)++fg f.cols).length cb2) (cZ (fJ f l) (-1)++fg f.cols),?_,?_⟩
 ·intro O w' r;exact⟨(0,rv,w',iv),⟨aO _,hw.tr r.cQ,hK.rel r hS,j1.rel hZ r (cC w),cL.rel hB r (cC w)⟩,Sub.gn [] r⟩
 clear hw hK hZ hB Oh OF hi;rintro⟨j,rv,w1,iv⟩ ⟨hj,hw,hK,hZ,hB⟩;dsimp only at hj hw hK hZ hB ⊢;have Oh:rv.length=3*f.nodes.length+j:=by rw[hK.1,List.length_append,aJ,aJ,List.length_range,SD]
 refine dN.mk ?_ ?_<;>intro PH
 ·have PH:j<f.cols:=by have:=aI PH;omega
  refine⟨Nat×List (List Value)×World×Iv,fun z=>⟨[(2,pP 0 0),(7,iN (3*f.nodes.length)),(8,.o (.v (.int .i64 (f.cols:Int)))),(9,.o (.v (.slice az (fD f).length cz))),(11,.o (.v (.slice ab2 (cZ (fJ f l) (-1)++fg f.cols).length cb2))),(10,.o (.w 1 rv.length)),(15,iN j),(16,.o (.w 2 z.2.1.length)),(17,iN z.1)],[(2,.vec T.Rat 4 z.2.1.flatten),(1,.vec T.fa 1 rv),(0,.box T.Frame [.v (.slice an f.nodes.length cn),.v (.slice ab f.bars.length cb),.v (.slice aq f.cU.length cq)])],3,z.2.2.2,z.2.2.1⟩,fun z=>3*f.nodes.length-z.1,
   fun z=>z.1<=3*f.nodes.length∧eB w.heap.size w z.2.2.1∧fR z.2.2.1 (Cv S w.heap.size z.2.2.2) rv (((cP f).map fun r=>List.replicate (cP f).length 0++r)++(List.range j).map fun j=>((cP f).map fun r=>r.getD j 0)++(List.replicate f.cols 0).set j ((cX f).getD j 0))∧j1 z.2.2.1 (Cf w z.2.2.2) (.slice az (fD f).length cz) (fD f)∧cL z.2.2.1 (Cf w z.2.2.2) (.slice ab2 (cZ (fJ f l) (-1)++fg f.cols).length cb2) (cZ (fJ f l) (-1)++fg f.cols)∧dW z.2.2.1 (Cf w z.2.2.2) z.2.1 (((cP f).take z.1).map fun r=>r.getD j 0),?_,?_⟩
  ·intro O w' r;exact⟨(0,[],w',iv),⟨aO _,hw.tr r.cQ,hK.rel r hS,j1.rel hZ r (cC w),cL.rel hB r (cC w),dW.nil⟩,Sub.nil 16 T.Rat 4 rfl (by simp[jN,SV.sc,At.sc]) r fun ρ1 r1=>Sub.gn [] r1⟩
  clear hw hK hZ hB;rintro⟨k,css,w3,iv⟩ ⟨hk,hw,hK,hZ,hB,hG⟩;dsimp only at hk hw hK hZ hB hG ⊢;have OX:=eH hG.four;have RM:css.length=k:=by rw[hG.len,aJ,aV];omega
  refine dN.mk ?_ ?_<;>intro OI
  ·have OI:k<3*f.nodes.length:=by have:=aI OI;omega
   obtain⟨l0,S4⟩:∃x,(fD f)[k]? =some x:=⟨_,aB (by omega)⟩
   have hl0n:l0.length=f.cols:=jS f _ l0 (aC S4);have Oa:=Rq l0 (aC S4);obtain⟨z,hz⟩:∃x,l0[j]? =some x:=⟨_,aB (by omega)⟩
   have Rq:=Oa z (aC hz);have TP:(cP f)[k]? =some (cd l0):=by rw[cP,aN,S4];rfl
   have hgz:(cd l0).getD j 0=(z:Rat):=getD_some (by rw[cd,aN,hz];rfl);obtain⟨adm,um,RL,PS,km,kn⟩:=db.load hZ S4;obtain⟨al2,cl2,rfl,-,-⟩:=PS.shape;obtain⟨adx,PI,VL,Of⟩:=Cu.at PS hz;refine⟨adm,RL,by omega,.slice al2 l0.length cl2,fun O w' r=>?_,?_⟩
   ·rw[aE,cH (w:=w3) (w2:=w') (by rw[dH];exact Rel.same r (cC w) km)];exact kn
   refine⟨adx,PI,by omega,.int .i64 z,fun O w' r=>?_,?_⟩
   ·rw[aE,cH (w:=w3) (w2:=w') (by rw[dH];exact Rel.same r (cC w) VL)];exact Of
   clear PS km kn VL Of;refine cD (cE hw (fun _ w' v w2=>cS w2 (Nf w' w2) v (z:Rat)) (fun O w' r=>jI z w' (by omega)) ?_);rintro O _ _ _ iv51 r he hw h_ hn;replace hK:=fR.cG hK r hS he (mC h_);replace hG:=dW.cG hG r (cC w) he (mC h_);replace hZ:=j1.cG hZ r (cC w) he (mC h_);replace hB:=cL.cG hB r (cC w) he (mC h_);have hd:=hn.dE (S:=FF) r.cF (mN h_);clear r he hn;obtain⟨C0,C1,C2,C3,C4,C5,C6,C7,rfl⟩:=hd.shape;have Qt:=hG.push (cs:=[.bool C0,.slice C1 C2 C3,.bool C4,.slice C5 C6 C7]) (q:=(z:Rat)) ⟨_,_,_,_,_,_,_,_,rfl,hd⟩ rfl;rw[show (((cP f).take k).map fun r=>r.getD j 0)++[(z:Rat)]=((cP f).take (k+1)).map fun r=>r.getD j 0 by rw[List.take_add_one,TP,List.map_append,<-hgz];rfl]at Qt;have Pm:css.flatten++([.bool C0,.slice C1 C2 C3,.bool C4,.slice C5 C6 C7]:List Value)=(css++([[.bool C0,.slice C1 C2 C3,.bool C4,.slice C5 C6 C7]]:List (List Value))).flatten:=by simp
   refine .inl ?_;refine⟨by omega,by omega,by unfold maxLen;omega,((k+1:Nat):Int),wo,?_⟩;intro ρ3 w6 r3;exact⟨(k+1,css++[[.bool C0,.slice C1 C2 C3,.bool C4,.slice C5 C6 C7]],w6,_),⟨OI,hw.tr r3.cQ,hK.rel r3 hS,j1.rel hZ r3 (cC w),cL.rel hB r3 (cC w),Qt.rel r3 (cC w)⟩,Sub.gn [(2,4)] r3 ⟨by dsimp only;rw[<-Pm];rfl,rfl,rfl,trivial⟩ ⟨rfl,rfl,rfl,rfl,rfl,rfl,rfl,by dsimp only;rw[show ∀a b:List (List Value),(a++b).length=a.length+b.length from fun _ _=>List.length_append,List.length_singleton];rfl,rfl,trivial⟩,by dsimp only;omega⟩
  have OI:k=3*f.nodes.length:=by have:=aH OI;omega
  rw[OI,List.take_of_length_le (by omega)]at hG;refine cD (cE hw (fun _ w' v w2=>cL w2 (Nf w' w2) v (List.replicate f.cols 0)) (fun O w' r=>Em f.cols w' (by omega)) ?_);rintro O _ _ wb61 iv61 r he hw h_ hn;replace hK:=fR.cG hK r hS he (mC h_);replace hG:=dW.cG hG r (cC w) he (mC h_);replace hZ:=j1.cG hZ r (cC w) he (mC h_);replace hB:=cL.cG hB r (cC w) he (mC h_);have hQ:=cL.dE (S:=FF) hn r.cF (mN h_);clear r he;clear hn;obtain⟨Qo,z1,z2,z3,z4⟩:=hQ;rw[bC]at z1;have Uo:dW _ _ Qo (List.replicate f.cols 0):=⟨z2,z3,z4⟩
  have hcz:Qo.length=f.cols:=by rw[z2,bC]
  obtain⟨-,Qd,Ou,a9,c9,rfl,-,z5⟩:=z1;refine .inl ⟨Qo.flatten,Qd,Ou,fun O w' r h0=>?_,?_⟩
  ·obtain⟨u0,RY⟩:∃u,Qo.flatten[0]? =some u:=⟨_,aB (by omega)⟩
   obtain⟨ad0,rfl,-,-⟩:=z5 0 u0 RY;refine⟨ad0,rfl,fun j u hu=>?_⟩;obtain⟨ad2,q1,q2,q3⟩:=z5 j u hu;injection q1 with q1;subst q1;rw[cH (w:=wb61) (w2:=w') (by rw[dH];exact Rel.same r (cC w) q2)];exact q3
  refine⟨by omega,by omega,by unfold maxLen;omega,((3*f.nodes.length+j:Nat):Int),wo,?_⟩;refine cD (cE hw (fun _ w' v w2=>eR w2 S v ((cX f).getD j 0)) (fun O w' r=>Ly (oS0 hS r) (hf.cI (kS hw r hS)) ⟨PU.b,PU.s⟩ PH) ?_);rintro O _ _ wb62 TA r he hw h_ hd;replace hK:=fR.cG hK r hS he (mC h_);replace hG:=dW.cG hG r (cC w) he (mC h_);replace hZ:=j1.cG hZ r (cC w) he (mC h_);replace hB:=cL.cG hB r (cC w) he (mC h_);replace Uo:=dW.cG Uo r (cC w) he (mC h_);clear r he;obtain⟨d0,d1,d2,d3,d4,d5,d6,d7,rfl⟩:=hd.shape;refine⟨by rw[List.length_append,OX,Qd,Nat.add_mul],by omega,?_⟩;have htq:∀q∈((cP f).map fun r=>r.getD j 0)++List.replicate f.cols 0,rl q<=100000:=fun q hq=>by
   rcases bG.1 hq with h|h
   ·obtain⟨r,hr,rfl⟩:=aT.1 h;rcases aP j r.length with h1|h1
    ·have:=Ka PU r hr (r.getD j 0) (by rw[getD_some (aB h1)];exact aY _);omega
    ·rw[iU h1];decide
   ·rw[bL h];decide
  have hA:nI 4 jd wb62 (Cv S w.heap.size TA) ((css++Qo).set (3*f.nodes.length+j) [.bool d0,.slice d1 d2 d3,.bool d4,.slice d5 d6 d7]) (((cP f).map fun r=>r.getD j 0)++(List.replicate f.cols 0).set j ((cX f).getD j 0)):=by
   have h1:=((hG.app Uo).toL htq).map (P':=jd) (S':=Cv S w.heap.size TA) fun cs q h=>h.cJ fun g hg=>Aj hg;have h2:=h1.put (m:=3*f.nodes.length+j) (c:=[.bool d0,.slice d1 d2 d3,.bool d4,.slice d5 d6 d7]) (q:=(cX f).getD j 0) rfl ⟨_,_,_,_,_,_,_,_,rfl,hd.cJ fun g hg=>.inl hg⟩;rw[show (((cP f).map fun r=>r.getD j 0)++List.replicate f.cols (0:Rat)).set (3*f.nodes.length+j) ((cX f).getD j 0)=((cP f).map fun r=>r.getD j 0)++(List.replicate f.cols 0).set j ((cX f).getD j 0) by rw[List.set_append_right _ _ (by rw[aJ,SD];omega),aJ,SD,Nat.add_sub_cancel_left]]at h2;exact h2
  have hlA:(css++Qo).length=3*f.nodes.length+f.cols:=by rw[List.length_append,RM,OI,hcz]
  refine⟨by rw[List.length_append,OX,Qd];simp only[aE];omega,((css++Qo).set (3*f.nodes.length+j) [.bool d0,.slice d1 d2 d3,.bool d4,.slice d5 d6 d7]).flatten,by rw[aE,<-List.flatten_append];exact jH (hG.app Uo).four (by omega),?_⟩;obtain⟨cssA,hcA⟩:∃x,(css++Qo).set (3*f.nodes.length+j) [.bool d0,.slice d1 d2 d3,.bool d4,.slice d5 d6 d7]=x:=⟨_,rfl⟩
  rw[hcA]at hA;have hlA2:cssA.length=3*f.nodes.length+f.cols:=by rw[<-hcA,bE,hlA]
  rw[hcA,show css.length+f.cols=cssA.length by omega];have hflA:=qV hA.wid;have hoA:=hA.one fun cs q h=>IY h;clear hG Uo hcA hlA hd htq Qd Ou OX;refine kx hτ (id3:=4) (id2:=3) (tH:=[(1,.vec T.fa 1 rv),(0,.box T.Frame [.v (.slice an f.nodes.length cn),.v (.slice ab f.bars.length cb),.v (.slice aq f.cU.length cq)])]) rfl rfl rfl rfl (by simp) ⟨rfl,rfl,trivial⟩ rfl rfl (fun O w' r r2 SH=>?_);have OH:=nI.list (hA.map (P':=jd) (S':=Cv S w.heap.size (((O 4).g,(O 4).g+1)::jO (O 3) TA)) fun cs q h=>(h.cI fun g hg=>Rel.same r hS hg).cJ fun g hg=>Cv.mono hg fun p hp=>List.mem_cons_of_mem _ (jq p hp)) ((r.GL (id:=3) (sz:=4) (m:=cssA.length) rfl hflA (by unfold maxLen;omega) (by decide) hoA).cJ fun g hg=>Aj (Cv.mono hg fun p hp=>List.mem_cons_of_mem _ hp));have PF:((At.w 3 cssA.length).den O).oneCell'=true:=At.HR;have Ql:=r.low 4 _ rfl (r.fits (id:=4) rfl).1;have hC3:Cf w (((O 4).g,(O 4).g+1)::jO (O 3) TA) (O 4).g:=.inr ⟨Ql.1,_,_,aG,aF _,bY _⟩;have OP:∀p,p∈TA->p∈((O 4).g,(O 4).g+1)::jO (O 3) TA:=fun p hp=>List.mem_cons_of_mem _ (jq p hp);have Ow:=hw.tr r.cQ;have hK1:=(hK.rel r hS).cJ fun g hg=>Cv.mono hg OP;have hZ1:=j1.cJ (j1.rel hZ r (cC w)) fun g hg=>Cv.mono hg OP;have hB1:=cL.cJ (cL.rel hB r (cC w)) fun g hg=>Cv.mono hg OP;clear r2 Ql;generalize (At.w 3 cssA.length).den O=ur at*
  generalize (O 4).g=gy at*
  generalize (gy,gy+1)::jO (O 3) TA=OK at*
  refine⟨[ur],rfl,by simpa using PF,fun ρ2 w2 r2 _=>⟨_,rfl,fun j u hu=>?_⟩,?_⟩
  ·have h5:=Rel.same r2 (gH _) hC3;rw[dQ,cell_of (h5.trans SH)];rcases j with _|j
   ·exact hu
   ·cases hu
  refine⟨by simp,by omega,by unfold maxLen;omega,?_⟩;have Q1:=hK1.push PF OH;rw[bZ,show((List.range j).map fun j=>((cP f).map fun r=>r.getD j 0)++(List.replicate f.cols 0).set j ((cX f).getD j 0))++[((cP f).map fun r=>r.getD j 0)++(List.replicate f.cols 0).set j ((cX f).getD j 0)]=(List.range (j+1)).map fun j=>((cP f).map fun r=>r.getD j 0)++(List.replicate f.cols 0).set j ((cX f).getD j 0) by rw[bO,List.map_append];rfl]at Q1;refine⟨((j+1:Nat):Int),wo,?_⟩;intro ρ3 w6 r3;exact⟨(j+1,rv++[ur],w6,_),⟨PH,Ow.tr r3.cQ,Q1.rel r3 hS,j1.rel hZ1 r3 (cC w),cL.rel hB1 r3 (cC w)⟩,Sub.gn [(1,5)] r3 (hE:=⟨rfl,rfl,rfl,rfl,rfl,by dsimp only;rw[show ∀a b:List Value,(a++b).length=a.length+b.length from fun _ _=>List.length_append,List.length_singleton];rfl,rfl,trivial⟩),by dsimp only;omega⟩
 have PH:j=f.cols:=by have:=aH PH;omega
 obtain⟨x,u,hx,hu,hul,hz⟩:=PU.toFrV.Bt (b:=cZ (fJ f l) (-1)) S9 Q4;rw[PH]at hK Oh;have hK:fR w1 (Cv S w.heap.size iv) rv (iK (cP f) f.cols (cX f)):=hK;have SM:(iK (cP f) f.cols (cX f)).length=(cP f).length+f.cols:=fU _;have PW:=hx.len
 refine cD (cE hw (fun _ w' v w2=>∃vx,v= .tuple #[vx,.bool true]∧cL w2 (Nf w' w2) vx (u++x)) (fun O w' r=>(IX (S:=(fun g=>g<w'.heap.size)) (M:=iK (cP f) f.cols (cX f)) (b:=cZ (fJ f l) (-1)++fg f.cols) (n:=(cP f).length+f.cols) (h0:=160) (fun g hg=>hg) ⟨rv,by rw[<-hK.1];exact r.xl (T:=(fun g=>g<w'.heap.size)) (id:=1) (sz:=1) (m:=rv.length) rfl (by simp) (by unfold maxLen;omega) (by decide) hK.2.1 fun hn=>(r.low 1 _ rfl hn).2,hK.1,fun a u x h1 h2=>cV.cJ (cV.rel (hK.2.2 a u x h1 h2) r hS) fun g hg=>Rel.old r hS g hg⟩ (cV.cJ (cL.l (cL.rel hB r (cC w)) fun q hq=>(bG.1 hq).elim (fun h=>by have:=VS q h;omega) fun h=>by rw[bL h];decide) fun g hg=>Rel.old r (cC w) g hg) (ju hlen _) (by omega) (by rw[List.length_append,S9,SM,fg,bC]) (by omega) (by omega) (fun c hc=>Nn (gX (ju hlen _)) (Pz.HE Pf S9) mX (by have:=Pz.Jk (b:=cZ (fJ f l) (-1)++fg f.cols);omega) (by omega)) (by decide)).mono fun _ _ ⟨v2,e1,e2,e3⟩=>⟨v2,e1,e2,by
  rcases e3 with⟨h1,_⟩|⟨z,vz,h1,h2,h3⟩
  ·rw[hz]at h1;cases h1
  ·rw[hz]at h1;injection h1 with h1;subst h1;exact⟨vz,h2,h3⟩⟩) ?_)
 rintro O _ _ _ iv71 r he hw h_ ⟨vx,rfl,hn⟩;clear hK;clear hB;have hX:=cL.dE (S:=FF) hn r.cF (mN h_);clear r he;clear hn;obtain⟨ax,cx,rfl,Vk,hmx⟩:=dM.shape hX;have SP:u.length=3*f.nodes.length:=by omega
 have huxl:(u++x).length=3*f.nodes.length+f.cols:=by rw[List.length_append,SP,PW]
 obtain⟨ad1,had1⟩:∃ad1,(if ((cx:Nat):Int)=0 then ax else ax.map (fun a=>a.add (Int.toNat 0*4)))=ad1:=⟨_,rfl⟩
 obtain⟨ad2,PR⟩:∃ad2,(if ((cx:Nat):Int)=((3*f.nodes.length:Nat):Int)then ax else ax.map (fun a=>a.add (Int.toNat ((3*f.nodes.length:Nat):Int)*4)))=ad2:=⟨_,rfl⟩
 have hU:=dM.part (i:=0) (m:=3*f.nodes.length) hX (by omega);have hV:=dM.part (i:=3*f.nodes.length) (m:=f.cols) hX (by omega);rw[List.drop_zero,<-SP,List.take_left]at hU;rw[<-SP,List.drop_left,<-PW,bF,SP]at hV;replace hU:cL _ _ (.slice ad1 u.length (cx-0)) u:=had1▸hU;replace hV:cL _ _ (.slice ad2 x.length (cx-3*f.nodes.length)) x:=PR▸hV;refine cN hτ dm [.x 0,.x 1,.x 2,.x 3,.x 4,.x 5,.x 6,.x 7,.x 8] (by kernel_rfl) (by kernel_rfl) ?_;refine⟨⟨by omega,by omega,by omega⟩,ad1,u.length,cx-0,had1,by omega,rfl,⟨by omega,by omega,by omega⟩,ad2,x.length,cx-3*f.nodes.length,PR,by omega,by omega,?_⟩;exact rtn hw fun ρe we re=>.inr ⟨Q4,x,u,_,_,hx,hu,rfl,cL.out hU re (cC w),cL.out hV re (cC w)⟩
def Kg:List Int:=[0,0,0,0,0,0,-1,0,0]
def Bu:List Int:=[-3,3,9,0,0,-9,0,12,0]
def I0:List Ld:=[(2,0,0,-12)]
abbrev Nq:List Rat:=(cd Kg).set 8 (Rat.divInt (-3) 2)
theorem Nr:Rat.divInt 2000 1000=((2:Int):Rat):=by decide +kernel
theorem xm:j3 fY I0=0:=by decide +kernel
theorem Et:sU fY:=Ke (.inr ⟨by decide,by decide⟩) (by decide +kernel) (by decide +kernel) (lQ xm).1
theorem DJ:jm (cP fY) fY.cols (GR fY) (cZ (fJ fY I0) (-1)) (cd Bu):=⟨by decide +kernel,by decide +kernel,by decide +kernel⟩
theorem Eu:jn (cP fY) fY.cols=9:=by decide +kernel
theorem Ns:fE (eK (cP fY) fY.cols) (cZ (ew (cd Bu) (cX fY)) (-1)) (cP fY).length=some Nq:=by decide +kernel
set_option maxHeartbeats 1000000 in
theorem qE(w:World):eD PG N.wD #[] w (eG w fun v' _=>v'= .bool true):=by
 have hw:=bR w;refine zR (by simp) ?_;refine cD (cE hw (fun _ w' v w2=>∃vn vb vs,v= .agg #[vn,vb,vs]∧du w2 (Nf w' w2) vn vb vs fY) (fun O w' r=>vN w') ?_);rintro O _ _ _ OM r he hw h_ ⟨vn1,vb1,vs1,rfl,hn⟩;have hf:=hn.dE r.cF (mN h_);clear r;clear hn;obtain⟨an1,cn1,ab1,cb1,aq1,cq1,rfl,rfl,rfl,-,-,-⟩:=hf.shape;refine cD (cE hw (fun _ w' v w2=>∃vx,v= .tuple #[vx,.int .i64 0]∧cL w2 (Nf w' w2) vx (cd Bu)) (fun O w' r=>(AA (S:=(fun g=>Cf w OM g∨g=(O 0).g)) (l:=I0) (fun g hg=>hg.elim (Rel.old r (cC w) g) fun e=>by subst e;exact Rel.lt r (id:=0) rfl) (du.cJ (du.rel hf r (cC w)) fun g hg=>.inl hg) (show jB w' (fun g=>Cf w OM g∨g=(O 0).g) (.slice (some ⟨(O 0).g,0,none⟩) 1 1) I0 from⟨[[.int .i64 2,.int .i64 0,.int .i64 0,.int .i64 (-12)]],(r.pz (id:=0) (sz:=4) (n:=1) rfl rfl (by decide) (by repeat' first|refine List.forall_mem_cons.2 ⟨rfl,?_⟩|exact fun u hu=>absurd hu List.not_mem_nil)).cJ fun g hg=>.inr hg,rfl,by simp,fun j cs x h1 h2=>by cases j with|zero=>(cases h1;cases h2;rfl)|succ j=>cases h2⟩) (fun _=>Et)).mono fun _ _ ⟨v2,e1,e2,e3⟩=>⟨v2,e1,e2,e3.elim (fun h=>absurd xm h.1) fun h=>h.2.elim (fun g=>by obtain⟨z,hz⟩:=qR (fT fY) (x:=fun t=>(cd Bu).getD t 0) DJ.eq;rw[g.1]at hz;cases hz) fun⟨x,vx,g,k1,k2⟩=>⟨vx,k1,Et.EF.one g DJ▸k2⟩⟩) ?_);rintro O _ v2 _ OK r he hw h_ ⟨vx1,rfl,hn⟩;clear hf;have hx:=cL.dE (S:=FF) hn r.cF (mN h_);clear r;clear hn;obtain⟨ax1,cx1,rfl,-,-⟩:=dM.shape hx;refine cD (cE hw (fun _ w' v w2=>∃vn vb vs,v= .agg #[vn,vb,vs]∧du w2 (Nf w' w2) vn vb vs fY) (fun O w' r=>vN w') ?_);rintro O _ _ _ OS r he hw h_ ⟨vn2,vb2,vs2,rfl,hn⟩;replace hx:=cL.cG hx r (cC w) he (mC h_);have hf:=hn.dE r.cF (mN h_);clear r;clear hn;obtain⟨an2,cn2,ab2,cb2,aq2,cq2,rfl,rfl,rfl,-,-,-⟩:=hf.shape
 refine cD (cE hw (fun _ w' v w2=>∃vu vx,v= .tuple #[vu,vx,.int .i64 0]∧cL w2 (Nf w' w2) vu Nq∧∃a n c,vx= .slice a n c) (fun O w' r=>(mO (S:=(fun g=>Cf w OS g∨g=(O 0).g)) (l:=I0) (fun g hg=>hg.elim (Rel.old r (cC w) g) fun e=>by subst e;exact Rel.lt r (id:=0) rfl) (du.cJ (du.rel hf r (cC w)) fun g hg=>.inl hg) (show jB w' (fun g=>Cf w OS g∨g=(O 0).g) (.slice (some ⟨(O 0).g,0,none⟩) 1 1) I0 from⟨[[.int .i64 2,.int .i64 0,.int .i64 0,.int .i64 (-12)]],(r.pz (id:=0) (sz:=4) (n:=1) rfl rfl (by decide) (by repeat' first|refine List.forall_mem_cons.2 ⟨rfl,?_⟩|exact fun u hu=>absurd hu List.not_mem_nil)).cJ fun g hg=>.inr hg,rfl,by simp,fun j cs x h1 h2=>by cases j with|zero=>(cases h1;cases h2;rfl)|succ j=>cases h2⟩) (fun _=>Et)).mono fun _ _ ⟨v2,e1,e2,e3⟩=>⟨v2,e1,e2,e3.elim (fun h=>absurd xm h.1) fun h=>h.2.elim (fun g=>absurd g.1 (by rw[Eu];decide)) fun⟨_,x,u,vx,vu,g1,g2,e3,e4,e5⟩=>by
  obtain rfl:=Et.EF.one g1 DJ;rw[Ns]at g2;injection g2 with g2;subst g2;obtain⟨a,c,h,_⟩:=dM.shape e5
  exact⟨vu,vx,e3,e4,a,_,c,h⟩⟩) ?_)
 rintro O _ _ _ Oe r he hw h_ ⟨vu1,_,rfl,hn,ay1,ny1,cy1,rfl⟩;replace hx:=cL.cG hx r (cC w) he (mC h_);clear hf;have hu:=cL.dE (S:=FF) hn r.cF (mN h_);clear r;clear hn;obtain⟨au1,cu1,rfl,-,-⟩:=dM.shape hu;refine cD (cE hw (fun _ w' v w2=>∃vn vb vs,v= .agg #[vn,vb,vs]∧du w2 (Nf w' w2) vn vb vs fY) (fun O w' r=>vN w') ?_);rintro O _ _ _ Pp r he hw h_ ⟨vn3,vb3,vs3,rfl,hn⟩;replace hx:=cL.cG hx r (cC w) he (mC h_);replace hu:=cL.cG hu r (cC w) he (mC h_);have hf:=hn.dE r.cF (mN h_);clear r;clear hn;obtain⟨an3,cn3,ab3,cb3,aq3,cq3,rfl,rfl,rfl,-,-,-⟩:=hf.shape;refine cD (cE hw (fun _ w' v w2=>v= .tuple #[GH 9 0 0,.int .i64 0]) (fun O w' r=>(IU (S:=Cf w Pp) (Rel.old r (cC w)) (du.rel hf r (cC w)) (fun _=>Et.toFrS)).mono fun _ _ ⟨v2,e1,e2,e3⟩=>⟨v2,e1,e2,e3.elim (fun h=>absurd (lQ xm).1 h.1) fun h=>by rw[h.2,Eu];rfl⟩) ?_);rintro O _ _ _ Qy r he hw h_ rfl;replace hx:=cL.cG hx r (cC w) he (mC h_);replace hu:=cL.cG hu r (cC w) he (mC h_);clear hf;clear r
 refine cD (cE hw (fun _ w' v w2=>∃vr,v= .tuple #[vr,.int .i64 0]∧cS w2 (Nf w' w2) vr ((2:Int):Rat)) (fun O w' r=>(GF 25 10 w' (by decide) (by decide) (by decide)).mono fun _ _ ⟨v2,e1,e2,vr,rt,e3,e4,e5,e6⟩=>⟨v2,e1,e2,vr,e3,by
  have:rt=2000:=Mz e4 e5 (by decide) (by decide);rw[this]at e6
  exact Nr▸e6⟩) ?_)
 rintro O _ _ _ TN r he hw h_ ⟨vr1,rfl,hn⟩;replace hx:=cL.cG hx r (cC w) he (mC h_);replace hu:=cL.cG hu r (cC w) he (mC h_);have hl:=hn.dE (S:=FF) r.cF (mN h_);clear r;obtain⟨s7_0a,s7_0b,s7_0c,s7_0d,s7_0e,s7_0f,s7_0g,s7_0h,rfl⟩:=hl.shape;clear hn;refine cD (cE hw (fun _ w' v w2=>∃q,v= .tuple #[q,.int .i64 0]∧cS w2 (Nf w' w2) q (Rat.divInt (-3) 2)) (fun O w' r=>(Kh (-3) 2 w' (by decide) (by decide) (by decide) (by decide)).mono fun _ _ ⟨v2,e1,e2,e3⟩=>⟨v2,e1,e2,e3.elim (fun k=>absurd k.1 (by decide)) fun h=>h.2⟩) ?_);rintro O _ _ _ Q2 r he hw h_ ⟨q1,rfl,hn⟩;replace hx:=cL.cG hx r (cC w) he (mC h_);replace hu:=cL.cG hu r (cC w) he (mC h_);replace hl:=hl.cG r (cC w) he (mC h_);have hh:=hn.dE (S:=FF) r.cF (mN h_);clear r;obtain⟨s8_0a,s8_0b,s8_0c,s8_0d,s8_0e,s8_0f,s8_0g,s8_0h,rfl⟩:=hh.shape;clear hn;refine cD (cO (Φ:=fun _ w' v w2=>da w2 FF w'.heap.size [(w'.heap.size,w2.heap.size)] v 9 (cd Kg)) (fun O w' r=>Ej (S:=fun g=>g=(O 4).g) (fun g hg=>by subst hg;exact Rel.lt r (id:=4) rfl) (MT r (id:=4) (n:=9) (l:=Kg) rfl rfl (by decide)) (by decide) (by decide) (by decide)) ?_);rintro O Qf v9 Q3 r he hb hn;replace hw:=hw.tr hb;replace hx:=cL.cJ (S':=Bs FF w.heap.size ((Qf.heap.size,Q3.heap.size)::Q2) v9) (cL.cI (cL.rel hx r (cC w)) fun g hg=>he.block g (Rel.old r (cC w) g hg)) fun g hg=>Bs.of r (cC w) (fun x hx=>List.mem_cons_of_mem _ hx) hn hg;replace hu:=cL.cJ (S':=Bs FF w.heap.size ((Qf.heap.size,Q3.heap.size)::Q2) v9) (cL.cI (cL.rel hu r (cC w)) fun g hg=>he.block g (Rel.old r (cC w) g hg)) fun g hg=>Bs.of r (cC w) (fun x hx=>List.mem_cons_of_mem _ hx) hn hg;replace hl:=cS.cJ (S':=Bs FF w.heap.size ((Qf.heap.size,Q3.heap.size)::Q2) v9) (cS.cI (hl.rel r (cC w)) fun g hg=>he.block g (Rel.old r (cC w) g hg)) fun g hg=>Bs.of r (cC w) (fun x hx=>List.mem_cons_of_mem _ hx) hn hg;replace hh:=cS.cJ (S':=Bs FF w.heap.size ((Qf.heap.size,Q3.heap.size)::Q2) v9) (cS.cI (hh.rel r (cC w)) fun g hg=>he.block g (Rel.old r (cC w) g hg)) fun g hg=>Bs.of r (cC w) (fun x hx=>List.mem_cons_of_mem _ hx) hn hg;have hX:=hn.dE (S:=FF) r.cF (iv:=(Qf.heap.size,Q3.heap.size)::Q2) aG;clear r he hb hn;generalize (Qf.heap.size,Q3.heap.size)::Q2=R5 at*
 obtain⟨ax,cx,rfl,Vk⟩:=hX.row.form;obtain⟨gx,rfl⟩:=hX.at (by decide);refine⟨⟨gx,0,none⟩,rfl,by omega,?_⟩;intro O w' r;obtain⟨g,hg,h1,h2,h3,h4,h5⟩:=(hX.rel r (cC w)).store (j:=8) (by decide) (hh.cI (Bs.same r (cC w))) r (cC w);injection hg with hg;injection hg with hg;subst hg;refine⟨h1,h2,h3,fun w5 QZ=>?_⟩;obtain⟨k1,k2,k3⟩:=h5 w5 QZ;have Ow:eB w.heap.size w w5:=(hw.tr r.cQ).tr (eB.grown k2 (fun g e=>by injection e with e;subst e;exact h4.elim (fun h=>h.elim) fun h=>h.1) r.cF);have QM:=cL.cJ (S':=Cf w R5) (cL.cI hx (Bs.kept r (cC w) k2 fun g e=>e)) fun g hg=>hg.1;have RI:=cL.cJ (S':=Cf w R5) (cL.cI hu (Bs.kept r (cC w) k2 fun g e=>e)) fun g hg=>hg.1;have Pn:=cS.cJ (S':=Cf w R5) (cS.cI hl (Bs.kept r (cC w) k2 fun g e=>e)) fun g hg=>hg.1;have PC:=k1.c;clear hX hx hu hl hh hw h1 h2 h3 h4 h5 QZ k1 k2 k3 r;have hw:=Ow;have hx:=QM;have hu:=RI;have hl:=Pn;have hd:=PC;clear Ow QM RI Pn PC;refine cN hτ dm [.x 0,.x 1,.x 2,.x 3,.x 4,.x 5,.x 6,.x 7,.x 8,.x 9,.x 10,.x 11,.x 12,.x 13,.x 14,.x 15,.x 16,.x 17,.x 18,.x 19,.x 20,.x 21,.x 22,.x 23,.x 24,.x 25,.x 26,.x 27,.x 28,.x 29,.x 30,.x 31,.x 32,.x 33,.x 34,.x 35] (by kernel_rfl) (by kernel_rfl) ?_;refine cE hw (fun _ w' v w2=>da w2 FF w'.heap.size [(w'.heap.size,w2.heap.size)] v 9 (cd Bu)) (fun O w' r=>Ej (S:=fun g=>g=(O 5).g) (fun g hg=>by subst hg;exact Rel.lt r (id:=5) rfl) (MT r (id:=5) (n:=9) (l:=Bu) rfl rfl (by decide)) (by decide) (by decide) (by decide)) ?_;rintro O _ _ _ RP r he hw h_ hn;replace hx:=cL.cG hx r (cC w) he (mC h_);replace hu:=cL.cG hu r (cC w) he (mC h_);replace hl:=hl.cG r (cC w) he (mC h_);replace hd:=cL.cG hd r (cC w) he (mC h_);have hX:=hn.dE (S:=FF) r.cF (mN h_);clear r he hn;have hv:=hX.c;clear hX;obtain⟨av,cv,rfl,-,-⟩:=dM.shape hv;refine cE hw (fun _ w' v w2=>v= .bool true) (fun O w' r=>(jT (S:=Cf w RP) (Rel.old r (cC w)) (cL.rel hx r (cC w)) (cL.rel hv r (cC w))).mono fun _ _ ⟨v2,e1,e2,e3⟩=>⟨v2,e1,e2,by rw[e3];exact congrArg _ (bT rfl)⟩) ?_;rintro O _ _ _ Qn r he hw h_ rfl;clear hx;replace hu:=cL.cG hu r (cC w) he (mC h_);replace hl:=hl.cG r (cC w) he (mC h_);replace hd:=cL.cG hd r (cC w) he (mC h_);clear hv;clear r he;refine cE hw (fun _ w' v w2=>v= .bool true) (fun O w' r=>(jT (S:=Cf w Qn) (Rel.old r (cC w)) (cL.rel hu r (cC w)) (cL.rel hd r (cC w))).mono fun _ _ ⟨v2,e1,e2,e3⟩=>⟨v2,e1,e2,by rw[e3];exact congrArg _ (bT rfl)⟩) ?_;rintro O _ _ _ iv12 r he hw h_ rfl;clear hu;replace hl:=hl.cG r (cC w) he (mC h_);clear hd;clear r he;refine⟨true,fun O w o1 o2=>Lt 9 0 0 9 0 0 w o1 o2,?_⟩;refine cE hw (fun _ w' v w2=>cS w2 (Nf w' w2) v ((2:Int):Rat)) (fun O w' r=>jI 2 w' (by decide)) ?_;rintro O _ _ _ iv13 r he hw h_ hn;replace hl:=hl.cG r (cC w) he (mC h_);have ht:=hn.dE (S:=FF) r.cF (mN h_);clear r he hn;obtain⟨A0,A1,A2,A3,A4,A5,A6,A7,rfl⟩:=ht.shape;refine cE hw (fun _ w' v w2=>v= .bool true) (fun O w' r=>(Ki (S:=Cf w iv13) (Rel.old r (cC w)) (hl.rel r (cC w)) (ht.rel r (cC w))).mono fun _ _ ⟨v2,e1,e2,e3⟩=>⟨v2,e1,e2,by rw[e3];exact congrArg _ (bT rfl)⟩) ?_;rintro O _ _ _ iv14 r he hw h_ rfl;clear hl;clear ht;clear r he;exact rtn hw fun ρe we re=>rfl
set_option maxHeartbeats 2000000 in
set_option maxRecDepth 8000 in
theorem sQ{f:GI}(hS:Old S w)(hF:qA w S vn vb vs f)(hl:jB w S v l):
  eD PG N.ja #[.agg #[vn,vb,vs],v] w (eG w fun v' _=>v'= .bool true):=by
 have hw:=bR w;obtain⟨an,cn,rfl,-,-⟩:=hF.nodes.shape;obtain⟨ab,cb,rfl,-,-⟩:=hF.bars.shape;obtain⟨aq,cq,rfl,-,-⟩:=hF.cU.shape;obtain⟨al,cl,rfl,-,-⟩:=hl.shape;refine l9 (by simp) ?_;refine cD (cE hw (fun _ w' v w2=>∃d,v= .bool d∧(d=true->du w S (.slice an f.nodes.length cn) (.slice ab f.bars.length cb) (.slice aq f.cU.length cq) f.val∧(∀b∈f.val.bars,rl b.2.2<=3)∧(∀b∈f.val.cU,rl b.2.2<=3)∧(eO f.val≠0∨f.val.nodes.length<=4∧f.val.bars.length<=6))) (fun O w' r=>IM hS hw r hF) ?_);rintro O _ _ _ OM r he hw h_ ⟨d1,rfl,OV⟩;clear r
 cases d1
 ·conv=>whnf
  refine cD (cE hw (fun _ w' v w2=>v= .bool true) (fun O w' r=>qE w') ?_);rintro O Ph v2 PD OK r he hw h_ rfl;clear r;exact rtn hw fun ρe we re=>rfl
 have OV:=OV rfl;refine cD (cE hw (fun _ w' v w2=>∃d,v= .bool d) (fun O w' r=>NH (hl.cI (kS hw r hS))) ?_);rintro O _ v2 _ OK r he hw h_ ⟨d2,rfl⟩;clear r
 cases d2
 ·conv=>whnf
  refine cD (cE hw (fun _ w' v w2=>v= .bool true) (fun O w' r=>qE w') ?_);rintro O PQ v3 PN OS r he hw h_ rfl;clear r;exact rtn hw fun ρe we re=>rfl
 obtain⟨hR,hrb,VB,SN⟩:=OV;obtain⟨fv,hfv⟩:∃fv,f.val=fv:=⟨_,rfl⟩
 rw[hfv]at hR hrb VB SN;obtain⟨en,eb,es⟩:f.nodes.length=fv.nodes.length∧f.bars.length=fv.bars.length∧f.cU.length=fv.cU.length:=by rw[<-hfv];exact⟨rfl,(aJ ..).symm,(aJ ..).symm⟩
 rw[en,eb,es]at hR ⊢;clear hF hfv en eb es;obtain⟨e0,EE⟩:∃e,j3 fv l=e:=⟨_,rfl⟩
 have hsf:eO fv=0->sU fv:=Ke SN hrb VB;have hsf2:eO fv=0->FrS fv:=fun h=>(hsf h).toFrS;by_cases he0:e0=0
 ·rw[he0]at EE;obtain⟨PO,QX⟩:=lQ EE;have Pz:=hsf PO;have PU:=Pz.toFrS;have QX:=Cz QX;have S9:(cZ (fJ fv l) (-1)).length=(cP fv).length:=by rw[cZ,aJ,mM,iV]
  by_cases Q4:jn (cP fv) fv.cols=(cP fv).length
  ·obtain⟨x,u,hx,hu,-,-⟩:=PU.Bt (b:=cZ (fJ fv l) (-1)) S9 Q4;have PF:∀{x2 u2},jm (cP fv) fv.cols (GR fv) (cZ (fJ fv l) (-1)) x2->fE (eK (cP fv) fv.cols) (cZ (ew x2 (cX fv)) (-1)) (cP fv).length=some u2->x2=x∧u2=u:=fun g1 g2=>by
    obtain rfl:=Pz.EF.one g1 hx;rw[hu]at g2;injection g2 with g2;exact⟨rfl,g2.symm⟩
   refine cD (cE hw (fun _ w' v w2=>∃vu vx,v= .tuple #[vu,vx,.int .i64 0]∧cL w2 (Nf w' w2) vu u∧cL w2 (Nf w' w2) vx x) (fun O w' r=>(mO (oS hS r) (hR.cI (kS hw r hS)) (hl.cI (kS hw r hS)) hsf).mono fun _ _ ⟨v2,e1,e2,e3⟩=>⟨v2,e1,e2,e3.elim (fun h=>absurd EE h.1) fun h=>h.2.elim (fun g=>absurd g.1 (by omega)) fun⟨_,x2,u2,vx,vu,g1,g2,e3,e4,e5⟩=>by obtain⟨rfl,rfl⟩:=PF g1 g2;exact⟨vu,vx,e3,e4,e5⟩⟩) ?_);rintro O PQ v3 PN OS r he hw h_ ⟨qhu1,qhx1,rfl,hn,Qj⟩;have Si:=cL.dE (S:=FF) hn r.cF (mN h_);have QK:=cL.dE (S:=FF) Qj r.cF (mN h_);clear r;obtain⟨ahu1,chu1,rfl,-,-⟩:=dM.shape Si;obtain⟨ahx1,chx1,rfl,-,-⟩:=dM.shape QK;clear hn Qj;refine cD (cE hw (fun _ w' v w2=>v= .int .i64 0) (fun O w' r=>(oN (oS hS r) (hR.cI (kS hw r hS)) (hl.cI (kS hw r hS))).mono fun _ _ ⟨v2,e1,e2,e3⟩=>⟨v2,e1,e2,by rw[e3,EE]⟩) ?_);rintro O RE v4 Qr Oe r he hw h_ rfl;replace Si:=cL.cG Si r (cC w) he (mC h_);replace QK:=cL.cG QK r (cC w) he (mC h_);clear r;refine cD (cE hw (fun _ w' v w2=>∃vu vx,v= .tuple #[vu,vx,.int .i64 0]∧cL w2 (Nf w' w2) vu u∧cL w2 (Nf w' w2) vx x) (fun O w' r=>(wh (oS hS r) (hR.cI (kS hw r hS)) (hl.cI (kS hw r hS)) PO Pz QX).mono fun _ _ ⟨v2,e1,e2,e3⟩=>⟨v2,e1,e2,e3.elim (fun g=>absurd g.1 (by omega)) fun⟨_,x2,u2,vx,vu,g1,g2,e3,e4,e5⟩=>by obtain⟨rfl,rfl⟩:=PF g1 g2;exact⟨vu,vx,e3,e4,e5⟩⟩) ?_);rintro O Rr v5 Rg Pp r he hw h_ ⟨qhu2,qhx2,rfl,hn,Qj⟩;replace Si:=cL.cG Si r (cC w) he (mC h_);replace QK:=cL.cG QK r (cC w) he (mC h_);have RI:=cL.dE (S:=FF) hn r.cF (mN h_);have QM:=cL.dE (S:=FF) Qj r.cF (mN h_);clear r;obtain⟨ahu2,chu2,rfl,-,-⟩:=dM.shape RI;obtain⟨ahx2,chx2,rfl,-,-⟩:=dM.shape QM;clear hn Qj;refine cD (cE hw (fun _ w' v w2=>v= .bool true) (fun O w' r=>(jT (S:=Cf w Pp) (Rel.old r (cC w)) (cL.rel Si r (cC w)) (cL.rel RI r (cC w))).mono fun _ _ ⟨v2,e1,e2,e3⟩=>⟨v2,e1,e2,by rw[e3];exact congrArg _ (bT rfl)⟩) ?_);rintro O SI v6 SO Qy r he hw h_ rfl;replace Si:=cL.cG Si r (cC w) he (mC h_);replace QK:=cL.cG QK r (cC w) he (mC h_);replace RI:=cL.cG RI r (cC w) he (mC h_);replace QM:=cL.cG QM r (cC w) he (mC h_);clear r;refine cD (cE hw (fun _ w' v w2=>v= .bool true) (fun O w' r=>(jT (S:=Cf w Qy) (Rel.old r (cC w)) (cL.rel QK r (cC w)) (cL.rel QM r (cC w))).mono fun _ _ ⟨v2,e1,e2,e3⟩=>⟨v2,e1,e2,by rw[e3];exact congrArg _ (bT rfl)⟩) ?_);rintro O Um v7 Un TN r he hw h_ rfl;replace Si:=cL.cG Si r (cC w) he (mC h_);replace QK:=cL.cG QK r (cC w) he (mC h_);replace RI:=cL.cG RI r (cC w) he (mC h_);replace QM:=cL.cG QM r (cC w) he (mC h_);clear r;refine cD (cE hw (fun _ w' v w2=>∃vx,v= .tuple #[vx,.int .i64 0]∧cL w2 (Nf w' w2) vx x) (fun O w' r=>(AA (oS hS r) (hR.cI (kS hw r hS)) (hl.cI (kS hw r hS)) hsf).mono fun _ _ ⟨v2,e1,e2,e3⟩=>⟨v2,e1,e2,e3.elim (fun h=>absurd EE h.1) fun h=>h.2.elim (fun g=>by obtain⟨z,hz⟩:=qR (fT fv) (x:=fun t=>x.getD t 0) hx.eq;rw[g.1]at hz;cases hz) fun⟨x3,vx,g,k1,k2⟩=>⟨vx,k1,Pz.EF.one g hx▸k2⟩⟩) ?_);rintro O RT v8 Qm Q2 r he hw h_ ⟨vz,rfl,hn⟩;replace Si:=cL.cG Si r (cC w) he (mC h_);replace QK:=cL.cG QK r (cC w) he (mC h_);replace RI:=cL.cG RI r (cC w) he (mC h_);replace QM:=cL.cG QM r (cC w) he (mC h_);have hz:=cL.dE (S:=FF) hn r.cF (mN h_);clear r;clear hn;obtain⟨az,cz,rfl,-,-⟩:=dM.shape hz;refine cD (cE hw (fun _ w' v w2=>v= .bool true) (fun O w' r=>(jT (S:=Cf w Q2) (Rel.old r (cC w)) (cL.rel QK r (cC w)) (cL.rel hz r (cC w))).mono fun _ _ ⟨v2,e1,e2,e3⟩=>⟨v2,e1,e2,by rw[e3];exact congrArg _ (bT rfl)⟩) ?_);rintro O _ _ _ R5 r he hw h_ rfl;replace Si:=cL.cG Si r (cC w) he (mC h_);replace QK:=cL.cG QK r (cC w) he (mC h_);replace RI:=cL.cG RI r (cC w) he (mC h_);replace QM:=cL.cG QM r (cC w) he (mC h_);replace hz:=cL.cG hz r (cC w) he (mC h_);clear r;refine cD (cE hw (fun _ w' v w2=>v= .bool true) (fun O w' r=>qE w') ?_);rintro O _ _ _ RP r he hw h_ rfl;replace Si:=cL.cG Si r (cC w) he (mC h_);replace QK:=cL.cG QK r (cC w) he (mC h_);replace RI:=cL.cG RI r (cC w) he (mC h_);replace QM:=cL.cG QM r (cC w) he (mC h_);replace hz:=cL.cG hz r (cC w) he (mC h_);clear r;exact rtn hw fun ρe we re=>rfl
  have OU:jn (cP fv) fv.cols<(cP fv).length:=by have:=(im (cP fv) fv.cols (fT fv)).1;rw[dh]at this;exact Nat.lt_of_le_of_ne this Q4
  refine cD (cE hw (fun _ w' v w2=>v= .tuple #[.slice none 0 0,.slice none 0 0,.int .i64 17]) (fun O w' r=>(mO (oS hS r) (hR.cI (kS hw r hS)) (hl.cI (kS hw r hS)) hsf).mono fun _ _ ⟨v2,e1,e2,e3⟩=>⟨v2,e1,e2,e3.elim (fun h=>absurd EE h.1) fun h=>h.2.elim (fun g=>g.2) fun g=>absurd g.1 Q4⟩) ?_);rintro O PQ v3 PN OS r he hw h_ rfl;clear r;refine cD (cE hw (fun _ w' v w2=>v= .int .i64 0) (fun O w' r=>(oN (oS hS r) (hR.cI (kS hw r hS)) (hl.cI (kS hw r hS))).mono fun _ _ ⟨v2,e1,e2,e3⟩=>⟨v2,e1,e2,by rw[e3,EE]⟩) ?_);rintro O RE v4 Qr Oe r he hw h_ rfl;clear r;refine cD (cE hw (fun _ w' v w2=>v= .tuple #[.slice none 0 0,.slice none 0 0,.int .i64 17]) (fun O w' r=>(wh (oS hS r) (hR.cI (kS hw r hS)) (hl.cI (kS hw r hS)) PO Pz QX).mono fun _ _ ⟨v2,e1,e2,e3⟩=>⟨v2,e1,e2,e3.elim (fun g=>g.2) fun g=>absurd g.1 Q4⟩) ?_);rintro O Rr v5 Rg Pp r he hw h_ rfl;clear r;refine cD (cE hw (fun _ w' v w2=>v= .bool true) (fun O w' r=>(jT (S:=FF) (xs:=[]) (ys:=[]) (fun g hg=>hg.elim) cL.Ln cL.Ln).mono fun _ _ ⟨v2,e1,e2,e3⟩=>⟨v2,e1,e2,by rw[e3];exact congrArg _ (bT rfl)⟩) ?_);rintro O _ _ _ Qy r he hw h_ rfl;clear r;refine cD (cE hw (fun _ w' v w2=>v= .bool true) (fun O w' r=>(jT (S:=FF) (xs:=[]) (ys:=[]) (fun g hg=>hg.elim) cL.Ln cL.Ln).mono fun _ _ ⟨v2,e1,e2,e3⟩=>⟨v2,e1,e2,by rw[e3];exact congrArg _ (bT rfl)⟩) ?_);rintro O _ _ _ TN r he hw h_ rfl;clear r;refine cD (cE hw (fun _ w' v w2=>v= .bool true) (fun O w' r=>qE w') ?_);rintro O _ _ _ Q2 r he hw h_ rfl;clear r;exact rtn hw fun ρe we re=>rfl
 refine cD (cE hw (fun _ w' v w2=>v= .tuple #[.slice none 0 0,.slice none 0 0,.int .i64 e0]) (fun O w' r=>(mO (oS hS r) (hR.cI (kS hw r hS)) (hl.cI (kS hw r hS)) hsf).mono fun _ _ ⟨v2,e1,e2,e3⟩=>⟨v2,e1,e2,e3.elim (fun h=>by rw[h.2,EE]) fun h=>absurd (EE.symm.trans h.1) he0⟩) ?_);rintro O _ _ _ OS r he hw h_ rfl;clear r;refine cD (cE hw (fun _ w' v w2=>v= .int .i64 e0) (fun O w' r=>(oN (oS hS r) (hR.cI (kS hw r hS)) (hl.cI (kS hw r hS))).mono fun _ _ ⟨v2,e1,e2,e3⟩=>⟨v2,e1,e2,by rw[e3,EE]⟩) ?_);rintro O _ _ _ Oe r he hw h_ rfl;clear r;refine dN.mk (fun _=>?_) (fun hd=>absurd (by simpa using hd) he0);refine dN.mk (fun _=>?_) (fun hd=>by simp at hd);refine⟨0,by rfl,?_⟩;refine cD (cE hw (fun _ w' v w2=>v= .bool true) (fun O w' r=>qE w') ?_);rintro O _ _ _ Pp r he hw h_ rfl;clear r;exact rtn hw fun ρe we re=>rfl
end Go.Ex
