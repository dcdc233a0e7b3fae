/- Texts X194 to X208: lemmas, each with its conditions. -/
import Derived.Test.YtkdcaknoaeicdaaGreatP14
namespace Go.Ex
open Go Go.Sx Go.Proofs
variable{iv:Iv}{S:Nat->Prop}{v:Value}
def JE(g:Nat):Iv->Iv
 |[]=>[]
 |(lo,hi)::iv=>(lo,min hi g)::(max lo (g+1),hi)::JE g iv
def xL(v:Value)(iv:Iv):Iv:=match v.ownBlock with
 |some g=>JE g iv
 |none=>iv
theorem DW{g lo hi:Nat}:∀{iv:Iv},(lo,hi)∈JE g iv->∃a b,(a,b)∈iv∧a<=lo∧hi<=b∧¬(lo<=g∧g<hi)
 |[],h=>by cases h
 |(x,y)::iv,h=>by
  rcases List.mem_cons.1 h with h|h
  ·injection h with h1 h2;exact⟨x,y,aG,by omega,by omega,by omega⟩
  ·rcases List.mem_cons.1 h with h|h
   ·injection h with h1 h2;exact⟨x,y,aG,by omega,by omega,by omega⟩
   ·obtain⟨a,b,h1,h2⟩:=DW h;exact⟨a,b,List.mem_cons_of_mem _ h1,h2⟩
theorem Gd{g x lo hi:Nat}(h1:lo<=x)(h2:x<hi)(OJ:x≠g):∀{iv:Iv},(lo,hi)∈iv->∃a b,(a,b)∈JE g iv∧a<=x∧x<b
 |[],h=>by cases h
 |(p,q)::iv,h=>by
  rcases List.mem_cons.1 h with h|h
  ·injection h with e1 e2;subst e1 e2;rcases aQ x g with h3|h3
   ·exact⟨_,_,aG,h1,by omega⟩
   ·exact⟨_,_,List.mem_cons_of_mem _ aG,by omega,h2⟩
  ·obtain⟨a,b,h3,h4⟩:=Gd h1 h2 OJ h;exact⟨a,b,List.mem_cons_of_mem _ (List.mem_cons_of_mem _ h3),h4⟩
theorem Cv.cut{B x:Nat}(h:Cv S B iv x)(OJ:v.ownBlock≠some x):Cv S B (xL v iv) x:=by
 rcases h with h|⟨hb,lo,hi,h1,h2,h3⟩
 ·exact .inl h
 ·refine .inr ⟨hb,?_⟩;unfold xL
  cases e:v.ownBlock with
  |none=>exact⟨lo,hi,h1,h2,h3⟩
  |some g=>
   obtain⟨a,b,k1,k2,k3⟩:=Gd h2 h3 (fun e2=>OJ (by rw[e,e2])) h1;exact⟨a,b,k1,k2,k3⟩
theorem BZ{lo hi:Nat}(h:(lo,hi)∈xL v iv):∃a b,(a,b)∈iv∧a<=lo∧hi<=b∧∀g,v.ownBlock=some g->¬(lo<=g∧g<hi):=by
 unfold xL at h
 cases e:v.ownBlock with
 |none=>rw[e]at h;exact⟨lo,hi,h,aF _,aF _,fun g e2=>by cases e2⟩
 |some g=>
  rw[e]at h;obtain⟨a,b,h1,h2,h3,h4⟩:=DW h;exact⟨a,b,h1,h2,h3,fun g2 e2=>by injection e2 with e2;subst e2;exact h4⟩
end Go.Ex
namespace Go.Sx
open Go Go.Ex Go.Proofs
variable{xs:List Value}{O:Nat->Sx.di}
theorem Rel.CU{H:Hp}{nx:Nat}{iv:Iv}{B:Nat}{w w':World}(r:Rel H nx iv B w O w'){e sz n:Nat}{v:Value}(OK:w'.ownsRow 0 e sz v n xs)(On:∀g,v.ownBlock=some g->B<=g)
  (OJ:∀g,v.ownBlock=some g->∀id b,dE H id=some b->(O id).nil=false->(O id).g≠g):
  ∃u:Sx.di,Rel ((nx,.vec e sz xs)::H) (nx+1) (xL v iv) B w' (Sx.gW O nx u) w'∧(At.w nx n).den (Sx.gW O nx u)=v:=by
 have r0:Rel H nx (xL v iv) B w' O w':=Rel.mk' rfl rfl rfl (aF _) (by have:=r.base;have:=r.size;omega)
  (fun lo hi hm=>by obtain⟨a,b,h1,h2,h3,_⟩:=BZ hm;have:=r.po a b h1;have:=r.size;omega) r.keys (fun j c h=>r.fits h) (fun j c h=>r.scopd h) r.inj r.low (fun _ _ _=>rfl)
  (fun lo hi hm id b h hn hh=>by obtain⟨a,c,h1,h2,h3,_⟩:=BZ hm;exact r.kT a c h1 id b h hn ⟨by omega,by omega⟩)
 have VK:∀lo hi,(lo,hi)∈xL v iv->∀g,v.ownBlock=some g->¬(lo<=g∧g<hi):=fun lo hi hm=>by obtain⟨a,c,h1,h2,h3,h4⟩:=BZ hm;exact h4
 obtain⟨h1,h2⟩:=OK;rcases h2 with⟨rfl,rfl⟩|⟨g,cap,cur,rfl,_,hc,hn,hm,hs,ht⟩
 ·have:xs=[]:=List.eq_nil_of_length_eq_zero (by rw[h1,Nat.zero_mul]);subst this;exact⟨⟨0,0,true⟩,r0.push (.vec e sz []) ⟨0,0,true⟩ rfl rfl rfl (aF _) (fun _ _=>rfl) (fun h=>by cases h) (.inl ⟨rfl,rfl⟩) trivial,by simp[At.den,Sx.gW]⟩
 ·generalize xL (.slice (some ⟨g,0,none⟩) n cap) iv=ON at*
  have OJ:=OJ g rfl;have On:=On g rfl;have hgl:g<w'.heap.size:=(ai.1 hc).1;have Oc:∀id b,dE H id=some b->id≠nx:=fun id b h=>Nat.ne_of_lt (r.keys id b h);have Pf:∀id b,dE H id=some b->Sx.gW O nx ⟨g,cap,false⟩ id=O id:=fun id b h=>by simp[Sx.gW,Oc id b h]
  have Wh:xs++cur.toList.drop (n*sz)=cur.toList:=by rw[<-ht,List.take_append_drop]
  refine⟨⟨g,cap,false⟩,Rel.mk' rfl rfl rfl (aF _) r0.base r0.po ?_ ?_ ?_ ?_ ?_ (fun _ _ _=>rfl) ?_,by simp[At.den,Sx.gW]⟩
  ·intro id b' h;rw[dA]at h;split at h
   ·omega
   ·have:=r.keys id b' h;omega
  ·intro id b' h;rw[dA]at h;split at h
   ·rename_i e2;subst e2;injection h with h;subst h;rw[Sx.eR];exact .inr ⟨rfl,cur.toList.drop (n*sz),by rw[Wh];simpa using hc,by rw[Wh];simpa using hs,hm⟩
   ·rw[Pf id b' h];exact kN.gw (r.fits h) Sx.gG (r.scopd h) (fun _ _=>rfl)
  ·intro id b' h;rw[dA]at h;split at h
   ·injection h with h;subst h;exact trivial
   ·exact kN.im (by omega) (r.scopd h)
  ·intro id id' b1 b2 h1 h2 d1 d2 n1 n2 e2;rw[dA]at h1 h2;split at h1<;>split at h2
   ·omega
   ·rename_i e1 e3;subst e1;rw[Sx.eR]at e2 n1;rw[Pf id' b2 h2]at e2 n2;exact absurd e2.symm (OJ id' b2 h2 n2)
   ·rename_i e1 e3;subst e3;rw[Sx.eR]at e2 n2;rw[Pf id b1 h1]at e2 n1;exact absurd e2 (OJ id b1 h1 n1)
   ·rw[Pf id b1 h1]at e2 n1;rw[Pf id' b2 h2]at e2 n2;exact r.inj id id' b1 b2 h1 h2 d1 d2 n1 n2 e2
  ·intro id b' h n1;rw[dA]at h;split at h
   ·rename_i e2;subst e2;rw[Sx.eR];exact⟨On,hgl⟩
   ·rw[Pf id b' h]at n1 ⊢;exact r.low id b' h n1
  ·intro lo hi UE id b' h n1;rw[dA]at h;split at h
   ·rename_i e2;subst e2;rw[Sx.eR];exact VK lo hi UE g rfl
   ·rw[Pf id b' h]at n1 ⊢;exact r0.kT lo hi UE id b' h n1
end Go.Sx
namespace Go.Ex
open Go Go.Sx Go.Proofs
end Go.Ex
namespace Go.Sx
open Go Go.Ex Go.Proofs
variable{xs:List Value}{O:Nat->Sx.di}
theorem Sub.CU{B nx:Nat}{l:Env}{H:Hp}{iv:Iv}{w w':World}{t:z6}(u n:Nat){e sz:Nat}{v:Value}(h9:fT l u=some (.o (.v v)))(SZ:jQ nx l)(r:Rel H nx iv B w O w')(OK:w'.ownsRow 0 e sz v n xs)
  (On:∀g,v.ownBlock=some g->B<=g) (OJ:∀g,v.ownBlock=some g->∀id b,dE H id=some b->(O id).nil=false->(O id).g≠g)
  (h:∀ρ1,Rel ((nx,.vec e sz xs)::H) (nx+1) (xL v iv) B w' ρ1 w'->Sx.Sub B ((u,.o (.w nx n))::l) (nx+1) ρ1 w' t):Sx.Sub B l nx O w' t:=by
 obtain⟨u2,r1,Qv⟩:=r.CU OK On OJ;obtain⟨ρ',h1,h2⟩:=h _ r1;refine⟨ρ',h1,fun x v2 hv=>?_⟩;obtain⟨h3,v0,h4,h5⟩:=h2 x v2 hv;refine⟨h3,?_⟩;rw[eX]at h4;split at h4
 ·rename_i e2;subst e2;injection h4 with h4;subst h4;refine⟨_,h9,?_⟩;rw[<-h5];show v=(At.w nx n).den _;exact Qv.symm
 ·refine⟨v0,h4,?_⟩;rw[<-h5];exact SV.jg (fun id Ox=>gG id Ox) (SZ.get _ _ h4)
end Go.Sx
namespace Go.Ex
open Go Go.Sx Go.Proofs
end Go.Ex
namespace Go.Ex
open Go Go.Sx Go.Proofs
variable{b:Int×Int×Rat}{M:List (List Rat)}{l:List Ld}{s x:List Rat}{S:Nat->Prop}{vb vl vn vs:Value}{w:World}{f:ew}
def ph(f:ew)(x:List Rat):List Rat:=(List.range x.length).map fun t=>(cY f).getD t 0*x.getD t 0
theorem Ge(f:ew)(x:List Rat):(ph f x).length=x.length:=by rw[ph,aJ,List.length_range]
theorem Gf{i:Nat}(h:f.bars[i]? =some b):(cY f).getD i 0=b.2.2:=by
 have hl:=(aD.1 h).1;rw[List.getD,cY,aL (by rw[aJ];exact hl),aM,h];rfl
theorem Gg{i:Nat}(h:f.cV[i]? =some b):(cY f).getD (f.bars.length+i) 0=b.2.2:=by
 rw[List.getD,cY,aN (by rw[aJ];omega),aJ,Nat.add_sub_cancel_left,aM,h];rfl
theorem NZ(hS:Old S w)(hf:dT w S vn vb vs f)(Ok:f.bars.length<=60∧f.cV.length<=60){i:Nat}(hi:i<f.cols):
  eD PG N.Ag #[.agg #[vn,vb,vs],.int .i64 i] w (eG w fun v' w2=>eS w2 S v' ((cY f).getD i 0)):=by
 have hw:=bR w;have hf0:=hf;obtain⟨an,cn,ab,cb,aq,cq,rfl,rfl,rfl,Qj,RJ,R6⟩:=hf.shape;have Pz:f.cols=f.bars.length+f.cV.length:=rfl;refine Bu (by simp) ?_;refine dI.mk ?_ ?_<;>intro OI
 ·have hk:i<f.bars.length:=by have:=aI OI;omega
  obtain⟨b,hb⟩:∃b,f.bars[i]? =some b:=⟨_,aB hk⟩
  obtain⟨adb,cs,Py,hF,-,Oq⟩:=hf0.bars.load (by decide) hb;obtain⟨g0,g1,g2,g3,g4,g5,g6,g7,rfl,hF⟩:=hF;refine⟨adb,Py,by omega,[.bool g0,.slice g1 g2 g3,.bool g4,.slice g5 g6 g7],rfl,fun O w' r j u hu=>?_,?_⟩
  ·have Vh:=(aD.1 hu).1;obtain⟨k1,k2⟩:=Oq (2+j) u (by rcases j with _|_|_|_|j<;>first|exact hu|(have:j+4<4:=Vh;omega));rw[cH (w:=w) (w2:=w') (by simp only[dD];exact(hw.tr r.cQ).block _ (hS _ k1))];simp only[aE,Int.toNat_zero,Nat.zero_mul,k7]at k2 ⊢
   first|exact k2|(rw [<-k2];congr 2;omega)
  exact rtn hw fun ρe we re=>by rw[Gf hb];exact hF.cI fun g hg=>(hw.tr re.cQ).block g (hS g hg)
 have OI:f.bars.length<=i:=by have:=aH OI;omega
 obtain⟨k,rfl⟩:∃k,i=f.bars.length+k:=⟨i-f.bars.length,by omega⟩
 have hk:k<f.cV.length:=by omega
 refine⟨(k:Int),wo,?_⟩;obtain⟨b,hb⟩:∃b,f.cV[k]? =some b:=⟨_,aB hk⟩
 obtain⟨adb,cs,Py,hF,-,Oq⟩:=hf0.cV.load (by decide) hb;obtain⟨g0,g1,g2,g3,g4,g5,g6,g7,rfl,hF⟩:=hF;refine⟨adb,Py,by omega,[.bool g0,.slice g1 g2 g3,.bool g4,.slice g5 g6 g7],rfl,fun O w' r j u hu=>?_,?_⟩
 ·have Vh:=(aD.1 hu).1;obtain⟨k1,k2⟩:=Oq (2+j) u (by rcases j with _|_|_|_|j<;>first|exact hu|(have:j+4<4:=Vh;omega));rw[cH (w:=w) (w2:=w') (by simp only[dD];exact(hw.tr r.cQ).block _ (hS _ k1))];simp only[aE,Int.toNat_zero,Nat.zero_mul,k7]at k2 ⊢
  first|exact k2|(rw [<-k2];congr 2;omega)
 exact rtn hw fun ρe we re=>by rw[Gg hb];exact hF.cI fun g hg=>(hw.tr re.cQ).block g (hS g hg)
theorem Gi(hS:Old S w)(hf:dT w S vn vb vs f)(Ok:f.bars.length<=60∧f.cV.length<=60){u:Value}(hx:cX w S u x)(Pk:x.length<=f.cols):
  eD PG N.qW #[.agg #[vn,vb,vs],u] w (eG w fun v' w2=>cN w2 (Nf w w2) v' (ph f x)):=by
 have hw:=bR w;obtain⟨an,cn,ab,cb,aq,cq,rfl,rfl,rfl,Qj,RJ,R6⟩:=hf.shape;obtain⟨ax,cx,rfl,Wm,hmx⟩:=dH.shape hx;have Pz:f.cols=f.bars.length+f.cV.length:=rfl;refine vC (by simp) ?_
 refine⟨Nat×List (List Value)×World×Iv,fun z=>⟨[(1,sV ax x.length cx),(2,pP 0 0),(5,.o (.w 1 z.2.1.length)),(6,iN z.1)],[(1,.vec T.Rat 4 z.2.1.flatten),(0,.box T.Frame [.v (.slice an f.nodes.length cn),.v (.slice ab f.bars.length cb),.v (.slice aq f.cV.length cq)])],2,z.2.2.2,z.2.2.1⟩,fun z=>x.length-z.1,
  fun z=>z.1<=x.length∧dm w.heap.size w z.2.2.1∧dU z.2.2.1 (Cf w z.2.2.2) z.2.1 ((ph f x).take z.1),?_,?_⟩
 ·intro O w' r;exact⟨(0,[],w',[]),⟨aO _,hw.tr r.cQ,dU.nil⟩,Sub.nil 5 T.Rat 4 rfl (by simp[jQ,SV.sc,At.sc,fP]) r fun ρ1 r1=>Sub.gn [] r1⟩
 rintro⟨i,css,w1,iv⟩ ⟨hi,hw,hG⟩;dsimp only at hi hw hG ⊢;have OY:=eK hG.four;have R7:css.length=i:=by rw[hG.len,aW,Ge];omega
 refine dI.mk ?_ ?_<;>intro OI
 ·have OI:i<x.length:=by simpa using OI
  obtain⟨q,hq⟩:∃q,x[i]? =some q:=⟨_,aB OI⟩
  have hsn:(ph f x).take (i+1)=(ph f x).take i++[(cY f).getD i 0*q]:=by
   rw[List.take_add_one,ph,aM,bh OI,<-getD_some (d:=0) hq];rfl
  obtain⟨adx,csx,PS,Rs,-,Oo⟩:=dH.load hx hq;obtain⟨f0,f1,f2,f3,f4,f5,f6,f7,rfl,Rs⟩:=Rs;refine cK hτ da [.x 0,.x 1,.x 2,.x 4,.x 5,.x 6,.x 7,.x 3,.x 8,.x 9,.x 10,.x 11] (by kernel_rfl) (by kernel_rfl) ?_;refine⟨adx,PS,by omega,[.bool f0,.slice f1 f2 f3,.bool f4,.slice f5 f6 f7],rfl,rdO Oo hw hS,?_⟩;refine cE hw (fun _ w' v w2=>eS w2 S v ((cY f).getD i 0)) (fun O w' r=>NZ (oS hS r) (hf.cI (kS hw r hS)) Ok (by omega)) ?_;rintro O _ _ _ OP r he hw h_ hL;replace hG:=hG.cG r (cC w) he (mC h_);obtain⟨l0,l1,l2,l3,l4,l5,l6,l7,rfl⟩:=hL.shape;refine cE hw (fun _ w' v w2=>cS w2 (Nf w' w2) v ((cY f).getD i 0*q)) (fun O w' r=>IA (oS hS r) (hL.cI fun g hg=>Rel.same r hS (.inl hg)) (Rs.cI (kS hw r hS))) ?_;rintro O _ _ _ ON r he hw h_ hn;replace hG:=hG.cG r (cC w) he (mC h_);have hd:=hn.dB (S:=FF) r.cF (mN h_);obtain⟨A0,A1,A2,A3,A4,A5,A6,A7,rfl⟩:=hd.shape;have RZ:=hG.push (cs:=[.bool A0,.slice A1 A2 A3,.bool A4,.slice A5 A6 A7]) (q:=(cY f).getD i 0*q) ⟨_,_,_,_,_,_,_,_,rfl,hd⟩ rfl;rw[<-hsn]at RZ;have Po:css.flatten++([.bool A0,.slice A1 A2 A3,.bool A4,.slice A5 A6 A7]:List Value)=(css++([[.bool A0,.slice A1 A2 A3,.bool A4,.slice A5 A6 A7]]:List (List Value))).flatten:=by simp
  refine .inl ?_;refine⟨by omega,by omega,by unfold maxLen;omega,((i+1:Nat):Int),wo,?_⟩;intro ρ3 w6 r3;exact⟨(i+1,css++[[.bool A0,.slice A1 A2 A3,.bool A4,.slice A5 A6 A7]],w6,_),⟨OI,hw.tr r3.cQ,RZ.rel r3 (cC w)⟩,Sub.gn [(1,3)] r3 ⟨by dsimp only;rw[<-Po];rfl,rfl,trivial⟩ ⟨rfl,rfl,by dsimp only;rw[List.length_append,List.length_singleton];rfl,rfl,trivial⟩,by dsimp only;omega⟩
 have OI:i=x.length:=aP hi (by simpa using OI);rw[List.take_of_length_le (by rw[Ge];omega)]at hG;intro ρe we re;refine⟨_,rfl,hw.tr re.cQ,?_⟩;have h5:=re.iC (id:=1) (sz:=4) (m:=css.length) rfl OY (by unfold maxLen;omega) (by decide) hG.one;exact dU.list ((hG.rel re (cC w)).cJ fun g hg=>Cv.nw hg re) (h5.cJ fun g hg=>.inr hg)
theorem kH(OM:nB f.nodes.length l):Bl (cW (eh f l) (-1)):=fun t=>by
 rcases aQ t (cW (eh f l) (-1)).length with h|h
 ·have h2:t<(eh f l).length:=by rw[cW,aJ]at h;exact h
  have h3:(eh f l)[t]∈eh f l:=aX h2;rw[getD_some (show (cW (eh f l) (-1))[t]? =some ((eh f l)[t]* -1) by rw[cW,aM,aB h2];rfl)];obtain⟨z,hz,Ot⟩:=aT.1 h3;have hb:=xK OM l.length (aF _) z hz;have hl:=OM.len;rw[<-Ot,show(z:Rat)* -1=((-z:Int):Rat) by rw[Rat.intCast_neg];grind];exact Ib.int (by omega)
 ·rw[gZ h];exact Ib.zero _
theorem Gj(hn:f.nodes.length<=20)(OM:nB f.nodes.length l):∀q∈cW (eh f l) (-1),rl q<=5:=fun q hq=>by
 obtain⟨y,hy,rfl⟩:=aT.1 hq;have h1:=Eb hn OM y hy;have h2:=j9 y (-1);have h3:rl (-1)=1:=by decide
 omega
theorem Gk:jy (cP f) f.cols (fun t=>(cY f).getD t 0)=cP f++(cT (cP f) f.cols).map (ph f):=by
 unfold jy;congr 1;refine List.map_congr_left fun s hs=>?_;rw[ph,j7 _ _ s hs]
theorem aAc(h:nY f)(hl:s.length=f.cols)(hs:∀q∈s,rl q<=14):∀q∈ph f s,rl q<=20:=fun q hq=>by
 obtain⟨t,ht,rfl⟩:=aT.1 hq;have ht:=List.mem_range.1 ht;have h1:=j9 ((cY f).getD t 0) (s.getD t 0);have h2:=h.fxD (t:=t) (by omega);have h3:=hs (s.getD t 0) (by rw[getD_some (aB ht)];exact aX _);omega
theorem nY.OB(h:nY f):∀r∈cT (cP f) f.cols,∀q∈r,rl q<=14:=fun r hr q hq=>by
 obtain⟨D,hD⟩:=h.ker;have h1:=hD.rl r hr q hq;have h2:ln (wt 13)<=14:=gP.2 (IX (by decide));omega
theorem nY.aAd(h:nY f):Ht (jy (cP f) f.cols fun t=>(cY f).getD t 0) 21:=fun r hr q hq=>by
 rw[Gk]at hr;rcases bK.1 hr with hr|hr
 ·have:=MN h.toFrS r hr q hq;omega
 ·obtain⟨s,hs,rfl⟩:=aT.1 hr;have:=aAc h (j7 _ _ s hs) (h.OB s hs) q hq;omega
theorem OC{n B h0 c:Nat}(hM:fZ n M)(hW:Bp M n B)(hB:1<=B)(hs:ln (fB B M.length)+1<=h0)(hc:c<=n):Ht (cM M c).1 h0:=fun r hr q hq=>by
 have:=tG hM hW hB hc r hr q hq;omega
set_option maxRecDepth 8000 in
theorem IB(hS:Old S w)(hf:dT w S vn vb vs f)(hl:fu w S vl l)(OS:eJ f=0)(Oe:FrS f)(Pm:nB f.nodes.length l):
  eD PG N.sL #[.agg #[vn,vb,vs],vl] w (eG w fun v' w2=>(eW (cP f) (cW (eh f l) (-1)) f.cols=none∧v'= .tuple #[.slice none 0 0,.bool false])∨∃x vx,eW (cP f) (cW (eh f l) (-1)) f.cols=some x∧v'= .tuple #[vx,.bool true]∧cN w2 (Nf w w2) vx x):=by
 have hw:=bR w;obtain⟨an,cn,ab,cb,aq,cq,rfl,rfl,rfl,Qj,RJ,R6⟩:=hf.shape;obtain⟨al,cl,rfl,PQ,Qg⟩:=hl.shape;have SR:=Oe.HB;have R9:=Oe.H3;have SM:=ef f;have hlen:=e8 f;have hn4:=Oe.n4;have OM:=kA OS;have Ql:=fg f l;have Qw:f.cols=f.bars.length+f.cV.length:=rfl;have Pr:=kH Pm;have VI:=Gj Oe.n Pm;have Sj:(cW (eh f l) (-1)).length=(cP f).length:=by rw[cW,aJ,Ql,SM]
 refine wj (by simp) ?_;refine cK hτ da [.x 0,.x 3,.x 4,.x 1,.x 2,.x 5,.x 6,.x 7,.x 8,.x 9,.x 10,.x 11] (by kernel_rfl) (by kernel_rfl) ?_;refine cE hw (fun _ w' v w2=>ta w2 (Nf w' w2) v (iD f)∧GM (iD f) 2000000) (fun O w' r=>xI (oS hS r) (hf.cI (kS hw r hS)) OS) ?_;rintro O _ _ _ OP r he hw h_ ⟨hn,Sh⟩;have hZ:=ta.dB (S:=FF) hn r.cF (mN h_);obtain⟨az,cz,rfl,-,-⟩:=c9.shape hZ;refine cE hw (fun _ w' v w2=>cR w2 (Nf w' w2) v (cP f)) (fun O w' r=>JD (Rel.old r (cC w)) (ta.rel hZ r (cC w)) (by rw[<-aJ (f:=dM)];exact aY R9 (by decide)) (fun l hl=>by rw[j8 f _ l hl];omega) (fun l hl z hz=>by have:=Sh l hl z hz;omega)) ?_;rintro O _ _ _ ON r he hw h_ hn;have hM:=cR.dB (S:=FF) hn r.cF (mN h_);obtain⟨am,cm,rfl,-,-⟩:=c9.shape hM;refine cE hw (fun _ w' v w2=>cN w2 (Nf w' w2) v (eh f l)) (fun O w' r=>DR (oS hS r) (hf.cI (kS hw r hS)) (hl.cI (kS hw r hS)) Oe.n Pm) ?_;rintro O _ _ _ OU r he hw h_ hn;replace hM:=cR.cG hM r (cC w) he (mC h_);have hP:=cN.dB (S:=FF) hn r.cF (mN h_);obtain⟨ap,cp,rfl,-,-⟩:=dH.shape hP;have Td:=Eb Oe.n Pm
 (try rw[Ql])
 refine cE hw (fun _ w' v w2=>cN w2 (Nf w' w2) v (cW (eh f l) (-1))) (fun O w' r=>GY (Rel.old r (cC w)) (cN.l (by have:=cN.rel hP r (cC w);try rw[Ql]at this;exact this) fun q hq=>by have:=Td q hq;omega) (by omega) (fun q hq=>by have:=Td q hq;omega)) ?_;rintro O _ _ _ OW r he hw h_ hn;replace hM:=cR.cG hM r (cC w) he (mC h_);have hB:=cN.dB (S:=FF) hn r.cF (mN h_);obtain⟨ab2,cb2,rfl,-,-⟩:=dH.shape hB;refine cO (Φ:=fun _ w' v w2=>(eW (cP f) (cW (eh f l) (-1)) f.cols=none∧v= .tuple #[.slice none 0 0,.bool false])∨∃x vx,eW (cP f) (cW (eh f l) (-1)) f.cols=some x∧v= .tuple #[vx,.bool true]∧cN w2 (Nf w' w2) vx x) (fun O w' r=>DT (h0:=30) (Rel.old r (cC w)) (cR.rel hM r (cC w)) (cN.rel hB r (cC w)) hlen (by rw[SM];exact Oe.col) Sj (fun q hq=>by have:=VI q hq;omega) (fun r hr q hq=>by have:=MN Oe r hr q hq;omega) (by omega) (by omega) (fun c hc=>OC (gI hlen) (Oe.Dr Pr) lD (by have:=Oe.Ft (b:=cW (eh f l) (-1));omega) (by omega)) (by decide)) ?_;rintro O R1 v5 RR r he hb (⟨SB,rfl⟩|⟨x,vx,hx,rfl,hn⟩)
 ·replace hw:=hw.tr hb;exact rtn hw fun ρe we re=>.inl ⟨SB,rfl⟩
 replace hw:=hw.tr hb;have hX:=cN.dB (S:=FF) hn r.cF (iv:=(R1.heap.size,RR.heap.size)::OW) aG;generalize (R1.heap.size,RR.heap.size)::OW=ivx at*
 obtain⟨ax,cx,rfl,-,-⟩:=dH.shape hX;exact rtn hw fun ρe we re=>.inr ⟨x,_,hx,rfl,cN.out hX re (cC w)⟩
set_option maxRecDepth 8000 in
set_option maxHeartbeats 2000000 in
theorem DX(hS:Old S w)(hf:dT w S vn vb vs f)(hl:fu w S vl l)(OS:eJ f=0)(Of:nY f)(Pm:nB f.nodes.length l):
  eD PG N.uY #[.agg #[vn,vb,vs],vl] w (eG w fun v' w2=>(eW (cP f) (cW (eh f l) (-1)) f.cols=none∧v'= .tuple #[.slice none 0 0,.int .i64 17])∨∃x vx,jz (cP f) f.cols (fun t=>(cY f).getD t 0) (cW (eh f l) (-1)) x∧v'= .tuple #[vx,.int .i64 0]∧cN w2 (Nf w w2) vx x):=by
 have hw:=bR w;obtain⟨an,cn,ab,cb,aq,cq,rfl,rfl,rfl,Qj,RJ,R6⟩:=hf.shape;obtain⟨al,cl,rfl,PQ,Qg⟩:=hl.shape;have Oe:=Of.toFrS;have SR:=Oe.HB;have R9:=Oe.H3;have SM:=ef f;have hlen:=e8 f;have hn4:=Oe.n4;have OM:=kA OS;have Ql:=fg f l;have Qw:f.cols=f.bars.length+f.cV.length:=rfl;have Pr:=kH Pm;have VI:=Gj Oe.n Pm;have Sj:(cW (eh f l) (-1)).length=(cP f).length:=by rw[cW,aJ,Ql,SM]
 refine yX (by simp) ?_;refine cD (cO (Φ:=fun _ w' v w2=>(eW (cP f) (cW (eh f l) (-1)) f.cols=none∧v= .tuple #[.slice none 0 0,.bool false])∨∃x vx,eW (cP f) (cW (eh f l) (-1)) f.cols=some x∧v= .tuple #[vx,.bool true]∧cN w2 (Nf w' w2) vx x) (fun O w' r=>IB (oS hS r) (hf.cI (kS hw r hS)) (hl.cI (kS hw r hS)) OS Oe Pm) ?_);rintro O QA v1 Pg r he hb (⟨SB,rfl⟩|⟨x0,vx,SO,rfl,hn⟩)
 ·replace hw:=hw.tr hb;exact rtn hw fun ρe we re=>.inl ⟨SB,rfl⟩
 replace hw:=hw.tr hb;obtain⟨ax,cx,rfl,-,-⟩:=dH.shape hn;generalize (QA.heap.size,Pg.heap.size)::[]=OP at*
 obtain⟨c,hc,PQ,WR⟩:=Of.uT.force (fl:=cY f) SO;have Wx:=Of.uT.base Sj WR;have hK18:=Of.Ik;have hKl:=j7 (cP f) f.cols;refine cK hτ da [.x 0,.x 3,.x 4,.x 1,.x 2,.x 5,.x 6,.x 7,.x 8] (by kernel_rfl) (by kernel_rfl) ?_;refine cE hw (fun _ w' v w2=>ta w2 (Nf w' w2) v (iD f)∧GM (iD f) 2000000) (fun O w' r=>xI (oS hS r) (hf.cI (kS hw r hS)) OS) ?_;rintro O _ v2 _ ON r he hw h_ ⟨hn,Sh⟩;have hZ:=ta.dB (S:=FF) hn r.cF (mN h_);obtain⟨az,cz,rfl,-,-⟩:=c9.shape hZ;refine cE hw (fun _ w' v w2=>oK w2 w'.heap.size [(w'.heap.size,w2.heap.size)] v (cP f)) (fun O w' r=>GW (Rel.old r (cC w)) (ta.rel hZ r (cC w)) (by rw[<-aJ (f:=dM)];exact aY R9 (by decide)) (fun l hl=>by rw[j8 f _ l hl];omega) (fun l hl z hz=>by have:=Sh l hl z hz;omega)) ?_;rintro O _ _ _ OU r he hw h_ hn;have hM:=oK.dB hn r.cF (mN h_);obtain⟨am,cm,rfl,-,-⟩:=c9.shape hM.c;refine cE hw (fun _ w' v w2=>cN w2 (Nf w' w2) v (eh f l)) (fun O w' r=>DR (oS hS r) (hf.cI (kS hw r hS)) (hl.cI (kS hw r hS)) Oe.n Pm) ?_;rintro O _ _ _ OW r he hw h_ hn;replace hM:=hM.cG r (cC w) he (mC h_);have hP:=cN.dB (S:=FF) hn r.cF (mN h_);obtain⟨ap,cp,rfl,-,-⟩:=dH.shape hP;have Td:=Eb Oe.n Pm
 (try rw[Ql])
 refine cO (Φ:=fun _ w' v w2=>df w2 FF w'.heap.size [(w'.heap.size,w2.heap.size)] v (3*f.nodes.length) (cW (eh f l) (-1))) (fun O w' r=>(vT (Rel.old r (cC w)) (cN.l (by have:=cN.rel hP r (cC w);try rw[Ql]at this;exact this) fun q hq=>by have:=Td q hq;omega) (by omega) (fun q hq=>by have:=Td q hq;omega)).mono fun _ _ ⟨v2,e1,e2,e3⟩=>⟨v2,e1,e2,Ql▸e3⟩) ?_;rintro O SH v8 Ri r he hb hn;replace hw:=hw.tr hb;have WD:∀g,Cf w OW g->v8.ownBlock≠some g:=fun g hg e=>by
  have h1:=Rel.old r (cC w) g hg;rcases(hn.new g e).new with h|h
  ·exact h
  ·omega
 obtain⟨⟨rv,m1,m2,m3,m4⟩,m5⟩:=hM.rel r (cC w);have PA:∀p,p∈OW->p∈(SH.heap.size,Ri.heap.size)::OW:=fun p hp=>List.mem_cons_of_mem _ hp;have hMo:Ri.ownsRow 0 T.fc 1 (.slice am (cP f).length cm) (cP f).length rv:=ownsRow.cI m1 fun g hg=>he.block g (Rel.old r (cC w) g (m5 g hg));have WT:∀g,(Value.slice am (cP f).length cm).ownBlock=some g->Cf w ((SH.heap.size,Ri.heap.size)::OW) g∧v8.ownBlock≠some g:=fun g hg=>⟨(m5 g hg).mono PA,WD g (m5 g hg)⟩
 have hRr:dQ Ri (fun g=>Bs FF w.heap.size ((SH.heap.size,Ri.heap.size)::OW) (.slice am (cP f).length cm) g∧v8.ownBlock≠some g) rv (cP f):=
  ⟨m2,m3,fun i u x k1 k2=>cN.cJ (cN.cI (m4 i u x k1 k2) fun g hg=>he.block g (Rel.old r (cC w) g hg.1)) fun g hg=>⟨Bs.mono PA hg,WD g hg.1⟩⟩
 have hvo:∀g,(Value.slice am (cP f).length cm).ownBlock=some g->g<SH.heap.size:=fun g hg=>Rel.old r (cC w) g (m5 g hg);obtain⟨⟨css,b1,b2,b3⟩,b4⟩:=hn;have SS:∀g,v8.ownBlock=some g->Cf w ((SH.heap.size,Ri.heap.size)::OW) g:=fun g hg=>(b4 g hg).new.dB r.cF aG;have hGb:dU Ri (fun g=>Bs FF w.heap.size ((SH.heap.size,Ri.heap.size)::OW) (.slice am (cP f).length cm) g∧v8.ownBlock≠some g) css (cW (eh f l) (-1)):=
  ⟨b3.1,b3.xC,fun j cs q k1 k2=>(b3.2 j cs q k1 k2).cJ fun g hg=>⟨⟨hg.1.new.dB r.cF aG,fun e=>by
   have h1:=hvo g e;rcases hg.1.new with h|h
   ·exact h
   ·omega⟩,hg.2⟩⟩
 generalize (SH.heap.size,Ri.heap.size)::OW=RF at*
 obtain⟨a8,c8,rfl,hc8⟩:∃a c,v8= .slice a (3*f.nodes.length) c∧3*f.nodes.length<=c:=by
  rcases b1.2 with⟨e,h0⟩|⟨g,cap,cur,e,_,_,hn,_⟩
  ·exact⟨none,0,by rw[e,h0],by omega⟩
  ·exact⟨_,_,e,hn⟩
 refine cD (cO (Φ:=fun _ w' v w2=>cR w2 (Nf w' w2) v (cT (cP f) f.cols)) (fun O w' r=>Gb (oS hS r) (hf.cI (kS hw r hS)) OS Oe) ?_);rintro O Qm v9 Qf r he hb hn;replace hw:=hw.tr hb;have PA:∀p,p∈RF->p∈(Qm.heap.size,Qf.heap.size)::RF:=fun p hp=>List.mem_cons_of_mem _ hp;have Pn:∀g,Cf w RF g->Qf.heap[g]? =Ri.heap[g]? :=fun g hg=>(he.block g (Rel.old r (cC w) g hg)).trans (Rel.same r (cC w) hg);have Oc:∀g,Cf w RF g->g<Qm.heap.size:=fun g hg=>Rel.old r (cC w) g hg;replace hMo:=ownsRow.cI hMo fun g hg=>Pn g (WT g hg).1;replace b1:=ownsRow.cI b1 fun g hg=>Pn g (SS g hg);replace hRr:=dQ.cJ (S':=(fun g=>Bs FF w.heap.size ((Qm.heap.size,Qf.heap.size)::RF) (.slice am (cP f).length cm) g∧(Value.slice a8 (3*f.nodes.length) c8).ownBlock≠some g)) (dQ.cI hRr fun g hg=>Pn g hg.1.1) fun g hg=>⟨Bs.mono PA hg.1,hg.2⟩
 replace hGb:=dU.cJ (S':=(fun g=>Bs FF w.heap.size ((Qm.heap.size,Qf.heap.size)::RF) (.slice am (cP f).length cm) g∧(Value.slice a8 (3*f.nodes.length) c8).ownBlock≠some g)) (dU.cI hGb fun g hg=>Pn g hg.1.1) fun g hg=>⟨Bs.mono PA hg.1,hg.2⟩
 have hK:cR Qf (fun g=>Bs FF w.heap.size ((Qm.heap.size,Qf.heap.size)::RF) (.slice am (cP f).length cm) g∧(Value.slice a8 (3*f.nodes.length) c8).ownBlock≠some g) v9 (cT (cP f) f.cols):=cR.cJ hn fun g hg=>⟨Bs.fresh r (fun g e=>Oc g (WT g e).1) hg,fun e=>by
  have h1:=Oc g (SS g e);rcases hg with h|h
  ·exact h
  ·omega⟩
 replace WT:∀g,(Value.slice am (cP f).length cm).ownBlock=some g->Cf w ((Qm.heap.size,Qf.heap.size)::RF) g∧(Value.slice a8 (3*f.nodes.length) c8).ownBlock≠some g:=fun g hg=>⟨(WT g hg).1.mono PA,(WT g hg).2⟩
 replace SS:∀g,(Value.slice a8 (3*f.nodes.length) c8).ownBlock=some g->Cf w ((Qm.heap.size,Qf.heap.size)::RF) g:=fun g hg=>(SS g hg).mono PA;generalize (Qm.heap.size,Qf.heap.size)::RF=Rg at*
 obtain⟨ak,ck,rfl,-,-⟩:=c9.shape hK
 refine⟨Nat×List Value×List (List Value)×World×Iv,fun z=>⟨[(2,pP 0 0),(8,.o (.w 1 z.2.1.length)),(9,.o (.w 2 z.2.2.1.length)),(10,.o (.v (.slice ak (cT (cP f) f.cols).length ck))),(11,iN z.1)],[(1,.vec T.fc 1 z.2.1),(2,.vec T.Rat 4 z.2.2.1.flatten),(0,.box T.Frame [.v (.slice an f.nodes.length cn),.v (.slice ab f.bars.length cb),.v (.slice aq f.cV.length cq)])],3,z.2.2.2.2,z.2.2.2.1⟩,fun z=>(cT (cP f) f.cols).length-z.1,
  fun z=>z.1<=(cT (cP f) f.cols).length∧dm w.heap.size w z.2.2.2.1∧dQ z.2.2.2.1 (Cf w z.2.2.2.2) z.2.1 (cP f++((cT (cP f) f.cols).take z.1).map (ph f))∧dU z.2.2.2.1 (Cf w z.2.2.2.2) z.2.2.1 (cW (eh f l) (-1)++iM z.1)∧cR z.2.2.2.1 (Cf w z.2.2.2.2) (.slice ak (cT (cP f) f.cols).length ck) (cT (cP f) f.cols),?_,?_⟩
 ·intro O w' r3;have VK:∀g,((fun g=>Bs FF w.heap.size Rg (.slice am (cP f).length cm) g∧(Value.slice a8 (3*f.nodes.length) c8).ownBlock≠some g)) g->Cf w (xL (.slice a8 (3*f.nodes.length) c8) (xL (.slice am (cP f).length cm) Rg)) g:=fun g hg=>(hg.1.1.cut hg.1.2).cut hg.2;have RH:∀g,((fun g=>Bs FF w.heap.size Rg (.slice am (cP f).length cm) g∧(Value.slice a8 (3*f.nodes.length) c8).ownBlock≠some g)) g->w'.heap[g]? =Qf.heap[g]? :=fun g hg=>Rel.same r3 (cC w) hg.1.1;refine⟨(0,rv,css,w',xL (.slice a8 (3*f.nodes.length) c8) (xL (.slice am (cP f).length cm) Rg)),⟨aO _,hw.tr r3.cQ,by dsimp only;rw[List.take_zero,List.map_nil,List.append_nil];exact dQ.cJ (dQ.cI hRr RH) VK,by dsimp only;rw[show cW (eh f l) (-1)++iM 0=cW (eh f l) (-1)from List.append_nil _];exact dU.cJ (dU.cI hGb RH) VK,cR.cJ (cR.cI hK RH) VK⟩,?_⟩;refine Sub.CU 8 (cP f).length rfl (by simp[jQ,SV.sc,At.sc,fP]) r3 (ownsRow.cI hMo fun g hg=>Rel.same r3 (cC w) (WT g hg).1) (fun g hg=>(WT g hg).1.elim (fun h=>h.elim) fun h=>h.1) (fun g hg=>Rel.not r3 (cC w) (WT g hg).1) fun ρ1 r1=>?_;refine Sub.CU 9 (3*f.nodes.length) rfl (by simp[jQ,SV.sc,At.sc,fP]) r1 (ownsRow.cI b1 fun g hg=>Rel.same r3 (cC w) (SS g hg)) (fun g hg=>(SS g hg).elim (fun h=>h.elim) fun h=>h.1) (fun g hg=>Rel.not r1 (cC w) ((SS g hg).cut fun e=>(WT g e).2 hg)) fun ρ2 r2=>?_;exact Sub.gn [] r2 (hE:=⟨rfl,by dsimp only;rw[hRr.1];rfl,by dsimp only;rw[b2];rfl,rfl,rfl,trivial⟩)
 rintro⟨i,rv,rc,w10,iv⟩ ⟨hi,hw,hR,hG,hK⟩;dsimp only at hi hw hR hG hK ⊢;have Ou:rv.length=(cP f).length+i:=by rw[hR.1,List.length_append,aJ,aW];omega
 have hgl:rc.length=(cP f).length+i:=by rw[hG.len,List.length_append,iM,bE,Sj]
 have hgf:=eK hG.four;refine dI.mk ?_ ?_<;>intro OI
 ·have OI:i<(cT (cP f) f.cols).length:=by have:=aI OI;omega
  obtain⟨s,hs⟩:∃s,(cT (cP f) f.cols)[i]? =some s:=⟨_,aB OI⟩
  have Ro:s.length=f.cols:=hKl s (aC hs);have Wj:=Of.OB s (aC hs);obtain⟨adm,um,QE,Oj,km,kn⟩:=c9.load hK hs;obtain⟨as1,cs1,rfl,-,-⟩:=dH.shape Oj;refine cK hτ da [.x 0,.x 1,.x 2,.x 3,.x 4,.x 5,.x 9,.x 6,.x 7,.x 8,.x 10,.x 11,.x 12,.x 13,.x 14] (by kernel_rfl) (by kernel_rfl) ?_;refine⟨adm,QE,by omega,.slice as1 s.length cs1,fun O w' r=>?_,?_⟩
  ·rw[aE,cH (w:=w10) (w2:=w') (by rw[dD];exact Rel.same r (cC w) km)];exact kn
  refine cE hw (fun _ w' v w2=>cN w2 (Nf w' w2) v (ph f s)) (fun O w' r=>Gi (S:=fun g=>S g∨Cf w iv g) (fun g hg=>hg.elim (oS hS r g) (Rel.old r (cC w) g)) (dT.cJ (hf.cI (kS hw r hS)) fun g hg=>.inl hg) ⟨Oe.b,Oe.s⟩ (cX.cJ (cN.l (cN.rel Oj r (cC w)) fun q hq=>by have:=Wj q hq;omega) fun g hg=>.inr hg) (by omega)) ?_;rintro O _ _ _ Og r he hw h_ hn;replace hR:=dQ.cG hR r (cC w) he (mC h_);replace hG:=dU.cG hG r (cC w) he (mC h_);replace hK:=cR.cG hK r (cC w) he (mC h_);have hW:=cN.dB (S:=FF) hn r.cF (mN h_);obtain⟨aw,cw,rfl,-,-⟩:=dH.shape hW;refine .inl ?_;refine⟨by simp,by omega,by unfold maxLen;omega,?_⟩;refine cE hw (fun _ w' v w2=>cS w2 (Nf w' w2) v (((0:Int)):Rat)) (fun O w' r=>kF 0 w' (by decide)) ?_;rintro O _ _ _ RT r he hw h_ hn;replace hR:=dQ.cG hR r (cC w) he (mC h_);replace hG:=dU.cG hG r (cC w) he (mC h_);replace hK:=cR.cG hK r (cC w) he (mC h_);replace hW:=cN.cG hW r (cC w) he (mC h_);have hd:=hn.dB (S:=FF) r.cF (mN h_);obtain⟨A0,A1,A2,A3,A4,A5,A6,A7,rfl⟩:=hd.shape;have RZ:=hG.push (cs:=[.bool A0,.slice A1 A2 A3,.bool A4,.slice A5 A6 A7]) (q:=((0:Int):Rat)) ⟨_,_,_,_,_,_,_,_,rfl,hd⟩ rfl;rw[show (cW (eh f l) (-1)++iM i)++[((0:Int):Rat)]=cW (eh f l) (-1)++iM (i+1) by rw[iM,iM,List.replicate_succ',bU];rfl]at RZ;have Po:rc.flatten++([.bool A0,.slice A1 A2 A3,.bool A4,.slice A5 A6 A7]:List Value)=(rc++([[.bool A0,.slice A1 A2 A3,.bool A4,.slice A5 A6 A7]]:List (List Value))).flatten:=by simp
  have Qc:=hR.push (u:=.slice aw (ph f s).length cw) (x:=ph f s) rfl hW;rw[bU,show((cT (cP f) f.cols).take i).map (ph f)++[ph f s]=((cT (cP f) f.cols).take (i+1)).map (ph f) by rw[List.take_add_one,hs];simp]at Qc;refine .inl ?_;refine⟨by omega,by omega,by unfold maxLen;omega,((i+1:Nat):Int),wo,?_⟩;intro ρ3 w6 r3;exact⟨(i+1,rv++[.slice aw (ph f s).length cw],rc++[[.bool A0,.slice A1 A2 A3,.bool A4,.slice A5 A6 A7]],w6,_),⟨OI,hw.tr r3.cQ,Qc.rel r3 (cC w),RZ.rel r3 (cC w),cR.rel hK r3 (cC w)⟩,Sub.gn [(1,4),(2,6)] r3 ⟨rfl,by dsimp only;rw[<-Po];rfl,rfl,trivial⟩ ⟨rfl,by dsimp only;rw[List.length_append,List.length_singleton];rfl,by dsimp only;rw[List.length_append,List.length_singleton];rfl,rfl,rfl,trivial⟩,by dsimp only;omega⟩
 have OI:i=(cT (cP f) f.cols).length:=by have:=aH OI;omega
 rw[OI,bG,<-Gk]at hR;rw[OI]at hG;have hfl3:(jy (cP f) f.cols fun t=>(cY f).getD t 0).length=(cP f).length+(cT (cP f) f.cols).length:=jI;have hwF:=Of.NJ Pr Sj;have hzF:=Of.Lc (b:=cW (eh f l) (-1)++iM (cT (cP f) f.cols).length)
 refine cD (cE hw (fun _ w' v w2=>∃vx,v= .tuple #[vx,.bool true]∧cN w2 (Nf w' w2) vx (jx (cT (cP f) f.cols) c x0 (cT (cP f) f.cols).length)) (fun O w' r=>(DT (S:=(fun g=>g<w'.heap.size)) (M:=jy (cP f) f.cols fun t=>(cY f).getD t 0) (b:=cW (eh f l) (-1)++iM (cT (cP f) f.cols).length) (n:=f.cols) (h0:=2080) (fun g hg=>hg) ⟨rv,by rw[<-hR.1];exact r.nH (T:=(fun g=>g<w'.heap.size)) (id:=1) (sz:=1) (m:=rv.length) rfl (by simp) (by unfold maxLen;omega) (by decide) hR.2.1 fun hn=>(r.low 1 _ rfl hn).2,hR.1,fun a u x h1 h2=>cN.cJ (cN.rel (hR.2.2 a u x h1 h2) r (cC w)) fun g hg=>Rel.old r (cC w) g hg⟩ (dU.list ((hG.rel r (cC w)).cJ fun g hg=>Rel.old r (cC w) g hg) (r.nH (T:=(fun g=>g<w'.heap.size)) (id:=2) (sz:=4) (m:=rc.length) rfl hgf (by unfold maxLen;omega) (by decide) hG.one fun hn=>(r.low 2 _ rfl hn).2)) (rO hlen) (Oe.col.imp (fun h=>by rw[hfl3,SM];omega) id) (by rw[hfl3,List.length_append,Sj,iM,bE]) (fun q hq=>by
  rcases bK.1 hq with h|h
  ·have:=VI q h;omega
  ·rw[bH h];decide) (fun r hr q hq=>by have:=Of.aAd r hr q hq;omega) (by omega) (by omega) (fun c hc=>OC (gI (rO hlen)) hwF lD (by omega) (by omega)) (by decide)).mono fun _ _ ⟨v2,e1,e2,e3⟩=>⟨v2,e1,e2,by
  rcases e3 with⟨h1,_⟩|⟨x2,vx,h1,h2,h3⟩
  ·rw[Wx]at h1;cases h1
  ·rw[Wx]at h1;injection h1 with h1;subst h1;exact⟨vx,h2,h3⟩⟩) ?_)
 rintro O _ _ _ iv14 r he hw h_ ⟨vx2,rfl,hn⟩;have hX:=cN.dB (S:=FF) hn r.cF (mN h_);obtain⟨ax2,cx2,rfl,-,-⟩:=dH.shape hX;exact rtn hw fun ρe we re=>.inr ⟨_,_,WR,rfl,cN.out hX re (cC w)⟩
abbrev IC(f:ew):Nat->Rat:=fun t=>(cY f).getD t 0
set_option maxRecDepth 8000 in
theorem ID(hS:Old S w)(hf:dT w S vn vb vs f)(hl:fu w S vl l)(RS:eJ f=0->nY f):
  eD PG N.qM #[.agg #[vn,vb,vs],vl] w (eG w fun v' w2=>(lM f l≠0∧v'= .tuple #[.slice none 0 0,.int .i64 (lM f l)])∨(lM f l=0∧((eW (cP f) (cW (eh f l) (-1)) f.cols=none∧v'= .tuple #[.slice none 0 0,.int .i64 17])∨∃x vx,jz (cP f) f.cols (IC f) (cW (eh f l) (-1)) x∧v'= .tuple #[vx,.int .i64 0]∧cN w2 (Nf w w2) vx x))):=by
 have hw:=bR w;obtain⟨an,cn,ab,cb,aq,cq,rfl,rfl,rfl,Qj,RJ,R6⟩:=hf.shape;obtain⟨al,cl,rfl,PQ,Qg⟩:=hl.shape;obtain⟨e0,EE⟩:∃e,lM f l=e:=⟨_,rfl⟩
 refine uq (by simp) ?_;refine cD (cE hw (fun _ w' v w2=>v= .int .i64 e0) (fun O w' r=>(qo (oS hS r) (hf.cI (kS hw r hS)) (hl.cI (kS hw r hS))).mono fun _ _ ⟨v2,e1,e2,e3⟩=>⟨v2,e1,e2,by rw[e3,EE]⟩) ?_);rintro O _ _ _ OP r he hw h_ rfl;refine dI.mk ?_ ?_<;>intro he
 ·have he:e0≠0:=by simpa using he
  exact rtn hw fun ρe we re=>.inl ⟨by rw[EE];exact he,by rw[EE];rfl⟩
 have he:e0=0:=by simpa using he
 have Rh:lM f l=0:=by rw[EE,he]
 obtain⟨OS,Pm⟩:=pF Rh;have Of:=RS OS;have Oe:=Of.toFrS;have Pm:=zL Pm;have SR:=Oe.HB;have R9:=Oe.H3;have SM:=ef f;have hlen:=e8 f;have hn4:=Oe.n4;have OM:=kA OS;have Ql:=fg f l;have Qw:f.cols=f.bars.length+f.cV.length:=rfl;refine cK hτ da [.x 0,.x 1,.x 2,.x 3,.x 4,.x 5,.x 6,.x 7,.x 8,.x 9] (by kernel_rfl) (by kernel_rfl) ?_;refine cE hw (fun _ w' v w2=>cN w2 (Nf w' w2) v (eh f l)∧∀q∈eh f l,rl q<=1) (fun O w' r=>(rU (oS hS r) (hl.cI (kS hw r hS)) Oe.n Pm rfl rfl).mono fun _ _ ⟨v2,e1,e2,e3,e4⟩=>⟨v2,e1,e2,cN.cJ e3.c fun g hg=>hg.new,e4⟩) ?_;rintro O _ _ _ ON r he hw h_ ⟨hn,Td⟩;have hP:=cN.dB (S:=FF) hn r.cF (mN h_);obtain⟨ap,cp,rfl,-,-⟩:=dH.shape hP;rw[Ql];refine cO (Φ:=fun _ w' v w2=>(eW (cP f) (cW (eh f l) (-1)) f.cols=none∧v= .tuple #[.slice none 0 0,.bool false])∨∃x vx,jz (cP f) f.cols (IC f) (cW (eh f l) (-1)) x∧v= .tuple #[vx,.bool true]∧cN w2 (Nf w' w2) vx x) (fun O w' r=>lj (S:=fun g=>S g∨Cf w ON g) (fun g hg=>hg.elim (oS hS r g) (Rel.old r (cC w) g)) (dT.cJ (hf.cI (kS hw r hS)) fun g hg=>.inl hg) OS Of (cN.cJ (by have:=cN.rel hP r (cC w);rw[Ql]at this;exact this) fun g hg=>.inr hg) Ql (fun q hq=>by have:=Td q hq;omega) (kH Pm)) ?_;rintro O PX v3 PT r he hb (⟨SB,rfl⟩|⟨x,vx,hx,rfl,hn⟩)
 ·replace hw:=hw.tr hb;exact rtn hw fun ρe we re=>.inr ⟨Rh,.inl ⟨SB,rfl⟩⟩
 replace hw:=hw.tr hb;have hX:=cN.dB (S:=FF) hn r.cF (iv:=(PX.heap.size,PT.heap.size)::ON) aG;generalize (PX.heap.size,PT.heap.size)::ON=ivx at*
 obtain⟨ax,cx,rfl,-,-⟩:=dH.shape hX;exact rtn hw fun ρe we re=>.inr ⟨Rh,.inr ⟨x,_,hx,rfl,cN.out hX re (cC w)⟩⟩
theorem MP(h:eJ f≠0∨f.nodes.length<=4∧f.bars.length<=6)(hb:∀b∈f.bars,rl b.2.2<=3)(hs:∀b∈f.cV,rl b.2.2<=3)(h0:eJ f=0):nY f:=
 ⟨aAb h h0,fun q hq=>by
  rcases bK.1 hq with h|h
  ·obtain⟨b,QY,rfl⟩:=aT.1 h;exact hb b QY
  ·obtain⟨b,QY,rfl⟩:=aT.1 h;exact hs b QY⟩
end Go.Ex
namespace Go.Ex
section
variable{f:ew}{b y s z:List Rat}{c:Rat}
end
end Go.Ex
namespace Go.Ex
open Go Go.Sx Go.Proofs
variable{X:List (List Rat)}{css:List (List Value)}{l:List Ld}{qs x:List Rat}{cs nv xs:List Value}{a g j k o off:Nat}{S S':Nat->Prop}{O:Nat->Sx.di}{q:Rat×Rat}{v v' vb vn vs:Value}{w w2:World}{f:ew}
theorem MQ(h:nY f){h0:Nat}(hx:x.length<=f.cols)(hq:∀q∈x,rl q<=h0):∀q∈fR x (cY f),rl q<=h0+3:=fun q QO=>by
 obtain⟨t,ht⟩:=aR QO;have UH:t<x.length:=by have:=(aD.1 ht).1;rw[kE]at this;exact this
 have h1:=nm (a:=x) (b:=cY f) UH;rw[getD_some ht]at h1;have h2:=j9 (x.getD t 0) ((cY f).getD t 0);have h3:=hq (x.getD t 0) (by rw[getD_some (aB UH)];exact aX _);have h4:=h.fxD (t:=t) (by omega);rw[h1];omega
set_option maxRecDepth 8000 in
set_option maxHeartbeats 1000000 in
theorem Gl{vl:Value}(hS:Old S w)(hf:dT w S vn vb vs f)(hl:fu w S vl l)(RS:eJ f=0->nY f):
  eD PG N.nt #[.agg #[vn,vb,vs],vl] w (eG w fun v' w2=>(lM f l≠0∧v'= .tuple #[.slice none 0 0,.slice none 0 0,.int .i64 (lM f l)])∨(lM f l=0∧((oQ (cP f) f.cols<(cP f).length∧v'= .tuple #[.slice none 0 0,.slice none 0 0,.int .i64 17])∨
   (oQ (cP f) f.cols=(cP f).length∧∃x u vx vu,jz (cP f) f.cols (IC f) (cW (eh f l) (-1)) x∧eW (ee (cP f) f.cols) (cW (fR x (cY f)) (-1)) (cP f).length=some u∧v'= .tuple #[vu,vx,.int .i64 0]∧cN w2 (Nf w w2) vu u∧cN w2 (Nf w w2) vx x)))):=by
 have hw:=bR w;obtain⟨an,cn,ab,cb,aq,cq,rfl,rfl,rfl,Qj,RJ,R6⟩:=hf.shape;obtain⟨al,cl,rfl,PQ,Qg⟩:=hl.shape;obtain⟨e0,EE⟩:∃e,lM f l=e:=⟨_,rfl⟩
 refine rh (by simp) ?_;conv=>whnf
 refine cD (cE hw (fun _ w' v w2=>v= .int .i64 e0) (fun O w' r=>(qo (oS hS r) (hf.cI (kS hw r hS)) (hl.cI (kS hw r hS))).mono fun _ _ ⟨v2,e1,e2,e3⟩=>⟨v2,e1,e2,by rw[e3,EE]⟩) ?_);rintro O _ _ _ OP r he hw h_ rfl;clear r;conv=>whnf
 refine dI.mk ?_ ?_<;>intro he
 ·have he:e0≠0:=by simpa using he
  conv=>whnf
  exact rtn hw fun ρe we re=>.inl ⟨by rw[EE];exact he,by rw[EE];rfl⟩
 have he:e0=0:=by simpa using he
 have Rh:lM f l=0:=by rw[EE,he]
 obtain⟨OS,Pm⟩:=pF Rh;have Of:=RS OS;have Oe:=Of.toFrS;have Pm:=zL Pm;clear EE he;have SR:=Oe.HB;have R9:=Oe.H3;have SM:=ef f;have hlen:=e8 f;have hn4:=Oe.n4;have OM:=kA OS;have Ql:=fg f l;have Qw:f.cols=f.bars.length+f.cV.length:=rfl;conv=>whnf
 refine cD (cE hw (fun _ w' v w2=>∃vr,v= .agg #[vr,.int .i64 f.cols]∧cR w2 (Nf w' w2) vr (cP f)) (fun O w' r=>(tc (S:=S) (oS hS r) (hf.cI (kS hw r hS)) OM).mono fun _ _ ⟨v2,e1,e2,e3,_⟩=>⟨v2,e1,e2,e3⟩) ?_);rintro O _ v2 _ ON r he hw h_ ⟨vr,rfl,hn⟩;have hM:=cR.dB (S:=FF) hn r.cF (mN h_);clear r he;clear hn;obtain⟨am,cm,rfl,-,-⟩:=c9.shape hM;conv=>whnf
 refine cK hτ da [.x 0,.x 1,.x 2,.x 7,.x 8,.x 9,.x 3,.x 4,.x 5,.x 6,.x 10] (by kernel_rfl) (by kernel_rfl) ?_;conv=>whnf
 refine cE hw (fun _ w' v w2=>∃vr vp vf,v= .agg #[vr,.int .i64 f.cols,vp,vf]∧cR w2 (Nw (Cf w ON) w' w2) vr (dS (cP f) f.cols).1) (fun O w' r=>(BX (C:=Cf w ON) (S:=Cf w ON) (h:=20) (Rel.old r (cC w)) (Rel.old r (cC w)) (cR.rel hM r (cC w)) hlen (by omega) (by omega) (oL hlen Oe.lS (by decide) (by have:=Oe.size;omega)) (by decide)).mono fun _ _ ⟨v2,e1,e2,vr,vp,vf,k1,k2,_,_⟩=>⟨v2,e1,e2,vr,vp,vf,k1,k2⟩) ?_;rintro O _ _ _ OU r he hw h_ ⟨vr2,vp2,vf2,rfl,hn⟩;replace hM:=cR.cG hM r (cC w) he (mC h_);clear r he;obtain⟨ar,cr,rfl,-,-⟩:=c9.shape hn;have hrk:(dS (cP f) f.cols).1.length=oQ (cP f) f.cols:=by
  rw[(mG hlen Oe.lS).2,aW,Nat.min_eq_left (nF _ _ hlen).1]
 rw[hrk];obtain⟨nr,hnr⟩:∃nr,oQ (cP f) f.cols=nr:=⟨_,rfl⟩
 rw[hnr];clear hn hrk;conv=>whnf
 refine dI.mk ?_ ?_<;>intro Oc
 ·have Oc:nr<(cP f).length:=by have:=aI Oc;omega
  conv=>whnf
  exact rtn hw fun ρe we re=>.inr ⟨Rh,.inl ⟨Oc,rfl⟩⟩
 have Oc:(cP f).length<=nr:=by have:=aH Oc;omega
 have Wy:oQ (cP f) f.cols=(cP f).length:=by
  have h1:=H0 hlen;have h2:=(nF (ee (cP f) f.cols) (cP f).length (jJ _ _)).2;rw[hnr]at h1 ⊢;have h1:(cM (ee (cP f) f.cols) (cP f).length).2.length=nr:=h1;omega
 have Pr:=kH Pm;have Sj:(cW (eh f l) (-1)).length=(cP f).length:=by rw[cW,aJ,Ql,SM]
 conv=>whnf
 refine cK hτ da [.x 0,.x 1,.x 2,.x 3,.x 4,.x 5,.x 6,.x 7,.x 8,.x 9] (by kernel_rfl) (by kernel_rfl) ?_;conv=>whnf
 refine cE hw (fun _ w' v w2=>cN w2 (Nf w' w2) v (eh f l)∧∀q∈eh f l,rl q<=1) (fun O w' r=>(rU (oS hS r) (hl.cI (kS hw r hS)) Oe.n Pm rfl rfl).mono fun _ _ ⟨v2,e1,e2,e3,e4⟩=>⟨v2,e1,e2,cN.cJ e3.c fun g hg=>hg.new,e4⟩) ?_;rintro O _ _ _ OW r he hw h_ ⟨hn,Td⟩;replace hM:=cR.cG hM r (cC w) he (mC h_);have hP:=cN.dB (S:=FF) hn r.cF (mN h_);clear r he;clear hn;obtain⟨ap,cp,rfl,-,-⟩:=dH.shape hP;rw[Ql];conv=>whnf
 refine cO (Φ:=fun _ w' v w2=>(eW (cP f) (cW (eh f l) (-1)) f.cols=none∧v= .tuple #[.slice none 0 0,.bool false])∨∃x vx,jz (cP f) f.cols (IC f) (cW (eh f l) (-1)) x∧v= .tuple #[vx,.bool true]∧cN w2 (Nf w' w2) vx x) (fun O w' r=>lj (S:=fun g=>S g∨Cf w OW g) (fun g hg=>hg.elim (oS hS r g) (Rel.old r (cC w) g)) (dT.cJ (hf.cI (kS hw r hS)) fun g hg=>.inl hg) OS Of (cN.cJ (by have:=cN.rel hP r (cC w);rw[Ql]at this;exact this) fun g hg=>.inr hg) Ql (fun q hq=>by have:=Td q hq;omega) (kH Pm)) ?_;rintro O R1 v5 RR r he hb (⟨SB,rfl⟩|⟨x,vx,hx,rfl,hn⟩)
 ·obtain⟨x,hx⟩:=Jq (b:=cW (eh f l) (-1)) hlen Wy;rw[SB]at hx
  cases hx
 replace hw:=hw.tr hb;replace hM:=cR.cG (iv':=(R1.heap.size,RR.heap.size)::OW) hM r (cC w) he fun x hx=>List.mem_cons_of_mem _ hx;have hX:=cN.dB (S:=FF) hn r.cF (iv:=(R1.heap.size,RR.heap.size)::OW) aG;clear r he hb hn;generalize (R1.heap.size,RR.heap.size)::OW=ivx at*
 obtain⟨ax,cx,rfl,-,-⟩:=dH.shape hX;have Pk:=hx.len;have TS:=Of.Cw Pr Sj hx;obtain⟨u,hu⟩:=hx.aAr hlen;have hwT:=Of.Jr Pk (Of.Lf Pr Sj hx);have hzT:ln (fB (wt 156) (kP (ee (cP f) f.cols) (cW (fR x (cY f)) (-1))).length)<=2827:=Of.H4;have Qx:=wG (M:=ee (cP f) f.cols) (b:=cW (fR x (cY f)) (-1)) (jJ _ _) hwT;rw[hu]at Qx;have VI:=MQ Of (Nat.le_of_eq Pk) TS;conv=>whnf
 refine cK hτ da [.x 0,.x 2,.x 3,.x 1,.x 4,.x 5,.x 6,.x 7,.x 8,.x 9,.x 10,.x 11,.x 12,.x 13] (by kernel_rfl) (by kernel_rfl) ?_;conv=>whnf
 refine cO (Φ:=fun _ w' v w2=>∃vr,v= .agg #[vr,.int .i64 (cP f).length]∧cR w2 (Nw (Cf w ivx) w' w2) vr (ee (cP f) f.cols)) (fun O w' r=>CG (C:=Cf w ivx) (S:=Cf w ivx) (Rel.old r (cC w)) (Rel.old r (cC w)) (cR.rel hM r (cC w)) hlen (by omega) (by omega)) ?_;rintro O Rx v6 SG r he hb ⟨vt,rfl,hn⟩;replace hw:=hw.tr hb;clear hM;replace hX:=cN.cG (iv':=(Rx.heap.size,SG.heap.size)::ivx) hX r (cC w) he fun x hx=>List.mem_cons_of_mem _ hx;have hT:=cR.old hn r.cF;clear r he hb;generalize (Rx.heap.size,SG.heap.size)::ivx=Qk at*
 clear hn;obtain⟨at_,ct,rfl,-,-⟩:=c9.shape hT;conv=>whnf
 refine cO (Φ:=fun _ w' v w2=>cX w2 (Nw S w' w2) v (cY f)) (fun O w' r=>DL (S:=S) (oS hS r) (hf.cI (kS hw r hS)) OM) ?_;rintro O UL v7 UM r he hb hn;replace hw:=hw.tr hb;replace hX:=cN.cG (iv':=(UL.heap.size,UM.heap.size)::Qk) hX r (cC w) he fun x hx=>List.mem_cons_of_mem _ hx;replace hT:=cR.cG (iv':=(UL.heap.size,UM.heap.size)::Qk) hT r (cC w) he fun x hx=>List.mem_cons_of_mem _ hx;have hL:=cX.cJ (S':=Cv S w.heap.size ((UL.heap.size,UM.heap.size)::Qk)) hn fun g hg=>hg.elim .inl fun h=>.inr ⟨by have:=r.cF;omega,_,_,aG,h.1,h.2⟩;clear r he hb;generalize (UL.heap.size,UM.heap.size)::Qk=TA at*
 clear hn;obtain⟨afl,cfl,rfl,-,-⟩:=dH.shape hL;conv=>whnf
 refine cE hw (fun _ w' v w2=>cN w2 (Nf w' w2) v (fR x (cY f))) (fun O w' r=>(Ix (S:=Cv S w.heap.size TA) (Rel.old r hS) (cX.cJ (cN.l (cN.rel hX r (cC w)) fun q hq=>by have:=TS q hq;omega) fun g hg=>yE hg) (cX.rel hL r hS) (by rw[Pk,pE];exact aF _) (by omega)).mono fun _ _ ⟨v2,e1,e2,e3⟩=>⟨v2,e1,e2,cN.cJ e3.c fun g hg=>hg.new⟩) ?_;rintro O _ _ _ RF r he hw h_ hn;replace hX:=cN.cG hX r (cC w) he (mC h_);replace hT:=cR.cG hT r (cC w) he (mC h_);clear hL;have hE:=cN.dB (S:=FF) hn r.cF (mN h_);clear r he;clear hn;obtain⟨ae,ce,rfl,-,-⟩:=dH.shape hE;conv=>whnf
 refine cE hw (fun _ w' v w2=>cS w2 (Nf w' w2) v ((-1:Int):Rat)) (fun O w' r=>kC (-1) w' (by decide) (by decide)) ?_;rintro O _ _ _ Rg r he hw h_ hn;replace hX:=cN.cG hX r (cC w) he (mC h_);replace hT:=cR.cG hT r (cC w) he (mC h_);replace hE:=cN.cG hE r (cC w) he (mC h_);have hd:=hn.dB (S:=FF) r.cF (mN h_);clear r he hn;obtain⟨A0,A1,A2,A3,A4,A5,A6,A7,rfl⟩:=hd.shape;conv=>whnf
 refine cE hw (fun _ w' v w2=>cN w2 (Nf w' w2) v (cW (fR x (cY f)) (-1))) (fun O w' r=>(DH (S:=Cf w Rg) (Rel.old r (cC w)) (cN.l (cN.rel hE r (cC w)) fun q hq=>by have:=VI q hq;omega) ((hd.rel r (cC w)).l (by decide)) (by rw[kE];omega)).mono fun _ _ ⟨v2,e1,e2,e3⟩=>⟨v2,e1,e2,cN.cJ e3.c fun g hg=>hg.new⟩) ?_;rintro O _ _ _ Qz r he hw h_ hn;replace hX:=cN.cG hX r (cC w) he (mC h_);replace hT:=cR.cG hT r (cC w) he (mC h_);clear hE;clear hd;have hG:=cN.dB (S:=FF) hn r.cF (mN h_);clear r he;clear hn;obtain⟨ag,cg,rfl,-,-⟩:=dH.shape hG;conv=>whnf
 refine cO (Φ:=fun _ w' v w2=>∃vu,v= .tuple #[vu,.bool true]∧df w2 (Cf w Qz) w'.heap.size [(w'.heap.size,w2.heap.size)] vu (cP f).length u) (fun O w' r=>(GK (C:=Cf w Qz) (S:=Cf w Qz) (h:=2830) (Rel.old r (cC w)) (Rel.old r (cC w)) (cR.rel hT r (cC w)) (cN.rel hG r (cC w)) (by rw[cW,aJ,kE,e9];exact Pk) (jJ _ _) (by omega) (by rw[e9];omega) (oL (gI (jJ _ _)) hwT lD (by omega)) (by decide)).mono fun _ _ ⟨v2,e1,e2,e3⟩=>⟨v2,e1,e2,by
  rcases e3 with⟨k1,_⟩|⟨x2,vx,k1,k2,k3⟩
  ·rw[Qx]at k1;cases k1
  ·rw[Qx]at k1;injection k1 with k1;subst k1;exact⟨vx,k2,k3⟩⟩) ?_
 rintro O Qn v11 Qy r he hb ⟨vu,rfl,hn⟩;replace hw:=hw.tr hb;replace hX:=cN.cG (iv':=(Qn.heap.size,Qy.heap.size)::Qz) hX r (cC w) he fun x hx=>List.mem_cons_of_mem _ hx;clear hT;clear hG;have hU:=hn.aBA r.cF;clear r he hb;generalize (Qn.heap.size,Qy.heap.size)::Qz=Og at*
 clear hn;obtain⟨au,cu,rfl,hcu⟩:=hU.row.form;conv=>whnf
 exact rtn hw fun ρe we re=>.inr ⟨Rh,.inr ⟨hnr.symm.trans Wy,x,u,_,_,hx,hu,rfl,cN.out hU.c re (cC w),cN.out hX re (cC w)⟩⟩
theorem pick{α β γ:Type}{P:β->γ->Prop}(f:γ->α):∀(cs:List β) (xs:List α),cs.length=xs.length->(∀(j:Nat) c x,cs[j]? =some c->xs[j]? =some x->∃y,P c y∧f y=x)->∃ys:List γ,ys.map f=xs∧∀(j:Nat) c y,cs[j]? =some c->ys[j]? =some y->P c y
 |[],[],_,_=>⟨[],rfl,fun _ _ _ h=>by simp at h⟩
 |c::cs,x::xs,hl,h=>by
  obtain⟨y,h1,h2⟩:=h 0 c x rfl rfl;obtain⟨ys,h3,h4⟩:=pick f cs xs (by simpa using hl) fun j=>h (j+1);refine⟨y::ys,by rw[List.map_cons,h2,h3],fun j=>?_⟩
  cases j with
  |zero=>intro c' y' e1 e2;injection e1 with e1;injection e2 with e2;subst e1 e2;exact h1
  |succ j=>exact h4 j
 |[],_::_,hl,_=>by cases hl
 |_::_,[],hl,_=>by cases hl
section
variable{S:Nat->Prop}{w:World}{v u:Value}{M:List (List Rat)}{b:List Rat}{n h0:Nat}
end
theorem ownsRow.seq{e sz n:Nat}(h:w.ownsRow 0 e sz v n xs)(QI:∀u∈xs,u.oneCell'=true)(hS:∀g,v.ownBlock=some g->S g):gO w S sz v xs n:=by
 rcases h.2 with⟨e,h0⟩|⟨g,cap,cur,e,_,hc,hn,hm,hs,ht⟩
 ·have:xs=[]:=List.eq_nil_of_length_eq_zero (by rw[h.1,h0,Nat.zero_mul]);subst this;rw[e,h0];exact⟨aO _,by rw[Nat.zero_mul];rfl,by simp,none,0,rfl,aF _,fun j u h=>by cases h⟩
 ·subst e;exact⟨aY hn hm,h.1,QI,_,cap,rfl,hn,fun j u hu=>⟨_,rfl,hS g rfl,h.cells (g:=g) rfl j u hu⟩⟩
theorem gO.src{sz:Nat}(h:gO w S sz v xs k)(Om:0<sz):(∃c,v= .slice none 0 c∧k=0)∨∃ad c,v= .slice (some ad) k c∧∀(j:Nat) u,xs[j]? =some u->S ad.block∧w.cell? (ad.add j)=some u:=by
 obtain⟨_,hl,_,a,c,rfl,_,e3⟩:=h
 cases a with
 |none=>
  have h0:k=0:=by
   rcases bJ k with h0|h0
   ·exact h0
   ·have:=Nat.mul_pos h0 Om;obtain⟨ad2,q1,_⟩:=e3 0 _ (aB (show 0<xs.length by omega))
    cases q1
  subst h0;exact .inl ⟨c,rfl,rfl⟩
 |some ad=>
  refine .inr ⟨ad,c,rfl,fun j u hu=>?_⟩;obtain⟨ad2,q1,q2,q3⟩:=e3 j u hu;injection q1 with q1;subst q1;exact⟨q2,q3⟩
theorem Ed{H:Hp}{nx:Nat}{iv:Iv}{B:Nat}{w':World}(r:Rel H nx iv B w O w')(OJ:∀g,v.ownBlock=some g->∀id b,dE H id=some b->(O id).nil=false->(O id).g≠g)(Om:w'.heap.size<=w2.heap.size)(Q1:∀g,v'.ownBlock=some g->g<w2.heap.size∧(v.ownBlock=some g∨g=w'.heap.size)):
  ∀lo hi,(lo,hi)∈kI v'++iv->hi<=w2.heap.size∧∀id b,dE H id=some b->(O id).nil=false->¬(lo<=(O id).g∧(O id).g<hi):=fun lo hi hm=>by
 rcases bK.1 hm with hm|hm
 ·obtain⟨hg,rfl⟩:=rW.1 hm;obtain⟨h1,h2⟩:=Q1 _ hg;refine⟨by omega,fun id c hc hn he=>?_⟩;rcases h2 with h2|h2
  ·exact OJ _ h2 id c hc hn (by omega)
  ·have:=(r.low id c hc hn).2;omega
 ·have:=r.po lo hi hm;have:=r.size;exact⟨by omega,fun id c hc hn=>r.kT lo hi hm id c hc hn⟩
abbrev iW:=(Rat×Rat)×List Int×List Int
def slot(cs:List Value)(k:Bool):Value:=cs.getD (if k then 9 else 8) (.slice none 0 0)
def gT(e:iW)(k:Bool):List Int:=if k then e.2.2 else e.2.1
structure Rz(w:World)(B:Nat)(iv:Iv)(css:List (List Value))(E:List iW):Prop where
 len:css.length=E.length
 row:∀(j:Nat) cs e k,css[j]? =some cs->E[j]? =some e->w.ownsRow 0 T.int 1 (slot cs k) (gT e k).length (zv (gT e k))∧∀g,(slot cs k).ownBlock=some g->Cv FF B iv g
 Bj:∀(i j:Nat) cs ds k m g,css[i]? =some cs->css[j]? =some ds->(slot cs k).ownBlock=some g->(slot ds m).ownBlock=some g->i=j∧k=m
def Os(css:List (List Value))(B:Nat)(iv:Iv)(g:Nat):Prop:=Cv FF B iv g∧∀cs∈css,∀k,(slot cs k).ownBlock≠some g
section
variable{H:Hp}{nx:Nat}{iv iv':Iv}{B:Nat}{w w' w2:World}{O:Nat->Sx.di}{css:List (List Value)}{E:List iW}
theorem Os.same(r:Rel H nx iv B w O w')(h:Os css B iv g):w'.heap[g]? =w.heap[g]? :=Rel.same r (fun _ h=>h.elim) h.1
theorem Os.old(r:Rel H nx iv B w O w')(h:Os css B iv g):g<w'.heap.size:=Rel.old r (fun _ h=>h.elim) g h.1
theorem Os.mono(hm:∀p,p∈iv->p∈iv')(h:Os css B iv g):Os css B iv' g:=⟨h.1.mono hm,h.2⟩
theorem Rz.rel(h:Rz w B iv css E)(r:Rel H nx iv B w O w'):Rz w' B iv css E:=
 ⟨h.len,fun j cs e k h1 h2=>⟨ownsRow.cI (h.row j cs e k h1 h2).1 fun g hg=>Rel.same r (fun _ h=>h.elim) ((h.row j cs e k h1 h2).2 g hg),(h.row j cs e k h1 h2).2⟩,h.Bj⟩
theorem Rz.cG(h:Rz w B iv css E)(r:Rel H nx iv B w O w')(_:∀g,(fun _:Nat=>False) g->g<B)(he:Ext w' w2)(hm:∀p,p∈iv->p∈iv'):Rz w2 B iv' css E:=
 ⟨h.len,fun j cs e k h1 h2=>⟨ownsRow.cI (h.row j cs e k h1 h2).1 fun g hg=>(he.block g (Rel.old r (fun _ h=>h.elim) g ((h.row j cs e k h1 h2).2 g hg))).trans (Rel.same r (fun _ h=>h.elim) ((h.row j cs e k h1 h2).2 g hg)),fun g hg=>((h.row j cs e k h1 h2).2 g hg).mono hm⟩,h.Bj⟩
theorem Rz.lt(h:Rz w B iv css E)(r:Rel H nx iv B w O w')(hc:cs∈css)(k:Bool)(hg:(slot cs k).ownBlock=some g):g<w'.heap.size∧Cv FF B iv g:=by
 obtain⟨j,hj⟩:=aR hc;obtain⟨e,he⟩:∃e,E[j]? =some e:=⟨_,aB (by have:=(aD.1 hj).1;have:=h.len;omega)⟩
 have:=(h.row j cs e k hj he).2 g hg;exact⟨Rel.old r (fun _ h=>h.elim) g this,this⟩
theorem Os.dB(h:Rz w B iv css E)(r:Rel H nx iv B w O w')(hB:B<=w'.heap.size)(hm:(w'.heap.size,w2.heap.size)∈iv')(hg:Nf w' w2 g):Os css B iv' g:=
 ⟨hg.dB hB hm,fun cs hc k e=>by
  have h1:=(h.lt r hc k e).1;rcases hg with hg|hg
  ·exact hg
  ·omega⟩
theorem Rz.app(h:Rz w B iv css E)(r:Rel H nx iv B w O w')(hB:B<=w'.heap.size){k:Bool}{cs2:List Value}{e e2:iW}{z:Int}(hc:css[a]? =some cs)(he:E[a]? =some e)(hk:slot cs2 k=v')(hnk:slot cs2 (!k)=slot cs (!k))(hek:gT e2 k=gT e k++[z])(henk:gT e2 (!k)=gT e (!k))
  (h5:w2.ownsRow 0 T.int 1 v' ((gT e k).length+1) (zv (gT e k)++[.int .i64 z])) (h6:w'.grownBy w2 (slot cs k).ownBlock) (h7:v'.ownBlock=(slot cs k).ownBlock∨v'.ownBlock=some w'.heap.size):
  Rz w2 B (kI v'++iv) (css.set a cs2) (E.set a e2)∧∀g,Os css B iv g->w2.heap[g]? =w.heap[g]? ∧Os (css.set a cs2) B (kI v'++iv) g:=by
 have SC:=aC hc;have UR:=(aD.1 hc).1;have Rh:=(aD.1 he).1;have PA:∀p,p∈iv->p∈kI v'++iv:=fun p hp=>List.mem_append_right _ hp
 have hv:∀g,v'.ownBlock=some g->Cv FF B (kI v'++iv) g:=fun g hg=>.inr ⟨by
  rcases h7 with h7|h7
  ·exact((h.lt r SC k (h7▸hg)).2).elim (fun h=>h.elim) fun h=>h.1
  ·rw[h7]at hg;injection hg with hg;omega,g,g+1,List.mem_append_left _ (rW.2 ⟨hg,rfl⟩),aF _,b9 _⟩
 have key:∀(j:Nat) ds m g,css[j]? =some ds->(slot ds m).ownBlock=some g->¬(j=a∧m=k)->w2.heap[g]? =w.heap[g]? ∧v'.ownBlock≠some g:=fun j ds m g h1 h2 h3=>by
  have h4:=h.lt r (aC h1) m h2;refine⟨(h6.block g h4.1 fun e0=>h3 ((h.Bj j a ds cs m k g h1 hc h2 e0.symm))).trans (Rel.same r (fun _ h=>h.elim) h4.2),fun e0=>?_⟩;rcases h7 with h7|h7
  ·exact h3 (h.Bj j a ds cs m k g h1 hc h2 (h7▸e0))
  ·rw[h7]at e0;injection e0 with e0;omega
 have Wz:∀m:Bool,m=k∨m= !k:=fun m=>by cases m<;>cases k<;>simp
 have hs:∀(j:Nat) ds m,(css.set a cs2)[j]? =some ds->(j=a∧m=k∧slot ds m=v')∨(¬(j=a∧m=k)∧∃ds0,css[j]? =some ds0∧slot ds m=slot ds0 m):=fun j ds m h1=>by
  rw[List.getElem?_set]at h1;split at h1
  ·rename_i e0;subst e0;injection h1 with h1;subst h1;rcases Wz m with rfl|rfl
   ·exact .inl ⟨rfl,rfl,hk⟩
   ·exact .inr ⟨fun g=>(by have g2:=g.2;cases k<;>cases g2),cs,hc,hnk⟩
  ·rename_i e0;exact .inr ⟨fun g=>e0 g.1.symm,ds,h1,rfl⟩
 refine⟨⟨by rw[ah,ah,h.len],fun j ds d m h1 h2=>?_,fun i j ds dt m n g h1 h2 h3 h4=>?_⟩,fun g hg=>⟨(h6.block g (Os.old r hg) fun e0=>hg.2 cs SC k e0.symm).trans (Os.same r hg),hg.1.mono PA,fun ds hd m e0=>?_⟩⟩
 ·rw[List.getElem?_set]at h2;rcases hs j ds m h1 with⟨rfl,rfl,e0⟩|⟨h3,ds0,h4,e0⟩
  ·rw[if_pos rfl,if_pos Rh]at h2;injection h2 with h2;subst h2;rw[e0,hek,List.length_append,List.length_singleton];exact⟨by rw[zv,List.map_append];exact h5,hv⟩
  ·obtain⟨d0,Vj,hl⟩:∃d0,E[j]? =some d0∧gT d m=gT d0 m:=by
    split at h2
    ·rename_i e1;subst e1;injection h2 with h2;subst h2;refine⟨e,he,?_⟩;rcases Wz m with rfl|rfl
     ·exact absurd ⟨rfl,rfl⟩ h3
     ·exact henk
    ·exact⟨d,h2,rfl⟩
   rw[e0,hl];obtain⟨k1,k2⟩:=h.row j ds0 d0 m h4 Vj;exact⟨ownsRow.cI k1 fun g hg=>(key j ds0 m g h4 hg h3).1,fun g hg=>(k2 g hg).mono PA⟩
 ·rcases hs i ds m h1 with⟨rfl,rfl,e0⟩|⟨k1,ds0,k2,e0⟩<;>rcases hs j dt n h2 with⟨rfl,rfl,e1⟩|⟨q1,dt0,q2,e1⟩
  ·exact⟨rfl,rfl⟩
  ·rw[e0]at h3;rw[e1]at h4;exact absurd h3 (key j dt0 n g q2 h4 q1).2
  ·rw[e0]at h3;rw[e1]at h4;exact absurd h4 (key i ds0 m g k2 h3 k1).2
  ·rw[e0]at h3;rw[e1]at h4;exact h.Bj i j ds0 dt0 m n g k2 q2 h3 h4
 ·obtain⟨j,hj⟩:=aR hd;rcases hs j ds m hj with⟨rfl,rfl,e1⟩|⟨k1,ds0,k2,e1⟩
  ·rw[e1]at e0;rcases h7 with h7|h7
   ·exact hg.2 cs SC _ (h7▸e0)
   ·rw[h7]at e0;injection e0 with e0;have:=Os.old r hg;omega
  ·rw[e1]at e0;exact hg.2 ds0 (aC k2) m e0
end
def yt(w:World)(S:Nat->Prop)(cs:List Value)(q:Rat×Rat):Prop:=∃lo hi vl vh,cs=lo++hi++[vl,vh]∧iB w S lo q.1∧iB w S hi q.2
theorem yt.len(h:yt w S cs q):cs.length=10:=by
 obtain⟨_,_,_,_,rfl,⟨_,_,_,_,_,_,_,_,rfl,_⟩,⟨_,_,_,_,_,_,_,_,rfl,_⟩⟩:=h;rfl
def iX(w:World)(S:Nat->Prop)(css:List (List Value))(E:List iW):Prop:=css.length=E.length∧∀(j:Nat) cs e,css[j]? =some cs->E[j]? =some e->yt w S cs e.1
theorem iX.map{E:List iW}(h:iX w S css E)(hk:∀g,S g->w2.heap[g]? =w.heap[g]? ∧S' g):iX w2 S' css E:=
 ⟨h.1,fun j cs e h1 h2=>by
  obtain⟨lo,hi,vl,vh,e0,k1,k2⟩:=h.2 j cs e h1 h2
  exact⟨lo,hi,vl,vh,e0,(k1.cI fun g hg=>(hk g hg).1).cJ fun g hg=>(hk g hg).2,(k2.cI fun g hg=>(hk g hg).1).cJ fun g hg=>(hk g hg).2⟩⟩
theorem iX.wid{E:List iW}(h:iX w S css E):∀cs∈css,cs.length=10:=fun cs hc=>by
 obtain⟨j,hj⟩:=aR hc;obtain⟨e,he⟩:∃e,E[j]? =some e:=⟨_,aB (by have:=(aD.1 hj).1;have:=h.1;omega)⟩
 exact(h.2 j cs e hj he).len
theorem iX.set{E:List iW}{e:iW}(h:iX w S css E)(hc:yt w S cs e.1):iX w S (css.set a cs) (E.set a e):=
 ⟨by rw[ah,ah,h.1],fun j ds d h1 h2=>by
  rw[List.getElem?_set]at h1 h2;split at h1
  ·rename_i e0;subst e0;rw[if_pos rfl]at h2;split at h1
   ·injection h1 with h1;rw[if_pos (by rw[<-h.1];assumption)]at h2;injection h2 with h2;subst h1 h2;exact hc
   ·cases h1
  ·rename_i e0;rw[aK e0]at h2
   exact h.2 j ds d h1 h2⟩
theorem yt.map(h:yt w S cs q)(hk:∀g,S g->w2.heap[g]? =w.heap[g]? ∧S' g):yt w2 S' cs q:=by
 obtain⟨lo,hi,vl,vh,e0,k1,k2⟩:=h;exact⟨lo,hi,vl,vh,e0,(k1.cI fun g hg=>(hk g hg).1).cJ fun g hg=>(hk g hg).2,(k2.cI fun g hg=>(hk g hg).1).cJ fun g hg=>(hk g hg).2⟩
section
variable{H:Hp}{nx:Nat}{iv iv':Iv}{B:Nat}{w w' w2:World}{O:Nat->Sx.di}{css:List (List Value)}{E:List iW}
theorem Os.cG(r:Rel H nx iv B w O w')(he:Ext w' w2)(hm:∀p,p∈iv->p∈iv')(h:Os css B iv g):w2.heap[g]? =w.heap[g]? ∧Os css B iv' g:=⟨(he.block g (Os.old r h)).trans (Os.same r h),h.mono hm⟩
theorem iX.rel(h:iX w (Os css B iv) css E)(r:Rel H nx iv B w O w'):iX w' (Os css B iv) css E:=h.map fun _ hg=>⟨Os.same r hg,hg⟩
theorem iX.cG(h:iX w (Os css B iv) css E)(r:Rel H nx iv B w O w')(_:∀g,(fun _:Nat=>False) g->g<B)(he:Ext w' w2)(hm:∀p,p∈iv->p∈iv'):iX w2 (Os css B iv') css E:=h.map fun _ hg=>hg.cG r he hm
theorem oM.map(h:cN w S v qs)(hk:∀g,S g->w2.heap[g]? =w.heap[g]? ∧S' g):cN w2 S' v qs:=cN.cJ (cN.cI h fun g hg=>(hk g hg).1) fun g hg=>(hk g hg).2
theorem oM.cG(h:cN w (Os css B iv) v qs)(r:Rel H nx iv B w O w')(_:∀g,(fun _:Nat=>False) g->g<B)(he:Ext w' w2)(hm:∀p,p∈iv->p∈iv'):cN w2 (Os css B iv') v qs:=oM.map h fun _ hg=>hg.cG r he hm
theorem il.map{q:Rat}(h:cS w S v q)(hk:∀g,S g->w2.heap[g]? =w.heap[g]? ∧S' g):cS w2 S' v q:=(h.cI fun g hg=>(hk g hg).1).cJ fun g hg=>(hk g hg).2
theorem il.cG{q:Rat}(h:cS w (Os css B iv) v q)(r:Rel H nx iv B w O w')(_:∀g,(fun _:Nat=>False) g->g<B)(he:Ext w' w2)(hm:∀p,p∈iv->p∈iv'):cS w2 (Os css B iv') v q:=il.map h fun _ hg=>hg.cG r he hm
def Gp(w:World)(S:Nat->Prop)(css:List (List Value))(i:Nat):Prop:=∀(j:Nat) cs,j<i->css[j]? =some cs->yt w S cs (0,0)
theorem Gp.cG{i:Nat}(h:Gp w (Cv S B iv) css i)(r:Rel H nx iv B w O w')(hS:∀g,S g->g<B)(he:Ext w' w2)(hm:∀p,p∈iv->p∈iv'):Gp w2 (Cv S B iv') css i:=
 fun j cs h1 h2=>(h j cs h1 h2).map fun g hg=>⟨(he.block g (Rel.old r hS g hg)).trans (Rel.same r hS hg),hg.mono hm⟩
end
theorem aBI(h:cs.length=10):cs.drop 8=[slot cs false,slot cs true]:=by
 match cs,h with
 |[_,_,_,_,_,_,_,_,a,b],_=>rfl
theorem B1{k:Nat}:∀{css:List (List Value)} {j:Nat} {cs:List Value},(∀cs∈css,cs.length=k)->css[j]? =some cs->∃p s,css.flatten=p++(cs++s)∧p.length=j*k∧∀cs2:List Value,(css.set j cs2).flatten=p++(cs2++s)
 |[],j,cs,_,hj=>by simp at hj
 |c::r,0,cs,h,hj=>by
  simp at hj;subst hj;exact⟨[],r.flatten,rfl,by simp,fun cs2=>rfl⟩
 |c::r,j+1,cs,h,hj=>by
  obtain⟨p,s,h1,h2,h3⟩:=B1 (fun x hx=>h x (List.mem_cons_of_mem _ hx)) (show r[j]? =some cs by simpa using hj);refine⟨c++p,s,by rw[List.flatten_cons,h1,bU],by rw[List.length_append,h c aG,h2,Nat.succ_mul];omega,fun cs2=>?_⟩;rw[List.set_cons_succ,List.flatten_cons,h3,bU]
theorem KN{m:Nat}(h:∀cs∈css,cs.length=k)(hj:css[j]? =some cs)(ho:o+m<=k):(css.flatten.drop (j*k+o)).take m=(cs.drop o).take m:=by
 obtain⟨p,s,h1,h2,-⟩:=B1 h hj;have hc:=h cs (aC hj);rw[h1,<-h2,<-List.drop_drop,List.drop_left,List.drop_append_of_le_length (by omega),List.take_append_of_le_length (by rw[List.length_drop];omega)]
theorem MT(h:∀cs∈css,cs.length=k)(hj:css[j]? =some cs)(ho:o+nv.length<=k):
  css.flatten.take (j*k+o)++nv++css.flatten.drop (j*k+o+nv.length)=(css.set j (cs.take o++nv++cs.drop (o+nv.length))).flatten:=by
 obtain⟨p,s,h1,h2,h3⟩:=B1 h hj;have hc:=h cs (aC hj);rw[h3,h1,<-h2,List.take_append,List.take_of_length_le (by omega),Nat.add_sub_cancel_left,List.take_append_of_le_length (by omega),show p.length+o+nv.length=p.length+(o+nv.length) by omega,<-List.drop_drop,List.drop_left,List.drop_append_of_le_length (by omega)];simp only[bU]
theorem oN{m:Nat}(h:∀cs∈css,cs.length=k)(hj:css[j]? =some cs)(Te:off=j*k+o)(hm:nv.length=m)(ho:o+m<=k):
  css.flatten.take off++nv++css.flatten.drop (off+m)=(css.set j (cs.take o++nv++cs.drop (o+m))).flatten:=by
 subst Te hm;exact MT h hj ho
theorem B2{m:Nat}(h:∀cs∈css,cs.length=k)(hj:css[j]? =some cs)(Te:off=j*k+o)(ho:o+m<=k):(css.flatten.drop off).take m=(cs.drop o).take m:=by
 subst Te;exact KN h hj ho
theorem DZ{u:Value}(h:∀cs∈css,cs.length=k)(hj:css[j]? =some cs)(Te:off=j*k+o)(hu:cs[o]? =some u):css.flatten[off]? =some u:=by
 subst Te;exact rT h hj o u hu
def fK(e:iW)(q:Rat)(c:Int):iW:=if q<0 then((e.1.1+q,e.1.2),e.2.1++[c],e.2.2)else if 0<q then((e.1.1,e.1.2+q),e.2.1,e.2.2++[c])else e
def iY(E:List iW)(x:List Rat)(c:Int):Nat->List iW
 |0=>E
 |i+1=>(iY E x c i).set i (fK ((iY E x c i).getD i ((0,0),[],[])) (x.getD i 0) c)
def fN(n:Nat)(X:List (List Rat)):Nat->List iW
 |0=>List.replicate n ((0,0),[],[])
 |c+1=>iY (fN n X c) (X.getD c []) c n
def jr(l:List Rat):Nat->iW
 |0=>((0,0),[],[])
 |i+1=>fK (jr l i) (l.getD i 0) i
theorem jc(E:List iW)(x:List Rat)(c:Int):∀i,(iY E x c i).length=E.length
 |0=>rfl
 |i+1=>by rw[iY,ah];exact jc E x c i
theorem rX(E:List iW)(x:List Rat)(c:Int){k:Nat}(hk:k<E.length)(d:iW):∀i,(iY E x c i).getD k d=if k<i then fK (E.getD k d) (x.getD k 0) c else E.getD k d
 |0=>by rw[aK (by omega)];rfl
 |i+1=>by
  rw[iY];by_cases e:i=k
  ·subst e;rw[if_pos (by omega),List.getD,aV (by rw[jc];exact hk),Option.getD_some,show(iY E x c i).getD i ((0,0),[],[])=(iY E x c i).getD i d by rw[List.getD,List.getD,aB (by rw[jc];exact hk)];rfl,rX E x c hk d i,aK (by omega)]
  ·rw[List.getD,aZ e,<-List.getD,rX E x c hk d i];by_cases h:k<i
   ·rw[if_pos h,if_pos (by omega)]
   ·rw[aK h,aK (by omega)]
theorem jD(n:Nat)(X:List (List Rat)):∀c,(fN n X c).length=n
 |0=>bE
 |c+1=>by rw[fN,jc];exact jD n X c
theorem xN{n:Nat}{X:List (List Rat)}{k:Nat}(hk:k<n)(d:iW):∀c,c<=X.length->(fN n X c).getD k d=jr (X.map fun x=>x.getD k 0) c
 |0,_=>by
  show(List.replicate n (((0,0),[],[]):iW)).getD k d=_;rw[List.getD,List.getElem?_replicate,if_pos hk];rfl
 |c+1,hc=>by
  obtain⟨x,hx⟩:∃x,X[c]? =some x:=⟨_,aB (by omega)⟩
  rw[fN,rX _ _ _ (by rw[jD];exact hk),if_pos hk,xN hk d c (by omega),jr,getD_some hx,getD_some (show (X.map fun x=>x.getD k 0)[c]? =some (x.getD k 0) by rw[aM,hx];rfl)]
theorem B3{e:iW}{q:Rat}{c:Int}{h:Nat}(hq:rl q<=152)(h1:rl e.1.1<=h)(h2:rl e.1.2<=h):rl (fK e q c).1.1<=h+153∧rl (fK e q c).1.2<=h+153:=by
 unfold fK;split
 ·have:=nP e.1.1 q;exact⟨by dsimp only;omega,by dsimp only;omega⟩
 ·split
  ·have:=nP e.1.2 q;exact⟨by dsimp only;omega,by dsimp only;omega⟩
  ·exact⟨by omega,by omega⟩
def jZ(f:ew)(cs:List (List Ld)):Int:=if eJ f≠0 then eJ f else if 16<cs.length then 8 else eO (fun _=>lE f.nodes.length) [] cs
def jE(f:ew)(cs:List (List Ld))(X:List (List Rat)):Prop:=∀(c:Nat) x,X[c]? =some x->jz (cP f) f.cols (IC f) (cW (eh f (cs.getD c [])) (-1)) x
def qu(f:ew)(cs:List (List Ld)):Prop:=∃(c:Nat),∃l,cs[c]? =some l∧eW (cP f) (cW (eh f l) (-1)) f.cols=none
theorem jE.push{cs:List (List Ld)}(h:jE f cs X)(hl:cs[X.length]? =some l)(hx:jz (cP f) f.cols (IC f) (cW (eh f l) (-1)) x):jE f cs (X++[x]):=fun c y hy=>by
 rcases aQ c X.length with h1|h1
 ·rw[aL h1]at hy;exact h c y hy
 ·rw[aN h1]at hy;have h0:=(aD.1 hy).1;simp at h0;obtain rfl:c=X.length:=by omega
  rw[bL]at hy;injection hy with hy;subst hy;rw[getD_some hl];exact hx
theorem jE.one{cs:List (List Ld)}{Y:List (List Rat)}(Of:nY f)(h:jE f cs X)(k:jE f cs Y)(hl:X.length=Y.length):X=Y:=by
 refine bM fun c=>?_;rcases aQ c X.length with h1|h1
 ·rw[aB h1,aB (by omega)];exact congrArg some (Of.uT.one (h c _ (aB h1)) (k c _ (aB (by omega))))
 ·rw[List.getElem?_eq_none h1,List.getElem?_eq_none (by omega)]
theorem jE.not{cs:List (List Ld)}(h:jE f cs X)(hl:X.length=cs.length):¬qu f cs:=fun⟨c,l,h1,h2⟩=>by
 have hc:=(aD.1 h1).1;have hx:=h c _ (aB (show c<X.length by omega));rw[getD_some h1]at hx;obtain⟨z,hz⟩:=kY (e8 f) (x:=fun t=>X[c].getD t 0) hx.eq;rw[h2]at hz
 cases hz
theorem jE.exists{cs:List (List Ld)}(Of:nY f)(h:¬qu f cs):∃X,jE f cs X∧X.length=cs.length:=by
 have key:∀k,k<=cs.length->∃X,jE f cs X∧X.length=k:=fun k=>by
  induction k with
  |zero=>exact fun _=>⟨[],fun c x hx=>by simp at hx,rfl⟩
  |succ k ih=>
   intro hk;obtain⟨X,h1,h2⟩:=ih (by omega);obtain⟨l,hl⟩:∃l,cs[k]? =some l:=⟨_,aB (by omega)⟩
   cases e:eW (cP f) (cW (eh f l) (-1)) f.cols with
   |none=>exact absurd ⟨k,l,hl,e⟩ h
   |some x0=>
    obtain⟨c,-,-,hy⟩:=Of.uT.force (fl:=cY f) e;exact⟨_,h1.push (by rw[h2];exact hl) hy,by rw[List.length_append,h2];rfl⟩
 exact key cs.length (aF _)
theorem sY{cs:List (List Ld)}(hS:Old S w)(hf:dT w S vn vb vs f)(hC:ec w S v cs):
  eD PG N.mM #[.agg #[vn,vb,vs],v] w (eG w fun v' _=>v'= .int .i64 (jZ f cs)):=by
 have hw:=bR w;obtain⟨an,cn,ab,cb,aq,cq,rfl,rfl,rfl,Qj,RJ,R6⟩:=hf.shape;obtain⟨ac,cc,rfl,-,Sc⟩:=c9.shape hC;unfold maxLen at Sc;refine p9 (by simp) ?_;obtain⟨e0,EE⟩:∃e,eJ f=e:=⟨_,rfl⟩
 refine cD (cE hw (fun _ w' v w2=>v= .int .i64 e0) (fun O w' r=>(BT (oS hS r) (hf.cI (kS hw r hS))).mono fun _ _ ⟨v2,e1,e2,e3⟩=>⟨v2,e1,e2,by rw[e3,EE]⟩) ?_);rintro O _ _ _ OP r he hw h_ rfl;clear r;refine dI.mk ?_ ?_<;>intro hd
 ·have hd:e0≠0:=by simpa using hd
  have Si:jZ f cs=e0:=by rw[jZ,EE,if_pos hd]
  exact rtn hw fun ρe we re=>by rw[Si];rfl
 have hd:e0=0:=by simpa using hd
 rw[hd]at EE;have Vk:¬eJ f≠0:=fun h=>h EE;refine dI.mk ?_ ?_<;>intro h1
 ·have h1:=aI h1;have Si:jZ f cs=8:=by rw[jZ,aK Vk,if_pos (by omega)]
  exact rtn hw fun ρe we re=>by rw[Si];rfl
 have h1:=aH h1;have h16:¬16<cs.length:=by omega
 refine⟨Nat×World×Iv,fun z=>⟨[(1,sV ac cs.length cc),(2,pP 0 0),(17,sV ac cs.length cc),(18,iZ cs.length),(19,iN z.1)],[(0,.box T.Frame [.v (.slice an f.nodes.length cn),.v (.slice ab f.bars.length cb),.v (.slice aq f.cV.length cq)])],1,z.2.2,z.2.1⟩,fun z=>cs.length-z.1,
  fun z=>z.1<=cs.length∧dm w.heap.size w z.2.1∧eO (fun _=>lE f.nodes.length) [] cs=eO (fun _=>lE f.nodes.length) (cs.take z.1) (cs.drop z.1),?_,?_⟩
 ·intro O w' r3;exact⟨(0,w',_),⟨aO _,hw.tr r3.cQ,rfl⟩,Sub.gn [] r3⟩
 clear hw;rintro⟨i,w1,iv⟩ ⟨hi,hw,hE⟩;dsimp only at hi hw hE ⊢;refine dI.mk ?_ ?_<;>intro OI
 ·have OI:i<cs.length:=by simpa using OI
  obtain⟨x,hx⟩:∃x,cs[i]? =some x:=⟨_,aB OI⟩
  obtain⟨adm,um,QE,Oj,km1,km2⟩:=c9.load hC hx;obtain⟨al,cl,rfl,-,Qg⟩:=Oj.shape;refine⟨adm,QE,by omega,.slice al x.length cl,rd1 km2 hw (hS _ km1),?_⟩;refine cD (cE hw (fun _ w' v w2=>v= .int .i64 (lE f.nodes.length x)) (fun O w' r=>sW (oS hS r) (fu.cI Oj (kS hw r hS))) ?_);rintro O _ _ _ ON r he hw h_ rfl;clear r;obtain⟨e,he⟩:∃e,lE f.nodes.length x=e:=⟨_,rfl⟩
  rw[he];refine dI.mk ?_ ?_<;>intro hd
  ·have hd:e≠0:=by simpa using hd
   have Si:jZ f cs=e:=by rw[jZ,aK Vk,aK h16,hE];exact cU hx he hd
   exact rtn hw fun ρe we re=>by rw[Si];rfl
  have hd:e=0:=by simpa using hd
  subst hd;rw[ff (e:=fun _=>lE f.nodes.length) hx he]at hE;refine⟨((i+1:Nat):Int),wo,?_⟩;intro ρ3 w6 r3;exact⟨(i+1,w6,_),⟨OI,hw.tr r3.cQ,hE⟩,Sub.gn [] r3,by dsimp only;omega⟩
 have OI:i=cs.length:=aP hi (by simpa using OI);rw[gv (by omega)]at hE;have Si:jZ f cs=0:=by rw[jZ,aK Vk,aK h16,hE]
 exact rtn hw fun ρe we re=>by rw[Si];rfl
theorem tk{cs:List (List Ld)}(h:jZ f cs=0):eJ f=0∧cs.length<=16∧∀(c:Nat) l,cs[c]? =some l->nB f.nodes.length l:=by
 unfold jZ at h;by_cases h1:eJ f=0
 ·rw[aK (fun g=>g h1)]at h;split at h
  ·cases h
  ·exact⟨h1,by omega,fun c l hl=>zL (ga h c l hl)⟩
 ·rw[if_pos h1]at h;exact absurd h h1
set_option maxHeartbeats 1000000 in
theorem kJ{cs:List (List Ld)}(hS:Old S w)(hf:dT w S vn vb vs f)(hC:ec w S v cs)(RS:eJ f=0->nY f)(el:Int)(Rh: -9223372036854775808<=el∧el<=9223372036854775807):
  eD PG N.mn #[.agg #[vn,vb,vs],v,.int .i64 el] w (eG w fun v' w2=>(jZ f cs≠0∧v'= .tuple #[.slice none 0 0,.int .i64 (jZ f cs)])∨(jZ f cs=0∧((¬(0<=el∧el<f.cols)∧v'= .tuple #[.slice none 0 0,.int .i64 6])∨
   ((0<=el∧el<f.cols)∧((qu f cs∧v'= .tuple #[.slice none 0 0,.int .i64 17])∨∃X vl,jE f cs X∧X.length=cs.length∧v'= .tuple #[vl,.int .i64 0]∧cN w2 (Nf w w2) vl (X.map fun x=>x.getD el.toNat 0)))))):=by
 have hw:=bR w;obtain⟨an,cn,ab,cb,aq,cq,rfl,rfl,rfl,Qj,RJ,R6⟩:=hf.shape;obtain⟨ac,cc,rfl,-,Sc⟩:=c9.shape hC;unfold maxLen at Sc;refine qd (by simp) ?_;obtain⟨e0,EE⟩:∃e,jZ f cs=e:=⟨_,rfl⟩
 refine cD (cE hw (fun _ w' v w2=>v= .int .i64 e0) (fun O w' r=>(sY (oS hS r) (hf.cI (kS hw r hS)) (ec.cI hC (kS hw r hS))).mono fun _ _ ⟨v2,e1,e2,e3⟩=>⟨v2,e1,e2,by rw[e3,EE]⟩) ?_);rintro O _ _ _ OP r he hw h_ rfl;clear r;refine dI.mk ?_ ?_<;>intro he
 ·have he:e0≠0:=by simpa using he
  exact rtn hw fun ρe we re=>.inl ⟨by rw[EE];exact he,by rw[EE];rfl⟩
 have he:e0=0:=by simpa using he
 subst he;obtain⟨OS,h16,PQ⟩:=tk EE;have Of:=RS OS;have Oe:=Of.toFrS;have SR:=Oe.HB;have R9:=Oe.H3;have SM:=ef f;have hlen:=e8 f;have hn4:=Oe.n4;have OM:=kA OS;have Qw:f.cols=f.bars.length+f.cV.length:=rfl;have RG:(f.bars.length:Int)+f.cV.length=f.cols:=by rw[Qw];omega
 refine dI.mk ?_ ?_<;>intro hd
 ·have QT:¬(0<=el∧el<f.cols):=fun h=>by have:=aI hd;omega
  exact rtn hw fun ρe we re=>.inr ⟨EE,.inl ⟨QT,rfl⟩⟩
 have h0:0<=el:=by have:=aH hd;omega
 refine⟨((f.cols:Nat):Int),wo,?_⟩;refine dI.mk ?_ ?_<;>intro hd
 ·have QT:¬(0<=el∧el<f.cols):=fun h=>by have:=aI hd;omega
  exact rtn hw fun ρe we re=>.inr ⟨EE,.inl ⟨QT,rfl⟩⟩
 have hec:el<f.cols:=by have:=aH hd;omega
 obtain⟨k,rfl⟩:=Int.eq_ofNat_of_zero_le h0;have hkc:k<f.cols:=by omega
 refine⟨Nat×List (List Value)×List (List Rat)×World×Iv,fun z=>⟨[(1,sV ac cs.length cc),(2,iN k),(3,pP 0 0),(9,.o (.w 1 z.2.1.length)),(33,sV ac cs.length cc),(34,iZ cs.length),(35,iN z.1)],[(1,.vec T.Rat 4 z.2.1.flatten),(0,.box T.Frame [.v (.slice an f.nodes.length cn),.v (.slice ab f.bars.length cb),.v (.slice aq f.cV.length cq)])],2,z.2.2.2.2,z.2.2.2.1⟩,fun z=>cs.length-z.1,
  fun z=>z.1<=cs.length∧dm w.heap.size w z.2.2.2.1∧jE f cs z.2.2.1∧z.2.2.1.length=z.1∧dU z.2.2.2.1 (Cf w z.2.2.2.2) z.2.1 (z.2.2.1.map fun x=>x.getD k 0),?_,?_⟩
 ·intro O w' r;exact⟨(0,[],[],w',_),⟨aO _,hw.tr r.cQ,fun c x hx=>by simp at hx,rfl,dU.nil⟩,Sub.nil 9 T.Rat 4 rfl (by simp[jQ,SV.sc,At.sc,fP]) r fun ρ1 r1=>Sub.gn [] r1⟩
 clear hw;rintro⟨i,css,X,w1,iv⟩ ⟨hi,hw,hX,Rt,hG⟩;dsimp only at hi hw hX Rt hG ⊢;have OY:=eK hG.four;have R7:css.length=i:=by rw[hG.len,aJ,Rt]
 refine dI.mk ?_ ?_<;>intro OI
 ·have OI:i<cs.length:=by simpa using OI
  obtain⟨x,hx⟩:∃x,cs[i]? =some x:=⟨_,aB OI⟩
  obtain⟨adm,um,QE,Oj,km1,km2⟩:=c9.load hC hx;obtain⟨al,cl,rfl,-,Qg⟩:=Oj.shape;refine⟨adm,QE,by omega,.slice al x.length cl,rd1 km2 hw (hS _ km1),?_⟩;refine cK hτ da [.x 0,.x 1,.x 2,.x 3,.x 4,.x 5,.x 6,.x 7,.x 8,.x 9] (by kernel_rfl) (by kernel_rfl) ?_;have Pm:nB f.nodes.length x:=PQ i x hx;have Ql:=fg f x;refine cE hw (fun _ w' v w2=>cN w2 (Nf w' w2) v (eh f x)∧∀q∈eh f x,rl q<=1) (fun O w' r=>(rU (oS hS r) (fu.cI Oj (kS hw r hS)) Oe.n Pm rfl rfl).mono fun _ _ ⟨v2,e1,e2,e3,e4⟩=>⟨v2,e1,e2,cN.cJ e3.c fun g hg=>hg.new,e4⟩) ?_;rintro O _ _ _ Og r he hw h_ ⟨hn,Td⟩;replace hG:=dU.cG hG r (cC w) he (mC h_);have hP:=cN.dB (S:=FF) hn r.cF (mN h_);clear r he;clear hn;obtain⟨ap,cp,rfl,-,-⟩:=dH.shape hP;rw[Ql];obtain⟨o,ho⟩:∃o,eW (cP f) (cW (eh f x) (-1)) f.cols=o:=⟨_,rfl⟩
  cases o with
  |none=>
   refine cE hw (fun _ w' v w2=>v= .tuple #[.slice none 0 0,.bool false]) (fun O w' r=>(lj (S:=fun g=>S g∨Cf w Og g) (fun g hg=>hg.elim (oS hS r g) (Rel.old r (cC w) g)) (dT.cJ (hf.cI (kS hw r hS)) fun g hg=>.inl hg) OS Of (cN.cJ (by have:=cN.rel hP r (cC w);rw[Ql]at this;exact this) fun g hg=>.inr hg) Ql (fun q hq=>by have:=Td q hq;omega) (kH Pm)).mono fun _ _ ⟨v2,e1,e2,e3⟩=>⟨v2,e1,e2,e3.elim (fun g=>g.2) fun⟨x2,vx,g,_⟩=>by obtain⟨z,hz⟩:=kY (e8 f) (x:=fun t=>x2.getD t 0) g.eq;rw[ho]at hz;cases hz⟩) ?_;rintro O Pq v12 PV RT r he hw h_ rfl;clear hG;clear hP;clear r he;have PD:qu f cs:=⟨i,x,hx,ho⟩
   exact rtn hw fun ρe we re=>.inr ⟨EE,.inr ⟨⟨by omega,hec⟩,.inl ⟨PD,rfl⟩⟩⟩
  |some x0=>
   obtain⟨c,-,-,hy⟩:=Of.uT.force (fl:=cY f) ho;obtain⟨y,XA⟩:∃y,jx (cT (cP f) f.cols) c x0 (cT (cP f) f.cols).length=y:=⟨_,rfl⟩
   rw[XA]at hy;clear XA;have hyr:=Of.Cw (kH Pm) (by rw[cW,aJ,fg,ef]) hy;have Vc:=hy.len;refine cE hw (fun _ w' v w2=>∃vx,v= .tuple #[vx,.bool true]∧cN w2 (Nf w' w2) vx y) (fun O w' r=>(lj (S:=fun g=>S g∨Cf w Og g) (fun g hg=>hg.elim (oS hS r g) (Rel.old r (cC w) g)) (dT.cJ (hf.cI (kS hw r hS)) fun g hg=>.inl hg) OS Of (cN.cJ (by have:=cN.rel hP r (cC w);rw[Ql]at this;exact this) fun g hg=>.inr hg) Ql (fun q hq=>by have:=Td q hq;omega) (kH Pm)).mono fun _ _ ⟨v2,e1,e2,e3⟩=>⟨v2,e1,e2,e3.elim (fun g=>by rw[ho]at g;cases g.1) fun⟨x2,vx,g,k1,k2⟩=>⟨vx,k1,Of.uT.one g hy▸k2⟩⟩) ?_;rintro O _ _ PV RT r he hw h_ ⟨vy,rfl,hn⟩;replace hG:=dU.cG hG r (cC w) he (mC h_);clear hP;have hY:=cN.dB (S:=FF) hn r.cF (mN h_);clear r he;clear hn;obtain⟨ay,cy,rfl,-,-⟩:=dH.shape hY;obtain⟨q,hq⟩:∃q,y[k]? =some q:=⟨_,aB (by omega)⟩
   obtain⟨adq,csq,RP,QM,-,Ua⟩:=dH.load hY hq;obtain⟨q0,q1,q2,q3,q4,q5,q6,q7,rfl,QM⟩:=QM;refine⟨adq,RP,by omega,[.bool q0,.slice q1 q2 q3,.bool q4,.slice q5 q6 q7],rfl,fun O w' r j u hu=>?_,?_⟩
   ·obtain⟨k1,k2⟩:=Ua j u hu;rw[aE,cH (w:=PV) (w2:=w') (by rw[dD,dD];exact Rel.same r (cC w) k1)];exact k2
   have RZ:=hG.push (cs:=[.bool q0,.slice q1 q2 q3,.bool q4,.slice q5 q6 q7]) (q:=q) ⟨_,_,_,_,_,_,_,_,rfl,QM⟩ rfl;rw[show (X.map fun x=>x.getD k 0)++[q]=(X++[y]).map fun x=>x.getD k 0 by rw[List.map_append,List.map_singleton,getD_some hq]]at RZ;have Po:css.flatten++([.bool q0,.slice q1 q2 q3,.bool q4,.slice q5 q6 q7]:List Value)=(css++([[.bool q0,.slice q1 q2 q3,.bool q4,.slice q5 q6 q7]]:List (List Value))).flatten:=by simp
   have Vg:=hX.push (by rw[Rt];exact hx) hy;refine .inl ?_;refine⟨by omega,by omega,by unfold maxLen;omega,((i+1:Nat):Int),wo,?_⟩;intro ρ3 w6 r3;exact⟨(i+1,css++[[.bool q0,.slice q1 q2 q3,.bool q4,.slice q5 q6 q7]],X++[y],w6,_),⟨OI,hw.tr r3.cQ,Vg,by dsimp only;rw[List.length_append,Rt];rfl,RZ.rel r3 (cC w)⟩,Sub.gn [(1,3)] r3 ⟨by dsimp only;rw[<-Po];rfl,rfl,trivial⟩ ⟨rfl,rfl,rfl,by dsimp only;rw[show ∀a b:List (List Value),(a++b).length=a.length+b.length from fun _ _=>List.length_append,List.length_singleton];rfl,rfl,rfl,rfl,trivial⟩,by dsimp only;omega⟩
 have OI:i=cs.length:=aP hi (by simpa using OI);subst OI;intro ρe we re;refine⟨_,rfl,hw.tr re.cQ,.inr ⟨EE,.inr ⟨⟨by omega,hec⟩,.inr ⟨X,_,hX,Rt,rfl,?_⟩⟩⟩⟩;have h5:=re.iC (id:=1) (sz:=4) (m:=css.length) rfl OY (by unfold maxLen;omega) (by decide) hG.one;exact dU.list ((hG.rel re (cC w)).cJ fun g hg=>Cv.nw hg re) (h5.cJ fun g hg=>.inr hg)
end Go.Ex
