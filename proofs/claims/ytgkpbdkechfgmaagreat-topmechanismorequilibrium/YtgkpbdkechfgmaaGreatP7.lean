/- Texts X41 to X45: lemmas, each with its conditions. -/
import Derived.Test.YtgkpbdkechfgmaaGreatP6
namespace Go.Ex
open Go Go.Sx Go.Proofs
variable{qs:List Rat}{C S:Nat->Prop}{w:World}
theorem fU.from{a:Option Addr}{n c k:Nat}(h:fU w C S (.slice a n c) qs)(hk:k<=n):
  fU w C S (.slice (if (c:Int)=(k:Int)then a else a.map (·.add (k*4))) (n-k) (c-k)) (qs.drop k):=by
 obtain⟨css,⟨h0,h1,h2,a',c',e,h3,h4⟩,hf⟩:=h;injection e with e1 e2 e3;subst e1 e2 e3;have hd:(css.drop k).flatten=css.flatten.drop (k*4):=by
  have:=ei (css:=css.take k) (fun cs hc=>hf.mz cs (List.mem_of_mem_take hc));conv=>rhs;rw[<-List.take_append_drop k css,List.flatten_append]
  have hl:(css.take k).length=k:=by rw[ai,hf.1];omega
  rw[hl]at this;rw[<-this,List.drop_left]
 refine⟨css.drop k,⟨?_,?_,?_,_,c-k,by rw[List.length_drop],by simp;omega,fun j u hu=>?_⟩,?_,fun j cs q hc hq=>?_⟩
 ·simp;omega
 ·rw[hd,List.length_drop,h1,List.length_drop,Nat.sub_mul]
 ·intro u hu;rw[hd]at hu;exact h2 u (List.mem_of_mem_drop hu)
 ·rw[hd,List.getElem?_drop]at hu;obtain⟨ad,k1,k2,k3⟩:=h4 (k*4+j) u hu;have PF:=(aE.1 hu).1;subst k1;rw[aJ (by omega)];refine⟨ad.add (k*4),rfl,by rw[dC];exact k2,?_⟩;rw[<-k3];have:(ad.add (k*4)).add j=ad.add (k*4+j):=by
   unfold Addr.add;split<;>split<;>simp_all<;>omega
  rw[this]
 ·rw[List.length_drop,List.length_drop,hf.1]
 ·rw[List.getElem?_drop]at hc hq;exact hf.2 _ cs q hc hq
theorem MN{v:Value}(hC:Old C w)(hS:Old S w)(h:fU w C S v qs)(hn:0<qs.length)(hl:qs.length<=1000000):
  eG PG N.fO #[v] w (eL w fun v' w2=>jo w2 S v' qs.length qs∧(∀g,v'.ownBlock=some g->w.heap.size<=g∧g<w2.heap.size)):=by
 obtain⟨a,c,rfl,hc,hm⟩:=h.shape;obtain⟨css,⟨h0,h1,h2,a',c',e,h3,h4⟩,hf⟩:=h;injection e with e1 e2 e3;subst e1 e3;have Pf:css.length=qs.length:=hf.1;obtain⟨ad,rfl⟩:∃ad,a=some ad:=by
  obtain⟨ad,k1,_⟩:=h4 0 _ (aA (show 0<css.flatten.length by omega));exact⟨ad,k1⟩
 refine iC (by simp) ?_;conv=>whnf
 refine⟨false,fun O w1 o1 o2=>by simp[eqGuard,SV.den,At.den,kI (P:=PG) w1 T.row T.dy (some ad) qs.length c 0 0 yd],?_⟩;conv=>whnf
 refine .inl ?_;conv=>whnf
 refine⟨css.flatten,h1,h2,fun O w1 r h0=>⟨ad,rfl,fun j u hu=>?_⟩,?_⟩
 ·obtain⟨ad2,k1,k2,k3⟩:=h4 j u hu;injection k1 with k1;subst k1;exact jY hC dq.refl r k2 k3
 conv=>whnf
 refine⟨rfl,by omega,by unfold maxLen;omega,?_⟩;conv=>whnf
 intro ρ3 w3 r3;refine⟨_,rfl,r3.cU,?_⟩;have Wy:Fr w3 S css qs:=hf.cJ fun g hg=>r3.cU.block g (hS g hg);rcases r3.vec 1 T.dy 4 css.flatten rfl with⟨Oo,hemp⟩|⟨Oo,spare,hb,hcp,QS⟩
 ·rw[hemp]at h1;simp at h1;omega
 have Oa:=r3.low 1 _ rfl Oo;have Uh:((At.w 1 (0+qs.length)).den ρ3)= .slice (some ⟨(ρ3 1).g,0,none⟩) qs.length (ρ3 1).cap:=by simp[At.den,Oo]
 show jo w3 S ((At.w 1 (0+qs.length)).den ρ3) qs.length qs∧∀g,((At.w 1 (0+qs.length)).den ρ3).ownBlock=some g->_;rw[Uh];have hls:(css.flatten++spare).length=css.flatten.length+spare.length:=List.length_append;refine⟨⟨css,⟨h1,.inr ⟨(ρ3 1).g,(ρ3 1).cap,(css.flatten++spare).toArray,rfl,aR _,hb,by omega,QS,by simpa using hcp,?_⟩⟩,Pf,Wy⟩,fun g hg=>?_⟩
 ·rw[<-h1];simp
 ·injection hg with hg;subst hg;exact Oa
end Go.Ex
namespace Go.Sx
open Go Go.Ex Go.Proofs
variable{X:Nat->Prop}{O:Nat->Sx.dw}
theorem Rel.H7{H1 H2:Hp}{nx:Nat}{iv:Iv}{B:Nat}{w w' w2:World}{t id:Nat}{cs cs':List Value}(r:Rel H1 nx iv B w O w')(h1:dD H1 id=some (.arr t cs))(h2:dD H2 id=some (.arr t cs'))(ho:∀j,j≠id->dD H2 j=dD H1 j)
  (k:Kept w' w2 X) (hX:∀g,X g->g=(O id).g∨∀j b,dD H1 j=some b->(O j).nil=false->(O j).g≠g) (hb:w2.heap[(O id).g]? =some (.cells cs'.toArray t (0,0))):Rel H2 nx ((w'.heap.size,w2.heap.size)::iv) B w2 O w2:=by
 have Oo:(O id).nil=false:=(r.fits h1).1;have get:∀j b,dD H2 j=some b->∃b1,dD H1 j=some b1∧(j≠id->b1=b)∧(b≠ .dead->b1≠ .dead):=fun j b h=>by
  by_cases hj:j=id
  ·subst hj;exact⟨_,h1,fun h=>absurd rfl h,fun _=>by simp⟩
  ·rw[ho j hj]at h;exact⟨b,h,fun _=>rfl,fun h=>h⟩
 refine Rel.mk' rfl rfl rfl (Nat.le_refl _) (by have:=r.base;have:=r.size;have:=k.size;omega) (fun lo hi hm=>?_) (fun j b h=>?_) (fun j b h=>?_) (fun j b h=>?_) (fun i j b b' hi hj di dj ni nj e=>?_) (fun j b h hn=>?_) (fun _ _ _=>rfl) (fun lo hi hm j b h hn hc=>?_)
 ·rcases List.mem_cons.1 hm with e|hm
  ·injection e with e1 e2;omega
  ·have:=r.pC lo hi hm;have:=r.size;have:=k.size;omega
 ·obtain⟨b1,h3,_⟩:=get j b h;exact r.keys j b1 h3
 ·by_cases hj:j=id
  ·subst hj;rw[h2]at h;injection h with h;subst h;exact⟨Oo,hb⟩
  ·rw[ho j hj]at h;refine jq.gf (r.fits h) (fun _ _=>rfl) (r.scopd h) fun hn hd=>?_;refine k.block _ (r.low j b h hn).2 fun hx=>?_;rcases hX _ hx with e|e
   ·exact hj (r.inj j id b _ h h1 hd (by simp) hn Oo e)
   ·exact e j b h hn rfl
 ·by_cases hj:j=id
  ·subst hj;rw[h2]at h;injection h with h;subst h;trivial
  ·rw[ho j hj]at h;exact r.scopd h
 ·obtain⟨b1,h3,_,h4⟩:=get i b hi;obtain⟨b2,h5,_,h6⟩:=get j b' hj;exact r.inj i j b1 b2 h3 h5 (h4 di) (h6 dj) ni nj e
 ·obtain⟨b1,h3,_⟩:=get j b h;have:=r.low j b1 h3 hn;have:=k.size;omega
 ·obtain⟨b1,h3,_⟩:=get j b h;have hl:=r.low j b1 h3 hn;rcases List.mem_cons.1 hm with e|hm
  ·injection e with e1 e2;omega
  ·exact r.jb lo hi hm j b1 h3 hn hc
end Go.Sx
namespace Go.Ex
open Go Go.Sx Go.Proofs
end Go.Ex
namespace Go.Ex
open Go Go.Sx Go.Proofs
variable{b:List (Int×Int)}{A M:List (List Rat)}{l qs r:List Rat}{rv:List Value}{h h0 i n:Nat}{S:Nat->Prop}{O:Nat->Sx.dw}{q:Rat}{P:Rat->Prop}{u v:Value}{w:World}
abbrev kH(M:List (List (Int×Int))):List (List Rat):=M.map fun r=>r.map ec
def kY(R i:Nat):List Rat:=(List.replicate R 0).set i 1
def fH(M:List (List Rat))(b:List Rat):List (List Rat):=M.mapIdx fun i r=>r++b.getD i 0::kY M.length i
def fD(A:List (List Rat))(pv:List Nat)(cols i:Nat):List Rat:=(List.range i).foldl (fun x i=>x.set (pv.getD i 0) (dK A i cols)) (List.replicate cols 0)
theorem gJ(A:List (List Rat))(pv:List Nat)(cols i:Nat):fD A pv cols (i+1)=(fD A pv cols i).set (pv.getD i 0) (dK A i cols):=by
 rw[fD,bS,List.foldl_append];rfl
theorem kZ(M:List (List Rat))(b:List Rat):(fH M b).length=M.length:=by simp[fH]
theorem Nc{b:List Rat}(h:M[i]? =some r):(fH M b)[i]? =some (r++b.getD i 0::kY M.length i):=by simp[fH,h]
theorem kC.lim{H:Hp}{nx:Nat}{iv:Iv}{B:Nat}{w' w2:World}(hx:kC w2 FF w'.heap.size [(w'.heap.size,w2.heap.size)] v n qs)(r:Rel H nx iv B w O w')(UU:∀u∈rv,∀g,u.ownBlock=some g->Cv S B iv g)(hS:∀g,S g->g<B):
  jo w2 (fun g=>(Cv FF B ((w'.heap.size,w2.heap.size)::iv) g∧¬ ∃u∈rv,u.ownBlock=some g)∧v.ownBlock≠some g) v n qs∧∀g,v.ownBlock=some g->Cv FF B ((w'.heap.size,w2.heap.size)::iv) g∧w'.heap.size<=g:=by
 have key:∀g,Cv FF w'.heap.size [(w'.heap.size,w2.heap.size)] g->w'.heap.size<=g∧g<w2.heap.size:=fun g hg=>by
  rcases hg with hg|⟨h1,lo,hi,h2,h3,h4⟩
  ·exact hg.elim
  ·simp at h2;obtain⟨rfl,rfl⟩:=h2;exact⟨h3,h4⟩
 have hB:=r.cG;have RF:∀g,w'.heap.size<=g∧g<w2.heap.size->Cv FF B ((w'.heap.size,w2.heap.size)::iv) g:=fun g hg=>.inr ⟨by omega,_,_,aG,hg.1,hg.2⟩;refine⟨hx.row.cL fun g hg=>⟨⟨RF g (key g hg.1),fun⟨u,hu,e⟩=>?_⟩,hg.2⟩,fun g hg=>⟨RF g (key g (hx.new g hg)),(key g (hx.new g hg)).1⟩⟩;have:=Rel.old r hS g (UU u hu g e);have:=(key g hg.1).1;omega
structure qq(w:World)(B:Nat)(iv:Iv)(rv:List Value)(v:Value)(n:Nat)(qs:List Rat):Prop where
 row:jo w (fun g=>(Cv FF B iv g∧¬ ∃u∈rv,u.ownBlock=some g)∧v.ownBlock≠some g) v n qs
 vH:∀g,v.ownBlock=some g->Cv FF B iv g
section
variable{H:Hp}{nx n:Nat}{iv iv':Iv}{B:Nat}{w w' w2:World}{O:Nat->Sx.dw}{v:Value}{qs:List Rat}{rv:List Value}
theorem qq.cJ(h:qq w B iv rv v n qs)(hk:∀g,Cv FF B iv g->w2.heap[g]? =w.heap[g]?):qq w2 B iv rv v n qs:=
 ⟨h.row.cJ fun g hg=>hk g (hg.elim (fun h=>h.1.1) (h.vH g)),h.vH⟩
theorem qq.rel(h:qq w B iv rv v n qs)(r:Rel H nx iv B w O w'):qq w' B iv rv v n qs:=h.cJ fun _ hg=>Rel.same r (gq B) hg
theorem qq.cK(h:qq w B iv rv v n qs)(r:Rel H nx iv B w O w')(he:Ext w' w2)(hm:∀p,p∈iv->p∈iv'):qq w2 B iv' rv v n qs:=
 have h2:=(h.rel r).cJ fun g hg=>he.block g (Rel.old r (gq B) g hg)
 ⟨h2.row.cL fun _ hg=>⟨⟨hg.1.1.mono hm,hg.1.2⟩,hg.2⟩,fun g hg=>(h2.vH g hg).mono hm⟩
theorem cZ.lim(h:cZ w2 (Nf w' w2) u q)(r:Rel H nx iv B w O w')(UU:∀u∈rv,∀g,u.ownBlock=some g->Cv FF B iv g):
  cZ w2 (fun g=>Cv FF B ((w'.heap.size,w2.heap.size)::iv) g∧¬ ∃u∈rv,u.ownBlock=some g) u q:=
 h.cL fun g hg=>by
  rcases hg with hg|hg
  ·exact hg.elim
  ·refine⟨.inr ⟨by have:=r.cG;omega,_,_,aG,hg.1,hg.2⟩,fun⟨u,hu,e⟩=>?_⟩;have:=Rel.old r (gq B) g (UU u hu g e);omega
end
theorem Jo{C:Nat->Prop}{va x:Value}{g2:Nat}{b b2:Bool}{a a2:Option Addr}{m c m2 c2:Nat}{rs xs:List Rat}(hC:Old C w)(hS:Old S w)
  (ha:iR w C 1 va [u,.slice (some ⟨g2,0,none⟩) 1 1,x] 3) (hb:iR w C 4 (.slice (some ⟨g2,0,none⟩) 1 1) [.bool b,.slice a m c,.bool b2,.slice a2 m2 c2] 1) (hr:fU w C S u rs) (hx:fU w C S x xs)
  (hq:cZ w S (.agg #[.bool b,.slice a m c,.bool b2,.slice a2 m2 c2]) q) (hl:rs.length+1+xs.length<=1000000):
  eG PG N.eO #[va] w (eL w fun v w2=>jo w2 S v (rs.length+1+xs.length) (rs++q::xs)∧∀g,v.ownBlock=some g->w.heap.size<=g∧g<w2.heap.size):=by
 obtain⟨c1,s1,f1⟩:=hr;obtain⟨c2',s2,f2⟩:=hx;refine(Jn (parts:=[(u,c1.flatten,rs.length),(.slice (some ⟨g2,0,none⟩) 1 1,[.bool b,.slice a m c,.bool b2,.slice a2 m2 c2],1),(x,c2'.flatten,xs.length)]) hC ha ?_ (by simp[nm];omega)).mono fun e w2 ⟨v,e1,e2,e3⟩=>⟨v,e1,e2,?_,fun g hg=>?_⟩
 ·intro p hp;simp only[List.mem_cons,List.not_mem_nil,or_false]at hp;rcases hp with rfl|rfl|rfl
  ·exact s1
  ·exact hb
  ·exact s2
 ·have hn:nm [(u,c1.flatten,rs.length),(Value.slice (some ⟨g2,0,none⟩) 1 1,[Value.bool b,.slice a m c,.bool b2,.slice a2 m2 c2],1),(x,c2'.flatten,xs.length)]=rs.length+1+xs.length:=by simp[nm];omega
  rw[hn]at e3;have PA:List.flatMap (fun x=>x.2.1) [(u,c1.flatten,rs.length),(Value.slice (some ⟨g2,0,none⟩) 1 1,[Value.bool b,.slice a m c,.bool b2,.slice a2 m2 c2],1),(x,c2'.flatten,xs.length)]=(c1++[Value.bool b,.slice a m c,.bool b2,.slice a2 m2 c2]::c2').flatten:=by simp
  rw[PA]at e3;refine⟨_,⟨e3.1,e3.2.imp id fun⟨g,cap,cur,k1,_,k3⟩=>⟨g,cap,cur,k1,aR _,k3⟩⟩,by simp[f1.1,f2.1];omega,?_⟩;have hk:∀g,S g->w2.heap[g]? =w.heap[g]? :=fun g hg=>e2.block g (hS g hg);refine⟨by simp[f1.1,f2.1],fun j cs p h1 h2=>?_⟩;rcases cA j c1.length with hj|hj|hj
  ·rw[aK hj]at h1;rw[aK (by rw[<-f1.1];exact hj)]at h2;exact(f1.2 j cs p h1 h2).cJ hk
  ·subst hj;rw[aO (Nat.le_refl _),bK]at h1;rw[f1.1,aO (Nat.le_refl _),bK]at h2;simp at h1 h2;subst h1 h2;exact(hq.cJ hk).four
  ·rw[aO (by omega)]at h1;rw[aO (by rw[<-f1.1];omega),<-f1.1]at h2;obtain⟨k,TG⟩:∃k,j-c1.length=k+1:=⟨j-c1.length-1,by omega⟩
   rw[TG]at h1 h2;simp at h1 h2;exact(f2.2 k cs p h1 h2).cJ hk
 ·have:=ownsRow.low e3 g hg;exact this
theorem Nd{M:List (List (Int×Int))}(hS:Old S w)(h:eI w S v M)(hu:eP w S u b)(hf:∀r∈M,Few r)(RJ:Few b)(OV:∀r∈M,r.length=dg M)(PQ:b.length=M.length)
  (hn:dg M<=1000) (hR:M.length<=1000) (VV:Ht (fH (kH M) (b.map ec)) h0) (h2:2<=h0) (Ow:4^M.length*h0<=500000000):
  eG PG N.xO #[v,u] w (eL w fun v' w2=>∃A pv,(A,pv)=cN (fH (kH M) (b.map ec)) (dg M)∧
   ((∃j vp,pv.length<=j∧j<M.length∧dK A j (dg M)≠0∧(∀k,pv.length<=k->k<j->dK A k (dg M)=0)∧v'= .agg #[vp,.slice none 0 0,.slice none 0 0]∧(∃a n c,vp= .slice (some a) n c)∧
     fU w2 (Nf w w2) (Nf w w2) vp (((A.getD j []).drop (dg M+1)).map (· *(1 / dK A j (dg M)))))∨
    (∃vx vk,(∀k,pv.length<=k->k<M.length->dK A k (dg M)=0)∧v'= .agg #[.slice none 0 0,vx,vk]∧fU w2 (Nf w w2) (Nf w w2) vx (fD A pv (dg M) pv.length)∧
     fg w2 (Nf w w2) vk (dP A pv (dg M) (dg M))))):=by
 replace h:=eI.arg h [];replace hu:=eP.arg hu [];obtain⟨am,cm,rfl,Rt,-⟩:=cd.shape h;obtain⟨ab,cb,rfl,QT,-⟩:=dO.shape hu;obtain⟨cols,Pw⟩:∃c,c=dg M:=⟨_,rfl⟩
 rw[<-Pw]at OV hn ⊢;refine Ab (by simp) ?_;conv=>whnf
 refine cH (cM (Φ:=fun _ _ v _=>v= .int .i64 cols) (fun O w' r=>by rw[Pw];exact wT (Rel.old r hS) (eI.rel h r hS)) ?_);rintro O wa v1 wb r he hw rfl;replace h:=eI.cK (iv':=(wa.heap.size,wb.heap.size)::[]) h r hS he fun x hx=>aC _ hx;replace hu:=eP.cK (iv':=(wa.heap.size,wb.heap.size)::[]) hu r hS he fun x hx=>aC _ hx;clear r he;generalize (wa.heap.size,wb.heap.size)::[]=iv at*
 conv=>whnf
 refine⟨M.length,M.length,rfl,rfl,Nat.le_refl _,by omega,by omega,?_⟩;conv=>whnf
 refine cH (cM (Φ:=fun _ w' v w2=>H5 w2 FF w'.heap.size [(w'.heap.size,w2.heap.size)] v cols (kH M)) (fun O w' r=>ML (Rel.old r hS) (eI.rel h r hS) hf OV (by omega) (by omega)) ?_);rintro O wc v1 wd r he hb hX;have SW:=(hX.dF (S:=FF) (iv:=(wc.heap.size,wd.heap.size)::iv) r.cG aG).read;replace h:=eI.cK (iv':=(wc.heap.size,wd.heap.size)::iv) h r hS he fun x hx=>aC _ hx;replace hu:=eP.cK (iv':=(wc.heap.size,wd.heap.size)::iv) hu r hS he fun x hx=>aC _ hx;replace hw:=hw.tr hb;clear r he hb hX;generalize (wc.heap.size,wd.heap.size)::iv=ivM at*
 obtain⟨at_,ct,rfl,hct,-⟩:=cd.shape SW;rw[aL]at hct SW ⊢;conv=>whnf
 refine⟨List Value×Iv×World,fun z=>⟨[(0,sV am M.length cm),(1,sV ab b.length cb),(4,pP 0 0),(5,iZ cols),(6,.o (.s 1 0 M.length M.length)),(23,sV at_ M.length ct),(24,iZ M.length),(25,iZ z.1.length)],
   [(1,.arr T.row (z.1++List.replicate (M.length-z.1.length) (.slice none 0 0))),(0,.box T.solved [.v (.slice none 0 0),.v (.slice none 0 0),.v (.slice none 0 0)])],2,z.2.1,z.2.2⟩,fun z=>M.length-z.1.length,
  fun z=>z.1.length<=M.length∧dq w.heap.size w z.2.2∧(∀p,p∈ivM->p∈z.2.1)∧eI z.2.2 (Cv S w.heap.size ivM) (.slice am M.length cm) M∧eP z.2.2 (Cv S w.heap.size ivM) (.slice ab b.length cb) b∧
   fg z.2.2 (Cf w ivM) (.slice at_ M.length ct) (kH M)∧
   iV z.2.2 FF w.heap.size z.2.1 z.1 (cols+1+M.length) ((fH (kH M) (b.map ec)).take z.1.length)∧(∀u∈z.1,u.oneCell'=true)∧(∀u∈z.1,∀g,u.ownBlock=some g->¬Cf w ivM g),?_,?_⟩
 ·intro O w' r
  exact⟨([],ivM,w'),⟨by simp,hw.tr r.cU,fun p hp=>hp,eI.rel h r hS,eP.rel hu r hS,fg.rel SW r (cF w),by simpa using iV.nil _ _ _ _ _,by simp,by simp⟩,
   Sub.gn [] r⟩
 clear h hu SW hw;rintro⟨rv,Og,w1⟩ ⟨Pm,hw,OW,h,hu,SW,Ol,h1c,Wz⟩;dsimp only at Pm hw OW h hu SW Ol h1c Wz ⊢;have hlA:(fH (kH M) (b.map ec)).length=M.length:=by rw[kZ,aL]
 conv=>whnf
 refine dN.mk ?_ ?_<;>intro hi
 ·have hi:rv.length<M.length:=by simpa using hi
  obtain⟨mr,hmr⟩:∃x,M[rv.length]? =some x:=⟨_,aA hi⟩
  obtain⟨bx,SN⟩:∃x,b[rv.length]? =some x:=⟨_,aA (by omega)⟩
  have hmrl:=OV mr (aD hmr);obtain⟨ad,ur,rfl,RX,kt1,kt2⟩:=cd.load SW (j:=rv.length) (x:=mr.map ec) (by rw[aM,hmr];rfl);obtain⟨au,cu,hue⟩:=cd.rowOf RX;rw[aL,hmrl]at hue;subst hue;have Od:∀{H nx iv O wx w'},(∀p,p∈ivM->p∈iv)->Rel H nx iv w.heap.size wx O w'->∀{X:Nat->Prop},(∀g,X g->g<w.heap.size)->∀g,Cv X w.heap.size ivM g->w'.heap[g]? =wx.heap[g]? :=by
   intro H nx iv O wx w' hm r X hX g hg;exact Rel.same r hX (hg.mono hm)
  conv=>whnf
  refine⟨ad,rfl,by omega,?_⟩;conv=>whnf
  refine⟨.slice au cols cu,fun O w' r=>?_,?_⟩
  ·rw[aF,cI (w:=w1) (w2:=w') (by rw[dC];exact Od OW r (cF w) _ kt1)];exact kt2
  conv=>whnf
  refine cH (cM (Φ:=fun _ w' v w2=>kC w2 FF w'.heap.size [(w'.heap.size,w2.heap.size)] v M.length (List.replicate M.length 0)) (fun O w' r=>EF M.length w' (by omega)) ?_);rintro O wa vx wb r he hb hx;have hU0:=hx.lim (rv:=rv) r (fun u hu g hg=>EP (Ol.new u hu g hg)) (cF w);have hU:qq wb w.heap.size ((wa.heap.size,wb.heap.size)::Og) rv vx M.length (List.replicate M.length 0):=⟨hU0.1,fun g hg=>(hU0.2 g hg).1⟩
  have XZ:∀g,Cf w ivM g->g<wa.heap.size:=fun g hg=>Rel.old r (cF w) g (hg.mono OW);have hgxr:∀g,vx.ownBlock=some g->∀u∈rv,u.ownBlock≠some g:=fun g hg u hu e=>by have:=Rel.old r (cF w) g (Ol.new u hu g e);have:=(hU0.2 g hg).2;omega
  have Vm:∀g,vx.ownBlock=some g->¬Cf w ivM g:=fun g hg h=>by have:=XZ g h;have:=(hU0.2 g hg).2;omega
  replace h:=eI.cJ h fun g hg=>by rw[he.block g (Rel.old r hS g (hg.mono OW)),Od OW r hS g hg]
  replace hu:=eP.cJ hu fun g hg=>by rw[he.block g (Rel.old r hS g (hg.mono OW)),Od OW r hS g hg]
  replace SW:=fg.cJ SW fun g hg=>by rw[he.block g (Rel.old r (cF w) g (hg.mono OW)),Od OW r (cF w) g hg]
  replace RX:=RX.cJ fun g hg=>by rw[he.block g (Rel.old r (cF w) g ((hg.elim id id).mono OW)),Od OW r (cF w) g (hg.elim id id)]
  have hvx1:∀g,vx.ownBlock=some g->¬Cf w Og g:=fun g hg h=>by have:=Rel.old r (cF w) g h;have:=(hU0.2 g hg).2;omega
  replace Ol:=Ol.cJ fun g hg=>by rw[he.block g (Rel.old r (cF w) g hg),Rel.same r (cF w) hg]
  have Ph:∀p,p∈Og->p∈(wa.heap.size,wb.heap.size)::Og:=fun p hp=>aC _ hp;replace hw:=hw.tr hb;replace OW:∀p,p∈ivM->p∈(wa.heap.size,wb.heap.size)::Og:=fun p hp=>aC _ (OW p hp);clear r he hb hx hU0 XZ;generalize (wa.heap.size,wb.heap.size)::Og=OX at*
  obtain⟨ax,cx,rfl,-⟩:=hU.row.form;conv=>whnf
  refine cH (cM (Φ:=fun _ w' v w2=>cZ w2 (Nf w' w2) v ((1:Int):Rat)) (fun O w' r=>rP 1 w' (by decide) (by decide)) ?_);rintro O wa v1 wb r he hb hO;have QV:=(hO.lim (rv:=rv) r fun u hu g hg=>(Ol.new u hu g hg).mono Ph)
  have XA:cZ wb (fun g=>(Cf w ((wa.heap.size,wb.heap.size)::OX) g∧¬ ∃u∈rv,u.ownBlock=some g)∧(Value.slice ax M.length cx).ownBlock≠some g) v1 ((1:Int):Rat):=by
   have h1:=hO.apart (S':=fun _=>False) (iv:=OX) (v:=Value.slice ax M.length cx) (fun g hg=>⟨Rel.old r (cF w) g (hU.vH g hg),fun h=>h⟩) r.cG fun g hg=>hg;obtain⟨nv,dv,h3,h4,h5⟩:=QV;obtain⟨nv',dv',h3',h4',h5'⟩:=hO;rw[h3]at h3';injection h3' with h3';simp at h3';obtain⟨rfl,rfl⟩:=h3';have RY:∀g,Nf wa wb g->((Cf w ((wa.heap.size,wb.heap.size)::OX) g∧¬ ∃u∈rv,u.ownBlock=some g)∧(Value.slice ax M.length cx).ownBlock≠some g):=fun g hg=>by
    rcases hg with hg|hg
    ·exact hg.elim
    ·refine⟨⟨.inr ⟨by have:=r.cG;omega,_,_,aG,hg.1,hg.2⟩,fun⟨u,hu,e⟩=>?_⟩,fun e=>?_⟩
     ·have:=Rel.old r (cF w) g ((Ol.new u hu g e).mono Ph);omega
     ·have:=Rel.old r (cF w) g (hU.vH g e);omega
   exact⟨nv,dv,h3,h4'.cL RY,h5'.cL RY⟩
  replace h:=eI.cJ h fun g hg=>by rw[he.block g (Rel.old r hS g (hg.mono OW)),Od OW r hS g hg]
  replace hu:=eP.cJ hu fun g hg=>by rw[he.block g (Rel.old r hS g (hg.mono OW)),Od OW r hS g hg]
  replace SW:=fg.cJ SW fun g hg=>by rw[he.block g (Rel.old r (cF w) g (hg.mono OW)),Od OW r (cF w) g hg]
  replace RX:=RX.cJ fun g hg=>by rw[he.block g (Rel.old r (cF w) g ((hg.elim id id).mono OW)),Od OW r (cF w) g (hg.elim id id)]
  replace Ol:=Ol.cJ fun g hg=>by rw[he.block g (Rel.old r (cF w) g (hg.mono Ph)),Rel.same r (cF w) (hg.mono Ph)]
  replace Ph:∀p,p∈Og->p∈(wa.heap.size,wb.heap.size)::OX:=fun p hp=>aC _ (Ph p hp);replace hU:=hU.cK (iv':=(wa.heap.size,wb.heap.size)::OX) r he fun x hx=>aC _ hx;replace hw:=hw.tr hb;replace OW:∀p,p∈ivM->p∈(wa.heap.size,wb.heap.size)::OX:=fun p hp=>aC _ (OW p hp);clear r he hb hO QV;generalize (wa.heap.size,wb.heap.size)::OX=Oh at*
  obtain⟨b1,a1,n1,c1,b2,a2,n2,c2,rfl⟩:=XA.shape;have Po:(((1:Int):Rat))=1:=rfl;rw[Po]at XA;conv=>whnf
  have Q3:∃g,ax=some ⟨g,0,none⟩:=by
   obtain⟨css,ho,_⟩:=hU.row;rcases ho.2 with⟨_,h0⟩|⟨g,cap,cur,e,_⟩
   ·omega
   ·injection e with e;exact⟨g,e⟩
  obtain⟨gx,rfl⟩:=Q3;refine⟨⟨gx,0,none⟩,rfl,by omega,?_⟩;conv=>whnf
  intro O w' r;have hUr:=hU.rel r;obtain⟨g',Q3,k1,k2,k3,k4⟩:=hUr.row.store hi (cZ.cJ XA fun g hg=>Rel.same r (cF w) hg.1.1) (fun g hg hx=>hx.2 hg) (fun x hx=>Rel.old r (cF w) x hx.1.1);injection Q3 with Q3;injection Q3 with Q3;subst Q3;have XB:=hU.vH gx rfl;have PR:=fun id b hb hn=>Rel.not r (cF w) XB id b hb hn;have S7:∀{X:Nat->Prop},(∀g,X g->g<w.heap.size)->∀g,Cv X w.heap.size Oh g->g<w'.heap.size:=by
   intro X hX g hg;exact Rel.old r hX g hg
  replace h:=eI.cJ h fun g hg=>Od OW r hS g hg;replace hu:=eP.cJ hu fun g hg=>Od OW r hS g hg;replace SW:=fg.cJ SW fun g hg=>Od OW r (cF w) g hg;replace RX:=RX.cJ fun g hg=>Od OW r (cF w) g (hg.elim id id);replace Ol:=Ol.cJ fun g hg=>Rel.same r (cF w) (hg.mono Ph);replace hw:=hw.tr r.cU;have hgxB:w.heap.size<=gx:=by
   rcases XB with h|⟨h,_⟩
   ·exact h.elim
   ·exact h
  have hgxrv:∀u∈rv,u.ownBlock≠some gx:=hgxr gx rfl;clear r hUr hU XA;refine⟨k1,k3,fun id b hb hn=>by rw[k2];exact PR id b hb hn,fun w2 Oz=>?_⟩;obtain⟨hU1,Ot,-⟩:=k4 w2 Oz;have hU:qq w2 w.heap.size Oh rv (.slice (some ⟨gx,0,none⟩) M.length cx) M.length (kY M.length rv.length):=⟨hU1,fun g hg=>by injection hg with hg;subst hg;exact XB⟩
  have Rj:∀g,g<w'.heap.size->g≠gx->w2.heap[g]? =w'.heap[g]? :=fun g hg OY=>Ot.block g hg fun e=>by injection e with e;exact OY e
  replace h:=eI.cJ h fun g hg=>Rj g (S7 hS g (hg.mono OW)) fun e=>by
   subst e;rcases hg with hg|⟨q1,lo,Qo,q2,q3⟩
   ·have:=hS g hg;omega
   ·exact Vm g rfl (.inr ⟨q1,lo,Qo,q2,q3⟩)
  replace hu:=eP.cJ hu fun g hg=>Rj g (S7 hS g (hg.mono OW)) fun e=>by
   subst e;rcases hg with hg|⟨q1,lo,Qo,q2,q3⟩
   ·have:=hS g hg;omega
   ·exact Vm g rfl (.inr ⟨q1,lo,Qo,q2,q3⟩)
  replace SW:=fg.cJ SW fun g hg=>Rj g (S7 (cF w) g (hg.mono OW)) fun e=>by subst e;exact Vm g rfl hg
  replace RX:=RX.cJ fun g hg=>Rj g (S7 (cF w) g ((hg.elim id id).mono OW)) fun e=>by subst e;exact Vm g rfl (hg.elim id id)
  replace Ol:=Ol.cJ fun g hg=>Rj g (S7 (cF w) g (hg.mono Ph)) fun e=>by subst e;exact hvx1 g rfl hg
  replace hw:dq w.heap.size w w2:=hw.tr (dq.grown Ot (fun g hg=>by injection hg with hg;subst hg;exact hgxB) (by have:=hw.size;omega));clear k1 k2 k3 k4 hU1 Ot Rj PR Oz S7;obtain⟨adb,csb,rfl,hRb,-,PT⟩:=dO.load hu SN;obtain⟨b3,a3,n3,c3,b4,a4,n4,c4,rfl,hRb⟩:=hRb;obtain⟨fb1,fb2⟩:=RJ bx (aD SN);conv=>whnf
  refine⟨adb,rfl,by omega,?_⟩;conv=>whnf
  refine⟨[.bool b3,.slice a3 n3 c3,.bool b4,.slice a4 n4 c4],rfl,fun O w' r j x hx=>?_,?_⟩
  ·obtain⟨q1,q2⟩:=PT j x hx;rw[aF,cI (w:=w2) (w2:=w') (by rw[dC,dC];exact Od OW r hS _ q1)];exact q2
  conv=>whnf
  refine cH (cM (Φ:=fun _ w' v w2=>cZ w2 (Nf w' w2) v (ec bx)) (fun O w' r=>ja (Rel.old r hS) (iP.cJ (iP.cL hRb fun g hg=>hg.mono OW) fun g hg=>Rel.same r hS hg) (by omega) (by omega)) ?_);rintro O wa v1 Qh r he hb hO;have hQ:=(hO.lim (rv:=rv) r fun u hu g hg=>(Ol.new u hu g hg).mono Ph)
  replace h:=eI.cJ h fun g hg=>by rw[he.block g (Rel.old r hS g (hg.mono OW)),Od OW r hS g hg]
  replace hu:=eP.cJ hu fun g hg=>by rw[he.block g (Rel.old r hS g (hg.mono OW)),Od OW r hS g hg]
  replace SW:=fg.cJ SW fun g hg=>by rw[he.block g (Rel.old r (cF w) g (hg.mono OW)),Od OW r (cF w) g hg]
  replace RX:=RX.cJ fun g hg=>by rw[he.block g (Rel.old r (cF w) g ((hg.elim id id).mono OW)),Od OW r (cF w) g (hg.elim id id)]
  replace Ol:=Ol.cJ fun g hg=>by rw[he.block g (Rel.old r (cF w) g (hg.mono Ph)),Rel.same r (cF w) (hg.mono Ph)]
  replace hU:=hU.cK (iv':=(wa.heap.size,Qh.heap.size)::Oh) r he fun x hx=>aC _ hx;replace hw:=hw.tr hb;replace OW:∀p,p∈ivM->p∈(wa.heap.size,Qh.heap.size)::Oh:=fun p hp=>aC _ (OW p hp);replace Ph:∀p,p∈Og->p∈(wa.heap.size,Qh.heap.size)::Oh:=fun p hp=>aC _ (Ph p hp);clear r he hb hO hRb PT XB;generalize (wa.heap.size,Qh.heap.size)::Oh=On at*
  obtain⟨b5,a5,n5,c5,b6,a6,n6,c6,rfl⟩:=hQ.shape;conv=>whnf
  have WA:(mr.map ec).length=cols:=by rw[aL,hmrl]
  have hlu:(kY M.length rv.length).length=M.length:=by simp[kY]
  refine cH (cM (Φ:=fun _ w' v w2=>jo w2 (fun g=>Cf w On g∧¬ ∃u∈rv,u.ownBlock=some g) v (cols+1+M.length) (mr.map ec++ec bx::kY M.length rv.length)∧∀g,v.ownBlock=some g->w'.heap.size<=g∧g<w2.heap.size) (fun O w' r=>?_) ?_)
  ·have hb3:=r.wP (id:=3) (sz:=1) (n:=3) rfl rfl (by decide) (by intro u hu;simp at hu;rcases hu with rfl|rfl|rfl<;>rfl);have QW:=r.wP (id:=2) (sz:=4) (n:=1) rfl rfl (by decide) (by intro u hu;simp at hu;rcases hu with rfl|rfl|rfl|rfl<;>rfl);have hlow3:=r.low 3 _ rfl (r.nn 3 _ rfl (by intros;simp) (by simp));have hlow2:=r.low 2 _ rfl (r.nn 2 _ rfl (by intros;simp) (by simp));have hUr:=hU.rel r;have:=Jo (C:=fun g=>Cf w On g∨g=(O 2).g∨g=(O 3).g) (S:=fun g=>Cf w On g∧¬ ∃u∈rv,u.ownBlock=some g)
    (w:=w') (rs:=mr.map ec) (xs:=kY M.length rv.length) (q:=ec bx) (u:=.slice au cols cu) (x:=.slice (some ⟨gx,0,none⟩) M.length cx)
    (fun g hg=>by rcases hg with hg|rfl|rfl;exact Rel.old r (cF w) g hg;exact hlow2.2;exact hlow3.2) (fun g hg=>Rel.old r (cF w) g hg.1)
    (hb3.cL fun g hg=>.inr (.inr hg)) (QW.cL fun g hg=>.inr (.inl hg))
    ((RX.cJ fun g hg=>Od OW r (cF w) g (hg.elim id id)).cL (fun g hg=>.inl (hg.mono OW)) fun g hg=>⟨hg.mono OW,fun⟨u,hu,e⟩=>Wz u hu g e hg⟩)
    (hUr.row.read.cL (fun g hg=>.inl (hUr.vH g hg)) fun g hg=>hg.1) (cZ.cJ hQ fun g hg=>Rel.same r (cF w) hg.1) (by rw[WA,hlu];omega)
   rw[WA,hlu]at this;exact this
  rintro O wa vn wb r he hb ⟨Vn,PL⟩;have hB:=r.cG;have Rv:iV wb FF w.heap.size ((wa.heap.size,wb.heap.size)::On) (rv++[vn]) (cols+1+M.length) ((fH (kH M) (b.map ec)).take (rv.length+1)):=by
   have h4:iV wb FF w.heap.size On rv (cols+1+M.length) ((fH (kH M) (b.map ec)).take rv.length):=
    ⟨Ol.len,fun i v qs h1 h2=>((Ol.row i v qs h1 h2).cJ fun g hg=>by
      have hg:Cf w Og g:=hg.elim (fun h=>h.1) fun hg=>Ol.new v (aD h1) g hg
      rw[he.block g (Rel.old r (cF w) g (hg.mono Ph)),Rel.same r (cF w) (hg.mono Ph)]).cL fun g hg=>⟨hg.1.mono Ph,hg.2⟩,Ol.uf,fun v hv g hg=>(Ol.new v hv g hg).mono Ph⟩
   have h5:iV Qh FF w.heap.size On rv (cols+1+M.length) ((fH (kH M) (b.map ec)).take rv.length):=
    ⟨Ol.len,fun i v qs h1 h2=>(Ol.row i v qs h1 h2).cL fun g hg=>⟨hg.1.mono Ph,hg.2⟩,Ol.uf,fun v hv g hg=>(Ol.new v hv g hg).mono Ph⟩
   have h6:=h5.snoc r (cF w) he (Vn.cL fun g hg=>⟨hg.1.mono fun p hp=>aC _ hp,fun e=>by have:=Rel.old r (cF w) g hg.1;have:=(PL g e).1;omega,hg.2⟩) PL;have h7:(fH (kH M) (b.map ec)).take (rv.length+1)=(fH (kH M) (b.map ec)).take rv.length++[mr.map ec++ec bx::kY M.length rv.length]:=by
    rw[List.take_add_one,Nc (r:=mr.map ec) (by rw[aM,hmr];rfl)];have:(b.map ec).getD rv.length 0=ec bx:=by rw[List.getD,aM,SN];rfl
    rw[this,aL];rfl
   rw[h7];exact h6
  have hvnM:∀g,vn.ownBlock=some g->¬Cf w ivM g:=fun g hg hm=>by
   have:=Rel.old r (cF w) g (hm.mono OW);have:=(PL g hg).1;omega
  replace h:=eI.cJ h fun g hg=>by rw[he.block g (Rel.old r hS g (hg.mono OW)),Od OW r hS g hg]
  replace hu:=eP.cJ hu fun g hg=>by rw[he.block g (Rel.old r hS g (hg.mono OW)),Od OW r hS g hg]
  replace SW:=fg.cJ SW fun g hg=>by rw[he.block g (Rel.old r (cF w) g (hg.mono OW)),Od OW r (cF w) g hg]
  replace hw:=hw.tr hb;replace OW:∀p,p∈ivM->p∈(wa.heap.size,wb.heap.size)::On:=fun p hp=>aC _ (OW p hp);obtain⟨an,cn,rfl,-⟩:=Vn.form;clear r he hb RX Ol hU hQ Vn PL hB hvx1 hgxr hgxrv Vm;generalize (wa.heap.size,wb.heap.size)::On=PN at*
  conv=>whnf
  refine⟨by omega,?_⟩;conv=>whnf
  refine⟨by simp;omega,(rv++[.slice an (cols+1+M.length) cn])++List.replicate (M.length-(rv.length+1)) (.slice none 0 0),?_,?_⟩
  ·have h5:M.length-rv.length=(M.length-(rv.length+1))+1:=by omega
   simp[h5,List.replicate_succ]
  conv=>whnf
  refine⟨((rv.length+1:Nat):Int),wo,?_⟩;conv=>whnf
  intro ρ3 w3 r3;have QL:(rv++[Value.slice an (cols+1+M.length) cn]).length=rv.length+1:=by simp
  refine⟨(rv++[.slice an (cols+1+M.length) cn],PN,w3),⟨by dsimp only;rw[QL];exact hi,hw.tr r3.cU,OW,eI.cJ h fun g hg=>Rel.same r3 hS (hg.mono OW),eP.cJ hu fun g hg=>Rel.same r3 hS (hg.mono OW),fg.cJ SW fun g hg=>Rel.same r3 (cF w) (hg.mono OW),?_,?_,?_⟩,
   Sub.gn [] r3 ⟨by dsimp only;rw[QL];rfl,rfl,trivial⟩ ⟨rfl,rfl,rfl,rfl,rfl,rfl,rfl,by dsimp only;rw[QL];rfl,trivial⟩,by dsimp only;rw[QL];omega⟩
  ·dsimp only
   rw[QL];exact Rv.rel r3 (cF w)
  ·intro u hu;rcases bE.1 hu with hu|hu
   ·exact h1c u hu
   ·simp at hu;subst hu;rfl
  ·intro u hu g hg;rcases bE.1 hu with hu|hu
   ·exact Wz u hu g hg
   ·simp at hu;subst hu;exact hvnM g hg
 ·have hi:rv.length=M.length:=by
   have:¬rv.length<M.length:=by simpa using hi
   omega
  rw[hi,show M.length-M.length=0 by omega,List.replicate_zero,List.append_nil];rw[hi,<-hlA,bF]at Ol;clear h hu SW Wz OW hf RJ PQ Rt QT hct;conv=>whnf
  obtain⟨TY,Pb,Qq,hAh⟩:=xC (cols:=cols) VV h2;rw[hlA]at Ol TY Pb;refine⟨fun O w' r=>?_⟩;have Vo:=r.nn 1 _ rfl (by intros;simp) (by simp);have hm:=Ol.mat r (cF w) (id:=1) rfl Vo (by unfold maxLen;omega) h1c;rw[hi]at hm;refine(MJ (fun g hg=>Rel.old r (cF w) g hg.1) hm (fun g hg=>hg.2) (by omega) (by omega) (show cols<=cols+1+M.length by omega) VV h2 (by rw[hlA];exact Ow)).mono fun e w2 he=>?_;obtain⟨vp,rv',rfl,hK,Rs,Sk,hP⟩:=he;obtain⟨A,pv,hApv⟩:∃A pv,(A,pv)=cN (fH (kH M) (b.map ec)) cols:=⟨_,_,rfl⟩
  rw[<-hApv]at TY Pb Qq hAh Rs hP;dsimp only at TY Pb Qq hAh Rs hP;have UJ:rv'.length=M.length:=by rw[Rs.len,TY]
  have QD:w2.heap[(O 1).g]? =some (.cells rv'.toArray T.row (0,0)):=by
   rcases Rs.out.2 with⟨h1,_⟩|⟨g,cap,cur,e,_,hg,_,_,PH,UK⟩
   ·cases h1
   ·injection e with e1 e2 e3;injection e1 with e1;injection e1 with e1;subst e1 e3;rw[hg,<-UK,UJ,aZ,List.take_of_length_le (by simp;omega)]
  have hIn:∀g,Mb (.slice (some ⟨(O 1).g,0,none⟩) M.length M.length) rv g->g=(O 1).g∨Cf w Og g:=fun g hg=>by
   rcases hg with hg|⟨x,hx,hg⟩
   ·injection hg with hg;exact .inl hg.symm
   ·exact .inr (Ol.new x hx g hg)
  refine⟨vp,[(1,.arr T.row rv'),(0,.box T.solved [.v (.slice none 0 0),.v (.slice none 0 0),.v (.slice none 0 0)])],(w'.heap.size,w2.heap.size)::Og,rfl,
   r.H7 (id:=1) rfl rfl (fun j hj=>by simp[dB,Ne.symm hj]) hK (fun g hg=>(hIn g hg).imp id fun hc=>fun j c hj hn=>Rel.not r (cF w) hc j c hj hn) QD,?_⟩
  have hB:=r.cG;have hT:∀g,Nw (fun g=>Cf w Og g∧¬Mb (.slice (some ⟨(O 1).g,0,none⟩) M.length M.length) rv g) w' w2 g->Cf w ((w'.heap.size,w2.heap.size)::Og) g:=fun g hg=>by
   rcases hg with hg|hg
   ·exact hg.1.mono fun p hp=>aC _ hp
   ·exact .inr ⟨by omega,_,_,aG,hg.1,hg.2⟩
  have Ql:∀(j:Nat) x qs,rv'[j]? =some x->A[j]? =some qs->fU w2 (Cf w ((w'.heap.size,w2.heap.size)::Og)) (Cf w ((w'.heap.size,w2.heap.size)::Og)) x qs∧qs.length=cols+1+M.length:=fun j x qs h1 h2=>by
   have h3:jo w2 _ x (cols+1+M.length) qs:=Rs.row j x qs h1 h2;refine⟨h3.read.cL (fun g hg=>?_) hT,h3.len⟩;have hxm:=aD h1;rcases hIn g ((Sk g).1 (.inr ⟨x,hxm,hg⟩))with e|hc
   ·subst e;exact absurd rfl (Rs.H4 x hxm _ hg)
   ·exact hc.mono fun p hp=>aC _ hp
  have Qp:dU w2 (Cf w ((w'.heap.size,w2.heap.size)::Og)) vp pv:=iR.cL hP fun g hg=>by
   rcases hg with hg|hg
   ·exact hg.elim
   ·exact .inr ⟨by omega,_,_,aG,hg.1,hg.2⟩
  replace hw:dq w.heap.size w w2:=(hw.tr r.cU).tr ⟨hK.os,hK.tape,hK.output,hK.size,fun k hk=>hK.block k (by have:=r.cG;omega) fun hx=>by
   rcases hIn k hx with e|hc
   ·have:=(r.low 1 _ rfl Vo).1;omega
   ·rcases hc with hc|⟨hc,_⟩
    ·exact hc
    ·omega⟩
  clear hm hK Rs Sk hP QD hIn hT Ol h1c Pm hB Vo r;generalize (w'.heap.size,w2.heap.size)::Og=OX at*
  obtain⟨apv,cpv,rfl,hcpv⟩:∃a c,vp= .slice a pv.length c∧pv.length<=c:=by
   obtain⟨-,-,-,a,c,e,h1,-⟩:=Qp;exact⟨a,c,e,h1⟩
  have Ui:Ht A 500000000:=hAh.mono (aX (Nat.mul_le_mul_right _ (Nat.pow_le_pow_right (by decide) Pb)) Ow);clear hAh VV Ow;conv=>whnf
  refine⟨⟨by omega,by omega,by omega⟩,(if M.length=pv.length then 0 else pv.length),M.length-pv.length,M.length-pv.length,?_,by omega,by omega,?_⟩
  ·split<;>split<;>omega
  have RT:pv.length<M.length->(if M.length=pv.length then 0 else pv.length)=pv.length:=fun h=>by rw[aJ (by omega)]
  generalize (if M.length=pv.length then 0 else pv.length)=off at*
  conv=>whnf
  refine⟨Nat×Iv×World,fun z=>⟨[(4,pP 0 0),(5,iZ cols),(6,.o (.s 1 0 M.length M.length)),(10,sV apv pv.length cpv),(57,.o (.s 1 off (M.length-pv.length) (M.length-pv.length))),(58,iN (M.length-pv.length)),(59,iZ z.1)],
    [(1,.arr T.row rv'),(0,.box T.solved [.v (.slice none 0 0),.v (.slice none 0 0),.v (.slice none 0 0)])],2,z.2.1,z.2.2⟩,fun z=>M.length-pv.length-z.1,
   fun z=>z.1<=M.length-pv.length∧dq w.heap.size w z.2.2∧(∀p,p∈OX->p∈z.2.1)∧dU z.2.2 (Cf w OX) (.slice apv pv.length cpv) pv∧
    (∀(j:Nat) x qs,rv'[j]? =some x->A[j]? =some qs->fU z.2.2 (Cf w OX) (Cf w OX) x qs∧qs.length=cols+1+M.length)∧(∀k,pv.length<=k->k<pv.length+z.1->dK A k cols=0),?_,?_⟩
  ·intro O w' r
   exact⟨(0,OX,w'),⟨by simp,hw.tr r.cU,fun p hp=>hp,dU.rel Qp r (cF w),fun j x qs h1 h2=>⟨(Ql j x qs h1 h2).1.rel r (cF w) (cF w),(Ql j x qs h1 h2).2⟩,fun k h1 h2=>by dsimp only at h2;omega⟩,
    Sub.gn [] r⟩
  clear hw Ql Qp;rintro⟨j,Oh,w3⟩ ⟨hj,hw,OW,Qp,Ql,hz⟩;dsimp only at hj hw OW Qp Ql hz ⊢;have Od:∀{H nx iv O wx w'},(∀p,p∈OX->p∈iv)->Rel H nx iv w.heap.size wx O w'->∀g,Cf w OX g->w'.heap[g]? =wx.heap[g]? :=by
   intro H nx iv O wx w' hm r g hg;exact Rel.same r (cF w) (hg.mono hm)
  conv=>whnf
  refine dN.mk ?_ ?_<;>intro Pt
  ·have Pt:j<M.length-pv.length:=by
    have:=aI Pt;omega
   have RT:=RT (by omega);subst RT;obtain⟨xr,Sn⟩:∃x,rv'[pv.length+j]? =some x:=⟨_,aA (by omega)⟩
   obtain⟨qs,WD⟩:∃x,A[pv.length+j]? =some x:=⟨_,aA (by omega)⟩
   obtain⟨RX,SJ⟩:=Ql _ xr qs Sn WD;obtain⟨axr,cxr,hxe,hxc,-⟩:=RX.shape;rw[SJ]at hxe hxc;subst hxe;obtain⟨q,hq⟩:∃q,qs[cols]? =some q:=⟨_,aA (by omega)⟩
   have Pp:dK A (pv.length+j) cols=q:=by
    have:A.getD (pv.length+j) []=qs:=by rw[List.getD,WD];rfl
    rw[dK,this,List.getD,hq];rfl
   obtain⟨adq,cs,rfl,hF,hl⟩:=RX.load hq;obtain⟨b3,a3,n3,c3,b4,a4,n4,c4,rfl,hF⟩:=hF;conv=>whnf
   refine⟨by omega,?_⟩;conv=>whnf
   refine⟨.slice (some adq) (cols+1+M.length) cxr,by simpa using Sn,?_⟩;conv=>whnf
   refine⟨adq,rfl,by omega,?_⟩;conv=>whnf
   refine⟨[.bool b3,.slice a3 n3 c3,.bool b4,.slice a4 n4 c4],rfl,fun O w' r i x hx=>?_,?_⟩
   ·obtain⟨k1,k2⟩:=hl i x hx;rw[aF,cI (w:=w3) (w2:=w') (by rw[dC,dC];exact Od OW r _ k1)];exact k2
   conv=>whnf
   refine cH (cM (Φ:=fun _ _ v _=>v= .int .i64 (rs q)) (fun O w' r=>uy (fun g hg=>Rel.old r (cF w) g (hg.mono OW)) (cZ.cJ hF fun g hg=>Od OW r g hg)) ?_);rintro O wa v1 wb r he hb rfl;have Of:∀g,Cf w OX g->wb.heap[g]? =w3.heap[g]? :=fun g hg=>by rw[he.block g (Rel.old r (cF w) g (hg.mono OW)),Od OW r g hg]
   replace Qp:=dU.cJ Qp Of;replace Ql:∀(j:Nat) x qs,rv'[j]? =some x->A[j]? =some qs->fU wb (Cf w OX) (Cf w OX) x qs∧qs.length=cols+1+M.length:=fun j x qs h1 h2=>⟨(Ql j x qs h1 h2).1.cJ fun g hg=>Of g (hg.elim id id),(Ql j x qs h1 h2).2⟩
   replace hF:=cZ.cJ hF Of;replace RX:=RX.cJ fun g hg=>Of g (hg.elim id id)
   replace hl:∀k u,[Value.bool b3,.slice a3 n3 c3,.bool b4,.slice a4 n4 c4][k]? =some u->Cf w OX adq.block∧wb.cell? ((adq.add (cols*4)).add k)=some u:=fun k u hu=>⟨(hl k u hu).1,by
    rw[cI (w:=w3) (w2:=wb) (by rw[dC,dC];exact Of _ (hl k u hu).1)]
    exact(hl k u hu).2⟩
   replace hw:=hw.tr hb;replace OW:∀p,p∈OX->p∈(wa.heap.size,wb.heap.size)::Oh:=fun p hp=>aC _ (OW p hp);clear r he hb Of;generalize (wa.heap.size,wb.heap.size)::Oh=On at*
   conv=>whnf
   refine dN.mk ?_ ?_<;>intro h0
   ·have h0:q≠0:=fun e=>by rw[e]at h0;exact absurd h0 (by decide)
    have hqsd:A.getD (pv.length+j) []=qs:=by rw[List.getD,WD];rfl
    have hqA:=Ui.at WD;have Wc:=hqA q (aD hq);have Rd:=RX.from (k:=cols+1) (by omega);have S3:(qs.drop (cols+1)).length=M.length:=by rw[List.length_drop,SJ];omega
    rw[show cols+1+M.length-(cols+1)=M.length by omega]at Rd;conv=>whnf
    refine⟨((cols+1:Nat):Int),wo,?_⟩;conv=>whnf
    refine⟨⟨by omega,by omega,by omega⟩,(if (cxr:Int)=((cols+1:Nat):Int)then some adq else(some adq).map (·.add ((cols+1)*4))),M.length,cxr-(cols+1),rfl,by omega,by omega,?_⟩;generalize (if (cxr:Int)=((cols+1:Nat):Int)then some adq else(some adq).map (·.add ((cols+1)*4)))=adp at*
    conv=>whnf
    refine cH (cM (Φ:=fun _ w' v w2=>jo w2 (Cf w OX) v M.length (qs.drop (cols+1))∧∀g,v.ownBlock=some g->w'.heap.size<=g∧g<w2.heap.size) (fun O w' r=>?_) ?_)
    ·have:=MN (w:=w') (fun g hg=>Rel.old r (cF w) g (hg.mono OW)) (fun g hg=>Rel.old r (cF w) g (hg.mono OW)) (Rd.cJ fun g hg=>Od OW r g (hg.elim id id)) (by rw[S3];omega) (by rw[S3];omega);rw[S3]at this;exact this
    rintro O wa v1 wb' r he hb ⟨hP,TM⟩;have hpT:∀g,v1.ownBlock=some g->¬Cf w OX g:=fun g hg h=>by have:=Rel.old r (cF w) g (h.mono OW);have:=(TM g hg).1;omega
    have Uv:∀g,v1.ownBlock=some g->Cf w ((wa.heap.size,wb'.heap.size)::On) g:=fun g hg=>.inr ⟨by have:=(TM g hg).1;have:=r.cG;omega,_,_,aG,(TM g hg).1,(TM g hg).2⟩;have Of:∀g,Cf w OX g->wb'.heap[g]? =wb.heap[g]? :=fun g hg=>by rw[he.block g (Rel.old r (cF w) g (hg.mono OW)),Od OW r g hg]
    replace hF:=cZ.cJ hF Of
    replace hl:∀k u,[Value.bool b3,.slice a3 n3 c3,.bool b4,.slice a4 n4 c4][k]? =some u->Cf w OX adq.block∧wb'.cell? ((adq.add (cols*4)).add k)=some u:=fun k u hu=>⟨(hl k u hu).1,by
     rw[cI (w:=wb) (w2:=wb') (by rw[dC,dC];exact Of _ (hl k u hu).1)]
     exact(hl k u hu).2⟩
    replace hw:=hw.tr hb;replace OW:∀p,p∈OX->p∈(wa.heap.size,wb'.heap.size)::On:=fun p hp=>aC _ (OW p hp);clear r he hb Of Rd RX Qp Ql TM;generalize (wa.heap.size,wb'.heap.size)::On=PN at*
    obtain⟨ap',cp',rfl,-⟩:=hP.form;conv=>whnf
    refine cQ hτ dx [.x 0,.x 2,.x 3,.x 4,.x 5,.x 1,.x 6,.x 7] (by kernel_rfl) (by kernel_rfl) ?_;conv=>whnf
    refine⟨adq,rfl,by omega,?_⟩;conv=>whnf
    refine⟨[.bool b3,.slice a3 n3 c3,.bool b4,.slice a4 n4 c4],rfl,fun O w' r i x hx=>?_,?_⟩
    ·obtain⟨k1,k2⟩:=hl i x hx;rw[aF,cI (w:=wb') (w2:=w') (by rw[dC,dC];exact Od OW r _ k1)];exact k2
    conv=>whnf
    refine cM (Φ:=fun _ w' v w2=>cZ w2 (Nf w' w2) v (((1:Int):Rat))) (fun O w' r=>rP 1 w' (by decide) (by decide)) ?_;rintro O wa v1 wc r he PQ hO;have QV:=hO.dF (S:=FF) r.cG (iv:=(wa.heap.size,wc.heap.size)::PN) aG;have Of:∀g,Cf w PN g->wc.heap[g]? =wb'.heap[g]? :=fun g hg=>by rw[he.block g (Rel.old r (cF w) g hg),Rel.same r (cF w) hg]
    replace hF:=cZ.cJ hF fun g hg=>Of g (hg.mono OW);replace hP:=hP.cJ fun g hg=>Of g (hg.elim (fun h=>h.mono OW) (Uv g));replace hw:=hw.tr PQ;replace OW:∀p,p∈OX->p∈(wa.heap.size,wc.heap.size)::PN:=fun p hp=>aC _ (OW p hp);replace Uv:∀g,(Value.slice ap' M.length cp').ownBlock=some g->Cf w ((wa.heap.size,wc.heap.size)::PN) g:=fun g hg=>(Uv g hg).cons;clear r he PQ hO hl Of;generalize (wa.heap.size,wc.heap.size)::PN=RI at*
    obtain⟨b5,a5,n5,c5,b6,a6,n6,c6,rfl⟩:=QV.shape;have Po:(((1:Int):Rat))=1:=rfl;rw[Po]at QV;conv=>whnf
    refine cM (Φ:=fun _ w' v w2=>cZ w2 (Nf w' w2) v (1 / q)) (fun O w' r=>MA (Rel.old r (cF w)) (QV.rel r (cF w)) (cZ.cL (cZ.cJ hF fun g hg=>Od OW r g hg) fun g hg=>hg.mono OW) (by decide) (by omega) h0) ?_;rintro O wa v1 wd r he PQ hO;have VL:=hO.dF (S:=FF) r.cG (iv:=(wa.heap.size,wd.heap.size)::RI) aG;have hQp:∀g,Nf wa wd g->(Value.slice ap' M.length cp').ownBlock≠some g:=fun g hg e=>by
     rcases hg with hg|hg
     ·exact hg.elim
     ·have:=Rel.old r (cF w) g (Uv g e);omega
    have hQ2:cZ wd (fun g=>Cf w ((wa.heap.size,wd.heap.size)::RI) g∧(Value.slice ap' M.length cp').ownBlock≠some g) v1 (1 / q):=hO.cL fun g hg=>⟨hg.dF r.cG aG,hQp g hg⟩
    have Of:∀g,Cf w RI g->wd.heap[g]? =wc.heap[g]? :=fun g hg=>by rw[he.block g (Rel.old r (cF w) g hg),Rel.same r (cF w) hg]
    replace hP:=hP.cJ fun g hg=>Of g (hg.elim (fun h=>h.mono OW) (Uv g));replace hw:=hw.tr PQ;replace OW:∀p,p∈OX->p∈(wa.heap.size,wd.heap.size)::RI:=fun p hp=>aC _ (OW p hp);replace Uv:∀g,(Value.slice ap' M.length cp').ownBlock=some g->Cf w ((wa.heap.size,wd.heap.size)::RI) g:=fun g hg=>(Uv g hg).cons;clear r he PQ hO hF QV Of hQp;generalize (wa.heap.size,wd.heap.size)::RI=RR at*
    obtain⟨b7,a7,n7,c7,b8,a8,n8,c8,rfl⟩:=VL.shape;have hinv:=zx h0;conv=>whnf
    refine⟨fun O w' r=>?_⟩;have Wo:=(hP.cJ (w2:=w') fun g hg=>Rel.same r (cF w) (hg.elim (fun h=>h.mono OW) (Uv g))).cL (S':=fun g=>Cf w RR g∧(Value.slice ap' M.length cp').ownBlock≠some g) fun g hg=>⟨hg.mono OW,fun e=>hpT g e hg⟩
    obtain⟨css,SG,SH,Vf⟩:=Wo;refine(I8 (fun g hg=>Rel.old r (cF w) g hg.1) SG Vf SH (cZ.cJ hQ2 fun g hg=>Rel.same r (cF w) hg.1) (fun x hx RG=>RG.2 hx) (fun x hx=>by have:=hqA x (List.mem_of_mem_drop hx);omega) (by omega)).mono fun e w4 he=>?_;obtain⟨rfl,Ot,css',Wv,hr5,XX⟩:=he;have hP2:jo w4 (Nw (fun g=>Cf w RR g∧(Value.slice ap' M.length cp').ownBlock≠some g) w' w4) (.slice ap' M.length cp') M.length ((qs.drop (cols+1)).map (· *(1 / q))):=⟨css',Wv,hr5,XX⟩
    refine⟨.tuple #[],_,(w'.heap.size,w4.heap.size)::RR,rfl,r.qg (fun x hx=>Rel.not r (cF w) (Uv x hx)) Ot,?_⟩;have hP3:fU w4 (Cf w ((w'.heap.size,w4.heap.size)::RR)) (Cf w ((w'.heap.size,w4.heap.size)::RR)) (.slice ap' M.length cp') ((qs.drop (cols+1)).map (· *(1 / q))):=
     hP2.read.cL (fun g hg=>(Uv g hg).cons) fun g hg=>by
      rcases hg with hg|hg
      ·exact hg.1.cons
      ·exact .inr ⟨by have:=r.cG;omega,_,_,aG,hg.1,hg.2⟩
    have hw4:dq w.heap.size w w4:=(hw.tr r.cU).tr (dq.grown Ot (fun g hg=>by
     rcases Uv g hg with h|⟨h,_⟩
     ·exact h.elim
     ·exact h) r.cG)
    have hsome:∃a,ap'=some a:=by
     rcases Wv.2 with⟨_,h9⟩|⟨g,cap,cur,e,_⟩
     ·omega
     ·injection e with e;exact⟨_,e⟩
    obtain⟨ag,rfl⟩:=hsome;clear hP VL hQ2 SG Vf Wv XX Ot hP2 r hw hpT Uv OW;generalize (w'.heap.size,w4.heap.size)::RR=SP at*
    conv=>whnf
    intro ρe we re;refine⟨_,rfl,hw4.tr re.cU,A,pv,hApv,.inl ⟨pv.length+j,_,by omega,by omega,by rw[Pp];exact h0,fun k h1 h2=>hz k h1 h2,rfl,⟨ag,_,_,rfl⟩,?_⟩⟩;rw[hqsd,Pp];exact(hP3.rel re (cF w) (cF w)).cL (fun g hg=>Cv.nw hg re) fun g hg=>Cv.nw hg re
   ·have h0:q=0:=by
     have h1:(rs q==0)=true:=by simpa using h0
     exact Rat.num_eq_zero.1 (bm.1 (eq_of_beq h1))
    conv=>whnf
    refine⟨((j+1:Nat):Int),wo,?_⟩;conv=>whnf
    intro ρ3 w5 r3
    refine⟨(j+1,On,w5),⟨Pt,hw.tr r3.cU,OW,dU.cJ Qp fun g hg=>Od OW r3 g hg,fun j x qs h1 h2=>⟨(Ql j x qs h1 h2).1.cJ fun g hg=>Od OW r3 g (hg.elim id id),(Ql j x qs h1 h2).2⟩,fun k h1 h2=>?_⟩,
     Sub.gn [] r3,by dsimp only;omega⟩
    by_cases hk:k=pv.length+j
    ·rw[hk,Pp,h0]
    ·exact hz k h1 (by dsimp only at h2;omega)
  ·have Pt:j=M.length-pv.length:=by
    have:=aH Pt;omega
   have Ps:∀k,pv.length<=k->k<M.length->dK A k cols=0:=fun k h1 h2=>hz k h1 (by omega);clear hz RT;conv=>whnf
   refine cH (cM (Φ:=fun _ w' v w2=>kC w2 FF w'.heap.size [(w'.heap.size,w2.heap.size)] v cols (List.replicate cols 0)) (fun O w' r=>EF cols w' (by omega)) ?_);rintro O wa vx wb r he hb hx;have hX:=hx.dF (S:=FF) (iv:=(wa.heap.size,wb.heap.size)::Oh) r.cG aG;have Qz:∀g,vx.ownBlock=some g->¬Cf w OX g:=fun g hg h=>by
    have h3:=Rel.old r (cF w) g (h.mono OW);rcases hx.new g hg with h4|⟨h4,_⟩
    ·exact h4
    ·omega
   have Of:∀g,Cf w OX g->wb.heap[g]? =w3.heap[g]? :=fun g hg=>by rw[he.block g (Rel.old r (cF w) g (hg.mono OW)),Od OW r g hg]
   replace Qp:=dU.cJ Qp Of;replace Ql:∀(j:Nat) x qs,rv'[j]? =some x->A[j]? =some qs->fU wb (Cf w OX) (Cf w OX) x qs∧qs.length=cols+1+M.length:=fun j x qs h1 h2=>⟨(Ql j x qs h1 h2).1.cJ fun g hg=>Of g (hg.elim id id),(Ql j x qs h1 h2).2⟩
   have hxB:∀g,vx.ownBlock=some g->w.heap.size<=g:=fun g hg=>by
    rcases hX.new g hg with h4|⟨h4,_⟩
    ·exact h4.elim
    ·exact h4
   replace hw:=hw.tr hb;replace OW:∀p,p∈OX->p∈(wa.heap.size,wb.heap.size)::Oh:=fun p hp=>aC _ (OW p hp);clear r he hb hx Of;generalize (wa.heap.size,wb.heap.size)::Oh=On at*
   obtain⟨ax,cx,rfl,-⟩:=hX.row.form;conv=>whnf
   refine⟨Nat×Iv×World,fun z=>⟨[(4,pP 0 0),(5,iZ cols),(6,.o (.s 1 0 M.length M.length)),(10,sV apv pv.length cpv),(14,sV ax cols cx),(87,sV apv pv.length cpv),(88,iZ pv.length),(89,iZ z.1)],
     [(1,.arr T.row rv'),(0,.box T.solved [.v (.slice none 0 0),.v (.slice none 0 0),.v (.slice none 0 0)])],2,z.2.1,z.2.2⟩,fun z=>pv.length-z.1,
    fun z=>z.1<=pv.length∧dq w.heap.size w z.2.2∧(∀p,p∈OX->p∈z.2.1)∧dU z.2.2 (Cf w OX) (.slice apv pv.length cpv) pv∧
     (∀(j:Nat) x qs,rv'[j]? =some x->A[j]? =some qs->fU z.2.2 (Cf w OX) (Cf w OX) x qs∧qs.length=cols+1+M.length)∧
     kC z.2.2 FF w.heap.size z.2.1 (.slice ax cols cx) cols (fD A pv cols z.1),?_,?_⟩
   ·intro O w' r
    exact⟨(0,On,w'),⟨by simp,hw.tr r.cU,OW,dU.cJ Qp fun g hg=>Od OW r g hg,fun j x qs h1 h2=>⟨(Ql j x qs h1 h2).1.cJ fun g hg=>Od OW r g (hg.elim id id),(Ql j x qs h1 h2).2⟩,hX.rel r (cF w)⟩,
     Sub.gn [] r⟩
   clear hw OW Qp Ql hX;rintro⟨i,PN,w5⟩ ⟨hi5,hw,OW,Qp,Ql,hX⟩;dsimp only at hi5 hw OW Qp Ql hX ⊢;conv=>whnf
   refine dN.mk ?_ ?_<;>intro OU
   ·have OU:i<pv.length:=by simpa using OU
    obtain⟨p,Sc⟩:∃p,pv[i]? =some p:=⟨_,aA OU⟩
    have hpd:pv.getD i 0=p:=by rw[List.getD,Sc];rfl
    have Vj:=Qq p (aD Sc);obtain⟨_,_,_,_,_,hpe,_,Rz⟩:=id Qp;injection hpe with Vk hpe2 Vl;subst Vk Vl;obtain⟨adp,rfl,kp1,kp2⟩:=Rz i (.int .i64 (p:Int)) (by rw[aM,Sc];rfl);obtain⟨xr,Sn⟩:∃x,rv'[i]? =some x:=⟨_,aA (by omega)⟩
    obtain⟨qs,WD⟩:∃x,A[i]? =some x:=⟨_,aA (by omega)⟩
    obtain⟨RX,SJ⟩:=Ql _ xr qs Sn WD;obtain⟨axr,cxr,hxe,hxc,-⟩:=RX.shape;rw[SJ]at hxe hxc;subst hxe;obtain⟨q,hq⟩:∃q,qs[cols]? =some q:=⟨_,aA (by omega)⟩
    have Pp:dK A i cols=q:=by
     have:A.getD i []=qs:=by rw[List.getD,WD];rfl
     rw[dK,this,List.getD,hq];rfl
    obtain⟨adq,cs,rfl,hF,hl⟩:=RX.load hq;obtain⟨b3,a3,n3,c3,b4,a4,n4,c4,rfl,hF⟩:=hF;conv=>whnf
    refine⟨adp,rfl,by omega,?_⟩;conv=>whnf
    refine⟨.int .i64 (p:Int),fun O w' r=>?_,?_⟩
    ·rw[aF,aZ,cI (w:=w5) (w2:=w') (by rw[dC];exact Od OW r _ kp1)];exact kp2
    conv=>whnf
    refine⟨by omega,?_⟩;conv=>whnf
    refine⟨.slice (some adq) (cols+1+M.length) cxr,by simpa using Sn,?_⟩;conv=>whnf
    refine⟨adq,rfl,by omega,?_⟩;conv=>whnf
    refine⟨[.bool b3,.slice a3 n3 c3,.bool b4,.slice a4 n4 c4],rfl,fun O w' r i x hx=>?_,?_⟩
    ·obtain⟨k1,k2⟩:=hl i x hx;rw[aF,cI (w:=w5) (w2:=w') (by rw[dC,dC];exact Od OW r _ k1)];exact k2
    conv=>whnf
    have Q3:∃g,ax=some ⟨g,0,none⟩:=by
     obtain⟨css,ho,_⟩:=hX.row;rcases ho.2 with⟨_,h0⟩|⟨g,cap,cur,e,_⟩
     ·omega
     ·injection e with e;exact⟨g,e⟩
    obtain⟨gx,rfl⟩:=Q3;refine⟨⟨gx,0,none⟩,rfl,by omega,?_⟩;conv=>whnf
    intro O w' r;obtain⟨_,Q3,h1,h2,h3,h4,h5⟩:=(hX.rel r (cF w)).store Vj (cZ.cL (cZ.cJ hF fun g hg=>Od OW r g hg) fun g hg=>⟨hg.mono OW,fun e=>Qz g e hg⟩) r (cF w);injection Q3 with Q3;injection Q3 with Q3;subst Q3;have Of:∀g,Cf w OX g->w'.heap[g]? =w5.heap[g]? :=fun g hg=>Od OW r g hg;replace Qp:=dU.cJ Qp Of;replace Ql:∀(j:Nat) x qs,rv'[j]? =some x->A[j]? =some qs->fU w' (Cf w OX) (Cf w OX) x qs∧qs.length=cols+1+M.length:=fun j x qs h1 h2=>⟨(Ql j x qs h1 h2).1.cJ fun g hg=>Of g (hg.elim id id),(Ql j x qs h1 h2).2⟩
    have hold:∀g,Cf w PN g->g<w'.heap.size:=Rel.old r (cF w);replace hw:=hw.tr r.cU;clear r hX RX hF hl Of kp1 kp2 Rz;refine⟨h1,h2,h3,fun w2 Oz=>?_⟩;obtain⟨hX,Ot,-⟩:=h5 w2 Oz;replace hw:dq w.heap.size w w2:=hw.tr (dq.grown Ot (fun g hg=>by injection hg with hg;subst hg;exact hxB gx rfl) (by have:=hw.size;omega));have Of:∀g,Cf w OX g->w2.heap[g]? =w'.heap[g]? :=fun g hg=>Ot.block g (hold g (hg.mono OW)) fun e=>by injection e with e;subst e;exact Qz _ rfl hg
    replace Qp:=dU.cJ Qp Of;replace Ql:∀(j:Nat) x qs,rv'[j]? =some x->A[j]? =some qs->fU w2 (Cf w OX) (Cf w OX) x qs∧qs.length=cols+1+M.length:=fun j x qs h1 h2=>⟨(Ql j x qs h1 h2).1.cJ fun g hg=>Of g (hg.elim id id),(Ql j x qs h1 h2).2⟩
    clear h1 h2 h3 h4 h5 Oz Ot hold Of;rw[<-Pp,<-hpd,<-gJ]at hX;conv=>whnf
    refine⟨((i+1:Nat):Int),wo,?_⟩;conv=>whnf
    intro ρ3 w6 r3
    exact⟨(i+1,PN,w6),⟨OU,hw.tr r3.cU,OW,dU.cJ Qp fun g hg=>Od OW r3 g hg,fun j x qs h1 h2=>⟨(Ql j x qs h1 h2).1.cJ fun g hg=>Od OW r3 g (hg.elim id id),(Ql j x qs h1 h2).2⟩,hX.rel r3 (cF w)⟩,
     Sub.gn [] r3,by dsimp only;omega⟩
   ·have OU:i=pv.length:=by
     have:¬i<pv.length:=by simpa using OU
     omega
    subst OU;have hxR:=hX.read;clear hX;conv=>whnf
    refine gN (Φ:=fun O w' v w2=>fg w2 (Nw (fun g=>Cf w OX g∨g=(O 1).g) w' w2) v (dP A pv cols cols)) (H':=[(0,.box T.solved [.v (.slice none 0 0),.v (.slice none 0 0),.v (.slice none 0 0)])]) 1 rfl (by simp) ⟨rfl,trivial⟩ rfl (fun O w' r=>r.nn 1 _ rfl (by intros;simp) (by simp)) (fun O w' r=>?_) ?_
    ·have Oa:=r.low 1 _ rfl (r.nn 1 _ rfl (by intros;simp) (by simp))
     have ha:=r.Lz (id:=1) (sz:=1) (n:=M.length) rfl (by rw[UJ,aZ]) (by unfold maxLen;omega) (fun u hu=>by
      obtain⟨i,hi⟩:=aN hu;obtain⟨a,cc,e,_⟩:=((Ql i u _ hi (aA (by rw[TY,<-UJ];exact(aE.1 hi).1))).1).shape;rw[e]
      rfl)
     refine MM (n:=cols+1+M.length) (fun g hg=>?_) (⟨rv',?_,by rw[UJ,TY],fun i x qs h1 h2=>?_⟩:fg w' _ _ A) (dU.cL (dU.cJ Qp fun g hg=>Od OW r g hg) fun g hg=>.inl hg) (fun rr hrr=>?_) (by omega) (by omega) (by omega) (by omega) Qq
     ·rcases hg with hg|rfl
      ·exact Rel.old r (cF w) g (hg.mono OW)
      ·exact Oa.2
     ·rw[TY];exact ha.cL fun g hg=>.inr hg
     ·exact((Ql i x qs h1 h2).1.cJ fun g hg=>Od OW r g (hg.elim id id)).cL (fun g hg=>.inl hg) fun g hg=>.inl hg
     ·obtain⟨i,hi⟩:=aN hrr;have hil:=(aE.1 hi).1;exact(Ql i rv'[i] rr (aA (by omega)) hi).2
    rintro O wa vk wb r he hb hkR;have Oa:=r.low 1 _ rfl (r.nn 1 _ rfl (by intros;simp) (by simp));have TG:fg wb (Cf w (((O 1).g,(O 1).g+1)::(wa.heap.size,wb.heap.size)::PN)) vk (dP A pv cols cols):=fg.cL hkR fun g hg=>by
     rcases hg with(hg|rfl)|hg
     ·exact(hg.mono OW).cons.cons
     ·exact .inr ⟨Oa.1,_,_,aG,by omega,by omega⟩
     ·exact .inr ⟨by have:=r.cG;omega,_,_,aC _ aG,hg.1,hg.2⟩
    have RG:fU wb (Cf w (((O 1).g,(O 1).g+1)::(wa.heap.size,wb.heap.size)::PN)) (Cf w (((O 1).g,(O 1).g+1)::(wa.heap.size,wb.heap.size)::PN)) (.slice ax cols cx) (fD A pv cols pv.length):=
     (hxR.cJ fun g hg=>by rw[he.block g (Rel.old r (cF w) g (hg.elim id id)),Rel.same r (cF w) (hg.elim id id)]).cL (fun g hg=>hg.cons.cons) fun g hg=>hg.cons.cons
    replace hw:=hw.tr hb;clear r he hb hkR hxR Ql Qp Oa;generalize ((O 1).g,(O 1).g+1)::(wa.heap.size,wb.heap.size)::PN=RI at*
    obtain⟨ak,ck,rfl,-⟩:=cd.shape TG;conv=>whnf
    exact rtn hw fun ρe we re=>⟨A,pv,hApv,.inr ⟨_,_,Ps,rfl,(RG.rel re (cF w) (cF w)).cL (fun g hg=>Cv.nw hg re) (fun g hg=>Cv.nw hg re),fg.out TG re (cF w)⟩⟩
def iz(w:World)(S:Nat->Prop)(cs:List Value)(q:Rat):Prop:=∃b a n c b2 a2 n2 c2,cs=[.bool b,.slice a n c,.bool b2,.slice a2 n2 c2]∧dA w S (.agg #[.bool b,.slice a n c,.bool b2,.slice a2 n2 c2]) q
abbrev cO:=dO iz
abbrev cV:=cd cO
section
variable{S S':Nat->Prop}{H:Hp}{nx:Nat}{iv iv':Iv}{B:Nat}{w w' w2:World}{O:Nat->Sx.dw}{v:Value}{qs:List Rat}{cs:List Value}{q:Rat}
theorem iz.cJ(h:iz w S cs q)(hk:∀g,S g->w2.heap[g]? =w.heap[g]?):iz w2 S cs q:=by
 obtain⟨b,a,n,c,b2,a2,n2,c2,h1,h2⟩:=h;exact⟨b,a,n,c,b2,a2,n2,c2,h1,h2.cJ hk⟩
theorem iz.cL(h:iz w S cs q)(hk:∀g,S g->S' g):iz w S' cs q:=by
 obtain⟨b,a,n,c,b2,a2,n2,c2,h1,h2⟩:=h;exact⟨b,a,n,c,b2,a2,n2,c2,h1,h2.cL hk⟩
theorem cO.cJ(h:cO w S v qs)(hk:∀g,S g->w2.heap[g]? =w.heap[g]?):cO w2 S v qs:=by
 obtain⟨css,h1,h2,h3,h4⟩:=h;exact⟨css,h1.cJ hk,h2,h3,fun j cs x k1 k2=>(h4 j cs x k1 k2).cJ hk⟩
theorem cO.cL(h:cO w S v qs)(hk:∀g,S g->S' g):cO w S' v qs:=by
 obtain⟨css,h1,h2,h3,h4⟩:=h;exact⟨css,h1.cL hk,h2,h3,fun j cs x k1 k2=>(h4 j cs x k1 k2).cL hk⟩
theorem cV.cJ(h:cV w S v M)(hk:∀g,S g->w2.heap[g]? =w.heap[g]?):cV w2 S v M:=by
 obtain⟨rv,h1,h2,h3⟩:=h;exact⟨rv,h1.cJ hk,h2,fun i u x k1 k2=>cO.cJ (h3 i u x k1 k2) hk⟩
theorem cV.cL(h:cV w S v M)(hk:∀g,S g->S' g):cV w S' v M:=by
 obtain⟨rv,h1,h2,h3⟩:=h;exact⟨rv,h1.cL hk,h2,fun i u x k1 k2=>cO.cL (h3 i u x k1 k2) hk⟩
end
section
variable{S S':Nat->Prop}{H:Hp}{nx:Nat}{iv iv':Iv}{B:Nat}{w w' w2:World}{O:Nat->Sx.dw}{v:Value}{qs:List Rat}
theorem cO.rel(h:cO w (Cv S B iv) v qs)(r:Rel H nx iv B w O w')(hS:∀g,S g->g<B):cO w' (Cv S B iv) v qs:=cO.cJ h fun _ hg=>Rel.same r hS hg
theorem cO.cK(h:cO w (Cv S B iv) v qs)(r:Rel H nx iv B w O w')(hS:∀g,S g->g<B)(he:Ext w' w2)(hm:∀p,p∈iv->p∈iv'):cO w2 (Cv S B iv') v qs:=
 cO.cL (cO.cJ (cO.rel h r hS) fun g hg=>he.block g (Rel.old r hS g hg)) fun _ hg=>hg.mono hm
theorem cO.dF(h:cO w2 (Nf w' w2) v qs)(hB:B<=w'.heap.size)(hm:(w'.heap.size,w2.heap.size)∈iv):cO w2 (Cv S B iv) v qs:=cO.cL h fun _ hg=>hg.dF hB hm
theorem cO.out{w0 w1:World}(h:cO w1 (Cv S w0.heap.size iv) v qs)(r:Rel H nx iv w0.heap.size w1 O w')(hS:Old S w0):cO w' (Nw S w0 w') v qs:=
 cO.cL (cO.rel h r hS) fun _ hg=>Cv.nw hg r
end
section
variable{S S':Nat->Prop}{H:Hp}{nx:Nat}{iv iv':Iv}{B:Nat}{w w' w2:World}{O:Nat->Sx.dw}{v:Value}{M:List (List Rat)}
theorem cV.rel(h:cV w (Cv S B iv) v M)(r:Rel H nx iv B w O w')(hS:∀g,S g->g<B):cV w' (Cv S B iv) v M:=cV.cJ h fun _ hg=>Rel.same r hS hg
theorem cV.cK(h:cV w (Cv S B iv) v M)(r:Rel H nx iv B w O w')(hS:∀g,S g->g<B)(he:Ext w' w2)(hm:∀p,p∈iv->p∈iv'):cV w2 (Cv S B iv') v M:=
 cV.cL (cV.cJ (cV.rel h r hS) fun g hg=>he.block g (Rel.old r hS g hg)) fun _ hg=>hg.mono hm
theorem cV.dF(h:cV w2 (Nf w' w2) v M)(hB:B<=w'.heap.size)(hm:(w'.heap.size,w2.heap.size)∈iv):cV w2 (Cv S B iv) v M:=cV.cL h fun _ hg=>hg.dF hB hm
theorem cV.old(h:cV w2 (Nw (Cv S B iv) w' w2) v M)(hB:B<=w'.heap.size):cV w2 (Cv S B ((w'.heap.size,w2.heap.size)::iv)) v M:=cV.cL h fun _ hg=>Nw.cv hg hB
theorem cV.out{w0 w1:World}(h:cV w1 (Cv S w0.heap.size iv) v M)(r:Rel H nx iv w0.heap.size w1 O w')(hS:Old S w0):cV w' (Nw S w0 w') v M:=
 cV.cL (cV.rel h r hS) fun _ hg=>Cv.nw hg r
end
theorem wU(hS:Old S w)(h:fU w S S v qs)(hl:qs.length<=1000000)(hq:∀q∈qs,rl q<=10000000000):
  eG PG N.qN #[v] w (eL w fun v' w2=>cO w2 (Nf w w2) v' qs):=by
 obtain⟨a,c,rfl,hc,-⟩:=h.shape;refine uZ (by simp) ?_;conv=>whnf
 refine⟨List (List Value)×Iv×World,fun z=>⟨[(3,.o (.w 0 z.1.length)),(6,sV a qs.length c),(7,iZ qs.length),(8,iZ z.1.length)],[(0,.vec T.Rat 4 z.1.flatten)],1,z.2.1,z.2.2⟩,fun z=>qs.length-z.1.length,
  fun z=>z.1.length<=qs.length∧dq w.heap.size w z.2.2∧(∀cs∈z.1,cs.length=4)∧(∀cs∈z.1,∀u∈cs,u.oneCell'=true)∧∀(j:Nat) cs q,z.1[j]? =some cs->qs[j]? =some q->iz z.2.2 (Cf w z.2.1) cs q,?_,?_⟩
 ·intro O w' r
  exact⟨([],[],w'),⟨by simp,r.cU,by simp,by simp,by simp⟩,Sub.nil 3 T.Rat 4 rfl (by simp[kF,SV.sc,At.sc,fm]) r fun ρ1 r1=>
   Sub.gn [] r1⟩
 rintro⟨css,iv,w1⟩ ⟨hi,hw,h4,h1,Pp⟩;dsimp only at hi hw h4 h1 Pp ⊢;have PA:=ei h4;have hR:fU w1 S S (.slice a qs.length c) qs:=h.cJ fun g hg=>hw.block g (hg.elim (hS g) (hS g));conv=>whnf
 refine dN.mk ?_ ?_<;>intro hb
 ·have hb:css.length<qs.length:=by simpa using hb
  obtain⟨q,Rr⟩:∃q,qs[css.length]? =some q:=⟨_,aA hb⟩
  obtain⟨ad,cs,rfl,hF,QA⟩:=hR.load Rr;obtain⟨b3,a3,n3,c3,b4,a4,n4,c4,rfl,hF⟩:=hF;have Pm:=hq q (aD Rr);conv=>whnf
  refine⟨ad,rfl,by omega,?_⟩;conv=>whnf
  refine⟨[.bool b3,.slice a3 n3 c3,.bool b4,.slice a4 n4 c4],rfl,fun O w' r i x hx=>?_,?_⟩
  ·obtain⟨k1,k2⟩:=QA i x hx;rw[aF,cI (w:=w1) (w2:=w') (by rw[dC,dC];exact Rel.same (S:=S) r hS (.inl k1))];exact k2
  conv=>whnf
  refine cH (cM (Φ:=fun _ w' v w2=>dA w2 (Nf w' w2) v q) (fun O w' r=>rO (oS hS r) (cZ.cJ hF fun g hg=>Rel.same (S:=S) r hS (.inl hg)) (by omega)) ?_);rintro O wa v1 wb r he QW hO;have QV:=hO.dF (S:=FF) r.cG (iv:=(wa.heap.size,wb.heap.size)::iv) aG;replace Pp:∀(j:Nat) cs q,css[j]? =some cs->qs[j]? =some q->iz wb (Cf w ((wa.heap.size,wb.heap.size)::iv)) cs q:=fun j cs q k1 k2=>
   ((Pp j cs q k1 k2).cJ fun g hg=>by exact(he.block g (Rel.old r (cF w) g hg)).trans (Rel.same r (cF w) hg)).cL fun g hg=>hg.cons
  replace hw:=hw.tr QW;clear r he QW hO hR hF QA;generalize (wa.heap.size,wb.heap.size)::iv=OX at*
  obtain⟨b5,a5,n5,c5,b6,a6,n6,c6,rfl⟩:=QV.shape;conv=>whnf
  refine .inl ?_;conv=>whnf
  refine⟨PA,by omega,by unfold maxLen;omega,?_⟩;conv=>whnf
  refine⟨((css.length+1:Nat):Int),wo,?_⟩;conv=>whnf
  intro ρ3 w3 r3;have QL:(css++[[Value.bool b5,.slice a5 n5 c5,.bool b6,.slice a6 n6 c6]]).length=css.length+1:=by simp
  have Wy:(css++[[Value.bool b5,.slice a5 n5 c5,.bool b6,.slice a6 n6 c6]]).flatten=css.flatten++[Value.bool b5,.slice a5 n5 c5,.bool b6,.slice a6 n6 c6]:=by simp
  refine⟨(css++[[.bool b5,.slice a5 n5 c5,.bool b6,.slice a6 n6 c6]],OX,w3),⟨by dsimp only;rw[QL];exact hb,hw.tr r3.cU,fun cs hc=>?_,fun cs hc u hu=>?_,fun j cs p k1 k2=>?_⟩,
   Sub.gn [(0,3)] r3 ⟨by dsimp only;rw[Wy];rfl,trivial⟩ ⟨by dsimp only;rw[QL];rfl,rfl,rfl,by dsimp only;rw[QL];rfl,trivial⟩,by dsimp only;rw[QL];omega⟩
  ·rcases bE.1 hc with hc|hc
   ·exact h4 cs hc
   ·simp at hc;subst hc;rfl
  ·rcases bE.1 hc with hc|hc
   ·exact h1 cs hc u hu
   ·simp at hc;subst hc;simp at hu;rcases hu with rfl|rfl|rfl|rfl<;>rfl
  ·rcases aS j css.length with hj|hj
   ·rw[aK hj]at k1;exact(Pp j cs p k1 k2).cJ fun g hg=>Rel.same r3 (cF w) hg
   ·have VF:j=css.length:=by have:=(aE.1 k1).1;rw[QL]at this;omega
    subst VF;rw[aO (Nat.le_refl _),bK]at k1;simp at k1;rw[Rr]at k2;injection k2 with k2;subst k1 k2;exact⟨b5,a5,n5,c5,b6,a6,n6,c6,rfl,QV.rel r3 (cF w)⟩
 ·have hb:css.length=qs.length:=by
   have:¬css.length<qs.length:=by simpa using hb
   omega
  conv=>whnf
  intro ρe we re;refine⟨_,rfl,hw.tr re.cU,css,?_,hb,h4,fun j cs q k1 k2=>((Pp j cs q k1 k2).cJ fun g hg=>Rel.same re (cF w) hg).cL fun g hg=>Cv.nw hg re⟩
  have:=re.iD (id:=0) (sz:=4) (m:=css.length) rfl PA (by unfold maxLen;omega) (by decide) (fun u hu=>by
   obtain⟨cs,hc,hu⟩:=List.mem_flatten.1 hu
   exact h1 cs hc u hu)
  rw[<-hb];exact this.cL fun g hg=>.inr hg
theorem Ng(hS:Old S w)(h:fg w S v M)(hl:M.length<=1000000)(hn:n<=1000000)(OV:∀r∈M,r.length=n)(hq:∀r∈M,∀q∈r,rl q<=10000000000):
  eG PG N.xP #[v] w (eL w fun v' w2=>cV w2 (Nf w w2) v' M):=by
 obtain⟨a,c,rfl,hc,-⟩:=cd.shape h;refine Ac (by simp) ?_;conv=>whnf
 refine⟨List Value×Iv×World,fun z=>⟨[(3,.o (.w 0 z.1.length)),(6,sV a M.length c),(7,iZ M.length),(8,iZ z.1.length)],[(0,.vec T.iQ 1 z.1)],1,z.2.1,z.2.2⟩,fun z=>M.length-z.1.length,
  fun z=>z.1.length<=M.length∧dq w.heap.size w z.2.2∧(∀u∈z.1,u.oneCell'=true)∧∀(j:Nat) u qs,z.1[j]? =some u->M[j]? =some qs->cO z.2.2 (Cf w z.2.1) u qs,?_,?_⟩
 ·intro O w' r
  exact⟨([],[],w'),⟨by simp,r.cU,by simp,by simp⟩,Sub.nil 3 T.iQ 1 rfl (by simp[kF,SV.sc,At.sc,fm]) r fun ρ1 r1=>
   Sub.gn [] r1⟩
 rintro⟨rv,iv,w1⟩ ⟨hi,hw,h1,Pp⟩;dsimp only at hi hw h1 Pp ⊢;have hR:fg w1 S (.slice a M.length c) M:=fg.cJ h fun g hg=>hw.block g (hS g hg);conv=>whnf
 refine dN.mk ?_ ?_<;>intro hb
 ·have hb:rv.length<M.length:=by simpa using hb
  obtain⟨qs,Rr⟩:∃q,M[rv.length]? =some q:=⟨_,aA hb⟩
  obtain⟨ad,u,rfl,RX,k1,k2⟩:=cd.load hR Rr;obtain⟨au,cu,rfl⟩:=cd.rowOf RX;have SJ:=OV qs (aD Rr);conv=>whnf
  refine⟨ad,rfl,by omega,?_⟩;conv=>whnf
  refine⟨.slice au qs.length cu,fun O w' r=>?_,?_⟩
  ·rw[aF,cI (w:=w1) (w2:=w') (by rw[dC];exact Rel.same (S:=S) r hS (.inl k1))];exact k2
  conv=>whnf
  refine cH (cM (Φ:=fun _ w' v w2=>cO w2 (Nf w' w2) v qs) (fun O w' r=>wU (oS hS r) (RX.cJ fun g hg=>Rel.same (S:=S) r hS (.inl (hg.elim id id))) (by omega) (hq qs (aD Rr))) ?_);rintro O wa v1 wb r he QW hO;have QV:=cO.dF (S:=FF) hO r.cG (iv:=(wa.heap.size,wb.heap.size)::iv) aG;replace Pp:∀(j:Nat) u qs,rv[j]? =some u->M[j]? =some qs->cO wb (Cf w ((wa.heap.size,wb.heap.size)::iv)) u qs:=fun j u qs k1 k2=>
   cO.cL (cO.cJ (Pp j u qs k1 k2) fun g hg=>(he.block g (Rel.old r (cF w) g hg)).trans (Rel.same r (cF w) hg)) fun g hg=>hg.cons
  replace hw:=hw.tr QW;clear r he QW hO hR RX k1 k2;generalize (wa.heap.size,wb.heap.size)::iv=OX at*
  obtain⟨a5,c5,rfl,-,-⟩:=dO.shape QV;conv=>whnf
  refine .inl ?_;conv=>whnf
  refine⟨by simp,by omega,by unfold maxLen;omega,?_⟩;conv=>whnf
  refine⟨((rv.length+1:Nat):Int),wo,?_⟩;conv=>whnf
  intro ρ3 w3 r3;have QL:(rv++[Value.slice a5 qs.length c5]).length=rv.length+1:=by simp
  refine⟨(rv++[.slice a5 qs.length c5],OX,w3),⟨by dsimp only;rw[QL];exact hb,hw.tr r3.cU,fun u hu=>?_,fun j u p k1 k2=>?_⟩,
   Sub.gn [(0,2)] r3 (hE:=⟨by dsimp only;rw[QL];rfl,rfl,rfl,by dsimp only;rw[QL];rfl,trivial⟩),by dsimp only;rw[QL];omega⟩
  ·rcases bE.1 hu with hu|hu
   ·exact h1 u hu
   ·simp at hu;subst hu;rfl
  ·rcases aS j rv.length with hj|hj
   ·rw[aK hj]at k1;exact cO.cJ (Pp j u p k1 k2) fun g hg=>Rel.same r3 (cF w) hg
   ·have VF:j=rv.length:=by have:=(aE.1 k1).1;rw[QL]at this;omega
    subst VF;rw[aO (Nat.le_refl _),bK]at k1;simp at k1;rw[Rr]at k2;injection k2 with k2;subst k1 k2;exact cO.rel QV r3 (cF w)
 ·have hb:rv.length=M.length:=by
   have:¬rv.length<M.length:=by simpa using hb
   omega
  conv=>whnf
  intro ρe we re;refine⟨_,rfl,hw.tr re.cU,rv,?_,hb,fun j u qs k1 k2=>cO.cL (cO.cJ (Pp j u qs k1 k2) fun g hg=>Rel.same re (cF w) hg) fun g hg=>Cv.nw hg re⟩;have:=re.iD (id:=0) (sz:=1) (m:=rv.length) rfl (by simp) (by unfold maxLen;omega) (by decide) h1;rw[<-hb];exact this.cL fun g hg=>.inr hg
theorem nt(w:World)(t e:TypeId)(a:Option Addr)(n c n' c':Nat)(h:PG.underlying t=some (.slice e)):
  (binOp .neq t (.slice a n c) (.slice none n' c')).run PG w= .ok (.bool a.isSome) w:=by
 have:∀d,(Op.equalIn (d+1) t (.slice a n c) (.slice none n' c')).run PG w= .ok a.isNone w:=fun d=>by cases a<;>simp[Op.equalIn,run_underlying h]
 simp only[binOp]
 cases a<;>simp[Op.equal,Op.maxDepth,this 9999]
theorem aAU(h:∀x∈l,P x)(hq:P q):∀x∈l.set i q,P x:=fun x hx=>by
 rcases av hx with h1|h1
 ·exact h x h1
 ·rw[h1];exact hq
theorem H8(H:Ht A h)(h2:2<=h)(i c:Nat):rl (dK A i c)+1<=h:=by
 unfold dK
 cases hA:A[i]? with
 |none=>
  have:A.getD i []=[]:=by rw[List.getD,hA];rfl
  rw[this];show rl 0+1<=h;exact aX (by decide) h2
 |some r=>
  have:A.getD i []=r:=by rw[List.getD,hA];rfl
  rw[this];exact lD (H.at hA) h2 c
theorem Jp(H:Ht A h)(h2:2<=h)(pv:List Nat)(cols i:Nat):∀x∈fD A pv cols i,rl x+1<=h:=by
 induction i with
 |zero=>intro x hx;simp[fD]at hx;rw[hx.2];exact aX (by decide) h2
 |succ i ih=>rw[gJ];exact aAU ih (H8 H h2 _ _)
theorem j4(A:List (List Rat))(pv:List Nat)(cols i:Nat):(fD A pv cols i).length=cols:=by
 induction i with
 |zero=>simp[fD]
 |succ i ih=>rw[gJ,bM,ih]
theorem Jq(H:Ht A h)(h2:2<=h)(pv:List Nat)(cols c i:Nat):∀x∈fo A pv cols c i,rl x+1<=h:=by
 induction i with
 |zero=>
  unfold fo;refine aAU (fun x hx=>?_) (aX (by decide) h2);rw[bJ hx];exact aX (by decide) h2
 |succ i ih=>rw[gI];exact aAU ih (by rw[oZ];exact H8 H h2 _ _)
theorem GH(H:Ht A h)(h2:2<=h)(pv:List Nat)(cols c:Nat):∀r∈dP A pv cols c,r.length=cols∧∀x∈r,rl x+1<=h:=fun r hr=>by
 unfold dP at hr;obtain⟨c',_,rfl⟩:=aV.1 hr;exact⟨j3 _ _ _ _ _,Jq H h2 _ _ _ _⟩
theorem xX(A:List (List Rat))(pv:List Nat)(cols c:Nat):(dP A pv cols c).length<=c:=by
 unfold dP;rw[aL];exact aX (List.length_filter_le _ _) (by simp)
def BF(M:List (List (Int×Int)))(b:List (Int×Int)):Nat:=if rb M≠0 then rb M else if b.length≠M.length then 11 else 0
def aAV(M:List (List (Int×Int)))(b:List (Int×Int))(w w2:World)(s:Value):Prop:=∃A pv,(A,pv)=cN (fH (kH M) (b.map ec)) (dg M)∧
 ((∃j vp,pv.length<=j∧j<M.length∧dK A j (dg M)≠0∧(∀k,pv.length<=k->k<j->dK A k (dg M)=0)∧s= .agg #[.int .i64 1,.slice none 0 0,.slice none 0 0,vp]∧
   cO w2 (Nf w w2) vp (((A.getD j []).drop (dg M+1)).map (· *(1 / dK A j (dg M)))))∨
  (∃vx vk,(∀k,pv.length<=k->k<M.length->dK A k (dg M)=0)∧s= .agg #[.int .i64 0,vx,vk,.slice none 0 0]∧cO w2 (Nf w w2) vx (fD A pv (dg M) pv.length)∧
   cV w2 (Nf w w2) vk (dP A pv (dg M) (dg M))))
theorem H0{M:List (List (Int×Int))}(hS:Old S w)(h:eI w S v M)(hu:eP w S u b)(hf:BF M b=0->(∀r∈M,Few r)∧Few b∧Ht (fH (kH M) (b.map ec)) h0∧2<=h0∧4^M.length*h0<=500000000):
  eG PG N.qH #[v,u] w (eL w fun v' w2=>(BF M b≠0∧v'= .tuple #[.agg #[.int .i64 0,.slice none 0 0,.slice none 0 0,.slice none 0 0],.int .i64 (BF M b)])∨
   (BF M b=0∧∃s,v'= .tuple #[s,.int .i64 0]∧aAV M b w w2 s)):=by
 replace h:=eI.arg h [];replace hu:=eP.arg hu [];obtain⟨am,cm,rfl,Rt,-⟩:=cd.shape h;obtain⟨ab,cb,rfl,QT,-⟩:=dO.shape hu;refine AT (by simp) ?_;conv=>whnf
 refine cH (cM (Φ:=fun _ _ v _=>v= .int .i64 ((BF M b:Nat):Int)) (fun O w' r=>Bg (Rel.old r hS) (eI.rel h r hS) (eP.rel hu r hS)) ?_);rintro O wa v1 wb r he hw rfl;replace h:=eI.cK (iv':=(wa.heap.size,wb.heap.size)::[]) h r hS he fun x hx=>aC _ hx;replace hu:=eP.cK (iv':=(wa.heap.size,wb.heap.size)::[]) hu r hS he fun x hx=>aC _ hx;clear r he;generalize (wa.heap.size,wb.heap.size)::[]=iv at*
 conv=>whnf
 refine dN.mk (fun h0'=>?_) (fun h0'=>?_)
 ·have h0':BF M b≠0:=fun e=>by rw[e]at h0';simp at h0'
  conv=>whnf
  exact rtn hw fun ρe we re=>.inl ⟨h0',rfl⟩
 have h0':BF M b=0:=by
  have h4:((BF M b:Int)==0)=true:=by simpa using h0'
  have:=eq_of_beq h4;omega
 obtain⟨hf1,hf2,VV,h2,Ow⟩:=hf h0';have hE:rb M=0∧b.length=M.length:=by
  unfold BF at h0';split at h0'
  ·rename_i h3;exact absurd h0' h3
  ·split at h0'
   ·cases h0'
   ·rename_i h3 h4;exact⟨by omega,by omega⟩
 have PB:(∀r∈M,r.length=dg M)∧M.length<=60∧dg M<=60:=by
  have h3:=hE.1;unfold rb at h3;split at h3
  ·rename_i h4;split at h3
   ·cases h3
   ·exact⟨h4,by omega,by omega⟩
  ·cases h3
 obtain⟨OV,hRl,Pf⟩:=PB;conv=>whnf
 refine cH (cM (Φ:=fun _ w' v' w2=>∃A pv,(A,pv)=cN (fH (kH M) (b.map ec)) (dg M)∧
   ((∃j vp,pv.length<=j∧j<M.length∧dK A j (dg M)≠0∧(∀k,pv.length<=k->k<j->dK A k (dg M)=0)∧v'= .agg #[vp,.slice none 0 0,.slice none 0 0]∧(∃a n c,vp= .slice (some a) n c)∧
     fU w2 (Nf w' w2) (Nf w' w2) vp (((A.getD j []).drop (dg M+1)).map (· *(1 / dK A j (dg M)))))∨
    (∃vx vk,(∀k,pv.length<=k->k<M.length->dK A k (dg M)=0)∧v'= .agg #[.slice none 0 0,vx,vk]∧fU w2 (Nf w' w2) (Nf w' w2) vx (fD A pv (dg M) pv.length)∧
     fg w2 (Nf w' w2) vk (dP A pv (dg M) (dg M))))) (fun O w' r=>Nd (Rel.old r hS) (eI.rel h r hS) (eP.rel hu r hS) hf1 hf2 OV hE.2 (by omega) (by omega) VV h2 Ow) ?_)
 rintro O wc v1 wd r he hb ⟨A,pv,hA,hcase⟩;have hinv:=xC (cols:=dg M) VV h2;rw[<-hA]at hinv;obtain⟨TY,Pb,Qq,hAh⟩:=hinv;dsimp only at TY Pb Qq hAh;rw[kZ,aL]at TY Pb;have Ui:Ht A 500000000:=hAh.mono (aX (Nat.mul_le_mul_right _ (Nat.pow_le_pow_right (by decide) Pb)) Ow);replace hw:=hw.tr hb;rcases hcase with⟨j,vp,hj1,hj2,hj3,hj4,rfl,⟨ap,np,cp,rfl⟩,hP⟩|⟨vx,vk,hz,rfl,hX,hK⟩
 ·have Rh:fU wd (Cf w ((wc.heap.size,wd.heap.size)::iv)) (Cf w ((wc.heap.size,wd.heap.size)::iv)) (.slice (some ap) np cp) _:=hP.cL (fun g hg=>hg.dF r.cG aG) fun g hg=>hg.dF r.cG aG;clear r he hb hP h hu;generalize (wc.heap.size,wd.heap.size)::iv=OX at*
  obtain⟨_,_,hpe,-,hpm⟩:=Rh.shape;have hrj:∀x∈((A.getD j []).drop (dg M+1)).map (· *(1 / dK A j (dg M))),rl x<=10000000000:=fun x hx=>by
   obtain⟨y,hy,rfl⟩:=aV.1 hx;have h1:rl y+1<=500000000:=by
    cases hAj:A[j]? with
    |none=>
     have:A.getD j []=[]:=by rw[List.getD,hAj];rfl
     rw[this]at hy;simp at hy
    |some r=>
     have:A.getD j []=r:=by rw[List.getD,hAj];rfl
     rw[this]at hy;exact Ui.at hAj y (List.mem_of_mem_drop hy)
   have h2':=ic y (1 / dK A j (dg M));have h3:=zx hj3;have h4:=H8 Ui (by decide) j (dg M);omega
  have SA:(((A.getD j []).drop (dg M+1)).map (· *(1 / dK A j (dg M)))).length<=1000000:=by
   have hL0:gX (dg M+1+M.length) (fH (kH M) (b.map ec)):=fun r hr=>by
    obtain⟨i,hi⟩:=aN hr;simp only[fH,List.getElem?_mapIdx,Option.map_eq_some_iff,aM]at hi;obtain⟨r1,⟨r0,WX,rfl⟩,rfl⟩:=hi;have:=OV r0 (aD WX);simp[kY];omega
   have hL:=mL (cols:=dg M) hL0;rw[<-hA]at hL;rw[aL,List.length_drop,hL.getD (show j<A.length by omega)];omega
  conv=>whnf
  refine⟨true,fun O w1 o1 o2=>by simp[eqGuard,SV.den,At.den,nt w1 T.row T.dy (some ap) np cp 0 0 yd],?_⟩;conv=>whnf
  refine cH (cM (Φ:=fun _ w' v w2=>cO w2 (Nf w' w2) v (((A.getD j []).drop (dg M+1)).map (· *(1 / dK A j (dg M))))) (fun O w' r=>wU (Rel.old r (cF w)) (Rh.rel r (cF w) (cF w)) SA hrj) ?_);rintro O wa v1 wb r he hb hO;have QV:=cO.dF (S:=FF) hO r.cG (iv:=(wa.heap.size,wb.heap.size)::OX) aG;replace hw:=hw.tr hb;clear r he hb hO Rh;generalize (wa.heap.size,wb.heap.size)::OX=Oh at*
  obtain⟨a5,c5,rfl,-,-⟩:=dO.shape QV;conv=>whnf
  exact rtn hw fun ρe we re=>.inr ⟨h0',_,rfl,A,pv,hA,.inl ⟨j,_,hj1,hj2,hj3,hj4,rfl,cO.out QV re (cF w)⟩⟩
 ·have hXN:fU wd (Cf w ((wc.heap.size,wd.heap.size)::iv)) (Cf w ((wc.heap.size,wd.heap.size)::iv)) vx _:=hX.cL (fun g hg=>hg.dF r.cG aG) fun g hg=>hg.dF r.cG aG;have hKN:=fg.dF (S:=FF) hK r.cG (iv:=(wc.heap.size,wd.heap.size)::iv) aG;clear r he hb hX hK h hu;generalize (wc.heap.size,wd.heap.size)::iv=OX at*
  obtain⟨ax,cx,rfl,-,-⟩:=hXN.shape;obtain⟨ak,ck,rfl,-,-⟩:=cd.shape hKN;have QO:=j4 A pv (dg M) pv.length;have hxh:=Jp Ui (by decide) pv (dg M) pv.length;have hkh:=GH Ui (by decide) pv (dg M) (dg M);have Vz:=xX A pv (dg M) (dg M);conv=>whnf
  refine⟨false,fun O w1 o1 o2=>by simp[eqGuard,SV.den,At.den,nt w1 T.row T.dy none 0 0 0 0 yd],?_⟩;conv=>whnf
  refine cQ hτ dx [.x 0,.x 1,.x 3,.x 4,.x 2,.x 5,.x 6,.x 7,.x 8] (by kernel_rfl) (by kernel_rfl) ?_;conv=>whnf
  refine cM (Φ:=fun _ w' v w2=>cO w2 (Nf w' w2) v (fD A pv (dg M) pv.length)) (fun O w' r=>wU (Rel.old r (cF w)) (hXN.rel r (cF w) (cF w)) (by rw[QO];omega) (fun q hq=>by have:=hxh q hq;omega)) ?_;rintro O wa v1 wb r he hb hO;have QV:=cO.dF (S:=FF) hO r.cG (iv:=(wa.heap.size,wb.heap.size)::OX) aG;replace hKN:=fg.cK (iv':=(wa.heap.size,wb.heap.size)::OX) hKN r (cF w) he fun x hx=>aC _ hx;replace hw:=hw.tr hb;clear r he hb hO hXN;generalize (wa.heap.size,wb.heap.size)::OX=Oh at*
  obtain⟨a5,c5,rfl,-,-⟩:=dO.shape QV;conv=>whnf
  refine cM (Φ:=fun _ w' v w2=>cV w2 (Nf w' w2) v (dP A pv (dg M) (dg M))) (fun O w' r=>Ng (Rel.old r (cF w)) (fg.rel hKN r (cF w)) (by omega) (show dg M<=1000000 by omega) (fun r hr=>(hkh r hr).1) (fun r hr q hq=>by have:=(hkh r hr).2 q hq;omega)) ?_;rintro O wa v1 wb r he hb hO;have Rh:=cV.dF (S:=FF) hO r.cG (iv:=(wa.heap.size,wb.heap.size)::Oh) aG;replace QV:=cO.cK (iv':=(wa.heap.size,wb.heap.size)::Oh) QV r (cF w) he fun x hx=>aC _ hx;replace hw:=hw.tr hb;clear r he hb hO hKN;generalize (wa.heap.size,wb.heap.size)::Oh=On at*
  obtain⟨a6,c6,rfl,-,-⟩:=cd.shape Rh;conv=>whnf
  exact rtn hw fun ρe we re=>.inr ⟨h0',_,rfl,A,pv,hA,.inr ⟨_,_,hz,rfl,cO.out QV re (cF w),cV.out Rh re (cF w)⟩⟩
end Go.Ex
namespace Go.Ex
variable{ds l:List Nat}
def dW:List Int->Int
 |[]=>0
 |c::r=>c+65536*dW r
def up(k:Nat):Int:=65536^k
theorem DU(k:Nat):up (k+1)=65536*up k:=by rw[up,Int.pow_succ,Int.mul_comm];rfl
theorem LJ(k:Nat):0<up k:=Int.pow_pos (by decide)
theorem BW(a b:List Int):dW (a++b)=dW a+up a.length*dW b:=by
 induction a with
 |nil=>simp[dW,up]
 |cons c r ih=>rw[List.cons_append,dW,ih,dW,List.length_cons,DU,Int.mul_add,<-Int.mul_assoc];omega
theorem HA(a:List Int):dW (a.map (- ·))= -dW a:=by
 induction a with
 |nil=>rfl
 |cons c r ih=>rw[List.map_cons,dW,ih,dW];omega
def Dg(l:List Nat):Prop:=∀d∈l,d<65536
def mG(l:List Nat):Int:=dW (l.map fun d:Nat=>(d:Int))
theorem zy(h:Dg l):0<=mG l∧mG l<up l.length:=by
 induction l with
 |nil=>exact⟨Int.le_refl _,by decide⟩
 |cons d r ih=>
  have h1:=ih fun x hx=>h x (aC _ hx);have h2:=h d aG;have e:mG (d::r)=(d:Int)+65536*mG r:=rfl;rw[e,List.length_cons,DU];omega
def db:List Int->Int->List Nat×Int
 |[],k=>([],k)
 |c::r,k=>(((c+k) % 65536).toNat::(db r ((c+k) / 65536)).1,(db r ((c+k) / 65536)).2)
theorem lE:∀(cs:List Int) (k:Int),dW cs+k=mG (db cs k).1+up cs.length*(db cs k).2∧Dg (db cs k).1∧(db cs k).1.length=cs.length
 |[],k=>⟨by simp[dW,db,mG,up],by simp[db,Dg],rfl⟩
 |c::r,k=>by
  obtain⟨h1,h2,h3⟩:=lE r ((c+k) / 65536);have h4:0<=(c+k) % 65536:=Int.emod_nonneg _ (by decide);have h5:(c+k) % 65536<65536:=Int.emod_lt_of_pos _ (by decide);have h6:=Int.mul_ediv_add_emod (c+k) 65536;refine⟨?_,fun d hd=>?_,by simp[db,h3]⟩
  ·have e:mG (db (c::r) k).1=(((c+k) % 65536).toNat:Int)+65536*mG (db r ((c+k) / 65536)).1:=rfl;have e2:(db (c::r) k).2=(db r ((c+k) / 65536)).2:=rfl;rw[e,e2,dW,List.length_cons,DU,Int.mul_assoc];omega
  ·have e:(db (c::r) k).1=((c+k) % 65536).toNat::(db r ((c+k) / 65536)).1:=rfl;rw[e]at hd;rcases List.mem_cons.1 hd with rfl|hd
   ·omega
   ·exact h2 d hd
theorem DV(cs:List Int)(c k:Int):db (cs++[c]) k=((db cs k).1++[((c+(db cs k).2) % 65536).toNat],(c+(db cs k).2) / 65536):=by
 induction cs generalizing k with
 |nil=>rfl
 |cons d r ih=>simp only[List.cons_append,db,ih]
theorem kR:∀(cs:List Int) (k:Int),(∀c∈cs,-1152921504606846976<=c∧c<=1152921504606846976)-> -1152921504606846976<=k->k<=1152921504606846976-> -1152921504606846976<=(db cs k).2∧(db cs k).2<=1152921504606846976
 |[],k,_,h1,h2=>⟨h1,h2⟩
 |c::r,k,h,h1,h2=>by
  have hc:=h c aG;exact kR r _ (fun x hx=>h x (aC _ hx)) (by omega) (by omega)
def dM(n:Nat):List Nat:=if h:n=0 then []else n % 65536::dM (n / 65536)
termination_by n
decreasing_by omega
theorem lF:dM 0=[]:=by rw[dM];rfl
theorem qC{n:Nat}(h:0<n):dM n=n % 65536::dM (n / 65536):=by
 rw[dM,dif_neg (by omega)]
theorem lG(n:Nat):mG (dM n)=n∧Dg (dM n):=by
 induction n using Nat.strongRecOn with
 |_ n ih=>
  rcases bN n with h|h
  ·subst h;rw[lF];exact⟨rfl,by simp[Dg]⟩
  ·rw[qC h];obtain⟨h1,h2⟩:=ih (n / 65536) (by omega);refine⟨?_,fun d hd=>?_⟩
   ·have e:mG (n % 65536::dM (n / 65536))=((n % 65536:Nat):Int)+65536*mG (dM (n / 65536)):=rfl;rw[e,h1];omega
   ·rcases List.mem_cons.1 hd with rfl|hd
    ·omega
    ·exact h2 d hd
theorem jg{n:Nat}:∀{k:Nat},n<65536^k->(dM n).length<=k
 |0,h=>by
  have:n=0:=by simp at h;exact h
  subst this;rw[lF];simp
 |k+1,h=>by
  rcases bN n with h0|h0
  ·subst h0;rw[lF];simp
  ·rw[qC h0,List.length_cons];have:=jg (n:=n / 65536) (k:=k) (by rw[Nat.pow_succ]at h;exact Nat.div_lt_of_lt_mul (by rw[bT];exact h));omega
def iL:List Nat->List Nat
 |[]=>[]
 |[a]=>[a]
 |a::b::r=>(a+65536*b)::iL r
theorem zz:∀(l:List Nat),Dg l->(val (iL l):Int)=mG l∧Lm (iL l)∧(iL l).length=(l.length+1) / 2
 |[],_=>⟨rfl,by simp[iL,Lm],rfl⟩
 |[a],h=>by
  have:=h a (by simp);exact⟨by simp[iL,val,mG,dW],fun x hx=>by simp[iL]at hx;omega,by simp[iL]⟩
 |a::b::r,h=>by
  obtain⟨h1,h2,h3⟩:=zz r fun x hx=>h x (aC _ (aC _ hx));have ha:=h a (by simp);have hb:=h b (by simp);refine⟨?_,fun x hx=>?_,?_⟩
  ·have e:mG (a::b::r)=(a:Int)+65536*((b:Int)+65536*mG r):=rfl;rw[e,<-h1,iL,val];simp only[Int.natCast_add,Int.natCast_mul]
   omega
  ·rw[iL]at hx;rcases List.mem_cons.1 hx with rfl|hx
   ·omega
   ·exact h2 x hx
  ·rw[iL,List.length_cons,h3];simp only[List.length_cons]
   omega
def pk(ds:List Nat)(k:Nat):List Nat:=(List.range k).map fun i=>ds.getD (2*i) 0+65536*ds.getD (2*i+1) 0
theorem yZ(ds:List Nat)(k:Nat):pk ds (k+1)=pk ds k++[ds.getD (2*k) 0+65536*ds.getD (2*k+1) 0]:=by simp[pk,bS]
theorem vX(ds:List Nat)(k:Nat):(pk ds k).length=k:=by simp[pk]
theorem LK:∀(ds:List Nat),pk ds ((ds.length+1) / 2)=iL ds
 |[]=>rfl
 |[a]=>by simp[pk,iL,bS]
 |a::b::r=>by
  have ih:=LK r;have e:((a::b::r).length+1) / 2=(r.length+1) / 2+1:=by simp only[List.length_cons];omega
  rw[e,iL,<-ih,pk,List.range_succ_eq_map,List.map_cons,List.map_map,pk];congr 1
theorem LL(h:Dg ds)(k:Nat):Lm (pk ds k):=fun x hx=>by
 obtain⟨i,_,rfl⟩:=aV.1 hx;have key:∀j,ds.getD j 0<65536:=fun j=>by
  rw[List.getD]
  cases hj:ds[j]? with
  |none=>simp
  |some d=>simp;exact h d (aD hj)
 have h1:=key (2*i);have h2:=key (2*i+1);omega
end Go.Ex
namespace Go.Ex
open Go Go.Sx Go.Proofs
variable{cs:List Int}{S:Nat->Prop}{v:Value}{w:World}
def eD(w:World)(S:Nat->Prop)(v:Value)(cs:List Int):Prop:=iR w S 1 v (cs.map (Value.int .i64)) cs.length
theorem eD.cJ{w2:World}(h:eD w S v cs)(hk:∀g,S g->w2.heap[g]? =w.heap[g]?):eD w2 S v cs:=iR.cJ h hk
theorem eD.cL{S':Nat->Prop}(h:eD w S v cs)(hk:∀g,S g->S' g):eD w S' v cs:=iR.cL h hk
theorem eD.load{a:Option Addr}{n c j:Nat}{x:Int}(h:eD w S (.slice a n c) cs)(hx:cs[j]? =some x):∃ad,a=some ad∧S ad.block∧w.cell? (ad.add (j*1))=some (.int .i64 x):=by
 obtain⟨_,_,_,a',c',e,_,h4⟩:=h;injection e with e1 e2 e3;subst e1;obtain⟨ad,k1,k2,k3⟩:=h4 j (.int .i64 x) (by rw[aM,hx];rfl);exact⟨ad,k1,k2,by rw[aZ];exact k3⟩
theorem eD.shape(h:eD w S v cs):∃a c,v= .slice a cs.length c∧cs.length<=c:=by
 obtain⟨_,_,_,a',c',e,h3,_⟩:=h;exact⟨a',c',e,h3⟩
def eJ(ds:List Nat):List Int:=ds.map fun d:Nat=>(d:Int)
theorem fI(ds:List Nat):(eJ ds).length=ds.length:=by simp[eJ]
end Go.Ex
namespace Go.Sx
open Go Go.Ex Go.Proofs
variable{cs:List Value}{O:Nat->Sx.dw}
theorem Rel.EG{H:Hp}{nx:Nat}{iv:Iv}{B:Nat}{w w':World}(r:Rel H nx iv B w O w'){id t m sz:Nat}(h:dD H id=some (.vec t sz cs))(hm:cs.length=m*sz)(hs:0<sz):
  w'.ownsRow B t sz ((At.w id m).den O) m cs:=by
 rcases r.vec id t sz _ h with⟨hn,rfl⟩|⟨hn,spare,hb,hc,QS⟩
 ·have Sm:m=0:=by
   rcases bN m with h|h
   ·exact h
   ·have:=Nat.mul_pos h hs;simp at hm;omega
  subst Sm;have:(At.w id 0).den O= .slice none 0 0:=by simp[At.den,hn]
  rw[this];exact World.ownsRow_nil _ _ _ _
 ·have hv:(At.w id m).den O= .slice (some ⟨(O id).g,0,none⟩) m (O id).cap:=by simp[At.den,hn]
  have h1:(cs++spare).length=cs.length+spare.length:=List.length_append;rw[hv];refine⟨hm,.inr ⟨(O id).g,(O id).cap,_,rfl,(r.low id _ h hn).1,hb,?_,QS,by simpa using hc,?_⟩⟩
  ·have h2:m*sz<=(O id).cap*sz:=by omega
   exact bw h2 hs
  ·rw[<-hm];simp
end Go.Sx
namespace Go.Ex
open Go Go.Sx Go.Proofs
theorem GI(n:Nat)(w:World)(hn:n<=9223372036854775807):eG PG N.uR #[.int .i64 n] w (eL w fun v w2=>eD w2 (Nf w w2) v (eJ (dM n))):=by
 refine yH (by simp) ?_
 refine⟨Nat×List Nat×World,fun z=>⟨[(0,iZ z.1),(3,.o (.w 0 z.2.1.length))],[(0,.vec T.int 1 ((eJ z.2.1).map (Value.int .i64)))],1,[],z.2.2⟩,fun z=>z.1,
  fun z=>dq w.heap.size w z.2.2∧z.1<=n∧z.2.1.length<=n-z.1∧z.2.1++dM z.1=dM n,?_,?_⟩
 ·intro O w' r
  exact⟨(n,[],w'),⟨r.cU,Nat.le_refl _,by simp,by simp⟩,Sub.nil 3 T.int 1 rfl (by simp[kF,SV.sc,At.sc,fm]) r fun ρ1 r1=>
   Sub.gn [] r1⟩
 rintro⟨k,ds,w1⟩ ⟨hw,hk,hl,hs⟩;dsimp only at hw hk hl hs ⊢;have S3:=fI ds;refine dN.mk ?_ ?_<;>intro h
 ·have h:0<k:=by
   have:(k:Int)>0:=aI h;omega
  refine⟨by decide,((k % 65536:Nat):Int),MO k 65536,?_⟩;refine .inl ?_;refine⟨by simp[S3],?_,by have h1:=congrArg List.length hs;rw[List.length_append]at h1;have h2:=jg (n:=n) (k:=4) (by omega);unfold maxLen;omega,?_⟩
  ·have h1:=congrArg List.length hs;rw[List.length_append]at h1;have h2:=jg (n:=n) (k:=4) (by omega);omega
  refine⟨by decide,((k / 65536:Nat):Int),NY (by omega),?_⟩;intro ρ3 w3 r3;have Vi:(ds++[k % 65536]).length=ds.length+1:=by simp
  have TE:(eJ (ds++[k % 65536])).map (Value.int .i64)=(eJ ds).map (Value.int .i64)++[.int .i64 ((k % 65536:Nat):Int)]:=by simp[eJ]
  refine⟨(k / 65536,ds++[k % 65536],w3),⟨hw.tr r3.cU,by dsimp only;omega,by dsimp only;rw[Vi];omega,?_⟩,
   Sub.gn [(0,2)] r3 ⟨by rw[TE];rfl,trivial⟩ ⟨rfl,by dsimp only;rw[Vi];rfl,trivial⟩,by dsimp only;omega⟩
  dsimp only
  rw[<-hs,qC h];simp
 ·have h:k=0:=by
   have:¬(k:Int)>0:=aH h;omega
  subst h;rw[lF,List.append_nil]at hs;subst hs;intro ρe we re;refine⟨_,rfl,hw.tr re.cU,?_⟩;have:=re.iD (id:=0) (sz:=1) (m:=(dM n).length) rfl (by simp[S3]) (by have h2:=jg (n:=n) (k:=4) (by omega);unfold maxLen;omega) (by decide) (by intro u hu;simp at hu;obtain⟨_,_,rfl⟩:=hu;rfl);unfold eD;rw[S3];exact this.cL fun g hg=>.inr hg
end Go.Ex
